/- A part of the proof. No condition. -/
import Derived.Test.YtjfpbollnfeloaaGreatDoorMd1
import Derived.Test.YtjfpbollnfeloaaGreatDoorMd0
import Derived.RecoverIn
import Derived.OpenShut
import Derived.LaidLaws
import Derived.ChangeArms
import Derived.Lib.AtoiAll
import Derived.Lib.Bytealg
import Derived.Lib.ItoaNum
import Derived.Lib.Join
import Derived.WideKeyArgs
set_option maxRecDepth 100000
open List renaming getElem?_append_left→ja,getElem?_append_right→jc,getElem?_eq_some_iff→jd,mem_cons_self→jE,getElem?_eq_getElem→jh,length_map→jU,append_nil→jW,map_map→jF,mem_append→jG,mem_cons_of_mem→jH,getElem?_eq_none→jq,getElem?_map→jr,getElem?_cons_zero→jx,length_cons→jy,length_nil→jz,mem_map→jT
open Array renaming getElem?_eq_some_iff→je
open Int renaming natCast_zero→jV
open Option.some renaming injEq→jj
open Bool renaming and_eq_true→jk,false_eq_true→jl
open Nat renaming le_refl→jm,le_trans→jn,add_assoc→jt,add_comm→ju,add_zero→jX
open Option renaming map_some→jI,bind_eq_bind→jA
namespace Go.AE
section
variable{P:Program}{gl:Nat->Option (List qd)}{G G' G0:qk}{w w' w0:World}{h:List qh}{t:List qd}{ts:Array Value}{n:Nat}
mutual
theorem kJ{γ:Nat->Option Nat}{imm:Nat->Nat->Option Value}{n:Nat}(U:∀i b,γ i=some b->i<n):∀(a:qd)(v:Value),qT γ imm a v->a.lower n=true
 |.undef,_,_=>rfl
 |.bool _,_,_=>rfl
 |.int _ _,_,_=>rfl
 |.str _,_,_=>rfl
 |.nilptr,_,_=>rfl
 |.ptr i o,v,h=>by simp only[qT]at h;obtain⟨b,hb,_⟩:=h;simpa[qd.lower]using U i b hb
 |.iptr cs o,v,h=>by simp only[qT]at h;obtain⟨b,p,_,hc⟩:=h;simp only[qd.lower];exact zY U cs b p hc
 |.lst xs f,v,h=>by
  simp only[qT]at h;obtain⟨a,len,cap,_,_,_,_,_,_,h5⟩:=h;simp only[qd.lower];rcases h5 with rfl|⟨b,p,_,he⟩;·rfl
  ·exact qce U xs b p he
 |.nilfunc,_,_=>rfl
 |.fn f aS bs,v,h=>by simp only[qT]at h;obtain⟨x,y,_,h1,h2⟩:=h;simp only[qd.lower,jk];exact⟨Wk U aS _ h1,Wk U bs _ h2⟩
 |.yld i,v,h=>by simp only[qT]at h;obtain⟨b,hb,_⟩:=h;simpa[qd.lower]using U i b hb
 |.niliface,_,_=>rfl
 |.iface t a,v,h=>by simp only[qT]at h;obtain⟨x,_,h1⟩:=h;simp only[qd.lower];exact kJ U a x h1
 |.agg cs,v,h=>by simp only[qT]at h;obtain⟨x,_,h1⟩:=h;simp only[qd.lower];exact Wk U cs _ h1
 |.tup cs,v,h=>by simp only[qT]at h;obtain⟨x,_,h1⟩:=h;simp only[qd.lower];exact Wk U cs _ h1
 |.sl i _ _ _ _,v,h=>by simp only[qT]at h;obtain⟨b,c,hb,_⟩:=h;simpa[qd.lower]using U i b hb
 |.mp i,v,h=>by simp only[qT]at h;obtain⟨b,hb,_⟩:=h;simpa[qd.lower]using U i b hb
 |.nilmap,_,_=>rfl
 |.nils,_,_=>rfl
 |.empt,_,_=>rfl
theorem Wk{γ:Nat->Option Nat}{imm:Nat->Nat->Option Value}{n:Nat}(U:∀i b,γ i=some b->i<n):∀(aS:List qd)(vs:List Value),qx γ imm aS vs->qm n aS=true
 |[],_,_=>rfl
 |a::aS,vs,h=>by simp only[qx]at h;obtain⟨v,rest,_,h1,h2⟩:=h;simp only[qm,jk];exact⟨kJ U a v h1,Wk U aS rest h2⟩
theorem zY{γ:Nat->Option Nat}{imm:Nat->Nat->Option Value}{n:Nat}(U:∀i b,γ i=some b->i<n):∀(cs:List qd)(b p:Nat),ZD γ imm cs b p->qm n cs=true
 |[],_,_,_=>rfl
 |c::cs,b,p,h=>by simp only[ZD]at h;obtain⟨⟨v,_,h1⟩,h2⟩:=h;simp only[qm,jk];exact⟨kJ U c v h1,zY U cs b (p+1) h2⟩
theorem qce{γ:Nat->Option Nat}{imm:Nat->Nat->Option Value}{n:Nat}(U:∀i b,γ i=some b->i<n):∀(xs:List qd)(b p:Nat),Zg γ imm xs b p->qm n xs=true
 |[],_,_,_=>rfl
 |x::xs,b,p,h=>by
  obtain⟨h1,h2⟩:=h.uncons;simp only[qm,jk];refine⟨?_,qce U xs b _ h2⟩
  cases x with
  |agg cs=>simp only[qd.cells]at h1;simp only[qd.lower];exact zY U cs b p h1
  |_=>simp only[qd.cells,ZD]at h1;obtain⟨⟨v,_,h3⟩,_⟩:=h1;exact kJ U _ v h3
end
theorem qfy{n:Nat}(U:∀i b,G.γ i=some b->i<n):∀(es:List (Nat×qd×qd))(me:List MapEntry),Zc G es me->QE n es=true
 |[],_,_=>rfl
 |x::xs,me,h=>by simp only[Zc]at h;obtain⟨e,rest,_,_,h2,h3,h4⟩:=h;simp only[QE,jk];exact⟨⟨kJ U _ _ h2,kJ U _ _ h3⟩,qfy U xs rest h4⟩
theorem uG(hr:Rel P gl G h w){i b:Nat}{bx:qh}(hi:G.γ i=some b)(hx:h[i]?=some bx):bx.lower h.length=true:=by
 have U:∀i b,G.γ i=some b->i<h.length:=λi b hb=>(hr.γlt i b hb).1;have h0:=hr.box i b bx hi hx
 cases bx with
 |cells cs=>obtain⟨c,e,_,h1,_⟩:=h0;exact Wk U cs _ h1
 |loop t ps asg body st pend=>obtain⟨L,_,h1⟩:=h0;exact Wk U t _ h1.tmps
 |map es _=>obtain⟨me,_,h1⟩:=h0;exact qfy U es _ h1
 |iter m _ _ _=>obtain⟨mm,_,h1⟩:=h0;exact kJ U m _ h1
 |bld _ _ _=>rfl
 |dead=>rfl
def qk.below(G:qk)(n:Nat):qk:={G with γ:=λi=>if i<n then G.γ i else none}
theorem WY{n i b:Nat}(h:(G.below n).γ i=some b):i<n/\G.γ i=some b:=by
 simp only[qk.below]at h;split at h;·exact⟨‹_›,h⟩
 ·cases h
theorem qfQ{n:Nat}{a:qd}{v:Value}(hl:a.lower n=true)(hv:G.V a v):(G.below n).V a v:=qT.mono (λ_ _ _ h=>h) n (λi b hi hb=>by simp[qk.below,hi,hb]) a v hl hv
theorem left(a1:Rel P gl G0 h w0){h':List qh}(he:Ext h.length G0 w0 G w)(hr:Rel P gl G h' w)(a6:h.length<=h'.length)(U:∀i b bx,G0.γ i=some b->h'[i]?=some bx->bx.lower h.length=true):Ext h.length G0 w0 (G.below h.length) w/\Rel P gl (G.below h.length) (h'.take h.length) w:=by
 have Y:(h'.take h.length).length=h.length:=by simp[a6]
 refine⟨⟨λi b hi=>?_,λi b hi=>?_,he.ik,he.inew,he.on,he.size,he.heap,he.loops,he.os,he.tape,he.output⟩,⟨λi b hi=>?_,λi j b hi hj=>?_,λi b bx hi hx=>?_,hr.imm,λb o v i hv hm hi=>?_,hr.immK,λb ℓ hb=>⟨(hr.ow b ℓ hb).1,λi hi=>?_⟩,λg cs hg=>?_⟩⟩;·simp[qk.below,(a1.γlt i b hi).1,he.gk i b hi]
 ·obtain⟨h1,h2⟩:=WY hi;rcases he.gn i b h2 with h3|⟨h3,_⟩;·exact .inl h3
  ·omega
 ·obtain⟨h1,h2⟩:=WY hi;exact⟨by rw[Y];exact h1,(hr.γlt i b h2).2⟩
 ·rw[List.getElem?_take_of_lt (WY hi).1,List.getElem?_take_of_lt (WY hj).1];exact hr.inj i j b (WY hi).2 (WY hj).2
 ·obtain⟨h1,h2⟩:=WY hi;rw[List.getElem?_take_of_lt h1]at hx
  have a7:G0.γ i=some b:=by
   rcases he.gn i b h2 with h3|⟨h3,_⟩;·exact h3
   ·omega
  exact(hr.box i b bx h2 hx).keep (U i b bx a7 hx) (λ_ _ _ h=>h) (λj c hj hc=>by simp[qk.below,hj,hc]) rfl (λ_ _ h=>h) (λ_ _ _=>rfl) (λ_ _ _ _ h=>h)
 ·obtain⟨h1,h2⟩:=WY hi;rw[List.getElem?_take_of_lt h1];exact hr.immγ b o v i hv hm h2
 ·exact(hr.ow b ℓ hb).2 i (WY hi).2
 ·obtain⟨h1,h2⟩:=hr.glob g cs hg;exact⟨kx.mono (λ_ _ _ h=>h) cs g h2 h1,h2⟩
theorem qm3(hn:gS G)(k:Nat):gS (G.below k):=hn
theorem Xo(Y:Rel P gl G0 h w0){s:St}(he:Ext h.length G0 w0 G w)(hr:Rel P gl G s.h w)(hk:h.length<=s.h.length/\(s.e=false->Zq h.length h s.h)){r0 r:XX}{h':List qh}{e':Bool}(hl:Qc h.length r0 s.h s.e=(r,h',e')):r=r0/\∃G',Ext h.length G0 w0 G' w/\Rel P gl G' h' w/\gS G'/\(∀a v,(r0=.ret a\/r0=.pan a)->G.V a v->G'.V a v):=by
 obtain⟨a7,a6⟩:=hr.cellsOnly;have a1:Ext h.length G0 w0 G.cellsOnly w:=⟨he.gk,he.gn,he.ik,he.inew,λb hb=>he.on b λe=>hb (by simp[qk.cellsOnly,e]),he.size,he.heap,he.loops,he.os,he.tape,he.output⟩;cases r0<;>unfold Qc at hl<;>simp only at hl<;>split at hl
 all_goals first
  |(rename_i U
    simp only[jk,Bool.or_eq_true,Bool.not_eq_true']at U
    cases hl
    obtain⟨k1,k2⟩:=left Y a1 a7 hk.1 (λi b bx hi hx=>by
     have h1:=(Y.γlt i b hi).1
     rcases U.1 with aa|a8
     ·obtain⟨ab,h3,h4⟩:=(hk.2 aa).2 i h.length h[i] h1 (jm _) (jh h1) (uG Y hi (jh h1))
      rw[hx]at h3
      cases h3
      exact h4
     ·simp only[beq_iff_eq]at a8
      omega)
    refine⟨rfl,_,k1,k2,qm3 a6 _,λa v ha hv=>qfQ (G:=G.cellsOnly) ?_ hv⟩
    rcases ha with ha|ha<;>cases ha<;>exact U.2)
  |(cases hl
    exact⟨rfl,_,a1,a7,a6,λa v _ hv=>hv⟩)
def qsq(tmps:Array Value):ResultVar->Sem Value
 |.tmp t=>pure (tmps.getD t undef)
 |.cell a t=>do loadVar t (<-asAddr (tmps.getD a undef))
theorem qe8(fn:Func)(tmps:Array Value):results fn tmps=(do
  let vs <-fn.results.mapM (qsq tmps)
  pure (if h:vs.size=1 then vs[0]else .tuple vs)):=rfl
theorem gj{s:St}{a:Act}(hc:Cfg P gl G s.h s.t a w):∀(l:List ResultVar)(rs:List qaq)(vs:List qd),l.mapM (Dl P)=some rs->ZC s rs=some vs->∃us:List Value,(l.mapM (qsq a.tmps)).run P w=.ok us w/\G.VL vs us
 |[],rs,vs,h,hv=>by simp at h;subst h;simp only[ZC]at hv;cases hv;exact⟨[],by simp,by simp[qk.VL,qx]⟩
 |x::l,rs,vs,h,hv=>by
  simp only[List.mapM_cons,Option.pure_def,jA,Option.bind_eq_some_iff]at h;obtain⟨y,hy,ys,a6,h⟩:=h;cases h
  cases x with
  |tmp i=>
   simp only[Dl,jj]at hy;subst hy;simp only[ZC]at hv;split at hv;·rename_i a1 Y;cases hv;obtain⟨us,h1,h2⟩:=gj hc l ys a1 a6 Y;refine⟨a.tmps.getD i undef::us,?_,by simp only[qk.VL,qx];exact⟨_,us,rfl,Qo (hc.tr.get i),h2⟩⟩;rw[List.mapM_cons];simp only[qsq,Sem.run_bind,Sem.run_pure,Result.andThen_ok];rw[h1];rfl
   ·cases hv
  |cell i ty=>
   simp only[Dl,Option.map_eq_some_iff]at hy;obtain⟨k,hk,rfl⟩:=hy;simp only[ZC]at hv;split at hv
   ·rename_i v a1 U Y;cases hv;obtain⟨us,h1,h2⟩:=gj hc l ys a1 a6 Y;have hp:=hc.tr.get i;obtain⟨u,h3,h4,_⟩:=qhR hc.rel hk hp U
    have a7:∃ad,a.tmps.getD i undef=.pointer (some ad):=by
     revert hp;revert U;generalize s.t.getD i .undef=p;intro U hp;cases p<;>simp only[Xg]at U<;>first|(cases U;done)|skip
     ·simp only[qk.V,qT]at hp;obtain⟨b,_,e⟩:=hp;exact⟨_,e⟩
     ·simp only[qk.V,qT]at hp;obtain⟨b,p,e,_⟩:=hp;exact⟨_,e⟩
    obtain⟨ad,a8⟩:=a7;refine⟨u::us,?_,by simp only[qk.VL,qx];exact⟨_,us,rfl,h4,h2⟩⟩;rw[List.mapM_cons];have h5:(qsq a.tmps (.cell i ty)).run P w=.ok u w:=(by simp only[qsq];rw[a8]at h3⊢;exact h3);rw[Sem.run_bind,h5,Result.andThen_ok,Sem.run_bind,h1];rfl
   ·cases hv
theorem kj{s:St}{a:Act}(hc:Cfg P gl G s.h s.t a w){fn:Func}{rs:List qaq}{vs:List qd}(h1:fn.results.toList.mapM (Dl P)=some rs)(h2:ZC s rs=some vs): ∃u,(results fn a.tmps).run P w=.ok u w/\G.V (QF vs) u:=by
 obtain⟨us,h3,h4⟩:=gj hc _ rs vs h1 h2;have Y:=h4.length;have U:(results fn a.tmps).run P w=.ok (if h:us.toArray.size=1 then us.toArray[0]else .tuple us.toArray) w:=by rw[qe8,Array.mapM_eq_mapM_toList];simp only[Sem.run_bind,map_eq_pure_bind];rw[h3];rfl
 refine⟨_,U,?_⟩
 match vs,us,h4,Y with
 |[],[],h4,_=>simp[QF,qk.V,qT,qx]
 |[v],[u],h4,_=>simp only[qk.VL,qx]at h4;obtain⟨_,_,e,h5,_⟩:=h4;cases e;simpa[QF]using h5
 |v::v'::vs,u::u'::us,h4,_=>simp only[QF,qk.V,qT];refine⟨_,?_,h4⟩;simp
theorem kY{fn:Func}{a:Act}{R:Ending->World->Prop}{F:Fence}{m:Nat}{u:FrameMode}(hu:u≠.run):∀(ds:List Deferred)(w':World),KS G' w' w0.heap.size ds->Ext n G0 w0 G' w'->Rel P gl G' h w'->ZY G' w' t a.tmps->(∀U,Ext n G0 w0 G' U->Rel P gl G' h U->ZY G' U t a.tmps->LeavesIn F m P fn a.tmps R [] u U)->LeavesInM F m P fn a.tmps R ds u w'
 |[],w',_,he,hr,ht,hR=>hR w' he hr ht
 |d::ds,w',hm,he,hr,ht,hR=>by
  obtain⟨r,rfl,h1,h2,h3⟩:=hm.all d (jE ..);refine⟨hu,.inl ⟨r,w'.putObj r (.deferred none),rfl,run_takeDeferred h2,?_⟩⟩;have Y:=List.nodup_cons.1 hm.nodup;refine kY hu ds _ ⟨Y.2,λd hd=>?_⟩ (he.putFar h1 _) (hr.putFar h3 λk=>by simp[World.cell?,h2]) (ht.putFar h3) hR;obtain⟨r',g1,g2,g3,g4⟩:=hm.all d (jH _ hd);refine⟨r',g1,g2,?_,g4⟩;rw[World.putObj_heap_other];·exact g3
  ·rintro rfl;rw[g1]at hd;exact Y.1 hd
theorem W7{fn:Func}{ts:Array Value}{R:Ending->World->Prop}{F:Fence}{m:Nat}{u:FrameMode}(hu:u≠.run):∀(ds:List Deferred)(w':World),KS G' w' w0.heap.size ds->Ext n G0 w0 G' w'->Rel P gl G' h w'->(∀U,Ext n G0 w0 G' U->Rel P gl G' h U->LeavesIn F m P fn ts R [] u U)->LeavesInM F m P fn ts R ds u w'
 |[],w',_,he,hr,hR=>hR w' he hr
 |d::ds,w',hm,he,hr,hR=>by
  obtain⟨r,rfl,h1,h2,h3⟩:=hm.all d (jE ..);refine⟨hu,.inl ⟨r,w'.putObj r (.deferred none),rfl,run_takeDeferred h2,?_⟩⟩;have Y:=List.nodup_cons.1 hm.nodup;refine W7 hu ds _ ⟨Y.2,λd hd=>?_⟩ (he.putFar h1 _) (hr.putFar h3 λk=>by simp[World.cell?,h2]) hR;obtain⟨r',g1,g2,g3,g4⟩:=hm.all d (jH _ hd);refine⟨r',g1,g2,?_,g4⟩;rw[World.putObj_heap_other];·exact g3
  ·rintro rfl;rw[g1]at hd;exact Y.1 hd
end
section
variable{P:Program}{gl:Nat->Option (List qd)}
def uA(P:Program)(gl:Nat->Option (List qd))(F:FuncId->Option qv):Prop:=∀ f fn, F f=some fn -> ∃ pf c, P.funcs[f]?=some pf /\ (pf.name== "runtime.NumGoroutine")=false /\ pf.body=some c /\ comp P gl c=some fn.code /\ pf.results.toList.mapM (Dl P)=some fn.results /\ pf.ntmps=fn.ntmps
def uo(P:Program)(gl:Nat->Option (List qd))(f:FuncId)(g:AE.Call->List qd->List qh->Option (XX×List qh×Bool)):Prop:=∀call,XY P gl call->Zl call->∀aS h r h' e',g call aS h=some (r,h',e')->∀(G:qk)(w:World)(vs:Array Value),Rel P gl G h w->gS G->G.VL aS vs.toList->((callFunc f vs).run P w=.ok (.enter f vs) w/\∀(ro:Option Nat)(n:Nat),CallsIn (FR ro) n P f vs w (qcd P gl h.length G w r h'))\/((∀i,.yld i∉aS)/\∃v w',(callFunc f vs).run P w=.ok (.value v) w'/\qcd P gl h.length G w r h' (.returned v) w')
theorem Qv{f : FuncId}{pf : Func}{c : Code}(h1 : P.funcs[f]?=some pf)(h2 : (pf.name== "runtime.NumGoroutine")=false)(h3 : pf.body=some c)(vs : Array Value)(w : World): (callFunc f vs).run P w=.ok (.enter f vs) w := by have h2' : pf.name≠ "runtime.NumGoroutine" := (by simpa using h2);simp[callFunc,Sem.run_bind,program,Sem.run,h1,h2',h3,Result.andThen]
theorem yf{f:FuncId}{x y vs:Array Value}{w:World}:(Fy (.func (.func f) x y) vs).run P w=(callFunc f ((x++vs)++y)).run P w:=by simp[Fy,Deferred.ofValue,invoke]
theorem qaF{b:Nat}{x y vs:Array Value}{w:World}:(Fy (.func (.yield b) x y) vs).run P w=(Instr.yield b (x++vs)).run P w:=by simp[Fy,Deferred.ofValue,invoke]
theorem ZY.start{G:qk}{w:World}{aS:List qd}{ts:Array Value}(h:G.VL aS ts.toList)(hd:∀a∈aS,a.dim=a):ZY G w aS ts:=⟨h,λi xs k v hx _=>by have:=hd _ (List.mem_iff_getElem?.2 ⟨i,hx⟩);simp[qd.dim]at this⟩
theorem qdo{G:qk}:∀(ps:List Nat)(aS:List qd)(vs:List Value)(t:List qd)(ts:Array Value),G.VL aS vs->ps.length=aS.length->G.VL t ts.toList->G.VL (qao t ps aS) (((ps.zip vs).foldl (λ(tmps:Array Value)(x:Nat×Value)=>tmps.setIfInBounds x.1 x.2) ts)).toList
 |[],aS,vs,t,ts,_,_,ht=>by simpa[qao]using ht
 |p::ps,[],vs,t,ts,_,hl,_=>by simp at hl
 |p::ps,a::aS,vs,t,ts,ha,hl,ht=>by simp only[qk.VL,qx]at ha;obtain⟨v,rest,rfl,h1,h2⟩:=ha;simp only[qao,List.zip_cons_cons,List.foldl_cons];exact qdo ps aS rest _ _ h2 (by simpa using hl) (by simpa using qx.set p ht h1)
theorem qap:∀(ps:List Nat)(aS:List qd)(t:List qd),(∀a∈aS,a.dim=a)->(∀a∈t,a.dim=a)->∀a∈qao t ps aS,a.dim=a
 |[],_,t,_,ht=>by simpa[qao]using ht
 |p::ps,[],t,_,ht=>by simpa[qao]using ht
 |p::ps,a::aS,t,ha,ht=>by
  simp only[qao];refine qap ps aS _ (λx hx=>ha x (jH _ hx)) λx hx=>?_;rcases List.mem_or_eq_of_mem_set hx with hx|rfl;·exact ht x hx
  ·exact ha _ (jE ..)
theorem Kq{G:qk}{w:World}{lo:Nat}{rf:Bool}:gZ G w lo rf [] []:=⟨[],rfl,⟨List.nodup_nil,λ_ h=>by cases h⟩,λ_=>rfl⟩
theorem qbN(ay:P.follows .mixedOrders=true){call:AE.Call}(ai:XY P gl call)(hk:Zl call){N:Nat}{l:Nat}{args:List qd}{h:List qh}{r:XX}{h':List qh}{e':Bool}(U:round N call l args h=some (r,h',e')){G:qk}{w:World}{b:Nat}{vs:Array Value}(hr:Rel P gl G h w)(hn:gS G)(hb:G.γ l=some b)(ha:G.VL args vs.toList): ∃f tmps asg body,(Instr.yield b vs).run P w=.ok (.round b f tmps asg body) w/\∀(ro:Option Nat)(n:Nat),RoundIn (FR ro) n P b f tmps asg body w (qcd P gl h.length G w r h'):=by
 unfold round at U;split at U
 ·rename_i t ps asg body aU aT hl;split at U;·cases U
  ·rename_i ae;have ae:args.length=ps.length:=Classical.not_not.1 ae;simp only at U;obtain⟨L,hL,a8⟩:=hr.box l b _ hb hl;have aI:vs.size=L.params.size:=(by have h1:=ha.length;have h2:=congrArg List.length a8.ps;simp at h1 h2;omega);refine⟨_,_,_,_,run_yield hL aI,λro n=>?_⟩;refine roundIn_of_wpIn (F:=FR ro) trivial ?_;split at U
   ·rename_i s1 av;have k1:=Zb (base:=h.length) hk N asg _ s1 _ (jm _) av;split at U
    ·rename_i t1 ah ab a6 Y am;split at U
     ·rename_i x s2 au;have kk:ZN h.length s1 {s1 with h:=s1.h.set l (.loop t1 ah ab a6 .busy Y)}:=⟨by simp,λhe=>⟨he,Zq.set am λB _ _ ad=>ad⟩⟩;have k2:=Zb (base:=h.length) hk N body _ s2 _ (by simpa using k1.1) au;have ar:=k1.trans (kk.trans k2);split at U
      ·rename_i t2 ak af aa st2 aR al;have aH:ZY G w (qao t ps (args.map qd.dim)) ((L.params.zip vs).foldl (λ(tmps:Array Value)(x:Nat×Value)=>tmps.setIfInBounds x.1 x.2) L.tmps):=(by refine ZY.start ?_ (qap _ _ _ (λx hx=>by obtain⟨y,_,rfl⟩:=jT.1 hx;exact Qf y) a8.dims);have:=qdo (G:=G) ps (args.map qd.dim) vs.toList t L.tmps ha.dims (by simpa using ae.symm) a8.tmps;rw[<-a8.ps]at this⊢;rw[<-Array.toList_zip,Array.foldl_toList]at this;exact this);have aQ:=Xm ay ai hk (N:=N) (base:=h.length) (lo:=w.heap.size) (rf:=false) (fx:=[]) (ro:=some b) (m:=n) L.assign asg a8.asg (λh=>by cases h) G w ⟨qao t ps (args.map qd.dim),h,false⟩ {tmps:=(L.params.zip vs).foldl (λ(tmps:Array Value)(x:Nat×Value)=>tmps.setIfInBounds x.1 x.2) L.tmps,defers:=[]} _ s1 ⟨hr,aH⟩ (jm _) (λ_ hq=>by cases hq;exact⟨L,hL⟩) Kq (jm _) av;refine wpIn_mono aQ λe a1 w1 aN=>?_;obtain⟨G1,f1,f2,rfl,f4⟩:=aN;have a7:=f1.gk _ _ hb;obtain⟨L1,aj,ap⟩:=f4.rel.box l b _ a7 am;have aB:L1.state=.ready:=(by have:=ap.st;cases hs:L1.state<;>rw[hs]at this<;>first|rfl|exact this.elim);have aF:LJ P gl G1 t1 ah ab a6 .busy Y {L1 with state:=.busy}:={ap with st:=trivial};have c1:Cfg P gl G1 (s1.h.set l (.loop t1 ah ab a6 .busy Y)) s1.t a1 (w1.putObj b (.loop {L1 with state:=.busy})):=⟨f4.rel.putLoop a7 am aF,f4.tr.putLoop f4.rel a7 _⟩;have x1:Ext h.length G w G1 (w1.putObj b (.loop {L1 with state:=.busy})):=f1.trans (jm _) (Ext.putLoop _ a7 aj ⟨rfl,rfl,rfl,rfl,rfl,rfl⟩);refine⟨_,run_beginRound aj aB,?_⟩;have aC:Dh (some b) (w1.putObj b (.loop {L1 with state:=.busy})):=λ_ hq=>(by cases hq;exact⟨_,World.putObj_heap_same (je.1 aj).1⟩);have aP:=Xm ay ai hk (N:=N) (base:=h.length) (lo:=w.heap.size) (rf:=false) (fx:=[]) (ro:=some b) (m:=n) L.body body a8.body (λh=>by cases h) G1 _ {s1 with h:=s1.h.set l (.loop t1 ah ab a6 .busy Y)} a1 x s2 c1 (by simpa using k1.1) aC (f2.ext (Ext.putLoop h.length a7 aj ⟨rfl,rfl,rfl,rfl,rfl,rfl⟩)) x1.size au;refine wpIn_mono aP λe a2 w2 aM=>?_;obtain⟨G2,g1,g2,g3⟩:=aM;have x2:Ext h.length G w G2 w2:=x1.trans (by simpa using k1.1) g1;have ac:=x2.gk _ _ hb;have fin:∀{st:LSt}{pend:Option qjO}{jump:Option Code}{bv:Bool},Cfg P gl G2 s2.h s2.t a2 w2->qb0 st (if jump.isNone then .ready else .done)->qbB pend jump->bv=jump.isNone->some (Qc h.length (.ret (.bool bv)) (s2.h.set l (.loop t2 ak af aa st pend)) s2.e)=some (r,h',e')->∃v w',(Instr.endRound b jump).run P w2=.ok v w'/\qcd P gl h.length G w r h' (.returned v) w':=(by intro st pend jump bv az aJ aK aO aL;obtain⟨L2,aA,aG⟩:=az.rel.box l b _ ac al;have aE:LJ P gl G2 t2 ak af aa st pend {L2 with state:=if jump.isNone then .ready else .done,pending:=jump}:={aG with st:=aJ,pend:=aK};have aD:=az.rel.putLoop ac al aE;have x3:=x2.trans (jm _) (Ext.putLoop _ ac aA (L':={L2 with state:=if jump.isNone then .ready else .done,pending:=jump}) ⟨rfl,rfl,rfl,rfl,rfl,rfl⟩);obtain⟨rfl,G',y1,y2,y3,y4⟩:=Xo (s:={s2 with h:=s2.h.set l (.loop t2 ak af aa st pend)}) hr x3 aD ⟨by simpa using ar.1,λhe=>(ar.2 he).2.trans (Zq.set al λB _ _ ad=>ad)⟩ (Option.some.inj aL);exact⟨_,_,run_endRound jump aA,_,G',rfl,y1,y2,y3,by subst aO;exact y4 (.bool jump.isNone) (.bool jump.isNone) (.inl rfl) (by simp[qk.V,qT])⟩);split at U;·obtain⟨rfl,g3⟩:=g3;exact fin (st:=.ready) (pend:=none) (jump:=none) g3 (by simp[qb0]) trivial rfl U
       ·obtain⟨rfl,g3⟩:=g3;exact fin (st:=.done) (pend:=some .ret) (jump:=some .ret) g3 (by simp[qb0]) trivial rfl U
       ·rename_i id;obtain⟨rfl,g3⟩:=g3;exact fin (st:=.done) (pend:=some (.exit id)) (jump:=some (.exit id)) g3 (by simp[qb0]) rfl rfl U
       ·cases U
      ·cases U
     ·cases U
    ·cases U
   ·cases U
 ·cases U
theorem KE(ac:P.follows .mixedOrders=true){F:FuncId->Option qv}{X:qar}(hF:uA P gl F)(hX:∀f g,X f=some g->uo P gl f g)(af:∀f g,X f=some g->∀call,Zl call->Zl λ_ aS h=>g call aS h):∀n,XY P gl (run F X n)
 |0=>λfv args h r h' e' hr=>by simp[run]at hr
 |n+1=>λfv args h r h' e' U G w ap vs hr hn hf ha=>by
  have ih:=KE ac hF hX af n;have hk:=vX (F:=F) (X:=X) af n;simp only[run]at U;split at U
  ·rename_i f first cap
   have a8:=hf;simp only[qk.V,qT]at a8;obtain⟨x,y,rfl,hx,hy⟩:=a8;have a6:G.VL (first++args++cap) ((x++vs)++y).toList:=(by simp only[Array.toList_append];exact(qx.append hx ha).append hy);rw[yf];split at U
   ·rename_i g hg;rcases hX f g hg _ ih hk _ _ _ _ _ U G w _ hr hn a6 with⟨h1,h2⟩|⟨h1,v,w',h2,h3⟩;·exact .inl ⟨f,_,h1,h2⟩
    ·exact .inr (.inr ⟨v,w',λi hi=>h1 i (by rw[hi];simp),h2,h3⟩)
   ·split at U;·cases U
    ·rename_i fn ak;obtain⟨pf,c,p1,p2,p3,p4,p5,p6⟩:=hF f fn ak;refine .inl ⟨f,_,Qv p1 p2 p3 _ w,λro m=>?_⟩;generalize am:(x++vs)++y=vv at a6⊢;have ae:vv.size=(first++args++cap).length:=(by have:=a6.length;simp at this⊢;omega);let t0:List qd:=(first++args++cap).map qd.dim++List.replicate (fn.ntmps - ((first++args++cap).map qd.dim).length) (.tup []);let a0:Act:={tmps:=vv++Array.replicate (pf.ntmps - vv.size) undef,defers:=[]}
     have al:Cfg P gl G h t0 a0 w:=by
      refine⟨hr,ZY.start ?_ λz hz=>?_⟩;·simp only[t0,a0,Array.toList_append,Array.toList_replicate];refine qx.append a6.dims ?_;rw[p6,ae];simp only[jU];exact qx.replicate _ (by simp[qT,qx,undef])
      ·simp only[t0]at hz;rcases jG.1 hz with hz|hz;·obtain⟨q,_,rfl⟩:=jT.1 hz;exact Qf q
       ·rw[(List.mem_replicate.1 hz).2];rfl
     have hW:∀x s,Qu n h.length (run F X n) fn.code ⟨t0,h,false⟩=some (x,s)->c.wpIn (FR none) m P (qdp P gl h.length G w w.heap.size false [] x s) a0 w:=λx s hx=>Xm ac ih hk (N:=n) (base:=h.length) (lo:=w.heap.size) (rf:=false) (fx:=[]) (ro:=none) (m:=m) c fn.code p4 (λh=>by cases h) G w ⟨t0,h,false⟩ a0 x s al (jm _) (λ_ hq=>by cases hq) Kq (jm _) hx
     have ab:∀x s Y,Qu n h.length (run F X n) fn.code ⟨t0,h,false⟩=some (x,s)->(x=.nor\/x=.ret)->ZC s fn.results=some Y->Qc h.length (.ret (QF Y)) s.h s.e=(r,h',e')->CallsIn (FR ro) m P f vv w (qcd P gl h.length G w r h'):=by
      intro x s Y hx ai a1 aj;have k:=Zb (base:=h.length) hk n fn.code _ s _ (jm _) hx;refine Dx (m:=m) (callsIn_of_wp_marks (F:=FR none) p1 p3 trivial (wpIn_mono (hW x s hx) λe a' w' aa=>?_) rfl);obtain⟨G',g1,⟨ms,a7,g2,_⟩,g3⟩:=aa;rw[jW]at a7;rw[<-a7]at g2;have key:Cfg P gl G' s.h s.t a' w'->LeavesInM (FR none) m P pf a'.tmps (qcd P gl h.length G w r h') a'.defers .returning w':=(by intro hc;refine kY (by simp) a'.defers w' g2 g1 hc.rel hc.tr λah q1 q2 q3=>?_;obtain⟨u,r1,r2⟩:=kj (a:=a') ⟨q2,q3⟩ p5 a1;obtain⟨rfl,ad,y1,y2,y3,y4⟩:=Xo hr q1 q2 ⟨k.1,λhe=>(k.2 he).2⟩ aj;exact⟨u,r1,_,ad,rfl,y1,y2,y3,y4 _ u (.inl rfl) r2⟩);rcases ai with rfl|rfl;·obtain⟨rfl,g3⟩:=g3;exact key g3
      ·obtain⟨rfl,g3⟩:=g3;exact key g3
     split at U
     ·rename_i s hx;split at U;·rename_i Y a1;exact ab _ s Y hx (.inl rfl) a1 (Option.some.inj U)
      ·cases U
     ·rename_i s hx;split at U;·rename_i Y a1;exact ab _ s Y hx (.inr rfl) a1 (Option.some.inj U)
      ·cases U
     ·rename_i v s hx;have k:=Zb (base:=h.length) hk n fn.code _ s _ (jm _) hx;refine Dx (m:=m) (callsIn_of_wp_marks (F:=FR none) p1 p3 trivial (wpIn_mono (hW _ s hx) λe a' w' aa=>?_) rfl);obtain⟨G',g1,⟨ms,a7,g2,_⟩,u,rfl,g3,g4⟩:=aa;rw[jW]at a7;rw[<-a7]at g2;refine W7 (by simp) a'.defers w' g2 g1 g3.rel λah q1 q2=>?_;obtain⟨rfl,ad,y1,y2,y3,y4⟩:=Xo hr q1 q2 ⟨k.1,λhe=>(k.2 he).2⟩ (Option.some.inj U);exact⟨v,u,ad,rfl,rfl,y1,y2,y3,y4 _ u (.inr rfl) g4⟩
     ·cases U
  ·rename_i l;have a8:=hf;simp only[qk.V,qT]at a8;obtain⟨b,hb,rfl⟩:=a8;rw[qaF];obtain⟨f,tmps,asg,body,h1,h2⟩:=qbN ac ih hk U hr hn hb ha (vs:=vs);exact .inr (.inl ⟨l,b,f,tmps,asg,body,rfl,by simpa using h1,h2⟩)
  ·cases U
end
inductive Lh where
 |pre (a:qF) (r:Lh)
 |dfr (f:FuncId) (caps:List qA) (slot:Nat) (rest:qF)
 deriving Inhabited
structure Dw where
 ntmps:Nat
 k:Nat
 ops:List Zz
 code:qF
 deriving Inhabited
structure ut where
 ntmps:Nat
 results:List qaq
 body:Lh
 d:Dw
 deriving Inhabited
def Lh.fid:Lh->FuncId
 |.pre _ r=>r.fid
 |.dfr f _ _ _=>f
def DI(n:Nat)(call:Call)(d:Dw)(v:qd)(cv:List qd)(s:St):Option (Ex×St):=match Qe s.h.length call [] d.ops ⟨put (some d.k) v.dim (cv.map qd.dim++List.replicate (d.ntmps - cv.length) (.tup [])),s.h,false⟩with
 |some (.nor,s1)=>
  match Qu n s.h.length call d.code s1 with
  |some (.nor,s2)|some (.ret,s2)=>some (.ret,{s with h:=s2.h,e:=s.e||s2.e})
  |_=>none
 |_=>none
def kR(n base:Nat)(call:Call)(d:Dw):Lh->St->Option (Ex×St)
 |.pre a r,s=>match Qu n base call a s with
  |some (.nor,s)=>kR n base call d r s
  |some (.exit _,_)=>none
  |r=>r
 |.dfr f caps slot rest,s=>
  match ev (put (some slot) (.fn f [] (caps.map (ev s.t))) s.t) (.t slot)with
  |.fn g [] cv=>
   if g=f then
    match Qu n base call rest {s with t:=put (some slot) (.fn f [] (caps.map (ev s.t))) s.t}with
    |some (.nor,s1)|some (.ret,s1)=>DI n call d .niliface cv s1
    |some (.pan v,s1)=>DI n call d v cv s1
    |_=>none
   else none
  |_=>none
def DY(n:Nat)(g:ut)(call:Call)(aS:List qd)(h:List qh):Option (XX×List qh×Bool):=match kR n h.length call g.d g.body ⟨aS.map qd.dim++List.replicate (g.ntmps - aS.length) (.tup []),h,false⟩with
 |some (.nor,s)|some (.ret,s)=>
  match ZC s g.results with
  |some vs=>some (Qc h.length (.ret (QF vs)) s.h s.e)
  |none=>none
 |some (.pan v,s)=>some (Qc h.length (.pan v) s.h s.e)
 |_=>none
section
variable(P:Program)(gl:Nat->Option (List qd))
def qgr(o0 o1:Oper):Option (FuncId×List qA×Nat):=match o0.op with
 |.makeFunc (.func f) a caps=>
  match o1.op with
  |.defer c=>
   match c.callee with
   |.value (.tmp t)=>if o0.dst=some t/\o0.guard=none/\o1.dst=none/\o1.guard=none/\a=#[]/\c.args=#[]then(qjQ gl caps).map λcs=>(f,cs,t)else none
   |_=>none
  |_=>none
 |_=>none
def qaS:Code->Option (FuncId×List qA×Nat)
 |.region _ ops false=>
  match ops.toList with
  |[o0,o1]=>qgr gl o0 o1
  |_=>none
 |_=>none
def qgh:Code->Option Lh
 |.seq a b=>
  match qaS gl a with
  |some (f,caps,t)=>(comp P gl b).map (.dfr f caps t)
  |none=>
   match comp P gl a,qgh b with
   |some x,some r=>if x.noRf then some (.pre x r)else none
   |_,_=>none
 |_=>none
def qsp(o:Oper):Option Nat:=match o.op with
 |.call c=>
  match c.callee with
  |.builtin .recover=>if o.guard=none/\c.args=#[]then o.dst else none
  |_=>none
 |_=>none
def qnQ(f:Func):Option Dw:=match f.body with
 |some (.seq (.region _ ops false) c)=>
  match ops.toList with
  |o0::os=>
   match qsp o0,os.mapM (Xu P gl ops),comp P gl c with
   |some k,some aos,some ac=>if aos.all (λo=>!o.op.calls)&&ac.noRf&&f.results.isEmpty then some ⟨f.ntmps,k,aos,ac⟩else none
   |_,_,_=>none
  |_=>none
 |_=>none
def DF(f d:Func):Option ut:=match f.body with
 |some c=>
  match qgh P gl c,f.results.toList.mapM (Dl P),qnQ P gl d with
  |some b,some rs,some d=>some ⟨f.ntmps,rs,b,d⟩
  |_,_,_=>none
 |none=>none
end
inductive Fw where
 |nil
 |node (k:Nat) (v:qv) (l r:Fw)
 deriving Inhabited
def Fw.get:Fw->Nat->Option qv
 |.nil,_=>none
 |.node k v l r,i=>bif Nat.beq i k then some v else bif Nat.blt i k then l.get i else r.get i
def Fw.All(p:Nat->qv->Prop):Fw->Prop
 |.nil=>True
 |.node k v l r=>p k v/\l.All p/\r.All p
theorem Fw.get_all{p:Nat->qv->Prop}:∀{t:Fw}{i:Nat}{v:qv},t.All p->t.get i=some v->p i v
 |.nil,_,_,_,h=>by cases h
 |.node k w l r,i,v,ha,h=>by
  simp only[Fw.get]at h
  cases hb:Nat.beq i k with
  |true=>rw[hb]at h;have U:i=k:=Nat.eq_of_beq_eq_true hb;subst U;cases h;exact ha.1
  |false=>
   rw[hb]at h
   cases hc:Nat.blt i k with
   |true=>rw[hc]at h;exact Fw.get_all ha.2.1 h
   |false=>rw[hc]at h;exact Fw.get_all ha.2.2 h
def qaW(fn:qv)(h:List qh):Option (Ex×St)->Option (XX×List qh×Bool)
 |some (.nor,s)|some (.ret,s)=>
  match ZC s fn.results with
  |some vs=>some (Qc h.length (.ret (QF vs)) s.h s.e)
  |none=>none
 |some (.pan v,s)=>some (Qc h.length (.pan v) s.h s.e)
 |_=>none
theorem qne{F:FuncId->Option qv}{X:qar}{n:Nat}{f:FuncId}{first args cap:List qd}{h:List qh}{fn:qv}(hX:X f=none)(hF:F f=some fn): run F X (n+1) (.fn f first cap) args h=qaW fn h (Qu n h.length (run F X n) fn.code ⟨(first++args++cap).map qd.dim++List.replicate (fn.ntmps - ((first++args++cap).map qd.dim).length) (.tup []),h,false⟩):=by simp only[run,hX,hF];rfl
theorem qi1{F:FuncId->Option qv}{X:qar}{n:Nat}{f:FuncId}{first args cap:List qd}{h:List qh}{g:Call->List qd->List qh->Option (XX×List qh×Bool)}(hX:X f=some g): run F X (n+1) (.fn f first cap) args h=g (run F X n) (first++args++cap) h:=by simp only[run,hX]
section
variable{P:Program}{gl:Nat->Option (List qd)}
theorem qaR{call:AE.Call}(hk:Zl call){n base:Nat}{d:Dw}{v:qd}{cv:List qd}{s s':St}{x:Ex}(hb:base<=s.h.length)(h:DI n call d v cv s=some (x,s')):ZN base s s':=by
 unfold DI at h;split at h
 ·rename_i s1 h1;have k1:=Wy (base:=s.h.length) hk d.ops [] ⟨_,s.h,false⟩ s1 _ (jm _) h1;have key:∀x2 s2,Qu n s.h.length call d.code s1=some (x2,s2)->ZN base s {s with h:=s2.h,e:=s.e||s2.e}:=(by intro x2 s2 h2;have k2:=Zb (base:=s.h.length) hk n d.code s1 s2 _ k1.1 h2;have k:=k1.trans k2;refine⟨k.1,λhe=>?_⟩;simp only[Bool.or_eq_false_iff]at he;exact⟨he.1,(k.2 he.2).2.lower hb⟩);split at h;·rename_i s2 h2;cases h;exact key _ _ h2
  ·rename_i s2 h2;cases h;exact key _ _ h2
  ·cases h
 ·cases h
theorem X6{call:AE.Call}(hk:Zl call){n base:Nat}{d:Dw}:∀(b:Lh)(s s':St)(x:Ex),base<=s.h.length->kR n base call d b s=some (x,s')->ZN base s s'
 |.pre a r,s,s',x,hb,h=>by
  simp only[kR]at h;split at h;·rename_i s1 h1;have k1:=Zb (base:=base) hk n a s s1 _ hb h1;exact k1.trans (X6 hk r s1 s' x (jn hb k1.1) h)
  ·cases h
  ·exact Zb (base:=base) hk n a s s' x hb h
 |.dfr f U slot rest,s,s',x,hb,h=>by
  simp only[kR]at h;split at h
  ·rename_i g cv Y;split at h
   ·have k0:ZN base s {s with t:=put (some slot) (.fn f [] (U.map (ev s.t))) s.t}:=⟨jm _,λh=>⟨h,Zq.refl _ _⟩⟩;have key:∀x1 s1,Qu n base call rest {s with t:=put (some slot) (.fn f [] (U.map (ev s.t))) s.t}=some (x1,s1)->∀v,DI n call d v cv s1=some (x,s')->ZN base s s':=(by intro x1 s1 h1 v h2;have k1:=Zb (base:=base) hk n rest {s with t:=put (some slot) (.fn f [] (U.map (ev s.t))) s.t} s1 _ hb h1;exact k0.trans (k1.trans (qaR hk (jn hb k1.1) h2)));split at h;·rename_i s1 h1;exact key _ _ h1 _ h
    ·rename_i s1 h1;exact key _ _ h1 _ h
    ·rename_i s1 h1;exact key _ _ h1 _ h
    ·cases h
   ·cases h
  ·cases h
theorem W5{n:Nat}{g:ut}{call:AE.Call}(hk:Zl call):Zl λ_ aS h=>DY n g call aS h:=by
 intro fv aS h r h' e' hr;simp only[DY]at hr;split at hr
 ·rename_i s h1;have k:=X6 (base:=h.length) hk g.body ⟨_,h,false⟩ s _ (jm _) h1;split at hr;·rename_i vs U;have:=QJ (r:=.ret (QF vs)) (h:=h) ⟨k.1,λhe=>(k.2 he).2⟩;rw[Option.some.inj hr]at this;exact this
  ·cases hr
 ·rename_i s h1;have k:=X6 (base:=h.length) hk g.body ⟨_,h,false⟩ s _ (jm _) h1;split at hr;·rename_i vs U;have:=QJ (r:=.ret (QF vs)) (h:=h) ⟨k.1,λhe=>(k.2 he).2⟩;rw[Option.some.inj hr]at this;exact this
  ·cases hr
 ·rename_i v s h1;have k:=X6 (base:=h.length) hk g.body ⟨_,h,false⟩ s _ (jm _) h1;have:=QJ (r:=.pan v) (h:=h) ⟨k.1,λhe=>(k.2 he).2⟩;rw[Option.some.inj hr]at this;exact this
 ·cases hr
theorem qnV{a:Code}{f:FuncId}{U:List qA}{t:Nat}(h:qaS gl a=some (f,U,t)): ∃id ops o0 o1 a0 cs c,a=.region id ops false/\ops=#[o0,o1]/\o0.op=.makeFunc (.func f) a0 cs/\a0=#[]/\o0.dst=some t/\o0.guard=none/\o1.op=.defer c/\c.callee=.value (.tmp t)/\c.args=#[]/\o1.dst=none/\o1.guard=none/\qjQ gl cs=some U:=by
 unfold qaS at h;split at h
 ·rename_i id ops;split at h
  ·rename_i o0 o1 Y;unfold qgr at h;split at h
   ·rename_i f' a0 cs a7;split at h
    ·rename_i c a6;split at h
     ·rename_i t' hcal;split at h;·rename_i hc;obtain⟨c1,c2,c3,c4,c5,c6⟩:=hc;obtain⟨a8,a1,he⟩:=Xi h;cases he;exact⟨id,ops,o0,o1,a0,cs,c,rfl,by apply Array.ext';simpa using Y,a7,c5,c1,c2,a6,hcal,c6,c3,c4,a1⟩
      ·cases h
     ·cases h
    ·cases h
   ·cases h
  ·cases h
 ·cases h
structure qtk (P:Program) (gl:Nat->Option (List qd)) (df:Func) (d:Dw):Prop where
 ex:∃id ops o0 os c,df.body=some (.seq (.region id ops false) c)/\ops.toList=o0::os/\(∃cl,o0.op=.call cl/\cl.callee=.builtin .recover/\cl.args=#[])/\o0.dst=some d.k/\o0.guard=none/\os.mapM (Xu P gl ops)=some d.ops/\
  comp P gl c=some d.code/\(∀o∈d.ops,o.op.calls=false)/\d.code.noRf=true/\df.results=#[]/\df.ntmps=d.ntmps
theorem qgg{df:Func}{d:Dw}(h:qnQ P gl df=some d):qtk P gl df d:=by
 unfold qnQ at h;split at h
 ·rename_i id ops c hb;split at h
  ·rename_i o0 os U;split at h
   ·rename_i k a6 ac hk Y a1;split at h
    ·rename_i hc;simp only[jk,List.all_eq_true,Bool.not_eq_true',Array.isEmpty_iff]at hc;cases h;unfold qsp at hk;split at hk
     ·rename_i cl ho;split at hk
      ·rename_i hcal;split at hk;·rename_i hg;exact⟨id,ops,o0,os,c,hb,U,⟨cl,ho,hcal,hg.2⟩,hk,hg.1,Y,a1,hc.1.1,hc.1.2,hc.2,rfl⟩
       ·cases hk
      ·cases hk
     ·cases hk
    ·cases h
   ·cases h
  ·cases h
 ·cases h
theorem qnY{o:Oper}{ao:AOp}{a:Act}{w w':World}{nx:Next}{u:Value}(U:XJ P gl o=some ao){i:Nat}(Y:ao=.mov (.t i))(h1:(execOp a.eval o).run P w=.ok nx w')(h2:Nx nx u):u=a.tmps.getD i undef:=by
 subst Y;have ho:=(Xv U).1 i rfl;have:(execOp a.eval o).run P w=.ok (.value (a.eval (.tmp i))) w:=by simp[execOp,ho]
 rw[this]at h1;cases h1;rcases h2 with h2|⟨h2,_⟩;·cases h2;rfl
 ·cases h2
theorem qdD{G:qk}{w w':World}{h:List qh}{t:List qd}{a:Act}(hc:Cfg P gl G h t a w){o:Oper}{ao:AOp}{nx:Next}{u:Value}(a1:XJ P gl o=some ao){q:qA}{id off:Nat}(a7:ao=.ld none q)(hq:ev t q=.ptr id off){base:Nat}{call:AE.Call}{p:XR}{dst:Option Nat}{e:Bool}{x:Ex}{s':St}(Y:qQ base call p dst ao ⟨t,h,e⟩=some (x,s'))(h1:(execOp a.eval o).run P w=.ok nx w')(h2:Nx nx u): ∃b,G.γ id=some b/\w.cell? ⟨b,off,none⟩=some u:=by
 subst a7;obtain⟨ty,y,ho,hy,hk⟩:=(Xv a1).2.1 q rfl;have hv:=Zj hc.rel hc.tr hy;rw[hq]at hv;simp only[qk.V,qT]at hv;obtain⟨b,hb,he⟩:=hv;refine⟨b,hb,?_⟩;obtain⟨g1,_⟩:=Fq hk w;simp only[qQ]at Y;obtain⟨v,hv,_⟩:=Xi Y;rw[hq]at hv;simp only[Xg]at hv;split at hv
 ·rename_i cs a8;obtain⟨c,te,hw,aa,_⟩:=hc.rel.box id b _ hb a8;simp only[cut]at hv;obtain⟨av,ab,_⟩:=Xi hv;obtain⟨uv,a6,_⟩:=DX aa ab;have U:w.cell? ⟨b,off,none⟩=some uv:=(by simp only[Array.getElem?_toList]at a6;simp[World.cell?,hw,a6]);have:(execOp a.eval o).run P w=.ok (.value uv) w:=(by simp only[execOp,ho];refine XG ?_;simp only[Instr.loadAt,he,Instr.sureAddr,Sem.run_bind,Sem.run_pure,Result.andThen_ok,loadVar,g1,Option.isSome_none,jl,if_false,run_load,U]);rw[this]at h1;cases h1;rcases h2 with h2|⟨h2,_⟩;·cases h2;exact U
  ·cases h2
 ·cases hv
theorem qeU{ops:Array Oper}{base:Nat}{call:AE.Call}{cs:List Frame}{m:Nat}{x:Ex}{s':St}:∀(l:List Nat)(os:List Zz),qsV P gl ops l os->(∀o∈os,o.op.calls=false)->∀(G:qk)(w:World)(h:List qh)(t:List qd)(e:Bool)(a:Act)(p:XR),Cfg P gl G h t a w->QT G w t a p->Qe base call p os ⟨t,h,e⟩=some (x,s')->x=.nor/\h.length<=s'.h.length/\∀(Q:Exit->Act->List Frame->World->Prop),(∀a' w' G',Ext h.length G w G' w'->Cfg P gl G' s'.h s'.t a' w'->a'.defers=a.defers->Q .normal a' cs w')->wpOpsSIn (FR none) m P ops Q l a cs w:=by
 intro l
 induction l with
 |nil=>
  intro os hl _ G w h t e a p hc hp U
  cases os with
  |cons _ _=>exact hl.elim
  |nil=>simp only[Qe]at U;cases U;exact⟨rfl,jm _,λQ hQ=>hQ a w G (Ext.refl _ G w) hc rfl⟩
 |cons i l ih=>
  intro os hl ae G w h t e a p hc hp U
  cases os with
  |nil=>exact hl.elim
  |cons ao os=>
   obtain⟨⟨o,ho,am⟩,hl⟩:=hl;simp only[Qe]at U;split at U
   ·rename_i hw;obtain⟨a1,Y,a7⟩:=Q7 hc.tr am hw;simp only[Y]at U
    cases hop:qQ base call p o.dst ao.op ⟨t,h,e⟩with
    |none=>rw[hop]at U;cases U
    |some r=>
     obtain⟨x1,s1⟩:=r;have au:ao.op.calls=false:=ae ao (jE ..);obtain⟨rfl,hd,ah⟩:=qmK hc hp a1 au hop;rw[hop]at U;simp only at U;obtain⟨nx,u,w',G',h1,h2,ap,h3,h4⟩:=hd
     have a8:QT G' w' s1.t (a.put o.dst u) (Z7 p ao):=by
      have hq:ao.op.effs=false->ao.op.acts=false:=(by cases ao.op<;>simp[AOp.effs,AOp.acts])
      have ad:ao.op.effs=false->∀b,b<w.heap.size->w'.heap[b]?=w.heap[b]?:=λa6=>ap (λaa=>by
       have:=(Xv a1).2.2.1 aa;rw[hq a6]at this
       cases this) (λaa=>by
       have:=qhr a1 aa;rw[hq a6]at this
       cases this)
      rw[<-Y];by_cases a6:ao.op.effs=false
      ·obtain⟨_,v,hv,_⟩:=ko a6 hop;refine hp.next (v:=v) (λ_=>by rw[Y];exact hv) h3.gk ad ?_ ?_;·intro i af;exact qnY a1 af h1 h2
       ·intro q id off ai ar;exact qdD hc a1 ai ar hop h1 h2
      ·exact hp.next (v:=.undef) (λh=>absurd h a6) h3.gk (λh=>absurd h a6) (λi af=>by rw[af]at a6;exact absurd rfl a6) (λq _ _ ai _=>by rw[ai]at a6;exact absurd rfl a6)
     obtain⟨r1,r2,r3⟩:=ih os hl (λo ho=>ae o (jH _ ho)) G' w' s1.h s1.t s1.e (a.put o.dst u) (Z7 p ao) h4 a8 U;refine⟨r1,jn ah r2,λQ hQ=>?_⟩;have ab:=r3 Q λa' ac al he ak aj=>hQ a' ac al (h3.trans ah he) ak (by rw[aj,Xr]);simp only[wpOpsSIn,ho];refine⟨λ_ _=>trivial,?_⟩;rw[if_pos a7,h1];rcases h2 with rfl|⟨rfl,rfl⟩;·exact ab
     ·exact ab
   ·rename_i hw;obtain⟨a1,Y,a7⟩:=Q7 hc.tr am hw;simp only[Y]at U;have a8:QT G w (AE.put o.dst (.tup []) t) (a.put o.dst undef) (Z7 p {ao with op:=.pick (.c .undef) (.c .undef) (.c .undef)}):=(by rw[<-Y];exact hp.next (o:={ao with op:=.pick (.c .undef) (.c .undef) (.c .undef)}) (v:=.tup []) (λ_=>rfl) (λ_ _ h=>h) (λ_ _ _=>rfl) (λ_ h=>by cases h) (λ_ _ _ h=>by cases h));obtain⟨r1,r2,r3⟩:=ih os hl (λo ho=>ae o (jH _ ho)) G w h _ e _ _ (WA hc o.dst) (by simpa only[Y]using a8) (by simpa only[Y]using U);refine⟨r1,r2,λQ hQ=>?_⟩;simp only[wpOpsSIn,ho];refine⟨λ_ _=>trivial,?_⟩;rw[if_neg (by rw[a7];simp)];exact r3 Q λa' ac al he ak aj=>hQ a' ac al he ak (by rw[aj,Xr])
   ·cases U
theorem Ext.cellsOnly{n:Nat}{G G':qk}{w w':World}(he:Ext n G w G' w'):Ext n G w G'.cellsOnly w':=⟨he.gk,he.gn,he.ik,he.inew,λb hb=>he.on b λe=>hb (by simp[qk.cellsOnly,e]),he.size,he.heap,he.loops,he.os,he.tape,he.output⟩
def qvq(G:qk)(u:FrameMode)(v:qd):Prop:=(u=.returning/\v=.niliface)\/∃vv,u=.panicking [{v:=vv,recovered:=false}]/\G.V v vv
theorem LO(aI:P.follows .mixedOrders=true){call:AE.Call}(ad:XY P gl call)(hk:Zl call){f:FuncId}{df:Func}{d:Dw}(hf:P.funcs[f]?=some df)(hd:qtk P gl df d){n:Nat}{v:qd}{cv:List qd}{s s':St}{x:Ex}(h:DI n call d v cv s=some (x,s')){G:qk}{w:World}{a:Act}(hc:Cfg P gl G s.h s.t a w){vs:Array Value}(ah:G.VL cv vs.toList){u:FrameMode}(hu:qvq G u v){m:Nat}{R:Ending->FrameMode->World->Prop}(hR:∀r u' G' w',settle u'=.returning->Ext s.h.length G w G' w'->Cfg P gl G' s'.h s'.t a w'->R (.returned r) u' w'):x=.ret/\s'.t=s.t/\CallsDIn (FR none) m P f vs u w R:=by
 obtain⟨id,ops,o0,os,c,ae,a8,⟨cl,aA,az,ay⟩,av,aK,aF,aO,al,aD,aj,aH⟩:=hd.ex;unfold DI at h;split at h
 ·rename_i s1 aC;have ap:cv.length=vs.size:=(by simpa using ah.length);obtain⟨aE,aR⟩:=hc.rel.cellsOnly;let a0:Act:={tmps:=vs++Array.replicate (df.ntmps - vs.size) undef,defers:=[]}
  have aQ:Cfg P gl G.cellsOnly s.h (cv.map qd.dim++List.replicate (d.ntmps - cv.length) (.tup [])) a0 w:=by
   refine⟨aE,ZY.start ?_ λz hz=>?_⟩;·simp only[a0,Array.toList_append,Array.toList_replicate];refine qx.append ah.dims ?_;rw[aH,ap];exact qx.replicate _ (by simp[qT,qx,undef])
   ·rcases jG.1 hz with hz|hz;·obtain⟨q,_,rfl⟩:=jT.1 hz;exact Qf q
    ·rw[(List.mem_replicate.1 hz).2];rfl
  have body:∀(Y:List Frame)(vv:Value)(U:Frame)(cs:List Frame)(u':FrameMode),G.V v vv->Y={U with mode:=u'}::cs->settle u'=.returning->x=.ret/\s'.t=s.t/\wpOpsSIn (FR none) m P ops (Exit.thenS (c.wpSIn (FR none) m P (bodyPostS P df U cs R)) (bodyPostS P df U cs R)) (List.range' 1 os.length) (a0.put (some d.k) vv) Y w:=by
   intro Y vv U cs u' ab aN ai;have aP:=aQ.put (some d.k) (x:=v.dim) (v:=vv) (Qo ab) (Qf v);have hl:=kW os 1 d.ops (λj=>by have:ops[1+j]?=ops.toList[1+j]?:=(by simp);rw[this,a8,ju];simp) aF;obtain⟨_,r2,r3⟩:=qeU (cs:=Y) (m:=m) _ d.ops hl al G.cellsOnly w s.h _ false (a0.put (some d.k) vv) [] aP QT.nil aC
   have key:∀x2 s2,Qu n s.h.length call d.code s1=some (x2,s2)->(x2=.nor\/x2=.ret)->some (Ex.ret,({s with h:=s2.h,e:=s.e||s2.e}:St))=some (x,s')->x=.ret/\s'.t=s.t/\wpOpsSIn (FR none) m P ops (Exit.thenS (c.wpSIn (FR none) m P (bodyPostS P df U cs R)) (bodyPostS P df U cs R)) (List.range' 1 os.length) (a0.put (some d.k) vv) Y w:=by
    intro x2 s2 a7 aB he;cases he;refine⟨rfl,rfl,r3 _ λa1 w1 G1 e1 c1 d1=>?_⟩;have aM:a1.defers=[]:=(by rw[d1,Xr]);refine wpSIn_of_wpIn rfl (wpIn_mono (Xm aI ad hk (N:=n) (base:=s.h.length) (lo:=w.heap.size) (rf:=true) (fx:=[]) (ro:=none) (m:=m) c d.code aO (λ_=>aD) G1 w1 s1 a1 x2 s2 c1 r2 (λ_ hq=>by cases hq) ⟨[],by rw[aM];rfl,⟨List.nodup_nil,λ_ h=>by cases h⟩,λ_=>rfl⟩ e1.size a7) λe a2 w2 ar=>?_);obtain⟨G2,g1,⟨ms,aJ,_,am⟩,g3⟩:=ar;have aL:a2.defers=[]:=(by rw[aJ,am rfl];rfl);have fin:Cfg P gl G2 s2.h s2.t a2 w2->a2.defers=[]/\∃u',Y={U with mode:=u'}::cs/\∃r,(results df a2.tmps).run P w2=.ok r w2/\R (.returned r) u' w2:=(by intro c2;have au:Ext s.h.length G.cellsOnly w G2.cellsOnly w2:=(e1.trans r2 g1).cellsOnly;obtain⟨b1,b2,b3⟩:=DC hc au c2.rel.cellsOnly.1;refine⟨aL,u',aN,.tuple #[],?_,hR _ _ _ _ ai b1 ⟨b2,b3⟩⟩;unfold results;rw[aj];simp);rcases aB with rfl|rfl;·obtain⟨rfl,g3⟩:=g3;exact fin g3
    ·obtain⟨rfl,g3⟩:=g3;exact fin g3
   split at h;·rename_i s2 a7;exact key _ s2 a7 (.inl rfl) h
   ·rename_i s2 a7;exact key _ s2 a7 (.inr rfl) h
   ·cases h
  have ac:List.range ops.size=0::List.range' 1 os.length:=(by have:ops.size=os.length+1:=(by rw[<-Array.length_toList,a8];rfl);rw[this,List.range_eq_range',List.range'_succ]);have aG:ops[0]?=some o0:=(by have:ops[0]?=ops.toList[0]?:=(by simp);rw[this,a8];rfl);have ak:(execOp a0.eval o0).run P w=.ok .recover w:=(by simp[execOp,aA,resolve,az,ay,invoke,builtin])
  have main:∀(U:Frame)(cs:List Frame),U.mode=u->x=.ret/\s'.t=s.t/\(Code.seq (.region id ops false) c).wpSIn (FR none) m P (bodyPostS P df U cs R) a0 (U::cs) w:=by
   intro U cs a6
   have fin:∀(Y:List Frame)(vv:Value),(match recoverD (U::cs)with|some (v,Y)=>(v,Y)|none=>(.nilIface,U::cs))=(vv,Y)->wpOpsSIn (FR none) m P ops (Exit.thenS (c.wpSIn (FR none) m P (bodyPostS P df U cs R)) (bodyPostS P df U cs R)) (List.range' 1 os.length) (a0.put (some d.k) vv) Y w->(Code.seq (.region id ops false) c).wpSIn (FR none) m P (bodyPostS P df U cs R) a0 (U::cs) w:=by
    intro Y vv aa hW;refine wpSIn_seq (wpSIn_region ?_);rw[ac];simp only[wpOpsSIn,aG];refine⟨λ_ _=>trivial,?_⟩;rw[if_pos (by simp[Region.wanted,aK]),ak];simp only;rw[av]
    cases af:recoverD (U::cs)with
    |none=>rw[af]at aa;cases aa;exact hW
    |some p=>obtain⟨p1,p2⟩:=p;rw[af]at aa;cases aa;exact hW
   rcases hu with⟨rfl,rfl⟩|⟨vv,rfl,ab⟩;·obtain⟨q1,q2,q3⟩:=body (U::cs) .nilIface U cs .returning (by simp[qk.V,qT]) (by rw[<-a6]) rfl;exact⟨q1,q2,fin _ _ (by simp[recoverD,a6]) q3⟩
   ·obtain⟨q1,q2,q3⟩:=body ({U with mode:=.panicking [{v:=vv,recovered:=true}]}::cs) vv U cs (.panicking [{v:=vv,recovered:=true}]) ab rfl rfl;exact⟨q1,q2,fin _ _ (by simp[recoverD,a6]) q3⟩
  have m0:=main {(default:Frame)with mode:=u} [] rfl;exact⟨m0.1,m0.2.1,callsDIn_of_wpSIn hf ae trivial λU cs a6=>(main U cs a6).2.2⟩
 ·cases h
end
section
variable{P:Program}{gl:Nat->Option (List qd)}
theorem D6{G' G0:qk}{w0:World}{h:List qh}{t:List qd}{n:Nat}{fn:Func}{ts:Array Value}{R:Ending->World->Prop}{F:Fence}{m:Nat}{u:FrameMode}(hu:u≠.run){fx:List Deferred}:∀(ds:List Deferred)(w':World),KS G' w' w0.heap.size ds->Ext n G0 w0 G' w'->Rel P gl G' h w'->ZY G' w' t ts->(∀U,Ext n G0 w0 G' U->Rel P gl G' h U->ZY G' U t ts->LeavesInM F m P fn ts R fx u U)->LeavesInM F m P fn ts R (ds++fx) u w'
 |[],w',_,he,hr,ht,hR=>hR w' he hr ht
 |d::ds,w',hm,he,hr,ht,hR=>by
  obtain⟨r,rfl,h1,h2,h3⟩:=hm.all d (jE ..);refine⟨hu,.inl ⟨r,w'.putObj r (.deferred none),rfl,run_takeDeferred h2,?_⟩⟩;have Y:=List.nodup_cons.1 hm.nodup;refine D6 hu ds _ ⟨Y.2,λd hd=>?_⟩ (he.putFar h1 _) (hr.putFar h3 λk=>by simp[World.cell?,h2]) (ht.putFar h3) hR;obtain⟨r',g1,g2,g3,g4⟩:=hm.all d (jH _ hd);refine⟨r',g1,g2,?_,g4⟩;rw[World.putObj_heap_other];·exact g3
  ·rintro rfl;rw[g1]at hd;exact Y.1 hd
theorem qa3(hmx:P.follows .mixedOrders=true){call:AE.Call}(hcall:XY P gl call)(hk:Zl call){df pf:Func}{d:Dw}(hd:qtk P gl df d){N base n0 m:Nat}{G0:qk}{w0:World}{R:Ending->World->Prop}{x:Ex}{s':St}: ∀(gb : Lh)(c : Code), qgh P gl c=some gb -> P.funcs[gb.fid]?=some df -> (df.name== "runtime.NumGoroutine")=false -> ∀(G : qk)(w : World)(s : St)(a : Act), Cfg P gl G s.h s.t a w -> base<=s.h.length -> a.defers=[] -> w0.heap.size<=w.heap.size -> n0<=s.h.length -> Ext n0 G0 w0 G w ->kR N base call d gb s=some (x,s')->(∀G' w' a',(x=.nor\/x=.ret)->Ext n0 G0 w0 G' w'->Cfg P gl G' s'.h s'.t a' w'->LeavesIn (FR none) m P pf a'.tmps R [] .returning w')->(∀pv v G' w' a',x=.pan pv->Ext n0 G0 w0 G' w'->Cfg P gl G' s'.h s'.t a' w'->G'.V pv v->R (.panicked [{v,recovered:=false}]) w')->c.wpIn (FR none) m P (bodyPostM (FR none) m P pf R) a w:=by
 intro gb
 induction gb with
 |pre ac r ih=>
  intro c hcomp hf hname G w s a hc hb hdf hlo hn he hrun hret hpan;cases c<;>simp only[qgh,reduceCtorEq]at hcomp;rename_i a1 b1;split at hcomp;·rename_i f caps t hdc;obtain⟨z,_,hz⟩:=Xi hcomp;cases hz
  ·split at hcomp
   ·rename_i x1 r1 hx1 hr1;split at hcomp
    ·rename_i hrf;cases hcomp;have hW:=λx2 s2 hx2=>Xm hmx hcall hk (N:=N) (base:=base) (lo:=w0.heap.size) (rf:=true) (fx:=[]) (ro:=none) (m:=m) a1 ac hx1 (λ_=>hrf) G w s a x2 s2 hc hb (λ_ hq=>by cases hq) ⟨[],by rw[hdf];rfl,⟨List.nodup_nil,λ_ h=>by cases h⟩,λ_=>rfl⟩ hlo hx2;simp only[kR]at hrun;split at hrun;·rename_i s1 hs1;have hkeep:=(Zb (base:=base) hk N ac s s1 _ hb hs1).1;refine wpIn_seq (wpIn_mono (hW _ s1 hs1) λe a' w' hfin=>?_);obtain⟨G',g1,⟨ms,hms,_,hms0⟩,rfl,g4⟩:=hfin;have hd0:a'.defers=[]:=(by rw[hms,hms0 rfl];rfl);exact ih b1 hr1 hf hname G' w' s1 a' g4 (jn hb hkeep) hd0 (jn hlo g1.size) (jn hn hkeep) (he.trans hn g1) hrun hret hpan
     ·cases hrun
     ·rename_i r2 h1 h2;refine wpIn_seq (wpIn_mono (hW x s' hrun) λe a' w' hfin=>?_);obtain⟨G',g1,⟨ms,hms,_,hms0⟩,g3⟩:=hfin;have hd0:a'.defers=[]:=(by rw[hms,hms0 rfl];rfl)
      cases x with
      |nor=>exact absurd hrun (h1 s')
      |exit id=>exact absurd hrun (h2 id s')
      |ret=>obtain⟨rfl,g3⟩:=g3;show LeavesInM _ _ _ _ _ _ _ _ _;rw[hd0];exact hret G' w' a' (.inr rfl) (he.trans hn g1) g3
      |pan pv=>obtain⟨v,rfl,g3,g4⟩:=g3;show LeavesInM _ _ _ _ _ _ _ _ _;rw[hd0];exact hpan pv v G' w' a' rfl (he.trans hn g1) g3 g4
    ·cases hcomp
   ·cases hcomp
 |dfr f caps slot rest=>
  intro c hcomp hf hname G w s a hc hb hdf hlo hn he hrun hret hpan;change P.funcs[f]?=some df at hf;cases c<;>simp only[qgh,reduceCtorEq]at hcomp;rename_i a1 b1;split at hcomp
  ·rename_i f' caps' t hdc;obtain⟨z,hz,hze⟩:=Xi hcomp;cases hze;obtain⟨id,ops,o0,o1,a0,cs,cl,rfl,rfl,k1,rfl,k3,k4,k5,k6,k7,k8,k9,k10⟩:=qnV hdc;refine wpIn_seq (wpIn_region ?_);have hrange:List.range (#[o0,o1]:Array Oper).size=[0,1]:=rfl;rw[hrange];simp only[wpOpsIn,List.getElem?_toArray,jx,List.getElem?_cons_succ];rw[if_pos (by simp[Region.wanted,k4])];have hcomp0:XJ P gl o0=some (.mkF f [] caps):=(by simp only[XJ,FT,Dk,k1,k10];rfl);have hrun0:qQ base call [] o0.dst (.mkF f [] caps) s=some (.nor,{s with t:=put (some slot) (.fn f [] (caps.map (ev s.t))) s.t}):=(by simp[qQ,pureV,k3]);refine Fc hcall hk hc QT.nil hcomp0 hrun0 (λ_ u1 w1 G1 e1 c1 _ _ _=>?_) (λpv h=>by cases h);rw[k3]at c1⊢;rw[if_pos (by simp[Region.wanted,k9])];simp only[kR]at hrun;split at hrun
   ·rename_i g cv hev;split at hrun
    ·rename_i hgf;subst hgf;have hv:=Zj c1.rel c1.tr (x:=.tmp slot) (ax:=.t slot) rfl;rw[hev]at hv;simp only[qk.V,qT,qx]at hv;obtain⟨x0,y0,hval,hx0,hy0⟩:=hv;have hx0':x0=#[]:=(by apply Array.ext';simpa using hx0);subst hx0';let dd:Deferred:={target:=.fn (.func g) y0,args:=#[]};refine⟨λ_ _=>trivial,?_⟩;have hsem:(o1.semAt (FR none).round (a.put (some slot) u1).eval).run P w1=.ok (.defer dd) w1:=(by show(Oper.semAt none _ _).run P w1=_;rw[Oper.semAt_none];simp only[execOp,k5,resolve,k6,k7,hval];simp[Deferred.ofValue,dd]);rw[hsem,Oper.uponIn_defer,k8];show(Code.wpIn (FR none) m P b1 (bodyPostM (FR none) m P pf R)) {tmps:=(a.put (some slot) u1).tmps,defers:=dd::a.defers} w1;rw[hdf];have hlen1:n0<=({s with t:=put (some slot) (.fn g [] (caps.map (ev s.t))) s.t}:St).h.length:=hn;have he1:Ext n0 G0 w0 G1 w1:=he.trans hn e1;have c2:Cfg P gl G1 s.h (put (some slot) (.fn g [] (caps.map (ev s.t))) s.t) {tmps:=(a.put (some slot) u1).tmps,defers:=[]++[dd]} w1:=⟨c1.rel,c1.tr⟩;have hW:=λx2 s2 hx2=>Xm hmx hcall hk (N:=N) (base:=base) (lo:=w0.heap.size) (rf:=false) (fx:=[dd]) (ro:=none) (m:=m) b1 rest hz (λh=>by cases h) G1 w1 {s with t:=put (some slot) (.fn g [] (caps.map (ev s.t))) s.t} {tmps:=(a.put (some slot) u1).tmps,defers:=[]++[dd]} x2 s2 c2 hb (λ_ hq=>by cases hq) ⟨[],rfl,⟨List.nodup_nil,λ_ h=>by cases h⟩,λh=>by cases h⟩ he1.size hx2
     have tail:∀(s2:St)(v:qd)(u:FrameMode)(G2:qk)(w2:World)(a2:Act),s.h.length<=s2.h.length->Ext s.h.length G1 w1 G2 w2->gZ G2 w2 w0.heap.size false [dd] a2.defers->Cfg P gl G2 s2.h s2.t a2 w2->u≠.run->qvq G2 u v->DI N call d v cv s2=some (x,s')->LeavesInM (FR none) m P pf a2.tmps R a2.defers u w2:=by
      intro s2 v u G2 w2 a2 hkeep he2 hmk c3 hur hmode hdx;obtain⟨ms,hms,hmk,_⟩:=hmk;rw[hms];refine D6 (G0:=G0) (w0:=w0) (n:=n0) hur ms w2 hmk (he1.trans hn he2) c3.rel c3.tr λw3 q1 q2 q3=>?_;have hcv:G2.VL cv y0.toList:=he2.VL hy0;refine⟨hur,.inr ⟨Lo,.func g,y0,g,y0,rfl,?_,λ_ _=>trivial,?_⟩⟩;·simp only[dd,invoke];have:=hd.ex;obtain⟨id',ops',o0',os',c',hbody',_⟩:=this;have:=Qv (vs:=#[]++y0) (w:=w3) hf hname hbody';simpa using this
      ·have c4:Cfg P gl G2 s2.h s2.t {a2 with defers:=[]} w3:=⟨q2,q3⟩;refine(LO hmx hcall hk hf hd hdx c4 hcv hmode λr u' G3 w4 r1 r2 r3=>?_).2.2;obtain⟨hxr,hst,_⟩:=LO (m:=m) (R:=λ_ _ _=>True) hmx hcall hk hf hd hdx c4 hcv hmode λ_ _ _ _ _ _ _=>trivial;show LeavesInM _ _ _ _ _ _ _ _ _;rw[r1];exact hret G3 w4 {a2 with defers:=[]} (.inr hxr) (q1.trans (jn hn hkeep) r2) r3
     split at hrun;·rename_i s2 hx2;have hkeep:=(Zb (base:=base) hk N rest {s with t:=put (some slot) (.fn g [] (caps.map (ev s.t))) s.t} s2 _ hb hx2).1;refine wpIn_mono (hW _ s2 hx2) λe a2 w2 hfin=>?_;obtain⟨G2,g1,g2,rfl,g3⟩:=hfin;exact tail s2 _ .returning G2 w2 a2 hkeep g1 g2 g3 (by simp) (.inl ⟨rfl,rfl⟩) hrun
     ·rename_i s2 hx2;have hkeep:=(Zb (base:=base) hk N rest {s with t:=put (some slot) (.fn g [] (caps.map (ev s.t))) s.t} s2 _ hb hx2).1;refine wpIn_mono (hW _ s2 hx2) λe a2 w2 hfin=>?_;obtain⟨G2,g1,g2,rfl,g3⟩:=hfin;exact tail s2 _ .returning G2 w2 a2 hkeep g1 g2 g3 (by simp) (.inl ⟨rfl,rfl⟩) hrun
     ·rename_i v s2 hx2;have hkeep:=(Zb (base:=base) hk N rest {s with t:=put (some slot) (.fn g [] (caps.map (ev s.t))) s.t} s2 _ hb hx2).1;refine wpIn_mono (hW _ s2 hx2) λe a2 w2 hfin=>?_;obtain⟨G2,g1,g2,vv,rfl,g3,g4⟩:=hfin;exact tail s2 v (.panicking [{v:=vv,recovered:=false}]) G2 w2 a2 hkeep g1 g2 g3 (by simp) (.inr ⟨vv,rfl,g4⟩) hrun
     ·cases hrun
    ·cases hrun
   ·cases hrun
  ·split at hcomp
   ·split at hcomp;·cases hcomp
    ·cases hcomp
   ·cases hcomp
theorem LA(hmx : P.follows .mixedOrders=true){f : FuncId}{pf df : Func}{g : ut}(hf : P.funcs[f]?=some pf)(hname : (pf.name== "runtime.NumGoroutine")=false)(hcomp : DF P gl pf df=some g)(hdf : P.funcs[g.body.fid]?=some df)(hdname : (df.name== "runtime.NumGoroutine")=false)(N : Nat): uo P gl f (DY N g):= by
 intro call hcall hk aS h r h' e' hrun G w vs hr hn hall;unfold DF at hcomp;split at hcomp
 ·rename_i c hbody;split at hcomp
  ·rename_i b rs d hb hrs hd;cases hcomp;simp only at hdf;refine .inl ⟨Qv hf hname hbody vs w,λro m=>Dx (m:=m) ?_⟩;have hsize:vs.size=aS.length:=(by have:=hall.length;simp at this⊢;omega)
   have hc0:Cfg P gl G h (aS.map qd.dim++List.replicate (pf.ntmps - aS.length) (.tup [])) {tmps:=vs++Array.replicate (pf.ntmps - vs.size) undef,defers:=[]} w:=by
    refine⟨hr,ZY.start ?_ λz hz=>?_⟩;·simp only[Array.toList_append,Array.toList_replicate];refine qx.append hall.dims ?_;rw[hsize];exact qx.replicate _ (by simp[qT,qx,undef])
    ·rcases jG.1 hz with hz|hz;·obtain⟨q,_,rfl⟩:=jT.1 hz;exact Qf q
     ·rw[(List.mem_replicate.1 hz).2];rfl
   refine callsIn_of_wp_marks (F:=FR none) hf hbody trivial ?_ rfl;simp only[DY]at hrun
   have main:∀x s,kR N h.length call d b ⟨aS.map qd.dim++List.replicate (pf.ntmps - aS.length) (.tup []),h,false⟩=some (x,s)->((x=.nor\/x=.ret)->∃vs',ZC s rs=some vs'/\Qc h.length (.ret (QF vs')) s.h s.e=(r,h',e'))->(∀pv,x=.pan pv->Qc h.length (.pan pv) s.h s.e=(r,h',e'))->c.wpIn (FR none) m P (bodyPostM (FR none) m P pf (qcd P gl h.length G w r h')) {tmps:=vs++Array.replicate (pf.ntmps - vs.size) undef,defers:=[]} w:=by
    intro x s hx h1 h2;have k:=X6 (base:=h.length) hk b ⟨_,h,false⟩ s _ (jm _) hx;refine qa3 hmx hcall hk (qgg hd) (n0:=h.length) (G0:=G) (w0:=w) b c hb hdf hdname G w ⟨_,h,false⟩ _ hc0 (jm _) rfl (jm _) (jm _) (Ext.refl _ G w) hx (λG' w' a' hxx g1 g2=>?_) (λpv v G' w' a' hxx g1 g2 g3=>?_);·obtain⟨vs',hres,hlv⟩:=h1 hxx;obtain⟨u,r1,r2⟩:=kj g2 hrs hres;obtain⟨rfl,G'',y1,y2,y3,y4⟩:=Xo hr g1 g2.rel ⟨k.1,λhe=>(k.2 he).2⟩ hlv;exact⟨u,r1,_,G'',rfl,y1,y2,y3,y4 _ u (.inl rfl) r2⟩
    ·obtain⟨rfl,G'',y1,y2,y3,y4⟩:=Xo hr g1 g2.rel ⟨k.1,λhe=>(k.2 he).2⟩ (h2 pv hxx);exact⟨pv,v,G'',rfl,rfl,y1,y2,y3,y4 _ v (.inr rfl) g3⟩
   split at hrun
   ·rename_i s hx;split at hrun;·rename_i vs' hres;exact main _ s hx (λ_=>⟨vs',hres,Option.some.inj hrun⟩) (λ_ h=>by cases h)
    ·cases hrun
   ·rename_i s hx;split at hrun;·rename_i vs' hres;exact main _ s hx (λ_=>⟨vs',hres,Option.some.inj hrun⟩) (λ_ h=>by cases h)
    ·cases hrun
   ·rename_i v s hx;exact main _ s hx (λh=>by rcases h with h|h<;>cases h) (λpv h=>by cases h;exact Option.some.inj hrun)
   ·cases hrun
  ·cases hcomp
 ·cases hcomp
end
section
variable{P:Program}{gl:Nat->Option (List qd)}
noncomputable def qk.start(gl:Nat->Option (List qd))(W:World):qk:={γ:=λ_=>none,imm:=λb o=>match gl b with|some cs=>if 0<cs.length/\o=cs.length then some Wr else qaI (W.cell? ⟨b,o,none⟩)|none=>none,ow:=λ_=>none}
def qqc(gl:Nat->Option (List qd))(W:World):Prop:=∀g cs,gl g=some cs->qm 0 cs=true/\∃vs:List Value,qx (λ_=>none) (λ_ _=>none) cs vs/\(∀(j:Nat)(v:Value),vs[j]?=some v->W.cell? ⟨g,j,none⟩=some v)/\(0<cs.length->∃c e,W.heap[g]?=some (.cells c e (0,0))/\cs.length=c.size)
def qtd{H:Type}:DataW H->Option qd
 |.lit (.int k z)=>some (.int k z)
 |.lit (.string s)=>some (.str s)
 |.lit (.bool b)=>some (.bool b)
 |_=>none
theorem qlu{H:Type}{enc:TypeId×Value->H}{w:World}{base:Nat}{sp:Nat->Bool}{held:Bool}{fuel:Nat}{e:TypeId}{cs:List Value}{x:DataW H×List MemPlace}{a:qd}(he:(∃k,P.underlying e=some (.int k))\/P.underlying e=some .string)(h:DataW.trod enc P w base sp held fuel e cs=some x)(ha:qtd x.1=some a):∃v,cs=[v]/\qT (λ_=>none) (λ_ _=>none) a v:=by
 rcases he with⟨k,he⟩|he;·obtain⟨n,rfl,rfl,_⟩:=DataW.trod_int he h;simp only[qtd,jj]at ha;subst ha;exact⟨_,rfl,by simp[qT]⟩
 ·obtain⟨s,rfl,rfl,_⟩:=DataW.trod_string he h;simp only[qtd,jj]at ha;subst ha;exact⟨_,rfl,by simp only[qT];exact⟨s,rfl,rfl⟩⟩
theorem qcU{α β:Type}{f:α->Option β}:∀{l:List α}{r:List β},l.mapM f=some r->r.length=l.length
 |[],r,h=>by simp at h;subst h;rfl
 |x::l,r,h=>by simp only[List.mapM_cons,jA,Option.bind_eq_some_iff,Option.pure_def,jj]at h;obtain⟨b,_,r',U,rfl⟩:=h;simp[qcU U]
theorem WR{laid:List (String×DataW Unit)}{W:World}(hL:laidMet P laid W){name:String}{ds:List (DataW Unit)}(hm:(name,DataW.agg ds)∈laid){g:Nat}(hg:P.globalNamed name=some g){t e:TypeId}{n:Nat}(ht:(P.globals[g]?).map (·.type)=some t)(hu:P.underlying t=some (.array n e))(he:(∃k,P.underlying e=some (.int k))\/P.underlying e=some .string)(hc:P.cellsOf e=1)(ak:P.cellsOf t=n){aS:List qd}(has:ds.mapM qtd=some aS): qm 0 aS=true/\∃vs:List Value,qx (λ_=>none) (λ_ _=>none) aS vs/\(∀(j:Nat)(v:Value),vs[j]?=some v->W.cell? ⟨g,j,none⟩=some v)/\(0<aS.length->∃c e,W.heap[g]?=some (.cells c e (0,0))/\aS.length=c.size):=by
 obtain⟨ps,hv,af,U⟩:=hL;clear af;replace U:=λb off h=>(U b off h).1
 induction laid generalizing ps with
 |nil=>cases hm
 |cons x laid ih=>
  obtain⟨nx,dx⟩:=x;obtain⟨g',t',cs,fuel,p,q,ah,ae,a1,hd,hq,a7⟩:=hv;rcases List.mem_cons.1 hm with hm|hm
  ·cases hm;obtain rfl:=Option.some.inj (hg.symm.trans ah);obtain rfl:=Option.some.inj (ht.symm.trans ae);obtain⟨xs,m,_,hx,al,a6,ai⟩:=DataW.trod_array hu hd;have a8:xs.map (·.1)=ds:=(DataW.agg.inj (Prod.mk.inj hx).1).symm;have key:∀(i:Nat)(a:qd),aS[i]?=some a->∃v,cs[i]?=some v/\qT (λ_=>none) (λ_ _=>none) a v:=(by intro i a ha;obtain⟨d,aa,aj⟩:=yJ has i a ha;rw[<-a8,jr,Option.map_eq_some_iff]at aa;obtain⟨y,hy,rfl⟩:=aa;have hi:i<n:=(by rw[<-a6];exact(jd.1 hy).1);have h1:=ai i hi;rw[hy,hc,Nat.mul_one]at h1;obtain⟨v,ac,ab⟩:=qlu he h1 aj;have h0:((cs.toList.drop i).take 1)[0]?=some v:=(by rw[ac];rfl);exact⟨v,by simpa using h0,ab⟩);refine⟨D8 λa ha=>?_,aS.mapIdx (λi _=>cs.getD i undef),qx.of_get (by simp) λi a v ha hv=>?_,λj v hv=>?_,λh0=>?_⟩;·obtain⟨i,hi⟩:=List.getElem?_of_mem ha;obtain⟨v,_,hr⟩:=key i a hi;exact kJ (n:=0) (λ_ _ h=>by cases h) a v hr
   ·obtain⟨u,Y,ad⟩:=key i a ha;rw[List.getElem?_mapIdx,ha]at hv;simp only[jI,jj]at hv;rw[Array.getD_eq_getD_getElem?,Y]at hv;simp only[Option.getD_some]at hv;rw[<-hv];exact ad
   ·rw[World.var?_cell hg a1 j];rw[List.getElem?_mapIdx]at hv
    cases ha:aS[j]? with
    |none=>rw[ha]at hv;cases hv
    |some a=>obtain⟨u,Y,_⟩:=key j a ha;rw[ha]at hv;simp only[jI,jj]at hv;rw[Array.getD_eq_getD_getElem?,Y]at hv;simp only[Option.getD_some]at hv;rw[<-hv];exact Y
   ·have am:aS.length=n:=(by rw[qcU has,<-a8,jU,a6]);rw[ak,Array.length_toList]at al;obtain⟨c,e',hh⟩:=U g 0 (by rw[a7];refine List.mem_append_left _ (List.mem_append_left _ ?_);exact MemPlace.mem_row.2 ⟨0,zo,rfl⟩);refine⟨c,e',hh,?_⟩;have:c=cs:=(by have q:=a1;simp only[World.var?,hg,Option.bind_some,hh,jj]at q;exact q);rw[this];omega
  ·exact ih hm q hq λb off h=>U b off (by rw[a7];exact List.mem_append_right _ h)
end
section
variable{P:Program}{gl:Nat->Option (List qd)}
theorem qiJ{T : Fw}(hT : T.All λi v => ∃ pf, P.funcs[i]?=some pf /\ yh P gl pf=some v /\ (pf.name== "runtime.NumGoroutine")=false): uA P gl T.get := λf fn h => by
 obtain⟨pf,h1,h2,h3⟩:=Fw.get_all hT h;unfold yh at h2;split at h2;·cases h2
 ·rename_i c hb;split at h2;·rename_i code rs e1 e2;cases h2;exact⟨pf,c,h1,h3,hb,e1,e2,rfl⟩
  ·cases h2
theorem qmt{W:World}{g:Nat}:qm 0 []=true/\∃vs:List Value,qx (λ_=>none) (λ_ _=>none) [] vs/\(∀(j:Nat)(v:Value),vs[j]?=some v->W.cell? ⟨g,j,none⟩=some v)/\(0<([]:List qd).length->∃c e,W.heap[g]?=some (.cells c e (0,0))/\([]:List qd).length=c.size):=⟨rfl,[],by simp[qx],λj v h=>by simp at h,λh=>by simp at h⟩
end
def Dj:Call->List qd->List qh->Option (XX×List qh×Bool):=λ_ aS h=>
 match aS with
 |[]=>some (.ret (.bool true),h,false)
 |_=>none
def Le{α:Type}(a b:Option α):Prop:=∀x,a=some x->b=some x
theorem Le.refl{α:Type}(a:Option α):Le a a:=λ_ h=>h
def CLe(c d:Call):Prop:=∀fv aS h,Le (c fv aS h) (d fv aS h)
theorem CLe.refl(c:Call):CLe c c:=λ_ _ _ _ h=>h
def qtj{α:Type}(g:Nat->Option α):Prop:=∀n m,n<=m->Le (g n) (g m)
def Wi(c:Nat->Call):Prop:=∀n m,n<=m->CLe (c n) (c m)
open Classical in
noncomputable def lim{α:Type}(g:Nat->Option α):Option α:=if h:∃n x,g n=some x then g h.choose else none
theorem yC{α:Type}{g:Nat->Option α}(hg:qtj g)(x:α):lim g=some x↔∃n,g n=some x:=by
 unfold lim;constructor
 ·intro h;split at h;·exact⟨_,h⟩
  ·cases h
 ·rintro⟨n,hn⟩;have h:∃n x,g n=some x:=⟨n,x,hn⟩;rw[dif_pos h];obtain⟨y,hy⟩:=h.choose_spec;have h1:=hg _ (max n h.choose) (Nat.le_max_right ..) _ hy;have h2:=hg _ (max n h.choose) (Nat.le_max_left ..) _ hn;rw[hy,<-h1,h2]
theorem X7{α:Type}(a:Option α):lim (λ_=>a)=a:=by apply Option.ext;intro x;rw[yC (λ_ _ _=>Le.refl _)];exact⟨λ⟨_,h⟩=>h,λh=>⟨0,h⟩⟩
noncomputable def qbs(c:Nat->Call):Call:=λfv aS h=>lim λn=>c n fv aS h
theorem gG{c:Nat->Call}(hc:Wi c){fv:qd}{aS:List qd}{h:List qh}(x:XX×List qh×Bool):qbs c fv aS h=some x↔∃n,c n fv aS h=some x:=yC (λn m U=>hc n m U fv aS h) x
theorem qbo{c:Nat->Call}(hc:Wi c)(n:Nat):CLe (c n) (qbs c):=λ_ _ _ x hx=>(gG hc x).2 ⟨n,hx⟩
section
variable{c d:Call}{base:Nat}
theorem Q6(hc:CLe c d){p:XR}{dst:Option Nat}{o:AOp}{s:St}:Le (qQ base c p dst o s) (qQ base d p dst o s):=by
 cases o
 case call f args=>
  intro x hx;simp only[qQ]at hx⊢;split at hx;·rename_i U;rw[hc _ _ _ _ U];exact hx
  ·rename_i U;rw[hc _ _ _ _ U];exact hx
  ·cases hx
 all_goals exact λx hx=>hx
theorem Q3(hc:CLe c d):∀(ops:List Zz)(p:XR)(s:St),Le (Qe base c p ops s) (Qe base d p ops s)
 |[],p,s=>λx hx=>hx
 |o::os,p,s=>λx hx=>by
  simp only[Qe]at hx⊢;split at hx
  ·split at hx;·rename_i U;rw[Q6 hc _ U];exact Q3 hc os _ _ _ hx
   ·rename_i Y;have h1:=Q6 hc _ hx;rw[h1];split;·rename_i U;cases U;exact absurd hx (Y _)
    ·rfl
  ·exact Q3 hc os _ _ _ hx
  ·cases hx
theorem ZL(hc:CLe c d)(dsts:List Nat):∀(ops:List Zi)(pend:List (Nat×Chk))(s:St),Le (qZ base c dsts ops pend s) (qZ base d dsts ops pend s)
 |[],p,s=>λx hx=>hx
 |o::os,p,s=>λx hx=>by
  simp only[qZ]at hx⊢;split at hx
  ·split at hx
   ·rename_i U;rw[Q6 hc _ U];simp only;split at hx
    ·rename_i he;rw[if_pos he];split at hx;·rename_i hp;rw[if_pos hp];exact ZL hc dsts os _ _ _ hx
     ·cases hx
    ·rename_i he;rw[if_neg he];split at hx;·exact ZL hc dsts os _ _ _ hx
     ·exact ZL hc dsts os _ _ _ hx
   ·rename_i U;rw[Q6 hc _ U];exact hx
   ·cases hx
  ·exact ZL hc dsts os _ _ _ hx
  ·cases hx
theorem kS{f g:St->Option (Ex×St)}(hf:∀s,Le (f s) (g s)):∀(n m:Nat),n<=m->∀s,Le (iter f n s) (iter g m s)
 |0,_,_,s=>λx hx=>by cases hx
 |n+1,0,h,s=>zo
 |n+1,m+1,h,s=>λx hx=>by
  simp only[iter]at hx⊢;split at hx;·rename_i U;rw[hf _ _ U];exact kS hf n m zo _ _ hx
  ·rename_i Y;rw[hf _ _ hx];split;·rename_i U;cases U;exact absurd hx (Y _)
   ·rfl
theorem qfV{p q:Zi}{a b e a' b' e':Option (Ex×St)}(h1:Le a a')(h2:Le b b')(h3:Le e e'):Le (qmI p q a b e) (qmI p q a' b' e'):=λx hx=>by
 unfold qmI at hx;split at hx;·rename_i s0 s1 s2;rw[h1 _ rfl,h2 _ rfl,h3 _ rfl];exact hx
 ·cases hx
theorem qY(hc:CLe c d){n m:Nat}(Y:n<=m):∀(a:qF)(s:St),Le (Qu n base c a s) (Qu m base d a s)
 |.skip,s=>λx hx=>hx
 |.reg ops,s=>Q3 hc ops _ s
 |.draw ops,s=>ZL hc _ ops _ s
 |.draw2 c a b r,s=>qfV (ZL hc _ _ _ s) (ZL hc _ _ _ s) (ZL hc _ _ _ s)
 |.seq a b,s=>λx hx=>by
  simp only[Qu]at hx⊢;split at hx;·rename_i U;rw[qY hc Y a _ _ U];exact qY hc Y b _ _ hx
  ·rename_i a1;rw[qY hc Y a _ _ hx];split;·rename_i U;cases U;exact absurd hx (a1 _)
   ·rfl
 |.cond q a b,s=>λx hx=>by
  simp only[Qu]at hx⊢;split at hx;·exact qY hc Y a _ _ hx
  ·exact qY hc Y b _ _ hx
  ·cases hx
 |.block id b,s=>λx hx=>by
  simp only[Qu]at hx⊢;split at hx;·rename_i U;rw[qY hc Y b _ _ U];exact hx
  ·rename_i a1;rw[qY hc Y b _ _ hx];split;·rename_i U;cases U;exact absurd hx (a1 _ _)
   ·rfl
 |.loop b,s=>λx hx=>by simp only[Qu]at hx⊢;exact kS (λs=>qY hc Y b s) n m Y s x hx
 |.exit id,s=>λx hx=>hx
 |.ret,s=>λx hx=>hx
 |.rfun f ps asg body,s=>λx hx=>by
  simp only[Qu]at hx⊢;split at hx
  ·split at hx;·rename_i U;rw[hc _ _ _ _ U];exact hx
   ·rename_i U;rw[hc _ _ _ _ U];exact hx
   ·cases hx
  ·cases hx
theorem gL(hc:CLe c d){n m:Nat}(U:n<=m){l:Nat}{args:List qd}{h:List qh}:Le (round n c l args h) (round m d l args h):=λx hx=>by
 simp only[round]at hx⊢;split at hx
 ·split at hx;·cases hx
  ·rename_i hl;rw[if_neg hl];split at hx
   ·rename_i a1;rw[qY hc U _ _ _ a1];simp only;split at hx
    ·split at hx;·rename_i Y;rw[qY hc U _ _ _ Y];exact hx
     ·cases hx
    ·cases hx
   ·cases hx
 ·cases hx
theorem XT(hc:CLe c d){n m:Nat}(Y:n<=m){df:Dw}{v:qd}{cv:List qd}{s:St}:Le (DI n c df v cv s) (DI m d df v cv s):=λx hx=>by
 simp only[DI]at hx⊢;split at hx
 ·rename_i a1;rw[Q3 hc _ _ _ _ a1];dsimp only;split at hx;·rename_i U;rw[qY hc Y _ _ _ U];exact hx
  ·rename_i U;rw[qY hc Y _ _ _ U];exact hx
  ·cases hx
 ·cases hx
theorem WM(hc:CLe c d){n m:Nat}(Y:n<=m){df:Dw}:∀(b:Lh)(s:St),Le (kR n base c df b s) (kR m base d df b s)
 |.pre a r,s=>λx hx=>by
  simp only[kR]at hx⊢;split at hx;·rename_i U;rw[qY hc Y _ _ _ U];exact WM hc Y r _ _ hx
  ·cases hx
  ·rename_i h1 h2;rw[qY hc Y _ _ _ hx];split;·rename_i U;cases U;exact absurd hx (h1 _)
   ·rename_i U;cases U;exact absurd hx (h2 _ _)
   ·rfl
 |.dfr f a1 slot rest,s=>λx hx=>by
  simp only[kR]at hx⊢;split at hx
  ·split at hx
   ·rename_i hg;rw[if_pos hg];split at hx;·rename_i U;rw[qY hc Y _ _ _ U];exact XT hc Y _ hx
    ·rename_i U;rw[qY hc Y _ _ _ U];exact XT hc Y _ hx
    ·rename_i U;rw[qY hc Y _ _ _ U];exact XT hc Y _ hx
    ·cases hx
   ·cases hx
  ·cases hx
theorem qdZ(hc:CLe c d){n m:Nat}(Y:n<=m){g:ut}{aS:List qd}{h:List qh}:Le (DY n g c aS h) (DY m g d aS h):=λx hx=>by
 simp only[DY]at hx⊢;split at hx;·rename_i U;rw[WM hc Y _ _ _ U];exact hx
 ·rename_i U;rw[WM hc Y _ _ _ U];exact hx
 ·rename_i U;rw[WM hc Y _ _ _ U];exact hx
 ·cases hx
end
def qnu(X:qar):Prop:=∀f g,X f=some g->∀c d,CLe c d->∀aS h,Le (g c aS h) (g d aS h)
theorem ql2{F:FuncId->Option qv}{X:qar}(hX:qnu X){n m:Nat}(Y:n<=m)(hc:CLe (run F X n) (run F X m)):CLe (run F X (n+1)) (run F X (m+1)):=λfv aS h x hx=>by
 simp only[run]at hx⊢;split at hx
 ·split at hx;·rename_i hg;exact hX _ _ hg _ _ hc _ _ _ hx
  ·split at hx;·cases hx
   ·split at hx;·rename_i U;rw[qY hc Y _ _ _ U];exact hx
    ·rename_i U;rw[qY hc Y _ _ _ U];exact hx
    ·rename_i U;rw[qY hc Y _ _ _ U];exact hx
    ·cases hx
 ·exact gL hc Y _ hx
 ·cases hx
theorem Fh{F:FuncId->Option qv}{X:qar}(hX:qnu X):∀n m:Nat,n<=m->CLe (run F X n) (run F X m)
 |0,_,_=>λ_ _ _ x hx=>by cases hx
 |n+1,0,h=>zo
 |n+1,m+1,h=>ql2 hX zo (Fh hX n m zo)
section
variable{c:Nat->Call}{base:Nat}
theorem gM(hc:Wi c){p:XR}{dst:Option Nat}{o:AOp}{s:St}{x:Ex×St}(hx:qQ base (qbs c) p dst o s=some x):∃k,qQ base (c k) p dst o s=some x:=by
 cases o
 case call f args=>
  simp only[qQ]at hx⊢;split at hx;·rename_i U;obtain⟨k,hk⟩:=(gG hc _).1 U;exact⟨k,by rw[hk];exact hx⟩
  ·rename_i U;obtain⟨k,hk⟩:=(gG hc _).1 U;exact⟨k,by rw[hk];exact hx⟩
  ·cases hx
 all_goals exact⟨0,hx⟩
theorem kq(hc:Wi c):∀(ops:List Zz)(p:XR)(s:St)(x:Ex×St),Qe base (qbs c) p ops s=some x->∃k,Qe base (c k) p ops s=some x
 |[],p,s,x,hx=>⟨0,hx⟩
 |o::os,p,s,x,hx=>by
  simp only[Qe]at hx⊢;split at hx
  ·split at hx;·rename_i U;obtain⟨k1,h1⟩:=gM hc U;obtain⟨k2,h2⟩:=kq hc os _ _ _ hx;refine⟨max k1 k2,?_⟩;rw[Q6 (hc k1 _ (Nat.le_max_left ..)) _ h1];exact Q3 (hc k2 _ (Nat.le_max_right ..)) _ _ _ _ h2
   ·rename_i Y;obtain⟨k1,h1⟩:=gM hc hx;refine⟨k1,?_⟩;rw[h1];split;·rename_i U;cases U;exact absurd hx (Y _)
    ·rfl
  ·exact kq hc os _ _ _ hx
  ·cases hx
theorem QG(hc:Wi c)(dsts:List Nat):∀(ops:List Zi)(pend:List (Nat×Chk))(s:St)(x:Ex×St),qZ base (qbs c) dsts ops pend s=some x->∃k,qZ base (c k) dsts ops pend s=some x
 |[],p,s,x,hx=>⟨0,hx⟩
 |o::os,p,s,x,hx=>by
  simp only[qZ]at hx⊢;split at hx
  ·split at hx
   ·rename_i U;obtain⟨k1,h1⟩:=gM hc U;split at hx
    ·rename_i he;split at hx;·rename_i hp;obtain⟨k2,h2⟩:=QG hc dsts os _ _ _ hx;refine⟨max k1 k2,?_⟩;rw[Q6 (hc k1 _ (Nat.le_max_left ..)) _ h1];simp only;rw[if_pos he,if_pos hp];exact ZL (hc k2 _ (Nat.le_max_right ..)) dsts _ _ _ _ h2
     ·cases hx
    ·rename_i he;split at hx;·obtain⟨k2,h2⟩:=QG hc dsts os _ _ _ hx;rename_i hk;refine⟨max k1 k2,?_⟩;rw[Q6 (hc k1 _ (Nat.le_max_left ..)) _ h1];simp only;rw[if_neg he];exact ZL (hc k2 _ (Nat.le_max_right ..)) dsts _ _ _ _ h2
     ·obtain⟨k2,h2⟩:=QG hc dsts os _ _ _ hx;refine⟨max k1 k2,?_⟩;rw[Q6 (hc k1 _ (Nat.le_max_left ..)) _ h1];simp only;rw[if_neg he];exact ZL (hc k2 _ (Nat.le_max_right ..)) dsts _ _ _ _ h2
   ·rename_i U;obtain⟨k1,h1⟩:=gM hc U;exact⟨k1,by rw[h1];exact hx⟩
   ·cases hx
  ·exact QG hc dsts os _ _ _ hx
  ·cases hx
theorem vh{f:St->Option (Ex×St)}{g:Nat->St->Option (Ex×St)}(hg:∀n m,n<=m->∀s,Le (g n s) (g m s))(hf:∀s x,f s=some x->∃k,g k s=some x):∀(n:Nat)(s:St)(x:Ex×St),iter f n s=some x->∃k,iter (g k) n s=some x
 |0,s,x,hx=>by cases hx
 |n+1,s,x,hx=>by
  simp only[iter]at hx⊢;split at hx;·rename_i U;obtain⟨k1,h1⟩:=hf _ _ U;obtain⟨k2,h2⟩:=vh hg hf n _ _ hx;refine⟨max k1 k2,?_⟩;rw[hg k1 _ (Nat.le_max_left ..) _ _ h1];exact kS (hg k2 _ (Nat.le_max_right ..)) n n (jm _) _ _ h2
  ·rename_i Y;obtain⟨k1,h1⟩:=hf _ _ hx;refine⟨k1,?_⟩;rw[h1];split;·rename_i U;cases U;exact absurd hx (Y _)
   ·rfl
theorem ZQ(hc:Wi c){n:Nat}:∀(a:qF)(s:St)(x:Ex×St),Qu n base (qbs c) a s=some x->∃k,Qu n base (c k) a s=some x
 |.skip,s,x,hx=>⟨0,hx⟩
 |.reg ops,s,x,hx=>kq hc ops _ s x hx
 |.draw ops,s,x,hx=>QG hc _ ops _ s x hx
 |.draw2 c0 a0 b0 r0,s,x,hx=>by
  simp only[Qu]at hx⊢;unfold qmI at hx;split at hx;·rename_i s0 s1 s2 e0 e1 e2;obtain⟨k0,h0⟩:=QG hc _ _ _ s _ e0;obtain⟨k1,h1⟩:=QG hc _ _ _ s _ e1;obtain⟨k2,h2⟩:=QG hc _ _ _ s _ e2;refine⟨max k0 (max k1 k2),?_⟩;rw[ZL (hc k0 _ (Nat.le_max_left ..)) _ _ _ s _ h0,ZL (hc k1 _ (jn (Nat.le_max_left ..) (Nat.le_max_right ..))) _ _ _ s _ h1,ZL (hc k2 _ (jn (Nat.le_max_right ..) (Nat.le_max_right ..))) _ _ _ s _ h2];exact hx
  ·cases hx
 |.seq a b,s,x,hx=>by
  simp only[Qu]at hx⊢;split at hx;·rename_i U;obtain⟨k1,h1⟩:=ZQ hc a _ _ U;obtain⟨k2,h2⟩:=ZQ hc b _ _ hx;refine⟨max k1 k2,?_⟩;rw[qY (hc k1 _ (Nat.le_max_left ..)) (jm _) _ _ _ h1];exact qY (hc k2 _ (Nat.le_max_right ..)) (jm _) _ _ _ h2
  ·rename_i Y;obtain⟨k1,h1⟩:=ZQ hc a _ _ hx;refine⟨k1,?_⟩;rw[h1];split;·rename_i U;cases U;exact absurd hx (Y _)
   ·rfl
 |.cond q a b,s,x,hx=>by
  simp only[Qu]at hx⊢;split at hx;·exact ZQ hc a _ _ hx
  ·exact ZQ hc b _ _ hx
  ·cases hx
 |.block id b,s,x,hx=>by
  simp only[Qu]at hx⊢;split at hx;·rename_i U;obtain⟨k1,h1⟩:=ZQ hc b _ _ U;exact⟨k1,by rw[h1];exact hx⟩
  ·rename_i Y;obtain⟨k1,h1⟩:=ZQ hc b _ _ hx;refine⟨k1,?_⟩;rw[h1];split;·rename_i U;cases U;exact absurd hx (Y _ _)
   ·rfl
 |.loop b,s,x,hx=>by simp only[Qu]at hx⊢;exact vh (g:=λk=>Qu n base (c k) b) (λi j a1 s=>qY (hc i j a1) (jm _) b s) (λs x h=>ZQ hc b s x h) n s x hx
 |.exit id,s,x,hx=>⟨0,hx⟩
 |.ret,s,x,hx=>⟨0,hx⟩
 |.rfun f ps asg body,s,x,hx=>by
  simp only[Qu]at hx⊢;split at hx
  ·split at hx;·rename_i U;obtain⟨k,hk⟩:=(gG hc _).1 U;exact⟨k,by rw[hk];exact hx⟩
   ·rename_i U;obtain⟨k,hk⟩:=(gG hc _).1 U;exact⟨k,by rw[hk];exact hx⟩
   ·cases hx
  ·cases hx
theorem qfb(hc:Wi c){n:Nat}{l:Nat}{args:List qd}{h:List qh}{x:XX×List qh×Bool}(hx:round n (qbs c) l args h=some x):∃k,round n (c k) l args h=some x:=by
 simp only[round]at hx⊢;split at hx
 ·split at hx;·cases hx
  ·rename_i hl;split at hx
   ·rename_i Y;obtain⟨k1,h1⟩:=ZQ hc _ _ _ Y;split at hx
    ·rename_i hb;split at hx;·rename_i U;obtain⟨k2,h2⟩:=ZQ hc _ _ _ U;refine⟨max k1 k2,?_⟩;rw[if_neg hl,qY (hc k1 _ (Nat.le_max_left ..)) (jm _) _ _ _ h1];simp only[hb];rw[qY (hc k2 _ (Nat.le_max_right ..)) (jm _) _ _ _ h2];exact hx
     ·cases hx
    ·cases hx
   ·cases hx
 ·cases hx
theorem FA(hc:Wi c){n:Nat}{df:Dw}{v:qd}{cv:List qd}{s:St}{x:Ex×St}(hx:DI n (qbs c) df v cv s=some x):∃k,DI n (c k) df v cv s=some x:=by
 simp only[DI]at hx⊢;split at hx
 ·rename_i Y;obtain⟨k1,h1⟩:=kq hc _ _ _ _ Y;split at hx;·rename_i U;obtain⟨k2,h2⟩:=ZQ hc _ _ _ U;refine⟨max k1 k2,?_⟩;rw[Q3 (hc k1 _ (Nat.le_max_left ..)) _ _ _ _ h1];simp only;rw[qY (hc k2 _ (Nat.le_max_right ..)) (jm _) _ _ _ h2];exact hx
  ·rename_i U;obtain⟨k2,h2⟩:=ZQ hc _ _ _ U;refine⟨max k1 k2,?_⟩;rw[Q3 (hc k1 _ (Nat.le_max_left ..)) _ _ _ _ h1];simp only;rw[qY (hc k2 _ (Nat.le_max_right ..)) (jm _) _ _ _ h2];exact hx
  ·cases hx
 ·cases hx
theorem gD(hc:Wi c){n:Nat}{df:Dw}:∀(b:Lh)(s:St)(x:Ex×St),kR n base (qbs c) df b s=some x->∃k,kR n base (c k) df b s=some x
 |.pre a r,s,x,hx=>by
  simp only[kR]at hx⊢;split at hx;·rename_i U;obtain⟨k1,h1⟩:=ZQ hc _ _ _ U;obtain⟨k2,h2⟩:=gD hc r _ _ hx;refine⟨max k1 k2,?_⟩;rw[qY (hc k1 _ (Nat.le_max_left ..)) (jm _) _ _ _ h1];exact WM (hc k2 _ (Nat.le_max_right ..)) (jm _) _ _ _ h2
  ·cases hx
  ·rename_i h1 h2;obtain⟨k1,h3⟩:=ZQ hc _ _ _ hx;refine⟨k1,?_⟩;rw[h3];split;·rename_i U;cases U;exact absurd hx (h1 _)
   ·rename_i U;cases U;exact absurd hx (h2 _ _)
   ·rfl
 |.dfr f Y slot rest,s,x,hx=>by
  simp only[kR]at hx⊢;split at hx
  ·split at hx
   ·rename_i hg;simp only[if_pos hg];split at hx;·rename_i U;obtain⟨k1,h1⟩:=ZQ hc _ _ _ U;obtain⟨k2,h2⟩:=FA hc hx;refine⟨max k1 k2,?_⟩;rw[qY (hc k1 _ (Nat.le_max_left ..)) (jm _) _ _ _ h1];exact XT (hc k2 _ (Nat.le_max_right ..)) (jm _) _ h2
    ·rename_i U;obtain⟨k1,h1⟩:=ZQ hc _ _ _ U;obtain⟨k2,h2⟩:=FA hc hx;refine⟨max k1 k2,?_⟩;rw[qY (hc k1 _ (Nat.le_max_left ..)) (jm _) _ _ _ h1];exact XT (hc k2 _ (Nat.le_max_right ..)) (jm _) _ h2
    ·rename_i U;obtain⟨k1,h1⟩:=ZQ hc _ _ _ U;obtain⟨k2,h2⟩:=FA hc hx;refine⟨max k1 k2,?_⟩;rw[qY (hc k1 _ (Nat.le_max_left ..)) (jm _) _ _ _ h1];exact XT (hc k2 _ (Nat.le_max_right ..)) (jm _) _ h2
    ·cases hx
   ·cases hx
  ·cases hx
theorem qdY(hc:Wi c){n:Nat}{g:ut}{aS:List qd}{h:List qh}{x:XX×List qh×Bool}(hx:DY n g (qbs c) aS h=some x):∃k,DY n g (c k) aS h=some x:=by
 simp only[DY]at hx⊢;split at hx;·rename_i U;obtain⟨k1,h1⟩:=gD hc _ _ _ U;exact⟨k1,by rw[h1];exact hx⟩
 ·rename_i U;obtain⟨k1,h1⟩:=gD hc _ _ _ U;exact⟨k1,by rw[h1];exact hx⟩
 ·rename_i U;obtain⟨k1,h1⟩:=gD hc _ _ _ U;exact⟨k1,by rw[h1];exact hx⟩
 ·cases hx
end
noncomputable def qj(base:Nat)(call:Call)(a:qF)(s:St):Option (Ex×St):=lim λn=>Qu n base call a s
noncomputable def qc9(call:Call)(l:Nat)(args:List qd)(h:List qh):Option (XX×List qh×Bool):=lim λn=>round n call l args h
section
variable{base:Nat}{call:Call}
theorem Zk{a:qF}{s:St}(x:Ex×St):qj base call a s=some x↔∃n,Qu n base call a s=some x:=yC (λn m U=>qY (CLe.refl _) U a s) x
theorem qdT(s:St):qj base call .skip s=some (.nor,s):=X7 _
theorem uV(ops:List Zz)(s:St):qj base call (.reg ops) s=Qe base call [] ops s:=X7 _
theorem qdR(ops:List Zi)(s:St):qj base call (.draw ops) s=qZ base call (ops.filterMap (·.o.dst)) ops [] s:=X7 _
theorem qdS(id:Nat)(s:St):qj base call (.exit id) s=some (.exit id,s):=X7 _
theorem qgV(s:St):qj base call .ret s=some (.ret,s):=X7 _
def WJ(f:St->Option (Ex×St)):Option (Ex×St)->Option (Ex×St)
 |some (.nor,s)=>f s
 |r=>r
theorem qgW(a b:qF)(s:St):qj base call (.seq a b) s=WJ (qj base call b) (qj base call a s):=by
 apply Option.ext;intro x;rw[Zk];constructor
 ·rintro⟨n,h⟩;simp only[Qu]at h;split at h;·rename_i U;rw[(Zk _).2 ⟨n,U⟩];exact(Zk _).2 ⟨n,h⟩
  ·rename_i Y;rw[(Zk _).2 ⟨n,h⟩];unfold WJ;split;·rename_i U;cases U;exact absurd h (Y _)
   ·rfl
 ·intro h;unfold WJ at h;split at h;·rename_i U;obtain⟨n1,h1⟩:=(Zk _).1 U;obtain⟨n2,h2⟩:=(Zk _).1 h;refine⟨max n1 n2,?_⟩;simp only[Qu];rw[qY (CLe.refl _) (Nat.le_max_left n1 n2) _ _ _ h1];exact qY (CLe.refl _) (Nat.le_max_right n1 n2) _ _ _ h2
  ·rename_i Y;obtain⟨n1,h1⟩:=(Zk _).1 h;refine⟨n1,?_⟩;simp only[Qu];rw[h1];split;·rename_i U;cases U;exact absurd h (Y _)
   ·rfl
theorem qdQ(q:qA)(a b:qF)(s:St):qj base call (.cond q a b) s=match ev s.t q with
  |.bool true=>qj base call a s
  |.bool false=>qj base call b s
  |_=>none:=by
 simp only[qj,Qu]
 generalize ev s.t q=v
 cases v with
 |bool b=>cases b<;>rfl
 |_=>exact X7 _
def LM(id:Nat):Option (Ex×St)->Option (Ex×St)
 |some (.exit j,s)=>if j=id then some (.nor,s)else some (.exit j,s)
 |r=>r
theorem qaY(id:Nat)(b:qF)(s:St):qj base call (.block id b) s=LM id (qj base call b s):=by
 apply Option.ext;intro x;rw[Zk];constructor
 ·rintro⟨n,h⟩;simp only[Qu]at h;split at h;·rename_i U;rw[(Zk _).2 ⟨n,U⟩];exact h
  ·rename_i Y;rw[(Zk _).2 ⟨n,h⟩];unfold LM;split;·rename_i U;cases U;exact absurd h (Y _ _)
   ·rfl
 ·intro h;unfold LM at h;split at h;·rename_i U;obtain⟨n1,h1⟩:=(Zk _).1 U;refine⟨n1,?_⟩;simp only[Qu];rw[h1];exact h
  ·rename_i Y;obtain⟨n1,h1⟩:=(Zk _).1 h;refine⟨n1,?_⟩;simp only[Qu];rw[h1];split;·rename_i U;cases U;exact absurd h (Y _ _)
   ·rfl
theorem qg(b:qF)(s:St):qj base call (.loop b) s=WJ (qj base call (.loop b)) (qj base call b s):=by
 apply Option.ext;intro x;rw[Zk];constructor
 ·rintro⟨n,h⟩;simp only[Qu]at h
  cases n with
  |zero=>cases h
  |succ n=>
   simp only[iter]at h;split at h;·rename_i U;rw[(Zk _).2 ⟨n+1,U⟩];exact(Zk _).2 ⟨n+1,kS (λs=>Le.refl _) n (n+1) zo _ _ h⟩
   ·rename_i Y;rw[(Zk _).2 ⟨n+1,h⟩];unfold WJ;split;·rename_i U;cases U;exact absurd h (Y _)
    ·rfl
 ·intro h;unfold WJ at h;split at h;·rename_i U;obtain⟨n1,h1⟩:=(Zk _).1 U;obtain⟨n2,h2⟩:=(Zk _).1 h;refine⟨max n1 n2+1,?_⟩;simp only[Qu,iter]at h2⊢;rw[qY (CLe.refl _) (show n1<=max n1 n2+1 by omega) _ _ _ h1];exact kS (λs=>qY (CLe.refl _) (show n2<=max n1 n2+1 by omega) b s) n2 (max n1 n2) zo _ _ h2
  ·rename_i Y;obtain⟨n1,h1⟩:=(Zk _).1 h;refine⟨n1+1,?_⟩;simp only[Qu,iter];rw[qY (CLe.refl _) (Nat.le_succ n1) _ _ _ h1];split;·rename_i U;cases U;exact absurd h (Y _)
   ·rfl
theorem zc(f:qA)(ps:List Nat)(asg body:qF)(s:St):qj base call (.rfun f ps asg body) s=Qu 0 base call (.rfun f ps asg body) s:=by rw[qj];exact X7 _
theorem zN{l:Nat}{args:List qd}{h:List qh}(x:XX×List qh×Bool):qc9 call l args h=some x↔∃n,round n call l args h=some x:=yC (λn m U=>gL (CLe.refl _) U) x
def yZ(base l:Nat)(t:List qd)(ps:List Nat)(asg body:qF)(s:St):Ex->Option (XX×List qh×Bool)
 |.nor=>some (Qc base (.ret (.bool true)) (s.h.set l (.loop t ps asg body .ready none)) s.e)
 |.ret=>some (Qc base (.ret (.bool false)) (s.h.set l (.loop t ps asg body .done (some .ret))) s.e)
 |.exit id=>some (Qc base (.ret (.bool false)) (s.h.set l (.loop t ps asg body .done (some (.exit id)))) s.e)
 |.pan _=>none
theorem vQ{l:Nat}{args:List qd}{h:List qh}{t:List qd}{ps:List Nat}{asg body:qF}{st:LSt}{pend:Option qjO}{s:St}{t1:List qd}{ab:List Nat}{a7 a1:qF}{U:Option qjO}{x:Ex}{s2:St}{t2:List qd}{aa:List Nat}{a6 Y:qF}{st2:LSt}{a8:Option qjO}{r:XX×List qh×Bool}(h0:h[l]?=some (.loop t ps asg body st pend))(hl:args.length=ps.length)(h1:qj h.length call asg ⟨qao t ps (args.map qd.dim),h,false⟩=some (.nor,s))(h2:s.h[l]?=some (.loop t1 ab a7 a1 .ready U))(h3:qj h.length call body {s with h:=s.h.set l (.loop t1 ab a7 a1 .busy U)}=some (x,s2))(h4:s2.h[l]?=some (.loop t2 aa a6 Y st2 a8))(h5:yZ h.length l t2 aa a6 Y s2 x=some r):qc9 call l args h=some r:=by obtain⟨n1,e1⟩:=(Zk _).1 h1;obtain⟨n2,e2⟩:=(Zk _).1 h3;refine(zN _).2 ⟨max n1 n2,?_⟩;simp only[round,h0];rw[if_neg (by simp[hl]),qY (CLe.refl _) (Nat.le_max_left n1 n2) _ _ _ e1];simp only[h2];rw[qY (CLe.refl _) (Nat.le_max_right n1 n2) _ _ _ e2];simp only[h4];cases x<;>exact h5
end
section
variable{F:FuncId->Option qv}{X:qar}
noncomputable def W(F:FuncId->Option qv)(X:qar):Call:=qbs (run F X)
structure qdr (X:qar):Prop where
 mono:qnu X
 cont:∀f g,X f=some g->∀c,Wi c->∀aS h x,g (qbs c) aS h=some x->∃k,g (c k) aS h=some x
theorem qjX(hX:qdr X){fv:qd}{aS:List qd}{h:List qh}(x:XX×List qh×Bool):W F X fv aS h=some x↔∃n,run F X n fv aS h=some x:=gG (Fh hX.mono) x
theorem qvG(hX:qdr X){f:FuncId}{first args cap:List qd}{h:List qh}{fn:qv}(h1:X f=none)(h2:F f=some fn): W F X (.fn f first cap) args h=qaW fn h (qj h.length (W F X) fn.code ⟨(first++args++cap).map qd.dim++List.replicate (fn.ntmps - ((first++args++cap).map qd.dim).length) (.tup []),h,false⟩):=by
 have U:=Fh (F:=F) hX.mono;apply Option.ext;intro x;rw[qjX hX];constructor
 ·rintro⟨n,hn⟩
  cases n with
  |zero=>cases hn
  |succ n=>
   rw[qne h1 h2]at hn
   cases hq:Qu n h.length (run F X n) fn.code ⟨(first++args++cap).map qd.dim++List.replicate (fn.ntmps - ((first++args++cap).map qd.dim).length) (.tup []),h,false⟩with
   |none=>rw[hq]at hn;cases hn
   |some y=>rw[hq]at hn;have e:=(Zk y).2 ⟨n,qY (qbo U n) (jm _) _ _ _ hq⟩;rw[W,e];exact hn
 ·intro hn
  cases hq:qj h.length (W F X) fn.code ⟨(first++args++cap).map qd.dim++List.replicate (fn.ntmps - ((first++args++cap).map qd.dim).length) (.tup []),h,false⟩with
  |none=>rw[hq]at hn;cases hn
  |some y=>rw[hq]at hn;obtain⟨k,hk⟩:=(Zk y).1 hq;obtain⟨m,hm⟩:=ZQ U _ _ _ hk;refine⟨max k m+1,?_⟩;rw[qne h1 h2,qY (U m _ (Nat.le_max_right k m)) (Nat.le_max_left k m) _ _ _ hm];exact hn
theorem qqu(hX:qdr X){f:FuncId}{first args cap:List qd}{h:List qh}{g:Call->List qd->List qh->Option (XX×List qh×Bool)}(h1:X f=some g): W F X (.fn f first cap) args h=g (W F X) (first++args++cap) h:=by
 have U:=Fh (F:=F) hX.mono;apply Option.ext;intro x;rw[qjX hX];constructor
 ·rintro⟨n,hn⟩
  cases n with
  |zero=>cases hn
  |succ n=>rw[qi1 h1]at hn;exact hX.mono f g h1 _ _ (qbo U n) _ _ _ hn
 ·intro hn;obtain⟨k,hk⟩:=hX.cont f g h1 _ U _ _ _ hn;exact⟨k+1,by rw[qi1 h1];exact hk⟩
theorem qtn(hX:qdr X){l:Nat}{args:List qd}{h:List qh}:W F X (.yld l) args h=qc9 (W F X) l args h:=by
 have U:=Fh (F:=F) hX.mono;apply Option.ext;intro x;rw[qjX hX,zN];constructor
 ·rintro⟨n,hn⟩
  cases n with
  |zero=>cases hn
  |succ n=>exact⟨n,gL (qbo U n) (jm _) _ hn⟩
 ·rintro⟨k,hk⟩;obtain⟨m,hm⟩:=qfb U hk;exact⟨max k m+1,gL (U m _ (Nat.le_max_right k m)) (Nat.le_max_left k m) _ hm⟩
end
def lkp(t:List qd)(i:Nat):qd:=t.getD i .undef
section
variable{base:Nat}{call:Call}{p:XR}{s:St}{t:List qd}{h:List qh}
theorem qwP(t:List qd)(i:Nat):ev t (.t i)=(lkp t i).dim:=rfl
theorem qwO(t:List qd)(v:qd):ev t (.c v)=v.dim:=rfl
theorem qu6(t:List qd)(i:Nat):raw t (.t i)=lkp t i:=rfl
theorem qu5(t:List qd)(v:qd):raw t (.c v)=v:=rfl
def up(t:List qd)(i:Nat)(v:qd):List qd:=t.set i v
theorem qR(t:List qd)(i:Nat)(v:qd):(up t i v).length=t.length:=by simp[up]
theorem qoZ{i:Nat}{v:qd}(h:i<t.length):lkp (up t i v) i=v:=by simp[lkp,up,List.getD,h]
theorem qo0{i j:Nat}{v:qd}(h:i≠j):lkp (up t i v) j=lkp t j:=by simp[lkp,up,List.getD,List.getElem?_set_ne h]
theorem qh4(a:qd)(t:List qd):lkp (a::t) 0=a:=rfl
theorem qh3(a:qd)(t:List qd)(i:Nat):lkp (a::t) (i+1)=lkp t i:=rfl
theorem qlT(d:Nat)(v:qd)(t:List qd):put (some d) v t=up t d v:=rfl
theorem qlS(v:qd)(t:List qd):put none v t=t:=rfl
theorem qgz:qd.undef.dim=.undef:=rfl
theorem qkt(b:Bool):(qd.bool b).dim=.bool b:=rfl
theorem qn2(k:IntKind)(n:Int):(qd.int k n).dim=.int k n:=rfl
theorem qn5(s:List UInt8):(qd.str s).dim=.str s:=rfl
theorem qdE:qd.nilptr.dim=.nilptr:=rfl
theorem qn4(i o:Nat):(qd.ptr i o).dim=.ptr i o:=rfl
theorem qkv(cs:List qd)(o:Nat):(qd.iptr cs o).dim=.iptr cs o:=rfl
theorem qqV(xs:List qd):(qd.lst xs .no).dim=.lst xs .no:=rfl
theorem qku(xs:List qd):(qd.lst xs .full).dim=.lst xs .full:=rfl
theorem qn3(xs:List qd)(k:Nat):(qd.lst xs (.own k)).dim=.lst xs .no:=rfl
theorem qaT:qd.nilfunc.dim=.nilfunc:=rfl
theorem qqT(f:FuncId)(a b:List qd):(qd.fn f a b).dim=.fn f a b:=rfl
theorem qn7(i:Nat):(qd.yld i).dim=.yld i:=rfl
theorem uR:qd.niliface.dim=.niliface:=rfl
theorem qgy(t:TypeId)(v:qd):(qd.iface t v).dim=.iface t v:=rfl
theorem qn1(cs:List qd):(qd.agg cs).dim=.agg cs:=rfl
theorem qn6(cs:List qd):(qd.tup cs).dim=.tup cs:=rfl
def Ld(dst:Option Nat)(s:St):Option qd->Option (Ex×St)
 |some v=>some (.nor,{s with t:=put dst v s.t})
 |none=>none
theorem qiP(dst:Option Nat)(t:List qd)(h:List qh)(e:Bool)(v:qd):Ld dst ⟨t,h,e⟩ (some v)=some (.nor,⟨put dst v t,h,e⟩):=rfl
theorem qM(f:St->Option (Ex×St))(s:St):WJ f (some (.nor,s))=f s:=rfl
theorem qjp(f:St->Option (Ex×St))(s:St):WJ f (some (.ret,s))=some (.ret,s):=rfl
theorem qfm(f:St->Option (Ex×St))(id:Nat)(s:St):WJ f (some (.exit id,s))=some (.exit id,s):=rfl
theorem qjo(f:St->Option (Ex×St))(v:qd)(s:St):WJ f (some (.pan v,s))=some (.pan v,s):=rfl
theorem qdv(id:Nat)(s:St):LM id (some (.nor,s))=some (.nor,s):=rfl
theorem qdx(id:Nat)(s:St):LM id (some (.ret,s))=some (.ret,s):=rfl
theorem qdw(id:Nat)(v:qd)(s:St):LM id (some (.pan v,s))=some (.pan v,s):=rfl
theorem qaD(id j:Nat)(s:St):LM id (some (.exit j,s))=if j=id then some (.nor,s)else some (.exit j,s):=rfl
def qnR(v:qd)(a b:Option (Ex×St)):Option (Ex×St):=match v with
 |.bool true=>a
 |.bool false=>b
 |_=>none
theorem qkN(q:qA)(a b:qF)(s:St):qj base call (.cond q a b) s=qnR (ev s.t q) (qj base call a s) (qj base call b s):=qdQ q a b s
def qcv(v:qd)(b:Bool)(yes no:Option (Ex×St)):Option (Ex×St):=match v with
 |.bool c=>if c==b then yes else no
 |.tup []=>no
 |_=>none
theorem qpl:Qe base call p [] s=some (.nor,s):=rfl
theorem qc0(d:Option Nat)(o:AOp)(os:List Zz):Qe base call p (⟨d,o,none⟩::os) s=WJ (Qe base call (Z7 p ⟨d,o,none⟩) os) (qQ base call p d o s):=by simp only[Qe,wanted];unfold WJ;split<;>split<;>simp_all
theorem qix(d:Option Nat)(o:AOp)(j:Nat)(b:Bool)(os:List Zz): Qe base call p (⟨d,o,some (j,b)⟩::os) s=qcv (lkp s.t j) b (WJ (Qe base call (Z7 p ⟨d,o,some (j,b)⟩) os) (qQ base call p d o s)) (Qe base call (Z7 p {dst:=d,op:=.pick (.c .undef) (.c .undef) (.c .undef),guard:=some (j,b)}) os {s with t:=put d (.tup []) s.t}):=by
 simp only[Qe,wanted,lkp];generalize s.t.getD j .undef=v
 cases v with
 |bool c=>
  simp only[qcv]
  cases hc:c==b with
  |false=>simp
  |true=>simp only[if_true];unfold WJ;split<;>split<;>simp_all
 |tup vs=>cases vs<;>rfl
 |_=>rfl
theorem qsj(d:Option Nat)(x:qA):qQ base call p d (.mov x) s=some (.nor,{s with t:=put d (ev s.t x) s.t}):=rfl
theorem qsa(d:Option Nat)(x:qA):qQ base call p d (.asg x) s=some (.nor,{s with t:=put d (raw s.t x) (Z0 s.t x)}):=rfl
def KZ(v a b:qd):Option qd:=match v with
 |.bool true=>some a
 |.bool false=>some b
 |_=>none
theorem qeY(a b:qd):KZ (.bool true) a b=some a:=rfl
theorem qbC(a b:qd):KZ (.bool false) a b=some b:=rfl
theorem qiw(d:Option Nat)(c a b:qA):qQ base call p d (.pick c a b) s=Ld d s (KZ (ev s.t c) (ev s.t a) (ev s.t b)):=by
 simp only[qQ,pureV];generalize ev s.t c=v
 cases v with
 |bool b=>cases b<;>rfl
 |_=>rfl
theorem QK(d:Option Nat)(o:AOp)(ho:o.effs=false)(h1:∀cs,o≠.new cs)(h2:∀k x,o≠.box k x)(h3:∀k x,o≠.ld k x)(h4:∀sh z ok m key,o≠.lk sh z ok m key:=by simp):qQ base call p d o s=Ld d s (pureV s.t o):=by cases o<;>first|exact absurd rfl (h4 _ _ _ _ _)|(simp[AOp.effs]at ho h1 h2 h3<;>(simp only[qQ];cases pureV s.t _<;>rfl))
def faV(off:Nat):qd->Option qd
 |.ptr i o=>some (.ptr i (o+off))
 |.iptr cs o=>some (.iptr cs (o+off))
 |_=>none
theorem qol(off i o:Nat):faV off (.ptr i o)=some (.ptr i (o+off)):=rfl
theorem qkQ(off o:Nat)(cs:List qd):faV off (.iptr cs o)=some (.iptr cs (o+off)):=rfl
theorem qsd(d:Option Nat)(off:Nat)(a:qA):qQ base call p d (.fa off a) s=Ld d s (faV off (ev s.t a)):=by rw[QK _ _ rfl (by simp) (by simp) (by simp)];simp only[pureV];cases ev s.t a<;>rfl
theorem qm4(d:Option Nat)(op:BinOp)(x y:qA):qQ base call p d (.bin op x y) s=Ld d s (gx op (ev s.t x) (ev s.t y)):=QK _ _ rfl (by simp) (by simp) (by simp)
theorem qsl(d:Option Nat)(op:UnOp)(x:qA):qQ base call p d (.un op x) s=Ld d s (unV op (ev s.t x)):=QK _ _ rfl (by simp) (by simp) (by simp)
def qlz:qd->Option qd
 |.ptr i o=>some (.ptr i o)
 |.iptr cs o=>some (.iptr cs o)
 |.fn f a b=>some (.fn f a b)
 |.yld l=>some (.yld l)
 |.iface u v=>some (.iface u v)
 |_=>none
theorem qiv(d:Option Nat)(x:qA):qQ base call p d (.nilc x) s=Ld d s (qlz (ev s.t x)):=by rw[QK _ _ rfl (by simp) (by simp) (by simp)];simp only[pureV];cases ev s.t x<;>rfl
theorem qin(i o:Nat):qlz (.ptr i o)=some (.ptr i o):=rfl
theorem qeQ(cs:List qd)(o:Nat):qlz (.iptr cs o)=some (.iptr cs o):=rfl
def qeC(b:Bool)(v:qd):Option qd:=match b,v with
 |true,.str s=>some (.int .i64 s.length)
 |false,.lst xs _=>some (.int .i64 xs.length)
 |false,.sl _ _ len _ _=>some (.int .i64 len)
 |false,.nils=>some (.int .i64 0)
 |false,.empt=>some (.int .i64 0)
 |_,_=>none
theorem qna(d:Option Nat)(b:Bool)(x:qA):qQ base call p d (.len b x) s=Ld d s (qeC b (ev s.t x)):=by rw[QK _ _ rfl (by simp) (by simp) (by simp)];cases b<;>simp only[pureV]<;>cases ev s.t x<;>rfl
theorem qlo(s:List UInt8):qeC true (.str s)=some (.int .i64 s.length):=rfl
theorem qln(xs:List qd)(f:WV):qeC false (.lst xs f)=some (.int .i64 xs.length):=rfl
def Xy(k:Nat)(s i:qd):Option qd:=match s,i with
 |.lst xs _,.int _ n=>
  if 0<=n/\n<xs.length then
   match xs[n.toNat]? with
   |some x=>if x.cells.length=k then some (.iptr x.cells 0)else none
   |none=>none
  else none
 |.sl id o len _ _,.int _ n=>if 0<=n/\n<len then some (.ptr id (o+n.toNat*k))else none
 |_,_=>none
theorem qiu(d:Option Nat)(k:Nat)(x i:qA):qQ base call p d (.ixaL k x i) s=Ld d s (Xy k (ev s.t x) (ev s.t i)):=by rw[QK _ _ rfl (by simp) (by simp) (by simp)];simp only[pureV];cases ev s.t x<;>cases ev s.t i<;>rfl
theorem ZE{k:Nat}{xs:List qd}{f:WV}{j:IntKind}{n:Nat}{x:qd}(hx:xs[n]?=some x)(hk:x.cells.length=k):Xy k (.lst xs f) (.int j n)=some (.iptr x.cells 0):=by have hn:n<xs.length:=(jd.1 hx).1;simp only[Xy,Int.toNat_natCast,hx];rw[if_pos ⟨zo,zo⟩,if_pos hk]
def qul(off:Nat)(k:Option Nat):qd->Option qd
 |.agg cs=>cut cs off k
 |_=>none
theorem qkT(off:Nat)(k:Option Nat)(cs:List qd):qul off k (.agg cs)=cut cs off k:=rfl
theorem qse(d:Option Nat)(off:Nat)(k:Option Nat)(x:qA):qQ base call p d (.fld off k x) s=Ld d s (qul off k (ev s.t x)):=by rw[QK _ _ rfl (by simp) (by simp) (by simp)];simp only[pureV];cases ev s.t x<;>rfl
theorem qlE(d:Option Nat)(z:List qd)(ps:List (Nat×Nat×qA)):qQ base call p d (.build z ps) s=Ld d s ((qI z (ps.map λ(o,n,x)=>(o,n,ev s.t x))).map .agg):=QK _ _ rfl (by simp) (by simp) (by simp)
theorem qsk(d:Option Nat)(cs:List qd):qQ base call p d (.new cs) s=some (.nor,{s with t:=put d (.ptr s.h.length 0) s.t,h:=s.h++[.cells (cs.map qd.dim)]}):=rfl
theorem qsf(d:Option Nat)(k:Option Nat)(a:qA):qQ base call p d (.ld k a) s=Ld d s (Xg s.h (ev s.t a) k):=by simp only[qQ];cases Xg s.h (ev s.t a) k<;>rfl
theorem qhP(cs:List qd)(o:Nat)(k:Option Nat):Xg h (.iptr cs o) k=cut cs o k:=rfl
theorem qli{i o:Nat}{k:Option Nat}{cs:List qd}(hi:h[i]?=some (.cells cs)):Xg h (.ptr i o) k=cut cs o k:=by simp only[Xg,hi]
theorem Lu(cs:List qd)(o:Nat):cut cs o none=(cs[o]?).map qd.dim:=rfl
theorem ZI{cs:List qd}{o k:Nat}(h:o+k<=cs.length):cut cs o (some k)=some (.agg (((cs.drop o).take k).map qd.dim)):=if_pos h
def stV(base:Nat)(k:Option Nat)(a v:qd)(h:List qh):Option (List qh×Bool):=match a with
 |.ptr id o=>
  match h[id]? with
  |some (.cells cs)=>
   let vs:=match k with|none=>[v]|some _=>v.dim.cells.map qd.dim
   if vs.length=k.getD 1/\o+vs.length<=cs.length/\vs.all qd.storable then
    some (h.set id (.cells (splice cs o vs)),!(Nat.ble base id||qm (id+1) vs))
   else none
  |_=>none
 |_=>none
def stW(d:Option Nat)(t:List qd)(e:Bool):Option (List qh×Bool)->Option (Ex×St)
 |some (h,e')=>some (.nor,{t:=put d .undef t,h,e:=e||e'})
 |none=>none
theorem qmg(d:Option Nat)(t:List qd)(e e':Bool)(h:List qh):stW d t e (some (h,e'))=some (.nor,⟨put d .undef t,h,e||e'⟩):=rfl
theorem quZ(d:Option Nat)(k:Option Nat)(a x:qA):qQ base call p d (.st k a x) s=stW d (Z0 s.t x) s.e (stV base k (ev s.t a) (raw s.t x) s.h):=by
 simp only[qQ,stV]
 cases ev s.t a with
 |ptr id o=>
  simp only
  cases s.h[id]? with
  |none=>rfl
  |some b=>
   cases b with
   |cells cs=>cases k<;>(simp only;split<;>rfl)
   |_=>rfl
 |_=>rfl
end
section
variable{base:Nat}{call:Call}{p:XR}{s:St}{t:List qd}{h:List qh}
def qnO(d:Option Nat)(s:St):Option (XX×List qh×Bool)->Option (Ex×St)
 |some (.ret v,h,e)=>some (.nor,{t:=put d v.dim s.t,h,e:=s.e||e})
 |some (.pan v,h,e)=>some (.pan v,{s with h,e:=s.e||e})
 |none=>none
theorem qpi(d:Option Nat)(f:qA)(args:List qA):qQ base call p d (.call f args) s=qnO d s (call (ev s.t f) (args.map (ev s.t)) s.h):=by
 simp only[qQ]
 cases call (ev s.t f) (args.map (ev s.t)) s.h with
 |none=>rfl
 |some r=>obtain⟨r,h,e⟩:=r;cases r<;>rfl
theorem qf2(d:Option Nat)(t:List qd)(h h':List qh)(e e':Bool)(v:qd):qnO d ⟨t,h,e⟩ (some (.ret v,h',e'))=some (.nor,⟨put d v.dim t,h',e||e'⟩):=rfl
theorem qf1(d:Option Nat)(t:List qd)(h h':List qh)(e e':Bool)(v:qd):qnO d ⟨t,h,e⟩ (some (.pan v,h',e'))=some (.pan v,⟨t,h',e||e'⟩):=rfl
theorem Z5(h l:List qh):(h++l)[h.length]?=l[0]?:=by rw[jc (jm _),Nat.sub_self]
theorem Zo(h l:List qh)(k:Nat):(h++l)[h.length+k]?=l[k]?:=by rw[jc zo,Nat.add_sub_cancel_left]
theorem qnf(h l:List qh)(b:qh):(h++l).set h.length b=h++l.set 0 b:=by rw[List.set_append_right _ _ (jm _),Nat.sub_self]
theorem kr(h l:List qh)(k:Nat)(b:qh):(h++l).set (h.length+k) b=h++l.set k b:=by rw[List.set_append_right _ _ zo,Nat.add_sub_cancel_left]
theorem qoA{h l:List qh}{i:Nat}(hi:i<h.length):(h++l)[i]?=h[i]?:=ja hi
theorem qpG{h l:List qh}{i:Nat}{b:qh}(hi:i<h.length):(h++l).set i b=h.set i b++l:=List.set_append_left _ _ hi
theorem qhS{n:Nat}{h l:List qh}{v:qd}(hl:h.length=n)(hv:v.lower n=true):Qc n (.ret v) (h++l) false=(.ret v,h,false):=by subst hl;simp[Qc,hv]
theorem qeB{n:Nat}{h:List qh}{v:qd}(hl:h.length=n)(hv:v.lower n=true):Qc n (.ret v) h false=(.ret v,h,false):=by subst hl;simp[Qc,hv]
theorem Qd{n:Nat}{H h:List qh}{v:qd}(hc:H.take n=h)(hv:v.lower n=true):Qc n (.ret v) H false=(.ret v,h,false):=by simp[Qc,hv,hc]
theorem qi5(h:List qh)(i:Nat)(a b:qh):(h.set i a).set i b=h.set i b:=List.set_set ..
theorem qoz{h l:List qh}{n:Nat}(hl:h.length=n):(h++l)[n]?=l[0]?:=by subst hl;exact Z5 h l
theorem qpE{h l:List qh}{n:Nat}{b:qh}(hl:h.length=n):(h++l).set n b=h++l.set 0 b:=by subst hl;exact qnf h l b
theorem qi4{h l:List qh}{n k:Nat}{b:qh}(hl:h.length=n):(h++l).set (n+k) b=h++l.set k b:=by subst hl;exact kr h l k b
end
section
variable{base:Nat}{call:Call}{p:XR}{s:St}
def qvv(d:Option Nat)(s:St)(k:Nat)(vs:List qd):Option (Ex×St):=if vs.length=k/\vs.all qd.storable then some (.nor,{s with t:=put d (.ptr s.h.length 0) s.t,h:=s.h++[.cells vs]})else none
theorem qsb(d:Option Nat)(k:Nat)(x:qA):qQ base call p d (.box k x) s=qvv d s k ((ev s.t x).cells.map qd.dim):=rfl
theorem qnK(d:Option Nat)(t:List qd)(h:List qh)(e:Bool)(k:Nat)(vs:List qd):qvv d ⟨t,h,e⟩ k vs=if vs.length=k/\vs.all qd.storable then some (.nor,⟨put d (.ptr h.length 0) t,h++[.cells vs],e⟩)else none:=rfl
def qte(ty:TypeId)(v:qd):Option qd:=match v with
 |.undef=>none
 |v=>some (.iface ty v)
theorem qsh(d:Option Nat)(ty:TypeId)(x:qA):qQ base call p d (.mkI ty x) s=Ld d s (qte ty (ev s.t x)):=by rw[QK _ _ rfl (by simp) (by simp) (by simp)];simp only[pureV];cases ev s.t x<;>rfl
theorem qlw(ty:TypeId)(cs:List qd):qte ty (.agg cs)=some (.iface ty (.agg cs)):=rfl
theorem qlx(ty:TypeId)(k:IntKind)(n:Int):qte ty (.int k n)=some (.iface ty (.int k n)):=rfl
theorem qsg(d:Option Nat)(f:FuncId)(a b:List qA):qQ base call p d (.mkF f a b) s=some (.nor,{s with t:=put d (.fn f (a.map (ev s.t)) (b.map (ev s.t))) s.t}):=rfl
def qla(s i:qd):Option qd:=match s,i with
 |.str l,.int _ n=>if 0<=n then(l[n.toNat]?).map λb=>.int .u8 b.toNat else none
 |_,_=>none
theorem qm9(d:Option Nat)(x i:qA):qQ base call p d (.ixS x i) s=Ld d s (qla (ev s.t x) (ev s.t i)):=by rw[QK _ _ rfl (by simp) (by simp) (by simp)];simp only[pureV];cases ev s.t x<;>cases ev s.t i<;>rfl
theorem qlb{l:List UInt8}{k:IntKind}{n:Nat}{b:UInt8}(h:l[n]?=some b):qla (.str l) (.int k n)=some (.int .u8 b.toNat):=by simp only[qla,Int.toNat_natCast,h,jI];rw[if_pos (Int.natCast_nonneg n)]
def quk(i:Nat)(v:qd):Option qd:=match v with
 |.tup vs=>(vs[i]?).map qd.dim
 |_=>none
theorem qm7(d:Option Nat)(x:qA)(i:Nat):qQ base call p d (.ext x i) s=Ld d s (quk i (ev s.t x)):=by rw[QK _ _ rfl (by simp) (by simp) (by simp)];simp only[pureV];cases ev s.t x<;>rfl
theorem qkP(i:Nat)(vs:List qd):quk i (.tup vs)=(vs[i]?).map qd.dim:=rfl
def quh(neg:Bool)(x y:qd):Option qd:=match x,y with
 |.bool a,.bool b=>some (.bool ((a==b)!=neg))
 |_,_=>none
theorem qm5(d:Option Nat)(neg:Bool)(x y:qA):qQ base call p d (.eqb neg x y) s=Ld d s (quh neg (ev s.t x) (ev s.t y)):=by rw[QK _ _ rfl (by simp) (by simp) (by simp)];simp only[pureV];cases ev s.t x<;>cases ev s.t y<;>rfl
theorem qgR(neg a b:Bool):quh neg (.bool a) (.bool b)=some (.bool ((a==b)!=neg)):=rfl
def qqj(k:Nat)(neg:Bool)(x y:qd):Option qd:=(qql k x y).map λb=>.bool (b !=neg)
theorem qm6(d:Option Nat)(k:Nat)(neg:Bool)(x y:qA):qQ base call p d (.eqi k neg x y) s=Ld d s (qqj k neg (ev s.t x) (ev s.t y)):=QK _ _ rfl (by simp) (by simp) (by simp)
def quc(k:IntKind)(v:qd):Option qd:=match v with
 |.int _ n=>some (.int k (k.wrap n))
 |_=>none
theorem qsc(d:Option Nat)(k:IntKind)(x:qA):qQ base call p d (.cvi k x) s=Ld d s (quc k (ev s.t x)):=by rw[QK _ _ rfl (by simp) (by simp) (by simp)];simp only[pureV];cases ev s.t x<;>rfl
theorem qkp(k j:IntKind)(n:Int):quc k (.int j n)=some (.int k (k.wrap n)):=rfl
def qwL:qd->Option qd
 |.lst xs _=>(ye xs).map .str
 |_=>none
theorem qkq(n:Int)(f:WV):qwL (.lst [.int .u8 n] f)=some (.str [UInt8.ofNat n.toNat]):=rfl
def mmV(isMax:Bool)(x y:qd):Option qd:=match x,y with
 |.int k a,.int _ b=>some (.int k (if isMax then(if b > a then b else a)else(if b<a then b else a)))
 |_,_=>none
theorem qsi(d:Option Nat)(m:Bool)(x y:qA):qQ base call p d (.mm m x y) s=Ld d s (mmV m (ev s.t x) (ev s.t y)):=by rw[QK _ _ rfl (by simp) (by simp) (by simp)];simp only[pureV];cases ev s.t x<;>cases ev s.t y<;>rfl
theorem qrX(k j:IntKind)(a b:Nat):mmV true (.int k (a:Int)) (.int j (b:Int))=some (.int k ((max a b:Nat):Int)):=by simp only[mmV,if_true];congr 2;split<;>omega
theorem qo9(k j:IntKind)(a b:Int):mmV false (.int k a) (.int j b)=some (.int k (if b<a then b else a)):=rfl
def qw6(s:St)(v:qd):Option (Ex×St):=match v with
 |.iface u v=>some (.pan (.iface u v),s)
 |_=>none
theorem qeV(s:St)(u:TypeId)(v:qd):qw6 s (.iface u v)=some (.pan (.iface u v),s):=rfl
end
section
variable{base:Nat}{call:Call}{p:XR}{s:St}
def qrm(len:Nat)(k:Option Nat)(a i:qd):Option qd:=match a,i with
 |.agg cs,.int _ n=>if 0<=n/\n<(len:Int)then cut cs (n.toNat*k.getD 1) k else none
 |_,_=>none
theorem qm8(d:Option Nat)(len:Nat)(k:Option Nat)(a i:qA):qQ base call p d (.ixA len k a i) s=Ld d s (qrm len k (ev s.t a) (ev s.t i)):=by rw[QK _ _ rfl (by simp) (by simp) (by simp)];simp only[pureV];cases ev s.t a<;>cases ev s.t i<;>rfl
theorem qk9{len n:Nat}{j:IntKind}{cs:List qd}{v:qd}(hn:n<len)(hv:cs[n]?=some v):qrm len none (.agg cs) (.int j n)=some v.dim:=by simp only[qrm];rw[if_pos ⟨zo,zo⟩];simp only[Int.toNat_natCast,Option.getD_none,Nat.mul_one,Lu,hv,jI]
end
section
variable{base:Nat}{call:Call}{p q:XR}{s:St}{t:List qd}{h:List qh}
def AOp.isApp:AOp->Bool
 |.app ..=>true
 |_=>false
def qe:List Zz->Bool
 |[]=>true
 |o::os=>!o.op.isApp&&qe os
def qr(s:St):AOp->Option qd
 |.mov x=>some (ev s.t x)
 |.pick c a b=>KZ (ev s.t c) (ev s.t a) (ev s.t b)
 |.ld k a=>Xg s.h (ev s.t a) k
 |.bin op x y=>gx op (ev s.t x) (ev s.t y)
 |.un op x=>unV op (ev s.t x)
 |.fa off a=>faV off (ev s.t a)
 |.nilc x=>qlz (ev s.t x)
 |.len b x=>qeC b (ev s.t x)
 |.ixaL k x i=>Xy k (ev s.t x) (ev s.t i)
 |.fld off k x=>qul off k (ev s.t x)
 |.ixS x i=>qla (ev s.t x) (ev s.t i)
 |.ixA l k a i=>qrm l k (ev s.t a) (ev s.t i)
 |.ext x i=>quk i (ev s.t x)
 |.eqb n x y=>quh n (ev s.t x) (ev s.t y)
 |.eqi k n x y=>qqj k n (ev s.t x) (ev s.t y)
 |.cvi k x=>quc k (ev s.t x)
 |.mm m x y=>mmV m (ev s.t x) (ev s.t y)
 |.mkI t x=>qte t (ev s.t x)
 |.lk sh z ok m key=>WW s.h sh z ok (ev s.t m) (ev s.t key)
 |o=>pureV s.t o
def AOp.plain:AOp->Bool
 |.asg ..|.new ..|.box ..|.st ..|.call ..|.app ..|.pan ..|.hx ..=>false
 |_=>true
theorem KB{d:Option Nat}{o:AOp}(ho:o.plain=true):qQ base call p d o s=Ld d s (qr s o):=by
 cases o<;>simp only[AOp.plain,jl]at ho;case mov=>rfl
 case pick=>exact qiw _ _ _ _
 case ld=>exact qsf _ _ _
 case bin=>exact qm4 _ _ _ _
 case un=>exact qsl _ _ _
 case fa=>exact qsd _ _ _
 case nilc=>exact qiv _ _
 case len=>exact qna _ _ _
 case ixaL=>exact qiu _ _ _ _
 case fld=>exact qse _ _ _ _
 case ixS=>exact qm9 _ _ _
 case ixA=>exact qm8 _ _ _ _ _
 case ext=>exact qm7 _ _ _
 case eqb=>exact qm5 _ _ _ _
 case eqi=>exact qm6 _ _ _ _ _
 case cvi=>exact qsc _ _ _
 case mm=>exact qsi _ _ _ _
 case mkI=>exact qsh _ _ _
 case lk sh z ok m key=>simp only[qQ,qr];generalize WW s.h sh z ok (ev s.t m) (ev s.t key)=r;cases r<;>rfl
 all_goals (simp only[qQ,qr];generalize pureV s.t _=r;cases r<;>rfl)
theorem zP{d:Option Nat}{o:AOp}(ho:o.isApp=false):qQ base call p d o s=qQ base call q d o s:=by cases o<;>first|rfl|(simp[AOp.isApp]at ho)
def gv(q:Bool)(v:qd):qd:=bif q then v else .tup []
def QC(q:Bool)(d:Option Nat)(s:St)(r:Option qd)(k:St->Option (Ex×St)):Option (Ex×St):=bif q then(match r with|some v=>k {s with t:=put d v s.t}|none=>none)else k {s with t:=put d (.tup []) s.t}
def qqk(c:Bool)(r:Option qd):Option qd:=bif c then r else some (.tup [])
def zp(g:qd)(b:Bool)(d:Option Nat)(s:St)(r:Option qd)(k:St->Option (Ex×St)):Option (Ex×St):=match g with
 |.bool c=>QC (c==b) d s r k
 |.tup []=>QC false d s r k
 |_=>none
def L6(g:qd)(b:Bool)(d:Option Nat)(s:St)(r:Option (Ex×St))(k:St->Option (Ex×St)):Option (Ex×St):=match g with
 |.bool c=>bif c==b then WJ k r else k {s with t:=put d (.tup []) s.t}
 |.tup []=>k {s with t:=put d (.tup []) s.t}
 |_=>none
def vW(base:Nat)(call:Call):List Zz->St->Option (Ex×St)
 |[],s=>some (.nor,s)
 |o::os,s=>
  match o.guard with
  |none=>WJ (vW base call os) (qQ base call [] o.dst o.op s)
  |some (j,b)=>
   match o.op.plain with
   |true=>zp (lkp s.t j) b o.dst s (qr s o.op) (vW base call os)
   |false=>L6 (lkp s.t j) b o.dst s (qQ base call [] o.dst o.op s) (vW base call os)
theorem qdd:∀(os:List Zz)(p:XR)(s:St),qe os=true->Qe base call p os s=vW base call os s
 |[],p,s,_=>rfl
 |o::os,p,s,hn=>by
  simp only[qe,jk,Bool.not_eq_true']at hn;obtain⟨d,op,g⟩:=o;have ih:=λp s=>qdd os p s hn.2
  cases g with
  |none=>simp only[qc0,vW];rw[zP (q:=[]) hn.1];congr 1;funext s;exact ih _ s
  |some jb=>
   obtain⟨j,b⟩:=jb;simp only[qix,vW];have e1:(Qe base call (Z7 p ⟨d,op,some (j,b)⟩) os)=vW base call os:=funext λs=>ih _ s;rw[e1,ih,zP (q:=[]) hn.1]
   cases U:op.plain with
   |true=>
    simp only;rw[KB U];generalize qr s op=r;generalize lkp s.t j=g
    cases g with
    |bool c=>
     simp only[qcv,zp,QC]
     cases c==b with
     |true=>cases r<;>rfl
     |false=>rfl
    |tup vs=>cases vs<;>rfl
    |_=>rfl
   |false=>
    simp only;generalize lkp s.t j=g
    cases g with
    |bool c=>simp only[qcv,L6];cases c==b<;>rfl
    |tup vs=>cases vs<;>rfl
    |_=>rfl
theorem qu7{ops:List Zz}(hn:qe ops=true):qj base call (.reg ops) s=vW base call ops s:=by rw[uV,qdd ops [] s hn]
theorem qpu{ops:List Zz}(U:qe ops=false):qj base call (.reg ops) s=Qe base call [] ops s:=uV ops s
theorem qu4:vW base call [] s=some (.nor,s):=rfl
theorem qso(d:Option Nat)(o:AOp)(os:List Zz):vW base call (⟨d,o,none⟩::os) s=WJ (vW base call os) (qQ base call [] d o s):=rfl
theorem qps(d:Option Nat)(o:AOp)(j:Nat)(b:Bool)(os:List Zz)(ho:o.plain=true):vW base call (⟨d,o,some (j,b)⟩::os) s=zp (lkp s.t j) b d s (qr s o) (vW base call os):=by simp only[vW,ho]
theorem qpr(d:Option Nat)(o:AOp)(j:Nat)(b:Bool)(os:List Zz)(ho:o.plain=false):vW base call (⟨d,o,some (j,b)⟩::os) s=L6 (lkp s.t j) b d s (qQ base call [] d o s) (vW base call os):=by simp only[vW,ho]
theorem qho(q c b:Bool)(d:Option Nat)(s:St)(r:Option qd)(k:St->Option (Ex×St)):zp (gv q (.bool c)) b d s r k=QC q d s (qqk (c==b) r) k:=by cases q<;>cases c<;>cases b<;>rfl
theorem qa7(q:Bool)(d:Nat)(t:List qd)(h:List qh)(e:Bool)(v:qd)(k:St->Option (Ex×St)):QC q (some d) ⟨t,h,e⟩ (some v) k=k ⟨up t d (gv q v),h,e⟩:=by cases q<;>rfl
theorem qhb(c:Bool)(v:qd):qqk c (some v)=some (gv c v):=by cases c<;>rfl
theorem qeb(b:Bool)(d:Option Nat)(s:St)(r:Option (Ex×St))(k:St->Option (Ex×St)):L6 (.bool b) b d s r k=WJ k r:=by cases b<;>rfl
theorem quv(q:Bool)(v:qd):gv q (gv q v)=gv q v:=by cases q<;>rfl
theorem qqU(q:Bool)(v:qd):(gv q v).dim=gv q v.dim:=by cases q<;>rfl
theorem qlI(c x:Bool):KZ (.bool c) (gv c (.bool x)) (.bool false)=some (.bool (c&&x)):=by cases c<;>rfl
theorem qpn(c x:Bool):KZ (.bool c) (.bool true) (gv (!c) (.bool x))=some (.bool (c||x)):=by cases c<;>rfl
theorem qoL(b:Bool):(b==true)=b:=by cases b<;>rfl
theorem qk8(b:Bool):(b==false)=!b:=by cases b<;>rfl
end
section
variable{s:St}{d:Option Nat}{k:St->Option (Ex×St)}
theorem quy(q:Bool)(v:qd)(h':List qh)(kk:Option Nat):QC q d s (Xg h' (gv q v) kk) k=QC q d s (Xg h' v kk) k:=by cases q<;>rfl
theorem qri(q:Bool)(v:qd)(b:Bool):QC q d s (qeC b (gv q v)) k=QC q d s (qeC b v) k:=by cases q<;>rfl
theorem qtw(c:Bool)(v:qd)(op:UnOp):qqk c (unV op (gv c v))=qqk c (unV op v):=by cases c<;>rfl
theorem qoI(q c:Bool)(v:qd)(op:UnOp):QC q d s (qqk c (unV op (gv q v))) k=QC q d s (qqk c (unV op v)) k:=by cases q<;>rfl
theorem qrh(q:Bool)(v:qd)(w:qd):QC q d s (qla (gv q v) w) k=QC q d s (qla v w) k:=by cases q<;>rfl
theorem qoG(q:Bool)(v:qd)(w:qd):QC q d s (qla w (gv q v)) k=QC q d s (qla w v) k:=by cases q<;>rfl
theorem qrg(q:Bool)(v:qd)(op:BinOp)(w:qd):QC q d s (gx op (gv q v) w) k=QC q d s (gx op v w) k:=by cases q<;>rfl
theorem qoF(q:Bool)(v:qd)(op:BinOp)(w:qd):QC q d s (gx op w (gv q v)) k=QC q d s (gx op w v) k:=by cases q<;>rfl
theorem qoH(q:Bool)(v:qd)(w z:qd):QC q d s (KZ (gv q v) w z) k=QC q d s (KZ v w z) k:=by cases q<;>rfl
theorem qkZ(q:Bool)(v:qd)(w z:qd):QC q d s (KZ w z (gv q v)) k=QC q d s (KZ w z v) k:=by cases q<;>rfl
end
section
variable{base:Nat}{call:Call}{s:St}
def qrW(dsts:List Nat):Option (Ex×St)->Option (Ex×St)
 |some (.pan v,s)=>some (.pan v,{s with t:=XW dsts s.t})
 |r=>r
theorem qr5{base:Nat}{call:Call}{p:XR}{d:Option Nat}{o:AOp}{s s':St}{x:Ex}(ho:o.effs=false)(h:qQ base call p d o s=some (x,s')):x=.nor:=by
 cases o<;>simp only[AOp.effs,Bool.true_eq_false]at ho;case new=>simp only[qQ,jj,Prod.mk.injEq]at h;exact h.1.symm
 case box=>
  simp only[qQ]at h;split at h;·cases h;rfl
  ·cases h
 case ld=>
  simp only[qQ]at h
  cases hl:Xg s.h (ev s.t _) _ with
  |none=>rw[hl]at h;cases h
  |some v=>rw[hl]at h;cases h;rfl
 case lk sh z ok m key=>
  simp only[qQ]at h
  cases hl:WW s.h sh z ok (ev s.t m) (ev s.t key)with
  |none=>rw[hl]at h;cases h
  |some v=>rw[hl]at h;cases h;rfl
 all_goals simp only[qQ]at h;revert h;generalize pureV s.t _=r;intro h;cases r<;>cases h;rfl
theorem qif(dsts:List Nat)(s:St):qrW dsts (some (.nor,s))=some (.nor,s):=rfl
theorem qig(dsts:List Nat)(v:qd)(t:List qd)(h:List qh)(e:Bool):qrW dsts (some (.pan v,⟨t,h,e⟩))=some (.pan v,⟨XW dsts t,h,e⟩):=rfl
theorem ZR{b:qF}(I:Nat->St->Prop)(Q:Ex->St->Prop)(step:∀k s,I k s->(∃s' k',qj base call b s=some (.nor,s')/\k'<k/\I k' s')\/∃x s',qj base call b s=some (x,s')/\x≠.nor/\Q x s'): ∀k s,I k s->∃x s',qj base call (.loop b) s=some (x,s')/\Q x s':=by
 intro k
 induction k using Nat.strongRecOn with
 |ind k ih=>
  intro s hs;rw[qg];rcases step k s hs with⟨s',k',h1,h2,h3⟩|⟨x,s',h1,h2,h3⟩;·rw[h1];exact ih k' h2 s' h3
  ·rw[h1];refine⟨x,s',?_,h3⟩
   cases x with
   |nor=>exact absurd rfl h2
   |_=>rfl
end
section
variable{s:St}{t:List qd}{h:List qh}
def ZT(v:qd)(i:Nat)(t:List qd):List qd:=match v with
 |.lst xs (.own _)=>t.set i (.lst xs .no)
 |_=>t
theorem qgH(t:List qd)(i:Nat):Z0 t (.t i)=ZT (lkp t i) i t:=rfl
theorem qgG(t:List qd)(v:qd):Z0 t (.c v)=t:=rfl
theorem qdF(b:Bool)(i:Nat)(t:List qd):ZT (.bool b) i t=t:=rfl
theorem qgB(k:IntKind)(n:Int)(i:Nat)(t:List qd):ZT (.int k n) i t=t:=rfl
theorem qgE(b:List UInt8)(i:Nat)(t:List qd):ZT (.str b) i t=t:=rfl
theorem uS(i:Nat)(t:List qd):ZT .nilptr i t=t:=rfl
theorem qgD(a o:Nat)(i:Nat)(t:List qd):ZT (.ptr a o) i t=t:=rfl
theorem qdH(cs:List qd)(o:Nat)(i:Nat)(t:List qd):ZT (.iptr cs o) i t=t:=rfl
theorem qgA(cs:List qd)(i:Nat)(t:List qd):ZT (.agg cs) i t=t:=rfl
theorem qgF(cs:List qd)(i:Nat)(t:List qd):ZT (.tup cs) i t=t:=rfl
theorem qkw(f:FuncId)(a b:List qd)(i:Nat)(t:List qd):ZT (.fn f a b) i t=t:=rfl
theorem qkx(xs:List qd)(i:Nat)(t:List qd):ZT (.lst xs .no) i t=t:=rfl
theorem qdG(xs:List qd)(i:Nat)(t:List qd):ZT (.lst xs .full) i t=t:=rfl
theorem qgC(xs:List qd)(k i:Nat)(t:List qd):ZT (.lst xs (.own k)) i t=up t i (.lst xs .no):=rfl
theorem qaU(ty:TypeId)(v:qd)(i:Nat)(t:List qd):ZT (.iface ty v) i t=t:=rfl
def qnS(v:Option qd)(vs:Option (List qd)):Option (List qd):=match v,vs with
 |some v,some vs=>some (v::vs)
 |_,_=>none
theorem qpw:ZC s []=some []:=rfl
theorem qpx(i:Nat)(rs:List qaq):ZC s (.tmp i::rs)=qnS (some (lkp s.t i).dim) (ZC s rs):=by simp only[ZC,lkp];cases ZC s rs<;>rfl
theorem qlV(a:Nat)(k:Option Nat)(rs:List qaq):ZC s (.cell a k::rs)=qnS (Xg s.h (lkp s.t a) k) (ZC s rs):=by simp only[ZC,lkp];cases Xg s.h (s.t.getD a .undef) k<;>cases ZC s rs<;>rfl
theorem qdA(v:qd)(vs:List qd):qnS (some v) (some vs)=some (v::vs):=rfl
theorem qeS(v:qd):QF [v]=v:=rfl
theorem qeR:QF []=.tup []:=rfl
theorem qeT(a b:qd)(vs:List qd):QF (a::b::vs)=.tup (a::b::vs):=rfl
def qqi(h:List qh)(s:St):Option (List qd)->Option (XX×List qh×Bool)
 |some vs=>some (Qc h.length (.ret (QF vs)) s.h s.e)
 |none=>none
theorem qgQ(h:List qh)(s:St)(vs:List qd):qqi h s (some vs)=some (Qc h.length (.ret (QF vs)) s.h s.e):=rfl
theorem qog(fn:qv)(h:List qh)(s:St):qaW fn h (some (.nor,s))=qqi h s (ZC s fn.results):=by simp only[qaW];cases ZC s fn.results<;>rfl
theorem qoh(fn:qv)(h:List qh)(s:St):qaW fn h (some (.ret,s))=qqi h s (ZC s fn.results):=by simp only[qaW];cases ZC s fn.results<;>rfl
end
section
theorem qiH(x:qA):(AOp.mov x).plain=true:=Eq.trans rfl rfl
theorem qkF(x:qA):(AOp.mov x).effs=false:=Eq.trans rfl rfl
theorem qhH(x:qA):(AOp.mov x).isApp=false:=Eq.trans rfl rfl
theorem qe3(c a b:qA):(AOp.pick c a b).plain=true:=Eq.trans rfl rfl
theorem qei(c a b:qA):(AOp.pick c a b).isApp=false:=Eq.trans rfl rfl
theorem qbF(z:List qd)(ps:List (Nat×Nat×qA)):(AOp.build z ps).plain=true:=Eq.trans rfl rfl
theorem qdK(z:List qd)(ps:List (Nat×Nat×qA)):(AOp.build z ps).effs=false:=Eq.trans rfl rfl
theorem qba(z:List qd)(ps:List (Nat×Nat×qA)):(AOp.build z ps).isApp=false:=Eq.trans rfl rfl
theorem qgM(k:Nat)(z:List qd)(l:Nat)(ps:List (Nat×qA)):(AOp.list k z l ps).effs=false:=Eq.trans rfl rfl
theorem qeg(k:Nat)(z:List qd)(l:Nat)(ps:List (Nat×qA)):(AOp.list k z l ps).isApp=false:=Eq.trans rfl rfl
theorem qlK(k:Option Nat)(a:qA):(AOp.ld k a).plain=true:=Eq.trans rfl rfl
theorem qoa(k:Option Nat)(a:qA):(AOp.ld k a).effs=false:=Eq.trans rfl rfl
theorem qk3(k:Option Nat)(a:qA):(AOp.ld k a).isApp=false:=Eq.trans rfl rfl
theorem qe2(x:qA):(AOp.nilc x).plain=true:=Eq.trans rfl rfl
theorem qgN(x:qA):(AOp.nilc x).effs=false:=Eq.trans rfl rfl
theorem qeh(x:qA):(AOp.nilc x).isApp=false:=Eq.trans rfl rfl
theorem qiC(op:BinOp)(x y:qA):(AOp.bin op x y).plain=true:=Eq.trans rfl rfl
theorem qhy(op:BinOp)(x y:qA):(AOp.bin op x y).isApp=false:=Eq.trans rfl rfl
theorem qiD(n:Bool)(x y:qA):(AOp.eqb n x y).plain=true:=Eq.trans rfl rfl
theorem qhA(n:Bool)(x y:qA):(AOp.eqb n x y).isApp=false:=Eq.trans rfl rfl
theorem qhB(k:Nat)(n:Bool)(x y:qA):(AOp.eqi k n x y).isApp=false:=Eq.trans rfl rfl
theorem qlL(op:UnOp)(x:qA):(AOp.un op x).plain=true:=Eq.trans rfl rfl
theorem qk6(op:UnOp)(x:qA):(AOp.un op x).isApp=false:=Eq.trans rfl rfl
theorem qiG(f:FuncId)(a b:List qA):(AOp.mkF f a b).plain=true:=Eq.trans rfl rfl
theorem qhG(f:FuncId)(a b:List qA):(AOp.mkF f a b).isApp=false:=Eq.trans rfl rfl
theorem qej(k:Nat)(x:qA)(l h:Option qA):(AOp.subL k x l h).isApp=false:=Eq.trans rfl rfl
theorem qlJ(o:Nat)(a:qA):(AOp.fa o a).plain=true:=Eq.trans rfl rfl
theorem qn9(o:Nat)(a:qA):(AOp.fa o a).effs=false:=Eq.trans rfl rfl
theorem qk2(o:Nat)(a:qA):(AOp.fa o a).isApp=false:=Eq.trans rfl rfl
theorem qe1(k:Nat)(s i:qA):(AOp.ixaL k s i).plain=true:=Eq.trans rfl rfl
theorem qef(k:Nat)(s i:qA):(AOp.ixaL k s i).isApp=false:=Eq.trans rfl rfl
theorem qiE(s i:qA):(AOp.ixS s i).plain=true:=Eq.trans rfl rfl
theorem qhE(s i:qA):(AOp.ixS s i).isApp=false:=Eq.trans rfl rfl
theorem qhD(n:Nat)(k:Option Nat)(a i:qA):(AOp.ixA n k a i).isApp=false:=Eq.trans rfl rfl
theorem qhC(x:qA)(i:Nat):(AOp.ext x i).isApp=false:=Eq.trans rfl rfl
theorem qiF(b:Bool)(x:qA):(AOp.len b x).plain=true:=Eq.trans rfl rfl
theorem qhF(b:Bool)(x:qA):(AOp.len b x).isApp=false:=Eq.trans rfl rfl
theorem qk4(b:Bool)(x y:qA):(AOp.mm b x y).isApp=false:=Eq.trans rfl rfl
theorem qkE(x:qA):(AOp.asg x).effs=true:=Eq.trans rfl rfl
theorem qhx(x:qA):(AOp.asg x).isApp=false:=Eq.trans rfl rfl
theorem qhI(cs:List qd):(AOp.new cs).isApp=false:=Eq.trans rfl rfl
theorem qhz(k:Nat)(x:qA):(AOp.box k x).isApp=false:=Eq.trans rfl rfl
theorem qob(k:Option Nat)(a x:qA):(AOp.st k a x).effs=true:=Eq.trans rfl rfl
theorem qk5(k:Option Nat)(a x:qA):(AOp.st k a x).isApp=false:=Eq.trans rfl rfl
theorem qe0(f:qA)(aS:List qA):(AOp.call f aS).plain=false:=Eq.trans rfl rfl
theorem qgL(f:qA)(aS:List qA):(AOp.call f aS).effs=true:=Eq.trans rfl rfl
theorem qee(f:qA)(aS:List qA):(AOp.call f aS).isApp=false:=Eq.trans rfl rfl
theorem qkD(k:Nat)(x y:qA):(AOp.app k x y).effs=true:=Eq.trans rfl rfl
theorem qhw(k:Nat)(x y:qA):(AOp.app k x y).isApp=true:=Eq.trans rfl rfl
theorem qeM(n:Nat)(b:Bool):(qd.bool b).lower n=true:=Eq.trans rfl rfl
theorem qh9(n:Nat)(k:IntKind)(z:Int):(qd.int k z).lower n=true:=Eq.trans rfl rfl
theorem qib(n:Nat)(s:List UInt8):(qd.str s).lower n=true:=Eq.trans rfl rfl
theorem vB(n:Nat):qd.nilptr.lower n=true:=Eq.trans rfl rfl
theorem qia(n:Nat)(xs:List qd)(f:WV):(qd.lst xs f).lower n=qm n xs:=Eq.trans rfl rfl
theorem qh8(n:Nat)(cs:List qd):(qd.agg cs).lower n=qm n cs:=Eq.trans rfl rfl
theorem qic(n:Nat)(cs:List qd):(qd.tup cs).lower n=qm n cs:=Eq.trans rfl rfl
theorem qeK(n:Nat):qm n []=true:=Eq.trans rfl rfl
theorem qbx(n:Nat)(v:qd)(vs:List qd):qm n (v::vs)=(v.lower n&&qm n vs):=Eq.trans rfl rfl
def qqh(rs:List qaq)(h:List qh):Option (Ex×St)->Option (XX×List qh×Bool)
 |some (.nor,s)|some (.ret,s)=>qqi h s (ZC s rs)
 |some (.pan v,s)=>some (Qc h.length (.pan v) s.h s.e)
 |_=>none
theorem qof(fn:qv)(h:List qh)(r:Option (Ex×St)):qaW fn h r=qqh fn.results h r:=by
 cases r with
 |none=>rfl
 |some r=>obtain⟨x,s⟩:=r;cases x<;>first|rfl|exact qog _ _ _|exact qoh _ _ _
theorem qkJ(rs:List qaq)(h:List qh)(s:St):qqh rs h (some (.nor,s))=qqi h s (ZC s rs):=rfl
theorem qkL(rs:List qaq)(h:List qh)(s:St):qqh rs h (some (.ret,s))=qqi h s (ZC s rs):=rfl
theorem qkK(rs:List qaq)(h:List qh)(s:St)(v:qd):qqh rs h (some (.pan v,s))=some (Qc h.length (.pan v) s.h s.e):=rfl
theorem qvH{F:FuncId->Option qv}{X:qar}(hX:qdr X){f:FuncId}{first args cap:List qd}{h:List qh}{fn:qv}(h1:X f=none)(h2:F f=some fn): W F X (.fn f first cap) args h=qqh fn.results h (qj h.length (W F X) fn.code ⟨(first++args++cap).map qd.dim++List.replicate (fn.ntmps - ((first++args++cap).map qd.dim).length) (.tup []),h,false⟩):=by rw[qvG hX h1 h2,qof]
end
section
variable{h:List qh}
theorem qf3(cs:List qd):(qd.agg cs).cells=cs:=rfl
theorem qf4(k:IntKind)(n:Int):(qd.int k n).cells=[.int k n]:=rfl
theorem qf7(s:List UInt8):(qd.str s).cells=[.str s]:=rfl
theorem qdz(b:Bool):(qd.bool b).cells=[.bool b]:=rfl
theorem qf5(xs:List qd)(f:WV):(qd.lst xs f).cells=[.lst xs f]:=rfl
theorem qf6(i o:Nat):(qd.ptr i o).cells=[.ptr i o]:=rfl
theorem uI:qd.nilptr.cells=[.nilptr]:=rfl
theorem qkd(f:FuncId)(a b:List qd):(qd.fn f a b).cells=[.fn f a b]:=rfl
theorem KT:qd.niliface.cells=[.niliface]:=rfl
theorem qaH(t:TypeId)(v:qd):(qd.iface t v).cells=[.iface t v]:=rfl
theorem qf8(i:Nat):(qd.yld i).cells=[.yld i]:=rfl
theorem qmi(k:IntKind)(n:Int):(qd.int k n).storable=true:=Eq.trans rfl rfl
theorem qmk(s:List UInt8):(qd.str s).storable=true:=Eq.trans rfl rfl
theorem qja(b:Bool):(qd.bool b).storable=true:=Eq.trans rfl rfl
theorem qmj(xs:List qd)(f:WV):(qd.lst xs f).storable=true:=Eq.trans rfl rfl
theorem qko(c:qd)(cs:List qd)(o k:Nat):cut (c::cs) o (some k)=if o+k<=(c::cs).length then some (.agg ((((c::cs).drop o).take k).map qd.dim))else none:=rfl
def ldB(k:Option Nat)(o:Nat):Option qh->Option qd
 |some (.cells cs)=>cut cs o k
 |_=>none
theorem qlh(i o:Nat)(k:Option Nat):Xg h (.ptr i o) k=ldB k o h[i]?:=by
 simp only[Xg,ldB]
 cases h[i]? with
 |none=>rfl
 |some b=>cases b<;>rfl
theorem qhQ(k:Option Nat)(o:Nat)(cs:List qd):ldB k o (some (.cells cs))=cut cs o k:=rfl
def qu3(k:Option Nat)(v:qd):List qd:=match k with
 |none=>[v]
 |some _=>v.dim.cells.map qd.dim
theorem qiN(v:qd):qu3 none v=[v]:=rfl
theorem qiO(k:Nat)(v:qd):qu3 (some k) v=v.dim.cells.map qd.dim:=rfl
def stB(base:Nat)(k:Option Nat)(id o:Nat)(vs:List qd)(h:List qh):Option qh->Option (List qh×Bool)
 |some (.cells cs)=>if vs.length=k.getD 1/\o+vs.length<=cs.length/\vs.all qd.storable then some (h.set id (.cells (splice cs o vs)),!(Nat.ble base id||qm (id+1) vs))else none
 |_=>none
theorem qpK(base:Nat)(k:Option Nat)(id o:Nat)(v:qd):stV base k (.ptr id o) v h=stB base k id o (qu3 k v) h h[id]?:=by
 simp only[stV,stB]
 cases h[id]? with
 |none=>rfl
 |some b=>cases b<;>cases k<;>rfl
theorem qi9(base:Nat)(k:Option Nat)(id o:Nat)(vs cs:List qd):stB base k id o vs h (some (.cells cs))=if vs.length=k.getD 1/\o+vs.length<=cs.length/\vs.all qd.storable then some (h.set id (.cells (splice cs o vs)),!(Nat.ble base id||qm (id+1) vs))else none:=rfl
theorem qxe(h:List qh)(k:Nat):Nat.ble h.length (h.length+k)=true:=Nat.ble_eq_true_of_le (Nat.le_add_right _ _)
theorem qn{a b:Nat}(h:a<=b):Nat.ble a b=true:=Nat.ble_eq_true_of_le h
end
theorem W6{e r:Option (Ex×St)}(hr:e=r){Q:Ex->St->Prop}(h:∃x s',e=some (x,s')/\Q x s'):∃x s',r=some (x,s')/\Q x s':=hr▸h
mutual
theorem yc:∀v:qd,v.beq v=true
 |.undef|.nilptr|.nilfunc|.niliface|.nilmap|.nils|.empt=>rfl
 |.sl ..=>by simp[qd.beq]
 |.mp i=>by simp[qd.beq]
 |.bool b=>by simp[qd.beq]
 |.int k n=>by simp[qd.beq]
 |.str s=>by simp[qd.beq]
 |.ptr i o=>by simp[qd.beq]
 |.iptr cs o=>by simp[qd.beq,XA cs]
 |.lst xs f=>by simp[qd.beq,XA xs]
 |.fn f a b=>by simp[qd.beq,XA a,XA b]
 |.yld i=>by simp[qd.beq]
 |.iface t v=>by simp[qd.beq,yc v]
 |.agg cs=>by simp[qd.beq,XA cs]
 |.tup cs=>by simp[qd.beq,XA cs]
theorem XA:∀vs:List qd,qat vs vs=true
 |[]=>rfl
 |v::vs=>by simp[qat,yc v,XA vs]
end
section
variable{base:Nat}{call:Call}{dsts:List Nat}{s:St}{pend:List (Nat×Chk)}{h:List qh}
def DD(h:List qh):List (Nat×Chk)->Bool
 |[]=>true
 |c::cs=>c.2.ok h&&DD h cs
theorem qkg:DD h []=true:=Eq.trans rfl rfl
theorem qgb(i:Nat)(c:Chk)(cs:List (Nat×Chk)):DD h ((i,c)::cs)=(c.ok h&&DD h cs):=rfl
theorem qkf(l:List (Nat×Chk)):l.all (λc=>c.2.ok h)=DD h l:=by
 induction l with
 |nil=>rfl
 |cons c l ih=>simp only[List.all_cons,DD,ih]
def qty(v:qd):Option qd->Bool
 |some w=>v.beq w
 |none=>false
theorem qfT(v:qd):qty v (some v)=true:=yc v
theorem qqN(a:qd)(k:Option Nat)(v:qd):Chk.ok h (.ld a k v)=qty v (Xg h a k):=by simp only[Chk.ok];cases Xg h a k<;>rfl
def qvu(cs:List qd):Option qh->Bool
 |some (.cells ds)=>qat cs ds
 |_=>false
theorem qfR(cs:List qd):qvu cs (some (.cells cs))=true:=XA cs
theorem qnP(id:Nat)(cs:List qd):Chk.ok h (.box id cs)=qvu cs h[id]?:=by
 simp only[Chk.ok]
 cases h[id]? with
 |none=>rfl
 |some b=>cases b<;>rfl
def De(cl:Nat):List (Nat×Chk)->List (Nat×Chk)
 |[]=>[]
 |c::cs=>bif cl.testBit c.1 then De cl cs else c::De cl cs
theorem qdW(cl:Nat):De cl []=[]:=rfl
theorem qa2(cl i:Nat)(c:Chk)(cs:List (Nat×Chk)):De cl ((i,c)::cs)=bif cl.testBit i then De cl cs else(i,c)::De cl cs:=rfl
theorem qg4(cl:Nat)(l:List (Nat×Chk)):l.filter (λc=>!cl.testBit c.1)=De cl l:=by
 induction l with
 |nil=>rfl
 |cons c l ih=>simp only[List.filter_cons,De,ih];cases cl.testBit c.1<;>rfl
def qky(dsts:List Nat)(pend:List (Nat×Chk))(k:List (Nat×Chk)->St->Option (Ex×St)):Option (Ex×St)->Option (Ex×St)
 |some (.nor,s)=>bif DD s.h pend then k pend s else none
 |some (.pan v,s)=>some (.pan v,{s with t:=XW dsts s.t})
 |_=>none
theorem qgI(k:List (Nat×Chk)->St->Option (Ex×St))(s:St):qky dsts pend k (some (.nor,s))=bif DD s.h pend then k pend s else none:=rfl
theorem qgJ(k:List (Nat×Chk)->St->Option (Ex×St))(t:List qd)(e:Bool)(v:qd):qky dsts pend k (some (.pan v,⟨t,h,e⟩))=some (.pan v,⟨XW dsts t,h,e⟩):=rfl
theorem qkC:qZ base call dsts [] pend s=some (.nor,s):=rfl
theorem qkA{d:Option Nat}{o:AOp}{ix cl:Nat}{ds:List Zi}(ho:o.effs=true):qZ base call dsts (⟨⟨d,o,none⟩,ix,cl⟩::ds) pend s=qky dsts (De cl pend) (qZ base call dsts ds) (qQ base call [] d o s):=by
 simp only[qZ,wanted,ho,if_true,qkf,qg4]
 cases hr:qQ base call [] d o s with
 |none=>rfl
 |some r=>
  obtain⟨x,s'⟩:=r
  cases x with
  |nor=>simp only[qky];cases DD s'.h (De cl pend)<;>rfl
  |pan v=>rfl
  |exit i=>rfl
  |ret=>rfl
def AOp.light:AOp->Bool
 |.asg ..|.new ..|.box ..|.st ..|.call ..|.app ..|.pan ..|.ld ..|.hx ..|.lk ..=>false
 |_=>true
theorem qdI{d:Option Nat}{o:AOp}{ix cl:Nat}{ds:List Zi}(ho:o.light=true):qZ base call dsts (⟨⟨d,o,none⟩,ix,cl⟩::ds) pend s=WJ (qZ base call dsts ds pend) (qQ base call [] d o s):=by
 have he:o.effs=false:=by cases o<;>simp_all[AOp.light,AOp.effs]
 have hc:gU s o=none:=by cases o<;>simp_all[AOp.light,gU]
 simp only[qZ,wanted,he,jl,if_false,hc]
 cases hr:qQ base call [] d o s with
 |none=>rfl
 |some r=>obtain⟨x,s'⟩:=r;have:=qr5 he hr;subst this;rfl
def ldD(d:Option Nat)(s:St)(a:qd)(k:Option Nat)(ix:Nat)(pend:List (Nat×Chk))(f:List (Nat×Chk)->St->Option (Ex×St)):Option qd->Option (Ex×St)
 |some v=>f ((ix,.ld a k v)::pend) {s with t:=put d v s.t}
 |none=>none
theorem qlj(d:Option Nat)(t:List qd)(e:Bool)(a:qd)(k:Option Nat)(ix:Nat)(f:List (Nat×Chk)->St->Option (Ex×St))(v:qd):ldD d ⟨t,h,e⟩ a k ix pend f (some v)=f ((ix,.ld a k v)::pend) ⟨put d v t,h,e⟩:=rfl
theorem qn8{d:Option Nat}{k:Option Nat}{a:qA}{ix cl:Nat}{ds:List Zi}:qZ base call dsts (⟨⟨d,.ld k a,none⟩,ix,cl⟩::ds) pend s=ldD d s (ev s.t a) k ix pend (qZ base call dsts ds) (Xg s.h (ev s.t a) k):=by simp only[qZ,wanted,AOp.effs,jl,if_false,gU,qQ];cases Xg s.h (ev s.t a) k<;>rfl
theorem qkB{d:Option Nat}{cs:List qd}{ix cl:Nat}{ds:List Zi}:qZ base call dsts (⟨⟨d,.new cs,none⟩,ix,cl⟩::ds) pend s=qZ base call dsts ds ((ix,.box s.h.length (cs.map qd.dim))::pend) {s with t:=put d (.ptr s.h.length 0) s.t,h:=s.h++[.cells (cs.map qd.dim)]}:=by simp only[qZ,wanted,AOp.effs,jl,if_false,gU,qQ]
end
theorem qhX(x:qA):(AOp.mov x).light=true:=Eq.trans rfl rfl
theorem qeG(c a b:qA):(AOp.pick c a b).light=true:=Eq.trans rfl rfl
theorem qbr(z:List qd)(ps:List (Nat×Nat×qA)):(AOp.build z ps).light=true:=Eq.trans rfl rfl
theorem qeE(k:Nat)(z:List qd)(l:Nat)(ps:List (Nat×qA)):(AOp.list k z l ps).light=true:=Eq.trans rfl rfl
theorem qeF(x:qA):(AOp.nilc x).light=true:=Eq.trans rfl rfl
theorem qhT(op:BinOp)(x y:qA):(AOp.bin op x y).light=true:=Eq.trans rfl rfl
theorem qhU(n:Bool)(x y:qA):(AOp.eqb n x y).light=true:=Eq.trans rfl rfl
theorem qlq(op:UnOp)(x:qA):(AOp.un op x).light=true:=Eq.trans rfl rfl
theorem qlp(o:Nat)(a:qA):(AOp.fa o a).light=true:=Eq.trans rfl rfl
theorem qeD(k:Nat)(s i:qA):(AOp.ixaL k s i).light=true:=Eq.trans rfl rfl
theorem qhV(x:qA)(i:Nat):(AOp.ext x i).light=true:=Eq.trans rfl rfl
theorem qhW(b:Bool)(x:qA):(AOp.len b x).light=true:=Eq.trans rfl rfl
section
variable{base:Nat}{call:Call}{p:XR}{s:St}{t:List qd}{h:List qh}
def XZ(k:Nat)(xs ys:List qd):Bool:=decide (xs.length+ys.length<=kD)&&ys.all (λy=>y.cells.length==k&&y.cells.all qd.storable)&&xs.head?.all (λy=>y.cells.length==k)
def qqv(d:Option Nat)(k:Nat)(ys:List qd):Option (List qd×St)->Option (Ex×St)
 |some (xs,s)=>if xs.head?.all (λy=>y.cells.length==k)then some (.nor,{s with t:=put d (.lst (xs++ys) (.own k)) s.t})else none
 |none=>none
def qj5(d:Option Nat)(k:Nat)(s:St)(tk:Option (List qd×St))(x:qd)(ys:Option (List qd)):Option (Ex×St):=match x,ys with
 |.lst xs f,some ys=>
  if ys.isEmpty then some (.nor,{s with t:=put d (qd.lst xs f).dim s.t})
  else if XZ k xs ys=true then
   match f with
   |.full=>some (.nor,{s with t:=put d (.lst (xs++ys) (.own k)) s.t})
   |_=>qqv d k ys tk
  else none
 |_,_=>none
theorem qr9(d:Option Nat)(k:Nat)(x y:qA):qQ base call p d (.app k x y) s=qj5 d k s (gq k p x s) (raw s.t x) (tail (ev s.t y)):=by simp only[qQ,qj5,XZ,jk,decide_eq_true_eq,and_assoc];generalize raw s.t x=v;generalize tail (ev s.t y)=w;generalize gq k p x s=z;cases v<;>rfl
theorem qmn(ys:List qd)(f:WV):tail (.lst ys f)=some ys:=rfl
theorem qmo(b:List UInt8):tail (.str b)=some (zt b):=rfl
theorem qny(d:Option Nat)(k:Nat)(t:List qd)(e:Bool)(tk:Option (List qd×St))(xs:List qd)(f:WV):qj5 d k ⟨t,h,e⟩ tk (.lst xs f) (some [])=some (.nor,⟨put d (qd.lst xs f).dim t,h,e⟩):=rfl
theorem qj6{d:Option Nat}{k:Nat}{t:List qd}{e:Bool}{tk:Option (List qd×St)}{xs ys:List qd}(hy:ys.isEmpty=false)(hc:XZ k xs ys=true):qj5 d k ⟨t,h,e⟩ tk (.lst xs .full) (some ys)=some (.nor,⟨put d (.lst (xs++ys) (.own k)) t,h,e⟩):=by simp only[qj5,hy,hc,jl,if_false,if_true]
theorem qnA{d:Option Nat}{k j:Nat}{s:St}{tk:Option (List qd×St)}{xs ys:List qd}(hy:ys.isEmpty=false)(hc:XZ k xs ys=true):qj5 d k s tk (.lst xs (.own j)) (some ys)=qqv d k ys tk:=by simp only[qj5,hy,hc,jl,if_false,if_true]
theorem qqw{d:Option Nat}{k:Nat}{s:St}{tk:Option (List qd×St)}{xs ys:List qd}(hy:ys.isEmpty=false)(hc:XZ k xs ys=true):qj5 d k s tk (.lst xs .no) (some ys)=qqv d k ys tk:=by simp only[qj5,hy,hc,jl,if_false,if_true]
theorem qfI{d:Option Nat}{k:Nat}{t:List qd}{e:Bool}{xs ys:List qd}(hc:XZ k xs ys=true):qqv d k ys (some (xs,⟨t,h,e⟩))=some (.nor,⟨put d (.lst (xs++ys) (.own k)) t,h,e⟩):=by simp only[XZ,jk]at hc;simp only[qqv,hc.2,if_true]
def qK(p:XR)(i:Nat):Option Src:=(p.find? (·.1==i)).map (·.2)
def qmq(k b:Nat)(s:St)(v:qd):Option (List qd×St):=match v with
 |.lst xs (.own j)=>if j=k then some (xs,{s with t:=s.t.set b (.lst xs .no)})else none
 |_=>none
def qpU(k:Nat)(s:St)(id o:Nat)(c:Option qh):Option (List qd×St):=match c with
 |some (.cells cs)=>
  match cs[o]? with
  |some (.lst xs (.own j))=>if j=k then some (xs,{s with h:=s.h.set id (.cells (cs.set o (.lst xs .no)))})else none
  |_=>none
 |_=>none
def qmp(k:Nat)(s:St)(a:qd):Option (List qd×St):=match a with
 |.ptr id o=>qpU k s id o s.h[id]?
 |_=>none
def qfi(k:Nat)(s:St):Option Src->Option (List qd×St)
 |some (.tmp b)=>qmq k b s (lkp s.t b)
 |some (.cell a)=>qmp k s (ev s.t a)
 |none=>none
def qjk(k i:Nat)(s:St)(v:qd)(src:Option Src):Option (List qd×St):=match v with
 |.lst xs (.own j)=>if j=k then some (xs,{s with t:=s.t.set i (.lst xs .no)})else none
 |_=>qfi k s src
theorem qpW(k:Nat)(i:Nat):gq k p (.t i) s=qjk k i s (lkp s.t i) (qK p i):=by
 simp only[gq,qjk,lkp,qK];generalize hv:s.t.getD i .undef=v
 have key:(match p.find? (·.1==i)with
   |some (_,.tmp b)=>
    match s.t.getD b .undef with
    |.lst xs (.own j)=>if j=k then some (xs,{s with t:=s.t.set b (.lst xs .no)})else none
    |_=>none
   |some (_,.cell a)=>
    match ev s.t a with
    |.ptr id o=>
     match s.h[id]? with
     |some (.cells cs)=>
      match cs[o]? with
      |some (.lst xs (.own j))=>if j=k then some (xs,{s with h:=s.h.set id (.cells (cs.set o (.lst xs .no)))})else none
      |_=>none
     |_=>none
    |_=>none
   |none=>none)=qfi k s ((p.find? (·.1==i)).map (·.2)):=by
  cases p.find? (·.1==i)with
  |none=>rfl
  |some q=>
   obtain⟨_,src⟩:=q
   cases src with
   |tmp b=>rfl
   |cell a=>
    simp only[jI,qfi,qmp]
    cases ev s.t a<;>rfl
 cases v with
 |lst xs f=>cases f<;>first|rfl|exact key
 |_=>exact key
theorem qjl(k i:Nat)(t:List qd)(e:Bool)(xs:List qd)(src:Option Src):qjk k i ⟨t,h,e⟩ (.lst xs (.own k)) src=some (xs,⟨up t i (.lst xs .no),h,e⟩):=by simp[qjk,up]
theorem qmr(k i:Nat)(xs:List qd)(src:Option Src):qjk k i s (.lst xs .no) src=qfi k s src:=rfl
theorem qji(k b:Nat):qfi k s (some (.tmp b))=qmq k b s (lkp s.t b):=rfl
theorem qfj(k:Nat)(a:qA):qfi k s (some (.cell a))=qmp k s (ev s.t a):=rfl
theorem qjj(k b:Nat)(t:List qd)(e:Bool)(xs:List qd):qmq k b ⟨t,h,e⟩ (.lst xs (.own k))=some (xs,⟨up t b (.lst xs .no),h,e⟩):=by simp[qmq,up]
theorem qjh(k id o:Nat):qmp k s (.ptr id o)=qpU k s id o s.h[id]?:=rfl
def qpV(k:Nat)(s:St)(id o:Nat)(cs:List qd)(v:Option qd):Option (List qd×St):=match v with
 |some (.lst xs (.own j))=>if j=k then some (xs,{s with h:=s.h.set id (.cells (cs.set o (.lst xs .no)))})else none
 |_=>none
theorem qb1(k id o:Nat)(cs:List qd):qpU k s id o (some (.cells cs))=qpV k s id o cs cs[o]?:=rfl
theorem qjg(k id o:Nat)(t:List qd)(e:Bool)(cs xs:List qd):qpV k ⟨t,h,e⟩ id o cs (some (.lst xs (.own k)))=some (xs,⟨t,h.set id (.cells (cs.set o (.lst xs .no))),e⟩):=by simp[qpV]
theorem qpJ(i:Nat):qK [] i=none:=rfl
def qL(p:XR)(d:Option Nat)(o:AOp):XR:=match d with
 |none=>p
 |some d=>
  let q:=p.filter λx=>x.1 !=d&&!x.2.hangs d
  match qy o with
  |some s=>if s.hangs d then q else(d,s)::q
  |none=>q
def qN(p:XR)(d:Option Nat):XR:=match d with
 |none=>p.filter λx=>x.2.isTmp
 |some d=>p.filter λx=>x.2.isTmp&&(x.1 !=d&&!x.2.hangs d)
theorem qlP{d:Option Nat}{o:AOp}{g:Option (Nat×Bool)}(ho:o.effs=true):Z7 p ⟨d,o,g⟩=qN p d:=by simp only[Z7,ho,if_true,qN];cases d<;>rfl
theorem qpp{d:Option Nat}{o:AOp}{g:Option (Nat×Bool)}(ho:o.effs=false):Z7 p ⟨d,o,g⟩=qL p d o:=by simp only[Z7,ho,jl,if_false,qL];cases d<;>rfl
end
theorem qnC(k:IntKind)(a b:Int):gx .add (.int k a) (.int k b)=some (.int k (k.wrap (a+b))):=by simp[gx,ky]
theorem qnJ(k:IntKind)(a b:Int):gx .sub (.int k a) (.int k b)=some (.int k (k.wrap (a - b))):=by simp[gx,ky]
theorem qnD(k:IntKind)(a b:Int):gx .eql (.int k a) (.int k b)=some (.bool (a==b)):=by simp[gx,ky]
theorem qnI(k:IntKind)(a b:Int):gx .neq (.int k a) (.int k b)=some (.bool (!(a==b))):=by simp[gx,ky,bne]
theorem qnH(k:IntKind)(a b:Int):gx .lss (.int k a) (.int k b)=some (.bool (ilt a b)):=by simp[gx,ky]
theorem qnG(k:IntKind)(a b:Int):gx .leq (.int k a) (.int k b)=some (.bool (ile a b)):=by simp[gx,ky]
theorem qnF(k:IntKind)(a b:Int):gx .gtr (.int k a) (.int k b)=some (.bool (ilt b a)):=by simp[gx,ky]
theorem qnE(k:IntKind)(a b:Int):gx .geq (.int k a) (.int k b)=some (.bool (ile b a)):=by simp[gx,ky]
theorem qpN(a b:List UInt8):gx .add (.str a) (.str b)=if a.length+b.length<=kD then some (.str (a++b))else none:=rfl
theorem qpO(a b:List UInt8):gx .eql (.str a) (.str b)=some (.bool (a==b)):=rfl
theorem qpR(a b:List UInt8):gx .neq (.str a) (.str b)=some (.bool (!(a==b))):=rfl
theorem qpQ(a b:List UInt8):gx .lss (.str a) (.str b)=some (.bool (Op.bytesLess a b)):=rfl
theorem qpP(a b:List UInt8):gx .gtr (.str a) (.str b)=some (.bool (!(Op.bytesLess a b||a==b))):=rfl
theorem qsG(k:IntKind)(n:Int):unV .neg (.int k n)=some (.int k (k.wrap (0 - n))):=rfl
theorem qsH(b:Bool):unV .not (.bool b)=some (.bool (!b)):=rfl
section
variable{base:Nat}{call:Call}{p:XR}{s:St}
def Wg(k:Nat)(zero:List qd)(len:Nat)(parts:List (Nat×qd)):Option qd:=
 if zero.length=k/\len*k<=2 ^ 24 then
  match qI ((List.replicate len zero).flatten) (parts.map λ(i,x)=>(i*k,k,x))with
  |some cs=>if cs.all qd.storable then some (.lst ((List.range len).map λi=>if k=1 then(cs.getD i .undef)else .agg ((cs.drop (i*k)).take k)) .full)else none
  |none=>none
 else none
theorem qpj(d:Option Nat)(k:Nat)(z:List qd)(len:Nat)(ps:List (Nat×qA)):qQ base call p d (.list k z len ps) s=Ld d s (Wg k z len (ps.map λ(i,x)=>(i,ev s.t x))):=by rw[QK _ _ rfl (by simp) (by simp) (by simp)];simp only[pureV,Wg,jF];rfl
theorem uX{k:Nat}{z:List qd}(hz:z.length=k):∀(vs:List qd)(D:List qd)(j:Nat),D.length=j*k->(∀v∈vs,v.cells.length=k/\v.cells.all qd.storable=true)->qI (D++(List.replicate vs.length z).flatten) ((vs.zipIdx j).map λx=>(x.2*k,k,x.1))=some (D++(vs.map qd.cells).flatten)
 |[],D,j,_,_=>by simp[qI]
 |v::vs,D,j,hD,hv=>by obtain⟨h1,h2⟩:=hv v (jE ..);have ih:=uX hz vs (D++v.cells) (j+1) (by rw[List.length_append,hD,h1,Nat.add_mul,Nat.one_mul]) λw hw=>hv w (jH _ hw);simp only[List.zipIdx_cons,List.map_cons,qI,jy,List.replicate_succ,List.flatten_cons,h2];rw[if_pos ⟨h1,by simp[hD,hz],trivial⟩];have e:splice (D++(z++(List.replicate vs.length z).flatten)) (j*k) v.cells=(D++v.cells)++(List.replicate vs.length z).flatten:=(by unfold splice;rw[<-hD,List.take_left,h1,<-List.drop_drop,List.drop_left,<-hz,List.drop_left]);rw[e,ih,List.append_assoc]
theorem LX{k:Nat}:∀(vs:List (List qd))(i:Nat),(∀v∈vs,v.length=k)->i<vs.length->(vs.flatten.drop (i*k)).take k=vs.getD i []
 |[],i,_,h=>by simp at h
 |v::vs,0,hv,_=>by have:=hv v (jE ..);simp[<-this]
 |v::vs,i+1,hv,h=>by have h1:=hv v (jE ..);rw[List.flatten_cons,Nat.add_mul,Nat.one_mul,ju,<-List.drop_drop,<-h1,List.drop_left,h1,LX vs i (λw hw=>hv w (jH _ hw)) (by simpa using h)];rfl
theorem qh0{k:Nat}{z:List qd}(hz:z.length=k)(h1:k≠1)(vs:List (List qd))(hl:vs.length*k<=2 ^ 24)(hv:∀v∈vs,v.length=k/\v.all qd.storable=true): Wg k z vs.length ((vs.map qd.agg).zipIdx.map λx=>(x.2,x.1))=some (.lst (vs.map qd.agg) .full):=by
 have hf:=uX hz (vs.map qd.agg) [] 0 (by simp) (by simpa[qd.cells]using hv);simp only[List.nil_append,jU,jF]at hf;have hc:(vs.map (qd.cells ∘ qd.agg)).flatten=vs.flatten:=by congr 1;exact(List.map_congr_left λv _=>rfl).trans (List.map_id vs)
 simp only[Wg,jF];rw[if_pos ⟨hz,hl⟩];rw[show((λx:Nat×qd=>(x.1*k,k,x.2)) ∘ λx:qd×Nat=>(x.2,x.1))=λx:qd×Nat=>(x.2*k,k,x.1)from rfl,hf,hc];have Y:vs.flatten.all qd.storable=true:=by simp only[List.all_flatten,List.all_eq_true];exact λv U=>List.all_eq_true.1 (hv v U).2
 simp only[Y,if_true,if_neg h1];congr 2;apply List.ext_getElem?;intro i;rw[jr,jr];by_cases hi:i<vs.length;·rw[List.getElem?_range hi,jh hi];simp only[jI];rw[LX vs i (λv U=>(hv v U).1) hi];simp[List.getD,jh hi]
 ·rw[jq (by simpa using hi),jq (by simpa using hi)];rfl
theorem kZ{k:Nat}{z a:List qd}(hz:z.length=k)(h1:k≠1)(ha:a.length=k)(sa:a.all qd.storable=true)(hl:k<=1000):Wg k z 1 [(0,.agg a)]=some (.lst [.agg a] .full):=qh0 hz h1 [a] (by simp;omega) (by simpa using⟨ha,by simpa using sa⟩)
end
def qF.noLp:qF->Bool
 |.seq a b=>a.noLp&&b.noLp
 |.cond _ a b=>a.noLp&&b.noLp
 |.block _ b=>b.noLp
 |.loop _=>false
 |_=>true
def Lh.noLp:Lh->Bool
 |.pre a r=>a.noLp&&r.noLp
 |.dfr _ _ _ c=>c.noLp
section
variable{base:Nat}{call:Call}
def qqD(d:Nat):Option qd->Option Nat
 |none=>some d
 |some (.int _ n)=>if 0<=n then some n.toNat else none
 |some _=>none
end
mutual
def weak:qd->qd
 |.lst xs _=>.lst (Zx xs) .no
 |.agg cs=>.agg (Zx cs)
 |.tup cs=>.tup (Zx cs)
 |a=>a
def Zx:List qd->List qd
 |[]=>[]
 |a::aS=>weak a::Zx aS
end
theorem XD:∀l:List qd,Zx l=l.map weak
 |[]=>rfl
 |a::l=>by rw[Zx,XD l];rfl
theorem KN(l:List qd):(Zx l).length=l.length:=by rw[XD,jU]
theorem qfu(a:qd):(weak a).cells.length=a.cells.length:=by
 cases a with
 |agg cs=>rw[weak];exact KN cs
 |_=>first|rfl|(rw[weak];rfl)
section
variable{γ:Nat->Option Nat}{imm:Nat->Nat->Option Value}
mutual
theorem qai:∀(a:qd)(v:Value),qT γ imm a v->qT γ imm (weak a) v
 |.lst xs f,v,h=>by
  rw[qT]at h;rw[weak,qT];obtain⟨a,len,cap,h1,h2,h3,h4,h5,⟨k,h6⟩,h7⟩:=h;refine⟨a,len,cap,h1,by rw[KN];exact h2,h3,(λe=>nomatch e),h5,⟨k,λx hx=>?_⟩,?_⟩;·rw[XD]at hx;obtain⟨y,hy,rfl⟩:=jT.1 hx;rw[qfu];exact h6 y hy
  ·rcases h7 with rfl|⟨b,p,e,h8⟩;·exact .inl rfl
   ·exact .inr ⟨b,p,e,Q0 xs b p h8⟩
 |.agg cs,v,h=>by rw[qT]at h;rw[weak,qT];obtain⟨x,h1,h2⟩:=h;exact⟨x,h1,qdl cs _ h2⟩
 |.undef,v,h=>h
 |.bool _,v,h=>h
 |.int _ _,v,h=>h
 |.str _,v,h=>h
 |.nilptr,v,h=>h
 |.ptr _ _,v,h=>h
 |.iptr _ _,v,h=>h
 |.nilfunc,v,h=>h
 |.fn _ _ _,v,h=>h
 |.yld _,v,h=>h
 |.niliface,v,h=>h
 |.iface _ _,v,h=>h
 |.tup cs,v,h=>by rw[qT]at h;rw[weak,qT];obtain⟨x,h1,h2⟩:=h;exact⟨x,h1,qdl cs _ h2⟩
 |.sl _ _ _ _ _,v,h=>h
 |.mp _,v,h=>h
 |.nilmap,v,h=>h
 |.nils,v,h=>h
 |.empt,v,h=>h
theorem qdl:∀(aS:List qd)(vs:List Value),qx γ imm aS vs->qx γ imm (Zx aS) vs
 |[],vs,h=>h
 |a::aS,vs,h=>by rw[qx]at h;rw[Zx,qx];obtain⟨v,r,h1,h2,h3⟩:=h;exact⟨v,r,h1,qai a v h2,qdl aS r h3⟩
theorem qnh:∀(cs:List qd)(b p:Nat),ZD γ imm cs b p->ZD γ imm (Zx cs) b p
 |[],b,p,h=>h
 |c::cs,b,p,h=>by rw[ZD]at h;rw[Zx,ZD];obtain⟨⟨v,h1,h2⟩,h3⟩:=h;exact⟨⟨v,h1,qai c v h2⟩,qnh cs b (p+1) h3⟩
theorem Q0:∀(xs:List qd)(b p:Nat),Zg γ imm xs b p->Zg γ imm (Zx xs) b p
 |[],b,p,h=>h
 |.agg cs::xs,b,p,h=>by rw[Zg]at h;rw[Zx,weak,Zg,KN];exact⟨qnh cs b p h.1,Q0 xs b _ h.2⟩
 |.lst ys f::xs,b,p,h=>by
  rw[Zg]at h
  ·have h2:=Q0 xs b (p+1) h.2;obtain⟨⟨v,h3,h4⟩,_⟩:=h;have h5:=qai (.lst ys f) v h4;rw[Zx];rw[weak]at h5⊢;rw[Zg];·exact⟨⟨v,h3,h5⟩,h2⟩
   ·intro _ e;cases e
  ·intro _ e;cases e
 |.undef::xs,b,p,h=>⟨h.1,Q0 xs b _ h.2⟩
 |.bool _::xs,b,p,h=>⟨h.1,Q0 xs b _ h.2⟩
 |.int _ _::xs,b,p,h=>⟨h.1,Q0 xs b _ h.2⟩
 |.str _::xs,b,p,h=>⟨h.1,Q0 xs b _ h.2⟩
 |.nilptr::xs,b,p,h=>⟨h.1,Q0 xs b _ h.2⟩
 |.ptr _ _::xs,b,p,h=>⟨h.1,Q0 xs b _ h.2⟩
 |.iptr _ _::xs,b,p,h=>⟨h.1,Q0 xs b _ h.2⟩
 |.nilfunc::xs,b,p,h=>⟨h.1,Q0 xs b _ h.2⟩
 |.fn _ _ _::xs,b,p,h=>⟨h.1,Q0 xs b _ h.2⟩
 |.yld _::xs,b,p,h=>⟨h.1,Q0 xs b _ h.2⟩
 |.niliface::xs,b,p,h=>⟨h.1,Q0 xs b _ h.2⟩
 |.iface _ _::xs,b,p,h=>⟨h.1,Q0 xs b _ h.2⟩
 |.tup cs::xs,b,p,h=>⟨h.1.elim λv hv=>⟨v,hv.1,qai (.tup cs) v hv.2⟩,Q0 xs b _ h.2⟩
 |.sl _ _ _ _ _::xs,b,p,h=>⟨h.1,Q0 xs b _ h.2⟩
 |.mp _::xs,b,p,h=>⟨h.1,Q0 xs b _ h.2⟩
 |.nilmap::xs,b,p,h=>⟨h.1,Q0 xs b _ h.2⟩
 |.nils::xs,b,p,h=>⟨h.1,Q0 xs b _ h.2⟩
 |.empt::xs,b,p,h=>⟨h.1,Q0 xs b _ h.2⟩
end
end
theorem FC{c d:Call}(hc:CLe c d){base:Nat}{a:qF}{s:St}{x:Ex×St}(h:qj base c a s=some x):qj base d a s=some x:=by obtain⟨n,h⟩:=(Zk _).1 h;exact(Zk _).2 ⟨n,qY hc (jm _) _ _ _ h⟩
theorem FB{c:Nat->Call}(hc:Wi c){base:Nat}{a:qF}{s:St}{x:Ex×St}(h:qj base (qbs c) a s=some x):∃k,qj base (c k) a s=some x:=by obtain⟨n,h⟩:=(Zk _).1 h;obtain⟨k,h⟩:=ZQ hc _ _ _ h;exact⟨k,(Zk _).2 ⟨n,h⟩⟩
def quU(n:Nat):XX->Bool
 |.ret v=>v.lower n
 |.pan v=>v.lower n
open Classical in
noncomputable def XL(h:List qh)(r:XX)(H:List qh)(e:Bool):XX×List qh×Bool:=if H.take h.length=h/\quU h.length r=true then(r,h,false)else Qc h.length r H e
theorem XV{h H:List qh}{v:qd}{e:Bool}(hc:H.take h.length=h)(hv:v.lower h.length=true):XL h (.ret v) H e=(.ret v,h,false):=if_pos ⟨hc,hv⟩
theorem qu{h l:List qh}{v:qd}{e:Bool}(hv:v.lower h.length=true):XL h (.ret v) (h++l) e=(.ret v,h,false):=XV (by simp) hv
theorem qbq{h:List qh}{v:qd}{e:Bool}(hv:v.lower h.length=true):XL h (.ret v) h e=(.ret v,h,false):=XV (by simp) hv
theorem qbp{P:Program}{gl:Nat->Option (List qd)}{G G0:qk}{w w0:World}{h:List qh}(U:Rel P gl G0 h w0){s:St}(he:Ext h.length G0 w0 G w)(hr:Rel P gl G s.h w)(hk:h.length<=s.h.length/\(s.e=false->Zq h.length h s.h)){r0 r:XX}{h':List qh}{e':Bool}(hl:XL h r0 s.h s.e=(r,h',e')):r=r0/\∃G',Ext h.length G0 w0 G' w/\Rel P gl G' h' w/\gS G'/\(∀a v,(r0=.ret a\/r0=.pan a)->G.V a v->G'.V a v):=by
 unfold XL at hl;split at hl;·rename_i Y;obtain⟨a1,a6⟩:=Y;cases hl;obtain⟨aa,a8⟩:=hr.cellsOnly;have a7:Ext h.length G0 w0 G.cellsOnly w:=⟨he.gk,he.gn,he.ik,he.inew,λb hb=>he.on b λe=>hb (by simp[qk.cellsOnly,e]),he.size,he.heap,he.loops,he.os,he.tape,he.output⟩;obtain⟨k1,k2⟩:=left U a7 aa hk.1 (λi b bx hi hx=>by have h1:=(U.γlt i b hi).1;have h2:h[i]?=some bx:=(by rw[<-a1,List.getElem?_take_of_lt h1];exact hx);exact uG U hi h2);rw[a1]at k2;refine⟨rfl,_,k1,k2,qm3 a8 _,λa v ha hv=>qfQ (G:=G.cellsOnly) ?_ hv⟩;rcases ha with ha|ha<;>subst ha<;>exact a6
 ·exact Xo U he hr hk hl
theorem F6{h H:List qh}{e:Bool}{r:XX}(hk:h.length<=H.length/\(e=false->Zq h.length h H)):h.length<=(XL h r H e).2.1.length/\((XL h r H e).2.2=false->Zq h.length h (XL h r H e).2.1):=by
 unfold XL;split;·exact⟨jm _,λ_=>Zq.refl _ _⟩
 ·exact QJ hk
noncomputable def FK(fn:qv)(call:Call)(aS:List qd)(h:List qh):Option (XX×List qh×Bool):=match qj h.length call fn.code ⟨aS.map qd.dim++List.replicate (fn.ntmps - (aS.map qd.dim).length) (.tup []),h,false⟩with
 |some (.nor,s)|some (.ret,s)=>
  match ZC s fn.results with
  |some vs=>some (XL h (.ret (weak (QF vs))) s.h s.e)
  |none=>none
 |some (.pan v,s)=>some (Qc h.length (.pan v) s.h s.e)
 |_=>none
section
variable{P:Program}{gl:Nat->Option (List qd)}
theorem qlU(af:P.follows .mixedOrders=true){F:FuncId->Option qv}(hF:uA P gl F){f:FuncId}{fn:qv}(ai:F f=some fn):uo P gl f (FK fn):=by
 intro call ih hk aS h r h' e' U G w vv hr hn aa;simp only[FK]at U;obtain⟨pf,c,p1,p2,p3,p4,p5,p6⟩:=hF f fn ai;refine .inl ⟨Qv p1 p2 p3 _ w,λro m=>?_⟩;have ac:vv.size=aS.length:=by have:=aa.length;simp at this⊢;omega
 let t0:List qd:=aS.map qd.dim++List.replicate (fn.ntmps - (aS.map qd.dim).length) (.tup []);let a0:Act:={tmps:=vv++Array.replicate (pf.ntmps - vv.size) undef,defers:=[]}
 have aj:Cfg P gl G h t0 a0 w:=by
  refine⟨hr,ZY.start ?_ λz hz=>?_⟩;·simp only[t0,a0,Array.toList_append,Array.toList_replicate];refine qx.append aa.dims ?_;rw[p6,ac];simp only[jU];exact qx.replicate _ (by simp[qT,qx,undef])
  ·simp only[t0]at hz;rcases jG.1 hz with hz|hz;·obtain⟨q,_,rfl⟩:=jT.1 hz;exact Qf q
   ·rw[(List.mem_replicate.1 hz).2];rfl
 have hW:∀n x s,Qu n h.length call fn.code ⟨t0,h,false⟩=some (x,s)->c.wpIn (FR none) m P (qdp P gl h.length G w w.heap.size false [] x s) a0 w:=λn x s hx=>Xm af ih hk (N:=n) (base:=h.length) (lo:=w.heap.size) (rf:=false) (fx:=[]) (ro:=none) (m:=m) c fn.code p4 (λh=>by cases h) G w ⟨t0,h,false⟩ a0 x s aj (jm _) (λ_ hq=>by cases hq) Kq (jm _) hx
 have a8:∀n x s Y,Qu n h.length call fn.code ⟨t0,h,false⟩=some (x,s)->(x=.nor\/x=.ret)->ZC s fn.results=some Y->XL h (.ret (weak (QF Y))) s.h s.e=(r,h',e')->CallsIn (FR ro) m P f vv w (qcd P gl h.length G w r h'):=by
  intro n x s Y hx ae a1 ah;have k:=Zb (base:=h.length) hk n fn.code _ s _ (jm _) hx;refine Dx (m:=m) (callsIn_of_wp_marks (F:=FR none) p1 p3 trivial (wpIn_mono (hW n x s hx) λe a' w' a7=>?_) rfl);obtain⟨G',g1,⟨ms,a6,g2,_⟩,g3⟩:=a7;rw[jW]at a6;rw[<-a6]at g2;have key:Cfg P gl G' s.h s.t a' w'->LeavesInM (FR none) m P pf a'.tmps (qcd P gl h.length G w r h') a'.defers .returning w':=(by intro hc;refine kY (by simp) a'.defers w' g2 g1 hc.rel hc.tr λad q1 q2 q3=>?_;obtain⟨u,r1,r2⟩:=kj (a:=a') ⟨q2,q3⟩ p5 a1;obtain⟨rfl,ab,y1,y2,y3,y4⟩:=qbp hr q1 q2 ⟨k.1,λhe=>(k.2 he).2⟩ ah;exact⟨u,r1,_,ab,rfl,y1,y2,y3,y4 _ u (.inl rfl) (qai _ _ r2)⟩);rcases ae with rfl|rfl;·obtain⟨rfl,g3⟩:=g3;exact key g3
  ·obtain⟨rfl,g3⟩:=g3;exact key g3
 split at U
 ·rename_i s hx;split at U;·rename_i Y a1;obtain⟨n,hx⟩:=(Zk _).1 hx;exact a8 n _ s Y hx (.inl rfl) a1 (Option.some.inj U)
  ·cases U
 ·rename_i s hx;split at U;·rename_i Y a1;obtain⟨n,hx⟩:=(Zk _).1 hx;exact a8 n _ s Y hx (.inr rfl) a1 (Option.some.inj U)
  ·cases U
 ·rename_i v s hx;obtain⟨n,hx⟩:=(Zk _).1 hx;have k:=Zb (base:=h.length) hk n fn.code _ s _ (jm _) hx;refine Dx (m:=m) (callsIn_of_wp_marks (F:=FR none) p1 p3 trivial (wpIn_mono (hW n _ s hx) λe a' w' a7=>?_) rfl);obtain⟨G',g1,⟨ms,a6,g2,_⟩,u,rfl,g3,g4⟩:=a7;rw[jW]at a6;rw[<-a6]at g2;refine W7 (by simp) a'.defers w' g2 g1 g3.rel λad q1 q2=>?_;obtain⟨rfl,ab,y1,y2,y3,y4⟩:=Xo hr q1 q2 ⟨k.1,λhe=>(k.2 he).2⟩ (Option.some.inj U);exact⟨v,u,ab,rfl,rfl,y1,y2,y3,y4 _ u (.inr rfl) g4⟩
 ·cases U
end
theorem qbJ{fn:qv}{call:AE.Call}(hk:Zl call):Zl λ_ aS h=>FK fn call aS h:=by
 intro fv aS h r h' e' hr;simp only[FK]at hr;split at hr
 ·rename_i s h1;obtain⟨n,h1⟩:=(Zk _).1 h1;have k:=Zb (base:=h.length) hk n fn.code ⟨_,h,false⟩ s _ (jm _) h1;split at hr;·rename_i vs U;have:=F6 (r:=.ret (weak (QF vs))) (h:=h) ⟨k.1,λhe=>(k.2 he).2⟩;rw[Option.some.inj hr]at this;exact this
  ·cases hr
 ·rename_i s h1;obtain⟨n,h1⟩:=(Zk _).1 h1;have k:=Zb (base:=h.length) hk n fn.code ⟨_,h,false⟩ s _ (jm _) h1;split at hr;·rename_i vs U;have:=F6 (r:=.ret (weak (QF vs))) (h:=h) ⟨k.1,λhe=>(k.2 he).2⟩;rw[Option.some.inj hr]at this;exact this
  ·cases hr
 ·rename_i v s h1;obtain⟨n,h1⟩:=(Zk _).1 h1;have k:=Zb (base:=h.length) hk n fn.code ⟨_,h,false⟩ s _ (jm _) h1;have:=QJ (r:=.pan v) (h:=h) ⟨k.1,λhe=>(k.2 he).2⟩;rw[Option.some.inj hr]at this;exact this
 ·cases hr
theorem qe7{c d:Call}(hc:CLe c d){fn:qv}{aS:List qd}{h:List qh}:Le (FK fn c aS h) (FK fn d aS h):=λx hx=>by
 simp only[FK]at hx⊢;split at hx;·rename_i U;rw[FC hc U];exact hx
 ·rename_i U;rw[FC hc U];exact hx
 ·rename_i U;rw[FC hc U];exact hx
 ·cases hx
theorem qe6{c:Nat->Call}(hc:Wi c){fn:qv}{aS:List qd}{h:List qh}{x:XX×List qh×Bool}(hx:FK fn (qbs c) aS h=some x):∃k,FK fn (c k) aS h=some x:=by
 simp only[FK]at hx⊢;split at hx;·rename_i U;obtain⟨k1,h1⟩:=FB hc U;exact⟨k1,by rw[h1];exact hx⟩
 ·rename_i U;obtain⟨k1,h1⟩:=FB hc U;exact⟨k1,by rw[h1];exact hx⟩
 ·rename_i U;obtain⟨k1,h1⟩:=FB hc U;exact⟨k1,by rw[h1];exact hx⟩
 ·cases hx
noncomputable def qq1(rs:List qaq)(h:List qh):Option (Ex×St)->Option (XX×List qh×Bool)
 |some (.nor,s)|some (.ret,s)=>match ZC s rs with
  |some vs=>some (XL h (.ret (weak (QF vs))) s.h s.e)
  |none=>none
 |some (.pan v,s)=>some (Qc h.length (.pan v) s.h s.e)
 |_=>none
theorem qpt(fn:qv)(call:Call)(aS:List qd)(h:List qh):FK fn call aS h=qq1 fn.results h (qj h.length call fn.code ⟨aS.map qd.dim++List.replicate (fn.ntmps - (aS.map qd.dim).length) (.tup []),h,false⟩):=by
 rw[FK];generalize qj h.length call fn.code _=r
 cases r with
 |none=>rfl
 |some r=>obtain⟨x,s⟩:=r;cases x<;>rfl
noncomputable def QA(fn:qv)(call:Call)(aS:List qd)(h:List qh):Option (XX×List qh×Bool):=FK fn call (aS.map weak) h
theorem qmz{i:Nat}{aS:List qd}(h:.yld i∈aS):qd.yld i∈aS.map weak:=jT.2 ⟨_,h,rfl⟩
theorem Zr{P:Program}{gl:Nat->Option (List qd)}(a1:P.follows .mixedOrders=true){F:FuncId->Option qv}(hF:uA P gl F){f:FuncId}{fn:qv}(a6:F f=some fn):uo P gl f (QA fn):=by
 intro call ih hk aS h r h' e' Y G w vv hr hn U;have U:G.VL (aS.map weak) vv.toList:=by have:=qdl aS _ U;rwa[XD]at this
 rcases qlU a1 hF a6 call ih hk (aS.map weak) h r h' e' Y G w vv hr hn U with q|⟨q,q2⟩;·exact .inl q
 ·exact .inr ⟨λi hi=>q i (qmz hi),q2⟩
theorem qW{fn:qv}{call:AE.Call}(hk:Zl call):Zl λ_ aS h=>QA fn call aS h:=λfv aS h r h' e' hr=>qbJ hk fv (aS.map weak) h r h' e' hr
theorem qft{c d:Call}(hc:CLe c d){fn:qv}{aS:List qd}{h:List qh}:Le (QA fn c aS h) (QA fn d aS h):=qe7 hc
theorem qfs{c:Nat->Call}(hc:Wi c){fn:qv}{aS:List qd}{h:List qh}{x:XX×List qh×Bool}(hx:QA fn (qbs c) aS h=some x):∃k,QA fn (c k) aS h=some x:=qe6 hc hx
noncomputable def qup(t:List qd):Nat->qd:=List.rec (motive:=λ_=>Nat->qd) (λ_=>.undef) (λa _ ih n=>Nat.rec (motive:=λ_=>qd) a (λm _=>ih m) n) t
noncomputable def K0(v:qd)(t:List qd):Nat->List qd:=List.rec (motive:=λ_=>Nat->List qd) (λ_=>[]) (λa aS ih n=>Nat.rec (motive:=λ_=>List qd) (v::aS) (λm _=>a::ih m) n) t
theorem qa4:∀(t:List qd)(i:Nat),qup t i=t.getD i .undef
 |[],_=>rfl
 |_::_,0=>rfl
 |_::t,i+1=>qa4 t i
theorem qi3(v:qd):∀(t:List qd)(i:Nat),K0 v t i=t.set i v
 |[],_=>rfl
 |_::_,0=>rfl
 |a::t,i+1=>congrArg (a::·) (qi3 v t i)
noncomputable def qmS(k:IntKind)(n:Int):qd:=Int.rec (motive:=λ_=>qd) (λm=>Nat.rec (motive:=λ_=>qd) (.int k (.ofNat 0)) (λp _=>.int k (.ofNat (p+1))) m) (λm=>.int k (.negSucc m)) n
noncomputable def qmR(b:Bool):qd:=Bool.rec (motive:=λ_=>qd) (.bool false) (.bool true) b
noncomputable def qud(v:qd):qd:=qd.casesOn (motive_1:=λ_=>qd) v .undef .bool .int .str .nilptr .ptr .iptr (λxs f=>WV.casesOn (motive:=λ_=>qd) f (.lst xs .no) (.lst xs .full) (λ_=>.lst xs .no)) .nilfunc .fn .yld .niliface .iface .agg .tup .sl .mp .nilmap .nils .empt
noncomputable def qmT(v:qd):qd:=qd.casesOn (motive_1:=λ_=>qd) v .undef qmR qmS .str .nilptr .ptr .iptr .lst .nilfunc .fn .yld .niliface .iface .agg .tup .sl .mp .nilmap .nils .empt
theorem qg5(b:Bool):qmR b=.bool b:=by cases b<;>rfl
theorem qg6(k:IntKind)(n:Int):qmS k n=.int k n:=by
 cases n with
 |ofNat m=>cases m<;>rfl
 |negSucc m=>rfl
theorem qgx:qud=qd.dim:=by
 funext v;cases v<;>try rfl
 rename_i xs f;cases f<;>rfl
theorem qg7(v:qd):qmT v=v:=by cases v<;>first|rfl|exact qg5 _|exact qg6 _ _
noncomputable def qu9(d:Nat)(v:qd)(t:List qd):List qd:=qd.casesOn (motive_1:=λ_=>List qd) (qmT v) (K0 .undef t d) (λb=>K0 (.bool b) t d) (λk n=>K0 (.int k n) t d) (λx=>K0 (.str x) t d) (K0 .nilptr t d) (λa b=>K0 (.ptr a b) t d) (λa b=>K0 (.iptr a b) t d) (λa b=>K0 (.lst a b) t d) (K0 .nilfunc t d) (λa b c=>K0 (.fn a b c) t d) (λa=>K0 (.yld a) t d) (K0 .niliface t d) (λa b=>K0 (.iface a b) t d) (λa=>K0 (.agg a) t d) (λa=>K0 (.tup a) t d) (λa b c e f=>K0 (.sl a b c e f) t d) (λa=>K0 (.mp a) t d) (K0 .nilmap t d) (K0 .nils t d) (K0 .empt t d)
theorem qpD(d:Nat)(v:qd)(t:List qd):qu9 d v t=t.set d v:=by unfold qu9;rw[qg7];cases v<;>exact qi3 _ _ _
noncomputable def qjR(t:List qd):qA->qd
 |.t i=>qup t i
 |.c v=>v
noncomputable def evF(t:List qd)(x:qA):qd:=qud (qjR t x)
noncomputable def qbH(dst:Option Nat)(v:qd)(t:List qd):List qd:=match dst with
 |some d=>qu9 d v t
 |none=>t
noncomputable def Lw(t:List qd)(x:qA):List qd:=match x with
 |.t i=>match qup t i with
  |.lst xs (.own _)=>t.set i (.lst xs .no)
  |_=>t
 |.c _=>t
theorem FJ:qjR=raw:=by
 funext t x;cases x;·exact qa4 _ _
 ·rfl
theorem LQ:evF=ev:=by funext t x;simp only[evF,ev,FJ,qgx]
theorem qbI:qbH=put:=by
 funext d v t;cases d;·rfl
 ·exact qpD _ _ _
theorem qaV:Lw=Z0:=by
 funext t x;cases x;·simp only[Lw,Z0,qa4];rfl
 ·rfl
noncomputable def FP(t:List qd)(x:Option qA)(d:Nat):Option Nat:=match x with
 |none=>some d
 |some x=>match evF t x with
  |.int _ n=>if 0<=n then some n.toNat else none
  |_=>none
noncomputable def qiL(t:List qd)(o:AOp):Option qd:=match o with
 |.mov x=>some (evF t x)
 |.pick c a b=>match evF t c with
  |.bool true=>some (evF t a)
  |.bool false=>some (evF t b)
  |_=>none
 |.build zero parts=>(qI zero (parts.map λ(o,s,x)=>(o,s,evF t x))).map .agg
 |.list k zero len parts=>
  if zero.length=k/\len*k<=2 ^ 24 then
   match qI ((List.replicate len zero).flatten) (parts.map λ(i,x)=>(i*k,k,evF t x))with
   |some cs=>if cs.all qd.storable then some (.lst ((List.range len).map λi=>if k=1 then(cs.getD i .undef)else .agg ((cs.drop (i*k)).take k)) .full)else none
   |none=>none
  else none
 |.nilc x=>match evF t x with
  |.ptr i o=>some (.ptr i o)
  |.iptr cs o=>some (.iptr cs o)
  |.fn f a b=>some (.fn f a b)
  |.yld l=>some (.yld l)
  |.iface u v=>some (.iface u v)
  |_=>none
 |.bin op x y=>gx op (evF t x) (evF t y)
 |.eqb neg x y=>match evF t x,evF t y with
  |.bool a,.bool b=>some (.bool ((a==b)!=neg))
  |_,_=>none
 |.eqi k neg x y=>(qql k (evF t x) (evF t y)).map λb=>.bool (b !=neg)
 |.eqa neg x y=>match evF t x,evF t y with
  |.agg a,.agg b=>(qaG a b).map λr=>.bool (r !=neg)
  |_,_=>none
 |.eqs sh neg x y=>(DO sh (evF t x) (evF t y)).map λr=>.bool (r !=neg)
 |.un op x=>unV op (evF t x)
 |.nls neg x=>match evF t x with
  |.sl ..=>some (.bool (false !=neg))
  |.lst (_::_) _=>some (.bool (false !=neg))
  |.nils=>some (.bool (true !=neg))
  |.empt=>some (.bool (false !=neg))
  |_=>none
 |.cvi k x=>match evF t x with
  |.int _ n=>some (.int k (k.wrap n))
  |_=>none
 |.cvs x=>match evF t x with
  |.str s=>some (.str s)
  |_=>none
 |.cvb x=>match evF t x with
  |.str s=>some (.lst (zt s) .no)
  |_=>none
 |.cvt x=>match evF t x with
  |.lst xs _=>(ye xs).map .str
  |_=>none
 |.mkI ty x=>match evF t x with
  |.undef=>none
  |v=>some (.iface ty v)
 |.mkF f a b=>some (.fn f (a.map (evF t)) (b.map (evF t)))
 |.subS x lo hi=>match evF t x with
  |.str s=>match FP t hi s.length with
   |some h=>match FP t lo 0 with
    |some l=>if l<=h/\h<=s.length then some (.str ((s.drop l).take (h - l)))else none
    |none=>none
   |none=>none
  |_=>none
 |.subL k x lo hi=>match evF t x with
  |.lst xs f=>match FP t hi xs.length with
   |some h=>match FP t lo 0 with
    |some l=>
     if l<=h/\h<=xs.length then
      if xs.head?.all (λy=>y.cells.length==k)then some (.lst ((xs.drop l).take (h - l)) (if h=xs.length then f else .no))else none
     else none
    |none=>none
   |none=>none
  |.sl id o len cap more=>match FP t hi len with
   |some h=>match FP t lo 0 with
    |some l=>
     if l<=h/\h<=cap then
      if cap=l then(if more=0 then some (.lst [] .full)else none)else(if more=0\/more=k then some (.sl id (o+l*k) (h - l) (cap - l) more)else none)
     else none
    |none=>none
   |none=>none
  |_=>none
 |.fa off a=>match evF t a with
  |.ptr i o=>some (.ptr i (o+off))
  |.iptr cs o=>some (.iptr cs (o+off))
  |_=>none
 |.ixaL k s i=>match evF t s,evF t i with
  |.lst xs _,.int _ n=>
   if 0<=n/\n<xs.length then
    match xs[n.toNat]? with
    |some x=>if x.cells.length=k then some (.iptr x.cells 0)else none
    |none=>none
   else none
  |.sl id o len _ _,.int _ n=>if 0<=n/\n<len then some (.ptr id (o+n.toNat*k))else none
  |_,_=>none
 |.ixaA len k a i=>match evF t a,evF t i with
  |.ptr b o,.int _ n=>if 0<=n/\n<(len:Int)then some (.ptr b (o+n.toNat*k))else none
  |.iptr cs o,.int _ n=>if 0<=n/\n<(len:Int)then some (.iptr cs (o+n.toNat*k))else none
  |_,_=>none
 |.ixS s i=>match evF t s,evF t i with
  |.str l,.int _ n=>if 0<=n then(l[n.toNat]?).map λb=>.int .u8 b.toNat else none
  |_,_=>none
 |.ixA len k a i=>match evF t a,evF t i with
  |.agg cs,.int _ n=>if 0<=n/\n<(len:Int)then cut cs (n.toNat*k.getD 1) k else none
  |_,_=>none
 |.fld off k x=>match evF t x with
  |.agg cs=>cut cs off k
  |_=>none
 |.ext x i=>match evF t x with
  |.tup vs=>(vs[i]?).map qd.dim
  |_=>none
 |.len true x=>match evF t x with
  |.str s=>some (.int .i64 s.length)
  |_=>none
 |.len false x=>match evF t x with
  |.lst xs _=>some (.int .i64 xs.length)
  |.sl _ _ len _ _=>some (.int .i64 len)
  |.nils=>some (.int .i64 0)
  |.empt=>some (.int .i64 0)
  |_=>none
 |.mm isMax x y=>match evF t x,evF t y with
  |.int k a,.int _ b=>some (.int k (if isMax then(if b > a then b else a)else(if b<a then b else a)))
  |_,_=>none
 |.tas ty zero x=>match evF t x with
  |.niliface=>some (.tup [zero,.bool false])
  |.iface u v=>if u=ty then some (.tup [v,.bool true])else some (.tup [zero,.bool false])
  |_=>none
 |_=>none
noncomputable def qjm(k:Nat)(p:XR)(x:qA)(s:St):Option (List qd×St):=match x with
 |.c _=>none
 |.t i=>
  match qjR s.t (.t i)with
  |.lst xs (.own j)=>if j=k then some (xs,{s with t:=s.t.set i (.lst xs .no)})else none
  |_=>
   match p.find? (·.1==i)with
   |some (_,.tmp b)=>
    match qjR s.t (.t b)with
    |.lst xs (.own j)=>if j=k then some (xs,{s with t:=s.t.set b (.lst xs .no)})else none
    |_=>none
   |some (_,.cell a)=>
    match evF s.t a with
    |.ptr id o=>
     match s.h[id]? with
     |some (.cells cs)=>
      match cs[o]? with
      |some (.lst xs (.own j))=>if j=k then some (xs,{s with h:=s.h.set id (.cells (cs.set o (.lst xs .no)))})else none
      |_=>none
     |_=>none
    |_=>none
   |none=>none
noncomputable def qdc(base:Nat)(call:Call)(p:XR)(dst:Option Nat)(o:AOp)(s:St):Option (Ex×St):=match o with
 |.asg x=>some (.nor,{s with t:=qbH dst (qjR s.t x) (Lw s.t x)})
 |.new cs=>some (.nor,{s with t:=qbH dst (.ptr s.h.length 0) s.t,h:=s.h++[.cells (cs.map qd.dim)]})
 |.box k x=>let vs:=(evF s.t x).cells.map qd.dim;if vs.length=k/\vs.all qd.storable then some (.nor,{s with t:=qbH dst (.ptr s.h.length 0) s.t,h:=s.h++[.cells vs]})else none
 |.ld k a=>(Xg s.h (evF s.t a) k).map λv=>(.nor,{s with t:=qbH dst v s.t})
 |.st k a x=>
  match evF s.t a with
  |.ptr id o=>
   match s.h[id]? with
   |some (.cells cs)=>
    let v:=qjR s.t x;let vs:=match k with|none=>[v]|some _=>v.dim.cells.map qd.dim
    if vs.length=k.getD 1/\o+vs.length<=cs.length/\vs.all qd.storable then
     some (.nor,{t:=qbH dst .undef (Lw s.t x),h:=s.h.set id (.cells (splice cs o vs)),e:=s.e||!(Nat.ble base id||qm (id+1) vs)})
    else none
   |_=>none
  |_=>none
 |.call f args=>
  match call (evF s.t f) (args.map (evF s.t)) s.h with
  |some (.ret v,h,e)=>some (.nor,{t:=qbH dst v.dim s.t,h,e:=s.e||e})
  |some (.pan v,h,e)=>some (.pan v,{s with h,e:=s.e||e})
  |none=>none
 |.app k x y=>
  match qjR s.t x,tail (evF s.t y)with
  |.lst xs f,some ys=>
   if ys.isEmpty then some (.nor,{s with t:=qbH dst (qd.lst xs f).dim s.t})
   else if xs.length+ys.length<=kD/\ys.all (λy=>y.cells.length==k&&y.cells.all qd.storable)/\xs.head?.all (λy=>y.cells.length==k)then
    match f with
    |.full=>some (.nor,{s with t:=qbH dst (.lst (xs++ys) (.own k)) s.t})
    |_=>
     match qjm k p x s with
     |some (xs,s)=>if xs.head?.all (λy=>y.cells.length==k)then some (.nor,{s with t:=qbH dst (.lst (xs++ys) (.own k)) s.t})else none
     |none=>none
   else none
  |_,_=>none
 |.pan x=>match evF s.t x with
  |.iface u v=>some (.pan (.iface u v),s)
  |_=>none
 |.lk sh z ok m key=>(WW s.h sh z ok (evF s.t m) (evF s.t key)).map λv=>(.nor,{s with t:=qbH dst v s.t})
 |.hx o aS=>(hop base o (aS.map (evF s.t)) s.h).map λr=>(.nor,{t:=qbH dst r.1.dim s.t,h:=r.2.1,e:=s.e||r.2.2})
 |o=>(qiL s.t o).map λv=>(.nor,{s with t:=qbH dst v s.t})
noncomputable def ue(t:List qd)(g:Option (Nat×Bool)):Option Bool:=match g with
 |none=>some true
 |some (j,b)=>match qjR t (.t j)with
  |.bool c=>some (c==b)
  |.tup []=>some false
  |_=>none
noncomputable def KD(base:Nat)(call:Call):XR->List Zz->St->Option (Ex×St)
 |_,[],s=>some (.nor,s)
 |p,o::os,s=>
  match ue s.t o.guard with
  |some true=>
   match qdc base call p o.dst o.op s with
   |some (.nor,s)=>KD base call (Z7 p o) os s
   |r=>r
  |some false=>KD base call (Z7 p {o with op:=.pick (.c .undef) (.c .undef) (.c .undef)}) os {s with t:=qbH o.dst (.tup []) s.t}
  |none=>none
noncomputable def qf9(s:St)(o:AOp):Option Chk:=match o with
 |.ld k a=>(Xg s.h (evF s.t a) k).map (.ld (evF s.t a) k)
 |.lk sh z ok m key=>(WW s.h sh z ok (evF s.t m) (evF s.t key)).map (.lk sh z ok (evF s.t m) (evF s.t key))
 |.new cs=>some (.box s.h.length (cs.map qd.dim))
 |.box _ x=>some (.box s.h.length ((evF s.t x).cells.map qd.dim))
 |_=>none
noncomputable def Xz(base:Nat)(call:Call)(dsts:List Nat):List Zi->List (Nat×Chk)->St->Option (Ex×St)
 |[],_,s=>some (.nor,s)
 |d::ds,pend,s=>
  match ue s.t d.o.guard with
  |some true=>
   match qdc base call [] d.o.dst d.o.op s with
   |some (.nor,s')=>
    if d.o.op.effs then
     let a1:=pend.filter λc=>!d.cl.testBit c.1
     if a1.all (λc=>c.2.ok s'.h)then Xz base call dsts ds a1 s' else none
    else
     match qf9 s d.o.op with
     |some c=>Xz base call dsts ds ((d.ix,c)::pend) s'
     |none=>Xz base call dsts ds pend s'
   |some (.pan v,s')=>if d.o.op.effs then some (.pan v,{s' with t:=XW dsts s'.t})else none
   |_=>none
  |some false=>Xz base call dsts ds pend {s with t:=qbH d.o.dst (.tup []) s.t}
  |none=>none
noncomputable def WC(n base:Nat)(call:Call):qF->St->Option (Ex×St)
 |.skip,s=>some (.nor,s)
 |.reg ops,s=>KD base call [] ops s
 |.draw ops,s=>Xz base call (ops.filterMap (·.o.dst)) ops [] s
 |.draw2 c a b r,s=>qmI a b (Xz base call ((c++a::b::r).filterMap (·.o.dst)) (c++[a,b]) [] s) (Xz base call ((c++a::b::r).filterMap (·.o.dst)) (c++a::b::r) [] s) (Xz base call ((c++a::b::r).filterMap (·.o.dst)) (c++b::a::r) [] s)
 |.seq a b,s=>match WC n base call a s with
  |some (.nor,s)=>WC n base call b s
  |r=>r
 |.cond c a b,s=>match evF s.t c with
  |.bool true=>WC n base call a s
  |.bool false=>WC n base call b s
  |_=>none
 |.block id b,s=>match WC n base call b s with
  |some (.exit j,s)=>if j=id then some (.nor,s)else some (.exit j,s)
  |r=>r
 |.loop b,s=>iter (WC n base call b) n s
 |.exit id,s=>some (.exit id,s)
 |.ret,s=>some (.ret,s)
 |.rfun f ps asg body,s=>
  match evF s.t f with
  |.fn g first cap=>
   match call (.fn g first cap) [.yld s.h.length] (s.h++[.loop (s.t.map qd.dim) ps asg body .ready none])with
   |some (.ret _,h,e)=>
    match h[s.h.length]? with
    |some (.loop t ad ab a8 st pend)=>
     if st=.busy then none else
     let s':St:={s with h:=h.set s.h.length (.loop t ad ab a8 .exhausted pend),e:=s.e||e}
     match pend with
     |none=>some (.nor,s')
     |some .ret=>some (.ret,s')
     |some (.exit id)=>some (.exit id,s')
    |_=>none
   |some (.pan v,h,e)=>some (.pan v,{s with h,e:=s.e||e})
   |none=>none
  |_=>none
noncomputable def gK(s:St):List qaq->Option (List qd)
 |[]=>some []
 |.tmp i::rs=>match gK s rs with
  |some vs=>some (qud (qjR s.t (.t i))::vs)
  |none=>none
 |.cell a k::rs=>
  match Xg s.h (qjR s.t (.t a)) k,gK s rs with
  |some v,some vs=>some (v::vs)
  |_,_=>none
noncomputable def qiS(n:Nat)(call:Call)(l:Nat)(args:List qd)(h:List qh):Option (XX×List qh×Bool):=match h[l]? with
 |some (.loop t ps asg body _ _)=>
  if args.length≠ps.length then none else
  let base:=h.length
  match WC n base call asg ⟨qao t ps (args.map qd.dim),h,false⟩with
  |some (.nor,s)=>
   match s.h[l]? with
   |some (.loop t1 ac aa a7 .ready pend)=>
    match WC n base call body {s with h:=s.h.set l (.loop t1 ac aa a7 .busy pend)}with
    |some (x,s)=>
     match s.h[l]? with
     |some (.loop t2 a6 Y U _ _)=>
      match x with
      |.nor=>some (Qc base (.ret (.bool true)) (s.h.set l (.loop t2 a6 Y U .ready none)) s.e)
      |.ret=>some (Qc base (.ret (.bool false)) (s.h.set l (.loop t2 a6 Y U .done (some .ret))) s.e)
      |.exit id=>some (Qc base (.ret (.bool false)) (s.h.set l (.loop t2 a6 Y U .done (some (.exit id)))) s.e)
      |.pan _=>none
     |_=>none
    |none=>none
   |_=>none
  |_=>none
 |_=>none
noncomputable def qqm(F:FuncId->Option qv)(X:qar):Nat->Call
 |0=>λ_ _ _=>none
 |n+1=>λfv args h=>
  match fv with
  |.fn f first cap=>
   match X f with
   |some g=>g (qqm F X n) (first++args++cap) h
   |none=>
    match F f with
    |none=>none
    |some fn=>
     let aS:=(first++args++cap).map qd.dim
     match WC n h.length (qqm F X n) fn.code ⟨aS++List.replicate (fn.ntmps - aS.length) (.tup []),h,false⟩with
     |some (.nor,s)|some (.ret,s)=>
      match gK s fn.results with
      |some vs=>some (Qc h.length (.ret (QF vs)) s.h s.e)
      |none=>none
     |some (.pan v,s)=>some (Qc h.length (.pan v) s.h s.e)
     |_=>none
  |.yld l=>qiS n (qqm F X n) l args h
  |_=>none
theorem qfX:FP=bound:=by funext t x d;cases x<;>simp only[FP,bound,LQ]<;>rfl
theorem qiM:qiL=pureV:=by funext t o;cases o<;>simp only[qiL,pureV,LQ,qfX]<;>first|rfl|(cases ‹Bool›<;>rfl)
theorem qc8(t:List qd)(i:Nat):raw t (.t i)=t.getD i .undef:=rfl
theorem qjn:qjm=gq:=by funext k p x s;cases x<;>simp only[qjm,gq,FJ,qc8,LQ]<;>rfl
theorem vV:qdc=qQ:=by funext base call p dst o s;cases o<;>simp only[qdc,qQ,FJ,LQ,qbI,qaV,qjn,qiM]<;>rfl
theorem zU:ue=wanted:=by funext t g;cases g<;>simp only[ue,wanted,FJ,qc8]<;>rfl
theorem zQ(base:Nat)(call:Call):∀(os:List Zz)(p:XR)(s:St),KD base call p os s=Qe base call p os s
 |[],_,_=>rfl
 |o::os,p,s=>by simp only[KD,Qe,zU,vV,qbI,zQ base call os];rfl
theorem qga:qf9=gU:=by funext s o;cases o<;>simp only[qf9,gU,LQ]<;>rfl
theorem Dr(base:Nat)(call:Call)(dsts:List Nat):∀(ds:List Zi)(pend:List (Nat×Chk))(s:St),Xz base call dsts ds pend s=qZ base call dsts ds pend s
 |[],_,_=>rfl
 |d::ds,pend,s=>by simp only[Xz,qZ,zU,vV,qbI,qga,Dr base call dsts ds];rfl
theorem Wn(n base:Nat)(call:Call):∀(c:qF),WC n base call c=Qu n base call c
 |.skip=>by funext s;simp only[WC,Qu]<;>rfl
 |.reg ops=>by funext s;simp only[WC,Qu,zQ]<;>rfl
 |.draw ops=>by funext s;simp only[WC,Qu,Dr]<;>rfl
 |.draw2 c a b r=>by funext s;simp only[WC,Qu,Dr]<;>rfl
 |.seq a b=>by funext s;simp only[WC,Qu,Wn n base call a,Wn n base call b]<;>rfl
 |.cond c a b=>by funext s;simp only[WC,Qu,LQ,Wn n base call a,Wn n base call b]<;>rfl
 |.block id b=>by funext s;simp only[WC,Qu,Wn n base call b]<;>rfl
 |.loop b=>by funext s;simp only[WC,Qu,Wn n base call b]<;>rfl
 |.rfun f ps asg body=>by funext s;simp only[WC,Qu,LQ]<;>rfl
 |.exit id=>by funext s;simp only[WC,Qu]<;>rfl
 |.ret=>by funext s;simp only[WC,Qu]<;>rfl
theorem Dq(s:St):∀rs:List qaq,gK s rs=ZC s rs
 |[]=>rfl
 |.tmp i::rs=>by simp only[gK,ZC,Dq s rs,FJ,qc8,qgx]<;>rfl
 |.cell a k::rs=>by simp only[gK,ZC,Dq s rs,FJ,qc8]<;>rfl
theorem qiT(n:Nat)(call:Call):qiS n call=round n call:=by funext l args h;simp only[qiS,round,Wn]<;>rfl
theorem qi0(F:FuncId->Option qv)(X:qar):∀n:Nat,qqm F X n=run F X n
 |0=>rfl
 |n+1=>by funext fv args h;simp only[qqm,run,qi0 F X n,Wn,Dq,qiT]<;>rfl
theorem vc(c b:Bool)(d:Option Nat)(s:St)(r:Option qd)(k:St->Option (Ex×St)):zp (.bool c) b d s r k=QC (c==b) d s r k:=Eq.trans rfl rfl
theorem qa6(b:Bool)(d:Option Nat)(s:St)(r:Option qd)(k:St->Option (Ex×St)):zp (.tup []) b d s r k=QC false d s r k:=Eq.trans rfl rfl
theorem vd(d:Option Nat)(t:List qd)(h:List qh)(e:Bool)(v:qd)(k:St->Option (Ex×St)):QC true d ⟨t,h,e⟩ (some v) k=k ⟨put d v t,h,e⟩:=Eq.trans rfl rfl
theorem yy(d:Option Nat)(t:List qd)(h:List qh)(e:Bool)(r:Option qd)(k:St->Option (Ex×St)):QC false d ⟨t,h,e⟩ r k=k ⟨put d (.tup []) t,h,e⟩:=Eq.trans rfl rfl
theorem qec(d:Option Nat)(t:List qd)(h:List qh)(e:Bool)(r:Option (Ex×St))(k:St->Option (Ex×St)):L6 (.bool true) false d ⟨t,h,e⟩ r k=k ⟨put d (.tup []) t,h,e⟩:=Eq.trans rfl rfl
theorem qea(d:Option Nat)(t:List qd)(h:List qh)(e:Bool)(r:Option (Ex×St))(k:St->Option (Ex×St)):L6 (.bool false) true d ⟨t,h,e⟩ r k=k ⟨put d (.tup []) t,h,e⟩:=Eq.trans rfl rfl
theorem qa5(b:Bool)(d:Option Nat)(t:List qd)(h:List qh)(e:Bool)(r:Option (Ex×St))(k:St->Option (Ex×St)):L6 (.tup []) b d ⟨t,h,e⟩ r k=k ⟨put d (.tup []) t,h,e⟩:=Eq.trans rfl rfl
section
variable{base:Nat}{call:Call}{p:XR}{s:St}
theorem qfn(f:St->Option (Ex×St))(s:St):WJ f (some (.nor,s))=f s:=Eq.trans rfl rfl
end
theorem qaJ(a b:Option (Ex×St)):qnR (.bool true) a b=a:=Eq.trans rfl rfl
theorem uK(a b:Option (Ex×St)):qnR (.bool false) a b=b:=Eq.trans rfl rfl
theorem qtr(d:Nat)(o:AOp):ao d o=⟨some d,o,none⟩:=Eq.trans rfl rfl
theorem qtp(d:Nat)(o:AOp)(j:Nat)(b:Bool):ag d o j b=⟨some d,o,some (j,b)⟩:=Eq.trans rfl rfl
theorem qtq(o:AOp):an o=⟨none,o,none⟩:=Eq.trans rfl rfl
theorem qi8(cs:List qd)(o:Nat)(vs:List qd):splice cs o vs=cs.take o++vs++cs.drop (o+vs.length):=Eq.trans rfl rfl
theorem qw1(d i:Nat):mv d i=⟨some d,.mov (.t i),none⟩:=Eq.trans rfl rfl
theorem qw9(d i:Nat):sg d i=⟨some d,.asg (.t i),none⟩:=Eq.trans rfl rfl
theorem qwQ(d k i:Nat):fA d k i=⟨some d,.fa k (.t i),none⟩:=Eq.trans rfl rfl
theorem quP(d i:Nat):ldn d i=⟨some d,.ld none (.t i),none⟩:=Eq.trans rfl rfl
theorem quQ(d k i:Nat):lds d k i=⟨some d,.ld (some k) (.t i),none⟩:=Eq.trans rfl rfl
theorem qve(k i j:Nat):sts k i j=⟨none,.st (some k) (.t i) (.t j),none⟩:=Eq.trans rfl rfl
theorem qvd(i j:Nat):stn i j=⟨none,.st none (.t i) (.t j),none⟩:=Eq.trans rfl rfl
theorem qvl(d i k:Nat):xtt d i k=⟨some d,.ext (.t i) k,none⟩:=Eq.trans rfl rfl
theorem quV(d i:Nat):nlc d i=⟨some d,.nilc (.t i),none⟩:=Eq.trans rfl rfl
theorem qvk(d k i j:Nat):xlL d k i j=⟨some d,.ixaL k (.t i) (.t j),none⟩:=Eq.trans rfl rfl
theorem quT(d i:Nat):lnn d i=⟨some d,.len false (.t i),none⟩:=Eq.trans rfl rfl
theorem qwT(n:Int):kI n=.c (.int .i64 n):=Eq.trans rfl rfl
theorem qwS(n:Nat):kF n=.c (.fn n [] []):=Eq.trans rfl rfl
theorem qwU:kO=.c (.bool false):=Eq.trans rfl rfl
theorem qwV:kU=.c (.bool true):=Eq.trans rfl rfl
theorem qw2:nL=.lst [] .full:=Eq.trans rfl rfl
theorem qxd:zZ=.int .i64 0:=Eq.trans rfl rfl
theorem qxc:zS=.str []:=Eq.trans rfl rfl
theorem qui(d i:Nat)(n:Int):eqk d i n=⟨some d,.bin .eql (.t i) (.c (.int .i64 n)),none⟩:=Eq.trans rfl rfl
theorem qtz(d:Nat)(o:BinOp)(i:Nat)(n:Int):bnk d o i n=⟨some d,.bin o (.t i) (.c (.int .i64 n)),none⟩:=Eq.trans rfl rfl
theorem qtA(d:Nat)(o:BinOp)(i j:Nat):bnt d o i j=⟨some d,.bin o (.t i) (.t j),none⟩:=Eq.trans rfl rfl
theorem qvc(d:Nat)(n:Int):sgk d n=⟨some d,.asg (.c (.int .i64 n)),none⟩:=Eq.trans rfl rfl
theorem qva(d:Nat):sgO d=⟨some d,.asg (.c (.bool false)),none⟩:=Eq.trans rfl rfl
theorem qvb(d:Nat):sgU d=⟨some d,.asg (.c (.bool true)),none⟩:=Eq.trans rfl rfl
theorem qua(d f i:Nat):clA d f i=⟨some d,.call (.c (.fn f [] [])) [.t i],none⟩:=Eq.trans rfl rfl
theorem qub(d f i j:Nat):clB d f i j=⟨some d,.call (.c (.fn f [] [])) [.t i,.t j],none⟩:=Eq.trans rfl rfl
theorem qu0(d i j:Nat):pkO d i j=⟨some d,.pick (.t i) (.t j) (.c (.bool false)),none⟩:=Eq.trans rfl rfl
theorem qu1(d i j:Nat):pkU d i j=⟨some d,.pick (.t i) (.c (.bool true)) (.t j),none⟩:=Eq.trans rfl rfl
theorem qtB(d k i:Nat):bxx d k i=⟨some d,.box k (.t i),none⟩:=Eq.trans rfl rfl
theorem quX(d i:Nat):ntt d i=⟨some d,.un .not (.t i),none⟩:=Eq.trans rfl rfl
theorem quu(d i j:Nat)(b:Bool):gmv d i j b=⟨some d,.mov (.t i),some (j,b)⟩:=Eq.trans rfl rfl
theorem quq(d k i j:Nat)(b:Bool):gfA d k i j b=⟨some d,.fa k (.t i),some (j,b)⟩:=Eq.trans rfl rfl
theorem qur(d i j:Nat)(b:Bool):gld d i j b=⟨some d,.ld none (.t i),some (j,b)⟩:=Eq.trans rfl rfl
theorem qut(d k i j:Nat)(b:Bool):gls d k i j b=⟨some d,.ld (some k) (.t i),some (j,b)⟩:=Eq.trans rfl rfl
theorem qus(d i j:Nat)(b:Bool):gln d i j b=⟨some d,.len false (.t i),some (j,b)⟩:=Eq.trans rfl rfl
theorem qum(d:Nat)(o:BinOp)(i:Nat)(n:Int)(j:Nat)(b:Bool):gbk d o i n j b=⟨some d,.bin o (.t i) (.c (.int .i64 n)),some (j,b)⟩:=Eq.trans rfl rfl
theorem qun(d:Nat)(o:BinOp)(i i2 j:Nat)(b:Bool):gbt d o i i2 j b=⟨some d,.bin o (.t i) (.t i2),some (j,b)⟩:=Eq.trans rfl rfl
theorem qwK(i:Nat)(a b:qF):cT i a b=.cond (.t i) a b:=Eq.trans rfl rfl
theorem qw7(l:List Zz)(c:qF):sR l c=.seq (.reg l) c:=Eq.trans rfl rfl
def sT:=PLift.up (qq (qq (qq (qq (qq (qq (qq (qq @qgW @qdT) (qq @qkN @qdS)) (qq (qq @qgV @qaY) (qq @qu7 @qdR))) (qq (qq (qq @qkC @qkA) (qq @qdI @qn8)) (qq (qq @qkB @qlj) (qq @qgI (qq @qgJ @qdW))))) (qq (qq (qq (qq @qa2 @qkg) (qq @qgb @qqN)) (qq (qq @qnP @qfT) (qq @qfR (qq @qhX @qeG)))) (qq (qq (qq @qbr @qeE) (qq @qeF @qhT)) (qq (qq @qhU @qlq) (qq @qlp (qq @qeD @qhV)))))) (qq (qq (qq (qq (qq @qhW @qiH) (qq @qkF @qhH)) (qq (qq @qe3 @qei) (qq @qbF (qq @qdK @qba)))) (qq (qq (qq @qgM @qeg) (qq @qlK @qoa)) (qq (qq @qk3 @qe2) (qq @qgN (qq @qeh @qiC))))) (qq (qq (qq (qq @qhy @qiD) (qq @qhA @qhB)) (qq (qq @qlL @qk6) (qq @qiG (qq @qhG @qej)))) (qq (qq (qq @qlJ @qn9) (qq @qk2 @qe1)) (qq (qq @qef @qiE) (qq @qhE (qq @qhD @qhC))))))) (qq (qq (qq (qq (qq (qq @qiF @qhF) (qq @qk4 @qkE)) (qq (qq @qhx @qhI) (qq @qhz (qq @qob @qk5)))) (qq (qq (qq @qe0 @qgL) (qq @qee @qkD)) (qq (qq @qhw @qu4) (qq @qso (qq @qps @qpr))))) (qq (qq (qq (qq @qsj @qsa) (qq @qiw @qsd)) (qq (qq @qm4 @qsl) (qq @qiv (qq @qna @qiu)))) (qq (qq (qq @qsk @qsf) (qq @quZ @qpi)) (qq (qq @qlE @qpj) (qq @qsb (qq @qnK @qlw)))))) (qq (qq (qq (qq (qq @qlx @qsg) (qq @qm9 @qm8)) (qq (qq @qm7 @qkP) (qq @qm5 (qq @qgR @qm6)))) (qq (qq (qq @qkp @qkq) (qq @qsi @qrX)) (qq (qq @qo9 @qeV) (qq @qf2 (qq @qf1 @qlT))))) (qq (qq (qq (qq @qlS @qfn) (qq @qjp @qfm)) (qq (qq @qjo @qdv) (qq @qdx (qq @qdw @qaD)))) (qq (qq (qq @qaJ @uK) (qq @qif @qig)) (qq (qq @qwP @qwO) (qq @qu6 (qq @qu5 @qR)))))))) (qq (qq (qq (qq (qq (qq (qq @qoZ @qo0) (qq @qh4 @qh3)) (qq (qq @qgH @qgG) (qq @qdF @qgB))) (qq (qq (qq @qgE @uS) (qq @qgD @qdH)) (qq (qq @qgA @qgF) (qq @qkw (qq @qkx @qdG))))) (qq (qq (qq (qq @qgC @qaU) (qq @qkt @qn2)) (qq (qq @qn5 @qn4) (qq @qkv (qq @qn1 @qn6)))) (qq (qq (qq @qqT @qgz) (qq @qdE @qaT)) (qq (qq @uR @qgy) (qq @qn7 (qq @qqV @qku)))))) (qq (qq (qq (qq (qq @qn3 @qqU) (qq @Z5 @Zo)) (qq (qq @qoA @qpG) (qq @qi5 (qq @qoz @qpE)))) (qq (qq (qq @qi4 @qf3) (qq @qf4 @qf7)) (qq (qq @qdz @qf5) (qq @qf6 (qq @uI @qkd))))) (qq (qq (qq (qq @KT @qaH) (qq @qf8 @qko)) (qq (qq @qhP @qlh) (qq @qhQ (qq @qiN @qiO)))) (qq (qq (qq @qpK @qi9) (qq @qmi @qmk)) (qq (qq @qja @qmj) (qq @qeM (qq @qh9 @qib))))))) (qq (qq (qq (qq (qq (qq @vB @qia) (qq @qh8 @qic)) (qq (qq @qeK @qbx) (qq @qmg (qq @qol @qkQ)))) (qq (qq (qq @qin @qeQ) (qq @qlo @qln)) (qq (qq @qkT @qiP) (qq @Lu (qq @qnC @qnJ))))) (qq (qq (qq (qq @qnD @qnI) (qq @qnH @qnG)) (qq (qq @qnF @qnE) (qq @qpN (qq @qpO @qpR)))) (qq (qq (qq @qpQ @qpP) (qq @qsG @qsH)) (qq (qq @qeY @qbC) (qq @qlI (qq @qpn @vc)))))) (qq (qq (qq (qq (qq @qa6 @qho) (qq @vd @yy)) (qq (qq @qa7 @quy) (qq @qri (qq @qtw @qoI)))) (qq (qq (qq @qrh @qoG) (qq @qrg @qoF)) (qq (qq @qoH @qkZ) (qq @qhb (qq @quv @qeb))))) (qq (qq (qq (qq @qec @qea) (qq @qa5 @qoL)) (qq (qq @qk8 @qkJ) (qq @qkL (qq @qkK @qgQ)))) (qq (qq (qq @qpw @qpx) (qq @qlV @qdA)) (qq (qq @qeS @qeR) (qq @qeT (qq @qhS @qeB)))))))))
def sC:=PLift.up (qq (qq (qq (qq (qq @List.nil_append.{0} (qq @List.append_nil.{0} @List.map_cons.{0,0})) (qq (qq @List.map_nil.{0,0} @List.length_cons.{0}) (qq @List.length_nil.{0} @List.cons_append.{0}))) (qq (qq (qq (qq (qq (qq (qq (qq (qq (qq (qq (qq (qq (qq (qq (qq (qq (qq (qq (qq (qq (qq (qq (qq (qq (qq (qq (qq (qq (qq (qq (qq (qq (qq (qq (qq (qq (qq (qq (qq (qq (qq @qtr @qw1) @qw9) @qwQ) @quP) @quQ) @qve) @qvd) @qvl) @quV) @qvk) @quT) @qwT) @qwS) @qwU) @qwV) @qw2) @qxd) @qxc) @qui) @qtz) @qtA) @qvc) @qva) @qvb) @qua) @qub) @qu0) @qu1) @qtB) @quX) @quu) @quq) @qur) @qut) @qus) @qum) @qun) @qwK) @qw7) @qtp) (qq @qtq @Option.map_some.{0,0})) (qq (qq @ne_eq.{1} @not_false_eq_true) (qq @List.length_set.{0} @List.length_replicate.{0})))) (qq (qq (qq @Bool.or_false (qq @Bool.or_true @Bool.false_or)) (qq (qq @Bool.true_or @Bool.and_true) (qq @Bool.and_false @Bool.true_and))) (qq (qq (qq @Bool.false_and @Bool.not_true) (qq @Bool.not_false @eq_self.{1})) (qq (qq @List.getElem?_cons_zero.{0} @List.getElem?_cons_succ.{0}) (qq @List.set_cons_zero.{0} @List.set_cons_succ.{0}))))) (qq (qq (qq (qq @List.append_assoc.{0} (qq @List.length_append.{0} @qi8)) (qq (qq @List.take_zero.{0} @List.drop_zero.{0}) (qq @List.take_succ_cons.{0} @List.drop_succ_cons.{0}))) (qq (qq (qq @List.drop_nil.{0} @List.take_nil.{0}) (qq @List.all_cons.{0} @List.all_nil.{0})) (qq (qq @Option.getD_some.{0} @Option.getD_none.{0}) (qq @and_self @and_true)))) (qq (qq (qq (qq @true_and @if_true.{1}) (qq @if_false.{1} @Nat.le_refl)) (qq (qq @Nat.ble_self_eq_true @Nat.zero_add) (qq @Nat.add_zero @beq_self_eq_true.{0}))) (qq (qq (qq @Bool.false_eq_true @bne_self_eq_false.{0}) (qq @List.isEmpty_nil.{0} @List.isEmpty_cons.{0})) (qq (qq @cond_true.{1} @cond_false.{1}) (qq @List.filterMap_cons.{0,0} @List.filterMap_nil.{0,0}))))))
def sTA:=PLift.up (qq (qq (qq (qq @qpu @qpl) (qq @qc0 (qq @qr9 @qmn))) (qq (qq @qmo (qq @qny @qj6)) (qq @qnA (qq @qqw @qfI)))) (qq (qq (qq @qpW (qq @qjl @qmr)) (qq @qji (qq @qfj @qjj))) (qq (qq @qjh (qq @qb1 @qjg)) (qq @qpJ (qq @qlP @qpp)))))
def sCA:=PLift.up (qq (qq @List.filter_cons.{0} @List.filter_nil.{0}) (qq @List.find?_cons.{0} @List.find?_nil.{0}))
section
variable{base:Nat}{call:Call}{p:XR}{s:St}{t:List qd}{h:List qh}
def hxW(d:Option Nat)(s:St):Option (qd×List qh×Bool)->Option (Ex×St)
 |some (v,h,e)=>some (.nor,{t:=put d v.dim s.t,h,e:=s.e||e})
 |none=>none
theorem qX(d:Option Nat)(t:List qd)(h h':List qh)(e e':Bool)(v:qd):hxW d ⟨t,h,e⟩ (some (v,h',e'))=some (.nor,⟨put d v.dim t,h',e||e'⟩):=rfl
theorem Qb(d:Option Nat)(o:HOp)(aS:List qA):qQ base call p d (.hx o aS) s=hxW d s (hop base o (aS.map (ev s.t)) s.h):=by
 simp only[qQ]
 cases hop base o (aS.map (ev s.t)) s.h with
 |none=>rfl
 |some r=>rfl
theorem Qx(o:HOp)(aS:List qA):(AOp.hx o aS).effs=true:=Eq.trans rfl rfl
theorem Zw(o:HOp)(aS:List qA):(AOp.hx o aS).isApp=false:=Eq.trans rfl rfl
theorem WG(id o len cap more:Nat):qeC false (.sl id o len cap more)=some (.int .i64 len):=rfl
theorem ZG(id o len cap more:Nat):(qd.sl id o len cap more).dim=.sl id o len cap more:=rfl
theorem Xb(id o len cap more i:Nat)(t:List qd):ZT (.sl id o len cap more) i t=t:=rfl
theorem WI(id o len cap more:Nat):(qd.sl id o len cap more).storable=true:=Eq.trans rfl rfl
theorem XP(n id o len cap more:Nat):(qd.sl id o len cap more).lower n=Nat.blt id n:=Eq.trans rfl rfl
def qml(k:Nat)(x y:qd):Option qd:=pureV [x,y] (.subL k (.t 0) none (some (.t 1)))
theorem qje(k id o len cap more:Nat)(j:IntKind)(n:Int):qml k (.sl id o len cap more) (.int j n)=if 0<=n then(if n.toNat<=cap then(if cap=0 then(if more=0 then some (.lst [] .full)else none)else(if more=0\/more=k then some (.sl id o n.toNat cap more)else none))else none)else none:=by
 have e1:ev [qd.sl id o len cap more,.int j n] (.t 0)=.sl id o len cap more:=rfl;have e2:ev [qd.sl id o len cap more,.int j n] (.t 1)=.int j n:=rfl;simp only[qml,pureV,bound,e1,e2];by_cases h:0<=n;·simp only[h,if_true,Nat.zero_le,true_and,Nat.zero_mul,jX,Nat.sub_zero]
 ·simp only[h,if_false]
theorem qhM(k id o len cap more:Nat)(j:IntKind)(n:Int):Xy k (.sl id o len cap more) (.int j n)=if 0<=n/\n<len then some (.ptr id (o+n.toNat*k))else none:=rfl
end
section
variable{P:Program}{gl:Nat->Option (List qd)}
noncomputable def cellsOf(W:World):Nat->Nat->Option Value:=λb o=>qaI (W.cell? ⟨b,o,none⟩)
def qnU(P:Program)(S:List TypeId):Bool:=S.all λt=>decide (t<P.types.size)&&P.readableRec t&&match P.underlying t with
 |some .bool|some (.int _)|some .string=>true
 |some (.slice e)=>S.contains e&&decide (0<P.cellsOf e)
 |some (.struct fs)=>fs.toList.all λf=>S.contains f.type
 |_=>false
def Xx(P:Program)(t:TypeId):Bool:=match P.underlying t with
 |some (.struct _)=>true
 |_=>false
def el(P:Program)(t:TypeId)(cs:List qd):qd:=bif Xx P t then .agg cs else cs.headD .undef
def zX(R:TypeId->List qd->Prop):List TypeId->List (List qd)->Prop
 |[],[]=>True
 |t::ts,a::aS=>R t a/\zX R ts aS
 |_,_=>False
def WK(P:Program):Nat->TypeId->List qd->Prop
 |0,_,_=>False
 |n+1,t,aS=>
  match P.underlying t with
  |some .bool=>∃b,aS=[.bool b]
  |some (.int k)=>∃z,aS=[.int k z]/\(Lit.int k z).wf=true
  |some .string=>∃s:List UInt8,aS=[.str s]/\s.length<=maxLen
  |some (.slice e)=>∃xs:List (List qd),aS=[.lst (xs.map (el P e)) .no]/\xs.length<=maxLen/\∀x∈xs,WK P n e x
  |some (.struct fs)=>∃ass:List (List qd),aS=ass.flatten/\zX (WK P n) (fs.toList.map (·.type)) ass
  |_=>False
theorem uw{γ:Nat->Option Nat}{imm:Nat->Nat->Option Value}{k:Nat}{b:Nat}:∀(xs:List qd)(p:Nat),(∀(i:Nat)(x:qd),xs[i]?=some x->x.cells.length=k/\ZD γ imm x.cells b (p+i*k))->Zg γ imm xs b p
 |[],_,_=>trivial
 |x::xs,p,h=>by
  obtain⟨h1,h2⟩:=h 0 x rfl;have ih:=uw xs (p+k) λi y hy=>(by obtain⟨k1,k2⟩:=h (i+1) y (by simpa using hy);refine⟨k1,?_⟩;rw[Nat.add_mul,Nat.one_mul]at k2;rw[jt,ju k];exact k2);simp only[Nat.zero_mul,jX]at h2
  cases x with
  |agg cs=>simp only[qd.cells]at h1 h2;simp only[Zg,h1];exact⟨h2,ih⟩
  |_=>simp only[qd.cells,jy,jz,Nat.zero_add]at h1;subst h1;simp only[qd.cells,ZD]at h2;exact⟨h2.1,ih⟩
theorem uu{γ:Nat->Option Nat}{W:World}{b:Nat}:∀(aS:List qd)(vs:List Value)(p:Nat),qx γ (cellsOf W) aS vs->(∀i,i<vs.length->W.cell? ⟨b,p+i,none⟩=vs[i]?)->ZD γ (cellsOf W) aS b p
 |[],_,_,_,_=>trivial
 |a::aS,vs,p,h,hc=>by simp only[qx]at h;obtain⟨v,rest,rfl,h1,h2⟩:=h;refine⟨⟨v,Qk.2 ⟨by simpa using hc 0 (by simp),Ws h1⟩,h1⟩,uu aS rest (p+1) h2 λi hi=>?_⟩;have:=hc (i+1) (by simpa using hi);rw[jt,ju 1];simpa using this
theorem KI{γ:Nat->Option Nat}{imm:Nat->Nat->Option Value}{R:TypeId->List qd->Prop}{size:TypeId->Nat}:∀(fs:List Field)(o:Nat)(cs:List Value),cs.length=o+(fs.map λf=>size f.type).sum->(∀(j:Nat) f,fs[j]?=some f->f.offset=o+((fs.take j).map λf=>size f.type).sum)->(∀f∈fs,∃aS,qx γ imm aS ((cs.drop f.offset).take (size f.type))/\R f.type aS)->∃U:List (List qd),qx γ imm U.flatten (cs.drop o)/\zX R (fs.map (·.type)) U
 |[],o,cs,hl,_,_=>⟨[],by simp only[List.map_nil,List.sum_nil,jX]at hl;simp[qx,<-hl],trivial⟩
 |f::fs,o,cs,hl,ho,hr=>by have h0:f.offset=o:=(by simpa using ho 0 f rfl);obtain⟨aS,h1,h2⟩:=hr f (jE ..);rw[h0]at h1;simp only[List.map_cons,List.sum_cons]at hl;obtain⟨U,h3,h4⟩:=KI fs (o+size f.type) cs zo (λj g hg=>by have:=ho (j+1) g (by simpa using hg);simp only[List.take_succ_cons,List.map_cons,List.sum_cons]at this;omega) (λg hg=>hr g (jH _ hg));refine⟨aS::U,?_,h2,h4⟩;have e:cs.drop o=(cs.drop o).take (size f.type)++cs.drop (o+size f.type):=(by rw[<-List.drop_drop,List.take_append_drop]);rw[e,List.flatten_cons];exact qx.append h1 h3
theorem WK.cells_el{n:Nat}{t:TypeId}{x:List qd}(h:WK P n t x):(el P t x).cells=x:=by
 cases n with
 |zero=>exact h.elim
 |succ n=>
  simp only[WK]at h;simp only[el,Xx];split at h;·rename_i hu;obtain⟨b,rfl⟩:=h;rw[hu];rfl
  ·rename_i hu;obtain⟨b,rfl,_⟩:=h;rw[hu];rfl
  ·rename_i hu;obtain⟨b,rfl,_⟩:=h;rw[hu];rfl
  ·rename_i hu;obtain⟨b,rfl,_⟩:=h;rw[hu];rfl
  ·rename_i hu;rw[hu];rfl
  ·exact h.elim
theorem qgf{α:Type}{Q:Nat->α->Prop}:∀len:Nat,(∀i,i<len->∃a,Q i a)->∃xs:List α,xs.length=len/\∀i x,xs[i]?=some x->Q i x
 |0,_=>⟨[],rfl,λi x h=>by simp at h⟩
 |len+1,h=>by
  obtain⟨xs,h1,h2⟩:=qgf len λi hi=>h i zo;obtain⟨y,h3⟩:=h len zo;refine⟨xs++[y],by simp[h1],λi x hi=>?_⟩;rcases Nat.lt_or_ge i xs.length with U|Y;·rw[ja U]at hi;exact h2 i x hi
  ·rw[jc Y]at hi
   have:i - xs.length=0:=by
    rcases Nat.eq_zero_or_pos (i - xs.length)with h|h;·exact h
    ·rw[jq (by simp only[jy,jz];omega)]at hi;cases hi
   rw[this]at hi;simp only[jx,jj]at hi;subst hi;have:i=len:=zo;subst this;exact h3
theorem qmG{a:Addr}(h:a.spot=none)(n:Nat):a.add n=⟨a.block,a.off+n,none⟩:=by
 unfold Addr.add;split;·rename_i h0;subst h0;cases a;simp_all
 ·rfl
theorem vK{H:Type}{enc:TypeId×Value->H}{W:World}{base:Nat}{sp:Nat->Bool}{held:Bool}{S:List TypeId}(hl:laidOutB P=true)(hS:qnU P S=true):∀(n:Nat)(t:TypeId)(cs:List Value)(x:DataW H×List MemPlace),t∈S->DataW.trod enc P W base sp held n t cs=some x->∃aS,qx (λ_=>none) (cellsOf W) aS cs/\WK P n t aS
 |0,t,cs,x,_,h=>by simp[DataW.trod]at h
 |n+1,t,cs,x,ht,h=>by
  have hd:=List.all_eq_true.1 hS t ht;simp only[jk,decide_eq_true_eq]at hd;obtain⟨⟨aa,_⟩,hd⟩:=hd;have ih:=vK (base:=base) (sp:=sp) (held:=held) (enc:=enc) (W:=W) hl hS n;split at hd;·rename_i hu;obtain⟨b,rfl,_⟩:=DataW.trod_bool hu h;exact⟨[.bool b],by simp[qx,qT],by simp only[WK,hu];exact⟨b,rfl⟩⟩
  ·rename_i k hu;obtain⟨z,rfl,_,hw⟩:=DataW.trod_int hu h;exact⟨[.int k z],by simp[qx,qT],by simp only[WK,hu];exact⟨z,rfl,hw⟩⟩
  ·rename_i hu;obtain⟨s,rfl,_,hw⟩:=DataW.trod_string hu h;exact⟨[.str s.data.toList],by simp only[qx,qT];exact⟨_,_,rfl,⟨s,rfl,rfl⟩,rfl⟩,by simp only[WK,hu];exact⟨_,rfl,by simpa using hw⟩⟩
  ·rename_i e hu;simp only[jk,decide_eq_true_eq,List.contains_iff_mem]at hd;obtain⟨he,ab⟩:=hd;rcases DataW.trod_slice hu h with⟨rfl,_⟩|⟨a,len,cap,elems,rest,m,hm,rfl,_,hb,af,aj,ai,Y,_⟩;·refine⟨[.lst [] .no],?_,by simp only[WK,hu];exact⟨[],rfl,Nat.zero_le _,λ_ h=>by cases h⟩⟩;simp only[qx,qT];exact⟨_,_,rfl,⟨none,0,0,rfl,rfl,jm _,by simp,by simp,⟨0,λ_ h=>by cases h⟩,.inl trivial⟩,rfl⟩
   ·cases hm;have one:∀i,i<len->∃aS:List qd,(∃U,W.cells? base (a.add (i*P.cellsOf e)) (P.cellsOf e)=some U/\qx (λ_=>none) (cellsOf W) aS U)/\WK P n e aS:=(by intro i hi;have hg:=Y i hi;rw[jh zo]at hg;simp only[Option.bind_eq_some_iff]at hg;obtain⟨U,h1,h2⟩:=hg;obtain⟨aS,h3,h4⟩:=ih e U _ he h2;exact⟨aS,⟨U,h1,h3⟩,h4⟩);obtain⟨xs,ad,hx⟩:=qgf len one;refine⟨[.lst (xs.map (el P e)) .no],?_,by simp only[WK,hu];exact⟨xs,rfl,zo,λx a6=>by obtain⟨i,hi⟩:=List.getElem?_of_mem a6;exact(hx i x hi).2⟩⟩;simp only[qx,qT];refine⟨_,_,rfl,⟨some a,len,cap,rfl,by simp[ad],af,by simp,by simp,⟨P.cellsOf e,λy hy=>?_⟩,?_⟩,rfl⟩;·obtain⟨x,a6,rfl⟩:=jT.1 hy;obtain⟨i,hi⟩:=List.getElem?_of_mem a6;obtain⟨⟨U,h1,h2⟩,h3⟩:=hx i x hi;rw[h3.cells_el,h2.length,(World.cells?_some h1).2.1]
    ·rcases Nat.eq_zero_or_pos len with h0|h0;·left;have:xs=[]:=List.eq_nil_of_length_eq_zero zo;simp[this]
     ·right
      have a1:a.spot=none:=by
       obtain⟨⟨U,h1,h2⟩,_⟩:=hx 0 xs[0] (jh zo);obtain⟨_,h3,h4⟩:=World.cells?_some h1;have h5:=h4 0 ab;rw[jh zo]at h5;simp only[Nat.zero_mul,Addr.add,if_pos]at h5
       cases ae:a.spot with
       |none=>rfl
       |some s=>
        simp only[World.cell?]at h5;split at h5;·simp[ae]at h5
        ·cases h5
      refine⟨a.block,a.off,by rw[<-a1],uw (k:=P.cellsOf e) _ _ λi y hy=>?_⟩;rw[jr,Option.map_eq_some_iff]at hy;obtain⟨x,hi,rfl⟩:=hy;obtain⟨⟨U,h1,h2⟩,h3⟩:=hx i x hi;obtain⟨_,h4,h5⟩:=World.cells?_some h1;rw[h3.cells_el];refine⟨by rw[h2.length,h4],uu x U _ h2 λj hj=>?_⟩;have h6:=h5 j zo;rw[<-h6];rw[qmG a1,qmG rfl,jt]
  ·rename_i fs hu;simp only[List.all_eq_true,List.contains_iff_mem]at hd;obtain⟨xs,m,hm,_,ac,_,Y⟩:=DataW.trod_struct hu h;cases hm;obtain⟨_,h2,h3⟩:=kid_struct hl aa hu;obtain⟨a8,h4,h5⟩:=KI (γ:=λ_=>none) (imm:=cellsOf W) (R:=WK P n) (size:=P.cellsOf) fs.toList 0 cs (by rw[ac,h2];simp) (λj f hj=>by rw[h3 j f hj];simp) (λf hf=>by obtain⟨i,hi⟩:=List.getElem?_of_mem hf;have a7:fs[i]?=some f:=(by simpa using hi);have hg:=Y i f a7;have ah:i<xs.length:=(by have:=(je.1 a7).1;omega);rw[jh ah]at hg;exact ih f.type _ _ (hd f hf) hg);exact⟨a8.flatten,by simpa using h4,by simp only[WK,hu];exact⟨a8,rfl,h5⟩⟩
  ·cases hd
theorem LD{H:Type}{enc:TypeId×Value->H}{W W0:World}{base b0:Nat}{r:Reach}{sp:Nat->Bool}{held:Bool}{S:List TypeId}(hl:laidOutB P=true)(hS:qnU P S=true){t:TypeId}(ht:t∈S){v:Value}{d:DataW H}{ps:List MemPlace}(U:Value.okWide P W0 r b0 t v)(h:DataW.Trod enc P W base sp held t v d ps):∃n aS,WK P n t aS/\qT (λ_=>none) (cellsOf W) (el P t aS) v:=by
 obtain⟨n,hn⟩:=h;obtain⟨aS,h1,h2⟩:=vK hl hS n t _ _ ht hn;refine⟨n,aS,h2,?_⟩;have hd:=List.all_eq_true.1 hS t ht;simp only[jk,decide_eq_true_eq]at hd;obtain⟨_,hd⟩:=hd
 have scalar:Xx P t=false->v.cells=#[v]->qT (λ_=>none) (cellsOf W) (el P t aS) v:=by
  intro hs hv;rw[hv]at h1;simp only[el,hs,cond_false]
  cases aS with
  |nil=>simp[qx]at h1
  |cons a aS=>simp only[qx]at h1;obtain⟨u,rest,he,h3,h4⟩:=h1;cases he;exact h3
 split at hd;·rename_i hu;simp only[Value.okWide,hu,Cell.okWide,Cell.ok]at U;refine scalar (by simp[Xx,hu]) ?_;cases v<;>first|rfl|(exact U.elim)
 ·rename_i k hu;simp only[Value.okWide,hu,Cell.okWide,Cell.ok]at U;refine scalar (by simp[Xx,hu]) ?_;cases v<;>first|rfl|(exact U.elim)
 ·rename_i hu;simp only[Value.okWide,hu,Cell.okWide,Cell.ok]at U;refine scalar (by simp[Xx,hu]) ?_;cases v<;>first|rfl|(exact U.elim)
 ·rename_i e hu;simp only[Value.okWide,hu,Cell.okWide,Cell.ok]at U;refine scalar (by simp[Xx,hu]) ?_;cases v<;>first|rfl|(exact U.elim)
 ·rename_i fs hu;simp only[Value.okWide,hu]at U;obtain⟨cs,rfl,_⟩:=U;simp only[el,Xx,hu,cond_true,qT];exact⟨cs,rfl,h1⟩
 ·cases hd
noncomputable def qk.whole(W:World):qk:={γ:=λ_=>none,imm:=λb o=>match W.heap[b]? with|some (.cells c _ (0,0))=>if 0<o/\o=c.size then some Wr else cellsOf W b o|_=>cellsOf W b o,ow:=λ_=>none}
theorem qak{W:World}{b o:Nat}{v:Value}(hv:(qk.whole W).imm b o=some v):(v≠Wr->W.cell? ⟨b,o,none⟩=some v/\b<W.heap.size)/\(v=Wr->0<o/\∃c e,W.heap[b]?=some (.cells c e (0,0))/\o=c.size):=by
 have key:cellsOf W b o=some v->(v≠Wr->W.cell? ⟨b,o,none⟩=some v/\b<W.heap.size)/\(v=Wr->0<o/\∃c e,W.heap[b]?=some (.cells c e (0,0))/\o=c.size):=λhv=>by
  obtain⟨k1,k2⟩:=Qk.1 hv;refine⟨λ_=>⟨k1,?_⟩,λq=>absurd q k2⟩;rcases Nat.lt_or_ge b W.heap.size with hb|hb;·exact hb
  ·simp[World.cell?,Array.getElem?_eq_none hb]at k1
 simp only[qk.whole]at hv;split at hv
 ·rename_i c e h1;split at hv;·rename_i hh;cases hv;exact⟨λq=>absurd rfl q,λ_=>⟨hh.1,c,e,h1,hh.2⟩⟩
  ·exact key hv
 ·exact key hv
theorem qdm{W:World}{b o:Nat}{v:Value}(hv:cellsOf W b o=some v):(qk.whole W).imm b o=some v:=by
 simp only[qk.whole];split
 ·rename_i c e h1;split;·rename_i hh;have:=(Qk.1 hv).1;simp[World.cell?,h1,hh.2]at this
  ·exact hv
 ·exact hv
theorem qjG{W:World}(h:qqc gl W):Rel P gl (qk.whole W) [] W/\gS (qk.whole W):=by
 refine⟨⟨(λ_ _ h=>by cases h),(λ_ _ _ h=>by cases h),(λ_ _ _ h=>by cases h),λb o v hv hm=>(qak hv).1 hm,(λ_ _ _ _ _ _ h=>by cases h),(λb o hv=>(qak hv).2 rfl),(λ_ _ h=>by cases h),λg cs hg=>?_⟩,(λ_ _ h=>by cases h)⟩;obtain⟨h1,vs,h2,h3,h4⟩:=h g cs hg;refine⟨⟨ZD.of_get λi c hc=>?_,λh0=>?_⟩,h1⟩
 ·obtain⟨v,hv,hr⟩:=h2.get hc;refine⟨v,?_,?_⟩;·rw[Nat.zero_add];exact qdm (Qk.2 ⟨h3 i v hv,Ws hr⟩)
  ·exact qT.mono (λ_ _ _ h=>by cases h) 0 (λi _ hi=>absurd hi (Nat.not_lt_zero _)) c v (gH h1 hc) hr
 ·obtain⟨c,e,k1,k2⟩:=h4 h0;simp only[qk.whole,k1];rw[if_pos ⟨h0,k2⟩]
theorem qfv{n:Nat}{W W':World}{G':qk}(he:Ext n (qk.whole W) W G' W'):W.keptBut W' (λ_=>False):=by
 refine⟨he.os,he.output,λi hi=>?_⟩;rw[he.heap i hi ⟨λ_ h=>by simp[qk.whole]at h,rfl⟩];split;·rename_i h1 h2;rw[h1]at h2;cases h2;exact⟨rfl,rfl,rfl,λ_ _=>rfl⟩
 ·rename_i h1 h2;rw[h1]at h2;cases h2;exact .inr ⟨rfl,rfl⟩
 ·rfl
theorem qhN{W W':World}(h:W.keptBut W' (λ_=>False)){p:MemPlace}(hp:p.block<W.heap.size):W.sameAt W' p:=by
 have h1:=h.2.2 p.block hp
 cases p with
 |cell b off=>
  simp only[MemPlace.block]at h1 hp;simp only[World.sameAt,World.cell?];split at h1;·rename_i e1 e2;rw[e1,e2];simp only[Option.isSome_none,jl,if_false];exact h1.2.2.2 off (λh=>h)
  ·rename_i e1 e2;rw[e1,e2]
  ·rw[h1]
 |map b=>
  simp only[MemPlace.block]at h1 hp;simp only[World.sameAt];split at h1;·rename_i c t fr c' t' U e1 e2;obtain⟨rfl,rfl,h3,h4⟩:=h1;rw[e1,e2];have:c'=c:=(by apply Array.ext_getElem?;intro j;exact h4 j (λh=>h));rw[this]
  ·rename_i e1 e2;rcases h1 with h1|⟨rfl,rfl⟩;·exact h1.elim
   ·rw[e1,e2]
  ·exact h1
theorem qdy{call : AE.Call}(hcall : XY P gl call){f : FuncId}{pf : Func}{c : Code}(h1 : P.funcs[f]?=some pf)(h2 : (pf.name== "runtime.NumGoroutine")=false)(h3 : pf.body=some c){args : List qd}{rv : qd}{h' : List qh}{e' : Bool}(hrun:call (.fn f [] []) args []=some (.ret rv,h',e')){W:World}(ht:qqc gl W){vs:Array Value}(hargs:qx (λ_=>none) (cellsOf W) args vs.toList): Calls P f vs W λe W'=>∃v G',e=.returned v/\qk.V G' rv v/\W.keptBut W' (λ_=>False):=by
 obtain⟨hr,hn⟩:=qjG (P:=P) ht;have hfv:(qk.whole W).V (.fn f [] []) (.func (.func f) #[] #[]):=by simp[qk.V,qT,qx]
 replace hargs:(qk.whole W).VL args vs.toList:=qx.mono (λ_ _ _ h=>qdm h) 0 (λi _ hi=>absurd hi (Nat.not_lt_zero _)) args _ (Wk (n:=0) (λ_ _ h=>by cases h) args _ hargs) hargs;have hS:(Fy (.func (.func f) #[] #[]) vs).run P W=.ok (.enter f vs) W:=by rw[yf,Qv h1 h2 h3];simp
 rcases hcall _ _ _ _ _ _ hrun _ W _ vs hr hn hfv hargs with⟨f',aS,k1,k2⟩|⟨_,_,_,_,_,_,hy,_⟩|⟨v,w',_,k1,_⟩
 ·rw[hS]at k1;cases k1;refine(callsIn_wide (n:=0)).1 (CallsIn.mono (k2 none 0) λe W' hb=>?_)
  cases e with
  |returned v=>obtain⟨rv',G',g1,g2,g3,g4,g5⟩:=hb;cases g1;exact⟨v,G',rfl,g5,qfv g2⟩
  |panicked ch=>obtain⟨_,_,_,g1,_⟩:=hb;cases g1
  |outgrown=>exact hb.elim
 ·cases hy
 ·rw[hS]at k1;cases k1
end
theorem yk{p:Prop}(h:p := by kernel_rfl):p:=h
theorem Y0{p:Prop}(h:p := by simp only[qR,ht]):p:=h
theorem Y1{p:Prop}(h:p := by simp only[sT.1,sC.1,seval,-Int.reduceNatCast']):p:=h
theorem Y2{p:Prop}(h:p := by simp only[sT.1,sC.1,seval,-Int.reduceNatCast',e4]):p:=h
theorem Y3{p:Prop}(h:p := by simp only[sT.1,sC.1,qe,qr,Nat.testBit,seval,-Int.reduceNatCast']):p:=h
theorem Y4{p:Prop}(h:p := by simp only[sT.1,sC.1,qe,qr,Nat.testBit,seval,-Int.reduceNatCast',ht,e1]):p:=h
theorem Y5{p:Prop}(h:p := by simp only[sT.1,seval,-Int.reduceNatCast',ht]):p:=h
theorem w6{p:Prop}(h:p := by simp only[sT.1,sC.1,seval,-Int.reduceNatCast',e3]):p:=h
theorem w7{p:Prop}(h:p := by simp only[sT.1,sC.1,seval,-Int.reduceNatCast',Int.natCast_zero]):p:=h
theorem w8{p:Prop}(h:p := by simp only[sT.1,sC.1,qe,qr,Nat.testBit,seval,-Int.reduceNatCast',ht,e4]):p:=h
theorem w9{p:Prop}(h:p := by simp only[sT.1,sC.1,qe,qr,Nat.testBit,seval,-Int.reduceNatCast',ht,e5]):p:=h
theorem x10{p:Prop}(h:p := by simp only[qR,q1]):p:=h
theorem z11{p:Prop}(h:p := by simp only[sT.1,sC.1,qe,qr,Nat.testBit,seval,-Int.reduceNatCast',ht,e3]):p:=h
theorem z12{p:Prop}(h:p := by simp only[sT.1,sC.1,seval,-Int.reduceNatCast',ht]):p:=h
theorem z13{p:Prop}(h:p := by simp only[sT.1,sC.1,seval,-Int.reduceNatCast',e6]):p:=h
theorem z14{p:Prop}(h:p := by simp only[sT.1,sC.1,seval,-Int.reduceNatCast',e5]):p:=h
theorem z15{p:Prop}(h:p := by simp only[sT.1,sC.1,qe,qr,Nat.testBit,seval,-Int.reduceNatCast',ht,e2]):p:=h
theorem z16{p:Prop}(h:p := by simp only[sT.1,sC.1,qe,qr,Nat.testBit,seval,-Int.reduceNatCast',Int.natCast_zero]):p:=h
theorem z17{p:Prop}(h:p := by simp only[sT.1,sC.1,sTA.1,sCA.1,qe,qL,qN,Src.isTmp,qy,Src.hangs,qA.isT,qK,qr,Nat.testBit,bne,seval,-Int.reduceNatCast',ht]):p:=h
theorem y18{p:Prop}(h:p := by simp only[sT.1,sC.1,sTA.1,sCA.1,qe,qL,qN,Src.isTmp,qy,Src.hangs,qA.isT,qK,qr,Nat.testBit,bne,seval,-Int.reduceNatCast']):p:=h
end Go.AE
