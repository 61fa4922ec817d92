/- A part of the proof: the abstract executor and what goes through it (part 2). No condition. -/
import Derived.Test.YtnibchoenjmmjaaGreatDoorMr1
import Derived.OpenShut
import Derived.LaidLaws
import Derived.ChangeArms
import Derived.Lib.AtoiAll
import Derived.Lib.Bytealg
import Derived.Laws.Externs
import Derived.Test.YtnibchoenjmmjaaGreatDoorMr0
import Derived.WideKeyArgs
set_option maxRecDepth 100000
open List renaming getElem?_append_left→ja,getElem?_append_right→jc,getElem?_eq_some_iff→jd,mem_cons_self→jG,getElem?_set_ne→jf,getElem?_eq_getElem→jh,mem_cons_of_mem→jK,getElem?_map→jr,getElem?_cons_zero→jz,length_cons→jA,length_nil→jB,mem_map→jR
open Int renaming natCast_zero→jS
open Option.some renaming injEq→jj
open Bool renaming and_eq_true→jk,false_eq_true→jl
open Nat renaming le_refl→jm,le_trans→jn,add_assoc→ju,add_comm→jv,add_zero→jT
open Option renaming map_some→jL
namespace Go.AE
section
variable {P:Program} {gl:Nat->Option (List qa)}
theorem qeG {G' G0:qc} {w0:World} {h:List qb} {t:List qa} {n:Nat} {fn:Func} {ts:Array Value} {R:Ending->World->Prop} {F:Fence} {m:Nat} {u:FrameMode} (hu:u ≠ .run) {fx:List Deferred}:∀(ds:List Deferred) (w':World),
  qgW G' w' w0.heap.size ds->Ext n G0 w0 G' w'->Rel P gl G' h w'->qaA G' w' t ts->(∀B,Ext n G0 w0 G' B->Rel P gl G' h B->qaA G' B t ts->LeavesInM F m P fn ts R fx u B)->LeavesInM F m P fn ts R (ds ++ fx) u w'
 | [],w',_,he,hr,ht,hR=>hR w' he hr ht
 | d :: ds,w',hm,he,hr,ht,hR=>by
  obtain ⟨r,rfl,h1,h2,h3⟩:=hm.all d (jG ..)
  refine ⟨hu,.inl ⟨r,w'.putObj r (.deferred none),rfl,run_takeDeferred h2,?_⟩⟩
  have E:=List.nodup_cons.1 hm.nodup
  refine qeG hu ds _ ⟨E.2,λd hd=>?_⟩ (he.putFar h1 _) (hr.putFar h3 λk=>by simp [World.cell?,h2]) (ht.putFar h3) hR
  obtain ⟨r',g1,g2,g3,g4⟩:=hm.all d (jK _ hd)
  refine ⟨r',g1,g2,?_,g4⟩
  rw [World.putObj_heap_other]
  ·exact g3
  ·rintro rfl
   rw [g1] at hd
   exact E.1 hd
theorem qjT (hmx:P.follows .mixedOrders = true) {call:AE.Call} (hcall:qbT P gl call) (hk:qN call) {df pf:Func} {d:qek} (hd:qCw P gl df d) {N base n0 m:Nat} {G0:qc} {w0:World} {R:Ending->World->Prop} {x:Ex} {s':St} :
  ∀ (gb : qgV) (c : Code), qoK P gl c = some gb -> P.funcs[gb.fid]? = some df -> (df.name == "runtime.NumGoroutine") = false -> ∀ (G : qc) (w : World) (s : St) (a : Act), Cfg P gl G s.h s.t a w -> base <= s.h.length -> a.defers = [] -> w0.heap.size <= w.heap.size -> n0 <= s.h.length -> Ext n0 G0 w0 G w ->
   qds N base call d gb s = some (x,s')->
   (∀G' w' a',(x = .nor\/x = .ret)->Ext n0 G0 w0 G' w'->Cfg P gl G' s'.h s'.t a' w'->LeavesIn (FR none) m P pf a'.tmps R [] .returning w')->
   (∀pv v G' w' a',x = .pan pv->Ext n0 G0 w0 G' w'->Cfg P gl G' s'.h s'.t a' w'->G'.V pv v->R (.panicked [{ v,recovered:=false}]) w')->
   c.wpIn (FR none) m P (bodyPostM (FR none) m P pf R) a w:=by
 intro gb
 induction gb with
 | pre ac r ih=>
  intro c hcomp hf hname G w s a hc hb hdf hlo hn he hrun hret hpan
  cases c <;> simp only [qoK,reduceCtorEq] at hcomp
  rename_i a1 b1
  split at hcomp
  ·rename_i f caps t hdc
   obtain ⟨z,_,hz⟩:=qbX hcomp
   cases hz
  ·split at hcomp
   ·rename_i x1 r1 hx1 hr1
    split at hcomp
    ·rename_i hrf
     cases hcomp
     have hW:=λx2 s2 hx2=>qb9 hmx hcall hk (N:=N) (base:=base) (lo:=w0.heap.size) (rf:=true) (fx:=[]) (ro:=none) (m:=m) a1 ac hx1 (λ_=>hrf) G w s a x2 s2 hc hb (λ_ hq=>by cases hq)
      ⟨[],by rw [hdf];rfl,⟨List.nodup_nil,λ_ h=>by cases h⟩,λ_=>rfl⟩ hlo hx2
     simp only [qds] at hrun
     split at hrun
     ·rename_i s1 hs1
      have hkeep:=(qJ (base:=base) hk N ac s s1 _ hb hs1).1
      refine wpIn_seq (wpIn_mono (hW _ s1 hs1) λe a' w' hfin=>?_)
      obtain ⟨G',g1,⟨ms,hms,_,hms0⟩,rfl,g4⟩:=hfin
      have hd0:a'.defers = []:=by rw [hms,hms0 rfl];rfl
      exact ih b1 hr1 hf hname G' w' s1 a' g4 (jn hb hkeep) hd0 (jn hlo g1.size) (jn hn hkeep) (he.trans hn g1) hrun hret hpan
     ·cases hrun
     ·rename_i r2 h1 h2
      refine wpIn_seq (wpIn_mono (hW x s' hrun) λe a' w' hfin=>?_)
      obtain ⟨G',g1,⟨ms,hms,_,hms0⟩,g3⟩:=hfin
      have hd0:a'.defers = []:=by rw [hms,hms0 rfl];rfl
      cases x with
      | nor=>exact absurd hrun (h1 s')
      | exit id=>exact absurd hrun (h2 id s')
      | ret=>
       obtain ⟨rfl,g3⟩:=g3
       show LeavesInM _ _ _ _ _ _ _ _ _
       rw [hd0]
       exact hret G' w' a' (.inr rfl) (he.trans hn g1) g3
      | pan pv=>
       obtain ⟨v,rfl,g3,g4⟩:=g3
       show LeavesInM _ _ _ _ _ _ _ _ _
       rw [hd0]
       exact hpan pv v G' w' a' rfl (he.trans hn g1) g3 g4
    ·cases hcomp
   ·cases hcomp
 | dfr f caps slot rest=>
  intro c hcomp hf hname G w s a hc hb hdf hlo hn he hrun hret hpan
  change P.funcs[f]? = some df at hf
  cases c <;> simp only [qoK,reduceCtorEq] at hcomp
  rename_i a1 b1
  split at hcomp
  ·rename_i f' caps' t hdc
   obtain ⟨z,hz,hze⟩:=qbX hcomp
   cases hze
   obtain ⟨id,ops,o0,o1,a0,cs,cl,rfl,rfl,k1,rfl,k3,k4,k5,k6,k7,k8,k9,k10⟩:=qxj hdc
   refine wpIn_seq (wpIn_region ?_)
   have hrange:List.range (#[o0,o1]:Array Oper).size = [0,1]:=rfl
   rw [hrange]
   simp only [wpOpsIn,List.getElem?_toArray,jz,List.getElem?_cons_succ]
   rw [if_pos (by simp [Region.wanted,k4])]
   have hcomp0:qb2 P gl o0 = some (.mkF f [] caps):=by
    simp only [qb2,qfn,qd8,k1,k10]
    rfl
   have hrun0:qu base call [] o0.dst (.mkF f [] caps) s = some (.nor,{ s with t:=put (some slot) (.fn f [] (caps.map (ev s.t))) s.t}):=by
    simp [qu,pureV,k3]
   refine qeL hcall hk hc qbe.nil hcomp0 hrun0 (λ_ u1 w1 G1 e1 c1 _ _ _=>?_) (λpv h=>by cases h)
   rw [k3] at c1 ⊢
   rw [if_pos (by simp [Region.wanted,k9])]
   simp only [qds] at hrun
   split at hrun
   ·rename_i g cv hev
    split at hrun
    ·rename_i hgf
     subst hgf
     have hv:=qT c1.rel c1.tr (x:=.tmp slot) (ax:=.t slot) rfl
     rw [hev] at hv
     simp only [qc.V,qC,qg] at hv
     obtain ⟨x0,y0,hval,hx0,hy0⟩:=hv
     have hx0':x0 = #[]:=by apply Array.ext';simpa using hx0
     subst hx0'
     let dd:Deferred:={ target:=.fn (.func g) y0,args:=#[]}
     refine ⟨λ_ _=>trivial,?_⟩
     have hsem:(o1.semAt (FR none).round (a.put (some slot) u1).eval).run P w1 = .ok (.defer dd) w1:=by
      show (Oper.semAt none _ _).run P w1 = _
      rw [Oper.semAt_none]
      simp only [execOp,k5,resolve,k6,k7,hval]
      simp [Deferred.ofValue,Sem.run_bind,Result.andThen,dd]
     rw [hsem,Oper.uponIn_defer,k8]
     show (Code.wpIn (FR none) m P b1 (bodyPostM (FR none) m P pf R)) { tmps:=(a.put (some slot) u1).tmps,defers:=dd :: a.defers} w1
     rw [hdf]
     have hlen1:n0 <= ({ s with t:=put (some slot) (.fn g [] (caps.map (ev s.t))) s.t}:St).h.length:=hn
     have he1:Ext n0 G0 w0 G1 w1:=he.trans hn e1
     have c2:Cfg P gl G1 s.h (put (some slot) (.fn g [] (caps.map (ev s.t))) s.t) { tmps:=(a.put (some slot) u1).tmps,defers:=[] ++ [dd]} w1:=⟨c1.rel,c1.tr⟩
     have hW:=λx2 s2 hx2=>qb9 hmx hcall hk (N:=N) (base:=base) (lo:=w0.heap.size) (rf:=false) (fx:=[dd]) (ro:=none) (m:=m) b1 rest hz (λh=>by cases h) G1 w1 { s with t:=put (some slot) (.fn g [] (caps.map (ev s.t))) s.t}
      { tmps:=(a.put (some slot) u1).tmps,defers:=[] ++ [dd]} x2 s2 c2 hb (λ_ hq=>by cases hq) ⟨[],rfl,⟨List.nodup_nil,λ_ h=>by cases h⟩,λh=>by cases h⟩ he1.size hx2
     have tail:∀(s2:St) (v:qa) (u:FrameMode) (G2:qc) (w2:World) (a2:Act),s.h.length <= s2.h.length->Ext s.h.length G1 w1 G2 w2->qdV G2 w2 w0.heap.size false [dd] a2.defers->Cfg P gl G2 s2.h s2.t a2 w2->u ≠ .run->qFb G2 u v->
       qeu N call d v cv s2 = some (x,s')->LeavesInM (FR none) m P pf a2.tmps R a2.defers u w2:=by
      intro s2 v u G2 w2 a2 hkeep he2 hmk c3 hur hmode hdx
      obtain ⟨ms,hms,hmk,_⟩:=hmk
      rw [hms]
      refine qeG (G0:=G0) (w0:=w0) (n:=n0) hur ms w2 hmk (he1.trans hn he2) c3.rel c3.tr λw3 q1 q2 q3=>?_
      have hcv:G2.VL cv y0.toList:=he2.VL hy0
      refine ⟨hur,.inr ⟨qfG,.func g,y0,g,y0,rfl,?_,λ_ _=>trivial,?_⟩⟩
      ·simp only [dd,invoke]
       have:=hd.ex
       obtain ⟨id',ops',o0',os',c',hbody',_⟩:=this
       have:=qaS (vs:=#[] ++ y0) (w:=w3) hf hname hbody'
       simpa using this
      ·have c4:Cfg P gl G2 s2.h s2.t { a2 with defers:=[]} w3:=⟨q2,q3⟩
       refine (qga hmx hcall hk hf hd hdx c4 hcv hmode λr u' G3 w4 r1 r2 r3=>?_).2.2
       obtain ⟨hxr,hst,_⟩:=qga (m:=m) (R:=λ_ _ _=>True) hmx hcall hk hf hd hdx c4 hcv hmode λ_ _ _ _ _ _ _=>trivial
       show LeavesInM _ _ _ _ _ _ _ _ _
       rw [r1]
       exact hret G3 w4 { a2 with defers:=[]} (.inr hxr) (q1.trans (jn hn hkeep) r2) r3
     split at hrun
     ·rename_i s2 hx2
      have hkeep:=(qJ (base:=base) hk N rest { s with t:=put (some slot) (.fn g [] (caps.map (ev s.t))) s.t} s2 _ hb hx2).1
      refine wpIn_mono (hW _ s2 hx2) λe a2 w2 hfin=>?_
      obtain ⟨G2,g1,g2,rfl,g3⟩:=hfin
      exact tail s2 _ .returning G2 w2 a2 hkeep g1 g2 g3 (by simp) (.inl ⟨rfl,rfl⟩) hrun
     ·rename_i s2 hx2
      have hkeep:=(qJ (base:=base) hk N rest { s with t:=put (some slot) (.fn g [] (caps.map (ev s.t))) s.t} s2 _ hb hx2).1
      refine wpIn_mono (hW _ s2 hx2) λe a2 w2 hfin=>?_
      obtain ⟨G2,g1,g2,rfl,g3⟩:=hfin
      exact tail s2 _ .returning G2 w2 a2 hkeep g1 g2 g3 (by simp) (.inl ⟨rfl,rfl⟩) hrun
     ·rename_i v s2 hx2
      have hkeep:=(qJ (base:=base) hk N rest { s with t:=put (some slot) (.fn g [] (caps.map (ev s.t))) s.t} s2 _ hb hx2).1
      refine wpIn_mono (hW _ s2 hx2) λe a2 w2 hfin=>?_
      obtain ⟨G2,g1,g2,vv,rfl,g3,g4⟩:=hfin
      exact tail s2 v (.panicking [{ v:=vv,recovered:=false}]) G2 w2 a2 hkeep g1 g2 g3 (by simp) (.inr ⟨vv,rfl,g4⟩) hrun
     ·cases hrun
    ·cases hrun
   ·cases hrun
  ·split at hcomp
   ·split at hcomp
    ·cases hcomp
    ·cases hcomp
   ·cases hcomp
theorem qlc (hmx : P.follows .mixedOrders = true) {f : FuncId} {pf df : Func} {g : qjr} (hf : P.funcs[f]? = some pf) (hname : (pf.name == "runtime.NumGoroutine") = false) (hcomp : qf8 P gl pf df = some g) (hdf : P.funcs[g.body.fid]? = some df)
  (hdname : (df.name == "runtime.NumGoroutine") = false) (N : Nat) : qgU P gl f (qfB N g) := by
 intro call hcall hk aS h r h' e' hrun G w vs hr hn hall
 unfold qf8 at hcomp
 split at hcomp
 ·rename_i c hbody
  split at hcomp
  ·rename_i b rs d hb hrs hd
   cases hcomp
   simp only at hdf
   refine .inl ⟨qaS hf hname hbody vs w,λro m=>qhr (m:=m) ?_⟩
   have hsize:vs.size = aS.length:=by have:=hall.length;simp at this ⊢;omega
   have hc0:Cfg P gl G h (aS.map qa.dim ++ List.replicate (pf.ntmps - aS.length) (.tup [])) { tmps:=vs ++ Array.replicate (pf.ntmps - vs.size) undef,defers:=[]} w:=by
    refine ⟨hr,qaA.start ?_ λz hz=>?_⟩
    ·simp only [Array.toList_append,Array.toList_replicate]
     refine qg.append hall.dims ?_
     rw [hsize]
     exact qg.replicate _ (by simp [qC,qg,undef])
    ·rcases List.mem_append.1 hz with hz | hz
     ·obtain ⟨q,_,rfl⟩:=jR.1 hz;exact qbo q
     ·rw [(List.mem_replicate.1 hz).2];rfl
   refine callsIn_of_wp_marks (F:=FR none) hf hbody trivial ?_ rfl
   simp only [qfB] at hrun
   have main:∀x s,qds N h.length call d b ⟨aS.map qa.dim ++ List.replicate (pf.ntmps - aS.length) (.tup []),h,false⟩ = some (x,s)->
     ((x = .nor\/x = .ret)->∃vs',qao s rs = some vs'/\qaE h.length (.ret (qbE vs')) s.h s.e = (r,h',e'))->(∀pv,x = .pan pv->qaE h.length (.pan pv) s.h s.e = (r,h',e'))->
     c.wpIn (FR none) m P (bodyPostM (FR none) m P pf (qn1 P gl h.length G w r h')) { tmps:=vs ++ Array.replicate (pf.ntmps - vs.size) undef,defers:=[]} w:=by
    intro x s hx h1 h2
    have k:=qcg (base:=h.length) hk b ⟨_,h,false⟩ s _ (jm _) hx
    refine qjT hmx hcall hk (qoJ hd) (n0:=h.length) (G0:=G) (w0:=w) b c hb hdf hdname G w ⟨_,h,false⟩ _ hc0 (jm _) rfl (jm _) (jm _) (Ext.refl _ G w) hx (λG' w' a' hxx g1 g2=>?_) (λpv v G' w' a' hxx g1 g2 g3=>?_)
    ·obtain ⟨vs',hres,hlv⟩:=h1 hxx
     obtain ⟨u,r1,r2⟩:=qeO g2 hrs hres
     obtain ⟨rfl,G'',y1,y2,y3,y4⟩:=qcP hr g1 g2.rel ⟨k.1,λhe=>(k.2 he).2⟩ hlv
     exact ⟨u,r1,_,G'',rfl,y1,y2,y3,y4 _ u (.inl rfl) r2⟩
    ·obtain ⟨rfl,G'',y1,y2,y3,y4⟩:=qcP hr g1 g2.rel ⟨k.1,λhe=>(k.2 he).2⟩ (h2 pv hxx)
     exact ⟨pv,v,G'',rfl,rfl,y1,y2,y3,y4 _ v (.inr rfl) g3⟩
   split at hrun
   ·rename_i s hx
    split at hrun
    ·rename_i vs' hres
     exact main _ s hx (λ_=>⟨vs',hres,Option.some.inj hrun⟩) (λ_ h=>by cases h)
    ·cases hrun
   ·rename_i s hx
    split at hrun
    ·rename_i vs' hres
     exact main _ s hx (λ_=>⟨vs',hres,Option.some.inj hrun⟩) (λ_ h=>by cases h)
    ·cases hrun
   ·rename_i v s hx
    exact main _ s hx (λh=>by rcases h with h | h <;> cases h) (λpv h=>by cases h;exact Option.some.inj hrun)
   ·cases hrun
  ·cases hcomp
 ·cases hcomp
end
section
variable {P:Program} {gl:Nat->Option (List qa)}
noncomputable def qc.start (gl:Nat->Option (List qa)) (W:World):qc:={ γ:=λ_=>none,imm:=λb o=>if (gl b).isSome then qlV (W.cell? ⟨b,o,none⟩) else none,ow:=λ_=>none}
def qCz (gl:Nat->Option (List qa)) (W:World):Prop:=∀g cs,gl g = some cs->qt 0 cs = true/\∃vs:List Value,qg (λ_=>none) (λ_ _=>none) cs vs/\∀(j:Nat) (v:Value),vs[j]? = some v->W.cell? ⟨g,j,none⟩ = some v
def qyn {H:Type}:DataW H->Option qa
 | .lit (.int k z)=>some (.int k z)
 | .lit (.string s)=>some (.str s)
 | .lit (.bool b)=>some (.bool b)
 | _=>none
theorem quL {H:Type} {enc:TypeId×Value->H} {w:World} {base:Nat} {sp:Nat->Bool} {held:Bool} {fuel:Nat} {e:TypeId} {cs:List Value} {x:DataW H×List MemPlace} {a:qa}
  (he:(∃k,P.underlying e = some (.int k))\/P.underlying e = some .string) (h:DataW.trod enc P w base sp held fuel e cs = some x) (ha:qyn x.1 = some a):∃v,cs = [v]/\qC (λ_=>none) (λ_ _=>none) a v:=by
 rcases he with ⟨k,he⟩ | he
 ·obtain ⟨n,rfl,rfl,_⟩:=DataW.trod_int he h
  simp only [qyn,jj] at ha
  subst ha
  exact ⟨_,rfl,by simp [qC]⟩
 ·obtain ⟨s,rfl,rfl,_⟩:=DataW.trod_string he h
  simp only [qyn,jj] at ha
  subst ha
  exact ⟨_,rfl,by simp only [qC];exact ⟨s,rfl,rfl⟩⟩
theorem qcW {laid:List (String×DataW Unit)} {W:World} (hL:laidMet P laid W) {name:String} {ds:List (DataW Unit)} (hm:(name,DataW.agg ds) ∈ laid) {g:Nat} (hg:P.globalNamed name = some g) {t e:TypeId} {n:Nat} (ht:(P.globals[g]?).map (·.type) = some t)
  (hu:P.underlying t = some (.array n e)) (he:(∃k,P.underlying e = some (.int k))\/P.underlying e = some .string) (hc:P.cellsOf e = 1) {aS:List qa} (has:ds.mapM qyn = some aS) :
  qt 0 aS = true/\∃vs:List Value,qg (λ_=>none) (λ_ _=>none) aS vs/\∀(j:Nat) (v:Value),vs[j]? = some v->W.cell? ⟨g,j,none⟩ = some v:=by
 obtain ⟨ps,hv,E⟩:=hL
 clear E
 induction laid generalizing ps with
 | nil=>cases hm
 | cons x laid ih=>
  obtain ⟨nx,dx⟩:=x
  obtain ⟨g',t',cs,fuel,p,q,a6,a1,J,hd,hq,_⟩:=hv
  rcases List.mem_cons.1 hm with hm | hm
  ·cases hm
   obtain rfl:=Option.some.inj (hg.symm.trans a6)
   obtain rfl:=Option.some.inj (ht.symm.trans a1)
   obtain ⟨xs,m,_,hx,_,M,a7⟩:=DataW.trod_array hu hd
   have a8:xs.map (·.1) = ds:=(DataW.agg.inj (Prod.mk.inj hx).1).symm
   have key:∀(i:Nat) (a:qa),aS[i]? = some a->∃v,cs[i]? = some v/\qC (λ_=>none) (λ_ _=>none) a v:=by
    intro i a ha
    obtain ⟨d,I,aa⟩:=qhN has i a ha
    rw [<-a8,jr,Option.map_eq_some_iff] at I
    obtain ⟨y,hy,rfl⟩:=I
    have hi:i < n:=by rw [<-M];exact (jd.1 hy).1
    have h1:=a7 i hi
    rw [hy,hc,Nat.mul_one] at h1
    obtain ⟨v,S,O⟩:=quL he h1 aa
    have h0:((cs.toList.drop i).take 1)[0]? = some v:=by rw [S];rfl
    exact ⟨v,by simpa using h0,O⟩
   refine ⟨qeH λa ha=>?_,aS.mapIdx (λi _=>cs.getD i undef),qg.of_get (by simp) λi a v ha hv=>?_,λj v hv=>?_⟩
   ·obtain ⟨i,hi⟩:=List.getElem?_of_mem ha
    obtain ⟨v,_,hr⟩:=key i a hi
    exact qdm (n:=0) (λ_ _ h=>by cases h) a v hr
   ·obtain ⟨u,B,U⟩:=key i a ha
    rw [List.getElem?_mapIdx,ha] at hv
    simp only [jL,jj] at hv
    rw [Array.getD_eq_getD_getElem?,B] at hv
    simp only [Option.getD_some] at hv
    rw [<-hv]
    exact U
   ·rw [World.var?_cell hg J j]
    rw [List.getElem?_mapIdx] at hv
    cases ha:aS[j]? with
    | none=>rw [ha] at hv;cases hv
    | some a=>
     obtain ⟨u,B,_⟩:=key j a ha
     rw [ha] at hv
     simp only [jL,jj] at hv
     rw [Array.getD_eq_getD_getElem?,B] at hv
     simp only [Option.getD_some] at hv
     rw [<-hv]
     exact B
  ·exact ih hm q hq
end
section
variable {P:Program} {gl:Nat->Option (List qa)}
theorem qrM {T : qe0} (hT : T.All λi v => ∃ pf, P.funcs[i]? = some pf /\ qd P gl pf = some v /\ (pf.name == "runtime.NumGoroutine") = false) : qdW P gl T.get := λf fn h => by
 obtain ⟨pf,h1,h2,h3⟩:=qe0.get_all hT h
 unfold qd at h2
 split at h2
 ·cases h2
 ·rename_i c hb
  split at h2
  ·rename_i code rs e1 e2
   cases h2
   exact ⟨pf,c,h1,h3,hb,e1,e2,rfl⟩
  ·cases h2
theorem qvD {W:World} {g:Nat}:qt 0 [] = true/\∃vs:List Value,qg (λ_=>none) (λ_ _=>none) [] vs/\∀(j:Nat) (v:Value),vs[j]? = some v->W.cell? ⟨g,j,none⟩ = some v:=
 ⟨rfl,[],by simp [qg],λj v h=>by simp at h⟩
end
def qeo:Call->List qa->List qb->Option (qb7×List qb×Bool):=λ_ aS h=>
 match aS with
 | [.int .u64 x,.int .u64 y,.int .u64 c]=>
  bif ile 0 x && (ile 0 y && (ile 0 c && ile c 1)) then some (.ret (.tup [.int .u64 ((x + y + c) % 18446744073709551616),.int .u64 ((x + y + c) / 18446744073709551616)]),h,false) else none
 | _=>none
def qxc:Call->List qa->List qb->Option (qb7×List qb×Bool):=λ_ aS h=>
 match aS with
 | [.str a,.str b]=>some (.ret (.int .i64 (Lib.compareBytes a b)),h,false)
 | _=>none
def qd7:Call->List qa->List qb->Option (qb7×List qb×Bool):=λ_ aS h=>
 match aS with
 | []=>some (.ret (.bool true),h,false)
 | _=>none
section
variable {P:Program} {gl:Nat->Option (List qa)}
theorem qf2:∀call xs h r h' e,qeo call xs h = some (r,h',e)->h' = h:=by
 intro call xs h r hh e hr
 unfold qeo at hr
 split at hr
 ·rename_i x y c
  cases hb:ile 0 x && (ile 0 y && (ile 0 c && ile c 1)) <;> rw [hb] at hr <;> cases hr
  rfl
 ·cases hr
theorem qnW {x y c:Int} {G:qc} {vs:Array Value} (h:G.VL [.int .u64 x,.int .u64 y,.int .u64 c] vs.toList):vs = #[.int .u64 x,.int .u64 y,.int .u64 c]:=by
 simp only [qc.VL,qg,qC] at h
 obtain ⟨v,r,e,rfl,v2,r2,rfl,rfl,v3,r3,rfl,rfl,rfl⟩:=h
 rw [<-Array.toArray_toList (xs:=vs),e]
theorem qkX {f : FuncId} {pf : Func} (hf : P.funcs[f]? = some pf) (hname : (pf.name == "runtime.NumGoroutine") = false) (hb : pf.body.isNone = true) (hn : Extern.findNext pf = none) (he : Extern.find pf = some add64Entry) : qgU P gl f qeo := by
 intro call hcall hk xs h r h' e' hrun G w vs hr hnt hall
 unfold qeo at hrun
 split at hrun
 ·rename_i x y c
  cases hc:ile 0 x && (ile 0 y && (ile 0 c && ile c 1)) <;> rw [hc] at hrun <;> cases hrun
  simp only [jk,qaI,decide_eq_true_eq] at hc
  obtain ⟨c1,c2,c3,c4⟩:=hc
  have hvs:=qnW hall
  subst hvs
  refine .inr ⟨λi hi=>by simp at hi,.tuple #[.int .u64 ((x + y + c) % 18446744073709551616),.int .u64 ((x + y + c) / 18446744073709551616)],w,?_,_,G,rfl,Ext.refl _ G _,hr,hnt,?_⟩
  ·rw [run_callFunc_extern hf hname hb hn he,run_add64 x y c c1 c2 c3 c4]
   rfl
  ·simp only [qc.V,qC,qg]
   exact ⟨_,rfl,_,_,rfl,rfl,_,_,rfl,rfl,rfl⟩
 ·cases hrun
theorem qcf {g:AE.Call->List qa->List qb->Option (qb7×List qb×Bool)} (hg:∀call xs h r h' e,g call xs h = some (r,h',e)->h' = h) (call:AE.Call):qN λ_ xs h=>g call xs h:=by
 intro fv xs h r h' e' hr
 obtain rfl:=hg _ _ _ _ _ _ hr
 exact ⟨jm _,λ_=>qV.refl _ _⟩
end
section
variable {P:Program} {gl:Nat->Option (List qa)}
theorem qij:∀call xs h r h' e,qxc call xs h = some (r,h',e)->h' = h:=by
 intro call xs h r hh e hr
 unfold qxc at hr
 split at hr
 ·cases hr
  rfl
 ·cases hr
theorem qvR {f : FuncId} {pf : Func} (hf : P.funcs[f]? = some pf) (hname : (pf.name == "runtime.NumGoroutine") = false) (hb : pf.body.isNone = true) (hn : Extern.findNext pf = none) (he : Extern.find pf = some Extern.BytealgCompare.compare) : qgU P gl f qxc := by
 intro call hcall hk xs h r h' e' hrun G w vs hr hnt hall
 unfold qxc at hrun
 split at hrun
 ·rename_i a b
  cases hrun
  simp only [qc.VL,qg,qC] at hall
  obtain ⟨v,r,e,⟨s,rfl,rfl⟩,v2,r2,rfl,⟨s2,rfl,rfl⟩,rfl⟩:=hall
  have hvs:vs = #[.string s,.string s2]:=by rw [<-Array.toArray_toList (xs:=vs),e]
  subst hvs
  refine .inr ⟨λi hi=>by simp at hi,.int .i64 (Lib.compareBytes s.data.toList s2.data.toList),w,?_,_,G,rfl,Ext.refl _ G _,hr,hnt,?_⟩
  ·rw [run_callFunc_extern hf hname hb hn he,Lib.run_compareString]
   rfl
  ·simp only [qc.V,qC]
 ·cases hrun
end
noncomputable def qDp (t:List qa):Nat->qa:=List.rec (motive:=λ_=>Nat->qa) (λ_=>.undef) (λa _ ih n=>Nat.rec (motive:=λ_=>qa) a (λm _=>ih m) n) t
noncomputable def qg4 (v:qa) (t:List qa):Nat->List qa:=List.rec (motive:=λ_=>Nat->List qa) (λ_=>[]) (λa aS ih n=>Nat.rec (motive:=λ_=>List qa) (v :: aS) (λm _=>a :: ih m) n) t
theorem qjU:∀(t:List qa) (i:Nat),qDp t i = t.getD i .undef
 | [],_=>rfl
 | _ :: _,0=>rfl
 | _ :: t,i + 1=>qjU t i
theorem qr5 (v:qa):∀(t:List qa) (i:Nat),qg4 v t i = t.set i v
 | [],_=>rfl
 | _ :: _,0=>rfl
 | a :: t,i + 1=>congrArg (a :: ·) (qr5 v t i)
noncomputable def qv1 (k:IntKind) (n:Int):qa:=
 Int.rec (motive:=λ_=>qa) (λm=>Nat.rec (motive:=λ_=>qa) (.int k (.ofNat 0)) (λp _=>.int k (.ofNat (p + 1))) m) (λm=>.int k (.negSucc m)) n
noncomputable def qv0 (b:Bool):qa:=Bool.rec (motive:=λ_=>qa) (.bool false) (.bool true) b
noncomputable def qCP (v:qa):qa:=
 qa.casesOn (motive_1:=λ_=>qa) v .undef .bool .int .str .nilptr .ptr .iptr (λxs f=>qfH.casesOn (motive:=λ_=>qa) f (.lst xs .no) (.lst xs .full) (λ_=>.lst xs .no)) .nilfunc .fn .yld .niliface .iface .agg .tup .sl .mp .nilmap .nils .empt
noncomputable def qv2 (v:qa):qa:=
 qa.casesOn (motive_1:=λ_=>qa) v .undef qv0 qv1 .str .nilptr .ptr .iptr .lst .nilfunc .fn .yld .niliface .iface .agg .tup .sl .mp .nilmap .nils .empt
theorem qpA (b:Bool):qv0 b = .bool b:=by cases b <;> rfl
theorem qpB (k:IntKind) (n:Int):qv1 k n = .int k n:=by
 cases n with
 | ofNat m=>cases m <;> rfl
 | negSucc m=>rfl
theorem qoV:qCP = qa.dim:=by
 funext v
 cases v <;> try rfl
 rename_i xs f
 cases f <;> rfl
theorem qpC (v:qa):qv2 v = v:=by cases v <;> first | rfl | exact qpA _ | exact qpB _ _
noncomputable def qEM (d:Nat) (v:qa) (t:List qa):List qa:=
 qa.casesOn (motive_1:=λ_=>List qa) (qv2 v) (qg4 .undef t d) (λb=>qg4 (.bool b) t d) (λk n=>qg4 (.int k n) t d) (λx=>qg4 (.str x) t d) (qg4 .nilptr t d) (λa b=>qg4 (.ptr a b) t d) (λa b=>qg4 (.iptr a b) t d) (λa b=>qg4 (.lst a b) t d)
  (qg4 .nilfunc t d) (λa b c=>qg4 (.fn a b c) t d) (λa=>qg4 (.yld a) t d) (qg4 .niliface t d) (λa b=>qg4 (.iface a b) t d) (λa=>qg4 (.agg a) t d) (λa=>qg4 (.tup a) t d) (λa b c e f=>qg4 (.sl a b c e f) t d) (λa=>qg4 (.mp a) t d) (qg4 .nilmap t d) (qg4 .nils t d) (qg4 .empt t d)
theorem qzp (d:Nat) (v:qa) (t:List qa):qEM d v t = t.set d v:=by
 unfold qEM
 rw [qpC]
 cases v <;> exact qr5 _ _ _
noncomputable def qsO (t:List qa):qo->qa
 | .t i=>qDp t i
 | .c v=>v
noncomputable def evF (t:List qa) (x:qo):qa:=qCP (qsO t x)
noncomputable def qkw (dst:Option Nat) (v:qa) (t:List qa):List qa:=
 match dst with
 | some d=>qEM d v t
 | none=>t
noncomputable def qfL (t:List qa) (x:qo):List qa:=
 match x with
 | .t i=>match qDp t i with
  | .lst xs (.own _)=>t.set i (.lst xs .no)
  | _=>t
 | .c _=>t
theorem qff:qsO = raw:=by
 funext t x
 cases x
 ·exact qjU _ _
 ·rfl
theorem qgd:evF = ev:=by
 funext t x
 simp only [evF,ev,qff,qoV]
theorem qkx:qkw = put:=by
 funext d v t
 cases d
 ·rfl
 ·exact qzp _ _ _
theorem qjI:qfL = qaz:=by
 funext t x
 cases x
 ·simp only [qfL,qaz,qjU]
  rfl
 ·rfl
noncomputable def qfk (t:List qa) (x:Option qo) (d:Nat):Option Nat:=
 match x with
 | none=>some d
 | some x=>match evF t x with
  | .int _ n=>if 0 <= n then some n.toNat else none
  | _=>none
noncomputable def qrN (t:List qa) (o:AOp):Option qa:=
 match o with
 | .mov x=>some (evF t x)
 | .pick c a b=>match evF t c with
  | .bool true=>some (evF t a)
  | .bool false=>some (evF t b)
  | _=>none
 | .build zero parts=>(qbd zero (parts.map λ(o,s,x)=>(o,s,evF t x))).map .agg
 | .list k zero len parts=>
  if zero.length = k/\len * k <= 2 ^ 24 then
   match qbd ((List.replicate len zero).flatten) (parts.map λ(i,x)=>(i * k,k,evF t x)) with
   | some cs=>if cs.all qa.storable then some (.lst ((List.range len).map λi=>if k = 1 then (cs.getD i .undef) else .agg ((cs.drop (i * k)).take k)) .full) else none
   | none=>none
  else none
 | .nilc x=>match evF t x with
  | .ptr i o=>some (.ptr i o)
  | .iptr cs o=>some (.iptr cs o)
  | .fn f a b=>some (.fn f a b)
  | .yld l=>some (.yld l)
  | .iface u v=>some (.iface u v)
  | _=>none
 | .bin op x y=>qbG op (evF t x) (evF t y)
 | .eqb neg x y=>match evF t x,evF t y with
  | .bool a,.bool b=>some (.bool ((a == b) != neg))
  | _,_=>none
 | .eqi k neg x y=>(qz0 k (evF t x) (evF t y)).map λb=>.bool (b != neg)
 | .eqa neg x y=>match evF t x,evF t y with
  | .agg a,.agg b=>(qjA a b).map λr=>.bool (r != neg)
  | _,_=>none
 | .eqs sh neg x y=>(qC1 sh (evF t x) (evF t y)).map λr=>.bool (r != neg)
 | .un op x=>unV op (evF t x)
 | .nls neg x=>match evF t x with
  | .sl ..=>some (.bool (false != neg))
  | .lst (_ :: _) _=>some (.bool (false != neg))
  | .nils=>some (.bool (true != neg))
  | .empt=>some (.bool (false != neg))
  | _=>none
 | .cvi k x=>match evF t x with
  | .int _ n=>some (.int k (k.wrap n))
  | _=>none
 | .cvs x=>match evF t x with
  | .str s=>some (.str s)
  | _=>none
 | .cvb x=>match evF t x with
  | .str s=>some (.lst (qhK s) .no)
  | _=>none
 | .mkI ty x=>match evF t x with
  | .undef=>none
  | v=>some (.iface ty v)
 | .mkF f a b=>some (.fn f (a.map (evF t)) (b.map (evF t)))
 | .subS x lo hi=>match evF t x with
  | .str s=>match qfk t hi s.length with
   | some h=>match qfk t lo 0 with
    | some l=>if l <= h/\h <= s.length then some (.str ((s.drop l).take (h - l))) else none
    | none=>none
   | none=>none
  | _=>none
 | .subL k x lo hi=>match evF t x with
  | .lst xs f=>match qfk t hi xs.length with
   | some h=>match qfk t lo 0 with
    | some l=>
     if l <= h/\h <= xs.length then
      if xs.head?.all (λy=>y.cells.length == k) then some (.lst ((xs.drop l).take (h - l)) (if h = xs.length then f else .no)) else none
     else none
    | none=>none
   | none=>none
  | .sl id o len cap more=>match qfk t hi len with
   | some h=>match qfk t lo 0 with
    | some l=>
     if l <= h/\h <= cap then
      if cap = l then (if more = 0 then some (.lst [] .full) else none) else (if more = 0\/more = k then some (.sl id (o + l * k) (h - l) (cap - l) more) else none)
     else none
    | none=>none
   | none=>none
  | _=>none
 | .fa off a=>match evF t a with
  | .ptr i o=>some (.ptr i (o + off))
  | .iptr cs o=>some (.iptr cs (o + off))
  | _=>none
 | .ixaL k s i=>match evF t s,evF t i with
  | .lst xs _,.int _ n=>
   if 0 <= n/\n < xs.length then
    match xs[n.toNat]? with
    | some x=>if x.cells.length = k then some (.iptr x.cells 0) else none
    | none=>none
   else none
  | .sl id o len _ _,.int _ n=>if 0 <= n/\n < len then some (.ptr id (o + n.toNat * k)) else none
  | _,_=>none
 | .ixaA len k a i=>match evF t a,evF t i with
  | .ptr b o,.int _ n=>if 0 <= n/\n < (len:Int) then some (.ptr b (o + n.toNat * k)) else none
  | .iptr cs o,.int _ n=>if 0 <= n/\n < (len:Int) then some (.iptr cs (o + n.toNat * k)) else none
  | _,_=>none
 | .ixS s i=>match evF t s,evF t i with
  | .str l,.int _ n=>if 0 <= n then (l[n.toNat]?).map λb=>.int .u8 b.toNat else none
  | _,_=>none
 | .ixA len k a i=>match evF t a,evF t i with
  | .agg cs,.int _ n=>if 0 <= n/\n < (len:Int) then cut cs (n.toNat * k.getD 1) k else none
  | _,_=>none
 | .fld off k x=>match evF t x with
  | .agg cs=>cut cs off k
  | _=>none
 | .ext x i=>match evF t x with
  | .tup vs=>(vs[i]?).map qa.dim
  | _=>none
 | .len true x=>match evF t x with
  | .str s=>some (.int .i64 s.length)
  | _=>none
 | .len false x=>match evF t x with
  | .lst xs _=>some (.int .i64 xs.length)
  | .sl _ _ len _ _=>some (.int .i64 len)
  | .nils=>some (.int .i64 0)
  | .empt=>some (.int .i64 0)
  | _=>none
 | .mm isMax x y=>match evF t x,evF t y with
  | .int k a,.int _ b=>some (.int k (if isMax then (if b > a then b else a) else (if b < a then b else a)))
  | _,_=>none
 | .tas ty zero x=>match evF t x with
  | .niliface=>some (.tup [zero,.bool false])
  | .iface u v=>if u = ty then some (.tup [v,.bool true]) else some (.tup [zero,.bool false])
  | _=>none
 | _=>none
noncomputable def qss (k:Nat) (p:qcn) (x:qo) (s:St):Option (List qa×St):=
 match x with
 | .c _=>none
 | .t i=>
  match qsO s.t (.t i) with
  | .lst xs (.own j)=>if j = k then some (xs,{ s with t:=s.t.set i (.lst xs .no)}) else none
  | _=>
   match p.find? (·.1 == i) with
   | some (_,.tmp b)=>
    match qsO s.t (.t b) with
    | .lst xs (.own j)=>if j = k then some (xs,{ s with t:=s.t.set b (.lst xs .no)}) else none
    | _=>none
   | some (_,.cell a)=>
    match evF s.t a with
    | .ptr id o=>
     match s.h[id]? with
     | some (.cells cs)=>
      match cs[o]? with
      | some (.lst xs (.own j))=>if j = k then some (xs,{ s with h:=s.h.set id (.cells (cs.set o (.lst xs .no)))}) else none
      | _=>none
     | _=>none
    | _=>none
   | none=>none
noncomputable def qlw (base:Nat) (call:Call) (p:qcn) (dst:Option Nat) (o:AOp) (s:St):Option (Ex×St):=
 match o with
 | .asg x=>some (.nor,{ s with t:=qkw dst (qsO s.t x) (qfL s.t x)})
 | .new cs=>some (.nor,{ s with t:=qkw dst (.ptr s.h.length 0) s.t,h:=s.h ++ [.cells (cs.map qa.dim)]})
 | .box k x=>
  let vs:=(evF s.t x).cells.map qa.dim
  if vs.length = k/\vs.all qa.storable then some (.nor,{ s with t:=qkw dst (.ptr s.h.length 0) s.t,h:=s.h ++ [.cells vs]}) else none
 | .ld k a=>(qch s.h (evF s.t a) k).map λv=>(.nor,{ s with t:=qkw dst v s.t})
 | .st k a x=>
  match evF s.t a with
  | .ptr id o=>
   match s.h[id]? with
   | some (.cells cs)=>
    let v:=qsO s.t x
    let vs:=match k with | none=>[v] | some _=>v.dim.cells.map qa.dim
    if vs.length = k.getD 1/\o + vs.length <= cs.length/\vs.all qa.storable then
     some (.nor,{ t:=qkw dst .undef (qfL s.t x),h:=s.h.set id (.cells (splice cs o vs)),e:=s.e || !(Nat.ble base id || qt (id + 1) vs)})
    else none
   | _=>none
  | _=>none
 | .call f args=>
  match call (evF s.t f) (args.map (evF s.t)) s.h with
  | some (.ret v,h,e)=>some (.nor,{ t:=qkw dst v.dim s.t,h,e:=s.e || e})
  | some (.pan v,h,e)=>some (.pan v,{ s with h,e:=s.e || e})
  | none=>none
 | .app k x y=>
  match qsO s.t x,tail (evF s.t y) with
  | .lst xs f,some ys=>
   if ys.isEmpty then some (.nor,{ s with t:=qkw dst (qa.lst xs f).dim s.t})
   else if xs.length + ys.length <= qdv/\ys.all (λy=>y.cells.length == k && y.cells.all qa.storable)/\xs.head?.all (λy=>y.cells.length == k) then
    match f with
    | .full=>some (.nor,{ s with t:=qkw dst (.lst (xs ++ ys) (.own k)) s.t})
    | _=>
     match qss k p x s with
     | some (xs,s)=>if xs.head?.all (λy=>y.cells.length == k) then some (.nor,{ s with t:=qkw dst (.lst (xs ++ ys) (.own k)) s.t}) else none
     | none=>none
   else none
  | _,_=>none
 | .pan x=>match evF s.t x with
  | .iface u v=>some (.pan (.iface u v),s)
  | _=>none
 | .lk sh z ok m key=>(qlk s.h sh z ok (evF s.t m) (evF s.t key)).map λv=>(.nor,{ s with t:=qkw dst v s.t})
 | .hx o aS=>(hop base o (aS.map (evF s.t)) s.h).map λr=>(.nor,{ t:=qkw dst r.1.dim s.t,h:=r.2.1,e:=s.e || r.2.2})
 | o=>(qrN s.t o).map λv=>(.nor,{ s with t:=qkw dst v s.t})
noncomputable def qh2 (t:List qa) (g:Option (Nat×Bool)):Option Bool:=
 match g with
 | none=>some true
 | some (j,b)=>match qsO t (.t j) with
  | .bool c=>some (c == b)
  | .tup []=>some false
  | _=>none
noncomputable def qgH (base:Nat) (call:Call):qcn->List qX->St->Option (Ex×St)
 | _,[],s=>some (.nor,s)
 | p,o :: os,s=>
  match qh2 s.t o.guard with
  | some true=>
   match qlw base call p o.dst o.op s with
   | some (.nor,s)=>qgH base call (qaB p o) os s
   | r=>r
  | some false=>qgH base call (qaB p { o with op:=.pick (.c .undef) (.c .undef) (.c .undef)}) os { s with t:=qkw o.dst (.tup []) s.t}
  | none=>none
noncomputable def qow (s:St) (o:AOp):Option Chk:=
 match o with
 | .ld k a=>(qch s.h (evF s.t a) k).map (.ld (evF s.t a) k)
 | .lk sh z ok m key=>(qlk s.h sh z ok (evF s.t m) (evF s.t key)).map (.lk sh z ok (evF s.t m) (evF s.t key))
 | .new cs=>some (.box s.h.length (cs.map qa.dim))
 | .box _ x=>some (.box s.h.length ((evF s.t x).cells.map qa.dim))
 | _=>none
noncomputable def qbR (base:Nat) (call:Call) (dsts:List Nat):List qH->List (Nat×Chk)->St->Option (Ex×St)
 | [],_,s=>some (.nor,s)
 | d :: ds,pend,s=>
  match qh2 s.t d.o.guard with
  | some true=>
   match qlw base call [] d.o.dst d.o.op s with
   | some (.nor,s')=>
    if d.o.op.effs then
     let I:=pend.filter λc=>!d.cl.testBit c.1
     if I.all (λc=>c.2.ok s'.h) then qbR base call dsts ds I s' else none
    else
     match qow s d.o.op with
     | some c=>qbR base call dsts ds ((d.ix,c) :: pend) s'
     | none=>qbR base call dsts ds pend s'
   | some (.pan v,s')=>if d.o.op.effs then some (.pan v,{ s' with t:=qca dsts s'.t}) else none
   | _=>none
  | some false=>qbR base call dsts ds pend { s with t:=qkw d.o.dst (.tup []) s.t}
  | none=>none
noncomputable def qcG (n base:Nat) (call:Call):qE->St->Option (Ex×St)
 | .skip,s=>some (.nor,s)
 | .reg ops,s=>qgH base call [] ops s
 | .draw ops,s=>qbR base call (ops.filterMap (·.o.dst)) ops [] s
 | .draw2 c a b r,s=>qvN a b (qbR base call ((c ++ a :: b :: r).filterMap (·.o.dst)) (c ++ [a,b]) [] s) (qbR base call ((c ++ a :: b :: r).filterMap (·.o.dst)) (c ++ a :: b :: r) [] s) (qbR base call ((c ++ a :: b :: r).filterMap (·.o.dst)) (c ++ b :: a :: r) [] s)
 | .seq a b,s=>match qcG n base call a s with
  | some (.nor,s)=>qcG n base call b s
  | r=>r
 | .cond c a b,s=>match evF s.t c with
  | .bool true=>qcG n base call a s
  | .bool false=>qcG n base call b s
  | _=>none
 | .block id b,s=>match qcG n base call b s with
  | some (.exit j,s)=>if j = id then some (.nor,s) else some (.exit j,s)
  | r=>r
 | .loop b,s=>iter (qcG n base call b) n s
 | .exit id,s=>some (.exit id,s)
 | .ret,s=>some (.ret,s)
 | .rfun f ps asg body,s=>
  match evF s.t f with
  | .fn g first cap=>
   match call (.fn g first cap) [.yld s.h.length] (s.h ++ [.loop (s.t.map qa.dim) ps asg body .ready none]) with
   | some (.ret _,h,e)=>
    match h[s.h.length]? with
    | some (.loop t a6 U O st pend)=>
     if st = .busy then none else
     let s':St:={ s with h:=h.set s.h.length (.loop t a6 U O .exhausted pend),e:=s.e || e}
     match pend with
     | none=>some (.nor,s')
     | some .ret=>some (.ret,s')
     | some (.exit id)=>some (.exit id,s')
    | _=>none
   | some (.pan v,h,e)=>some (.pan v,{ s with h,e:=s.e || e})
   | none=>none
  | _=>none
noncomputable def qdN (s:St):List qkS->Option (List qa)
 | []=>some []
 | .tmp i :: rs=>match qdN s rs with
  | some vs=>some (qCP (qsO s.t (.t i)) :: vs)
  | none=>none
 | .cell a k :: rs=>
  match qch s.h (qsO s.t (.t a)) k,qdN s rs with
  | some v,some vs=>some (v :: vs)
  | _,_=>none
noncomputable def qrY (n:Nat) (call:Call) (l:Nat) (args:List qa) (h:List qb):Option (qb7×List qb×Bool):=
 match h[l]? with
 | some (.loop t ps asg body _ _)=>
  if args.length ≠ ps.length then none else
  let base:=h.length
  match qcG n base call asg ⟨qn5 t ps (args.map qa.dim),h,false⟩ with
  | some (.nor,s)=>
   match s.h[l]? with
   | some (.loop t1 a1 S M .ready pend)=>
    match qcG n base call body { s with h:=s.h.set l (.loop t1 a1 S M .busy pend)} with
    | some (x,s)=>
     match s.h[l]? with
     | some (.loop t2 J E B _ _)=>
      match x with
      | .nor=>some (qaE base (.ret (.bool true)) (s.h.set l (.loop t2 J E B .ready none)) s.e)
      | .ret=>some (qaE base (.ret (.bool false)) (s.h.set l (.loop t2 J E B .done (some .ret))) s.e)
      | .exit id=>some (qaE base (.ret (.bool false)) (s.h.set l (.loop t2 J E B .done (some (.exit id)))) s.e)
      | .pan _=>none
     | _=>none
    | none=>none
   | _=>none
  | _=>none
 | _=>none
noncomputable def qr2 (F:FuncId->Option qv) (X:qeW):Nat->Call
 | 0=>λ_ _ _=>none
 | n + 1=>λfv args h=>
  match fv with
  | .fn f first cap=>
   match X f with
   | some g=>g (qr2 F X n) (first ++ args ++ cap) h
   | none=>
    match F f with
    | none=>none
    | some fn=>
     let aS:=(first ++ args ++ cap).map qa.dim
     match qcG n h.length (qr2 F X n) fn.code ⟨aS ++ List.replicate (fn.ntmps - aS.length) (.tup []),h,false⟩ with
     | some (.nor,s) | some (.ret,s)=>
      match qdN s fn.results with
      | some vs=>some (qaE h.length (.ret (qbE vs)) s.h s.e)
      | none=>none
     | some (.pan v,s)=>some (qaE h.length (.pan v) s.h s.e)
     | _=>none
  | .yld l=>qrY n (qr2 F X n) l args h
  | _=>none
theorem qol:qfk = bound:=by
 funext t x d
 cases x <;> simp only [qfk,bound,qgd] <;> rfl
theorem qrO:qrN = pureV:=by
 funext t o
 cases o <;> simp only [qrN,pureV,qgd,qol] <;> first | rfl | (cases ‹Bool› <;> rfl)
theorem qlv (t:List qa) (i:Nat):raw t (.t i) = t.getD i .undef:=rfl
theorem qst:qss = qdz:=by
 funext k p x s
 cases x <;> simp only [qss,qdz,qff,qlv,qgd] <;> rfl
theorem qja:qlw = qu:=by
 funext base call p dst o s
 cases o <;> simp only [qlw,qu,qff,qgd,qkx,qjI,qst,qrO] <;> rfl
theorem qhq:qh2 = wanted:=by
 funext t g
 cases g <;> simp only [qh2,wanted,qff,qlv] <;> rfl
theorem qhn (base:Nat) (call:Call):∀(os:List qX) (p:qcn) (s:St),qgH base call p os s = qaF base call p os s
 | [],_,_=>rfl
 | o :: os,p,s=>by
  simp only [qgH,qaF,qhq,qja,qkx,qhn base call os]
  rfl
theorem qox:qow = qes:=by
 funext s o
 cases o <;> simp only [qow,qes,qgd] <;> rfl
theorem qeh (base:Nat) (call:Call) (dsts:List Nat):∀(ds:List qH) (pend:List (Nat×Chk)) (s:St),qbR base call dsts ds pend s = qw base call dsts ds pend s
 | [],_,_=>rfl
 | d :: ds,pend,s=>by
  simp only [qbR,qw,qhq,qja,qkx,qox,qeh base call dsts ds]
  rfl
theorem qct (n base:Nat) (call:Call):∀(c:qE),qcG n base call c = qaW n base call c
 | .skip=>by funext s;simp only [qcG,qaW] <;> rfl
 | .reg ops=>by funext s;simp only [qcG,qaW,qhn] <;> rfl
 | .draw ops=>by funext s;simp only [qcG,qaW,qeh] <;> rfl
 | .draw2 c a b r=>by funext s;simp only [qcG,qaW,qeh] <;> rfl
 | .seq a b=>by funext s;simp only [qcG,qaW,qct n base call a,qct n base call b] <;> rfl
 | .cond c a b=>by funext s;simp only [qcG,qaW,qgd,qct n base call a,qct n base call b] <;> rfl
 | .block id b=>by funext s;simp only [qcG,qaW,qct n base call b] <;> rfl
 | .loop b=>by funext s;simp only [qcG,qaW,qct n base call b] <;> rfl
 | .rfun f ps asg body=>by funext s;simp only [qcG,qaW,qgd] <;> rfl
 | .exit id=>by funext s;simp only [qcG,qaW] <;> rfl
 | .ret=>by funext s;simp only [qcG,qaW] <;> rfl
theorem qeg (s:St):∀rs:List qkS,qdN s rs = qao s rs
 | []=>rfl
 | .tmp i :: rs=>by simp only [qdN,qao,qeg s rs,qff,qlv,qoV] <;> rfl
 | .cell a k :: rs=>by simp only [qdN,qao,qeg s rs,qff,qlv] <;> rfl
theorem qrZ (n:Nat) (call:Call):qrY n call = round n call:=by
 funext l args h
 simp only [qrY,round,qct] <;> rfl
theorem qkD (F:FuncId->Option qv) (X:qeW):∀n:Nat,qr2 F X n = run F X n
 | 0=>rfl
 | n + 1=>by
  funext fv args h
  simp only [qr2,run,qkD F X n,qct,qeg,qrZ] <;> rfl
def memo (k:Nat) (as0:List qa) (h0:List qb) (r0:qb7) (h1:List qb) (e1:Bool) (_:Call) (aS:List qa) (h:List qb):Option (qb7×List qb×Bool):=
 if Nat.ble k h.length && (qia aS as0 && qzR (h.drop k) h0) then some (r0,h.take k ++ h1,e1) else none
theorem qq6 {k:Nat} {as0 aS:List qa} {h0 h h1:List qb} {r0:qb7} {e1:Bool} {r:qb7×List qb×Bool} {call:Call} (hm:memo k as0 h0 r0 h1 e1 call aS h = some r):aS = as0/\(∃H,H.length = k/\h = H ++ h0/\r = (r0,H ++ h1,e1)):=by
 unfold memo at hm
 split at hm
 ·rename_i hh
  simp only [jk,Nat.ble_eq] at hh
  cases hm
  refine ⟨qcD _ _ hh.2.1,h.take k,by simp;omega,?_,rfl⟩
  rw [<-qoh hh.2.2,List.take_append_drop]
 ·cases hm
def qkR (X:qeW) (f:FuncId) (g:Call->List qa->List qb->Option (qb7×List qb×Bool)):qeW:=λi=>if i == f then some g else X i
theorem qfX {X:qeW} {f i:FuncId} {g g':Call->List qa->List qb->Option (qb7×List qb×Bool)} (h:qkR X f g i = some g'):(i = f/\g' = g)\/X i = some g':=by
 unfold qkR at h
 cases e:i == f with
 | true=>rw [e] at h;exact .inl ⟨by simpa using e,(Option.some.inj h).symm⟩
 | false=>rw [e] at h;exact .inr h
abbrev qvH (X:qeW) (f:FuncId) (k:Nat) (as0:List qa) (h0:List qb) (r0:qb7) (h1:List qb) (e1:Bool):qeW:=qkR X f (memo k as0 h0 r0 h1 e1)
section
variable {P:Program} {gl:Nat->Option (List qa)} {F:FuncId->Option qv} {X:qeW} {f:FuncId} {fn:qv} {n k:Nat} {as0:List qa} {h0 h1:List qb} {r0:qb7} {e1:Bool}
theorem qvZ {g:Call->List qa->List qb->Option (qb7×List qb×Bool)} (hP:qdW P gl F) (hF:F f = some fn) (E:qbT P gl (run F X n)) (hg:∀call aS h r,g call aS h = some r->run F X n (.fn f [] []) aS h = some r):qgU P gl f g:=by
 intro call _ _ aS h r h' e' M G w vs hr hn ha
 have J:=hg _ _ _ _ M
 obtain ⟨pf,c,p1,p2,p3,_⟩:=hP f fn hF
 have B:=qaS (P:=P) p1 p2 p3 vs w
 have O:G.V (.fn f [] []) (.func (.func f) #[] #[]):=by simp [qc.V,qC,qg]
 have I:(qeq (.func (.func f) #[] #[]) vs).run P w = (callFunc f vs).run P w:=by rw [qfI];simp
 rcases E _ _ _ _ _ _ J G w _ vs hr hn O ha with ⟨f',S,k1,k2⟩ | ⟨_,_,_,_,_,_,hy,_⟩ | ⟨v,w',_,k1,_⟩
 ·rw [I,B] at k1
  cases k1
  exact .inl ⟨B,k2⟩
 ·cases hy
 ·rw [I,B] at k1
  cases k1
structure qfF (P:Program) (gl:Nat->Option (List qa)) (F:FuncId->Option qv) (X:qeW):Prop where
 ok:∀f g,X f = some g->qgU P gl f g
 keeps:∀f g,X f = some g->∀call,qN call->qN λ_ xs h=>g call xs h
theorem qfF.call (B:P.follows .mixedOrders = true) (hP:qdW P gl F) (hX:qfF P gl F X) (n:Nat):qbT P gl (run F X n):=qjc B hP hX.ok hX.keeps n
theorem qfF.put {Y:qeW} {g:Call->List qa->List qb->Option (qb7×List qb×Bool)} (B:P.follows .mixedOrders = true) (hP:qdW P gl F) (hX:qfF P gl F X) (hY:qfF P gl F Y) (hF:F f = some fn) (hg:∀call aS h r,g call aS h = some r->qr2 F X n (.fn f [] []) aS h = some r):qfF P gl F (qkR Y f g):=by
 rw [qkD] at hg
 constructor
 ·intro i g' hi
  rcases qfX hi with ⟨rfl,rfl⟩ | hi
  ·exact qvZ hP hF (hX.call B hP n) hg
  ·exact hY.ok i g' hi
 ·intro i g' hi call hk
  rcases qfX hi with ⟨rfl,rfl⟩ | hi
  ·intro fv aS h r h' e' hr
   exact qeP hX.keeps n _ _ _ _ _ _ (hg _ _ _ _ hr)
  ·exact hY.keeps i g' hi call hk
theorem qfF.memo (E:P.follows .mixedOrders = true) (hP:qdW P gl F) {Y:qeW} (hX:qfF P gl F X) (hY:qfF P gl F Y) (hF:F f = some fn) (B:∀H:List qb,H.length = k->qr2 F X n (.fn f [] []) as0 (H ++ h0) = some (r0,H ++ h1,e1)) :
  qfF P gl F (qvH Y f k as0 h0 r0 h1 e1):=
 hX.put (n:=n) E hP hY hF λcall aS h r hr=>by
  obtain ⟨e1,H,hH,e2,e3⟩:=qq6 hr
  rw [e1,e2,e3]
  exact B H hH
def qlA (g:List qa->List qb->Option (qb7×List qb×Bool)) (_:Call) (aS:List qa) (h:List qb):Option (qb7×List qb×Bool):=
 match aS with
 | [.lst [] .full]=>some (.ret (.lst [] .full),h,false)
 | aS=>g aS h
theorem qfF.split {Y:qeW} (I:P.follows .mixedOrders = true) (hP:qdW P gl F) (hX:qfF P gl F X) (hY:qfF P gl F Y) (hF:F f = some fn)
  (h1:∀H,run F X n (.fn f [] []) [.nils] H = some (.ret (.lst [] .full),H,false)) (h2:∀H,run F X n (.fn f [] []) [.empt] H = some (.ret (.lst [] .full),H,false)):qfF P gl F (qkR Y f (qlA (run F X n (.fn f [] [])))):=by
 have base:=qvZ (g:=λ_ aS h=>run F X n (.fn f [] []) aS h) hP hF (hX.call I hP n) (λ_ _ _ _ h=>h)
 constructor
 ·intro i g' hi
  rcases qfX hi with ⟨rfl,rfl⟩ | hi
  ·intro call hc hk aS h r h' e' B G w vs hr hn ha
   unfold qlA at B
   split at B
   ·cases B
    have E:=ha
    simp only [qc.VL,qg,qC] at E
    obtain ⟨v,rest,e,⟨a,len,cap,rfl,g1,g2,g3,g4,_⟩,rfl⟩:=E
    simp only [jB] at g1
    subst g1
    have g3:=g3 trivial
    subst g3
    cases a with
    | none=>exact (base call hc hk _ _ _ _ _ (h1 h) G w vs hr hn (by rw [e];simp [qc.VL,qg,qC])).imp (λx=>x) λx=>⟨by simp,x.2⟩
    | some b=>exact (base call hc hk _ _ _ _ _ (h2 h) G w vs hr hn (by rw [e];simp [qc.VL,qg,qC])).imp (λx=>x) λx=>⟨by simp,x.2⟩
   ·exact base call hc hk _ _ _ _ _ B G w vs hr hn ha
  ·exact hY.ok i g' hi
 ·intro i g' hi call hk
  rcases qfX hi with ⟨rfl,rfl⟩ | hi
  ·intro fv aS h r h' e' B
   have hr:qlA (run F X n (.fn i [] [])) call aS h = some (r,h',e'):=B
   unfold qlA at hr
   split at hr
   ·cases hr;exact ⟨jm _,λ_=>qV.refl _ _⟩
   ·exact qeP hX.keeps n _ _ _ _ _ _ hr
  ·exact hY.keeps i g' hi call hk
def memoR (k:Nat) (as0:List qa) (h0:List qb) (r0:qb7) (h1:List qb) (e1:Bool) (g:List qa->List qb->Option (qb7×List qb×Bool)) (c:Call) (aS:List qa) (h:List qb):Option (qb7×List qb×Bool):=
 match memo k as0 h0 r0 h1 e1 c aS h with
 | some r=>some r
 | none=>g aS h
theorem qfF.memoR {Y:qeW} (E:P.follows .mixedOrders = true) (hP:qdW P gl F) (hX:qfF P gl F X) (hY:qfF P gl F Y) (hF:F f = some fn) (B:∀H:List qb,H.length = k->qr2 F X n (.fn f [] []) as0 (H ++ h0) = some (r0,H ++ h1,e1)) :
  qfF P gl F (qkR Y f (AE.memoR k as0 h0 r0 h1 e1 (qr2 F X n (.fn f [] [])))):=
 hX.put (n:=n) E hP hY hF λcall aS h r hr=>by
  unfold AE.memoR at hr
  split at hr
  ·rename_i r' hm
   cases hr
   obtain ⟨q1,H,hH,q2,q3⟩:=qq6 hm
   rw [q1,q2,q3]
   exact B H hH
  ·exact hr
def memoT (d:Nat) (s0:List UInt8) (tab:List (Nat×Nat×qb7)) (_:Call) (aS:List qa) (h:List qb):Option (qb7×List qb×Bool):=
 match aS with
 | [.str s,.int .i64 (.ofNat n)]=>match tab.find? λe=>Nat.beq e.1 n with
  | some e=>if Nat.beq h.length (e.2.1 + d) && s == s0 then some (e.2.2,h,false) else none
  | none=>none
 | _=>none
theorem quO {d:Nat} {s0:List UInt8} {tab:List (Nat×Nat×qb7)} {call:Call} {aS:List qa} {h:List qb} {r:qb7×List qb×Bool} (hm:memoT d s0 tab call aS h = some r) :
  ∃e ∈ tab,aS = [.str s0,.int .i64 (.ofNat e.1)]/\h.length = e.2.1 + d/\r = (e.2.2,h,false):=by
 unfold memoT at hm
 split at hm
 ·split at hm
  ·rename_i e he
   split at hm
   ·rename_i hh
    simp only [jk,Nat.beq_eq,beq_iff_eq] at hh
    have h1:=List.find?_some he
    simp only [Nat.beq_eq] at h1
    refine ⟨e,List.mem_of_find?_eq_some he,?_,hh.1,(Option.some.inj hm).symm⟩
    rw [h1,hh.2]
   ·cases hm
  ·cases hm
 ·cases hm
theorem qfF.memoT (E:P.follows .mixedOrders = true) (hP:qdW P gl F) {Y:qeW} {d:Nat} {s0:List UInt8} {tab:List (Nat×Nat×qb7)} (hX:qfF P gl F X) (hY:qfF P gl F Y) (hF:F f = some fn)
  (B:∀e ∈ tab,∀H:List qb,H.length = e.2.1 + d->qr2 F X n (.fn f [] []) [.str s0,.int .i64 (.ofNat e.1)] H = some (e.2.2,H,false)):qfF P gl F (qkR Y f (AE.memoT d s0 tab)):=
 hX.put (n:=n) E hP hY hF λcall aS h r hr=>by
  obtain ⟨e,he,e1,hk,e2⟩:=quO hr
  rw [e1,e2]
  exact B e he h hk
def bx (f:Nat->qb) (k:Nat):List qb:=(List.range k).map f
theorem qBj {p:List qb->Prop} (h:p []):∀H:List qb,H.length = 0->p H:=λH hH=>by
 rw [List.eq_nil_of_length_eq_zero hH];exact h
end
def Le {α:Type} (a b:Option α):Prop:=∀x,a = some x->b = some x
theorem Le.refl {α:Type} (a:Option α):Le a a:=λ_ h=>h
def CLe (c d:Call):Prop:=∀fv aS h,Le (c fv aS h) (d fv aS h)
theorem CLe.refl (c:Call):CLe c c:=λ_ _ _ _ h=>h
def qCv {α:Type} (g:Nat->Option α):Prop:=∀n m,n <= m->Le (g n) (g m)
def qdU (c:Nat->Call):Prop:=∀n m,n <= m->CLe (c n) (c m)
open Classical in
noncomputable def lim {α:Type} (g:Nat->Option α):Option α:=if h:∃n x,g n = some x then g h.choose else none
theorem qkj {α:Type} {g:Nat->Option α} (hg:qCv g) (x:α):lim g = some x↔∃n,g n = some x:=by
 unfold lim
 constructor
 ·intro h
  split at h
  ·exact ⟨_,h⟩
  ·cases h
 ·rintro ⟨n,hn⟩
  have h:∃n x,g n = some x:=⟨n,x,hn⟩
  rw [dif_pos h]
  obtain ⟨y,hy⟩:=h.choose_spec
  have h1:=hg _ (max n h.choose) (Nat.le_max_right ..) _ hy
  have h2:=hg _ (max n h.choose) (Nat.le_max_left ..) _ hn
  rw [hy,<-h1,h2]
theorem qcQ {α:Type} (a:Option α):lim (λ_=>a) = a:=by
 apply Option.ext
 intro x
 rw [qkj (λ_ _ _=>Le.refl _)]
 exact ⟨λ⟨_,h⟩=>h,λh=>⟨0,h⟩⟩
noncomputable def qqV (c:Nat->Call):Call:=λfv aS h=>lim λn=>c n fv aS h
theorem qdK {c:Nat->Call} (hc:qdU c) {fv:qa} {aS:List qa} {h:List qb} (x:qb7×List qb×Bool):qqV c fv aS h = some x↔∃n,c n fv aS h = some x:=
 qkj (λn m B=>hc n m B fv aS h) x
theorem qqA {c:Nat->Call} (hc:qdU c) (n:Nat):CLe (c n) (qqV c):=λ_ _ _ x hx=>(qdK hc x).2 ⟨n,hx⟩
section
variable {c d:Call} {base:Nat}
theorem qbx (hc:CLe c d) {p:qcn} {dst:Option Nat} {o:AOp} {s:St}:Le (qu base c p dst o s) (qu base d p dst o s):=by
 cases o
 case call f args=>
  intro x hx
  simp only [qu] at hx ⊢
  split at hx
  ·rename_i B;rw [hc _ _ _ _ B];exact hx
  ·rename_i B;rw [hc _ _ _ _ B];exact hx
  ·cases hx
 all_goals exact λx hx=>hx
theorem qbt (hc:CLe c d):∀(ops:List qX) (p:qcn) (s:St),Le (qaF base c p ops s) (qaF base d p ops s)
 | [],p,s=>λx hx=>hx
 | o :: os,p,s=>λx hx=>by
  simp only [qaF] at hx ⊢
  split at hx
  ·split at hx
   ·rename_i B;rw [qbx hc _ B];exact qbt hc os _ _ _ hx
   ·rename_i E
    have h1:=qbx hc _ hx
    rw [h1]
    split
    ·rename_i B;cases B;exact absurd hx (E _)
    ·rfl
  ·exact qbt hc os _ _ _ hx
  ·cases hx
theorem qak (hc:CLe c d) (dsts:List Nat):∀(ops:List qH) (pend:List (Nat×Chk)) (s:St),Le (qw base c dsts ops pend s) (qw base d dsts ops pend s)
 | [],p,s=>λx hx=>hx
 | o :: os,p,s=>λx hx=>by
  simp only [qw] at hx ⊢
  split at hx
  ·split at hx
   ·rename_i B
    rw [qbx hc _ B]
    simp only
    split at hx
    ·rename_i he
     rw [if_pos he]
     split at hx
     ·rename_i hp;rw [if_pos hp];exact qak hc dsts os _ _ _ hx
     ·cases hx
    ·rename_i he
     rw [if_neg he]
     split at hx
     ·exact qak hc dsts os _ _ _ hx
     ·exact qak hc dsts os _ _ _ hx
   ·rename_i B;rw [qbx hc _ B];exact hx
   ·cases hx
  ·exact qak hc dsts os _ _ _ hx
  ·cases hx
theorem qdt {f g:St->Option (Ex×St)} (hf:∀s,Le (f s) (g s)):∀(n m:Nat),n <= m->∀s,Le (iter f n s) (iter g m s)
 | 0,_,_,s=>λx hx=>by cases hx
 | n + 1,0,h,s=>zo
 | n + 1,m + 1,h,s=>λx hx=>by
  simp only [iter] at hx ⊢
  split at hx
  ·rename_i B;rw [hf _ _ B];exact qdt hf n m zo _ _ hx
  ·rename_i E
   rw [hf _ _ hx]
   split
   ·rename_i B;cases B;exact absurd hx (E _)
   ·rfl
theorem qoj {p q:qH} {a b e a' b' e':Option (Ex×St)} (h1:Le a a') (h2:Le b b') (h3:Le e e'):Le (qvN p q a b e) (qvN p q a' b' e'):=λx hx=>by
 unfold qvN at hx
 split at hx
 ·rename_i s0 s1 s2
  rw [h1 _ rfl,h2 _ rfl,h3 _ rfl]
  exact hx
 ·cases hx
theorem qF (hc:CLe c d) {n m:Nat} (E:n <= m):∀(a:qE) (s:St),Le (qaW n base c a s) (qaW m base d a s)
 | .skip,s=>λx hx=>hx
 | .reg ops,s=>qbt hc ops _ s
 | .draw ops,s=>qak hc _ ops _ s
 | .draw2 c a b r,s=>qoj (qak hc _ _ _ s) (qak hc _ _ _ s) (qak hc _ _ _ s)
 | .seq a b,s=>λx hx=>by
  simp only [qaW] at hx ⊢
  split at hx
  ·rename_i B;rw [qF hc E a _ _ B];exact qF hc E b _ _ hx
  ·rename_i I
   rw [qF hc E a _ _ hx]
   split
   ·rename_i B;cases B;exact absurd hx (I _)
   ·rfl
 | .cond q a b,s=>λx hx=>by
  simp only [qaW] at hx ⊢
  split at hx
  ·exact qF hc E a _ _ hx
  ·exact qF hc E b _ _ hx
  ·cases hx
 | .block id b,s=>λx hx=>by
  simp only [qaW] at hx ⊢
  split at hx
  ·rename_i B;rw [qF hc E b _ _ B];exact hx
  ·rename_i I
   rw [qF hc E b _ _ hx]
   split
   ·rename_i B;cases B;exact absurd hx (I _ _)
   ·rfl
 | .loop b,s=>λx hx=>by
  simp only [qaW] at hx ⊢
  exact qdt (λs=>qF hc E b s) n m E s x hx
 | .exit id,s=>λx hx=>hx
 | .ret,s=>λx hx=>hx
 | .rfun f ps asg body,s=>λx hx=>by
  simp only [qaW] at hx ⊢
  split at hx
  ·split at hx
   ·rename_i B;rw [hc _ _ _ _ B];exact hx
   ·rename_i B;rw [hc _ _ _ _ B];exact hx
   ·cases hx
  ·cases hx
theorem qnE (hc:CLe c d) {n m:Nat} (B:n <= m) {l:Nat} {args:List qa} {h:List qb}:Le (round n c l args h) (round m d l args h):=λx hx=>by
 simp only [round] at hx ⊢
 split at hx
 ·split at hx
  ·cases hx
  ·rename_i hl
   rw [if_neg hl]
   split at hx
   ·rename_i I
    rw [qF hc B _ _ _ I]
    simp only
    split at hx
    ·split at hx
     ·rename_i E
      rw [qF hc B _ _ _ E]
      exact hx
     ·cases hx
    ·cases hx
   ·cases hx
 ·cases hx
theorem qb8 (hc:CLe c d) {n m:Nat} (E:n <= m) {df:qek} {v:qa} {cv:List qa} {s:St}:Le (qeu n c df v cv s) (qeu m d df v cv s):=λx hx=>by
 simp only [qeu] at hx ⊢
 split at hx
 ·rename_i I
  rw [qbt hc _ _ _ _ I]
  dsimp only
  split at hx
  ·rename_i B;rw [qF hc E _ _ _ B];exact hx
  ·rename_i B;rw [qF hc E _ _ _ B];exact hx
  ·cases hx
 ·cases hx
theorem qcN (hc:CLe c d) {n m:Nat} (E:n <= m) {df:qek}:∀(b:qgV) (s:St),Le (qds n base c df b s) (qds m base d df b s)
 | .pre a r,s=>λx hx=>by
  simp only [qds] at hx ⊢
  split at hx
  ·rename_i B;rw [qF hc E _ _ _ B];exact qcN hc E r _ _ hx
  ·cases hx
  ·rename_i h1 h2
   rw [qF hc E _ _ _ hx]
   split
   ·rename_i B;cases B;exact absurd hx (h1 _)
   ·rename_i B;cases B;exact absurd hx (h2 _ _)
   ·rfl
 | .dfr f I slot rest,s=>λx hx=>by
  simp only [qds] at hx ⊢
  split at hx
  ·split at hx
   ·rename_i hg
    rw [if_pos hg]
    split at hx
    ·rename_i B;rw [qF hc E _ _ _ B];exact qb8 hc E _ hx
    ·rename_i B;rw [qF hc E _ _ _ B];exact qb8 hc E _ hx
    ·rename_i B;rw [qF hc E _ _ _ B];exact qb8 hc E _ hx
    ·cases hx
   ·cases hx
  ·cases hx
theorem qmi (hc:CLe c d) {n m:Nat} (E:n <= m) {g:qjr} {aS:List qa} {h:List qb}:Le (qfB n g c aS h) (qfB m g d aS h):=λx hx=>by
 simp only [qfB] at hx ⊢
 split at hx
 ·rename_i B;rw [qcN hc E _ _ _ B];exact hx
 ·rename_i B;rw [qcN hc E _ _ _ B];exact hx
 ·rename_i B;rw [qcN hc E _ _ _ B];exact hx
 ·cases hx
end
def qwA (X:qeW):Prop:=∀f g,X f = some g->∀c d,CLe c d->∀aS h,Le (g c aS h) (g d aS h)
theorem qvk {F:FuncId->Option qv} {X:qeW} (hX:qwA X) {n m:Nat} (E:n <= m) (hc:CLe (run F X n) (run F X m)):CLe (run F X (n + 1)) (run F X (m + 1)):=λfv aS h x hx=>by
 simp only [run] at hx ⊢
 split at hx
 ·split at hx
  ·rename_i hg
   exact hX _ _ hg _ _ hc _ _ _ hx
  ·split at hx
   ·cases hx
   ·split at hx
    ·rename_i B;rw [qF hc E _ _ _ B];exact hx
    ·rename_i B;rw [qF hc E _ _ _ B];exact hx
    ·rename_i B;rw [qF hc E _ _ _ B];exact hx
    ·cases hx
 ·exact qnE hc E _ hx
 ·cases hx
theorem qfU {F:FuncId->Option qv} {X:qeW} (hX:qwA X):∀n m:Nat,n <= m->CLe (run F X n) (run F X m)
 | 0,_,_=>λ_ _ _ x hx=>by cases hx
 | n + 1,0,h=>zo
 | n + 1,m + 1,h=>qvk hX zo (qfU hX n m zo)
section
variable {c:Nat->Call} {base:Nat}
theorem qdO (hc:qdU c) {p:qcn} {dst:Option Nat} {o:AOp} {s:St} {x:Ex×St} (hx:qu base (qqV c) p dst o s = some x):∃k,qu base (c k) p dst o s = some x:=by
 cases o
 case call f args=>
  simp only [qu] at hx ⊢
  split at hx
  ·rename_i B;obtain ⟨k,hk⟩:=(qdK hc _).1 B;exact ⟨k,by rw [hk];exact hx⟩
  ·rename_i B;obtain ⟨k,hk⟩:=(qdK hc _).1 B;exact ⟨k,by rw [hk];exact hx⟩
  ·cases hx
 all_goals exact ⟨0,hx⟩
theorem qdc (hc:qdU c):∀(ops:List qX) (p:qcn) (s:St) (x:Ex×St),qaF base (qqV c) p ops s = some x->∃k,qaF base (c k) p ops s = some x
 | [],p,s,x,hx=>⟨0,hx⟩
 | o :: os,p,s,x,hx=>by
  simp only [qaF] at hx ⊢
  split at hx
  ·split at hx
   ·rename_i B
    obtain ⟨k1,h1⟩:=qdO hc B
    obtain ⟨k2,h2⟩:=qdc hc os _ _ _ hx
    refine ⟨max k1 k2,?_⟩
    rw [qbx (hc k1 _ (Nat.le_max_left ..)) _ h1]
    exact qbt (hc k2 _ (Nat.le_max_right ..)) _ _ _ _ h2
   ·rename_i E
    obtain ⟨k1,h1⟩:=qdO hc hx
    refine ⟨k1,?_⟩
    rw [h1]
    split
    ·rename_i B;cases B;exact absurd hx (E _)
    ·rfl
  ·exact qdc hc os _ _ _ hx
  ·cases hx
theorem qa1 (hc:qdU c) (dsts:List Nat):∀(ops:List qH) (pend:List (Nat×Chk)) (s:St) (x:Ex×St),qw base (qqV c) dsts ops pend s = some x->∃k,qw base (c k) dsts ops pend s = some x
 | [],p,s,x,hx=>⟨0,hx⟩
 | o :: os,p,s,x,hx=>by
  simp only [qw] at hx ⊢
  split at hx
  ·split at hx
   ·rename_i B
    obtain ⟨k1,h1⟩:=qdO hc B
    split at hx
    ·rename_i he
     split at hx
     ·rename_i hp
      obtain ⟨k2,h2⟩:=qa1 hc dsts os _ _ _ hx
      refine ⟨max k1 k2,?_⟩
      rw [qbx (hc k1 _ (Nat.le_max_left ..)) _ h1]
      simp only
      rw [if_pos he,if_pos hp]
      exact qak (hc k2 _ (Nat.le_max_right ..)) dsts _ _ _ _ h2
     ·cases hx
    ·rename_i he
     split at hx
     ·obtain ⟨k2,h2⟩:=qa1 hc dsts os _ _ _ hx
      rename_i hk
      refine ⟨max k1 k2,?_⟩
      rw [qbx (hc k1 _ (Nat.le_max_left ..)) _ h1]
      simp only
      rw [if_neg he]
      exact qak (hc k2 _ (Nat.le_max_right ..)) dsts _ _ _ _ h2
     ·obtain ⟨k2,h2⟩:=qa1 hc dsts os _ _ _ hx
      refine ⟨max k1 k2,?_⟩
      rw [qbx (hc k1 _ (Nat.le_max_left ..)) _ h1]
      simp only
      rw [if_neg he]
      exact qak (hc k2 _ (Nat.le_max_right ..)) dsts _ _ _ _ h2
   ·rename_i B;obtain ⟨k1,h1⟩:=qdO hc B;exact ⟨k1,by rw [h1];exact hx⟩
   ·cases hx
  ·exact qa1 hc dsts os _ _ _ hx
  ·cases hx
theorem qiG {f:St->Option (Ex×St)} {g:Nat->St->Option (Ex×St)} (hg:∀n m,n <= m->∀s,Le (g n s) (g m s)) (hf:∀s x,f s = some x->∃k,g k s = some x):∀(n:Nat) (s:St) (x:Ex×St),iter f n s = some x->∃k,iter (g k) n s = some x
 | 0,s,x,hx=>by cases hx
 | n + 1,s,x,hx=>by
  simp only [iter] at hx ⊢
  split at hx
  ·rename_i B
   obtain ⟨k1,h1⟩:=hf _ _ B
   obtain ⟨k2,h2⟩:=qiG hg hf n _ _ hx
   refine ⟨max k1 k2,?_⟩
   rw [hg k1 _ (Nat.le_max_left ..) _ _ h1]
   exact qdt (hg k2 _ (Nat.le_max_right ..)) n n (jm _) _ _ h2
  ·rename_i E
   obtain ⟨k1,h1⟩:=hf _ _ hx
   refine ⟨k1,?_⟩
   rw [h1]
   split
   ·rename_i B;cases B;exact absurd hx (E _)
   ·rfl
theorem qaD (hc:qdU c) {n:Nat}:∀(a:qE) (s:St) (x:Ex×St),qaW n base (qqV c) a s = some x->∃k,qaW n base (c k) a s = some x
 | .skip,s,x,hx=>⟨0,hx⟩
 | .reg ops,s,x,hx=>qdc hc ops _ s x hx
 | .draw ops,s,x,hx=>qa1 hc _ ops _ s x hx
 | .draw2 c0 a0 b0 r0,s,x,hx=>by
  simp only [qaW] at hx ⊢
  unfold qvN at hx
  split at hx
  ·rename_i s0 s1 s2 e0 e1 e2
   obtain ⟨k0,h0⟩:=qa1 hc _ _ _ s _ e0
   obtain ⟨k1,h1⟩:=qa1 hc _ _ _ s _ e1
   obtain ⟨k2,h2⟩:=qa1 hc _ _ _ s _ e2
   refine ⟨max k0 (max k1 k2),?_⟩
   rw [qak (hc k0 _ (Nat.le_max_left ..)) _ _ _ s _ h0,qak (hc k1 _ (jn (Nat.le_max_left ..) (Nat.le_max_right ..))) _ _ _ s _ h1,qak (hc k2 _ (jn (Nat.le_max_right ..) (Nat.le_max_right ..))) _ _ _ s _ h2]
   exact hx
  ·cases hx
 | .seq a b,s,x,hx=>by
  simp only [qaW] at hx ⊢
  split at hx
  ·rename_i B
   obtain ⟨k1,h1⟩:=qaD hc a _ _ B
   obtain ⟨k2,h2⟩:=qaD hc b _ _ hx
   refine ⟨max k1 k2,?_⟩
   rw [qF (hc k1 _ (Nat.le_max_left ..)) (jm _) _ _ _ h1]
   exact qF (hc k2 _ (Nat.le_max_right ..)) (jm _) _ _ _ h2
  ·rename_i E
   obtain ⟨k1,h1⟩:=qaD hc a _ _ hx
   refine ⟨k1,?_⟩
   rw [h1]
   split
   ·rename_i B;cases B;exact absurd hx (E _)
   ·rfl
 | .cond q a b,s,x,hx=>by
  simp only [qaW] at hx ⊢
  split at hx
  ·exact qaD hc a _ _ hx
  ·exact qaD hc b _ _ hx
  ·cases hx
 | .block id b,s,x,hx=>by
  simp only [qaW] at hx ⊢
  split at hx
  ·rename_i B
   obtain ⟨k1,h1⟩:=qaD hc b _ _ B
   exact ⟨k1,by rw [h1];exact hx⟩
  ·rename_i E
   obtain ⟨k1,h1⟩:=qaD hc b _ _ hx
   refine ⟨k1,?_⟩
   rw [h1]
   split
   ·rename_i B;cases B;exact absurd hx (E _ _)
   ·rfl
 | .loop b,s,x,hx=>by
  simp only [qaW] at hx ⊢
  exact qiG (g:=λk=>qaW n base (c k) b) (λi j I s=>qF (hc i j I) (jm _) b s) (λs x h=>qaD hc b s x h) n s x hx
 | .exit id,s,x,hx=>⟨0,hx⟩
 | .ret,s,x,hx=>⟨0,hx⟩
 | .rfun f ps asg body,s,x,hx=>by
  simp only [qaW] at hx ⊢
  split at hx
  ·split at hx
   ·rename_i B;obtain ⟨k,hk⟩:=(qdK hc _).1 B;exact ⟨k,by rw [hk];exact hx⟩
   ·rename_i B;obtain ⟨k,hk⟩:=(qdK hc _).1 B;exact ⟨k,by rw [hk];exact hx⟩
   ·cases hx
  ·cases hx
theorem qe4 (hc:qdU c) {n:Nat} {df:qek} {v:qa} {cv:List qa} {s:St} {x:Ex×St} (hx:qeu n (qqV c) df v cv s = some x):∃k,qeu n (c k) df v cv s = some x:=by
 simp only [qeu] at hx ⊢
 split at hx
 ·rename_i E
  obtain ⟨k1,h1⟩:=qdc hc _ _ _ _ E
  split at hx
  ·rename_i B
   obtain ⟨k2,h2⟩:=qaD hc _ _ _ B
   refine ⟨max k1 k2,?_⟩
   rw [qbt (hc k1 _ (Nat.le_max_left ..)) _ _ _ _ h1]
   simp only
   rw [qF (hc k2 _ (Nat.le_max_right ..)) (jm _) _ _ _ h2]
   exact hx
  ·rename_i B
   obtain ⟨k2,h2⟩:=qaD hc _ _ _ B
   refine ⟨max k1 k2,?_⟩
   rw [qbt (hc k1 _ (Nat.le_max_left ..)) _ _ _ _ h1]
   simp only
   rw [qF (hc k2 _ (Nat.le_max_right ..)) (jm _) _ _ _ h2]
   exact hx
  ·cases hx
 ·cases hx
theorem qdI (hc:qdU c) {n:Nat} {df:qek}:∀(b:qgV) (s:St) (x:Ex×St),qds n base (qqV c) df b s = some x->∃k,qds n base (c k) df b s = some x
 | .pre a r,s,x,hx=>by
  simp only [qds] at hx ⊢
  split at hx
  ·rename_i B
   obtain ⟨k1,h1⟩:=qaD hc _ _ _ B
   obtain ⟨k2,h2⟩:=qdI hc r _ _ hx
   refine ⟨max k1 k2,?_⟩
   rw [qF (hc k1 _ (Nat.le_max_left ..)) (jm _) _ _ _ h1]
   exact qcN (hc k2 _ (Nat.le_max_right ..)) (jm _) _ _ _ h2
  ·cases hx
  ·rename_i h1 h2
   obtain ⟨k1,h3⟩:=qaD hc _ _ _ hx
   refine ⟨k1,?_⟩
   rw [h3]
   split
   ·rename_i B;cases B;exact absurd hx (h1 _)
   ·rename_i B;cases B;exact absurd hx (h2 _ _)
   ·rfl
 | .dfr f E slot rest,s,x,hx=>by
  simp only [qds] at hx ⊢
  split at hx
  ·split at hx
   ·rename_i hg
    simp only [if_pos hg]
    split at hx
    ·rename_i B
     obtain ⟨k1,h1⟩:=qaD hc _ _ _ B
     obtain ⟨k2,h2⟩:=qe4 hc hx
     refine ⟨max k1 k2,?_⟩
     rw [qF (hc k1 _ (Nat.le_max_left ..)) (jm _) _ _ _ h1]
     exact qb8 (hc k2 _ (Nat.le_max_right ..)) (jm _) _ h2
    ·rename_i B
     obtain ⟨k1,h1⟩:=qaD hc _ _ _ B
     obtain ⟨k2,h2⟩:=qe4 hc hx
     refine ⟨max k1 k2,?_⟩
     rw [qF (hc k1 _ (Nat.le_max_left ..)) (jm _) _ _ _ h1]
     exact qb8 (hc k2 _ (Nat.le_max_right ..)) (jm _) _ h2
    ·rename_i B
     obtain ⟨k1,h1⟩:=qaD hc _ _ _ B
     obtain ⟨k2,h2⟩:=qe4 hc hx
     refine ⟨max k1 k2,?_⟩
     rw [qF (hc k1 _ (Nat.le_max_left ..)) (jm _) _ _ _ h1]
     exact qb8 (hc k2 _ (Nat.le_max_right ..)) (jm _) _ h2
    ·cases hx
   ·cases hx
  ·cases hx
theorem qmh (hc:qdU c) {n:Nat} {g:qjr} {aS:List qa} {h:List qb} {x:qb7×List qb×Bool} (hx:qfB n g (qqV c) aS h = some x):∃k,qfB n g (c k) aS h = some x:=by
 simp only [qfB] at hx ⊢
 split at hx
 ·rename_i B;obtain ⟨k1,h1⟩:=qdI hc _ _ _ B;exact ⟨k1,by rw [h1];exact hx⟩
 ·rename_i B;obtain ⟨k1,h1⟩:=qdI hc _ _ _ B;exact ⟨k1,by rw [h1];exact hx⟩
 ·rename_i B;obtain ⟨k1,h1⟩:=qdI hc _ _ _ B;exact ⟨k1,by rw [h1];exact hx⟩
 ·cases hx
end
noncomputable def qj (base:Nat) (call:Call) (a:qE) (s:St):Option (Ex×St):=lim λn=>qaW n base call a s
section
variable {base:Nat} {call:Call}
theorem qal {a:qE} {s:St} (x:Ex×St):qj base call a s = some x↔∃n,qaW n base call a s = some x:=
 qkj (λn m B=>qF (CLe.refl _) B a s) x
theorem qmd (s:St):qj base call .skip s = some (.nor,s):=qcQ _
theorem qiu (ops:List qX) (s:St):qj base call (.reg ops) s = qaF base call [] ops s:=qcQ _
theorem qmb (ops:List qH) (s:St):qj base call (.draw ops) s = qw base call (ops.filterMap (·.o.dst)) ops [] s:=qcQ _
theorem qmc (id:Nat) (s:St):qj base call (.exit id) s = some (.exit id,s):=qcQ _
theorem qpn (s:St):qj base call .ret s = some (.ret,s):=qcQ _
def qcV (f:St->Option (Ex×St)):Option (Ex×St)->Option (Ex×St)
 | some (.nor,s)=>f s
 | r=>r
theorem qpo (a b:qE) (s:St):qj base call (.seq a b) s = qcV (qj base call b) (qj base call a s):=by
 apply Option.ext
 intro x
 rw [qal]
 constructor
 ·rintro ⟨n,h⟩
  simp only [qaW] at h
  split at h
  ·rename_i B
   rw [(qal _).2 ⟨n,B⟩]
   exact (qal _).2 ⟨n,h⟩
  ·rename_i E
   rw [(qal _).2 ⟨n,h⟩]
   unfold qcV
   split
   ·rename_i B;cases B;exact absurd h (E _)
   ·rfl
 ·intro h
  unfold qcV at h
  split at h
  ·rename_i B
   obtain ⟨n1,h1⟩:=(qal _).1 B
   obtain ⟨n2,h2⟩:=(qal _).1 h
   refine ⟨max n1 n2,?_⟩
   simp only [qaW]
   rw [qF (CLe.refl _) (Nat.le_max_left n1 n2) _ _ _ h1]
   exact qF (CLe.refl _) (Nat.le_max_right n1 n2) _ _ _ h2
  ·rename_i E
   obtain ⟨n1,h1⟩:=(qal _).1 h
   refine ⟨n1,?_⟩
   simp only [qaW]
   rw [h1]
   split
   ·rename_i B;cases B;exact absurd h (E _)
   ·rfl
theorem qma (q:qo) (a b:qE) (s:St):qj base call (.cond q a b) s = match ev s.t q with
  | .bool true=>qj base call a s
  | .bool false=>qj base call b s
  | _=>none:=by
 simp only [qj,qaW]
 generalize ev s.t q = v
 cases v with
 | bool b=>cases b <;> rfl
 | _=>exact qcQ _
def qfj (id:Nat):Option (Ex×St)->Option (Ex×St)
 | some (.exit j,s)=>if j = id then some (.nor,s) else some (.exit j,s)
 | r=>r
theorem qjO (id:Nat) (b:qE) (s:St):qj base call (.block id b) s = qfj id (qj base call b s):=by
 apply Option.ext
 intro x
 rw [qal]
 constructor
 ·rintro ⟨n,h⟩
  simp only [qaW] at h
  split at h
  ·rename_i B
   rw [(qal _).2 ⟨n,B⟩]
   exact h
  ·rename_i E
   rw [(qal _).2 ⟨n,h⟩]
   unfold qfj
   split
   ·rename_i B;cases B;exact absurd h (E _ _)
   ·rfl
 ·intro h
  unfold qfj at h
  split at h
  ·rename_i B
   obtain ⟨n1,h1⟩:=(qal _).1 B
   refine ⟨n1,?_⟩
   simp only [qaW]
   rw [h1]
   exact h
  ·rename_i E
   obtain ⟨n1,h1⟩:=(qal _).1 h
   refine ⟨n1,?_⟩
   simp only [qaW]
   rw [h1]
   split
   ·rename_i B;cases B;exact absurd h (E _ _)
   ·rfl
theorem qaq (b:qE) (s:St):qj base call (.loop b) s = qcV (qj base call (.loop b)) (qj base call b s):=by
 apply Option.ext
 intro x
 rw [qal]
 constructor
 ·rintro ⟨n,h⟩
  simp only [qaW] at h
  cases n with
  | zero=>cases h
  | succ n=>
   simp only [iter] at h
   split at h
   ·rename_i B
    rw [(qal _).2 ⟨n + 1,B⟩]
    exact (qal _).2 ⟨n + 1,qdt (λs=>Le.refl _) n (n + 1) zo _ _ h⟩
   ·rename_i E
    rw [(qal _).2 ⟨n + 1,h⟩]
    unfold qcV
    split
    ·rename_i B;cases B;exact absurd h (E _)
    ·rfl
 ·intro h
  unfold qcV at h
  split at h
  ·rename_i B
   obtain ⟨n1,h1⟩:=(qal _).1 B
   obtain ⟨n2,h2⟩:=(qal _).1 h
   refine ⟨max n1 n2 + 1,?_⟩
   simp only [qaW,iter] at h2 ⊢
   rw [qF (CLe.refl _) (show n1 <= max n1 n2 + 1 by omega) _ _ _ h1]
   exact qdt (λs=>qF (CLe.refl _) (show n2 <= max n1 n2 + 1 by omega) b s) n2 (max n1 n2) zo _ _ h2
  ·rename_i E
   obtain ⟨n1,h1⟩:=(qal _).1 h
   refine ⟨n1 + 1,?_⟩
   simp only [qaW,iter]
   rw [qF (CLe.refl _) (Nat.le_succ n1) _ _ _ h1]
   split
   ·rename_i B;cases B;exact absurd h (E _)
   ·rfl
end
section
variable {F:FuncId->Option qv} {X:qeW}
noncomputable def W (F:FuncId->Option qv) (X:qeW):Call:=qqV (run F X)
structure qoc (X:qeW):Prop where
 mono:qwA X
 cont:∀f g,X f = some g->∀c,qdU c->∀aS h x,g (qqV c) aS h = some x->∃k,g (c k) aS h = some x
theorem qwz (hX:qoc X) {fv:qa} {aS:List qa} {h:List qb} (x:qb7×List qb×Bool):W F X fv aS h = some x↔∃n,run F X n fv aS h = some x:=
 qdK (qfU hX.mono) x
theorem qFN (hX:qoc X) {f:FuncId} {first args cap:List qa} {h:List qb} {fn:qv} (h1:X f = none) (h2:F f = some fn) :
  W F X (.fn f first cap) args h = qjJ fn h (qj h.length (W F X) fn.code ⟨(first ++ args ++ cap).map qa.dim ++ List.replicate (fn.ntmps - ((first ++ args ++ cap).map qa.dim).length) (.tup []),h,false⟩):=by
 have B:=qfU (F:=F) hX.mono
 apply Option.ext
 intro x
 rw [qwz hX]
 constructor
 ·rintro ⟨n,hn⟩
  cases n with
  | zero=>cases hn
  | succ n=>
   rw [qwq h1 h2] at hn
   cases hq:qaW n h.length (run F X n) fn.code ⟨(first ++ args ++ cap).map qa.dim ++ List.replicate (fn.ntmps - ((first ++ args ++ cap).map qa.dim).length) (.tup []),h,false⟩ with
   | none=>rw [hq] at hn;cases hn
   | some y=>
    rw [hq] at hn
    have e:=(qal y).2 ⟨n,qF (qqA B n) (jm _) _ _ _ hq⟩
    rw [W,e]
    exact hn
 ·intro hn
  cases hq:qj h.length (W F X) fn.code ⟨(first ++ args ++ cap).map qa.dim ++ List.replicate (fn.ntmps - ((first ++ args ++ cap).map qa.dim).length) (.tup []),h,false⟩ with
  | none=>rw [hq] at hn;cases hn
  | some y=>
   rw [hq] at hn
   obtain ⟨k,hk⟩:=(qal y).1 hq
   obtain ⟨m,hm⟩:=qaD B _ _ _ hk
   refine ⟨max k m + 1,?_⟩
   rw [qwq h1 h2,qF (B m _ (Nat.le_max_right k m)) (Nat.le_max_left k m) _ _ _ hm]
   exact hn
theorem qwy (hX:qoc X) {f:FuncId} {first args cap:List qa} {h:List qb} {g:Call->List qa->List qb->Option (qb7×List qb×Bool)} (h1:X f = some g) :
  W F X (.fn f first cap) args h = g (W F X) (first ++ args ++ cap) h:=by
 have B:=qfU (F:=F) hX.mono
 apply Option.ext
 intro x
 rw [qwz hX]
 constructor
 ·rintro ⟨n,hn⟩
  cases n with
  | zero=>cases hn
  | succ n=>
   rw [qr3 h1] at hn
   exact hX.mono f g h1 _ _ (qqA B n) _ _ _ hn
 ·intro hn
  obtain ⟨k,hk⟩:=hX.cont f g h1 _ B _ _ _ hn
  exact ⟨k + 1,by rw [qr3 h1];exact hk⟩
end
def lkp (t:List qa) (i:Nat):qa:=t.getD i .undef
section
variable {base:Nat} {call:Call} {p:qcn} {s:St} {t:List qa} {h:List qb}
theorem qFV (t:List qa) (i:Nat):ev t (.t i) = (lkp t i).dim:=rfl
theorem qFU (t:List qa) (v:qa):ev t (.c v) = v.dim:=rfl
theorem qEJ (t:List qa) (i:Nat):raw t (.t i) = lkp t i:=rfl
theorem qEI (t:List qa) (v:qa):raw t (.c v) = v:=rfl
def up (t:List qa) (i:Nat) (v:qa):List qa:=t.set i v
theorem qaX (t:List qa) (i:Nat) (v:qa):(up t i v).length = t.length:=by simp [up]
theorem qyp {i:Nat} {v:qa} (h:i < t.length):lkp (up t i v) i = v:=by simp [lkp,up,List.getD,h]
theorem qyq {i j:Nat} {v:qa} (h:i ≠ j):lkp (up t i v) j = lkp t j:=by simp [lkp,up,List.getD,jf h]
theorem qqY (a:qa) (t:List qa):lkp (a :: t) 0 = a:=rfl
theorem qqX (a:qa) (t:List qa) (i:Nat):lkp (a :: t) (i + 1) = lkp t i:=rfl
theorem qve (d:Nat) (v:qa) (t:List qa):put (some d) v t = up t d v:=rfl
theorem qvd (v:qa) (t:List qa):put none v t = t:=rfl
theorem qoX:qa.undef.dim = .undef:=rfl
theorem qtf (b:Bool):(qa.bool b).dim = .bool b:=rfl
theorem qxr (k:IntKind) (n:Int):(qa.int k n).dim = .int k n:=rfl
theorem qxu (s:List UInt8):(qa.str s).dim = .str s:=rfl
theorem ql0:qa.nilptr.dim = .nilptr:=rfl
theorem qxt (i o:Nat):(qa.ptr i o).dim = .ptr i o:=rfl
theorem qth (cs:List qa) (o:Nat):(qa.iptr cs o).dim = .iptr cs o:=rfl
theorem qAy (xs:List qa):(qa.lst xs .no).dim = .lst xs .no:=rfl
theorem qtg (xs:List qa):(qa.lst xs .full).dim = .lst xs .full:=rfl
theorem qxs (xs:List qa) (k:Nat):(qa.lst xs (.own k)).dim = .lst xs .no:=rfl
theorem qjG:qa.nilfunc.dim = .nilfunc:=rfl
theorem qAw (f:FuncId) (a b:List qa):(qa.fn f a b).dim = .fn f a b:=rfl
theorem qxw (i:Nat):(qa.yld i).dim = .yld i:=rfl
theorem qip:qa.niliface.dim = .niliface:=rfl
theorem qoW (t:TypeId) (v:qa):(qa.iface t v).dim = .iface t v:=rfl
theorem qxq (cs:List qa):(qa.agg cs).dim = .agg cs:=rfl
theorem qxv (cs:List qa):(qa.tup cs).dim = .tup cs:=rfl
theorem qiq (v:qa):v.dim.dim = v.dim:=by
 cases v with
 | lst xs f=>cases f <;> rfl
 | _=>rfl
def qgA (dst:Option Nat) (s:St):Option qa->Option (Ex×St)
 | some v=>some (.nor,{ s with t:=put dst v s.t})
 | none=>none
theorem qrR (dst:Option Nat) (t:List qa) (h:List qb) (e:Bool) (v:qa):qgA dst ⟨t,h,e⟩ (some v) = some (.nor,⟨put dst v t,h,e⟩):=rfl
theorem qsv (f:St->Option (Ex×St)) (s:St):qcV f (some (.ret,s)) = some (.ret,s):=rfl
theorem qnT (f:St->Option (Ex×St)) (id:Nat) (s:St):qcV f (some (.exit id,s)) = some (.exit id,s):=rfl
theorem qsu (f:St->Option (Ex×St)) (v:qa) (s:St):qcV f (some (.pan v,s)) = some (.pan v,s):=rfl
theorem qlN (id:Nat) (s:St):qfj id (some (.nor,s)) = some (.nor,s):=rfl
theorem qlP (id:Nat) (s:St):qfj id (some (.ret,s)) = some (.ret,s):=rfl
theorem qlO (id:Nat) (v:qa) (s:St):qfj id (some (.pan v,s)) = some (.pan v,s):=rfl
theorem qjy (id j:Nat) (s:St):qfj id (some (.exit j,s)) = if j = id then some (.nor,s) else some (.exit j,s):=rfl
def qxf (v:qa) (a b:Option (Ex×St)):Option (Ex×St):=
 match v with
 | .bool true=>a
 | .bool false=>b
 | _=>none
theorem qtU (q:qo) (a b:qE) (s:St):qj base call (.cond q a b) s = qxf (ev s.t q) (qj base call a s) (qj base call b s):=qma q a b s
def qle (v:qa) (b:Bool) (yes no:Option (Ex×St)):Option (Ex×St):=
 match v with
 | .bool c=>if c == b then yes else no
 | .tup []=>no
 | _=>none
theorem qy9:qaF base call p [] s = some (.nor,s):=rfl
theorem qlr (d:Option Nat) (o:AOp) (os:List qX):qaF base call p (⟨d,o,none⟩ :: os) s = qcV (qaF base call (qaB p ⟨d,o,none⟩) os) (qu base call p d o s):=by
 simp only [qaF,wanted]
 unfold qcV
 split <;> split <;> simp_all
theorem qi1 (d:Option Nat) (o:AOp) (j:Nat) (b:Bool) (os:List qX) :
  qaF base call p (⟨d,o,some (j,b)⟩ :: os) s = qle (lkp s.t j) b (qcV (qaF base call (qaB p ⟨d,o,some (j,b)⟩) os) (qu base call p d o s))
   (qaF base call (qaB p { dst:=d,op:=.pick (.c .undef) (.c .undef) (.c .undef),guard:=some (j,b)}) os { s with t:=put d (.tup []) s.t}):=by
 simp only [qaF,wanted,lkp]
 generalize s.t.getD j .undef = v
 cases v with
 | bool c=>
  simp only [qle]
  cases hc:c == b with
  | false=>simp
  | true=>
   simp only [if_true]
   unfold qcV
   split <;> split <;> simp_all
 | tup vs=>cases vs <;> rfl
 | _=>rfl
theorem qBL (d:Option Nat) (x:qo):qu base call p d (.mov x) s = some (.nor,{ s with t:=put d (ev s.t x) s.t}):=rfl
theorem qBF (d:Option Nat) (x:qo):qu base call p d (.asg x) s = some (.nor,{ s with t:=put d (raw s.t x) (qaz s.t x)}):=rfl
def qb6 (v a b:qa):Option qa:=
 match v with
 | .bool true=>some a
 | .bool false=>some b
 | _=>none
theorem qnh (a b:qa):qb6 (.bool true) a b = some a:=rfl
theorem qkt (a b:qa):qb6 (.bool false) a b = some b:=rfl
theorem qrh (d:Option Nat) (c a b:qo):qu base call p d (.pick c a b) s = qgA d s (qb6 (ev s.t c) (ev s.t a) (ev s.t b)):=by
 simp only [qu,pureV]
 generalize ev s.t c = v
 cases v with
 | bool b=>cases b <;> rfl
 | _=>rfl
theorem qbh (d:Option Nat) (o:AOp) (ho:o.effs = false) (h1:∀cs,o ≠ .new cs) (h2:∀k x,o ≠ .box k x) (h3:∀k x,o ≠ .ld k x) (h4:∀sh z ok m key,o ≠ .lk sh z ok m key:=by simp):qu base call p d o s = qgA d s (pureV s.t o):=by
 cases o <;> first | exact absurd rfl (h4 _ _ _ _ _) | (simp [AOp.effs] at ho h1 h2 h3 <;> (simp only [qu];cases pureV s.t _ <;> rfl))
def faV (off:Nat):qa->Option qa
 | .ptr i o=>some (.ptr i (o + off))
 | .iptr cs o=>some (.iptr cs (o + off))
 | _=>none
theorem qxM (off i o:Nat):faV off (.ptr i o) = some (.ptr i (o + off)):=rfl
theorem qtY (off o:Nat) (cs:List qa):faV off (.iptr cs o) = some (.iptr cs (o + off)):=rfl
theorem qBH (d:Option Nat) (off:Nat) (a:qo):qu base call p d (.fa off a) s = qgA d s (faV off (ev s.t a)):=by
 rw [qbh _ _ rfl (by simp) (by simp) (by simp)]
 simp only [pureV]
 cases ev s.t a <;> rfl
theorem qwc (d:Option Nat) (op:BinOp) (x y:qo):qu base call p d (.bin op x y) s = qgA d s (qbG op (ev s.t x) (ev s.t y)):=qbh _ _ rfl (by simp) (by simp) (by simp)
theorem qBP (d:Option Nat) (op:UnOp) (x:qo):qu base call p d (.un op x) s = qgA d s (unV op (ev s.t x)):=qbh _ _ rfl (by simp) (by simp) (by simp)
def qg3:qa->Option qa
 | .ptr i o=>some (.ptr i o)
 | .iptr cs o=>some (.iptr cs o)
 | .fn f a b=>some (.fn f a b)
 | .yld l=>some (.yld l)
 | .iface u v=>some (.iface u v)
 | _=>none
theorem qrg (d:Option Nat) (x:qo):qu base call p d (.nilc x) s = qgA d s (qg3 (ev s.t x)):=by
 rw [qbh _ _ rfl (by simp) (by simp) (by simp)]
 simp only [pureV]
 cases ev s.t x <;> rfl
theorem qrc (i o:Nat):qg3 (.ptr i o) = some (.ptr i o):=rfl
theorem qnb (cs:List qa) (o:Nat):qg3 (.iptr cs o) = some (.iptr cs o):=rfl
def qbB (b:Bool) (v:qa):Option qa:=
 match b,v with
 | true,.str s=>some (.int .i64 s.length)
 | false,.lst xs _=>some (.int .i64 xs.length)
 | false,.sl _ _ len _ _=>some (.int .i64 len)
 | false,.nils=>some (.int .i64 0)
 | false,.empt=>some (.int .i64 0)
 | _,_=>none
theorem qwk (d:Option Nat) (b:Bool) (x:qo):qu base call p d (.len b x) s = qgA d s (qbB b (ev s.t x)):=by
 rw [qbh _ _ rfl (by simp) (by simp) (by simp)]
 cases b <;> simp only [pureV] <;> cases ev s.t x <;> rfl
theorem quF (s:List UInt8):qbB true (.str s) = some (.int .i64 s.length):=rfl
theorem quE (xs:List qa) (f:qfH):qbB false (.lst xs f) = some (.int .i64 xs.length):=rfl
def qar (k:Nat) (s i:qa):Option qa:=
 match s,i with
 | .lst xs _,.int _ n=>
  if 0 <= n/\n < xs.length then
   match xs[n.toNat]? with
   | some x=>if x.cells.length = k then some (.iptr x.cells 0) else none
   | none=>none
  else none
 | .sl id o len _ _,.int _ n=>if 0 <= n/\n < len then some (.ptr id (o + n.toNat * k)) else none
 | _,_=>none
theorem qrf (d:Option Nat) (k:Nat) (x i:qo):qu base call p d (.ixaL k x i) s = qgA d s (qar k (ev s.t x) (ev s.t i)):=by
 rw [qbh _ _ rfl (by simp) (by simp) (by simp)]
 simp only [pureV]
 cases ev s.t x <;> cases ev s.t i <;> rfl
theorem qa4 {k:Nat} {xs:List qa} {f:qfH} {j:IntKind} {n:Nat} {x:qa} (hx:xs[n]? = some x) (hk:x.cells.length = k):qar k (.lst xs f) (.int j n) = some (.iptr x.cells 0):=by
 have hn:n < xs.length:=(jd.1 hx).1
 simp only [qar,Int.toNat_natCast,hx]
 rw [if_pos ⟨zo,zo⟩,if_pos hk]
def qt0 (off:Nat) (k:Option Nat):qa->Option qa
 | .agg cs=>cut cs off k
 | _=>none
theorem qt1 (off:Nat) (k:Option Nat) (cs:List qa):qt0 off k (.agg cs) = cut cs off k:=rfl
theorem qwh (d:Option Nat) (off:Nat) (k:Option Nat) (x:qo):qu base call p d (.fld off k x) s = qgA d s (qt0 off k (ev s.t x)):=by
 rw [qbh _ _ rfl (by simp) (by simp) (by simp)]
 simp only [pureV]
 cases ev s.t x <;> rfl
theorem quV (d:Option Nat) (z:List qa) (ps:List (Nat×Nat×qo)):qu base call p d (.build z ps) s = qgA d s ((qbd z (ps.map λ(o,n,x)=>(o,n,ev s.t x))).map .agg):=qbh _ _ rfl (by simp) (by simp) (by simp)
theorem qBM (d:Option Nat) (cs:List qa):qu base call p d (.new cs) s = some (.nor,{ s with t:=put d (.ptr s.h.length 0) s.t,h:=s.h ++ [.cells (cs.map qa.dim)]}):=rfl
theorem qBI (d:Option Nat) (k:Option Nat) (a:qo):qu base call p d (.ld k a) s = qgA d s (qch s.h (ev s.t a) k):=by
 simp only [qu]
 cases qch s.h (ev s.t a) k <;> rfl
theorem qqy (cs:List qa) (o:Nat) (k:Option Nat):qch h (.iptr cs o) k = cut cs o k:=rfl
theorem qfP {i o:Nat} {k:Option Nat} {cs:List qa} (hi:h[i]? = some (.cells cs)):qch h (.ptr i o) k = cut cs o k:=by simp only [qch,hi]
theorem qk5 (cs:List qa) (o:Nat):cut cs o none = (cs[o]?).map qa.dim:=rfl
theorem qfK {cs:List qa} {o k:Nat} (h:o + k <= cs.length):cut cs o (some k) = some (.agg (((cs.drop o).take k).map qa.dim)):=if_pos h
def stV (base:Nat) (k:Option Nat) (a v:qa) (h:List qb):Option (List qb×Bool):=
 match a with
 | .ptr id o=>
  match h[id]? with
  | some (.cells cs)=>
   let vs:=match k with | none=>[v] | some _=>v.dim.cells.map qa.dim
   if vs.length = k.getD 1/\o + vs.length <= cs.length/\vs.all qa.storable then
    some (h.set id (.cells (splice cs o vs)),!(Nat.ble base id || qt (id + 1) vs))
   else none
  | _=>none
 | _=>none
def stW (d:Option Nat) (t:List qa) (e:Bool):Option (List qb×Bool)->Option (Ex×St)
 | some (h,e')=>some (.nor,{ t:=put d .undef t,h,e:=e || e'})
 | none=>none
theorem qvq (d:Option Nat) (t:List qa) (e e':Bool) (h:List qb):stW d t e (some (h,e')) = some (.nor,⟨put d .undef t,h,e || e'⟩):=rfl
theorem qEB (d:Option Nat) (k:Option Nat) (a x:qo):qu base call p d (.st k a x) s = stW d (qaz s.t x) s.e (stV base k (ev s.t a) (raw s.t x) s.h):=by
 simp only [qu,stV]
 cases ev s.t a with
 | ptr id o=>
  simp only
  cases s.h[id]? with
  | none=>rfl
  | some b=>
   cases b with
   | cells cs=>cases k <;> (simp only;split <;> rfl)
   | _=>rfl
 | _=>rfl
end
section
variable {base:Nat} {call:Call} {p:qcn} {s:St} {t:List qa} {h:List qb}
def qxa (d:Option Nat) (s:St):Option (qb7×List qb×Bool)->Option (Ex×St)
 | some (.ret v,h,e)=>some (.nor,{ t:=put d v.dim s.t,h,e:=s.e || e})
 | some (.pan v,h,e)=>some (.pan v,{ s with h,e:=s.e || e})
 | none=>none
theorem qy7 (d:Option Nat) (f:qo) (args:List qo):qu base call p d (.call f args) s = qxa d s (call (ev s.t f) (args.map (ev s.t)) s.h):=by
 simp only [qu]
 cases call (ev s.t f) (args.map (ev s.t)) s.h with
 | none=>rfl
 | some r=>obtain ⟨r,h,e⟩:=r;cases r <;> rfl
theorem qoo (d:Option Nat) (t:List qa) (h h':List qb) (e e':Bool) (v:qa):qxa d ⟨t,h,e⟩ (some (.ret v,h',e')) = some (.nor,⟨put d v.dim t,h',e || e'⟩):=rfl
theorem qon (d:Option Nat) (t:List qa) (h h':List qb) (e e':Bool) (v:qa):qxa d ⟨t,h,e⟩ (some (.pan v,h',e')) = some (.pan v,⟨t,h',e || e'⟩):=rfl
theorem qY (h l:List qb):(h ++ l)[h.length]? = l[0]?:=by rw [jc (jm _),Nat.sub_self]
theorem qbb (h l:List qb) (k:Nat):(h ++ l)[h.length + k]? = l[k]?:=by rw [jc zo,Nat.add_sub_cancel_left]
theorem qwt (h l:List qb) (b:qb):(h ++ l).set h.length b = h ++ l.set 0 b:=by rw [List.set_append_right _ _ (jm _),Nat.sub_self]
theorem qlz (h l:List qb) (k:Nat) (b:qb):(h ++ l).set (h.length + k) b = h ++ l.set k b:=by rw [List.set_append_right _ _ zo,Nat.add_sub_cancel_left]
theorem qxU {h l:List qb} {i:Nat} (hi:i < h.length):(h ++ l)[i]? = h[i]?:=ja hi
theorem qzr {h l:List qb} {i:Nat} {b:qb} (hi:i < h.length):(h ++ l).set i b = h.set i b ++ l:=List.set_append_left _ _ hi
theorem qqD {n:Nat} {h l:List qb} {v:qa} (hl:h.length = n) (hv:v.lower n = true):qaE n (.ret v) (h ++ l) false = (.ret v,h,false):=by subst hl;simp [qaE,hv]
theorem qmW {n:Nat} {h:List qb} {v:qa} (hl:h.length = n) (hv:v.lower n = true):qaE n (.ret v) h false = (.ret v,h,false):=by subst hl;simp [qaE,hv]
theorem qqC {n:Nat} {h l:List qb} {v:qa} (hl:h.length = n) (hv:v.lower n = true):qaE n (.pan v) (h ++ l) false = (.pan v,h,false):=by subst hl;simp [qaE,hv]
theorem qmV {n:Nat} {h:List qb} {v:qa} (hl:h.length = n) (hv:v.lower n = true):qaE n (.pan v) h false = (.pan v,h,false):=by subst hl;simp [qaE,hv]
theorem qS {n:Nat} {H h:List qb} {v:qa} (hc:H.take n = h) (hv:v.lower n = true):qaE n (.ret v) H false = (.ret v,h,false):=by simp [qaE,hv,hc]
theorem qr7 (h:List qb) (i:Nat) (a b:qb):(h.set i a).set i b = h.set i b:=List.set_set ..
theorem qxT {h l:List qb} {n:Nat} (hl:h.length = n):(h ++ l)[n]? = l[0]?:=by subst hl;exact qY h l
theorem qzq {h l:List qb} {n:Nat} {b:qb} (hl:h.length = n):(h ++ l).set n b = h ++ l.set 0 b:=by subst hl;exact qwt h l b
theorem qpG {h l:List qb} {n k:Nat} (hl:h.length = n):(h ++ l)[n + k]? = l[k]?:=by subst hl;exact qbb h l k
theorem qr6 {h l:List qb} {n k:Nat} {b:qb} (hl:h.length = n):(h ++ l).set (n + k) b = h ++ l.set k b:=by subst hl;exact qlz h l k b
theorem qmj {h:List qb} {i j:Nat} {b:qb} (B:i ≠ j):(h.set i b)[j]? = h[j]?:=jf B
theorem qxV {h:List qb} {i:Nat} {b:qb} (hi:i < h.length):(h.set i b)[i]? = some b:=List.getElem?_set_self hi
end
section
variable {base:Nat} {call:Call} {p:qcn} {s:St}
def qFg (d:Option Nat) (s:St) (k:Nat) (vs:List qa):Option (Ex×St):=
 if vs.length = k/\vs.all qa.storable then some (.nor,{ s with t:=put d (.ptr s.h.length 0) s.t,h:=s.h ++ [.cells vs]}) else none
theorem qBG (d:Option Nat) (k:Nat) (x:qo):qu base call p d (.box k x) s = qFg d s k ((ev s.t x).cells.map qa.dim):=rfl
theorem qw3 (d:Option Nat) (t:List qa) (h:List qb) (e:Bool) (k:Nat) (vs:List qa):qFg d ⟨t,h,e⟩ k vs = if vs.length = k/\vs.all qa.storable then some (.nor,⟨put d (.ptr h.length 0) t,h ++ [.cells vs],e⟩) else none:=rfl
def qsM (ty:TypeId) (v:qa):Option qa:=
 match v with
 | .undef=>none
 | v=>some (.iface ty v)
theorem qwl (d:Option Nat) (ty:TypeId) (x:qo):qu base call p d (.mkI ty x) s = qgA d s (qsM ty (ev s.t x)):=by
 rw [qbh _ _ rfl (by simp) (by simp) (by simp)]
 simp only [pureV]
 cases ev s.t x <;> rfl
theorem quP (ty:TypeId) (cs:List qa):qsM ty (.agg cs) = some (.iface ty (.agg cs)):=rfl
theorem quQ (ty:TypeId) (k:IntKind) (n:Int):qsM ty (.int k n) = some (.iface ty (.int k n)):=rfl
theorem qBJ (d:Option Nat) (f:FuncId) (a b:List qo):qu base call p d (.mkF f a b) s = some (.nor,{ s with t:=put d (.fn f (a.map (ev s.t)) (b.map (ev s.t))) s.t}):=rfl
def qh6 (s i:qa):Option qa:=
 match s,i with
 | .str l,.int _ n=>if 0 <= n then (l[n.toNat]?).map λb=>.int .u8 b.toNat else none
 | _,_=>none
theorem qwj (d:Option Nat) (x i:qo):qu base call p d (.ixS x i) s = qgA d s (qh6 (ev s.t x) (ev s.t i)):=by
 rw [qbh _ _ rfl (by simp) (by simp) (by simp)]
 simp only [pureV]
 cases ev s.t x <;> cases ev s.t i <;> rfl
theorem qlf {l:List UInt8} {k:IntKind} {n:Nat} {b:UInt8} (h:l[n]? = some b):qh6 (.str l) (.int k n) = some (.int .u8 b.toNat):=by
 simp only [qh6,Int.toNat_natCast,h,jL]
 rw [if_pos (Int.natCast_nonneg n)]
def qtW (i:Nat) (v:qa):Option qa:=
 match v with
 | .tup vs=>(vs[i]?).map qa.dim
 | _=>none
theorem qwg (d:Option Nat) (x:qo) (i:Nat):qu base call p d (.ext x i) s = qgA d s (qtW i (ev s.t x)):=by
 rw [qbh _ _ rfl (by simp) (by simp) (by simp)]
 simp only [pureV]
 cases ev s.t x <;> rfl
theorem qtX (i:Nat) (vs:List qa):qtW i (.tup vs) = (vs[i]?).map qa.dim:=rfl
def qjM (neg:Bool) (x y:qa):Option qa:=
 match x,y with
 | .bool a,.bool b=>some (.bool ((a == b) != neg))
 | _,_=>none
theorem qwe (d:Option Nat) (neg:Bool) (x y:qo):qu base call p d (.eqb neg x y) s = qgA d s (qjM neg (ev s.t x) (ev s.t y)):=by
 rw [qbh _ _ rfl (by simp) (by simp) (by simp)]
 simp only [pureV]
 cases ev s.t x <;> cases ev s.t y <;> rfl
theorem qpj (neg a b:Bool):qjM neg (.bool a) (.bool b) = some (.bool ((a == b) != neg)):=rfl
def qg8 (k:Nat) (neg:Bool) (x y:qa):Option qa:=(qz0 k x y).map λb=>.bool (b != neg)
theorem qwf (d:Option Nat) (k:Nat) (neg:Bool) (x y:qo):qu base call p d (.eqi k neg x y) s = qgA d s (qg8 k neg (ev s.t x) (ev s.t y)):=qbh _ _ rfl (by simp) (by simp) (by simp)
def qta (k:IntKind) (v:qa):Option qa:=
 match v with
 | .int _ n=>some (.int k (k.wrap n))
 | _=>none
theorem qwd (d:Option Nat) (k:IntKind) (x:qo):qu base call p d (.cvi k x) s = qgA d s (qta k (ev s.t x)):=by
 rw [qbh _ _ rfl (by simp) (by simp) (by simp)]
 simp only [pureV]
 cases ev s.t x <;> rfl
theorem qtb (k j:IntKind) (n:Int):qta k (.int j n) = some (.int k (k.wrap n)):=rfl
def mmV (isMax:Bool) (x y:qa):Option qa:=
 match x,y with
 | .int k a,.int _ b=>some (.int k (if isMax then (if b > a then b else a) else (if b < a then b else a)))
 | _,_=>none
theorem qBK (d:Option Nat) (m:Bool) (x y:qo):qu base call p d (.mm m x y) s = qgA d s (mmV m (ev s.t x) (ev s.t y)):=by
 rw [qbh _ _ rfl (by simp) (by simp) (by simp)]
 simp only [pureV]
 cases ev s.t x <;> cases ev s.t y <;> rfl
theorem qq8 (k j:IntKind) (a b:Int):mmV true (.int k a) (.int j b) = some (.int k (if b > a then b else a)):=rfl
theorem qBo (k j:IntKind) (a b:Nat):mmV true (.int k (a:Int)) (.int j (b:Int)) = some (.int k ((max a b:Nat):Int)):=by
 simp only [mmV,if_true]
 congr 2
 split <;> omega
theorem qyu (k j:IntKind) (a b:Int):mmV false (.int k a) (.int j b) = some (.int k (if b < a then b else a)):=rfl
def qFL (s:St) (v:qa):Option (Ex×St):=
 match v with
 | .iface u v=>some (.pan (.iface u v),s)
 | _=>none
theorem qBN (d:Option Nat) (x:qo):qu base call p d (.pan x) s = qFL s (ev s.t x):=by
 simp only [qu]
 cases ev s.t x <;> rfl
theorem qng (s:St) (u:TypeId) (v:qa):qFL s (.iface u v) = some (.pan (.iface u v),s):=rfl
end
section
variable {base:Nat} {call:Call} {p:qcn} {s:St}
def qiH (len:Nat) (k:Option Nat) (a i:qa):Option qa:=
 match a,i with
 | .agg cs,.int _ n=>if 0 <= n/\n < (len:Int) then cut cs (n.toNat * k.getD 1) k else none
 | _,_=>none
theorem qwi (d:Option Nat) (len:Nat) (k:Option Nat) (a i:qo):qu base call p d (.ixA len k a i) s = qgA d s (qiH len k (ev s.t a) (ev s.t i)):=by
 rw [qbh _ _ rfl (by simp) (by simp) (by simp)]
 simp only [pureV]
 cases ev s.t a <;> cases ev s.t i <;> rfl
theorem quw {len n:Nat} {j:IntKind} {cs:List qa} {v:qa} (hn:n < len) (hv:cs[n]? = some v):qiH len none (.agg cs) (.int j n) = some v.dim:=by
 simp only [qiH]
 rw [if_pos ⟨zo,zo⟩]
 simp only [Int.toNat_natCast,Option.getD_none,Nat.mul_one,qk5,hv,jL]
end
section
variable {base:Nat} {call:Call} {p q:qcn} {s:St} {t:List qa} {h:List qb}
def AOp.isApp:AOp->Bool
 | .app ..=>true
 | _=>false
def qko:List qX->Bool
 | []=>true
 | o :: os=>!o.op.isApp && qko os
def qbW (s:St):AOp->Option qa
 | .mov x=>some (ev s.t x)
 | .pick c a b=>qb6 (ev s.t c) (ev s.t a) (ev s.t b)
 | .ld k a=>qch s.h (ev s.t a) k
 | .bin op x y=>qbG op (ev s.t x) (ev s.t y)
 | .un op x=>unV op (ev s.t x)
 | .fa off a=>faV off (ev s.t a)
 | .nilc x=>qg3 (ev s.t x)
 | .len b x=>qbB b (ev s.t x)
 | .ixaL k x i=>qar k (ev s.t x) (ev s.t i)
 | .fld off k x=>qt0 off k (ev s.t x)
 | .ixS x i=>qh6 (ev s.t x) (ev s.t i)
 | .ixA l k a i=>qiH l k (ev s.t a) (ev s.t i)
 | .ext x i=>qtW i (ev s.t x)
 | .eqb n x y=>qjM n (ev s.t x) (ev s.t y)
 | .eqi k n x y=>qg8 k n (ev s.t x) (ev s.t y)
 | .cvi k x=>qta k (ev s.t x)
 | .mm m x y=>mmV m (ev s.t x) (ev s.t y)
 | .mkI t x=>qsM t (ev s.t x)
 | .lk sh z ok m key=>qlk s.h sh z ok (ev s.t m) (ev s.t key)
 | o=>pureV s.t o
def AOp.plain:AOp->Bool
 | .asg .. | .new .. | .box .. | .st .. | .call .. | .app .. | .pan .. | .hx ..=>false
 | _=>true
theorem qkE {d:Option Nat} {o:AOp} (ho:o.plain = true):qu base call p d o s = qgA d s (qbW s o):=by
 cases o <;> simp only [AOp.plain,jl] at ho
 case mov=>rfl
 case pick=>exact qrh _ _ _ _
 case ld=>exact qBI _ _ _
 case bin=>exact qwc _ _ _ _
 case un=>exact qBP _ _ _
 case fa=>exact qBH _ _ _
 case nilc=>exact qrg _ _
 case len=>exact qwk _ _ _
 case ixaL=>exact qrf _ _ _ _
 case fld=>exact qwh _ _ _ _
 case ixS=>exact qwj _ _ _
 case ixA=>exact qwi _ _ _ _ _
 case ext=>exact qwg _ _ _
 case eqb=>exact qwe _ _ _ _
 case eqi=>exact qwf _ _ _ _ _
 case cvi=>exact qwd _ _ _
 case mm=>exact qBK _ _ _ _
 case mkI=>exact qwl _ _ _
 case lk sh z ok m key=>simp only [qu,qbW];generalize qlk s.h sh z ok (ev s.t m) (ev s.t key) = r;cases r <;> rfl
 all_goals (simp only [qu,qbW];generalize pureV s.t _ = r;cases r <;> rfl)
theorem qhm {d:Option Nat} {o:AOp} (ho:o.isApp = false):qu base call p d o s = qu base call q d o s:=by
 cases o <;> first | rfl | (simp [AOp.isApp] at ho)
def gv (q:Bool) (v:qa):qa:=bif q then v else .tup []
def qi (q:Bool) (d:Option Nat) (s:St) (r:Option qa) (k:St->Option (Ex×St)):Option (Ex×St):=
 bif q then (match r with | some v=>k { s with t:=put d v s.t} | none=>none) else k { s with t:=put d (.tup []) s.t}
def qaw (c:Bool) (r:Option qa):Option qa:=bif c then r else some (.tup [])
def qgn (g:qa) (b:Bool) (d:Option Nat) (s:St) (r:Option qa) (k:St->Option (Ex×St)):Option (Ex×St):=
 match g with
 | .bool c=>qi (c == b) d s r k
 | .tup []=>qi false d s r k
 | _=>none
def qgm (g:qa) (b:Bool) (d:Option Nat) (s:St) (r:Option (Ex×St)) (k:St->Option (Ex×St)):Option (Ex×St):=
 match g with
 | .bool c=>bif c == b then qcV k r else k { s with t:=put d (.tup []) s.t}
 | .tup []=>k { s with t:=put d (.tup []) s.t}
 | _=>none
def qjb (base:Nat) (call:Call):List qX->St->Option (Ex×St)
 | [],s=>some (.nor,s)
 | o :: os,s=>
  match o.guard with
  | none=>qcV (qjb base call os) (qu base call [] o.dst o.op s)
  | some (j,b)=>
   match o.op.plain with
   | true=>qgn (lkp s.t j) b o.dst s (qbW s o.op) (qjb base call os)
   | false=>qgm (lkp s.t j) b o.dst s (qu base call [] o.dst o.op s) (qjb base call os)
theorem qlx:∀(os:List qX) (p:qcn) (s:St),qko os = true->qaF base call p os s = qjb base call os s
 | [],p,s,_=>rfl
 | o :: os,p,s,hn=>by
  simp only [qko,jk,Bool.not_eq_true'] at hn
  obtain ⟨d,op,g⟩:=o
  have ih:=λp s=>qlx os p s hn.2
  cases g with
  | none=>
   simp only [qlr,qjb]
   rw [qhm (q:=[]) hn.1]
   congr 1
   funext s
   exact ih _ s
  | some jb=>
   obtain ⟨j,b⟩:=jb
   simp only [qi1,qjb]
   have e1:(qaF base call (qaB p ⟨d,op,some (j,b)⟩) os) = qjb base call os:=funext λs=>ih _ s
   rw [e1,ih,qhm (q:=[]) hn.1]
   cases B:op.plain with
   | true=>
    simp only
    rw [qkE B]
    generalize qbW s op = r
    generalize lkp s.t j = g
    cases g with
    | bool c=>
     simp only [qle,qgn,qi]
     cases c == b with
     | true=>cases r <;> rfl
     | false=>rfl
    | tup vs=>cases vs <;> rfl
    | _=>rfl
   | false=>
    simp only
    generalize lkp s.t j = g
    cases g with
    | bool c=>
     simp only [qle,qgm]
     cases c == b <;> rfl
    | tup vs=>cases vs <;> rfl
    | _=>rfl
theorem qEK {ops:List qX} (hn:qko ops = true):qj base call (.reg ops) s = qjb base call ops s:=by
 rw [qiu,qlx ops [] s hn]
theorem qzj {ops:List qX} (B:qko ops = false):qj base call (.reg ops) s = qaF base call [] ops s:=qiu ops s
theorem qEH:qjb base call [] s = some (.nor,s):=rfl
theorem qBU (d:Option Nat) (o:AOp) (os:List qX):qjb base call (⟨d,o,none⟩ :: os) s = qcV (qjb base call os) (qu base call [] d o s):=rfl
theorem qzh (d:Option Nat) (o:AOp) (j:Nat) (b:Bool) (os:List qX) (ho:o.plain = true):qjb base call (⟨d,o,some (j,b)⟩ :: os) s = qgn (lkp s.t j) b d s (qbW s o) (qjb base call os):=by
 simp only [qjb,ho]
theorem qzg (d:Option Nat) (o:AOp) (j:Nat) (b:Bool) (os:List qX) (ho:o.plain = false):qjb base call (⟨d,o,some (j,b)⟩ :: os) s = qgm (lkp s.t j) b d s (qu base call [] d o s) (qjb base call os):=by
 simp only [qjb,ho]
theorem qpR (q c b:Bool) (d:Option Nat) (s:St) (r:Option qa) (k:St->Option (Ex×St)):qgn (gv q (.bool c)) b d s r k = qi q d s (qaw (c == b) r) k:=by
 cases q <;> cases c <;> cases b <;> rfl
theorem qmx (q x c b:Bool) (d:Option Nat) (s:St) (r:Option qa) (k:St->Option (Ex×St)):qgn (gv q (gv x (.bool c))) b d s r k = qi q d s (qaw x (qaw (c == b) r)) k:=by
 cases q <;> cases x <;> cases c <;> cases b <;> rfl
theorem qjY (d:Option Nat) (t:List qa) (h:List qb) (e:Bool) (v:qa) (k:St->Option (Ex×St)):qi true d ⟨t,h,e⟩ (some v) k = k ⟨put d v t,h,e⟩:=rfl
theorem qjX (q:Bool) (d:Nat) (t:List qa) (h:List qb) (e:Bool) (v:qa) (k:St->Option (Ex×St)):qi q (some d) ⟨t,h,e⟩ (some v) k = k ⟨up t d (gv q v),h,e⟩:=by
 cases q <;> rfl
theorem qpE (c:Bool) (v:qa):qaw c (some v) = some (gv c v):=by cases c <;> rfl
theorem qmv (b:Bool) (d:Option Nat) (s:St) (r:Option (Ex×St)) (k:St->Option (Ex×St)):qgm (.bool b) b d s r k = qcV k r:=by cases b <;> rfl
theorem qDv (q:Bool) (v:qa):gv q (gv q v) = gv q v:=by cases q <;> rfl
theorem qAx (q:Bool) (v:qa):(gv q v).dim = gv q v.dim:=by cases q <;> rfl
theorem quZ (c x:Bool):qb6 (.bool c) (gv c (.bool x)) (.bool false) = some (.bool (c && x)):=by cases c <;> rfl
theorem qzc (c x:Bool):qb6 (.bool c) (.bool true) (gv (!c) (.bool x)) = some (.bool (c || x)):=by cases c <;> rfl
theorem qyb (b:Bool):(b == true) = b:=by cases b <;> rfl
theorem quu (b:Bool):(b == false) = !b:=by cases b <;> rfl
end
section
variable {s:St} {d:Option Nat} {k:St->Option (Ex×St)}
theorem qx6 (q:Bool) (v:qa) :qi q d s (some (gv q v)) k = qi q d s (some v) k:=by cases q <;> rfl
theorem qwN (c:Bool) (v:qa) :qaw c (some (gv c v)) = qaw c (some v):=by cases c <;> rfl
theorem qp4 (q c:Bool) (v:qa) :qi q d s (qaw c (some (gv q v))) k = qi q d s (qaw c (some v)) k:=by cases q <;> rfl
theorem qDy (q:Bool) (v:qa) (h':List qb) (kk:Option Nat):qi q d s (qch h' (gv q v) kk) k = qi q d s (qch h' v kk) k:=by cases q <;> rfl
theorem qCF (c:Bool) (v:qa) (h':List qb) (kk:Option Nat):qaw c (qch h' (gv c v) kk) = qaw c (qch h' v kk):=by cases c <;> rfl
theorem qx8 (q c:Bool) (v:qa) (h':List qb) (kk:Option Nat):qi q d s (qaw c (qch h' (gv q v) kk)) k = qi q d s (qaw c (qch h' v kk)) k:=by cases q <;> rfl
theorem qDx (q:Bool) (v:qa) (o:Nat):qi q d s (faV o (gv q v)) k = qi q d s (faV o v) k:=by cases q <;> rfl
theorem qCE (c:Bool) (v:qa) (o:Nat):qaw c (faV o (gv c v)) = qaw c (faV o v):=by cases c <;> rfl
theorem qx7 (q c:Bool) (v:qa) (o:Nat):qi q d s (qaw c (faV o (gv q v))) k = qi q d s (qaw c (faV o v)) k:=by cases q <;> rfl
theorem qA2 (q:Bool) (v:qa) (b:Bool):qi q d s (qbB b (gv q v)) k = qi q d s (qbB b v) k:=by cases q <;> rfl
theorem qAi (c:Bool) (v:qa) (b:Bool):qaw c (qbB b (gv c v)) = qaw c (qbB b v):=by cases c <;> rfl
theorem qui (q c:Bool) (v:qa) (b:Bool):qi q d s (qaw c (qbB b (gv q v))) k = qi q d s (qaw c (qbB b v)) k:=by cases q <;> rfl
theorem qAY (q:Bool) (v:qa) (o:Nat) (kk:Option Nat):qi q d s (qt0 o kk (gv q v)) k = qi q d s (qt0 o kk v) k:=by cases q <;> rfl
theorem qAe (c:Bool) (v:qa) (o:Nat) (kk:Option Nat):qaw c (qt0 o kk (gv c v)) = qaw c (qt0 o kk v):=by cases c <;> rfl
theorem que (q c:Bool) (v:qa) (o:Nat) (kk:Option Nat):qi q d s (qaw c (qt0 o kk (gv q v))) k = qi q d s (qaw c (qt0 o kk v)) k:=by cases q <;> rfl
theorem qDA (q:Bool) (v:qa) (op:UnOp):qi q d s (unV op (gv q v)) k = qi q d s (unV op v) k:=by cases q <;> rfl
theorem qCH (c:Bool) (v:qa) (op:UnOp):qaw c (unV op (gv c v)) = qaw c (unV op v):=by cases c <;> rfl
theorem qya (q c:Bool) (v:qa) (op:UnOp):qi q d s (qaw c (unV op (gv q v))) k = qi q d s (qaw c (unV op v)) k:=by cases q <;> rfl
theorem qx4 (q:Bool) (v:qa) :qi q d s (qg3 (gv q v)) k = qi q d s (qg3 v) k:=by cases q <;> rfl
theorem qwL (c:Bool) (v:qa) :qaw c (qg3 (gv c v)) = qaw c (qg3 v):=by cases c <;> rfl
theorem qp2 (q c:Bool) (v:qa) :qi q d s (qaw c (qg3 (gv q v))) k = qi q d s (qaw c (qg3 v)) k:=by cases q <;> rfl
theorem qAX (q:Bool) (v:qa) (o:Nat):qi q d s (qtW o (gv q v)) k = qi q d s (qtW o v) k:=by cases q <;> rfl
theorem qAd (c:Bool) (v:qa) (o:Nat):qaw c (qtW o (gv c v)) = qaw c (qtW o v):=by cases c <;> rfl
theorem qud (q c:Bool) (v:qa) (o:Nat):qi q d s (qaw c (qtW o (gv q v))) k = qi q d s (qaw c (qtW o v)) k:=by cases q <;> rfl
theorem qAU (q:Bool) (v:qa) (ik:IntKind):qi q d s (qta ik (gv q v)) k = qi q d s (qta ik v) k:=by cases q <;> rfl
theorem qAa (c:Bool) (v:qa) (ik:IntKind):qaw c (qta ik (gv c v)) = qaw c (qta ik v):=by cases c <;> rfl
theorem qua (q c:Bool) (v:qa) (ik:IntKind):qi q d s (qaw c (qta ik (gv q v))) k = qi q d s (qaw c (qta ik v)) k:=by cases q <;> rfl
theorem qA3 (q:Bool) (v:qa) (ty:TypeId):qi q d s (qsM ty (gv q v)) k = qi q d s (qsM ty v) k:=by cases q <;> rfl
theorem qAj (c:Bool) (v:qa) (ty:TypeId):qaw c (qsM ty (gv c v)) = qaw c (qsM ty v):=by cases c <;> rfl
theorem quj (q c:Bool) (v:qa) (ty:TypeId):qi q d s (qaw c (qsM ty (gv q v))) k = qi q d s (qaw c (qsM ty v)) k:=by cases q <;> rfl
theorem qA0 (q:Bool) (v:qa) (w:qa):qi q d s (qh6 (gv q v) w) k = qi q d s (qh6 v w) k:=by cases q <;> rfl
theorem qAg (c:Bool) (v:qa) (w:qa):qaw c (qh6 (gv c v) w) = qaw c (qh6 v w):=by cases c <;> rfl
theorem qug (q c:Bool) (v:qa) (w:qa):qi q d s (qaw c (qh6 (gv q v) w)) k = qi q d s (qaw c (qh6 v w)) k:=by cases q <;> rfl
theorem qx2 (q:Bool) (v:qa) (w:qa):qi q d s (qh6 w (gv q v)) k = qi q d s (qh6 w v) k:=by cases q <;> rfl
theorem qwJ (c:Bool) (v:qa) (w:qa):qaw c (qh6 w (gv c v)) = qaw c (qh6 w v):=by cases c <;> rfl
theorem qp0 (q c:Bool) (v:qa) (w:qa):qi q d s (qaw c (qh6 w (gv q v))) k = qi q d s (qaw c (qh6 w v)) k:=by cases q <;> rfl
theorem qA1 (q:Bool) (v:qa) (o:Nat) (w:qa):qi q d s (qar o (gv q v) w) k = qi q d s (qar o v w) k:=by cases q <;> rfl
theorem qAh (c:Bool) (v:qa) (o:Nat) (w:qa):qaw c (qar o (gv c v) w) = qaw c (qar o v w):=by cases c <;> rfl
theorem quh (q c:Bool) (v:qa) (o:Nat) (w:qa):qi q d s (qaw c (qar o (gv q v) w)) k = qi q d s (qaw c (qar o v w)) k:=by cases q <;> rfl
theorem qx3 (q:Bool) (v:qa) (o:Nat) (w:qa):qi q d s (qar o w (gv q v)) k = qi q d s (qar o w v) k:=by cases q <;> rfl
theorem qwK (c:Bool) (v:qa) (o:Nat) (w:qa):qaw c (qar o w (gv c v)) = qaw c (qar o w v):=by cases c <;> rfl
theorem qp1 (q c:Bool) (v:qa) (o:Nat) (w:qa):qi q d s (qaw c (qar o w (gv q v))) k = qi q d s (qaw c (qar o w v)) k:=by cases q <;> rfl
theorem qAZ (q:Bool) (v:qa) (o:Nat) (kk:Option Nat) (w:qa):qi q d s (qiH o kk (gv q v) w) k = qi q d s (qiH o kk v w) k:=by cases q <;> rfl
theorem qAf (c:Bool) (v:qa) (o:Nat) (kk:Option Nat) (w:qa):qaw c (qiH o kk (gv c v) w) = qaw c (qiH o kk v w):=by cases c <;> rfl
theorem quf (q c:Bool) (v:qa) (o:Nat) (kk:Option Nat) (w:qa):qi q d s (qaw c (qiH o kk (gv q v) w)) k = qi q d s (qaw c (qiH o kk v w)) k:=by cases q <;> rfl
theorem qx1 (q:Bool) (v:qa) (o:Nat) (kk:Option Nat) (w:qa):qi q d s (qiH o kk w (gv q v)) k = qi q d s (qiH o kk w v) k:=by cases q <;> rfl
theorem qwI (c:Bool) (v:qa) (o:Nat) (kk:Option Nat) (w:qa):qaw c (qiH o kk w (gv c v)) = qaw c (qiH o kk w v):=by cases c <;> rfl
theorem qpZ (q c:Bool) (v:qa) (o:Nat) (kk:Option Nat) (w:qa):qi q d s (qaw c (qiH o kk w (gv q v))) k = qi q d s (qaw c (qiH o kk w v)) k:=by cases q <;> rfl
theorem qAT (q:Bool) (v:qa) (op:BinOp) (w:qa):qi q d s (qbG op (gv q v) w) k = qi q d s (qbG op v w) k:=by cases q <;> rfl
theorem qz9 (c:Bool) (v:qa) (op:BinOp) (w:qa):qaw c (qbG op (gv c v) w) = qaw c (qbG op v w):=by cases c <;> rfl
theorem qt9 (q c:Bool) (v:qa) (op:BinOp) (w:qa):qi q d s (qaw c (qbG op (gv q v) w)) k = qi q d s (qaw c (qbG op v w)) k:=by cases q <;> rfl
theorem qxY (q:Bool) (v:qa) (op:BinOp) (w:qa):qi q d s (qbG op w (gv q v)) k = qi q d s (qbG op w v) k:=by cases q <;> rfl
theorem qwF (c:Bool) (v:qa) (op:BinOp) (w:qa):qaw c (qbG op w (gv c v)) = qaw c (qbG op w v):=by cases c <;> rfl
theorem qpW (q c:Bool) (v:qa) (op:BinOp) (w:qa):qi q d s (qaw c (qbG op w (gv q v))) k = qi q d s (qaw c (qbG op w v)) k:=by cases q <;> rfl
theorem qAV (q:Bool) (v:qa) (b:Bool) (w:qa):qi q d s (qjM b (gv q v) w) k = qi q d s (qjM b v w) k:=by cases q <;> rfl
theorem qAb (c:Bool) (v:qa) (b:Bool) (w:qa):qaw c (qjM b (gv c v) w) = qaw c (qjM b v w):=by cases c <;> rfl
theorem qub (q c:Bool) (v:qa) (b:Bool) (w:qa):qi q d s (qaw c (qjM b (gv q v) w)) k = qi q d s (qaw c (qjM b v w)) k:=by cases q <;> rfl
theorem qxZ (q:Bool) (v:qa) (b:Bool) (w:qa):qi q d s (qjM b w (gv q v)) k = qi q d s (qjM b w v) k:=by cases q <;> rfl
theorem qwG (c:Bool) (v:qa) (b:Bool) (w:qa):qaw c (qjM b w (gv c v)) = qaw c (qjM b w v):=by cases c <;> rfl
theorem qpX (q c:Bool) (v:qa) (b:Bool) (w:qa):qi q d s (qaw c (qjM b w (gv q v))) k = qi q d s (qaw c (qjM b w v)) k:=by cases q <;> rfl
theorem qAW (q:Bool) (v:qa) (o:Nat) (b:Bool) (w:qa):qi q d s (qg8 o b (gv q v) w) k = qi q d s (qg8 o b v w) k:=by cases q <;> rfl
theorem qAc (c:Bool) (v:qa) (o:Nat) (b:Bool) (w:qa):qaw c (qg8 o b (gv c v) w) = qaw c (qg8 o b v w):=by cases c <;> rfl
theorem quc (q c:Bool) (v:qa) (o:Nat) (b:Bool) (w:qa):qi q d s (qaw c (qg8 o b (gv q v) w)) k = qi q d s (qaw c (qg8 o b v w)) k:=by cases q <;> rfl
theorem qx0 (q:Bool) (v:qa) (o:Nat) (b:Bool) (w:qa):qi q d s (qg8 o b w (gv q v)) k = qi q d s (qg8 o b w v) k:=by cases q <;> rfl
theorem qwH (c:Bool) (v:qa) (o:Nat) (b:Bool) (w:qa):qaw c (qg8 o b w (gv c v)) = qaw c (qg8 o b w v):=by cases c <;> rfl
theorem qpY (q c:Bool) (v:qa) (o:Nat) (b:Bool) (w:qa):qi q d s (qaw c (qg8 o b w (gv q v))) k = qi q d s (qaw c (qg8 o b w v)) k:=by cases q <;> rfl
theorem qDz (q:Bool) (v:qa) (b:Bool) (w:qa):qi q d s (mmV b (gv q v) w) k = qi q d s (mmV b v w) k:=by cases q <;> rfl
theorem qCG (c:Bool) (v:qa) (b:Bool) (w:qa):qaw c (mmV b (gv c v) w) = qaw c (mmV b v w):=by cases c <;> rfl
theorem qx9 (q c:Bool) (v:qa) (b:Bool) (w:qa):qi q d s (qaw c (mmV b (gv q v) w)) k = qi q d s (qaw c (mmV b v w)) k:=by cases q <;> rfl
theorem qA4 (q:Bool) (v:qa) (b:Bool) (w:qa):qi q d s (mmV b w (gv q v)) k = qi q d s (mmV b w v) k:=by cases q <;> rfl
theorem qAk (c:Bool) (v:qa) (b:Bool) (w:qa):qaw c (mmV b w (gv c v)) = qaw c (mmV b w v):=by cases c <;> rfl
theorem quk (q c:Bool) (v:qa) (b:Bool) (w:qa):qi q d s (qaw c (mmV b w (gv q v))) k = qi q d s (qaw c (mmV b w v)) k:=by cases q <;> rfl
theorem qx5 (q:Bool) (v:qa) (w z:qa):qi q d s (qb6 (gv q v) w z) k = qi q d s (qb6 v w z) k:=by cases q <;> rfl
theorem qwM (c:Bool) (v:qa) (w z:qa):qaw c (qb6 (gv c v) w z) = qaw c (qb6 v w z):=by cases c <;> rfl
theorem qp3 (q c:Bool) (v:qa) (w z:qa):qi q d s (qaw c (qb6 (gv q v) w z)) k = qi q d s (qaw c (qb6 v w z)) k:=by cases q <;> rfl
theorem qt7 (q:Bool) (v:qa) (w z:qa):qi q d s (qb6 w (gv q v) z) k = qi q d s (qb6 w v z) k:=by cases q <;> rfl
theorem qsW (c:Bool) (v:qa) (w z:qa):qaw c (qb6 w (gv c v) z) = qaw c (qb6 w v z):=by cases c <;> rfl
theorem qmy (q c:Bool) (v:qa) (w z:qa):qi q d s (qaw c (qb6 w (gv q v) z)) k = qi q d s (qaw c (qb6 w v z)) k:=by cases q <;> rfl
theorem qt8 (q:Bool) (v:qa) (w z:qa):qi q d s (qb6 w z (gv q v)) k = qi q d s (qb6 w z v) k:=by cases q <;> rfl
theorem qsX (c:Bool) (v:qa) (w z:qa):qaw c (qb6 w z (gv c v)) = qaw c (qb6 w z v):=by cases c <;> rfl
theorem qmz (q c:Bool) (v:qa) (w z:qa):qi q d s (qaw c (qb6 w z (gv q v))) k = qi q d s (qaw c (qb6 w z v)) k:=by cases q <;> rfl
end
section
variable {base:Nat} {call:Call} {s:St}
def qBn (dsts:List Nat):Option (Ex×St)->Option (Ex×St)
 | some (.pan v,s)=>some (.pan v,{ s with t:=qca dsts s.t})
 | r=>r
theorem qEx {base:Nat} {call:Call} {p:qcn} {d:Option Nat} {o:AOp} {s s':St} {x:Ex} (ho:o.effs = false) (h:qu base call p d o s = some (x,s')):x = .nor:=by
 cases o <;> simp only [AOp.effs,Bool.true_eq_false] at ho
 case new=>simp only [qu,jj,Prod.mk.injEq] at h;exact h.1.symm
 case box=>
  simp only [qu] at h
  split at h
  ·cases h;rfl
  ·cases h
 case ld=>
  simp only [qu] at h
  cases hl:qch s.h (ev s.t _) _ with
  | none=>rw [hl] at h;cases h
  | some v=>rw [hl] at h;cases h;rfl
 case lk sh z ok m key=>
  simp only [qu] at h
  cases hl:qlk s.h sh z ok (ev s.t m) (ev s.t key) with
  | none=>rw [hl] at h;cases h
  | some v=>rw [hl] at h;cases h;rfl
 all_goals
  simp only [qu] at h
  revert h
  generalize pureV s.t _ = r
  intro h
  cases r <;> cases h
  rfl
theorem qq4 (dsts:List Nat) (s:St):qBn dsts (some (.nor,s)) = some (.nor,s):=rfl
theorem qq5 (dsts:List Nat) (v:qa) (t:List qa) (h:List qb) (e:Bool):qBn dsts (some (.pan v,⟨t,h,e⟩)) = some (.pan v,⟨qca dsts t,h,e⟩):=rfl
theorem qx {b:qE} (I:Nat->St->Prop) (Q:Ex->St->Prop)
  (step:∀k s,I k s->(∃s' k',qj base call b s = some (.nor,s')/\k' < k/\I k' s')\/∃x s',qj base call b s = some (x,s')/\x ≠ .nor/\Q x s') :
  ∀k s,I k s->∃x s',qj base call (.loop b) s = some (x,s')/\Q x s':=by
 intro k
 induction k using Nat.strongRecOn with
 | ind k ih=>
  intro s hs
  rw [qaq]
  rcases step k s hs with ⟨s',k',h1,h2,h3⟩ | ⟨x,s',h1,h2,h3⟩
  ·rw [h1]
   exact ih k' h2 s' h3
  ·rw [h1]
   refine ⟨x,s',?_,h3⟩
   cases x with
   | nor=>exact absurd rfl h2
   | _=>rfl
end
section
variable {s:St} {t:List qa} {h:List qb}
def qz (v:qa) (i:Nat) (t:List qa):List qa:=
 match v with
 | .lst xs (.own _)=>t.set i (.lst xs .no)
 | _=>t
theorem qo5 (t:List qa) (i:Nat):qaz t (.t i) = qz (lkp t i) i t:=rfl
theorem qo4 (t:List qa) (v:qa):qaz t (.c v) = t:=rfl
theorem ql1 (b:Bool) (i:Nat) (t:List qa):qz (.bool b) i t = t:=rfl
theorem qoZ (k:IntKind) (n:Int) (i:Nat) (t:List qa):qz (.int k n) i t = t:=rfl
theorem qo2 (b:List UInt8) (i:Nat) (t:List qa):qz (.str b) i t = t:=rfl
theorem qir (i:Nat) (t:List qa):qz .nilptr i t = t:=rfl
theorem qo1 (a o:Nat) (i:Nat) (t:List qa):qz (.ptr a o) i t = t:=rfl
theorem ql3 (cs:List qa) (o:Nat) (i:Nat) (t:List qa):qz (.iptr cs o) i t = t:=rfl
theorem qoY (cs:List qa) (i:Nat) (t:List qa):qz (.agg cs) i t = t:=rfl
theorem qo3 (cs:List qa) (i:Nat) (t:List qa):qz (.tup cs) i t = t:=rfl
theorem qtj (f:FuncId) (a b:List qa) (i:Nat) (t:List qa):qz (.fn f a b) i t = t:=rfl
theorem qtk (xs:List qa) (i:Nat) (t:List qa):qz (.lst xs .no) i t = t:=rfl
theorem ql2 (xs:List qa) (i:Nat) (t:List qa):qz (.lst xs .full) i t = t:=rfl
theorem qo0 (xs:List qa) (k i:Nat) (t:List qa):qz (.lst xs (.own k)) i t = up t i (.lst xs .no):=rfl
theorem qjH (ty:TypeId) (v:qa) (i:Nat) (t:List qa):qz (.iface ty v) i t = t:=rfl
theorem qad (v:qa) (i:Nat) (t:List qa):qz v.dim i t = t:=by
 cases v with
 | lst xs f=>cases f <;> rfl
 | _=>rfl
def qxg (v:Option qa) (vs:Option (List qa)):Option (List qa):=
 match v,vs with
 | some v,some vs=>some (v :: vs)
 | _,_=>none
theorem qzm:qao s [] = some []:=rfl
theorem qzn (i:Nat) (rs:List qkS):qao s (.tmp i :: rs) = qxg (some (lkp s.t i).dim) (qao s rs):=by
 simp only [qao,lkp]
 cases qao s rs <;> rfl
theorem qvf (a:Nat) (k:Option Nat) (rs:List qkS):qao s (.cell a k :: rs) = qxg (qch s.h (lkp s.t a) k) (qao s rs):=by
 simp only [qao,lkp]
 cases qch s.h (s.t.getD a .undef) k <;> cases qao s rs <;> rfl
theorem qlY (v:qa) (vs:List qa):qxg (some v) (some vs) = some (v :: vs):=rfl
theorem qnd (v:qa):qbE [v] = v:=rfl
theorem qnc:qbE [] = .tup []:=rfl
theorem qne (a b:qa) (vs:List qa):qbE (a :: b :: vs) = .tup (a :: b :: vs):=rfl
def qzV (h:List qb) (s:St):Option (List qa)->Option (qb7×List qb×Bool)
 | some vs=>some (qaE h.length (.ret (qbE vs)) s.h s.e)
 | none=>none
theorem qph (h:List qb) (s:St) (vs:List qa):qzV h s (some vs) = some (qaE h.length (.ret (qbE vs)) s.h s.e):=rfl
theorem qxG (fn:qv) (h:List qb) (s:St):qjJ fn h (some (.nor,s)) = qzV h s (qao s fn.results):=by
 simp only [qjJ];cases qao s fn.results <;> rfl
theorem qxH (fn:qv) (h:List qb) (s:St):qjJ fn h (some (.ret,s)) = qzV h s (qao s fn.results):=by
 simp only [qjJ];cases qao s fn.results <;> rfl
end
section
theorem qrE (x:qo):(AOp.mov x).plain = true:=Eq.trans rfl rfl
theorem qtJ (x:qo):(AOp.mov x).effs = false:=Eq.trans rfl rfl
theorem qqn (x:qo):(AOp.mov x).isApp = false:=Eq.trans rfl rfl
theorem qno (c a b:qo):(AOp.pick c a b).plain = true:=Eq.trans rfl rfl
theorem qpe (c a b:qo):(AOp.pick c a b).effs = false:=Eq.trans rfl rfl
theorem qmF (c a b:qo):(AOp.pick c a b).isApp = false:=Eq.trans rfl rfl
theorem qku (z:List qa) (ps:List (Nat×Nat×qo)):(AOp.build z ps).plain = true:=Eq.trans rfl rfl
theorem ql7 (z:List qa) (ps:List (Nat×Nat×qo)):(AOp.build z ps).effs = false:=Eq.trans rfl rfl
theorem qj0 (z:List qa) (ps:List (Nat×Nat×qo)):(AOp.build z ps).isApp = false:=Eq.trans rfl rfl
theorem qnm (k:Nat) (z:List qa) (l:Nat) (ps:List (Nat×qo)):(AOp.list k z l ps).plain = true:=Eq.trans rfl rfl
theorem qpc (k:Nat) (z:List qa) (l:Nat) (ps:List (Nat×qo)):(AOp.list k z l ps).effs = false:=Eq.trans rfl rfl
theorem qmD (k:Nat) (z:List qa) (l:Nat) (ps:List (Nat×qo)):(AOp.list k z l ps).isApp = false:=Eq.trans rfl rfl
theorem qu2 (k:Option Nat) (a:qo):(AOp.ld k a).plain = true:=Eq.trans rfl rfl
theorem qxB (k:Option Nat) (a:qo):(AOp.ld k a).effs = false:=Eq.trans rfl rfl
theorem quq (k:Option Nat) (a:qo):(AOp.ld k a).isApp = false:=Eq.trans rfl rfl
theorem qnn (x:qo):(AOp.nilc x).plain = true:=Eq.trans rfl rfl
theorem qpd (x:qo):(AOp.nilc x).effs = false:=Eq.trans rfl rfl
theorem qmE (x:qo):(AOp.nilc x).isApp = false:=Eq.trans rfl rfl
theorem qrp (op:BinOp) (x y:qo):(AOp.bin op x y).plain = true:=Eq.trans rfl rfl
theorem qtu (op:BinOp) (x y:qo):(AOp.bin op x y).effs = false:=Eq.trans rfl rfl
theorem qp8 (op:BinOp) (x y:qo):(AOp.bin op x y).isApp = false:=Eq.trans rfl rfl
theorem qrv (n:Bool) (x y:qo):(AOp.eqb n x y).plain = true:=Eq.trans rfl rfl
theorem qtA (n:Bool) (x y:qo):(AOp.eqb n x y).effs = false:=Eq.trans rfl rfl
theorem qqe (n:Bool) (x y:qo):(AOp.eqb n x y).isApp = false:=Eq.trans rfl rfl
theorem qrw (k:Nat) (n:Bool) (x y:qo):(AOp.eqi k n x y).plain = true:=Eq.trans rfl rfl
theorem qtB (k:Nat) (n:Bool) (x y:qo):(AOp.eqi k n x y).effs = false:=Eq.trans rfl rfl
theorem qqf (k:Nat) (n:Bool) (x y:qo):(AOp.eqi k n x y).isApp = false:=Eq.trans rfl rfl
theorem qru (n:Bool) (x y:qo):(AOp.eqa n x y).plain = true:=Eq.trans rfl rfl
theorem qtz (n:Bool) (x y:qo):(AOp.eqa n x y).effs = false:=Eq.trans rfl rfl
theorem qqd (n:Bool) (x y:qo):(AOp.eqa n x y).isApp = false:=Eq.trans rfl rfl
theorem qu6 (op:UnOp) (x:qo):(AOp.un op x).plain = true:=Eq.trans rfl rfl
theorem qxE (op:UnOp) (x:qo):(AOp.un op x).effs = false:=Eq.trans rfl rfl
theorem qut (op:UnOp) (x:qo):(AOp.un op x).isApp = false:=Eq.trans rfl rfl
theorem qrs (k:IntKind) (x:qo):(AOp.cvi k x).plain = true:=Eq.trans rfl rfl
theorem qtx (k:IntKind) (x:qo):(AOp.cvi k x).effs = false:=Eq.trans rfl rfl
theorem qqb (k:IntKind) (x:qo):(AOp.cvi k x).isApp = false:=Eq.trans rfl rfl
theorem qrt (x:qo):(AOp.cvs x).plain = true:=Eq.trans rfl rfl
theorem qty (x:qo):(AOp.cvs x).effs = false:=Eq.trans rfl rfl
theorem qqc (x:qo):(AOp.cvs x).isApp = false:=Eq.trans rfl rfl
theorem qrr (x:qo):(AOp.cvb x).plain = true:=Eq.trans rfl rfl
theorem qtw (x:qo):(AOp.cvb x).effs = false:=Eq.trans rfl rfl
theorem qqa (x:qo):(AOp.cvb x).isApp = false:=Eq.trans rfl rfl
theorem qrD (t:TypeId) (x:qo):(AOp.mkI t x).plain = true:=Eq.trans rfl rfl
theorem qtI (t:TypeId) (x:qo):(AOp.mkI t x).effs = false:=Eq.trans rfl rfl
theorem qqm (t:TypeId) (x:qo):(AOp.mkI t x).isApp = false:=Eq.trans rfl rfl
theorem qrC (f:FuncId) (a b:List qo):(AOp.mkF f a b).plain = true:=Eq.trans rfl rfl
theorem qtH (f:FuncId) (a b:List qo):(AOp.mkF f a b).effs = false:=Eq.trans rfl rfl
theorem qql (f:FuncId) (a b:List qo):(AOp.mkF f a b).isApp = false:=Eq.trans rfl rfl
theorem qnq (x:qo) (l h:Option qo):(AOp.subS x l h).plain = true:=Eq.trans rfl rfl
theorem qpg (x:qo) (l h:Option qo):(AOp.subS x l h).effs = false:=Eq.trans rfl rfl
theorem qmH (x:qo) (l h:Option qo):(AOp.subS x l h).isApp = false:=Eq.trans rfl rfl
theorem qnp (k:Nat) (x:qo) (l h:Option qo):(AOp.subL k x l h).plain = true:=Eq.trans rfl rfl
theorem qpf (k:Nat) (x:qo) (l h:Option qo):(AOp.subL k x l h).effs = false:=Eq.trans rfl rfl
theorem qmG (k:Nat) (x:qo) (l h:Option qo):(AOp.subL k x l h).isApp = false:=Eq.trans rfl rfl
theorem qu0 (o:Nat) (a:qo):(AOp.fa o a).plain = true:=Eq.trans rfl rfl
theorem qxz (o:Nat) (a:qo):(AOp.fa o a).effs = false:=Eq.trans rfl rfl
theorem qun (o:Nat) (a:qo):(AOp.fa o a).isApp = false:=Eq.trans rfl rfl
theorem qnl (k:Nat) (s i:qo):(AOp.ixaL k s i).plain = true:=Eq.trans rfl rfl
theorem qpb (k:Nat) (s i:qo):(AOp.ixaL k s i).effs = false:=Eq.trans rfl rfl
theorem qmC (k:Nat) (s i:qo):(AOp.ixaL k s i).isApp = false:=Eq.trans rfl rfl
theorem qnk (n k:Nat) (a i:qo):(AOp.ixaA n k a i).plain = true:=Eq.trans rfl rfl
theorem qpa (n k:Nat) (a i:qo):(AOp.ixaA n k a i).effs = false:=Eq.trans rfl rfl
theorem qmB (n k:Nat) (a i:qo):(AOp.ixaA n k a i).isApp = false:=Eq.trans rfl rfl
theorem qrA (s i:qo):(AOp.ixS s i).plain = true:=Eq.trans rfl rfl
theorem qtF (s i:qo):(AOp.ixS s i).effs = false:=Eq.trans rfl rfl
theorem qqj (s i:qo):(AOp.ixS s i).isApp = false:=Eq.trans rfl rfl
theorem qrz (n:Nat) (k:Option Nat) (a i:qo):(AOp.ixA n k a i).plain = true:=Eq.trans rfl rfl
theorem qtE (n:Nat) (k:Option Nat) (a i:qo):(AOp.ixA n k a i).effs = false:=Eq.trans rfl rfl
theorem qqi (n:Nat) (k:Option Nat) (a i:qo):(AOp.ixA n k a i).isApp = false:=Eq.trans rfl rfl
theorem qry (o:Nat) (k:Option Nat) (x:qo):(AOp.fld o k x).plain = true:=Eq.trans rfl rfl
theorem qtD (o:Nat) (k:Option Nat) (x:qo):(AOp.fld o k x).effs = false:=Eq.trans rfl rfl
theorem qqh (o:Nat) (k:Option Nat) (x:qo):(AOp.fld o k x).isApp = false:=Eq.trans rfl rfl
theorem qrx (x:qo) (i:Nat):(AOp.ext x i).plain = true:=Eq.trans rfl rfl
theorem qtC (x:qo) (i:Nat):(AOp.ext x i).effs = false:=Eq.trans rfl rfl
theorem qqg (x:qo) (i:Nat):(AOp.ext x i).isApp = false:=Eq.trans rfl rfl
theorem qrB (b:Bool) (x:qo):(AOp.len b x).plain = true:=Eq.trans rfl rfl
theorem qtG (b:Bool) (x:qo):(AOp.len b x).effs = false:=Eq.trans rfl rfl
theorem qqk (b:Bool) (x:qo):(AOp.len b x).isApp = false:=Eq.trans rfl rfl
theorem qu3 (b:Bool) (x y:qo):(AOp.mm b x y).plain = true:=Eq.trans rfl rfl
theorem qxC (b:Bool) (x y:qo):(AOp.mm b x y).effs = false:=Eq.trans rfl rfl
theorem qur (b:Bool) (x y:qo):(AOp.mm b x y).isApp = false:=Eq.trans rfl rfl
theorem qrJ (t:TypeId) (z:qa) (x:qo):(AOp.tas t z x).plain = true:=Eq.trans rfl rfl
theorem qtM (t:TypeId) (z:qa) (x:qo):(AOp.tas t z x).effs = false:=Eq.trans rfl rfl
theorem qqq (t:TypeId) (z:qa) (x:qo):(AOp.tas t z x).isApp = false:=Eq.trans rfl rfl
theorem qrn (x:qo):(AOp.asg x).plain = false:=Eq.trans rfl rfl
theorem qtt (x:qo):(AOp.asg x).effs = true:=Eq.trans rfl rfl
theorem qp7 (x:qo):(AOp.asg x).isApp = false:=Eq.trans rfl rfl
theorem qrF (cs:List qa):(AOp.new cs).plain = false:=Eq.trans rfl rfl
theorem qtK (cs:List qa):(AOp.new cs).effs = false:=Eq.trans rfl rfl
theorem qqo (cs:List qa):(AOp.new cs).isApp = false:=Eq.trans rfl rfl
theorem qrq (k:Nat) (x:qo):(AOp.box k x).plain = false:=Eq.trans rfl rfl
theorem qtv (k:Nat) (x:qo):(AOp.box k x).effs = false:=Eq.trans rfl rfl
theorem qp9 (k:Nat) (x:qo):(AOp.box k x).isApp = false:=Eq.trans rfl rfl
theorem qu5 (k:Option Nat) (a x:qo):(AOp.st k a x).plain = false:=Eq.trans rfl rfl
theorem qxD (k:Option Nat) (a x:qo):(AOp.st k a x).effs = true:=Eq.trans rfl rfl
theorem qus (k:Option Nat) (a x:qo):(AOp.st k a x).isApp = false:=Eq.trans rfl rfl
theorem qnj (f:qo) (aS:List qo):(AOp.call f aS).plain = false:=Eq.trans rfl rfl
theorem qo9 (f:qo) (aS:List qo):(AOp.call f aS).effs = true:=Eq.trans rfl rfl
theorem qmA (f:qo) (aS:List qo):(AOp.call f aS).isApp = false:=Eq.trans rfl rfl
theorem qrm (k:Nat) (x y:qo):(AOp.app k x y).plain = false:=Eq.trans rfl rfl
theorem qts (k:Nat) (x y:qo):(AOp.app k x y).effs = true:=Eq.trans rfl rfl
theorem qp6 (k:Nat) (x y:qo):(AOp.app k x y).isApp = true:=Eq.trans rfl rfl
theorem qrI (x:qo):(AOp.pan x).plain = false:=Eq.trans rfl rfl
theorem qtL (x:qo):(AOp.pan x).effs = true:=Eq.trans rfl rfl
theorem qqp (x:qo):(AOp.pan x).isApp = false:=Eq.trans rfl rfl
theorem qkn (n:Nat):qa.undef.lower n = true:=Eq.trans rfl rfl
theorem qm5 (n:Nat) (b:Bool):(qa.bool b).lower n = true:=Eq.trans rfl rfl
theorem qiR (n:Nat) (k:IntKind) (z:Int):(qa.int k z).lower n = true:=Eq.trans rfl rfl
theorem qiT (n:Nat) (s:List UInt8):(qa.str s).lower n = true:=Eq.trans rfl rfl
theorem qiS (n:Nat):qa.nilptr.lower n = true:=Eq.trans rfl rfl
theorem qq0 (n i o:Nat):(qa.ptr i o).lower n = Nat.blt i n:=Eq.trans rfl rfl
theorem qq2 (n i:Nat):(qa.yld i).lower n = Nat.blt i n:=Eq.trans rfl rfl
theorem qm7 (n o:Nat) (cs:List qa):(qa.iptr cs o).lower n = qt n cs:=Eq.trans rfl rfl
theorem qqZ (n:Nat) (xs:List qa) (f:qfH):(qa.lst xs f).lower n = qt n xs:=Eq.trans rfl rfl
theorem qhM (n:Nat):qa.nilfunc.lower n = true:=Eq.trans rfl rfl
theorem qg2 (n:Nat):qa.niliface.lower n = true:=Eq.trans rfl rfl
theorem qkm (n:Nat) (t:TypeId) (v:qa):(qa.iface t v).lower n = v.lower n:=Eq.trans rfl rfl
theorem quM (n:Nat) (f:FuncId) (a b:List qa):(qa.fn f a b).lower n = (qt n a && qt n b):=Eq.trans rfl rfl
theorem qiQ (n:Nat) (cs:List qa):(qa.agg cs).lower n = qt n cs:=Eq.trans rfl rfl
theorem qq1 (n:Nat) (cs:List qa):(qa.tup cs).lower n = qt n cs:=Eq.trans rfl rfl
theorem qhe (n:Nat):qt n [] = true:=Eq.trans rfl rfl
theorem qgv (n:Nat) (v:qa) (vs:List qa):qt n (v :: vs) = (v.lower n && qt n vs):=Eq.trans rfl rfl
def qdQ (rs:List qkS) (h:List qb):Option (Ex×St)->Option (qb7×List qb×Bool)
 | some (.nor,s) | some (.ret,s)=>qzV h s (qao s rs)
 | some (.pan v,s)=>some (qaE h.length (.pan v) s.h s.e)
 | _=>none
theorem qxF (fn:qv) (h:List qb) (r:Option (Ex×St)):qjJ fn h r = qdQ fn.results h r:=by
 cases r with
 | none=>rfl
 | some r=>obtain ⟨x,s⟩:=r;cases x <;> first | rfl | exact qxG _ _ _ | exact qxH _ _ _
theorem qtN (rs:List qkS) (h:List qb) (s:St):qdQ rs h (some (.nor,s)) = qzV h s (qao s rs):=rfl
theorem qtP (rs:List qkS) (h:List qb) (s:St):qdQ rs h (some (.ret,s)) = qzV h s (qao s rs):=rfl
theorem qtO (rs:List qkS) (h:List qb) (s:St) (v:qa):qdQ rs h (some (.pan v,s)) = some (qaE h.length (.pan v) s.h s.e):=rfl
theorem qFO {F:FuncId->Option qv} {X:qeW} (hX:qoc X) {f:FuncId} {first args cap:List qa} {h:List qb} {fn:qv} (h1:X f = none) (h2:F f = some fn) :
  W F X (.fn f first cap) args h = qdQ fn.results h (qj h.length (W F X) fn.code ⟨(first ++ args ++ cap).map qa.dim ++ List.replicate (fn.ntmps - ((first ++ args ++ cap).map qa.dim).length) (.tup []),h,false⟩):=by
 rw [qFN hX h1 h2,qxF]
end
section
variable {h:List qb}
theorem qoq (cs:List qa):(qa.agg cs).cells = cs:=rfl
theorem qor (k:IntKind) (n:Int):(qa.int k n).cells = [.int k n]:=rfl
theorem qou (s:List UInt8):(qa.str s).cells = [.str s]:=rfl
theorem qlS (b:Bool):(qa.bool b).cells = [.bool b]:=rfl
theorem qos (xs:List qa) (f:qfH):(qa.lst xs f).cells = [.lst xs f]:=rfl
theorem qot (i o:Nat):(qa.ptr i o).cells = [.ptr i o]:=rfl
theorem qid:qa.nilptr.cells = [.nilptr]:=rfl
theorem qs3 (f:FuncId) (a b:List qa):(qa.fn f a b).cells = [.fn f a b]:=rfl
theorem qgY:qa.niliface.cells = [.niliface]:=rfl
theorem qjB (t:TypeId) (v:qa):(qa.iface t v).cells = [.iface t v]:=rfl
theorem qov (i:Nat):(qa.yld i).cells = [.yld i]:=rfl
theorem qlB (k:IntKind) (n:Int):(qa.int k n).storable = true:=Eq.trans rfl rfl
theorem qlC (s:List UInt8):(qa.str s).storable = true:=Eq.trans rfl rfl
theorem qsa (b:Bool):(qa.bool b).storable = true:=Eq.trans rfl rfl
theorem qvr (xs:List qa) (f:qfH):(qa.lst xs f).storable = true:=Eq.trans rfl rfl
theorem qvs (i o:Nat):(qa.ptr i o).storable = true:=Eq.trans rfl rfl
theorem qsb (cs:List qa) (o:Nat):(qa.iptr cs o).storable = true:=Eq.trans rfl rfl
theorem qkJ:qa.nilptr.storable = true:=Eq.trans rfl rfl
theorem qjg:qa.nilfunc.storable = true:=Eq.trans rfl rfl
theorem qzx (f:FuncId) (a b:List qa):(qa.fn f a b).storable = true:=Eq.trans rfl rfl
theorem qvt (i:Nat):(qa.yld i).storable = true:=Eq.trans rfl rfl
theorem qh0:qa.niliface.storable = true:=Eq.trans rfl rfl
theorem qnI (t:TypeId) (v:qa):(qa.iface t v).storable = true:=Eq.trans rfl rfl
theorem qs9 (c:qa) (cs:List qa) (o k:Nat):cut (c :: cs) o (some k) = if o + k <= (c :: cs).length then some (.agg ((((c :: cs).drop o).take k).map qa.dim)) else none:=rfl
def ldB (k:Option Nat) (o:Nat):Option qb->Option qa
 | some (.cells cs)=>cut cs o k
 | _=>none
theorem qli (i o:Nat) (k:Option Nat):qch h (.ptr i o) k = ldB k o h[i]?:=by
 simp only [qch,ldB]
 cases h[i]? with
 | none=>rfl
 | some b=>cases b <;> rfl
theorem qqz (k:Option Nat) (o:Nat) (cs:List qa):ldB k o (some (.cells cs)) = cut cs o k:=rfl
def qEG (k:Option Nat) (v:qa):List qa:=
 match k with
 | none=>[v]
 | some _=>v.dim.cells.map qa.dim
theorem qrP (v:qa):qEG none v = [v]:=rfl
theorem qrQ (k:Nat) (v:qa):qEG (some k) v = v.dim.cells.map qa.dim:=rfl
def stB (base:Nat) (k:Option Nat) (id o:Nat) (vs:List qa) (h:List qb):Option qb->Option (List qb×Bool)
 | some (.cells cs)=>if vs.length = k.getD 1/\o + vs.length <= cs.length/\vs.all qa.storable then some (h.set id (.cells (splice cs o vs)),!(Nat.ble base id || qt (id + 1) vs)) else none
 | _=>none
theorem qzu (base:Nat) (k:Option Nat) (id o:Nat) (v:qa):stV base k (.ptr id o) v h = stB base k id o (qEG k v) h h[id]?:=by
 simp only [stV,stB]
 cases h[id]? with
 | none=>rfl
 | some b=>cases b <;> cases k <;> rfl
theorem qr9 (base:Nat) (k:Option Nat) (id o:Nat) (vs cs:List qa):stB base k id o vs h (some (.cells cs)) = if vs.length = k.getD 1/\o + vs.length <= cs.length/\vs.all qa.storable then some (h.set id (.cells (splice cs o vs)),!(Nat.ble base id || qt (id + 1) vs)) else none:=rfl
theorem qHB (h:List qb) (k:Nat):Nat.ble h.length (h.length + k) = true:=Nat.ble_eq_true_of_le (Nat.le_add_right _ _)
theorem qf {a b:Nat} (h:a <= b):Nat.ble a b = true:=Nat.ble_eq_true_of_le h
end
theorem qaH {e r:Option (Ex×St)} (hr:e = r) {Q:Ex->St->Prop} (h:∃x s',e = some (x,s')/\Q x s'):∃x s',r = some (x,s')/\Q x s':=hr▸h
mutual
theorem qhw:∀v:qa,v.beq v = true
 | .undef | .nilptr | .nilfunc | .niliface | .nilmap | .nils | .empt=>rfl
 | .sl ..=>by simp [qa.beq]
 | .mp i=>by simp [qa.beq]
 | .bool b=>by simp [qa.beq]
 | .int k n=>by simp [qa.beq]
 | .str s=>by simp [qa.beq]
 | .ptr i o=>by simp [qa.beq]
 | .iptr cs o=>by simp [qa.beq,qbV cs]
 | .lst xs f=>by simp [qa.beq,qbV xs]
 | .fn f a b=>by simp [qa.beq,qbV a,qbV b]
 | .yld i=>by simp [qa.beq]
 | .iface t v=>by simp [qa.beq,qhw v]
 | .agg cs=>by simp [qa.beq,qbV cs]
 | .tup cs=>by simp [qa.beq,qbV cs]
theorem qbV:∀vs:List qa,qia vs vs = true
 | []=>rfl
 | v :: vs=>by simp [qia,qhw v,qbV vs]
end
section
variable {base:Nat} {call:Call} {dsts:List Nat} {s:St} {pend:List (Nat×Chk)} {h:List qb}
def qet (h:List qb):List (Nat×Chk)->Bool
 | []=>true
 | c :: cs=>c.2.ok h && qet h cs
theorem qs5:qet h [] = true:=Eq.trans rfl rfl
theorem qoy (i:Nat) (c:Chk) (cs:List (Nat×Chk)):qet h ((i,c) :: cs) = (c.ok h && qet h cs):=rfl
theorem qs4 (l:List (Nat×Chk)):l.all (λc=>c.2.ok h) = qet h l:=by
 induction l with
 | nil=>rfl
 | cons c l ih=>simp only [List.all_cons,qet,ih]
def qFf (v:qa):Option qa->Bool
 | some w=>v.beq w
 | none=>false
theorem qf4 (v:qa):qFf v (some v) = true:=qhw v
theorem qAr (a:qa) (k:Option Nat) (v:qa):Chk.ok h (.ld a k v) = qFf v (qch h a k):=by
 simp only [Chk.ok];cases qch h a k <;> rfl
def qFe (cs:List qa):Option qb->Bool
 | some (.cells ds)=>qia cs ds
 | _=>false
theorem qog (cs:List qa):qFe cs (some (.cells cs)) = true:=qbV cs
theorem qxb (id:Nat) (cs:List qa):Chk.ok h (.box id cs) = qFe cs h[id]?:=by
 simp only [Chk.ok]
 cases h[id]? with
 | none=>rfl
 | some b=>cases b <;> rfl
def qd1 (cl:Nat):List (Nat×Chk)->List (Nat×Chk)
 | []=>[]
 | c :: cs=>bif cl.testBit c.1 then qd1 cl cs else c :: qd1 cl cs
theorem qmf (cl:Nat):qd1 cl [] = []:=rfl
theorem qjR (cl i:Nat) (c:Chk) (cs:List (Nat×Chk)):qd1 cl ((i,c) :: cs) = bif cl.testBit i then qd1 cl cs else (i,c) :: qd1 cl cs:=rfl
theorem qpz (cl:Nat) (l:List (Nat×Chk)):l.filter (λc=>!cl.testBit c.1) = qd1 cl l:=by
 induction l with
 | nil=>rfl
 | cons c l ih=>
  simp only [List.filter_cons,qd1,ih]
  cases cl.testBit c.1 <;> rfl
def qtl (dsts:List Nat) (pend:List (Nat×Chk)) (k:List (Nat×Chk)->St->Option (Ex×St)):Option (Ex×St)->Option (Ex×St)
 | some (.nor,s)=>bif qet s.h pend then k pend s else none
 | some (.pan v,s)=>some (.pan v,{ s with t:=qca dsts s.t})
 | _=>none
theorem qo6 (k:List (Nat×Chk)->St->Option (Ex×St)) (s:St):qtl dsts pend k (some (.nor,s)) = bif qet s.h pend then k pend s else none:=rfl
theorem qo7 (k:List (Nat×Chk)->St->Option (Ex×St)) (t:List qa) (e:Bool) (v:qa):qtl dsts pend k (some (.pan v,⟨t,h,e⟩)) = some (.pan v,⟨qca dsts t,h,e⟩):=rfl
theorem qtp:qw base call dsts [] pend s = some (.nor,s):=rfl
theorem qtn {d:Option Nat} {o:AOp} {ix cl:Nat} {ds:List qH} (ho:o.effs = true):qw base call dsts (⟨⟨d,o,none⟩,ix,cl⟩ :: ds) pend s = qtl dsts (qd1 cl pend) (qw base call dsts ds) (qu base call [] d o s):=by
 simp only [qw,wanted,ho,if_true,qs4,qpz]
 cases hr:qu base call [] d o s with
 | none=>rfl
 | some r=>
  obtain ⟨x,s'⟩:=r
  cases x with
  | nor=>simp only [qtl];cases qet s'.h (qd1 cl pend) <;> rfl
  | pan v=>rfl
  | exit i=>rfl
  | ret=>rfl
def AOp.light:AOp->Bool
 | .asg .. | .new .. | .box .. | .st .. | .call .. | .app .. | .pan .. | .ld .. | .hx .. | .lk ..=>false
 | _=>true
theorem ql4 {d:Option Nat} {o:AOp} {ix cl:Nat} {ds:List qH} (ho:o.light = true):qw base call dsts (⟨⟨d,o,none⟩,ix,cl⟩ :: ds) pend s = qcV (qw base call dsts ds pend) (qu base call [] d o s):=by
 have he:o.effs = false:=by cases o <;> simp_all [AOp.light,AOp.effs]
 have hc:qes s o = none:=by cases o <;> simp_all [AOp.light,qes]
 simp only [qw,wanted,he,jl,if_false,hc]
 cases hr:qu base call [] d o s with
 | none=>rfl
 | some r=>
  obtain ⟨x,s'⟩:=r
  have:=qEx he hr
  subst this
  rfl
def ldD (d:Option Nat) (s:St) (a:qa) (k:Option Nat) (ix:Nat) (pend:List (Nat×Chk)) (f:List (Nat×Chk)->St->Option (Ex×St)):Option qa->Option (Ex×St)
 | some v=>f ((ix,.ld a k v) :: pend) { s with t:=put d v s.t}
 | none=>none
theorem quC (d:Option Nat) (t:List qa) (e:Bool) (a:qa) (k:Option Nat) (ix:Nat) (f:List (Nat×Chk)->St->Option (Ex×St)) (v:qa):ldD d ⟨t,h,e⟩ a k ix pend f (some v) = f ((ix,.ld a k v) :: pend) ⟨put d v t,h,e⟩:=rfl
theorem qxx {d:Option Nat} {k:Option Nat} {a:qo} {ix cl:Nat} {ds:List qH}:qw base call dsts (⟨⟨d,.ld k a,none⟩,ix,cl⟩ :: ds) pend s = ldD d s (ev s.t a) k ix pend (qw base call dsts ds) (qch s.h (ev s.t a) k):=by
 simp only [qw,wanted,AOp.effs,jl,if_false,qes,qu]
 cases qch s.h (ev s.t a) k <;> rfl
theorem qto {d:Option Nat} {cs:List qa} {ix cl:Nat} {ds:List qH}:qw base call dsts (⟨⟨d,.new cs,none⟩,ix,cl⟩ :: ds) pend s = qw base call dsts ds ((ix,.box s.h.length (cs.map qa.dim)) :: pend) { s with t:=put d (.ptr s.h.length 0) s.t,h:=s.h ++ [.cells (cs.map qa.dim)]}:=by
 simp only [qw,wanted,AOp.effs,jl,if_false,qes,qu]
end
theorem qqT (x:qo):(AOp.mov x).light = true:=Eq.trans rfl rfl
theorem qm1 (c a b:qo):(AOp.pick c a b).light = true:=Eq.trans rfl rfl
theorem qki (z:List qa) (ps:List (Nat×Nat×qo)):(AOp.build z ps).light = true:=Eq.trans rfl rfl
theorem qmZ (k:Nat) (z:List qa) (l:Nat) (ps:List (Nat×qo)):(AOp.list k z l ps).light = true:=Eq.trans rfl rfl
theorem qm0 (x:qo):(AOp.nilc x).light = true:=Eq.trans rfl rfl
theorem qqF (op:BinOp) (x y:qo):(AOp.bin op x y).light = true:=Eq.trans rfl rfl
theorem qqK (n:Bool) (x y:qo):(AOp.eqb n x y).light = true:=Eq.trans rfl rfl
theorem qqL (k:Nat) (n:Bool) (x y:qo):(AOp.eqi k n x y).light = true:=Eq.trans rfl rfl
theorem qqJ (n:Bool) (x y:qo):(AOp.eqa n x y).light = true:=Eq.trans rfl rfl
theorem quI (op:UnOp) (x:qo):(AOp.un op x).light = true:=Eq.trans rfl rfl
theorem qqH (k:IntKind) (x:qo):(AOp.cvi k x).light = true:=Eq.trans rfl rfl
theorem qqI (x:qo):(AOp.cvs x).light = true:=Eq.trans rfl rfl
theorem qqG (x:qo):(AOp.cvb x).light = true:=Eq.trans rfl rfl
theorem qqS (t:TypeId) (x:qo):(AOp.mkI t x).light = true:=Eq.trans rfl rfl
theorem qqR (f:FuncId) (a b:List qo):(AOp.mkF f a b).light = true:=Eq.trans rfl rfl
theorem qm3 (x:qo) (l h:Option qo):(AOp.subS x l h).light = true:=Eq.trans rfl rfl
theorem qm2 (k:Nat) (x:qo) (l h:Option qo):(AOp.subL k x l h).light = true:=Eq.trans rfl rfl
theorem quG (o:Nat) (a:qo):(AOp.fa o a).light = true:=Eq.trans rfl rfl
theorem qmY (k:Nat) (s i:qo):(AOp.ixaL k s i).light = true:=Eq.trans rfl rfl
theorem qmX (n k:Nat) (a i:qo):(AOp.ixaA n k a i).light = true:=Eq.trans rfl rfl
theorem qqP (s i:qo):(AOp.ixS s i).light = true:=Eq.trans rfl rfl
theorem qqO (n:Nat) (k:Option Nat) (a i:qo):(AOp.ixA n k a i).light = true:=Eq.trans rfl rfl
theorem qqN (o:Nat) (k:Option Nat) (x:qo):(AOp.fld o k x).light = true:=Eq.trans rfl rfl
theorem qqM (x:qo) (i:Nat):(AOp.ext x i).light = true:=Eq.trans rfl rfl
theorem qqQ (b:Bool) (x:qo):(AOp.len b x).light = true:=Eq.trans rfl rfl
theorem quH (b:Bool) (x y:qo):(AOp.mm b x y).light = true:=Eq.trans rfl rfl
theorem qqU (t:TypeId) (z:qa) (x:qo):(AOp.tas t z x).light = true:=Eq.trans rfl rfl
section
variable {base:Nat} {call:Call} {p:qcn} {s:St} {t:List qa} {h:List qb}
def qjw (k:Nat) (xs ys:List qa):Bool:=decide (xs.length + ys.length <= qdv) && ys.all (λy=>y.cells.length == k && y.cells.all qa.storable) && xs.head?.all (λy=>y.cells.length == k)
def qz7 (d:Option Nat) (k:Nat) (ys:List qa):Option (List qa×St)->Option (Ex×St)
 | some (xs,s)=>if xs.head?.all (λy=>y.cells.length == k) then some (.nor,{ s with t:=put d (.lst (xs ++ ys) (.own k)) s.t}) else none
 | none=>none
def qsT (d:Option Nat) (k:Nat) (s:St) (tk:Option (List qa×St)) (x:qa) (ys:Option (List qa)):Option (Ex×St):=
 match x,ys with
 | .lst xs f,some ys=>
  if ys.isEmpty then some (.nor,{ s with t:=put d (qa.lst xs f).dim s.t})
  else if qjw k xs ys = true then
   match f with
   | .full=>some (.nor,{ s with t:=put d (.lst (xs ++ ys) (.own k)) s.t})
   | _=>qz7 d k ys tk
  else none
 | _,_=>none
theorem qBE (d:Option Nat) (k:Nat) (x y:qo):qu base call p d (.app k x y) s = qsT d k s (qdz k p x s) (raw s.t x) (tail (ev s.t y)):=by
 simp only [qu,qsT,qjw,jk,decide_eq_true_eq,and_assoc]
 generalize raw s.t x = v
 generalize tail (ev s.t y) = w
 generalize qdz k p x s = z
 cases v <;> rfl
theorem qvy (ys:List qa) (f:qfH):tail (.lst ys f) = some ys:=rfl
theorem qvz (b:List UInt8):tail (.str b) = some (qhK b):=rfl
theorem qwB (d:Option Nat) (k:Nat) (t:List qa) (e:Bool) (tk:Option (List qa×St)) (xs:List qa) (f:qfH):qsT d k ⟨t,h,e⟩ tk (.lst xs f) (some []) = some (.nor,⟨put d (qa.lst xs f).dim t,h,e⟩):=rfl
theorem qsU {d:Option Nat} {k:Nat} {t:List qa} {e:Bool} {tk:Option (List qa×St)} {xs ys:List qa} (hy:ys.isEmpty = false) (hc:qjw k xs ys = true):qsT d k ⟨t,h,e⟩ tk (.lst xs .full) (some ys) = some (.nor,⟨put d (.lst (xs ++ ys) (.own k)) t,h,e⟩):=by
 simp only [qsT,hy,hc,jl,if_false,if_true]
theorem qwC {d:Option Nat} {k j:Nat} {s:St} {tk:Option (List qa×St)} {xs ys:List qa} (hy:ys.isEmpty = false) (hc:qjw k xs ys = true):qsT d k s tk (.lst xs (.own j)) (some ys) = qz7 d k ys tk:=by
 simp only [qsT,hy,hc,jl,if_false,if_true]
theorem qz8 {d:Option Nat} {k:Nat} {s:St} {tk:Option (List qa×St)} {xs ys:List qa} (hy:ys.isEmpty = false) (hc:qjw k xs ys = true):qsT d k s tk (.lst xs .no) (some ys) = qz7 d k ys tk:=by
 simp only [qsT,hy,hc,jl,if_false,if_true]
theorem qoe {d:Option Nat} {k:Nat} {t:List qa} {e:Bool} {xs ys:List qa} (hc:qjw k xs ys = true):qz7 d k ys (some (xs,⟨t,h,e⟩)) = some (.nor,⟨put d (.lst (xs ++ ys) (.own k)) t,h,e⟩):=by
 simp only [qjw,jk] at hc
 simp only [qz7,hc.2,if_true]
def qvp (p:qcn) (i:Nat):Option Src:=(p.find? (·.1 == i)).map (·.2)
def qvB (k b:Nat) (s:St) (v:qa):Option (List qa×St):=
 match v with
 | .lst xs (.own j)=>if j = k then some (xs,{ s with t:=s.t.set b (.lst xs .no)}) else none
 | _=>none
def qzJ (k:Nat) (s:St) (id o:Nat) (c:Option qb):Option (List qa×St):=
 match c with
 | some (.cells cs)=>
  match cs[o]? with
  | some (.lst xs (.own j))=>if j = k then some (xs,{ s with h:=s.h.set id (.cells (cs.set o (.lst xs .no)))}) else none
  | _=>none
 | _=>none
def qvA (k:Nat) (s:St) (a:qa):Option (List qa×St):=
 match a with
 | .ptr id o=>qzJ k s id o s.h[id]?
 | _=>none
def qnP (k:Nat) (s:St):Option Src->Option (List qa×St)
 | some (.tmp b)=>qvB k b s (lkp s.t b)
 | some (.cell a)=>qvA k s (ev s.t a)
 | none=>none
def qsq (k i:Nat) (s:St) (v:qa) (src:Option Src):Option (List qa×St):=
 match v with
 | .lst xs (.own j)=>if j = k then some (xs,{ s with t:=s.t.set i (.lst xs .no)}) else none
 | _=>qnP k s src
theorem qzL (k:Nat) (i:Nat):qdz k p (.t i) s = qsq k i s (lkp s.t i) (qvp p i):=by
 simp only [qdz,qsq,lkp,qvp]
 generalize hv:s.t.getD i .undef = v
 have key:(match p.find? (·.1 == i) with
   | some (_,.tmp b)=>
    match s.t.getD b .undef with
    | .lst xs (.own j)=>if j = k then some (xs,{ s with t:=s.t.set b (.lst xs .no)}) else none
    | _=>none
   | some (_,.cell a)=>
    match ev s.t a with
    | .ptr id o=>
     match s.h[id]? with
     | some (.cells cs)=>
      match cs[o]? with
      | some (.lst xs (.own j))=>if j = k then some (xs,{ s with h:=s.h.set id (.cells (cs.set o (.lst xs .no)))}) else none
      | _=>none
     | _=>none
    | _=>none
   | none=>none) = qnP k s ((p.find? (·.1 == i)).map (·.2)):=by
  cases p.find? (·.1 == i) with
  | none=>rfl
  | some q=>
   obtain ⟨_,src⟩:=q
   cases src with
   | tmp b=>rfl
   | cell a=>
    simp only [jL,qnP,qvA]
    cases ev s.t a <;> rfl
 cases v with
 | lst xs f=>cases f <;> first | rfl | exact key
 | _=>exact key
theorem qsr (k i:Nat) (t:List qa) (e:Bool) (xs:List qa) (src:Option Src):qsq k i ⟨t,h,e⟩ (.lst xs (.own k)) src = some (xs,⟨up t i (.lst xs .no),h,e⟩):=by simp [qsq,up]
theorem qvC (k i:Nat) (xs:List qa) (src:Option Src):qsq k i s (.lst xs .no) src = qnP k s src:=rfl
theorem qso (k b:Nat):qnP k s (some (.tmp b)) = qvB k b s (lkp s.t b):=rfl
theorem qnQ (k:Nat) (a:qo):qnP k s (some (.cell a)) = qvA k s (ev s.t a):=rfl
theorem qsp (k b:Nat) (t:List qa) (e:Bool) (xs:List qa):qvB k b ⟨t,h,e⟩ (.lst xs (.own k)) = some (xs,⟨up t b (.lst xs .no),h,e⟩):=by simp [qvB,up]
theorem qsn (k id o:Nat):qvA k s (.ptr id o) = qzJ k s id o s.h[id]?:=rfl
def qzK (k:Nat) (s:St) (id o:Nat) (cs:List qa) (v:Option qa):Option (List qa×St):=
 match v with
 | some (.lst xs (.own j))=>if j = k then some (xs,{ s with h:=s.h.set id (.cells (cs.set o (.lst xs .no)))}) else none
 | _=>none
theorem qkM (k id o:Nat) (cs:List qa):qzJ k s id o (some (.cells cs)) = qzK k s id o cs cs[o]?:=rfl
theorem qsm (k id o:Nat) (t:List qa) (e:Bool) (cs xs:List qa):qzK k ⟨t,h,e⟩ id o cs (some (.lst xs (.own k))) = some (xs,⟨t,h.set id (.cells (cs.set o (.lst xs .no))),e⟩):=by simp [qzK]
theorem qzt (i:Nat):qvp [] i = none:=rfl
def qu9 (p:qcn) (d:Option Nat) (o:AOp):qcn:=
 match d with
 | none=>p
 | some d=>
  let q:=p.filter λx=>x.1 != d && !x.2.hangs d
  match qhk o with
  | some s=>if s.hangs d then q else (d,s) :: q
  | none=>q
def qva (p:qcn) (d:Option Nat):qcn:=
 match d with
 | none=>p.filter λx=>x.2.isTmp
 | some d=>p.filter λx=>x.2.isTmp && (x.1 != d && !x.2.hangs d)
theorem qvb {d:Option Nat} {o:AOp} {g:Option (Nat×Bool)} (ho:o.effs = true):qaB p ⟨d,o,g⟩ = qva p d:=by simp only [qaB,ho,if_true,qva];cases d <;> rfl
theorem qzf {d:Option Nat} {o:AOp} {g:Option (Nat×Bool)} (ho:o.effs = false):qaB p ⟨d,o,g⟩ = qu9 p d o:=by simp only [qaB,ho,jl,if_false,qu9];cases d <;> rfl
end
theorem qwS (k:IntKind) (a b:Int):qbG .add (.int k a) (.int k b) = some (.int k (k.wrap (a + b))):=by simp [qbG,qbD]
theorem qw2 (k:IntKind) (a b:Int):qbG .sub (.int k a) (.int k b) = some (.int k (k.wrap (a - b))):=by simp [qbG,qbD]
theorem qwY (k:IntKind) (a b:Int):qbG .mul (.int k a) (.int k b) = some (.int k (k.wrap (a * b))):=by simp [qbG,qbD]
theorem qw0 (k:IntKind) (a b:Int):qbG .quo (.int k a) (.int k b) = if b = 0 then none else some (.int k (k.wrap (a.tdiv b))):=by simp [qbG,qbD]
theorem qw1 (k:IntKind) (a b:Int):qbG .rem (.int k a) (.int k b) = if b = 0 then none else some (.int k (a.tmod b)):=by simp [qbG,qbD]
theorem qwT (k:IntKind) (a b:Int):qbG .eql (.int k a) (.int k b) = some (.bool (a == b)):=by simp [qbG,qbD]
theorem qwZ (k:IntKind) (a b:Int):qbG .neq (.int k a) (.int k b) = some (.bool (!(a == b))):=by simp [qbG,qbD,bne]
theorem qwX (k:IntKind) (a b:Int):qbG .lss (.int k a) (.int k b) = some (.bool (ilt a b)):=by simp [qbG,qbD]
theorem qwW (k:IntKind) (a b:Int):qbG .leq (.int k a) (.int k b) = some (.bool (ile a b)):=by simp [qbG,qbD]
theorem qwV (k:IntKind) (a b:Int):qbG .gtr (.int k a) (.int k b) = some (.bool (ilt b a)):=by simp [qbG,qbD]
theorem qwU (k:IntKind) (a b:Int):qbG .geq (.int k a) (.int k b) = some (.bool (ile b a)):=by simp [qbG,qbD]
theorem qzz (a b:List UInt8):qbG .add (.str a) (.str b) = if a.length + b.length <= qdv then some (.str (a ++ b)) else none:=rfl
theorem qzA (a b:List UInt8):qbG .eql (.str a) (.str b) = some (.bool (a == b)):=rfl
theorem qzD (a b:List UInt8):qbG .neq (.str a) (.str b) = some (.bool (!(a == b))):=rfl
theorem qzC (a b:List UInt8):qbG .lss (.str a) (.str b) = some (.bool (Op.bytesLess a b)):=rfl
theorem qzB (a b:List UInt8):qbG .gtr (.str a) (.str b) = some (.bool (!(Op.bytesLess a b || a == b))):=rfl
theorem qB1 (k:IntKind) (n:Int):unV .neg (.int k n) = some (.int k (k.wrap (0 - n))):=rfl
theorem qB2 (b:Bool):unV .not (.bool b) = some (.bool (!b)):=rfl
section
variable {base:Nat} {call:Call} {p:qcn} {s:St}
def quJ (k:Nat) (zero:List qa) (len:Nat) (parts:List (Nat×qa)):Option qa:=
 if zero.length = k/\len * k <= 2 ^ 24 then
  match qbd ((List.replicate len zero).flatten) (parts.map λ(i,x)=>(i * k,k,x)) with
  | some cs=>if cs.all qa.storable then some (.lst ((List.range len).map λi=>if k = 1 then (cs.getD i .undef) else .agg ((cs.drop (i * k)).take k)) .full) else none
  | none=>none
 else none
theorem qy8 (d:Option Nat) (k:Nat) (z:List qa) (len:Nat) (ps:List (Nat×qo)):qu base call p d (.list k z len ps) s = qgA d s (quJ k z len (ps.map λ(i,x)=>(i,ev s.t x))):=by
 rw [qbh _ _ rfl (by simp) (by simp) (by simp)]
 simp only [pureV,quJ,List.map_map]
 rfl
theorem qiw {k:Nat}:∀(vs:List (List qa)) (i:Nat),(∀v ∈ vs,v.length = k)->i < vs.length->(vs.flatten.drop (i * k)).take k = vs.getD i []
 | [],i,_,h=>by simp at h
 | v :: vs,0,hv,_=>by
  have:=hv v (jG ..)
  simp [<-this]
 | v :: vs,i + 1,hv,h=>by
  have h1:=hv v (jG ..)
  rw [List.flatten_cons,Nat.add_mul,Nat.one_mul,jv,<-List.drop_drop,<-h1,List.drop_left,h1,qiw vs i (λw hw=>hv w (jK _ hw)) (by simpa using h)]
  rfl
end
theorem qiC (c b:Bool) (d:Option Nat) (s:St) (r:Option qa) (k:St->Option (Ex×St)):qgn (.bool c) b d s r k = qi (c == b) d s r k:=Eq.trans rfl rfl
theorem qjW (b:Bool) (d:Option Nat) (s:St) (r:Option qa) (k:St->Option (Ex×St)):qgn (.tup []) b d s r k = qi false d s r k:=Eq.trans rfl rfl
theorem qiD (d:Option Nat) (t:List qa) (h:List qb) (e:Bool) (v:qa) (k:St->Option (Ex×St)):qi true d ⟨t,h,e⟩ (some v) k = k ⟨put d v t,h,e⟩:=Eq.trans rfl rfl
theorem qhI (d:Option Nat) (t:List qa) (h:List qb) (e:Bool) (r:Option qa) (k:St->Option (Ex×St)):qi false d ⟨t,h,e⟩ r k = k ⟨put d (.tup []) t,h,e⟩:=Eq.trans rfl rfl
theorem qmw (d:Option Nat) (t:List qa) (h:List qb) (e:Bool) (r:Option (Ex×St)) (k:St->Option (Ex×St)):qgm (.bool true) false d ⟨t,h,e⟩ r k = k ⟨put d (.tup []) t,h,e⟩:=Eq.trans rfl rfl
theorem qmu (d:Option Nat) (t:List qa) (h:List qb) (e:Bool) (r:Option (Ex×St)) (k:St->Option (Ex×St)):qgm (.bool false) true d ⟨t,h,e⟩ r k = k ⟨put d (.tup []) t,h,e⟩:=Eq.trans rfl rfl
theorem qjV (b:Bool) (d:Option Nat) (t:List qa) (h:List qb) (e:Bool) (r:Option (Ex×St)) (k:St->Option (Ex×St)):qgm (.tup []) b d ⟨t,h,e⟩ r k = k ⟨put d (.tup []) t,h,e⟩:=Eq.trans rfl rfl
theorem qmg (r:Option qa):qaw true r = r:=Eq.trans rfl rfl
theorem qjS (r:Option qa):qaw false r = some (.tup []):=Eq.trans rfl rfl
theorem qt5 (v:qa):gv true v = v:=Eq.trans rfl rfl
theorem qpS (v:qa):gv false v = .tup []:=Eq.trans rfl rfl
section
variable {base:Nat} {call:Call} {p:qcn} {s:St}
theorem qnU (f:St->Option (Ex×St)) (s:St):qcV f (some (.nor,s)) = f s:=Eq.trans rfl rfl
end
theorem qjD (a b:Option (Ex×St)):qxf (.bool true) a b = a:=Eq.trans rfl rfl
theorem qik (a b:Option (Ex×St)):qxf (.bool false) a b = b:=Eq.trans rfl rfl
theorem qCD (d:Nat) (o:AOp):ao d o = ⟨some d,o,none⟩:=Eq.trans rfl rfl
theorem qCB (d:Nat) (o:AOp) (j:Nat) (b:Bool):ag d o j b = ⟨some d,o,some (j,b)⟩:=Eq.trans rfl rfl
theorem qCC (o:AOp):an o = ⟨none,o,none⟩:=Eq.trans rfl rfl
theorem qr8 (cs:List qa) (o:Nat) (vs:List qa):splice cs o vs = cs.take o ++ vs ++ cs.drop (o + vs.length):=Eq.trans rfl rfl
theorem qHj (d i:Nat):mv d i=⟨some d,.mov (.t i),none⟩:=Eq.trans rfl rfl
theorem qHo (d i:Nat):sg d i=⟨some d,.asg (.t i),none⟩:=Eq.trans rfl rfl
theorem qF6 (d k i:Nat):fA d k i=⟨some d,.fa k (.t i),none⟩:=Eq.trans rfl rfl
theorem qEm (d i:Nat):ldn d i=⟨some d,.ld none (.t i),none⟩:=Eq.trans rfl rfl
theorem qEn (d k i:Nat):lds d k i=⟨some d,.ld (some k) (.t i),none⟩:=Eq.trans rfl rfl
theorem qES (k i j:Nat):sts k i j=⟨none,.st (some k) (.t i) (.t j),none⟩:=Eq.trans rfl rfl
theorem qER (i j:Nat):stn i j=⟨none,.st none (.t i) (.t j),none⟩:=Eq.trans rfl rfl
theorem qFa (d i k:Nat):xtt d i k=⟨some d,.ext (.t i) k,none⟩:=Eq.trans rfl rfl
theorem qEw (d i:Nat):nlc d i=⟨some d,.nilc (.t i),none⟩:=Eq.trans rfl rfl
theorem qE9 (d k i j:Nat):xlL d k i j=⟨some d,.ixaL k (.t i) (.t j),none⟩:=Eq.trans rfl rfl
theorem qEs (d i:Nat):lnn d i=⟨some d,.len false (.t i),none⟩:=Eq.trans rfl rfl
theorem qGa (n:Int):kI n=.c (.int .i64 n):=Eq.trans rfl rfl
theorem qF9 (n:Nat):kF n=.c (.fn n [] []):=Eq.trans rfl rfl
theorem qGb:kO=.c (.bool false):=Eq.trans rfl rfl
theorem qGc:kU=.c (.bool true):=Eq.trans rfl rfl
theorem qHk:nL=.lst [] .full:=Eq.trans rfl rfl
theorem qHA:zZ=.int .i64 0:=Eq.trans rfl rfl
theorem qHz:zS=.str []:=Eq.trans rfl rfl
theorem qC2 (d i:Nat) (n:Int):eqk d i n=⟨some d,.bin .eql (.t i) (.c (.int .i64 n)),none⟩:=Eq.trans rfl rfl
theorem qCK (d:Nat) (o:BinOp) (i:Nat) (n:Int):bnk d o i n=⟨some d,.bin o (.t i) (.c (.int .i64 n)),none⟩:=Eq.trans rfl rfl
theorem qCL (d:Nat) (o:BinOp) (i j:Nat):bnt d o i j=⟨some d,.bin o (.t i) (.t j),none⟩:=Eq.trans rfl rfl
theorem qEP (d:Nat) (n:Int):sgk d n=⟨some d,.asg (.c (.int .i64 n)),none⟩:=Eq.trans rfl rfl
theorem qEN (d:Nat):sgO d=⟨some d,.asg (.c (.bool false)),none⟩:=Eq.trans rfl rfl
theorem qEO (d:Nat):sgU d=⟨some d,.asg (.c (.bool true)),none⟩:=Eq.trans rfl rfl
theorem qCN (d f i:Nat):clA d f i=⟨some d,.call (.c (.fn f [] [])) [.t i],none⟩:=Eq.trans rfl rfl
theorem qCO (d f i j:Nat):clB d f i j=⟨some d,.call (.c (.fn f [] [])) [.t i,.t j],none⟩:=Eq.trans rfl rfl
theorem qEE (d i j:Nat):pkO d i j=⟨some d,.pick (.t i) (.t j) (.c (.bool false)),none⟩:=Eq.trans rfl rfl
theorem qEF (d i j:Nat):pkU d i j=⟨some d,.pick (.t i) (.c (.bool true)) (.t j),none⟩:=Eq.trans rfl rfl
theorem qCM (d k i:Nat):bxx d k i=⟨some d,.box k (.t i),none⟩:=Eq.trans rfl rfl
theorem qEz (d i:Nat):ntt d i=⟨some d,.un .not (.t i),none⟩:=Eq.trans rfl rfl
theorem qDu (d i j:Nat) (b:Bool):gmv d i j b=⟨some d,.mov (.t i),some (j,b)⟩:=Eq.trans rfl rfl
theorem qDq (d k i j:Nat) (b:Bool):gfA d k i j b=⟨some d,.fa k (.t i),some (j,b)⟩:=Eq.trans rfl rfl
theorem qDr (d i j:Nat) (b:Bool):gld d i j b=⟨some d,.ld none (.t i),some (j,b)⟩:=Eq.trans rfl rfl
theorem qDt (d k i j:Nat) (b:Bool):gls d k i j b=⟨some d,.ld (some k) (.t i),some (j,b)⟩:=Eq.trans rfl rfl
theorem qDs (d i j:Nat) (b:Bool):gln d i j b=⟨some d,.len false (.t i),some (j,b)⟩:=Eq.trans rfl rfl
theorem qDn (d:Nat) (o:BinOp) (i:Nat) (n:Int) (j:Nat) (b:Bool):gbk d o i n j b=⟨some d,.bin o (.t i) (.c (.int .i64 n)),some (j,b)⟩:=Eq.trans rfl rfl
theorem qDo (d:Nat) (o:BinOp) (i i2 j:Nat) (b:Bool):gbt d o i i2 j b=⟨some d,.bin o (.t i) (.t i2),some (j,b)⟩:=Eq.trans rfl rfl
theorem qFT (i:Nat) (a b:qE):cT i a b=.cond (.t i) a b:=Eq.trans rfl rfl
theorem qHn (l:List qX) (c:qE):sR l c=.seq (.reg l) c:=Eq.trans rfl rfl
def sT:=PLift.up (yq (yq (yq (yq (yq (yq (yq (yq @qpo (yq @qmd @qtU)) (yq (yq @qmc @qpn) (yq @qjO @qEK))) (yq (yq @qmb (yq @qtp @qtn)) (yq (yq @ql4 @qxx) (yq @qto @quC)))) (yq (yq (yq @qo6 (yq @qo7 @qmf)) (yq (yq @qjR @qs5) (yq @qoy @qAr))) (yq (yq @qxb (yq @qf4 @qog)) (yq (yq @qqT @qm1) (yq @qki @qmZ))))) (yq (yq (yq (yq @qm0 (yq @qqF @qqK)) (yq (yq @qqL @qqJ) (yq @quI @qqH))) (yq (yq @qqI (yq @qqG @qqS)) (yq (yq @qqR @qm3) (yq @qm2 @quG)))) (yq (yq (yq @qmY (yq @qmX @qqP)) (yq (yq @qqO @qqN) (yq @qqM @qqQ))) (yq (yq (yq @quH @qqU) (yq @qrE @qtJ)) (yq (yq @qqn @qno) (yq @qpe @qmF)))))) (yq (yq (yq (yq (yq @qku (yq @ql7 @qj0)) (yq (yq @qnm @qpc) (yq @qmD @qu2))) (yq (yq @qxB (yq @quq @qnn)) (yq (yq @qpd @qmE) (yq @qrp @qtu)))) (yq (yq (yq @qp8 (yq @qrv @qtA)) (yq (yq @qqe @qrw) (yq @qtB @qqf))) (yq (yq (yq @qru @qtz) (yq @qqd @qu6)) (yq (yq @qxE @qut) (yq @qrs @qtx))))) (yq (yq (yq (yq @qqb (yq @qrt @qty)) (yq (yq @qqc @qrr) (yq @qtw @qqa))) (yq (yq @qrD (yq @qtI @qqm)) (yq (yq @qrC @qtH) (yq @qql @qnq)))) (yq (yq (yq @qpg (yq @qmH @qnp)) (yq (yq @qpf @qmG) (yq @qu0 @qxz))) (yq (yq (yq @qun @qnl) (yq @qpb @qmC)) (yq (yq @qnk @qpa) (yq @qmB @qrA))))))) (yq (yq (yq (yq (yq (yq @qtF (yq @qqj @qrz)) (yq (yq @qtE @qqi) (yq @qry @qtD))) (yq (yq @qqh (yq @qrx @qtC)) (yq (yq @qqg @qrB) (yq @qtG @qqk)))) (yq (yq (yq @qu3 (yq @qxC @qur)) (yq (yq @qrJ @qtM) (yq @qqq @qrn))) (yq (yq (yq @qtt @qp7) (yq @qrF @qtK)) (yq (yq @qqo @qrq) (yq @qtv @qp9))))) (yq (yq (yq (yq @qu5 (yq @qxD @qus)) (yq (yq @qnj @qo9) (yq @qmA @qrm))) (yq (yq @qts (yq @qp6 @qrI)) (yq (yq @qtL @qqp) (yq @qEH @qBU)))) (yq (yq (yq @qzh (yq @qzg @qBL)) (yq (yq @qBF @qrh) (yq @qBH @qwc))) (yq (yq (yq @qBP @qrg) (yq @qwk @qrf)) (yq (yq @qBM @qBI) (yq @qEB @qwh)))))) (yq (yq (yq (yq (yq @qy7 (yq @quV @qy8)) (yq (yq @qBG @qw3) (yq @qwl @quP))) (yq (yq @quQ (yq @qBJ @qwj)) (yq (yq @qwi @qwg) (yq @qtX @qwe)))) (yq (yq (yq @qpj (yq @qwf @qwd)) (yq (yq @qtb @qBK) (yq @qBo @qyu))) (yq (yq (yq @qBN @qng) (yq @qoo @qon)) (yq (yq @qve @qvd) (yq @qnU @qsv))))) (yq (yq (yq (yq @qnT (yq @qsu @qlN)) (yq (yq @qlP @qlO) (yq @qjy @qjD))) (yq (yq @qik (yq @qq4 @qq5)) (yq (yq @qFV @qFU) (yq @qEJ @qEI)))) (yq (yq (yq @qaX (yq @qyp @qyq)) (yq (yq @qqY @qqX) (yq @qo5 @qo4))) (yq (yq (yq @ql1 @qoZ) (yq @qo2 @qir)) (yq (yq @qo1 @ql3) (yq @qoY @qo3)))))))) (yq (yq (yq (yq (yq (yq (yq @qtj (yq @qtk @ql2)) (yq (yq @qo0 @qjH) (yq @qad @qtf))) (yq (yq @qxr (yq @qxu @qxt)) (yq (yq @qth @qxq) (yq @qxv @qAw)))) (yq (yq (yq @qoX (yq @ql0 @qjG)) (yq (yq @qip @qoW) (yq @qxw @qAy))) (yq (yq (yq @qtg @qxs) (yq @qAx @qY)) (yq (yq @qbb @qxU) (yq @qzr @qr7))))) (yq (yq (yq (yq @qxV (yq @qxT @qzq)) (yq (yq @qpG @qr6) (yq @qmj @qwt))) (yq (yq @qlz (yq @qoq @qor)) (yq (yq @qou @qlS) (yq @qos @qot)))) (yq (yq (yq @qid (yq @qs3 @qgY)) (yq (yq @qjB @qov) (yq @qs9 @qqy))) (yq (yq (yq @qli @qqz) (yq @qrP @qrQ)) (yq (yq @qzu @qr9) (yq @qlB @qlC)))))) (yq (yq (yq (yq (yq @qsa (yq @qvr @qvs)) (yq (yq @qsb @qkJ) (yq @qjg @qzx))) (yq (yq @qvt (yq @qh0 @qnI)) (yq (yq @qkn @qm5) (yq @qiR @qiT)))) (yq (yq (yq @qiS (yq @qq0 @qq2)) (yq (yq @qm7 @qqZ) (yq @qhM @qg2))) (yq (yq (yq @qkm @quM) (yq @qiQ @qq1)) (yq (yq @qhe @qgv) (yq @qvq @qxM))))) (yq (yq (yq (yq @qtY (yq @qrc @qnb)) (yq (yq @quF @quE) (yq @qt1 @qrR))) (yq (yq @qk5 (yq @qwS @qw2)) (yq (yq @qwY @qw0) (yq @qw1 @qwT)))) (yq (yq (yq @qwZ (yq @qwX @qwW)) (yq (yq @qwV @qwU) (yq @qzz @qzA))) (yq (yq (yq @qzD @qzC) (yq @qzB @qB1)) (yq (yq @qB2 @qnh) (yq @qkt @quZ))))))) (yq (yq (yq (yq (yq (yq @qzc (yq @qiC @qjW)) (yq (yq @qpR @qmx) (yq @qiD @qhI))) (yq (yq @qjX (yq @qx6 @qwN)) (yq (yq @qp4 @qDy) (yq @qCF @qx8)))) (yq (yq (yq @qDx (yq @qCE @qx7)) (yq (yq @qA2 @qAi) (yq @qui @qAY))) (yq (yq (yq @qAe @que) (yq @qDA @qCH)) (yq (yq @qya @qx4) (yq @qwL @qp2))))) (yq (yq (yq (yq @qAX (yq @qAd @qud)) (yq (yq @qAU @qAa) (yq @qua @qA3))) (yq (yq @qAj (yq @quj @qA0)) (yq (yq @qAg @qug) (yq @qx2 @qwJ)))) (yq (yq (yq @qp0 (yq @qA1 @qAh)) (yq (yq @quh @qx3) (yq @qwK @qp1))) (yq (yq (yq @qAZ @qAf) (yq @quf @qx1)) (yq (yq @qwI @qpZ) (yq @qAT @qz9)))))) (yq (yq (yq (yq (yq @qt9 (yq @qxY @qwF)) (yq (yq @qpW @qAV) (yq @qAb @qub))) (yq (yq @qxZ (yq @qwG @qpX)) (yq (yq @qAW @qAc) (yq @quc @qx0)))) (yq (yq (yq @qwH (yq @qpY @qDz)) (yq (yq @qCG @qx9) (yq @qA4 @qAk))) (yq (yq (yq @quk @qx5) (yq @qwM @qp3)) (yq (yq @qt7 @qsW) (yq @qmy @qt8))))) (yq (yq (yq (yq @qsX (yq @qmz @qpE)) (yq (yq @qmg @qjS) (yq @qDv @qt5))) (yq (yq @qpS (yq @qmv @qmw)) (yq (yq @qmu @qjV) (yq @qyb @quu)))) (yq (yq (yq @qtN (yq @qtP @qtO)) (yq (yq @qph @qzm) (yq @qzn @qvf))) (yq (yq (yq @qlY @qnd) (yq @qnc @qne)) (yq (yq @qqD @qmW) (yq @qqC @qmV)))))))))
def sC:=PLift.up (yq (yq (yq (yq (yq @List.nil_append.{0} (yq @List.append_nil.{0} @List.map_cons.{0,0})) (yq (yq @List.map_nil.{0,0} @List.length_cons.{0}) (yq @List.length_nil.{0} @List.cons_append.{0}))) (yq (yq (yq (yq (yq (yq (yq (yq (yq (yq (yq (yq (yq (yq (yq (yq (yq (yq (yq (yq (yq (yq (yq (yq (yq (yq (yq (yq (yq (yq (yq (yq (yq (yq (yq (yq (yq (yq (yq (yq (yq (yq @qCD @qHj) @qHo) @qF6) @qEm) @qEn) @qES) @qER) @qFa) @qEw) @qE9) @qEs) @qGa) @qF9) @qGb) @qGc) @qHk) @qHA) @qHz) @qC2) @qCK) @qCL) @qEP) @qEN) @qEO) @qCN) @qCO) @qEE) @qEF) @qCM) @qEz) @qDu) @qDq) @qDr) @qDt) @qDs) @qDn) @qDo) @qFT) @qHn) @qCB) (yq @qCC @Option.map_some.{0,0})) (yq (yq @ne_eq.{1} @not_false_eq_true) (yq @List.length_set.{0} @List.length_replicate.{0})))) (yq (yq (yq @Bool.or_false (yq @Bool.or_true @Bool.false_or)) (yq (yq @Bool.true_or @Bool.and_true) (yq @Bool.and_false @Bool.true_and))) (yq (yq (yq @Bool.false_and @Bool.not_true) (yq @Bool.not_false @eq_self.{1})) (yq (yq @List.getElem?_cons_zero.{0} @List.getElem?_cons_succ.{0}) (yq @List.set_cons_zero.{0} @List.set_cons_succ.{0}))))) (yq (yq (yq (yq @List.append_assoc.{0} (yq @List.length_append.{0} @qr8)) (yq (yq @List.take_zero.{0} @List.drop_zero.{0}) (yq @List.take_succ_cons.{0} @List.drop_succ_cons.{0}))) (yq (yq (yq @List.drop_nil.{0} @List.take_nil.{0}) (yq @List.all_cons.{0} @List.all_nil.{0})) (yq (yq @Option.getD_some.{0} @Option.getD_none.{0}) (yq @and_self @and_true)))) (yq (yq (yq (yq @true_and @if_true.{1}) (yq @if_false.{1} @Nat.le_refl)) (yq (yq @Nat.ble_self_eq_true @Nat.zero_add) (yq @Nat.add_zero @beq_self_eq_true.{0}))) (yq (yq (yq @Bool.false_eq_true @bne_self_eq_false.{0}) (yq @List.isEmpty_nil.{0} @List.isEmpty_cons.{0})) (yq (yq @cond_true.{1} @cond_false.{1}) (yq @List.filterMap_cons.{0,0} @List.filterMap_nil.{0,0}))))))
def sTA:=PLift.up (yq (yq (yq (yq @qzj (yq @qy9 @qlr)) (yq @qi1 (yq @qBE @qvy))) (yq (yq @qvz (yq @qwB @qsU)) (yq @qwC (yq @qz8 @qoe)))) (yq (yq (yq @qzL (yq @qsr @qvC)) (yq @qso (yq @qnQ @qsp))) (yq (yq @qsn (yq @qkM @qsm)) (yq @qzt (yq @qvb @qzf)))))
def sCA:=PLift.up (yq (yq @List.filter_cons.{0} @List.filter_nil.{0}) (yq @List.find?_cons.{0} @List.find?_nil.{0}))
section
variable {base:Nat} {call:Call} {p:qcn} {s:St} {t:List qa} {h:List qb}
def hxW (d:Option Nat) (s:St):Option (qa×List qb×Bool)->Option (Ex×St)
 | some (v,h,e)=>some (.nor,{ t:=put d v.dim s.t,h,e:=s.e || e})
 | none=>none
theorem qt6 (d:Option Nat) (t:List qa) (h h':List qb) (e e':Bool) (v:qa):hxW d ⟨t,h,e⟩ (some (v,h',e')) = some (.nor,⟨put d v.dim t,h',e || e'⟩):=rfl
theorem qEA (d:Option Nat) (o:HOp) (aS:List qo):qu base call p d (.hx o aS) s = hxW d s (hop base o (aS.map (ev s.t)) s.h):=by
 simp only [qu]
 cases hop base o (aS.map (ev s.t)) s.h with
 | none=>rfl
 | some r=>rfl
theorem qu1 (o:HOp) (aS:List qo):(AOp.hx o aS).plain = false:=Eq.trans rfl rfl
theorem qxA (o:HOp) (aS:List qo):(AOp.hx o aS).effs = true:=Eq.trans rfl rfl
theorem qup (o:HOp) (aS:List qo):(AOp.hx o aS).isApp = false:=Eq.trans rfl rfl
theorem qcJ (id o len cap more:Nat):qbB false (.sl id o len cap more) = some (.int .i64 len):=rfl
theorem qdp (id o len cap more:Nat):(qa.sl id o len cap more).dim = .sl id o len cap more:=rfl
theorem qcs (id o len cap more i:Nat) (t:List qa):qz (.sl id o len cap more) i t = t:=rfl
theorem qsc (id o len cap more:Nat):(qa.sl id o len cap more).storable = true:=Eq.trans rfl rfl
theorem qk1 (id o len cap more:Nat):(qa.sl id o len cap more).cells = [.sl id o len cap more]:=rfl
theorem qfQ (n id o len cap more:Nat):(qa.sl id o len cap more).lower n = Nat.blt id n:=Eq.trans rfl rfl
theorem qyl (n:Nat) (v:qa) (H:List qb):qaE n (.ret v) H false = bif v.lower n then (.ret v,H.take n,false) else (.ret v,H,false):=by
 unfold qaE
 cases h:v.lower n <;> simp [h]
def qzE (k:Nat) (x y:qa):Option qa:=pureV [x,y] (.subL k (.t 0) none (some (.t 1)))
theorem qBO (d:Option Nat) (k:Nat) (x y:qo):qu base call p d (.subL k x none (some y)) s = qgA d s (qzE k (ev s.t x) (ev s.t y)):=by
 have e1:ev [ev s.t x,ev s.t y] (.t 0) = ev s.t x:=by
  change (raw s.t x).dim.dim = (raw s.t x).dim
  exact qiq _
 have e2:ev [ev s.t x,ev s.t y] (.t 1) = ev s.t y:=by
  change (raw s.t y).dim.dim = (raw s.t y).dim
  exact qiq _
 have e:pureV s.t (.subL k x none (some y)) = qzE k (ev s.t x) (ev s.t y):=by
  simp only [qzE,pureV,bound,e1,e2]
 simp only [qu,e]
 cases qzE k (ev s.t x) (ev s.t y) <;> rfl
theorem qzF (k id o len cap more:Nat) (j:IntKind) (n:Int):qzE k (.sl id o len cap more) (.int j n) =
  if 0 <= n then (if n.toNat <= cap then (if cap = 0 then (if more = 0 then some (.lst [] .full) else none) else (if more = 0\/more = k then some (.sl id o n.toNat cap more) else none)) else none) else none:=by
 have e1:ev [qa.sl id o len cap more,.int j n] (.t 0) = .sl id o len cap more:=rfl
 have e2:ev [qa.sl id o len cap more,.int j n] (.t 1) = .int j n:=rfl
 simp only [qzE,pureV,bound,e1,e2]
 by_cases h:0 <= n
 ·simp only [h,if_true,Nat.zero_le,true_and,Nat.zero_mul,jT,Nat.sub_zero]
 ·simp only [h,if_false]
theorem qyd (k id o len cap more:Nat) (j:IntKind) (n:Int):qar k (.sl id o len cap more) (.int j n) = if 0 <= n/\n < len then some (.ptr id (o + n.toNat * k)) else none:=rfl
end
section
variable {P:Program} {gl:Nat->Option (List qa)}
noncomputable def cellsOf (W:World):Nat->Nat->Option Value:=λb o=>qlV (W.cell? ⟨b,o,none⟩)
def qxh (P:Program) (S:List TypeId):Bool:=S.all λt=>decide (t < P.types.size) && P.readableRec t && match P.underlying t with
 | some .bool | some (.int _) | some .string=>true
 | some (.slice e)=>S.contains e && decide (0 < P.cellsOf e)
 | some (.struct fs)=>fs.toList.all λf=>S.contains f.type
 | _=>false
def qbQ (P:Program) (t:TypeId):Bool:=
 match P.underlying t with
 | some (.struct _)=>true
 | _=>false
def el (P:Program) (t:TypeId) (cs:List qa):qa:=bif qbQ P t then .agg cs else cs.headD .undef
def qhs (R:TypeId->List qa->Prop):List TypeId->List (List qa)->Prop
 | [],[]=>True
 | t :: ts,a :: aS=>R t a/\qhs R ts aS
 | _,_=>False
def qdj (P:Program):Nat->TypeId->List qa->Prop
 | 0,_,_=>False
 | n + 1,t,aS=>
  match P.underlying t with
  | some .bool=>∃b,aS = [.bool b]
  | some (.int k)=>∃z,aS = [.int k z]/\(Lit.int k z).wf = true
  | some .string=>∃s:List UInt8,aS = [.str s]/\s.length <= maxLen
  | some (.slice e)=>∃xs:List (List qa),aS = [.lst (xs.map (el P e)) .no]/\xs.length <= maxLen/\∀x ∈ xs,qdj P n e x
  | some (.struct fs)=>∃ass:List (List qa),aS = ass.flatten/\qhs (qdj P n) (fs.toList.map (·.type)) ass
  | _=>False
theorem qh8 {γ:Nat->Option Nat} {imm:Nat->Nat->Option Value} {k:Nat} {b:Nat}:∀(xs:List qa) (p:Nat),(∀(i:Nat) (x:qa),xs[i]? = some x->x.cells.length = k/\qZ γ imm x.cells b (p + i * k))->qK γ imm xs b p
 | [],_,_=>trivial
 | x :: xs,p,h=>by
  obtain ⟨h1,h2⟩:=h 0 x rfl
  have ih:=qh8 xs (p + k) λi y hy=>by
   obtain ⟨k1,k2⟩:=h (i + 1) y (by simpa using hy)
   refine ⟨k1,?_⟩
   rw [Nat.add_mul,Nat.one_mul] at k2
   rw [ju,jv k]
   exact k2
  simp only [Nat.zero_mul,jT] at h2
  cases x with
  | agg cs=>simp only [qa.cells] at h1 h2;simp only [qK,h1];exact ⟨h2,ih⟩
  | _=>
   simp only [qa.cells,jA,jB,Nat.zero_add] at h1
   subst h1
   simp only [qa.cells,qZ] at h2
   exact ⟨h2.1,ih⟩
theorem qh7 {γ:Nat->Option Nat} {W:World} {b:Nat}:∀(aS:List qa) (vs:List Value) (p:Nat),qg γ (cellsOf W) aS vs->(∀i,i < vs.length->W.cell? ⟨b,p + i,none⟩ = vs[i]?)->qZ γ (cellsOf W) aS b p
 | [],_,_,_,_=>trivial
 | a :: aS,vs,p,h,hc=>by
  simp only [qg] at h
  obtain ⟨v,rest,rfl,h1,h2⟩:=h
  refine ⟨⟨v,qa7.2 ⟨by simpa using hc 0 (by simp),qcv h1⟩,h1⟩,qh7 aS rest (p + 1) h2 λi hi=>?_⟩
  have:=hc (i + 1) (by simpa using hi)
  rw [ju,jv 1]
  simpa using this
theorem qgL {γ:Nat->Option Nat} {imm:Nat->Nat->Option Value} {R:TypeId->List qa->Prop} {size:TypeId->Nat}:∀(fs:List Field) (o:Nat) (cs:List Value),cs.length = o + (fs.map λf=>size f.type).sum->
  (∀(j:Nat) f,fs[j]? = some f->f.offset = o + ((fs.take j).map λf=>size f.type).sum)->(∀f ∈ fs,∃aS,qg γ imm aS ((cs.drop f.offset).take (size f.type))/\R f.type aS)->
  ∃B:List (List qa),qg γ imm B.flatten (cs.drop o)/\qhs R (fs.map (·.type)) B
 | [],o,cs,hl,_,_=>⟨[],by simp only [List.map_nil,List.sum_nil,jT] at hl;simp [qg,<-hl],trivial⟩
 | f :: fs,o,cs,hl,ho,hr=>by
  have h0:f.offset = o:=by simpa using ho 0 f rfl
  obtain ⟨aS,h1,h2⟩:=hr f (jG ..)
  rw [h0] at h1
  simp only [List.map_cons,List.sum_cons] at hl
  obtain ⟨B,h3,h4⟩:=qgL fs (o + size f.type) cs zo (λj g hg=>by
   have:=ho (j + 1) g (by simpa using hg)
   simp only [List.take_succ_cons,List.map_cons,List.sum_cons] at this
   omega) (λg hg=>hr g (jK _ hg))
  refine ⟨aS :: B,?_,h2,h4⟩
  have e:cs.drop o = (cs.drop o).take (size f.type) ++ cs.drop (o + size f.type):=by
   rw [<-List.drop_drop,List.take_append_drop]
  rw [e,List.flatten_cons]
  exact qg.append h1 h3
theorem qdj.cells_el {n:Nat} {t:TypeId} {x:List qa} (h:qdj P n t x):(el P t x).cells = x:=by
 cases n with
 | zero=>exact h.elim
 | succ n=>
  simp only [qdj] at h
  simp only [el,qbQ]
  split at h
  ·rename_i hu;obtain ⟨b,rfl⟩:=h;rw [hu];rfl
  ·rename_i hu;obtain ⟨b,rfl,_⟩:=h;rw [hu];rfl
  ·rename_i hu;obtain ⟨b,rfl,_⟩:=h;rw [hu];rfl
  ·rename_i hu;obtain ⟨b,rfl,_⟩:=h;rw [hu];rfl
  ·rename_i hu;rw [hu];rfl
  ·exact h.elim
theorem qoG {α:Type} {Q:Nat->α->Prop}:∀len:Nat,(∀i,i < len->∃a,Q i a)->∃xs:List α,xs.length = len/\∀i x,xs[i]? = some x->Q i x
 | 0,_=>⟨[],rfl,λi x h=>by simp at h⟩
 | len + 1,h=>by
  obtain ⟨xs,h1,h2⟩:=qoG len λi hi=>h i zo
  obtain ⟨y,h3⟩:=h len zo
  refine ⟨xs ++ [y],by simp [h1],λi x hi=>?_⟩
  rcases Nat.lt_or_ge i xs.length with hlt | B
  ·rw [ja hlt] at hi;exact h2 i x hi
  ·rw [jc B] at hi
   have:i - xs.length = 0:=by
    rcases Nat.eq_zero_or_pos (i - xs.length) with h | h
    ·exact h
    ·rw [List.getElem?_eq_none (by simp only [jA,jB];omega)] at hi;cases hi
   rw [this] at hi
   simp only [jz,jj] at hi
   subst hi
   have:i = len:=zo
   subst this
   exact h3
theorem qvL {a:Addr} (h:a.spot = none) (n:Nat):a.add n = ⟨a.block,a.off + n,none⟩:=by
 unfold Addr.add
 split
 ·rename_i h0
  subst h0
  cases a
  simp_all
 ·rfl
theorem qi0 {H:Type} {enc:TypeId×Value->H} {W:World} {base:Nat} {sp:Nat->Bool} {held:Bool} {S:List TypeId} (hl:laidOutB P = true) (hS:qxh P S = true):∀(n:Nat) (t:TypeId) (cs:List Value) (x:DataW H×List MemPlace),t ∈ S->
  DataW.trod enc P W base sp held n t cs = some x->∃aS,qg (λ_=>none) (cellsOf W) aS cs/\qdj P n t aS
 | 0,t,cs,x,_,h=>by simp [DataW.trod] at h
 | n + 1,t,cs,x,ht,h=>by
  have hd:=List.all_eq_true.1 hS t ht
  simp only [jk,decide_eq_true_eq] at hd
  obtain ⟨⟨U,_⟩,hd⟩:=hd
  have ih:=qi0 (base:=base) (sp:=sp) (held:=held) (enc:=enc) (W:=W) hl hS n
  split at hd
  ·rename_i hu
   obtain ⟨b,rfl,_⟩:=DataW.trod_bool hu h
   exact ⟨[.bool b],by simp [qg,qC],by simp only [qdj,hu];exact ⟨b,rfl⟩⟩
  ·rename_i k hu
   obtain ⟨z,rfl,_,hw⟩:=DataW.trod_int hu h
   exact ⟨[.int k z],by simp [qg,qC],by simp only [qdj,hu];exact ⟨z,rfl,hw⟩⟩
  ·rename_i hu
   obtain ⟨s,rfl,_,hw⟩:=DataW.trod_string hu h
   exact ⟨[.str s.data.toList],by simp only [qg,qC];exact ⟨_,_,rfl,⟨s,rfl,rfl⟩,rfl⟩,by simp only [qdj,hu];exact ⟨_,rfl,by simpa using hw⟩⟩
  ·rename_i e hu
   simp only [jk,decide_eq_true_eq,List.contains_iff_mem] at hd
   obtain ⟨he,a1⟩:=hd
   rcases DataW.trod_slice hu h with ⟨rfl,_⟩ | ⟨a,len,cap,elems,rest,m,hm,rfl,_,hb,aa,ad,ac,E,_⟩
   ·refine ⟨[.lst [] .no],?_,by simp only [qdj,hu];exact ⟨[],rfl,Nat.zero_le _,λ_ h=>by cases h⟩⟩
    simp only [qg,qC]
    exact ⟨_,_,rfl,⟨none,0,0,rfl,rfl,jm _,by simp,by simp,⟨0,λ_ h=>by cases h⟩,.inl trivial⟩,rfl⟩
   ·cases hm
    have one:∀i,i < len->∃aS:List qa,(∃B,W.cells? base (a.add (i * P.cellsOf e)) (P.cellsOf e) = some B/\qg (λ_=>none) (cellsOf W) aS B)/\qdj P n e aS:=by
     intro i hi
     have hg:=E i hi
     rw [jh zo] at hg
     simp only [Option.bind_eq_some_iff] at hg
     obtain ⟨B,h1,h2⟩:=hg
     obtain ⟨aS,h3,h4⟩:=ih e B _ he h2
     exact ⟨aS,⟨B,h1,h3⟩,h4⟩
    obtain ⟨xs,a7,hx⟩:=qoG len one
    refine ⟨[.lst (xs.map (el P e)) .no],?_,by simp only [qdj,hu];exact ⟨xs,rfl,zo,λx J=>by obtain ⟨i,hi⟩:=List.getElem?_of_mem J;exact (hx i x hi).2⟩⟩
    simp only [qg,qC]
    refine ⟨_,_,rfl,⟨some a,len,cap,rfl,by simp [a7],aa,by simp,by simp,⟨P.cellsOf e,λy hy=>?_⟩,?_⟩,rfl⟩
    ·obtain ⟨x,J,rfl⟩:=jR.1 hy
     obtain ⟨i,hi⟩:=List.getElem?_of_mem J
     obtain ⟨⟨B,h1,h2⟩,h3⟩:=hx i x hi
     rw [h3.cells_el,h2.length,(World.cells?_some h1).2.1]
    ·rcases Nat.eq_zero_or_pos len with h0 | h0
     ·left
      have:xs = []:=List.eq_nil_of_length_eq_zero zo
      simp [this]
     ·right
      have I:a.spot = none:=by
       obtain ⟨⟨B,h1,h2⟩,_⟩:=hx 0 xs[0] (jh zo)
       obtain ⟨_,h3,h4⟩:=World.cells?_some h1
       have h5:=h4 0 a1
       rw [jh zo] at h5
       simp only [Nat.zero_mul,Addr.add,if_pos] at h5
       cases a8:a.spot with
       | none=>rfl
       | some s=>
        simp only [World.cell?] at h5
        split at h5
        ·simp [a8] at h5
        ·cases h5
      refine ⟨a.block,a.off,by rw [<-I],qh8 (k:=P.cellsOf e) _ _ λi y hy=>?_⟩
      rw [jr,Option.map_eq_some_iff] at hy
      obtain ⟨x,hi,rfl⟩:=hy
      obtain ⟨⟨B,h1,h2⟩,h3⟩:=hx i x hi
      obtain ⟨_,h4,h5⟩:=World.cells?_some h1
      rw [h3.cells_el]
      refine ⟨by rw [h2.length,h4],qh7 x B _ h2 λj hj=>?_⟩
      have h6:=h5 j zo
      rw [<-h6]
      rw [qvL I,qvL rfl,ju]
  ·rename_i fs hu
   simp only [List.all_eq_true,List.contains_iff_mem] at hd
   obtain ⟨xs,m,hm,_,a6,_,E⟩:=DataW.trod_struct hu h
   cases hm
   obtain ⟨_,h2,h3⟩:=kid_struct hl U hu
   obtain ⟨O,h4,h5⟩:=qgL (γ:=λ_=>none) (imm:=cellsOf W) (R:=qdj P n) (size:=P.cellsOf) fs.toList 0 cs (by rw [a6,h2];simp) (λj f hj=>by rw [h3 j f hj];simp) (λf hf=>by
    obtain ⟨i,hi⟩:=List.getElem?_of_mem hf
    have M:fs[i]? = some f:=by simpa using hi
    have hg:=E i f M
    have ab:i < xs.length:=by
     have:=(Array.getElem?_eq_some_iff.1 M).1
     omega
    rw [jh ab] at hg
    exact ih f.type _ _ (hd f hf) hg)
   exact ⟨O.flatten,by simpa using h4,by simp only [qdj,hu];exact ⟨O,rfl,h5⟩⟩
  ·cases hd
theorem quW {H:Type} {enc:TypeId×Value->H} {W W0:World} {base b0:Nat} {r:Reach} {sp:Nat->Bool} {held:Bool} {S:List TypeId} (hl:laidOutB P = true) (hS:qxh P S = true) {t:TypeId} (ht:t ∈ S) {v:Value} {d:DataW H} {ps:List MemPlace}
  (B:Value.okWide P W0 r b0 t v) (h:DataW.Trod enc P W base sp held t v d ps):∃n aS,qdj P n t aS/\qC (λ_=>none) (cellsOf W) (el P t aS) v:=by
 obtain ⟨n,hn⟩:=h
 obtain ⟨aS,h1,h2⟩:=qi0 hl hS n t _ _ ht hn
 refine ⟨n,aS,h2,?_⟩
 have hd:=List.all_eq_true.1 hS t ht
 simp only [jk,decide_eq_true_eq] at hd
 obtain ⟨_,hd⟩:=hd
 have scalar:qbQ P t = false->v.cells = #[v]->qC (λ_=>none) (cellsOf W) (el P t aS) v:=by
  intro hs hv
  rw [hv] at h1
  simp only [el,hs,cond_false]
  cases aS with
  | nil=>simp [qg] at h1
  | cons a aS=>
   simp only [qg] at h1
   obtain ⟨u,rest,he,h3,h4⟩:=h1
   cases he
   exact h3
 split at hd
 ·rename_i hu
  simp only [Value.okWide,hu,Cell.okWide,Cell.ok] at B
  refine scalar (by simp [qbQ,hu]) ?_
  cases v <;> first | rfl | (exact B.elim)
 ·rename_i k hu
  simp only [Value.okWide,hu,Cell.okWide,Cell.ok] at B
  refine scalar (by simp [qbQ,hu]) ?_
  cases v <;> first | rfl | (exact B.elim)
 ·rename_i hu
  simp only [Value.okWide,hu,Cell.okWide,Cell.ok] at B
  refine scalar (by simp [qbQ,hu]) ?_
  cases v <;> first | rfl | (exact B.elim)
 ·rename_i e hu
  simp only [Value.okWide,hu,Cell.okWide,Cell.ok] at B
  refine scalar (by simp [qbQ,hu]) ?_
  cases v <;> first | rfl | (exact B.elim)
 ·rename_i fs hu
  simp only [Value.okWide,hu] at B
  obtain ⟨cs,rfl,_⟩:=B
  simp only [el,qbQ,hu,cond_true,qC]
  exact ⟨cs,rfl,h1⟩
 ·cases hd
noncomputable def qc.whole (W:World):qc:={ γ:=λ_=>none,imm:=cellsOf W,ow:=λ_=>none}
theorem qsE {W:World} (h:qCz gl W):Rel P gl (qc.whole W) [] W/\qd4 (qc.whole W):=by
 refine ⟨⟨(λ_ _ h=>by cases h),(λ_ _ _ h=>by cases h),(λ_ _ _ h=>by cases h),λb o v hv _=>?_,(λ_ _ _ _ _ _ h=>by cases h),(λb o hv=>absurd rfl (qa7.1 hv).2),(λ_ _ h=>by cases h),λg cs hg=>?_⟩,(λ_ _ h=>by cases h)⟩
 ·have hv:=(qa7.1 hv).1
  refine ⟨hv,?_⟩
  rcases Nat.lt_or_ge b W.heap.size with hb | hb
  ·exact hb
  ·simp [World.cell?,Array.getElem?_eq_none hb] at hv
 ·obtain ⟨h1,vs,h2,h3⟩:=h g cs hg
  refine ⟨qZ.of_get λi c hc=>?_,h1⟩
  obtain ⟨v,hv,hr⟩:=h2.get hc
  refine ⟨v,?_,?_⟩
  ·simp only [qc.whole,cellsOf,Nat.zero_add]
   exact qa7.2 ⟨h3 i v hv,qcv hr⟩
  ·exact qC.mono (λ_ _ _ h=>by cases h) 0 (λi _ hi=>absurd hi (Nat.not_lt_zero _)) c v (qdL h1 hc) hr
theorem qnZ {n:Nat} {W W':World} {G':qc} (he:Ext n (qc.whole W) W G' W'):W.keptBut W' (λ_=>False):=by
 refine ⟨he.os,he.output,λi hi=>?_⟩
 rw [he.heap i hi ⟨λ_ h=>by simp [qc.whole] at h,rfl⟩]
 split
 ·rename_i h1 h2
  rw [h1] at h2
  cases h2
  exact ⟨rfl,rfl,rfl,λ_ _=>rfl⟩
 ·rename_i h1 h2
  rw [h1] at h2
  cases h2
  exact .inr ⟨rfl,rfl⟩
 ·rfl
theorem qqs {W W':World} (h:W.keptBut W' (λ_=>False)) {p:MemPlace} (hp:p.block < W.heap.size):W.sameAt W' p:=by
 have h1:=h.2.2 p.block hp
 cases p with
 | cell b off=>
  simp only [MemPlace.block] at h1 hp
  simp only [World.sameAt,World.cell?]
  split at h1
  ·rename_i e1 e2
   rw [e1,e2]
   simp only [Option.isSome_none,jl,if_false]
   exact h1.2.2.2 off (λh=>h)
  ·rename_i e1 e2
   rw [e1,e2]
  ·rw [h1]
 | map b=>
  simp only [MemPlace.block] at h1 hp
  simp only [World.sameAt]
  split at h1
  ·rename_i c t fr c' t' B e1 e2
   obtain ⟨rfl,rfl,h3,h4⟩:=h1
   rw [e1,e2]
   have:c' = c:=by
    apply Array.ext_getElem?
    intro j
    exact h4 j (λh=>h)
   rw [this]
  ·rename_i e1 e2
   rcases h1 with h1 | ⟨rfl,rfl⟩
   ·exact h1.elim
   ·rw [e1,e2]
  ·exact h1
theorem qlQ {call : AE.Call} (hcall : qbT P gl call) {f : FuncId} {pf : Func} {c : Code} (h1 : P.funcs[f]? = some pf) (h2 : (pf.name == "runtime.NumGoroutine") = false) (h3 : pf.body = some c) {args : List qa} {rv : qa} {h' : List qb} {e' : Bool}
  (hrun:call (.fn f [] []) args [] = some (.ret rv,h',e')) {W:World} (ht:qCz gl W) {vs:Array Value} (hargs:qg (λ_=>none) (cellsOf W) args vs.toList) :
  Calls P f vs W λe W'=>∃v G',e = .returned v/\qc.V G' rv v/\W.keptBut W' (λ_=>False):=by
 obtain ⟨hr,hn⟩:=qsE (P:=P) ht
 have hfv:(qc.whole W).V (.fn f [] []) (.func (.func f) #[] #[]):=by simp [qc.V,qC,qg]
 have hS:(qeq (.func (.func f) #[] #[]) vs).run P W = .ok (.enter f vs) W:=by
  rw [qfI,qaS h1 h2 h3]
  simp
 rcases hcall _ _ _ _ _ _ hrun _ W _ vs hr hn hfv hargs with ⟨f',aS,k1,k2⟩ | ⟨_,_,_,_,_,_,hy,_⟩ | ⟨v,w',_,k1,_⟩
 ·rw [hS] at k1
  cases k1
  refine (callsIn_wide (n:=0)).1 (CallsIn.mono (k2 none 0) λe W' hb=>?_)
  cases e with
  | returned v=>
   obtain ⟨rv',G',g1,g2,g3,g4,g5⟩:=hb
   cases g1
   exact ⟨v,G',rfl,g5,qnZ g2⟩
  | panicked ch=>obtain ⟨_,_,_,g1,_⟩:=hb;cases g1
  | outgrown=>exact hb.elim
 ·cases hy
 ·rw [hS] at k1
  cases k1
end
section
variable {base:Nat} {call:Call} {dsts:List Nat} {s:St} {pend:List (Nat×Chk)}
theorem qAo {d:Option Nat} {o:AOp} {ix cl j:Nat} {b:Bool} {ds:List qH} (h:lkp s.t j = .bool b):qw base call dsts (⟨⟨d,o,some (j,b)⟩,ix,cl⟩ :: ds) pend s = qw base call dsts (⟨⟨d,o,none⟩,ix,cl⟩ :: ds) pend s:=by
 have e:s.t.getD j .undef = .bool b:=h
 simp only [qw,wanted,e,beq_self_eq_true]
theorem qvO {d:Option Nat} {o:AOp} {ix cl j:Nat} {b c:Bool} {ds:List qH} (h:lkp s.t j = .bool c) (hc:(c == b) = false):qw base call dsts (⟨⟨d,o,some (j,b)⟩,ix,cl⟩ :: ds) pend s = qw base call dsts ds pend { s with t:=put d (.tup []) s.t}:=by
 have e:s.t.getD j .undef = .bool c:=h
 simp only [qw,wanted,e,hc]
theorem qw5 {d:Option Nat} {o:AOp} {ix cl j:Nat} {ds:List qH} (h:lkp s.t j = .bool false):qw base call dsts (⟨⟨d,o,some (j,true)⟩,ix,cl⟩ :: ds) pend s = qw base call dsts ds pend { s with t:=put d (.tup []) s.t}:=qvO h rfl
theorem qw4 {d:Option Nat} {o:AOp} {ix cl j:Nat} {ds:List qH} (h:lkp s.t j = .bool true):qw base call dsts (⟨⟨d,o,some (j,false)⟩,ix,cl⟩ :: ds) pend s = qw base call dsts ds pend { s with t:=put d (.tup []) s.t}:=qvO h rfl
theorem qw6 {d:Option Nat} {o:AOp} {ix cl j:Nat} {b:Bool} {ds:List qH} (h:lkp s.t j = .tup []):qw base call dsts (⟨⟨d,o,some (j,b)⟩,ix,cl⟩ :: ds) pend s = qw base call dsts ds pend { s with t:=put d (.tup []) s.t}:=by
 have e:s.t.getD j .undef = .tup []:=h
 simp only [qw,wanted,e]
end
def sB:=PLift.up (yq sT.1 (yq sC.1 (yq (yq (yq (yq @qko.eq_1 @qko.eq_2) (yq @qbW.eq_1 (yq @qbW.eq_2 @qbW.eq_3))) (yq (yq @qbW.eq_4 (yq @qbW.eq_5 @qbW.eq_6)) (yq @qbW.eq_7 (yq @qbW.eq_8 @qbW.eq_9)))) (yq (yq (yq @qbW.eq_10 (yq @qbW.eq_11 @qbW.eq_12)) (yq @qbW.eq_13 (yq @qbW.eq_14 @qbW.eq_15))) (yq (yq @qbW.eq_16 (yq @qbW.eq_17 @qbW.eq_18)) (yq @qbW.eq_19 (yq @qbW.eq_20 @Nat.testBit.eq_1)))))))
def sA:=PLift.up (yq sB.1 (yq sTA.1 (yq sCA.1 (yq (yq (yq (yq (yq @qu9.eq_1 @qu9.eq_2) (yq @qva.eq_1 @qva.eq_2)) (yq (yq @Src.isTmp.eq_1 @Src.isTmp.eq_2) (yq @qhk.eq_1 @qhk.eq_2))) (yq (yq (yq @qhk.eq_3 @Src.hangs.eq_1) (yq @Src.hangs.eq_2 @qo.isT.eq_1)) (yq (yq @qo.isT.eq_2 @qvp.eq_1) (yq @bne.eq_1.{0} (yq @qEA @qt6))))) (yq (yq (yq (yq @qu1 @qxA) (yq @qup @qdp)) (yq (yq @qcs @qsc) (yq @qk1 @qfQ))) (yq (yq (yq @qAo @qw5) (yq @qw4 @qw6)) (yq (yq @List.length_map.{0,0} @Bool.true_or) (yq @splice.eq_1 (yq @qbd.eq_1 @qbd.eq_2)))))))))
theorem xk {p:Prop} (h:p := by kernel_rfl):p:=h
theorem Y0 {p:Prop} (h:p := by simp only [qaX,ht]):p:=h
theorem Y1 {p:Prop} (h:p := by simp only [sB.1,seval]):p:=h
theorem Y2 {p:Prop} (h:p := by simp only [sA.1,seval]):p:=h
theorem u3 {p:Prop} (h:p := by simp only [sA.1,seval,ht]):p:=h
theorem u4 {p:Prop} (h:p := by simp only [sB.1,seval,Int.natCast_zero]):p:=h
theorem w5 {p:Prop} (h:p := by simp only [sA.1,seval,ht,e1]):p:=h
theorem w6 {p:Prop} (h:p := by simp only [sA.1,seval,ht,e4]):p:=h
theorem u7 {p:Prop} (h:p := by simp only [sA.1,seval,ht,e3]):p:=h
theorem x8 {p:Prop} (h:p := by simp only [sA.1,seval,ht,e6]):p:=h
theorem y9 {p:Prop} (h:p := by simp only [sA.1,seval,Int.natCast_zero]):p:=h
theorem x10 {p:Prop} (h:p := by simp only [sA.1,seval,ht,e2]):p:=h
theorem x11 {p:Prop} (h:p := by simp only [sA.1,seval,ht,Int.natCast_zero]):p:=h
theorem z12 {p:Prop} (h:p := by simp only [sB.1,seval,ht]):p:=h
theorem z13 {p:Prop} (h:p := by simp only [sA.1,seval,ht,e5]):p:=h
theorem z14 {p:Prop} (h:p := by simp only [sB.1,seval,ht,e2]):p:=h
theorem z15 {p:Prop} (h:p := by simp only [sB.1,seval,ht,e0]):p:=h
theorem z16 {p:Prop} (h:p := by simp only [sA.1,seval,ht,e7]):p:=h
theorem z17 {p:Prop} (h:p := by simp only [sA.1,seval,ht,e8]):p:=h
theorem z18 {p:Prop} (h:p := by simp only [sA.1,seval,ht,e9,vd,vw]):p:=h
theorem z19 {p:Prop} (h:p := by simp only [sA.1,seval,ht,e10]):p:=h
theorem z20 {p:Prop} (h:p := by simp only [sA.1,seval,ht,e11]):p:=h
theorem z21 {p:Prop} (h:p := by simp only [sA.1,seval,ht,e12]):p:=h
theorem z22 {p:Prop} (h:p := by simp only [sA.1,seval,ht,wP]):p:=h
end Go.AE
