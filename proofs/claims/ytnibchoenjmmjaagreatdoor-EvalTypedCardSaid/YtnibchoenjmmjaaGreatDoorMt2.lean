/- Proved: part 2. No condition. -/
import Derived.Test.YtnibchoenjmmjaaGreatDoorMt1
import Derived.OpenShut
import Derived.LaidLaws
import Derived.ChangeArms
import Derived.Lib.AtoiAll
import Derived.Lib.Bytealg
import Derived.Laws.Externs
import Derived.Test.YtnibchoenjmmjaaGreatDoorMt0
import Derived.WideKeyArgs
set_option maxRecDepth 100000
open List renaming getElem?_append_left→ja,getElem?_append_right→jc,getElem?_eq_some_iff→je,mem_cons_self→jJ,getElem?_set_ne→jg,getElem?_eq_getElem→ji,mem_cons_of_mem→jN,getElem?_map→ju,getElem?_cons_zero→jC,length_cons→jD,length_nil→jE,mem_map→jU
open Int renaming natCast_zero→jV
open Option.some renaming injEq→jl
open Bool renaming and_eq_true→jm,false_eq_true→jn
open Nat renaming le_refl→jo,le_trans→jp,add_assoc→jx,add_comm→jy,add_zero→jW
open Option renaming map_some→jO
namespace Go.AE
section
variable {P:Program} {gl:Nat->Option (List qa)}
theorem qeY {G' G0:qc} {w0:World} {h:List qb} {t:List qa} {n:Nat} {fn:Func} {ts:Array Value} {R:Ending->World->Prop} {F:Fence} {m:Nat} {u:FrameMode} (hu:u ≠ .run) {fx:List Deferred}:∀(ds:List Deferred) (w':World),
  qhh G' w' w0.heap.size ds->Ext n G0 w0 G' w'->Rel P gl G' h w'->qaV G' w' t ts->(∀B,Ext n G0 w0 G' B->Rel P gl G' h B->qaV G' B t ts->LeavesInM F m P fn ts R fx u B)->LeavesInM F m P fn ts R (ds ++ fx) u w'
 | [],w',_,he,hr,ht,hR=>hR w' he hr ht
 | d :: ds,w',hm,he,hr,ht,hR=>by
  obtain ⟨r,rfl,h1,h2,h3⟩:=hm.all d (jJ ..)
  refine ⟨hu,.inl ⟨r,w'.putObj r (.deferred none),rfl,run_takeDeferred h2,?_⟩⟩
  have E:=List.nodup_cons.1 hm.nodup
  refine qeY hu ds _ ⟨E.2,λd hd=>?_⟩ (he.putFar h1 _) (hr.putFar h3 λk=>by simp [World.cell?,h2]) (ht.putFar h3) hR
  obtain ⟨r',g1,g2,g3,g4⟩:=hm.all d (jN _ hd)
  refine ⟨r',g1,g2,?_,g4⟩
  rw [World.putObj_heap_other]
  ·exact g3
  ·rintro rfl
   rw [g1] at hd
   exact E.1 hd
theorem qkf (hmx:P.follows .mixedOrders = true) {call:AE.Call} (hcall:qcc P gl call) (hk:qZ call) {df pf:Func} {d:qeD} (hd:qCz P gl df d) {N base n0 m:Nat} {G0:qc} {w0:World} {R:Ending->World->Prop} {x:Ex} {s':St} :
  ∀ (gb : qhg) (c : Code), qoT P gl c = some gb -> P.funcs[gb.fid]? = some df -> (df.name == "runtime.NumGoroutine") = false -> ∀ (G : qc) (w : World) (s : St) (a : Act), Cfg P gl G s.h s.t a w -> base <= s.h.length -> a.defers = [] -> w0.heap.size <= w.heap.size -> n0 <= s.h.length -> Ext n0 G0 w0 G w ->
   qdE N base call d gb s = some (x,s')->
   (∀G' w' a',(x = .nor\/x = .ret)->Ext n0 G0 w0 G' w'->Cfg P gl G' s'.h s'.t a' w'->LeavesIn (FR none) m P pf a'.tmps R [] .returning w')->
   (∀pv v G' w' a',x = .pan pv->Ext n0 G0 w0 G' w'->Cfg P gl G' s'.h s'.t a' w'->G'.V pv v->R (.panicked [{ v,recovered:=false}]) w')->
   c.wpIn (FR none) m P (bodyPostM (FR none) m P pf R) a w:=by
 intro gb
 induction gb with
 | pre ac r ih=>
  intro c hcomp hf hname G w s a hc hb hdf hlo hn he hrun hret hpan
  cases c <;> simp only [qoT,reduceCtorEq] at hcomp
  rename_i a1 b1
  split at hcomp
  ·rename_i f caps t hdc
   obtain ⟨z,_,hz⟩:=qcf hcomp
   cases hz
  ·split at hcomp
   ·rename_i x1 r1 hx1 hr1
    split at hcomp
    ·rename_i hrf
     cases hcomp
     have hW:=λx2 s2 hx2=>qcr hmx hcall hk (N:=N) (base:=base) (lo:=w0.heap.size) (rf:=true) (fx:=[]) (ro:=none) (m:=m) a1 ac hx1 (λ_=>hrf) G w s a x2 s2 hc hb (λ_ hq=>by cases hq)
      ⟨[],by rw [hdf];rfl,⟨List.nodup_nil,λ_ h=>by cases h⟩,λ_=>rfl⟩ hlo hx2
     simp only [qdE] at hrun
     split at hrun
     ·rename_i s1 hs1
      have hkeep:=(qU (base:=base) hk N ac s s1 _ hb hs1).1
      refine wpIn_seq (wpIn_mono (hW _ s1 hs1) λe a' w' hfin=>?_)
      obtain ⟨G',g1,⟨ms,hms,_,hms0⟩,rfl,g4⟩:=hfin
      have hd0:a'.defers = []:=by rw [hms,hms0 rfl];rfl
      exact ih b1 hr1 hf hname G' w' s1 a' g4 (jp hb hkeep) hd0 (jp hlo g1.size) (jp hn hkeep) (he.trans hn g1) hrun hret hpan
     ·cases hrun
     ·rename_i r2 h1 h2
      refine wpIn_seq (wpIn_mono (hW x s' hrun) λe a' w' hfin=>?_)
      obtain ⟨G',g1,⟨ms,hms,_,hms0⟩,g3⟩:=hfin
      have hd0:a'.defers = []:=by rw [hms,hms0 rfl];rfl
      cases x with
      | nor=>exact absurd hrun (h1 s')
      | exit id=>exact absurd hrun (h2 id s')
      | ret=>
       obtain ⟨rfl,g3⟩:=g3
       show LeavesInM _ _ _ _ _ _ _ _ _
       rw [hd0]
       exact hret G' w' a' (.inr rfl) (he.trans hn g1) g3
      | pan pv=>
       obtain ⟨v,rfl,g3,g4⟩:=g3
       show LeavesInM _ _ _ _ _ _ _ _ _
       rw [hd0]
       exact hpan pv v G' w' a' rfl (he.trans hn g1) g3 g4
    ·cases hcomp
   ·cases hcomp
 | dfr f caps slot rest=>
  intro c hcomp hf hname G w s a hc hb hdf hlo hn he hrun hret hpan
  change P.funcs[f]? = some df at hf
  cases c <;> simp only [qoT,reduceCtorEq] at hcomp
  rename_i a1 b1
  split at hcomp
  ·rename_i f' caps' t hdc
   obtain ⟨z,hz,hze⟩:=qcf hcomp
   cases hze
   obtain ⟨id,ops,o0,o1,a0,cs,cl,rfl,rfl,k1,rfl,k3,k4,k5,k6,k7,k8,k9,k10⟩:=qxh hdc
   refine wpIn_seq (wpIn_region ?_)
   have hrange:List.range (#[o0,o1]:Array Oper).size = [0,1]:=rfl
   rw [hrange]
   simp only [wpOpsIn,List.getElem?_toArray,jC,List.getElem?_cons_succ]
   rw [if_pos (by simp [Region.wanted,k4])]
   have hcomp0:qck P gl o0 = some (.mkF f [] caps):=by
    simp only [qck,qfF,qen,k1,k10]
    rfl
   have hrun0:qv base call [] o0.dst (.mkF f [] caps) s = some (.nor,{ s with t:=put (some slot) (.fn f [] (caps.map (ev s.t))) s.t}):=by
    simp [qv,pureV,k3]
   refine qe3 hcall hk hc qbv.nil hcomp0 hrun0 (λ_ u1 w1 G1 e1 c1 _ _ _=>?_) (λpv h=>by cases h)
   rw [k3] at c1 ⊢
   rw [if_pos (by simp [Region.wanted,k9])]
   simp only [qdE] at hrun
   split at hrun
   ·rename_i g cv hev
    split at hrun
    ·rename_i hgf
     subst hgf
     have hv:=qah c1.rel c1.tr (x:=.tmp slot) (ax:=.t slot) rfl
     rw [hev] at hv
     simp only [qc.V,qC,qg] at hv
     obtain ⟨x0,y0,hval,hx0,hy0⟩:=hv
     have hx0':x0 = #[]:=by apply Array.ext';simpa using hx0
     subst hx0'
     let dd:Deferred:={ target:=.fn (.func g) y0,args:=#[]}
     refine ⟨λ_ _=>trivial,?_⟩
     have hsem:(o1.semAt (FR none).round (a.put (some slot) u1).eval).run P w1 = .ok (.defer dd) w1:=by
      show (Oper.semAt none _ _).run P w1 = _
      rw [Oper.semAt_none]
      simp only [execOp,k5,resolve,k6,k7,hval]
      simp [Deferred.ofValue,Sem.run_bind,Result.andThen,dd]
     rw [hsem,Oper.uponIn_defer,k8]
     show (Code.wpIn (FR none) m P b1 (bodyPostM (FR none) m P pf R)) { tmps:=(a.put (some slot) u1).tmps,defers:=dd :: a.defers} w1
     rw [hdf]
     have hlen1:n0 <= ({ s with t:=put (some slot) (.fn g [] (caps.map (ev s.t))) s.t}:St).h.length:=hn
     have he1:Ext n0 G0 w0 G1 w1:=he.trans hn e1
     have c2:Cfg P gl G1 s.h (put (some slot) (.fn g [] (caps.map (ev s.t))) s.t) { tmps:=(a.put (some slot) u1).tmps,defers:=[] ++ [dd]} w1:=⟨c1.rel,c1.tr⟩
     have hW:=λx2 s2 hx2=>qcr hmx hcall hk (N:=N) (base:=base) (lo:=w0.heap.size) (rf:=false) (fx:=[dd]) (ro:=none) (m:=m) b1 rest hz (λh=>by cases h) G1 w1 { s with t:=put (some slot) (.fn g [] (caps.map (ev s.t))) s.t}
      { tmps:=(a.put (some slot) u1).tmps,defers:=[] ++ [dd]} x2 s2 c2 hb (λ_ hq=>by cases hq) ⟨[],rfl,⟨List.nodup_nil,λ_ h=>by cases h⟩,λh=>by cases h⟩ he1.size hx2
     have tail:∀(s2:St) (v:qa) (u:FrameMode) (G2:qc) (w2:World) (a2:Act),s.h.length <= s2.h.length->Ext s.h.length G1 w1 G2 w2->qea G2 w2 w0.heap.size false [dd] a2.defers->Cfg P gl G2 s2.h s2.t a2 w2->u ≠ .run->qFx G2 u v->
       qeN N call d v cv s2 = some (x,s')->LeavesInM (FR none) m P pf a2.tmps R a2.defers u w2:=by
      intro s2 v u G2 w2 a2 hkeep he2 hmk c3 hur hmode hdx
      obtain ⟨ms,hms,hmk,_⟩:=hmk
      rw [hms]
      refine qeY (G0:=G0) (w0:=w0) (n:=n0) hur ms w2 hmk (he1.trans hn he2) c3.rel c3.tr λw3 q1 q2 q3=>?_
      have hcv:G2.VL cv y0.toList:=he2.VL hy0
      refine ⟨hur,.inr ⟨qfX,.func g,y0,g,y0,rfl,?_,λ_ _=>trivial,?_⟩⟩
      ·simp only [dd,invoke]
       have:=hd.ex
       obtain ⟨id',ops',o0',os',c',hbody',_⟩:=this
       have:=qbc (vs:=#[] ++ y0) (w:=w3) hf hname hbody'
       simpa using this
      ·have c4:Cfg P gl G2 s2.h s2.t { a2 with defers:=[]} w3:=⟨q2,q3⟩
       refine (qgr hmx hcall hk hf hd hdx c4 hcv hmode λr u' G3 w4 r1 r2 r3=>?_).2.2
       obtain ⟨hxr,hst,_⟩:=qgr (m:=m) (R:=λ_ _ _=>True) hmx hcall hk hf hd hdx c4 hcv hmode λ_ _ _ _ _ _ _=>trivial
       show LeavesInM _ _ _ _ _ _ _ _ _
       rw [r1]
       exact hret G3 w4 { a2 with defers:=[]} (.inr hxr) (q1.trans (jp hn hkeep) r2) r3
     split at hrun
     ·rename_i s2 hx2
      have hkeep:=(qU (base:=base) hk N rest { s with t:=put (some slot) (.fn g [] (caps.map (ev s.t))) s.t} s2 _ hb hx2).1
      refine wpIn_mono (hW _ s2 hx2) λe a2 w2 hfin=>?_
      obtain ⟨G2,g1,g2,rfl,g3⟩:=hfin
      exact tail s2 _ .returning G2 w2 a2 hkeep g1 g2 g3 (by simp) (.inl ⟨rfl,rfl⟩) hrun
     ·rename_i s2 hx2
      have hkeep:=(qU (base:=base) hk N rest { s with t:=put (some slot) (.fn g [] (caps.map (ev s.t))) s.t} s2 _ hb hx2).1
      refine wpIn_mono (hW _ s2 hx2) λe a2 w2 hfin=>?_
      obtain ⟨G2,g1,g2,rfl,g3⟩:=hfin
      exact tail s2 _ .returning G2 w2 a2 hkeep g1 g2 g3 (by simp) (.inl ⟨rfl,rfl⟩) hrun
     ·rename_i v s2 hx2
      have hkeep:=(qU (base:=base) hk N rest { s with t:=put (some slot) (.fn g [] (caps.map (ev s.t))) s.t} s2 _ hb hx2).1
      refine wpIn_mono (hW _ s2 hx2) λe a2 w2 hfin=>?_
      obtain ⟨G2,g1,g2,vv,rfl,g3,g4⟩:=hfin
      exact tail s2 v (.panicking [{ v:=vv,recovered:=false}]) G2 w2 a2 hkeep g1 g2 g3 (by simp) (.inr ⟨vv,rfl,g4⟩) hrun
     ·cases hrun
    ·cases hrun
   ·cases hrun
  ·split at hcomp
   ·split at hcomp
    ·cases hcomp
    ·cases hcomp
   ·cases hcomp
theorem qlz (hmx : P.follows .mixedOrders = true) {f : FuncId} {pf df : Func} {g : qjM} (hf : P.funcs[f]? = some pf) (hname : (pf.name == "runtime.NumGoroutine") = false) (hcomp : qgp P gl pf df = some g) (hdf : P.funcs[g.body.fid]? = some df)
  (hdname : (df.name == "runtime.NumGoroutine") = false) (N : Nat) : qhf P gl f (qfS N g) := by
 intro call hcall hk aS h r h' e' hrun G w vs hr hn hall
 unfold qgp at hcomp
 split at hcomp
 ·rename_i c hbody
  split at hcomp
  ·rename_i b rs d hb hrs hd
   cases hcomp
   simp only at hdf
   refine .inl ⟨qbc hf hname hbody vs w,λro m=>qhN (m:=m) ?_⟩
   have hsize:vs.size = aS.length:=by have:=hall.length;simp at this ⊢;omega
   have hc0:Cfg P gl G h (aS.map qa.dim ++ List.replicate (pf.ntmps - aS.length) (.tup [])) { tmps:=vs ++ Array.replicate (pf.ntmps - vs.size) undef,defers:=[]} w:=by
    refine ⟨hr,qaV.start ?_ λz hz=>?_⟩
    ·simp only [Array.toList_append,Array.toList_replicate]
     refine qg.append hall.dims ?_
     rw [hsize]
     exact qg.replicate _ (by simp [qC,qg,undef])
    ·rcases List.mem_append.1 hz with hz | hz
     ·obtain ⟨q,_,rfl⟩:=jU.1 hz;exact qbE q
     ·rw [(List.mem_replicate.1 hz).2];rfl
   refine callsIn_of_wp_marks (F:=FR none) hf hbody trivial ?_ rfl
   simp only [qfS] at hrun
   have main:∀x s,qdE N h.length call d b ⟨aS.map qa.dim ++ List.replicate (pf.ntmps - aS.length) (.tup []),h,false⟩ = some (x,s)->
     ((x = .nor\/x = .ret)->∃vs',qaF s rs = some vs'/\qaU h.length (.ret (qbS vs')) s.h s.e = (r,h',e'))->(∀pv,x = .pan pv->qaU h.length (.pan pv) s.h s.e = (r,h',e'))->
     c.wpIn (FR none) m P (bodyPostM (FR none) m P pf (qoa P gl h.length G w r h')) { tmps:=vs ++ Array.replicate (pf.ntmps - vs.size) undef,defers:=[]} w:=by
    intro x s hx h1 h2
    have k:=qcy (base:=h.length) hk b ⟨_,h,false⟩ s _ (jo _) hx
    refine qkf hmx hcall hk (qoS hd) (n0:=h.length) (G0:=G) (w0:=w) b c hb hdf hdname G w ⟨_,h,false⟩ _ hc0 (jo _) rfl (jo _) (jo _) (Ext.refl _ G w) hx (λG' w' a' hxx g1 g2=>?_) (λpv v G' w' a' hxx g1 g2 g3=>?_)
    ·obtain ⟨vs',hres,hlv⟩:=h1 hxx
     obtain ⟨u,r1,r2⟩:=qe5 g2 hrs hres
     obtain ⟨rfl,G'',y1,y2,y3,y4⟩:=qc7 hr g1 g2.rel ⟨k.1,λhe=>(k.2 he).2⟩ hlv
     exact ⟨u,r1,_,G'',rfl,y1,y2,y3,y4 _ u (.inl rfl) r2⟩
    ·obtain ⟨rfl,G'',y1,y2,y3,y4⟩:=qc7 hr g1 g2.rel ⟨k.1,λhe=>(k.2 he).2⟩ (h2 pv hxx)
     exact ⟨pv,v,G'',rfl,rfl,y1,y2,y3,y4 _ v (.inr rfl) g3⟩
   split at hrun
   ·rename_i s hx
    split at hrun
    ·rename_i vs' hres
     exact main _ s hx (λ_=>⟨vs',hres,Option.some.inj hrun⟩) (λ_ h=>by cases h)
    ·cases hrun
   ·rename_i s hx
    split at hrun
    ·rename_i vs' hres
     exact main _ s hx (λ_=>⟨vs',hres,Option.some.inj hrun⟩) (λ_ h=>by cases h)
    ·cases hrun
   ·rename_i v s hx
    exact main _ s hx (λh=>by rcases h with h | h <;> cases h) (λpv h=>by cases h;exact Option.some.inj hrun)
   ·cases hrun
  ·cases hcomp
 ·cases hcomp
end
section
variable {P:Program} {gl:Nat->Option (List qa)}
noncomputable def qc.start (gl:Nat->Option (List qa)) (W:World):qc:={ γ:=λ_=>none,imm:=λb o=>if (gl b).isSome then qmb (W.cell? ⟨b,o,none⟩) else none,ow:=λ_=>none}
def qCE (gl:Nat->Option (List qa)) (W:World):Prop:=∀g cs,gl g = some cs->qr 0 cs = true/\∃vs:List Value,qg (λ_=>none) (λ_ _=>none) cs vs/\∀(j:Nat) (v:Value),vs[j]? = some v->W.cell? ⟨g,j,none⟩ = some v
def qzY {H:Type}:DataW H->Option qa
 | .lit (.int k z)=>some (.int k z)
 | .lit (.string s)=>some (.str s)
 | .lit (.bool b)=>some (.bool b)
 | _=>none
theorem quN {H:Type} {enc:TypeId×Value->H} {w:World} {base:Nat} {sp:Nat->Bool} {held:Bool} {fuel:Nat} {e:TypeId} {cs:List Value} {x:DataW H×List MemPlace} {a:qa}
  (he:(∃k,P.underlying e = some (.int k))\/P.underlying e = some .string) (h:DataW.trod enc P w base sp held fuel e cs = some x) (ha:qzY x.1 = some a):∃v,cs = [v]/\qC (λ_=>none) (λ_ _=>none) a v:=by
 rcases he with ⟨k,he⟩ | he
 ·obtain ⟨n,rfl,rfl,_⟩:=DataW.trod_int he h
  simp only [qzY,jl] at ha
  subst ha
  exact ⟨_,rfl,by simp [qC]⟩
 ·obtain ⟨s,rfl,rfl,_⟩:=DataW.trod_string he h
  simp only [qzY,jl] at ha
  subst ha
  exact ⟨_,rfl,by simp only [qC];exact ⟨s,rfl,rfl⟩⟩
theorem qdd {laid:List (String×DataW Unit)} {W:World} (hL:laidMet P laid W) {name:String} {ds:List (DataW Unit)} (hm:(name,DataW.agg ds) ∈ laid) {g:Nat} (hg:P.globalNamed name = some g) {t e:TypeId} {n:Nat} (ht:(P.globals[g]?).map (·.type) = some t)
  (hu:P.underlying t = some (.array n e)) (he:(∃k,P.underlying e = some (.int k))\/P.underlying e = some .string) (hc:P.cellsOf e = 1) {aS:List qa} (has:ds.mapM qzY = some aS) :
  qr 0 aS = true/\∃vs:List Value,qg (λ_=>none) (λ_ _=>none) aS vs/\∀(j:Nat) (v:Value),vs[j]? = some v->W.cell? ⟨g,j,none⟩ = some v:=by
 obtain ⟨ps,hv,E⟩:=hL
 clear E
 induction laid generalizing ps with
 | nil=>cases hm
 | cons x laid ih=>
  obtain ⟨nx,dx⟩:=x
  obtain ⟨g',t',cs,fuel,p,q,a7,a6,J,hd,hq,_⟩:=hv
  rcases List.mem_cons.1 hm with hm | hm
  ·cases hm
   obtain rfl:=Option.some.inj (hg.symm.trans a7)
   obtain rfl:=Option.some.inj (ht.symm.trans a6)
   obtain ⟨xs,m,_,hx,_,M,a8⟩:=DataW.trod_array hu hd
   have aa:xs.map (·.1) = ds:=(DataW.agg.inj (Prod.mk.inj hx).1).symm
   have key:∀(i:Nat) (a:qa),aS[i]? = some a->∃v,cs[i]? = some v/\qC (λ_=>none) (λ_ _=>none) a v:=by
    intro i a ha
    obtain ⟨d,I,ab⟩:=qia has i a ha
    rw [<-aa,ju,Option.map_eq_some_iff] at I
    obtain ⟨y,hy,rfl⟩:=I
    have hi:i < n:=by rw [<-M];exact (je.1 hy).1
    have h1:=a8 i hi
    rw [hy,hc,Nat.mul_one] at h1
    obtain ⟨v,U,S⟩:=quN he h1 ab
    have h0:((cs.toList.drop i).take 1)[0]? = some v:=by rw [U];rfl
    exact ⟨v,by simpa using h0,S⟩
   refine ⟨qeZ λa ha=>?_,aS.mapIdx (λi _=>cs.getD i undef),qg.of_get (by simp) λi a v ha hv=>?_,λj v hv=>?_⟩
   ·obtain ⟨i,hi⟩:=List.getElem?_of_mem ha
    obtain ⟨v,_,hr⟩:=key i a hi
    exact qdA (n:=0) (λ_ _ h=>by cases h) a v hr
   ·obtain ⟨u,B,a1⟩:=key i a ha
    rw [List.getElem?_mapIdx,ha] at hv
    simp only [jO,jl] at hv
    rw [Array.getD_eq_getD_getElem?,B] at hv
    simp only [Option.getD_some] at hv
    rw [<-hv]
    exact a1
   ·rw [World.var?_cell hg J j]
    rw [List.getElem?_mapIdx] at hv
    cases ha:aS[j]? with
    | none=>rw [ha] at hv;cases hv
    | some a=>
     obtain ⟨u,B,_⟩:=key j a ha
     rw [ha] at hv
     simp only [jO,jl] at hv
     rw [Array.getD_eq_getD_getElem?,B] at hv
     simp only [Option.getD_some] at hv
     rw [<-hv]
     exact B
  ·exact ih hm q hq
end
section
variable {P:Program} {gl:Nat->Option (List qa)}
theorem qrS {T : qfi} (hT : T.All λi v => ∃ pf, P.funcs[i]? = some pf /\ qd P gl pf = some v /\ (pf.name == "runtime.NumGoroutine") = false) : qeb P gl T.get := λf fn h => by
 obtain ⟨pf,h1,h2,h3⟩:=qfi.get_all hT h
 unfold qd at h2
 split at h2
 ·cases h2
 ·rename_i c hb
  split at h2
  ·rename_i code rs e1 e2
   cases h2
   exact ⟨pf,c,h1,h3,hb,e1,e2,rfl⟩
  ·cases h2
theorem qvC {W:World} {g:Nat}:qr 0 [] = true/\∃vs:List Value,qg (λ_=>none) (λ_ _=>none) [] vs/\∀(j:Nat) (v:Value),vs[j]? = some v->W.cell? ⟨g,j,none⟩ = some v:=
 ⟨rfl,[],by simp [qg],λj v h=>by simp at h⟩
end
def qeG:Call->List qa->List qb->Option (qcb×List qb×Bool):=λ_ aS h=>
 match aS with
 | [.int .u64 x,.int .u64 y,.int .u64 c]=>
  bif ile 0 x && (ile 0 y && (ile 0 c && ile c 1)) then some (.ret (.tup [.int .u64 ((x + y + c) % 18446744073709551616),.int .u64 ((x + y + c) / 18446744073709551616)]),h,false) else none
 | _=>none
def qxa:Call->List qa->List qb->Option (qcb×List qb×Bool):=λ_ aS h=>
 match aS with
 | [.str a,.str b]=>some (.ret (.int .i64 (Lib.compareBytes a b)),h,false)
 | _=>none
def qem:Call->List qa->List qb->Option (qcb×List qb×Bool):=λ_ aS h=>
 match aS with
 | []=>some (.ret (.bool true),h,false)
 | _=>none
section
variable {P:Program} {gl:Nat->Option (List qa)}
theorem qgk:∀call xs h r h' e,qeG call xs h = some (r,h',e)->h' = h:=by
 intro call xs h r hh e hr
 unfold qeG at hr
 split at hr
 ·rename_i x y c
  cases hb:ile 0 x && (ile 0 y && (ile 0 c && ile c 1)) <;> rw [hb] at hr <;> cases hr
  rfl
 ·cases hr
theorem qn5 {x y c:Int} {G:qc} {vs:Array Value} (h:G.VL [.int .u64 x,.int .u64 y,.int .u64 c] vs.toList):vs = #[.int .u64 x,.int .u64 y,.int .u64 c]:=by
 simp only [qc.VL,qg,qC] at h
 obtain ⟨v,r,e,rfl,v2,r2,rfl,rfl,v3,r3,rfl,rfl,rfl⟩:=h
 rw [<-Array.toArray_toList (xs:=vs),e]
theorem qlk {f : FuncId} {pf : Func} (hf : P.funcs[f]? = some pf) (hname : (pf.name == "runtime.NumGoroutine") = false) (hb : pf.body.isNone = true) (hn : Extern.findNext pf = none) (he : Extern.find pf = some add64Entry) : qhf P gl f qeG := by
 intro call hcall hk xs h r h' e' hrun G w vs hr hnt hall
 unfold qeG at hrun
 split at hrun
 ·rename_i x y c
  cases hc:ile 0 x && (ile 0 y && (ile 0 c && ile c 1)) <;> rw [hc] at hrun <;> cases hrun
  simp only [jm,qaT,decide_eq_true_eq] at hc
  obtain ⟨c1,c2,c3,c4⟩:=hc
  have hvs:=qn5 hall
  subst hvs
  refine .inr ⟨λi hi=>by simp at hi,.tuple #[.int .u64 ((x + y + c) % 18446744073709551616),.int .u64 ((x + y + c) / 18446744073709551616)],w,?_,_,G,rfl,Ext.refl _ G _,hr,hnt,?_⟩
  ·rw [run_callFunc_extern hf hname hb hn he,run_add64 x y c c1 c2 c3 c4]
   rfl
  ·simp only [qc.V,qC,qg]
   exact ⟨_,rfl,_,_,rfl,rfl,_,_,rfl,rfl,rfl⟩
 ·cases hrun
theorem qcw {g:AE.Call->List qa->List qb->Option (qcb×List qb×Bool)} (hg:∀call xs h r h' e,g call xs h = some (r,h',e)->h' = h) (call:AE.Call):qZ λ_ xs h=>g call xs h:=by
 intro fv xs h r h' e' hr
 obtain rfl:=hg _ _ _ _ _ _ hr
 exact ⟨jo _,λ_=>qal.refl _ _⟩
end
section
variable {P:Program} {gl:Nat->Option (List qa)}
theorem qiF:∀call xs h r h' e,qxa call xs h = some (r,h',e)->h' = h:=by
 intro call xs h r hh e hr
 unfold qxa at hr
 split at hr
 ·cases hr
  rfl
 ·cases hr
theorem qvR {f : FuncId} {pf : Func} (hf : P.funcs[f]? = some pf) (hname : (pf.name == "runtime.NumGoroutine") = false) (hb : pf.body.isNone = true) (hn : Extern.findNext pf = none) (he : Extern.find pf = some Extern.BytealgCompare.compare) : qhf P gl f qxa := by
 intro call hcall hk xs h r h' e' hrun G w vs hr hnt hall
 unfold qxa at hrun
 split at hrun
 ·rename_i a b
  cases hrun
  simp only [qc.VL,qg,qC] at hall
  obtain ⟨v,r,e,⟨s,rfl,rfl⟩,v2,r2,rfl,⟨s2,rfl,rfl⟩,rfl⟩:=hall
  have hvs:vs = #[.string s,.string s2]:=by rw [<-Array.toArray_toList (xs:=vs),e]
  subst hvs
  refine .inr ⟨λi hi=>by simp at hi,.int .i64 (Lib.compareBytes s.data.toList s2.data.toList),w,?_,_,G,rfl,Ext.refl _ G _,hr,hnt,?_⟩
  ·rw [run_callFunc_extern hf hname hb hn he,Lib.run_compareString]
   rfl
  ·simp only [qc.V,qC]
 ·cases hrun
end
noncomputable def qDj (t:List qa):Nat->qa:=List.rec (motive:=λ_=>Nat->qa) (λ_=>.undef) (λa _ ih n=>Nat.rec (motive:=λ_=>qa) a (λm _=>ih m) n) t
noncomputable def qho (v:qa) (t:List qa):Nat->List qa:=List.rec (motive:=λ_=>Nat->List qa) (λ_=>[]) (λa aS ih n=>Nat.rec (motive:=λ_=>List qa) (v :: aS) (λm _=>a :: ih m) n) t
theorem qkg:∀(t:List qa) (i:Nat),qDj t i = t.getD i .undef
 | [],_=>rfl
 | _ :: _,0=>rfl
 | _ :: t,i + 1=>qkg t i
theorem qsc (v:qa):∀(t:List qa) (i:Nat),qho v t i = t.set i v
 | [],_=>rfl
 | _ :: _,0=>rfl
 | a :: t,i + 1=>congrArg (a :: ·) (qsc v t i)
noncomputable def qv0 (k:IntKind) (n:Int):qa:=
 Int.rec (motive:=λ_=>qa) (λm=>Nat.rec (motive:=λ_=>qa) (.int k (.ofNat 0)) (λp _=>.int k (.ofNat (p + 1))) m) (λm=>.int k (.negSucc m)) n
noncomputable def qvZ (b:Bool):qa:=Bool.rec (motive:=λ_=>qa) (.bool false) (.bool true) b
noncomputable def qCU (v:qa):qa:=
 qa.casesOn (motive_1:=λ_=>qa) v .undef .bool .int .str .nilptr .ptr .iptr (λxs f=>qgh.casesOn (motive:=λ_=>qa) f (.lst xs .no) (.lst xs .full) (λ_=>.lst xs .no)) .nilfunc .fn .yld .niliface .iface .agg .tup .sl .mp .nilmap .nils .empt
noncomputable def qv1 (v:qa):qa:=
 qa.casesOn (motive_1:=λ_=>qa) v .undef qvZ qv0 .str .nilptr .ptr .iptr .lst .nilfunc .fn .yld .niliface .iface .agg .tup .sl .mp .nilmap .nils .empt
theorem qpI (b:Bool):qvZ b = .bool b:=by cases b <;> rfl
theorem qpJ (k:IntKind) (n:Int):qv0 k n = .int k n:=by
 cases n with
 | ofNat m=>cases m <;> rfl
 | negSucc m=>rfl
theorem qo5:qCU = qa.dim:=by
 funext v
 cases v <;> try rfl
 rename_i xs f
 cases f <;> rfl
theorem qpK (v:qa):qv1 v = v:=by cases v <;> first | rfl | exact qpI _ | exact qpJ _ _
noncomputable def qEQ (d:Nat) (v:qa) (t:List qa):List qa:=
 qa.casesOn (motive_1:=λ_=>List qa) (qv1 v) (qho .undef t d) (λb=>qho (.bool b) t d) (λk n=>qho (.int k n) t d) (λx=>qho (.str x) t d) (qho .nilptr t d) (λa b=>qho (.ptr a b) t d) (λa b=>qho (.iptr a b) t d) (λa b=>qho (.lst a b) t d)
  (qho .nilfunc t d) (λa b c=>qho (.fn a b c) t d) (λa=>qho (.yld a) t d) (qho .niliface t d) (λa b=>qho (.iface a b) t d) (λa=>qho (.agg a) t d) (λa=>qho (.tup a) t d) (λa b c e f=>qho (.sl a b c e f) t d) (λa=>qho (.mp a) t d) (qho .nilmap t d) (qho .nils t d) (qho .empt t d)
theorem qzo (d:Nat) (v:qa) (t:List qa):qEQ d v t = t.set d v:=by
 unfold qEQ
 rw [qpK]
 cases v <;> exact qsc _ _ _
noncomputable def qsS (t:List qa):qh->qa
 | .t i=>qDj t i
 | .c v=>v
noncomputable def evF (t:List qa) (x:qh):qa:=qCU (qsS t x)
noncomputable def qkT (dst:Option Nat) (v:qa) (t:List qa):List qa:=
 match dst with
 | some d=>qEQ d v t
 | none=>t
noncomputable def qf1 (t:List qa) (x:qh):List qa:=
 match x with
 | .t i=>match qDj t i with
  | .lst xs (.own _)=>t.set i (.lst xs .no)
  | _=>t
 | .c _=>t
theorem qfu:qsS = raw:=by
 funext t x
 cases x
 ·exact qkg _ _
 ·rfl
theorem qgw:evF = ev:=by
 funext t x
 simp only [evF,ev,qfu,qo5]
theorem qkU:qkT = put:=by
 funext d v t
 cases d
 ·rfl
 ·exact qzo _ _ _
theorem qj6:qf1 = qaR:=by
 funext t x
 cases x
 ·simp only [qf1,qaR,qkg]
  rfl
 ·rfl
noncomputable def qfC (t:List qa) (x:Option qh) (d:Nat):Option Nat:=
 match x with
 | none=>some d
 | some x=>match evF t x with
  | .int _ n=>if 0 <= n then some n.toNat else none
  | _=>none
noncomputable def qrT (t:List qa) (o:AOp):Option qa:=
 match o with
 | .mov x=>some (evF t x)
 | .pick c a b=>match evF t c with
  | .bool true=>some (evF t a)
  | .bool false=>some (evF t b)
  | _=>none
 | .build zero parts=>(q8 zero (parts.map λ(o,s,x)=>(o,s,evF t x))).map .agg
 | .list k zero len parts=>
  if zero.length = k/\len * k <= 2 ^ 24 then
   match q8 ((List.replicate len zero).flatten) (parts.map λ(i,x)=>(i * k,k,evF t x)) with
   | some cs=>if cs.all qa.storable then some (.lst ((List.range len).map λi=>if k = 1 then (cs.getD i .undef) else .agg ((cs.drop (i * k)).take k)) .full) else none
   | none=>none
  else none
 | .nilc x=>match evF t x with
  | .ptr i o=>some (.ptr i o)
  | .iptr cs o=>some (.iptr cs o)
  | .fn f a b=>some (.fn f a b)
  | .yld l=>some (.yld l)
  | .iface u v=>some (.iface u v)
  | _=>none
 | .bin op x y=>qbV op (evF t x) (evF t y)
 | .eqb neg x y=>match evF t x,evF t y with
  | .bool a,.bool b=>some (.bool ((a == b) != neg))
  | _,_=>none
 | .eqi k neg x y=>(qzZ k (evF t x) (evF t y)).map λb=>.bool (b != neg)
 | .eqa neg x y=>match evF t x,evF t y with
  | .agg a,.agg b=>(qjY a b).map λr=>.bool (r != neg)
  | _,_=>none
 | .eqs sh neg x y=>(qCW sh (evF t x) (evF t y)).map λr=>.bool (r != neg)
 | .un op x=>unV op (evF t x)
 | .nls neg x=>match evF t x with
  | .sl ..=>some (.bool (false != neg))
  | .lst (_ :: _) _=>some (.bool (false != neg))
  | .nils=>some (.bool (true != neg))
  | .empt=>some (.bool (false != neg))
  | _=>none
 | .cvi k x=>match evF t x with
  | .int _ n=>some (.int k (k.wrap n))
  | _=>none
 | .cvs x=>match evF t x with
  | .str s=>some (.str s)
  | _=>none
 | .cvb x=>match evF t x with
  | .str s=>some (.lst (qh6 s) .no)
  | _=>none
 | .mkI ty x=>match evF t x with
  | .undef=>none
  | v=>some (.iface ty v)
 | .mkF f a b=>some (.fn f (a.map (evF t)) (b.map (evF t)))
 | .subS x lo hi=>match evF t x with
  | .str s=>match qfC t hi s.length with
   | some h=>match qfC t lo 0 with
    | some l=>if l <= h/\h <= s.length then some (.str ((s.drop l).take (h - l))) else none
    | none=>none
   | none=>none
  | _=>none
 | .subL k x lo hi=>match evF t x with
  | .lst xs f=>match qfC t hi xs.length with
   | some h=>match qfC t lo 0 with
    | some l=>
     if l <= h/\h <= xs.length then
      if xs.head?.all (λy=>y.cells.length == k) then some (.lst ((xs.drop l).take (h - l)) (if h = xs.length then f else .no)) else none
     else none
    | none=>none
   | none=>none
  | .sl id o len cap more=>match qfC t hi len with
   | some h=>match qfC t lo 0 with
    | some l=>
     if l <= h/\h <= cap then
      if cap = l then (if more = 0 then some (.lst [] .full) else none) else (if more = 0\/more = k then some (.sl id (o + l * k) (h - l) (cap - l) more) else none)
     else none
    | none=>none
   | none=>none
  | _=>none
 | .fa off a=>match evF t a with
  | .ptr i o=>some (.ptr i (o + off))
  | .iptr cs o=>some (.iptr cs (o + off))
  | _=>none
 | .ixaL k s i=>match evF t s,evF t i with
  | .lst xs _,.int _ n=>
   if 0 <= n/\n < xs.length then
    match xs[n.toNat]? with
    | some x=>if x.cells.length = k then some (.iptr x.cells 0) else none
    | none=>none
   else none
  | .sl id o len _ _,.int _ n=>if 0 <= n/\n < len then some (.ptr id (o + n.toNat * k)) else none
  | _,_=>none
 | .ixaA len k a i=>match evF t a,evF t i with
  | .ptr b o,.int _ n=>if 0 <= n/\n < (len:Int) then some (.ptr b (o + n.toNat * k)) else none
  | .iptr cs o,.int _ n=>if 0 <= n/\n < (len:Int) then some (.iptr cs (o + n.toNat * k)) else none
  | _,_=>none
 | .ixS s i=>match evF t s,evF t i with
  | .str l,.int _ n=>if 0 <= n then (l[n.toNat]?).map λb=>.int .u8 b.toNat else none
  | _,_=>none
 | .ixA len k a i=>match evF t a,evF t i with
  | .agg cs,.int _ n=>if 0 <= n/\n < (len:Int) then cut cs (n.toNat * k.getD 1) k else none
  | _,_=>none
 | .fld off k x=>match evF t x with
  | .agg cs=>cut cs off k
  | _=>none
 | .ext x i=>match evF t x with
  | .tup vs=>(vs[i]?).map qa.dim
  | _=>none
 | .len true x=>match evF t x with
  | .str s=>some (.int .i64 s.length)
  | _=>none
 | .len false x=>match evF t x with
  | .lst xs _=>some (.int .i64 xs.length)
  | .sl _ _ len _ _=>some (.int .i64 len)
  | .nils=>some (.int .i64 0)
  | .empt=>some (.int .i64 0)
  | _=>none
 | .mm isMax x y=>match evF t x,evF t y with
  | .int k a,.int _ b=>some (.int k (if isMax then (if b > a then b else a) else (if b < a then b else a)))
  | _,_=>none
 | .tas ty zero x=>match evF t x with
  | .niliface=>some (.tup [zero,.bool false])
  | .iface u v=>if u = ty then some (.tup [v,.bool true]) else some (.tup [zero,.bool false])
  | _=>none
 | _=>none
noncomputable def qsA (k:Nat) (p:qcD) (x:qh) (s:St):Option (List qa×St):=
 match x with
 | .c _=>none
 | .t i=>
  match qsS s.t (.t i) with
  | .lst xs (.own j)=>if j = k then some (xs,{ s with t:=s.t.set i (.lst xs .no)}) else none
  | _=>
   match p.find? (·.1 == i) with
   | some (_,.tmp b)=>
    match qsS s.t (.t b) with
    | .lst xs (.own j)=>if j = k then some (xs,{ s with t:=s.t.set b (.lst xs .no)}) else none
    | _=>none
   | some (_,.cell a)=>
    match evF s.t a with
    | .ptr id o=>
     match s.h[id]? with
     | some (.cells cs)=>
      match cs[o]? with
      | some (.lst xs (.own j))=>if j = k then some (xs,{ s with h:=s.h.set id (.cells (cs.set o (.lst xs .no)))}) else none
      | _=>none
     | _=>none
    | _=>none
   | none=>none
noncomputable def qlQ (base:Nat) (call:Call) (p:qcD) (dst:Option Nat) (o:AOp) (s:St):Option (Ex×St):=
 match o with
 | .asg x=>some (.nor,{ s with t:=qkT dst (qsS s.t x) (qf1 s.t x)})
 | .new cs=>some (.nor,{ s with t:=qkT dst (.ptr s.h.length 0) s.t,h:=s.h ++ [.cells (cs.map qa.dim)]})
 | .box k x=>
  let vs:=(evF s.t x).cells.map qa.dim
  if vs.length = k/\vs.all qa.storable then some (.nor,{ s with t:=qkT dst (.ptr s.h.length 0) s.t,h:=s.h ++ [.cells vs]}) else none
 | .ld k a=>(qcl s.h (evF s.t a) k).map λv=>(.nor,{ s with t:=qkT dst v s.t})
 | .st k a x=>
  match evF s.t a with
  | .ptr id o=>
   match s.h[id]? with
   | some (.cells cs)=>
    let v:=qsS s.t x
    let vs:=match k with | none=>[v] | some _=>v.dim.cells.map qa.dim
    if vs.length = k.getD 1/\o + vs.length <= cs.length/\vs.all qa.storable then
     some (.nor,{ t:=qkT dst .undef (qf1 s.t x),h:=s.h.set id (.cells (splice cs o vs)),e:=s.e || !(Nat.ble base id || qr (id + 1) vs)})
    else none
   | _=>none
  | _=>none
 | .call f args=>
  match call (evF s.t f) (args.map (evF s.t)) s.h with
  | some (.ret v,h,e)=>some (.nor,{ t:=qkT dst v.dim s.t,h,e:=s.e || e})
  | some (.pan v,h,e)=>some (.pan v,{ s with h,e:=s.e || e})
  | none=>none
 | .app k x y=>
  match qsS s.t x,tail (evF s.t y) with
  | .lst xs f,some ys=>
   if ys.isEmpty then some (.nor,{ s with t:=qkT dst (qa.lst xs f).dim s.t})
   else if xs.length + ys.length <= qdH/\ys.all (λy=>y.cells.length == k && y.cells.all qa.storable)/\xs.head?.all (λy=>y.cells.length == k) then
    match f with
    | .full=>some (.nor,{ s with t:=qkT dst (.lst (xs ++ ys) (.own k)) s.t})
    | _=>
     match qsA k p x s with
     | some (xs,s)=>if xs.head?.all (λy=>y.cells.length == k) then some (.nor,{ s with t:=qkT dst (.lst (xs ++ ys) (.own k)) s.t}) else none
     | none=>none
   else none
  | _,_=>none
 | .pan x=>match evF s.t x with
  | .iface u v=>some (.pan (.iface u v),s)
  | _=>none
 | .lk sh z ok m key=>(qlG s.h sh z ok (evF s.t m) (evF s.t key)).map λv=>(.nor,{ s with t:=qkT dst v s.t})
 | .hx o aS=>(hop base o (aS.map (evF s.t)) s.h).map λr=>(.nor,{ t:=qkT dst r.1.dim s.t,h:=r.2.1,e:=s.e || r.2.2})
 | o=>(qrT s.t o).map λv=>(.nor,{ s with t:=qkT dst v s.t})
noncomputable def qio (t:List qa) (g:Option (Nat×Bool)):Option Bool:=
 match g with
 | none=>some true
 | some (j,b)=>match qsS t (.t j) with
  | .bool c=>some (c == b)
  | .tup []=>some false
  | _=>none
noncomputable def qg3 (base:Nat) (call:Call):qcD->List qaq->St->Option (Ex×St)
 | _,[],s=>some (.nor,s)
 | p,o :: os,s=>
  match qio s.t o.guard with
  | some true=>
   match qlQ base call p o.dst o.op s with
   | some (.nor,s)=>qg3 base call (qaY p o) os s
   | r=>r
  | some false=>qg3 base call (qaY p { o with op:=.pick (.c .undef) (.c .undef) (.c .undef)}) os { s with t:=qkT o.dst (.tup []) s.t}
  | none=>none
noncomputable def qoF (s:St) (o:AOp):Option Chk:=
 match o with
 | .ld k a=>(qcl s.h (evF s.t a) k).map (.ld (evF s.t a) k)
 | .lk sh z ok m key=>(qlG s.h sh z ok (evF s.t m) (evF s.t key)).map (.lk sh z ok (evF s.t m) (evF s.t key))
 | .new cs=>some (.box s.h.length (cs.map qa.dim))
 | .box _ x=>some (.box s.h.length ((evF s.t x).cells.map qa.dim))
 | _=>none
noncomputable def qca (base:Nat) (call:Call) (dsts:List Nat):List qN->List (Nat×Chk)->St->Option (Ex×St)
 | [],_,s=>some (.nor,s)
 | d :: ds,pend,s=>
  match qio s.t d.o.guard with
  | some true=>
   match qlQ base call [] d.o.dst d.o.op s with
   | some (.nor,s')=>
    if d.o.op.effs then
     let I:=pend.filter λc=>!d.cl.testBit c.1
     if I.all (λc=>c.2.ok s'.h) then qca base call dsts ds I s' else none
    else
     match qoF s d.o.op with
     | some c=>qca base call dsts ds ((d.ix,c) :: pend) s'
     | none=>qca base call dsts ds pend s'
   | some (.pan v,s')=>if d.o.op.effs then some (.pan v,{ s' with t:=qcs dsts s'.t}) else none
   | _=>none
  | some false=>qca base call dsts ds pend { s with t:=qkT d.o.dst (.tup []) s.t}
  | none=>none
noncomputable def qcX (n base:Nat) (call:Call):qG->St->Option (Ex×St)
 | .skip,s=>some (.nor,s)
 | .reg ops,s=>qg3 base call [] ops s
 | .draw ops,s=>qca base call (ops.filterMap (·.o.dst)) ops [] s
 | .draw2 c a b r,s=>qvN a b (qca base call ((c ++ a :: b :: r).filterMap (·.o.dst)) (c ++ [a,b]) [] s) (qca base call ((c ++ a :: b :: r).filterMap (·.o.dst)) (c ++ a :: b :: r) [] s) (qca base call ((c ++ a :: b :: r).filterMap (·.o.dst)) (c ++ b :: a :: r) [] s)
 | .seq a b,s=>match qcX n base call a s with
  | some (.nor,s)=>qcX n base call b s
  | r=>r
 | .cond c a b,s=>match evF s.t c with
  | .bool true=>qcX n base call a s
  | .bool false=>qcX n base call b s
  | _=>none
 | .block id b,s=>match qcX n base call b s with
  | some (.exit j,s)=>if j = id then some (.nor,s) else some (.exit j,s)
  | r=>r
 | .loop b,s=>iter (qcX n base call b) n s
 | .exit id,s=>some (.exit id,s)
 | .ret,s=>some (.ret,s)
 | .rfun f ps asg body,s=>
  match evF s.t f with
  | .fn g first cap=>
   match call (.fn g first cap) [.yld s.h.length] (s.h ++ [.loop (s.t.map qa.dim) ps asg body .ready none]) with
   | some (.ret _,h,e)=>
    match h[s.h.length]? with
    | some (.loop t a7 a1 S st pend)=>
     if st = .busy then none else
     let s':St:={ s with h:=h.set s.h.length (.loop t a7 a1 S .exhausted pend),e:=s.e || e}
     match pend with
     | none=>some (.nor,s')
     | some .ret=>some (.ret,s')
     | some (.exit id)=>some (.exit id,s')
    | _=>none
   | some (.pan v,h,e)=>some (.pan v,{ s with h,e:=s.e || e})
   | none=>none
  | _=>none
noncomputable def qd3 (s:St):List qle->Option (List qa)
 | []=>some []
 | .tmp i :: rs=>match qd3 s rs with
  | some vs=>some (qCU (qsS s.t (.t i)) :: vs)
  | none=>none
 | .cell a k :: rs=>
  match qcl s.h (qsS s.t (.t a)) k,qd3 s rs with
  | some v,some vs=>some (v :: vs)
  | _,_=>none
noncomputable def qr5 (n:Nat) (call:Call) (l:Nat) (args:List qa) (h:List qb):Option (qcb×List qb×Bool):=
 match h[l]? with
 | some (.loop t ps asg body _ _)=>
  if args.length ≠ ps.length then none else
  let base:=h.length
  match qcX n base call asg ⟨qof t ps (args.map qa.dim),h,false⟩ with
  | some (.nor,s)=>
   match s.h[l]? with
   | some (.loop t1 a6 U M .ready pend)=>
    match qcX n base call body { s with h:=s.h.set l (.loop t1 a6 U M .busy pend)} with
    | some (x,s)=>
     match s.h[l]? with
     | some (.loop t2 J E B _ _)=>
      match x with
      | .nor=>some (qaU base (.ret (.bool true)) (s.h.set l (.loop t2 J E B .ready none)) s.e)
      | .ret=>some (qaU base (.ret (.bool false)) (s.h.set l (.loop t2 J E B .done (some .ret))) s.e)
      | .exit id=>some (qaU base (.ret (.bool false)) (s.h.set l (.loop t2 J E B .done (some (.exit id)))) s.e)
      | .pan _=>none
     | _=>none
    | none=>none
   | _=>none
  | _=>none
 | _=>none
noncomputable def qr9 (F:FuncId->Option qt) (X:qff):Nat->Call
 | 0=>λ_ _ _=>none
 | n + 1=>λfv args h=>
  match fv with
  | .fn f first cap=>
   match X f with
   | some g=>g (qr9 F X n) (first ++ args ++ cap) h
   | none=>
    match F f with
    | none=>none
    | some fn=>
     let aS:=(first ++ args ++ cap).map qa.dim
     match qcX n h.length (qr9 F X n) fn.code ⟨aS ++ List.replicate (fn.ntmps - aS.length) (.tup []),h,false⟩ with
     | some (.nor,s) | some (.ret,s)=>
      match qd3 s fn.results with
      | some vs=>some (qaU h.length (.ret (qbS vs)) s.h s.e)
      | none=>none
     | some (.pan v,s)=>some (qaU h.length (.pan v) s.h s.e)
     | _=>none
  | .yld l=>qr5 n (qr9 F X n) l args h
  | _=>none
theorem qou:qfC = bound:=by
 funext t x d
 cases x <;> simp only [qfC,bound,qgw] <;> rfl
theorem qrU:qrT = pureV:=by
 funext t o
 cases o <;> simp only [qrT,pureV,qgw,qou] <;> first | rfl | (cases ‹Bool› <;> rfl)
theorem qlP (t:List qa) (i:Nat):raw t (.t i) = t.getD i .undef:=rfl
theorem qsB:qsA = qdO:=by
 funext k p x s
 cases x <;> simp only [qsA,qdO,qfu,qlP,qgw] <;> rfl
theorem qjv:qlQ = qv:=by
 funext base call p dst o s
 cases o <;> simp only [qlQ,qv,qfu,qgw,qkU,qj6,qsB,qrU] <;> rfl
theorem qhM:qio = wanted:=by
 funext t g
 cases g <;> simp only [qio,wanted,qfu,qlP] <;> rfl
theorem qhJ (base:Nat) (call:Call):∀(os:List qaq) (p:qcD) (s:St),qg3 base call p os s = qa2 base call p os s
 | [],_,_=>rfl
 | o :: os,p,s=>by
  simp only [qg3,qa2,qhM,qjv,qkU,qhJ base call os]
  rfl
theorem qoG:qoF = qeK:=by
 funext s o
 cases o <;> simp only [qoF,qeK,qgw] <;> rfl
theorem qez (base:Nat) (call:Call) (dsts:List Nat):∀(ds:List qN) (pend:List (Nat×Chk)) (s:St),qca base call dsts ds pend s = qx base call dsts ds pend s
 | [],_,_=>rfl
 | d :: ds,pend,s=>by
  simp only [qca,qx,qhM,qjv,qkU,qoG,qez base call dsts ds]
  rfl
theorem qcL (n base:Nat) (call:Call):∀(c:qG),qcX n base call c = qbe n base call c
 | .skip=>by funext s;simp only [qcX,qbe] <;> rfl
 | .reg ops=>by funext s;simp only [qcX,qbe,qhJ] <;> rfl
 | .draw ops=>by funext s;simp only [qcX,qbe,qez] <;> rfl
 | .draw2 c a b r=>by funext s;simp only [qcX,qbe,qez] <;> rfl
 | .seq a b=>by funext s;simp only [qcX,qbe,qcL n base call a,qcL n base call b] <;> rfl
 | .cond c a b=>by funext s;simp only [qcX,qbe,qgw,qcL n base call a,qcL n base call b] <;> rfl
 | .block id b=>by funext s;simp only [qcX,qbe,qcL n base call b] <;> rfl
 | .loop b=>by funext s;simp only [qcX,qbe,qcL n base call b] <;> rfl
 | .rfun f ps asg body=>by funext s;simp only [qcX,qbe,qgw] <;> rfl
 | .exit id=>by funext s;simp only [qcX,qbe] <;> rfl
 | .ret=>by funext s;simp only [qcX,qbe] <;> rfl
theorem qey (s:St):∀rs:List qle,qd3 s rs = qaF s rs
 | []=>rfl
 | .tmp i :: rs=>by simp only [qd3,qaF,qey s rs,qfu,qlP,qo5] <;> rfl
 | .cell a k :: rs=>by simp only [qd3,qaF,qey s rs,qfu,qlP] <;> rfl
theorem qr6 (n:Nat) (call:Call):qr5 n call = round n call:=by
 funext l args h
 simp only [qr5,round,qcL] <;> rfl
theorem qkY (F:FuncId->Option qt) (X:qff):∀n:Nat,qr9 F X n = run F X n
 | 0=>rfl
 | n + 1=>by
  funext fv args h
  simp only [qr9,run,qkY F X n,qcL,qey,qr6] <;> rfl
def memo (k:Nat) (as0:List qa) (h0:List qb) (r0:qcb) (h1:List qb) (e1:Bool) (_:Call) (aS:List qa) (h:List qb):Option (qcb×List qb×Bool):=
 if Nat.ble k h.length && (qiv aS as0 && qzQ (h.drop k) h0) then some (r0,h.take k ++ h1,e1) else none
theorem qrf {k:Nat} {as0 aS:List qa} {h0 h h1:List qb} {r0:qcb} {e1:Bool} {r:qcb×List qb×Bool} {call:Call} (hm:memo k as0 h0 r0 h1 e1 call aS h = some r):aS = as0/\(∃H,H.length = k/\h = H ++ h0/\r = (r0,H ++ h1,e1)):=by
 unfold memo at hm
 split at hm
 ·rename_i hh
  simp only [jm,Nat.ble_eq] at hh
  cases hm
  refine ⟨qcU _ _ hh.2.1,h.take k,by simp;omega,?_,rfl⟩
  rw [<-qop hh.2.2,List.take_append_drop]
 ·cases hm
def qlc (X:qff) (f:FuncId) (g:Call->List qa->List qb->Option (qcb×List qb×Bool)):qff:=λi=>if i == f then some g else X i
theorem qgf {X:qff} {f i:FuncId} {g g':Call->List qa->List qb->Option (qcb×List qb×Bool)} (h:qlc X f g i = some g'):(i = f/\g' = g)\/X i = some g':=by
 unfold qlc at h
 cases e:i == f with
 | true=>rw [e] at h;exact .inl ⟨by simpa using e,(Option.some.inj h).symm⟩
 | false=>rw [e] at h;exact .inr h
abbrev qvG (X:qff) (f:FuncId) (k:Nat) (as0:List qa) (h0:List qb) (r0:qcb) (h1:List qb) (e1:Bool):qff:=qlc X f (memo k as0 h0 r0 h1 e1)
section
variable {P:Program} {gl:Nat->Option (List qa)} {F:FuncId->Option qt} {X:qff} {f:FuncId} {fn:qt} {n k:Nat} {as0:List qa} {h0 h1:List qb} {r0:qcb} {e1:Bool}
theorem qvX {g:Call->List qa->List qb->Option (qcb×List qb×Bool)} (hP:qeb P gl F) (hF:F f = some fn) (E:qcc P gl (run F X n)) (hg:∀call aS h r,g call aS h = some r->run F X n (.fn f [] []) aS h = some r):qhf P gl f g:=by
 intro call _ _ aS h r h' e' M G w vs hr hn ha
 have J:=hg _ _ _ _ M
 obtain ⟨pf,c,p1,p2,p3,_⟩:=hP f fn hF
 have B:=qbc (P:=P) p1 p2 p3 vs w
 have S:G.V (.fn f [] []) (.func (.func f) #[] #[]):=by simp [qc.V,qC,qg]
 have I:(qeI (.func (.func f) #[] #[]) vs).run P w = (callFunc f vs).run P w:=by rw [qfY];simp
 rcases E _ _ _ _ _ _ J G w _ vs hr hn S ha with ⟨f',U,k1,k2⟩ | ⟨_,_,_,_,_,_,hy,_⟩ | ⟨v,w',_,k1,_⟩
 ·rw [I,B] at k1
  cases k1
  exact .inl ⟨B,k2⟩
 ·cases hy
 ·rw [I,B] at k1
  cases k1
structure qfW (P:Program) (gl:Nat->Option (List qa)) (F:FuncId->Option qt) (X:qff):Prop where
 ok:∀f g,X f = some g->qhf P gl f g
 keeps:∀f g,X f = some g->∀call,qZ call->qZ λ_ xs h=>g call xs h
theorem qfW.call (B:P.follows .mixedOrders = true) (hP:qeb P gl F) (hX:qfW P gl F X) (n:Nat):qcc P gl (run F X n):=qjx B hP hX.ok hX.keeps n
theorem qfW.put {Y:qff} {g:Call->List qa->List qb->Option (qcb×List qb×Bool)} (B:P.follows .mixedOrders = true) (hP:qeb P gl F) (hX:qfW P gl F X) (hY:qfW P gl F Y) (hF:F f = some fn) (hg:∀call aS h r,g call aS h = some r->qr9 F X n (.fn f [] []) aS h = some r):qfW P gl F (qlc Y f g):=by
 rw [qkY] at hg
 constructor
 ·intro i g' hi
  rcases qgf hi with ⟨rfl,rfl⟩ | hi
  ·exact qvX hP hF (hX.call B hP n) hg
  ·exact hY.ok i g' hi
 ·intro i g' hi call hk
  rcases qgf hi with ⟨rfl,rfl⟩ | hi
  ·intro fv aS h r h' e' hr
   exact qe6 hX.keeps n _ _ _ _ _ _ (hg _ _ _ _ hr)
  ·exact hY.keeps i g' hi call hk
theorem qfW.memo (E:P.follows .mixedOrders = true) (hP:qeb P gl F) {Y:qff} (hX:qfW P gl F X) (hY:qfW P gl F Y) (hF:F f = some fn) (B:∀H:List qb,H.length = k->qr9 F X n (.fn f [] []) as0 (H ++ h0) = some (r0,H ++ h1,e1)) :
  qfW P gl F (qvG Y f k as0 h0 r0 h1 e1):=
 hX.put (n:=n) E hP hY hF λcall aS h r hr=>by
  obtain ⟨e1,H,hH,e2,e3⟩:=qrf hr
  rw [e1,e2,e3]
  exact B H hH
def qlU (g:List qa->List qb->Option (qcb×List qb×Bool)) (_:Call) (aS:List qa) (h:List qb):Option (qcb×List qb×Bool):=
 match aS with
 | [.lst [] .full]=>some (.ret (.lst [] .full),h,false)
 | aS=>g aS h
theorem qfW.split {Y:qff} (I:P.follows .mixedOrders = true) (hP:qeb P gl F) (hX:qfW P gl F X) (hY:qfW P gl F Y) (hF:F f = some fn)
  (h1:∀H,run F X n (.fn f [] []) [.nils] H = some (.ret (.lst [] .full),H,false)) (h2:∀H,run F X n (.fn f [] []) [.empt] H = some (.ret (.lst [] .full),H,false)):qfW P gl F (qlc Y f (qlU (run F X n (.fn f [] [])))):=by
 have base:=qvX (g:=λ_ aS h=>run F X n (.fn f [] []) aS h) hP hF (hX.call I hP n) (λ_ _ _ _ h=>h)
 constructor
 ·intro i g' hi
  rcases qgf hi with ⟨rfl,rfl⟩ | hi
  ·intro call hc hk aS h r h' e' B G w vs hr hn ha
   unfold qlU at B
   split at B
   ·cases B
    have E:=ha
    simp only [qc.VL,qg,qC] at E
    obtain ⟨v,rest,e,⟨a,len,cap,rfl,g1,g2,g3,g4,_⟩,rfl⟩:=E
    simp only [jE] at g1
    subst g1
    have g3:=g3 trivial
    subst g3
    cases a with
    | none=>exact (base call hc hk _ _ _ _ _ (h1 h) G w vs hr hn (by rw [e];simp [qc.VL,qg,qC])).imp (λx=>x) λx=>⟨by simp,x.2⟩
    | some b=>exact (base call hc hk _ _ _ _ _ (h2 h) G w vs hr hn (by rw [e];simp [qc.VL,qg,qC])).imp (λx=>x) λx=>⟨by simp,x.2⟩
   ·exact base call hc hk _ _ _ _ _ B G w vs hr hn ha
  ·exact hY.ok i g' hi
 ·intro i g' hi call hk
  rcases qgf hi with ⟨rfl,rfl⟩ | hi
  ·intro fv aS h r h' e' B
   have hr:qlU (run F X n (.fn i [] [])) call aS h = some (r,h',e'):=B
   unfold qlU at hr
   split at hr
   ·cases hr;exact ⟨jo _,λ_=>qal.refl _ _⟩
   ·exact qe6 hX.keeps n _ _ _ _ _ _ hr
  ·exact hY.keeps i g' hi call hk
def memoR (k:Nat) (as0:List qa) (h0:List qb) (r0:qcb) (h1:List qb) (e1:Bool) (g:List qa->List qb->Option (qcb×List qb×Bool)) (c:Call) (aS:List qa) (h:List qb):Option (qcb×List qb×Bool):=
 match memo k as0 h0 r0 h1 e1 c aS h with
 | some r=>some r
 | none=>g aS h
theorem qfW.memoR {Y:qff} (E:P.follows .mixedOrders = true) (hP:qeb P gl F) (hX:qfW P gl F X) (hY:qfW P gl F Y) (hF:F f = some fn) (B:∀H:List qb,H.length = k->qr9 F X n (.fn f [] []) as0 (H ++ h0) = some (r0,H ++ h1,e1)) :
  qfW P gl F (qlc Y f (AE.memoR k as0 h0 r0 h1 e1 (qr9 F X n (.fn f [] [])))):=
 hX.put (n:=n) E hP hY hF λcall aS h r hr=>by
  unfold AE.memoR at hr
  split at hr
  ·rename_i r' hm
   cases hr
   obtain ⟨q1,H,hH,q2,q3⟩:=qrf hm
   rw [q1,q2,q3]
   exact B H hH
  ·exact hr
def memoT (d:Nat) (s0:List UInt8) (tab:List (Nat×Nat×qcb)) (_:Call) (aS:List qa) (h:List qb):Option (qcb×List qb×Bool):=
 match aS with
 | [.str s,.int .i64 (.ofNat n)]=>match tab.find? λe=>Nat.beq e.1 n with
  | some e=>if Nat.beq h.length (e.2.1 + d) && s == s0 then some (e.2.2,h,false) else none
  | none=>none
 | _=>none
theorem quP {d:Nat} {s0:List UInt8} {tab:List (Nat×Nat×qcb)} {call:Call} {aS:List qa} {h:List qb} {r:qcb×List qb×Bool} (hm:memoT d s0 tab call aS h = some r) :
  ∃e ∈ tab,aS = [.str s0,.int .i64 (.ofNat e.1)]/\h.length = e.2.1 + d/\r = (e.2.2,h,false):=by
 unfold memoT at hm
 split at hm
 ·split at hm
  ·rename_i e he
   split at hm
   ·rename_i hh
    simp only [jm,Nat.beq_eq,beq_iff_eq] at hh
    have h1:=List.find?_some he
    simp only [Nat.beq_eq] at h1
    refine ⟨e,List.mem_of_find?_eq_some he,?_,hh.1,(Option.some.inj hm).symm⟩
    rw [h1,hh.2]
   ·cases hm
  ·cases hm
 ·cases hm
theorem qfW.memoT (E:P.follows .mixedOrders = true) (hP:qeb P gl F) {Y:qff} {d:Nat} {s0:List UInt8} {tab:List (Nat×Nat×qcb)} (hX:qfW P gl F X) (hY:qfW P gl F Y) (hF:F f = some fn)
  (B:∀e ∈ tab,∀H:List qb,H.length = e.2.1 + d->qr9 F X n (.fn f [] []) [.str s0,.int .i64 (.ofNat e.1)] H = some (e.2.2,H,false)):qfW P gl F (qlc Y f (AE.memoT d s0 tab)):=
 hX.put (n:=n) E hP hY hF λcall aS h r hr=>by
  obtain ⟨e,he,e1,hk,e2⟩:=quP hr
  rw [e1,e2]
  exact B e he h hk
def bx (f:Nat->qb) (k:Nat):List qb:=(List.range k).map f
theorem qBe {p:List qb->Prop} (h:p []):∀H:List qb,H.length = 0->p H:=λH hH=>by
 rw [List.eq_nil_of_length_eq_zero hH];exact h
end
def Le {α:Type} (a b:Option α):Prop:=∀x,a = some x->b = some x
theorem Le.refl {α:Type} (a:Option α):Le a a:=λ_ h=>h
def CLe (c d:Call):Prop:=∀fv aS h,Le (c fv aS h) (d fv aS h)
theorem CLe.refl (c:Call):CLe c c:=λ_ _ _ _ h=>h
def qCy {α:Type} (g:Nat->Option α):Prop:=∀n m,n <= m->Le (g n) (g m)
def qd9 (c:Nat->Call):Prop:=∀n m,n <= m->CLe (c n) (c m)
open Classical in
noncomputable def lim {α:Type} (g:Nat->Option α):Option α:=if h:∃n x,g n = some x then g h.choose else none
theorem qkF {α:Type} {g:Nat->Option α} (hg:qCy g) (x:α):lim g = some x↔∃n,g n = some x:=by
 unfold lim
 constructor
 ·intro h
  split at h
  ·exact ⟨_,h⟩
  ·cases h
 ·rintro ⟨n,hn⟩
  have h:∃n x,g n = some x:=⟨n,x,hn⟩
  rw [dif_pos h]
  obtain ⟨y,hy⟩:=h.choose_spec
  have h1:=hg _ (max n h.choose) (Nat.le_max_right ..) _ hy
  have h2:=hg _ (max n h.choose) (Nat.le_max_left ..) _ hn
  rw [hy,<-h1,h2]
theorem qc8 {α:Type} (a:Option α):lim (λ_=>a) = a:=by
 apply Option.ext
 intro x
 rw [qkF (λ_ _ _=>Le.refl _)]
 exact ⟨λ⟨_,h⟩=>h,λh=>⟨0,h⟩⟩
noncomputable def qq5 (c:Nat->Call):Call:=λfv aS h=>lim λn=>c n fv aS h
theorem qd0 {c:Nat->Call} (hc:qd9 c) {fv:qa} {aS:List qa} {h:List qb} (x:qcb×List qb×Bool):qq5 c fv aS h = some x↔∃n,c n fv aS h = some x:=
 qkF (λn m B=>hc n m B fv aS h) x
theorem qqK {c:Nat->Call} (hc:qd9 c) (n:Nat):CLe (c n) (qq5 c):=λ_ _ _ x hx=>(qd0 hc x).2 ⟨n,hx⟩
section
variable {c d:Call} {base:Nat}
theorem qbN (hc:CLe c d) {p:qcD} {dst:Option Nat} {o:AOp} {s:St}:Le (qv base c p dst o s) (qv base d p dst o s):=by
 cases o
 case call f args=>
  intro x hx
  simp only [qv] at hx ⊢
  split at hx
  ·rename_i B;rw [hc _ _ _ _ B];exact hx
  ·rename_i B;rw [hc _ _ _ _ B];exact hx
  ·cases hx
 all_goals exact λx hx=>hx
theorem qbK (hc:CLe c d):∀(ops:List qaq) (p:qcD) (s:St),Le (qa2 base c p ops s) (qa2 base d p ops s)
 | [],p,s=>λx hx=>hx
 | o :: os,p,s=>λx hx=>by
  simp only [qa2] at hx ⊢
  split at hx
  ·split at hx
   ·rename_i B;rw [qbN hc _ B];exact qbK hc os _ _ _ hx
   ·rename_i E
    have h1:=qbN hc _ hx
    rw [h1]
    split
    ·rename_i B;cases B;exact absurd hx (E _)
    ·rfl
  ·exact qbK hc os _ _ _ hx
  ·cases hx
theorem qaB (hc:CLe c d) (dsts:List Nat):∀(ops:List qN) (pend:List (Nat×Chk)) (s:St),Le (qx base c dsts ops pend s) (qx base d dsts ops pend s)
 | [],p,s=>λx hx=>hx
 | o :: os,p,s=>λx hx=>by
  simp only [qx] at hx ⊢
  split at hx
  ·split at hx
   ·rename_i B
    rw [qbN hc _ B]
    simp only
    split at hx
    ·rename_i he
     rw [if_pos he]
     split at hx
     ·rename_i hp;rw [if_pos hp];exact qaB hc dsts os _ _ _ hx
     ·cases hx
    ·rename_i he
     rw [if_neg he]
     split at hx
     ·exact qaB hc dsts os _ _ _ hx
     ·exact qaB hc dsts os _ _ _ hx
   ·rename_i B;rw [qbN hc _ B];exact hx
   ·cases hx
  ·exact qaB hc dsts os _ _ _ hx
  ·cases hx
theorem qdF {f g:St->Option (Ex×St)} (hf:∀s,Le (f s) (g s)):∀(n m:Nat),n <= m->∀s,Le (iter f n s) (iter g m s)
 | 0,_,_,s=>λx hx=>by cases hx
 | n + 1,0,h,s=>zo
 | n + 1,m + 1,h,s=>λx hx=>by
  simp only [iter] at hx ⊢
  split at hx
  ·rename_i B;rw [hf _ _ B];exact qdF hf n m zo _ _ hx
  ·rename_i E
   rw [hf _ _ hx]
   split
   ·rename_i B;cases B;exact absurd hx (E _)
   ·rfl
theorem qos {p q:qN} {a b e a' b' e':Option (Ex×St)} (h1:Le a a') (h2:Le b b') (h3:Le e e'):Le (qvN p q a b e) (qvN p q a' b' e'):=λx hx=>by
 unfold qvN at hx
 split at hx
 ·rename_i s0 s1 s2
  rw [h1 _ rfl,h2 _ rfl,h3 _ rfl]
  exact hx
 ·cases hx
theorem qJ (hc:CLe c d) {n m:Nat} (E:n <= m):∀(a:qG) (s:St),Le (qbe n base c a s) (qbe m base d a s)
 | .skip,s=>λx hx=>hx
 | .reg ops,s=>qbK hc ops _ s
 | .draw ops,s=>qaB hc _ ops _ s
 | .draw2 c a b r,s=>qos (qaB hc _ _ _ s) (qaB hc _ _ _ s) (qaB hc _ _ _ s)
 | .seq a b,s=>λx hx=>by
  simp only [qbe] at hx ⊢
  split at hx
  ·rename_i B;rw [qJ hc E a _ _ B];exact qJ hc E b _ _ hx
  ·rename_i I
   rw [qJ hc E a _ _ hx]
   split
   ·rename_i B;cases B;exact absurd hx (I _)
   ·rfl
 | .cond q a b,s=>λx hx=>by
  simp only [qbe] at hx ⊢
  split at hx
  ·exact qJ hc E a _ _ hx
  ·exact qJ hc E b _ _ hx
  ·cases hx
 | .block id b,s=>λx hx=>by
  simp only [qbe] at hx ⊢
  split at hx
  ·rename_i B;rw [qJ hc E b _ _ B];exact hx
  ·rename_i I
   rw [qJ hc E b _ _ hx]
   split
   ·rename_i B;cases B;exact absurd hx (I _ _)
   ·rfl
 | .loop b,s=>λx hx=>by
  simp only [qbe] at hx ⊢
  exact qdF (λs=>qJ hc E b s) n m E s x hx
 | .exit id,s=>λx hx=>hx
 | .ret,s=>λx hx=>hx
 | .rfun f ps asg body,s=>λx hx=>by
  simp only [qbe] at hx ⊢
  split at hx
  ·split at hx
   ·rename_i B;rw [hc _ _ _ _ B];exact hx
   ·rename_i B;rw [hc _ _ _ _ B];exact hx
   ·cases hx
  ·cases hx
theorem qnP (hc:CLe c d) {n m:Nat} (B:n <= m) {l:Nat} {args:List qa} {h:List qb}:Le (round n c l args h) (round m d l args h):=λx hx=>by
 simp only [round] at hx ⊢
 split at hx
 ·split at hx
  ·cases hx
  ·rename_i hl
   rw [if_neg hl]
   split at hx
   ·rename_i I
    rw [qJ hc B _ _ _ I]
    simp only
    split at hx
    ·split at hx
     ·rename_i E
      rw [qJ hc B _ _ _ E]
      exact hx
     ·cases hx
    ·cases hx
   ·cases hx
 ·cases hx
theorem qcq (hc:CLe c d) {n m:Nat} (E:n <= m) {df:qeD} {v:qa} {cv:List qa} {s:St}:Le (qeN n c df v cv s) (qeN m d df v cv s):=λx hx=>by
 simp only [qeN] at hx ⊢
 split at hx
 ·rename_i I
  rw [qbK hc _ _ _ _ I]
  dsimp only
  split at hx
  ·rename_i B;rw [qJ hc E _ _ _ B];exact hx
  ·rename_i B;rw [qJ hc E _ _ _ B];exact hx
  ·cases hx
 ·cases hx
theorem qc5 (hc:CLe c d) {n m:Nat} (E:n <= m) {df:qeD}:∀(b:qhg) (s:St),Le (qdE n base c df b s) (qdE m base d df b s)
 | .pre a r,s=>λx hx=>by
  simp only [qdE] at hx ⊢
  split at hx
  ·rename_i B;rw [qJ hc E _ _ _ B];exact qc5 hc E r _ _ hx
  ·cases hx
  ·rename_i h1 h2
   rw [qJ hc E _ _ _ hx]
   split
   ·rename_i B;cases B;exact absurd hx (h1 _)
   ·rename_i B;cases B;exact absurd hx (h2 _ _)
   ·rfl
 | .dfr f I slot rest,s=>λx hx=>by
  simp only [qdE] at hx ⊢
  split at hx
  ·split at hx
   ·rename_i hg
    rw [if_pos hg]
    split at hx
    ·rename_i B;rw [qJ hc E _ _ _ B];exact qcq hc E _ hx
    ·rename_i B;rw [qJ hc E _ _ _ B];exact qcq hc E _ hx
    ·rename_i B;rw [qJ hc E _ _ _ B];exact qcq hc E _ hx
    ·cases hx
   ·cases hx
  ·cases hx
theorem qmx (hc:CLe c d) {n m:Nat} (E:n <= m) {g:qjM} {aS:List qa} {h:List qb}:Le (qfS n g c aS h) (qfS m g d aS h):=λx hx=>by
 simp only [qfS] at hx ⊢
 split at hx
 ·rename_i B;rw [qc5 hc E _ _ _ B];exact hx
 ·rename_i B;rw [qc5 hc E _ _ _ B];exact hx
 ·rename_i B;rw [qc5 hc E _ _ _ B];exact hx
 ·cases hx
end
def qwy (X:qff):Prop:=∀f g,X f = some g->∀c d,CLe c d->∀aS h,Le (g c aS h) (g d aS h)
theorem qvk {F:FuncId->Option qt} {X:qff} (hX:qwy X) {n m:Nat} (E:n <= m) (hc:CLe (run F X n) (run F X m)):CLe (run F X (n + 1)) (run F X (m + 1)):=λfv aS h x hx=>by
 simp only [run] at hx ⊢
 split at hx
 ·split at hx
  ·rename_i hg
   exact hX _ _ hg _ _ hc _ _ _ hx
  ·split at hx
   ·cases hx
   ·split at hx
    ·rename_i B;rw [qJ hc E _ _ _ B];exact hx
    ·rename_i B;rw [qJ hc E _ _ _ B];exact hx
    ·rename_i B;rw [qJ hc E _ _ _ B];exact hx
    ·cases hx
 ·exact qnP hc E _ hx
 ·cases hx
theorem qgd {F:FuncId->Option qt} {X:qff} (hX:qwy X):∀n m:Nat,n <= m->CLe (run F X n) (run F X m)
 | 0,_,_=>λ_ _ _ x hx=>by cases hx
 | n + 1,0,h=>zo
 | n + 1,m + 1,h=>qvk hX zo (qgd hX n m zo)
section
variable {c:Nat->Call} {base:Nat}
theorem qd4 (hc:qd9 c) {p:qcD} {dst:Option Nat} {o:AOp} {s:St} {x:Ex×St} (hx:qv base (qq5 c) p dst o s = some x):∃k,qv base (c k) p dst o s = some x:=by
 cases o
 case call f args=>
  simp only [qv] at hx ⊢
  split at hx
  ·rename_i B;obtain ⟨k,hk⟩:=(qd0 hc _).1 B;exact ⟨k,by rw [hk];exact hx⟩
  ·rename_i B;obtain ⟨k,hk⟩:=(qd0 hc _).1 B;exact ⟨k,by rw [hk];exact hx⟩
  ·cases hx
 all_goals exact ⟨0,hx⟩
theorem qdp (hc:qd9 c):∀(ops:List qaq) (p:qcD) (s:St) (x:Ex×St),qa2 base (qq5 c) p ops s = some x->∃k,qa2 base (c k) p ops s = some x
 | [],p,s,x,hx=>⟨0,hx⟩
 | o :: os,p,s,x,hx=>by
  simp only [qa2] at hx ⊢
  split at hx
  ·split at hx
   ·rename_i B
    obtain ⟨k1,h1⟩:=qd4 hc B
    obtain ⟨k2,h2⟩:=qdp hc os _ _ _ hx
    refine ⟨max k1 k2,?_⟩
    rw [qbN (hc k1 _ (Nat.le_max_left ..)) _ h1]
    exact qbK (hc k2 _ (Nat.le_max_right ..)) _ _ _ _ h2
   ·rename_i E
    obtain ⟨k1,h1⟩:=qd4 hc hx
    refine ⟨k1,?_⟩
    rw [h1]
    split
    ·rename_i B;cases B;exact absurd hx (E _)
    ·rfl
  ·exact qdp hc os _ _ _ hx
  ·cases hx
theorem qbj (hc:qd9 c) (dsts:List Nat):∀(ops:List qN) (pend:List (Nat×Chk)) (s:St) (x:Ex×St),qx base (qq5 c) dsts ops pend s = some x->∃k,qx base (c k) dsts ops pend s = some x
 | [],p,s,x,hx=>⟨0,hx⟩
 | o :: os,p,s,x,hx=>by
  simp only [qx] at hx ⊢
  split at hx
  ·split at hx
   ·rename_i B
    obtain ⟨k1,h1⟩:=qd4 hc B
    split at hx
    ·rename_i he
     split at hx
     ·rename_i hp
      obtain ⟨k2,h2⟩:=qbj hc dsts os _ _ _ hx
      refine ⟨max k1 k2,?_⟩
      rw [qbN (hc k1 _ (Nat.le_max_left ..)) _ h1]
      simp only
      rw [if_pos he,if_pos hp]
      exact qaB (hc k2 _ (Nat.le_max_right ..)) dsts _ _ _ _ h2
     ·cases hx
    ·rename_i he
     split at hx
     ·obtain ⟨k2,h2⟩:=qbj hc dsts os _ _ _ hx
      rename_i hk
      refine ⟨max k1 k2,?_⟩
      rw [qbN (hc k1 _ (Nat.le_max_left ..)) _ h1]
      simp only
      rw [if_neg he]
      exact qaB (hc k2 _ (Nat.le_max_right ..)) dsts _ _ _ _ h2
     ·obtain ⟨k2,h2⟩:=qbj hc dsts os _ _ _ hx
      refine ⟨max k1 k2,?_⟩
      rw [qbN (hc k1 _ (Nat.le_max_left ..)) _ h1]
      simp only
      rw [if_neg he]
      exact qaB (hc k2 _ (Nat.le_max_right ..)) dsts _ _ _ _ h2
   ·rename_i B;obtain ⟨k1,h1⟩:=qd4 hc B;exact ⟨k1,by rw [h1];exact hx⟩
   ·cases hx
  ·exact qbj hc dsts os _ _ _ hx
  ·cases hx
theorem qi3 {f:St->Option (Ex×St)} {g:Nat->St->Option (Ex×St)} (hg:∀n m,n <= m->∀s,Le (g n s) (g m s)) (hf:∀s x,f s = some x->∃k,g k s = some x):∀(n:Nat) (s:St) (x:Ex×St),iter f n s = some x->∃k,iter (g k) n s = some x
 | 0,s,x,hx=>by cases hx
 | n + 1,s,x,hx=>by
  simp only [iter] at hx ⊢
  split at hx
  ·rename_i B
   obtain ⟨k1,h1⟩:=hf _ _ B
   obtain ⟨k2,h2⟩:=qi3 hg hf n _ _ hx
   refine ⟨max k1 k2,?_⟩
   rw [hg k1 _ (Nat.le_max_left ..) _ _ h1]
   exact qdF (hg k2 _ (Nat.le_max_right ..)) n n (jo _) _ _ h2
  ·rename_i E
   obtain ⟨k1,h1⟩:=hf _ _ hx
   refine ⟨k1,?_⟩
   rw [h1]
   split
   ·rename_i B;cases B;exact absurd hx (E _)
   ·rfl
theorem qa1 (hc:qd9 c) {n:Nat}:∀(a:qG) (s:St) (x:Ex×St),qbe n base (qq5 c) a s = some x->∃k,qbe n base (c k) a s = some x
 | .skip,s,x,hx=>⟨0,hx⟩
 | .reg ops,s,x,hx=>qdp hc ops _ s x hx
 | .draw ops,s,x,hx=>qbj hc _ ops _ s x hx
 | .draw2 c0 a0 b0 r0,s,x,hx=>by
  simp only [qbe] at hx ⊢
  unfold qvN at hx
  split at hx
  ·rename_i s0 s1 s2 e0 e1 e2
   obtain ⟨k0,h0⟩:=qbj hc _ _ _ s _ e0
   obtain ⟨k1,h1⟩:=qbj hc _ _ _ s _ e1
   obtain ⟨k2,h2⟩:=qbj hc _ _ _ s _ e2
   refine ⟨max k0 (max k1 k2),?_⟩
   rw [qaB (hc k0 _ (Nat.le_max_left ..)) _ _ _ s _ h0,qaB (hc k1 _ (jp (Nat.le_max_left ..) (Nat.le_max_right ..))) _ _ _ s _ h1,qaB (hc k2 _ (jp (Nat.le_max_right ..) (Nat.le_max_right ..))) _ _ _ s _ h2]
   exact hx
  ·cases hx
 | .seq a b,s,x,hx=>by
  simp only [qbe] at hx ⊢
  split at hx
  ·rename_i B
   obtain ⟨k1,h1⟩:=qa1 hc a _ _ B
   obtain ⟨k2,h2⟩:=qa1 hc b _ _ hx
   refine ⟨max k1 k2,?_⟩
   rw [qJ (hc k1 _ (Nat.le_max_left ..)) (jo _) _ _ _ h1]
   exact qJ (hc k2 _ (Nat.le_max_right ..)) (jo _) _ _ _ h2
  ·rename_i E
   obtain ⟨k1,h1⟩:=qa1 hc a _ _ hx
   refine ⟨k1,?_⟩
   rw [h1]
   split
   ·rename_i B;cases B;exact absurd hx (E _)
   ·rfl
 | .cond q a b,s,x,hx=>by
  simp only [qbe] at hx ⊢
  split at hx
  ·exact qa1 hc a _ _ hx
  ·exact qa1 hc b _ _ hx
  ·cases hx
 | .block id b,s,x,hx=>by
  simp only [qbe] at hx ⊢
  split at hx
  ·rename_i B
   obtain ⟨k1,h1⟩:=qa1 hc b _ _ B
   exact ⟨k1,by rw [h1];exact hx⟩
  ·rename_i E
   obtain ⟨k1,h1⟩:=qa1 hc b _ _ hx
   refine ⟨k1,?_⟩
   rw [h1]
   split
   ·rename_i B;cases B;exact absurd hx (E _ _)
   ·rfl
 | .loop b,s,x,hx=>by
  simp only [qbe] at hx ⊢
  exact qi3 (g:=λk=>qbe n base (c k) b) (λi j I s=>qJ (hc i j I) (jo _) b s) (λs x h=>qa1 hc b s x h) n s x hx
 | .exit id,s,x,hx=>⟨0,hx⟩
 | .ret,s,x,hx=>⟨0,hx⟩
 | .rfun f ps asg body,s,x,hx=>by
  simp only [qbe] at hx ⊢
  split at hx
  ·split at hx
   ·rename_i B;obtain ⟨k,hk⟩:=(qd0 hc _).1 B;exact ⟨k,by rw [hk];exact hx⟩
   ·rename_i B;obtain ⟨k,hk⟩:=(qd0 hc _).1 B;exact ⟨k,by rw [hk];exact hx⟩
   ·cases hx
  ·cases hx
theorem qfl (hc:qd9 c) {n:Nat} {df:qeD} {v:qa} {cv:List qa} {s:St} {x:Ex×St} (hx:qeN n (qq5 c) df v cv s = some x):∃k,qeN n (c k) df v cv s = some x:=by
 simp only [qeN] at hx ⊢
 split at hx
 ·rename_i E
  obtain ⟨k1,h1⟩:=qdp hc _ _ _ _ E
  split at hx
  ·rename_i B
   obtain ⟨k2,h2⟩:=qa1 hc _ _ _ B
   refine ⟨max k1 k2,?_⟩
   rw [qbK (hc k1 _ (Nat.le_max_left ..)) _ _ _ _ h1]
   simp only
   rw [qJ (hc k2 _ (Nat.le_max_right ..)) (jo _) _ _ _ h2]
   exact hx
  ·rename_i B
   obtain ⟨k2,h2⟩:=qa1 hc _ _ _ B
   refine ⟨max k1 k2,?_⟩
   rw [qbK (hc k1 _ (Nat.le_max_left ..)) _ _ _ _ h1]
   simp only
   rw [qJ (hc k2 _ (Nat.le_max_right ..)) (jo _) _ _ _ h2]
   exact hx
  ·cases hx
 ·cases hx
theorem qdY (hc:qd9 c) {n:Nat} {df:qeD}:∀(b:qhg) (s:St) (x:Ex×St),qdE n base (qq5 c) df b s = some x->∃k,qdE n base (c k) df b s = some x
 | .pre a r,s,x,hx=>by
  simp only [qdE] at hx ⊢
  split at hx
  ·rename_i B
   obtain ⟨k1,h1⟩:=qa1 hc _ _ _ B
   obtain ⟨k2,h2⟩:=qdY hc r _ _ hx
   refine ⟨max k1 k2,?_⟩
   rw [qJ (hc k1 _ (Nat.le_max_left ..)) (jo _) _ _ _ h1]
   exact qc5 (hc k2 _ (Nat.le_max_right ..)) (jo _) _ _ _ h2
  ·cases hx
  ·rename_i h1 h2
   obtain ⟨k1,h3⟩:=qa1 hc _ _ _ hx
   refine ⟨k1,?_⟩
   rw [h3]
   split
   ·rename_i B;cases B;exact absurd hx (h1 _)
   ·rename_i B;cases B;exact absurd hx (h2 _ _)
   ·rfl
 | .dfr f E slot rest,s,x,hx=>by
  simp only [qdE] at hx ⊢
  split at hx
  ·split at hx
   ·rename_i hg
    simp only [if_pos hg]
    split at hx
    ·rename_i B
     obtain ⟨k1,h1⟩:=qa1 hc _ _ _ B
     obtain ⟨k2,h2⟩:=qfl hc hx
     refine ⟨max k1 k2,?_⟩
     rw [qJ (hc k1 _ (Nat.le_max_left ..)) (jo _) _ _ _ h1]
     exact qcq (hc k2 _ (Nat.le_max_right ..)) (jo _) _ h2
    ·rename_i B
     obtain ⟨k1,h1⟩:=qa1 hc _ _ _ B
     obtain ⟨k2,h2⟩:=qfl hc hx
     refine ⟨max k1 k2,?_⟩
     rw [qJ (hc k1 _ (Nat.le_max_left ..)) (jo _) _ _ _ h1]
     exact qcq (hc k2 _ (Nat.le_max_right ..)) (jo _) _ h2
    ·rename_i B
     obtain ⟨k1,h1⟩:=qa1 hc _ _ _ B
     obtain ⟨k2,h2⟩:=qfl hc hx
     refine ⟨max k1 k2,?_⟩
     rw [qJ (hc k1 _ (Nat.le_max_left ..)) (jo _) _ _ _ h1]
     exact qcq (hc k2 _ (Nat.le_max_right ..)) (jo _) _ h2
    ·cases hx
   ·cases hx
  ·cases hx
theorem qmw (hc:qd9 c) {n:Nat} {g:qjM} {aS:List qa} {h:List qb} {x:qcb×List qb×Bool} (hx:qfS n g (qq5 c) aS h = some x):∃k,qfS n g (c k) aS h = some x:=by
 simp only [qfS] at hx ⊢
 split at hx
 ·rename_i B;obtain ⟨k1,h1⟩:=qdY hc _ _ _ B;exact ⟨k1,by rw [h1];exact hx⟩
 ·rename_i B;obtain ⟨k1,h1⟩:=qdY hc _ _ _ B;exact ⟨k1,by rw [h1];exact hx⟩
 ·rename_i B;obtain ⟨k1,h1⟩:=qdY hc _ _ _ B;exact ⟨k1,by rw [h1];exact hx⟩
 ·cases hx
end
noncomputable def qm (base:Nat) (call:Call) (a:qG) (s:St):Option (Ex×St):=lim λn=>qbe n base call a s
section
variable {base:Nat} {call:Call}
theorem qaC {a:qG} {s:St} (x:Ex×St):qm base call a s = some x↔∃n,qbe n base call a s = some x:=
 qkF (λn m B=>qJ (CLe.refl _) B a s) x
theorem qms (s:St):qm base call .skip s = some (.nor,s):=qc8 _
theorem qiP (ops:List qaq) (s:St):qm base call (.reg ops) s = qa2 base call [] ops s:=qc8 _
theorem qmq (ops:List qN) (s:St):qm base call (.draw ops) s = qx base call (ops.filterMap (·.o.dst)) ops [] s:=qc8 _
theorem qmr (id:Nat) (s:St):qm base call (.exit id) s = some (.exit id,s):=qc8 _
theorem qpx (s:St):qm base call .ret s = some (.ret,s):=qc8 _
def qdc (f:St->Option (Ex×St)):Option (Ex×St)->Option (Ex×St)
 | some (.nor,s)=>f s
 | r=>r
theorem qpy (a b:qG) (s:St):qm base call (.seq a b) s = qdc (qm base call b) (qm base call a s):=by
 apply Option.ext
 intro x
 rw [qaC]
 constructor
 ·rintro ⟨n,h⟩
  simp only [qbe] at h
  split at h
  ·rename_i B
   rw [(qaC _).2 ⟨n,B⟩]
   exact (qaC _).2 ⟨n,h⟩
  ·rename_i E
   rw [(qaC _).2 ⟨n,h⟩]
   unfold qdc
   split
   ·rename_i B;cases B;exact absurd h (E _)
   ·rfl
 ·intro h
  unfold qdc at h
  split at h
  ·rename_i B
   obtain ⟨n1,h1⟩:=(qaC _).1 B
   obtain ⟨n2,h2⟩:=(qaC _).1 h
   refine ⟨max n1 n2,?_⟩
   simp only [qbe]
   rw [qJ (CLe.refl _) (Nat.le_max_left n1 n2) _ _ _ h1]
   exact qJ (CLe.refl _) (Nat.le_max_right n1 n2) _ _ _ h2
  ·rename_i E
   obtain ⟨n1,h1⟩:=(qaC _).1 h
   refine ⟨n1,?_⟩
   simp only [qbe]
   rw [h1]
   split
   ·rename_i B;cases B;exact absurd h (E _)
   ·rfl
theorem qmp (q:qh) (a b:qG) (s:St):qm base call (.cond q a b) s = match ev s.t q with
  | .bool true=>qm base call a s
  | .bool false=>qm base call b s
  | _=>none:=by
 simp only [qm,qbe]
 generalize ev s.t q = v
 cases v with
 | bool b=>cases b <;> rfl
 | _=>exact qc8 _
def qfB (id:Nat):Option (Ex×St)->Option (Ex×St)
 | some (.exit j,s)=>if j = id then some (.nor,s) else some (.exit j,s)
 | r=>r
theorem qka (id:Nat) (b:qG) (s:St):qm base call (.block id b) s = qfB id (qm base call b s):=by
 apply Option.ext
 intro x
 rw [qaC]
 constructor
 ·rintro ⟨n,h⟩
  simp only [qbe] at h
  split at h
  ·rename_i B
   rw [(qaC _).2 ⟨n,B⟩]
   exact h
  ·rename_i E
   rw [(qaC _).2 ⟨n,h⟩]
   unfold qfB
   split
   ·rename_i B;cases B;exact absurd h (E _ _)
   ·rfl
 ·intro h
  unfold qfB at h
  split at h
  ·rename_i B
   obtain ⟨n1,h1⟩:=(qaC _).1 B
   refine ⟨n1,?_⟩
   simp only [qbe]
   rw [h1]
   exact h
  ·rename_i E
   obtain ⟨n1,h1⟩:=(qaC _).1 h
   refine ⟨n1,?_⟩
   simp only [qbe]
   rw [h1]
   split
   ·rename_i B;cases B;exact absurd h (E _ _)
   ·rfl
theorem qaG (b:qG) (s:St):qm base call (.loop b) s = qdc (qm base call (.loop b)) (qm base call b s):=by
 apply Option.ext
 intro x
 rw [qaC]
 constructor
 ·rintro ⟨n,h⟩
  simp only [qbe] at h
  cases n with
  | zero=>cases h
  | succ n=>
   simp only [iter] at h
   split at h
   ·rename_i B
    rw [(qaC _).2 ⟨n + 1,B⟩]
    exact (qaC _).2 ⟨n + 1,qdF (λs=>Le.refl _) n (n + 1) zo _ _ h⟩
   ·rename_i E
    rw [(qaC _).2 ⟨n + 1,h⟩]
    unfold qdc
    split
    ·rename_i B;cases B;exact absurd h (E _)
    ·rfl
 ·intro h
  unfold qdc at h
  split at h
  ·rename_i B
   obtain ⟨n1,h1⟩:=(qaC _).1 B
   obtain ⟨n2,h2⟩:=(qaC _).1 h
   refine ⟨max n1 n2 + 1,?_⟩
   simp only [qbe,iter] at h2 ⊢
   rw [qJ (CLe.refl _) (show n1 <= max n1 n2 + 1 by omega) _ _ _ h1]
   exact qdF (λs=>qJ (CLe.refl _) (show n2 <= max n1 n2 + 1 by omega) b s) n2 (max n1 n2) zo _ _ h2
  ·rename_i E
   obtain ⟨n1,h1⟩:=(qaC _).1 h
   refine ⟨n1 + 1,?_⟩
   simp only [qbe,iter]
   rw [qJ (CLe.refl _) (Nat.le_succ n1) _ _ _ h1]
   split
   ·rename_i B;cases B;exact absurd h (E _)
   ·rfl
end
section
variable {F:FuncId->Option qt} {X:qff}
noncomputable def W (F:FuncId->Option qt) (X:qff):Call:=qq5 (run F X)
structure qok (X:qff):Prop where
 mono:qwy X
 cont:∀f g,X f = some g->∀c,qd9 c->∀aS h x,g (qq5 c) aS h = some x->∃k,g (c k) aS h = some x
theorem qwx (hX:qok X) {fv:qa} {aS:List qa} {h:List qb} (x:qcb×List qb×Bool):W F X fv aS h = some x↔∃n,run F X n fv aS h = some x:=
 qd0 (qgd hX.mono) x
theorem qF9 (hX:qok X) {f:FuncId} {first args cap:List qa} {h:List qb} {fn:qt} (h1:X f = none) (h2:F f = some fn) :
  W F X (.fn f first cap) args h = qj7 fn h (qm h.length (W F X) fn.code ⟨(first ++ args ++ cap).map qa.dim ++ List.replicate (fn.ntmps - ((first ++ args ++ cap).map qa.dim).length) (.tup []),h,false⟩):=by
 have B:=qgd (F:=F) hX.mono
 apply Option.ext
 intro x
 rw [qwx hX]
 constructor
 ·rintro ⟨n,hn⟩
  cases n with
  | zero=>cases hn
  | succ n=>
   rw [qwn h1 h2] at hn
   cases hq:qbe n h.length (run F X n) fn.code ⟨(first ++ args ++ cap).map qa.dim ++ List.replicate (fn.ntmps - ((first ++ args ++ cap).map qa.dim).length) (.tup []),h,false⟩ with
   | none=>rw [hq] at hn;cases hn
   | some y=>
    rw [hq] at hn
    have e:=(qaC y).2 ⟨n,qJ (qqK B n) (jo _) _ _ _ hq⟩
    rw [W,e]
    exact hn
 ·intro hn
  cases hq:qm h.length (W F X) fn.code ⟨(first ++ args ++ cap).map qa.dim ++ List.replicate (fn.ntmps - ((first ++ args ++ cap).map qa.dim).length) (.tup []),h,false⟩ with
  | none=>rw [hq] at hn;cases hn
  | some y=>
   rw [hq] at hn
   obtain ⟨k,hk⟩:=(qaC y).1 hq
   obtain ⟨m,hm⟩:=qa1 B _ _ _ hk
   refine ⟨max k m + 1,?_⟩
   rw [qwn h1 h2,qJ (B m _ (Nat.le_max_right k m)) (Nat.le_max_left k m) _ _ _ hm]
   exact hn
theorem qww (hX:qok X) {f:FuncId} {first args cap:List qa} {h:List qb} {g:Call->List qa->List qb->Option (qcb×List qb×Bool)} (h1:X f = some g) :
  W F X (.fn f first cap) args h = g (W F X) (first ++ args ++ cap) h:=by
 have B:=qgd (F:=F) hX.mono
 apply Option.ext
 intro x
 rw [qwx hX]
 constructor
 ·rintro ⟨n,hn⟩
  cases n with
  | zero=>cases hn
  | succ n=>
   rw [qsa h1] at hn
   exact hX.mono f g h1 _ _ (qqK B n) _ _ _ hn
 ·intro hn
  obtain ⟨k,hk⟩:=hX.cont f g h1 _ B _ _ _ hn
  exact ⟨k + 1,by rw [qsa h1];exact hk⟩
end
def lkp (t:List qa) (i:Nat):qa:=t.getD i .undef
section
variable {base:Nat} {call:Call} {p:qcD} {s:St} {t:List qa} {h:List qb}
theorem qGj (t:List qa) (i:Nat):ev t (.t i) = (lkp t i).dim:=rfl
theorem qGi (t:List qa) (v:qa):ev t (.c v) = v.dim:=rfl
theorem qEN (t:List qa) (i:Nat):raw t (.t i) = lkp t i:=rfl
theorem qEM (t:List qa) (v:qa):raw t (.c v) = v:=rfl
def up (t:List qa) (i:Nat) (v:qa):List qa:=t.set i v
theorem qbf (t:List qa) (i:Nat) (v:qa):(up t i v).length = t.length:=by simp [up]
theorem qyp {i:Nat} {v:qa} (h:i < t.length):lkp (up t i v) i = v:=by simp [lkp,up,List.getD,h]
theorem qyq {i j:Nat} {v:qa} (h:i ≠ j):lkp (up t i v) j = lkp t j:=by simp [lkp,up,List.getD,jg h]
theorem qq7 (a:qa) (t:List qa):lkp (a :: t) 0 = a:=rfl
theorem qq6 (a:qa) (t:List qa) (i:Nat):lkp (a :: t) (i + 1) = lkp t i:=rfl
theorem qve (d:Nat) (v:qa) (t:List qa):put (some d) v t = up t d v:=rfl
theorem qvd (v:qa) (t:List qa):put none v t = t:=rfl
theorem qo7:qa.undef.dim = .undef:=rfl
theorem qtk (b:Bool):(qa.bool b).dim = .bool b:=rfl
theorem qxp (k:IntKind) (n:Int):(qa.int k n).dim = .int k n:=rfl
theorem qxs (s:List UInt8):(qa.str s).dim = .str s:=rfl
theorem qmg:qa.nilptr.dim = .nilptr:=rfl
theorem qxr (i o:Nat):(qa.ptr i o).dim = .ptr i o:=rfl
theorem qtm (cs:List qa) (o:Nat):(qa.iptr cs o).dim = .iptr cs o:=rfl
theorem qAy (xs:List qa):(qa.lst xs .no).dim = .lst xs .no:=rfl
theorem qtl (xs:List qa):(qa.lst xs .full).dim = .lst xs .full:=rfl
theorem qxq (xs:List qa) (k:Nat):(qa.lst xs (.own k)).dim = .lst xs .no:=rfl
theorem qj4:qa.nilfunc.dim = .nilfunc:=rfl
theorem qAw (f:FuncId) (a b:List qa):(qa.fn f a b).dim = .fn f a b:=rfl
theorem qxu (i:Nat):(qa.yld i).dim = .yld i:=rfl
theorem qiK:qa.niliface.dim = .niliface:=rfl
theorem qo6 (t:TypeId) (v:qa):(qa.iface t v).dim = .iface t v:=rfl
theorem qxo (cs:List qa):(qa.agg cs).dim = .agg cs:=rfl
theorem qxt (cs:List qa):(qa.tup cs).dim = .tup cs:=rfl
theorem qiL (v:qa):v.dim.dim = v.dim:=by
 cases v with
 | lst xs f=>cases f <;> rfl
 | _=>rfl
def qgW (dst:Option Nat) (s:St):Option qa->Option (Ex×St)
 | some v=>some (.nor,{ s with t:=put dst v s.t})
 | none=>none
theorem qrX (dst:Option Nat) (t:List qa) (h:List qb) (e:Bool) (v:qa):qgW dst ⟨t,h,e⟩ (some v) = some (.nor,⟨put dst v t,h,e⟩):=rfl
theorem qsD (f:St->Option (Ex×St)) (s:St):qdc f (some (.ret,s)) = some (.ret,s):=rfl
theorem qn3 (f:St->Option (Ex×St)) (id:Nat) (s:St):qdc f (some (.exit id,s)) = some (.exit id,s):=rfl
theorem qsC (f:St->Option (Ex×St)) (v:qa) (s:St):qdc f (some (.pan v,s)) = some (.pan v,s):=rfl
theorem ql5 (id:Nat) (s:St):qfB id (some (.nor,s)) = some (.nor,s):=rfl
theorem ql7 (id:Nat) (s:St):qfB id (some (.ret,s)) = some (.ret,s):=rfl
theorem ql6 (id:Nat) (v:qa) (s:St):qfB id (some (.pan v,s)) = some (.pan v,s):=rfl
theorem qjV (id j:Nat) (s:St):qfB id (some (.exit j,s)) = if j = id then some (.nor,s) else some (.exit j,s):=rfl
def qxd (v:qa) (a b:Option (Ex×St)):Option (Ex×St):=
 match v with
 | .bool true=>a
 | .bool false=>b
 | _=>none
theorem qtW (q:qh) (a b:qG) (s:St):qm base call (.cond q a b) s = qxd (ev s.t q) (qm base call a s) (qm base call b s):=qmp q a b s
def qlB (v:qa) (b:Bool) (yes no:Option (Ex×St)):Option (Ex×St):=
 match v with
 | .bool c=>if c == b then yes else no
 | .tup []=>no
 | _=>none
theorem qy9:qa2 base call p [] s = some (.nor,s):=rfl
theorem qlL (d:Option Nat) (o:AOp) (os:List qaq):qa2 base call p (⟨d,o,none⟩ :: os) s = qdc (qa2 base call (qaY p ⟨d,o,none⟩) os) (qv base call p d o s):=by
 simp only [qa2,wanted]
 unfold qdc
 split <;> split <;> simp_all
theorem qjn (d:Option Nat) (o:AOp) (j:Nat) (b:Bool) (os:List qaq) :
  qa2 base call p (⟨d,o,some (j,b)⟩ :: os) s = qlB (lkp s.t j) b (qdc (qa2 base call (qaY p ⟨d,o,some (j,b)⟩) os) (qv base call p d o s))
   (qa2 base call (qaY p { dst:=d,op:=.pick (.c .undef) (.c .undef) (.c .undef),guard:=some (j,b)}) os { s with t:=put d (.tup []) s.t}):=by
 simp only [qa2,wanted,lkp]
 generalize s.t.getD j .undef = v
 cases v with
 | bool c=>
  simp only [qlB]
  cases hc:c == b with
  | false=>simp
  | true=>
   simp only [if_true]
   unfold qdc
   split <;> split <;> simp_all
 | tup vs=>cases vs <;> rfl
 | _=>rfl
theorem qBG (d:Option Nat) (x:qh):qv base call p d (.mov x) s = some (.nor,{ s with t:=put d (ev s.t x) s.t}):=rfl
theorem qBA (d:Option Nat) (x:qh):qv base call p d (.asg x) s = some (.nor,{ s with t:=put d (raw s.t x) (qaR s.t x)}):=rfl
def qco (v a b:qa):Option qa:=
 match v with
 | .bool true=>some a
 | .bool false=>some b
 | _=>none
theorem qnx (a b:qa):qco (.bool true) a b = some a:=rfl
theorem qkP (a b:qa):qco (.bool false) a b = some b:=rfl
theorem qrp (d:Option Nat) (c a b:qh):qv base call p d (.pick c a b) s = qgW d s (qco (ev s.t c) (ev s.t a) (ev s.t b)):=by
 simp only [qv,pureV]
 generalize ev s.t c = v
 cases v with
 | bool b=>cases b <;> rfl
 | _=>rfl
theorem qbx (d:Option Nat) (o:AOp) (ho:o.effs = false) (h1:∀cs,o ≠ .new cs) (h2:∀k x,o ≠ .box k x) (h3:∀k x,o ≠ .ld k x) (h4:∀sh z ok m key,o ≠ .lk sh z ok m key:=by simp):qv base call p d o s = qgW d s (pureV s.t o):=by
 cases o <;> first | exact absurd rfl (h4 _ _ _ _ _) | (simp [AOp.effs] at ho h1 h2 h3 <;> (simp only [qv];cases pureV s.t _ <;> rfl))
def faV (off:Nat):qa->Option qa
 | .ptr i o=>some (.ptr i (o + off))
 | .iptr cs o=>some (.iptr cs (o + off))
 | _=>none
theorem qxJ (off i o:Nat):faV off (.ptr i o) = some (.ptr i (o + off)):=rfl
theorem qt0 (off o:Nat) (cs:List qa):faV off (.iptr cs o) = some (.iptr cs (o + off)):=rfl
theorem qBC (d:Option Nat) (off:Nat) (a:qh):qv base call p d (.fa off a) s = qgW d s (faV off (ev s.t a)):=by
 rw [qbx _ _ rfl (by simp) (by simp) (by simp)]
 simp only [pureV]
 cases ev s.t a <;> rfl
theorem qwa (d:Option Nat) (op:BinOp) (x y:qh):qv base call p d (.bin op x y) s = qgW d s (qbV op (ev s.t x) (ev s.t y)):=qbx _ _ rfl (by simp) (by simp) (by simp)
theorem qBK (d:Option Nat) (op:UnOp) (x:qh):qv base call p d (.un op x) s = qgW d s (unV op (ev s.t x)):=qbx _ _ rfl (by simp) (by simp) (by simp)
def qhn:qa->Option qa
 | .ptr i o=>some (.ptr i o)
 | .iptr cs o=>some (.iptr cs o)
 | .fn f a b=>some (.fn f a b)
 | .yld l=>some (.yld l)
 | .iface u v=>some (.iface u v)
 | _=>none
theorem qro (d:Option Nat) (x:qh):qv base call p d (.nilc x) s = qgW d s (qhn (ev s.t x)):=by
 rw [qbx _ _ rfl (by simp) (by simp) (by simp)]
 simp only [pureV]
 cases ev s.t x <;> rfl
theorem qrk (i o:Nat):qhn (.ptr i o) = some (.ptr i o):=rfl
theorem qnq (cs:List qa) (o:Nat):qhn (.iptr cs o) = some (.iptr cs o):=rfl
def qbG (b:Bool) (v:qa):Option qa:=
 match b,v with
 | true,.str s=>some (.int .i64 s.length)
 | false,.lst xs _=>some (.int .i64 xs.length)
 | false,.sl _ _ len _ _=>some (.int .i64 len)
 | false,.nils=>some (.int .i64 0)
 | false,.empt=>some (.int .i64 0)
 | _,_=>none
theorem qwi (d:Option Nat) (b:Bool) (x:qh):qv base call p d (.len b x) s = qgW d s (qbG b (ev s.t x)):=by
 rw [qbx _ _ rfl (by simp) (by simp) (by simp)]
 cases b <;> simp only [pureV] <;> cases ev s.t x <;> rfl
theorem quH (s:List UInt8):qbG true (.str s) = some (.int .i64 s.length):=rfl
theorem quG (xs:List qa) (f:qgh):qbG false (.lst xs f) = some (.int .i64 xs.length):=rfl
def qaW (k:Nat) (s i:qa):Option qa:=
 match s,i with
 | .lst xs _,.int _ n=>
  if 0 <= n/\n < xs.length then
   match xs[n.toNat]? with
   | some x=>if x.cells.length = k then some (.iptr x.cells 0) else none
   | none=>none
  else none
 | .sl id o len _ _,.int _ n=>if 0 <= n/\n < len then some (.ptr id (o + n.toNat * k)) else none
 | _,_=>none
theorem qrn (d:Option Nat) (k:Nat) (x i:qh):qv base call p d (.ixaL k x i) s = qgW d s (qaW k (ev s.t x) (ev s.t i)):=by
 rw [qbx _ _ rfl (by simp) (by simp) (by simp)]
 simp only [pureV]
 cases ev s.t x <;> cases ev s.t i <;> rfl
theorem qbl {k:Nat} {xs:List qa} {f:qgh} {j:IntKind} {n:Nat} {x:qa} (hx:xs[n]? = some x) (hk:x.cells.length = k):qaW k (.lst xs f) (.int j n) = some (.iptr x.cells 0):=by
 have hn:n < xs.length:=(je.1 hx).1
 simp only [qaW,Int.toNat_natCast,hx]
 rw [if_pos ⟨zo,zo⟩,if_pos hk]
def qt2 (off:Nat) (k:Option Nat):qa->Option qa
 | .agg cs=>cut cs off k
 | _=>none
theorem qt3 (off:Nat) (k:Option Nat) (cs:List qa):qt2 off k (.agg cs) = cut cs off k:=rfl
theorem qwf (d:Option Nat) (off:Nat) (k:Option Nat) (x:qh):qv base call p d (.fld off k x) s = qgW d s (qt2 off k (ev s.t x)):=by
 rw [qbx _ _ rfl (by simp) (by simp) (by simp)]
 simp only [pureV]
 cases ev s.t x <;> rfl
theorem quY (d:Option Nat) (z:List qa) (ps:List (Nat×Nat×qh)):qv base call p d (.build z ps) s = qgW d s ((q8 z (ps.map λ(o,n,x)=>(o,n,ev s.t x))).map .agg):=qbx _ _ rfl (by simp) (by simp) (by simp)
theorem qBH (d:Option Nat) (cs:List qa):qv base call p d (.new cs) s = some (.nor,{ s with t:=put d (.ptr s.h.length 0) s.t,h:=s.h ++ [.cells (cs.map qa.dim)]}):=rfl
theorem qBD (d:Option Nat) (k:Option Nat) (a:qh):qv base call p d (.ld k a) s = qgW d s (qcl s.h (ev s.t a) k):=by
 simp only [qv]
 cases qcl s.h (ev s.t a) k <;> rfl
theorem qqI (cs:List qa) (o:Nat) (k:Option Nat):qcl h (.iptr cs o) k = cut cs o k:=rfl
theorem qdZ {i o:Nat} {k:Option Nat} {cs:List qa} (hi:h[i]? = some (.cells cs)):qcl h (.ptr i o) k = cut cs o k:=by simp only [qcl,hi]
theorem qhV (cs:List qa) (o:Nat):cut cs o none = (cs[o]?).map qa.dim:=rfl
theorem qeM {cs:List qa} {o k:Nat} (h:o + k <= cs.length):cut cs o (some k) = some (.agg (((cs.drop o).take k).map qa.dim)):=if_pos h
def stV (base:Nat) (k:Option Nat) (a v:qa) (h:List qb):Option (List qb×Bool):=
 match a with
 | .ptr id o=>
  match h[id]? with
  | some (.cells cs)=>
   let vs:=match k with | none=>[v] | some _=>v.dim.cells.map qa.dim
   if vs.length = k.getD 1/\o + vs.length <= cs.length/\vs.all qa.storable then
    some (h.set id (.cells (splice cs o vs)),!(Nat.ble base id || qr (id + 1) vs))
   else none
  | _=>none
 | _=>none
def stW (d:Option Nat) (t:List qa) (e:Bool):Option (List qb×Bool)->Option (Ex×St)
 | some (h,e')=>some (.nor,{ t:=put d .undef t,h,e:=e || e'})
 | none=>none
theorem qvo (d:Option Nat) (t:List qa) (e e':Bool) (h:List qb):stW d t e (some (h,e')) = some (.nor,⟨put d .undef t,h,e || e'⟩):=rfl
theorem qEF (d:Option Nat) (k:Option Nat) (a x:qh):qv base call p d (.st k a x) s = stW d (qaR s.t x) s.e (stV base k (ev s.t a) (raw s.t x) s.h):=by
 simp only [qv,stV]
 cases ev s.t a with
 | ptr id o=>
  simp only
  cases s.h[id]? with
  | none=>rfl
  | some b=>
   cases b with
   | cells cs=>cases k <;> (simp only;split <;> rfl)
   | _=>rfl
 | _=>rfl
end
section
variable {base:Nat} {call:Call} {p:qcD} {s:St} {t:List qa} {h:List qb}
def qw8 (d:Option Nat) (s:St):Option (qcb×List qb×Bool)->Option (Ex×St)
 | some (.ret v,h,e)=>some (.nor,{ t:=put d v.dim s.t,h,e:=s.e || e})
 | some (.pan v,h,e)=>some (.pan v,{ s with h,e:=s.e || e})
 | none=>none
theorem qy7 (d:Option Nat) (f:qh) (args:List qh):qv base call p d (.call f args) s = qw8 d s (call (ev s.t f) (args.map (ev s.t)) s.h):=by
 simp only [qv]
 cases call (ev s.t f) (args.map (ev s.t)) s.h with
 | none=>rfl
 | some r=>obtain ⟨r,h,e⟩:=r;cases r <;> rfl
theorem qox (d:Option Nat) (t:List qa) (h h':List qb) (e e':Bool) (v:qa):qw8 d ⟨t,h,e⟩ (some (.ret v,h',e')) = some (.nor,⟨put d v.dim t,h',e || e'⟩):=rfl
theorem qow (d:Option Nat) (t:List qa) (h h':List qb) (e e':Bool) (v:qa):qw8 d ⟨t,h,e⟩ (some (.pan v,h',e')) = some (.pan v,⟨t,h',e || e'⟩):=rfl
theorem qF (h l:List qb):(h ++ l)[h.length]? = l[0]?:=by rw [jc (jo _),Nat.sub_self]
theorem qQ (h l:List qb) (k:Nat):(h ++ l)[h.length + k]? = l[k]?:=by rw [jc zo,Nat.add_sub_cancel_left]
theorem qwo (h l:List qb) (b:qb):(h ++ l).set h.length b = h ++ l.set 0 b:=by rw [List.set_append_right _ _ (jo _),Nat.sub_self]
theorem qlT (h l:List qb) (k:Nat) (b:qb):(h ++ l).set (h.length + k) b = h ++ l.set k b:=by rw [List.set_append_right _ _ zo,Nat.add_sub_cancel_left]
theorem qxR {h l:List qb} {i:Nat} (hi:i < h.length):(h ++ l)[i]? = h[i]?:=ja hi
theorem qzq {h l:List qb} {i:Nat} {b:qb} (hi:i < h.length):(h ++ l).set i b = h.set i b ++ l:=List.set_append_left _ _ hi
theorem qqN {n:Nat} {h l:List qb} {v:qa} (hl:h.length = n) (hv:v.lower n = true):qaU n (.ret v) (h ++ l) false = (.ret v,h,false):=by subst hl;simp [qaU,hv]
theorem qnb {n:Nat} {h:List qb} {v:qa} (hl:h.length = n) (hv:v.lower n = true):qaU n (.ret v) h false = (.ret v,h,false):=by subst hl;simp [qaU,hv]
theorem qqM {n:Nat} {h l:List qb} {v:qa} (hl:h.length = n) (hv:v.lower n = true):qaU n (.pan v) (h ++ l) false = (.pan v,h,false):=by subst hl;simp [qaU,hv]
theorem qna {n:Nat} {h:List qb} {v:qa} (hl:h.length = n) (hv:v.lower n = true):qaU n (.pan v) h false = (.pan v,h,false):=by subst hl;simp [qaU,hv]
theorem q6 {n:Nat} {H h:List qb} {v:qa} (hc:H.take n = h) (hv:v.lower n = true):qaU n (.ret v) H false = (.ret v,h,false):=by simp [qaU,hv,hc]
theorem qse (h:List qb) (i:Nat) (a b:qb):(h.set i a).set i b = h.set i b:=List.set_set ..
theorem qxQ {h l:List qb} {n:Nat} (hl:h.length = n):(h ++ l)[n]? = l[0]?:=by subst hl;exact qF h l
theorem qzp {h l:List qb} {n:Nat} {b:qb} (hl:h.length = n):(h ++ l).set n b = h ++ l.set 0 b:=by subst hl;exact qwo h l b
theorem qpP {h l:List qb} {n k:Nat} (hl:h.length = n):(h ++ l)[n + k]? = l[k]?:=by subst hl;exact qQ h l k
theorem qsd {h l:List qb} {n k:Nat} {b:qb} (hl:h.length = n):(h ++ l).set (n + k) b = h ++ l.set k b:=by subst hl;exact qlT h l k b
theorem qmy {h:List qb} {i j:Nat} {b:qb} (B:i ≠ j):(h.set i b)[j]? = h[j]?:=jg B
theorem qxS {h:List qb} {i:Nat} {b:qb} (hi:i < h.length):(h.set i b)[i]? = some b:=List.getElem?_set_self hi
end
section
variable {base:Nat} {call:Call} {p:qcD} {s:St}
def qFC (d:Option Nat) (s:St) (k:Nat) (vs:List qa):Option (Ex×St):=
 if vs.length = k/\vs.all qa.storable then some (.nor,{ s with t:=put d (.ptr s.h.length 0) s.t,h:=s.h ++ [.cells vs]}) else none
theorem qBB (d:Option Nat) (k:Nat) (x:qh):qv base call p d (.box k x) s = qFC d s k ((ev s.t x).cells.map qa.dim):=rfl
theorem qw0 (d:Option Nat) (t:List qa) (h:List qb) (e:Bool) (k:Nat) (vs:List qa):qFC d ⟨t,h,e⟩ k vs = if vs.length = k/\vs.all qa.storable then some (.nor,⟨put d (.ptr h.length 0) t,h ++ [.cells vs],e⟩) else none:=rfl
def qsQ (ty:TypeId) (v:qa):Option qa:=
 match v with
 | .undef=>none
 | v=>some (.iface ty v)
theorem qwj (d:Option Nat) (ty:TypeId) (x:qh):qv base call p d (.mkI ty x) s = qgW d s (qsQ ty (ev s.t x)):=by
 rw [qbx _ _ rfl (by simp) (by simp) (by simp)]
 simp only [pureV]
 cases ev s.t x <;> rfl
theorem quQ (ty:TypeId) (cs:List qa):qsQ ty (.agg cs) = some (.iface ty (.agg cs)):=rfl
theorem quR (ty:TypeId) (k:IntKind) (n:Int):qsQ ty (.int k n) = some (.iface ty (.int k n)):=rfl
theorem qBE (d:Option Nat) (f:FuncId) (a b:List qh):qv base call p d (.mkF f a b) s = some (.nor,{ s with t:=put d (.fn f (a.map (ev s.t)) (b.map (ev s.t))) s.t}):=rfl
def qiq (s i:qa):Option qa:=
 match s,i with
 | .str l,.int _ n=>if 0 <= n then (l[n.toNat]?).map λb=>.int .u8 b.toNat else none
 | _,_=>none
theorem qwh (d:Option Nat) (x i:qh):qv base call p d (.ixS x i) s = qgW d s (qiq (ev s.t x) (ev s.t i)):=by
 rw [qbx _ _ rfl (by simp) (by simp) (by simp)]
 simp only [pureV]
 cases ev s.t x <;> cases ev s.t i <;> rfl
theorem qlC {l:List UInt8} {k:IntKind} {n:Nat} {b:UInt8} (h:l[n]? = some b):qiq (.str l) (.int k n) = some (.int .u8 b.toNat):=by
 simp only [qiq,Int.toNat_natCast,h,jO]
 rw [if_pos (Int.natCast_nonneg n)]
def qtY (i:Nat) (v:qa):Option qa:=
 match v with
 | .tup vs=>(vs[i]?).map qa.dim
 | _=>none
theorem qwe (d:Option Nat) (x:qh) (i:Nat):qv base call p d (.ext x i) s = qgW d s (qtY i (ev s.t x)):=by
 rw [qbx _ _ rfl (by simp) (by simp) (by simp)]
 simp only [pureV]
 cases ev s.t x <;> rfl
theorem qtZ (i:Nat) (vs:List qa):qtY i (.tup vs) = (vs[i]?).map qa.dim:=rfl
def qj9 (neg:Bool) (x y:qa):Option qa:=
 match x,y with
 | .bool a,.bool b=>some (.bool ((a == b) != neg))
 | _,_=>none
theorem qwc (d:Option Nat) (neg:Bool) (x y:qh):qv base call p d (.eqb neg x y) s = qgW d s (qj9 neg (ev s.t x) (ev s.t y)):=by
 rw [qbx _ _ rfl (by simp) (by simp) (by simp)]
 simp only [pureV]
 cases ev s.t x <;> cases ev s.t y <;> rfl
theorem qpt (neg a b:Bool):qj9 neg (.bool a) (.bool b) = some (.bool ((a == b) != neg)):=rfl
def qhs (k:Nat) (neg:Bool) (x y:qa):Option qa:=(qzZ k x y).map λb=>.bool (b != neg)
theorem qwd (d:Option Nat) (k:Nat) (neg:Bool) (x y:qh):qv base call p d (.eqi k neg x y) s = qgW d s (qhs k neg (ev s.t x) (ev s.t y)):=qbx _ _ rfl (by simp) (by simp) (by simp)
def qtf (k:IntKind) (v:qa):Option qa:=
 match v with
 | .int _ n=>some (.int k (k.wrap n))
 | _=>none
theorem qwb (d:Option Nat) (k:IntKind) (x:qh):qv base call p d (.cvi k x) s = qgW d s (qtf k (ev s.t x)):=by
 rw [qbx _ _ rfl (by simp) (by simp) (by simp)]
 simp only [pureV]
 cases ev s.t x <;> rfl
theorem qtg (k j:IntKind) (n:Int):qtf k (.int j n) = some (.int k (k.wrap n)):=rfl
def mmV (isMax:Bool) (x y:qa):Option qa:=
 match x,y with
 | .int k a,.int _ b=>some (.int k (if isMax then (if b > a then b else a) else (if b < a then b else a)))
 | _,_=>none
theorem qBF (d:Option Nat) (m:Bool) (x y:qh):qv base call p d (.mm m x y) s = qgW d s (mmV m (ev s.t x) (ev s.t y)):=by
 rw [qbx _ _ rfl (by simp) (by simp) (by simp)]
 simp only [pureV]
 cases ev s.t x <;> cases ev s.t y <;> rfl
theorem qrg (k j:IntKind) (a b:Int):mmV true (.int k a) (.int j b) = some (.int k (if b > a then b else a)):=rfl
theorem qBk (k j:IntKind) (a b:Nat):mmV true (.int k (a:Int)) (.int j (b:Int)) = some (.int k ((max a b:Nat):Int)):=by
 simp only [mmV,if_true]
 congr 2
 split <;> omega
theorem qyu (k j:IntKind) (a b:Int):mmV false (.int k a) (.int j b) = some (.int k (if b < a then b else a)):=rfl
def qF7 (s:St) (v:qa):Option (Ex×St):=
 match v with
 | .iface u v=>some (.pan (.iface u v),s)
 | _=>none
theorem qBI (d:Option Nat) (x:qh):qv base call p d (.pan x) s = qF7 s (ev s.t x):=by
 simp only [qv]
 cases ev s.t x <;> rfl
theorem qnw (s:St) (u:TypeId) (v:qa):qF7 s (.iface u v) = some (.pan (.iface u v),s):=rfl
end
section
variable {base:Nat} {call:Call} {p:qcD} {s:St}
def qi4 (len:Nat) (k:Option Nat) (a i:qa):Option qa:=
 match a,i with
 | .agg cs,.int _ n=>if 0 <= n/\n < (len:Int) then cut cs (n.toNat * k.getD 1) k else none
 | _,_=>none
theorem qwg (d:Option Nat) (len:Nat) (k:Option Nat) (a i:qh):qv base call p d (.ixA len k a i) s = qgW d s (qi4 len k (ev s.t a) (ev s.t i)):=by
 rw [qbx _ _ rfl (by simp) (by simp) (by simp)]
 simp only [pureV]
 cases ev s.t a <;> cases ev s.t i <;> rfl
theorem quw {len n:Nat} {j:IntKind} {cs:List qa} {v:qa} (hn:n < len) (hv:cs[n]? = some v):qi4 len none (.agg cs) (.int j n) = some v.dim:=by
 simp only [qi4]
 rw [if_pos ⟨zo,zo⟩]
 simp only [Int.toNat_natCast,Option.getD_none,Nat.mul_one,qhV,hv,jO]
end
section
variable {base:Nat} {call:Call} {p q:qcD} {s:St} {t:List qa} {h:List qb}
def AOp.isApp:AOp->Bool
 | .app ..=>true
 | _=>false
def qL:List qaq->Bool
 | []=>true
 | o :: os=>!o.op.isApp && qL os
def qE (s:St):AOp->Option qa
 | .mov x=>some (ev s.t x)
 | .pick c a b=>qco (ev s.t c) (ev s.t a) (ev s.t b)
 | .ld k a=>qcl s.h (ev s.t a) k
 | .bin op x y=>qbV op (ev s.t x) (ev s.t y)
 | .un op x=>unV op (ev s.t x)
 | .fa off a=>faV off (ev s.t a)
 | .nilc x=>qhn (ev s.t x)
 | .len b x=>qbG b (ev s.t x)
 | .ixaL k x i=>qaW k (ev s.t x) (ev s.t i)
 | .fld off k x=>qt2 off k (ev s.t x)
 | .ixS x i=>qiq (ev s.t x) (ev s.t i)
 | .ixA l k a i=>qi4 l k (ev s.t a) (ev s.t i)
 | .ext x i=>qtY i (ev s.t x)
 | .eqb n x y=>qj9 n (ev s.t x) (ev s.t y)
 | .eqi k n x y=>qhs k n (ev s.t x) (ev s.t y)
 | .cvi k x=>qtf k (ev s.t x)
 | .mm m x y=>mmV m (ev s.t x) (ev s.t y)
 | .mkI t x=>qsQ t (ev s.t x)
 | .lk sh z ok m key=>qlG s.h sh z ok (ev s.t m) (ev s.t key)
 | o=>pureV s.t o
def AOp.plain:AOp->Bool
 | .asg .. | .new .. | .box .. | .st .. | .call .. | .app .. | .pan .. | .hx ..=>false
 | _=>true
theorem qkZ {d:Option Nat} {o:AOp} (ho:o.plain = true):qv base call p d o s = qgW d s (qE s o):=by
 cases o <;> simp only [AOp.plain,jn] at ho
 case mov=>rfl
 case pick=>exact qrp _ _ _ _
 case ld=>exact qBD _ _ _
 case bin=>exact qwa _ _ _ _
 case un=>exact qBK _ _ _
 case fa=>exact qBC _ _ _
 case nilc=>exact qro _ _
 case len=>exact qwi _ _ _
 case ixaL=>exact qrn _ _ _ _
 case fld=>exact qwf _ _ _ _
 case ixS=>exact qwh _ _ _
 case ixA=>exact qwg _ _ _ _ _
 case ext=>exact qwe _ _ _
 case eqb=>exact qwc _ _ _ _
 case eqi=>exact qwd _ _ _ _ _
 case cvi=>exact qwb _ _ _
 case mm=>exact qBF _ _ _ _
 case mkI=>exact qwj _ _ _
 case lk sh z ok m key=>simp only [qv,qE];generalize qlG s.h sh z ok (ev s.t m) (ev s.t key) = r;cases r <;> rfl
 all_goals (simp only [qv,qE];generalize pureV s.t _ = r;cases r <;> rfl)
theorem qhI {d:Option Nat} {o:AOp} (ho:o.isApp = false):qv base call p d o s = qv base call q d o s:=by
 cases o <;> first | rfl | (simp [AOp.isApp] at ho)
def gv (q:Bool) (v:qa):qa:=bif q then v else .tup []
def qj (q:Bool) (d:Option Nat) (s:St) (r:Option qa) (k:St->Option (Ex×St)):Option (Ex×St):=
 bif q then (match r with | some v=>k { s with t:=put d v s.t} | none=>none) else k { s with t:=put d (.tup []) s.t}
def qaK (c:Bool) (r:Option qa):Option qa:=bif c then r else some (.tup [])
def qgF (g:qa) (b:Bool) (d:Option Nat) (s:St) (r:Option qa) (k:St->Option (Ex×St)):Option (Ex×St):=
 match g with
 | .bool c=>qj (c == b) d s r k
 | .tup []=>qj false d s r k
 | _=>none
def qgE (g:qa) (b:Bool) (d:Option Nat) (s:St) (r:Option (Ex×St)) (k:St->Option (Ex×St)):Option (Ex×St):=
 match g with
 | .bool c=>bif c == b then qdc k r else k { s with t:=put d (.tup []) s.t}
 | .tup []=>k { s with t:=put d (.tup []) s.t}
 | _=>none
def qjw (base:Nat) (call:Call):List qaq->St->Option (Ex×St)
 | [],s=>some (.nor,s)
 | o :: os,s=>
  match o.guard with
  | none=>qdc (qjw base call os) (qv base call [] o.dst o.op s)
  | some (j,b)=>
   match o.op.plain with
   | true=>qgF (lkp s.t j) b o.dst s (qE s o.op) (qjw base call os)
   | false=>qgE (lkp s.t j) b o.dst s (qv base call [] o.dst o.op s) (qjw base call os)
theorem qlR:∀(os:List qaq) (p:qcD) (s:St),qL os = true->qa2 base call p os s = qjw base call os s
 | [],p,s,_=>rfl
 | o :: os,p,s,hn=>by
  simp only [qL,jm,Bool.not_eq_true'] at hn
  obtain ⟨d,op,g⟩:=o
  have ih:=λp s=>qlR os p s hn.2
  cases g with
  | none=>
   simp only [qlL,qjw]
   rw [qhI (q:=[]) hn.1]
   congr 1
   funext s
   exact ih _ s
  | some jb=>
   obtain ⟨j,b⟩:=jb
   simp only [qjn,qjw]
   have e1:(qa2 base call (qaY p ⟨d,op,some (j,b)⟩) os) = qjw base call os:=funext λs=>ih _ s
   rw [e1,ih,qhI (q:=[]) hn.1]
   cases B:op.plain with
   | true=>
    simp only
    rw [qkZ B]
    generalize qE s op = r
    generalize lkp s.t j = g
    cases g with
    | bool c=>
     simp only [qlB,qgF,qj]
     cases c == b with
     | true=>cases r <;> rfl
     | false=>rfl
    | tup vs=>cases vs <;> rfl
    | _=>rfl
   | false=>
    simp only
    generalize lkp s.t j = g
    cases g with
    | bool c=>
     simp only [qlB,qgE]
     cases c == b <;> rfl
    | tup vs=>cases vs <;> rfl
    | _=>rfl
theorem qEO {ops:List qaq} (hn:qL ops = true):qm base call (.reg ops) s = qjw base call ops s:=by
 rw [qiP,qlR ops [] s hn]
theorem qzj {ops:List qaq} (B:qL ops = false):qm base call (.reg ops) s = qa2 base call [] ops s:=qiP ops s
theorem qEL:qjw base call [] s = some (.nor,s):=rfl
theorem qBP (d:Option Nat) (o:AOp) (os:List qaq):qjw base call (⟨d,o,none⟩ :: os) s = qdc (qjw base call os) (qv base call [] d o s):=rfl
theorem qzh (d:Option Nat) (o:AOp) (j:Nat) (b:Bool) (os:List qaq) (ho:o.plain = true):qjw base call (⟨d,o,some (j,b)⟩ :: os) s = qgF (lkp s.t j) b d s (qE s o) (qjw base call os):=by
 simp only [qjw,ho]
theorem qzg (d:Option Nat) (o:AOp) (j:Nat) (b:Bool) (os:List qaq) (ho:o.plain = false):qjw base call (⟨d,o,some (j,b)⟩ :: os) s = qgE (lkp s.t j) b d s (qv base call [] d o s) (qjw base call os):=by
 simp only [qjw,ho]
theorem qp0 (q c b:Bool) (d:Option Nat) (s:St) (r:Option qa) (k:St->Option (Ex×St)):qgF (gv q (.bool c)) b d s r k = qj q d s (qaK (c == b) r) k:=by
 cases q <;> cases c <;> cases b <;> rfl
theorem qmM (q x c b:Bool) (d:Option Nat) (s:St) (r:Option qa) (k:St->Option (Ex×St)):qgF (gv q (gv x (.bool c))) b d s r k = qj q d s (qaK x (qaK (c == b) r)) k:=by
 cases q <;> cases x <;> cases c <;> cases b <;> rfl
theorem qes (d:Option Nat) (t:List qa) (h:List qb) (e:Bool) (v:qa) (k:St->Option (Ex×St)):qj true d ⟨t,h,e⟩ (some v) k = k ⟨put d v t,h,e⟩:=rfl
theorem qkj (q:Bool) (d:Nat) (t:List qa) (h:List qb) (e:Bool) (v:qa) (k:St->Option (Ex×St)):qj q (some d) ⟨t,h,e⟩ (some v) k = k ⟨up t d (gv q v),h,e⟩:=by
 cases q <;> rfl
theorem qpM (c:Bool) (v:qa):qaK c (some v) = some (gv c v):=by cases c <;> rfl
theorem qmK (b:Bool) (d:Option Nat) (s:St) (r:Option (Ex×St)) (k:St->Option (Ex×St)):qgE (.bool b) b d s r k = qdc k r:=by cases b <;> rfl
theorem qDp (q:Bool) (v:qa):gv q (gv q v) = gv q v:=by cases q <;> rfl
theorem qAx (q:Bool) (v:qa):(gv q v).dim = gv q v.dim:=by cases q <;> rfl
theorem qu2 (c x:Bool):qco (.bool c) (gv c (.bool x)) (.bool false) = some (.bool (c && x)):=by cases c <;> rfl
theorem qzc (c x:Bool):qco (.bool c) (.bool true) (gv (!c) (.bool x)) = some (.bool (c || x)):=by cases c <;> rfl
theorem qx8 (b:Bool):(b == true) = b:=by cases b <;> rfl
theorem quu (b:Bool):(b == false) = !b:=by cases b <;> rfl
end
section
variable {s:St} {d:Option Nat} {k:St->Option (Ex×St)}
theorem qx3 (q:Bool) (v:qa) :qj q d s (some (gv q v)) k = qj q d s (some v) k:=by cases q <;> rfl
theorem qwL (c:Bool) (v:qa) :qaK c (some (gv c v)) = qaK c (some v):=by cases c <;> rfl
theorem qqd (q c:Bool) (v:qa) :qj q d s (qaK c (some (gv q v))) k = qj q d s (qaK c (some v)) k:=by cases q <;> rfl
theorem qDs (q:Bool) (v:qa) (h':List qb) (kk:Option Nat):qj q d s (qcl h' (gv q v) kk) k = qj q d s (qcl h' v kk) k:=by cases q <;> rfl
theorem qCK (c:Bool) (v:qa) (h':List qb) (kk:Option Nat):qaK c (qcl h' (gv c v) kk) = qaK c (qcl h' v kk):=by cases c <;> rfl
theorem qx5 (q c:Bool) (v:qa) (h':List qb) (kk:Option Nat):qj q d s (qaK c (qcl h' (gv q v) kk)) k = qj q d s (qaK c (qcl h' v kk)) k:=by cases q <;> rfl
theorem qDr (q:Bool) (v:qa) (o:Nat):qj q d s (faV o (gv q v)) k = qj q d s (faV o v) k:=by cases q <;> rfl
theorem qCJ (c:Bool) (v:qa) (o:Nat):qaK c (faV o (gv c v)) = qaK c (faV o v):=by cases c <;> rfl
theorem qx4 (q c:Bool) (v:qa) (o:Nat):qj q d s (qaK c (faV o (gv q v))) k = qj q d s (qaK c (faV o v)) k:=by cases q <;> rfl
theorem qAR (q:Bool) (v:qa) (b:Bool):qj q d s (qbG b (gv q v)) k = qj q d s (qbG b v) k:=by cases q <;> rfl
theorem qAg (c:Bool) (v:qa) (b:Bool):qaK c (qbG b (gv c v)) = qaK c (qbG b v):=by cases c <;> rfl
theorem quj (q c:Bool) (v:qa) (b:Bool):qj q d s (qaK c (qbG b (gv q v))) k = qj q d s (qaK c (qbG b v)) k:=by cases q <;> rfl
theorem qAN (q:Bool) (v:qa) (o:Nat) (kk:Option Nat):qj q d s (qt2 o kk (gv q v)) k = qj q d s (qt2 o kk v) k:=by cases q <;> rfl
theorem qAc (c:Bool) (v:qa) (o:Nat) (kk:Option Nat):qaK c (qt2 o kk (gv c v)) = qaK c (qt2 o kk v):=by cases c <;> rfl
theorem quf (q c:Bool) (v:qa) (o:Nat) (kk:Option Nat):qj q d s (qaK c (qt2 o kk (gv q v))) k = qj q d s (qaK c (qt2 o kk v)) k:=by cases q <;> rfl
theorem qDu (q:Bool) (v:qa) (op:UnOp):qj q d s (unV op (gv q v)) k = qj q d s (unV op v) k:=by cases q <;> rfl
theorem qCM (c:Bool) (v:qa) (op:UnOp):qaK c (unV op (gv c v)) = qaK c (unV op v):=by cases c <;> rfl
theorem qx7 (q c:Bool) (v:qa) (op:UnOp):qj q d s (qaK c (unV op (gv q v))) k = qj q d s (qaK c (unV op v)) k:=by cases q <;> rfl
theorem qx1 (q:Bool) (v:qa) :qj q d s (qhn (gv q v)) k = qj q d s (qhn v) k:=by cases q <;> rfl
theorem qwJ (c:Bool) (v:qa) :qaK c (qhn (gv c v)) = qaK c (qhn v):=by cases c <;> rfl
theorem qqb (q c:Bool) (v:qa) :qj q d s (qaK c (qhn (gv q v))) k = qj q d s (qaK c (qhn v)) k:=by cases q <;> rfl
theorem qAM (q:Bool) (v:qa) (o:Nat):qj q d s (qtY o (gv q v)) k = qj q d s (qtY o v) k:=by cases q <;> rfl
theorem qAb (c:Bool) (v:qa) (o:Nat):qaK c (qtY o (gv c v)) = qaK c (qtY o v):=by cases c <;> rfl
theorem que (q c:Bool) (v:qa) (o:Nat):qj q d s (qaK c (qtY o (gv q v))) k = qj q d s (qaK c (qtY o v)) k:=by cases q <;> rfl
theorem qAJ (q:Bool) (v:qa) (ik:IntKind):qj q d s (qtf ik (gv q v)) k = qj q d s (qtf ik v) k:=by cases q <;> rfl
theorem qz8 (c:Bool) (v:qa) (ik:IntKind):qaK c (qtf ik (gv c v)) = qaK c (qtf ik v):=by cases c <;> rfl
theorem qub (q c:Bool) (v:qa) (ik:IntKind):qj q d s (qaK c (qtf ik (gv q v))) k = qj q d s (qaK c (qtf ik v)) k:=by cases q <;> rfl
theorem qAS (q:Bool) (v:qa) (ty:TypeId):qj q d s (qsQ ty (gv q v)) k = qj q d s (qsQ ty v) k:=by cases q <;> rfl
theorem qAh (c:Bool) (v:qa) (ty:TypeId):qaK c (qsQ ty (gv c v)) = qaK c (qsQ ty v):=by cases c <;> rfl
theorem quk (q c:Bool) (v:qa) (ty:TypeId):qj q d s (qaK c (qsQ ty (gv q v))) k = qj q d s (qaK c (qsQ ty v)) k:=by cases q <;> rfl
theorem qAP (q:Bool) (v:qa) (w:qa):qj q d s (qiq (gv q v) w) k = qj q d s (qiq v w) k:=by cases q <;> rfl
theorem qAe (c:Bool) (v:qa) (w:qa):qaK c (qiq (gv c v) w) = qaK c (qiq v w):=by cases c <;> rfl
theorem quh (q c:Bool) (v:qa) (w:qa):qj q d s (qaK c (qiq (gv q v) w)) k = qj q d s (qaK c (qiq v w)) k:=by cases q <;> rfl
theorem qxZ (q:Bool) (v:qa) (w:qa):qj q d s (qiq w (gv q v)) k = qj q d s (qiq w v) k:=by cases q <;> rfl
theorem qwH (c:Bool) (v:qa) (w:qa):qaK c (qiq w (gv c v)) = qaK c (qiq w v):=by cases c <;> rfl
theorem qp9 (q c:Bool) (v:qa) (w:qa):qj q d s (qaK c (qiq w (gv q v))) k = qj q d s (qaK c (qiq w v)) k:=by cases q <;> rfl
theorem qAQ (q:Bool) (v:qa) (o:Nat) (w:qa):qj q d s (qaW o (gv q v) w) k = qj q d s (qaW o v w) k:=by cases q <;> rfl
theorem qAf (c:Bool) (v:qa) (o:Nat) (w:qa):qaK c (qaW o (gv c v) w) = qaK c (qaW o v w):=by cases c <;> rfl
theorem qui (q c:Bool) (v:qa) (o:Nat) (w:qa):qj q d s (qaK c (qaW o (gv q v) w)) k = qj q d s (qaK c (qaW o v w)) k:=by cases q <;> rfl
theorem qx0 (q:Bool) (v:qa) (o:Nat) (w:qa):qj q d s (qaW o w (gv q v)) k = qj q d s (qaW o w v) k:=by cases q <;> rfl
theorem qwI (c:Bool) (v:qa) (o:Nat) (w:qa):qaK c (qaW o w (gv c v)) = qaK c (qaW o w v):=by cases c <;> rfl
theorem qqa (q c:Bool) (v:qa) (o:Nat) (w:qa):qj q d s (qaK c (qaW o w (gv q v))) k = qj q d s (qaK c (qaW o w v)) k:=by cases q <;> rfl
theorem qAO (q:Bool) (v:qa) (o:Nat) (kk:Option Nat) (w:qa):qj q d s (qi4 o kk (gv q v) w) k = qj q d s (qi4 o kk v w) k:=by cases q <;> rfl
theorem qAd (c:Bool) (v:qa) (o:Nat) (kk:Option Nat) (w:qa):qaK c (qi4 o kk (gv c v) w) = qaK c (qi4 o kk v w):=by cases c <;> rfl
theorem qug (q c:Bool) (v:qa) (o:Nat) (kk:Option Nat) (w:qa):qj q d s (qaK c (qi4 o kk (gv q v) w)) k = qj q d s (qaK c (qi4 o kk v w)) k:=by cases q <;> rfl
theorem qxY (q:Bool) (v:qa) (o:Nat) (kk:Option Nat) (w:qa):qj q d s (qi4 o kk w (gv q v)) k = qj q d s (qi4 o kk w v) k:=by cases q <;> rfl
theorem qwG (c:Bool) (v:qa) (o:Nat) (kk:Option Nat) (w:qa):qaK c (qi4 o kk w (gv c v)) = qaK c (qi4 o kk w v):=by cases c <;> rfl
theorem qp8 (q c:Bool) (v:qa) (o:Nat) (kk:Option Nat) (w:qa):qj q d s (qaK c (qi4 o kk w (gv q v))) k = qj q d s (qaK c (qi4 o kk w v)) k:=by cases q <;> rfl
theorem qAI (q:Bool) (v:qa) (op:BinOp) (w:qa):qj q d s (qbV op (gv q v) w) k = qj q d s (qbV op v w) k:=by cases q <;> rfl
theorem qz7 (c:Bool) (v:qa) (op:BinOp) (w:qa):qaK c (qbV op (gv c v) w) = qaK c (qbV op v w):=by cases c <;> rfl
theorem qua (q c:Bool) (v:qa) (op:BinOp) (w:qa):qj q d s (qaK c (qbV op (gv q v) w)) k = qj q d s (qaK c (qbV op v w)) k:=by cases q <;> rfl
theorem qxV (q:Bool) (v:qa) (op:BinOp) (w:qa):qj q d s (qbV op w (gv q v)) k = qj q d s (qbV op w v) k:=by cases q <;> rfl
theorem qwD (c:Bool) (v:qa) (op:BinOp) (w:qa):qaK c (qbV op w (gv c v)) = qaK c (qbV op w v):=by cases c <;> rfl
theorem qp5 (q c:Bool) (v:qa) (op:BinOp) (w:qa):qj q d s (qaK c (qbV op w (gv q v))) k = qj q d s (qaK c (qbV op w v)) k:=by cases q <;> rfl
theorem qAK (q:Bool) (v:qa) (b:Bool) (w:qa):qj q d s (qj9 b (gv q v) w) k = qj q d s (qj9 b v w) k:=by cases q <;> rfl
theorem qz9 (c:Bool) (v:qa) (b:Bool) (w:qa):qaK c (qj9 b (gv c v) w) = qaK c (qj9 b v w):=by cases c <;> rfl
theorem quc (q c:Bool) (v:qa) (b:Bool) (w:qa):qj q d s (qaK c (qj9 b (gv q v) w)) k = qj q d s (qaK c (qj9 b v w)) k:=by cases q <;> rfl
theorem qxW (q:Bool) (v:qa) (b:Bool) (w:qa):qj q d s (qj9 b w (gv q v)) k = qj q d s (qj9 b w v) k:=by cases q <;> rfl
theorem qwE (c:Bool) (v:qa) (b:Bool) (w:qa):qaK c (qj9 b w (gv c v)) = qaK c (qj9 b w v):=by cases c <;> rfl
theorem qp6 (q c:Bool) (v:qa) (b:Bool) (w:qa):qj q d s (qaK c (qj9 b w (gv q v))) k = qj q d s (qaK c (qj9 b w v)) k:=by cases q <;> rfl
theorem qAL (q:Bool) (v:qa) (o:Nat) (b:Bool) (w:qa):qj q d s (qhs o b (gv q v) w) k = qj q d s (qhs o b v w) k:=by cases q <;> rfl
theorem qAa (c:Bool) (v:qa) (o:Nat) (b:Bool) (w:qa):qaK c (qhs o b (gv c v) w) = qaK c (qhs o b v w):=by cases c <;> rfl
theorem qud (q c:Bool) (v:qa) (o:Nat) (b:Bool) (w:qa):qj q d s (qaK c (qhs o b (gv q v) w)) k = qj q d s (qaK c (qhs o b v w)) k:=by cases q <;> rfl
theorem qxX (q:Bool) (v:qa) (o:Nat) (b:Bool) (w:qa):qj q d s (qhs o b w (gv q v)) k = qj q d s (qhs o b w v) k:=by cases q <;> rfl
theorem qwF (c:Bool) (v:qa) (o:Nat) (b:Bool) (w:qa):qaK c (qhs o b w (gv c v)) = qaK c (qhs o b w v):=by cases c <;> rfl
theorem qp7 (q c:Bool) (v:qa) (o:Nat) (b:Bool) (w:qa):qj q d s (qaK c (qhs o b w (gv q v))) k = qj q d s (qaK c (qhs o b w v)) k:=by cases q <;> rfl
theorem qDt (q:Bool) (v:qa) (b:Bool) (w:qa):qj q d s (mmV b (gv q v) w) k = qj q d s (mmV b v w) k:=by cases q <;> rfl
theorem qCL (c:Bool) (v:qa) (b:Bool) (w:qa):qaK c (mmV b (gv c v) w) = qaK c (mmV b v w):=by cases c <;> rfl
theorem qx6 (q c:Bool) (v:qa) (b:Bool) (w:qa):qj q d s (qaK c (mmV b (gv q v) w)) k = qj q d s (qaK c (mmV b v w)) k:=by cases q <;> rfl
theorem qAT (q:Bool) (v:qa) (b:Bool) (w:qa):qj q d s (mmV b w (gv q v)) k = qj q d s (mmV b w v) k:=by cases q <;> rfl
theorem qAi (c:Bool) (v:qa) (b:Bool) (w:qa):qaK c (mmV b w (gv c v)) = qaK c (mmV b w v):=by cases c <;> rfl
theorem qul (q c:Bool) (v:qa) (b:Bool) (w:qa):qj q d s (qaK c (mmV b w (gv q v))) k = qj q d s (qaK c (mmV b w v)) k:=by cases q <;> rfl
theorem qx2 (q:Bool) (v:qa) (w z:qa):qj q d s (qco (gv q v) w z) k = qj q d s (qco v w z) k:=by cases q <;> rfl
theorem qwK (c:Bool) (v:qa) (w z:qa):qaK c (qco (gv c v) w z) = qaK c (qco v w z):=by cases c <;> rfl
theorem qqc (q c:Bool) (v:qa) (w z:qa):qj q d s (qaK c (qco (gv q v) w z)) k = qj q d s (qaK c (qco v w z)) k:=by cases q <;> rfl
theorem qt8 (q:Bool) (v:qa) (w z:qa):qj q d s (qco w (gv q v) z) k = qj q d s (qco w v z) k:=by cases q <;> rfl
theorem qs0 (c:Bool) (v:qa) (w z:qa):qaK c (qco w (gv c v) z) = qaK c (qco w v z):=by cases c <;> rfl
theorem qmN (q c:Bool) (v:qa) (w z:qa):qj q d s (qaK c (qco w (gv q v) z)) k = qj q d s (qaK c (qco w v z)) k:=by cases q <;> rfl
theorem qt9 (q:Bool) (v:qa) (w z:qa):qj q d s (qco w z (gv q v)) k = qj q d s (qco w z v) k:=by cases q <;> rfl
theorem qs1 (c:Bool) (v:qa) (w z:qa):qaK c (qco w z (gv c v)) = qaK c (qco w z v):=by cases c <;> rfl
theorem qmO (q c:Bool) (v:qa) (w z:qa):qj q d s (qaK c (qco w z (gv q v))) k = qj q d s (qaK c (qco w z v)) k:=by cases q <;> rfl
end
section
variable {base:Nat} {call:Call} {s:St}
def qBj (dsts:List Nat):Option (Ex×St)->Option (Ex×St)
 | some (.pan v,s)=>some (.pan v,{ s with t:=qcs dsts s.t})
 | r=>r
theorem qEC {base:Nat} {call:Call} {p:qcD} {d:Option Nat} {o:AOp} {s s':St} {x:Ex} (ho:o.effs = false) (h:qv base call p d o s = some (x,s')):x = .nor:=by
 cases o <;> simp only [AOp.effs,Bool.true_eq_false] at ho
 case new=>simp only [qv,jl,Prod.mk.injEq] at h;exact h.1.symm
 case box=>
  simp only [qv] at h
  split at h
  ·cases h;rfl
  ·cases h
 case ld=>
  simp only [qv] at h
  cases hl:qcl s.h (ev s.t _) _ with
  | none=>rw [hl] at h;cases h
  | some v=>rw [hl] at h;cases h;rfl
 case lk sh z ok m key=>
  simp only [qv] at h
  cases hl:qlG s.h sh z ok (ev s.t m) (ev s.t key) with
  | none=>rw [hl] at h;cases h
  | some v=>rw [hl] at h;cases h;rfl
 all_goals
  simp only [qv] at h
  revert h
  generalize pureV s.t _ = r
  intro h
  cases r <;> cases h
  rfl
theorem qrd (dsts:List Nat) (s:St):qBj dsts (some (.nor,s)) = some (.nor,s):=rfl
theorem qre (dsts:List Nat) (v:qa) (t:List qa) (h:List qb) (e:Bool):qBj dsts (some (.pan v,⟨t,h,e⟩)) = some (.pan v,⟨qcs dsts t,h,e⟩):=rfl
theorem qy {b:qG} (I:Nat->St->Prop) (Q:Ex->St->Prop)
  (step:∀k s,I k s->(∃s' k',qm base call b s = some (.nor,s')/\k' < k/\I k' s')\/∃x s',qm base call b s = some (x,s')/\x ≠ .nor/\Q x s') :
  ∀k s,I k s->∃x s',qm base call (.loop b) s = some (x,s')/\Q x s':=by
 intro k
 induction k using Nat.strongRecOn with
 | ind k ih=>
  intro s hs
  rw [qaG]
  rcases step k s hs with ⟨s',k',h1,h2,h3⟩ | ⟨x,s',h1,h2,h3⟩
  ·rw [h1]
   exact ih k' h2 s' h3
  ·rw [h1]
   refine ⟨x,s',?_,h3⟩
   cases x with
   | nor=>exact absurd rfl h2
   | _=>rfl
end
section
variable {s:St} {t:List qa} {h:List qb}
def qo (v:qa) (i:Nat) (t:List qa):List qa:=
 match v with
 | .lst xs (.own _)=>t.set i (.lst xs .no)
 | _=>t
theorem qpf (t:List qa) (i:Nat):qaR t (.t i) = qo (lkp t i) i t:=rfl
theorem qpe (t:List qa) (v:qa):qaR t (.c v) = t:=rfl
theorem qmh (b:Bool) (i:Nat) (t:List qa):qo (.bool b) i t = t:=rfl
theorem qo9 (k:IntKind) (n:Int) (i:Nat) (t:List qa):qo (.int k n) i t = t:=rfl
theorem qpc (b:List UInt8) (i:Nat) (t:List qa):qo (.str b) i t = t:=rfl
theorem qiM (i:Nat) (t:List qa):qo .nilptr i t = t:=rfl
theorem qpb (a o:Nat) (i:Nat) (t:List qa):qo (.ptr a o) i t = t:=rfl
theorem qmj (cs:List qa) (o:Nat) (i:Nat) (t:List qa):qo (.iptr cs o) i t = t:=rfl
theorem qo8 (cs:List qa) (i:Nat) (t:List qa):qo (.agg cs) i t = t:=rfl
theorem qpd (cs:List qa) (i:Nat) (t:List qa):qo (.tup cs) i t = t:=rfl
theorem qtn (f:FuncId) (a b:List qa) (i:Nat) (t:List qa):qo (.fn f a b) i t = t:=rfl
theorem qto (xs:List qa) (i:Nat) (t:List qa):qo (.lst xs .no) i t = t:=rfl
theorem qmi (xs:List qa) (i:Nat) (t:List qa):qo (.lst xs .full) i t = t:=rfl
theorem qpa (xs:List qa) (k i:Nat) (t:List qa):qo (.lst xs (.own k)) i t = up t i (.lst xs .no):=rfl
theorem qj5 (ty:TypeId) (v:qa) (i:Nat) (t:List qa):qo (.iface ty v) i t = t:=rfl
theorem qH (v:qa) (i:Nat) (t:List qa):qo v.dim i t = t:=by
 cases v with
 | lst xs f=>cases f <;> rfl
 | _=>rfl
def qxe (v:Option qa) (vs:Option (List qa)):Option (List qa):=
 match v,vs with
 | some v,some vs=>some (v :: vs)
 | _,_=>none
theorem qzm:qaF s [] = some []:=rfl
theorem qzn (i:Nat) (rs:List qle):qaF s (.tmp i :: rs) = qxe (some (lkp s.t i).dim) (qaF s rs):=by
 simp only [qaF,lkp]
 cases qaF s rs <;> rfl
theorem qvf (a:Nat) (k:Option Nat) (rs:List qle):qaF s (.cell a k :: rs) = qxe (qcl s.h (lkp s.t a) k) (qaF s rs):=by
 simp only [qaF,lkp]
 cases qcl s.h (s.t.getD a .undef) k <;> cases qaF s rs <;> rfl
theorem qme (v:qa) (vs:List qa):qxe (some v) (some vs) = some (v :: vs):=rfl
theorem qns (v:qa):qbS [v] = v:=rfl
theorem qnr:qbS [] = .tup []:=rfl
theorem qnt (a b:qa) (vs:List qa):qbS (a :: b :: vs) = .tup (a :: b :: vs):=rfl
def qzU (h:List qb) (s:St):Option (List qa)->Option (qcb×List qb×Bool)
 | some vs=>some (qaU h.length (.ret (qbS vs)) s.h s.e)
 | none=>none
theorem qpr (h:List qb) (s:St) (vs:List qa):qzU h s (some vs) = some (qaU h.length (.ret (qbS vs)) s.h s.e):=rfl
theorem qxD (fn:qt) (h:List qb) (s:St):qj7 fn h (some (.nor,s)) = qzU h s (qaF s fn.results):=by
 simp only [qj7];cases qaF s fn.results <;> rfl
theorem qxE (fn:qt) (h:List qb) (s:St):qj7 fn h (some (.ret,s)) = qzU h s (qaF s fn.results):=by
 simp only [qj7];cases qaF s fn.results <;> rfl
end
section
theorem qrL (x:qh):(AOp.mov x).plain = true:=Eq.trans rfl rfl
theorem qtM (x:qh):(AOp.mov x).effs = false:=Eq.trans rfl rfl
theorem qqw (x:qh):(AOp.mov x).isApp = false:=Eq.trans rfl rfl
theorem qnE (c a b:qh):(AOp.pick c a b).plain = true:=Eq.trans rfl rfl
theorem qpo (c a b:qh):(AOp.pick c a b).effs = false:=Eq.trans rfl rfl
theorem qmU (c a b:qh):(AOp.pick c a b).isApp = false:=Eq.trans rfl rfl
theorem qkQ (z:List qa) (ps:List (Nat×Nat×qh)):(AOp.build z ps).plain = true:=Eq.trans rfl rfl
theorem qmm (z:List qa) (ps:List (Nat×Nat×qh)):(AOp.build z ps).effs = false:=Eq.trans rfl rfl
theorem qkl (z:List qa) (ps:List (Nat×Nat×qh)):(AOp.build z ps).isApp = false:=Eq.trans rfl rfl
theorem qnC (k:Nat) (z:List qa) (l:Nat) (ps:List (Nat×qh)):(AOp.list k z l ps).plain = true:=Eq.trans rfl rfl
theorem qpm (k:Nat) (z:List qa) (l:Nat) (ps:List (Nat×qh)):(AOp.list k z l ps).effs = false:=Eq.trans rfl rfl
theorem qmS (k:Nat) (z:List qa) (l:Nat) (ps:List (Nat×qh)):(AOp.list k z l ps).isApp = false:=Eq.trans rfl rfl
theorem qu4 (k:Option Nat) (a:qh):(AOp.ld k a).plain = true:=Eq.trans rfl rfl
theorem qxy (k:Option Nat) (a:qh):(AOp.ld k a).effs = false:=Eq.trans rfl rfl
theorem quq (k:Option Nat) (a:qh):(AOp.ld k a).isApp = false:=Eq.trans rfl rfl
theorem qnD (x:qh):(AOp.nilc x).plain = true:=Eq.trans rfl rfl
theorem qpn (x:qh):(AOp.nilc x).effs = false:=Eq.trans rfl rfl
theorem qmT (x:qh):(AOp.nilc x).isApp = false:=Eq.trans rfl rfl
theorem qrw (op:BinOp) (x y:qh):(AOp.bin op x y).plain = true:=Eq.trans rfl rfl
theorem qtx (op:BinOp) (x y:qh):(AOp.bin op x y).effs = false:=Eq.trans rfl rfl
theorem qqh (op:BinOp) (x y:qh):(AOp.bin op x y).isApp = false:=Eq.trans rfl rfl
theorem qrC (n:Bool) (x y:qh):(AOp.eqb n x y).plain = true:=Eq.trans rfl rfl
theorem qtD (n:Bool) (x y:qh):(AOp.eqb n x y).effs = false:=Eq.trans rfl rfl
theorem qqn (n:Bool) (x y:qh):(AOp.eqb n x y).isApp = false:=Eq.trans rfl rfl
theorem qrD (k:Nat) (n:Bool) (x y:qh):(AOp.eqi k n x y).plain = true:=Eq.trans rfl rfl
theorem qtE (k:Nat) (n:Bool) (x y:qh):(AOp.eqi k n x y).effs = false:=Eq.trans rfl rfl
theorem qqo (k:Nat) (n:Bool) (x y:qh):(AOp.eqi k n x y).isApp = false:=Eq.trans rfl rfl
theorem qrB (n:Bool) (x y:qh):(AOp.eqa n x y).plain = true:=Eq.trans rfl rfl
theorem qtC (n:Bool) (x y:qh):(AOp.eqa n x y).effs = false:=Eq.trans rfl rfl
theorem qqm (n:Bool) (x y:qh):(AOp.eqa n x y).isApp = false:=Eq.trans rfl rfl
theorem qu7 (op:UnOp) (x:qh):(AOp.un op x).plain = true:=Eq.trans rfl rfl
theorem qxB (op:UnOp) (x:qh):(AOp.un op x).effs = false:=Eq.trans rfl rfl
theorem qut (op:UnOp) (x:qh):(AOp.un op x).isApp = false:=Eq.trans rfl rfl
theorem qrz (k:IntKind) (x:qh):(AOp.cvi k x).plain = true:=Eq.trans rfl rfl
theorem qtA (k:IntKind) (x:qh):(AOp.cvi k x).effs = false:=Eq.trans rfl rfl
theorem qqk (k:IntKind) (x:qh):(AOp.cvi k x).isApp = false:=Eq.trans rfl rfl
theorem qrA (x:qh):(AOp.cvs x).plain = true:=Eq.trans rfl rfl
theorem qtB (x:qh):(AOp.cvs x).effs = false:=Eq.trans rfl rfl
theorem qql (x:qh):(AOp.cvs x).isApp = false:=Eq.trans rfl rfl
theorem qry (x:qh):(AOp.cvb x).plain = true:=Eq.trans rfl rfl
theorem qtz (x:qh):(AOp.cvb x).effs = false:=Eq.trans rfl rfl
theorem qqj (x:qh):(AOp.cvb x).isApp = false:=Eq.trans rfl rfl
theorem qrK (t:TypeId) (x:qh):(AOp.mkI t x).plain = true:=Eq.trans rfl rfl
theorem qtL (t:TypeId) (x:qh):(AOp.mkI t x).effs = false:=Eq.trans rfl rfl
theorem qqv (t:TypeId) (x:qh):(AOp.mkI t x).isApp = false:=Eq.trans rfl rfl
theorem qrJ (f:FuncId) (a b:List qh):(AOp.mkF f a b).plain = true:=Eq.trans rfl rfl
theorem qtK (f:FuncId) (a b:List qh):(AOp.mkF f a b).effs = false:=Eq.trans rfl rfl
theorem qqu (f:FuncId) (a b:List qh):(AOp.mkF f a b).isApp = false:=Eq.trans rfl rfl
theorem qnG (x:qh) (l h:Option qh):(AOp.subS x l h).plain = true:=Eq.trans rfl rfl
theorem qpq (x:qh) (l h:Option qh):(AOp.subS x l h).effs = false:=Eq.trans rfl rfl
theorem qmW (x:qh) (l h:Option qh):(AOp.subS x l h).isApp = false:=Eq.trans rfl rfl
theorem qnF (k:Nat) (x:qh) (l h:Option qh):(AOp.subL k x l h).plain = true:=Eq.trans rfl rfl
theorem qpp (k:Nat) (x:qh) (l h:Option qh):(AOp.subL k x l h).effs = false:=Eq.trans rfl rfl
theorem qmV (k:Nat) (x:qh) (l h:Option qh):(AOp.subL k x l h).isApp = false:=Eq.trans rfl rfl
theorem qu3 (o:Nat) (a:qh):(AOp.fa o a).plain = true:=Eq.trans rfl rfl
theorem qxx (o:Nat) (a:qh):(AOp.fa o a).effs = false:=Eq.trans rfl rfl
theorem qup (o:Nat) (a:qh):(AOp.fa o a).isApp = false:=Eq.trans rfl rfl
theorem qnB (k:Nat) (s i:qh):(AOp.ixaL k s i).plain = true:=Eq.trans rfl rfl
theorem qpl (k:Nat) (s i:qh):(AOp.ixaL k s i).effs = false:=Eq.trans rfl rfl
theorem qmR (k:Nat) (s i:qh):(AOp.ixaL k s i).isApp = false:=Eq.trans rfl rfl
theorem qnA (n k:Nat) (a i:qh):(AOp.ixaA n k a i).plain = true:=Eq.trans rfl rfl
theorem qpk (n k:Nat) (a i:qh):(AOp.ixaA n k a i).effs = false:=Eq.trans rfl rfl
theorem qmQ (n k:Nat) (a i:qh):(AOp.ixaA n k a i).isApp = false:=Eq.trans rfl rfl
theorem qrH (s i:qh):(AOp.ixS s i).plain = true:=Eq.trans rfl rfl
theorem qtI (s i:qh):(AOp.ixS s i).effs = false:=Eq.trans rfl rfl
theorem qqs (s i:qh):(AOp.ixS s i).isApp = false:=Eq.trans rfl rfl
theorem qrG (n:Nat) (k:Option Nat) (a i:qh):(AOp.ixA n k a i).plain = true:=Eq.trans rfl rfl
theorem qtH (n:Nat) (k:Option Nat) (a i:qh):(AOp.ixA n k a i).effs = false:=Eq.trans rfl rfl
theorem qqr (n:Nat) (k:Option Nat) (a i:qh):(AOp.ixA n k a i).isApp = false:=Eq.trans rfl rfl
theorem qrF (o:Nat) (k:Option Nat) (x:qh):(AOp.fld o k x).plain = true:=Eq.trans rfl rfl
theorem qtG (o:Nat) (k:Option Nat) (x:qh):(AOp.fld o k x).effs = false:=Eq.trans rfl rfl
theorem qqq (o:Nat) (k:Option Nat) (x:qh):(AOp.fld o k x).isApp = false:=Eq.trans rfl rfl
theorem qrE (x:qh) (i:Nat):(AOp.ext x i).plain = true:=Eq.trans rfl rfl
theorem qtF (x:qh) (i:Nat):(AOp.ext x i).effs = false:=Eq.trans rfl rfl
theorem qqp (x:qh) (i:Nat):(AOp.ext x i).isApp = false:=Eq.trans rfl rfl
theorem qrI (b:Bool) (x:qh):(AOp.len b x).plain = true:=Eq.trans rfl rfl
theorem qtJ (b:Bool) (x:qh):(AOp.len b x).effs = false:=Eq.trans rfl rfl
theorem qqt (b:Bool) (x:qh):(AOp.len b x).isApp = false:=Eq.trans rfl rfl
theorem qu5 (b:Bool) (x y:qh):(AOp.mm b x y).plain = true:=Eq.trans rfl rfl
theorem qxz (b:Bool) (x y:qh):(AOp.mm b x y).effs = false:=Eq.trans rfl rfl
theorem qur (b:Bool) (x y:qh):(AOp.mm b x y).isApp = false:=Eq.trans rfl rfl
theorem qrP (t:TypeId) (z:qa) (x:qh):(AOp.tas t z x).plain = true:=Eq.trans rfl rfl
theorem qtP (t:TypeId) (z:qa) (x:qh):(AOp.tas t z x).effs = false:=Eq.trans rfl rfl
theorem qqz (t:TypeId) (z:qa) (x:qh):(AOp.tas t z x).isApp = false:=Eq.trans rfl rfl
theorem qrv (x:qh):(AOp.asg x).plain = false:=Eq.trans rfl rfl
theorem qtw (x:qh):(AOp.asg x).effs = true:=Eq.trans rfl rfl
theorem qqg (x:qh):(AOp.asg x).isApp = false:=Eq.trans rfl rfl
theorem qrM (cs:List qa):(AOp.new cs).plain = false:=Eq.trans rfl rfl
theorem qtN (cs:List qa):(AOp.new cs).effs = false:=Eq.trans rfl rfl
theorem qqx (cs:List qa):(AOp.new cs).isApp = false:=Eq.trans rfl rfl
theorem qrx (k:Nat) (x:qh):(AOp.box k x).plain = false:=Eq.trans rfl rfl
theorem qty (k:Nat) (x:qh):(AOp.box k x).effs = false:=Eq.trans rfl rfl
theorem qqi (k:Nat) (x:qh):(AOp.box k x).isApp = false:=Eq.trans rfl rfl
theorem qu6 (k:Option Nat) (a x:qh):(AOp.st k a x).plain = false:=Eq.trans rfl rfl
theorem qxA (k:Option Nat) (a x:qh):(AOp.st k a x).effs = true:=Eq.trans rfl rfl
theorem qus (k:Option Nat) (a x:qh):(AOp.st k a x).isApp = false:=Eq.trans rfl rfl
theorem qnz (f:qh) (aS:List qh):(AOp.call f aS).plain = false:=Eq.trans rfl rfl
theorem qpj (f:qh) (aS:List qh):(AOp.call f aS).effs = true:=Eq.trans rfl rfl
theorem qmP (f:qh) (aS:List qh):(AOp.call f aS).isApp = false:=Eq.trans rfl rfl
theorem qru (k:Nat) (x y:qh):(AOp.app k x y).plain = false:=Eq.trans rfl rfl
theorem qtv (k:Nat) (x y:qh):(AOp.app k x y).effs = true:=Eq.trans rfl rfl
theorem qqf (k:Nat) (x y:qh):(AOp.app k x y).isApp = true:=Eq.trans rfl rfl
theorem qrO (x:qh):(AOp.pan x).plain = false:=Eq.trans rfl rfl
theorem qtO (x:qh):(AOp.pan x).effs = true:=Eq.trans rfl rfl
theorem qqy (x:qh):(AOp.pan x).isApp = false:=Eq.trans rfl rfl
theorem qkJ (n:Nat):qa.undef.lower n = true:=Eq.trans rfl rfl
theorem qnk (n:Nat) (b:Bool):(qa.bool b).lower n = true:=Eq.trans rfl rfl
theorem qjd (n:Nat) (k:IntKind) (z:Int):(qa.int k z).lower n = true:=Eq.trans rfl rfl
theorem qjf (n:Nat) (s:List UInt8):(qa.str s).lower n = true:=Eq.trans rfl rfl
theorem qje (n:Nat):qa.nilptr.lower n = true:=Eq.trans rfl rfl
theorem qq9 (n i o:Nat):(qa.ptr i o).lower n = Nat.blt i n:=Eq.trans rfl rfl
theorem qrb (n i:Nat):(qa.yld i).lower n = Nat.blt i n:=Eq.trans rfl rfl
theorem qnm (n o:Nat) (cs:List qa):(qa.iptr cs o).lower n = qr n cs:=Eq.trans rfl rfl
theorem qq8 (n:Nat) (xs:List qa) (f:qgh):(qa.lst xs f).lower n = qr n xs:=Eq.trans rfl rfl
theorem qh9 (n:Nat):qa.nilfunc.lower n = true:=Eq.trans rfl rfl
theorem qhm (n:Nat):qa.niliface.lower n = true:=Eq.trans rfl rfl
theorem qkI (n:Nat) (t:TypeId) (v:qa):(qa.iface t v).lower n = v.lower n:=Eq.trans rfl rfl
theorem quO (n:Nat) (f:FuncId) (a b:List qa):(qa.fn f a b).lower n = (qr n a && qr n b):=Eq.trans rfl rfl
theorem qjc (n:Nat) (cs:List qa):(qa.agg cs).lower n = qr n cs:=Eq.trans rfl rfl
theorem qra (n:Nat) (cs:List qa):(qa.tup cs).lower n = qr n cs:=Eq.trans rfl rfl
theorem qhB (n:Nat):qr n [] = true:=Eq.trans rfl rfl
theorem qgQ (n:Nat) (v:qa) (vs:List qa):qr n (v :: vs) = (v.lower n && qr n vs):=Eq.trans rfl rfl
def qch (rs:List qle) (h:List qb):Option (Ex×St)->Option (qcb×List qb×Bool)
 | some (.nor,s) | some (.ret,s)=>qzU h s (qaF s rs)
 | some (.pan v,s)=>some (qaU h.length (.pan v) s.h s.e)
 | _=>none
theorem qxC (fn:qt) (h:List qb) (r:Option (Ex×St)):qj7 fn h r = qch fn.results h r:=by
 cases r with
 | none=>rfl
 | some r=>obtain ⟨x,s⟩:=r;cases x <;> first | rfl | exact qxD _ _ _ | exact qxE _ _ _
theorem qtQ (rs:List qle) (h:List qb) (s:St):qch rs h (some (.nor,s)) = qzU h s (qaF s rs):=rfl
theorem qtS (rs:List qle) (h:List qb) (s:St):qch rs h (some (.ret,s)) = qzU h s (qaF s rs):=rfl
theorem qtR (rs:List qle) (h:List qb) (s:St) (v:qa):qch rs h (some (.pan v,s)) = some (qaU h.length (.pan v) s.h s.e):=rfl
theorem qGa {F:FuncId->Option qt} {X:qff} (hX:qok X) {f:FuncId} {first args cap:List qa} {h:List qb} {fn:qt} (h1:X f = none) (h2:F f = some fn) :
  W F X (.fn f first cap) args h = qch fn.results h (qm h.length (W F X) fn.code ⟨(first ++ args ++ cap).map qa.dim ++ List.replicate (fn.ntmps - ((first ++ args ++ cap).map qa.dim).length) (.tup []),h,false⟩):=by
 rw [qF9 hX h1 h2,qxC]
end
section
variable {h:List qb}
theorem qoz (cs:List qa):(qa.agg cs).cells = cs:=rfl
theorem qoA (k:IntKind) (n:Int):(qa.int k n).cells = [.int k n]:=rfl
theorem qoD (s:List UInt8):(qa.str s).cells = [.str s]:=rfl
theorem ql9 (b:Bool):(qa.bool b).cells = [.bool b]:=rfl
theorem qoB (xs:List qa) (f:qgh):(qa.lst xs f).cells = [.lst xs f]:=rfl
theorem qoC (i o:Nat):(qa.ptr i o).cells = [.ptr i o]:=rfl
theorem qiz:qa.nilptr.cells = [.nilptr]:=rfl
theorem qs7 (f:FuncId) (a b:List qa):(qa.fn f a b).cells = [.fn f a b]:=rfl
theorem qhj:qa.niliface.cells = [.niliface]:=rfl
theorem qjZ (t:TypeId) (v:qa):(qa.iface t v).cells = [.iface t v]:=rfl
theorem qoE (i:Nat):(qa.yld i).cells = [.yld i]:=rfl
theorem qlV (k:IntKind) (n:Int):(qa.int k n).storable = true:=Eq.trans rfl rfl
theorem qlW (s:List UInt8):(qa.str s).storable = true:=Eq.trans rfl rfl
theorem qsj (b:Bool):(qa.bool b).storable = true:=Eq.trans rfl rfl
theorem qvp (xs:List qa) (f:qgh):(qa.lst xs f).storable = true:=Eq.trans rfl rfl
theorem qvq (i o:Nat):(qa.ptr i o).storable = true:=Eq.trans rfl rfl
theorem qsk (cs:List qa) (o:Nat):(qa.iptr cs o).storable = true:=Eq.trans rfl rfl
theorem qk3:qa.nilptr.storable = true:=Eq.trans rfl rfl
theorem qjC:qa.nilfunc.storable = true:=Eq.trans rfl rfl
theorem qzw (f:FuncId) (a b:List qa):(qa.fn f a b).storable = true:=Eq.trans rfl rfl
theorem qvr (i:Nat):(qa.yld i).storable = true:=Eq.trans rfl rfl
theorem qim:qa.niliface.storable = true:=Eq.trans rfl rfl
theorem qnS (t:TypeId) (v:qa):(qa.iface t v).storable = true:=Eq.trans rfl rfl
theorem qtd (c:qa) (cs:List qa) (o k:Nat):cut (c :: cs) o (some k) = if o + k <= (c :: cs).length then some (.agg ((((c :: cs).drop o).take k).map qa.dim)) else none:=rfl
def ldB (k:Option Nat) (o:Nat):Option qb->Option qa
 | some (.cells cs)=>cut cs o k
 | _=>none
theorem qlE (i o:Nat) (k:Option Nat):qcl h (.ptr i o) k = ldB k o h[i]?:=by
 simp only [qcl,ldB]
 cases h[i]? with
 | none=>rfl
 | some b=>cases b <;> rfl
theorem qqJ (k:Option Nat) (o:Nat) (cs:List qa):ldB k o (some (.cells cs)) = cut cs o k:=rfl
def qEK (k:Option Nat) (v:qa):List qa:=
 match k with
 | none=>[v]
 | some _=>v.dim.cells.map qa.dim
theorem qrV (v:qa):qEK none v = [v]:=rfl
theorem qrW (k:Nat) (v:qa):qEK (some k) v = v.dim.cells.map qa.dim:=rfl
def stB (base:Nat) (k:Option Nat) (id o:Nat) (vs:List qa) (h:List qb):Option qb->Option (List qb×Bool)
 | some (.cells cs)=>if vs.length = k.getD 1/\o + vs.length <= cs.length/\vs.all qa.storable then some (h.set id (.cells (splice cs o vs)),!(Nat.ble base id || qr (id + 1) vs)) else none
 | _=>none
theorem qzt (base:Nat) (k:Option Nat) (id o:Nat) (v:qa):stV base k (.ptr id o) v h = stB base k id o (qEK k v) h h[id]?:=by
 simp only [stV,stB]
 cases h[id]? with
 | none=>rfl
 | some b=>cases b <;> cases k <;> rfl
theorem qsi (base:Nat) (k:Option Nat) (id o:Nat) (vs cs:List qa):stB base k id o vs h (some (.cells cs)) = if vs.length = k.getD 1/\o + vs.length <= cs.length/\vs.all qa.storable then some (h.set id (.cells (splice cs o vs)),!(Nat.ble base id || qr (id + 1) vs)) else none:=rfl
theorem qIp (h:List qb) (k:Nat):Nat.ble h.length (h.length + k) = true:=Nat.ble_eq_true_of_le (Nat.le_add_right _ _)
theorem qe {a b:Nat} (h:a <= b):Nat.ble a b = true:=Nat.ble_eq_true_of_le h
end
theorem known {e r:Option (Ex×St)} (hr:e = r) {Q:Ex->St->Prop} (h:∃x s',e = some (x,s')/\Q x s'):∃x s',r = some (x,s')/\Q x s':=hr▸h
mutual
theorem qhS:∀v:qa,v.beq v = true
 | .undef | .nilptr | .nilfunc | .niliface | .nilmap | .nils | .empt=>rfl
 | .sl ..=>by simp [qa.beq]
 | .mp i=>by simp [qa.beq]
 | .bool b=>by simp [qa.beq]
 | .int k n=>by simp [qa.beq]
 | .str s=>by simp [qa.beq]
 | .ptr i o=>by simp [qa.beq]
 | .iptr cs o=>by simp [qa.beq,qcd cs]
 | .lst xs f=>by simp [qa.beq,qcd xs]
 | .fn f a b=>by simp [qa.beq,qcd a,qcd b]
 | .yld i=>by simp [qa.beq]
 | .iface t v=>by simp [qa.beq,qhS v]
 | .agg cs=>by simp [qa.beq,qcd cs]
 | .tup cs=>by simp [qa.beq,qcd cs]
theorem qcd:∀vs:List qa,qiv vs vs = true
 | []=>rfl
 | v :: vs=>by simp [qiv,qhS v,qcd vs]
end
section
variable {base:Nat} {call:Call} {dsts:List Nat} {s:St} {pend:List (Nat×Chk)} {h:List qb}
def qeL (h:List qb):List (Nat×Chk)->Bool
 | []=>true
 | c :: cs=>c.2.ok h && qeL h cs
theorem qs9:qeL h [] = true:=Eq.trans rfl rfl
theorem qoH (i:Nat) (c:Chk) (cs:List (Nat×Chk)):qeL h ((i,c) :: cs) = (c.ok h && qeL h cs):=rfl
theorem qs8 (l:List (Nat×Chk)):l.all (λc=>c.2.ok h) = qeL h l:=by
 induction l with
 | nil=>rfl
 | cons c l ih=>simp only [List.all_cons,qeL,ih]
def qFB (v:qa):Option qa->Bool
 | some w=>v.beq w
 | none=>false
theorem qor (v:qa):qFB v (some v) = true:=qhS v
theorem qAr (a:qa) (k:Option Nat) (v:qa):Chk.ok h (.ld a k v) = qFB v (qcl h a k):=by
 simp only [Chk.ok];cases qcl h a k <;> rfl
def qFA (cs:List qa):Option qb->Bool
 | some (.cells ds)=>qiv cs ds
 | _=>false
theorem qoo (cs:List qa):qFA cs (some (.cells cs)) = true:=qcd cs
theorem qw9 (id:Nat) (cs:List qa):Chk.ok h (.box id cs) = qFA cs h[id]?:=by
 simp only [Chk.ok]
 cases h[id]? with
 | none=>rfl
 | some b=>cases b <;> rfl
def qeg (cl:Nat):List (Nat×Chk)->List (Nat×Chk)
 | []=>[]
 | c :: cs=>bif cl.testBit c.1 then qeg cl cs else c :: qeg cl cs
theorem qmu (cl:Nat):qeg cl [] = []:=rfl
theorem qkd (cl i:Nat) (c:Chk) (cs:List (Nat×Chk)):qeg cl ((i,c) :: cs) = bif cl.testBit i then qeg cl cs else (i,c) :: qeg cl cs:=rfl
theorem qpH (cl:Nat) (l:List (Nat×Chk)):l.filter (λc=>!cl.testBit c.1) = qeg cl l:=by
 induction l with
 | nil=>rfl
 | cons c l ih=>
  simp only [List.filter_cons,qeg,ih]
  cases cl.testBit c.1 <;> rfl
def qtp (dsts:List Nat) (pend:List (Nat×Chk)) (k:List (Nat×Chk)->St->Option (Ex×St)):Option (Ex×St)->Option (Ex×St)
 | some (.nor,s)=>bif qeL s.h pend then k pend s else none
 | some (.pan v,s)=>some (.pan v,{ s with t:=qcs dsts s.t})
 | _=>none
theorem qpg (k:List (Nat×Chk)->St->Option (Ex×St)) (s:St):qtp dsts pend k (some (.nor,s)) = bif qeL s.h pend then k pend s else none:=rfl
theorem qph (k:List (Nat×Chk)->St->Option (Ex×St)) (t:List qa) (e:Bool) (v:qa):qtp dsts pend k (some (.pan v,⟨t,h,e⟩)) = some (.pan v,⟨qcs dsts t,h,e⟩):=rfl
theorem qtt:qx base call dsts [] pend s = some (.nor,s):=rfl
theorem qtr {d:Option Nat} {o:AOp} {ix cl:Nat} {ds:List qN} (ho:o.effs = true):qx base call dsts (⟨⟨d,o,none⟩,ix,cl⟩ :: ds) pend s = qtp dsts (qeg cl pend) (qx base call dsts ds) (qv base call [] d o s):=by
 simp only [qx,wanted,ho,if_true,qs8,qpH]
 cases hr:qv base call [] d o s with
 | none=>rfl
 | some r=>
  obtain ⟨x,s'⟩:=r
  cases x with
  | nor=>simp only [qtp];cases qeL s'.h (qeg cl pend) <;> rfl
  | pan v=>rfl
  | exit i=>rfl
  | ret=>rfl
def AOp.light:AOp->Bool
 | .asg .. | .new .. | .box .. | .st .. | .call .. | .app .. | .pan .. | .ld .. | .hx .. | .lk ..=>false
 | _=>true
theorem qmk {d:Option Nat} {o:AOp} {ix cl:Nat} {ds:List qN} (ho:o.light = true):qx base call dsts (⟨⟨d,o,none⟩,ix,cl⟩ :: ds) pend s = qdc (qx base call dsts ds pend) (qv base call [] d o s):=by
 have he:o.effs = false:=by cases o <;> simp_all [AOp.light,AOp.effs]
 have hc:qeK s o = none:=by cases o <;> simp_all [AOp.light,qeK]
 simp only [qx,wanted,he,jn,if_false,hc]
 cases hr:qv base call [] d o s with
 | none=>rfl
 | some r=>
  obtain ⟨x,s'⟩:=r
  have:=qEC he hr
  subst this
  rfl
def ldD (d:Option Nat) (s:St) (a:qa) (k:Option Nat) (ix:Nat) (pend:List (Nat×Chk)) (f:List (Nat×Chk)->St->Option (Ex×St)):Option qa->Option (Ex×St)
 | some v=>f ((ix,.ld a k v) :: pend) { s with t:=put d v s.t}
 | none=>none
theorem quE (d:Option Nat) (t:List qa) (e:Bool) (a:qa) (k:Option Nat) (ix:Nat) (f:List (Nat×Chk)->St->Option (Ex×St)) (v:qa):ldD d ⟨t,h,e⟩ a k ix pend f (some v) = f ((ix,.ld a k v) :: pend) ⟨put d v t,h,e⟩:=rfl
theorem qxv {d:Option Nat} {k:Option Nat} {a:qh} {ix cl:Nat} {ds:List qN}:qx base call dsts (⟨⟨d,.ld k a,none⟩,ix,cl⟩ :: ds) pend s = ldD d s (ev s.t a) k ix pend (qx base call dsts ds) (qcl s.h (ev s.t a) k):=by
 simp only [qx,wanted,AOp.effs,jn,if_false,qeK,qv]
 cases qcl s.h (ev s.t a) k <;> rfl
theorem qts {d:Option Nat} {cs:List qa} {ix cl:Nat} {ds:List qN}:qx base call dsts (⟨⟨d,.new cs,none⟩,ix,cl⟩ :: ds) pend s = qx base call dsts ds ((ix,.box s.h.length (cs.map qa.dim)) :: pend) { s with t:=put d (.ptr s.h.length 0) s.t,h:=s.h ++ [.cells (cs.map qa.dim)]}:=by
 simp only [qx,wanted,AOp.effs,jn,if_false,qeK,qv]
end
theorem qq3 (x:qh):(AOp.mov x).light = true:=Eq.trans rfl rfl
theorem qng (c a b:qh):(AOp.pick c a b).light = true:=Eq.trans rfl rfl
theorem qkE (z:List qa) (ps:List (Nat×Nat×qh)):(AOp.build z ps).light = true:=Eq.trans rfl rfl
theorem qne (k:Nat) (z:List qa) (l:Nat) (ps:List (Nat×qh)):(AOp.list k z l ps).light = true:=Eq.trans rfl rfl
theorem qnf (x:qh):(AOp.nilc x).light = true:=Eq.trans rfl rfl
theorem qqP (op:BinOp) (x y:qh):(AOp.bin op x y).light = true:=Eq.trans rfl rfl
theorem qqU (n:Bool) (x y:qh):(AOp.eqb n x y).light = true:=Eq.trans rfl rfl
theorem qqV (k:Nat) (n:Bool) (x y:qh):(AOp.eqi k n x y).light = true:=Eq.trans rfl rfl
theorem qqT (n:Bool) (x y:qh):(AOp.eqa n x y).light = true:=Eq.trans rfl rfl
theorem quK (op:UnOp) (x:qh):(AOp.un op x).light = true:=Eq.trans rfl rfl
theorem qqR (k:IntKind) (x:qh):(AOp.cvi k x).light = true:=Eq.trans rfl rfl
theorem qqS (x:qh):(AOp.cvs x).light = true:=Eq.trans rfl rfl
theorem qqQ (x:qh):(AOp.cvb x).light = true:=Eq.trans rfl rfl
theorem qq2 (t:TypeId) (x:qh):(AOp.mkI t x).light = true:=Eq.trans rfl rfl
theorem qq1 (f:FuncId) (a b:List qh):(AOp.mkF f a b).light = true:=Eq.trans rfl rfl
theorem qni (x:qh) (l h:Option qh):(AOp.subS x l h).light = true:=Eq.trans rfl rfl
theorem qnh (k:Nat) (x:qh) (l h:Option qh):(AOp.subL k x l h).light = true:=Eq.trans rfl rfl
theorem quI (o:Nat) (a:qh):(AOp.fa o a).light = true:=Eq.trans rfl rfl
theorem qnd (k:Nat) (s i:qh):(AOp.ixaL k s i).light = true:=Eq.trans rfl rfl
theorem qnc (n k:Nat) (a i:qh):(AOp.ixaA n k a i).light = true:=Eq.trans rfl rfl
theorem qqZ (s i:qh):(AOp.ixS s i).light = true:=Eq.trans rfl rfl
theorem qqY (n:Nat) (k:Option Nat) (a i:qh):(AOp.ixA n k a i).light = true:=Eq.trans rfl rfl
theorem qqX (o:Nat) (k:Option Nat) (x:qh):(AOp.fld o k x).light = true:=Eq.trans rfl rfl
theorem qqW (x:qh) (i:Nat):(AOp.ext x i).light = true:=Eq.trans rfl rfl
theorem qq0 (b:Bool) (x:qh):(AOp.len b x).light = true:=Eq.trans rfl rfl
theorem quJ (b:Bool) (x y:qh):(AOp.mm b x y).light = true:=Eq.trans rfl rfl
theorem qq4 (t:TypeId) (z:qa) (x:qh):(AOp.tas t z x).light = true:=Eq.trans rfl rfl
section
variable {base:Nat} {call:Call} {p:qcD} {s:St} {t:List qa} {h:List qb}
def qjS (k:Nat) (xs ys:List qa):Bool:=decide (xs.length + ys.length <= qdH) && ys.all (λy=>y.cells.length == k && y.cells.all qa.storable) && xs.head?.all (λy=>y.cells.length == k)
def qz5 (d:Option Nat) (k:Nat) (ys:List qa):Option (List qa×St)->Option (Ex×St)
 | some (xs,s)=>if xs.head?.all (λy=>y.cells.length == k) then some (.nor,{ s with t:=put d (.lst (xs ++ ys) (.own k)) s.t}) else none
 | none=>none
def qsX (d:Option Nat) (k:Nat) (s:St) (tk:Option (List qa×St)) (x:qa) (ys:Option (List qa)):Option (Ex×St):=
 match x,ys with
 | .lst xs f,some ys=>
  if ys.isEmpty then some (.nor,{ s with t:=put d (qa.lst xs f).dim s.t})
  else if qjS k xs ys = true then
   match f with
   | .full=>some (.nor,{ s with t:=put d (.lst (xs ++ ys) (.own k)) s.t})
   | _=>qz5 d k ys tk
  else none
 | _,_=>none
theorem qBz (d:Option Nat) (k:Nat) (x y:qh):qv base call p d (.app k x y) s = qsX d k s (qdO k p x s) (raw s.t x) (tail (ev s.t y)):=by
 simp only [qv,qsX,qjS,jm,decide_eq_true_eq,and_assoc]
 generalize raw s.t x = v
 generalize tail (ev s.t y) = w
 generalize qdO k p x s = z
 cases v <;> rfl
theorem qvw (ys:List qa) (f:qgh):tail (.lst ys f) = some ys:=rfl
theorem qvx (b:List UInt8):tail (.str b) = some (qh6 b):=rfl
theorem qwz (d:Option Nat) (k:Nat) (t:List qa) (e:Bool) (tk:Option (List qa×St)) (xs:List qa) (f:qgh):qsX d k ⟨t,h,e⟩ tk (.lst xs f) (some []) = some (.nor,⟨put d (qa.lst xs f).dim t,h,e⟩):=rfl
theorem qsY {d:Option Nat} {k:Nat} {t:List qa} {e:Bool} {tk:Option (List qa×St)} {xs ys:List qa} (hy:ys.isEmpty = false) (hc:qjS k xs ys = true):qsX d k ⟨t,h,e⟩ tk (.lst xs .full) (some ys) = some (.nor,⟨put d (.lst (xs ++ ys) (.own k)) t,h,e⟩):=by
 simp only [qsX,hy,hc,jn,if_false,if_true]
theorem qwA {d:Option Nat} {k j:Nat} {s:St} {tk:Option (List qa×St)} {xs ys:List qa} (hy:ys.isEmpty = false) (hc:qjS k xs ys = true):qsX d k s tk (.lst xs (.own j)) (some ys) = qz5 d k ys tk:=by
 simp only [qsX,hy,hc,jn,if_false,if_true]
theorem qz6 {d:Option Nat} {k:Nat} {s:St} {tk:Option (List qa×St)} {xs ys:List qa} (hy:ys.isEmpty = false) (hc:qjS k xs ys = true):qsX d k s tk (.lst xs .no) (some ys) = qz5 d k ys tk:=by
 simp only [qsX,hy,hc,jn,if_false,if_true]
theorem qom {d:Option Nat} {k:Nat} {t:List qa} {e:Bool} {xs ys:List qa} (hc:qjS k xs ys = true):qz5 d k ys (some (xs,⟨t,h,e⟩)) = some (.nor,⟨put d (.lst (xs ++ ys) (.own k)) t,h,e⟩):=by
 simp only [qjS,jm] at hc
 simp only [qz5,hc.2,if_true]
def qak (p:qcD) (i:Nat):Option Src:=(p.find? (·.1 == i)).map (·.2)
def qvz (k b:Nat) (s:St) (v:qa):Option (List qa×St):=
 match v with
 | .lst xs (.own j)=>if j = k then some (xs,{ s with t:=s.t.set b (.lst xs .no)}) else none
 | _=>none
def qzH (k:Nat) (s:St) (id o:Nat) (c:Option qb):Option (List qa×St):=
 match c with
 | some (.cells cs)=>
  match cs[o]? with
  | some (.lst xs (.own j))=>if j = k then some (xs,{ s with h:=s.h.set id (.cells (cs.set o (.lst xs .no)))}) else none
  | _=>none
 | _=>none
def qvy (k:Nat) (s:St) (a:qa):Option (List qa×St):=
 match a with
 | .ptr id o=>qzH k s id o s.h[id]?
 | _=>none
def qnZ (k:Nat) (s:St):Option Src->Option (List qa×St)
 | some (.tmp b)=>qvz k b s (lkp s.t b)
 | some (.cell a)=>qvy k s (ev s.t a)
 | none=>none
def qsy (k i:Nat) (s:St) (v:qa) (src:Option Src):Option (List qa×St):=
 match v with
 | .lst xs (.own j)=>if j = k then some (xs,{ s with t:=s.t.set i (.lst xs .no)}) else none
 | _=>qnZ k s src
theorem qzJ (k:Nat) (i:Nat):qdO k p (.t i) s = qsy k i s (lkp s.t i) (qak p i):=by
 simp only [qdO,qsy,lkp,qak]
 generalize hv:s.t.getD i .undef = v
 have key:(match p.find? (·.1 == i) with
   | some (_,.tmp b)=>
    match s.t.getD b .undef with
    | .lst xs (.own j)=>if j = k then some (xs,{ s with t:=s.t.set b (.lst xs .no)}) else none
    | _=>none
   | some (_,.cell a)=>
    match ev s.t a with
    | .ptr id o=>
     match s.h[id]? with
     | some (.cells cs)=>
      match cs[o]? with
      | some (.lst xs (.own j))=>if j = k then some (xs,{ s with h:=s.h.set id (.cells (cs.set o (.lst xs .no)))}) else none
      | _=>none
     | _=>none
    | _=>none
   | none=>none) = qnZ k s ((p.find? (·.1 == i)).map (·.2)):=by
  cases p.find? (·.1 == i) with
  | none=>rfl
  | some q=>
   obtain ⟨_,src⟩:=q
   cases src with
   | tmp b=>rfl
   | cell a=>
    simp only [jO,qnZ,qvy]
    cases ev s.t a <;> rfl
 cases v with
 | lst xs f=>cases f <;> first | rfl | exact key
 | _=>exact key
theorem qsz (k i:Nat) (t:List qa) (e:Bool) (xs:List qa) (src:Option Src):qsy k i ⟨t,h,e⟩ (.lst xs (.own k)) src = some (xs,⟨up t i (.lst xs .no),h,e⟩):=by simp [qsy,up]
theorem qvA (k i:Nat) (xs:List qa) (src:Option Src):qsy k i s (.lst xs .no) src = qnZ k s src:=rfl
theorem qsw (k b:Nat):qnZ k s (some (.tmp b)) = qvz k b s (lkp s.t b):=rfl
theorem qn0 (k:Nat) (a:qh):qnZ k s (some (.cell a)) = qvy k s (ev s.t a):=rfl
theorem qsx (k b:Nat) (t:List qa) (e:Bool) (xs:List qa):qvz k b ⟨t,h,e⟩ (.lst xs (.own k)) = some (xs,⟨up t b (.lst xs .no),h,e⟩):=by simp [qvz,up]
theorem qsv (k id o:Nat):qvy k s (.ptr id o) = qzH k s id o s.h[id]?:=rfl
def qzI (k:Nat) (s:St) (id o:Nat) (cs:List qa) (v:Option qa):Option (List qa×St):=
 match v with
 | some (.lst xs (.own j))=>if j = k then some (xs,{ s with h:=s.h.set id (.cells (cs.set o (.lst xs .no)))}) else none
 | _=>none
theorem qk6 (k id o:Nat) (cs:List qa):qzH k s id o (some (.cells cs)) = qzI k s id o cs cs[o]?:=rfl
theorem qsu (k id o:Nat) (t:List qa) (e:Bool) (cs xs:List qa):qzI k ⟨t,h,e⟩ id o cs (some (.lst xs (.own k))) = some (xs,⟨t,h.set id (.cells (cs.set o (.lst xs .no))),e⟩):=by simp [qzI]
theorem qzs (i:Nat):qak [] i = none:=rfl
def qai (p:qcD) (d:Option Nat) (o:AOp):qcD:=
 match d with
 | none=>p
 | some d=>
  let q:=p.filter λx=>x.1 != d && !x.2.hangs d
  match qD o with
  | some s=>if s.hangs d then q else (d,s) :: q
  | none=>q
def qaj (p:qcD) (d:Option Nat):qcD:=
 match d with
 | none=>p.filter λx=>x.2.isTmp
 | some d=>p.filter λx=>x.2.isTmp && (x.1 != d && !x.2.hangs d)
theorem qvb {d:Option Nat} {o:AOp} {g:Option (Nat×Bool)} (ho:o.effs = true):qaY p ⟨d,o,g⟩ = qaj p d:=by simp only [qaY,ho,if_true,qaj];cases d <;> rfl
theorem qzf {d:Option Nat} {o:AOp} {g:Option (Nat×Bool)} (ho:o.effs = false):qaY p ⟨d,o,g⟩ = qai p d o:=by simp only [qaY,ho,jn,if_false,qai];cases d <;> rfl
end
theorem qwP (k:IntKind) (a b:Int):qbV .add (.int k a) (.int k b) = some (.int k (k.wrap (a + b))):=by simp [qbV,qbR]
theorem qwZ (k:IntKind) (a b:Int):qbV .sub (.int k a) (.int k b) = some (.int k (k.wrap (a - b))):=by simp [qbV,qbR]
theorem qwV (k:IntKind) (a b:Int):qbV .mul (.int k a) (.int k b) = some (.int k (k.wrap (a * b))):=by simp [qbV,qbR]
theorem qwX (k:IntKind) (a b:Int):qbV .quo (.int k a) (.int k b) = if b = 0 then none else some (.int k (k.wrap (a.tdiv b))):=by simp [qbV,qbR]
theorem qwY (k:IntKind) (a b:Int):qbV .rem (.int k a) (.int k b) = if b = 0 then none else some (.int k (a.tmod b)):=by simp [qbV,qbR]
theorem qwQ (k:IntKind) (a b:Int):qbV .eql (.int k a) (.int k b) = some (.bool (a == b)):=by simp [qbV,qbR]
theorem qwW (k:IntKind) (a b:Int):qbV .neq (.int k a) (.int k b) = some (.bool (!(a == b))):=by simp [qbV,qbR,bne]
theorem qwU (k:IntKind) (a b:Int):qbV .lss (.int k a) (.int k b) = some (.bool (ilt a b)):=by simp [qbV,qbR]
theorem qwT (k:IntKind) (a b:Int):qbV .leq (.int k a) (.int k b) = some (.bool (ile a b)):=by simp [qbV,qbR]
theorem qwS (k:IntKind) (a b:Int):qbV .gtr (.int k a) (.int k b) = some (.bool (ilt b a)):=by simp [qbV,qbR]
theorem qwR (k:IntKind) (a b:Int):qbV .geq (.int k a) (.int k b) = some (.bool (ile b a)):=by simp [qbV,qbR]
theorem qzy (a b:List UInt8):qbV .add (.str a) (.str b) = if a.length + b.length <= qdH then some (.str (a ++ b)) else none:=rfl
theorem qzz (a b:List UInt8):qbV .eql (.str a) (.str b) = some (.bool (a == b)):=rfl
theorem qzC (a b:List UInt8):qbV .neq (.str a) (.str b) = some (.bool (!(a == b))):=rfl
theorem qzB (a b:List UInt8):qbV .lss (.str a) (.str b) = some (.bool (Op.bytesLess a b)):=rfl
theorem qzA (a b:List UInt8):qbV .gtr (.str a) (.str b) = some (.bool (!(Op.bytesLess a b || a == b))):=rfl
theorem qB2 (k:IntKind) (n:Int):unV .neg (.int k n) = some (.int k (k.wrap (0 - n))):=rfl
theorem qB3 (b:Bool):unV .not (.bool b) = some (.bool (!b)):=rfl
section
variable {base:Nat} {call:Call} {p:qcD} {s:St}
def quL (k:Nat) (zero:List qa) (len:Nat) (parts:List (Nat×qa)):Option qa:=
 if zero.length = k/\len * k <= 2 ^ 24 then
  match q8 ((List.replicate len zero).flatten) (parts.map λ(i,x)=>(i * k,k,x)) with
  | some cs=>if cs.all qa.storable then some (.lst ((List.range len).map λi=>if k = 1 then (cs.getD i .undef) else .agg ((cs.drop (i * k)).take k)) .full) else none
  | none=>none
 else none
theorem qy8 (d:Option Nat) (k:Nat) (z:List qa) (len:Nat) (ps:List (Nat×qh)):qv base call p d (.list k z len ps) s = qgW d s (quL k z len (ps.map λ(i,x)=>(i,ev s.t x))):=by
 rw [qbx _ _ rfl (by simp) (by simp) (by simp)]
 simp only [pureV,quL,List.map_map]
 rfl
theorem qiT {k:Nat}:∀(vs:List (List qa)) (i:Nat),(∀v ∈ vs,v.length = k)->i < vs.length->(vs.flatten.drop (i * k)).take k = vs.getD i []
 | [],i,_,h=>by simp at h
 | v :: vs,0,hv,_=>by
  have:=hv v (jJ ..)
  simp [<-this]
 | v :: vs,i + 1,hv,h=>by
  have h1:=hv v (jJ ..)
  rw [List.flatten_cons,Nat.add_mul,Nat.one_mul,jy,<-List.drop_drop,<-h1,List.drop_left,h1,qiT vs i (λw hw=>hv w (jN _ hw)) (by simpa using h)]
  rfl
end
theorem qiZ (c b:Bool) (d:Option Nat) (s:St) (r:Option qa) (k:St->Option (Ex×St)):qgF (.bool c) b d s r k = qj (c == b) d s r k:=Eq.trans rfl rfl
theorem qki (b:Bool) (d:Option Nat) (s:St) (r:Option qa) (k:St->Option (Ex×St)):qgF (.tup []) b d s r k = qj false d s r k:=Eq.trans rfl rfl
theorem qi0 (d:Option Nat) (t:List qa) (h:List qb) (e:Bool) (v:qa) (k:St->Option (Ex×St)):qj true d ⟨t,h,e⟩ (some v) k = k ⟨put d v t,h,e⟩:=Eq.trans rfl rfl
theorem qh4 (d:Option Nat) (t:List qa) (h:List qb) (e:Bool) (r:Option qa) (k:St->Option (Ex×St)):qj false d ⟨t,h,e⟩ r k = k ⟨put d (.tup []) t,h,e⟩:=Eq.trans rfl rfl
theorem qmL (d:Option Nat) (t:List qa) (h:List qb) (e:Bool) (r:Option (Ex×St)) (k:St->Option (Ex×St)):qgE (.bool true) false d ⟨t,h,e⟩ r k = k ⟨put d (.tup []) t,h,e⟩:=Eq.trans rfl rfl
theorem qmJ (d:Option Nat) (t:List qa) (h:List qb) (e:Bool) (r:Option (Ex×St)) (k:St->Option (Ex×St)):qgE (.bool false) true d ⟨t,h,e⟩ r k = k ⟨put d (.tup []) t,h,e⟩:=Eq.trans rfl rfl
theorem qkh (b:Bool) (d:Option Nat) (t:List qa) (h:List qb) (e:Bool) (r:Option (Ex×St)) (k:St->Option (Ex×St)):qgE (.tup []) b d ⟨t,h,e⟩ r k = k ⟨put d (.tup []) t,h,e⟩:=Eq.trans rfl rfl
theorem qmv (r:Option qa):qaK true r = r:=Eq.trans rfl rfl
theorem qke (r:Option qa):qaK false r = some (.tup []):=Eq.trans rfl rfl
theorem qt7 (v:qa):gv true v = v:=Eq.trans rfl rfl
theorem qp1 (v:qa):gv false v = .tup []:=Eq.trans rfl rfl
section
variable {base:Nat} {call:Call} {p:qcD} {s:St}
theorem qn4 (f:St->Option (Ex×St)) (s:St):qdc f (some (.nor,s)) = f s:=Eq.trans rfl rfl
end
theorem qj1 (a b:Option (Ex×St)):qxd (.bool true) a b = a:=Eq.trans rfl rfl
theorem qiG (a b:Option (Ex×St)):qxd (.bool false) a b = b:=Eq.trans rfl rfl
theorem qCI (d:Nat) (o:AOp):ao d o = ⟨some d,o,none⟩:=Eq.trans rfl rfl
theorem qCG (d:Nat) (o:AOp) (j:Nat) (b:Bool):ag d o j b = ⟨some d,o,some (j,b)⟩:=Eq.trans rfl rfl
theorem qCH (o:AOp):an o = ⟨none,o,none⟩:=Eq.trans rfl rfl
theorem qsh (cs:List qa) (o:Nat) (vs:List qa):splice cs o vs = cs.take o ++ vs ++ cs.drop (o + vs.length):=Eq.trans rfl rfl
theorem qHW (d i:Nat):mv d i=⟨some d,.mov (.t i),none⟩:=Eq.trans rfl rfl
theorem qH1 (d i:Nat):sg d i=⟨some d,.asg (.t i),none⟩:=Eq.trans rfl rfl
theorem qGu (d k i:Nat):fA d k i=⟨some d,.fa k (.t i),none⟩:=Eq.trans rfl rfl
theorem qEt (d i:Nat):ldn d i=⟨some d,.ld none (.t i),none⟩:=Eq.trans rfl rfl
theorem qEu (d k i:Nat):lds d k i=⟨some d,.ld (some k) (.t i),none⟩:=Eq.trans rfl rfl
theorem qEW (k i j:Nat):sts k i j=⟨none,.st (some k) (.t i) (.t j),none⟩:=Eq.trans rfl rfl
theorem qEV (i j:Nat):stn i j=⟨none,.st none (.t i) (.t j),none⟩:=Eq.trans rfl rfl
theorem qFf (d i k:Nat):xtt d i k=⟨some d,.ext (.t i) k,none⟩:=Eq.trans rfl rfl
theorem qEB (d i:Nat):nlc d i=⟨some d,.nilc (.t i),none⟩:=Eq.trans rfl rfl
theorem qFe (d k i j:Nat):xlL d k i j=⟨some d,.ixaL k (.t i) (.t j),none⟩:=Eq.trans rfl rfl
theorem qEz (d i:Nat):lnn d i=⟨some d,.len false (.t i),none⟩:=Eq.trans rfl rfl
theorem qGA (n:Int):kI n=.c (.int .i64 n):=Eq.trans rfl rfl
theorem qGz (n:Nat):kF n=.c (.fn n [] []):=Eq.trans rfl rfl
theorem qGB:kO=.c (.bool false):=Eq.trans rfl rfl
theorem qGC:kU=.c (.bool true):=Eq.trans rfl rfl
theorem qHX:nL=.lst [] .full:=Eq.trans rfl rfl
theorem qIo:zZ=.int .i64 0:=Eq.trans rfl rfl
theorem qIn:zS=.str []:=Eq.trans rfl rfl
theorem qCX (d i:Nat) (n:Int):eqk d i n=⟨some d,.bin .eql (.t i) (.c (.int .i64 n)),none⟩:=Eq.trans rfl rfl
theorem qCP (d:Nat) (o:BinOp) (i:Nat) (n:Int):bnk d o i n=⟨some d,.bin o (.t i) (.c (.int .i64 n)),none⟩:=Eq.trans rfl rfl
theorem qCQ (d:Nat) (o:BinOp) (i j:Nat):bnt d o i j=⟨some d,.bin o (.t i) (.t j),none⟩:=Eq.trans rfl rfl
theorem qET (d:Nat) (n:Int):sgk d n=⟨some d,.asg (.c (.int .i64 n)),none⟩:=Eq.trans rfl rfl
theorem qER (d:Nat):sgO d=⟨some d,.asg (.c (.bool false)),none⟩:=Eq.trans rfl rfl
theorem qES (d:Nat):sgU d=⟨some d,.asg (.c (.bool true)),none⟩:=Eq.trans rfl rfl
theorem qCS (d f i:Nat):clA d f i=⟨some d,.call (.c (.fn f [] [])) [.t i],none⟩:=Eq.trans rfl rfl
theorem qCT (d f i j:Nat):clB d f i j=⟨some d,.call (.c (.fn f [] [])) [.t i,.t j],none⟩:=Eq.trans rfl rfl
theorem qEI (d i j:Nat):pkO d i j=⟨some d,.pick (.t i) (.t j) (.c (.bool false)),none⟩:=Eq.trans rfl rfl
theorem qEJ (d i j:Nat):pkU d i j=⟨some d,.pick (.t i) (.c (.bool true)) (.t j),none⟩:=Eq.trans rfl rfl
theorem qCR (d k i:Nat):bxx d k i=⟨some d,.box k (.t i),none⟩:=Eq.trans rfl rfl
theorem qEE (d i:Nat):ntt d i=⟨some d,.un .not (.t i),none⟩:=Eq.trans rfl rfl
theorem qDo (d i j:Nat) (b:Bool):gmv d i j b=⟨some d,.mov (.t i),some (j,b)⟩:=Eq.trans rfl rfl
theorem qDk (d k i j:Nat) (b:Bool):gfA d k i j b=⟨some d,.fa k (.t i),some (j,b)⟩:=Eq.trans rfl rfl
theorem qDl (d i j:Nat) (b:Bool):gld d i j b=⟨some d,.ld none (.t i),some (j,b)⟩:=Eq.trans rfl rfl
theorem qDn (d k i j:Nat) (b:Bool):gls d k i j b=⟨some d,.ld (some k) (.t i),some (j,b)⟩:=Eq.trans rfl rfl
theorem qDm (d i j:Nat) (b:Bool):gln d i j b=⟨some d,.len false (.t i),some (j,b)⟩:=Eq.trans rfl rfl
theorem qDh (d:Nat) (o:BinOp) (i:Nat) (n:Int) (j:Nat) (b:Bool):gbk d o i n j b=⟨some d,.bin o (.t i) (.c (.int .i64 n)),some (j,b)⟩:=Eq.trans rfl rfl
theorem qDi (d:Nat) (o:BinOp) (i i2 j:Nat) (b:Bool):gbt d o i i2 j b=⟨some d,.bin o (.t i) (.t i2),some (j,b)⟩:=Eq.trans rfl rfl
theorem qGf (i:Nat) (a b:qG):cT i a b=.cond (.t i) a b:=Eq.trans rfl rfl
theorem qH0 (l:List qaq) (c:qG):sR l c=.seq (.reg l) c:=Eq.trans rfl rfl
def sT:=PLift.up (yq (yq (yq (yq (yq (yq (yq (yq @qpy (yq @qms @qtW)) (yq (yq @qmr @qpx) (yq @qka @qEO))) (yq (yq @qmq (yq @qtt @qtr)) (yq (yq @qmk @qxv) (yq @qts @quE)))) (yq (yq (yq @qpg (yq @qph @qmu)) (yq (yq @qkd @qs9) (yq @qoH @qAr))) (yq (yq @qw9 (yq @qor @qoo)) (yq (yq @qq3 @qng) (yq @qkE @qne))))) (yq (yq (yq (yq @qnf (yq @qqP @qqU)) (yq (yq @qqV @qqT) (yq @quK @qqR))) (yq (yq @qqS (yq @qqQ @qq2)) (yq (yq @qq1 @qni) (yq @qnh @quI)))) (yq (yq (yq @qnd (yq @qnc @qqZ)) (yq (yq @qqY @qqX) (yq @qqW @qq0))) (yq (yq (yq @quJ @qq4) (yq @qrL @qtM)) (yq (yq @qqw @qnE) (yq @qpo @qmU)))))) (yq (yq (yq (yq (yq @qkQ (yq @qmm @qkl)) (yq (yq @qnC @qpm) (yq @qmS @qu4))) (yq (yq @qxy (yq @quq @qnD)) (yq (yq @qpn @qmT) (yq @qrw @qtx)))) (yq (yq (yq @qqh (yq @qrC @qtD)) (yq (yq @qqn @qrD) (yq @qtE @qqo))) (yq (yq (yq @qrB @qtC) (yq @qqm @qu7)) (yq (yq @qxB @qut) (yq @qrz @qtA))))) (yq (yq (yq (yq @qqk (yq @qrA @qtB)) (yq (yq @qql @qry) (yq @qtz @qqj))) (yq (yq @qrK (yq @qtL @qqv)) (yq (yq @qrJ @qtK) (yq @qqu @qnG)))) (yq (yq (yq @qpq (yq @qmW @qnF)) (yq (yq @qpp @qmV) (yq @qu3 @qxx))) (yq (yq (yq @qup @qnB) (yq @qpl @qmR)) (yq (yq @qnA @qpk) (yq @qmQ @qrH))))))) (yq (yq (yq (yq (yq (yq @qtI (yq @qqs @qrG)) (yq (yq @qtH @qqr) (yq @qrF @qtG))) (yq (yq @qqq (yq @qrE @qtF)) (yq (yq @qqp @qrI) (yq @qtJ @qqt)))) (yq (yq (yq @qu5 (yq @qxz @qur)) (yq (yq @qrP @qtP) (yq @qqz @qrv))) (yq (yq (yq @qtw @qqg) (yq @qrM @qtN)) (yq (yq @qqx @qrx) (yq @qty @qqi))))) (yq (yq (yq (yq @qu6 (yq @qxA @qus)) (yq (yq @qnz @qpj) (yq @qmP @qru))) (yq (yq @qtv (yq @qqf @qrO)) (yq (yq @qtO @qqy) (yq @qEL @qBP)))) (yq (yq (yq @qzh (yq @qzg @qBG)) (yq (yq @qBA @qrp) (yq @qBC @qwa))) (yq (yq (yq @qBK @qro) (yq @qwi @qrn)) (yq (yq @qBH @qBD) (yq @qEF @qwf)))))) (yq (yq (yq (yq (yq @qy7 (yq @quY @qy8)) (yq (yq @qBB @qw0) (yq @qwj @quQ))) (yq (yq @quR (yq @qBE @qwh)) (yq (yq @qwg @qwe) (yq @qtZ @qwc)))) (yq (yq (yq @qpt (yq @qwd @qwb)) (yq (yq @qtg @qBF) (yq @qBk @qyu))) (yq (yq (yq @qBI @qnw) (yq @qox @qow)) (yq (yq @qve @qvd) (yq @qn4 @qsD))))) (yq (yq (yq (yq @qn3 (yq @qsC @ql5)) (yq (yq @ql7 @ql6) (yq @qjV @qj1))) (yq (yq @qiG (yq @qrd @qre)) (yq (yq @qGj @qGi) (yq @qEN @qEM)))) (yq (yq (yq @qbf (yq @qyp @qyq)) (yq (yq @qq7 @qq6) (yq @qpf @qpe))) (yq (yq (yq @qmh @qo9) (yq @qpc @qiM)) (yq (yq @qpb @qmj) (yq @qo8 @qpd)))))))) (yq (yq (yq (yq (yq (yq (yq @qtn (yq @qto @qmi)) (yq (yq @qpa @qj5) (yq @qH @qtk))) (yq (yq @qxp (yq @qxs @qxr)) (yq (yq @qtm @qxo) (yq @qxt @qAw)))) (yq (yq (yq @qo7 (yq @qmg @qj4)) (yq (yq @qiK @qo6) (yq @qxu @qAy))) (yq (yq (yq @qtl @qxq) (yq @qAx @qF)) (yq (yq @qQ @qxR) (yq @qzq @qse))))) (yq (yq (yq (yq @qxS (yq @qxQ @qzp)) (yq (yq @qpP @qsd) (yq @qmy @qwo))) (yq (yq @qlT (yq @qoz @qoA)) (yq (yq @qoD @ql9) (yq @qoB @qoC)))) (yq (yq (yq @qiz (yq @qs7 @qhj)) (yq (yq @qjZ @qoE) (yq @qtd @qqI))) (yq (yq (yq @qlE @qqJ) (yq @qrV @qrW)) (yq (yq @qzt @qsi) (yq @qlV @qlW)))))) (yq (yq (yq (yq (yq @qsj (yq @qvp @qvq)) (yq (yq @qsk @qk3) (yq @qjC @qzw))) (yq (yq @qvr (yq @qim @qnS)) (yq (yq @qkJ @qnk) (yq @qjd @qjf)))) (yq (yq (yq @qje (yq @qq9 @qrb)) (yq (yq @qnm @qq8) (yq @qh9 @qhm))) (yq (yq (yq @qkI @quO) (yq @qjc @qra)) (yq (yq @qhB @qgQ) (yq @qvo @qxJ))))) (yq (yq (yq (yq @qt0 (yq @qrk @qnq)) (yq (yq @quH @quG) (yq @qt3 @qrX))) (yq (yq @qhV (yq @qwP @qwZ)) (yq (yq @qwV @qwX) (yq @qwY @qwQ)))) (yq (yq (yq @qwW (yq @qwU @qwT)) (yq (yq @qwS @qwR) (yq @qzy @qzz))) (yq (yq (yq @qzC @qzB) (yq @qzA @qB2)) (yq (yq @qB3 @qnx) (yq @qkP @qu2))))))) (yq (yq (yq (yq (yq (yq @qzc (yq @qiZ @qki)) (yq (yq @qp0 @qmM) (yq @qi0 @qh4))) (yq (yq @qkj (yq @qx3 @qwL)) (yq (yq @qqd @qDs) (yq @qCK @qx5)))) (yq (yq (yq @qDr (yq @qCJ @qx4)) (yq (yq @qAR @qAg) (yq @quj @qAN))) (yq (yq (yq @qAc @quf) (yq @qDu @qCM)) (yq (yq @qx7 @qx1) (yq @qwJ @qqb))))) (yq (yq (yq (yq @qAM (yq @qAb @que)) (yq (yq @qAJ @qz8) (yq @qub @qAS))) (yq (yq @qAh (yq @quk @qAP)) (yq (yq @qAe @quh) (yq @qxZ @qwH)))) (yq (yq (yq @qp9 (yq @qAQ @qAf)) (yq (yq @qui @qx0) (yq @qwI @qqa))) (yq (yq (yq @qAO @qAd) (yq @qug @qxY)) (yq (yq @qwG @qp8) (yq @qAI @qz7)))))) (yq (yq (yq (yq (yq @qua (yq @qxV @qwD)) (yq (yq @qp5 @qAK) (yq @qz9 @quc))) (yq (yq @qxW (yq @qwE @qp6)) (yq (yq @qAL @qAa) (yq @qud @qxX)))) (yq (yq (yq @qwF (yq @qp7 @qDt)) (yq (yq @qCL @qx6) (yq @qAT @qAi))) (yq (yq (yq @qul @qx2) (yq @qwK @qqc)) (yq (yq @qt8 @qs0) (yq @qmN @qt9))))) (yq (yq (yq (yq @qs1 (yq @qmO @qpM)) (yq (yq @qmv @qke) (yq @qDp @qt7))) (yq (yq @qp1 (yq @qmK @qmL)) (yq (yq @qmJ @qkh) (yq @qx8 @quu)))) (yq (yq (yq @qtQ (yq @qtS @qtR)) (yq (yq @qpr @qzm) (yq @qzn @qvf))) (yq (yq (yq @qme @qns) (yq @qnr @qnt)) (yq (yq @qqN @qnb) (yq @qqM @qna)))))))))
def sC:=PLift.up (yq (yq (yq (yq (yq @List.nil_append.{0} (yq @List.append_nil.{0} @List.map_cons.{0,0})) (yq (yq @List.map_nil.{0,0} @List.length_cons.{0}) (yq @List.length_nil.{0} @List.cons_append.{0}))) (yq (yq (yq (yq (yq (yq (yq (yq (yq (yq (yq (yq (yq (yq (yq (yq (yq (yq (yq (yq (yq (yq (yq (yq (yq (yq (yq (yq (yq (yq (yq (yq (yq (yq (yq (yq (yq (yq (yq (yq (yq (yq @qCI @qHW) @qH1) @qGu) @qEt) @qEu) @qEW) @qEV) @qFf) @qEB) @qFe) @qEz) @qGA) @qGz) @qGB) @qGC) @qHX) @qIo) @qIn) @qCX) @qCP) @qCQ) @qET) @qER) @qES) @qCS) @qCT) @qEI) @qEJ) @qCR) @qEE) @qDo) @qDk) @qDl) @qDn) @qDm) @qDh) @qDi) @qGf) @qH0) @qCG) (yq @qCH @Option.map_some.{0,0})) (yq (yq @ne_eq.{1} @not_false_eq_true) (yq @List.length_set.{0} @List.length_replicate.{0})))) (yq (yq (yq @Bool.or_false (yq @Bool.or_true @Bool.false_or)) (yq (yq @Bool.true_or @Bool.and_true) (yq @Bool.and_false @Bool.true_and))) (yq (yq (yq @Bool.false_and @Bool.not_true) (yq @Bool.not_false @eq_self.{1})) (yq (yq @List.getElem?_cons_zero.{0} @List.getElem?_cons_succ.{0}) (yq @List.set_cons_zero.{0} @List.set_cons_succ.{0}))))) (yq (yq (yq (yq @List.append_assoc.{0} (yq @List.length_append.{0} @qsh)) (yq (yq @List.take_zero.{0} @List.drop_zero.{0}) (yq @List.take_succ_cons.{0} @List.drop_succ_cons.{0}))) (yq (yq (yq @List.drop_nil.{0} @List.take_nil.{0}) (yq @List.all_cons.{0} @List.all_nil.{0})) (yq (yq @Option.getD_some.{0} @Option.getD_none.{0}) (yq @and_self @and_true)))) (yq (yq (yq (yq @true_and @if_true.{1}) (yq @if_false.{1} @Nat.le_refl)) (yq (yq @Nat.ble_self_eq_true @Nat.zero_add) (yq @Nat.add_zero @beq_self_eq_true.{0}))) (yq (yq (yq @Bool.false_eq_true @bne_self_eq_false.{0}) (yq @List.isEmpty_nil.{0} @List.isEmpty_cons.{0})) (yq (yq @cond_true.{1} @cond_false.{1}) (yq @List.filterMap_cons.{0,0} @List.filterMap_nil.{0,0}))))))
def sTA:=PLift.up (yq (yq (yq (yq @qzj (yq @qy9 @qlL)) (yq @qjn (yq @qBz @qvw))) (yq (yq @qvx (yq @qwz @qsY)) (yq @qwA (yq @qz6 @qom)))) (yq (yq (yq @qzJ (yq @qsz @qvA)) (yq @qsw (yq @qn0 @qsx))) (yq (yq @qsv (yq @qk6 @qsu)) (yq @qzs (yq @qvb @qzf)))))
def sCA:=PLift.up (yq (yq @List.filter_cons.{0} @List.filter_nil.{0}) (yq @List.find?_cons.{0} @List.find?_nil.{0}))
section
variable {base:Nat} {call:Call} {p:qcD} {s:St} {t:List qa} {h:List qb}
def hxW (d:Option Nat) (s:St):Option (qa×List qb×Bool)->Option (Ex×St)
 | some (v,h,e)=>some (.nor,{ t:=put d v.dim s.t,h,e:=s.e || e})
 | none=>none
theorem qR (d:Option Nat) (t:List qa) (h h':List qb) (e e':Bool) (v:qa):hxW d ⟨t,h,e⟩ (some (v,h',e')) = some (.nor,⟨put d v.dim t,h',e || e'⟩):=rfl
theorem qbm (d:Option Nat) (o:HOp) (aS:List qh):qv base call p d (.hx o aS) s = hxW d s (hop base o (aS.map (ev s.t)) s.h):=by
 simp only [qv]
 cases hop base o (aS.map (ev s.t)) s.h with
 | none=>rfl
 | some r=>rfl
theorem qT (o:HOp) (aS:List qh):(AOp.hx o aS).plain = false:=Eq.trans rfl rfl
theorem qao (o:HOp) (aS:List qh):(AOp.hx o aS).effs = true:=Eq.trans rfl rfl
theorem qS (o:HOp) (aS:List qh):(AOp.hx o aS).isApp = false:=Eq.trans rfl rfl
theorem qci (id o len cap more:Nat):qbG false (.sl id o len cap more) = some (.int .i64 len):=rfl
theorem q9 (id o len cap more:Nat):(qa.sl id o len cap more).dim = .sl id o len cap more:=rfl
theorem qz (id o len cap more i:Nat) (t:List qa):qo (.sl id o len cap more) i t = t:=rfl
theorem qam (id o len cap more:Nat):(qa.sl id o len cap more).storable = true:=Eq.trans rfl rfl
theorem qO (id o len cap more:Nat):(qa.sl id o len cap more).cells = [.sl id o len cap more]:=rfl
theorem qM (n id o len cap more:Nat):(qa.sl id o len cap more).lower n = Nat.blt id n:=Eq.trans rfl rfl
theorem qyn (n:Nat) (v:qa) (H:List qb):qaU n (.ret v) H false = bif v.lower n then (.ret v,H.take n,false) else (.ret v,H,false):=by
 unfold qaU
 cases h:v.lower n <;> simp [h]
def qzD (k:Nat) (x y:qa):Option qa:=pureV [x,y] (.subL k (.t 0) none (some (.t 1)))
theorem qBJ (d:Option Nat) (k:Nat) (x y:qh):qv base call p d (.subL k x none (some y)) s = qgW d s (qzD k (ev s.t x) (ev s.t y)):=by
 have e1:ev [ev s.t x,ev s.t y] (.t 0) = ev s.t x:=by
  change (raw s.t x).dim.dim = (raw s.t x).dim
  exact qiL _
 have e2:ev [ev s.t x,ev s.t y] (.t 1) = ev s.t y:=by
  change (raw s.t y).dim.dim = (raw s.t y).dim
  exact qiL _
 have e:pureV s.t (.subL k x none (some y)) = qzD k (ev s.t x) (ev s.t y):=by
  simp only [qzD,pureV,bound,e1,e2]
 simp only [qv,e]
 cases qzD k (ev s.t x) (ev s.t y) <;> rfl
theorem qzE (k id o len cap more:Nat) (j:IntKind) (n:Int):qzD k (.sl id o len cap more) (.int j n) =
  if 0 <= n then (if n.toNat <= cap then (if cap = 0 then (if more = 0 then some (.lst [] .full) else none) else (if more = 0\/more = k then some (.sl id o n.toNat cap more) else none)) else none) else none:=by
 have e1:ev [qa.sl id o len cap more,.int j n] (.t 0) = .sl id o len cap more:=rfl
 have e2:ev [qa.sl id o len cap more,.int j n] (.t 1) = .int j n:=rfl
 simp only [qzD,pureV,bound,e1,e2]
 by_cases h:0 <= n
 ·simp only [h,if_true,Nat.zero_le,true_and,Nat.zero_mul,jW,Nat.sub_zero]
 ·simp only [h,if_false]
theorem qya (k id o len cap more:Nat) (j:IntKind) (n:Int):qaW k (.sl id o len cap more) (.int j n) = if 0 <= n/\n < len then some (.ptr id (o + n.toNat * k)) else none:=rfl
end
section
variable {P:Program} {gl:Nat->Option (List qa)}
noncomputable def cellsOf (W:World):Nat->Nat->Option Value:=λb o=>qmb (W.cell? ⟨b,o,none⟩)
def qxf (P:Program) (S:List TypeId):Bool:=S.all λt=>decide (t < P.types.size) && P.readableRec t && match P.underlying t with
 | some .bool | some (.int _) | some .string=>true
 | some (.slice e)=>S.contains e && decide (0 < P.cellsOf e)
 | some (.struct fs)=>fs.toList.all λf=>S.contains f.type
 | _=>false
def qb8 (P:Program) (t:TypeId):Bool:=
 match P.underlying t with
 | some (.struct _)=>true
 | _=>false
def el (P:Program) (t:TypeId) (cs:List qa):qa:=bif qb8 P t then .agg cs else cs.headD .undef
def qhO (R:TypeId->List qa->Prop):List TypeId->List (List qa)->Prop
 | [],[]=>True
 | t :: ts,a :: aS=>R t a/\qhO R ts aS
 | _,_=>False
def qdu (P:Program):Nat->TypeId->List qa->Prop
 | 0,_,_=>False
 | n + 1,t,aS=>
  match P.underlying t with
  | some .bool=>∃b,aS = [.bool b]
  | some (.int k)=>∃z,aS = [.int k z]/\(Lit.int k z).wf = true
  | some .string=>∃s:List UInt8,aS = [.str s]/\s.length <= maxLen
  | some (.slice e)=>∃xs:List (List qa),aS = [.lst (xs.map (el P e)) .no]/\xs.length <= maxLen/\∀x ∈ xs,qdu P n e x
  | some (.struct fs)=>∃ass:List (List qa),aS = ass.flatten/\qhO (qdu P n) (fs.toList.map (·.type)) ass
  | _=>False
theorem qis {γ:Nat->Option Nat} {imm:Nat->Nat->Option Value} {k:Nat} {b:Nat}:∀(xs:List qa) (p:Nat),(∀(i:Nat) (x:qa),xs[i]? = some x->x.cells.length = k/\qar γ imm x.cells b (p + i * k))->qW γ imm xs b p
 | [],_,_=>trivial
 | x :: xs,p,h=>by
  obtain ⟨h1,h2⟩:=h 0 x rfl
  have ih:=qis xs (p + k) λi y hy=>by
   obtain ⟨k1,k2⟩:=h (i + 1) y (by simpa using hy)
   refine ⟨k1,?_⟩
   rw [Nat.add_mul,Nat.one_mul] at k2
   rw [jx,jy k]
   exact k2
  simp only [Nat.zero_mul,jW] at h2
  cases x with
  | agg cs=>simp only [qa.cells] at h1 h2;simp only [qW,h1];exact ⟨h2,ih⟩
  | _=>
   simp only [qa.cells,jD,jE,Nat.zero_add] at h1
   subst h1
   simp only [qa.cells,qar] at h2
   exact ⟨h2.1,ih⟩
theorem qir {γ:Nat->Option Nat} {W:World} {b:Nat}:∀(aS:List qa) (vs:List Value) (p:Nat),qg γ (cellsOf W) aS vs->(∀i,i < vs.length->W.cell? ⟨b,p + i,none⟩ = vs[i]?)->qar γ (cellsOf W) aS b p
 | [],_,_,_,_=>trivial
 | a :: aS,vs,p,h,hc=>by
  simp only [qg] at h
  obtain ⟨v,rest,rfl,h1,h2⟩:=h
  refine ⟨⟨v,qbo.2 ⟨by simpa using hc 0 (by simp),qcN h1⟩,h1⟩,qir aS rest (p + 1) h2 λi hi=>?_⟩
  have:=hc (i + 1) (by simpa using hi)
  rw [jx,jy 1]
  simpa using this
theorem qg8 {γ:Nat->Option Nat} {imm:Nat->Nat->Option Value} {R:TypeId->List qa->Prop} {size:TypeId->Nat}:∀(fs:List Field) (o:Nat) (cs:List Value),cs.length = o + (fs.map λf=>size f.type).sum->
  (∀(j:Nat) f,fs[j]? = some f->f.offset = o + ((fs.take j).map λf=>size f.type).sum)->(∀f ∈ fs,∃aS,qg γ imm aS ((cs.drop f.offset).take (size f.type))/\R f.type aS)->
  ∃B:List (List qa),qg γ imm B.flatten (cs.drop o)/\qhO R (fs.map (·.type)) B
 | [],o,cs,hl,_,_=>⟨[],by simp only [List.map_nil,List.sum_nil,jW] at hl;simp [qg,<-hl],trivial⟩
 | f :: fs,o,cs,hl,ho,hr=>by
  have h0:f.offset = o:=by simpa using ho 0 f rfl
  obtain ⟨aS,h1,h2⟩:=hr f (jJ ..)
  rw [h0] at h1
  simp only [List.map_cons,List.sum_cons] at hl
  obtain ⟨B,h3,h4⟩:=qg8 fs (o + size f.type) cs zo (λj g hg=>by
   have:=ho (j + 1) g (by simpa using hg)
   simp only [List.take_succ_cons,List.map_cons,List.sum_cons] at this
   omega) (λg hg=>hr g (jN _ hg))
  refine ⟨aS :: B,?_,h2,h4⟩
  have e:cs.drop o = (cs.drop o).take (size f.type) ++ cs.drop (o + size f.type):=by
   rw [<-List.drop_drop,List.take_append_drop]
  rw [e,List.flatten_cons]
  exact qg.append h1 h3
theorem qdu.cells_el {n:Nat} {t:TypeId} {x:List qa} (h:qdu P n t x):(el P t x).cells = x:=by
 cases n with
 | zero=>exact h.elim
 | succ n=>
  simp only [qdu] at h
  simp only [el,qb8]
  split at h
  ·rename_i hu;obtain ⟨b,rfl⟩:=h;rw [hu];rfl
  ·rename_i hu;obtain ⟨b,rfl,_⟩:=h;rw [hu];rfl
  ·rename_i hu;obtain ⟨b,rfl,_⟩:=h;rw [hu];rfl
  ·rename_i hu;obtain ⟨b,rfl,_⟩:=h;rw [hu];rfl
  ·rename_i hu;rw [hu];rfl
  ·exact h.elim
theorem qoP {α:Type} {Q:Nat->α->Prop}:∀len:Nat,(∀i,i < len->∃a,Q i a)->∃xs:List α,xs.length = len/\∀i x,xs[i]? = some x->Q i x
 | 0,_=>⟨[],rfl,λi x h=>by simp at h⟩
 | len + 1,h=>by
  obtain ⟨xs,h1,h2⟩:=qoP len λi hi=>h i zo
  obtain ⟨y,h3⟩:=h len zo
  refine ⟨xs ++ [y],by simp [h1],λi x hi=>?_⟩
  rcases Nat.lt_or_ge i xs.length with hlt | B
  ·rw [ja hlt] at hi;exact h2 i x hi
  ·rw [jc B] at hi
   have:i - xs.length = 0:=by
    rcases Nat.eq_zero_or_pos (i - xs.length) with h | h
    ·exact h
    ·rw [List.getElem?_eq_none (by simp only [jD,jE];omega)] at hi;cases hi
   rw [this] at hi
   simp only [jC,jl] at hi
   subst hi
   have:i = len:=zo
   subst this
   exact h3
theorem qvL {a:Addr} (h:a.spot = none) (n:Nat):a.add n = ⟨a.block,a.off + n,none⟩:=by
 unfold Addr.add
 split
 ·rename_i h0
  subst h0
  cases a
  simp_all
 ·rfl
theorem qjm {H:Type} {enc:TypeId×Value->H} {W:World} {base:Nat} {sp:Nat->Bool} {held:Bool} {S:List TypeId} (hl:laidOutB P = true) (hS:qxf P S = true):∀(n:Nat) (t:TypeId) (cs:List Value) (x:DataW H×List MemPlace),t ∈ S->
  DataW.trod enc P W base sp held n t cs = some x->∃aS,qg (λ_=>none) (cellsOf W) aS cs/\qdu P n t aS
 | 0,t,cs,x,_,h=>by simp [DataW.trod] at h
 | n + 1,t,cs,x,ht,h=>by
  have hd:=List.all_eq_true.1 hS t ht
  simp only [jm,decide_eq_true_eq] at hd
  obtain ⟨⟨a1,_⟩,hd⟩:=hd
  have ih:=qjm (base:=base) (sp:=sp) (held:=held) (enc:=enc) (W:=W) hl hS n
  split at hd
  ·rename_i hu
   obtain ⟨b,rfl,_⟩:=DataW.trod_bool hu h
   exact ⟨[.bool b],by simp [qg,qC],by simp only [qdu,hu];exact ⟨b,rfl⟩⟩
  ·rename_i k hu
   obtain ⟨z,rfl,_,hw⟩:=DataW.trod_int hu h
   exact ⟨[.int k z],by simp [qg,qC],by simp only [qdu,hu];exact ⟨z,rfl,hw⟩⟩
  ·rename_i hu
   obtain ⟨s,rfl,_,hw⟩:=DataW.trod_string hu h
   exact ⟨[.str s.data.toList],by simp only [qg,qC];exact ⟨_,_,rfl,⟨s,rfl,rfl⟩,rfl⟩,by simp only [qdu,hu];exact ⟨_,rfl,by simpa using hw⟩⟩
  ·rename_i e hu
   simp only [jm,decide_eq_true_eq,List.contains_iff_mem] at hd
   obtain ⟨he,a6⟩:=hd
   rcases DataW.trod_slice hu h with ⟨rfl,_⟩ | ⟨a,len,cap,elems,rest,m,hm,rfl,_,hb,ab,ae,ad,E,_⟩
   ·refine ⟨[.lst [] .no],?_,by simp only [qdu,hu];exact ⟨[],rfl,Nat.zero_le _,λ_ h=>by cases h⟩⟩
    simp only [qg,qC]
    exact ⟨_,_,rfl,⟨none,0,0,rfl,rfl,jo _,by simp,by simp,⟨0,λ_ h=>by cases h⟩,.inl trivial⟩,rfl⟩
   ·cases hm
    have one:∀i,i < len->∃aS:List qa,(∃B,W.cells? base (a.add (i * P.cellsOf e)) (P.cellsOf e) = some B/\qg (λ_=>none) (cellsOf W) aS B)/\qdu P n e aS:=by
     intro i hi
     have hg:=E i hi
     rw [ji zo] at hg
     simp only [Option.bind_eq_some_iff] at hg
     obtain ⟨B,h1,h2⟩:=hg
     obtain ⟨aS,h3,h4⟩:=ih e B _ he h2
     exact ⟨aS,⟨B,h1,h3⟩,h4⟩
    obtain ⟨xs,a8,hx⟩:=qoP len one
    refine ⟨[.lst (xs.map (el P e)) .no],?_,by simp only [qdu,hu];exact ⟨xs,rfl,zo,λx J=>by obtain ⟨i,hi⟩:=List.getElem?_of_mem J;exact (hx i x hi).2⟩⟩
    simp only [qg,qC]
    refine ⟨_,_,rfl,⟨some a,len,cap,rfl,by simp [a8],ab,by simp,by simp,⟨P.cellsOf e,λy hy=>?_⟩,?_⟩,rfl⟩
    ·obtain ⟨x,J,rfl⟩:=jU.1 hy
     obtain ⟨i,hi⟩:=List.getElem?_of_mem J
     obtain ⟨⟨B,h1,h2⟩,h3⟩:=hx i x hi
     rw [h3.cells_el,h2.length,(World.cells?_some h1).2.1]
    ·rcases Nat.eq_zero_or_pos len with h0 | h0
     ·left
      have:xs = []:=List.eq_nil_of_length_eq_zero zo
      simp [this]
     ·right
      have I:a.spot = none:=by
       obtain ⟨⟨B,h1,h2⟩,_⟩:=hx 0 xs[0] (ji zo)
       obtain ⟨_,h3,h4⟩:=World.cells?_some h1
       have h5:=h4 0 a6
       rw [ji zo] at h5
       simp only [Nat.zero_mul,Addr.add,if_pos] at h5
       cases aa:a.spot with
       | none=>rfl
       | some s=>
        simp only [World.cell?] at h5
        split at h5
        ·simp [aa] at h5
        ·cases h5
      refine ⟨a.block,a.off,by rw [<-I],qis (k:=P.cellsOf e) _ _ λi y hy=>?_⟩
      rw [ju,Option.map_eq_some_iff] at hy
      obtain ⟨x,hi,rfl⟩:=hy
      obtain ⟨⟨B,h1,h2⟩,h3⟩:=hx i x hi
      obtain ⟨_,h4,h5⟩:=World.cells?_some h1
      rw [h3.cells_el]
      refine ⟨by rw [h2.length,h4],qir x B _ h2 λj hj=>?_⟩
      have h6:=h5 j zo
      rw [<-h6]
      rw [qvL I,qvL rfl,jx]
  ·rename_i fs hu
   simp only [List.all_eq_true,List.contains_iff_mem] at hd
   obtain ⟨xs,m,hm,_,a7,_,E⟩:=DataW.trod_struct hu h
   cases hm
   obtain ⟨_,h2,h3⟩:=kid_struct hl a1 hu
   obtain ⟨U,h4,h5⟩:=qg8 (γ:=λ_=>none) (imm:=cellsOf W) (R:=qdu P n) (size:=P.cellsOf) fs.toList 0 cs (by rw [a7,h2];simp) (λj f hj=>by rw [h3 j f hj];simp) (λf hf=>by
    obtain ⟨i,hi⟩:=List.getElem?_of_mem hf
    have M:fs[i]? = some f:=by simpa using hi
    have hg:=E i f M
    have ac:i < xs.length:=by
     have:=(Array.getElem?_eq_some_iff.1 M).1
     omega
    rw [ji ac] at hg
    exact ih f.type _ _ (hd f hf) hg)
   exact ⟨U.flatten,by simpa using h4,by simp only [qdu,hu];exact ⟨U,rfl,h5⟩⟩
  ·cases hd
theorem quZ {H:Type} {enc:TypeId×Value->H} {W W0:World} {base b0:Nat} {r:Reach} {sp:Nat->Bool} {held:Bool} {S:List TypeId} (hl:laidOutB P = true) (hS:qxf P S = true) {t:TypeId} (ht:t ∈ S) {v:Value} {d:DataW H} {ps:List MemPlace}
  (B:Value.okWide P W0 r b0 t v) (h:DataW.Trod enc P W base sp held t v d ps):∃n aS,qdu P n t aS/\qC (λ_=>none) (cellsOf W) (el P t aS) v:=by
 obtain ⟨n,hn⟩:=h
 obtain ⟨aS,h1,h2⟩:=qjm hl hS n t _ _ ht hn
 refine ⟨n,aS,h2,?_⟩
 have hd:=List.all_eq_true.1 hS t ht
 simp only [jm,decide_eq_true_eq] at hd
 obtain ⟨_,hd⟩:=hd
 have scalar:qb8 P t = false->v.cells = #[v]->qC (λ_=>none) (cellsOf W) (el P t aS) v:=by
  intro hs hv
  rw [hv] at h1
  simp only [el,hs,cond_false]
  cases aS with
  | nil=>simp [qg] at h1
  | cons a aS=>
   simp only [qg] at h1
   obtain ⟨u,rest,he,h3,h4⟩:=h1
   cases he
   exact h3
 split at hd
 ·rename_i hu
  simp only [Value.okWide,hu,Cell.okWide,Cell.ok] at B
  refine scalar (by simp [qb8,hu]) ?_
  cases v <;> first | rfl | (exact B.elim)
 ·rename_i k hu
  simp only [Value.okWide,hu,Cell.okWide,Cell.ok] at B
  refine scalar (by simp [qb8,hu]) ?_
  cases v <;> first | rfl | (exact B.elim)
 ·rename_i hu
  simp only [Value.okWide,hu,Cell.okWide,Cell.ok] at B
  refine scalar (by simp [qb8,hu]) ?_
  cases v <;> first | rfl | (exact B.elim)
 ·rename_i e hu
  simp only [Value.okWide,hu,Cell.okWide,Cell.ok] at B
  refine scalar (by simp [qb8,hu]) ?_
  cases v <;> first | rfl | (exact B.elim)
 ·rename_i fs hu
  simp only [Value.okWide,hu] at B
  obtain ⟨cs,rfl,_⟩:=B
  simp only [el,qb8,hu,cond_true,qC]
  exact ⟨cs,rfl,h1⟩
 ·cases hd
noncomputable def qc.whole (W:World):qc:={ γ:=λ_=>none,imm:=cellsOf W,ow:=λ_=>none}
theorem qsJ {W:World} (h:qCE gl W):Rel P gl (qc.whole W) [] W/\qej (qc.whole W):=by
 refine ⟨⟨(λ_ _ h=>by cases h),(λ_ _ _ h=>by cases h),(λ_ _ _ h=>by cases h),λb o v hv _=>?_,(λ_ _ _ _ _ _ h=>by cases h),(λb o hv=>absurd rfl (qbo.1 hv).2),(λ_ _ h=>by cases h),λg cs hg=>?_⟩,(λ_ _ h=>by cases h)⟩
 ·have hv:=(qbo.1 hv).1
  refine ⟨hv,?_⟩
  rcases Nat.lt_or_ge b W.heap.size with hb | hb
  ·exact hb
  ·simp [World.cell?,Array.getElem?_eq_none hb] at hv
 ·obtain ⟨h1,vs,h2,h3⟩:=h g cs hg
  refine ⟨qar.of_get λi c hc=>?_,h1⟩
  obtain ⟨v,hv,hr⟩:=h2.get hc
  refine ⟨v,?_,?_⟩
  ·simp only [qc.whole,cellsOf,Nat.zero_add]
   exact qbo.2 ⟨h3 i v hv,qcN hr⟩
  ·exact qC.mono (λ_ _ _ h=>by cases h) 0 (λi _ hi=>absurd hi (Nat.not_lt_zero _)) c v (qd1 h1 hc) hr
theorem qn8 {n:Nat} {W W':World} {G':qc} (he:Ext n (qc.whole W) W G' W'):W.keptBut W' (λ_=>False):=by
 refine ⟨he.os,he.output,λi hi=>?_⟩
 rw [he.heap i hi ⟨λ_ h=>by simp [qc.whole] at h,rfl⟩]
 split
 ·rename_i h1 h2
  rw [h1] at h2
  cases h2
  exact ⟨rfl,rfl,rfl,λ_ _=>rfl⟩
 ·rename_i h1 h2
  rw [h1] at h2
  cases h2
  exact .inr ⟨rfl,rfl⟩
 ·rfl
theorem qqB {W W':World} (h:W.keptBut W' (λ_=>False)) {p:MemPlace} (hp:p.block < W.heap.size):W.sameAt W' p:=by
 have h1:=h.2.2 p.block hp
 cases p with
 | cell b off=>
  simp only [MemPlace.block] at h1 hp
  simp only [World.sameAt,World.cell?]
  split at h1
  ·rename_i e1 e2
   rw [e1,e2]
   simp only [Option.isSome_none,jn,if_false]
   exact h1.2.2.2 off (λh=>h)
  ·rename_i e1 e2
   rw [e1,e2]
  ·rw [h1]
 | map b=>
  simp only [MemPlace.block] at h1 hp
  simp only [World.sameAt]
  split at h1
  ·rename_i c t fr c' t' B e1 e2
   obtain ⟨rfl,rfl,h3,h4⟩:=h1
   rw [e1,e2]
   have:c' = c:=by
    apply Array.ext_getElem?
    intro j
    exact h4 j (λh=>h)
   rw [this]
  ·rename_i e1 e2
   rcases h1 with h1 | ⟨rfl,rfl⟩
   ·exact h1.elim
   ·rw [e1,e2]
  ·exact h1
theorem ql8 {call : AE.Call} (hcall : qcc P gl call) {f : FuncId} {pf : Func} {c : Code} (h1 : P.funcs[f]? = some pf) (h2 : (pf.name == "runtime.NumGoroutine") = false) (h3 : pf.body = some c) {args : List qa} {rv : qa} {h' : List qb} {e' : Bool}
  (hrun:call (.fn f [] []) args [] = some (.ret rv,h',e')) {W:World} (ht:qCE gl W) {vs:Array Value} (hargs:qg (λ_=>none) (cellsOf W) args vs.toList) :
  Calls P f vs W λe W'=>∃v G',e = .returned v/\qc.V G' rv v/\W.keptBut W' (λ_=>False):=by
 obtain ⟨hr,hn⟩:=qsJ (P:=P) ht
 have hfv:(qc.whole W).V (.fn f [] []) (.func (.func f) #[] #[]):=by simp [qc.V,qC,qg]
 have hS:(qeI (.func (.func f) #[] #[]) vs).run P W = .ok (.enter f vs) W:=by
  rw [qfY,qbc h1 h2 h3]
  simp
 rcases hcall _ _ _ _ _ _ hrun _ W _ vs hr hn hfv hargs with ⟨f',aS,k1,k2⟩ | ⟨_,_,_,_,_,_,hy,_⟩ | ⟨v,w',_,k1,_⟩
 ·rw [hS] at k1
  cases k1
  refine (callsIn_wide (n:=0)).1 (CallsIn.mono (k2 none 0) λe W' hb=>?_)
  cases e with
  | returned v=>
   obtain ⟨rv',G',g1,g2,g3,g4,g5⟩:=hb
   cases g1
   exact ⟨v,G',rfl,g5,qn8 g2⟩
  | panicked ch=>obtain ⟨_,_,_,g1,_⟩:=hb;cases g1
  | outgrown=>exact hb.elim
 ·cases hy
 ·rw [hS] at k1
  cases k1
end
section
variable {base:Nat} {call:Call} {dsts:List Nat} {s:St} {pend:List (Nat×Chk)}
theorem qAm {d:Option Nat} {o:AOp} {ix cl j:Nat} {b:Bool} {ds:List qN} (h:lkp s.t j = .bool b):qx base call dsts (⟨⟨d,o,some (j,b)⟩,ix,cl⟩ :: ds) pend s = qx base call dsts (⟨⟨d,o,none⟩,ix,cl⟩ :: ds) pend s:=by
 have e:s.t.getD j .undef = .bool b:=h
 simp only [qx,wanted,e,beq_self_eq_true]
theorem qvO {d:Option Nat} {o:AOp} {ix cl j:Nat} {b c:Bool} {ds:List qN} (h:lkp s.t j = .bool c) (hc:(c == b) = false):qx base call dsts (⟨⟨d,o,some (j,b)⟩,ix,cl⟩ :: ds) pend s = qx base call dsts ds pend { s with t:=put d (.tup []) s.t}:=by
 have e:s.t.getD j .undef = .bool c:=h
 simp only [qx,wanted,e,hc]
theorem qw2 {d:Option Nat} {o:AOp} {ix cl j:Nat} {ds:List qN} (h:lkp s.t j = .bool false):qx base call dsts (⟨⟨d,o,some (j,true)⟩,ix,cl⟩ :: ds) pend s = qx base call dsts ds pend { s with t:=put d (.tup []) s.t}:=qvO h rfl
theorem qw1 {d:Option Nat} {o:AOp} {ix cl j:Nat} {ds:List qN} (h:lkp s.t j = .bool true):qx base call dsts (⟨⟨d,o,some (j,false)⟩,ix,cl⟩ :: ds) pend s = qx base call dsts ds pend { s with t:=put d (.tup []) s.t}:=qvO h rfl
theorem qw3 {d:Option Nat} {o:AOp} {ix cl j:Nat} {b:Bool} {ds:List qN} (h:lkp s.t j = .tup []):qx base call dsts (⟨⟨d,o,some (j,b)⟩,ix,cl⟩ :: ds) pend s = qx base call dsts ds pend { s with t:=put d (.tup []) s.t}:=by
 have e:s.t.getD j .undef = .tup []:=h
 simp only [qx,wanted,e]
end
def sB:=PLift.up (yq sT.1 (yq sC.1 (yq (yq (yq (yq @qL.eq_1 @qL.eq_2) (yq @qE.eq_1 (yq @qE.eq_2 @qE.eq_3))) (yq (yq @qE.eq_4 (yq @qE.eq_5 @qE.eq_6)) (yq @qE.eq_7 (yq @qE.eq_8 @qE.eq_9)))) (yq (yq (yq @qE.eq_10 (yq @qE.eq_11 @qE.eq_12)) (yq @qE.eq_13 (yq @qE.eq_14 @qE.eq_15))) (yq (yq @qE.eq_16 (yq @qE.eq_17 @qE.eq_18)) (yq @qE.eq_19 (yq @qE.eq_20 @Nat.testBit.eq_1)))))))
def sA:=PLift.up (yq sB.1 (yq sTA.1 (yq sCA.1 (yq (yq (yq (yq (yq @qai.eq_1 @qai.eq_2) (yq @qaj.eq_1 @qaj.eq_2)) (yq (yq @Src.isTmp.eq_1 @Src.isTmp.eq_2) (yq @qD.eq_1 @qD.eq_2))) (yq (yq (yq @qD.eq_3 @Src.hangs.eq_1) (yq @Src.hangs.eq_2 @qh.isT.eq_1)) (yq (yq @qh.isT.eq_2 @qak.eq_1) (yq @bne.eq_1.{0} (yq @qbm @qR))))) (yq (yq (yq (yq @qT @qao) (yq @qS @q9)) (yq (yq @qz @qam) (yq @qO @qM))) (yq (yq (yq @qAm @qw2) (yq @qw1 @qw3)) (yq (yq @List.length_map.{0,0} @Bool.true_or) (yq @splice.eq_1 (yq @q8.eq_1 @q8.eq_2)))))))))
theorem xk {p:Prop} (h:p := by kernel_rfl):p:=h
theorem Y0 {p:Prop} (h:p := by simp only [qbf,ht]):p:=h
theorem X1 {p:Prop} (h:p := by simp only [sB.1,seval]):p:=h
theorem X2 {p:Prop} (h:p := by simp only [sB.1,seval,Int.natCast_zero]):p:=h
theorem u3 {p:Prop} (h:p := by simp only [sA.1,seval]):p:=h
theorem u4 {p:Prop} (h:p := by simp only [sA.1,seval,T]):p:=h
theorem w5 {p:Prop} (h:p := by simp only [sA.1,seval,ht,e1]):p:=h
theorem w6 {p:Prop} (h:p := by simp only [sA.1,seval,ht]):p:=h
theorem u7 {p:Prop} (h:p := by simp only [sT.1,sC.1,sTA.1,sCA.1,qL,qai,qaj,Src.isTmp,qD,Src.hangs,qh.isT,qak,qE,Nat.testBit,bne,seval]):p:=h
theorem x8 {p:Prop} (h:p := by simp only [sB.1,seval,ht]):p:=h
theorem y9 {p:Prop} (h:p := by simp only [sB.1,seval,ht,e4]):p:=h
theorem x10 {p:Prop} (h:p := by simp only [sA.1,seval,ht,e5]):p:=h
theorem x11 {p:Prop} (h:p := by simp only [sT.1,sC.1,qL,qE,Nat.testBit,seval]):p:=h
theorem z12 {p:Prop} (h:p := by simp only [sB.1,seval,ht,e2]):p:=h
theorem z13 {p:Prop} (h:p := by simp only [sA.1,seval,Int.natCast_zero]):p:=h
theorem z14 {p:Prop} (h:p := by simp only [sB.1,seval,ht,e0]):p:=h
end Go.AE
