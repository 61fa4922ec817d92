/- A part of the proof. No condition. -/
import Derived.Test.YtkehdpkcdnofaaaGreatDoorMr1
import Derived.OpenShut
import Derived.LaidLaws
import Derived.ChangeArms
import Derived.Lib.AtoiAll
import Derived.Lib.Bytealg
import Derived.Lib.ItoaNum
import Derived.Lib.Join
set_option maxRecDepth 100000
open List renaming getElem?_append_right→jc,getElem?_eq_some_iff→jd,mem_cons_self→jE,getElem?_set_ne→jf,getElem?_eq_getElem→jh,length_map→jQ,map_map→jG,mem_cons_of_mem→jI,getElem?_eq_none→jq,getElem?_map→jr
open Int renaming natCast_zero→jR
open Option.some renaming injEq→jj
open Bool renaming and_eq_true→jk,false_eq_true→jl
open Nat renaming le_refl→jm,le_trans→jn
open Option renaming map_some→jJ
namespace Go.AE
section
variable {P:Program} {gl:Nat->Option (List qd)}
theorem qgC {G' G0:ql} {w0:World} {h:List qk} {t:List qd} {n:Nat} {fn:Func} {ts:Array Value} {R:Ending->World->Prop} {F:Fence} {m:Nat} {u:FrameMode} (hu:u ≠ .run) {fx:List Deferred}:∀(ds:List Deferred) (w':World),
  qiT G' w' w0.heap.size ds->Ext n G0 w0 G' w'->Rel P gl G' h w'->qa8 G' w' t ts->(∀E,Ext n G0 w0 G' E->Rel P gl G' h E->qa8 G' E t ts->LeavesInM F m P fn ts R fx u E)->LeavesInM F m P fn ts R (ds ++ fx) u w'
 | [],w',_,he,hr,ht,hR=>hR w' he hr ht
 | d :: ds,w',hm,he,hr,ht,hR=>by
  obtain ⟨r,rfl,h1,h2,h3⟩:=hm.all d (jE ..)
  refine ⟨hu,.inl ⟨r,w'.putObj r (.deferred none),rfl,run_takeDeferred h2,?_⟩⟩
  have I:=List.nodup_cons.1 hm.nodup
  refine qgC hu ds _ ⟨I.2,λd hd=>?_⟩ (he.putFar h1 _) (hr.putFar h3 λk=>by simp [World.cell?,h2]) (ht.putFar h3) hR
  obtain ⟨r',g1,g2,g3,g4⟩:=hm.all d (jI _ hd)
  refine ⟨r',g1,g2,?_,g4⟩
  rw [World.putObj_heap_other]
  ·exact g3
  ·rintro rfl
   rw [g1] at hd
   exact I.1 hd
theorem qmy (hmx:P.follows .mixedOrders = true) {call:AE.Call} (hcall:qea P gl call) (hk:qap call) {df pf:Func} {d:qdx} (hd:qDj P gl df d) {N base n0 m:Nat} {G0:ql} {w0:World} {R:Ending->World->Prop} {x:Ex} {s':St} :
  ∀ (gb : qeT) (c : Code), qrd P gl c = some gb -> P.funcs[gb.fid]? = some df -> (df.name == "runtime.NumGoroutine") = false -> ∀ (G : ql) (w : World) (s : St) (a : Act), Cfg P gl G s.h s.t a w -> base <= s.h.length -> a.defers = [] -> w0.heap.size <= w.heap.size -> n0 <= s.h.length -> Ext n0 G0 w0 G w ->
   qed N base call d gb s = some (x,s')->
   (∀G' w' a',(x = .nor\/x = .ret)->Ext n0 G0 w0 G' w'->Cfg P gl G' s'.h s'.t a' w'->LeavesIn (FR none) m P pf a'.tmps R [] .returning w')->
   (∀pv v G' w' a',x = .pan pv->Ext n0 G0 w0 G' w'->Cfg P gl G' s'.h s'.t a' w'->G'.V pv v->R (.panicked [{ v,recovered:=false}]) w')->
   c.wpIn (FR none) m P (bodyPostM (FR none) m P pf R) a w:=by
 intro gb
 induction gb with
 | pre ac r ih=>
  intro c hcomp hf hname G w s a hc hb hdf hlo hn he hrun hret hpan
  cases c <;> simp only [qrd,reduceCtorEq] at hcomp
  rename_i a1 b1
  split at hcomp
  ·rename_i f caps t hdc
   obtain ⟨z,_,hz⟩:=qc3 hcomp
   cases hz
  ·split at hcomp
   ·rename_i x1 r1 hx1 hr1
    split at hcomp
    ·rename_i hrf
     cases hcomp
     have hW:=λx2 s2 hx2=>qdw hmx hcall hk (N:=N) (base:=base) (lo:=w0.heap.size) (rf:=true) (fx:=[]) (ro:=none) (m:=m) a1 ac hx1 (λ_=>hrf) G w s a x2 s2 hc hb (λ_ hq=>by cases hq)
      ⟨[],by rw [hdf];rfl,⟨List.nodup_nil,λ_ h=>by cases h⟩,λ_=>rfl⟩ hlo hx2
     simp only [qed] at hrun
     split at hrun
     ·rename_i s1 hs1
      have hkeep:=(qZ (base:=base) hk N ac s s1 _ hb hs1).1
      refine wpIn_seq (wpIn_mono (hW _ s1 hs1) λe a' w' hfin=>?_)
      obtain ⟨G',g1,⟨ms,hms,_,hms0⟩,rfl,g4⟩:=hfin
      have hd0:a'.defers = []:=by rw [hms,hms0 rfl];rfl
      exact ih b1 hr1 hf hname G' w' s1 a' g4 (jn hb hkeep) hd0 (jn hlo g1.size) (jn hn hkeep) (he.trans hn g1) hrun hret hpan
     ·cases hrun
     ·rename_i r2 h1 h2
      refine wpIn_seq (wpIn_mono (hW x s' hrun) λe a' w' hfin=>?_)
      obtain ⟨G',g1,⟨ms,hms,_,hms0⟩,g3⟩:=hfin
      have hd0:a'.defers = []:=by rw [hms,hms0 rfl];rfl
      cases x with
      | nor=>exact absurd hrun (h1 s')
      | exit id=>exact absurd hrun (h2 id s')
      | ret=>
       obtain ⟨rfl,g3⟩:=g3
       show LeavesInM _ _ _ _ _ _ _ _ _
       rw [hd0]
       exact hret G' w' a' (.inr rfl) (he.trans hn g1) g3
      | pan pv=>
       obtain ⟨v,rfl,g3,g4⟩:=g3
       show LeavesInM _ _ _ _ _ _ _ _ _
       rw [hd0]
       exact hpan pv v G' w' a' rfl (he.trans hn g1) g3 g4
    ·cases hcomp
   ·cases hcomp
 | dfr f caps slot rest=>
  intro c hcomp hf hname G w s a hc hb hdf hlo hn he hrun hret hpan
  change P.funcs[f]? = some df at hf
  cases c <;> simp only [qrd,reduceCtorEq] at hcomp
  rename_i a1 b1
  split at hcomp
  ·rename_i f' caps' t hdc
   obtain ⟨z,hz,hze⟩:=qc3 hcomp
   cases hze
   obtain ⟨id,ops,o0,o1,a0,cs,cl,rfl,rfl,k1,rfl,k3,k4,k5,k6,k7,k8,k9,k10⟩:=qyC hdc
   refine wpIn_seq (wpIn_region ?_)
   have hrange:List.range (#[o0,o1]:Array Oper).size = [0,1]:=rfl
   rw [hrange]
   simp only [wpOpsIn,List.getElem?_toArray,List.getElem?_cons_zero,List.getElem?_cons_succ]
   rw [if_pos (by simp [Region.wanted,k4])]
   have hcomp0:qdl P gl o0 = some (.mkF f [] caps):=by
    simp only [qdl,qhs,qf4,k1,k10]
    rfl
   have hrun0:qJ base call [] o0.dst (.mkF f [] caps) s = some (.nor,{ s with t:=put (some slot) (.fn f [] (caps.map (ev s.t))) s.t}):=by
    simp [qJ,pureV,k3]
   refine qgM hcall hk hc qb9.nil hcomp0 hrun0 (λ_ u1 w1 G1 e1 c1 _ _ _=>?_) (λpv h=>by cases h)
   rw [k3] at c1 ⊢
   rw [if_pos (by simp [Region.wanted,k9])]
   simp only [qed] at hrun
   split at hrun
   ·rename_i g cv hev
    split at hrun
    ·rename_i hgf
     subst hgf
     have hv:=qax c1.rel c1.tr (x:=.tmp slot) (ax:=.t slot) rfl
     rw [hev] at hv
     simp only [ql.V,qT,qv] at hv
     obtain ⟨x0,y0,hval,hx0,hy0⟩:=hv
     have hx0':x0 = #[]:=by apply Array.ext';simpa using hx0
     subst hx0'
     let dd:Deferred:={ target:=.fn (.func g) y0,args:=#[]}
     refine ⟨λ_ _=>trivial,?_⟩
     have hsem:(o1.semAt (FR none).round (a.put (some slot) u1).eval).run P w1 = .ok (.defer dd) w1:=by
      show (Oper.semAt none _ _).run P w1 = _
      rw [Oper.semAt_none]
      simp only [execOp,k5,resolve,k6,k7,hval]
      simp [Deferred.ofValue,Sem.run_bind,Result.andThen,dd]
     rw [hsem,Oper.uponIn_defer,k8]
     show (Code.wpIn (FR none) m P b1 (bodyPostM (FR none) m P pf R)) { tmps:=(a.put (some slot) u1).tmps,defers:=dd :: a.defers} w1
     rw [hdf]
     have hlen1:n0 <= ({ s with t:=put (some slot) (.fn g [] (caps.map (ev s.t))) s.t}:St).h.length:=hn
     have he1:Ext n0 G0 w0 G1 w1:=he.trans hn e1
     have c2:Cfg P gl G1 s.h (put (some slot) (.fn g [] (caps.map (ev s.t))) s.t) { tmps:=(a.put (some slot) u1).tmps,defers:=[] ++ [dd]} w1:=⟨c1.rel,c1.tr⟩
     have hW:=λx2 s2 hx2=>qdw hmx hcall hk (N:=N) (base:=base) (lo:=w0.heap.size) (rf:=false) (fx:=[dd]) (ro:=none) (m:=m) b1 rest hz (λh=>by cases h) G1 w1 { s with t:=put (some slot) (.fn g [] (caps.map (ev s.t))) s.t}
      { tmps:=(a.put (some slot) u1).tmps,defers:=[] ++ [dd]} x2 s2 c2 hb (λ_ hq=>by cases hq) ⟨[],rfl,⟨List.nodup_nil,λ_ h=>by cases h⟩,λh=>by cases h⟩ he1.size hx2
     have tail:∀(s2:St) (v:qd) (u:FrameMode) (G2:ql) (w2:World) (a2:Act),s.h.length <= s2.h.length->Ext s.h.length G1 w1 G2 w2->qfQ G2 w2 w0.heap.size false [dd] a2.defers->Cfg P gl G2 s2.h s2.t a2 w2->u ≠ .run->qFv G2 u v->
       qfM N call d v cv s2 = some (x,s')->LeavesInM (FR none) m P pf a2.tmps R a2.defers u w2:=by
      intro s2 v u G2 w2 a2 hkeep he2 hmk c3 hur hmode hdx
      obtain ⟨ms,hms,hmk,_⟩:=hmk
      rw [hms]
      refine qgC (G0:=G0) (w0:=w0) (n:=n0) hur ms w2 hmk (he1.trans hn he2) c3.rel c3.tr λw3 q1 q2 q3=>?_
      have hcv:G2.VL cv y0.toList:=he2.VL hy0
      refine ⟨hur,.inr ⟨qhM,.func g,y0,g,y0,rfl,?_,λ_ _=>trivial,?_⟩⟩
      ·simp only [dd,invoke]
       have:=hd.ex
       obtain ⟨id',ops',o0',os',c',hbody',_⟩:=this
       have:=qbY (vs:=#[] ++ y0) (w:=w3) hf hname hbody'
       simpa using this
      ·have c4:Cfg P gl G2 s2.h s2.t { a2 with defers:=[]} w3:=⟨q2,q3⟩
       refine (qh7 hmx hcall hk hf hd hdx c4 hcv hmode λr u' G3 w4 r1 r2 r3=>?_).2.2
       obtain ⟨hxr,hst,_⟩:=qh7 (m:=m) (R:=λ_ _ _=>True) hmx hcall hk hf hd hdx c4 hcv hmode λ_ _ _ _ _ _ _=>trivial
       show LeavesInM _ _ _ _ _ _ _ _ _
       rw [r1]
       exact hret G3 w4 { a2 with defers:=[]} (.inr hxr) (q1.trans (jn hn hkeep) r2) r3
     split at hrun
     ·rename_i s2 hx2
      have hkeep:=(qZ (base:=base) hk N rest { s with t:=put (some slot) (.fn g [] (caps.map (ev s.t))) s.t} s2 _ hb hx2).1
      refine wpIn_mono (hW _ s2 hx2) λe a2 w2 hfin=>?_
      obtain ⟨G2,g1,g2,rfl,g3⟩:=hfin
      exact tail s2 _ .returning G2 w2 a2 hkeep g1 g2 g3 (by simp) (.inl ⟨rfl,rfl⟩) hrun
     ·rename_i s2 hx2
      have hkeep:=(qZ (base:=base) hk N rest { s with t:=put (some slot) (.fn g [] (caps.map (ev s.t))) s.t} s2 _ hb hx2).1
      refine wpIn_mono (hW _ s2 hx2) λe a2 w2 hfin=>?_
      obtain ⟨G2,g1,g2,rfl,g3⟩:=hfin
      exact tail s2 _ .returning G2 w2 a2 hkeep g1 g2 g3 (by simp) (.inl ⟨rfl,rfl⟩) hrun
     ·rename_i v s2 hx2
      have hkeep:=(qZ (base:=base) hk N rest { s with t:=put (some slot) (.fn g [] (caps.map (ev s.t))) s.t} s2 _ hb hx2).1
      refine wpIn_mono (hW _ s2 hx2) λe a2 w2 hfin=>?_
      obtain ⟨G2,g1,g2,vv,rfl,g3,g4⟩:=hfin
      exact tail s2 v (.panicking [{ v:=vv,recovered:=false}]) G2 w2 a2 hkeep g1 g2 g3 (by simp) (.inr ⟨vv,rfl,g4⟩) hrun
     ·cases hrun
    ·cases hrun
   ·cases hrun
  ·split at hcomp
   ·split at hcomp
    ·cases hcomp
    ·cases hcomp
   ·cases hcomp
theorem qnL (hmx : P.follows .mixedOrders = true) {f : FuncId} {pf df : Func} {g : qjO} (hf : P.funcs[f]? = some pf) (hname : (pf.name == "runtime.NumGoroutine") = false) (hcomp : qgn P gl pf df = some g) (hdf : P.funcs[g.body.fid]? = some df)
  (hdname : (df.name == "runtime.NumGoroutine") = false) (N : Nat) : qqo P gl f (qf8 N g) := by
 intro call hcall hk aS h r h' e' hrun G w vs hr hn hall
 unfold qgn at hcomp
 split at hcomp
 ·rename_i c hbody
  split at hcomp
  ·rename_i b rs d hb hrs hd
   cases hcomp
   simp only at hdf
   refine .inl ⟨qbY hf hname hbody vs w,λro m=>qgh (m:=m) ?_⟩
   have hsize:vs.size = aS.length:=by have:=hall.length;simp at this ⊢;omega
   have hc0:Cfg P gl G h (aS.map qd.dim ++ List.replicate (pf.ntmps - aS.length) (.tup [])) { tmps:=vs ++ Array.replicate (pf.ntmps - vs.size) undef,defers:=[]} w:=by
    refine ⟨hr,qa8.start ?_ λz hz=>?_⟩
    ·simp only [Array.toList_append,Array.toList_replicate]
     refine qv.append hall.dims ?_
     rw [hsize]
     exact qv.replicate _ (by simp [qT,qv,undef])
    ·rcases List.mem_append.1 hz with hz | hz
     ·obtain ⟨q,_,rfl⟩:=List.mem_map.1 hz;exact qb0 q
     ·rw [(List.mem_replicate.1 hz).2];rfl
   refine callsIn_of_wp_marks (F:=FR none) hf hbody trivial ?_ rfl
   simp only [qf8] at hrun
   have main:∀x s,qed N h.length call d b ⟨aS.map qd.dim ++ List.replicate (pf.ntmps - aS.length) (.tup []),h,false⟩ = some (x,s)->
     ((x = .nor\/x = .ret)->∃vs',qaZ s rs = some vs'/\qbD h.length (.ret (qcQ vs')) s.h s.e = (r,h',e'))->(∀pv,x = .pan pv->qbD h.length (.pan pv) s.h s.e = (r,h',e'))->
     c.wpIn (FR none) m P (bodyPostM (FR none) m P pf (qqb P gl h.length G w r h')) { tmps:=vs ++ Array.replicate (pf.ntmps - vs.size) undef,defers:=[]} w:=by
    intro x s hx h1 h2
    have k:=qdE (base:=h.length) hk b ⟨_,h,false⟩ s _ (jm _) hx
    refine qmy hmx hcall hk (qrc hd) (n0:=h.length) (G0:=G) (w0:=w) b c hb hdf hdname G w ⟨_,h,false⟩ _ hc0 (jm _) rfl (jm _) (jm _) (Ext.refl _ G w) hx (λG' w' a' hxx g1 g2=>?_) (λpv v G' w' a' hxx g1 g2 g3=>?_)
    ·obtain ⟨vs',hres,hlv⟩:=h1 hxx
     obtain ⟨u,r1,r2⟩:=qgT g2 hrs hres
     obtain ⟨rfl,G'',y1,y2,y3,y4⟩:=qeh hr g1 g2.rel ⟨k.1,λhe=>(k.2 he).2⟩ hlv
     exact ⟨u,r1,_,G'',rfl,y1,y2,y3,y4 _ u (.inl rfl) r2⟩
    ·obtain ⟨rfl,G'',y1,y2,y3,y4⟩:=qeh hr g1 g2.rel ⟨k.1,λhe=>(k.2 he).2⟩ (h2 pv hxx)
     exact ⟨pv,v,G'',rfl,rfl,y1,y2,y3,y4 _ v (.inr rfl) g3⟩
   split at hrun
   ·rename_i s hx
    split at hrun
    ·rename_i vs' hres
     exact main _ s hx (λ_=>⟨vs',hres,Option.some.inj hrun⟩) (λ_ h=>by cases h)
    ·cases hrun
   ·rename_i s hx
    split at hrun
    ·rename_i vs' hres
     exact main _ s hx (λ_=>⟨vs',hres,Option.some.inj hrun⟩) (λ_ h=>by cases h)
    ·cases hrun
   ·rename_i v s hx
    exact main _ s hx (λh=>by rcases h with h | h <;> cases h) (λpv h=>by cases h;exact Option.some.inj hrun)
   ·cases hrun
  ·cases hcomp
 ·cases hcomp
end
section
variable {P:Program} {gl:Nat->Option (List qd)}
noncomputable def ql.start (gl:Nat->Option (List qd)) (W:World):ql:={ γ:=λ_=>none,imm:=λb o=>match gl b with | some cs=>if 0 < cs.length/\o = cs.length then some mark else qou (W.cell? ⟨b,o,none⟩) | none=>none,ow:=λ_=>none}
def qC2 (gl:Nat->Option (List qd)) (W:World):Prop:=∀g cs,gl g = some cs->qj 0 cs = true/\∃vs:List Value,qv (λ_=>none) (λ_ _=>none) cs vs/\(∀(j:Nat) (v:Value),vs[j]? = some v->W.cell? ⟨g,j,none⟩ = some v)/\(0 < cs.length->∃c e,W.heap[g]? = some (.cells c e (0,0))/\cs.length = c.size)
theorem qlW {W:World} (h:qC2 gl W) {b o:Nat} {v:Value} (hv:(ql.start gl W).imm b o = some v):(v ≠ mark->W.cell? ⟨b,o,none⟩ = some v/\b < W.heap.size)/\(v = mark->0 < o/\∃c e,W.heap[b]? = some (.cells c e (0,0))/\o = c.size):=by
 simp only [ql.start] at hv
 split at hv
 ·rename_i cs hg
  split at hv
  ·rename_i hh
   cases hv
   obtain ⟨c,e,h1,h2⟩:=(h b cs hg).2.choose_spec.2.2 hh.1
   exact ⟨λq=>absurd rfl q,λ_=>⟨zo,c,e,h1,zo⟩⟩
  ·obtain ⟨k1,k2⟩:=qbQ.1 hv
   refine ⟨λ_=>⟨k1,?_⟩,λq=>absurd q k2⟩
   rcases Nat.lt_or_ge b W.heap.size with hb | hb
   ·exact hb
   ·simp [World.cell?,Array.getElem?_eq_none hb] at k1
 ·cases hv
theorem quf {W:World} (h:qC2 gl W):Rel P gl (ql.start gl W) [] W/\qgi (ql.start gl W):=by
 refine ⟨⟨(λ_ _ h=>by cases h),(λ_ _ _ h=>by cases h),(λ_ _ _ h=>by cases h),λb o v hv hm=>(qlW h hv).1 hm,(λ_ _ _ _ _ _ h=>by cases h),(λb o hv=>(qlW h hv).2 rfl),(λ_ _ h=>by cases h),λg cs hg=>?_⟩,(λ_ _ h=>by cases h)⟩
 obtain ⟨h1,vs,h2,h3,h4⟩:=h g cs hg
 refine ⟨⟨qaS.of_get λi c hc=>?_,λh0=>?_⟩,h1⟩
 ·obtain ⟨v,hv,hr⟩:=h2.get hc
  refine ⟨v,?_,?_⟩
  ·have hi:i < cs.length:=(jd.1 hc).1
   simp only [ql.start,hg,Nat.zero_add]
   rw [if_neg zo]
   exact qbQ.2 ⟨h3 i v hv,qeB hr⟩
  ·exact qT.mono (λ_ _ _ h=>by cases h) 0 (λi _ hi=>absurd hi (Nat.not_lt_zero _)) c v (qfA h1 hc) hr
 ·simp only [ql.start,hg]
  simp [h0]
theorem qp3 {n:Nat} {W W':World} {G':ql} (he:Ext n (ql.start gl W) W G' W'):W.keptBut W' (λ_=>False):=by
 refine ⟨he.os,he.output,λi hi=>?_⟩
 rw [he.heap i hi ⟨λ_ h=>by simp [ql.start] at h,rfl⟩]
 split
 ·rename_i h1 h2
  rw [h1] at h2
  cases h2
  exact ⟨rfl,rfl,rfl,λ_ _=>rfl⟩
 ·rename_i h1 h2
  rw [h1] at h2
  cases h2
  exact .inr ⟨rfl,rfl⟩
 ·rfl
theorem qos {call : AE.Call} (hcall : qea P gl call) {f : FuncId} {pf : Func} {c : Code} (h1 : P.funcs[f]? = some pf) (h2 : (pf.name == "runtime.NumGoroutine") = false) (h3 : pf.body = some c) {args : List qd} {rv : qd} {h' : List qk} {e' : Bool}
  (hrun:call (.fn f [] []) args [] = some (.ret rv,h',e')) {W:World} (ht:qC2 gl W) {vs:Array Value} (hargs:qv (λ_=>none) (λ_ _=>none) args vs.toList) :
  Calls P f vs W λe W'=>∃v G',e = .returned v/\ql.V G' rv v/\W.keptBut W' (λ_=>False):=by
 obtain ⟨hr,hn⟩:=quf (P:=P) ht
 have hlow:qj 0 args = true:=qdW (n:=0) (λ_ _ h=>by cases h) args _ hargs
 have hargs':(ql.start gl W).VL args vs.toList:=qv.mono (λ_ _ _ h=>by cases h) 0 (λi _ hi=>absurd hi (Nat.not_lt_zero _)) args _ hlow hargs
 have hfv:(ql.start gl W).V (.fn f [] []) (.func (.func f) #[] #[]):=by simp [ql.V,qT,qv]
 have hS:(qhH (.func (.func f) #[] #[]) vs).run P W = .ok (.enter f vs) W:=by
  rw [qnA,qbY h1 h2 h3]
  simp
 rcases hcall _ _ _ _ _ _ hrun _ W _ vs hr hn hfv hargs' with ⟨f',aS,k1,k2⟩ | ⟨_,_,_,_,_,_,hy,_⟩ | ⟨v,w',_,k1,_⟩
 ·rw [hS] at k1
  cases k1
  refine (callsIn_wide (n:=0)).1 (CallsIn.mono (k2 none 0) λe W' hb=>?_)
  cases e with
  | returned v=>
   obtain ⟨rv',G',g1,g2,g3,g4,g5⟩:=hb
   cases g1
   exact ⟨v,G',rfl,g5,qp3 g2⟩
  | panicked ch=>obtain ⟨_,_,_,g1,_⟩:=hb;cases g1
  | outgrown=>exact hb.elim
 ·cases hy
 ·rw [hS] at k1
  cases k1
def qDe {H:Type}:DataW H->Option qd
 | .lit (.int k z)=>some (.int k z)
 | .lit (.string s)=>some (.str s)
 | .lit (.bool b)=>some (.bool b)
 | _=>none
theorem qv4 {H:Type} {enc:TypeId×Value->H} {w:World} {base:Nat} {sp:Nat->Bool} {held:Bool} {fuel:Nat} {e:TypeId} {cs:List Value} {x:DataW H×List MemPlace} {a:qd}
  (he:(∃k,P.underlying e = some (.int k))\/P.underlying e = some .string) (h:DataW.trod enc P w base sp held fuel e cs = some x) (ha:qDe x.1 = some a):∃v,cs = [v]/\qT (λ_=>none) (λ_ _=>none) a v:=by
 rcases he with ⟨k,he⟩ | he
 ·obtain ⟨n,rfl,rfl,_⟩:=DataW.trod_int he h
  simp only [qDe,jj] at ha
  subst ha
  exact ⟨_,rfl,by simp [qT]⟩
 ·obtain ⟨s,rfl,rfl,_⟩:=DataW.trod_string he h
  simp only [qDe,jj] at ha
  subst ha
  exact ⟨_,rfl,by simp only [qT];exact ⟨s,rfl,rfl⟩⟩
theorem qnT {α β:Type} {f:α->Option β}:∀{l:List α} {r:List β},l.mapM f = some r->r.length = l.length
 | [],r,h=>by simp at h;subst h;rfl
 | x :: l,r,h=>by
  simp only [List.mapM_cons,Option.bind_eq_bind,Option.bind_eq_some_iff,Option.pure_def,jj] at h
  obtain ⟨b,_,r',E,rfl⟩:=h
  simp [qnT E]
theorem qjM {laid:List (String×DataW Unit)} {W:World} (hL:laidMet P laid W) {name:String} {ds:List (DataW Unit)} (hm:(name,DataW.agg ds) ∈ laid) {g:Nat} (hg:P.globalNamed name = some g) {t e:TypeId} {n:Nat} (ht:(P.globals[g]?).map (·.type) = some t)
  (hu:P.underlying t = some (.array n e)) (he:(∃k,P.underlying e = some (.int k))\/P.underlying e = some .string) (hc:P.cellsOf e = 1) (ai:P.cellsOf t = n) {aS:List qd} (has:ds.mapM qDe = some aS) :
  qj 0 aS = true/\∃vs:List Value,qv (λ_=>none) (λ_ _=>none) aS vs/\(∀(j:Nat) (v:Value),vs[j]? = some v->W.cell? ⟨g,j,none⟩ = some v)/\(0 < aS.length->∃c e,W.heap[g]? = some (.cells c e (0,0))/\aS.length = c.size):=by
 obtain ⟨ps,hv,ad,E⟩:=hL
 clear ad
 replace E:=λb off h=>(E b off h).1
 induction laid generalizing ps with
 | nil=>cases hm
 | cons x laid ih=>
  obtain ⟨nx,dx⟩:=x
  obtain ⟨g',t',cs,fuel,p,q,ae,ac,U,hd,hq,a1⟩:=hv
  rcases List.mem_cons.1 hm with hm | hm
  ·cases hm
   obtain rfl:=Option.some.inj (hg.symm.trans ae)
   obtain rfl:=Option.some.inj (ht.symm.trans ac)
   obtain ⟨xs,m,_,hx,aj,Y,af⟩:=DataW.trod_array hu hd
   have a6:xs.map (·.1) = ds:=(DataW.agg.inj (Prod.mk.inj hx).1).symm
   have key:∀(i:Nat) (a:qd),aS[i]? = some a->∃v,cs[i]? = some v/\qT (λ_=>none) (λ_ _=>none) a v:=by
    intro i a ha
    obtain ⟨d,a7,ah⟩:=qke has i a ha
    rw [<-a6,jr,Option.map_eq_some_iff] at a7
    obtain ⟨y,hy,rfl⟩:=a7
    have hi:i < n:=by rw [<-Y];exact (jd.1 hy).1
    have h1:=af i hi
    rw [hy,hc,Nat.mul_one] at h1
    obtain ⟨v,aa,a8⟩:=qv4 he h1 ah
    have h0:((cs.toList.drop i).take 1)[0]? = some v:=by rw [aa];rfl
    exact ⟨v,by simpa using h0,a8⟩
   refine ⟨qgH λa ha=>?_,aS.mapIdx (λi _=>cs.getD i undef),qv.of_get (by simp) λi a v ha hv=>?_,λj v hv=>?_,λh0=>?_⟩
   ·obtain ⟨i,hi⟩:=List.getElem?_of_mem ha
    obtain ⟨v,_,hr⟩:=key i a hi
    exact qeV (n:=0) (λ_ _ h=>by cases h) a v hr
   ·obtain ⟨u,I,ab⟩:=key i a ha
    rw [List.getElem?_mapIdx,ha] at hv
    simp only [jJ,jj] at hv
    rw [Array.getD_eq_getD_getElem?,I] at hv
    simp only [Option.getD_some] at hv
    rw [<-hv]
    exact ab
   ·rw [World.var?_cell hg U j]
    rw [List.getElem?_mapIdx] at hv
    cases ha:aS[j]? with
    | none=>rw [ha] at hv;cases hv
    | some a=>
     obtain ⟨u,I,_⟩:=key j a ha
     rw [ha] at hv
     simp only [jJ,jj] at hv
     rw [Array.getD_eq_getD_getElem?,I] at hv
     simp only [Option.getD_some] at hv
     rw [<-hv]
     exact I
   ·have ak:aS.length = n:=by
     rw [qnT has,<-a6,jQ,Y]
    rw [ai,Array.length_toList] at aj
    obtain ⟨c,e',hh⟩:=E g 0 (by
     rw [a1]
     refine List.mem_append_left _ (List.mem_append_left _ ?_)
     exact MemPlace.mem_row.2 ⟨0,zo,rfl⟩)
    refine ⟨c,e',hh,?_⟩
    have:c = cs:=by
     have q:=U
     simp only [World.var?,hg,Option.bind_some,hh,jj] at q
     exact q
    rw [this]
    omega
  ·exact ih hm q hq λb off h=>E b off (by rw [a1];exact List.mem_append_right _ h)
end
section
variable {P:Program} {gl:Nat->Option (List qd)}
theorem qtD {T : qg9} (hT : T.All λi v => ∃ pf, P.funcs[i]? = some pf /\ qn P gl pf = some v /\ (pf.name == "runtime.NumGoroutine") = false) : qqA P gl T.get := λf fn h => by
 obtain ⟨pf,h1,h2,h3⟩:=qg9.get_all hT h
 unfold qn at h2
 split at h2
 ·cases h2
 ·rename_i c hb
  split at h2
  ·rename_i code rs e1 e2
   cases h2
   exact ⟨pf,c,h1,h3,hb,e1,e2,rfl⟩
  ·cases h2
theorem qxm {W:World} {g:Nat}:qj 0 [] = true/\∃vs:List Value,qv (λ_=>none) (λ_ _=>none) [] vs/\(∀(j:Nat) (v:Value),vs[j]? = some v->W.cell? ⟨g,j,none⟩ = some v)/\(0 < ([]:List qd).length->∃c e,W.heap[g]? = some (.cells c e (0,0))/\([]:List qd).length = c.size):=
 ⟨rfl,[],by simp [qv],λj v h=>by simp at h,λh=>by simp at h⟩
end
def qjk:Call->List qd->List qk->Option (qfJ×List qk×Bool):=λ_ aS h=>
 match aS with
 | [.str s,.int .u8 c]=>some (.ret (.int .i64 (Lib.indexByte s c.toNat.toUInt8)),h,false)
 | _=>none
def qjV (t:TypeId):Call->List qd->List qk->Option (qfJ×List qk×Bool):=λ_ aS h=>
 match aS with
 | [.str s]=>
  bif Nat.ble s.length 100000 then
   match Lib.atoiAll s with
   | .ok v=>some (.ret (.tup [.int .i64 v,.niliface]),h,false)
   | .range=>some (.ret (.tup [.int .i64 (Lib.atoiSat s),.iface t .undef]),h,false)
   | _=>none
  else none
 | _=>none
def Le {α:Type} (a b:Option α):Prop:=∀x,a = some x->b = some x
theorem Le.refl {α:Type} (a:Option α):Le a a:=λ_ h=>h
def CLe (c d:Call):Prop:=∀fv aS h,Le (c fv aS h) (d fv aS h)
theorem CLe.refl (c:Call):CLe c c:=λ_ _ _ _ h=>h
def qDi {α:Type} (g:Nat->Option α):Prop:=∀n m,n <= m->Le (g n) (g m)
def qeS (c:Nat->Call):Prop:=∀n m,n <= m->CLe (c n) (c m)
open Classical in
noncomputable def lim {α:Type} (g:Nat->Option α):Option α:=if h:∃n x,g n = some x then g h.choose else none
theorem qkb {α:Type} {g:Nat->Option α} (hg:qDi g) (x:α):lim g = some x↔∃n,g n = some x:=by
 unfold lim
 constructor
 ·intro h
  split at h
  ·exact ⟨_,h⟩
  ·cases h
 ·rintro ⟨n,hn⟩
  have h:∃n x,g n = some x:=⟨n,x,hn⟩
  rw [dif_pos h]
  obtain ⟨y,hy⟩:=h.choose_spec
  have h1:=hg _ (max n h.choose) (Nat.le_max_right ..) _ hy
  have h2:=hg _ (max n h.choose) (Nat.le_max_left ..) _ hn
  rw [hy,<-h1,h2]
theorem qdI {α:Type} (a:Option α):lim (λ_=>a) = a:=by
 apply Option.ext
 intro x
 rw [qkb (λ_ _ _=>Le.refl _)]
 exact ⟨λ⟨_,h⟩=>h,λh=>⟨0,h⟩⟩
noncomputable def qql (c:Nat->Call):Call:=λfv aS h=>lim λn=>c n fv aS h
theorem qfx {c:Nat->Call} (hc:qeS c) {fv:qd} {aS:List qd} {h:List qk} (x:qfJ×List qk×Bool):qql c fv aS h = some x↔∃n,c n fv aS h = some x:=
 qkb (λn m E=>hc n m E fv aS h) x
theorem qmS {c:Nat->Call} (hc:qeS c) (n:Nat):CLe (c n) (qql c):=λ_ _ _ x hx=>(qfx hc x).2 ⟨n,hx⟩
section
variable {c d:Call} {base:Nat}
theorem qcB (hc:CLe c d) {p:qdU} {dst:Option Nat} {o:AOp} {s:St}:Le (qJ base c p dst o s) (qJ base d p dst o s):=by
 cases o
 case call f args=>
  intro x hx
  simp only [qJ] at hx ⊢
  split at hx
  ·rename_i E;rw [hc _ _ _ _ E];exact hx
  ·rename_i E;rw [hc _ _ _ _ E];exact hx
  ·cases hx
 all_goals exact λx hx=>hx
theorem qcv (hc:CLe c d):∀(ops:List qaw) (p:qdU) (s:St),Le (qbg base c p ops s) (qbg base d p ops s)
 | [],p,s=>λx hx=>hx
 | o :: os,p,s=>λx hx=>by
  simp only [qbg] at hx ⊢
  split at hx
  ·split at hx
   ·rename_i E;rw [qcB hc _ E];exact qcv hc os _ _ _ hx
   ·rename_i I
    have h1:=qcB hc _ hx
    rw [h1]
    split
    ·rename_i E;cases E;exact absurd hx (I _)
    ·rfl
  ·exact qcv hc os _ _ _ hx
  ·cases hx
theorem qaM (hc:CLe c d) (dsts:List Nat):∀(ops:List qX) (pend:List (Nat×Chk)) (s:St),Le (qS base c dsts ops pend s) (qS base d dsts ops pend s)
 | [],p,s=>λx hx=>hx
 | o :: os,p,s=>λx hx=>by
  simp only [qS] at hx ⊢
  split at hx
  ·split at hx
   ·rename_i E
    rw [qcB hc _ E]
    simp only
    split at hx
    ·rename_i he
     rw [if_pos he]
     split at hx
     ·rename_i hp;rw [if_pos hp];exact qaM hc dsts os _ _ _ hx
     ·cases hx
    ·rename_i he
     rw [if_neg he]
     split at hx
     ·exact qaM hc dsts os _ _ _ hx
     ·exact qaM hc dsts os _ _ _ hx
   ·rename_i E;rw [qcB hc _ E];exact hx
   ·cases hx
  ·exact qaM hc dsts os _ _ _ hx
  ·cases hx
theorem qe1 {f g:St->Option (Ex×St)} (hf:∀s,Le (f s) (g s)):∀(n m:Nat),n <= m->∀s,Le (iter f n s) (iter g m s)
 | 0,_,_,s=>λx hx=>by cases hx
 | n + 1,0,h,s=>zo
 | n + 1,m + 1,h,s=>λx hx=>by
  simp only [iter] at hx ⊢
  split at hx
  ·rename_i E;rw [hf _ _ E];exact qe1 hf n m zo _ _ hx
  ·rename_i I
   rw [hf _ _ hx]
   split
   ·rename_i E;cases E;exact absurd hx (I _)
   ·rfl
theorem qqV {p q:qX} {a b e a' b' e':Option (Ex×St)} (h1:Le a a') (h2:Le b b') (h3:Le e e'):Le (qyo p q a b e) (qyo p q a' b' e'):=λx hx=>by
 unfold qyo at hx
 split at hx
 ·rename_i s0 s1 s2
  rw [h1 _ rfl,h2 _ rfl,h3 _ rfl]
  exact hx
 ·cases hx
theorem qR (hc:CLe c d) {n m:Nat} (I:n <= m):∀(a:qK) (s:St),Le (qbL n base c a s) (qbL m base d a s)
 | .skip,s=>λx hx=>hx
 | .reg ops,s=>qcv hc ops _ s
 | .draw ops,s=>qaM hc _ ops _ s
 | .draw2 c a b r,s=>qqV (qaM hc _ _ _ s) (qaM hc _ _ _ s) (qaM hc _ _ _ s)
 | .seq a b,s=>λx hx=>by
  simp only [qbL] at hx ⊢
  split at hx
  ·rename_i E;rw [qR hc I a _ _ E];exact qR hc I b _ _ hx
  ·rename_i U
   rw [qR hc I a _ _ hx]
   split
   ·rename_i E;cases E;exact absurd hx (U _)
   ·rfl
 | .cond q a b,s=>λx hx=>by
  simp only [qbL] at hx ⊢
  split at hx
  ·exact qR hc I a _ _ hx
  ·exact qR hc I b _ _ hx
  ·cases hx
 | .block id b,s=>λx hx=>by
  simp only [qbL] at hx ⊢
  split at hx
  ·rename_i E;rw [qR hc I b _ _ E];exact hx
  ·rename_i U
   rw [qR hc I b _ _ hx]
   split
   ·rename_i E;cases E;exact absurd hx (U _ _)
   ·rfl
 | .loop b,s=>λx hx=>by
  simp only [qbL] at hx ⊢
  exact qe1 (λs=>qR hc I b s) n m I s x hx
 | .exit id,s=>λx hx=>hx
 | .ret,s=>λx hx=>hx
 | .rfun f ps asg body,s=>λx hx=>by
  simp only [qbL] at hx ⊢
  split at hx
  ·split at hx
   ·rename_i E;rw [hc _ _ _ _ E];exact hx
   ·rename_i E;rw [hc _ _ _ _ E];exact hx
   ·cases hx
  ·cases hx
theorem qfD (hc:CLe c d) {n m:Nat} (E:n <= m) {l:Nat} {args:List qd} {h:List qk}:Le (round n c l args h) (round m d l args h):=λx hx=>by
 simp only [round] at hx ⊢
 split at hx
 ·split at hx
  ·cases hx
  ·rename_i hl
   rw [if_neg hl]
   split at hx
   ·rename_i U
    rw [qR hc E _ _ _ U]
    simp only
    split at hx
    ·split at hx
     ·rename_i I
      rw [qR hc E _ _ _ I]
      exact hx
     ·cases hx
    ·cases hx
   ·cases hx
 ·cases hx
theorem qdv (hc:CLe c d) {n m:Nat} (I:n <= m) {df:qdx} {v:qd} {cv:List qd} {s:St}:Le (qfM n c df v cv s) (qfM m d df v cv s):=λx hx=>by
 simp only [qfM] at hx ⊢
 split at hx
 ·rename_i U
  rw [qcv hc _ _ _ _ U]
  dsimp only
  split at hx
  ·rename_i E;rw [qR hc I _ _ _ E];exact hx
  ·rename_i E;rw [qR hc I _ _ _ E];exact hx
  ·cases hx
 ·cases hx
theorem qee (hc:CLe c d) {n m:Nat} (I:n <= m) {df:qdx}:∀(b:qeT) (s:St),Le (qed n base c df b s) (qed m base d df b s)
 | .pre a r,s=>λx hx=>by
  simp only [qed] at hx ⊢
  split at hx
  ·rename_i E;rw [qR hc I _ _ _ E];exact qee hc I r _ _ hx
  ·cases hx
  ·rename_i h1 h2
   rw [qR hc I _ _ _ hx]
   split
   ·rename_i E;cases E;exact absurd hx (h1 _)
   ·rename_i E;cases E;exact absurd hx (h2 _ _)
   ·rfl
 | .dfr f U slot rest,s=>λx hx=>by
  simp only [qed] at hx ⊢
  split at hx
  ·split at hx
   ·rename_i hg
    rw [if_pos hg]
    split at hx
    ·rename_i E;rw [qR hc I _ _ _ E];exact qdv hc I _ hx
    ·rename_i E;rw [qR hc I _ _ _ E];exact qdv hc I _ hx
    ·rename_i E;rw [qR hc I _ _ _ E];exact qdv hc I _ hx
    ·cases hx
   ·cases hx
  ·cases hx
theorem qoQ (hc:CLe c d) {n m:Nat} (I:n <= m) {g:qjO} {aS:List qd} {h:List qk}:Le (qf8 n g c aS h) (qf8 m g d aS h):=λx hx=>by
 simp only [qf8] at hx ⊢
 split at hx
 ·rename_i E;rw [qee hc I _ _ _ E];exact hx
 ·rename_i E;rw [qee hc I _ _ _ E];exact hx
 ·rename_i E;rw [qee hc I _ _ _ E];exact hx
 ·cases hx
end
def qx5 (X:qn9):Prop:=∀f g,X f = some g->∀c d,CLe c d->∀aS h,Le (g c aS h) (g d aS h)
theorem qwU {F:FuncId->Option qA} {X:qn9} (hX:qx5 X) {n m:Nat} (I:n <= m) (hc:CLe (run F X n) (run F X m)):CLe (run F X (n + 1)) (run F X (m + 1)):=λfv aS h x hx=>by
 simp only [run] at hx ⊢
 split at hx
 ·split at hx
  ·rename_i hg
   exact hX _ _ hg _ _ hc _ _ _ hx
  ·split at hx
   ·cases hx
   ·split at hx
    ·rename_i E;rw [qR hc I _ _ _ E];exact hx
    ·rename_i E;rw [qR hc I _ _ _ E];exact hx
    ·rename_i E;rw [qR hc I _ _ _ E];exact hx
    ·cases hx
 ·exact qfD hc I _ hx
 ·cases hx
theorem qgX {F:FuncId->Option qA} {X:qn9} (hX:qx5 X):∀n m:Nat,n <= m->CLe (run F X n) (run F X m)
 | 0,_,_=>λ_ _ _ x hx=>by cases hx
 | n + 1,0,h=>zo
 | n + 1,m + 1,h=>qwU hX zo (qgX hX n m zo)
section
variable {c:Nat->Call} {base:Nat}
theorem qfE (hc:qeS c) {p:qdU} {dst:Option Nat} {o:AOp} {s:St} {x:Ex×St} (hx:qJ base (qql c) p dst o s = some x):∃k,qJ base (c k) p dst o s = some x:=by
 cases o
 case call f args=>
  simp only [qJ] at hx ⊢
  split at hx
  ·rename_i E;obtain ⟨k,hk⟩:=(qfx hc _).1 E;exact ⟨k,by rw [hk];exact hx⟩
  ·rename_i E;obtain ⟨k,hk⟩:=(qfx hc _).1 E;exact ⟨k,by rw [hk];exact hx⟩
  ·cases hx
 all_goals exact ⟨0,hx⟩
theorem qeF (hc:qeS c):∀(ops:List qaw) (p:qdU) (s:St) (x:Ex×St),qbg base (qql c) p ops s = some x->∃k,qbg base (c k) p ops s = some x
 | [],p,s,x,hx=>⟨0,hx⟩
 | o :: os,p,s,x,hx=>by
  simp only [qbg] at hx ⊢
  split at hx
  ·split at hx
   ·rename_i E
    obtain ⟨k1,h1⟩:=qfE hc E
    obtain ⟨k2,h2⟩:=qeF hc os _ _ _ hx
    refine ⟨max k1 k2,?_⟩
    rw [qcB (hc k1 _ (Nat.le_max_left ..)) _ h1]
    exact qcv (hc k2 _ (Nat.le_max_right ..)) _ _ _ _ h2
   ·rename_i I
    obtain ⟨k1,h1⟩:=qfE hc hx
    refine ⟨k1,?_⟩
    rw [h1]
    split
    ·rename_i E;cases E;exact absurd hx (I _)
    ·rfl
  ·exact qeF hc os _ _ _ hx
  ·cases hx
theorem qbM (hc:qeS c) (dsts:List Nat):∀(ops:List qX) (pend:List (Nat×Chk)) (s:St) (x:Ex×St),qS base (qql c) dsts ops pend s = some x->∃k,qS base (c k) dsts ops pend s = some x
 | [],p,s,x,hx=>⟨0,hx⟩
 | o :: os,p,s,x,hx=>by
  simp only [qS] at hx ⊢
  split at hx
  ·split at hx
   ·rename_i E
    obtain ⟨k1,h1⟩:=qfE hc E
    split at hx
    ·rename_i he
     split at hx
     ·rename_i hp
      obtain ⟨k2,h2⟩:=qbM hc dsts os _ _ _ hx
      refine ⟨max k1 k2,?_⟩
      rw [qcB (hc k1 _ (Nat.le_max_left ..)) _ h1]
      simp only
      rw [if_pos he,if_pos hp]
      exact qaM (hc k2 _ (Nat.le_max_right ..)) dsts _ _ _ _ h2
     ·cases hx
    ·rename_i he
     split at hx
     ·obtain ⟨k2,h2⟩:=qbM hc dsts os _ _ _ hx
      rename_i hk
      refine ⟨max k1 k2,?_⟩
      rw [qcB (hc k1 _ (Nat.le_max_left ..)) _ h1]
      simp only
      rw [if_neg he]
      exact qaM (hc k2 _ (Nat.le_max_right ..)) dsts _ _ _ _ h2
     ·obtain ⟨k2,h2⟩:=qbM hc dsts os _ _ _ hx
      refine ⟨max k1 k2,?_⟩
      rw [qcB (hc k1 _ (Nat.le_max_left ..)) _ h1]
      simp only
      rw [if_neg he]
      exact qaM (hc k2 _ (Nat.le_max_right ..)) dsts _ _ _ _ h2
   ·rename_i E;obtain ⟨k1,h1⟩:=qfE hc E;exact ⟨k1,by rw [h1];exact hx⟩
   ·cases hx
  ·exact qbM hc dsts os _ _ _ hx
  ·cases hx
theorem qlm {f:St->Option (Ex×St)} {g:Nat->St->Option (Ex×St)} (hg:∀n m,n <= m->∀s,Le (g n s) (g m s)) (hf:∀s x,f s = some x->∃k,g k s = some x):∀(n:Nat) (s:St) (x:Ex×St),iter f n s = some x->∃k,iter (g k) n s = some x
 | 0,s,x,hx=>by cases hx
 | n + 1,s,x,hx=>by
  simp only [iter] at hx ⊢
  split at hx
  ·rename_i E
   obtain ⟨k1,h1⟩:=hf _ _ E
   obtain ⟨k2,h2⟩:=qlm hg hf n _ _ hx
   refine ⟨max k1 k2,?_⟩
   rw [hg k1 _ (Nat.le_max_left ..) _ _ h1]
   exact qe1 (hg k2 _ (Nat.le_max_right ..)) n n (jm _) _ _ h2
  ·rename_i I
   obtain ⟨k1,h1⟩:=hf _ _ hx
   refine ⟨k1,?_⟩
   rw [h1]
   split
   ·rename_i E;cases E;exact absurd hx (I _)
   ·rfl
theorem qa3 (hc:qeS c) {n:Nat}:∀(a:qK) (s:St) (x:Ex×St),qbL n base (qql c) a s = some x->∃k,qbL n base (c k) a s = some x
 | .skip,s,x,hx=>⟨0,hx⟩
 | .reg ops,s,x,hx=>qeF hc ops _ s x hx
 | .draw ops,s,x,hx=>qbM hc _ ops _ s x hx
 | .draw2 c0 a0 b0 r0,s,x,hx=>by
  simp only [qbL] at hx ⊢
  unfold qyo at hx
  split at hx
  ·rename_i s0 s1 s2 e0 e1 e2
   obtain ⟨k0,h0⟩:=qbM hc _ _ _ s _ e0
   obtain ⟨k1,h1⟩:=qbM hc _ _ _ s _ e1
   obtain ⟨k2,h2⟩:=qbM hc _ _ _ s _ e2
   refine ⟨max k0 (max k1 k2),?_⟩
   rw [qaM (hc k0 _ (Nat.le_max_left ..)) _ _ _ s _ h0,qaM (hc k1 _ (jn (Nat.le_max_left ..) (Nat.le_max_right ..))) _ _ _ s _ h1,qaM (hc k2 _ (jn (Nat.le_max_right ..) (Nat.le_max_right ..))) _ _ _ s _ h2]
   exact hx
  ·cases hx
 | .seq a b,s,x,hx=>by
  simp only [qbL] at hx ⊢
  split at hx
  ·rename_i E
   obtain ⟨k1,h1⟩:=qa3 hc a _ _ E
   obtain ⟨k2,h2⟩:=qa3 hc b _ _ hx
   refine ⟨max k1 k2,?_⟩
   rw [qR (hc k1 _ (Nat.le_max_left ..)) (jm _) _ _ _ h1]
   exact qR (hc k2 _ (Nat.le_max_right ..)) (jm _) _ _ _ h2
  ·rename_i I
   obtain ⟨k1,h1⟩:=qa3 hc a _ _ hx
   refine ⟨k1,?_⟩
   rw [h1]
   split
   ·rename_i E;cases E;exact absurd hx (I _)
   ·rfl
 | .cond q a b,s,x,hx=>by
  simp only [qbL] at hx ⊢
  split at hx
  ·exact qa3 hc a _ _ hx
  ·exact qa3 hc b _ _ hx
  ·cases hx
 | .block id b,s,x,hx=>by
  simp only [qbL] at hx ⊢
  split at hx
  ·rename_i E
   obtain ⟨k1,h1⟩:=qa3 hc b _ _ E
   exact ⟨k1,by rw [h1];exact hx⟩
  ·rename_i I
   obtain ⟨k1,h1⟩:=qa3 hc b _ _ hx
   refine ⟨k1,?_⟩
   rw [h1]
   split
   ·rename_i E;cases E;exact absurd hx (I _ _)
   ·rfl
 | .loop b,s,x,hx=>by
  simp only [qbL] at hx ⊢
  exact qlm (g:=λk=>qbL n base (c k) b) (λi j U s=>qR (hc i j U) (jm _) b s) (λs x h=>qa3 hc b s x h) n s x hx
 | .exit id,s,x,hx=>⟨0,hx⟩
 | .ret,s,x,hx=>⟨0,hx⟩
 | .rfun f ps asg body,s,x,hx=>by
  simp only [qbL] at hx ⊢
  split at hx
  ·split at hx
   ·rename_i E;obtain ⟨k,hk⟩:=(qfx hc _).1 E;exact ⟨k,by rw [hk];exact hx⟩
   ·rename_i E;obtain ⟨k,hk⟩:=(qfx hc _).1 E;exact ⟨k,by rw [hk];exact hx⟩
   ·cases hx
  ·cases hx
theorem qpX (hc:qeS c) {n:Nat} {l:Nat} {args:List qd} {h:List qk} {x:qfJ×List qk×Bool} (hx:round n (qql c) l args h = some x):∃k,round n (c k) l args h = some x:=by
 simp only [round] at hx ⊢
 split at hx
 ·split at hx
  ·cases hx
  ·rename_i hl
   split at hx
   ·rename_i I
    obtain ⟨k1,h1⟩:=qa3 hc _ _ _ I
    split at hx
    ·rename_i hb
     split at hx
     ·rename_i E
      obtain ⟨k2,h2⟩:=qa3 hc _ _ _ E
      refine ⟨max k1 k2,?_⟩
      rw [if_neg hl,qR (hc k1 _ (Nat.le_max_left ..)) (jm _) _ _ _ h1]
      simp only [hb]
      rw [qR (hc k2 _ (Nat.le_max_right ..)) (jm _) _ _ _ h2]
      exact hx
     ·cases hx
    ·cases hx
   ·cases hx
 ·cases hx
theorem qhc (hc:qeS c) {n:Nat} {df:qdx} {v:qd} {cv:List qd} {s:St} {x:Ex×St} (hx:qfM n (qql c) df v cv s = some x):∃k,qfM n (c k) df v cv s = some x:=by
 simp only [qfM] at hx ⊢
 split at hx
 ·rename_i I
  obtain ⟨k1,h1⟩:=qeF hc _ _ _ _ I
  split at hx
  ·rename_i E
   obtain ⟨k2,h2⟩:=qa3 hc _ _ _ E
   refine ⟨max k1 k2,?_⟩
   rw [qcv (hc k1 _ (Nat.le_max_left ..)) _ _ _ _ h1]
   simp only
   rw [qR (hc k2 _ (Nat.le_max_right ..)) (jm _) _ _ _ h2]
   exact hx
  ·rename_i E
   obtain ⟨k2,h2⟩:=qa3 hc _ _ _ E
   refine ⟨max k1 k2,?_⟩
   rw [qcv (hc k1 _ (Nat.le_max_left ..)) _ _ _ _ h1]
   simp only
   rw [qR (hc k2 _ (Nat.le_max_right ..)) (jm _) _ _ _ h2]
   exact hx
  ·cases hx
 ·cases hx
theorem qfu (hc:qeS c) {n:Nat} {df:qdx}:∀(b:qeT) (s:St) (x:Ex×St),qed n base (qql c) df b s = some x->∃k,qed n base (c k) df b s = some x
 | .pre a r,s,x,hx=>by
  simp only [qed] at hx ⊢
  split at hx
  ·rename_i E
   obtain ⟨k1,h1⟩:=qa3 hc _ _ _ E
   obtain ⟨k2,h2⟩:=qfu hc r _ _ hx
   refine ⟨max k1 k2,?_⟩
   rw [qR (hc k1 _ (Nat.le_max_left ..)) (jm _) _ _ _ h1]
   exact qee (hc k2 _ (Nat.le_max_right ..)) (jm _) _ _ _ h2
  ·cases hx
  ·rename_i h1 h2
   obtain ⟨k1,h3⟩:=qa3 hc _ _ _ hx
   refine ⟨k1,?_⟩
   rw [h3]
   split
   ·rename_i E;cases E;exact absurd hx (h1 _)
   ·rename_i E;cases E;exact absurd hx (h2 _ _)
   ·rfl
 | .dfr f I slot rest,s,x,hx=>by
  simp only [qed] at hx ⊢
  split at hx
  ·split at hx
   ·rename_i hg
    simp only [if_pos hg]
    split at hx
    ·rename_i E
     obtain ⟨k1,h1⟩:=qa3 hc _ _ _ E
     obtain ⟨k2,h2⟩:=qhc hc hx
     refine ⟨max k1 k2,?_⟩
     rw [qR (hc k1 _ (Nat.le_max_left ..)) (jm _) _ _ _ h1]
     exact qdv (hc k2 _ (Nat.le_max_right ..)) (jm _) _ h2
    ·rename_i E
     obtain ⟨k1,h1⟩:=qa3 hc _ _ _ E
     obtain ⟨k2,h2⟩:=qhc hc hx
     refine ⟨max k1 k2,?_⟩
     rw [qR (hc k1 _ (Nat.le_max_left ..)) (jm _) _ _ _ h1]
     exact qdv (hc k2 _ (Nat.le_max_right ..)) (jm _) _ h2
    ·rename_i E
     obtain ⟨k1,h1⟩:=qa3 hc _ _ _ E
     obtain ⟨k2,h2⟩:=qhc hc hx
     refine ⟨max k1 k2,?_⟩
     rw [qR (hc k1 _ (Nat.le_max_left ..)) (jm _) _ _ _ h1]
     exact qdv (hc k2 _ (Nat.le_max_right ..)) (jm _) _ h2
    ·cases hx
   ·cases hx
  ·cases hx
theorem qoP (hc:qeS c) {n:Nat} {g:qjO} {aS:List qd} {h:List qk} {x:qfJ×List qk×Bool} (hx:qf8 n g (qql c) aS h = some x):∃k,qf8 n g (c k) aS h = some x:=by
 simp only [qf8] at hx ⊢
 split at hx
 ·rename_i E;obtain ⟨k1,h1⟩:=qfu hc _ _ _ E;exact ⟨k1,by rw [h1];exact hx⟩
 ·rename_i E;obtain ⟨k1,h1⟩:=qfu hc _ _ _ E;exact ⟨k1,by rw [h1];exact hx⟩
 ·rename_i E;obtain ⟨k1,h1⟩:=qfu hc _ _ _ E;exact ⟨k1,by rw [h1];exact hx⟩
 ·cases hx
end
noncomputable def qg (base:Nat) (call:Call) (a:qK) (s:St):Option (Ex×St):=lim λn=>qbL n base call a s
noncomputable def qlM (call:Call) (l:Nat) (args:List qd) (h:List qk):Option (qfJ×List qk×Bool):=lim λn=>round n call l args h
section
variable {base:Nat} {call:Call}
theorem qay {a:qK} {s:St} (x:Ex×St):qg base call a s = some x↔∃n,qbL n base call a s = some x:=
 qkb (λn m E=>qR (CLe.refl _) E a s) x
theorem qfq (s:St):qg base call .skip s = some (.nor,s):=qdI _
theorem qib (ops:List qaw) (s:St):qg base call (.reg ops) s = qbg base call [] ops s:=qdI _
theorem qoK (ops:List qX) (s:St):qg base call (.draw ops) s = qS base call (ops.filterMap (·.o.dst)) ops [] s:=qdI _
theorem qoL (id:Nat) (s:St):qg base call (.exit id) s = some (.exit id,s):=qdI _
theorem qrM (s:St):qg base call .ret s = some (.ret,s):=qdI _
def qbr (f:St->Option (Ex×St)):Option (Ex×St)->Option (Ex×St)
 | some (.nor,s)=>f s
 | r=>r
theorem qbx (a b:qK) (s:St):qg base call (.seq a b) s = qbr (qg base call b) (qg base call a s):=by
 apply Option.ext
 intro x
 rw [qay]
 constructor
 ·rintro ⟨n,h⟩
  simp only [qbL] at h
  split at h
  ·rename_i E
   rw [(qay _).2 ⟨n,E⟩]
   exact (qay _).2 ⟨n,h⟩
  ·rename_i I
   rw [(qay _).2 ⟨n,h⟩]
   unfold qbr
   split
   ·rename_i E;cases E;exact absurd h (I _)
   ·rfl
 ·intro h
  unfold qbr at h
  split at h
  ·rename_i E
   obtain ⟨n1,h1⟩:=(qay _).1 E
   obtain ⟨n2,h2⟩:=(qay _).1 h
   refine ⟨max n1 n2,?_⟩
   simp only [qbL]
   rw [qR (CLe.refl _) (Nat.le_max_left n1 n2) _ _ _ h1]
   exact qR (CLe.refl _) (Nat.le_max_right n1 n2) _ _ _ h2
  ·rename_i I
   obtain ⟨n1,h1⟩:=(qay _).1 h
   refine ⟨n1,?_⟩
   simp only [qbL]
   rw [h1]
   split
   ·rename_i E;cases E;exact absurd h (I _)
   ·rfl
theorem qoJ (q:qP) (a b:qK) (s:St):qg base call (.cond q a b) s = match ev s.t q with
  | .bool true=>qg base call a s
  | .bool false=>qg base call b s
  | _=>none:=by
 simp only [qg,qbL]
 generalize ev s.t q = v
 cases v with
 | bool b=>cases b <;> rfl
 | _=>exact qdI _
def qbj (id:Nat):Option (Ex×St)->Option (Ex×St)
 | some (.exit j,s)=>if j = id then some (.nor,s) else some (.exit j,s)
 | r=>r
theorem qcU (id:Nat) (b:qK) (s:St):qg base call (.block id b) s = qbj id (qg base call b s):=by
 apply Option.ext
 intro x
 rw [qay]
 constructor
 ·rintro ⟨n,h⟩
  simp only [qbL] at h
  split at h
  ·rename_i E
   rw [(qay _).2 ⟨n,E⟩]
   exact h
  ·rename_i I
   rw [(qay _).2 ⟨n,h⟩]
   unfold qbj
   split
   ·rename_i E;cases E;exact absurd h (I _ _)
   ·rfl
 ·intro h
  unfold qbj at h
  split at h
  ·rename_i E
   obtain ⟨n1,h1⟩:=(qay _).1 E
   refine ⟨n1,?_⟩
   simp only [qbL]
   rw [h1]
   exact h
  ·rename_i I
   obtain ⟨n1,h1⟩:=(qay _).1 h
   refine ⟨n1,?_⟩
   simp only [qbL]
   rw [h1]
   split
   ·rename_i E;cases E;exact absurd h (I _ _)
   ·rfl
theorem qh (b:qK) (s:St):qg base call (.loop b) s = qbr (qg base call (.loop b)) (qg base call b s):=by
 apply Option.ext
 intro x
 rw [qay]
 constructor
 ·rintro ⟨n,h⟩
  simp only [qbL] at h
  cases n with
  | zero=>cases h
  | succ n=>
   simp only [iter] at h
   split at h
   ·rename_i E
    rw [(qay _).2 ⟨n + 1,E⟩]
    exact (qay _).2 ⟨n + 1,qe1 (λs=>Le.refl _) n (n + 1) zo _ _ h⟩
   ·rename_i I
    rw [(qay _).2 ⟨n + 1,h⟩]
    unfold qbr
    split
    ·rename_i E;cases E;exact absurd h (I _)
    ·rfl
 ·intro h
  unfold qbr at h
  split at h
  ·rename_i E
   obtain ⟨n1,h1⟩:=(qay _).1 E
   obtain ⟨n2,h2⟩:=(qay _).1 h
   refine ⟨max n1 n2 + 1,?_⟩
   simp only [qbL,iter] at h2 ⊢
   rw [qR (CLe.refl _) (show n1 <= max n1 n2 + 1 by omega) _ _ _ h1]
   exact qe1 (λs=>qR (CLe.refl _) (show n2 <= max n1 n2 + 1 by omega) b s) n2 (max n1 n2) zo _ _ h2
  ·rename_i I
   obtain ⟨n1,h1⟩:=(qay _).1 h
   refine ⟨n1 + 1,?_⟩
   simp only [qbL,iter]
   rw [qR (CLe.refl _) (Nat.le_succ n1) _ _ _ h1]
   split
   ·rename_i E;cases E;exact absurd h (I _)
   ·rfl
theorem qjf (f:qP) (ps:List Nat) (asg body:qK) (s:St):qg base call (.rfun f ps asg body) s = qbL 0 base call (.rfun f ps asg body) s:=by
 rw [qg]
 exact qdI _
theorem qjC {l:Nat} {args:List qd} {h:List qk} (x:qfJ×List qk×Bool):qlM call l args h = some x↔∃n,round n call l args h = some x:=
 qkb (λn m E=>qfD (CLe.refl _) E) x
def qkz (base l:Nat) (t:List qd) (ps:List Nat) (asg body:qK) (s:St):Ex->Option (qfJ×List qk×Bool)
 | .nor=>some (qbD base (.ret (.bool true)) (s.h.set l (.loop t ps asg body .ready none)) s.e)
 | .ret=>some (qbD base (.ret (.bool false)) (s.h.set l (.loop t ps asg body .done (some .ret))) s.e)
 | .exit id=>some (qbD base (.ret (.bool false)) (s.h.set l (.loop t ps asg body .done (some (.exit id)))) s.e)
 | .pan _=>none
theorem qlN {l:Nat} {args:List qd} {h:List qk} {t:List qd} {ps:List Nat} {asg body:qK} {st:LSt} {pend:Option quI} {s:St} {t1:List qd} {ps1:List Nat} {asg1 body1:qK} {pend1:Option quI} {x:Ex} {s2:St} {t2:List qd} {ps2:List Nat} {asg2 body2:qK} {st2:LSt} {pend2:Option quI} {r:qfJ×List qk×Bool}
  (h0:h[l]? = some (.loop t ps asg body st pend)) (hl:args.length = ps.length) (h1:qg h.length call asg ⟨ql0 t ps (args.map qd.dim),h,false⟩ = some (.nor,s))
  (h2:s.h[l]? = some (.loop t1 ps1 asg1 body1 .ready pend1)) (h3:qg h.length call body { s with h:=s.h.set l (.loop t1 ps1 asg1 body1 .busy pend1)} = some (x,s2))
  (h4:s2.h[l]? = some (.loop t2 ps2 asg2 body2 st2 pend2))
  (h5:qkz h.length l t2 ps2 asg2 body2 s2 x = some r):qlM call l args h = some r:=by
 obtain ⟨n1,e1⟩:=(qay _).1 h1
 obtain ⟨n2,e2⟩:=(qay _).1 h3
 refine (qjC _).2 ⟨max n1 n2,?_⟩
 simp only [round,h0]
 rw [if_neg (by simp [hl]),qR (CLe.refl _) (Nat.le_max_left n1 n2) _ _ _ e1]
 simp only [h2]
 rw [qR (CLe.refl _) (Nat.le_max_right n1 n2) _ _ _ e2]
 simp only [h4]
 cases x <;> exact h5
end
section
variable {F:FuncId->Option qA} {X:qn9}
noncomputable def W (F:FuncId->Option qA) (X:qn9):Call:=qql (run F X)
structure qoc (X:qn9):Prop where
 mono:qx5 X
 cont:∀f g,X f = some g->∀c,qeS c->∀aS h x,g (qql c) aS h = some x->∃k,g (c k) aS h = some x
theorem ql6 (hX:qoc X) {fv:qd} {aS:List qd} {h:List qk} (x:qfJ×List qk×Bool):W F X fv aS h = some x↔∃n,run F X n fv aS h = some x:=
 qfx (qgX hX.mono) x
theorem qFU (hX:qoc X) {f:FuncId} {first args cap:List qd} {h:List qk} {fn:qA} (h1:X f = none) (h2:F f = some fn) :
  W F X (.fn f first cap) args h = qmu fn h (qg h.length (W F X) fn.code ⟨(first ++ args ++ cap).map qd.dim ++ List.replicate (fn.ntmps - ((first ++ args ++ cap).map qd.dim).length) (.tup []),h,false⟩):=by
 have E:=qgX (F:=F) hX.mono
 apply Option.ext
 intro x
 rw [ql6 hX]
 constructor
 ·rintro ⟨n,hn⟩
  cases n with
  | zero=>cases hn
  | succ n=>
   rw [qxY h1 h2] at hn
   cases hq:qbL n h.length (run F X n) fn.code ⟨(first ++ args ++ cap).map qd.dim ++ List.replicate (fn.ntmps - ((first ++ args ++ cap).map qd.dim).length) (.tup []),h,false⟩ with
   | none=>rw [hq] at hn;cases hn
   | some y=>
    rw [hq] at hn
    have e:=(qay y).2 ⟨n,qR (qmS E n) (jm _) _ _ _ hq⟩
    rw [W,e]
    exact hn
 ·intro hn
  cases hq:qg h.length (W F X) fn.code ⟨(first ++ args ++ cap).map qd.dim ++ List.replicate (fn.ntmps - ((first ++ args ++ cap).map qd.dim).length) (.tup []),h,false⟩ with
  | none=>rw [hq] at hn;cases hn
  | some y=>
   rw [hq] at hn
   obtain ⟨k,hk⟩:=(qay y).1 hq
   obtain ⟨m,hm⟩:=qa3 E _ _ _ hk
   refine ⟨max k m + 1,?_⟩
   rw [qxY h1 h2,qR (E m _ (Nat.le_max_right k m)) (Nat.le_max_left k m) _ _ _ hm]
   exact hn
theorem quN (hX:qoc X) {f:FuncId} {first args cap:List qd} {h:List qk} {g:Call->List qd->List qk->Option (qfJ×List qk×Bool)} (h1:X f = some g) :
  W F X (.fn f first cap) args h = g (W F X) (first ++ args ++ cap) h:=by
 have E:=qgX (F:=F) hX.mono
 apply Option.ext
 intro x
 rw [ql6 hX]
 constructor
 ·rintro ⟨n,hn⟩
  cases n with
  | zero=>cases hn
  | succ n=>
   rw [qt0 h1] at hn
   exact hX.mono f g h1 _ _ (qmS E n) _ _ _ hn
 ·intro hn
  obtain ⟨k,hk⟩:=hX.cont f g h1 _ E _ _ _ hn
  exact ⟨k + 1,by rw [qt0 h1];exact hk⟩
theorem qAE (hX:qoc X) {l:Nat} {args:List qd} {h:List qk}:W F X (.yld l) args h = qlM (W F X) l args h:=by
 have E:=qgX (F:=F) hX.mono
 apply Option.ext
 intro x
 rw [ql6 hX,qjC]
 constructor
 ·rintro ⟨n,hn⟩
  cases n with
  | zero=>cases hn
  | succ n=>exact ⟨n,qfD (qmS E n) (jm _) _ hn⟩
 ·rintro ⟨k,hk⟩
  obtain ⟨m,hm⟩:=qpX E hk
  exact ⟨max k m + 1,qfD (E m _ (Nat.le_max_right k m)) (Nat.le_max_left k m) _ hm⟩
end
def lkp (t:List qd) (i:Nat):qd:=t.getD i .undef
section
variable {base:Nat} {call:Call} {p:qdU} {s:St} {t:List qd} {h:List qk}
theorem qFZ (t:List qd) (i:Nat):ev t (.t i) = (lkp t i).dim:=rfl
theorem qFY (t:List qd) (v:qd):ev t (.c v) = v.dim:=rfl
theorem qFg (t:List qd) (i:Nat):raw t (.t i) = lkp t i:=rfl
theorem qFf (t:List qd) (v:qd):raw t (.c v) = v:=rfl
def up (t:List qd) (i:Nat) (v:qd):List qd:=t.set i v
theorem qe4 (t:List qd) (i:Nat) (v:qd):(up t i v).length = t.length:=by simp [up]
theorem qze {i:Nat} {v:qd} (h:i < t.length):lkp (up t i v) i = v:=by simp [lkp,up,List.getD,h]
theorem qzf {i j:Nat} {v:qd} (h:i ≠ j):lkp (up t i v) j = lkp t j:=by simp [lkp,up,List.getD,jf h]
theorem qsW (a:qd) (t:List qd):lkp (a :: t) 0 = a:=rfl
theorem qsV (a:qd) (t:List qd) (i:Nat):lkp (a :: t) (i + 1) = lkp t i:=rfl
theorem qkt (d:Nat) (v:qd) (t:List qd):put (some d) v t = up t d v:=rfl
theorem qwy (v:qd) (t:List qd):put none v t = t:=rfl
theorem qrr:qd.undef.dim = .undef:=rfl
theorem qvf (b:Bool):(qd.bool b).dim = .bool b:=rfl
theorem qyJ (k:IntKind) (n:Int):(qd.int k n).dim = .int k n:=rfl
theorem qmr (s:List UInt8):(qd.str s).dim = .str s:=rfl
theorem qoy:qd.nilptr.dim = .nilptr:=rfl
theorem qmq (i o:Nat):(qd.ptr i o).dim = .ptr i o:=rfl
theorem qvh (cs:List qd) (o:Nat):(qd.iptr cs o).dim = .iptr cs o:=rfl
theorem qBy (xs:List qd):(qd.lst xs .no).dim = .lst xs .no:=rfl
theorem qvg (xs:List qd):(qd.lst xs .full).dim = .lst xs .full:=rfl
theorem qyK (xs:List qd) (k:Nat):(qd.lst xs (.own k)).dim = .lst xs .no:=rfl
theorem qmp:qd.nilfunc.dim = .nilfunc:=rfl
theorem qrp (f:FuncId) (a b:List qd):(qd.fn f a b).dim = .fn f a b:=rfl
theorem qyL (i:Nat):(qd.yld i).dim = .yld i:=rfl
theorem qk6:qd.niliface.dim = .niliface:=rfl
theorem qrq (t:TypeId) (v:qd):(qd.iface t v).dim = .iface t v:=rfl
theorem qyI (cs:List qd):(qd.agg cs).dim = .agg cs:=rfl
theorem qms (cs:List qd):(qd.tup cs).dim = .tup cs:=rfl
theorem qk7 (v:qd):v.dim.dim = v.dim:=by
 cases v with
 | lst xs f=>cases f <;> rfl
 | _=>rfl
def qhL (dst:Option Nat) (s:St):Option qd->Option (Ex×St)
 | some v=>some (.nor,{ s with t:=put dst v s.t})
 | none=>none
theorem qtJ (dst:Option Nat) (t:List qd) (h:List qk) (e:Bool) (v:qd):qhL dst ⟨t,h,e⟩ (some v) = some (.nor,⟨put dst v t,h,e⟩):=rfl
theorem qaT (f:St->Option (Ex×St)) (s:St):qbr f (some (.nor,s)) = f s:=rfl
theorem qat (f:St->Option (Ex×St)) (s:St):qbr f (some (.ret,s)) = some (.ret,s):=rfl
theorem qbi (f:St->Option (Ex×St)) (id:Nat) (s:St):qbr f (some (.exit id,s)) = some (.exit id,s):=rfl
theorem qup (f:St->Option (Ex×St)) (v:qd) (s:St):qbr f (some (.pan v,s)) = some (.pan v,s):=rfl
theorem qon (id:Nat) (s:St):qbj id (some (.nor,s)) = some (.nor,s):=rfl
theorem qop (id:Nat) (s:St):qbj id (some (.ret,s)) = some (.ret,s):=rfl
theorem qoo (id:Nat) (v:qd) (s:St):qbj id (some (.pan v,s)) = some (.pan v,s):=rfl
theorem qmd (id j:Nat) (s:St):qbj id (some (.exit j,s)) = if j = id then some (.nor,s) else some (.exit j,s):=rfl
def qyA (v:qd) (a b:Option (Ex×St)):Option (Ex×St):=
 match v with
 | .bool true=>a
 | .bool false=>b
 | _=>none
theorem qvy (q:qP) (a b:qK) (s:St):qg base call (.cond q a b) s = qyA (ev s.t q) (qg base call a s) (qg base call b s):=qoJ q a b s
def qnN (v:qd) (b:Bool) (yes no:Option (Ex×St)):Option (Ex×St):=
 match v with
 | .bool c=>if c == b then yes else no
 | .tup []=>no
 | _=>none
theorem qzx:qbg base call p [] s = some (.nor,s):=rfl
theorem qnW (d:Option Nat) (o:AOp) (os:List qaw):qbg base call p (⟨d,o,none⟩ :: os) s = qbr (qbg base call (qbo p ⟨d,o,none⟩) os) (qJ base call p d o s):=by
 simp only [qbg,wanted]
 unfold qbr
 split <;> split <;> simp_all
theorem qto (d:Option Nat) (o:AOp) (j:Nat) (b:Bool) (os:List qaw) :
  qbg base call p (⟨d,o,some (j,b)⟩ :: os) s = qnN (lkp s.t j) b (qbr (qbg base call (qbo p ⟨d,o,some (j,b)⟩) os) (qJ base call p d o s))
   (qbg base call (qbo p { dst:=d,op:=.pick (.c .undef) (.c .undef) (.c .undef),guard:=some (j,b)}) os { s with t:=put d (.tup []) s.t}):=by
 simp only [qbg,wanted,lkp]
 generalize s.t.getD j .undef = v
 cases v with
 | bool c=>
  simp only [qnN]
  cases hc:c == b with
  | false=>simp
  | true=>
   simp only [if_true]
   unfold qbr
   split <;> split <;> simp_all
 | tup vs=>cases vs <;> rfl
 | _=>rfl
theorem qCr (d:Option Nat) (x:qP):qJ base call p d (.mov x) s = some (.nor,{ s with t:=put d (ev s.t x) s.t}):=rfl
theorem qCk (d:Option Nat) (x:qP):qJ base call p d (.asg x) s = some (.nor,{ s with t:=put d (raw s.t x) (qbc s.t x)}):=rfl
def qi3 (v a b:qd):Option qd:=
 match v with
 | .bool true=>some a
 | .bool false=>some b
 | _=>none
theorem qpH (a b:qd):qi3 (.bool true) a b = some a:=rfl
theorem qm3 (a b:qd):qi3 (.bool false) a b = some b:=rfl
theorem qtn (d:Option Nat) (c a b:qP):qJ base call p d (.pick c a b) s = qhL d s (qi3 (ev s.t c) (ev s.t a) (ev s.t b)):=by
 simp only [qJ,pureV]
 generalize ev s.t c = v
 cases v with
 | bool b=>cases b <;> rfl
 | _=>rfl
theorem qbI (d:Option Nat) (o:AOp) (ho:o.effs = false) (h1:∀cs,o ≠ .new cs) (h2:∀k x,o ≠ .box k x) (h3:∀k x,o ≠ .ld k x) (h4:∀sh z ok m key,o ≠ .lk sh z ok m key:=by simp):qJ base call p d o s = qhL d s (pureV s.t o):=by
 cases o <;> first | exact absurd rfl (h4 _ _ _ _ _) | (simp [AOp.effs] at ho h1 h2 h3 <;> (simp only [qJ];cases pureV s.t _ <;> rfl))
def faV (off:Nat):qd->Option qd
 | .ptr i o=>some (.ptr i (o + off))
 | .iptr cs o=>some (.iptr cs (o + off))
 | _=>none
theorem qyY (off i o:Nat):faV off (.ptr i o) = some (.ptr i (o + off)):=rfl
theorem qvB (off o:Nat) (cs:List qd):faV off (.iptr cs o) = some (.iptr cs (o + off)):=rfl
theorem qCn (d:Option Nat) (off:Nat) (a:qP):qJ base call p d (.fa off a) s = qhL d s (faV off (ev s.t a)):=by
 rw [qbI _ _ rfl (by simp) (by simp) (by simp)]
 simp only [pureV]
 cases ev s.t a <;> rfl
theorem qxJ (d:Option Nat) (op:BinOp) (x y:qP):qJ base call p d (.bin op x y) s = qhL d s (qeX op (ev s.t x) (ev s.t y)):=qbI _ _ rfl (by simp) (by simp) (by simp)
theorem qCu (d:Option Nat) (op:UnOp) (x:qP):qJ base call p d (.un op x) s = qhL d s (unV op (ev s.t x)):=qbI _ _ rfl (by simp) (by simp) (by simp)
def qwe:qd->Option qd
 | .ptr i o=>some (.ptr i o)
 | .iptr cs o=>some (.iptr cs o)
 | .fn f a b=>some (.fn f a b)
 | .yld l=>some (.yld l)
 | .iface u v=>some (.iface u v)
 | _=>none
theorem qtm (d:Option Nat) (x:qP):qJ base call p d (.nilc x) s = qhL d s (qwe (ev s.t x)):=by
 rw [qbI _ _ rfl (by simp) (by simp) (by simp)]
 simp only [pureV]
 cases ev s.t x <;> rfl
theorem qth (i o:Nat):qwe (.ptr i o) = some (.ptr i o):=rfl
theorem qpx (cs:List qd) (o:Nat):qwe (.iptr cs o) = some (.iptr cs o):=rfl
def qxH (b:Bool) (v:qd):Option qd:=
 match b,v with
 | true,.str s=>some (.int .i64 s.length)
 | false,.lst xs _=>some (.int .i64 xs.length)
 | false,.sl _ _ len _ _=>some (.int .i64 len)
 | false,.nils=>some (.int .i64 0)
 | false,.empt=>some (.int .i64 0)
 | _,_=>none
theorem qxQ (d:Option Nat) (b:Bool) (x:qP):qJ base call p d (.len b x) s = qhL d s (qxH b (ev s.t x)):=by
 rw [qbI _ _ rfl (by simp) (by simp) (by simp)]
 cases b <;> simp only [pureV] <;> cases ev s.t x <;> rfl
theorem qvW (s:List UInt8):qxH true (.str s) = some (.int .i64 s.length):=rfl
theorem qvV (xs:List qd) (f:qha):qxH false (.lst xs f) = some (.int .i64 xs.length):=rfl
def qeQ (k:Nat) (s i:qd):Option qd:=
 match s,i with
 | .lst xs _,.int _ n=>
  if 0 <= n/\n < xs.length then
   match xs[n.toNat]? with
   | some x=>if x.cells.length = k then some (.iptr x.cells 0) else none
   | none=>none
  else none
 | .sl id o len _ _,.int _ n=>if 0 <= n/\n < len then some (.ptr id (o + n.toNat * k)) else none
 | _,_=>none
theorem qtl (d:Option Nat) (k:Nat) (x i:qP):qJ base call p d (.ixaL k x i) s = qhL d s (qeQ k (ev s.t x) (ev s.t i)):=by
 rw [qbI _ _ rfl (by simp) (by simp) (by simp)]
 simp only [pureV]
 cases ev s.t x <;> cases ev s.t i <;> rfl
theorem qbG {k:Nat} {xs:List qd} {f:qha} {j:IntKind} {n:Nat} {x:qd} (hx:xs[n]? = some x) (hk:x.cells.length = k):qeQ k (.lst xs f) (.int j n) = some (.iptr x.cells 0):=by
 have hn:n < xs.length:=(jd.1 hx).1
 simp only [qeQ,Int.toNat_natCast,hx]
 rw [if_pos ⟨zo,zo⟩,if_pos hk]
def qDQ (off:Nat) (k:Option Nat):qd->Option qd
 | .agg cs=>cut cs off k
 | _=>none
theorem qvC (off:Nat) (k:Option Nat) (cs:List qd):qDQ off k (.agg cs) = cut cs off k:=rfl
theorem qxN (d:Option Nat) (off:Nat) (k:Option Nat) (x:qP):qJ base call p d (.fld off k x) s = qhL d s (qDQ off k (ev s.t x)):=by
 rw [qbI _ _ rfl (by simp) (by simp) (by simp)]
 simp only [pureV]
 cases ev s.t x <;> rfl
theorem qwk (d:Option Nat) (z:List qd) (ps:List (Nat×Nat×qP)):qJ base call p d (.build z ps) s = qhL d s ((qr z (ps.map λ(o,n,x)=>(o,n,ev s.t x))).map .agg):=qbI _ _ rfl (by simp) (by simp) (by simp)
theorem qCs (d:Option Nat) (cs:List qd):qJ base call p d (.new cs) s = some (.nor,{ s with t:=put d (.ptr s.h.length 0) s.t,h:=s.h ++ [.cells (cs.map qd.dim)]}):=rfl
theorem qCo (d:Option Nat) (k:Option Nat) (a:qP):qJ base call p d (.ld k a) s = qhL d s (qfw s.h (ev s.t a) k):=by
 simp only [qJ]
 cases qfw s.h (ev s.t a) k <;> rfl
theorem qsE (cs:List qd) (o:Nat) (k:Option Nat):qfw h (.iptr cs o) k = cut cs o k:=rfl
theorem qnC (cs:List qd) (o:Nat):cut cs o none = (cs[o]?).map qd.dim:=rfl
theorem qcI {cs:List qd} {o k:Nat} (h:o + k <= cs.length):cut cs o (some k) = some (.agg (((cs.drop o).take k).map qd.dim)):=if_pos h
def stV (base:Nat) (k:Option Nat) (a v:qd) (h:List qk):Option (List qk×Bool):=
 match a with
 | .ptr id o=>
  match h[id]? with
  | some (.cells cs)=>
   let vs:=match k with | none=>[v] | some _=>v.dim.cells.map qd.dim
   if vs.length = k.getD 1/\o + vs.length <= cs.length/\vs.all qd.storable then
    some (h.set id (.cells (splice cs o vs)),!(Nat.ble base id || qj (id + 1) vs))
   else none
  | _=>none
 | _=>none
def stW (d:Option Nat) (t:List qd) (e:Bool):Option (List qk×Bool)->Option (Ex×St)
 | some (h,e')=>some (.nor,{ t:=put d .undef t,h,e:=e || e'})
 | none=>none
theorem qw6 (d:Option Nat) (t:List qd) (e e':Bool) (h:List qk):stW d t e (some (h,e')) = some (.nor,⟨put d .undef t,h,e || e'⟩):=rfl
theorem qER (d:Option Nat) (k:Option Nat) (a x:qP):qJ base call p d (.st k a x) s = stW d (qbc s.t x) s.e (stV base k (ev s.t a) (raw s.t x) s.h):=by
 simp only [qJ,stV]
 cases ev s.t a with
 | ptr id o=>
  simp only
  cases s.h[id]? with
  | none=>rfl
  | some b=>
   cases b with
   | cells cs=>cases k <;> (simp only;split <;> rfl)
   | _=>rfl
 | _=>rfl
end
section
variable {base:Nat} {call:Call} {p:qdU} {s:St} {t:List qd} {h:List qk}
def qyx (d:Option Nat) (s:St):Option (qfJ×List qk×Bool)->Option (Ex×St)
 | some (.ret v,h,e)=>some (.nor,{ t:=put d v.dim s.t,h,e:=s.e || e})
 | some (.pan v,h,e)=>some (.pan v,{ s with h,e:=s.e || e})
 | none=>none
theorem qzv (d:Option Nat) (f:qP) (args:List qP):qJ base call p d (.call f args) s = qyx d s (call (ev s.t f) (args.map (ev s.t)) s.h):=by
 simp only [qJ]
 cases call (ev s.t f) (args.map (ev s.t)) s.h with
 | none=>rfl
 | some r=>obtain ⟨r,h,e⟩:=r;cases r <;> rfl
theorem qq2 (d:Option Nat) (t:List qd) (h h':List qk) (e e':Bool) (v:qd):qyx d ⟨t,h,e⟩ (some (.ret v,h',e')) = some (.nor,⟨put d v.dim t,h',e || e'⟩):=rfl
theorem qq1 (d:Option Nat) (t:List qd) (h h':List qk) (e e':Bool) (v:qd):qyx d ⟨t,h,e⟩ (some (.pan v,h',e')) = some (.pan v,⟨t,h',e || e'⟩):=rfl
theorem qjh (h l:List qk):(h ++ l)[h.length]? = l[0]?:=by rw [jc (jm _),Nat.sub_self]
theorem qaP (h l:List qk) (k:Nat):(h ++ l)[h.length + k]? = l[k]?:=by rw [jc zo,Nat.add_sub_cancel_left]
theorem qCM (h l:List qk) (b:qk):(h ++ l).set h.length b = h ++ l.set 0 b:=by rw [List.set_append_right _ _ (jm _),Nat.sub_self]
theorem qwZ (h l:List qk) (k:Nat) (b:qk):(h ++ l).set (h.length + k) b = h ++ l.set k b:=by rw [List.set_append_right _ _ zo,Nat.add_sub_cancel_left]
theorem qah {h l:List qk} {i:Nat} (hi:i < h.length):(h ++ l)[i]? = h[i]?:=List.getElem?_append_left hi
theorem qzX {h l:List qk} {i:Nat} {b:qk} (hi:i < h.length):(h ++ l).set i b = h.set i b ++ l:=List.set_append_left _ _ hi
theorem qsJ {n:Nat} {h l:List qk} {v:qd} (hl:h.length = n) (hv:v.lower n = true):qbD n (.ret v) (h ++ l) false = (.ret v,h,false):=by subst hl;simp [qbD,hv]
theorem qph {n:Nat} {h:List qk} {v:qd} (hl:h.length = n) (hv:v.lower n = true):qbD n (.ret v) h false = (.ret v,h,false):=by subst hl;simp [qbD,hv]
theorem qsI {n:Nat} {h l:List qk} {v:qd} (hl:h.length = n) (hv:v.lower n = true):qbD n (.pan v) (h ++ l) false = (.pan v,h,false):=by subst hl;simp [qbD,hv]
theorem qpg {n:Nat} {h:List qk} {v:qd} (hl:h.length = n) (hv:v.lower n = true):qbD n (.pan v) h false = (.pan v,h,false):=by subst hl;simp [qbD,hv]
theorem qw {n:Nat} {H h:List qk} {v:qd} (hc:H.take n = h) (hv:v.lower n = true):qbD n (.ret v) H false = (.ret v,h,false):=by simp [qbD,hv,hc]
theorem qbe {n:Nat} {H h:List qk} {v:qd} (hc:H.take n = h) (hv:v.lower n = true):qbD n (.pan v) H false = (.pan v,h,false):=by simp [qbD,hv,hc]
theorem qg1 (h:List qk) (i:Nat) (a b:qk):(h.set i a).set i b = h.set i b:=List.set_set ..
theorem qd6 {h l:List qk} {n:Nat} (hl:h.length = n):(h ++ l)[n]? = l[0]?:=by subst hl;exact qjh h l
theorem qzW {h l:List qk} {n:Nat} {b:qk} (hl:h.length = n):(h ++ l).set n b = h ++ l.set 0 b:=by subst hl;exact qCM h l b
theorem qrZ {h l:List qk} {n k:Nat} (hl:h.length = n):(h ++ l)[n + k]? = l[k]?:=by subst hl;exact qaP h l k
theorem qt8 {h l:List qk} {n k:Nat} {b:qk} (hl:h.length = n):(h ++ l).set (n + k) b = h ++ l.set k b:=by subst hl;exact qwZ h l k b
theorem qN {h:List qk} {i j:Nat} {b:qk} (E:i ≠ j):(h.set i b)[j]? = h[j]?:=jf E
theorem qY {h:List qk} {i:Nat} {b:qk} (hi:i < h.length):(h.set i b)[i]? = some b:=List.getElem?_set_self hi
end
section
variable {base:Nat} {call:Call} {p:qdU} {s:St}
def qFz (d:Option Nat) (s:St) (k:Nat) (vs:List qd):Option (Ex×St):=
 if vs.length = k/\vs.all qd.storable then some (.nor,{ s with t:=put d (.ptr s.h.length 0) s.t,h:=s.h ++ [.cells vs]}) else none
theorem qCl (d:Option Nat) (k:Nat) (x:qP):qJ base call p d (.box k x) s = qFz d s k ((ev s.t x).cells.map qd.dim):=rfl
theorem qyp (d:Option Nat) (t:List qd) (h:List qk) (e:Bool) (k:Nat) (vs:List qd):qFz d ⟨t,h,e⟩ k vs = if vs.length = k/\vs.all qd.storable then some (.nor,⟨put d (.ptr h.length 0) t,h ++ [.cells vs],e⟩) else none:=rfl
def qDf (ty:TypeId) (v:qd):Option qd:=
 match v with
 | .undef=>none
 | v=>some (.iface ty v)
theorem qxR (d:Option Nat) (ty:TypeId) (x:qP):qJ base call p d (.mkI ty x) s = qhL d s (qDf ty (ev s.t x)):=by
 rw [qbI _ _ rfl (by simp) (by simp) (by simp)]
 simp only [pureV]
 cases ev s.t x <;> rfl
theorem qv9 (ty:TypeId) (cs:List qd):qDf ty (.agg cs) = some (.iface ty (.agg cs)):=rfl
theorem qwa (ty:TypeId) (k:IntKind) (n:Int):qDf ty (.int k n) = some (.iface ty (.int k n)):=rfl
theorem qCp (d:Option Nat) (f:FuncId) (a b:List qP):qJ base call p d (.mkF f a b) s = some (.nor,{ s with t:=put d (.fn f (a.map (ev s.t)) (b.map (ev s.t))) s.t}):=rfl
def qln (s i:qd):Option qd:=
 match s,i with
 | .str l,.int _ n=>if 0 <= n then (l[n.toNat]?).map λb=>.int .u8 b.toNat else none
 | _,_=>none
theorem qxP (d:Option Nat) (x i:qP):qJ base call p d (.ixS x i) s = qhL d s (qln (ev s.t x) (ev s.t i)):=by
 rw [qbI _ _ rfl (by simp) (by simp) (by simp)]
 simp only [pureV]
 cases ev s.t x <;> cases ev s.t i <;> rfl
theorem qdp {l:List UInt8} {k:IntKind} {n:Nat} {b:UInt8} (h:l[n]? = some b):qln (.str l) (.int k n) = some (.int .u8 b.toNat):=by
 simp only [qln,Int.toNat_natCast,h,jJ]
 rw [if_pos (Int.natCast_nonneg n)]
def qDP (i:Nat) (v:qd):Option qd:=
 match v with
 | .tup vs=>(vs[i]?).map qd.dim
 | _=>none
theorem qxM (d:Option Nat) (x:qP) (i:Nat):qJ base call p d (.ext x i) s = qhL d s (qDP i (ev s.t x)):=by
 rw [qbI _ _ rfl (by simp) (by simp) (by simp)]
 simp only [pureV]
 cases ev s.t x <;> rfl
theorem qvA (i:Nat) (vs:List qd):qDP i (.tup vs) = (vs[i]?).map qd.dim:=rfl
def qDM (neg:Bool) (x y:qd):Option qd:=
 match x,y with
 | .bool a,.bool b=>some (.bool ((a == b) != neg))
 | _,_=>none
theorem qCm (d:Option Nat) (neg:Bool) (x y:qP):qJ base call p d (.eqb neg x y) s = qhL d s (qDM neg (ev s.t x) (ev s.t y)):=by
 rw [qbI _ _ rfl (by simp) (by simp) (by simp)]
 simp only [pureV]
 cases ev s.t x <;> cases ev s.t y <;> rfl
theorem qrK (neg a b:Bool):qDM neg (.bool a) (.bool b) = some (.bool ((a == b) != neg)):=rfl
def qDc (k:Nat) (neg:Bool) (x y:qd):Option qd:=(qCc k x y).map λb=>.bool (b != neg)
theorem qxL (d:Option Nat) (k:Nat) (neg:Bool) (x y:qP):qJ base call p d (.eqi k neg x y) s = qhL d s (qDc k neg (ev s.t x) (ev s.t y)):=qbI _ _ rfl (by simp) (by simp) (by simp)
def qDL (k:IntKind) (v:qd):Option qd:=
 match v with
 | .int _ n=>some (.int k (k.wrap n))
 | _=>none
theorem qxK (d:Option Nat) (k:IntKind) (x:qP):qJ base call p d (.cvi k x) s = qhL d s (qDL k (ev s.t x)):=by
 rw [qbI _ _ rfl (by simp) (by simp) (by simp)]
 simp only [pureV]
 cases ev s.t x <;> rfl
theorem qu7 (k j:IntKind) (n:Int):qDL k (.int j n) = some (.int k (k.wrap n)):=rfl
def qFX:qd->Option qd
 | .lst xs _=>(qmf xs).map .str
 | _=>none
theorem qu8 (n:Int) (f:qha):qFX (.lst [.int .u8 n] f) = some (.str [UInt8.ofNat n.toNat]):=rfl
def mmV (isMax:Bool) (x y:qd):Option qd:=
 match x,y with
 | .int k a,.int _ b=>some (.int k (if isMax then (if b > a then b else a) else (if b < a then b else a)))
 | _,_=>none
theorem qCq (d:Option Nat) (m:Bool) (x y:qP):qJ base call p d (.mm m x y) s = qhL d s (mmV m (ev s.t x) (ev s.t y)):=by
 rw [qbI _ _ rfl (by simp) (by simp) (by simp)]
 simp only [pureV]
 cases ev s.t x <;> cases ev s.t y <;> rfl
theorem qCa (k j:IntKind) (a b:Nat):mmV true (.int k (a:Int)) (.int j (b:Int)) = some (.int k ((max a b:Nat):Int)):=by
 simp only [mmV,if_true]
 congr 2
 split <;> omega
theorem qzk (k j:IntKind) (a b:Int):mmV false (.int k a) (.int j b) = some (.int k (if b < a then b else a)):=rfl
def qFQ (s:St) (v:qd):Option (Ex×St):=
 match v with
 | .iface u v=>some (.pan (.iface u v),s)
 | _=>none
theorem qCt (d:Option Nat) (x:qP):qJ base call p d (.pan x) s = qFQ s (ev s.t x):=by
 simp only [qJ]
 cases ev s.t x <;> rfl
theorem qpE (s:St) (u:TypeId) (v:qd):qFQ s (.iface u v) = some (.pan (.iface u v),s):=rfl
end
section
variable {base:Nat} {call:Call} {p:qdU} {s:St}
def qAu (len:Nat) (k:Option Nat) (a i:qd):Option qd:=
 match a,i with
 | .agg cs,.int _ n=>if 0 <= n/\n < (len:Int) then cut cs (n.toNat * k.getD 1) k else none
 | _,_=>none
theorem qxO (d:Option Nat) (len:Nat) (k:Option Nat) (a i:qP):qJ base call p d (.ixA len k a i) s = qhL d s (qAu len k (ev s.t a) (ev s.t i)):=by
 rw [qbI _ _ rfl (by simp) (by simp) (by simp)]
 simp only [pureV]
 cases ev s.t a <;> cases ev s.t i <;> rfl
theorem qnP {len n:Nat} {j:IntKind} {cs:List qd} {v:qd} (hn:n < len) (hv:cs[n]? = some v):qAu len none (.agg cs) (.int j n) = some v.dim:=by
 simp only [qAu]
 rw [if_pos ⟨zo,zo⟩]
 simp only [Int.toNat_natCast,Option.getD_none,Nat.mul_one,qnC,hv,jJ]
end
section
variable {base:Nat} {call:Call} {p q:qdU} {s:St} {t:List qd} {h:List qk}
def AOp.isApp:AOp->Bool
 | .app ..=>true
 | _=>false
def qmY:List qaw->Bool
 | []=>true
 | o :: os=>!o.op.isApp && qmY os
def qc9 (s:St):AOp->Option qd
 | .mov x=>some (ev s.t x)
 | .pick c a b=>qi3 (ev s.t c) (ev s.t a) (ev s.t b)
 | .ld k a=>qfw s.h (ev s.t a) k
 | .bin op x y=>qeX op (ev s.t x) (ev s.t y)
 | .un op x=>unV op (ev s.t x)
 | .fa off a=>faV off (ev s.t a)
 | .nilc x=>qwe (ev s.t x)
 | .len b x=>qxH b (ev s.t x)
 | .ixaL k x i=>qeQ k (ev s.t x) (ev s.t i)
 | .fld off k x=>qDQ off k (ev s.t x)
 | .ixS x i=>qln (ev s.t x) (ev s.t i)
 | .ixA l k a i=>qAu l k (ev s.t a) (ev s.t i)
 | .ext x i=>qDP i (ev s.t x)
 | .eqb n x y=>qDM n (ev s.t x) (ev s.t y)
 | .eqi k n x y=>qDc k n (ev s.t x) (ev s.t y)
 | .cvi k x=>qDL k (ev s.t x)
 | .mm m x y=>mmV m (ev s.t x) (ev s.t y)
 | .mkI t x=>qDf t (ev s.t x)
 | .lk sh z ok m key=>qqm s.h sh z ok (ev s.t m) (ev s.t key)
 | o=>pureV s.t o
def AOp.plain:AOp->Bool
 | .asg .. | .new .. | .box .. | .st .. | .call .. | .app .. | .pan .. | .hx ..=>false
 | _=>true
theorem qng {d:Option Nat} {o:AOp} (ho:o.plain = true):qJ base call p d o s = qhL d s (qc9 s o):=by
 cases o <;> simp only [AOp.plain,jl] at ho
 case mov=>rfl
 case pick=>exact qtn _ _ _ _
 case ld=>exact qCo _ _ _
 case bin=>exact qxJ _ _ _ _
 case un=>exact qCu _ _ _
 case fa=>exact qCn _ _ _
 case nilc=>exact qtm _ _
 case len=>exact qxQ _ _ _
 case ixaL=>exact qtl _ _ _ _
 case fld=>exact qxN _ _ _ _
 case ixS=>exact qxP _ _ _
 case ixA=>exact qxO _ _ _ _ _
 case ext=>exact qxM _ _ _
 case eqb=>exact qCm _ _ _ _
 case eqi=>exact qxL _ _ _ _ _
 case cvi=>exact qxK _ _ _
 case mm=>exact qCq _ _ _ _
 case mkI=>exact qxR _ _ _
 case lk sh z ok m key=>simp only [qJ,qc9];generalize qqm s.h sh z ok (ev s.t m) (ev s.t key) = r;cases r <;> rfl
 all_goals (simp only [qJ,qc9];generalize pureV s.t _ = r;cases r <;> rfl)
theorem qjE {d:Option Nat} {o:AOp} (ho:o.isApp = false):qJ base call p d o s = qJ base call q d o s:=by
 cases o <;> first | rfl | (simp [AOp.isApp] at ho)
def gv (q:Bool) (v:qd):qd:=bif q then v else .tup []
def qbT (q:Bool) (d:Option Nat) (s:St) (r:Option qd) (k:St->Option (Ex×St)):Option (Ex×St):=
 bif q then (match r with | some v=>k { s with t:=put d v s.t} | none=>none) else k { s with t:=put d (.tup []) s.t}
def qAs (c:Bool) (r:Option qd):Option qd:=bif c then r else some (.tup [])
def qji (g:qd) (b:Bool) (d:Option Nat) (s:St) (r:Option qd) (k:St->Option (Ex×St)):Option (Ex×St):=
 match g with
 | .bool c=>qbT (c == b) d s r k
 | .tup []=>qbT false d s r k
 | _=>none
def qik (g:qd) (b:Bool) (d:Option Nat) (s:St) (r:Option (Ex×St)) (k:St->Option (Ex×St)):Option (Ex×St):=
 match g with
 | .bool c=>bif c == b then qbr k r else k { s with t:=put d (.tup []) s.t}
 | .tup []=>k { s with t:=put d (.tup []) s.t}
 | _=>none
def qlO (base:Nat) (call:Call):List qaw->St->Option (Ex×St)
 | [],s=>some (.nor,s)
 | o :: os,s=>
  match o.guard with
  | none=>qbr (qlO base call os) (qJ base call [] o.dst o.op s)
  | some (j,b)=>
   match o.op.plain with
   | true=>qji (lkp s.t j) b o.dst s (qc9 s o.op) (qlO base call os)
   | false=>qik (lkp s.t j) b o.dst s (qJ base call [] o.dst o.op s) (qlO base call os)
theorem qn3:∀(os:List qaw) (p:qdU) (s:St),qmY os = true->qbg base call p os s = qlO base call os s
 | [],p,s,_=>rfl
 | o :: os,p,s,hn=>by
  simp only [qmY,jk,Bool.not_eq_true'] at hn
  obtain ⟨d,op,g⟩:=o
  have ih:=λp s=>qn3 os p s hn.2
  cases g with
  | none=>
   simp only [qnW,qlO]
   rw [qjE (q:=[]) hn.1]
   congr 1
   funext s
   exact ih _ s
  | some jb=>
   obtain ⟨j,b⟩:=jb
   simp only [qto,qlO]
   have e1:(qbg base call (qbo p ⟨d,op,some (j,b)⟩) os) = qlO base call os:=funext λs=>ih _ s
   rw [e1,ih,qjE (q:=[]) hn.1]
   cases E:op.plain with
   | true=>
    simp only
    rw [qng E]
    generalize qc9 s op = r
    generalize lkp s.t j = g
    cases g with
    | bool c=>
     simp only [qnN,qji,qbT]
     cases c == b with
     | true=>cases r <;> rfl
     | false=>rfl
    | tup vs=>cases vs <;> rfl
    | _=>rfl
   | false=>
    simp only
    generalize lkp s.t j = g
    cases g with
    | bool c=>
     simp only [qnN,qik]
     cases c == b <;> rfl
    | tup vs=>cases vs <;> rfl
    | _=>rfl
theorem qFh {ops:List qaw} (hn:qmY ops = true):qg base call (.reg ops) s = qlO base call ops s:=by
 rw [qib,qn3 ops [] s hn]
theorem qzL {ops:List qaw} (E:qmY ops = false):qg base call (.reg ops) s = qbg base call [] ops s:=qib ops s
theorem qEY:qlO base call [] s = some (.nor,s):=rfl
theorem qCz (d:Option Nat) (o:AOp) (os:List qaw):qlO base call (⟨d,o,none⟩ :: os) s = qbr (qlO base call os) (qJ base call [] d o s):=rfl
theorem qzG (d:Option Nat) (o:AOp) (j:Nat) (b:Bool) (os:List qaw) (ho:o.plain = true):qlO base call (⟨d,o,some (j,b)⟩ :: os) s = qji (lkp s.t j) b d s (qc9 s o) (qlO base call os):=by
 simp only [qlO,ho]
theorem qzF (d:Option Nat) (o:AOp) (j:Nat) (b:Bool) (os:List qaw) (ho:o.plain = false):qlO base call (⟨d,o,some (j,b)⟩ :: os) s = qik (lkp s.t j) b d s (qJ base call [] d o s) (qlO base call os):=by
 simp only [qlO,ho]
theorem qsb (q c b:Bool) (d:Option Nat) (s:St) (r:Option qd) (k:St->Option (Ex×St)):qji (gv q (.bool c)) b d s r k = qbT q d s (qAs (c == b) r) k:=by
 cases q <;> cases c <;> cases b <;> rfl
theorem qmB (q:Bool) (d:Nat) (t:List qd) (h:List qk) (e:Bool) (v:qd) (k:St->Option (Ex×St)):qbT q (some d) ⟨t,h,e⟩ (some v) k = k ⟨up t d (gv q v),h,e⟩:=by
 cases q <;> rfl
theorem qrX (c:Bool) (v:qd):qAs c (some v) = some (gv c v):=by cases c <;> rfl
theorem qo0 (b:Bool) (d:Option Nat) (s:St) (r:Option (Ex×St)) (k:St->Option (Ex×St)):qik (.bool b) b d s r k = qbr k r:=by cases b <;> rfl
theorem qDY (q:Bool) (v:qd):gv q (gv q v) = gv q v:=by cases q <;> rfl
theorem qBx (q:Bool) (v:qd):(gv q v).dim = gv q v.dim:=by cases q <;> rfl
theorem qwn (c x:Bool):qi3 (.bool c) (gv c (.bool x)) (.bool false) = some (.bool (c && x)):=by cases c <;> rfl
theorem qzA (c x:Bool):qi3 (.bool c) (.bool true) (gv (!c) (.bool x)) = some (.bool (c || x)):=by cases c <;> rfl
theorem qy9 (b:Bool):(b == true) = b:=by cases b <;> rfl
theorem qvO (b:Bool):(b == false) = !b:=by cases b <;> rfl
end
section
variable {s:St} {d:Option Nat} {k:St->Option (Ex×St)}
theorem qDZ (q:Bool) (v:qd) (h':List qk) (kk:Option Nat):qbT q d s (qfw h' (gv q v) kk) k = qbT q d s (qfw h' v kk) k:=by cases q <;> rfl
theorem qDD (c:Bool) (v:qd) (op:UnOp):qAs c (unV op (gv c v)) = qAs c (unV op v):=by cases c <;> rfl
theorem qy7 (q c:Bool) (v:qd) (op:UnOp):qbT q d s (qAs c (unV op (gv q v))) k = qbT q d s (qAs c (unV op v)) k:=by cases q <;> rfl
theorem qBJ (q:Bool) (v:qd) (w:qd):qbT q d s (qln (gv q v) w) k = qbT q d s (qln v w) k:=by cases q <;> rfl
theorem qy5 (q:Bool) (v:qd) (w:qd):qbT q d s (qln w (gv q v)) k = qbT q d s (qln w v) k:=by cases q <;> rfl
theorem qBI (q:Bool) (v:qd) (op:BinOp) (w:qd):qbT q d s (qeX op (gv q v) w) k = qbT q d s (qeX op v w) k:=by cases q <;> rfl
theorem qy4 (q:Bool) (v:qd) (op:BinOp) (w:qd):qbT q d s (qeX op w (gv q v)) k = qbT q d s (qeX op w v) k:=by cases q <;> rfl
theorem qy6 (q:Bool) (v:qd) (w z:qd):qbT q d s (qi3 (gv q v) w z) k = qbT q d s (qi3 v w z) k:=by cases q <;> rfl
theorem qvG (q:Bool) (v:qd) (w z:qd):qbT q d s (qi3 w z (gv q v)) k = qbT q d s (qi3 w z v) k:=by cases q <;> rfl
end
section
variable {base:Nat} {call:Call} {s:St}
def qB9 (dsts:List Nat):Option (Ex×St)->Option (Ex×St)
 | some (.pan v,s)=>some (.pan v,{ s with t:=qdL dsts s.t})
 | r=>r
theorem qCd {base:Nat} {call:Call} {p:qdU} {d:Option Nat} {o:AOp} {s s':St} {x:Ex} (ho:o.effs = false) (h:qJ base call p d o s = some (x,s')):x = .nor:=by
 cases o <;> simp only [AOp.effs,Bool.true_eq_false] at ho
 case new=>simp only [qJ,jj,Prod.mk.injEq] at h;exact h.1.symm
 case box=>
  simp only [qJ] at h
  split at h
  ·cases h;rfl
  ·cases h
 case ld=>
  simp only [qJ] at h
  cases hl:qfw s.h (ev s.t _) _ with
  | none=>rw [hl] at h;cases h
  | some v=>rw [hl] at h;cases h;rfl
 case lk sh z ok m key=>
  simp only [qJ] at h
  cases hl:qqm s.h sh z ok (ev s.t m) (ev s.t key) with
  | none=>rw [hl] at h;cases h
  | some v=>rw [hl] at h;cases h;rfl
 all_goals
  simp only [qJ] at h
  revert h
  generalize pureV s.t _ = r
  intro h
  cases r <;> cases h
  rfl
theorem qtb (dsts:List Nat) (s:St):qB9 dsts (some (.nor,s)) = some (.nor,s):=rfl
theorem qtc (dsts:List Nat) (v:qd) (t:List qd) (h:List qk) (e:Bool):qB9 dsts (some (.pan v,⟨t,h,e⟩)) = some (.pan v,⟨qdL dsts t,h,e⟩):=rfl
theorem qgG {b:qK} (I:Nat->St->Prop) (Q:Ex->St->Prop)
  (step:∀k s,I k s->(∃s' k',qg base call b s = some (.nor,s')/\k' < k/\I k' s')\/∃x s',qg base call b s = some (x,s')/\x ≠ .nor/\Q x s') :
  ∀k s,I k s->∃x s',qg base call (.loop b) s = some (x,s')/\Q x s':=by
 intro k
 induction k using Nat.strongRecOn with
 | ind k ih=>
  intro s hs
  rw [qh]
  rcases step k s hs with ⟨s',k',h1,h2,h3⟩ | ⟨x,s',h1,h2,h3⟩
  ·rw [h1]
   exact ih k' h2 s' h3
  ·rw [h1]
   refine ⟨x,s',?_,h3⟩
   cases x with
   | nor=>exact absurd rfl h2
   | _=>rfl
end
section
variable {s:St} {t:List qd} {h:List qk}
def qcy (v:qd) (i:Nat) (t:List qd):List qd:=
 match v with
 | .lst xs (.own _)=>t.set i (.lst xs .no)
 | _=>t
theorem qrA (t:List qd) (i:Nat):qbc t (.t i) = qcy (lkp t i) i t:=rfl
theorem qrz (t:List qd) (v:qd):qbc t (.c v) = t:=rfl
theorem qoz (b:Bool) (i:Nat) (t:List qd):qcy (.bool b) i t = t:=rfl
theorem qru (k:IntKind) (n:Int) (i:Nat) (t:List qd):qcy (.int k n) i t = t:=rfl
theorem qrx (b:List UInt8) (i:Nat) (t:List qd):qcy (.str b) i t = t:=rfl
theorem qk8 (i:Nat) (t:List qd):qcy .nilptr i t = t:=rfl
theorem qrw (a o:Nat) (i:Nat) (t:List qd):qcy (.ptr a o) i t = t:=rfl
theorem qoB (cs:List qd) (o:Nat) (i:Nat) (t:List qd):qcy (.iptr cs o) i t = t:=rfl
theorem qrs (cs:List qd) (i:Nat) (t:List qd):qcy (.agg cs) i t = t:=rfl
theorem qry (cs:List qd) (i:Nat) (t:List qd):qcy (.tup cs) i t = t:=rfl
theorem qvi (f:FuncId) (a b:List qd) (i:Nat) (t:List qd):qcy (.fn f a b) i t = t:=rfl
theorem qvj (xs:List qd) (i:Nat) (t:List qd):qcy (.lst xs .no) i t = t:=rfl
theorem qoA (xs:List qd) (i:Nat) (t:List qd):qcy (.lst xs .full) i t = t:=rfl
theorem qrv (xs:List qd) (k i:Nat) (t:List qd):qcy (.lst xs (.own k)) i t = up t i (.lst xs .no):=rfl
theorem qmt (ty:TypeId) (v:qd) (i:Nat) (t:List qd):qcy (.iface ty v) i t = t:=rfl
theorem qrt (v:qd) (i:Nat) (t:List qd):qcy v.dim i t = t:=by
 cases v with
 | lst xs f=>cases f <;> rfl
 | _=>rfl
def qyB (v:Option qd) (vs:Option (List qd)):Option (List qd):=
 match v,vs with
 | some v,some vs=>some (v :: vs)
 | _,_=>none
theorem qzO:qaZ s [] = some []:=rfl
theorem qzP (i:Nat) (rs:List qqa):qaZ s (.tmp i :: rs) = qyB (some (lkp s.t i).dim) (qaZ s rs):=by
 simp only [qaZ,lkp]
 cases qaZ s rs <;> rfl
theorem qwO (a:Nat) (k:Option Nat) (rs:List qqa):qaZ s (.cell a k :: rs) = qyB (qfw s.h (lkp s.t a) k) (qaZ s rs):=by
 simp only [qaZ,lkp]
 cases qfw s.h (s.t.getD a .undef) k <;> cases qaZ s rs <;> rfl
theorem qov (v:qd) (vs:List qd):qyB (some v) (some vs) = some (v :: vs):=rfl
theorem qpB (v:qd):qcQ [v] = v:=rfl
theorem qpA:qcQ [] = .tup []:=rfl
theorem qpC (a b:qd) (vs:List qd):qcQ (a :: b :: vs) = .tup (a :: b :: vs):=rfl
def qyR (h:List qk) (s:St):Option (List qd)->Option (qfJ×List qk×Bool)
 | some vs=>some (qbD h.length (.ret (qcQ vs)) s.h s.e)
 | none=>none
theorem qrI (h:List qk) (s:St) (vs:List qd):qyR h s (some vs) = some (qbD h.length (.ret (qcQ vs)) s.h s.e):=rfl
theorem qyS (fn:qA) (h:List qk) (s:St):qmu fn h (some (.nor,s)) = qyR h s (qaZ s fn.results):=by
 simp only [qmu];cases qaZ s fn.results <;> rfl
theorem qyT (fn:qA) (h:List qk) (s:St):qmu fn h (some (.ret,s)) = qyR h s (qaZ s fn.results):=by
 simp only [qmu];cases qaZ s fn.results <;> rfl
end
section
theorem qtx (x:qP):(AOp.mov x).plain = true:=Eq.trans rfl rfl
theorem qvs (x:qP):(AOp.mov x).effs = false:=Eq.trans rfl rfl
theorem qsy (x:qP):(AOp.mov x).isApp = false:=Eq.trans rfl rfl
theorem qpL (c a b:qP):(AOp.pick c a b).plain = true:=Eq.trans rfl rfl
theorem qo6 (c a b:qP):(AOp.pick c a b).isApp = false:=Eq.trans rfl rfl
theorem qoE (z:List qd) (ps:List (Nat×Nat×qP)):(AOp.build z ps).effs = false:=Eq.trans rfl rfl
theorem qmF (z:List qd) (ps:List (Nat×Nat×qP)):(AOp.build z ps).isApp = false:=Eq.trans rfl rfl
theorem qrE (k:Nat) (z:List qd) (l:Nat) (ps:List (Nat×qP)):(AOp.list k z l ps).effs = false:=Eq.trans rfl rfl
theorem qo4 (k:Nat) (z:List qd) (l:Nat) (ps:List (Nat×qP)):(AOp.list k z l ps).isApp = false:=Eq.trans rfl rfl
theorem qwp (k:Option Nat) (a:qP):(AOp.ld k a).plain = true:=Eq.trans rfl rfl
theorem qyO (k:Option Nat) (a:qP):(AOp.ld k a).effs = false:=Eq.trans rfl rfl
theorem qvK (k:Option Nat) (a:qP):(AOp.ld k a).isApp = false:=Eq.trans rfl rfl
theorem qo5 (x:qP):(AOp.nilc x).isApp = false:=Eq.trans rfl rfl
theorem qtt (op:BinOp) (x y:qP):(AOp.bin op x y).plain = true:=Eq.trans rfl rfl
theorem qsm (op:BinOp) (x y:qP):(AOp.bin op x y).isApp = false:=Eq.trans rfl rfl
theorem qtu (n:Bool) (x y:qP):(AOp.eqb n x y).plain = true:=Eq.trans rfl rfl
theorem qsp (n:Bool) (x y:qP):(AOp.eqb n x y).isApp = false:=Eq.trans rfl rfl
theorem qsq (k:Nat) (n:Bool) (x y:qP):(AOp.eqi k n x y).isApp = false:=Eq.trans rfl rfl
theorem qwq (op:UnOp) (x:qP):(AOp.un op x).plain = true:=Eq.trans rfl rfl
theorem qvN (op:UnOp) (x:qP):(AOp.un op x).isApp = false:=Eq.trans rfl rfl
theorem qso (k:IntKind) (x:qP):(AOp.cvi k x).isApp = false:=Eq.trans rfl rfl
theorem qsx (t:TypeId) (x:qP):(AOp.mkI t x).isApp = false:=Eq.trans rfl rfl
theorem qsw (f:FuncId) (a b:List qP):(AOp.mkF f a b).isApp = false:=Eq.trans rfl rfl
theorem qpM (x:qP) (l h:Option qP):(AOp.subS x l h).plain = true:=Eq.trans rfl rfl
theorem qrF (x:qP) (l h:Option qP):(AOp.subS x l h).effs = false:=Eq.trans rfl rfl
theorem qo7 (x:qP) (l h:Option qP):(AOp.subS x l h).isApp = false:=Eq.trans rfl rfl
theorem qwo (o:Nat) (a:qP):(AOp.fa o a).plain = true:=Eq.trans rfl rfl
theorem qyN (o:Nat) (a:qP):(AOp.fa o a).effs = false:=Eq.trans rfl rfl
theorem qvJ (o:Nat) (a:qP):(AOp.fa o a).isApp = false:=Eq.trans rfl rfl
theorem qpK (k:Nat) (s i:qP):(AOp.ixaL k s i).plain = true:=Eq.trans rfl rfl
theorem qo3 (k:Nat) (s i:qP):(AOp.ixaL k s i).isApp = false:=Eq.trans rfl rfl
theorem qtv (s i:qP):(AOp.ixS s i).plain = true:=Eq.trans rfl rfl
theorem qsu (s i:qP):(AOp.ixS s i).isApp = false:=Eq.trans rfl rfl
theorem qst (n:Nat) (k:Option Nat) (a i:qP):(AOp.ixA n k a i).isApp = false:=Eq.trans rfl rfl
theorem qss (o:Nat) (k:Option Nat) (x:qP):(AOp.fld o k x).isApp = false:=Eq.trans rfl rfl
theorem qsr (x:qP) (i:Nat):(AOp.ext x i).isApp = false:=Eq.trans rfl rfl
theorem qtw (b:Bool) (x:qP):(AOp.len b x).plain = true:=Eq.trans rfl rfl
theorem qvr (b:Bool) (x:qP):(AOp.len b x).effs = false:=Eq.trans rfl rfl
theorem qsv (b:Bool) (x:qP):(AOp.len b x).isApp = false:=Eq.trans rfl rfl
theorem qvL (b:Bool) (x y:qP):(AOp.mm b x y).isApp = false:=Eq.trans rfl rfl
theorem qsB (t:TypeId) (z:qd) (x:qP):(AOp.tas t z x).isApp = false:=Eq.trans rfl rfl
theorem qvq (x:qP):(AOp.asg x).effs = true:=Eq.trans rfl rfl
theorem qsl (x:qP):(AOp.asg x).isApp = false:=Eq.trans rfl rfl
theorem qsz (cs:List qd):(AOp.new cs).isApp = false:=Eq.trans rfl rfl
theorem qsn (k:Nat) (x:qP):(AOp.box k x).isApp = false:=Eq.trans rfl rfl
theorem qyP (k:Option Nat) (a x:qP):(AOp.st k a x).effs = true:=Eq.trans rfl rfl
theorem qvM (k:Option Nat) (a x:qP):(AOp.st k a x).isApp = false:=Eq.trans rfl rfl
theorem qpJ (f:qP) (aS:List qP):(AOp.call f aS).plain = false:=Eq.trans rfl rfl
theorem qrD (f:qP) (aS:List qP):(AOp.call f aS).effs = true:=Eq.trans rfl rfl
theorem qo2 (f:qP) (aS:List qP):(AOp.call f aS).isApp = false:=Eq.trans rfl rfl
theorem qvp (k:Nat) (x y:qP):(AOp.app k x y).effs = true:=Eq.trans rfl rfl
theorem qsk (k:Nat) (x y:qP):(AOp.app k x y).isApp = true:=Eq.trans rfl rfl
theorem qsA (x:qP):(AOp.pan x).isApp = false:=Eq.trans rfl rfl
theorem qpr (n:Nat) (b:Bool):(qd.bool b).lower n = true:=Eq.trans rfl rfl
theorem qsZ (n:Nat) (k:IntKind) (z:Int):(qd.int k z).lower n = true:=Eq.trans rfl rfl
theorem qs1 (n:Nat) (s:List UInt8):(qd.str s).lower n = true:=Eq.trans rfl rfl
theorem qs0 (n:Nat) (xs:List qd) (f:qha):(qd.lst xs f).lower n = qj n xs:=Eq.trans rfl rfl
theorem qmV (n:Nat) (t:TypeId) (v:qd):(qd.iface t v).lower n = v.lower n:=Eq.trans rfl rfl
theorem qsY (n:Nat) (cs:List qd):(qd.agg cs).lower n = qj n cs:=Eq.trans rfl rfl
theorem qs2 (n:Nat) (cs:List qd):(qd.tup cs).lower n = qj n cs:=Eq.trans rfl rfl
theorem qpp (n:Nat):qj n [] = true:=Eq.trans rfl rfl
theorem qez (n:Nat) (v:qd) (vs:List qd):qj n (v :: vs) = (v.lower n && qj n vs):=Eq.trans rfl rfl
def qbS (rs:List qqa) (h:List qk):Option (Ex×St)->Option (qfJ×List qk×Bool)
 | some (.nor,s) | some (.ret,s)=>qyR h s (qaZ s rs)
 | some (.pan v,s)=>some (qbD h.length (.pan v) s.h s.e)
 | _=>none
theorem qyQ (fn:qA) (h:List qk) (r:Option (Ex×St)):qmu fn h r = qbS fn.results h r:=by
 cases r with
 | none=>rfl
 | some r=>obtain ⟨x,s⟩:=r;cases x <;> first | rfl | exact qyS _ _ _ | exact qyT _ _ _
theorem qvu (rs:List qqa) (h:List qk) (s:St):qbS rs h (some (.nor,s)) = qyR h s (qaZ s rs):=rfl
theorem qvw (rs:List qqa) (h:List qk) (s:St):qbS rs h (some (.ret,s)) = qyR h s (qaZ s rs):=rfl
theorem qvv (rs:List qqa) (h:List qk) (s:St) (v:qd):qbS rs h (some (.pan v,s)) = some (qbD h.length (.pan v) s.h s.e):=rfl
theorem qFV {F:FuncId->Option qA} {X:qn9} (hX:qoc X) {f:FuncId} {first args cap:List qd} {h:List qk} {fn:qA} (h1:X f = none) (h2:F f = some fn) :
  W F X (.fn f first cap) args h = qbS fn.results h (qg h.length (W F X) fn.code ⟨(first ++ args ++ cap).map qd.dim ++ List.replicate (fn.ntmps - ((first ++ args ++ cap).map qd.dim).length) (.tup []),h,false⟩):=by
 rw [qFU hX h1 h2,qyQ]
end
section
variable {h:List qk}
theorem qq4 (cs:List qd):(qd.agg cs).cells = cs:=rfl
theorem qq5 (k:IntKind) (n:Int):(qd.int k n).cells = [.int k n]:=rfl
theorem qq8 (s:List UInt8):(qd.str s).cells = [.str s]:=rfl
theorem qot (b:Bool):(qd.bool b).cells = [.bool b]:=rfl
theorem qq6 (xs:List qd) (f:qha):(qd.lst xs f).cells = [.lst xs f]:=rfl
theorem qq7 (i o:Nat):(qd.ptr i o).cells = [.ptr i o]:=rfl
theorem qk2:qd.nilptr.cells = [.nilptr]:=rfl
theorem qu3 (f:FuncId) (a b:List qd):(qd.fn f a b).cells = [.fn f a b]:=rfl
theorem qiX:qd.niliface.cells = [.niliface]:=rfl
theorem qmh (t:TypeId) (v:qd):(qd.iface t v).cells = [.iface t v]:=rfl
theorem qq9 (i:Nat):(qd.yld i).cells = [.yld i]:=rfl
theorem qw7 (k:IntKind) (n:Int):(qd.int k n).storable = true:=Eq.trans rfl rfl
theorem qxa (s:List UInt8):(qd.str s).storable = true:=Eq.trans rfl rfl
theorem qug (b:Bool):(qd.bool b).storable = true:=Eq.trans rfl rfl
theorem qw8 (xs:List qd) (f:qha):(qd.lst xs f).storable = true:=Eq.trans rfl rfl
theorem qw9 (i o:Nat):(qd.ptr i o).storable = true:=Eq.trans rfl rfl
theorem qz5 (f:FuncId) (a b:List qd):(qd.fn f a b).storable = true:=Eq.trans rfl rfl
theorem qu6 (c:qd) (cs:List qd) (o k:Nat):cut (c :: cs) o (some k) = if o + k <= (c :: cs).length then some (.agg ((((c :: cs).drop o).take k).map qd.dim)) else none:=rfl
def ldB (k:Option Nat) (o:Nat):Option qk->Option qd
 | some (.cells cs)=>cut cs o k
 | _=>none
theorem qvT (i o:Nat) (k:Option Nat):qfw h (.ptr i o) k = ldB k o h[i]?:=by
 simp only [qfw,ldB]
 cases h[i]? with
 | none=>rfl
 | some b=>cases b <;> rfl
theorem qsF (k:Option Nat) (o:Nat) (cs:List qd):ldB k o (some (.cells cs)) = cut cs o k:=rfl
def qEX (k:Option Nat) (v:qd):List qd:=
 match k with
 | none=>[v]
 | some _=>v.dim.cells.map qd.dim
theorem qtH (v:qd):qEX none v = [v]:=rfl
theorem qtI (k:Nat) (v:qd):qEX (some k) v = v.dim.cells.map qd.dim:=rfl
def stB (base:Nat) (k:Option Nat) (id o:Nat) (vs:List qd) (h:List qk):Option qk->Option (List qk×Bool)
 | some (.cells cs)=>if vs.length = k.getD 1/\o + vs.length <= cs.length/\vs.all qd.storable then some (h.set id (.cells (splice cs o vs)),!(Nat.ble base id || qj (id + 1) vs)) else none
 | _=>none
theorem qz2 (base:Nat) (k:Option Nat) (id o:Nat) (v:qd):stV base k (.ptr id o) v h = stB base k id o (qEX k v) h h[id]?:=by
 simp only [stV,stB]
 cases h[id]? with
 | none=>rfl
 | some b=>cases b <;> cases k <;> rfl
theorem que (base:Nat) (k:Option Nat) (id o:Nat) (vs cs:List qd):stB base k id o vs h (some (.cells cs)) = if vs.length = k.getD 1/\o + vs.length <= cs.length/\vs.all qd.storable then some (h.set id (.cells (splice cs o vs)),!(Nat.ble base id || qj (id + 1) vs)) else none:=rfl
theorem qHE (h:List qk) (k:Nat):Nat.ble h.length (h.length + k) = true:=Nat.ble_eq_true_of_le (Nat.le_add_right _ _)
theorem qE {a b:Nat} (h:a <= b):Nat.ble a b = true:=Nat.ble_eq_true_of_le h
end
theorem qvQ {e r:Option (Ex×St)} (hr:e = r) {Q:Ex->St->Prop} (h:∃x s',e = some (x,s')/\Q x s'):∃x s',r = some (x,s')/\Q x s':=hr▸h
mutual
theorem qjX:∀v:qd,v.beq v = true
 | .undef | .nilptr | .nilfunc | .niliface | .nilmap | .nils | .empt=>rfl
 | .sl ..=>by simp [qd.beq]
 | .mp i=>by simp [qd.beq]
 | .bool b=>by simp [qd.beq]
 | .int k n=>by simp [qd.beq]
 | .str s=>by simp [qd.beq]
 | .ptr i o=>by simp [qd.beq]
 | .iptr cs o=>by simp [qd.beq,qc6 cs]
 | .lst xs f=>by simp [qd.beq,qc6 xs]
 | .fn f a b=>by simp [qd.beq,qc6 a,qc6 b]
 | .yld i=>by simp [qd.beq]
 | .iface t v=>by simp [qd.beq,qjX v]
 | .agg cs=>by simp [qd.beq,qc6 cs]
 | .tup cs=>by simp [qd.beq,qc6 cs]
theorem qc6:∀vs:List qd,ql3 vs vs = true
 | []=>rfl
 | v :: vs=>by simp [ql3,qjX v,qc6 vs]
end
section
variable {base:Nat} {call:Call} {dsts:List Nat} {s:St} {pend:List (Nat×Chk)} {h:List qk}
def qgm (h:List qk):List (Nat×Chk)->Bool
 | []=>true
 | c :: cs=>c.2.ok h && qgm h cs
theorem qu5:qgm h [] = true:=Eq.trans rfl rfl
theorem qra (i:Nat) (c:Chk) (cs:List (Nat×Chk)):qgm h ((i,c) :: cs) = (c.ok h && qgm h cs):=rfl
theorem qu4 (l:List (Nat×Chk)):l.all (λc=>c.2.ok h) = qgm h l:=by
 induction l with
 | nil=>rfl
 | cons c l ih=>simp only [List.all_cons,qgm,ih]
def qFy (v:qd):Option qd->Bool
 | some w=>v.beq w
 | none=>false
theorem qqU (v:qd):qFy v (some v) = true:=qjX v
theorem qBt (a:qd) (k:Option Nat) (v:qd):Chk.ok h (.ld a k v) = qFy v (qfw h a k):=by
 simp only [Chk.ok];cases qfw h a k <;> rfl
def qFx (cs:List qd):Option qk->Bool
 | some (.cells ds)=>ql3 cs ds
 | _=>false
theorem qqS (cs:List qd):qFx cs (some (.cells cs)) = true:=qc6 cs
theorem qyy (id:Nat) (cs:List qd):Chk.ok h (.box id cs) = qFx cs h[id]?:=by
 simp only [Chk.ok]
 cases h[id]? with
 | none=>rfl
 | some b=>cases b <;> rfl
def qfY (cl:Nat):List (Nat×Chk)->List (Nat×Chk)
 | []=>[]
 | c :: cs=>bif cl.testBit c.1 then qfY cl cs else c :: qfY cl cs
theorem qoM (cl:Nat):qfY cl [] = []:=rfl
theorem qmx (cl i:Nat) (c:Chk) (cs:List (Nat×Chk)):qfY cl ((i,c) :: cs) = bif cl.testBit i then qfY cl cs else (i,c) :: qfY cl cs:=rfl
theorem qrT (cl:Nat) (l:List (Nat×Chk)):l.filter (λc=>!cl.testBit c.1) = qfY cl l:=by
 induction l with
 | nil=>rfl
 | cons c l ih=>
  simp only [List.filter_cons,qfY,ih]
  cases cl.testBit c.1 <;> rfl
def qvk (dsts:List Nat) (pend:List (Nat×Chk)) (k:List (Nat×Chk)->St->Option (Ex×St)):Option (Ex×St)->Option (Ex×St)
 | some (.nor,s)=>bif qgm s.h pend then k pend s else none
 | some (.pan v,s)=>some (.pan v,{ s with t:=qdL dsts s.t})
 | _=>none
theorem qrB (k:List (Nat×Chk)->St->Option (Ex×St)) (s:St):qvk dsts pend k (some (.nor,s)) = bif qgm s.h pend then k pend s else none:=rfl
theorem qrC (k:List (Nat×Chk)->St->Option (Ex×St)) (t:List qd) (e:Bool) (v:qd):qvk dsts pend k (some (.pan v,⟨t,h,e⟩)) = some (.pan v,⟨qdL dsts t,h,e⟩):=rfl
theorem qvo:qS base call dsts [] pend s = some (.nor,s):=rfl
theorem qvm {d:Option Nat} {o:AOp} {ix cl:Nat} {ds:List qX} (ho:o.effs = true):qS base call dsts (⟨⟨d,o,none⟩,ix,cl⟩ :: ds) pend s = qvk dsts (qfY cl pend) (qS base call dsts ds) (qJ base call [] d o s):=by
 simp only [qS,wanted,ho,if_true,qu4,qrT]
 cases hr:qJ base call [] d o s with
 | none=>rfl
 | some r=>
  obtain ⟨x,s'⟩:=r
  cases x with
  | nor=>simp only [qvk];cases qgm s'.h (qfY cl pend) <;> rfl
  | pan v=>rfl
  | exit i=>rfl
  | ret=>rfl
def AOp.light:AOp->Bool
 | .asg .. | .new .. | .box .. | .st .. | .call .. | .app .. | .pan .. | .ld .. | .hx .. | .lk ..=>false
 | _=>true
theorem qoC {d:Option Nat} {o:AOp} {ix cl:Nat} {ds:List qX} (ho:o.light = true):qS base call dsts (⟨⟨d,o,none⟩,ix,cl⟩ :: ds) pend s = qbr (qS base call dsts ds pend) (qJ base call [] d o s):=by
 have he:o.effs = false:=by cases o <;> simp_all [AOp.light,AOp.effs]
 have hc:qhb s o = none:=by cases o <;> simp_all [AOp.light,qhb]
 simp only [qS,wanted,he,jl,if_false,hc]
 cases hr:qJ base call [] d o s with
 | none=>rfl
 | some r=>
  obtain ⟨x,s'⟩:=r
  have:=qCd he hr
  subst this
  rfl
def ldD (d:Option Nat) (s:St) (a:qd) (k:Option Nat) (ix:Nat) (pend:List (Nat×Chk)) (f:List (Nat×Chk)->St->Option (Ex×St)):Option qd->Option (Ex×St)
 | some v=>f ((ix,.ld a k v) :: pend) { s with t:=put d v s.t}
 | none=>none
theorem qvU (d:Option Nat) (t:List qd) (e:Bool) (a:qd) (k:Option Nat) (ix:Nat) (f:List (Nat×Chk)->St->Option (Ex×St)) (v:qd):ldD d ⟨t,h,e⟩ a k ix pend f (some v) = f ((ix,.ld a k v) :: pend) ⟨put d v t,h,e⟩:=rfl
theorem qyM {d:Option Nat} {k:Option Nat} {a:qP} {ix cl:Nat} {ds:List qX}:qS base call dsts (⟨⟨d,.ld k a,none⟩,ix,cl⟩ :: ds) pend s = ldD d s (ev s.t a) k ix pend (qS base call dsts ds) (qfw s.h (ev s.t a) k):=by
 simp only [qS,wanted,AOp.effs,jl,if_false,qhb,qJ]
 cases qfw s.h (ev s.t a) k <;> rfl
theorem qvn {d:Option Nat} {cs:List qd} {ix cl:Nat} {ds:List qX}:qS base call dsts (⟨⟨d,.new cs,none⟩,ix,cl⟩ :: ds) pend s = qS base call dsts ds ((ix,.box s.h.length (cs.map qd.dim)) :: pend) { s with t:=put d (.ptr s.h.length 0) s.t,h:=s.h ++ [.cells (cs.map qd.dim)]}:=by
 simp only [qS,wanted,AOp.effs,jl,if_false,qhb,qJ]
end
theorem qsO (x:qP):(AOp.mov x).light = true:=Eq.trans rfl rfl
theorem qpm (c a b:qP):(AOp.pick c a b).light = true:=Eq.trans rfl rfl
theorem qmT (z:List qd) (ps:List (Nat×Nat×qP)):(AOp.build z ps).light = true:=Eq.trans rfl rfl
theorem qpk (k:Nat) (z:List qd) (l:Nat) (ps:List (Nat×qP)):(AOp.list k z l ps).light = true:=Eq.trans rfl rfl
theorem qpl (x:qP):(AOp.nilc x).light = true:=Eq.trans rfl rfl
theorem qsK (op:BinOp) (x y:qP):(AOp.bin op x y).light = true:=Eq.trans rfl rfl
theorem qvY (op:UnOp) (x:qP):(AOp.un op x).light = true:=Eq.trans rfl rfl
theorem qvX (o:Nat) (a:qP):(AOp.fa o a).light = true:=Eq.trans rfl rfl
theorem qpj (k:Nat) (s i:qP):(AOp.ixaL k s i).light = true:=Eq.trans rfl rfl
theorem qsM (s i:qP):(AOp.ixS s i).light = true:=Eq.trans rfl rfl
theorem qsL (x:qP) (i:Nat):(AOp.ext x i).light = true:=Eq.trans rfl rfl
theorem qsN (b:Bool) (x:qP):(AOp.len b x).light = true:=Eq.trans rfl rfl
section
variable {base:Nat} {call:Call} {p:qdU} {s:St} {t:List qd} {h:List qk}
def qbE (k:Nat) (xs ys:List qd):Bool:=decide (xs.length + ys.length <= qe6) && ys.all (λy=>y.cells.length == k && y.cells.all qd.storable) && xs.head?.all (λy=>y.cells.length == k)
def ql8 (d:Option Nat) (k:Nat) (ys:List qd):Option (List qd×St)->Option (Ex×St)
 | some (xs,s)=>if xs.head?.all (λy=>y.cells.length == k) then some (.nor,{ s with t:=put d (.lst (xs ++ ys) (.own k)) s.t}) else none
 | none=>none
def qx9 (d:Option Nat) (k:Nat) (s:St) (tk:Option (List qd×St)) (x:qd) (ys:Option (List qd)):Option (Ex×St):=
 match x,ys with
 | .lst xs f,some ys=>
  if ys.isEmpty then some (.nor,{ s with t:=put d (qd.lst xs f).dim s.t})
  else if qbE k xs ys = true then
   match f with
   | .full=>some (.nor,{ s with t:=put d (.lst (xs ++ ys) (.own k)) s.t})
   | _=>ql8 d k ys tk
  else none
 | _,_=>none
theorem qCj (d:Option Nat) (k:Nat) (x y:qP):qJ base call p d (.app k x y) s = qx9 d k s (qgd k p x s) (raw s.t x) (tail (ev s.t y)):=by
 simp only [qJ,qx9,qbE,jk,decide_eq_true_eq,and_assoc]
 generalize raw s.t x = v
 generalize tail (ev s.t y) = w
 generalize qgd k p x s = z
 cases v <;> rfl
theorem qxf (ys:List qd) (f:qha):tail (.lst ys f) = some ys:=rfl
theorem qxg (b:List UInt8):tail (.str b) = some (qmE b):=rfl
theorem qya (d:Option Nat) (k:Nat) (t:List qd) (e:Bool) (tk:Option (List qd×St)) (xs:List qd) (f:qha):qx9 d k ⟨t,h,e⟩ tk (.lst xs f) (some []) = some (.nor,⟨put d (qd.lst xs f).dim t,h,e⟩):=rfl
theorem quU {d:Option Nat} {k:Nat} {t:List qd} {e:Bool} {tk:Option (List qd×St)} {xs ys:List qd} (hy:ys.isEmpty = false) (hc:qbE k xs ys = true):qx9 d k ⟨t,h,e⟩ tk (.lst xs .full) (some ys) = some (.nor,⟨put d (.lst (xs ++ ys) (.own k)) t,h,e⟩):=by
 simp only [qx9,hy,hc,jl,if_false,if_true]
theorem qAI {d:Option Nat} {k:Nat} {s:St} {tk:Option (List qd×St)} {xs ys:List qd} (hy:ys.isEmpty = false) (hc:qbE k xs ys = true):qx9 d k s tk (.lst xs .no) (some ys) = ql8 d k ys tk:=by
 simp only [qx9,hy,hc,jl,if_false,if_true]
theorem qqN {d:Option Nat} {k:Nat} {t:List qd} {e:Bool} {xs ys:List qd} (hc:qbE k xs ys = true):ql8 d k ys (some (xs,⟨t,h,e⟩)) = some (.nor,⟨put d (.lst (xs ++ ys) (.own k)) t,h,e⟩):=by
 simp only [qbE,jk] at hc
 simp only [ql8,hc.2,if_true]
def qw5 (p:qdU) (i:Nat):Option Src:=(p.find? (·.1 == i)).map (·.2)
def qxi (k b:Nat) (s:St) (v:qd):Option (List qd×St):=
 match v with
 | .lst xs (.own j)=>if j = k then some (xs,{ s with t:=s.t.set b (.lst xs .no)}) else none
 | _=>none
def qau (k:Nat) (s:St) (id o:Nat) (c:Option qk):Option (List qd×St):=
 match c with
 | some (.cells cs)=>
  match cs[o]? with
  | some (.lst xs (.own j))=>if j = k then some (xs,{ s with h:=s.h.set id (.cells (cs.set o (.lst xs .no)))}) else none
  | _=>none
 | _=>none
def qxh (k:Nat) (s:St) (a:qd):Option (List qd×St):=
 match a with
 | .ptr id o=>qau k s id o s.h[id]?
 | _=>none
def qp5 (k:Nat) (s:St):Option Src->Option (List qd×St)
 | some (.tmp b)=>qxi k b s (lkp s.t b)
 | some (.cell a)=>qxh k s (ev s.t a)
 | none=>none
def qAf (k i:Nat) (s:St) (v:qd) (src:Option Src):Option (List qd×St):=
 match v with
 | .lst xs (.own j)=>if j = k then some (xs,{ s with t:=s.t.set i (.lst xs .no)}) else none
 | _=>qp5 k s src
theorem qAg (k:Nat) (i:Nat):qgd k p (.t i) s = qAf k i s (lkp s.t i) (qw5 p i):=by
 simp only [qgd,qAf,lkp,qw5]
 generalize hv:s.t.getD i .undef = v
 have key:(match p.find? (·.1 == i) with
   | some (_,.tmp b)=>
    match s.t.getD b .undef with
    | .lst xs (.own j)=>if j = k then some (xs,{ s with t:=s.t.set b (.lst xs .no)}) else none
    | _=>none
   | some (_,.cell a)=>
    match ev s.t a with
    | .ptr id o=>
     match s.h[id]? with
     | some (.cells cs)=>
      match cs[o]? with
      | some (.lst xs (.own j))=>if j = k then some (xs,{ s with h:=s.h.set id (.cells (cs.set o (.lst xs .no)))}) else none
      | _=>none
     | _=>none
    | _=>none
   | none=>none) = qp5 k s ((p.find? (·.1 == i)).map (·.2)):=by
  cases p.find? (·.1 == i) with
  | none=>rfl
  | some q=>
   obtain ⟨_,src⟩:=q
   cases src with
   | tmp b=>rfl
   | cell a=>
    simp only [jJ,qp5,qxh]
    cases ev s.t a <;> rfl
 cases v with
 | lst xs f=>cases f <;> first | rfl | exact key
 | _=>exact key
theorem qxj (k i:Nat) (xs:List qd) (src:Option Src):qAf k i s (.lst xs .no) src = qp5 k s src:=rfl
theorem qul (k b:Nat):qp5 k s (some (.tmp b)) = qxi k b s (lkp s.t b):=rfl
theorem qp6 (k:Nat) (a:qP):qp5 k s (some (.cell a)) = qxh k s (ev s.t a):=rfl
theorem qum (k b:Nat) (t:List qd) (e:Bool) (xs:List qd):qxi k b ⟨t,h,e⟩ (.lst xs (.own k)) = some (xs,⟨up t b (.lst xs .no),h,e⟩):=by simp [qxi,up]
theorem quk (k id o:Nat):qxh k s (.ptr id o) = qau k s id o s.h[id]?:=rfl
def qAe (k:Nat) (s:St) (id o:Nat) (cs:List qd) (v:Option qd):Option (List qd×St):=
 match v with
 | some (.lst xs (.own j))=>if j = k then some (xs,{ s with h:=s.h.set id (.cells (cs.set o (.lst xs .no)))}) else none
 | _=>none
theorem qnk (k id o:Nat) (cs:List qd):qau k s id o (some (.cells cs)) = qAe k s id o cs cs[o]?:=rfl
theorem quj (k id o:Nat) (t:List qd) (e:Bool) (cs xs:List qd):qAe k ⟨t,h,e⟩ id o cs (some (.lst xs (.own k))) = some (xs,⟨t,h.set id (.cells (cs.set o (.lst xs .no))),e⟩):=by simp [qAe]
theorem qz1 (i:Nat):qw5 [] i = none:=rfl
def qwu (p:qdU) (d:Option Nat) (o:AOp):qdU:=
 match d with
 | none=>p
 | some d=>
  let q:=p.filter λx=>x.1 != d && !x.2.hangs d
  match qjA o with
  | some s=>if s.hangs d then q else (d,s) :: q
  | none=>q
def qwv (p:qdU) (d:Option Nat):qdU:=
 match d with
 | none=>p.filter λx=>x.2.isTmp
 | some d=>p.filter λx=>x.2.isTmp && (x.1 != d && !x.2.hangs d)
theorem qww {d:Option Nat} {o:AOp} {g:Option (Nat×Bool)} (ho:o.effs = true):qbo p ⟨d,o,g⟩ = qwv p d:=by simp only [qbo,ho,if_true,qwv];cases d <;> rfl
theorem qzC {d:Option Nat} {o:AOp} {g:Option (Nat×Bool)} (ho:o.effs = false):qbo p ⟨d,o,g⟩ = qwu p d o:=by simp only [qbo,ho,jl,if_false,qwu];cases d <;> rfl
end
theorem qyf (k:IntKind) (a b:Int):qeX .add (.int k a) (.int k b) = some (.int k (k.wrap (a + b))):=by simp [qeX,qef]
theorem qyn (k:IntKind) (a b:Int):qeX .sub (.int k a) (.int k b) = some (.int k (k.wrap (a - b))):=by simp [qeX,qef]
theorem qyl (k:IntKind) (a b:Int):qeX .mul (.int k a) (.int k b) = some (.int k (k.wrap (a * b))):=by simp [qeX,qef]
theorem qyg (k:IntKind) (a b:Int):qeX .eql (.int k a) (.int k b) = some (.bool (a == b)):=by simp [qeX,qef]
theorem qym (k:IntKind) (a b:Int):qeX .neq (.int k a) (.int k b) = some (.bool (!(a == b))):=by simp [qeX,qef,bne]
theorem qyk (k:IntKind) (a b:Int):qeX .lss (.int k a) (.int k b) = some (.bool (ilt a b)):=by simp [qeX,qef]
theorem qyj (k:IntKind) (a b:Int):qeX .leq (.int k a) (.int k b) = some (.bool (ile a b)):=by simp [qeX,qef]
theorem qyi (k:IntKind) (a b:Int):qeX .gtr (.int k a) (.int k b) = some (.bool (ilt b a)):=by simp [qeX,qef]
theorem qyh (k:IntKind) (a b:Int):qeX .geq (.int k a) (.int k b) = some (.bool (ile b a)):=by simp [qeX,qef]
theorem qz6 (a b:List UInt8):qeX .add (.str a) (.str b) = if a.length + b.length <= qe6 then some (.str (a ++ b)) else none:=rfl
theorem qz7 (a b:List UInt8):qeX .eql (.str a) (.str b) = some (.bool (a == b)):=rfl
theorem qAa (a b:List UInt8):qeX .neq (.str a) (.str b) = some (.bool (!(a == b))):=rfl
theorem qz9 (a b:List UInt8):qeX .lss (.str a) (.str b) = some (.bool (Op.bytesLess a b)):=rfl
theorem qz8 (a b:List UInt8):qeX .gtr (.str a) (.str b) = some (.bool (!(Op.bytesLess a b || a == b))):=rfl
theorem qCU (k:IntKind) (n:Int):unV .neg (.int k n) = some (.int k (k.wrap (0 - n))):=rfl
theorem qCV (b:Bool):unV .not (.bool b) = some (.bool (!b)):=rfl
section
variable {base:Nat} {call:Call} {p:qdU} {s:St}
def qcV (k:Nat) (zero:List qd) (len:Nat) (parts:List (Nat×qd)):Option qd:=
 if zero.length = k/\len * k <= 2 ^ 24 then
  match qr ((List.replicate len zero).flatten) (parts.map λ(i,x)=>(i * k,k,x)) with
  | some cs=>if cs.all qd.storable then some (.lst ((List.range len).map λi=>if k = 1 then (cs.getD i .undef) else .agg ((cs.drop (i * k)).take k)) .full) else none
  | none=>none
 else none
theorem qzw (d:Option Nat) (k:Nat) (z:List qd) (len:Nat) (ps:List (Nat×qP)):qJ base call p d (.list k z len ps) s = qhL d s (qcV k z len (ps.map λ(i,x)=>(i,ev s.t x))):=by
 rw [qbI _ _ rfl (by simp) (by simp) (by simp)]
 simp only [pureV,qcV,jG]
 rfl
theorem qlc {k:Nat} {z:List qd} (hz:z.length = k):∀(vs:List qd) (D:List qd) (j:Nat),D.length = j * k->(∀v ∈ vs,v.cells.length = k/\v.cells.all qd.storable = true)->
  qr (D ++ (List.replicate vs.length z).flatten) ((vs.zipIdx j).map λx=>(x.2 * k,k,x.1)) = some (D ++ (vs.map qd.cells).flatten)
 | [],D,j,_,_=>by simp [qr]
 | v :: vs,D,j,hD,hv=>by
  obtain ⟨h1,h2⟩:=hv v (jE ..)
  have ih:=qlc hz vs (D ++ v.cells) (j + 1) (by rw [List.length_append,hD,h1,Nat.add_mul,Nat.one_mul]) λw hw=>hv w (jI _ hw)
  simp only [List.zipIdx_cons,List.map_cons,qr,List.length_cons,List.replicate_succ,List.flatten_cons,h2]
  rw [if_pos ⟨h1,by simp [hD,hz],trivial⟩]
  have e:splice (D ++ (z ++ (List.replicate vs.length z).flatten)) (j * k) v.cells = (D ++ v.cells) ++ (List.replicate vs.length z).flatten:=by
   unfold splice
   rw [<-hD,List.take_left,h1,<-List.drop_drop,List.drop_left,<-hz,List.drop_left]
  rw [e,ih,List.append_assoc]
theorem qle {k:Nat}:∀(vs:List (List qd)) (i:Nat),(∀v ∈ vs,v.length = k)->i < vs.length->(vs.flatten.drop (i * k)).take k = vs.getD i []
 | [],i,_,h=>by simp at h
 | v :: vs,0,hv,_=>by
  have:=hv v (jE ..)
  simp [<-this]
 | v :: vs,i + 1,hv,h=>by
  have h1:=hv v (jE ..)
  rw [List.flatten_cons,Nat.add_mul,Nat.one_mul,Nat.add_comm,<-List.drop_drop,<-h1,List.drop_left,h1,qle vs i (λw hw=>hv w (jI _ hw)) (by simpa using h)]
  rfl
theorem qiv {k:Nat} {z:List qd} (hz:z.length = k) (h1:k ≠ 1) (vs:List (List qd)) (hl:vs.length * k <= 2 ^ 24) (hv:∀v ∈ vs,v.length = k/\v.all qd.storable = true) :
  qcV k z vs.length ((vs.map qd.agg).zipIdx.map λx=>(x.2,x.1)) = some (.lst (vs.map qd.agg) .full):=by
 have hf:=qlc hz (vs.map qd.agg) [] 0 (by simp) (by simpa [qd.cells] using hv)
 simp only [List.nil_append,jQ,jG] at hf
 have hc:(vs.map (qd.cells ∘ qd.agg)).flatten = vs.flatten:=by
  congr 1
  exact (List.map_congr_left λv _=>rfl).trans (List.map_id vs)
 simp only [qcV,jG]
 rw [if_pos ⟨hz,hl⟩]
 rw [show ((λx:Nat×qd=>(x.1 * k,k,x.2)) ∘ λx:qd×Nat=>(x.2,x.1)) = λx:qd×Nat=>(x.2 * k,k,x.1) from rfl,hf,hc]
 have I:vs.flatten.all qd.storable = true:=by
  simp only [List.all_flatten,List.all_eq_true]
  exact λv E=>List.all_eq_true.1 (hv v E).2
 simp only [I,if_true,if_neg h1]
 congr 2
 apply List.ext_getElem?
 intro i
 rw [jr,jr]
 by_cases hi:i < vs.length
 ·rw [List.getElem?_range hi,jh hi]
  simp only [jJ]
  rw [qle vs i (λv E=>(hv v E).1) hi]
  simp [List.getD,jh hi]
 ·rw [jq (by simpa using hi),jq (by simpa using hi)]
  rfl
theorem qbb {k:Nat} {z a:List qd} (hz:z.length = k) (h1:k ≠ 1) (ha:a.length = k) (sa:a.all qd.storable = true) (hl:k <= 1000):qcV k z 1 [(0,.agg a)] = some (.lst [.agg a] .full):=
 qiv hz h1 [a] (by simp;omega) (by simpa using ⟨ha,by simpa using sa⟩)
theorem qlw {k:Nat} {z a b:List qd} (hz:z.length = k) (h1:k ≠ 1) (ha:a.length = k) (sa:a.all qd.storable = true) (hb:b.length = k) (sb:b.all qd.storable = true) (hl:k <= 1000):qcV k z 2 [(0,.agg a),(1,.agg b)] = some (.lst [.agg a,.agg b] .full):=
 qiv hz h1 [a,b] (by simp;omega) (by simpa using ⟨⟨ha,by simpa using sa⟩,hb,by simpa using sb⟩)
theorem qsU {k:Nat} {z a b c:List qd} (hz:z.length = k) (h1:k ≠ 1) (ha:a.length = k) (sa:a.all qd.storable = true) (hb:b.length = k) (sb:b.all qd.storable = true) (hc:c.length = k) (sc:c.all qd.storable = true) (hl:k <= 1000):qcV k z 3 [(0,.agg a),(1,.agg b),(2,.agg c)] = some (.lst [.agg a,.agg b,.agg c] .full):=
 qiv hz h1 [a,b,c] (by simp;omega) (by simpa using ⟨⟨ha,by simpa using sa⟩,⟨hb,by simpa using sb⟩,hc,by simpa using sc⟩)
end
theorem qli (c b:Bool) (d:Option Nat) (s:St) (r:Option qd) (k:St->Option (Ex×St)):qji (.bool c) b d s r k = qbT (c == b) d s r k:=Eq.trans rfl rfl
theorem qmA (b:Bool) (d:Option Nat) (s:St) (r:Option qd) (k:St->Option (Ex×St)):qji (.tup []) b d s r k = qbT false d s r k:=Eq.trans rfl rfl
theorem qlj (d:Option Nat) (t:List qd) (h:List qk) (e:Bool) (v:qd) (k:St->Option (Ex×St)):qbT true d ⟨t,h,e⟩ (some v) k = k ⟨put d v t,h,e⟩:=Eq.trans rfl rfl
theorem qj6 (d:Option Nat) (t:List qd) (h:List qk) (e:Bool) (r:Option qd) (k:St->Option (Ex×St)):qbT false d ⟨t,h,e⟩ r k = k ⟨put d (.tup []) t,h,e⟩:=Eq.trans rfl rfl
theorem qo1 (d:Option Nat) (t:List qd) (h:List qk) (e:Bool) (r:Option (Ex×St)) (k:St->Option (Ex×St)):qik (.bool true) false d ⟨t,h,e⟩ r k = k ⟨put d (.tup []) t,h,e⟩:=Eq.trans rfl rfl
theorem qoZ (d:Option Nat) (t:List qd) (h:List qk) (e:Bool) (r:Option (Ex×St)) (k:St->Option (Ex×St)):qik (.bool false) true d ⟨t,h,e⟩ r k = k ⟨put d (.tup []) t,h,e⟩:=Eq.trans rfl rfl
theorem qmz (b:Bool) (d:Option Nat) (t:List qd) (h:List qk) (e:Bool) (r:Option (Ex×St)) (k:St->Option (Ex×St)):qik (.tup []) b d ⟨t,h,e⟩ r k = k ⟨put d (.tup []) t,h,e⟩:=Eq.trans rfl rfl
section
variable {base:Nat} {call:Call} {p:qdU} {s:St}
theorem qaC (f:St->Option (Ex×St)) (s:St):qbr f (some (.nor,s)) = f s:=Eq.trans rfl rfl
end
theorem qmj (a b:Option (Ex×St)):qyA (.bool true) a b = a:=Eq.trans rfl rfl
theorem qk3 (a b:Option (Ex×St)):qyA (.bool false) a b = b:=Eq.trans rfl rfl
theorem qDs (d:Nat) (o:AOp):ao d o = ⟨some d,o,none⟩:=Eq.trans rfl rfl
theorem qDq (d:Nat) (o:AOp) (j:Nat) (b:Bool):ag d o j b = ⟨some d,o,some (j,b)⟩:=Eq.trans rfl rfl
theorem qDr (o:AOp):an o = ⟨none,o,none⟩:=Eq.trans rfl rfl
theorem qud (cs:List qd) (o:Nat) (vs:List qd):splice cs o vs = cs.take o ++ vs ++ cs.drop (o + vs.length):=Eq.trans rfl rfl
theorem qHw (d i:Nat):mv d i=⟨some d,.mov (.t i),none⟩:=Eq.trans rfl rfl
theorem qHA (d i:Nat):sg d i=⟨some d,.asg (.t i),none⟩:=Eq.trans rfl rfl
theorem qF0 (d k i:Nat):fA d k i=⟨some d,.fa k (.t i),none⟩:=Eq.trans rfl rfl
theorem qEM (d i:Nat):ldn d i=⟨some d,.ld none (.t i),none⟩:=Eq.trans rfl rfl
theorem qEN (d k i:Nat):lds d k i=⟨some d,.ld (some k) (.t i),none⟩:=Eq.trans rfl rfl
theorem qFo (k i j:Nat):sts k i j=⟨none,.st (some k) (.t i) (.t j),none⟩:=Eq.trans rfl rfl
theorem qFn (i j:Nat):stn i j=⟨none,.st none (.t i) (.t j),none⟩:=Eq.trans rfl rfl
theorem qFs (d i k:Nat):xtt d i k=⟨some d,.ext (.t i) k,none⟩:=Eq.trans rfl rfl
theorem qEP (d i:Nat):nlc d i=⟨some d,.nilc (.t i),none⟩:=Eq.trans rfl rfl
theorem qFr (d k i j:Nat):xlL d k i j=⟨some d,.ixaL k (.t i) (.t j),none⟩:=Eq.trans rfl rfl
theorem qEO (d i:Nat):lnn d i=⟨some d,.len false (.t i),none⟩:=Eq.trans rfl rfl
theorem qF4 (n:Int):kI n=.c (.int .i64 n):=Eq.trans rfl rfl
theorem qF3 (n:Nat):kF n=.c (.fn n [] []):=Eq.trans rfl rfl
theorem qF5:kO=.c (.bool false):=Eq.trans rfl rfl
theorem qF6:kU=.c (.bool true):=Eq.trans rfl rfl
theorem qHx:nL=.lst [] .full:=Eq.trans rfl rfl
theorem qHD:zZ=.int .i64 0:=Eq.trans rfl rfl
theorem qHC:zS=.str []:=Eq.trans rfl rfl
theorem qDN (d i:Nat) (n:Int):eqk d i n=⟨some d,.bin .eql (.t i) (.c (.int .i64 n)),none⟩:=Eq.trans rfl rfl
theorem qDG (d:Nat) (o:BinOp) (i:Nat) (n:Int):bnk d o i n=⟨some d,.bin o (.t i) (.c (.int .i64 n)),none⟩:=Eq.trans rfl rfl
theorem qDH (d:Nat) (o:BinOp) (i j:Nat):bnt d o i j=⟨some d,.bin o (.t i) (.t j),none⟩:=Eq.trans rfl rfl
theorem qFm (d:Nat) (n:Int):sgk d n=⟨some d,.asg (.c (.int .i64 n)),none⟩:=Eq.trans rfl rfl
theorem qFk (d:Nat):sgO d=⟨some d,.asg (.c (.bool false)),none⟩:=Eq.trans rfl rfl
theorem qFl (d:Nat):sgU d=⟨some d,.asg (.c (.bool true)),none⟩:=Eq.trans rfl rfl
theorem qDJ (d f i:Nat):clA d f i=⟨some d,.call (.c (.fn f [] [])) [.t i],none⟩:=Eq.trans rfl rfl
theorem qDK (d f i j:Nat):clB d f i j=⟨some d,.call (.c (.fn f [] [])) [.t i,.t j],none⟩:=Eq.trans rfl rfl
theorem qEV (d i j:Nat):pkO d i j=⟨some d,.pick (.t i) (.t j) (.c (.bool false)),none⟩:=Eq.trans rfl rfl
theorem qEW (d i j:Nat):pkU d i j=⟨some d,.pick (.t i) (.c (.bool true)) (.t j),none⟩:=Eq.trans rfl rfl
theorem qDI (d k i:Nat):bxx d k i=⟨some d,.box k (.t i),none⟩:=Eq.trans rfl rfl
theorem qEQ (d i:Nat):ntt d i=⟨some d,.un .not (.t i),none⟩:=Eq.trans rfl rfl
theorem qDX (d i j:Nat) (b:Bool):gmv d i j b=⟨some d,.mov (.t i),some (j,b)⟩:=Eq.trans rfl rfl
theorem qDT (d k i j:Nat) (b:Bool):gfA d k i j b=⟨some d,.fa k (.t i),some (j,b)⟩:=Eq.trans rfl rfl
theorem qDU (d i j:Nat) (b:Bool):gld d i j b=⟨some d,.ld none (.t i),some (j,b)⟩:=Eq.trans rfl rfl
theorem qDW (d k i j:Nat) (b:Bool):gls d k i j b=⟨some d,.ld (some k) (.t i),some (j,b)⟩:=Eq.trans rfl rfl
theorem qDV (d i j:Nat) (b:Bool):gln d i j b=⟨some d,.len false (.t i),some (j,b)⟩:=Eq.trans rfl rfl
theorem qDR (d:Nat) (o:BinOp) (i:Nat) (n:Int) (j:Nat) (b:Bool):gbk d o i n j b=⟨some d,.bin o (.t i) (.c (.int .i64 n)),some (j,b)⟩:=Eq.trans rfl rfl
theorem qDS (d:Nat) (o:BinOp) (i i2 j:Nat) (b:Bool):gbt d o i i2 j b=⟨some d,.bin o (.t i) (.t i2),some (j,b)⟩:=Eq.trans rfl rfl
theorem qFW (i:Nat) (a b:qK):cT i a b=.cond (.t i) a b:=Eq.trans rfl rfl
theorem qHz (l:List qaw) (c:qK):sR l c=.seq (.reg l) c:=Eq.trans rfl rfl
def sT:=PLift.up (qq (qq (qq (qq (qq (qq (qq (qq @qbx @qfq) (qq @qvy @qoL)) (qq (qq @qrM @qcU) (qq @qFh (qq @qoK @qvo)))) (qq (qq (qq @qvm @qoC) (qq @qyM @qvn)) (qq (qq @qvU @qrB) (qq @qrC (qq @qoM @qmx))))) (qq (qq (qq (qq @qu5 @qra) (qq @qBt @qyy)) (qq (qq @qqU @qqS) (qq @qsO (qq @qpm @qmT)))) (qq (qq (qq @qpk @qpl) (qq @qsK (qq @qvY @qvX))) (qq (qq @qpj @qsM) (qq @qsL (qq @qsN @qtx)))))) (qq (qq (qq (qq (qq @qvs @qsy) (qq @qpL @qo6)) (qq (qq @qoE @qmF) (qq @qrE (qq @qo4 @qwp)))) (qq (qq (qq @qyO @qvK) (qq @qo5 (qq @qtt @qsm))) (qq (qq @qtu @qsp) (qq @qsq (qq @qwq @qvN))))) (qq (qq (qq (qq @qso @qsx) (qq @qsw @qpM)) (qq (qq @qrF @qo7) (qq @qwo (qq @qyN @qvJ)))) (qq (qq (qq @qpK @qo3) (qq @qtv (qq @qsu @qst))) (qq (qq @qss @qsr) (qq @qtw (qq @qvr @qsv))))))) (qq (qq (qq (qq (qq (qq @qvL @qsB) (qq @qvq @qsl)) (qq (qq @qsz @qsn) (qq @qyP (qq @qvM @qpJ)))) (qq (qq (qq @qrD @qo2) (qq @qvp @qsk)) (qq (qq @qsA @qEY) (qq @qCz (qq @qzG @qzF))))) (qq (qq (qq (qq @qCr @qCk) (qq @qtn @qCn)) (qq (qq @qxJ @qCu) (qq @qtm (qq @qxQ @qtl)))) (qq (qq (qq @qCs @qCo) (qq @qER (qq @qxN @qzv))) (qq (qq @qwk @qzw) (qq @qCl (qq @qyp @qxR)))))) (qq (qq (qq (qq (qq @qv9 @qwa) (qq @qCp @qxP)) (qq (qq @qxO @qxM) (qq @qvA (qq @qrK @qxL)))) (qq (qq (qq @qxK @qu7) (qq @qu8 (qq @qCq @qCa))) (qq (qq @qzk @qCt) (qq @qpE (qq @qq2 @qq1))))) (qq (qq (qq (qq @qkt @qwy) (qq @qaC @qat)) (qq (qq @qbi @qup) (qq @qon (qq @qop @qoo)))) (qq (qq (qq @qmd @qmj) (qq @qk3 (qq @qtb @qtc))) (qq (qq @qFZ @qFY) (qq @qFg (qq @qFf @qe4)))))))) (qq (qq (qq (qq (qq (qq (qq @qze @qzf) (qq @qsW @qsV)) (qq (qq @qrA @qrz) (qq @qoz (qq @qru @qrx)))) (qq (qq (qq @qk8 @qrw) (qq @qoB @qrs)) (qq (qq @qry @qvi) (qq @qvj (qq @qoA @qrv))))) (qq (qq (qq (qq @qmt @qrt) (qq @qvf @qyJ)) (qq (qq @qmr @qmq) (qq @qvh (qq @qyI @qms)))) (qq (qq (qq @qrp @qrr) (qq @qoy (qq @qmp @qk6))) (qq (qq @qrq @qyL) (qq @qBy (qq @qvg @qyK)))))) (qq (qq (qq (qq (qq @qBx @qjh) (qq @qaP @qah)) (qq (qq @qzX @qg1) (qq @qY (qq @qd6 @qzW)))) (qq (qq (qq @qrZ @qt8) (qq @qN (qq @qq4 @qq5))) (qq (qq @qq8 @qot) (qq @qq6 (qq @qq7 @qk2))))) (qq (qq (qq (qq @qu3 @qiX) (qq @qmh @qq9)) (qq (qq @qu6 @qsE) (qq @qvT (qq @qsF @qtH)))) (qq (qq (qq @qtI @qz2) (qq @que (qq @qw7 @qxa))) (qq (qq @qug @qw8) (qq @qw9 (qq @qz5 @qpr))))))) (qq (qq (qq (qq (qq (qq @qsZ @qs1) (qq @qs0 @qmV)) (qq (qq @qsY @qs2) (qq @qpp (qq @qez @qw6)))) (qq (qq (qq @qyY @qvB) (qq @qth (qq @qpx @qvW))) (qq (qq @qvV @qvC) (qq @qtJ (qq @qnC @qyf))))) (qq (qq (qq (qq @qyn @qyl) (qq @qyg @qym)) (qq (qq @qyk @qyj) (qq @qyi (qq @qyh @qz6)))) (qq (qq (qq @qz7 @qAa) (qq @qz9 (qq @qz8 @qCU))) (qq (qq @qCV @qpH) (qq @qm3 (qq @qwn @qzA)))))) (qq (qq (qq (qq (qq @qli @qmA) (qq @qsb @qlj)) (qq (qq @qj6 @qmB) (qq @qDZ (qq @qDD @qy7)))) (qq (qq (qq @qBJ @qy5) (qq @qBI (qq @qy4 @qy6))) (qq (qq @qvG @qrX) (qq @qDY (qq @qo0 @qo1))))) (qq (qq (qq (qq @qoZ @qmz) (qq @qy9 @qvO)) (qq (qq @qvu @qvw) (qq @qvv (qq @qrI @qzO)))) (qq (qq (qq @qzP @qwO) (qq @qov (qq @qpB @qpA))) (qq (qq @qpC @qsJ) (qq @qph (qq @qsI @qpg)))))))))
def sC:=PLift.up (qq (qq (qq (qq (qq @List.nil_append.{0} (qq @List.append_nil.{0} @List.map_cons.{0,0})) (qq (qq @List.map_nil.{0,0} @List.length_cons.{0}) (qq @List.length_nil.{0} @List.cons_append.{0}))) (qq (qq (qq (qq (qq (qq (qq (qq (qq (qq (qq (qq (qq (qq (qq (qq (qq (qq (qq (qq (qq (qq (qq (qq (qq (qq (qq (qq (qq (qq (qq (qq (qq (qq (qq (qq (qq (qq (qq (qq (qq @qDs @qHw) @qHA) @qF0) @qEM) @qEN) @qFo) @qFn) @qFs) @qEP) @qFr) @qEO) @qF4) @qF3) @qF5) @qF6) @qHx) @qHD) @qHC) @qDN) @qDG) @qDH) @qFm) @qFk) @qFl) @qDJ) @qDK) @qEV) @qEW) @qDI) @qEQ) @qDX) @qDT) @qDU) @qDW) @qDV) @qDR) @qDS) @qFW) @qHz) (qq @qDq @qDr)) (qq (qq @Option.map_some.{0,0} @ne_eq.{1}) (qq @not_false_eq_true @List.length_set.{0})))) (qq (qq (qq @List.length_replicate.{0} (qq @Bool.or_false @Bool.or_true)) (qq (qq @Bool.false_or @Bool.true_or) (qq @Bool.and_true @Bool.and_false))) (qq (qq (qq @Bool.true_and @Bool.false_and) (qq @Bool.not_true @Bool.not_false)) (qq (qq @eq_self.{1} @List.getElem?_cons_zero.{0}) (qq @List.getElem?_cons_succ.{0} @List.set_cons_zero.{0}))))) (qq (qq (qq (qq @List.set_cons_succ.{0} (qq @List.append_assoc.{0} @List.length_append.{0})) (qq (qq @qud @List.take_zero.{0}) (qq @List.drop_zero.{0} @List.take_succ_cons.{0}))) (qq (qq (qq @List.drop_succ_cons.{0} @List.drop_nil.{0}) (qq @List.take_nil.{0} @List.all_cons.{0})) (qq (qq @List.all_nil.{0} @Option.getD_some.{0}) (qq @Option.getD_none.{0} @and_self)))) (qq (qq (qq @if_true.{1} (qq @if_false.{1} @Nat.le_refl)) (qq (qq @Nat.ble_self_eq_true @Nat.zero_add) (qq @Nat.add_zero @beq_self_eq_true.{0}))) (qq (qq (qq @Bool.false_eq_true @bne_self_eq_false.{0}) (qq @List.isEmpty_nil.{0} @List.isEmpty_cons.{0})) (qq (qq @cond_true.{1} @cond_false.{1}) (qq @List.filterMap_cons.{0,0} @List.filterMap_nil.{0,0}))))))
def sTA:=PLift.up (qq (qq (qq (qq @qzL @qzx) (qq @qnW (qq @qCj @qxf))) (qq (qq @qxg @qya) (qq @quU (qq @qAI @qqN)))) (qq (qq (qq @qAg @qxj) (qq @qul (qq @qp6 @qum))) (qq (qq @quk (qq @qnk @quj)) (qq @qz1 (qq @qww @qzC)))))
def sCA:=PLift.up (qq (qq @List.filter_cons.{0} @List.filter_nil.{0}) (qq @List.find?_cons.{0} @List.find?_nil.{0}))
def qK.noLp:qK->Bool
 | .seq a b=>a.noLp && b.noLp
 | .cond _ a b=>a.noLp && b.noLp
 | .block _ b=>b.noLp
 | .loop _=>false
 | _=>true
def qeT.noLp:qeT->Bool
 | .pre a r=>a.noLp && r.noLp
 | .dfr _ _ _ c=>c.noLp
section
variable {base:Nat} {call:Call}
theorem qfr (n m:Nat):∀(a:qK) (s:St),a.noLp = true->qbL n base call a s = qbL m base call a s
 | .skip,s,_=>rfl
 | .reg _,s,_=>rfl
 | .draw _,s,_=>rfl
 | .draw2 _ _ _ _,s,_=>rfl
 | .exit _,s,_=>rfl
 | .ret,s,_=>rfl
 | .rfun _ _ _ _,s,_=>rfl
 | .loop _,s,h=>by cases h
 | .seq a b,s,h=>by
  simp only [qK.noLp,jk] at h
  simp only [qbL]
  rw [qfr n m a s h.1]
  split
  ·exact qfr n m b _ h.2
  ·rfl
 | .cond c a b,s,h=>by
  simp only [qK.noLp,jk] at h
  simp only [qbL]
  split
  ·exact qfr n m a s h.1
  ·exact qfr n m b s h.2
  ·rfl
 | .block id b,s,h=>by
  simp only [qK.noLp] at h
  simp only [qbL]
  rw [qfr n m b s h]
theorem qrN {n:Nat} {a:qK} {s:St} (h:a.noLp = true):qbL n base call a s = qg base call a s:=by
 apply Option.ext
 intro x
 rw [qay]
 constructor
 ·intro hx
  exact ⟨n,hx⟩
 ·rintro ⟨m,hm⟩
  rw [qfr n m a s h]
  exact hm
def qDg (k:St->Option (Ex×St)):Option (Ex×St)->Option (Ex×St)
 | some (.nor,s)=>k s
 | some (.exit _,_)=>none
 | r=>r
theorem qks (k:St->Option (Ex×St)) (s:St):qDg k (some (.nor,s)) = k s:=rfl
theorem qws (k:St->Option (Ex×St)) (s:St):qDg k (some (.ret,s)) = some (.ret,s):=rfl
def qFP (k:St->Option (Ex×St)):Option (Ex×St)->Option (Ex×St)
 | some (.nor,s)=>k s
 | _=>none
theorem qkj (k:St->Option (Ex×St)) (s:St):qFP k (some (.nor,s)) = k s:=rfl
def qBu (s:St):Option (Ex×St)->Option (Ex×St)
 | some (.nor,s2) | some (.ret,s2)=>some (.ret,{ s with h:=s2.h,e:=s.e || s2.e})
 | _=>none
theorem qk4 (s s2:St):qBu s (some (.nor,s2)) = some (.ret,⟨s.t,s2.h,s.e || s2.e⟩):=rfl
noncomputable def dW (call:Call) (d:qdx) (v:qd) (cv:List qd) (s:St):Option (Ex×St):=
 qBu s (qFP (qg s.h.length call d.code) (qg s.h.length call (.reg d.ops) ⟨up (cv.map qd.dim ++ List.replicate (d.ntmps - cv.length) (.tup [])) d.k v.dim,s.h,false⟩))
theorem qmk {n:Nat} {d:qdx} (hd:d.code.noLp = true) (v:qd) (cv:List qd) (s:St):qfM n call d v cv s = dW call d v cv s:=by
 rw [qfM,dW,qib,qkt]
 cases qbg s.h.length call [] d.ops ⟨up (cv.map qd.dim ++ List.replicate (d.ntmps - cv.length) (.tup [])) d.k v.dim,s.h,false⟩ with
 | none=>rfl
 | some x=>
  obtain ⟨x,s1⟩:=x
  cases x
  case nor=>
   rw [qkj]
   simp only
   rw [qrN hd]
   cases qg s.h.length call d.code s1 with
   | none=>rfl
   | some x=>obtain ⟨x,s2⟩:=x;cases x <;> rfl
  all_goals rfl
noncomputable def qDb (call:Call) (d:qdx) (cv:List qd):Option (Ex×St)->Option (Ex×St)
 | some (.nor,s) | some (.ret,s)=>dW call d .niliface cv s
 | some (.pan v,s)=>dW call d v cv s
 | _=>none
theorem qva (d:qdx) (cv:List qd) (s:St):qDb call d cv (some (.ret,s)) = dW call d .niliface cv s:=rfl
theorem qu9 (d:qdx) (cv:List qd) (v:qd) (s:St):qDb call d cv (some (.pan v,s)) = dW call d v cv s:=rfl
def fnW (f:FuncId) (k:List qd->Option (Ex×St)):qd->Option (Ex×St)
 | .fn g [] cv=>if g = f then k cv else none
 | _=>none
theorem qrU (f:FuncId) (k:List qd->Option (Ex×St)) (cv:List qd):fnW f k (.fn f [] cv) = k cv:=if_pos rfl
noncomputable def gW (base:Nat) (call:Call) (d:qdx):qeT->St->Option (Ex×St)
 | .pre a r,s=>qDg (gW base call d r) (qg base call a s)
 | .dfr f E slot rest,s=>
  fnW f (λcv=>qDb call d cv (qg base call rest ⟨up s.t slot (.fn f [] (E.map (ev s.t))),s.h,s.e⟩)) (ev (up s.t slot (.fn f [] (E.map (ev s.t)))) (.t slot))
theorem qrW (d:qdx) (f:FuncId) (E:List qP) (slot:Nat) (rest:qK) (s:St):gW base call d (.dfr f E slot rest) s = fnW f (λcv=>qDb call d cv (qg base call rest ⟨up s.t slot (.fn f [] (E.map (ev s.t))),s.h,s.e⟩)) (ev (up s.t slot (.fn f [] (E.map (ev s.t)))) (.t slot)):=rfl
theorem qnK (d:qdx) (a:qK) (r:qeT) (s:St):gW base call d (.pre a r) s = qDg (gW base call d r) (qg base call a s):=rfl
theorem qr0 {n:Nat} {d:qdx} (hd:d.code.noLp = true):∀(b:qeT) (s:St),b.noLp = true->qed n base call d b s = gW base call d b s
 | .pre a r,s,h=>by
  simp only [qeT.noLp,jk] at h
  rw [qed,qnK,qrN h.1]
  cases qg base call a s with
  | none=>rfl
  | some x=>
   obtain ⟨x,s1⟩:=x
   cases x
   case nor=>exact qr0 hd r s1 h.2
   all_goals rfl
 | .dfr f E slot rest,s,h=>by
  simp only [qeT.noLp] at h
  rw [qed,qrW,qkt]
  generalize ev (up s.t slot (.fn f [] (E.map (ev s.t)))) (.t slot) = w
  cases w
  case fn g first cv=>
   cases first with
   | cons _ _=>rfl
   | nil=>
    by_cases hg:g = f
    ·subst hg
     rw [qrU]
     simp only [if_true]
     rw [qrN h]
     generalize qg base call rest _ = x
     cases x with
     | none=>rfl
     | some x=>
      obtain ⟨x,s1⟩:=x
      cases x
      case nor=>exact qmk hd _ _ _
      case ret=>exact qmk hd _ _ _
      case pan v=>exact qmk hd _ _ _
      all_goals rfl
    ·simp only [fnW,if_neg hg]
  all_goals rfl
def qFp (ty:TypeId) (zero:qd):qd->Option qd
 | .niliface=>some (.tup [zero,.bool false])
 | .iface u v=>if u = ty then some (.tup [v,.bool true]) else some (.tup [zero,.bool false])
 | _=>none
theorem qxS {p:qdU} (d:Option Nat) (ty:TypeId) (z:qd) (x:qP) (s:St):qJ base call p d (.tas ty z x) s = qhL d s (qFp ty z (ev s.t x)):=by
 rw [qbI _ _ rfl (by simp) (by simp) (by simp)]
 simp only [pureV]
 cases ev s.t x <;> rfl
theorem qxl (ty:TypeId) (z:qd):qFp ty z .niliface = some (.tup [z,.bool false]):=rfl
theorem qxk (ty:TypeId) (z v:qd):qFp ty z (.iface ty v) = some (.tup [v,.bool true]):=if_pos rfl
def qAn (d:Nat):Option qd->Option Nat
 | none=>some d
 | some (.int _ n)=>if 0 <= n then some n.toNat else none
 | some _=>none
def qlX (x:qd) (lo hi:Option qd):Option qd:=
 match x with
 | .str s=>match qAn s.length hi with
  | some h=>match qAn 0 lo with
   | some l=>if l <= h/\h <= s.length then some (.str ((s.drop l).take (h - l))) else none
   | none=>none
  | none=>none
 | _=>none
theorem qnv (t:List qd) (o:Option qP) (d:Nat):bound t o d = qAn d (o.map (ev t)):=by
 cases o with
 | none=>rfl
 | some o=>simp only [bound,jJ];cases ev t o <;> rfl
theorem qcu {p:qdU} (d:Option Nat) (x:qP) (lo hi:Option qP) (s:St):qJ base call p d (.subS x lo hi) s = qhL d s (qlX (ev s.t x) (lo.map (ev s.t)) (hi.map (ev s.t))):=by
 rw [qbI _ _ rfl (by simp) (by simp) (by simp)]
 simp only [pureV,qnv]
 cases ev s.t x <;> rfl
theorem qtG (t:List qd) (x:qP) (lo hi:Option qP):pureV t (.subS x lo hi) = qlX (ev t x) (lo.map (ev t)) (hi.map (ev t)):=by
 simp only [pureV,qnv]
 cases ev t x <;> rfl
theorem qiM {s:List UInt8} {n:Nat} (hn:n <= s.length):qlX (.str s) (some (.int .i64 (n:Nat))) none = some (.str (s.drop n)):=by
 have:(0:Int) <= (n:Int):=zo
 simp only [qlX,qAn,this,if_true,Int.toNat_natCast,hn,jm,and_self]
 rw [List.take_of_length_le (by rw [List.length_drop];exact jm _)]
theorem qAc {s:List UInt8} {m:Nat} (hm:m <= s.length):qlX (.str s) none (some (.int .i64 (m:Nat))) = some (.str (s.take m)):=by
 have h2:(0:Int) <= (m:Int):=zo
 simp only [qlX,qAn,h2,if_true,Int.toNat_natCast,hm,Nat.zero_le,and_self,List.drop_zero,Nat.sub_zero]
theorem qcM {s:List UInt8} {n m:Nat} (hn:n <= m) (hm:m <= s.length):qlX (.str s) (some (.int .i64 (n:Nat))) (some (.int .i64 (m:Nat))) = some (.str ((s.drop n).take (m - n))):=by
 have h1:(0:Int) <= (n:Int):=zo
 have h2:(0:Int) <= (m:Int):=zo
 simp only [qlX,qAn,h1,h2,if_true,Int.toNat_natCast,hn,hm,and_self]
theorem qy0 {n:Nat} {g:qjO} (hd:g.d.code.noLp = true) (hb:g.body.noLp = true) (aS:List qd) (h:List qk):qf8 n g call aS h = qbS g.results h (gW h.length call g.d g.body ⟨aS.map qd.dim ++ List.replicate (g.ntmps - aS.length) (.tup []),h,false⟩):=by
 rw [qf8,qr0 hd _ _ hb]
 generalize gW h.length call g.d g.body _ = r
 cases r with
 | none=>rfl
 | some x=>
  obtain ⟨x,s⟩:=x
  cases x <;> first | rfl | (simp only [qbS,qyR];cases qaZ s g.results <;> rfl)
end
section
variable {base:Nat} {call:Call} {p:qdU} {s:St} {t:List qd} {h:List qk}
def hxW (d:Option Nat) (s:St):Option (qd×List qk×Bool)->Option (Ex×St)
 | some (v,h,e)=>some (.nor,{ t:=put d v.dim s.t,h,e:=s.e || e})
 | none=>none
theorem qaL (d:Option Nat) (t:List qd) (h h':List qk) (e e':Bool) (v:qd):hxW d ⟨t,h,e⟩ (some (v,h',e')) = some (.nor,⟨put d v.dim t,h',e || e'⟩):=rfl
theorem qdb (d:Option Nat) (o:HOp) (aS:List qP):qJ base call p d (.hx o aS) s = hxW d s (hop base o (aS.map (ev s.t)) s.h):=by
 simp only [qJ]
 cases hop base o (aS.map (ev s.t)) s.h with
 | none=>rfl
 | some r=>rfl
theorem qdA (o:HOp) (aS:List qP):(AOp.hx o aS).effs = true:=Eq.trans rfl rfl
theorem qaI (o:HOp) (aS:List qP):(AOp.hx o aS).isApp = false:=Eq.trans rfl rfl
theorem qbs (id o len cap more:Nat):(qd.sl id o len cap more).dim = .sl id o len cap more:=rfl
theorem qaX (id o len cap more i:Nat) (t:List qd):qcy (.sl id o len cap more) i t = t:=rfl
theorem qa7 (id o len cap more:Nat):(qd.sl id o len cap more).storable = true:=Eq.trans rfl rfl
theorem qb5 (id o len cap more:Nat):(qd.sl id o len cap more).cells = [.sl id o len cap more]:=rfl
end
section
variable {base:Nat} {call:Call} {dsts:List Nat} {s:St} {pend:List (Nat×Chk)}
theorem qBp {d:Option Nat} {o:AOp} {ix cl j:Nat} {b:Bool} {ds:List qX} (h:lkp s.t j = .bool b):qS base call dsts (⟨⟨d,o,some (j,b)⟩,ix,cl⟩ :: ds) pend s = qS base call dsts (⟨⟨d,o,none⟩,ix,cl⟩ :: ds) pend s:=by
 have e:s.t.getD j .undef = .bool b:=h
 simp only [qS,wanted,e,beq_self_eq_true]
theorem qxz {d:Option Nat} {o:AOp} {ix cl j:Nat} {b c:Bool} {ds:List qX} (h:lkp s.t j = .bool c) (hc:(c == b) = false):qS base call dsts (⟨⟨d,o,some (j,b)⟩,ix,cl⟩ :: ds) pend s = qS base call dsts ds pend { s with t:=put d (.tup []) s.t}:=by
 have e:s.t.getD j .undef = .bool c:=h
 simp only [qS,wanted,e,hc]
theorem qyt {d:Option Nat} {o:AOp} {ix cl j:Nat} {ds:List qX} (h:lkp s.t j = .bool false):qS base call dsts (⟨⟨d,o,some (j,true)⟩,ix,cl⟩ :: ds) pend s = qS base call dsts ds pend { s with t:=put d (.tup []) s.t}:=qxz h rfl
theorem qys {d:Option Nat} {o:AOp} {ix cl j:Nat} {ds:List qX} (h:lkp s.t j = .bool true):qS base call dsts (⟨⟨d,o,some (j,false)⟩,ix,cl⟩ :: ds) pend s = qS base call dsts ds pend { s with t:=put d (.tup []) s.t}:=qxz h rfl
theorem qyu {d:Option Nat} {o:AOp} {ix cl j:Nat} {b:Bool} {ds:List qX} (h:lkp s.t j = .tup []):qS base call dsts (⟨⟨d,o,some (j,b)⟩,ix,cl⟩ :: ds) pend s = qS base call dsts ds pend { s with t:=put d (.tup []) s.t}:=by
 have e:s.t.getD j .undef = .tup []:=h
 simp only [qS,wanted,e]
end
def sB:=PLift.up (qq sT.1 (qq sC.1 (qq (qq (qq (qq @qmY.eq_1 @qmY.eq_2) (qq @qc9.eq_1 (qq @qc9.eq_2 @qc9.eq_3))) (qq (qq @qc9.eq_4 (qq @qc9.eq_5 @qc9.eq_6)) (qq @qc9.eq_7 (qq @qc9.eq_8 @qc9.eq_9)))) (qq (qq (qq @qc9.eq_10 (qq @qc9.eq_11 @qc9.eq_12)) (qq @qc9.eq_13 (qq @qc9.eq_14 @qc9.eq_15))) (qq (qq @qc9.eq_16 (qq @qc9.eq_17 @qc9.eq_18)) (qq @qc9.eq_19 (qq @qc9.eq_20 @Nat.testBit.eq_1)))))))
def sA:=PLift.up (qq sB.1 (qq sTA.1 (qq sCA.1 (qq (qq (qq (qq @qwu.eq_1 @qwu.eq_2) (qq @qwv.eq_1 @qwv.eq_2)) (qq (qq @Src.isTmp.eq_1 @Src.isTmp.eq_2) (qq @qjA.eq_1 @qjA.eq_2))) (qq (qq (qq @qjA.eq_3 @Src.hangs.eq_1) (qq @Src.hangs.eq_2 @qP.isT.eq_1)) (qq (qq @qP.isT.eq_2 @qw5.eq_1) (qq @bne.eq_1.{0} (qq @qr.eq_1 @qr.eq_2))))))))
theorem zk {p:Prop} (h:p := by kernel_rfl):p:=h
theorem Y0 {p:Prop} (h:p := by simp only [qe4,ht]):p:=h
theorem Y1 {p:Prop} (h:p := by simp only [sB.1,seval]):p:=h
theorem Y2 {p:Prop} (h:p := by simp only [sB.1,seval,e2]):p:=h
theorem Y3 {p:Prop} (h:p := by simp only [sB.1,seval,e0]):p:=h
theorem Y4 {p:Prop} (h:p := by simp only [sB.1,seval,ht]):p:=h
theorem y5 {p:Prop} (h:p := by simp only [sB.1,seval,e8]):p:=h
theorem v6 {p:Prop} (h:p := by simp only [sB.1,seval,e6]):p:=h
theorem y7 {p:Prop} (h:p := by simp only [sB.1,seval,e3]):p:=h
theorem z8 {p:Prop} (h:p := by simp only [sB.1,seval,e9]):p:=h
theorem y9 {p:Prop} (h:p := by simp only [sB.1,seval,e4]):p:=h
theorem z10 {p:Prop} (h:p := by simp only [sB.1,seval,Int.natCast_zero]):p:=h
theorem y11 {p:Prop} (h:p := by simp only [sB.1,seval,e1]):p:=h
theorem z12 {p:Prop} (h:p := by simp only [sB.1,seval,e10]):p:=h
theorem z13 {p:Prop} (h:p := by simp only [sB.1,seval,ht,Int.natCast_zero]):p:=h
theorem z14 {p:Prop} (h:p := by simp only [sB.1,seval,e11]):p:=h
end Go.AE
