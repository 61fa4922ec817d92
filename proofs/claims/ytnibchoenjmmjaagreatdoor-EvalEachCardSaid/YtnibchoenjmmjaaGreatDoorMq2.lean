/- A part of the proof: the abstract executor and what goes through it (part 2). No condition. -/
import Derived.Test.YtnibchoenjmmjaaGreatDoorMq1
import Derived.OpenShut
import Derived.LaidLaws
import Derived.ChangeArms
import Derived.Lib.AtoiAll
import Derived.Lib.Bytealg
import Derived.Laws.Externs
import Derived.Test.YtnibchoenjmmjaaGreatDoorMq0
import Derived.WideKeyArgs
set_option maxRecDepth 100000
namespace Go.AE
section
variable {P:Program} {gl:Nat→Option (List qa)}
theorem qd7 {G' G0:qd} {w0:World} {h:List qb} {t:List qa} {n:Nat} {fn:Func} {ts:Array Value} {R:Ending→World→Prop} {F:Fence} {m:Nat} {u:FrameMode} (hu:u ≠ .run) {fx:List Deferred}:∀(ds:List Deferred) (w':World),
  qf8 G' w' w0.heap.size ds→Ext n G0 w0 G' w'→Rel P gl G' h w'→qap G' w' t ts→(∀w'',Ext n G0 w0 G' w''→Rel P gl G' h w''→qap G' w'' t ts→LeavesInM F m P fn ts R fx u w'')→LeavesInM F m P fn ts R (ds ++ fx) u w'
 | [],w',_,he,hr,ht,hR=>hR w' he hr ht
 | d :: ds,w',hm,he,hr,ht,hR=>by
  obtain ⟨r,rfl,h1,h2,h3⟩:=hm.all d (List.mem_cons_self ..)
  refine ⟨hu,.inl ⟨r,w'.putObj r (.deferred none),rfl,run_takeDeferred h2,?_⟩⟩
  have hnd:=List.nodup_cons.1 hm.nodup
  refine qd7 hu ds _ ⟨hnd.2,fun d hd=>?_⟩ (he.putFar h1 _) (hr.putFar h3 fun k=>by simp [World.cell?,h2]) (ht.putFar h3) hR
  obtain ⟨r',g1,g2,g3,g4⟩:=hm.all d (List.mem_cons_of_mem _ hd)
  refine ⟨r',g1,g2,?_,g4⟩
  rw [World.putObj_heap_other]
  ·exact g3
  ·rintro rfl
   rw [g1] at hd
   exact hnd.1 hd
theorem qjc (hmx:P.follows .mixedOrders = true) {call:AE.Call} (hcall:qbw P gl call) (hk:qM call) {df pf:Func} {d:qdN} (hd:qAY P gl df d) {N base n0 m:Nat} {G0:qd} {w0:World} {R:Ending→World→Prop} {x:Ex} {s':St} :
  ∀ (gb : qf7) (c : Code), qnE P gl c = some gb → P.funcs[gb.fid]? = some df → (df.name == "runtime.NumGoroutine") = false → ∀ (G : qd) (w : World) (s : St) (a : Act), Cfg P gl G s.h s.t a w → base ≤ s.h.length → a.defers = [] → w0.heap.size ≤ w.heap.size → n0 ≤ s.h.length → Ext n0 G0 w0 G w →
   qcR N base call d gb s = some (x,s')→
   (∀G' w' a',(x = .nor∨x = .ret)→Ext n0 G0 w0 G' w'→Cfg P gl G' s'.h s'.t a' w'→LeavesIn (FR none) m P pf a'.tmps R [] .returning w')→
   (∀pv v G' w' a',x = .pan pv→Ext n0 G0 w0 G' w'→Cfg P gl G' s'.h s'.t a' w'→G'.V pv v→R (.panicked [{ v,recovered:=false}]) w')→
   c.wpIn (FR none) m P (bodyPostM (FR none) m P pf R) a w:=by
 intro gb
 induction gb with
 | pre ac r ih=>
  intro c hcomp hf hname G w s a hc hb hdf hlo hn he hrun hret hpan
  cases c <;> simp only [qnE,reduceCtorEq] at hcomp
  rename_i a1 b1
  split at hcomp
  ·rename_i f caps t hdc
   obtain ⟨z,_,hz⟩:=qbB hcomp
   cases hz
  ·split at hcomp
   ·rename_i x1 r1 hx1 hr1
    split at hcomp
    ·rename_i hrf
     cases hcomp
     have hW:=fun x2 s2 hx2=>qbL hmx hcall hk (N:=N) (base:=base) (lo:=w0.heap.size) (rf:=true) (fx:=[]) (ro:=none) (m:=m) a1 ac hx1 (fun _=>hrf) G w s a x2 s2 hc hb (fun _ hq=>by cases hq)
      ⟨[],by rw [hdf];rfl,⟨List.nodup_nil,fun _ h=>by cases h⟩,fun _=>rfl⟩ hlo hx2
     simp only [qcR] at hrun
     split at hrun
     ·rename_i s1 hs1
      have hkeep:=(qI (base:=base) hk N ac s s1 _ hb hs1).1
      refine wpIn_seq (wpIn_mono (hW _ s1 hs1) fun e a' w' hfin=>?_)
      obtain ⟨G',g1,⟨ms,hms,_,hms0⟩,rfl,g4⟩:=hfin
      have hd0:a'.defers = []:=by rw [hms,hms0 rfl];rfl
      exact ih b1 hr1 hf hname G' w' s1 a' g4 (Nat.le_trans hb hkeep) hd0 (Nat.le_trans hlo g1.size) (Nat.le_trans hn hkeep) (he.trans hn g1) hrun hret hpan
     ·cases hrun
     ·rename_i r2 h1 h2
      refine wpIn_seq (wpIn_mono (hW x s' hrun) fun e a' w' hfin=>?_)
      obtain ⟨G',g1,⟨ms,hms,_,hms0⟩,g3⟩:=hfin
      have hd0:a'.defers = []:=by rw [hms,hms0 rfl];rfl
      cases x with
      | nor=>exact absurd hrun (h1 s')
      | exit id=>exact absurd hrun (h2 id s')
      | ret=>
       obtain ⟨rfl,g3⟩:=g3
       show LeavesInM _ _ _ _ _ _ _ _ _
       rw [hd0]
       exact hret G' w' a' (.inr rfl) (he.trans hn g1) g3
      | pan pv=>
       obtain ⟨v,rfl,g3,g4⟩:=g3
       show LeavesInM _ _ _ _ _ _ _ _ _
       rw [hd0]
       exact hpan pv v G' w' a' rfl (he.trans hn g1) g3 g4
    ·cases hcomp
   ·cases hcomp
 | dfr f caps slot rest=>
  intro c hcomp hf hname G w s a hc hb hdf hlo hn he hrun hret hpan
  change P.funcs[f]? = some df at hf
  cases c <;> simp only [qnE,reduceCtorEq] at hcomp
  rename_i a1 b1
  split at hcomp
  ·rename_i f' caps' t hdc
   obtain ⟨z,hz,hze⟩:=qbB hcomp
   cases hze
   obtain ⟨id,ops,o0,o1,a0,cs,cl,rfl,rfl,k1,rfl,k3,k4,k5,k6,k7,k8,k9,k10⟩:=qv0 hdc
   refine wpIn_seq (wpIn_region ?_)
   have hrange:List.range (#[o0,o1]:Array Oper).size = [0,1]:=rfl
   rw [hrange]
   simp only [wpOpsIn,List.getElem?_toArray,List.getElem?_cons_zero,List.getElem?_cons_succ]
   rw [if_pos (by simp [Region.wanted,k4])]
   have hcomp0:qbF P gl o0 = some (.mkF f [] caps):=by
    simp only [qbF,qeN,qdA,k1,k10]
    rfl
   have hrun0:qu base call [] o0.dst (.mkF f [] caps) s = some (.nor,{ s with t:=put (some slot) (.fn f [] (caps.map (ev s.t))) s.t}):=by
    simp [qu,pureV,k3]
   refine qec hcall hk hc qaS.nil hcomp0 hrun0 (fun _ u1 w1 G1 e1 c1 _ _ _=>?_) (fun pv h=>by cases h)
   rw [k3] at c1 ⊢
   rw [if_pos (by simp [Region.wanted,k9])]
   simp only [qcR] at hrun
   split at hrun
   ·rename_i g cv hev
    split at hrun
    ·rename_i hgf
     subst hgf
     have hv:=qR c1.rel c1.tr (x:=.tmp slot) (ax:=.t slot) rfl
     rw [hev] at hv
     simp only [qd.V,qA,qg] at hv
     obtain ⟨x0,y0,hval,hx0,hy0⟩:=hv
     have hx0':x0 = #[]:=by apply Array.ext';simpa using hx0
     subst hx0'
     let dd:Deferred:={ target:=.fn (.func g) y0,args:=#[]}
     refine ⟨fun _ _=>trivial,?_⟩
     have hsem:(o1.semAt (FR none).round (a.put (some slot) u1).eval).run P w1 = .ok (.defer dd) w1:=by
      show (Oper.semAt none _ _).run P w1 = _
      rw [Oper.semAt_none]
      simp only [execOp,k5,resolve,k6,k7,hval]
      simp [Deferred.ofValue,Sem.run_bind,Result.andThen,dd]
     rw [hsem,Oper.uponIn_defer,k8]
     show (Code.wpIn (FR none) m P b1 (bodyPostM (FR none) m P pf R)) { tmps:=(a.put (some slot) u1).tmps,defers:=dd :: a.defers} w1
     rw [hdf]
     have hlen1:n0 ≤ ({ s with t:=put (some slot) (.fn g [] (caps.map (ev s.t))) s.t}:St).h.length:=hn
     have he1:Ext n0 G0 w0 G1 w1:=he.trans hn e1
     have c2:Cfg P gl G1 s.h (put (some slot) (.fn g [] (caps.map (ev s.t))) s.t) { tmps:=(a.put (some slot) u1).tmps,defers:=[] ++ [dd]} w1:=⟨c1.rel,c1.tr⟩
     have hW:=fun x2 s2 hx2=>qbL hmx hcall hk (N:=N) (base:=base) (lo:=w0.heap.size) (rf:=false) (fx:=[dd]) (ro:=none) (m:=m) b1 rest hz (fun h=>by cases h) G1 w1 { s with t:=put (some slot) (.fn g [] (caps.map (ev s.t))) s.t}
      { tmps:=(a.put (some slot) u1).tmps,defers:=[] ++ [dd]} x2 s2 c2 hb (fun _ hq=>by cases hq) ⟨[],rfl,⟨List.nodup_nil,fun _ h=>by cases h⟩,fun h=>by cases h⟩ he1.size hx2
     have tail:∀(s2:St) (v:qa) (u:FrameMode) (G2:qd) (w2:World) (a2:Act),s.h.length ≤ s2.h.length→Ext s.h.length G1 w1 G2 w2→qdm G2 w2 w0.heap.size false [dd] a2.defers→Cfg P gl G2 s2.h s2.t a2 w2→u ≠ .run→qDr G2 u v→
       qdX N call d v cv s2 = some (x,s')→LeavesInM (FR none) m P pf a2.tmps R a2.defers u w2:=by
      intro s2 v u G2 w2 a2 hkeep he2 hmk c3 hur hmode hdx
      obtain ⟨ms,hms,hmk,_⟩:=hmk
      rw [hms]
      refine qd7 (G0:=G0) (w0:=w0) (n:=n0) hur ms w2 hmk (he1.trans hn he2) c3.rel c3.tr fun w3 q1 q2 q3=>?_
      have hcv:G2.VL cv y0.toList:=he2.VL hy0
      refine ⟨hur,.inr ⟨qe4,.func g,y0,g,y0,rfl,?_,fun _ _=>trivial,?_⟩⟩
      ·simp only [dd,invoke]
       have:=hd.ex
       obtain ⟨id',ops',o0',os',c',hbody',_⟩:=this
       have:=qaD (vs:=#[] ++ y0) (w:=w3) hf hname hbody'
       simpa using this
      ·have c4:Cfg P gl G2 s2.h s2.t { a2 with defers:=[]} w3:=⟨q2,q3⟩
       refine (qfp hmx hcall hk hf hd hdx c4 hcv hmode fun r u' G3 w4 r1 r2 r3=>?_).2.2
       obtain ⟨hxr,hst,_⟩:=qfp (m:=m) (R:=fun _ _ _=>True) hmx hcall hk hf hd hdx c4 hcv hmode fun _ _ _ _ _ _ _=>trivial
       show LeavesInM _ _ _ _ _ _ _ _ _
       rw [r1]
       exact hret G3 w4 { a2 with defers:=[]} (.inr hxr) (q1.trans (Nat.le_trans hn hkeep) r2) r3
     split at hrun
     ·rename_i s2 hx2
      have hkeep:=(qI (base:=base) hk N rest { s with t:=put (some slot) (.fn g [] (caps.map (ev s.t))) s.t} s2 _ hb hx2).1
      refine wpIn_mono (hW _ s2 hx2) fun e a2 w2 hfin=>?_
      obtain ⟨G2,g1,g2,rfl,g3⟩:=hfin
      exact tail s2 _ .returning G2 w2 a2 hkeep g1 g2 g3 (by simp) (.inl ⟨rfl,rfl⟩) hrun
     ·rename_i s2 hx2
      have hkeep:=(qI (base:=base) hk N rest { s with t:=put (some slot) (.fn g [] (caps.map (ev s.t))) s.t} s2 _ hb hx2).1
      refine wpIn_mono (hW _ s2 hx2) fun e a2 w2 hfin=>?_
      obtain ⟨G2,g1,g2,rfl,g3⟩:=hfin
      exact tail s2 _ .returning G2 w2 a2 hkeep g1 g2 g3 (by simp) (.inl ⟨rfl,rfl⟩) hrun
     ·rename_i v s2 hx2
      have hkeep:=(qI (base:=base) hk N rest { s with t:=put (some slot) (.fn g [] (caps.map (ev s.t))) s.t} s2 _ hb hx2).1
      refine wpIn_mono (hW _ s2 hx2) fun e a2 w2 hfin=>?_
      obtain ⟨G2,g1,g2,vv,rfl,g3,g4⟩:=hfin
      exact tail s2 v (.panicking [{ v:=vv,recovered:=false}]) G2 w2 a2 hkeep g1 g2 g3 (by simp) (.inr ⟨vv,rfl,g4⟩) hrun
     ·cases hrun
    ·cases hrun
   ·cases hrun
  ·split at hcomp
   ·split at hcomp
    ·cases hcomp
    ·cases hcomp
   ·cases hcomp
theorem qkp (hmx : P.follows .mixedOrders = true) {f : FuncId} {pf df : Func} {g : qiL} (hf : P.funcs[f]? = some pf) (hname : (pf.name == "runtime.NumGoroutine") = false) (hcomp : qfn P gl pf df = some g) (hdf : P.funcs[g.body.fid]? = some df)
  (hdname : (df.name == "runtime.NumGoroutine") = false) (N : Nat) : qf6 P gl f (qe1 N g) := by
 intro call hcall hk aS h r h' e' hrun G w vs hr hn hall
 unfold qfn at hcomp
 split at hcomp
 ·rename_i c hbody
  split at hcomp
  ·rename_i b rs d hb hrs hd
   cases hcomp
   simp only at hdf
   refine .inl ⟨qaD hf hname hbody vs w,fun ro m=>qgI (m:=m) ?_⟩
   have hsize:vs.size = aS.length:=by have:=hall.length;simp at this ⊢;omega
   have hc0:Cfg P gl G h (aS.map qa.dim ++ List.replicate (pf.ntmps - aS.length) (.tup [])) { tmps:=vs ++ Array.replicate (pf.ntmps - vs.size) undef,defers:=[]} w:=by
    refine ⟨hr,qap.start ?_ fun z hz=>?_⟩
    ·simp only [Array.toList_append,Array.toList_replicate]
     refine qg.append hall.dims ?_
     rw [hsize]
     exact qg.replicate _ (by simp [qA,qg,undef])
    ·rcases List.mem_append.1 hz with hz | hz
     ·obtain ⟨q,_,rfl⟩:=List.mem_map.1 hz;exact qa2 q
     ·rw [(List.mem_replicate.1 hz).2];rfl
   refine callsIn_of_wp_marks (F:=FR none) hf hbody trivial ?_ rfl
   simp only [qe1] at hrun
   have main:∀x s,qcR N h.length call d b ⟨aS.map qa.dim ++ List.replicate (pf.ntmps - aS.length) (.tup []),h,false⟩ = some (x,s)→
     ((x = .nor∨x = .ret)→∃vs',qah s rs = some vs'∧qat h.length (.ret (qbi vs')) s.h s.e = (r,h',e'))→(∀pv,x = .pan pv→qat h.length (.pan pv) s.h s.e = (r,h',e'))→
     c.wpIn (FR none) m P (bodyPostM (FR none) m P pf (qm1 P gl h.length G w r h')) { tmps:=vs ++ Array.replicate (pf.ntmps - vs.size) undef,defers:=[]} w:=by
    intro x s hx h1 h2
    have k:=qbP (base:=h.length) hk b ⟨_,h,false⟩ s _ (Nat.le_refl _) hx
    refine qjc hmx hcall hk (qnD hd) (n0:=h.length) (G0:=G) (w0:=w) b c hb hdf hdname G w ⟨_,h,false⟩ _ hc0 (Nat.le_refl _) rfl (Nat.le_refl _) (Nat.le_refl _) (Ext.refl _ G w) hx (fun G' w' a' hxx g1 g2=>?_) (fun pv v G' w' a' hxx g1 g2 g3=>?_)
    ·obtain ⟨vs',hres,hlv⟩:=h1 hxx
     obtain ⟨u,r1,r2⟩:=qee g2 hrs hres
     obtain ⟨rfl,G'',y1,y2,y3,y4⟩:=qck hr g1 g2.rel ⟨k.1,fun he=>(k.2 he).2⟩ hlv
     exact ⟨u,r1,_,G'',rfl,y1,y2,y3,y4 _ u (.inl rfl) r2⟩
    ·obtain ⟨rfl,G'',y1,y2,y3,y4⟩:=qck hr g1 g2.rel ⟨k.1,fun he=>(k.2 he).2⟩ (h2 pv hxx)
     exact ⟨pv,v,G'',rfl,rfl,y1,y2,y3,y4 _ v (.inr rfl) g3⟩
   split at hrun
   ·rename_i s hx
    split at hrun
    ·rename_i vs' hres
     exact main _ s hx (fun _=>⟨vs',hres,Option.some.inj hrun⟩) (fun _ h=>by cases h)
    ·cases hrun
   ·rename_i s hx
    split at hrun
    ·rename_i vs' hres
     exact main _ s hx (fun _=>⟨vs',hres,Option.some.inj hrun⟩) (fun _ h=>by cases h)
    ·cases hrun
   ·rename_i v s hx
    exact main _ s hx (fun h=>by rcases h with h | h <;> cases h) (fun pv h=>by cases h;exact Option.some.inj hrun)
   ·cases hrun
  ·cases hcomp
 ·cases hcomp
end
section
variable {P:Program} {gl:Nat→Option (List qa)}
noncomputable def qd.start (gl:Nat→Option (List qa)) (W:World):qd:={ γ:=fun _=>none,imm:=fun b o=>if (gl b).isSome then qk7 (W.cell? ⟨b,o,none⟩) else none,ow:=fun _=>none}
def qA1 (gl:Nat→Option (List qa)) (W:World):Prop:=∀g cs,gl g = some cs→qv 0 cs = true∧∃vs:List Value,qg (fun _=>none) (fun _ _=>none) cs vs∧∀(j:Nat) (v:Value),vs[j]? = some v→W.cell? ⟨g,j,none⟩ = some v
def qyB {H:Type}:DataW H→Option qa
 | .lit (.int k z)=>some (.int k z)
 | .lit (.string s)=>some (.str s)
 | .lit (.bool b)=>some (.bool b)
 | _=>none
theorem qtD {H:Type} {enc:TypeId×Value→H} {w:World} {base:Nat} {sp:Nat→Bool} {held:Bool} {fuel:Nat} {e:TypeId} {cs:List Value} {x:DataW H×List MemPlace} {a:qa}
  (he:(∃k,P.underlying e = some (.int k))∨P.underlying e = some .string) (h:DataW.trod enc P w base sp held fuel e cs = some x) (ha:qyB x.1 = some a):∃v,cs = [v]∧qA (fun _=>none) (fun _ _=>none) a v:=by
 rcases he with ⟨k,he⟩ | he
 ·obtain ⟨n,rfl,rfl,_⟩:=DataW.trod_int he h
  simp only [qyB,Option.some.injEq] at ha
  subst ha
  exact ⟨_,rfl,by simp [qA]⟩
 ·obtain ⟨s,rfl,rfl,_⟩:=DataW.trod_string he h
  simp only [qyB,Option.some.injEq] at ha
  subst ha
  exact ⟨_,rfl,by simp only [qA];exact ⟨s,rfl,rfl⟩⟩
theorem qcl {laid:List (String×DataW Unit)} {W:World} (hL:laidMet P laid W) {name:String} {ds:List (DataW Unit)} (hm:(name,DataW.agg ds) ∈ laid) {g:Nat} (hg:P.globalNamed name = some g) {t e:TypeId} {n:Nat} (ht:(P.globals[g]?).map (·.type) = some t)
  (hu:P.underlying t = some (.array n e)) (he:(∃k,P.underlying e = some (.int k))∨P.underlying e = some .string) (hc:P.cellsOf e = 1) {aS:List qa} (has:ds.mapM qyB = some aS) :
  qv 0 aS = true∧∃vs:List Value,qg (fun _=>none) (fun _ _=>none) aS vs∧∀(j:Nat) (v:Value),vs[j]? = some v→W.cell? ⟨g,j,none⟩ = some v:=by
 obtain ⟨ps,hv,hrest⟩:=hL
 clear hrest
 induction laid generalizing ps with
 | nil=>cases hm
 | cons x laid ih=>
  obtain ⟨nx,dx⟩:=x
  obtain ⟨g',t',cs,fuel,p,q,hg',ht',hvar,hd,hq,_⟩:=hv
  rcases List.mem_cons.1 hm with hm | hm
  ·cases hm
   obtain rfl:=Option.some.inj (hg.symm.trans hg')
   obtain rfl:=Option.some.inj (ht.symm.trans ht')
   obtain ⟨xs,m,_,hx,_,hxl,hel⟩:=DataW.trod_array hu hd
   have hds:xs.map (·.1) = ds:=(DataW.agg.inj (Prod.mk.inj hx).1).symm
   have key:∀(i:Nat) (a:qa),aS[i]? = some a→∃v,cs[i]? = some v∧qA (fun _=>none) (fun _ _=>none) a v:=by
    intro i a ha
    obtain ⟨d,hd1,hd2⟩:=qg4 has i a ha
    rw [←hds,List.getElem?_map,Option.map_eq_some_iff] at hd1
    obtain ⟨y,hy,rfl⟩:=hd1
    have hi:i < n:=by rw [←hxl];exact (List.getElem?_eq_some_iff.1 hy).1
    have h1:=hel i hi
    rw [hy,hc,Nat.mul_one] at h1
    obtain ⟨v,hv1,hv2⟩:=qtD he h1 hd2
    have h0:((cs.toList.drop i).take 1)[0]? = some v:=by rw [hv1];rfl
    exact ⟨v,by simpa using h0,hv2⟩
   refine ⟨qd8 fun a ha=>?_,aS.mapIdx (fun i _=>cs.getD i undef),qg.of_get (by simp) fun i a v ha hv=>?_,fun j v hv=>?_⟩
   ·obtain ⟨i,hi⟩:=List.getElem?_of_mem ha
    obtain ⟨v,_,hr⟩:=key i a hi
    exact qcK (n:=0) (fun _ _ h=>by cases h) a v hr
   ·obtain ⟨u,hu1,hu2⟩:=key i a ha
    rw [List.getElem?_mapIdx,ha] at hv
    simp only [Option.map_some,Option.some.injEq] at hv
    rw [Array.getD_eq_getD_getElem?,hu1] at hv
    simp only [Option.getD_some] at hv
    rw [←hv]
    exact hu2
   ·rw [World.var?_cell hg hvar j]
    rw [List.getElem?_mapIdx] at hv
    cases ha:aS[j]? with
    | none=>rw [ha] at hv;cases hv
    | some a=>
     obtain ⟨u,hu1,_⟩:=key j a ha
     rw [ha] at hv
     simp only [Option.map_some,Option.some.injEq] at hv
     rw [Array.getD_eq_getD_getElem?,hu1] at hv
     simp only [Option.getD_some] at hv
     rw [←hv]
     exact hu1
  ·exact ih hm q hq
end
section
variable {P:Program} {gl:Nat→Option (List qa)}
theorem qqE {T : qeq} (hT : T.All fun i v => ∃ pf, P.funcs[i]? = some pf ∧ qe P gl pf = some v ∧ (pf.name == "runtime.NumGoroutine") = false) : qdn P gl T.get := fun f fn h => by
 obtain ⟨pf,h1,h2,h3⟩:=qeq.get_all hT h
 unfold qe at h2
 split at h2
 ·cases h2
 ·rename_i c hb
  split at h2
  ·rename_i code rs e1 e2
   cases h2
   exact ⟨pf,c,h1,h3,hb,e1,e2,rfl⟩
  ·cases h2
theorem qur {W:World} {g:Nat}:qv 0 [] = true∧∃vs:List Value,qg (fun _=>none) (fun _ _=>none) [] vs∧∀(j:Nat) (v:Value),vs[j]? = some v→W.cell? ⟨g,j,none⟩ = some v:=
 ⟨rfl,[],by simp [qg],fun j v h=>by simp at h⟩
end
def qdR:Call→List qa→List qb→Option (qbv×List qb×Bool):=fun _ aS h=>
 match aS with
 | [.int .u64 x,.int .u64 y,.int .u64 c]=>
  bif ile 0 x && (ile 0 y && (ile 0 c && ile c 1)) then some (.ret (.tup [.int .u64 ((x + y + c) % 18446744073709551616),.int .u64 ((x + y + c) / 18446744073709551616)]),h,false) else none
 | _=>none
def qvT:Call→List qa→List qb→Option (qbv×List qb×Bool):=fun _ aS h=>
 match aS with
 | [.str a,.str b]=>some (.ret (.int .i64 (Lib.compareBytes a b)),h,false)
 | _=>none
def qdz:Call→List qa→List qb→Option (qbv×List qb×Bool):=fun _ aS h=>
 match aS with
 | []=>some (.ret (.bool true),h,false)
 | _=>none
section
variable {P:Program} {gl:Nat→Option (List qa)}
theorem qfj:∀call xs h r h' e,qdR call xs h = some (r,h',e)→h' = h:=by
 intro call xs h r hh e hr
 unfold qdR at hr
 split at hr
 ·rename_i x y c
  cases hb:ile 0 x && (ile 0 y && (ile 0 c && ile c 1)) <;> rw [hb] at hr <;> cases hr
  rfl
 ·cases hr
theorem qmY {x y c:Int} {G:qd} {vs:Array Value} (h:G.VL [.int .u64 x,.int .u64 y,.int .u64 c] vs.toList):vs = #[.int .u64 x,.int .u64 y,.int .u64 c]:=by
 simp only [qd.VL,qg,qA] at h
 obtain ⟨v,r,e,rfl,v2,r2,rfl,rfl,v3,r3,rfl,rfl,rfl⟩:=h
 rw [←Array.toArray_toList (xs:=vs),e]
theorem qkb {f : FuncId} {pf : Func} (hf : P.funcs[f]? = some pf) (hname : (pf.name == "runtime.NumGoroutine") = false) (hb : pf.body.isNone = true) (hn : Extern.findNext pf = none) (he : Extern.find pf = some add64Entry) : qf6 P gl f qdR := by
 intro call hcall hk xs h r h' e' hrun G w vs hr hnt hall
 unfold qdR at hrun
 split at hrun
 ·rename_i x y c
  cases hc:ile 0 x && (ile 0 y && (ile 0 c && ile c 1)) <;> rw [hc] at hrun <;> cases hrun
  simp only [Bool.and_eq_true,qaw,decide_eq_true_eq] at hc
  obtain ⟨c1,c2,c3,c4⟩:=hc
  have hvs:=qmY hall
  subst hvs
  refine .inr ⟨fun i hi=>by simp at hi,.tuple #[.int .u64 ((x + y + c) % 18446744073709551616),.int .u64 ((x + y + c) / 18446744073709551616)],w,?_,_,G,rfl,Ext.refl _ G _,hr,hnt,?_⟩
  ·rw [run_callFunc_extern hf hname hb hn he,run_add64 x y c c1 c2 c3 c4]
   rfl
  ·simp only [qd.V,qA,qg]
   exact ⟨_,rfl,_,_,rfl,rfl,_,_,rfl,rfl,rfl⟩
 ·cases hrun
theorem qbO {g:AE.Call→List qa→List qb→Option (qbv×List qb×Bool)} (hg:∀call xs h r h' e,g call xs h = some (r,h',e)→h' = h) (call:AE.Call):qM fun _ xs h=>g call xs h:=by
 intro fv xs h r h' e' hr
 obtain rfl:=hg _ _ _ _ _ _ hr
 exact ⟨Nat.le_refl _,fun _=>qS.refl _ _⟩
end
section
variable {P:Program} {gl:Nat→Option (List qa)}
theorem qhB:∀call xs h r h' e,qvT call xs h = some (r,h',e)→h' = h:=by
 intro call xs h r hh e hr
 unfold qvT at hr
 split at hr
 ·cases hr
  rfl
 ·cases hr
theorem quI {f : FuncId} {pf : Func} (hf : P.funcs[f]? = some pf) (hname : (pf.name == "runtime.NumGoroutine") = false) (hb : pf.body.isNone = true) (hn : Extern.findNext pf = none) (he : Extern.find pf = some Extern.BytealgCompare.compare) : qf6 P gl f qvT := by
 intro call hcall hk xs h r h' e' hrun G w vs hr hnt hall
 unfold qvT at hrun
 split at hrun
 ·rename_i a b
  cases hrun
  simp only [qd.VL,qg,qA] at hall
  obtain ⟨v,r,e,⟨s,rfl,rfl⟩,v2,r2,rfl,⟨s2,rfl,rfl⟩,rfl⟩:=hall
  have hvs:vs = #[.string s,.string s2]:=by rw [←Array.toArray_toList (xs:=vs),e]
  subst hvs
  refine .inr ⟨fun i hi=>by simp at hi,.int .i64 (Lib.compareBytes s.data.toList s2.data.toList),w,?_,_,G,rfl,Ext.refl _ G _,hr,hnt,?_⟩
  ·rw [run_callFunc_extern hf hname hb hn he,Lib.run_compareString]
   rfl
  ·simp only [qd.V,qA]
 ·cases hrun
end
noncomputable def qBJ (t:List qa):Nat→qa:=List.rec (motive:=fun _=>Nat→qa) (fun _=>.undef) (fun a _ ih n=>Nat.rec (motive:=fun _=>qa) a (fun m _=>ih m) n) t
noncomputable def qgk (v:qa) (t:List qa):Nat→List qa:=List.rec (motive:=fun _=>Nat→List qa) (fun _=>[]) (fun a aS ih n=>Nat.rec (motive:=fun _=>List qa) (v :: aS) (fun m _=>a :: ih m) n) t
theorem qjd:∀(t:List qa) (i:Nat),qBJ t i = t.getD i .undef
 | [],_=>rfl
 | _ :: _,0=>rfl
 | _ :: t,i + 1=>qjd t i
theorem qqZ (v:qa):∀(t:List qa) (i:Nat),qgk v t i = t.set i v
 | [],_=>rfl
 | _ :: _,0=>rfl
 | a :: t,i + 1=>congrArg (a :: ·) (qqZ v t i)
noncomputable def quQ (k:IntKind) (n:Int):qa:=
 Int.rec (motive:=fun _=>qa) (fun m=>Nat.rec (motive:=fun _=>qa) (.int k (.ofNat 0)) (fun p _=>.int k (.ofNat (p + 1))) m) (fun m=>.int k (.negSucc m)) n
noncomputable def quP (b:Bool):qa:=Bool.rec (motive:=fun _=>qa) (.bool false) (.bool true) b
noncomputable def qBi (v:qa):qa:=
 qa.casesOn (motive_1:=fun _=>qa) v .undef .bool .int .str .nilptr .ptr .iptr (fun xs f=>qdO.casesOn (motive:=fun _=>qa) f (.lst xs .no) (.lst xs .full) (fun _=>.lst xs .no)) .nilfunc .fn .yld .niliface .iface .agg .tup .sl .mp .nilmap .nils .empt
noncomputable def quR (v:qa):qa:=
 qa.casesOn (motive_1:=fun _=>qa) v .undef quP quQ .str .nilptr .ptr .iptr .lst .nilfunc .fn .yld .niliface .iface .agg .tup .sl .mp .nilmap .nils .empt
theorem qow (b:Bool):quP b = .bool b:=by cases b <;> rfl
theorem qox (k:IntKind) (n:Int):quQ k n = .int k n:=by
 cases n with
 | ofNat m=>cases m <;> rfl
 | negSucc m=>rfl
theorem qnP:qBi = qa.dim:=by
 funext v
 cases v <;> try rfl
 rename_i xs f
 cases f <;> rfl
theorem qoy (v:qa):quR v = v:=by cases v <;> first | rfl | exact qow _ | exact qox _ _
noncomputable def qDe (d:Nat) (v:qa) (t:List qa):List qa:=
 qa.casesOn (motive_1:=fun _=>List qa) (quR v) (qgk .undef t d) (fun b=>qgk (.bool b) t d) (fun k n=>qgk (.int k n) t d) (fun x=>qgk (.str x) t d) (qgk .nilptr t d) (fun a b=>qgk (.ptr a b) t d) (fun a b=>qgk (.iptr a b) t d) (fun a b=>qgk (.lst a b) t d)
  (qgk .nilfunc t d) (fun a b c=>qgk (.fn a b c) t d) (fun a=>qgk (.yld a) t d) (qgk .niliface t d) (fun a b=>qgk (.iface a b) t d) (fun a=>qgk (.agg a) t d) (fun a=>qgk (.tup a) t d) (fun a b c e f=>qgk (.sl a b c e f) t d) (fun a=>qgk (.mp a) t d) (qgk .nilmap t d) (qgk .nils t d) (qgk .empt t d)
theorem qx3 (d:Nat) (v:qa) (t:List qa):qDe d v t = t.set d v:=by
 unfold qDe
 rw [qoy]
 cases v <;> exact qqZ _ _ _
noncomputable def qrF (t:List qa):qo→qa
 | .t i=>qBJ t i
 | .c v=>v
noncomputable def evF (t:List qa) (x:qo):qa:=qBi (qrF t x)
noncomputable def qjL (dst:Option Nat) (v:qa) (t:List qa):List qa:=
 match dst with
 | some d=>qDe d v t
 | none=>t
noncomputable def qe7 (t:List qa) (x:qo):List qa:=
 match x with
 | .t i=>match qBJ t i with
  | .lst xs (.own _)=>t.set i (.lst xs .no)
  | _=>t
 | .c _=>t
theorem qeF:qrF = raw:=by
 funext t x
 cases x
 ·exact qjd _ _
 ·rfl
theorem qfs:evF = ev:=by
 funext t x
 simp only [evF,ev,qeF,qnP]
theorem qjM:qjL = put:=by
 funext d v t
 cases d
 ·rfl
 ·exact qx3 _ _ _
theorem qi2:qe7 = qao:=by
 funext t x
 cases x
 ·simp only [qe7,qao,qjd]
  rfl
 ·rfl
noncomputable def qeK (t:List qa) (x:Option qo) (d:Nat):Option Nat:=
 match x with
 | none=>some d
 | some x=>match evF t x with
  | .int _ n=>if 0 ≤ n then some n.toNat else none
  | _=>none
noncomputable def qqF (t:List qa) (o:AOp):Option qa:=
 match o with
 | .mov x=>some (evF t x)
 | .pick c a b=>match evF t c with
  | .bool true=>some (evF t a)
  | .bool false=>some (evF t b)
  | _=>none
 | .build zero parts=>(qaK zero (parts.map fun (o,s,x)=>(o,s,evF t x))).map .agg
 | .list k zero len parts=>
  if zero.length = k∧len * k ≤ 2 ^ 24 then
   match qaK ((List.replicate len zero).flatten) (parts.map fun (i,x)=>(i * k,k,evF t x)) with
   | some cs=>if cs.all qa.storable then some (.lst ((List.range len).map fun i=>if k = 1 then (cs.getD i .undef) else .agg ((cs.drop (i * k)).take k)) .full) else none
   | none=>none
  else none
 | .nilc x=>match evF t x with
  | .ptr i o=>some (.ptr i o)
  | .iptr cs o=>some (.iptr cs o)
  | .fn f a b=>some (.fn f a b)
  | .yld l=>some (.yld l)
  | .iface u v=>some (.iface u v)
  | _=>none
 | .bin op x y=>qbm op (evF t x) (evF t y)
 | .eqb neg x y=>match evF t x,evF t y with
  | .bool a,.bool b=>some (.bool ((a == b) != neg))
  | _,_=>none
 | .eqi k neg x y=>(qyC k (evF t x) (evF t y)).map fun b=>.bool (b != neg)
 | .eqa neg x y=>match evF t x,evF t y with
  | .agg a,.agg b=>(qiU a b).map fun r=>.bool (r != neg)
  | _,_=>none
 | .eqs sh neg x y=>(qBl sh (evF t x) (evF t y)).map fun r=>.bool (r != neg)
 | .un op x=>unV op (evF t x)
 | .nls neg x=>match evF t x with
  | .sl ..=>some (.bool (false != neg))
  | .lst (_ :: _) _=>some (.bool (false != neg))
  | .nils=>some (.bool (true != neg))
  | .empt=>some (.bool (false != neg))
  | _=>none
 | .cvi k x=>match evF t x with
  | .int _ n=>some (.int k (k.wrap n))
  | _=>none
 | .cvs x=>match evF t x with
  | .str s=>some (.str s)
  | _=>none
 | .cvb x=>match evF t x with
  | .str s=>some (.lst (qgZ s) .no)
  | _=>none
 | .mkI ty x=>match evF t x with
  | .undef=>none
  | v=>some (.iface ty v)
 | .mkF f a b=>some (.fn f (a.map (evF t)) (b.map (evF t)))
 | .subS x lo hi=>match evF t x with
  | .str s=>match qeK t hi s.length with
   | some h=>match qeK t lo 0 with
    | some l=>if l ≤ h∧h ≤ s.length then some (.str ((s.drop l).take (h - l))) else none
    | none=>none
   | none=>none
  | _=>none
 | .subL k x lo hi=>match evF t x with
  | .lst xs f=>match qeK t hi xs.length with
   | some h=>match qeK t lo 0 with
    | some l=>
     if l ≤ h∧h ≤ xs.length then
      if xs.head?.all (fun y=>y.cells.length == k) then some (.lst ((xs.drop l).take (h - l)) (if h = xs.length then f else .no)) else none
     else none
    | none=>none
   | none=>none
  | .sl id o len cap more=>match qeK t hi len with
   | some h=>match qeK t lo 0 with
    | some l=>
     if l ≤ h∧h ≤ cap then
      if cap = l then (if more = 0 then some (.lst [] .full) else none) else (if more = 0∨more = k then some (.sl id (o + l * k) (h - l) (cap - l) more) else none)
     else none
    | none=>none
   | none=>none
  | _=>none
 | .fa off a=>match evF t a with
  | .ptr i o=>some (.ptr i (o + off))
  | .iptr cs o=>some (.iptr cs (o + off))
  | _=>none
 | .ixaL k s i=>match evF t s,evF t i with
  | .lst xs _,.int _ n=>
   if 0 ≤ n∧n < xs.length then
    match xs[n.toNat]? with
    | some x=>if x.cells.length = k then some (.iptr x.cells 0) else none
    | none=>none
   else none
  | .sl id o len _ _,.int _ n=>if 0 ≤ n∧n < len then some (.ptr id (o + n.toNat * k)) else none
  | _,_=>none
 | .ixaA len k a i=>match evF t a,evF t i with
  | .ptr b o,.int _ n=>if 0 ≤ n∧n < (len:Int) then some (.ptr b (o + n.toNat * k)) else none
  | .iptr cs o,.int _ n=>if 0 ≤ n∧n < (len:Int) then some (.iptr cs (o + n.toNat * k)) else none
  | _,_=>none
 | .ixS s i=>match evF t s,evF t i with
  | .str l,.int _ n=>if 0 ≤ n then (l[n.toNat]?).map fun b=>.int .u8 b.toNat else none
  | _,_=>none
 | .ixA len k a i=>match evF t a,evF t i with
  | .agg cs,.int _ n=>if 0 ≤ n∧n < (len:Int) then cut cs (n.toNat * k.getD 1) k else none
  | _,_=>none
 | .fld off k x=>match evF t x with
  | .agg cs=>cut cs off k
  | _=>none
 | .ext x i=>match evF t x with
  | .tup vs=>(vs[i]?).map qa.dim
  | _=>none
 | .len true x=>match evF t x with
  | .str s=>some (.int .i64 s.length)
  | _=>none
 | .len false x=>match evF t x with
  | .lst xs _=>some (.int .i64 xs.length)
  | .sl _ _ len _ _=>some (.int .i64 len)
  | .nils=>some (.int .i64 0)
  | .empt=>some (.int .i64 0)
  | _=>none
 | .mm isMax x y=>match evF t x,evF t y with
  | .int k a,.int _ b=>some (.int k (if isMax then (if b > a then b else a) else (if b < a then b else a)))
  | _,_=>none
 | .tas ty zero x=>match evF t x with
  | .niliface=>some (.tup [zero,.bool false])
  | .iface u v=>if u = ty then some (.tup [v,.bool true]) else some (.tup [zero,.bool false])
  | _=>none
 | _=>none
noncomputable def qrn (k:Nat) (p:qbW) (x:qo) (s:St):Option (List qa×St):=
 match x with
 | .c _=>none
 | .t i=>
  match qrF s.t (.t i) with
  | .lst xs (.own j)=>if j = k then some (xs,{ s with t:=s.t.set i (.lst xs .no)}) else none
  | _=>
   match p.find? (·.1 == i) with
   | some (_,.tmp b)=>
    match qrF s.t (.t b) with
    | .lst xs (.own j)=>if j = k then some (xs,{ s with t:=s.t.set b (.lst xs .no)}) else none
    | _=>none
   | some (_,.cell a)=>
    match evF s.t a with
    | .ptr id o=>
     match s.h[id]? with
     | some (.cells cs)=>
      match cs[o]? with
      | some (.lst xs (.own j))=>if j = k then some (xs,{ s with h:=s.h.set id (.cells (cs.set o (.lst xs .no)))}) else none
      | _=>none
     | _=>none
    | _=>none
   | none=>none
noncomputable def qkK (base:Nat) (call:Call) (p:qbW) (dst:Option Nat) (o:AOp) (s:St):Option (Ex×St):=
 match o with
 | .asg x=>some (.nor,{ s with t:=qjL dst (qrF s.t x) (qe7 s.t x)})
 | .new cs=>some (.nor,{ s with t:=qjL dst (.ptr s.h.length 0) s.t,h:=s.h ++ [.cells (cs.map qa.dim)]})
 | .box k x=>
  let vs:=(evF s.t x).cells.map qa.dim
  if vs.length = k∧vs.all qa.storable then some (.nor,{ s with t:=qjL dst (.ptr s.h.length 0) s.t,h:=s.h ++ [.cells vs]}) else none
 | .ld k a=>(qbQ s.h (evF s.t a) k).map fun v=>(.nor,{ s with t:=qjL dst v s.t})
 | .st k a x=>
  match evF s.t a with
  | .ptr id o=>
   match s.h[id]? with
   | some (.cells cs)=>
    let v:=qrF s.t x
    let vs:=match k with | none=>[v] | some _=>v.dim.cells.map qa.dim
    if vs.length = k.getD 1∧o + vs.length ≤ cs.length∧vs.all qa.storable then
     some (.nor,{ t:=qjL dst .undef (qe7 s.t x),h:=s.h.set id (.cells (splice cs o vs)),e:=s.e || !(Nat.ble base id || qv (id + 1) vs)})
    else none
   | _=>none
  | _=>none
 | .call f args=>
  match call (evF s.t f) (args.map (evF s.t)) s.h with
  | some (.ret v,h,e)=>some (.nor,{ t:=qjL dst v.dim s.t,h,e:=s.e || e})
  | some (.pan v,h,e)=>some (.pan v,{ s with h,e:=s.e || e})
  | none=>none
 | .app k x y=>
  match qrF s.t x,tail (evF s.t y) with
  | .lst xs f,some ys=>
   if ys.isEmpty then some (.nor,{ s with t:=qjL dst (qa.lst xs f).dim s.t})
   else if xs.length + ys.length ≤ qcE∧ys.all (fun y=>y.cells.length == k && y.cells.all qa.storable)∧xs.head?.all (fun y=>y.cells.length == k) then
    match f with
    | .full=>some (.nor,{ s with t:=qjL dst (.lst (xs ++ ys) (.own k)) s.t})
    | _=>
     match qrn k p x s with
     | some (xs,s)=>if xs.head?.all (fun y=>y.cells.length == k) then some (.nor,{ s with t:=qjL dst (.lst (xs ++ ys) (.own k)) s.t}) else none
     | none=>none
   else none
  | _,_=>none
 | .pan x=>match evF s.t x with
  | .iface u v=>some (.pan (.iface u v),s)
  | _=>none
 | .lk sh z ok m key=>(qky s.h sh z ok (evF s.t m) (evF s.t key)).map fun v=>(.nor,{ s with t:=qjL dst v s.t})
 | .hx o aS=>(hop base o (aS.map (evF s.t)) s.h).map fun r=>(.nor,{ t:=qjL dst r.1.dim s.t,h:=r.2.1,e:=s.e || r.2.2})
 | o=>(qqF s.t o).map fun v=>(.nor,{ s with t:=qjL dst v s.t})
noncomputable def qhi (t:List qa) (g:Option (Nat×Bool)):Option Bool:=
 match g with
 | none=>some true
 | some (j,b)=>match qrF t (.t j) with
  | .bool c=>some (c == b)
  | .tup []=>some false
  | _=>none
noncomputable def qfX (base:Nat) (call:Call):qbW→List qU→St→Option (Ex×St)
 | _,[],s=>some (.nor,s)
 | p,o :: os,s=>
  match qhi s.t o.guard with
  | some true=>
   match qkK base call p o.dst o.op s with
   | some (.nor,s)=>qfX base call (qar p o) os s
   | r=>r
  | some false=>qfX base call (qar p { o with op:=.pick (.c .undef) (.c .undef) (.c .undef)}) os { s with t:=qjL o.dst (.tup []) s.t}
  | none=>none
noncomputable def qnr (s:St) (o:AOp):Option Chk:=
 match o with
 | .ld k a=>(qbQ s.h (evF s.t a) k).map (.ld (evF s.t a) k)
 | .lk sh z ok m key=>(qky s.h sh z ok (evF s.t m) (evF s.t key)).map (.lk sh z ok (evF s.t m) (evF s.t key))
 | .new cs=>some (.box s.h.length (cs.map qa.dim))
 | .box _ x=>some (.box s.h.length ((evF s.t x).cells.map qa.dim))
 | _=>none
noncomputable def qbu (base:Nat) (call:Call) (dsts:List Nat):List qG→List (Nat×Chk)→St→Option (Ex×St)
 | [],_,s=>some (.nor,s)
 | d :: ds,pend,s=>
  match qhi s.t d.o.guard with
  | some true=>
   match qkK base call [] d.o.dst d.o.op s with
   | some (.nor,s')=>
    if d.o.op.effs then
     let pend':=pend.filter fun c=>!d.cl.testBit c.1
     if pend'.all (fun c=>c.2.ok s'.h) then qbu base call dsts ds pend' s' else none
    else
     match qnr s d.o.op with
     | some c=>qbu base call dsts ds ((d.ix,c) :: pend) s'
     | none=>qbu base call dsts ds pend s'
   | some (.pan v,s')=>if d.o.op.effs then some (.pan v,{ s' with t:=qbM dsts s'.t}) else none
   | _=>none
  | some false=>qbu base call dsts ds pend { s with t:=qjL d.o.dst (.tup []) s.t}
  | none=>none
noncomputable def qca (n base:Nat) (call:Call):qC→St→Option (Ex×St)
 | .skip,s=>some (.nor,s)
 | .reg ops,s=>qfX base call [] ops s
 | .draw ops,s=>qbu base call (ops.filterMap (·.o.dst)) ops [] s
 | .draw2 c a b r,s=>quE a b (qbu base call ((c ++ a :: b :: r).filterMap (·.o.dst)) (c ++ [a,b]) [] s) (qbu base call ((c ++ a :: b :: r).filterMap (·.o.dst)) (c ++ a :: b :: r) [] s) (qbu base call ((c ++ a :: b :: r).filterMap (·.o.dst)) (c ++ b :: a :: r) [] s)
 | .seq a b,s=>match qca n base call a s with
  | some (.nor,s)=>qca n base call b s
  | r=>r
 | .cond c a b,s=>match evF s.t c with
  | .bool true=>qca n base call a s
  | .bool false=>qca n base call b s
  | _=>none
 | .block id b,s=>match qca n base call b s with
  | some (.exit j,s)=>if j = id then some (.nor,s) else some (.exit j,s)
  | r=>r
 | .loop b,s=>iter (qca n base call b) n s
 | .exit id,s=>some (.exit id,s)
 | .ret,s=>some (.ret,s)
 | .rfun f ps asg body,s=>
  match evF s.t f with
  | .fn g first cap=>
   match call (.fn g first cap) [.yld s.h.length] (s.h ++ [.loop (s.t.map qa.dim) ps asg body .ready none]) with
   | some (.ret _,h,e)=>
    match h[s.h.length]? with
    | some (.loop t ps' asg' body' st pend)=>
     if st = .busy then none else
     let s':St:={ s with h:=h.set s.h.length (.loop t ps' asg' body' .exhausted pend),e:=s.e || e}
     match pend with
     | none=>some (.nor,s')
     | some .ret=>some (.ret,s')
     | some (.exit id)=>some (.exit id,s')
    | _=>none
   | some (.pan v,h,e)=>some (.pan v,{ s with h,e:=s.e || e})
   | none=>none
  | _=>none
noncomputable def qde (s:St):List qj7→Option (List qa)
 | []=>some []
 | .tmp i :: rs=>match qde s rs with
  | some vs=>some (qBi (qrF s.t (.t i)) :: vs)
  | none=>none
 | .cell a k :: rs=>
  match qbQ s.h (qrF s.t (.t a)) k,qde s rs with
  | some v,some vs=>some (v :: vs)
  | _,_=>none
noncomputable def qqS (n:Nat) (call:Call) (l:Nat) (args:List qa) (h:List qb):Option (qbv×List qb×Bool):=
 match h[l]? with
 | some (.loop t ps asg body _ _)=>
  if args.length ≠ ps.length then none else
  let base:=h.length
  match qca n base call asg ⟨qiG t ps (args.map qa.dim),h,false⟩ with
  | some (.nor,s)=>
   match s.h[l]? with
   | some (.loop t1 ps1 asg1 body1 .ready pend)=>
    match qca n base call body { s with h:=s.h.set l (.loop t1 ps1 asg1 body1 .busy pend)} with
    | some (x,s)=>
     match s.h[l]? with
     | some (.loop t2 ps2 asg2 body2 _ _)=>
      match x with
      | .nor=>some (qat base (.ret (.bool true)) (s.h.set l (.loop t2 ps2 asg2 body2 .ready none)) s.e)
      | .ret=>some (qat base (.ret (.bool false)) (s.h.set l (.loop t2 ps2 asg2 body2 .done (some .ret))) s.e)
      | .exit id=>some (qat base (.ret (.bool false)) (s.h.set l (.loop t2 ps2 asg2 body2 .done (some (.exit id)))) s.e)
      | .pan _=>none
     | _=>none
    | none=>none
   | _=>none
  | _=>none
 | _=>none
noncomputable def qqW (F:FuncId→Option qt) (X:qeo):Nat→Call
 | 0=>fun _ _ _=>none
 | n + 1=>fun fv args h=>
  match fv with
  | .fn f first cap=>
   match X f with
   | some g=>g (qqW F X n) (first ++ args ++ cap) h
   | none=>
    match F f with
    | none=>none
    | some fn=>
     let aS:=(first ++ args ++ cap).map qa.dim
     match qca n h.length (qqW F X n) fn.code ⟨aS ++ List.replicate (fn.ntmps - aS.length) (.tup []),h,false⟩ with
     | some (.nor,s) | some (.ret,s)=>
      match qde s fn.results with
      | some vs=>some (qat h.length (.ret (qbi vs)) s.h s.e)
      | none=>none
     | some (.pan v,s)=>some (qat h.length (.pan v) s.h s.e)
     | _=>none
  | .yld l=>qqS n (qqW F X n) l args h
  | _=>none
theorem qnh:qeK = bound:=by
 funext t x d
 cases x <;> simp only [qeK,bound,qfs] <;> rfl
theorem qqG:qqF = pureV:=by
 funext t o
 cases o <;> simp only [qqF,pureV,qfs,qnh] <;> first | rfl | (cases ‹Bool› <;> rfl)
theorem qkI (t:List qa) (i:Nat):raw t (.t i) = t.getD i .undef:=rfl
theorem qro:qrn = qcY:=by
 funext k p x s
 cases x <;> simp only [qrn,qcY,qeF,qkI,qfs] <;> rfl
theorem qio:qkK = qu:=by
 funext base call p dst o s
 cases o <;> simp only [qkK,qu,qeF,qfs,qjM,qi2,qro,qqG] <;> rfl
theorem qgF:qhi = wanted:=by
 funext t g
 cases g <;> simp only [qhi,wanted,qeF,qkI] <;> rfl
theorem qgC (base:Nat) (call:Call):∀(os:List qU) (p:qbW) (s:St),qfX base call p os s = qax base call p os s
 | [],_,_=>rfl
 | o :: os,p,s=>by
  simp only [qfX,qax,qgF,qio,qjM,qgC base call os]
  rfl
theorem qns:qnr = qdV:=by
 funext s o
 cases o <;> simp only [qnr,qdV,qfs] <;> rfl
theorem qdJ (base:Nat) (call:Call) (dsts:List Nat):∀(ds:List qG) (pend:List (Nat×Chk)) (s:St),qbu base call dsts ds pend s = qw base call dsts ds pend s
 | [],_,_=>rfl
 | d :: ds,pend,s=>by
  simp only [qbu,qw,qgF,qio,qjM,qns,qdJ base call dsts ds]
  rfl
theorem qb0 (n base:Nat) (call:Call):∀(c:qC),qca n base call c = qaF n base call c
 | .skip=>by funext s;simp only [qca,qaF] <;> rfl
 | .reg ops=>by funext s;simp only [qca,qaF,qgC] <;> rfl
 | .draw ops=>by funext s;simp only [qca,qaF,qdJ] <;> rfl
 | .draw2 c a b r=>by funext s;simp only [qca,qaF,qdJ] <;> rfl
 | .seq a b=>by funext s;simp only [qca,qaF,qb0 n base call a,qb0 n base call b] <;> rfl
 | .cond c a b=>by funext s;simp only [qca,qaF,qfs,qb0 n base call a,qb0 n base call b] <;> rfl
 | .block id b=>by funext s;simp only [qca,qaF,qb0 n base call b] <;> rfl
 | .loop b=>by funext s;simp only [qca,qaF,qb0 n base call b] <;> rfl
 | .rfun f ps asg body=>by funext s;simp only [qca,qaF,qfs] <;> rfl
 | .exit id=>by funext s;simp only [qca,qaF] <;> rfl
 | .ret=>by funext s;simp only [qca,qaF] <;> rfl
theorem qdI (s:St):∀rs:List qj7,qde s rs = qah s rs
 | []=>rfl
 | .tmp i :: rs=>by simp only [qde,qah,qdI s rs,qeF,qkI,qnP] <;> rfl
 | .cell a k :: rs=>by simp only [qde,qah,qdI s rs,qeF,qkI] <;> rfl
theorem qqT (n:Nat) (call:Call):qqS n call = round n call:=by
 funext l args h
 simp only [qqS,round,qb0] <;> rfl
theorem qjQ (F:FuncId→Option qt) (X:qeo):∀n:Nat,qqW F X n = run F X n
 | 0=>rfl
 | n + 1=>by
  funext fv args h
  simp only [qqW,run,qjQ F X n,qb0,qdI,qqT] <;> rfl
def memo (k:Nat) (as0:List qa) (h0:List qb) (r0:qbv) (h1:List qb) (e1:Bool) (_:Call) (aS:List qa) (h:List qb):Option (qbv×List qb×Bool):=
 if Nat.ble k h.length && (qhp aS as0 && qyt (h.drop k) h0) then some (r0,h.take k ++ h1,e1) else none
theorem qpZ {k:Nat} {as0 aS:List qa} {h0 h h1:List qb} {r0:qbv} {e1:Bool} {r:qbv×List qb×Bool} {call:Call} (hm:memo k as0 h0 r0 h1 e1 call aS h = some r):aS = as0∧(∃H,H.length = k∧h = H ++ h0∧r = (r0,H ++ h1,e1)):=by
 unfold memo at hm
 split at hm
 ·rename_i hh
  simp only [Bool.and_eq_true,Nat.ble_eq] at hh
  cases hm
  refine ⟨qb8 _ _ hh.2.1,h.take k,by simp;omega,?_,rfl⟩
  rw [←qnd hh.2.2,List.take_append_drop]
 ·cases hm
def qj4 (X:qeo) (f:FuncId) (g:Call→List qa→List qb→Option (qbv×List qb×Bool)):qeo:=fun i=>if i == f then some g else X i
theorem qff {X:qeo} {f i:FuncId} {g g':Call→List qa→List qb→Option (qbv×List qb×Bool)} (h:qj4 X f g i = some g'):(i = f∧g' = g)∨X i = some g':=by
 unfold qj4 at h
 cases e:i == f with
 | true=>rw [e] at h;exact .inl ⟨by simpa using e,(Option.some.inj h).symm⟩
 | false=>rw [e] at h;exact .inr h
abbrev quw (X:qeo) (f:FuncId) (k:Nat) (as0:List qa) (h0:List qb) (r0:qbv) (h1:List qb) (e1:Bool):qeo:=qj4 X f (memo k as0 h0 r0 h1 e1)
section
variable {P:Program} {gl:Nat→Option (List qa)} {F:FuncId→Option qt} {X:qeo} {f:FuncId} {fn:qt} {n k:Nat} {as0:List qa} {h0 h1:List qb} {r0:qbv} {e1:Bool}
theorem quO {g:Call→List qa→List qb→Option (qbv×List qb×Bool)} (hP:qdn P gl F) (hF:F f = some fn) (hcall:qbw P gl (run F X n)) (hg:∀call aS h r,g call aS h = some r→run F X n (.fn f [] []) aS h = some r):qf6 P gl f g:=by
 intro call _ _ aS h r h' e' hr0 G w vs hr hn ha
 have hrun:=hg _ _ _ _ hr0
 obtain ⟨pf,c,p1,p2,p3,_⟩:=hP f fn hF
 have hent:=qaD (P:=P) p1 p2 p3 vs w
 have hfv:G.V (.fn f [] []) (.func (.func f) #[] #[]):=by simp [qd.V,qA,qg]
 have hcs:(qdT (.func (.func f) #[] #[]) vs).run P w = (callFunc f vs).run P w:=by rw [qe5];simp
 rcases hcall _ _ _ _ _ _ hrun G w _ vs hr hn hfv ha with ⟨f',as',k1,k2⟩ | ⟨_,_,_,_,_,_,hy,_⟩ | ⟨v,w',_,k1,_⟩
 ·rw [hcs,hent] at k1
  cases k1
  exact .inl ⟨hent,k2⟩
 ·cases hy
 ·rw [hcs,hent] at k1
  cases k1
structure qe3 (P:Program) (gl:Nat→Option (List qa)) (F:FuncId→Option qt) (X:qeo):Prop where
 ok:∀f g,X f = some g→qf6 P gl f g
 keeps:∀f g,X f = some g→∀call,qM call→qM fun _ xs h=>g call xs h
theorem qe3.call (hmx:P.follows .mixedOrders = true) (hP:qdn P gl F) (hX:qe3 P gl F X) (n:Nat):qbw P gl (run F X n):=qiq hmx hP hX.ok hX.keeps n
theorem qe3.put {Y:qeo} {g:Call→List qa→List qb→Option (qbv×List qb×Bool)} (hmx:P.follows .mixedOrders = true) (hP:qdn P gl F) (hX:qe3 P gl F X) (hY:qe3 P gl F Y) (hF:F f = some fn) (hg:∀call aS h r,g call aS h = some r→qqW F X n (.fn f [] []) aS h = some r):qe3 P gl F (qj4 Y f g):=by
 rw [qjQ] at hg
 constructor
 ·intro i g' hi
  rcases qff hi with ⟨rfl,rfl⟩ | hi
  ·exact quO hP hF (hX.call hmx hP n) hg
  ·exact hY.ok i g' hi
 ·intro i g' hi call hk
  rcases qff hi with ⟨rfl,rfl⟩ | hi
  ·intro fv aS h r h' e' hr
   exact qef hX.keeps n _ _ _ _ _ _ (hg _ _ _ _ hr)
  ·exact hY.keeps i g' hi call hk
theorem qe3.memo (hmx:P.follows .mixedOrders = true) (hP:qdn P gl F) {Y:qeo} (hX:qe3 P gl F X) (hY:qe3 P gl F Y) (hF:F f = some fn) (hrun:∀H:List qb,H.length = k→qqW F X n (.fn f [] []) as0 (H ++ h0) = some (r0,H ++ h1,e1)) :
  qe3 P gl F (quw Y f k as0 h0 r0 h1 e1):=
 hX.put (n:=n) hmx hP hY hF fun call aS h r hr=>by
  obtain ⟨e1,H,hH,e2,e3⟩:=qpZ hr
  rw [e1,e2,e3]
  exact hrun H hH
def qkP (g:List qa→List qb→Option (qbv×List qb×Bool)) (_:Call) (aS:List qa) (h:List qb):Option (qbv×List qb×Bool):=
 match aS with
 | [.lst [] .full]=>some (.ret (.lst [] .full),h,false)
 | aS=>g aS h
theorem qe3.split {Y:qeo} (hmx:P.follows .mixedOrders = true) (hP:qdn P gl F) (hX:qe3 P gl F X) (hY:qe3 P gl F Y) (hF:F f = some fn)
  (h1:∀H,run F X n (.fn f [] []) [.nils] H = some (.ret (.lst [] .full),H,false)) (h2:∀H,run F X n (.fn f [] []) [.empt] H = some (.ret (.lst [] .full),H,false)):qe3 P gl F (qj4 Y f (qkP (run F X n (.fn f [] [])))):=by
 have base:=quO (g:=fun _ aS h=>run F X n (.fn f [] []) aS h) hP hF (hX.call hmx hP n) (fun _ _ _ _ h=>h)
 constructor
 ·intro i g' hi
  rcases qff hi with ⟨rfl,rfl⟩ | hi
  ·intro call hc hk aS h r h' e' hr0 G w vs hr hn ha
   unfold qkP at hr0
   split at hr0
   ·cases hr0
    have ha':=ha
    simp only [qd.VL,qg,qA] at ha'
    obtain ⟨v,rest,e,⟨a,len,cap,rfl,g1,g2,g3,g4,_⟩,rfl⟩:=ha'
    simp only [List.length_nil] at g1
    subst g1
    have g3:=g3 trivial
    subst g3
    cases a with
    | none=>exact (base call hc hk _ _ _ _ _ (h1 h) G w vs hr hn (by rw [e];simp [qd.VL,qg,qA])).imp (fun x=>x) fun x=>⟨by simp,x.2⟩
    | some b=>exact (base call hc hk _ _ _ _ _ (h2 h) G w vs hr hn (by rw [e];simp [qd.VL,qg,qA])).imp (fun x=>x) fun x=>⟨by simp,x.2⟩
   ·exact base call hc hk _ _ _ _ _ hr0 G w vs hr hn ha
  ·exact hY.ok i g' hi
 ·intro i g' hi call hk
  rcases qff hi with ⟨rfl,rfl⟩ | hi
  ·intro fv aS h r h' e' hr0
   have hr:qkP (run F X n (.fn i [] [])) call aS h = some (r,h',e'):=hr0
   unfold qkP at hr
   split at hr
   ·cases hr;exact ⟨Nat.le_refl _,fun _=>qS.refl _ _⟩
   ·exact qef hX.keeps n _ _ _ _ _ _ hr
  ·exact hY.keeps i g' hi call hk
def memoR (k:Nat) (as0:List qa) (h0:List qb) (r0:qbv) (h1:List qb) (e1:Bool) (g:List qa→List qb→Option (qbv×List qb×Bool)) (c:Call) (aS:List qa) (h:List qb):Option (qbv×List qb×Bool):=
 match memo k as0 h0 r0 h1 e1 c aS h with
 | some r=>some r
 | none=>g aS h
theorem qe3.memoR {Y:qeo} (hmx:P.follows .mixedOrders = true) (hP:qdn P gl F) (hX:qe3 P gl F X) (hY:qe3 P gl F Y) (hF:F f = some fn) (hrun:∀H:List qb,H.length = k→qqW F X n (.fn f [] []) as0 (H ++ h0) = some (r0,H ++ h1,e1)) :
  qe3 P gl F (qj4 Y f (AE.memoR k as0 h0 r0 h1 e1 (qqW F X n (.fn f [] [])))):=
 hX.put (n:=n) hmx hP hY hF fun call aS h r hr=>by
  unfold AE.memoR at hr
  split at hr
  ·rename_i r' hm
   cases hr
   obtain ⟨q1,H,hH,q2,q3⟩:=qpZ hm
   rw [q1,q2,q3]
   exact hrun H hH
  ·exact hr
def memoT (d:Nat) (s0:List UInt8) (tab:List (Nat×Nat×qbv)) (_:Call) (aS:List qa) (h:List qb):Option (qbv×List qb×Bool):=
 match aS with
 | [.str s,.int .i64 (.ofNat n)]=>match tab.find? fun e=>Nat.beq e.1 n with
  | some e=>if Nat.beq h.length (e.2.1 + d) && s == s0 then some (e.2.2,h,false) else none
  | none=>none
 | _=>none
theorem qtF {d:Nat} {s0:List UInt8} {tab:List (Nat×Nat×qbv)} {call:Call} {aS:List qa} {h:List qb} {r:qbv×List qb×Bool} (hm:memoT d s0 tab call aS h = some r) :
  ∃e ∈ tab,aS = [.str s0,.int .i64 (.ofNat e.1)]∧h.length = e.2.1 + d∧r = (e.2.2,h,false):=by
 unfold memoT at hm
 split at hm
 ·split at hm
  ·rename_i e he
   split at hm
   ·rename_i hh
    simp only [Bool.and_eq_true,Nat.beq_eq,beq_iff_eq] at hh
    have h1:=List.find?_some he
    simp only [Nat.beq_eq] at h1
    refine ⟨e,List.mem_of_find?_eq_some he,?_,hh.1,(Option.some.inj hm).symm⟩
    rw [h1,hh.2]
   ·cases hm
  ·cases hm
 ·cases hm
theorem qe3.memoT (hmx:P.follows .mixedOrders = true) (hP:qdn P gl F) {Y:qeo} {d:Nat} {s0:List UInt8} {tab:List (Nat×Nat×qbv)} (hX:qe3 P gl F X) (hY:qe3 P gl F Y) (hF:F f = some fn)
  (hrun:∀e ∈ tab,∀H:List qb,H.length = e.2.1 + d→qqW F X n (.fn f [] []) [.str s0,.int .i64 (.ofNat e.1)] H = some (e.2.2,H,false)):qe3 P gl F (qj4 Y f (AE.memoT d s0 tab)):=
 hX.put (n:=n) hmx hP hY hF fun call aS h r hr=>by
  obtain ⟨e,he,e1,hk,e2⟩:=qtF hr
  rw [e1,e2]
  exact hrun e he h hk
def bx (f:Nat→qb) (k:Nat):List qb:=(List.range k).map f
theorem qzN {p:List qb→Prop} (h:p []):∀H:List qb,H.length = 0→p H:=fun H hH=>by
 rw [List.eq_nil_of_length_eq_zero hH];exact h
end
def Le {α:Type} (a b:Option α):Prop:=∀x,a = some x→b = some x
theorem Le.refl {α:Type} (a:Option α):Le a a:=fun _ h=>h
def CLe (c d:Call):Prop:=∀fv aS h,Le (c fv aS h) (d fv aS h)
theorem CLe.refl (c:Call):CLe c c:=fun _ _ _ _ h=>h
def qAX {α:Type} (g:Nat→Option α):Prop:=∀n m,n ≤ m→Le (g n) (g m)
def qcI (c:Nat→Call):Prop:=∀n m,n ≤ m→CLe (c n) (c m)
open Classical in
noncomputable def lim {α:Type} (g:Nat→Option α):Option α:=if h:∃n x,g n = some x then g h.choose else none
theorem qg2 {α:Type} {g:Nat→Option α} (hg:qAX g) (x:α):lim g = some x↔∃n,g n = some x:=by
 unfold lim
 constructor
 ·intro h
  split at h
  ·exact ⟨_,h⟩
  ·cases h
 ·rintro ⟨n,hn⟩
  have h:∃n x,g n = some x:=⟨n,x,hn⟩
  rw [dif_pos h]
  obtain ⟨y,hy⟩:=h.choose_spec
  have h1:=hg _ (max n h.choose) (Nat.le_max_right ..) _ hy
  have h2:=hg _ (max n h.choose) (Nat.le_max_left ..) _ hn
  rw [hy,←h1,h2]
theorem qbR {α:Type} (a:Option α):lim (fun _=>a) = a:=by
 apply Option.ext
 intro x
 rw [qg2 (fun _ _ _=>Le.refl _)]
 exact ⟨fun ⟨_,h⟩=>h,fun h=>⟨0,h⟩⟩
noncomputable def qm3 (c:Nat→Call):Call:=fun fv aS h=>lim fun n=>c n fv aS h
theorem qda {c:Nat→Call} (hc:qcI c) {fv:qa} {aS:List qa} {h:List qb} (x:qbv×List qb×Bool):qm3 c fv aS h = some x↔∃n,c n fv aS h = some x:=
 qg2 (fun n m hnm=>hc n m hnm fv aS h) x
theorem qjw {c:Nat→Call} (hc:qcI c) (n:Nat):CLe (c n) (qm3 c):=fun _ _ _ x hx=>(qda hc x).2 ⟨n,hx⟩
section
variable {c d:Call} {base:Nat}
theorem qbd (hc:CLe c d) {p:qbW} {dst:Option Nat} {o:AOp} {s:St}:Le (qu base c p dst o s) (qu base d p dst o s):=by
 cases o
 case call f args=>
  intro x hx
  simp only [qu] at hx ⊢
  split at hx
  ·rename_i heq;rw [hc _ _ _ _ heq];exact hx
  ·rename_i heq;rw [hc _ _ _ _ heq];exact hx
  ·cases hx
 all_goals exact fun x hx=>hx
theorem qa9 (hc:CLe c d):∀(ops:List qU) (p:qbW) (s:St),Le (qax base c p ops s) (qax base d p ops s)
 | [],p,s=>fun x hx=>hx
 | o :: os,p,s=>fun x hx=>by
  simp only [qax] at hx ⊢
  split at hx
  ·split at hx
   ·rename_i heq;rw [qbd hc _ heq];exact qa9 hc os _ _ _ hx
   ·rename_i hne
    have h1:=qbd hc _ hx
    rw [h1]
    split
    ·rename_i heq;cases heq;exact absurd hx (hne _)
    ·rfl
  ·exact qa9 hc os _ _ _ hx
  ·cases hx
theorem qae (hc:CLe c d) (dsts:List Nat):∀(ops:List qG) (pend:List (Nat×Chk)) (s:St),Le (qw base c dsts ops pend s) (qw base d dsts ops pend s)
 | [],p,s=>fun x hx=>hx
 | o :: os,p,s=>fun x hx=>by
  simp only [qw] at hx ⊢
  split at hx
  ·split at hx
   ·rename_i heq
    rw [qbd hc _ heq]
    simp only
    split at hx
    ·rename_i he
     rw [if_pos he]
     split at hx
     ·rename_i hp;rw [if_pos hp];exact qae hc dsts os _ _ _ hx
     ·cases hx
    ·rename_i he
     rw [if_neg he]
     split at hx
     ·exact qae hc dsts os _ _ _ hx
     ·exact qae hc dsts os _ _ _ hx
   ·rename_i heq;rw [qbd hc _ heq];exact hx
   ·cases hx
  ·exact qae hc dsts os _ _ _ hx
  ·cases hx
theorem qcS {f g:St→Option (Ex×St)} (hf:∀s,Le (f s) (g s)):∀(n m:Nat),n ≤ m→∀s,Le (iter f n s) (iter g m s)
 | 0,_,_,s=>fun x hx=>by cases hx
 | n + 1,0,h,s=>by omega
 | n + 1,m + 1,h,s=>fun x hx=>by
  simp only [iter] at hx ⊢
  split at hx
  ·rename_i heq;rw [hf _ _ heq];exact qcS hf n m (by omega) _ _ hx
  ·rename_i hne
   rw [hf _ _ hx]
   split
   ·rename_i heq;cases heq;exact absurd hx (hne _)
   ·rfl
theorem qnf {p q:qG} {a b e a' b' e':Option (Ex×St)} (h1:Le a a') (h2:Le b b') (h3:Le e e'):Le (quE p q a b e) (quE p q a' b' e'):=fun x hx=>by
 unfold quE at hx
 split at hx
 ·rename_i s0 s1 s2
  rw [h1 _ rfl,h2 _ rfl,h3 _ rfl]
  exact hx
 ·cases hx
theorem qB (hc:CLe c d) {n m:Nat} (hnm:n ≤ m):∀(a:qC) (s:St),Le (qaF n base c a s) (qaF m base d a s)
 | .skip,s=>fun x hx=>hx
 | .reg ops,s=>qa9 hc ops _ s
 | .draw ops,s=>qae hc _ ops _ s
 | .draw2 c a b r,s=>qnf (qae hc _ _ _ s) (qae hc _ _ _ s) (qae hc _ _ _ s)
 | .seq a b,s=>fun x hx=>by
  simp only [qaF] at hx ⊢
  split at hx
  ·rename_i heq;rw [qB hc hnm a _ _ heq];exact qB hc hnm b _ _ hx
  ·rename_i hne
   rw [qB hc hnm a _ _ hx]
   split
   ·rename_i heq;cases heq;exact absurd hx (hne _)
   ·rfl
 | .cond q a b,s=>fun x hx=>by
  simp only [qaF] at hx ⊢
  split at hx
  ·exact qB hc hnm a _ _ hx
  ·exact qB hc hnm b _ _ hx
  ·cases hx
 | .block id b,s=>fun x hx=>by
  simp only [qaF] at hx ⊢
  split at hx
  ·rename_i heq;rw [qB hc hnm b _ _ heq];exact hx
  ·rename_i hne
   rw [qB hc hnm b _ _ hx]
   split
   ·rename_i heq;cases heq;exact absurd hx (hne _ _)
   ·rfl
 | .loop b,s=>fun x hx=>by
  simp only [qaF] at hx ⊢
  exact qcS (fun s=>qB hc hnm b s) n m hnm s x hx
 | .exit id,s=>fun x hx=>hx
 | .ret,s=>fun x hx=>hx
 | .rfun f ps asg body,s=>fun x hx=>by
  simp only [qaF] at hx ⊢
  split at hx
  ·split at hx
   ·rename_i heq;rw [hc _ _ _ _ heq];exact hx
   ·rename_i heq;rw [hc _ _ _ _ heq];exact hx
   ·cases hx
  ·cases hx
theorem qdg (hc:CLe c d) {n m:Nat} (hnm:n ≤ m) {l:Nat} {args:List qa} {h:List qb}:Le (round n c l args h) (round m d l args h):=fun x hx=>by
 simp only [round] at hx ⊢
 split at hx
 ·split at hx
  ·cases hx
  ·rename_i hl
   rw [if_neg hl]
   split at hx
   ·rename_i heq
    rw [qB hc hnm _ _ _ heq]
    simp only
    split at hx
    ·split at hx
     ·rename_i heq2
      rw [qB hc hnm _ _ _ heq2]
      exact hx
     ·cases hx
    ·cases hx
   ·cases hx
 ·cases hx
theorem qbK (hc:CLe c d) {n m:Nat} (hnm:n ≤ m) {df:qdN} {v:qa} {cv:List qa} {s:St}:Le (qdX n c df v cv s) (qdX m d df v cv s):=fun x hx=>by
 simp only [qdX] at hx ⊢
 split at hx
 ·rename_i heq
  rw [qa9 hc _ _ _ _ heq]
  dsimp only
  split at hx
  ·rename_i heq2;rw [qB hc hnm _ _ _ heq2];exact hx
  ·rename_i heq2;rw [qB hc hnm _ _ _ heq2];exact hx
  ·cases hx
 ·cases hx
theorem qcj (hc:CLe c d) {n m:Nat} (hnm:n ≤ m) {df:qdN}:∀(b:qf7) (s:St),Le (qcR n base c df b s) (qcR m base d df b s)
 | .pre a r,s=>fun x hx=>by
  simp only [qcR] at hx ⊢
  split at hx
  ·rename_i heq;rw [qB hc hnm _ _ _ heq];exact qcj hc hnm r _ _ hx
  ·cases hx
  ·rename_i h1 h2
   rw [qB hc hnm _ _ _ hx]
   split
   ·rename_i heq;cases heq;exact absurd hx (h1 _)
   ·rename_i heq;cases heq;exact absurd hx (h2 _ _)
   ·rfl
 | .dfr f caps slot rest,s=>fun x hx=>by
  simp only [qcR] at hx ⊢
  split at hx
  ·split at hx
   ·rename_i hg
    rw [if_pos hg]
    split at hx
    ·rename_i heq;rw [qB hc hnm _ _ _ heq];exact qbK hc hnm _ hx
    ·rename_i heq;rw [qB hc hnm _ _ _ heq];exact qbK hc hnm _ hx
    ·rename_i heq;rw [qB hc hnm _ _ _ heq];exact qbK hc hnm _ hx
    ·cases hx
   ·cases hx
  ·cases hx
theorem qlt (hc:CLe c d) {n m:Nat} (hnm:n ≤ m) {g:qiL} {aS:List qa} {h:List qb}:Le (qe1 n g c aS h) (qe1 m g d aS h):=fun x hx=>by
 simp only [qe1] at hx ⊢
 split at hx
 ·rename_i heq;rw [qcj hc hnm _ _ _ heq];exact hx
 ·rename_i heq;rw [qcj hc hnm _ _ _ heq];exact hx
 ·rename_i heq;rw [qcj hc hnm _ _ _ heq];exact hx
 ·cases hx
end
def qvj (X:qeo):Prop:=∀f g,X f = some g→∀c d,CLe c d→∀aS h,Le (g c aS h) (g d aS h)
theorem qt7 {F:FuncId→Option qt} {X:qeo} (hX:qvj X) {n m:Nat} (hnm:n ≤ m) (hc:CLe (run F X n) (run F X m)):CLe (run F X (n + 1)) (run F X (m + 1)):=fun fv aS h x hx=>by
 simp only [run] at hx ⊢
 split at hx
 ·split at hx
  ·rename_i hg
   exact hX _ _ hg _ _ hc _ _ _ hx
  ·split at hx
   ·cases hx
   ·split at hx
    ·rename_i heq;rw [qB hc hnm _ _ _ heq];exact hx
    ·rename_i heq;rw [qB hc hnm _ _ _ heq];exact hx
    ·rename_i heq;rw [qB hc hnm _ _ _ heq];exact hx
    ·cases hx
 ·exact qdg hc hnm _ hx
 ·cases hx
theorem qeg {F:FuncId→Option qt} {X:qeo} (hX:qvj X):∀n m:Nat,n ≤ m→CLe (run F X n) (run F X m)
 | 0,_,_=>fun _ _ _ x hx=>by cases hx
 | n + 1,0,h=>by omega
 | n + 1,m + 1,h=>qt7 hX (by omega) (qeg hX n m (by omega))
section
variable {c:Nat→Call} {base:Nat}
theorem qdh (hc:qcI c) {p:qbW} {dst:Option Nat} {o:AOp} {s:St} {x:Ex×St} (hx:qu base (qm3 c) p dst o s = some x):∃k,qu base (c k) p dst o s = some x:=by
 cases o
 case call f args=>
  simp only [qu] at hx ⊢
  split at hx
  ·rename_i heq;obtain ⟨k,hk⟩:=(qda hc _).1 heq;exact ⟨k,by rw [hk];exact hx⟩
  ·rename_i heq;obtain ⟨k,hk⟩:=(qda hc _).1 heq;exact ⟨k,by rw [hk];exact hx⟩
  ·cases hx
 all_goals exact ⟨0,hx⟩
theorem qcx (hc:qcI c):∀(ops:List qU) (p:qbW) (s:St) (x:Ex×St),qax base (qm3 c) p ops s = some x→∃k,qax base (c k) p ops s = some x
 | [],p,s,x,hx=>⟨0,hx⟩
 | o :: os,p,s,x,hx=>by
  simp only [qax] at hx ⊢
  split at hx
  ·split at hx
   ·rename_i heq
    obtain ⟨k1,h1⟩:=qdh hc heq
    obtain ⟨k2,h2⟩:=qcx hc os _ _ _ hx
    refine ⟨max k1 k2,?_⟩
    rw [qbd (hc k1 _ (Nat.le_max_left ..)) _ h1]
    exact qa9 (hc k2 _ (Nat.le_max_right ..)) _ _ _ _ h2
   ·rename_i hne
    obtain ⟨k1,h1⟩:=qdh hc hx
    refine ⟨k1,?_⟩
    rw [h1]
    split
    ·rename_i heq;cases heq;exact absurd hx (hne _)
    ·rfl
  ·exact qcx hc os _ _ _ hx
  ·cases hx
theorem qaJ (hc:qcI c) (dsts:List Nat):∀(ops:List qG) (pend:List (Nat×Chk)) (s:St) (x:Ex×St),qw base (qm3 c) dsts ops pend s = some x→∃k,qw base (c k) dsts ops pend s = some x
 | [],p,s,x,hx=>⟨0,hx⟩
 | o :: os,p,s,x,hx=>by
  simp only [qw] at hx ⊢
  split at hx
  ·split at hx
   ·rename_i heq
    obtain ⟨k1,h1⟩:=qdh hc heq
    split at hx
    ·rename_i he
     split at hx
     ·rename_i hp
      obtain ⟨k2,h2⟩:=qaJ hc dsts os _ _ _ hx
      refine ⟨max k1 k2,?_⟩
      rw [qbd (hc k1 _ (Nat.le_max_left ..)) _ h1]
      simp only
      rw [if_pos he,if_pos hp]
      exact qae (hc k2 _ (Nat.le_max_right ..)) dsts _ _ _ _ h2
     ·cases hx
    ·rename_i he
     split at hx
     ·obtain ⟨k2,h2⟩:=qaJ hc dsts os _ _ _ hx
      rename_i hk
      refine ⟨max k1 k2,?_⟩
      rw [qbd (hc k1 _ (Nat.le_max_left ..)) _ h1]
      simp only
      rw [if_neg he]
      exact qae (hc k2 _ (Nat.le_max_right ..)) dsts _ _ _ _ h2
     ·obtain ⟨k2,h2⟩:=qaJ hc dsts os _ _ _ hx
      refine ⟨max k1 k2,?_⟩
      rw [qbd (hc k1 _ (Nat.le_max_left ..)) _ h1]
      simp only
      rw [if_neg he]
      exact qae (hc k2 _ (Nat.le_max_right ..)) dsts _ _ _ _ h2
   ·rename_i heq;obtain ⟨k1,h1⟩:=qdh hc heq;exact ⟨k1,by rw [h1];exact hx⟩
   ·cases hx
  ·exact qaJ hc dsts os _ _ _ hx
  ·cases hx
theorem qhV {f:St→Option (Ex×St)} {g:Nat→St→Option (Ex×St)} (hg:∀n m,n ≤ m→∀s,Le (g n s) (g m s)) (hf:∀s x,f s = some x→∃k,g k s = some x):∀(n:Nat) (s:St) (x:Ex×St),iter f n s = some x→∃k,iter (g k) n s = some x
 | 0,s,x,hx=>by cases hx
 | n + 1,s,x,hx=>by
  simp only [iter] at hx ⊢
  split at hx
  ·rename_i heq
   obtain ⟨k1,h1⟩:=hf _ _ heq
   obtain ⟨k2,h2⟩:=qhV hg hf n _ _ hx
   refine ⟨max k1 k2,?_⟩
   rw [hg k1 _ (Nat.le_max_left ..) _ _ h1]
   exact qcS (hg k2 _ (Nat.le_max_right ..)) n n (Nat.le_refl _) _ _ h2
  ·rename_i hne
   obtain ⟨k1,h1⟩:=hf _ _ hx
   refine ⟨k1,?_⟩
   rw [h1]
   split
   ·rename_i heq;cases heq;exact absurd hx (hne _)
   ·rfl
theorem qam (hc:qcI c) {n:Nat}:∀(a:qC) (s:St) (x:Ex×St),qaF n base (qm3 c) a s = some x→∃k,qaF n base (c k) a s = some x
 | .skip,s,x,hx=>⟨0,hx⟩
 | .reg ops,s,x,hx=>qcx hc ops _ s x hx
 | .draw ops,s,x,hx=>qaJ hc _ ops _ s x hx
 | .draw2 c0 a0 b0 r0,s,x,hx=>by
  simp only [qaF] at hx ⊢
  unfold quE at hx
  split at hx
  ·rename_i s0 s1 s2 e0 e1 e2
   obtain ⟨k0,h0⟩:=qaJ hc _ _ _ s _ e0
   obtain ⟨k1,h1⟩:=qaJ hc _ _ _ s _ e1
   obtain ⟨k2,h2⟩:=qaJ hc _ _ _ s _ e2
   refine ⟨max k0 (max k1 k2),?_⟩
   rw [qae (hc k0 _ (Nat.le_max_left ..)) _ _ _ s _ h0,qae (hc k1 _ (Nat.le_trans (Nat.le_max_left ..) (Nat.le_max_right ..))) _ _ _ s _ h1,qae (hc k2 _ (Nat.le_trans (Nat.le_max_right ..) (Nat.le_max_right ..))) _ _ _ s _ h2]
   exact hx
  ·cases hx
 | .seq a b,s,x,hx=>by
  simp only [qaF] at hx ⊢
  split at hx
  ·rename_i heq
   obtain ⟨k1,h1⟩:=qam hc a _ _ heq
   obtain ⟨k2,h2⟩:=qam hc b _ _ hx
   refine ⟨max k1 k2,?_⟩
   rw [qB (hc k1 _ (Nat.le_max_left ..)) (Nat.le_refl _) _ _ _ h1]
   exact qB (hc k2 _ (Nat.le_max_right ..)) (Nat.le_refl _) _ _ _ h2
  ·rename_i hne
   obtain ⟨k1,h1⟩:=qam hc a _ _ hx
   refine ⟨k1,?_⟩
   rw [h1]
   split
   ·rename_i heq;cases heq;exact absurd hx (hne _)
   ·rfl
 | .cond q a b,s,x,hx=>by
  simp only [qaF] at hx ⊢
  split at hx
  ·exact qam hc a _ _ hx
  ·exact qam hc b _ _ hx
  ·cases hx
 | .block id b,s,x,hx=>by
  simp only [qaF] at hx ⊢
  split at hx
  ·rename_i heq
   obtain ⟨k1,h1⟩:=qam hc b _ _ heq
   exact ⟨k1,by rw [h1];exact hx⟩
  ·rename_i hne
   obtain ⟨k1,h1⟩:=qam hc b _ _ hx
   refine ⟨k1,?_⟩
   rw [h1]
   split
   ·rename_i heq;cases heq;exact absurd hx (hne _ _)
   ·rfl
 | .loop b,s,x,hx=>by
  simp only [qaF] at hx ⊢
  exact qhV (g:=fun k=>qaF n base (c k) b) (fun i j hij s=>qB (hc i j hij) (Nat.le_refl _) b s) (fun s x h=>qam hc b s x h) n s x hx
 | .exit id,s,x,hx=>⟨0,hx⟩
 | .ret,s,x,hx=>⟨0,hx⟩
 | .rfun f ps asg body,s,x,hx=>by
  simp only [qaF] at hx ⊢
  split at hx
  ·split at hx
   ·rename_i heq;obtain ⟨k,hk⟩:=(qda hc _).1 heq;exact ⟨k,by rw [hk];exact hx⟩
   ·rename_i heq;obtain ⟨k,hk⟩:=(qda hc _).1 heq;exact ⟨k,by rw [hk];exact hx⟩
   ·cases hx
  ·cases hx
theorem qmH (hc:qcI c) {n:Nat} {l:Nat} {args:List qa} {h:List qb} {x:qbv×List qb×Bool} (hx:round n (qm3 c) l args h = some x):∃k,round n (c k) l args h = some x:=by
 simp only [round] at hx ⊢
 split at hx
 ·split at hx
  ·cases hx
  ·rename_i hl
   split at hx
   ·rename_i heq
    obtain ⟨k1,h1⟩:=qam hc _ _ _ heq
    split at hx
    ·rename_i hb
     split at hx
     ·rename_i heq2
      obtain ⟨k2,h2⟩:=qam hc _ _ _ heq2
      refine ⟨max k1 k2,?_⟩
      rw [if_neg hl,qB (hc k1 _ (Nat.le_max_left ..)) (Nat.le_refl _) _ _ _ h1]
      simp only [hb]
      rw [qB (hc k2 _ (Nat.le_max_right ..)) (Nat.le_refl _) _ _ _ h2]
      exact hx
     ·cases hx
    ·cases hx
   ·cases hx
 ·cases hx
theorem qet (hc:qcI c) {n:Nat} {df:qdN} {v:qa} {cv:List qa} {s:St} {x:Ex×St} (hx:qdX n (qm3 c) df v cv s = some x):∃k,qdX n (c k) df v cv s = some x:=by
 simp only [qdX] at hx ⊢
 split at hx
 ·rename_i heq
  obtain ⟨k1,h1⟩:=qcx hc _ _ _ _ heq
  split at hx
  ·rename_i heq2
   obtain ⟨k2,h2⟩:=qam hc _ _ _ heq2
   refine ⟨max k1 k2,?_⟩
   rw [qa9 (hc k1 _ (Nat.le_max_left ..)) _ _ _ _ h1]
   simp only
   rw [qB (hc k2 _ (Nat.le_max_right ..)) (Nat.le_refl _) _ _ _ h2]
   exact hx
  ·rename_i heq2
   obtain ⟨k2,h2⟩:=qam hc _ _ _ heq2
   refine ⟨max k1 k2,?_⟩
   rw [qa9 (hc k1 _ (Nat.le_max_left ..)) _ _ _ _ h1]
   simp only
   rw [qB (hc k2 _ (Nat.le_max_right ..)) (Nat.le_refl _) _ _ _ h2]
   exact hx
  ·cases hx
 ·cases hx
theorem qc8 (hc:qcI c) {n:Nat} {df:qdN}:∀(b:qf7) (s:St) (x:Ex×St),qcR n base (qm3 c) df b s = some x→∃k,qcR n base (c k) df b s = some x
 | .pre a r,s,x,hx=>by
  simp only [qcR] at hx ⊢
  split at hx
  ·rename_i heq
   obtain ⟨k1,h1⟩:=qam hc _ _ _ heq
   obtain ⟨k2,h2⟩:=qc8 hc r _ _ hx
   refine ⟨max k1 k2,?_⟩
   rw [qB (hc k1 _ (Nat.le_max_left ..)) (Nat.le_refl _) _ _ _ h1]
   exact qcj (hc k2 _ (Nat.le_max_right ..)) (Nat.le_refl _) _ _ _ h2
  ·cases hx
  ·rename_i h1 h2
   obtain ⟨k1,h3⟩:=qam hc _ _ _ hx
   refine ⟨k1,?_⟩
   rw [h3]
   split
   ·rename_i heq;cases heq;exact absurd hx (h1 _)
   ·rename_i heq;cases heq;exact absurd hx (h2 _ _)
   ·rfl
 | .dfr f caps slot rest,s,x,hx=>by
  simp only [qcR] at hx ⊢
  split at hx
  ·split at hx
   ·rename_i hg
    simp only [if_pos hg]
    split at hx
    ·rename_i heq
     obtain ⟨k1,h1⟩:=qam hc _ _ _ heq
     obtain ⟨k2,h2⟩:=qet hc hx
     refine ⟨max k1 k2,?_⟩
     rw [qB (hc k1 _ (Nat.le_max_left ..)) (Nat.le_refl _) _ _ _ h1]
     exact qbK (hc k2 _ (Nat.le_max_right ..)) (Nat.le_refl _) _ h2
    ·rename_i heq
     obtain ⟨k1,h1⟩:=qam hc _ _ _ heq
     obtain ⟨k2,h2⟩:=qet hc hx
     refine ⟨max k1 k2,?_⟩
     rw [qB (hc k1 _ (Nat.le_max_left ..)) (Nat.le_refl _) _ _ _ h1]
     exact qbK (hc k2 _ (Nat.le_max_right ..)) (Nat.le_refl _) _ h2
    ·rename_i heq
     obtain ⟨k1,h1⟩:=qam hc _ _ _ heq
     obtain ⟨k2,h2⟩:=qet hc hx
     refine ⟨max k1 k2,?_⟩
     rw [qB (hc k1 _ (Nat.le_max_left ..)) (Nat.le_refl _) _ _ _ h1]
     exact qbK (hc k2 _ (Nat.le_max_right ..)) (Nat.le_refl _) _ h2
    ·cases hx
   ·cases hx
  ·cases hx
theorem qls (hc:qcI c) {n:Nat} {g:qiL} {aS:List qa} {h:List qb} {x:qbv×List qb×Bool} (hx:qe1 n g (qm3 c) aS h = some x):∃k,qe1 n g (c k) aS h = some x:=by
 simp only [qe1] at hx ⊢
 split at hx
 ·rename_i heq;obtain ⟨k1,h1⟩:=qc8 hc _ _ _ heq;exact ⟨k1,by rw [h1];exact hx⟩
 ·rename_i heq;obtain ⟨k1,h1⟩:=qc8 hc _ _ _ heq;exact ⟨k1,by rw [h1];exact hx⟩
 ·rename_i heq;obtain ⟨k1,h1⟩:=qc8 hc _ _ _ heq;exact ⟨k1,by rw [h1];exact hx⟩
 ·cases hx
end
noncomputable def qm (base:Nat) (call:Call) (a:qC) (s:St):Option (Ex×St):=lim fun n=>qaF n base call a s
noncomputable def qkJ (call:Call) (l:Nat) (args:List qa) (h:List qb):Option (qbv×List qb×Bool):=lim fun n=>round n call l args h
section
variable {base:Nat} {call:Call}
theorem q8 {a:qC} {s:St} (x:Ex×St):qm base call a s = some x↔∃n,qaF n base call a s = some x:=
 qg2 (fun n m hnm=>qB (CLe.refl _) hnm a s) x
theorem qlo (s:St):qm base call .skip s = some (.nor,s):=qbR _
theorem qhM (ops:List qU) (s:St):qm base call (.reg ops) s = qax base call [] ops s:=qbR _
theorem qlm (ops:List qG) (s:St):qm base call (.draw ops) s = qw base call (ops.filterMap (·.o.dst)) ops [] s:=qbR _
theorem qln (id:Nat) (s:St):qm base call (.exit id) s = some (.exit id,s):=qbR _
theorem qoj (s:St):qm base call .ret s = some (.ret,s):=qbR _
def qcg (f:St→Option (Ex×St)):Option (Ex×St)→Option (Ex×St)
 | some (.nor,s)=>f s
 | r=>r
theorem qok (a b:qC) (s:St):qm base call (.seq a b) s = qcg (qm base call b) (qm base call a s):=by
 apply Option.ext
 intro x
 rw [q8]
 constructor
 ·rintro ⟨n,h⟩
  simp only [qaF] at h
  split at h
  ·rename_i heq
   rw [(q8 _).2 ⟨n,heq⟩]
   exact (q8 _).2 ⟨n,h⟩
  ·rename_i hne
   rw [(q8 _).2 ⟨n,h⟩]
   unfold qcg
   split
   ·rename_i heq;cases heq;exact absurd h (hne _)
   ·rfl
 ·intro h
  unfold qcg at h
  split at h
  ·rename_i heq
   obtain ⟨n1,h1⟩:=(q8 _).1 heq
   obtain ⟨n2,h2⟩:=(q8 _).1 h
   refine ⟨max n1 n2,?_⟩
   simp only [qaF]
   rw [qB (CLe.refl _) (Nat.le_max_left n1 n2) _ _ _ h1]
   exact qB (CLe.refl _) (Nat.le_max_right n1 n2) _ _ _ h2
  ·rename_i hne
   obtain ⟨n1,h1⟩:=(q8 _).1 h
   refine ⟨n1,?_⟩
   simp only [qaF]
   rw [h1]
   split
   ·rename_i heq;cases heq;exact absurd h (hne _)
   ·rfl
theorem qll (q:qo) (a b:qC) (s:St):qm base call (.cond q a b) s = match ev s.t q with
  | .bool true=>qm base call a s
  | .bool false=>qm base call b s
  | _=>none:=by
 simp only [qm,qaF]
 generalize ev s.t q = v
 cases v with
 | bool b=>cases b <;> rfl
 | _=>exact qbR _
def qeJ (id:Nat):Option (Ex×St)→Option (Ex×St)
 | some (.exit j,s)=>if j = id then some (.nor,s) else some (.exit j,s)
 | r=>r
theorem qi7 (id:Nat) (b:qC) (s:St):qm base call (.block id b) s = qeJ id (qm base call b s):=by
 apply Option.ext
 intro x
 rw [q8]
 constructor
 ·rintro ⟨n,h⟩
  simp only [qaF] at h
  split at h
  ·rename_i heq
   rw [(q8 _).2 ⟨n,heq⟩]
   exact h
  ·rename_i hne
   rw [(q8 _).2 ⟨n,h⟩]
   unfold qeJ
   split
   ·rename_i heq;cases heq;exact absurd h (hne _ _)
   ·rfl
 ·intro h
  unfold qeJ at h
  split at h
  ·rename_i heq
   obtain ⟨n1,h1⟩:=(q8 _).1 heq
   refine ⟨n1,?_⟩
   simp only [qaF]
   rw [h1]
   exact h
  ·rename_i hne
   obtain ⟨n1,h1⟩:=(q8 _).1 h
   refine ⟨n1,?_⟩
   simp only [qaF]
   rw [h1]
   split
   ·rename_i heq;cases heq;exact absurd h (hne _ _)
   ·rfl
theorem qZ (b:qC) (s:St):qm base call (.loop b) s = qcg (qm base call (.loop b)) (qm base call b s):=by
 apply Option.ext
 intro x
 rw [q8]
 constructor
 ·rintro ⟨n,h⟩
  simp only [qaF] at h
  cases n with
  | zero=>cases h
  | succ n=>
   simp only [iter] at h
   split at h
   ·rename_i heq
    rw [(q8 _).2 ⟨n + 1,heq⟩]
    exact (q8 _).2 ⟨n + 1,qcS (fun s=>Le.refl _) n (n + 1) (by omega) _ _ h⟩
   ·rename_i hne
    rw [(q8 _).2 ⟨n + 1,h⟩]
    unfold qcg
    split
    ·rename_i heq;cases heq;exact absurd h (hne _)
    ·rfl
 ·intro h
  unfold qcg at h
  split at h
  ·rename_i heq
   obtain ⟨n1,h1⟩:=(q8 _).1 heq
   obtain ⟨n2,h2⟩:=(q8 _).1 h
   refine ⟨max n1 n2 + 1,?_⟩
   simp only [qaF,iter] at h2 ⊢
   rw [qB (CLe.refl _) (show n1 ≤ max n1 n2 + 1 by omega) _ _ _ h1]
   exact qcS (fun s=>qB (CLe.refl _) (show n2 ≤ max n1 n2 + 1 by omega) b s) n2 (max n1 n2) (by omega) _ _ h2
  ·rename_i hne
   obtain ⟨n1,h1⟩:=(q8 _).1 h
   refine ⟨n1 + 1,?_⟩
   simp only [qaF,iter]
   rw [qB (CLe.refl _) (Nat.le_succ n1) _ _ _ h1]
   split
   ·rename_i heq;cases heq;exact absurd h (hne _)
   ·rfl
theorem qgn (f:qo) (ps:List Nat) (asg body:qC) (s:St):qm base call (.rfun f ps asg body) s = qaF 0 base call (.rfun f ps asg body) s:=by
 rw [qm]
 exact qbR _
theorem qgz {l:Nat} {args:List qa} {h:List qb} (x:qbv×List qb×Bool):qkJ call l args h = some x↔∃n,round n call l args h = some x:=
 qg2 (fun n m hnm=>qdg (CLe.refl _) hnm) x
def qhf (base l:Nat) (t:List qa) (ps:List Nat) (asg body:qC) (s:St):Ex→Option (qbv×List qb×Bool)
 | .nor=>some (qat base (.ret (.bool true)) (s.h.set l (.loop t ps asg body .ready none)) s.e)
 | .ret=>some (qat base (.ret (.bool false)) (s.h.set l (.loop t ps asg body .done (some .ret))) s.e)
 | .exit id=>some (qat base (.ret (.bool false)) (s.h.set l (.loop t ps asg body .done (some (.exit id)))) s.e)
 | .pan _=>none
theorem qim {l:Nat} {args:List qa} {h:List qb} {t:List qa} {ps:List Nat} {asg body:qC} {st:LSt} {pend:Option qrz} {s:St} {t1:List qa} {ps1:List Nat} {asg1 body1:qC} {pend1:Option qrz} {x:Ex} {s2:St} {t2:List qa} {ps2:List Nat} {asg2 body2:qC} {st2:LSt} {pend2:Option qrz} {r:qbv×List qb×Bool}
  (h0:h[l]? = some (.loop t ps asg body st pend)) (hl:args.length = ps.length) (h1:qm h.length call asg ⟨qiG t ps (args.map qa.dim),h,false⟩ = some (.nor,s))
  (h2:s.h[l]? = some (.loop t1 ps1 asg1 body1 .ready pend1)) (h3:qm h.length call body { s with h:=s.h.set l (.loop t1 ps1 asg1 body1 .busy pend1)} = some (x,s2))
  (h4:s2.h[l]? = some (.loop t2 ps2 asg2 body2 st2 pend2))
  (h5:qhf h.length l t2 ps2 asg2 body2 s2 x = some r):qkJ call l args h = some r:=by
 obtain ⟨n1,e1⟩:=(q8 _).1 h1
 obtain ⟨n2,e2⟩:=(q8 _).1 h3
 refine (qgz _).2 ⟨max n1 n2,?_⟩
 simp only [round,h0]
 rw [if_neg (by simp [hl]),qB (CLe.refl _) (Nat.le_max_left n1 n2) _ _ _ e1]
 simp only [h2]
 rw [qB (CLe.refl _) (Nat.le_max_right n1 n2) _ _ _ e2]
 simp only [h4]
 cases x <;> exact h5
end
section
variable {F:FuncId→Option qt} {X:qeo}
noncomputable def W (F:FuncId→Option qt) (X:qeo):Call:=qm3 (run F X)
structure qkY (X:qeo):Prop where
 mono:qvj X
 cont:∀f g,X f = some g→∀c,qcI c→∀aS h x,g (qm3 c) aS h = some x→∃k,g (c k) aS h = some x
theorem qm9 (hX:qkY X) {fv:qa} {aS:List qa} {h:List qb} (x:qbv×List qb×Bool):W F X fv aS h = some x↔∃n,run F X n fv aS h = some x:=
 qda (qeg hX.mono) x
theorem qEa (hX:qkY X) {f:FuncId} {first args cap:List qa} {h:List qb} {fn:qt} (h1:X f = none) (h2:F f = some fn) :
  W F X (.fn f first cap) args h = qi3 fn h (qm h.length (W F X) fn.code ⟨(first ++ args ++ cap).map qa.dim ++ List.replicate (fn.ntmps - ((first ++ args ++ cap).map qa.dim).length) (.tup []),h,false⟩):=by
 have hch:=qeg (F:=F) hX.mono
 apply Option.ext
 intro x
 rw [qm9 hX]
 constructor
 ·rintro ⟨n,hn⟩
  cases n with
  | zero=>cases hn
  | succ n=>
   rw [qvb h1 h2] at hn
   cases hq:qaF n h.length (run F X n) fn.code ⟨(first ++ args ++ cap).map qa.dim ++ List.replicate (fn.ntmps - ((first ++ args ++ cap).map qa.dim).length) (.tup []),h,false⟩ with
   | none=>rw [hq] at hn;cases hn
   | some y=>
    rw [hq] at hn
    have e:=(q8 y).2 ⟨n,qB (qjw hch n) (Nat.le_refl _) _ _ _ hq⟩
    rw [W,e]
    exact hn
 ·intro hn
  cases hq:qm h.length (W F X) fn.code ⟨(first ++ args ++ cap).map qa.dim ++ List.replicate (fn.ntmps - ((first ++ args ++ cap).map qa.dim).length) (.tup []),h,false⟩ with
  | none=>rw [hq] at hn;cases hn
  | some y=>
   rw [hq] at hn
   obtain ⟨k,hk⟩:=(q8 y).1 hq
   obtain ⟨m,hm⟩:=qam hch _ _ _ hk
   refine ⟨max k m + 1,?_⟩
   rw [qvb h1 h2,qB (hch m _ (Nat.le_max_right k m)) (Nat.le_max_left k m) _ _ _ hm]
   exact hn
theorem qvi (hX:qkY X) {f:FuncId} {first args cap:List qa} {h:List qb} {g:Call→List qa→List qb→Option (qbv×List qb×Bool)} (h1:X f = some g) :
  W F X (.fn f first cap) args h = g (W F X) (first ++ args ++ cap) h:=by
 have hch:=qeg (F:=F) hX.mono
 apply Option.ext
 intro x
 rw [qm9 hX]
 constructor
 ·rintro ⟨n,hn⟩
  cases n with
  | zero=>cases hn
  | succ n=>
   rw [qqX h1] at hn
   exact hX.mono f g h1 _ _ (qjw hch n) _ _ _ hn
 ·intro hn
  obtain ⟨k,hk⟩:=hX.cont f g h1 _ hch _ _ _ hn
  exact ⟨k + 1,by rw [qqX h1];exact hk⟩
theorem qA2 (hX:qkY X) {l:Nat} {args:List qa} {h:List qb}:W F X (.yld l) args h = qkJ (W F X) l args h:=by
 have hch:=qeg (F:=F) hX.mono
 apply Option.ext
 intro x
 rw [qm9 hX,qgz]
 constructor
 ·rintro ⟨n,hn⟩
  cases n with
  | zero=>cases hn
  | succ n=>exact ⟨n,qdg (qjw hch n) (Nat.le_refl _) _ hn⟩
 ·rintro ⟨k,hk⟩
  obtain ⟨m,hm⟩:=qmH hch hk
  exact ⟨max k m + 1,qdg (hch m _ (Nat.le_max_right k m)) (Nat.le_max_left k m) _ hm⟩
end
def lkp (t:List qa) (i:Nat):qa:=t.getD i .undef
section
variable {base:Nat} {call:Call} {p:qbW} {s:St} {t:List qa} {h:List qb}
theorem qEj (t:List qa) (i:Nat):ev t (.t i) = (lkp t i).dim:=rfl
theorem qEi (t:List qa) (v:qa):ev t (.c v) = v.dim:=rfl
theorem qDb (t:List qa) (i:Nat):raw t (.t i) = lkp t i:=rfl
theorem qDa (t:List qa) (v:qa):raw t (.c v) = v:=rfl
def up (t:List qa) (i:Nat) (v:qa):List qa:=t.set i v
theorem qc (t:List qa) (i:Nat) (v:qa):(up t i v).length = t.length:=by simp [up]
theorem qw6 {i:Nat} {v:qa} (h:i < t.length):lkp (up t i v) i = v:=by simp [lkp,up,List.getD,h]
theorem qw7 {i j:Nat} {v:qa} (h:i ≠ j):lkp (up t i v) j = lkp t j:=by simp [lkp,up,List.getD,List.getElem?_set_ne h]
theorem qpR (a:qa) (t:List qa):lkp (a :: t) 0 = a:=rfl
theorem qpQ (a:qa) (t:List qa) (i:Nat):lkp (a :: t) (i + 1) = lkp t i:=rfl
theorem qt1 (d:Nat) (v:qa) (t:List qa):put (some d) v t = up t d v:=rfl
theorem qt0 (v:qa) (t:List qa):put none v t = t:=rfl
theorem qnR:qa.undef.dim = .undef:=rfl
theorem qr7 (b:Bool):(qa.bool b).dim = .bool b:=rfl
theorem qv8 (k:IntKind) (n:Int):(qa.int k n).dim = .int k n:=rfl
theorem qwb (s:List UInt8):(qa.str s).dim = .str s:=rfl
theorem qlc:qa.nilptr.dim = .nilptr:=rfl
theorem qwa (i o:Nat):(qa.ptr i o).dim = .ptr i o:=rfl
theorem qr9 (cs:List qa) (o:Nat):(qa.iptr cs o).dim = .iptr cs o:=rfl
theorem qza (xs:List qa):(qa.lst xs .no).dim = .lst xs .no:=rfl
theorem qr8 (xs:List qa):(qa.lst xs .full).dim = .lst xs .full:=rfl
theorem qv9 (xs:List qa) (k:Nat):(qa.lst xs (.own k)).dim = .lst xs .no:=rfl
theorem qi0:qa.nilfunc.dim = .nilfunc:=rfl
theorem qy8 (f:FuncId) (a b:List qa):(qa.fn f a b).dim = .fn f a b:=rfl
theorem qwd (i:Nat):(qa.yld i).dim = .yld i:=rfl
theorem qhG:qa.niliface.dim = .niliface:=rfl
theorem qnQ (t:TypeId) (v:qa):(qa.iface t v).dim = .iface t v:=rfl
theorem qv7 (cs:List qa):(qa.agg cs).dim = .agg cs:=rfl
theorem qwc (cs:List qa):(qa.tup cs).dim = .tup cs:=rfl
theorem qhH (v:qa):v.dim.dim = v.dim:=by
 cases v with
 | lst xs f=>cases f <;> rfl
 | _=>rfl
def qfS (dst:Option Nat) (s:St):Option qa→Option (Ex×St)
 | some v=>some (.nor,{ s with t:=put dst v s.t})
 | none=>none
theorem qqJ (dst:Option Nat) (t:List qa) (h:List qb) (e:Bool) (v:qa):qfS dst ⟨t,h,e⟩ (some v) = some (.nor,⟨put dst v t,h,e⟩):=rfl
theorem qrp (f:St→Option (Ex×St)) (s:St):qcg f (some (.nor,s)) = f s:=rfl
theorem qrr (f:St→Option (Ex×St)) (s:St):qcg f (some (.ret,s)) = some (.ret,s):=rfl
theorem qmW (f:St→Option (Ex×St)) (id:Nat) (s:St):qcg f (some (.exit id,s)) = some (.exit id,s):=rfl
theorem qrq (f:St→Option (Ex×St)) (v:qa) (s:St):qcg f (some (.pan v,s)) = some (.pan v,s):=rfl
theorem qk1 (id:Nat) (s:St):qeJ id (some (.nor,s)) = some (.nor,s):=rfl
theorem qk3 (id:Nat) (s:St):qeJ id (some (.ret,s)) = some (.ret,s):=rfl
theorem qk2 (id:Nat) (v:qa) (s:St):qeJ id (some (.pan v,s)) = some (.pan v,s):=rfl
theorem qiS (id j:Nat) (s:St):qeJ id (some (.exit j,s)) = if j = id then some (.nor,s) else some (.exit j,s):=rfl
def qvW (v:qa) (a b:Option (Ex×St)):Option (Ex×St):=
 match v with
 | .bool true=>a
 | .bool false=>b
 | _=>none
theorem qsO (q:qo) (a b:qC) (s:St):qm base call (.cond q a b) s = qvW (ev s.t q) (qm base call a s) (qm base call b s):=qll q a b s
def qks (v:qa) (b:Bool) (yes no:Option (Ex×St)):Option (Ex×St):=
 match v with
 | .bool c=>if c == b then yes else no
 | .tup []=>no
 | _=>none
theorem qxP:qax base call p [] s = some (.nor,s):=rfl
theorem qkE (d:Option Nat) (o:AOp) (os:List qU):qax base call p (⟨d,o,none⟩ :: os) s = qcg (qax base call (qar p ⟨d,o,none⟩) os) (qu base call p d o s):=by
 simp only [qax,wanted]
 unfold qcg
 split <;> split <;> simp_all
theorem qif (d:Option Nat) (o:AOp) (j:Nat) (b:Bool) (os:List qU) :
  qax base call p (⟨d,o,some (j,b)⟩ :: os) s = qks (lkp s.t j) b (qcg (qax base call (qar p ⟨d,o,some (j,b)⟩) os) (qu base call p d o s))
   (qax base call (qar p { dst:=d,op:=.pick (.c .undef) (.c .undef) (.c .undef),guard:=some (j,b)}) os { s with t:=put d (.tup []) s.t}):=by
 simp only [qax,wanted,lkp]
 generalize s.t.getD j .undef = v
 cases v with
 | bool c=>
  simp only [qks]
  cases hc:c == b with
  | false=>simp
  | true=>
   simp only [if_true]
   unfold qcg
   split <;> split <;> simp_all
 | tup vs=>cases vs <;> rfl
 | _=>rfl
theorem qAf (d:Option Nat) (x:qo):qu base call p d (.mov x) s = some (.nor,{ s with t:=put d (ev s.t x) s.t}):=rfl
theorem qz9 (d:Option Nat) (x:qo):qu base call p d (.asg x) s = some (.nor,{ s with t:=put d (raw s.t x) (qao s.t x)}):=rfl
def qbJ (v a b:qa):Option qa:=
 match v with
 | .bool true=>some a
 | .bool false=>some b
 | _=>none
theorem qmq (a b:qa):qbJ (.bool true) a b = some a:=rfl
theorem qjJ (a b:qa):qbJ (.bool false) a b = some b:=rfl
theorem qp9 (d:Option Nat) (c a b:qo):qu base call p d (.pick c a b) s = qfS d s (qbJ (ev s.t c) (ev s.t a) (ev s.t b)):=by
 simp only [qu,pureV]
 generalize ev s.t c = v
 cases v with
 | bool b=>cases b <;> rfl
 | _=>rfl
theorem qaU (d:Option Nat) (o:AOp) (ho:o.effs = false) (h1:∀cs,o ≠ .new cs) (h2:∀k x,o ≠ .box k x) (h3:∀k x,o ≠ .ld k x) (h4:∀sh z ok m key,o ≠ .lk sh z ok m key:=by simp):qu base call p d o s = qfS d s (pureV s.t o):=by
 cases o <;> first | exact absurd rfl (h4 _ _ _ _ _) | (simp [AOp.effs] at ho h1 h2 h3 <;> (simp only [qu];cases pureV s.t _ <;> rfl))
def faV (off:Nat):qa→Option qa
 | .ptr i o=>some (.ptr i (o + off))
 | .iptr cs o=>some (.iptr cs (o + off))
 | _=>none
theorem qwt (off i o:Nat):faV off (.ptr i o) = some (.ptr i (o + off)):=rfl
theorem qsS (off o:Nat) (cs:List qa):faV off (.iptr cs o) = some (.iptr cs (o + off)):=rfl
theorem qAb (d:Option Nat) (off:Nat) (a:qo):qu base call p d (.fa off a) s = qfS d s (faV off (ev s.t a)):=by
 rw [qaU _ _ rfl (by simp) (by simp) (by simp)]
 simp only [pureV]
 cases ev s.t a <;> rfl
theorem quY (d:Option Nat) (op:BinOp) (x y:qo):qu base call p d (.bin op x y) s = qfS d s (qbm op (ev s.t x) (ev s.t y)):=qaU _ _ rfl (by simp) (by simp) (by simp)
theorem qAj (d:Option Nat) (op:UnOp) (x:qo):qu base call p d (.un op x) s = qfS d s (unV op (ev s.t x)):=qaU _ _ rfl (by simp) (by simp) (by simp)
def qgi:qa→Option qa
 | .ptr i o=>some (.ptr i o)
 | .iptr cs o=>some (.iptr cs o)
 | .fn f a b=>some (.fn f a b)
 | .yld l=>some (.yld l)
 | .iface u v=>some (.iface u v)
 | _=>none
theorem qp8 (d:Option Nat) (x:qo):qu base call p d (.nilc x) s = qfS d s (qgi (ev s.t x)):=by
 rw [qaU _ _ rfl (by simp) (by simp) (by simp)]
 simp only [pureV]
 cases ev s.t x <;> rfl
theorem qp5 (i o:Nat):qgi (.ptr i o) = some (.ptr i o):=rfl
theorem qmj (cs:List qa) (o:Nat):qgi (.iptr cs o) = some (.iptr cs o):=rfl
def qbb (b:Bool) (v:qa):Option qa:=
 match b,v with
 | true,.str s=>some (.int .i64 s.length)
 | false,.lst xs _=>some (.int .i64 xs.length)
 | false,.sl _ _ len _ _=>some (.int .i64 len)
 | false,.nils=>some (.int .i64 0)
 | false,.empt=>some (.int .i64 0)
 | _,_=>none
theorem qu6 (d:Option Nat) (b:Bool) (x:qo):qu base call p d (.len b x) s = qfS d s (qbb b (ev s.t x)):=by
 rw [qaU _ _ rfl (by simp) (by simp) (by simp)]
 cases b <;> simp only [pureV] <;> cases ev s.t x <;> rfl
theorem qty (s:List UInt8):qbb true (.str s) = some (.int .i64 s.length):=rfl
theorem qtx (xs:List qa) (f:qdO):qbb false (.lst xs f) = some (.int .i64 xs.length):=rfl
def qav (k:Nat) (s i:qa):Option qa:=
 match s,i with
 | .lst xs _,.int _ n=>
  if 0 ≤ n∧n < xs.length then
   match xs[n.toNat]? with
   | some x=>if x.cells.length = k then some (.iptr x.cells 0) else none
   | none=>none
  else none
 | .sl id o len _ _,.int _ n=>if 0 ≤ n∧n < len then some (.ptr id (o + n.toNat * k)) else none
 | _,_=>none
theorem qp7 (d:Option Nat) (k:Nat) (x i:qo):qu base call p d (.ixaL k x i) s = qfS d s (qav k (ev s.t x) (ev s.t i)):=by
 rw [qaU _ _ rfl (by simp) (by simp) (by simp)]
 simp only [pureV]
 cases ev s.t x <;> cases ev s.t i <;> rfl
theorem qaM {k:Nat} {xs:List qa} {f:qdO} {j:IntKind} {n:Nat} {x:qa} (hx:xs[n]? = some x) (hk:x.cells.length = k):qav k (.lst xs f) (.int j n) = some (.iptr x.cells 0):=by
 have hn:n < xs.length:=(List.getElem?_eq_some_iff.1 hx).1
 simp only [qav,Int.toNat_natCast,hx]
 rw [if_pos ⟨by omega,by omega⟩,if_pos hk]
def qsU (off:Nat) (k:Option Nat):qa→Option qa
 | .agg cs=>cut cs off k
 | _=>none
theorem qsV (off:Nat) (k:Option Nat) (cs:List qa):qsU off k (.agg cs) = cut cs off k:=rfl
theorem qu3 (d:Option Nat) (off:Nat) (k:Option Nat) (x:qo):qu base call p d (.fld off k x) s = qfS d s (qsU off k (ev s.t x)):=by
 rw [qaU _ _ rfl (by simp) (by simp) (by simp)]
 simp only [pureV]
 cases ev s.t x <;> rfl
theorem qtK (d:Option Nat) (z:List qa) (ps:List (Nat×Nat×qo)):qu base call p d (.build z ps) s = qfS d s ((qaK z (ps.map fun (o,n,x)=>(o,n,ev s.t x))).map .agg):=qaU _ _ rfl (by simp) (by simp) (by simp)
theorem qAg (d:Option Nat) (cs:List qa):qu base call p d (.new cs) s = some (.nor,{ s with t:=put d (.ptr s.h.length 0) s.t,h:=s.h ++ [.cells (cs.map qa.dim)]}):=rfl
theorem qAc (d:Option Nat) (k:Option Nat) (a:qo):qu base call p d (.ld k a) s = qfS d s (qbQ s.h (ev s.t a) k):=by
 simp only [qu]
 cases qbQ s.h (ev s.t a) k <;> rfl
theorem qpt (cs:List qa) (o:Nat) (k:Option Nat):qbQ h (.iptr cs o) k = cut cs o k:=rfl
theorem qe9 {i o:Nat} {k:Option Nat} {cs:List qa} (hi:h[i]? = some (.cells cs)):qbQ h (.ptr i o) k = cut cs o k:=by simp only [qbQ,hi]
theorem qkh (cs:List qa) (o:Nat):cut cs o none = (cs[o]?).map qa.dim:=rfl
theorem qgR {cs:List qa} {o k:Nat} (h:o + k ≤ cs.length):cut cs o (some k) = some (.agg (((cs.drop o).take k).map qa.dim)):=if_pos h
def stV (base:Nat) (k:Option Nat) (a v:qa) (h:List qb):Option (List qb×Bool):=
 match a with
 | .ptr id o=>
  match h[id]? with
  | some (.cells cs)=>
   let vs:=match k with | none=>[v] | some _=>v.dim.cells.map qa.dim
   if vs.length = k.getD 1∧o + vs.length ≤ cs.length∧vs.all qa.storable then
    some (h.set id (.cells (splice cs o vs)),!(Nat.ble base id || qv (id + 1) vs))
   else none
  | _=>none
 | _=>none
def stW (d:Option Nat) (t:List qa) (e:Bool):Option (List qb×Bool)→Option (Ex×St)
 | some (h,e')=>some (.nor,{ t:=put d .undef t,h,e:=e || e'})
 | none=>none
theorem quc (d:Option Nat) (t:List qa) (e e':Bool) (h:List qb):stW d t e (some (h,e')) = some (.nor,⟨put d .undef t,h,e || e'⟩):=rfl
theorem qC3 (d:Option Nat) (k:Option Nat) (a x:qo):qu base call p d (.st k a x) s = stW d (qao s.t x) s.e (stV base k (ev s.t a) (raw s.t x) s.h):=by
 simp only [qu,stV]
 cases ev s.t a with
 | ptr id o=>
  simp only
  cases s.h[id]? with
  | none=>rfl
  | some b=>
   cases b with
   | cells cs=>cases k <;> (simp only;split <;> rfl)
   | _=>rfl
 | _=>rfl
end
section
variable {base:Nat} {call:Call} {p:qbW} {s:St} {t:List qa} {h:List qb}
def qvR (d:Option Nat) (s:St):Option (qbv×List qb×Bool)→Option (Ex×St)
 | some (.ret v,h,e)=>some (.nor,{ t:=put d v.dim s.t,h,e:=s.e || e})
 | some (.pan v,h,e)=>some (.pan v,{ s with h,e:=s.e || e})
 | none=>none
theorem qxN (d:Option Nat) (f:qo) (args:List qo):qu base call p d (.call f args) s = qvR d s (call (ev s.t f) (args.map (ev s.t)) s.h):=by
 simp only [qu]
 cases call (ev s.t f) (args.map (ev s.t)) s.h with
 | none=>rfl
 | some r=>obtain ⟨r,h,e⟩:=r;cases r <;> rfl
theorem qnk (d:Option Nat) (t:List qa) (h h':List qb) (e e':Bool) (v:qa):qvR d ⟨t,h,e⟩ (some (.ret v,h',e')) = some (.nor,⟨put d v.dim t,h',e || e'⟩):=rfl
theorem qnj (d:Option Nat) (t:List qa) (h h':List qb) (e e':Bool) (v:qa):qvR d ⟨t,h,e⟩ (some (.pan v,h',e')) = some (.pan v,⟨t,h',e || e'⟩):=rfl
theorem qQ (h l:List qb):(h ++ l)[h.length]? = l[0]?:=by rw [List.getElem?_append_right (Nat.le_refl _),Nat.sub_self]
theorem qaL (h l:List qb) (k:Nat):(h ++ l)[h.length + k]? = l[k]?:=by rw [List.getElem?_append_right (by omega),Nat.add_sub_cancel_left]
theorem qvc (h l:List qb) (b:qb):(h ++ l).set h.length b = h ++ l.set 0 b:=by rw [List.set_append_right _ _ (Nat.le_refl _),Nat.sub_self]
theorem qkO (h l:List qb) (k:Nat) (b:qb):(h ++ l).set (h.length + k) b = h ++ l.set k b:=by rw [List.set_append_right _ _ (by omega),Nat.add_sub_cancel_left]
theorem qwB {h l:List qb} {i:Nat} (hi:i < h.length):(h ++ l)[i]? = h[i]?:=List.getElem?_append_left hi
theorem qx5 {h l:List qb} {i:Nat} {b:qb} (hi:i < h.length):(h ++ l).set i b = h.set i b ++ l:=List.set_append_left _ _ hi
theorem qpw {n:Nat} {h l:List qb} {v:qa} (hl:h.length = n) (hv:v.lower n = true):qat n (.ret v) (h ++ l) false = (.ret v,h,false):=by subst hl;simp [qat,hv]
theorem ql4 {n:Nat} {h:List qb} {v:qa} (hl:h.length = n) (hv:v.lower n = true):qat n (.ret v) h false = (.ret v,h,false):=by subst hl;simp [qat,hv]
theorem qpv {n:Nat} {h l:List qb} {v:qa} (hl:h.length = n) (hv:v.lower n = true):qat n (.pan v) (h ++ l) false = (.pan v,h,false):=by subst hl;simp [qat,hv]
theorem ql3 {n:Nat} {h:List qb} {v:qa} (hl:h.length = n) (hv:v.lower n = true):qat n (.pan v) h false = (.pan v,h,false):=by subst hl;simp [qat,hv]
theorem qH {n:Nat} {H h:List qb} {v:qa} (hc:H.take n = h) (hv:v.lower n = true):qat n (.ret v) H false = (.ret v,h,false):=by simp [qat,hv,hc]
theorem qq1 (h:List qb) (i:Nat) (a b:qb):(h.set i a).set i b = h.set i b:=List.set_set ..
theorem qwA {h l:List qb} {n:Nat} (hl:h.length = n):(h ++ l)[n]? = l[0]?:=by subst hl;exact qQ h l
theorem qx4 {h l:List qb} {n:Nat} {b:qb} (hl:h.length = n):(h ++ l).set n b = h ++ l.set 0 b:=by subst hl;exact qvc h l b
theorem qoC {h l:List qb} {n k:Nat} (hl:h.length = n):(h ++ l)[n + k]? = l[k]?:=by subst hl;exact qaL h l k
theorem qq0 {h l:List qb} {n k:Nat} {b:qb} (hl:h.length = n):(h ++ l).set (n + k) b = h ++ l.set k b:=by subst hl;exact qkO h l k b
theorem qlu {h:List qb} {i j:Nat} {b:qb} (hij:i ≠ j):(h.set i b)[j]? = h[j]?:=List.getElem?_set_ne hij
theorem qwC {h:List qb} {i:Nat} {b:qb} (hi:i < h.length):(h.set i b)[i]? = some b:=List.getElem?_set_self hi
end
section
variable {base:Nat} {call:Call} {p:qbW} {s:St}
def qDw (d:Option Nat) (s:St) (k:Nat) (vs:List qa):Option (Ex×St):=
 if vs.length = k∧vs.all qa.storable then some (.nor,{ s with t:=put d (.ptr s.h.length 0) s.t,h:=s.h ++ [.cells vs]}) else none
theorem qAa (d:Option Nat) (k:Nat) (x:qo):qu base call p d (.box k x) s = qDw d s k ((ev s.t x).cells.map qa.dim):=rfl
theorem qvK (d:Option Nat) (t:List qa) (h:List qb) (e:Bool) (k:Nat) (vs:List qa):qDw d ⟨t,h,e⟩ k vs = if vs.length = k∧vs.all qa.storable then some (.nor,⟨put d (.ptr h.length 0) t,h ++ [.cells vs],e⟩) else none:=rfl
def qrD (ty:TypeId) (v:qa):Option qa:=
 match v with
 | .undef=>none
 | v=>some (.iface ty v)
theorem qu7 (d:Option Nat) (ty:TypeId) (x:qo):qu base call p d (.mkI ty x) s = qfS d s (qrD ty (ev s.t x)):=by
 rw [qaU _ _ rfl (by simp) (by simp) (by simp)]
 simp only [pureV]
 cases ev s.t x <;> rfl
theorem qtG (ty:TypeId) (cs:List qa):qrD ty (.agg cs) = some (.iface ty (.agg cs)):=rfl
theorem qtH (ty:TypeId) (k:IntKind) (n:Int):qrD ty (.int k n) = some (.iface ty (.int k n)):=rfl
theorem qAd (d:Option Nat) (f:FuncId) (a b:List qo):qu base call p d (.mkF f a b) s = some (.nor,{ s with t:=put d (.fn f (a.map (ev s.t)) (b.map (ev s.t))) s.t}):=rfl
def qhl (s i:qa):Option qa:=
 match s,i with
 | .str l,.int _ n=>if 0 ≤ n then (l[n.toNat]?).map fun b=>.int .u8 b.toNat else none
 | _,_=>none
theorem qu5 (d:Option Nat) (x i:qo):qu base call p d (.ixS x i) s = qfS d s (qhl (ev s.t x) (ev s.t i)):=by
 rw [qaU _ _ rfl (by simp) (by simp) (by simp)]
 simp only [pureV]
 cases ev s.t x <;> cases ev s.t i <;> rfl
theorem qkt {l:List UInt8} {k:IntKind} {n:Nat} {b:UInt8} (h:l[n]? = some b):qhl (.str l) (.int k n) = some (.int .u8 b.toNat):=by
 simp only [qhl,Int.toNat_natCast,h,Option.map_some]
 rw [if_pos (Int.natCast_nonneg n)]
def qsQ (i:Nat) (v:qa):Option qa:=
 match v with
 | .tup vs=>(vs[i]?).map qa.dim
 | _=>none
theorem qu2 (d:Option Nat) (x:qo) (i:Nat):qu base call p d (.ext x i) s = qfS d s (qsQ i (ev s.t x)):=by
 rw [qaU _ _ rfl (by simp) (by simp) (by simp)]
 simp only [pureV]
 cases ev s.t x <;> rfl
theorem qsR (i:Nat) (vs:List qa):qsQ i (.tup vs) = (vs[i]?).map qa.dim:=rfl
def qi5 (neg:Bool) (x y:qa):Option qa:=
 match x,y with
 | .bool a,.bool b=>some (.bool ((a == b) != neg))
 | _,_=>none
theorem qu0 (d:Option Nat) (neg:Bool) (x y:qo):qu base call p d (.eqb neg x y) s = qfS d s (qi5 neg (ev s.t x) (ev s.t y)):=by
 rw [qaU _ _ rfl (by simp) (by simp) (by simp)]
 simp only [pureV]
 cases ev s.t x <;> cases ev s.t y <;> rfl
theorem qof (neg a b:Bool):qi5 neg (.bool a) (.bool b) = some (.bool ((a == b) != neg)):=rfl
def qgm (k:Nat) (neg:Bool) (x y:qa):Option qa:=(qyC k x y).map fun b=>.bool (b != neg)
theorem qu1 (d:Option Nat) (k:Nat) (neg:Bool) (x y:qo):qu base call p d (.eqi k neg x y) s = qfS d s (qgm k neg (ev s.t x) (ev s.t y)):=qaU _ _ rfl (by simp) (by simp) (by simp)
def qr2 (k:IntKind) (v:qa):Option qa:=
 match v with
 | .int _ n=>some (.int k (k.wrap n))
 | _=>none
theorem quZ (d:Option Nat) (k:IntKind) (x:qo):qu base call p d (.cvi k x) s = qfS d s (qr2 k (ev s.t x)):=by
 rw [qaU _ _ rfl (by simp) (by simp) (by simp)]
 simp only [pureV]
 cases ev s.t x <;> rfl
theorem qr3 (k j:IntKind) (n:Int):qr2 k (.int j n) = some (.int k (k.wrap n)):=rfl
def mmV (isMax:Bool) (x y:qa):Option qa:=
 match x,y with
 | .int k a,.int _ b=>some (.int k (if isMax then (if b > a then b else a) else (if b < a then b else a)))
 | _,_=>none
theorem qAe (d:Option Nat) (m:Bool) (x y:qo):qu base call p d (.mm m x y) s = qfS d s (mmV m (ev s.t x) (ev s.t y)):=by
 rw [qaU _ _ rfl (by simp) (by simp) (by simp)]
 simp only [pureV]
 cases ev s.t x <;> cases ev s.t y <;> rfl
theorem qp1 (k j:IntKind) (a b:Int):mmV true (.int k a) (.int j b) = some (.int k (if b > a then b else a)):=rfl
theorem qzT (k j:IntKind) (a b:Nat):mmV true (.int k (a:Int)) (.int j (b:Int)) = some (.int k ((max a b:Nat):Int)):=by
 simp only [mmV,if_true]
 congr 2
 split <;> omega
theorem qxb (k j:IntKind) (a b:Int):mmV false (.int k a) (.int j b) = some (.int k (if b < a then b else a)):=rfl
def qD8 (s:St) (v:qa):Option (Ex×St):=
 match v with
 | .iface u v=>some (.pan (.iface u v),s)
 | _=>none
theorem qAh (d:Option Nat) (x:qo):qu base call p d (.pan x) s = qD8 s (ev s.t x):=by
 simp only [qu]
 cases ev s.t x <;> rfl
theorem qmp (s:St) (u:TypeId) (v:qa):qD8 s (.iface u v) = some (.pan (.iface u v),s):=rfl
end
section
variable {base:Nat} {call:Call} {p:qbW} {s:St}
def qhW (len:Nat) (k:Option Nat) (a i:qa):Option qa:=
 match a,i with
 | .agg cs,.int _ n=>if 0 ≤ n∧n < (len:Int) then cut cs (n.toNat * k.getD 1) k else none
 | _,_=>none
theorem qu4 (d:Option Nat) (len:Nat) (k:Option Nat) (a i:qo):qu base call p d (.ixA len k a i) s = qfS d s (qhW len k (ev s.t a) (ev s.t i)):=by
 rw [qaU _ _ rfl (by simp) (by simp) (by simp)]
 simp only [pureV]
 cases ev s.t a <;> cases ev s.t i <;> rfl
theorem qtq {len n:Nat} {j:IntKind} {cs:List qa} {v:qa} (hn:n < len) (hv:cs[n]? = some v):qhW len none (.agg cs) (.int j n) = some v.dim:=by
 simp only [qhW]
 rw [if_pos ⟨by omega,by omega⟩]
 simp only [Int.toNat_natCast,Option.getD_none,Nat.mul_one,qkh,hv,Option.map_some]
end
section
variable {base:Nat} {call:Call} {p q:qbW} {s:St} {t:List qa} {h:List qb}
def AOp.isApp:AOp→Bool
 | .app ..=>true
 | _=>false
def qjC:List qU→Bool
 | []=>true
 | o :: os=>!o.op.isApp && qjC os
def qbA (s:St):AOp→Option qa
 | .mov x=>some (ev s.t x)
 | .pick c a b=>qbJ (ev s.t c) (ev s.t a) (ev s.t b)
 | .ld k a=>qbQ s.h (ev s.t a) k
 | .bin op x y=>qbm op (ev s.t x) (ev s.t y)
 | .un op x=>unV op (ev s.t x)
 | .fa off a=>faV off (ev s.t a)
 | .nilc x=>qgi (ev s.t x)
 | .len b x=>qbb b (ev s.t x)
 | .ixaL k x i=>qav k (ev s.t x) (ev s.t i)
 | .fld off k x=>qsU off k (ev s.t x)
 | .ixS x i=>qhl (ev s.t x) (ev s.t i)
 | .ixA l k a i=>qhW l k (ev s.t a) (ev s.t i)
 | .ext x i=>qsQ i (ev s.t x)
 | .eqb n x y=>qi5 n (ev s.t x) (ev s.t y)
 | .eqi k n x y=>qgm k n (ev s.t x) (ev s.t y)
 | .cvi k x=>qr2 k (ev s.t x)
 | .mm m x y=>mmV m (ev s.t x) (ev s.t y)
 | .mkI t x=>qrD t (ev s.t x)
 | .lk sh z ok m key=>qky s.h sh z ok (ev s.t m) (ev s.t key)
 | o=>pureV s.t o
def AOp.plain:AOp→Bool
 | .asg .. | .new .. | .box .. | .st .. | .call .. | .app .. | .pan .. | .hx ..=>false
 | _=>true
theorem qjR {d:Option Nat} {o:AOp} (ho:o.plain = true):qu base call p d o s = qfS d s (qbA s o):=by
 cases o <;> simp only [AOp.plain,Bool.false_eq_true] at ho
 case mov=>rfl
 case pick=>exact qp9 _ _ _ _
 case ld=>exact qAc _ _ _
 case bin=>exact quY _ _ _ _
 case un=>exact qAj _ _ _
 case fa=>exact qAb _ _ _
 case nilc=>exact qp8 _ _
 case len=>exact qu6 _ _ _
 case ixaL=>exact qp7 _ _ _ _
 case fld=>exact qu3 _ _ _ _
 case ixS=>exact qu5 _ _ _
 case ixA=>exact qu4 _ _ _ _ _
 case ext=>exact qu2 _ _ _
 case eqb=>exact qu0 _ _ _ _
 case eqi=>exact qu1 _ _ _ _ _
 case cvi=>exact quZ _ _ _
 case mm=>exact qAe _ _ _ _
 case mkI=>exact qu7 _ _ _
 case lk sh z ok m key=>simp only [qu,qbA];generalize qky s.h sh z ok (ev s.t m) (ev s.t key) = r;cases r <;> rfl
 all_goals (simp only [qu,qbA];generalize pureV s.t _ = r;cases r <;> rfl)
theorem qgB {d:Option Nat} {o:AOp} (ho:o.isApp = false):qu base call p d o s = qu base call q d o s:=by
 cases o <;> first | rfl | (simp [AOp.isApp] at ho)
def gv (q:Bool) (v:qa):qa:=bif q then v else .tup []
def qj (q:Bool) (d:Option Nat) (s:St) (r:Option qa) (k:St→Option (Ex×St)):Option (Ex×St):=
 bif q then (match r with | some v=>k { s with t:=put d v s.t} | none=>none) else k { s with t:=put d (.tup []) s.t}
def qak (c:Bool) (r:Option qa):Option qa:=bif c then r else some (.tup [])
def qfD (g:qa) (b:Bool) (d:Option Nat) (s:St) (r:Option qa) (k:St→Option (Ex×St)):Option (Ex×St):=
 match g with
 | .bool c=>qj (c == b) d s r k
 | .tup []=>qj false d s r k
 | _=>none
def qfC (g:qa) (b:Bool) (d:Option Nat) (s:St) (r:Option (Ex×St)) (k:St→Option (Ex×St)):Option (Ex×St):=
 match g with
 | .bool c=>bif c == b then qcg k r else k { s with t:=put d (.tup []) s.t}
 | .tup []=>k { s with t:=put d (.tup []) s.t}
 | _=>none
def qip (base:Nat) (call:Call):List qU→St→Option (Ex×St)
 | [],s=>some (.nor,s)
 | o :: os,s=>
  match o.guard with
  | none=>qcg (qip base call os) (qu base call [] o.dst o.op s)
  | some (j,b)=>
   match o.op.plain with
   | true=>qfD (lkp s.t j) b o.dst s (qbA s o.op) (qip base call os)
   | false=>qfC (lkp s.t j) b o.dst s (qu base call [] o.dst o.op s) (qip base call os)
theorem qkL:∀(os:List qU) (p:qbW) (s:St),qjC os = true→qax base call p os s = qip base call os s
 | [],p,s,_=>rfl
 | o :: os,p,s,hn=>by
  simp only [qjC,Bool.and_eq_true,Bool.not_eq_true'] at hn
  obtain ⟨d,op,g⟩:=o
  have ih:=fun p s=>qkL os p s hn.2
  cases g with
  | none=>
   simp only [qkE,qip]
   rw [qgB (q:=[]) hn.1]
   congr 1
   funext s
   exact ih _ s
  | some jb=>
   obtain ⟨j,b⟩:=jb
   simp only [qif,qip]
   have e1:(qax base call (qar p ⟨d,op,some (j,b)⟩) os) = qip base call os:=funext fun s=>ih _ s
   rw [e1,ih,qgB (q:=[]) hn.1]
   cases hpl:op.plain with
   | true=>
    simp only
    rw [qjR hpl]
    generalize qbA s op = r
    generalize lkp s.t j = g
    cases g with
    | bool c=>
     simp only [qks,qfD,qj]
     cases c == b with
     | true=>cases r <;> rfl
     | false=>rfl
    | tup vs=>cases vs <;> rfl
    | _=>rfl
   | false=>
    simp only
    generalize lkp s.t j = g
    cases g with
    | bool c=>
     simp only [qks,qfC]
     cases c == b <;> rfl
    | tup vs=>cases vs <;> rfl
    | _=>rfl
theorem qDc {ops:List qU} (hn:qjC ops = true):qm base call (.reg ops) s = qip base call ops s:=by
 rw [qhM,qkL ops [] s hn]
theorem qxY {ops:List qU} (_hn:qjC ops = false):qm base call (.reg ops) s = qax base call [] ops s:=qhM ops s
theorem qC9:qip base call [] s = some (.nor,s):=rfl
theorem qAm (d:Option Nat) (o:AOp) (os:List qU):qip base call (⟨d,o,none⟩ :: os) s = qcg (qip base call os) (qu base call [] d o s):=rfl
theorem qxW (d:Option Nat) (o:AOp) (j:Nat) (b:Bool) (os:List qU) (ho:o.plain = true):qip base call (⟨d,o,some (j,b)⟩ :: os) s = qfD (lkp s.t j) b d s (qbA s o) (qip base call os):=by
 simp only [qip,ho]
theorem qxV (d:Option Nat) (o:AOp) (j:Nat) (b:Bool) (os:List qU) (ho:o.plain = false):qip base call (⟨d,o,some (j,b)⟩ :: os) s = qfC (lkp s.t j) b d s (qu base call [] d o s) (qip base call os):=by
 simp only [qip,ho]
theorem qoN (q c b:Bool) (d:Option Nat) (s:St) (r:Option qa) (k:St→Option (Ex×St)):qfD (gv q (.bool c)) b d s r k = qj q d s (qak (c == b) r) k:=by
 cases q <;> cases c <;> cases b <;> rfl
theorem qlI (q x c b:Bool) (d:Option Nat) (s:St) (r:Option qa) (k:St→Option (Ex×St)):qfD (gv q (gv x (.bool c))) b d s r k = qj q d s (qak x (qak (c == b) r)) k:=by
 cases q <;> cases x <;> cases c <;> cases b <;> rfl
theorem qjh (d:Option Nat) (t:List qa) (h:List qb) (e:Bool) (v:qa) (k:St→Option (Ex×St)):qj true d ⟨t,h,e⟩ (some v) k = k ⟨put d v t,h,e⟩:=rfl
theorem qjg (q:Bool) (d:Nat) (t:List qa) (h:List qb) (e:Bool) (v:qa) (k:St→Option (Ex×St)):qj q (some d) ⟨t,h,e⟩ (some v) k = k ⟨up t d (gv q v),h,e⟩:=by
 cases q <;> rfl
theorem qoA (c:Bool) (v:qa):qak c (some v) = some (gv c v):=by cases c <;> rfl
theorem qlG (b:Bool) (d:Option Nat) (s:St) (r:Option (Ex×St)) (k:St→Option (Ex×St)):qfC (.bool b) b d s r k = qcg k r:=by cases b <;> rfl
theorem qBP (q:Bool) (v:qa):gv q (gv q v) = gv q v:=by cases q <;> rfl
theorem qy9 (q:Bool) (v:qa):(gv q v).dim = gv q v.dim:=by cases q <;> rfl
theorem qtO (c x:Bool):qbJ (.bool c) (gv c (.bool x)) (.bool false) = some (.bool (c && x)):=by cases c <;> rfl
theorem qxR (c x:Bool):qbJ (.bool c) (.bool true) (gv (!c) (.bool x)) = some (.bool (c || x)):=by cases c <;> rfl
theorem qwS (b:Bool):(b == true) = b:=by cases b <;> rfl
theorem qto (b:Bool):(b == false) = !b:=by cases b <;> rfl
end
section
variable {s:St} {d:Option Nat} {k:St→Option (Ex×St)}
theorem qwN (q:Bool) (v:qa) :qj q d s (some (gv q v)) k = qj q d s (some v) k:=by cases q <;> rfl
theorem qvw (c:Bool) (v:qa) :qak c (some (gv c v)) = qak c (some v):=by cases c <;> rfl
theorem qo0 (q c:Bool) (v:qa) :qj q d s (qak c (some (gv q v))) k = qj q d s (qak c (some v)) k:=by cases q <;> rfl
theorem qBS (q:Bool) (v:qa) (h':List qb) (kk:Option Nat):qj q d s (qbQ h' (gv q v) kk) k = qj q d s (qbQ h' v kk) k:=by cases q <;> rfl
theorem qA8 (c:Bool) (v:qa) (h':List qb) (kk:Option Nat):qak c (qbQ h' (gv c v) kk) = qak c (qbQ h' v kk):=by cases c <;> rfl
theorem qwP (q c:Bool) (v:qa) (h':List qb) (kk:Option Nat):qj q d s (qak c (qbQ h' (gv q v) kk)) k = qj q d s (qak c (qbQ h' v kk)) k:=by cases q <;> rfl
theorem qBR (q:Bool) (v:qa) (o:Nat):qj q d s (faV o (gv q v)) k = qj q d s (faV o v) k:=by cases q <;> rfl
theorem qA7 (c:Bool) (v:qa) (o:Nat):qak c (faV o (gv c v)) = qak c (faV o v):=by cases c <;> rfl
theorem qwO (q c:Bool) (v:qa) (o:Nat):qj q d s (qak c (faV o (gv q v))) k = qj q d s (qak c (faV o v)) k:=by cases q <;> rfl
theorem qzt (q:Bool) (v:qa) (b:Bool):qj q d s (qbb b (gv q v)) k = qj q d s (qbb b v) k:=by cases q <;> rfl
theorem qyU (c:Bool) (v:qa) (b:Bool):qak c (qbb b (gv c v)) = qak c (qbb b v):=by cases c <;> rfl
theorem qtd (q c:Bool) (v:qa) (b:Bool):qj q d s (qak c (qbb b (gv q v))) k = qj q d s (qak c (qbb b v)) k:=by cases q <;> rfl
theorem qzp (q:Bool) (v:qa) (o:Nat) (kk:Option Nat):qj q d s (qsU o kk (gv q v)) k = qj q d s (qsU o kk v) k:=by cases q <;> rfl
theorem qyQ (c:Bool) (v:qa) (o:Nat) (kk:Option Nat):qak c (qsU o kk (gv c v)) = qak c (qsU o kk v):=by cases c <;> rfl
theorem qs9 (q c:Bool) (v:qa) (o:Nat) (kk:Option Nat):qj q d s (qak c (qsU o kk (gv q v))) k = qj q d s (qak c (qsU o kk v)) k:=by cases q <;> rfl
theorem qBU (q:Bool) (v:qa) (op:UnOp):qj q d s (unV op (gv q v)) k = qj q d s (unV op v) k:=by cases q <;> rfl
theorem qBa (c:Bool) (v:qa) (op:UnOp):qak c (unV op (gv c v)) = qak c (unV op v):=by cases c <;> rfl
theorem qwR (q c:Bool) (v:qa) (op:UnOp):qj q d s (qak c (unV op (gv q v))) k = qj q d s (qak c (unV op v)) k:=by cases q <;> rfl
theorem qwL (q:Bool) (v:qa) :qj q d s (qgi (gv q v)) k = qj q d s (qgi v) k:=by cases q <;> rfl
theorem qvu (c:Bool) (v:qa) :qak c (qgi (gv c v)) = qak c (qgi v):=by cases c <;> rfl
theorem qoY (q c:Bool) (v:qa) :qj q d s (qak c (qgi (gv q v))) k = qj q d s (qak c (qgi v)) k:=by cases q <;> rfl
theorem qzo (q:Bool) (v:qa) (o:Nat):qj q d s (qsQ o (gv q v)) k = qj q d s (qsQ o v) k:=by cases q <;> rfl
theorem qyP (c:Bool) (v:qa) (o:Nat):qak c (qsQ o (gv c v)) = qak c (qsQ o v):=by cases c <;> rfl
theorem qs8 (q c:Bool) (v:qa) (o:Nat):qj q d s (qak c (qsQ o (gv q v))) k = qj q d s (qak c (qsQ o v)) k:=by cases q <;> rfl
theorem qzl (q:Bool) (v:qa) (ik:IntKind):qj q d s (qr2 ik (gv q v)) k = qj q d s (qr2 ik v) k:=by cases q <;> rfl
theorem qyM (c:Bool) (v:qa) (ik:IntKind):qak c (qr2 ik (gv c v)) = qak c (qr2 ik v):=by cases c <;> rfl
theorem qs5 (q c:Bool) (v:qa) (ik:IntKind):qj q d s (qak c (qr2 ik (gv q v))) k = qj q d s (qak c (qr2 ik v)) k:=by cases q <;> rfl
theorem qzu (q:Bool) (v:qa) (ty:TypeId):qj q d s (qrD ty (gv q v)) k = qj q d s (qrD ty v) k:=by cases q <;> rfl
theorem qyV (c:Bool) (v:qa) (ty:TypeId):qak c (qrD ty (gv c v)) = qak c (qrD ty v):=by cases c <;> rfl
theorem qte (q c:Bool) (v:qa) (ty:TypeId):qj q d s (qak c (qrD ty (gv q v))) k = qj q d s (qak c (qrD ty v)) k:=by cases q <;> rfl
theorem qzr (q:Bool) (v:qa) (w:qa):qj q d s (qhl (gv q v) w) k = qj q d s (qhl v w) k:=by cases q <;> rfl
theorem qyS (c:Bool) (v:qa) (w:qa):qak c (qhl (gv c v) w) = qak c (qhl v w):=by cases c <;> rfl
theorem qtb (q c:Bool) (v:qa) (w:qa):qj q d s (qak c (qhl (gv q v) w)) k = qj q d s (qak c (qhl v w)) k:=by cases q <;> rfl
theorem qwJ (q:Bool) (v:qa) (w:qa):qj q d s (qhl w (gv q v)) k = qj q d s (qhl w v) k:=by cases q <;> rfl
theorem qvs (c:Bool) (v:qa) (w:qa):qak c (qhl w (gv c v)) = qak c (qhl w v):=by cases c <;> rfl
theorem qoW (q c:Bool) (v:qa) (w:qa):qj q d s (qak c (qhl w (gv q v))) k = qj q d s (qak c (qhl w v)) k:=by cases q <;> rfl
theorem qzs (q:Bool) (v:qa) (o:Nat) (w:qa):qj q d s (qav o (gv q v) w) k = qj q d s (qav o v w) k:=by cases q <;> rfl
theorem qyT (c:Bool) (v:qa) (o:Nat) (w:qa):qak c (qav o (gv c v) w) = qak c (qav o v w):=by cases c <;> rfl
theorem qtc (q c:Bool) (v:qa) (o:Nat) (w:qa):qj q d s (qak c (qav o (gv q v) w)) k = qj q d s (qak c (qav o v w)) k:=by cases q <;> rfl
theorem qwK (q:Bool) (v:qa) (o:Nat) (w:qa):qj q d s (qav o w (gv q v)) k = qj q d s (qav o w v) k:=by cases q <;> rfl
theorem qvt (c:Bool) (v:qa) (o:Nat) (w:qa):qak c (qav o w (gv c v)) = qak c (qav o w v):=by cases c <;> rfl
theorem qoX (q c:Bool) (v:qa) (o:Nat) (w:qa):qj q d s (qak c (qav o w (gv q v))) k = qj q d s (qak c (qav o w v)) k:=by cases q <;> rfl
theorem qzq (q:Bool) (v:qa) (o:Nat) (kk:Option Nat) (w:qa):qj q d s (qhW o kk (gv q v) w) k = qj q d s (qhW o kk v w) k:=by cases q <;> rfl
theorem qyR (c:Bool) (v:qa) (o:Nat) (kk:Option Nat) (w:qa):qak c (qhW o kk (gv c v) w) = qak c (qhW o kk v w):=by cases c <;> rfl
theorem qta (q c:Bool) (v:qa) (o:Nat) (kk:Option Nat) (w:qa):qj q d s (qak c (qhW o kk (gv q v) w)) k = qj q d s (qak c (qhW o kk v w)) k:=by cases q <;> rfl
theorem qwI (q:Bool) (v:qa) (o:Nat) (kk:Option Nat) (w:qa):qj q d s (qhW o kk w (gv q v)) k = qj q d s (qhW o kk w v) k:=by cases q <;> rfl
theorem qvr (c:Bool) (v:qa) (o:Nat) (kk:Option Nat) (w:qa):qak c (qhW o kk w (gv c v)) = qak c (qhW o kk w v):=by cases c <;> rfl
theorem qoV (q c:Bool) (v:qa) (o:Nat) (kk:Option Nat) (w:qa):qj q d s (qak c (qhW o kk w (gv q v))) k = qj q d s (qak c (qhW o kk w v)) k:=by cases q <;> rfl
theorem qzk (q:Bool) (v:qa) (op:BinOp) (w:qa):qj q d s (qbm op (gv q v) w) k = qj q d s (qbm op v w) k:=by cases q <;> rfl
theorem qyL (c:Bool) (v:qa) (op:BinOp) (w:qa):qak c (qbm op (gv c v) w) = qak c (qbm op v w):=by cases c <;> rfl
theorem qs4 (q c:Bool) (v:qa) (op:BinOp) (w:qa):qj q d s (qak c (qbm op (gv q v) w)) k = qj q d s (qak c (qbm op v w)) k:=by cases q <;> rfl
theorem qwF (q:Bool) (v:qa) (op:BinOp) (w:qa):qj q d s (qbm op w (gv q v)) k = qj q d s (qbm op w v) k:=by cases q <;> rfl
theorem qvo (c:Bool) (v:qa) (op:BinOp) (w:qa):qak c (qbm op w (gv c v)) = qak c (qbm op w v):=by cases c <;> rfl
theorem qoS (q c:Bool) (v:qa) (op:BinOp) (w:qa):qj q d s (qak c (qbm op w (gv q v))) k = qj q d s (qak c (qbm op w v)) k:=by cases q <;> rfl
theorem qzm (q:Bool) (v:qa) (b:Bool) (w:qa):qj q d s (qi5 b (gv q v) w) k = qj q d s (qi5 b v w) k:=by cases q <;> rfl
theorem qyN (c:Bool) (v:qa) (b:Bool) (w:qa):qak c (qi5 b (gv c v) w) = qak c (qi5 b v w):=by cases c <;> rfl
theorem qs6 (q c:Bool) (v:qa) (b:Bool) (w:qa):qj q d s (qak c (qi5 b (gv q v) w)) k = qj q d s (qak c (qi5 b v w)) k:=by cases q <;> rfl
theorem qwG (q:Bool) (v:qa) (b:Bool) (w:qa):qj q d s (qi5 b w (gv q v)) k = qj q d s (qi5 b w v) k:=by cases q <;> rfl
theorem qvp (c:Bool) (v:qa) (b:Bool) (w:qa):qak c (qi5 b w (gv c v)) = qak c (qi5 b w v):=by cases c <;> rfl
theorem qoT (q c:Bool) (v:qa) (b:Bool) (w:qa):qj q d s (qak c (qi5 b w (gv q v))) k = qj q d s (qak c (qi5 b w v)) k:=by cases q <;> rfl
theorem qzn (q:Bool) (v:qa) (o:Nat) (b:Bool) (w:qa):qj q d s (qgm o b (gv q v) w) k = qj q d s (qgm o b v w) k:=by cases q <;> rfl
theorem qyO (c:Bool) (v:qa) (o:Nat) (b:Bool) (w:qa):qak c (qgm o b (gv c v) w) = qak c (qgm o b v w):=by cases c <;> rfl
theorem qs7 (q c:Bool) (v:qa) (o:Nat) (b:Bool) (w:qa):qj q d s (qak c (qgm o b (gv q v) w)) k = qj q d s (qak c (qgm o b v w)) k:=by cases q <;> rfl
theorem qwH (q:Bool) (v:qa) (o:Nat) (b:Bool) (w:qa):qj q d s (qgm o b w (gv q v)) k = qj q d s (qgm o b w v) k:=by cases q <;> rfl
theorem qvq (c:Bool) (v:qa) (o:Nat) (b:Bool) (w:qa):qak c (qgm o b w (gv c v)) = qak c (qgm o b w v):=by cases c <;> rfl
theorem qoU (q c:Bool) (v:qa) (o:Nat) (b:Bool) (w:qa):qj q d s (qak c (qgm o b w (gv q v))) k = qj q d s (qak c (qgm o b w v)) k:=by cases q <;> rfl
theorem qBT (q:Bool) (v:qa) (b:Bool) (w:qa):qj q d s (mmV b (gv q v) w) k = qj q d s (mmV b v w) k:=by cases q <;> rfl
theorem qA9 (c:Bool) (v:qa) (b:Bool) (w:qa):qak c (mmV b (gv c v) w) = qak c (mmV b v w):=by cases c <;> rfl
theorem qwQ (q c:Bool) (v:qa) (b:Bool) (w:qa):qj q d s (qak c (mmV b (gv q v) w)) k = qj q d s (qak c (mmV b v w)) k:=by cases q <;> rfl
theorem qzv (q:Bool) (v:qa) (b:Bool) (w:qa):qj q d s (mmV b w (gv q v)) k = qj q d s (mmV b w v) k:=by cases q <;> rfl
theorem qyW (c:Bool) (v:qa) (b:Bool) (w:qa):qak c (mmV b w (gv c v)) = qak c (mmV b w v):=by cases c <;> rfl
theorem qtf (q c:Bool) (v:qa) (b:Bool) (w:qa):qj q d s (qak c (mmV b w (gv q v))) k = qj q d s (qak c (mmV b w v)) k:=by cases q <;> rfl
theorem qwM (q:Bool) (v:qa) (w z:qa):qj q d s (qbJ (gv q v) w z) k = qj q d s (qbJ v w z) k:=by cases q <;> rfl
theorem qvv (c:Bool) (v:qa) (w z:qa):qak c (qbJ (gv c v) w z) = qak c (qbJ v w z):=by cases c <;> rfl
theorem qoZ (q c:Bool) (v:qa) (w z:qa):qj q d s (qak c (qbJ (gv q v) w z)) k = qj q d s (qak c (qbJ v w z)) k:=by cases q <;> rfl
theorem qs2 (q:Bool) (v:qa) (w z:qa):qj q d s (qbJ w (gv q v) z) k = qj q d s (qbJ w v z) k:=by cases q <;> rfl
theorem qrO (c:Bool) (v:qa) (w z:qa):qak c (qbJ w (gv c v) z) = qak c (qbJ w v z):=by cases c <;> rfl
theorem qlJ (q c:Bool) (v:qa) (w z:qa):qj q d s (qak c (qbJ w (gv q v) z)) k = qj q d s (qak c (qbJ w v z)) k:=by cases q <;> rfl
theorem qs3 (q:Bool) (v:qa) (w z:qa):qj q d s (qbJ w z (gv q v)) k = qj q d s (qbJ w z v) k:=by cases q <;> rfl
theorem qrP (c:Bool) (v:qa) (w z:qa):qak c (qbJ w z (gv c v)) = qak c (qbJ w z v):=by cases c <;> rfl
theorem qlK (q c:Bool) (v:qa) (w z:qa):qj q d s (qak c (qbJ w z (gv q v))) k = qj q d s (qak c (qbJ w z v)) k:=by cases q <;> rfl
end
section
variable {base:Nat} {call:Call} {s:St}
def qzS (dsts:List Nat):Option (Ex×St)→Option (Ex×St)
 | some (.pan v,s)=>some (.pan v,{ s with t:=qbM dsts s.t})
 | r=>r
theorem qCZ {base:Nat} {call:Call} {p:qbW} {d:Option Nat} {o:AOp} {s s':St} {x:Ex} (ho:o.effs = false) (h:qu base call p d o s = some (x,s')):x = .nor:=by
 cases o <;> simp only [AOp.effs,Bool.true_eq_false] at ho
 case new=>simp only [qu,Option.some.injEq,Prod.mk.injEq] at h;exact h.1.symm
 case box=>
  simp only [qu] at h
  split at h
  ·cases h;rfl
  ·cases h
 case ld=>
  simp only [qu] at h
  cases hl:qbQ s.h (ev s.t _) _ with
  | none=>rw [hl] at h;cases h
  | some v=>rw [hl] at h;cases h;rfl
 case lk sh z ok m key=>
  simp only [qu] at h
  cases hl:qky s.h sh z ok (ev s.t m) (ev s.t key) with
  | none=>rw [hl] at h;cases h
  | some v=>rw [hl] at h;cases h;rfl
 all_goals
  simp only [qu] at h
  revert h
  generalize pureV s.t _ = r
  intro h
  cases r <;> cases h
  rfl
theorem qpX (dsts:List Nat) (s:St):qzS dsts (some (.nor,s)) = some (.nor,s):=rfl
theorem qpY (dsts:List Nat) (v:qa) (t:List qa) (h:List qb) (e:Bool):qzS dsts (some (.pan v,⟨t,h,e⟩)) = some (.pan v,⟨qbM dsts t,h,e⟩):=rfl
theorem qD {b:qC} (I:Nat→St→Prop) (Q:Ex→St→Prop)
  (step:∀k s,I k s→(∃s' k',qm base call b s = some (.nor,s')∧k' < k∧I k' s')∨∃x s',qm base call b s = some (x,s')∧x ≠ .nor∧Q x s') :
  ∀k s,I k s→∃x s',qm base call (.loop b) s = some (x,s')∧Q x s':=by
 intro k
 induction k using Nat.strongRecOn with
 | ind k ih=>
  intro s hs
  rw [qZ]
  rcases step k s hs with ⟨s',k',h1,h2,h3⟩ | ⟨x,s',h1,h2,h3⟩
  ·rw [h1]
   exact ih k' h2 s' h3
  ·rw [h1]
   refine ⟨x,s',?_,h3⟩
   cases x with
   | nor=>exact absurd rfl h2
   | _=>rfl
end
section
variable {s:St} {t:List qa} {h:List qb}
def qx (v:qa) (i:Nat) (t:List qa):List qa:=
 match v with
 | .lst xs (.own _)=>t.set i (.lst xs .no)
 | _=>t
theorem qnZ (t:List qa) (i:Nat):qao t (.t i) = qx (lkp t i) i t:=rfl
theorem qnY (t:List qa) (v:qa):qao t (.c v) = t:=rfl
theorem qld (b:Bool) (i:Nat) (t:List qa):qx (.bool b) i t = t:=rfl
theorem qnT (k:IntKind) (n:Int) (i:Nat) (t:List qa):qx (.int k n) i t = t:=rfl
theorem qnW (b:List UInt8) (i:Nat) (t:List qa):qx (.str b) i t = t:=rfl
theorem qhI (i:Nat) (t:List qa):qx .nilptr i t = t:=rfl
theorem qnV (a o:Nat) (i:Nat) (t:List qa):qx (.ptr a o) i t = t:=rfl
theorem qlf (cs:List qa) (o:Nat) (i:Nat) (t:List qa):qx (.iptr cs o) i t = t:=rfl
theorem qnS (cs:List qa) (i:Nat) (t:List qa):qx (.agg cs) i t = t:=rfl
theorem qnX (cs:List qa) (i:Nat) (t:List qa):qx (.tup cs) i t = t:=rfl
theorem qsa (f:FuncId) (a b:List qa) (i:Nat) (t:List qa):qx (.fn f a b) i t = t:=rfl
theorem qsb (xs:List qa) (i:Nat) (t:List qa):qx (.lst xs .no) i t = t:=rfl
theorem qle (xs:List qa) (i:Nat) (t:List qa):qx (.lst xs .full) i t = t:=rfl
theorem qnU (xs:List qa) (k i:Nat) (t:List qa):qx (.lst xs (.own k)) i t = up t i (.lst xs .no):=rfl
theorem qi1 (ty:TypeId) (v:qa) (i:Nat) (t:List qa):qx (.iface ty v) i t = t:=rfl
theorem qaf (v:qa) (i:Nat) (t:List qa):qx v.dim i t = t:=by
 cases v with
 | lst xs f=>cases f <;> rfl
 | _=>rfl
def qvX (v:Option qa) (vs:Option (List qa)):Option (List qa):=
 match v,vs with
 | some v,some vs=>some (v :: vs)
 | _,_=>none
theorem qx1:qah s [] = some []:=rfl
theorem qx2 (i:Nat) (rs:List qj7):qah s (.tmp i :: rs) = qvX (some (lkp s.t i).dim) (qah s rs):=by
 simp only [qah,lkp]
 cases qah s rs <;> rfl
theorem qt2 (a:Nat) (k:Option Nat) (rs:List qj7):qah s (.cell a k :: rs) = qvX (qbQ s.h (lkp s.t a) k) (qah s rs):=by
 simp only [qah,lkp]
 cases qbQ s.h (s.t.getD a .undef) k <;> cases qah s rs <;> rfl
theorem qla (v:qa) (vs:List qa):qvX (some v) (some vs) = some (v :: vs):=rfl
theorem qml (v:qa):qbi [v] = v:=rfl
theorem qmk:qbi [] = .tup []:=rfl
theorem qmm (a b:qa) (vs:List qa):qbi (a :: b :: vs) = .tup (a :: b :: vs):=rfl
def qyx (h:List qb) (s:St):Option (List qa)→Option (qbv×List qb×Bool)
 | some vs=>some (qat h.length (.ret (qbi vs)) s.h s.e)
 | none=>none
theorem qod (h:List qb) (s:St) (vs:List qa):qyx h s (some vs) = some (qat h.length (.ret (qbi vs)) s.h s.e):=rfl
theorem qwp (fn:qt) (h:List qb) (s:St):qi3 fn h (some (.nor,s)) = qyx h s (qah s fn.results):=by
 simp only [qi3];cases qah s fn.results <;> rfl
theorem qwq (fn:qt) (h:List qb) (s:St):qi3 fn h (some (.ret,s)) = qyx h s (qah s fn.results):=by
 simp only [qi3];cases qah s fn.results <;> rfl
end
section
theorem qqw (x:qo):(AOp.mov x).plain = true:=Eq.trans rfl rfl
theorem qsD (x:qo):(AOp.mov x).effs = false:=Eq.trans rfl rfl
theorem qpj (x:qo):(AOp.mov x).isApp = false:=Eq.trans rfl rfl
theorem qmx (c a b:qo):(AOp.pick c a b).plain = true:=Eq.trans rfl rfl
theorem qoa (c a b:qo):(AOp.pick c a b).effs = false:=Eq.trans rfl rfl
theorem qlQ (c a b:qo):(AOp.pick c a b).isApp = false:=Eq.trans rfl rfl
theorem qjK (z:List qa) (ps:List (Nat×Nat×qo)):(AOp.build z ps).plain = true:=Eq.trans rfl rfl
theorem qli (z:List qa) (ps:List (Nat×Nat×qo)):(AOp.build z ps).effs = false:=Eq.trans rfl rfl
theorem qjj (z:List qa) (ps:List (Nat×Nat×qo)):(AOp.build z ps).isApp = false:=Eq.trans rfl rfl
theorem qmv (k:Nat) (z:List qa) (l:Nat) (ps:List (Nat×qo)):(AOp.list k z l ps).plain = true:=Eq.trans rfl rfl
theorem qn8 (k:Nat) (z:List qa) (l:Nat) (ps:List (Nat×qo)):(AOp.list k z l ps).effs = false:=Eq.trans rfl rfl
theorem qlO (k:Nat) (z:List qa) (l:Nat) (ps:List (Nat×qo)):(AOp.list k z l ps).isApp = false:=Eq.trans rfl rfl
theorem qtR (k:Option Nat) (a:qo):(AOp.ld k a).plain = true:=Eq.trans rfl rfl
theorem qwk (k:Option Nat) (a:qo):(AOp.ld k a).effs = false:=Eq.trans rfl rfl
theorem qtk (k:Option Nat) (a:qo):(AOp.ld k a).isApp = false:=Eq.trans rfl rfl
theorem qmw (x:qo):(AOp.nilc x).plain = true:=Eq.trans rfl rfl
theorem qn9 (x:qo):(AOp.nilc x).effs = false:=Eq.trans rfl rfl
theorem qlP (x:qo):(AOp.nilc x).isApp = false:=Eq.trans rfl rfl
theorem qqh (op:BinOp) (x y:qo):(AOp.bin op x y).plain = true:=Eq.trans rfl rfl
theorem qso (op:BinOp) (x y:qo):(AOp.bin op x y).effs = false:=Eq.trans rfl rfl
theorem qo4 (op:BinOp) (x y:qo):(AOp.bin op x y).isApp = false:=Eq.trans rfl rfl
theorem qqn (n:Bool) (x y:qo):(AOp.eqb n x y).plain = true:=Eq.trans rfl rfl
theorem qsu (n:Bool) (x y:qo):(AOp.eqb n x y).effs = false:=Eq.trans rfl rfl
theorem qpa (n:Bool) (x y:qo):(AOp.eqb n x y).isApp = false:=Eq.trans rfl rfl
theorem qqo (k:Nat) (n:Bool) (x y:qo):(AOp.eqi k n x y).plain = true:=Eq.trans rfl rfl
theorem qsv (k:Nat) (n:Bool) (x y:qo):(AOp.eqi k n x y).effs = false:=Eq.trans rfl rfl
theorem qpb (k:Nat) (n:Bool) (x y:qo):(AOp.eqi k n x y).isApp = false:=Eq.trans rfl rfl
theorem qqm (n:Bool) (x y:qo):(AOp.eqa n x y).plain = true:=Eq.trans rfl rfl
theorem qst (n:Bool) (x y:qo):(AOp.eqa n x y).effs = false:=Eq.trans rfl rfl
theorem qo9 (n:Bool) (x y:qo):(AOp.eqa n x y).isApp = false:=Eq.trans rfl rfl
theorem qtU (op:UnOp) (x:qo):(AOp.un op x).plain = true:=Eq.trans rfl rfl
theorem qwn (op:UnOp) (x:qo):(AOp.un op x).effs = false:=Eq.trans rfl rfl
theorem qtn (op:UnOp) (x:qo):(AOp.un op x).isApp = false:=Eq.trans rfl rfl
theorem qqk (k:IntKind) (x:qo):(AOp.cvi k x).plain = true:=Eq.trans rfl rfl
theorem qsr (k:IntKind) (x:qo):(AOp.cvi k x).effs = false:=Eq.trans rfl rfl
theorem qo7 (k:IntKind) (x:qo):(AOp.cvi k x).isApp = false:=Eq.trans rfl rfl
theorem qql (x:qo):(AOp.cvs x).plain = true:=Eq.trans rfl rfl
theorem qss (x:qo):(AOp.cvs x).effs = false:=Eq.trans rfl rfl
theorem qo8 (x:qo):(AOp.cvs x).isApp = false:=Eq.trans rfl rfl
theorem qqj (x:qo):(AOp.cvb x).plain = true:=Eq.trans rfl rfl
theorem qsq (x:qo):(AOp.cvb x).effs = false:=Eq.trans rfl rfl
theorem qo6 (x:qo):(AOp.cvb x).isApp = false:=Eq.trans rfl rfl
theorem qqv (t:TypeId) (x:qo):(AOp.mkI t x).plain = true:=Eq.trans rfl rfl
theorem qsC (t:TypeId) (x:qo):(AOp.mkI t x).effs = false:=Eq.trans rfl rfl
theorem qpi (t:TypeId) (x:qo):(AOp.mkI t x).isApp = false:=Eq.trans rfl rfl
theorem qqu (f:FuncId) (a b:List qo):(AOp.mkF f a b).plain = true:=Eq.trans rfl rfl
theorem qsB (f:FuncId) (a b:List qo):(AOp.mkF f a b).effs = false:=Eq.trans rfl rfl
theorem qph (f:FuncId) (a b:List qo):(AOp.mkF f a b).isApp = false:=Eq.trans rfl rfl
theorem qmz (x:qo) (l h:Option qo):(AOp.subS x l h).plain = true:=Eq.trans rfl rfl
theorem qoc (x:qo) (l h:Option qo):(AOp.subS x l h).effs = false:=Eq.trans rfl rfl
theorem qlS (x:qo) (l h:Option qo):(AOp.subS x l h).isApp = false:=Eq.trans rfl rfl
theorem qmy (k:Nat) (x:qo) (l h:Option qo):(AOp.subL k x l h).plain = true:=Eq.trans rfl rfl
theorem qob (k:Nat) (x:qo) (l h:Option qo):(AOp.subL k x l h).effs = false:=Eq.trans rfl rfl
theorem qlR (k:Nat) (x:qo) (l h:Option qo):(AOp.subL k x l h).isApp = false:=Eq.trans rfl rfl
theorem qtP (o:Nat) (a:qo):(AOp.fa o a).plain = true:=Eq.trans rfl rfl
theorem qwi (o:Nat) (a:qo):(AOp.fa o a).effs = false:=Eq.trans rfl rfl
theorem qti (o:Nat) (a:qo):(AOp.fa o a).isApp = false:=Eq.trans rfl rfl
theorem qmu (k:Nat) (s i:qo):(AOp.ixaL k s i).plain = true:=Eq.trans rfl rfl
theorem qn7 (k:Nat) (s i:qo):(AOp.ixaL k s i).effs = false:=Eq.trans rfl rfl
theorem qlN (k:Nat) (s i:qo):(AOp.ixaL k s i).isApp = false:=Eq.trans rfl rfl
theorem qmt (n k:Nat) (a i:qo):(AOp.ixaA n k a i).plain = true:=Eq.trans rfl rfl
theorem qn6 (n k:Nat) (a i:qo):(AOp.ixaA n k a i).effs = false:=Eq.trans rfl rfl
theorem qlM (n k:Nat) (a i:qo):(AOp.ixaA n k a i).isApp = false:=Eq.trans rfl rfl
theorem qqs (s i:qo):(AOp.ixS s i).plain = true:=Eq.trans rfl rfl
theorem qsz (s i:qo):(AOp.ixS s i).effs = false:=Eq.trans rfl rfl
theorem qpf (s i:qo):(AOp.ixS s i).isApp = false:=Eq.trans rfl rfl
theorem qqr (n:Nat) (k:Option Nat) (a i:qo):(AOp.ixA n k a i).plain = true:=Eq.trans rfl rfl
theorem qsy (n:Nat) (k:Option Nat) (a i:qo):(AOp.ixA n k a i).effs = false:=Eq.trans rfl rfl
theorem qpe (n:Nat) (k:Option Nat) (a i:qo):(AOp.ixA n k a i).isApp = false:=Eq.trans rfl rfl
theorem qqq (o:Nat) (k:Option Nat) (x:qo):(AOp.fld o k x).plain = true:=Eq.trans rfl rfl
theorem qsx (o:Nat) (k:Option Nat) (x:qo):(AOp.fld o k x).effs = false:=Eq.trans rfl rfl
theorem qpd (o:Nat) (k:Option Nat) (x:qo):(AOp.fld o k x).isApp = false:=Eq.trans rfl rfl
theorem qqp (x:qo) (i:Nat):(AOp.ext x i).plain = true:=Eq.trans rfl rfl
theorem qsw (x:qo) (i:Nat):(AOp.ext x i).effs = false:=Eq.trans rfl rfl
theorem qpc (x:qo) (i:Nat):(AOp.ext x i).isApp = false:=Eq.trans rfl rfl
theorem qqt (b:Bool) (x:qo):(AOp.len b x).plain = true:=Eq.trans rfl rfl
theorem qsA (b:Bool) (x:qo):(AOp.len b x).effs = false:=Eq.trans rfl rfl
theorem qpg (b:Bool) (x:qo):(AOp.len b x).isApp = false:=Eq.trans rfl rfl
theorem qtS (b:Bool) (x y:qo):(AOp.mm b x y).plain = true:=Eq.trans rfl rfl
theorem qwl (b:Bool) (x y:qo):(AOp.mm b x y).effs = false:=Eq.trans rfl rfl
theorem qtl (b:Bool) (x y:qo):(AOp.mm b x y).isApp = false:=Eq.trans rfl rfl
theorem qqA (t:TypeId) (z:qa) (x:qo):(AOp.tas t z x).plain = true:=Eq.trans rfl rfl
theorem qsG (t:TypeId) (z:qa) (x:qo):(AOp.tas t z x).effs = false:=Eq.trans rfl rfl
theorem qpm (t:TypeId) (z:qa) (x:qo):(AOp.tas t z x).isApp = false:=Eq.trans rfl rfl
theorem qqg (x:qo):(AOp.asg x).plain = false:=Eq.trans rfl rfl
theorem qsn (x:qo):(AOp.asg x).effs = true:=Eq.trans rfl rfl
theorem qo3 (x:qo):(AOp.asg x).isApp = false:=Eq.trans rfl rfl
theorem qqx (cs:List qa):(AOp.new cs).plain = false:=Eq.trans rfl rfl
theorem qsE (cs:List qa):(AOp.new cs).effs = false:=Eq.trans rfl rfl
theorem qpk (cs:List qa):(AOp.new cs).isApp = false:=Eq.trans rfl rfl
theorem qqi (k:Nat) (x:qo):(AOp.box k x).plain = false:=Eq.trans rfl rfl
theorem qsp (k:Nat) (x:qo):(AOp.box k x).effs = false:=Eq.trans rfl rfl
theorem qo5 (k:Nat) (x:qo):(AOp.box k x).isApp = false:=Eq.trans rfl rfl
theorem qtT (k:Option Nat) (a x:qo):(AOp.st k a x).plain = false:=Eq.trans rfl rfl
theorem qwm (k:Option Nat) (a x:qo):(AOp.st k a x).effs = true:=Eq.trans rfl rfl
theorem qtm (k:Option Nat) (a x:qo):(AOp.st k a x).isApp = false:=Eq.trans rfl rfl
theorem qms (f:qo) (aS:List qo):(AOp.call f aS).plain = false:=Eq.trans rfl rfl
theorem qn5 (f:qo) (aS:List qo):(AOp.call f aS).effs = true:=Eq.trans rfl rfl
theorem qlL (f:qo) (aS:List qo):(AOp.call f aS).isApp = false:=Eq.trans rfl rfl
theorem qqf (k:Nat) (x y:qo):(AOp.app k x y).plain = false:=Eq.trans rfl rfl
theorem qsm (k:Nat) (x y:qo):(AOp.app k x y).effs = true:=Eq.trans rfl rfl
theorem qo2 (k:Nat) (x y:qo):(AOp.app k x y).isApp = true:=Eq.trans rfl rfl
theorem qqz (x:qo):(AOp.pan x).plain = false:=Eq.trans rfl rfl
theorem qsF (x:qo):(AOp.pan x).effs = true:=Eq.trans rfl rfl
theorem qpl (x:qo):(AOp.pan x).isApp = false:=Eq.trans rfl rfl
theorem qjB (n:Nat):qa.undef.lower n = true:=Eq.trans rfl rfl
theorem qmd (n:Nat) (b:Bool):(qa.bool b).lower n = true:=Eq.trans rfl rfl
theorem qh6 (n:Nat) (k:IntKind) (z:Int):(qa.int k z).lower n = true:=Eq.trans rfl rfl
theorem qh8 (n:Nat) (s:List UInt8):(qa.str s).lower n = true:=Eq.trans rfl rfl
theorem qh7 (n:Nat):qa.nilptr.lower n = true:=Eq.trans rfl rfl
theorem qpT (n i o:Nat):(qa.ptr i o).lower n = Nat.blt i n:=Eq.trans rfl rfl
theorem qpV (n i:Nat):(qa.yld i).lower n = Nat.blt i n:=Eq.trans rfl rfl
theorem qmf (n o:Nat) (cs:List qa):(qa.iptr cs o).lower n = qv n cs:=Eq.trans rfl rfl
theorem qpS (n:Nat) (xs:List qa) (f:qdO):(qa.lst xs f).lower n = qv n xs:=Eq.trans rfl rfl
theorem qg3 (n:Nat):qa.nilfunc.lower n = true:=Eq.trans rfl rfl
theorem qgh (n:Nat):qa.niliface.lower n = true:=Eq.trans rfl rfl
theorem qjA (n:Nat) (t:TypeId) (v:qa):(qa.iface t v).lower n = v.lower n:=Eq.trans rfl rfl
theorem qtE (n:Nat) (f:FuncId) (a b:List qa):(qa.fn f a b).lower n = (qv n a && qv n b):=Eq.trans rfl rfl
theorem qh5 (n:Nat) (cs:List qa):(qa.agg cs).lower n = qv n cs:=Eq.trans rfl rfl
theorem qpU (n:Nat) (cs:List qa):(qa.tup cs).lower n = qv n cs:=Eq.trans rfl rfl
theorem qgs (n:Nat):qv n [] = true:=Eq.trans rfl rfl
theorem qfM (n:Nat) (v:qa) (vs:List qa):qv n (v :: vs) = (v.lower n && qv n vs):=Eq.trans rfl rfl
def qsH (rs:List qj7) (h:List qb):Option (Ex×St)→Option (qbv×List qb×Bool)
 | some (.nor,s) | some (.ret,s)=>qyx h s (qah s rs)
 | some (.pan v,s)=>some (qat h.length (.pan v) s.h s.e)
 | _=>none
theorem qwo (fn:qt) (h:List qb) (r:Option (Ex×St)):qi3 fn h r = qsH fn.results h r:=by
 cases r with
 | none=>rfl
 | some r=>obtain ⟨x,s⟩:=r;cases x <;> first | rfl | exact qwp _ _ _ | exact qwq _ _ _
theorem qsI (rs:List qj7) (h:List qb) (s:St):qsH rs h (some (.nor,s)) = qyx h s (qah s rs):=rfl
theorem qsK (rs:List qj7) (h:List qb) (s:St):qsH rs h (some (.ret,s)) = qyx h s (qah s rs):=rfl
theorem qsJ (rs:List qj7) (h:List qb) (s:St) (v:qa):qsH rs h (some (.pan v,s)) = some (qat h.length (.pan v) s.h s.e):=rfl
theorem qEb {F:FuncId→Option qt} {X:qeo} (hX:qkY X) {f:FuncId} {first args cap:List qa} {h:List qb} {fn:qt} (h1:X f = none) (h2:F f = some fn) :
  W F X (.fn f first cap) args h = qsH fn.results h (qm h.length (W F X) fn.code ⟨(first ++ args ++ cap).map qa.dim ++ List.replicate (fn.ntmps - ((first ++ args ++ cap).map qa.dim).length) (.tup []),h,false⟩):=by
 rw [qEa hX h1 h2,qwo]
end
section
variable {h:List qb}
theorem qnl (cs:List qa):(qa.agg cs).cells = cs:=rfl
theorem qnm (k:IntKind) (n:Int):(qa.int k n).cells = [.int k n]:=rfl
theorem qnp (s:List UInt8):(qa.str s).cells = [.str s]:=rfl
theorem qk5 (b:Bool):(qa.bool b).cells = [.bool b]:=rfl
theorem qnn (xs:List qa) (f:qdO):(qa.lst xs f).cells = [.lst xs f]:=rfl
theorem qno (i o:Nat):(qa.ptr i o).cells = [.ptr i o]:=rfl
theorem qhu:qa.nilptr.cells = [.nilptr]:=rfl
theorem qrV (f:FuncId) (a b:List qa):(qa.fn f a b).cells = [.fn f a b]:=rfl
theorem qgb:qa.niliface.cells = [.niliface]:=rfl
theorem qiV (t:TypeId) (v:qa):(qa.iface t v).cells = [.iface t v]:=rfl
theorem qnq (i:Nat):(qa.yld i).cells = [.yld i]:=rfl
theorem qkQ (k:IntKind) (n:Int):(qa.int k n).storable = true:=Eq.trans rfl rfl
theorem qkR (s:List UInt8):(qa.str s).storable = true:=Eq.trans rfl rfl
theorem qq5 (b:Bool):(qa.bool b).storable = true:=Eq.trans rfl rfl
theorem qud (xs:List qa) (f:qdO):(qa.lst xs f).storable = true:=Eq.trans rfl rfl
theorem que (i o:Nat):(qa.ptr i o).storable = true:=Eq.trans rfl rfl
theorem qq6 (cs:List qa) (o:Nat):(qa.iptr cs o).storable = true:=Eq.trans rfl rfl
theorem qjW:qa.nilptr.storable = true:=Eq.trans rfl rfl
theorem qiu:qa.nilfunc.storable = true:=Eq.trans rfl rfl
theorem qyb (f:FuncId) (a b:List qa):(qa.fn f a b).storable = true:=Eq.trans rfl rfl
theorem quf (i:Nat):(qa.yld i).storable = true:=Eq.trans rfl rfl
theorem qhh:qa.niliface.storable = true:=Eq.trans rfl rfl
theorem qmL (t:TypeId) (v:qa):(qa.iface t v).storable = true:=Eq.trans rfl rfl
theorem qr1 (c:qa) (cs:List qa) (o k:Nat):cut (c :: cs) o (some k) = if o + k ≤ (c :: cs).length then some (.agg ((((c :: cs).drop o).take k).map qa.dim)) else none:=rfl
def ldB (k:Option Nat) (o:Nat):Option qb→Option qa
 | some (.cells cs)=>cut cs o k
 | _=>none
theorem qkw (i o:Nat) (k:Option Nat):qbQ h (.ptr i o) k = ldB k o h[i]?:=by
 simp only [qbQ,ldB]
 cases h[i]? with
 | none=>rfl
 | some b=>cases b <;> rfl
theorem qpu (k:Option Nat) (o:Nat) (cs:List qa):ldB k o (some (.cells cs)) = cut cs o k:=rfl
def qC8 (k:Option Nat) (v:qa):List qa:=
 match k with
 | none=>[v]
 | some _=>v.dim.cells.map qa.dim
theorem qqH (v:qa):qC8 none v = [v]:=rfl
theorem qqI (k:Nat) (v:qa):qC8 (some k) v = v.dim.cells.map qa.dim:=rfl
def stB (base:Nat) (k:Option Nat) (id o:Nat) (vs:List qa) (h:List qb):Option qb→Option (List qb×Bool)
 | some (.cells cs)=>if vs.length = k.getD 1∧o + vs.length ≤ cs.length∧vs.all qa.storable then some (h.set id (.cells (splice cs o vs)),!(Nat.ble base id || qv (id + 1) vs)) else none
 | _=>none
theorem qx8 (base:Nat) (k:Option Nat) (id o:Nat) (v:qa):stV base k (.ptr id o) v h = stB base k id o (qC8 k v) h h[id]?:=by
 simp only [stV,stB]
 cases h[id]? with
 | none=>rfl
 | some b=>cases b <;> cases k <;> rfl
theorem qq4 (base:Nat) (k:Option Nat) (id o:Nat) (vs cs:List qa):stB base k id o vs h (some (.cells cs)) = if vs.length = k.getD 1∧o + vs.length ≤ cs.length∧vs.all qa.storable then some (h.set id (.cells (splice cs o vs)),!(Nat.ble base id || qv (id + 1) vs)) else none:=rfl
theorem qrB (h:List qb) (k:Nat):Nat.ble h.length (h.length + k) = true:=Nat.ble_eq_true_of_le (Nat.le_add_right _ _)
theorem qi {a b:Nat} (h:a ≤ b):Nat.ble a b = true:=Nat.ble_eq_true_of_le h
end
theorem qaB {e r:Option (Ex×St)} (hr:e = r) {Q:Ex→St→Prop} (h:∃x s',e = some (x,s')∧Q x s'):∃x s',r = some (x,s')∧Q x s':=hr▸h
mutual
theorem qgO:∀v:qa,v.beq v = true
 | .undef | .nilptr | .nilfunc | .niliface | .nilmap | .nils | .empt=>rfl
 | .sl ..=>by simp [qa.beq]
 | .mp i=>by simp [qa.beq]
 | .bool b=>by simp [qa.beq]
 | .int k n=>by simp [qa.beq]
 | .str s=>by simp [qa.beq]
 | .ptr i o=>by simp [qa.beq]
 | .iptr cs o=>by simp [qa.beq,qby cs]
 | .lst xs f=>by simp [qa.beq,qby xs]
 | .fn f a b=>by simp [qa.beq,qby a,qby b]
 | .yld i=>by simp [qa.beq]
 | .iface t v=>by simp [qa.beq,qgO v]
 | .agg cs=>by simp [qa.beq,qby cs]
 | .tup cs=>by simp [qa.beq,qby cs]
theorem qby:∀vs:List qa,qhp vs vs = true
 | []=>rfl
 | v :: vs=>by simp [qhp,qgO v,qby vs]
end
section
variable {base:Nat} {call:Call} {dsts:List Nat} {s:St} {pend:List (Nat×Chk)} {h:List qb}
def qdW (h:List qb):List (Nat×Chk)→Bool
 | []=>true
 | c :: cs=>c.2.ok h && qdW h cs
theorem qrX:qdW h [] = true:=Eq.trans rfl rfl
theorem qnt (i:Nat) (c:Chk) (cs:List (Nat×Chk)):qdW h ((i,c) :: cs) = (c.ok h && qdW h cs):=rfl
theorem qrW (l:List (Nat×Chk)):l.all (fun c=>c.2.ok h) = qdW h l:=by
 induction l with
 | nil=>rfl
 | cons c l ih=>simp only [List.all_cons,qdW,ih]
def qDv (v:qa):Option qa→Bool
 | some w=>v.beq w
 | none=>false
theorem qhq (v:qa):qDv v (some v) = true:=qgO v
theorem qy4 (a:qa) (k:Option Nat) (v:qa):Chk.ok h (.ld a k v) = qDv v (qbQ h a k):=by
 simp only [Chk.ok];cases qbQ h a k <;> rfl
def qDu (cs:List qa):Option qb→Bool
 | some (.cells ds)=>qhp cs ds
 | _=>false
theorem qnc (cs:List qa):qDu cs (some (.cells cs)) = true:=qby cs
theorem qvS (id:Nat) (cs:List qa):Chk.ok h (.box id cs) = qDu cs h[id]?:=by
 simp only [Chk.ok]
 cases h[id]? with
 | none=>rfl
 | some b=>cases b <;> rfl
def qdr (cl:Nat):List (Nat×Chk)→List (Nat×Chk)
 | []=>[]
 | c :: cs=>bif cl.testBit c.1 then qdr cl cs else c :: qdr cl cs
theorem qlq (cl:Nat):qdr cl [] = []:=rfl
theorem qja (cl i:Nat) (c:Chk) (cs:List (Nat×Chk)):qdr cl ((i,c) :: cs) = bif cl.testBit i then qdr cl cs else (i,c) :: qdr cl cs:=rfl
theorem qov (cl:Nat) (l:List (Nat×Chk)):l.filter (fun c=>!cl.testBit c.1) = qdr cl l:=by
 induction l with
 | nil=>rfl
 | cons c l ih=>
  simp only [List.filter_cons,qdr,ih]
  cases cl.testBit c.1 <;> rfl
def qsc (dsts:List Nat) (pend:List (Nat×Chk)) (k:List (Nat×Chk)→St→Option (Ex×St)):Option (Ex×St)→Option (Ex×St)
 | some (.nor,s)=>bif qdW s.h pend then k pend s else none
 | some (.pan v,s)=>some (.pan v,{ s with t:=qbM dsts s.t})
 | _=>none
theorem qn0 (k:List (Nat×Chk)→St→Option (Ex×St)) (s:St):qsc dsts pend k (some (.nor,s)) = bif qdW s.h pend then k pend s else none:=rfl
theorem qn1 (k:List (Nat×Chk)→St→Option (Ex×St)) (t:List qa) (e:Bool) (v:qa):qsc dsts pend k (some (.pan v,⟨t,h,e⟩)) = some (.pan v,⟨qbM dsts t,h,e⟩):=rfl
theorem qsg:qw base call dsts [] pend s = some (.nor,s):=rfl
theorem qse {d:Option Nat} {o:AOp} {ix cl:Nat} {ds:List qG} (ho:o.effs = true):qw base call dsts (⟨⟨d,o,none⟩,ix,cl⟩ :: ds) pend s = qsc dsts (qdr cl pend) (qw base call dsts ds) (qu base call [] d o s):=by
 simp only [qw,wanted,ho,if_true,qrW,qov]
 cases hr:qu base call [] d o s with
 | none=>rfl
 | some r=>
  obtain ⟨x,s'⟩:=r
  cases x with
  | nor=>simp only [qsc];cases qdW s'.h (qdr cl pend) <;> rfl
  | pan v=>rfl
  | exit i=>rfl
  | ret=>rfl
def AOp.light:AOp→Bool
 | .asg .. | .new .. | .box .. | .st .. | .call .. | .app .. | .pan .. | .ld .. | .hx .. | .lk ..=>false
 | _=>true
theorem qlg {d:Option Nat} {o:AOp} {ix cl:Nat} {ds:List qG} (ho:o.light = true):qw base call dsts (⟨⟨d,o,none⟩,ix,cl⟩ :: ds) pend s = qcg (qw base call dsts ds pend) (qu base call [] d o s):=by
 have he:o.effs = false:=by cases o <;> simp_all [AOp.light,AOp.effs]
 have hc:qdV s o = none:=by cases o <;> simp_all [AOp.light,qdV]
 simp only [qw,wanted,he,Bool.false_eq_true,if_false,hc]
 cases hr:qu base call [] d o s with
 | none=>rfl
 | some r=>
  obtain ⟨x,s'⟩:=r
  have:=qCZ he hr
  subst this
  rfl
def ldD (d:Option Nat) (s:St) (a:qa) (k:Option Nat) (ix:Nat) (pend:List (Nat×Chk)) (f:List (Nat×Chk)→St→Option (Ex×St)):Option qa→Option (Ex×St)
 | some v=>f ((ix,.ld a k v) :: pend) { s with t:=put d v s.t}
 | none=>none
theorem qtw (d:Option Nat) (t:List qa) (e:Bool) (a:qa) (k:Option Nat) (ix:Nat) (f:List (Nat×Chk)→St→Option (Ex×St)) (v:qa):ldD d ⟨t,h,e⟩ a k ix pend f (some v) = f ((ix,.ld a k v) :: pend) ⟨put d v t,h,e⟩:=rfl
theorem qwe {d:Option Nat} {k:Option Nat} {a:qo} {ix cl:Nat} {ds:List qG}:qw base call dsts (⟨⟨d,.ld k a,none⟩,ix,cl⟩ :: ds) pend s = ldD d s (ev s.t a) k ix pend (qw base call dsts ds) (qbQ s.h (ev s.t a) k):=by
 simp only [qw,wanted,AOp.effs,Bool.false_eq_true,if_false,qdV,qu]
 cases qbQ s.h (ev s.t a) k <;> rfl
theorem qsf {d:Option Nat} {cs:List qa} {ix cl:Nat} {ds:List qG}:qw base call dsts (⟨⟨d,.new cs,none⟩,ix,cl⟩ :: ds) pend s = qw base call dsts ds ((ix,.box s.h.length (cs.map qa.dim)) :: pend) { s with t:=put d (.ptr s.h.length 0) s.t,h:=s.h ++ [.cells (cs.map qa.dim)]}:=by
 simp only [qw,wanted,AOp.effs,Bool.false_eq_true,if_false,qdV,qu]
end
theorem qpM (x:qo):(AOp.mov x).light = true:=Eq.trans rfl rfl
theorem ql9 (c a b:qo):(AOp.pick c a b).light = true:=Eq.trans rfl rfl
theorem qjx (z:List qa) (ps:List (Nat×Nat×qo)):(AOp.build z ps).light = true:=Eq.trans rfl rfl
theorem ql7 (k:Nat) (z:List qa) (l:Nat) (ps:List (Nat×qo)):(AOp.list k z l ps).light = true:=Eq.trans rfl rfl
theorem ql8 (x:qo):(AOp.nilc x).light = true:=Eq.trans rfl rfl
theorem qpy (op:BinOp) (x y:qo):(AOp.bin op x y).light = true:=Eq.trans rfl rfl
theorem qpD (n:Bool) (x y:qo):(AOp.eqb n x y).light = true:=Eq.trans rfl rfl
theorem qpE (k:Nat) (n:Bool) (x y:qo):(AOp.eqi k n x y).light = true:=Eq.trans rfl rfl
theorem qpC (n:Bool) (x y:qo):(AOp.eqa n x y).light = true:=Eq.trans rfl rfl
theorem qtB (op:UnOp) (x:qo):(AOp.un op x).light = true:=Eq.trans rfl rfl
theorem qpA (k:IntKind) (x:qo):(AOp.cvi k x).light = true:=Eq.trans rfl rfl
theorem qpB (x:qo):(AOp.cvs x).light = true:=Eq.trans rfl rfl
theorem qpz (x:qo):(AOp.cvb x).light = true:=Eq.trans rfl rfl
theorem qpL (t:TypeId) (x:qo):(AOp.mkI t x).light = true:=Eq.trans rfl rfl
theorem qpK (f:FuncId) (a b:List qo):(AOp.mkF f a b).light = true:=Eq.trans rfl rfl
theorem qmb (x:qo) (l h:Option qo):(AOp.subS x l h).light = true:=Eq.trans rfl rfl
theorem qma (k:Nat) (x:qo) (l h:Option qo):(AOp.subL k x l h).light = true:=Eq.trans rfl rfl
theorem qtz (o:Nat) (a:qo):(AOp.fa o a).light = true:=Eq.trans rfl rfl
theorem ql6 (k:Nat) (s i:qo):(AOp.ixaL k s i).light = true:=Eq.trans rfl rfl
theorem ql5 (n k:Nat) (a i:qo):(AOp.ixaA n k a i).light = true:=Eq.trans rfl rfl
theorem qpI (s i:qo):(AOp.ixS s i).light = true:=Eq.trans rfl rfl
theorem qpH (n:Nat) (k:Option Nat) (a i:qo):(AOp.ixA n k a i).light = true:=Eq.trans rfl rfl
theorem qpG (o:Nat) (k:Option Nat) (x:qo):(AOp.fld o k x).light = true:=Eq.trans rfl rfl
theorem qpF (x:qo) (i:Nat):(AOp.ext x i).light = true:=Eq.trans rfl rfl
theorem qpJ (b:Bool) (x:qo):(AOp.len b x).light = true:=Eq.trans rfl rfl
theorem qtA (b:Bool) (x y:qo):(AOp.mm b x y).light = true:=Eq.trans rfl rfl
theorem qpN (t:TypeId) (z:qa) (x:qo):(AOp.tas t z x).light = true:=Eq.trans rfl rfl
section
variable {base:Nat} {call:Call} {p:qbW} {s:St} {t:List qa} {h:List qb}
def qgN (k:Nat) (xs ys:List qa):Bool:=decide (xs.length + ys.length ≤ qcE) && ys.all (fun y=>y.cells.length == k && y.cells.all qa.storable) && xs.head?.all (fun y=>y.cells.length == k)
def qyJ (d:Option Nat) (k:Nat) (ys:List qa):Option (List qa×St)→Option (Ex×St)
 | some (xs,s)=>if xs.head?.all (fun y=>y.cells.length == k) then some (.nor,{ s with t:=put d (.lst (xs ++ ys) (.own k)) s.t}) else none
 | none=>none
def qrK (d:Option Nat) (k:Nat) (s:St) (tk:Option (List qa×St)) (x:qa) (ys:Option (List qa)):Option (Ex×St):=
 match x,ys with
 | .lst xs f,some ys=>
  if ys.isEmpty then some (.nor,{ s with t:=put d (qa.lst xs f).dim s.t})
  else if qgN k xs ys = true then
   match f with
   | .full=>some (.nor,{ s with t:=put d (.lst (xs ++ ys) (.own k)) s.t})
   | _=>qyJ d k ys tk
  else none
 | _,_=>none
theorem qz8 (d:Option Nat) (k:Nat) (x y:qo):qu base call p d (.app k x y) s = qrK d k s (qcY k p x s) (raw s.t x) (tail (ev s.t y)):=by
 simp only [qu,qrK,qgN,Bool.and_eq_true,decide_eq_true_eq,and_assoc]
 generalize raw s.t x = v
 generalize tail (ev s.t y) = w
 generalize qcY k p x s = z
 cases v <;> rfl
theorem quk (ys:List qa) (f:qdO):tail (.lst ys f) = some ys:=rfl
theorem qul (b:List UInt8):tail (.str b) = some (qgZ b):=rfl
theorem qvk (d:Option Nat) (k:Nat) (t:List qa) (e:Bool) (tk:Option (List qa×St)) (xs:List qa) (f:qdO):qrK d k ⟨t,h,e⟩ tk (.lst xs f) (some []) = some (.nor,⟨put d (qa.lst xs f).dim t,h,e⟩):=rfl
theorem qrM {d:Option Nat} {k:Nat} {t:List qa} {e:Bool} {tk:Option (List qa×St)} {xs ys:List qa} (hy:ys.isEmpty = false) (hc:qgN k xs ys = true):qrK d k ⟨t,h,e⟩ tk (.lst xs .full) (some ys) = some (.nor,⟨put d (.lst (xs ++ ys) (.own k)) t,h,e⟩):=by
 simp only [qrK,hy,hc,Bool.false_eq_true,if_false,if_true]
theorem qvl {d:Option Nat} {k j:Nat} {s:St} {tk:Option (List qa×St)} {xs ys:List qa} (hy:ys.isEmpty = false) (hc:qgN k xs ys = true):qrK d k s tk (.lst xs (.own j)) (some ys) = qyJ d k ys tk:=by
 simp only [qrK,hy,hc,Bool.false_eq_true,if_false,if_true]
theorem qyK {d:Option Nat} {k:Nat} {s:St} {tk:Option (List qa×St)} {xs ys:List qa} (hy:ys.isEmpty = false) (hc:qgN k xs ys = true):qrK d k s tk (.lst xs .no) (some ys) = qyJ d k ys tk:=by
 simp only [qrK,hy,hc,Bool.false_eq_true,if_false,if_true]
theorem qnb {d:Option Nat} {k:Nat} {t:List qa} {e:Bool} {xs ys:List qa} (hc:qgN k xs ys = true):qyJ d k ys (some (xs,⟨t,h,e⟩)) = some (.nor,⟨put d (.lst (xs ++ ys) (.own k)) t,h,e⟩):=by
 simp only [qgN,Bool.and_eq_true] at hc
 simp only [qyJ,hc.2,if_true]
def qub (p:qbW) (i:Nat):Option Src:=(p.find? (·.1 == i)).map (·.2)
def qun (k b:Nat) (s:St) (v:qa):Option (List qa×St):=
 match v with
 | .lst xs (.own j)=>if j = k then some (xs,{ s with t:=s.t.set b (.lst xs .no)}) else none
 | _=>none
def qyl (k:Nat) (s:St) (id o:Nat) (c:Option qb):Option (List qa×St):=
 match c with
 | some (.cells cs)=>
  match cs[o]? with
  | some (.lst xs (.own j))=>if j = k then some (xs,{ s with h:=s.h.set id (.cells (cs.set o (.lst xs .no)))}) else none
  | _=>none
 | _=>none
def qum (k:Nat) (s:St) (a:qa):Option (List qa×St):=
 match a with
 | .ptr id o=>qyl k s id o s.h[id]?
 | _=>none
def qmS (k:Nat) (s:St):Option Src→Option (List qa×St)
 | some (.tmp b)=>qun k b s (lkp s.t b)
 | some (.cell a)=>qum k s (ev s.t a)
 | none=>none
def qrl (k i:Nat) (s:St) (v:qa) (src:Option Src):Option (List qa×St):=
 match v with
 | .lst xs (.own j)=>if j = k then some (xs,{ s with t:=s.t.set i (.lst xs .no)}) else none
 | _=>qmS k s src
theorem qyn (k:Nat) (i:Nat):qcY k p (.t i) s = qrl k i s (lkp s.t i) (qub p i):=by
 simp only [qcY,qrl,lkp,qub]
 generalize hv:s.t.getD i .undef = v
 have key:(match p.find? (·.1 == i) with
   | some (_,.tmp b)=>
    match s.t.getD b .undef with
    | .lst xs (.own j)=>if j = k then some (xs,{ s with t:=s.t.set b (.lst xs .no)}) else none
    | _=>none
   | some (_,.cell a)=>
    match ev s.t a with
    | .ptr id o=>
     match s.h[id]? with
     | some (.cells cs)=>
      match cs[o]? with
      | some (.lst xs (.own j))=>if j = k then some (xs,{ s with h:=s.h.set id (.cells (cs.set o (.lst xs .no)))}) else none
      | _=>none
     | _=>none
    | _=>none
   | none=>none) = qmS k s ((p.find? (·.1 == i)).map (·.2)):=by
  cases p.find? (·.1 == i) with
  | none=>rfl
  | some q=>
   obtain ⟨_,src⟩:=q
   cases src with
   | tmp b=>rfl
   | cell a=>
    simp only [Option.map_some,qmS,qum]
    cases ev s.t a <;> rfl
 cases v with
 | lst xs f=>cases f <;> first | rfl | exact key
 | _=>exact key
theorem qrm (k i:Nat) (t:List qa) (e:Bool) (xs:List qa) (src:Option Src):qrl k i ⟨t,h,e⟩ (.lst xs (.own k)) src = some (xs,⟨up t i (.lst xs .no),h,e⟩):=by simp [qrl,up]
theorem qup (k i:Nat) (xs:List qa) (src:Option Src):qrl k i s (.lst xs .no) src = qmS k s src:=rfl
theorem qrj (k b:Nat):qmS k s (some (.tmp b)) = qun k b s (lkp s.t b):=rfl
theorem qmT (k:Nat) (a:qo):qmS k s (some (.cell a)) = qum k s (ev s.t a):=rfl
theorem qrk (k b:Nat) (t:List qa) (e:Bool) (xs:List qa):qun k b ⟨t,h,e⟩ (.lst xs (.own k)) = some (xs,⟨up t b (.lst xs .no),h,e⟩):=by simp [qun,up]
theorem qri (k id o:Nat):qum k s (.ptr id o) = qyl k s id o s.h[id]?:=rfl
def qym (k:Nat) (s:St) (id o:Nat) (cs:List qa) (v:Option qa):Option (List qa×St):=
 match v with
 | some (.lst xs (.own j))=>if j = k then some (xs,{ s with h:=s.h.set id (.cells (cs.set o (.lst xs .no)))}) else none
 | _=>none
theorem qj0 (k id o:Nat) (cs:List qa):qyl k s id o (some (.cells cs)) = qym k s id o cs cs[o]?:=rfl
theorem qrh (k id o:Nat) (t:List qa) (e:Bool) (cs xs:List qa):qym k ⟨t,h,e⟩ id o cs (some (.lst xs (.own k))) = some (xs,⟨t,h.set id (.cells (cs.set o (.lst xs .no))),e⟩):=by simp [qym]
theorem qx7 (i:Nat):qub [] i = none:=rfl
def qtW (p:qbW) (d:Option Nat) (o:AOp):qbW:=
 match d with
 | none=>p
 | some d=>
  let q:=p.filter fun x=>x.1 != d && !x.2.hangs d
  match qgy o with
  | some s=>if s.hangs d then q else (d,s) :: q
  | none=>q
def qtX (p:qbW) (d:Option Nat):qbW:=
 match d with
 | none=>p.filter fun x=>x.2.isTmp
 | some d=>p.filter fun x=>x.2.isTmp && (x.1 != d && !x.2.hangs d)
theorem qtY {d:Option Nat} {o:AOp} {g:Option (Nat×Bool)} (ho:o.effs = true):qar p ⟨d,o,g⟩ = qtX p d:=by simp only [qar,ho,if_true,qtX];cases d <;> rfl
theorem qxU {d:Option Nat} {o:AOp} {g:Option (Nat×Bool)} (ho:o.effs = false):qar p ⟨d,o,g⟩ = qtW p d o:=by simp only [qar,ho,Bool.false_eq_true,if_false,qtW];cases d <;> rfl
end
theorem qvz (k:IntKind) (a b:Int):qbm .add (.int k a) (.int k b) = some (.int k (k.wrap (a + b))):=by simp [qbm,qbh]
theorem qvJ (k:IntKind) (a b:Int):qbm .sub (.int k a) (.int k b) = some (.int k (k.wrap (a - b))):=by simp [qbm,qbh]
theorem qvF (k:IntKind) (a b:Int):qbm .mul (.int k a) (.int k b) = some (.int k (k.wrap (a * b))):=by simp [qbm,qbh]
theorem qvH (k:IntKind) (a b:Int):qbm .quo (.int k a) (.int k b) = if b = 0 then none else some (.int k (k.wrap (a.tdiv b))):=by simp [qbm,qbh]
theorem qvI (k:IntKind) (a b:Int):qbm .rem (.int k a) (.int k b) = if b = 0 then none else some (.int k (a.tmod b)):=by simp [qbm,qbh]
theorem qvA (k:IntKind) (a b:Int):qbm .eql (.int k a) (.int k b) = some (.bool (a == b)):=by simp [qbm,qbh]
theorem qvG (k:IntKind) (a b:Int):qbm .neq (.int k a) (.int k b) = some (.bool (!(a == b))):=by simp [qbm,qbh,bne]
theorem qvE (k:IntKind) (a b:Int):qbm .lss (.int k a) (.int k b) = some (.bool (ilt a b)):=by simp [qbm,qbh]
theorem qvD (k:IntKind) (a b:Int):qbm .leq (.int k a) (.int k b) = some (.bool (ile a b)):=by simp [qbm,qbh]
theorem qvC (k:IntKind) (a b:Int):qbm .gtr (.int k a) (.int k b) = some (.bool (ilt b a)):=by simp [qbm,qbh]
theorem qvB (k:IntKind) (a b:Int):qbm .geq (.int k a) (.int k b) = some (.bool (ile b a)):=by simp [qbm,qbh]
theorem qyd (a b:List UInt8):qbm .add (.str a) (.str b) = if a.length + b.length ≤ qcE then some (.str (a ++ b)) else none:=rfl
theorem qye (a b:List UInt8):qbm .eql (.str a) (.str b) = some (.bool (a == b)):=rfl
theorem qyh (a b:List UInt8):qbm .neq (.str a) (.str b) = some (.bool (!(a == b))):=rfl
theorem qyg (a b:List UInt8):qbm .lss (.str a) (.str b) = some (.bool (Op.bytesLess a b)):=rfl
theorem qyf (a b:List UInt8):qbm .gtr (.str a) (.str b) = some (.bool (!(Op.bytesLess a b || a == b))):=rfl
theorem qAu (k:IntKind) (n:Int):unV .neg (.int k n) = some (.int k (k.wrap (0 - n))):=rfl
theorem qAv (b:Bool):unV .not (.bool b) = some (.bool (!b)):=rfl
section
variable {base:Nat} {call:Call} {p:qbW} {s:St}
def qh4 (k:Nat) (zero:List qa) (len:Nat) (parts:List (Nat×qa)):Option qa:=
 if zero.length = k∧len * k ≤ 2 ^ 24 then
  match qaK ((List.replicate len zero).flatten) (parts.map fun (i,x)=>(i * k,k,x)) with
  | some cs=>if cs.all qa.storable then some (.lst ((List.range len).map fun i=>if k = 1 then (cs.getD i .undef) else .agg ((cs.drop (i * k)).take k)) .full) else none
  | none=>none
 else none
theorem qxO (d:Option Nat) (k:Nat) (z:List qa) (len:Nat) (ps:List (Nat×qo)):qu base call p d (.list k z len ps) s = qfS d s (qh4 k z len (ps.map fun (i,x)=>(i,ev s.t x))):=by
 rw [qaU _ _ rfl (by simp) (by simp) (by simp)]
 simp only [pureV,qh4,List.map_map]
 rfl
theorem qhN {k:Nat} {z:List qa} (hz:z.length = k):∀(vs:List qa) (D:List qa) (j:Nat),D.length = j * k→(∀v ∈ vs,v.cells.length = k∧v.cells.all qa.storable = true)→
  qaK (D ++ (List.replicate vs.length z).flatten) ((vs.zipIdx j).map fun x=>(x.2 * k,k,x.1)) = some (D ++ (vs.map qa.cells).flatten)
 | [],D,j,_,_=>by simp [qaK]
 | v :: vs,D,j,hD,hv=>by
  obtain ⟨h1,h2⟩:=hv v (List.mem_cons_self ..)
  have ih:=qhN hz vs (D ++ v.cells) (j + 1) (by rw [List.length_append,hD,h1,Nat.add_mul,Nat.one_mul]) fun w hw=>hv w (List.mem_cons_of_mem _ hw)
  simp only [List.zipIdx_cons,List.map_cons,qaK,List.length_cons,List.replicate_succ,List.flatten_cons,h2]
  rw [if_pos ⟨h1,by simp [hD,hz],trivial⟩]
  have e:splice (D ++ (z ++ (List.replicate vs.length z).flatten)) (j * k) v.cells = (D ++ v.cells) ++ (List.replicate vs.length z).flatten:=by
   unfold splice
   rw [←hD,List.take_left,h1,←List.drop_drop,List.drop_left,←hz,List.drop_left]
  rw [e,ih,List.append_assoc]
theorem qfy {k:Nat}:∀(vs:List (List qa)) (i:Nat),(∀v ∈ vs,v.length = k)→i < vs.length→(vs.flatten.drop (i * k)).take k = vs.getD i []
 | [],i,_,h=>by simp at h
 | v :: vs,0,hv,_=>by
  have:=hv v (List.mem_cons_self ..)
  simp [←this]
 | v :: vs,i + 1,hv,h=>by
  have h1:=hv v (List.mem_cons_self ..)
  rw [List.flatten_cons,Nat.add_mul,Nat.one_mul,Nat.add_comm,←List.drop_drop,←h1,List.drop_left,h1,qfy vs i (fun w hw=>hv w (List.mem_cons_of_mem _ hw)) (by simpa using h)]
  rfl
theorem qpP {k:Nat} {z:List qa} (hz:z.length = k) (h1:k ≠ 1) (vs:List (List qa)) (hl:vs.length * k ≤ 2 ^ 24) (hv:∀v ∈ vs,v.length = k∧v.all qa.storable = true) :
  qh4 k z vs.length ((vs.map qa.agg).zipIdx.map fun x=>(x.2,x.1)) = some (.lst (vs.map qa.agg) .full):=by
 have hf:=qhN hz (vs.map qa.agg) [] 0 (by simp) (by simpa [qa.cells] using hv)
 simp only [List.nil_append,List.length_map,List.map_map] at hf
 have hc:(vs.map (qa.cells ∘ qa.agg)).flatten = vs.flatten:=by
  congr 1
  exact (List.map_congr_left fun v _=>rfl).trans (List.map_id vs)
 simp only [qh4,List.map_map]
 rw [if_pos ⟨hz,hl⟩]
 rw [show ((fun x:Nat×qa=>(x.1 * k,k,x.2)) ∘ fun x:qa×Nat=>(x.2,x.1)) = fun x:qa×Nat=>(x.2 * k,k,x.1) from rfl,hf,hc]
 have hst:vs.flatten.all qa.storable = true:=by
  simp only [List.all_flatten,List.all_eq_true]
  exact fun v hvm=>List.all_eq_true.1 (hv v hvm).2
 simp only [hst,if_true,if_neg h1]
 congr 2
 apply List.ext_getElem?
 intro i
 rw [List.getElem?_map,List.getElem?_map]
 by_cases hi:i < vs.length
 ·rw [List.getElem?_range hi,List.getElem?_eq_getElem hi]
  simp only [Option.map_some]
  rw [qfy vs i (fun v hvm=>(hv v hvm).1) hi]
  simp [List.getD,List.getElem?_eq_getElem hi]
 ·rw [List.getElem?_eq_none (by simpa using hi),List.getElem?_eq_none (by simpa using hi)]
  rfl
theorem qpO {k:Nat} {z a:List qa} (hz:z.length = k) (h1:k ≠ 1) (ha:a.length = k) (sa:a.all qa.storable = true) (hl:k ≤ 1000):qh4 k z 1 [(0,.agg a)] = some (.lst [.agg a] .full):=
 qpP hz h1 [a] (by simp;omega) (by simpa using ⟨ha,by simpa using sa⟩)
end
theorem qhS (c b:Bool) (d:Option Nat) (s:St) (r:Option qa) (k:St→Option (Ex×St)):qfD (.bool c) b d s r k = qj (c == b) d s r k:=Eq.trans rfl rfl
theorem qjf (b:Bool) (d:Option Nat) (s:St) (r:Option qa) (k:St→Option (Ex×St)):qfD (.tup []) b d s r k = qj false d s r k:=Eq.trans rfl rfl
theorem qhT (d:Option Nat) (t:List qa) (h:List qb) (e:Bool) (v:qa) (k:St→Option (Ex×St)):qj true d ⟨t,h,e⟩ (some v) k = k ⟨put d v t,h,e⟩:=Eq.trans rfl rfl
theorem qgY (d:Option Nat) (t:List qa) (h:List qb) (e:Bool) (r:Option qa) (k:St→Option (Ex×St)):qj false d ⟨t,h,e⟩ r k = k ⟨put d (.tup []) t,h,e⟩:=Eq.trans rfl rfl
theorem qlH (d:Option Nat) (t:List qa) (h:List qb) (e:Bool) (r:Option (Ex×St)) (k:St→Option (Ex×St)):qfC (.bool true) false d ⟨t,h,e⟩ r k = k ⟨put d (.tup []) t,h,e⟩:=Eq.trans rfl rfl
theorem qlF (d:Option Nat) (t:List qa) (h:List qb) (e:Bool) (r:Option (Ex×St)) (k:St→Option (Ex×St)):qfC (.bool false) true d ⟨t,h,e⟩ r k = k ⟨put d (.tup []) t,h,e⟩:=Eq.trans rfl rfl
theorem qje (b:Bool) (d:Option Nat) (t:List qa) (h:List qb) (e:Bool) (r:Option (Ex×St)) (k:St→Option (Ex×St)):qfC (.tup []) b d ⟨t,h,e⟩ r k = k ⟨put d (.tup []) t,h,e⟩:=Eq.trans rfl rfl
theorem qlr (r:Option qa):qak true r = r:=Eq.trans rfl rfl
theorem qjb (r:Option qa):qak false r = some (.tup []):=Eq.trans rfl rfl
theorem qs0 (v:qa):gv true v = v:=Eq.trans rfl rfl
theorem qoO (v:qa):gv false v = .tup []:=Eq.trans rfl rfl
section
variable {base:Nat} {call:Call} {p:qbW} {s:St}
theorem qmX (f:St→Option (Ex×St)) (s:St):qcg f (some (.nor,s)) = f s:=Eq.trans rfl rfl
end
theorem qiX (a b:Option (Ex×St)):qvW (.bool true) a b = a:=Eq.trans rfl rfl
theorem qhC (a b:Option (Ex×St)):qvW (.bool false) a b = b:=Eq.trans rfl rfl
theorem qA6 (d:Nat) (o:AOp):ao d o = ⟨some d,o,none⟩:=Eq.trans rfl rfl
theorem qA4 (d:Nat) (o:AOp) (j:Nat) (b:Bool):ag d o j b = ⟨some d,o,some (j,b)⟩:=Eq.trans rfl rfl
theorem qA5 (o:AOp):an o = ⟨none,o,none⟩:=Eq.trans rfl rfl
theorem qq3 (cs:List qa) (o:Nat) (vs:List qa):splice cs o vs = cs.take o ++ vs ++ cs.drop (o + vs.length):=Eq.trans rfl rfl
theorem qFF (d i:Nat):mv d i=⟨some d,.mov (.t i),none⟩:=Eq.trans rfl rfl
theorem qFK (d i:Nat):sg d i=⟨some d,.asg (.t i),none⟩:=Eq.trans rfl rfl
theorem qEu (d k i:Nat):fA d k i=⟨some d,.fa k (.t i),none⟩:=Eq.trans rfl rfl
theorem qCQ (d i:Nat):ldn d i=⟨some d,.ld none (.t i),none⟩:=Eq.trans rfl rfl
theorem qCR (d k i:Nat):lds d k i=⟨some d,.ld (some k) (.t i),none⟩:=Eq.trans rfl rfl
theorem qDj (k i j:Nat):sts k i j=⟨none,.st (some k) (.t i) (.t j),none⟩:=Eq.trans rfl rfl
theorem qDi (i j:Nat):stn i j=⟨none,.st none (.t i) (.t j),none⟩:=Eq.trans rfl rfl
theorem qDo (d i k:Nat):xtt d i k=⟨some d,.ext (.t i) k,none⟩:=Eq.trans rfl rfl
theorem qCY (d i:Nat):nlc d i=⟨some d,.nilc (.t i),none⟩:=Eq.trans rfl rfl
theorem qDn (d k i j:Nat):xlL d k i j=⟨some d,.ixaL k (.t i) (.t j),none⟩:=Eq.trans rfl rfl
theorem qCW (d i:Nat):lnn d i=⟨some d,.len false (.t i),none⟩:=Eq.trans rfl rfl
theorem qEy (n:Int):kI n=.c (.int .i64 n):=Eq.trans rfl rfl
theorem qEx (n:Nat):kF n=.c (.fn n [] []):=Eq.trans rfl rfl
theorem qEz:kO=.c (.bool false):=Eq.trans rfl rfl
theorem qEA:kU=.c (.bool true):=Eq.trans rfl rfl
theorem qFG:nL=.lst [] .full:=Eq.trans rfl rfl
theorem qFM:zZ=.int .i64 0:=Eq.trans rfl rfl
theorem qFL:zS=.str []:=Eq.trans rfl rfl
theorem qBm (d i:Nat) (n:Int):eqk d i n=⟨some d,.bin .eql (.t i) (.c (.int .i64 n)),none⟩:=Eq.trans rfl rfl
theorem qBd (d:Nat) (o:BinOp) (i:Nat) (n:Int):bnk d o i n=⟨some d,.bin o (.t i) (.c (.int .i64 n)),none⟩:=Eq.trans rfl rfl
theorem qBe (d:Nat) (o:BinOp) (i j:Nat):bnt d o i j=⟨some d,.bin o (.t i) (.t j),none⟩:=Eq.trans rfl rfl
theorem qDh (d:Nat) (n:Int):sgk d n=⟨some d,.asg (.c (.int .i64 n)),none⟩:=Eq.trans rfl rfl
theorem qDf (d:Nat):sgO d=⟨some d,.asg (.c (.bool false)),none⟩:=Eq.trans rfl rfl
theorem qDg (d:Nat):sgU d=⟨some d,.asg (.c (.bool true)),none⟩:=Eq.trans rfl rfl
theorem qBg (d f i:Nat):clA d f i=⟨some d,.call (.c (.fn f [] [])) [.t i],none⟩:=Eq.trans rfl rfl
theorem qBh (d f i j:Nat):clB d f i j=⟨some d,.call (.c (.fn f [] [])) [.t i,.t j],none⟩:=Eq.trans rfl rfl
theorem qC6 (d i j:Nat):pkO d i j=⟨some d,.pick (.t i) (.t j) (.c (.bool false)),none⟩:=Eq.trans rfl rfl
theorem qC7 (d i j:Nat):pkU d i j=⟨some d,.pick (.t i) (.c (.bool true)) (.t j),none⟩:=Eq.trans rfl rfl
theorem qBf (d k i:Nat):bxx d k i=⟨some d,.box k (.t i),none⟩:=Eq.trans rfl rfl
theorem qC1 (d i:Nat):ntt d i=⟨some d,.un .not (.t i),none⟩:=Eq.trans rfl rfl
theorem qBO (d i j:Nat) (b:Bool):gmv d i j b=⟨some d,.mov (.t i),some (j,b)⟩:=Eq.trans rfl rfl
theorem qBK (d k i j:Nat) (b:Bool):gfA d k i j b=⟨some d,.fa k (.t i),some (j,b)⟩:=Eq.trans rfl rfl
theorem qBL (d i j:Nat) (b:Bool):gld d i j b=⟨some d,.ld none (.t i),some (j,b)⟩:=Eq.trans rfl rfl
theorem qBN (d k i j:Nat) (b:Bool):gls d k i j b=⟨some d,.ld (some k) (.t i),some (j,b)⟩:=Eq.trans rfl rfl
theorem qBM (d i j:Nat) (b:Bool):gln d i j b=⟨some d,.len false (.t i),some (j,b)⟩:=Eq.trans rfl rfl
theorem qBH (d:Nat) (o:BinOp) (i:Nat) (n:Int) (j:Nat) (b:Bool):gbk d o i n j b=⟨some d,.bin o (.t i) (.c (.int .i64 n)),some (j,b)⟩:=Eq.trans rfl rfl
theorem qBI (d:Nat) (o:BinOp) (i i2 j:Nat) (b:Bool):gbt d o i i2 j b=⟨some d,.bin o (.t i) (.t i2),some (j,b)⟩:=Eq.trans rfl rfl
theorem qEg (i:Nat) (a b:qC):cT i a b=.cond (.t i) a b:=Eq.trans rfl rfl
theorem qFJ (l:List qU) (c:qC):sR l c=.seq (.reg l) c:=Eq.trans rfl rfl
def sT:=PLift.up (And.intro (And.intro (And.intro (And.intro (And.intro (And.intro (And.intro (And.intro @qok (And.intro @qlo @qsO)) (And.intro (And.intro @qln @qoj) (And.intro @qi7 @qDc))) (And.intro (And.intro @qlm (And.intro @qsg @qse)) (And.intro (And.intro @qlg @qwe) (And.intro @qsf @qtw)))) (And.intro (And.intro (And.intro @qn0 (And.intro @qn1 @qlq)) (And.intro (And.intro @qja @qrX) (And.intro @qnt @qy4))) (And.intro (And.intro @qvS (And.intro @qhq @qnc)) (And.intro (And.intro @qpM @ql9) (And.intro @qjx @ql7))))) (And.intro (And.intro (And.intro (And.intro @ql8 (And.intro @qpy @qpD)) (And.intro (And.intro @qpE @qpC) (And.intro @qtB @qpA))) (And.intro (And.intro @qpB (And.intro @qpz @qpL)) (And.intro (And.intro @qpK @qmb) (And.intro @qma @qtz)))) (And.intro (And.intro (And.intro @ql6 (And.intro @ql5 @qpI)) (And.intro (And.intro @qpH @qpG) (And.intro @qpF @qpJ))) (And.intro (And.intro (And.intro @qtA @qpN) (And.intro @qqw @qsD)) (And.intro (And.intro @qpj @qmx) (And.intro @qoa @qlQ)))))) (And.intro (And.intro (And.intro (And.intro (And.intro @qjK (And.intro @qli @qjj)) (And.intro (And.intro @qmv @qn8) (And.intro @qlO @qtR))) (And.intro (And.intro @qwk (And.intro @qtk @qmw)) (And.intro (And.intro @qn9 @qlP) (And.intro @qqh @qso)))) (And.intro (And.intro (And.intro @qo4 (And.intro @qqn @qsu)) (And.intro (And.intro @qpa @qqo) (And.intro @qsv @qpb))) (And.intro (And.intro (And.intro @qqm @qst) (And.intro @qo9 @qtU)) (And.intro (And.intro @qwn @qtn) (And.intro @qqk @qsr))))) (And.intro (And.intro (And.intro (And.intro @qo7 (And.intro @qql @qss)) (And.intro (And.intro @qo8 @qqj) (And.intro @qsq @qo6))) (And.intro (And.intro @qqv (And.intro @qsC @qpi)) (And.intro (And.intro @qqu @qsB) (And.intro @qph @qmz)))) (And.intro (And.intro (And.intro @qoc (And.intro @qlS @qmy)) (And.intro (And.intro @qob @qlR) (And.intro @qtP @qwi))) (And.intro (And.intro (And.intro @qti @qmu) (And.intro @qn7 @qlN)) (And.intro (And.intro @qmt @qn6) (And.intro @qlM @qqs))))))) (And.intro (And.intro (And.intro (And.intro (And.intro (And.intro @qsz (And.intro @qpf @qqr)) (And.intro (And.intro @qsy @qpe) (And.intro @qqq @qsx))) (And.intro (And.intro @qpd (And.intro @qqp @qsw)) (And.intro (And.intro @qpc @qqt) (And.intro @qsA @qpg)))) (And.intro (And.intro (And.intro @qtS (And.intro @qwl @qtl)) (And.intro (And.intro @qqA @qsG) (And.intro @qpm @qqg))) (And.intro (And.intro (And.intro @qsn @qo3) (And.intro @qqx @qsE)) (And.intro (And.intro @qpk @qqi) (And.intro @qsp @qo5))))) (And.intro (And.intro (And.intro (And.intro @qtT (And.intro @qwm @qtm)) (And.intro (And.intro @qms @qn5) (And.intro @qlL @qqf))) (And.intro (And.intro @qsm (And.intro @qo2 @qqz)) (And.intro (And.intro @qsF @qpl) (And.intro @qC9 @qAm)))) (And.intro (And.intro (And.intro @qxW (And.intro @qxV @qAf)) (And.intro (And.intro @qz9 @qp9) (And.intro @qAb @quY))) (And.intro (And.intro (And.intro @qAj @qp8) (And.intro @qu6 @qp7)) (And.intro (And.intro @qAg @qAc) (And.intro @qC3 @qu3)))))) (And.intro (And.intro (And.intro (And.intro (And.intro @qxN (And.intro @qtK @qxO)) (And.intro (And.intro @qAa @qvK) (And.intro @qu7 @qtG))) (And.intro (And.intro @qtH (And.intro @qAd @qu5)) (And.intro (And.intro @qu4 @qu2) (And.intro @qsR @qu0)))) (And.intro (And.intro (And.intro @qof (And.intro @qu1 @quZ)) (And.intro (And.intro @qr3 @qAe) (And.intro @qzT @qxb))) (And.intro (And.intro (And.intro @qAh @qmp) (And.intro @qnk @qnj)) (And.intro (And.intro @qt1 @qt0) (And.intro @qmX @qrr))))) (And.intro (And.intro (And.intro (And.intro @qmW (And.intro @qrq @qk1)) (And.intro (And.intro @qk3 @qk2) (And.intro @qiS @qiX))) (And.intro (And.intro @qhC (And.intro @qpX @qpY)) (And.intro (And.intro @qEj @qEi) (And.intro @qDb @qDa)))) (And.intro (And.intro (And.intro @qc (And.intro @qw6 @qw7)) (And.intro (And.intro @qpR @qpQ) (And.intro @qnZ @qnY))) (And.intro (And.intro (And.intro @qld @qnT) (And.intro @qnW @qhI)) (And.intro (And.intro @qnV @qlf) (And.intro @qnS @qnX)))))))) (And.intro (And.intro (And.intro (And.intro (And.intro (And.intro (And.intro @qsa (And.intro @qsb @qle)) (And.intro (And.intro @qnU @qi1) (And.intro @qaf @qr7))) (And.intro (And.intro @qv8 (And.intro @qwb @qwa)) (And.intro (And.intro @qr9 @qv7) (And.intro @qwc @qy8)))) (And.intro (And.intro (And.intro @qnR (And.intro @qlc @qi0)) (And.intro (And.intro @qhG @qnQ) (And.intro @qwd @qza))) (And.intro (And.intro (And.intro @qr8 @qv9) (And.intro @qy9 @qQ)) (And.intro (And.intro @qaL @qwB) (And.intro @qx5 @qq1))))) (And.intro (And.intro (And.intro (And.intro @qwC (And.intro @qwA @qx4)) (And.intro (And.intro @qoC @qq0) (And.intro @qlu @qvc))) (And.intro (And.intro @qkO (And.intro @qnl @qnm)) (And.intro (And.intro @qnp @qk5) (And.intro @qnn @qno)))) (And.intro (And.intro (And.intro @qhu (And.intro @qrV @qgb)) (And.intro (And.intro @qiV @qnq) (And.intro @qr1 @qpt))) (And.intro (And.intro (And.intro @qkw @qpu) (And.intro @qqH @qqI)) (And.intro (And.intro @qx8 @qq4) (And.intro @qkQ @qkR)))))) (And.intro (And.intro (And.intro (And.intro (And.intro @qq5 (And.intro @qud @que)) (And.intro (And.intro @qq6 @qjW) (And.intro @qiu @qyb))) (And.intro (And.intro @quf (And.intro @qhh @qmL)) (And.intro (And.intro @qjB @qmd) (And.intro @qh6 @qh8)))) (And.intro (And.intro (And.intro @qh7 (And.intro @qpT @qpV)) (And.intro (And.intro @qmf @qpS) (And.intro @qg3 @qgh))) (And.intro (And.intro (And.intro @qjA @qtE) (And.intro @qh5 @qpU)) (And.intro (And.intro @qgs @qfM) (And.intro @quc @qwt))))) (And.intro (And.intro (And.intro (And.intro @qsS (And.intro @qp5 @qmj)) (And.intro (And.intro @qty @qtx) (And.intro @qsV @qqJ))) (And.intro (And.intro @qkh (And.intro @qvz @qvJ)) (And.intro (And.intro @qvF @qvH) (And.intro @qvI @qvA)))) (And.intro (And.intro (And.intro @qvG (And.intro @qvE @qvD)) (And.intro (And.intro @qvC @qvB) (And.intro @qyd @qye))) (And.intro (And.intro (And.intro @qyh @qyg) (And.intro @qyf @qAu)) (And.intro (And.intro @qAv @qmq) (And.intro @qjJ @qtO))))))) (And.intro (And.intro (And.intro (And.intro (And.intro (And.intro @qxR (And.intro @qhS @qjf)) (And.intro (And.intro @qoN @qlI) (And.intro @qhT @qgY))) (And.intro (And.intro @qjg (And.intro @qwN @qvw)) (And.intro (And.intro @qo0 @qBS) (And.intro @qA8 @qwP)))) (And.intro (And.intro (And.intro @qBR (And.intro @qA7 @qwO)) (And.intro (And.intro @qzt @qyU) (And.intro @qtd @qzp))) (And.intro (And.intro (And.intro @qyQ @qs9) (And.intro @qBU @qBa)) (And.intro (And.intro @qwR @qwL) (And.intro @qvu @qoY))))) (And.intro (And.intro (And.intro (And.intro @qzo (And.intro @qyP @qs8)) (And.intro (And.intro @qzl @qyM) (And.intro @qs5 @qzu))) (And.intro (And.intro @qyV (And.intro @qte @qzr)) (And.intro (And.intro @qyS @qtb) (And.intro @qwJ @qvs)))) (And.intro (And.intro (And.intro @qoW (And.intro @qzs @qyT)) (And.intro (And.intro @qtc @qwK) (And.intro @qvt @qoX))) (And.intro (And.intro (And.intro @qzq @qyR) (And.intro @qta @qwI)) (And.intro (And.intro @qvr @qoV) (And.intro @qzk @qyL)))))) (And.intro (And.intro (And.intro (And.intro (And.intro @qs4 (And.intro @qwF @qvo)) (And.intro (And.intro @qoS @qzm) (And.intro @qyN @qs6))) (And.intro (And.intro @qwG (And.intro @qvp @qoT)) (And.intro (And.intro @qzn @qyO) (And.intro @qs7 @qwH)))) (And.intro (And.intro (And.intro @qvq (And.intro @qoU @qBT)) (And.intro (And.intro @qA9 @qwQ) (And.intro @qzv @qyW))) (And.intro (And.intro (And.intro @qtf @qwM) (And.intro @qvv @qoZ)) (And.intro (And.intro @qs2 @qrO) (And.intro @qlJ @qs3))))) (And.intro (And.intro (And.intro (And.intro @qrP (And.intro @qlK @qoA)) (And.intro (And.intro @qlr @qjb) (And.intro @qBP @qs0))) (And.intro (And.intro @qoO (And.intro @qlG @qlH)) (And.intro (And.intro @qlF @qje) (And.intro @qwS @qto)))) (And.intro (And.intro (And.intro @qsI (And.intro @qsK @qsJ)) (And.intro (And.intro @qod @qx1) (And.intro @qx2 @qt2))) (And.intro (And.intro (And.intro @qla @qml) (And.intro @qmk @qmm)) (And.intro (And.intro @qpw @ql4) (And.intro @qpv @ql3)))))))))
def sC:=PLift.up (And.intro (And.intro (And.intro (And.intro (And.intro @List.nil_append.{0} (And.intro @List.append_nil.{0} @List.map_cons.{0,0})) (And.intro (And.intro @List.map_nil.{0,0} @List.length_cons.{0}) (And.intro @List.length_nil.{0} @List.cons_append.{0}))) (And.intro (And.intro (And.intro (And.intro (And.intro (And.intro (And.intro (And.intro (And.intro (And.intro (And.intro (And.intro (And.intro (And.intro (And.intro (And.intro (And.intro (And.intro (And.intro (And.intro (And.intro (And.intro (And.intro (And.intro (And.intro (And.intro (And.intro (And.intro (And.intro (And.intro (And.intro (And.intro (And.intro (And.intro (And.intro (And.intro (And.intro (And.intro (And.intro (And.intro (And.intro (And.intro @qA6 @qFF) @qFK) @qEu) @qCQ) @qCR) @qDj) @qDi) @qDo) @qCY) @qDn) @qCW) @qEy) @qEx) @qEz) @qEA) @qFG) @qFM) @qFL) @qBm) @qBd) @qBe) @qDh) @qDf) @qDg) @qBg) @qBh) @qC6) @qC7) @qBf) @qC1) @qBO) @qBK) @qBL) @qBN) @qBM) @qBH) @qBI) @qEg) @qFJ) @qA4) (And.intro @qA5 @Option.map_some.{0,0})) (And.intro (And.intro @ne_eq.{1} @not_false_eq_true) (And.intro @List.length_set.{0} @List.length_replicate.{0})))) (And.intro (And.intro (And.intro @Bool.or_false (And.intro @Bool.or_true @Bool.false_or)) (And.intro (And.intro @Bool.true_or @Bool.and_true) (And.intro @Bool.and_false @Bool.true_and))) (And.intro (And.intro (And.intro @Bool.false_and @Bool.not_true) (And.intro @Bool.not_false @eq_self.{1})) (And.intro (And.intro @List.getElem?_cons_zero.{0} @List.getElem?_cons_succ.{0}) (And.intro @List.set_cons_zero.{0} @List.set_cons_succ.{0}))))) (And.intro (And.intro (And.intro (And.intro @List.append_assoc.{0} (And.intro @List.length_append.{0} @qq3)) (And.intro (And.intro @List.take_zero.{0} @List.drop_zero.{0}) (And.intro @List.take_succ_cons.{0} @List.drop_succ_cons.{0}))) (And.intro (And.intro (And.intro @List.drop_nil.{0} @List.take_nil.{0}) (And.intro @List.all_cons.{0} @List.all_nil.{0})) (And.intro (And.intro @Option.getD_some.{0} @Option.getD_none.{0}) (And.intro @and_self @and_true)))) (And.intro (And.intro (And.intro (And.intro @true_and @if_true.{1}) (And.intro @if_false.{1} @Nat.le_refl)) (And.intro (And.intro @Nat.ble_self_eq_true @Nat.zero_add) (And.intro @Nat.add_zero @beq_self_eq_true.{0}))) (And.intro (And.intro (And.intro @Bool.false_eq_true @bne_self_eq_false.{0}) (And.intro @List.isEmpty_nil.{0} @List.isEmpty_cons.{0})) (And.intro (And.intro @cond_true.{1} @cond_false.{1}) (And.intro @List.filterMap_cons.{0,0} @List.filterMap_nil.{0,0}))))))
def sTA:=PLift.up (And.intro (And.intro (And.intro (And.intro @qxY (And.intro @qxP @qkE)) (And.intro @qif (And.intro @qz8 @quk))) (And.intro (And.intro @qul (And.intro @qvk @qrM)) (And.intro @qvl (And.intro @qyK @qnb)))) (And.intro (And.intro (And.intro @qyn (And.intro @qrm @qup)) (And.intro @qrj (And.intro @qmT @qrk))) (And.intro (And.intro @qri (And.intro @qj0 @qrh)) (And.intro @qx7 (And.intro @qtY @qxU)))))
def sCA:=PLift.up (And.intro (And.intro @List.filter_cons.{0} @List.filter_nil.{0}) (And.intro @List.find?_cons.{0} @List.find?_nil.{0}))
section
variable {base:Nat} {call:Call} {p:qbW} {s:St} {t:List qa} {h:List qb}
def hxW (d:Option Nat) (s:St):Option (qa×List qb×Bool)→Option (Ex×St)
 | some (v,h,e)=>some (.nor,{ t:=put d v.dim s.t,h,e:=s.e || e})
 | none=>none
theorem qs1 (d:Option Nat) (t:List qa) (h h':List qb) (e e':Bool) (v:qa):hxW d ⟨t,h,e⟩ (some (v,h',e')) = some (.nor,⟨put d v.dim t,h',e || e'⟩):=rfl
theorem qC2 (d:Option Nat) (o:HOp) (aS:List qo):qu base call p d (.hx o aS) s = hxW d s (hop base o (aS.map (ev s.t)) s.h):=by
 simp only [qu]
 cases hop base o (aS.map (ev s.t)) s.h with
 | none=>rfl
 | some r=>rfl
theorem qtQ (o:HOp) (aS:List qo):(AOp.hx o aS).plain = false:=Eq.trans rfl rfl
theorem qwj (o:HOp) (aS:List qo):(AOp.hx o aS).effs = true:=Eq.trans rfl rfl
theorem qtj (o:HOp) (aS:List qo):(AOp.hx o aS).isApp = false:=Eq.trans rfl rfl
theorem qcd (id o len cap more:Nat):qbb false (.sl id o len cap more) = some (.int .i64 len):=rfl
theorem qcP (id o len cap more:Nat):(qa.sl id o len cap more).dim = .sl id o len cap more:=rfl
theorem qbZ (id o len cap more i:Nat) (t:List qa):qx (.sl id o len cap more) i t = t:=rfl
theorem qq7 (id o len cap more:Nat):(qa.sl id o len cap more).storable = true:=Eq.trans rfl rfl
theorem qke (id o len cap more:Nat):(qa.sl id o len cap more).cells = [.sl id o len cap more]:=rfl
theorem qfa (n id o len cap more:Nat):(qa.sl id o len cap more).lower n = Nat.blt id n:=Eq.trans rfl rfl
theorem qw4 (n:Nat) (v:qa) (H:List qb):qat n (.ret v) H false = bif v.lower n then (.ret v,H.take n,false) else (.ret v,H,false):=by
 unfold qat
 cases h:v.lower n <;> simp [h]
def qyi (k:Nat) (x y:qa):Option qa:=pureV [x,y] (.subL k (.t 0) none (some (.t 1)))
theorem qAi (d:Option Nat) (k:Nat) (x y:qo):qu base call p d (.subL k x none (some y)) s = qfS d s (qyi k (ev s.t x) (ev s.t y)):=by
 have e1:ev [ev s.t x,ev s.t y] (.t 0) = ev s.t x:=by
  change (raw s.t x).dim.dim = (raw s.t x).dim
  exact qhH _
 have e2:ev [ev s.t x,ev s.t y] (.t 1) = ev s.t y:=by
  change (raw s.t y).dim.dim = (raw s.t y).dim
  exact qhH _
 have e:pureV s.t (.subL k x none (some y)) = qyi k (ev s.t x) (ev s.t y):=by
  simp only [qyi,pureV,bound,e1,e2]
 simp only [qu,e]
 cases qyi k (ev s.t x) (ev s.t y) <;> rfl
theorem qyj (k id o len cap more:Nat) (j:IntKind) (n:Int):qyi k (.sl id o len cap more) (.int j n) =
  if 0 ≤ n then (if n.toNat ≤ cap then (if cap = 0 then (if more = 0 then some (.lst [] .full) else none) else (if more = 0∨more = k then some (.sl id o n.toNat cap more) else none)) else none) else none:=by
 have e1:ev [qa.sl id o len cap more,.int j n] (.t 0) = .sl id o len cap more:=rfl
 have e2:ev [qa.sl id o len cap more,.int j n] (.t 1) = .int j n:=rfl
 simp only [qyi,pureV,bound,e1,e2]
 by_cases h:0 ≤ n
 ·simp only [h,if_true,Nat.zero_le,true_and,Nat.zero_mul,Nat.add_zero,Nat.sub_zero]
 ·simp only [h,if_false]
theorem qwU (k id o len cap more:Nat) (j:IntKind) (n:Int):qav k (.sl id o len cap more) (.int j n) = if 0 ≤ n∧n < len then some (.ptr id (o + n.toNat * k)) else none:=rfl
end
section
variable {P:Program} {gl:Nat→Option (List qa)}
noncomputable def cellsOf (W:World):Nat→Nat→Option Value:=fun b o=>qk7 (W.cell? ⟨b,o,none⟩)
def qvY (P:Program) (S:List TypeId):Bool:=S.all fun t=>decide (t < P.types.size) && P.readableRec t && match P.underlying t with
 | some .bool | some (.int _) | some .string=>true
 | some (.slice e)=>S.contains e && decide (0 < P.cellsOf e)
 | some (.struct fs)=>fs.toList.all fun f=>S.contains f.type
 | _=>false
def qbt (P:Program) (t:TypeId):Bool:=
 match P.underlying t with
 | some (.struct _)=>true
 | _=>false
def el (P:Program) (t:TypeId) (cs:List qa):qa:=bif qbt P t then .agg cs else cs.headD .undef
def qgJ (R:TypeId→List qa→Prop):List TypeId→List (List qa)→Prop
 | [],[]=>True
 | t :: ts,a :: aS=>R t a∧qgJ R ts aS
 | _,_=>False
def qcq (P:Program):Nat→TypeId→List qa→Prop
 | 0,_,_=>False
 | n + 1,t,aS=>
  match P.underlying t with
  | some .bool=>∃b,aS = [.bool b]
  | some (.int k)=>∃z,aS = [.int k z]∧(Lit.int k z).wf = true
  | some .string=>∃s:List UInt8,aS = [.str s]∧s.length ≤ maxLen
  | some (.slice e)=>∃xs:List (List qa),aS = [.lst (xs.map (el P e)) .no]∧xs.length ≤ maxLen∧∀x ∈ xs,qcq P n e x
  | some (.struct fs)=>∃ass:List (List qa),aS = ass.flatten∧qgJ (qcq P n) (fs.toList.map (·.type)) ass
  | _=>False
theorem qhn {γ:Nat→Option Nat} {imm:Nat→Nat→Option Value} {k:Nat} {b:Nat}:∀(xs:List qa) (p:Nat),(∀(i:Nat) (x:qa),xs[i]? = some x→x.cells.length = k∧qV γ imm x.cells b (p + i * k))→qJ γ imm xs b p
 | [],_,_=>trivial
 | x :: xs,p,h=>by
  obtain ⟨h1,h2⟩:=h 0 x rfl
  have ih:=qhn xs (p + k) fun i y hy=>by
   obtain ⟨k1,k2⟩:=h (i + 1) y (by simpa using hy)
   refine ⟨k1,?_⟩
   rw [Nat.add_mul,Nat.one_mul] at k2
   rw [Nat.add_assoc,Nat.add_comm k]
   exact k2
  simp only [Nat.zero_mul,Nat.add_zero] at h2
  cases x with
  | agg cs=>simp only [qa.cells] at h1 h2;simp only [qJ,h1];exact ⟨h2,ih⟩
  | _=>
   simp only [qa.cells,List.length_cons,List.length_nil,Nat.zero_add] at h1
   subst h1
   simp only [qa.cells,qV] at h2
   exact ⟨h2.1,ih⟩
theorem qhm {γ:Nat→Option Nat} {W:World} {b:Nat}:∀(aS:List qa) (vs:List Value) (p:Nat),qg γ (cellsOf W) aS vs→(∀i,i < vs.length→W.cell? ⟨b,p + i,none⟩ = vs[i]?)→qV γ (cellsOf W) aS b p
 | [],_,_,_,_=>trivial
 | a :: aS,vs,p,h,hc=>by
  simp only [qg] at h
  obtain ⟨v,rest,rfl,h1,h2⟩:=h
  refine ⟨⟨v,qaO.2 ⟨by simpa using hc 0 (by simp),qb1 h1⟩,h1⟩,qhm aS rest (p + 1) h2 fun i hi=>?_⟩
  have:=hc (i + 1) (by simpa using hi)
  rw [Nat.add_assoc,Nat.add_comm 1]
  simpa using this
theorem qf1 {γ:Nat→Option Nat} {imm:Nat→Nat→Option Value} {R:TypeId→List qa→Prop} {size:TypeId→Nat}:∀(fs:List Field) (o:Nat) (cs:List Value),cs.length = o + (fs.map fun f=>size f.type).sum→
  (∀(j:Nat) f,fs[j]? = some f→f.offset = o + ((fs.take j).map fun f=>size f.type).sum)→(∀f ∈ fs,∃aS,qg γ imm aS ((cs.drop f.offset).take (size f.type))∧R f.type aS)→
  ∃ass:List (List qa),qg γ imm ass.flatten (cs.drop o)∧qgJ R (fs.map (·.type)) ass
 | [],o,cs,hl,_,_=>⟨[],by simp only [List.map_nil,List.sum_nil,Nat.add_zero] at hl;simp [qg,←hl],trivial⟩
 | f :: fs,o,cs,hl,ho,hr=>by
  have h0:f.offset = o:=by simpa using ho 0 f rfl
  obtain ⟨aS,h1,h2⟩:=hr f (List.mem_cons_self ..)
  rw [h0] at h1
  simp only [List.map_cons,List.sum_cons] at hl
  obtain ⟨ass,h3,h4⟩:=qf1 fs (o + size f.type) cs (by omega) (fun j g hg=>by
   have:=ho (j + 1) g (by simpa using hg)
   simp only [List.take_succ_cons,List.map_cons,List.sum_cons] at this
   omega) (fun g hg=>hr g (List.mem_cons_of_mem _ hg))
  refine ⟨aS :: ass,?_,h2,h4⟩
  have e:cs.drop o = (cs.drop o).take (size f.type) ++ cs.drop (o + size f.type):=by
   rw [←List.drop_drop,List.take_append_drop]
  rw [e,List.flatten_cons]
  exact qg.append h1 h3
theorem qcq.cells_el {n:Nat} {t:TypeId} {x:List qa} (h:qcq P n t x):(el P t x).cells = x:=by
 cases n with
 | zero=>exact h.elim
 | succ n=>
  simp only [qcq] at h
  simp only [el,qbt]
  split at h
  ·rename_i hu;obtain ⟨b,rfl⟩:=h;rw [hu];rfl
  ·rename_i hu;obtain ⟨b,rfl,_⟩:=h;rw [hu];rfl
  ·rename_i hu;obtain ⟨b,rfl,_⟩:=h;rw [hu];rfl
  ·rename_i hu;obtain ⟨b,rfl,_⟩:=h;rw [hu];rfl
  ·rename_i hu;rw [hu];rfl
  ·exact h.elim
theorem qnA {α:Type} {Q:Nat→α→Prop}:∀len:Nat,(∀i,i < len→∃a,Q i a)→∃xs:List α,xs.length = len∧∀i x,xs[i]? = some x→Q i x
 | 0,_=>⟨[],rfl,fun i x h=>by simp at h⟩
 | len + 1,h=>by
  obtain ⟨xs,h1,h2⟩:=qnA len fun i hi=>h i (by omega)
  obtain ⟨y,h3⟩:=h len (by omega)
  refine ⟨xs ++ [y],by simp [h1],fun i x hi=>?_⟩
  rcases Nat.lt_or_ge i xs.length with hlt | hge
  ·rw [List.getElem?_append_left hlt] at hi;exact h2 i x hi
  ·rw [List.getElem?_append_right hge] at hi
   have:i - xs.length = 0:=by
    rcases Nat.eq_zero_or_pos (i - xs.length) with h | h
    ·exact h
    ·rw [List.getElem?_eq_none (by simp only [List.length_cons,List.length_nil];omega)] at hi;cases hi
   rw [this] at hi
   simp only [List.getElem?_cons_zero,Option.some.injEq] at hi
   subst hi
   have:i = len:=by omega
   subst this
   exact h3
theorem quB {a:Addr} (h:a.spot = none) (n:Nat):a.add n = ⟨a.block,a.off + n,none⟩:=by
 unfold Addr.add
 split
 ·rename_i h0
  subst h0
  cases a
  simp_all
 ·rfl
theorem qie {H:Type} {enc:TypeId×Value→H} {W:World} {base:Nat} {sp:Nat→Bool} {held:Bool} {S:List TypeId} (hl:laidOutB P = true) (hS:qvY P S = true):∀(n:Nat) (t:TypeId) (cs:List Value) (x:DataW H×List MemPlace),t ∈ S→
  DataW.trod enc P W base sp held n t cs = some x→∃aS,qg (fun _=>none) (cellsOf W) aS cs∧qcq P n t aS
 | 0,t,cs,x,_,h=>by simp [DataW.trod] at h
 | n + 1,t,cs,x,ht,h=>by
  have hd:=List.all_eq_true.1 hS t ht
  simp only [Bool.and_eq_true,decide_eq_true_eq] at hd
  obtain ⟨⟨hrow,_⟩,hd⟩:=hd
  have ih:=qie (base:=base) (sp:=sp) (held:=held) (enc:=enc) (W:=W) hl hS n
  split at hd
  ·rename_i hu
   obtain ⟨b,rfl,_⟩:=DataW.trod_bool hu h
   exact ⟨[.bool b],by simp [qg,qA],by simp only [qcq,hu];exact ⟨b,rfl⟩⟩
  ·rename_i k hu
   obtain ⟨z,rfl,_,hw⟩:=DataW.trod_int hu h
   exact ⟨[.int k z],by simp [qg,qA],by simp only [qcq,hu];exact ⟨z,rfl,hw⟩⟩
  ·rename_i hu
   obtain ⟨s,rfl,_,hw⟩:=DataW.trod_string hu h
   exact ⟨[.str s.data.toList],by simp only [qg,qA];exact ⟨_,_,rfl,⟨s,rfl,rfl⟩,rfl⟩,by simp only [qcq,hu];exact ⟨_,rfl,by simpa using hw⟩⟩
  ·rename_i e hu
   simp only [Bool.and_eq_true,decide_eq_true_eq,List.contains_iff_mem] at hd
   obtain ⟨he,hpos⟩:=hd
   rcases DataW.trod_slice hu h with ⟨rfl,_⟩ | ⟨a,len,cap,elems,rest,m,hm,rfl,_,hb,hlc,hcm,hel,hget,_⟩
   ·refine ⟨[.lst [] .no],?_,by simp only [qcq,hu];exact ⟨[],rfl,Nat.zero_le _,fun _ h=>by cases h⟩⟩
    simp only [qg,qA]
    exact ⟨_,_,rfl,⟨none,0,0,rfl,rfl,Nat.le_refl _,by simp,by simp,⟨0,fun _ h=>by cases h⟩,.inl trivial⟩,rfl⟩
   ·cases hm
    have one:∀i,i < len→∃aS:List qa,(∃cs',W.cells? base (a.add (i * P.cellsOf e)) (P.cellsOf e) = some cs'∧qg (fun _=>none) (cellsOf W) aS cs')∧qcq P n e aS:=by
     intro i hi
     have hg:=hget i hi
     rw [List.getElem?_eq_getElem (by omega)] at hg
     simp only [Option.bind_eq_some_iff] at hg
     obtain ⟨cs',h1,h2⟩:=hg
     obtain ⟨aS,h3,h4⟩:=ih e cs' _ he h2
     exact ⟨aS,⟨cs',h1,h3⟩,h4⟩
    obtain ⟨xs,hxl,hx⟩:=qnA len one
    refine ⟨[.lst (xs.map (el P e)) .no],?_,by simp only [qcq,hu];exact ⟨xs,rfl,by omega,fun x hxm=>by obtain ⟨i,hi⟩:=List.getElem?_of_mem hxm;exact (hx i x hi).2⟩⟩
    simp only [qg,qA]
    refine ⟨_,_,rfl,⟨some a,len,cap,rfl,by simp [hxl],hlc,by simp,by simp,⟨P.cellsOf e,fun y hy=>?_⟩,?_⟩,rfl⟩
    ·obtain ⟨x,hxm,rfl⟩:=List.mem_map.1 hy
     obtain ⟨i,hi⟩:=List.getElem?_of_mem hxm
     obtain ⟨⟨cs',h1,h2⟩,h3⟩:=hx i x hi
     rw [h3.cells_el,h2.length,(World.cells?_some h1).2.1]
    ·rcases Nat.eq_zero_or_pos len with h0 | h0
     ·left
      have:xs = []:=List.eq_nil_of_length_eq_zero (by omega)
      simp [this]
     ·right
      have hspot:a.spot = none:=by
       obtain ⟨⟨cs',h1,h2⟩,_⟩:=hx 0 xs[0] (List.getElem?_eq_getElem (by omega))
       obtain ⟨_,h3,h4⟩:=World.cells?_some h1
       have h5:=h4 0 hpos
       rw [List.getElem?_eq_getElem (by omega)] at h5
       simp only [Nat.zero_mul,Addr.add,if_pos] at h5
       cases hsp:a.spot with
       | none=>rfl
       | some s=>
        simp only [World.cell?] at h5
        split at h5
        ·simp [hsp] at h5
        ·cases h5
      refine ⟨a.block,a.off,by rw [←hspot],qhn (k:=P.cellsOf e) _ _ fun i y hy=>?_⟩
      rw [List.getElem?_map,Option.map_eq_some_iff] at hy
      obtain ⟨x,hi,rfl⟩:=hy
      obtain ⟨⟨cs',h1,h2⟩,h3⟩:=hx i x hi
      obtain ⟨_,h4,h5⟩:=World.cells?_some h1
      rw [h3.cells_el]
      refine ⟨by rw [h2.length,h4],qhm x cs' _ h2 fun j hj=>?_⟩
      have h6:=h5 j (by omega)
      rw [←h6]
      rw [quB hspot,quB rfl,Nat.add_assoc]
  ·rename_i fs hu
   simp only [List.all_eq_true,List.contains_iff_mem] at hd
   obtain ⟨xs,m,hm,_,hlen,_,hget⟩:=DataW.trod_struct hu h
   cases hm
   obtain ⟨_,h2,h3⟩:=kid_struct hl hrow hu
   obtain ⟨ass,h4,h5⟩:=qf1 (γ:=fun _=>none) (imm:=cellsOf W) (R:=qcq P n) (size:=P.cellsOf) fs.toList 0 cs (by rw [hlen,h2];simp) (fun j f hj=>by rw [h3 j f hj];simp) (fun f hf=>by
    obtain ⟨i,hi⟩:=List.getElem?_of_mem hf
    have hi':fs[i]? = some f:=by simpa using hi
    have hg:=hget i f hi'
    have hil:i < xs.length:=by
     have:=(Array.getElem?_eq_some_iff.1 hi').1
     omega
    rw [List.getElem?_eq_getElem hil] at hg
    exact ih f.type _ _ (hd f hf) hg)
   exact ⟨ass.flatten,by simpa using h4,by simp only [qcq,hu];exact ⟨ass,rfl,h5⟩⟩
  ·cases hd
theorem qkD {H:Type} {enc:TypeId×Value→H} {W W0:World} {base b0:Nat} {r:Reach} {sp:Nat→Bool} {held:Bool} {S:List TypeId} (hl:laidOutB P = true) (hS:qvY P S = true) {t:TypeId} (ht:t ∈ S) {v:Value} {d:DataW H} {ps:List MemPlace}
  (hok:Value.okWide P W0 r b0 t v) (h:DataW.Trod enc P W base sp held t v d ps):∃n aS,qcq P n t aS∧qA (fun _=>none) (cellsOf W) (el P t aS) v:=by
 obtain ⟨n,hn⟩:=h
 obtain ⟨aS,h1,h2⟩:=qie hl hS n t _ _ ht hn
 refine ⟨n,aS,h2,?_⟩
 have hd:=List.all_eq_true.1 hS t ht
 simp only [Bool.and_eq_true,decide_eq_true_eq] at hd
 obtain ⟨_,hd⟩:=hd
 have scalar:qbt P t = false→v.cells = #[v]→qA (fun _=>none) (cellsOf W) (el P t aS) v:=by
  intro hs hv
  rw [hv] at h1
  simp only [el,hs,cond_false]
  cases aS with
  | nil=>simp [qg] at h1
  | cons a aS=>
   simp only [qg] at h1
   obtain ⟨u,rest,he,h3,h4⟩:=h1
   cases he
   exact h3
 split at hd
 ·rename_i hu
  simp only [Value.okWide,hu,Cell.okWide,Cell.ok] at hok
  refine scalar (by simp [qbt,hu]) ?_
  cases v <;> first | rfl | (exact hok.elim)
 ·rename_i k hu
  simp only [Value.okWide,hu,Cell.okWide,Cell.ok] at hok
  refine scalar (by simp [qbt,hu]) ?_
  cases v <;> first | rfl | (exact hok.elim)
 ·rename_i hu
  simp only [Value.okWide,hu,Cell.okWide,Cell.ok] at hok
  refine scalar (by simp [qbt,hu]) ?_
  cases v <;> first | rfl | (exact hok.elim)
 ·rename_i e hu
  simp only [Value.okWide,hu,Cell.okWide,Cell.ok] at hok
  refine scalar (by simp [qbt,hu]) ?_
  cases v <;> first | rfl | (exact hok.elim)
 ·rename_i fs hu
  simp only [Value.okWide,hu] at hok
  obtain ⟨cs,rfl,_⟩:=hok
  simp only [el,qbt,hu,cond_true,qA]
  exact ⟨cs,rfl,h1⟩
 ·cases hd
noncomputable def qd.whole (W:World):qd:={ γ:=fun _=>none,imm:=cellsOf W,ow:=fun _=>none}
theorem qrw {W:World} (h:qA1 gl W):Rel P gl (qd.whole W) [] W∧qdw (qd.whole W):=by
 refine ⟨⟨(fun _ _ h=>by cases h),(fun _ _ _ h=>by cases h),(fun _ _ _ h=>by cases h),fun b o v hv _=>?_,(fun _ _ _ _ _ _ h=>by cases h),(fun b o hv=>absurd rfl (qaO.1 hv).2),(fun _ _ h=>by cases h),fun g cs hg=>?_⟩,(fun _ _ h=>by cases h)⟩
 ·have hv:=(qaO.1 hv).1
  refine ⟨hv,?_⟩
  rcases Nat.lt_or_ge b W.heap.size with hb | hb
  ·exact hb
  ·simp [World.cell?,Array.getElem?_eq_none hb] at hv
 ·obtain ⟨h1,vs,h2,h3⟩:=h g cs hg
  refine ⟨qV.of_get fun i c hc=>?_,h1⟩
  obtain ⟨v,hv,hr⟩:=h2.get hc
  refine ⟨v,?_,?_⟩
  ·simp only [qd.whole,cellsOf,Nat.zero_add]
   exact qaO.2 ⟨h3 i v hv,qb1 hr⟩
  ·exact qA.mono (fun _ _ _ h=>by cases h) 0 (fun i _ hi=>absurd hi (Nat.not_lt_zero _)) c v (qdb h1 hc) hr
theorem qmZ {n:Nat} {W W':World} {G':qd} (he:Ext n (qd.whole W) W G' W'):W.keptBut W' (fun _=>False):=by
 refine ⟨he.os,he.output,fun i hi=>?_⟩
 rw [he.heap i hi ⟨fun _ h=>by simp [qd.whole] at h,rfl⟩]
 split
 ·rename_i h1 h2
  rw [h1] at h2
  cases h2
  exact ⟨rfl,rfl,rfl,fun _ _=>rfl⟩
 ·rename_i h1 h2
  rw [h1] at h2
  cases h2
  exact .inr ⟨rfl,rfl⟩
 ·rfl
theorem qpp {W W':World} (h:W.keptBut W' (fun _=>False)) {p:MemPlace} (hp:p.block < W.heap.size):W.sameAt W' p:=by
 have h1:=h.2.2 p.block hp
 cases p with
 | cell b off=>
  simp only [MemPlace.block] at h1 hp
  simp only [World.sameAt,World.cell?]
  split at h1
  ·rename_i e1 e2
   rw [e1,e2]
   simp only [Option.isSome_none,Bool.false_eq_true,if_false]
   exact h1.2.2.2 off (fun h=>h)
  ·rename_i e1 e2
   rw [e1,e2]
  ·rw [h1]
 | map b=>
  simp only [MemPlace.block] at h1 hp
  simp only [World.sameAt]
  split at h1
  ·rename_i c t fr c' t' fr' e1 e2
   obtain ⟨rfl,rfl,h3,h4⟩:=h1
   rw [e1,e2]
   have:c' = c:=by
    apply Array.ext_getElem?
    intro j
    exact h4 j (fun h=>h)
   rw [this]
  ·rename_i e1 e2
   rcases h1 with h1 | ⟨rfl,rfl⟩
   ·exact h1.elim
   ·rw [e1,e2]
  ·exact h1
theorem qk4 {call : AE.Call} (hcall : qbw P gl call) {f : FuncId} {pf : Func} {c : Code} (h1 : P.funcs[f]? = some pf) (h2 : (pf.name == "runtime.NumGoroutine") = false) (h3 : pf.body = some c) {args : List qa} {rv : qa} {h' : List qb} {e' : Bool}
  (hrun:call (.fn f [] []) args [] = some (.ret rv,h',e')) {W:World} (ht:qA1 gl W) {vs:Array Value} (hargs:qg (fun _=>none) (cellsOf W) args vs.toList) :
  Calls P f vs W fun e W'=>∃v G',e = .returned v∧qd.V G' rv v∧W.keptBut W' (fun _=>False):=by
 obtain ⟨hr,hn⟩:=qrw (P:=P) ht
 have hfv:(qd.whole W).V (.fn f [] []) (.func (.func f) #[] #[]):=by simp [qd.V,qA,qg]
 have hS:(qdT (.func (.func f) #[] #[]) vs).run P W = .ok (.enter f vs) W:=by
  rw [qe5,qaD h1 h2 h3]
  simp
 rcases hcall _ _ _ _ _ _ hrun _ W _ vs hr hn hfv hargs with ⟨f',aS,k1,k2⟩ | ⟨_,_,_,_,_,_,hy,_⟩ | ⟨v,w',_,k1,_⟩
 ·rw [hS] at k1
  cases k1
  refine (callsIn_wide (n:=0)).1 (CallsIn.mono (k2 none 0) fun e W' hb=>?_)
  cases e with
  | returned v=>
   obtain ⟨rv',G',g1,g2,g3,g4,g5⟩:=hb
   cases g1
   exact ⟨v,G',rfl,g5,qmZ g2⟩
  | panicked ch=>obtain ⟨_,_,_,g1,_⟩:=hb;cases g1
  | outgrown=>exact hb.elim
 ·cases hy
 ·rw [hS] at k1
  cases k1
end
section
variable {base:Nat} {call:Call} {dsts:List Nat} {s:St} {pend:List (Nat×Chk)}
theorem qy1 {d:Option Nat} {o:AOp} {ix cl j:Nat} {b:Bool} {ds:List qG} (h:lkp s.t j = .bool b):qw base call dsts (⟨⟨d,o,some (j,b)⟩,ix,cl⟩ :: ds) pend s = qw base call dsts (⟨⟨d,o,none⟩,ix,cl⟩ :: ds) pend s:=by
 have e:s.t.getD j .undef = .bool b:=h
 simp only [qw,wanted,e,beq_self_eq_true]
theorem quF {d:Option Nat} {o:AOp} {ix cl j:Nat} {b c:Bool} {ds:List qG} (h:lkp s.t j = .bool c) (hc:(c == b) = false):qw base call dsts (⟨⟨d,o,some (j,b)⟩,ix,cl⟩ :: ds) pend s = qw base call dsts ds pend { s with t:=put d (.tup []) s.t}:=by
 have e:s.t.getD j .undef = .bool c:=h
 simp only [qw,wanted,e,hc]
theorem qvM {d:Option Nat} {o:AOp} {ix cl j:Nat} {ds:List qG} (h:lkp s.t j = .bool false):qw base call dsts (⟨⟨d,o,some (j,true)⟩,ix,cl⟩ :: ds) pend s = qw base call dsts ds pend { s with t:=put d (.tup []) s.t}:=quF h rfl
theorem qvL {d:Option Nat} {o:AOp} {ix cl j:Nat} {ds:List qG} (h:lkp s.t j = .bool true):qw base call dsts (⟨⟨d,o,some (j,false)⟩,ix,cl⟩ :: ds) pend s = qw base call dsts ds pend { s with t:=put d (.tup []) s.t}:=quF h rfl
theorem qvN {d:Option Nat} {o:AOp} {ix cl j:Nat} {b:Bool} {ds:List qG} (h:lkp s.t j = .tup []):qw base call dsts (⟨⟨d,o,some (j,b)⟩,ix,cl⟩ :: ds) pend s = qw base call dsts ds pend { s with t:=put d (.tup []) s.t}:=by
 have e:s.t.getD j .undef = .tup []:=h
 simp only [qw,wanted,e]
end
def sB:=PLift.up (And.intro sT.1 (And.intro sC.1 (And.intro (And.intro (And.intro (And.intro @qjC.eq_1 @qjC.eq_2) (And.intro @qbA.eq_1 (And.intro @qbA.eq_2 @qbA.eq_3))) (And.intro (And.intro @qbA.eq_4 (And.intro @qbA.eq_5 @qbA.eq_6)) (And.intro @qbA.eq_7 (And.intro @qbA.eq_8 @qbA.eq_9)))) (And.intro (And.intro (And.intro @qbA.eq_10 (And.intro @qbA.eq_11 @qbA.eq_12)) (And.intro @qbA.eq_13 (And.intro @qbA.eq_14 @qbA.eq_15))) (And.intro (And.intro @qbA.eq_16 (And.intro @qbA.eq_17 @qbA.eq_18)) (And.intro @qbA.eq_19 (And.intro @qbA.eq_20 @Nat.testBit.eq_1)))))))
def sA:=PLift.up (And.intro sB.1 (And.intro sTA.1 (And.intro sCA.1 (And.intro (And.intro (And.intro (And.intro (And.intro @qtW.eq_1 @qtW.eq_2) (And.intro @qtX.eq_1 @qtX.eq_2)) (And.intro (And.intro @Src.isTmp.eq_1 @Src.isTmp.eq_2) (And.intro @qgy.eq_1 @qgy.eq_2))) (And.intro (And.intro (And.intro @qgy.eq_3 @Src.hangs.eq_1) (And.intro @Src.hangs.eq_2 @qo.isT.eq_1)) (And.intro (And.intro @qo.isT.eq_2 @qub.eq_1) (And.intro @bne.eq_1.{0} (And.intro @qC2 @qs1))))) (And.intro (And.intro (And.intro (And.intro @qtQ @qwj) (And.intro @qtj @qcP)) (And.intro (And.intro @qbZ @qq7) (And.intro @qke @qfa))) (And.intro (And.intro (And.intro @qy1 @qvM) (And.intro @qvL @qvN)) (And.intro (And.intro @List.length_map.{0,0} @Bool.true_or) (And.intro @splice.eq_1 (And.intro @qaK.eq_1 @qaK.eq_2)))))))))
end Go.AE
