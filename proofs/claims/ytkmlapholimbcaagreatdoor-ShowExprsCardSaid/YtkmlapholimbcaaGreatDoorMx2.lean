/- A part of the proof: the abstract executor and what goes through it (part 2). No condition. -/
import Derived.Test.YtkmlapholimbcaaGreatDoorMx0
import Derived.Test.YtkmlapholimbcaaGreatDoorMx1
import Derived.RecoverIn
import Derived.OpenShut
import Derived.LaidLaws
import Derived.ChangeArms
import Derived.Lib.AtoiAll
import Derived.Lib.Bytealg
import Derived.Lib.ItoaNum
import Derived.Lib.Join
import Derived.WideKeyArgs
set_option maxRecDepth 100000
namespace Go.AE
inductive qdx where
 | pre (a:qG) (r:qdx)
 | dfr (f:FuncId) (caps:List qk) (slot:Nat) (rest:qG)
 deriving Inhabited
structure qch where
 ntmps:Nat
 k:Nat
 ops:List qY
 code:qG
 deriving Inhabited
structure qie where
 ntmps:Nat
 results:List qkB
 body:qdx
 d:qch
 deriving Inhabited
def qdx.fid:qdx→FuncId
 | .pre _ r=>r.fid
 | .dfr f _ _ _=>f
def qd8 (n:Nat) (call:Call) (d:qch) (v:qa) (cv:List qa) (s:St):Option (Ex×St):=
 match qaK s.h.length call [] d.ops ⟨put (some d.k) v.dim (cv.map qa.dim ++ List.replicate (d.ntmps - cv.length) (.tup [])),s.h,false⟩ with
 | some (.nor,s1)=>
  match qaV n s.h.length call d.code s1 with
  | some (.nor,s2) | some (.ret,s2)=>some (.ret,{ s with h:=s2.h,e:=s.e || s2.e})
  | _=>none
 | _=>none
def qcX (n base:Nat) (call:Call) (d:qch):qdx→St→Option (Ex×St)
 | .pre a r,s=>match qaV n base call a s with
  | some (.nor,s)=>qcX n base call d r s
  | some (.exit _,_)=>none
  | r=>r
 | .dfr f caps slot rest,s=>
  match ev (put (some slot) (.fn f [] (caps.map (ev s.t))) s.t) (.t slot) with
  | .fn g [] cv=>
   if g = f then
    match qaV n base call rest { s with t:=put (some slot) (.fn f [] (caps.map (ev s.t))) s.t} with
    | some (.nor,s1) | some (.ret,s1)=>qd8 n call d .niliface cv s1
    | some (.pan v,s1)=>qd8 n call d v cv s1
    | _=>none
   else none
  | _=>none
def qeq (n:Nat) (g:qie) (call:Call) (aS:List qa) (h:List qf):Option (qcD×List qf×Bool):=
 match qcX n h.length call g.d g.body ⟨aS.map qa.dim ++ List.replicate (g.ntmps - aS.length) (.tup []),h,false⟩ with
 | some (.nor,s) | some (.ret,s)=>
  match qat s g.results with
  | some vs=>some (qaQ h.length (.ret (qbR vs)) s.h s.e)
  | none=>none
 | some (.pan v,s)=>some (qaQ h.length (.pan v) s.h s.e)
 | _=>none
section
variable (P:Program) (gl:Nat→Option (List qa))
def qn2 (o0 o1:Oper):Option (FuncId×List qk×Nat):=
 match o0.op with
 | .makeFunc (.func f) a caps=>
  match o1.op with
  | .defer c=>
   match c.callee with
   | .value (.tmp t)=>if o0.dst = some t∧o0.guard = none∧o1.dst = none∧o1.guard = none∧a = #[]∧c.args = #[] then (qrV gl caps).map fun cs=>(f,cs,t) else none
   | _=>none
  | _=>none
 | _=>none
def qjB:Code→Option (FuncId×List qk×Nat)
 | .region _ ops false=>
  match ops.toList with
  | [o0,o1]=>qn2 gl o0 o1
  | _=>none
 | _=>none
def qnU:Code→Option qdx
 | .seq a b=>
  match qjB gl a with
  | some (f,caps,t)=>(comp P gl b).map (.dfr f caps t)
  | none=>
   match comp P gl a,qnU b with
   | some x,some r=>if x.noRf then some (.pre x r) else none
   | _,_=>none
 | _=>none
def qAf (o:Oper):Option Nat:=
 match o.op with
 | .call c=>
  match c.callee with
  | .builtin .recover=>if o.guard = none∧c.args = #[] then o.dst else none
  | _=>none
 | _=>none
def qv8 (f:Func):Option qch:=
 match f.body with
 | some (.seq (.region _ ops false) c)=>
  match ops.toList with
  | o0 :: os=>
   match qAf o0,os.mapM (qb3 P gl ops),comp P gl c with
   | some k,some aos,some ac=>if aos.all (fun o=>!o.op.calls) && ac.noRf && f.results.isEmpty then some ⟨f.ntmps,k,aos,ac⟩ else none
   | _,_,_=>none
  | _=>none
 | _=>none
def qf8 (f d:Func):Option qie:=
 match f.body with
 | some c=>
  match qnU P gl c,f.results.toList.mapM (qem P),qv8 P gl d with
  | some b,some rs,some d=>some ⟨f.ntmps,rs,b,d⟩
  | _,_,_=>none
 | none=>none
end
end Go.AE
namespace Go.AE
inductive qe7 where
 | nil
 | node (k:Nat) (v:qE) (l r:qe7)
 deriving Inhabited
def qe7.get:qe7→Nat→Option qE
 | .nil,_=>none
 | .node k v l r,i=>bif Nat.beq i k then some v else bif Nat.blt i k then l.get i else r.get i
def qe7.All (p:Nat→qE→Prop):qe7→Prop
 | .nil=>True
 | .node k v l r=>p k v∧l.All p∧r.All p
theorem qe7.get_all {p:Nat→qE→Prop}:∀{t:qe7} {i:Nat} {v:qE},t.All p→t.get i = some v→p i v
 | .nil,_,_,_,h=>by cases h
 | .node k w l r,i,v,ha,h=>by
  simp only [qe7.get] at h
  cases hb:Nat.beq i k with
  | true=>
   rw [hb] at h
   have hik:i = k:=Nat.eq_of_beq_eq_true hb
   subst hik
   cases h
   exact ha.1
  | false=>
   rw [hb] at h
   cases hc:Nat.blt i k with
   | true=>rw [hc] at h;exact qe7.get_all ha.2.1 h
   | false=>rw [hc] at h;exact qe7.get_all ha.2.2 h
end Go.AE
namespace Go.AE
def qjG (fn:qE) (h:List qf):Option (Ex×St)→Option (qcD×List qf×Bool)
 | some (.nor,s) | some (.ret,s)=>
  match qat s fn.results with
  | some vs=>some (qaQ h.length (.ret (qbR vs)) s.h s.e)
  | none=>none
 | some (.pan v,s)=>some (qaQ h.length (.pan v) s.h s.e)
 | _=>none
theorem qvs {F:FuncId→Option qE} {X:qf3} {n:Nat} {f:FuncId} {first args cap:List qa} {h:List qf} {fn:qE} (hX:X f = none) (hF:F f = some fn) :
  run F X (n + 1) (.fn f first cap) args h = qjG fn h (qaV n h.length (run F X n) fn.code ⟨(first ++ args ++ cap).map qa.dim ++ List.replicate (fn.ntmps - ((first ++ args ++ cap).map qa.dim).length) (.tup []),h,false⟩):=by
 simp only [run,hX,hF]
 rfl
theorem qrh {F:FuncId→Option qE} {X:qf3} {n:Nat} {f:FuncId} {first args cap:List qa} {h:List qf} {g:Call→List qa→List qf→Option (qcD×List qf×Bool)} (hX:X f = some g) :
  run F X (n + 1) (.fn f first cap) args h = g (run F X n) (first ++ args ++ cap) h:=by
 simp only [run,hX]
end Go.AE
namespace Go.AE
section
variable {P:Program} {gl:Nat→Option (List qa)}
theorem qjA {call:AE.Call} (hk:qH call) {n base:Nat} {d:qch} {v:qa} {cv:List qa} {s s':St} {x:Ex} (hb:base ≤ s.h.length) (h:qd8 n call d v cv s = some (x,s')):qav base s s':=by
 unfold qd8 at h
 split at h
 ·rename_i s1 h1
  have k1:=qcN (base:=s.h.length) hk d.ops [] ⟨_,s.h,false⟩ s1 _ (Nat.le_refl _) h1
  have key:∀x2 s2,qaV n s.h.length call d.code s1 = some (x2,s2)→qav base s { s with h:=s2.h,e:=s.e || s2.e}:=by
   intro x2 s2 h2
   have k2:=qJ (base:=s.h.length) hk n d.code s1 s2 _ k1.1 h2
   have k:=k1.trans k2
   refine ⟨k.1,fun he=>?_⟩
   simp only [Bool.or_eq_false_iff] at he
   exact ⟨he.1,(k.2 he.2).2.lower hb⟩
  split at h
  ·rename_i s2 h2;cases h;exact key _ _ h2
  ·rename_i s2 h2;cases h;exact key _ _ h2
  ·cases h
 ·cases h
theorem qcw {call:AE.Call} (hk:qH call) {n base:Nat} {d:qch}:∀(b:qdx) (s s':St) (x:Ex),base ≤ s.h.length→qcX n base call d b s = some (x,s')→qav base s s'
 | .pre a r,s,s',x,hb,h=>by
  simp only [qcX] at h
  split at h
  ·rename_i s1 h1
   have k1:=qJ (base:=base) hk n a s s1 _ hb h1
   exact k1.trans (qcw hk r s1 s' x (Nat.le_trans hb k1.1) h)
  ·cases h
  ·exact qJ (base:=base) hk n a s s' x hb h
 | .dfr f caps slot rest,s,s',x,hb,h=>by
  simp only [qcX] at h
  split at h
  ·rename_i g cv hev
   split at h
   ·have k0:qav base s { s with t:=put (some slot) (.fn f [] (caps.map (ev s.t))) s.t}:=⟨Nat.le_refl _,fun h=>⟨h,qT.refl _ _⟩⟩
    have key:∀x1 s1,qaV n base call rest { s with t:=put (some slot) (.fn f [] (caps.map (ev s.t))) s.t} = some (x1,s1)→∀v,qd8 n call d v cv s1 = some (x,s')→qav base s s':=by
     intro x1 s1 h1 v h2
     have k1:=qJ (base:=base) hk n rest { s with t:=put (some slot) (.fn f [] (caps.map (ev s.t))) s.t} s1 _ hb h1
     exact k0.trans (k1.trans (qjA hk (Nat.le_trans hb k1.1) h2))
    split at h
    ·rename_i s1 h1;exact key _ _ h1 _ h
    ·rename_i s1 h1;exact key _ _ h1 _ h
    ·rename_i s1 h1;exact key _ _ h1 _ h
    ·cases h
   ·cases h
  ·cases h
theorem qgk {n:Nat} {g:qie} {call:AE.Call} (hk:qH call):qH fun _ aS h=>qeq n g call aS h:=by
 intro fv aS h r h' e' hr
 simp only [qeq] at hr
 split at hr
 ·rename_i s h1
  have k:=qcw (base:=h.length) hk g.body ⟨_,h,false⟩ s _ (Nat.le_refl _) h1
  split at hr
  ·rename_i vs hvs
   have:=qbG (r:=.ret (qbR vs)) (h:=h) ⟨k.1,fun he=>(k.2 he).2⟩
   rw [Option.some.inj hr] at this
   exact this
  ·cases hr
 ·rename_i s h1
  have k:=qcw (base:=h.length) hk g.body ⟨_,h,false⟩ s _ (Nat.le_refl _) h1
  split at hr
  ·rename_i vs hvs
   have:=qbG (r:=.ret (qbR vs)) (h:=h) ⟨k.1,fun he=>(k.2 he).2⟩
   rw [Option.some.inj hr] at this
   exact this
  ·cases hr
 ·rename_i v s h1
  have k:=qcw (base:=h.length) hk g.body ⟨_,h,false⟩ s _ (Nat.le_refl _) h1
  have:=qbG (r:=.pan v) (h:=h) ⟨k.1,fun he=>(k.2 he).2⟩
  rw [Option.some.inj hr] at this
  exact this
 ·cases hr
theorem qwe {a:Code} {f:FuncId} {caps:List qk} {t:Nat} (h:qjB gl a = some (f,caps,t)) :
  ∃id ops o0 o1 a0 cs c,a = .region id ops false∧ops = #[o0,o1]∧o0.op = .makeFunc (.func f) a0 cs∧a0 = #[]∧o0.dst = some t∧o0.guard = none∧o1.op = .defer c∧c.callee = .value (.tmp t)∧c.args = #[]∧o1.dst = none∧o1.guard = none∧qrV gl cs = some caps:=by
 unfold qjB at h
 split at h
 ·rename_i id ops
  split at h
  ·rename_i o0 o1 hops
   unfold qn2 at h
   split at h
   ·rename_i f' a0 cs ho0
    split at h
    ·rename_i c ho1
     split at h
     ·rename_i t' hcal
      split at h
      ·rename_i hc
       obtain ⟨c1,c2,c3,c4,c5,c6⟩:=hc
       obtain ⟨cs',hcs',he⟩:=qbT h
       cases he
       exact ⟨id,ops,o0,o1,a0,cs,c,rfl,by apply Array.ext';simpa using hops,ho0,c5,c1,c2,ho1,hcal,c6,c3,c4,hcs'⟩
      ·cases h
     ·cases h
    ·cases h
   ·cases h
  ·cases h
 ·cases h
structure qAE (P:Program) (gl:Nat→Option (List qa)) (df:Func) (d:qch):Prop where
 ex:∃id ops o0 os c,df.body = some (.seq (.region id ops false) c)∧ops.toList = o0 :: os∧(∃cl,o0.op = .call cl∧cl.callee = .builtin .recover∧cl.args = #[])∧o0.dst = some d.k∧o0.guard = none∧os.mapM (qb3 P gl ops) = some d.ops∧
  comp P gl c = some d.code∧(∀o ∈ d.ops,o.op.calls = false)∧d.code.noRf = true∧df.results = #[]∧df.ntmps = d.ntmps
theorem qnT {df:Func} {d:qch} (h:qv8 P gl df = some d):qAE P gl df d:=by
 unfold qv8 at h
 split at h
 ·rename_i id ops c hb
  split at h
  ·rename_i o0 os hops
   split at h
   ·rename_i k aos ac hk hos hac
    split at h
    ·rename_i hc
     simp only [Bool.and_eq_true,List.all_eq_true,Bool.not_eq_true',Array.isEmpty_iff] at hc
     cases h
     unfold qAf at hk
     split at hk
     ·rename_i cl ho
      split at hk
      ·rename_i hcal
       split at hk
       ·rename_i hg
        exact ⟨id,ops,o0,os,c,hb,hops,⟨cl,ho,hcal,hg.2⟩,hk,hg.1,hos,hac,hc.1.1,hc.1.2,hc.2,rfl⟩
       ·cases hk
      ·cases hk
     ·cases hk
    ·cases h
   ·cases h
  ·cases h
 ·cases h
theorem qwh {o:Oper} {ao:AOp} {a:Act} {w w':World} {nx:Next} {u:Value} (hcomp:qcf P gl o = some ao) {i:Nat} (hmv:ao = .mov (.t i)) (h1:(execOp a.eval o).run P w = .ok nx w') (h2:Nx nx u):u = a.tmps.getD i undef:=by
 subst hmv
 have ho:=(qb4 hcomp).1 i rfl
 have:(execOp a.eval o).run P w = .ok (.value (a.eval (.tmp i))) w:=by simp [execOp,ho]
 rw [this] at h1
 cases h1
 rcases h2 with h2 | ⟨h2,_⟩
 ·cases h2;rfl
 ·cases h2
theorem qlz {G:qd} {w w':World} {h:List qf} {t:List qa} {a:Act} (hc:Cfg P gl G h t a w) {o:Oper} {ao:AOp} {nx:Next} {u:Value} (hcomp:qcf P gl o = some ao) {q:qk} {id off:Nat} (hld:ao = .ld none q) (hq:ev t q = .ptr id off)
  {base:Nat} {call:AE.Call} {p:qco} {dst:Option Nat} {e:Bool} {x:Ex} {s':St} (hrun:qq base call p dst ao ⟨t,h,e⟩ = some (x,s')) (h1:(execOp a.eval o).run P w = .ok nx w') (h2:Nx nx u) :
  ∃b,G.γ id = some b∧w.cell? ⟨b,off,none⟩ = some u:=by
 subst hld
 obtain ⟨ty,y,ho,hy,hk⟩:=(qb4 hcomp).2.1 q rfl
 have hv:=qQ hc.rel hc.tr hy
 rw [hq] at hv
 simp only [qd.V,qt] at hv
 obtain ⟨b,hb,he⟩:=hv
 refine ⟨b,hb,?_⟩
 obtain ⟨g1,_⟩:=qe5 hk w
 simp only [qq] at hrun
 obtain ⟨v,hv,_⟩:=qbT hrun
 rw [hq] at hv
 simp only [qdh] at hv
 split at hv
 ·rename_i cs hcs
  obtain ⟨c,te,hw,hcr,_⟩:=hc.rel.box id b _ hb hcs
  simp only [cut] at hv
  obtain ⟨av,hav,_⟩:=qbT hv
  obtain ⟨uv,huv,_⟩:=qeL hcr hav
  have hcell:w.cell? ⟨b,off,none⟩ = some uv:=by
   simp only [Array.getElem?_toList] at huv
   simp [World.cell?,hw,huv]
  have:(execOp a.eval o).run P w = .ok (.value uv) w:=by
   simp only [execOp,ho]
   refine qdo ?_
   simp only [Instr.loadAt,he,Instr.sureAddr,Sem.run_bind,Sem.run_pure,Result.andThen_ok,loadVar,g1,Option.isSome_none,Bool.false_eq_true,if_false,run_load,hcell]
  rw [this] at h1
  cases h1
  rcases h2 with h2 | ⟨h2,_⟩
  ·cases h2;exact hcell
  ·cases h2
 ·cases hv
theorem qmI {ops:Array Oper} {base:Nat} {call:AE.Call} {cs:List Frame} {m:Nat} {x:Ex} {s':St}:∀(l:List Nat) (os:List qY),Lays P gl ops l os→(∀o ∈ os,o.op.calls = false)→
  ∀(G:qd) (w:World) (h:List qf) (t:List qa) (e:Bool) (a:Act) (p:qco),Cfg P gl G h t a w→qbh G w t a p→qaK base call p os ⟨t,h,e⟩ = some (x,s')→
   x = .nor∧h.length ≤ s'.h.length∧∀(Q:Exit→Act→List Frame→World→Prop),(∀a' w' G',Ext h.length G w G' w'→Cfg P gl G' s'.h s'.t a' w'→a'.defers = a.defers→Q .normal a' cs w')→wpOpsSIn (FR none) m P ops Q l a cs w:=by
 intro l
 induction l with
 | nil=>
  intro os hl _ G w h t e a p hc hp hrun
  cases os with
  | cons _ _=>exact hl.elim
  | nil=>
   simp only [qaK] at hrun
   cases hrun
   exact ⟨rfl,Nat.le_refl _,fun Q hQ=>hQ a w G (Ext.refl _ G w) hc rfl⟩
 | cons i l ih=>
  intro os hl hnc G w h t e a p hc hp hrun
  cases os with
  | nil=>exact hl.elim
  | cons ao os=>
   obtain ⟨⟨o,ho,hco⟩,hl⟩:=hl
   simp only [qaK] at hrun
   split at hrun
   ·rename_i hw
    obtain ⟨hcomp,hdst,hwant⟩:=qbM hc.tr hco hw
    simp only [hdst] at hrun
    cases hop:qq base call p o.dst ao.op ⟨t,h,e⟩ with
    | none=>rw [hop] at hrun;cases hrun
    | some r=>
     obtain ⟨x1,s1⟩:=r
     have hcl:ao.op.calls = false:=hnc ao (List.mem_cons_self ..)
     obtain ⟨rfl,hd,hlen⟩:=quZ hc hp hcomp hcl hop
     rw [hop] at hrun
     simp only at hrun
     obtain ⟨nx,u,w',G',h1,h2,hst,h3,h4⟩:=hd
     have hnext:qbh G' w' s1.t (a.put o.dst u) (qaJ p ao):=by
      have hq:ao.op.effs = false→ao.op.acts = false:=by cases ao.op <;> simp [AOp.effs,AOp.acts]
      have hstill:ao.op.effs = false→∀b,b < w.heap.size→w'.heap[b]? = w.heap[b]?:=fun hac=>hst (fun hop'=>by
       have:=(qb4 hcomp).2.2.1 hop'
       rw [hq hac] at this
       cases this) (fun hop'=>by
       have:=qpa hcomp hop'
       rw [hq hac] at this
       cases this)
      rw [←hdst]
      by_cases hac:ao.op.effs = false
      ·obtain ⟨_,v,hv,_⟩:=qdm hac hop
       refine hp.next (v:=v) (fun _=>by rw [hdst];exact hv) h3.gk hstill ?_ ?_
       ·intro i hmv
        exact qwh hcomp hmv h1 h2
       ·intro q id off hld hq'
        exact qlz hc hcomp hld hq' hop h1 h2
      ·exact hp.next (v:=.undef) (fun h=>absurd h hac) h3.gk (fun h=>absurd h hac) (fun i hmv=>by rw [hmv] at hac;exact absurd rfl hac) (fun q _ _ hld _=>by rw [hld] at hac;exact absurd rfl hac)
     obtain ⟨r1,r2,r3⟩:=ih os hl (fun o ho=>hnc o (List.mem_cons_of_mem _ ho)) G' w' s1.h s1.t s1.e (a.put o.dst u) (qaJ p ao) h4 hnext hrun
     refine ⟨r1,Nat.le_trans hlen r2,fun Q hQ=>?_⟩
     have hrest:=r3 Q fun a' w'' G'' he hc' hd'=>hQ a' w'' G'' (h3.trans hlen he) hc' (by rw [hd',qb1])
     simp only [wpOpsSIn,ho]
     refine ⟨fun _ _=>trivial,?_⟩
     rw [if_pos hwant,h1]
     rcases h2 with rfl | ⟨rfl,rfl⟩
     ·exact hrest
     ·exact hrest
   ·rename_i hw
    obtain ⟨hcomp,hdst,hwant⟩:=qbM hc.tr hco hw
    simp only [hdst] at hrun
    have hnext:qbh G w (AE.put o.dst (.tup []) t) (a.put o.dst undef) (qaJ p { ao with op:=.pick (.c .undef) (.c .undef) (.c .undef)}):=by
     rw [←hdst]
     exact hp.next (o:={ ao with op:=.pick (.c .undef) (.c .undef) (.c .undef)}) (v:=.tup []) (fun _=>rfl) (fun _ _ h=>h) (fun _ _ _=>rfl) (fun _ h=>by cases h) (fun _ _ _ h=>by cases h)
    obtain ⟨r1,r2,r3⟩:=ih os hl (fun o ho=>hnc o (List.mem_cons_of_mem _ ho)) G w h _ e _ _ (qcP hc o.dst) (by simpa only [hdst] using hnext) (by simpa only [hdst] using hrun)
    refine ⟨r1,r2,fun Q hQ=>?_⟩
    simp only [wpOpsSIn,ho]
    refine ⟨fun _ _=>trivial,?_⟩
    rw [if_neg (by rw [hwant];simp)]
    exact r3 Q fun a' w'' G'' he hc' hd'=>hQ a' w'' G'' he hc' (by rw [hd',qb1])
   ·cases hrun
theorem Ext.cellsOnly {n:Nat} {G G':qd} {w w':World} (he:Ext n G w G' w'):Ext n G w G'.cellsOnly w':=
 ⟨he.gk,he.gn,he.ik,he.inew,fun b hb=>he.on b fun e=>hb (by simp [qd.cellsOnly,e]),he.size,he.heap,he.loops,he.os,he.tape,he.output⟩
def qCY (G:qd) (u:FrameMode) (v:qa):Prop:=(u = .returning∧v = .niliface)∨∃vv,u = .panicking [{ v:=vv,recovered:=false}]∧G.V v vv
theorem qgb (hmx:P.follows .mixedOrders = true) {call:AE.Call} (hcall:qb7 P gl call) (hk:qH call) {f:FuncId} {df:Func} {d:qch} (hf:P.funcs[f]? = some df) (hd:qAE P gl df d) {n:Nat} {v:qa} {cv:List qa} {s s':St} {x:Ex}
  (h:qd8 n call d v cv s = some (x,s')) {G:qd} {w:World} {a:Act} (hc:Cfg P gl G s.h s.t a w) {vs:Array Value} (hcv:G.VL cv vs.toList) {u:FrameMode} (hu:qCY G u v) {m:Nat} {R:Ending→FrameMode→World→Prop}
  (hR:∀r u' G' w',settle u' = .returning→Ext s.h.length G w G' w'→Cfg P gl G' s'.h s'.t a w'→R (.returned r) u' w'):x = .ret∧s'.t = s.t∧CallsDIn (FR none) m P f vs u w R:=by
 obtain ⟨id,ops,o0,os,c,hbody,hops,⟨cl,hcl1,hcl2,hcl3⟩,hdst,hgd,hos,hcc,hncl,hrf,hres,hnt⟩:=hd.ex
 unfold qd8 at h
 split at h
 ·rename_i s1 hx1
  have hlen:cv.length = vs.size:=by simpa using hcv.length
  obtain ⟨hr0,hn0⟩:=hc.rel.cellsOnly
  let a0:Act:={ tmps:=vs ++ Array.replicate (df.ntmps - vs.size) undef,defers:=[]}
  have hc0:Cfg P gl G.cellsOnly s.h (cv.map qa.dim ++ List.replicate (d.ntmps - cv.length) (.tup [])) a0 w:=by
   refine ⟨hr0,qaE.start ?_ fun z hz=>?_⟩
   ·simp only [a0,Array.toList_append,Array.toList_replicate]
    refine qh.append hcv.dims ?_
    rw [hnt,hlen]
    exact qh.replicate _ (by simp [qt,qh,undef])
   ·rcases List.mem_append.1 hz with hz | hz
    ·obtain ⟨q,_,rfl⟩:=List.mem_map.1 hz;exact qbx q
    ·rw [(List.mem_replicate.1 hz).2];rfl
  have body:∀(cs':List Frame) (vv:Value) (c₀:Frame) (cs:List Frame) (u':FrameMode),G.V v vv→cs' = { c₀ with mode:=u'} :: cs→settle u' = .returning→
    x = .ret∧s'.t = s.t∧wpOpsSIn (FR none) m P ops (Exit.thenS (c.wpSIn (FR none) m P (bodyPostS P df c₀ cs R)) (bodyPostS P df c₀ cs R)) (List.range' 1 os.length) (a0.put (some d.k) vv) cs' w:=by
   intro cs' vv c₀ cs u' hvv hcs hset
   have hc1:=hc0.put (some d.k) (x:=v.dim) (v:=vv) (qcT hvv) (qbx v)
   have hl:=qdI os 1 d.ops (fun j=>by
    have:ops[1 + j]? = ops.toList[1 + j]?:=by simp
    rw [this,hops,Nat.add_comm]
    simp) hos
   obtain ⟨_,r2,r3⟩:=qmI (cs:=cs') (m:=m) _ d.ops hl hncl G.cellsOnly w s.h _ false (a0.put (some d.k) vv) [] hc1 qbh.nil hx1
   have key:∀x2 s2,qaV n s.h.length call d.code s1 = some (x2,s2)→(x2 = .nor∨x2 = .ret)→some (Ex.ret,({ s with h:=s2.h,e:=s.e || s2.e}:St)) = some (x,s')→
     x = .ret∧s'.t = s.t∧wpOpsSIn (FR none) m P ops (Exit.thenS (c.wpSIn (FR none) m P (bodyPostS P df c₀ cs R)) (bodyPostS P df c₀ cs R)) (List.range' 1 os.length) (a0.put (some d.k) vv) cs' w:=by
    intro x2 s2 hx2 hxx he
    cases he
    refine ⟨rfl,rfl,r3 _ fun a1 w1 G1 e1 c1 d1=>?_⟩
    have hd1:a1.defers = []:=by rw [d1,qb1]
    refine wpSIn_of_wpIn rfl (wpIn_mono (qcr hmx hcall hk (N:=n) (base:=s.h.length) (lo:=w.heap.size) (rf:=true) (fx:=[]) (ro:=none) (m:=m) c d.code hcc (fun _=>hrf) G1 w1 s1 a1 x2 s2 c1 r2 (fun _ hq=>by cases hq)
     ⟨[],by rw [hd1];rfl,⟨List.nodup_nil,fun _ h=>by cases h⟩,fun _=>rfl⟩ e1.size hx2) fun e a2 w2 hfin=>?_)
    obtain ⟨G2,g1,⟨ms,hms,_,hms0⟩,g3⟩:=hfin
    have hdf:a2.defers = []:=by rw [hms,hms0 rfl];rfl
    have fin:Cfg P gl G2 s2.h s2.t a2 w2→a2.defers = []∧∃u',cs' = { c₀ with mode:=u'} :: cs∧∃r,(results df a2.tmps).run P w2 = .ok r w2∧R (.returned r) u' w2:=by
     intro c2
     have hext:Ext s.h.length G.cellsOnly w G2.cellsOnly w2:=(e1.trans r2 g1).cellsOnly
     obtain ⟨b1,b2,b3⟩:=qeB hc hext c2.rel.cellsOnly.1
     refine ⟨hdf,u',hcs,.tuple #[],?_,hR _ _ _ _ hset b1 ⟨b2,b3⟩⟩
     unfold results
     rw [hres]
     simp
    rcases hxx with rfl | rfl
    ·obtain ⟨rfl,g3⟩:=g3;exact fin g3
    ·obtain ⟨rfl,g3⟩:=g3;exact fin g3
   split at h
   ·rename_i s2 hx2;exact key _ s2 hx2 (.inl rfl) h
   ·rename_i s2 hx2;exact key _ s2 hx2 (.inr rfl) h
   ·cases h
  have hrange:List.range ops.size = 0 :: List.range' 1 os.length:=by
   have:ops.size = os.length + 1:=by rw [←Array.length_toList,hops];rfl
   rw [this,List.range_eq_range',List.range'_succ]
  have ho0:ops[0]? = some o0:=by
   have:ops[0]? = ops.toList[0]?:=by simp
   rw [this,hops]
   rfl
  have hrec:(execOp a0.eval o0).run P w = .ok .recover w:=by
   simp [execOp,hcl1,resolve,hcl2,hcl3,invoke,builtin]
  have main:∀(c₀:Frame) (cs:List Frame),c₀.mode = u→x = .ret∧s'.t = s.t∧(Code.seq (.region id ops false) c).wpSIn (FR none) m P (bodyPostS P df c₀ cs R) a0 (c₀ :: cs) w:=by
   intro c₀ cs hmode
   have fin:∀(cs':List Frame) (vv:Value),(match recoverD (c₀ :: cs) with | some (v,cs')=>(v,cs') | none=>(.nilIface,c₀ :: cs)) = (vv,cs')→
     wpOpsSIn (FR none) m P ops (Exit.thenS (c.wpSIn (FR none) m P (bodyPostS P df c₀ cs R)) (bodyPostS P df c₀ cs R)) (List.range' 1 os.length) (a0.put (some d.k) vv) cs' w→
     (Code.seq (.region id ops false) c).wpSIn (FR none) m P (bodyPostS P df c₀ cs R) a0 (c₀ :: cs) w:=by
    intro cs' vv hre hW
    refine wpSIn_seq (wpSIn_region ?_)
    rw [hrange]
    simp only [wpOpsSIn,ho0]
    refine ⟨fun _ _=>trivial,?_⟩
    rw [if_pos (by simp [Region.wanted,hgd]),hrec]
    simp only
    rw [hdst]
    cases hrd:recoverD (c₀ :: cs) with
    | none=>rw [hrd] at hre;cases hre;exact hW
    | some p=>obtain ⟨p1,p2⟩:=p;rw [hrd] at hre;cases hre;exact hW
   rcases hu with ⟨rfl,rfl⟩ | ⟨vv,rfl,hvv⟩
   ·obtain ⟨q1,q2,q3⟩:=body (c₀ :: cs) .nilIface c₀ cs .returning (by simp [qd.V,qt]) (by rw [←hmode]) rfl
    exact ⟨q1,q2,fin _ _ (by simp [recoverD,hmode]) q3⟩
   ·obtain ⟨q1,q2,q3⟩:=body ({ c₀ with mode:=.panicking [{ v:=vv,recovered:=true}]} :: cs) vv c₀ cs (.panicking [{ v:=vv,recovered:=true}]) hvv rfl rfl
    exact ⟨q1,q2,fin _ _ (by simp [recoverD,hmode]) q3⟩
  have m0:=main { (default:Frame) with mode:=u} [] rfl
  exact ⟨m0.1,m0.2.1,callsDIn_of_wpSIn hf hbody trivial fun c₀ cs hmode=>(main c₀ cs hmode).2.2⟩
 ·cases h
end
end Go.AE
namespace Go.AE
section
variable {P:Program} {gl:Nat→Option (List qa)}
theorem qeR {G' G0:qd} {w0:World} {h:List qf} {t:List qa} {n:Nat} {fn:Func} {ts:Array Value} {R:Ending→World→Prop} {F:Fence} {m:Nat} {u:FrameMode} (hu:u ≠ .run) {fx:List Deferred}:∀(ds:List Deferred) (w':World),
  qgR G' w' w0.heap.size ds→Ext n G0 w0 G' w'→Rel P gl G' h w'→qaE G' w' t ts→(∀w'',Ext n G0 w0 G' w''→Rel P gl G' h w''→qaE G' w'' t ts→LeavesInM F m P fn ts R fx u w'')→LeavesInM F m P fn ts R (ds ++ fx) u w'
 | [],w',_,he,hr,ht,hR=>hR w' he hr ht
 | d :: ds,w',hm,he,hr,ht,hR=>by
  obtain ⟨r,rfl,h1,h2,h3⟩:=hm.all d (List.mem_cons_self ..)
  refine ⟨hu,.inl ⟨r,w'.putObj r (.deferred none),rfl,run_takeDeferred h2,?_⟩⟩
  have hnd:=List.nodup_cons.1 hm.nodup
  refine qeR hu ds _ ⟨hnd.2,fun d hd=>?_⟩ (he.putFar h1 _) (hr.putFar h3 fun k=>by simp [World.cell?,h2]) (ht.putFar h3) hR
  obtain ⟨r',g1,g2,g3,g4⟩:=hm.all d (List.mem_cons_of_mem _ hd)
  refine ⟨r',g1,g2,?_,g4⟩
  rw [World.putObj_heap_other]
  ·exact g3
  ·rintro rfl
   rw [g1] at hd
   exact hnd.1 hd
theorem qjP (hmx:P.follows .mixedOrders = true) {call:AE.Call} (hcall:qb7 P gl call) (hk:qH call) {df pf:Func} {d:qch} (hd:qAE P gl df d) {N base n0 m:Nat} {G0:qd} {w0:World} {R:Ending→World→Prop} {x:Ex} {s':St} :
  ∀ (gb : qdx) (c : Code), qnU P gl c = some gb → P.funcs[gb.fid]? = some df → (df.name == "runtime.NumGoroutine") = false → ∀ (G : qd) (w : World) (s : St) (a : Act), Cfg P gl G s.h s.t a w → base ≤ s.h.length → a.defers = [] → w0.heap.size ≤ w.heap.size → n0 ≤ s.h.length → Ext n0 G0 w0 G w →
   qcX N base call d gb s = some (x,s')→
   (∀G' w' a',(x = .nor∨x = .ret)→Ext n0 G0 w0 G' w'→Cfg P gl G' s'.h s'.t a' w'→LeavesIn (FR none) m P pf a'.tmps R [] .returning w')→
   (∀pv v G' w' a',x = .pan pv→Ext n0 G0 w0 G' w'→Cfg P gl G' s'.h s'.t a' w'→G'.V pv v→R (.panicked [{ v,recovered:=false}]) w')→
   c.wpIn (FR none) m P (bodyPostM (FR none) m P pf R) a w:=by
 intro gb
 induction gb with
 | pre ac r ih=>
  intro c hcomp hf hname G w s a hc hb hdf hlo hn he hrun hret hpan
  cases c <;> simp only [qnU,reduceCtorEq] at hcomp
  rename_i a1 b1
  split at hcomp
  ·rename_i f caps t hdc
   obtain ⟨z,_,hz⟩:=qbT hcomp
   cases hz
  ·split at hcomp
   ·rename_i x1 r1 hx1 hr1
    split at hcomp
    ·rename_i hrf
     cases hcomp
     have hW:=fun x2 s2 hx2=>qcr hmx hcall hk (N:=N) (base:=base) (lo:=w0.heap.size) (rf:=true) (fx:=[]) (ro:=none) (m:=m) a1 ac hx1 (fun _=>hrf) G w s a x2 s2 hc hb (fun _ hq=>by cases hq)
      ⟨[],by rw [hdf];rfl,⟨List.nodup_nil,fun _ h=>by cases h⟩,fun _=>rfl⟩ hlo hx2
     simp only [qcX] at hrun
     split at hrun
     ·rename_i s1 hs1
      have hkeep:=(qJ (base:=base) hk N ac s s1 _ hb hs1).1
      refine wpIn_seq (wpIn_mono (hW _ s1 hs1) fun e a' w' hfin=>?_)
      obtain ⟨G',g1,⟨ms,hms,_,hms0⟩,rfl,g4⟩:=hfin
      have hd0:a'.defers = []:=by rw [hms,hms0 rfl];rfl
      exact ih b1 hr1 hf hname G' w' s1 a' g4 (Nat.le_trans hb hkeep) hd0 (Nat.le_trans hlo g1.size) (Nat.le_trans hn hkeep) (he.trans hn g1) hrun hret hpan
     ·cases hrun
     ·rename_i r2 h1 h2
      refine wpIn_seq (wpIn_mono (hW x s' hrun) fun e a' w' hfin=>?_)
      obtain ⟨G',g1,⟨ms,hms,_,hms0⟩,g3⟩:=hfin
      have hd0:a'.defers = []:=by rw [hms,hms0 rfl];rfl
      cases x with
      | nor=>exact absurd hrun (h1 s')
      | exit id=>exact absurd hrun (h2 id s')
      | ret=>
       obtain ⟨rfl,g3⟩:=g3
       show LeavesInM _ _ _ _ _ _ _ _ _
       rw [hd0]
       exact hret G' w' a' (.inr rfl) (he.trans hn g1) g3
      | pan pv=>
       obtain ⟨v,rfl,g3,g4⟩:=g3
       show LeavesInM _ _ _ _ _ _ _ _ _
       rw [hd0]
       exact hpan pv v G' w' a' rfl (he.trans hn g1) g3 g4
    ·cases hcomp
   ·cases hcomp
 | dfr f caps slot rest=>
  intro c hcomp hf hname G w s a hc hb hdf hlo hn he hrun hret hpan
  change P.funcs[f]? = some df at hf
  cases c <;> simp only [qnU,reduceCtorEq] at hcomp
  rename_i a1 b1
  split at hcomp
  ·rename_i f' caps' t hdc
   obtain ⟨z,hz,hze⟩:=qbT hcomp
   cases hze
   obtain ⟨id,ops,o0,o1,a0,cs,cl,rfl,rfl,k1,rfl,k3,k4,k5,k6,k7,k8,k9,k10⟩:=qwe hdc
   refine wpIn_seq (wpIn_region ?_)
   have hrange:List.range (#[o0,o1]:Array Oper).size = [0,1]:=rfl
   rw [hrange]
   simp only [wpOpsIn,List.getElem?_toArray,List.getElem?_cons_zero,List.getElem?_cons_succ]
   rw [if_pos (by simp [Region.wanted,k4])]
   have hcomp0:qcf P gl o0 = some (.mkF f [] caps):=by
    simp only [qcf,qfv,qel,k1,k10]
    rfl
   have hrun0:qq base call [] o0.dst (.mkF f [] caps) s = some (.nor,{ s with t:=put (some slot) (.fn f [] (caps.map (ev s.t))) s.t}):=by
    simp [qq,pureV,k3]
   refine qeW hcall hk hc qbh.nil hcomp0 hrun0 (fun _ u1 w1 G1 e1 c1 _ _ _=>?_) (fun pv h=>by cases h)
   rw [k3] at c1 ⊢
   rw [if_pos (by simp [Region.wanted,k9])]
   simp only [qcX] at hrun
   split at hrun
   ·rename_i g cv hev
    split at hrun
    ·rename_i hgf
     subst hgf
     have hv:=qQ c1.rel c1.tr (x:=.tmp slot) (ax:=.t slot) rfl
     rw [hev] at hv
     simp only [qd.V,qt,qh] at hv
     obtain ⟨x0,y0,hval,hx0,hy0⟩:=hv
     have hx0':x0 = #[]:=by apply Array.ext';simpa using hx0
     subst hx0'
     let dd:Deferred:={ target:=.fn (.func g) y0,args:=#[]}
     refine ⟨fun _ _=>trivial,?_⟩
     have hsem:(o1.semAt (FR none).round (a.put (some slot) u1).eval).run P w1 = .ok (.defer dd) w1:=by
      show (Oper.semAt none _ _).run P w1 = _
      rw [Oper.semAt_none]
      simp only [execOp,k5,resolve,k6,k7,hval]
      simp [Deferred.ofValue,Sem.run_bind,Result.andThen,dd]
     rw [hsem,Oper.uponIn_defer,k8]
     show (Code.wpIn (FR none) m P b1 (bodyPostM (FR none) m P pf R)) { tmps:=(a.put (some slot) u1).tmps,defers:=dd :: a.defers} w1
     rw [hdf]
     have hlen1:n0 ≤ ({ s with t:=put (some slot) (.fn g [] (caps.map (ev s.t))) s.t}:St).h.length:=hn
     have he1:Ext n0 G0 w0 G1 w1:=he.trans hn e1
     have c2:Cfg P gl G1 s.h (put (some slot) (.fn g [] (caps.map (ev s.t))) s.t) { tmps:=(a.put (some slot) u1).tmps,defers:=[] ++ [dd]} w1:=⟨c1.rel,c1.tr⟩
     have hW:=fun x2 s2 hx2=>qcr hmx hcall hk (N:=N) (base:=base) (lo:=w0.heap.size) (rf:=false) (fx:=[dd]) (ro:=none) (m:=m) b1 rest hz (fun h=>by cases h) G1 w1 { s with t:=put (some slot) (.fn g [] (caps.map (ev s.t))) s.t}
      { tmps:=(a.put (some slot) u1).tmps,defers:=[] ++ [dd]} x2 s2 c2 hb (fun _ hq=>by cases hq) ⟨[],rfl,⟨List.nodup_nil,fun _ h=>by cases h⟩,fun h=>by cases h⟩ he1.size hx2
     have tail:∀(s2:St) (v:qa) (u:FrameMode) (G2:qd) (w2:World) (a2:Act),s.h.length ≤ s2.h.length→Ext s.h.length G1 w1 G2 w2→qeb G2 w2 w0.heap.size false [dd] a2.defers→Cfg P gl G2 s2.h s2.t a2 w2→u ≠ .run→qCY G2 u v→
       qd8 N call d v cv s2 = some (x,s')→LeavesInM (FR none) m P pf a2.tmps R a2.defers u w2:=by
      intro s2 v u G2 w2 a2 hkeep he2 hmk c3 hur hmode hdx
      obtain ⟨ms,hms,hmk,_⟩:=hmk
      rw [hms]
      refine qeR (G0:=G0) (w0:=w0) (n:=n0) hur ms w2 hmk (he1.trans hn he2) c3.rel c3.tr fun w3 q1 q2 q3=>?_
      have hcv:G2.VL cv y0.toList:=he2.VL hy0
      refine ⟨hur,.inr ⟨qfP,.func g,y0,g,y0,rfl,?_,fun _ _=>trivial,?_⟩⟩
      ·simp only [dd,invoke]
       have:=hd.ex
       obtain ⟨id',ops',o0',os',c',hbody',_⟩:=this
       have:=q7 (vs:=#[] ++ y0) (w:=w3) hf hname hbody'
       simpa using this
      ·have c4:Cfg P gl G2 s2.h s2.t { a2 with defers:=[]} w3:=⟨q2,q3⟩
       refine (qgb hmx hcall hk hf hd hdx c4 hcv hmode fun r u' G3 w4 r1 r2 r3=>?_).2.2
       obtain ⟨hxr,hst,_⟩:=qgb (m:=m) (R:=fun _ _ _=>True) hmx hcall hk hf hd hdx c4 hcv hmode fun _ _ _ _ _ _ _=>trivial
       show LeavesInM _ _ _ _ _ _ _ _ _
       rw [r1]
       exact hret G3 w4 { a2 with defers:=[]} (.inr hxr) (q1.trans (Nat.le_trans hn hkeep) r2) r3
     split at hrun
     ·rename_i s2 hx2
      have hkeep:=(qJ (base:=base) hk N rest { s with t:=put (some slot) (.fn g [] (caps.map (ev s.t))) s.t} s2 _ hb hx2).1
      refine wpIn_mono (hW _ s2 hx2) fun e a2 w2 hfin=>?_
      obtain ⟨G2,g1,g2,rfl,g3⟩:=hfin
      exact tail s2 _ .returning G2 w2 a2 hkeep g1 g2 g3 (by simp) (.inl ⟨rfl,rfl⟩) hrun
     ·rename_i s2 hx2
      have hkeep:=(qJ (base:=base) hk N rest { s with t:=put (some slot) (.fn g [] (caps.map (ev s.t))) s.t} s2 _ hb hx2).1
      refine wpIn_mono (hW _ s2 hx2) fun e a2 w2 hfin=>?_
      obtain ⟨G2,g1,g2,rfl,g3⟩:=hfin
      exact tail s2 _ .returning G2 w2 a2 hkeep g1 g2 g3 (by simp) (.inl ⟨rfl,rfl⟩) hrun
     ·rename_i v s2 hx2
      have hkeep:=(qJ (base:=base) hk N rest { s with t:=put (some slot) (.fn g [] (caps.map (ev s.t))) s.t} s2 _ hb hx2).1
      refine wpIn_mono (hW _ s2 hx2) fun e a2 w2 hfin=>?_
      obtain ⟨G2,g1,g2,vv,rfl,g3,g4⟩:=hfin
      exact tail s2 v (.panicking [{ v:=vv,recovered:=false}]) G2 w2 a2 hkeep g1 g2 g3 (by simp) (.inr ⟨vv,rfl,g4⟩) hrun
     ·cases hrun
    ·cases hrun
   ·cases hrun
  ·split at hcomp
   ·split at hcomp
    ·cases hcomp
    ·cases hcomp
   ·cases hcomp
theorem qkU (hmx : P.follows .mixedOrders = true) {f : FuncId} {pf df : Func} {g : qie} (hf : P.funcs[f]? = some pf) (hname : (pf.name == "runtime.NumGoroutine") = false) (hcomp : qf8 P gl pf df = some g) (hdf : P.funcs[g.body.fid]? = some df)
  (hdname : (df.name == "runtime.NumGoroutine") = false) (N : Nat) : qey P gl f (qeq N g) := by
 intro call hcall hk aS h r h' e' hrun G w vs hr hn hall
 unfold qf8 at hcomp
 split at hcomp
 ·rename_i c hbody
  split at hcomp
  ·rename_i b rs d hb hrs hd
   cases hcomp
   simp only at hdf
   refine .inl ⟨q7 hf hname hbody vs w,fun ro m=>qci (m:=m) ?_⟩
   have hsize:vs.size = aS.length:=by have:=hall.length;simp at this ⊢;omega
   have hc0:Cfg P gl G h (aS.map qa.dim ++ List.replicate (pf.ntmps - aS.length) (.tup [])) { tmps:=vs ++ Array.replicate (pf.ntmps - vs.size) undef,defers:=[]} w:=by
    refine ⟨hr,qaE.start ?_ fun z hz=>?_⟩
    ·simp only [Array.toList_append,Array.toList_replicate]
     refine qh.append hall.dims ?_
     rw [hsize]
     exact qh.replicate _ (by simp [qt,qh,undef])
    ·rcases List.mem_append.1 hz with hz | hz
     ·obtain ⟨q,_,rfl⟩:=List.mem_map.1 hz;exact qbx q
     ·rw [(List.mem_replicate.1 hz).2];rfl
   refine callsIn_of_wp_marks (F:=FR none) hf hbody trivial ?_ rfl
   simp only [qeq] at hrun
   have main:∀x s,qcX N h.length call d b ⟨aS.map qa.dim ++ List.replicate (pf.ntmps - aS.length) (.tup []),h,false⟩ = some (x,s)→
     ((x = .nor∨x = .ret)→∃vs',qat s rs = some vs'∧qaQ h.length (.ret (qbR vs')) s.h s.e = (r,h',e'))→(∀pv,x = .pan pv→qaQ h.length (.pan pv) s.h s.e = (r,h',e'))→
     c.wpIn (FR none) m P (bodyPostM (FR none) m P pf (qnb P gl h.length G w r h')) { tmps:=vs ++ Array.replicate (pf.ntmps - vs.size) undef,defers:=[]} w:=by
    intro x s hx h1 h2
    have k:=qcw (base:=h.length) hk b ⟨_,h,false⟩ s _ (Nat.le_refl _) hx
    refine qjP hmx hcall hk (qnT hd) (n0:=h.length) (G0:=G) (w0:=w) b c hb hdf hdname G w ⟨_,h,false⟩ _ hc0 (Nat.le_refl _) rfl (Nat.le_refl _) (Nat.le_refl _) (Ext.refl _ G w) hx (fun G' w' a' hxx g1 g2=>?_) (fun pv v G' w' a' hxx g1 g2 g3=>?_)
    ·obtain ⟨vs',hres,hlv⟩:=h1 hxx
     obtain ⟨u,r1,r2⟩:=qeX g2 hrs hres
     obtain ⟨rfl,G'',y1,y2,y3,y4⟩:=qc0 hr g1 g2.rel ⟨k.1,fun he=>(k.2 he).2⟩ hlv
     exact ⟨u,r1,_,G'',rfl,y1,y2,y3,y4 _ u (.inl rfl) r2⟩
    ·obtain ⟨rfl,G'',y1,y2,y3,y4⟩:=qc0 hr g1 g2.rel ⟨k.1,fun he=>(k.2 he).2⟩ (h2 pv hxx)
     exact ⟨pv,v,G'',rfl,rfl,y1,y2,y3,y4 _ v (.inr rfl) g3⟩
   split at hrun
   ·rename_i s hx
    split at hrun
    ·rename_i vs' hres
     exact main _ s hx (fun _=>⟨vs',hres,Option.some.inj hrun⟩) (fun _ h=>by cases h)
    ·cases hrun
   ·rename_i s hx
    split at hrun
    ·rename_i vs' hres
     exact main _ s hx (fun _=>⟨vs',hres,Option.some.inj hrun⟩) (fun _ h=>by cases h)
    ·cases hrun
   ·rename_i v s hx
    exact main _ s hx (fun h=>by rcases h with h | h <;> cases h) (fun pv h=>by cases h;exact Option.some.inj hrun)
   ·cases hrun
  ·cases hcomp
 ·cases hcomp
end
end Go.AE
namespace Go.AE
section
variable {P:Program} {gl:Nat→Option (List qa)}
noncomputable def qd.start (gl:Nat→Option (List qa)) (W:World):qd:={ γ:=fun _=>none,imm:=fun b o=>match gl b with | some cs=>if 0 < cs.length∧o = cs.length then some mark else qlx (W.cell? ⟨b,o,none⟩) | none=>none,ow:=fun _=>none}
def qAH (gl:Nat→Option (List qa)) (W:World):Prop:=∀g cs,gl g = some cs→qy 0 cs = true∧∃vs:List Value,qh (fun _=>none) (fun _ _=>none) cs vs∧(∀(j:Nat) (v:Value),vs[j]? = some v→W.cell? ⟨g,j,none⟩ = some v)∧(0 < cs.length→∃c e,W.heap[g]? = some (.cells c e (0,0))∧cs.length = c.size)
theorem qvw {G:qd} {h:List qf} {w:World} (hr:Rel P gl G h w) {name:String} {g:Nat} (hg:P.globalNamed name = some g) {k:IntKind} {zs:List Int} (hgl:gl g = some (zs.map fun z=>.int k z)) (h0:0 < zs.length) :
  w.var? P name = some (zs.map fun z=>Value.int k z).toArray:=by
 obtain ⟨⟨h1,h2⟩,_⟩:=hr.glob g _ hgl
 obtain ⟨_,c,e,h3,h4⟩:=hr.immK g _ (h2 (by simpa using h0))
 have:c = (zs.map fun z=>Value.int k z).toArray:=by
  apply Array.ext'
  apply List.ext_getElem?
  intro i
  rw [List.length_map] at h4
  rcases Nat.lt_or_ge i zs.length with hi | hi
  ·obtain ⟨v,k1,k2⟩:=h1.get (i:=i) (c:=.int k zs[i]) (by simp [hi])
   simp only [qt] at k2
   subst k2
   have:=(hr.imm _ _ _ k1 (by simp [mark])).1
   rw [Nat.zero_add] at this
   simp only [World.cell?,h3] at this
   simpa [hi] using this
  ·simp [Array.getElem?_eq_none (show c.size ≤ i by omega),hi]
 subst this
 simp [World.var?,hg,h3]
def qAB {H:Type}:DataW H→Option qa
 | .lit (.int k z)=>some (.int k z)
 | .lit (.string s)=>some (.str s)
 | .lit (.bool b)=>some (.bool b)
 | _=>none
theorem qtM {H:Type} {enc:TypeId×Value→H} {w:World} {base:Nat} {sp:Nat→Bool} {held:Bool} {fuel:Nat} {e:TypeId} {cs:List Value} {x:DataW H×List MemPlace} {a:qa}
  (he:(∃k,P.underlying e = some (.int k))∨P.underlying e = some .string) (h:DataW.trod enc P w base sp held fuel e cs = some x) (ha:qAB x.1 = some a):∃v,cs = [v]∧qt (fun _=>none) (fun _ _=>none) a v:=by
 rcases he with ⟨k,he⟩ | he
 ·obtain ⟨n,rfl,rfl,_⟩:=DataW.trod_int he h
  simp only [qAB,Option.some.injEq] at ha
  subst ha
  exact ⟨_,rfl,by simp [qt]⟩
 ·obtain ⟨s,rfl,rfl,_⟩:=DataW.trod_string he h
  simp only [qAB,Option.some.injEq] at ha
  subst ha
  exact ⟨_,rfl,by simp only [qt];exact ⟨s,rfl,rfl⟩⟩
theorem qk5 {α β:Type} {f:α→Option β}:∀{l:List α} {r:List β},l.mapM f = some r→r.length = l.length
 | [],r,h=>by simp at h;subst h;rfl
 | x :: l,r,h=>by
  simp only [List.mapM_cons,Option.bind_eq_bind,Option.bind_eq_some_iff,Option.pure_def,Option.some.injEq] at h
  obtain ⟨b,_,r',hr',rfl⟩:=h
  simp [qk5 hr']
theorem qct {laid:List (String×DataW Unit)} {W:World} (hL:laidMet P laid W) {name:String} {ds:List (DataW Unit)} (hm:(name,DataW.agg ds) ∈ laid) {g:Nat} (hg:P.globalNamed name = some g) {t e:TypeId} {n:Nat} (ht:(P.globals[g]?).map (·.type) = some t)
  (hu:P.underlying t = some (.array n e)) (he:(∃k,P.underlying e = some (.int k))∨P.underlying e = some .string) (hc:P.cellsOf e = 1) (hct:P.cellsOf t = n) {aS:List qa} (has:ds.mapM qAB = some aS) :
  qy 0 aS = true∧∃vs:List Value,qh (fun _=>none) (fun _ _=>none) aS vs∧(∀(j:Nat) (v:Value),vs[j]? = some v→W.cell? ⟨g,j,none⟩ = some v)∧(0 < aS.length→∃c e,W.heap[g]? = some (.cells c e (0,0))∧aS.length = c.size):=by
 obtain ⟨ps,hv,hnd,hrest⟩:=hL
 clear hnd
 replace hrest:=fun b off h=>(hrest b off h).1
 induction laid generalizing ps with
 | nil=>cases hm
 | cons x laid ih=>
  obtain ⟨nx,dx⟩:=x
  obtain ⟨g',t',cs,fuel,p,q,hg',ht',hvar,hd,hq,hps⟩:=hv
  rcases List.mem_cons.1 hm with hm | hm
  ·cases hm
   obtain rfl:=Option.some.inj (hg.symm.trans hg')
   obtain rfl:=Option.some.inj (ht.symm.trans ht')
   obtain ⟨xs,m,_,hx,hcl,hxl,hel⟩:=DataW.trod_array hu hd
   have hds:xs.map (·.1) = ds:=(DataW.agg.inj (Prod.mk.inj hx).1).symm
   have key:∀(i:Nat) (a:qa),aS[i]? = some a→∃v,cs[i]? = some v∧qt (fun _=>none) (fun _ _=>none) a v:=by
    intro i a ha
    obtain ⟨d,hd1,hd2⟩:=qhR has i a ha
    rw [←hds,List.getElem?_map,Option.map_eq_some_iff] at hd1
    obtain ⟨y,hy,rfl⟩:=hd1
    have hi:i < n:=by rw [←hxl];exact (List.getElem?_eq_some_iff.1 hy).1
    have h1:=hel i hi
    rw [hy,hc,Nat.mul_one] at h1
    obtain ⟨v,hv1,hv2⟩:=qtM he h1 hd2
    have h0:((cs.toList.drop i).take 1)[0]? = some v:=by rw [hv1];rfl
    exact ⟨v,by simpa using h0,hv2⟩
   refine ⟨qeT fun a ha=>?_,aS.mapIdx (fun i _=>cs.getD i undef),qh.of_get (by simp) fun i a v ha hv=>?_,fun j v hv=>?_,fun h0=>?_⟩
   ·obtain ⟨i,hi⟩:=List.getElem?_of_mem ha
    obtain ⟨v,_,hr⟩:=key i a hi
    exact qdB (n:=0) (fun _ _ h=>by cases h) a v hr
   ·obtain ⟨u,hu1,hu2⟩:=key i a ha
    rw [List.getElem?_mapIdx,ha] at hv
    simp only [Option.map_some,Option.some.injEq] at hv
    rw [Array.getD_eq_getD_getElem?,hu1] at hv
    simp only [Option.getD_some] at hv
    rw [←hv]
    exact hu2
   ·rw [World.var?_cell hg hvar j]
    rw [List.getElem?_mapIdx] at hv
    cases ha:aS[j]? with
    | none=>rw [ha] at hv;cases hv
    | some a=>
     obtain ⟨u,hu1,_⟩:=key j a ha
     rw [ha] at hv
     simp only [Option.map_some,Option.some.injEq] at hv
     rw [Array.getD_eq_getD_getElem?,hu1] at hv
     simp only [Option.getD_some] at hv
     rw [←hv]
     exact hu1
   ·have hal:aS.length = n:=by
     rw [qk5 has,←hds,List.length_map,hxl]
    rw [hct,Array.length_toList] at hcl
    obtain ⟨c,e',hh⟩:=hrest g 0 (by
     rw [hps]
     refine List.mem_append_left _ (List.mem_append_left _ ?_)
     exact MemPlace.mem_row.2 ⟨0,by omega,rfl⟩)
    refine ⟨c,e',hh,?_⟩
    have:c = cs:=by
     have q:=hvar
     simp only [World.var?,hg,Option.bind_some,hh,Option.some.injEq] at q
     exact q
    rw [this]
    omega
  ·exact ih hm q hq fun b off h=>hrest b off (by rw [hps];exact List.mem_append_right _ h)
end
end Go.AE
namespace Go.AE
section
variable {P:Program} {gl:Nat→Option (List qa)}
theorem qq4 {T : qe7} (hT : T.All fun i v => ∃ pf, P.funcs[i]? = some pf ∧ ql P gl pf = some v ∧ (pf.name == "runtime.NumGoroutine") = false) : qf5 P gl T.get := fun f fn h => by
 obtain ⟨pf,h1,h2,h3⟩:=qe7.get_all hT h
 unfold ql at h2
 split at h2
 ·cases h2
 ·rename_i c hb
  split at h2
  ·rename_i code rs e1 e2
   cases h2
   exact ⟨pf,c,h1,h3,hb,e1,e2,rfl⟩
  ·cases h2
theorem quE {W:World} {g:Nat}:qy 0 [] = true∧∃vs:List Value,qh (fun _=>none) (fun _ _=>none) [] vs∧(∀(j:Nat) (v:Value),vs[j]? = some v→W.cell? ⟨g,j,none⟩ = some v)∧(0 < ([]:List qa).length→∃c e,W.heap[g]? = some (.cells c e (0,0))∧([]:List qa).length = c.size):=
 ⟨rfl,[],by simp [qh],fun j v h=>by simp at h,fun h=>by simp at h⟩
end
end Go.AE
namespace Go.AE
def qgp:Call→List qa→List qf→Option (qcD×List qf×Bool):=fun _ aS h=>
 match aS with
 | [.str s,.int .u8 c]=>some (.ret (.int .i64 (Lib.indexByte s c.toNat.toUInt8)),h,false)
 | _=>none
def qgT (t:TypeId):Call→List qa→List qf→Option (qcD×List qf×Bool):=fun _ aS h=>
 match aS with
 | [.str s]=>
  bif Nat.ble s.length 100000 then
   match Lib.atoiAll s with
   | .ok v=>some (.ret (.tup [.int .i64 v,.niliface]),h,false)
   | .range=>some (.ret (.tup [.int .i64 (Lib.atoiSat s),.iface t .undef]),h,false)
   | _=>none
  else none
 | _=>none
def qek:Call→List qa→List qf→Option (qcD×List qf×Bool):=fun _ aS h=>
 match aS with
 | []=>some (.ret (.bool true),h,false)
 | _=>none
def wbX (T E:Nat):Call→List qa→List qf→Option (qcD×List qf×Bool):=fun _ aS h=>
 match aS with
 | [.ptr id 0,.int .u8 c]=>match h[id]? with
  | some (.bld t e s)=>bif (Nat.beq t T && Nat.beq e E) && ((ile 0 c && ile c 255) && Nat.ble s.length qu) then some (.ret .niliface,h.set id (.bld t e (s ++ [c.toNat.toUInt8])),false) else none
  | _=>none
 | _=>none
def wsX (T E:Nat):Call→List qa→List qf→Option (qcD×List qf×Bool):=fun _ aS h=>
 match aS with
 | [.ptr id 0,.str u]=>match h[id]? with
  | some (.bld t e s)=>bif (Nat.beq t T && Nat.beq e E) && Nat.ble (s.length + u.length) qu then some (.ret (.tup [.int .i64 (u.length:Nat),.niliface]),h.set id (.bld t e (s ++ u)),false) else none
  | _=>none
 | _=>none
def stX (T E:Nat):Call→List qa→List qf→Option (qcD×List qf×Bool):=fun _ aS h=>
 match aS with
 | [.ptr id 0]=>match h[id]? with
  | some (.bld t e s)=>bif (Nat.beq t T && Nat.beq e E) && !s.isEmpty then some (.ret (.str s),h,false) else none
  | _=>none
 | _=>none
def itX:Call→List qa→List qf→Option (qcD×List qf×Bool):=fun _ aS h=>
 match aS with
 | [.int .i64 n]=>bif ile (-9223372036854775808) n && ile n 9223372036854775807 then some (.ret (.str (Lib.itoa n)),h,false) else none
 | _=>none
end Go.AE
namespace Go.AE
noncomputable def qBA (t:List qa):Nat→qa:=List.rec (motive:=fun _=>Nat→qa) (fun _=>.undef) (fun a _ ih n=>Nat.rec (motive:=fun _=>qa) a (fun m _=>ih m) n) t
noncomputable def qgY (v:qa) (t:List qa):Nat→List qa:=List.rec (motive:=fun _=>Nat→List qa) (fun _=>[]) (fun a aS ih n=>Nat.rec (motive:=fun _=>List qa) (v :: aS) (fun m _=>a :: ih m) n) t
theorem qjQ:∀(t:List qa) (i:Nat),qBA t i = t.getD i .undef
 | [],_=>rfl
 | _ :: _,0=>rfl
 | _ :: t,i + 1=>qjQ t i
theorem qrn (v:qa):∀(t:List qa) (i:Nat),qgY v t i = t.set i v
 | [],_=>rfl
 | _ :: _,0=>rfl
 | a :: t,i + 1=>congrArg (a :: ·) (qrn v t i)
noncomputable def qu9 (k:IntKind) (n:Int):qa:=
 Int.rec (motive:=fun _=>qa) (fun m=>Nat.rec (motive:=fun _=>qa) (.int k (.ofNat 0)) (fun p _=>.int k (.ofNat (p + 1))) m) (fun m=>.int k (.negSucc m)) n
noncomputable def qu8 (b:Bool):qa:=Bool.rec (motive:=fun _=>qa) (.bool false) (.bool true) b
noncomputable def qBb (v:qa):qa:=
 qa.casesOn (motive_1:=fun _=>qa) v .undef .bool .int .str .nilptr .ptr .iptr (fun xs f=>qfQ.casesOn (motive:=fun _=>qa) f (.lst xs .no) (.lst xs .full) (fun _=>.lst xs .no)) .nilfunc .fn .yld .niliface .iface .agg .tup .sl .mp .nilmap .nils .empt
noncomputable def qva (v:qa):qa:=
 qa.casesOn (motive_1:=fun _=>qa) v .undef qu8 qu9 .str .nilptr .ptr .iptr .lst .nilfunc .fn .yld .niliface .iface .agg .tup .sl .mp .nilmap .nils .empt
theorem qoM (b:Bool):qu8 b = .bool b:=by cases b <;> rfl
theorem qoN (k:IntKind) (n:Int):qu9 k n = .int k n:=by
 cases n with
 | ofNat m=>cases m <;> rfl
 | negSucc m=>rfl
theorem qoa:qBb = qa.dim:=by
 funext v
 cases v <;> try rfl
 rename_i xs f
 cases f <;> rfl
theorem qoO (v:qa):qva v = v:=by cases v <;> first | rfl | exact qoM _ | exact qoN _ _
noncomputable def qCv (d:Nat) (v:qa) (t:List qa):List qa:=
 qa.casesOn (motive_1:=fun _=>List qa) (qva v) (qgY .undef t d) (fun b=>qgY (.bool b) t d) (fun k n=>qgY (.int k n) t d) (fun x=>qgY (.str x) t d) (qgY .nilptr t d) (fun a b=>qgY (.ptr a b) t d) (fun a b=>qgY (.iptr a b) t d) (fun a b=>qgY (.lst a b) t d)
  (qgY .nilfunc t d) (fun a b c=>qgY (.fn a b c) t d) (fun a=>qgY (.yld a) t d) (qgY .niliface t d) (fun a b=>qgY (.iface a b) t d) (fun a=>qgY (.agg a) t d) (fun a=>qgY (.tup a) t d) (fun a b c e f=>qgY (.sl a b c e f) t d) (fun a=>qgY (.mp a) t d) (qgY .nilmap t d) (qgY .nils t d) (qgY .empt t d)
theorem qye (d:Nat) (v:qa) (t:List qa):qCv d v t = t.set d v:=by
 unfold qCv
 rw [qoO]
 cases v <;> exact qrn _ _ _
noncomputable def qrW (t:List qa):qk→qa
 | .t i=>qBA t i
 | .c v=>v
noncomputable def evF (t:List qa) (x:qk):qa:=qBb (qrW t x)
noncomputable def qkj (dst:Option Nat) (v:qa) (t:List qa):List qa:=
 match dst with
 | some d=>qCv d v t
 | none=>t
noncomputable def qfU (t:List qa) (x:qk):List qa:=
 match x with
 | .t i=>match qBA t i with
  | .lst xs (.own _)=>t.set i (.lst xs .no)
  | _=>t
 | .c _=>t
theorem qfl:qrW = raw:=by
 funext t x
 cases x
 ·exact qjQ _ _
 ·rfl
theorem qgf:evF = ev:=by
 funext t x
 simp only [evF,ev,qfl,qoa]
theorem qkk:qkj = put:=by
 funext d v t
 cases d
 ·rfl
 ·exact qye _ _ _
theorem qjF:qfU = qaF:=by
 funext t x
 cases x
 ·simp only [qfU,qaF,qjQ]
  rfl
 ·rfl
noncomputable def qft (t:List qa) (x:Option qk) (d:Nat):Option Nat:=
 match x with
 | none=>some d
 | some x=>match evF t x with
  | .int _ n=>if 0 ≤ n then some n.toNat else none
  | _=>none
noncomputable def qq5 (t:List qa) (o:AOp):Option qa:=
 match o with
 | .mov x=>some (evF t x)
 | .pick c a b=>match evF t c with
  | .bool true=>some (evF t a)
  | .bool false=>some (evF t b)
  | _=>none
 | .build zero parts=>(qI zero (parts.map fun (o,s,x)=>(o,s,evF t x))).map .agg
 | .list k zero len parts=>
  if zero.length = k∧len * k ≤ 2 ^ 24 then
   match qI ((List.replicate len zero).flatten) (parts.map fun (i,x)=>(i * k,k,evF t x)) with
   | some cs=>if cs.all qa.storable then some (.lst ((List.range len).map fun i=>if k = 1 then (cs.getD i .undef) else .agg ((cs.drop (i * k)).take k)) .full) else none
   | none=>none
  else none
 | .nilc x=>match evF t x with
  | .ptr i o=>some (.ptr i o)
  | .iptr cs o=>some (.iptr cs o)
  | .fn f a b=>some (.fn f a b)
  | .yld l=>some (.yld l)
  | .iface u v=>some (.iface u v)
  | _=>none
 | .bin op x y=>qcp op (evF t x) (evF t y)
 | .eqb neg x y=>match evF t x,evF t y with
  | .bool a,.bool b=>some (.bool ((a == b) != neg))
  | _,_=>none
 | .eqi k neg x y=>(qyG k (evF t x) (evF t y)).map fun b=>.bool (b != neg)
 | .eqa neg x y=>match evF t x,evF t y with
  | .agg a,.agg b=>(qju a b).map fun r=>.bool (r != neg)
  | _,_=>none
 | .eqs sh neg x y=>(qyC sh (evF t x) (evF t y)).map fun r=>.bool (r != neg)
 | .un op x=>unV op (evF t x)
 | .nls neg x=>match evF t x with
  | .sl ..=>some (.bool (false != neg))
  | .lst (_ :: _) _=>some (.bool (false != neg))
  | .nils=>some (.bool (true != neg))
  | .empt=>some (.bool (false != neg))
  | _=>none
 | .cvi k x=>match evF t x with
  | .int _ n=>some (.int k (k.wrap n))
  | _=>none
 | .cvs x=>match evF t x with
  | .str s=>some (.str s)
  | _=>none
 | .cvb x=>match evF t x with
  | .str s=>some (.lst (qhL s) .no)
  | _=>none
 | .cvt x=>match evF t x with
  | .lst xs _=>(qfc xs).map .str
  | _=>none
 | .mkI ty x=>match evF t x with
  | .undef=>none
  | v=>some (.iface ty v)
 | .mkF f a b=>some (.fn f (a.map (evF t)) (b.map (evF t)))
 | .subS x lo hi=>match evF t x with
  | .str s=>match qft t hi s.length with
   | some h=>match qft t lo 0 with
    | some l=>if l ≤ h∧h ≤ s.length then some (.str ((s.drop l).take (h - l))) else none
    | none=>none
   | none=>none
  | _=>none
 | .subL k x lo hi=>match evF t x with
  | .lst xs f=>match qft t hi xs.length with
   | some h=>match qft t lo 0 with
    | some l=>
     if l ≤ h∧h ≤ xs.length then
      if xs.head?.all (fun y=>y.cells.length == k) then some (.lst ((xs.drop l).take (h - l)) (if h = xs.length then f else .no)) else none
     else none
    | none=>none
   | none=>none
  | .sl id o len cap more=>match qft t hi len with
   | some h=>match qft t lo 0 with
    | some l=>
     if l ≤ h∧h ≤ cap then
      if cap = l then (if more = 0 then some (.lst [] .full) else none) else (if more = 0∨more = k then some (.sl id (o + l * k) (h - l) (cap - l) more) else none)
     else none
    | none=>none
   | none=>none
  | _=>none
 | .fa off a=>match evF t a with
  | .ptr i o=>some (.ptr i (o + off))
  | .iptr cs o=>some (.iptr cs (o + off))
  | _=>none
 | .ixaL k s i=>match evF t s,evF t i with
  | .lst xs _,.int _ n=>
   if 0 ≤ n∧n < xs.length then
    match xs[n.toNat]? with
    | some x=>if x.cells.length = k then some (.iptr x.cells 0) else none
    | none=>none
   else none
  | .sl id o len _ _,.int _ n=>if 0 ≤ n∧n < len then some (.ptr id (o + n.toNat * k)) else none
  | _,_=>none
 | .ixaA len k a i=>match evF t a,evF t i with
  | .ptr b o,.int _ n=>if 0 ≤ n∧n < (len:Int) then some (.ptr b (o + n.toNat * k)) else none
  | .iptr cs o,.int _ n=>if 0 ≤ n∧n < (len:Int) then some (.iptr cs (o + n.toNat * k)) else none
  | _,_=>none
 | .ixS s i=>match evF t s,evF t i with
  | .str l,.int _ n=>if 0 ≤ n then (l[n.toNat]?).map fun b=>.int .u8 b.toNat else none
  | _,_=>none
 | .ixA len k a i=>match evF t a,evF t i with
  | .agg cs,.int _ n=>if 0 ≤ n∧n < (len:Int) then cut cs (n.toNat * k.getD 1) k else none
  | _,_=>none
 | .fld off k x=>match evF t x with
  | .agg cs=>cut cs off k
  | _=>none
 | .ext x i=>match evF t x with
  | .tup vs=>(vs[i]?).map qa.dim
  | _=>none
 | .len true x=>match evF t x with
  | .str s=>some (.int .i64 s.length)
  | _=>none
 | .len false x=>match evF t x with
  | .lst xs _=>some (.int .i64 xs.length)
  | .sl _ _ len _ _=>some (.int .i64 len)
  | .nils=>some (.int .i64 0)
  | .empt=>some (.int .i64 0)
  | _=>none
 | .mm isMax x y=>match evF t x,evF t y with
  | .int k a,.int _ b=>some (.int k (if isMax then (if b > a then b else a) else (if b < a then b else a)))
  | _,_=>none
 | .tas ty zero x=>match evF t x with
  | .niliface=>some (.tup [zero,.bool false])
  | .iface u v=>if u = ty then some (.tup [v,.bool true]) else some (.tup [zero,.bool false])
  | _=>none
 | _=>none
noncomputable def qrD (k:Nat) (p:qco) (x:qk) (s:St):Option (List qa×St):=
 match x with
 | .c _=>none
 | .t i=>
  match qrW s.t (.t i) with
  | .lst xs (.own j)=>if j = k then some (xs,{ s with t:=s.t.set i (.lst xs .no)}) else none
  | _=>
   match p.find? (·.1 == i) with
   | some (_,.tmp b)=>
    match qrW s.t (.t b) with
    | .lst xs (.own j)=>if j = k then some (xs,{ s with t:=s.t.set b (.lst xs .no)}) else none
    | _=>none
   | some (_,.cell a)=>
    match evF s.t a with
    | .ptr id o=>
     match s.h[id]? with
     | some (.cells cs)=>
      match cs[o]? with
      | some (.lst xs (.own j))=>if j = k then some (xs,{ s with h:=s.h.set id (.cells (cs.set o (.lst xs .no)))}) else none
      | _=>none
     | _=>none
    | _=>none
   | none=>none
noncomputable def qle (base:Nat) (call:Call) (p:qco) (dst:Option Nat) (o:AOp) (s:St):Option (Ex×St):=
 match o with
 | .asg x=>some (.nor,{ s with t:=qkj dst (qrW s.t x) (qfU s.t x)})
 | .new cs=>some (.nor,{ s with t:=qkj dst (.ptr s.h.length 0) s.t,h:=s.h ++ [.cells (cs.map qa.dim)]})
 | .box k x=>
  let vs:=(evF s.t x).cells.map qa.dim
  if vs.length = k∧vs.all qa.storable then some (.nor,{ s with t:=qkj dst (.ptr s.h.length 0) s.t,h:=s.h ++ [.cells vs]}) else none
 | .ld k a=>(qdh s.h (evF s.t a) k).map fun v=>(.nor,{ s with t:=qkj dst v s.t})
 | .st k a x=>
  match evF s.t a with
  | .ptr id o=>
   match s.h[id]? with
   | some (.cells cs)=>
    let v:=qrW s.t x
    let vs:=match k with | none=>[v] | some _=>v.dim.cells.map qa.dim
    if vs.length = k.getD 1∧o + vs.length ≤ cs.length∧vs.all qa.storable then
     some (.nor,{ t:=qkj dst .undef (qfU s.t x),h:=s.h.set id (.cells (splice cs o vs)),e:=s.e || !(Nat.ble base id || qy (id + 1) vs)})
    else none
   | _=>none
  | _=>none
 | .call f args=>
  match call (evF s.t f) (args.map (evF s.t)) s.h with
  | some (.ret v,h,e)=>some (.nor,{ t:=qkj dst v.dim s.t,h,e:=s.e || e})
  | some (.pan v,h,e)=>some (.pan v,{ s with h,e:=s.e || e})
  | none=>none
 | .app k x y=>
  match qrW s.t x,tail (evF s.t y) with
  | .lst xs f,some ys=>
   if ys.isEmpty then some (.nor,{ s with t:=qkj dst (qa.lst xs f).dim s.t})
   else if xs.length + ys.length ≤ qu∧ys.all (fun y=>y.cells.length == k && y.cells.all qa.storable)∧xs.head?.all (fun y=>y.cells.length == k) then
    match f with
    | .full=>some (.nor,{ s with t:=qkj dst (.lst (xs ++ ys) (.own k)) s.t})
    | _=>
     match qrD k p x s with
     | some (xs,s)=>if xs.head?.all (fun y=>y.cells.length == k) then some (.nor,{ s with t:=qkj dst (.lst (xs ++ ys) (.own k)) s.t}) else none
     | none=>none
   else none
  | _,_=>none
 | .pan x=>match evF s.t x with
  | .iface u v=>some (.pan (.iface u v),s)
  | _=>none
 | .lk sh z ok m key=>(qk3 s.h sh z ok (evF s.t m) (evF s.t key)).map fun v=>(.nor,{ s with t:=qkj dst v s.t})
 | .hx o aS=>(hop base o (aS.map (evF s.t)) s.h).map fun r=>(.nor,{ t:=qkj dst r.1.dim s.t,h:=r.2.1,e:=s.e || r.2.2})
 | o=>(qq5 s.t o).map fun v=>(.nor,{ s with t:=qkj dst v s.t})
noncomputable def qh6 (t:List qa) (g:Option (Nat×Bool)):Option Bool:=
 match g with
 | none=>some true
 | some (j,b)=>match qrW t (.t j) with
  | .bool c=>some (c == b)
  | .tup []=>some false
  | _=>none
noncomputable def qgI (base:Nat) (call:Call):qco→List qY→St→Option (Ex×St)
 | _,[],s=>some (.nor,s)
 | p,o :: os,s=>
  match qh6 s.t o.guard with
  | some true=>
   match qle base call p o.dst o.op s with
   | some (.nor,s)=>qgI base call (qaJ p o) os s
   | r=>r
  | some false=>qgI base call (qaJ p { o with op:=.pick (.c .undef) (.c .undef) (.c .undef)}) os { s with t:=qkj o.dst (.tup []) s.t}
  | none=>none
noncomputable def qnN (s:St) (o:AOp):Option Chk:=
 match o with
 | .ld k a=>(qdh s.h (evF s.t a) k).map (.ld (evF s.t a) k)
 | .lk sh z ok m key=>(qk3 s.h sh z ok (evF s.t m) (evF s.t key)).map (.lk sh z ok (evF s.t m) (evF s.t key))
 | .new cs=>some (.box s.h.length (cs.map qa.dim))
 | .box _ x=>some (.box s.h.length ((evF s.t x).cells.map qa.dim))
 | _=>none
noncomputable def qb6 (base:Nat) (call:Call) (dsts:List Nat):List qN→List (Nat×Chk)→St→Option (Ex×St)
 | [],_,s=>some (.nor,s)
 | d :: ds,pend,s=>
  match qh6 s.t d.o.guard with
  | some true=>
   match qle base call [] d.o.dst d.o.op s with
   | some (.nor,s')=>
    if d.o.op.effs then
     let pend':=pend.filter fun c=>!d.cl.testBit c.1
     if pend'.all (fun c=>c.2.ok s'.h) then qb6 base call dsts ds pend' s' else none
    else
     match qnN s d.o.op with
     | some c=>qb6 base call dsts ds ((d.ix,c) :: pend) s'
     | none=>qb6 base call dsts ds pend s'
   | some (.pan v,s')=>if d.o.op.effs then some (.pan v,{ s' with t:=qcs dsts s'.t}) else none
   | _=>none
  | some false=>qb6 base call dsts ds pend { s with t:=qkj d.o.dst (.tup []) s.t}
  | none=>none
noncomputable def qcU (n base:Nat) (call:Call):qG→St→Option (Ex×St)
 | .skip,s=>some (.nor,s)
 | .reg ops,s=>qgI base call [] ops s
 | .draw ops,s=>qb6 base call (ops.filterMap (·.o.dst)) ops [] s
 | .draw2 c a b r,s=>quT a b (qb6 base call ((c ++ a :: b :: r).filterMap (·.o.dst)) (c ++ [a,b]) [] s) (qb6 base call ((c ++ a :: b :: r).filterMap (·.o.dst)) (c ++ a :: b :: r) [] s) (qb6 base call ((c ++ a :: b :: r).filterMap (·.o.dst)) (c ++ b :: a :: r) [] s)
 | .seq a b,s=>match qcU n base call a s with
  | some (.nor,s)=>qcU n base call b s
  | r=>r
 | .cond c a b,s=>match evF s.t c with
  | .bool true=>qcU n base call a s
  | .bool false=>qcU n base call b s
  | _=>none
 | .block id b,s=>match qcU n base call b s with
  | some (.exit j,s)=>if j = id then some (.nor,s) else some (.exit j,s)
  | r=>r
 | .loop b,s=>iter (qcU n base call b) n s
 | .exit id,s=>some (.exit id,s)
 | .ret,s=>some (.ret,s)
 | .rfun f ps asg body,s=>
  match evF s.t f with
  | .fn g first cap=>
   match call (.fn g first cap) [.yld s.h.length] (s.h ++ [.loop (s.t.map qa.dim) ps asg body .ready none]) with
   | some (.ret _,h,e)=>
    match h[s.h.length]? with
    | some (.loop t ps' asg' body' st pend)=>
     if st = .busy then none else
     let s':St:={ s with h:=h.set s.h.length (.loop t ps' asg' body' .exhausted pend),e:=s.e || e}
     match pend with
     | none=>some (.nor,s')
     | some .ret=>some (.ret,s')
     | some (.exit id)=>some (.exit id,s')
    | _=>none
   | some (.pan v,h,e)=>some (.pan v,{ s with h,e:=s.e || e})
   | none=>none
  | _=>none
noncomputable def qd2 (s:St):List qkB→Option (List qa)
 | []=>some []
 | .tmp i :: rs=>match qd2 s rs with
  | some vs=>some (qBb (qrW s.t (.t i)) :: vs)
  | none=>none
 | .cell a k :: rs=>
  match qdh s.h (qrW s.t (.t a)) k,qd2 s rs with
  | some v,some vs=>some (v :: vs)
  | _,_=>none
noncomputable def qre (n:Nat) (call:Call) (l:Nat) (args:List qa) (h:List qf):Option (qcD×List qf×Bool):=
 match h[l]? with
 | some (.loop t ps asg body _ _)=>
  if args.length ≠ ps.length then none else
  let base:=h.length
  match qcU n base call asg ⟨qic t ps (args.map qa.dim),h,false⟩ with
  | some (.nor,s)=>
   match s.h[l]? with
   | some (.loop t1 ps1 asg1 body1 .ready pend)=>
    match qcU n base call body { s with h:=s.h.set l (.loop t1 ps1 asg1 body1 .busy pend)} with
    | some (x,s)=>
     match s.h[l]? with
     | some (.loop t2 ps2 asg2 body2 _ _)=>
      match x with
      | .nor=>some (qaQ base (.ret (.bool true)) (s.h.set l (.loop t2 ps2 asg2 body2 .ready none)) s.e)
      | .ret=>some (qaQ base (.ret (.bool false)) (s.h.set l (.loop t2 ps2 asg2 body2 .done (some .ret))) s.e)
      | .exit id=>some (qaQ base (.ret (.bool false)) (s.h.set l (.loop t2 ps2 asg2 body2 .done (some (.exit id)))) s.e)
      | .pan _=>none
     | _=>none
    | none=>none
   | _=>none
  | _=>none
 | _=>none
noncomputable def qyb (F:FuncId→Option qE) (X:qf3):Nat→Call
 | 0=>fun _ _ _=>none
 | n + 1=>fun fv args h=>
  match fv with
  | .fn f first cap=>
   match X f with
   | some g=>g (qyb F X n) (first ++ args ++ cap) h
   | none=>
    match F f with
    | none=>none
    | some fn=>
     let aS:=(first ++ args ++ cap).map qa.dim
     match qcU n h.length (qyb F X n) fn.code ⟨aS ++ List.replicate (fn.ntmps - aS.length) (.tup []),h,false⟩ with
     | some (.nor,s) | some (.ret,s)=>
      match qd2 s fn.results with
      | some vs=>some (qaQ h.length (.ret (qbR vs)) s.h s.e)
      | none=>none
     | some (.pan v,s)=>some (qaQ h.length (.pan v) s.h s.e)
     | _=>none
  | .yld l=>qre n (qyb F X n) l args h
  | _=>none
theorem qnC:qft = bound:=by
 funext t x d
 cases x <;> simp only [qft,bound,qgf] <;> rfl
theorem qq6:qq5 = pureV:=by
 funext t o
 cases o <;> simp only [qq5,pureV,qgf,qnC] <;> first | rfl | (cases ‹Bool› <;> rfl)
theorem qld (t:List qa) (i:Nat):raw t (.t i) = t.getD i .undef:=rfl
theorem qrE:qrD = qdR:=by
 funext k p x s
 cases x <;> simp only [qrD,qdR,qfl,qld,qgf] <;> rfl
theorem qi2:qle = qq:=by
 funext base call p dst o s
 cases o <;> simp only [qle,qq,qfl,qgf,qkk,qjF,qrE,qq6] <;> rfl
theorem qhs:qh6 = wanted:=by
 funext t g
 cases g <;> simp only [qh6,wanted,qfl,qld] <;> rfl
theorem qhp (base:Nat) (call:Call):∀(os:List qY) (p:qco) (s:St),qgI base call p os s = qaK base call p os s
 | [],_,_=>rfl
 | o :: os,p,s=>by
  simp only [qgI,qaK,qhs,qi2,qkk,qhp base call os]
  rfl
theorem qnO:qnN = qeC:=by
 funext s o
 cases o <;> simp only [qnN,qeC,qgf] <;> rfl
theorem qev (base:Nat) (call:Call) (dsts:List Nat):∀(ds:List qN) (pend:List (Nat×Chk)) (s:St),qb6 base call dsts ds pend s = qK base call dsts ds pend s
 | [],_,_=>rfl
 | d :: ds,pend,s=>by
  simp only [qb6,qK,qhs,qi2,qkk,qnO,qev base call dsts ds]
  rfl
theorem qcH (n base:Nat) (call:Call):∀(c:qG),qcU n base call c = qaV n base call c
 | .skip=>by funext s;simp only [qcU,qaV] <;> rfl
 | .reg ops=>by funext s;simp only [qcU,qaV,qhp] <;> rfl
 | .draw ops=>by funext s;simp only [qcU,qaV,qev] <;> rfl
 | .draw2 c a b r=>by funext s;simp only [qcU,qaV,qev] <;> rfl
 | .seq a b=>by funext s;simp only [qcU,qaV,qcH n base call a,qcH n base call b] <;> rfl
 | .cond c a b=>by funext s;simp only [qcU,qaV,qgf,qcH n base call a,qcH n base call b] <;> rfl
 | .block id b=>by funext s;simp only [qcU,qaV,qcH n base call b] <;> rfl
 | .loop b=>by funext s;simp only [qcU,qaV,qcH n base call b] <;> rfl
 | .rfun f ps asg body=>by funext s;simp only [qcU,qaV,qgf] <;> rfl
 | .exit id=>by funext s;simp only [qcU,qaV] <;> rfl
 | .ret=>by funext s;simp only [qcU,qaV] <;> rfl
theorem qeu (s:St):∀rs:List qkB,qd2 s rs = qat s rs
 | []=>rfl
 | .tmp i :: rs=>by simp only [qd2,qat,qeu s rs,qfl,qld,qoa] <;> rfl
 | .cell a k :: rs=>by simp only [qd2,qat,qeu s rs,qfl,qld] <;> rfl
theorem qrf (n:Nat) (call:Call):qre n call = round n call:=by
 funext l args h
 simp only [qre,round,qcH] <;> rfl
theorem qkp (F:FuncId→Option qE) (X:qf3):∀n:Nat,qyb F X n = run F X n
 | 0=>rfl
 | n + 1=>by
  funext fv args h
  simp only [qyb,run,qkp F X n,qcH,qeu,qrf] <;> rfl
end Go.AE
namespace Go.AE
def quH (X:qf3) (f:FuncId) (g:Call→List qa→List qf→Option (qcD×List qf×Bool)):qf3:=fun i=>if i == f then some g else X i
theorem qf2 {X:qf3} {f i:FuncId} {g g':Call→List qa→List qf→Option (qcD×List qf×Bool)} (h:quH X f g i = some g'):(i = f∧g' = g)∨X i = some g':=by
 unfold quH at h
 cases e:i == f with
 | true=>rw [e] at h;exact .inl ⟨by simpa using e,(Option.some.inj h).symm⟩
 | false=>rw [e] at h;exact .inr h
section
variable {P:Program} {gl:Nat→Option (List qa)} {F:FuncId→Option qE} {X:qf3} {f:FuncId} {fn:qE} {n k:Nat} {as0:List qa} {h0 h1:List qf} {r0:qcD} {e1:Bool}
theorem qu4 {g:Call→List qa→List qf→Option (qcD×List qf×Bool)} (hP:qf5 P gl F) (hF:F f = some fn) (hcall:qb7 P gl (run F X n)) (hg:∀call aS h r,g call aS h = some r→run F X n (.fn f [] []) aS h = some r):qey P gl f g:=by
 intro call _ _ aS h r h' e' hr0 G w vs hr hn ha
 have hrun:=hg _ _ _ _ hr0
 obtain ⟨pf,c,p1,p2,p3,_⟩:=hP f fn hF
 have hent:=q7 (P:=P) p1 p2 p3 vs w
 have hfv:G.V (.fn f [] []) (.func (.func f) #[] #[]):=by simp [qd.V,qt,qh]
 have hcs:(qeA (.func (.func f) #[] #[]) vs).run P w = (callFunc f vs).run P w:=by rw [qfS];simp
 rcases hcall _ _ _ _ _ _ hrun G w _ vs hr hn hfv ha with ⟨f',as',k1,k2⟩ | ⟨_,_,_,_,_,_,hy,_⟩ | ⟨v,w',_,k1,_⟩
 ·rw [hcs,hent] at k1
  cases k1
  exact .inl ⟨hent,k2⟩
 ·cases hy
 ·rw [hcs,hent] at k1
  cases k1
structure qnd (P:Program) (gl:Nat→Option (List qa)) (F:FuncId→Option qE) (X:qf3):Prop where
 ok:∀f g,X f = some g→qey P gl f g
 keeps:∀f g,X f = some g→∀call,qH call→qH fun _ xs h=>g call xs h
theorem qnd.call (hmx:P.follows .mixedOrders = true) (hP:qf5 P gl F) (hX:qnd P gl F X) (n:Nat):qb7 P gl (run F X n):=qi5 hmx hP hX.ok hX.keeps n
theorem qnd.put {Y:qf3} {g:Call→List qa→List qf→Option (qcD×List qf×Bool)} (hmx:P.follows .mixedOrders = true) (hP:qf5 P gl F) (hX:qnd P gl F X) (hY:qnd P gl F Y) (hF:F f = some fn) (hg:∀call aS h r,g call aS h = some r→qyb F X n (.fn f [] []) aS h = some r):qnd P gl F (quH Y f g):=by
 rw [qkp] at hg
 constructor
 ·intro i g' hi
  rcases qf2 hi with ⟨rfl,rfl⟩ | hi
  ·exact qu4 hP hF (hX.call hmx hP n) hg
  ·exact hY.ok i g' hi
 ·intro i g' hi call hk
  rcases qf2 hi with ⟨rfl,rfl⟩ | hi
  ·intro fv aS h r h' e' hr
   exact qeY hX.keeps n _ _ _ _ _ _ (hg _ _ _ _ hr)
  ·exact hY.keeps i g' hi call hk
def qlh (g:List qa→List qf→Option (qcD×List qf×Bool)) (_:Call) (aS:List qa) (h:List qf):Option (qcD×List qf×Bool):=
 match aS with
 | [.lst [] .full]=>some (.ret (.lst [] .full),h,false)
 | aS=>g aS h
theorem qnd.split {Y:qf3} (hmx:P.follows .mixedOrders = true) (hP:qf5 P gl F) (hX:qnd P gl F X) (hY:qnd P gl F Y) (hF:F f = some fn)
  (h1:∀H,run F X n (.fn f [] []) [.nils] H = some (.ret (.lst [] .full),H,false)) (h2:∀H,run F X n (.fn f [] []) [.empt] H = some (.ret (.lst [] .full),H,false)):qnd P gl F (quH Y f (qlh (run F X n (.fn f [] [])))):=by
 have base:=qu4 (g:=fun _ aS h=>run F X n (.fn f [] []) aS h) hP hF (hX.call hmx hP n) (fun _ _ _ _ h=>h)
 constructor
 ·intro i g' hi
  rcases qf2 hi with ⟨rfl,rfl⟩ | hi
  ·intro call hc hk aS h r h' e' hr0 G w vs hr hn ha
   unfold qlh at hr0
   split at hr0
   ·cases hr0
    have ha':=ha
    simp only [qd.VL,qh,qt] at ha'
    obtain ⟨v,rest,e,⟨a,len,cap,rfl,g1,g2,g3,g4,_⟩,rfl⟩:=ha'
    simp only [List.length_nil] at g1
    subst g1
    have g3:=g3 trivial
    subst g3
    cases a with
    | none=>exact (base call hc hk _ _ _ _ _ (h1 h) G w vs hr hn (by rw [e];simp [qd.VL,qh,qt])).imp (fun x=>x) fun x=>⟨by simp,x.2⟩
    | some b=>exact (base call hc hk _ _ _ _ _ (h2 h) G w vs hr hn (by rw [e];simp [qd.VL,qh,qt])).imp (fun x=>x) fun x=>⟨by simp,x.2⟩
   ·exact base call hc hk _ _ _ _ _ hr0 G w vs hr hn ha
  ·exact hY.ok i g' hi
 ·intro i g' hi call hk
  rcases qf2 hi with ⟨rfl,rfl⟩ | hi
  ·intro fv aS h r h' e' hr0
   have hr:qlh (run F X n (.fn i [] [])) call aS h = some (r,h',e'):=hr0
   unfold qlh at hr
   split at hr
   ·cases hr;exact ⟨Nat.le_refl _,fun _=>qT.refl _ _⟩
   ·exact qeY hX.keeps n _ _ _ _ _ _ hr
  ·exact hY.keeps i g' hi call hk
def bx (f:Nat→qf) (k:Nat):List qf:=(List.range k).map f
theorem qzD {p:List qf→Prop} (h:p []):∀H:List qf,H.length = 0→p H:=fun H hH=>by
 rw [List.eq_nil_of_length_eq_zero hH];exact h
end
end Go.AE
namespace Go.AE
def Le {α:Type} (a b:Option α):Prop:=∀x,a = some x→b = some x
theorem Le.refl {α:Type} (a:Option α):Le a a:=fun _ h=>h
def CLe (c d:Call):Prop:=∀fv aS h,Le (c fv aS h) (d fv aS h)
theorem CLe.refl (c:Call):CLe c c:=fun _ _ _ _ h=>h
def qAC {α:Type} (g:Nat→Option α):Prop:=∀n m,n ≤ m→Le (g n) (g m)
def qdw (c:Nat→Call):Prop:=∀n m,n ≤ m→CLe (c n) (c m)
open Classical in
noncomputable def lim {α:Type} (g:Nat→Option α):Option α:=if h:∃n x,g n = some x then g h.choose else none
theorem qhO {α:Type} {g:Nat→Option α} (hg:qAC g) (x:α):lim g = some x↔∃n,g n = some x:=by
 unfold lim
 constructor
 ·intro h
  split at h
  ·exact ⟨_,h⟩
  ·cases h
 ·rintro ⟨n,hn⟩
  have h:∃n x,g n = some x:=⟨n,x,hn⟩
  rw [dif_pos h]
  obtain ⟨y,hy⟩:=h.choose_spec
  have h1:=hg _ (max n h.choose) (Nat.le_max_right ..) _ hy
  have h2:=hg _ (max n h.choose) (Nat.le_max_left ..) _ hn
  rw [hy,←h1,h2]
theorem qcz {α:Type} (a:Option α):lim (fun _=>a) = a:=by
 apply Option.ext
 intro x
 rw [qhO (fun _ _ _=>Le.refl _)]
 exact ⟨fun ⟨_,h⟩=>h,fun h=>⟨0,h⟩⟩
noncomputable def qng (c:Nat→Call):Call:=fun fv aS h=>lim fun n=>c n fv aS h
theorem qdY {c:Nat→Call} (hc:qdw c) {fv:qa} {aS:List qa} {h:List qf} (x:qcD×List qf×Bool):qng c fv aS h = some x↔∃n,c n fv aS h = some x:=
 qhO (fun n m hnm=>hc n m hnm fv aS h) x
theorem qj5 {c:Nat→Call} (hc:qdw c) (n:Nat):CLe (c n) (qng c):=fun _ _ _ x hx=>(qdY hc x).2 ⟨n,hx⟩
section
variable {c d:Call} {base:Nat}
theorem qbL (hc:CLe c d) {p:qco} {dst:Option Nat} {o:AOp} {s:St}:Le (qq base c p dst o s) (qq base d p dst o s):=by
 cases o
 case call f args=>
  intro x hx
  simp only [qq] at hx ⊢
  split at hx
  ·rename_i heq;rw [hc _ _ _ _ heq];exact hx
  ·rename_i heq;rw [hc _ _ _ _ heq];exact hx
  ·cases hx
 all_goals exact fun x hx=>hx
theorem qbH (hc:CLe c d):∀(ops:List qY) (p:qco) (s:St),Le (qaK base c p ops s) (qaK base d p ops s)
 | [],p,s=>fun x hx=>hx
 | o :: os,p,s=>fun x hx=>by
  simp only [qaK] at hx ⊢
  split at hx
  ·split at hx
   ·rename_i heq;rw [qbL hc _ heq];exact qbH hc os _ _ _ hx
   ·rename_i hne
    have h1:=qbL hc _ hx
    rw [h1]
    split
    ·rename_i heq;cases heq;exact absurd hx (hne _)
    ·rfl
  ·exact qbH hc os _ _ _ hx
  ·cases hx
theorem qar (hc:CLe c d) (dsts:List Nat):∀(ops:List qN) (pend:List (Nat×Chk)) (s:St),Le (qK base c dsts ops pend s) (qK base d dsts ops pend s)
 | [],p,s=>fun x hx=>hx
 | o :: os,p,s=>fun x hx=>by
  simp only [qK] at hx ⊢
  split at hx
  ·split at hx
   ·rename_i heq
    rw [qbL hc _ heq]
    simp only
    split at hx
    ·rename_i he
     rw [if_pos he]
     split at hx
     ·rename_i hp;rw [if_pos hp];exact qar hc dsts os _ _ _ hx
     ·cases hx
    ·rename_i he
     rw [if_neg he]
     split at hx
     ·exact qar hc dsts os _ _ _ hx
     ·exact qar hc dsts os _ _ _ hx
   ·rename_i heq;rw [qbL hc _ heq];exact hx
   ·cases hx
  ·exact qar hc dsts os _ _ _ hx
  ·cases hx
theorem qdF {f g:St→Option (Ex×St)} (hf:∀s,Le (f s) (g s)):∀(n m:Nat),n ≤ m→∀s,Le (iter f n s) (iter g m s)
 | 0,_,_,s=>fun x hx=>by cases hx
 | n + 1,0,h,s=>by omega
 | n + 1,m + 1,h,s=>fun x hx=>by
  simp only [iter] at hx ⊢
  split at hx
  ·rename_i heq;rw [hf _ _ heq];exact qdF hf n m (by omega) _ _ hx
  ·rename_i hne
   rw [hf _ _ hx]
   split
   ·rename_i heq;cases heq;exact absurd hx (hne _)
   ·rfl
theorem qnA {p q:qN} {a b e a' b' e':Option (Ex×St)} (h1:Le a a') (h2:Le b b') (h3:Le e e'):Le (quT p q a b e) (quT p q a' b' e'):=fun x hx=>by
 unfold quT at hx
 split at hx
 ·rename_i s0 s1 s2
  rw [h1 _ rfl,h2 _ rfl,h3 _ rfl]
  exact hx
 ·cases hx
theorem qx (hc:CLe c d) {n m:Nat} (hnm:n ≤ m):∀(a:qG) (s:St),Le (qaV n base c a s) (qaV m base d a s)
 | .skip,s=>fun x hx=>hx
 | .reg ops,s=>qbH hc ops _ s
 | .draw ops,s=>qar hc _ ops _ s
 | .draw2 c a b r,s=>qnA (qar hc _ _ _ s) (qar hc _ _ _ s) (qar hc _ _ _ s)
 | .seq a b,s=>fun x hx=>by
  simp only [qaV] at hx ⊢
  split at hx
  ·rename_i heq;rw [qx hc hnm a _ _ heq];exact qx hc hnm b _ _ hx
  ·rename_i hne
   rw [qx hc hnm a _ _ hx]
   split
   ·rename_i heq;cases heq;exact absurd hx (hne _)
   ·rfl
 | .cond q a b,s=>fun x hx=>by
  simp only [qaV] at hx ⊢
  split at hx
  ·exact qx hc hnm a _ _ hx
  ·exact qx hc hnm b _ _ hx
  ·cases hx
 | .block id b,s=>fun x hx=>by
  simp only [qaV] at hx ⊢
  split at hx
  ·rename_i heq;rw [qx hc hnm b _ _ heq];exact hx
  ·rename_i hne
   rw [qx hc hnm b _ _ hx]
   split
   ·rename_i heq;cases heq;exact absurd hx (hne _ _)
   ·rfl
 | .loop b,s=>fun x hx=>by
  simp only [qaV] at hx ⊢
  exact qdF (fun s=>qx hc hnm b s) n m hnm s x hx
 | .exit id,s=>fun x hx=>hx
 | .ret,s=>fun x hx=>hx
 | .rfun f ps asg body,s=>fun x hx=>by
  simp only [qaV] at hx ⊢
  split at hx
  ·split at hx
   ·rename_i heq;rw [hc _ _ _ _ heq];exact hx
   ·rename_i heq;rw [hc _ _ _ _ heq];exact hx
   ·cases hx
  ·cases hx
theorem qd3 (hc:CLe c d) {n m:Nat} (hnm:n ≤ m) {l:Nat} {args:List qa} {h:List qf}:Le (round n c l args h) (round m d l args h):=fun x hx=>by
 simp only [round] at hx ⊢
 split at hx
 ·split at hx
  ·cases hx
  ·rename_i hl
   rw [if_neg hl]
   split at hx
   ·rename_i heq
    rw [qx hc hnm _ _ _ heq]
    simp only
    split at hx
    ·split at hx
     ·rename_i heq2
      rw [qx hc hnm _ _ _ heq2]
      exact hx
     ·cases hx
    ·cases hx
   ·cases hx
 ·cases hx
theorem qcq (hc:CLe c d) {n m:Nat} (hnm:n ≤ m) {df:qch} {v:qa} {cv:List qa} {s:St}:Le (qd8 n c df v cv s) (qd8 m d df v cv s):=fun x hx=>by
 simp only [qd8] at hx ⊢
 split at hx
 ·rename_i heq
  rw [qbH hc _ _ _ _ heq]
  dsimp only
  split at hx
  ·rename_i heq2;rw [qx hc hnm _ _ _ heq2];exact hx
  ·rename_i heq2;rw [qx hc hnm _ _ _ heq2];exact hx
  ·cases hx
 ·cases hx
theorem qcY (hc:CLe c d) {n m:Nat} (hnm:n ≤ m) {df:qch}:∀(b:qdx) (s:St),Le (qcX n base c df b s) (qcX m base d df b s)
 | .pre a r,s=>fun x hx=>by
  simp only [qcX] at hx ⊢
  split at hx
  ·rename_i heq;rw [qx hc hnm _ _ _ heq];exact qcY hc hnm r _ _ hx
  ·cases hx
  ·rename_i h1 h2
   rw [qx hc hnm _ _ _ hx]
   split
   ·rename_i heq;cases heq;exact absurd hx (h1 _)
   ·rename_i heq;cases heq;exact absurd hx (h2 _ _)
   ·rfl
 | .dfr f caps slot rest,s=>fun x hx=>by
  simp only [qcX] at hx ⊢
  split at hx
  ·split at hx
   ·rename_i hg
    rw [if_pos hg]
    split at hx
    ·rename_i heq;rw [qx hc hnm _ _ _ heq];exact qcq hc hnm _ hx
    ·rename_i heq;rw [qx hc hnm _ _ _ heq];exact qcq hc hnm _ hx
    ·rename_i heq;rw [qx hc hnm _ _ _ heq];exact qcq hc hnm _ hx
    ·cases hx
   ·cases hx
  ·cases hx
theorem qlS (hc:CLe c d) {n m:Nat} (hnm:n ≤ m) {g:qie} {aS:List qa} {h:List qf}:Le (qeq n g c aS h) (qeq m g d aS h):=fun x hx=>by
 simp only [qeq] at hx ⊢
 split at hx
 ·rename_i heq;rw [qcY hc hnm _ _ _ heq];exact hx
 ·rename_i heq;rw [qcY hc hnm _ _ _ heq];exact hx
 ·rename_i heq;rw [qcY hc hnm _ _ _ heq];exact hx
 ·cases hx
end
def qvA (X:qf3):Prop:=∀f g,X f = some g→∀c d,CLe c d→∀aS h,Le (g c aS h) (g d aS h)
theorem quh {F:FuncId→Option qE} {X:qf3} (hX:qvA X) {n m:Nat} (hnm:n ≤ m) (hc:CLe (run F X n) (run F X m)):CLe (run F X (n + 1)) (run F X (m + 1)):=fun fv aS h x hx=>by
 simp only [run] at hx ⊢
 split at hx
 ·split at hx
  ·rename_i hg
   exact hX _ _ hg _ _ hc _ _ _ hx
  ·split at hx
   ·cases hx
   ·split at hx
    ·rename_i heq;rw [qx hc hnm _ _ _ heq];exact hx
    ·rename_i heq;rw [qx hc hnm _ _ _ heq];exact hx
    ·rename_i heq;rw [qx hc hnm _ _ _ heq];exact hx
    ·cases hx
 ·exact qd3 hc hnm _ hx
 ·cases hx
theorem qeZ {F:FuncId→Option qE} {X:qf3} (hX:qvA X):∀n m:Nat,n ≤ m→CLe (run F X n) (run F X m)
 | 0,_,_=>fun _ _ _ x hx=>by cases hx
 | n + 1,0,h=>by omega
 | n + 1,m + 1,h=>quh hX (by omega) (qeZ hX n m (by omega))
section
variable {c:Nat→Call} {base:Nat}
theorem qd4 (hc:qdw c) {p:qco} {dst:Option Nat} {o:AOp} {s:St} {x:Ex×St} (hx:qq base (qng c) p dst o s = some x):∃k,qq base (c k) p dst o s = some x:=by
 cases o
 case call f args=>
  simp only [qq] at hx ⊢
  split at hx
  ·rename_i heq;obtain ⟨k,hk⟩:=(qdY hc _).1 heq;exact ⟨k,by rw [hk];exact hx⟩
  ·rename_i heq;obtain ⟨k,hk⟩:=(qdY hc _).1 heq;exact ⟨k,by rw [hk];exact hx⟩
  ·cases hx
 all_goals exact ⟨0,hx⟩
theorem qdn (hc:qdw c):∀(ops:List qY) (p:qco) (s:St) (x:Ex×St),qaK base (qng c) p ops s = some x→∃k,qaK base (c k) p ops s = some x
 | [],p,s,x,hx=>⟨0,hx⟩
 | o :: os,p,s,x,hx=>by
  simp only [qaK] at hx ⊢
  split at hx
  ·split at hx
   ·rename_i heq
    obtain ⟨k1,h1⟩:=qd4 hc heq
    obtain ⟨k2,h2⟩:=qdn hc os _ _ _ hx
    refine ⟨max k1 k2,?_⟩
    rw [qbL (hc k1 _ (Nat.le_max_left ..)) _ h1]
    exact qbH (hc k2 _ (Nat.le_max_right ..)) _ _ _ _ h2
   ·rename_i hne
    obtain ⟨k1,h1⟩:=qd4 hc hx
    refine ⟨k1,?_⟩
    rw [h1]
    split
    ·rename_i heq;cases heq;exact absurd hx (hne _)
    ·rfl
  ·exact qdn hc os _ _ _ hx
  ·cases hx
theorem qba (hc:qdw c) (dsts:List Nat):∀(ops:List qN) (pend:List (Nat×Chk)) (s:St) (x:Ex×St),qK base (qng c) dsts ops pend s = some x→∃k,qK base (c k) dsts ops pend s = some x
 | [],p,s,x,hx=>⟨0,hx⟩
 | o :: os,p,s,x,hx=>by
  simp only [qK] at hx ⊢
  split at hx
  ·split at hx
   ·rename_i heq
    obtain ⟨k1,h1⟩:=qd4 hc heq
    split at hx
    ·rename_i he
     split at hx
     ·rename_i hp
      obtain ⟨k2,h2⟩:=qba hc dsts os _ _ _ hx
      refine ⟨max k1 k2,?_⟩
      rw [qbL (hc k1 _ (Nat.le_max_left ..)) _ h1]
      simp only
      rw [if_pos he,if_pos hp]
      exact qar (hc k2 _ (Nat.le_max_right ..)) dsts _ _ _ _ h2
     ·cases hx
    ·rename_i he
     split at hx
     ·obtain ⟨k2,h2⟩:=qba hc dsts os _ _ _ hx
      rename_i hk
      refine ⟨max k1 k2,?_⟩
      rw [qbL (hc k1 _ (Nat.le_max_left ..)) _ h1]
      simp only
      rw [if_neg he]
      exact qar (hc k2 _ (Nat.le_max_right ..)) dsts _ _ _ _ h2
     ·obtain ⟨k2,h2⟩:=qba hc dsts os _ _ _ hx
      refine ⟨max k1 k2,?_⟩
      rw [qbL (hc k1 _ (Nat.le_max_left ..)) _ h1]
      simp only
      rw [if_neg he]
      exact qar (hc k2 _ (Nat.le_max_right ..)) dsts _ _ _ _ h2
   ·rename_i heq;obtain ⟨k1,h1⟩:=qd4 hc heq;exact ⟨k1,by rw [h1];exact hx⟩
   ·cases hx
  ·exact qba hc dsts os _ _ _ hx
  ·cases hx
theorem qiJ {f:St→Option (Ex×St)} {g:Nat→St→Option (Ex×St)} (hg:∀n m,n ≤ m→∀s,Le (g n s) (g m s)) (hf:∀s x,f s = some x→∃k,g k s = some x):∀(n:Nat) (s:St) (x:Ex×St),iter f n s = some x→∃k,iter (g k) n s = some x
 | 0,s,x,hx=>by cases hx
 | n + 1,s,x,hx=>by
  simp only [iter] at hx ⊢
  split at hx
  ·rename_i heq
   obtain ⟨k1,h1⟩:=hf _ _ heq
   obtain ⟨k2,h2⟩:=qiJ hg hf n _ _ hx
   refine ⟨max k1 k2,?_⟩
   rw [hg k1 _ (Nat.le_max_left ..) _ _ h1]
   exact qdF (hg k2 _ (Nat.le_max_right ..)) n n (Nat.le_refl _) _ _ h2
  ·rename_i hne
   obtain ⟨k1,h1⟩:=hf _ _ hx
   refine ⟨k1,?_⟩
   rw [h1]
   split
   ·rename_i heq;cases heq;exact absurd hx (hne _)
   ·rfl
theorem qaB (hc:qdw c) {n:Nat}:∀(a:qG) (s:St) (x:Ex×St),qaV n base (qng c) a s = some x→∃k,qaV n base (c k) a s = some x
 | .skip,s,x,hx=>⟨0,hx⟩
 | .reg ops,s,x,hx=>qdn hc ops _ s x hx
 | .draw ops,s,x,hx=>qba hc _ ops _ s x hx
 | .draw2 c0 a0 b0 r0,s,x,hx=>by
  simp only [qaV] at hx ⊢
  unfold quT at hx
  split at hx
  ·rename_i s0 s1 s2 e0 e1 e2
   obtain ⟨k0,h0⟩:=qba hc _ _ _ s _ e0
   obtain ⟨k1,h1⟩:=qba hc _ _ _ s _ e1
   obtain ⟨k2,h2⟩:=qba hc _ _ _ s _ e2
   refine ⟨max k0 (max k1 k2),?_⟩
   rw [qar (hc k0 _ (Nat.le_max_left ..)) _ _ _ s _ h0,qar (hc k1 _ (Nat.le_trans (Nat.le_max_left ..) (Nat.le_max_right ..))) _ _ _ s _ h1,qar (hc k2 _ (Nat.le_trans (Nat.le_max_right ..) (Nat.le_max_right ..))) _ _ _ s _ h2]
   exact hx
  ·cases hx
 | .seq a b,s,x,hx=>by
  simp only [qaV] at hx ⊢
  split at hx
  ·rename_i heq
   obtain ⟨k1,h1⟩:=qaB hc a _ _ heq
   obtain ⟨k2,h2⟩:=qaB hc b _ _ hx
   refine ⟨max k1 k2,?_⟩
   rw [qx (hc k1 _ (Nat.le_max_left ..)) (Nat.le_refl _) _ _ _ h1]
   exact qx (hc k2 _ (Nat.le_max_right ..)) (Nat.le_refl _) _ _ _ h2
  ·rename_i hne
   obtain ⟨k1,h1⟩:=qaB hc a _ _ hx
   refine ⟨k1,?_⟩
   rw [h1]
   split
   ·rename_i heq;cases heq;exact absurd hx (hne _)
   ·rfl
 | .cond q a b,s,x,hx=>by
  simp only [qaV] at hx ⊢
  split at hx
  ·exact qaB hc a _ _ hx
  ·exact qaB hc b _ _ hx
  ·cases hx
 | .block id b,s,x,hx=>by
  simp only [qaV] at hx ⊢
  split at hx
  ·rename_i heq
   obtain ⟨k1,h1⟩:=qaB hc b _ _ heq
   exact ⟨k1,by rw [h1];exact hx⟩
  ·rename_i hne
   obtain ⟨k1,h1⟩:=qaB hc b _ _ hx
   refine ⟨k1,?_⟩
   rw [h1]
   split
   ·rename_i heq;cases heq;exact absurd hx (hne _ _)
   ·rfl
 | .loop b,s,x,hx=>by
  simp only [qaV] at hx ⊢
  exact qiJ (g:=fun k=>qaV n base (c k) b) (fun i j hij s=>qx (hc i j hij) (Nat.le_refl _) b s) (fun s x h=>qaB hc b s x h) n s x hx
 | .exit id,s,x,hx=>⟨0,hx⟩
 | .ret,s,x,hx=>⟨0,hx⟩
 | .rfun f ps asg body,s,x,hx=>by
  simp only [qaV] at hx ⊢
  split at hx
  ·split at hx
   ·rename_i heq;obtain ⟨k,hk⟩:=(qdY hc _).1 heq;exact ⟨k,by rw [hk];exact hx⟩
   ·rename_i heq;obtain ⟨k,hk⟩:=(qdY hc _).1 heq;exact ⟨k,by rw [hk];exact hx⟩
   ·cases hx
  ·cases hx
theorem qmX (hc:qdw c) {n:Nat} {l:Nat} {args:List qa} {h:List qf} {x:qcD×List qf×Bool} (hx:round n (qng c) l args h = some x):∃k,round n (c k) l args h = some x:=by
 simp only [round] at hx ⊢
 split at hx
 ·split at hx
  ·cases hx
  ·rename_i hl
   split at hx
   ·rename_i heq
    obtain ⟨k1,h1⟩:=qaB hc _ _ _ heq
    split at hx
    ·rename_i hb
     split at hx
     ·rename_i heq2
      obtain ⟨k2,h2⟩:=qaB hc _ _ _ heq2
      refine ⟨max k1 k2,?_⟩
      rw [if_neg hl,qx (hc k1 _ (Nat.le_max_left ..)) (Nat.le_refl _) _ _ _ h1]
      simp only [hb]
      rw [qx (hc k2 _ (Nat.le_max_right ..)) (Nat.le_refl _) _ _ _ h2]
      exact hx
     ·cases hx
    ·cases hx
   ·cases hx
 ·cases hx
theorem qfd (hc:qdw c) {n:Nat} {df:qch} {v:qa} {cv:List qa} {s:St} {x:Ex×St} (hx:qd8 n (qng c) df v cv s = some x):∃k,qd8 n (c k) df v cv s = some x:=by
 simp only [qd8] at hx ⊢
 split at hx
 ·rename_i heq
  obtain ⟨k1,h1⟩:=qdn hc _ _ _ _ heq
  split at hx
  ·rename_i heq2
   obtain ⟨k2,h2⟩:=qaB hc _ _ _ heq2
   refine ⟨max k1 k2,?_⟩
   rw [qbH (hc k1 _ (Nat.le_max_left ..)) _ _ _ _ h1]
   simp only
   rw [qx (hc k2 _ (Nat.le_max_right ..)) (Nat.le_refl _) _ _ _ h2]
   exact hx
  ·rename_i heq2
   obtain ⟨k2,h2⟩:=qaB hc _ _ _ heq2
   refine ⟨max k1 k2,?_⟩
   rw [qbH (hc k1 _ (Nat.le_max_left ..)) _ _ _ _ h1]
   simp only
   rw [qx (hc k2 _ (Nat.le_max_right ..)) (Nat.le_refl _) _ _ _ h2]
   exact hx
  ·cases hx
 ·cases hx
theorem qdX (hc:qdw c) {n:Nat} {df:qch}:∀(b:qdx) (s:St) (x:Ex×St),qcX n base (qng c) df b s = some x→∃k,qcX n base (c k) df b s = some x
 | .pre a r,s,x,hx=>by
  simp only [qcX] at hx ⊢
  split at hx
  ·rename_i heq
   obtain ⟨k1,h1⟩:=qaB hc _ _ _ heq
   obtain ⟨k2,h2⟩:=qdX hc r _ _ hx
   refine ⟨max k1 k2,?_⟩
   rw [qx (hc k1 _ (Nat.le_max_left ..)) (Nat.le_refl _) _ _ _ h1]
   exact qcY (hc k2 _ (Nat.le_max_right ..)) (Nat.le_refl _) _ _ _ h2
  ·cases hx
  ·rename_i h1 h2
   obtain ⟨k1,h3⟩:=qaB hc _ _ _ hx
   refine ⟨k1,?_⟩
   rw [h3]
   split
   ·rename_i heq;cases heq;exact absurd hx (h1 _)
   ·rename_i heq;cases heq;exact absurd hx (h2 _ _)
   ·rfl
 | .dfr f caps slot rest,s,x,hx=>by
  simp only [qcX] at hx ⊢
  split at hx
  ·split at hx
   ·rename_i hg
    simp only [if_pos hg]
    split at hx
    ·rename_i heq
     obtain ⟨k1,h1⟩:=qaB hc _ _ _ heq
     obtain ⟨k2,h2⟩:=qfd hc hx
     refine ⟨max k1 k2,?_⟩
     rw [qx (hc k1 _ (Nat.le_max_left ..)) (Nat.le_refl _) _ _ _ h1]
     exact qcq (hc k2 _ (Nat.le_max_right ..)) (Nat.le_refl _) _ h2
    ·rename_i heq
     obtain ⟨k1,h1⟩:=qaB hc _ _ _ heq
     obtain ⟨k2,h2⟩:=qfd hc hx
     refine ⟨max k1 k2,?_⟩
     rw [qx (hc k1 _ (Nat.le_max_left ..)) (Nat.le_refl _) _ _ _ h1]
     exact qcq (hc k2 _ (Nat.le_max_right ..)) (Nat.le_refl _) _ h2
    ·rename_i heq
     obtain ⟨k1,h1⟩:=qaB hc _ _ _ heq
     obtain ⟨k2,h2⟩:=qfd hc hx
     refine ⟨max k1 k2,?_⟩
     rw [qx (hc k1 _ (Nat.le_max_left ..)) (Nat.le_refl _) _ _ _ h1]
     exact qcq (hc k2 _ (Nat.le_max_right ..)) (Nat.le_refl _) _ h2
    ·cases hx
   ·cases hx
  ·cases hx
theorem qlR (hc:qdw c) {n:Nat} {g:qie} {aS:List qa} {h:List qf} {x:qcD×List qf×Bool} (hx:qeq n g (qng c) aS h = some x):∃k,qeq n g (c k) aS h = some x:=by
 simp only [qeq] at hx ⊢
 split at hx
 ·rename_i heq;obtain ⟨k1,h1⟩:=qdX hc _ _ _ heq;exact ⟨k1,by rw [h1];exact hx⟩
 ·rename_i heq;obtain ⟨k1,h1⟩:=qdX hc _ _ _ heq;exact ⟨k1,by rw [h1];exact hx⟩
 ·rename_i heq;obtain ⟨k1,h1⟩:=qdX hc _ _ _ heq;exact ⟨k1,by rw [h1];exact hx⟩
 ·cases hx
end
noncomputable def qo (base:Nat) (call:Call) (a:qG) (s:St):Option (Ex×St):=lim fun n=>qaV n base call a s
noncomputable def qi0 (call:Call) (l:Nat) (args:List qa) (h:List qf):Option (qcD×List qf×Bool):=lim fun n=>round n call l args h
section
variable {base:Nat} {call:Call}
theorem q8 {a:qG} {s:St} (x:Ex×St):qo base call a s = some x↔∃n,qaV n base call a s = some x:=
 qhO (fun n m hnm=>qx (CLe.refl _) hnm a s) x
theorem qlO (s:St):qo base call .skip s = some (.nor,s):=qcz _
theorem qgg (ops:List qY) (s:St):qo base call (.reg ops) s = qaK base call [] ops s:=qcz _
theorem qlL (ops:List qN) (s:St):qo base call (.draw ops) s = qK base call (ops.filterMap (·.o.dst)) ops [] s:=qcz _
theorem qlM (id:Nat) (s:St):qo base call (.exit id) s = some (.exit id,s):=qcz _
theorem qoC (s:St):qo base call .ret s = some (.ret,s):=qcz _
def qbN (f:St→Option (Ex×St)):Option (Ex×St)→Option (Ex×St)
 | some (.nor,s)=>f s
 | r=>r
theorem qoD (a b:qG) (s:St):qo base call (.seq a b) s = qbN (qo base call b) (qo base call a s):=by
 apply Option.ext
 intro x
 rw [q8]
 constructor
 ·rintro ⟨n,h⟩
  simp only [qaV] at h
  split at h
  ·rename_i heq
   rw [(q8 _).2 ⟨n,heq⟩]
   exact (q8 _).2 ⟨n,h⟩
  ·rename_i hne
   rw [(q8 _).2 ⟨n,h⟩]
   unfold qbN
   split
   ·rename_i heq;cases heq;exact absurd h (hne _)
   ·rfl
 ·intro h
  unfold qbN at h
  split at h
  ·rename_i heq
   obtain ⟨n1,h1⟩:=(q8 _).1 heq
   obtain ⟨n2,h2⟩:=(q8 _).1 h
   refine ⟨max n1 n2,?_⟩
   simp only [qaV]
   rw [qx (CLe.refl _) (Nat.le_max_left n1 n2) _ _ _ h1]
   exact qx (CLe.refl _) (Nat.le_max_right n1 n2) _ _ _ h2
  ·rename_i hne
   obtain ⟨n1,h1⟩:=(q8 _).1 h
   refine ⟨n1,?_⟩
   simp only [qaV]
   rw [h1]
   split
   ·rename_i heq;cases heq;exact absurd h (hne _)
   ·rfl
theorem qlK (q:qk) (a b:qG) (s:St):qo base call (.cond q a b) s = match ev s.t q with
  | .bool true=>qo base call a s
  | .bool false=>qo base call b s
  | _=>none:=by
 simp only [qo,qaV]
 generalize ev s.t q = v
 cases v with
 | bool b=>cases b <;> rfl
 | _=>exact qcz _
def qce (id:Nat):Option (Ex×St)→Option (Ex×St)
 | some (.exit j,s)=>if j = id then some (.nor,s) else some (.exit j,s)
 | r=>r
theorem qjJ (id:Nat) (b:qG) (s:St):qo base call (.block id b) s = qce id (qo base call b s):=by
 apply Option.ext
 intro x
 rw [q8]
 constructor
 ·rintro ⟨n,h⟩
  simp only [qaV] at h
  split at h
  ·rename_i heq
   rw [(q8 _).2 ⟨n,heq⟩]
   exact h
  ·rename_i hne
   rw [(q8 _).2 ⟨n,h⟩]
   unfold qce
   split
   ·rename_i heq;cases heq;exact absurd h (hne _ _)
   ·rfl
 ·intro h
  unfold qce at h
  split at h
  ·rename_i heq
   obtain ⟨n1,h1⟩:=(q8 _).1 heq
   refine ⟨n1,?_⟩
   simp only [qaV]
   rw [h1]
   exact h
  ·rename_i hne
   obtain ⟨n1,h1⟩:=(q8 _).1 h
   refine ⟨n1,?_⟩
   simp only [qaV]
   rw [h1]
   split
   ·rename_i heq;cases heq;exact absurd h (hne _ _)
   ·rfl
theorem qm (b:qG) (s:St):qo base call (.loop b) s = qbN (qo base call (.loop b)) (qo base call b s):=by
 apply Option.ext
 intro x
 rw [q8]
 constructor
 ·rintro ⟨n,h⟩
  simp only [qaV] at h
  cases n with
  | zero=>cases h
  | succ n=>
   simp only [iter] at h
   split at h
   ·rename_i heq
    rw [(q8 _).2 ⟨n + 1,heq⟩]
    exact (q8 _).2 ⟨n + 1,qdF (fun s=>Le.refl _) n (n + 1) (by omega) _ _ h⟩
   ·rename_i hne
    rw [(q8 _).2 ⟨n + 1,h⟩]
    unfold qbN
    split
    ·rename_i heq;cases heq;exact absurd h (hne _)
    ·rfl
 ·intro h
  unfold qbN at h
  split at h
  ·rename_i heq
   obtain ⟨n1,h1⟩:=(q8 _).1 heq
   obtain ⟨n2,h2⟩:=(q8 _).1 h
   refine ⟨max n1 n2 + 1,?_⟩
   simp only [qaV,iter] at h2 ⊢
   rw [qx (CLe.refl _) (show n1 ≤ max n1 n2 + 1 by omega) _ _ _ h1]
   exact qdF (fun s=>qx (CLe.refl _) (show n2 ≤ max n1 n2 + 1 by omega) b s) n2 (max n1 n2) (by omega) _ _ h2
  ·rename_i hne
   obtain ⟨n1,h1⟩:=(q8 _).1 h
   refine ⟨n1 + 1,?_⟩
   simp only [qaV,iter]
   rw [qx (CLe.refl _) (Nat.le_succ n1) _ _ _ h1]
   split
   ·rename_i heq;cases heq;exact absurd h (hne _)
   ·rfl
theorem qlN (f:qk) (ps:List Nat) (asg body:qG) (s:St):qo base call (.rfun f ps asg body) s = qaV 0 base call (.rfun f ps asg body) s:=by
 rw [qo]
 exact qcz _
theorem qhm {l:Nat} {args:List qa} {h:List qf} (x:qcD×List qf×Bool):qi0 call l args h = some x↔∃n,round n call l args h = some x:=
 qhO (fun n m hnm=>qd3 (CLe.refl _) hnm) x
def qh1 (base l:Nat) (t:List qa) (ps:List Nat) (asg body:qG) (s:St):Ex→Option (qcD×List qf×Bool)
 | .nor=>some (qaQ base (.ret (.bool true)) (s.h.set l (.loop t ps asg body .ready none)) s.e)
 | .ret=>some (qaQ base (.ret (.bool false)) (s.h.set l (.loop t ps asg body .done (some .ret))) s.e)
 | .exit id=>some (qaQ base (.ret (.bool false)) (s.h.set l (.loop t ps asg body .done (some (.exit id)))) s.e)
 | .pan _=>none
theorem qi1 {l:Nat} {args:List qa} {h:List qf} {t:List qa} {ps:List Nat} {asg body:qG} {st:LSt} {pend:Option qrX} {s:St} {t1:List qa} {ps1:List Nat} {asg1 body1:qG} {pend1:Option qrX} {x:Ex} {s2:St} {t2:List qa} {ps2:List Nat} {asg2 body2:qG} {st2:LSt} {pend2:Option qrX} {r:qcD×List qf×Bool}
  (h0:h[l]? = some (.loop t ps asg body st pend)) (hl:args.length = ps.length) (h1:qo h.length call asg ⟨qic t ps (args.map qa.dim),h,false⟩ = some (.nor,s))
  (h2:s.h[l]? = some (.loop t1 ps1 asg1 body1 .ready pend1)) (h3:qo h.length call body { s with h:=s.h.set l (.loop t1 ps1 asg1 body1 .busy pend1)} = some (x,s2))
  (h4:s2.h[l]? = some (.loop t2 ps2 asg2 body2 st2 pend2))
  (h5:qh1 h.length l t2 ps2 asg2 body2 s2 x = some r):qi0 call l args h = some r:=by
 obtain ⟨n1,e1⟩:=(q8 _).1 h1
 obtain ⟨n2,e2⟩:=(q8 _).1 h3
 refine (qhm _).2 ⟨max n1 n2,?_⟩
 simp only [round,h0]
 rw [if_neg (by simp [hl]),qx (CLe.refl _) (Nat.le_max_left n1 n2) _ _ _ e1]
 simp only [h2]
 rw [qx (CLe.refl _) (Nat.le_max_right n1 n2) _ _ _ e2]
 simp only [h4]
 cases x <;> exact h5
end
section
variable {F:FuncId→Option qE} {X:qf3}
noncomputable def W (F:FuncId→Option qE) (X:qf3):Call:=qng (run F X)
structure qlo (X:qf3):Prop where
 mono:qvA X
 cont:∀f g,X f = some g→∀c,qdw c→∀aS h x,g (qng c) aS h = some x→∃k,g (c k) aS h = some x
theorem qr3 (hX:qlo X) {fv:qa} {aS:List qa} {h:List qf} (x:qcD×List qf×Bool):W F X fv aS h = some x↔∃n,run F X n fv aS h = some x:=
 qdY (qeZ hX.mono) x
theorem qDj (hX:qlo X) {f:FuncId} {first args cap:List qa} {h:List qf} {fn:qE} (h1:X f = none) (h2:F f = some fn) :
  W F X (.fn f first cap) args h = qjG fn h (qo h.length (W F X) fn.code ⟨(first ++ args ++ cap).map qa.dim ++ List.replicate (fn.ntmps - ((first ++ args ++ cap).map qa.dim).length) (.tup []),h,false⟩):=by
 have hch:=qeZ (F:=F) hX.mono
 apply Option.ext
 intro x
 rw [qr3 hX]
 constructor
 ·rintro ⟨n,hn⟩
  cases n with
  | zero=>cases hn
  | succ n=>
   rw [qvs h1 h2] at hn
   cases hq:qaV n h.length (run F X n) fn.code ⟨(first ++ args ++ cap).map qa.dim ++ List.replicate (fn.ntmps - ((first ++ args ++ cap).map qa.dim).length) (.tup []),h,false⟩ with
   | none=>rw [hq] at hn;cases hn
   | some y=>
    rw [hq] at hn
    have e:=(q8 y).2 ⟨n,qx (qj5 hch n) (Nat.le_refl _) _ _ _ hq⟩
    rw [W,e]
    exact hn
 ·intro hn
  cases hq:qo h.length (W F X) fn.code ⟨(first ++ args ++ cap).map qa.dim ++ List.replicate (fn.ntmps - ((first ++ args ++ cap).map qa.dim).length) (.tup []),h,false⟩ with
  | none=>rw [hq] at hn;cases hn
  | some y=>
   rw [hq] at hn
   obtain ⟨k,hk⟩:=(q8 y).1 hq
   obtain ⟨m,hm⟩:=qaB hch _ _ _ hk
   refine ⟨max k m + 1,?_⟩
   rw [qvs h1 h2,qx (hch m _ (Nat.le_max_right k m)) (Nat.le_max_left k m) _ _ _ hm]
   exact hn
theorem qhx (hX:qlo X) {f:FuncId} {first args cap:List qa} {h:List qf} {g:Call→List qa→List qf→Option (qcD×List qf×Bool)} (h1:X f = some g) :
  W F X (.fn f first cap) args h = g (W F X) (first ++ args ++ cap) h:=by
 have hch:=qeZ (F:=F) hX.mono
 apply Option.ext
 intro x
 rw [qr3 hX]
 constructor
 ·rintro ⟨n,hn⟩
  cases n with
  | zero=>cases hn
  | succ n=>
   rw [qrh h1] at hn
   exact hX.mono f g h1 _ _ (qj5 hch n) _ _ _ hn
 ·intro hn
  obtain ⟨k,hk⟩:=hX.cont f g h1 _ hch _ _ _ hn
  exact ⟨k + 1,by rw [qrh h1];exact hk⟩
theorem qyJ (hX:qlo X) {l:Nat} {args:List qa} {h:List qf}:W F X (.yld l) args h = qi0 (W F X) l args h:=by
 have hch:=qeZ (F:=F) hX.mono
 apply Option.ext
 intro x
 rw [qr3 hX,qhm]
 constructor
 ·rintro ⟨n,hn⟩
  cases n with
  | zero=>cases hn
  | succ n=>exact ⟨n,qd3 (qj5 hch n) (Nat.le_refl _) _ hn⟩
 ·rintro ⟨k,hk⟩
  obtain ⟨m,hm⟩:=qmX hch hk
  exact ⟨max k m + 1,qd3 (hch m _ (Nat.le_max_right k m)) (Nat.le_max_left k m) _ hm⟩
end
end Go.AE
namespace Go.AE
def lkp (t:List qa) (i:Nat):qa:=t.getD i .undef
section
variable {base:Nat} {call:Call} {p:qco} {s:St} {t:List qa} {h:List qf}
theorem qDB (t:List qa) (i:Nat):ev t (.t i) = (lkp t i).dim:=rfl
theorem qDA (t:List qa) (v:qa):ev t (.c v) = v.dim:=rfl
theorem qCs (t:List qa) (i:Nat):raw t (.t i) = lkp t i:=rfl
theorem qCr (t:List qa) (v:qa):raw t (.c v) = v:=rfl
def up (t:List qa) (i:Nat) (v:qa):List qa:=t.set i v
theorem qj (t:List qa) (i:Nat) (v:qa):(up t i v).length = t.length:=by simp [up]
theorem qxb {i:Nat} {v:qa} (h:i < t.length):lkp (up t i v) i = v:=by simp [lkp,up,List.getD,h]
theorem qxc {i j:Nat} {v:qa} (h:i ≠ j):lkp (up t i v) j = lkp t j:=by simp [lkp,up,List.getD,List.getElem?_set_ne h]
theorem qqe (a:qa) (t:List qa):lkp (a :: t) 0 = a:=rfl
theorem qqd (a:qa) (t:List qa) (i:Nat):lkp (a :: t) (i + 1) = lkp t i:=rfl
theorem qhZ (d:Nat) (v:qa) (t:List qa):put (some d) v t = up t d v:=rfl
theorem quc (v:qa) (t:List qa):put none v t = t:=rfl
theorem qoe:qa.undef.dim = .undef:=rfl
theorem qst (b:Bool):(qa.bool b).dim = .bool b:=rfl
theorem qwl (k:IntKind) (n:Int):(qa.int k n).dim = .int k n:=rfl
theorem qoc (s:List UInt8):(qa.str s).dim = .str s:=rfl
theorem qlB:qa.nilptr.dim = .nilptr:=rfl
theorem qob (i o:Nat):(qa.ptr i o).dim = .ptr i o:=rfl
theorem qsv (cs:List qa) (o:Nat):(qa.iptr cs o).dim = .iptr cs o:=rfl
theorem qze (xs:List qa):(qa.lst xs .no).dim = .lst xs .no:=rfl
theorem qsu (xs:List qa):(qa.lst xs .full).dim = .lst xs .full:=rfl
theorem qwm (xs:List qa) (k:Nat):(qa.lst xs (.own k)).dim = .lst xs .no:=rfl
theorem qjD:qa.nilfunc.dim = .nilfunc:=rfl
theorem qu1 (f:FuncId) (a b:List qa):(qa.fn f a b).dim = .fn f a b:=rfl
theorem qwn (i:Nat):(qa.yld i).dim = .yld i:=rfl
theorem qis:qa.niliface.dim = .niliface:=rfl
theorem qgd (t:TypeId) (v:qa):(qa.iface t v).dim = .iface t v:=rfl
theorem qwk (cs:List qa):(qa.agg cs).dim = .agg cs:=rfl
theorem qod (cs:List qa):(qa.tup cs).dim = .tup cs:=rfl
theorem qit (v:qa):v.dim.dim = v.dim:=by
 cases v with
 | lst xs f=>cases f <;> rfl
 | _=>rfl
def qfJ (dst:Option Nat) (s:St):Option qa→Option (Ex×St)
 | some v=>some (.nor,{ s with t:=put dst v s.t})
 | none=>none
theorem qra (dst:Option Nat) (t:List qa) (h:List qf) (e:Bool) (v:qa):qfJ dst ⟨t,h,e⟩ (some v) = some (.nor,⟨put dst v t,h,e⟩):=rfl
theorem qrH (f:St→Option (Ex×St)) (s:St):qbN f (some (.nor,s)) = f s:=rfl
theorem qrJ (f:St→Option (Ex×St)) (s:St):qbN f (some (.ret,s)) = some (.ret,s):=rfl
theorem qm7 (f:St→Option (Ex×St)) (id:Nat) (s:St):qbN f (some (.exit id,s)) = some (.exit id,s):=rfl
theorem qrI (f:St→Option (Ex×St)) (v:qa) (s:St):qbN f (some (.pan v,s)) = some (.pan v,s):=rfl
theorem qls (id:Nat) (s:St):qce id (some (.nor,s)) = some (.nor,s):=rfl
theorem qlu (id:Nat) (s:St):qce id (some (.ret,s)) = some (.ret,s):=rfl
theorem qlt (id:Nat) (v:qa) (s:St):qce id (some (.pan v,s)) = some (.pan v,s):=rfl
theorem qjr (id j:Nat) (s:St):qce id (some (.exit j,s)) = if j = id then some (.nor,s) else some (.exit j,s):=rfl
def qv9 (v:qa) (a b:Option (Ex×St)):Option (Ex×St):=
 match v with
 | .bool true=>a
 | .bool false=>b
 | _=>none
theorem qs4 (q:qk) (a b:qG) (s:St):qo base call (.cond q a b) s = qv9 (ev s.t q) (qo base call a s) (qo base call b s):=qlK q a b s
def qkW (v:qa) (b:Bool) (yes no:Option (Ex×St)):Option (Ex×St):=
 match v with
 | .bool c=>if c == b then yes else no
 | .tup []=>no
 | _=>none
theorem qxZ:qaK base call p [] s = some (.nor,s):=rfl
theorem qk8 (d:Option Nat) (o:AOp) (os:List qY):qaK base call p (⟨d,o,none⟩ :: os) s = qbN (qaK base call (qaJ p ⟨d,o,none⟩) os) (qq base call p d o s):=by
 simp only [qaK,wanted]
 unfold qbN
 split <;> split <;> simp_all
theorem qiY (d:Option Nat) (o:AOp) (j:Nat) (b:Bool) (os:List qY) :
  qaK base call p (⟨d,o,some (j,b)⟩ :: os) s = qkW (lkp s.t j) b (qbN (qaK base call (qaJ p ⟨d,o,some (j,b)⟩) os) (qq base call p d o s))
   (qaK base call (qaJ p { dst:=d,op:=.pick (.c .undef) (.c .undef) (.c .undef),guard:=some (j,b)}) os { s with t:=put d (.tup []) s.t}):=by
 simp only [qaK,wanted,lkp]
 generalize s.t.getD j .undef = v
 cases v with
 | bool c=>
  simp only [qkW]
  cases hc:c == b with
  | false=>simp
  | true=>
   simp only [if_true]
   unfold qbN
   split <;> split <;> simp_all
 | tup vs=>cases vs <;> rfl
 | _=>rfl
theorem qz6 (d:Option Nat) (x:qk):qq base call p d (.mov x) s = some (.nor,{ s with t:=put d (ev s.t x) s.t}):=rfl
theorem qzZ (d:Option Nat) (x:qk):qq base call p d (.asg x) s = some (.nor,{ s with t:=put d (raw s.t x) (qaF s.t x)}):=rfl
def qcm (v a b:qa):Option qa:=
 match v with
 | .bool true=>some a
 | .bool false=>some b
 | _=>none
theorem qmK (a b:qa):qcm (.bool true) a b = some a:=rfl
theorem qkg (a b:qa):qcm (.bool false) a b = some b:=rfl
theorem qqB (d:Option Nat) (c a b:qk):qq base call p d (.pick c a b) s = qfJ d s (qcm (ev s.t c) (ev s.t a) (ev s.t b)):=by
 simp only [qq,pureV]
 generalize ev s.t c = v
 cases v with
 | bool b=>cases b <;> rfl
 | _=>rfl
theorem qa3 (d:Option Nat) (o:AOp) (ho:o.effs = false) (h1:∀cs,o ≠ .new cs) (h2:∀k x,o ≠ .box k x) (h3:∀k x,o ≠ .ld k x) (h4:∀sh z ok m key,o ≠ .lk sh z ok m key:=by simp):qq base call p d o s = qfJ d s (pureV s.t o):=by
 cases o <;> first | exact absurd rfl (h4 _ _ _ _ _) | (simp [AOp.effs] at ho h1 h2 h3 <;> (simp only [qq];cases pureV s.t _ <;> rfl))
def faV (off:Nat):qa→Option qa
 | .ptr i o=>some (.ptr i (o + off))
 | .iptr cs o=>some (.iptr cs (o + off))
 | _=>none
theorem qwD (off i o:Nat):faV off (.ptr i o) = some (.ptr i (o + off)):=rfl
theorem qs9 (off o:Nat) (cs:List qa):faV off (.iptr cs o) = some (.iptr cs (o + off)):=rfl
theorem qz2 (d:Option Nat) (off:Nat) (a:qk):qq base call p d (.fa off a) s = qfJ d s (faV off (ev s.t a)):=by
 rw [qa3 _ _ rfl (by simp) (by simp) (by simp)]
 simp only [pureV]
 cases ev s.t a <;> rfl
theorem qvh (d:Option Nat) (op:BinOp) (x y:qk):qq base call p d (.bin op x y) s = qfJ d s (qcp op (ev s.t x) (ev s.t y)):=qa3 _ _ rfl (by simp) (by simp) (by simp)
theorem qAa (d:Option Nat) (op:UnOp) (x:qk):qq base call p d (.un op x) s = qfJ d s (unV op (ev s.t x)):=qa3 _ _ rfl (by simp) (by simp) (by simp)
def qgX:qa→Option qa
 | .ptr i o=>some (.ptr i o)
 | .iptr cs o=>some (.iptr cs o)
 | .fn f a b=>some (.fn f a b)
 | .yld l=>some (.yld l)
 | .iface u v=>some (.iface u v)
 | _=>none
theorem qqA (d:Option Nat) (x:qk):qq base call p d (.nilc x) s = qfJ d s (qgX (ev s.t x)):=by
 rw [qa3 _ _ rfl (by simp) (by simp) (by simp)]
 simp only [pureV]
 cases ev s.t x <;> rfl
theorem qqv (i o:Nat):qgX (.ptr i o) = some (.ptr i o):=rfl
theorem qmC (cs:List qa) (o:Nat):qgX (.iptr cs o) = some (.iptr cs o):=rfl
def qrT (b:Bool) (v:qa):Option qa:=
 match b,v with
 | true,.str s=>some (.int .i64 s.length)
 | false,.lst xs _=>some (.int .i64 xs.length)
 | false,.sl _ _ len _ _=>some (.int .i64 len)
 | false,.nils=>some (.int .i64 0)
 | false,.empt=>some (.int .i64 0)
 | _,_=>none
theorem qvo (d:Option Nat) (b:Bool) (x:qk):qq base call p d (.len b x) s = qfJ d s (qrT b (ev s.t x)):=by
 rw [qa3 _ _ rfl (by simp) (by simp) (by simp)]
 cases b <;> simp only [pureV] <;> cases ev s.t x <;> rfl
theorem qtH (s:List UInt8):qrT true (.str s) = some (.int .i64 s.length):=rfl
theorem qtG (xs:List qa) (f:qfQ):qrT false (.lst xs f) = some (.int .i64 xs.length):=rfl
def qc7 (k:Nat) (s i:qa):Option qa:=
 match s,i with
 | .lst xs _,.int _ n=>
  if 0 ≤ n∧n < xs.length then
   match xs[n.toNat]? with
   | some x=>if x.cells.length = k then some (.iptr x.cells 0) else none
   | none=>none
  else none
 | .sl id o len _ _,.int _ n=>if 0 ≤ n∧n < len then some (.ptr id (o + n.toNat * k)) else none
 | _,_=>none
theorem qqz (d:Option Nat) (k:Nat) (x i:qk):qq base call p d (.ixaL k x i) s = qfJ d s (qc7 k (ev s.t x) (ev s.t i)):=by
 rw [qa3 _ _ rfl (by simp) (by simp) (by simp)]
 simp only [pureV]
 cases ev s.t x <;> cases ev s.t i <;> rfl
theorem qF {k:Nat} {xs:List qa} {f:qfQ} {j:IntKind} {n:Nat} {x:qa} (hx:xs[n]? = some x) (hk:x.cells.length = k):qc7 k (.lst xs f) (.int j n) = some (.iptr x.cells 0):=by
 have hn:n < xs.length:=(List.getElem?_eq_some_iff.1 hx).1
 simp only [qc7,Int.toNat_natCast,hx]
 rw [if_pos ⟨by omega,by omega⟩,if_pos hk]
def qta (off:Nat) (k:Option Nat):qa→Option qa
 | .agg cs=>cut cs off k
 | _=>none
theorem qtb (off:Nat) (k:Option Nat) (cs:List qa):qta off k (.agg cs) = cut cs off k:=rfl
theorem qvl (d:Option Nat) (off:Nat) (k:Option Nat) (x:qk):qq base call p d (.fld off k x) s = qfJ d s (qta off k (ev s.t x)):=by
 rw [qa3 _ _ rfl (by simp) (by simp) (by simp)]
 simp only [pureV]
 cases ev s.t x <;> rfl
theorem qtY (d:Option Nat) (z:List qa) (ps:List (Nat×Nat×qk)):qq base call p d (.build z ps) s = qfJ d s ((qI z (ps.map fun (o,n,x)=>(o,n,ev s.t x))).map .agg):=qa3 _ _ rfl (by simp) (by simp) (by simp)
theorem qz7 (d:Option Nat) (cs:List qa):qq base call p d (.new cs) s = some (.nor,{ s with t:=put d (.ptr s.h.length 0) s.t,h:=s.h ++ [.cells (cs.map qa.dim)]}):=rfl
theorem qz3 (d:Option Nat) (k:Option Nat) (a:qk):qq base call p d (.ld k a) s = qfJ d s (qdh s.h (ev s.t a) k):=by
 simp only [qq]
 cases qdh s.h (ev s.t a) k <;> rfl
theorem qpO (cs:List qa) (o:Nat) (k:Option Nat):qdh h (.iptr cs o) k = cut cs o k:=rfl
theorem qkL (cs:List qa) (o:Nat):cut cs o none = (cs[o]?).map qa.dim:=rfl
theorem qhE {cs:List qa} {o k:Nat} (h:o + k ≤ cs.length):cut cs o (some k) = some (.agg (((cs.drop o).take k).map qa.dim)):=if_pos h
def stV (base:Nat) (k:Option Nat) (a v:qa) (h:List qf):Option (List qf×Bool):=
 match a with
 | .ptr id o=>
  match h[id]? with
  | some (.cells cs)=>
   let vs:=match k with | none=>[v] | some _=>v.dim.cells.map qa.dim
   if vs.length = k.getD 1∧o + vs.length ≤ cs.length∧vs.all qa.storable then
    some (h.set id (.cells (splice cs o vs)),!(Nat.ble base id || qy (id + 1) vs))
   else none
  | _=>none
 | _=>none
def stW (d:Option Nat) (t:List qa) (e:Bool):Option (List qf×Bool)→Option (Ex×St)
 | some (h,e')=>some (.nor,{ t:=put d .undef t,h,e:=e || e'})
 | none=>none
theorem qum (d:Option Nat) (t:List qa) (e e':Bool) (h:List qf):stW d t e (some (h,e')) = some (.nor,⟨put d .undef t,h,e || e'⟩):=rfl
theorem qCm (d:Option Nat) (k:Option Nat) (a x:qk):qq base call p d (.st k a x) s = stW d (qaF s.t x) s.e (stV base k (ev s.t a) (raw s.t x) s.h):=by
 simp only [qq,stV]
 cases ev s.t a with
 | ptr id o=>
  simp only
  cases s.h[id]? with
  | none=>rfl
  | some b=>
   cases b with
   | cells cs=>cases k <;> (simp only;split <;> rfl)
   | _=>rfl
 | _=>rfl
end
end Go.AE
namespace Go.AE
section
variable {base:Nat} {call:Call} {p:qco} {s:St} {t:List qa} {h:List qf}
def qv6 (d:Option Nat) (s:St):Option (qcD×List qf×Bool)→Option (Ex×St)
 | some (.ret v,h,e)=>some (.nor,{ t:=put d v.dim s.t,h,e:=s.e || e})
 | some (.pan v,h,e)=>some (.pan v,{ s with h,e:=s.e || e})
 | none=>none
theorem qxW (d:Option Nat) (f:qk) (args:List qk):qq base call p d (.call f args) s = qv6 d s (call (ev s.t f) (args.map (ev s.t)) s.h):=by
 simp only [qq]
 cases call (ev s.t f) (args.map (ev s.t)) s.h with
 | none=>rfl
 | some r=>obtain ⟨r,h,e⟩:=r;cases r <;> rfl
theorem qnF (d:Option Nat) (t:List qa) (h h':List qf) (e e':Bool) (v:qa):qv6 d ⟨t,h,e⟩ (some (.ret v,h',e')) = some (.nor,⟨put d v.dim t,h',e || e'⟩):=rfl
theorem qnE (d:Option Nat) (t:List qa) (h h':List qf) (e e':Bool) (v:qa):qv6 d ⟨t,h,e⟩ (some (.pan v,h',e')) = some (.pan v,⟨t,h',e || e'⟩):=rfl
theorem qgl (h l:List qf):(h ++ l)[h.length]? = l[0]?:=by rw [List.getElem?_append_right (Nat.le_refl _),Nat.sub_self]
theorem qbQ (h l:List qf) (k:Nat):(h ++ l)[h.length + k]? = l[k]?:=by rw [List.getElem?_append_right (by omega),Nat.add_sub_cancel_left]
theorem qvu (h l:List qf) (b:qf):(h ++ l).set h.length b = h ++ l.set 0 b:=by rw [List.set_append_right _ _ (Nat.le_refl _),Nat.sub_self]
theorem qh3 (h l:List qf) (k:Nat) (b:qf):(h ++ l).set (h.length + k) b = h ++ l.set k b:=by rw [List.set_append_right _ _ (by omega),Nat.add_sub_cancel_left]
theorem qbW {h l:List qf} {i:Nat} (hi:i < h.length):(h ++ l)[i]? = h[i]?:=List.getElem?_append_left hi
theorem qyg {h l:List qf} {i:Nat} {b:qf} (hi:i < h.length):(h ++ l).set i b = h.set i b ++ l:=List.set_append_left _ _ hi
theorem qpS {n:Nat} {h l:List qf} {v:qa} (hl:h.length = n) (hv:v.lower n = true):qaQ n (.ret v) (h ++ l) false = (.ret v,h,false):=by subst hl;simp [qaQ,hv]
theorem qml {n:Nat} {h:List qf} {v:qa} (hl:h.length = n) (hv:v.lower n = true):qaQ n (.ret v) h false = (.ret v,h,false):=by subst hl;simp [qaQ,hv]
theorem qpR {n:Nat} {h l:List qf} {v:qa} (hl:h.length = n) (hv:v.lower n = true):qaQ n (.pan v) (h ++ l) false = (.pan v,h,false):=by subst hl;simp [qaQ,hv]
theorem qmk {n:Nat} {h:List qf} {v:qa} (hl:h.length = n) (hv:v.lower n = true):qaQ n (.pan v) h false = (.pan v,h,false):=by subst hl;simp [qaQ,hv]
theorem qa0 {n:Nat} {H h:List qf} {v:qa} (hc:H.take n = h) (hv:v.lower n = true):qaQ n (.ret v) H false = (.ret v,h,false):=by simp [qaQ,hv,hc]
theorem qaN {n:Nat} {H h:List qf} {v:qa} (hc:H.take n = h) (hv:v.lower n = true):qaQ n (.pan v) H false = (.pan v,h,false):=by simp [qaQ,hv,hc]
theorem qe1 (h:List qf) (i:Nat) (a b:qf):(h.set i a).set i b = h.set i b:=List.set_set ..
theorem qcv {h l:List qf} {n:Nat} (hl:h.length = n):(h ++ l)[n]? = l[0]?:=by subst hl;exact qgl h l
theorem qyf {h l:List qf} {n:Nat} {b:qf} (hl:h.length = n):(h ++ l).set n b = h ++ l.set 0 b:=by subst hl;exact qvu h l b
theorem qoS {h l:List qf} {n k:Nat} (hl:h.length = n):(h ++ l)[n + k]? = l[k]?:=by subst hl;exact qbQ h l k
theorem qro {h l:List qf} {n k:Nat} {b:qf} (hl:h.length = n):(h ++ l).set (n + k) b = h ++ l.set k b:=by subst hl;exact qh3 h l k b
theorem qbX {h:List qf} {i j:Nat} {b:qf} (hij:i ≠ j):(h.set i b)[j]? = h[j]?:=List.getElem?_set_ne hij
theorem qdE {h:List qf} {i:Nat} {b:qf} (hi:i < h.length):(h.set i b)[i]? = some b:=List.getElem?_set_self hi
end
end Go.AE
namespace Go.AE
section
variable {base:Nat} {call:Call} {p:qco} {s:St}
def qC2 (d:Option Nat) (s:St) (k:Nat) (vs:List qa):Option (Ex×St):=
 if vs.length = k∧vs.all qa.storable then some (.nor,{ s with t:=put d (.ptr s.h.length 0) s.t,h:=s.h ++ [.cells vs]}) else none
theorem qz0 (d:Option Nat) (k:Nat) (x:qk):qq base call p d (.box k x) s = qC2 d s k ((ev s.t x).cells.map qa.dim):=rfl
theorem qv2 (d:Option Nat) (t:List qa) (h:List qf) (e:Bool) (k:Nat) (vs:List qa):qC2 d ⟨t,h,e⟩ k vs = if vs.length = k∧vs.all qa.storable then some (.nor,⟨put d (.ptr h.length 0) t,h ++ [.cells vs],e⟩) else none:=rfl
def qrU (ty:TypeId) (v:qa):Option qa:=
 match v with
 | .undef=>none
 | v=>some (.iface ty v)
theorem qvp (d:Option Nat) (ty:TypeId) (x:qk):qq base call p d (.mkI ty x) s = qfJ d s (qrU ty (ev s.t x)):=by
 rw [qa3 _ _ rfl (by simp) (by simp) (by simp)]
 simp only [pureV]
 cases ev s.t x <;> rfl
theorem qtR (ty:TypeId) (cs:List qa):qrU ty (.agg cs) = some (.iface ty (.agg cs)):=rfl
theorem qtS (ty:TypeId) (k:IntKind) (n:Int):qrU ty (.int k n) = some (.iface ty (.int k n)):=rfl
theorem qz4 (d:Option Nat) (f:FuncId) (a b:List qk):qq base call p d (.mkF f a b) s = some (.nor,{ s with t:=put d (.fn f (a.map (ev s.t)) (b.map (ev s.t))) s.t}):=rfl
def qdG (s i:qa):Option qa:=
 match s,i with
 | .str l,.int _ n=>if 0 ≤ n then (l[n.toNat]?).map fun b=>.int .u8 b.toNat else none
 | _,_=>none
theorem qvn (d:Option Nat) (x i:qk):qq base call p d (.ixS x i) s = qfJ d s (qdG (ev s.t x) (ev s.t i)):=by
 rw [qa3 _ _ rfl (by simp) (by simp) (by simp)]
 simp only [pureV]
 cases ev s.t x <;> cases ev s.t i <;> rfl
theorem qaM {l:List UInt8} {k:IntKind} {n:Nat} {b:UInt8} (h:l[n]? = some b):qdG (.str l) (.int k n) = some (.int .u8 b.toNat):=by
 simp only [qdG,Int.toNat_natCast,h,Option.map_some]
 rw [if_pos (Int.natCast_nonneg n)]
def qs7 (i:Nat) (v:qa):Option qa:=
 match v with
 | .tup vs=>(vs[i]?).map qa.dim
 | _=>none
theorem qvk (d:Option Nat) (x:qk) (i:Nat):qq base call p d (.ext x i) s = qfJ d s (qs7 i (ev s.t x)):=by
 rw [qa3 _ _ rfl (by simp) (by simp) (by simp)]
 simp only [pureV]
 cases ev s.t x <;> rfl
theorem qs8 (i:Nat) (vs:List qa):qs7 i (.tup vs) = (vs[i]?).map qa.dim:=rfl
def qjI (neg:Bool) (x y:qa):Option qa:=
 match x,y with
 | .bool a,.bool b=>some (.bool ((a == b) != neg))
 | _,_=>none
theorem qvj (d:Option Nat) (neg:Bool) (x y:qk):qq base call p d (.eqb neg x y) s = qfJ d s (qjI neg (ev s.t x) (ev s.t y)):=by
 rw [qa3 _ _ rfl (by simp) (by simp) (by simp)]
 simp only [pureV]
 cases ev s.t x <;> cases ev s.t y <;> rfl
theorem qoA (neg a b:Bool):qjI neg (.bool a) (.bool b) = some (.bool ((a == b) != neg)):=rfl
def qji (k:Nat) (neg:Bool) (x y:qa):Option qa:=(qyG k x y).map fun b=>.bool (b != neg)
theorem qhf (d:Option Nat) (k:Nat) (neg:Bool) (x y:qk):qq base call p d (.eqi k neg x y) s = qfJ d s (qji k neg (ev s.t x) (ev s.t y)):=qa3 _ _ rfl (by simp) (by simp) (by simp)
def qsk (k:IntKind) (v:qa):Option qa:=
 match v with
 | .int _ n=>some (.int k (k.wrap n))
 | _=>none
theorem qvi (d:Option Nat) (k:IntKind) (x:qk):qq base call p d (.cvi k x) s = qfJ d s (qsk k (ev s.t x)):=by
 rw [qa3 _ _ rfl (by simp) (by simp) (by simp)]
 simp only [pureV]
 cases ev s.t x <;> rfl
theorem qsl (k j:IntKind) (n:Int):qsk k (.int j n) = some (.int k (k.wrap n)):=rfl
def qC4:qa→Option qa
 | .lst xs _=>(qfc xs).map .str
 | _=>none
theorem qz1 (d:Option Nat) (x:qk):qq base call p d (.cvt x) s = qfJ d s (qC4 (ev s.t x)):=by
 rw [qa3 _ _ rfl (by simp) (by simp) (by simp)]
 simp only [pureV]
 cases ev s.t x <;> rfl
theorem qsm (n:Int) (f:qfQ):qC4 (.lst [.int .u8 n] f) = some (.str [UInt8.ofNat n.toNat]):=rfl
def mmV (isMax:Bool) (x y:qa):Option qa:=
 match x,y with
 | .int k a,.int _ b=>some (.int k (if isMax then (if b > a then b else a) else (if b < a then b else a)))
 | _,_=>none
theorem qz5 (d:Option Nat) (m:Bool) (x y:qk):qq base call p d (.mm m x y) s = qfJ d s (mmV m (ev s.t x) (ev s.t y)):=by
 rw [qa3 _ _ rfl (by simp) (by simp) (by simp)]
 simp only [pureV]
 cases ev s.t x <;> cases ev s.t y <;> rfl
theorem qqt (k j:IntKind) (a b:Int):mmV true (.int k a) (.int j b) = some (.int k (if b > a then b else a)):=rfl
theorem qzJ (k j:IntKind) (a b:Nat):mmV true (.int k (a:Int)) (.int j (b:Int)) = some (.int k ((max a b:Nat):Int)):=by
 simp only [mmV,if_true]
 congr 2
 split <;> omega
theorem qxg (k j:IntKind) (a b:Int):mmV false (.int k a) (.int j b) = some (.int k (if b < a then b else a)):=rfl
def qDa (s:St) (v:qa):Option (Ex×St):=
 match v with
 | .iface u v=>some (.pan (.iface u v),s)
 | _=>none
theorem qz8 (d:Option Nat) (x:qk):qq base call p d (.pan x) s = qDa s (ev s.t x):=by
 simp only [qq]
 cases ev s.t x <;> rfl
theorem qmJ (s:St) (u:TypeId) (v:qa):qDa s (.iface u v) = some (.pan (.iface u v),s):=rfl
end
end Go.AE
namespace Go.AE
section
variable {base:Nat} {call:Call} {p:qco} {s:St}
def qib (len:Nat) (k:Option Nat) (a i:qa):Option qa:=
 match a,i with
 | .agg cs,.int _ n=>if 0 ≤ n∧n < (len:Int) then cut cs (n.toNat * k.getD 1) k else none
 | _,_=>none
theorem qvm (d:Option Nat) (len:Nat) (k:Option Nat) (a i:qk):qq base call p d (.ixA len k a i) s = qfJ d s (qib len k (ev s.t a) (ev s.t i)):=by
 rw [qa3 _ _ rfl (by simp) (by simp) (by simp)]
 simp only [pureV]
 cases ev s.t a <;> cases ev s.t i <;> rfl
theorem qk0 {len n:Nat} {j:IntKind} {cs:List qa} {v:qa} (hn:n < len) (hv:cs[n]? = some v):qib len none (.agg cs) (.int j n) = some v.dim:=by
 simp only [qib]
 rw [if_pos ⟨by omega,by omega⟩]
 simp only [Int.toNat_natCast,Option.getD_none,Nat.mul_one,qkL,hv,Option.map_some]
end
end Go.AE
namespace Go.AE
section
variable {base:Nat} {call:Call} {p q:qco} {s:St} {t:List qa} {h:List qf}
def AOp.isApp:AOp→Bool
 | .app ..=>true
 | _=>false
def qc:List qY→Bool
 | []=>true
 | o :: os=>!o.op.isApp && qc os
def qb (s:St):AOp→Option qa
 | .mov x=>some (ev s.t x)
 | .pick c a b=>qcm (ev s.t c) (ev s.t a) (ev s.t b)
 | .ld k a=>qdh s.h (ev s.t a) k
 | .bin op x y=>qcp op (ev s.t x) (ev s.t y)
 | .un op x=>unV op (ev s.t x)
 | .fa off a=>faV off (ev s.t a)
 | .nilc x=>qgX (ev s.t x)
 | .len b x=>qrT b (ev s.t x)
 | .ixaL k x i=>qc7 k (ev s.t x) (ev s.t i)
 | .fld off k x=>qta off k (ev s.t x)
 | .ixS x i=>qdG (ev s.t x) (ev s.t i)
 | .ixA l k a i=>qib l k (ev s.t a) (ev s.t i)
 | .ext x i=>qs7 i (ev s.t x)
 | .eqb n x y=>qjI n (ev s.t x) (ev s.t y)
 | .eqi k n x y=>qji k n (ev s.t x) (ev s.t y)
 | .cvi k x=>qsk k (ev s.t x)
 | .mm m x y=>mmV m (ev s.t x) (ev s.t y)
 | .mkI t x=>qrU t (ev s.t x)
 | .lk sh z ok m key=>qk3 s.h sh z ok (ev s.t m) (ev s.t key)
 | o=>pureV s.t o
def AOp.plain:AOp→Bool
 | .asg .. | .new .. | .box .. | .st .. | .call .. | .app .. | .pan .. | .hx ..=>false
 | _=>true
theorem qkq {d:Option Nat} {o:AOp} (ho:o.plain = true):qq base call p d o s = qfJ d s (qb s o):=by
 cases o <;> simp only [AOp.plain,Bool.false_eq_true] at ho
 case mov=>rfl
 case pick=>exact qqB _ _ _ _
 case ld=>exact qz3 _ _ _
 case bin=>exact qvh _ _ _ _
 case un=>exact qAa _ _ _
 case fa=>exact qz2 _ _ _
 case nilc=>exact qqA _ _
 case len=>exact qvo _ _ _
 case ixaL=>exact qqz _ _ _ _
 case fld=>exact qvl _ _ _ _
 case ixS=>exact qvn _ _ _
 case ixA=>exact qvm _ _ _ _ _
 case ext=>exact qvk _ _ _
 case eqb=>exact qvj _ _ _ _
 case eqi=>exact qhf _ _ _ _ _
 case cvi=>exact qvi _ _ _
 case mm=>exact qz5 _ _ _ _
 case mkI=>exact qvp _ _ _
 case lk sh z ok m key=>simp only [qq,qb];generalize qk3 s.h sh z ok (ev s.t m) (ev s.t key) = r;cases r <;> rfl
 all_goals (simp only [qq,qb];generalize pureV s.t _ = r;cases r <;> rfl)
theorem qho {d:Option Nat} {o:AOp} (ho:o.isApp = false):qq base call p d o s = qq base call q d o s:=by
 cases o <;> first | rfl | (simp [AOp.isApp] at ho)
def gv (q:Bool) (v:qa):qa:=bif q then v else .tup []
def qn (q:Bool) (d:Option Nat) (s:St) (r:Option qa) (k:St→Option (Ex×St)):Option (Ex×St):=
 bif q then (match r with | some v=>k { s with t:=put d v s.t} | none=>none) else k { s with t:=put d (.tup []) s.t}
def qaA (c:Bool) (r:Option qa):Option qa:=bif c then r else some (.tup [])
def qgo (g:qa) (b:Bool) (d:Option Nat) (s:St) (r:Option qa) (k:St→Option (Ex×St)):Option (Ex×St):=
 match g with
 | .bool c=>qn (c == b) d s r k
 | .tup []=>qn false d s r k
 | _=>none
def qgn (g:qa) (b:Bool) (d:Option Nat) (s:St) (r:Option (Ex×St)) (k:St→Option (Ex×St)):Option (Ex×St):=
 match g with
 | .bool c=>bif c == b then qbN k r else k { s with t:=put d (.tup []) s.t}
 | .tup []=>k { s with t:=put d (.tup []) s.t}
 | _=>none
def qi3 (base:Nat) (call:Call):List qY→St→Option (Ex×St)
 | [],s=>some (.nor,s)
 | o :: os,s=>
  match o.guard with
  | none=>qbN (qi3 base call os) (qq base call [] o.dst o.op s)
  | some (j,b)=>
   match o.op.plain with
   | true=>qgo (lkp s.t j) b o.dst s (qb s o.op) (qi3 base call os)
   | false=>qgn (lkp s.t j) b o.dst s (qq base call [] o.dst o.op s) (qi3 base call os)
theorem qlf:∀(os:List qY) (p:qco) (s:St),qc os = true→qaK base call p os s = qi3 base call os s
 | [],p,s,_=>rfl
 | o :: os,p,s,hn=>by
  simp only [qc,Bool.and_eq_true,Bool.not_eq_true'] at hn
  obtain ⟨d,op,g⟩:=o
  have ih:=fun p s=>qlf os p s hn.2
  cases g with
  | none=>
   simp only [qk8,qi3]
   rw [qho (q:=[]) hn.1]
   congr 1
   funext s
   exact ih _ s
  | some jb=>
   obtain ⟨j,b⟩:=jb
   simp only [qiY,qi3]
   have e1:(qaK base call (qaJ p ⟨d,op,some (j,b)⟩) os) = qi3 base call os:=funext fun s=>ih _ s
   rw [e1,ih,qho (q:=[]) hn.1]
   cases hpl:op.plain with
   | true=>
    simp only
    rw [qkq hpl]
    generalize qb s op = r
    generalize lkp s.t j = g
    cases g with
    | bool c=>
     simp only [qkW,qgo,qn]
     cases c == b with
     | true=>cases r <;> rfl
     | false=>rfl
    | tup vs=>cases vs <;> rfl
    | _=>rfl
   | false=>
    simp only
    generalize lkp s.t j = g
    cases g with
    | bool c=>
     simp only [qkW,qgn]
     cases c == b <;> rfl
    | tup vs=>cases vs <;> rfl
    | _=>rfl
theorem qCt {ops:List qY} (hn:qc ops = true):qo base call (.reg ops) s = qi3 base call ops s:=by
 rw [qgg,qlf ops [] s hn]
theorem qx6 {ops:List qY} (_hn:qc ops = false):qo base call (.reg ops) s = qaK base call [] ops s:=qgg ops s
theorem qCq:qi3 base call [] s = some (.nor,s):=rfl
theorem qAe (d:Option Nat) (o:AOp) (os:List qY):qi3 base call (⟨d,o,none⟩ :: os) s = qbN (qi3 base call os) (qq base call [] d o s):=rfl
theorem qx4 (d:Option Nat) (o:AOp) (j:Nat) (b:Bool) (os:List qY) (ho:o.plain = true):qi3 base call (⟨d,o,some (j,b)⟩ :: os) s = qgo (lkp s.t j) b d s (qb s o) (qi3 base call os):=by
 simp only [qi3,ho]
theorem qx3 (d:Option Nat) (o:AOp) (j:Nat) (b:Bool) (os:List qY) (ho:o.plain = false):qi3 base call (⟨d,o,some (j,b)⟩ :: os) s = qgn (lkp s.t j) b d s (qq base call [] d o s) (qi3 base call os):=by
 simp only [qi3,ho]
theorem qo7 (q c b:Bool) (d:Option Nat) (s:St) (r:Option qa) (k:St→Option (Ex×St)):qgo (gv q (.bool c)) b d s r k = qn q d s (qaA (c == b) r) k:=by
 cases q <;> cases c <;> cases b <;> rfl
theorem ql6 (q x c b:Bool) (d:Option Nat) (s:St) (r:Option qa) (k:St→Option (Ex×St)):qgo (gv q (gv x (.bool c))) b d s r k = qn q d s (qaA x (qaA (c == b) r)) k:=by
 cases q <;> cases x <;> cases c <;> cases b <;> rfl
theorem qjT (q:Bool) (d:Nat) (t:List qa) (h:List qf) (e:Bool) (v:qa) (k:St→Option (Ex×St)):qn q (some d) ⟨t,h,e⟩ (some v) k = k ⟨up t d (gv q v),h,e⟩:=by
 cases q <;> rfl
theorem qoQ (c:Bool) (v:qa):qaA c (some v) = some (gv c v):=by cases c <;> rfl
theorem ql4 (b:Bool) (d:Option Nat) (s:St) (r:Option (Ex×St)) (k:St→Option (Ex×St)):qgn (.bool b) b d s r k = qbN k r:=by cases b <;> rfl
theorem qBG (q:Bool) (v:qa):gv q (gv q v) = gv q v:=by cases q <;> rfl
theorem qzd (q:Bool) (v:qa):(gv q v).dim = gv q v.dim:=by cases q <;> rfl
theorem qt0 (c x:Bool):qcm (.bool c) (gv c (.bool x)) (.bool false) = some (.bool (c && x)):=by cases c <;> rfl
theorem qx1 (c x:Bool):qcm (.bool c) (.bool true) (gv (!c) (.bool x)) = some (.bool (c || x)):=by cases c <;> rfl
theorem qw2 (b:Bool):(b == true) = b:=by cases b <;> rfl
theorem qtA (b:Bool):(b == false) = !b:=by cases b <;> rfl
end
end Go.AE
namespace Go.AE
section
variable {s:St} {d:Option Nat} {k:St→Option (Ex×St)}
theorem qwV (q:Bool) (v:qa) :qn q d s (some (gv q v)) k = qn q d s (some v) k:=by cases q <;> rfl
theorem qvO (c:Bool) (v:qa) :qaA c (some (gv c v)) = qaA c (some v):=by cases c <;> rfl
theorem qpj (q c:Bool) (v:qa) :qn q d s (qaA c (some (gv q v))) k = qn q d s (qaA c (some v)) k:=by cases q <;> rfl
theorem qBJ (q:Bool) (v:qa) (h':List qf) (kk:Option Nat):qn q d s (qdh h' (gv q v) kk) k = qn q d s (qdh h' v kk) k:=by cases q <;> rfl
theorem qAN (c:Bool) (v:qa) (h':List qf) (kk:Option Nat):qaA c (qdh h' (gv c v) kk) = qaA c (qdh h' v kk):=by cases c <;> rfl
theorem qwX (q c:Bool) (v:qa) (h':List qf) (kk:Option Nat):qn q d s (qaA c (qdh h' (gv q v) kk)) k = qn q d s (qaA c (qdh h' v kk)) k:=by cases q <;> rfl
theorem qBI (q:Bool) (v:qa) (o:Nat):qn q d s (faV o (gv q v)) k = qn q d s (faV o v) k:=by cases q <;> rfl
theorem qAM (c:Bool) (v:qa) (o:Nat):qaA c (faV o (gv c v)) = qaA c (faV o v):=by cases c <;> rfl
theorem qwW (q c:Bool) (v:qa) (o:Nat):qn q d s (qaA c (faV o (gv q v))) k = qn q d s (qaA c (faV o v)) k:=by cases q <;> rfl
theorem qzv (q:Bool) (v:qa) (b:Bool):qn q d s (qrT b (gv q v)) k = qn q d s (qrT b v) k:=by cases q <;> rfl
theorem qyX (c:Bool) (v:qa) (b:Bool):qaA c (qrT b (gv c v)) = qaA c (qrT b v):=by cases c <;> rfl
theorem qtr (q c:Bool) (v:qa) (b:Bool):qn q d s (qaA c (qrT b (gv q v))) k = qn q d s (qaA c (qrT b v)) k:=by cases q <;> rfl
theorem qzr (q:Bool) (v:qa) (o:Nat) (kk:Option Nat):qn q d s (qta o kk (gv q v)) k = qn q d s (qta o kk v) k:=by cases q <;> rfl
theorem qyT (c:Bool) (v:qa) (o:Nat) (kk:Option Nat):qaA c (qta o kk (gv c v)) = qaA c (qta o kk v):=by cases c <;> rfl
theorem qtn (q c:Bool) (v:qa) (o:Nat) (kk:Option Nat):qn q d s (qaA c (qta o kk (gv q v))) k = qn q d s (qaA c (qta o kk v)) k:=by cases q <;> rfl
theorem qBL (q:Bool) (v:qa) (op:UnOp):qn q d s (unV op (gv q v)) k = qn q d s (unV op v) k:=by cases q <;> rfl
theorem qAP (c:Bool) (v:qa) (op:UnOp):qaA c (unV op (gv c v)) = qaA c (unV op v):=by cases c <;> rfl
theorem qwZ (q c:Bool) (v:qa) (op:UnOp):qn q d s (qaA c (unV op (gv q v))) k = qn q d s (qaA c (unV op v)) k:=by cases q <;> rfl
theorem qwT (q:Bool) (v:qa) :qn q d s (qgX (gv q v)) k = qn q d s (qgX v) k:=by cases q <;> rfl
theorem qvM (c:Bool) (v:qa) :qaA c (qgX (gv c v)) = qaA c (qgX v):=by cases c <;> rfl
theorem qph (q c:Bool) (v:qa) :qn q d s (qaA c (qgX (gv q v))) k = qn q d s (qaA c (qgX v)) k:=by cases q <;> rfl
theorem qzq (q:Bool) (v:qa) (o:Nat):qn q d s (qs7 o (gv q v)) k = qn q d s (qs7 o v) k:=by cases q <;> rfl
theorem qyS (c:Bool) (v:qa) (o:Nat):qaA c (qs7 o (gv c v)) = qaA c (qs7 o v):=by cases c <;> rfl
theorem qtm (q c:Bool) (v:qa) (o:Nat):qn q d s (qaA c (qs7 o (gv q v))) k = qn q d s (qaA c (qs7 o v)) k:=by cases q <;> rfl
theorem qzn (q:Bool) (v:qa) (ik:IntKind):qn q d s (qsk ik (gv q v)) k = qn q d s (qsk ik v) k:=by cases q <;> rfl
theorem qyP (c:Bool) (v:qa) (ik:IntKind):qaA c (qsk ik (gv c v)) = qaA c (qsk ik v):=by cases c <;> rfl
theorem qtj (q c:Bool) (v:qa) (ik:IntKind):qn q d s (qaA c (qsk ik (gv q v))) k = qn q d s (qaA c (qsk ik v)) k:=by cases q <;> rfl
theorem qzw (q:Bool) (v:qa) (ty:TypeId):qn q d s (qrU ty (gv q v)) k = qn q d s (qrU ty v) k:=by cases q <;> rfl
theorem qyY (c:Bool) (v:qa) (ty:TypeId):qaA c (qrU ty (gv c v)) = qaA c (qrU ty v):=by cases c <;> rfl
theorem qts (q c:Bool) (v:qa) (ty:TypeId):qn q d s (qaA c (qrU ty (gv q v))) k = qn q d s (qaA c (qrU ty v)) k:=by cases q <;> rfl
theorem qzt (q:Bool) (v:qa) (w:qa):qn q d s (qdG (gv q v) w) k = qn q d s (qdG v w) k:=by cases q <;> rfl
theorem qyV (c:Bool) (v:qa) (w:qa):qaA c (qdG (gv c v) w) = qaA c (qdG v w):=by cases c <;> rfl
theorem qtp (q c:Bool) (v:qa) (w:qa):qn q d s (qaA c (qdG (gv q v) w)) k = qn q d s (qaA c (qdG v w)) k:=by cases q <;> rfl
theorem qwR (q:Bool) (v:qa) (w:qa):qn q d s (qdG w (gv q v)) k = qn q d s (qdG w v) k:=by cases q <;> rfl
theorem qvK (c:Bool) (v:qa) (w:qa):qaA c (qdG w (gv c v)) = qaA c (qdG w v):=by cases c <;> rfl
theorem qpf (q c:Bool) (v:qa) (w:qa):qn q d s (qaA c (qdG w (gv q v))) k = qn q d s (qaA c (qdG w v)) k:=by cases q <;> rfl
theorem qzu (q:Bool) (v:qa) (o:Nat) (w:qa):qn q d s (qc7 o (gv q v) w) k = qn q d s (qc7 o v w) k:=by cases q <;> rfl
theorem qyW (c:Bool) (v:qa) (o:Nat) (w:qa):qaA c (qc7 o (gv c v) w) = qaA c (qc7 o v w):=by cases c <;> rfl
theorem qtq (q c:Bool) (v:qa) (o:Nat) (w:qa):qn q d s (qaA c (qc7 o (gv q v) w)) k = qn q d s (qaA c (qc7 o v w)) k:=by cases q <;> rfl
theorem qwS (q:Bool) (v:qa) (o:Nat) (w:qa):qn q d s (qc7 o w (gv q v)) k = qn q d s (qc7 o w v) k:=by cases q <;> rfl
theorem qvL (c:Bool) (v:qa) (o:Nat) (w:qa):qaA c (qc7 o w (gv c v)) = qaA c (qc7 o w v):=by cases c <;> rfl
theorem qpg (q c:Bool) (v:qa) (o:Nat) (w:qa):qn q d s (qaA c (qc7 o w (gv q v))) k = qn q d s (qaA c (qc7 o w v)) k:=by cases q <;> rfl
theorem qzs (q:Bool) (v:qa) (o:Nat) (kk:Option Nat) (w:qa):qn q d s (qib o kk (gv q v) w) k = qn q d s (qib o kk v w) k:=by cases q <;> rfl
theorem qyU (c:Bool) (v:qa) (o:Nat) (kk:Option Nat) (w:qa):qaA c (qib o kk (gv c v) w) = qaA c (qib o kk v w):=by cases c <;> rfl
theorem qto (q c:Bool) (v:qa) (o:Nat) (kk:Option Nat) (w:qa):qn q d s (qaA c (qib o kk (gv q v) w)) k = qn q d s (qaA c (qib o kk v w)) k:=by cases q <;> rfl
theorem qwQ (q:Bool) (v:qa) (o:Nat) (kk:Option Nat) (w:qa):qn q d s (qib o kk w (gv q v)) k = qn q d s (qib o kk w v) k:=by cases q <;> rfl
theorem qvJ (c:Bool) (v:qa) (o:Nat) (kk:Option Nat) (w:qa):qaA c (qib o kk w (gv c v)) = qaA c (qib o kk w v):=by cases c <;> rfl
theorem qpe (q c:Bool) (v:qa) (o:Nat) (kk:Option Nat) (w:qa):qn q d s (qaA c (qib o kk w (gv q v))) k = qn q d s (qaA c (qib o kk w v)) k:=by cases q <;> rfl
theorem qzm (q:Bool) (v:qa) (op:BinOp) (w:qa):qn q d s (qcp op (gv q v) w) k = qn q d s (qcp op v w) k:=by cases q <;> rfl
theorem qyO (c:Bool) (v:qa) (op:BinOp) (w:qa):qaA c (qcp op (gv c v) w) = qaA c (qcp op v w):=by cases c <;> rfl
theorem qti (q c:Bool) (v:qa) (op:BinOp) (w:qa):qn q d s (qaA c (qcp op (gv q v) w)) k = qn q d s (qaA c (qcp op v w)) k:=by cases q <;> rfl
theorem qwN (q:Bool) (v:qa) (op:BinOp) (w:qa):qn q d s (qcp op w (gv q v)) k = qn q d s (qcp op w v) k:=by cases q <;> rfl
theorem qvG (c:Bool) (v:qa) (op:BinOp) (w:qa):qaA c (qcp op w (gv c v)) = qaA c (qcp op w v):=by cases c <;> rfl
theorem qpb (q c:Bool) (v:qa) (op:BinOp) (w:qa):qn q d s (qaA c (qcp op w (gv q v))) k = qn q d s (qaA c (qcp op w v)) k:=by cases q <;> rfl
theorem qzo (q:Bool) (v:qa) (b:Bool) (w:qa):qn q d s (qjI b (gv q v) w) k = qn q d s (qjI b v w) k:=by cases q <;> rfl
theorem qyQ (c:Bool) (v:qa) (b:Bool) (w:qa):qaA c (qjI b (gv c v) w) = qaA c (qjI b v w):=by cases c <;> rfl
theorem qtk (q c:Bool) (v:qa) (b:Bool) (w:qa):qn q d s (qaA c (qjI b (gv q v) w)) k = qn q d s (qaA c (qjI b v w)) k:=by cases q <;> rfl
theorem qwO (q:Bool) (v:qa) (b:Bool) (w:qa):qn q d s (qjI b w (gv q v)) k = qn q d s (qjI b w v) k:=by cases q <;> rfl
theorem qvH (c:Bool) (v:qa) (b:Bool) (w:qa):qaA c (qjI b w (gv c v)) = qaA c (qjI b w v):=by cases c <;> rfl
theorem qpc (q c:Bool) (v:qa) (b:Bool) (w:qa):qn q d s (qaA c (qjI b w (gv q v))) k = qn q d s (qaA c (qjI b w v)) k:=by cases q <;> rfl
theorem qzp (q:Bool) (v:qa) (o:Nat) (b:Bool) (w:qa):qn q d s (qji o b (gv q v) w) k = qn q d s (qji o b v w) k:=by cases q <;> rfl
theorem qyR (c:Bool) (v:qa) (o:Nat) (b:Bool) (w:qa):qaA c (qji o b (gv c v) w) = qaA c (qji o b v w):=by cases c <;> rfl
theorem qtl (q c:Bool) (v:qa) (o:Nat) (b:Bool) (w:qa):qn q d s (qaA c (qji o b (gv q v) w)) k = qn q d s (qaA c (qji o b v w)) k:=by cases q <;> rfl
theorem qwP (q:Bool) (v:qa) (o:Nat) (b:Bool) (w:qa):qn q d s (qji o b w (gv q v)) k = qn q d s (qji o b w v) k:=by cases q <;> rfl
theorem qvI (c:Bool) (v:qa) (o:Nat) (b:Bool) (w:qa):qaA c (qji o b w (gv c v)) = qaA c (qji o b w v):=by cases c <;> rfl
theorem qpd (q c:Bool) (v:qa) (o:Nat) (b:Bool) (w:qa):qn q d s (qaA c (qji o b w (gv q v))) k = qn q d s (qaA c (qji o b w v)) k:=by cases q <;> rfl
theorem qBK (q:Bool) (v:qa) (b:Bool) (w:qa):qn q d s (mmV b (gv q v) w) k = qn q d s (mmV b v w) k:=by cases q <;> rfl
theorem qAO (c:Bool) (v:qa) (b:Bool) (w:qa):qaA c (mmV b (gv c v) w) = qaA c (mmV b v w):=by cases c <;> rfl
theorem qwY (q c:Bool) (v:qa) (b:Bool) (w:qa):qn q d s (qaA c (mmV b (gv q v) w)) k = qn q d s (qaA c (mmV b v w)) k:=by cases q <;> rfl
theorem qzx (q:Bool) (v:qa) (b:Bool) (w:qa):qn q d s (mmV b w (gv q v)) k = qn q d s (mmV b w v) k:=by cases q <;> rfl
theorem qyZ (c:Bool) (v:qa) (b:Bool) (w:qa):qaA c (mmV b w (gv c v)) = qaA c (mmV b w v):=by cases c <;> rfl
theorem qtt (q c:Bool) (v:qa) (b:Bool) (w:qa):qn q d s (qaA c (mmV b w (gv q v))) k = qn q d s (qaA c (mmV b w v)) k:=by cases q <;> rfl
theorem qwU (q:Bool) (v:qa) (w z:qa):qn q d s (qcm (gv q v) w z) k = qn q d s (qcm v w z) k:=by cases q <;> rfl
theorem qvN (c:Bool) (v:qa) (w z:qa):qaA c (qcm (gv c v) w z) = qaA c (qcm v w z):=by cases c <;> rfl
theorem qpi (q c:Bool) (v:qa) (w z:qa):qn q d s (qaA c (qcm (gv q v) w z)) k = qn q d s (qaA c (qcm v w z)) k:=by cases q <;> rfl
theorem qtg (q:Bool) (v:qa) (w z:qa):qn q d s (qcm w (gv q v) z) k = qn q d s (qcm w v z) k:=by cases q <;> rfl
theorem qsa (c:Bool) (v:qa) (w z:qa):qaA c (qcm w (gv c v) z) = qaA c (qcm w v z):=by cases c <;> rfl
theorem ql7 (q c:Bool) (v:qa) (w z:qa):qn q d s (qaA c (qcm w (gv q v) z)) k = qn q d s (qaA c (qcm w v z)) k:=by cases q <;> rfl
theorem qth (q:Bool) (v:qa) (w z:qa):qn q d s (qcm w z (gv q v)) k = qn q d s (qcm w z v) k:=by cases q <;> rfl
theorem qsb (c:Bool) (v:qa) (w z:qa):qaA c (qcm w z (gv c v)) = qaA c (qcm w z v):=by cases c <;> rfl
theorem ql8 (q c:Bool) (v:qa) (w z:qa):qn q d s (qaA c (qcm w z (gv q v))) k = qn q d s (qaA c (qcm w z v)) k:=by cases q <;> rfl
end
end Go.AE
namespace Go.AE
section
variable {base:Nat} {call:Call} {s:St}
def qzI (dsts:List Nat):Option (Ex×St)→Option (Ex×St)
 | some (.pan v,s)=>some (.pan v,{ s with t:=qcs dsts s.t})
 | r=>r
theorem qCj {base:Nat} {call:Call} {p:qco} {d:Option Nat} {o:AOp} {s s':St} {x:Ex} (ho:o.effs = false) (h:qq base call p d o s = some (x,s')):x = .nor:=by
 cases o <;> simp only [AOp.effs,Bool.true_eq_false] at ho
 case new=>simp only [qq,Option.some.injEq,Prod.mk.injEq] at h;exact h.1.symm
 case box=>
  simp only [qq] at h
  split at h
  ·cases h;rfl
  ·cases h
 case ld=>
  simp only [qq] at h
  cases hl:qdh s.h (ev s.t _) _ with
  | none=>rw [hl] at h;cases h
  | some v=>rw [hl] at h;cases h;rfl
 case lk sh z ok m key=>
  simp only [qq] at h
  cases hl:qk3 s.h sh z ok (ev s.t m) (ev s.t key) with
  | none=>rw [hl] at h;cases h
  | some v=>rw [hl] at h;cases h;rfl
 all_goals
  simp only [qq] at h
  revert h
  generalize pureV s.t _ = r
  intro h
  cases r <;> cases h
  rfl
theorem qqr (dsts:List Nat) (s:St):qzI dsts (some (.nor,s)) = some (.nor,s):=rfl
theorem qqs (dsts:List Nat) (v:qa) (t:List qa) (h:List qf) (e:Bool):qzI dsts (some (.pan v,⟨t,h,e⟩)) = some (.pan v,⟨qcs dsts t,h,e⟩):=rfl
theorem qbj {b:qG} (I:Nat→St→Prop) (Q:Ex→St→Prop)
  (step:∀k s,I k s→(∃s' k',qo base call b s = some (.nor,s')∧k' < k∧I k' s')∨∃x s',qo base call b s = some (x,s')∧x ≠ .nor∧Q x s') :
  ∀k s,I k s→∃x s',qo base call (.loop b) s = some (x,s')∧Q x s':=by
 intro k
 induction k using Nat.strongRecOn with
 | ind k ih=>
  intro s hs
  rw [qm]
  rcases step k s hs with ⟨s',k',h1,h2,h3⟩ | ⟨x,s',h1,h2,h3⟩
  ·rw [h1]
   exact ih k' h2 s' h3
  ·rw [h1]
   refine ⟨x,s',?_,h3⟩
   cases x with
   | nor=>exact absurd rfl h2
   | _=>rfl
end
end Go.AE
namespace Go.AE
section
variable {s:St} {t:List qa} {h:List qf}
def qbI (v:qa) (i:Nat) (t:List qa):List qa:=
 match v with
 | .lst xs (.own _)=>t.set i (.lst xs .no)
 | _=>t
theorem qon (t:List qa) (i:Nat):qaF t (.t i) = qbI (lkp t i) i t:=rfl
theorem qom (t:List qa) (v:qa):qaF t (.c v) = t:=rfl
theorem qlC (b:Bool) (i:Nat) (t:List qa):qbI (.bool b) i t = t:=rfl
theorem qoh (k:IntKind) (n:Int) (i:Nat) (t:List qa):qbI (.int k n) i t = t:=rfl
theorem qok (b:List UInt8) (i:Nat) (t:List qa):qbI (.str b) i t = t:=rfl
theorem qiu (i:Nat) (t:List qa):qbI .nilptr i t = t:=rfl
theorem qoj (a o:Nat) (i:Nat) (t:List qa):qbI (.ptr a o) i t = t:=rfl
theorem qlE (cs:List qa) (o:Nat) (i:Nat) (t:List qa):qbI (.iptr cs o) i t = t:=rfl
theorem qof (cs:List qa) (i:Nat) (t:List qa):qbI (.agg cs) i t = t:=rfl
theorem qol (cs:List qa) (i:Nat) (t:List qa):qbI (.tup cs) i t = t:=rfl
theorem qsw (f:FuncId) (a b:List qa) (i:Nat) (t:List qa):qbI (.fn f a b) i t = t:=rfl
theorem qsx (xs:List qa) (i:Nat) (t:List qa):qbI (.lst xs .no) i t = t:=rfl
theorem qlD (xs:List qa) (i:Nat) (t:List qa):qbI (.lst xs .full) i t = t:=rfl
theorem qoi (xs:List qa) (k i:Nat) (t:List qa):qbI (.lst xs (.own k)) i t = up t i (.lst xs .no):=rfl
theorem qjE (ty:TypeId) (v:qa) (i:Nat) (t:List qa):qbI (.iface ty v) i t = t:=rfl
theorem qog (v:qa) (i:Nat) (t:List qa):qbI v.dim i t = t:=by
 cases v with
 | lst xs f=>cases f <;> rfl
 | _=>rfl
def qwa (v:Option qa) (vs:Option (List qa)):Option (List qa):=
 match v,vs with
 | some v,some vs=>some (v :: vs)
 | _,_=>none
theorem qx9:qat s [] = some []:=rfl
theorem qya (i:Nat) (rs:List qkB):qat s (.tmp i :: rs) = qwa (some (lkp s.t i).dim) (qat s rs):=by
 simp only [qat,lkp]
 cases qat s rs <;> rfl
theorem qud (a:Nat) (k:Option Nat) (rs:List qkB):qat s (.cell a k :: rs) = qwa (qdh s.h (lkp s.t a) k) (qat s rs):=by
 simp only [qat,lkp]
 cases qdh s.h (s.t.getD a .undef) k <;> cases qat s rs <;> rfl
theorem qly (v:qa) (vs:List qa):qwa (some v) (some vs) = some (v :: vs):=rfl
theorem qmG (v:qa):qbR [v] = v:=rfl
theorem qmF:qbR [] = .tup []:=rfl
theorem qmH (a b:qa) (vs:List qa):qbR (a :: b :: vs) = .tup (a :: b :: vs):=rfl
def qww (h:List qf) (s:St):Option (List qa)→Option (qcD×List qf×Bool)
 | some vs=>some (qaQ h.length (.ret (qbR vs)) s.h s.e)
 | none=>none
theorem qoz (h:List qf) (s:St) (vs:List qa):qww h s (some vs) = some (qaQ h.length (.ret (qbR vs)) s.h s.e):=rfl
theorem qwx (fn:qE) (h:List qf) (s:St):qjG fn h (some (.nor,s)) = qww h s (qat s fn.results):=by
 simp only [qjG];cases qat s fn.results <;> rfl
theorem qwy (fn:qE) (h:List qf) (s:St):qjG fn h (some (.ret,s)) = qww h s (qat s fn.results):=by
 simp only [qjG];cases qat s fn.results <;> rfl
end
end Go.AE
namespace Go.AE
section
theorem qqX (x:qk):(AOp.mov x).plain = true:=Eq.trans rfl rfl
theorem qsW (x:qk):(AOp.mov x).effs = false:=Eq.trans rfl rfl
theorem qpD (x:qk):(AOp.mov x).isApp = false:=Eq.trans rfl rfl
theorem qmR (c a b:qk):(AOp.pick c a b).plain = true:=Eq.trans rfl rfl
theorem qow (c a b:qk):(AOp.pick c a b).effs = false:=Eq.trans rfl rfl
theorem qme (c a b:qk):(AOp.pick c a b).isApp = false:=Eq.trans rfl rfl
theorem qkh (z:List qa) (ps:List (Nat×Nat×qk)):(AOp.build z ps).plain = true:=Eq.trans rfl rfl
theorem qlH (z:List qa) (ps:List (Nat×Nat×qk)):(AOp.build z ps).effs = false:=Eq.trans rfl rfl
theorem qjV (z:List qa) (ps:List (Nat×Nat×qk)):(AOp.build z ps).isApp = false:=Eq.trans rfl rfl
theorem qmP (k:Nat) (z:List qa) (l:Nat) (ps:List (Nat×qk)):(AOp.list k z l ps).plain = true:=Eq.trans rfl rfl
theorem qou (k:Nat) (z:List qa) (l:Nat) (ps:List (Nat×qk)):(AOp.list k z l ps).effs = false:=Eq.trans rfl rfl
theorem qmc (k:Nat) (z:List qa) (l:Nat) (ps:List (Nat×qk)):(AOp.list k z l ps).isApp = false:=Eq.trans rfl rfl
theorem qt2 (k:Option Nat) (a:qk):(AOp.ld k a).plain = true:=Eq.trans rfl rfl
theorem qwr (k:Option Nat) (a:qk):(AOp.ld k a).effs = false:=Eq.trans rfl rfl
theorem qtw (k:Option Nat) (a:qk):(AOp.ld k a).isApp = false:=Eq.trans rfl rfl
theorem qmQ (x:qk):(AOp.nilc x).plain = true:=Eq.trans rfl rfl
theorem qov (x:qk):(AOp.nilc x).effs = false:=Eq.trans rfl rfl
theorem qmd (x:qk):(AOp.nilc x).isApp = false:=Eq.trans rfl rfl
theorem qqH (op:BinOp) (x y:qk):(AOp.bin op x y).plain = true:=Eq.trans rfl rfl
theorem qsG (op:BinOp) (x y:qk):(AOp.bin op x y).effs = false:=Eq.trans rfl rfl
theorem qpn (op:BinOp) (x y:qk):(AOp.bin op x y).isApp = false:=Eq.trans rfl rfl
theorem qqO (n:Bool) (x y:qk):(AOp.eqb n x y).plain = true:=Eq.trans rfl rfl
theorem qsN (n:Bool) (x y:qk):(AOp.eqb n x y).effs = false:=Eq.trans rfl rfl
theorem qpu (n:Bool) (x y:qk):(AOp.eqb n x y).isApp = false:=Eq.trans rfl rfl
theorem qqP (k:Nat) (n:Bool) (x y:qk):(AOp.eqi k n x y).plain = true:=Eq.trans rfl rfl
theorem qsO (k:Nat) (n:Bool) (x y:qk):(AOp.eqi k n x y).effs = false:=Eq.trans rfl rfl
theorem qpv (k:Nat) (n:Bool) (x y:qk):(AOp.eqi k n x y).isApp = false:=Eq.trans rfl rfl
theorem qqN (n:Bool) (x y:qk):(AOp.eqa n x y).plain = true:=Eq.trans rfl rfl
theorem qsM (n:Bool) (x y:qk):(AOp.eqa n x y).effs = false:=Eq.trans rfl rfl
theorem qpt (n:Bool) (x y:qk):(AOp.eqa n x y).isApp = false:=Eq.trans rfl rfl
theorem qt5 (op:UnOp) (x:qk):(AOp.un op x).plain = true:=Eq.trans rfl rfl
theorem qwu (op:UnOp) (x:qk):(AOp.un op x).effs = false:=Eq.trans rfl rfl
theorem qtz (op:UnOp) (x:qk):(AOp.un op x).isApp = false:=Eq.trans rfl rfl
theorem qqK (k:IntKind) (x:qk):(AOp.cvi k x).plain = true:=Eq.trans rfl rfl
theorem qsJ (k:IntKind) (x:qk):(AOp.cvi k x).effs = false:=Eq.trans rfl rfl
theorem qpq (k:IntKind) (x:qk):(AOp.cvi k x).isApp = false:=Eq.trans rfl rfl
theorem qqL (x:qk):(AOp.cvs x).plain = true:=Eq.trans rfl rfl
theorem qsK (x:qk):(AOp.cvs x).effs = false:=Eq.trans rfl rfl
theorem qpr (x:qk):(AOp.cvs x).isApp = false:=Eq.trans rfl rfl
theorem qqM (x:qk):(AOp.cvt x).plain = true:=Eq.trans rfl rfl
theorem qsL (x:qk):(AOp.cvt x).effs = false:=Eq.trans rfl rfl
theorem qps (x:qk):(AOp.cvt x).isApp = false:=Eq.trans rfl rfl
theorem qqJ (x:qk):(AOp.cvb x).plain = true:=Eq.trans rfl rfl
theorem qsI (x:qk):(AOp.cvb x).effs = false:=Eq.trans rfl rfl
theorem qpp (x:qk):(AOp.cvb x).isApp = false:=Eq.trans rfl rfl
theorem qqW (t:TypeId) (x:qk):(AOp.mkI t x).plain = true:=Eq.trans rfl rfl
theorem qsV (t:TypeId) (x:qk):(AOp.mkI t x).effs = false:=Eq.trans rfl rfl
theorem qpC (t:TypeId) (x:qk):(AOp.mkI t x).isApp = false:=Eq.trans rfl rfl
theorem qqV (f:FuncId) (a b:List qk):(AOp.mkF f a b).plain = true:=Eq.trans rfl rfl
theorem qsU (f:FuncId) (a b:List qk):(AOp.mkF f a b).effs = false:=Eq.trans rfl rfl
theorem qpB (f:FuncId) (a b:List qk):(AOp.mkF f a b).isApp = false:=Eq.trans rfl rfl
theorem qmT (x:qk) (l h:Option qk):(AOp.subS x l h).plain = true:=Eq.trans rfl rfl
theorem qoy (x:qk) (l h:Option qk):(AOp.subS x l h).effs = false:=Eq.trans rfl rfl
theorem qmg (x:qk) (l h:Option qk):(AOp.subS x l h).isApp = false:=Eq.trans rfl rfl
theorem qmS (k:Nat) (x:qk) (l h:Option qk):(AOp.subL k x l h).plain = true:=Eq.trans rfl rfl
theorem qox (k:Nat) (x:qk) (l h:Option qk):(AOp.subL k x l h).effs = false:=Eq.trans rfl rfl
theorem qmf (k:Nat) (x:qk) (l h:Option qk):(AOp.subL k x l h).isApp = false:=Eq.trans rfl rfl
theorem qt1 (o:Nat) (a:qk):(AOp.fa o a).plain = true:=Eq.trans rfl rfl
theorem qwq (o:Nat) (a:qk):(AOp.fa o a).effs = false:=Eq.trans rfl rfl
theorem qtv (o:Nat) (a:qk):(AOp.fa o a).isApp = false:=Eq.trans rfl rfl
theorem qmO (k:Nat) (s i:qk):(AOp.ixaL k s i).plain = true:=Eq.trans rfl rfl
theorem qot (k:Nat) (s i:qk):(AOp.ixaL k s i).effs = false:=Eq.trans rfl rfl
theorem qmb (k:Nat) (s i:qk):(AOp.ixaL k s i).isApp = false:=Eq.trans rfl rfl
theorem qmN (n k:Nat) (a i:qk):(AOp.ixaA n k a i).plain = true:=Eq.trans rfl rfl
theorem qos (n k:Nat) (a i:qk):(AOp.ixaA n k a i).effs = false:=Eq.trans rfl rfl
theorem qma (n k:Nat) (a i:qk):(AOp.ixaA n k a i).isApp = false:=Eq.trans rfl rfl
theorem qqT (s i:qk):(AOp.ixS s i).plain = true:=Eq.trans rfl rfl
theorem qsS (s i:qk):(AOp.ixS s i).effs = false:=Eq.trans rfl rfl
theorem qpz (s i:qk):(AOp.ixS s i).isApp = false:=Eq.trans rfl rfl
theorem qqS (n:Nat) (k:Option Nat) (a i:qk):(AOp.ixA n k a i).plain = true:=Eq.trans rfl rfl
theorem qsR (n:Nat) (k:Option Nat) (a i:qk):(AOp.ixA n k a i).effs = false:=Eq.trans rfl rfl
theorem qpy (n:Nat) (k:Option Nat) (a i:qk):(AOp.ixA n k a i).isApp = false:=Eq.trans rfl rfl
theorem qqR (o:Nat) (k:Option Nat) (x:qk):(AOp.fld o k x).plain = true:=Eq.trans rfl rfl
theorem qsQ (o:Nat) (k:Option Nat) (x:qk):(AOp.fld o k x).effs = false:=Eq.trans rfl rfl
theorem qpx (o:Nat) (k:Option Nat) (x:qk):(AOp.fld o k x).isApp = false:=Eq.trans rfl rfl
theorem qqQ (x:qk) (i:Nat):(AOp.ext x i).plain = true:=Eq.trans rfl rfl
theorem qsP (x:qk) (i:Nat):(AOp.ext x i).effs = false:=Eq.trans rfl rfl
theorem qpw (x:qk) (i:Nat):(AOp.ext x i).isApp = false:=Eq.trans rfl rfl
theorem qqU (b:Bool) (x:qk):(AOp.len b x).plain = true:=Eq.trans rfl rfl
theorem qsT (b:Bool) (x:qk):(AOp.len b x).effs = false:=Eq.trans rfl rfl
theorem qpA (b:Bool) (x:qk):(AOp.len b x).isApp = false:=Eq.trans rfl rfl
theorem qt3 (b:Bool) (x y:qk):(AOp.mm b x y).plain = true:=Eq.trans rfl rfl
theorem qws (b:Bool) (x y:qk):(AOp.mm b x y).effs = false:=Eq.trans rfl rfl
theorem qtx (b:Bool) (x y:qk):(AOp.mm b x y).isApp = false:=Eq.trans rfl rfl
theorem qq1 (t:TypeId) (z:qa) (x:qk):(AOp.tas t z x).plain = true:=Eq.trans rfl rfl
theorem qsZ (t:TypeId) (z:qa) (x:qk):(AOp.tas t z x).effs = false:=Eq.trans rfl rfl
theorem qpG (t:TypeId) (z:qa) (x:qk):(AOp.tas t z x).isApp = false:=Eq.trans rfl rfl
theorem qqG (x:qk):(AOp.asg x).plain = false:=Eq.trans rfl rfl
theorem qsF (x:qk):(AOp.asg x).effs = true:=Eq.trans rfl rfl
theorem qpm (x:qk):(AOp.asg x).isApp = false:=Eq.trans rfl rfl
theorem qqY (cs:List qa):(AOp.new cs).plain = false:=Eq.trans rfl rfl
theorem qsX (cs:List qa):(AOp.new cs).effs = false:=Eq.trans rfl rfl
theorem qpE (cs:List qa):(AOp.new cs).isApp = false:=Eq.trans rfl rfl
theorem qqI (k:Nat) (x:qk):(AOp.box k x).plain = false:=Eq.trans rfl rfl
theorem qsH (k:Nat) (x:qk):(AOp.box k x).effs = false:=Eq.trans rfl rfl
theorem qpo (k:Nat) (x:qk):(AOp.box k x).isApp = false:=Eq.trans rfl rfl
theorem qt4 (k:Option Nat) (a x:qk):(AOp.st k a x).plain = false:=Eq.trans rfl rfl
theorem qwt (k:Option Nat) (a x:qk):(AOp.st k a x).effs = true:=Eq.trans rfl rfl
theorem qty (k:Option Nat) (a x:qk):(AOp.st k a x).isApp = false:=Eq.trans rfl rfl
theorem qmM (f:qk) (aS:List qk):(AOp.call f aS).plain = false:=Eq.trans rfl rfl
theorem qor (f:qk) (aS:List qk):(AOp.call f aS).effs = true:=Eq.trans rfl rfl
theorem ql9 (f:qk) (aS:List qk):(AOp.call f aS).isApp = false:=Eq.trans rfl rfl
theorem qqF (k:Nat) (x y:qk):(AOp.app k x y).plain = false:=Eq.trans rfl rfl
theorem qsE (k:Nat) (x y:qk):(AOp.app k x y).effs = true:=Eq.trans rfl rfl
theorem qpl (k:Nat) (x y:qk):(AOp.app k x y).isApp = true:=Eq.trans rfl rfl
theorem qq0 (x:qk):(AOp.pan x).plain = false:=Eq.trans rfl rfl
theorem qsY (x:qk):(AOp.pan x).effs = true:=Eq.trans rfl rfl
theorem qpF (x:qk):(AOp.pan x).isApp = false:=Eq.trans rfl rfl
theorem qj9 (n:Nat):qa.undef.lower n = true:=Eq.trans rfl rfl
theorem qmv (n:Nat) (b:Bool):(qa.bool b).lower n = true:=Eq.trans rfl rfl
theorem qqg (n:Nat) (k:IntKind) (z:Int):(qa.int k z).lower n = true:=Eq.trans rfl rfl
theorem qqj (n:Nat) (s:List UInt8):(qa.str s).lower n = true:=Eq.trans rfl rfl
theorem qiP (n:Nat):qa.nilptr.lower n = true:=Eq.trans rfl rfl
theorem qqi (n i o:Nat):(qa.ptr i o).lower n = Nat.blt i n:=Eq.trans rfl rfl
theorem qql (n i:Nat):(qa.yld i).lower n = Nat.blt i n:=Eq.trans rfl rfl
theorem qmw (n o:Nat) (cs:List qa):(qa.iptr cs o).lower n = qy n cs:=Eq.trans rfl rfl
theorem qqh (n:Nat) (xs:List qa) (f:qfQ):(qa.lst xs f).lower n = qy n xs:=Eq.trans rfl rfl
theorem qhQ (n:Nat):qa.nilfunc.lower n = true:=Eq.trans rfl rfl
theorem qgW (n:Nat):qa.niliface.lower n = true:=Eq.trans rfl rfl
theorem qj8 (n:Nat) (t:TypeId) (v:qa):(qa.iface t v).lower n = v.lower n:=Eq.trans rfl rfl
theorem qtN (n:Nat) (f:FuncId) (a b:List qa):(qa.fn f a b).lower n = (qy n a && qy n b):=Eq.trans rfl rfl
theorem qqf (n:Nat) (cs:List qa):(qa.agg cs).lower n = qy n cs:=Eq.trans rfl rfl
theorem qqk (n:Nat) (cs:List qa):(qa.tup cs).lower n = qy n cs:=Eq.trans rfl rfl
theorem qmt (n:Nat):qy n [] = true:=Eq.trans rfl rfl
theorem qdj (n:Nat) (v:qa) (vs:List qa):qy n (v :: vs) = (v.lower n && qy n vs):=Eq.trans rfl rfl
def qeo (rs:List qkB) (h:List qf):Option (Ex×St)→Option (qcD×List qf×Bool)
 | some (.nor,s) | some (.ret,s)=>qww h s (qat s rs)
 | some (.pan v,s)=>some (qaQ h.length (.pan v) s.h s.e)
 | _=>none
theorem qwv (fn:qE) (h:List qf) (r:Option (Ex×St)):qjG fn h r = qeo fn.results h r:=by
 cases r with
 | none=>rfl
 | some r=>obtain ⟨x,s⟩:=r;cases x <;> first | rfl | exact qwx _ _ _ | exact qwy _ _ _
theorem qs0 (rs:List qkB) (h:List qf) (s:St):qeo rs h (some (.nor,s)) = qww h s (qat s rs):=rfl
theorem qs2 (rs:List qkB) (h:List qf) (s:St):qeo rs h (some (.ret,s)) = qww h s (qat s rs):=rfl
theorem qs1 (rs:List qkB) (h:List qf) (s:St) (v:qa):qeo rs h (some (.pan v,s)) = some (qaQ h.length (.pan v) s.h s.e):=rfl
theorem qDk {F:FuncId→Option qE} {X:qf3} (hX:qlo X) {f:FuncId} {first args cap:List qa} {h:List qf} {fn:qE} (h1:X f = none) (h2:F f = some fn) :
  W F X (.fn f first cap) args h = qeo fn.results h (qo h.length (W F X) fn.code ⟨(first ++ args ++ cap).map qa.dim ++ List.replicate (fn.ntmps - ((first ++ args ++ cap).map qa.dim).length) (.tup []),h,false⟩):=by
 rw [qDj hX h1 h2,qwv]
end
end Go.AE
namespace Go.AE
section
variable {h:List qf}
theorem qnH (cs:List qa):(qa.agg cs).cells = cs:=rfl
theorem qnI (k:IntKind) (n:Int):(qa.int k n).cells = [.int k n]:=rfl
theorem qnL (s:List UInt8):(qa.str s).cells = [.str s]:=rfl
theorem qlw (b:Bool):(qa.bool b).cells = [.bool b]:=rfl
theorem qnJ (xs:List qa) (f:qfQ):(qa.lst xs f).cells = [.lst xs f]:=rfl
theorem qnK (i o:Nat):(qa.ptr i o).cells = [.ptr i o]:=rfl
theorem qin:qa.nilptr.cells = [.nilptr]:=rfl
theorem qsg (f:FuncId) (a b:List qa):(qa.fn f a b).cells = [.fn f a b]:=rfl
theorem qgU:qa.niliface.cells = [.niliface]:=rfl
theorem qjv (t:TypeId) (v:qa):(qa.iface t v).cells = [.iface t v]:=rfl
theorem qnM (i:Nat):(qa.yld i).cells = [.yld i]:=rfl
theorem qup (k:IntKind) (n:Int):(qa.int k n).storable = true:=Eq.trans rfl rfl
theorem qus (s:List UInt8):(qa.str s).storable = true:=Eq.trans rfl rfl
theorem qrt (b:Bool):(qa.bool b).storable = true:=Eq.trans rfl rfl
theorem quq (xs:List qa) (f:qfQ):(qa.lst xs f).storable = true:=Eq.trans rfl rfl
theorem qur (i o:Nat):(qa.ptr i o).storable = true:=Eq.trans rfl rfl
theorem qru (cs:List qa) (o:Nat):(qa.iptr cs o).storable = true:=Eq.trans rfl rfl
theorem qkv:qa.nilptr.storable = true:=Eq.trans rfl rfl
theorem qi7:qa.nilfunc.storable = true:=Eq.trans rfl rfl
theorem qym (f:FuncId) (a b:List qa):(qa.fn f a b).storable = true:=Eq.trans rfl rfl
theorem qut (i:Nat):(qa.yld i).storable = true:=Eq.trans rfl rfl
theorem qh5:qa.niliface.storable = true:=Eq.trans rfl rfl
theorem qmZ (t:TypeId) (v:qa):(qa.iface t v).storable = true:=Eq.trans rfl rfl
theorem qhD (c:qa) (cs:List qa) (o k:Nat):cut (c :: cs) o (some k) = if o + k ≤ (c :: cs).length then some (.agg ((((c :: cs).drop o).take k).map qa.dim)) else none:=rfl
def ldB (k:Option Nat) (o:Nat):Option qf→Option qa
 | some (.cells cs)=>cut cs o k
 | _=>none
theorem qtE (i o:Nat) (k:Option Nat):qdh h (.ptr i o) k = ldB k o h[i]?:=by
 simp only [qdh,ldB]
 cases h[i]? with
 | none=>rfl
 | some b=>cases b <;> rfl
theorem qpP (k:Option Nat) (o:Nat) (cs:List qa):ldB k o (some (.cells cs)) = cut cs o k:=rfl
def qCp (k:Option Nat) (v:qa):List qa:=
 match k with
 | none=>[v]
 | some _=>v.dim.cells.map qa.dim
theorem qq8 (v:qa):qCp none v = [v]:=rfl
theorem qq9 (k:Nat) (v:qa):qCp (some k) v = v.dim.cells.map qa.dim:=rfl
def stB (base:Nat) (k:Option Nat) (id o:Nat) (vs:List qa) (h:List qf):Option qf→Option (List qf×Bool)
 | some (.cells cs)=>if vs.length = k.getD 1∧o + vs.length ≤ cs.length∧vs.all qa.storable then some (h.set id (.cells (splice cs o vs)),!(Nat.ble base id || qy (id + 1) vs)) else none
 | _=>none
theorem qyj (base:Nat) (k:Option Nat) (id o:Nat) (v:qa):stV base k (.ptr id o) v h = stB base k id o (qCp k v) h h[id]?:=by
 simp only [stV,stB]
 cases h[id]? with
 | none=>rfl
 | some b=>cases b <;> cases k <;> rfl
theorem qrs (base:Nat) (k:Option Nat) (id o:Nat) (vs cs:List qa):stB base k id o vs h (some (.cells cs)) = if vs.length = k.getD 1∧o + vs.length ≤ cs.length∧vs.all qa.storable then some (h.set id (.cells (splice cs o vs)),!(Nat.ble base id || qy (id + 1) vs)) else none:=rfl
theorem qfa (h:List qf) (k:Nat):Nat.ble h.length (h.length + k) = true:=Nat.ble_eq_true_of_le (Nat.le_add_right _ _)
theorem qau {a b:Nat} (h:a ≤ b):Nat.ble a b = true:=Nat.ble_eq_true_of_le h
end
end Go.AE
namespace Go.AE
theorem qgr {e r:Option (Ex×St)} (hr:e = r) {Q:Ex→St→Prop} (h:∃x s',e = some (x,s')∧Q x s'):∃x s',r = some (x,s')∧Q x s':=hr▸h
end Go.AE
namespace Go.AE
mutual
theorem qhB:∀v:qa,v.beq v = true
 | .undef | .nilptr | .nilfunc | .niliface | .nilmap | .nils | .empt=>rfl
 | .sl ..=>by simp [qa.beq]
 | .mp i=>by simp [qa.beq]
 | .bool b=>by simp [qa.beq]
 | .int k n=>by simp [qa.beq]
 | .str s=>by simp [qa.beq]
 | .ptr i o=>by simp [qa.beq]
 | .iptr cs o=>by simp [qa.beq,qb8 cs]
 | .lst xs f=>by simp [qa.beq,qb8 xs]
 | .fn f a b=>by simp [qa.beq,qb8 a,qb8 b]
 | .yld i=>by simp [qa.beq]
 | .iface t v=>by simp [qa.beq,qhB v]
 | .agg cs=>by simp [qa.beq,qb8 cs]
 | .tup cs=>by simp [qa.beq,qb8 cs]
theorem qb8:∀vs:List qa,qjg vs vs = true
 | []=>rfl
 | v :: vs=>by simp [qjg,qhB v,qb8 vs]
end
section
variable {base:Nat} {call:Call} {dsts:List Nat} {s:St} {pend:List (Nat×Chk)} {h:List qf}
def qeD (h:List qf):List (Nat×Chk)→Bool
 | []=>true
 | c :: cs=>c.2.ok h && qeD h cs
theorem qsi:qeD h [] = true:=Eq.trans rfl rfl
theorem qnP (i:Nat) (c:Chk) (cs:List (Nat×Chk)):qeD h ((i,c) :: cs) = (c.ok h && qeD h cs):=rfl
theorem qsh (l:List (Nat×Chk)):l.all (fun c=>c.2.ok h) = qeD h l:=by
 induction l with
 | nil=>rfl
 | cons c l ih=>simp only [List.all_cons,qeD,ih]
def qC1 (v:qa):Option qa→Bool
 | some w=>v.beq w
 | none=>false
theorem qnx (v:qa):qC1 v (some v) = true:=qhB v
theorem qy7 (a:qa) (k:Option Nat) (v:qa):Chk.ok h (.ld a k v) = qC1 v (qdh h a k):=by
 simp only [Chk.ok];cases qdh h a k <;> rfl
def qC0 (cs:List qa):Option qf→Bool
 | some (.cells ds)=>qjg cs ds
 | _=>false
theorem qnv (cs:List qa):qC0 cs (some (.cells cs)) = true:=qb8 cs
theorem qv7 (id:Nat) (cs:List qa):Chk.ok h (.box id cs) = qC0 cs h[id]?:=by
 simp only [Chk.ok]
 cases h[id]? with
 | none=>rfl
 | some b=>cases b <;> rfl
def qeh (cl:Nat):List (Nat×Chk)→List (Nat×Chk)
 | []=>[]
 | c :: cs=>bif cl.testBit c.1 then qeh cl cs else c :: qeh cl cs
theorem qlP (cl:Nat):qeh cl [] = []:=rfl
theorem qjN (cl i:Nat) (c:Chk) (cs:List (Nat×Chk)):qeh cl ((i,c) :: cs) = bif cl.testBit i then qeh cl cs else (i,c) :: qeh cl cs:=rfl
theorem qoL (cl:Nat) (l:List (Nat×Chk)):l.filter (fun c=>!cl.testBit c.1) = qeh cl l:=by
 induction l with
 | nil=>rfl
 | cons c l ih=>
  simp only [List.filter_cons,qeh,ih]
  cases cl.testBit c.1 <;> rfl
def qsy (dsts:List Nat) (pend:List (Nat×Chk)) (k:List (Nat×Chk)→St→Option (Ex×St)):Option (Ex×St)→Option (Ex×St)
 | some (.nor,s)=>bif qeD s.h pend then k pend s else none
 | some (.pan v,s)=>some (.pan v,{ s with t:=qcs dsts s.t})
 | _=>none
theorem qoo (k:List (Nat×Chk)→St→Option (Ex×St)) (s:St):qsy dsts pend k (some (.nor,s)) = bif qeD s.h pend then k pend s else none:=rfl
theorem qop (k:List (Nat×Chk)→St→Option (Ex×St)) (t:List qa) (e:Bool) (v:qa):qsy dsts pend k (some (.pan v,⟨t,h,e⟩)) = some (.pan v,⟨qcs dsts t,h,e⟩):=rfl
theorem qsC:qK base call dsts [] pend s = some (.nor,s):=rfl
theorem qsA {d:Option Nat} {o:AOp} {ix cl:Nat} {ds:List qN} (ho:o.effs = true):qK base call dsts (⟨⟨d,o,none⟩,ix,cl⟩ :: ds) pend s = qsy dsts (qeh cl pend) (qK base call dsts ds) (qq base call [] d o s):=by
 simp only [qK,wanted,ho,if_true,qsh,qoL]
 cases hr:qq base call [] d o s with
 | none=>rfl
 | some r=>
  obtain ⟨x,s'⟩:=r
  cases x with
  | nor=>simp only [qsy];cases qeD s'.h (qeh cl pend) <;> rfl
  | pan v=>rfl
  | exit i=>rfl
  | ret=>rfl
def AOp.light:AOp→Bool
 | .asg .. | .new .. | .box .. | .st .. | .call .. | .app .. | .pan .. | .ld .. | .hx .. | .lk ..=>false
 | _=>true
theorem qlF {d:Option Nat} {o:AOp} {ix cl:Nat} {ds:List qN} (ho:o.light = true):qK base call dsts (⟨⟨d,o,none⟩,ix,cl⟩ :: ds) pend s = qbN (qK base call dsts ds pend) (qq base call [] d o s):=by
 have he:o.effs = false:=by cases o <;> simp_all [AOp.light,AOp.effs]
 have hc:qeC s o = none:=by cases o <;> simp_all [AOp.light,qeC]
 simp only [qK,wanted,he,Bool.false_eq_true,if_false,hc]
 cases hr:qq base call [] d o s with
 | none=>rfl
 | some r=>
  obtain ⟨x,s'⟩:=r
  have:=qCj he hr
  subst this
  rfl
def ldD (d:Option Nat) (s:St) (a:qa) (k:Option Nat) (ix:Nat) (pend:List (Nat×Chk)) (f:List (Nat×Chk)→St→Option (Ex×St)):Option qa→Option (Ex×St)
 | some v=>f ((ix,.ld a k v) :: pend) { s with t:=put d v s.t}
 | none=>none
theorem qtF (d:Option Nat) (t:List qa) (e:Bool) (a:qa) (k:Option Nat) (ix:Nat) (f:List (Nat×Chk)→St→Option (Ex×St)) (v:qa):ldD d ⟨t,h,e⟩ a k ix pend f (some v) = f ((ix,.ld a k v) :: pend) ⟨put d v t,h,e⟩:=rfl
theorem qwo {d:Option Nat} {k:Option Nat} {a:qk} {ix cl:Nat} {ds:List qN}:qK base call dsts (⟨⟨d,.ld k a,none⟩,ix,cl⟩ :: ds) pend s = ldD d s (ev s.t a) k ix pend (qK base call dsts ds) (qdh s.h (ev s.t a) k):=by
 simp only [qK,wanted,AOp.effs,Bool.false_eq_true,if_false,qeC,qq]
 cases qdh s.h (ev s.t a) k <;> rfl
theorem qsB {d:Option Nat} {cs:List qa} {ix cl:Nat} {ds:List qN}:qK base call dsts (⟨⟨d,.new cs,none⟩,ix,cl⟩ :: ds) pend s = qK base call dsts ds ((ix,.box s.h.length (cs.map qa.dim)) :: pend) { s with t:=put d (.ptr s.h.length 0) s.t,h:=s.h ++ [.cells (cs.map qa.dim)]}:=by
 simp only [qK,wanted,AOp.effs,Bool.false_eq_true,if_false,qeC,qq]
end
end Go.AE
namespace Go.AE
theorem qp8 (x:qk):(AOp.mov x).light = true:=Eq.trans rfl rfl
theorem qmq (c a b:qk):(AOp.pick c a b).light = true:=Eq.trans rfl rfl
theorem qj6 (z:List qa) (ps:List (Nat×Nat×qk)):(AOp.build z ps).light = true:=Eq.trans rfl rfl
theorem qmo (k:Nat) (z:List qa) (l:Nat) (ps:List (Nat×qk)):(AOp.list k z l ps).light = true:=Eq.trans rfl rfl
theorem qmp (x:qk):(AOp.nilc x).light = true:=Eq.trans rfl rfl
theorem qpT (op:BinOp) (x y:qk):(AOp.bin op x y).light = true:=Eq.trans rfl rfl
theorem qpZ (n:Bool) (x y:qk):(AOp.eqb n x y).light = true:=Eq.trans rfl rfl
theorem qp0 (k:Nat) (n:Bool) (x y:qk):(AOp.eqi k n x y).light = true:=Eq.trans rfl rfl
theorem qpY (n:Bool) (x y:qk):(AOp.eqa n x y).light = true:=Eq.trans rfl rfl
theorem qtK (op:UnOp) (x:qk):(AOp.un op x).light = true:=Eq.trans rfl rfl
theorem qpV (k:IntKind) (x:qk):(AOp.cvi k x).light = true:=Eq.trans rfl rfl
theorem qpW (x:qk):(AOp.cvs x).light = true:=Eq.trans rfl rfl
theorem qpX (x:qk):(AOp.cvt x).light = true:=Eq.trans rfl rfl
theorem qpU (x:qk):(AOp.cvb x).light = true:=Eq.trans rfl rfl
theorem qp7 (t:TypeId) (x:qk):(AOp.mkI t x).light = true:=Eq.trans rfl rfl
theorem qp6 (f:FuncId) (a b:List qk):(AOp.mkF f a b).light = true:=Eq.trans rfl rfl
theorem qms (x:qk) (l h:Option qk):(AOp.subS x l h).light = true:=Eq.trans rfl rfl
theorem qmr (k:Nat) (x:qk) (l h:Option qk):(AOp.subL k x l h).light = true:=Eq.trans rfl rfl
theorem qtI (o:Nat) (a:qk):(AOp.fa o a).light = true:=Eq.trans rfl rfl
theorem qmn (k:Nat) (s i:qk):(AOp.ixaL k s i).light = true:=Eq.trans rfl rfl
theorem qmm (n k:Nat) (a i:qk):(AOp.ixaA n k a i).light = true:=Eq.trans rfl rfl
theorem qp4 (s i:qk):(AOp.ixS s i).light = true:=Eq.trans rfl rfl
theorem qp3 (n:Nat) (k:Option Nat) (a i:qk):(AOp.ixA n k a i).light = true:=Eq.trans rfl rfl
theorem qp2 (o:Nat) (k:Option Nat) (x:qk):(AOp.fld o k x).light = true:=Eq.trans rfl rfl
theorem qp1 (x:qk) (i:Nat):(AOp.ext x i).light = true:=Eq.trans rfl rfl
theorem qp5 (b:Bool) (x:qk):(AOp.len b x).light = true:=Eq.trans rfl rfl
theorem qtJ (b:Bool) (x y:qk):(AOp.mm b x y).light = true:=Eq.trans rfl rfl
theorem qp9 (t:TypeId) (z:qa) (x:qk):(AOp.tas t z x).light = true:=Eq.trans rfl rfl
end Go.AE
namespace Go.AE
section
variable {base:Nat} {call:Call} {p:qco} {s:St} {t:List qa} {h:List qf}
def qc8 (k:Nat) (xs ys:List qa):Bool:=decide (xs.length + ys.length ≤ qu) && ys.all (fun y=>y.cells.length == k && y.cells.all qa.storable) && xs.head?.all (fun y=>y.cells.length == k)
def qyM (d:Option Nat) (k:Nat) (ys:List qa):Option (List qa×St)→Option (Ex×St)
 | some (xs,s)=>if xs.head?.all (fun y=>y.cells.length == k) then some (.nor,{ s with t:=put d (.lst (xs ++ ys) (.own k)) s.t}) else none
 | none=>none
def qr7 (d:Option Nat) (k:Nat) (s:St) (tk:Option (List qa×St)) (x:qa) (ys:Option (List qa)):Option (Ex×St):=
 match x,ys with
 | .lst xs f,some ys=>
  if ys.isEmpty then some (.nor,{ s with t:=put d (qa.lst xs f).dim s.t})
  else if qc8 k xs ys = true then
   match f with
   | .full=>some (.nor,{ s with t:=put d (.lst (xs ++ ys) (.own k)) s.t})
   | _=>qyM d k ys tk
  else none
 | _,_=>none
theorem qzY (d:Option Nat) (k:Nat) (x y:qk):qq base call p d (.app k x y) s = qr7 d k s (qdR k p x s) (raw s.t x) (tail (ev s.t y)):=by
 simp only [qq,qr7,qc8,Bool.and_eq_true,decide_eq_true_eq,and_assoc]
 generalize raw s.t x = v
 generalize tail (ev s.t y) = w
 generalize qdR k p x s = z
 cases v <;> rfl
theorem qux (ys:List qa) (f:qfQ):tail (.lst ys f) = some ys:=rfl
theorem quy (b:List UInt8):tail (.str b) = some (qhL b):=rfl
theorem qvE (d:Option Nat) (k:Nat) (t:List qa) (e:Bool) (tk:Option (List qa×St)) (xs:List qa) (f:qfQ):qr7 d k ⟨t,h,e⟩ tk (.lst xs f) (some []) = some (.nor,⟨put d (qa.lst xs f).dim t,h,e⟩):=rfl
theorem qr8 {d:Option Nat} {k:Nat} {t:List qa} {e:Bool} {tk:Option (List qa×St)} {xs ys:List qa} (hy:ys.isEmpty = false) (hc:qc8 k xs ys = true):qr7 d k ⟨t,h,e⟩ tk (.lst xs .full) (some ys) = some (.nor,⟨put d (.lst (xs ++ ys) (.own k)) t,h,e⟩):=by
 simp only [qr7,hy,hc,Bool.false_eq_true,if_false,if_true]
theorem qvF {d:Option Nat} {k j:Nat} {s:St} {tk:Option (List qa×St)} {xs ys:List qa} (hy:ys.isEmpty = false) (hc:qc8 k xs ys = true):qr7 d k s tk (.lst xs (.own j)) (some ys) = qyM d k ys tk:=by
 simp only [qr7,hy,hc,Bool.false_eq_true,if_false,if_true]
theorem qyN {d:Option Nat} {k:Nat} {s:St} {tk:Option (List qa×St)} {xs ys:List qa} (hy:ys.isEmpty = false) (hc:qc8 k xs ys = true):qr7 d k s tk (.lst xs .no) (some ys) = qyM d k ys tk:=by
 simp only [qr7,hy,hc,Bool.false_eq_true,if_false,if_true]
theorem qnq {d:Option Nat} {k:Nat} {t:List qa} {e:Bool} {xs ys:List qa} (hc:qc8 k xs ys = true):qyM d k ys (some (xs,⟨t,h,e⟩)) = some (.nor,⟨put d (.lst (xs ++ ys) (.own k)) t,h,e⟩):=by
 simp only [qc8,Bool.and_eq_true] at hc
 simp only [qyM,hc.2,if_true]
def qai (p:qco) (i:Nat):Option Src:=(p.find? (·.1 == i)).map (·.2)
def quA (k b:Nat) (s:St) (v:qa):Option (List qa×St):=
 match v with
 | .lst xs (.own j)=>if j = k then some (xs,{ s with t:=s.t.set b (.lst xs .no)}) else none
 | _=>none
def qyu (k:Nat) (s:St) (id o:Nat) (c:Option qf):Option (List qa×St):=
 match c with
 | some (.cells cs)=>
  match cs[o]? with
  | some (.lst xs (.own j))=>if j = k then some (xs,{ s with h:=s.h.set id (.cells (cs.set o (.lst xs .no)))}) else none
  | _=>none
 | _=>none
def quz (k:Nat) (s:St) (a:qa):Option (List qa×St):=
 match a with
 | .ptr id o=>qyu k s id o s.h[id]?
 | _=>none
def qm3 (k:Nat) (s:St):Option Src→Option (List qa×St)
 | some (.tmp b)=>quA k b s (lkp s.t b)
 | some (.cell a)=>quz k s (ev s.t a)
 | none=>none
def qrB (k i:Nat) (s:St) (v:qa) (src:Option Src):Option (List qa×St):=
 match v with
 | .lst xs (.own j)=>if j = k then some (xs,{ s with t:=s.t.set i (.lst xs .no)}) else none
 | _=>qm3 k s src
theorem qyw (k:Nat) (i:Nat):qdR k p (.t i) s = qrB k i s (lkp s.t i) (qai p i):=by
 simp only [qdR,qrB,lkp,qai]
 generalize hv:s.t.getD i .undef = v
 have key:(match p.find? (·.1 == i) with
   | some (_,.tmp b)=>
    match s.t.getD b .undef with
    | .lst xs (.own j)=>if j = k then some (xs,{ s with t:=s.t.set b (.lst xs .no)}) else none
    | _=>none
   | some (_,.cell a)=>
    match ev s.t a with
    | .ptr id o=>
     match s.h[id]? with
     | some (.cells cs)=>
      match cs[o]? with
      | some (.lst xs (.own j))=>if j = k then some (xs,{ s with h:=s.h.set id (.cells (cs.set o (.lst xs .no)))}) else none
      | _=>none
     | _=>none
    | _=>none
   | none=>none) = qm3 k s ((p.find? (·.1 == i)).map (·.2)):=by
  cases p.find? (·.1 == i) with
  | none=>rfl
  | some q=>
   obtain ⟨_,src⟩:=q
   cases src with
   | tmp b=>rfl
   | cell a=>
    simp only [Option.map_some,qm3,quz]
    cases ev s.t a <;> rfl
 cases v with
 | lst xs f=>cases f <;> first | rfl | exact key
 | _=>exact key
theorem qrC (k i:Nat) (t:List qa) (e:Bool) (xs:List qa) (src:Option Src):qrB k i ⟨t,h,e⟩ (.lst xs (.own k)) src = some (xs,⟨up t i (.lst xs .no),h,e⟩):=by simp [qrB,up]
theorem quB (k i:Nat) (xs:List qa) (src:Option Src):qrB k i s (.lst xs .no) src = qm3 k s src:=rfl
theorem qrz (k b:Nat):qm3 k s (some (.tmp b)) = quA k b s (lkp s.t b):=rfl
theorem qm4 (k:Nat) (a:qk):qm3 k s (some (.cell a)) = quz k s (ev s.t a):=rfl
theorem qrA (k b:Nat) (t:List qa) (e:Bool) (xs:List qa):quA k b ⟨t,h,e⟩ (.lst xs (.own k)) = some (xs,⟨up t b (.lst xs .no),h,e⟩):=by simp [quA,up]
theorem qry (k id o:Nat):quz k s (.ptr id o) = qyu k s id o s.h[id]?:=rfl
def qyv (k:Nat) (s:St) (id o:Nat) (cs:List qa) (v:Option qa):Option (List qa×St):=
 match v with
 | some (.lst xs (.own j))=>if j = k then some (xs,{ s with h:=s.h.set id (.cells (cs.set o (.lst xs .no)))}) else none
 | _=>none
theorem qkw (k id o:Nat) (cs:List qa):qyu k s id o (some (.cells cs)) = qyv k s id o cs cs[o]?:=rfl
theorem qrx (k id o:Nat) (t:List qa) (e:Bool) (cs xs:List qa):qyv k ⟨t,h,e⟩ id o cs (some (.lst xs (.own k))) = some (xs,⟨t,h.set id (.cells (cs.set o (.lst xs .no))),e⟩):=by simp [qyv]
theorem qyi (i:Nat):qai [] i = none:=rfl
def qak (p:qco) (d:Option Nat) (o:AOp):qco:=
 match d with
 | none=>p
 | some d=>
  let q:=p.filter fun x=>x.1 != d && !x.2.hangs d
  match qD o with
  | some s=>if s.hangs d then q else (d,s) :: q
  | none=>q
def qal (p:qco) (d:Option Nat):qco:=
 match d with
 | none=>p.filter fun x=>x.2.isTmp
 | some d=>p.filter fun x=>x.2.isTmp && (x.1 != d && !x.2.hangs d)
theorem qua {d:Option Nat} {o:AOp} {g:Option (Nat×Bool)} (ho:o.effs = true):qaJ p ⟨d,o,g⟩ = qal p d:=by simp only [qaJ,ho,if_true,qal];cases d <;> rfl
theorem qx2 {d:Option Nat} {o:AOp} {g:Option (Nat×Bool)} (ho:o.effs = false):qaJ p ⟨d,o,g⟩ = qak p d o:=by simp only [qaJ,ho,Bool.false_eq_true,if_false,qak];cases d <;> rfl
end
end Go.AE
namespace Go.AE
theorem qvR (k:IntKind) (a b:Int):qcp .add (.int k a) (.int k b) = some (.int k (k.wrap (a + b))):=by simp [qcp,qcx]
theorem qv1 (k:IntKind) (a b:Int):qcp .sub (.int k a) (.int k b) = some (.int k (k.wrap (a - b))):=by simp [qcp,qcx]
theorem qvX (k:IntKind) (a b:Int):qcp .mul (.int k a) (.int k b) = some (.int k (k.wrap (a * b))):=by simp [qcp,qcx]
theorem qvZ (k:IntKind) (a b:Int):qcp .quo (.int k a) (.int k b) = if b = 0 then none else some (.int k (k.wrap (a.tdiv b))):=by simp [qcp,qcx]
theorem qv0 (k:IntKind) (a b:Int):qcp .rem (.int k a) (.int k b) = if b = 0 then none else some (.int k (a.tmod b)):=by simp [qcp,qcx]
theorem qvS (k:IntKind) (a b:Int):qcp .eql (.int k a) (.int k b) = some (.bool (a == b)):=by simp [qcp,qcx]
theorem qvY (k:IntKind) (a b:Int):qcp .neq (.int k a) (.int k b) = some (.bool (!(a == b))):=by simp [qcp,qcx,bne]
theorem qvW (k:IntKind) (a b:Int):qcp .lss (.int k a) (.int k b) = some (.bool (ilt a b)):=by simp [qcp,qcx]
theorem qvV (k:IntKind) (a b:Int):qcp .leq (.int k a) (.int k b) = some (.bool (ile a b)):=by simp [qcp,qcx]
theorem qvU (k:IntKind) (a b:Int):qcp .gtr (.int k a) (.int k b) = some (.bool (ilt b a)):=by simp [qcp,qcx]
theorem qvT (k:IntKind) (a b:Int):qcp .geq (.int k a) (.int k b) = some (.bool (ile b a)):=by simp [qcp,qcx]
theorem qyn (a b:List UInt8):qcp .add (.str a) (.str b) = if a.length + b.length ≤ qu then some (.str (a ++ b)) else none:=rfl
theorem qyo (a b:List UInt8):qcp .eql (.str a) (.str b) = some (.bool (a == b)):=rfl
theorem qyr (a b:List UInt8):qcp .neq (.str a) (.str b) = some (.bool (!(a == b))):=rfl
theorem qyq (a b:List UInt8):qcp .lss (.str a) (.str b) = some (.bool (Op.bytesLess a b)):=rfl
theorem qyp (a b:List UInt8):qcp .gtr (.str a) (.str b) = some (.bool (!(Op.bytesLess a b || a == b))):=rfl
theorem qAm (k:IntKind) (n:Int):unV .neg (.int k n) = some (.int k (k.wrap (0 - n))):=rfl
theorem qAn (b:Bool):unV .not (.bool b) = some (.bool (!b)):=rfl
end Go.AE
namespace Go.AE
section
variable {base:Nat} {call:Call} {p:qco} {s:St}
def qer (k:Nat) (zero:List qa) (len:Nat) (parts:List (Nat×qa)):Option qa:=
 if zero.length = k∧len * k ≤ 2 ^ 24 then
  match qI ((List.replicate len zero).flatten) (parts.map fun (i,x)=>(i * k,k,x)) with
  | some cs=>if cs.all qa.storable then some (.lst ((List.range len).map fun i=>if k = 1 then (cs.getD i .undef) else .agg ((cs.drop (i * k)).take k)) .full) else none
  | none=>none
 else none
theorem qxY (d:Option Nat) (k:Nat) (z:List qa) (len:Nat) (ps:List (Nat×qk)):qq base call p d (.list k z len ps) s = qfJ d s (qer k z len (ps.map fun (i,x)=>(i,ev s.t x))):=by
 rw [qa3 _ _ rfl (by simp) (by simp) (by simp)]
 simp only [pureV,qer,List.map_map]
 rfl
theorem qiz {k:Nat} {z:List qa} (hz:z.length = k):∀(vs:List qa) (D:List qa) (j:Nat),D.length = j * k→(∀v ∈ vs,v.cells.length = k∧v.cells.all qa.storable = true)→
  qI (D ++ (List.replicate vs.length z).flatten) ((vs.zipIdx j).map fun x=>(x.2 * k,k,x.1)) = some (D ++ (vs.map qa.cells).flatten)
 | [],D,j,_,_=>by simp [qI]
 | v :: vs,D,j,hD,hv=>by
  obtain ⟨h1,h2⟩:=hv v (List.mem_cons_self ..)
  have ih:=qiz hz vs (D ++ v.cells) (j + 1) (by rw [List.length_append,hD,h1,Nat.add_mul,Nat.one_mul]) fun w hw=>hv w (List.mem_cons_of_mem _ hw)
  simp only [List.zipIdx_cons,List.map_cons,qI,List.length_cons,List.replicate_succ,List.flatten_cons,h2]
  rw [if_pos ⟨h1,by simp [hD,hz],trivial⟩]
  have e:splice (D ++ (z ++ (List.replicate vs.length z).flatten)) (j * k) v.cells = (D ++ v.cells) ++ (List.replicate vs.length z).flatten:=by
   unfold splice
   rw [←hD,List.take_left,h1,←List.drop_drop,List.drop_left,←hz,List.drop_left]
  rw [e,ih,List.append_assoc]
theorem qiB {k:Nat}:∀(vs:List (List qa)) (i:Nat),(∀v ∈ vs,v.length = k)→i < vs.length→(vs.flatten.drop (i * k)).take k = vs.getD i []
 | [],i,_,h=>by simp at h
 | v :: vs,0,hv,_=>by
  have:=hv v (List.mem_cons_self ..)
  simp [←this]
 | v :: vs,i + 1,hv,h=>by
  have h1:=hv v (List.mem_cons_self ..)
  rw [List.flatten_cons,Nat.add_mul,Nat.one_mul,Nat.add_comm,←List.drop_drop,←h1,List.drop_left,h1,qiB vs i (fun w hw=>hv w (List.mem_cons_of_mem _ hw)) (by simpa using h)]
  rfl
theorem qgw {k:Nat} {z:List qa} (hz:z.length = k) (h1:k ≠ 1) (vs:List (List qa)) (hl:vs.length * k ≤ 2 ^ 24) (hv:∀v ∈ vs,v.length = k∧v.all qa.storable = true) :
  qer k z vs.length ((vs.map qa.agg).zipIdx.map fun x=>(x.2,x.1)) = some (.lst (vs.map qa.agg) .full):=by
 have hf:=qiz hz (vs.map qa.agg) [] 0 (by simp) (by simpa [qa.cells] using hv)
 simp only [List.nil_append,List.length_map,List.map_map] at hf
 have hc:(vs.map (qa.cells ∘ qa.agg)).flatten = vs.flatten:=by
  congr 1
  exact (List.map_congr_left fun v _=>rfl).trans (List.map_id vs)
 simp only [qer,List.map_map]
 rw [if_pos ⟨hz,hl⟩]
 rw [show ((fun x:Nat×qa=>(x.1 * k,k,x.2)) ∘ fun x:qa×Nat=>(x.2,x.1)) = fun x:qa×Nat=>(x.2 * k,k,x.1) from rfl,hf,hc]
 have hst:vs.flatten.all qa.storable = true:=by
  simp only [List.all_flatten,List.all_eq_true]
  exact fun v hvm=>List.all_eq_true.1 (hv v hvm).2
 simp only [hst,if_true,if_neg h1]
 congr 2
 apply List.ext_getElem?
 intro i
 rw [List.getElem?_map,List.getElem?_map]
 by_cases hi:i < vs.length
 ·rw [List.getElem?_range hi,List.getElem?_eq_getElem hi]
  simp only [Option.map_some]
  rw [qiB vs i (fun v hvm=>(hv v hvm).1) hi]
  simp [List.getD,List.getElem?_eq_getElem hi]
 ·rw [List.getElem?_eq_none (by simpa using hi),List.getElem?_eq_none (by simpa using hi)]
  rfl
theorem qc1 {k:Nat} {z a:List qa} (hz:z.length = k) (h1:k ≠ 1) (ha:a.length = k) (sa:a.all qa.storable = true) (hl:k ≤ 1000):qer k z 1 [(0,.agg a)] = some (.lst [.agg a] .full):=
 qgw hz h1 [a] (by simp;omega) (by simpa using ⟨ha,by simpa using sa⟩)
theorem qqa {k:Nat} {z a b:List qa} (hz:z.length = k) (h1:k ≠ 1) (ha:a.length = k) (sa:a.all qa.storable = true) (hb:b.length = k) (sb:b.all qa.storable = true) (hl:k ≤ 1000):qer k z 2 [(0,.agg a),(1,.agg b)] = some (.lst [.agg a,.agg b] .full):=
 qgw hz h1 [a,b] (by simp;omega) (by simpa using ⟨⟨ha,by simpa using sa⟩,hb,by simpa using sb⟩)
theorem qqb {k:Nat} {z a b c:List qa} (hz:z.length = k) (h1:k ≠ 1) (ha:a.length = k) (sa:a.all qa.storable = true) (hb:b.length = k) (sb:b.all qa.storable = true) (hc:c.length = k) (sc:c.all qa.storable = true) (hl:k ≤ 1000):qer k z 3 [(0,.agg a),(1,.agg b),(2,.agg c)] = some (.lst [.agg a,.agg b,.agg c] .full):=
 qgw hz h1 [a,b,c] (by simp;omega) (by simpa using ⟨⟨ha,by simpa using sa⟩,⟨hb,by simpa using sb⟩,hc,by simpa using sc⟩)
end
end Go.AE
namespace Go.AE
theorem qiE (c b:Bool) (d:Option Nat) (s:St) (r:Option qa) (k:St→Option (Ex×St)):qgo (.bool c) b d s r k = qn (c == b) d s r k:=Eq.trans rfl rfl
theorem qjS (b:Bool) (d:Option Nat) (s:St) (r:Option qa) (k:St→Option (Ex×St)):qgo (.tup []) b d s r k = qn false d s r k:=Eq.trans rfl rfl
theorem qiF (d:Option Nat) (t:List qa) (h:List qf) (e:Bool) (v:qa) (k:St→Option (Ex×St)):qn true d ⟨t,h,e⟩ (some v) k = k ⟨put d v t,h,e⟩:=Eq.trans rfl rfl
theorem qhJ (d:Option Nat) (t:List qa) (h:List qf) (e:Bool) (r:Option qa) (k:St→Option (Ex×St)):qn false d ⟨t,h,e⟩ r k = k ⟨put d (.tup []) t,h,e⟩:=Eq.trans rfl rfl
theorem ql5 (d:Option Nat) (t:List qa) (h:List qf) (e:Bool) (r:Option (Ex×St)) (k:St→Option (Ex×St)):qgn (.bool true) false d ⟨t,h,e⟩ r k = k ⟨put d (.tup []) t,h,e⟩:=Eq.trans rfl rfl
theorem ql3 (d:Option Nat) (t:List qa) (h:List qf) (e:Bool) (r:Option (Ex×St)) (k:St→Option (Ex×St)):qgn (.bool false) true d ⟨t,h,e⟩ r k = k ⟨put d (.tup []) t,h,e⟩:=Eq.trans rfl rfl
theorem qjR (b:Bool) (d:Option Nat) (t:List qa) (h:List qf) (e:Bool) (r:Option (Ex×St)) (k:St→Option (Ex×St)):qgn (.tup []) b d ⟨t,h,e⟩ r k = k ⟨put d (.tup []) t,h,e⟩:=Eq.trans rfl rfl
theorem qlQ (r:Option qa):qaA true r = r:=Eq.trans rfl rfl
theorem qjO (r:Option qa):qaA false r = some (.tup []):=Eq.trans rfl rfl
theorem qtf (v:qa):gv true v = v:=Eq.trans rfl rfl
theorem qo8 (v:qa):gv false v = .tup []:=Eq.trans rfl rfl
end Go.AE
namespace Go.AE
end Go.AE
namespace Go.AE
section
variable {base:Nat} {call:Call} {p:qco} {s:St}
theorem qm8 (f:St→Option (Ex×St)) (s:St):qbN f (some (.nor,s)) = f s:=Eq.trans rfl rfl
end
end Go.AE
namespace Go.AE
theorem qjx (a b:Option (Ex×St)):qv9 (.bool true) a b = a:=Eq.trans rfl rfl
theorem qip (a b:Option (Ex×St)):qv9 (.bool false) a b = b:=Eq.trans rfl rfl
end Go.AE
namespace Go.AE
theorem qAL (d:Nat) (o:AOp):ao d o = ⟨some d,o,none⟩:=Eq.trans rfl rfl
theorem qAJ (d:Nat) (o:AOp) (j:Nat) (b:Bool):ag d o j b = ⟨some d,o,some (j,b)⟩:=Eq.trans rfl rfl
theorem qAK (o:AOp):an o = ⟨none,o,none⟩:=Eq.trans rfl rfl
theorem qrr (cs:List qa) (o:Nat) (vs:List qa):splice cs o vs = cs.take o ++ vs ++ cs.drop (o + vs.length):=Eq.trans rfl rfl
theorem qER (d i:Nat):mv d i=⟨some d,.mov (.t i),none⟩:=Eq.trans rfl rfl
theorem qEX (d i:Nat):sg d i=⟨some d,.asg (.t i),none⟩:=Eq.trans rfl rfl
theorem qDM (d k i:Nat):fA d k i=⟨some d,.fa k (.t i),none⟩:=Eq.trans rfl rfl
theorem qB7 (d i:Nat):ldn d i=⟨some d,.ld none (.t i),none⟩:=Eq.trans rfl rfl
theorem qB8 (d k i:Nat):lds d k i=⟨some d,.ld (some k) (.t i),none⟩:=Eq.trans rfl rfl
theorem qCC (k i j:Nat):sts k i j=⟨none,.st (some k) (.t i) (.t j),none⟩:=Eq.trans rfl rfl
theorem qCB (i j:Nat):stn i j=⟨none,.st none (.t i) (.t j),none⟩:=Eq.trans rfl rfl
theorem qCX (d i k:Nat):xtt d i k=⟨some d,.ext (.t i) k,none⟩:=Eq.trans rfl rfl
theorem qCi (d i:Nat):nlc d i=⟨some d,.nilc (.t i),none⟩:=Eq.trans rfl rfl
theorem qCW (d k i j:Nat):xlL d k i j=⟨some d,.ixaL k (.t i) (.t j),none⟩:=Eq.trans rfl rfl
theorem qCg (d i:Nat):lnn d i=⟨some d,.len false (.t i),none⟩:=Eq.trans rfl rfl
theorem qDR (n:Int):kI n=.c (.int .i64 n):=Eq.trans rfl rfl
theorem qDQ (n:Nat):kF n=.c (.fn n [] []):=Eq.trans rfl rfl
theorem qDS:kO=.c (.bool false):=Eq.trans rfl rfl
theorem qDT:kU=.c (.bool true):=Eq.trans rfl rfl
theorem qES:nL=.lst [] .full:=Eq.trans rfl rfl
theorem qFa:zZ=.int .i64 0:=Eq.trans rfl rfl
theorem qE9:zS=.str []:=Eq.trans rfl rfl
theorem qBe (d i:Nat) (n:Int):eqk d i n=⟨some d,.bin .eql (.t i) (.c (.int .i64 n)),none⟩:=Eq.trans rfl rfl
theorem qA6 (d:Nat) (o:BinOp) (i:Nat) (n:Int):bnk d o i n=⟨some d,.bin o (.t i) (.c (.int .i64 n)),none⟩:=Eq.trans rfl rfl
theorem qA7 (d:Nat) (o:BinOp) (i j:Nat):bnt d o i j=⟨some d,.bin o (.t i) (.t j),none⟩:=Eq.trans rfl rfl
theorem qCy (d:Nat) (n:Int):sgk d n=⟨some d,.asg (.c (.int .i64 n)),none⟩:=Eq.trans rfl rfl
theorem qCw (d:Nat):sgO d=⟨some d,.asg (.c (.bool false)),none⟩:=Eq.trans rfl rfl
theorem qCx (d:Nat):sgU d=⟨some d,.asg (.c (.bool true)),none⟩:=Eq.trans rfl rfl
theorem qA9 (d f i:Nat):clA d f i=⟨some d,.call (.c (.fn f [] [])) [.t i],none⟩:=Eq.trans rfl rfl
theorem qBa (d f i j:Nat):clB d f i j=⟨some d,.call (.c (.fn f [] [])) [.t i,.t j],none⟩:=Eq.trans rfl rfl
theorem qCn (d i j:Nat):pkO d i j=⟨some d,.pick (.t i) (.t j) (.c (.bool false)),none⟩:=Eq.trans rfl rfl
theorem qCo (d i j:Nat):pkU d i j=⟨some d,.pick (.t i) (.c (.bool true)) (.t j),none⟩:=Eq.trans rfl rfl
theorem qA8 (d k i:Nat):bxx d k i=⟨some d,.box k (.t i),none⟩:=Eq.trans rfl rfl
theorem qCl (d i:Nat):ntt d i=⟨some d,.un .not (.t i),none⟩:=Eq.trans rfl rfl
theorem qBF (d i j:Nat) (b:Bool):gmv d i j b=⟨some d,.mov (.t i),some (j,b)⟩:=Eq.trans rfl rfl
theorem qBB (d k i j:Nat) (b:Bool):gfA d k i j b=⟨some d,.fa k (.t i),some (j,b)⟩:=Eq.trans rfl rfl
theorem qBC (d i j:Nat) (b:Bool):gld d i j b=⟨some d,.ld none (.t i),some (j,b)⟩:=Eq.trans rfl rfl
theorem qBE (d k i j:Nat) (b:Bool):gls d k i j b=⟨some d,.ld (some k) (.t i),some (j,b)⟩:=Eq.trans rfl rfl
theorem qBD (d i j:Nat) (b:Bool):gln d i j b=⟨some d,.len false (.t i),some (j,b)⟩:=Eq.trans rfl rfl
theorem qBy (d:Nat) (o:BinOp) (i:Nat) (n:Int) (j:Nat) (b:Bool):gbk d o i n j b=⟨some d,.bin o (.t i) (.c (.int .i64 n)),some (j,b)⟩:=Eq.trans rfl rfl
theorem qBz (d:Nat) (o:BinOp) (i i2 j:Nat) (b:Bool):gbt d o i i2 j b=⟨some d,.bin o (.t i) (.t i2),some (j,b)⟩:=Eq.trans rfl rfl
theorem qDz (i:Nat) (a b:qG):cT i a b=.cond (.t i) a b:=Eq.trans rfl rfl
theorem qEW (l:List qY) (c:qG):sR l c=.seq (.reg l) c:=Eq.trans rfl rfl
def sT:=PLift.up (And.intro (And.intro (And.intro (And.intro (And.intro (And.intro (And.intro (And.intro @qoD (And.intro @qlO @qs4)) (And.intro (And.intro @qlM @qoC) (And.intro @qjJ @qCt))) (And.intro (And.intro @qlL (And.intro @qsC @qsA)) (And.intro (And.intro @qlF @qwo) (And.intro @qsB @qtF)))) (And.intro (And.intro (And.intro @qoo (And.intro @qop @qlP)) (And.intro (And.intro @qjN @qsi) (And.intro @qnP @qy7))) (And.intro (And.intro (And.intro @qv7 @qnx) (And.intro @qnv @qp8)) (And.intro (And.intro @qmq @qj6) (And.intro @qmo @qmp))))) (And.intro (And.intro (And.intro (And.intro @qpT (And.intro @qpZ @qp0)) (And.intro (And.intro @qpY @qtK) (And.intro @qpV @qpW))) (And.intro (And.intro @qpU (And.intro @qpX @qp7)) (And.intro (And.intro @qp6 @qms) (And.intro @qmr @qtI)))) (And.intro (And.intro (And.intro @qmn (And.intro @qmm @qp4)) (And.intro (And.intro @qp3 @qp2) (And.intro @qp1 @qp5))) (And.intro (And.intro (And.intro @qtJ @qp9) (And.intro @qqX @qsW)) (And.intro (And.intro @qpD @qmR) (And.intro @qow @qme)))))) (And.intro (And.intro (And.intro (And.intro (And.intro @qkh (And.intro @qlH @qjV)) (And.intro (And.intro @qmP @qou) (And.intro @qmc @qt2))) (And.intro (And.intro @qwr (And.intro @qtw @qmQ)) (And.intro (And.intro @qov @qmd) (And.intro @qqH @qsG)))) (And.intro (And.intro (And.intro @qpn (And.intro @qqO @qsN)) (And.intro (And.intro @qpu @qqP) (And.intro @qsO @qpv))) (And.intro (And.intro (And.intro @qqN @qsM) (And.intro @qpt @qt5)) (And.intro (And.intro @qwu @qtz) (And.intro @qqK @qsJ))))) (And.intro (And.intro (And.intro (And.intro @qpq (And.intro @qqL @qsK)) (And.intro (And.intro @qpr @qqJ) (And.intro @qqM @qsI))) (And.intro (And.intro (And.intro @qsL @qpp) (And.intro @qps @qqW)) (And.intro (And.intro @qsV @qpC) (And.intro @qqV @qsU)))) (And.intro (And.intro (And.intro @qpB (And.intro @qmT @qoy)) (And.intro (And.intro @qmg @qmS) (And.intro @qox @qmf))) (And.intro (And.intro (And.intro @qt1 @qwq) (And.intro @qtv @qmO)) (And.intro (And.intro @qot @qmb) (And.intro @qmN @qos))))))) (And.intro (And.intro (And.intro (And.intro (And.intro (And.intro @qma (And.intro @qqT @qsS)) (And.intro (And.intro @qpz @qqS) (And.intro @qsR @qpy))) (And.intro (And.intro @qqR (And.intro @qsQ @qpx)) (And.intro (And.intro @qqQ @qsP) (And.intro @qpw @qqU)))) (And.intro (And.intro (And.intro @qsT (And.intro @qpA @qt3)) (And.intro (And.intro @qws @qtx) (And.intro @qq1 @qsZ))) (And.intro (And.intro (And.intro @qpG @qqG) (And.intro @qsF @qpm)) (And.intro (And.intro @qqY @qsX) (And.intro @qpE @qqI))))) (And.intro (And.intro (And.intro (And.intro @qsH (And.intro @qpo @qt4)) (And.intro (And.intro @qwt @qty) (And.intro @qmM @qor))) (And.intro (And.intro @ql9 (And.intro @qqF @qsE)) (And.intro (And.intro @qpl @qq0) (And.intro @qsY @qpF)))) (And.intro (And.intro (And.intro @qCq (And.intro @qAe @qx4)) (And.intro (And.intro @qx3 @qz6) (And.intro @qzZ @qqB))) (And.intro (And.intro (And.intro @qz2 @qvh) (And.intro @qAa @qqA)) (And.intro (And.intro @qvo @qqz) (And.intro @qz7 @qz3)))))) (And.intro (And.intro (And.intro (And.intro (And.intro @qCm (And.intro @qvl @qxW)) (And.intro (And.intro @qtY @qxY) (And.intro @qz0 @qv2))) (And.intro (And.intro @qvp (And.intro @qtR @qtS)) (And.intro (And.intro @qz4 @qvn) (And.intro @qvm @qvk)))) (And.intro (And.intro (And.intro @qs8 (And.intro @qvj @qoA)) (And.intro (And.intro @qhf @qvi) (And.intro @qsl @qz1))) (And.intro (And.intro (And.intro @qsm @qz5) (And.intro @qzJ @qxg)) (And.intro (And.intro @qz8 @qmJ) (And.intro @qnF @qnE))))) (And.intro (And.intro (And.intro (And.intro @qhZ (And.intro @quc @qm8)) (And.intro (And.intro @qrJ @qm7) (And.intro @qrI @qls))) (And.intro (And.intro (And.intro @qlu @qlt) (And.intro @qjr @qjx)) (And.intro (And.intro @qip @qqr) (And.intro @qqs @qDB)))) (And.intro (And.intro (And.intro @qDA (And.intro @qCs @qCr)) (And.intro (And.intro @qj @qxb) (And.intro @qxc @qqe))) (And.intro (And.intro (And.intro @qqd @qon) (And.intro @qom @qlC)) (And.intro (And.intro @qoh @qok) (And.intro @qiu @qoj)))))))) (And.intro (And.intro (And.intro (And.intro (And.intro (And.intro (And.intro @qlE (And.intro @qof @qol)) (And.intro (And.intro @qsw @qsx) (And.intro @qlD @qoi))) (And.intro (And.intro @qjE (And.intro @qog @qst)) (And.intro (And.intro @qwl @qoc) (And.intro @qob @qsv)))) (And.intro (And.intro (And.intro @qwk (And.intro @qod @qu1)) (And.intro (And.intro @qoe @qlB) (And.intro @qjD @qis))) (And.intro (And.intro (And.intro @qgd @qwn) (And.intro @qze @qsu)) (And.intro (And.intro @qwm @qzd) (And.intro @qgl @qbQ))))) (And.intro (And.intro (And.intro (And.intro @qbW (And.intro @qyg @qe1)) (And.intro (And.intro @qdE @qcv) (And.intro @qyf @qoS))) (And.intro (And.intro @qro (And.intro @qbX @qvu)) (And.intro (And.intro @qh3 @qnH) (And.intro @qnI @qnL)))) (And.intro (And.intro (And.intro @qlw (And.intro @qnJ @qnK)) (And.intro (And.intro @qin @qsg) (And.intro @qgU @qjv))) (And.intro (And.intro (And.intro @qnM @qhD) (And.intro @qpO @qtE)) (And.intro (And.intro @qpP @qq8) (And.intro @qq9 @qyj)))))) (And.intro (And.intro (And.intro (And.intro (And.intro @qrs (And.intro @qup @qus)) (And.intro (And.intro @qrt @quq) (And.intro @qur @qru))) (And.intro (And.intro @qkv (And.intro @qi7 @qym)) (And.intro (And.intro @qut @qh5) (And.intro @qmZ @qj9)))) (And.intro (And.intro (And.intro @qmv (And.intro @qqg @qqj)) (And.intro (And.intro @qiP @qqi) (And.intro @qql @qmw))) (And.intro (And.intro (And.intro @qqh @qhQ) (And.intro @qgW @qj8)) (And.intro (And.intro @qtN @qqf) (And.intro @qqk @qmt))))) (And.intro (And.intro (And.intro (And.intro @qdj (And.intro @qum @qwD)) (And.intro (And.intro @qs9 @qqv) (And.intro @qmC @qtH))) (And.intro (And.intro (And.intro @qtG @qtb) (And.intro @qra @qkL)) (And.intro (And.intro @qvR @qv1) (And.intro @qvX @qvZ)))) (And.intro (And.intro (And.intro @qv0 (And.intro @qvS @qvY)) (And.intro (And.intro @qvW @qvV) (And.intro @qvU @qvT))) (And.intro (And.intro (And.intro @qyn @qyo) (And.intro @qyr @qyq)) (And.intro (And.intro @qyp @qAm) (And.intro @qAn @qmK))))))) (And.intro (And.intro (And.intro (And.intro (And.intro (And.intro @qkg (And.intro @qt0 @qx1)) (And.intro (And.intro @qiE @qjS) (And.intro @qo7 @ql6))) (And.intro (And.intro @qiF (And.intro @qhJ @qjT)) (And.intro (And.intro @qwV @qvO) (And.intro @qpj @qBJ)))) (And.intro (And.intro (And.intro @qAN (And.intro @qwX @qBI)) (And.intro (And.intro @qAM @qwW) (And.intro @qzv @qyX))) (And.intro (And.intro (And.intro @qtr @qzr) (And.intro @qyT @qtn)) (And.intro (And.intro @qBL @qAP) (And.intro @qwZ @qwT))))) (And.intro (And.intro (And.intro (And.intro @qvM (And.intro @qph @qzq)) (And.intro (And.intro @qyS @qtm) (And.intro @qzn @qyP))) (And.intro (And.intro (And.intro @qtj @qzw) (And.intro @qyY @qts)) (And.intro (And.intro @qzt @qyV) (And.intro @qtp @qwR)))) (And.intro (And.intro (And.intro @qvK (And.intro @qpf @qzu)) (And.intro (And.intro @qyW @qtq) (And.intro @qwS @qvL))) (And.intro (And.intro (And.intro @qpg @qzs) (And.intro @qyU @qto)) (And.intro (And.intro @qwQ @qvJ) (And.intro @qpe @qzm)))))) (And.intro (And.intro (And.intro (And.intro (And.intro @qyO (And.intro @qti @qwN)) (And.intro (And.intro @qvG @qpb) (And.intro @qzo @qyQ))) (And.intro (And.intro @qtk (And.intro @qwO @qvH)) (And.intro (And.intro @qpc @qzp) (And.intro @qyR @qtl)))) (And.intro (And.intro (And.intro @qwP (And.intro @qvI @qpd)) (And.intro (And.intro @qBK @qAO) (And.intro @qwY @qzx))) (And.intro (And.intro (And.intro @qyZ @qtt) (And.intro @qwU @qvN)) (And.intro (And.intro @qpi @qtg) (And.intro @qsa @ql7))))) (And.intro (And.intro (And.intro (And.intro @qth (And.intro @qsb @ql8)) (And.intro (And.intro @qoQ @qlQ) (And.intro @qjO @qBG))) (And.intro (And.intro (And.intro @qtf @qo8) (And.intro @ql4 @ql5)) (And.intro (And.intro @ql3 @qjR) (And.intro @qw2 @qtA)))) (And.intro (And.intro (And.intro @qs0 (And.intro @qs2 @qs1)) (And.intro (And.intro @qoz @qx9) (And.intro @qya @qud))) (And.intro (And.intro (And.intro @qly @qmG) (And.intro @qmF @qmH)) (And.intro (And.intro @qpS @qml) (And.intro @qpR @qmk)))))))))
def sC:=PLift.up (And.intro (And.intro (And.intro (And.intro (And.intro @List.nil_append.{0} (And.intro @List.append_nil.{0} @List.map_cons.{0,0})) (And.intro (And.intro @List.map_nil.{0,0} @List.length_cons.{0}) (And.intro @List.length_nil.{0} @List.cons_append.{0}))) (And.intro (And.intro (And.intro (And.intro (And.intro (And.intro (And.intro (And.intro (And.intro (And.intro (And.intro (And.intro (And.intro (And.intro (And.intro (And.intro (And.intro (And.intro (And.intro (And.intro (And.intro (And.intro (And.intro (And.intro (And.intro (And.intro (And.intro (And.intro (And.intro (And.intro (And.intro (And.intro (And.intro (And.intro (And.intro (And.intro (And.intro (And.intro (And.intro (And.intro (And.intro (And.intro @qAL @qER) @qEX) @qDM) @qB7) @qB8) @qCC) @qCB) @qCX) @qCi) @qCW) @qCg) @qDR) @qDQ) @qDS) @qDT) @qES) @qFa) @qE9) @qBe) @qA6) @qA7) @qCy) @qCw) @qCx) @qA9) @qBa) @qCn) @qCo) @qA8) @qCl) @qBF) @qBB) @qBC) @qBE) @qBD) @qBy) @qBz) @qDz) @qEW) @qAJ) (And.intro @qAK @Option.map_some.{0,0})) (And.intro (And.intro @ne_eq.{1} @not_false_eq_true) (And.intro @List.length_set.{0} @List.length_replicate.{0})))) (And.intro (And.intro (And.intro @Bool.or_false (And.intro @Bool.or_true @Bool.false_or)) (And.intro (And.intro @Bool.true_or @Bool.and_true) (And.intro @Bool.and_false @Bool.true_and))) (And.intro (And.intro (And.intro @Bool.false_and @Bool.not_true) (And.intro @Bool.not_false @eq_self.{1})) (And.intro (And.intro @List.getElem?_cons_zero.{0} @List.getElem?_cons_succ.{0}) (And.intro @List.set_cons_zero.{0} @List.set_cons_succ.{0}))))) (And.intro (And.intro (And.intro (And.intro @List.append_assoc.{0} (And.intro @List.length_append.{0} @qrr)) (And.intro (And.intro @List.take_zero.{0} @List.drop_zero.{0}) (And.intro @List.take_succ_cons.{0} @List.drop_succ_cons.{0}))) (And.intro (And.intro (And.intro @List.drop_nil.{0} @List.take_nil.{0}) (And.intro @List.all_cons.{0} @List.all_nil.{0})) (And.intro (And.intro @Option.getD_some.{0} @Option.getD_none.{0}) (And.intro @and_self @and_true)))) (And.intro (And.intro (And.intro (And.intro @true_and @if_true.{1}) (And.intro @if_false.{1} @Nat.le_refl)) (And.intro (And.intro @Nat.ble_self_eq_true @Nat.zero_add) (And.intro @Nat.add_zero @beq_self_eq_true.{0}))) (And.intro (And.intro (And.intro @Bool.false_eq_true @bne_self_eq_false.{0}) (And.intro @List.isEmpty_nil.{0} @List.isEmpty_cons.{0})) (And.intro (And.intro @cond_true.{1} @cond_false.{1}) (And.intro @List.filterMap_cons.{0,0} @List.filterMap_nil.{0,0}))))))
def sTA:=PLift.up (And.intro (And.intro (And.intro (And.intro @qx6 (And.intro @qxZ @qk8)) (And.intro @qiY (And.intro @qzY @qux))) (And.intro (And.intro @quy (And.intro @qvE @qr8)) (And.intro @qvF (And.intro @qyN @qnq)))) (And.intro (And.intro (And.intro @qyw (And.intro @qrC @quB)) (And.intro @qrz (And.intro @qm4 @qrA))) (And.intro (And.intro @qry (And.intro @qkw @qrx)) (And.intro @qyi (And.intro @qua @qx2)))))
def sCA:=PLift.up (And.intro (And.intro @List.filter_cons.{0} @List.filter_nil.{0}) (And.intro @List.find?_cons.{0} @List.find?_nil.{0}))
end Go.AE
namespace Go.AE
section
variable {base:Nat} {call:Call} {p:qco} {s:St} {t:List qa} {h:List qf}
def hxW (d:Option Nat) (s:St):Option (qa×List qf×Bool)→Option (Ex×St)
 | some (v,h,e)=>some (.nor,{ t:=put d v.dim s.t,h,e:=s.e || e})
 | none=>none
theorem qab (d:Option Nat) (t:List qa) (h h':List qf) (e e':Bool) (v:qa):hxW d ⟨t,h,e⟩ (some (v,h',e')) = some (.nor,⟨put d v.dim t,h',e || e'⟩):=rfl
theorem qbU (d:Option Nat) (o:HOp) (aS:List qk):qq base call p d (.hx o aS) s = hxW d s (hop base o (aS.map (ev s.t)) s.h):=by
 simp only [qq]
 cases hop base o (aS.map (ev s.t)) s.h with
 | none=>rfl
 | some r=>rfl
theorem qaf (o:HOp) (aS:List qk):(AOp.hx o aS).plain = false:=Eq.trans rfl rfl
theorem qaz (o:HOp) (aS:List qk):(AOp.hx o aS).effs = true:=Eq.trans rfl rfl
theorem qad (o:HOp) (aS:List qk):(AOp.hx o aS).isApp = false:=Eq.trans rfl rfl
theorem qb9 (id o len cap more:Nat):(qa.sl id o len cap more).dim = .sl id o len cap more:=rfl
theorem qaZ (id o len cap more i:Nat) (t:List qa):qbI (.sl id o len cap more) i t = t:=rfl
theorem qbm (id o len cap more:Nat):(qa.sl id o len cap more).storable = true:=Eq.trans rfl rfl
theorem qaY (id o len cap more:Nat):(qa.sl id o len cap more).cells = [.sl id o len cap more]:=rfl
theorem qa1 (n id o len cap more:Nat):(qa.sl id o len cap more).lower n = Nat.blt id n:=Eq.trans rfl rfl
end
end Go.AE
namespace Go.AE
def qG.noLp:qG→Bool
 | .seq a b=>a.noLp && b.noLp
 | .cond _ a b=>a.noLp && b.noLp
 | .block _ b=>b.noLp
 | .loop _=>false
 | _=>true
def qdx.noLp:qdx→Bool
 | .pre a r=>a.noLp && r.noLp
 | .dfr _ _ _ c=>c.noLp
section
variable {base:Nat} {call:Call}
theorem qdV (n m:Nat):∀(a:qG) (s:St),a.noLp = true→qaV n base call a s = qaV m base call a s
 | .skip,s,_=>rfl
 | .reg _,s,_=>rfl
 | .draw _,s,_=>rfl
 | .draw2 _ _ _ _,s,_=>rfl
 | .exit _,s,_=>rfl
 | .ret,s,_=>rfl
 | .rfun _ _ _ _,s,_=>rfl
 | .loop _,s,h=>by cases h
 | .seq a b,s,h=>by
  simp only [qG.noLp,Bool.and_eq_true] at h
  simp only [qaV]
  rw [qdV n m a s h.1]
  split
  ·exact qdV n m b _ h.2
  ·rfl
 | .cond c a b,s,h=>by
  simp only [qG.noLp,Bool.and_eq_true] at h
  simp only [qaV]
  split
  ·exact qdV n m a s h.1
  ·exact qdV n m b s h.2
  ·rfl
 | .block id b,s,h=>by
  simp only [qG.noLp] at h
  simp only [qaV]
  rw [qdV n m b s h]
theorem qoE {n:Nat} {a:qG} {s:St} (h:a.noLp = true):qaV n base call a s = qo base call a s:=by
 apply Option.ext
 intro x
 rw [q8]
 constructor
 ·intro hx
  exact ⟨n,hx⟩
 ·rintro ⟨m,hm⟩
  rw [qdV n m a s h]
  exact hm
def qAd (k:St→Option (Ex×St)):Option (Ex×St)→Option (Ex×St)
 | some (.nor,s)=>k s
 | some (.exit _,_)=>none
 | r=>r
theorem qt6 (k:St→Option (Ex×St)) (s:St):qAd k (some (.nor,s)) = k s:=rfl
theorem qt8 (k:St→Option (Ex×St)) (s:St):qAd k (some (.ret,s)) = some (.ret,s):=rfl
theorem qt7 (k:St→Option (Ex×St)) (v:qa) (s:St):qAd k (some (.pan v,s)) = some (.pan v,s):=rfl
def qC9 (k:St→Option (Ex×St)):Option (Ex×St)→Option (Ex×St)
 | some (.nor,s)=>k s
 | _=>none
theorem qk7 (k:St→Option (Ex×St)) (s:St):qC9 k (some (.nor,s)) = k s:=rfl
def qwd (s:St):Option (Ex×St)→Option (Ex×St)
 | some (.nor,s2) | some (.ret,s2)=>some (.ret,{ s with h:=s2.h,e:=s.e || s2.e})
 | _=>none
theorem qn0 (s s2:St):qwd s (some (.nor,s2)) = some (.ret,⟨s.t,s2.h,s.e || s2.e⟩):=rfl
theorem qn1 (s s2:St):qwd s (some (.ret,s2)) = some (.ret,⟨s.t,s2.h,s.e || s2.e⟩):=rfl
noncomputable def dW (call:Call) (d:qch) (v:qa) (cv:List qa) (s:St):Option (Ex×St):=
 qwd s (qC9 (qo s.h.length call d.code) (qo s.h.length call (.reg d.ops) ⟨up (cv.map qa.dim ++ List.replicate (d.ntmps - cv.length) (.tup [])) d.k v.dim,s.h,false⟩))
theorem qjz {n:Nat} {d:qch} (hd:d.code.noLp = true) (v:qa) (cv:List qa) (s:St):qd8 n call d v cv s = dW call d v cv s:=by
 rw [qd8,dW,qgg,qhZ]
 cases qaK s.h.length call [] d.ops ⟨up (cv.map qa.dim ++ List.replicate (d.ntmps - cv.length) (.tup [])) d.k v.dim,s.h,false⟩ with
 | none=>rfl
 | some x=>
  obtain ⟨x,s1⟩:=x
  cases x
  case nor=>
   rw [qk7]
   simp only
   rw [qoE hd]
   cases qo s.h.length call d.code s1 with
   | none=>rfl
   | some x=>obtain ⟨x,s2⟩:=x;cases x <;> rfl
  all_goals rfl
noncomputable def qza (call:Call) (d:qch) (cv:List qa):Option (Ex×St)→Option (Ex×St)
 | some (.nor,s) | some (.ret,s)=>dW call d .niliface cv s
 | some (.pan v,s)=>dW call d v cv s
 | _=>none
theorem qsn (d:qch) (cv:List qa) (s:St):qza call d cv (some (.nor,s)) = dW call d .niliface cv s:=rfl
theorem qsp (d:qch) (cv:List qa) (s:St):qza call d cv (some (.ret,s)) = dW call d .niliface cv s:=rfl
theorem qso (d:qch) (cv:List qa) (v:qa) (s:St):qza call d cv (some (.pan v,s)) = dW call d v cv s:=rfl
def fnW (f:FuncId) (k:List qa→Option (Ex×St)):qa→Option (Ex×St)
 | .fn g [] cv=>if g = f then k cv else none
 | _=>none
theorem qu7 (f:FuncId) (k:List qa→Option (Ex×St)) (cv:List qa):fnW f k (.fn f [] cv) = k cv:=if_pos rfl
noncomputable def gW (base:Nat) (call:Call) (d:qch):qdx→St→Option (Ex×St)
 | .pre a r,s=>qAd (gW base call d r) (qo base call a s)
 | .dfr f caps slot rest,s=>
  fnW f (fun cv=>qza call d cv (qo base call rest ⟨up s.t slot (.fn f [] (caps.map (ev s.t))),s.h,s.e⟩)) (ev (up s.t slot (.fn f [] (caps.map (ev s.t)))) (.t slot))
theorem qvc (d:qch) (f:FuncId) (caps:List qk) (slot:Nat) (rest:qG) (s:St):gW base call d (.dfr f caps slot rest) s = fnW f (fun cv=>qza call d cv (qo base call rest ⟨up s.t slot (.fn f [] (caps.map (ev s.t))),s.h,s.e⟩)) (ev (up s.t slot (.fn f [] (caps.map (ev s.t)))) (.t slot)):=rfl
theorem qvd (d:qch) (a:qG) (r:qdx) (s:St):gW base call d (.pre a r) s = qAd (gW base call d r) (qo base call a s):=rfl
theorem qoT {n:Nat} {d:qch} (hd:d.code.noLp = true):∀(b:qdx) (s:St),b.noLp = true→qcX n base call d b s = gW base call d b s
 | .pre a r,s,h=>by
  simp only [qdx.noLp,Bool.and_eq_true] at h
  rw [qcX,qvd,qoE h.1]
  cases qo base call a s with
  | none=>rfl
  | some x=>
   obtain ⟨x,s1⟩:=x
   cases x
   case nor=>exact qoT hd r s1 h.2
   all_goals rfl
 | .dfr f caps slot rest,s,h=>by
  simp only [qdx.noLp] at h
  rw [qcX,qvc,qhZ]
  generalize ev (up s.t slot (.fn f [] (caps.map (ev s.t)))) (.t slot) = w
  cases w
  case fn g first cv=>
   cases first with
   | cons _ _=>rfl
   | nil=>
    by_cases hg:g = f
    ·subst hg
     rw [qu7]
     simp only [if_true]
     rw [qoE h]
     generalize qo base call rest _ = x
     cases x with
     | none=>rfl
     | some x=>
      obtain ⟨x,s1⟩:=x
      cases x
      case nor=>exact qjz hd _ _ _
      case ret=>exact qjz hd _ _ _
      case pan v=>exact qjz hd _ _ _
      all_goals rfl
    ·simp only [fnW,if_neg hg]
  all_goals rfl
def qCE (ty:TypeId) (zero:qa):qa→Option qa
 | .niliface=>some (.tup [zero,.bool false])
 | .iface u v=>if u = ty then some (.tup [v,.bool true]) else some (.tup [zero,.bool false])
 | _=>none
theorem qz9 {p:qco} (d:Option Nat) (ty:TypeId) (z:qa) (x:qk) (s:St):qq base call p d (.tas ty z x) s = qfJ d s (qCE ty z (ev s.t x)):=by
 rw [qa3 _ _ rfl (by simp) (by simp) (by simp)]
 simp only [pureV]
 cases ev s.t x <;> rfl
theorem quD (ty:TypeId) (z:qa):qCE ty z .niliface = some (.tup [z,.bool false]):=rfl
theorem quC (ty:TypeId) (z v:qa):qCE ty z (.iface ty v) = some (.tup [v,.bool true]):=if_pos rfl
def qyB (d:Nat):Option qa→Option Nat
 | none=>some d
 | some (.int _ n)=>if 0 ≤ n then some n.toNat else none
 | some _=>none
def qi8 (x:qa) (lo hi:Option qa):Option qa:=
 match x with
 | .str s=>match qyB s.length hi with
  | some h=>match qyB 0 lo with
   | some l=>if l ≤ h∧h ≤ s.length then some (.str ((s.drop l).take (h - l))) else none
   | none=>none
  | none=>none
 | _=>none
theorem qkG (t:List qa) (o:Option qk) (d:Nat):bound t o d = qyB d (o.map (ev t)):=by
 cases o with
 | none=>rfl
 | some o=>simp only [bound,Option.map_some];cases ev t o <;> rfl
theorem qdl {p:qco} (d:Option Nat) (x:qk) (lo hi:Option qk) (s:St):qq base call p d (.subS x lo hi) s = qfJ d s (qi8 (ev s.t x) (lo.map (ev s.t)) (hi.map (ev s.t))):=by
 rw [qa3 _ _ rfl (by simp) (by simp) (by simp)]
 simp only [pureV,qkG]
 cases ev s.t x <;> rfl
theorem qq7 (t:List qa) (x:qk) (lo hi:Option qk):pureV t (.subS x lo hi) = qi8 (ev t x) (lo.map (ev t)) (hi.map (ev t)):=by
 simp only [pureV,qkG]
 cases ev t x <;> rfl
theorem qgN {s:List UInt8} {n:Nat} (hn:n ≤ s.length):qi8 (.str s) (some (.int .i64 (n:Nat))) none = some (.str (s.drop n)):=by
 have:(0:Int) ≤ (n:Int):=by omega
 simp only [qi8,qyB,this,if_true,Int.toNat_natCast,hn,Nat.le_refl,and_self]
 rw [List.take_of_length_le (by rw [List.length_drop];exact Nat.le_refl _)]
theorem qys {s:List UInt8} {m:Nat} (hm:m ≤ s.length):qi8 (.str s) none (some (.int .i64 (m:Nat))) = some (.str (s.take m)):=by
 have h2:(0:Int) ≤ (m:Int):=by omega
 simp only [qi8,qyB,h2,if_true,Int.toNat_natCast,hm,Nat.zero_le,and_self,List.drop_zero,Nat.sub_zero]
theorem qc3 {s:List UInt8} {n m:Nat} (hn:n ≤ m) (hm:m ≤ s.length):qi8 (.str s) (some (.int .i64 (n:Nat))) (some (.int .i64 (m:Nat))) = some (.str ((s.drop n).take (m - n))):=by
 have h1:(0:Int) ≤ (n:Int):=by omega
 have h2:(0:Int) ≤ (m:Int):=by omega
 simp only [qi8,qyB,h1,h2,if_true,Int.toNat_natCast,hn,hm,and_self]
theorem qwK {n:Nat} {g:qie} (hd:g.d.code.noLp = true) (hb:g.body.noLp = true) (aS:List qa) (h:List qf):qeq n g call aS h = qeo g.results h (gW h.length call g.d g.body ⟨aS.map qa.dim ++ List.replicate (g.ntmps - aS.length) (.tup []),h,false⟩):=by
 rw [qeq,qoT hd _ _ hb]
 generalize gW h.length call g.d g.body _ = r
 cases r with
 | none=>rfl
 | some x=>
  obtain ⟨x,s⟩:=x
  cases x <;> first | rfl | (simp only [qeo,qww];cases qat s g.results <;> rfl)
end
end Go.AE
namespace Go.AE
section
variable {P:Program} {gl:Nat→Option (List qa)}
noncomputable def cellsOf (W:World):Nat→Nat→Option Value:=fun b o=>qlx (W.cell? ⟨b,o,none⟩)
def qwb (P:Program) (S:List TypeId):Bool:=S.all fun t=>decide (t < P.types.size) && P.readableRec t && match P.underlying t with
 | some .bool | some (.int _) | some .string=>true
 | some (.slice e)=>S.contains e && decide (0 < P.cellsOf e)
 | some (.struct fs)=>fs.toList.all fun f=>S.contains f.type
 | _=>false
def qb5 (P:Program) (t:TypeId):Bool:=
 match P.underlying t with
 | some (.struct _)=>true
 | _=>false
def el (P:Program) (t:TypeId) (cs:List qa):qa:=bif qb5 P t then .agg cs else cs.headD .undef
def qhu (R:TypeId→List qa→Prop):List TypeId→List (List qa)→Prop
 | [],[]=>True
 | t :: ts,a :: aS=>R t a∧qhu R ts aS
 | _,_=>False
def qe8 (P:Program):Nat→TypeId→List qa→Prop
 | 0,_,_=>False
 | n + 1,t,aS=>
  match P.underlying t with
  | some .bool=>∃b,aS = [.bool b]
  | some (.int k)=>∃z,aS = [.int k z]∧(Lit.int k z).wf = true
  | some .string=>∃s:List UInt8,aS = [.str s]∧s.length ≤ maxLen
  | some (.slice e)=>∃xs:List (List qa),aS = [.lst (xs.map (el P e)) .no]∧xs.length ≤ maxLen∧∀x ∈ xs,qe8 P n e x
  | some (.struct fs)=>∃ass:List (List qa),aS = ass.flatten∧qhu (qe8 P n) (fs.toList.map (·.type)) ass
  | _=>False
theorem qig {γ:Nat→Option Nat} {imm:Nat→Nat→Option Value} {k:Nat} {b:Nat}:∀(xs:List qa) (p:Nat),(∀(i:Nat) (x:qa),xs[i]? = some x→x.cells.length = k∧qaj γ imm x.cells b (p + i * k))→qL γ imm xs b p
 | [],_,_=>trivial
 | x :: xs,p,h=>by
  obtain ⟨h1,h2⟩:=h 0 x rfl
  have ih:=qig xs (p + k) fun i y hy=>by
   obtain ⟨k1,k2⟩:=h (i + 1) y (by simpa using hy)
   refine ⟨k1,?_⟩
   rw [Nat.add_mul,Nat.one_mul] at k2
   rw [Nat.add_assoc,Nat.add_comm k]
   exact k2
  simp only [Nat.zero_mul,Nat.add_zero] at h2
  cases x with
  | agg cs=>simp only [qa.cells] at h1 h2;simp only [qL,h1];exact ⟨h2,ih⟩
  | _=>
   simp only [qa.cells,List.length_cons,List.length_nil,Nat.zero_add] at h1
   subst h1
   simp only [qa.cells,qaj] at h2
   exact ⟨h2.1,ih⟩
theorem qif {γ:Nat→Option Nat} {W:World} {b:Nat}:∀(aS:List qa) (vs:List Value) (p:Nat),qh γ (cellsOf W) aS vs→(∀i,i < vs.length→W.cell? ⟨b,p + i,none⟩ = vs[i]?)→qaj γ (cellsOf W) aS b p
 | [],_,_,_,_=>trivial
 | a :: aS,vs,p,h,hc=>by
  simp only [qh] at h
  obtain ⟨v,rest,rfl,h1,h2⟩:=h
  refine ⟨⟨v,qbd.2 ⟨by simpa using hc 0 (by simp),qcJ h1⟩,h1⟩,qif aS rest (p + 1) h2 fun i hi=>?_⟩
  have:=hc (i + 1) (by simpa using hi)
  rw [Nat.add_assoc,Nat.add_comm 1]
  simpa using this
theorem qgM {γ:Nat→Option Nat} {imm:Nat→Nat→Option Value} {R:TypeId→List qa→Prop} {size:TypeId→Nat}:∀(fs:List Field) (o:Nat) (cs:List Value),cs.length = o + (fs.map fun f=>size f.type).sum→
  (∀(j:Nat) f,fs[j]? = some f→f.offset = o + ((fs.take j).map fun f=>size f.type).sum)→(∀f ∈ fs,∃aS,qh γ imm aS ((cs.drop f.offset).take (size f.type))∧R f.type aS)→
  ∃ass:List (List qa),qh γ imm ass.flatten (cs.drop o)∧qhu R (fs.map (·.type)) ass
 | [],o,cs,hl,_,_=>⟨[],by simp only [List.map_nil,List.sum_nil,Nat.add_zero] at hl;simp [qh,←hl],trivial⟩
 | f :: fs,o,cs,hl,ho,hr=>by
  have h0:f.offset = o:=by simpa using ho 0 f rfl
  obtain ⟨aS,h1,h2⟩:=hr f (List.mem_cons_self ..)
  rw [h0] at h1
  simp only [List.map_cons,List.sum_cons] at hl
  obtain ⟨ass,h3,h4⟩:=qgM fs (o + size f.type) cs (by omega) (fun j g hg=>by
   have:=ho (j + 1) g (by simpa using hg)
   simp only [List.take_succ_cons,List.map_cons,List.sum_cons] at this
   omega) (fun g hg=>hr g (List.mem_cons_of_mem _ hg))
  refine ⟨aS :: ass,?_,h2,h4⟩
  have e:cs.drop o = (cs.drop o).take (size f.type) ++ cs.drop (o + size f.type):=by
   rw [←List.drop_drop,List.take_append_drop]
  rw [e,List.flatten_cons]
  exact qh.append h1 h3
theorem qe8.cells_el {n:Nat} {t:TypeId} {x:List qa} (h:qe8 P n t x):(el P t x).cells = x:=by
 cases n with
 | zero=>exact h.elim
 | succ n=>
  simp only [qe8] at h
  simp only [el,qb5]
  split at h
  ·rename_i hu;obtain ⟨b,rfl⟩:=h;rw [hu];rfl
  ·rename_i hu;obtain ⟨b,rfl,_⟩:=h;rw [hu];rfl
  ·rename_i hu;obtain ⟨b,rfl,_⟩:=h;rw [hu];rfl
  ·rename_i hu;obtain ⟨b,rfl,_⟩:=h;rw [hu];rfl
  ·rename_i hu;rw [hu];rfl
  ·exact h.elim
theorem qnS {α:Type} {Q:Nat→α→Prop}:∀len:Nat,(∀i,i < len→∃a,Q i a)→∃xs:List α,xs.length = len∧∀i x,xs[i]? = some x→Q i x
 | 0,_=>⟨[],rfl,fun i x h=>by simp at h⟩
 | len + 1,h=>by
  obtain ⟨xs,h1,h2⟩:=qnS len fun i hi=>h i (by omega)
  obtain ⟨y,h3⟩:=h len (by omega)
  refine ⟨xs ++ [y],by simp [h1],fun i x hi=>?_⟩
  rcases Nat.lt_or_ge i xs.length with hlt | hge
  ·rw [List.getElem?_append_left hlt] at hi;exact h2 i x hi
  ·rw [List.getElem?_append_right hge] at hi
   have:i - xs.length = 0:=by
    rcases Nat.eq_zero_or_pos (i - xs.length) with h | h
    ·exact h
    ·rw [List.getElem?_eq_none (by simp only [List.length_cons,List.length_nil];omega)] at hi;cases hi
   rw [this] at hi
   simp only [List.getElem?_cons_zero,Option.some.injEq] at hi
   subst hi
   have:i = len:=by omega
   subst this
   exact h3
theorem quQ {a:Addr} (h:a.spot = none) (n:Nat):a.add n = ⟨a.block,a.off + n,none⟩:=by
 unfold Addr.add
 split
 ·rename_i h0
  subst h0
  cases a
  simp_all
 ·rfl
theorem qiX {H:Type} {enc:TypeId×Value→H} {W:World} {base:Nat} {sp:Nat→Bool} {held:Bool} {S:List TypeId} (hl:laidOutB P = true) (hS:qwb P S = true):∀(n:Nat) (t:TypeId) (cs:List Value) (x:DataW H×List MemPlace),t ∈ S→
  DataW.trod enc P W base sp held n t cs = some x→∃aS,qh (fun _=>none) (cellsOf W) aS cs∧qe8 P n t aS
 | 0,t,cs,x,_,h=>by simp [DataW.trod] at h
 | n + 1,t,cs,x,ht,h=>by
  have hd:=List.all_eq_true.1 hS t ht
  simp only [Bool.and_eq_true,decide_eq_true_eq] at hd
  obtain ⟨⟨hrow,_⟩,hd⟩:=hd
  have ih:=qiX (base:=base) (sp:=sp) (held:=held) (enc:=enc) (W:=W) hl hS n
  split at hd
  ·rename_i hu
   obtain ⟨b,rfl,_⟩:=DataW.trod_bool hu h
   exact ⟨[.bool b],by simp [qh,qt],by simp only [qe8,hu];exact ⟨b,rfl⟩⟩
  ·rename_i k hu
   obtain ⟨z,rfl,_,hw⟩:=DataW.trod_int hu h
   exact ⟨[.int k z],by simp [qh,qt],by simp only [qe8,hu];exact ⟨z,rfl,hw⟩⟩
  ·rename_i hu
   obtain ⟨s,rfl,_,hw⟩:=DataW.trod_string hu h
   exact ⟨[.str s.data.toList],by simp only [qh,qt];exact ⟨_,_,rfl,⟨s,rfl,rfl⟩,rfl⟩,by simp only [qe8,hu];exact ⟨_,rfl,by simpa using hw⟩⟩
  ·rename_i e hu
   simp only [Bool.and_eq_true,decide_eq_true_eq,List.contains_iff_mem] at hd
   obtain ⟨he,hpos⟩:=hd
   rcases DataW.trod_slice hu h with ⟨rfl,_⟩ | ⟨a,len,cap,elems,rest,m,hm,rfl,_,hb,hlc,hcm,hel,hget,_⟩
   ·refine ⟨[.lst [] .no],?_,by simp only [qe8,hu];exact ⟨[],rfl,Nat.zero_le _,fun _ h=>by cases h⟩⟩
    simp only [qh,qt]
    exact ⟨_,_,rfl,⟨none,0,0,rfl,rfl,Nat.le_refl _,by simp,by simp,⟨0,fun _ h=>by cases h⟩,.inl trivial⟩,rfl⟩
   ·cases hm
    have one:∀i,i < len→∃aS:List qa,(∃cs',W.cells? base (a.add (i * P.cellsOf e)) (P.cellsOf e) = some cs'∧qh (fun _=>none) (cellsOf W) aS cs')∧qe8 P n e aS:=by
     intro i hi
     have hg:=hget i hi
     rw [List.getElem?_eq_getElem (by omega)] at hg
     simp only [Option.bind_eq_some_iff] at hg
     obtain ⟨cs',h1,h2⟩:=hg
     obtain ⟨aS,h3,h4⟩:=ih e cs' _ he h2
     exact ⟨aS,⟨cs',h1,h3⟩,h4⟩
    obtain ⟨xs,hxl,hx⟩:=qnS len one
    refine ⟨[.lst (xs.map (el P e)) .no],?_,by simp only [qe8,hu];exact ⟨xs,rfl,by omega,fun x hxm=>by obtain ⟨i,hi⟩:=List.getElem?_of_mem hxm;exact (hx i x hi).2⟩⟩
    simp only [qh,qt]
    refine ⟨_,_,rfl,⟨some a,len,cap,rfl,by simp [hxl],hlc,by simp,by simp,⟨P.cellsOf e,fun y hy=>?_⟩,?_⟩,rfl⟩
    ·obtain ⟨x,hxm,rfl⟩:=List.mem_map.1 hy
     obtain ⟨i,hi⟩:=List.getElem?_of_mem hxm
     obtain ⟨⟨cs',h1,h2⟩,h3⟩:=hx i x hi
     rw [h3.cells_el,h2.length,(World.cells?_some h1).2.1]
    ·rcases Nat.eq_zero_or_pos len with h0 | h0
     ·left
      have:xs = []:=List.eq_nil_of_length_eq_zero (by omega)
      simp [this]
     ·right
      have hspot:a.spot = none:=by
       obtain ⟨⟨cs',h1,h2⟩,_⟩:=hx 0 xs[0] (List.getElem?_eq_getElem (by omega))
       obtain ⟨_,h3,h4⟩:=World.cells?_some h1
       have h5:=h4 0 hpos
       rw [List.getElem?_eq_getElem (by omega)] at h5
       simp only [Nat.zero_mul,Addr.add,if_pos] at h5
       cases hsp:a.spot with
       | none=>rfl
       | some s=>
        simp only [World.cell?] at h5
        split at h5
        ·simp [hsp] at h5
        ·cases h5
      refine ⟨a.block,a.off,by rw [←hspot],qig (k:=P.cellsOf e) _ _ fun i y hy=>?_⟩
      rw [List.getElem?_map,Option.map_eq_some_iff] at hy
      obtain ⟨x,hi,rfl⟩:=hy
      obtain ⟨⟨cs',h1,h2⟩,h3⟩:=hx i x hi
      obtain ⟨_,h4,h5⟩:=World.cells?_some h1
      rw [h3.cells_el]
      refine ⟨by rw [h2.length,h4],qif x cs' _ h2 fun j hj=>?_⟩
      have h6:=h5 j (by omega)
      rw [←h6]
      rw [quQ hspot,quQ rfl,Nat.add_assoc]
  ·rename_i fs hu
   simp only [List.all_eq_true,List.contains_iff_mem] at hd
   obtain ⟨xs,m,hm,_,hlen,_,hget⟩:=DataW.trod_struct hu h
   cases hm
   obtain ⟨_,h2,h3⟩:=kid_struct hl hrow hu
   obtain ⟨ass,h4,h5⟩:=qgM (γ:=fun _=>none) (imm:=cellsOf W) (R:=qe8 P n) (size:=P.cellsOf) fs.toList 0 cs (by rw [hlen,h2];simp) (fun j f hj=>by rw [h3 j f hj];simp) (fun f hf=>by
    obtain ⟨i,hi⟩:=List.getElem?_of_mem hf
    have hi':fs[i]? = some f:=by simpa using hi
    have hg:=hget i f hi'
    have hil:i < xs.length:=by
     have:=(Array.getElem?_eq_some_iff.1 hi').1
     omega
    rw [List.getElem?_eq_getElem hil] at hg
    exact ih f.type _ _ (hd f hf) hg)
   exact ⟨ass.flatten,by simpa using h4,by simp only [qe8,hu];exact ⟨ass,rfl,h5⟩⟩
  ·cases hd
theorem qtZ {H:Type} {enc:TypeId×Value→H} {W W0:World} {base b0:Nat} {r:Reach} {sp:Nat→Bool} {held:Bool} {S:List TypeId} (hl:laidOutB P = true) (hS:qwb P S = true) {t:TypeId} (ht:t ∈ S) {v:Value} {d:DataW H} {ps:List MemPlace}
  (hok:Value.okWide P W0 r b0 t v) (h:DataW.Trod enc P W base sp held t v d ps):∃n aS,qe8 P n t aS∧qt (fun _=>none) (cellsOf W) (el P t aS) v:=by
 obtain ⟨n,hn⟩:=h
 obtain ⟨aS,h1,h2⟩:=qiX hl hS n t _ _ ht hn
 refine ⟨n,aS,h2,?_⟩
 have hd:=List.all_eq_true.1 hS t ht
 simp only [Bool.and_eq_true,decide_eq_true_eq] at hd
 obtain ⟨_,hd⟩:=hd
 have scalar:qb5 P t = false→v.cells = #[v]→qt (fun _=>none) (cellsOf W) (el P t aS) v:=by
  intro hs hv
  rw [hv] at h1
  simp only [el,hs,cond_false]
  cases aS with
  | nil=>simp [qh] at h1
  | cons a aS=>
   simp only [qh] at h1
   obtain ⟨u,rest,he,h3,h4⟩:=h1
   cases he
   exact h3
 split at hd
 ·rename_i hu
  simp only [Value.okWide,hu,Cell.okWide,Cell.ok] at hok
  refine scalar (by simp [qb5,hu]) ?_
  cases v <;> first | rfl | (exact hok.elim)
 ·rename_i k hu
  simp only [Value.okWide,hu,Cell.okWide,Cell.ok] at hok
  refine scalar (by simp [qb5,hu]) ?_
  cases v <;> first | rfl | (exact hok.elim)
 ·rename_i hu
  simp only [Value.okWide,hu,Cell.okWide,Cell.ok] at hok
  refine scalar (by simp [qb5,hu]) ?_
  cases v <;> first | rfl | (exact hok.elim)
 ·rename_i e hu
  simp only [Value.okWide,hu,Cell.okWide,Cell.ok] at hok
  refine scalar (by simp [qb5,hu]) ?_
  cases v <;> first | rfl | (exact hok.elim)
 ·rename_i fs hu
  simp only [Value.okWide,hu] at hok
  obtain ⟨cs,rfl,_⟩:=hok
  simp only [el,qb5,hu,cond_true,qt]
  exact ⟨cs,rfl,h1⟩
 ·cases hd
noncomputable def qd.whole (W:World):qd:={ γ:=fun _=>none,imm:=fun b o=>match W.heap[b]? with | some (.cells c _ (0,0))=>if 0 < o∧o = c.size then some mark else cellsOf W b o | _=>cellsOf W b o,ow:=fun _=>none}
theorem qjb {W:World} {b o:Nat} {v:Value} (hv:(qd.whole W).imm b o = some v):(v ≠ mark→W.cell? ⟨b,o,none⟩ = some v∧b < W.heap.size)∧(v = mark→0 < o∧∃c e,W.heap[b]? = some (.cells c e (0,0))∧o = c.size):=by
 have key:cellsOf W b o = some v→(v ≠ mark→W.cell? ⟨b,o,none⟩ = some v∧b < W.heap.size)∧(v = mark→0 < o∧∃c e,W.heap[b]? = some (.cells c e (0,0))∧o = c.size):=fun hv=>by
  obtain ⟨k1,k2⟩:=qbd.1 hv
  refine ⟨fun _=>⟨k1,?_⟩,fun q=>absurd q k2⟩
  rcases Nat.lt_or_ge b W.heap.size with hb | hb
  ·exact hb
  ·simp [World.cell?,Array.getElem?_eq_none hb] at k1
 simp only [qd.whole] at hv
 split at hv
 ·rename_i c e h1
  split at hv
  ·rename_i hh
   cases hv
   exact ⟨fun q=>absurd rfl q,fun _=>⟨hh.1,c,e,h1,hh.2⟩⟩
  ·exact key hv
 ·exact key hv
theorem qll {W:World} {b o:Nat} {v:Value} (hv:cellsOf W b o = some v):(qd.whole W).imm b o = some v:=by
 simp only [qd.whole]
 split
 ·rename_i c e h1
  split
  ·rename_i hh
   have:=(qbd.1 hv).1
   simp [World.cell?,h1,hh.2] at this
  ·exact hv
 ·exact hv
theorem qrO {W:World} (h:qAH gl W):Rel P gl (qd.whole W) [] W∧qdz (qd.whole W):=by
 refine ⟨⟨(fun _ _ h=>by cases h),(fun _ _ _ h=>by cases h),(fun _ _ _ h=>by cases h),fun b o v hv hm=>(qjb hv).1 hm,(fun _ _ _ _ _ _ h=>by cases h),(fun b o hv=>(qjb hv).2 rfl),(fun _ _ h=>by cases h),fun g cs hg=>?_⟩,(fun _ _ h=>by cases h)⟩
 obtain ⟨h1,vs,h2,h3,h4⟩:=h g cs hg
 refine ⟨⟨qaj.of_get fun i c hc=>?_,fun h0=>?_⟩,h1⟩
 ·obtain ⟨v,hv,hr⟩:=h2.get hc
  refine ⟨v,?_,?_⟩
  ·rw [Nat.zero_add]
   exact qll (qbd.2 ⟨h3 i v hv,qcJ hr⟩)
  ·exact qt.mono (fun _ _ _ h=>by cases h) 0 (fun i _ hi=>absurd hi (Nat.not_lt_zero _)) c v (qdZ h1 hc) hr
 ·obtain ⟨c,e,k1,k2⟩:=h4 h0
  simp only [qd.whole,k1]
  rw [if_pos ⟨h0,k2⟩]
theorem qna {n:Nat} {W W':World} {G':qd} (he:Ext n (qd.whole W) W G' W'):W.keptBut W' (fun _=>False):=by
 refine ⟨he.os,he.output,fun i hi=>?_⟩
 rw [he.heap i hi ⟨fun _ h=>by simp [qd.whole] at h,rfl⟩]
 split
 ·rename_i h1 h2
  rw [h1] at h2
  cases h2
  exact ⟨rfl,rfl,rfl,fun _ _=>rfl⟩
 ·rename_i h1 h2
  rw [h1] at h2
  cases h2
  exact .inr ⟨rfl,rfl⟩
 ·rfl
theorem qpM {W W':World} (h:W.keptBut W' (fun _=>False)) {p:MemPlace} (hp:p.block < W.heap.size):W.sameAt W' p:=by
 have h1:=h.2.2 p.block hp
 cases p with
 | cell b off=>
  simp only [MemPlace.block] at h1 hp
  simp only [World.sameAt,World.cell?]
  split at h1
  ·rename_i e1 e2
   rw [e1,e2]
   simp only [Option.isSome_none,Bool.false_eq_true,if_false]
   exact h1.2.2.2 off (fun h=>h)
  ·rename_i e1 e2
   rw [e1,e2]
  ·rw [h1]
 | map b=>
  simp only [MemPlace.block] at h1 hp
  simp only [World.sameAt]
  split at h1
  ·rename_i c t fr c' t' fr' e1 e2
   obtain ⟨rfl,rfl,h3,h4⟩:=h1
   rw [e1,e2]
   have:c' = c:=by
    apply Array.ext_getElem?
    intro j
    exact h4 j (fun h=>h)
   rw [this]
  ·rename_i e1 e2
   rcases h1 with h1 | ⟨rfl,rfl⟩
   ·exact h1.elim
   ·rw [e1,e2]
  ·exact h1
theorem qlv {call : AE.Call} (hcall : qb7 P gl call) {f : FuncId} {pf : Func} {c : Code} (h1 : P.funcs[f]? = some pf) (h2 : (pf.name == "runtime.NumGoroutine") = false) (h3 : pf.body = some c) {args : List qa} {rv : qa} {h' : List qf} {e' : Bool}
  (hrun:call (.fn f [] []) args [] = some (.ret rv,h',e')) {W:World} (ht:qAH gl W) {vs:Array Value} (hargs:qh (fun _=>none) (cellsOf W) args vs.toList) :
  Calls P f vs W fun e W'=>∃v G',e = .returned v∧qd.V G' rv v∧W.keptBut W' (fun _=>False):=by
 obtain ⟨hr,hn⟩:=qrO (P:=P) ht
 have hfv:(qd.whole W).V (.fn f [] []) (.func (.func f) #[] #[]):=by simp [qd.V,qt,qh]
 replace hargs:(qd.whole W).VL args vs.toList:=qh.mono (fun _ _ _ h=>qll h) 0 (fun i _ hi=>absurd hi (Nat.not_lt_zero _)) args _ (qcG (n:=0) (fun _ _ h=>by cases h) args _ hargs) hargs
 have hS:(qeA (.func (.func f) #[] #[]) vs).run P W = .ok (.enter f vs) W:=by
  rw [qfS,q7 h1 h2 h3]
  simp
 rcases hcall _ _ _ _ _ _ hrun _ W _ vs hr hn hfv hargs with ⟨f',aS,k1,k2⟩ | ⟨_,_,_,_,_,_,hy,_⟩ | ⟨v,w',_,k1,_⟩
 ·rw [hS] at k1
  cases k1
  refine (callsIn_wide (n:=0)).1 (CallsIn.mono (k2 none 0) fun e W' hb=>?_)
  cases e with
  | returned v=>
   obtain ⟨rv',G',g1,g2,g3,g4,g5⟩:=hb
   cases g1
   exact ⟨v,G',rfl,g5,qna g2⟩
  | panicked ch=>obtain ⟨_,_,_,g1,_⟩:=hb;cases g1
  | outgrown=>exact hb.elim
 ·cases hy
 ·rw [hS] at k1
  cases k1
end
end Go.AE
