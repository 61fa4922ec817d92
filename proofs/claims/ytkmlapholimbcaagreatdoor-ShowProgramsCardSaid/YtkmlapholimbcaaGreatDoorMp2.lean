/- A part of the proof: the abstract executor and what goes through it (part 2). No condition. -/
import Derived.Test.YtkmlapholimbcaaGreatDoorMp0
import Derived.Test.YtkmlapholimbcaaGreatDoorMp1
import Derived.RecoverIn
import Derived.OpenShut
import Derived.LaidLaws
import Derived.ChangeArms
import Derived.Lib.AtoiAll
import Derived.Lib.Bytealg
import Derived.Lib.ItoaNum
import Derived.Lib.Join
import Derived.WideKeyArgs
set_option maxRecDepth 100000
namespace Go.AE
inductive qga where
 | pre (a:qF) (r:qga)
 | dfr (f:FuncId) (caps:List qn) (slot:Nat) (rest:qF)
 deriving Inhabited
structure qd8 where
 ntmps:Nat
 k:Nat
 ops:List qae
 code:qF
 deriving Inhabited
structure qij where
 ntmps:Nat
 results:List qjC
 body:qga
 d:qd8
 deriving Inhabited
def qga.fid:qga→FuncId
 | .pre _ r=>r.fid
 | .dfr f _ _ _=>f
def qeg (n:Nat) (call:Call) (d:qd8) (v:qf) (cv:List qf) (s:St):Option (Ex×St):=
 match qaM s.h.length call [] d.ops ⟨put (some d.k) v.dim (cv.map qf.dim ++ List.replicate (d.ntmps - cv.length) (.tup [])),s.h,false⟩ with
 | some (.nor,s1)=>
  match qaV n s.h.length call d.code s1 with
  | some (.nor,s2) | some (.ret,s2)=>some (.ret,{ s with h:=s2.h,e:=s.e || s2.e})
  | _=>none
 | _=>none
def qdg (n base:Nat) (call:Call) (d:qd8):qga→St→Option (Ex×St)
 | .pre a r,s=>match qaV n base call a s with
  | some (.nor,s)=>qdg n base call d r s
  | some (.exit _,_)=>none
  | r=>r
 | .dfr f caps slot rest,s=>
  match ev (put (some slot) (.fn f [] (caps.map (ev s.t))) s.t) (.t slot) with
  | .fn g [] cv=>
   if g = f then
    match qaV n base call rest { s with t:=put (some slot) (.fn f [] (caps.map (ev s.t))) s.t} with
    | some (.nor,s1) | some (.ret,s1)=>qeg n call d .niliface cv s1
    | some (.pan v,s1)=>qeg n call d v cv s1
    | _=>none
   else none
  | _=>none
def qfj (n:Nat) (g:qij) (call:Call) (aS:List qf) (h:List qq):Option (qcS×List qq×Bool):=
 match qdg n h.length call g.d g.body ⟨aS.map qf.dim ++ List.replicate (g.ntmps - aS.length) (.tup []),h,false⟩ with
 | some (.nor,s) | some (.ret,s)=>
  match qay s g.results with
  | some vs=>some (leave h.length (.ret (qbF vs)) s.h s.e)
  | none=>none
 | some (.pan v,s)=>some (leave h.length (.pan v) s.h s.e)
 | _=>none
section
variable (P:Program) (gl:Nat→Option (List qf))
def qnw (o0 o1:Oper):Option (FuncId×List qn×Nat):=
 match o0.op with
 | .makeFunc (.func f) a caps=>
  match o1.op with
  | .defer c=>
   match c.callee with
   | .value (.tmp t)=>if o0.dst = some t∧o0.guard = none∧o1.dst = none∧o1.guard = none∧a = #[]∧c.args = #[] then (qrr gl caps).map fun cs=>(f,cs,t) else none
   | _=>none
  | _=>none
 | _=>none
def qiz:Code→Option (FuncId×List qn×Nat)
 | .region _ ops false=>
  match ops.toList with
  | [o0,o1]=>qnw gl o0 o1
  | _=>none
 | _=>none
def qnq:Code→Option qga
 | .seq a b=>
  match qiz gl a with
  | some (f,caps,t)=>(comp P gl b).map (.dfr f caps t)
  | none=>
   match comp P gl a,qnq b with
   | some x,some r=>if x.noRf then some (.pre x r) else none
   | _,_=>none
 | _=>none
def qzR (o:Oper):Option Nat:=
 match o.op with
 | .call c=>
  match c.callee with
  | .builtin .recover=>if o.guard = none∧c.args = #[] then o.dst else none
  | _=>none
 | _=>none
def qvO (f:Func):Option qd8:=
 match f.body with
 | some (.seq (.region _ ops false) c)=>
  match ops.toList with
  | o0 :: os=>
   match qzR o0,os.mapM (qbR P gl ops),comp P gl c with
   | some k,some aos,some ac=>if aos.all (fun o=>!o.op.calls) && ac.noRf && f.results.isEmpty then some ⟨f.ntmps,k,aos,ac⟩ else none
   | _,_,_=>none
  | _=>none
 | _=>none
def qfC (f d:Func):Option qij:=
 match f.body with
 | some c=>
  match qnq P gl c,f.results.toList.mapM (qdS P),qvO P gl d with
  | some b,some rs,some d=>some ⟨f.ntmps,rs,b,d⟩
  | _,_,_=>none
 | none=>none
end
end Go.AE
namespace Go.AE
inductive qeJ where
 | nil
 | node (k:Nat) (v:qw) (l r:qeJ)
 deriving Inhabited
def qeJ.get:qeJ→Nat→Option qw
 | .nil,_=>none
 | .node k v l r,i=>bif Nat.beq i k then some v else bif Nat.blt i k then l.get i else r.get i
def qeJ.All (p:Nat→qw→Prop):qeJ→Prop
 | .nil=>True
 | .node k v l r=>p k v∧l.All p∧r.All p
theorem qeJ.get_all {p:Nat→qw→Prop}:∀{t:qeJ} {i:Nat} {v:qw},t.All p→t.get i = some v→p i v
 | .nil,_,_,_,h=>by cases h
 | .node k w l r,i,v,ha,h=>by
  simp only [qeJ.get] at h
  cases hb:Nat.beq i k with
  | true=>
   rw [hb] at h
   have hik:i = k:=Nat.eq_of_beq_eq_true hb
   subst hik
   cases h
   exact ha.1
  | false=>
   rw [hb] at h
   cases hc:Nat.blt i k with
   | true=>rw [hc] at h;exact qeJ.get_all ha.2.1 h
   | false=>rw [hc] at h;exact qeJ.get_all ha.2.2 h
end Go.AE
namespace Go.AE
def qiD (fn:qw) (h:List qq):Option (Ex×St)→Option (qcS×List qq×Bool)
 | some (.nor,s) | some (.ret,s)=>
  match qay s fn.results with
  | some vs=>some (leave h.length (.ret (qbF vs)) s.h s.e)
  | none=>none
 | some (.pan v,s)=>some (leave h.length (.pan v) s.h s.e)
 | _=>none
theorem qu4 {F:FuncId→Option qw} {X:qfy} {n:Nat} {f:FuncId} {first args cap:List qf} {h:List qq} {fn:qw} (hX:X f = none) (hF:F f = some fn) :
  run F X (n + 1) (.fn f first cap) args h = qiD fn h (qaV n h.length (run F X n) fn.code ⟨(first ++ args ++ cap).map qf.dim ++ List.replicate (fn.ntmps - ((first ++ args ++ cap).map qf.dim).length) (.tup []),h,false⟩):=by
 simp only [run,hX,hF]
 rfl
theorem qqO {F:FuncId→Option qw} {X:qfy} {n:Nat} {f:FuncId} {first args cap:List qf} {h:List qq} {g:Call→List qf→List qq→Option (qcS×List qq×Bool)} (hX:X f = some g) :
  run F X (n + 1) (.fn f first cap) args h = g (run F X n) (first ++ args ++ cap) h:=by
 simp only [run,hX]
end Go.AE
namespace Go.AE
section
variable {P:Program} {gl:Nat→Option (List qf)}
theorem qiy {call:AE.Call} (hk:qP call) {n base:Nat} {d:qd8} {v:qf} {cv:List qf} {s s':St} {x:Ex} (hb:base ≤ s.h.length) (h:qeg n call d v cv s = some (x,s')):qax base s s':=by
 unfold qeg at h
 split at h
 ·rename_i s1 h1
  have k1:=qcz (base:=s.h.length) hk d.ops [] ⟨_,s.h,false⟩ s1 _ (Nat.le_refl _) h1
  have key:∀x2 s2,qaV n s.h.length call d.code s1 = some (x2,s2)→qax base s { s with h:=s2.h,e:=s.e || s2.e}:=by
   intro x2 s2 h2
   have k2:=qR (base:=s.h.length) hk n d.code s1 s2 _ k1.1 h2
   have k:=k1.trans k2
   refine ⟨k.1,fun he=>?_⟩
   simp only [Bool.or_eq_false_iff] at he
   exact ⟨he.1,(k.2 he.2).2.lower hb⟩
  split at h
  ·rename_i s2 h2;cases h;exact key _ _ h2
  ·rename_i s2 h2;cases h;exact key _ _ h2
  ·cases h
 ·cases h
theorem qck {call:AE.Call} (hk:qP call) {n base:Nat} {d:qd8}:∀(b:qga) (s s':St) (x:Ex),base ≤ s.h.length→qdg n base call d b s = some (x,s')→qax base s s'
 | .pre a r,s,s',x,hb,h=>by
  simp only [qdg] at h
  split at h
  ·rename_i s1 h1
   have k1:=qR (base:=base) hk n a s s1 _ hb h1
   exact k1.trans (qck hk r s1 s' x (Nat.le_trans hb k1.1) h)
  ·cases h
  ·exact qR (base:=base) hk n a s s' x hb h
 | .dfr f caps slot rest,s,s',x,hb,h=>by
  simp only [qdg] at h
  split at h
  ·rename_i g cv hev
   split at h
   ·have k0:qax base s { s with t:=put (some slot) (.fn f [] (caps.map (ev s.t))) s.t}:=⟨Nat.le_refl _,fun h=>⟨h,qaa.refl _ _⟩⟩
    have key:∀x1 s1,qaV n base call rest { s with t:=put (some slot) (.fn f [] (caps.map (ev s.t))) s.t} = some (x1,s1)→∀v,qeg n call d v cv s1 = some (x,s')→qax base s s':=by
     intro x1 s1 h1 v h2
     have k1:=qR (base:=base) hk n rest { s with t:=put (some slot) (.fn f [] (caps.map (ev s.t))) s.t} s1 _ hb h1
     exact k0.trans (k1.trans (qiy hk (Nat.le_trans hb k1.1) h2))
    split at h
    ·rename_i s1 h1;exact key _ _ h1 _ h
    ·rename_i s1 h1;exact key _ _ h1 _ h
    ·rename_i s1 h1;exact key _ _ h1 _ h
    ·cases h
   ·cases h
  ·cases h
theorem qfM {n:Nat} {g:qij} {call:AE.Call} (hk:qP call):qP fun _ aS h=>qfj n g call aS h:=by
 intro fv aS h r h' e' hr
 simp only [qfj] at hr
 split at hr
 ·rename_i s h1
  have k:=qck (base:=h.length) hk g.body ⟨_,h,false⟩ s _ (Nat.le_refl _) h1
  split at hr
  ·rename_i vs hvs
   have:=qbw (r:=.ret (qbF vs)) (h:=h) ⟨k.1,fun he=>(k.2 he).2⟩
   rw [Option.some.inj hr] at this
   exact this
  ·cases hr
 ·rename_i s h1
  have k:=qck (base:=h.length) hk g.body ⟨_,h,false⟩ s _ (Nat.le_refl _) h1
  split at hr
  ·rename_i vs hvs
   have:=qbw (r:=.ret (qbF vs)) (h:=h) ⟨k.1,fun he=>(k.2 he).2⟩
   rw [Option.some.inj hr] at this
   exact this
  ·cases hr
 ·rename_i v s h1
  have k:=qck (base:=h.length) hk g.body ⟨_,h,false⟩ s _ (Nat.le_refl _) h1
  have:=qbw (r:=.pan v) (h:=h) ⟨k.1,fun he=>(k.2 he).2⟩
  rw [Option.some.inj hr] at this
  exact this
 ·cases hr
theorem qvU {a:Code} {f:FuncId} {caps:List qn} {t:Nat} (h:qiz gl a = some (f,caps,t)) :
  ∃id ops o0 o1 a0 cs c,a = .region id ops false∧ops = #[o0,o1]∧o0.op = .makeFunc (.func f) a0 cs∧a0 = #[]∧o0.dst = some t∧o0.guard = none∧o1.op = .defer c∧c.callee = .value (.tmp t)∧c.args = #[]∧o1.dst = none∧o1.guard = none∧qrr gl cs = some caps:=by
 unfold qiz at h
 split at h
 ·rename_i id ops
  split at h
  ·rename_i o0 o1 hops
   unfold qnw at h
   split at h
   ·rename_i f' a0 cs ho0
    split at h
    ·rename_i c ho1
     split at h
     ·rename_i t' hcal
      split at h
      ·rename_i hc
       obtain ⟨c1,c2,c3,c4,c5,c6⟩:=hc
       obtain ⟨cs',hcs',he⟩:=qbI h
       cases he
       exact ⟨id,ops,o0,o1,a0,cs,c,rfl,by apply Array.ext';simpa using hops,ho0,c5,c1,c2,ho1,hcal,c6,c3,c4,hcs'⟩
      ·cases h
     ·cases h
    ·cases h
   ·cases h
  ·cases h
 ·cases h
structure qAq (P:Program) (gl:Nat→Option (List qf)) (df:Func) (d:qd8):Prop where
 ex:∃id ops o0 os c,df.body = some (.seq (.region id ops false) c)∧ops.toList = o0 :: os∧(∃cl,o0.op = .call cl∧cl.callee = .builtin .recover∧cl.args = #[])∧o0.dst = some d.k∧o0.guard = none∧os.mapM (qbR P gl ops) = some d.ops∧
  comp P gl c = some d.code∧(∀o ∈ d.ops,o.op.calls = false)∧d.code.noRf = true∧df.results = #[]∧df.ntmps = d.ntmps
theorem qnp {df:Func} {d:qd8} (h:qvO P gl df = some d):qAq P gl df d:=by
 unfold qvO at h
 split at h
 ·rename_i id ops c hb
  split at h
  ·rename_i o0 os hops
   split at h
   ·rename_i k aos ac hk hos hac
    split at h
    ·rename_i hc
     simp only [Bool.and_eq_true,List.all_eq_true,Bool.not_eq_true',Array.isEmpty_iff] at hc
     cases h
     unfold qzR at hk
     split at hk
     ·rename_i cl ho
      split at hk
      ·rename_i hcal
       split at hk
       ·rename_i hg
        exact ⟨id,ops,o0,os,c,hb,hops,⟨cl,ho,hcal,hg.2⟩,hk,hg.1,hos,hac,hc.1.1,hc.1.2,hc.2,rfl⟩
       ·cases hk
      ·cases hk
     ·cases hk
    ·cases h
   ·cases h
  ·cases h
 ·cases h
theorem qvX {o:Oper} {ao:AOp} {a:Act} {w w':World} {nx:Next} {u:Value} (hcomp:qb4 P gl o = some ao) {i:Nat} (hmv:ao = .mov (.t i)) (h1:(execOp a.eval o).run P w = .ok nx w') (h2:Nx nx u):u = a.tmps.getD i undef:=by
 subst hmv
 have ho:=(qbS hcomp).1 i rfl
 have:(execOp a.eval o).run P w = .ok (.value (a.eval (.tmp i))) w:=by simp [execOp,ho]
 rw [this] at h1
 cases h1
 rcases h2 with h2 | ⟨h2,_⟩
 ·cases h2;rfl
 ·cases h2
theorem qkJ {G:qm} {w w':World} {h:List qq} {t:List qf} {a:Act} (hc:Cfg P gl G h t a w) {o:Oper} {ao:AOp} {nx:Next} {u:Value} (hcomp:qb4 P gl o = some ao) {q:qn} {id off:Nat} (hld:ao = .ld none q) (hq:ev t q = .ptr id off)
  {base:Nat} {call:AE.Call} {p:qcj} {dst:Option Nat} {e:Bool} {x:Ex} {s':St} (hrun:qz base call p dst ao ⟨t,h,e⟩ = some (x,s')) (h1:(execOp a.eval o).run P w = .ok nx w') (h2:Nx nx u) :
  ∃b,G.γ id = some b∧w.cell? ⟨b,off,none⟩ = some u:=by
 subst hld
 obtain ⟨ty,y,ho,hy,hk⟩:=(qbS hcomp).2.1 q rfl
 have hv:=qY hc.rel hc.tr hy
 rw [hq] at hv
 simp only [qm.V,qB] at hv
 obtain ⟨b,hb,he⟩:=hv
 refine ⟨b,hb,?_⟩
 obtain ⟨g1,_⟩:=qeG hk w
 simp only [qz] at hrun
 obtain ⟨v,hv,_⟩:=qbI hrun
 rw [hq] at hv
 simp only [qcZ] at hv
 split at hv
 ·rename_i cs hcs
  obtain ⟨c,te,hw,hcr,_⟩:=hc.rel.box id b _ hb hcs
  simp only [cut] at hv
  obtain ⟨av,hav,_⟩:=qbI hv
  obtain ⟨uv,huv,_⟩:=qdf hcr hav
  have hcell:w.cell? ⟨b,off,none⟩ = some uv:=by
   simp only [Array.getElem?_toList] at huv
   simp [World.cell?,hw,huv]
  have:(execOp a.eval o).run P w = .ok (.value uv) w:=by
   simp only [execOp,ho]
   refine qc4 ?_
   simp only [Instr.loadAt,he,Instr.sureAddr,Sem.run_bind,Sem.run_pure,Result.andThen_ok,loadVar,g1,Option.isSome_none,Bool.false_eq_true,if_false,run_load,hcell]
  rw [this] at h1
  cases h1
  rcases h2 with h2 | ⟨h2,_⟩
  ·cases h2;exact hcell
  ·cases h2
 ·cases hv
theorem ql7 {ops:Array Oper} {base:Nat} {call:AE.Call} {cs:List Frame} {m:Nat} {x:Ex} {s':St}:∀(l:List Nat) (os:List qae),Lays P gl ops l os→(∀o ∈ os,o.op.calls = false)→
  ∀(G:qm) (w:World) (h:List qq) (t:List qf) (e:Bool) (a:Act) (p:qcj),Cfg P gl G h t a w→qa7 G w t a p→qaM base call p os ⟨t,h,e⟩ = some (x,s')→
   x = .nor∧h.length ≤ s'.h.length∧∀(Q:Exit→Act→List Frame→World→Prop),(∀a' w' G',Ext h.length G w G' w'→Cfg P gl G' s'.h s'.t a' w'→a'.defers = a.defers→Q .normal a' cs w')→wpOpsSIn (FR none) m P ops Q l a cs w:=by
 intro l
 induction l with
 | nil=>
  intro os hl _ G w h t e a p hc hp hrun
  cases os with
  | cons _ _=>exact hl.elim
  | nil=>
   simp only [qaM] at hrun
   cases hrun
   exact ⟨rfl,Nat.le_refl _,fun Q hQ=>hQ a w G (Ext.refl _ G w) hc rfl⟩
 | cons i l ih=>
  intro os hl hnc G w h t e a p hc hp hrun
  cases os with
  | nil=>exact hl.elim
  | cons ao os=>
   obtain ⟨⟨o,ho,hco⟩,hl⟩:=hl
   simp only [qaM] at hrun
   split at hrun
   ·rename_i hw
    obtain ⟨hcomp,hdst,hwant⟩:=qbA hc.tr hco hw
    simp only [hdst] at hrun
    cases hop:qz base call p o.dst ao.op ⟨t,h,e⟩ with
    | none=>rw [hop] at hrun;cases hrun
    | some r=>
     obtain ⟨x1,s1⟩:=r
     have hcl:ao.op.calls = false:=hnc ao (List.mem_cons_self ..)
     obtain ⟨rfl,hd,hlen⟩:=quE hc hp hcomp hcl hop
     rw [hop] at hrun
     simp only at hrun
     obtain ⟨nx,u,w',G',h1,h2,hst,h3,h4⟩:=hd
     have hnext:qa7 G' w' s1.t (a.put o.dst u) (qaH p ao):=by
      have hq:ao.op.effs = false→ao.op.acts = false:=by cases ao.op <;> simp [AOp.effs,AOp.acts]
      have hstill:ao.op.effs = false→∀b,b < w.heap.size→w'.heap[b]? = w.heap[b]?:=fun hac=>hst (fun hop'=>by
       have:=(qbS hcomp).2.2.1 hop'
       rw [hq hac] at this
       cases this) (fun hop'=>by
       have:=qoE hcomp hop'
       rw [hq hac] at this
       cases this)
      rw [←hdst]
      by_cases hac:ao.op.effs = false
      ·obtain ⟨_,v,hv,_⟩:=qc2 hac hop
       refine hp.next (v:=v) (fun _=>by rw [hdst];exact hv) h3.gk hstill ?_ ?_
       ·intro i hmv
        exact qvX hcomp hmv h1 h2
       ·intro q id off hld hq'
        exact qkJ hc hcomp hld hq' hop h1 h2
      ·exact hp.next (v:=.undef) (fun h=>absurd h hac) h3.gk (fun h=>absurd h hac) (fun i hmv=>by rw [hmv] at hac;exact absurd rfl hac) (fun q _ _ hld _=>by rw [hld] at hac;exact absurd rfl hac)
     obtain ⟨r1,r2,r3⟩:=ih os hl (fun o ho=>hnc o (List.mem_cons_of_mem _ ho)) G' w' s1.h s1.t s1.e (a.put o.dst u) (qaH p ao) h4 hnext hrun
     refine ⟨r1,Nat.le_trans hlen r2,fun Q hQ=>?_⟩
     have hrest:=r3 Q fun a' w'' G'' he hc' hd'=>hQ a' w'' G'' (h3.trans hlen he) hc' (by rw [hd',qbP])
     simp only [wpOpsSIn,ho]
     refine ⟨fun _ _=>trivial,?_⟩
     rw [if_pos hwant,h1]
     rcases h2 with rfl | ⟨rfl,rfl⟩
     ·exact hrest
     ·exact hrest
   ·rename_i hw
    obtain ⟨hcomp,hdst,hwant⟩:=qbA hc.tr hco hw
    simp only [hdst] at hrun
    have hnext:qa7 G w (AE.put o.dst (.tup []) t) (a.put o.dst undef) (qaH p { ao with op:=.pick (.c .undef) (.c .undef) (.c .undef)}):=by
     rw [←hdst]
     exact hp.next (o:={ ao with op:=.pick (.c .undef) (.c .undef) (.c .undef)}) (v:=.tup []) (fun _=>rfl) (fun _ _ h=>h) (fun _ _ _=>rfl) (fun _ h=>by cases h) (fun _ _ _ h=>by cases h)
    obtain ⟨r1,r2,r3⟩:=ih os hl (fun o ho=>hnc o (List.mem_cons_of_mem _ ho)) G w h _ e _ _ (qcA hc o.dst) (by simpa only [hdst] using hnext) (by simpa only [hdst] using hrun)
    refine ⟨r1,r2,fun Q hQ=>?_⟩
    simp only [wpOpsSIn,ho]
    refine ⟨fun _ _=>trivial,?_⟩
    rw [if_neg (by rw [hwant];simp)]
    exact r3 Q fun a' w'' G'' he hc' hd'=>hQ a' w'' G'' he hc' (by rw [hd',qbP])
   ·cases hrun
theorem Ext.cellsOnly {n:Nat} {G G':qm} {w w':World} (he:Ext n G w G' w'):Ext n G w G'.cellsOnly w':=
 ⟨he.gk,he.gn,he.ik,he.inew,fun b hb=>he.on b fun e=>hb (by simp [qm.cellsOnly,e]),he.size,he.heap,he.loops,he.os,he.tape,he.output⟩
def qDk (G:qm) (u:FrameMode) (v:qf):Prop:=(u = .returning∧v = .niliface)∨∃vv,u = .panicking [{ v:=vv,recovered:=false}]∧G.V v vv
theorem qfF (hmx:P.follows .mixedOrders = true) {call:AE.Call} (hcall:qbX P gl call) (hk:qP call) {f:FuncId} {df:Func} {d:qd8} (hf:P.funcs[f]? = some df) (hd:qAq P gl df d) {n:Nat} {v:qf} {cv:List qf} {s s':St} {x:Ex}
  (h:qeg n call d v cv s = some (x,s')) {G:qm} {w:World} {a:Act} (hc:Cfg P gl G s.h s.t a w) {vs:Array Value} (hcv:G.VL cv vs.toList) {u:FrameMode} (hu:qDk G u v) {m:Nat} {R:Ending→FrameMode→World→Prop}
  (hR:∀r u' G' w',settle u' = .returning→Ext s.h.length G w G' w'→Cfg P gl G' s'.h s'.t a w'→R (.returned r) u' w'):x = .ret∧s'.t = s.t∧CallsDIn (FR none) m P f vs u w R:=by
 obtain ⟨id,ops,o0,os,c,hbody,hops,⟨cl,hcl1,hcl2,hcl3⟩,hdst,hgd,hos,hcc,hncl,hrf,hres,hnt⟩:=hd.ex
 unfold qeg at h
 split at h
 ·rename_i s1 hx1
  have hlen:cv.length = vs.size:=by simpa using hcv.length
  obtain ⟨hr0,hn0⟩:=hc.rel.cellsOnly
  let a0:Act:={ tmps:=vs ++ Array.replicate (df.ntmps - vs.size) undef,defers:=[]}
  have hc0:Cfg P gl G.cellsOnly s.h (cv.map qf.dim ++ List.replicate (d.ntmps - cv.length) (.tup [])) a0 w:=by
   refine ⟨hr0,qaD.start ?_ fun z hz=>?_⟩
   ·simp only [a0,Array.toList_append,Array.toList_replicate]
    refine qr.append hcv.dims ?_
    rw [hnt,hlen]
    exact qr.replicate _ (by simp [qB,qr,undef])
   ·rcases List.mem_append.1 hz with hz | hz
    ·obtain ⟨q,_,rfl⟩:=List.mem_map.1 hz;exact qbl q
    ·rw [(List.mem_replicate.1 hz).2];rfl
  have body:∀(cs':List Frame) (vv:Value) (c₀:Frame) (cs:List Frame) (u':FrameMode),G.V v vv→cs' = { c₀ with mode:=u'} :: cs→settle u' = .returning→
    x = .ret∧s'.t = s.t∧wpOpsSIn (FR none) m P ops (Exit.thenS (c.wpSIn (FR none) m P (bodyPostS P df c₀ cs R)) (bodyPostS P df c₀ cs R)) (List.range' 1 os.length) (a0.put (some d.k) vv) cs' w:=by
   intro cs' vv c₀ cs u' hvv hcs hset
   have hc1:=hc0.put (some d.k) (x:=v.dim) (v:=vv) (qcD hvv) (qbl v)
   have hl:=qdj os 1 d.ops (fun j=>by
    have:ops[1 + j]? = ops.toList[1 + j]?:=by simp
    rw [this,hops,Nat.add_comm]
    simp) hos
   obtain ⟨_,r2,r3⟩:=ql7 (cs:=cs') (m:=m) _ d.ops hl hncl G.cellsOnly w s.h _ false (a0.put (some d.k) vv) [] hc1 qa7.nil hx1
   have key:∀x2 s2,qaV n s.h.length call d.code s1 = some (x2,s2)→(x2 = .nor∨x2 = .ret)→some (Ex.ret,({ s with h:=s2.h,e:=s.e || s2.e}:St)) = some (x,s')→
     x = .ret∧s'.t = s.t∧wpOpsSIn (FR none) m P ops (Exit.thenS (c.wpSIn (FR none) m P (bodyPostS P df c₀ cs R)) (bodyPostS P df c₀ cs R)) (List.range' 1 os.length) (a0.put (some d.k) vv) cs' w:=by
    intro x2 s2 hx2 hxx he
    cases he
    refine ⟨rfl,rfl,r3 _ fun a1 w1 G1 e1 c1 d1=>?_⟩
    have hd1:a1.defers = []:=by rw [d1,qbP]
    refine wpSIn_of_wpIn rfl (wpIn_mono (qcg hmx hcall hk (N:=n) (base:=s.h.length) (lo:=w.heap.size) (rf:=true) (fx:=[]) (ro:=none) (m:=m) c d.code hcc (fun _=>hrf) G1 w1 s1 a1 x2 s2 c1 r2 (fun _ hq=>by cases hq)
     ⟨[],by rw [hd1];rfl,⟨List.nodup_nil,fun _ h=>by cases h⟩,fun _=>rfl⟩ e1.size hx2) fun e a2 w2 hfin=>?_)
    obtain ⟨G2,g1,⟨ms,hms,_,hms0⟩,g3⟩:=hfin
    have hdf:a2.defers = []:=by rw [hms,hms0 rfl];rfl
    have fin:Cfg P gl G2 s2.h s2.t a2 w2→a2.defers = []∧∃u',cs' = { c₀ with mode:=u'} :: cs∧∃r,(results df a2.tmps).run P w2 = .ok r w2∧R (.returned r) u' w2:=by
     intro c2
     have hext:Ext s.h.length G.cellsOnly w G2.cellsOnly w2:=(e1.trans r2 g1).cellsOnly
     obtain ⟨b1,b2,b3⟩:=qed hc hext c2.rel.cellsOnly.1
     refine ⟨hdf,u',hcs,.tuple #[],?_,hR _ _ _ _ hset b1 ⟨b2,b3⟩⟩
     unfold results
     rw [hres]
     simp
    rcases hxx with rfl | rfl
    ·obtain ⟨rfl,g3⟩:=g3;exact fin g3
    ·obtain ⟨rfl,g3⟩:=g3;exact fin g3
   split at h
   ·rename_i s2 hx2;exact key _ s2 hx2 (.inl rfl) h
   ·rename_i s2 hx2;exact key _ s2 hx2 (.inr rfl) h
   ·cases h
  have hrange:List.range ops.size = 0 :: List.range' 1 os.length:=by
   have:ops.size = os.length + 1:=by rw [←Array.length_toList,hops];rfl
   rw [this,List.range_eq_range',List.range'_succ]
  have ho0:ops[0]? = some o0:=by
   have:ops[0]? = ops.toList[0]?:=by simp
   rw [this,hops]
   rfl
  have hrec:(execOp a0.eval o0).run P w = .ok .recover w:=by
   simp [execOp,hcl1,resolve,hcl2,hcl3,invoke,builtin]
  have main:∀(c₀:Frame) (cs:List Frame),c₀.mode = u→x = .ret∧s'.t = s.t∧(Code.seq (.region id ops false) c).wpSIn (FR none) m P (bodyPostS P df c₀ cs R) a0 (c₀ :: cs) w:=by
   intro c₀ cs hmode
   have fin:∀(cs':List Frame) (vv:Value),(match recoverD (c₀ :: cs) with | some (v,cs')=>(v,cs') | none=>(.nilIface,c₀ :: cs)) = (vv,cs')→
     wpOpsSIn (FR none) m P ops (Exit.thenS (c.wpSIn (FR none) m P (bodyPostS P df c₀ cs R)) (bodyPostS P df c₀ cs R)) (List.range' 1 os.length) (a0.put (some d.k) vv) cs' w→
     (Code.seq (.region id ops false) c).wpSIn (FR none) m P (bodyPostS P df c₀ cs R) a0 (c₀ :: cs) w:=by
    intro cs' vv hre hW
    refine wpSIn_seq (wpSIn_region ?_)
    rw [hrange]
    simp only [wpOpsSIn,ho0]
    refine ⟨fun _ _=>trivial,?_⟩
    rw [if_pos (by simp [Region.wanted,hgd]),hrec]
    simp only
    rw [hdst]
    cases hrd:recoverD (c₀ :: cs) with
    | none=>rw [hrd] at hre;cases hre;exact hW
    | some p=>obtain ⟨p1,p2⟩:=p;rw [hrd] at hre;cases hre;exact hW
   rcases hu with ⟨rfl,rfl⟩ | ⟨vv,rfl,hvv⟩
   ·obtain ⟨q1,q2,q3⟩:=body (c₀ :: cs) .nilIface c₀ cs .returning (by simp [qm.V,qB]) (by rw [←hmode]) rfl
    exact ⟨q1,q2,fin _ _ (by simp [recoverD,hmode]) q3⟩
   ·obtain ⟨q1,q2,q3⟩:=body ({ c₀ with mode:=.panicking [{ v:=vv,recovered:=true}]} :: cs) vv c₀ cs (.panicking [{ v:=vv,recovered:=true}]) hvv rfl rfl
    exact ⟨q1,q2,fin _ _ (by simp [recoverD,hmode]) q3⟩
  have m0:=main { (default:Frame) with mode:=u} [] rfl
  exact ⟨m0.1,m0.2.1,callsDIn_of_wpSIn hf hbody trivial fun c₀ cs hmode=>(main c₀ cs hmode).2.2⟩
 ·cases h
end
end Go.AE
namespace Go.AE
section
variable {P:Program} {gl:Nat→Option (List qf)}
theorem qet {G' G0:qm} {w0:World} {h:List qq} {t:List qf} {n:Nat} {fn:Func} {ts:Array Value} {R:Ending→World→Prop} {F:Fence} {m:Nat} {u:FrameMode} (hu:u ≠ .run) {fx:List Deferred}:∀(ds:List Deferred) (w':World),
  qgb G' w' w0.heap.size ds→Ext n G0 w0 G' w'→Rel P gl G' h w'→qaD G' w' t ts→(∀w'',Ext n G0 w0 G' w''→Rel P gl G' h w''→qaD G' w'' t ts→LeavesInM F m P fn ts R fx u w'')→LeavesInM F m P fn ts R (ds ++ fx) u w'
 | [],w',_,he,hr,ht,hR=>hR w' he hr ht
 | d :: ds,w',hm,he,hr,ht,hR=>by
  obtain ⟨r,rfl,h1,h2,h3⟩:=hm.all d (List.mem_cons_self ..)
  refine ⟨hu,.inl ⟨r,w'.putObj r (.deferred none),rfl,run_takeDeferred h2,?_⟩⟩
  have hnd:=List.nodup_cons.1 hm.nodup
  refine qet hu ds _ ⟨hnd.2,fun d hd=>?_⟩ (he.putFar h1 _) (hr.putFar h3 fun k=>by simp [World.cell?,h2]) (ht.putFar h3) hR
  obtain ⟨r',g1,g2,g3,g4⟩:=hm.all d (List.mem_cons_of_mem _ hd)
  refine ⟨r',g1,g2,?_,g4⟩
  rw [World.putObj_heap_other]
  ·exact g3
  ·rintro rfl
   rw [g1] at hd
   exact hnd.1 hd
theorem qiL (hmx:P.follows .mixedOrders = true) {call:AE.Call} (hcall:qbX P gl call) (hk:qP call) {df pf:Func} {d:qd8} (hd:qAq P gl df d) {N base n0 m:Nat} {G0:qm} {w0:World} {R:Ending→World→Prop} {x:Ex} {s':St} :
  ∀ (gb : qga) (c : Code), qnq P gl c = some gb → P.funcs[gb.fid]? = some df → (df.name == "runtime.NumGoroutine") = false → ∀ (G : qm) (w : World) (s : St) (a : Act), Cfg P gl G s.h s.t a w → base ≤ s.h.length → a.defers = [] → w0.heap.size ≤ w.heap.size → n0 ≤ s.h.length → Ext n0 G0 w0 G w →
   qdg N base call d gb s = some (x,s')→
   (∀G' w' a',(x = .nor∨x = .ret)→Ext n0 G0 w0 G' w'→Cfg P gl G' s'.h s'.t a' w'→LeavesIn (FR none) m P pf a'.tmps R [] .returning w')→
   (∀pv v G' w' a',x = .pan pv→Ext n0 G0 w0 G' w'→Cfg P gl G' s'.h s'.t a' w'→G'.V pv v→R (.panicked [{ v,recovered:=false}]) w')→
   c.wpIn (FR none) m P (bodyPostM (FR none) m P pf R) a w:=by
 intro gb
 induction gb with
 | pre ac r ih=>
  intro c hcomp hf hname G w s a hc hb hdf hlo hn he hrun hret hpan
  cases c <;> simp only [qnq,reduceCtorEq] at hcomp
  rename_i a1 b1
  split at hcomp
  ·rename_i f caps t hdc
   obtain ⟨z,_,hz⟩:=qbI hcomp
   cases hz
  ·split at hcomp
   ·rename_i x1 r1 hx1 hr1
    split at hcomp
    ·rename_i hrf
     cases hcomp
     have hW:=fun x2 s2 hx2=>qcg hmx hcall hk (N:=N) (base:=base) (lo:=w0.heap.size) (rf:=true) (fx:=[]) (ro:=none) (m:=m) a1 ac hx1 (fun _=>hrf) G w s a x2 s2 hc hb (fun _ hq=>by cases hq)
      ⟨[],by rw [hdf];rfl,⟨List.nodup_nil,fun _ h=>by cases h⟩,fun _=>rfl⟩ hlo hx2
     simp only [qdg] at hrun
     split at hrun
     ·rename_i s1 hs1
      have hkeep:=(qR (base:=base) hk N ac s s1 _ hb hs1).1
      refine wpIn_seq (wpIn_mono (hW _ s1 hs1) fun e a' w' hfin=>?_)
      obtain ⟨G',g1,⟨ms,hms,_,hms0⟩,rfl,g4⟩:=hfin
      have hd0:a'.defers = []:=by rw [hms,hms0 rfl];rfl
      exact ih b1 hr1 hf hname G' w' s1 a' g4 (Nat.le_trans hb hkeep) hd0 (Nat.le_trans hlo g1.size) (Nat.le_trans hn hkeep) (he.trans hn g1) hrun hret hpan
     ·cases hrun
     ·rename_i r2 h1 h2
      refine wpIn_seq (wpIn_mono (hW x s' hrun) fun e a' w' hfin=>?_)
      obtain ⟨G',g1,⟨ms,hms,_,hms0⟩,g3⟩:=hfin
      have hd0:a'.defers = []:=by rw [hms,hms0 rfl];rfl
      cases x with
      | nor=>exact absurd hrun (h1 s')
      | exit id=>exact absurd hrun (h2 id s')
      | ret=>
       obtain ⟨rfl,g3⟩:=g3
       show LeavesInM _ _ _ _ _ _ _ _ _
       rw [hd0]
       exact hret G' w' a' (.inr rfl) (he.trans hn g1) g3
      | pan pv=>
       obtain ⟨v,rfl,g3,g4⟩:=g3
       show LeavesInM _ _ _ _ _ _ _ _ _
       rw [hd0]
       exact hpan pv v G' w' a' rfl (he.trans hn g1) g3 g4
    ·cases hcomp
   ·cases hcomp
 | dfr f caps slot rest=>
  intro c hcomp hf hname G w s a hc hb hdf hlo hn he hrun hret hpan
  change P.funcs[f]? = some df at hf
  cases c <;> simp only [qnq,reduceCtorEq] at hcomp
  rename_i a1 b1
  split at hcomp
  ·rename_i f' caps' t hdc
   obtain ⟨z,hz,hze⟩:=qbI hcomp
   cases hze
   obtain ⟨id,ops,o0,o1,a0,cs,cl,rfl,rfl,k1,rfl,k3,k4,k5,k6,k7,k8,k9,k10⟩:=qvU hdc
   refine wpIn_seq (wpIn_region ?_)
   have hrange:List.range (#[o0,o1]:Array Oper).size = [0,1]:=rfl
   rw [hrange]
   simp only [wpOpsIn,List.getElem?_toArray,List.getElem?_cons_zero,List.getElem?_cons_succ]
   rw [if_pos (by simp [Region.wanted,k4])]
   have hcomp0:qb4 P gl o0 = some (.mkF f [] caps):=by
    simp only [qb4,qe7,qdR,k1,k10]
    rfl
   have hrun0:qz base call [] o0.dst (.mkF f [] caps) s = some (.nor,{ s with t:=put (some slot) (.fn f [] (caps.map (ev s.t))) s.t}):=by
    simp [qz,pureV,k3]
   refine qey hcall hk hc qa7.nil hcomp0 hrun0 (fun _ u1 w1 G1 e1 c1 _ _ _=>?_) (fun pv h=>by cases h)
   rw [k3] at c1 ⊢
   rw [if_pos (by simp [Region.wanted,k9])]
   simp only [qdg] at hrun
   split at hrun
   ·rename_i g cv hev
    split at hrun
    ·rename_i hgf
     subst hgf
     have hv:=qY c1.rel c1.tr (x:=.tmp slot) (ax:=.t slot) rfl
     rw [hev] at hv
     simp only [qm.V,qB,qr] at hv
     obtain ⟨x0,y0,hval,hx0,hy0⟩:=hv
     have hx0':x0 = #[]:=by apply Array.ext';simpa using hx0
     subst hx0'
     let dd:Deferred:={ target:=.fn (.func g) y0,args:=#[]}
     refine ⟨fun _ _=>trivial,?_⟩
     have hsem:(o1.semAt (FR none).round (a.put (some slot) u1).eval).run P w1 = .ok (.defer dd) w1:=by
      show (Oper.semAt none _ _).run P w1 = _
      rw [Oper.semAt_none]
      simp only [execOp,k5,resolve,k6,k7,hval]
      simp [Deferred.ofValue,Sem.run_bind,Result.andThen,dd]
     rw [hsem,Oper.uponIn_defer,k8]
     show (Code.wpIn (FR none) m P b1 (bodyPostM (FR none) m P pf R)) { tmps:=(a.put (some slot) u1).tmps,defers:=dd :: a.defers} w1
     rw [hdf]
     have hlen1:n0 ≤ ({ s with t:=put (some slot) (.fn g [] (caps.map (ev s.t))) s.t}:St).h.length:=hn
     have he1:Ext n0 G0 w0 G1 w1:=he.trans hn e1
     have c2:Cfg P gl G1 s.h (put (some slot) (.fn g [] (caps.map (ev s.t))) s.t) { tmps:=(a.put (some slot) u1).tmps,defers:=[] ++ [dd]} w1:=⟨c1.rel,c1.tr⟩
     have hW:=fun x2 s2 hx2=>qcg hmx hcall hk (N:=N) (base:=base) (lo:=w0.heap.size) (rf:=false) (fx:=[dd]) (ro:=none) (m:=m) b1 rest hz (fun h=>by cases h) G1 w1 { s with t:=put (some slot) (.fn g [] (caps.map (ev s.t))) s.t}
      { tmps:=(a.put (some slot) u1).tmps,defers:=[] ++ [dd]} x2 s2 c2 hb (fun _ hq=>by cases hq) ⟨[],rfl,⟨List.nodup_nil,fun _ h=>by cases h⟩,fun h=>by cases h⟩ he1.size hx2
     have tail:∀(s2:St) (v:qf) (u:FrameMode) (G2:qm) (w2:World) (a2:Act),s.h.length ≤ s2.h.length→Ext s.h.length G1 w1 G2 w2→qdG G2 w2 w0.heap.size false [dd] a2.defers→Cfg P gl G2 s2.h s2.t a2 w2→u ≠ .run→qDk G2 u v→
       qeg N call d v cv s2 = some (x,s')→LeavesInM (FR none) m P pf a2.tmps R a2.defers u w2:=by
      intro s2 v u G2 w2 a2 hkeep he2 hmk c3 hur hmode hdx
      obtain ⟨ms,hms,hmk,_⟩:=hmk
      rw [hms]
      refine qet (G0:=G0) (w0:=w0) (n:=n0) hur ms w2 hmk (he1.trans hn he2) c3.rel c3.tr fun w3 q1 q2 q3=>?_
      have hcv:G2.VL cv y0.toList:=he2.VL hy0
      refine ⟨hur,.inr ⟨qfm,.func g,y0,g,y0,rfl,?_,fun _ _=>trivial,?_⟩⟩
      ·simp only [dd,invoke]
       have:=hd.ex
       obtain ⟨id',ops',o0',os',c',hbody',_⟩:=this
       have:=qah (vs:=#[] ++ y0) (w:=w3) hf hname hbody'
       simpa using this
      ·have c4:Cfg P gl G2 s2.h s2.t { a2 with defers:=[]} w3:=⟨q2,q3⟩
       refine (qfF hmx hcall hk hf hd hdx c4 hcv hmode fun r u' G3 w4 r1 r2 r3=>?_).2.2
       obtain ⟨hxr,hst,_⟩:=qfF (m:=m) (R:=fun _ _ _=>True) hmx hcall hk hf hd hdx c4 hcv hmode fun _ _ _ _ _ _ _=>trivial
       show LeavesInM _ _ _ _ _ _ _ _ _
       rw [r1]
       exact hret G3 w4 { a2 with defers:=[]} (.inr hxr) (q1.trans (Nat.le_trans hn hkeep) r2) r3
     split at hrun
     ·rename_i s2 hx2
      have hkeep:=(qR (base:=base) hk N rest { s with t:=put (some slot) (.fn g [] (caps.map (ev s.t))) s.t} s2 _ hb hx2).1
      refine wpIn_mono (hW _ s2 hx2) fun e a2 w2 hfin=>?_
      obtain ⟨G2,g1,g2,rfl,g3⟩:=hfin
      exact tail s2 _ .returning G2 w2 a2 hkeep g1 g2 g3 (by simp) (.inl ⟨rfl,rfl⟩) hrun
     ·rename_i s2 hx2
      have hkeep:=(qR (base:=base) hk N rest { s with t:=put (some slot) (.fn g [] (caps.map (ev s.t))) s.t} s2 _ hb hx2).1
      refine wpIn_mono (hW _ s2 hx2) fun e a2 w2 hfin=>?_
      obtain ⟨G2,g1,g2,rfl,g3⟩:=hfin
      exact tail s2 _ .returning G2 w2 a2 hkeep g1 g2 g3 (by simp) (.inl ⟨rfl,rfl⟩) hrun
     ·rename_i v s2 hx2
      have hkeep:=(qR (base:=base) hk N rest { s with t:=put (some slot) (.fn g [] (caps.map (ev s.t))) s.t} s2 _ hb hx2).1
      refine wpIn_mono (hW _ s2 hx2) fun e a2 w2 hfin=>?_
      obtain ⟨G2,g1,g2,vv,rfl,g3,g4⟩:=hfin
      exact tail s2 v (.panicking [{ v:=vv,recovered:=false}]) G2 w2 a2 hkeep g1 g2 g3 (by simp) (.inr ⟨vv,rfl,g4⟩) hrun
     ·cases hrun
    ·cases hrun
   ·cases hrun
  ·split at hcomp
   ·split at hcomp
    ·cases hcomp
    ·cases hcomp
   ·cases hcomp
theorem qjT (hmx : P.follows .mixedOrders = true) {f : FuncId} {pf df : Func} {g : qij} (hf : P.funcs[f]? = some pf) (hname : (pf.name == "runtime.NumGoroutine") = false) (hcomp : qfC P gl pf df = some g) (hdf : P.funcs[g.body.fid]? = some df)
  (hdname : (df.name == "runtime.NumGoroutine") = false) (N : Nat) : qeI P gl f (qfj N g) := by
 intro call hcall hk aS h r h' e' hrun G w vs hr hn hall
 unfold qfC at hcomp
 split at hcomp
 ·rename_i c hbody
  split at hcomp
  ·rename_i b rs d hb hrs hd
   cases hcomp
   simp only at hdf
   refine .inl ⟨qah hf hname hbody vs w,fun ro m=>qb7 (m:=m) ?_⟩
   have hsize:vs.size = aS.length:=by have:=hall.length;simp at this ⊢;omega
   have hc0:Cfg P gl G h (aS.map qf.dim ++ List.replicate (pf.ntmps - aS.length) (.tup [])) { tmps:=vs ++ Array.replicate (pf.ntmps - vs.size) undef,defers:=[]} w:=by
    refine ⟨hr,qaD.start ?_ fun z hz=>?_⟩
    ·simp only [Array.toList_append,Array.toList_replicate]
     refine qr.append hall.dims ?_
     rw [hsize]
     exact qr.replicate _ (by simp [qB,qr,undef])
    ·rcases List.mem_append.1 hz with hz | hz
     ·obtain ⟨q,_,rfl⟩:=List.mem_map.1 hz;exact qbl q
     ·rw [(List.mem_replicate.1 hz).2];rfl
   refine callsIn_of_wp_marks (F:=FR none) hf hbody trivial ?_ rfl
   simp only [qfj] at hrun
   have main:∀x s,qdg N h.length call d b ⟨aS.map qf.dim ++ List.replicate (pf.ntmps - aS.length) (.tup []),h,false⟩ = some (x,s)→
     ((x = .nor∨x = .ret)→∃vs',qay s rs = some vs'∧leave h.length (.ret (qbF vs')) s.h s.e = (r,h',e'))→(∀pv,x = .pan pv→leave h.length (.pan pv) s.h s.e = (r,h',e'))→
     c.wpIn (FR none) m P (bodyPostM (FR none) m P pf (qmG P gl h.length G w r h')) { tmps:=vs ++ Array.replicate (pf.ntmps - vs.size) undef,defers:=[]} w:=by
    intro x s hx h1 h2
    have k:=qck (base:=h.length) hk b ⟨_,h,false⟩ s _ (Nat.le_refl _) hx
    refine qiL hmx hcall hk (qnp hd) (n0:=h.length) (G0:=G) (w0:=w) b c hb hdf hdname G w ⟨_,h,false⟩ _ hc0 (Nat.le_refl _) rfl (Nat.le_refl _) (Nat.le_refl _) (Ext.refl _ G w) hx (fun G' w' a' hxx g1 g2=>?_) (fun pv v G' w' a' hxx g1 g2 g3=>?_)
    ·obtain ⟨vs',hres,hlv⟩:=h1 hxx
     obtain ⟨u,r1,r2⟩:=qez g2 hrs hres
     obtain ⟨rfl,G'',y1,y2,y3,y4⟩:=qcL hr g1 g2.rel ⟨k.1,fun he=>(k.2 he).2⟩ hlv
     exact ⟨u,r1,_,G'',rfl,y1,y2,y3,y4 _ u (.inl rfl) r2⟩
    ·obtain ⟨rfl,G'',y1,y2,y3,y4⟩:=qcL hr g1 g2.rel ⟨k.1,fun he=>(k.2 he).2⟩ (h2 pv hxx)
     exact ⟨pv,v,G'',rfl,rfl,y1,y2,y3,y4 _ v (.inr rfl) g3⟩
   split at hrun
   ·rename_i s hx
    split at hrun
    ·rename_i vs' hres
     exact main _ s hx (fun _=>⟨vs',hres,Option.some.inj hrun⟩) (fun _ h=>by cases h)
    ·cases hrun
   ·rename_i s hx
    split at hrun
    ·rename_i vs' hres
     exact main _ s hx (fun _=>⟨vs',hres,Option.some.inj hrun⟩) (fun _ h=>by cases h)
    ·cases hrun
   ·rename_i v s hx
    exact main _ s hx (fun h=>by rcases h with h | h <;> cases h) (fun pv h=>by cases h;exact Option.some.inj hrun)
   ·cases hrun
  ·cases hcomp
 ·cases hcomp
end
end Go.AE
namespace Go.AE
section
variable {P:Program} {gl:Nat→Option (List qf)}
noncomputable def qm.start (gl:Nat→Option (List qf)) (W:World):qm:={ γ:=fun _=>none,imm:=fun b o=>match gl b with | some cs=>if 0 < cs.length∧o = cs.length then some qcp else qkG (W.cell? ⟨b,o,none⟩) | none=>none,ow:=fun _=>none}
def qAs (gl:Nat→Option (List qf)) (W:World):Prop:=∀g cs,gl g = some cs→qN 0 cs = true∧∃vs:List Value,qr (fun _=>none) (fun _ _=>none) cs vs∧(∀(j:Nat) (v:Value),vs[j]? = some v→W.cell? ⟨g,j,none⟩ = some v)∧(0 < cs.length→∃c e,W.heap[g]? = some (.cells c e (0,0))∧cs.length = c.size)
theorem qu7 {G:qm} {h:List qq} {w:World} (hr:Rel P gl G h w) {name:String} {g:Nat} (hg:P.globalNamed name = some g) {k:IntKind} {zs:List Int} (hgl:gl g = some (zs.map fun z=>.int k z)) (h0:0 < zs.length) :
  w.var? P name = some (zs.map fun z=>Value.int k z).toArray:=by
 obtain ⟨⟨h1,h2⟩,_⟩:=hr.glob g _ hgl
 obtain ⟨_,c,e,h3,h4⟩:=hr.immK g _ (h2 (by simpa using h0))
 have:c = (zs.map fun z=>Value.int k z).toArray:=by
  apply Array.ext'
  apply List.ext_getElem?
  intro i
  rw [List.length_map] at h4
  rcases Nat.lt_or_ge i zs.length with hi | hi
  ·obtain ⟨v,k1,k2⟩:=h1.get (i:=i) (c:=.int k zs[i]) (by simp [hi])
   simp only [qB] at k2
   subst k2
   have:=(hr.imm _ _ _ k1 (by simp [qcp])).1
   rw [Nat.zero_add] at this
   simp only [World.cell?,h3] at this
   simpa [hi] using this
  ·simp [Array.getElem?_eq_none (show c.size ≤ i by omega),hi]
 subst this
 simp [World.var?,hg,h3]
def qAo {H:Type}:DataW H→Option qf
 | .lit (.int k z)=>some (.int k z)
 | .lit (.string s)=>some (.str s)
 | .lit (.bool b)=>some (.bool b)
 | _=>none
theorem qto {H:Type} {enc:TypeId×Value→H} {w:World} {base:Nat} {sp:Nat→Bool} {held:Bool} {fuel:Nat} {e:TypeId} {cs:List Value} {x:DataW H×List MemPlace} {a:qf}
  (he:(∃k,P.underlying e = some (.int k))∨P.underlying e = some .string) (h:DataW.trod enc P w base sp held fuel e cs = some x) (ha:qAo x.1 = some a):∃v,cs = [v]∧qB (fun _=>none) (fun _ _=>none) a v:=by
 rcases he with ⟨k,he⟩ | he
 ·obtain ⟨n,rfl,rfl,_⟩:=DataW.trod_int he h
  simp only [qAo,Option.some.injEq] at ha
  subst ha
  exact ⟨_,rfl,by simp [qB]⟩
 ·obtain ⟨s,rfl,rfl,_⟩:=DataW.trod_string he h
  simp only [qAo,Option.some.injEq] at ha
  subst ha
  exact ⟨_,rfl,by simp only [qB];exact ⟨s,rfl,rfl⟩⟩
theorem qj7 {α β:Type} {f:α→Option β}:∀{l:List α} {r:List β},l.mapM f = some r→r.length = l.length
 | [],r,h=>by simp at h;subst h;rfl
 | x :: l,r,h=>by
  simp only [List.mapM_cons,Option.bind_eq_bind,Option.bind_eq_some_iff,Option.pure_def,Option.some.injEq] at h
  obtain ⟨b,_,r',hr',rfl⟩:=h
  simp [qj7 hr']
theorem qci {laid:List (String×DataW Unit)} {W:World} (hL:laidMet P laid W) {name:String} {ds:List (DataW Unit)} (hm:(name,DataW.agg ds) ∈ laid) {g:Nat} (hg:P.globalNamed name = some g) {t e:TypeId} {n:Nat} (ht:(P.globals[g]?).map (·.type) = some t)
  (hu:P.underlying t = some (.array n e)) (he:(∃k,P.underlying e = some (.int k))∨P.underlying e = some .string) (hc:P.cellsOf e = 1) (hct:P.cellsOf t = n) {aS:List qf} (has:ds.mapM qAo = some aS) :
  qN 0 aS = true∧∃vs:List Value,qr (fun _=>none) (fun _ _=>none) aS vs∧(∀(j:Nat) (v:Value),vs[j]? = some v→W.cell? ⟨g,j,none⟩ = some v)∧(0 < aS.length→∃c e,W.heap[g]? = some (.cells c e (0,0))∧aS.length = c.size):=by
 obtain ⟨ps,hv,hnd,hrest⟩:=hL
 clear hnd
 replace hrest:=fun b off h=>(hrest b off h).1
 induction laid generalizing ps with
 | nil=>cases hm
 | cons x laid ih=>
  obtain ⟨nx,dx⟩:=x
  obtain ⟨g',t',cs,fuel,p,q,hg',ht',hvar,hd,hq,hps⟩:=hv
  rcases List.mem_cons.1 hm with hm | hm
  ·cases hm
   obtain rfl:=Option.some.inj (hg.symm.trans hg')
   obtain rfl:=Option.some.inj (ht.symm.trans ht')
   obtain ⟨xs,m,_,hx,hcl,hxl,hel⟩:=DataW.trod_array hu hd
   have hds:xs.map (·.1) = ds:=(DataW.agg.inj (Prod.mk.inj hx).1).symm
   have key:∀(i:Nat) (a:qf),aS[i]? = some a→∃v,cs[i]? = some v∧qB (fun _=>none) (fun _ _=>none) a v:=by
    intro i a ha
    obtain ⟨d,hd1,hd2⟩:=qgU has i a ha
    rw [←hds,List.getElem?_map,Option.map_eq_some_iff] at hd1
    obtain ⟨y,hy,rfl⟩:=hd1
    have hi:i < n:=by rw [←hxl];exact (List.getElem?_eq_some_iff.1 hy).1
    have h1:=hel i hi
    rw [hy,hc,Nat.mul_one] at h1
    obtain ⟨v,hv1,hv2⟩:=qto he h1 hd2
    have h0:((cs.toList.drop i).take 1)[0]? = some v:=by rw [hv1];rfl
    exact ⟨v,by simpa using h0,hv2⟩
   refine ⟨qeu fun a ha=>?_,aS.mapIdx (fun i _=>cs.getD i undef),qr.of_get (by simp) fun i a v ha hv=>?_,fun j v hv=>?_,fun h0=>?_⟩
   ·obtain ⟨i,hi⟩:=List.getElem?_of_mem ha
    obtain ⟨v,_,hr⟩:=key i a hi
    exact qdc (n:=0) (fun _ _ h=>by cases h) a v hr
   ·obtain ⟨u,hu1,hu2⟩:=key i a ha
    rw [List.getElem?_mapIdx,ha] at hv
    simp only [Option.map_some,Option.some.injEq] at hv
    rw [Array.getD_eq_getD_getElem?,hu1] at hv
    simp only [Option.getD_some] at hv
    rw [←hv]
    exact hu2
   ·rw [World.var?_cell hg hvar j]
    rw [List.getElem?_mapIdx] at hv
    cases ha:aS[j]? with
    | none=>rw [ha] at hv;cases hv
    | some a=>
     obtain ⟨u,hu1,_⟩:=key j a ha
     rw [ha] at hv
     simp only [Option.map_some,Option.some.injEq] at hv
     rw [Array.getD_eq_getD_getElem?,hu1] at hv
     simp only [Option.getD_some] at hv
     rw [←hv]
     exact hu1
   ·have hal:aS.length = n:=by
     rw [qj7 has,←hds,List.length_map,hxl]
    rw [hct,Array.length_toList] at hcl
    obtain ⟨c,e',hh⟩:=hrest g 0 (by
     rw [hps]
     refine List.mem_append_left _ (List.mem_append_left _ ?_)
     exact MemPlace.mem_row.2 ⟨0,by omega,rfl⟩)
    refine ⟨c,e',hh,?_⟩
    have:c = cs:=by
     have q:=hvar
     simp only [World.var?,hg,Option.bind_some,hh,Option.some.injEq] at q
     exact q
    rw [this]
    omega
  ·exact ih hm q hq fun b off h=>hrest b off (by rw [hps];exact List.mem_append_right _ h)
end
end Go.AE
namespace Go.AE
section
variable {P:Program} {gl:Nat→Option (List qf)}
theorem qqy {T : qeJ} (hT : T.All fun i v => ∃ pf, P.funcs[i]? = some pf ∧ qp P gl pf = some v ∧ (pf.name == "runtime.NumGoroutine") = false) : qfA P gl T.get := fun f fn h => by
 obtain ⟨pf,h1,h2,h3⟩:=qeJ.get_all hT h
 unfold qp at h2
 split at h2
 ·cases h2
 ·rename_i c hb
  split at h2
  ·rename_i code rs e1 e2
   cases h2
   exact ⟨pf,c,h1,h3,hb,e1,e2,rfl⟩
  ·cases h2
theorem qup {W:World} {g:Nat}:qN 0 [] = true∧∃vs:List Value,qr (fun _=>none) (fun _ _=>none) [] vs∧(∀(j:Nat) (v:Value),vs[j]? = some v→W.cell? ⟨g,j,none⟩ = some v)∧(0 < ([]:List qf).length→∃c e,W.heap[g]? = some (.cells c e (0,0))∧([]:List qf).length = c.size):=
 ⟨rfl,[],by simp [qr],fun j v h=>by simp at h,fun h=>by simp at h⟩
end
end Go.AE
namespace Go.AE
def qdQ:Call→List qf→List qq→Option (qcS×List qq×Bool):=fun _ aS h=>
 match aS with
 | []=>some (.ret (.bool true),h,false)
 | _=>none
def wbX (T E:Nat):Call→List qf→List qq→Option (qcS×List qq×Bool):=fun _ aS h=>
 match aS with
 | [.ptr id 0,.int .u8 c]=>match h[id]? with
  | some (.bld t e s)=>bif (Nat.beq t T && Nat.beq e E) && ((ile 0 c && ile c 255) && Nat.ble s.length qo) then some (.ret .niliface,h.set id (.bld t e (s ++ [c.toNat.toUInt8])),false) else none
  | _=>none
 | _=>none
def wsX (T E:Nat):Call→List qf→List qq→Option (qcS×List qq×Bool):=fun _ aS h=>
 match aS with
 | [.ptr id 0,.str u]=>match h[id]? with
  | some (.bld t e s)=>bif (Nat.beq t T && Nat.beq e E) && Nat.ble (s.length + u.length) qo then some (.ret (.tup [.int .i64 (u.length:Nat),.niliface]),h.set id (.bld t e (s ++ u)),false) else none
  | _=>none
 | _=>none
def stX (T E:Nat):Call→List qf→List qq→Option (qcS×List qq×Bool):=fun _ aS h=>
 match aS with
 | [.ptr id 0]=>match h[id]? with
  | some (.bld t e s)=>bif (Nat.beq t T && Nat.beq e E) && !s.isEmpty then some (.ret (.str s),h,false) else none
  | _=>none
 | _=>none
def itX:Call→List qf→List qq→Option (qcS×List qq×Bool):=fun _ aS h=>
 match aS with
 | [.int .i64 n]=>bif ile (-9223372036854775808) n && ile n 9223372036854775807 then some (.ret (.str (Lib.itoa n)),h,false) else none
 | _=>none
def qeF:List qf→Option (List (List UInt8))
 | []=>some []
 | .str s :: xs=>(qeF xs).map (s :: ·)
 | _=>none
def jnX:Call→List qf→List qq→Option (qcS×List qq×Bool):=fun _ aS h=>
 match aS with
 | [.lst (x :: xs) _,.str sep]=>match qeF (x :: xs) with
  | some l=>bif Nat.ble (Lib.join l sep).length qo && Nat.ble l.length qo then some (.ret (.str (Lib.join l sep)),h,false) else none
  | none=>none
 | [.sl id 0 len _ _,.str sep]=>match h[id]? with
  | some (.cells cs)=>match qeF (cs.take len) with
   | some l=>bif Nat.ble (Lib.join l sep).length qo && (Nat.beq l.length len && Nat.ble len qo) then some (.ret (.str (Lib.join l sep)),h,false) else none
   | none=>none
  | _=>none
 | _=>none
end Go.AE
namespace Go.AE
noncomputable def qBh (t:List qf):Nat→qf:=List.rec (motive:=fun _=>Nat→qf) (fun _=>.undef) (fun a _ ih n=>Nat.rec (motive:=fun _=>qf) a (fun m _=>ih m) n) t
noncomputable def qgh (v:qf) (t:List qf):Nat→List qf:=List.rec (motive:=fun _=>Nat→List qf) (fun _=>[]) (fun a aS ih n=>Nat.rec (motive:=fun _=>List qf) (v :: aS) (fun m _=>a :: ih m) n) t
theorem qiM:∀(t:List qf) (i:Nat),qBh t i = t.getD i .undef
 | [],_=>rfl
 | _ :: _,0=>rfl
 | _ :: t,i + 1=>qiM t i
theorem qqR (v:qf):∀(t:List qf) (i:Nat),qgh v t i = t.set i v
 | [],_=>rfl
 | _ :: _,0=>rfl
 | a :: t,i + 1=>congrArg (a :: ·) (qqR v t i)
noncomputable def quK (k:IntKind) (n:Int):qf:=
 Int.rec (motive:=fun _=>qf) (fun m=>Nat.rec (motive:=fun _=>qf) (.int k (.ofNat 0)) (fun p _=>.int k (.ofNat (p + 1))) m) (fun m=>.int k (.negSucc m)) n
noncomputable def quJ (b:Bool):qf:=Bool.rec (motive:=fun _=>qf) (.bool false) (.bool true) b
noncomputable def qAV (v:qf):qf:=
 qf.casesOn (motive_1:=fun _=>qf) v .undef .bool .int .str .nilptr .ptr .iptr (fun xs f=>qf9.casesOn (motive:=fun _=>qf) f (.lst xs .no) (.lst xs .full) (fun _=>.lst xs .no)) .nilfunc .fn .yld .niliface .iface .agg .tup .sl .mp .nilmap .nils .empt
noncomputable def quL (v:qf):qf:=
 qf.casesOn (motive_1:=fun _=>qf) v .undef quJ quK .str .nilptr .ptr .iptr .lst .nilfunc .fn .yld .niliface .iface .agg .tup .sl .mp .nilmap .nils .empt
theorem qoh (b:Bool):quJ b = .bool b:=by cases b <;> rfl
theorem qoi (k:IntKind) (n:Int):quK k n = .int k n:=by
 cases n with
 | ofNat m=>cases m <;> rfl
 | negSucc m=>rfl
theorem qnC:qAV = qf.dim:=by
 funext v
 cases v <;> try rfl
 rename_i xs f
 cases f <;> rfl
theorem qoj (v:qf):quL v = v:=by cases v <;> first | rfl | exact qoh _ | exact qoi _ _
noncomputable def qCQ (d:Nat) (v:qf) (t:List qf):List qf:=
 qf.casesOn (motive_1:=fun _=>List qf) (quL v) (qgh .undef t d) (fun b=>qgh (.bool b) t d) (fun k n=>qgh (.int k n) t d) (fun x=>qgh (.str x) t d) (qgh .nilptr t d) (fun a b=>qgh (.ptr a b) t d) (fun a b=>qgh (.iptr a b) t d) (fun a b=>qgh (.lst a b) t d)
  (qgh .nilfunc t d) (fun a b c=>qgh (.fn a b c) t d) (fun a=>qgh (.yld a) t d) (qgh .niliface t d) (fun a b=>qgh (.iface a b) t d) (fun a=>qgh (.agg a) t d) (fun a=>qgh (.tup a) t d) (fun a b c e f=>qgh (.sl a b c e f) t d) (fun a=>qgh (.mp a) t d) (qgh .nilmap t d) (qgh .nils t d) (qgh .empt t d)
theorem qxO (d:Nat) (v:qf) (t:List qf):qCQ d v t = t.set d v:=by
 unfold qCQ
 rw [qoj]
 cases v <;> exact qqR _ _ _
noncomputable def qrs (t:List qf):qn→qf
 | .t i=>qBh t i
 | .c v=>v
noncomputable def evF (t:List qf) (x:qn):qf:=qAV (qrs t x)
noncomputable def qjm (dst:Option Nat) (v:qf) (t:List qf):List qf:=
 match dst with
 | some d=>qCQ d v t
 | none=>t
noncomputable def qfq (t:List qf) (x:qn):List qf:=
 match x with
 | .t i=>match qBh t i with
  | .lst xs (.own _)=>t.set i (.lst xs .no)
  | _=>t
 | .c _=>t
theorem qeV:qrs = raw:=by
 funext t x
 cases x
 ·exact qiM _ _
 ·rfl
theorem qfI:evF = ev:=by
 funext t x
 simp only [evF,ev,qeV,qnC]
theorem qjn:qjm = put:=by
 funext d v t
 cases d
 ·rfl
 ·exact qxO _ _ _
theorem qiC:qfq = qaE:=by
 funext t x
 cases x
 ·simp only [qfq,qaE,qiM]
  rfl
 ·rfl
noncomputable def qe5 (t:List qf) (x:Option qn) (d:Nat):Option Nat:=
 match x with
 | none=>some d
 | some x=>match evF t x with
  | .int _ n=>if 0 ≤ n then some n.toNat else none
  | _=>none
noncomputable def qqA (t:List qf) (o:AOp):Option qf:=
 match o with
 | .mov x=>some (evF t x)
 | .pick c a b=>match evF t c with
  | .bool true=>some (evF t a)
  | .bool false=>some (evF t b)
  | _=>none
 | .build zero parts=>(qb0 zero (parts.map fun (o,s,x)=>(o,s,evF t x))).map .agg
 | .list k zero len parts=>
  if zero.length = k∧len * k ≤ 2 ^ 24 then
   match qb0 ((List.replicate len zero).flatten) (parts.map fun (i,x)=>(i * k,k,evF t x)) with
   | some cs=>if cs.all qf.storable then some (.lst ((List.range len).map fun i=>if k = 1 then (cs.getD i .undef) else .agg ((cs.drop (i * k)).take k)) .full) else none
   | none=>none
  else none
 | .nilc x=>match evF t x with
  | .ptr i o=>some (.ptr i o)
  | .iptr cs o=>some (.iptr cs o)
  | .fn f a b=>some (.fn f a b)
  | .yld l=>some (.yld l)
  | .iface u v=>some (.iface u v)
  | _=>none
 | .bin op x y=>qcd op (evF t x) (evF t y)
 | .eqb neg x y=>match evF t x,evF t y with
  | .bool a,.bool b=>some (.bool ((a == b) != neg))
  | _,_=>none
 | .eqi k neg x y=>(qyc k (evF t x) (evF t y)).map fun b=>.bool (b != neg)
 | .eqa neg x y=>match evF t x,evF t y with
  | .agg a,.agg b=>(qit a b).map fun r=>.bool (r != neg)
  | _,_=>none
 | .eqs sh neg x y=>(qrp sh (evF t x) (evF t y)).map fun r=>.bool (r != neg)
 | .un op x=>unV op (evF t x)
 | .nls neg x=>match evF t x with
  | .sl ..=>some (.bool (false != neg))
  | .lst (_ :: _) _=>some (.bool (false != neg))
  | .nils=>some (.bool (true != neg))
  | .empt=>some (.bool (false != neg))
  | _=>none
 | .cvi k x=>match evF t x with
  | .int _ n=>some (.int k (k.wrap n))
  | _=>none
 | .cvs x=>match evF t x with
  | .str s=>some (.str s)
  | _=>none
 | .cvb x=>match evF t x with
  | .str s=>some (.lst (ints s) .no)
  | _=>none
 | .cvt x=>match evF t x with
  | .lst xs _=>(qeM xs).map .str
  | _=>none
 | .mkI ty x=>match evF t x with
  | .undef=>none
  | v=>some (.iface ty v)
 | .mkF f a b=>some (.fn f (a.map (evF t)) (b.map (evF t)))
 | .subS x lo hi=>match evF t x with
  | .str s=>match qe5 t hi s.length with
   | some h=>match qe5 t lo 0 with
    | some l=>if l ≤ h∧h ≤ s.length then some (.str ((s.drop l).take (h - l))) else none
    | none=>none
   | none=>none
  | _=>none
 | .subL k x lo hi=>match evF t x with
  | .lst xs f=>match qe5 t hi xs.length with
   | some h=>match qe5 t lo 0 with
    | some l=>
     if l ≤ h∧h ≤ xs.length then
      if xs.head?.all (fun y=>y.cells.length == k) then some (.lst ((xs.drop l).take (h - l)) (if h = xs.length then f else .no)) else none
     else none
    | none=>none
   | none=>none
  | .sl id o len cap more=>match qe5 t hi len with
   | some h=>match qe5 t lo 0 with
    | some l=>
     if l ≤ h∧h ≤ cap then
      if cap = l then (if more = 0 then some (.lst [] .full) else none) else (if more = 0∨more = k then some (.sl id (o + l * k) (h - l) (cap - l) more) else none)
     else none
    | none=>none
   | none=>none
  | _=>none
 | .fa off a=>match evF t a with
  | .ptr i o=>some (.ptr i (o + off))
  | .iptr cs o=>some (.iptr cs (o + off))
  | _=>none
 | .ixaL k s i=>match evF t s,evF t i with
  | .lst xs _,.int _ n=>
   if 0 ≤ n∧n < xs.length then
    match xs[n.toNat]? with
    | some x=>if x.cells.length = k then some (.iptr x.cells 0) else none
    | none=>none
   else none
  | .sl id o len _ _,.int _ n=>if 0 ≤ n∧n < len then some (.ptr id (o + n.toNat * k)) else none
  | _,_=>none
 | .ixaA len k a i=>match evF t a,evF t i with
  | .ptr b o,.int _ n=>if 0 ≤ n∧n < (len:Int) then some (.ptr b (o + n.toNat * k)) else none
  | .iptr cs o,.int _ n=>if 0 ≤ n∧n < (len:Int) then some (.iptr cs (o + n.toNat * k)) else none
  | _,_=>none
 | .ixS s i=>match evF t s,evF t i with
  | .str l,.int _ n=>if 0 ≤ n then (l[n.toNat]?).map fun b=>.int .u8 b.toNat else none
  | _,_=>none
 | .ixA len k a i=>match evF t a,evF t i with
  | .agg cs,.int _ n=>if 0 ≤ n∧n < (len:Int) then cut cs (n.toNat * k.getD 1) k else none
  | _,_=>none
 | .fld off k x=>match evF t x with
  | .agg cs=>cut cs off k
  | _=>none
 | .ext x i=>match evF t x with
  | .tup vs=>(vs[i]?).map qf.dim
  | _=>none
 | .len true x=>match evF t x with
  | .str s=>some (.int .i64 s.length)
  | _=>none
 | .len false x=>match evF t x with
  | .lst xs _=>some (.int .i64 xs.length)
  | .sl _ _ len _ _=>some (.int .i64 len)
  | .nils=>some (.int .i64 0)
  | .empt=>some (.int .i64 0)
  | _=>none
 | .mm isMax x y=>match evF t x,evF t y with
  | .int k a,.int _ b=>some (.int k (if isMax then (if b > a then b else a) else (if b < a then b else a)))
  | _,_=>none
 | .tas ty zero x=>match evF t x with
  | .niliface=>some (.tup [zero,.bool false])
  | .iface u v=>if u = ty then some (.tup [v,.bool true]) else some (.tup [zero,.bool false])
  | _=>none
 | _=>none
noncomputable def qra (k:Nat) (p:qcj) (x:qn) (s:St):Option (List qf×St):=
 match x with
 | .c _=>none
 | .t i=>
  match qrs s.t (.t i) with
  | .lst xs (.own j)=>if j = k then some (xs,{ s with t:=s.t.set i (.lst xs .no)}) else none
  | _=>
   match p.find? (·.1 == i) with
   | some (_,.tmp b)=>
    match qrs s.t (.t b) with
    | .lst xs (.own j)=>if j = k then some (xs,{ s with t:=s.t.set b (.lst xs .no)}) else none
    | _=>none
   | some (_,.cell a)=>
    match evF s.t a with
    | .ptr id o=>
     match s.h[id]? with
     | some (.cells cs)=>
      match cs[o]? with
      | some (.lst xs (.own j))=>if j = k then some (xs,{ s with h:=s.h.set id (.cells (cs.set o (.lst xs .no)))}) else none
      | _=>none
     | _=>none
    | _=>none
   | none=>none
noncomputable def qko (base:Nat) (call:Call) (p:qcj) (dst:Option Nat) (o:AOp) (s:St):Option (Ex×St):=
 match o with
 | .asg x=>some (.nor,{ s with t:=qjm dst (qrs s.t x) (qfq s.t x)})
 | .new cs=>some (.nor,{ s with t:=qjm dst (.ptr s.h.length 0) s.t,h:=s.h ++ [.cells (cs.map qf.dim)]})
 | .box k x=>
  let vs:=(evF s.t x).cells.map qf.dim
  if vs.length = k∧vs.all qf.storable then some (.nor,{ s with t:=qjm dst (.ptr s.h.length 0) s.t,h:=s.h ++ [.cells vs]}) else none
 | .ld k a=>(qcZ s.h (evF s.t a) k).map fun v=>(.nor,{ s with t:=qjm dst v s.t})
 | .st k a x=>
  match evF s.t a with
  | .ptr id o=>
   match s.h[id]? with
   | some (.cells cs)=>
    let v:=qrs s.t x
    let vs:=match k with | none=>[v] | some _=>v.dim.cells.map qf.dim
    if vs.length = k.getD 1∧o + vs.length ≤ cs.length∧vs.all qf.storable then
     some (.nor,{ t:=qjm dst .undef (qfq s.t x),h:=s.h.set id (.cells (splice cs o vs)),e:=s.e || !(Nat.ble base id || qN (id + 1) vs)})
    else none
   | _=>none
  | _=>none
 | .call f args=>
  match call (evF s.t f) (args.map (evF s.t)) s.h with
  | some (.ret v,h,e)=>some (.nor,{ t:=qjm dst v.dim s.t,h,e:=s.e || e})
  | some (.pan v,h,e)=>some (.pan v,{ s with h,e:=s.e || e})
  | none=>none
 | .app k x y=>
  match qrs s.t x,tail (evF s.t y) with
  | .lst xs f,some ys=>
   if ys.isEmpty then some (.nor,{ s with t:=qjm dst (qf.lst xs f).dim s.t})
   else if xs.length + ys.length ≤ qo∧ys.all (fun y=>y.cells.length == k && y.cells.all qf.storable)∧xs.head?.all (fun y=>y.cells.length == k) then
    match f with
    | .full=>some (.nor,{ s with t:=qjm dst (.lst (xs ++ ys) (.own k)) s.t})
    | _=>
     match qra k p x s with
     | some (xs,s)=>if xs.head?.all (fun y=>y.cells.length == k) then some (.nor,{ s with t:=qjm dst (.lst (xs ++ ys) (.own k)) s.t}) else none
     | none=>none
   else none
  | _,_=>none
 | .pan x=>match evF s.t x with
  | .iface u v=>some (.pan (.iface u v),s)
  | _=>none
 | .lk sh z ok m key=>(qj5 s.h sh z ok (evF s.t m) (evF s.t key)).map fun v=>(.nor,{ s with t:=qjm dst v s.t})
 | .hx o aS=>(hop base o (aS.map (evF s.t)) s.h).map fun r=>(.nor,{ t:=qjm dst r.1.dim s.t,h:=r.2.1,e:=s.e || r.2.2})
 | o=>(qqA s.t o).map fun v=>(.nor,{ s with t:=qjm dst v s.t})
noncomputable def qg7 (t:List qf) (g:Option (Nat×Bool)):Option Bool:=
 match g with
 | none=>some true
 | some (j,b)=>match qrs t (.t j) with
  | .bool c=>some (c == b)
  | .tup []=>some false
  | _=>none
noncomputable def qf2 (base:Nat) (call:Call):qcj→List qae→St→Option (Ex×St)
 | _,[],s=>some (.nor,s)
 | p,o :: os,s=>
  match qg7 s.t o.guard with
  | some true=>
   match qko base call p o.dst o.op s with
   | some (.nor,s)=>qf2 base call (qaH p o) os s
   | r=>r
  | some false=>qf2 base call (qaH p { o with op:=.pick (.c .undef) (.c .undef) (.c .undef)}) os { s with t:=qjm o.dst (.tup []) s.t}
  | none=>none
noncomputable def qnj (s:St) (o:AOp):Option Chk:=
 match o with
 | .ld k a=>(qcZ s.h (evF s.t a) k).map (.ld (evF s.t a) k)
 | .lk sh z ok m key=>(qj5 s.h sh z ok (evF s.t m) (evF s.t key)).map (.lk sh z ok (evF s.t m) (evF s.t key))
 | .new cs=>some (.box s.h.length (cs.map qf.dim))
 | .box _ x=>some (.box s.h.length ((evF s.t x).cells.map qf.dim))
 | _=>none
noncomputable def qbV (base:Nat) (call:Call) (dsts:List Nat):List qS→List (Nat×Chk)→St→Option (Ex×St)
 | [],_,s=>some (.nor,s)
 | d :: ds,pend,s=>
  match qg7 s.t d.o.guard with
  | some true=>
   match qko base call [] d.o.dst d.o.op s with
   | some (.nor,s')=>
    if d.o.op.effs then
     let pend':=pend.filter fun c=>!d.cl.testBit c.1
     if pend'.all (fun c=>c.2.ok s'.h) then qbV base call dsts ds pend' s' else none
    else
     match qnj s d.o.op with
     | some c=>qbV base call dsts ds ((d.ix,c) :: pend) s'
     | none=>qbV base call dsts ds pend s'
   | some (.pan v,s')=>if d.o.op.effs then some (.pan v,{ s' with t:=qch dsts s'.t}) else none
   | _=>none
  | some false=>qbV base call dsts ds pend { s with t:=qjm d.o.dst (.tup []) s.t}
  | none=>none
noncomputable def qcE (n base:Nat) (call:Call):qF→St→Option (Ex×St)
 | .skip,s=>some (.nor,s)
 | .reg ops,s=>qf2 base call [] ops s
 | .draw ops,s=>qbV base call (ops.filterMap (·.o.dst)) ops [] s
 | .draw2 c a b r,s=>quA a b (qbV base call ((c ++ a :: b :: r).filterMap (·.o.dst)) (c ++ [a,b]) [] s) (qbV base call ((c ++ a :: b :: r).filterMap (·.o.dst)) (c ++ a :: b :: r) [] s) (qbV base call ((c ++ a :: b :: r).filterMap (·.o.dst)) (c ++ b :: a :: r) [] s)
 | .seq a b,s=>match qcE n base call a s with
  | some (.nor,s)=>qcE n base call b s
  | r=>r
 | .cond c a b,s=>match evF s.t c with
  | .bool true=>qcE n base call a s
  | .bool false=>qcE n base call b s
  | _=>none
 | .block id b,s=>match qcE n base call b s with
  | some (.exit j,s)=>if j = id then some (.nor,s) else some (.exit j,s)
  | r=>r
 | .loop b,s=>iter (qcE n base call b) n s
 | .exit id,s=>some (.exit id,s)
 | .ret,s=>some (.ret,s)
 | .rfun f ps asg body,s=>
  match evF s.t f with
  | .fn g first cap=>
   match call (.fn g first cap) [.yld s.h.length] (s.h ++ [.loop (s.t.map qf.dim) ps asg body .ready none]) with
   | some (.ret _,h,e)=>
    match h[s.h.length]? with
    | some (.loop t ps' asg' body' st pend)=>
     if st = .busy then none else
     let s':St:={ s with h:=h.set s.h.length (.loop t ps' asg' body' .exhausted pend),e:=s.e || e}
     match pend with
     | none=>some (.nor,s')
     | some .ret=>some (.ret,s')
     | some (.exit id)=>some (.exit id,s')
    | _=>none
   | some (.pan v,h,e)=>some (.pan v,{ s with h,e:=s.e || e})
   | none=>none
  | _=>none
noncomputable def qdy (s:St):List qjC→Option (List qf)
 | []=>some []
 | .tmp i :: rs=>match qdy s rs with
  | some vs=>some (qAV (qrs s.t (.t i)) :: vs)
  | none=>none
 | .cell a k :: rs=>
  match qcZ s.h (qrs s.t (.t a)) k,qdy s rs with
  | some v,some vs=>some (v :: vs)
  | _,_=>none
noncomputable def qqI (n:Nat) (call:Call) (l:Nat) (args:List qf) (h:List qq):Option (qcS×List qq×Bool):=
 match h[l]? with
 | some (.loop t ps asg body _ _)=>
  if args.length ≠ ps.length then none else
  let base:=h.length
  match qcE n base call asg ⟨qmL t ps (args.map qf.dim),h,false⟩ with
  | some (.nor,s)=>
   match s.h[l]? with
   | some (.loop t1 ps1 asg1 body1 .ready pend)=>
    match qcE n base call body { s with h:=s.h.set l (.loop t1 ps1 asg1 body1 .busy pend)} with
    | some (x,s)=>
     match s.h[l]? with
     | some (.loop t2 ps2 asg2 body2 _ _)=>
      match x with
      | .nor=>some (leave base (.ret (.bool true)) (s.h.set l (.loop t2 ps2 asg2 body2 .ready none)) s.e)
      | .ret=>some (leave base (.ret (.bool false)) (s.h.set l (.loop t2 ps2 asg2 body2 .done (some .ret))) s.e)
      | .exit id=>some (leave base (.ret (.bool false)) (s.h.set l (.loop t2 ps2 asg2 body2 .done (some (.exit id)))) s.e)
      | .pan _=>none
     | _=>none
    | none=>none
   | _=>none
  | _=>none
 | _=>none
noncomputable def qxL (F:FuncId→Option qw) (X:qfy):Nat→Call
 | 0=>fun _ _ _=>none
 | n + 1=>fun fv args h=>
  match fv with
  | .fn f first cap=>
   match X f with
   | some g=>g (qxL F X n) (first ++ args ++ cap) h
   | none=>
    match F f with
    | none=>none
    | some fn=>
     let aS:=(first ++ args ++ cap).map qf.dim
     match qcE n h.length (qxL F X n) fn.code ⟨aS ++ List.replicate (fn.ntmps - aS.length) (.tup []),h,false⟩ with
     | some (.nor,s) | some (.ret,s)=>
      match qdy s fn.results with
      | some vs=>some (leave h.length (.ret (qbF vs)) s.h s.e)
      | none=>none
     | some (.pan v,s)=>some (leave h.length (.pan v) s.h s.e)
     | _=>none
  | .yld l=>qqI n (qxL F X n) l args h
  | _=>none
theorem qm9:qe5 = bound:=by
 funext t x d
 cases x <;> simp only [qe5,bound,qfI] <;> rfl
theorem qqB:qqA = pureV:=by
 funext t o
 cases o <;> simp only [qqA,pureV,qfI,qm9] <;> first | rfl | (cases ‹Bool› <;> rfl)
theorem qkn (t:List qf) (i:Nat):raw t (.t i) = t.getD i .undef:=rfl
theorem qrb:qra = qdn:=by
 funext k p x s
 cases x <;> simp only [qra,qdn,qeV,qkn,qfI] <;> rfl
theorem qh6:qko = qz:=by
 funext base call p dst o s
 cases o <;> simp only [qko,qz,qeV,qfI,qjn,qiC,qrb,qqB] <;> rfl
theorem qgB:qg7 = wanted:=by
 funext t g
 cases g <;> simp only [qg7,wanted,qeV,qkn] <;> rfl
theorem qgy (base:Nat) (call:Call):∀(os:List qae) (p:qcj) (s:St),qf2 base call p os s = qaM base call p os s
 | [],_,_=>rfl
 | o :: os,p,s=>by
  simp only [qf2,qaM,qgB,qh6,qjn,qgy base call os]
  rfl
theorem qnk:qnj = qee:=by
 funext s o
 cases o <;> simp only [qnj,qee,qfI] <;> rfl
theorem qd6 (base:Nat) (call:Call) (dsts:List Nat):∀(ds:List qS) (pend:List (Nat×Chk)) (s:St),qbV base call dsts ds pend s = qW base call dsts ds pend s
 | [],_,_=>rfl
 | d :: ds,pend,s=>by
  simp only [qbV,qW,qgB,qh6,qjn,qnk,qd6 base call dsts ds]
  rfl
theorem qcv (n base:Nat) (call:Call):∀(c:qF),qcE n base call c = qaV n base call c
 | .skip=>by funext s;simp only [qcE,qaV] <;> rfl
 | .reg ops=>by funext s;simp only [qcE,qaV,qgy] <;> rfl
 | .draw ops=>by funext s;simp only [qcE,qaV,qd6] <;> rfl
 | .draw2 c a b r=>by funext s;simp only [qcE,qaV,qd6] <;> rfl
 | .seq a b=>by funext s;simp only [qcE,qaV,qcv n base call a,qcv n base call b] <;> rfl
 | .cond c a b=>by funext s;simp only [qcE,qaV,qfI,qcv n base call a,qcv n base call b] <;> rfl
 | .block id b=>by funext s;simp only [qcE,qaV,qcv n base call b] <;> rfl
 | .loop b=>by funext s;simp only [qcE,qaV,qcv n base call b] <;> rfl
 | .rfun f ps asg body=>by funext s;simp only [qcE,qaV,qfI] <;> rfl
 | .exit id=>by funext s;simp only [qcE,qaV] <;> rfl
 | .ret=>by funext s;simp only [qcE,qaV] <;> rfl
theorem qd4 (s:St):∀rs:List qjC,qdy s rs = qay s rs
 | []=>rfl
 | .tmp i :: rs=>by simp only [qdy,qay,qd4 s rs,qeV,qkn,qnC] <;> rfl
 | .cell a k :: rs=>by simp only [qdy,qay,qd4 s rs,qeV,qkn] <;> rfl
theorem qqJ (n:Nat) (call:Call):qqI n call = round n call:=by
 funext l args h
 simp only [qqI,round,qcv] <;> rfl
theorem qjr (F:FuncId→Option qw) (X:qfy):∀n:Nat,qxL F X n = run F X n
 | 0=>rfl
 | n + 1=>by
  funext fv args h
  simp only [qxL,run,qjr F X n,qcv,qd4,qqJ] <;> rfl
end Go.AE
namespace Go.AE
def qus (X:qfy) (f:FuncId) (g:Call→List qf→List qq→Option (qcS×List qq×Bool)):qfy:=fun i=>if i == f then some g else X i
theorem qfx {X:qfy} {f i:FuncId} {g g':Call→List qf→List qq→Option (qcS×List qq×Bool)} (h:qus X f g i = some g'):(i = f∧g' = g)∨X i = some g':=by
 unfold qus at h
 cases e:i == f with
 | true=>rw [e] at h;exact .inl ⟨by simpa using e,(Option.some.inj h).symm⟩
 | false=>rw [e] at h;exact .inr h
section
variable {P:Program} {gl:Nat→Option (List qf)} {F:FuncId→Option qw} {X:qfy} {f:FuncId} {fn:qw} {n k:Nat} {as0:List qf} {h0 h1:List qq} {r0:qcS} {e1:Bool}
theorem quI {g:Call→List qf→List qq→Option (qcS×List qq×Bool)} (hP:qfA P gl F) (hF:F f = some fn) (hcall:qbX P gl (run F X n)) (hg:∀call aS h r,g call aS h = some r→run F X n (.fn f [] []) aS h = some r):qeI P gl f g:=by
 intro call _ _ aS h r h' e' hr0 G w vs hr hn ha
 have hrun:=hg _ _ _ _ hr0
 obtain ⟨pf,c,p1,p2,p3,_⟩:=hP f fn hF
 have hent:=qah (P:=P) p1 p2 p3 vs w
 have hfv:G.V (.fn f [] []) (.func (.func f) #[] #[]):=by simp [qm.V,qB,qr]
 have hcs:(qec (.func (.func f) #[] #[]) vs).run P w = (callFunc f vs).run P w:=by rw [qfn];simp
 rcases hcall _ _ _ _ _ _ hrun G w _ vs hr hn hfv ha with ⟨f',as',k1,k2⟩ | ⟨_,_,_,_,_,_,hy,_⟩ | ⟨v,w',_,k1,_⟩
 ·rw [hcs,hent] at k1
  cases k1
  exact .inl ⟨hent,k2⟩
 ·cases hy
 ·rw [hcs,hent] at k1
  cases k1
structure qmI (P:Program) (gl:Nat→Option (List qf)) (F:FuncId→Option qw) (X:qfy):Prop where
 ok:∀f g,X f = some g→qeI P gl f g
 keeps:∀f g,X f = some g→∀call,qP call→qP fun _ xs h=>g call xs h
theorem qmI.call (hmx:P.follows .mixedOrders = true) (hP:qfA P gl F) (hX:qmI P gl F X) (n:Nat):qbX P gl (run F X n):=qh8 hmx hP hX.ok hX.keeps n
theorem qmI.put {Y:qfy} {g:Call→List qf→List qq→Option (qcS×List qq×Bool)} (hmx:P.follows .mixedOrders = true) (hP:qfA P gl F) (hX:qmI P gl F X) (hY:qmI P gl F Y) (hF:F f = some fn) (hg:∀call aS h r,g call aS h = some r→qxL F X n (.fn f [] []) aS h = some r):qmI P gl F (qus Y f g):=by
 rw [qjr] at hg
 constructor
 ·intro i g' hi
  rcases qfx hi with ⟨rfl,rfl⟩ | hi
  ·exact quI hP hF (hX.call hmx hP n) hg
  ·exact hY.ok i g' hi
 ·intro i g' hi call hk
  rcases qfx hi with ⟨rfl,rfl⟩ | hi
  ·intro fv aS h r h' e' hr
   exact qeA hX.keeps n _ _ _ _ _ _ (hg _ _ _ _ hr)
  ·exact hY.keeps i g' hi call hk
def qkq (g:List qf→List qq→Option (qcS×List qq×Bool)) (_:Call) (aS:List qf) (h:List qq):Option (qcS×List qq×Bool):=
 match aS with
 | [.lst [] .full]=>some (.ret (.lst [] .full),h,false)
 | aS=>g aS h
theorem qmI.split {Y:qfy} (hmx:P.follows .mixedOrders = true) (hP:qfA P gl F) (hX:qmI P gl F X) (hY:qmI P gl F Y) (hF:F f = some fn)
  (h1:∀H,run F X n (.fn f [] []) [.nils] H = some (.ret (.lst [] .full),H,false)) (h2:∀H,run F X n (.fn f [] []) [.empt] H = some (.ret (.lst [] .full),H,false)):qmI P gl F (qus Y f (qkq (run F X n (.fn f [] [])))):=by
 have base:=quI (g:=fun _ aS h=>run F X n (.fn f [] []) aS h) hP hF (hX.call hmx hP n) (fun _ _ _ _ h=>h)
 constructor
 ·intro i g' hi
  rcases qfx hi with ⟨rfl,rfl⟩ | hi
  ·intro call hc hk aS h r h' e' hr0 G w vs hr hn ha
   unfold qkq at hr0
   split at hr0
   ·cases hr0
    have ha':=ha
    simp only [qm.VL,qr,qB] at ha'
    obtain ⟨v,rest,e,⟨a,len,cap,rfl,g1,g2,g3,g4,_⟩,rfl⟩:=ha'
    simp only [List.length_nil] at g1
    subst g1
    have g3:=g3 trivial
    subst g3
    cases a with
    | none=>exact (base call hc hk _ _ _ _ _ (h1 h) G w vs hr hn (by rw [e];simp [qm.VL,qr,qB])).imp (fun x=>x) fun x=>⟨by simp,x.2⟩
    | some b=>exact (base call hc hk _ _ _ _ _ (h2 h) G w vs hr hn (by rw [e];simp [qm.VL,qr,qB])).imp (fun x=>x) fun x=>⟨by simp,x.2⟩
   ·exact base call hc hk _ _ _ _ _ hr0 G w vs hr hn ha
  ·exact hY.ok i g' hi
 ·intro i g' hi call hk
  rcases qfx hi with ⟨rfl,rfl⟩ | hi
  ·intro fv aS h r h' e' hr0
   have hr:qkq (run F X n (.fn i [] [])) call aS h = some (r,h',e'):=hr0
   unfold qkq at hr
   split at hr
   ·cases hr;exact ⟨Nat.le_refl _,fun _=>qaa.refl _ _⟩
   ·exact qeA hX.keeps n _ _ _ _ _ _ hr
  ·exact hY.keeps i g' hi call hk
def bx (f:Nat→qq) (k:Nat):List qq:=(List.range k).map f
end
end Go.AE
namespace Go.AE
def Le {α:Type} (a b:Option α):Prop:=∀x,a = some x→b = some x
theorem Le.refl {α:Type} (a:Option α):Le a a:=fun _ h=>h
def CLe (c d:Call):Prop:=∀fv aS h,Le (c fv aS h) (d fv aS h)
theorem CLe.refl (c:Call):CLe c c:=fun _ _ _ _ h=>h
def qAp {α:Type} (g:Nat→Option α):Prop:=∀n m,n ≤ m→Le (g n) (g m)
def qdF (c:Nat→Call):Prop:=∀n m,n ≤ m→CLe (c n) (c m)
open Classical in
noncomputable def lim {α:Type} (g:Nat→Option α):Option α:=if h:∃n x,g n = some x then g h.choose else none
theorem qjc {α:Type} {g:Nat→Option α} (hg:qAp g) (x:α):lim g = some x↔∃n,g n = some x:=by
 unfold lim
 constructor
 ·intro h
  split at h
  ·exact ⟨_,h⟩
  ·cases h
 ·rintro ⟨n,hn⟩
  have h:∃n x,g n = some x:=⟨n,x,hn⟩
  rw [dif_pos h]
  obtain ⟨y,hy⟩:=h.choose_spec
  have h1:=hg _ (max n h.choose) (Nat.le_max_right ..) _ hy
  have h2:=hg _ (max n h.choose) (Nat.le_max_left ..) _ hn
  rw [hy,←h1,h2]
theorem qcM {α:Type} (a:Option α):lim (fun _=>a) = a:=by
 apply Option.ext
 intro x
 rw [qjc (fun _ _ _=>Le.refl _)]
 exact ⟨fun ⟨_,h⟩=>h,fun h=>⟨0,h⟩⟩
noncomputable def qpI (c:Nat→Call):Call:=fun fv aS h=>lim fun n=>c n fv aS h
theorem qdu {c:Nat→Call} (hc:qdF c) {fv:qf} {aS:List qf} {h:List qq} (x:qcS×List qq×Bool):qpI c fv aS h = some x↔∃n,c n fv aS h = some x:=
 qjc (fun n m hnm=>hc n m hnm fv aS h) x
theorem qpl {c:Nat→Call} (hc:qdF c) (n:Nat):CLe (c n) (qpI c):=fun _ _ _ x hx=>(qdu hc x).2 ⟨n,hx⟩
section
variable {c d:Call} {base:Nat}
theorem qbz (hc:CLe c d) {p:qcj} {dst:Option Nat} {o:AOp} {s:St}:Le (qz base c p dst o s) (qz base d p dst o s):=by
 cases o
 case call f args=>
  intro x hx
  simp only [qz] at hx ⊢
  split at hx
  ·rename_i heq;rw [hc _ _ _ _ heq];exact hx
  ·rename_i heq;rw [hc _ _ _ _ heq];exact hx
  ·cases hx
 all_goals exact fun x hx=>hx
theorem qbx (hc:CLe c d):∀(ops:List qae) (p:qcj) (s:St),Le (qaM base c p ops s) (qaM base d p ops s)
 | [],p,s=>fun x hx=>hx
 | o :: os,p,s=>fun x hx=>by
  simp only [qaM] at hx ⊢
  split at hx
  ·split at hx
   ·rename_i heq;rw [qbz hc _ heq];exact qbx hc os _ _ _ hx
   ·rename_i hne
    have h1:=qbz hc _ hx
    rw [h1]
    split
    ·rename_i heq;cases heq;exact absurd hx (hne _)
    ·rfl
  ·exact qbx hc os _ _ _ hx
  ·cases hx
theorem qau (hc:CLe c d) (dsts:List Nat):∀(ops:List qS) (pend:List (Nat×Chk)) (s:St),Le (qW base c dsts ops pend s) (qW base d dsts ops pend s)
 | [],p,s=>fun x hx=>hx
 | o :: os,p,s=>fun x hx=>by
  simp only [qW] at hx ⊢
  split at hx
  ·split at hx
   ·rename_i heq
    rw [qbz hc _ heq]
    simp only
    split at hx
    ·rename_i he
     rw [if_pos he]
     split at hx
     ·rename_i hp;rw [if_pos hp];exact qau hc dsts os _ _ _ hx
     ·cases hx
    ·rename_i he
     rw [if_neg he]
     split at hx
     ·exact qau hc dsts os _ _ _ hx
     ·exact qau hc dsts os _ _ _ hx
   ·rename_i heq;rw [qbz hc _ heq];exact hx
   ·cases hx
  ·exact qau hc dsts os _ _ _ hx
  ·cases hx
theorem qdi {f g:St→Option (Ex×St)} (hf:∀s,Le (f s) (g s)):∀(n m:Nat),n ≤ m→∀s,Le (iter f n s) (iter g m s)
 | 0,_,_,s=>fun x hx=>by cases hx
 | n + 1,0,h,s=>by omega
 | n + 1,m + 1,h,s=>fun x hx=>by
  simp only [iter] at hx ⊢
  split at hx
  ·rename_i heq;rw [hf _ _ heq];exact qdi hf n m (by omega) _ _ hx
  ·rename_i hne
   rw [hf _ _ hx]
   split
   ·rename_i heq;cases heq;exact absurd hx (hne _)
   ·rfl
theorem qm7 {p q:qS} {a b e a' b' e':Option (Ex×St)} (h1:Le a a') (h2:Le b b') (h3:Le e e'):Le (quA p q a b e) (quA p q a' b' e'):=fun x hx=>by
 unfold quA at hx
 split at hx
 ·rename_i s0 s1 s2
  rw [h1 _ rfl,h2 _ rfl,h3 _ rfl]
  exact hx
 ·cases hx
theorem qI (hc:CLe c d) {n m:Nat} (hnm:n ≤ m):∀(a:qF) (s:St),Le (qaV n base c a s) (qaV m base d a s)
 | .skip,s=>fun x hx=>hx
 | .reg ops,s=>qbx hc ops _ s
 | .draw ops,s=>qau hc _ ops _ s
 | .draw2 c a b r,s=>qm7 (qau hc _ _ _ s) (qau hc _ _ _ s) (qau hc _ _ _ s)
 | .seq a b,s=>fun x hx=>by
  simp only [qaV] at hx ⊢
  split at hx
  ·rename_i heq;rw [qI hc hnm a _ _ heq];exact qI hc hnm b _ _ hx
  ·rename_i hne
   rw [qI hc hnm a _ _ hx]
   split
   ·rename_i heq;cases heq;exact absurd hx (hne _)
   ·rfl
 | .cond q a b,s=>fun x hx=>by
  simp only [qaV] at hx ⊢
  split at hx
  ·exact qI hc hnm a _ _ hx
  ·exact qI hc hnm b _ _ hx
  ·cases hx
 | .block id b,s=>fun x hx=>by
  simp only [qaV] at hx ⊢
  split at hx
  ·rename_i heq;rw [qI hc hnm b _ _ heq];exact hx
  ·rename_i hne
   rw [qI hc hnm b _ _ hx]
   split
   ·rename_i heq;cases heq;exact absurd hx (hne _ _)
   ·rfl
 | .loop b,s=>fun x hx=>by
  simp only [qaV] at hx ⊢
  exact qdi (fun s=>qI hc hnm b s) n m hnm s x hx
 | .exit id,s=>fun x hx=>hx
 | .ret,s=>fun x hx=>hx
 | .rfun f ps asg body,s=>fun x hx=>by
  simp only [qaV] at hx ⊢
  split at hx
  ·split at hx
   ·rename_i heq;rw [hc _ _ _ _ heq];exact hx
   ·rename_i heq;rw [hc _ _ _ _ heq];exact hx
   ·cases hx
  ·cases hx
theorem qmp (hc:CLe c d) {n m:Nat} (hnm:n ≤ m) {l:Nat} {args:List qf} {h:List qq}:Le (round n c l args h) (round m d l args h):=fun x hx=>by
 simp only [round] at hx ⊢
 split at hx
 ·split at hx
  ·cases hx
  ·rename_i hl
   rw [if_neg hl]
   split at hx
   ·rename_i heq
    rw [qI hc hnm _ _ _ heq]
    simp only
    split at hx
    ·split at hx
     ·rename_i heq2
      rw [qI hc hnm _ _ _ heq2]
      exact hx
     ·cases hx
    ·cases hx
   ·cases hx
 ·cases hx
theorem qce (hc:CLe c d) {n m:Nat} (hnm:n ≤ m) {df:qd8} {v:qf} {cv:List qf} {s:St}:Le (qeg n c df v cv s) (qeg m d df v cv s):=fun x hx=>by
 simp only [qeg] at hx ⊢
 split at hx
 ·rename_i heq
  rw [qbx hc _ _ _ _ heq]
  dsimp only
  split at hx
  ·rename_i heq2;rw [qI hc hnm _ _ _ heq2];exact hx
  ·rename_i heq2;rw [qI hc hnm _ _ _ heq2];exact hx
  ·cases hx
 ·cases hx
theorem qcI (hc:CLe c d) {n m:Nat} (hnm:n ≤ m) {df:qd8}:∀(b:qga) (s:St),Le (qdg n base c df b s) (qdg m base d df b s)
 | .pre a r,s=>fun x hx=>by
  simp only [qdg] at hx ⊢
  split at hx
  ·rename_i heq;rw [qI hc hnm _ _ _ heq];exact qcI hc hnm r _ _ hx
  ·cases hx
  ·rename_i h1 h2
   rw [qI hc hnm _ _ _ hx]
   split
   ·rename_i heq;cases heq;exact absurd hx (h1 _)
   ·rename_i heq;cases heq;exact absurd hx (h2 _ _)
   ·rfl
 | .dfr f caps slot rest,s=>fun x hx=>by
  simp only [qdg] at hx ⊢
  split at hx
  ·split at hx
   ·rename_i hg
    rw [if_pos hg]
    split at hx
    ·rename_i heq;rw [qI hc hnm _ _ _ heq];exact qce hc hnm _ hx
    ·rename_i heq;rw [qI hc hnm _ _ _ heq];exact qce hc hnm _ hx
    ·rename_i heq;rw [qI hc hnm _ _ _ heq];exact qce hc hnm _ hx
    ·cases hx
   ·cases hx
  ·cases hx
theorem qk2 (hc:CLe c d) {n m:Nat} (hnm:n ≤ m) {g:qij} {aS:List qf} {h:List qq}:Le (qfj n g c aS h) (qfj m g d aS h):=fun x hx=>by
 simp only [qfj] at hx ⊢
 split at hx
 ·rename_i heq;rw [qcI hc hnm _ _ _ heq];exact hx
 ·rename_i heq;rw [qcI hc hnm _ _ _ heq];exact hx
 ·rename_i heq;rw [qcI hc hnm _ _ _ heq];exact hx
 ·cases hx
end
def qvd (X:qfy):Prop:=∀f g,X f = some g→∀c d,CLe c d→∀aS h,Le (g c aS h) (g d aS h)
theorem qt8 {F:FuncId→Option qw} {X:qfy} (hX:qvd X) {n m:Nat} (hnm:n ≤ m) (hc:CLe (run F X n) (run F X m)):CLe (run F X (n + 1)) (run F X (m + 1)):=fun fv aS h x hx=>by
 simp only [run] at hx ⊢
 split at hx
 ·split at hx
  ·rename_i hg
   exact hX _ _ hg _ _ hc _ _ _ hx
  ·split at hx
   ·cases hx
   ·split at hx
    ·rename_i heq;rw [qI hc hnm _ _ _ heq];exact hx
    ·rename_i heq;rw [qI hc hnm _ _ _ heq];exact hx
    ·rename_i heq;rw [qI hc hnm _ _ _ heq];exact hx
    ·cases hx
 ·exact qmp hc hnm _ hx
 ·cases hx
theorem qfv {F:FuncId→Option qw} {X:qfy} (hX:qvd X):∀n m:Nat,n ≤ m→CLe (run F X n) (run F X m)
 | 0,_,_=>fun _ _ _ x hx=>by cases hx
 | n + 1,0,h=>by omega
 | n + 1,m + 1,h=>qt8 hX (by omega) (qfv hX n m (by omega))
section
variable {c:Nat→Call} {base:Nat}
theorem qdz (hc:qdF c) {p:qcj} {dst:Option Nat} {o:AOp} {s:St} {x:Ex×St} (hx:qz base (qpI c) p dst o s = some x):∃k,qz base (c k) p dst o s = some x:=by
 cases o
 case call f args=>
  simp only [qz] at hx ⊢
  split at hx
  ·rename_i heq;obtain ⟨k,hk⟩:=(qdu hc _).1 heq;exact ⟨k,by rw [hk];exact hx⟩
  ·rename_i heq;obtain ⟨k,hk⟩:=(qdu hc _).1 heq;exact ⟨k,by rw [hk];exact hx⟩
  ·cases hx
 all_goals exact ⟨0,hx⟩
theorem qc3 (hc:qdF c):∀(ops:List qae) (p:qcj) (s:St) (x:Ex×St),qaM base (qpI c) p ops s = some x→∃k,qaM base (c k) p ops s = some x
 | [],p,s,x,hx=>⟨0,hx⟩
 | o :: os,p,s,x,hx=>by
  simp only [qaM] at hx ⊢
  split at hx
  ·split at hx
   ·rename_i heq
    obtain ⟨k1,h1⟩:=qdz hc heq
    obtain ⟨k2,h2⟩:=qc3 hc os _ _ _ hx
    refine ⟨max k1 k2,?_⟩
    rw [qbz (hc k1 _ (Nat.le_max_left ..)) _ h1]
    exact qbx (hc k2 _ (Nat.le_max_right ..)) _ _ _ _ h2
   ·rename_i hne
    obtain ⟨k1,h1⟩:=qdz hc hx
    refine ⟨k1,?_⟩
    rw [h1]
    split
    ·rename_i heq;cases heq;exact absurd hx (hne _)
    ·rfl
  ·exact qc3 hc os _ _ _ hx
  ·cases hx
theorem qa0 (hc:qdF c) (dsts:List Nat):∀(ops:List qS) (pend:List (Nat×Chk)) (s:St) (x:Ex×St),qW base (qpI c) dsts ops pend s = some x→∃k,qW base (c k) dsts ops pend s = some x
 | [],p,s,x,hx=>⟨0,hx⟩
 | o :: os,p,s,x,hx=>by
  simp only [qW] at hx ⊢
  split at hx
  ·split at hx
   ·rename_i heq
    obtain ⟨k1,h1⟩:=qdz hc heq
    split at hx
    ·rename_i he
     split at hx
     ·rename_i hp
      obtain ⟨k2,h2⟩:=qa0 hc dsts os _ _ _ hx
      refine ⟨max k1 k2,?_⟩
      rw [qbz (hc k1 _ (Nat.le_max_left ..)) _ h1]
      simp only
      rw [if_pos he,if_pos hp]
      exact qau (hc k2 _ (Nat.le_max_right ..)) dsts _ _ _ _ h2
     ·cases hx
    ·rename_i he
     split at hx
     ·obtain ⟨k2,h2⟩:=qa0 hc dsts os _ _ _ hx
      rename_i hk
      refine ⟨max k1 k2,?_⟩
      rw [qbz (hc k1 _ (Nat.le_max_left ..)) _ h1]
      simp only
      rw [if_neg he]
      exact qau (hc k2 _ (Nat.le_max_right ..)) dsts _ _ _ _ h2
     ·obtain ⟨k2,h2⟩:=qa0 hc dsts os _ _ _ hx
      refine ⟨max k1 k2,?_⟩
      rw [qbz (hc k1 _ (Nat.le_max_left ..)) _ h1]
      simp only
      rw [if_neg he]
      exact qau (hc k2 _ (Nat.le_max_right ..)) dsts _ _ _ _ h2
   ·rename_i heq;obtain ⟨k1,h1⟩:=qdz hc heq;exact ⟨k1,by rw [h1];exact hx⟩
   ·cases hx
  ·exact qa0 hc dsts os _ _ _ hx
  ·cases hx
theorem qhI {f:St→Option (Ex×St)} {g:Nat→St→Option (Ex×St)} (hg:∀n m,n ≤ m→∀s,Le (g n s) (g m s)) (hf:∀s x,f s = some x→∃k,g k s = some x):∀(n:Nat) (s:St) (x:Ex×St),iter f n s = some x→∃k,iter (g k) n s = some x
 | 0,s,x,hx=>by cases hx
 | n + 1,s,x,hx=>by
  simp only [iter] at hx ⊢
  split at hx
  ·rename_i heq
   obtain ⟨k1,h1⟩:=hf _ _ heq
   obtain ⟨k2,h2⟩:=qhI hg hf n _ _ hx
   refine ⟨max k1 k2,?_⟩
   rw [hg k1 _ (Nat.le_max_left ..) _ _ h1]
   exact qdi (hg k2 _ (Nat.le_max_right ..)) n n (Nat.le_refl _) _ _ h2
  ·rename_i hne
   obtain ⟨k1,h1⟩:=hf _ _ hx
   refine ⟨k1,?_⟩
   rw [h1]
   split
   ·rename_i heq;cases heq;exact absurd hx (hne _)
   ·rfl
theorem qaK (hc:qdF c) {n:Nat}:∀(a:qF) (s:St) (x:Ex×St),qaV n base (qpI c) a s = some x→∃k,qaV n base (c k) a s = some x
 | .skip,s,x,hx=>⟨0,hx⟩
 | .reg ops,s,x,hx=>qc3 hc ops _ s x hx
 | .draw ops,s,x,hx=>qa0 hc _ ops _ s x hx
 | .draw2 c0 a0 b0 r0,s,x,hx=>by
  simp only [qaV] at hx ⊢
  unfold quA at hx
  split at hx
  ·rename_i s0 s1 s2 e0 e1 e2
   obtain ⟨k0,h0⟩:=qa0 hc _ _ _ s _ e0
   obtain ⟨k1,h1⟩:=qa0 hc _ _ _ s _ e1
   obtain ⟨k2,h2⟩:=qa0 hc _ _ _ s _ e2
   refine ⟨max k0 (max k1 k2),?_⟩
   rw [qau (hc k0 _ (Nat.le_max_left ..)) _ _ _ s _ h0,qau (hc k1 _ (Nat.le_trans (Nat.le_max_left ..) (Nat.le_max_right ..))) _ _ _ s _ h1,qau (hc k2 _ (Nat.le_trans (Nat.le_max_right ..) (Nat.le_max_right ..))) _ _ _ s _ h2]
   exact hx
  ·cases hx
 | .seq a b,s,x,hx=>by
  simp only [qaV] at hx ⊢
  split at hx
  ·rename_i heq
   obtain ⟨k1,h1⟩:=qaK hc a _ _ heq
   obtain ⟨k2,h2⟩:=qaK hc b _ _ hx
   refine ⟨max k1 k2,?_⟩
   rw [qI (hc k1 _ (Nat.le_max_left ..)) (Nat.le_refl _) _ _ _ h1]
   exact qI (hc k2 _ (Nat.le_max_right ..)) (Nat.le_refl _) _ _ _ h2
  ·rename_i hne
   obtain ⟨k1,h1⟩:=qaK hc a _ _ hx
   refine ⟨k1,?_⟩
   rw [h1]
   split
   ·rename_i heq;cases heq;exact absurd hx (hne _)
   ·rfl
 | .cond q a b,s,x,hx=>by
  simp only [qaV] at hx ⊢
  split at hx
  ·exact qaK hc a _ _ hx
  ·exact qaK hc b _ _ hx
  ·cases hx
 | .block id b,s,x,hx=>by
  simp only [qaV] at hx ⊢
  split at hx
  ·rename_i heq
   obtain ⟨k1,h1⟩:=qaK hc b _ _ heq
   exact ⟨k1,by rw [h1];exact hx⟩
  ·rename_i hne
   obtain ⟨k1,h1⟩:=qaK hc b _ _ hx
   refine ⟨k1,?_⟩
   rw [h1]
   split
   ·rename_i heq;cases heq;exact absurd hx (hne _ _)
   ·rfl
 | .loop b,s,x,hx=>by
  simp only [qaV] at hx ⊢
  exact qhI (g:=fun k=>qaV n base (c k) b) (fun i j hij s=>qI (hc i j hij) (Nat.le_refl _) b s) (fun s x h=>qaK hc b s x h) n s x hx
 | .exit id,s,x,hx=>⟨0,hx⟩
 | .ret,s,x,hx=>⟨0,hx⟩
 | .rfun f ps asg body,s,x,hx=>by
  simp only [qaV] at hx ⊢
  split at hx
  ·split at hx
   ·rename_i heq;obtain ⟨k,hk⟩:=(qdu hc _).1 heq;exact ⟨k,by rw [hk];exact hx⟩
   ·rename_i heq;obtain ⟨k,hk⟩:=(qdu hc _).1 heq;exact ⟨k,by rw [hk];exact hx⟩
   ·cases hx
  ·cases hx
theorem qeN (hc:qdF c) {n:Nat} {df:qd8} {v:qf} {cv:List qf} {s:St} {x:Ex×St} (hx:qeg n (qpI c) df v cv s = some x):∃k,qeg n (c k) df v cv s = some x:=by
 simp only [qeg] at hx ⊢
 split at hx
 ·rename_i heq
  obtain ⟨k1,h1⟩:=qc3 hc _ _ _ _ heq
  split at hx
  ·rename_i heq2
   obtain ⟨k2,h2⟩:=qaK hc _ _ _ heq2
   refine ⟨max k1 k2,?_⟩
   rw [qbx (hc k1 _ (Nat.le_max_left ..)) _ _ _ _ h1]
   simp only
   rw [qI (hc k2 _ (Nat.le_max_right ..)) (Nat.le_refl _) _ _ _ h2]
   exact hx
  ·rename_i heq2
   obtain ⟨k2,h2⟩:=qaK hc _ _ _ heq2
   refine ⟨max k1 k2,?_⟩
   rw [qbx (hc k1 _ (Nat.le_max_left ..)) _ _ _ _ h1]
   simp only
   rw [qI (hc k2 _ (Nat.le_max_right ..)) (Nat.le_refl _) _ _ _ h2]
   exact hx
  ·cases hx
 ·cases hx
theorem qds (hc:qdF c) {n:Nat} {df:qd8}:∀(b:qga) (s:St) (x:Ex×St),qdg n base (qpI c) df b s = some x→∃k,qdg n base (c k) df b s = some x
 | .pre a r,s,x,hx=>by
  simp only [qdg] at hx ⊢
  split at hx
  ·rename_i heq
   obtain ⟨k1,h1⟩:=qaK hc _ _ _ heq
   obtain ⟨k2,h2⟩:=qds hc r _ _ hx
   refine ⟨max k1 k2,?_⟩
   rw [qI (hc k1 _ (Nat.le_max_left ..)) (Nat.le_refl _) _ _ _ h1]
   exact qcI (hc k2 _ (Nat.le_max_right ..)) (Nat.le_refl _) _ _ _ h2
  ·cases hx
  ·rename_i h1 h2
   obtain ⟨k1,h3⟩:=qaK hc _ _ _ hx
   refine ⟨k1,?_⟩
   rw [h3]
   split
   ·rename_i heq;cases heq;exact absurd hx (h1 _)
   ·rename_i heq;cases heq;exact absurd hx (h2 _ _)
   ·rfl
 | .dfr f caps slot rest,s,x,hx=>by
  simp only [qdg] at hx ⊢
  split at hx
  ·split at hx
   ·rename_i hg
    simp only [if_pos hg]
    split at hx
    ·rename_i heq
     obtain ⟨k1,h1⟩:=qaK hc _ _ _ heq
     obtain ⟨k2,h2⟩:=qeN hc hx
     refine ⟨max k1 k2,?_⟩
     rw [qI (hc k1 _ (Nat.le_max_left ..)) (Nat.le_refl _) _ _ _ h1]
     exact qce (hc k2 _ (Nat.le_max_right ..)) (Nat.le_refl _) _ h2
    ·rename_i heq
     obtain ⟨k1,h1⟩:=qaK hc _ _ _ heq
     obtain ⟨k2,h2⟩:=qeN hc hx
     refine ⟨max k1 k2,?_⟩
     rw [qI (hc k1 _ (Nat.le_max_left ..)) (Nat.le_refl _) _ _ _ h1]
     exact qce (hc k2 _ (Nat.le_max_right ..)) (Nat.le_refl _) _ h2
    ·rename_i heq
     obtain ⟨k1,h1⟩:=qaK hc _ _ _ heq
     obtain ⟨k2,h2⟩:=qeN hc hx
     refine ⟨max k1 k2,?_⟩
     rw [qI (hc k1 _ (Nat.le_max_left ..)) (Nat.le_refl _) _ _ _ h1]
     exact qce (hc k2 _ (Nat.le_max_right ..)) (Nat.le_refl _) _ h2
    ·cases hx
   ·cases hx
  ·cases hx
theorem qk1 (hc:qdF c) {n:Nat} {g:qij} {aS:List qf} {h:List qq} {x:qcS×List qq×Bool} (hx:qfj n g (qpI c) aS h = some x):∃k,qfj n g (c k) aS h = some x:=by
 simp only [qfj] at hx ⊢
 split at hx
 ·rename_i heq;obtain ⟨k1,h1⟩:=qds hc _ _ _ heq;exact ⟨k1,by rw [h1];exact hx⟩
 ·rename_i heq;obtain ⟨k1,h1⟩:=qds hc _ _ _ heq;exact ⟨k1,by rw [h1];exact hx⟩
 ·rename_i heq;obtain ⟨k1,h1⟩:=qds hc _ _ _ heq;exact ⟨k1,by rw [h1];exact hx⟩
 ·cases hx
end
noncomputable def qx (base:Nat) (call:Call) (a:qF) (s:St):Option (Ex×St):=lim fun n=>qaV n base call a s
section
variable {base:Nat} {call:Call}
theorem qav {a:qF} {s:St} (x:Ex×St):qx base call a s = some x↔∃n,qaV n base call a s = some x:=
 qjc (fun n m hnm=>qI (CLe.refl _) hnm a s) x
theorem qkY (s:St):qx base call .skip s = some (.nor,s):=qcM _
theorem qhy (ops:List qae) (s:St):qx base call (.reg ops) s = qaM base call [] ops s:=qcM _
theorem qkW (ops:List qS) (s:St):qx base call (.draw ops) s = qW base call (ops.filterMap (·.o.dst)) ops [] s:=qcM _
theorem qkX (id:Nat) (s:St):qx base call (.exit id) s = some (.exit id,s):=qcM _
theorem qn8 (s:St):qx base call .ret s = some (.ret,s):=qcM _
def qcP (f:St→Option (Ex×St)):Option (Ex×St)→Option (Ex×St)
 | some (.nor,s)=>f s
 | r=>r
theorem qn9 (a b:qF) (s:St):qx base call (.seq a b) s = qcP (qx base call b) (qx base call a s):=by
 apply Option.ext
 intro x
 rw [qav]
 constructor
 ·rintro ⟨n,h⟩
  simp only [qaV] at h
  split at h
  ·rename_i heq
   rw [(qav _).2 ⟨n,heq⟩]
   exact (qav _).2 ⟨n,h⟩
  ·rename_i hne
   rw [(qav _).2 ⟨n,h⟩]
   unfold qcP
   split
   ·rename_i heq;cases heq;exact absurd h (hne _)
   ·rfl
 ·intro h
  unfold qcP at h
  split at h
  ·rename_i heq
   obtain ⟨n1,h1⟩:=(qav _).1 heq
   obtain ⟨n2,h2⟩:=(qav _).1 h
   refine ⟨max n1 n2,?_⟩
   simp only [qaV]
   rw [qI (CLe.refl _) (Nat.le_max_left n1 n2) _ _ _ h1]
   exact qI (CLe.refl _) (Nat.le_max_right n1 n2) _ _ _ h2
  ·rename_i hne
   obtain ⟨n1,h1⟩:=(qav _).1 h
   refine ⟨n1,?_⟩
   simp only [qaV]
   rw [h1]
   split
   ·rename_i heq;cases heq;exact absurd h (hne _)
   ·rfl
theorem qkV (q:qn) (a b:qF) (s:St):qx base call (.cond q a b) s = match ev s.t q with
  | .bool true=>qx base call a s
  | .bool false=>qx base call b s
  | _=>none:=by
 simp only [qx,qaV]
 generalize ev s.t q = v
 cases v with
 | bool b=>cases b <;> rfl
 | _=>exact qcM _
def qe4 (id:Nat):Option (Ex×St)→Option (Ex×St)
 | some (.exit j,s)=>if j = id then some (.nor,s) else some (.exit j,s)
 | r=>r
theorem qiG (id:Nat) (b:qF) (s:St):qx base call (.block id b) s = qe4 id (qx base call b s):=by
 apply Option.ext
 intro x
 rw [qav]
 constructor
 ·rintro ⟨n,h⟩
  simp only [qaV] at h
  split at h
  ·rename_i heq
   rw [(qav _).2 ⟨n,heq⟩]
   exact h
  ·rename_i hne
   rw [(qav _).2 ⟨n,h⟩]
   unfold qe4
   split
   ·rename_i heq;cases heq;exact absurd h (hne _ _)
   ·rfl
 ·intro h
  unfold qe4 at h
  split at h
  ·rename_i heq
   obtain ⟨n1,h1⟩:=(qav _).1 heq
   refine ⟨n1,?_⟩
   simp only [qaV]
   rw [h1]
   exact h
  ·rename_i hne
   obtain ⟨n1,h1⟩:=(qav _).1 h
   refine ⟨n1,?_⟩
   simp only [qaV]
   rw [h1]
   split
   ·rename_i heq;cases heq;exact absurd h (hne _ _)
   ·rfl
theorem qcf (b:qF) (s:St):qx base call (.loop b) s = qcP (qx base call (.loop b)) (qx base call b s):=by
 apply Option.ext
 intro x
 rw [qav]
 constructor
 ·rintro ⟨n,h⟩
  simp only [qaV] at h
  cases n with
  | zero=>cases h
  | succ n=>
   simp only [iter] at h
   split at h
   ·rename_i heq
    rw [(qav _).2 ⟨n + 1,heq⟩]
    exact (qav _).2 ⟨n + 1,qdi (fun s=>Le.refl _) n (n + 1) (by omega) _ _ h⟩
   ·rename_i hne
    rw [(qav _).2 ⟨n + 1,h⟩]
    unfold qcP
    split
    ·rename_i heq;cases heq;exact absurd h (hne _)
    ·rfl
 ·intro h
  unfold qcP at h
  split at h
  ·rename_i heq
   obtain ⟨n1,h1⟩:=(qav _).1 heq
   obtain ⟨n2,h2⟩:=(qav _).1 h
   refine ⟨max n1 n2 + 1,?_⟩
   simp only [qaV,iter] at h2 ⊢
   rw [qI (CLe.refl _) (show n1 ≤ max n1 n2 + 1 by omega) _ _ _ h1]
   exact qdi (fun s=>qI (CLe.refl _) (show n2 ≤ max n1 n2 + 1 by omega) b s) n2 (max n1 n2) (by omega) _ _ h2
  ·rename_i hne
   obtain ⟨n1,h1⟩:=(qav _).1 h
   refine ⟨n1 + 1,?_⟩
   simp only [qaV,iter]
   rw [qI (CLe.refl _) (Nat.le_succ n1) _ _ _ h1]
   split
   ·rename_i heq;cases heq;exact absurd h (hne _)
   ·rfl
end
section
variable {F:FuncId→Option qw} {X:qfy}
noncomputable def W (F:FuncId→Option qw) (X:qfy):Call:=qpI (run F X)
structure qmT (X:qfy):Prop where
 mono:qvd X
 cont:∀f g,X f = some g→∀c,qdF c→∀aS h x,g (qpI c) aS h = some x→∃k,g (c k) aS h = some x
theorem qvc (hX:qmT X) {fv:qf} {aS:List qf} {h:List qq} (x:qcS×List qq×Bool):W F X fv aS h = some x↔∃n,run F X n fv aS h = some x:=
 qdu (qfv hX.mono) x
theorem qEd (hX:qmT X) {f:FuncId} {first args cap:List qf} {h:List qq} {fn:qw} (h1:X f = none) (h2:F f = some fn) :
  W F X (.fn f first cap) args h = qiD fn h (qx h.length (W F X) fn.code ⟨(first ++ args ++ cap).map qf.dim ++ List.replicate (fn.ntmps - ((first ++ args ++ cap).map qf.dim).length) (.tup []),h,false⟩):=by
 have hch:=qfv (F:=F) hX.mono
 apply Option.ext
 intro x
 rw [qvc hX]
 constructor
 ·rintro ⟨n,hn⟩
  cases n with
  | zero=>cases hn
  | succ n=>
   rw [qu4 h1 h2] at hn
   cases hq:qaV n h.length (run F X n) fn.code ⟨(first ++ args ++ cap).map qf.dim ++ List.replicate (fn.ntmps - ((first ++ args ++ cap).map qf.dim).length) (.tup []),h,false⟩ with
   | none=>rw [hq] at hn;cases hn
   | some y=>
    rw [hq] at hn
    have e:=(qav y).2 ⟨n,qI (qpl hch n) (Nat.le_refl _) _ _ _ hq⟩
    rw [W,e]
    exact hn
 ·intro hn
  cases hq:qx h.length (W F X) fn.code ⟨(first ++ args ++ cap).map qf.dim ++ List.replicate (fn.ntmps - ((first ++ args ++ cap).map qf.dim).length) (.tup []),h,false⟩ with
  | none=>rw [hq] at hn;cases hn
  | some y=>
   rw [hq] at hn
   obtain ⟨k,hk⟩:=(qav y).1 hq
   obtain ⟨m,hm⟩:=qaK hch _ _ _ hk
   refine ⟨max k m + 1,?_⟩
   rw [qu4 h1 h2,qI (hch m _ (Nat.le_max_right k m)) (Nat.le_max_left k m) _ _ _ hm]
   exact hn
theorem qin (hX:qmT X) {f:FuncId} {first args cap:List qf} {h:List qq} {g:Call→List qf→List qq→Option (qcS×List qq×Bool)} (h1:X f = some g) :
  W F X (.fn f first cap) args h = g (W F X) (first ++ args ++ cap) h:=by
 have hch:=qfv (F:=F) hX.mono
 apply Option.ext
 intro x
 rw [qvc hX]
 constructor
 ·rintro ⟨n,hn⟩
  cases n with
  | zero=>cases hn
  | succ n=>
   rw [qqO h1] at hn
   exact hX.mono f g h1 _ _ (qpl hch n) _ _ _ hn
 ·intro hn
  obtain ⟨k,hk⟩:=hX.cont f g h1 _ hch _ _ _ hn
  exact ⟨k + 1,by rw [qqO h1];exact hk⟩
end
end Go.AE
namespace Go.AE
def lkp (t:List qf) (i:Nat):qf:=t.getD i .undef
section
variable {base:Nat} {call:Call} {p:qcj} {s:St} {t:List qf} {h:List qq}
theorem qEv (t:List qf) (i:Nat):ev t (.t i) = (lkp t i).dim:=rfl
theorem qEu (t:List qf) (v:qf):ev t (.c v) = v.dim:=rfl
theorem qCO (t:List qf) (i:Nat):raw t (.t i) = lkp t i:=rfl
theorem qCN (t:List qf) (v:qf):raw t (.c v) = v:=rfl
def up (t:List qf) (i:Nat) (v:qf):List qf:=t.set i v
theorem qh (t:List qf) (i:Nat) (v:qf):(up t i v).length = t.length:=by simp [up]
theorem qwO {i:Nat} {v:qf} (h:i < t.length):lkp (up t i v) i = v:=by simp [lkp,up,List.getD,h]
theorem qwP {i j:Nat} {v:qf} (h:i ≠ j):lkp (up t i v) j = lkp t j:=by simp [lkp,up,List.getD,List.getElem?_set_ne h]
theorem qpN (a:qf) (t:List qf):lkp (a :: t) 0 = a:=rfl
theorem qpM (a:qf) (t:List qf) (i:Nat):lkp (a :: t) (i + 1) = lkp t i:=rfl
theorem qt0 (d:Nat) (v:qf) (t:List qf):put (some d) v t = up t d v:=rfl
theorem qtZ (v:qf) (t:List qf):put none v t = t:=rfl
theorem qnE:qf.undef.dim = .undef:=rfl
theorem qrX (b:Bool):(qf.bool b).dim = .bool b:=rfl
theorem qv2 (k:IntKind) (n:Int):(qf.int k n).dim = .int k n:=rfl
theorem qv5 (s:List UInt8):(qf.str s).dim = .str s:=rfl
theorem qkK:qf.nilptr.dim = .nilptr:=rfl
theorem qv4 (i o:Nat):(qf.ptr i o).dim = .ptr i o:=rfl
theorem qrZ (cs:List qf) (o:Nat):(qf.iptr cs o).dim = .iptr cs o:=rfl
theorem qyG (xs:List qf):(qf.lst xs .no).dim = .lst xs .no:=rfl
theorem qrY (xs:List qf):(qf.lst xs .full).dim = .lst xs .full:=rfl
theorem qv3 (xs:List qf) (k:Nat):(qf.lst xs (.own k)).dim = .lst xs .no:=rfl
theorem qiA:qf.nilfunc.dim = .nilfunc:=rfl
theorem qyE (f:FuncId) (a b:List qf):(qf.fn f a b).dim = .fn f a b:=rfl
theorem qv7 (i:Nat):(qf.yld i).dim = .yld i:=rfl
theorem qhr:qf.niliface.dim = .niliface:=rfl
theorem qnD (t:TypeId) (v:qf):(qf.iface t v).dim = .iface t v:=rfl
theorem qv1 (cs:List qf):(qf.agg cs).dim = .agg cs:=rfl
theorem qv6 (cs:List qf):(qf.tup cs).dim = .tup cs:=rfl
def qfl (dst:Option Nat) (s:St):Option qf→Option (Ex×St)
 | some v=>some (.nor,{ s with t:=put dst v s.t})
 | none=>none
theorem qqE (dst:Option Nat) (t:List qf) (h:List qq) (e:Bool) (v:qf):qfl dst ⟨t,h,e⟩ (some v) = some (.nor,⟨put dst v t,h,e⟩):=rfl
theorem qrf (f:St→Option (Ex×St)) (s:St):qcP f (some (.ret,s)) = some (.ret,s):=rfl
theorem qmA (f:St→Option (Ex×St)) (id:Nat) (s:St):qcP f (some (.exit id,s)) = some (.exit id,s):=rfl
theorem qre (f:St→Option (Ex×St)) (v:qf) (s:St):qcP f (some (.pan v,s)) = some (.pan v,s):=rfl
theorem qkB (id:Nat) (s:St):qe4 id (some (.nor,s)) = some (.nor,s):=rfl
theorem qkD (id:Nat) (s:St):qe4 id (some (.ret,s)) = some (.ret,s):=rfl
theorem qkC (id:Nat) (v:qf) (s:St):qe4 id (some (.pan v,s)) = some (.pan v,s):=rfl
theorem qir (id j:Nat) (s:St):qe4 id (some (.exit j,s)) = if j = id then some (.nor,s) else some (.exit j,s):=rfl
def qvQ (v:qf) (a b:Option (Ex×St)):Option (Ex×St):=
 match v with
 | .bool true=>a
 | .bool false=>b
 | _=>none
theorem qsC (q:qn) (a b:qF) (s:St):qx base call (.cond q a b) s = qvQ (ev s.t q) (qx base call a s) (qx base call b s):=qkV q a b s
def qjV (v:qf) (b:Bool) (yes no:Option (Ex×St)):Option (Ex×St):=
 match v with
 | .bool c=>if c == b then yes else no
 | .tup []=>no
 | _=>none
theorem qxz:qaM base call p [] s = some (.nor,s):=rfl
theorem qkb (d:Option Nat) (o:AOp) (os:List qae):qaM base call p (⟨d,o,none⟩ :: os) s = qcP (qaM base call (qaH p ⟨d,o,none⟩) os) (qz base call p d o s):=by
 simp only [qaM,wanted]
 unfold qcP
 split <;> split <;> simp_all
theorem qh0 (d:Option Nat) (o:AOp) (j:Nat) (b:Bool) (os:List qae) :
  qaM base call p (⟨d,o,some (j,b)⟩ :: os) s = qjV (lkp s.t j) b (qcP (qaM base call (qaH p ⟨d,o,some (j,b)⟩) os) (qz base call p d o s))
   (qaM base call (qaH p { dst:=d,op:=.pick (.c .undef) (.c .undef) (.c .undef),guard:=some (j,b)}) os { s with t:=put d (.tup []) s.t}):=by
 simp only [qaM,wanted,lkp]
 generalize s.t.getD j .undef = v
 cases v with
 | bool c=>
  simp only [qjV]
  cases hc:c == b with
  | false=>simp
  | true=>
   simp only [if_true]
   unfold qcP
   split <;> split <;> simp_all
 | tup vs=>cases vs <;> rfl
 | _=>rfl
theorem qzL (d:Option Nat) (x:qn):qz base call p d (.mov x) s = some (.nor,{ s with t:=put d (ev s.t x) s.t}):=rfl
theorem qzE (d:Option Nat) (x:qn):qz base call p d (.asg x) s = some (.nor,{ s with t:=put d (raw s.t x) (qaE s.t x)}):=rfl
def qcc (v a b:qf):Option qf:=
 match v with
 | .bool true=>some a
 | .bool false=>some b
 | _=>none
theorem qmb (a b:qf):qcc (.bool true) a b = some a:=rfl
theorem qjk (a b:qf):qcc (.bool false) a b = some b:=rfl
theorem qp8 (d:Option Nat) (c a b:qn):qz base call p d (.pick c a b) s = qfl d s (qcc (ev s.t c) (ev s.t a) (ev s.t b)):=by
 simp only [qz,pureV]
 generalize ev s.t c = v
 cases v with
 | bool b=>cases b <;> rfl
 | _=>rfl
theorem qaX (d:Option Nat) (o:AOp) (ho:o.effs = false) (h1:∀cs,o ≠ .new cs) (h2:∀k x,o ≠ .box k x) (h3:∀k x,o ≠ .ld k x) (h4:∀sh z ok m key,o ≠ .lk sh z ok m key:=by simp):qz base call p d o s = qfl d s (pureV s.t o):=by
 cases o <;> first | exact absurd rfl (h4 _ _ _ _ _) | (simp [AOp.effs] at ho h1 h2 h3 <;> (simp only [qz];cases pureV s.t _ <;> rfl))
def faV (off:Nat):qf→Option qf
 | .ptr i o=>some (.ptr i (o + off))
 | .iptr cs o=>some (.iptr cs (o + off))
 | _=>none
theorem qwk (off i o:Nat):faV off (.ptr i o) = some (.ptr i (o + off)):=rfl
theorem qsH (off o:Nat) (cs:List qf):faV off (.iptr cs o) = some (.iptr cs (o + off)):=rfl
theorem qzH (d:Option Nat) (off:Nat) (a:qn):qz base call p d (.fa off a) s = qfl d s (faV off (ev s.t a)):=by
 rw [qaX _ _ rfl (by simp) (by simp) (by simp)]
 simp only [pureV]
 cases ev s.t a <;> rfl
theorem quS (d:Option Nat) (op:BinOp) (x y:qn):qz base call p d (.bin op x y) s = qfl d s (qcd op (ev s.t x) (ev s.t y)):=qaX _ _ rfl (by simp) (by simp) (by simp)
theorem qzO (d:Option Nat) (op:UnOp) (x:qn):qz base call p d (.un op x) s = qfl d s (unV op (ev s.t x)):=qaX _ _ rfl (by simp) (by simp) (by simp)
def qgg:qf→Option qf
 | .ptr i o=>some (.ptr i o)
 | .iptr cs o=>some (.iptr cs o)
 | .fn f a b=>some (.fn f a b)
 | .yld l=>some (.yld l)
 | .iface u v=>some (.iface u v)
 | _=>none
theorem qp7 (d:Option Nat) (x:qn):qz base call p d (.nilc x) s = qfl d s (qgg (ev s.t x)):=by
 rw [qaX _ _ rfl (by simp) (by simp) (by simp)]
 simp only [pureV]
 cases ev s.t x <;> rfl
theorem qp4 (i o:Nat):qgg (.ptr i o) = some (.ptr i o):=rfl
theorem ql3 (cs:List qf) (o:Nat):qgg (.iptr cs o) = some (.iptr cs o):=rfl
def qmK (b:Bool) (v:qf):Option qf:=
 match b,v with
 | true,.str s=>some (.int .i64 s.length)
 | false,.lst xs _=>some (.int .i64 xs.length)
 | false,.sl _ _ len _ _=>some (.int .i64 len)
 | false,.nils=>some (.int .i64 0)
 | false,.empt=>some (.int .i64 0)
 | _,_=>none
theorem qu0 (d:Option Nat) (b:Bool) (x:qn):qz base call p d (.len b x) s = qfl d s (qmK b (ev s.t x)):=by
 rw [qaX _ _ rfl (by simp) (by simp) (by simp)]
 cases b <;> simp only [pureV] <;> cases ev s.t x <;> rfl
theorem qth (s:List UInt8):qmK true (.str s) = some (.int .i64 s.length):=rfl
theorem qtg (xs:List qf) (f:qf9):qmK false (.lst xs f) = some (.int .i64 xs.length):=rfl
def qa3 (k:Nat) (s i:qf):Option qf:=
 match s,i with
 | .lst xs _,.int _ n=>
  if 0 ≤ n∧n < xs.length then
   match xs[n.toNat]? with
   | some x=>if x.cells.length = k then some (.iptr x.cells 0) else none
   | none=>none
  else none
 | .sl id o len _ _,.int _ n=>if 0 ≤ n∧n < len then some (.ptr id (o + n.toNat * k)) else none
 | _,_=>none
theorem qp6 (d:Option Nat) (k:Nat) (x i:qn):qz base call p d (.ixaL k x i) s = qfl d s (qa3 k (ev s.t x) (ev s.t i)):=by
 rw [qaX _ _ rfl (by simp) (by simp) (by simp)]
 simp only [pureV]
 cases ev s.t x <;> cases ev s.t i <;> rfl
theorem qu {k:Nat} {xs:List qf} {f:qf9} {j:IntKind} {n:Nat} {x:qf} (hx:xs[n]? = some x) (hk:x.cells.length = k):qa3 k (.lst xs f) (.int j n) = some (.iptr x.cells 0):=by
 have hn:n < xs.length:=(List.getElem?_eq_some_iff.1 hx).1
 simp only [qa3,Int.toNat_natCast,hx]
 rw [if_pos ⟨by omega,by omega⟩,if_pos hk]
def qsI (off:Nat) (k:Option Nat):qf→Option qf
 | .agg cs=>cut cs off k
 | _=>none
theorem qsJ (off:Nat) (k:Option Nat) (cs:List qf):qsI off k (.agg cs) = cut cs off k:=rfl
theorem quX (d:Option Nat) (off:Nat) (k:Option Nat) (x:qn):qz base call p d (.fld off k x) s = qfl d s (qsI off k (ev s.t x)):=by
 rw [qaX _ _ rfl (by simp) (by simp) (by simp)]
 simp only [pureV]
 cases ev s.t x <;> rfl
theorem qtD (d:Option Nat) (z:List qf) (ps:List (Nat×Nat×qn)):qz base call p d (.build z ps) s = qfl d s ((qb0 z (ps.map fun (o,n,x)=>(o,n,ev s.t x))).map .agg):=qaX _ _ rfl (by simp) (by simp) (by simp)
theorem qzM (d:Option Nat) (cs:List qf):qz base call p d (.new cs) s = some (.nor,{ s with t:=put d (.ptr s.h.length 0) s.t,h:=s.h ++ [.cells (cs.map qf.dim)]}):=rfl
theorem qzI (d:Option Nat) (k:Option Nat) (a:qn):qz base call p d (.ld k a) s = qfl d s (qcZ s.h (ev s.t a) k):=by
 simp only [qz]
 cases qcZ s.h (ev s.t a) k <;> rfl
theorem qpj (cs:List qf) (o:Nat) (k:Option Nat):qcZ h (.iptr cs o) k = cut cs o k:=rfl
theorem qjL (cs:List qf) (o:Nat):cut cs o none = (cs[o]?).map qf.dim:=rfl
theorem qjM {cs:List qf} {o k:Nat} (h:o + k ≤ cs.length):cut cs o (some k) = some (.agg (((cs.drop o).take k).map qf.dim)):=if_pos h
def stV (base:Nat) (k:Option Nat) (a v:qf) (h:List qq):Option (List qq×Bool):=
 match a with
 | .ptr id o=>
  match h[id]? with
  | some (.cells cs)=>
   let vs:=match k with | none=>[v] | some _=>v.dim.cells.map qf.dim
   if vs.length = k.getD 1∧o + vs.length ≤ cs.length∧vs.all qf.storable then
    some (h.set id (.cells (splice cs o vs)),!(Nat.ble base id || qN (id + 1) vs))
   else none
  | _=>none
 | _=>none
def stW (d:Option Nat) (t:List qf) (e:Bool):Option (List qq×Bool)→Option (Ex×St)
 | some (h,e')=>some (.nor,{ t:=put d .undef t,h,e:=e || e'})
 | none=>none
theorem qua (d:Option Nat) (t:List qf) (e e':Bool) (h:List qq):stW d t e (some (h,e')) = some (.nor,⟨put d .undef t,h,e || e'⟩):=rfl
theorem qCI (d:Option Nat) (k:Option Nat) (a x:qn):qz base call p d (.st k a x) s = stW d (qaE s.t x) s.e (stV base k (ev s.t a) (raw s.t x) s.h):=by
 simp only [qz,stV]
 cases ev s.t a with
 | ptr id o=>
  simp only
  cases s.h[id]? with
  | none=>rfl
  | some b=>
   cases b with
   | cells cs=>cases k <;> (simp only;split <;> rfl)
   | _=>rfl
 | _=>rfl
end
end Go.AE
namespace Go.AE
section
variable {base:Nat} {call:Call} {p:qcj} {s:St} {t:List qf} {h:List qq}
def qvL (d:Option Nat) (s:St):Option (qcS×List qq×Bool)→Option (Ex×St)
 | some (.ret v,h,e)=>some (.nor,{ t:=put d v.dim s.t,h,e:=s.e || e})
 | some (.pan v,h,e)=>some (.pan v,{ s with h,e:=s.e || e})
 | none=>none
theorem qxw (d:Option Nat) (f:qn) (args:List qn):qz base call p d (.call f args) s = qvL d s (call (ev s.t f) (args.map (ev s.t)) s.h):=by
 simp only [qz]
 cases call (ev s.t f) (args.map (ev s.t)) s.h with
 | none=>rfl
 | some r=>obtain ⟨r,h,e⟩:=r;cases r <;> rfl
theorem qnc (d:Option Nat) (t:List qf) (h h':List qq) (e e':Bool) (v:qf):qvL d ⟨t,h,e⟩ (some (.ret v,h',e')) = some (.nor,⟨put d v.dim t,h',e || e'⟩):=rfl
theorem qnb (d:Option Nat) (t:List qf) (h h':List qq) (e e':Bool) (v:qf):qvL d ⟨t,h,e⟩ (some (.pan v,h',e')) = some (.pan v,⟨t,h',e || e'⟩):=rfl
theorem qbD (h l:List qq):(h ++ l)[h.length]? = l[0]?:=by rw [List.getElem?_append_right (Nat.le_refl _),Nat.sub_self]
theorem qcY (h l:List qq) (k:Nat):(h ++ l)[h.length + k]? = l[k]?:=by rw [List.getElem?_append_right (by omega),Nat.add_sub_cancel_left]
theorem qu5 (h l:List qq) (b:qq):(h ++ l).set h.length b = h ++ l.set 0 b:=by rw [List.set_append_right _ _ (Nat.le_refl _),Nat.sub_self]
theorem qg2 (h l:List qq) (k:Nat) (b:qq):(h ++ l).set (h.length + k) b = h ++ l.set k b:=by rw [List.set_append_right _ _ (by omega),Nat.add_sub_cancel_left]
theorem qwt {h l:List qq} {i:Nat} (hi:i < h.length):(h ++ l)[i]? = h[i]?:=List.getElem?_append_left hi
theorem qxQ {h l:List qq} {i:Nat} {b:qq} (hi:i < h.length):(h ++ l).set i b = h.set i b ++ l:=List.set_append_left _ _ hi
theorem qpn {n:Nat} {h l:List qq} {v:qf} (hl:h.length = n) (hv:v.lower n = true):leave n (.ret v) (h ++ l) false = (.ret v,h,false):=by subst hl;simp [leave,hv]
theorem qlK {n:Nat} {h:List qq} {v:qf} (hl:h.length = n) (hv:v.lower n = true):leave n (.ret v) h false = (.ret v,h,false):=by subst hl;simp [leave,hv]
theorem qpm {n:Nat} {h l:List qq} {v:qf} (hl:h.length = n) (hv:v.lower n = true):leave n (.pan v) (h ++ l) false = (.pan v,h,false):=by subst hl;simp [leave,hv]
theorem qlJ {n:Nat} {h:List qq} {v:qf} (hl:h.length = n) (hv:v.lower n = true):leave n (.pan v) h false = (.pan v,h,false):=by subst hl;simp [leave,hv]
theorem qac {n:Nat} {H h:List qq} {v:qf} (hc:H.take n = h) (hv:v.lower n = true):leave n (.ret v) H false = (.ret v,h,false):=by simp [leave,hv,hc]
theorem qqV (h:List qq) (i:Nat) (a b:qq):(h.set i a).set i b = h.set i b:=List.set_set ..
theorem qiN {h l:List qq} {n:Nat} (hl:h.length = n):(h ++ l)[n]? = l[0]?:=by subst hl;exact qbD h l
theorem qxP {h l:List qq} {n:Nat} {b:qq} (hl:h.length = n):(h ++ l).set n b = h ++ l.set 0 b:=by subst hl;exact qu5 h l b
theorem qon {h l:List qq} {n k:Nat} (hl:h.length = n):(h ++ l)[n + k]? = l[k]?:=by subst hl;exact qcY h l k
theorem qqU {h l:List qq} {n k:Nat} {b:qq} (hl:h.length = n):(h ++ l).set (n + k) b = h ++ l.set k b:=by subst hl;exact qg2 h l k b
theorem qk3 {h:List qq} {i j:Nat} {b:qq} (hij:i ≠ j):(h.set i b)[j]? = h[j]?:=List.getElem?_set_ne hij
theorem qwu {h:List qq} {i:Nat} {b:qq} (hi:i < h.length):(h.set i b)[i]? = some b:=List.getElem?_set_self hi
end
end Go.AE
namespace Go.AE
section
variable {base:Nat} {call:Call} {p:qcj} {s:St}
def qDp (d:Option Nat) (s:St) (k:Nat) (vs:List qf):Option (Ex×St):=
 if vs.length = k∧vs.all qf.storable then some (.nor,{ s with t:=put d (.ptr s.h.length 0) s.t,h:=s.h ++ [.cells vs]}) else none
theorem qzF (d:Option Nat) (k:Nat) (x:qn):qz base call p d (.box k x) s = qDp d s k ((ev s.t x).cells.map qf.dim):=rfl
theorem qvI (d:Option Nat) (t:List qf) (h:List qq) (e:Bool) (k:Nat) (vs:List qf):qDp d ⟨t,h,e⟩ k vs = if vs.length = k∧vs.all qf.storable then some (.nor,⟨put d (.ptr h.length 0) t,h ++ [.cells vs],e⟩) else none:=rfl
def qrq (ty:TypeId) (v:qf):Option qf:=
 match v with
 | .undef=>none
 | v=>some (.iface ty v)
theorem qu1 (d:Option Nat) (ty:TypeId) (x:qn):qz base call p d (.mkI ty x) s = qfl d s (qrq ty (ev s.t x)):=by
 rw [qaX _ _ rfl (by simp) (by simp) (by simp)]
 simp only [pureV]
 cases ev s.t x <;> rfl
theorem qtr (ty:TypeId) (cs:List qf):qrq ty (.agg cs) = some (.iface ty (.agg cs)):=rfl
theorem qts (ty:TypeId) (k:IntKind) (n:Int):qrq ty (.int k n) = some (.iface ty (.int k n)):=rfl
theorem qzJ (d:Option Nat) (f:FuncId) (a b:List qn):qz base call p d (.mkF f a b) s = some (.nor,{ s with t:=put d (.fn f (a.map (ev s.t)) (b.map (ev s.t))) s.t}):=rfl
def qha (s i:qf):Option qf:=
 match s,i with
 | .str l,.int _ n=>if 0 ≤ n then (l[n.toNat]?).map fun b=>.int .u8 b.toNat else none
 | _,_=>none
theorem quZ (d:Option Nat) (x i:qn):qz base call p d (.ixS x i) s = qfl d s (qha (ev s.t x) (ev s.t i)):=by
 rw [qaX _ _ rfl (by simp) (by simp) (by simp)]
 simp only [pureV]
 cases ev s.t x <;> cases ev s.t i <;> rfl
theorem qjX {l:List UInt8} {k:IntKind} {n:Nat} {b:UInt8} (h:l[n]? = some b):qha (.str l) (.int k n) = some (.int .u8 b.toNat):=by
 simp only [qha,Int.toNat_natCast,h,Option.map_some]
 rw [if_pos (Int.natCast_nonneg n)]
def qsF (i:Nat) (v:qf):Option qf:=
 match v with
 | .tup vs=>(vs[i]?).map qf.dim
 | _=>none
theorem quW (d:Option Nat) (x:qn) (i:Nat):qz base call p d (.ext x i) s = qfl d s (qsF i (ev s.t x)):=by
 rw [qaX _ _ rfl (by simp) (by simp) (by simp)]
 simp only [pureV]
 cases ev s.t x <;> rfl
theorem qsG (i:Nat) (vs:List qf):qsF i (.tup vs) = (vs[i]?).map qf.dim:=rfl
def qiF (neg:Bool) (x y:qf):Option qf:=
 match x,y with
 | .bool a,.bool b=>some (.bool ((a == b) != neg))
 | _,_=>none
theorem quU (d:Option Nat) (neg:Bool) (x y:qn):qz base call p d (.eqb neg x y) s = qfl d s (qiF neg (ev s.t x) (ev s.t y)):=by
 rw [qaX _ _ rfl (by simp) (by simp) (by simp)]
 simp only [pureV]
 cases ev s.t x <;> cases ev s.t y <;> rfl
theorem qn6 (neg a b:Bool):qiF neg (.bool a) (.bool b) = some (.bool ((a == b) != neg)):=rfl
def qjR (k:Nat) (neg:Bool) (x y:qf):Option qf:=(qyc k x y).map fun b=>.bool (b != neg)
theorem quV (d:Option Nat) (k:Nat) (neg:Bool) (x y:qn):qz base call p d (.eqi k neg x y) s = qfl d s (qjR k neg (ev s.t x) (ev s.t y)):=qaX _ _ rfl (by simp) (by simp) (by simp)
def qrR (k:IntKind) (v:qf):Option qf:=
 match v with
 | .int _ n=>some (.int k (k.wrap n))
 | _=>none
theorem quT (d:Option Nat) (k:IntKind) (x:qn):qz base call p d (.cvi k x) s = qfl d s (qrR k (ev s.t x)):=by
 rw [qaX _ _ rfl (by simp) (by simp) (by simp)]
 simp only [pureV]
 cases ev s.t x <;> rfl
theorem qrS (k j:IntKind) (n:Int):qrR k (.int j n) = some (.int k (k.wrap n)):=rfl
def qD3:qf→Option qf
 | .lst xs _=>(qeM xs).map .str
 | _=>none
theorem qzG (d:Option Nat) (x:qn):qz base call p d (.cvt x) s = qfl d s (qD3 (ev s.t x)):=by
 rw [qaX _ _ rfl (by simp) (by simp) (by simp)]
 simp only [pureV]
 cases ev s.t x <;> rfl
theorem qrT (n:Int) (f:qf9):qD3 (.lst [.int .u8 n] f) = some (.str [UInt8.ofNat n.toNat]):=rfl
def mmV (isMax:Bool) (x y:qf):Option qf:=
 match x,y with
 | .int k a,.int _ b=>some (.int k (if isMax then (if b > a then b else a) else (if b < a then b else a)))
 | _,_=>none
theorem qzK (d:Option Nat) (m:Bool) (x y:qn):qz base call p d (.mm m x y) s = qfl d s (mmV m (ev s.t x) (ev s.t y)):=by
 rw [qaX _ _ rfl (by simp) (by simp) (by simp)]
 simp only [pureV]
 cases ev s.t x <;> cases ev s.t y <;> rfl
theorem qpZ (k j:IntKind) (a b:Int):mmV true (.int k a) (.int j b) = some (.int k (if b > a then b else a)):=rfl
theorem qzq (k j:IntKind) (a b:Nat):mmV true (.int k (a:Int)) (.int j (b:Int)) = some (.int k ((max a b:Nat):Int)):=by
 simp only [mmV,if_true]
 congr 2
 split <;> omega
theorem qwS (k j:IntKind) (a b:Int):mmV false (.int k a) (.int j b) = some (.int k (if b < a then b else a)):=rfl
def qD7 (s:St) (v:qf):Option (Ex×St):=
 match v with
 | .iface u v=>some (.pan (.iface u v),s)
 | _=>none
theorem qzN (d:Option Nat) (x:qn):qz base call p d (.pan x) s = qD7 s (ev s.t x):=by
 simp only [qz]
 cases ev s.t x <;> rfl
theorem ql8 (s:St) (u:TypeId) (v:qf):qD7 s (.iface u v) = some (.pan (.iface u v),s):=rfl
end
end Go.AE
namespace Go.AE
section
variable {base:Nat} {call:Call} {p:qcj} {s:St}
def qhJ (len:Nat) (k:Option Nat) (a i:qf):Option qf:=
 match a,i with
 | .agg cs,.int _ n=>if 0 ≤ n∧n < (len:Int) then cut cs (n.toNat * k.getD 1) k else none
 | _,_=>none
theorem quY (d:Option Nat) (len:Nat) (k:Option Nat) (a i:qn):qz base call p d (.ixA len k a i) s = qfl d s (qhJ len k (ev s.t a) (ev s.t i)):=by
 rw [qaX _ _ rfl (by simp) (by simp) (by simp)]
 simp only [pureV]
 cases ev s.t a <;> cases ev s.t i <;> rfl
theorem qs9 {len n:Nat} {j:IntKind} {cs:List qf} {v:qf} (hn:n < len) (hv:cs[n]? = some v):qhJ len none (.agg cs) (.int j n) = some v.dim:=by
 simp only [qhJ]
 rw [if_pos ⟨by omega,by omega⟩]
 simp only [Int.toNat_natCast,Option.getD_none,Nat.mul_one,qjL,hv,Option.map_some]
end
end Go.AE
namespace Go.AE
section
variable {base:Nat} {call:Call} {p q:qcj} {s:St} {t:List qf} {h:List qq}
def AOp.isApp:AOp→Bool
 | .app ..=>true
 | _=>false
def qe:List qae→Bool
 | []=>true
 | o :: os=>!o.op.isApp && qe os
def qd (s:St):AOp→Option qf
 | .mov x=>some (ev s.t x)
 | .pick c a b=>qcc (ev s.t c) (ev s.t a) (ev s.t b)
 | .ld k a=>qcZ s.h (ev s.t a) k
 | .bin op x y=>qcd op (ev s.t x) (ev s.t y)
 | .un op x=>unV op (ev s.t x)
 | .fa off a=>faV off (ev s.t a)
 | .nilc x=>qgg (ev s.t x)
 | .len b x=>qmK b (ev s.t x)
 | .ixaL k x i=>qa3 k (ev s.t x) (ev s.t i)
 | .fld off k x=>qsI off k (ev s.t x)
 | .ixS x i=>qha (ev s.t x) (ev s.t i)
 | .ixA l k a i=>qhJ l k (ev s.t a) (ev s.t i)
 | .ext x i=>qsF i (ev s.t x)
 | .eqb n x y=>qiF n (ev s.t x) (ev s.t y)
 | .eqi k n x y=>qjR k n (ev s.t x) (ev s.t y)
 | .cvi k x=>qrR k (ev s.t x)
 | .mm m x y=>mmV m (ev s.t x) (ev s.t y)
 | .mkI t x=>qrq t (ev s.t x)
 | .lk sh z ok m key=>qj5 s.h sh z ok (ev s.t m) (ev s.t key)
 | o=>pureV s.t o
def AOp.plain:AOp→Bool
 | .asg .. | .new .. | .box .. | .st .. | .call .. | .app .. | .pan .. | .hx ..=>false
 | _=>true
theorem qjs {d:Option Nat} {o:AOp} (ho:o.plain = true):qz base call p d o s = qfl d s (qd s o):=by
 cases o <;> simp only [AOp.plain,Bool.false_eq_true] at ho
 case mov=>rfl
 case pick=>exact qp8 _ _ _ _
 case ld=>exact qzI _ _ _
 case bin=>exact quS _ _ _ _
 case un=>exact qzO _ _ _
 case fa=>exact qzH _ _ _
 case nilc=>exact qp7 _ _
 case len=>exact qu0 _ _ _
 case ixaL=>exact qp6 _ _ _ _
 case fld=>exact quX _ _ _ _
 case ixS=>exact quZ _ _ _
 case ixA=>exact quY _ _ _ _ _
 case ext=>exact quW _ _ _
 case eqb=>exact quU _ _ _ _
 case eqi=>exact quV _ _ _ _ _
 case cvi=>exact quT _ _ _
 case mm=>exact qzK _ _ _ _
 case mkI=>exact qu1 _ _ _
 case lk sh z ok m key=>simp only [qz,qd];generalize qj5 s.h sh z ok (ev s.t m) (ev s.t key) = r;cases r <;> rfl
 all_goals (simp only [qz,qd];generalize pureV s.t _ = r;cases r <;> rfl)
theorem qgx {d:Option Nat} {o:AOp} (ho:o.isApp = false):qz base call p d o s = qz base call q d o s:=by
 cases o <;> first | rfl | (simp [AOp.isApp] at ho)
def gv (q:Bool) (v:qf):qf:=bif q then v else .tup []
def qv (q:Bool) (d:Option Nat) (s:St) (r:Option qf) (k:St→Option (Ex×St)):Option (Ex×St):=
 bif q then (match r with | some v=>k { s with t:=put d v s.t} | none=>none) else k { s with t:=put d (.tup []) s.t}
def qaz (c:Bool) (r:Option qf):Option qf:=bif c then r else some (.tup [])
def qfP (g:qf) (b:Bool) (d:Option Nat) (s:St) (r:Option qf) (k:St→Option (Ex×St)):Option (Ex×St):=
 match g with
 | .bool c=>qv (c == b) d s r k
 | .tup []=>qv false d s r k
 | _=>none
def qfO (g:qf) (b:Bool) (d:Option Nat) (s:St) (r:Option (Ex×St)) (k:St→Option (Ex×St)):Option (Ex×St):=
 match g with
 | .bool c=>bif c == b then qcP k r else k { s with t:=put d (.tup []) s.t}
 | .tup []=>k { s with t:=put d (.tup []) s.t}
 | _=>none
def qh7 (base:Nat) (call:Call):List qae→St→Option (Ex×St)
 | [],s=>some (.nor,s)
 | o :: os,s=>
  match o.guard with
  | none=>qcP (qh7 base call os) (qz base call [] o.dst o.op s)
  | some (j,b)=>
   match o.op.plain with
   | true=>qfP (lkp s.t j) b o.dst s (qd s o.op) (qh7 base call os)
   | false=>qfO (lkp s.t j) b o.dst s (qz base call [] o.dst o.op s) (qh7 base call os)
theorem qkp:∀(os:List qae) (p:qcj) (s:St),qe os = true→qaM base call p os s = qh7 base call os s
 | [],p,s,_=>rfl
 | o :: os,p,s,hn=>by
  simp only [qe,Bool.and_eq_true,Bool.not_eq_true'] at hn
  obtain ⟨d,op,g⟩:=o
  have ih:=fun p s=>qkp os p s hn.2
  cases g with
  | none=>
   simp only [qkb,qh7]
   rw [qgx (q:=[]) hn.1]
   congr 1
   funext s
   exact ih _ s
  | some jb=>
   obtain ⟨j,b⟩:=jb
   simp only [qh0,qh7]
   have e1:(qaM base call (qaH p ⟨d,op,some (j,b)⟩) os) = qh7 base call os:=funext fun s=>ih _ s
   rw [e1,ih,qgx (q:=[]) hn.1]
   cases hpl:op.plain with
   | true=>
    simp only
    rw [qjs hpl]
    generalize qd s op = r
    generalize lkp s.t j = g
    cases g with
    | bool c=>
     simp only [qjV,qfP,qv]
     cases c == b with
     | true=>cases r <;> rfl
     | false=>rfl
    | tup vs=>cases vs <;> rfl
    | _=>rfl
   | false=>
    simp only
    generalize lkp s.t j = g
    cases g with
    | bool c=>
     simp only [qjV,qfO]
     cases c == b <;> rfl
    | tup vs=>cases vs <;> rfl
    | _=>rfl
theorem qCP {ops:List qae} (hn:qe ops = true):qx base call (.reg ops) s = qh7 base call ops s:=by
 rw [qhy,qkp ops [] s hn]
theorem qxG {ops:List qae} (_hn:qe ops = false):qx base call (.reg ops) s = qaM base call [] ops s:=qhy ops s
theorem qCM:qh7 base call [] s = some (.nor,s):=rfl
theorem qzQ (d:Option Nat) (o:AOp) (os:List qae):qh7 base call (⟨d,o,none⟩ :: os) s = qcP (qh7 base call os) (qz base call [] d o s):=rfl
theorem qxE (d:Option Nat) (o:AOp) (j:Nat) (b:Bool) (os:List qae) (ho:o.plain = true):qh7 base call (⟨d,o,some (j,b)⟩ :: os) s = qfP (lkp s.t j) b d s (qd s o) (qh7 base call os):=by
 simp only [qh7,ho]
theorem qxD (d:Option Nat) (o:AOp) (j:Nat) (b:Bool) (os:List qae) (ho:o.plain = false):qh7 base call (⟨d,o,some (j,b)⟩ :: os) s = qfO (lkp s.t j) b d s (qz base call [] d o s) (qh7 base call os):=by
 simp only [qh7,ho]
theorem qoB (q c b:Bool) (d:Option Nat) (s:St) (r:Option qf) (k:St→Option (Ex×St)):qfP (gv q (.bool c)) b d s r k = qv q d s (qaz (c == b) r) k:=by
 cases q <;> cases c <;> cases b <;> rfl
theorem qlh (q x c b:Bool) (d:Option Nat) (s:St) (r:Option qf) (k:St→Option (Ex×St)):qfP (gv q (gv x (.bool c))) b d s r k = qv q d s (qaz x (qaz (c == b) r)) k:=by
 cases q <;> cases x <;> cases c <;> cases b <;> rfl
theorem qbL (d:Option Nat) (t:List qf) (h:List qq) (e:Bool) (v:qf) (k:St→Option (Ex×St)):qv true d ⟨t,h,e⟩ (some v) k = k ⟨put d v t,h,e⟩:=rfl
theorem qiQ (q:Bool) (d:Nat) (t:List qf) (h:List qq) (e:Bool) (v:qf) (k:St→Option (Ex×St)):qv q (some d) ⟨t,h,e⟩ (some v) k = k ⟨up t d (gv q v),h,e⟩:=by
 cases q <;> rfl
theorem qol (c:Bool) (v:qf):qaz c (some v) = some (gv c v):=by cases c <;> rfl
theorem qlf (b:Bool) (d:Option Nat) (s:St) (r:Option (Ex×St)) (k:St→Option (Ex×St)):qfO (.bool b) b d s r k = qcP k r:=by cases b <;> rfl
theorem qBn (q:Bool) (v:qf):gv q (gv q v) = gv q v:=by cases q <;> rfl
theorem qyF (q:Bool) (v:qf):(gv q v).dim = gv q v.dim:=by cases q <;> rfl
theorem qtK (c x:Bool):qcc (.bool c) (gv c (.bool x)) (.bool false) = some (.bool (c && x)):=by cases c <;> rfl
theorem qxA (c x:Bool):qcc (.bool c) (.bool true) (gv (!c) (.bool x)) = some (.bool (c || x)):=by cases c <;> rfl
theorem qwK (b:Bool):(b == true) = b:=by cases b <;> rfl
theorem qs8 (b:Bool):(b == false) = !b:=by cases b <;> rfl
end
end Go.AE
namespace Go.AE
section
variable {s:St} {d:Option Nat} {k:St→Option (Ex×St)}
theorem qwE (q:Bool) (v:qf) :qv q d s (some (gv q v)) k = qv q d s (some v) k:=by cases q <;> rfl
theorem qvt (c:Bool) (v:qf) :qaz c (some (gv c v)) = qaz c (some v):=by cases c <;> rfl
theorem qoO (q c:Bool) (v:qf) :qv q d s (qaz c (some (gv q v))) k = qv q d s (qaz c (some v)) k:=by cases q <;> rfl
theorem qBq (q:Bool) (v:qf) (h':List qq) (kk:Option Nat):qv q d s (qcZ h' (gv q v) kk) k = qv q d s (qcZ h' v kk) k:=by cases q <;> rfl
theorem qAx (c:Bool) (v:qf) (h':List qq) (kk:Option Nat):qaz c (qcZ h' (gv c v) kk) = qaz c (qcZ h' v kk):=by cases c <;> rfl
theorem qwG (q c:Bool) (v:qf) (h':List qq) (kk:Option Nat):qv q d s (qaz c (qcZ h' (gv q v) kk)) k = qv q d s (qaz c (qcZ h' v kk)) k:=by cases q <;> rfl
theorem qBp (q:Bool) (v:qf) (o:Nat):qv q d s (faV o (gv q v)) k = qv q d s (faV o v) k:=by cases q <;> rfl
theorem qAw (c:Bool) (v:qf) (o:Nat):qaz c (faV o (gv c v)) = qaz c (faV o v):=by cases c <;> rfl
theorem qwF (q c:Bool) (v:qf) (o:Nat):qv q d s (qaz c (faV o (gv q v))) k = qv q d s (qaz c (faV o v)) k:=by cases q <;> rfl
theorem qyY (q:Bool) (v:qf) (b:Bool):qv q d s (qmK b (gv q v)) k = qv q d s (qmK b v) k:=by cases q <;> rfl
theorem qyr (c:Bool) (v:qf) (b:Bool):qaz c (qmK b (gv c v)) = qaz c (qmK b v):=by cases c <;> rfl
theorem qsZ (q c:Bool) (v:qf) (b:Bool):qv q d s (qaz c (qmK b (gv q v))) k = qv q d s (qaz c (qmK b v)) k:=by cases q <;> rfl
theorem qyU (q:Bool) (v:qf) (o:Nat) (kk:Option Nat):qv q d s (qsI o kk (gv q v)) k = qv q d s (qsI o kk v) k:=by cases q <;> rfl
theorem qyn (c:Bool) (v:qf) (o:Nat) (kk:Option Nat):qaz c (qsI o kk (gv c v)) = qaz c (qsI o kk v):=by cases c <;> rfl
theorem qsV (q c:Bool) (v:qf) (o:Nat) (kk:Option Nat):qv q d s (qaz c (qsI o kk (gv q v))) k = qv q d s (qaz c (qsI o kk v)) k:=by cases q <;> rfl
theorem qBs (q:Bool) (v:qf) (op:UnOp):qv q d s (unV op (gv q v)) k = qv q d s (unV op v) k:=by cases q <;> rfl
theorem qAz (c:Bool) (v:qf) (op:UnOp):qaz c (unV op (gv c v)) = qaz c (unV op v):=by cases c <;> rfl
theorem qwI (q c:Bool) (v:qf) (op:UnOp):qv q d s (qaz c (unV op (gv q v))) k = qv q d s (qaz c (unV op v)) k:=by cases q <;> rfl
theorem qwC (q:Bool) (v:qf) :qv q d s (qgg (gv q v)) k = qv q d s (qgg v) k:=by cases q <;> rfl
theorem qvr (c:Bool) (v:qf) :qaz c (qgg (gv c v)) = qaz c (qgg v):=by cases c <;> rfl
theorem qoM (q c:Bool) (v:qf) :qv q d s (qaz c (qgg (gv q v))) k = qv q d s (qaz c (qgg v)) k:=by cases q <;> rfl
theorem qyT (q:Bool) (v:qf) (o:Nat):qv q d s (qsF o (gv q v)) k = qv q d s (qsF o v) k:=by cases q <;> rfl
theorem qym (c:Bool) (v:qf) (o:Nat):qaz c (qsF o (gv c v)) = qaz c (qsF o v):=by cases c <;> rfl
theorem qsU (q c:Bool) (v:qf) (o:Nat):qv q d s (qaz c (qsF o (gv q v))) k = qv q d s (qaz c (qsF o v)) k:=by cases q <;> rfl
theorem qyQ (q:Bool) (v:qf) (ik:IntKind):qv q d s (qrR ik (gv q v)) k = qv q d s (qrR ik v) k:=by cases q <;> rfl
theorem qyj (c:Bool) (v:qf) (ik:IntKind):qaz c (qrR ik (gv c v)) = qaz c (qrR ik v):=by cases c <;> rfl
theorem qsR (q c:Bool) (v:qf) (ik:IntKind):qv q d s (qaz c (qrR ik (gv q v))) k = qv q d s (qaz c (qrR ik v)) k:=by cases q <;> rfl
theorem qyZ (q:Bool) (v:qf) (ty:TypeId):qv q d s (qrq ty (gv q v)) k = qv q d s (qrq ty v) k:=by cases q <;> rfl
theorem qys (c:Bool) (v:qf) (ty:TypeId):qaz c (qrq ty (gv c v)) = qaz c (qrq ty v):=by cases c <;> rfl
theorem qs0 (q c:Bool) (v:qf) (ty:TypeId):qv q d s (qaz c (qrq ty (gv q v))) k = qv q d s (qaz c (qrq ty v)) k:=by cases q <;> rfl
theorem qyW (q:Bool) (v:qf) (w:qf):qv q d s (qha (gv q v) w) k = qv q d s (qha v w) k:=by cases q <;> rfl
theorem qyp (c:Bool) (v:qf) (w:qf):qaz c (qha (gv c v) w) = qaz c (qha v w):=by cases c <;> rfl
theorem qsX (q c:Bool) (v:qf) (w:qf):qv q d s (qaz c (qha (gv q v) w)) k = qv q d s (qaz c (qha v w)) k:=by cases q <;> rfl
theorem qwA (q:Bool) (v:qf) (w:qf):qv q d s (qha w (gv q v)) k = qv q d s (qha w v) k:=by cases q <;> rfl
theorem qvp (c:Bool) (v:qf) (w:qf):qaz c (qha w (gv c v)) = qaz c (qha w v):=by cases c <;> rfl
theorem qoK (q c:Bool) (v:qf) (w:qf):qv q d s (qaz c (qha w (gv q v))) k = qv q d s (qaz c (qha w v)) k:=by cases q <;> rfl
theorem qyX (q:Bool) (v:qf) (o:Nat) (w:qf):qv q d s (qa3 o (gv q v) w) k = qv q d s (qa3 o v w) k:=by cases q <;> rfl
theorem qyq (c:Bool) (v:qf) (o:Nat) (w:qf):qaz c (qa3 o (gv c v) w) = qaz c (qa3 o v w):=by cases c <;> rfl
theorem qsY (q c:Bool) (v:qf) (o:Nat) (w:qf):qv q d s (qaz c (qa3 o (gv q v) w)) k = qv q d s (qaz c (qa3 o v w)) k:=by cases q <;> rfl
theorem qwB (q:Bool) (v:qf) (o:Nat) (w:qf):qv q d s (qa3 o w (gv q v)) k = qv q d s (qa3 o w v) k:=by cases q <;> rfl
theorem qvq (c:Bool) (v:qf) (o:Nat) (w:qf):qaz c (qa3 o w (gv c v)) = qaz c (qa3 o w v):=by cases c <;> rfl
theorem qoL (q c:Bool) (v:qf) (o:Nat) (w:qf):qv q d s (qaz c (qa3 o w (gv q v))) k = qv q d s (qaz c (qa3 o w v)) k:=by cases q <;> rfl
theorem qyV (q:Bool) (v:qf) (o:Nat) (kk:Option Nat) (w:qf):qv q d s (qhJ o kk (gv q v) w) k = qv q d s (qhJ o kk v w) k:=by cases q <;> rfl
theorem qyo (c:Bool) (v:qf) (o:Nat) (kk:Option Nat) (w:qf):qaz c (qhJ o kk (gv c v) w) = qaz c (qhJ o kk v w):=by cases c <;> rfl
theorem qsW (q c:Bool) (v:qf) (o:Nat) (kk:Option Nat) (w:qf):qv q d s (qaz c (qhJ o kk (gv q v) w)) k = qv q d s (qaz c (qhJ o kk v w)) k:=by cases q <;> rfl
theorem qwz (q:Bool) (v:qf) (o:Nat) (kk:Option Nat) (w:qf):qv q d s (qhJ o kk w (gv q v)) k = qv q d s (qhJ o kk w v) k:=by cases q <;> rfl
theorem qvo (c:Bool) (v:qf) (o:Nat) (kk:Option Nat) (w:qf):qaz c (qhJ o kk w (gv c v)) = qaz c (qhJ o kk w v):=by cases c <;> rfl
theorem qoJ (q c:Bool) (v:qf) (o:Nat) (kk:Option Nat) (w:qf):qv q d s (qaz c (qhJ o kk w (gv q v))) k = qv q d s (qaz c (qhJ o kk w v)) k:=by cases q <;> rfl
theorem qyP (q:Bool) (v:qf) (op:BinOp) (w:qf):qv q d s (qcd op (gv q v) w) k = qv q d s (qcd op v w) k:=by cases q <;> rfl
theorem qyi (c:Bool) (v:qf) (op:BinOp) (w:qf):qaz c (qcd op (gv c v) w) = qaz c (qcd op v w):=by cases c <;> rfl
theorem qsQ (q c:Bool) (v:qf) (op:BinOp) (w:qf):qv q d s (qaz c (qcd op (gv q v) w)) k = qv q d s (qaz c (qcd op v w)) k:=by cases q <;> rfl
theorem qww (q:Bool) (v:qf) (op:BinOp) (w:qf):qv q d s (qcd op w (gv q v)) k = qv q d s (qcd op w v) k:=by cases q <;> rfl
theorem qvl (c:Bool) (v:qf) (op:BinOp) (w:qf):qaz c (qcd op w (gv c v)) = qaz c (qcd op w v):=by cases c <;> rfl
theorem qoG (q c:Bool) (v:qf) (op:BinOp) (w:qf):qv q d s (qaz c (qcd op w (gv q v))) k = qv q d s (qaz c (qcd op w v)) k:=by cases q <;> rfl
theorem qyR (q:Bool) (v:qf) (b:Bool) (w:qf):qv q d s (qiF b (gv q v) w) k = qv q d s (qiF b v w) k:=by cases q <;> rfl
theorem qyk (c:Bool) (v:qf) (b:Bool) (w:qf):qaz c (qiF b (gv c v) w) = qaz c (qiF b v w):=by cases c <;> rfl
theorem qsS (q c:Bool) (v:qf) (b:Bool) (w:qf):qv q d s (qaz c (qiF b (gv q v) w)) k = qv q d s (qaz c (qiF b v w)) k:=by cases q <;> rfl
theorem qwx (q:Bool) (v:qf) (b:Bool) (w:qf):qv q d s (qiF b w (gv q v)) k = qv q d s (qiF b w v) k:=by cases q <;> rfl
theorem qvm (c:Bool) (v:qf) (b:Bool) (w:qf):qaz c (qiF b w (gv c v)) = qaz c (qiF b w v):=by cases c <;> rfl
theorem qoH (q c:Bool) (v:qf) (b:Bool) (w:qf):qv q d s (qaz c (qiF b w (gv q v))) k = qv q d s (qaz c (qiF b w v)) k:=by cases q <;> rfl
theorem qyS (q:Bool) (v:qf) (o:Nat) (b:Bool) (w:qf):qv q d s (qjR o b (gv q v) w) k = qv q d s (qjR o b v w) k:=by cases q <;> rfl
theorem qyl (c:Bool) (v:qf) (o:Nat) (b:Bool) (w:qf):qaz c (qjR o b (gv c v) w) = qaz c (qjR o b v w):=by cases c <;> rfl
theorem qsT (q c:Bool) (v:qf) (o:Nat) (b:Bool) (w:qf):qv q d s (qaz c (qjR o b (gv q v) w)) k = qv q d s (qaz c (qjR o b v w)) k:=by cases q <;> rfl
theorem qwy (q:Bool) (v:qf) (o:Nat) (b:Bool) (w:qf):qv q d s (qjR o b w (gv q v)) k = qv q d s (qjR o b w v) k:=by cases q <;> rfl
theorem qvn (c:Bool) (v:qf) (o:Nat) (b:Bool) (w:qf):qaz c (qjR o b w (gv c v)) = qaz c (qjR o b w v):=by cases c <;> rfl
theorem qoI (q c:Bool) (v:qf) (o:Nat) (b:Bool) (w:qf):qv q d s (qaz c (qjR o b w (gv q v))) k = qv q d s (qaz c (qjR o b w v)) k:=by cases q <;> rfl
theorem qBr (q:Bool) (v:qf) (b:Bool) (w:qf):qv q d s (mmV b (gv q v) w) k = qv q d s (mmV b v w) k:=by cases q <;> rfl
theorem qAy (c:Bool) (v:qf) (b:Bool) (w:qf):qaz c (mmV b (gv c v) w) = qaz c (mmV b v w):=by cases c <;> rfl
theorem qwH (q c:Bool) (v:qf) (b:Bool) (w:qf):qv q d s (qaz c (mmV b (gv q v) w)) k = qv q d s (qaz c (mmV b v w)) k:=by cases q <;> rfl
theorem qy0 (q:Bool) (v:qf) (b:Bool) (w:qf):qv q d s (mmV b w (gv q v)) k = qv q d s (mmV b w v) k:=by cases q <;> rfl
theorem qyt (c:Bool) (v:qf) (b:Bool) (w:qf):qaz c (mmV b w (gv c v)) = qaz c (mmV b w v):=by cases c <;> rfl
theorem qs1 (q c:Bool) (v:qf) (b:Bool) (w:qf):qv q d s (qaz c (mmV b w (gv q v))) k = qv q d s (qaz c (mmV b w v)) k:=by cases q <;> rfl
theorem qwD (q:Bool) (v:qf) (w z:qf):qv q d s (qcc (gv q v) w z) k = qv q d s (qcc v w z) k:=by cases q <;> rfl
theorem qvs (c:Bool) (v:qf) (w z:qf):qaz c (qcc (gv c v) w z) = qaz c (qcc v w z):=by cases c <;> rfl
theorem qoN (q c:Bool) (v:qf) (w z:qf):qv q d s (qaz c (qcc (gv q v) w z)) k = qv q d s (qaz c (qcc v w z)) k:=by cases q <;> rfl
theorem qsO (q:Bool) (v:qf) (w z:qf):qv q d s (qcc w (gv q v) z) k = qv q d s (qcc w v z) k:=by cases q <;> rfl
theorem qrC (c:Bool) (v:qf) (w z:qf):qaz c (qcc w (gv c v) z) = qaz c (qcc w v z):=by cases c <;> rfl
theorem qlj (q c:Bool) (v:qf) (w z:qf):qv q d s (qaz c (qcc w (gv q v) z)) k = qv q d s (qaz c (qcc w v z)) k:=by cases q <;> rfl
theorem qsP (q:Bool) (v:qf) (w z:qf):qv q d s (qcc w z (gv q v)) k = qv q d s (qcc w z v) k:=by cases q <;> rfl
theorem qrD (c:Bool) (v:qf) (w z:qf):qaz c (qcc w z (gv c v)) = qaz c (qcc w z v):=by cases c <;> rfl
theorem qlk (q c:Bool) (v:qf) (w z:qf):qv q d s (qaz c (qcc w z (gv q v))) k = qv q d s (qaz c (qcc w z v)) k:=by cases q <;> rfl
end
end Go.AE
namespace Go.AE
section
variable {base:Nat} {call:Call} {s:St}
def qzp (dsts:List Nat):Option (Ex×St)→Option (Ex×St)
 | some (.pan v,s)=>some (.pan v,{ s with t:=qch dsts s.t})
 | r=>r
theorem qCF {base:Nat} {call:Call} {p:qcj} {d:Option Nat} {o:AOp} {s s':St} {x:Ex} (ho:o.effs = false) (h:qz base call p d o s = some (x,s')):x = .nor:=by
 cases o <;> simp only [AOp.effs,Bool.true_eq_false] at ho
 case new=>simp only [qz,Option.some.injEq,Prod.mk.injEq] at h;exact h.1.symm
 case box=>
  simp only [qz] at h
  split at h
  ·cases h;rfl
  ·cases h
 case ld=>
  simp only [qz] at h
  cases hl:qcZ s.h (ev s.t _) _ with
  | none=>rw [hl] at h;cases h
  | some v=>rw [hl] at h;cases h;rfl
 case lk sh z ok m key=>
  simp only [qz] at h
  cases hl:qj5 s.h sh z ok (ev s.t m) (ev s.t key) with
  | none=>rw [hl] at h;cases h
  | some v=>rw [hl] at h;cases h;rfl
 all_goals
  simp only [qz] at h
  revert h
  generalize pureV s.t _ = r
  intro h
  cases r <;> cases h
  rfl
theorem qpW (dsts:List Nat) (s:St):qzp dsts (some (.nor,s)) = some (.nor,s):=rfl
theorem qpX (dsts:List Nat) (v:qf) (t:List qf) (h:List qq) (e:Bool):qzp dsts (some (.pan v,⟨t,h,e⟩)) = some (.pan v,⟨qch dsts t,h,e⟩):=rfl
theorem qD {b:qF} (I:Nat→St→Prop) (Q:Ex→St→Prop)
  (step:∀k s,I k s→(∃s' k',qx base call b s = some (.nor,s')∧k' < k∧I k' s')∨∃x s',qx base call b s = some (x,s')∧x ≠ .nor∧Q x s') :
  ∀k s,I k s→∃x s',qx base call (.loop b) s = some (x,s')∧Q x s':=by
 intro k
 induction k using Nat.strongRecOn with
 | ind k ih=>
  intro s hs
  rw [qcf]
  rcases step k s hs with ⟨s',k',h1,h2,h3⟩ | ⟨x,s',h1,h2,h3⟩
  ·rw [h1]
   exact ih k' h2 s' h3
  ·rw [h1]
   refine ⟨x,s',?_,h3⟩
   cases x with
   | nor=>exact absurd rfl h2
   | _=>rfl
end
end Go.AE
namespace Go.AE
section
variable {s:St} {t:List qf} {h:List qq}
def qbZ (v:qf) (i:Nat) (t:List qf):List qf:=
 match v with
 | .lst xs (.own _)=>t.set i (.lst xs .no)
 | _=>t
theorem qnN (t:List qf) (i:Nat):qaE t (.t i) = qbZ (lkp t i) i t:=rfl
theorem qnM (t:List qf) (v:qf):qaE t (.c v) = t:=rfl
theorem qkL (b:Bool) (i:Nat) (t:List qf):qbZ (.bool b) i t = t:=rfl
theorem qnH (k:IntKind) (n:Int) (i:Nat) (t:List qf):qbZ (.int k n) i t = t:=rfl
theorem qnK (b:List UInt8) (i:Nat) (t:List qf):qbZ (.str b) i t = t:=rfl
theorem qhs (i:Nat) (t:List qf):qbZ .nilptr i t = t:=rfl
theorem qnJ (a o:Nat) (i:Nat) (t:List qf):qbZ (.ptr a o) i t = t:=rfl
theorem qkN (cs:List qf) (o:Nat) (i:Nat) (t:List qf):qbZ (.iptr cs o) i t = t:=rfl
theorem qnF (cs:List qf) (i:Nat) (t:List qf):qbZ (.agg cs) i t = t:=rfl
theorem qnL (cs:List qf) (i:Nat) (t:List qf):qbZ (.tup cs) i t = t:=rfl
theorem qr0 (f:FuncId) (a b:List qf) (i:Nat) (t:List qf):qbZ (.fn f a b) i t = t:=rfl
theorem qr1 (xs:List qf) (i:Nat) (t:List qf):qbZ (.lst xs .no) i t = t:=rfl
theorem qkM (xs:List qf) (i:Nat) (t:List qf):qbZ (.lst xs .full) i t = t:=rfl
theorem qnI (xs:List qf) (k i:Nat) (t:List qf):qbZ (.lst xs (.own k)) i t = up t i (.lst xs .no):=rfl
theorem qiB (ty:TypeId) (v:qf) (i:Nat) (t:List qf):qbZ (.iface ty v) i t = t:=rfl
theorem qnG (v:qf) (i:Nat) (t:List qf):qbZ v.dim i t = t:=by
 cases v with
 | lst xs f=>cases f <;> rfl
 | _=>rfl
def qvR (v:Option qf) (vs:Option (List qf)):Option (List qf):=
 match v,vs with
 | some v,some vs=>some (v :: vs)
 | _,_=>none
theorem qxJ:qay s [] = some []:=rfl
theorem qxK (i:Nat) (rs:List qjC):qay s (.tmp i :: rs) = qvR (some (lkp s.t i).dim) (qay s rs):=by
 simp only [qay,lkp]
 cases qay s rs <;> rfl
theorem qt1 (a:Nat) (k:Option Nat) (rs:List qjC):qay s (.cell a k :: rs) = qvR (qcZ s.h (lkp s.t a) k) (qay s rs):=by
 simp only [qay,lkp]
 cases qcZ s.h (s.t.getD a .undef) k <;> cases qay s rs <;> rfl
theorem qkH (v:qf) (vs:List qf):qvR (some v) (some vs) = some (v :: vs):=rfl
theorem ql5 (v:qf):qbF [v] = v:=rfl
theorem ql4:qbF [] = .tup []:=rfl
theorem ql6 (a b:qf) (vs:List qf):qbF (a :: b :: vs) = .tup (a :: b :: vs):=rfl
def qya (h:List qq) (s:St):Option (List qf)→Option (qcS×List qq×Bool)
 | some vs=>some (leave h.length (.ret (qbF vs)) s.h s.e)
 | none=>none
theorem qn4 (h:List qq) (s:St) (vs:List qf):qya h s (some vs) = some (leave h.length (.ret (qbF vs)) s.h s.e):=rfl
theorem qwg (fn:qw) (h:List qq) (s:St):qiD fn h (some (.nor,s)) = qya h s (qay s fn.results):=by
 simp only [qiD];cases qay s fn.results <;> rfl
theorem qwh (fn:qw) (h:List qq) (s:St):qiD fn h (some (.ret,s)) = qya h s (qay s fn.results):=by
 simp only [qiD];cases qay s fn.results <;> rfl
end
end Go.AE
namespace Go.AE
section
theorem qqt (x:qn):(AOp.mov x).plain = true:=Eq.trans rfl rfl
theorem qsp (x:qn):(AOp.mov x).effs = false:=Eq.trans rfl rfl
theorem qo8 (x:qn):(AOp.mov x).isApp = false:=Eq.trans rfl rfl
theorem qmi (c a b:qn):(AOp.pick c a b).plain = true:=Eq.trans rfl rfl
theorem qnX (c a b:qn):(AOp.pick c a b).effs = false:=Eq.trans rfl rfl
theorem qlq (c a b:qn):(AOp.pick c a b).isApp = false:=Eq.trans rfl rfl
theorem qjl (z:List qf) (ps:List (Nat×Nat×qn)):(AOp.build z ps).plain = true:=Eq.trans rfl rfl
theorem qkQ (z:List qf) (ps:List (Nat×Nat×qn)):(AOp.build z ps).effs = false:=Eq.trans rfl rfl
theorem qiS (z:List qf) (ps:List (Nat×Nat×qn)):(AOp.build z ps).isApp = false:=Eq.trans rfl rfl
theorem qmg (k:Nat) (z:List qf) (l:Nat) (ps:List (Nat×qn)):(AOp.list k z l ps).plain = true:=Eq.trans rfl rfl
theorem qnV (k:Nat) (z:List qf) (l:Nat) (ps:List (Nat×qn)):(AOp.list k z l ps).effs = false:=Eq.trans rfl rfl
theorem qlo (k:Nat) (z:List qf) (l:Nat) (ps:List (Nat×qn)):(AOp.list k z l ps).isApp = false:=Eq.trans rfl rfl
theorem qtM (k:Option Nat) (a:qn):(AOp.ld k a).plain = true:=Eq.trans rfl rfl
theorem qwb (k:Option Nat) (a:qn):(AOp.ld k a).effs = false:=Eq.trans rfl rfl
theorem qs4 (k:Option Nat) (a:qn):(AOp.ld k a).isApp = false:=Eq.trans rfl rfl
theorem qmh (x:qn):(AOp.nilc x).plain = true:=Eq.trans rfl rfl
theorem qnW (x:qn):(AOp.nilc x).effs = false:=Eq.trans rfl rfl
theorem qlp (x:qn):(AOp.nilc x).isApp = false:=Eq.trans rfl rfl
theorem qqd (op:BinOp) (x y:qn):(AOp.bin op x y).plain = true:=Eq.trans rfl rfl
theorem qr9 (op:BinOp) (x y:qn):(AOp.bin op x y).effs = false:=Eq.trans rfl rfl
theorem qoS (op:BinOp) (x y:qn):(AOp.bin op x y).isApp = false:=Eq.trans rfl rfl
theorem qqk (n:Bool) (x y:qn):(AOp.eqb n x y).plain = true:=Eq.trans rfl rfl
theorem qsg (n:Bool) (x y:qn):(AOp.eqb n x y).effs = false:=Eq.trans rfl rfl
theorem qoZ (n:Bool) (x y:qn):(AOp.eqb n x y).isApp = false:=Eq.trans rfl rfl
theorem qql (k:Nat) (n:Bool) (x y:qn):(AOp.eqi k n x y).plain = true:=Eq.trans rfl rfl
theorem qsh (k:Nat) (n:Bool) (x y:qn):(AOp.eqi k n x y).effs = false:=Eq.trans rfl rfl
theorem qo0 (k:Nat) (n:Bool) (x y:qn):(AOp.eqi k n x y).isApp = false:=Eq.trans rfl rfl
theorem qqj (n:Bool) (x y:qn):(AOp.eqa n x y).plain = true:=Eq.trans rfl rfl
theorem qsf (n:Bool) (x y:qn):(AOp.eqa n x y).effs = false:=Eq.trans rfl rfl
theorem qoY (n:Bool) (x y:qn):(AOp.eqa n x y).isApp = false:=Eq.trans rfl rfl
theorem qtP (op:UnOp) (x:qn):(AOp.un op x).plain = true:=Eq.trans rfl rfl
theorem qwe (op:UnOp) (x:qn):(AOp.un op x).effs = false:=Eq.trans rfl rfl
theorem qs7 (op:UnOp) (x:qn):(AOp.un op x).isApp = false:=Eq.trans rfl rfl
theorem qqg (k:IntKind) (x:qn):(AOp.cvi k x).plain = true:=Eq.trans rfl rfl
theorem qsc (k:IntKind) (x:qn):(AOp.cvi k x).effs = false:=Eq.trans rfl rfl
theorem qoV (k:IntKind) (x:qn):(AOp.cvi k x).isApp = false:=Eq.trans rfl rfl
theorem qqh (x:qn):(AOp.cvs x).plain = true:=Eq.trans rfl rfl
theorem qsd (x:qn):(AOp.cvs x).effs = false:=Eq.trans rfl rfl
theorem qoW (x:qn):(AOp.cvs x).isApp = false:=Eq.trans rfl rfl
theorem qqi (x:qn):(AOp.cvt x).plain = true:=Eq.trans rfl rfl
theorem qse (x:qn):(AOp.cvt x).effs = false:=Eq.trans rfl rfl
theorem qoX (x:qn):(AOp.cvt x).isApp = false:=Eq.trans rfl rfl
theorem qqf (x:qn):(AOp.cvb x).plain = true:=Eq.trans rfl rfl
theorem qsb (x:qn):(AOp.cvb x).effs = false:=Eq.trans rfl rfl
theorem qoU (x:qn):(AOp.cvb x).isApp = false:=Eq.trans rfl rfl
theorem qqs (t:TypeId) (x:qn):(AOp.mkI t x).plain = true:=Eq.trans rfl rfl
theorem qso (t:TypeId) (x:qn):(AOp.mkI t x).effs = false:=Eq.trans rfl rfl
theorem qo7 (t:TypeId) (x:qn):(AOp.mkI t x).isApp = false:=Eq.trans rfl rfl
theorem qqr (f:FuncId) (a b:List qn):(AOp.mkF f a b).plain = true:=Eq.trans rfl rfl
theorem qsn (f:FuncId) (a b:List qn):(AOp.mkF f a b).effs = false:=Eq.trans rfl rfl
theorem qo6 (f:FuncId) (a b:List qn):(AOp.mkF f a b).isApp = false:=Eq.trans rfl rfl
theorem qmk (x:qn) (l h:Option qn):(AOp.subS x l h).plain = true:=Eq.trans rfl rfl
theorem qnZ (x:qn) (l h:Option qn):(AOp.subS x l h).effs = false:=Eq.trans rfl rfl
theorem qls (x:qn) (l h:Option qn):(AOp.subS x l h).isApp = false:=Eq.trans rfl rfl
theorem qmj (k:Nat) (x:qn) (l h:Option qn):(AOp.subL k x l h).plain = true:=Eq.trans rfl rfl
theorem qnY (k:Nat) (x:qn) (l h:Option qn):(AOp.subL k x l h).effs = false:=Eq.trans rfl rfl
theorem qlr (k:Nat) (x:qn) (l h:Option qn):(AOp.subL k x l h).isApp = false:=Eq.trans rfl rfl
theorem qtL (o:Nat) (a:qn):(AOp.fa o a).plain = true:=Eq.trans rfl rfl
theorem qwa (o:Nat) (a:qn):(AOp.fa o a).effs = false:=Eq.trans rfl rfl
theorem qs3 (o:Nat) (a:qn):(AOp.fa o a).isApp = false:=Eq.trans rfl rfl
theorem qmf (k:Nat) (s i:qn):(AOp.ixaL k s i).plain = true:=Eq.trans rfl rfl
theorem qnU (k:Nat) (s i:qn):(AOp.ixaL k s i).effs = false:=Eq.trans rfl rfl
theorem qln (k:Nat) (s i:qn):(AOp.ixaL k s i).isApp = false:=Eq.trans rfl rfl
theorem qme (n k:Nat) (a i:qn):(AOp.ixaA n k a i).plain = true:=Eq.trans rfl rfl
theorem qnT (n k:Nat) (a i:qn):(AOp.ixaA n k a i).effs = false:=Eq.trans rfl rfl
theorem qlm (n k:Nat) (a i:qn):(AOp.ixaA n k a i).isApp = false:=Eq.trans rfl rfl
theorem qqp (s i:qn):(AOp.ixS s i).plain = true:=Eq.trans rfl rfl
theorem qsl (s i:qn):(AOp.ixS s i).effs = false:=Eq.trans rfl rfl
theorem qo4 (s i:qn):(AOp.ixS s i).isApp = false:=Eq.trans rfl rfl
theorem qqo (n:Nat) (k:Option Nat) (a i:qn):(AOp.ixA n k a i).plain = true:=Eq.trans rfl rfl
theorem qsk (n:Nat) (k:Option Nat) (a i:qn):(AOp.ixA n k a i).effs = false:=Eq.trans rfl rfl
theorem qo3 (n:Nat) (k:Option Nat) (a i:qn):(AOp.ixA n k a i).isApp = false:=Eq.trans rfl rfl
theorem qqn (o:Nat) (k:Option Nat) (x:qn):(AOp.fld o k x).plain = true:=Eq.trans rfl rfl
theorem qsj (o:Nat) (k:Option Nat) (x:qn):(AOp.fld o k x).effs = false:=Eq.trans rfl rfl
theorem qo2 (o:Nat) (k:Option Nat) (x:qn):(AOp.fld o k x).isApp = false:=Eq.trans rfl rfl
theorem qqm (x:qn) (i:Nat):(AOp.ext x i).plain = true:=Eq.trans rfl rfl
theorem qsi (x:qn) (i:Nat):(AOp.ext x i).effs = false:=Eq.trans rfl rfl
theorem qo1 (x:qn) (i:Nat):(AOp.ext x i).isApp = false:=Eq.trans rfl rfl
theorem qqq (b:Bool) (x:qn):(AOp.len b x).plain = true:=Eq.trans rfl rfl
theorem qsm (b:Bool) (x:qn):(AOp.len b x).effs = false:=Eq.trans rfl rfl
theorem qo5 (b:Bool) (x:qn):(AOp.len b x).isApp = false:=Eq.trans rfl rfl
theorem qtN (b:Bool) (x y:qn):(AOp.mm b x y).plain = true:=Eq.trans rfl rfl
theorem qwc (b:Bool) (x y:qn):(AOp.mm b x y).effs = false:=Eq.trans rfl rfl
theorem qs5 (b:Bool) (x y:qn):(AOp.mm b x y).isApp = false:=Eq.trans rfl rfl
theorem qqx (t:TypeId) (z:qf) (x:qn):(AOp.tas t z x).plain = true:=Eq.trans rfl rfl
theorem qss (t:TypeId) (z:qf) (x:qn):(AOp.tas t z x).effs = false:=Eq.trans rfl rfl
theorem qpb (t:TypeId) (z:qf) (x:qn):(AOp.tas t z x).isApp = false:=Eq.trans rfl rfl
theorem qqc (x:qn):(AOp.asg x).plain = false:=Eq.trans rfl rfl
theorem qr8 (x:qn):(AOp.asg x).effs = true:=Eq.trans rfl rfl
theorem qoR (x:qn):(AOp.asg x).isApp = false:=Eq.trans rfl rfl
theorem qqu (cs:List qf):(AOp.new cs).plain = false:=Eq.trans rfl rfl
theorem qsq (cs:List qf):(AOp.new cs).effs = false:=Eq.trans rfl rfl
theorem qo9 (cs:List qf):(AOp.new cs).isApp = false:=Eq.trans rfl rfl
theorem qqe (k:Nat) (x:qn):(AOp.box k x).plain = false:=Eq.trans rfl rfl
theorem qsa (k:Nat) (x:qn):(AOp.box k x).effs = false:=Eq.trans rfl rfl
theorem qoT (k:Nat) (x:qn):(AOp.box k x).isApp = false:=Eq.trans rfl rfl
theorem qtO (k:Option Nat) (a x:qn):(AOp.st k a x).plain = false:=Eq.trans rfl rfl
theorem qwd (k:Option Nat) (a x:qn):(AOp.st k a x).effs = true:=Eq.trans rfl rfl
theorem qs6 (k:Option Nat) (a x:qn):(AOp.st k a x).isApp = false:=Eq.trans rfl rfl
theorem qmd (f:qn) (aS:List qn):(AOp.call f aS).plain = false:=Eq.trans rfl rfl
theorem qnS (f:qn) (aS:List qn):(AOp.call f aS).effs = true:=Eq.trans rfl rfl
theorem qll (f:qn) (aS:List qn):(AOp.call f aS).isApp = false:=Eq.trans rfl rfl
theorem qqb (k:Nat) (x y:qn):(AOp.app k x y).plain = false:=Eq.trans rfl rfl
theorem qr7 (k:Nat) (x y:qn):(AOp.app k x y).effs = true:=Eq.trans rfl rfl
theorem qoQ (k:Nat) (x y:qn):(AOp.app k x y).isApp = true:=Eq.trans rfl rfl
theorem qqw (x:qn):(AOp.pan x).plain = false:=Eq.trans rfl rfl
theorem qsr (x:qn):(AOp.pan x).effs = true:=Eq.trans rfl rfl
theorem qpa (x:qn):(AOp.pan x).isApp = false:=Eq.trans rfl rfl
theorem qjg (n:Nat):qf.undef.lower n = true:=Eq.trans rfl rfl
theorem qlX (n:Nat) (b:Bool):(qf.bool b).lower n = true:=Eq.trans rfl rfl
theorem qpP (n:Nat) (k:IntKind) (z:Int):(qf.int k z).lower n = true:=Eq.trans rfl rfl
theorem qpS (n:Nat) (s:List UInt8):(qf.str s).lower n = true:=Eq.trans rfl rfl
theorem qhQ (n:Nat):qf.nilptr.lower n = true:=Eq.trans rfl rfl
theorem qpR (n i o:Nat):(qf.ptr i o).lower n = Nat.blt i n:=Eq.trans rfl rfl
theorem qpU (n i:Nat):(qf.yld i).lower n = Nat.blt i n:=Eq.trans rfl rfl
theorem qlY (n o:Nat) (cs:List qf):(qf.iptr cs o).lower n = qN n cs:=Eq.trans rfl rfl
theorem qpQ (n:Nat) (xs:List qf) (f:qf9):(qf.lst xs f).lower n = qN n xs:=Eq.trans rfl rfl
theorem qgT (n:Nat):qf.nilfunc.lower n = true:=Eq.trans rfl rfl
theorem qgf (n:Nat):qf.niliface.lower n = true:=Eq.trans rfl rfl
theorem qjf (n:Nat) (t:TypeId) (v:qf):(qf.iface t v).lower n = v.lower n:=Eq.trans rfl rfl
theorem qtp (n:Nat) (f:FuncId) (a b:List qf):(qf.fn f a b).lower n = (qN n a && qN n b):=Eq.trans rfl rfl
theorem qpO (n:Nat) (cs:List qf):(qf.agg cs).lower n = qN n cs:=Eq.trans rfl rfl
theorem qpT (n:Nat) (cs:List qf):(qf.tup cs).lower n = qN n cs:=Eq.trans rfl rfl
theorem qlV (n:Nat):qN n [] = true:=Eq.trans rfl rfl
theorem qje (n:Nat) (v:qf) (vs:List qf):qN n (v :: vs) = (v.lower n && qN n vs):=Eq.trans rfl rfl
def qsy (rs:List qjC) (h:List qq):Option (Ex×St)→Option (qcS×List qq×Bool)
 | some (.nor,s) | some (.ret,s)=>qya h s (qay s rs)
 | some (.pan v,s)=>some (leave h.length (.pan v) s.h s.e)
 | _=>none
theorem qwf (fn:qw) (h:List qq) (r:Option (Ex×St)):qiD fn h r = qsy fn.results h r:=by
 cases r with
 | none=>rfl
 | some r=>obtain ⟨x,s⟩:=r;cases x <;> first | rfl | exact qwg _ _ _ | exact qwh _ _ _
theorem qsz (rs:List qjC) (h:List qq) (s:St):qsy rs h (some (.nor,s)) = qya h s (qay s rs):=rfl
theorem qsB (rs:List qjC) (h:List qq) (s:St):qsy rs h (some (.ret,s)) = qya h s (qay s rs):=rfl
theorem qsA (rs:List qjC) (h:List qq) (s:St) (v:qf):qsy rs h (some (.pan v,s)) = some (leave h.length (.pan v) s.h s.e):=rfl
theorem qEe {F:FuncId→Option qw} {X:qfy} (hX:qmT X) {f:FuncId} {first args cap:List qf} {h:List qq} {fn:qw} (h1:X f = none) (h2:F f = some fn) :
  W F X (.fn f first cap) args h = qsy fn.results h (qx h.length (W F X) fn.code ⟨(first ++ args ++ cap).map qf.dim ++ List.replicate (fn.ntmps - ((first ++ args ++ cap).map qf.dim).length) (.tup []),h,false⟩):=by
 rw [qEd hX h1 h2,qwf]
end
end Go.AE
namespace Go.AE
section
variable {h:List qq}
theorem qnd (cs:List qf):(qf.agg cs).cells = cs:=rfl
theorem qne (k:IntKind) (n:Int):(qf.int k n).cells = [.int k n]:=rfl
theorem qnh (s:List UInt8):(qf.str s).cells = [.str s]:=rfl
theorem qkF (b:Bool):(qf.bool b).cells = [.bool b]:=rfl
theorem qnf (xs:List qf) (f:qf9):(qf.lst xs f).cells = [.lst xs f]:=rfl
theorem qng (i o:Nat):(qf.ptr i o).cells = [.ptr i o]:=rfl
theorem qho:qf.nilptr.cells = [.nilptr]:=rfl
theorem qrL (f:FuncId) (a b:List qf):(qf.fn f a b).cells = [.fn f a b]:=rfl
theorem qgd:qf.niliface.cells = [.niliface]:=rfl
theorem qiu (t:TypeId) (v:qf):(qf.iface t v).cells = [.iface t v]:=rfl
theorem qni (i:Nat):(qf.yld i).cells = [.yld i]:=rfl
theorem quc (k:IntKind) (n:Int):(qf.int k n).storable = true:=Eq.trans rfl rfl
theorem quf (s:List UInt8):(qf.str s).storable = true:=Eq.trans rfl rfl
theorem qq0 (b:Bool):(qf.bool b).storable = true:=Eq.trans rfl rfl
theorem qud (xs:List qf) (f:qf9):(qf.lst xs f).storable = true:=Eq.trans rfl rfl
theorem que (i o:Nat):(qf.ptr i o).storable = true:=Eq.trans rfl rfl
theorem qq1 (cs:List qf) (o:Nat):(qf.iptr cs o).storable = true:=Eq.trans rfl rfl
theorem qjx:qf.nilptr.storable = true:=Eq.trans rfl rfl
theorem qib:qf.nilfunc.storable = true:=Eq.trans rfl rfl
theorem qxW (f:FuncId) (a b:List qf):(qf.fn f a b).storable = true:=Eq.trans rfl rfl
theorem qug (i:Nat):(qf.yld i).storable = true:=Eq.trans rfl rfl
theorem qg5:qf.niliface.storable = true:=Eq.trans rfl rfl
theorem qmt (t:TypeId) (v:qf):(qf.iface t v).storable = true:=Eq.trans rfl rfl
theorem qrQ (c:qf) (cs:List qf) (o k:Nat):cut (c :: cs) o (some k) = if o + k ≤ (c :: cs).length then some (.agg ((((c :: cs).drop o).take k).map qf.dim)) else none:=rfl
def ldB (k:Option Nat) (o:Nat):Option qq→Option qf
 | some (.cells cs)=>cut cs o k
 | _=>none
theorem qte (i o:Nat) (k:Option Nat):qcZ h (.ptr i o) k = ldB k o h[i]?:=by
 simp only [qcZ,ldB]
 cases h[i]? with
 | none=>rfl
 | some b=>cases b <;> rfl
theorem qpk (k:Option Nat) (o:Nat) (cs:List qf):ldB k o (some (.cells cs)) = cut cs o k:=rfl
def qCL (k:Option Nat) (v:qf):List qf:=
 match k with
 | none=>[v]
 | some _=>v.dim.cells.map qf.dim
theorem qqC (v:qf):qCL none v = [v]:=rfl
theorem qqD (k:Nat) (v:qf):qCL (some k) v = v.dim.cells.map qf.dim:=rfl
def stB (base:Nat) (k:Option Nat) (id o:Nat) (vs:List qf) (h:List qq):Option qq→Option (List qq×Bool)
 | some (.cells cs)=>if vs.length = k.getD 1∧o + vs.length ≤ cs.length∧vs.all qf.storable then some (h.set id (.cells (splice cs o vs)),!(Nat.ble base id || qN (id + 1) vs)) else none
 | _=>none
theorem qxT (base:Nat) (k:Option Nat) (id o:Nat) (v:qf):stV base k (.ptr id o) v h = stB base k id o (qCL k v) h h[id]?:=by
 simp only [stV,stB]
 cases h[id]? with
 | none=>rfl
 | some b=>cases b <;> cases k <;> rfl
theorem qqZ (base:Nat) (k:Option Nat) (id o:Nat) (vs cs:List qf):stB base k id o vs h (some (.cells cs)) = if vs.length = k.getD 1∧o + vs.length ≤ cs.length∧vs.all qf.storable then some (h.set id (.cells (splice cs o vs)),!(Nat.ble base id || qN (id + 1) vs)) else none:=rfl
theorem qGk (h:List qq) (k:Nat):Nat.ble h.length (h.length + k) = true:=Nat.ble_eq_true_of_le (Nat.le_add_right _ _)
theorem qas {a b:Nat} (h:a ≤ b):Nat.ble a b = true:=Nat.ble_eq_true_of_le h
end
end Go.AE
namespace Go.AE
theorem qaT {e r:Option (Ex×St)} (hr:e = r) {Q:Ex→St→Prop} (h:∃x s',e = some (x,s')∧Q x s'):∃x s',r = some (x,s')∧Q x s':=hr▸h
end Go.AE
namespace Go.AE
mutual
theorem beq_refl:∀v:qf,v.beq v = true
 | .undef | .nilptr | .nilfunc | .niliface | .nilmap | .nils | .empt=>rfl
 | .sl ..=>by simp [qf.beq]
 | .mp i=>by simp [qf.beq]
 | .bool b=>by simp [qf.beq]
 | .int k n=>by simp [qf.beq]
 | .str s=>by simp [qf.beq]
 | .ptr i o=>by simp [qf.beq]
 | .iptr cs o=>by simp [qf.beq,qbY cs]
 | .lst xs f=>by simp [qf.beq,qbY xs]
 | .fn f a b=>by simp [qf.beq,qbY a,qbY b]
 | .yld i=>by simp [qf.beq]
 | .iface t v=>by simp [qf.beq,beq_refl v]
 | .agg cs=>by simp [qf.beq,qbY cs]
 | .tup cs=>by simp [qf.beq,qbY cs]
theorem qbY:∀vs:List qf,qii vs vs = true
 | []=>rfl
 | v :: vs=>by simp [qii,beq_refl v,qbY vs]
end
section
variable {base:Nat} {call:Call} {dsts:List Nat} {s:St} {pend:List (Nat×Chk)} {h:List qq}
def qef (h:List qq):List (Nat×Chk)→Bool
 | []=>true
 | c :: cs=>c.2.ok h && qef h cs
theorem qrN:qef h [] = true:=Eq.trans rfl rfl
theorem qnl (i:Nat) (c:Chk) (cs:List (Nat×Chk)):qef h ((i,c) :: cs) = (c.ok h && qef h cs):=rfl
theorem qrM (l:List (Nat×Chk)):l.all (fun c=>c.2.ok h) = qef h l:=by
 induction l with
 | nil=>rfl
 | cons c l ih=>simp only [List.all_cons,qef,ih]
def qDo (v:qf):Option qf→Bool
 | some w=>v.beq w
 | none=>false
theorem qm3 (v:qf):qDo v (some v) = true:=beq_refl v
theorem qyB (a:qf) (k:Option Nat) (v:qf):Chk.ok h (.ld a k v) = qDo v (qcZ h a k):=by
 simp only [Chk.ok];cases qcZ h a k <;> rfl
def qDn (cs:List qf):Option qq→Bool
 | some (.cells ds)=>qii cs ds
 | _=>false
theorem qm1 (cs:List qf):qDn cs (some (.cells cs)) = true:=qbY cs
theorem qvN (id:Nat) (cs:List qf):Chk.ok h (.box id cs) = qDn cs h[id]?:=by
 simp only [Chk.ok]
 cases h[id]? with
 | none=>rfl
 | some b=>cases b <;> rfl
def qdL (cl:Nat):List (Nat×Chk)→List (Nat×Chk)
 | []=>[]
 | c :: cs=>bif cl.testBit c.1 then qdL cl cs else c :: qdL cl cs
theorem qkZ (cl:Nat):qdL cl [] = []:=rfl
theorem qiJ (cl i:Nat) (c:Chk) (cs:List (Nat×Chk)):qdL cl ((i,c) :: cs) = bif cl.testBit i then qdL cl cs else (i,c) :: qdL cl cs:=rfl
theorem qog (cl:Nat) (l:List (Nat×Chk)):l.filter (fun c=>!cl.testBit c.1) = qdL cl l:=by
 induction l with
 | nil=>rfl
 | cons c l ih=>
  simp only [List.filter_cons,qdL,ih]
  cases cl.testBit c.1 <;> rfl
def qr2 (dsts:List Nat) (pend:List (Nat×Chk)) (k:List (Nat×Chk)→St→Option (Ex×St)):Option (Ex×St)→Option (Ex×St)
 | some (.nor,s)=>bif qef s.h pend then k pend s else none
 | some (.pan v,s)=>some (.pan v,{ s with t:=qch dsts s.t})
 | _=>none
theorem qnO (k:List (Nat×Chk)→St→Option (Ex×St)) (s:St):qr2 dsts pend k (some (.nor,s)) = bif qef s.h pend then k pend s else none:=rfl
theorem qnP (k:List (Nat×Chk)→St→Option (Ex×St)) (t:List qf) (e:Bool) (v:qf):qr2 dsts pend k (some (.pan v,⟨t,h,e⟩)) = some (.pan v,⟨qch dsts t,h,e⟩):=rfl
theorem qr6:qW base call dsts [] pend s = some (.nor,s):=rfl
theorem qr4 {d:Option Nat} {o:AOp} {ix cl:Nat} {ds:List qS} (ho:o.effs = true):qW base call dsts (⟨⟨d,o,none⟩,ix,cl⟩ :: ds) pend s = qr2 dsts (qdL cl pend) (qW base call dsts ds) (qz base call [] d o s):=by
 simp only [qW,wanted,ho,if_true,qrM,qog]
 cases hr:qz base call [] d o s with
 | none=>rfl
 | some r=>
  obtain ⟨x,s'⟩:=r
  cases x with
  | nor=>simp only [qr2];cases qef s'.h (qdL cl pend) <;> rfl
  | pan v=>rfl
  | exit i=>rfl
  | ret=>rfl
def AOp.light:AOp→Bool
 | .asg .. | .new .. | .box .. | .st .. | .call .. | .app .. | .pan .. | .ld .. | .hx .. | .lk ..=>false
 | _=>true
theorem qkO {d:Option Nat} {o:AOp} {ix cl:Nat} {ds:List qS} (ho:o.light = true):qW base call dsts (⟨⟨d,o,none⟩,ix,cl⟩ :: ds) pend s = qcP (qW base call dsts ds pend) (qz base call [] d o s):=by
 have he:o.effs = false:=by cases o <;> simp_all [AOp.light,AOp.effs]
 have hc:qee s o = none:=by cases o <;> simp_all [AOp.light,qee]
 simp only [qW,wanted,he,Bool.false_eq_true,if_false,hc]
 cases hr:qz base call [] d o s with
 | none=>rfl
 | some r=>
  obtain ⟨x,s'⟩:=r
  have:=qCF he hr
  subst this
  rfl
def ldD (d:Option Nat) (s:St) (a:qf) (k:Option Nat) (ix:Nat) (pend:List (Nat×Chk)) (f:List (Nat×Chk)→St→Option (Ex×St)):Option qf→Option (Ex×St)
 | some v=>f ((ix,.ld a k v) :: pend) { s with t:=put d v s.t}
 | none=>none
theorem qtf (d:Option Nat) (t:List qf) (e:Bool) (a:qf) (k:Option Nat) (ix:Nat) (f:List (Nat×Chk)→St→Option (Ex×St)) (v:qf):ldD d ⟨t,h,e⟩ a k ix pend f (some v) = f ((ix,.ld a k v) :: pend) ⟨put d v t,h,e⟩:=rfl
theorem qv8 {d:Option Nat} {k:Option Nat} {a:qn} {ix cl:Nat} {ds:List qS}:qW base call dsts (⟨⟨d,.ld k a,none⟩,ix,cl⟩ :: ds) pend s = ldD d s (ev s.t a) k ix pend (qW base call dsts ds) (qcZ s.h (ev s.t a) k):=by
 simp only [qW,wanted,AOp.effs,Bool.false_eq_true,if_false,qee,qz]
 cases qcZ s.h (ev s.t a) k <;> rfl
theorem qr5 {d:Option Nat} {cs:List qf} {ix cl:Nat} {ds:List qS}:qW base call dsts (⟨⟨d,.new cs,none⟩,ix,cl⟩ :: ds) pend s = qW base call dsts ds ((ix,.box s.h.length (cs.map qf.dim)) :: pend) { s with t:=put d (.ptr s.h.length 0) s.t,h:=s.h ++ [.cells (cs.map qf.dim)]}:=by
 simp only [qW,wanted,AOp.effs,Bool.false_eq_true,if_false,qee,qz]
end
end Go.AE
namespace Go.AE
theorem qpG (x:qn):(AOp.mov x).light = true:=Eq.trans rfl rfl
theorem qlP (c a b:qn):(AOp.pick c a b).light = true:=Eq.trans rfl rfl
theorem qjb (z:List qf) (ps:List (Nat×Nat×qn)):(AOp.build z ps).light = true:=Eq.trans rfl rfl
theorem qlN (k:Nat) (z:List qf) (l:Nat) (ps:List (Nat×qn)):(AOp.list k z l ps).light = true:=Eq.trans rfl rfl
theorem qlO (x:qn):(AOp.nilc x).light = true:=Eq.trans rfl rfl
theorem qpr (op:BinOp) (x y:qn):(AOp.bin op x y).light = true:=Eq.trans rfl rfl
theorem qpx (n:Bool) (x y:qn):(AOp.eqb n x y).light = true:=Eq.trans rfl rfl
theorem qpy (k:Nat) (n:Bool) (x y:qn):(AOp.eqi k n x y).light = true:=Eq.trans rfl rfl
theorem qpw (n:Bool) (x y:qn):(AOp.eqa n x y).light = true:=Eq.trans rfl rfl
theorem qtk (op:UnOp) (x:qn):(AOp.un op x).light = true:=Eq.trans rfl rfl
theorem qpt (k:IntKind) (x:qn):(AOp.cvi k x).light = true:=Eq.trans rfl rfl
theorem qpu (x:qn):(AOp.cvs x).light = true:=Eq.trans rfl rfl
theorem qpv (x:qn):(AOp.cvt x).light = true:=Eq.trans rfl rfl
theorem qps (x:qn):(AOp.cvb x).light = true:=Eq.trans rfl rfl
theorem qpF (t:TypeId) (x:qn):(AOp.mkI t x).light = true:=Eq.trans rfl rfl
theorem qpE (f:FuncId) (a b:List qn):(AOp.mkF f a b).light = true:=Eq.trans rfl rfl
theorem qlR (x:qn) (l h:Option qn):(AOp.subS x l h).light = true:=Eq.trans rfl rfl
theorem qlQ (k:Nat) (x:qn) (l h:Option qn):(AOp.subL k x l h).light = true:=Eq.trans rfl rfl
theorem qti (o:Nat) (a:qn):(AOp.fa o a).light = true:=Eq.trans rfl rfl
theorem qlM (k:Nat) (s i:qn):(AOp.ixaL k s i).light = true:=Eq.trans rfl rfl
theorem qlL (n k:Nat) (a i:qn):(AOp.ixaA n k a i).light = true:=Eq.trans rfl rfl
theorem qpC (s i:qn):(AOp.ixS s i).light = true:=Eq.trans rfl rfl
theorem qpB (n:Nat) (k:Option Nat) (a i:qn):(AOp.ixA n k a i).light = true:=Eq.trans rfl rfl
theorem qpA (o:Nat) (k:Option Nat) (x:qn):(AOp.fld o k x).light = true:=Eq.trans rfl rfl
theorem qpz (x:qn) (i:Nat):(AOp.ext x i).light = true:=Eq.trans rfl rfl
theorem qpD (b:Bool) (x:qn):(AOp.len b x).light = true:=Eq.trans rfl rfl
theorem qtj (b:Bool) (x y:qn):(AOp.mm b x y).light = true:=Eq.trans rfl rfl
theorem qpH (t:TypeId) (z:qf) (x:qn):(AOp.tas t z x).light = true:=Eq.trans rfl rfl
end Go.AE
namespace Go.AE
section
variable {base:Nat} {call:Call} {p:qcj} {s:St} {t:List qf} {h:List qq}
def qiq (k:Nat) (xs ys:List qf):Bool:=decide (xs.length + ys.length ≤ qo) && ys.all (fun y=>y.cells.length == k && y.cells.all qf.storable) && xs.head?.all (fun y=>y.cells.length == k)
def qyg (d:Option Nat) (k:Nat) (ys:List qf):Option (List qf×St)→Option (Ex×St)
 | some (xs,s)=>if xs.head?.all (fun y=>y.cells.length == k) then some (.nor,{ s with t:=put d (.lst (xs ++ ys) (.own k)) s.t}) else none
 | none=>none
def qrz (d:Option Nat) (k:Nat) (s:St) (tk:Option (List qf×St)) (x:qf) (ys:Option (List qf)):Option (Ex×St):=
 match x,ys with
 | .lst xs f,some ys=>
  if ys.isEmpty then some (.nor,{ s with t:=put d (qf.lst xs f).dim s.t})
  else if qiq k xs ys = true then
   match f with
   | .full=>some (.nor,{ s with t:=put d (.lst (xs ++ ys) (.own k)) s.t})
   | _=>qyg d k ys tk
  else none
 | _,_=>none
theorem qzD (d:Option Nat) (k:Nat) (x y:qn):qz base call p d (.app k x y) s = qrz d k s (qdn k p x s) (raw s.t x) (tail (ev s.t y)):=by
 simp only [qz,qrz,qiq,Bool.and_eq_true,decide_eq_true_eq,and_assoc]
 generalize raw s.t x = v
 generalize tail (ev s.t y) = w
 generalize qdn k p x s = z
 cases v <;> rfl
theorem qui (ys:List qf) (f:qf9):tail (.lst ys f) = some ys:=rfl
theorem quj (b:List UInt8):tail (.str b) = some (ints b):=rfl
theorem qvj (d:Option Nat) (k:Nat) (t:List qf) (e:Bool) (tk:Option (List qf×St)) (xs:List qf) (f:qf9):qrz d k ⟨t,h,e⟩ tk (.lst xs f) (some []) = some (.nor,⟨put d (qf.lst xs f).dim t,h,e⟩):=rfl
theorem qrA {d:Option Nat} {k:Nat} {t:List qf} {e:Bool} {tk:Option (List qf×St)} {xs ys:List qf} (hy:ys.isEmpty = false) (hc:qiq k xs ys = true):qrz d k ⟨t,h,e⟩ tk (.lst xs .full) (some ys) = some (.nor,⟨put d (.lst (xs ++ ys) (.own k)) t,h,e⟩):=by
 simp only [qrz,hy,hc,Bool.false_eq_true,if_false,if_true]
theorem qvk {d:Option Nat} {k j:Nat} {s:St} {tk:Option (List qf×St)} {xs ys:List qf} (hy:ys.isEmpty = false) (hc:qiq k xs ys = true):qrz d k s tk (.lst xs (.own j)) (some ys) = qyg d k ys tk:=by
 simp only [qrz,hy,hc,Bool.false_eq_true,if_false,if_true]
theorem qyh {d:Option Nat} {k:Nat} {s:St} {tk:Option (List qf×St)} {xs ys:List qf} (hy:ys.isEmpty = false) (hc:qiq k xs ys = true):qrz d k s tk (.lst xs .no) (some ys) = qyg d k ys tk:=by
 simp only [qrz,hy,hc,Bool.false_eq_true,if_false,if_true]
theorem qmW {d:Option Nat} {k:Nat} {t:List qf} {e:Bool} {xs ys:List qf} (hc:qiq k xs ys = true):qyg d k ys (some (xs,⟨t,h,e⟩)) = some (.nor,⟨put d (.lst (xs ++ ys) (.own k)) t,h,e⟩):=by
 simp only [qiq,Bool.and_eq_true] at hc
 simp only [qyg,hc.2,if_true]
def qi (p:qcj) (i:Nat):Option Src:=(p.find? (·.1 == i)).map (·.2)
def qul (k b:Nat) (s:St) (v:qf):Option (List qf×St):=
 match v with
 | .lst xs (.own j)=>if j = k then some (xs,{ s with t:=s.t.set b (.lst xs .no)}) else none
 | _=>none
def qx2 (k:Nat) (s:St) (id o:Nat) (c:Option qq):Option (List qf×St):=
 match c with
 | some (.cells cs)=>
  match cs[o]? with
  | some (.lst xs (.own j))=>if j = k then some (xs,{ s with h:=s.h.set id (.cells (cs.set o (.lst xs .no)))}) else none
  | _=>none
 | _=>none
def quk (k:Nat) (s:St) (a:qf):Option (List qf×St):=
 match a with
 | .ptr id o=>qx2 k s id o s.h[id]?
 | _=>none
def qmw (k:Nat) (s:St):Option Src→Option (List qf×St)
 | some (.tmp b)=>qul k b s (lkp s.t b)
 | some (.cell a)=>quk k s (ev s.t a)
 | none=>none
def qq8 (k i:Nat) (s:St) (v:qf) (src:Option Src):Option (List qf×St):=
 match v with
 | .lst xs (.own j)=>if j = k then some (xs,{ s with t:=s.t.set i (.lst xs .no)}) else none
 | _=>qmw k s src
theorem qx4 (k:Nat) (i:Nat):qdn k p (.t i) s = qq8 k i s (lkp s.t i) (qi p i):=by
 simp only [qdn,qq8,lkp,qi]
 generalize hv:s.t.getD i .undef = v
 have key:(match p.find? (·.1 == i) with
   | some (_,.tmp b)=>
    match s.t.getD b .undef with
    | .lst xs (.own j)=>if j = k then some (xs,{ s with t:=s.t.set b (.lst xs .no)}) else none
    | _=>none
   | some (_,.cell a)=>
    match ev s.t a with
    | .ptr id o=>
     match s.h[id]? with
     | some (.cells cs)=>
      match cs[o]? with
      | some (.lst xs (.own j))=>if j = k then some (xs,{ s with h:=s.h.set id (.cells (cs.set o (.lst xs .no)))}) else none
      | _=>none
     | _=>none
    | _=>none
   | none=>none) = qmw k s ((p.find? (·.1 == i)).map (·.2)):=by
  cases p.find? (·.1 == i) with
  | none=>rfl
  | some q=>
   obtain ⟨_,src⟩:=q
   cases src with
   | tmp b=>rfl
   | cell a=>
    simp only [Option.map_some,qmw,quk]
    cases ev s.t a <;> rfl
 cases v with
 | lst xs f=>cases f <;> first | rfl | exact key
 | _=>exact key
theorem qq9 (k i:Nat) (t:List qf) (e:Bool) (xs:List qf) (src:Option Src):qq8 k i ⟨t,h,e⟩ (.lst xs (.own k)) src = some (xs,⟨up t i (.lst xs .no),h,e⟩):=by simp [qq8,up]
theorem qum (k i:Nat) (xs:List qf) (src:Option Src):qq8 k i s (.lst xs .no) src = qmw k s src:=rfl
theorem qq6 (k b:Nat):qmw k s (some (.tmp b)) = qul k b s (lkp s.t b):=rfl
theorem qmx (k:Nat) (a:qn):qmw k s (some (.cell a)) = quk k s (ev s.t a):=rfl
theorem qq7 (k b:Nat) (t:List qf) (e:Bool) (xs:List qf):qul k b ⟨t,h,e⟩ (.lst xs (.own k)) = some (xs,⟨up t b (.lst xs .no),h,e⟩):=by simp [qul,up]
theorem qq5 (k id o:Nat):quk k s (.ptr id o) = qx2 k s id o s.h[id]?:=rfl
def qx3 (k:Nat) (s:St) (id o:Nat) (cs:List qf) (v:Option qf):Option (List qf×St):=
 match v with
 | some (.lst xs (.own j))=>if j = k then some (xs,{ s with h:=s.h.set id (.cells (cs.set o (.lst xs .no)))}) else none
 | _=>none
theorem qjy (k id o:Nat) (cs:List qf):qx2 k s id o (some (.cells cs)) = qx3 k s id o cs cs[o]?:=rfl
theorem qq4 (k id o:Nat) (t:List qf) (e:Bool) (cs xs:List qf):qx3 k ⟨t,h,e⟩ id o cs (some (.lst xs (.own k))) = some (xs,⟨t,h.set id (.cells (cs.set o (.lst xs .no))),e⟩):=by simp [qx3]
theorem qxS (i:Nat):qi [] i = none:=rfl
def qj (p:qcj) (d:Option Nat) (o:AOp):qcj:=
 match d with
 | none=>p
 | some d=>
  let q:=p.filter fun x=>x.1 != d && !x.2.hangs d
  match qg o with
  | some s=>if s.hangs d then q else (d,s) :: q
  | none=>q
def qk (p:qcj) (d:Option Nat):qcj:=
 match d with
 | none=>p.filter fun x=>x.2.isTmp
 | some d=>p.filter fun x=>x.2.isTmp && (x.1 != d && !x.2.hangs d)
theorem qtX {d:Option Nat} {o:AOp} {g:Option (Nat×Bool)} (ho:o.effs = true):qaH p ⟨d,o,g⟩ = qk p d:=by simp only [qaH,ho,if_true,qk];cases d <;> rfl
theorem qxC {d:Option Nat} {o:AOp} {g:Option (Nat×Bool)} (ho:o.effs = false):qaH p ⟨d,o,g⟩ = qj p d o:=by simp only [qaH,ho,Bool.false_eq_true,if_false,qj];cases d <;> rfl
end
end Go.AE
namespace Go.AE
theorem qvx (k:IntKind) (a b:Int):qcd .add (.int k a) (.int k b) = some (.int k (k.wrap (a + b))):=by simp [qcd,qcl]
theorem qvH (k:IntKind) (a b:Int):qcd .sub (.int k a) (.int k b) = some (.int k (k.wrap (a - b))):=by simp [qcd,qcl]
theorem qvD (k:IntKind) (a b:Int):qcd .mul (.int k a) (.int k b) = some (.int k (k.wrap (a * b))):=by simp [qcd,qcl]
theorem qvF (k:IntKind) (a b:Int):qcd .quo (.int k a) (.int k b) = if b = 0 then none else some (.int k (k.wrap (a.tdiv b))):=by simp [qcd,qcl]
theorem qvG (k:IntKind) (a b:Int):qcd .rem (.int k a) (.int k b) = if b = 0 then none else some (.int k (a.tmod b)):=by simp [qcd,qcl]
theorem qvy (k:IntKind) (a b:Int):qcd .eql (.int k a) (.int k b) = some (.bool (a == b)):=by simp [qcd,qcl]
theorem qvE (k:IntKind) (a b:Int):qcd .neq (.int k a) (.int k b) = some (.bool (!(a == b))):=by simp [qcd,qcl,bne]
theorem qvC (k:IntKind) (a b:Int):qcd .lss (.int k a) (.int k b) = some (.bool (ilt a b)):=by simp [qcd,qcl]
theorem qvB (k:IntKind) (a b:Int):qcd .leq (.int k a) (.int k b) = some (.bool (ile a b)):=by simp [qcd,qcl]
theorem qvA (k:IntKind) (a b:Int):qcd .gtr (.int k a) (.int k b) = some (.bool (ilt b a)):=by simp [qcd,qcl]
theorem qvz (k:IntKind) (a b:Int):qcd .geq (.int k a) (.int k b) = some (.bool (ile b a)):=by simp [qcd,qcl]
theorem qxX (a b:List UInt8):qcd .add (.str a) (.str b) = if a.length + b.length ≤ qo then some (.str (a ++ b)) else none:=rfl
theorem qxY (a b:List UInt8):qcd .eql (.str a) (.str b) = some (.bool (a == b)):=rfl
theorem qx1 (a b:List UInt8):qcd .neq (.str a) (.str b) = some (.bool (!(a == b))):=rfl
theorem qx0 (a b:List UInt8):qcd .lss (.str a) (.str b) = some (.bool (Op.bytesLess a b)):=rfl
theorem qxZ (a b:List UInt8):qcd .gtr (.str a) (.str b) = some (.bool (!(Op.bytesLess a b || a == b))):=rfl
theorem qz3 (k:IntKind) (n:Int):unV .neg (.int k n) = some (.int k (k.wrap (0 - n))):=rfl
theorem qz4 (b:Bool):unV .not (.bool b) = some (.bool (!b)):=rfl
end Go.AE
namespace Go.AE
section
variable {base:Nat} {call:Call} {p:qcj} {s:St}
def qlU (k:Nat) (zero:List qf) (len:Nat) (parts:List (Nat×qf)):Option qf:=
 if zero.length = k∧len * k ≤ 2 ^ 24 then
  match qb0 ((List.replicate len zero).flatten) (parts.map fun (i,x)=>(i * k,k,x)) with
  | some cs=>if cs.all qf.storable then some (.lst ((List.range len).map fun i=>if k = 1 then (cs.getD i .undef) else .agg ((cs.drop (i * k)).take k)) .full) else none
  | none=>none
 else none
theorem qxy (d:Option Nat) (k:Nat) (z:List qf) (len:Nat) (ps:List (Nat×qn)):qz base call p d (.list k z len ps) s = qfl d s (qlU k z len (ps.map fun (i,x)=>(i,ev s.t x))):=by
 rw [qaX _ _ rfl (by simp) (by simp) (by simp)]
 simp only [pureV,qlU,List.map_map]
 rfl
end
end Go.AE
namespace Go.AE
theorem qhE (c b:Bool) (d:Option Nat) (s:St) (r:Option qf) (k:St→Option (Ex×St)):qfP (.bool c) b d s r k = qv (c == b) d s r k:=Eq.trans rfl rfl
theorem qiP (b:Bool) (d:Option Nat) (s:St) (r:Option qf) (k:St→Option (Ex×St)):qfP (.tup []) b d s r k = qv false d s r k:=Eq.trans rfl rfl
theorem qhF (d:Option Nat) (t:List qf) (h:List qq) (e:Bool) (v:qf) (k:St→Option (Ex×St)):qv true d ⟨t,h,e⟩ (some v) k = k ⟨put d v t,h,e⟩:=Eq.trans rfl rfl
theorem qgO (d:Option Nat) (t:List qf) (h:List qq) (e:Bool) (r:Option qf) (k:St→Option (Ex×St)):qv false d ⟨t,h,e⟩ r k = k ⟨put d (.tup []) t,h,e⟩:=Eq.trans rfl rfl
theorem qlg (d:Option Nat) (t:List qf) (h:List qq) (e:Bool) (r:Option (Ex×St)) (k:St→Option (Ex×St)):qfO (.bool true) false d ⟨t,h,e⟩ r k = k ⟨put d (.tup []) t,h,e⟩:=Eq.trans rfl rfl
theorem qle (d:Option Nat) (t:List qf) (h:List qq) (e:Bool) (r:Option (Ex×St)) (k:St→Option (Ex×St)):qfO (.bool false) true d ⟨t,h,e⟩ r k = k ⟨put d (.tup []) t,h,e⟩:=Eq.trans rfl rfl
theorem qiO (b:Bool) (d:Option Nat) (t:List qf) (h:List qq) (e:Bool) (r:Option (Ex×St)) (k:St→Option (Ex×St)):qfO (.tup []) b d ⟨t,h,e⟩ r k = k ⟨put d (.tup []) t,h,e⟩:=Eq.trans rfl rfl
theorem qk0 (r:Option qf):qaz true r = r:=Eq.trans rfl rfl
theorem qiK (r:Option qf):qaz false r = some (.tup []):=Eq.trans rfl rfl
theorem qsN (v:qf):gv true v = v:=Eq.trans rfl rfl
theorem qoC (v:qf):gv false v = .tup []:=Eq.trans rfl rfl
end Go.AE
namespace Go.AE
end Go.AE
namespace Go.AE
section
variable {base:Nat} {call:Call} {p:qcj} {s:St}
theorem qmB (f:St→Option (Ex×St)) (s:St):qcP f (some (.nor,s)) = f s:=Eq.trans rfl rfl
end
end Go.AE
namespace Go.AE
theorem qiw (a b:Option (Ex×St)):qvQ (.bool true) a b = a:=Eq.trans rfl rfl
theorem qhq (a b:Option (Ex×St)):qvQ (.bool false) a b = b:=Eq.trans rfl rfl
end Go.AE
namespace Go.AE
theorem qAv (d:Nat) (o:AOp):ao d o = ⟨some d,o,none⟩:=Eq.trans rfl rfl
theorem qAt (d:Nat) (o:AOp) (j:Nat) (b:Bool):ag d o j b = ⟨some d,o,some (j,b)⟩:=Eq.trans rfl rfl
theorem qAu (o:AOp):an o = ⟨none,o,none⟩:=Eq.trans rfl rfl
theorem qqY (cs:List qf) (o:Nat) (vs:List qf):splice cs o vs = cs.take o ++ vs ++ cs.drop (o + vs.length):=Eq.trans rfl rfl
theorem qF1 (d i:Nat):mv d i=⟨some d,.mov (.t i),none⟩:=Eq.trans rfl rfl
theorem qF6 (d i:Nat):sg d i=⟨some d,.asg (.t i),none⟩:=Eq.trans rfl rfl
theorem qEG (d k i:Nat):fA d k i=⟨some d,.fa k (.t i),none⟩:=Eq.trans rfl rfl
theorem qCB (d i:Nat):ldn d i=⟨some d,.ld none (.t i),none⟩:=Eq.trans rfl rfl
theorem qCC (d k i:Nat):lds d k i=⟨some d,.ld (some k) (.t i),none⟩:=Eq.trans rfl rfl
theorem qCX (k i j:Nat):sts k i j=⟨none,.st (some k) (.t i) (.t j),none⟩:=Eq.trans rfl rfl
theorem qCW (i j:Nat):stn i j=⟨none,.st none (.t i) (.t j),none⟩:=Eq.trans rfl rfl
theorem qDi (d i k:Nat):xtt d i k=⟨some d,.ext (.t i) k,none⟩:=Eq.trans rfl rfl
theorem qCE (d i:Nat):nlc d i=⟨some d,.nilc (.t i),none⟩:=Eq.trans rfl rfl
theorem qDh (d k i j:Nat):xlL d k i j=⟨some d,.ixaL k (.t i) (.t j),none⟩:=Eq.trans rfl rfl
theorem qCD (d i:Nat):lnn d i=⟨some d,.len false (.t i),none⟩:=Eq.trans rfl rfl
theorem qEK (n:Int):kI n=.c (.int .i64 n):=Eq.trans rfl rfl
theorem qEJ (n:Nat):kF n=.c (.fn n [] []):=Eq.trans rfl rfl
theorem qEL:kO=.c (.bool false):=Eq.trans rfl rfl
theorem qEM:kU=.c (.bool true):=Eq.trans rfl rfl
theorem qF2:nL=.lst [] .full:=Eq.trans rfl rfl
theorem qGj:zZ=.int .i64 0:=Eq.trans rfl rfl
theorem qGi:zS=.str []:=Eq.trans rfl rfl
theorem qAW (d i:Nat) (n:Int):eqk d i n=⟨some d,.bin .eql (.t i) (.c (.int .i64 n)),none⟩:=Eq.trans rfl rfl
theorem qAQ (d:Nat) (o:BinOp) (i:Nat) (n:Int):bnk d o i n=⟨some d,.bin o (.t i) (.c (.int .i64 n)),none⟩:=Eq.trans rfl rfl
theorem qAR (d:Nat) (o:BinOp) (i j:Nat):bnt d o i j=⟨some d,.bin o (.t i) (.t j),none⟩:=Eq.trans rfl rfl
theorem qCT (d:Nat) (n:Int):sgk d n=⟨some d,.asg (.c (.int .i64 n)),none⟩:=Eq.trans rfl rfl
theorem qCR (d:Nat):sgO d=⟨some d,.asg (.c (.bool false)),none⟩:=Eq.trans rfl rfl
theorem qCS (d:Nat):sgU d=⟨some d,.asg (.c (.bool true)),none⟩:=Eq.trans rfl rfl
theorem qAT (d f i:Nat):clA d f i=⟨some d,.call (.c (.fn f [] [])) [.t i],none⟩:=Eq.trans rfl rfl
theorem qAU (d f i j:Nat):clB d f i j=⟨some d,.call (.c (.fn f [] [])) [.t i,.t j],none⟩:=Eq.trans rfl rfl
theorem qCJ (d i j:Nat):pkO d i j=⟨some d,.pick (.t i) (.t j) (.c (.bool false)),none⟩:=Eq.trans rfl rfl
theorem qCK (d i j:Nat):pkU d i j=⟨some d,.pick (.t i) (.c (.bool true)) (.t j),none⟩:=Eq.trans rfl rfl
theorem qAS (d k i:Nat):bxx d k i=⟨some d,.box k (.t i),none⟩:=Eq.trans rfl rfl
theorem qCH (d i:Nat):ntt d i=⟨some d,.un .not (.t i),none⟩:=Eq.trans rfl rfl
theorem qBm (d i j:Nat) (b:Bool):gmv d i j b=⟨some d,.mov (.t i),some (j,b)⟩:=Eq.trans rfl rfl
theorem qBi (d k i j:Nat) (b:Bool):gfA d k i j b=⟨some d,.fa k (.t i),some (j,b)⟩:=Eq.trans rfl rfl
theorem qBj (d i j:Nat) (b:Bool):gld d i j b=⟨some d,.ld none (.t i),some (j,b)⟩:=Eq.trans rfl rfl
theorem qBl (d k i j:Nat) (b:Bool):gls d k i j b=⟨some d,.ld (some k) (.t i),some (j,b)⟩:=Eq.trans rfl rfl
theorem qBk (d i j:Nat) (b:Bool):gln d i j b=⟨some d,.len false (.t i),some (j,b)⟩:=Eq.trans rfl rfl
theorem qBf (d:Nat) (o:BinOp) (i:Nat) (n:Int) (j:Nat) (b:Bool):gbk d o i n j b=⟨some d,.bin o (.t i) (.c (.int .i64 n)),some (j,b)⟩:=Eq.trans rfl rfl
theorem qBg (d:Nat) (o:BinOp) (i i2 j:Nat) (b:Bool):gbt d o i i2 j b=⟨some d,.bin o (.t i) (.t i2),some (j,b)⟩:=Eq.trans rfl rfl
theorem qEt (i:Nat) (a b:qF):cT i a b=.cond (.t i) a b:=Eq.trans rfl rfl
theorem qF5 (l:List qae) (c:qF):sR l c=.seq (.reg l) c:=Eq.trans rfl rfl
def sT:=PLift.up (And.intro (And.intro (And.intro (And.intro (And.intro (And.intro (And.intro (And.intro @qn9 (And.intro @qkY @qsC)) (And.intro (And.intro @qkX @qn8) (And.intro @qiG @qCP))) (And.intro (And.intro @qkW (And.intro @qr6 @qr4)) (And.intro (And.intro @qkO @qv8) (And.intro @qr5 @qtf)))) (And.intro (And.intro (And.intro @qnO (And.intro @qnP @qkZ)) (And.intro (And.intro @qiJ @qrN) (And.intro @qnl @qyB))) (And.intro (And.intro (And.intro @qvN @qm3) (And.intro @qm1 @qpG)) (And.intro (And.intro @qlP @qjb) (And.intro @qlN @qlO))))) (And.intro (And.intro (And.intro (And.intro @qpr (And.intro @qpx @qpy)) (And.intro (And.intro @qpw @qtk) (And.intro @qpt @qpu))) (And.intro (And.intro @qps (And.intro @qpv @qpF)) (And.intro (And.intro @qpE @qlR) (And.intro @qlQ @qti)))) (And.intro (And.intro (And.intro @qlM (And.intro @qlL @qpC)) (And.intro (And.intro @qpB @qpA) (And.intro @qpz @qpD))) (And.intro (And.intro (And.intro @qtj @qpH) (And.intro @qqt @qsp)) (And.intro (And.intro @qo8 @qmi) (And.intro @qnX @qlq)))))) (And.intro (And.intro (And.intro (And.intro (And.intro @qjl (And.intro @qkQ @qiS)) (And.intro (And.intro @qmg @qnV) (And.intro @qlo @qtM))) (And.intro (And.intro @qwb (And.intro @qs4 @qmh)) (And.intro (And.intro @qnW @qlp) (And.intro @qqd @qr9)))) (And.intro (And.intro (And.intro @qoS (And.intro @qqk @qsg)) (And.intro (And.intro @qoZ @qql) (And.intro @qsh @qo0))) (And.intro (And.intro (And.intro @qqj @qsf) (And.intro @qoY @qtP)) (And.intro (And.intro @qwe @qs7) (And.intro @qqg @qsc))))) (And.intro (And.intro (And.intro (And.intro @qoV (And.intro @qqh @qsd)) (And.intro (And.intro @qoW @qqf) (And.intro @qqi @qsb))) (And.intro (And.intro (And.intro @qse @qoU) (And.intro @qoX @qqs)) (And.intro (And.intro @qso @qo7) (And.intro @qqr @qsn)))) (And.intro (And.intro (And.intro @qo6 (And.intro @qmk @qnZ)) (And.intro (And.intro @qls @qmj) (And.intro @qnY @qlr))) (And.intro (And.intro (And.intro @qtL @qwa) (And.intro @qs3 @qmf)) (And.intro (And.intro @qnU @qln) (And.intro @qme @qnT))))))) (And.intro (And.intro (And.intro (And.intro (And.intro (And.intro @qlm (And.intro @qqp @qsl)) (And.intro (And.intro @qo4 @qqo) (And.intro @qsk @qo3))) (And.intro (And.intro @qqn (And.intro @qsj @qo2)) (And.intro (And.intro @qqm @qsi) (And.intro @qo1 @qqq)))) (And.intro (And.intro (And.intro @qsm (And.intro @qo5 @qtN)) (And.intro (And.intro @qwc @qs5) (And.intro @qqx @qss))) (And.intro (And.intro (And.intro @qpb @qqc) (And.intro @qr8 @qoR)) (And.intro (And.intro @qqu @qsq) (And.intro @qo9 @qqe))))) (And.intro (And.intro (And.intro (And.intro @qsa (And.intro @qoT @qtO)) (And.intro (And.intro @qwd @qs6) (And.intro @qmd @qnS))) (And.intro (And.intro @qll (And.intro @qqb @qr7)) (And.intro (And.intro @qoQ @qqw) (And.intro @qsr @qpa)))) (And.intro (And.intro (And.intro @qCM (And.intro @qzQ @qxE)) (And.intro (And.intro @qxD @qzL) (And.intro @qzE @qp8))) (And.intro (And.intro (And.intro @qzH @quS) (And.intro @qzO @qp7)) (And.intro (And.intro @qu0 @qp6) (And.intro @qzM @qzI)))))) (And.intro (And.intro (And.intro (And.intro (And.intro @qCI (And.intro @quX @qxw)) (And.intro (And.intro @qtD @qxy) (And.intro @qzF @qvI))) (And.intro (And.intro @qu1 (And.intro @qtr @qts)) (And.intro (And.intro @qzJ @quZ) (And.intro @quY @quW)))) (And.intro (And.intro (And.intro @qsG (And.intro @quU @qn6)) (And.intro (And.intro @quV @quT) (And.intro @qrS @qzG))) (And.intro (And.intro (And.intro @qrT @qzK) (And.intro @qzq @qwS)) (And.intro (And.intro @qzN @ql8) (And.intro @qnc @qnb))))) (And.intro (And.intro (And.intro (And.intro @qt0 (And.intro @qtZ @qmB)) (And.intro (And.intro @qrf @qmA) (And.intro @qre @qkB))) (And.intro (And.intro (And.intro @qkD @qkC) (And.intro @qir @qiw)) (And.intro (And.intro @qhq @qpW) (And.intro @qpX @qEv)))) (And.intro (And.intro (And.intro @qEu (And.intro @qCO @qCN)) (And.intro (And.intro @qh @qwO) (And.intro @qwP @qpN))) (And.intro (And.intro (And.intro @qpM @qnN) (And.intro @qnM @qkL)) (And.intro (And.intro @qnH @qnK) (And.intro @qhs @qnJ)))))))) (And.intro (And.intro (And.intro (And.intro (And.intro (And.intro (And.intro @qkN (And.intro @qnF @qnL)) (And.intro (And.intro @qr0 @qr1) (And.intro @qkM @qnI))) (And.intro (And.intro @qiB (And.intro @qnG @qrX)) (And.intro (And.intro @qv2 @qv5) (And.intro @qv4 @qrZ)))) (And.intro (And.intro (And.intro @qv1 (And.intro @qv6 @qyE)) (And.intro (And.intro @qnE @qkK) (And.intro @qiA @qhr))) (And.intro (And.intro (And.intro @qnD @qv7) (And.intro @qyG @qrY)) (And.intro (And.intro @qv3 @qyF) (And.intro @qbD @qcY))))) (And.intro (And.intro (And.intro (And.intro @qwt (And.intro @qxQ @qqV)) (And.intro (And.intro @qwu @qiN) (And.intro @qxP @qon))) (And.intro (And.intro @qqU (And.intro @qk3 @qu5)) (And.intro (And.intro @qg2 @qnd) (And.intro @qne @qnh)))) (And.intro (And.intro (And.intro @qkF (And.intro @qnf @qng)) (And.intro (And.intro @qho @qrL) (And.intro @qgd @qiu))) (And.intro (And.intro (And.intro @qni @qrQ) (And.intro @qpj @qte)) (And.intro (And.intro @qpk @qqC) (And.intro @qqD @qxT)))))) (And.intro (And.intro (And.intro (And.intro (And.intro @qqZ (And.intro @quc @quf)) (And.intro (And.intro @qq0 @qud) (And.intro @que @qq1))) (And.intro (And.intro @qjx (And.intro @qib @qxW)) (And.intro (And.intro @qug @qg5) (And.intro @qmt @qjg)))) (And.intro (And.intro (And.intro @qlX (And.intro @qpP @qpS)) (And.intro (And.intro @qhQ @qpR) (And.intro @qpU @qlY))) (And.intro (And.intro (And.intro @qpQ @qgT) (And.intro @qgf @qjf)) (And.intro (And.intro @qtp @qpO) (And.intro @qpT @qlV))))) (And.intro (And.intro (And.intro (And.intro @qje (And.intro @qua @qwk)) (And.intro (And.intro @qsH @qp4) (And.intro @ql3 @qth))) (And.intro (And.intro (And.intro @qtg @qsJ) (And.intro @qqE @qjL)) (And.intro (And.intro @qvx @qvH) (And.intro @qvD @qvF)))) (And.intro (And.intro (And.intro @qvG (And.intro @qvy @qvE)) (And.intro (And.intro @qvC @qvB) (And.intro @qvA @qvz))) (And.intro (And.intro (And.intro @qxX @qxY) (And.intro @qx1 @qx0)) (And.intro (And.intro @qxZ @qz3) (And.intro @qz4 @qmb))))))) (And.intro (And.intro (And.intro (And.intro (And.intro (And.intro @qjk (And.intro @qtK @qxA)) (And.intro (And.intro @qhE @qiP) (And.intro @qoB @qlh))) (And.intro (And.intro @qhF (And.intro @qgO @qiQ)) (And.intro (And.intro @qwE @qvt) (And.intro @qoO @qBq)))) (And.intro (And.intro (And.intro @qAx (And.intro @qwG @qBp)) (And.intro (And.intro @qAw @qwF) (And.intro @qyY @qyr))) (And.intro (And.intro (And.intro @qsZ @qyU) (And.intro @qyn @qsV)) (And.intro (And.intro @qBs @qAz) (And.intro @qwI @qwC))))) (And.intro (And.intro (And.intro (And.intro @qvr (And.intro @qoM @qyT)) (And.intro (And.intro @qym @qsU) (And.intro @qyQ @qyj))) (And.intro (And.intro (And.intro @qsR @qyZ) (And.intro @qys @qs0)) (And.intro (And.intro @qyW @qyp) (And.intro @qsX @qwA)))) (And.intro (And.intro (And.intro @qvp (And.intro @qoK @qyX)) (And.intro (And.intro @qyq @qsY) (And.intro @qwB @qvq))) (And.intro (And.intro (And.intro @qoL @qyV) (And.intro @qyo @qsW)) (And.intro (And.intro @qwz @qvo) (And.intro @qoJ @qyP)))))) (And.intro (And.intro (And.intro (And.intro (And.intro @qyi (And.intro @qsQ @qww)) (And.intro (And.intro @qvl @qoG) (And.intro @qyR @qyk))) (And.intro (And.intro @qsS (And.intro @qwx @qvm)) (And.intro (And.intro @qoH @qyS) (And.intro @qyl @qsT)))) (And.intro (And.intro (And.intro @qwy (And.intro @qvn @qoI)) (And.intro (And.intro @qBr @qAy) (And.intro @qwH @qy0))) (And.intro (And.intro (And.intro @qyt @qs1) (And.intro @qwD @qvs)) (And.intro (And.intro @qoN @qsO) (And.intro @qrC @qlj))))) (And.intro (And.intro (And.intro (And.intro @qsP (And.intro @qrD @qlk)) (And.intro (And.intro @qol @qk0) (And.intro @qiK @qBn))) (And.intro (And.intro (And.intro @qsN @qoC) (And.intro @qlf @qlg)) (And.intro (And.intro @qle @qiO) (And.intro @qwK @qs8)))) (And.intro (And.intro (And.intro @qsz (And.intro @qsB @qsA)) (And.intro (And.intro @qn4 @qxJ) (And.intro @qxK @qt1))) (And.intro (And.intro (And.intro @qkH @ql5) (And.intro @ql4 @ql6)) (And.intro (And.intro @qpn @qlK) (And.intro @qpm @qlJ)))))))))
def sC:=PLift.up (And.intro (And.intro (And.intro (And.intro (And.intro @List.nil_append.{0} (And.intro @List.append_nil.{0} @List.map_cons.{0,0})) (And.intro (And.intro @List.map_nil.{0,0} @List.length_cons.{0}) (And.intro @List.length_nil.{0} @List.cons_append.{0}))) (And.intro (And.intro (And.intro (And.intro (And.intro (And.intro (And.intro (And.intro (And.intro (And.intro (And.intro (And.intro (And.intro (And.intro (And.intro (And.intro (And.intro (And.intro (And.intro (And.intro (And.intro (And.intro (And.intro (And.intro (And.intro (And.intro (And.intro (And.intro (And.intro (And.intro (And.intro (And.intro (And.intro (And.intro (And.intro (And.intro (And.intro (And.intro (And.intro (And.intro (And.intro (And.intro @qAv @qF1) @qF6) @qEG) @qCB) @qCC) @qCX) @qCW) @qDi) @qCE) @qDh) @qCD) @qEK) @qEJ) @qEL) @qEM) @qF2) @qGj) @qGi) @qAW) @qAQ) @qAR) @qCT) @qCR) @qCS) @qAT) @qAU) @qCJ) @qCK) @qAS) @qCH) @qBm) @qBi) @qBj) @qBl) @qBk) @qBf) @qBg) @qEt) @qF5) @qAt) (And.intro @qAu @Option.map_some.{0,0})) (And.intro (And.intro @ne_eq.{1} @not_false_eq_true) (And.intro @List.length_set.{0} @List.length_replicate.{0})))) (And.intro (And.intro (And.intro @Bool.or_false (And.intro @Bool.or_true @Bool.false_or)) (And.intro (And.intro @Bool.true_or @Bool.and_true) (And.intro @Bool.and_false @Bool.true_and))) (And.intro (And.intro (And.intro @Bool.false_and @Bool.not_true) (And.intro @Bool.not_false @eq_self.{1})) (And.intro (And.intro @List.getElem?_cons_zero.{0} @List.getElem?_cons_succ.{0}) (And.intro @List.set_cons_zero.{0} @List.set_cons_succ.{0}))))) (And.intro (And.intro (And.intro (And.intro @List.append_assoc.{0} (And.intro @List.length_append.{0} @qqY)) (And.intro (And.intro @List.take_zero.{0} @List.drop_zero.{0}) (And.intro @List.take_succ_cons.{0} @List.drop_succ_cons.{0}))) (And.intro (And.intro (And.intro @List.drop_nil.{0} @List.take_nil.{0}) (And.intro @List.all_cons.{0} @List.all_nil.{0})) (And.intro (And.intro @Option.getD_some.{0} @Option.getD_none.{0}) (And.intro @and_self @and_true)))) (And.intro (And.intro (And.intro (And.intro @true_and @if_true.{1}) (And.intro @if_false.{1} @Nat.le_refl)) (And.intro (And.intro @Nat.ble_self_eq_true @Nat.zero_add) (And.intro @Nat.add_zero @beq_self_eq_true.{0}))) (And.intro (And.intro (And.intro @Bool.false_eq_true @bne_self_eq_false.{0}) (And.intro @List.isEmpty_nil.{0} @List.isEmpty_cons.{0})) (And.intro (And.intro @cond_true.{1} @cond_false.{1}) (And.intro @List.filterMap_cons.{0,0} @List.filterMap_nil.{0,0}))))))
def sTA:=PLift.up (And.intro (And.intro (And.intro (And.intro @qxG (And.intro @qxz @qkb)) (And.intro @qh0 (And.intro @qzD @qui))) (And.intro (And.intro @quj (And.intro @qvj @qrA)) (And.intro @qvk (And.intro @qyh @qmW)))) (And.intro (And.intro (And.intro @qx4 (And.intro @qq9 @qum)) (And.intro @qq6 (And.intro @qmx @qq7))) (And.intro (And.intro @qq5 (And.intro @qjy @qq4)) (And.intro @qxS (And.intro @qtX @qxC)))))
def sCA:=PLift.up (And.intro (And.intro @List.filter_cons.{0} @List.filter_nil.{0}) (And.intro @List.find?_cons.{0} @List.find?_nil.{0}))
end Go.AE
namespace Go.AE
section
variable {base:Nat} {call:Call} {p:qcj} {s:St} {t:List qf} {h:List qq}
def hxW (d:Option Nat) (s:St):Option (qf×List qq×Bool)→Option (Ex×St)
 | some (v,h,e)=>some (.nor,{ t:=put d v.dim s.t,h,e:=s.e || e})
 | none=>none
theorem qT (d:Option Nat) (t:List qf) (h h':List qq) (e e':Bool) (v:qf):hxW d ⟨t,h,e⟩ (some (v,h',e')) = some (.nor,⟨put d v.dim t,h',e || e'⟩):=rfl
theorem qa6 (d:Option Nat) (o:HOp) (aS:List qn):qz base call p d (.hx o aS) s = hxW d s (hop base o (aS.map (ev s.t)) s.h):=by
 simp only [qz]
 cases hop base o (aS.map (ev s.t)) s.h with
 | none=>rfl
 | some r=>rfl
theorem qV (o:HOp) (aS:List qn):(AOp.hx o aS).plain = false:=Eq.trans rfl rfl
theorem qak (o:HOp) (aS:List qn):(AOp.hx o aS).effs = true:=Eq.trans rfl rfl
theorem qU (o:HOp) (aS:List qn):(AOp.hx o aS).isApp = false:=Eq.trans rfl rfl
theorem qpp (id o len cap more:Nat):qmK false (.sl id o len cap more) = some (.int .i64 len):=rfl
theorem qaN (id o len cap more:Nat):(qf.sl id o len cap more).dim = .sl id o len cap more:=rfl
theorem qag (id o len cap more i:Nat) (t:List qf):qbZ (.sl id o len cap more) i t = t:=rfl
theorem qaY (id o len cap more:Nat):(qf.sl id o len cap more).storable = true:=Eq.trans rfl rfl
theorem qaG (id o len cap more:Nat):(qf.sl id o len cap more).cells = [.sl id o len cap more]:=rfl
theorem qaB (n id o len cap more:Nat):(qf.sl id o len cap more).lower n = Nat.blt id n:=Eq.trans rfl rfl
theorem qpe (k id o len cap more:Nat) (j:IntKind) (n:Int):qa3 k (.sl id o len cap more) (.int j n) = if 0 ≤ n∧n < len then some (.ptr id (o + n.toNat * k)) else none:=rfl
end
end Go.AE
namespace Go.AE
section
variable {P:Program} {gl:Nat→Option (List qf)}
noncomputable def cellsOf (W:World):Nat→Nat→Option Value:=fun b o=>qkG (W.cell? ⟨b,o,none⟩)
def qvT (P:Program) (S:List TypeId):Bool:=S.all fun t=>decide (t < P.types.size) && P.readableRec t && match P.underlying t with
 | some .bool | some (.int _) | some .string=>true
 | some (.slice e)=>S.contains e && decide (0 < P.cellsOf e)
 | some (.struct fs)=>fs.toList.all fun f=>S.contains f.type
 | _=>false
def qbU (P:Program) (t:TypeId):Bool:=
 match P.underlying t with
 | some (.struct _)=>true
 | _=>false
def el (P:Program) (t:TypeId) (cs:List qf):qf:=bif qbU P t then .agg cs else cs.headD .undef
def qgD (R:TypeId→List qf→Prop):List TypeId→List (List qf)→Prop
 | [],[]=>True
 | t :: ts,a :: aS=>R t a∧qgD R ts aS
 | _,_=>False
def qcH (P:Program):Nat→TypeId→List qf→Prop
 | 0,_,_=>False
 | n + 1,t,aS=>
  match P.underlying t with
  | some .bool=>∃b,aS = [.bool b]
  | some (.int k)=>∃z,aS = [.int k z]∧(Lit.int k z).wf = true
  | some .string=>∃s:List UInt8,aS = [.str s]∧s.length ≤ maxLen
  | some (.slice e)=>∃xs:List (List qf),aS = [.lst (xs.map (el P e)) .no]∧xs.length ≤ maxLen∧∀x ∈ xs,qcH P n e x
  | some (.struct fs)=>∃ass:List (List qf),aS = ass.flatten∧qgD (qcH P n) (fs.toList.map (·.type)) ass
  | _=>False
theorem qhf {γ:Nat→Option Nat} {imm:Nat→Nat→Option Value} {k:Nat} {b:Nat}:∀(xs:List qf) (p:Nat),(∀(i:Nat) (x:qf),xs[i]? = some x→x.cells.length = k∧qao γ imm x.cells b (p + i * k))→qQ γ imm xs b p
 | [],_,_=>trivial
 | x :: xs,p,h=>by
  obtain ⟨h1,h2⟩:=h 0 x rfl
  have ih:=qhf xs (p + k) fun i y hy=>by
   obtain ⟨k1,k2⟩:=h (i + 1) y (by simpa using hy)
   refine ⟨k1,?_⟩
   rw [Nat.add_mul,Nat.one_mul] at k2
   rw [Nat.add_assoc,Nat.add_comm k]
   exact k2
  simp only [Nat.zero_mul,Nat.add_zero] at h2
  cases x with
  | agg cs=>simp only [qf.cells] at h1 h2;simp only [qQ,h1];exact ⟨h2,ih⟩
  | _=>
   simp only [qf.cells,List.length_cons,List.length_nil,Nat.zero_add] at h1
   subst h1
   simp only [qf.cells,qao] at h2
   exact ⟨h2.1,ih⟩
theorem qhe {γ:Nat→Option Nat} {W:World} {b:Nat}:∀(aS:List qf) (vs:List Value) (p:Nat),qr γ (cellsOf W) aS vs→(∀i,i < vs.length→W.cell? ⟨b,p + i,none⟩ = vs[i]?)→qao γ (cellsOf W) aS b p
 | [],_,_,_,_=>trivial
 | a :: aS,vs,p,h,hc=>by
  simp only [qr] at h
  obtain ⟨v,rest,rfl,h1,h2⟩:=h
  refine ⟨⟨v,qa2.2 ⟨by simpa using hc 0 (by simp),qcw h1⟩,h1⟩,qhe aS rest (p + 1) h2 fun i hi=>?_⟩
  have:=hc (i + 1) (by simpa using hi)
  rw [Nat.add_assoc,Nat.add_comm 1]
  simpa using this
theorem qf7 {γ:Nat→Option Nat} {imm:Nat→Nat→Option Value} {R:TypeId→List qf→Prop} {size:TypeId→Nat}:∀(fs:List Field) (o:Nat) (cs:List Value),cs.length = o + (fs.map fun f=>size f.type).sum→
  (∀(j:Nat) f,fs[j]? = some f→f.offset = o + ((fs.take j).map fun f=>size f.type).sum)→(∀f ∈ fs,∃aS,qr γ imm aS ((cs.drop f.offset).take (size f.type))∧R f.type aS)→
  ∃ass:List (List qf),qr γ imm ass.flatten (cs.drop o)∧qgD R (fs.map (·.type)) ass
 | [],o,cs,hl,_,_=>⟨[],by simp only [List.map_nil,List.sum_nil,Nat.add_zero] at hl;simp [qr,←hl],trivial⟩
 | f :: fs,o,cs,hl,ho,hr=>by
  have h0:f.offset = o:=by simpa using ho 0 f rfl
  obtain ⟨aS,h1,h2⟩:=hr f (List.mem_cons_self ..)
  rw [h0] at h1
  simp only [List.map_cons,List.sum_cons] at hl
  obtain ⟨ass,h3,h4⟩:=qf7 fs (o + size f.type) cs (by omega) (fun j g hg=>by
   have:=ho (j + 1) g (by simpa using hg)
   simp only [List.take_succ_cons,List.map_cons,List.sum_cons] at this
   omega) (fun g hg=>hr g (List.mem_cons_of_mem _ hg))
  refine ⟨aS :: ass,?_,h2,h4⟩
  have e:cs.drop o = (cs.drop o).take (size f.type) ++ cs.drop (o + size f.type):=by
   rw [←List.drop_drop,List.take_append_drop]
  rw [e,List.flatten_cons]
  exact qr.append h1 h3
theorem qcH.cells_el {n:Nat} {t:TypeId} {x:List qf} (h:qcH P n t x):(el P t x).cells = x:=by
 cases n with
 | zero=>exact h.elim
 | succ n=>
  simp only [qcH] at h
  simp only [el,qbU]
  split at h
  ·rename_i hu;obtain ⟨b,rfl⟩:=h;rw [hu];rfl
  ·rename_i hu;obtain ⟨b,rfl,_⟩:=h;rw [hu];rfl
  ·rename_i hu;obtain ⟨b,rfl,_⟩:=h;rw [hu];rfl
  ·rename_i hu;obtain ⟨b,rfl,_⟩:=h;rw [hu];rfl
  ·rename_i hu;rw [hu];rfl
  ·exact h.elim
theorem qno {α:Type} {Q:Nat→α→Prop}:∀len:Nat,(∀i,i < len→∃a,Q i a)→∃xs:List α,xs.length = len∧∀i x,xs[i]? = some x→Q i x
 | 0,_=>⟨[],rfl,fun i x h=>by simp at h⟩
 | len + 1,h=>by
  obtain ⟨xs,h1,h2⟩:=qno len fun i hi=>h i (by omega)
  obtain ⟨y,h3⟩:=h len (by omega)
  refine ⟨xs ++ [y],by simp [h1],fun i x hi=>?_⟩
  rcases Nat.lt_or_ge i xs.length with hlt | hge
  ·rw [List.getElem?_append_left hlt] at hi;exact h2 i x hi
  ·rw [List.getElem?_append_right hge] at hi
   have:i - xs.length = 0:=by
    rcases Nat.eq_zero_or_pos (i - xs.length) with h | h
    ·exact h
    ·rw [List.getElem?_eq_none (by simp only [List.length_cons,List.length_nil];omega)] at hi;cases hi
   rw [this] at hi
   simp only [List.getElem?_cons_zero,Option.some.injEq] at hi
   subst hi
   have:i = len:=by omega
   subst this
   exact h3
theorem quy {a:Addr} (h:a.spot = none) (n:Nat):a.add n = ⟨a.block,a.off + n,none⟩:=by
 unfold Addr.add
 split
 ·rename_i h0
  subst h0
  cases a
  simp_all
 ·rfl
theorem qhZ {H:Type} {enc:TypeId×Value→H} {W:World} {base:Nat} {sp:Nat→Bool} {held:Bool} {S:List TypeId} (hl:laidOutB P = true) (hS:qvT P S = true):∀(n:Nat) (t:TypeId) (cs:List Value) (x:DataW H×List MemPlace),t ∈ S→
  DataW.trod enc P W base sp held n t cs = some x→∃aS,qr (fun _=>none) (cellsOf W) aS cs∧qcH P n t aS
 | 0,t,cs,x,_,h=>by simp [DataW.trod] at h
 | n + 1,t,cs,x,ht,h=>by
  have hd:=List.all_eq_true.1 hS t ht
  simp only [Bool.and_eq_true,decide_eq_true_eq] at hd
  obtain ⟨⟨hrow,_⟩,hd⟩:=hd
  have ih:=qhZ (base:=base) (sp:=sp) (held:=held) (enc:=enc) (W:=W) hl hS n
  split at hd
  ·rename_i hu
   obtain ⟨b,rfl,_⟩:=DataW.trod_bool hu h
   exact ⟨[.bool b],by simp [qr,qB],by simp only [qcH,hu];exact ⟨b,rfl⟩⟩
  ·rename_i k hu
   obtain ⟨z,rfl,_,hw⟩:=DataW.trod_int hu h
   exact ⟨[.int k z],by simp [qr,qB],by simp only [qcH,hu];exact ⟨z,rfl,hw⟩⟩
  ·rename_i hu
   obtain ⟨s,rfl,_,hw⟩:=DataW.trod_string hu h
   exact ⟨[.str s.data.toList],by simp only [qr,qB];exact ⟨_,_,rfl,⟨s,rfl,rfl⟩,rfl⟩,by simp only [qcH,hu];exact ⟨_,rfl,by simpa using hw⟩⟩
  ·rename_i e hu
   simp only [Bool.and_eq_true,decide_eq_true_eq,List.contains_iff_mem] at hd
   obtain ⟨he,hpos⟩:=hd
   rcases DataW.trod_slice hu h with ⟨rfl,_⟩ | ⟨a,len,cap,elems,rest,m,hm,rfl,_,hb,hlc,hcm,hel,hget,_⟩
   ·refine ⟨[.lst [] .no],?_,by simp only [qcH,hu];exact ⟨[],rfl,Nat.zero_le _,fun _ h=>by cases h⟩⟩
    simp only [qr,qB]
    exact ⟨_,_,rfl,⟨none,0,0,rfl,rfl,Nat.le_refl _,by simp,by simp,⟨0,fun _ h=>by cases h⟩,.inl trivial⟩,rfl⟩
   ·cases hm
    have one:∀i,i < len→∃aS:List qf,(∃cs',W.cells? base (a.add (i * P.cellsOf e)) (P.cellsOf e) = some cs'∧qr (fun _=>none) (cellsOf W) aS cs')∧qcH P n e aS:=by
     intro i hi
     have hg:=hget i hi
     rw [List.getElem?_eq_getElem (by omega)] at hg
     simp only [Option.bind_eq_some_iff] at hg
     obtain ⟨cs',h1,h2⟩:=hg
     obtain ⟨aS,h3,h4⟩:=ih e cs' _ he h2
     exact ⟨aS,⟨cs',h1,h3⟩,h4⟩
    obtain ⟨xs,hxl,hx⟩:=qno len one
    refine ⟨[.lst (xs.map (el P e)) .no],?_,by simp only [qcH,hu];exact ⟨xs,rfl,by omega,fun x hxm=>by obtain ⟨i,hi⟩:=List.getElem?_of_mem hxm;exact (hx i x hi).2⟩⟩
    simp only [qr,qB]
    refine ⟨_,_,rfl,⟨some a,len,cap,rfl,by simp [hxl],hlc,by simp,by simp,⟨P.cellsOf e,fun y hy=>?_⟩,?_⟩,rfl⟩
    ·obtain ⟨x,hxm,rfl⟩:=List.mem_map.1 hy
     obtain ⟨i,hi⟩:=List.getElem?_of_mem hxm
     obtain ⟨⟨cs',h1,h2⟩,h3⟩:=hx i x hi
     rw [h3.cells_el,h2.length,(World.cells?_some h1).2.1]
    ·rcases Nat.eq_zero_or_pos len with h0 | h0
     ·left
      have:xs = []:=List.eq_nil_of_length_eq_zero (by omega)
      simp [this]
     ·right
      have hspot:a.spot = none:=by
       obtain ⟨⟨cs',h1,h2⟩,_⟩:=hx 0 xs[0] (List.getElem?_eq_getElem (by omega))
       obtain ⟨_,h3,h4⟩:=World.cells?_some h1
       have h5:=h4 0 hpos
       rw [List.getElem?_eq_getElem (by omega)] at h5
       simp only [Nat.zero_mul,Addr.add,if_pos] at h5
       cases hsp:a.spot with
       | none=>rfl
       | some s=>
        simp only [World.cell?] at h5
        split at h5
        ·simp [hsp] at h5
        ·cases h5
      refine ⟨a.block,a.off,by rw [←hspot],qhf (k:=P.cellsOf e) _ _ fun i y hy=>?_⟩
      rw [List.getElem?_map,Option.map_eq_some_iff] at hy
      obtain ⟨x,hi,rfl⟩:=hy
      obtain ⟨⟨cs',h1,h2⟩,h3⟩:=hx i x hi
      obtain ⟨_,h4,h5⟩:=World.cells?_some h1
      rw [h3.cells_el]
      refine ⟨by rw [h2.length,h4],qhe x cs' _ h2 fun j hj=>?_⟩
      have h6:=h5 j (by omega)
      rw [←h6]
      rw [quy hspot,quy rfl,Nat.add_assoc]
  ·rename_i fs hu
   simp only [List.all_eq_true,List.contains_iff_mem] at hd
   obtain ⟨xs,m,hm,_,hlen,_,hget⟩:=DataW.trod_struct hu h
   cases hm
   obtain ⟨_,h2,h3⟩:=kid_struct hl hrow hu
   obtain ⟨ass,h4,h5⟩:=qf7 (γ:=fun _=>none) (imm:=cellsOf W) (R:=qcH P n) (size:=P.cellsOf) fs.toList 0 cs (by rw [hlen,h2];simp) (fun j f hj=>by rw [h3 j f hj];simp) (fun f hf=>by
    obtain ⟨i,hi⟩:=List.getElem?_of_mem hf
    have hi':fs[i]? = some f:=by simpa using hi
    have hg:=hget i f hi'
    have hil:i < xs.length:=by
     have:=(Array.getElem?_eq_some_iff.1 hi').1
     omega
    rw [List.getElem?_eq_getElem hil] at hg
    exact ih f.type _ _ (hd f hf) hg)
   exact ⟨ass.flatten,by simpa using h4,by simp only [qcH,hu];exact ⟨ass,rfl,h5⟩⟩
  ·cases hd
theorem qtE {H:Type} {enc:TypeId×Value→H} {W W0:World} {base b0:Nat} {r:Reach} {sp:Nat→Bool} {held:Bool} {S:List TypeId} (hl:laidOutB P = true) (hS:qvT P S = true) {t:TypeId} (ht:t ∈ S) {v:Value} {d:DataW H} {ps:List MemPlace}
  (hok:Value.okWide P W0 r b0 t v) (h:DataW.Trod enc P W base sp held t v d ps):∃n aS,qcH P n t aS∧qB (fun _=>none) (cellsOf W) (el P t aS) v:=by
 obtain ⟨n,hn⟩:=h
 obtain ⟨aS,h1,h2⟩:=qhZ hl hS n t _ _ ht hn
 refine ⟨n,aS,h2,?_⟩
 have hd:=List.all_eq_true.1 hS t ht
 simp only [Bool.and_eq_true,decide_eq_true_eq] at hd
 obtain ⟨_,hd⟩:=hd
 have scalar:qbU P t = false→v.cells = #[v]→qB (fun _=>none) (cellsOf W) (el P t aS) v:=by
  intro hs hv
  rw [hv] at h1
  simp only [el,hs,cond_false]
  cases aS with
  | nil=>simp [qr] at h1
  | cons a aS=>
   simp only [qr] at h1
   obtain ⟨u,rest,he,h3,h4⟩:=h1
   cases he
   exact h3
 split at hd
 ·rename_i hu
  simp only [Value.okWide,hu,Cell.okWide,Cell.ok] at hok
  refine scalar (by simp [qbU,hu]) ?_
  cases v <;> first | rfl | (exact hok.elim)
 ·rename_i k hu
  simp only [Value.okWide,hu,Cell.okWide,Cell.ok] at hok
  refine scalar (by simp [qbU,hu]) ?_
  cases v <;> first | rfl | (exact hok.elim)
 ·rename_i hu
  simp only [Value.okWide,hu,Cell.okWide,Cell.ok] at hok
  refine scalar (by simp [qbU,hu]) ?_
  cases v <;> first | rfl | (exact hok.elim)
 ·rename_i e hu
  simp only [Value.okWide,hu,Cell.okWide,Cell.ok] at hok
  refine scalar (by simp [qbU,hu]) ?_
  cases v <;> first | rfl | (exact hok.elim)
 ·rename_i fs hu
  simp only [Value.okWide,hu] at hok
  obtain ⟨cs,rfl,_⟩:=hok
  simp only [el,qbU,hu,cond_true,qB]
  exact ⟨cs,rfl,h1⟩
 ·cases hd
noncomputable def qm.whole (W:World):qm:={ γ:=fun _=>none,imm:=fun b o=>match W.heap[b]? with | some (.cells c _ (0,0))=>if 0 < o∧o = c.size then some qcp else cellsOf W b o | _=>cellsOf W b o,ow:=fun _=>none}
theorem qid {W:World} {b o:Nat} {v:Value} (hv:(qm.whole W).imm b o = some v):(v ≠ qcp→W.cell? ⟨b,o,none⟩ = some v∧b < W.heap.size)∧(v = qcp→0 < o∧∃c e,W.heap[b]? = some (.cells c e (0,0))∧o = c.size):=by
 have key:cellsOf W b o = some v→(v ≠ qcp→W.cell? ⟨b,o,none⟩ = some v∧b < W.heap.size)∧(v = qcp→0 < o∧∃c e,W.heap[b]? = some (.cells c e (0,0))∧o = c.size):=fun hv=>by
  obtain ⟨k1,k2⟩:=qa2.1 hv
  refine ⟨fun _=>⟨k1,?_⟩,fun q=>absurd q k2⟩
  rcases Nat.lt_or_ge b W.heap.size with hb | hb
  ·exact hb
  ·simp [World.cell?,Array.getElem?_eq_none hb] at k1
 simp only [qm.whole] at hv
 split at hv
 ·rename_i c e h1
  split at hv
  ·rename_i hh
   cases hv
   exact ⟨fun q=>absurd rfl q,fun _=>⟨hh.1,c,e,h1,hh.2⟩⟩
  ·exact key hv
 ·exact key hv
theorem qkv {W:World} {b o:Nat} {v:Value} (hv:cellsOf W b o = some v):(qm.whole W).imm b o = some v:=by
 simp only [qm.whole]
 split
 ·rename_i c e h1
  split
  ·rename_i hh
   have:=(qa2.1 hv).1
   simp [World.cell?,h1,hh.2] at this
  ·exact hv
 ·exact hv
theorem qrm {W:World} (h:qAs gl W):Rel P gl (qm.whole W) [] W∧qda (qm.whole W):=by
 refine ⟨⟨(fun _ _ h=>by cases h),(fun _ _ _ h=>by cases h),(fun _ _ _ h=>by cases h),fun b o v hv hm=>(qid hv).1 hm,(fun _ _ _ _ _ _ h=>by cases h),(fun b o hv=>(qid hv).2 rfl),(fun _ _ h=>by cases h),fun g cs hg=>?_⟩,(fun _ _ h=>by cases h)⟩
 obtain ⟨h1,vs,h2,h3,h4⟩:=h g cs hg
 refine ⟨⟨qao.of_get fun i c hc=>?_,fun h0=>?_⟩,h1⟩
 ·obtain ⟨v,hv,hr⟩:=h2.get hc
  refine ⟨v,?_,?_⟩
  ·rw [Nat.zero_add]
   exact qkv (qa2.2 ⟨h3 i v hv,qcw hr⟩)
  ·exact qB.mono (fun _ _ _ h=>by cases h) 0 (fun i _ hi=>absurd hi (Nat.not_lt_zero _)) c v (qdv h1 hc) hr
 ·obtain ⟨c,e,k1,k2⟩:=h4 h0
  simp only [qm.whole,k1]
  rw [if_pos ⟨h0,k2⟩]
theorem qmF {n:Nat} {W W':World} {G':qm} (he:Ext n (qm.whole W) W G' W'):W.keptBut W' (fun _=>False):=by
 refine ⟨he.os,he.output,fun i hi=>?_⟩
 rw [he.heap i hi ⟨fun _ h=>by simp [qm.whole] at h,rfl⟩]
 split
 ·rename_i h1 h2
  rw [h1] at h2
  cases h2
  exact ⟨rfl,rfl,rfl,fun _ _=>rfl⟩
 ·rename_i h1 h2
  rw [h1] at h2
  cases h2
  exact .inr ⟨rfl,rfl⟩
 ·rfl
theorem qph {W W':World} (h:W.keptBut W' (fun _=>False)) {p:MemPlace} (hp:p.block < W.heap.size):W.sameAt W' p:=by
 have h1:=h.2.2 p.block hp
 cases p with
 | cell b off=>
  simp only [MemPlace.block] at h1 hp
  simp only [World.sameAt,World.cell?]
  split at h1
  ·rename_i e1 e2
   rw [e1,e2]
   simp only [Option.isSome_none,Bool.false_eq_true,if_false]
   exact h1.2.2.2 off (fun h=>h)
  ·rename_i e1 e2
   rw [e1,e2]
  ·rw [h1]
 | map b=>
  simp only [MemPlace.block] at h1 hp
  simp only [World.sameAt]
  split at h1
  ·rename_i c t fr c' t' fr' e1 e2
   obtain ⟨rfl,rfl,h3,h4⟩:=h1
   rw [e1,e2]
   have:c' = c:=by
    apply Array.ext_getElem?
    intro j
    exact h4 j (fun h=>h)
   rw [this]
  ·rename_i e1 e2
   rcases h1 with h1 | ⟨rfl,rfl⟩
   ·exact h1.elim
   ·rw [e1,e2]
  ·exact h1
theorem qkE {call : AE.Call} (hcall : qbX P gl call) {f : FuncId} {pf : Func} {c : Code} (h1 : P.funcs[f]? = some pf) (h2 : (pf.name == "runtime.NumGoroutine") = false) (h3 : pf.body = some c) {args : List qf} {rv : qf} {h' : List qq} {e' : Bool}
  (hrun:call (.fn f [] []) args [] = some (.ret rv,h',e')) {W:World} (ht:qAs gl W) {vs:Array Value} (hargs:qr (fun _=>none) (cellsOf W) args vs.toList) :
  Calls P f vs W fun e W'=>∃v G',e = .returned v∧qm.V G' rv v∧W.keptBut W' (fun _=>False):=by
 obtain ⟨hr,hn⟩:=qrm (P:=P) ht
 have hfv:(qm.whole W).V (.fn f [] []) (.func (.func f) #[] #[]):=by simp [qm.V,qB,qr]
 replace hargs:(qm.whole W).VL args vs.toList:=qr.mono (fun _ _ _ h=>qkv h) 0 (fun i _ hi=>absurd hi (Nat.not_lt_zero _)) args _ (qcu (n:=0) (fun _ _ h=>by cases h) args _ hargs) hargs
 have hS:(qec (.func (.func f) #[] #[]) vs).run P W = .ok (.enter f vs) W:=by
  rw [qfn,qah h1 h2 h3]
  simp
 rcases hcall _ _ _ _ _ _ hrun _ W _ vs hr hn hfv hargs with ⟨f',aS,k1,k2⟩ | ⟨_,_,_,_,_,_,hy,_⟩ | ⟨v,w',_,k1,_⟩
 ·rw [hS] at k1
  cases k1
  refine (callsIn_wide (n:=0)).1 (CallsIn.mono (k2 none 0) fun e W' hb=>?_)
  cases e with
  | returned v=>
   obtain ⟨rv',G',g1,g2,g3,g4,g5⟩:=hb
   cases g1
   exact ⟨v,G',rfl,g5,qmF g2⟩
  | panicked ch=>obtain ⟨_,_,_,g1,_⟩:=hb;cases g1
  | outgrown=>exact hb.elim
 ·cases hy
 ·rw [hS] at k1
  cases k1
end
end Go.AE
