/- A part of the proof. No condition. -/
import Derived.Test.YtcbfifamliijlaaGreatDoorMa1
import Derived.RecoverIn
import Derived.OpenShut
import Derived.LaidLaws
import Derived.ChangeArms
import Derived.Lib.AtoiAll
import Derived.Lib.Bytealg
import Derived.Lib.ItoaNum
import Derived.Lib.Join
import Derived.Test.YtcbfifamliijlaaGreatDoorMa0
import Derived.WideKeyArgs
set_option maxRecDepth 100000
open List renaming getElem?_append_right→jc,getElem?_eq_some_iff→jd,mem_cons_self→jE,getElem?_set_ne→jf,getElem?_eq_getElem→jh,length_map→jQ,append_nil→jF,map_map→jG,mem_append→jH,mem_cons_of_mem→jI,getElem?_eq_none→jq,getElem?_map→jr,ext_getElem?→jO,mem_map→jP
open Option.some renaming injEq→jj
open Bool renaming and_eq_true→jk,false_eq_true→jl
open Nat renaming le_refl→jm,le_trans→jn
open Option renaming map_some→jJ
open Array renaming getElem?_eq_none→jK
namespace Go.AE
section
variable {P:Program} {gl:Nat->Option (List qd)}
theorem qmk {call:AE.Call} (hk:qP call) {n base:Nat} {d:qcO} {v:qd} {cv:List qd} {s s':St} {x:Ex} (hb:base <= s.h.length) (h:qfh n call d v cv s = some (x,s')):qaA base s s':=by
 unfold qfh at h
 split at h
 ·rename_i s1 h1
  have k1:=qdi (base:=s.h.length) hk d.ops [] ⟨_,s.h,false⟩ s1 _ (jm _) h1
  have key:∀x2 s2,qaV n s.h.length call d.code s1 = some (x2,s2)->qaA base s { s with h:=s2.h,e:=s.e || s2.e}:=by
   intro x2 s2 h2
   have k2:=qK (base:=s.h.length) hk n d.code s1 s2 _ k1.1 h2
   have k:=k1.trans k2
   refine ⟨k.1,λhe=>?_⟩
   simp only [Bool.or_eq_false_iff] at he
   exact ⟨he.1,(k.2 he.2).2.lower hb⟩
  split at h
  ·rename_i s2 h2;cases h;exact key _ _ h2
  ·rename_i s2 h2;cases h;exact key _ _ h2
  ·cases h
 ·cases h
theorem qcU {call:AE.Call} (hk:qP call) {n base:Nat} {d:qcO}:∀(b:qer) (s s':St) (x:Ex),base <= s.h.length->qdy n base call d b s = some (x,s')->qaA base s s'
 | .pre a r,s,s',x,hb,h=>by
  simp only [qdy] at h
  split at h
  ·rename_i s1 h1
   have k1:=qK (base:=base) hk n a s s1 _ hb h1
   exact k1.trans (qcU hk r s1 s' x (jn hb k1.1) h)
  ·cases h
  ·exact qK (base:=base) hk n a s s' x hb h
 | .dfr f E slot rest,s,s',x,hb,h=>by
  simp only [qdy] at h
  split at h
  ·rename_i g cv I
   split at h
   ·have k0:qaA base s { s with t:=put (some slot) (.fn f [] (E.map (ev s.t))) s.t}:=⟨jm _,λh=>⟨h,qae.refl _ _⟩⟩
    have key:∀x1 s1,qaV n base call rest { s with t:=put (some slot) (.fn f [] (E.map (ev s.t))) s.t} = some (x1,s1)->∀v,qfh n call d v cv s1 = some (x,s')->qaA base s s':=by
     intro x1 s1 h1 v h2
     have k1:=qK (base:=base) hk n rest { s with t:=put (some slot) (.fn f [] (E.map (ev s.t))) s.t} s1 _ hb h1
     exact k0.trans (k1.trans (qmk hk (jn hb k1.1) h2))
    split at h
    ·rename_i s1 h1;exact key _ _ h1 _ h
    ·rename_i s1 h1;exact key _ _ h1 _ h
    ·rename_i s1 h1;exact key _ _ h1 _ h
    ·cases h
   ·cases h
  ·cases h
theorem qdU {n:Nat} {g:qjE} {call:AE.Call} (hk:qP call):qP λ_ aS h=>qez n g call aS h:=by
 intro fv aS h r h' e' hr
 simp only [qez] at hr
 split at hr
 ·rename_i s h1
  have k:=qcU (base:=h.length) hk g.body ⟨_,h,false⟩ s _ (jm _) h1
  split at hr
  ·rename_i vs E
   have:=qa6 (r:=.ret (qbv vs)) (h:=h) ⟨k.1,λhe=>(k.2 he).2⟩
   rw [Option.some.inj hr] at this
   exact this
  ·cases hr
 ·rename_i s h1
  have k:=qcU (base:=h.length) hk g.body ⟨_,h,false⟩ s _ (jm _) h1
  split at hr
  ·rename_i vs E
   have:=qa6 (r:=.ret (qbv vs)) (h:=h) ⟨k.1,λhe=>(k.2 he).2⟩
   rw [Option.some.inj hr] at this
   exact this
  ·cases hr
 ·rename_i v s h1
  have k:=qcU (base:=h.length) hk g.body ⟨_,h,false⟩ s _ (jm _) h1
  have:=qa6 (r:=.pan v) (h:=h) ⟨k.1,λhe=>(k.2 he).2⟩
  rw [Option.some.inj hr] at this
  exact this
 ·cases hr
theorem qAa {a:Code} {f:FuncId} {E:List qB} {t:Nat} (h:qml gl a = some (f,E,t)) :
  ∃id ops o0 o1 a0 cs c,a = .region id ops false/\ops = #[o0,o1]/\o0.op = .makeFunc (.func f) a0 cs/\a0 = #[]/\o0.dst = some t/\o0.guard = none/\o1.op = .defer c/\c.callee = .value (.tmp t)/\c.args = #[]/\o1.dst = none/\o1.guard = none/\qvu gl cs = some E:=by
 unfold qml at h
 split at h
 ·rename_i id ops
  split at h
  ·rename_i o0 o1 I
   unfold qrB at h
   split at h
   ·rename_i f' a0 cs a6
    split at h
    ·rename_i c a1
     split at h
     ·rename_i t' hcal
      split at h
      ·rename_i hc
       obtain ⟨c1,c2,c3,c4,c5,c6⟩:=hc
       obtain ⟨a7,Y,he⟩:=qcn h
       cases he
       exact ⟨id,ops,o0,o1,a0,cs,c,rfl,by apply Array.ext';simpa using I,a6,c5,c1,c2,a1,hcal,c6,c3,c4,Y⟩
      ·cases h
     ·cases h
    ·cases h
   ·cases h
  ·cases h
 ·cases h
structure qFG (P:Program) (gl:Nat->Option (List qd)) (df:Func) (d:qcO):Prop where
 ex:∃id ops o0 os c,df.body = some (.seq (.region id ops false) c)/\ops.toList = o0 :: os/\(∃cl,o0.op = .call cl/\cl.callee = .builtin .recover/\cl.args = #[])/\o0.dst = some d.k/\o0.guard = none/\os.mapM (qcj P gl ops) = some d.ops/\
  comp P gl c = some d.code/\(∀o ∈ d.ops,o.op.calls = false)/\d.code.noRf = true/\df.results = #[]/\df.ntmps = d.ntmps
theorem qrr {df:Func} {d:qcO} (h:qz6 P gl df = some d):qFG P gl df d:=by
 unfold qz6 at h
 split at h
 ·rename_i id ops c hb
  split at h
  ·rename_i o0 os E
   split at h
   ·rename_i k a1 ac hk I Y
    split at h
    ·rename_i hc
     simp only [jk,List.all_eq_true,Bool.not_eq_true',Array.isEmpty_iff] at hc
     cases h
     unfold qEx at hk
     split at hk
     ·rename_i cl ho
      split at hk
      ·rename_i hcal
       split at hk
       ·rename_i hg
        exact ⟨id,ops,o0,os,c,hb,E,⟨cl,ho,hcal,hg.2⟩,hk,hg.1,I,Y,hc.1.1,hc.1.2,hc.2,rfl⟩
       ·cases hk
      ·cases hk
     ·cases hk
    ·cases h
   ·cases h
  ·cases h
 ·cases h
theorem qAd {o:Oper} {ao:AOp} {a:Act} {w w':World} {nx:Next} {u:Value} (E:qcC P gl o = some ao) {i:Nat} (I:ao = .mov (.t i)) (h1:(execOp a.eval o).run P w = .ok nx w') (h2:Nx nx u):u = a.tmps.getD i undef:=by
 subst I
 have ho:=(qck E).1 i rfl
 have:(execOp a.eval o).run P w = .ok (.value (a.eval (.tmp i))) w:=by simp [execOp,ho]
 rw [this] at h1
 cases h1
 rcases h2 with h2 | ⟨h2,_⟩
 ·cases h2;rfl
 ·cases h2
theorem qoU {G:qi} {w w':World} {h:List qj} {t:List qd} {a:Act} (hc:Cfg P gl G h t a w) {o:Oper} {ao:AOp} {nx:Next} {u:Value} (Y:qcC P gl o = some ao) {q:qB} {id off:Nat} (a6:ao = .ld none q) (hq:ev t q = .ptr id off)
  {base:Nat} {call:AE.Call} {p:qcD} {dst:Option Nat} {e:Bool} {x:Ex} {s':St} (I:qA base call p dst ao ⟨t,h,e⟩ = some (x,s')) (h1:(execOp a.eval o).run P w = .ok nx w') (h2:Nx nx u) :
  ∃b,G.γ id = some b/\w.cell? ⟨b,off,none⟩ = some u:=by
 subst a6
 obtain ⟨ty,y,ho,hy,hk⟩:=(qck Y).2.1 q rfl
 have hv:=qai hc.rel hc.tr hy
 rw [hq] at hv
 simp only [qi.V,qC] at hv
 obtain ⟨b,hb,he⟩:=hv
 refine ⟨b,hb,?_⟩
 obtain ⟨g1,_⟩:=qgt hk w
 simp only [qA] at I
 obtain ⟨v,hv,_⟩:=qcn I
 rw [hq] at hv
 simp only [qel] at hv
 split at hv
 ·rename_i cs a7
  obtain ⟨c,te,hw,a8,_⟩:=hc.rel.box id b _ hb a7
  simp only [cut] at hv
  obtain ⟨av,aa,_⟩:=qcn hv
  obtain ⟨uv,a1,_⟩:=qey a8 aa
  have E:w.cell? ⟨b,off,none⟩ = some uv:=by
   simp only [Array.getElem?_toList] at a1
   simp [World.cell?,hw,a1]
  have:(execOp a.eval o).run P w = .ok (.value uv) w:=by
   simp only [execOp,ho]
   refine qep ?_
   simp only [Instr.loadAt,he,Instr.sureAddr,Sem.run_bind,Sem.run_pure,Result.andThen_ok,loadVar,g1,Option.isSome_none,jl,if_false,run_load,E]
  rw [this] at h1
  cases h1
  rcases h2 with h2 | ⟨h2,_⟩
  ·cases h2;exact E
  ·cases h2
 ·cases hv
theorem qp3 {ops:Array Oper} {base:Nat} {call:AE.Call} {cs:List Frame} {m:Nat} {x:Ex} {s':St}:∀(l:List Nat) (os:List qam),Lays P gl ops l os->(∀o ∈ os,o.op.calls = false)->
  ∀(G:qi) (w:World) (h:List qj) (t:List qd) (e:Bool) (a:Act) (p:qcD),Cfg P gl G h t a w->qbs G w t a p->qaO base call p os ⟨t,h,e⟩ = some (x,s')->
   x = .nor/\h.length <= s'.h.length/\∀(Q:Exit->Act->List Frame->World->Prop),(∀a' w' G',Ext h.length G w G' w'->Cfg P gl G' s'.h s'.t a' w'->a'.defers = a.defers->Q .normal a' cs w')->wpOpsSIn (FR none) m P ops Q l a cs w:=by
 intro l
 induction l with
 | nil=>
  intro os hl _ G w h t e a p hc hp E
  cases os with
  | cons _ _=>exact hl.elim
  | nil=>
   simp only [qaO] at E
   cases E
   exact ⟨rfl,jm _,λQ hQ=>hQ a w G (Ext.refl _ G w) hc rfl⟩
 | cons i l ih=>
  intro os hl ad G w h t e a p hc hp E
  cases os with
  | nil=>exact hl.elim
  | cons ao os=>
   obtain ⟨⟨o,ho,am⟩,hl⟩:=hl
   simp only [qaO] at E
   split at E
   ·rename_i hw
    obtain ⟨Y,I,a6⟩:=qbY hc.tr am hw
    simp only [I] at E
    cases hop:qA base call p o.dst ao.op ⟨t,h,e⟩ with
    | none=>rw [hop] at E;cases E
    | some r=>
     obtain ⟨x1,s1⟩:=r
     have au:ao.op.calls = false:=ad ao (jE ..)
     obtain ⟨rfl,hd,af⟩:=qyO hc hp Y au hop
     rw [hop] at E
     simp only at E
     obtain ⟨nx,u,w',G',h1,h2,ap,h3,h4⟩:=hd
     have a7:qbs G' w' s1.t (a.put o.dst u) (qaN p ao):=by
      have hq:ao.op.effs = false->ao.op.acts = false:=by cases ao.op <;> simp [AOp.effs,AOp.acts]
      have ac:ao.op.effs = false->∀b,b < w.heap.size->w'.heap[b]? = w.heap[b]?:=λa1=>ap (λa8=>by
       have:=(qck Y).2.2.1 a8
       rw [hq a1] at this
       cases this) (λa8=>by
       have:=qsF Y a8
       rw [hq a1] at this
       cases this)
      rw [<-I]
      by_cases a1:ao.op.effs = false
      ·obtain ⟨_,v,hv,_⟩:=qd7 a1 hop
       refine hp.next (v:=v) (λ_=>by rw [I];exact hv) h3.gk ac ?_ ?_
       ·intro i ae
        exact qAd Y ae h1 h2
       ·intro q id off ai ar
        exact qoU hc Y ai ar hop h1 h2
      ·exact hp.next (v:=.undef) (λh=>absurd h a1) h3.gk (λh=>absurd h a1) (λi ae=>by rw [ae] at a1;exact absurd rfl a1) (λq _ _ ai _=>by rw [ai] at a1;exact absurd rfl a1)
     obtain ⟨r1,r2,r3⟩:=ih os hl (λo ho=>ad o (jI _ ho)) G' w' s1.h s1.t s1.e (a.put o.dst u) (qaN p ao) h4 a7 E
     refine ⟨r1,jn af r2,λQ hQ=>?_⟩
     have aa:=r3 Q λa' ab al he ak aj=>hQ a' ab al (h3.trans af he) ak (by rw [aj,qch])
     simp only [wpOpsSIn,ho]
     refine ⟨λ_ _=>trivial,?_⟩
     rw [if_pos a6,h1]
     rcases h2 with rfl | ⟨rfl,rfl⟩
     ·exact aa
     ·exact aa
   ·rename_i hw
    obtain ⟨Y,I,a6⟩:=qbY hc.tr am hw
    simp only [I] at E
    have a7:qbs G w (AE.put o.dst (.tup []) t) (a.put o.dst undef) (qaN p { ao with op:=.pick (.c .undef) (.c .undef) (.c .undef)}):=by
     rw [<-I]
     exact hp.next (o:={ ao with op:=.pick (.c .undef) (.c .undef) (.c .undef)}) (v:=.tup []) (λ_=>rfl) (λ_ _ h=>h) (λ_ _ _=>rfl) (λ_ h=>by cases h) (λ_ _ _ h=>by cases h)
    obtain ⟨r1,r2,r3⟩:=ih os hl (λo ho=>ad o (jI _ ho)) G w h _ e _ _ (qdk hc o.dst) (by simpa only [I] using a7) (by simpa only [I] using E)
    refine ⟨r1,r2,λQ hQ=>?_⟩
    simp only [wpOpsSIn,ho]
    refine ⟨λ_ _=>trivial,?_⟩
    rw [if_neg (by rw [a6];simp)]
    exact r3 Q λa' ab al he ak aj=>hQ a' ab al he ak (by rw [aj,qch])
   ·cases E
theorem Ext.cellsOnly {n:Nat} {G G':qi} {w w':World} (he:Ext n G w G' w'):Ext n G w G'.cellsOnly w':=
 ⟨he.gk,he.gn,he.ik,he.inew,λb hb=>he.on b λe=>hb (by simp [qi.cellsOnly,e]),he.size,he.heap,he.loops,he.os,he.tape,he.output⟩
def qI0 (G:qi) (u:FrameMode) (v:qd):Prop:=(u = .returning/\v = .niliface)\/∃vv,u = .panicking [{ v:=vv,recovered:=false}]/\G.V v vv
theorem qhN (aI:P.follows .mixedOrders = true) {call:AE.Call} (ac:qcN P gl call) (hk:qP call) {f:FuncId} {df:Func} {d:qcO} (hf:P.funcs[f]? = some df) (hd:qFG P gl df d) {n:Nat} {v:qd} {cv:List qd} {s s':St} {x:Ex}
  (h:qfh n call d v cv s = some (x,s')) {G:qi} {w:World} {a:Act} (hc:Cfg P gl G s.h s.t a w) {vs:Array Value} (af:G.VL cv vs.toList) {u:FrameMode} (hu:qI0 G u v) {m:Nat} {R:Ending->FrameMode->World->Prop}
  (hR:∀r u' G' w',settle u' = .returning->Ext s.h.length G w G' w'->Cfg P gl G' s'.h s'.t a w'->R (.returned r) u' w'):x = .ret/\s'.t = s.t/\CallsDIn (FR none) m P f vs u w R:=by
 obtain ⟨id,ops,o0,os,c,ad,a7,⟨cl,aA,az,ay⟩,av,aK,aF,aO,al,aD,aj,aH⟩:=hd.ex
 unfold qfh at h
 split at h
 ·rename_i s1 aC
  have ap:cv.length = vs.size:=by simpa using af.length
  obtain ⟨aE,aR⟩:=hc.rel.cellsOnly
  let a0:Act:={ tmps:=vs ++ Array.replicate (df.ntmps - vs.size) undef,defers:=[]}
  have aQ:Cfg P gl G.cellsOnly s.h (cv.map qd.dim ++ List.replicate (d.ntmps - cv.length) (.tup [])) a0 w:=by
   refine ⟨aE,qaJ.start ?_ λz hz=>?_⟩
   ·simp only [a0,Array.toList_append,Array.toList_replicate]
    refine qp.append af.dims ?_
    rw [aH,ap]
    exact qp.replicate _ (by simp [qC,qp,undef])
   ·rcases jH.1 hz with hz | hz
    ·obtain ⟨q,_,rfl⟩:=jP.1 hz;exact qbf q
    ·rw [(List.mem_replicate.1 hz).2];rfl
  have body:∀(I:List Frame) (vv:Value) (E:Frame) (cs:List Frame) (u':FrameMode),G.V v vv->I = { E with mode:=u'} :: cs->settle u' = .returning->
    x = .ret/\s'.t = s.t/\wpOpsSIn (FR none) m P ops (Exit.thenS (c.wpSIn (FR none) m P (bodyPostS P df E cs R)) (bodyPostS P df E cs R)) (List.range' 1 os.length) (a0.put (some d.k) vv) I w:=by
   intro I vv E cs u' aa aN ai
   have aP:=aQ.put (some d.k) (x:=v.dim) (v:=vv) (qcx aa) (qbf v)
   have hl:=qeE os 1 d.ops (λj=>by
    have:ops[1 + j]? = ops.toList[1 + j]?:=by simp
    rw [this,a7,Nat.add_comm]
    simp) aF
   obtain ⟨_,r2,r3⟩:=qp3 (cs:=I) (m:=m) _ d.ops hl al G.cellsOnly w s.h _ false (a0.put (some d.k) vv) [] aP qbs.nil aC
   have key:∀x2 s2,qaV n s.h.length call d.code s1 = some (x2,s2)->(x2 = .nor\/x2 = .ret)->some (Ex.ret,({ s with h:=s2.h,e:=s.e || s2.e}:St)) = some (x,s')->
     x = .ret/\s'.t = s.t/\wpOpsSIn (FR none) m P ops (Exit.thenS (c.wpSIn (FR none) m P (bodyPostS P df E cs R)) (bodyPostS P df E cs R)) (List.range' 1 os.length) (a0.put (some d.k) vv) I w:=by
    intro x2 s2 a6 aB he
    cases he
    refine ⟨rfl,rfl,r3 _ λa1 w1 G1 e1 c1 d1=>?_⟩
    have aM:a1.defers = []:=by rw [d1,qch]
    refine wpSIn_of_wpIn rfl (wpIn_mono (qcb aI ac hk (N:=n) (base:=s.h.length) (lo:=w.heap.size) (rf:=true) (fx:=[]) (ro:=none) (m:=m) c d.code aO (λ_=>aD) G1 w1 s1 a1 x2 s2 c1 r2 (λ_ hq=>by cases hq)
     ⟨[],by rw [aM];rfl,⟨List.nodup_nil,λ_ h=>by cases h⟩,λ_=>rfl⟩ e1.size a6) λe a2 w2 ar=>?_)
    obtain ⟨G2,g1,⟨ms,aJ,_,am⟩,g3⟩:=ar
    have aL:a2.defers = []:=by rw [aJ,am rfl];rfl
    have fin:Cfg P gl G2 s2.h s2.t a2 w2->a2.defers = []/\∃u',I = { E with mode:=u'} :: cs/\∃r,(results df a2.tmps).run P w2 = .ok r w2/\R (.returned r) u' w2:=by
     intro c2
     have au:Ext s.h.length G.cellsOnly w G2.cellsOnly w2:=(e1.trans r2 g1).cellsOnly
     obtain ⟨b1,b2,b3⟩:=qfU hc au c2.rel.cellsOnly.1
     refine ⟨aL,u',aN,.tuple #[],?_,hR _ _ _ _ ai b1 ⟨b2,b3⟩⟩
     unfold results
     rw [aj]
     simp
    rcases aB with rfl | rfl
    ·obtain ⟨rfl,g3⟩:=g3;exact fin g3
    ·obtain ⟨rfl,g3⟩:=g3;exact fin g3
   split at h
   ·rename_i s2 a6;exact key _ s2 a6 (.inl rfl) h
   ·rename_i s2 a6;exact key _ s2 a6 (.inr rfl) h
   ·cases h
  have ab:List.range ops.size = 0 :: List.range' 1 os.length:=by
   have:ops.size = os.length + 1:=by rw [<-Array.length_toList,a7];rfl
   rw [this,List.range_eq_range',List.range'_succ]
  have aG:ops[0]? = some o0:=by
   have:ops[0]? = ops.toList[0]?:=by simp
   rw [this,a7]
   rfl
  have ak:(execOp a0.eval o0).run P w = .ok .recover w:=by
   simp [execOp,aA,resolve,az,ay,invoke,builtin]
  have main:∀(E:Frame) (cs:List Frame),E.mode = u->x = .ret/\s'.t = s.t/\(Code.seq (.region id ops false) c).wpSIn (FR none) m P (bodyPostS P df E cs R) a0 (E :: cs) w:=by
   intro E cs Y
   have fin:∀(I:List Frame) (vv:Value),(match recoverD (E :: cs) with | some (v,I)=>(v,I) | none=>(.nilIface,E :: cs)) = (vv,I)->
     wpOpsSIn (FR none) m P ops (Exit.thenS (c.wpSIn (FR none) m P (bodyPostS P df E cs R)) (bodyPostS P df E cs R)) (List.range' 1 os.length) (a0.put (some d.k) vv) I w->
     (Code.seq (.region id ops false) c).wpSIn (FR none) m P (bodyPostS P df E cs R) a0 (E :: cs) w:=by
    intro I vv a8 hW
    refine wpSIn_seq (wpSIn_region ?_)
    rw [ab]
    simp only [wpOpsSIn,aG]
    refine ⟨λ_ _=>trivial,?_⟩
    rw [if_pos (by simp [Region.wanted,aK]),ak]
    simp only
    rw [av]
    cases ae:recoverD (E :: cs) with
    | none=>rw [ae] at a8;cases a8;exact hW
    | some p=>obtain ⟨p1,p2⟩:=p;rw [ae] at a8;cases a8;exact hW
   rcases hu with ⟨rfl,rfl⟩ | ⟨vv,rfl,aa⟩
   ·obtain ⟨q1,q2,q3⟩:=body (E :: cs) .nilIface E cs .returning (by simp [qi.V,qC]) (by rw [<-Y]) rfl
    exact ⟨q1,q2,fin _ _ (by simp [recoverD,Y]) q3⟩
   ·obtain ⟨q1,q2,q3⟩:=body ({ E with mode:=.panicking [{ v:=vv,recovered:=true}]} :: cs) vv E cs (.panicking [{ v:=vv,recovered:=true}]) aa rfl rfl
    exact ⟨q1,q2,fin _ _ (by simp [recoverD,Y]) q3⟩
  have m0:=main { (default:Frame) with mode:=u} [] rfl
  exact ⟨m0.1,m0.2.1,callsDIn_of_wpSIn hf ad trivial λE cs Y=>(main E cs Y).2.2⟩
 ·cases h
end
section
variable {P:Program} {gl:Nat->Option (List qd)}
theorem qgd {G' G0:qi} {w0:World} {h:List qj} {t:List qd} {n:Nat} {fn:Func} {ts:Array Value} {R:Ending->World->Prop} {F:Fence} {m:Nat} {u:FrameMode} (hu:u ≠ .run) {fx:List Deferred}:∀(ds:List Deferred) (w':World),
  qiG G' w' w0.heap.size ds->Ext n G0 w0 G' w'->Rel P gl G' h w'->qaJ G' w' t ts->(∀E,Ext n G0 w0 G' E->Rel P gl G' h E->qaJ G' E t ts->LeavesInM F m P fn ts R fx u E)->LeavesInM F m P fn ts R (ds ++ fx) u w'
 | [],w',_,he,hr,ht,hR=>hR w' he hr ht
 | d :: ds,w',hm,he,hr,ht,hR=>by
  obtain ⟨r,rfl,h1,h2,h3⟩:=hm.all d (jE ..)
  refine ⟨hu,.inl ⟨r,w'.putObj r (.deferred none),rfl,run_takeDeferred h2,?_⟩⟩
  have I:=List.nodup_cons.1 hm.nodup
  refine qgd hu ds _ ⟨I.2,λd hd=>?_⟩ (he.putFar h1 _) (hr.putFar h3 λk=>by simp [World.cell?,h2]) (ht.putFar h3) hR
  obtain ⟨r',g1,g2,g3,g4⟩:=hm.all d (jI _ hd)
  refine ⟨r',g1,g2,?_,g4⟩
  rw [World.putObj_heap_other]
  ·exact g3
  ·rintro rfl
   rw [g1] at hd
   exact I.1 hd
theorem qmC (hmx:P.follows .mixedOrders = true) {call:AE.Call} (hcall:qcN P gl call) (hk:qP call) {df pf:Func} {d:qcO} (hd:qFG P gl df d) {N base n0 m:Nat} {G0:qi} {w0:World} {R:Ending->World->Prop} {x:Ex} {s':St} :
  ∀ (gb : qer) (c : Code), qrs P gl c = some gb -> P.funcs[gb.fid]? = some df -> (df.name == "runtime.NumGoroutine") = false -> ∀ (G : qi) (w : World) (s : St) (a : Act), Cfg P gl G s.h s.t a w -> base <= s.h.length -> a.defers = [] -> w0.heap.size <= w.heap.size -> n0 <= s.h.length -> Ext n0 G0 w0 G w ->
   qdy N base call d gb s = some (x,s')->
   (∀G' w' a',(x = .nor\/x = .ret)->Ext n0 G0 w0 G' w'->Cfg P gl G' s'.h s'.t a' w'->LeavesIn (FR none) m P pf a'.tmps R [] .returning w')->
   (∀pv v G' w' a',x = .pan pv->Ext n0 G0 w0 G' w'->Cfg P gl G' s'.h s'.t a' w'->G'.V pv v->R (.panicked [{ v,recovered:=false}]) w')->
   c.wpIn (FR none) m P (bodyPostM (FR none) m P pf R) a w:=by
 intro gb
 induction gb with
 | pre ac r ih=>
  intro c hcomp hf hname G w s a hc hb hdf hlo hn he hrun hret hpan
  cases c <;> simp only [qrs,reduceCtorEq] at hcomp
  rename_i a1 b1
  split at hcomp
  ·rename_i f caps t hdc
   obtain ⟨z,_,hz⟩:=qcn hcomp
   cases hz
  ·split at hcomp
   ·rename_i x1 r1 hx1 hr1
    split at hcomp
    ·rename_i hrf
     cases hcomp
     have hW:=λx2 s2 hx2=>qcb hmx hcall hk (N:=N) (base:=base) (lo:=w0.heap.size) (rf:=true) (fx:=[]) (ro:=none) (m:=m) a1 ac hx1 (λ_=>hrf) G w s a x2 s2 hc hb (λ_ hq=>by cases hq)
      ⟨[],by rw [hdf];rfl,⟨List.nodup_nil,λ_ h=>by cases h⟩,λ_=>rfl⟩ hlo hx2
     simp only [qdy] at hrun
     split at hrun
     ·rename_i s1 hs1
      have hkeep:=(qK (base:=base) hk N ac s s1 _ hb hs1).1
      refine wpIn_seq (wpIn_mono (hW _ s1 hs1) λe a' w' hfin=>?_)
      obtain ⟨G',g1,⟨ms,hms,_,hms0⟩,rfl,g4⟩:=hfin
      have hd0:a'.defers = []:=by rw [hms,hms0 rfl];rfl
      exact ih b1 hr1 hf hname G' w' s1 a' g4 (jn hb hkeep) hd0 (jn hlo g1.size) (jn hn hkeep) (he.trans hn g1) hrun hret hpan
     ·cases hrun
     ·rename_i r2 h1 h2
      refine wpIn_seq (wpIn_mono (hW x s' hrun) λe a' w' hfin=>?_)
      obtain ⟨G',g1,⟨ms,hms,_,hms0⟩,g3⟩:=hfin
      have hd0:a'.defers = []:=by rw [hms,hms0 rfl];rfl
      cases x with
      | nor=>exact absurd hrun (h1 s')
      | exit id=>exact absurd hrun (h2 id s')
      | ret=>
       obtain ⟨rfl,g3⟩:=g3
       show LeavesInM _ _ _ _ _ _ _ _ _
       rw [hd0]
       exact hret G' w' a' (.inr rfl) (he.trans hn g1) g3
      | pan pv=>
       obtain ⟨v,rfl,g3,g4⟩:=g3
       show LeavesInM _ _ _ _ _ _ _ _ _
       rw [hd0]
       exact hpan pv v G' w' a' rfl (he.trans hn g1) g3 g4
    ·cases hcomp
   ·cases hcomp
 | dfr f caps slot rest=>
  intro c hcomp hf hname G w s a hc hb hdf hlo hn he hrun hret hpan
  change P.funcs[f]? = some df at hf
  cases c <;> simp only [qrs,reduceCtorEq] at hcomp
  rename_i a1 b1
  split at hcomp
  ·rename_i f' caps' t hdc
   obtain ⟨z,hz,hze⟩:=qcn hcomp
   cases hze
   obtain ⟨id,ops,o0,o1,a0,cs,cl,rfl,rfl,k1,rfl,k3,k4,k5,k6,k7,k8,k9,k10⟩:=qAa hdc
   refine wpIn_seq (wpIn_region ?_)
   have hrange:List.range (#[o0,o1]:Array Oper).size = [0,1]:=rfl
   rw [hrange]
   simp only [wpOpsIn,List.getElem?_toArray,List.getElem?_cons_zero,List.getElem?_cons_succ]
   rw [if_pos (by simp [Region.wanted,k4])]
   have hcomp0:qcC P gl o0 = some (.mkF f [] caps):=by
    simp only [qcC,qg0,qfB,k1,k10]
    rfl
   have hrun0:qA base call [] o0.dst (.mkF f [] caps) s = some (.nor,{ s with t:=put (some slot) (.fn f [] (caps.map (ev s.t))) s.t}):=by
    simp [qA,pureV,k3]
   refine qgj hcall hk hc qbs.nil hcomp0 hrun0 (λ_ u1 w1 G1 e1 c1 _ _ _=>?_) (λpv h=>by cases h)
   rw [k3] at c1 ⊢
   rw [if_pos (by simp [Region.wanted,k9])]
   simp only [qdy] at hrun
   split at hrun
   ·rename_i g cv hev
    split at hrun
    ·rename_i hgf
     subst hgf
     have hv:=qai c1.rel c1.tr (x:=.tmp slot) (ax:=.t slot) rfl
     rw [hev] at hv
     simp only [qi.V,qC,qp] at hv
     obtain ⟨x0,y0,hval,hx0,hy0⟩:=hv
     have hx0':x0 = #[]:=by apply Array.ext';simpa using hx0
     subst hx0'
     let dd:Deferred:={ target:=.fn (.func g) y0,args:=#[]}
     refine ⟨λ_ _=>trivial,?_⟩
     have hsem:(o1.semAt (FR none).round (a.put (some slot) u1).eval).run P w1 = .ok (.defer dd) w1:=by
      show (Oper.semAt none _ _).run P w1 = _
      rw [Oper.semAt_none]
      simp only [execOp,k5,resolve,k6,k7,hval]
      simp [Deferred.ofValue,dd]
     rw [hsem,Oper.uponIn_defer,k8]
     show (Code.wpIn (FR none) m P b1 (bodyPostM (FR none) m P pf R)) { tmps:=(a.put (some slot) u1).tmps,defers:=dd :: a.defers} w1
     rw [hdf]
     have hlen1:n0 <= ({ s with t:=put (some slot) (.fn g [] (caps.map (ev s.t))) s.t}:St).h.length:=hn
     have he1:Ext n0 G0 w0 G1 w1:=he.trans hn e1
     have c2:Cfg P gl G1 s.h (put (some slot) (.fn g [] (caps.map (ev s.t))) s.t) { tmps:=(a.put (some slot) u1).tmps,defers:=[] ++ [dd]} w1:=⟨c1.rel,c1.tr⟩
     have hW:=λx2 s2 hx2=>qcb hmx hcall hk (N:=N) (base:=base) (lo:=w0.heap.size) (rf:=false) (fx:=[dd]) (ro:=none) (m:=m) b1 rest hz (λh=>by cases h) G1 w1 { s with t:=put (some slot) (.fn g [] (caps.map (ev s.t))) s.t}
      { tmps:=(a.put (some slot) u1).tmps,defers:=[] ++ [dd]} x2 s2 c2 hb (λ_ hq=>by cases hq) ⟨[],rfl,⟨List.nodup_nil,λ_ h=>by cases h⟩,λh=>by cases h⟩ he1.size hx2
     have tail:∀(s2:St) (v:qd) (u:FrameMode) (G2:qi) (w2:World) (a2:Act),s.h.length <= s2.h.length->Ext s.h.length G1 w1 G2 w2->qfm G2 w2 w0.heap.size false [dd] a2.defers->Cfg P gl G2 s2.h s2.t a2 w2->u ≠ .run->qI0 G2 u v->
       qfh N call d v cv s2 = some (x,s')->LeavesInM (FR none) m P pf a2.tmps R a2.defers u w2:=by
      intro s2 v u G2 w2 a2 hkeep he2 hmk c3 hur hmode hdx
      obtain ⟨ms,hms,hmk,_⟩:=hmk
      rw [hms]
      refine qgd (G0:=G0) (w0:=w0) (n:=n0) hur ms w2 hmk (he1.trans hn he2) c3.rel c3.tr λw3 q1 q2 q3=>?_
      have hcv:G2.VL cv y0.toList:=he2.VL hy0
      refine ⟨hur,.inr ⟨qhl,.func g,y0,g,y0,rfl,?_,λ_ _=>trivial,?_⟩⟩
      ·simp only [dd,invoke]
       have:=hd.ex
       obtain ⟨id',ops',o0',os',c',hbody',_⟩:=this
       have:=qZ (vs:=#[] ++ y0) (w:=w3) hf hname hbody'
       simpa using this
      ·have c4:Cfg P gl G2 s2.h s2.t { a2 with defers:=[]} w3:=⟨q2,q3⟩
       refine (qhN hmx hcall hk hf hd hdx c4 hcv hmode λr u' G3 w4 r1 r2 r3=>?_).2.2
       obtain ⟨hxr,hst,_⟩:=qhN (m:=m) (R:=λ_ _ _=>True) hmx hcall hk hf hd hdx c4 hcv hmode λ_ _ _ _ _ _ _=>trivial
       show LeavesInM _ _ _ _ _ _ _ _ _
       rw [r1]
       exact hret G3 w4 { a2 with defers:=[]} (.inr hxr) (q1.trans (jn hn hkeep) r2) r3
     split at hrun
     ·rename_i s2 hx2
      have hkeep:=(qK (base:=base) hk N rest { s with t:=put (some slot) (.fn g [] (caps.map (ev s.t))) s.t} s2 _ hb hx2).1
      refine wpIn_mono (hW _ s2 hx2) λe a2 w2 hfin=>?_
      obtain ⟨G2,g1,g2,rfl,g3⟩:=hfin
      exact tail s2 _ .returning G2 w2 a2 hkeep g1 g2 g3 (by simp) (.inl ⟨rfl,rfl⟩) hrun
     ·rename_i s2 hx2
      have hkeep:=(qK (base:=base) hk N rest { s with t:=put (some slot) (.fn g [] (caps.map (ev s.t))) s.t} s2 _ hb hx2).1
      refine wpIn_mono (hW _ s2 hx2) λe a2 w2 hfin=>?_
      obtain ⟨G2,g1,g2,rfl,g3⟩:=hfin
      exact tail s2 _ .returning G2 w2 a2 hkeep g1 g2 g3 (by simp) (.inl ⟨rfl,rfl⟩) hrun
     ·rename_i v s2 hx2
      have hkeep:=(qK (base:=base) hk N rest { s with t:=put (some slot) (.fn g [] (caps.map (ev s.t))) s.t} s2 _ hb hx2).1
      refine wpIn_mono (hW _ s2 hx2) λe a2 w2 hfin=>?_
      obtain ⟨G2,g1,g2,vv,rfl,g3,g4⟩:=hfin
      exact tail s2 v (.panicking [{ v:=vv,recovered:=false}]) G2 w2 a2 hkeep g1 g2 g3 (by simp) (.inr ⟨vv,rfl,g4⟩) hrun
     ·cases hrun
    ·cases hrun
   ·cases hrun
  ·split at hcomp
   ·split at hcomp
    ·cases hcomp
    ·cases hcomp
   ·cases hcomp
theorem qhs (hmx : P.follows .mixedOrders = true) {f : FuncId} {pf df : Func} {g : qjE} (hf : P.funcs[f]? = some pf) (hname : (pf.name == "runtime.NumGoroutine") = false) (hcomp : qfY P gl pf df = some g) (hdf : P.funcs[g.body.fid]? = some df)
  (hdname : (df.name == "runtime.NumGoroutine") = false) (N : Nat) : qfP P gl f (qez N g) := by
 intro call hcall hk aS h r h' e' hrun G w vs hr hn hall
 unfold qfY at hcomp
 split at hcomp
 ·rename_i c hbody
  split at hcomp
  ·rename_i b rs d hb hrs hd
   cases hcomp
   simp only at hdf
   refine .inl ⟨qZ hf hname hbody vs w,λro m=>qbz (m:=m) ?_⟩
   have hsize:vs.size = aS.length:=by have:=hall.length;simp at this ⊢;omega
   have hc0:Cfg P gl G h (aS.map qd.dim ++ List.replicate (pf.ntmps - aS.length) (.tup [])) { tmps:=vs ++ Array.replicate (pf.ntmps - vs.size) undef,defers:=[]} w:=by
    refine ⟨hr,qaJ.start ?_ λz hz=>?_⟩
    ·simp only [Array.toList_append,Array.toList_replicate]
     refine qp.append hall.dims ?_
     rw [hsize]
     exact qp.replicate _ (by simp [qC,qp,undef])
    ·rcases jH.1 hz with hz | hz
     ·obtain ⟨q,_,rfl⟩:=jP.1 hz;exact qbf q
     ·rw [(List.mem_replicate.1 hz).2];rfl
   refine callsIn_of_wp_marks (F:=FR none) hf hbody trivial ?_ rfl
   simp only [qez] at hrun
   have main:∀x s,qdy N h.length call d b ⟨aS.map qd.dim ++ List.replicate (pf.ntmps - aS.length) (.tup []),h,false⟩ = some (x,s)->
     ((x = .nor\/x = .ret)->∃vs',qat s rs = some vs'/\leave h.length (.ret (qbv vs')) s.h s.e = (r,h',e'))->(∀pv,x = .pan pv->leave h.length (.pan pv) s.h s.e = (r,h',e'))->
     c.wpIn (FR none) m P (bodyPostM (FR none) m P pf (qnh P gl h.length G w r h')) { tmps:=vs ++ Array.replicate (pf.ntmps - vs.size) undef,defers:=[]} w:=by
    intro x s hx h1 h2
    have k:=qcU (base:=h.length) hk b ⟨_,h,false⟩ s _ (jm _) hx
    refine qmC hmx hcall hk (qrr hd) (n0:=h.length) (G0:=G) (w0:=w) b c hb hdf hdname G w ⟨_,h,false⟩ _ hc0 (jm _) rfl (jm _) (jm _) (Ext.refl _ G w) hx (λG' w' a' hxx g1 g2=>?_) (λpv v G' w' a' hxx g1 g2 g3=>?_)
    ·obtain ⟨vs',hres,hlv⟩:=h1 hxx
     obtain ⟨u,r1,r2⟩:=qd6 g2 hrs hres
     obtain ⟨rfl,G'',y1,y2,y3,y4⟩:=qce hr g1 g2.rel ⟨k.1,λhe=>(k.2 he).2⟩ hlv
     exact ⟨u,r1,_,G'',rfl,y1,y2,y3,y4 _ u (.inl rfl) r2⟩
    ·obtain ⟨rfl,G'',y1,y2,y3,y4⟩:=qce hr g1 g2.rel ⟨k.1,λhe=>(k.2 he).2⟩ (h2 pv hxx)
     exact ⟨pv,v,G'',rfl,rfl,y1,y2,y3,y4 _ v (.inr rfl) g3⟩
   split at hrun
   ·rename_i s hx
    split at hrun
    ·rename_i vs' hres
     exact main _ s hx (λ_=>⟨vs',hres,Option.some.inj hrun⟩) (λ_ h=>by cases h)
    ·cases hrun
   ·rename_i s hx
    split at hrun
    ·rename_i vs' hres
     exact main _ s hx (λ_=>⟨vs',hres,Option.some.inj hrun⟩) (λ_ h=>by cases h)
    ·cases hrun
   ·rename_i v s hx
    exact main _ s hx (λh=>by rcases h with h | h <;> cases h) (λpv h=>by cases h;exact Option.some.inj hrun)
   ·cases hrun
  ·cases hcomp
 ·cases hcomp
end
section
variable {P:Program} {gl:Nat->Option (List qd)}
noncomputable def qi.start (gl:Nat->Option (List qd)) (W:World):qi:={ γ:=λ_=>none,imm:=λb o=>match gl b with | some cs=>if 0 < cs.length/\o = cs.length then some mark else qmf (W.cell? ⟨b,o,none⟩) | none=>none,ow:=λ_=>none}
def qFa (gl:Nat->Option (List qd)) (W:World):Prop:=∀g cs,gl g = some cs->qw 0 cs = true/\∃vs:List Value,qp (λ_=>none) (λ_ _=>none) cs vs/\(∀(j:Nat) (v:Value),vs[j]? = some v->W.cell? ⟨g,j,none⟩ = some v)/\(0 < cs.length->∃c e,W.heap[g]? = some (.cells c e (0,0))/\cs.length = c.size)
theorem qlN {W:World} (h:qFa gl W) {b o:Nat} {v:Value} (hv:(qi.start gl W).imm b o = some v):(v ≠ mark->W.cell? ⟨b,o,none⟩ = some v/\b < W.heap.size)/\(v = mark->0 < o/\∃c e,W.heap[b]? = some (.cells c e (0,0))/\o = c.size):=by
 simp only [qi.start] at hv
 split at hv
 ·rename_i cs hg
  split at hv
  ·rename_i hh
   cases hv
   obtain ⟨c,e,h1,h2⟩:=(h b cs hg).2.choose_spec.2.2 hh.1
   exact ⟨λq=>absurd rfl q,λ_=>⟨zo,c,e,h1,zo⟩⟩
  ·obtain ⟨k1,k2⟩:=qbj.1 hv
   refine ⟨λ_=>⟨k1,?_⟩,λq=>absurd q k2⟩
   rcases Nat.lt_or_ge b W.heap.size with hb | hb
   ·exact hb
   ·simp [World.cell?,jK hb] at k1
 ·cases hv
theorem quR {W:World} (h:qFa gl W):Rel P gl (qi.start gl W) [] W/\qes (qi.start gl W):=by
 refine ⟨⟨(λ_ _ h=>by cases h),(λ_ _ _ h=>by cases h),(λ_ _ _ h=>by cases h),λb o v hv hm=>(qlN h hv).1 hm,(λ_ _ _ _ _ _ h=>by cases h),(λb o hv=>(qlN h hv).2 rfl),(λ_ _ h=>by cases h),λg cs hg=>?_⟩,(λ_ _ h=>by cases h)⟩
 obtain ⟨h1,vs,h2,h3,h4⟩:=h g cs hg
 refine ⟨⟨qaw.of_get λi c hc=>?_,λh0=>?_⟩,h1⟩
 ·obtain ⟨v,hv,hr⟩:=h2.get hc
  refine ⟨v,?_,?_⟩
  ·have hi:i < cs.length:=(jd.1 hc).1
   simp only [qi.start,hg,Nat.zero_add]
   rw [if_neg zo]
   exact qbj.2 ⟨h3 i v hv,qd2 hr⟩
  ·exact qC.mono (λ_ _ _ h=>by cases h) 0 (λi _ hi=>absurd hi (Nat.not_lt_zero _)) c v (qe6 h1 hc) hr
 ·simp only [qi.start,hg]
  simp [h0]
theorem qzm {G:qi} {h:List qj} {w:World} (hr:Rel P gl G h w) {name:String} {g:Nat} (hg:P.globalNamed name = some g) {k:IntKind} {zs:List Int} (E:gl g = some (zs.map λz=>.int k z)) (h0:0 < zs.length) :
  w.var? P name = some (zs.map λz=>Value.int k z).toArray:=by
 obtain ⟨⟨h1,h2⟩,_⟩:=hr.glob g _ E
 obtain ⟨_,c,e,h3,h4⟩:=hr.immK g _ (h2 (by simpa using h0))
 have:c = (zs.map λz=>Value.int k z).toArray:=by
  apply Array.ext'
  apply jO
  intro i
  rw [jQ] at h4
  rcases Nat.lt_or_ge i zs.length with hi | hi
  ·obtain ⟨v,k1,k2⟩:=h1.get (i:=i) (c:=.int k zs[i]) (by simp [hi])
   simp only [qC] at k2
   subst k2
   have:=(hr.imm _ _ _ k1 (by simp [mark])).1
   rw [Nat.zero_add] at this
   simp only [World.cell?,h3] at this
   simpa [hi] using this
  ·simp [jK (show c.size <= i by omega),hi]
 subst this
 simp [World.var?,hg,h3]
theorem qql {n:Nat} {W W':World} {G':qi} (he:Ext n (qi.start gl W) W G' W'):W.keptBut W' (λ_=>False):=by
 refine ⟨he.os,he.output,λi hi=>?_⟩
 rw [he.heap i hi ⟨λ_ h=>by simp [qi.start] at h,rfl⟩]
 split
 ·rename_i h1 h2
  rw [h1] at h2
  cases h2
  exact ⟨rfl,rfl,rfl,λ_ _=>rfl⟩
 ·rename_i h1 h2
  rw [h1] at h2
  cases h2
  exact .inr ⟨rfl,rfl⟩
 ·rfl
theorem qoQ {call : AE.Call} (hcall : qcN P gl call) {f : FuncId} {pf : Func} {c : Code} (h1 : P.funcs[f]? = some pf) (h2 : (pf.name == "runtime.NumGoroutine") = false) (h3 : pf.body = some c) {args : List qd} {rv : qd} {h' : List qj} {e' : Bool}
  (hrun:call (.fn f [] []) args [] = some (.ret rv,h',e')) {W:World} (ht:qFa gl W) {vs:Array Value} (hargs:qp (λ_=>none) (λ_ _=>none) args vs.toList) :
  Calls P f vs W λe W'=>∃v G',e = .returned v/\qi.V G' rv v/\W.keptBut W' (λ_=>False):=by
 obtain ⟨hr,hn⟩:=quR (P:=P) ht
 have hlow:qw 0 args = true:=qc7 (n:=0) (λ_ _ h=>by cases h) args _ hargs
 have hargs':(qi.start gl W).VL args vs.toList:=qp.mono (λ_ _ _ h=>by cases h) 0 (λi _ hi=>absurd hi (Nat.not_lt_zero _)) args _ hlow hargs
 have hfv:(qi.start gl W).V (.fn f [] []) (.func (.func f) #[] #[]):=by simp [qi.V,qC,qp]
 have hS:(qgw (.func (.func f) #[] #[]) vs).run P W = .ok (.enter f vs) W:=by
  rw [qjN,qZ h1 h2 h3]
  simp
 rcases hcall _ _ _ _ _ _ hrun _ W _ vs hr hn hfv hargs' with ⟨f',aS,k1,k2⟩ | ⟨_,_,_,_,_,_,hy,_⟩ | ⟨v,w',_,k1,_⟩
 ·rw [hS] at k1
  cases k1
  refine (callsIn_wide (n:=0)).1 (CallsIn.mono (k2 none 0) λe W' hb=>?_)
  cases e with
  | returned v=>
   obtain ⟨rv',G',g1,g2,g3,g4,g5⟩:=hb
   cases g1
   exact ⟨v,G',rfl,g5,qql g2⟩
  | panicked ch=>obtain ⟨_,_,_,g1,_⟩:=hb;cases g1
  | outgrown=>exact hb.elim
 ·cases hy
 ·rw [hS] at k1
  cases k1
def qFz {H:Type}:DataW H->Option qd
 | .lit (.int k z)=>some (.int k z)
 | .lit (.string s)=>some (.str s)
 | .lit (.bool b)=>some (.bool b)
 | _=>none
theorem qxe {H:Type} {enc:TypeId×Value->H} {w:World} {base:Nat} {sp:Nat->Bool} {held:Bool} {fuel:Nat} {e:TypeId} {cs:List Value} {x:DataW H×List MemPlace} {a:qd}
  (he:(∃k,P.underlying e = some (.int k))\/P.underlying e = some .string) (h:DataW.trod enc P w base sp held fuel e cs = some x) (ha:qFz x.1 = some a):∃v,cs = [v]/\qC (λ_=>none) (λ_ _=>none) a v:=by
 rcases he with ⟨k,he⟩ | he
 ·obtain ⟨n,rfl,rfl,_⟩:=DataW.trod_int he h
  simp only [qFz,jj] at ha
  subst ha
  exact ⟨_,rfl,by simp [qC]⟩
 ·obtain ⟨s,rfl,rfl,_⟩:=DataW.trod_string he h
  simp only [qFz,jj] at ha
  subst ha
  exact ⟨_,rfl,by simp only [qC];exact ⟨s,rfl,rfl⟩⟩
theorem qnY {α β:Type} {f:α->Option β}:∀{l:List α} {r:List β},l.mapM f = some r->r.length = l.length
 | [],r,h=>by simp at h;subst h;rfl
 | x :: l,r,h=>by
  simp only [List.mapM_cons,Option.bind_eq_bind,Option.bind_eq_some_iff,Option.pure_def,jj] at h
  obtain ⟨b,_,r',E,rfl⟩:=h
  simp [qnY E]
theorem qcM {laid:List (String×DataW Unit)} {W:World} (hL:laidMet P laid W) {name:String} {ds:List (DataW Unit)} (hm:(name,DataW.agg ds) ∈ laid) {g:Nat} (hg:P.globalNamed name = some g) {t e:TypeId} {n:Nat} (ht:(P.globals[g]?).map (·.type) = some t)
  (hu:P.underlying t = some (.array n e)) (he:(∃k,P.underlying e = some (.int k))\/P.underlying e = some .string) (hc:P.cellsOf e = 1) (ak:P.cellsOf t = n) {aS:List qd} (has:ds.mapM qFz = some aS) :
  qw 0 aS = true/\∃vs:List Value,qp (λ_=>none) (λ_ _=>none) aS vs/\(∀(j:Nat) (v:Value),vs[j]? = some v->W.cell? ⟨g,j,none⟩ = some v)/\(0 < aS.length->∃c e,W.heap[g]? = some (.cells c e (0,0))/\aS.length = c.size):=by
 obtain ⟨ps,hv,ae,E⟩:=hL
 clear ae
 replace E:=λb off h=>(E b off h).1
 induction laid generalizing ps with
 | nil=>cases hm
 | cons x laid ih=>
  obtain ⟨nx,dx⟩:=x
  obtain ⟨g',t',cs,fuel,p,q,af,ad,Y,hd,hq,a6⟩:=hv
  rcases List.mem_cons.1 hm with hm | hm
  ·cases hm
   obtain rfl:=Option.some.inj (hg.symm.trans af)
   obtain rfl:=Option.some.inj (ht.symm.trans ad)
   obtain ⟨xs,m,_,hx,al,a1,ai⟩:=DataW.trod_array hu hd
   have a7:xs.map (·.1) = ds:=(DataW.agg.inj (Prod.mk.inj hx).1).symm
   have key:∀(i:Nat) (a:qd),aS[i]? = some a->∃v,cs[i]? = some v/\qC (λ_=>none) (λ_ _=>none) a v:=by
    intro i a ha
    obtain ⟨d,a8,aj⟩:=qj2 has i a ha
    rw [<-a7,jr,Option.map_eq_some_iff] at a8
    obtain ⟨y,hy,rfl⟩:=a8
    have hi:i < n:=by rw [<-a1];exact (jd.1 hy).1
    have h1:=ai i hi
    rw [hy,hc,Nat.mul_one] at h1
    obtain ⟨v,ab,aa⟩:=qxe he h1 aj
    have h0:((cs.toList.drop i).take 1)[0]? = some v:=by rw [ab];rfl
    exact ⟨v,by simpa using h0,aa⟩
   refine ⟨qgf λa ha=>?_,aS.mapIdx (λi _=>cs.getD i undef),qp.of_get (by simp) λi a v ha hv=>?_,λj v hv=>?_,λh0=>?_⟩
   ·obtain ⟨i,hi⟩:=List.getElem?_of_mem ha
    obtain ⟨v,_,hr⟩:=key i a hi
    exact qeu (n:=0) (λ_ _ h=>by cases h) a v hr
   ·obtain ⟨u,I,ac⟩:=key i a ha
    rw [List.getElem?_mapIdx,ha] at hv
    simp only [jJ,jj] at hv
    rw [Array.getD_eq_getD_getElem?,I] at hv
    simp only [Option.getD_some] at hv
    rw [<-hv]
    exact ac
   ·rw [World.var?_cell hg Y j]
    rw [List.getElem?_mapIdx] at hv
    cases ha:aS[j]? with
    | none=>rw [ha] at hv;cases hv
    | some a=>
     obtain ⟨u,I,_⟩:=key j a ha
     rw [ha] at hv
     simp only [jJ,jj] at hv
     rw [Array.getD_eq_getD_getElem?,I] at hv
     simp only [Option.getD_some] at hv
     rw [<-hv]
     exact I
   ·have am:aS.length = n:=by
     rw [qnY has,<-a7,jQ,a1]
    rw [ak,Array.length_toList] at al
    obtain ⟨c,e',hh⟩:=E g 0 (by
     rw [a6]
     refine List.mem_append_left _ (List.mem_append_left _ ?_)
     exact MemPlace.mem_row.2 ⟨0,zo,rfl⟩)
    refine ⟨c,e',hh,?_⟩
    have:c = cs:=by
     have q:=Y
     simp only [World.var?,hg,Option.bind_some,hh,jj] at q
     exact q
    rw [this]
    omega
  ·exact ih hm q hq λb off h=>E b off (by rw [a6];exact List.mem_append_right _ h)
end
section
variable {P:Program} {gl:Nat->Option (List qd)}
theorem quc {T : qgu} (hT : T.All λi v => ∃ pf, P.funcs[i]? = some pf /\ qh P gl pf = some v /\ (pf.name == "runtime.NumGoroutine") = false) : qnm P gl T.get := λf fn h => by
 obtain ⟨pf,h1,h2,h3⟩:=qgu.get_all hT h
 unfold qh at h2
 split at h2
 ·cases h2
 ·rename_i c hb
  split at h2
  ·rename_i code rs e1 e2
   cases h2
   exact ⟨pf,c,h1,h3,hb,e1,e2,rfl⟩
  ·cases h2
theorem qyr {W:World} {g:Nat}:qw 0 [] = true/\∃vs:List Value,qp (λ_=>none) (λ_ _=>none) [] vs/\(∀(j:Nat) (v:Value),vs[j]? = some v->W.cell? ⟨g,j,none⟩ = some v)/\(0 < ([]:List qd).length->∃c e,W.heap[g]? = some (.cells c e (0,0))/\([]:List qd).length = c.size):=
 ⟨rfl,[],by simp [qp],λj v h=>by simp at h,λh=>by simp at h⟩
end
def qh0:Call->List qd->List qj->Option (qdm×List qj×Bool):=λ_ aS h=>
 match aS with
 | [.str s,.int .u8 c]=>some (.ret (.int .i64 (Lib.indexByte s c.toNat.toUInt8)),h,false)
 | _=>none
def qiJ (t:TypeId):Call->List qd->List qj->Option (qdm×List qj×Bool):=λ_ aS h=>
 match aS with
 | [.str s]=>
  bif Nat.ble s.length 100000 then
   match Lib.atoiAll s with
   | .ok v=>some (.ret (.tup [.int .i64 v,.niliface]),h,false)
   | .range=>some (.ret (.tup [.int .i64 (Lib.atoiSat s),.iface t .undef]),h,false)
   | _=>none
  else none
 | _=>none
def qfA:Call->List qd->List qj->Option (qdm×List qj×Bool):=λ_ aS h=>
 match aS with
 | []=>some (.ret (.bool true),h,false)
 | _=>none
def wbX (T E:Nat):Call->List qd->List qj->Option (qdm×List qj×Bool):=λ_ aS h=>
 match aS with
 | [.ptr id 0,.int .u8 c]=>match h[id]? with
  | some (.bld t e s)=>bif (Nat.beq t T && Nat.beq e E) && ((ile 0 c && ile c 255) && Nat.ble s.length qk) then some (.ret .niliface,h.set id (.bld t e (s ++ [c.toNat.toUInt8])),false) else none
  | _=>none
 | _=>none
def wsX (T E:Nat):Call->List qd->List qj->Option (qdm×List qj×Bool):=λ_ aS h=>
 match aS with
 | [.ptr id 0,.str u]=>match h[id]? with
  | some (.bld t e s)=>bif (Nat.beq t T && Nat.beq e E) && Nat.ble (s.length + u.length) qk then some (.ret (.tup [.int .i64 (u.length:Nat),.niliface]),h.set id (.bld t e (s ++ u)),false) else none
  | _=>none
 | _=>none
def stX (T E:Nat):Call->List qd->List qj->Option (qdm×List qj×Bool):=λ_ aS h=>
 match aS with
 | [.ptr id 0]=>match h[id]? with
  | some (.bld t e s)=>bif (Nat.beq t T && Nat.beq e E) && !s.isEmpty then some (.ret (.str s),h,false) else none
  | _=>none
 | _=>none
def itX:Call->List qd->List qj->Option (qdm×List qj×Bool):=λ_ aS h=>
 match aS with
 | [.int .i64 n]=>bif ile (-9223372036854775808) n && ile n 9223372036854775807 then some (.ret (.str (Lib.itoa n)),h,false) else none
 | _=>none
def qgr:List qd->Option (List (List UInt8))
 | []=>some []
 | .str s :: xs=>(qgr xs).map (s :: ·)
 | _=>none
def jnX:Call->List qd->List qj->Option (qdm×List qj×Bool):=λ_ aS h=>
 match aS with
 | [.lst (x :: xs) _,.str sep]=>match qgr (x :: xs) with
  | some l=>bif Nat.ble (Lib.join l sep).length qk && Nat.ble l.length qk then some (.ret (.str (Lib.join l sep)),h,false) else none
  | none=>none
 | [.sl id 0 len _ _,.str sep]=>match h[id]? with
  | some (.cells cs)=>match qgr (cs.take len) with
   | some l=>bif Nat.ble (Lib.join l sep).length qk && (Nat.beq l.length len && Nat.ble len qk) then some (.ret (.str (Lib.join l sep)),h,false) else none
   | none=>none
  | _=>none
 | _=>none
def Le {α:Type} (a b:Option α):Prop:=∀x,a = some x->b = some x
theorem Le.refl {α:Type} (a:Option α):Le a a:=λ_ h=>h
def CLe (c d:Call):Prop:=∀fv aS h,Le (c fv aS h) (d fv aS h)
theorem CLe.refl (c:Call):CLe c c:=λ_ _ _ _ h=>h
def qFE {α:Type} (g:Nat->Option α):Prop:=∀n m,n <= m->Le (g n) (g m)
def qea (c:Nat->Call):Prop:=∀n m,n <= m->CLe (c n) (c m)
open Classical in
noncomputable def lim {α:Type} (g:Nat->Option α):Option α:=if h:∃n x,g n = some x then g h.choose else none
theorem qj0 {α:Type} {g:Nat->Option α} (hg:qFE g) (x:α):lim g = some x↔∃n,g n = some x:=by
 unfold lim
 constructor
 ·intro h
  split at h
  ·exact ⟨_,h⟩
  ·cases h
 ·rintro ⟨n,hn⟩
  have h:∃n x,g n = some x:=⟨n,x,hn⟩
  rw [dif_pos h]
  obtain ⟨y,hy⟩:=h.choose_spec
  have h1:=hg _ (max n h.choose) (Nat.le_max_right ..) _ hy
  have h2:=hg _ (max n h.choose) (Nat.le_max_left ..) _ hn
  rw [hy,<-h1,h2]
theorem qcX {α:Type} (a:Option α):lim (λ_=>a) = a:=by
 apply Option.ext
 intro x
 rw [qj0 (λ_ _ _=>Le.refl _)]
 exact ⟨λ⟨_,h⟩=>h,λh=>⟨0,h⟩⟩
noncomputable def qpK (c:Nat->Call):Call:=λfv aS h=>lim λn=>c n fv aS h
theorem qe4 {c:Nat->Call} (hc:qea c) {fv:qd} {aS:List qd} {h:List qj} (x:qdm×List qj×Bool):qpK c fv aS h = some x↔∃n,c n fv aS h = some x:=
 qj0 (λn m E=>hc n m E fv aS h) x
theorem qmN {c:Nat->Call} (hc:qea c) (n:Nat):CLe (c n) (qpK c):=λ_ _ _ x hx=>(qe4 hc x).2 ⟨n,hx⟩
section
variable {c d:Call} {base:Nat}
theorem qbX (hc:CLe c d) {p:qcD} {dst:Option Nat} {o:AOp} {s:St}:Le (qA base c p dst o s) (qA base d p dst o s):=by
 cases o
 case call f args=>
  intro x hx
  simp only [qA] at hx ⊢
  split at hx
  ·rename_i E;rw [hc _ _ _ _ E];exact hx
  ·rename_i E;rw [hc _ _ _ _ E];exact hx
  ·cases hx
 all_goals exact λx hx=>hx
theorem qbS (hc:CLe c d):∀(ops:List qam) (p:qcD) (s:St),Le (qaO base c p ops s) (qaO base d p ops s)
 | [],p,s=>λx hx=>hx
 | o :: os,p,s=>λx hx=>by
  simp only [qaO] at hx ⊢
  split at hx
  ·split at hx
   ·rename_i E;rw [qbX hc _ E];exact qbS hc os _ _ _ hx
   ·rename_i I
    have h1:=qbX hc _ hx
    rw [h1]
    split
    ·rename_i E;cases E;exact absurd hx (I _)
    ·rfl
  ·exact qbS hc os _ _ _ hx
  ·cases hx
theorem qay (hc:CLe c d) (dsts:List Nat):∀(ops:List qR) (pend:List (Nat×Chk)) (s:St),Le (qW base c dsts ops pend s) (qW base d dsts ops pend s)
 | [],p,s=>λx hx=>hx
 | o :: os,p,s=>λx hx=>by
  simp only [qW] at hx ⊢
  split at hx
  ·split at hx
   ·rename_i E
    rw [qbX hc _ E]
    simp only
    split at hx
    ·rename_i he
     rw [if_pos he]
     split at hx
     ·rename_i hp;rw [if_pos hp];exact qay hc dsts os _ _ _ hx
     ·cases hx
    ·rename_i he
     rw [if_neg he]
     split at hx
     ·exact qay hc dsts os _ _ _ hx
     ·exact qay hc dsts os _ _ _ hx
   ·rename_i E;rw [qbX hc _ E];exact hx
   ·cases hx
  ·exact qay hc dsts os _ _ _ hx
  ·cases hx
theorem qeC {f g:St->Option (Ex×St)} (hf:∀s,Le (f s) (g s)):∀(n m:Nat),n <= m->∀s,Le (iter f n s) (iter g m s)
 | 0,_,_,s=>λx hx=>by cases hx
 | n + 1,0,h,s=>zo
 | n + 1,m + 1,h,s=>λx hx=>by
  simp only [iter] at hx ⊢
  split at hx
  ·rename_i E;rw [hf _ _ E];exact qeC hf n m zo _ _ hx
  ·rename_i I
   rw [hf _ _ hx]
   split
   ·rename_i E;cases E;exact absurd hx (I _)
   ·rfl
theorem qq8 {p q:qR} {a b e a' b' e':Option (Ex×St)} (h1:Le a a') (h2:Le b b') (h3:Le e e'):Le (qyJ p q a b e) (qyJ p q a' b' e'):=λx hx=>by
 unfold qyJ at hx
 split at hx
 ·rename_i s0 s1 s2
  rw [h1 _ rfl,h2 _ rfl,h3 _ rfl]
  exact hx
 ·cases hx
theorem qD (hc:CLe c d) {n m:Nat} (I:n <= m):∀(a:qF) (s:St),Le (qaV n base c a s) (qaV m base d a s)
 | .skip,s=>λx hx=>hx
 | .reg ops,s=>qbS hc ops _ s
 | .draw ops,s=>qay hc _ ops _ s
 | .draw2 c a b r,s=>qq8 (qay hc _ _ _ s) (qay hc _ _ _ s) (qay hc _ _ _ s)
 | .seq a b,s=>λx hx=>by
  simp only [qaV] at hx ⊢
  split at hx
  ·rename_i E;rw [qD hc I a _ _ E];exact qD hc I b _ _ hx
  ·rename_i Y
   rw [qD hc I a _ _ hx]
   split
   ·rename_i E;cases E;exact absurd hx (Y _)
   ·rfl
 | .cond q a b,s=>λx hx=>by
  simp only [qaV] at hx ⊢
  split at hx
  ·exact qD hc I a _ _ hx
  ·exact qD hc I b _ _ hx
  ·cases hx
 | .block id b,s=>λx hx=>by
  simp only [qaV] at hx ⊢
  split at hx
  ·rename_i E;rw [qD hc I b _ _ E];exact hx
  ·rename_i Y
   rw [qD hc I b _ _ hx]
   split
   ·rename_i E;cases E;exact absurd hx (Y _ _)
   ·rfl
 | .loop b,s=>λx hx=>by
  simp only [qaV] at hx ⊢
  exact qeC (λs=>qD hc I b s) n m I s x hx
 | .exit id,s=>λx hx=>hx
 | .ret,s=>λx hx=>hx
 | .rfun f ps asg body,s=>λx hx=>by
  simp only [qaV] at hx ⊢
  split at hx
  ·split at hx
   ·rename_i E;rw [hc _ _ _ _ E];exact hx
   ·rename_i E;rw [hc _ _ _ _ E];exact hx
   ·cases hx
  ·cases hx
theorem qfb (hc:CLe c d) {n m:Nat} (E:n <= m) {l:Nat} {args:List qd} {h:List qj}:Le (round n c l args h) (round m d l args h):=λx hx=>by
 simp only [round] at hx ⊢
 split at hx
 ·split at hx
  ·cases hx
  ·rename_i hl
   rw [if_neg hl]
   split at hx
   ·rename_i Y
    rw [qD hc E _ _ _ Y]
    simp only
    split at hx
    ·split at hx
     ·rename_i I
      rw [qD hc E _ _ _ I]
      exact hx
     ·cases hx
    ·cases hx
   ·cases hx
 ·cases hx
theorem qcK (hc:CLe c d) {n m:Nat} (I:n <= m) {df:qcO} {v:qd} {cv:List qd} {s:St}:Le (qfh n c df v cv s) (qfh m d df v cv s):=λx hx=>by
 simp only [qfh] at hx ⊢
 split at hx
 ·rename_i Y
  rw [qbS hc _ _ _ _ Y]
  dsimp only
  split at hx
  ·rename_i E;rw [qD hc I _ _ _ E];exact hx
  ·rename_i E;rw [qD hc I _ _ _ E];exact hx
  ·cases hx
 ·cases hx
theorem qdz (hc:CLe c d) {n m:Nat} (I:n <= m) {df:qcO}:∀(b:qer) (s:St),Le (qdy n base c df b s) (qdy m base d df b s)
 | .pre a r,s=>λx hx=>by
  simp only [qdy] at hx ⊢
  split at hx
  ·rename_i E;rw [qD hc I _ _ _ E];exact qdz hc I r _ _ hx
  ·cases hx
  ·rename_i h1 h2
   rw [qD hc I _ _ _ hx]
   split
   ·rename_i E;cases E;exact absurd hx (h1 _)
   ·rename_i E;cases E;exact absurd hx (h2 _ _)
   ·rfl
 | .dfr f Y slot rest,s=>λx hx=>by
  simp only [qdy] at hx ⊢
  split at hx
  ·split at hx
   ·rename_i hg
    rw [if_pos hg]
    split at hx
    ·rename_i E;rw [qD hc I _ _ _ E];exact qcK hc I _ hx
    ·rename_i E;rw [qD hc I _ _ _ E];exact qcK hc I _ hx
    ·rename_i E;rw [qD hc I _ _ _ E];exact qcK hc I _ hx
    ·cases hx
   ·cases hx
  ·cases hx
theorem qpf (hc:CLe c d) {n m:Nat} (I:n <= m) {g:qjE} {aS:List qd} {h:List qj}:Le (qez n g c aS h) (qez m g d aS h):=λx hx=>by
 simp only [qez] at hx ⊢
 split at hx
 ·rename_i E;rw [qdz hc I _ _ _ E];exact hx
 ·rename_i E;rw [qdz hc I _ _ _ E];exact hx
 ·rename_i E;rw [qdz hc I _ _ _ E];exact hx
 ·cases hx
end
def qzw (X:qlW):Prop:=∀f g,X f = some g->∀c d,CLe c d->∀aS h,Le (g c aS h) (g d aS h)
theorem qx4 {F:FuncId->Option qt} {X:qlW} (hX:qzw X) {n m:Nat} (I:n <= m) (hc:CLe (run F X n) (run F X m)):CLe (run F X (n + 1)) (run F X (m + 1)):=λfv aS h x hx=>by
 simp only [run] at hx ⊢
 split at hx
 ·split at hx
  ·rename_i hg
   exact hX _ _ hg _ _ hc _ _ _ hx
  ·split at hx
   ·cases hx
   ·split at hx
    ·rename_i E;rw [qD hc I _ _ _ E];exact hx
    ·rename_i E;rw [qD hc I _ _ _ E];exact hx
    ·rename_i E;rw [qD hc I _ _ _ E];exact hx
    ·cases hx
 ·exact qfb hc I _ hx
 ·cases hx
theorem qgl {F:FuncId->Option qt} {X:qlW} (hX:qzw X):∀n m:Nat,n <= m->CLe (run F X n) (run F X m)
 | 0,_,_=>λ_ _ _ x hx=>by cases hx
 | n + 1,0,h=>zo
 | n + 1,m + 1,h=>qx4 hX zo (qgl hX n m zo)
section
variable {c:Nat->Call} {base:Nat}
theorem qfc (hc:qea c) {p:qcD} {dst:Option Nat} {o:AOp} {s:St} {x:Ex×St} (hx:qA base (qpK c) p dst o s = some x):∃k,qA base (c k) p dst o s = some x:=by
 cases o
 case call f args=>
  simp only [qA] at hx ⊢
  split at hx
  ·rename_i E;obtain ⟨k,hk⟩:=(qe4 hc _).1 E;exact ⟨k,by rw [hk];exact hx⟩
  ·rename_i E;obtain ⟨k,hk⟩:=(qe4 hc _).1 E;exact ⟨k,by rw [hk];exact hx⟩
  ·cases hx
 all_goals exact ⟨0,hx⟩
theorem qd8 (hc:qea c):∀(ops:List qam) (p:qcD) (s:St) (x:Ex×St),qaO base (qpK c) p ops s = some x->∃k,qaO base (c k) p ops s = some x
 | [],p,s,x,hx=>⟨0,hx⟩
 | o :: os,p,s,x,hx=>by
  simp only [qaO] at hx ⊢
  split at hx
  ·split at hx
   ·rename_i E
    obtain ⟨k1,h1⟩:=qfc hc E
    obtain ⟨k2,h2⟩:=qd8 hc os _ _ _ hx
    refine ⟨max k1 k2,?_⟩
    rw [qbX (hc k1 _ (Nat.le_max_left ..)) _ h1]
    exact qbS (hc k2 _ (Nat.le_max_right ..)) _ _ _ _ h2
   ·rename_i I
    obtain ⟨k1,h1⟩:=qfc hc hx
    refine ⟨k1,?_⟩
    rw [h1]
    split
    ·rename_i E;cases E;exact absurd hx (I _)
    ·rfl
  ·exact qd8 hc os _ _ _ hx
  ·cases hx
theorem qbe (hc:qea c) (dsts:List Nat):∀(ops:List qR) (pend:List (Nat×Chk)) (s:St) (x:Ex×St),qW base (qpK c) dsts ops pend s = some x->∃k,qW base (c k) dsts ops pend s = some x
 | [],p,s,x,hx=>⟨0,hx⟩
 | o :: os,p,s,x,hx=>by
  simp only [qW] at hx ⊢
  split at hx
  ·split at hx
   ·rename_i E
    obtain ⟨k1,h1⟩:=qfc hc E
    split at hx
    ·rename_i he
     split at hx
     ·rename_i hp
      obtain ⟨k2,h2⟩:=qbe hc dsts os _ _ _ hx
      refine ⟨max k1 k2,?_⟩
      rw [qbX (hc k1 _ (Nat.le_max_left ..)) _ h1]
      simp only
      rw [if_pos he,if_pos hp]
      exact qay (hc k2 _ (Nat.le_max_right ..)) dsts _ _ _ _ h2
     ·cases hx
    ·rename_i he
     split at hx
     ·obtain ⟨k2,h2⟩:=qbe hc dsts os _ _ _ hx
      rename_i hk
      refine ⟨max k1 k2,?_⟩
      rw [qbX (hc k1 _ (Nat.le_max_left ..)) _ h1]
      simp only
      rw [if_neg he]
      exact qay (hc k2 _ (Nat.le_max_right ..)) dsts _ _ _ _ h2
     ·obtain ⟨k2,h2⟩:=qbe hc dsts os _ _ _ hx
      refine ⟨max k1 k2,?_⟩
      rw [qbX (hc k1 _ (Nat.le_max_left ..)) _ h1]
      simp only
      rw [if_neg he]
      exact qay (hc k2 _ (Nat.le_max_right ..)) dsts _ _ _ _ h2
   ·rename_i E;obtain ⟨k1,h1⟩:=qfc hc E;exact ⟨k1,by rw [h1];exact hx⟩
   ·cases hx
  ·exact qbe hc dsts os _ _ _ hx
  ·cases hx
theorem qle {f:St->Option (Ex×St)} {g:Nat->St->Option (Ex×St)} (hg:∀n m,n <= m->∀s,Le (g n s) (g m s)) (hf:∀s x,f s = some x->∃k,g k s = some x):∀(n:Nat) (s:St) (x:Ex×St),iter f n s = some x->∃k,iter (g k) n s = some x
 | 0,s,x,hx=>by cases hx
 | n + 1,s,x,hx=>by
  simp only [iter] at hx ⊢
  split at hx
  ·rename_i E
   obtain ⟨k1,h1⟩:=hf _ _ E
   obtain ⟨k2,h2⟩:=qle hg hf n _ _ hx
   refine ⟨max k1 k2,?_⟩
   rw [hg k1 _ (Nat.le_max_left ..) _ _ h1]
   exact qeC (hg k2 _ (Nat.le_max_right ..)) n n (jm _) _ _ h2
  ·rename_i I
   obtain ⟨k1,h1⟩:=hf _ _ hx
   refine ⟨k1,?_⟩
   rw [h1]
   split
   ·rename_i E;cases E;exact absurd hx (I _)
   ·rfl
theorem qaz (hc:qea c) {n:Nat}:∀(a:qF) (s:St) (x:Ex×St),qaV n base (qpK c) a s = some x->∃k,qaV n base (c k) a s = some x
 | .skip,s,x,hx=>⟨0,hx⟩
 | .reg ops,s,x,hx=>qd8 hc ops _ s x hx
 | .draw ops,s,x,hx=>qbe hc _ ops _ s x hx
 | .draw2 c0 a0 b0 r0,s,x,hx=>by
  simp only [qaV] at hx ⊢
  unfold qyJ at hx
  split at hx
  ·rename_i s0 s1 s2 e0 e1 e2
   obtain ⟨k0,h0⟩:=qbe hc _ _ _ s _ e0
   obtain ⟨k1,h1⟩:=qbe hc _ _ _ s _ e1
   obtain ⟨k2,h2⟩:=qbe hc _ _ _ s _ e2
   refine ⟨max k0 (max k1 k2),?_⟩
   rw [qay (hc k0 _ (Nat.le_max_left ..)) _ _ _ s _ h0,qay (hc k1 _ (jn (Nat.le_max_left ..) (Nat.le_max_right ..))) _ _ _ s _ h1,qay (hc k2 _ (jn (Nat.le_max_right ..) (Nat.le_max_right ..))) _ _ _ s _ h2]
   exact hx
  ·cases hx
 | .seq a b,s,x,hx=>by
  simp only [qaV] at hx ⊢
  split at hx
  ·rename_i E
   obtain ⟨k1,h1⟩:=qaz hc a _ _ E
   obtain ⟨k2,h2⟩:=qaz hc b _ _ hx
   refine ⟨max k1 k2,?_⟩
   rw [qD (hc k1 _ (Nat.le_max_left ..)) (jm _) _ _ _ h1]
   exact qD (hc k2 _ (Nat.le_max_right ..)) (jm _) _ _ _ h2
  ·rename_i I
   obtain ⟨k1,h1⟩:=qaz hc a _ _ hx
   refine ⟨k1,?_⟩
   rw [h1]
   split
   ·rename_i E;cases E;exact absurd hx (I _)
   ·rfl
 | .cond q a b,s,x,hx=>by
  simp only [qaV] at hx ⊢
  split at hx
  ·exact qaz hc a _ _ hx
  ·exact qaz hc b _ _ hx
  ·cases hx
 | .block id b,s,x,hx=>by
  simp only [qaV] at hx ⊢
  split at hx
  ·rename_i E
   obtain ⟨k1,h1⟩:=qaz hc b _ _ E
   exact ⟨k1,by rw [h1];exact hx⟩
  ·rename_i I
   obtain ⟨k1,h1⟩:=qaz hc b _ _ hx
   refine ⟨k1,?_⟩
   rw [h1]
   split
   ·rename_i E;cases E;exact absurd hx (I _ _)
   ·rfl
 | .loop b,s,x,hx=>by
  simp only [qaV] at hx ⊢
  exact qle (g:=λk=>qaV n base (c k) b) (λi j Y s=>qD (hc i j Y) (jm _) b s) (λs x h=>qaz hc b s x h) n s x hx
 | .exit id,s,x,hx=>⟨0,hx⟩
 | .ret,s,x,hx=>⟨0,hx⟩
 | .rfun f ps asg body,s,x,hx=>by
  simp only [qaV] at hx ⊢
  split at hx
  ·split at hx
   ·rename_i E;obtain ⟨k,hk⟩:=(qe4 hc _).1 E;exact ⟨k,by rw [hk];exact hx⟩
   ·rename_i E;obtain ⟨k,hk⟩:=(qe4 hc _).1 E;exact ⟨k,by rw [hk];exact hx⟩
   ·cases hx
  ·cases hx
theorem qqg (hc:qea c) {n:Nat} {l:Nat} {args:List qd} {h:List qj} {x:qdm×List qj×Bool} (hx:round n (qpK c) l args h = some x):∃k,round n (c k) l args h = some x:=by
 simp only [round] at hx ⊢
 split at hx
 ·split at hx
  ·cases hx
  ·rename_i hl
   split at hx
   ·rename_i I
    obtain ⟨k1,h1⟩:=qaz hc _ _ _ I
    split at hx
    ·rename_i hb
     split at hx
     ·rename_i E
      obtain ⟨k2,h2⟩:=qaz hc _ _ _ E
      refine ⟨max k1 k2,?_⟩
      rw [if_neg hl,qD (hc k1 _ (Nat.le_max_left ..)) (jm _) _ _ _ h1]
      simp only [hb]
      rw [qD (hc k2 _ (Nat.le_max_right ..)) (jm _) _ _ _ h2]
      exact hx
     ·cases hx
    ·cases hx
   ·cases hx
 ·cases hx
theorem qgy (hc:qea c) {n:Nat} {df:qcO} {v:qd} {cv:List qd} {s:St} {x:Ex×St} (hx:qfh n (qpK c) df v cv s = some x):∃k,qfh n (c k) df v cv s = some x:=by
 simp only [qfh] at hx ⊢
 split at hx
 ·rename_i I
  obtain ⟨k1,h1⟩:=qd8 hc _ _ _ _ I
  split at hx
  ·rename_i E
   obtain ⟨k2,h2⟩:=qaz hc _ _ _ E
   refine ⟨max k1 k2,?_⟩
   rw [qbS (hc k1 _ (Nat.le_max_left ..)) _ _ _ _ h1]
   simp only
   rw [qD (hc k2 _ (Nat.le_max_right ..)) (jm _) _ _ _ h2]
   exact hx
  ·rename_i E
   obtain ⟨k2,h2⟩:=qaz hc _ _ _ E
   refine ⟨max k1 k2,?_⟩
   rw [qbS (hc k1 _ (Nat.le_max_left ..)) _ _ _ _ h1]
   simp only
   rw [qD (hc k2 _ (Nat.le_max_right ..)) (jm _) _ _ _ h2]
   exact hx
  ·cases hx
 ·cases hx
theorem qe3 (hc:qea c) {n:Nat} {df:qcO}:∀(b:qer) (s:St) (x:Ex×St),qdy n base (qpK c) df b s = some x->∃k,qdy n base (c k) df b s = some x
 | .pre a r,s,x,hx=>by
  simp only [qdy] at hx ⊢
  split at hx
  ·rename_i E
   obtain ⟨k1,h1⟩:=qaz hc _ _ _ E
   obtain ⟨k2,h2⟩:=qe3 hc r _ _ hx
   refine ⟨max k1 k2,?_⟩
   rw [qD (hc k1 _ (Nat.le_max_left ..)) (jm _) _ _ _ h1]
   exact qdz (hc k2 _ (Nat.le_max_right ..)) (jm _) _ _ _ h2
  ·cases hx
  ·rename_i h1 h2
   obtain ⟨k1,h3⟩:=qaz hc _ _ _ hx
   refine ⟨k1,?_⟩
   rw [h3]
   split
   ·rename_i E;cases E;exact absurd hx (h1 _)
   ·rename_i E;cases E;exact absurd hx (h2 _ _)
   ·rfl
 | .dfr f I slot rest,s,x,hx=>by
  simp only [qdy] at hx ⊢
  split at hx
  ·split at hx
   ·rename_i hg
    simp only [if_pos hg]
    split at hx
    ·rename_i E
     obtain ⟨k1,h1⟩:=qaz hc _ _ _ E
     obtain ⟨k2,h2⟩:=qgy hc hx
     refine ⟨max k1 k2,?_⟩
     rw [qD (hc k1 _ (Nat.le_max_left ..)) (jm _) _ _ _ h1]
     exact qcK (hc k2 _ (Nat.le_max_right ..)) (jm _) _ h2
    ·rename_i E
     obtain ⟨k1,h1⟩:=qaz hc _ _ _ E
     obtain ⟨k2,h2⟩:=qgy hc hx
     refine ⟨max k1 k2,?_⟩
     rw [qD (hc k1 _ (Nat.le_max_left ..)) (jm _) _ _ _ h1]
     exact qcK (hc k2 _ (Nat.le_max_right ..)) (jm _) _ h2
    ·rename_i E
     obtain ⟨k1,h1⟩:=qaz hc _ _ _ E
     obtain ⟨k2,h2⟩:=qgy hc hx
     refine ⟨max k1 k2,?_⟩
     rw [qD (hc k1 _ (Nat.le_max_left ..)) (jm _) _ _ _ h1]
     exact qcK (hc k2 _ (Nat.le_max_right ..)) (jm _) _ h2
    ·cases hx
   ·cases hx
  ·cases hx
theorem qpe (hc:qea c) {n:Nat} {g:qjE} {aS:List qd} {h:List qj} {x:qdm×List qj×Bool} (hx:qez n g (qpK c) aS h = some x):∃k,qez n g (c k) aS h = some x:=by
 simp only [qez] at hx ⊢
 split at hx
 ·rename_i E;obtain ⟨k1,h1⟩:=qe3 hc _ _ _ E;exact ⟨k1,by rw [h1];exact hx⟩
 ·rename_i E;obtain ⟨k1,h1⟩:=qe3 hc _ _ _ E;exact ⟨k1,by rw [h1];exact hx⟩
 ·rename_i E;obtain ⟨k1,h1⟩:=qe3 hc _ _ _ E;exact ⟨k1,by rw [h1];exact hx⟩
 ·cases hx
end
noncomputable def qv (base:Nat) (call:Call) (a:qF) (s:St):Option (Ex×St):=lim λn=>qaV n base call a s
noncomputable def qlA (call:Call) (l:Nat) (args:List qd) (h:List qj):Option (qdm×List qj×Bool):=lim λn=>round n call l args h
section
variable {base:Nat} {call:Call}
theorem qan {a:qF} {s:St} (x:Ex×St):qv base call a s = some x↔∃n,qaV n base call a s = some x:=
 qj0 (λn m E=>qD (CLe.refl _) E a s) x
theorem qo8 (s:St):qv base call .skip s = some (.nor,s):=qcX _
theorem qhS (ops:List qam) (s:St):qv base call (.reg ops) s = qaO base call [] ops s:=qcX _
theorem qo6 (ops:List qR) (s:St):qv base call (.draw ops) s = qW base call (ops.filterMap (·.o.dst)) ops [] s:=qcX _
theorem qo7 (id:Nat) (s:St):qv base call (.exit id) s = some (.exit id,s):=qcX _
theorem qsb (s:St):qv base call .ret s = some (.ret,s):=qcX _
def qb8 (f:St->Option (Ex×St)):Option (Ex×St)->Option (Ex×St)
 | some (.nor,s)=>f s
 | r=>r
theorem qsc (a b:qF) (s:St):qv base call (.seq a b) s = qb8 (qv base call b) (qv base call a s):=by
 apply Option.ext
 intro x
 rw [qan]
 constructor
 ·rintro ⟨n,h⟩
  simp only [qaV] at h
  split at h
  ·rename_i E
   rw [(qan _).2 ⟨n,E⟩]
   exact (qan _).2 ⟨n,h⟩
  ·rename_i I
   rw [(qan _).2 ⟨n,h⟩]
   unfold qb8
   split
   ·rename_i E;cases E;exact absurd h (I _)
   ·rfl
 ·intro h
  unfold qb8 at h
  split at h
  ·rename_i E
   obtain ⟨n1,h1⟩:=(qan _).1 E
   obtain ⟨n2,h2⟩:=(qan _).1 h
   refine ⟨max n1 n2,?_⟩
   simp only [qaV]
   rw [qD (CLe.refl _) (Nat.le_max_left n1 n2) _ _ _ h1]
   exact qD (CLe.refl _) (Nat.le_max_right n1 n2) _ _ _ h2
  ·rename_i I
   obtain ⟨n1,h1⟩:=(qan _).1 h
   refine ⟨n1,?_⟩
   simp only [qaV]
   rw [h1]
   split
   ·rename_i E;cases E;exact absurd h (I _)
   ·rfl
theorem qo5 (q:qB) (a b:qF) (s:St):qv base call (.cond q a b) s = match ev s.t q with
  | .bool true=>qv base call a s
  | .bool false=>qv base call b s
  | _=>none:=by
 simp only [qv,qaV]
 generalize ev s.t q = v
 cases v with
 | bool b=>cases b <;> rfl
 | _=>exact qcX _
def qc8 (id:Nat):Option (Ex×St)->Option (Ex×St)
 | some (.exit j,s)=>if j = id then some (.nor,s) else some (.exit j,s)
 | r=>r
theorem qmx (id:Nat) (b:qF) (s:St):qv base call (.block id b) s = qc8 id (qv base call b s):=by
 apply Option.ext
 intro x
 rw [qan]
 constructor
 ·rintro ⟨n,h⟩
  simp only [qaV] at h
  split at h
  ·rename_i E
   rw [(qan _).2 ⟨n,E⟩]
   exact h
  ·rename_i I
   rw [(qan _).2 ⟨n,h⟩]
   unfold qc8
   split
   ·rename_i E;cases E;exact absurd h (I _ _)
   ·rfl
 ·intro h
  unfold qc8 at h
  split at h
  ·rename_i E
   obtain ⟨n1,h1⟩:=(qan _).1 E
   refine ⟨n1,?_⟩
   simp only [qaV]
   rw [h1]
   exact h
  ·rename_i I
   obtain ⟨n1,h1⟩:=(qan _).1 h
   refine ⟨n1,?_⟩
   simp only [qaV]
   rw [h1]
   split
   ·rename_i E;cases E;exact absurd h (I _ _)
   ·rfl
theorem qn (b:qF) (s:St):qv base call (.loop b) s = qb8 (qv base call (.loop b)) (qv base call b s):=by
 apply Option.ext
 intro x
 rw [qan]
 constructor
 ·rintro ⟨n,h⟩
  simp only [qaV] at h
  cases n with
  | zero=>cases h
  | succ n=>
   simp only [iter] at h
   split at h
   ·rename_i E
    rw [(qan _).2 ⟨n + 1,E⟩]
    exact (qan _).2 ⟨n + 1,qeC (λs=>Le.refl _) n (n + 1) zo _ _ h⟩
   ·rename_i I
    rw [(qan _).2 ⟨n + 1,h⟩]
    unfold qb8
    split
    ·rename_i E;cases E;exact absurd h (I _)
    ·rfl
 ·intro h
  unfold qb8 at h
  split at h
  ·rename_i E
   obtain ⟨n1,h1⟩:=(qan _).1 E
   obtain ⟨n2,h2⟩:=(qan _).1 h
   refine ⟨max n1 n2 + 1,?_⟩
   simp only [qaV,iter] at h2 ⊢
   rw [qD (CLe.refl _) (show n1 <= max n1 n2 + 1 by omega) _ _ _ h1]
   exact qeC (λs=>qD (CLe.refl _) (show n2 <= max n1 n2 + 1 by omega) b s) n2 (max n1 n2) zo _ _ h2
  ·rename_i I
   obtain ⟨n1,h1⟩:=(qan _).1 h
   refine ⟨n1 + 1,?_⟩
   simp only [qaV,iter]
   rw [qD (CLe.refl _) (Nat.le_succ n1) _ _ _ h1]
   split
   ·rename_i E;cases E;exact absurd h (I _)
   ·rfl
theorem qi1 (f:qB) (ps:List Nat) (asg body:qF) (s:St):qv base call (.rfun f ps asg body) s = qaV 0 base call (.rfun f ps asg body) s:=by
 rw [qv]
 exact qcX _
theorem qjs {l:Nat} {args:List qd} {h:List qj} (x:qdm×List qj×Bool):qlA call l args h = some x↔∃n,round n call l args h = some x:=
 qj0 (λn m E=>qfb (CLe.refl _) E) x
def qkk (base l:Nat) (t:List qd) (ps:List Nat) (asg body:qF) (s:St):Ex->Option (qdm×List qj×Bool)
 | .nor=>some (leave base (.ret (.bool true)) (s.h.set l (.loop t ps asg body .ready none)) s.e)
 | .ret=>some (leave base (.ret (.bool false)) (s.h.set l (.loop t ps asg body .done (some .ret))) s.e)
 | .exit id=>some (leave base (.ret (.bool false)) (s.h.set l (.loop t ps asg body .done (some (.exit id)))) s.e)
 | .pan _=>none
theorem qlB {l:Nat} {args:List qd} {h:List qj} {t:List qd} {ps:List Nat} {asg body:qF} {st:LSt} {pend:Option qvz} {s:St} {t1:List qd} {ps1:List Nat} {asg1 body1:qF} {pend1:Option qvz} {x:Ex} {s2:St} {t2:List qd} {ps2:List Nat} {asg2 body2:qF} {st2:LSt} {pend2:Option qvz} {r:qdm×List qj×Bool}
  (h0:h[l]? = some (.loop t ps asg body st pend)) (hl:args.length = ps.length) (h1:qv h.length call asg ⟨qky t ps (args.map qd.dim),h,false⟩ = some (.nor,s))
  (h2:s.h[l]? = some (.loop t1 ps1 asg1 body1 .ready pend1)) (h3:qv h.length call body { s with h:=s.h.set l (.loop t1 ps1 asg1 body1 .busy pend1)} = some (x,s2))
  (h4:s2.h[l]? = some (.loop t2 ps2 asg2 body2 st2 pend2))
  (h5:qkk h.length l t2 ps2 asg2 body2 s2 x = some r):qlA call l args h = some r:=by
 obtain ⟨n1,e1⟩:=(qan _).1 h1
 obtain ⟨n2,e2⟩:=(qan _).1 h3
 refine (qjs _).2 ⟨max n1 n2,?_⟩
 simp only [round,h0]
 rw [if_neg (by simp [hl]),qD (CLe.refl _) (Nat.le_max_left n1 n2) _ _ _ e1]
 simp only [h2]
 rw [qD (CLe.refl _) (Nat.le_max_right n1 n2) _ _ _ e2]
 simp only [h4]
 cases x <;> exact h5
end
section
variable {F:FuncId->Option qt} {X:qlW}
noncomputable def W (F:FuncId->Option qt) (X:qlW):Call:=qpK (run F X)
structure qoy (X:qlW):Prop where
 mono:qzw X
 cont:∀f g,X f = some g->∀c,qea c->∀aS h x,g (qpK c) aS h = some x->∃k,g (c k) aS h = some x
theorem qox (hX:qoy X) {fv:qd} {aS:List qd} {h:List qj} (x:qdm×List qj×Bool):W F X fv aS h = some x↔∃n,run F X n fv aS h = some x:=
 qe4 (qgl hX.mono) x
theorem qJP (hX:qoy X) {f:FuncId} {first args cap:List qd} {h:List qj} {fn:qt} (h1:X f = none) (h2:F f = some fn) :
  W F X (.fn f first cap) args h = qmu fn h (qv h.length (W F X) fn.code ⟨(first ++ args ++ cap).map qd.dim ++ List.replicate (fn.ntmps - ((first ++ args ++ cap).map qd.dim).length) (.tup []),h,false⟩):=by
 have E:=qgl (F:=F) hX.mono
 apply Option.ext
 intro x
 rw [qox hX]
 constructor
 ·rintro ⟨n,hn⟩
  cases n with
  | zero=>cases hn
  | succ n=>
   rw [qzj h1 h2] at hn
   cases hq:qaV n h.length (run F X n) fn.code ⟨(first ++ args ++ cap).map qd.dim ++ List.replicate (fn.ntmps - ((first ++ args ++ cap).map qd.dim).length) (.tup []),h,false⟩ with
   | none=>rw [hq] at hn;cases hn
   | some y=>
    rw [hq] at hn
    have e:=(qan y).2 ⟨n,qD (qmN E n) (jm _) _ _ _ hq⟩
    rw [W,e]
    exact hn
 ·intro hn
  cases hq:qv h.length (W F X) fn.code ⟨(first ++ args ++ cap).map qd.dim ++ List.replicate (fn.ntmps - ((first ++ args ++ cap).map qd.dim).length) (.tup []),h,false⟩ with
  | none=>rw [hq] at hn;cases hn
  | some y=>
   rw [hq] at hn
   obtain ⟨k,hk⟩:=(qan y).1 hq
   obtain ⟨m,hm⟩:=qaz E _ _ _ hk
   refine ⟨max k m + 1,?_⟩
   rw [qzj h1 h2,qD (E m _ (Nat.le_max_right k m)) (Nat.le_max_left k m) _ _ _ hm]
   exact hn
theorem qhf (hX:qoy X) {f:FuncId} {first args cap:List qd} {h:List qj} {g:Call->List qd->List qj->Option (qdm×List qj×Bool)} (h1:X f = some g) :
  W F X (.fn f first cap) args h = g (W F X) (first ++ args ++ cap) h:=by
 have E:=qgl (F:=F) hX.mono
 apply Option.ext
 intro x
 rw [qox hX]
 constructor
 ·rintro ⟨n,hn⟩
  cases n with
  | zero=>cases hn
  | succ n=>
   rw [quw h1] at hn
   exact hX.mono f g h1 _ _ (qmN E n) _ _ _ hn
 ·intro hn
  obtain ⟨k,hk⟩:=hX.cont f g h1 _ E _ _ _ hn
  exact ⟨k + 1,by rw [quw h1];exact hk⟩
theorem qCt (hX:qoy X) {l:Nat} {args:List qd} {h:List qj}:W F X (.yld l) args h = qlA (W F X) l args h:=by
 have E:=qgl (F:=F) hX.mono
 apply Option.ext
 intro x
 rw [qox hX,qjs]
 constructor
 ·rintro ⟨n,hn⟩
  cases n with
  | zero=>cases hn
  | succ n=>exact ⟨n,qfb (qmN E n) (jm _) _ hn⟩
 ·rintro ⟨k,hk⟩
  obtain ⟨m,hm⟩:=qqg E hk
  exact ⟨max k m + 1,qfb (E m _ (Nat.le_max_right k m)) (Nat.le_max_left k m) _ hm⟩
end
def lkp (t:List qd) (i:Nat):qd:=t.getD i .undef
section
variable {base:Nat} {call:Call} {p:qcD} {s:St} {t:List qd} {h:List qj}
theorem qJX (t:List qd) (i:Nat):ev t (.t i) = (lkp t i).dim:=rfl
theorem qJW (t:List qd) (v:qd):ev t (.c v) = v.dim:=rfl
theorem qIE (t:List qd) (i:Nat):raw t (.t i) = lkp t i:=rfl
theorem qID (t:List qd) (v:qd):raw t (.c v) = v:=rfl
def up (t:List qd) (i:Nat) (v:qd):List qd:=t.set i v
theorem qge (t:List qd) (i:Nat) (v:qd):(up t i v).length = t.length:=by simp [up]
theorem qAV {i:Nat} {v:qd} (h:i < t.length):lkp (up t i v) i = v:=by simp [lkp,up,List.getD,h]
theorem qAW {i j:Nat} {v:qd} (h:i ≠ j):lkp (up t i v) j = lkp t j:=by simp [lkp,up,List.getD,jf h]
theorem qtp (a:qd) (t:List qd):lkp (a :: t) 0 = a:=rfl
theorem qto (a:qd) (t:List qd) (i:Nat):lkp (a :: t) (i + 1) = lkp t i:=rfl
theorem qki (d:Nat) (v:qd) (t:List qd):put (some d) v t = up t d v:=rfl
theorem qxQ (v:qd) (t:List qd):put none v t = t:=rfl
theorem qrK:qd.undef.dim = .undef:=rfl
theorem qv8 (b:Bool):(qd.bool b).dim = .bool b:=rfl
theorem qAh (k:IntKind) (n:Int):(qd.int k n).dim = .int k n:=rfl
theorem qmq (s:List UInt8):(qd.str s).dim = .str s:=rfl
theorem qoW:qd.nilptr.dim = .nilptr:=rfl
theorem qmp (i o:Nat):(qd.ptr i o).dim = .ptr i o:=rfl
theorem qwa (cs:List qd) (o:Nat):(qd.iptr cs o).dim = .iptr cs o:=rfl
theorem qCU (xs:List qd):(qd.lst xs .no).dim = .lst xs .no:=rfl
theorem qv9 (xs:List qd):(qd.lst xs .full).dim = .lst xs .full:=rfl
theorem qAi (xs:List qd) (k:Nat):(qd.lst xs (.own k)).dim = .lst xs .no:=rfl
theorem qmn:qd.nilfunc.dim = .nilfunc:=rfl
theorem qrI (f:FuncId) (a b:List qd):(qd.fn f a b).dim = .fn f a b:=rfl
theorem qAj (i:Nat):(qd.yld i).dim = .yld i:=rfl
theorem qkU:qd.niliface.dim = .niliface:=rfl
theorem qrJ (t:TypeId) (v:qd):(qd.iface t v).dim = .iface t v:=rfl
theorem qAg (cs:List qd):(qd.agg cs).dim = .agg cs:=rfl
theorem qmr (cs:List qd):(qd.tup cs).dim = .tup cs:=rfl
theorem qkV (v:qd):v.dim.dim = v.dim:=by
 cases v with
 | lst xs f=>cases f <;> rfl
 | _=>rfl
def qhc (dst:Option Nat) (s:St):Option qd->Option (Ex×St)
 | some v=>some (.nor,{ s with t:=put dst v s.t})
 | none=>none
theorem qum (dst:Option Nat) (t:List qd) (h:List qj) (e:Bool) (v:qd):qhc dst ⟨t,h,e⟩ (some v) = some (.nor,⟨put dst v t,h,e⟩):=rfl
theorem qiy (f:St->Option (Ex×St)) (s:St):qb8 f (some (.nor,s)) = f s:=rfl
theorem qu5 (f:St->Option (Ex×St)) (s:St):qb8 f (some (.ret,s)) = some (.ret,s):=rfl
theorem qqt (f:St->Option (Ex×St)) (id:Nat) (s:St):qb8 f (some (.exit id,s)) = some (.exit id,s):=rfl
theorem qu4 (f:St->Option (Ex×St)) (v:qd) (s:St):qb8 f (some (.pan v,s)) = some (.pan v,s):=rfl
theorem qoK (id:Nat) (s:St):qc8 id (some (.nor,s)) = some (.nor,s):=rfl
theorem qoM (id:Nat) (s:St):qc8 id (some (.ret,s)) = some (.ret,s):=rfl
theorem qoL (id:Nat) (v:qd) (s:St):qc8 id (some (.pan v,s)) = some (.pan v,s):=rfl
theorem qma (id j:Nat) (s:St):qc8 id (some (.exit j,s)) = if j = id then some (.nor,s) else some (.exit j,s):=rfl
def qz7 (v:qd) (a b:Option (Ex×St)):Option (Ex×St):=
 match v with
 | .bool true=>a
 | .bool false=>b
 | _=>none
theorem qwA (q:qB) (a b:qF) (s:St):qv base call (.cond q a b) s = qz7 (ev s.t q) (qv base call a s) (qv base call b s):=qo5 q a b s
def qnG (v:qd) (b:Bool) (yes no:Option (Ex×St)):Option (Ex×St):=
 match v with
 | .bool c=>if c == b then yes else no
 | .tup []=>no
 | _=>none
theorem qBj:qaO base call p [] s = some (.nor,s):=rfl
theorem qn5 (d:Option Nat) (o:AOp) (os:List qam):qaO base call p (⟨d,o,none⟩ :: os) s = qb8 (qaO base call (qaN p ⟨d,o,none⟩) os) (qA base call p d o s):=by
 simp only [qaO,wanted]
 unfold qb8
 split <;> split <;> simp_all
theorem qtX (d:Option Nat) (o:AOp) (j:Nat) (b:Bool) (os:List qam) :
  qaO base call p (⟨d,o,some (j,b)⟩ :: os) s = qnG (lkp s.t j) b (qb8 (qaO base call (qaN p ⟨d,o,some (j,b)⟩) os) (qA base call p d o s))
   (qaO base call (qaN p { dst:=d,op:=.pick (.c .undef) (.c .undef) (.c .undef),guard:=some (j,b)}) os { s with t:=put d (.tup []) s.t}):=by
 simp only [qaO,wanted,lkp]
 generalize s.t.getD j .undef = v
 cases v with
 | bool c=>
  simp only [qnG]
  cases hc:c == b with
  | false=>simp
  | true=>
   simp only [if_true]
   unfold qb8
   split <;> split <;> simp_all
 | tup vs=>cases vs <;> rfl
 | _=>rfl
theorem qEj (d:Option Nat) (x:qB):qA base call p d (.mov x) s = some (.nor,{ s with t:=put d (ev s.t x) s.t}):=rfl
theorem qEb (d:Option Nat) (x:qB):qA base call p d (.asg x) s = some (.nor,{ s with t:=put d (raw s.t x) (qaK s.t x)}):=rfl
def qiR (v a b:qd):Option qd:=
 match v with
 | .bool true=>some a
 | .bool false=>some b
 | _=>none
theorem qp7 (a b:qd):qiR (.bool true) a b = some a:=rfl
theorem qmX (a b:qd):qiR (.bool false) a b = some b:=rfl
theorem qtW (d:Option Nat) (c a b:qB):qA base call p d (.pick c a b) s = qhc d s (qiR (ev s.t c) (ev s.t a) (ev s.t b)):=by
 simp only [qA,pureV]
 generalize ev s.t c = v
 cases v with
 | bool b=>cases b <;> rfl
 | _=>rfl
theorem qa7 (d:Option Nat) (o:AOp) (ho:o.effs = false) (h1:∀cs,o ≠ .new cs) (h2:∀k x,o ≠ .box k x) (h3:∀k x,o ≠ .ld k x) (h4:∀sh z ok m key,o ≠ .lk sh z ok m key:=by simp):qA base call p d o s = qhc d s (pureV s.t o):=by
 cases o <;> first | exact absurd rfl (h4 _ _ _ _ _) | (simp [AOp.effs] at ho h1 h2 h3 <;> (simp only [qA];cases pureV s.t _ <;> rfl))
def faV (off:Nat):qd->Option qd
 | .ptr i o=>some (.ptr i (o + off))
 | .iptr cs o=>some (.iptr cs (o + off))
 | _=>none
theorem qAx (off i o:Nat):faV off (.ptr i o) = some (.ptr i (o + off)):=rfl
theorem qwE (off o:Nat) (cs:List qd):faV off (.iptr cs o) = some (.iptr cs (o + off)):=rfl
theorem qEf (d:Option Nat) (off:Nat) (a:qB):qA base call p d (.fa off a) s = qhc d s (faV off (ev s.t a)):=by
 rw [qa7 _ _ rfl (by simp) (by simp) (by simp)]
 simp only [pureV]
 cases ev s.t a <;> rfl
theorem qy4 (d:Option Nat) (op:BinOp) (x y:qB):qA base call p d (.bin op x y) s = qhc d s (qeV op (ev s.t x) (ev s.t y)):=qa7 _ _ rfl (by simp) (by simp) (by simp)
theorem qEm (d:Option Nat) (op:UnOp) (x:qB):qA base call p d (.un op x) s = qhc d s (unV op (ev s.t x)):=qa7 _ _ rfl (by simp) (by simp) (by simp)
def qxr:qd->Option qd
 | .ptr i o=>some (.ptr i o)
 | .iptr cs o=>some (.iptr cs o)
 | .fn f a b=>some (.fn f a b)
 | .yld l=>some (.yld l)
 | .iface u v=>some (.iface u v)
 | _=>none
theorem qtV (d:Option Nat) (x:qB):qA base call p d (.nilc x) s = qhc d s (qxr (ev s.t x)):=by
 rw [qa7 _ _ rfl (by simp) (by simp) (by simp)]
 simp only [pureV]
 cases ev s.t x <;> rfl
theorem qtL (i o:Nat):qxr (.ptr i o) = some (.ptr i o):=rfl
theorem qpW (cs:List qd) (o:Nat):qxr (.iptr cs o) = some (.iptr cs o):=rfl
def qqG (b:Bool) (v:qd):Option qd:=
 match b,v with
 | true,.str s=>some (.int .i64 s.length)
 | false,.lst xs _=>some (.int .i64 xs.length)
 | false,.sl _ _ len _ _=>some (.int .i64 len)
 | false,.nils=>some (.int .i64 0)
 | false,.empt=>some (.int .i64 0)
 | _,_=>none
theorem qza (d:Option Nat) (b:Bool) (x:qB):qA base call p d (.len b x) s = qhc d s (qqG b (ev s.t x)):=by
 rw [qa7 _ _ rfl (by simp) (by simp) (by simp)]
 cases b <;> simp only [pureV] <;> cases ev s.t x <;> rfl
theorem qw6 (s:List UInt8):qqG true (.str s) = some (.int .i64 s.length):=rfl
theorem qw5 (xs:List qd) (f:qgV):qqG false (.lst xs f) = some (.int .i64 xs.length):=rfl
def qi9 (k:Nat) (s i:qd):Option qd:=
 match s,i with
 | .lst xs _,.int _ n=>
  if 0 <= n/\n < xs.length then
   match xs[n.toNat]? with
   | some x=>if x.cells.length = k then some (.iptr x.cells 0) else none
   | none=>none
  else none
 | .sl id o len _ _,.int _ n=>if 0 <= n/\n < len then some (.ptr id (o + n.toNat * k)) else none
 | _,_=>none
theorem qtU (d:Option Nat) (k:Nat) (x i:qB):qA base call p d (.ixaL k x i) s = qhc d s (qi9 k (ev s.t x) (ev s.t i)):=by
 rw [qa7 _ _ rfl (by simp) (by simp) (by simp)]
 simp only [pureV]
 cases ev s.t x <;> cases ev s.t i <;> rfl
theorem qa3 {k:Nat} {xs:List qd} {f:qgV} {j:IntKind} {n:Nat} {x:qd} (hx:xs[n]? = some x) (hk:x.cells.length = k):qi9 k (.lst xs f) (.int j n) = some (.iptr x.cells 0):=by
 have hn:n < xs.length:=(jd.1 hx).1
 simp only [qi9,Int.toNat_natCast,hx]
 rw [if_pos ⟨zo,zo⟩,if_pos hk]
def qGg (off:Nat) (k:Option Nat):qd->Option qd
 | .agg cs=>cut cs off k
 | _=>none
theorem qwF (off:Nat) (k:Option Nat) (cs:List qd):qGg off k (.agg cs) = cut cs off k:=rfl
theorem qy7 (d:Option Nat) (off:Nat) (k:Option Nat) (x:qB):qA base call p d (.fld off k x) s = qhc d s (qGg off k (ev s.t x)):=by
 rw [qa7 _ _ rfl (by simp) (by simp) (by simp)]
 simp only [pureV]
 cases ev s.t x <;> rfl
theorem qxu (d:Option Nat) (z:List qd) (ps:List (Nat×Nat×qB)):qA base call p d (.build z ps) s = qhc d s ((qz z (ps.map λ(o,n,x)=>(o,n,ev s.t x))).map .agg):=qa7 _ _ rfl (by simp) (by simp) (by simp)
theorem qEk (d:Option Nat) (cs:List qd):qA base call p d (.new cs) s = some (.nor,{ s with t:=put d (.ptr s.h.length 0) s.t,h:=s.h ++ [.cells (cs.map qd.dim)]}):=rfl
theorem qEg (d:Option Nat) (k:Option Nat) (a:qB):qA base call p d (.ld k a) s = qhc d s (qel s.h (ev s.t a) k):=by
 simp only [qA]
 cases qel s.h (ev s.t a) k <;> rfl
theorem qs4 (cs:List qd) (o:Nat) (k:Option Nat):qel h (.iptr cs o) k = cut cs o k:=rfl
theorem qnv (cs:List qd) (o:Nat):cut cs o none = (cs[o]?).map qd.dim:=rfl
theorem qeX {cs:List qd} {o k:Nat} (h:o + k <= cs.length):cut cs o (some k) = some (.agg (((cs.drop o).take k).map qd.dim)):=if_pos h
def stV (base:Nat) (k:Option Nat) (a v:qd) (h:List qj):Option (List qj×Bool):=
 match a with
 | .ptr id o=>
  match h[id]? with
  | some (.cells cs)=>
   let vs:=match k with | none=>[v] | some _=>v.dim.cells.map qd.dim
   if vs.length = k.getD 1/\o + vs.length <= cs.length/\vs.all qd.storable then
    some (h.set id (.cells (splice cs o vs)),!(Nat.ble base id || qw (id + 1) vs))
   else none
  | _=>none
 | _=>none
def stW (d:Option Nat) (t:List qd) (e:Bool):Option (List qj×Bool)->Option (Ex×St)
 | some (h,e')=>some (.nor,{ t:=put d .undef t,h,e:=e || e'})
 | none=>none
theorem qya (d:Option Nat) (t:List qd) (e e':Bool) (h:List qj):stW d t e (some (h,e')) = some (.nor,⟨put d .undef t,h,e || e'⟩):=rfl
theorem qIx (d:Option Nat) (k:Option Nat) (a x:qB):qA base call p d (.st k a x) s = stW d (qaK s.t x) s.e (stV base k (ev s.t a) (raw s.t x) s.h):=by
 simp only [qA,stV]
 cases ev s.t a with
 | ptr id o=>
  simp only
  cases s.h[id]? with
  | none=>rfl
  | some b=>
   cases b with
   | cells cs=>cases k <;> (simp only;split <;> rfl)
   | _=>rfl
 | _=>rfl
end
section
variable {base:Nat} {call:Call} {p:qcD} {s:St} {t:List qd} {h:List qj}
def qz3 (d:Option Nat) (s:St):Option (qdm×List qj×Bool)->Option (Ex×St)
 | some (.ret v,h,e)=>some (.nor,{ t:=put d v.dim s.t,h,e:=s.e || e})
 | some (.pan v,h,e)=>some (.pan v,{ s with h,e:=s.e || e})
 | none=>none
theorem qBg (d:Option Nat) (f:qB) (args:List qB):qA base call p d (.call f args) s = qz3 d s (call (ev s.t f) (args.map (ev s.t)) s.h):=by
 simp only [qA]
 cases call (ev s.t f) (args.map (ev s.t)) s.h with
 | none=>rfl
 | some r=>obtain ⟨r,h,e⟩:=r;cases r <;> rfl
theorem qrd (d:Option Nat) (t:List qd) (h h':List qj) (e e':Bool) (v:qd):qz3 d ⟨t,h,e⟩ (some (.ret v,h',e')) = some (.nor,⟨put d v.dim t,h',e || e'⟩):=rfl
theorem qrc (d:Option Nat) (t:List qd) (h h':List qj) (e e':Bool) (v:qd):qz3 d ⟨t,h,e⟩ (some (.pan v,h',e')) = some (.pan v,⟨t,h',e || e'⟩):=rfl
theorem qi4 (h l:List qj):(h ++ l)[h.length]? = l[0]?:=by rw [jc (jm _),Nat.sub_self]
theorem qaM (h l:List qj) (k:Nat):(h ++ l)[h.length + k]? = l[k]?:=by rw [jc zo,Nat.add_sub_cancel_left]
theorem qEG (h l:List qj) (b:qj):(h ++ l).set h.length b = h ++ l.set 0 b:=by rw [List.set_append_right _ _ (jm _),Nat.sub_self]
theorem qol (h l:List qj) (k:Nat) (b:qj):(h ++ l).set (h.length + k) b = h ++ l.set k b:=by rw [List.set_append_right _ _ zo,Nat.add_sub_cancel_left]
theorem qcT {h l:List qj} {i:Nat} (hi:i < h.length):(h ++ l)[i]? = h[i]?:=List.getElem?_append_left hi
theorem qBG {h l:List qj} {i:Nat} {b:qj} (hi:i < h.length):(h ++ l).set i b = h.set i b ++ l:=List.set_append_left _ _ hi
theorem qs9 {n:Nat} {h l:List qj} {v:qd} (hl:h.length = n) (hv:v.lower n = true):leave n (.ret v) (h ++ l) false = (.ret v,h,false):=by subst hl;simp [leave,hv]
theorem qpG {n:Nat} {h:List qj} {v:qd} (hl:h.length = n) (hv:v.lower n = true):leave n (.ret v) h false = (.ret v,h,false):=by subst hl;simp [leave,hv]
theorem qs8 {n:Nat} {h l:List qj} {v:qd} (hl:h.length = n) (hv:v.lower n = true):leave n (.pan v) (h ++ l) false = (.pan v,h,false):=by subst hl;simp [leave,hv]
theorem qpF {n:Nat} {h:List qj} {v:qd} (hl:h.length = n) (hv:v.lower n = true):leave n (.pan v) h false = (.pan v,h,false):=by subst hl;simp [leave,hv]
theorem qbm {n:Nat} {H h:List qj} {v:qd} (hc:H.take n = h) (hv:v.lower n = true):leave n (.ret v) H false = (.ret v,h,false):=by simp [leave,hv,hc]
theorem qa4 {n:Nat} {H h:List qj} {v:qd} (hc:H.take n = h) (hv:v.lower n = true):leave n (.pan v) H false = (.pan v,h,false):=by simp [leave,hv,hc]
theorem qgo (h:List qj) (i:Nat) (a b:qj):(h.set i a).set i b = h.set i b:=List.set_set ..
theorem qcy {h l:List qj} {n:Nat} (hl:h.length = n):(h ++ l)[n]? = l[0]?:=by subst hl;exact qi4 h l
theorem qBF {h l:List qj} {n:Nat} {b:qj} (hl:h.length = n):(h ++ l).set n b = h ++ l.set 0 b:=by subst hl;exact qEG h l b
theorem qsr {h l:List qj} {n k:Nat} (hl:h.length = n):(h ++ l)[n + k]? = l[k]?:=by subst hl;exact qaM h l k
theorem quJ {h l:List qj} {n k:Nat} {b:qj} (hl:h.length = n):(h ++ l).set (n + k) b = h ++ l.set k b:=by subst hl;exact qol h l k b
theorem qcd {h:List qj} {i j:Nat} {b:qj} (E:i ≠ j):(h.set i b)[j]? = h[j]?:=jf E
theorem qeA {h:List qj} {i:Nat} {b:qj} (hi:i < h.length):(h.set i b)[i]? = some b:=List.getElem?_set_self hi
end
section
variable {base:Nat} {call:Call} {p:qcD} {s:St}
def qI5 (d:Option Nat) (s:St) (k:Nat) (vs:List qd):Option (Ex×St):=
 if vs.length = k/\vs.all qd.storable then some (.nor,{ s with t:=put d (.ptr s.h.length 0) s.t,h:=s.h ++ [.cells vs]}) else none
theorem qEc (d:Option Nat) (k:Nat) (x:qB):qA base call p d (.box k x) s = qI5 d s k ((ev s.t x).cells.map qd.dim):=rfl
theorem qzT (d:Option Nat) (t:List qd) (h:List qj) (e:Bool) (k:Nat) (vs:List qd):qI5 d ⟨t,h,e⟩ k vs = if vs.length = k/\vs.all qd.storable then some (.nor,⟨put d (.ptr h.length 0) t,h ++ [.cells vs],e⟩) else none:=rfl
def qFA (ty:TypeId) (v:qd):Option qd:=
 match v with
 | .undef=>none
 | v=>some (.iface ty v)
theorem qzb (d:Option Nat) (ty:TypeId) (x:qB):qA base call p d (.mkI ty x) s = qhc d s (qFA ty (ev s.t x)):=by
 rw [qa7 _ _ rfl (by simp) (by simp) (by simp)]
 simp only [pureV]
 cases ev s.t x <;> rfl
theorem qxj (ty:TypeId) (cs:List qd):qFA ty (.agg cs) = some (.iface ty (.agg cs)):=rfl
theorem qxk (ty:TypeId) (k:IntKind) (n:Int):qFA ty (.int k n) = some (.iface ty (.int k n)):=rfl
theorem qEh (d:Option Nat) (f:FuncId) (a b:List qB):qA base call p d (.mkF f a b) s = some (.nor,{ s with t:=put d (.fn f (a.map (ev s.t)) (b.map (ev s.t))) s.t}):=rfl
def qg6 (s i:qd):Option qd:=
 match s,i with
 | .str l,.int _ n=>if 0 <= n then (l[n.toNat]?).map λb=>.int .u8 b.toNat else none
 | _,_=>none
theorem qy9 (d:Option Nat) (x i:qB):qA base call p d (.ixS x i) s = qhc d s (qg6 (ev s.t x) (ev s.t i)):=by
 rw [qa7 _ _ rfl (by simp) (by simp) (by simp)]
 simp only [pureV]
 cases ev s.t x <;> cases ev s.t i <;> rfl
theorem qaX {l:List UInt8} {k:IntKind} {n:Nat} {b:UInt8} (h:l[n]? = some b):qg6 (.str l) (.int k n) = some (.int .u8 b.toNat):=by
 simp only [qg6,Int.toNat_natCast,h,jJ]
 rw [if_pos (Int.natCast_nonneg n)]
def qGe (i:Nat) (v:qd):Option qd:=
 match v with
 | .tup vs=>(vs[i]?).map qd.dim
 | _=>none
theorem qy6 (d:Option Nat) (x:qB) (i:Nat):qA base call p d (.ext x i) s = qhc d s (qGe i (ev s.t x)):=by
 rw [qa7 _ _ rfl (by simp) (by simp) (by simp)]
 simp only [pureV]
 cases ev s.t x <;> rfl
theorem qwD (i:Nat) (vs:List qd):qGe i (.tup vs) = (vs[i]?).map qd.dim:=rfl
def qGb (neg:Bool) (x y:qd):Option qd:=
 match x,y with
 | .bool a,.bool b=>some (.bool ((a == b) != neg))
 | _,_=>none
theorem qEe (d:Option Nat) (neg:Bool) (x y:qB):qA base call p d (.eqb neg x y) s = qhc d s (qGb neg (ev s.t x) (ev s.t y)):=by
 rw [qa7 _ _ rfl (by simp) (by simp) (by simp)]
 simp only [pureV]
 cases ev s.t x <;> cases ev s.t y <;> rfl
theorem qr8 (neg a b:Bool):qGb neg (.bool a) (.bool b) = some (.bool ((a == b) != neg)):=rfl
def qFx (k:Nat) (neg:Bool) (x y:qd):Option qd:=(qCi k x y).map λb=>.bool (b != neg)
theorem qy5 (d:Option Nat) (k:Nat) (neg:Bool) (x y:qB):qA base call p d (.eqi k neg x y) s = qhc d s (qFx k neg (ev s.t x) (ev s.t y)):=qa7 _ _ rfl (by simp) (by simp) (by simp)
def qF8 (k:IntKind) (v:qd):Option qd:=
 match v with
 | .int _ n=>some (.int k (k.wrap n))
 | _=>none
theorem qEd (d:Option Nat) (k:IntKind) (x:qB):qA base call p d (.cvi k x) s = qhc d s (qF8 k (ev s.t x)):=by
 rw [qa7 _ _ rfl (by simp) (by simp) (by simp)]
 simp only [pureV]
 cases ev s.t x <;> rfl
theorem qv1 (k j:IntKind) (n:Int):qF8 k (.int j n) = some (.int k (k.wrap n)):=rfl
def qJV:qd->Option qd
 | .lst xs _=>(qjM xs).map .str
 | _=>none
theorem qv2 (n:Int) (f:qgV):qJV (.lst [.int .u8 n] f) = some (.str [UInt8.ofNat n.toNat]):=rfl
def mmV (isMax:Bool) (x y:qd):Option qd:=
 match x,y with
 | .int k a,.int _ b=>some (.int k (if isMax then (if b > a then b else a) else (if b < a then b else a)))
 | _,_=>none
theorem qEi (d:Option Nat) (m:Bool) (x y:qB):qA base call p d (.mm m x y) s = qhc d s (mmV m (ev s.t x) (ev s.t y)):=by
 rw [qa7 _ _ rfl (by simp) (by simp) (by simp)]
 simp only [pureV]
 cases ev s.t x <;> cases ev s.t y <;> rfl
theorem qD5 (k j:IntKind) (a b:Nat):mmV true (.int k (a:Int)) (.int j (b:Int)) = some (.int k ((max a b:Nat):Int)):=by
 simp only [mmV,if_true]
 congr 2
 split <;> omega
theorem qA1 (k j:IntKind) (a b:Int):mmV false (.int k a) (.int j b) = some (.int k (if b < a then b else a)):=rfl
def qJG (s:St) (v:qd):Option (Ex×St):=
 match v with
 | .iface u v=>some (.pan (.iface u v),s)
 | _=>none
theorem qEl (d:Option Nat) (x:qB):qA base call p d (.pan x) s = qJG s (ev s.t x):=by
 simp only [qA]
 cases ev s.t x <;> rfl
theorem qp4 (s:St) (u:TypeId) (v:qd):qJG s (.iface u v) = some (.pan (.iface u v),s):=rfl
end
section
variable {base:Nat} {call:Call} {p:qcD} {s:St}
def qCh (len:Nat) (k:Option Nat) (a i:qd):Option qd:=
 match a,i with
 | .agg cs,.int _ n=>if 0 <= n/\n < (len:Int) then cut cs (n.toNat * k.getD 1) k else none
 | _,_=>none
theorem qy8 (d:Option Nat) (len:Nat) (k:Option Nat) (a i:qB):qA base call p d (.ixA len k a i) s = qhc d s (qCh len k (ev s.t a) (ev s.t i)):=by
 rw [qa7 _ _ rfl (by simp) (by simp) (by simp)]
 simp only [pureV]
 cases ev s.t a <;> cases ev s.t i <;> rfl
theorem qnL {len n:Nat} {j:IntKind} {cs:List qd} {v:qd} (hn:n < len) (hv:cs[n]? = some v):qCh len none (.agg cs) (.int j n) = some v.dim:=by
 simp only [qCh]
 rw [if_pos ⟨zo,zo⟩]
 simp only [Int.toNat_natCast,Option.getD_none,Nat.mul_one,qnv,hv,jJ]
end
section
variable {base:Nat} {call:Call} {p q:qcD} {s:St} {t:List qd} {h:List qj}
def AOp.isApp:AOp->Bool
 | .app ..=>true
 | _=>false
def qg:List qam->Bool
 | []=>true
 | o :: os=>!o.op.isApp && qg os
def qH (s:St):AOp->Option qd
 | .mov x=>some (ev s.t x)
 | .pick c a b=>qiR (ev s.t c) (ev s.t a) (ev s.t b)
 | .ld k a=>qel s.h (ev s.t a) k
 | .bin op x y=>qeV op (ev s.t x) (ev s.t y)
 | .un op x=>unV op (ev s.t x)
 | .fa off a=>faV off (ev s.t a)
 | .nilc x=>qxr (ev s.t x)
 | .len b x=>qqG b (ev s.t x)
 | .ixaL k x i=>qi9 k (ev s.t x) (ev s.t i)
 | .fld off k x=>qGg off k (ev s.t x)
 | .ixS x i=>qg6 (ev s.t x) (ev s.t i)
 | .ixA l k a i=>qCh l k (ev s.t a) (ev s.t i)
 | .ext x i=>qGe i (ev s.t x)
 | .eqb n x y=>qGb n (ev s.t x) (ev s.t y)
 | .eqi k n x y=>qFx k n (ev s.t x) (ev s.t y)
 | .cvi k x=>qF8 k (ev s.t x)
 | .mm m x y=>mmV m (ev s.t x) (ev s.t y)
 | .mkI t x=>qFA t (ev s.t x)
 | .lk sh z ok m key=>qnW s.h sh z ok (ev s.t m) (ev s.t key)
 | o=>pureV s.t o
def AOp.plain:AOp->Bool
 | .asg .. | .new .. | .box .. | .st .. | .call .. | .app .. | .pan .. | .hx ..=>false
 | _=>true
theorem qm6 {d:Option Nat} {o:AOp} (ho:o.plain = true):qA base call p d o s = qhc d s (qH s o):=by
 cases o <;> simp only [AOp.plain,jl] at ho
 case mov=>rfl
 case pick=>exact qtW _ _ _ _
 case ld=>exact qEg _ _ _
 case bin=>exact qy4 _ _ _ _
 case un=>exact qEm _ _ _
 case fa=>exact qEf _ _ _
 case nilc=>exact qtV _ _
 case len=>exact qza _ _ _
 case ixaL=>exact qtU _ _ _ _
 case fld=>exact qy7 _ _ _ _
 case ixS=>exact qy9 _ _ _
 case ixA=>exact qy8 _ _ _ _ _
 case ext=>exact qy6 _ _ _
 case eqb=>exact qEe _ _ _ _
 case eqi=>exact qy5 _ _ _ _ _
 case cvi=>exact qEd _ _ _
 case mm=>exact qEi _ _ _ _
 case mkI=>exact qzb _ _ _
 case lk sh z ok m key=>simp only [qA,qH];generalize qnW s.h sh z ok (ev s.t m) (ev s.t key) = r;cases r <;> rfl
 all_goals (simp only [qA,qH];generalize pureV s.t _ = r;cases r <;> rfl)
theorem qju {d:Option Nat} {o:AOp} (ho:o.isApp = false):qA base call p d o s = qA base call q d o s:=by
 cases o <;> first | rfl | (simp [AOp.isApp] at ho)
def gv (q:Bool) (v:qd):qd:=bif q then v else .tup []
def qa9 (q:Bool) (d:Option Nat) (s:St) (r:Option qd) (k:St->Option (Ex×St)):Option (Ex×St):=
 bif q then (match r with | some v=>k { s with t:=put d v s.t} | none=>none) else k { s with t:=put d (.tup []) s.t}
def qCf (c:Bool) (r:Option qd):Option qd:=bif c then r else some (.tup [])
def qi5 (g:qd) (b:Bool) (d:Option Nat) (s:St) (r:Option qd) (k:St->Option (Ex×St)):Option (Ex×St):=
 match g with
 | .bool c=>qa9 (c == b) d s r k
 | .tup []=>qa9 false d s r k
 | _=>none
def qhY (g:qd) (b:Bool) (d:Option Nat) (s:St) (r:Option (Ex×St)) (k:St->Option (Ex×St)):Option (Ex×St):=
 match g with
 | .bool c=>bif c == b then qb8 k r else k { s with t:=put d (.tup []) s.t}
 | .tup []=>k { s with t:=put d (.tup []) s.t}
 | _=>none
def qlG (base:Nat) (call:Call):List qam->St->Option (Ex×St)
 | [],s=>some (.nor,s)
 | o :: os,s=>
  match o.guard with
  | none=>qb8 (qlG base call os) (qA base call [] o.dst o.op s)
  | some (j,b)=>
   match o.op.plain with
   | true=>qi5 (lkp s.t j) b o.dst s (qH s o.op) (qlG base call os)
   | false=>qhY (lkp s.t j) b o.dst s (qA base call [] o.dst o.op s) (qlG base call os)
theorem qog:∀(os:List qam) (p:qcD) (s:St),qg os = true->qaO base call p os s = qlG base call os s
 | [],p,s,_=>rfl
 | o :: os,p,s,hn=>by
  simp only [qg,jk,Bool.not_eq_true'] at hn
  obtain ⟨d,op,g⟩:=o
  have ih:=λp s=>qog os p s hn.2
  cases g with
  | none=>
   simp only [qn5,qlG]
   rw [qju (q:=[]) hn.1]
   congr 1
   funext s
   exact ih _ s
  | some jb=>
   obtain ⟨j,b⟩:=jb
   simp only [qtX,qlG]
   have e1:(qaO base call (qaN p ⟨d,op,some (j,b)⟩) os) = qlG base call os:=funext λs=>ih _ s
   rw [e1,ih,qju (q:=[]) hn.1]
   cases E:op.plain with
   | true=>
    simp only
    rw [qm6 E]
    generalize qH s op = r
    generalize lkp s.t j = g
    cases g with
    | bool c=>
     simp only [qnG,qi5,qa9]
     cases c == b with
     | true=>cases r <;> rfl
     | false=>rfl
    | tup vs=>cases vs <;> rfl
    | _=>rfl
   | false=>
    simp only
    generalize lkp s.t j = g
    cases g with
    | bool c=>
     simp only [qnG,qhY]
     cases c == b <;> rfl
    | tup vs=>cases vs <;> rfl
    | _=>rfl
theorem qIF {ops:List qam} (hn:qg ops = true):qv base call (.reg ops) s = qlG base call ops s:=by
 rw [qhS,qog ops [] s hn]
theorem qBv {ops:List qam} (E:qg ops = false):qv base call (.reg ops) s = qaO base call [] ops s:=qhS ops s
theorem qIC:qlG base call [] s = some (.nor,s):=rfl
theorem qEv (d:Option Nat) (o:AOp) (os:List qam):qlG base call (⟨d,o,none⟩ :: os) s = qb8 (qlG base call os) (qA base call [] d o s):=rfl
theorem qBs (d:Option Nat) (o:AOp) (j:Nat) (b:Bool) (os:List qam) (ho:o.plain = true):qlG base call (⟨d,o,some (j,b)⟩ :: os) s = qi5 (lkp s.t j) b d s (qH s o) (qlG base call os):=by
 simp only [qlG,ho]
theorem qBr (d:Option Nat) (o:AOp) (j:Nat) (b:Bool) (os:List qam) (ho:o.plain = false):qlG base call (⟨d,o,some (j,b)⟩ :: os) s = qhY (lkp s.t j) b d s (qA base call [] d o s) (qlG base call os):=by
 simp only [qlG,ho]
theorem qsD (q c b:Bool) (d:Option Nat) (s:St) (r:Option qd) (k:St->Option (Ex×St)):qi5 (gv q (.bool c)) b d s r k = qa9 q d s (qCf (c == b) r) k:=by
 cases q <;> cases c <;> cases b <;> rfl
theorem qmG (q:Bool) (d:Nat) (t:List qd) (h:List qj) (e:Bool) (v:qd) (k:St->Option (Ex×St)):qa9 q (some d) ⟨t,h,e⟩ (some v) k = k ⟨up t d (gv q v),h,e⟩:=by
 cases q <;> rfl
theorem qsp (c:Bool) (v:qd):qCf c (some v) = some (gv c v):=by cases c <;> rfl
theorem qpq (b:Bool) (d:Option Nat) (s:St) (r:Option (Ex×St)) (k:St->Option (Ex×St)):qhY (.bool b) b d s r k = qb8 k r:=by cases b <;> rfl
theorem qGp (q:Bool) (v:qd):gv q (gv q v) = gv q v:=by cases q <;> rfl
theorem qCT (q:Bool) (v:qd):(gv q v).dim = gv q v.dim:=by cases q <;> rfl
theorem qxB (c x:Bool):qiR (.bool c) (gv c (.bool x)) (.bool false) = some (.bool (c && x)):=by cases c <;> rfl
theorem qBl (c x:Bool):qiR (.bool c) (.bool true) (gv (!c) (.bool x)) = some (.bool (c || x)):=by cases c <;> rfl
theorem qAP (b:Bool):(b == true) = b:=by cases b <;> rfl
theorem qwY (b:Bool):(b == false) = !b:=by cases b <;> rfl
end
section
variable {s:St} {d:Option Nat} {k:St->Option (Ex×St)}
theorem qGr (q:Bool) (v:qd) (h':List qj) (kk:Option Nat):qa9 q d s (qel h' (gv q v) kk) k = qa9 q d s (qel h' v kk) k:=by cases q <;> rfl
theorem qDm (q:Bool) (v:qd) (b:Bool):qa9 q d s (qqG b (gv q v)) k = qa9 q d s (qqG b v) k:=by cases q <;> rfl
theorem qFV (c:Bool) (v:qd) (op:UnOp):qCf c (unV op (gv c v)) = qCf c (unV op v):=by cases c <;> rfl
theorem qAO (q c:Bool) (v:qd) (op:UnOp):qa9 q d s (qCf c (unV op (gv q v))) k = qa9 q d s (qCf c (unV op v)) k:=by cases q <;> rfl
theorem qDl (q:Bool) (v:qd) (w:qd):qa9 q d s (qg6 (gv q v) w) k = qa9 q d s (qg6 v w) k:=by cases q <;> rfl
theorem qAM (q:Bool) (v:qd) (w:qd):qa9 q d s (qg6 w (gv q v)) k = qa9 q d s (qg6 w v) k:=by cases q <;> rfl
theorem qDk (q:Bool) (v:qd) (op:BinOp) (w:qd):qa9 q d s (qeV op (gv q v) w) k = qa9 q d s (qeV op v w) k:=by cases q <;> rfl
theorem qAL (q:Bool) (v:qd) (op:BinOp) (w:qd):qa9 q d s (qeV op w (gv q v)) k = qa9 q d s (qeV op w v) k:=by cases q <;> rfl
theorem qAN (q:Bool) (v:qd) (w z:qd):qa9 q d s (qiR (gv q v) w z) k = qa9 q d s (qiR v w z) k:=by cases q <;> rfl
theorem qwP (q:Bool) (v:qd) (w z:qd):qa9 q d s (qiR w z (gv q v)) k = qa9 q d s (qiR w z v) k:=by cases q <;> rfl
end
section
variable {base:Nat} {call:Call} {s:St}
def qD4 (dsts:List Nat):Option (Ex×St)->Option (Ex×St)
 | some (.pan v,s)=>some (.pan v,{ s with t:=qcL dsts s.t})
 | r=>r
theorem qIu {base:Nat} {call:Call} {p:qcD} {d:Option Nat} {o:AOp} {s s':St} {x:Ex} (ho:o.effs = false) (h:qA base call p d o s = some (x,s')):x = .nor:=by
 cases o <;> simp only [AOp.effs,Bool.true_eq_false] at ho
 case new=>simp only [qA,jj,Prod.mk.injEq] at h;exact h.1.symm
 case box=>
  simp only [qA] at h
  split at h
  ·cases h;rfl
  ·cases h
 case ld=>
  simp only [qA] at h
  cases hl:qel s.h (ev s.t _) _ with
  | none=>rw [hl] at h;cases h
  | some v=>rw [hl] at h;cases h;rfl
 case lk sh z ok m key=>
  simp only [qA] at h
  cases hl:qnW s.h sh z ok (ev s.t m) (ev s.t key) with
  | none=>rw [hl] at h;cases h
  | some v=>rw [hl] at h;cases h;rfl
 all_goals
  simp only [qA] at h
  revert h
  generalize pureV s.t _ = r
  intro h
  cases r <;> cases h
  rfl
theorem qtC (dsts:List Nat) (s:St):qD4 dsts (some (.nor,s)) = some (.nor,s):=rfl
theorem qtD (dsts:List Nat) (v:qd) (t:List qd) (h:List qj) (e:Bool):qD4 dsts (some (.pan v,⟨t,h,e⟩)) = some (.pan v,⟨qcL dsts t,h,e⟩):=rfl
theorem qba {b:qF} (I:Nat->St->Prop) (Q:Ex->St->Prop)
  (step:∀k s,I k s->(∃s' k',qv base call b s = some (.nor,s')/\k' < k/\I k' s')\/∃x s',qv base call b s = some (x,s')/\x ≠ .nor/\Q x s') :
  ∀k s,I k s->∃x s',qv base call (.loop b) s = some (x,s')/\Q x s':=by
 intro k
 induction k using Nat.strongRecOn with
 | ind k ih=>
  intro s hs
  rw [qn]
  rcases step k s hs with ⟨s',k',h1,h2,h3⟩ | ⟨x,s',h1,h2,h3⟩
  ·rw [h1]
   exact ih k' h2 s' h3
  ·rw [h1]
   refine ⟨x,s',?_,h3⟩
   cases x with
   | nor=>exact absurd rfl h2
   | _=>rfl
end
section
variable {s:St} {t:List qd} {h:List qj}
def qbL (v:qd) (i:Nat) (t:List qd):List qd:=
 match v with
 | .lst xs (.own _)=>t.set i (.lst xs .no)
 | _=>t
theorem qrT (t:List qd) (i:Nat):qaK t (.t i) = qbL (lkp t i) i t:=rfl
theorem qrS (t:List qd) (v:qd):qaK t (.c v) = t:=rfl
theorem qoX (b:Bool) (i:Nat) (t:List qd):qbL (.bool b) i t = t:=rfl
theorem qrN (k:IntKind) (n:Int) (i:Nat) (t:List qd):qbL (.int k n) i t = t:=rfl
theorem qrQ (b:List UInt8) (i:Nat) (t:List qd):qbL (.str b) i t = t:=rfl
theorem qkW (i:Nat) (t:List qd):qbL .nilptr i t = t:=rfl
theorem qrP (a o:Nat) (i:Nat) (t:List qd):qbL (.ptr a o) i t = t:=rfl
theorem qoZ (cs:List qd) (o:Nat) (i:Nat) (t:List qd):qbL (.iptr cs o) i t = t:=rfl
theorem qrL (cs:List qd) (i:Nat) (t:List qd):qbL (.agg cs) i t = t:=rfl
theorem qrR (cs:List qd) (i:Nat) (t:List qd):qbL (.tup cs) i t = t:=rfl
theorem qwb (f:FuncId) (a b:List qd) (i:Nat) (t:List qd):qbL (.fn f a b) i t = t:=rfl
theorem qwc (xs:List qd) (i:Nat) (t:List qd):qbL (.lst xs .no) i t = t:=rfl
theorem qoY (xs:List qd) (i:Nat) (t:List qd):qbL (.lst xs .full) i t = t:=rfl
theorem qrO (xs:List qd) (k i:Nat) (t:List qd):qbL (.lst xs (.own k)) i t = up t i (.lst xs .no):=rfl
theorem qms (ty:TypeId) (v:qd) (i:Nat) (t:List qd):qbL (.iface ty v) i t = t:=rfl
theorem qrM (v:qd) (i:Nat) (t:List qd):qbL v.dim i t = t:=by
 cases v with
 | lst xs f=>cases f <;> rfl
 | _=>rfl
def qz8 (v:Option qd) (vs:Option (List qd)):Option (List qd):=
 match v,vs with
 | some v,some vs=>some (v :: vs)
 | _,_=>none
theorem qBw:qat s [] = some []:=rfl
theorem qBx (i:Nat) (rs:List qnf):qat s (.tmp i :: rs) = qz8 (some (lkp s.t i).dim) (qat s rs):=by
 simp only [qat,lkp]
 cases qat s rs <;> rfl
theorem qxV (a:Nat) (k:Option Nat) (rs:List qnf):qat s (.cell a k :: rs) = qz8 (qel s.h (lkp s.t a) k) (qat s rs):=by
 simp only [qat,lkp]
 cases qel s.h (s.t.getD a .undef) k <;> cases qat s rs <;> rfl
theorem qoS (v:qd) (vs:List qd):qz8 (some v) (some vs) = some (v :: vs):=rfl
theorem qp1 (v:qd):qbv [v] = v:=rfl
theorem qp0:qbv [] = .tup []:=rfl
theorem qp2 (a b:qd) (vs:List qd):qbv (a :: b :: vs) = .tup (a :: b :: vs):=rfl
def qyR (h:List qj) (s:St):Option (List qd)->Option (qdm×List qj×Bool)
 | some vs=>some (leave h.length (.ret (qbv vs)) s.h s.e)
 | none=>none
theorem qr6 (h:List qj) (s:St) (vs:List qd):qyR h s (some vs) = some (leave h.length (.ret (qbv vs)) s.h s.e):=rfl
theorem qAs (fn:qt) (h:List qj) (s:St):qmu fn h (some (.nor,s)) = qyR h s (qat s fn.results):=by
 simp only [qmu];cases qat s fn.results <;> rfl
theorem qAt (fn:qt) (h:List qj) (s:St):qmu fn h (some (.ret,s)) = qyR h s (qat s fn.results):=by
 simp only [qmu];cases qat s fn.results <;> rfl
end
section
theorem qt7 (x:qB):(AOp.mov x).plain = true:=Eq.trans rfl rfl
theorem qwl (x:qB):(AOp.mov x).effs = false:=Eq.trans rfl rfl
theorem qsV (x:qB):(AOp.mov x).isApp = false:=Eq.trans rfl rfl
theorem qqa (c a b:qB):(AOp.pick c a b).plain = true:=Eq.trans rfl rfl
theorem qpx (c a b:qB):(AOp.pick c a b).isApp = false:=Eq.trans rfl rfl
theorem qmI (z:List qd) (ps:List (Nat×Nat×qB)):(AOp.build z ps).isApp = false:=Eq.trans rfl rfl
theorem qrZ (k:Nat) (z:List qd) (l:Nat) (ps:List (Nat×qB)):(AOp.list k z l ps).effs = false:=Eq.trans rfl rfl
theorem qpv (k:Nat) (z:List qd) (l:Nat) (ps:List (Nat×qB)):(AOp.list k z l ps).isApp = false:=Eq.trans rfl rfl
theorem qxE (k:Option Nat) (a:qB):(AOp.ld k a).plain = true:=Eq.trans rfl rfl
theorem qAo (k:Option Nat) (a:qB):(AOp.ld k a).effs = false:=Eq.trans rfl rfl
theorem qwS (k:Option Nat) (a:qB):(AOp.ld k a).isApp = false:=Eq.trans rfl rfl
theorem qpw (x:qB):(AOp.nilc x).isApp = false:=Eq.trans rfl rfl
theorem qt2 (op:BinOp) (x y:qB):(AOp.bin op x y).plain = true:=Eq.trans rfl rfl
theorem qsK (op:BinOp) (x y:qB):(AOp.bin op x y).isApp = false:=Eq.trans rfl rfl
theorem qt3 (n:Bool) (x y:qB):(AOp.eqb n x y).plain = true:=Eq.trans rfl rfl
theorem qsM (n:Bool) (x y:qB):(AOp.eqb n x y).isApp = false:=Eq.trans rfl rfl
theorem qsN (k:Nat) (n:Bool) (x y:qB):(AOp.eqi k n x y).isApp = false:=Eq.trans rfl rfl
theorem qxF (op:UnOp) (x:qB):(AOp.un op x).plain = true:=Eq.trans rfl rfl
theorem qwV (op:UnOp) (x:qB):(AOp.un op x).isApp = false:=Eq.trans rfl rfl
theorem qsU (t:TypeId) (x:qB):(AOp.mkI t x).isApp = false:=Eq.trans rfl rfl
theorem qt6 (f:FuncId) (a b:List qB):(AOp.mkF f a b).plain = true:=Eq.trans rfl rfl
theorem qsT (f:FuncId) (a b:List qB):(AOp.mkF f a b).isApp = false:=Eq.trans rfl rfl
theorem qqb (x:qB) (l h:Option qB):(AOp.subS x l h).plain = true:=Eq.trans rfl rfl
theorem qpy (x:qB) (l h:Option qB):(AOp.subS x l h).isApp = false:=Eq.trans rfl rfl
theorem qxC (o:Nat) (a:qB):(AOp.fa o a).plain = true:=Eq.trans rfl rfl
theorem qAm (o:Nat) (a:qB):(AOp.fa o a).effs = false:=Eq.trans rfl rfl
theorem qwR (o:Nat) (a:qB):(AOp.fa o a).isApp = false:=Eq.trans rfl rfl
theorem qpu (k:Nat) (s i:qB):(AOp.ixaL k s i).isApp = false:=Eq.trans rfl rfl
theorem qpt (n k:Nat) (a i:qB):(AOp.ixaA n k a i).isApp = false:=Eq.trans rfl rfl
theorem qt4 (s i:qB):(AOp.ixS s i).plain = true:=Eq.trans rfl rfl
theorem qsR (s i:qB):(AOp.ixS s i).isApp = false:=Eq.trans rfl rfl
theorem qsQ (n:Nat) (k:Option Nat) (a i:qB):(AOp.ixA n k a i).isApp = false:=Eq.trans rfl rfl
theorem qsP (o:Nat) (k:Option Nat) (x:qB):(AOp.fld o k x).isApp = false:=Eq.trans rfl rfl
theorem qsO (x:qB) (i:Nat):(AOp.ext x i).isApp = false:=Eq.trans rfl rfl
theorem qt5 (b:Bool) (x:qB):(AOp.len b x).plain = true:=Eq.trans rfl rfl
theorem qsS (b:Bool) (x:qB):(AOp.len b x).isApp = false:=Eq.trans rfl rfl
theorem qwT (b:Bool) (x y:qB):(AOp.mm b x y).isApp = false:=Eq.trans rfl rfl
theorem qsY (t:TypeId) (z:qd) (x:qB):(AOp.tas t z x).isApp = false:=Eq.trans rfl rfl
theorem qwk (x:qB):(AOp.asg x).effs = true:=Eq.trans rfl rfl
theorem qsJ (x:qB):(AOp.asg x).isApp = false:=Eq.trans rfl rfl
theorem qsW (cs:List qd):(AOp.new cs).isApp = false:=Eq.trans rfl rfl
theorem qsL (k:Nat) (x:qB):(AOp.box k x).isApp = false:=Eq.trans rfl rfl
theorem qAp (k:Option Nat) (a x:qB):(AOp.st k a x).effs = true:=Eq.trans rfl rfl
theorem qwU (k:Option Nat) (a x:qB):(AOp.st k a x).isApp = false:=Eq.trans rfl rfl
theorem qp9 (f:qB) (aS:List qB):(AOp.call f aS).plain = false:=Eq.trans rfl rfl
theorem qrY (f:qB) (aS:List qB):(AOp.call f aS).effs = true:=Eq.trans rfl rfl
theorem qps (f:qB) (aS:List qB):(AOp.call f aS).isApp = false:=Eq.trans rfl rfl
theorem qwj (k:Nat) (x y:qB):(AOp.app k x y).effs = true:=Eq.trans rfl rfl
theorem qsI (k:Nat) (x y:qB):(AOp.app k x y).isApp = true:=Eq.trans rfl rfl
theorem qsX (x:qB):(AOp.pan x).isApp = false:=Eq.trans rfl rfl
theorem qpQ (n:Nat) (b:Bool):(qd.bool b).lower n = true:=Eq.trans rfl rfl
theorem qtr (n:Nat) (k:IntKind) (z:Int):(qd.int k z).lower n = true:=Eq.trans rfl rfl
theorem qtt (n:Nat) (s:List UInt8):(qd.str s).lower n = true:=Eq.trans rfl rfl
theorem qts (n:Nat) (xs:List qd) (f:qgV):(qd.lst xs f).lower n = qw n xs:=Eq.trans rfl rfl
theorem qmQ (n:Nat) (t:TypeId) (v:qd):(qd.iface t v).lower n = v.lower n:=Eq.trans rfl rfl
theorem qtq (n:Nat) (cs:List qd):(qd.agg cs).lower n = qw n cs:=Eq.trans rfl rfl
theorem qtu (n:Nat) (cs:List qd):(qd.tup cs).lower n = qw n cs:=Eq.trans rfl rfl
theorem qpO (n:Nat):qw n [] = true:=Eq.trans rfl rfl
theorem qd0 (n:Nat) (v:qd) (vs:List qd):qw n (v :: vs) = (v.lower n && qw n vs):=Eq.trans rfl rfl
def qfO (rs:List qnf) (h:List qj):Option (Ex×St)->Option (qdm×List qj×Bool)
 | some (.nor,s) | some (.ret,s)=>qyR h s (qat s rs)
 | some (.pan v,s)=>some (leave h.length (.pan v) s.h s.e)
 | _=>none
theorem qAr (fn:qt) (h:List qj) (r:Option (Ex×St)):qmu fn h r = qfO fn.results h r:=by
 cases r with
 | none=>rfl
 | some r=>obtain ⟨x,s⟩:=r;cases x <;> first | rfl | exact qAs _ _ _ | exact qAt _ _ _
theorem qjP (rs:List qnf) (h:List qj) (s:St):qfO rs h (some (.nor,s)) = qyR h s (qat s rs):=rfl
theorem qjQ (rs:List qnf) (h:List qj) (s:St):qfO rs h (some (.ret,s)) = qyR h s (qat s rs):=rfl
theorem qwt (rs:List qnf) (h:List qj) (s:St) (v:qd):qfO rs h (some (.pan v,s)) = some (leave h.length (.pan v) s.h s.e):=rfl
theorem qJQ {F:FuncId->Option qt} {X:qlW} (hX:qoy X) {f:FuncId} {first args cap:List qd} {h:List qj} {fn:qt} (h1:X f = none) (h2:F f = some fn) :
  W F X (.fn f first cap) args h = qfO fn.results h (qv h.length (W F X) fn.code ⟨(first ++ args ++ cap).map qd.dim ++ List.replicate (fn.ntmps - ((first ++ args ++ cap).map qd.dim).length) (.tup []),h,false⟩):=by
 rw [qJP hX h1 h2,qAr]
end
section
variable {h:List qj}
theorem qre (cs:List qd):(qd.agg cs).cells = cs:=rfl
theorem qrf (k:IntKind) (n:Int):(qd.int k n).cells = [.int k n]:=rfl
theorem qri (s:List UInt8):(qd.str s).cells = [.str s]:=rfl
theorem qoR (b:Bool):(qd.bool b).cells = [.bool b]:=rfl
theorem qrg (xs:List qd) (f:qgV):(qd.lst xs f).cells = [.lst xs f]:=rfl
theorem qrh (i o:Nat):(qd.ptr i o).cells = [.ptr i o]:=rfl
theorem qkO:qd.nilptr.cells = [.nilptr]:=rfl
theorem qvV (f:FuncId) (a b:List qd):(qd.fn f a b).cells = [.fn f a b]:=rfl
theorem qiK:qd.niliface.cells = [.niliface]:=rfl
theorem qme (t:TypeId) (v:qd):(qd.iface t v).cells = [.iface t v]:=rfl
theorem qrj (i:Nat):(qd.yld i).cells = [.yld i]:=rfl
theorem qyc (k:IntKind) (n:Int):(qd.int k n).storable = true:=Eq.trans rfl rfl
theorem qyf (s:List UInt8):(qd.str s).storable = true:=Eq.trans rfl rfl
theorem quS (b:Bool):(qd.bool b).storable = true:=Eq.trans rfl rfl
theorem qyd (xs:List qd) (f:qgV):(qd.lst xs f).storable = true:=Eq.trans rfl rfl
theorem qye (i o:Nat):(qd.ptr i o).storable = true:=Eq.trans rfl rfl
theorem qBM (f:FuncId) (a b:List qd):(qd.fn f a b).storable = true:=Eq.trans rfl rfl
theorem qv0 (c:qd) (cs:List qd) (o k:Nat):cut (c :: cs) o (some k) = if o + k <= (c :: cs).length then some (.agg ((((c :: cs).drop o).take k).map qd.dim)) else none:=rfl
def ldB (k:Option Nat) (o:Nat):Option qj->Option qd
 | some (.cells cs)=>cut cs o k
 | _=>none
theorem qw3 (i o:Nat) (k:Option Nat):qel h (.ptr i o) k = ldB k o h[i]?:=by
 simp only [qel,ldB]
 cases h[i]? with
 | none=>rfl
 | some b=>cases b <;> rfl
theorem qs5 (k:Option Nat) (o:Nat) (cs:List qd):ldB k o (some (.cells cs)) = cut cs o k:=rfl
def qIB (k:Option Nat) (v:qd):List qd:=
 match k with
 | none=>[v]
 | some _=>v.dim.cells.map qd.dim
theorem quk (v:qd):qIB none v = [v]:=rfl
theorem qul (k:Nat) (v:qd):qIB (some k) v = v.dim.cells.map qd.dim:=rfl
def stB (base:Nat) (k:Option Nat) (id o:Nat) (vs:List qd) (h:List qj):Option qj->Option (List qj×Bool)
 | some (.cells cs)=>if vs.length = k.getD 1/\o + vs.length <= cs.length/\vs.all qd.storable then some (h.set id (.cells (splice cs o vs)),!(Nat.ble base id || qw (id + 1) vs)) else none
 | _=>none
theorem qBJ (base:Nat) (k:Option Nat) (id o:Nat) (v:qd):stV base k (.ptr id o) v h = stB base k id o (qIB k v) h h[id]?:=by
 simp only [stV,stB]
 cases h[id]? with
 | none=>rfl
 | some b=>cases b <;> cases k <;> rfl
theorem quQ (base:Nat) (k:Option Nat) (id o:Nat) (vs cs:List qd):stB base k id o vs h (some (.cells cs)) = if vs.length = k.getD 1/\o + vs.length <= cs.length/\vs.all qd.storable then some (h.set id (.cells (splice cs o vs)),!(Nat.ble base id || qw (id + 1) vs)) else none:=rfl
theorem qLK (h:List qj) (k:Nat):Nat.ble h.length (h.length + k) = true:=Nat.ble_eq_true_of_le (Nat.le_add_right _ _)
theorem qx {a b:Nat} (h:a <= b):Nat.ble a b = true:=Nat.ble_eq_true_of_le h
end
theorem qgA {e r:Option (Ex×St)} (hr:e = r) {Q:Ex->St->Prop} (h:∃x s',e = some (x,s')/\Q x s'):∃x s',r = some (x,s')/\Q x s':=hr▸h
mutual
theorem beq_refl:∀v:qd,v.beq v = true
 | .undef | .nilptr | .nilfunc | .niliface | .nilmap | .nils | .empt=>rfl
 | .sl ..=>by simp [qd.beq]
 | .mp i=>by simp [qd.beq]
 | .bool b=>by simp [qd.beq]
 | .int k n=>by simp [qd.beq]
 | .str s=>by simp [qd.beq]
 | .ptr i o=>by simp [qd.beq]
 | .iptr cs o=>by simp [qd.beq,qcq cs]
 | .lst xs f=>by simp [qd.beq,qcq xs]
 | .fn f a b=>by simp [qd.beq,qcq a,qcq b]
 | .yld i=>by simp [qd.beq]
 | .iface t v=>by simp [qd.beq,beq_refl v]
 | .agg cs=>by simp [qd.beq,qcq cs]
 | .tup cs=>by simp [qd.beq,qcq cs]
theorem qcq:∀vs:List qd,qlX vs vs = true
 | []=>rfl
 | v :: vs=>by simp [qlX,beq_refl v,qcq vs]
end
section
variable {base:Nat} {call:Call} {dsts:List Nat} {s:St} {pend:List (Nat×Chk)} {h:List qj}
def qfX (h:List qj):List (Nat×Chk)->Bool
 | []=>true
 | c :: cs=>c.2.ok h && qfX h cs
theorem qvY:qfX h [] = true:=Eq.trans rfl rfl
theorem qro (i:Nat) (c:Chk) (cs:List (Nat×Chk)):qfX h ((i,c) :: cs) = (c.ok h && qfX h cs):=rfl
theorem qvX (l:List (Nat×Chk)):l.all (λc=>c.2.ok h) = qfX h l:=by
 induction l with
 | nil=>rfl
 | cons c l ih=>simp only [List.all_cons,qfX,ih]
def qI4 (v:qd):Option qd->Bool
 | some w=>v.beq w
 | none=>false
theorem qq4 (v:qd):qI4 v (some v) = true:=beq_refl v
theorem qCO (a:qd) (k:Option Nat) (v:qd):Chk.ok h (.ld a k v) = qI4 v (qel h a k):=by
 simp only [Chk.ok];cases qel h a k <;> rfl
def qI3 (cs:List qd):Option qj->Bool
 | some (.cells ds)=>qlX cs ds
 | _=>false
theorem qq2 (cs:List qd):qI3 cs (some (.cells cs)) = true:=qcq cs
theorem qz5 (id:Nat) (cs:List qd):Chk.ok h (.box id cs) = qI3 cs h[id]?:=by
 simp only [Chk.ok]
 cases h[id]? with
 | none=>rfl
 | some b=>cases b <;> rfl
def qft (cl:Nat):List (Nat×Chk)->List (Nat×Chk)
 | []=>[]
 | c :: cs=>bif cl.testBit c.1 then qft cl cs else c :: qft cl cs
theorem qpb (cl:Nat):qft cl [] = []:=rfl
theorem qmB (cl i:Nat) (c:Chk) (cs:List (Nat×Chk)):qft cl ((i,c) :: cs) = bif cl.testBit i then qft cl cs else (i,c) :: qft cl cs:=rfl
theorem qsi (cl:Nat) (l:List (Nat×Chk)):l.filter (λc=>!cl.testBit c.1) = qft cl l:=by
 induction l with
 | nil=>rfl
 | cons c l ih=>
  simp only [List.filter_cons,qft,ih]
  cases cl.testBit c.1 <;> rfl
def qwd (dsts:List Nat) (pend:List (Nat×Chk)) (k:List (Nat×Chk)->St->Option (Ex×St)):Option (Ex×St)->Option (Ex×St)
 | some (.nor,s)=>bif qfX s.h pend then k pend s else none
 | some (.pan v,s)=>some (.pan v,{ s with t:=qcL dsts s.t})
 | _=>none
theorem qrU (k:List (Nat×Chk)->St->Option (Ex×St)) (s:St):qwd dsts pend k (some (.nor,s)) = bif qfX s.h pend then k pend s else none:=rfl
theorem qrV (k:List (Nat×Chk)->St->Option (Ex×St)) (t:List qd) (e:Bool) (v:qd):qwd dsts pend k (some (.pan v,⟨t,h,e⟩)) = some (.pan v,⟨qcL dsts t,h,e⟩):=rfl
theorem qwh:qW base call dsts [] pend s = some (.nor,s):=rfl
theorem qwf {d:Option Nat} {o:AOp} {ix cl:Nat} {ds:List qR} (ho:o.effs = true):qW base call dsts (⟨⟨d,o,none⟩,ix,cl⟩ :: ds) pend s = qwd dsts (qft cl pend) (qW base call dsts ds) (qA base call [] d o s):=by
 simp only [qW,wanted,ho,if_true,qvX,qsi]
 cases hr:qA base call [] d o s with
 | none=>rfl
 | some r=>
  obtain ⟨x,s'⟩:=r
  cases x with
  | nor=>simp only [qwd];cases qfX s'.h (qft cl pend) <;> rfl
  | pan v=>rfl
  | exit i=>rfl
  | ret=>rfl
def AOp.light:AOp->Bool
 | .asg .. | .new .. | .box .. | .st .. | .call .. | .app .. | .pan .. | .ld .. | .hx .. | .lk ..=>false
 | _=>true
theorem qo0 {d:Option Nat} {o:AOp} {ix cl:Nat} {ds:List qR} (ho:o.light = true):qW base call dsts (⟨⟨d,o,none⟩,ix,cl⟩ :: ds) pend s = qb8 (qW base call dsts ds pend) (qA base call [] d o s):=by
 have he:o.effs = false:=by cases o <;> simp_all [AOp.light,AOp.effs]
 have hc:qfW s o = none:=by cases o <;> simp_all [AOp.light,qfW]
 simp only [qW,wanted,he,jl,if_false,hc]
 cases hr:qA base call [] d o s with
 | none=>rfl
 | some r=>
  obtain ⟨x,s'⟩:=r
  have:=qIu he hr
  subst this
  rfl
def ldD (d:Option Nat) (s:St) (a:qd) (k:Option Nat) (ix:Nat) (pend:List (Nat×Chk)) (f:List (Nat×Chk)->St->Option (Ex×St)):Option qd->Option (Ex×St)
 | some v=>f ((ix,.ld a k v) :: pend) { s with t:=put d v s.t}
 | none=>none
theorem qw4 (d:Option Nat) (t:List qd) (e:Bool) (a:qd) (k:Option Nat) (ix:Nat) (f:List (Nat×Chk)->St->Option (Ex×St)) (v:qd):ldD d ⟨t,h,e⟩ a k ix pend f (some v) = f ((ix,.ld a k v) :: pend) ⟨put d v t,h,e⟩:=rfl
theorem qAk {d:Option Nat} {k:Option Nat} {a:qB} {ix cl:Nat} {ds:List qR}:qW base call dsts (⟨⟨d,.ld k a,none⟩,ix,cl⟩ :: ds) pend s = ldD d s (ev s.t a) k ix pend (qW base call dsts ds) (qel s.h (ev s.t a) k):=by
 simp only [qW,wanted,AOp.effs,jl,if_false,qfW,qA]
 cases qel s.h (ev s.t a) k <;> rfl
theorem qwg {d:Option Nat} {cs:List qd} {ix cl:Nat} {ds:List qR}:qW base call dsts (⟨⟨d,.new cs,none⟩,ix,cl⟩ :: ds) pend s = qW base call dsts ds ((ix,.box s.h.length (cs.map qd.dim)) :: pend) { s with t:=put d (.ptr s.h.length 0) s.t,h:=s.h ++ [.cells (cs.map qd.dim)]}:=by
 simp only [qW,wanted,AOp.effs,jl,if_false,qfW,qA]
end
theorem qte (x:qB):(AOp.mov x).light = true:=Eq.trans rfl rfl
theorem qmO (z:List qd) (ps:List (Nat×Nat×qB)):(AOp.build z ps).light = true:=Eq.trans rfl rfl
theorem qpI (k:Nat) (z:List qd) (l:Nat) (ps:List (Nat×qB)):(AOp.list k z l ps).light = true:=Eq.trans rfl rfl
theorem qpJ (x:qB):(AOp.nilc x).light = true:=Eq.trans rfl rfl
theorem qtb (op:BinOp) (x y:qB):(AOp.bin op x y).light = true:=Eq.trans rfl rfl
theorem qw8 (op:UnOp) (x:qB):(AOp.un op x).light = true:=Eq.trans rfl rfl
theorem qw7 (o:Nat) (a:qB):(AOp.fa o a).light = true:=Eq.trans rfl rfl
theorem qpH (k:Nat) (s i:qB):(AOp.ixaL k s i).light = true:=Eq.trans rfl rfl
theorem qtc (x:qB) (i:Nat):(AOp.ext x i).light = true:=Eq.trans rfl rfl
theorem qtd (b:Bool) (x:qB):(AOp.len b x).light = true:=Eq.trans rfl rfl
section
variable {base:Nat} {call:Call} {p:qcD} {s:St} {t:List qd} {h:List qj}
def qdx (k:Nat) (xs ys:List qd):Bool:=decide (xs.length + ys.length <= qk) && ys.all (λy=>y.cells.length == k && y.cells.all qd.storable) && xs.head?.all (λy=>y.cells.length == k)
def qoB (d:Option Nat) (k:Nat) (ys:List qd):Option (List qd×St)->Option (Ex×St)
 | some (xs,s)=>if xs.head?.all (λy=>y.cells.length == k) then some (.nor,{ s with t:=put d (.lst (xs ++ ys) (.own k)) s.t}) else none
 | none=>none
def qzG (d:Option Nat) (k:Nat) (s:St) (tk:Option (List qd×St)) (x:qd) (ys:Option (List qd)):Option (Ex×St):=
 match x,ys with
 | .lst xs f,some ys=>
  if ys.isEmpty then some (.nor,{ s with t:=put d (qd.lst xs f).dim s.t})
  else if qdx k xs ys = true then
   match f with
   | .full=>some (.nor,{ s with t:=put d (.lst (xs ++ ys) (.own k)) s.t})
   | _=>qoB d k ys tk
  else none
 | _,_=>none
theorem qEa (d:Option Nat) (k:Nat) (x y:qB):qA base call p d (.app k x y) s = qzG d k s (qeQ k p x s) (raw s.t x) (tail (ev s.t y)):=by
 simp only [qA,qzG,qdx,jk,decide_eq_true_eq,and_assoc]
 generalize raw s.t x = v
 generalize tail (ev s.t y) = w
 generalize qeQ k p x s = z
 cases v <;> rfl
theorem qyi (ys:List qd) (f:qgV):tail (.lst ys f) = some ys:=rfl
theorem qyj (b:List UInt8):tail (.str b) = some (qlY b):=rfl
theorem qzH (d:Option Nat) (k:Nat) (t:List qd) (e:Bool) (tk:Option (List qd×St)) (xs:List qd) (f:qgV):qzG d k ⟨t,h,e⟩ tk (.lst xs f) (some []) = some (.nor,⟨put d (qd.lst xs f).dim t,h,e⟩):=rfl
theorem qvI {d:Option Nat} {k:Nat} {t:List qd} {e:Bool} {tk:Option (List qd×St)} {xs ys:List qd} (hy:ys.isEmpty = false) (hc:qdx k xs ys = true):qzG d k ⟨t,h,e⟩ tk (.lst xs .full) (some ys) = some (.nor,⟨put d (.lst (xs ++ ys) (.own k)) t,h,e⟩):=by
 simp only [qzG,hy,hc,jl,if_false,if_true]
theorem qCB {d:Option Nat} {k:Nat} {s:St} {tk:Option (List qd×St)} {xs ys:List qd} (hy:ys.isEmpty = false) (hc:qdx k xs ys = true):qzG d k s tk (.lst xs .no) (some ys) = qoB d k ys tk:=by
 simp only [qzG,hy,hc,jl,if_false,if_true]
theorem qqW {d:Option Nat} {k:Nat} {t:List qd} {e:Bool} {xs ys:List qd} (hc:qdx k xs ys = true):qoB d k ys (some (xs,⟨t,h,e⟩)) = some (.nor,⟨put d (.lst (xs ++ ys) (.own k)) t,h,e⟩):=by
 simp only [qdx,jk] at hc
 simp only [qoB,hc.2,if_true]
def qeP (p:qcD) (i:Nat):Option Src:=(p.find? (·.1 == i)).map (·.2)
def qyl (k b:Nat) (s:St) (v:qd):Option (List qd×St):=
 match v with
 | .lst xs (.own j)=>if j = k then some (xs,{ s with t:=s.t.set b (.lst xs .no)}) else none
 | _=>none
def qBV (k:Nat) (s:St) (id o:Nat) (c:Option qj):Option (List qd×St):=
 match c with
 | some (.cells cs)=>
  match cs[o]? with
  | some (.lst xs (.own j))=>if j = k then some (xs,{ s with h:=s.h.set id (.cells (cs.set o (.lst xs .no)))}) else none
  | _=>none
 | _=>none
def qyk (k:Nat) (s:St) (a:qd):Option (List qd×St):=
 match a with
 | .ptr id o=>qBV k s id o s.h[id]?
 | _=>none
def qqp (k:Nat) (s:St):Option Src->Option (List qd×St)
 | some (.tmp b)=>qyl k b s (lkp s.t b)
 | some (.cell a)=>qyk k s (ev s.t a)
 | none=>none
def qBX (k i:Nat) (s:St) (v:qd) (src:Option Src):Option (List qd×St):=
 match v with
 | .lst xs (.own j)=>if j = k then some (xs,{ s with t:=s.t.set i (.lst xs .no)}) else none
 | _=>qqp k s src
theorem qBY (k:Nat) (i:Nat):qeQ k p (.t i) s = qBX k i s (lkp s.t i) (qeP p i):=by
 simp only [qeQ,qBX,lkp,qeP]
 generalize hv:s.t.getD i .undef = v
 have key:(match p.find? (·.1 == i) with
   | some (_,.tmp b)=>
    match s.t.getD b .undef with
    | .lst xs (.own j)=>if j = k then some (xs,{ s with t:=s.t.set b (.lst xs .no)}) else none
    | _=>none
   | some (_,.cell a)=>
    match ev s.t a with
    | .ptr id o=>
     match s.h[id]? with
     | some (.cells cs)=>
      match cs[o]? with
      | some (.lst xs (.own j))=>if j = k then some (xs,{ s with h:=s.h.set id (.cells (cs.set o (.lst xs .no)))}) else none
      | _=>none
     | _=>none
    | _=>none
   | none=>none) = qqp k s ((p.find? (·.1 == i)).map (·.2)):=by
  cases p.find? (·.1 == i) with
  | none=>rfl
  | some q=>
   obtain ⟨_,src⟩:=q
   cases src with
   | tmp b=>rfl
   | cell a=>
    simp only [jJ,qqp,qyk]
    cases ev s.t a <;> rfl
 cases v with
 | lst xs f=>cases f <;> first | rfl | exact key
 | _=>exact key
theorem qym (k i:Nat) (xs:List qd) (src:Option Src):qBX k i s (.lst xs .no) src = qqp k s src:=rfl
theorem quY (k b:Nat):qqp k s (some (.tmp b)) = qyl k b s (lkp s.t b):=rfl
theorem qqq (k:Nat) (a:qB):qqp k s (some (.cell a)) = qyk k s (ev s.t a):=rfl
theorem quZ (k b:Nat) (t:List qd) (e:Bool) (xs:List qd):qyl k b ⟨t,h,e⟩ (.lst xs (.own k)) = some (xs,⟨up t b (.lst xs .no),h,e⟩):=by simp [qyl,up]
theorem quX (k id o:Nat):qyk k s (.ptr id o) = qBV k s id o s.h[id]?:=rfl
def qBW (k:Nat) (s:St) (id o:Nat) (cs:List qd) (v:Option qd):Option (List qd×St):=
 match v with
 | some (.lst xs (.own j))=>if j = k then some (xs,{ s with h:=s.h.set id (.cells (cs.set o (.lst xs .no)))}) else none
 | _=>none
theorem qnc (k id o:Nat) (cs:List qd):qBV k s id o (some (.cells cs)) = qBW k s id o cs cs[o]?:=rfl
theorem quW (k id o:Nat) (t:List qd) (e:Bool) (cs xs:List qd):qBW k ⟨t,h,e⟩ id o cs (some (.lst xs (.own k))) = some (xs,⟨t,h.set id (.cells (cs.set o (.lst xs .no))),e⟩):=by simp [qBW]
theorem qBI (i:Nat):qeP [] i = none:=rfl
def qd4 (p:qcD) (d:Option Nat) (o:AOp):qcD:=
 match d with
 | none=>p
 | some d=>
  let q:=p.filter λx=>x.1 != d && !x.2.hangs d
  match qbW o with
  | some s=>if s.hangs d then q else (d,s) :: q
  | none=>q
def qd5 (p:qcD) (d:Option Nat):qcD:=
 match d with
 | none=>p.filter λx=>x.2.isTmp
 | some d=>p.filter λx=>x.2.isTmp && (x.1 != d && !x.2.hangs d)
theorem qxO {d:Option Nat} {o:AOp} {g:Option (Nat×Bool)} (ho:o.effs = true):qaN p ⟨d,o,g⟩ = qd5 p d:=by simp only [qaN,ho,if_true,qd5];cases d <;> rfl
theorem qBp {d:Option Nat} {o:AOp} {g:Option (Nat×Bool)} (ho:o.effs = false):qaN p ⟨d,o,g⟩ = qd4 p d o:=by simp only [qaN,ho,jl,if_false,qd4];cases d <;> rfl
end
theorem qzL (k:IntKind) (a b:Int):qeV .add (.int k a) (.int k b) = some (.int k (k.wrap (a + b))):=by simp [qeV,qed]
theorem qzS (k:IntKind) (a b:Int):qeV .sub (.int k a) (.int k b) = some (.int k (k.wrap (a - b))):=by simp [qeV,qed]
theorem qzM (k:IntKind) (a b:Int):qeV .eql (.int k a) (.int k b) = some (.bool (a == b)):=by simp [qeV,qed]
theorem qzR (k:IntKind) (a b:Int):qeV .neq (.int k a) (.int k b) = some (.bool (!(a == b))):=by simp [qeV,qed,bne]
theorem qzQ (k:IntKind) (a b:Int):qeV .lss (.int k a) (.int k b) = some (.bool (ilt a b)):=by simp [qeV,qed]
theorem qzP (k:IntKind) (a b:Int):qeV .leq (.int k a) (.int k b) = some (.bool (ile a b)):=by simp [qeV,qed]
theorem qzO (k:IntKind) (a b:Int):qeV .gtr (.int k a) (.int k b) = some (.bool (ilt b a)):=by simp [qeV,qed]
theorem qzN (k:IntKind) (a b:Int):qeV .geq (.int k a) (.int k b) = some (.bool (ile b a)):=by simp [qeV,qed]
theorem qBO (a b:List UInt8):qeV .add (.str a) (.str b) = if a.length + b.length <= qk then some (.str (a ++ b)) else none:=rfl
theorem qBP (a b:List UInt8):qeV .eql (.str a) (.str b) = some (.bool (a == b)):=rfl
theorem qBS (a b:List UInt8):qeV .neq (.str a) (.str b) = some (.bool (!(a == b))):=rfl
theorem qBR (a b:List UInt8):qeV .lss (.str a) (.str b) = some (.bool (Op.bytesLess a b)):=rfl
theorem qBQ (a b:List UInt8):qeV .gtr (.str a) (.str b) = some (.bool (!(Op.bytesLess a b || a == b))):=rfl
theorem qEU (k:IntKind) (n:Int):unV .neg (.int k n) = some (.int k (k.wrap (0 - n))):=rfl
theorem qEV (b:Bool):unV .not (.bool b) = some (.bool (!b)):=rfl
section
variable {base:Nat} {call:Call} {p:qcD} {s:St}
def qfI (k:Nat) (zero:List qd) (len:Nat) (parts:List (Nat×qd)):Option qd:=
 if zero.length = k/\len * k <= 2 ^ 24 then
  match qz ((List.replicate len zero).flatten) (parts.map λ(i,x)=>(i * k,k,x)) with
  | some cs=>if cs.all qd.storable then some (.lst ((List.range len).map λi=>if k = 1 then (cs.getD i .undef) else .agg ((cs.drop (i * k)).take k)) .full) else none
  | none=>none
 else none
theorem qBi (d:Option Nat) (k:Nat) (z:List qd) (len:Nat) (ps:List (Nat×qB)):qA base call p d (.list k z len ps) s = qhc d s (qfI k z len (ps.map λ(i,x)=>(i,ev s.t x))):=by
 rw [qa7 _ _ rfl (by simp) (by simp) (by simp)]
 simp only [pureV,qfI,jG]
 rfl
theorem qk5 {k:Nat} {z:List qd} (hz:z.length = k):∀(vs:List qd) (D:List qd) (j:Nat),D.length = j * k->(∀v ∈ vs,v.cells.length = k/\v.cells.all qd.storable = true)->
  qz (D ++ (List.replicate vs.length z).flatten) ((vs.zipIdx j).map λx=>(x.2 * k,k,x.1)) = some (D ++ (vs.map qd.cells).flatten)
 | [],D,j,_,_=>by simp [qz]
 | v :: vs,D,j,hD,hv=>by
  obtain ⟨h1,h2⟩:=hv v (jE ..)
  have ih:=qk5 hz vs (D ++ v.cells) (j + 1) (by rw [List.length_append,hD,h1,Nat.add_mul,Nat.one_mul]) λw hw=>hv w (jI _ hw)
  simp only [List.zipIdx_cons,List.map_cons,qz,List.length_cons,List.replicate_succ,List.flatten_cons,h2]
  rw [if_pos ⟨h1,by simp [hD,hz],trivial⟩]
  have e:splice (D ++ (z ++ (List.replicate vs.length z).flatten)) (j * k) v.cells = (D ++ v.cells) ++ (List.replicate vs.length z).flatten:=by
   unfold splice
   rw [<-hD,List.take_left,h1,<-List.drop_drop,List.drop_left,<-hz,List.drop_left]
  rw [e,ih,List.append_assoc]
theorem qk7 {k:Nat}:∀(vs:List (List qd)) (i:Nat),(∀v ∈ vs,v.length = k)->i < vs.length->(vs.flatten.drop (i * k)).take k = vs.getD i []
 | [],i,_,h=>by simp at h
 | v :: vs,0,hv,_=>by
  have:=hv v (jE ..)
  simp [<-this]
 | v :: vs,i + 1,hv,h=>by
  have h1:=hv v (jE ..)
  rw [List.flatten_cons,Nat.add_mul,Nat.one_mul,Nat.add_comm,<-List.drop_drop,<-h1,List.drop_left,h1,qk7 vs i (λw hw=>hv w (jI _ hw)) (by simpa using h)]
  rfl
theorem qia {k:Nat} {z:List qd} (hz:z.length = k) (h1:k ≠ 1) (vs:List (List qd)) (hl:vs.length * k <= 2 ^ 24) (hv:∀v ∈ vs,v.length = k/\v.all qd.storable = true) :
  qfI k z vs.length ((vs.map qd.agg).zipIdx.map λx=>(x.2,x.1)) = some (.lst (vs.map qd.agg) .full):=by
 have hf:=qk5 hz (vs.map qd.agg) [] 0 (by simp) (by simpa [qd.cells] using hv)
 simp only [List.nil_append,jQ,jG] at hf
 have hc:(vs.map (qd.cells ∘ qd.agg)).flatten = vs.flatten:=by
  congr 1
  exact (List.map_congr_left λv _=>rfl).trans (List.map_id vs)
 simp only [qfI,jG]
 rw [if_pos ⟨hz,hl⟩]
 rw [show ((λx:Nat×qd=>(x.1 * k,k,x.2)) ∘ λx:qd×Nat=>(x.2,x.1)) = λx:qd×Nat=>(x.2 * k,k,x.1) from rfl,hf,hc]
 have I:vs.flatten.all qd.storable = true:=by
  simp only [List.all_flatten,List.all_eq_true]
  exact λv E=>List.all_eq_true.1 (hv v E).2
 simp only [I,if_true,if_neg h1]
 congr 2
 apply jO
 intro i
 rw [jr,jr]
 by_cases hi:i < vs.length
 ·rw [List.getElem?_range hi,jh hi]
  simp only [jJ]
  rw [qk7 vs i (λv E=>(hv v E).1) hi]
  simp [List.getD,jh hi]
 ·rw [jq (by simpa using hi),jq (by simpa using hi)]
  rfl
theorem qdB {k:Nat} {z a:List qd} (hz:z.length = k) (h1:k ≠ 1) (ha:a.length = k) (sa:a.all qd.storable = true) (hl:k <= 1000):qfI k z 1 [(0,.agg a)] = some (.lst [.agg a] .full):=
 qia hz h1 [a] (by simp;omega) (by simpa using ⟨ha,by simpa using sa⟩)
theorem qtm {k:Nat} {z a b:List qd} (hz:z.length = k) (h1:k ≠ 1) (ha:a.length = k) (sa:a.all qd.storable = true) (hb:b.length = k) (sb:b.all qd.storable = true) (hl:k <= 1000):qfI k z 2 [(0,.agg a),(1,.agg b)] = some (.lst [.agg a,.agg b] .full):=
 qia hz h1 [a,b] (by simp;omega) (by simpa using ⟨⟨ha,by simpa using sa⟩,hb,by simpa using sb⟩)
theorem qtn {k:Nat} {z a b c:List qd} (hz:z.length = k) (h1:k ≠ 1) (ha:a.length = k) (sa:a.all qd.storable = true) (hb:b.length = k) (sb:b.all qd.storable = true) (hc:c.length = k) (sc:c.all qd.storable = true) (hl:k <= 1000):qfI k z 3 [(0,.agg a),(1,.agg b),(2,.agg c)] = some (.lst [.agg a,.agg b,.agg c] .full):=
 qia hz h1 [a,b,c] (by simp;omega) (by simpa using ⟨⟨ha,by simpa using sa⟩,⟨hb,by simpa using sb⟩,hc,by simpa using sc⟩)
end
def qF.noLp:qF->Bool
 | .seq a b=>a.noLp && b.noLp
 | .cond _ a b=>a.noLp && b.noLp
 | .block _ b=>b.noLp
 | .loop _=>false
 | _=>true
def qer.noLp:qer->Bool
 | .pre a r=>a.noLp && r.noLp
 | .dfr _ _ _ c=>c.noLp
section
variable {base:Nat} {call:Call}
theorem qe0 (n m:Nat):∀(a:qF) (s:St),a.noLp = true->qaV n base call a s = qaV m base call a s
 | .skip,s,_=>rfl
 | .reg _,s,_=>rfl
 | .draw _,s,_=>rfl
 | .draw2 _ _ _ _,s,_=>rfl
 | .exit _,s,_=>rfl
 | .ret,s,_=>rfl
 | .rfun _ _ _ _,s,_=>rfl
 | .loop _,s,h=>by cases h
 | .seq a b,s,h=>by
  simp only [qF.noLp,jk] at h
  simp only [qaV]
  rw [qe0 n m a s h.1]
  split
  ·exact qe0 n m b _ h.2
  ·rfl
 | .cond c a b,s,h=>by
  simp only [qF.noLp,jk] at h
  simp only [qaV]
  split
  ·exact qe0 n m a s h.1
  ·exact qe0 n m b s h.2
  ·rfl
 | .block id b,s,h=>by
  simp only [qF.noLp] at h
  simp only [qaV]
  rw [qe0 n m b s h]
theorem qnB {n:Nat} {a:qF} {s:St} (h:a.noLp = true):qaV n base call a s = qv base call a s:=by
 apply Option.ext
 intro x
 rw [qan]
 constructor
 ·intro hx
  exact ⟨n,hx⟩
 ·rintro ⟨m,hm⟩
  rw [qe0 n m a s h]
  exact hm
def qFC (k:St->Option (Ex×St)):Option (Ex×St)->Option (Ex×St)
 | some (.nor,s)=>k s
 | some (.exit _,_)=>none
 | r=>r
theorem qkg (k:St->Option (Ex×St)) (s:St):qFC k (some (.nor,s)) = k s:=rfl
theorem qxJ (k:St->Option (Ex×St)) (s:St):qFC k (some (.ret,s)) = some (.ret,s):=rfl
def qJF (k:St->Option (Ex×St)):Option (Ex×St)->Option (Ex×St)
 | some (.nor,s)=>k s
 | _=>none
theorem qj8 (k:St->Option (Ex×St)) (s:St):qJF k (some (.nor,s)) = k s:=rfl
def qCQ (s:St):Option (Ex×St)->Option (Ex×St)
 | some (.nor,s2) | some (.ret,s2)=>some (.ret,{ s with h:=s2.h,e:=s.e || s2.e})
 | _=>none
theorem qkR (s s2:St):qCQ s (some (.nor,s2)) = some (.ret,⟨s.t,s2.h,s.e || s2.e⟩):=rfl
noncomputable def dW (call:Call) (d:qcO) (v:qd) (cv:List qd) (s:St):Option (Ex×St):=
 qCQ s (qJF (qv s.h.length call d.code) (qv s.h.length call (.reg d.ops) ⟨up (cv.map qd.dim ++ List.replicate (d.ntmps - cv.length) (.tup [])) d.k v.dim,s.h,false⟩))
theorem qmj {n:Nat} {d:qcO} (hd:d.code.noLp = true) (v:qd) (cv:List qd) (s:St):qfh n call d v cv s = dW call d v cv s:=by
 rw [qfh,dW,qhS,qki]
 cases qaO s.h.length call [] d.ops ⟨up (cv.map qd.dim ++ List.replicate (d.ntmps - cv.length) (.tup [])) d.k v.dim,s.h,false⟩ with
 | none=>rfl
 | some x=>
  obtain ⟨x,s1⟩:=x
  cases x
  case nor=>
   rw [qj8]
   simp only
   rw [qnB hd]
   cases qv s.h.length call d.code s1 with
   | none=>rfl
   | some x=>obtain ⟨x,s2⟩:=x;cases x <;> rfl
  all_goals rfl
noncomputable def qFw (call:Call) (d:qcO) (cv:List qd):Option (Ex×St)->Option (Ex×St)
 | some (.nor,s) | some (.ret,s)=>dW call d .niliface cv s
 | some (.pan v,s)=>dW call d v cv s
 | _=>none
theorem qv4 (d:qcO) (cv:List qd) (s:St):qFw call d cv (some (.ret,s)) = dW call d .niliface cv s:=rfl
theorem qv3 (d:qcO) (cv:List qd) (v:qd) (s:St):qFw call d cv (some (.pan v,s)) = dW call d v cv s:=rfl
def fnW (f:FuncId) (k:List qd->Option (Ex×St)):qd->Option (Ex×St)
 | .fn g [] cv=>if g = f then k cv else none
 | _=>none
theorem qsj (f:FuncId) (k:List qd->Option (Ex×St)) (cv:List qd):fnW f k (.fn f [] cv) = k cv:=if_pos rfl
noncomputable def gW (base:Nat) (call:Call) (d:qcO):qer->St->Option (Ex×St)
 | .pre a r,s=>qFC (gW base call d r) (qv base call a s)
 | .dfr f E slot rest,s=>
  fnW f (λcv=>qFw call d cv (qv base call rest ⟨up s.t slot (.fn f [] (E.map (ev s.t))),s.h,s.e⟩)) (ev (up s.t slot (.fn f [] (E.map (ev s.t)))) (.t slot))
theorem qso (d:qcO) (f:FuncId) (E:List qB) (slot:Nat) (rest:qF) (s:St):gW base call d (.dfr f E slot rest) s = fnW f (λcv=>qFw call d cv (qv base call rest ⟨up s.t slot (.fn f [] (E.map (ev s.t))),s.h,s.e⟩)) (ev (up s.t slot (.fn f [] (E.map (ev s.t)))) (.t slot)):=rfl
theorem qnE (d:qcO) (a:qF) (r:qer) (s:St):gW base call d (.pre a r) s = qFC (gW base call d r) (qv base call a s):=rfl
theorem qss {n:Nat} {d:qcO} (hd:d.code.noLp = true):∀(b:qer) (s:St),b.noLp = true->qdy n base call d b s = gW base call d b s
 | .pre a r,s,h=>by
  simp only [qer.noLp,jk] at h
  rw [qdy,qnE,qnB h.1]
  cases qv base call a s with
  | none=>rfl
  | some x=>
   obtain ⟨x,s1⟩:=x
   cases x
   case nor=>exact qss hd r s1 h.2
   all_goals rfl
 | .dfr f E slot rest,s,h=>by
  simp only [qer.noLp] at h
  rw [qdy,qso,qki]
  generalize ev (up s.t slot (.fn f [] (E.map (ev s.t)))) (.t slot) = w
  cases w
  case fn g first cv=>
   cases first with
   | cons _ _=>rfl
   | nil=>
    by_cases hg:g = f
    ·subst hg
     rw [qsj]
     simp only [if_true]
     rw [qnB h]
     generalize qv base call rest _ = x
     cases x with
     | none=>rfl
     | some x=>
      obtain ⟨x,s1⟩:=x
      cases x
      case nor=>exact qmj hd _ _ _
      case ret=>exact qmj hd _ _ _
      case pan v=>exact qmj hd _ _ _
      all_goals rfl
    ·simp only [fnW,if_neg hg]
  all_goals rfl
def qIO (ty:TypeId) (zero:qd):qd->Option qd
 | .niliface=>some (.tup [zero,.bool false])
 | .iface u v=>if u = ty then some (.tup [v,.bool true]) else some (.tup [zero,.bool false])
 | _=>none
theorem qzc {p:qcD} (d:Option Nat) (ty:TypeId) (z:qd) (x:qB) (s:St):qA base call p d (.tas ty z x) s = qhc d s (qIO ty z (ev s.t x)):=by
 rw [qa7 _ _ rfl (by simp) (by simp) (by simp)]
 simp only [pureV]
 cases ev s.t x <;> rfl
theorem qyo (ty:TypeId) (z:qd):qIO ty z .niliface = some (.tup [z,.bool false]):=rfl
theorem qyn (ty:TypeId) (z v:qd):qIO ty z (.iface ty v) = some (.tup [v,.bool true]):=if_pos rfl
def qB9 (d:Nat):Option qd->Option Nat
 | none=>some d
 | some (.int _ n)=>if 0 <= n then some n.toNat else none
 | some _=>none
def qlO (x:qd) (lo hi:Option qd):Option qd:=
 match x with
 | .str s=>match qB9 s.length hi with
  | some h=>match qB9 0 lo with
   | some l=>if l <= h/\h <= s.length then some (.str ((s.drop l).take (h - l))) else none
   | none=>none
  | none=>none
 | _=>none
theorem qnr (t:List qd) (o:Option qB) (d:Nat):bound t o d = qB9 d (o.map (ev t)):=by
 cases o with
 | none=>rfl
 | some o=>simp only [bound,jJ];cases ev t o <;> rfl
theorem qd3 {p:qcD} (d:Option Nat) (x:qB) (lo hi:Option qB) (s:St):qA base call p d (.subS x lo hi) s = qhc d s (qlO (ev s.t x) (lo.map (ev s.t)) (hi.map (ev s.t))):=by
 rw [qa7 _ _ rfl (by simp) (by simp) (by simp)]
 simp only [pureV,qnr]
 cases ev s.t x <;> rfl
theorem quj (t:List qd) (x:qB) (lo hi:Option qB):pureV t (.subS x lo hi) = qlO (ev t x) (lo.map (ev t)) (hi.map (ev t)):=by
 simp only [pureV,qnr]
 cases ev t x <;> rfl
theorem qiw {s:List UInt8} {n:Nat} (hn:n <= s.length):qlO (.str s) (some (.int .i64 (n:Nat))) none = some (.str (s.drop n)):=by
 have:(0:Int) <= (n:Int):=zo
 simp only [qlO,qB9,this,if_true,Int.toNat_natCast,hn,jm,and_self]
 rw [List.take_of_length_le (by rw [List.length_drop];exact jm _)]
theorem qBT {s:List UInt8} {m:Nat} (hm:m <= s.length):qlO (.str s) none (some (.int .i64 (m:Nat))) = some (.str (s.take m)):=by
 have h2:(0:Int) <= (m:Int):=zo
 simp only [qlO,qB9,h2,if_true,Int.toNat_natCast,hm,Nat.zero_le,and_self,List.drop_zero,Nat.sub_zero]
theorem qdG {s:List UInt8} {n m:Nat} (hn:n <= m) (hm:m <= s.length):qlO (.str s) (some (.int .i64 (n:Nat))) (some (.int .i64 (m:Nat))) = some (.str ((s.drop n).take (m - n))):=by
 have h1:(0:Int) <= (n:Int):=zo
 have h2:(0:Int) <= (m:Int):=zo
 simp only [qlO,qB9,h1,h2,if_true,Int.toNat_natCast,hn,hm,and_self]
theorem qAI {n:Nat} {g:qjE} (hd:g.d.code.noLp = true) (hb:g.body.noLp = true) (aS:List qd) (h:List qj):qez n g call aS h = qfO g.results h (gW h.length call g.d g.body ⟨aS.map qd.dim ++ List.replicate (g.ntmps - aS.length) (.tup []),h,false⟩):=by
 rw [qez,qss hd _ _ hb]
 generalize gW h.length call g.d g.body _ = r
 cases r with
 | none=>rfl
 | some x=>
  obtain ⟨x,s⟩:=x
  cases x <;> first | rfl | (simp only [qfO,qyR];cases qat s g.results <;> rfl)
end
mutual
def qbZ:qd->qd
 | .lst xs _=>.lst (qbd xs) .no
 | .agg cs=>.agg (qbd cs)
 | a=>a
def qbd:List qd->List qd
 | []=>[]
 | a :: aS=>qbZ a :: qbd aS
end
theorem qeT:∀l:List qd,qbd l = l.map qbZ
 | []=>rfl
 | a :: l=>by rw [qbd,qeT l];rfl
theorem qiD (l:List qd):(qbd l).length = l.length:=by rw [qeT,jQ]
theorem qqx (a:qd):(qbZ a).cells.length = a.cells.length:=by
 cases a with
 | agg cs=>rw [qbZ];exact qiD cs
 | _=>first | rfl | (rw [qbZ];rfl)
section
variable {γ:Nat->Option Nat} {imm:Nat->Nat->Option Value}
mutual
theorem qvg:∀(a:qd) (v:Value),qC γ imm a v->qC γ imm (qbZ a) v
 | .lst xs f,v,h=>by
  rw [qC] at h
  rw [qbZ,qC]
  obtain ⟨a,len,cap,h1,h2,h3,h4,h5,⟨k,h6⟩,h7⟩:=h
  refine ⟨a,len,cap,h1,by rw [qiD];exact h2,h3,(λe=>nomatch e),h5,⟨k,λx hx=>?_⟩,?_⟩
  ·rw [qeT] at hx
   obtain ⟨y,hy,rfl⟩:=jP.1 hx
   rw [qqx]
   exact h6 y hy
  ·rcases h7 with rfl | ⟨b,p,e,h8⟩
   ·exact .inl rfl
   ·exact .inr ⟨b,p,e,qbN xs b p h8⟩
 | .agg cs,v,h=>by
  rw [qC] at h
  rw [qbZ,qC]
  obtain ⟨x,h1,h2⟩:=h
  exact ⟨x,h1,qvf cs _ h2⟩
 | .undef,v,h=>h
 | .bool _,v,h=>h
 | .int _ _,v,h=>h
 | .str _,v,h=>h
 | .nilptr,v,h=>h
 | .ptr _ _,v,h=>h
 | .iptr _ _,v,h=>h
 | .nilfunc,v,h=>h
 | .fn _ _ _,v,h=>h
 | .yld _,v,h=>h
 | .niliface,v,h=>h
 | .iface _ _,v,h=>h
 | .tup _,v,h=>h
 | .sl _ _ _ _ _,v,h=>h
 | .mp _,v,h=>h
 | .nilmap,v,h=>h
 | .nils,v,h=>h
 | .empt,v,h=>h
theorem qvf:∀(aS:List qd) (vs:List Value),qp γ imm aS vs->qp γ imm (qbd aS) vs
 | [],vs,h=>h
 | a :: aS,vs,h=>by
  rw [qp] at h
  rw [qbd,qp]
  obtain ⟨v,r,h1,h2,h3⟩:=h
  exact ⟨v,r,h1,qvg a v h2,qvf aS r h3⟩
theorem qzq:∀(cs:List qd) (b p:Nat),qaw γ imm cs b p->qaw γ imm (qbd cs) b p
 | [],b,p,h=>h
 | c :: cs,b,p,h=>by
  rw [qaw] at h
  rw [qbd,qaw]
  obtain ⟨⟨v,h1,h2⟩,h3⟩:=h
  exact ⟨⟨v,h1,qvg c v h2⟩,qzq cs b (p + 1) h3⟩
theorem qbN:∀(xs:List qd) (b p:Nat),qQ γ imm xs b p->qQ γ imm (qbd xs) b p
 | [],b,p,h=>h
 | .agg cs :: xs,b,p,h=>by
  rw [qQ] at h
  rw [qbd,qbZ,qQ,qiD]
  exact ⟨qzq cs b p h.1,qbN xs b _ h.2⟩
 | .lst ys f :: xs,b,p,h=>by
  rw [qQ] at h
  ·have h2:=qbN xs b (p + 1) h.2
   obtain ⟨⟨v,h3,h4⟩,_⟩:=h
   have h5:=qvg (.lst ys f) v h4
   rw [qbd]
   rw [qbZ] at h5 ⊢
   rw [qQ]
   ·exact ⟨⟨v,h3,h5⟩,h2⟩
   ·intro _ e;cases e
  ·intro _ e;cases e
 | .undef :: xs,b,p,h=>⟨h.1,qbN xs b _ h.2⟩
 | .bool _ :: xs,b,p,h=>⟨h.1,qbN xs b _ h.2⟩
 | .int _ _ :: xs,b,p,h=>⟨h.1,qbN xs b _ h.2⟩
 | .str _ :: xs,b,p,h=>⟨h.1,qbN xs b _ h.2⟩
 | .nilptr :: xs,b,p,h=>⟨h.1,qbN xs b _ h.2⟩
 | .ptr _ _ :: xs,b,p,h=>⟨h.1,qbN xs b _ h.2⟩
 | .iptr _ _ :: xs,b,p,h=>⟨h.1,qbN xs b _ h.2⟩
 | .nilfunc :: xs,b,p,h=>⟨h.1,qbN xs b _ h.2⟩
 | .fn _ _ _ :: xs,b,p,h=>⟨h.1,qbN xs b _ h.2⟩
 | .yld _ :: xs,b,p,h=>⟨h.1,qbN xs b _ h.2⟩
 | .niliface :: xs,b,p,h=>⟨h.1,qbN xs b _ h.2⟩
 | .iface _ _ :: xs,b,p,h=>⟨h.1,qbN xs b _ h.2⟩
 | .tup _ :: xs,b,p,h=>⟨h.1,qbN xs b _ h.2⟩
 | .sl _ _ _ _ _ :: xs,b,p,h=>⟨h.1,qbN xs b _ h.2⟩
 | .mp _ :: xs,b,p,h=>⟨h.1,qbN xs b _ h.2⟩
 | .nilmap :: xs,b,p,h=>⟨h.1,qbN xs b _ h.2⟩
 | .nils :: xs,b,p,h=>⟨h.1,qbN xs b _ h.2⟩
 | .empt :: xs,b,p,h=>⟨h.1,qbN xs b _ h.2⟩
end
end
def qex (n:Nat) (fn:qt) (call:Call) (aS:List qd) (h:List qj):Option (qdm×List qj×Bool):=
 match qaV n h.length call fn.code ⟨(aS.map qbZ).map qd.dim ++ List.replicate (fn.ntmps - ((aS.map qbZ).map qd.dim).length) (.tup []),h,false⟩ with
 | some (.nor,s) | some (.ret,s)=>
  match qat s fn.results with
  | some vs=>some (leave h.length (.ret (qbv vs)) s.h s.e)
  | none=>none
 | some (.pan v,s)=>some (leave h.length (.pan v) s.h s.e)
 | _=>none
section
variable {P:Program} {gl:Nat->Option (List qd)}
theorem qhp (ai:P.follows .mixedOrders = true) {F:FuncId->Option qt} (hF:qnm P gl F) {f:FuncId} {fn:qt} (ak:F f = some fn) (n:Nat):qfP P gl f (qex n fn):=by
 intro call ih hk aa h r h' e' E G w vv hr hn ad
 have a8:G.VL (aa.map qbZ) vv.toList:=by have:=qvf aa _ ad;rwa [qeT] at this
 generalize hz:aa.map qbZ = aS at *
 simp only [qex,hz] at E
 obtain ⟨pf,c,p1,p2,p3,p4,p5,p6⟩:=hF f fn ak
 refine .inl ⟨qZ p1 p2 p3 _ w,λro m=>?_⟩
 have ac:vv.size = aS.length:=by have:=a8.length;simp at this ⊢;omega
 let t0:List qd:=aS.map qd.dim ++ List.replicate (fn.ntmps - (aS.map qd.dim).length) (.tup [])
 let a0:Act:={ tmps:=vv ++ Array.replicate (pf.ntmps - vv.size) undef,defers:=[]}
 have al:Cfg P gl G h t0 a0 w:=by
  refine ⟨hr,qaJ.start ?_ λz hz=>?_⟩
  ·simp only [t0,a0,Array.toList_append,Array.toList_replicate]
   refine qp.append a8.dims ?_
   rw [p6,ac]
   simp only [jQ]
   exact qp.replicate _ (by simp [qC,qp,undef])
  ·simp only [t0] at hz
   rcases jH.1 hz with hz | hz
   ·obtain ⟨q,_,rfl⟩:=jP.1 hz;exact qbf q
   ·rw [(List.mem_replicate.1 hz).2];rfl
 have hW:∀x s,qaV n h.length call fn.code ⟨t0,h,false⟩ = some (x,s)->c.wpIn (FR none) m P (qot P gl h.length G w w.heap.size false [] x s) a0 w:=λx s hx=>
  qcb ai ih hk (N:=n) (base:=h.length) (lo:=w.heap.size) (rf:=false) (fx:=[]) (ro:=none) (m:=m) c fn.code p4 (λh=>by cases h) G w ⟨t0,h,false⟩ a0 x s al (jm _) (λ_ hq=>by cases hq) qie (jm _) hx
 have a7:∀x s I,qaV n h.length call fn.code ⟨t0,h,false⟩ = some (x,s)->(x = .nor\/x = .ret)->qat s fn.results = some I->leave h.length (.ret (qbv I)) s.h s.e = (r,h',e')->CallsIn (FR ro) m P f vv w (qnh P gl h.length G w r h'):=by
  intro x s I hx af Y aj
  have k:=qK (base:=h.length) hk n fn.code _ s _ (jm _) hx
  refine qbz (m:=m) (callsIn_of_wp_marks (F:=FR none) p1 p3 trivial (wpIn_mono (hW x s hx) λe a' w' a6=>?_) rfl)
  obtain ⟨G',g1,⟨ms,a1,g2,_⟩,g3⟩:=a6
  rw [jF] at a1
  rw [<-a1] at g2
  have key:Cfg P gl G' s.h s.t a' w'->LeavesInM (FR none) m P pf a'.tmps (qnh P gl h.length G w r h') a'.defers .returning w':=by
   intro hc
   refine qeF (by simp) a'.defers w' g2 g1 hc.rel hc.tr λae q1 q2 q3=>?_
   obtain ⟨u,r1,r2⟩:=qd6 (a:=a') ⟨q2,q3⟩ p5 Y
   obtain ⟨rfl,ab,y1,y2,y3,y4⟩:=qce hr q1 q2 ⟨k.1,λhe=>(k.2 he).2⟩ aj
   exact ⟨u,r1,_,ab,rfl,y1,y2,y3,y4 _ u (.inl rfl) r2⟩
  rcases af with rfl | rfl
  ·obtain ⟨rfl,g3⟩:=g3;exact key g3
  ·obtain ⟨rfl,g3⟩:=g3;exact key g3
 split at E
 ·rename_i s hx
  split at E
  ·rename_i I Y
   exact a7 _ s I hx (.inl rfl) Y (Option.some.inj E)
  ·cases E
 ·rename_i s hx
  split at E
  ·rename_i I Y
   exact a7 _ s I hx (.inr rfl) Y (Option.some.inj E)
  ·cases E
 ·rename_i v s hx
  have k:=qK (base:=h.length) hk n fn.code _ s _ (jm _) hx
  refine qbz (m:=m) (callsIn_of_wp_marks (F:=FR none) p1 p3 trivial (wpIn_mono (hW _ s hx) λe a' w' a6=>?_) rfl)
  obtain ⟨G',g1,⟨ms,a1,g2,_⟩,u,rfl,g3,g4⟩:=a6
  rw [jF] at a1
  rw [<-a1] at g2
  refine qdV (by simp) a'.defers w' g2 g1 g3.rel λae q1 q2=>?_
  obtain ⟨rfl,ab,y1,y2,y3,y4⟩:=qce hr q1 q2 ⟨k.1,λhe=>(k.2 he).2⟩ (Option.some.inj E)
  exact ⟨v,u,ab,rfl,rfl,y1,y2,y3,y4 _ u (.inr rfl) g4⟩
 ·cases E
end
theorem qdQ {n:Nat} {fn:qt} {call:AE.Call} (hk:qP call):qP λ_ aS h=>qex n fn call aS h:=by
 intro fv aS h r h' e' hr
 simp only [qex] at hr
 split at hr
 ·rename_i s h1
  have k:=qK (base:=h.length) hk n fn.code ⟨_,h,false⟩ s _ (jm _) h1
  split at hr
  ·rename_i vs E
   have:=qa6 (r:=.ret (qbv vs)) (h:=h) ⟨k.1,λhe=>(k.2 he).2⟩
   rw [Option.some.inj hr] at this
   exact this
  ·cases hr
 ·rename_i s h1
  have k:=qK (base:=h.length) hk n fn.code ⟨_,h,false⟩ s _ (jm _) h1
  split at hr
  ·rename_i vs E
   have:=qa6 (r:=.ret (qbv vs)) (h:=h) ⟨k.1,λhe=>(k.2 he).2⟩
   rw [Option.some.inj hr] at this
   exact this
  ·cases hr
 ·rename_i v s h1
  have k:=qK (base:=h.length) hk n fn.code ⟨_,h,false⟩ s _ (jm _) h1
  have:=qa6 (r:=.pan v) (h:=h) ⟨k.1,λhe=>(k.2 he).2⟩
  rw [Option.some.inj hr] at this
  exact this
 ·cases hr
theorem qpa {c d:Call} (hc:CLe c d) {n:Nat} {fn:qt} {aS:List qd} {h:List qj}:Le (qex n fn c aS h) (qex n fn d aS h):=λx hx=>by
 simp only [qex] at hx ⊢
 split at hx
 ·rename_i E;rw [qD hc (jm _) _ _ _ E];exact hx
 ·rename_i E;rw [qD hc (jm _) _ _ _ E];exact hx
 ·rename_i E;rw [qD hc (jm _) _ _ _ E];exact hx
 ·cases hx
theorem qo9 {c:Nat->Call} (hc:qea c) {n:Nat} {fn:qt} {aS:List qd} {h:List qj} {x:qdm×List qj×Bool} (hx:qex n fn (qpK c) aS h = some x):∃k,qex n fn (c k) aS h = some x:=by
 simp only [qex] at hx ⊢
 split at hx
 ·rename_i E;obtain ⟨k1,h1⟩:=qaz hc _ _ _ E;exact ⟨k1,by rw [h1];exact hx⟩
 ·rename_i E;obtain ⟨k1,h1⟩:=qaz hc _ _ _ E;exact ⟨k1,by rw [h1];exact hx⟩
 ·rename_i E;obtain ⟨k1,h1⟩:=qaz hc _ _ _ E;exact ⟨k1,by rw [h1];exact hx⟩
 ·cases hx
theorem qAD {n:Nat} {fn:qt} {call:Call} (hb:fn.code.noLp = true) (aS:List qd) (h:List qj):qex n fn call aS h = qfO fn.results h (qv h.length call fn.code ⟨(aS.map qbZ).map qd.dim ++ List.replicate (fn.ntmps - ((aS.map qbZ).map qd.dim).length) (.tup []),h,false⟩):=by
 rw [qex,qnB hb]
 generalize qv h.length call fn.code _ = r
 cases r with
 | none=>rfl
 | some r=>obtain ⟨x,s⟩:=r;cases x <;> first | rfl | (simp only [qjP,qjQ,qyR];rfl) | (simp only [qjP,qjQ];cases qat s fn.results <;> rfl)
noncomputable def qGj (t:List qd):Nat->qd:=List.rec (motive:=λ_=>Nat->qd) (λ_=>.undef) (λa _ ih n=>Nat.rec (motive:=λ_=>qd) a (λm _=>ih m) n) t
noncomputable def qiS (v:qd) (t:List qd):Nat->List qd:=List.rec (motive:=λ_=>Nat->List qd) (λ_=>[]) (λa aS ih n=>Nat.rec (motive:=λ_=>List qd) (v :: aS) (λm _=>a :: ih m) n) t
theorem qmD:∀(t:List qd) (i:Nat),qGj t i = t.getD i .undef
 | [],_=>rfl
 | _ :: _,0=>rfl
 | _ :: t,i + 1=>qmD t i
theorem quG (v:qd):∀(t:List qd) (i:Nat),qiS v t i = t.set i v
 | [],_=>rfl
 | _ :: _,0=>rfl
 | a :: t,i + 1=>congrArg (a :: ·) (quG v t i)
noncomputable def qyX (k:IntKind) (n:Int):qd:=
 Int.rec (motive:=λ_=>qd) (λm=>Nat.rec (motive:=λ_=>qd) (.int k (.ofNat 0)) (λp _=>.int k (.ofNat (p + 1))) m) (λm=>.int k (.negSucc m)) n
noncomputable def qyW (b:Bool):qd:=Bool.rec (motive:=λ_=>qd) (.bool false) (.bool true) b
noncomputable def qF9 (v:qd):qd:=
 qd.casesOn (motive_1:=λ_=>qd) v .undef .bool .int .str .nilptr .ptr .iptr (λxs f=>qgV.casesOn (motive:=λ_=>qd) f (.lst xs .no) (.lst xs .full) (λ_=>.lst xs .no)) .nilfunc .fn .yld .niliface .iface .agg .tup .sl .mp .nilmap .nils .empt
noncomputable def qyY (v:qd):qd:=
 qd.casesOn (motive_1:=λ_=>qd) v .undef qyW qyX .str .nilptr .ptr .iptr .lst .nilfunc .fn .yld .niliface .iface .agg .tup .sl .mp .nilmap .nils .empt
theorem qsk (b:Bool):qyW b = .bool b:=by cases b <;> rfl
theorem qsl (k:IntKind) (n:Int):qyX k n = .int k n:=by
 cases n with
 | ofNat m=>cases m <;> rfl
 | negSucc m=>rfl
theorem qrH:qF9 = qd.dim:=by
 funext v
 cases v <;> try rfl
 rename_i xs f
 cases f <;> rfl
theorem qsm (v:qd):qyY v = v:=by cases v <;> first | rfl | exact qsk _ | exact qsl _ _
noncomputable def qIH (d:Nat) (v:qd) (t:List qd):List qd:=
 qd.casesOn (motive_1:=λ_=>List qd) (qyY v) (qiS .undef t d) (λb=>qiS (.bool b) t d) (λk n=>qiS (.int k n) t d) (λx=>qiS (.str x) t d) (qiS .nilptr t d) (λa b=>qiS (.ptr a b) t d) (λa b=>qiS (.iptr a b) t d) (λa b=>qiS (.lst a b) t d)
  (qiS .nilfunc t d) (λa b c=>qiS (.fn a b c) t d) (λa=>qiS (.yld a) t d) (qiS .niliface t d) (λa b=>qiS (.iface a b) t d) (λa=>qiS (.agg a) t d) (λa=>qiS (.tup a) t d) (λa b c e f=>qiS (.sl a b c e f) t d) (λa=>qiS (.mp a) t d) (qiS .nilmap t d) (qiS .nils t d) (qiS .empt t d)
theorem qBE (d:Nat) (v:qd) (t:List qd):qIH d v t = t.set d v:=by
 unfold qIH
 rw [qsm]
 cases v <;> exact quG _ _ _
noncomputable def qvv (t:List qd):qB->qd
 | .t i=>qGj t i
 | .c v=>v
noncomputable def evF (t:List qd) (x:qB):qd:=qF9 (qvv t x)
noncomputable def qm0 (dst:Option Nat) (v:qd) (t:List qd):List qd:=
 match dst with
 | some d=>qIH d v t
 | none=>t
noncomputable def qhn (t:List qd) (x:qB):List qd:=
 match x with
 | .t i=>match qGj t i with
  | .lst xs (.own _)=>t.set i (.lst xs .no)
  | _=>t
 | .c _=>t
theorem qgN:qvv = raw:=by
 funext t x
 cases x
 ·exact qmD _ _
 ·rfl
theorem qhR:evF = ev:=by
 funext t x
 simp only [evF,ev,qgN,qrH]
theorem qm1:qm0 = put:=by
 funext d v t
 cases d
 ·rfl
 ·exact qBE _ _ _
theorem qmt:qhn = qaK:=by
 funext t x
 cases x
 ·simp only [qhn,qaK,qmD]
  rfl
 ·rfl
noncomputable def qgY (t:List qd) (x:Option qB) (d:Nat):Option Nat:=
 match x with
 | none=>some d
 | some x=>match evF t x with
  | .int _ n=>if 0 <= n then some n.toNat else none
  | _=>none
noncomputable def quh (t:List qd) (o:AOp):Option qd:=
 match o with
 | .mov x=>some (evF t x)
 | .pick c a b=>match evF t c with
  | .bool true=>some (evF t a)
  | .bool false=>some (evF t b)
  | _=>none
 | .build zero parts=>(qz zero (parts.map λ(o,s,x)=>(o,s,evF t x))).map .agg
 | .list k zero len parts=>
  if zero.length = k/\len * k <= 2 ^ 24 then
   match qz ((List.replicate len zero).flatten) (parts.map λ(i,x)=>(i * k,k,evF t x)) with
   | some cs=>if cs.all qd.storable then some (.lst ((List.range len).map λi=>if k = 1 then (cs.getD i .undef) else .agg ((cs.drop (i * k)).take k)) .full) else none
   | none=>none
  else none
 | .nilc x=>match evF t x with
  | .ptr i o=>some (.ptr i o)
  | .iptr cs o=>some (.iptr cs o)
  | .fn f a b=>some (.fn f a b)
  | .yld l=>some (.yld l)
  | .iface u v=>some (.iface u v)
  | _=>none
 | .bin op x y=>qeV op (evF t x) (evF t y)
 | .eqb neg x y=>match evF t x,evF t y with
  | .bool a,.bool b=>some (.bool ((a == b) != neg))
  | _,_=>none
 | .eqi k neg x y=>(qCi k (evF t x) (evF t y)).map λb=>.bool (b != neg)
 | .eqa neg x y=>match evF t x,evF t y with
  | .agg a,.agg b=>(qmd a b).map λr=>.bool (r != neg)
  | _,_=>none
 | .eqs sh neg x y=>(qmw sh (evF t x) (evF t y)).map λr=>.bool (r != neg)
 | .un op x=>unV op (evF t x)
 | .nls neg x=>match evF t x with
  | .sl ..=>some (.bool (false != neg))
  | .lst (_ :: _) _=>some (.bool (false != neg))
  | .nils=>some (.bool (true != neg))
  | .empt=>some (.bool (false != neg))
  | _=>none
 | .cvi k x=>match evF t x with
  | .int _ n=>some (.int k (k.wrap n))
  | _=>none
 | .cvs x=>match evF t x with
  | .str s=>some (.str s)
  | _=>none
 | .cvb x=>match evF t x with
  | .str s=>some (.lst (qlY s) .no)
  | _=>none
 | .cvt x=>match evF t x with
  | .lst xs _=>(qjM xs).map .str
  | _=>none
 | .mkI ty x=>match evF t x with
  | .undef=>none
  | v=>some (.iface ty v)
 | .mkF f a b=>some (.fn f (a.map (evF t)) (b.map (evF t)))
 | .subS x lo hi=>match evF t x with
  | .str s=>match qgY t hi s.length with
   | some h=>match qgY t lo 0 with
    | some l=>if l <= h/\h <= s.length then some (.str ((s.drop l).take (h - l))) else none
    | none=>none
   | none=>none
  | _=>none
 | .subL k x lo hi=>match evF t x with
  | .lst xs f=>match qgY t hi xs.length with
   | some h=>match qgY t lo 0 with
    | some l=>
     if l <= h/\h <= xs.length then
      if xs.head?.all (λy=>y.cells.length == k) then some (.lst ((xs.drop l).take (h - l)) (if h = xs.length then f else .no)) else none
     else none
    | none=>none
   | none=>none
  | .sl id o len cap more=>match qgY t hi len with
   | some h=>match qgY t lo 0 with
    | some l=>
     if l <= h/\h <= cap then
      if cap = l then (if more = 0 then some (.lst [] .full) else none) else (if more = 0\/more = k then some (.sl id (o + l * k) (h - l) (cap - l) more) else none)
     else none
    | none=>none
   | none=>none
  | _=>none
 | .fa off a=>match evF t a with
  | .ptr i o=>some (.ptr i (o + off))
  | .iptr cs o=>some (.iptr cs (o + off))
  | _=>none
 | .ixaL k s i=>match evF t s,evF t i with
  | .lst xs _,.int _ n=>
   if 0 <= n/\n < xs.length then
    match xs[n.toNat]? with
    | some x=>if x.cells.length = k then some (.iptr x.cells 0) else none
    | none=>none
   else none
  | .sl id o len _ _,.int _ n=>if 0 <= n/\n < len then some (.ptr id (o + n.toNat * k)) else none
  | _,_=>none
 | .ixaA len k a i=>match evF t a,evF t i with
  | .ptr b o,.int _ n=>if 0 <= n/\n < (len:Int) then some (.ptr b (o + n.toNat * k)) else none
  | .iptr cs o,.int _ n=>if 0 <= n/\n < (len:Int) then some (.iptr cs (o + n.toNat * k)) else none
  | _,_=>none
 | .ixS s i=>match evF t s,evF t i with
  | .str l,.int _ n=>if 0 <= n then (l[n.toNat]?).map λb=>.int .u8 b.toNat else none
  | _,_=>none
 | .ixA len k a i=>match evF t a,evF t i with
  | .agg cs,.int _ n=>if 0 <= n/\n < (len:Int) then cut cs (n.toNat * k.getD 1) k else none
  | _,_=>none
 | .fld off k x=>match evF t x with
  | .agg cs=>cut cs off k
  | _=>none
 | .ext x i=>match evF t x with
  | .tup vs=>(vs[i]?).map qd.dim
  | _=>none
 | .len true x=>match evF t x with
  | .str s=>some (.int .i64 s.length)
  | _=>none
 | .len false x=>match evF t x with
  | .lst xs _=>some (.int .i64 xs.length)
  | .sl _ _ len _ _=>some (.int .i64 len)
  | .nils=>some (.int .i64 0)
  | .empt=>some (.int .i64 0)
  | _=>none
 | .mm isMax x y=>match evF t x,evF t y with
  | .int k a,.int _ b=>some (.int k (if isMax then (if b > a then b else a) else (if b < a then b else a)))
  | _,_=>none
 | .tas ty zero x=>match evF t x with
  | .niliface=>some (.tup [zero,.bool false])
  | .iface u v=>if u = ty then some (.tup [v,.bool true]) else some (.tup [zero,.bool false])
  | _=>none
 | _=>none
noncomputable def qu0 (k:Nat) (p:qcD) (x:qB) (s:St):Option (List qd×St):=
 match x with
 | .c _=>none
 | .t i=>
  match qvv s.t (.t i) with
  | .lst xs (.own j)=>if j = k then some (xs,{ s with t:=s.t.set i (.lst xs .no)}) else none
  | _=>
   match p.find? (·.1 == i) with
   | some (_,.tmp b)=>
    match qvv s.t (.t b) with
    | .lst xs (.own j)=>if j = k then some (xs,{ s with t:=s.t.set b (.lst xs .no)}) else none
    | _=>none
   | some (_,.cell a)=>
    match evF s.t a with
    | .ptr id o=>
     match s.h[id]? with
     | some (.cells cs)=>
      match cs[o]? with
      | some (.lst xs (.own j))=>if j = k then some (xs,{ s with h:=s.h.set id (.cells (cs.set o (.lst xs .no)))}) else none
      | _=>none
     | _=>none
    | _=>none
   | none=>none
noncomputable def qof (base:Nat) (call:Call) (p:qcD) (dst:Option Nat) (o:AOp) (s:St):Option (Ex×St):=
 match o with
 | .asg x=>some (.nor,{ s with t:=qm0 dst (qvv s.t x) (qhn s.t x)})
 | .new cs=>some (.nor,{ s with t:=qm0 dst (.ptr s.h.length 0) s.t,h:=s.h ++ [.cells (cs.map qd.dim)]})
 | .box k x=>
  let vs:=(evF s.t x).cells.map qd.dim
  if vs.length = k/\vs.all qd.storable then some (.nor,{ s with t:=qm0 dst (.ptr s.h.length 0) s.t,h:=s.h ++ [.cells vs]}) else none
 | .ld k a=>(qel s.h (evF s.t a) k).map λv=>(.nor,{ s with t:=qm0 dst v s.t})
 | .st k a x=>
  match evF s.t a with
  | .ptr id o=>
   match s.h[id]? with
   | some (.cells cs)=>
    let v:=qvv s.t x
    let vs:=match k with | none=>[v] | some _=>v.dim.cells.map qd.dim
    if vs.length = k.getD 1/\o + vs.length <= cs.length/\vs.all qd.storable then
     some (.nor,{ t:=qm0 dst .undef (qhn s.t x),h:=s.h.set id (.cells (splice cs o vs)),e:=s.e || !(Nat.ble base id || qw (id + 1) vs)})
    else none
   | _=>none
  | _=>none
 | .call f args=>
  match call (evF s.t f) (args.map (evF s.t)) s.h with
  | some (.ret v,h,e)=>some (.nor,{ t:=qm0 dst v.dim s.t,h,e:=s.e || e})
  | some (.pan v,h,e)=>some (.pan v,{ s with h,e:=s.e || e})
  | none=>none
 | .app k x y=>
  match qvv s.t x,tail (evF s.t y) with
  | .lst xs f,some ys=>
   if ys.isEmpty then some (.nor,{ s with t:=qm0 dst (qd.lst xs f).dim s.t})
   else if xs.length + ys.length <= qk/\ys.all (λy=>y.cells.length == k && y.cells.all qd.storable)/\xs.head?.all (λy=>y.cells.length == k) then
    match f with
    | .full=>some (.nor,{ s with t:=qm0 dst (.lst (xs ++ ys) (.own k)) s.t})
    | _=>
     match qu0 k p x s with
     | some (xs,s)=>if xs.head?.all (λy=>y.cells.length == k) then some (.nor,{ s with t:=qm0 dst (.lst (xs ++ ys) (.own k)) s.t}) else none
     | none=>none
   else none
  | _,_=>none
 | .pan x=>match evF s.t x with
  | .iface u v=>some (.pan (.iface u v),s)
  | _=>none
 | .lk sh z ok m key=>(qnW s.h sh z ok (evF s.t m) (evF s.t key)).map λv=>(.nor,{ s with t:=qm0 dst v s.t})
 | .hx o aS=>(hop base o (aS.map (evF s.t)) s.h).map λr=>(.nor,{ t:=qm0 dst r.1.dim s.t,h:=r.2.1,e:=s.e || r.2.2})
 | o=>(quh s.t o).map λv=>(.nor,{ s with t:=qm0 dst v s.t})
noncomputable def qkr (t:List qd) (g:Option (Nat×Bool)):Option Bool:=
 match g with
 | none=>some true
 | some (j,b)=>match qvv t (.t j) with
  | .bool c=>some (c == b)
  | .tup []=>some false
  | _=>none
noncomputable def qiq (base:Nat) (call:Call):qcD->List qam->St->Option (Ex×St)
 | _,[],s=>some (.nor,s)
 | p,o :: os,s=>
  match qkr s.t o.guard with
  | some true=>
   match qof base call p o.dst o.op s with
   | some (.nor,s)=>qiq base call (qaN p o) os s
   | r=>r
  | some false=>qiq base call (qaN p { o with op:=.pick (.c .undef) (.c .undef) (.c .undef)}) os { s with t:=qm0 o.dst (.tup []) s.t}
  | none=>none
noncomputable def qrm (s:St) (o:AOp):Option Chk:=
 match o with
 | .ld k a=>(qel s.h (evF s.t a) k).map (.ld (evF s.t a) k)
 | .lk sh z ok m key=>(qnW s.h sh z ok (evF s.t m) (evF s.t key)).map (.lk sh z ok (evF s.t m) (evF s.t key))
 | .new cs=>some (.box s.h.length (cs.map qd.dim))
 | .box _ x=>some (.box s.h.length ((evF s.t x).cells.map qd.dim))
 | _=>none
noncomputable def qcp (base:Nat) (call:Call) (dsts:List Nat):List qR->List (Nat×Chk)->St->Option (Ex×St)
 | [],_,s=>some (.nor,s)
 | d :: ds,pend,s=>
  match qkr s.t d.o.guard with
  | some true=>
   match qof base call [] d.o.dst d.o.op s with
   | some (.nor,s')=>
    if d.o.op.effs then
     let E:=pend.filter λc=>!d.cl.testBit c.1
     if E.all (λc=>c.2.ok s'.h) then qcp base call dsts ds E s' else none
    else
     match qrm s d.o.op with
     | some c=>qcp base call dsts ds ((d.ix,c) :: pend) s'
     | none=>qcp base call dsts ds pend s'
   | some (.pan v,s')=>if d.o.op.effs then some (.pan v,{ s' with t:=qcL dsts s'.t}) else none
   | _=>none
  | some false=>qcp base call dsts ds pend { s with t:=qm0 d.o.dst (.tup []) s.t}
  | none=>none
noncomputable def qdq (n base:Nat) (call:Call):qF->St->Option (Ex×St)
 | .skip,s=>some (.nor,s)
 | .reg ops,s=>qiq base call [] ops s
 | .draw ops,s=>qcp base call (ops.filterMap (·.o.dst)) ops [] s
 | .draw2 c a b r,s=>qyJ a b (qcp base call ((c ++ a :: b :: r).filterMap (·.o.dst)) (c ++ [a,b]) [] s) (qcp base call ((c ++ a :: b :: r).filterMap (·.o.dst)) (c ++ a :: b :: r) [] s) (qcp base call ((c ++ a :: b :: r).filterMap (·.o.dst)) (c ++ b :: a :: r) [] s)
 | .seq a b,s=>match qdq n base call a s with
  | some (.nor,s)=>qdq n base call b s
  | r=>r
 | .cond c a b,s=>match evF s.t c with
  | .bool true=>qdq n base call a s
  | .bool false=>qdq n base call b s
  | _=>none
 | .block id b,s=>match qdq n base call b s with
  | some (.exit j,s)=>if j = id then some (.nor,s) else some (.exit j,s)
  | r=>r
 | .loop b,s=>iter (qdq n base call b) n s
 | .exit id,s=>some (.exit id,s)
 | .ret,s=>some (.ret,s)
 | .rfun f ps asg body,s=>
  match evF s.t f with
  | .fn g first cap=>
   match call (.fn g first cap) [.yld s.h.length] (s.h ++ [.loop (s.t.map qd.dim) ps asg body .ready none]) with
   | some (.ret _,h,e)=>
    match h[s.h.length]? with
    | some (.loop t a1 Y I st pend)=>
     if st = .busy then none else
     let s':St:={ s with h:=h.set s.h.length (.loop t a1 Y I .exhausted pend),e:=s.e || e}
     match pend with
     | none=>some (.nor,s')
     | some .ret=>some (.ret,s')
     | some (.exit id)=>some (.exit id,s')
    | _=>none
   | some (.pan v,h,e)=>some (.pan v,{ s with h,e:=s.e || e})
   | none=>none
  | _=>none
noncomputable def qfa (s:St):List qnf->Option (List qd)
 | []=>some []
 | .tmp i :: rs=>match qfa s rs with
  | some vs=>some (qF9 (qvv s.t (.t i)) :: vs)
  | none=>none
 | .cell a k :: rs=>
  match qel s.h (qvv s.t (.t a)) k,qfa s rs with
  | some v,some vs=>some (v :: vs)
  | _,_=>none
noncomputable def quq (n:Nat) (call:Call) (l:Nat) (args:List qd) (h:List qj):Option (qdm×List qj×Bool):=
 match h[l]? with
 | some (.loop t ps asg body _ _)=>
  if args.length ≠ ps.length then none else
  let base:=h.length
  match qdq n base call asg ⟨qky t ps (args.map qd.dim),h,false⟩ with
  | some (.nor,s)=>
   match s.h[l]? with
   | some (.loop t1 ps1 asg1 body1 .ready pend)=>
    match qdq n base call body { s with h:=s.h.set l (.loop t1 ps1 asg1 body1 .busy pend)} with
    | some (x,s)=>
     match s.h[l]? with
     | some (.loop t2 ps2 asg2 body2 _ _)=>
      match x with
      | .nor=>some (leave base (.ret (.bool true)) (s.h.set l (.loop t2 ps2 asg2 body2 .ready none)) s.e)
      | .ret=>some (leave base (.ret (.bool false)) (s.h.set l (.loop t2 ps2 asg2 body2 .done (some .ret))) s.e)
      | .exit id=>some (leave base (.ret (.bool false)) (s.h.set l (.loop t2 ps2 asg2 body2 .done (some (.exit id)))) s.e)
      | .pan _=>none
     | _=>none
    | none=>none
   | _=>none
  | _=>none
 | _=>none
noncomputable def qCj (F:FuncId->Option qt) (X:qlW):Nat->Call
 | 0=>λ_ _ _=>none
 | n + 1=>λfv args h=>
  match fv with
  | .fn f first cap=>
   match X f with
   | some g=>g (qCj F X n) (first ++ args ++ cap) h
   | none=>
    match F f with
    | none=>none
    | some fn=>
     let aS:=(first ++ args ++ cap).map qd.dim
     match qdq n h.length (qCj F X n) fn.code ⟨aS ++ List.replicate (fn.ntmps - aS.length) (.tup []),h,false⟩ with
     | some (.nor,s) | some (.ret,s)=>
      match qfa s fn.results with
      | some vs=>some (leave h.length (.ret (qbv vs)) s.h s.e)
      | none=>none
     | some (.pan v,s)=>some (leave h.length (.pan v) s.h s.e)
     | _=>none
  | .yld l=>quq n (qCj F X n) l args h
  | _=>none
theorem qra:qgY = bound:=by
 funext t x d
 cases x <;> simp only [qgY,bound,qhR] <;> rfl
theorem qui:quh = pureV:=by
 funext t o
 cases o <;> simp only [quh,pureV,qhR,qra] <;> first | rfl | (cases ‹Bool› <;> rfl)
theorem qoe (t:List qd) (i:Nat):raw t (.t i) = t.getD i .undef:=rfl
theorem qu1:qu0 = qeQ:=by
 funext k p x s
 cases x <;> simp only [qu0,qeQ,qgN,qoe,qhR] <;> rfl
theorem qlF:qof = qA:=by
 funext base call p dst o s
 cases o <;> simp only [qof,qA,qgN,qhR,qm1,qmt,qu1,qui] <;> rfl
theorem qjB:qkr = wanted:=by
 funext t g
 cases g <;> simp only [qkr,wanted,qgN,qoe] <;> rfl
theorem qjv (base:Nat) (call:Call):∀(os:List qam) (p:qcD) (s:St),qiq base call p os s = qaO base call p os s
 | [],_,_=>rfl
 | o :: os,p,s=>by
  simp only [qiq,qaO,qjB,qlF,qm1,qjv base call os]
  rfl
theorem qrn:qrm = qfW:=by
 funext s o
 cases o <;> simp only [qrm,qfW,qhR] <;> rfl
theorem qfM (base:Nat) (call:Call) (dsts:List Nat):∀(ds:List qR) (pend:List (Nat×Chk)) (s:St),qcp base call dsts ds pend s = qW base call dsts ds pend s
 | [],_,_=>rfl
 | d :: ds,pend,s=>by
  simp only [qcp,qW,qjB,qlF,qm1,qrn,qfM base call dsts ds]
  rfl
theorem qdb (n base:Nat) (call:Call):∀(c:qF),qdq n base call c = qaV n base call c
 | .skip=>by funext s;simp only [qdq,qaV] <;> rfl
 | .reg ops=>by funext s;simp only [qdq,qaV,qjv] <;> rfl
 | .draw ops=>by funext s;simp only [qdq,qaV,qfM] <;> rfl
 | .draw2 c a b r=>by funext s;simp only [qdq,qaV,qfM] <;> rfl
 | .seq a b=>by funext s;simp only [qdq,qaV,qdb n base call a,qdb n base call b] <;> rfl
 | .cond c a b=>by funext s;simp only [qdq,qaV,qhR,qdb n base call a,qdb n base call b] <;> rfl
 | .block id b=>by funext s;simp only [qdq,qaV,qdb n base call b] <;> rfl
 | .loop b=>by funext s;simp only [qdq,qaV,qdb n base call b] <;> rfl
 | .rfun f ps asg body=>by funext s;simp only [qdq,qaV,qhR] <;> rfl
 | .exit id=>by funext s;simp only [qdq,qaV] <;> rfl
 | .ret=>by funext s;simp only [qdq,qaV] <;> rfl
theorem qfL (s:St):∀rs:List qnf,qfa s rs = qat s rs
 | []=>rfl
 | .tmp i :: rs=>by simp only [qfa,qat,qfL s rs,qgN,qoe,qrH] <;> rfl
 | .cell a k :: rs=>by simp only [qfa,qat,qfL s rs,qgN,qoe] <;> rfl
theorem qur (n:Nat) (call:Call):quq n call = round n call:=by
 funext l args h
 simp only [quq,round,qdb] <;> rfl
theorem quv (F:FuncId->Option qt) (X:qlW):∀n:Nat,qCj F X n = run F X n
 | 0=>rfl
 | n + 1=>by
  funext fv args h
  simp only [qCj,run,quv F X n,qdb,qfL,qur] <;> rfl
theorem qk9 (c b:Bool) (d:Option Nat) (s:St) (r:Option qd) (k:St->Option (Ex×St)):qi5 (.bool c) b d s r k = qa9 (c == b) d s r k:=Eq.trans rfl rfl
theorem qmF (b:Bool) (d:Option Nat) (s:St) (r:Option qd) (k:St->Option (Ex×St)):qi5 (.tup []) b d s r k = qa9 false d s r k:=Eq.trans rfl rfl
theorem qla (d:Option Nat) (t:List qd) (h:List qj) (e:Bool) (v:qd) (k:St->Option (Ex×St)):qa9 true d ⟨t,h,e⟩ (some v) k = k ⟨put d v t,h,e⟩:=Eq.trans rfl rfl
theorem qjY (d:Option Nat) (t:List qd) (h:List qj) (e:Bool) (r:Option qd) (k:St->Option (Ex×St)):qa9 false d ⟨t,h,e⟩ r k = k ⟨put d (.tup []) t,h,e⟩:=Eq.trans rfl rfl
theorem qpr (d:Option Nat) (t:List qd) (h:List qj) (e:Bool) (r:Option (Ex×St)) (k:St->Option (Ex×St)):qhY (.bool true) false d ⟨t,h,e⟩ r k = k ⟨put d (.tup []) t,h,e⟩:=Eq.trans rfl rfl
theorem qpp (d:Option Nat) (t:List qd) (h:List qj) (e:Bool) (r:Option (Ex×St)) (k:St->Option (Ex×St)):qhY (.bool false) true d ⟨t,h,e⟩ r k = k ⟨put d (.tup []) t,h,e⟩:=Eq.trans rfl rfl
theorem qmE (b:Bool) (d:Option Nat) (t:List qd) (h:List qj) (e:Bool) (r:Option (Ex×St)) (k:St->Option (Ex×St)):qhY (.tup []) b d ⟨t,h,e⟩ r k = k ⟨put d (.tup []) t,h,e⟩:=Eq.trans rfl rfl
section
variable {base:Nat} {call:Call} {p:qcD} {s:St}
theorem qqu (f:St->Option (Ex×St)) (s:St):qb8 f (some (.nor,s)) = f s:=Eq.trans rfl rfl
end
theorem qmg (a b:Option (Ex×St)):qz7 (.bool true) a b = a:=Eq.trans rfl rfl
theorem qkQ (a b:Option (Ex×St)):qz7 (.bool false) a b = b:=Eq.trans rfl rfl
theorem qFT (d:Nat) (o:AOp):ao d o = ⟨some d,o,none⟩:=Eq.trans rfl rfl
theorem qFQ (d:Nat) (o:AOp) (j:Nat) (b:Bool):ag d o j b = ⟨some d,o,some (j,b)⟩:=Eq.trans rfl rfl
theorem qFS (o:AOp):an o = ⟨none,o,none⟩:=Eq.trans rfl rfl
theorem quP (cs:List qd) (o:Nat) (vs:List qd):splice cs o vs = cs.take o ++ vs ++ cs.drop (o + vs.length):=Eq.trans rfl rfl
theorem qLw (d i:Nat):mv d i=⟨some d,.mov (.t i),none⟩:=Eq.trans rfl rfl
theorem qLD (d i:Nat):sg d i=⟨some d,.asg (.t i),none⟩:=Eq.trans rfl rfl
theorem qJY (d k i:Nat):fA d k i=⟨some d,.fa k (.t i),none⟩:=Eq.trans rfl rfl
theorem qIk (d i:Nat):ldn d i=⟨some d,.ld none (.t i),none⟩:=Eq.trans rfl rfl
theorem qIl (d k i:Nat):lds d k i=⟨some d,.ld (some k) (.t i),none⟩:=Eq.trans rfl rfl
theorem qIN (k i j:Nat):sts k i j=⟨none,.st (some k) (.t i) (.t j),none⟩:=Eq.trans rfl rfl
theorem qIM (i j:Nat):stn i j=⟨none,.st none (.t i) (.t j),none⟩:=Eq.trans rfl rfl
theorem qIW (d i k:Nat):xtt d i k=⟨some d,.ext (.t i) k,none⟩:=Eq.trans rfl rfl
theorem qIt (d i:Nat):nlc d i=⟨some d,.nilc (.t i),none⟩:=Eq.trans rfl rfl
theorem qIV (d k i j:Nat):xlL d k i j=⟨some d,.ixaL k (.t i) (.t j),none⟩:=Eq.trans rfl rfl
theorem qIs (d i:Nat):lnn d i=⟨some d,.len false (.t i),none⟩:=Eq.trans rfl rfl
theorem qJ4 (n:Int):kI n=.c (.int .i64 n):=Eq.trans rfl rfl
theorem qJ3 (n:Nat):kF n=.c (.fn n [] []):=Eq.trans rfl rfl
theorem qJ5:kO=.c (.bool false):=Eq.trans rfl rfl
theorem qJ6:kU=.c (.bool true):=Eq.trans rfl rfl
theorem qLx:nL=.lst [] .full:=Eq.trans rfl rfl
theorem qLJ:zZ=.int .i64 0:=Eq.trans rfl rfl
theorem qLI:zS=.str []:=Eq.trans rfl rfl
theorem qGc (d i:Nat) (n:Int):eqk d i n=⟨some d,.bin .eql (.t i) (.c (.int .i64 n)),none⟩:=Eq.trans rfl rfl
theorem qFX (d:Nat) (o:BinOp) (i:Nat) (n:Int):bnk d o i n=⟨some d,.bin o (.t i) (.c (.int .i64 n)),none⟩:=Eq.trans rfl rfl
theorem qFY (d:Nat) (o:BinOp) (i j:Nat):bnt d o i j=⟨some d,.bin o (.t i) (.t j),none⟩:=Eq.trans rfl rfl
theorem qIL (d:Nat) (n:Int):sgk d n=⟨some d,.asg (.c (.int .i64 n)),none⟩:=Eq.trans rfl rfl
theorem qIJ (d:Nat):sgO d=⟨some d,.asg (.c (.bool false)),none⟩:=Eq.trans rfl rfl
theorem qIK (d:Nat):sgU d=⟨some d,.asg (.c (.bool true)),none⟩:=Eq.trans rfl rfl
theorem qF5 (d f i:Nat):clA d f i=⟨some d,.call (.c (.fn f [] [])) [.t i],none⟩:=Eq.trans rfl rfl
theorem qF6 (d f i j:Nat):clB d f i j=⟨some d,.call (.c (.fn f [] [])) [.t i,.t j],none⟩:=Eq.trans rfl rfl
theorem qIz (d i j:Nat):pkO d i j=⟨some d,.pick (.t i) (.t j) (.c (.bool false)),none⟩:=Eq.trans rfl rfl
theorem qIA (d i j:Nat):pkU d i j=⟨some d,.pick (.t i) (.c (.bool true)) (.t j),none⟩:=Eq.trans rfl rfl
theorem qFZ (d k i:Nat):bxx d k i=⟨some d,.box k (.t i),none⟩:=Eq.trans rfl rfl
theorem qIw (d i:Nat):ntt d i=⟨some d,.un .not (.t i),none⟩:=Eq.trans rfl rfl
theorem qGo (d i j:Nat) (b:Bool):gmv d i j b=⟨some d,.mov (.t i),some (j,b)⟩:=Eq.trans rfl rfl
theorem qGk (d k i j:Nat) (b:Bool):gfA d k i j b=⟨some d,.fa k (.t i),some (j,b)⟩:=Eq.trans rfl rfl
theorem qGl (d i j:Nat) (b:Bool):gld d i j b=⟨some d,.ld none (.t i),some (j,b)⟩:=Eq.trans rfl rfl
theorem qGn (d k i j:Nat) (b:Bool):gls d k i j b=⟨some d,.ld (some k) (.t i),some (j,b)⟩:=Eq.trans rfl rfl
theorem qGm (d i j:Nat) (b:Bool):gln d i j b=⟨some d,.len false (.t i),some (j,b)⟩:=Eq.trans rfl rfl
theorem qGh (d:Nat) (o:BinOp) (i:Nat) (n:Int) (j:Nat) (b:Bool):gbk d o i n j b=⟨some d,.bin o (.t i) (.c (.int .i64 n)),some (j,b)⟩:=Eq.trans rfl rfl
theorem qGi (d:Nat) (o:BinOp) (i i2 j:Nat) (b:Bool):gbt d o i i2 j b=⟨some d,.bin o (.t i) (.t i2),some (j,b)⟩:=Eq.trans rfl rfl
theorem qJU (i:Nat) (a b:qF):cT i a b=.cond (.t i) a b:=Eq.trans rfl rfl
theorem qLC (l:List qam) (c:qF):sR l c=.seq (.reg l) c:=Eq.trans rfl rfl
def sT:=PLift.up (qq (qq (qq (qq (qq (qq (qq (qq @qsc @qo8) (qq @qwA @qo7)) (qq (qq @qsb @qmx) (qq @qIF (qq @qo6 @qwh)))) (qq (qq (qq @qwf @qo0) (qq @qAk @qwg)) (qq (qq @qw4 @qrU) (qq @qrV (qq @qpb @qmB))))) (qq (qq (qq (qq @qvY @qro) (qq @qCO @qz5)) (qq (qq @qq4 @qq2) (qq @qte (qq @qmO @qpI)))) (qq (qq (qq @qpJ @qtb) (qq @qw8 @qw7)) (qq (qq @qpH @qtc) (qq @qtd (qq @qt7 @qwl)))))) (qq (qq (qq (qq (qq @qsV @qqa) (qq @qpx @qmI)) (qq (qq @qrZ @qpv) (qq @qxE (qq @qAo @qwS)))) (qq (qq (qq @qpw @qt2) (qq @qsK @qt3)) (qq (qq @qsM @qsN) (qq @qxF (qq @qwV @qsU))))) (qq (qq (qq (qq @qt6 @qsT) (qq @qqb @qpy)) (qq (qq @qxC @qAm) (qq @qwR (qq @qpu @qpt)))) (qq (qq (qq @qt4 @qsR) (qq @qsQ (qq @qsP @qsO))) (qq (qq @qt5 @qsS) (qq @qwT (qq @qsY @qwk))))))) (qq (qq (qq (qq (qq (qq @qsJ @qsW) (qq @qsL @qAp)) (qq (qq @qwU @qp9) (qq @qrY (qq @qps @qwj)))) (qq (qq (qq @qsI @qsX) (qq @qIC @qEv)) (qq (qq @qBs @qBr) (qq @qEj (qq @qEb @qtW))))) (qq (qq (qq (qq @qEf @qy4) (qq @qEm @qtV)) (qq (qq @qza @qtU) (qq @qEk (qq @qEg @qIx)))) (qq (qq (qq @qy7 @qBg) (qq @qxu (qq @qBi @qEc))) (qq (qq @qzT @qzb) (qq @qxj (qq @qxk @qEh)))))) (qq (qq (qq (qq (qq @qy9 @qy8) (qq @qy6 @qwD)) (qq (qq @qr8 @qy5) (qq @qv1 (qq @qv2 @qEi)))) (qq (qq (qq @qD5 @qA1) (qq @qEl @qp4)) (qq (qq @qrd @qrc) (qq @qki (qq @qxQ @qqu))))) (qq (qq (qq (qq @qu5 @qqt) (qq @qu4 @qoK)) (qq (qq @qoM @qoL) (qq @qma (qq @qmg @qkQ)))) (qq (qq (qq @qtC @qtD) (qq @qJX (qq @qJW @qIE))) (qq (qq @qID @qge) (qq @qAV (qq @qAW @qtp)))))))) (qq (qq (qq (qq (qq (qq (qq @qto @qrT) (qq @qrS @qoX)) (qq (qq @qrN @qrQ) (qq @qkW (qq @qrP @qoZ)))) (qq (qq (qq @qrL @qrR) (qq @qwb @qwc)) (qq (qq @qoY @qrO) (qq @qms (qq @qrM @qv8))))) (qq (qq (qq (qq @qAh @qmq) (qq @qmp @qwa)) (qq (qq @qAg @qmr) (qq @qrI (qq @qrK @qoW)))) (qq (qq (qq @qmn @qkU) (qq @qrJ (qq @qAj @qCU))) (qq (qq @qv9 @qAi) (qq @qCT (qq @qi4 @qaM)))))) (qq (qq (qq (qq (qq @qcT @qBG) (qq @qgo @qeA)) (qq (qq @qcy @qBF) (qq @qsr (qq @quJ @qcd)))) (qq (qq (qq @qre @qrf) (qq @qri @qoR)) (qq (qq @qrg @qrh) (qq @qkO (qq @qvV @qiK))))) (qq (qq (qq (qq @qme @qrj) (qq @qv0 @qs4)) (qq (qq @qw3 @qs5) (qq @quk (qq @qul @qBJ)))) (qq (qq (qq @quQ @qyc) (qq @qyf (qq @quS @qyd))) (qq (qq @qye @qBM) (qq @qpQ (qq @qtr @qtt))))))) (qq (qq (qq (qq (qq (qq @qts @qmQ) (qq @qtq @qtu)) (qq (qq @qpO @qd0) (qq @qya (qq @qAx @qwE)))) (qq (qq (qq @qtL @qpW) (qq @qw6 @qw5)) (qq (qq @qwF @qum) (qq @qnv (qq @qzL @qzS))))) (qq (qq (qq (qq @qzM @qzR) (qq @qzQ @qzP)) (qq (qq @qzO @qzN) (qq @qBO (qq @qBP @qBS)))) (qq (qq (qq @qBR @qBQ) (qq @qEU (qq @qEV @qp7))) (qq (qq @qmX @qxB) (qq @qBl (qq @qk9 @qmF)))))) (qq (qq (qq (qq (qq @qsD @qla) (qq @qjY @qmG)) (qq (qq @qGr @qDm) (qq @qFV (qq @qAO @qDl)))) (qq (qq (qq @qAM @qDk) (qq @qAL @qAN)) (qq (qq @qwP @qsp) (qq @qGp (qq @qpq @qpr))))) (qq (qq (qq (qq @qpp @qmE) (qq @qAP @qwY)) (qq (qq @qjP @qjQ) (qq @qwt (qq @qr6 @qBw)))) (qq (qq (qq @qBx @qxV) (qq @qoS (qq @qp1 @qp0))) (qq (qq @qp2 @qs9) (qq @qpG (qq @qs8 @qpF)))))))))
def sC:=PLift.up (qq (qq (qq (qq (qq @List.nil_append.{0} (qq @List.append_nil.{0} @List.map_cons.{0,0})) (qq (qq @List.map_nil.{0,0} @List.length_cons.{0}) (qq @List.length_nil.{0} @List.cons_append.{0}))) (qq (qq (qq (qq (qq (qq (qq (qq (qq (qq (qq (qq (qq (qq (qq (qq (qq (qq (qq (qq (qq (qq (qq (qq (qq (qq (qq (qq (qq (qq (qq (qq (qq (qq (qq (qq (qq (qq (qq (qq (qq @qFT @qLw) @qLD) @qJY) @qIk) @qIl) @qIN) @qIM) @qIW) @qIt) @qIV) @qIs) @qJ4) @qJ3) @qJ5) @qJ6) @qLx) @qLJ) @qLI) @qGc) @qFX) @qFY) @qIL) @qIJ) @qIK) @qF5) @qF6) @qIz) @qIA) @qFZ) @qIw) @qGo) @qGk) @qGl) @qGn) @qGm) @qGh) @qGi) @qJU) @qLC) (qq @qFQ @qFS)) (qq (qq @Option.map_some.{0,0} @ne_eq.{1}) (qq @not_false_eq_true @List.length_set.{0})))) (qq (qq (qq @List.length_replicate.{0} (qq @Bool.or_false @Bool.or_true)) (qq (qq @Bool.false_or @Bool.true_or) (qq @Bool.and_true @Bool.and_false))) (qq (qq (qq @Bool.true_and @Bool.false_and) (qq @Bool.not_true @Bool.not_false)) (qq (qq @eq_self.{1} @List.getElem?_cons_zero.{0}) (qq @List.getElem?_cons_succ.{0} @List.set_cons_zero.{0}))))) (qq (qq (qq (qq @List.set_cons_succ.{0} (qq @List.append_assoc.{0} @List.length_append.{0})) (qq (qq @quP @List.take_zero.{0}) (qq @List.drop_zero.{0} @List.take_succ_cons.{0}))) (qq (qq (qq @List.drop_succ_cons.{0} @List.drop_nil.{0}) (qq @List.take_nil.{0} @List.all_cons.{0})) (qq (qq @List.all_nil.{0} @Option.getD_some.{0}) (qq @Option.getD_none.{0} @and_self)))) (qq (qq (qq @if_true.{1} (qq @if_false.{1} @Nat.le_refl)) (qq (qq @Nat.ble_self_eq_true @Nat.zero_add) (qq @Nat.add_zero @beq_self_eq_true.{0}))) (qq (qq (qq @Bool.false_eq_true @bne_self_eq_false.{0}) (qq @List.isEmpty_nil.{0} @List.isEmpty_cons.{0})) (qq (qq @cond_true.{1} @cond_false.{1}) (qq @List.filterMap_cons.{0,0} @List.filterMap_nil.{0,0}))))))
def sTA:=PLift.up (qq (qq (qq (qq @qBv @qBj) (qq @qn5 (qq @qEa @qyi))) (qq (qq @qyj @qzH) (qq @qvI (qq @qCB @qqW)))) (qq (qq (qq @qBY @qym) (qq @quY (qq @qqq @quZ))) (qq (qq @quX (qq @qnc @quW)) (qq @qBI (qq @qxO @qBp)))))
def sCA:=PLift.up (qq (qq @List.filter_cons.{0} @List.filter_nil.{0}) (qq @List.find?_cons.{0} @List.find?_nil.{0}))
section
variable {base:Nat} {call:Call} {p:qcD} {s:St} {t:List qd} {h:List qj}
def hxW (d:Option Nat) (s:St):Option (qd×List qj×Bool)->Option (Ex×St)
 | some (v,h,e)=>some (.nor,{ t:=put d v.dim s.t,h,e:=s.e || e})
 | none=>none
theorem qcl (d:Option Nat) (t:List qd) (h h':List qj) (e e':Bool) (v:qd):hxW d ⟨t,h,e⟩ (some (v,h',e')) = some (.nor,⟨put d v.dim t,h',e || e'⟩):=rfl
theorem qiQ (d:Option Nat) (o:HOp) (aS:List qB):qA base call p d (.hx o aS) s = hxW d s (hop base o (aS.map (ev s.t)) s.h):=by
 simp only [qA]
 cases hop base o (aS.map (ev s.t)) s.h with
 | none=>rfl
 | some r=>rfl
theorem qxD (o:HOp) (aS:List qB):(AOp.hx o aS).plain = false:=Eq.trans rfl rfl
theorem qAn (o:HOp) (aS:List qB):(AOp.hx o aS).effs = true:=Eq.trans rfl rfl
theorem qcm (o:HOp) (aS:List qB):(AOp.hx o aS).isApp = false:=Eq.trans rfl rfl
theorem qta (id o len cap more:Nat):qqG false (.sl id o len cap more) = some (.int .i64 len):=rfl
theorem qc9 (id o len cap more:Nat):(qd.sl id o len cap more).dim = .sl id o len cap more:=rfl
theorem qeY (id o len cap more i:Nat) (t:List qd):qbL (.sl id o len cap more) i t = t:=rfl
theorem qBN (id o len cap more:Nat):(qd.sl id o len cap more).storable = true:=Eq.trans rfl rfl
theorem qvW (id o len cap more:Nat):(qd.sl id o len cap more).cells = [.sl id o len cap more]:=rfl
theorem qxf (n id o len cap more:Nat):(qd.sl id o len cap more).lower n = Nat.blt id n:=Eq.trans rfl rfl
theorem qs1 (k id o len cap more:Nat) (j:IntKind) (n:Int):qi9 k (.sl id o len cap more) (.int j n) = if 0 <= n/\n < len then some (.ptr id (o + n.toNat * k)) else none:=rfl
end
section
variable {P:Program} {gl:Nat->Option (List qd)}
noncomputable def cellsOf (W:World):Nat->Nat->Option Value:=λb o=>qmf (W.cell? ⟨b,o,none⟩)
def qwW (P:Program) (t:TypeId):Bool:=
 match P.underlying t with
 | some (.struct _)=>true
 | _=>false
def el (P:Program) (t:TypeId) (cs:List qd):qd:=bif qwW P t then .agg cs else cs.headD .undef
end
theorem zk {p:Prop} (h:p := by kernel_rfl):p:=h
theorem Y0 {p:Prop} (h:p := by simp only [sT.1,sC.1,seval,-Int.reduceNatCast']):p:=h
theorem Y1 {p:Prop} (h:p := by simp only [qge,ht]):p:=h
theorem Y2 {p:Prop} (h:p := by simp only [sT.1,sC.1,seval,-Int.reduceNatCast',e0]):p:=h
theorem Y3 {p:Prop} (h:p := by simp only [sT.1,sC.1,seval,-Int.reduceNatCast',e2]):p:=h
theorem Y4 {p:Prop} (h:p := by simp only [sT.1,sC.1,seval,-Int.reduceNatCast',e3]):p:=h
theorem y5 {p:Prop} (h:p := by simp only [sT.1,sC.1,seval,-Int.reduceNatCast',Int.natCast_zero]):p:=h
theorem v6 {p:Prop} (h:p := by simp only [sT.1,sC.1,seval,-Int.reduceNatCast',e11]):p:=h
end Go.AE
