/- A part of the proof. No condition. -/
import Derived.Test.YtcbfifamliijlaaGreatDoorMb1
import Derived.RecoverIn
import Derived.OpenShut
import Derived.LaidLaws
import Derived.ChangeArms
import Derived.Lib.AtoiAll
import Derived.Lib.Bytealg
import Derived.Lib.ItoaNum
import Derived.Lib.Join
import Derived.Test.YtcbfifamliijlaaGreatDoorMb0
import Derived.WideKeyArgs
set_option maxRecDepth 100000
open List renaming getElem?_append_left→ja,getElem?_append_right→jc,getElem?_eq_some_iff→jd,mem_cons_self→jE,getElem?_set_ne→jf,getElem?_eq_getElem→jh,length_map→jQ,append_nil→jF,map_map→jG,mem_append→jH,mem_cons_of_mem→jI,getElem?_eq_none→jq,getElem?_map→jr,getElem?_cons_zero→jx,length_cons→jy,length_nil→jz,ext_getElem?→jO,mem_map→jP
open Option.some renaming injEq→jj
open Bool renaming and_eq_true→jk,false_eq_true→jl
open Nat renaming le_refl→jm,le_trans→jn,add_assoc→jt,add_comm→ju,zero_add→jR
open Option renaming map_some→jJ
open Array renaming getElem?_eq_none→jK
namespace Go.AE
section
variable {P:Program} {gl:Nat->Option (List qd)}
theorem qlS {call:AE.Call} (hk:qM call) {n base:Nat} {d:qcZ} {v:qd} {cv:List qd} {s s':St} {x:Ex} (hb:base <= s.h.length) (h:qfc n call d v cv s = some (x,s')):qax base s s':=by
 unfold qfc at h
 split at h
 ·rename_i s1 h1
  have k1:=qdc (base:=s.h.length) hk d.ops [] ⟨_,s.h,false⟩ s1 _ (jm _) h1
  have key:∀x2 s2,qaX n s.h.length call d.code s1 = some (x2,s2)->qax base s { s with h:=s2.h,e:=s.e || s2.e}:=by
   intro x2 s2 h2
   have k2:=qH (base:=s.h.length) hk n d.code s1 s2 _ k1.1 h2
   have k:=k1.trans k2
   refine ⟨k.1,λhe=>?_⟩
   simp only [Bool.or_eq_false_iff] at he
   exact ⟨he.1,(k.2 he.2).2.lower hb⟩
  split at h
  ·rename_i s2 h2;cases h;exact key _ _ h2
  ·rename_i s2 h2;cases h;exact key _ _ h2
  ·cases h
 ·cases h
theorem qcQ {call:AE.Call} (hk:qM call) {n base:Nat} {d:qcZ}:∀(b:qek) (s s':St) (x:Ex),base <= s.h.length->qds n base call d b s = some (x,s')->qax base s s'
 | .pre a r,s,s',x,hb,h=>by
  simp only [qds] at h
  split at h
  ·rename_i s1 h1
   have k1:=qH (base:=base) hk n a s s1 _ hb h1
   exact k1.trans (qcQ hk r s1 s' x (jn hb k1.1) h)
  ·cases h
  ·exact qH (base:=base) hk n a s s' x hb h
 | .dfr f E slot rest,s,s',x,hb,h=>by
  simp only [qds] at h
  split at h
  ·rename_i g cv I
   split at h
   ·have k0:qax base s { s with t:=put (some slot) (.fn f [] (E.map (ev s.t))) s.t}:=⟨jm _,λh=>⟨h,qW.refl _ _⟩⟩
    have key:∀x1 s1,qaX n base call rest { s with t:=put (some slot) (.fn f [] (E.map (ev s.t))) s.t} = some (x1,s1)->∀v,qfc n call d v cv s1 = some (x,s')->qax base s s':=by
     intro x1 s1 h1 v h2
     have k1:=qH (base:=base) hk n rest { s with t:=put (some slot) (.fn f [] (E.map (ev s.t))) s.t} s1 _ hb h1
     exact k0.trans (k1.trans (qlS hk (jn hb k1.1) h2))
    split at h
    ·rename_i s1 h1;exact key _ _ h1 _ h
    ·rename_i s1 h1;exact key _ _ h1 _ h
    ·rename_i s1 h1;exact key _ _ h1 _ h
    ·cases h
   ·cases h
  ·cases h
theorem qdL {n:Nat} {g:qjh} {call:AE.Call} (hk:qM call):qM λ_ aS h=>qer n g call aS h:=by
 intro fv aS h r h' e' hr
 simp only [qer] at hr
 split at hr
 ·rename_i s h1
  have k:=qcQ (base:=h.length) hk g.body ⟨_,h,false⟩ s _ (jm _) h1
  split at hr
  ·rename_i vs E
   have:=qa3 (r:=.ret (qbr vs)) (h:=h) ⟨k.1,λhe=>(k.2 he).2⟩
   rw [Option.some.inj hr] at this
   exact this
  ·cases hr
 ·rename_i s h1
  have k:=qcQ (base:=h.length) hk g.body ⟨_,h,false⟩ s _ (jm _) h1
  split at hr
  ·rename_i vs E
   have:=qa3 (r:=.ret (qbr vs)) (h:=h) ⟨k.1,λhe=>(k.2 he).2⟩
   rw [Option.some.inj hr] at this
   exact this
  ·cases hr
 ·rename_i v s h1
  have k:=qcQ (base:=h.length) hk g.body ⟨_,h,false⟩ s _ (jm _) h1
  have:=qa3 (r:=.pan v) (h:=h) ⟨k.1,λhe=>(k.2 he).2⟩
  rw [Option.some.inj hr] at this
  exact this
 ·cases hr
theorem qzm {a:Code} {f:FuncId} {E:List qB} {t:Nat} (h:qlT gl a = some (f,E,t)) :
  ∃id ops o0 o1 a0 cs c,a = .region id ops false/\ops = #[o0,o1]/\o0.op = .makeFunc (.func f) a0 cs/\a0 = #[]/\o0.dst = some t/\o0.guard = none/\o1.op = .defer c/\c.callee = .value (.tmp t)/\c.args = #[]/\o1.dst = none/\o1.guard = none/\quR gl cs = some E:=by
 unfold qlT at h
 split at h
 ·rename_i id ops
  split at h
  ·rename_i o0 o1 I
   unfold qq4 at h
   split at h
   ·rename_i f' a0 cs a1
    split at h
    ·rename_i c Y
     split at h
     ·rename_i t' hcal
      split at h
      ·rename_i hc
       obtain ⟨c1,c2,c3,c4,c5,c6⟩:=hc
       obtain ⟨a6,U,he⟩:=qck h
       cases he
       exact ⟨id,ops,o0,o1,a0,cs,c,rfl,by apply Array.ext';simpa using I,a1,c5,c1,c2,Y,hcal,c6,c3,c4,U⟩
      ·cases h
     ·cases h
    ·cases h
   ·cases h
  ·cases h
 ·cases h
structure qEA (P:Program) (gl:Nat->Option (List qd)) (df:Func) (d:qcZ):Prop where
 ex:∃id ops o0 os c,df.body = some (.seq (.region id ops false) c)/\ops.toList = o0 :: os/\(∃cl,o0.op = .call cl/\cl.callee = .builtin .recover/\cl.args = #[])/\o0.dst = some d.k/\o0.guard = none/\os.mapM (qch P gl ops) = some d.ops/\
  comp P gl c = some d.code/\(∀o ∈ d.ops,o.op.calls = false)/\d.code.noRf = true/\df.results = #[]/\df.ntmps = d.ntmps
theorem qqU {df:Func} {d:qcZ} (h:qzh P gl df = some d):qEA P gl df d:=by
 unfold qzh at h
 split at h
 ·rename_i id ops c hb
  split at h
  ·rename_i o0 os E
   split at h
   ·rename_i k Y ac hk I U
    split at h
    ·rename_i hc
     simp only [jk,List.all_eq_true,Bool.not_eq_true',Array.isEmpty_iff] at hc
     cases h
     unfold qDA at hk
     split at hk
     ·rename_i cl ho
      split at hk
      ·rename_i hcal
       split at hk
       ·rename_i hg
        exact ⟨id,ops,o0,os,c,hb,E,⟨cl,ho,hcal,hg.2⟩,hk,hg.1,I,U,hc.1.1,hc.1.2,hc.2,rfl⟩
       ·cases hk
      ·cases hk
     ·cases hk
    ·cases h
   ·cases h
  ·cases h
 ·cases h
theorem qzp {o:Oper} {ao:AOp} {a:Act} {w w':World} {nx:Next} {u:Value} (E:qcy P gl o = some ao) {i:Nat} (I:ao = .mov (.t i)) (h1:(execOp a.eval o).run P w = .ok nx w') (h2:Nx nx u):u = a.tmps.getD i undef:=by
 subst I
 have ho:=(qci E).1 i rfl
 have:(execOp a.eval o).run P w = .ok (.value (a.eval (.tmp i))) w:=by simp [execOp,ho]
 rw [this] at h1
 cases h1
 rcases h2 with h2 | ⟨h2,_⟩
 ·cases h2;rfl
 ·cases h2
theorem qop {G:qg} {w w':World} {h:List qh} {t:List qd} {a:Act} (hc:Cfg P gl G h t a w) {o:Oper} {ao:AOp} {nx:Next} {u:Value} (U:qcy P gl o = some ao) {q:qB} {id off:Nat} (a1:ao = .ld none q) (hq:ev t q = .ptr id off)
  {base:Nat} {call:AE.Call} {p:qcB} {dst:Option Nat} {e:Bool} {x:Ex} {s':St} (I:qz base call p dst ao ⟨t,h,e⟩ = some (x,s')) (h1:(execOp a.eval o).run P w = .ok nx w') (h2:Nx nx u) :
  ∃b,G.γ id = some b/\w.cell? ⟨b,off,none⟩ = some u:=by
 subst a1
 obtain ⟨ty,y,ho,hy,hk⟩:=(qci U).2.1 q rfl
 have hv:=qZ hc.rel hc.tr hy
 rw [hq] at hv
 simp only [qg.V,qA] at hv
 obtain ⟨b,hb,he⟩:=hv
 refine ⟨b,hb,?_⟩
 obtain ⟨g1,_⟩:=qgl hk w
 simp only [qz] at I
 obtain ⟨v,hv,_⟩:=qck I
 rw [hq] at hv
 simp only [qed] at hv
 split at hv
 ·rename_i cs a6
  obtain ⟨c,te,hw,a7,_⟩:=hc.rel.box id b _ hb a6
  simp only [cut] at hv
  obtain ⟨av,a8,_⟩:=qck hv
  obtain ⟨uv,Y,_⟩:=qeq a7 a8
  have E:w.cell? ⟨b,off,none⟩ = some uv:=by
   simp only [Array.getElem?_toList] at Y
   simp [World.cell?,hw,Y]
  have:(execOp a.eval o).run P w = .ok (.value uv) w:=by
   simp only [execOp,ho]
   refine qeh ?_
   simp only [Instr.loadAt,he,Instr.sureAddr,Sem.run_bind,Sem.run_pure,Result.andThen_ok,loadVar,g1,Option.isSome_none,jl,if_false,run_load,E]
  rw [this] at h1
  cases h1
  rcases h2 with h2 | ⟨h2,_⟩
  ·cases h2;exact E
  ·cases h2
 ·cases hv
theorem qpB {ops:Array Oper} {base:Nat} {call:AE.Call} {cs:List Frame} {m:Nat} {x:Ex} {s':St}:∀(l:List Nat) (os:List qac),Lays P gl ops l os->(∀o ∈ os,o.op.calls = false)->
  ∀(G:qg) (w:World) (h:List qh) (t:List qd) (e:Bool) (a:Act) (p:qcB),Cfg P gl G h t a w->qbp G w t a p->qaK base call p os ⟨t,h,e⟩ = some (x,s')->
   x = .nor/\h.length <= s'.h.length/\∀(Q:Exit->Act->List Frame->World->Prop),(∀a' w' G',Ext h.length G w G' w'->Cfg P gl G' s'.h s'.t a' w'->a'.defers = a.defers->Q .normal a' cs w')->wpOpsSIn (FR none) m P ops Q l a cs w:=by
 intro l
 induction l with
 | nil=>
  intro os hl _ G w h t e a p hc hp E
  cases os with
  | cons _ _=>exact hl.elim
  | nil=>
   simp only [qaK] at E
   cases E
   exact ⟨rfl,jm _,λQ hQ=>hQ a w G (Ext.refl _ G w) hc rfl⟩
 | cons i l ih=>
  intro os hl ac G w h t e a p hc hp E
  cases os with
  | nil=>exact hl.elim
  | cons ao os=>
   obtain ⟨⟨o,ho,al⟩,hl⟩:=hl
   simp only [qaK] at E
   split at E
   ·rename_i hw
    obtain ⟨U,I,a1⟩:=qbU hc.tr al hw
    simp only [I] at E
    cases hop:qz base call p o.dst ao.op ⟨t,h,e⟩ with
    | none=>rw [hop] at E;cases E
    | some r=>
     obtain ⟨x1,s1⟩:=r
     have ar:ao.op.calls = false:=ac ao (jE ..)
     obtain ⟨rfl,hd,ae⟩:=qx1 hc hp U ar hop
     rw [hop] at E
     simp only at E
     obtain ⟨nx,u,w',G',h1,h2,am,h3,h4⟩:=hd
     have a6:qbp G' w' s1.t (a.put o.dst u) (qaJ p ao):=by
      have hq:ao.op.effs = false->ao.op.acts = false:=by cases ao.op <;> simp [AOp.effs,AOp.acts]
      have ab:ao.op.effs = false->∀b,b < w.heap.size->w'.heap[b]? = w.heap[b]?:=λY=>am (λa7=>by
       have:=(qci U).2.2.1 a7
       rw [hq Y] at this
       cases this) (λa7=>by
       have:=qr9 U a7
       rw [hq Y] at this
       cases this)
      rw [<-I]
      by_cases Y:ao.op.effs = false
      ·obtain ⟨_,v,hv,_⟩:=qdZ Y hop
       refine hp.next (v:=v) (λ_=>by rw [I];exact hv) h3.gk ab ?_ ?_
       ·intro i ad
        exact qzp U ad h1 h2
       ·intro q id off af ap
        exact qop hc U af ap hop h1 h2
      ·exact hp.next (v:=.undef) (λh=>absurd h Y) h3.gk (λh=>absurd h Y) (λi ad=>by rw [ad] at Y;exact absurd rfl Y) (λq _ _ af _=>by rw [af] at Y;exact absurd rfl Y)
     obtain ⟨r1,r2,r3⟩:=ih os hl (λo ho=>ac o (jI _ ho)) G' w' s1.h s1.t s1.e (a.put o.dst u) (qaJ p ao) h4 a6 E
     refine ⟨r1,jn ae r2,λQ hQ=>?_⟩
     have a8:=r3 Q λa' aa ak he aj ai=>hQ a' aa ak (h3.trans ae he) aj (by rw [ai,qce])
     simp only [wpOpsSIn,ho]
     refine ⟨λ_ _=>trivial,?_⟩
     rw [if_pos a1,h1]
     rcases h2 with rfl | ⟨rfl,rfl⟩
     ·exact a8
     ·exact a8
   ·rename_i hw
    obtain ⟨U,I,a1⟩:=qbU hc.tr al hw
    simp only [I] at E
    have a6:qbp G w (AE.put o.dst (.tup []) t) (a.put o.dst undef) (qaJ p { ao with op:=.pick (.c .undef) (.c .undef) (.c .undef)}):=by
     rw [<-I]
     exact hp.next (o:={ ao with op:=.pick (.c .undef) (.c .undef) (.c .undef)}) (v:=.tup []) (λ_=>rfl) (λ_ _ h=>h) (λ_ _ _=>rfl) (λ_ h=>by cases h) (λ_ _ _ h=>by cases h)
    obtain ⟨r1,r2,r3⟩:=ih os hl (λo ho=>ac o (jI _ ho)) G w h _ e _ _ (qde hc o.dst) (by simpa only [I] using a6) (by simpa only [I] using E)
    refine ⟨r1,r2,λQ hQ=>?_⟩
    simp only [wpOpsSIn,ho]
    refine ⟨λ_ _=>trivial,?_⟩
    rw [if_neg (by rw [a1];simp)]
    exact r3 Q λa' aa ak he aj ai=>hQ a' aa ak he aj (by rw [ai,qce])
   ·cases E
theorem Ext.cellsOnly {n:Nat} {G G':qg} {w w':World} (he:Ext n G w G' w'):Ext n G w G'.cellsOnly w':=
 ⟨he.gk,he.gn,he.ik,he.inew,λb hb=>he.on b λe=>hb (by simp [qg.cellsOnly,e]),he.size,he.heap,he.loops,he.os,he.tape,he.output⟩
def qIg (G:qg) (u:FrameMode) (v:qd):Prop:=(u = .returning/\v = .niliface)\/∃vv,u = .panicking [{ v:=vv,recovered:=false}]/\G.V v vv
theorem qhB (aH:P.follows .mixedOrders = true) {call:AE.Call} (ab:qcM P gl call) (hk:qM call) {f:FuncId} {df:Func} {d:qcZ} (hf:P.funcs[f]? = some df) (hd:qEA P gl df d) {n:Nat} {v:qd} {cv:List qd} {s s':St} {x:Ex}
  (h:qfc n call d v cv s = some (x,s')) {G:qg} {w:World} {a:Act} (hc:Cfg P gl G s.h s.t a w) {vs:Array Value} (ae:G.VL cv vs.toList) {u:FrameMode} (hu:qIg G u v) {m:Nat} {R:Ending->FrameMode->World->Prop}
  (hR:∀r u' G' w',settle u' = .returning->Ext s.h.length G w G' w'->Cfg P gl G' s'.h s'.t a w'->R (.returned r) u' w'):x = .ret/\s'.t = s.t/\CallsDIn (FR none) m P f vs u w R:=by
 obtain ⟨id,ops,o0,os,c,ac,a6,⟨cl,az,ay,av⟩,au,aJ,aE,aN,ak,aC,ai,aG⟩:=hd.ex
 unfold qfc at h
 split at h
 ·rename_i s1 aB
  have am:cv.length = vs.size:=by simpa using ae.length
  obtain ⟨aD,aQ⟩:=hc.rel.cellsOnly
  let a0:Act:={ tmps:=vs ++ Array.replicate (df.ntmps - vs.size) undef,defers:=[]}
  have aP:Cfg P gl G.cellsOnly s.h (cv.map qd.dim ++ List.replicate (d.ntmps - cv.length) (.tup [])) a0 w:=by
   refine ⟨aD,qaE.start ?_ λz hz=>?_⟩
   ·simp only [a0,Array.toList_append,Array.toList_replicate]
    refine qk.append ae.dims ?_
    rw [aG,am]
    exact qk.replicate _ (by simp [qA,qk,undef])
   ·rcases jH.1 hz with hz | hz
    ·obtain ⟨q,_,rfl⟩:=jP.1 hz;exact qbg q
    ·rw [(List.mem_replicate.1 hz).2];rfl
  have body:∀(I:List Frame) (vv:Value) (E:Frame) (cs:List Frame) (u':FrameMode),G.V v vv->I = { E with mode:=u'} :: cs->settle u' = .returning->
    x = .ret/\s'.t = s.t/\wpOpsSIn (FR none) m P ops (Exit.thenS (c.wpSIn (FR none) m P (bodyPostS P df E cs R)) (bodyPostS P df E cs R)) (List.range' 1 os.length) (a0.put (some d.k) vv) I w:=by
   intro I vv E cs u' a8 aM af
   have aO:=aP.put (some d.k) (x:=v.dim) (v:=vv) (qcu a8) (qbg v)
   have hl:=qex os 1 d.ops (λj=>by
    have:ops[1 + j]? = ops.toList[1 + j]?:=by simp
    rw [this,a6,ju]
    simp) aE
   obtain ⟨_,r2,r3⟩:=qpB (cs:=I) (m:=m) _ d.ops hl ak G.cellsOnly w s.h _ false (a0.put (some d.k) vv) [] aO qbp.nil aB
   have key:∀x2 s2,qaX n s.h.length call d.code s1 = some (x2,s2)->(x2 = .nor\/x2 = .ret)->some (Ex.ret,({ s with h:=s2.h,e:=s.e || s2.e}:St)) = some (x,s')->
     x = .ret/\s'.t = s.t/\wpOpsSIn (FR none) m P ops (Exit.thenS (c.wpSIn (FR none) m P (bodyPostS P df E cs R)) (bodyPostS P df E cs R)) (List.range' 1 os.length) (a0.put (some d.k) vv) I w:=by
    intro x2 s2 Y aA he
    cases he
    refine ⟨rfl,rfl,r3 _ λa1 w1 G1 e1 c1 d1=>?_⟩
    have aL:a1.defers = []:=by rw [d1,qce]
    refine wpSIn_of_wpIn rfl (wpIn_mono (qb7 aH ab hk (N:=n) (base:=s.h.length) (lo:=w.heap.size) (rf:=true) (fx:=[]) (ro:=none) (m:=m) c d.code aN (λ_=>aC) G1 w1 s1 a1 x2 s2 c1 r2 (λ_ hq=>by cases hq)
     ⟨[],by rw [aL];rfl,⟨List.nodup_nil,λ_ h=>by cases h⟩,λ_=>rfl⟩ e1.size Y) λe a2 w2 ap=>?_)
    obtain ⟨G2,g1,⟨ms,aI,_,al⟩,g3⟩:=ap
    have aK:a2.defers = []:=by rw [aI,al rfl];rfl
    have fin:Cfg P gl G2 s2.h s2.t a2 w2->a2.defers = []/\∃u',I = { E with mode:=u'} :: cs/\∃r,(results df a2.tmps).run P w2 = .ok r w2/\R (.returned r) u' w2:=by
     intro c2
     have ar:Ext s.h.length G.cellsOnly w G2.cellsOnly w2:=(e1.trans r2 g1).cellsOnly
     obtain ⟨b1,b2,b3⟩:=qfL hc ar c2.rel.cellsOnly.1
     refine ⟨aK,u',aM,.tuple #[],?_,hR _ _ _ _ af b1 ⟨b2,b3⟩⟩
     unfold results
     rw [ai]
     simp
    rcases aA with rfl | rfl
    ·obtain ⟨rfl,g3⟩:=g3;exact fin g3
    ·obtain ⟨rfl,g3⟩:=g3;exact fin g3
   split at h
   ·rename_i s2 Y;exact key _ s2 Y (.inl rfl) h
   ·rename_i s2 Y;exact key _ s2 Y (.inr rfl) h
   ·cases h
  have aa:List.range ops.size = 0 :: List.range' 1 os.length:=by
   have:ops.size = os.length + 1:=by rw [<-Array.length_toList,a6];rfl
   rw [this,List.range_eq_range',List.range'_succ]
  have aF:ops[0]? = some o0:=by
   have:ops[0]? = ops.toList[0]?:=by simp
   rw [this,a6]
   rfl
  have aj:(execOp a0.eval o0).run P w = .ok .recover w:=by
   simp [execOp,az,resolve,ay,av,invoke,builtin]
  have main:∀(E:Frame) (cs:List Frame),E.mode = u->x = .ret/\s'.t = s.t/\(Code.seq (.region id ops false) c).wpSIn (FR none) m P (bodyPostS P df E cs R) a0 (E :: cs) w:=by
   intro E cs U
   have fin:∀(I:List Frame) (vv:Value),(match recoverD (E :: cs) with | some (v,I)=>(v,I) | none=>(.nilIface,E :: cs)) = (vv,I)->
     wpOpsSIn (FR none) m P ops (Exit.thenS (c.wpSIn (FR none) m P (bodyPostS P df E cs R)) (bodyPostS P df E cs R)) (List.range' 1 os.length) (a0.put (some d.k) vv) I w->
     (Code.seq (.region id ops false) c).wpSIn (FR none) m P (bodyPostS P df E cs R) a0 (E :: cs) w:=by
    intro I vv a7 hW
    refine wpSIn_seq (wpSIn_region ?_)
    rw [aa]
    simp only [wpOpsSIn,aF]
    refine ⟨λ_ _=>trivial,?_⟩
    rw [if_pos (by simp [Region.wanted,aJ]),aj]
    simp only
    rw [au]
    cases ad:recoverD (E :: cs) with
    | none=>rw [ad] at a7;cases a7;exact hW
    | some p=>obtain ⟨p1,p2⟩:=p;rw [ad] at a7;cases a7;exact hW
   rcases hu with ⟨rfl,rfl⟩ | ⟨vv,rfl,a8⟩
   ·obtain ⟨q1,q2,q3⟩:=body (E :: cs) .nilIface E cs .returning (by simp [qg.V,qA]) (by rw [<-U]) rfl
    exact ⟨q1,q2,fin _ _ (by simp [recoverD,U]) q3⟩
   ·obtain ⟨q1,q2,q3⟩:=body ({ E with mode:=.panicking [{ v:=vv,recovered:=true}]} :: cs) vv E cs (.panicking [{ v:=vv,recovered:=true}]) a8 rfl rfl
    exact ⟨q1,q2,fin _ _ (by simp [recoverD,U]) q3⟩
  have m0:=main { (default:Frame) with mode:=u} [] rfl
  exact ⟨m0.1,m0.2.1,callsDIn_of_wpSIn hf ac trivial λE cs U=>(main E cs U).2.2⟩
 ·cases h
end
section
variable {P:Program} {gl:Nat->Option (List qd)}
theorem qf5 {G' G0:qg} {w0:World} {h:List qh} {t:List qd} {n:Nat} {fn:Func} {ts:Array Value} {R:Ending->World->Prop} {F:Fence} {m:Nat} {u:FrameMode} (hu:u ≠ .run) {fx:List Deferred}:∀(ds:List Deferred) (w':World),
  qim G' w' w0.heap.size ds->Ext n G0 w0 G' w'->Rel P gl G' h w'->qaE G' w' t ts->(∀E,Ext n G0 w0 G' E->Rel P gl G' h E->qaE G' E t ts->LeavesInM F m P fn ts R fx u E)->LeavesInM F m P fn ts R (ds ++ fx) u w'
 | [],w',_,he,hr,ht,hR=>hR w' he hr ht
 | d :: ds,w',hm,he,hr,ht,hR=>by
  obtain ⟨r,rfl,h1,h2,h3⟩:=hm.all d (jE ..)
  refine ⟨hu,.inl ⟨r,w'.putObj r (.deferred none),rfl,run_takeDeferred h2,?_⟩⟩
  have I:=List.nodup_cons.1 hm.nodup
  refine qf5 hu ds _ ⟨I.2,λd hd=>?_⟩ (he.putFar h1 _) (hr.putFar h3 λk=>by simp [World.cell?,h2]) (ht.putFar h3) hR
  obtain ⟨r',g1,g2,g3,g4⟩:=hm.all d (jI _ hd)
  refine ⟨r',g1,g2,?_,g4⟩
  rw [World.putObj_heap_other]
  ·exact g3
  ·rintro rfl
   rw [g1] at hd
   exact I.1 hd
theorem ql6 (hmx:P.follows .mixedOrders = true) {call:AE.Call} (hcall:qcM P gl call) (hk:qM call) {df pf:Func} {d:qcZ} (hd:qEA P gl df d) {N base n0 m:Nat} {G0:qg} {w0:World} {R:Ending->World->Prop} {x:Ex} {s':St} :
  ∀ (gb : qek) (c : Code), qqV P gl c = some gb -> P.funcs[gb.fid]? = some df -> (df.name == "runtime.NumGoroutine") = false -> ∀ (G : qg) (w : World) (s : St) (a : Act), Cfg P gl G s.h s.t a w -> base <= s.h.length -> a.defers = [] -> w0.heap.size <= w.heap.size -> n0 <= s.h.length -> Ext n0 G0 w0 G w ->
   qds N base call d gb s = some (x,s')->
   (∀G' w' a',(x = .nor\/x = .ret)->Ext n0 G0 w0 G' w'->Cfg P gl G' s'.h s'.t a' w'->LeavesIn (FR none) m P pf a'.tmps R [] .returning w')->
   (∀pv v G' w' a',x = .pan pv->Ext n0 G0 w0 G' w'->Cfg P gl G' s'.h s'.t a' w'->G'.V pv v->R (.panicked [{ v,recovered:=false}]) w')->
   c.wpIn (FR none) m P (bodyPostM (FR none) m P pf R) a w:=by
 intro gb
 induction gb with
 | pre ac r ih=>
  intro c hcomp hf hname G w s a hc hb hdf hlo hn he hrun hret hpan
  cases c <;> simp only [qqV,reduceCtorEq] at hcomp
  rename_i a1 b1
  split at hcomp
  ·rename_i f caps t hdc
   obtain ⟨z,_,hz⟩:=qck hcomp
   cases hz
  ·split at hcomp
   ·rename_i x1 r1 hx1 hr1
    split at hcomp
    ·rename_i hrf
     cases hcomp
     have hW:=λx2 s2 hx2=>qb7 hmx hcall hk (N:=N) (base:=base) (lo:=w0.heap.size) (rf:=true) (fx:=[]) (ro:=none) (m:=m) a1 ac hx1 (λ_=>hrf) G w s a x2 s2 hc hb (λ_ hq=>by cases hq)
      ⟨[],by rw [hdf];rfl,⟨List.nodup_nil,λ_ h=>by cases h⟩,λ_=>rfl⟩ hlo hx2
     simp only [qds] at hrun
     split at hrun
     ·rename_i s1 hs1
      have hkeep:=(qH (base:=base) hk N ac s s1 _ hb hs1).1
      refine wpIn_seq (wpIn_mono (hW _ s1 hs1) λe a' w' hfin=>?_)
      obtain ⟨G',g1,⟨ms,hms,_,hms0⟩,rfl,g4⟩:=hfin
      have hd0:a'.defers = []:=by rw [hms,hms0 rfl];rfl
      exact ih b1 hr1 hf hname G' w' s1 a' g4 (jn hb hkeep) hd0 (jn hlo g1.size) (jn hn hkeep) (he.trans hn g1) hrun hret hpan
     ·cases hrun
     ·rename_i r2 h1 h2
      refine wpIn_seq (wpIn_mono (hW x s' hrun) λe a' w' hfin=>?_)
      obtain ⟨G',g1,⟨ms,hms,_,hms0⟩,g3⟩:=hfin
      have hd0:a'.defers = []:=by rw [hms,hms0 rfl];rfl
      cases x with
      | nor=>exact absurd hrun (h1 s')
      | exit id=>exact absurd hrun (h2 id s')
      | ret=>
       obtain ⟨rfl,g3⟩:=g3
       show LeavesInM _ _ _ _ _ _ _ _ _
       rw [hd0]
       exact hret G' w' a' (.inr rfl) (he.trans hn g1) g3
      | pan pv=>
       obtain ⟨v,rfl,g3,g4⟩:=g3
       show LeavesInM _ _ _ _ _ _ _ _ _
       rw [hd0]
       exact hpan pv v G' w' a' rfl (he.trans hn g1) g3 g4
    ·cases hcomp
   ·cases hcomp
 | dfr f caps slot rest=>
  intro c hcomp hf hname G w s a hc hb hdf hlo hn he hrun hret hpan
  change P.funcs[f]? = some df at hf
  cases c <;> simp only [qqV,reduceCtorEq] at hcomp
  rename_i a1 b1
  split at hcomp
  ·rename_i f' caps' t hdc
   obtain ⟨z,hz,hze⟩:=qck hcomp
   cases hze
   obtain ⟨id,ops,o0,o1,a0,cs,cl,rfl,rfl,k1,rfl,k3,k4,k5,k6,k7,k8,k9,k10⟩:=qzm hdc
   refine wpIn_seq (wpIn_region ?_)
   have hrange:List.range (#[o0,o1]:Array Oper).size = [0,1]:=rfl
   rw [hrange]
   simp only [wpOpsIn,List.getElem?_toArray,jx,List.getElem?_cons_succ]
   rw [if_pos (by simp [Region.wanted,k4])]
   have hcomp0:qcy P gl o0 = some (.mkF f [] caps):=by
    simp only [qcy,qgM,qft,k1,k10]
    rfl
   have hrun0:qz base call [] o0.dst (.mkF f [] caps) s = some (.nor,{ s with t:=put (some slot) (.fn f [] (caps.map (ev s.t))) s.t}):=by
    simp [qz,pureV,k3]
   refine qgb hcall hk hc qbp.nil hcomp0 hrun0 (λ_ u1 w1 G1 e1 c1 _ _ _=>?_) (λpv h=>by cases h)
   rw [k3] at c1 ⊢
   rw [if_pos (by simp [Region.wanted,k9])]
   simp only [qds] at hrun
   split at hrun
   ·rename_i g cv hev
    split at hrun
    ·rename_i hgf
     subst hgf
     have hv:=qZ c1.rel c1.tr (x:=.tmp slot) (ax:=.t slot) rfl
     rw [hev] at hv
     simp only [qg.V,qA,qk] at hv
     obtain ⟨x0,y0,hval,hx0,hy0⟩:=hv
     have hx0':x0 = #[]:=by apply Array.ext';simpa using hx0
     subst hx0'
     let dd:Deferred:={ target:=.fn (.func g) y0,args:=#[]}
     refine ⟨λ_ _=>trivial,?_⟩
     have hsem:(o1.semAt (FR none).round (a.put (some slot) u1).eval).run P w1 = .ok (.defer dd) w1:=by
      show (Oper.semAt none _ _).run P w1 = _
      rw [Oper.semAt_none]
      simp only [execOp,k5,resolve,k6,k7,hval]
      simp [Deferred.ofValue,dd]
     rw [hsem,Oper.uponIn_defer,k8]
     show (Code.wpIn (FR none) m P b1 (bodyPostM (FR none) m P pf R)) { tmps:=(a.put (some slot) u1).tmps,defers:=dd :: a.defers} w1
     rw [hdf]
     have hlen1:n0 <= ({ s with t:=put (some slot) (.fn g [] (caps.map (ev s.t))) s.t}:St).h.length:=hn
     have he1:Ext n0 G0 w0 G1 w1:=he.trans hn e1
     have c2:Cfg P gl G1 s.h (put (some slot) (.fn g [] (caps.map (ev s.t))) s.t) { tmps:=(a.put (some slot) u1).tmps,defers:=[] ++ [dd]} w1:=⟨c1.rel,c1.tr⟩
     have hW:=λx2 s2 hx2=>qb7 hmx hcall hk (N:=N) (base:=base) (lo:=w0.heap.size) (rf:=false) (fx:=[dd]) (ro:=none) (m:=m) b1 rest hz (λh=>by cases h) G1 w1 { s with t:=put (some slot) (.fn g [] (caps.map (ev s.t))) s.t}
      { tmps:=(a.put (some slot) u1).tmps,defers:=[] ++ [dd]} x2 s2 c2 hb (λ_ hq=>by cases hq) ⟨[],rfl,⟨List.nodup_nil,λ_ h=>by cases h⟩,λh=>by cases h⟩ he1.size hx2
     have tail:∀(s2:St) (v:qd) (u:FrameMode) (G2:qg) (w2:World) (a2:Act),s.h.length <= s2.h.length->Ext s.h.length G1 w1 G2 w2->qfg G2 w2 w0.heap.size false [dd] a2.defers->Cfg P gl G2 s2.h s2.t a2 w2->u ≠ .run->qIg G2 u v->
       qfc N call d v cv s2 = some (x,s')->LeavesInM (FR none) m P pf a2.tmps R a2.defers u w2:=by
      intro s2 v u G2 w2 a2 hkeep he2 hmk c3 hur hmode hdx
      obtain ⟨ms,hms,hmk,_⟩:=hmk
      rw [hms]
      refine qf5 (G0:=G0) (w0:=w0) (n:=n0) hur ms w2 hmk (he1.trans hn he2) c3.rel c3.tr λw3 q1 q2 q3=>?_
      have hcv:G2.VL cv y0.toList:=he2.VL hy0
      refine ⟨hur,.inr ⟨qg7,.func g,y0,g,y0,rfl,?_,λ_ _=>trivial,?_⟩⟩
      ·simp only [dd,invoke]
       have:=hd.ex
       obtain ⟨id',ops',o0',os',c',hbody',_⟩:=this
       have:=qT (vs:=#[] ++ y0) (w:=w3) hf hname hbody'
       simpa using this
      ·have c4:Cfg P gl G2 s2.h s2.t { a2 with defers:=[]} w3:=⟨q2,q3⟩
       refine (qhB hmx hcall hk hf hd hdx c4 hcv hmode λr u' G3 w4 r1 r2 r3=>?_).2.2
       obtain ⟨hxr,hst,_⟩:=qhB (m:=m) (R:=λ_ _ _=>True) hmx hcall hk hf hd hdx c4 hcv hmode λ_ _ _ _ _ _ _=>trivial
       show LeavesInM _ _ _ _ _ _ _ _ _
       rw [r1]
       exact hret G3 w4 { a2 with defers:=[]} (.inr hxr) (q1.trans (jn hn hkeep) r2) r3
     split at hrun
     ·rename_i s2 hx2
      have hkeep:=(qH (base:=base) hk N rest { s with t:=put (some slot) (.fn g [] (caps.map (ev s.t))) s.t} s2 _ hb hx2).1
      refine wpIn_mono (hW _ s2 hx2) λe a2 w2 hfin=>?_
      obtain ⟨G2,g1,g2,rfl,g3⟩:=hfin
      exact tail s2 _ .returning G2 w2 a2 hkeep g1 g2 g3 (by simp) (.inl ⟨rfl,rfl⟩) hrun
     ·rename_i s2 hx2
      have hkeep:=(qH (base:=base) hk N rest { s with t:=put (some slot) (.fn g [] (caps.map (ev s.t))) s.t} s2 _ hb hx2).1
      refine wpIn_mono (hW _ s2 hx2) λe a2 w2 hfin=>?_
      obtain ⟨G2,g1,g2,rfl,g3⟩:=hfin
      exact tail s2 _ .returning G2 w2 a2 hkeep g1 g2 g3 (by simp) (.inl ⟨rfl,rfl⟩) hrun
     ·rename_i v s2 hx2
      have hkeep:=(qH (base:=base) hk N rest { s with t:=put (some slot) (.fn g [] (caps.map (ev s.t))) s.t} s2 _ hb hx2).1
      refine wpIn_mono (hW _ s2 hx2) λe a2 w2 hfin=>?_
      obtain ⟨G2,g1,g2,vv,rfl,g3,g4⟩:=hfin
      exact tail s2 v (.panicking [{ v:=vv,recovered:=false}]) G2 w2 a2 hkeep g1 g2 g3 (by simp) (.inr ⟨vv,rfl,g4⟩) hrun
     ·cases hrun
    ·cases hrun
   ·cases hrun
  ·split at hcomp
   ·split at hcomp
    ·cases hcomp
    ·cases hcomp
   ·cases hcomp
theorem qhg (hmx : P.follows .mixedOrders = true) {f : FuncId} {pf df : Func} {g : qjh} (hf : P.funcs[f]? = some pf) (hname : (pf.name == "runtime.NumGoroutine") = false) (hcomp : qfO P gl pf df = some g) (hdf : P.funcs[g.body.fid]? = some df)
  (hdname : (df.name == "runtime.NumGoroutine") = false) (N : Nat) : qfI P gl f (qer N g) := by
 intro call hcall hk aS h r h' e' hrun G w vs hr hn hall
 unfold qfO at hcomp
 split at hcomp
 ·rename_i c hbody
  split at hcomp
  ·rename_i b rs d hb hrs hd
   cases hcomp
   simp only at hdf
   refine .inl ⟨qT hf hname hbody vs w,λro m=>qbu (m:=m) ?_⟩
   have hsize:vs.size = aS.length:=by have:=hall.length;simp at this ⊢;omega
   have hc0:Cfg P gl G h (aS.map qd.dim ++ List.replicate (pf.ntmps - aS.length) (.tup [])) { tmps:=vs ++ Array.replicate (pf.ntmps - vs.size) undef,defers:=[]} w:=by
    refine ⟨hr,qaE.start ?_ λz hz=>?_⟩
    ·simp only [Array.toList_append,Array.toList_replicate]
     refine qk.append hall.dims ?_
     rw [hsize]
     exact qk.replicate _ (by simp [qA,qk,undef])
    ·rcases jH.1 hz with hz | hz
     ·obtain ⟨q,_,rfl⟩:=jP.1 hz;exact qbg q
     ·rw [(List.mem_replicate.1 hz).2];rfl
   refine callsIn_of_wp_marks (F:=FR none) hf hbody trivial ?_ rfl
   simp only [qer] at hrun
   have main:∀x s,qds N h.length call d b ⟨aS.map qd.dim ++ List.replicate (pf.ntmps - aS.length) (.tup []),h,false⟩ = some (x,s)->
     ((x = .nor\/x = .ret)->∃vs',qal s rs = some vs'/\leave h.length (.ret (qbr vs')) s.h s.e = (r,h',e'))->(∀pv,x = .pan pv->leave h.length (.pan pv) s.h s.e = (r,h',e'))->
     c.wpIn (FR none) m P (bodyPostM (FR none) m P pf (qmR P gl h.length G w r h')) { tmps:=vs ++ Array.replicate (pf.ntmps - vs.size) undef,defers:=[]} w:=by
    intro x s hx h1 h2
    have k:=qcQ (base:=h.length) hk b ⟨_,h,false⟩ s _ (jm _) hx
    refine ql6 hmx hcall hk (qqU hd) (n0:=h.length) (G0:=G) (w0:=w) b c hb hdf hdname G w ⟨_,h,false⟩ _ hc0 (jm _) rfl (jm _) (jm _) (Ext.refl _ G w) hx (λG' w' a' hxx g1 g2=>?_) (λpv v G' w' a' hxx g1 g2 g3=>?_)
    ·obtain ⟨vs',hres,hlv⟩:=h1 hxx
     obtain ⟨u,r1,r2⟩:=qdY g2 hrs hres
     obtain ⟨rfl,G'',y1,y2,y3,y4⟩:=qca hr g1 g2.rel ⟨k.1,λhe=>(k.2 he).2⟩ hlv
     exact ⟨u,r1,_,G'',rfl,y1,y2,y3,y4 _ u (.inl rfl) r2⟩
    ·obtain ⟨rfl,G'',y1,y2,y3,y4⟩:=qca hr g1 g2.rel ⟨k.1,λhe=>(k.2 he).2⟩ (h2 pv hxx)
     exact ⟨pv,v,G'',rfl,rfl,y1,y2,y3,y4 _ v (.inr rfl) g3⟩
   split at hrun
   ·rename_i s hx
    split at hrun
    ·rename_i vs' hres
     exact main _ s hx (λ_=>⟨vs',hres,Option.some.inj hrun⟩) (λ_ h=>by cases h)
    ·cases hrun
   ·rename_i s hx
    split at hrun
    ·rename_i vs' hres
     exact main _ s hx (λ_=>⟨vs',hres,Option.some.inj hrun⟩) (λ_ h=>by cases h)
    ·cases hrun
   ·rename_i v s hx
    exact main _ s hx (λh=>by rcases h with h | h <;> cases h) (λpv h=>by cases h;exact Option.some.inj hrun)
   ·cases hrun
  ·cases hcomp
 ·cases hcomp
end
section
variable {P:Program} {gl:Nat->Option (List qd)}
noncomputable def qg.start (gl:Nat->Option (List qd)) (W:World):qg:={ γ:=λ_=>none,imm:=λb o=>match gl b with | some cs=>if 0 < cs.length/\o = cs.length then some mark else qlP (W.cell? ⟨b,o,none⟩) | none=>none,ow:=λ_=>none}
def qEG (gl:Nat->Option (List qd)) (W:World):Prop:=∀g cs,gl g = some cs->qv 0 cs = true/\∃vs:List Value,qk (λ_=>none) (λ_ _=>none) cs vs/\(∀(j:Nat) (v:Value),vs[j]? = some v->W.cell? ⟨g,j,none⟩ = some v)/\(0 < cs.length->∃c e,W.heap[g]? = some (.cells c e (0,0))/\cs.length = c.size)
theorem qyA {G:qg} {h:List qh} {w:World} (hr:Rel P gl G h w) {name:String} {g:Nat} (hg:P.globalNamed name = some g) {k:IntKind} {zs:List Int} (E:gl g = some (zs.map λz=>.int k z)) (h0:0 < zs.length) :
  w.var? P name = some (zs.map λz=>Value.int k z).toArray:=by
 obtain ⟨⟨h1,h2⟩,_⟩:=hr.glob g _ E
 obtain ⟨_,c,e,h3,h4⟩:=hr.immK g _ (h2 (by simpa using h0))
 have:c = (zs.map λz=>Value.int k z).toArray:=by
  apply Array.ext'
  apply jO
  intro i
  rw [jQ] at h4
  rcases Nat.lt_or_ge i zs.length with hi | hi
  ·obtain ⟨v,k1,k2⟩:=h1.get (i:=i) (c:=.int k zs[i]) (by simp [hi])
   simp only [qA] at k2
   subst k2
   have:=(hr.imm _ _ _ k1 (by simp [mark])).1
   rw [jR] at this
   simp only [World.cell?,h3] at this
   simpa [hi] using this
  ·simp [jK (show c.size <= i by omega),hi]
 subst this
 simp [World.var?,hg,h3]
def qEv {H:Type}:DataW H->Option qd
 | .lit (.int k z)=>some (.int k z)
 | .lit (.string s)=>some (.str s)
 | .lit (.bool b)=>some (.bool b)
 | _=>none
theorem qwr {H:Type} {enc:TypeId×Value->H} {w:World} {base:Nat} {sp:Nat->Bool} {held:Bool} {fuel:Nat} {e:TypeId} {cs:List Value} {x:DataW H×List MemPlace} {a:qd}
  (he:(∃k,P.underlying e = some (.int k))\/P.underlying e = some .string) (h:DataW.trod enc P w base sp held fuel e cs = some x) (ha:qEv x.1 = some a):∃v,cs = [v]/\qA (λ_=>none) (λ_ _=>none) a v:=by
 rcases he with ⟨k,he⟩ | he
 ·obtain ⟨n,rfl,rfl,_⟩:=DataW.trod_int he h
  simp only [qEv,jj] at ha
  subst ha
  exact ⟨_,rfl,by simp [qA]⟩
 ·obtain ⟨s,rfl,rfl,_⟩:=DataW.trod_string he h
  simp only [qEv,jj] at ha
  subst ha
  exact ⟨_,rfl,by simp only [qA];exact ⟨s,rfl,rfl⟩⟩
theorem qnC {α β:Type} {f:α->Option β}:∀{l:List α} {r:List β},l.mapM f = some r->r.length = l.length
 | [],r,h=>by simp at h;subst h;rfl
 | x :: l,r,h=>by
  simp only [List.mapM_cons,Option.bind_eq_bind,Option.bind_eq_some_iff,Option.pure_def,jj] at h
  obtain ⟨b,_,r',E,rfl⟩:=h
  simp [qnC E]
theorem qcL {laid:List (String×DataW Unit)} {W:World} (hL:laidMet P laid W) {name:String} {ds:List (DataW Unit)} (hm:(name,DataW.agg ds) ∈ laid) {g:Nat} (hg:P.globalNamed name = some g) {t e:TypeId} {n:Nat} (ht:(P.globals[g]?).map (·.type) = some t)
  (hu:P.underlying t = some (.array n e)) (he:(∃k,P.underlying e = some (.int k))\/P.underlying e = some .string) (hc:P.cellsOf e = 1) (aj:P.cellsOf t = n) {aS:List qd} (has:ds.mapM qEv = some aS) :
  qv 0 aS = true/\∃vs:List Value,qk (λ_=>none) (λ_ _=>none) aS vs/\(∀(j:Nat) (v:Value),vs[j]? = some v->W.cell? ⟨g,j,none⟩ = some v)/\(0 < aS.length->∃c e,W.heap[g]? = some (.cells c e (0,0))/\aS.length = c.size):=by
 obtain ⟨ps,hv,ad,E⟩:=hL
 clear ad
 replace E:=λb off h=>(E b off h).1
 induction laid generalizing ps with
 | nil=>cases hm
 | cons x laid ih=>
  obtain ⟨nx,dx⟩:=x
  obtain ⟨g',t',cs,fuel,p,q,ae,ac,U,hd,hq,a1⟩:=hv
  rcases List.mem_cons.1 hm with hm | hm
  ·cases hm
   obtain rfl:=Option.some.inj (hg.symm.trans ae)
   obtain rfl:=Option.some.inj (ht.symm.trans ac)
   obtain ⟨xs,m,_,hx,ak,Y,af⟩:=DataW.trod_array hu hd
   have a6:xs.map (·.1) = ds:=(DataW.agg.inj (Prod.mk.inj hx).1).symm
   have key:∀(i:Nat) (a:qd),aS[i]? = some a->∃v,cs[i]? = some v/\qA (λ_=>none) (λ_ _=>none) a v:=by
    intro i a ha
    obtain ⟨d,a7,ai⟩:=qjK has i a ha
    rw [<-a6,jr,Option.map_eq_some_iff] at a7
    obtain ⟨y,hy,rfl⟩:=a7
    have hi:i < n:=by rw [<-Y];exact (jd.1 hy).1
    have h1:=af i hi
    rw [hy,hc,Nat.mul_one] at h1
    obtain ⟨v,aa,a8⟩:=qwr he h1 ai
    have h0:((cs.toList.drop i).take 1)[0]? = some v:=by rw [aa];rfl
    exact ⟨v,by simpa using h0,a8⟩
   refine ⟨qf7 λa ha=>?_,aS.mapIdx (λi _=>cs.getD i undef),qk.of_get (by simp) λi a v ha hv=>?_,λj v hv=>?_,λh0=>?_⟩
   ·obtain ⟨i,hi⟩:=List.getElem?_of_mem ha
    obtain ⟨v,_,hr⟩:=key i a hi
    exact qen (n:=0) (λ_ _ h=>by cases h) a v hr
   ·obtain ⟨u,I,ab⟩:=key i a ha
    rw [List.getElem?_mapIdx,ha] at hv
    simp only [jJ,jj] at hv
    rw [Array.getD_eq_getD_getElem?,I] at hv
    simp only [Option.getD_some] at hv
    rw [<-hv]
    exact ab
   ·rw [World.var?_cell hg U j]
    rw [List.getElem?_mapIdx] at hv
    cases ha:aS[j]? with
    | none=>rw [ha] at hv;cases hv
    | some a=>
     obtain ⟨u,I,_⟩:=key j a ha
     rw [ha] at hv
     simp only [jJ,jj] at hv
     rw [Array.getD_eq_getD_getElem?,I] at hv
     simp only [Option.getD_some] at hv
     rw [<-hv]
     exact I
   ·have al:aS.length = n:=by
     rw [qnC has,<-a6,jQ,Y]
    rw [aj,Array.length_toList] at ak
    obtain ⟨c,e',hh⟩:=E g 0 (by
     rw [a1]
     refine List.mem_append_left _ (List.mem_append_left _ ?_)
     exact MemPlace.mem_row.2 ⟨0,zo,rfl⟩)
    refine ⟨c,e',hh,?_⟩
    have:c = cs:=by
     have q:=U
     simp only [World.var?,hg,Option.bind_some,hh,jj] at q
     exact q
    rw [this]
    omega
  ·exact ih hm q hq λb off h=>E b off (by rw [a1];exact List.mem_append_right _ h)
end
section
variable {P:Program} {gl:Nat->Option (List qd)}
theorem qtC {T : qgm} (hT : T.All λi v => ∃ pf, P.funcs[i]? = some pf /\ qf P gl pf = some v /\ (pf.name == "runtime.NumGoroutine") = false) : qmW P gl T.get := λf fn h => by
 obtain ⟨pf,h1,h2,h3⟩:=qgm.get_all hT h
 unfold qf at h2
 split at h2
 ·cases h2
 ·rename_i c hb
  split at h2
  ·rename_i code rs e1 e2
   cases h2
   exact ⟨pf,c,h1,h3,hb,e1,e2,rfl⟩
  ·cases h2
theorem qxA {W:World} {g:Nat}:qv 0 [] = true/\∃vs:List Value,qk (λ_=>none) (λ_ _=>none) [] vs/\(∀(j:Nat) (v:Value),vs[j]? = some v->W.cell? ⟨g,j,none⟩ = some v)/\(0 < ([]:List qd).length->∃c e,W.heap[g]? = some (.cells c e (0,0))/\([]:List qd).length = c.size):=
 ⟨rfl,[],by simp [qk],λj v h=>by simp at h,λh=>by simp at h⟩
end
def qhN:Call->List qd->List qh->Option (qdf×List qh×Bool):=λ_ aS h=>
 match aS with
 | [.str s,.int .u8 c]=>some (.ret (.int .i64 (Lib.indexByte s c.toNat.toUInt8)),h,false)
 | _=>none
def qip (t:TypeId):Call->List qd->List qh->Option (qdf×List qh×Bool):=λ_ aS h=>
 match aS with
 | [.str s]=>
  bif Nat.ble s.length 100000 then
   match Lib.atoiAll s with
   | .ok v=>some (.ret (.tup [.int .i64 v,.niliface]),h,false)
   | .range=>some (.ret (.tup [.int .i64 (Lib.atoiSat s),.iface t .undef]),h,false)
   | _=>none
  else none
 | _=>none
def qfs:Call->List qd->List qh->Option (qdf×List qh×Bool):=λ_ aS h=>
 match aS with
 | []=>some (.ret (.bool true),h,false)
 | _=>none
def wbX (T E:Nat):Call->List qd->List qh->Option (qdf×List qh×Bool):=λ_ aS h=>
 match aS with
 | [.ptr id 0,.int .u8 c]=>match h[id]? with
  | some (.bld t e s)=>bif (Nat.beq t T && Nat.beq e E) && ((ile 0 c && ile c 255) && Nat.ble s.length qi) then some (.ret .niliface,h.set id (.bld t e (s ++ [c.toNat.toUInt8])),false) else none
  | _=>none
 | _=>none
def wsX (T E:Nat):Call->List qd->List qh->Option (qdf×List qh×Bool):=λ_ aS h=>
 match aS with
 | [.ptr id 0,.str u]=>match h[id]? with
  | some (.bld t e s)=>bif (Nat.beq t T && Nat.beq e E) && Nat.ble (s.length + u.length) qi then some (.ret (.tup [.int .i64 (u.length:Nat),.niliface]),h.set id (.bld t e (s ++ u)),false) else none
  | _=>none
 | _=>none
def stX (T E:Nat):Call->List qd->List qh->Option (qdf×List qh×Bool):=λ_ aS h=>
 match aS with
 | [.ptr id 0]=>match h[id]? with
  | some (.bld t e s)=>bif (Nat.beq t T && Nat.beq e E) && !s.isEmpty then some (.ret (.str s),h,false) else none
  | _=>none
 | _=>none
def itX:Call->List qd->List qh->Option (qdf×List qh×Bool):=λ_ aS h=>
 match aS with
 | [.int .i64 n]=>bif ile (-9223372036854775808) n && ile n 9223372036854775807 then some (.ret (.str (Lib.itoa n)),h,false) else none
 | _=>none
def qgi:List qd->Option (List (List UInt8))
 | []=>some []
 | .str s :: xs=>(qgi xs).map (s :: ·)
 | _=>none
def jnX:Call->List qd->List qh->Option (qdf×List qh×Bool):=λ_ aS h=>
 match aS with
 | [.lst (x :: xs) _,.str sep]=>match qgi (x :: xs) with
  | some l=>bif Nat.ble (Lib.join l sep).length qi && Nat.ble l.length qi then some (.ret (.str (Lib.join l sep)),h,false) else none
  | none=>none
 | [.sl id 0 len _ _,.str sep]=>match h[id]? with
  | some (.cells cs)=>match qgi (cs.take len) with
   | some l=>bif Nat.ble (Lib.join l sep).length qi && (Nat.beq l.length len && Nat.ble len qi) then some (.ret (.str (Lib.join l sep)),h,false) else none
   | none=>none
  | _=>none
 | _=>none
def Le {α:Type} (a b:Option α):Prop:=∀x,a = some x->b = some x
theorem Le.refl {α:Type} (a:Option α):Le a a:=λ_ h=>h
def CLe (c d:Call):Prop:=∀fv aS h,Le (c fv aS h) (d fv aS h)
theorem CLe.refl (c:Call):CLe c c:=λ_ _ _ _ h=>h
def qEy {α:Type} (g:Nat->Option α):Prop:=∀n m,n <= m->Le (g n) (g m)
def qd2 (c:Nat->Call):Prop:=∀n m,n <= m->CLe (c n) (c m)
open Classical in
noncomputable def lim {α:Type} (g:Nat->Option α):Option α:=if h:∃n x,g n = some x then g h.choose else none
theorem qjH {α:Type} {g:Nat->Option α} (hg:qEy g) (x:α):lim g = some x↔∃n,g n = some x:=by
 unfold lim
 constructor
 ·intro h
  split at h
  ·exact ⟨_,h⟩
  ·cases h
 ·rintro ⟨n,hn⟩
  have h:∃n x,g n = some x:=⟨n,x,hn⟩
  rw [dif_pos h]
  obtain ⟨y,hy⟩:=h.choose_spec
  have h1:=hg _ (max n h.choose) (Nat.le_max_right ..) _ hy
  have h2:=hg _ (max n h.choose) (Nat.le_max_left ..) _ hn
  rw [hy,<-h1,h2]
theorem qcS {α:Type} (a:Option α):lim (λ_=>a) = a:=by
 apply Option.ext
 intro x
 rw [qjH (λ_ _ _=>Le.refl _)]
 exact ⟨λ⟨_,h⟩=>h,λh=>⟨0,h⟩⟩
noncomputable def qph (c:Nat->Call):Call:=λfv aS h=>lim λn=>c n fv aS h
theorem qeX {c:Nat->Call} (hc:qd2 c) {fv:qd} {aS:List qd} {h:List qh} (x:qdf×List qh×Bool):qph c fv aS h = some x↔∃n,c n fv aS h = some x:=
 qjH (λn m E=>hc n m E fv aS h) x
theorem qmk {c:Nat->Call} (hc:qd2 c) (n:Nat):CLe (c n) (qph c):=λ_ _ _ x hx=>(qeX hc x).2 ⟨n,hx⟩
section
variable {c d:Call} {base:Nat}
theorem qbT (hc:CLe c d) {p:qcB} {dst:Option Nat} {o:AOp} {s:St}:Le (qz base c p dst o s) (qz base d p dst o s):=by
 cases o
 case call f args=>
  intro x hx
  simp only [qz] at hx ⊢
  split at hx
  ·rename_i E;rw [hc _ _ _ _ E];exact hx
  ·rename_i E;rw [hc _ _ _ _ E];exact hx
  ·cases hx
 all_goals exact λx hx=>hx
theorem qbR (hc:CLe c d):∀(ops:List qac) (p:qcB) (s:St),Le (qaK base c p ops s) (qaK base d p ops s)
 | [],p,s=>λx hx=>hx
 | o :: os,p,s=>λx hx=>by
  simp only [qaK] at hx ⊢
  split at hx
  ·split at hx
   ·rename_i E;rw [qbT hc _ E];exact qbR hc os _ _ _ hx
   ·rename_i I
    have h1:=qbT hc _ hx
    rw [h1]
    split
    ·rename_i E;cases E;exact absurd hx (I _)
    ·rfl
  ·exact qbR hc os _ _ _ hx
  ·cases hx
theorem qas (hc:CLe c d) (dsts:List Nat):∀(ops:List qO) (pend:List (Nat×Chk)) (s:St),Le (qP base c dsts ops pend s) (qP base d dsts ops pend s)
 | [],p,s=>λx hx=>hx
 | o :: os,p,s=>λx hx=>by
  simp only [qP] at hx ⊢
  split at hx
  ·split at hx
   ·rename_i E
    rw [qbT hc _ E]
    simp only
    split at hx
    ·rename_i he
     rw [if_pos he]
     split at hx
     ·rename_i hp;rw [if_pos hp];exact qas hc dsts os _ _ _ hx
     ·cases hx
    ·rename_i he
     rw [if_neg he]
     split at hx
     ·exact qas hc dsts os _ _ _ hx
     ·exact qas hc dsts os _ _ _ hx
   ·rename_i E;rw [qbT hc _ E];exact hx
   ·cases hx
  ·exact qas hc dsts os _ _ _ hx
  ·cases hx
theorem qet {f g:St->Option (Ex×St)} (hf:∀s,Le (f s) (g s)):∀(n m:Nat),n <= m->∀s,Le (iter f n s) (iter g m s)
 | 0,_,_,s=>λx hx=>by cases hx
 | n + 1,0,h,s=>zo
 | n + 1,m + 1,h,s=>λx hx=>by
  simp only [iter] at hx ⊢
  split at hx
  ·rename_i E;rw [hf _ _ E];exact qet hf n m zo _ _ hx
  ·rename_i I
   rw [hf _ _ hx]
   split
   ·rename_i E;cases E;exact absurd hx (I _)
   ·rfl
theorem qqB {p q:qO} {a b e a' b' e':Option (Ex×St)} (h1:Le a a') (h2:Le b b') (h3:Le e e'):Le (qxR p q a b e) (qxR p q a' b' e'):=λx hx=>by
 unfold qxR at hx
 split at hx
 ·rename_i s0 s1 s2
  rw [h1 _ rfl,h2 _ rfl,h3 _ rfl]
  exact hx
 ·cases hx
theorem qE (hc:CLe c d) {n m:Nat} (I:n <= m):∀(a:qD) (s:St),Le (qaX n base c a s) (qaX m base d a s)
 | .skip,s=>λx hx=>hx
 | .reg ops,s=>qbR hc ops _ s
 | .draw ops,s=>qas hc _ ops _ s
 | .draw2 c a b r,s=>qqB (qas hc _ _ _ s) (qas hc _ _ _ s) (qas hc _ _ _ s)
 | .seq a b,s=>λx hx=>by
  simp only [qaX] at hx ⊢
  split at hx
  ·rename_i E;rw [qE hc I a _ _ E];exact qE hc I b _ _ hx
  ·rename_i U
   rw [qE hc I a _ _ hx]
   split
   ·rename_i E;cases E;exact absurd hx (U _)
   ·rfl
 | .cond q a b,s=>λx hx=>by
  simp only [qaX] at hx ⊢
  split at hx
  ·exact qE hc I a _ _ hx
  ·exact qE hc I b _ _ hx
  ·cases hx
 | .block id b,s=>λx hx=>by
  simp only [qaX] at hx ⊢
  split at hx
  ·rename_i E;rw [qE hc I b _ _ E];exact hx
  ·rename_i U
   rw [qE hc I b _ _ hx]
   split
   ·rename_i E;cases E;exact absurd hx (U _ _)
   ·rfl
 | .loop b,s=>λx hx=>by
  simp only [qaX] at hx ⊢
  exact qet (λs=>qE hc I b s) n m I s x hx
 | .exit id,s=>λx hx=>hx
 | .ret,s=>λx hx=>hx
 | .rfun f ps asg body,s=>λx hx=>by
  simp only [qaX] at hx ⊢
  split at hx
  ·split at hx
   ·rename_i E;rw [hc _ _ _ _ E];exact hx
   ·rename_i E;rw [hc _ _ _ _ E];exact hx
   ·cases hx
  ·cases hx
theorem qe4 (hc:CLe c d) {n m:Nat} (E:n <= m) {l:Nat} {args:List qd} {h:List qh}:Le (round n c l args h) (round m d l args h):=λx hx=>by
 simp only [round] at hx ⊢
 split at hx
 ·split at hx
  ·cases hx
  ·rename_i hl
   rw [if_neg hl]
   split at hx
   ·rename_i U
    rw [qE hc E _ _ _ U]
    simp only
    split at hx
    ·split at hx
     ·rename_i I
      rw [qE hc E _ _ _ I]
      exact hx
     ·cases hx
    ·cases hx
   ·cases hx
 ·cases hx
theorem qcJ (hc:CLe c d) {n m:Nat} (I:n <= m) {df:qcZ} {v:qd} {cv:List qd} {s:St}:Le (qfc n c df v cv s) (qfc m d df v cv s):=λx hx=>by
 simp only [qfc] at hx ⊢
 split at hx
 ·rename_i U
  rw [qbR hc _ _ _ _ U]
  dsimp only
  split at hx
  ·rename_i E;rw [qE hc I _ _ _ E];exact hx
  ·rename_i E;rw [qE hc I _ _ _ E];exact hx
  ·cases hx
 ·cases hx
theorem qdt (hc:CLe c d) {n m:Nat} (I:n <= m) {df:qcZ}:∀(b:qek) (s:St),Le (qds n base c df b s) (qds m base d df b s)
 | .pre a r,s=>λx hx=>by
  simp only [qds] at hx ⊢
  split at hx
  ·rename_i E;rw [qE hc I _ _ _ E];exact qdt hc I r _ _ hx
  ·cases hx
  ·rename_i h1 h2
   rw [qE hc I _ _ _ hx]
   split
   ·rename_i E;cases E;exact absurd hx (h1 _)
   ·rename_i E;cases E;exact absurd hx (h2 _ _)
   ·rfl
 | .dfr f U slot rest,s=>λx hx=>by
  simp only [qds] at hx ⊢
  split at hx
  ·split at hx
   ·rename_i hg
    rw [if_pos hg]
    split at hx
    ·rename_i E;rw [qE hc I _ _ _ E];exact qcJ hc I _ hx
    ·rename_i E;rw [qE hc I _ _ _ E];exact qcJ hc I _ hx
    ·rename_i E;rw [qE hc I _ _ _ E];exact qcJ hc I _ hx
    ·cases hx
   ·cases hx
  ·cases hx
theorem qoN (hc:CLe c d) {n m:Nat} (I:n <= m) {g:qjh} {aS:List qd} {h:List qh}:Le (qer n g c aS h) (qer m g d aS h):=λx hx=>by
 simp only [qer] at hx ⊢
 split at hx
 ·rename_i E;rw [qdt hc I _ _ _ E];exact hx
 ·rename_i E;rw [qdt hc I _ _ _ E];exact hx
 ·rename_i E;rw [qdt hc I _ _ _ E];exact hx
 ·cases hx
end
def qyK (X:qlu):Prop:=∀f g,X f = some g->∀c d,CLe c d->∀aS h,Le (g c aS h) (g d aS h)
theorem qxd {F:FuncId->Option qn} {X:qlu} (hX:qyK X) {n m:Nat} (I:n <= m) (hc:CLe (run F X n) (run F X m)):CLe (run F X (n + 1)) (run F X (m + 1)):=λfv aS h x hx=>by
 simp only [run] at hx ⊢
 split at hx
 ·split at hx
  ·rename_i hg
   exact hX _ _ hg _ _ hc _ _ _ hx
  ·split at hx
   ·cases hx
   ·split at hx
    ·rename_i E;rw [qE hc I _ _ _ E];exact hx
    ·rename_i E;rw [qE hc I _ _ _ E];exact hx
    ·rename_i E;rw [qE hc I _ _ _ E];exact hx
    ·cases hx
 ·exact qe4 hc I _ hx
 ·cases hx
theorem qgc {F:FuncId->Option qn} {X:qlu} (hX:qyK X):∀n m:Nat,n <= m->CLe (run F X n) (run F X m)
 | 0,_,_=>λ_ _ _ x hx=>by cases hx
 | n + 1,0,h=>zo
 | n + 1,m + 1,h=>qxd hX zo (qgc hX n m zo)
section
variable {c:Nat->Call} {base:Nat}
theorem qe5 (hc:qd2 c) {p:qcB} {dst:Option Nat} {o:AOp} {s:St} {x:Ex×St} (hx:qz base (qph c) p dst o s = some x):∃k,qz base (c k) p dst o s = some x:=by
 cases o
 case call f args=>
  simp only [qz] at hx ⊢
  split at hx
  ·rename_i E;obtain ⟨k,hk⟩:=(qeX hc _).1 E;exact ⟨k,by rw [hk];exact hx⟩
  ·rename_i E;obtain ⟨k,hk⟩:=(qeX hc _).1 E;exact ⟨k,by rw [hk];exact hx⟩
  ·cases hx
 all_goals exact ⟨0,hx⟩
theorem qd0 (hc:qd2 c):∀(ops:List qac) (p:qcB) (s:St) (x:Ex×St),qaK base (qph c) p ops s = some x->∃k,qaK base (c k) p ops s = some x
 | [],p,s,x,hx=>⟨0,hx⟩
 | o :: os,p,s,x,hx=>by
  simp only [qaK] at hx ⊢
  split at hx
  ·split at hx
   ·rename_i E
    obtain ⟨k1,h1⟩:=qe5 hc E
    obtain ⟨k2,h2⟩:=qd0 hc os _ _ _ hx
    refine ⟨max k1 k2,?_⟩
    rw [qbT (hc k1 _ (Nat.le_max_left ..)) _ h1]
    exact qbR (hc k2 _ (Nat.le_max_right ..)) _ _ _ _ h2
   ·rename_i I
    obtain ⟨k1,h1⟩:=qe5 hc hx
    refine ⟨k1,?_⟩
    rw [h1]
    split
    ·rename_i E;cases E;exact absurd hx (I _)
    ·rfl
  ·exact qd0 hc os _ _ _ hx
  ·cases hx
theorem qbe (hc:qd2 c) (dsts:List Nat):∀(ops:List qO) (pend:List (Nat×Chk)) (s:St) (x:Ex×St),qP base (qph c) dsts ops pend s = some x->∃k,qP base (c k) dsts ops pend s = some x
 | [],p,s,x,hx=>⟨0,hx⟩
 | o :: os,p,s,x,hx=>by
  simp only [qP] at hx ⊢
  split at hx
  ·split at hx
   ·rename_i E
    obtain ⟨k1,h1⟩:=qe5 hc E
    split at hx
    ·rename_i he
     split at hx
     ·rename_i hp
      obtain ⟨k2,h2⟩:=qbe hc dsts os _ _ _ hx
      refine ⟨max k1 k2,?_⟩
      rw [qbT (hc k1 _ (Nat.le_max_left ..)) _ h1]
      simp only
      rw [if_pos he,if_pos hp]
      exact qas (hc k2 _ (Nat.le_max_right ..)) dsts _ _ _ _ h2
     ·cases hx
    ·rename_i he
     split at hx
     ·obtain ⟨k2,h2⟩:=qbe hc dsts os _ _ _ hx
      rename_i hk
      refine ⟨max k1 k2,?_⟩
      rw [qbT (hc k1 _ (Nat.le_max_left ..)) _ h1]
      simp only
      rw [if_neg he]
      exact qas (hc k2 _ (Nat.le_max_right ..)) dsts _ _ _ _ h2
     ·obtain ⟨k2,h2⟩:=qbe hc dsts os _ _ _ hx
      refine ⟨max k1 k2,?_⟩
      rw [qbT (hc k1 _ (Nat.le_max_left ..)) _ h1]
      simp only
      rw [if_neg he]
      exact qas (hc k2 _ (Nat.le_max_right ..)) dsts _ _ _ _ h2
   ·rename_i E;obtain ⟨k1,h1⟩:=qe5 hc E;exact ⟨k1,by rw [h1];exact hx⟩
   ·cases hx
  ·exact qbe hc dsts os _ _ _ hx
  ·cases hx
theorem qkL {f:St->Option (Ex×St)} {g:Nat->St->Option (Ex×St)} (hg:∀n m,n <= m->∀s,Le (g n s) (g m s)) (hf:∀s x,f s = some x->∃k,g k s = some x):∀(n:Nat) (s:St) (x:Ex×St),iter f n s = some x->∃k,iter (g k) n s = some x
 | 0,s,x,hx=>by cases hx
 | n + 1,s,x,hx=>by
  simp only [iter] at hx ⊢
  split at hx
  ·rename_i E
   obtain ⟨k1,h1⟩:=hf _ _ E
   obtain ⟨k2,h2⟩:=qkL hg hf n _ _ hx
   refine ⟨max k1 k2,?_⟩
   rw [hg k1 _ (Nat.le_max_left ..) _ _ h1]
   exact qet (hg k2 _ (Nat.le_max_right ..)) n n (jm _) _ _ h2
  ·rename_i I
   obtain ⟨k1,h1⟩:=hf _ _ hx
   refine ⟨k1,?_⟩
   rw [h1]
   split
   ·rename_i E;cases E;exact absurd hx (I _)
   ·rfl
theorem qat (hc:qd2 c) {n:Nat}:∀(a:qD) (s:St) (x:Ex×St),qaX n base (qph c) a s = some x->∃k,qaX n base (c k) a s = some x
 | .skip,s,x,hx=>⟨0,hx⟩
 | .reg ops,s,x,hx=>qd0 hc ops _ s x hx
 | .draw ops,s,x,hx=>qbe hc _ ops _ s x hx
 | .draw2 c0 a0 b0 r0,s,x,hx=>by
  simp only [qaX] at hx ⊢
  unfold qxR at hx
  split at hx
  ·rename_i s0 s1 s2 e0 e1 e2
   obtain ⟨k0,h0⟩:=qbe hc _ _ _ s _ e0
   obtain ⟨k1,h1⟩:=qbe hc _ _ _ s _ e1
   obtain ⟨k2,h2⟩:=qbe hc _ _ _ s _ e2
   refine ⟨max k0 (max k1 k2),?_⟩
   rw [qas (hc k0 _ (Nat.le_max_left ..)) _ _ _ s _ h0,qas (hc k1 _ (jn (Nat.le_max_left ..) (Nat.le_max_right ..))) _ _ _ s _ h1,qas (hc k2 _ (jn (Nat.le_max_right ..) (Nat.le_max_right ..))) _ _ _ s _ h2]
   exact hx
  ·cases hx
 | .seq a b,s,x,hx=>by
  simp only [qaX] at hx ⊢
  split at hx
  ·rename_i E
   obtain ⟨k1,h1⟩:=qat hc a _ _ E
   obtain ⟨k2,h2⟩:=qat hc b _ _ hx
   refine ⟨max k1 k2,?_⟩
   rw [qE (hc k1 _ (Nat.le_max_left ..)) (jm _) _ _ _ h1]
   exact qE (hc k2 _ (Nat.le_max_right ..)) (jm _) _ _ _ h2
  ·rename_i I
   obtain ⟨k1,h1⟩:=qat hc a _ _ hx
   refine ⟨k1,?_⟩
   rw [h1]
   split
   ·rename_i E;cases E;exact absurd hx (I _)
   ·rfl
 | .cond q a b,s,x,hx=>by
  simp only [qaX] at hx ⊢
  split at hx
  ·exact qat hc a _ _ hx
  ·exact qat hc b _ _ hx
  ·cases hx
 | .block id b,s,x,hx=>by
  simp only [qaX] at hx ⊢
  split at hx
  ·rename_i E
   obtain ⟨k1,h1⟩:=qat hc b _ _ E
   exact ⟨k1,by rw [h1];exact hx⟩
  ·rename_i I
   obtain ⟨k1,h1⟩:=qat hc b _ _ hx
   refine ⟨k1,?_⟩
   rw [h1]
   split
   ·rename_i E;cases E;exact absurd hx (I _ _)
   ·rfl
 | .loop b,s,x,hx=>by
  simp only [qaX] at hx ⊢
  exact qkL (g:=λk=>qaX n base (c k) b) (λi j U s=>qE (hc i j U) (jm _) b s) (λs x h=>qat hc b s x h) n s x hx
 | .exit id,s,x,hx=>⟨0,hx⟩
 | .ret,s,x,hx=>⟨0,hx⟩
 | .rfun f ps asg body,s,x,hx=>by
  simp only [qaX] at hx ⊢
  split at hx
  ·split at hx
   ·rename_i E;obtain ⟨k,hk⟩:=(qeX hc _).1 E;exact ⟨k,by rw [hk];exact hx⟩
   ·rename_i E;obtain ⟨k,hk⟩:=(qeX hc _).1 E;exact ⟨k,by rw [hk];exact hx⟩
   ·cases hx
  ·cases hx
theorem qpO (hc:qd2 c) {n:Nat} {l:Nat} {args:List qd} {h:List qh} {x:qdf×List qh×Bool} (hx:round n (qph c) l args h = some x):∃k,round n (c k) l args h = some x:=by
 simp only [round] at hx ⊢
 split at hx
 ·split at hx
  ·cases hx
  ·rename_i hl
   split at hx
   ·rename_i I
    obtain ⟨k1,h1⟩:=qat hc _ _ _ I
    split at hx
    ·rename_i hb
     split at hx
     ·rename_i E
      obtain ⟨k2,h2⟩:=qat hc _ _ _ E
      refine ⟨max k1 k2,?_⟩
      rw [if_neg hl,qE (hc k1 _ (Nat.le_max_left ..)) (jm _) _ _ _ h1]
      simp only [hb]
      rw [qE (hc k2 _ (Nat.le_max_right ..)) (jm _) _ _ _ h2]
      exact hx
     ·cases hx
    ·cases hx
   ·cases hx
 ·cases hx
theorem qgp (hc:qd2 c) {n:Nat} {df:qcZ} {v:qd} {cv:List qd} {s:St} {x:Ex×St} (hx:qfc n (qph c) df v cv s = some x):∃k,qfc n (c k) df v cv s = some x:=by
 simp only [qfc] at hx ⊢
 split at hx
 ·rename_i I
  obtain ⟨k1,h1⟩:=qd0 hc _ _ _ _ I
  split at hx
  ·rename_i E
   obtain ⟨k2,h2⟩:=qat hc _ _ _ E
   refine ⟨max k1 k2,?_⟩
   rw [qbR (hc k1 _ (Nat.le_max_left ..)) _ _ _ _ h1]
   simp only
   rw [qE (hc k2 _ (Nat.le_max_right ..)) (jm _) _ _ _ h2]
   exact hx
  ·rename_i E
   obtain ⟨k2,h2⟩:=qat hc _ _ _ E
   refine ⟨max k1 k2,?_⟩
   rw [qbR (hc k1 _ (Nat.le_max_left ..)) _ _ _ _ h1]
   simp only
   rw [qE (hc k2 _ (Nat.le_max_right ..)) (jm _) _ _ _ h2]
   exact hx
  ·cases hx
 ·cases hx
theorem qeW (hc:qd2 c) {n:Nat} {df:qcZ}:∀(b:qek) (s:St) (x:Ex×St),qds n base (qph c) df b s = some x->∃k,qds n base (c k) df b s = some x
 | .pre a r,s,x,hx=>by
  simp only [qds] at hx ⊢
  split at hx
  ·rename_i E
   obtain ⟨k1,h1⟩:=qat hc _ _ _ E
   obtain ⟨k2,h2⟩:=qeW hc r _ _ hx
   refine ⟨max k1 k2,?_⟩
   rw [qE (hc k1 _ (Nat.le_max_left ..)) (jm _) _ _ _ h1]
   exact qdt (hc k2 _ (Nat.le_max_right ..)) (jm _) _ _ _ h2
  ·cases hx
  ·rename_i h1 h2
   obtain ⟨k1,h3⟩:=qat hc _ _ _ hx
   refine ⟨k1,?_⟩
   rw [h3]
   split
   ·rename_i E;cases E;exact absurd hx (h1 _)
   ·rename_i E;cases E;exact absurd hx (h2 _ _)
   ·rfl
 | .dfr f I slot rest,s,x,hx=>by
  simp only [qds] at hx ⊢
  split at hx
  ·split at hx
   ·rename_i hg
    simp only [if_pos hg]
    split at hx
    ·rename_i E
     obtain ⟨k1,h1⟩:=qat hc _ _ _ E
     obtain ⟨k2,h2⟩:=qgp hc hx
     refine ⟨max k1 k2,?_⟩
     rw [qE (hc k1 _ (Nat.le_max_left ..)) (jm _) _ _ _ h1]
     exact qcJ (hc k2 _ (Nat.le_max_right ..)) (jm _) _ h2
    ·rename_i E
     obtain ⟨k1,h1⟩:=qat hc _ _ _ E
     obtain ⟨k2,h2⟩:=qgp hc hx
     refine ⟨max k1 k2,?_⟩
     rw [qE (hc k1 _ (Nat.le_max_left ..)) (jm _) _ _ _ h1]
     exact qcJ (hc k2 _ (Nat.le_max_right ..)) (jm _) _ h2
    ·rename_i E
     obtain ⟨k1,h1⟩:=qat hc _ _ _ E
     obtain ⟨k2,h2⟩:=qgp hc hx
     refine ⟨max k1 k2,?_⟩
     rw [qE (hc k1 _ (Nat.le_max_left ..)) (jm _) _ _ _ h1]
     exact qcJ (hc k2 _ (Nat.le_max_right ..)) (jm _) _ h2
    ·cases hx
   ·cases hx
  ·cases hx
theorem qoM (hc:qd2 c) {n:Nat} {g:qjh} {aS:List qd} {h:List qh} {x:qdf×List qh×Bool} (hx:qer n g (qph c) aS h = some x):∃k,qer n g (c k) aS h = some x:=by
 simp only [qer] at hx ⊢
 split at hx
 ·rename_i E;obtain ⟨k1,h1⟩:=qeW hc _ _ _ E;exact ⟨k1,by rw [h1];exact hx⟩
 ·rename_i E;obtain ⟨k1,h1⟩:=qeW hc _ _ _ E;exact ⟨k1,by rw [h1];exact hx⟩
 ·rename_i E;obtain ⟨k1,h1⟩:=qeW hc _ _ _ E;exact ⟨k1,by rw [h1];exact hx⟩
 ·cases hx
end
noncomputable def qp (base:Nat) (call:Call) (a:qD) (s:St):Option (Ex×St):=lim λn=>qaX n base call a s
noncomputable def qla (call:Call) (l:Nat) (args:List qd) (h:List qh):Option (qdf×List qh×Bool):=lim λn=>round n call l args h
section
variable {base:Nat} {call:Call}
theorem qaf {a:qD} {s:St} (x:Ex×St):qp base call a s = some x↔∃n,qaX n base call a s = some x:=
 qjH (λn m E=>qE (CLe.refl _) E a s) x
theorem qoG (s:St):qp base call .skip s = some (.nor,s):=qcS _
theorem qhG (ops:List qac) (s:St):qp base call (.reg ops) s = qaK base call [] ops s:=qcS _
theorem qoD (ops:List qO) (s:St):qp base call (.draw ops) s = qP base call (ops.filterMap (·.o.dst)) ops [] s:=qcS _
theorem qoE (id:Nat) (s:St):qp base call (.exit id) s = some (.exit id,s):=qcS _
theorem qrF (s:St):qp base call .ret s = some (.ret,s):=qcS _
def qb1 (f:St->Option (Ex×St)):Option (Ex×St)->Option (Ex×St)
 | some (.nor,s)=>f s
 | r=>r
theorem qrG (a b:qD) (s:St):qp base call (.seq a b) s = qb1 (qp base call b) (qp base call a s):=by
 apply Option.ext
 intro x
 rw [qaf]
 constructor
 ·rintro ⟨n,h⟩
  simp only [qaX] at h
  split at h
  ·rename_i E
   rw [(qaf _).2 ⟨n,E⟩]
   exact (qaf _).2 ⟨n,h⟩
  ·rename_i I
   rw [(qaf _).2 ⟨n,h⟩]
   unfold qb1
   split
   ·rename_i E;cases E;exact absurd h (I _)
   ·rfl
 ·intro h
  unfold qb1 at h
  split at h
  ·rename_i E
   obtain ⟨n1,h1⟩:=(qaf _).1 E
   obtain ⟨n2,h2⟩:=(qaf _).1 h
   refine ⟨max n1 n2,?_⟩
   simp only [qaX]
   rw [qE (CLe.refl _) (Nat.le_max_left n1 n2) _ _ _ h1]
   exact qE (CLe.refl _) (Nat.le_max_right n1 n2) _ _ _ h2
  ·rename_i I
   obtain ⟨n1,h1⟩:=(qaf _).1 h
   refine ⟨n1,?_⟩
   simp only [qaX]
   rw [h1]
   split
   ·rename_i E;cases E;exact absurd h (I _)
   ·rfl
theorem qoC (q:qB) (a b:qD) (s:St):qp base call (.cond q a b) s = match ev s.t q with
  | .bool true=>qp base call a s
  | .bool false=>qp base call b s
  | _=>none:=by
 simp only [qp,qaX]
 generalize ev s.t q = v
 cases v with
 | bool b=>cases b <;> rfl
 | _=>exact qcS _
def qcO (id:Nat):Option (Ex×St)->Option (Ex×St)
 | some (.exit j,s)=>if j = id then some (.nor,s) else some (.exit j,s)
 | r=>r
theorem ql2 (id:Nat) (b:qD) (s:St):qp base call (.block id b) s = qcO id (qp base call b s):=by
 apply Option.ext
 intro x
 rw [qaf]
 constructor
 ·rintro ⟨n,h⟩
  simp only [qaX] at h
  split at h
  ·rename_i E
   rw [(qaf _).2 ⟨n,E⟩]
   exact h
  ·rename_i I
   rw [(qaf _).2 ⟨n,h⟩]
   unfold qcO
   split
   ·rename_i E;cases E;exact absurd h (I _ _)
   ·rfl
 ·intro h
  unfold qcO at h
  split at h
  ·rename_i E
   obtain ⟨n1,h1⟩:=(qaf _).1 E
   refine ⟨n1,?_⟩
   simp only [qaX]
   rw [h1]
   exact h
  ·rename_i I
   obtain ⟨n1,h1⟩:=(qaf _).1 h
   refine ⟨n1,?_⟩
   simp only [qaX]
   rw [h1]
   split
   ·rename_i E;cases E;exact absurd h (I _ _)
   ·rfl
theorem qr (b:qD) (s:St):qp base call (.loop b) s = qb1 (qp base call (.loop b)) (qp base call b s):=by
 apply Option.ext
 intro x
 rw [qaf]
 constructor
 ·rintro ⟨n,h⟩
  simp only [qaX] at h
  cases n with
  | zero=>cases h
  | succ n=>
   simp only [iter] at h
   split at h
   ·rename_i E
    rw [(qaf _).2 ⟨n + 1,E⟩]
    exact (qaf _).2 ⟨n + 1,qet (λs=>Le.refl _) n (n + 1) zo _ _ h⟩
   ·rename_i I
    rw [(qaf _).2 ⟨n + 1,h⟩]
    unfold qb1
    split
    ·rename_i E;cases E;exact absurd h (I _)
    ·rfl
 ·intro h
  unfold qb1 at h
  split at h
  ·rename_i E
   obtain ⟨n1,h1⟩:=(qaf _).1 E
   obtain ⟨n2,h2⟩:=(qaf _).1 h
   refine ⟨max n1 n2 + 1,?_⟩
   simp only [qaX,iter] at h2 ⊢
   rw [qE (CLe.refl _) (show n1 <= max n1 n2 + 1 by omega) _ _ _ h1]
   exact qet (λs=>qE (CLe.refl _) (show n2 <= max n1 n2 + 1 by omega) b s) n2 (max n1 n2) zo _ _ h2
  ·rename_i I
   obtain ⟨n1,h1⟩:=(qaf _).1 h
   refine ⟨n1 + 1,?_⟩
   simp only [qaX,iter]
   rw [qE (CLe.refl _) (Nat.le_succ n1) _ _ _ h1]
   split
   ·rename_i E;cases E;exact absurd h (I _)
   ·rfl
theorem qoF (f:qB) (ps:List Nat) (asg body:qD) (s:St):qp base call (.rfun f ps asg body) s = qaX 0 base call (.rfun f ps asg body) s:=by
 rw [qp]
 exact qcS _
theorem qi5 {l:Nat} {args:List qd} {h:List qh} (x:qdf×List qh×Bool):qla call l args h = some x↔∃n,round n call l args h = some x:=
 qjH (λn m E=>qe4 (CLe.refl _) E) x
def qjX (base l:Nat) (t:List qd) (ps:List Nat) (asg body:qD) (s:St):Ex->Option (qdf×List qh×Bool)
 | .nor=>some (leave base (.ret (.bool true)) (s.h.set l (.loop t ps asg body .ready none)) s.e)
 | .ret=>some (leave base (.ret (.bool false)) (s.h.set l (.loop t ps asg body .done (some .ret))) s.e)
 | .exit id=>some (leave base (.ret (.bool false)) (s.h.set l (.loop t ps asg body .done (some (.exit id)))) s.e)
 | .pan _=>none
theorem qlb {l:Nat} {args:List qd} {h:List qh} {t:List qd} {ps:List Nat} {asg body:qD} {st:LSt} {pend:Option quU} {s:St} {t1:List qd} {ps1:List Nat} {asg1 body1:qD} {pend1:Option quU} {x:Ex} {s2:St} {t2:List qd} {ps2:List Nat} {asg2 body2:qD} {st2:LSt} {pend2:Option quU} {r:qdf×List qh×Bool}
  (h0:h[l]? = some (.loop t ps asg body st pend)) (hl:args.length = ps.length) (h1:qp h.length call asg ⟨qkb t ps (args.map qd.dim),h,false⟩ = some (.nor,s))
  (h2:s.h[l]? = some (.loop t1 ps1 asg1 body1 .ready pend1)) (h3:qp h.length call body { s with h:=s.h.set l (.loop t1 ps1 asg1 body1 .busy pend1)} = some (x,s2))
  (h4:s2.h[l]? = some (.loop t2 ps2 asg2 body2 st2 pend2))
  (h5:qjX h.length l t2 ps2 asg2 body2 s2 x = some r):qla call l args h = some r:=by
 obtain ⟨n1,e1⟩:=(qaf _).1 h1
 obtain ⟨n2,e2⟩:=(qaf _).1 h3
 refine (qi5 _).2 ⟨max n1 n2,?_⟩
 simp only [round,h0]
 rw [if_neg (by simp [hl]),qE (CLe.refl _) (Nat.le_max_left n1 n2) _ _ _ e1]
 simp only [h2]
 rw [qE (CLe.refl _) (Nat.le_max_right n1 n2) _ _ _ e2]
 simp only [h4]
 cases x <;> exact h5
end
section
variable {F:FuncId->Option qn} {X:qlu}
noncomputable def W (F:FuncId->Option qn) (X:qlu):Call:=qph (run F X)
structure qn7 (X:qlu):Prop where
 mono:qyK X
 cont:∀f g,X f = some g->∀c,qd2 c->∀aS h x,g (qph c) aS h = some x->∃k,g (c k) aS h = some x
theorem qn6 (hX:qn7 X) {fv:qd} {aS:List qd} {h:List qh} (x:qdf×List qh×Bool):W F X fv aS h = some x↔∃n,run F X n fv aS h = some x:=
 qeX (qgc hX.mono) x
theorem qI4 (hX:qn7 X) {f:FuncId} {first args cap:List qd} {h:List qh} {fn:qn} (h1:X f = none) (h2:F f = some fn) :
  W F X (.fn f first cap) args h = qlZ fn h (qp h.length (W F X) fn.code ⟨(first ++ args ++ cap).map qd.dim ++ List.replicate (fn.ntmps - ((first ++ args ++ cap).map qd.dim).length) (.tup []),h,false⟩):=by
 have E:=qgc (F:=F) hX.mono
 apply Option.ext
 intro x
 rw [qn6 hX]
 constructor
 ·rintro ⟨n,hn⟩
  cases n with
  | zero=>cases hn
  | succ n=>
   rw [qyy h1 h2] at hn
   cases hq:qaX n h.length (run F X n) fn.code ⟨(first ++ args ++ cap).map qd.dim ++ List.replicate (fn.ntmps - ((first ++ args ++ cap).map qd.dim).length) (.tup []),h,false⟩ with
   | none=>rw [hq] at hn;cases hn
   | some y=>
    rw [hq] at hn
    have e:=(qaf y).2 ⟨n,qE (qmk E n) (jm _) _ _ _ hq⟩
    rw [W,e]
    exact hn
 ·intro hn
  cases hq:qp h.length (W F X) fn.code ⟨(first ++ args ++ cap).map qd.dim ++ List.replicate (fn.ntmps - ((first ++ args ++ cap).map qd.dim).length) (.tup []),h,false⟩ with
  | none=>rw [hq] at hn;cases hn
  | some y=>
   rw [hq] at hn
   obtain ⟨k,hk⟩:=(qaf y).1 hq
   obtain ⟨m,hm⟩:=qat E _ _ _ hk
   refine ⟨max k m + 1,?_⟩
   rw [qyy h1 h2,qE (E m _ (Nat.le_max_right k m)) (Nat.le_max_left k m) _ _ _ hm]
   exact hn
theorem qg3 (hX:qn7 X) {f:FuncId} {first args cap:List qd} {h:List qh} {g:Call->List qd->List qh->Option (qdf×List qh×Bool)} (h1:X f = some g) :
  W F X (.fn f first cap) args h = g (W F X) (first ++ args ++ cap) h:=by
 have E:=qgc (F:=F) hX.mono
 apply Option.ext
 intro x
 rw [qn6 hX]
 constructor
 ·rintro ⟨n,hn⟩
  cases n with
  | zero=>cases hn
  | succ n=>
   rw [qtX h1] at hn
   exact hX.mono f g h1 _ _ (qmk E n) _ _ _ hn
 ·intro hn
  obtain ⟨k,hk⟩:=hX.cont f g h1 _ E _ _ _ hn
  exact ⟨k + 1,by rw [qtX h1];exact hk⟩
theorem qBN (hX:qn7 X) {l:Nat} {args:List qd} {h:List qh}:W F X (.yld l) args h = qla (W F X) l args h:=by
 have E:=qgc (F:=F) hX.mono
 apply Option.ext
 intro x
 rw [qn6 hX,qi5]
 constructor
 ·rintro ⟨n,hn⟩
  cases n with
  | zero=>cases hn
  | succ n=>exact ⟨n,qe4 (qmk E n) (jm _) _ hn⟩
 ·rintro ⟨k,hk⟩
  obtain ⟨m,hm⟩:=qpO E hk
  exact ⟨max k m + 1,qe4 (E m _ (Nat.le_max_right k m)) (Nat.le_max_left k m) _ hm⟩
end
def lkp (t:List qd) (i:Nat):qd:=t.getD i .undef
section
variable {base:Nat} {call:Call} {p:qcB} {s:St} {t:List qd} {h:List qh}
theorem qJc (t:List qd) (i:Nat):ev t (.t i) = (lkp t i).dim:=rfl
theorem qJb (t:List qd) (v:qd):ev t (.c v) = v.dim:=rfl
theorem qHK (t:List qd) (i:Nat):raw t (.t i) = lkp t i:=rfl
theorem qHJ (t:List qd) (v:qd):raw t (.c v) = v:=rfl
def up (t:List qd) (i:Nat) (v:qd):List qd:=t.set i v
theorem qcq (t:List qd) (i:Nat) (v:qd):(up t i v).length = t.length:=by simp [up]
theorem qAd {i:Nat} {v:qd} (h:i < t.length):lkp (up t i v) i = v:=by simp [lkp,up,List.getD,h]
theorem qAe {i j:Nat} {v:qd} (h:i ≠ j):lkp (up t i v) j = lkp t j:=by simp [lkp,up,List.getD,jf h]
theorem qsV (a:qd) (t:List qd):lkp (a :: t) 0 = a:=rfl
theorem qsU (a:qd) (t:List qd) (i:Nat):lkp (a :: t) (i + 1) = lkp t i:=rfl
theorem qjV (d:Nat) (v:qd) (t:List qd):put (some d) v t = up t d v:=rfl
theorem qw4 (v:qd) (t:List qd):put none v t = t:=rfl
theorem qrf:qd.undef.dim = .undef:=rfl
theorem qvr (b:Bool):(qd.bool b).dim = .bool b:=rfl
theorem qzt (k:IntKind) (n:Int):(qd.int k n).dim = .int k n:=rfl
theorem qrd (s:List UInt8):(qd.str s).dim = .str s:=rfl
theorem qor:qd.nilptr.dim = .nilptr:=rfl
theorem qrc (i o:Nat):(qd.ptr i o).dim = .ptr i o:=rfl
theorem qvt (cs:List qd) (o:Nat):(qd.iptr cs o).dim = .iptr cs o:=rfl
theorem qCd (xs:List qd):(qd.lst xs .no).dim = .lst xs .no:=rfl
theorem qvs (xs:List qd):(qd.lst xs .full).dim = .lst xs .full:=rfl
theorem qzv (xs:List qd) (k:Nat):(qd.lst xs (.own k)).dim = .lst xs .no:=rfl
theorem qlV:qd.nilfunc.dim = .nilfunc:=rfl
theorem qx4 (f:FuncId) (a b:List qd):(qd.fn f a b).dim = .fn f a b:=rfl
theorem qzw (i:Nat):(qd.yld i).dim = .yld i:=rfl
theorem qkt:qd.niliface.dim = .niliface:=rfl
theorem qrb (t:TypeId) (v:qd):(qd.iface t v).dim = .iface t v:=rfl
theorem qzs (cs:List qd):(qd.agg cs).dim = .agg cs:=rfl
theorem qre (cs:List qd):(qd.tup cs).dim = .tup cs:=rfl
theorem qku (v:qd):v.dim.dim = v.dim:=by
 cases v with
 | lst xs f=>cases f <;> rfl
 | _=>rfl
def qgZ (dst:Option Nat) (s:St):Option qd->Option (Ex×St)
 | some v=>some (.nor,{ s with t:=put dst v s.t})
 | none=>none
theorem qtL (dst:Option Nat) (t:List qd) (h:List qh) (e:Bool) (v:qd):qgZ dst ⟨t,h,e⟩ (some v) = some (.nor,⟨put dst v t,h,e⟩):=rfl
theorem qll (f:St->Option (Ex×St)) (s:St):qb1 f (some (.nor,s)) = f s:=rfl
theorem quu (f:St->Option (Ex×St)) (s:St):qb1 f (some (.ret,s)) = some (.ret,s):=rfl
theorem qp0 (f:St->Option (Ex×St)) (id:Nat) (s:St):qb1 f (some (.exit id,s)) = some (.exit id,s):=rfl
theorem qut (f:St->Option (Ex×St)) (v:qd) (s:St):qb1 f (some (.pan v,s)) = some (.pan v,s):=rfl
theorem qof (id:Nat) (s:St):qcO id (some (.nor,s)) = some (.nor,s):=rfl
theorem qoh (id:Nat) (s:St):qcO id (some (.ret,s)) = some (.ret,s):=rfl
theorem qog (id:Nat) (v:qd) (s:St):qcO id (some (.pan v,s)) = some (.pan v,s):=rfl
theorem qlK (id j:Nat) (s:St):qcO id (some (.exit j,s)) = if j = id then some (.nor,s) else some (.exit j,s):=rfl
def qzi (v:qd) (a b:Option (Ex×St)):Option (Ex×St):=
 match v with
 | .bool true=>a
 | .bool false=>b
 | _=>none
theorem qvR (q:qB) (a b:qD) (s:St):qp base call (.cond q a b) s = qzi (ev s.t q) (qp base call a s) (qp base call b s):=qoC q a b s
def qnk (v:qd) (b:Bool) (yes no:Option (Ex×St)):Option (Ex×St):=
 match v with
 | .bool c=>if c == b then yes else no
 | .tup []=>no
 | _=>none
theorem qAO:qaK base call p [] s = some (.nor,s):=rfl
theorem qnH (d:Option Nat) (o:AOp) (os:List qac):qaK base call p (⟨d,o,none⟩ :: os) s = qb1 (qaK base call (qaJ p ⟨d,o,none⟩) os) (qz base call p d o s):=by
 simp only [qaK,wanted]
 unfold qb1
 split <;> split <;> simp_all
theorem qto (d:Option Nat) (o:AOp) (j:Nat) (b:Bool) (os:List qac) :
  qaK base call p (⟨d,o,some (j,b)⟩ :: os) s = qnk (lkp s.t j) b (qb1 (qaK base call (qaJ p ⟨d,o,some (j,b)⟩) os) (qz base call p d o s))
   (qaK base call (qaJ p { dst:=d,op:=.pick (.c .undef) (.c .undef) (.c .undef),guard:=some (j,b)}) os { s with t:=put d (.tup []) s.t}):=by
 simp only [qaK,wanted,lkp]
 generalize s.t.getD j .undef = v
 cases v with
 | bool c=>
  simp only [qnk]
  cases hc:c == b with
  | false=>simp
  | true=>
   simp only [if_true]
   unfold qb1
   split <;> split <;> simp_all
 | tup vs=>cases vs <;> rfl
 | _=>rfl
theorem qDo (d:Option Nat) (x:qB):qz base call p d (.mov x) s = some (.nor,{ s with t:=put d (ev s.t x) s.t}):=rfl
theorem qDg (d:Option Nat) (x:qB):qz base call p d (.asg x) s = some (.nor,{ s with t:=put d (raw s.t x) (qaF s.t x)}):=rfl
def qiw (v a b:qd):Option qd:=
 match v with
 | .bool true=>some a
 | .bool false=>some b
 | _=>none
theorem qpG (a b:qd):qiw (.bool true) a b = some a:=rfl
theorem qmu (a b:qd):qiw (.bool false) a b = some b:=rfl
theorem qtn (d:Option Nat) (c a b:qB):qz base call p d (.pick c a b) s = qgZ d s (qiw (ev s.t c) (ev s.t a) (ev s.t b)):=by
 simp only [qz,pureV]
 generalize ev s.t c = v
 cases v with
 | bool b=>cases b <;> rfl
 | _=>rfl
theorem qa4 (d:Option Nat) (o:AOp) (ho:o.effs = false) (h1:∀cs,o ≠ .new cs) (h2:∀k x,o ≠ .box k x) (h3:∀k x,o ≠ .ld k x) (h4:∀sh z ok m key,o ≠ .lk sh z ok m key:=by simp):qz base call p d o s = qgZ d s (pureV s.t o):=by
 cases o <;> first | exact absurd rfl (h4 _ _ _ _ _) | (simp [AOp.effs] at ho h1 h2 h3 <;> (simp only [qz];cases pureV s.t _ <;> rfl))
def faV (off:Nat):qd->Option qd
 | .ptr i o=>some (.ptr i (o + off))
 | .iptr cs o=>some (.iptr cs (o + off))
 | _=>none
theorem qzK (off i o:Nat):faV off (.ptr i o) = some (.ptr i (o + off)):=rfl
theorem qvV (off o:Nat) (cs:List qd):faV off (.iptr cs o) = some (.iptr cs (o + off)):=rfl
theorem qDk (d:Option Nat) (off:Nat) (a:qB):qz base call p d (.fa off a) s = qgZ d s (faV off (ev s.t a)):=by
 rw [qa4 _ _ rfl (by simp) (by simp) (by simp)]
 simp only [pureV]
 cases ev s.t a <;> rfl
theorem qym (d:Option Nat) (op:BinOp) (x y:qB):qz base call p d (.bin op x y) s = qgZ d s (qeQ op (ev s.t x) (ev s.t y)):=qa4 _ _ rfl (by simp) (by simp) (by simp)
theorem qDs (d:Option Nat) (op:UnOp) (x:qB):qz base call p d (.un op x) s = qgZ d s (unV op (ev s.t x)):=qa4 _ _ rfl (by simp) (by simp) (by simp)
def qwC:qd->Option qd
 | .ptr i o=>some (.ptr i o)
 | .iptr cs o=>some (.iptr cs o)
 | .fn f a b=>some (.fn f a b)
 | .yld l=>some (.yld l)
 | .iface u v=>some (.iface u v)
 | _=>none
theorem qtm (d:Option Nat) (x:qB):qz base call p d (.nilc x) s = qgZ d s (qwC (ev s.t x)):=by
 rw [qa4 _ _ rfl (by simp) (by simp) (by simp)]
 simp only [pureV]
 cases ev s.t x <;> rfl
theorem qtg (i o:Nat):qwC (.ptr i o) = some (.ptr i o):=rfl
theorem qpv (cs:List qd) (o:Nat):qwC (.iptr cs o) = some (.iptr cs o):=rfl
def qsH (b:Bool) (v:qd):Option qd:=
 match b,v with
 | true,.str s=>some (.int .i64 s.length)
 | false,.lst xs _=>some (.int .i64 xs.length)
 | false,.sl _ _ len _ _=>some (.int .i64 len)
 | false,.nils=>some (.int .i64 0)
 | false,.empt=>some (.int .i64 0)
 | _,_=>none
theorem qys (d:Option Nat) (b:Bool) (x:qB):qz base call p d (.len b x) s = qgZ d s (qsH b (ev s.t x)):=by
 rw [qa4 _ _ rfl (by simp) (by simp) (by simp)]
 cases b <;> simp only [pureV] <;> cases ev s.t x <;> rfl
theorem qwj (s:List UInt8):qsH true (.str s) = some (.int .i64 s.length):=rfl
theorem qwi (xs:List qd) (f:qgH):qsH false (.lst xs f) = some (.int .i64 xs.length):=rfl
def qfH (k:Nat) (s i:qd):Option qd:=
 match s,i with
 | .lst xs _,.int _ n=>
  if 0 <= n/\n < xs.length then
   match xs[n.toNat]? with
   | some x=>if x.cells.length = k then some (.iptr x.cells 0) else none
   | none=>none
  else none
 | .sl id o len _ _,.int _ n=>if 0 <= n/\n < len then some (.ptr id (o + n.toNat * k)) else none
 | _,_=>none
theorem qtl (d:Option Nat) (k:Nat) (x i:qB):qz base call p d (.ixaL k x i) s = qgZ d s (qfH k (ev s.t x) (ev s.t i)):=by
 rw [qa4 _ _ rfl (by simp) (by simp) (by simp)]
 simp only [pureV]
 cases ev s.t x <;> cases ev s.t i <;> rfl
theorem qar {k:Nat} {xs:List qd} {f:qgH} {j:IntKind} {n:Nat} {x:qd} (hx:xs[n]? = some x) (hk:x.cells.length = k):qfH k (.lst xs f) (.int j n) = some (.iptr x.cells 0):=by
 have hn:n < xs.length:=(jd.1 hx).1
 simp only [qfH,Int.toNat_natCast,hx]
 rw [if_pos ⟨zo,zo⟩,if_pos hk]
def qFa (off:Nat) (k:Option Nat):qd->Option qd
 | .agg cs=>cut cs off k
 | _=>none
theorem qvW (off:Nat) (k:Option Nat) (cs:List qd):qFa off k (.agg cs) = cut cs off k:=rfl
theorem qyp (d:Option Nat) (off:Nat) (k:Option Nat) (x:qB):qz base call p d (.fld off k x) s = qgZ d s (qFa off k (ev s.t x)):=by
 rw [qa4 _ _ rfl (by simp) (by simp) (by simp)]
 simp only [pureV]
 cases ev s.t x <;> rfl
theorem qwG (d:Option Nat) (z:List qd) (ps:List (Nat×Nat×qB)):qz base call p d (.build z ps) s = qgZ d s ((qJ z (ps.map λ(o,n,x)=>(o,n,ev s.t x))).map .agg):=qa4 _ _ rfl (by simp) (by simp) (by simp)
theorem qDp (d:Option Nat) (cs:List qd):qz base call p d (.new cs) s = some (.nor,{ s with t:=put d (.ptr s.h.length 0) s.t,h:=s.h ++ [.cells (cs.map qd.dim)]}):=rfl
theorem qDl (d:Option Nat) (k:Option Nat) (a:qB):qz base call p d (.ld k a) s = qgZ d s (qed s.h (ev s.t a) k):=by
 simp only [qz]
 cases qed s.h (ev s.t a) k <;> rfl
theorem qsA (cs:List qd) (o:Nat) (k:Option Nat):qed h (.iptr cs o) k = cut cs o k:=rfl
theorem qm6 (cs:List qd) (o:Nat):cut cs o none = (cs[o]?).map qd.dim:=rfl
theorem qeR {cs:List qd} {o k:Nat} (h:o + k <= cs.length):cut cs o (some k) = some (.agg (((cs.drop o).take k).map qd.dim)):=if_pos h
def stV (base:Nat) (k:Option Nat) (a v:qd) (h:List qh):Option (List qh×Bool):=
 match a with
 | .ptr id o=>
  match h[id]? with
  | some (.cells cs)=>
   let vs:=match k with | none=>[v] | some _=>v.dim.cells.map qd.dim
   if vs.length = k.getD 1/\o + vs.length <= cs.length/\vs.all qd.storable then
    some (h.set id (.cells (splice cs o vs)),!(Nat.ble base id || qv (id + 1) vs))
   else none
  | _=>none
 | _=>none
def stW (d:Option Nat) (t:List qd) (e:Bool):Option (List qh×Bool)->Option (Ex×St)
 | some (h,e')=>some (.nor,{ t:=put d .undef t,h,e:=e || e'})
 | none=>none
theorem qxl (d:Option Nat) (t:List qd) (e e':Bool) (h:List qh):stW d t e (some (h,e')) = some (.nor,⟨put d .undef t,h,e || e'⟩):=rfl
theorem qHD (d:Option Nat) (k:Option Nat) (a x:qB):qz base call p d (.st k a x) s = stW d (qaF s.t x) s.e (stV base k (ev s.t a) (raw s.t x) s.h):=by
 simp only [qz,stV]
 cases ev s.t a with
 | ptr id o=>
  simp only
  cases s.h[id]? with
  | none=>rfl
  | some b=>
   cases b with
   | cells cs=>cases k <;> (simp only;split <;> rfl)
   | _=>rfl
 | _=>rfl
end
section
variable {base:Nat} {call:Call} {p:qcB} {s:St} {t:List qd} {h:List qh}
def qzf (d:Option Nat) (s:St):Option (qdf×List qh×Bool)->Option (Ex×St)
 | some (.ret v,h,e)=>some (.nor,{ t:=put d v.dim s.t,h,e:=s.e || e})
 | some (.pan v,h,e)=>some (.pan v,{ s with h,e:=s.e || e})
 | none=>none
theorem qAL (d:Option Nat) (f:qB) (args:List qB):qz base call p d (.call f args) s = qzf d s (call (ev s.t f) (args.map (ev s.t)) s.h):=by
 simp only [qz]
 cases call (ev s.t f) (args.map (ev s.t)) s.h with
 | none=>rfl
 | some r=>obtain ⟨r,h,e⟩:=r;cases r <;> rfl
theorem qqG (d:Option Nat) (t:List qd) (h h':List qh) (e e':Bool) (v:qd):qzf d ⟨t,h,e⟩ (some (.ret v,h',e')) = some (.nor,⟨put d v.dim t,h',e || e'⟩):=rfl
theorem qqF (d:Option Nat) (t:List qd) (h h':List qh) (e e':Bool) (v:qd):qzf d ⟨t,h,e⟩ (some (.pan v,h',e')) = some (.pan v,⟨t,h',e || e'⟩):=rfl
theorem qgS (h l:List qh):(h ++ l)[h.length]? = l[0]?:=by rw [jc (jm _),Nat.sub_self]
theorem qbm (h l:List qh) (k:Nat):(h ++ l)[h.length + k]? = l[k]?:=by rw [jc zo,Nat.add_sub_cancel_left]
theorem qDG (h l:List qh) (b:qh):(h ++ l).set h.length b = h ++ l.set 0 b:=by rw [List.set_append_right _ _ (jm _),Nat.sub_self]
theorem qnV (h l:List qh) (k:Nat) (b:qh):(h ++ l).set (h.length + k) b = h ++ l.set k b:=by rw [List.set_append_right _ _ zo,Nat.add_sub_cancel_left]
theorem qcP {h l:List qh} {i:Nat} (hi:i < h.length):(h ++ l)[i]? = h[i]?:=ja hi
theorem qA8 {h l:List qh} {i:Nat} {b:qh} (hi:i < h.length):(h ++ l).set i b = h.set i b ++ l:=List.set_append_left _ _ hi
theorem qsF {n:Nat} {h l:List qh} {v:qd} (hl:h.length = n) (hv:v.lower n = true):leave n (.ret v) (h ++ l) false = (.ret v,h,false):=by subst hl;simp [leave,hv]
theorem qpd {n:Nat} {h:List qh} {v:qd} (hl:h.length = n) (hv:v.lower n = true):leave n (.ret v) h false = (.ret v,h,false):=by subst hl;simp [leave,hv]
theorem qsE {n:Nat} {h l:List qh} {v:qd} (hl:h.length = n) (hv:v.lower n = true):leave n (.pan v) (h ++ l) false = (.pan v,h,false):=by subst hl;simp [leave,hv]
theorem qpc {n:Nat} {h:List qh} {v:qd} (hl:h.length = n) (hv:v.lower n = true):leave n (.pan v) h false = (.pan v,h,false):=by subst hl;simp [leave,hv]
theorem qbb {n:Nat} {H h:List qh} {v:qd} (hc:H.take n = h) (hv:v.lower n = true):leave n (.ret v) H false = (.ret v,h,false):=by simp [leave,hv,hc]
theorem qaR {n:Nat} {H h:List qh} {v:qd} (hc:H.take n = h) (hv:v.lower n = true):leave n (.pan v) H false = (.pan v,h,false):=by simp [leave,hv,hc]
theorem qge (h:List qh) (i:Nat) (a b:qh):(h.set i a).set i b = h.set i b:=List.set_set ..
theorem qdn {h l:List qh} {n:Nat} (hl:h.length = n):(h ++ l)[n]? = l[0]?:=by subst hl;exact qgS h l
theorem qA7 {h l:List qh} {n:Nat} {b:qh} (hl:h.length = n):(h ++ l).set n b = h ++ l.set 0 b:=by subst hl;exact qDG h l b
theorem qrV {h l:List qh} {n k:Nat} (hl:h.length = n):(h ++ l)[n + k]? = l[k]?:=by subst hl;exact qbm h l k
theorem qua {h l:List qh} {n k:Nat} {b:qh} (hl:h.length = n):(h ++ l).set (n + k) b = h ++ l.set k b:=by subst hl;exact qnV h l k b
theorem qb9 {h:List qh} {i j:Nat} {b:qh} (E:i ≠ j):(h.set i b)[j]? = h[j]?:=jf E
theorem qes {h:List qh} {i:Nat} {b:qh} (hi:i < h.length):(h.set i b)[i]? = some b:=List.getElem?_set_self hi
end
section
variable {base:Nat} {call:Call} {p:qcB} {s:St}
def qIl (d:Option Nat) (s:St) (k:Nat) (vs:List qd):Option (Ex×St):=
 if vs.length = k/\vs.all qd.storable then some (.nor,{ s with t:=put d (.ptr s.h.length 0) s.t,h:=s.h ++ [.cells vs]}) else none
theorem qDh (d:Option Nat) (k:Nat) (x:qB):qz base call p d (.box k x) s = qIl d s k ((ev s.t x).cells.map qd.dim):=rfl
theorem qy8 (d:Option Nat) (t:List qd) (h:List qh) (e:Bool) (k:Nat) (vs:List qd):qIl d ⟨t,h,e⟩ k vs = if vs.length = k/\vs.all qd.storable then some (.nor,⟨put d (.ptr h.length 0) t,h ++ [.cells vs],e⟩) else none:=rfl
def qEw (ty:TypeId) (v:qd):Option qd:=
 match v with
 | .undef=>none
 | v=>some (.iface ty v)
theorem qyt (d:Option Nat) (ty:TypeId) (x:qB):qz base call p d (.mkI ty x) s = qgZ d s (qEw ty (ev s.t x)):=by
 rw [qa4 _ _ rfl (by simp) (by simp) (by simp)]
 simp only [pureV]
 cases ev s.t x <;> rfl
theorem qww (ty:TypeId) (cs:List qd):qEw ty (.agg cs) = some (.iface ty (.agg cs)):=rfl
theorem qwx (ty:TypeId) (k:IntKind) (n:Int):qEw ty (.int k n) = some (.iface ty (.int k n)):=rfl
theorem qDm (d:Option Nat) (f:FuncId) (a b:List qB):qz base call p d (.mkF f a b) s = some (.nor,{ s with t:=put d (.fn f (a.map (ev s.t)) (b.map (ev s.t))) s.t}):=rfl
def qgT (s i:qd):Option qd:=
 match s,i with
 | .str l,.int _ n=>if 0 <= n then (l[n.toNat]?).map λb=>.int .u8 b.toNat else none
 | _,_=>none
theorem qyr (d:Option Nat) (x i:qB):qz base call p d (.ixS x i) s = qgZ d s (qgT (ev s.t x) (ev s.t i)):=by
 rw [qa4 _ _ rfl (by simp) (by simp) (by simp)]
 simp only [pureV]
 cases ev s.t x <;> cases ev s.t i <;> rfl
theorem qaY {l:List UInt8} {k:IntKind} {n:Nat} {b:UInt8} (h:l[n]? = some b):qgT (.str l) (.int k n) = some (.int .u8 b.toNat):=by
 simp only [qgT,Int.toNat_natCast,h,jJ]
 rw [if_pos (Int.natCast_nonneg n)]
def qE8 (i:Nat) (v:qd):Option qd:=
 match v with
 | .tup vs=>(vs[i]?).map qd.dim
 | _=>none
theorem qyo (d:Option Nat) (x:qB) (i:Nat):qz base call p d (.ext x i) s = qgZ d s (qE8 i (ev s.t x)):=by
 rw [qa4 _ _ rfl (by simp) (by simp) (by simp)]
 simp only [pureV]
 cases ev s.t x <;> rfl
theorem qvU (i:Nat) (vs:List qd):qE8 i (.tup vs) = (vs[i]?).map qd.dim:=rfl
def qE5 (neg:Bool) (x y:qd):Option qd:=
 match x,y with
 | .bool a,.bool b=>some (.bool ((a == b) != neg))
 | _,_=>none
theorem qDj (d:Option Nat) (neg:Bool) (x y:qB):qz base call p d (.eqb neg x y) s = qgZ d s (qE5 neg (ev s.t x) (ev s.t y)):=by
 rw [qa4 _ _ rfl (by simp) (by simp) (by simp)]
 simp only [pureV]
 cases ev s.t x <;> cases ev s.t y <;> rfl
theorem qrC (neg a b:Bool):qE5 neg (.bool a) (.bool b) = some (.bool ((a == b) != neg)):=rfl
def qEs (k:Nat) (neg:Bool) (x y:qd):Option qd:=(qBD k x y).map λb=>.bool (b != neg)
theorem qyn (d:Option Nat) (k:Nat) (neg:Bool) (x y:qB):qz base call p d (.eqi k neg x y) s = qgZ d s (qEs k neg (ev s.t x) (ev s.t y)):=qa4 _ _ rfl (by simp) (by simp) (by simp)
def qE1 (k:IntKind) (v:qd):Option qd:=
 match v with
 | .int _ n=>some (.int k (k.wrap n))
 | _=>none
theorem qDi (d:Option Nat) (k:IntKind) (x:qB):qz base call p d (.cvi k x) s = qgZ d s (qE1 k (ev s.t x)):=by
 rw [qa4 _ _ rfl (by simp) (by simp) (by simp)]
 simp only [pureV]
 cases ev s.t x <;> rfl
theorem qvl (k j:IntKind) (n:Int):qE1 k (.int j n) = some (.int k (k.wrap n)):=rfl
def qJa:qd->Option qd
 | .lst xs _=>(qjr xs).map .str
 | _=>none
theorem qvm (n:Int) (f:qgH):qJa (.lst [.int .u8 n] f) = some (.str [UInt8.ofNat n.toNat]):=rfl
def mmV (isMax:Bool) (x y:qd):Option qd:=
 match x,y with
 | .int k a,.int _ b=>some (.int k (if isMax then (if b > a then b else a) else (if b < a then b else a)))
 | _,_=>none
theorem qDn (d:Option Nat) (m:Bool) (x y:qB):qz base call p d (.mm m x y) s = qgZ d s (mmV m (ev s.t x) (ev s.t y)):=by
 rw [qa4 _ _ rfl (by simp) (by simp) (by simp)]
 simp only [pureV]
 cases ev s.t x <;> cases ev s.t y <;> rfl
theorem qC0 (k j:IntKind) (a b:Nat):mmV true (.int k (a:Int)) (.int j (b:Int)) = some (.int k ((max a b:Nat):Int)):=by
 simp only [mmV,if_true]
 congr 2
 split <;> omega
theorem qAi (k j:IntKind) (a b:Int):mmV false (.int k a) (.int j b) = some (.int k (if b < a then b else a)):=rfl
def qIV (s:St) (v:qd):Option (Ex×St):=
 match v with
 | .iface u v=>some (.pan (.iface u v),s)
 | _=>none
theorem qDq (d:Option Nat) (x:qB):qz base call p d (.pan x) s = qIV s (ev s.t x):=by
 simp only [qz]
 cases ev s.t x <;> rfl
theorem qpC (s:St) (u:TypeId) (v:qd):qIV s (.iface u v) = some (.pan (.iface u v),s):=rfl
end
section
variable {base:Nat} {call:Call} {p:qcB} {s:St}
def qBC (len:Nat) (k:Option Nat) (a i:qd):Option qd:=
 match a,i with
 | .agg cs,.int _ n=>if 0 <= n/\n < (len:Int) then cut cs (n.toNat * k.getD 1) k else none
 | _,_=>none
theorem qyq (d:Option Nat) (len:Nat) (k:Option Nat) (a i:qB):qz base call p d (.ixA len k a i) s = qgZ d s (qBC len k (ev s.t a) (ev s.t i)):=by
 rw [qa4 _ _ rfl (by simp) (by simp) (by simp)]
 simp only [pureV]
 cases ev s.t a <;> cases ev s.t i <;> rfl
theorem qno {len n:Nat} {j:IntKind} {cs:List qd} {v:qd} (hn:n < len) (hv:cs[n]? = some v):qBC len none (.agg cs) (.int j n) = some v.dim:=by
 simp only [qBC]
 rw [if_pos ⟨zo,zo⟩]
 simp only [Int.toNat_natCast,Option.getD_none,Nat.mul_one,qm6,hv,jJ]
end
section
variable {base:Nat} {call:Call} {p q:qcB} {s:St} {t:List qd} {h:List qh}
def AOp.isApp:AOp->Bool
 | .app ..=>true
 | _=>false
def qe:List qac->Bool
 | []=>true
 | o :: os=>!o.op.isApp && qe os
def qw (s:St):AOp->Option qd
 | .mov x=>some (ev s.t x)
 | .pick c a b=>qiw (ev s.t c) (ev s.t a) (ev s.t b)
 | .ld k a=>qed s.h (ev s.t a) k
 | .bin op x y=>qeQ op (ev s.t x) (ev s.t y)
 | .un op x=>unV op (ev s.t x)
 | .fa off a=>faV off (ev s.t a)
 | .nilc x=>qwC (ev s.t x)
 | .len b x=>qsH b (ev s.t x)
 | .ixaL k x i=>qfH k (ev s.t x) (ev s.t i)
 | .fld off k x=>qFa off k (ev s.t x)
 | .ixS x i=>qgT (ev s.t x) (ev s.t i)
 | .ixA l k a i=>qBC l k (ev s.t a) (ev s.t i)
 | .ext x i=>qE8 i (ev s.t x)
 | .eqb n x y=>qE5 n (ev s.t x) (ev s.t y)
 | .eqi k n x y=>qEs k n (ev s.t x) (ev s.t y)
 | .cvi k x=>qE1 k (ev s.t x)
 | .mm m x y=>mmV m (ev s.t x) (ev s.t y)
 | .mkI t x=>qEw t (ev s.t x)
 | .lk sh z ok m key=>qnz s.h sh z ok (ev s.t m) (ev s.t key)
 | o=>pureV s.t o
def AOp.plain:AOp->Bool
 | .asg .. | .new .. | .box .. | .st .. | .call .. | .app .. | .pan .. | .hx ..=>false
 | _=>true
theorem qmB {d:Option Nat} {o:AOp} (ho:o.plain = true):qz base call p d o s = qgZ d s (qw s o):=by
 cases o <;> simp only [AOp.plain,jl] at ho
 case mov=>rfl
 case pick=>exact qtn _ _ _ _
 case ld=>exact qDl _ _ _
 case bin=>exact qym _ _ _ _
 case un=>exact qDs _ _ _
 case fa=>exact qDk _ _ _
 case nilc=>exact qtm _ _
 case len=>exact qys _ _ _
 case ixaL=>exact qtl _ _ _ _
 case fld=>exact qyp _ _ _ _
 case ixS=>exact qyr _ _ _
 case ixA=>exact qyq _ _ _ _ _
 case ext=>exact qyo _ _ _
 case eqb=>exact qDj _ _ _ _
 case eqi=>exact qyn _ _ _ _ _
 case cvi=>exact qDi _ _ _
 case mm=>exact qDn _ _ _ _
 case mkI=>exact qyt _ _ _
 case lk sh z ok m key=>simp only [qz,qw];generalize qnz s.h sh z ok (ev s.t m) (ev s.t key) = r;cases r <;> rfl
 all_goals (simp only [qz,qw];generalize pureV s.t _ = r;cases r <;> rfl)
theorem qi7 {d:Option Nat} {o:AOp} (ho:o.isApp = false):qz base call p d o s = qz base call q d o s:=by
 cases o <;> first | rfl | (simp [AOp.isApp] at ho)
def gv (q:Bool) (v:qd):qd:=bif q then v else .tup []
def qba (q:Bool) (d:Option Nat) (s:St) (r:Option qd) (k:St->Option (Ex×St)):Option (Ex×St):=
 bif q then (match r with | some v=>k { s with t:=put d v s.t} | none=>none) else k { s with t:=put d (.tup []) s.t}
def qBA (c:Bool) (r:Option qd):Option qd:=bif c then r else some (.tup [])
def qiJ (g:qd) (b:Bool) (d:Option Nat) (s:St) (r:Option qd) (k:St->Option (Ex×St)):Option (Ex×St):=
 match g with
 | .bool c=>qba (c == b) d s r k
 | .tup []=>qba false d s r k
 | _=>none
def qhL (g:qd) (b:Bool) (d:Option Nat) (s:St) (r:Option (Ex×St)) (k:St->Option (Ex×St)):Option (Ex×St):=
 match g with
 | .bool c=>bif c == b then qb1 k r else k { s with t:=put d (.tup []) s.t}
 | .tup []=>k { s with t:=put d (.tup []) s.t}
 | _=>none
def qlf (base:Nat) (call:Call):List qac->St->Option (Ex×St)
 | [],s=>some (.nor,s)
 | o :: os,s=>
  match o.guard with
  | none=>qb1 (qlf base call os) (qz base call [] o.dst o.op s)
  | some (j,b)=>
   match o.op.plain with
   | true=>qiJ (lkp s.t j) b o.dst s (qw s o.op) (qlf base call os)
   | false=>qhL (lkp s.t j) b o.dst s (qz base call [] o.dst o.op s) (qlf base call os)
theorem qnT:∀(os:List qac) (p:qcB) (s:St),qe os = true->qaK base call p os s = qlf base call os s
 | [],p,s,_=>rfl
 | o :: os,p,s,hn=>by
  simp only [qe,jk,Bool.not_eq_true'] at hn
  obtain ⟨d,op,g⟩:=o
  have ih:=λp s=>qnT os p s hn.2
  cases g with
  | none=>
   simp only [qnH,qlf]
   rw [qi7 (q:=[]) hn.1]
   congr 1
   funext s
   exact ih _ s
  | some jb=>
   obtain ⟨j,b⟩:=jb
   simp only [qto,qlf]
   have e1:(qaK base call (qaJ p ⟨d,op,some (j,b)⟩) os) = qlf base call os:=funext λs=>ih _ s
   rw [e1,ih,qi7 (q:=[]) hn.1]
   cases E:op.plain with
   | true=>
    simp only
    rw [qmB E]
    generalize qw s op = r
    generalize lkp s.t j = g
    cases g with
    | bool c=>
     simp only [qnk,qiJ,qba]
     cases c == b with
     | true=>cases r <;> rfl
     | false=>rfl
    | tup vs=>cases vs <;> rfl
    | _=>rfl
   | false=>
    simp only
    generalize lkp s.t j = g
    cases g with
    | bool c=>
     simp only [qnk,qhL]
     cases c == b <;> rfl
    | tup vs=>cases vs <;> rfl
    | _=>rfl
theorem qHL {ops:List qac} (hn:qe ops = true):qp base call (.reg ops) s = qlf base call ops s:=by
 rw [qhG,qnT ops [] s hn]
theorem qAY {ops:List qac} (E:qe ops = false):qp base call (.reg ops) s = qaK base call [] ops s:=qhG ops s
theorem qHI:qlf base call [] s = some (.nor,s):=rfl
theorem qDy (d:Option Nat) (o:AOp) (os:List qac):qlf base call (⟨d,o,none⟩ :: os) s = qb1 (qlf base call os) (qz base call [] d o s):=rfl
theorem qAW (d:Option Nat) (o:AOp) (j:Nat) (b:Bool) (os:List qac) (ho:o.plain = true):qlf base call (⟨d,o,some (j,b)⟩ :: os) s = qiJ (lkp s.t j) b d s (qw s o) (qlf base call os):=by
 simp only [qlf,ho]
theorem qAV (d:Option Nat) (o:AOp) (j:Nat) (b:Bool) (os:List qac) (ho:o.plain = false):qlf base call (⟨d,o,some (j,b)⟩ :: os) s = qhL (lkp s.t j) b d s (qz base call [] d o s) (qlf base call os):=by
 simp only [qlf,ho]
theorem qr7 (q c b:Bool) (d:Option Nat) (s:St) (r:Option qd) (k:St->Option (Ex×St)):qiJ (gv q (.bool c)) b d s r k = qba q d s (qBA (c == b) r) k:=by
 cases q <;> cases c <;> cases b <;> rfl
theorem qma (q:Bool) (d:Nat) (t:List qd) (h:List qh) (e:Bool) (v:qd) (k:St->Option (Ex×St)):qba q (some d) ⟨t,h,e⟩ (some v) k = k ⟨up t d (gv q v),h,e⟩:=by
 cases q <;> rfl
theorem qrT (c:Bool) (v:qd):qBA c (some v) = some (gv c v):=by cases c <;> rfl
theorem qoY (b:Bool) (d:Option Nat) (s:St) (r:Option (Ex×St)) (k:St->Option (Ex×St)):qhL (.bool b) b d s r k = qb1 k r:=by cases b <;> rfl
theorem qFj (q:Bool) (v:qd):gv q (gv q v) = gv q v:=by cases q <;> rfl
theorem qCc (q:Bool) (v:qd):(gv q v).dim = gv q v.dim:=by cases q <;> rfl
theorem qwO (c x:Bool):qiw (.bool c) (gv c (.bool x)) (.bool false) = some (.bool (c && x)):=by cases c <;> rfl
theorem qAQ (c x:Bool):qiw (.bool c) (.bool true) (gv (!c) (.bool x)) = some (.bool (c || x)):=by cases c <;> rfl
theorem qz3 (b:Bool):(b == true) = b:=by cases b <;> rfl
theorem qwb (b:Bool):(b == false) = !b:=by cases b <;> rfl
end
section
variable {s:St} {d:Option Nat} {k:St->Option (Ex×St)}
theorem qFl (q:Bool) (v:qd) (h':List qh) (kk:Option Nat):qba q d s (qed h' (gv q v) kk) k = qba q d s (qed h' v kk) k:=by cases q <;> rfl
theorem qCx (q:Bool) (v:qd) (b:Bool):qba q d s (qsH b (gv q v)) k = qba q d s (qsH b v) k:=by cases q <;> rfl
theorem qEO (c:Bool) (v:qd) (op:UnOp):qBA c (unV op (gv c v)) = qBA c (unV op v):=by cases c <;> rfl
theorem qz1 (q c:Bool) (v:qd) (op:UnOp):qba q d s (qBA c (unV op (gv q v))) k = qba q d s (qBA c (unV op v)) k:=by cases q <;> rfl
theorem qCw (q:Bool) (v:qd) (w:qd):qba q d s (qgT (gv q v) w) k = qba q d s (qgT v w) k:=by cases q <;> rfl
theorem qzZ (q:Bool) (v:qd) (w:qd):qba q d s (qgT w (gv q v)) k = qba q d s (qgT w v) k:=by cases q <;> rfl
theorem qCv (q:Bool) (v:qd) (op:BinOp) (w:qd):qba q d s (qeQ op (gv q v) w) k = qba q d s (qeQ op v w) k:=by cases q <;> rfl
theorem qzY (q:Bool) (v:qd) (op:BinOp) (w:qd):qba q d s (qeQ op w (gv q v)) k = qba q d s (qeQ op w v) k:=by cases q <;> rfl
theorem qz0 (q:Bool) (v:qd) (w z:qd):qba q d s (qiw (gv q v) w z) k = qba q d s (qiw v w z) k:=by cases q <;> rfl
theorem qv3 (q:Bool) (v:qd) (w z:qd):qba q d s (qiw w z (gv q v)) k = qba q d s (qiw w z v) k:=by cases q <;> rfl
end
section
variable {base:Nat} {call:Call} {s:St}
def qCZ (dsts:List Nat):Option (Ex×St)->Option (Ex×St)
 | some (.pan v,s)=>some (.pan v,{ s with t:=qcK dsts s.t})
 | r=>r
theorem qHA {base:Nat} {call:Call} {p:qcB} {d:Option Nat} {o:AOp} {s s':St} {x:Ex} (ho:o.effs = false) (h:qz base call p d o s = some (x,s')):x = .nor:=by
 cases o <;> simp only [AOp.effs,Bool.true_eq_false] at ho
 case new=>simp only [qz,jj,Prod.mk.injEq] at h;exact h.1.symm
 case box=>
  simp only [qz] at h
  split at h
  ·cases h;rfl
  ·cases h
 case ld=>
  simp only [qz] at h
  cases hl:qed s.h (ev s.t _) _ with
  | none=>rw [hl] at h;cases h
  | some v=>rw [hl] at h;cases h;rfl
 case lk sh z ok m key=>
  simp only [qz] at h
  cases hl:qnz s.h sh z ok (ev s.t m) (ev s.t key) with
  | none=>rw [hl] at h;cases h
  | some v=>rw [hl] at h;cases h;rfl
 all_goals
  simp only [qz] at h
  revert h
  generalize pureV s.t _ = r
  intro h
  cases r <;> cases h
  rfl
theorem qs7 (dsts:List Nat) (s:St):qCZ dsts (some (.nor,s)) = some (.nor,s):=rfl
theorem qs8 (dsts:List Nat) (v:qd) (t:List qd) (h:List qh) (e:Bool):qCZ dsts (some (.pan v,⟨t,h,e⟩)) = some (.pan v,⟨qcK dsts t,h,e⟩):=rfl
theorem qao {b:qD} (I:Nat->St->Prop) (Q:Ex->St->Prop)
  (step:∀k s,I k s->(∃s' k',qp base call b s = some (.nor,s')/\k' < k/\I k' s')\/∃x s',qp base call b s = some (x,s')/\x ≠ .nor/\Q x s') :
  ∀k s,I k s->∃x s',qp base call (.loop b) s = some (x,s')/\Q x s':=by
 intro k
 induction k using Nat.strongRecOn with
 | ind k ih=>
  intro s hs
  rw [qr]
  rcases step k s hs with ⟨s',k',h1,h2,h3⟩ | ⟨x,s',h1,h2,h3⟩
  ·rw [h1]
   exact ih k' h2 s' h3
  ·rw [h1]
   refine ⟨x,s',?_,h3⟩
   cases x with
   | nor=>exact absurd rfl h2
   | _=>rfl
end
section
variable {s:St} {t:List qd} {h:List qh}
def qbH (v:qd) (i:Nat) (t:List qd):List qd:=
 match v with
 | .lst xs (.own _)=>t.set i (.lst xs .no)
 | _=>t
theorem qro (t:List qd) (i:Nat):qaF t (.t i) = qbH (lkp t i) i t:=rfl
theorem qrn (t:List qd) (v:qd):qaF t (.c v) = t:=rfl
theorem qos (b:Bool) (i:Nat) (t:List qd):qbH (.bool b) i t = t:=rfl
theorem qri (k:IntKind) (n:Int) (i:Nat) (t:List qd):qbH (.int k n) i t = t:=rfl
theorem qrl (b:List UInt8) (i:Nat) (t:List qd):qbH (.str b) i t = t:=rfl
theorem qkv (i:Nat) (t:List qd):qbH .nilptr i t = t:=rfl
theorem qrk (a o:Nat) (i:Nat) (t:List qd):qbH (.ptr a o) i t = t:=rfl
theorem qou (cs:List qd) (o:Nat) (i:Nat) (t:List qd):qbH (.iptr cs o) i t = t:=rfl
theorem qrg (cs:List qd) (i:Nat) (t:List qd):qbH (.agg cs) i t = t:=rfl
theorem qrm (cs:List qd) (i:Nat) (t:List qd):qbH (.tup cs) i t = t:=rfl
theorem qvu (f:FuncId) (a b:List qd) (i:Nat) (t:List qd):qbH (.fn f a b) i t = t:=rfl
theorem qvv (xs:List qd) (i:Nat) (t:List qd):qbH (.lst xs .no) i t = t:=rfl
theorem qot (xs:List qd) (i:Nat) (t:List qd):qbH (.lst xs .full) i t = t:=rfl
theorem qrj (xs:List qd) (k i:Nat) (t:List qd):qbH (.lst xs (.own k)) i t = up t i (.lst xs .no):=rfl
theorem qlW (ty:TypeId) (v:qd) (i:Nat) (t:List qd):qbH (.iface ty v) i t = t:=rfl
theorem qrh (v:qd) (i:Nat) (t:List qd):qbH v.dim i t = t:=by
 cases v with
 | lst xs f=>cases f <;> rfl
 | _=>rfl
def qzj (v:Option qd) (vs:Option (List qd)):Option (List qd):=
 match v,vs with
 | some v,some vs=>some (v :: vs)
 | _,_=>none
theorem qAZ:qal s [] = some []:=rfl
theorem qA0 (i:Nat) (rs:List qmP):qal s (.tmp i :: rs) = qzj (some (lkp s.t i).dim) (qal s rs):=by
 simp only [qal,lkp]
 cases qal s rs <;> rfl
theorem qw5 (a:Nat) (k:Option Nat) (rs:List qmP):qal s (.cell a k :: rs) = qzj (qed s.h (lkp s.t a) k) (qal s rs):=by
 simp only [qal,lkp]
 cases qed s.h (s.t.getD a .undef) k <;> cases qal s rs <;> rfl
theorem qol (v:qd) (vs:List qd):qzj (some v) (some vs) = some (v :: vs):=rfl
theorem qpz (v:qd):qbr [v] = v:=rfl
theorem qpy:qbr [] = .tup []:=rfl
theorem qpA (a b:qd) (vs:List qd):qbr (a :: b :: vs) = .tup (a :: b :: vs):=rfl
def qx5 (h:List qh) (s:St):Option (List qd)->Option (qdf×List qh×Bool)
 | some vs=>some (leave h.length (.ret (qbr vs)) s.h s.e)
 | none=>none
theorem qrB (h:List qh) (s:St) (vs:List qd):qx5 h s (some vs) = some (leave h.length (.ret (qbr vs)) s.h s.e):=rfl
theorem qzD (fn:qn) (h:List qh) (s:St):qlZ fn h (some (.nor,s)) = qx5 h s (qal s fn.results):=by
 simp only [qlZ];cases qal s fn.results <;> rfl
theorem qzE (fn:qn) (h:List qh) (s:St):qlZ fn h (some (.ret,s)) = qx5 h s (qal s fn.results):=by
 simp only [qlZ];cases qal s fn.results <;> rfl
end
section
theorem qty (x:qB):(AOp.mov x).plain = true:=Eq.trans rfl rfl
theorem qvE (x:qB):(AOp.mov x).effs = false:=Eq.trans rfl rfl
theorem qsp (x:qB):(AOp.mov x).isApp = false:=Eq.trans rfl rfl
theorem qpJ (c a b:qB):(AOp.pick c a b).plain = true:=Eq.trans rfl rfl
theorem qo5 (c a b:qB):(AOp.pick c a b).isApp = false:=Eq.trans rfl rfl
theorem qmb (z:List qd) (ps:List (Nat×Nat×qB)):(AOp.build z ps).isApp = false:=Eq.trans rfl rfl
theorem qru (k:Nat) (z:List qd) (l:Nat) (ps:List (Nat×qB)):(AOp.list k z l ps).effs = false:=Eq.trans rfl rfl
theorem qo3 (k:Nat) (z:List qd) (l:Nat) (ps:List (Nat×qB)):(AOp.list k z l ps).isApp = false:=Eq.trans rfl rfl
theorem qwQ (k:Option Nat) (a:qB):(AOp.ld k a).plain = true:=Eq.trans rfl rfl
theorem qzA (k:Option Nat) (a:qB):(AOp.ld k a).effs = false:=Eq.trans rfl rfl
theorem qv6 (k:Option Nat) (a:qB):(AOp.ld k a).isApp = false:=Eq.trans rfl rfl
theorem qo4 (x:qB):(AOp.nilc x).isApp = false:=Eq.trans rfl rfl
theorem qtt (op:BinOp) (x y:qB):(AOp.bin op x y).plain = true:=Eq.trans rfl rfl
theorem qse (op:BinOp) (x y:qB):(AOp.bin op x y).isApp = false:=Eq.trans rfl rfl
theorem qtu (n:Bool) (x y:qB):(AOp.eqb n x y).plain = true:=Eq.trans rfl rfl
theorem qsg (n:Bool) (x y:qB):(AOp.eqb n x y).isApp = false:=Eq.trans rfl rfl
theorem qsh (k:Nat) (n:Bool) (x y:qB):(AOp.eqi k n x y).isApp = false:=Eq.trans rfl rfl
theorem qwR (op:UnOp) (x:qB):(AOp.un op x).plain = true:=Eq.trans rfl rfl
theorem qv9 (op:UnOp) (x:qB):(AOp.un op x).isApp = false:=Eq.trans rfl rfl
theorem qso (t:TypeId) (x:qB):(AOp.mkI t x).isApp = false:=Eq.trans rfl rfl
theorem qtx (f:FuncId) (a b:List qB):(AOp.mkF f a b).plain = true:=Eq.trans rfl rfl
theorem qsn (f:FuncId) (a b:List qB):(AOp.mkF f a b).isApp = false:=Eq.trans rfl rfl
theorem qpK (x:qB) (l h:Option qB):(AOp.subS x l h).plain = true:=Eq.trans rfl rfl
theorem qo6 (x:qB) (l h:Option qB):(AOp.subS x l h).isApp = false:=Eq.trans rfl rfl
theorem qwP (o:Nat) (a:qB):(AOp.fa o a).plain = true:=Eq.trans rfl rfl
theorem qzz (o:Nat) (a:qB):(AOp.fa o a).effs = false:=Eq.trans rfl rfl
theorem qv5 (o:Nat) (a:qB):(AOp.fa o a).isApp = false:=Eq.trans rfl rfl
theorem qo2 (k:Nat) (s i:qB):(AOp.ixaL k s i).isApp = false:=Eq.trans rfl rfl
theorem qo1 (n k:Nat) (a i:qB):(AOp.ixaA n k a i).isApp = false:=Eq.trans rfl rfl
theorem qtv (s i:qB):(AOp.ixS s i).plain = true:=Eq.trans rfl rfl
theorem qsl (s i:qB):(AOp.ixS s i).isApp = false:=Eq.trans rfl rfl
theorem qsk (n:Nat) (k:Option Nat) (a i:qB):(AOp.ixA n k a i).isApp = false:=Eq.trans rfl rfl
theorem qsj (o:Nat) (k:Option Nat) (x:qB):(AOp.fld o k x).isApp = false:=Eq.trans rfl rfl
theorem qsi (x:qB) (i:Nat):(AOp.ext x i).isApp = false:=Eq.trans rfl rfl
theorem qtw (b:Bool) (x:qB):(AOp.len b x).plain = true:=Eq.trans rfl rfl
theorem qsm (b:Bool) (x:qB):(AOp.len b x).isApp = false:=Eq.trans rfl rfl
theorem qv7 (b:Bool) (x y:qB):(AOp.mm b x y).isApp = false:=Eq.trans rfl rfl
theorem qss (t:TypeId) (z:qd) (x:qB):(AOp.tas t z x).isApp = false:=Eq.trans rfl rfl
theorem qvD (x:qB):(AOp.asg x).effs = true:=Eq.trans rfl rfl
theorem qsd (x:qB):(AOp.asg x).isApp = false:=Eq.trans rfl rfl
theorem qsq (cs:List qd):(AOp.new cs).isApp = false:=Eq.trans rfl rfl
theorem qsf (k:Nat) (x:qB):(AOp.box k x).isApp = false:=Eq.trans rfl rfl
theorem qzB (k:Option Nat) (a x:qB):(AOp.st k a x).effs = true:=Eq.trans rfl rfl
theorem qv8 (k:Option Nat) (a x:qB):(AOp.st k a x).isApp = false:=Eq.trans rfl rfl
theorem qpI (f:qB) (aS:List qB):(AOp.call f aS).plain = false:=Eq.trans rfl rfl
theorem qrt (f:qB) (aS:List qB):(AOp.call f aS).effs = true:=Eq.trans rfl rfl
theorem qo0 (f:qB) (aS:List qB):(AOp.call f aS).isApp = false:=Eq.trans rfl rfl
theorem qvC (k:Nat) (x y:qB):(AOp.app k x y).effs = true:=Eq.trans rfl rfl
theorem qsc (k:Nat) (x y:qB):(AOp.app k x y).isApp = true:=Eq.trans rfl rfl
theorem qsr (x:qB):(AOp.pan x).isApp = false:=Eq.trans rfl rfl
theorem qpn (n:Nat) (b:Bool):(qd.bool b).lower n = true:=Eq.trans rfl rfl
theorem qsX (n:Nat) (k:IntKind) (z:Int):(qd.int k z).lower n = true:=Eq.trans rfl rfl
theorem qsZ (n:Nat) (s:List UInt8):(qd.str s).lower n = true:=Eq.trans rfl rfl
theorem qsY (n:Nat) (xs:List qd) (f:qgH):(qd.lst xs f).lower n = qv n xs:=Eq.trans rfl rfl
theorem qmn (n:Nat) (t:TypeId) (v:qd):(qd.iface t v).lower n = v.lower n:=Eq.trans rfl rfl
theorem qsW (n:Nat) (cs:List qd):(qd.agg cs).lower n = qv n cs:=Eq.trans rfl rfl
theorem qs0 (n:Nat) (cs:List qd):(qd.tup cs).lower n = qv n cs:=Eq.trans rfl rfl
theorem qpl (n:Nat):qv n [] = true:=Eq.trans rfl rfl
theorem qdS (n:Nat) (v:qd) (vs:List qd):qv n (v :: vs) = (v.lower n && qv n vs):=Eq.trans rfl rfl
def qfG (rs:List qmP) (h:List qh):Option (Ex×St)->Option (qdf×List qh×Bool)
 | some (.nor,s) | some (.ret,s)=>qx5 h s (qal s rs)
 | some (.pan v,s)=>some (leave h.length (.pan v) s.h s.e)
 | _=>none
theorem qzC (fn:qn) (h:List qh) (r:Option (Ex×St)):qlZ fn h r = qfG fn.results h r:=by
 cases r with
 | none=>rfl
 | some r=>obtain ⟨x,s⟩:=r;cases x <;> first | rfl | exact qzD _ _ _ | exact qzE _ _ _
theorem qjv (rs:List qmP) (h:List qh) (s:St):qfG rs h (some (.nor,s)) = qx5 h s (qal s rs):=rfl
theorem qjw (rs:List qmP) (h:List qh) (s:St):qfG rs h (some (.ret,s)) = qx5 h s (qal s rs):=rfl
theorem qvM (rs:List qmP) (h:List qh) (s:St) (v:qd):qfG rs h (some (.pan v,s)) = some (leave h.length (.pan v) s.h s.e):=rfl
theorem qI5 {F:FuncId->Option qn} {X:qlu} (hX:qn7 X) {f:FuncId} {first args cap:List qd} {h:List qh} {fn:qn} (h1:X f = none) (h2:F f = some fn) :
  W F X (.fn f first cap) args h = qfG fn.results h (qp h.length (W F X) fn.code ⟨(first ++ args ++ cap).map qd.dim ++ List.replicate (fn.ntmps - ((first ++ args ++ cap).map qd.dim).length) (.tup []),h,false⟩):=by
 rw [qI4 hX h1 h2,qzC]
end
section
variable {h:List qh}
theorem qqH (cs:List qd):(qd.agg cs).cells = cs:=rfl
theorem qqI (k:IntKind) (n:Int):(qd.int k n).cells = [.int k n]:=rfl
theorem qqL (s:List UInt8):(qd.str s).cells = [.str s]:=rfl
theorem qok (b:Bool):(qd.bool b).cells = [.bool b]:=rfl
theorem qqJ (xs:List qd) (f:qgH):(qd.lst xs f).cells = [.lst xs f]:=rfl
theorem qqK (i o:Nat):(qd.ptr i o).cells = [.ptr i o]:=rfl
theorem qkn:qd.nilptr.cells = [.nilptr]:=rfl
theorem qvg (f:FuncId) (a b:List qd):(qd.fn f a b).cells = [.fn f a b]:=rfl
theorem qiq:qd.niliface.cells = [.niliface]:=rfl
theorem qlO (t:TypeId) (v:qd):(qd.iface t v).cells = [.iface t v]:=rfl
theorem qqM (i:Nat):(qd.yld i).cells = [.yld i]:=rfl
theorem qxn (k:IntKind) (n:Int):(qd.int k n).storable = true:=Eq.trans rfl rfl
theorem qxq (s:List UInt8):(qd.str s).storable = true:=Eq.trans rfl rfl
theorem quh (b:Bool):(qd.bool b).storable = true:=Eq.trans rfl rfl
theorem qxo (xs:List qd) (f:qgH):(qd.lst xs f).storable = true:=Eq.trans rfl rfl
theorem qxp (i o:Nat):(qd.ptr i o).storable = true:=Eq.trans rfl rfl
theorem qBe (f:FuncId) (a b:List qd):(qd.fn f a b).storable = true:=Eq.trans rfl rfl
theorem qvk (c:qd) (cs:List qd) (o k:Nat):cut (c :: cs) o (some k) = if o + k <= (c :: cs).length then some (.agg ((((c :: cs).drop o).take k).map qd.dim)) else none:=rfl
def ldB (k:Option Nat) (o:Nat):Option qh->Option qd
 | some (.cells cs)=>cut cs o k
 | _=>none
theorem qwg (i o:Nat) (k:Option Nat):qed h (.ptr i o) k = ldB k o h[i]?:=by
 simp only [qed,ldB]
 cases h[i]? with
 | none=>rfl
 | some b=>cases b <;> rfl
theorem qsB (k:Option Nat) (o:Nat) (cs:List qd):ldB k o (some (.cells cs)) = cut cs o k:=rfl
def qHH (k:Option Nat) (v:qd):List qd:=
 match k with
 | none=>[v]
 | some _=>v.dim.cells.map qd.dim
theorem qtJ (v:qd):qHH none v = [v]:=rfl
theorem qtK (k:Nat) (v:qd):qHH (some k) v = v.dim.cells.map qd.dim:=rfl
def stB (base:Nat) (k:Option Nat) (id o:Nat) (vs:List qd) (h:List qh):Option qh->Option (List qh×Bool)
 | some (.cells cs)=>if vs.length = k.getD 1/\o + vs.length <= cs.length/\vs.all qd.storable then some (h.set id (.cells (splice cs o vs)),!(Nat.ble base id || qv (id + 1) vs)) else none
 | _=>none
theorem qBb (base:Nat) (k:Option Nat) (id o:Nat) (v:qd):stV base k (.ptr id o) v h = stB base k id o (qHH k v) h h[id]?:=by
 simp only [stV,stB]
 cases h[id]? with
 | none=>rfl
 | some b=>cases b <;> cases k <;> rfl
theorem qug (base:Nat) (k:Option Nat) (id o:Nat) (vs cs:List qd):stB base k id o vs h (some (.cells cs)) = if vs.length = k.getD 1/\o + vs.length <= cs.length/\vs.all qd.storable then some (h.set id (.cells (splice cs o vs)),!(Nat.ble base id || qv (id + 1) vs)) else none:=rfl
theorem qK8 (h:List qh) (k:Nat):Nat.ble h.length (h.length + k) = true:=Nat.ble_eq_true_of_le (Nat.le_add_right _ _)
theorem qj {a b:Nat} (h:a <= b):Nat.ble a b = true:=Nat.ble_eq_true_of_le h
end
theorem qc0 {e r:Option (Ex×St)} (hr:e = r) {Q:Ex->St->Prop} (h:∃x s',e = some (x,s')/\Q x s'):∃x s',r = some (x,s')/\Q x s':=hr▸h
mutual
theorem beq_refl:∀v:qd,v.beq v = true
 | .undef | .nilptr | .nilfunc | .niliface | .nilmap | .nils | .empt=>rfl
 | .sl ..=>by simp [qd.beq]
 | .mp i=>by simp [qd.beq]
 | .bool b=>by simp [qd.beq]
 | .int k n=>by simp [qd.beq]
 | .str s=>by simp [qd.beq]
 | .ptr i o=>by simp [qd.beq]
 | .iptr cs o=>by simp [qd.beq,qcm cs]
 | .lst xs f=>by simp [qd.beq,qcm xs]
 | .fn f a b=>by simp [qd.beq,qcm a,qcm b]
 | .yld i=>by simp [qd.beq]
 | .iface t v=>by simp [qd.beq,beq_refl v]
 | .agg cs=>by simp [qd.beq,qcm cs]
 | .tup cs=>by simp [qd.beq,qcm cs]
theorem qcm:∀vs:List qd,qlv vs vs = true
 | []=>rfl
 | v :: vs=>by simp [qlv,beq_refl v,qcm vs]
end
section
variable {base:Nat} {call:Call} {dsts:List Nat} {s:St} {pend:List (Nat×Chk)} {h:List qh}
def qfN (h:List qh):List (Nat×Chk)->Bool
 | []=>true
 | c :: cs=>c.2.ok h && qfN h cs
theorem qvi:qfN h [] = true:=Eq.trans rfl rfl
theorem qqQ (i:Nat) (c:Chk) (cs:List (Nat×Chk)):qfN h ((i,c) :: cs) = (c.ok h && qfN h cs):=rfl
theorem qvh (l:List (Nat×Chk)):l.all (λc=>c.2.ok h) = qfN h l:=by
 induction l with
 | nil=>rfl
 | cons c l ih=>simp only [List.all_cons,qfN,ih]
def qIk (v:qd):Option qd->Bool
 | some w=>v.beq w
 | none=>false
theorem qqx (v:qd):qIk v (some v) = true:=beq_refl v
theorem qB7 (a:qd) (k:Option Nat) (v:qd):Chk.ok h (.ld a k v) = qIk v (qed h a k):=by
 simp only [Chk.ok];cases qed h a k <;> rfl
def qIj (cs:List qd):Option qh->Bool
 | some (.cells ds)=>qlv cs ds
 | _=>false
theorem qqv (cs:List qd):qIj cs (some (.cells cs)) = true:=qcm cs
theorem qzg (id:Nat) (cs:List qd):Chk.ok h (.box id cs) = qIj cs h[id]?:=by
 simp only [Chk.ok]
 cases h[id]? with
 | none=>rfl
 | some b=>cases b <;> rfl
def qfm (cl:Nat):List (Nat×Chk)->List (Nat×Chk)
 | []=>[]
 | c :: cs=>bif cl.testBit c.1 then qfm cl cs else c :: qfm cl cs
theorem qoJ (cl:Nat):qfm cl [] = []:=rfl
theorem ql5 (cl i:Nat) (c:Chk) (cs:List (Nat×Chk)):qfm cl ((i,c) :: cs) = bif cl.testBit i then qfm cl cs else (i,c) :: qfm cl cs:=rfl
theorem qrO (cl:Nat) (l:List (Nat×Chk)):l.filter (λc=>!cl.testBit c.1) = qfm cl l:=by
 induction l with
 | nil=>rfl
 | cons c l ih=>
  simp only [List.filter_cons,qfm,ih]
  cases cl.testBit c.1 <;> rfl
def qvw (dsts:List Nat) (pend:List (Nat×Chk)) (k:List (Nat×Chk)->St->Option (Ex×St)):Option (Ex×St)->Option (Ex×St)
 | some (.nor,s)=>bif qfN s.h pend then k pend s else none
 | some (.pan v,s)=>some (.pan v,{ s with t:=qcK dsts s.t})
 | _=>none
theorem qrp (k:List (Nat×Chk)->St->Option (Ex×St)) (s:St):qvw dsts pend k (some (.nor,s)) = bif qfN s.h pend then k pend s else none:=rfl
theorem qrq (k:List (Nat×Chk)->St->Option (Ex×St)) (t:List qd) (e:Bool) (v:qd):qvw dsts pend k (some (.pan v,⟨t,h,e⟩)) = some (.pan v,⟨qcK dsts t,h,e⟩):=rfl
theorem qvA:qP base call dsts [] pend s = some (.nor,s):=rfl
theorem qvy {d:Option Nat} {o:AOp} {ix cl:Nat} {ds:List qO} (ho:o.effs = true):qP base call dsts (⟨⟨d,o,none⟩,ix,cl⟩ :: ds) pend s = qvw dsts (qfm cl pend) (qP base call dsts ds) (qz base call [] d o s):=by
 simp only [qP,wanted,ho,if_true,qvh,qrO]
 cases hr:qz base call [] d o s with
 | none=>rfl
 | some r=>
  obtain ⟨x,s'⟩:=r
  cases x with
  | nor=>simp only [qvw];cases qfN s'.h (qfm cl pend) <;> rfl
  | pan v=>rfl
  | exit i=>rfl
  | ret=>rfl
def AOp.light:AOp->Bool
 | .asg .. | .new .. | .box .. | .st .. | .call .. | .app .. | .pan .. | .ld .. | .hx .. | .lk ..=>false
 | _=>true
theorem qov {d:Option Nat} {o:AOp} {ix cl:Nat} {ds:List qO} (ho:o.light = true):qP base call dsts (⟨⟨d,o,none⟩,ix,cl⟩ :: ds) pend s = qb1 (qP base call dsts ds pend) (qz base call [] d o s):=by
 have he:o.effs = false:=by cases o <;> simp_all [AOp.light,AOp.effs]
 have hc:qfM s o = none:=by cases o <;> simp_all [AOp.light,qfM]
 simp only [qP,wanted,he,jl,if_false,hc]
 cases hr:qz base call [] d o s with
 | none=>rfl
 | some r=>
  obtain ⟨x,s'⟩:=r
  have:=qHA he hr
  subst this
  rfl
def ldD (d:Option Nat) (s:St) (a:qd) (k:Option Nat) (ix:Nat) (pend:List (Nat×Chk)) (f:List (Nat×Chk)->St->Option (Ex×St)):Option qd->Option (Ex×St)
 | some v=>f ((ix,.ld a k v) :: pend) { s with t:=put d v s.t}
 | none=>none
theorem qwh (d:Option Nat) (t:List qd) (e:Bool) (a:qd) (k:Option Nat) (ix:Nat) (f:List (Nat×Chk)->St->Option (Ex×St)) (v:qd):ldD d ⟨t,h,e⟩ a k ix pend f (some v) = f ((ix,.ld a k v) :: pend) ⟨put d v t,h,e⟩:=rfl
theorem qzx {d:Option Nat} {k:Option Nat} {a:qB} {ix cl:Nat} {ds:List qO}:qP base call dsts (⟨⟨d,.ld k a,none⟩,ix,cl⟩ :: ds) pend s = ldD d s (ev s.t a) k ix pend (qP base call dsts ds) (qed s.h (ev s.t a) k):=by
 simp only [qP,wanted,AOp.effs,jl,if_false,qfM,qz]
 cases qed s.h (ev s.t a) k <;> rfl
theorem qvz {d:Option Nat} {cs:List qd} {ix cl:Nat} {ds:List qO}:qP base call dsts (⟨⟨d,.new cs,none⟩,ix,cl⟩ :: ds) pend s = qP base call dsts ds ((ix,.box s.h.length (cs.map qd.dim)) :: pend) { s with t:=put d (.ptr s.h.length 0) s.t,h:=s.h ++ [.cells (cs.map qd.dim)]}:=by
 simp only [qP,wanted,AOp.effs,jl,if_false,qfM,qz]
end
theorem qsM (x:qB):(AOp.mov x).light = true:=Eq.trans rfl rfl
theorem qml (z:List qd) (ps:List (Nat×Nat×qB)):(AOp.build z ps).light = true:=Eq.trans rfl rfl
theorem qpf (k:Nat) (z:List qd) (l:Nat) (ps:List (Nat×qB)):(AOp.list k z l ps).light = true:=Eq.trans rfl rfl
theorem qpg (x:qB):(AOp.nilc x).light = true:=Eq.trans rfl rfl
theorem qsJ (op:BinOp) (x y:qB):(AOp.bin op x y).light = true:=Eq.trans rfl rfl
theorem qwl (op:UnOp) (x:qB):(AOp.un op x).light = true:=Eq.trans rfl rfl
theorem qwk (o:Nat) (a:qB):(AOp.fa o a).light = true:=Eq.trans rfl rfl
theorem qpe (k:Nat) (s i:qB):(AOp.ixaL k s i).light = true:=Eq.trans rfl rfl
theorem qsK (x:qB) (i:Nat):(AOp.ext x i).light = true:=Eq.trans rfl rfl
theorem qsL (b:Bool) (x:qB):(AOp.len b x).light = true:=Eq.trans rfl rfl
section
variable {base:Nat} {call:Call} {p:qcB} {s:St} {t:List qd} {h:List qh}
def qdr (k:Nat) (xs ys:List qd):Bool:=decide (xs.length + ys.length <= qi) && ys.all (λy=>y.cells.length == k && y.cells.all qd.storable) && xs.head?.all (λy=>y.cells.length == k)
def qoa (d:Option Nat) (k:Nat) (ys:List qd):Option (List qd×St)->Option (Ex×St)
 | some (xs,s)=>if xs.head?.all (λy=>y.cells.length == k) then some (.nor,{ s with t:=put d (.lst (xs ++ ys) (.own k)) s.t}) else none
 | none=>none
def qyV (d:Option Nat) (k:Nat) (s:St) (tk:Option (List qd×St)) (x:qd) (ys:Option (List qd)):Option (Ex×St):=
 match x,ys with
 | .lst xs f,some ys=>
  if ys.isEmpty then some (.nor,{ s with t:=put d (qd.lst xs f).dim s.t})
  else if qdr k xs ys = true then
   match f with
   | .full=>some (.nor,{ s with t:=put d (.lst (xs ++ ys) (.own k)) s.t})
   | _=>qoa d k ys tk
  else none
 | _,_=>none
theorem qDf (d:Option Nat) (k:Nat) (x y:qB):qz base call p d (.app k x y) s = qyV d k s (qeK k p x s) (raw s.t x) (tail (ev s.t y)):=by
 simp only [qz,qyV,qdr,jk,decide_eq_true_eq,and_assoc]
 generalize raw s.t x = v
 generalize tail (ev s.t y) = w
 generalize qeK k p x s = z
 cases v <;> rfl
theorem qxt (ys:List qd) (f:qgH):tail (.lst ys f) = some ys:=rfl
theorem qxu (b:List UInt8):tail (.str b) = some (ints b):=rfl
theorem qyW (d:Option Nat) (k:Nat) (t:List qd) (e:Bool) (tk:Option (List qd×St)) (xs:List qd) (f:qgH):qyV d k ⟨t,h,e⟩ tk (.lst xs f) (some []) = some (.nor,⟨put d (qd.lst xs f).dim t,h,e⟩):=rfl
theorem qu5 {d:Option Nat} {k:Nat} {t:List qd} {e:Bool} {tk:Option (List qd×St)} {xs ys:List qd} (hy:ys.isEmpty = false) (hc:qdr k xs ys = true):qyV d k ⟨t,h,e⟩ tk (.lst xs .full) (some ys) = some (.nor,⟨put d (.lst (xs ++ ys) (.own k)) t,h,e⟩):=by
 simp only [qyV,hy,hc,jl,if_false,if_true]
theorem qBS {d:Option Nat} {k:Nat} {s:St} {tk:Option (List qd×St)} {xs ys:List qd} (hy:ys.isEmpty = false) (hc:qdr k xs ys = true):qyV d k s tk (.lst xs .no) (some ys) = qoa d k ys tk:=by
 simp only [qyV,hy,hc,jl,if_false,if_true]
theorem qqn {d:Option Nat} {k:Nat} {t:List qd} {e:Bool} {xs ys:List qd} (hc:qdr k xs ys = true):qoa d k ys (some (xs,⟨t,h,e⟩)) = some (.nor,⟨put d (.lst (xs ++ ys) (.own k)) t,h,e⟩):=by
 simp only [qdr,jk] at hc
 simp only [qoa,hc.2,if_true]
def qeI (p:qcB) (i:Nat):Option Src:=(p.find? (·.1 == i)).map (·.2)
def qxw (k b:Nat) (s:St) (v:qd):Option (List qd×St):=
 match v with
 | .lst xs (.own j)=>if j = k then some (xs,{ s with t:=s.t.set b (.lst xs .no)}) else none
 | _=>none
def qBm (k:Nat) (s:St) (id o:Nat) (c:Option qh):Option (List qd×St):=
 match c with
 | some (.cells cs)=>
  match cs[o]? with
  | some (.lst xs (.own j))=>if j = k then some (xs,{ s with h:=s.h.set id (.cells (cs.set o (.lst xs .no)))}) else none
  | _=>none
 | _=>none
def qxv (k:Nat) (s:St) (a:qd):Option (List qd×St):=
 match a with
 | .ptr id o=>qBm k s id o s.h[id]?
 | _=>none
def qpW (k:Nat) (s:St):Option Src->Option (List qd×St)
 | some (.tmp b)=>qxw k b s (lkp s.t b)
 | some (.cell a)=>qxv k s (ev s.t a)
 | none=>none
def qBo (k i:Nat) (s:St) (v:qd) (src:Option Src):Option (List qd×St):=
 match v with
 | .lst xs (.own j)=>if j = k then some (xs,{ s with t:=s.t.set i (.lst xs .no)}) else none
 | _=>qpW k s src
theorem qBp (k:Nat) (i:Nat):qeK k p (.t i) s = qBo k i s (lkp s.t i) (qeI p i):=by
 simp only [qeK,qBo,lkp,qeI]
 generalize hv:s.t.getD i .undef = v
 have key:(match p.find? (·.1 == i) with
   | some (_,.tmp b)=>
    match s.t.getD b .undef with
    | .lst xs (.own j)=>if j = k then some (xs,{ s with t:=s.t.set b (.lst xs .no)}) else none
    | _=>none
   | some (_,.cell a)=>
    match ev s.t a with
    | .ptr id o=>
     match s.h[id]? with
     | some (.cells cs)=>
      match cs[o]? with
      | some (.lst xs (.own j))=>if j = k then some (xs,{ s with h:=s.h.set id (.cells (cs.set o (.lst xs .no)))}) else none
      | _=>none
     | _=>none
    | _=>none
   | none=>none) = qpW k s ((p.find? (·.1 == i)).map (·.2)):=by
  cases p.find? (·.1 == i) with
  | none=>rfl
  | some q=>
   obtain ⟨_,src⟩:=q
   cases src with
   | tmp b=>rfl
   | cell a=>
    simp only [jJ,qpW,qxv]
    cases ev s.t a <;> rfl
 cases v with
 | lst xs f=>cases f <;> first | rfl | exact key
 | _=>exact key
theorem qxx (k i:Nat) (xs:List qd) (src:Option Src):qBo k i s (.lst xs .no) src = qpW k s src:=rfl
theorem qum (k b:Nat):qpW k s (some (.tmp b)) = qxw k b s (lkp s.t b):=rfl
theorem qpX (k:Nat) (a:qB):qpW k s (some (.cell a)) = qxv k s (ev s.t a):=rfl
theorem qun (k b:Nat) (t:List qd) (e:Bool) (xs:List qd):qxw k b ⟨t,h,e⟩ (.lst xs (.own k)) = some (xs,⟨up t b (.lst xs .no),h,e⟩):=by simp [qxw,up]
theorem qul (k id o:Nat):qxv k s (.ptr id o) = qBm k s id o s.h[id]?:=rfl
def qBn (k:Nat) (s:St) (id o:Nat) (cs:List qd) (v:Option qd):Option (List qd×St):=
 match v with
 | some (.lst xs (.own j))=>if j = k then some (xs,{ s with h:=s.h.set id (.cells (cs.set o (.lst xs .no)))}) else none
 | _=>none
theorem qmJ (k id o:Nat) (cs:List qd):qBm k s id o (some (.cells cs)) = qBn k s id o cs cs[o]?:=rfl
theorem quk (k id o:Nat) (t:List qd) (e:Bool) (cs xs:List qd):qBn k ⟨t,h,e⟩ id o cs (some (.lst xs (.own k))) = some (xs,⟨t,h.set id (.cells (cs.set o (.lst xs .no))),e⟩):=by simp [qBn]
theorem qBa (i:Nat):qeI [] i = none:=rfl
def qef (p:qcB) (d:Option Nat) (o:AOp):qcB:=
 match d with
 | none=>p
 | some d=>
  let q:=p.filter λx=>x.1 != d && !x.2.hangs d
  match qb0 o with
  | some s=>if s.hangs d then q else (d,s) :: q
  | none=>q
def qeg (p:qcB) (d:Option Nat):qcB:=
 match d with
 | none=>p.filter λx=>x.2.isTmp
 | some d=>p.filter λx=>x.2.isTmp && (x.1 != d && !x.2.hangs d)
theorem qw2 {d:Option Nat} {o:AOp} {g:Option (Nat×Bool)} (ho:o.effs = true):qaJ p ⟨d,o,g⟩ = qeg p d:=by simp only [qaJ,ho,if_true,qeg];cases d <;> rfl
theorem qAT {d:Option Nat} {o:AOp} {g:Option (Nat×Bool)} (ho:o.effs = false):qaJ p ⟨d,o,g⟩ = qef p d o:=by simp only [qaJ,ho,jl,if_false,qef];cases d <;> rfl
end
theorem qy0 (k:IntKind) (a b:Int):qeQ .add (.int k a) (.int k b) = some (.int k (k.wrap (a + b))):=by simp [qeQ,qd5]
theorem qy7 (k:IntKind) (a b:Int):qeQ .sub (.int k a) (.int k b) = some (.int k (k.wrap (a - b))):=by simp [qeQ,qd5]
theorem qy1 (k:IntKind) (a b:Int):qeQ .eql (.int k a) (.int k b) = some (.bool (a == b)):=by simp [qeQ,qd5]
theorem qy6 (k:IntKind) (a b:Int):qeQ .neq (.int k a) (.int k b) = some (.bool (!(a == b))):=by simp [qeQ,qd5,bne]
theorem qy5 (k:IntKind) (a b:Int):qeQ .lss (.int k a) (.int k b) = some (.bool (ilt a b)):=by simp [qeQ,qd5]
theorem qy4 (k:IntKind) (a b:Int):qeQ .leq (.int k a) (.int k b) = some (.bool (ile a b)):=by simp [qeQ,qd5]
theorem qy3 (k:IntKind) (a b:Int):qeQ .gtr (.int k a) (.int k b) = some (.bool (ilt b a)):=by simp [qeQ,qd5]
theorem qy2 (k:IntKind) (a b:Int):qeQ .geq (.int k a) (.int k b) = some (.bool (ile b a)):=by simp [qeQ,qd5]
theorem qBf (a b:List UInt8):qeQ .add (.str a) (.str b) = if a.length + b.length <= qi then some (.str (a ++ b)) else none:=rfl
theorem qBg (a b:List UInt8):qeQ .eql (.str a) (.str b) = some (.bool (a == b)):=rfl
theorem qBj (a b:List UInt8):qeQ .neq (.str a) (.str b) = some (.bool (!(a == b))):=rfl
theorem qBi (a b:List UInt8):qeQ .lss (.str a) (.str b) = some (.bool (Op.bytesLess a b)):=rfl
theorem qBh (a b:List UInt8):qeQ .gtr (.str a) (.str b) = some (.bool (!(Op.bytesLess a b || a == b))):=rfl
theorem qDQ (k:IntKind) (n:Int):unV .neg (.int k n) = some (.int k (k.wrap (0 - n))):=rfl
theorem qDR (b:Bool):unV .not (.bool b) = some (.bool (!b)):=rfl
section
variable {base:Nat} {call:Call} {p:qcB} {s:St}
def qfz (k:Nat) (zero:List qd) (len:Nat) (parts:List (Nat×qd)):Option qd:=
 if zero.length = k/\len * k <= 2 ^ 24 then
  match qJ ((List.replicate len zero).flatten) (parts.map λ(i,x)=>(i * k,k,x)) with
  | some cs=>if cs.all qd.storable then some (.lst ((List.range len).map λi=>if k = 1 then (cs.getD i .undef) else .agg ((cs.drop (i * k)).take k)) .full) else none
  | none=>none
 else none
theorem qAN (d:Option Nat) (k:Nat) (z:List qd) (len:Nat) (ps:List (Nat×qB)):qz base call p d (.list k z len ps) s = qgZ d s (qfz k z len (ps.map λ(i,x)=>(i,ev s.t x))):=by
 rw [qa4 _ _ rfl (by simp) (by simp) (by simp)]
 simp only [pureV,qfz,jG]
 rfl
theorem qkB {k:Nat} {z:List qd} (hz:z.length = k):∀(vs:List qd) (D:List qd) (j:Nat),D.length = j * k->(∀v ∈ vs,v.cells.length = k/\v.cells.all qd.storable = true)->
  qJ (D ++ (List.replicate vs.length z).flatten) ((vs.zipIdx j).map λx=>(x.2 * k,k,x.1)) = some (D ++ (vs.map qd.cells).flatten)
 | [],D,j,_,_=>by simp [qJ]
 | v :: vs,D,j,hD,hv=>by
  obtain ⟨h1,h2⟩:=hv v (jE ..)
  have ih:=qkB hz vs (D ++ v.cells) (j + 1) (by rw [List.length_append,hD,h1,Nat.add_mul,Nat.one_mul]) λw hw=>hv w (jI _ hw)
  simp only [List.zipIdx_cons,List.map_cons,qJ,jy,List.replicate_succ,List.flatten_cons,h2]
  rw [if_pos ⟨h1,by simp [hD,hz],trivial⟩]
  have e:splice (D ++ (z ++ (List.replicate vs.length z).flatten)) (j * k) v.cells = (D ++ v.cells) ++ (List.replicate vs.length z).flatten:=by
   unfold splice
   rw [<-hD,List.take_left,h1,<-List.drop_drop,List.drop_left,<-hz,List.drop_left]
  rw [e,ih,List.append_assoc]
theorem qkE {k:Nat}:∀(vs:List (List qd)) (i:Nat),(∀v ∈ vs,v.length = k)->i < vs.length->(vs.flatten.drop (i * k)).take k = vs.getD i []
 | [],i,_,h=>by simp at h
 | v :: vs,0,hv,_=>by
  have:=hv v (jE ..)
  simp [<-this]
 | v :: vs,i + 1,hv,h=>by
  have h1:=hv v (jE ..)
  rw [List.flatten_cons,Nat.add_mul,Nat.one_mul,ju,<-List.drop_drop,<-h1,List.drop_left,h1,qkE vs i (λw hw=>hv w (jI _ hw)) (by simpa using h)]
  rfl
theorem qhX {k:Nat} {z:List qd} (hz:z.length = k) (h1:k ≠ 1) (vs:List (List qd)) (hl:vs.length * k <= 2 ^ 24) (hv:∀v ∈ vs,v.length = k/\v.all qd.storable = true) :
  qfz k z vs.length ((vs.map qd.agg).zipIdx.map λx=>(x.2,x.1)) = some (.lst (vs.map qd.agg) .full):=by
 have hf:=qkB hz (vs.map qd.agg) [] 0 (by simp) (by simpa [qd.cells] using hv)
 simp only [List.nil_append,jQ,jG] at hf
 have hc:(vs.map (qd.cells ∘ qd.agg)).flatten = vs.flatten:=by
  congr 1
  exact (List.map_congr_left λv _=>rfl).trans (List.map_id vs)
 simp only [qfz,jG]
 rw [if_pos ⟨hz,hl⟩]
 rw [show ((λx:Nat×qd=>(x.1 * k,k,x.2)) ∘ λx:qd×Nat=>(x.2,x.1)) = λx:qd×Nat=>(x.2 * k,k,x.1) from rfl,hf,hc]
 have I:vs.flatten.all qd.storable = true:=by
  simp only [List.all_flatten,List.all_eq_true]
  exact λv E=>List.all_eq_true.1 (hv v E).2
 simp only [I,if_true,if_neg h1]
 congr 2
 apply jO
 intro i
 rw [jr,jr]
 by_cases hi:i < vs.length
 ·rw [List.getElem?_range hi,jh hi]
  simp only [jJ]
  rw [qkE vs i (λv E=>(hv v E).1) hi]
  simp [List.getD,jh hi]
 ·rw [jq (by simpa using hi),jq (by simpa using hi)]
  rfl
theorem qdv {k:Nat} {z a:List qd} (hz:z.length = k) (h1:k ≠ 1) (ha:a.length = k) (sa:a.all qd.storable = true) (hl:k <= 1000):qfz k z 1 [(0,.agg a)] = some (.lst [.agg a] .full):=
 qhX hz h1 [a] (by simp;omega) (by simpa using ⟨ha,by simpa using sa⟩)
theorem qsS {k:Nat} {z a b:List qd} (hz:z.length = k) (h1:k ≠ 1) (ha:a.length = k) (sa:a.all qd.storable = true) (hb:b.length = k) (sb:b.all qd.storable = true) (hl:k <= 1000):qfz k z 2 [(0,.agg a),(1,.agg b)] = some (.lst [.agg a,.agg b] .full):=
 qhX hz h1 [a,b] (by simp;omega) (by simpa using ⟨⟨ha,by simpa using sa⟩,hb,by simpa using sb⟩)
theorem qsT {k:Nat} {z a b c:List qd} (hz:z.length = k) (h1:k ≠ 1) (ha:a.length = k) (sa:a.all qd.storable = true) (hb:b.length = k) (sb:b.all qd.storable = true) (hc:c.length = k) (sc:c.all qd.storable = true) (hl:k <= 1000):qfz k z 3 [(0,.agg a),(1,.agg b),(2,.agg c)] = some (.lst [.agg a,.agg b,.agg c] .full):=
 qhX hz h1 [a,b,c] (by simp;omega) (by simpa using ⟨⟨ha,by simpa using sa⟩,⟨hb,by simpa using sb⟩,hc,by simpa using sc⟩)
end
def qD.noLp:qD->Bool
 | .seq a b=>a.noLp && b.noLp
 | .cond _ a b=>a.noLp && b.noLp
 | .block _ b=>b.noLp
 | .loop _=>false
 | _=>true
def qek.noLp:qek->Bool
 | .pre a r=>a.noLp && r.noLp
 | .dfr _ _ _ c=>c.noLp
section
variable {base:Nat} {call:Call}
theorem qeT (n m:Nat):∀(a:qD) (s:St),a.noLp = true->qaX n base call a s = qaX m base call a s
 | .skip,s,_=>rfl
 | .reg _,s,_=>rfl
 | .draw _,s,_=>rfl
 | .draw2 _ _ _ _,s,_=>rfl
 | .exit _,s,_=>rfl
 | .ret,s,_=>rfl
 | .rfun _ _ _ _,s,_=>rfl
 | .loop _,s,h=>by cases h
 | .seq a b,s,h=>by
  simp only [qD.noLp,jk] at h
  simp only [qaX]
  rw [qeT n m a s h.1]
  split
  ·exact qeT n m b _ h.2
  ·rfl
 | .cond c a b,s,h=>by
  simp only [qD.noLp,jk] at h
  simp only [qaX]
  split
  ·exact qeT n m a s h.1
  ·exact qeT n m b s h.2
  ·rfl
 | .block id b,s,h=>by
  simp only [qD.noLp] at h
  simp only [qaX]
  rw [qeT n m b s h]
theorem qne {n:Nat} {a:qD} {s:St} (h:a.noLp = true):qaX n base call a s = qp base call a s:=by
 apply Option.ext
 intro x
 rw [qaf]
 constructor
 ·intro hx
  exact ⟨n,hx⟩
 ·rintro ⟨m,hm⟩
  rw [qeT n m a s h]
  exact hm
def qHG (k:St->Option (Ex×St)):Option (Ex×St)->Option (Ex×St)
 | some (.nor,s)=>k s
 | some (.exit _,_)=>none
 | r=>r
theorem qwV (k:St->Option (Ex×St)) (s:St):qHG k (some (.nor,s)) = k s:=rfl
def qIU (k:St->Option (Ex×St)):Option (Ex×St)->Option (Ex×St)
 | some (.nor,s)=>k s
 | _=>none
theorem qnF (k:St->Option (Ex×St)) (s:St):qIU k (some (.nor,s)) = k s:=rfl
def qB9 (s:St):Option (Ex×St)->Option (Ex×St)
 | some (.nor,s2) | some (.ret,s2)=>some (.ret,{ s with h:=s2.h,e:=s.e || s2.e})
 | _=>none
theorem qq3 (s s2:St):qB9 s (some (.nor,s2)) = some (.ret,⟨s.t,s2.h,s.e || s2.e⟩):=rfl
noncomputable def dW (call:Call) (d:qcZ) (v:qd) (cv:List qd) (s:St):Option (Ex×St):=
 qB9 s (qIU (qp s.h.length call d.code) (qp s.h.length call (.reg d.ops) ⟨up (cv.map qd.dim ++ List.replicate (d.ntmps - cv.length) (.tup [])) d.k v.dim,s.h,false⟩))
theorem qlR {n:Nat} {d:qcZ} (hd:d.code.noLp = true) (v:qd) (cv:List qd) (s:St):qfc n call d v cv s = dW call d v cv s:=by
 rw [qfc,dW,qhG,qjV]
 cases qaK s.h.length call [] d.ops ⟨up (cv.map qd.dim ++ List.replicate (d.ntmps - cv.length) (.tup [])) d.k v.dim,s.h,false⟩ with
 | none=>rfl
 | some x=>
  obtain ⟨x,s1⟩:=x
  cases x
  case nor=>
   rw [qnF]
   simp only
   rw [qne hd]
   cases qp s.h.length call d.code s1 with
   | none=>rfl
   | some x=>obtain ⟨x,s2⟩:=x;cases x <;> rfl
  all_goals rfl
noncomputable def qE2 (call:Call) (d:qcZ) (cv:List qd):Option (Ex×St)->Option (Ex×St)
 | some (.nor,s) | some (.ret,s)=>dW call d .niliface cv s
 | some (.pan v,s)=>dW call d v cv s
 | _=>none
theorem qvn (d:qcZ) (cv:List qd) (s:St):qE2 call d cv (some (.ret,s)) = dW call d .niliface cv s:=rfl
def fnW (f:FuncId) (k:List qd->Option (Ex×St)):qd->Option (Ex×St)
 | .fn g [] cv=>if g = f then k cv else none
 | _=>none
theorem qyb (f:FuncId) (k:List qd->Option (Ex×St)) (cv:List qd):fnW f k (.fn f [] cv) = k cv:=if_pos rfl
noncomputable def gW (base:Nat) (call:Call) (d:qcZ):qek->St->Option (Ex×St)
 | .pre a r,s=>qHG (gW base call d r) (qp base call a s)
 | .dfr f E slot rest,s=>
  fnW f (λcv=>qE2 call d cv (qp base call rest ⟨up s.t slot (.fn f [] (E.map (ev s.t))),s.h,s.e⟩)) (ev (up s.t slot (.fn f [] (E.map (ev s.t)))) (.t slot))
theorem qyf (d:qcZ) (f:FuncId) (E:List qB) (slot:Nat) (rest:qD) (s:St):gW base call d (.dfr f E slot rest) s = fnW f (λcv=>qE2 call d cv (qp base call rest ⟨up s.t slot (.fn f [] (E.map (ev s.t))),s.h,s.e⟩)) (ev (up s.t slot (.fn f [] (E.map (ev s.t)))) (.t slot)):=rfl
theorem qyg (d:qcZ) (a:qD) (r:qek) (s:St):gW base call d (.pre a r) s = qHG (gW base call d r) (qp base call a s):=rfl
theorem qrW {n:Nat} {d:qcZ} (hd:d.code.noLp = true):∀(b:qek) (s:St),b.noLp = true->qds n base call d b s = gW base call d b s
 | .pre a r,s,h=>by
  simp only [qek.noLp,jk] at h
  rw [qds,qyg,qne h.1]
  cases qp base call a s with
  | none=>rfl
  | some x=>
   obtain ⟨x,s1⟩:=x
   cases x
   case nor=>exact qrW hd r s1 h.2
   all_goals rfl
 | .dfr f E slot rest,s,h=>by
  simp only [qek.noLp] at h
  rw [qds,qyf,qjV]
  generalize ev (up s.t slot (.fn f [] (E.map (ev s.t)))) (.t slot) = w
  cases w
  case fn g first cv=>
   cases first with
   | cons _ _=>rfl
   | nil=>
    by_cases hg:g = f
    ·subst hg
     rw [qyb]
     simp only [if_true]
     rw [qne h]
     generalize qp base call rest _ = x
     cases x with
     | none=>rfl
     | some x=>
      obtain ⟨x,s1⟩:=x
      cases x
      case nor=>exact qlR hd _ _ _
      case ret=>exact qlR hd _ _ _
      case pan v=>exact qlR hd _ _ _
      all_goals rfl
    ·simp only [fnW,if_neg hg]
  all_goals rfl
def qIW (ty:TypeId) (zero:qd):qd->Option qd
 | .niliface=>some (.tup [zero,.bool false])
 | .iface u v=>if u = ty then some (.tup [v,.bool true]) else some (.tup [zero,.bool false])
 | _=>none
theorem qDr {p:qcB} (d:Option Nat) (ty:TypeId) (z:qd) (x:qB) (s:St):qz base call p d (.tas ty z x) s = qgZ d s (qIW ty z (ev s.t x)):=by
 rw [qa4 _ _ rfl (by simp) (by simp) (by simp)]
 simp only [pureV]
 cases ev s.t x <;> rfl
theorem qxy (ty:TypeId) (z:qd):qIW ty z .niliface = some (.tup [z,.bool false]):=rfl
def qBx (d:Nat):Option qd->Option Nat
 | none=>some d
 | some (.int _ n)=>if 0 <= n then some n.toNat else none
 | some _=>none
def qlk (x:qd) (lo hi:Option qd):Option qd:=
 match x with
 | .str s=>match qBx s.length hi with
  | some h=>match qBx 0 lo with
   | some l=>if l <= h/\h <= s.length then some (.str ((s.drop l).take (h - l))) else none
   | none=>none
  | none=>none
 | _=>none
theorem qm2 (t:List qd) (o:Option qB) (d:Nat):bound t o d = qBx d (o.map (ev t)):=by
 cases o with
 | none=>rfl
 | some o=>simp only [bound,jJ];cases ev t o <;> rfl
theorem qdX {p:qcB} (d:Option Nat) (x:qB) (lo hi:Option qB) (s:St):qz base call p d (.subS x lo hi) s = qgZ d s (qlk (ev s.t x) (lo.map (ev s.t)) (hi.map (ev s.t))):=by
 rw [qa4 _ _ rfl (by simp) (by simp) (by simp)]
 simp only [pureV,qm2]
 cases ev s.t x <;> rfl
theorem qtI (t:List qd) (x:qB) (lo hi:Option qB):pureV t (.subS x lo hi) = qlk (ev t x) (lo.map (ev t)) (hi.map (ev t)):=by
 simp only [pureV,qm2]
 cases ev t x <;> rfl
theorem qih {s:List UInt8} {n:Nat} (hn:n <= s.length):qlk (.str s) (some (.int .i64 (n:Nat))) none = some (.str (s.drop n)):=by
 have:(0:Int) <= (n:Int):=zo
 simp only [qlk,qBx,this,if_true,Int.toNat_natCast,hn,jm,and_self]
 rw [List.take_of_length_le (by rw [List.length_drop];exact jm _)]
theorem qBk {s:List UInt8} {m:Nat} (hm:m <= s.length):qlk (.str s) none (some (.int .i64 (m:Nat))) = some (.str (s.take m)):=by
 have h2:(0:Int) <= (m:Int):=zo
 simp only [qlk,qBx,h2,if_true,Int.toNat_natCast,hm,Nat.zero_le,and_self,List.drop_zero,Nat.sub_zero]
theorem qdz {s:List UInt8} {n m:Nat} (hn:n <= m) (hm:m <= s.length):qlk (.str s) (some (.int .i64 (n:Nat))) (some (.int .i64 (m:Nat))) = some (.str ((s.drop n).take (m - n))):=by
 have h1:(0:Int) <= (n:Int):=zo
 have h2:(0:Int) <= (m:Int):=zo
 simp only [qlk,qBx,h1,h2,if_true,Int.toNat_natCast,hn,hm,and_self]
theorem qzV {n:Nat} {g:qjh} (hd:g.d.code.noLp = true) (hb:g.body.noLp = true) (aS:List qd) (h:List qh):qer n g call aS h = qfG g.results h (gW h.length call g.d g.body ⟨aS.map qd.dim ++ List.replicate (g.ntmps - aS.length) (.tup []),h,false⟩):=by
 rw [qer,qrW hd _ _ hb]
 generalize gW h.length call g.d g.body _ = r
 cases r with
 | none=>rfl
 | some x=>
  obtain ⟨x,s⟩:=x
  cases x <;> first | rfl | (simp only [qfG,qx5];cases qal s g.results <;> rfl)
end
mutual
def qbM:qd->qd
 | .lst xs _=>.lst (qbd xs) .no
 | .agg cs=>.agg (qbd cs)
 | a=>a
def qbd:List qd->List qd
 | []=>[]
 | a :: aS=>qbM a :: qbd aS
end
theorem qeN:∀l:List qd,qbd l = l.map qbM
 | []=>rfl
 | a :: l=>by rw [qbd,qeN l];rfl
theorem qij (l:List qd):(qbd l).length = l.length:=by rw [qeN,jQ]
theorem qp4 (a:qd):(qbM a).cells.length = a.cells.length:=by
 cases a with
 | agg cs=>rw [qbM];exact qij cs
 | _=>first | rfl | (rw [qbM];rfl)
section
variable {γ:Nat->Option Nat} {imm:Nat->Nat->Option Value}
mutual
theorem quE:∀(a:qd) (v:Value),qA γ imm a v->qA γ imm (qbM a) v
 | .lst xs f,v,h=>by
  rw [qA] at h
  rw [qbM,qA]
  obtain ⟨a,len,cap,h1,h2,h3,h4,h5,⟨k,h6⟩,h7⟩:=h
  refine ⟨a,len,cap,h1,by rw [qij];exact h2,h3,(λe=>nomatch e),h5,⟨k,λx hx=>?_⟩,?_⟩
  ·rw [qeN] at hx
   obtain ⟨y,hy,rfl⟩:=jP.1 hx
   rw [qp4]
   exact h6 y hy
  ·rcases h7 with rfl | ⟨b,p,e,h8⟩
   ·exact .inl rfl
   ·exact .inr ⟨b,p,e,qbN xs b p h8⟩
 | .agg cs,v,h=>by
  rw [qA] at h
  rw [qbM,qA]
  obtain ⟨x,h1,h2⟩:=h
  exact ⟨x,h1,quD cs _ h2⟩
 | .undef,v,h=>h
 | .bool _,v,h=>h
 | .int _ _,v,h=>h
 | .str _,v,h=>h
 | .nilptr,v,h=>h
 | .ptr _ _,v,h=>h
 | .iptr _ _,v,h=>h
 | .nilfunc,v,h=>h
 | .fn _ _ _,v,h=>h
 | .yld _,v,h=>h
 | .niliface,v,h=>h
 | .iface _ _,v,h=>h
 | .tup _,v,h=>h
 | .sl _ _ _ _ _,v,h=>h
 | .mp _,v,h=>h
 | .nilmap,v,h=>h
 | .nils,v,h=>h
 | .empt,v,h=>h
theorem quD:∀(aS:List qd) (vs:List Value),qk γ imm aS vs->qk γ imm (qbd aS) vs
 | [],vs,h=>h
 | a :: aS,vs,h=>by
  rw [qk] at h
  rw [qbd,qk]
  obtain ⟨v,r,h1,h2,h3⟩:=h
  exact ⟨v,r,h1,quE a v h2,quD aS r h3⟩
theorem qyC:∀(cs:List qd) (b p:Nat),qae γ imm cs b p->qae γ imm (qbd cs) b p
 | [],b,p,h=>h
 | c :: cs,b,p,h=>by
  rw [qae] at h
  rw [qbd,qae]
  obtain ⟨⟨v,h1,h2⟩,h3⟩:=h
  exact ⟨⟨v,h1,quE c v h2⟩,qyC cs b (p + 1) h3⟩
theorem qbN:∀(xs:List qd) (b p:Nat),qK γ imm xs b p->qK γ imm (qbd xs) b p
 | [],b,p,h=>h
 | .agg cs :: xs,b,p,h=>by
  rw [qK] at h
  rw [qbd,qbM,qK,qij]
  exact ⟨qyC cs b p h.1,qbN xs b _ h.2⟩
 | .lst ys f :: xs,b,p,h=>by
  rw [qK] at h
  ·have h2:=qbN xs b (p + 1) h.2
   obtain ⟨⟨v,h3,h4⟩,_⟩:=h
   have h5:=quE (.lst ys f) v h4
   rw [qbd]
   rw [qbM] at h5 ⊢
   rw [qK]
   ·exact ⟨⟨v,h3,h5⟩,h2⟩
   ·intro _ e;cases e
  ·intro _ e;cases e
 | .undef :: xs,b,p,h=>⟨h.1,qbN xs b _ h.2⟩
 | .bool _ :: xs,b,p,h=>⟨h.1,qbN xs b _ h.2⟩
 | .int _ _ :: xs,b,p,h=>⟨h.1,qbN xs b _ h.2⟩
 | .str _ :: xs,b,p,h=>⟨h.1,qbN xs b _ h.2⟩
 | .nilptr :: xs,b,p,h=>⟨h.1,qbN xs b _ h.2⟩
 | .ptr _ _ :: xs,b,p,h=>⟨h.1,qbN xs b _ h.2⟩
 | .iptr _ _ :: xs,b,p,h=>⟨h.1,qbN xs b _ h.2⟩
 | .nilfunc :: xs,b,p,h=>⟨h.1,qbN xs b _ h.2⟩
 | .fn _ _ _ :: xs,b,p,h=>⟨h.1,qbN xs b _ h.2⟩
 | .yld _ :: xs,b,p,h=>⟨h.1,qbN xs b _ h.2⟩
 | .niliface :: xs,b,p,h=>⟨h.1,qbN xs b _ h.2⟩
 | .iface _ _ :: xs,b,p,h=>⟨h.1,qbN xs b _ h.2⟩
 | .tup _ :: xs,b,p,h=>⟨h.1,qbN xs b _ h.2⟩
 | .sl _ _ _ _ _ :: xs,b,p,h=>⟨h.1,qbN xs b _ h.2⟩
 | .mp _ :: xs,b,p,h=>⟨h.1,qbN xs b _ h.2⟩
 | .nilmap :: xs,b,p,h=>⟨h.1,qbN xs b _ h.2⟩
 | .nils :: xs,b,p,h=>⟨h.1,qbN xs b _ h.2⟩
 | .empt :: xs,b,p,h=>⟨h.1,qbN xs b _ h.2⟩
end
end
def qep (n:Nat) (fn:qn) (call:Call) (aS:List qd) (h:List qh):Option (qdf×List qh×Bool):=
 match qaX n h.length call fn.code ⟨(aS.map qbM).map qd.dim ++ List.replicate (fn.ntmps - ((aS.map qbM).map qd.dim).length) (.tup []),h,false⟩ with
 | some (.nor,s) | some (.ret,s)=>
  match qal s fn.results with
  | some vs=>some (leave h.length (.ret (qbr vs)) s.h s.e)
  | none=>none
 | some (.pan v,s)=>some (leave h.length (.pan v) s.h s.e)
 | _=>none
section
variable {P:Program} {gl:Nat->Option (List qd)}
theorem qhe (af:P.follows .mixedOrders = true) {F:FuncId->Option qn} (hF:qmW P gl F) {f:FuncId} {fn:qn} (aj:F f = some fn) (n:Nat):qfI P gl f (qep n fn):=by
 intro call ih hk a8 h r h' e' E G w vv hr hn ac
 have a7:G.VL (a8.map qbM) vv.toList:=by have:=quD a8 _ ac;rwa [qeN] at this
 generalize hz:a8.map qbM = aS at *
 simp only [qep,hz] at E
 obtain ⟨pf,c,p1,p2,p3,p4,p5,p6⟩:=hF f fn aj
 refine .inl ⟨qT p1 p2 p3 _ w,λro m=>?_⟩
 have ab:vv.size = aS.length:=by have:=a7.length;simp at this ⊢;omega
 let t0:List qd:=aS.map qd.dim ++ List.replicate (fn.ntmps - (aS.map qd.dim).length) (.tup [])
 let a0:Act:={ tmps:=vv ++ Array.replicate (pf.ntmps - vv.size) undef,defers:=[]}
 have ak:Cfg P gl G h t0 a0 w:=by
  refine ⟨hr,qaE.start ?_ λz hz=>?_⟩
  ·simp only [t0,a0,Array.toList_append,Array.toList_replicate]
   refine qk.append a7.dims ?_
   rw [p6,ab]
   simp only [jQ]
   exact qk.replicate _ (by simp [qA,qk,undef])
  ·simp only [t0] at hz
   rcases jH.1 hz with hz | hz
   ·obtain ⟨q,_,rfl⟩:=jP.1 hz;exact qbg q
   ·rw [(List.mem_replicate.1 hz).2];rfl
 have hW:∀x s,qaX n h.length call fn.code ⟨t0,h,false⟩ = some (x,s)->c.wpIn (FR none) m P (qn2 P gl h.length G w w.heap.size false [] x s) a0 w:=λx s hx=>
  qb7 af ih hk (N:=n) (base:=h.length) (lo:=w.heap.size) (rf:=false) (fx:=[]) (ro:=none) (m:=m) c fn.code p4 (λh=>by cases h) G w ⟨t0,h,false⟩ a0 x s ak (jm _) (λ_ hq=>by cases hq) qh1 (jm _) hx
 have a6:∀x s I,qaX n h.length call fn.code ⟨t0,h,false⟩ = some (x,s)->(x = .nor\/x = .ret)->qal s fn.results = some I->leave h.length (.ret (qbr I)) s.h s.e = (r,h',e')->CallsIn (FR ro) m P f vv w (qmR P gl h.length G w r h'):=by
  intro x s I hx ae U ai
  have k:=qH (base:=h.length) hk n fn.code _ s _ (jm _) hx
  refine qbu (m:=m) (callsIn_of_wp_marks (F:=FR none) p1 p3 trivial (wpIn_mono (hW x s hx) λe a' w' a1=>?_) rfl)
  obtain ⟨G',g1,⟨ms,Y,g2,_⟩,g3⟩:=a1
  rw [jF] at Y
  rw [<-Y] at g2
  have key:Cfg P gl G' s.h s.t a' w'->LeavesInM (FR none) m P pf a'.tmps (qmR P gl h.length G w r h') a'.defers .returning w':=by
   intro hc
   refine qey (by simp) a'.defers w' g2 g1 hc.rel hc.tr λad q1 q2 q3=>?_
   obtain ⟨u,r1,r2⟩:=qdY (a:=a') ⟨q2,q3⟩ p5 U
   obtain ⟨rfl,aa,y1,y2,y3,y4⟩:=qca hr q1 q2 ⟨k.1,λhe=>(k.2 he).2⟩ ai
   exact ⟨u,r1,_,aa,rfl,y1,y2,y3,y4 _ u (.inl rfl) r2⟩
  rcases ae with rfl | rfl
  ·obtain ⟨rfl,g3⟩:=g3;exact key g3
  ·obtain ⟨rfl,g3⟩:=g3;exact key g3
 split at E
 ·rename_i s hx
  split at E
  ·rename_i I U
   exact a6 _ s I hx (.inl rfl) U (Option.some.inj E)
  ·cases E
 ·rename_i s hx
  split at E
  ·rename_i I U
   exact a6 _ s I hx (.inr rfl) U (Option.some.inj E)
  ·cases E
 ·rename_i v s hx
  have k:=qH (base:=h.length) hk n fn.code _ s _ (jm _) hx
  refine qbu (m:=m) (callsIn_of_wp_marks (F:=FR none) p1 p3 trivial (wpIn_mono (hW _ s hx) λe a' w' a1=>?_) rfl)
  obtain ⟨G',g1,⟨ms,Y,g2,_⟩,u,rfl,g3,g4⟩:=a1
  rw [jF] at Y
  rw [<-Y] at g2
  refine qdN (by simp) a'.defers w' g2 g1 g3.rel λad q1 q2=>?_
  obtain ⟨rfl,aa,y1,y2,y3,y4⟩:=qca hr q1 q2 ⟨k.1,λhe=>(k.2 he).2⟩ (Option.some.inj E)
  exact ⟨v,u,aa,rfl,rfl,y1,y2,y3,y4 _ u (.inr rfl) g4⟩
 ·cases E
end
theorem qdI {n:Nat} {fn:qn} {call:AE.Call} (hk:qM call):qM λ_ aS h=>qep n fn call aS h:=by
 intro fv aS h r h' e' hr
 simp only [qep] at hr
 split at hr
 ·rename_i s h1
  have k:=qH (base:=h.length) hk n fn.code ⟨_,h,false⟩ s _ (jm _) h1
  split at hr
  ·rename_i vs E
   have:=qa3 (r:=.ret (qbr vs)) (h:=h) ⟨k.1,λhe=>(k.2 he).2⟩
   rw [Option.some.inj hr] at this
   exact this
  ·cases hr
 ·rename_i s h1
  have k:=qH (base:=h.length) hk n fn.code ⟨_,h,false⟩ s _ (jm _) h1
  split at hr
  ·rename_i vs E
   have:=qa3 (r:=.ret (qbr vs)) (h:=h) ⟨k.1,λhe=>(k.2 he).2⟩
   rw [Option.some.inj hr] at this
   exact this
  ·cases hr
 ·rename_i v s h1
  have k:=qH (base:=h.length) hk n fn.code ⟨_,h,false⟩ s _ (jm _) h1
  have:=qa3 (r:=.pan v) (h:=h) ⟨k.1,λhe=>(k.2 he).2⟩
  rw [Option.some.inj hr] at this
  exact this
 ·cases hr
theorem qoI {c d:Call} (hc:CLe c d) {n:Nat} {fn:qn} {aS:List qd} {h:List qh}:Le (qep n fn c aS h) (qep n fn d aS h):=λx hx=>by
 simp only [qep] at hx ⊢
 split at hx
 ·rename_i E;rw [qE hc (jm _) _ _ _ E];exact hx
 ·rename_i E;rw [qE hc (jm _) _ _ _ E];exact hx
 ·rename_i E;rw [qE hc (jm _) _ _ _ E];exact hx
 ·cases hx
theorem qoH {c:Nat->Call} (hc:qd2 c) {n:Nat} {fn:qn} {aS:List qd} {h:List qh} {x:qdf×List qh×Bool} (hx:qep n fn (qph c) aS h = some x):∃k,qep n fn (c k) aS h = some x:=by
 simp only [qep] at hx ⊢
 split at hx
 ·rename_i E;obtain ⟨k1,h1⟩:=qat hc _ _ _ E;exact ⟨k1,by rw [h1];exact hx⟩
 ·rename_i E;obtain ⟨k1,h1⟩:=qat hc _ _ _ E;exact ⟨k1,by rw [h1];exact hx⟩
 ·rename_i E;obtain ⟨k1,h1⟩:=qat hc _ _ _ E;exact ⟨k1,by rw [h1];exact hx⟩
 ·cases hx
theorem qzQ {n:Nat} {fn:qn} {call:Call} (hb:fn.code.noLp = true) (aS:List qd) (h:List qh):qep n fn call aS h = qfG fn.results h (qp h.length call fn.code ⟨(aS.map qbM).map qd.dim ++ List.replicate (fn.ntmps - ((aS.map qbM).map qd.dim).length) (.tup []),h,false⟩):=by
 rw [qep,qne hb]
 generalize qp h.length call fn.code _ = r
 cases r with
 | none=>rfl
 | some r=>obtain ⟨x,s⟩:=r;cases x <;> first | rfl | (simp only [qjv,qjw,qx5];rfl) | (simp only [qjv,qjw];cases qal s fn.results <;> rfl)
noncomputable def qFd (t:List qd):Nat->qd:=List.rec (motive:=λ_=>Nat->qd) (λ_=>.undef) (λa _ ih n=>Nat.rec (motive:=λ_=>qd) a (λm _=>ih m) n) t
noncomputable def qiy (v:qd) (t:List qd):Nat->List qd:=List.rec (motive:=λ_=>Nat->List qd) (λ_=>[]) (λa aS ih n=>Nat.rec (motive:=λ_=>List qd) (v :: aS) (λm _=>a :: ih m) n) t
theorem ql7:∀(t:List qd) (i:Nat),qFd t i = t.getD i .undef
 | [],_=>rfl
 | _ :: _,0=>rfl
 | _ :: t,i + 1=>ql7 t i
theorem qt6 (v:qd):∀(t:List qd) (i:Nat),qiy v t i = t.set i v
 | [],_=>rfl
 | _ :: _,0=>rfl
 | a :: t,i + 1=>congrArg (a :: ·) (qt6 v t i)
noncomputable def qyd (k:IntKind) (n:Int):qd:=
 Int.rec (motive:=λ_=>qd) (λm=>Nat.rec (motive:=λ_=>qd) (.int k (.ofNat 0)) (λp _=>.int k (.ofNat (p + 1))) m) (λm=>.int k (.negSucc m)) n
noncomputable def qyc (b:Bool):qd:=Bool.rec (motive:=λ_=>qd) (.bool false) (.bool true) b
noncomputable def qE3 (v:qd):qd:=
 qd.casesOn (motive_1:=λ_=>qd) v .undef .bool .int .str .nilptr .ptr .iptr (λxs f=>qgH.casesOn (motive:=λ_=>qd) f (.lst xs .no) (.lst xs .full) (λ_=>.lst xs .no)) .nilfunc .fn .yld .niliface .iface .agg .tup .sl .mp .nilmap .nils .empt
noncomputable def qye (v:qd):qd:=
 qd.casesOn (motive_1:=λ_=>qd) v .undef qyc qyd .str .nilptr .ptr .iptr .lst .nilfunc .fn .yld .niliface .iface .agg .tup .sl .mp .nilmap .nils .empt
theorem qrP (b:Bool):qyc b = .bool b:=by cases b <;> rfl
theorem qrQ (k:IntKind) (n:Int):qyd k n = .int k n:=by
 cases n with
 | ofNat m=>cases m <;> rfl
 | negSucc m=>rfl
theorem qra:qE3 = qd.dim:=by
 funext v
 cases v <;> try rfl
 rename_i xs f
 cases f <;> rfl
theorem qrR (v:qd):qye v = v:=by cases v <;> first | rfl | exact qrP _ | exact qrQ _ _
noncomputable def qHM (d:Nat) (v:qd) (t:List qd):List qd:=
 qd.casesOn (motive_1:=λ_=>List qd) (qye v) (qiy .undef t d) (λb=>qiy (.bool b) t d) (λk n=>qiy (.int k n) t d) (λx=>qiy (.str x) t d) (qiy .nilptr t d) (λa b=>qiy (.ptr a b) t d) (λa b=>qiy (.iptr a b) t d) (λa b=>qiy (.lst a b) t d)
  (qiy .nilfunc t d) (λa b c=>qiy (.fn a b c) t d) (λa=>qiy (.yld a) t d) (qiy .niliface t d) (λa b=>qiy (.iface a b) t d) (λa=>qiy (.agg a) t d) (λa=>qiy (.tup a) t d) (λa b c e f=>qiy (.sl a b c e f) t d) (λa=>qiy (.mp a) t d) (qiy .nilmap t d) (qiy .nils t d) (qiy .empt t d)
theorem qA6 (d:Nat) (v:qd) (t:List qd):qHM d v t = t.set d v:=by
 unfold qHM
 rw [qrR]
 cases v <;> exact qt6 _ _ _
noncomputable def quS (t:List qd):qB->qd
 | .t i=>qFd t i
 | .c v=>v
noncomputable def evF (t:List qd) (x:qB):qd:=qE3 (quS t x)
noncomputable def qmw (dst:Option Nat) (v:qd) (t:List qd):List qd:=
 match dst with
 | some d=>qHM d v t
 | none=>t
noncomputable def qhb (t:List qd) (x:qB):List qd:=
 match x with
 | .t i=>match qFd t i with
  | .lst xs (.own _)=>t.set i (.lst xs .no)
  | _=>t
 | .c _=>t
theorem qgz:quS = raw:=by
 funext t x
 cases x
 ·exact ql7 _ _
 ·rfl
theorem qhF:evF = ev:=by
 funext t x
 simp only [evF,ev,qgz,qra]
theorem qmx:qmw = put:=by
 funext d v t
 cases d
 ·rfl
 ·exact qA6 _ _ _
theorem qlX:qhb = qaF:=by
 funext t x
 cases x
 ·simp only [qhb,qaF,ql7]
  rfl
 ·rfl
noncomputable def qgK (t:List qd) (x:Option qB) (d:Nat):Option Nat:=
 match x with
 | none=>some d
 | some x=>match evF t x with
  | .int _ n=>if 0 <= n then some n.toNat else none
  | _=>none
noncomputable def qtG (t:List qd) (o:AOp):Option qd:=
 match o with
 | .mov x=>some (evF t x)
 | .pick c a b=>match evF t c with
  | .bool true=>some (evF t a)
  | .bool false=>some (evF t b)
  | _=>none
 | .build zero parts=>(qJ zero (parts.map λ(o,s,x)=>(o,s,evF t x))).map .agg
 | .list k zero len parts=>
  if zero.length = k/\len * k <= 2 ^ 24 then
   match qJ ((List.replicate len zero).flatten) (parts.map λ(i,x)=>(i * k,k,evF t x)) with
   | some cs=>if cs.all qd.storable then some (.lst ((List.range len).map λi=>if k = 1 then (cs.getD i .undef) else .agg ((cs.drop (i * k)).take k)) .full) else none
   | none=>none
  else none
 | .nilc x=>match evF t x with
  | .ptr i o=>some (.ptr i o)
  | .iptr cs o=>some (.iptr cs o)
  | .fn f a b=>some (.fn f a b)
  | .yld l=>some (.yld l)
  | .iface u v=>some (.iface u v)
  | _=>none
 | .bin op x y=>qeQ op (evF t x) (evF t y)
 | .eqb neg x y=>match evF t x,evF t y with
  | .bool a,.bool b=>some (.bool ((a == b) != neg))
  | _,_=>none
 | .eqi k neg x y=>(qBD k (evF t x) (evF t y)).map λb=>.bool (b != neg)
 | .eqa neg x y=>match evF t x,evF t y with
  | .agg a,.agg b=>(qlN a b).map λr=>.bool (r != neg)
  | _,_=>none
 | .eqs sh neg x y=>(ql1 sh (evF t x) (evF t y)).map λr=>.bool (r != neg)
 | .un op x=>unV op (evF t x)
 | .nls neg x=>match evF t x with
  | .sl ..=>some (.bool (false != neg))
  | .lst (_ :: _) _=>some (.bool (false != neg))
  | .nils=>some (.bool (true != neg))
  | .empt=>some (.bool (false != neg))
  | _=>none
 | .cvi k x=>match evF t x with
  | .int _ n=>some (.int k (k.wrap n))
  | _=>none
 | .cvs x=>match evF t x with
  | .str s=>some (.str s)
  | _=>none
 | .cvb x=>match evF t x with
  | .str s=>some (.lst (ints s) .no)
  | _=>none
 | .cvt x=>match evF t x with
  | .lst xs _=>(qjr xs).map .str
  | _=>none
 | .mkI ty x=>match evF t x with
  | .undef=>none
  | v=>some (.iface ty v)
 | .mkF f a b=>some (.fn f (a.map (evF t)) (b.map (evF t)))
 | .subS x lo hi=>match evF t x with
  | .str s=>match qgK t hi s.length with
   | some h=>match qgK t lo 0 with
    | some l=>if l <= h/\h <= s.length then some (.str ((s.drop l).take (h - l))) else none
    | none=>none
   | none=>none
  | _=>none
 | .subL k x lo hi=>match evF t x with
  | .lst xs f=>match qgK t hi xs.length with
   | some h=>match qgK t lo 0 with
    | some l=>
     if l <= h/\h <= xs.length then
      if xs.head?.all (λy=>y.cells.length == k) then some (.lst ((xs.drop l).take (h - l)) (if h = xs.length then f else .no)) else none
     else none
    | none=>none
   | none=>none
  | .sl id o len cap more=>match qgK t hi len with
   | some h=>match qgK t lo 0 with
    | some l=>
     if l <= h/\h <= cap then
      if cap = l then (if more = 0 then some (.lst [] .full) else none) else (if more = 0\/more = k then some (.sl id (o + l * k) (h - l) (cap - l) more) else none)
     else none
    | none=>none
   | none=>none
  | _=>none
 | .fa off a=>match evF t a with
  | .ptr i o=>some (.ptr i (o + off))
  | .iptr cs o=>some (.iptr cs (o + off))
  | _=>none
 | .ixaL k s i=>match evF t s,evF t i with
  | .lst xs _,.int _ n=>
   if 0 <= n/\n < xs.length then
    match xs[n.toNat]? with
    | some x=>if x.cells.length = k then some (.iptr x.cells 0) else none
    | none=>none
   else none
  | .sl id o len _ _,.int _ n=>if 0 <= n/\n < len then some (.ptr id (o + n.toNat * k)) else none
  | _,_=>none
 | .ixaA len k a i=>match evF t a,evF t i with
  | .ptr b o,.int _ n=>if 0 <= n/\n < (len:Int) then some (.ptr b (o + n.toNat * k)) else none
  | .iptr cs o,.int _ n=>if 0 <= n/\n < (len:Int) then some (.iptr cs (o + n.toNat * k)) else none
  | _,_=>none
 | .ixS s i=>match evF t s,evF t i with
  | .str l,.int _ n=>if 0 <= n then (l[n.toNat]?).map λb=>.int .u8 b.toNat else none
  | _,_=>none
 | .ixA len k a i=>match evF t a,evF t i with
  | .agg cs,.int _ n=>if 0 <= n/\n < (len:Int) then cut cs (n.toNat * k.getD 1) k else none
  | _,_=>none
 | .fld off k x=>match evF t x with
  | .agg cs=>cut cs off k
  | _=>none
 | .ext x i=>match evF t x with
  | .tup vs=>(vs[i]?).map qd.dim
  | _=>none
 | .len true x=>match evF t x with
  | .str s=>some (.int .i64 s.length)
  | _=>none
 | .len false x=>match evF t x with
  | .lst xs _=>some (.int .i64 xs.length)
  | .sl _ _ len _ _=>some (.int .i64 len)
  | .nils=>some (.int .i64 0)
  | .empt=>some (.int .i64 0)
  | _=>none
 | .mm isMax x y=>match evF t x,evF t y with
  | .int k a,.int _ b=>some (.int k (if isMax then (if b > a then b else a) else (if b < a then b else a)))
  | _,_=>none
 | .tas ty zero x=>match evF t x with
  | .niliface=>some (.tup [zero,.bool false])
  | .iface u v=>if u = ty then some (.tup [v,.bool true]) else some (.tup [zero,.bool false])
  | _=>none
 | _=>none
noncomputable def qup (k:Nat) (p:qcB) (x:qB) (s:St):Option (List qd×St):=
 match x with
 | .c _=>none
 | .t i=>
  match quS s.t (.t i) with
  | .lst xs (.own j)=>if j = k then some (xs,{ s with t:=s.t.set i (.lst xs .no)}) else none
  | _=>
   match p.find? (·.1 == i) with
   | some (_,.tmp b)=>
    match quS s.t (.t b) with
    | .lst xs (.own j)=>if j = k then some (xs,{ s with t:=s.t.set b (.lst xs .no)}) else none
    | _=>none
   | some (_,.cell a)=>
    match evF s.t a with
    | .ptr id o=>
     match s.h[id]? with
     | some (.cells cs)=>
      match cs[o]? with
      | some (.lst xs (.own j))=>if j = k then some (xs,{ s with h:=s.h.set id (.cells (cs.set o (.lst xs .no)))}) else none
      | _=>none
     | _=>none
    | _=>none
   | none=>none
noncomputable def qnS (base:Nat) (call:Call) (p:qcB) (dst:Option Nat) (o:AOp) (s:St):Option (Ex×St):=
 match o with
 | .asg x=>some (.nor,{ s with t:=qmw dst (quS s.t x) (qhb s.t x)})
 | .new cs=>some (.nor,{ s with t:=qmw dst (.ptr s.h.length 0) s.t,h:=s.h ++ [.cells (cs.map qd.dim)]})
 | .box k x=>
  let vs:=(evF s.t x).cells.map qd.dim
  if vs.length = k/\vs.all qd.storable then some (.nor,{ s with t:=qmw dst (.ptr s.h.length 0) s.t,h:=s.h ++ [.cells vs]}) else none
 | .ld k a=>(qed s.h (evF s.t a) k).map λv=>(.nor,{ s with t:=qmw dst v s.t})
 | .st k a x=>
  match evF s.t a with
  | .ptr id o=>
   match s.h[id]? with
   | some (.cells cs)=>
    let v:=quS s.t x
    let vs:=match k with | none=>[v] | some _=>v.dim.cells.map qd.dim
    if vs.length = k.getD 1/\o + vs.length <= cs.length/\vs.all qd.storable then
     some (.nor,{ t:=qmw dst .undef (qhb s.t x),h:=s.h.set id (.cells (splice cs o vs)),e:=s.e || !(Nat.ble base id || qv (id + 1) vs)})
    else none
   | _=>none
  | _=>none
 | .call f args=>
  match call (evF s.t f) (args.map (evF s.t)) s.h with
  | some (.ret v,h,e)=>some (.nor,{ t:=qmw dst v.dim s.t,h,e:=s.e || e})
  | some (.pan v,h,e)=>some (.pan v,{ s with h,e:=s.e || e})
  | none=>none
 | .app k x y=>
  match quS s.t x,tail (evF s.t y) with
  | .lst xs f,some ys=>
   if ys.isEmpty then some (.nor,{ s with t:=qmw dst (qd.lst xs f).dim s.t})
   else if xs.length + ys.length <= qi/\ys.all (λy=>y.cells.length == k && y.cells.all qd.storable)/\xs.head?.all (λy=>y.cells.length == k) then
    match f with
    | .full=>some (.nor,{ s with t:=qmw dst (.lst (xs ++ ys) (.own k)) s.t})
    | _=>
     match qup k p x s with
     | some (xs,s)=>if xs.head?.all (λy=>y.cells.length == k) then some (.nor,{ s with t:=qmw dst (.lst (xs ++ ys) (.own k)) s.t}) else none
     | none=>none
   else none
  | _,_=>none
 | .pan x=>match evF s.t x with
  | .iface u v=>some (.pan (.iface u v),s)
  | _=>none
 | .lk sh z ok m key=>(qnz s.h sh z ok (evF s.t m) (evF s.t key)).map λv=>(.nor,{ s with t:=qmw dst v s.t})
 | .hx o aS=>(hop base o (aS.map (evF s.t)) s.h).map λr=>(.nor,{ t:=qmw dst r.1.dim s.t,h:=r.2.1,e:=s.e || r.2.2})
 | o=>(qtG s.t o).map λv=>(.nor,{ s with t:=qmw dst v s.t})
noncomputable def qj6 (t:List qd) (g:Option (Nat×Bool)):Option Bool:=
 match g with
 | none=>some true
 | some (j,b)=>match quS t (.t j) with
  | .bool c=>some (c == b)
  | .tup []=>some false
  | _=>none
noncomputable def qia (base:Nat) (call:Call):qcB->List qac->St->Option (Ex×St)
 | _,[],s=>some (.nor,s)
 | p,o :: os,s=>
  match qj6 s.t o.guard with
  | some true=>
   match qnS base call p o.dst o.op s with
   | some (.nor,s)=>qia base call (qaJ p o) os s
   | r=>r
  | some false=>qia base call (qaJ p { o with op:=.pick (.c .undef) (.c .undef) (.c .undef)}) os { s with t:=qmw o.dst (.tup []) s.t}
  | none=>none
noncomputable def qqO (s:St) (o:AOp):Option Chk:=
 match o with
 | .ld k a=>(qed s.h (evF s.t a) k).map (.ld (evF s.t a) k)
 | .lk sh z ok m key=>(qnz s.h sh z ok (evF s.t m) (evF s.t key)).map (.lk sh z ok (evF s.t m) (evF s.t key))
 | .new cs=>some (.box s.h.length (cs.map qd.dim))
 | .box _ x=>some (.box s.h.length ((evF s.t x).cells.map qd.dim))
 | _=>none
noncomputable def qcl (base:Nat) (call:Call) (dsts:List Nat):List qO->List (Nat×Chk)->St->Option (Ex×St)
 | [],_,s=>some (.nor,s)
 | d :: ds,pend,s=>
  match qj6 s.t d.o.guard with
  | some true=>
   match qnS base call [] d.o.dst d.o.op s with
   | some (.nor,s')=>
    if d.o.op.effs then
     let E:=pend.filter λc=>!d.cl.testBit c.1
     if E.all (λc=>c.2.ok s'.h) then qcl base call dsts ds E s' else none
    else
     match qqO s d.o.op with
     | some c=>qcl base call dsts ds ((d.ix,c) :: pend) s'
     | none=>qcl base call dsts ds pend s'
   | some (.pan v,s')=>if d.o.op.effs then some (.pan v,{ s' with t:=qcK dsts s'.t}) else none
   | _=>none
  | some false=>qcl base call dsts ds pend { s with t:=qmw d.o.dst (.tup []) s.t}
  | none=>none
noncomputable def qdl (n base:Nat) (call:Call):qD->St->Option (Ex×St)
 | .skip,s=>some (.nor,s)
 | .reg ops,s=>qia base call [] ops s
 | .draw ops,s=>qcl base call (ops.filterMap (·.o.dst)) ops [] s
 | .draw2 c a b r,s=>qxR a b (qcl base call ((c ++ a :: b :: r).filterMap (·.o.dst)) (c ++ [a,b]) [] s) (qcl base call ((c ++ a :: b :: r).filterMap (·.o.dst)) (c ++ a :: b :: r) [] s) (qcl base call ((c ++ a :: b :: r).filterMap (·.o.dst)) (c ++ b :: a :: r) [] s)
 | .seq a b,s=>match qdl n base call a s with
  | some (.nor,s)=>qdl n base call b s
  | r=>r
 | .cond c a b,s=>match evF s.t c with
  | .bool true=>qdl n base call a s
  | .bool false=>qdl n base call b s
  | _=>none
 | .block id b,s=>match qdl n base call b s with
  | some (.exit j,s)=>if j = id then some (.nor,s) else some (.exit j,s)
  | r=>r
 | .loop b,s=>iter (qdl n base call b) n s
 | .exit id,s=>some (.exit id,s)
 | .ret,s=>some (.ret,s)
 | .rfun f ps asg body,s=>
  match evF s.t f with
  | .fn g first cap=>
   match call (.fn g first cap) [.yld s.h.length] (s.h ++ [.loop (s.t.map qd.dim) ps asg body .ready none]) with
   | some (.ret _,h,e)=>
    match h[s.h.length]? with
    | some (.loop t Y U I st pend)=>
     if st = .busy then none else
     let s':St:={ s with h:=h.set s.h.length (.loop t Y U I .exhausted pend),e:=s.e || e}
     match pend with
     | none=>some (.nor,s')
     | some .ret=>some (.ret,s')
     | some (.exit id)=>some (.exit id,s')
    | _=>none
   | some (.pan v,h,e)=>some (.pan v,{ s with h,e:=s.e || e})
   | none=>none
  | _=>none
noncomputable def qe3 (s:St):List qmP->Option (List qd)
 | []=>some []
 | .tmp i :: rs=>match qe3 s rs with
  | some vs=>some (qE3 (quS s.t (.t i)) :: vs)
  | none=>none
 | .cell a k :: rs=>
  match qed s.h (quS s.t (.t a)) k,qe3 s rs with
  | some v,some vs=>some (v :: vs)
  | _,_=>none
noncomputable def qtO (n:Nat) (call:Call) (l:Nat) (args:List qd) (h:List qh):Option (qdf×List qh×Bool):=
 match h[l]? with
 | some (.loop t ps asg body _ _)=>
  if args.length ≠ ps.length then none else
  let base:=h.length
  match qdl n base call asg ⟨qkb t ps (args.map qd.dim),h,false⟩ with
  | some (.nor,s)=>
   match s.h[l]? with
   | some (.loop t1 ps1 asg1 body1 .ready pend)=>
    match qdl n base call body { s with h:=s.h.set l (.loop t1 ps1 asg1 body1 .busy pend)} with
    | some (x,s)=>
     match s.h[l]? with
     | some (.loop t2 ps2 asg2 body2 _ _)=>
      match x with
      | .nor=>some (leave base (.ret (.bool true)) (s.h.set l (.loop t2 ps2 asg2 body2 .ready none)) s.e)
      | .ret=>some (leave base (.ret (.bool false)) (s.h.set l (.loop t2 ps2 asg2 body2 .done (some .ret))) s.e)
      | .exit id=>some (leave base (.ret (.bool false)) (s.h.set l (.loop t2 ps2 asg2 body2 .done (some (.exit id)))) s.e)
      | .pan _=>none
     | _=>none
    | none=>none
   | _=>none
  | _=>none
 | _=>none
noncomputable def qBE (F:FuncId->Option qn) (X:qlu):Nat->Call
 | 0=>λ_ _ _=>none
 | n + 1=>λfv args h=>
  match fv with
  | .fn f first cap=>
   match X f with
   | some g=>g (qBE F X n) (first ++ args ++ cap) h
   | none=>
    match F f with
    | none=>none
    | some fn=>
     let aS:=(first ++ args ++ cap).map qd.dim
     match qdl n h.length (qBE F X n) fn.code ⟨aS ++ List.replicate (fn.ntmps - aS.length) (.tup []),h,false⟩ with
     | some (.nor,s) | some (.ret,s)=>
      match qe3 s fn.results with
      | some vs=>some (leave h.length (.ret (qbr vs)) s.h s.e)
      | none=>none
     | some (.pan v,s)=>some (leave h.length (.pan v) s.h s.e)
     | _=>none
  | .yld l=>qtO n (qBE F X n) l args h
  | _=>none
theorem qqD:qgK = bound:=by
 funext t x d
 cases x <;> simp only [qgK,bound,qhF] <;> rfl
theorem qtH:qtG = pureV:=by
 funext t o
 cases o <;> simp only [qtG,pureV,qhF,qqD] <;> first | rfl | (cases ‹Bool› <;> rfl)
theorem qnR (t:List qd) (i:Nat):raw t (.t i) = t.getD i .undef:=rfl
theorem quq:qup = qeK:=by
 funext k p x s
 cases x <;> simp only [qup,qeK,qgz,qnR,qhF] <;> rfl
theorem qle:qnS = qz:=by
 funext base call p dst o s
 cases o <;> simp only [qnS,qz,qgz,qhF,qmx,qlX,quq,qtH] <;> rfl
theorem qje:qj6 = wanted:=by
 funext t g
 cases g <;> simp only [qj6,wanted,qgz,qnR] <;> rfl
theorem qi8 (base:Nat) (call:Call):∀(os:List qac) (p:qcB) (s:St),qia base call p os s = qaK base call p os s
 | [],_,_=>rfl
 | o :: os,p,s=>by
  simp only [qia,qaK,qje,qle,qmx,qi8 base call os]
  rfl
theorem qqP:qqO = qfM:=by
 funext s o
 cases o <;> simp only [qqO,qfM,qhF] <;> rfl
theorem qfE (base:Nat) (call:Call) (dsts:List Nat):∀(ds:List qO) (pend:List (Nat×Chk)) (s:St),qcl base call dsts ds pend s = qP base call dsts ds pend s
 | [],_,_=>rfl
 | d :: ds,pend,s=>by
  simp only [qcl,qP,qje,qle,qmx,qqP,qfE base call dsts ds]
  rfl
theorem qc5 (n base:Nat) (call:Call):∀(c:qD),qdl n base call c = qaX n base call c
 | .skip=>by funext s;simp only [qdl,qaX] <;> rfl
 | .reg ops=>by funext s;simp only [qdl,qaX,qi8] <;> rfl
 | .draw ops=>by funext s;simp only [qdl,qaX,qfE] <;> rfl
 | .draw2 c a b r=>by funext s;simp only [qdl,qaX,qfE] <;> rfl
 | .seq a b=>by funext s;simp only [qdl,qaX,qc5 n base call a,qc5 n base call b] <;> rfl
 | .cond c a b=>by funext s;simp only [qdl,qaX,qhF,qc5 n base call a,qc5 n base call b] <;> rfl
 | .block id b=>by funext s;simp only [qdl,qaX,qc5 n base call b] <;> rfl
 | .loop b=>by funext s;simp only [qdl,qaX,qc5 n base call b] <;> rfl
 | .rfun f ps asg body=>by funext s;simp only [qdl,qaX,qhF] <;> rfl
 | .exit id=>by funext s;simp only [qdl,qaX] <;> rfl
 | .ret=>by funext s;simp only [qdl,qaX] <;> rfl
theorem qfD (s:St):∀rs:List qmP,qe3 s rs = qal s rs
 | []=>rfl
 | .tmp i :: rs=>by simp only [qe3,qal,qfD s rs,qgz,qnR,qra] <;> rfl
 | .cell a k :: rs=>by simp only [qe3,qal,qfD s rs,qgz,qnR] <;> rfl
theorem qtP (n:Nat) (call:Call):qtO n call = round n call:=by
 funext l args h
 simp only [qtO,round,qc5] <;> rfl
theorem qtW (F:FuncId->Option qn) (X:qlu):∀n:Nat,qBE F X n = run F X n
 | 0=>rfl
 | n + 1=>by
  funext fv args h
  simp only [qBE,run,qtW F X n,qc5,qfD,qtP] <;> rfl
theorem qkG (c b:Bool) (d:Option Nat) (s:St) (r:Option qd) (k:St->Option (Ex×St)):qiJ (.bool c) b d s r k = qba (c == b) d s r k:=Eq.trans rfl rfl
theorem ql9 (b:Bool) (d:Option Nat) (s:St) (r:Option qd) (k:St->Option (Ex×St)):qiJ (.tup []) b d s r k = qba false d s r k:=Eq.trans rfl rfl
theorem qkH (d:Option Nat) (t:List qd) (h:List qh) (e:Bool) (v:qd) (k:St->Option (Ex×St)):qba true d ⟨t,h,e⟩ (some v) k = k ⟨put d v t,h,e⟩:=Eq.trans rfl rfl
theorem qjE (d:Option Nat) (t:List qd) (h:List qh) (e:Bool) (r:Option qd) (k:St->Option (Ex×St)):qba false d ⟨t,h,e⟩ r k = k ⟨put d (.tup []) t,h,e⟩:=Eq.trans rfl rfl
theorem qoZ (d:Option Nat) (t:List qd) (h:List qh) (e:Bool) (r:Option (Ex×St)) (k:St->Option (Ex×St)):qhL (.bool true) false d ⟨t,h,e⟩ r k = k ⟨put d (.tup []) t,h,e⟩:=Eq.trans rfl rfl
theorem qoX (d:Option Nat) (t:List qd) (h:List qh) (e:Bool) (r:Option (Ex×St)) (k:St->Option (Ex×St)):qhL (.bool false) true d ⟨t,h,e⟩ r k = k ⟨put d (.tup []) t,h,e⟩:=Eq.trans rfl rfl
theorem ql8 (b:Bool) (d:Option Nat) (t:List qd) (h:List qh) (e:Bool) (r:Option (Ex×St)) (k:St->Option (Ex×St)):qhL (.tup []) b d ⟨t,h,e⟩ r k = k ⟨put d (.tup []) t,h,e⟩:=Eq.trans rfl rfl
section
variable {base:Nat} {call:Call} {p:qcB} {s:St}
theorem qp1 (f:St->Option (Ex×St)) (s:St):qb1 f (some (.nor,s)) = f s:=Eq.trans rfl rfl
end
theorem qlQ (a b:Option (Ex×St)):qzi (.bool true) a b = a:=Eq.trans rfl rfl
theorem qkp (a b:Option (Ex×St)):qzi (.bool false) a b = b:=Eq.trans rfl rfl
theorem qEM (d:Nat) (o:AOp):ao d o = ⟨some d,o,none⟩:=Eq.trans rfl rfl
theorem qEJ (d:Nat) (o:AOp) (j:Nat) (b:Bool):ag d o j b = ⟨some d,o,some (j,b)⟩:=Eq.trans rfl rfl
theorem qEL (o:AOp):an o = ⟨none,o,none⟩:=Eq.trans rfl rfl
theorem quf (cs:List qd) (o:Nat) (vs:List qd):splice cs o vs = cs.take o ++ vs ++ cs.drop (o + vs.length):=Eq.trans rfl rfl
theorem qKN (d i:Nat):mv d i=⟨some d,.mov (.t i),none⟩:=Eq.trans rfl rfl
theorem qKU (d i:Nat):sg d i=⟨some d,.asg (.t i),none⟩:=Eq.trans rfl rfl
theorem qJd (d k i:Nat):fA d k i=⟨some d,.fa k (.t i),none⟩:=Eq.trans rfl rfl
theorem qG9 (d i:Nat):ldn d i=⟨some d,.ld none (.t i),none⟩:=Eq.trans rfl rfl
theorem qHa (d k i:Nat):lds d k i=⟨some d,.ld (some k) (.t i),none⟩:=Eq.trans rfl rfl
theorem qHS (k i j:Nat):sts k i j=⟨none,.st (some k) (.t i) (.t j),none⟩:=Eq.trans rfl rfl
theorem qHR (i j:Nat):stn i j=⟨none,.st none (.t i) (.t j),none⟩:=Eq.trans rfl rfl
theorem qId (d i k:Nat):xtt d i k=⟨some d,.ext (.t i) k,none⟩:=Eq.trans rfl rfl
theorem qHz (d i:Nat):nlc d i=⟨some d,.nilc (.t i),none⟩:=Eq.trans rfl rfl
theorem qIc (d k i j:Nat):xlL d k i j=⟨some d,.ixaL k (.t i) (.t j),none⟩:=Eq.trans rfl rfl
theorem qHh (d i:Nat):lnn d i=⟨some d,.len false (.t i),none⟩:=Eq.trans rfl rfl
theorem qJh (n:Int):kI n=.c (.int .i64 n):=Eq.trans rfl rfl
theorem qJg (n:Nat):kF n=.c (.fn n [] []):=Eq.trans rfl rfl
theorem qJi:kO=.c (.bool false):=Eq.trans rfl rfl
theorem qJj:kU=.c (.bool true):=Eq.trans rfl rfl
theorem qKO:nL=.lst [] .full:=Eq.trans rfl rfl
theorem qK7:zZ=.int .i64 0:=Eq.trans rfl rfl
theorem qK6:zS=.str []:=Eq.trans rfl rfl
theorem qE6 (d i:Nat) (n:Int):eqk d i n=⟨some d,.bin .eql (.t i) (.c (.int .i64 n)),none⟩:=Eq.trans rfl rfl
theorem qEQ (d:Nat) (o:BinOp) (i:Nat) (n:Int):bnk d o i n=⟨some d,.bin o (.t i) (.c (.int .i64 n)),none⟩:=Eq.trans rfl rfl
theorem qER (d:Nat) (o:BinOp) (i j:Nat):bnt d o i j=⟨some d,.bin o (.t i) (.t j),none⟩:=Eq.trans rfl rfl
theorem qHP (d:Nat) (n:Int):sgk d n=⟨some d,.asg (.c (.int .i64 n)),none⟩:=Eq.trans rfl rfl
theorem qHN (d:Nat):sgO d=⟨some d,.asg (.c (.bool false)),none⟩:=Eq.trans rfl rfl
theorem qHO (d:Nat):sgU d=⟨some d,.asg (.c (.bool true)),none⟩:=Eq.trans rfl rfl
theorem qEY (d f i:Nat):clA d f i=⟨some d,.call (.c (.fn f [] [])) [.t i],none⟩:=Eq.trans rfl rfl
theorem qEZ (d f i j:Nat):clB d f i j=⟨some d,.call (.c (.fn f [] [])) [.t i,.t j],none⟩:=Eq.trans rfl rfl
theorem qHE (d i j:Nat):pkO d i j=⟨some d,.pick (.t i) (.t j) (.c (.bool false)),none⟩:=Eq.trans rfl rfl
theorem qHF (d i j:Nat):pkU d i j=⟨some d,.pick (.t i) (.c (.bool true)) (.t j),none⟩:=Eq.trans rfl rfl
theorem qES (d k i:Nat):bxx d k i=⟨some d,.box k (.t i),none⟩:=Eq.trans rfl rfl
theorem qHC (d i:Nat):ntt d i=⟨some d,.un .not (.t i),none⟩:=Eq.trans rfl rfl
theorem qFi (d i j:Nat) (b:Bool):gmv d i j b=⟨some d,.mov (.t i),some (j,b)⟩:=Eq.trans rfl rfl
theorem qFe (d k i j:Nat) (b:Bool):gfA d k i j b=⟨some d,.fa k (.t i),some (j,b)⟩:=Eq.trans rfl rfl
theorem qFf (d i j:Nat) (b:Bool):gld d i j b=⟨some d,.ld none (.t i),some (j,b)⟩:=Eq.trans rfl rfl
theorem qFh (d k i j:Nat) (b:Bool):gls d k i j b=⟨some d,.ld (some k) (.t i),some (j,b)⟩:=Eq.trans rfl rfl
theorem qFg (d i j:Nat) (b:Bool):gln d i j b=⟨some d,.len false (.t i),some (j,b)⟩:=Eq.trans rfl rfl
theorem qFb (d:Nat) (o:BinOp) (i:Nat) (n:Int) (j:Nat) (b:Bool):gbk d o i n j b=⟨some d,.bin o (.t i) (.c (.int .i64 n)),some (j,b)⟩:=Eq.trans rfl rfl
theorem qFc (d:Nat) (o:BinOp) (i i2 j:Nat) (b:Bool):gbt d o i i2 j b=⟨some d,.bin o (.t i) (.t i2),some (j,b)⟩:=Eq.trans rfl rfl
theorem qI9 (i:Nat) (a b:qD):cT i a b=.cond (.t i) a b:=Eq.trans rfl rfl
theorem qKT (l:List qac) (c:qD):sR l c=.seq (.reg l) c:=Eq.trans rfl rfl
def sT:=PLift.up (qq (qq (qq (qq (qq (qq (qq (qq @qrG @qoG) (qq @qvR @qoE)) (qq (qq @qrF @ql2) (qq @qHL (qq @qoD @qvA)))) (qq (qq (qq @qvy @qov) (qq @qzx @qvz)) (qq (qq @qwh @qrp) (qq @qrq (qq @qoJ @ql5))))) (qq (qq (qq (qq @qvi @qqQ) (qq @qB7 @qzg)) (qq (qq @qqx @qqv) (qq @qsM (qq @qml @qpf)))) (qq (qq (qq @qpg @qsJ) (qq @qwl @qwk)) (qq (qq @qpe @qsK) (qq @qsL (qq @qty @qvE)))))) (qq (qq (qq (qq (qq @qsp @qpJ) (qq @qo5 @qmb)) (qq (qq @qru @qo3) (qq @qwQ (qq @qzA @qv6)))) (qq (qq (qq @qo4 @qtt) (qq @qse @qtu)) (qq (qq @qsg @qsh) (qq @qwR (qq @qv9 @qso))))) (qq (qq (qq (qq @qtx @qsn) (qq @qpK @qo6)) (qq (qq @qwP @qzz) (qq @qv5 (qq @qo2 @qo1)))) (qq (qq (qq @qtv @qsl) (qq @qsk (qq @qsj @qsi))) (qq (qq @qtw @qsm) (qq @qv7 (qq @qss @qvD))))))) (qq (qq (qq (qq (qq (qq @qsd @qsq) (qq @qsf @qzB)) (qq (qq @qv8 @qpI) (qq @qrt (qq @qo0 @qvC)))) (qq (qq (qq @qsc @qsr) (qq @qHI @qDy)) (qq (qq @qAW @qAV) (qq @qDo (qq @qDg @qtn))))) (qq (qq (qq (qq @qDk @qym) (qq @qDs @qtm)) (qq (qq @qys @qtl) (qq @qDp (qq @qDl @qHD)))) (qq (qq (qq @qyp @qAL) (qq @qwG (qq @qAN @qDh))) (qq (qq @qy8 @qyt) (qq @qww (qq @qwx @qDm)))))) (qq (qq (qq (qq (qq @qyr @qyq) (qq @qyo @qvU)) (qq (qq @qrC @qyn) (qq @qvl (qq @qvm @qDn)))) (qq (qq (qq @qC0 @qAi) (qq @qDq @qpC)) (qq (qq @qqG @qqF) (qq @qjV (qq @qw4 @qp1))))) (qq (qq (qq (qq @quu @qp0) (qq @qut @qof)) (qq (qq @qoh @qog) (qq @qlK (qq @qlQ @qkp)))) (qq (qq (qq @qs7 @qs8) (qq @qJc (qq @qJb @qHK))) (qq (qq @qHJ @qcq) (qq @qAd (qq @qAe @qsV)))))))) (qq (qq (qq (qq (qq (qq (qq @qsU @qro) (qq @qrn @qos)) (qq (qq @qri @qrl) (qq @qkv (qq @qrk @qou)))) (qq (qq (qq @qrg @qrm) (qq @qvu @qvv)) (qq (qq @qot @qrj) (qq @qlW (qq @qrh @qvr))))) (qq (qq (qq (qq @qzt @qrd) (qq @qrc @qvt)) (qq (qq @qzs @qre) (qq @qx4 (qq @qrf @qor)))) (qq (qq (qq @qlV @qkt) (qq @qrb (qq @qzw @qCd))) (qq (qq @qvs @qzv) (qq @qCc (qq @qgS @qbm)))))) (qq (qq (qq (qq (qq @qcP @qA8) (qq @qge @qes)) (qq (qq @qdn @qA7) (qq @qrV (qq @qua @qb9)))) (qq (qq (qq @qqH @qqI) (qq @qqL @qok)) (qq (qq @qqJ @qqK) (qq @qkn (qq @qvg @qiq))))) (qq (qq (qq (qq @qlO @qqM) (qq @qvk @qsA)) (qq (qq @qwg @qsB) (qq @qtJ (qq @qtK @qBb)))) (qq (qq (qq @qug @qxn) (qq @qxq (qq @quh @qxo))) (qq (qq @qxp @qBe) (qq @qpn (qq @qsX @qsZ))))))) (qq (qq (qq (qq (qq (qq @qsY @qmn) (qq @qsW @qs0)) (qq (qq @qpl @qdS) (qq @qxl (qq @qzK @qvV)))) (qq (qq (qq @qtg @qpv) (qq @qwj @qwi)) (qq (qq @qvW @qtL) (qq @qm6 (qq @qy0 @qy7))))) (qq (qq (qq (qq @qy1 @qy6) (qq @qy5 @qy4)) (qq (qq @qy3 @qy2) (qq @qBf (qq @qBg @qBj)))) (qq (qq (qq @qBi @qBh) (qq @qDQ (qq @qDR @qpG))) (qq (qq @qmu @qwO) (qq @qAQ (qq @qkG @ql9)))))) (qq (qq (qq (qq (qq @qr7 @qkH) (qq @qjE @qma)) (qq (qq @qFl @qCx) (qq @qEO (qq @qz1 @qCw)))) (qq (qq (qq @qzZ @qCv) (qq @qzY @qz0)) (qq (qq @qv3 @qrT) (qq @qFj (qq @qoY @qoZ))))) (qq (qq (qq (qq @qoX @ql8) (qq @qz3 @qwb)) (qq (qq @qjv @qjw) (qq @qvM (qq @qrB @qAZ)))) (qq (qq (qq @qA0 @qw5) (qq @qol (qq @qpz @qpy))) (qq (qq @qpA @qsF) (qq @qpd (qq @qsE @qpc)))))))))
def sC:=PLift.up (qq (qq (qq (qq (qq @List.nil_append.{0} (qq @List.append_nil.{0} @List.map_cons.{0,0})) (qq (qq @List.map_nil.{0,0} @List.length_cons.{0}) (qq @List.length_nil.{0} @List.cons_append.{0}))) (qq (qq (qq (qq (qq (qq (qq (qq (qq (qq (qq (qq (qq (qq (qq (qq (qq (qq (qq (qq (qq (qq (qq (qq (qq (qq (qq (qq (qq (qq (qq (qq (qq (qq (qq (qq (qq (qq (qq (qq (qq @qEM @qKN) @qKU) @qJd) @qG9) @qHa) @qHS) @qHR) @qId) @qHz) @qIc) @qHh) @qJh) @qJg) @qJi) @qJj) @qKO) @qK7) @qK6) @qE6) @qEQ) @qER) @qHP) @qHN) @qHO) @qEY) @qEZ) @qHE) @qHF) @qES) @qHC) @qFi) @qFe) @qFf) @qFh) @qFg) @qFb) @qFc) @qI9) @qKT) (qq @qEJ @qEL)) (qq (qq @Option.map_some.{0,0} @ne_eq.{1}) (qq @not_false_eq_true @List.length_set.{0})))) (qq (qq (qq @List.length_replicate.{0} (qq @Bool.or_false @Bool.or_true)) (qq (qq @Bool.false_or @Bool.true_or) (qq @Bool.and_true @Bool.and_false))) (qq (qq (qq @Bool.true_and @Bool.false_and) (qq @Bool.not_true @Bool.not_false)) (qq (qq @eq_self.{1} @List.getElem?_cons_zero.{0}) (qq @List.getElem?_cons_succ.{0} @List.set_cons_zero.{0}))))) (qq (qq (qq (qq @List.set_cons_succ.{0} (qq @List.append_assoc.{0} @List.length_append.{0})) (qq (qq @quf @List.take_zero.{0}) (qq @List.drop_zero.{0} @List.take_succ_cons.{0}))) (qq (qq (qq @List.drop_succ_cons.{0} @List.drop_nil.{0}) (qq @List.take_nil.{0} @List.all_cons.{0})) (qq (qq @List.all_nil.{0} @Option.getD_some.{0}) (qq @Option.getD_none.{0} @and_self)))) (qq (qq (qq @if_true.{1} (qq @if_false.{1} @Nat.le_refl)) (qq (qq @Nat.ble_self_eq_true @Nat.zero_add) (qq @Nat.add_zero @beq_self_eq_true.{0}))) (qq (qq (qq @Bool.false_eq_true @bne_self_eq_false.{0}) (qq @List.isEmpty_nil.{0} @List.isEmpty_cons.{0})) (qq (qq @cond_true.{1} @cond_false.{1}) (qq @List.filterMap_cons.{0,0} @List.filterMap_nil.{0,0}))))))
def sTA:=PLift.up (qq (qq (qq (qq @qAY @qAO) (qq @qnH (qq @qDf @qxt))) (qq (qq @qxu @qyW) (qq @qu5 (qq @qBS @qqn)))) (qq (qq (qq @qBp @qxx) (qq @qum (qq @qpX @qun))) (qq (qq @qul (qq @qmJ @quk)) (qq @qBa (qq @qw2 @qAT)))))
def sCA:=PLift.up (qq (qq @List.filter_cons.{0} @List.filter_nil.{0}) (qq @List.find?_cons.{0} @List.find?_nil.{0}))
section
variable {base:Nat} {call:Call} {p:qcB} {s:St} {t:List qd} {h:List qh}
def hxW (d:Option Nat) (s:St):Option (qd×List qh×Bool)->Option (Ex×St)
 | some (v,h,e)=>some (.nor,{ t:=put d v.dim s.t,h,e:=s.e || e})
 | none=>none
theorem qbx (d:Option Nat) (t:List qd) (h h':List qh) (e e':Bool) (v:qd):hxW d ⟨t,h,e⟩ (some (v,h',e')) = some (.nor,⟨put d v.dim t,h',e || e'⟩):=rfl
theorem qgx (d:Option Nat) (o:HOp) (aS:List qB):qz base call p d (.hx o aS) s = hxW d s (hop base o (aS.map (ev s.t)) s.h):=by
 simp only [qz]
 cases hop base o (aS.map (ev s.t)) s.h with
 | none=>rfl
 | some r=>rfl
theorem qlY (o:HOp) (aS:List qB):(AOp.hx o aS).effs = true:=Eq.trans rfl rfl
theorem qby (o:HOp) (aS:List qB):(AOp.hx o aS).isApp = false:=Eq.trans rfl rfl
theorem qsI (id o len cap more:Nat):qsH false (.sl id o len cap more) = some (.int .i64 len):=rfl
theorem qcn (id o len cap more:Nat):(qd.sl id o len cap more).dim = .sl id o len cap more:=rfl
theorem qc3 (id o len cap more i:Nat) (t:List qd):qbH (.sl id o len cap more) i t = t:=rfl
theorem qj3 (id o len cap more:Nat):(qd.sl id o len cap more).storable = true:=Eq.trans rfl rfl
theorem qg9 (id o len cap more:Nat):(qd.sl id o len cap more).cells = [.sl id o len cap more]:=rfl
theorem qws (n id o len cap more:Nat):(qd.sl id o len cap more).lower n = Nat.blt id n:=Eq.trans rfl rfl
theorem qsv (k id o len cap more:Nat) (j:IntKind) (n:Int):qfH k (.sl id o len cap more) (.int j n) = if 0 <= n/\n < len then some (.ptr id (o + n.toNat * k)) else none:=rfl
end
section
variable {P:Program} {gl:Nat->Option (List qd)}
noncomputable def cellsOf (W:World):Nat->Nat->Option Value:=λb o=>qlP (W.cell? ⟨b,o,none⟩)
def qzk (P:Program) (S:List TypeId):Bool:=S.all λt=>decide (t < P.types.size) && P.readableRec t && match P.underlying t with
 | some .bool | some (.int _) | some .string=>true
 | some (.slice e)=>S.contains e && decide (0 < P.cellsOf e)
 | some (.struct fs)=>fs.toList.all λf=>S.contains f.type
 | _=>false
def qcj (P:Program) (t:TypeId):Bool:=
 match P.underlying t with
 | some (.struct _)=>true
 | _=>false
def el (P:Program) (t:TypeId) (cs:List qd):qd:=bif qcj P t then .agg cs else cs.headD .undef
def qjg (R:TypeId->List qd->Prop):List TypeId->List (List qd)->Prop
 | [],[]=>True
 | t :: ts,a :: aS=>R t a/\qjg R ts aS
 | _,_=>False
def qdq (P:Program):Nat->TypeId->List qd->Prop
 | 0,_,_=>False
 | n + 1,t,aS=>
  match P.underlying t with
  | some .bool=>∃b,aS = [.bool b]
  | some (.int k)=>∃z,aS = [.int k z]/\(Lit.int k z).wf = true
  | some .string=>∃s:List UInt8,aS = [.str s]/\s.length <= maxLen
  | some (.slice e)=>∃xs:List (List qd),aS = [.lst (xs.map (el P e)) .no]/\xs.length <= maxLen/\∀x ∈ xs,qdq P n e x
  | some (.struct fs)=>∃ass:List (List qd),aS = ass.flatten/\qjg (qdq P n) (fs.toList.map (·.type)) ass
  | _=>False
theorem qkd {γ:Nat->Option Nat} {imm:Nat->Nat->Option Value} {k:Nat} {b:Nat}:∀(xs:List qd) (p:Nat),(∀(i:Nat) (x:qd),xs[i]? = some x->x.cells.length = k/\qae γ imm x.cells b (p + i * k))->qK γ imm xs b p
 | [],_,_=>trivial
 | x :: xs,p,h=>by
  obtain ⟨h1,h2⟩:=h 0 x rfl
  have ih:=qkd xs (p + k) λi y hy=>by
   obtain ⟨k1,k2⟩:=h (i + 1) y (by simpa using hy)
   refine ⟨k1,?_⟩
   rw [Nat.add_mul,Nat.one_mul] at k2
   rw [jt,ju k]
   exact k2
  simp only [Nat.zero_mul,Nat.add_zero] at h2
  cases x with
  | agg cs=>simp only [qd.cells] at h1 h2;simp only [qK,h1];exact ⟨h2,ih⟩
  | _=>
   simp only [qd.cells,jy,jz,jR] at h1
   subst h1
   simp only [qd.cells,qae] at h2
   exact ⟨h2.1,ih⟩
theorem qkc {γ:Nat->Option Nat} {W:World} {b:Nat}:∀(aS:List qd) (vs:List Value) (p:Nat),qk γ (cellsOf W) aS vs->(∀i,i < vs.length->W.cell? ⟨b,p + i,none⟩ = vs[i]?)->qae γ (cellsOf W) aS b p
 | [],_,_,_,_=>trivial
 | a :: aS,vs,p,h,hc=>by
  simp only [qk] at h
  obtain ⟨v,rest,rfl,h1,h2⟩:=h
  refine ⟨⟨v,qa2.2 ⟨by simpa using hc 0 (by simp),qc8 h1⟩,h1⟩,qkc aS rest (p + 1) h2 λi hi=>?_⟩
  have:=hc (i + 1) (by simpa using hi)
  rw [jt,ju 1]
  simpa using this
theorem qig {γ:Nat->Option Nat} {imm:Nat->Nat->Option Value} {R:TypeId->List qd->Prop} {size:TypeId->Nat}:∀(fs:List Field) (o:Nat) (cs:List Value),cs.length = o + (fs.map λf=>size f.type).sum->
  (∀(j:Nat) f,fs[j]? = some f->f.offset = o + ((fs.take j).map λf=>size f.type).sum)->(∀f ∈ fs,∃aS,qk γ imm aS ((cs.drop f.offset).take (size f.type))/\R f.type aS)->
  ∃E:List (List qd),qk γ imm E.flatten (cs.drop o)/\qjg R (fs.map (·.type)) E
 | [],o,cs,hl,_,_=>⟨[],by simp only [List.map_nil,List.sum_nil,Nat.add_zero] at hl;simp [qk,<-hl],trivial⟩
 | f :: fs,o,cs,hl,ho,hr=>by
  have h0:f.offset = o:=by simpa using ho 0 f rfl
  obtain ⟨aS,h1,h2⟩:=hr f (jE ..)
  rw [h0] at h1
  simp only [List.map_cons,List.sum_cons] at hl
  obtain ⟨E,h3,h4⟩:=qig fs (o + size f.type) cs zo (λj g hg=>by
   have:=ho (j + 1) g (by simpa using hg)
   simp only [List.take_succ_cons,List.map_cons,List.sum_cons] at this
   omega) (λg hg=>hr g (jI _ hg))
  refine ⟨aS :: E,?_,h2,h4⟩
  have e:cs.drop o = (cs.drop o).take (size f.type) ++ cs.drop (o + size f.type):=by
   rw [<-List.drop_drop,List.take_append_drop]
  rw [e,List.flatten_cons]
  exact qk.append h1 h3
theorem qdq.cells_el {n:Nat} {t:TypeId} {x:List qd} (h:qdq P n t x):(el P t x).cells = x:=by
 cases n with
 | zero=>exact h.elim
 | succ n=>
  simp only [qdq] at h
  simp only [el,qcj]
  split at h
  ·rename_i hu;obtain ⟨b,rfl⟩:=h;rw [hu];rfl
  ·rename_i hu;obtain ⟨b,rfl,_⟩:=h;rw [hu];rfl
  ·rename_i hu;obtain ⟨b,rfl,_⟩:=h;rw [hu];rfl
  ·rename_i hu;obtain ⟨b,rfl,_⟩:=h;rw [hu];rfl
  ·rename_i hu;rw [hu];rfl
  ·exact h.elim
theorem qqT {α:Type} {Q:Nat->α->Prop}:∀len:Nat,(∀i,i < len->∃a,Q i a)->∃xs:List α,xs.length = len/\∀i x,xs[i]? = some x->Q i x
 | 0,_=>⟨[],rfl,λi x h=>by simp at h⟩
 | len + 1,h=>by
  obtain ⟨xs,h1,h2⟩:=qqT len λi hi=>h i zo
  obtain ⟨y,h3⟩:=h len zo
  refine ⟨xs ++ [y],by simp [h1],λi x hi=>?_⟩
  rcases Nat.lt_or_ge i xs.length with E | I
  ·rw [ja E] at hi;exact h2 i x hi
  ·rw [jc I] at hi
   have:i - xs.length = 0:=by
    rcases Nat.eq_zero_or_pos (i - xs.length) with h | h
    ·exact h
    ·rw [jq (by simp only [jy,jz];omega)] at hi;cases hi
   rw [this] at hi
   simp only [jx,jj] at hi
   subst hi
   have:i = len:=zo
   subst this
   exact h3
theorem qxO {a:Addr} (h:a.spot = none) (n:Nat):a.add n = ⟨a.block,a.off + n,none⟩:=by
 unfold Addr.add
 split
 ·rename_i h0
  subst h0
  cases a
  simp_all
 ·rfl
theorem qk2 {H:Type} {enc:TypeId×Value->H} {W:World} {base:Nat} {sp:Nat->Bool} {held:Bool} {S:List TypeId} (hl:laidOutB P = true) (hS:qzk P S = true):∀(n:Nat) (t:TypeId) (cs:List Value) (x:DataW H×List MemPlace),t ∈ S->
  DataW.trod enc P W base sp held n t cs = some x->∃aS,qk (λ_=>none) (cellsOf W) aS cs/\qdq P n t aS
 | 0,t,cs,x,_,h=>by simp [DataW.trod] at h
 | n + 1,t,cs,x,ht,h=>by
  have hd:=List.all_eq_true.1 hS t ht
  simp only [jk,decide_eq_true_eq] at hd
  obtain ⟨⟨a7,_⟩,hd⟩:=hd
  have ih:=qk2 (base:=base) (sp:=sp) (held:=held) (enc:=enc) (W:=W) hl hS n
  split at hd
  ·rename_i hu
   obtain ⟨b,rfl,_⟩:=DataW.trod_bool hu h
   exact ⟨[.bool b],by simp [qk,qA],by simp only [qdq,hu];exact ⟨b,rfl⟩⟩
  ·rename_i k hu
   obtain ⟨z,rfl,_,hw⟩:=DataW.trod_int hu h
   exact ⟨[.int k z],by simp [qk,qA],by simp only [qdq,hu];exact ⟨z,rfl,hw⟩⟩
  ·rename_i hu
   obtain ⟨s,rfl,_,hw⟩:=DataW.trod_string hu h
   exact ⟨[.str s.data.toList],by simp only [qk,qA];exact ⟨_,_,rfl,⟨s,rfl,rfl⟩,rfl⟩,by simp only [qdq,hu];exact ⟨_,rfl,by simpa using hw⟩⟩
  ·rename_i e hu
   simp only [jk,decide_eq_true_eq,List.contains_iff_mem] at hd
   obtain ⟨he,a8⟩:=hd
   rcases DataW.trod_slice hu h with ⟨rfl,_⟩ | ⟨a,len,cap,elems,rest,m,hm,rfl,_,hb,ad,ai,af,I,_⟩
   ·refine ⟨[.lst [] .no],?_,by simp only [qdq,hu];exact ⟨[],rfl,Nat.zero_le _,λ_ h=>by cases h⟩⟩
    simp only [qk,qA]
    exact ⟨_,_,rfl,⟨none,0,0,rfl,rfl,jm _,by simp,by simp,⟨0,λ_ h=>by cases h⟩,.inl trivial⟩,rfl⟩
   ·cases hm
    have one:∀i,i < len->∃aS:List qd,(∃E,W.cells? base (a.add (i * P.cellsOf e)) (P.cellsOf e) = some E/\qk (λ_=>none) (cellsOf W) aS E)/\qdq P n e aS:=by
     intro i hi
     have hg:=I i hi
     rw [jh zo] at hg
     simp only [Option.bind_eq_some_iff] at hg
     obtain ⟨E,h1,h2⟩:=hg
     obtain ⟨aS,h3,h4⟩:=ih e E _ he h2
     exact ⟨aS,⟨E,h1,h3⟩,h4⟩
    obtain ⟨xs,ab,hx⟩:=qqT len one
    refine ⟨[.lst (xs.map (el P e)) .no],?_,by simp only [qdq,hu];exact ⟨xs,rfl,zo,λx Y=>by obtain ⟨i,hi⟩:=List.getElem?_of_mem Y;exact (hx i x hi).2⟩⟩
    simp only [qk,qA]
    refine ⟨_,_,rfl,⟨some a,len,cap,rfl,by simp [ab],ad,by simp,by simp,⟨P.cellsOf e,λy hy=>?_⟩,?_⟩,rfl⟩
    ·obtain ⟨x,Y,rfl⟩:=jP.1 hy
     obtain ⟨i,hi⟩:=List.getElem?_of_mem Y
     obtain ⟨⟨E,h1,h2⟩,h3⟩:=hx i x hi
     rw [h3.cells_el,h2.length,(World.cells?_some h1).2.1]
    ·rcases Nat.eq_zero_or_pos len with h0 | h0
     ·left
      have:xs = []:=List.eq_nil_of_length_eq_zero zo
      simp [this]
     ·right
      have U:a.spot = none:=by
       obtain ⟨⟨E,h1,h2⟩,_⟩:=hx 0 xs[0] (jh zo)
       obtain ⟨_,h3,h4⟩:=World.cells?_some h1
       have h5:=h4 0 a8
       rw [jh zo] at h5
       simp only [Nat.zero_mul,Addr.add,if_pos] at h5
       cases ac:a.spot with
       | none=>rfl
       | some s=>
        simp only [World.cell?] at h5
        split at h5
        ·simp [ac] at h5
        ·cases h5
      refine ⟨a.block,a.off,by rw [<-U],qkd (k:=P.cellsOf e) _ _ λi y hy=>?_⟩
      rw [jr,Option.map_eq_some_iff] at hy
      obtain ⟨x,hi,rfl⟩:=hy
      obtain ⟨⟨E,h1,h2⟩,h3⟩:=hx i x hi
      obtain ⟨_,h4,h5⟩:=World.cells?_some h1
      rw [h3.cells_el]
      refine ⟨by rw [h2.length,h4],qkc x E _ h2 λj hj=>?_⟩
      have h6:=h5 j zo
      rw [<-h6]
      rw [qxO U,qxO rfl,jt]
  ·rename_i fs hu
   simp only [List.all_eq_true,List.contains_iff_mem] at hd
   obtain ⟨xs,m,hm,_,aa,_,I⟩:=DataW.trod_struct hu h
   cases hm
   obtain ⟨_,h2,h3⟩:=kid_struct hl a7 hu
   obtain ⟨a6,h4,h5⟩:=qig (γ:=λ_=>none) (imm:=cellsOf W) (R:=qdq P n) (size:=P.cellsOf) fs.toList 0 cs (by rw [aa,h2];simp) (λj f hj=>by rw [h3 j f hj];simp) (λf hf=>by
    obtain ⟨i,hi⟩:=List.getElem?_of_mem hf
    have a1:fs[i]? = some f:=by simpa using hi
    have hg:=I i f a1
    have ae:i < xs.length:=by
     have:=(Array.getElem?_eq_some_iff.1 a1).1
     omega
    rw [jh ae] at hg
    exact ih f.type _ _ (hd f hf) hg)
   exact ⟨a6.flatten,by simpa using h4,by simp only [qdq,hu];exact ⟨a6,rfl,h5⟩⟩
  ·cases hd
theorem qwH {H:Type} {enc:TypeId×Value->H} {W W0:World} {base b0:Nat} {r:Reach} {sp:Nat->Bool} {held:Bool} {S:List TypeId} (hl:laidOutB P = true) (hS:qzk P S = true) {t:TypeId} (ht:t ∈ S) {v:Value} {d:DataW H} {ps:List MemPlace}
  (E:Value.okWide P W0 r b0 t v) (h:DataW.Trod enc P W base sp held t v d ps):∃n aS,qdq P n t aS/\qA (λ_=>none) (cellsOf W) (el P t aS) v:=by
 obtain ⟨n,hn⟩:=h
 obtain ⟨aS,h1,h2⟩:=qk2 hl hS n t _ _ ht hn
 refine ⟨n,aS,h2,?_⟩
 have hd:=List.all_eq_true.1 hS t ht
 simp only [jk,decide_eq_true_eq] at hd
 obtain ⟨_,hd⟩:=hd
 have scalar:qcj P t = false->v.cells = #[v]->qA (λ_=>none) (cellsOf W) (el P t aS) v:=by
  intro hs hv
  rw [hv] at h1
  simp only [el,hs,cond_false]
  cases aS with
  | nil=>simp [qk] at h1
  | cons a aS=>
   simp only [qk] at h1
   obtain ⟨u,rest,he,h3,h4⟩:=h1
   cases he
   exact h3
 split at hd
 ·rename_i hu
  simp only [Value.okWide,hu,Cell.okWide,Cell.ok] at E
  refine scalar (by simp [qcj,hu]) ?_
  cases v <;> first | rfl | (exact E.elim)
 ·rename_i k hu
  simp only [Value.okWide,hu,Cell.okWide,Cell.ok] at E
  refine scalar (by simp [qcj,hu]) ?_
  cases v <;> first | rfl | (exact E.elim)
 ·rename_i hu
  simp only [Value.okWide,hu,Cell.okWide,Cell.ok] at E
  refine scalar (by simp [qcj,hu]) ?_
  cases v <;> first | rfl | (exact E.elim)
 ·rename_i e hu
  simp only [Value.okWide,hu,Cell.okWide,Cell.ok] at E
  refine scalar (by simp [qcj,hu]) ?_
  cases v <;> first | rfl | (exact E.elim)
 ·rename_i fs hu
  simp only [Value.okWide,hu] at E
  obtain ⟨cs,rfl,_⟩:=E
  simp only [el,qcj,hu,cond_true,qA]
  exact ⟨cs,rfl,h1⟩
 ·cases hd
noncomputable def qg.whole (W:World):qg:={ γ:=λ_=>none,imm:=λb o=>match W.heap[b]? with | some (.cells c _ (0,0))=>if 0 < o/\o = c.size then some mark else cellsOf W b o | _=>cellsOf W b o,ow:=λ_=>none}
theorem qlo {W:World} {b o:Nat} {v:Value} (hv:(qg.whole W).imm b o = some v):(v ≠ mark->W.cell? ⟨b,o,none⟩ = some v/\b < W.heap.size)/\(v = mark->0 < o/\∃c e,W.heap[b]? = some (.cells c e (0,0))/\o = c.size):=by
 have key:cellsOf W b o = some v->(v ≠ mark->W.cell? ⟨b,o,none⟩ = some v/\b < W.heap.size)/\(v = mark->0 < o/\∃c e,W.heap[b]? = some (.cells c e (0,0))/\o = c.size):=λhv=>by
  obtain ⟨k1,k2⟩:=qa2.1 hv
  refine ⟨λ_=>⟨k1,?_⟩,λq=>absurd q k2⟩
  rcases Nat.lt_or_ge b W.heap.size with hb | hb
  ·exact hb
  ·simp [World.cell?,jK hb] at k1
 simp only [qg.whole] at hv
 split at hv
 ·rename_i c e h1
  split at hv
  ·rename_i hh
   cases hv
   exact ⟨λq=>absurd rfl q,λ_=>⟨hh.1,c,e,h1,hh.2⟩⟩
  ·exact key hv
 ·exact key hv
theorem qn0 {W:World} {b o:Nat} {v:Value} (hv:cellsOf W b o = some v):(qg.whole W).imm b o = some v:=by
 simp only [qg.whole]
 split
 ·rename_i c e h1
  split
  ·rename_i hh
   have:=(qa2.1 hv).1
   simp [World.cell?,h1,hh.2] at this
  ·exact hv
 ·exact hv
theorem quF {W:World} (h:qEG gl W):Rel P gl (qg.whole W) [] W/\qel (qg.whole W):=by
 refine ⟨⟨(λ_ _ h=>by cases h),(λ_ _ _ h=>by cases h),(λ_ _ _ h=>by cases h),λb o v hv hm=>(qlo hv).1 hm,(λ_ _ _ _ _ _ h=>by cases h),(λb o hv=>(qlo hv).2 rfl),(λ_ _ h=>by cases h),λg cs hg=>?_⟩,(λ_ _ h=>by cases h)⟩
 obtain ⟨h1,vs,h2,h3,h4⟩:=h g cs hg
 refine ⟨⟨qae.of_get λi c hc=>?_,λh0=>?_⟩,h1⟩
 ·obtain ⟨v,hv,hr⟩:=h2.get hc
  refine ⟨v,?_,?_⟩
  ·rw [jR]
   exact qn0 (qa2.2 ⟨h3 i v hv,qc8 hr⟩)
  ·exact qA.mono (λ_ _ _ h=>by cases h) 0 (λi _ hi=>absurd hi (Nat.not_lt_zero _)) c v (qeY h1 hc) hr
 ·obtain ⟨c,e,k1,k2⟩:=h4 h0
  simp only [qg.whole,k1]
  rw [if_pos ⟨h0,k2⟩]
theorem qp5 {n:Nat} {W W':World} {G':qg} (he:Ext n (qg.whole W) W G' W'):W.keptBut W' (λ_=>False):=by
 refine ⟨he.os,he.output,λi hi=>?_⟩
 rw [he.heap i hi ⟨λ_ h=>by simp [qg.whole] at h,rfl⟩]
 split
 ·rename_i h1 h2
  rw [h1] at h2
  cases h2
  exact ⟨rfl,rfl,rfl,λ_ _=>rfl⟩
 ·rename_i h1 h2
  rw [h1] at h2
  cases h2
  exact .inr ⟨rfl,rfl⟩
 ·rfl
theorem qsy {W W':World} (h:W.keptBut W' (λ_=>False)) {p:MemPlace} (hp:p.block < W.heap.size):W.sameAt W' p:=by
 have h1:=h.2.2 p.block hp
 cases p with
 | cell b off=>
  simp only [MemPlace.block] at h1 hp
  simp only [World.sameAt,World.cell?]
  split at h1
  ·rename_i e1 e2
   rw [e1,e2]
   simp only [Option.isSome_none,jl,if_false]
   exact h1.2.2.2 off (λh=>h)
  ·rename_i e1 e2
   rw [e1,e2]
  ·rw [h1]
 | map b=>
  simp only [MemPlace.block] at h1 hp
  simp only [World.sameAt]
  split at h1
  ·rename_i c t fr c' t' E e1 e2
   obtain ⟨rfl,rfl,h3,h4⟩:=h1
   rw [e1,e2]
   have:c' = c:=by
    apply Array.ext_getElem?
    intro j
    exact h4 j (λh=>h)
   rw [this]
  ·rename_i e1 e2
   rcases h1 with h1 | ⟨rfl,rfl⟩
   ·exact h1.elim
   ·rw [e1,e2]
  ·exact h1
theorem qoj {call : AE.Call} (hcall : qcM P gl call) {f : FuncId} {pf : Func} {c : Code} (h1 : P.funcs[f]? = some pf) (h2 : (pf.name == "runtime.NumGoroutine") = false) (h3 : pf.body = some c) {args : List qd} {rv : qd} {h' : List qh} {e' : Bool}
  (hrun:call (.fn f [] []) args [] = some (.ret rv,h',e')) {W:World} (ht:qEG gl W) {vs:Array Value} (hargs:qk (λ_=>none) (cellsOf W) args vs.toList) :
  Calls P f vs W λe W'=>∃v G',e = .returned v/\qg.V G' rv v/\W.keptBut W' (λ_=>False):=by
 obtain ⟨hr,hn⟩:=quF (P:=P) ht
 have hfv:(qg.whole W).V (.fn f [] []) (.func (.func f) #[] #[]):=by simp [qg.V,qA,qk]
 replace hargs:(qg.whole W).VL args vs.toList:=qk.mono (λ_ _ _ h=>qn0 h) 0 (λi _ hi=>absurd hi (Nat.not_lt_zero _)) args _ (qc2 (n:=0) (λ_ _ h=>by cases h) args _ hargs) hargs
 have hS:(qgo (.func (.func f) #[] #[]) vs).run P W = .ok (.enter f vs) W:=by
  rw [qjs,qT h1 h2 h3]
  simp
 rcases hcall _ _ _ _ _ _ hrun _ W _ vs hr hn hfv hargs with ⟨f',aS,k1,k2⟩ | ⟨_,_,_,_,_,_,hy,_⟩ | ⟨v,w',_,k1,_⟩
 ·rw [hS] at k1
  cases k1
  refine (callsIn_wide (n:=0)).1 (CallsIn.mono (k2 none 0) λe W' hb=>?_)
  cases e with
  | returned v=>
   obtain ⟨rv',G',g1,g2,g3,g4,g5⟩:=hb
   cases g1
   exact ⟨v,G',rfl,g5,qp5 g2⟩
  | panicked ch=>obtain ⟨_,_,_,g1,_⟩:=hb;cases g1
  | outgrown=>exact hb.elim
 ·cases hy
 ·rw [hS] at k1
  cases k1
end
theorem zk {p:Prop} (h:p := by kernel_rfl):p:=h
theorem Y0 {p:Prop} (h:p := by simp only [sT.1,sC.1,seval,-Int.reduceNatCast']):p:=h
theorem Y1 {p:Prop} (h:p := by simp only [qcq,ht]):p:=h
theorem Y2 {p:Prop} (h:p := by simp only [sT.1,sC.1,seval,-Int.reduceNatCast',e3]):p:=h
theorem Y3 {p:Prop} (h:p := by simp only [sT.1,sC.1,seval,-Int.reduceNatCast',e2]):p:=h
theorem u4 {p:Prop} (h:p := by simp only [sT.1,sC.1,seval,-Int.reduceNatCast',e0]):p:=h
theorem v5 {p:Prop} (h:p := by simp only [sT.1,sC.1,seval,-Int.reduceNatCast',Int.natCast_zero]):p:=h
theorem v6 {p:Prop} (h:p := by simp only [sT.1,sC.1,seval,-Int.reduceNatCast',e1]):p:=h
theorem v7 {p:Prop} (h:p := by simp only [sT.1,sC.1,seval,-Int.reduceNatCast',e4]):p:=h
theorem x8 {p:Prop} (h:p := by simp only [sT.1,sC.1,seval,-Int.reduceNatCast',e5]):p:=h
theorem x9 {p:Prop} (h:p := by simp only [sT.1,seval,-Int.reduceNatCast',ht]):p:=h
theorem z10 {p:Prop} (h:p := by simp only [sT.1,sC.1,seval,-Int.reduceNatCast',ht]):p:=h
theorem z11 {p:Prop} (h:p := by simp only [sT.1,sC.1,seval,-Int.reduceNatCast',e11]):p:=h
end Go.AE
