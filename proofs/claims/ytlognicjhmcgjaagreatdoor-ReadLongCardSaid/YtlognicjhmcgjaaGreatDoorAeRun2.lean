/- The abstract executor: its calls are the machine's. No condition. -/
import Derived.Test.YtlognicjhmcgjaaGreatDoorAeRun
namespace Go.AE
section
variable {P : Program} {gl : Nat → Option (List AVal)}

/-- The table of compiled functions is the program's. -/
def ProgOK (P : Program) (gl : Nat → Option (List AVal)) (F : FuncId → Option AFunc) : Prop :=
  ∀ f fn, F f = some fn → ∃ pf c, P.funcs[f]? = some pf ∧ (pf.name == "runtime.NumGoroutine") = false ∧ pf.body = some c ∧ comp P gl c = some fn.code ∧ pf.results.toList.mapM (compRes P) = some fn.results ∧ pf.ntmps = fn.ntmps

/-- What is said of a function by hand. -/
def ExtOK (P : Program) (gl : Nat → Option (List AVal)) (f : FuncId) (g : AE.Call → List AVal → List ABox → Option (CRes × List ABox × Bool)) : Prop :=
  ∀ call, CallOK P gl call → CallKeeps call → ∀ as h r h' e', g call as h = some (r, h', e') → ∀ (G : Ghost) (w : World) (vs : Array Value), Rel P gl G h w → NoTmp G → G.VL as vs.toList →
    ((callFunc f vs).run P w = .ok (.enter f vs) w ∧ ∀ (ro : Option Nat) (n : Nat), CallsIn (FR ro) n P f vs w (Back P gl h.length G w r h')) ∨
    ((∀ i, .yld i ∉ as) ∧ ∃ v w', (callFunc f vs).run P w = .ok (.value v) w' ∧ Back P gl h.length G w r h' (.returned v) w')

theorem callFunc_enter {f : FuncId} {pf : Func} {c : Code} (h1 : P.funcs[f]? = some pf) (h2 : (pf.name == "runtime.NumGoroutine") = false) (h3 : pf.body = some c) (vs : Array Value) (w : World) : (callFunc f vs).run P w = .ok (.enter f vs) w := by
  have h2' : pf.name ≠ "runtime.NumGoroutine" := by simpa using h2
  simp [callFunc, Sem.run_bind, program, Sem.run, h1, h2', h3, Result.andThen]

theorem callS_fn {f : FuncId} {x y vs : Array Value} {w : World} : (callS (.func (.func f) x y) vs).run P w = (callFunc f ((x ++ vs) ++ y)).run P w := by
  simp [callS, Deferred.ofValue, invoke, Sem.run_bind, Result.andThen]

theorem callS_yield {b : Nat} {x y vs : Array Value} {w : World} : (callS (.func (.yield b) x y) vs).run P w = (Instr.yield b (x ++ vs)).run P w := by
  simp [callS, Deferred.ofValue, invoke, Sem.run_bind, Result.andThen]

theorem TRel.start {G : Ghost} {w : World} {as : List AVal} {ts : Array Value} (h : G.VL as ts.toList) (hd : ∀ a ∈ as, a.dim = a) : TRel G w as ts :=
  ⟨h, fun i xs k v hx _ => by
    have := hd _ (List.mem_iff_getElem?.2 ⟨i, hx⟩)
    simp [AVal.dim] at this⟩

theorem zips_rel {G : Ghost} : ∀ (ps : List Nat) (as : List AVal) (vs : List Value) (t : List AVal) (ts : Array Value), G.VL as vs → ps.length = as.length → G.VL t ts.toList →
    G.VL (zips t ps as) (((ps.zip vs).foldl (fun (tmps : Array Value) (x : Nat × Value) => tmps.setIfInBounds x.1 x.2) ts)).toList
  | [], as, vs, t, ts, _, _, ht => by simpa [zips] using ht
  | p :: ps, [], vs, t, ts, _, hl, _ => by simp at hl
  | p :: ps, a :: as, vs, t, ts, ha, hl, ht => by
    simp only [Ghost.VL, VRelL] at ha
    obtain ⟨v, rest, rfl, h1, h2⟩ := ha
    simp only [zips, List.zip_cons_cons, List.foldl_cons]
    exact zips_rel ps as rest _ _ h2 (by simpa using hl) (by simpa using VRelL.set p ht h1)

theorem zips_dims : ∀ (ps : List Nat) (as : List AVal) (t : List AVal), (∀ a ∈ as, a.dim = a) → (∀ a ∈ t, a.dim = a) → ∀ a ∈ zips t ps as, a.dim = a
  | [], _, t, _, ht => by simpa [zips] using ht
  | p :: ps, [], t, _, ht => by simpa [zips] using ht
  | p :: ps, a :: as, t, ha, ht => by
    simp only [zips]
    refine zips_dims ps as _ (fun x hx => ha x (List.mem_cons_of_mem _ hx)) fun x hx => ?_
    rcases List.mem_or_eq_of_mem_set hx with hx | rfl
    · exact ht x hx
    · exact ha _ (List.mem_cons_self ..)

theorem marks_nil {G : Ghost} {w : World} {lo : Nat} {rf : Bool} : MarksF G w lo rf [] [] := ⟨[], rfl, ⟨List.nodup_nil, fun _ h => by cases h⟩, fun _ => rfl⟩

theorem round_sound (hmx : P.follows .mixedOrders = true) {call : AE.Call} (hcall : CallOK P gl call) (hk : CallKeeps call) {N : Nat} {l : Nat} {args : List AVal} {h : List ABox} {r : CRes} {h' : List ABox} {e' : Bool} (hrun : round N call l args h = some (r, h', e'))
    {G : Ghost} {w : World} {b : Nat} {vs : Array Value} (hr : Rel P gl G h w) (hn : NoTmp G) (hb : G.γ l = some b) (ha : G.VL args vs.toList) :
    ∃ f tmps asg body, (Instr.yield b vs).run P w = .ok (.round b f tmps asg body) w ∧ ∀ (ro : Option Nat) (n : Nat), RoundIn (FR ro) n P b f tmps asg body w (Back P gl h.length G w r h') := by
  unfold round at hrun
  split at hrun
  · rename_i t ps asg body st0 pend0 hl
    split at hrun
    · cases hrun
    · rename_i hlen
      have hlen : args.length = ps.length := Classical.not_not.1 hlen
      simp only at hrun
      obtain ⟨L, hL, hLR⟩ := hr.box l b _ hb hl
      have hsz : vs.size = L.params.size := by
        have h1 := ha.length
        have h2 := congrArg List.length hLR.ps
        simp at h1 h2
        omega
      refine ⟨_, _, _, _, run_yield hL hsz, fun ro n => ?_⟩
      refine roundIn_of_wpIn (F := FR ro) trivial ?_
      split at hrun
      · rename_i s1 hx1
        have k1 := exec_keeps (base := h.length) hk N asg _ s1 _ (Nat.le_refl _) hx1
        split at hrun
        · rename_i t1 ps1 asg1 body1 pend1 hl1
          split at hrun
          · rename_i x s2 hx2
            have kk : StKeeps h.length s1 { s1 with h := s1.h.set l (.loop t1 ps1 asg1 body1 .busy pend1) } := ⟨by simp, fun he => ⟨he, Keeps.set hl1 fun B _ _ hlow => hlow⟩⟩
            have k2 := exec_keeps (base := h.length) hk N body _ s2 _ (by simpa using k1.1) hx2
            have k12 := k1.trans (kk.trans k2)
            split at hrun
            · rename_i t2 ps2 asg2 body2 st2 pend2 hl2
              -- the start
              have htr : TRel G w (zips t ps (args.map AVal.dim)) ((L.params.zip vs).foldl (fun (tmps : Array Value) (x : Nat × Value) => tmps.setIfInBounds x.1 x.2) L.tmps) := by
                refine TRel.start ?_ (zips_dims _ _ _ (fun x hx => by obtain ⟨y, _, rfl⟩ := List.mem_map.1 hx; exact dim_dim y) hLR.dims)
                have := zips_rel (G := G) ps (args.map AVal.dim) vs.toList t L.tmps ha.dims (by simpa using hlen.symm) hLR.tmps
                rw [← hLR.ps] at this ⊢
                rw [← Array.toList_zip, Array.foldl_toList] at this
                exact this
              have hW1 := exec_sound hmx hcall hk (N := N) (base := h.length) (lo := w.heap.size) (rf := false) (fx := []) (ro := some b) (m := n) L.assign asg hLR.asg (fun h => by cases h) G w ⟨zips t ps (args.map AVal.dim), h, false⟩
                { tmps := (L.params.zip vs).foldl (fun (tmps : Array Value) (x : Nat × Value) => tmps.setIfInBounds x.1 x.2) L.tmps, defers := [] } _ s1 ⟨hr, htr⟩ (Nat.le_refl _) (fun _ hq => by cases hq; exact ⟨L, hL⟩) marks_nil (Nat.le_refl _) hx1
              refine wpIn_mono hW1 fun e a1 w1 hf1 => ?_
              obtain ⟨G1, f1, f2, rfl, f4⟩ := hf1
              have hγ1 := f1.gk _ _ hb
              obtain ⟨L1, hL1, hLR1⟩ := f4.rel.box l b _ hγ1 hl1
              have hst1 : L1.state = .ready := by
                have := hLR1.st
                cases hs : L1.state <;> rw [hs] at this <;> first | rfl | exact this.elim
              have hLRb : LoopRel P gl G1 t1 ps1 asg1 body1 .busy pend1 { L1 with state := .busy } := { hLR1 with st := trivial }
              have c1 : Cfg P gl G1 (s1.h.set l (.loop t1 ps1 asg1 body1 .busy pend1)) s1.t a1 (w1.putObj b (.loop { L1 with state := .busy })) := ⟨f4.rel.putLoop hγ1 hLRb, f4.tr.putLoop f4.rel hγ1 _⟩
              have x1 : Ext h.length G w G1 (w1.putObj b (.loop { L1 with state := .busy })) := f1.trans (Nat.le_refl _) (Ext.putLoop _ hγ1 hL1 ⟨rfl, rfl, rfl, rfl, rfl, rfl⟩)
              refine ⟨_, run_beginRound hL1 hst1, ?_⟩
              have hro1 : RoundIs (some b) (w1.putObj b (.loop { L1 with state := .busy })) := fun _ hq => by cases hq; exact ⟨_, World.putObj_heap_same (Array.getElem?_eq_some_iff.1 hL1).1⟩
              have hW2 := exec_sound hmx hcall hk (N := N) (base := h.length) (lo := w.heap.size) (rf := false) (fx := []) (ro := some b) (m := n) L.body body hLR.body (fun h => by cases h) G1 _ { s1 with h := s1.h.set l (.loop t1 ps1 asg1 body1 .busy pend1) } a1 x s2 c1
                (by simpa using k1.1) hro1 (f2.ext (Ext.putLoop h.length hγ1 hL1 ⟨rfl, rfl, rfl, rfl, rfl, rfl⟩)) x1.size hx2
              refine wpIn_mono hW2 fun e a2 w2 hf2 => ?_
              obtain ⟨G2, g1, g2, g3⟩ := hf2
              have x2 : Ext h.length G w G2 w2 := x1.trans (by simpa using k1.1) g1
              have hγ2 := x2.gk _ _ hb
              have fin : ∀ {st : LSt} {pend : Option Jump} {jump : Option Code} {bv : Bool}, Cfg P gl G2 s2.h s2.t a2 w2 → stRel st (if jump.isNone then .ready else .done) → pendRel pend jump → bv = jump.isNone →
                  some (leave h.length (.ret (.bool bv)) (s2.h.set l (.loop t2 ps2 asg2 body2 st pend)) s2.e) = some (r, h', e') → ∃ v w', (Instr.endRound b jump).run P w2 = .ok v w' ∧ Back P gl h.length G w r h' (.returned v) w' := by
                intro st pend jump bv hc2 hst hpd hbv hlv
                obtain ⟨L2, hL2, hLR2⟩ := hc2.rel.box l b _ hγ2 hl2
                have hLRe : LoopRel P gl G2 t2 ps2 asg2 body2 st pend { L2 with state := if jump.isNone then .ready else .done, pending := jump } := { hLR2 with st := hst, pend := hpd }
                have hrel := hc2.rel.putLoop hγ2 hLRe
                have x3 := x2.trans (Nat.le_refl _) (Ext.putLoop _ hγ2 hL2 (L' := { L2 with state := if jump.isNone then .ready else .done, pending := jump }) ⟨rfl, rfl, rfl, rfl, rfl, rfl⟩)
                obtain ⟨rfl, G', y1, y2, y3, y4⟩ := leave_back (s := { s2 with h := s2.h.set l (.loop t2 ps2 asg2 body2 st pend) }) hr x3 hrel ⟨by simpa using k12.1, fun he => (k12.2 he).2.trans (Keeps.set hl2 fun B _ _ hlow => hlow)⟩ (Option.some.inj hlv)
                exact ⟨_, _, run_endRound jump hL2, _, G', rfl, y1, y2, y3, by subst hbv; exact y4 (.bool jump.isNone) (.bool jump.isNone) (.inl rfl) (by simp [Ghost.V, VRel])⟩
              split at hrun
              · obtain ⟨rfl, g3⟩ := g3
                exact fin (st := .ready) (pend := none) (jump := none) g3 (by simp [stRel]) trivial rfl hrun
              · obtain ⟨rfl, g3⟩ := g3
                exact fin (st := .done) (pend := some .ret) (jump := some .ret) g3 (by simp [stRel]) trivial rfl hrun
              · rename_i id
                obtain ⟨rfl, g3⟩ := g3
                exact fin (st := .done) (pend := some (.exit id)) (jump := some (.exit id)) g3 (by simp [stRel]) rfl rfl hrun
              · cases hrun
            · cases hrun
          · cases hrun
        · cases hrun
      · cases hrun
  · cases hrun

theorem run_sound (hmx : P.follows .mixedOrders = true) {F : FuncId → Option AFunc} {X : Exts} (hF : ProgOK P gl F) (hX : ∀ f g, X f = some g → ExtOK P gl f g)
    (hXk : ∀ f g, X f = some g → ∀ call, CallKeeps call → CallKeeps fun _ as h => g call as h) : ∀ n, CallOK P gl (run F X n)
  | 0 => fun fv args h r h' e' hr => by simp [run] at hr
  | n + 1 => fun fv args h r h' e' hrun G w fvv vs hr hn hf ha => by
    have ih := run_sound hmx hF hX hXk n
    have hk := run_keeps (F := F) (X := X) hXk n
    simp only [run] at hrun
    split at hrun
    · rename_i f first cap
      have hf' := hf
      simp only [Ghost.V, VRel] at hf'
      obtain ⟨x, y, rfl, hx, hy⟩ := hf'
      have hall : G.VL (first ++ args ++ cap) ((x ++ vs) ++ y).toList := by
        simp only [Array.toList_append]
        exact (VRelL.append hx ha).append hy
      rw [callS_fn]
      split at hrun
      · rename_i g hg
        rcases hX f g hg _ ih hk _ _ _ _ _ hrun G w _ hr hn hall with ⟨h1, h2⟩ | ⟨h1, v, w', h2, h3⟩
        · exact .inl ⟨f, _, h1, h2⟩
        · exact .inr (.inr ⟨v, w', fun i hi => h1 i (by rw [hi]; simp), h2, h3⟩)
      · split at hrun
        · cases hrun
        · rename_i fn hfn
          obtain ⟨pf, c, p1, p2, p3, p4, p5, p6⟩ := hF f fn hfn
          refine .inl ⟨f, _, callFunc_enter p1 p2 p3 _ w, fun ro m => ?_⟩
          generalize hvs : (x ++ vs) ++ y = vv at hall ⊢
          have hsize : vv.size = (first ++ args ++ cap).length := by have := hall.length; simp at this ⊢; omega
          let t0 : List AVal := (first ++ args ++ cap).map AVal.dim ++ List.replicate (fn.ntmps - ((first ++ args ++ cap).map AVal.dim).length) (.tup [])
          let a0 : Act := { tmps := vv ++ Array.replicate (pf.ntmps - vv.size) undef, defers := [] }
          have hc0 : Cfg P gl G h t0 a0 w := by
            refine ⟨hr, TRel.start ?_ fun z hz => ?_⟩
            · simp only [t0, a0, Array.toList_append, Array.toList_replicate]
              refine VRelL.append hall.dims ?_
              rw [p6, hsize]
              simp only [List.length_map]
              exact VRelL.replicate _ (by simp [VRel, VRelL, undef])
            · simp only [t0] at hz
              rcases List.mem_append.1 hz with hz | hz
              · obtain ⟨q, _, rfl⟩ := List.mem_map.1 hz; exact dim_dim q
              · rw [(List.mem_replicate.1 hz).2]; rfl
          have hW : ∀ x s, exec n h.length (run F X n) fn.code ⟨t0, h, false⟩ = some (x, s) → c.wpIn (FR none) m P (Fin2 P gl h.length G w w.heap.size false [] x s) a0 w := fun x s hx =>
            exec_sound hmx ih hk (N := n) (base := h.length) (lo := w.heap.size) (rf := false) (fx := []) (ro := none) (m := m) c fn.code p4 (fun h => by cases h) G w ⟨t0, h, false⟩ a0 x s hc0 (Nat.le_refl _) (fun _ hq => by cases hq) marks_nil (Nat.le_refl _) hx
          have hret : ∀ x s vs', exec n h.length (run F X n) fn.code ⟨t0, h, false⟩ = some (x, s) → (x = .nor ∨ x = .ret) → readRes s fn.results = some vs' → leave h.length (.ret (oneRes vs')) s.h s.e = (r, h', e') → CallsIn (FR ro) m P f vv w (Back P gl h.length G w r h') := by
            intro x s vs' hx hxx hres hlv
            have k := exec_keeps (base := h.length) hk n fn.code _ s _ (Nat.le_refl _) hx
            refine FR_calls (m := m) (callsIn_of_wp_marks (F := FR none) p1 p3 trivial (wpIn_mono (hW x s hx) fun e a' w' hfin => ?_) rfl)
            obtain ⟨G', g1, ⟨ms, hms, g2, _⟩, g3⟩ := hfin
            rw [List.append_nil] at hms
            rw [← hms] at g2
            have key : Cfg P gl G' s.h s.t a' w' → LeavesInM (FR none) m P pf a'.tmps (Back P gl h.length G w r h') a'.defers .returning w' := by
              intro hc
              refine leaves_marks (by simp) a'.defers w' g2 g1 hc.rel hc.tr fun w'' q1 q2 q3 => ?_
              obtain ⟨u, r1, r2⟩ := results_sound (a := a') ⟨q2, q3⟩ p5 hres
              obtain ⟨rfl, G'', y1, y2, y3, y4⟩ := leave_back hr q1 q2 ⟨k.1, fun he => (k.2 he).2⟩ hlv
              exact ⟨u, r1, _, G'', rfl, y1, y2, y3, y4 _ u (.inl rfl) r2⟩
            rcases hxx with rfl | rfl
            · obtain ⟨rfl, g3⟩ := g3; exact key g3
            · obtain ⟨rfl, g3⟩ := g3; exact key g3
          split at hrun
          · rename_i s hx
            split at hrun
            · rename_i vs' hres
              exact hret _ s vs' hx (.inl rfl) hres (Option.some.inj hrun)
            · cases hrun
          · rename_i s hx
            split at hrun
            · rename_i vs' hres
              exact hret _ s vs' hx (.inr rfl) hres (Option.some.inj hrun)
            · cases hrun
          · rename_i v s hx
            have k := exec_keeps (base := h.length) hk n fn.code _ s _ (Nat.le_refl _) hx
            refine FR_calls (m := m) (callsIn_of_wp_marks (F := FR none) p1 p3 trivial (wpIn_mono (hW _ s hx) fun e a' w' hfin => ?_) rfl)
            obtain ⟨G', g1, ⟨ms, hms, g2, _⟩, u, rfl, g3, g4⟩ := hfin
            rw [List.append_nil] at hms
            rw [← hms] at g2
            refine leaves_marks' (by simp) a'.defers w' g2 g1 g3.rel fun w'' q1 q2 => ?_
            obtain ⟨rfl, G'', y1, y2, y3, y4⟩ := leave_back hr q1 q2 ⟨k.1, fun he => (k.2 he).2⟩ (Option.some.inj hrun)
            exact ⟨v, u, G'', rfl, rfl, y1, y2, y3, y4 _ u (.inr rfl) g4⟩
          · cases hrun
    · rename_i l
      have hf' := hf
      simp only [Ghost.V, VRel] at hf'
      obtain ⟨b, hb, rfl⟩ := hf'
      rw [callS_yield]
      obtain ⟨f, tmps, asg, body, h1, h2⟩ := round_sound hmx ih hk hrun hr hn hb ha (vs := vs)
      exact .inr (.inl ⟨l, b, f, tmps, asg, body, rfl, by simpa using h1, h2⟩)
    · cases hrun
end
end Go.AE
