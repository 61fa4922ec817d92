/- The abstract executor: functions with one deferred call, which may recover: the whole call. No condition. -/
import Derived.Test.YtlognicjhmcgjaaGreatDoorAeGuard
namespace Go.AE
section
variable {P : Program} {gl : Nat → Option (List AVal)}

/-- The marks are shut, one after the other; what stands behind them. -/
theorem leaves_marksF {G' G0 : Ghost} {w0 : World} {h : List ABox} {t : List AVal} {n : Nat} {fn : Func} {ts : Array Value} {R : Ending → World → Prop} {F : Fence} {m : Nat} {u : FrameMode} (hu : u ≠ .run) {fx : List Deferred} : ∀ (ds : List Deferred) (w' : World),
    Marks G' w' w0.heap.size ds → Ext n G0 w0 G' w' → Rel P gl G' h w' → TRel G' w' t ts → (∀ w'', Ext n G0 w0 G' w'' → Rel P gl G' h w'' → TRel G' w'' t ts → LeavesInM F m P fn ts R fx u w'') → LeavesInM F m P fn ts R (ds ++ fx) u w'
  | [], w', _, he, hr, ht, hR => hR w' he hr ht
  | d :: ds, w', hm, he, hr, ht, hR => by
    obtain ⟨r, rfl, h1, h2, h3⟩ := hm.all d (List.mem_cons_self ..)
    refine ⟨hu, .inl ⟨r, w'.putObj r (.deferred none), rfl, run_takeDeferred h2, ?_⟩⟩
    have hnd := List.nodup_cons.1 hm.nodup
    refine leaves_marksF hu ds _ ⟨hnd.2, fun d hd => ?_⟩ (he.putFar h1 _) (hr.putFar h3 fun k => by simp [World.cell?, h2]) (ht.putFar h3) hR
    obtain ⟨r', g1, g2, g3, g4⟩ := hm.all d (List.mem_cons_of_mem _ hd)
    refine ⟨r', g1, g2, ?_, g4⟩
    rw [World.putObj_heap_other]
    · exact g3
    · rintro rfl
      rw [g1] at hd
      exact hnd.1 hd

theorem gbody_sound (hmx : P.follows .mixedOrders = true) {call : AE.Call} (hcall : CallOK P gl call) (hk : CallKeeps call) {df pf : Func} {d : DFunc} (hd : DWas P gl df d) {N base n0 m : Nat} {G0 : Ghost} {w0 : World} {R : Ending → World → Prop} {x : Ex} {s' : St} :
    ∀ (gb : GBody) (c : Code), compG P gl c = some gb → P.funcs[gb.fid]? = some df → (df.name == "runtime.NumGoroutine") = false → ∀ (G : Ghost) (w : World) (s : St) (a : Act), Cfg P gl G s.h s.t a w → base ≤ s.h.length → a.defers = [] → w0.heap.size ≤ w.heap.size → n0 ≤ s.h.length → Ext n0 G0 w0 G w →
      gexec N base call d gb s = some (x, s') →
      (∀ G' w' a', (x = .nor ∨ x = .ret) → Ext n0 G0 w0 G' w' → Cfg P gl G' s'.h s'.t a' w' → LeavesIn (FR none) m P pf a'.tmps R [] .returning w') →
      (∀ pv v G' w' a', x = .pan pv → Ext n0 G0 w0 G' w' → Cfg P gl G' s'.h s'.t a' w' → G'.V pv v → R (.panicked [{ v, recovered := false }]) w') →
      c.wpIn (FR none) m P (bodyPostM (FR none) m P pf R) a w := by
  intro gb
  induction gb with
  | pre ac r ih =>
    intro c hcomp hf hname G w s a hc hb hdf hlo hn he hrun hret hpan
    cases c <;> simp only [compG, reduceCtorEq] at hcomp
    rename_i a1 b1
    split at hcomp
    · rename_i f caps t hdc
      obtain ⟨z, _, hz⟩ := mapO hcomp
      cases hz
    · split at hcomp
      · rename_i x1 r1 hx1 hr1
        split at hcomp
        · rename_i hrf
          cases hcomp
          have hW := fun x2 s2 hx2 => exec_sound hmx hcall hk (N := N) (base := base) (lo := w0.heap.size) (rf := true) (fx := []) (ro := none) (m := m) a1 ac hx1 (fun _ => hrf) G w s a x2 s2 hc hb (fun _ hq => by cases hq)
            ⟨[], by rw [hdf]; rfl, ⟨List.nodup_nil, fun _ h => by cases h⟩, fun _ => rfl⟩ hlo hx2
          simp only [gexec] at hrun
          split at hrun
          · rename_i s1 hs1
            have hkeep := (exec_keeps (base := base) hk N ac s s1 _ hb hs1).1
            refine wpIn_seq (wpIn_mono (hW _ s1 hs1) fun e a' w' hfin => ?_)
            obtain ⟨G', g1, ⟨ms, hms, _, hms0⟩, rfl, g4⟩ := hfin
            have hd0 : a'.defers = [] := by rw [hms, hms0 rfl]; rfl
            exact ih b1 hr1 hf hname G' w' s1 a' g4 (Nat.le_trans hb hkeep) hd0 (Nat.le_trans hlo g1.size) (Nat.le_trans hn hkeep) (he.trans hn g1) hrun hret hpan
          · cases hrun
          · rename_i r2 h1 h2
            refine wpIn_seq (wpIn_mono (hW x s' hrun) fun e a' w' hfin => ?_)
            obtain ⟨G', g1, ⟨ms, hms, _, hms0⟩, g3⟩ := hfin
            have hd0 : a'.defers = [] := by rw [hms, hms0 rfl]; rfl
            cases x with
            | nor => exact absurd hrun (h1 s')
            | exit id => exact absurd hrun (h2 id s')
            | ret =>
              obtain ⟨rfl, g3⟩ := g3
              show LeavesInM _ _ _ _ _ _ _ _ _
              rw [hd0]
              exact hret G' w' a' (.inr rfl) (he.trans hn g1) g3
            | pan pv =>
              obtain ⟨v, rfl, g3, g4⟩ := g3
              show LeavesInM _ _ _ _ _ _ _ _ _
              rw [hd0]
              exact hpan pv v G' w' a' rfl (he.trans hn g1) g3 g4
        · cases hcomp
      · cases hcomp
  | dfr f caps slot rest =>
    intro c hcomp hf hname G w s a hc hb hdf hlo hn he hrun hret hpan
    change P.funcs[f]? = some df at hf
    cases c <;> simp only [compG, reduceCtorEq] at hcomp
    rename_i a1 b1
    split at hcomp
    · rename_i f' caps' t hdc
      obtain ⟨z, hz, hze⟩ := mapO hcomp
      cases hze
      obtain ⟨id, ops, o0, o1, a0, cs, cl, rfl, rfl, k1, rfl, k3, k4, k5, k6, k7, k8, k9, k10⟩ := dfr_was hdc
      refine wpIn_seq (wpIn_region ?_)
      have hrange : List.range (#[o0, o1] : Array Oper).size = [0, 1] := rfl
      rw [hrange]
      simp only [wpOpsIn, List.getElem?_toArray, List.getElem?_cons_zero, List.getElem?_cons_succ]
      rw [if_pos (by simp [Region.wanted, k4])]
      -- the closure
      have hcomp0 : compOp P gl o0 = some (.mkF f [] caps) := by
        simp only [compOp, k1, k10]
        rfl
      have hrun0 : runOp base call [] o0.dst (.mkF f [] caps) s = some (.nor, { s with t := put (some slot) (.fn f [] (caps.map (ev s.t))) s.t }) := by
        simp [runOp, pureV, k3]
      refine op_sound hcall hk hc ProvOK.nil hcomp0 hrun0 (fun _ u1 w1 G1 e1 c1 _ _ _ => ?_) (fun pv h => by cases h)
      rw [k3] at c1 ⊢
      -- the deferring
      rw [if_pos (by simp [Region.wanted, k9])]
      simp only [gexec] at hrun
      split at hrun
      · rename_i g cv hev
        split at hrun
        · rename_i hgf
          subst hgf
          have hv := ev_rel c1.rel c1.tr (x := .tmp slot) (ax := .t slot) rfl
          rw [hev] at hv
          simp only [Ghost.V, VRel, VRelL] at hv
          obtain ⟨x0, y0, hval, hx0, hy0⟩ := hv
          have hx0' : x0 = #[] := by apply Array.ext'; simpa using hx0
          subst hx0'
          let dd : Deferred := { target := .fn (.func g) y0, args := #[] }
          refine ⟨fun _ _ => trivial, ?_⟩
          have hsem : (o1.semAt (FR none).round (a.put (some slot) u1).eval).run P w1 = .ok (.defer dd) w1 := by
            show (Oper.semAt none _ _).run P w1 = _
            rw [Oper.semAt_none]
            simp only [execOp, k5, resolve, k6, k7, hval]
            simp [Deferred.ofValue, Sem.run_bind, Result.andThen, dd]
          rw [hsem, Oper.uponIn_defer, k8]
          show (Code.wpIn (FR none) m P b1 (bodyPostM (FR none) m P pf R)) { tmps := (a.put (some slot) u1).tmps, defers := dd :: a.defers } w1
          rw [hdf]
          have hlen1 : n0 ≤ ({ s with t := put (some slot) (.fn g [] (caps.map (ev s.t))) s.t } : St).h.length := hn
          have he1 : Ext n0 G0 w0 G1 w1 := he.trans hn e1
          have c2 : Cfg P gl G1 s.h (put (some slot) (.fn g [] (caps.map (ev s.t))) s.t) { tmps := (a.put (some slot) u1).tmps, defers := [] ++ [dd] } w1 := ⟨c1.rel, c1.tr⟩
          have hW := fun x2 s2 hx2 => exec_sound hmx hcall hk (N := N) (base := base) (lo := w0.heap.size) (rf := false) (fx := [dd]) (ro := none) (m := m) b1 rest hz (fun h => by cases h) G1 w1 { s with t := put (some slot) (.fn g [] (caps.map (ev s.t))) s.t }
            { tmps := (a.put (some slot) u1).tmps, defers := [] ++ [dd] } x2 s2 c2 hb (fun _ hq => by cases hq) ⟨[], rfl, ⟨List.nodup_nil, fun _ h => by cases h⟩, fun h => by cases h⟩ he1.size hx2
          -- at the end, whatever it is
          have tail : ∀ (s2 : St) (v : AVal) (u : FrameMode) (G2 : Ghost) (w2 : World) (a2 : Act), s.h.length ≤ s2.h.length → Ext s.h.length G1 w1 G2 w2 → MarksF G2 w2 w0.heap.size false [dd] a2.defers → Cfg P gl G2 s2.h s2.t a2 w2 → u ≠ .run → Mode G2 u v →
              dexec N call d v cv s2 = some (x, s') → LeavesInM (FR none) m P pf a2.tmps R a2.defers u w2 := by
            intro s2 v u G2 w2 a2 hkeep he2 hmk c3 hur hmode hdx
            obtain ⟨ms, hms, hmk, _⟩ := hmk
            rw [hms]
            refine leaves_marksF (G0 := G0) (w0 := w0) (n := n0) hur ms w2 hmk (he1.trans hn he2) c3.rel c3.tr fun w3 q1 q2 q3 => ?_
            have hcv : G2.VL cv y0.toList := he2.VL hy0
            refine ⟨hur, .inr ⟨FR_depth, .func g, y0, g, y0, rfl, ?_, fun _ _ => trivial, ?_⟩⟩
            · simp only [dd, invoke]
              have := hd.ex
              obtain ⟨id', ops', o0', os', c', hbody', _⟩ := this
              have := callFunc_enter (vs := #[] ++ y0) (w := w3) hf hname hbody'
              simpa using this
            · have c4 : Cfg P gl G2 s2.h s2.t { a2 with defers := [] } w3 := ⟨q2, q3⟩
              refine (dcall_sound hmx hcall hk hf hd hdx c4 hcv hmode fun r u' G3 w4 r1 r2 r3 => ?_).2.2
              obtain ⟨hxr, hst, _⟩ := dcall_sound (m := m) (R := fun _ _ _ => True) hmx hcall hk hf hd hdx c4 hcv hmode fun _ _ _ _ _ _ _ => trivial
              show LeavesInM _ _ _ _ _ _ _ _ _
              rw [r1]
              exact hret G3 w4 { a2 with defers := [] } (.inr hxr) (q1.trans (Nat.le_trans hn hkeep) r2) r3
          split at hrun
          · rename_i s2 hx2
            have hkeep := (exec_keeps (base := base) hk N rest { s with t := put (some slot) (.fn g [] (caps.map (ev s.t))) s.t } s2 _ hb hx2).1
            refine wpIn_mono (hW _ s2 hx2) fun e a2 w2 hfin => ?_
            obtain ⟨G2, g1, g2, rfl, g3⟩ := hfin
            exact tail s2 _ .returning G2 w2 a2 hkeep g1 g2 g3 (by simp) (.inl ⟨rfl, rfl⟩) hrun
          · rename_i s2 hx2
            have hkeep := (exec_keeps (base := base) hk N rest { s with t := put (some slot) (.fn g [] (caps.map (ev s.t))) s.t } s2 _ hb hx2).1
            refine wpIn_mono (hW _ s2 hx2) fun e a2 w2 hfin => ?_
            obtain ⟨G2, g1, g2, rfl, g3⟩ := hfin
            exact tail s2 _ .returning G2 w2 a2 hkeep g1 g2 g3 (by simp) (.inl ⟨rfl, rfl⟩) hrun
          · rename_i v s2 hx2
            have hkeep := (exec_keeps (base := base) hk N rest { s with t := put (some slot) (.fn g [] (caps.map (ev s.t))) s.t } s2 _ hb hx2).1
            refine wpIn_mono (hW _ s2 hx2) fun e a2 w2 hfin => ?_
            obtain ⟨G2, g1, g2, vv, rfl, g3, g4⟩ := hfin
            exact tail s2 v (.panicking [{ v := vv, recovered := false }]) G2 w2 a2 hkeep g1 g2 g3 (by simp) (.inr ⟨vv, rfl, g4⟩) hrun
          · cases hrun
        · cases hrun
      · cases hrun
    · split at hcomp
      · split at hcomp
        · cases hcomp
        · cases hcomp
      · cases hcomp

/-- A function with one deferred call is what 'gcall' says. -/
theorem gcall_ok (hmx : P.follows .mixedOrders = true) {f : FuncId} {pf df : Func} {g : GFunc} (hf : P.funcs[f]? = some pf) (hname : (pf.name == "runtime.NumGoroutine") = false) (hcomp : compGuard P gl pf df = some g) (hdf : P.funcs[g.body.fid]? = some df)
    (hdname : (df.name == "runtime.NumGoroutine") = false) (N : Nat) : ExtOK P gl f (gcall N g) := by
  intro call hcall hk as h r h' e' hrun G w vs hr hn hall
  unfold compGuard at hcomp
  split at hcomp
  · rename_i c hbody
    split at hcomp
    · rename_i b rs d hb hrs hd
      cases hcomp
      simp only at hdf
      refine .inl ⟨callFunc_enter hf hname hbody vs w, fun ro m => FR_calls (m := m) ?_⟩
      have hsize : vs.size = as.length := by have := hall.length; simp at this ⊢; omega
      have hc0 : Cfg P gl G h (as.map AVal.dim ++ List.replicate (pf.ntmps - as.length) (.tup [])) { tmps := vs ++ Array.replicate (pf.ntmps - vs.size) undef, defers := [] } w := by
        refine ⟨hr, TRel.start ?_ fun z hz => ?_⟩
        · simp only [Array.toList_append, Array.toList_replicate]
          refine VRelL.append hall.dims ?_
          rw [hsize]
          exact VRelL.replicate _ (by simp [VRel, VRelL, undef])
        · rcases List.mem_append.1 hz with hz | hz
          · obtain ⟨q, _, rfl⟩ := List.mem_map.1 hz; exact dim_dim q
          · rw [(List.mem_replicate.1 hz).2]; rfl
      refine callsIn_of_wp_marks (F := FR none) hf hbody trivial ?_ rfl
      simp only [gcall] at hrun
      have main : ∀ x s, gexec N h.length call d b ⟨as.map AVal.dim ++ List.replicate (pf.ntmps - as.length) (.tup []), h, false⟩ = some (x, s) →
          ((x = .nor ∨ x = .ret) → ∃ vs', readRes s rs = some vs' ∧ leave h.length (.ret (oneRes vs')) s.h s.e = (r, h', e')) → (∀ pv, x = .pan pv → leave h.length (.pan pv) s.h s.e = (r, h', e')) →
          c.wpIn (FR none) m P (bodyPostM (FR none) m P pf (Back P gl h.length G w r h')) { tmps := vs ++ Array.replicate (pf.ntmps - vs.size) undef, defers := [] } w := by
        intro x s hx h1 h2
        have k := gexec_keeps (base := h.length) hk b ⟨_, h, false⟩ s _ (Nat.le_refl _) hx
        refine gbody_sound hmx hcall hk (compD_was hd) (n0 := h.length) (G0 := G) (w0 := w) b c hb hdf hdname G w ⟨_, h, false⟩ _ hc0 (Nat.le_refl _) rfl (Nat.le_refl _) (Nat.le_refl _) (Ext.refl _ G w) hx (fun G' w' a' hxx g1 g2 => ?_) (fun pv v G' w' a' hxx g1 g2 g3 => ?_)
        · obtain ⟨vs', hres, hlv⟩ := h1 hxx
          obtain ⟨u, r1, r2⟩ := results_sound g2 hrs hres
          obtain ⟨rfl, G'', y1, y2, y3, y4⟩ := leave_back hr g1 g2.rel ⟨k.1, fun he => (k.2 he).2⟩ hlv
          exact ⟨u, r1, _, G'', rfl, y1, y2, y3, y4 _ u (.inl rfl) r2⟩
        · obtain ⟨rfl, G'', y1, y2, y3, y4⟩ := leave_back hr g1 g2.rel ⟨k.1, fun he => (k.2 he).2⟩ (h2 pv hxx)
          exact ⟨pv, v, G'', rfl, rfl, y1, y2, y3, y4 _ v (.inr rfl) g3⟩
      split at hrun
      · rename_i s hx
        split at hrun
        · rename_i vs' hres
          exact main _ s hx (fun _ => ⟨vs', hres, Option.some.inj hrun⟩) (fun _ h => by cases h)
        · cases hrun
      · rename_i s hx
        split at hrun
        · rename_i vs' hres
          exact main _ s hx (fun _ => ⟨vs', hres, Option.some.inj hrun⟩) (fun _ h => by cases h)
        · cases hrun
      · rename_i v s hx
        exact main _ s hx (fun h => by rcases h with h | h <;> cases h) (fun pv h => by cases h; exact Option.some.inj hrun)
      · cases hrun
    · cases hcomp
  · cases hcomp
end
end Go.AE
