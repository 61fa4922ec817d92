/- The abstract executor: every operation that is no call and no panic. No condition. -/
import Derived.Test.YtlognicjhmcgjaaGreatDoorAeStep4
namespace Go.AE

section
variable {P : Program} {gl : Nat → Option (List AVal)} {G : Ghost} {w : World} {h : List ABox} {t : List AVal} {a : Act}

theorem list_sz {e : TypeId} {k : Nat} (hk : szOf P e = some k) {z : AVal} (_hz : zeroOf P e = some z) {len : Nat} {aps : List (Nat × AOpd)} {v : AVal} (hp : pureV t (.list k z.cells len aps) = some v) : z.cells.length = k := by
  simp only [pureV] at hp
  split at hp
  · rename_i hh; exact hh.1
  · cases hp

set_option maxHeartbeats 1000000 in
theorem did_op (hc : Cfg P gl G h t a w) {p : Prov} (hp : ProvOK G w t a p) {o : Oper} {ao : AOp} (hcomp : compOp P gl o = some ao) (hnc : ao.calls = false) {base : Nat} {call : AE.Call} {e : Bool} {x : Ex} {s' : St}
    (hrun : runOp base call p o.dst ao ⟨t, h, e⟩ = some (x, s')) : x = .nor ∧ Did P gl G w a o h.length s'.h s'.t ∧ h.length ≤ s'.h.length := by
  have hpure : ∀ {q : AOp}, (∀ v, pureV t q = some v → Gives P G w a o v) → (pureV t q).map (fun v => (Ex.nor, ({ t := put o.dst v t, h := h, e := e } : St))) = some (x, s') →
      x = .nor ∧ Did P gl G w a o h.length s'.h s'.t ∧ h.length ≤ s'.h.length := by
    intro q hg hm
    obtain ⟨v, hv, he⟩ := mapO hm
    cases he
    exact ⟨rfl, did_gives hc (hg v hv) _, Nat.le_refl _⟩
  have hr := hc.rel
  have ht := hc.tr
  unfold compOp at hcomp
  split at hcomp
  · -- move
    rename_i y ho
    obtain ⟨ay, hy, rfl⟩ := mapO hcomp
    simp only [runOp] at hrun
    exact hpure (fun v hv => by simp only [pureV, Option.some.injEq] at hv; subst hv; exact gives_move hr ht ho hy) hrun
  · -- assign
    rename_i y ho
    obtain ⟨ay, hy, rfl⟩ := mapO hcomp
    simp only [runOp] at hrun
    cases hrun
    exact ⟨rfl, did_asg hc ho hy _, Nat.le_refl _⟩
  · -- pick
    rename_i c y z ho
    obtain ⟨ac, hac, hcomp⟩ := bindO hcomp
    obtain ⟨ay, hay, hcomp⟩ := bindO hcomp
    obtain ⟨az, haz, hcomp⟩ := bindO hcomp
    cases hcomp
    simp only [runOp] at hrun
    exact hpure (fun v hv => gives_pick hr ht ho hac hay haz hv) hrun
  · -- alloc
    rename_i et ho
    obtain ⟨z, hz, hcomp⟩ := bindO hcomp
    cases hcomp
    simp only [runOp] at hrun
    cases hrun
    exact ⟨rfl, did_new hc ho hz, by simp⟩
  · -- box
    rename_i et y ho
    obtain ⟨k, hk, hcomp⟩ := bindO hcomp
    obtain ⟨ay, hay, hcomp⟩ := bindO hcomp
    cases hcomp
    simp only [runOp] at hrun
    split at hrun
    · rename_i hh
      cases hrun
      exact ⟨rfl, did_boxed hc ho hay hh.2, by simp⟩
    · cases hrun
  · -- build
    rename_i ty ps ho
    obtain ⟨z, hz, hcomp⟩ := bindO hcomp
    split at hcomp
    · rename_i fs hu
      split at hcomp
      · rename_i hall
        obtain ⟨aps, haps, hcomp⟩ := bindO hcomp
        cases hcomp
        simp only [runOp] at hrun
        exact hpure (fun v hv => gives_buildS hr ht ho hu hall hz haps hv) hrun
      · cases hcomp
    · rename_i n et hu
      obtain ⟨k, hk, hcomp⟩ := bindO hcomp
      obtain ⟨aps, haps, hcomp⟩ := bindO hcomp
      cases hcomp
      simp only [runOp] at hrun
      exact hpure (fun v hv => gives_buildA hr ht ho hu hk hz haps hv) hrun
    · cases hcomp
  · -- buildSlice
    rename_i ty n ps ho
    split at hcomp
    · rename_i et hu
      obtain ⟨k, hk, hcomp⟩ := bindO hcomp
      obtain ⟨z, hz, hcomp⟩ := bindO hcomp
      split at hcomp
      · cases hcomp
      · rename_i hk0
        obtain ⟨aps, haps, hcomp⟩ := bindO hcomp
        cases hcomp
        simp only [runOp] at hrun
        obtain ⟨v, hv, he⟩ := mapO hrun
        cases he
        obtain ⟨c, u, h1, h2, h3⟩ := list_run hr ht ho hu hk hk0 hz haps hv
        exact ⟨rfl, did_list hc h1 h2 h3 _, Nat.le_refl _⟩
    · cases hcomp
  · -- load
    rename_i ty y ho
    obtain ⟨k, hk, hcomp⟩ := bindO hcomp
    obtain ⟨ay, hay, hcomp⟩ := bindO hcomp
    cases hcomp
    simp only [runOp] at hrun
    obtain ⟨v, hv, he⟩ := mapO hrun
    cases he
    exact ⟨rfl, did_ld hc ho hk hay hv _, Nat.le_refl _⟩
  · -- store
    rename_i ty y z ho
    obtain ⟨k, hk, hcomp⟩ := bindO hcomp
    split at hcomp
    · rename_i hsz
      obtain ⟨ay, hay, hcomp⟩ := bindO hcomp
      obtain ⟨az, haz, hcomp⟩ := bindO hcomp
      cases hcomp
      simp only [runOp] at hrun
      split at hrun
      · rename_i id q hq
        split at hrun
        · rename_i cs hcs
          cases k with
          | none =>
            simp only at hrun
            split at hrun
            · rename_i hh
              cases hrun
              exact ⟨rfl, did_st (k := none) hc ho hsz hay haz hq hcs hh.1 hh.2.1 hh.2.2 h.length, by simp⟩
            · cases hrun
          | some k =>
            simp only at hrun
            split at hrun
            · rename_i hh
              cases hrun
              exact ⟨rfl, did_st (k := some k) hc ho hsz hay haz hq hcs hh.1 hh.2.1 hh.2.2 h.length, by simp⟩
            · cases hrun
        · cases hrun
      · cases hrun
    · cases hcomp
  · -- nilCheck
    rename_i y ho
    obtain ⟨ay, hy, rfl⟩ := mapO hcomp
    simp only [runOp] at hrun
    exact hpure (fun v hv => gives_nilc hr ht ho hy hv) hrun
  · -- binOp
    rename_i op ty y z yt ho
    split at hcomp
    · rename_i ay az hay haz
      split at hcomp
      · rename_i hop
        have hop' : op = .eql ∨ op = .neq := by cases op <;> simp [isEq] at hop <;> simp
        split at hcomp
        · rename_i hu
          cases hcomp
          simp only [runOp] at hrun
          exact hpure (fun v hv => gives_eqb hr ht ho hay haz hop' hu hv) hrun
        · cases hcomp
          simp only [runOp] at hrun
          exact hpure (q := .bin op ay az) (fun v hv => gives_bin hr ht ho hay haz (by simpa only [pureV] using hv)) hrun
        · cases hcomp
          simp only [runOp] at hrun
          exact hpure (q := .bin op ay az) (fun v hv => gives_bin hr ht ho hay haz (by simpa only [pureV] using hv)) hrun
        · rename_i et hu
          split at hcomp
          · cases hcomp
          · rename_i hs0
            cases hcomp
            simp only [runOp] at hrun
            refine hpure (fun v hv => gives_eqi hr ht ho hay haz hop' (fun _ => ⟨et, hu, ?_⟩) (by simp) (by simp) hv) hrun
            cases hs : szOf P et with
            | none => simp [hs] at hs0
            | some n => exact ⟨n, rfl, by simpa [hs] using hs0⟩
        · rename_i ms hu
          split at hcomp
          · rename_i hcc
            cases hcomp
            simp only [runOp] at hrun
            exact hpure (fun v hv => gives_eqi hr ht ho hay haz hop' (by simp) (fun _ => ⟨⟨ms, hu⟩, by simpa using hcc⟩) (by simp) hv) hrun
          · cases hcomp
        · rename_i p1 p2 p3 hu
          cases hcomp
          simp only [runOp] at hrun
          exact hpure (fun v hv => gives_eqi hr ht ho hay haz hop' (by simp) (by simp) (fun _ => ⟨p1, p2, p3, hu⟩) hv) hrun
        · cases hcomp
      · cases hcomp
        simp only [runOp] at hrun
        exact hpure (q := .bin op ay az) (fun v hv => gives_bin hr ht ho hay haz (by simpa only [pureV] using hv)) hrun
    · cases hcomp
  · -- unOp
    rename_i op ty y ho
    obtain ⟨ay, hy, rfl⟩ := mapO hcomp
    simp only [runOp] at hrun
    exact hpure (fun v hv => gives_un hr ht ho hy hv) hrun
  · -- convert
    rename_i s d y ho
    obtain ⟨ay, hay, hcomp⟩ := bindO hcomp
    split at hcomp
    · rename_i j k hs hd
      cases hcomp
      simp only [runOp] at hrun
      exact hpure (fun v hv => gives_cvi hr ht ho hay hs hd hv) hrun
    · rename_i hs hd
      cases hcomp
      simp only [runOp] at hrun
      exact hpure (fun v hv => gives_cvs hr ht ho hay hs hd hv) hrun
    · rename_i e0 hs hd
      split at hcomp
      · rename_i hu8
        cases hcomp
        simp only [runOp] at hrun
        obtain ⟨v, hv, he⟩ := mapO hrun
        cases he
        exact ⟨rfl, did_bytes hc ho hay hs hd hu8 hv _, Nat.le_refl _⟩
      · cases hcomp
    · cases hcomp
  · -- makeInterface
    rename_i ty y ho
    split at hcomp
    · cases hcomp
    · cases hcomp
    · rename_i n1 n2
      obtain ⟨ay, hy, rfl⟩ := mapO hcomp
      simp only [runOp] at hrun
      cases hu : P.underlying ty with
      | none => exact absurd hu n2
      | some d => exact hpure (fun v hv => gives_mkI hr ht ho hy hu (fun ms hms => n1 ms (by rw [hu, hms])) hv) hrun
  · -- makeFunc
    rename_i f y z ho
    obtain ⟨ay, hay, hcomp⟩ := bindO hcomp
    obtain ⟨az, haz, hcomp⟩ := bindO hcomp
    cases hcomp
    simp only [runOp] at hrun
    exact hpure (fun v hv => gives_mkF hr ht ho hay haz hv) hrun
  · -- slice
    rename_i ty y lo hi ho
    split at hcomp
    · rename_i hu
      obtain ⟨ay, hay, hcomp⟩ := bindO hcomp
      obtain ⟨alo, halo, hcomp⟩ := bindO hcomp
      obtain ⟨ahi, hahi, hcomp⟩ := bindO hcomp
      cases hcomp
      simp only [runOp] at hrun
      exact hpure (fun v hv => gives_subS hr ht ho hay halo hahi hu hv) hrun
    · rename_i et hu
      obtain ⟨k, hk, hcomp⟩ := bindO hcomp
      obtain ⟨ay, hay, hcomp⟩ := bindO hcomp
      obtain ⟨alo, halo, hcomp⟩ := bindO hcomp
      obtain ⟨ahi, hahi, hcomp⟩ := bindO hcomp
      cases hcomp
      simp only [runOp] at hrun
      exact hpure (fun v hv => gives_subL hr ht ho hay halo hahi hu hk hv) hrun
    · cases hcomp
  · -- fieldAddr
    rename_i s y i ho
    split at hcomp
    · rename_i fs hu
      split at hcomp
      · rename_i f hf
        split at hcomp
        · cases hcomp
        · rename_i hs0
          obtain ⟨ay, hy, rfl⟩ := mapO hcomp
          simp only [runOp] at hrun
          cases hs : szOf P f.type with
          | none => simp [hs] at hs0
          | some n => exact hpure (fun v hv => gives_fa hr ht ho hy hu hf hs (by simpa [hs] using hs0) hv) hrun
      · cases hcomp
    · cases hcomp
  · -- field
    rename_i s y i ho
    split at hcomp
    · rename_i fs hu
      split at hcomp
      · rename_i f hf
        obtain ⟨k, hk, hcomp⟩ := bindO hcomp
        obtain ⟨ay, hay, hcomp⟩ := bindO hcomp
        cases hcomp
        simp only [runOp] at hrun
        exact hpure (fun v hv => gives_fld hr ht ho hay hu hf hk hv) hrun
      · cases hcomp
    · cases hcomp
  · -- indexAddr
    rename_i ty y i ho
    split at hcomp
    · rename_i et hu
      obtain ⟨k, hk, hcomp⟩ := bindO hcomp
      obtain ⟨ay, hay, hcomp⟩ := bindO hcomp
      obtain ⟨ai, hai, hcomp⟩ := bindO hcomp
      cases hcomp
      simp only [runOp] at hrun
      exact hpure (fun v hv => gives_ixaL hr ht ho hay hai hu hk hv) hrun
    · rename_i n et hu
      obtain ⟨k, hk, hcomp⟩ := bindO hcomp
      obtain ⟨ay, hay, hcomp⟩ := bindO hcomp
      obtain ⟨ai, hai, hcomp⟩ := bindO hcomp
      cases hcomp
      simp only [runOp] at hrun
      exact hpure (fun v hv => gives_ixaA hr ht ho hay hai hu hk hv) hrun
    · cases hcomp
  · -- index
    rename_i ty y i ho
    split at hcomp
    · rename_i hu
      obtain ⟨ay, hay, hcomp⟩ := bindO hcomp
      obtain ⟨ai, hai, hcomp⟩ := bindO hcomp
      cases hcomp
      simp only [runOp] at hrun
      exact hpure (fun v hv => gives_ixS hr ht ho hay hai hu hv) hrun
    · rename_i n et hu
      obtain ⟨k, hk, hcomp⟩ := bindO hcomp
      split at hcomp
      · rename_i hsz
        obtain ⟨ay, hay, hcomp⟩ := bindO hcomp
        obtain ⟨ai, hai, hcomp⟩ := bindO hcomp
        cases hcomp
        simp only [runOp] at hrun
        exact hpure (fun v hv => gives_ixA hr ht ho hay hai hu hk hsz rfl hv) hrun
      · cases hcomp
    · cases hcomp
  · -- typeAssert
    rename_i y xt ty ho
    split at hcomp
    · cases hcomp
    · cases hcomp
    · rename_i n1 n2
      obtain ⟨z, hz, hcomp⟩ := bindO hcomp
      obtain ⟨ay, hay, hcomp⟩ := bindO hcomp
      cases hcomp
      simp only [runOp] at hrun
      cases hu : P.underlying ty with
      | none => exact absurd hu n2
      | some d => exact hpure (fun v hv => gives_tas hr ht ho hay hu (fun ms hms => n1 ms (by rw [hu, hms])) hz hv) hrun
  · -- extract
    rename_i y i ho
    obtain ⟨ay, hay, hcomp⟩ := bindO hcomp
    cases hcomp
    simp only [runOp] at hrun
    exact hpure (fun v hv => gives_ext hr ht ho hay hv) hrun
  · -- call
    rename_i c ho
    split at hcomp
    · obtain ⟨af, haf, hcomp⟩ := bindO hcomp
      obtain ⟨as, has, hcomp⟩ := bindO hcomp
      cases hcomp
      simp [AOp.calls] at hnc
    · cases hcomp
    · rename_i b hcal
      split at hcomp
      · rename_i y ty hargs hty
        split at hcomp
        · rename_i hu
          obtain ⟨ay, hy, rfl⟩ := mapO hcomp
          simp only [runOp] at hrun
          exact hpure (fun v hv => gives_lenS hr ht ho hcal hargs hty hy hu hv) hrun
        · rename_i et hu
          obtain ⟨ay, hy, rfl⟩ := mapO hcomp
          simp only [runOp] at hrun
          exact hpure (fun v hv => gives_lenL hr ht ho hcal hargs hty hy hu hv) hrun
        · rename_i n et hu
          cases hcomp
          simp only [runOp] at hrun
          exact hpure (fun v hv => by
            simp only [pureV, ev, raw, AVal.dim, Option.some.injEq] at hv
            subst hv
            exact gives_lenA ho hcal hargs hty hu) hrun
        · cases hcomp
      · rename_i y z sT xT hargs hty
        split at hcomp
        · rename_i et ux hu hux
          split at hcomp
          · cases hcomp
          · rename_i hm
            obtain ⟨i, hi, hcomp⟩ := bindO hcomp
            obtain ⟨zz, hz, hcomp⟩ := bindO hcomp
            split at hcomp
            · cases hcomp
            · rename_i hn
              obtain ⟨ay, hay, hcomp⟩ := bindO hcomp
              obtain ⟨az, haz, hcomp⟩ := bindO hcomp
              cases hcomp
              have hux' : (∃ e', ux = .slice e') ∨ ux = .string := by
                cases ux <;> first | (exact .inl ⟨_, rfl⟩) | exact .inr rfl | (exfalso; exact hm rfl)
              have hok : AppOK P gl o i.size ay az := ⟨c, y, z, sT, xT, et, i, ux, zz, ho, hcal, hargs, hty, hu, hux, hux', hi, rfl, by omega, by omega, hz, by omega, hay, haz⟩
              have hx : x = .nor := by
                simp only [runOp] at hrun
                repeat' (split at hrun)
                all_goals first | (cases hrun; rfl) | cases hrun
              subst hx
              obtain ⟨h1, h2, h3⟩ := did_app hc hp hok hrun h.length (Nat.le_refl _)
              exact ⟨rfl, h1, by omega⟩
        · cases hcomp
      · rename_i y z tys hargs
        obtain ⟨ay, hay, hcomp⟩ := bindO hcomp
        obtain ⟨az, haz, hcomp⟩ := bindO hcomp
        cases hcomp
        simp only [runOp] at hrun
        exact hpure (fun v hv => gives_mm (isMax := true) hr ht ho hcal hargs hay haz hv) hrun
      · rename_i y z tys hargs
        obtain ⟨ay, hay, hcomp⟩ := bindO hcomp
        obtain ⟨az, haz, hcomp⟩ := bindO hcomp
        cases hcomp
        simp only [runOp] at hrun
        exact hpure (fun v hv => gives_mm (isMax := false) hr ht ho hcal hargs hay haz hv) hrun
      · cases hcomp
  · -- panic
    obtain ⟨ay, hy, rfl⟩ := mapO hcomp
    simp [AOp.calls] at hnc
  · cases hcomp
end
end Go.AE
