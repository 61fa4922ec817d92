/- A part of the proof: the abstract executor and what goes through it (part 3). No condition. -/
import Derived.Test.YtlognicjhmcgjaaGreatDoorMe2
import Derived.KernelRfl
import Derived.Laws.BitsLemmas
import Derived.Test.YtlognicjhmcgjaaGreatDoorMe1
set_option maxRecDepth 100000
namespace Go.AE
theorem ao_eq (d : Nat) (o : AOp) : ao d o = ⟨some d, o, none⟩ := Eq.trans rfl rfl
theorem ag_eq (d : Nat) (o : AOp) (j : Nat) (b : Bool) : ag d o j b = ⟨some d, o, some (j, b)⟩ := Eq.trans rfl rfl
theorem an_eq (o : AOp) : an o = ⟨none, o, none⟩ := Eq.trans rfl rfl
theorem splice_eq (cs : List AVal) (o : Nat) (vs : List AVal) : splice cs o vs = cs.take o ++ vs ++ cs.drop (o + vs.length) := Eq.trans rfl rfl
def sT := PLift.up (And.intro (And.intro (And.intro (And.intro (And.intro (And.intro (And.intro (And.intro @execW_seq (And.intro @execW_skip @execW_if)) (And.intro (And.intro @execW_exit @execW_ret) (And.intro @execW_block @reg_q))) (And.intro (And.intro @execW_draw (And.intro @draw_nil @draw_eff)) (And.intro (And.intro @draw_light @draw_ld) (And.intro @draw_new @ldD_some)))) (And.intro (And.intro (And.intro @drawE_nor (And.intro @drawE_pan @floats_nil)) (And.intro (And.intro @floats_cons @chks_nil) (And.intro @chks_cons @chk_ld))) (And.intro (And.intro @chk_box (And.intro @beqO_same @beqB_same)) (And.intro (And.intro @light_mov @light_pick) (And.intro @light_build @light_list))))) (And.intro (And.intro (And.intro (And.intro @light_nilc (And.intro @light_bin @light_eqb)) (And.intro (And.intro @light_eqi @light_eqa) (And.intro @light_un @light_cvi))) (And.intro (And.intro @light_cvs (And.intro @light_cvb @light_mkI)) (And.intro (And.intro @light_mkF @light_subS) (And.intro @light_subL @light_fa)))) (And.intro (And.intro (And.intro @light_ixaL (And.intro @light_ixaA @light_ixS)) (And.intro (And.intro @light_ixA @light_fld) (And.intro @light_ext @light_len))) (And.intro (And.intro (And.intro @light_mm @light_tas) (And.intro @plain_mov @effs_mov)) (And.intro (And.intro @isApp_mov @plain_pick) (And.intro @effs_pick @isApp_pick)))))) (And.intro (And.intro (And.intro (And.intro (And.intro @plain_build (And.intro @effs_build @isApp_build)) (And.intro (And.intro @plain_list @effs_list) (And.intro @isApp_list @plain_ld))) (And.intro (And.intro @effs_ld (And.intro @isApp_ld @plain_nilc)) (And.intro (And.intro @effs_nilc @isApp_nilc) (And.intro @plain_bin @effs_bin)))) (And.intro (And.intro (And.intro @isApp_bin (And.intro @plain_eqb @effs_eqb)) (And.intro (And.intro @isApp_eqb @plain_eqi) (And.intro @effs_eqi @isApp_eqi))) (And.intro (And.intro (And.intro @plain_eqa @effs_eqa) (And.intro @isApp_eqa @plain_un)) (And.intro (And.intro @effs_un @isApp_un) (And.intro @plain_cvi @effs_cvi))))) (And.intro (And.intro (And.intro (And.intro @isApp_cvi (And.intro @plain_cvs @effs_cvs)) (And.intro (And.intro @isApp_cvs @plain_cvb) (And.intro @effs_cvb @isApp_cvb))) (And.intro (And.intro @plain_mkI (And.intro @effs_mkI @isApp_mkI)) (And.intro (And.intro @plain_mkF @effs_mkF) (And.intro @isApp_mkF @plain_subS)))) (And.intro (And.intro (And.intro @effs_subS (And.intro @isApp_subS @plain_subL)) (And.intro (And.intro @effs_subL @isApp_subL) (And.intro @plain_fa @effs_fa))) (And.intro (And.intro (And.intro @isApp_fa @plain_ixaL) (And.intro @effs_ixaL @isApp_ixaL)) (And.intro (And.intro @plain_ixaA @effs_ixaA) (And.intro @isApp_ixaA @plain_ixS))))))) (And.intro (And.intro (And.intro (And.intro (And.intro (And.intro @effs_ixS (And.intro @isApp_ixS @plain_ixA)) (And.intro (And.intro @effs_ixA @isApp_ixA) (And.intro @plain_fld @effs_fld))) (And.intro (And.intro @isApp_fld (And.intro @plain_ext @effs_ext)) (And.intro (And.intro @isApp_ext @plain_len) (And.intro @effs_len @isApp_len)))) (And.intro (And.intro (And.intro @plain_mm (And.intro @effs_mm @isApp_mm)) (And.intro (And.intro @plain_tas @effs_tas) (And.intro @isApp_tas @plain_asg))) (And.intro (And.intro (And.intro @effs_asg @isApp_asg) (And.intro @plain_new @effs_new)) (And.intro (And.intro @isApp_new @plain_box) (And.intro @effs_box @isApp_box))))) (And.intro (And.intro (And.intro (And.intro @plain_st (And.intro @effs_st @isApp_st)) (And.intro (And.intro @plain_call @effs_call) (And.intro @isApp_call @plain_app))) (And.intro (And.intro @effs_app (And.intro @isApp_app @plain_pan)) (And.intro (And.intro @effs_pan @isApp_pan) (And.intro @q_nil @q_cons)))) (And.intro (And.intro (And.intro @q_plain (And.intro @q_guard @op_mov)) (And.intro (And.intro @op_asg @op_pick) (And.intro @op_fa @op_bin))) (And.intro (And.intro (And.intro @op_un @op_nilc) (And.intro @op_len @op_ixaL)) (And.intro (And.intro @op_new @op_ld) (And.intro @op_st @op_fld)))))) (And.intro (And.intro (And.intro (And.intro (And.intro @op_call (And.intro @op_build @op_list)) (And.intro (And.intro @op_box @boxW_eq) (And.intro @op_mkI @mkIV_agg))) (And.intro (And.intro @mkIV_int (And.intro @op_mkF @op_ixS)) (And.intro (And.intro @op_ixA @op_ext) (And.intro @extV_tup @op_eqb)))) (And.intro (And.intro (And.intro @eqbV_bool (And.intro @op_eqi @op_cvi)) (And.intro (And.intro @cviV_int @op_mm) (And.intro @mm_nat @mmV_min))) (And.intro (And.intro (And.intro @op_pan @panW_iface) (And.intro @callV_ret @callV_pan)) (And.intro (And.intro @put_some @put_none) (And.intro @thenW_norK @thenW_ret))))) (And.intro (And.intro (And.intro (And.intro @thenW_exit (And.intro @thenW_pan @blockW_nor)) (And.intro (And.intro @blockW_ret @blockW_pan) (And.intro @blockW_exit @condW_trueK))) (And.intro (And.intro @condW_falseK (And.intro @maskW_nor @maskW_pan)) (And.intro (And.intro @ev_t @ev_c) (And.intro @raw_t @raw_c)))) (And.intro (And.intro (And.intro @length_up (And.intro @look_eq @look_ne)) (And.intro (And.intro @look_zero @look_succ) (And.intro @drained_t @drained_c))) (And.intro (And.intro (And.intro @drain_bool @drain_int) (And.intro @drain_str @drain_nilptr)) (And.intro (And.intro @drain_ptr @drain_iptr) (And.intro @drain_agg @drain_tup)))))))) (And.intro (And.intro (And.intro (And.intro (And.intro (And.intro (And.intro @drain_fn (And.intro @drain_no @drain_full)) (And.intro (And.intro @drain_own @drain_iface) (And.intro @drain_dim @dim_bool))) (And.intro (And.intro @dim_int (And.intro @dim_str @dim_ptr)) (And.intro (And.intro @dim_iptr @dim_agg) (And.intro @dim_tup @dim_fn)))) (And.intro (And.intro (And.intro @dim_undef (And.intro @dim_nilptr @dim_nilfunc)) (And.intro (And.intro @dim_niliface @dim_iface) (And.intro @dim_yld @dim_no))) (And.intro (And.intro (And.intro @dim_full @dim_own) (And.intro @dim_gv @get_at)) (And.intro (And.intro @get_past @get_old) (And.intro @set_old @set_twice))))) (And.intro (And.intro (And.intro (And.intro @get_set (And.intro @get_at2 @set_at2)) (And.intro (And.intro @get_past2 @set_past2) (And.intro @get_set_ne @set_at))) (And.intro (And.intro @set_past (And.intro @cells_agg @cells_int)) (And.intro (And.intro @cells_str @cells_bool) (And.intro @cells_lst @cells_ptr)))) (And.intro (And.intro (And.intro @cells_nilptr (And.intro @cells_fn @cells_niliface)) (And.intro (And.intro @cells_iface @cells_yld) (And.intro @cut_cons @ldAt_iptr))) (And.intro (And.intro (And.intro @ldAt_box @ldB_cells) (And.intro @putC_none @putC_some)) (And.intro (And.intro @stV_box @stB_cells) (And.intro @stor_int @stor_str)))))) (And.intro (And.intro (And.intro (And.intro (And.intro @stor_bool (And.intro @stor_lst @stor_ptr)) (And.intro (And.intro @stor_iptr @stor_nilptr) (And.intro @stor_nilfunc @stor_fn))) (And.intro (And.intro @stor_yld (And.intro @stor_niliface @stor_iface)) (And.intro (And.intro @lower_undef @lower_bool) (And.intro @lower_int @lower_str)))) (And.intro (And.intro (And.intro @lower_nilptr (And.intro @lower_ptr @lower_yld)) (And.intro (And.intro @lower_iptr @lower_lst) (And.intro @lower_nilfunc @lower_niliface))) (And.intro (And.intro (And.intro @lower_iface @lower_fn) (And.intro @lower_agg @lower_tup)) (And.intro (And.intro @lowerL_nil @lowerL_cons) (And.intro @stW_some @faV_ptr))))) (And.intro (And.intro (And.intro (And.intro @faV_iptr (And.intro @nilcV_ptr @nilcV_iptr)) (And.intro (And.intro @lenV_str @lenV_lst) (And.intro @fldV_agg @putV_some))) (And.intro (And.intro @cut_none (And.intro @bin_add @bin_sub)) (And.intro (And.intro @bin_mul @bin_quo) (And.intro @bin_rem @bin_eql)))) (And.intro (And.intro (And.intro @bin_neq (And.intro @bin_lss @bin_leq)) (And.intro (And.intro @bin_gtr @bin_geq) (And.intro @str_add @str_eql))) (And.intro (And.intro (And.intro @str_neq @str_lss) (And.intro @str_gtr @un_neg)) (And.intro (And.intro @un_not @pickW_true) (And.intro @pickW_false @pick_and))))))) (And.intro (And.intro (And.intro (And.intro (And.intro (And.intro @pick_or (And.intro @guardP_boolK @guardP_tupK)) (And.intro (And.intro @guardP_gv @guardP_gv2) (And.intro @guardQ_trueK @guardQ_falseK))) (And.intro (And.intro @guardQ_some (And.intro @in_some @at_some)) (And.intro (And.intro @inat_some @in_ld) (And.intro @at_ld @inat_ld)))) (And.intro (And.intro (And.intro @in_fa (And.intro @at_fa @inat_fa)) (And.intro (And.intro @in_len @at_len) (And.intro @inat_len @in_fld))) (And.intro (And.intro (And.intro @at_fld @inat_fld) (And.intro @in_un @at_un)) (And.intro (And.intro @inat_un @in_nilc) (And.intro @at_nilc @inat_nilc))))) (And.intro (And.intro (And.intro (And.intro @in_ext (And.intro @at_ext @inat_ext)) (And.intro (And.intro @in_cvi @at_cvi) (And.intro @inat_cvi @in_mkI))) (And.intro (And.intro @at_mkI (And.intro @inat_mkI @in_ixS)) (And.intro (And.intro @at_ixS @inat_ixS) (And.intro @in_ixS2 @at_ixS2)))) (And.intro (And.intro (And.intro @inat_ixS2 (And.intro @in_ixa @at_ixa)) (And.intro (And.intro @inat_ixa @in_ixa2) (And.intro @at_ixa2 @inat_ixa2))) (And.intro (And.intro (And.intro @in_ixA @at_ixA) (And.intro @inat_ixA @in_ixA2)) (And.intro (And.intro @at_ixA2 @inat_ixA2) (And.intro @in_bin @at_bin)))))) (And.intro (And.intro (And.intro (And.intro (And.intro @inat_bin (And.intro @in_bin2 @at_bin2)) (And.intro (And.intro @inat_bin2 @in_eqb) (And.intro @at_eqb @inat_eqb))) (And.intro (And.intro @in_eqb2 (And.intro @at_eqb2 @inat_eqb2)) (And.intro (And.intro @in_eqi @at_eqi) (And.intro @inat_eqi @in_eqi2)))) (And.intro (And.intro (And.intro @at_eqi2 (And.intro @inat_eqi2 @in_mm)) (And.intro (And.intro @at_mm @inat_mm) (And.intro @in_mm2 @at_mm2))) (And.intro (And.intro (And.intro @inat_mm2 @in_pick) (And.intro @at_pick @inat_pick)) (And.intro (And.intro @in_pick2 @at_pick2) (And.intro @inat_pick2 @in_pick3))))) (And.intro (And.intro (And.intro (And.intro @at_pick3 (And.intro @inat_pick3 @gate_some)) (And.intro (And.intro @gate_trueK @gate_falseK) (And.intro @gv_gv @gv_trueK))) (And.intro (And.intro @gv_falseK (And.intro @guardJ_hit @guardJ_tfK)) (And.intro (And.intro @guardJ_ftK @guardJ_tupK) (And.intro @is_true @is_false)))) (And.intro (And.intro (And.intro @endR_nor (And.intro @endR_ret @endR_pan)) (And.intro (And.intro @endW_some @res_nil) (And.intro @res_tmp @res_cell))) (And.intro (And.intro (And.intro @consR_some @oneRes_one) (And.intro @oneRes_nil @oneRes_two)) (And.intro (And.intro @leave_ret @leave_ret0) (And.intro @leave_pan @leave_pan0)))))))))
def sC := PLift.up (And.intro (And.intro (And.intro (And.intro (And.intro @List.nil_append.{0} (And.intro @List.append_nil.{0} @List.map_cons.{0, 0})) (And.intro (And.intro @List.map_nil.{0, 0} @List.length_cons.{0}) (And.intro @List.length_nil.{0} @List.cons_append.{0}))) (And.intro (And.intro (And.intro @ao_eq @ag_eq) (And.intro @an_eq @Option.map_some.{0, 0})) (And.intro (And.intro @ne_eq.{1} @not_false_eq_true) (And.intro @List.length_set.{0} @List.length_replicate.{0})))) (And.intro (And.intro (And.intro @Bool.or_false (And.intro @Bool.or_true @Bool.false_or)) (And.intro (And.intro @Bool.true_or @Bool.and_true) (And.intro @Bool.and_false @Bool.true_and))) (And.intro (And.intro (And.intro @Bool.false_and @Bool.not_true) (And.intro @Bool.not_false @eq_self.{1})) (And.intro (And.intro @List.getElem?_cons_zero.{0} @List.getElem?_cons_succ.{0}) (And.intro @List.set_cons_zero.{0} @List.set_cons_succ.{0}))))) (And.intro (And.intro (And.intro (And.intro @List.append_assoc.{0} (And.intro @List.length_append.{0} @splice_eq)) (And.intro (And.intro @List.take_zero.{0} @List.drop_zero.{0}) (And.intro @List.take_succ_cons.{0} @List.drop_succ_cons.{0}))) (And.intro (And.intro (And.intro @List.drop_nil.{0} @List.take_nil.{0}) (And.intro @List.all_cons.{0} @List.all_nil.{0})) (And.intro (And.intro @Option.getD_some.{0} @Option.getD_none.{0}) (And.intro @and_self @and_true)))) (And.intro (And.intro (And.intro (And.intro @true_and @if_true.{1}) (And.intro @if_false.{1} @Nat.le_refl)) (And.intro (And.intro @Nat.ble_self_eq_true @Nat.zero_add) (And.intro @Nat.add_zero @beq_self_eq_true.{0}))) (And.intro (And.intro (And.intro @Bool.false_eq_true @bne_self_eq_false.{0}) (And.intro @List.isEmpty_nil.{0} @List.isEmpty_cons.{0})) (And.intro (And.intro @cond_true.{1} @cond_false.{1}) (And.intro @List.filterMap_cons.{0, 0} @List.filterMap_nil.{0, 0}))))))
def sTA := PLift.up (And.intro (And.intro (And.intro (And.intro @reg_app (And.intro @ops_nil @ops_cons)) (And.intro @ops_guard (And.intro @op_app @tail_lst))) (And.intro (And.intro @tail_str (And.intro @app_nil @app_full)) (And.intro @app_own (And.intro @app_no @appT_some)))) (And.intro (And.intro (And.intro @taken_t (And.intro @takeV_own @takeV_no)) (And.intro @takeS_tmp (And.intro @takeS_cell @takeT_own))) (And.intro (And.intro @takeP_ptr (And.intro @takeC_cells @takeD_own)) (And.intro @src_nil (And.intro @prov_eff @prov_no)))))
def sCA := PLift.up (And.intro (And.intro @List.filter_cons.{0} @List.filter_nil.{0}) (And.intro @List.find?_cons.{0} @List.find?_nil.{0}))
end Go.AE
namespace Go.Proofs.YtlognicjhmcgjaaGreatDoor.AE
open Go.AE
theorem xfine : XFine X where
  mono f g h := by
    unfold X at h
    split at h
    all_goals first
      | (cases h; exact fun c d hc aS h => gcall_mono hc (Nat.le_refl _))
      | (cases h; exact fun c d hc aS h x hx => hx)
      | cases h
  cont f g h := by
    unfold X at h
    split at h
    all_goals first
      | (cases h; exact fun c hc aS h x hx => gcall_cont hc hx)
      | (cases h; exact fun c hc aS h x hx => ⟨0, hx⟩)
      | cases h
noncomputable def Wd : AE.Call := W T.get X
theorem Wd_fn {f : FuncId} {first args cap : List AVal} {h : List ABox} {fn : AFunc} (h1 : X f = none) (h2 : T.get f = some fn) :
    Wd (.fn f first cap) args h = endR fn.results h (execW h.length Wd fn.code ⟨(first ++ args ++ cap).map AVal.dim ++ List.replicate (fn.ntmps - ((first ++ args ++ cap).map AVal.dim).length) (.tup []), h, false⟩) := W_go xfine h1 h2
theorem wrap_id {n : Int} (h1 : -9223372036854775808 ≤ n) (h2 : n ≤ 9223372036854775807) : IntKind.i64.wrap n = n := by
  rw [IntKind.wrap_i64]
  omega
theorem wrap_succ {n : Nat} (h : n < 9223372036854775807) : IntKind.i64.wrap ((n : Int) + 1) = ((n + 1 : Nat) : Int) := by
  rw [wrap_id (by omega) (by omega)]
  rfl
abbrev Str := List UInt8
def letter (c : UInt8) : Bool := ile 97 (c.toNat : Int) && ile (c.toNat : Int) 122
def digit (c : UInt8) : Bool := ile 48 (c.toNat : Int) && ile (c.toNat : Int) 57
def lettersFrom : Nat → Str → Bool
  | _, [] => true
  | i, c :: s => bif !letter c && (i == 0 || !digit c) then false else lettersFrom (i + 1) s
def vName (s : Str) : Bool := decide (1 ≤ s.length) && decide (s.length ≤ 16) && lettersFrom 0 s
theorem vName_ok (s : Str) (h : List ABox) : Wd (.fn 92 [] []) [.str s] h = some (.ret (.bool (vName s)), h, false) := by
  have loop : ∀ k st, (∃ tt i, st = ⟨tt, h, false⟩ ∧ tt.length = 50 ∧ lkp tt 0 = .str s ∧ lkp tt 15 = .int .i64 (s.length : Nat) ∧ lkp tt 16 = .int .i64 (i : Nat) ∧ i + k = s.length ∧ lettersFrom i (s.drop i) = lettersFrom 0 s ∧ s.length ≤ 16) →
      ∃ x st', execW h.length Wd (.loop l92_0) st = some (x, st') ∧ ((x = .exit 0 ∧ lettersFrom 0 s = true ∧ ∃ tt, st' = ⟨tt, h, false⟩ ∧ tt.length = 50) ∨ (x = .ret ∧ lettersFrom 0 s = false ∧ ∃ tt, st' = ⟨tt, h, false⟩ ∧ tt.length = 50 ∧ lkp tt 2 = .bool false)) := by
    refine loop_rule _ (fun x st' => (x = .exit 0 ∧ lettersFrom 0 s = true ∧ ∃ tt, st' = ⟨tt, h, false⟩ ∧ tt.length = 50) ∨ (x = .ret ∧ lettersFrom 0 s = false ∧ ∃ tt, st' = ⟨tt, h, false⟩ ∧ tt.length = 50 ∧ lkp tt 2 = .bool false)) ?_
    rintro k st ⟨tt, i, rfl, ht, e0, e15, e16, hik, hR, hl⟩
    generalize he : execW h.length Wd l92_0 _ = r
    rcases Nat.lt_or_ge i s.length with hi | hi
    · have c1 : ilt (i : Int) (s.length : Int) = true := by rw [ilt_eq]; simp; omega
      have hx : ixSV (.str s) (.int .i64 (i : Nat)) = some (.int .u8 (s[i].toNat : Nat)) := ixSV_get (List.getElem?_eq_getElem hi)
      have w := wrap_succ (n := i) (by omega)
      rw [List.drop_eq_getElem_cons hi, lettersFrom] at hR
      simp only [letter, digit] at hR
      have hz : ((i : Int) == 0) = (i == 0) := by rw [Bool.eq_iff_iff]; simp
      simp only [l92_0, sT.1, sC.1, noApp, lookV, Nat.testBit, simprocAttr, -Int.reduceNatCast', ht, e0, e15, e16, c1, hx, w, hz] at he
      cases hb : (!(ile 97 (s[i].toNat : Int) && ile (s[i].toNat : Int) 122) && (i == 0 || !(ile 48 (s[i].toNat : Int) && ile (s[i].toNat : Int) 57))) with
      | true =>
        rw [hb] at hR
        simp only [hb, sT.1, sC.1, noApp, lookV, Nat.testBit, simprocAttr, -Int.reduceNatCast', ht] at he
        subst he
        refine .inr ⟨_, _, rfl, by simp, .inr ⟨rfl, by simpa using hR.symm, _, rfl, by simp only [length_up, ht], ?_⟩⟩
        simp only [sT.1, sC.1, noApp, lookV, Nat.testBit, simprocAttr, -Int.reduceNatCast', ht]
      | false =>
        rw [hb] at hR
        simp only [hb, sT.1, sC.1, noApp, lookV, Nat.testBit, simprocAttr, -Int.reduceNatCast', ht, e16, w] at he
        subst he
        refine .inl ⟨_, k - 1, rfl, by omega, _, i + 1, rfl, by simp only [length_up, ht], ?_, ?_, ?_, by omega, by simpa using hR, hl⟩
        · simp only [sT.1, sC.1, noApp, lookV, Nat.testBit, simprocAttr, -Int.reduceNatCast', ht, e0]
        · simp only [sT.1, sC.1, noApp, lookV, Nat.testBit, simprocAttr, -Int.reduceNatCast', ht, e15]
        · simp only [sT.1, sC.1, noApp, lookV, Nat.testBit, simprocAttr, -Int.reduceNatCast', ht]
    · have c1 : ilt (i : Int) (s.length : Int) = false := by rw [ilt_eq]; simp; omega
      simp only [l92_0, sT.1, sC.1, noApp, lookV, Nat.testBit, simprocAttr, -Int.reduceNatCast', ht, e0, e15, e16, c1] at he
      subst he
      rw [List.drop_eq_nil_of_le hi, lettersFrom] at hR
      exact .inr ⟨_, _, rfl, by simp, .inl ⟨rfl, hR.symm, _, rfl, by simp only [length_up, ht]⟩⟩
  rw [Wd_fn rfl (show T.get 92 = some c92 by kernel_rfl)]
  by_cases g1 : 1 ≤ s.length
  · have d1 : ilt (s.length : Int) 1 = false := by rw [ilt_eq]; simp; omega
    by_cases g2 : s.length ≤ 16
    · have d2 : ilt 16 (s.length : Int) = false := by rw [ilt_eq]; simp; omega
      simp only [c92, sT.1, sC.1, noApp, lookV, Nat.testBit, simprocAttr, -Int.reduceNatCast', d1, d2]
      generalize hr : execW h.length Wd (.loop l92_0) _ = r
      obtain ⟨x, st', rfl, hq⟩ := known hr (loop s.length _ ⟨_, 0, rfl, by simp only [sT.1, sC.1, noApp, lookV, Nat.testBit, simprocAttr, -Int.reduceNatCast'], by simp only [sT.1, sC.1, noApp, lookV, Nat.testBit, simprocAttr, -Int.reduceNatCast'], by simp only [sT.1, sC.1, noApp, lookV, Nat.testBit, simprocAttr, -Int.reduceNatCast'], by simp only [sT.1, sC.1, noApp, lookV, Nat.testBit, simprocAttr, -Int.reduceNatCast', Int.natCast_zero], by omega, rfl, g2⟩)
      rcases hq with ⟨rfl, hv, tt, rfl, ht⟩ | ⟨rfl, hv, tt, rfl, ht, e2⟩
      · simp only [sT.1, sC.1, noApp, lookV, Nat.testBit, simprocAttr, -Int.reduceNatCast', ht]
        simp [vName, g1, g2, hv]
      · simp only [sT.1, sC.1, noApp, lookV, Nat.testBit, simprocAttr, -Int.reduceNatCast', ht, e2]
        simp [vName, g1, g2, hv]
    · have d2 : ilt 16 (s.length : Int) = true := by rw [ilt_eq]; simp; omega
      simp only [c92, sT.1, sC.1, noApp, lookV, Nat.testBit, simprocAttr, -Int.reduceNatCast', d1, d2]
      simp [vName, g2]
  · have d1 : ilt (s.length : Int) 1 = true := by rw [ilt_eq]; simp; omega
    simp only [c92, sT.1, sC.1, noApp, lookV, Nat.testBit, simprocAttr, -Int.reduceNatCast', d1]
    simp [vName, g1]
def wordsV : List AVal := g0
def wordS : AVal → Str
  | .str s => s
  | _ => []
def words : List Str := g0.map wordS
theorem words_eq : g0 = words.map AVal.str := by kernel_rfl
theorem words_len : words.length = 33 := by kernel_rfl
def reserved (s : Str) : Bool := words.any (· == s)
theorem reserved_ok (s : Str) (h : List ABox) : Wd (.fn 93 [] []) [.str s] h = some (.ret (.bool (reserved s)), h, false) := by
  have loop : ∀ k st, (∃ tt i, st = ⟨tt, h, false⟩ ∧ tt.length = 13 ∧ lkp tt 0 = .str s ∧ lkp tt 5 = .agg g0 ∧ lkp tt 6 = .int .i64 (i : Nat) ∧ i + k = 33 ∧ (words.drop i).any (· == s) = reserved s) →
      ∃ x st', execW h.length Wd (.loop l93_0) st = some (x, st') ∧ ((x = .exit 0 ∧ reserved s = false ∧ ∃ tt, st' = ⟨tt, h, false⟩ ∧ tt.length = 13) ∨ (x = .ret ∧ reserved s = true ∧ ∃ tt, st' = ⟨tt, h, false⟩ ∧ tt.length = 13 ∧ lkp tt 2 = .bool true)) := by
    refine loop_rule _ (fun x st' => (x = .exit 0 ∧ reserved s = false ∧ ∃ tt, st' = ⟨tt, h, false⟩ ∧ tt.length = 13) ∨ (x = .ret ∧ reserved s = true ∧ ∃ tt, st' = ⟨tt, h, false⟩ ∧ tt.length = 13 ∧ lkp tt 2 = .bool true)) ?_
    rintro k st ⟨tt, i, rfl, ht, e0, e5, e6, hik, hR⟩
    generalize he : execW h.length Wd l93_0 _ = r
    have hlen := words_len
    rcases Nat.lt_or_ge i 33 with hi | hi
    · have c1 : ilt (i : Int) 33 = true := by rw [ilt_eq]; simp; omega
      have hx : ixAV 33 none (.agg g0) (.int .i64 (i : Nat)) = some (.str (words[i]'(by omega))) := by
        rw [ixAV_get (v := .str (words[i]'(by omega))) hi (by rw [words_eq, List.getElem?_map, List.getElem?_eq_getElem (by omega)]; rfl)]
        rfl
      have w := wrap_succ (n := i) (by omega)
      rw [List.drop_eq_getElem_cons (by omega), List.any_cons] at hR
      cases hb : ((words[i]'(by omega)) == s) with
      | true =>
        rw [hb] at hR
        simp only [l93_0, sT.1, sC.1, noApp, lookV, Nat.testBit, simprocAttr, -Int.reduceNatCast', ht, e0, e5, e6, c1, hx, hb] at he
        subst he
        refine .inr ⟨_, _, rfl, by simp, .inr ⟨rfl, by simpa using hR.symm, _, rfl, by simp only [length_up, ht], ?_⟩⟩
        simp only [sT.1, sC.1, noApp, lookV, Nat.testBit, simprocAttr, -Int.reduceNatCast', ht]
      | false =>
        rw [hb] at hR
        simp only [l93_0, sT.1, sC.1, noApp, lookV, Nat.testBit, simprocAttr, -Int.reduceNatCast', ht, e0, e5, e6, c1, hx, hb, w] at he
        subst he
        refine .inl ⟨_, k - 1, rfl, by omega, _, i + 1, rfl, by simp only [length_up, ht], ?_, ?_, ?_, by omega, by simpa using hR⟩
        · simp only [sT.1, sC.1, noApp, lookV, Nat.testBit, simprocAttr, -Int.reduceNatCast', ht, e0]
        · simp only [sT.1, sC.1, noApp, lookV, Nat.testBit, simprocAttr, -Int.reduceNatCast', ht, e5]
        · simp only [sT.1, sC.1, noApp, lookV, Nat.testBit, simprocAttr, -Int.reduceNatCast', ht]
    · have c1 : ilt (i : Int) 33 = false := by rw [ilt_eq]; simp; omega
      simp only [l93_0, sT.1, sC.1, noApp, lookV, Nat.testBit, simprocAttr, -Int.reduceNatCast', ht, e0, e5, e6, c1] at he
      subst he
      rw [List.drop_eq_nil_of_le (by omega), List.any_nil] at hR
      exact .inr ⟨_, _, rfl, by simp, .inl ⟨rfl, hR.symm, _, rfl, by simp only [length_up, ht]⟩⟩
  have hg : cut g0 0 (some 33) = some (.agg g0) := by kernel_rfl
  rw [Wd_fn rfl (show T.get 93 = some c93 by kernel_rfl)]
  simp only [c93, sT.1, sC.1, noApp, lookV, Nat.testBit, simprocAttr, -Int.reduceNatCast', hg]
  generalize hr : execW h.length Wd (.loop l93_0) _ = r
  obtain ⟨x, st', rfl, hq⟩ := known hr (loop 33 _ ⟨_, 0, rfl, by simp only [sT.1, sC.1, noApp, lookV, Nat.testBit, simprocAttr, -Int.reduceNatCast'], by simp only [sT.1, sC.1, noApp, lookV, Nat.testBit, simprocAttr, -Int.reduceNatCast'], by simp only [sT.1, sC.1, noApp, lookV, Nat.testBit, simprocAttr, -Int.reduceNatCast'], by simp only [sT.1, sC.1, noApp, lookV, Nat.testBit, simprocAttr, -Int.reduceNatCast', Int.natCast_zero], by omega, rfl⟩)
  rcases hq with ⟨rfl, hv, tt, rfl, ht⟩ | ⟨rfl, hv, tt, rfl, ht, e2⟩
  · simp only [sT.1, sC.1, noApp, lookV, Nat.testBit, simprocAttr, -Int.reduceNatCast', ht, hv]
  · simp only [sT.1, sC.1, noApp, lookV, Nat.testBit, simprocAttr, -Int.reduceNatCast', ht, e2, hv]
def isName (s : Str) : Bool := vName s && !reserved s
theorem isName_ok (s : Str) (h : List ABox) : Wd (.fn 48 [] []) [.str s] h = some (.ret (.bool (isName s)), h, false) := by
  rw [Wd_fn rfl (show T.get 48 = some c48 by kernel_rfl)]
  cases hv : vName s <;> cases hr : reserved s <;> (simp only [c48, sT.1, sC.1, noApp, lookV, Nat.testBit, simprocAttr, -Int.reduceNatCast', vName_ok, reserved_ok, hv, hr]; simp [isName, hv, hr])
end Go.Proofs.YtlognicjhmcgjaaGreatDoor.AE
namespace Go.Proofs.YtlognicjhmcgjaaGreatDoor.AE
open Go.AE
structure Tok where
  kind : Int
  s : Str
  n : Int
  pos : Int
def Tok.enc (t : Tok) : AVal := .agg [.int .i64 t.kind, .str t.s, .int .i64 t.n, .int .i64 t.pos]
def PB (ws : List Tok) (n : Nat) : ABox := .cells [.lst (ws.map Tok.enc) .no, .int .i64 (n : Int)]
structure WF (ws : List Tok) : Prop where
  len : ws.length < 100000
  last : ∀ n w, ws[n]? = some w → w.kind ≠ 4 → n + 1 < ws.length
def word (ws : List Tok) (n : Nat) : Tok := ws.getD n ⟨4, [], 0, 0⟩
theorem word_get {ws : List Tok} {n : Nat} (hn : n < ws.length) : ws[n]? = some (word ws n) := by
  simp [word, List.getD, List.getElem?_eq_getElem hn]
theorem WF.next {ws : List Tok} (hw : WF ws) {n : Nat} (hn : n < ws.length) (h : (word ws n).kind ≠ 4) : n + 1 < ws.length := hw.last n _ (word_get hn) h
section
variable {h : List ABox} {i : Nat} {ws : List Tok} {n : Nat}
theorem lt_of_box {b : ABox} (hi : h[i]? = some b) : i < h.length := (List.getElem?_eq_some_iff.1 hi).1
theorem word_ok (hw : WF ws) (hn : n < ws.length) (hi : h[i]? = some (PB ws n)) : Wd (.fn 128 [] []) [.ptr i 0] h = some (.ret (word ws n).enc, h, false) := by
  have hl : ilt (n : Int) ((ws.map Tok.enc).length : Int) = true := by
    rw [ilt_eq]; simp; omega
  have hx : ixaV 4 (.lst (ws.map Tok.enc) .no) (.int .i64 (n : Nat)) = some (.iptr (word ws n).enc.cells 0) := ixaV_get (by rw [List.getElem?_map, word_get hn]; rfl) rfl
  have hlt := lt_of_box hi
  rw [Wd_fn rfl (show T.get 128 = some c128 by kernel_rfl)]
  simp only [c128, sT.1, sC.1, noApp, lookV, Nat.testBit, simprocAttr, -Int.reduceNatCast', PB, hi, hl, hx, hlt, Tok.enc]
theorem at_ok (hw : WF ws) (hn : n < ws.length) (hi : h[i]? = some (PB ws n)) : Wd (.fn 124 [] []) [.ptr i 0] h = some (.ret (.int .i64 (word ws n).pos), h, false) := by
  rw [Wd_fn rfl (show T.get 124 = some c124 by kernel_rfl)]
  simp only [c124, sT.1, sC.1, noApp, lookV, Nat.testBit, simprocAttr, -Int.reduceNatCast', word_ok hw hn hi, Tok.enc]
def faultT : TypeId := 112
def fault (pos e : Int) : AVal := .iface faultT (.agg [.int .i64 pos, .int .i64 e])
theorem fault_lower (pos e : Int) (n : Nat) : (fault pos e).lower n = true := by simp [fault, AVal.lower, lowerL]
theorem fail_ok (pos e : Int) (p : AVal) : Wd (.fn 132 [] []) [p, .int .i64 pos, .int .i64 e] h = some (.pan (fault pos e), h, false) := by
  rw [Wd_fn rfl (show T.get 132 = some c132 by kernel_rfl)]
  simp only [c132, sT.1, sC.1, noApp, lookV, Nat.testBit, simprocAttr, -Int.reduceNatCast', fillS, fault, faultT]
theorem bad_ok (hw : WF ws) (hn : n < ws.length) (hi : h[i]? = some (PB ws n)) : Wd (.fn 76 [] []) [.ptr i 0] h = some (.pan (fault (word ws n).pos 6), h, false) := by
  rw [Wd_fn rfl (show T.get 76 = some c76 by kernel_rfl)]
  simp only [c76, sT.1, sC.1, noApp, lookV, Nat.testBit, simprocAttr, -Int.reduceNatCast', at_ok hw hn hi, fail_ok, fault_lower]
def isW (ws : List Tok) (n : Nat) (s : Str) : Bool := ((word ws n).kind == 3 || (word ws n).kind == 0) && (word ws n).s == s
theorem is_ok (hw : WF ws) (hn : n < ws.length) (hi : h[i]? = some (PB ws n)) (s : Str) : Wd (.fn 75 [] []) [.ptr i 0, .str s] h = some (.ret (.bool (isW ws n s)), h, false) := by
  rw [Wd_fn rfl (show T.get 75 = some c75 by kernel_rfl)]
  simp only [c75, sT.1, sC.1, noApp, lookV, Nat.testBit, simprocAttr, -Int.reduceNatCast', word_ok hw hn hi, Tok.enc, isW]
theorem isW_next (hw : WF ws) (hn : n < ws.length) {s : Str} (hs : isW ws n s = true) : n + 1 < ws.length := by
  refine hw.next hn fun h4 => ?_
  simp [isW, h4] at hs
theorem take_no (hw : WF ws) (hn : n < ws.length) (hi : h[i]? = some (PB ws n)) {s : Str} (hs : isW ws n s = false) : Wd (.fn 125 [] []) [.ptr i 0, .str s] h = some (.ret (.bool false), h, false) := by
  rw [Wd_fn rfl (show T.get 125 = some c125 by kernel_rfl)]
  simp only [c125, sT.1, sC.1, noApp, lookV, Nat.testBit, simprocAttr, -Int.reduceNatCast', is_ok hw hn hi, hs]
theorem PB_set (hi : h[i]? = some (PB ws n)) : h.set i (PB ws n) = h := by
  apply List.ext_getElem?
  intro j
  by_cases hj : i = j
  · subst hj; rw [hi, List.getElem?_set_self (lt_of_box hi)]
  · rw [List.getElem?_set_ne hj]
theorem take_yes (hw : WF ws) (hn : n < ws.length) (hi : h[i]? = some (PB ws n)) {s : Str} (hs : isW ws n s = true) : Wd (.fn 125 [] []) [.ptr i 0, .str s] h = some (.ret (.bool true), h.set i (PB ws (n + 1)), false) := by
  have hlt := lt_of_box hi
  have hl := hw.len
  have w := wrap_succ (n := n) (by omega)
  have hi' : h[i]? = some (.cells [.lst (ws.map Tok.enc) .no, .int .i64 (n : Int)]) := hi
  rw [Wd_fn rfl (show T.get 125 = some c125 by kernel_rfl)]
  simp only [c125, sT.1, sC.1, noApp, lookV, Nat.testBit, simprocAttr, -Int.reduceNatCast', is_ok hw hn hi, hs, hi', w, hlt]
  rfl
theorem need_yes (hw : WF ws) (hn : n < ws.length) (hi : h[i]? = some (PB ws n)) {s : Str} (hs : isW ws n s = true) : Wd (.fn 79 [] []) [.ptr i 0, .str s] h = some (.ret (.tup []), h.set i (PB ws (n + 1)), false) := by
  rw [Wd_fn rfl (show T.get 79 = some c79 by kernel_rfl)]
  simp only [c79, sT.1, sC.1, noApp, lookV, Nat.testBit, simprocAttr, -Int.reduceNatCast', take_yes hw hn hi hs]
theorem need_no (hw : WF ws) (hn : n < ws.length) (hi : h[i]? = some (PB ws n)) {s : Str} (hs : isW ws n s = false) : Wd (.fn 79 [] []) [.ptr i 0, .str s] h = some (.pan (fault (word ws n).pos 6), h, false) := by
  rw [Wd_fn rfl (show T.get 79 = some c79 by kernel_rfl)]
  simp only [c79, sT.1, sC.1, noApp, lookV, Nat.testBit, simprocAttr, -Int.reduceNatCast', take_no hw hn hi hs, bad_ok hw hn hi, fault_lower]
def namedW (ws : List Tok) (n : Nat) : Bool := (word ws n).kind == 0 && isName (word ws n).s
theorem namedW_next (hw : WF ws) (hn : n < ws.length) (hs : namedW ws n = true) : n + 1 < ws.length := by
  refine hw.next hn fun h4 => ?_
  simp [namedW, h4] at hs
theorem named_ok (hw : WF ws) (hn : n < ws.length) (hi : h[i]? = some (PB ws n)) : Wd (.fn 137 [] []) [.ptr i 0] h = some (.ret (.bool (namedW ws n)), h, false) := by
  rw [Wd_fn rfl (show T.get 137 = some c137 by kernel_rfl)]
  cases hk : (word ws n).kind == 0 <;> simp only [c137, sT.1, sC.1, noApp, lookV, Nat.testBit, simprocAttr, -Int.reduceNatCast', word_ok hw hn hi, Tok.enc, isName_ok, namedW, hk]
theorem name_yes (hw : WF ws) (hn : n < ws.length) (hi : h[i]? = some (PB ws n)) (hs : namedW ws n = true) : Wd (.fn 80 [] []) [.ptr i 0] h = some (.ret (.str (word ws n).s), h.set i (PB ws (n + 1)), false) := by
  have hlt := lt_of_box hi
  have hl := hw.len
  have w := wrap_succ (n := n) (by omega)
  have hi' : h[i]? = some (.cells [.lst (ws.map Tok.enc) .no, .int .i64 (n : Int)]) := hi
  rw [Wd_fn rfl (show T.get 80 = some c80 by kernel_rfl)]
  simp only [c80, sT.1, sC.1, noApp, lookV, Nat.testBit, simprocAttr, -Int.reduceNatCast', named_ok hw hn hi, hs, word_ok hw hn hi, Tok.enc, hi', w, hlt]
  rfl
theorem name_no (hw : WF ws) (hn : n < ws.length) (hi : h[i]? = some (PB ws n)) (hs : namedW ws n = false) : Wd (.fn 80 [] []) [.ptr i 0] h = some (.pan (fault (word ws n).pos 6), h, false) := by
  rw [Wd_fn rfl (show T.get 80 = some c80 by kernel_rfl)]
  simp only [c80, sT.1, sC.1, noApp, lookV, Nat.testBit, simprocAttr, -Int.reduceNatCast', named_ok hw hn hi, hs, bad_ok hw hn hi, fault_lower]
end
end Go.Proofs.YtlognicjhmcgjaaGreatDoor.AE
namespace Go.Proofs.YtlognicjhmcgjaaGreatDoor.AE
open Go.AE
def fl (b : Bool) : Flag := bif b then .full else .no
theorem dim_fl (xs : List AVal) (b : Bool) : (AVal.lst xs (fl b)).dim = .lst xs (fl b) := by cases b <;> rfl
theorem drain_fl (xs : List AVal) (b : Bool) (i : Nat) (t : List AVal) : drainW (.lst xs (fl b)) i t = t := by cases b <;> rfl
inductive Exp where
  | mk (op n : Int) (name sub : Str) (args : List Exp)
mutual
def Exp.cs (φ : Int → Nat → Bool) : Exp → List AVal
  | .mk op n name sub args => [.int .i64 op, .int .i64 n, .str name, .str sub, .lst (encEs φ args) (fl (φ op args.length))]
def encEs (φ : Int → Nat → Bool) : List Exp → List AVal
  | [] => []
  | e :: es => .agg (e.cs φ) :: encEs φ es
end
def Exp.enc (φ : Int → Nat → Bool) (e : Exp) : AVal := .agg (e.cs φ)
theorem encEs_map (φ : Int → Nat → Bool) : ∀ es : List Exp, encEs φ es = es.map (Exp.enc φ)
  | [] => rfl
  | e :: es => by simp [encEs, encEs_map φ es, Exp.enc]
theorem Exp.cs_len (φ : Int → Nat → Bool) : ∀ e : Exp, (e.cs φ).length = 5
  | .mk .. => rfl
mutual
def Exp.depth : Exp → Nat
  | .mk _ _ _ _ args => depths args + 1
def depths : List Exp → Nat
  | [] => 0
  | e :: es => max e.depth (depths es)
end
def φP : Int → Nat → Bool := fun _ n => n == 0
structure Nd where
  e : Exp
  pos : Int
def Nd.cs (x : Nd) : List AVal := x.e.cs φP ++ [.int .i64 (x.e.depth : Nat), .int .i64 x.pos]
def Nd.enc (x : Nd) : AVal := .agg x.cs
theorem depths_append : ∀ (a b : List Exp), depths (a ++ b) = max (depths a) (depths b)
  | [], b => by simp [depths]
  | e :: a, b => by simp [depths, depths_append a b, Nat.max_assoc]
section
variable {h : List ABox}
mutual
theorem cs_lower (φ : Int → Nat → Bool) (n : Nat) : ∀ e : Exp, lowerL n (e.cs φ) = true
  | .mk op k name sub args => by simp [Exp.cs, lowerL, AVal.lower, es_lower φ n args]
theorem es_lower (φ : Int → Nat → Bool) (n : Nat) : ∀ es : List Exp, lowerL n (encEs φ es) = true
  | [] => rfl
  | e :: es => by simp [encEs, lowerL, AVal.lower, cs_lower φ n e, es_lower φ n es]
end
theorem Nd.lower (x : Nd) (n : Nat) : x.enc.lower n = true := by
  obtain ⟨⟨op, k, name, sub, args⟩, pos⟩ := x
  simp [Nd.enc, Nd.cs, Exp.cs, AVal.lower, lowerL, es_lower]
theorem es_cells {es : List Exp} (φ : Int → Nat → Bool) : ∀ x ∈ encEs φ es, x.cells.length = 5 := by
  intro x hx
  rw [encEs_map] at hx
  obtain ⟨e, _, rfl⟩ := List.mem_map.1 hx
  exact e.cs_len φ
theorem cs_stor (φ : Int → Nat → Bool) : ∀ e : Exp, (e.cs φ).all AVal.storable = true
  | .mk .. => rfl
theorem encEs_len (φ : Int → Nat → Bool) (es : List Exp) : (encEs φ es).length = es.length := by rw [encEs_map, List.length_map]
theorem app_es {es : List Exp} (e : Exp) (φ : Int → Nat → Bool) (hl : es.length ≤ 1000) : appOK 5 (encEs φ es) [.agg (e.cs φ)] = true := by
  simp only [appOK, Bool.and_eq_true, decide_eq_true_eq]
  refine ⟨⟨?_, ?_⟩, ?_⟩
  · rw [encEs_len]
    simp only [List.length_cons, List.length_nil, limit]
    omega
  · simp [AVal.cells, e.cs_len φ]
    simpa using cs_stor φ e
  · cases hh : (encEs φ es).head? with
    | none => rfl
    | some x => simp [es_cells φ x (List.mem_of_mem_head? hh)]
theorem encEs_append (φ : Int → Nat → Bool) (a b : List Exp) : encEs φ (a ++ b) = encEs φ a ++ encEs φ b := by simp [encEs_map]
def makeBox (op n : Int) (name sub : Str) (pos : Int) (done : List Exp) : ABox :=
  .cells [.int .i64 op, .int .i64 n, .str name, .str sub, .lst (encEs φP done) (bif done.isEmpty then .full else .own 5), .int .i64 ((depths done + 1 : Nat) : Int), .int .i64 pos]
def MakeInv (h : List ABox) (p : AVal) (pos op n : Int) (name sub : Str) (parts : List Nd) (f : Bool) (i : Nat) (st : St) : Prop :=
  ∃ tt H, st = ⟨tt, H, false⟩ ∧ tt.length = 45 ∧ lkp tt 0 = p.dim ∧ lkp tt 1 = .int .i64 pos ∧ lkp tt 8 = .ptr (h.length + 1) 0 ∧ lkp tt 9 = .ptr (h.length + 2) 0 ∧ lkp tt 15 = .lst (parts.map Nd.enc) (fl f) ∧ lkp tt 16 = .int .i64 (parts.length : Nat) ∧ lkp tt 17 = .int .i64 (i : Nat) ∧
    h.length + 2 < H.length ∧ H[h.length + 2]? = some (makeBox op n name sub pos ((parts.take i).map Nd.e)) ∧ H[h.length + 1]? = some (.cells [.int .i64 0, .int .i64 0, .str [], .str [], .lst [] .full, .int .i64 0, .int .i64 0]) ∧ H.take h.length = h
theorem make_loop (p : AVal) (pos op n : Int) (name sub : Str) (parts : List Nd) (f : Bool) (hp : parts.length ≤ 4) (hd : ∀ x ∈ parts, x.e.depth ≤ 20) :
    ∀ k st, (∃ i, i + k = parts.length ∧ MakeInv h p pos op n name sub parts f i st) → ∃ x st', execW h.length Wd (.loop l127_0) st = some (x, st') ∧ (x = .exit 0 ∧ MakeInv h p pos op n name sub parts f parts.length st') := by
  refine loop_rule _ (fun x st' => x = .exit 0 ∧ MakeInv h p pos op n name sub parts f parts.length st') ?_
  rintro k st ⟨i, hik, tt, H, rfl, ht, e0, e1, e8, e9, e15, e16, e17, hH, g2, g1, gt⟩
  generalize he : execW h.length Wd l127_0 _ = r
  rcases Nat.lt_or_ge i parts.length with hi | hi
  · have c1 : ilt (i : Int) (parts.length : Int) = true := by rw [ilt_eq]; simp; omega
    have w := wrap_succ (n := i) (by omega)
    have hx : ixaV 7 (.lst (parts.map Nd.enc) (fl f)) (.int .i64 (i : Nat)) = some (.iptr (parts[i]).cs 0) := ixaV_get (x := (parts[i]).enc) (by rw [List.getElem?_map, List.getElem?_eq_getElem hi]; rfl) (by simp [Nd.enc, AVal.cells, Nd.cs, Exp.cs_len])
    have hdi := hd _ (List.getElem_mem hi)
    have htk : parts.take (i + 1) = parts.take i ++ [parts[i]] := by rw [List.take_add_one, List.getElem?_eq_getElem hi]; rfl
    rcases hxi : parts[i] with ⟨⟨op', n', name', sub', args'⟩, pos'⟩
    rw [hxi] at hx hdi htk
    simp only [Nd.cs, Exp.cs, List.cons_append, List.nil_append] at hx
    have hsh : (parts.take i).length = i := by simp; omega
    have wd : IntKind.i64.wrap (((Exp.mk op' n' name' sub' args').depth : Int) + 1) = (((Exp.mk op' n' name' sub' args').depth + 1 : Nat) : Int) := wrap_succ (by simp only at hdi; omega)
    have hbl : Nat.ble h.length (h.length + 2) = true := ble_true (by omega)
    have hbH : Nat.ble h.length H.length = true := ble_true (by omega)
    rcases Nat.eq_zero_or_pos i with h0 | h0
    · subst h0
      simp only [List.take_zero, List.map_nil, makeBox, List.isEmpty_nil, cond_true, encEs, depths] at g2
      have hap : appOK 5 [] [.agg [.int .i64 op', .int .i64 n', .str name', .str sub', .lst (encEs φP args') (fl (φP op' args'.length))]] = true := app_es (es := []) (.mk op' n' name' sub' args') φP (by simp)
      simp only [l127_0, sT.1, sC.1, sTA.1, sCA.1, noApp, provA, provE, Src.isTmp, provOf, Src.hangs, AOpd.isT, srcOf, lookV, Nat.testBit, bne, simprocAttr, -Int.reduceNatCast', dim_fl, drain_fl, ht, e9, e15, e16, e17, c1, hx, w, hH, g2, hap, list_agg1, wd, hbl, hbH] at he
      subst he
      refine .inl ⟨_, k - 1, rfl, by omega, 1, by omega, _, _, rfl, by simp only [length_up, ht], ?_, ?_, ?_, ?_, ?_, ?_, ?_, ?_, ?_, ?_, ?_⟩
      · simp only [sT.1, sC.1, noApp, lookV, Nat.testBit, simprocAttr, -Int.reduceNatCast', ht, e0]
      · simp only [sT.1, sC.1, noApp, lookV, Nat.testBit, simprocAttr, -Int.reduceNatCast', ht, e1]
      · simp only [sT.1, sC.1, noApp, lookV, Nat.testBit, simprocAttr, -Int.reduceNatCast', ht, e8]
      · simp only [sT.1, sC.1, noApp, lookV, Nat.testBit, simprocAttr, -Int.reduceNatCast', ht, e9]
      · simp only [sT.1, sC.1, noApp, lookV, Nat.testBit, simprocAttr, -Int.reduceNatCast', ht, e15]
      · simp only [sT.1, sC.1, noApp, lookV, Nat.testBit, simprocAttr, -Int.reduceNatCast', ht, e16]
      · simp only [sT.1, sC.1, noApp, lookV, Nat.testBit, simprocAttr, -Int.reduceNatCast', ht]
      · simp only [List.length_append, List.length_set, List.length_cons, List.length_nil]; omega
      · rw [get_old (by rw [List.length_set]; exact hH), get_set hH, htk]
        simp [makeBox, encEs, Exp.cs, depths]
      · rw [get_old (by rw [List.length_set]; omega), get_set_ne (by omega), g1]
      · rw [List.take_append_of_le_length (by rw [List.length_set]; omega), List.take_set_of_le (by omega), gt]
    · have hnf : (parts.take i).map Nd.e ≠ [] := by
        intro hnil
        have := congrArg List.length hnil
        rw [List.length_map, hsh] at this
        simp at this
        omega
      have hie : ((parts.take i).map Nd.e).isEmpty = false := by cases hq : (parts.take i).map Nd.e with | nil => exact absurd hq hnf | cons => rfl
      simp only [makeBox, hie, cond_false] at g2
      have hap : appOK 5 (encEs φP ((parts.take i).map Nd.e)) [.agg [.int .i64 op', .int .i64 n', .str name', .str sub', .lst (encEs φP args') (fl (φP op' args'.length))]] = true := app_es (.mk op' n' name' sub' args') φP (by rw [List.length_map]; omega)
      simp only [l127_0, sT.1, sC.1, sTA.1, sCA.1, noApp, provA, provE, Src.isTmp, provOf, Src.hangs, AOpd.isT, srcOf, lookV, Nat.testBit, bne, simprocAttr, -Int.reduceNatCast', dim_fl, drain_fl, ht, e9, e15, e16, e17, c1, hx, w, hH, g2, hap, list_agg1, wd, hbl, hbH] at he
      subst he
      refine .inl ⟨_, k - 1, rfl, by omega, i + 1, by omega, _, _, rfl, by simp only [length_up, ht], ?_, ?_, ?_, ?_, ?_, ?_, ?_, ?_, ?_, ?_, ?_⟩
      · simp only [sT.1, sC.1, noApp, lookV, Nat.testBit, simprocAttr, -Int.reduceNatCast', ht, e0]
      · simp only [sT.1, sC.1, noApp, lookV, Nat.testBit, simprocAttr, -Int.reduceNatCast', ht, e1]
      · simp only [sT.1, sC.1, noApp, lookV, Nat.testBit, simprocAttr, -Int.reduceNatCast', ht, e8]
      · simp only [sT.1, sC.1, noApp, lookV, Nat.testBit, simprocAttr, -Int.reduceNatCast', ht, e9]
      · simp only [sT.1, sC.1, noApp, lookV, Nat.testBit, simprocAttr, -Int.reduceNatCast', ht, e15]
      · simp only [sT.1, sC.1, noApp, lookV, Nat.testBit, simprocAttr, -Int.reduceNatCast', ht, e16]
      · simp only [sT.1, sC.1, noApp, lookV, Nat.testBit, simprocAttr, -Int.reduceNatCast', ht]
      · simp only [List.length_append, List.length_set, List.length_cons, List.length_nil]; omega
      · rw [get_old (by rw [List.length_set]; exact hH), get_set hH, htk]
        simp [makeBox, encEs, Exp.cs, depths, encEs_append, depths_append]
        cases List.take i (List.map Nd.e parts) <;> rfl
      · rw [get_old (by rw [List.length_set]; omega), get_set_ne (by omega), g1]
      · rw [List.take_append_of_le_length (by rw [List.length_set]; omega), List.take_set_of_le (by omega), gt]
  · have c1 : ilt (i : Int) (parts.length : Int) = false := by rw [ilt_eq]; simp; omega
    have hil : i = parts.length := by omega
    subst hil
    simp only [l127_0, sT.1, sC.1, noApp, lookV, Nat.testBit, simprocAttr, -Int.reduceNatCast', ht, e16, e17, c1] at he
    subst he
    refine .inr ⟨_, _, rfl, by simp, rfl, _, _, rfl, by simp only [length_up, ht], ?_, ?_, ?_, ?_, ?_, ?_, ?_, hH, g2, g1, gt⟩
    · simp only [sT.1, sC.1, noApp, lookV, Nat.testBit, simprocAttr, -Int.reduceNatCast', ht, e0]
    · simp only [sT.1, sC.1, noApp, lookV, Nat.testBit, simprocAttr, -Int.reduceNatCast', ht, e1]
    · simp only [sT.1, sC.1, noApp, lookV, Nat.testBit, simprocAttr, -Int.reduceNatCast', ht, e8]
    · simp only [sT.1, sC.1, noApp, lookV, Nat.testBit, simprocAttr, -Int.reduceNatCast', ht, e9]
    · simp only [sT.1, sC.1, noApp, lookV, Nat.testBit, simprocAttr, -Int.reduceNatCast', ht, e15]
    · simp only [sT.1, sC.1, noApp, lookV, Nat.testBit, simprocAttr, -Int.reduceNatCast', ht, e16]
    · simp only [sT.1, sC.1, noApp, lookV, Nat.testBit, simprocAttr, -Int.reduceNatCast', ht, e17]
def mkE (op n : Int) (name sub : Str) (parts : List Nd) : Exp := .mk op n name sub (parts.map Nd.e)
theorem make_ok (p : AVal) (pos op n : Int) (name sub : Str) (parts : List Nd) (f : Bool) (hp : parts.length ≤ 4) (hd : ∀ x ∈ parts, x.e.depth ≤ 20) :
    Wd (.fn 127 [] []) [p, .int .i64 pos, .agg [.int .i64 op, .int .i64 n, .str name, .str sub, .lst [] .full], .lst (parts.map Nd.enc) (fl f)] h =
      if (mkE op n name sub parts).depth ≤ 20 then some (.ret (Nd.enc ⟨mkE op n name sub parts, pos⟩), h, false) else some (.pan (fault pos 7), h, false) := by
  have hbl : Nat.ble h.length (h.length + 2) = true := ble_true (by omega)
  have hbl1 : Nat.ble h.length (h.length + 1) = true := ble_true (by omega)
  rw [Wd_fn rfl (show T.get 127 = some c127 by kernel_rfl)]
  simp only [c127, sT.1, sC.1, noApp, lookV, Nat.testBit, simprocAttr, -Int.reduceNatCast', dim_fl, fillS, hbl]
  generalize hr : execW h.length Wd (.loop l127_0) _ = r
  obtain ⟨x, st', rfl, rfl, tt, H, rfl, ht, e0, e1, e8, e9, e15, e16, e17, hH, g2, g1, gt⟩ := known hr (make_loop (h := h) p pos op n name sub parts f hp hd parts.length _ ⟨0, by omega, _, _, rfl, by simp only [sT.1, sC.1, noApp, lookV, Nat.testBit, simprocAttr, -Int.reduceNatCast'], by simp only [sT.1, sC.1, noApp, lookV, Nat.testBit, simprocAttr, -Int.reduceNatCast'], by simp only [sT.1, sC.1, noApp, lookV, Nat.testBit, simprocAttr, -Int.reduceNatCast'], by simp only [sT.1, sC.1, noApp, lookV, Nat.testBit, simprocAttr, -Int.reduceNatCast'], by simp only [sT.1, sC.1, noApp, lookV, Nat.testBit, simprocAttr, -Int.reduceNatCast'], by simp only [sT.1, sC.1, noApp, lookV, Nat.testBit, simprocAttr, -Int.reduceNatCast'], by simp only [sT.1, sC.1, noApp, lookV, Nat.testBit, simprocAttr, -Int.reduceNatCast', List.length_map], by simp only [sT.1, sC.1, noApp, lookV, Nat.testBit, simprocAttr, -Int.reduceNatCast', Int.natCast_zero], by simp only [sT.1, sC.1, noApp, lookV, Nat.testBit, simprocAttr, -Int.reduceNatCast']; omega, by simp only [sT.1, sC.1, noApp, lookV, Nat.testBit, simprocAttr, -Int.reduceNatCast']; rfl, by simp only [sT.1, sC.1, noApp, lookV, Nat.testBit, simprocAttr, -Int.reduceNatCast'], by simp⟩)
  rw [List.take_length] at g2
  simp only [makeBox] at g2
  have hdep : (mkE op n name sub parts).depth = depths (parts.map Nd.e) + 1 := rfl
  have h21 : h.length + 2 ≠ h.length + 1 := by omega
  have hdm : (AVal.lst (encEs φP (parts.map Nd.e)) (bif (parts.map Nd.e).isEmpty then .full else .own 5)).dim = .lst (encEs φP (parts.map Nd.e)) (fl (φP op (parts.map Nd.e).length)) := by cases parts <;> rfl
  by_cases hq : (mkE op n name sub parts).depth ≤ 20
  · have d1 : ilt 20 ((depths (parts.map Nd.e) + 1 : Nat) : Int) = false := by rw [ilt_eq]; rw [hdep] at hq; simp; omega
    simp only [sT.1, sC.1, noApp, lookV, Nat.testBit, simprocAttr, -Int.reduceNatCast', ht, e8, e9, g2, g1, d1, hH, hbl1, hdm, dim_fl]
    have hH1 : h.length + 1 < H.length := by omega
    have htk : (H.set (h.length + 1) (.cells (Nd.cs ⟨mkE op n name sub parts, pos⟩))).take h.length = h := by rw [List.take_set_of_le (by omega), gt]
    simp only [Nd.cs, Exp.cs, mkE, List.cons_append, List.nil_append] at htk
    simp only [sT.1, sC.1, noApp, lookV, Nat.testBit, simprocAttr, -Int.reduceNatCast', hH1, dim_fl, es_lower]
    rw [if_pos hq]
    exact congrArg some (leave_cut htk (Nd.lower ⟨mkE op n name sub parts, pos⟩ _))
  · have d1 : ilt 20 ((depths (parts.map Nd.e) + 1 : Nat) : Int) = true := by rw [ilt_eq]; rw [hdep] at hq; simp; omega
    simp only [sT.1, sC.1, noApp, lookV, Nat.testBit, simprocAttr, -Int.reduceNatCast', ht, e0, e1, e9, g2, d1, hH, dim_twice, fail_ok]
    rw [leave_cut_pan gt (fault_lower _ _ _), if_neg hq]
end
end Go.Proofs.YtlognicjhmcgjaaGreatDoor.AE
namespace Go.Proofs.YtlognicjhmcgjaaGreatDoor.AE
open Go.AE
section
variable {h : List ABox} {i : Nat} {ws : List Tok} {n : Nat}
theorem make0 (p : AVal) (pos op k : Int) (name sub : Str) : Wd (.fn 127 [] []) [p, .int .i64 pos, .agg [.int .i64 op, .int .i64 k, .str name, .str sub, .lst [] .full], .lst [] .full] h = some (.ret (Nd.enc ⟨.mk op k name sub [], pos⟩), h, false) := by
  have := make_ok (h := h) p pos op k name sub [] true (by simp) (by simp)
  rw [if_pos (by simp [mkE, Exp.depth, depths])] at this
  exact this
theorem make1 (p : AVal) (pos op k : Int) (name sub : Str) (x : Nd) (hx : x.e.depth ≤ 20) : Wd (.fn 127 [] []) [p, .int .i64 pos, .agg [.int .i64 op, .int .i64 k, .str name, .str sub, .lst [] .full], .lst [x.enc] .full] h =
    if (Exp.mk op k name sub [x.e]).depth ≤ 20 then some (.ret (Nd.enc ⟨.mk op k name sub [x.e], pos⟩), h, false) else some (.pan (fault pos 7), h, false) :=
  make_ok (h := h) p pos op k name sub [x] true (by simp) (by simpa using hx)
theorem make2 (p : AVal) (pos op k : Int) (name sub : Str) (x y : Nd) (hx : x.e.depth ≤ 20) (hy : y.e.depth ≤ 20) : Wd (.fn 127 [] []) [p, .int .i64 pos, .agg [.int .i64 op, .int .i64 k, .str name, .str sub, .lst [] .full], .lst [x.enc, y.enc] .full] h =
    if (Exp.mk op k name sub [x.e, y.e]).depth ≤ 20 then some (.ret (Nd.enc ⟨.mk op k name sub [x.e, y.e], pos⟩), h, false) else some (.pan (fault pos 7), h, false) :=
  make_ok (h := h) p pos op k name sub [x, y] true (by simp) (by simpa using ⟨hx, hy⟩)
theorem make3 (p : AVal) (pos op k : Int) (name sub : Str) (x y z : Nd) (hx : x.e.depth ≤ 20) (hy : y.e.depth ≤ 20) (hz : z.e.depth ≤ 20) : Wd (.fn 127 [] []) [p, .int .i64 pos, .agg [.int .i64 op, .int .i64 k, .str name, .str sub, .lst [] .full], .lst [x.enc, y.enc, z.enc] .full] h =
    if (Exp.mk op k name sub [x.e, y.e, z.e]).depth ≤ 20 then some (.ret (Nd.enc ⟨.mk op k name sub [x.e, y.e, z.e], pos⟩), h, false) else some (.pan (fault pos 7), h, false) :=
  make_ok (h := h) p pos op k name sub [x, y, z] true (by simp) (by simpa using ⟨hx, hy, hz⟩)
theorem PBi (ws : List Tok) (n : Nat) : PB ws n = .cells [.lst (ws.map Tok.enc) .no, .int .i64 (n : Int)] := Eq.trans rfl rfl
theorem Nd.stor (x : Nd) : x.cs.all AVal.storable = true := by
  obtain ⟨⟨op, k, name, sub, args⟩, pos⟩ := x
  rfl
theorem Nd.dims (x : Nd) : x.cs.map AVal.dim = x.cs := by
  obtain ⟨⟨op, k, name, sub, args⟩, pos⟩ := x
  simp [Nd.cs, Exp.cs, AVal.dim, fl]
  cases φP op args.length <;> rfl
theorem Nd.len (x : Nd) : x.cs.length = 7 := by
  obtain ⟨⟨op, k, name, sub, args⟩, pos⟩ := x
  rfl
theorem Nd.dimE (x : Nd) : x.enc.dim = x.enc := rfl
theorem Nd.cellsE (x : Nd) : x.enc.cells = x.cs := rfl
theorem Nd.cutE (x : Nd) : cut x.cs 0 (some 7) = some x.enc := by
  rw [cut_some (by rw [Nd.len]; omega), List.drop_zero, List.take_of_length_le (by rw [Nd.len]; omega), Nd.dims]
  rfl
theorem Nd.drainE (x : Nd) (j : Nat) (t : List AVal) : drainW x.enc j t = t := rfl
theorem variable_of (hw : WF ws) (hn : n < ws.length) (hi : h[i]? = some (PB ws n)) (h1 : namedW ws n = true) (h2 : isW ws (n + 1) [46] = true) (h3 : namedW ws (n + 1 + 1) = true) :
    Wd (.fn 294 [] []) [.ptr i 0] h = some (.ret (Nd.enc ⟨.mk 5 0 (word ws n).s (word ws (n + 1 + 1)).s [], (word ws n).pos⟩), h.set i (PB ws (n + 1 + 1 + 1)), false) := by
  have hlt := lt_of_box hi
  have hl := hw.len
  have n1 := namedW_next hw hn h1
  have n2 := isW_next hw n1 h2
  have n3 := namedW_next hw n2 h3
  have w := wrap_succ (n := n + 1) (by omega)
  rw [PBi] at hi
  rw [Wd_fn rfl (show T.get 294 = some c294 by kernel_rfl)]
  simp only [c294, sT.1, sC.1, noApp, lookV, Nat.testBit, simprocAttr, -Int.reduceNatCast', at_ok hw hn, name_yes hw hn, hi, h1, is_ok hw n1, h2, hlt, PBi, w, named_ok hw n2, h3, name_yes hw n2, fillS, make0, Nd.dimE, Nd.cellsE, Nd.cutE, Nd.dims, Nd.len, Nd.stor, Nd.lower, Nd.drainE]
theorem variable_plain (hw : WF ws) (hn : n < ws.length) (hi : h[i]? = some (PB ws n)) (h1 : namedW ws n = true) (h2 : isW ws (n + 1) [46] = true → namedW ws (n + 1 + 1) = false) :
    Wd (.fn 294 [] []) [.ptr i 0] h = some (.ret (Nd.enc ⟨.mk 4 0 (word ws n).s [] [], (word ws n).pos⟩), h.set i (PB ws (n + 1)), false) := by
  have hlt := lt_of_box hi
  have hl := hw.len
  have n1 := namedW_next hw hn h1
  rw [PBi] at hi
  rw [Wd_fn rfl (show T.get 294 = some c294 by kernel_rfl)]
  cases h3 : isW ws (n + 1) [46] with
  | false => simp only [c294, sT.1, sC.1, noApp, lookV, Nat.testBit, simprocAttr, -Int.reduceNatCast', at_ok hw hn, name_yes hw hn, hi, h1, is_ok hw n1, h3, hlt, PBi, fillS, make0, Nd.dimE, Nd.cellsE, Nd.cutE, Nd.dims, Nd.len, Nd.stor, Nd.lower, Nd.drainE]
  | true =>
    have h4 := h2 h3
    have n2 := isW_next hw n1 h3
    have w := wrap_succ (n := n + 1) (by omega)
    have w' : IntKind.i64.wrap (((n + 1 + 1 : Nat) : Int) - 1) = ((n + 1 : Nat) : Int) := by rw [wrap_id (by omega) (by omega)]; omega
    simp only [c294, sT.1, sC.1, noApp, lookV, Nat.testBit, simprocAttr, -Int.reduceNatCast', at_ok hw hn, name_yes hw hn, hi, h1, is_ok hw n1, h3, hlt, PBi, w, w', named_ok hw n2, h4, fillS, make0, Nd.dimE, Nd.cellsE, Nd.cutE, Nd.dims, Nd.len, Nd.stor, Nd.lower, Nd.drainE]
theorem ofPort_yes (hw : WF ws) (hn : n < ws.length) (hi : h[i]? = some (PB ws n)) (pos op : Int) (h1 : isW ws n [40] = true) (h2 : namedW ws (n + 1) = true) (h3 : isW ws (n + 1 + 1) [41] = true) :
    Wd (.fn 298 [] []) [.ptr i 0, .int .i64 pos, .int .i64 op] h = some (.ret (Nd.enc ⟨.mk op 0 (word ws (n + 1)).s [] [], pos⟩), h.set i (PB ws (n + 1 + 1 + 1)), false) := by
  have hlt := lt_of_box hi
  have n1 := isW_next hw hn h1
  have n2 := namedW_next hw n1 h2
  rw [PBi] at hi
  rw [Wd_fn rfl (show T.get 298 = some c298 by kernel_rfl)]
  simp only [c298, sT.1, sC.1, noApp, lookV, Nat.testBit, simprocAttr, -Int.reduceNatCast', need_yes hw hn, need_yes hw n2, name_yes hw n1, hi, h1, h2, h3, hlt, PBi, fillS, make0, Nd.dimE, Nd.cellsE, Nd.cutE, Nd.dims, Nd.len, Nd.stor, Nd.lower, Nd.drainE]
theorem ofPort_no1 (hw : WF ws) (hn : n < ws.length) (hi : h[i]? = some (PB ws n)) (pos op : Int) (h1 : isW ws n [40] = false) :
    Wd (.fn 298 [] []) [.ptr i 0, .int .i64 pos, .int .i64 op] h = some (.pan (fault (word ws n).pos 6), h, false) := by
  have hlt := lt_of_box hi
  rw [PBi] at hi
  rw [Wd_fn rfl (show T.get 298 = some c298 by kernel_rfl)]
  simp only [c298, sT.1, sC.1, noApp, lookV, Nat.testBit, simprocAttr, -Int.reduceNatCast', need_no hw hn, hi, h1, hlt, PBi, fault_lower]
theorem ofPort_no2 (hw : WF ws) (hn : n < ws.length) (hi : h[i]? = some (PB ws n)) (pos op : Int) (h1 : isW ws n [40] = true) (h2 : namedW ws (n + 1) = false) :
    Wd (.fn 298 [] []) [.ptr i 0, .int .i64 pos, .int .i64 op] h = some (.pan (fault (word ws (n + 1)).pos 6), h.set i (PB ws (n + 1)), false) := by
  have hlt := lt_of_box hi
  have n1 := isW_next hw hn h1
  rw [PBi] at hi
  rw [Wd_fn rfl (show T.get 298 = some c298 by kernel_rfl)]
  simp only [c298, sT.1, sC.1, noApp, lookV, Nat.testBit, simprocAttr, -Int.reduceNatCast', need_yes hw hn, name_no hw n1, hi, h1, h2, hlt, PBi, fault_lower]
theorem ofPort_no3 (hw : WF ws) (hn : n < ws.length) (hi : h[i]? = some (PB ws n)) (pos op : Int) (h1 : isW ws n [40] = true) (h2 : namedW ws (n + 1) = true) (h3 : isW ws (n + 1 + 1) [41] = false) :
    Wd (.fn 298 [] []) [.ptr i 0, .int .i64 pos, .int .i64 op] h = some (.pan (fault (word ws (n + 1 + 1)).pos 6), h.set i (PB ws (n + 1 + 1)), false) := by
  have hlt := lt_of_box hi
  have n1 := isW_next hw hn h1
  have n2 := namedW_next hw n1 h2
  rw [PBi] at hi
  rw [Wd_fn rfl (show T.get 298 = some c298 by kernel_rfl)]
  simp only [c298, sT.1, sC.1, noApp, lookV, Nat.testBit, simprocAttr, -Int.reduceNatCast', need_yes hw hn, need_no hw n2, name_yes hw n1, hi, h1, h2, h3, hlt, PBi, fault_lower]
end
end Go.Proofs.YtlognicjhmcgjaaGreatDoor.AE
namespace Go.Proofs.YtlognicjhmcgjaaGreatDoor.AE
open Go.AE
inductive Out where
  | ok (e : Exp) (n : Nat)
  | no (pos err : Int) (n : Nat)
def PRun (f : FuncId) (ws : List Tok) (n : Nat) : Out → Prop
  | .ok e n' => n < n' ∧ n' < ws.length ∧ e.depth ≤ 20 ∧ ∀ (h : List ABox) (i : Nat), h[i]? = some (PB ws n) → Wd (.fn f [] []) [.ptr i 0] h = some (.ret (Nd.enc ⟨e, (word ws n).pos⟩), h.set i (PB ws n'), false)
  | .no pos err n' => n' < ws.length ∧ ∀ (h : List ABox) (i : Nat), h[i]? = some (PB ws n) → Wd (.fn f [] []) [.ptr i 0] h = some (.pan (fault pos err), h.set i (PB ws n'), false)
section
variable {ws : List Tok} {n : Nat}
theorem isW_other {s s' : Str} (h : isW ws n s = true) (hs : s ≠ s') : isW ws n s' = false := by
  simp only [isW, Bool.and_eq_true, beq_iff_eq] at h
  simp only [isW, Bool.and_eq_false_iff]
  right
  rw [h.2]
  simpa using hs
theorem asked_true (hw : WF ws) (hn : n < ws.length) (hs : isW ws n [116, 114, 117, 101] = true) : PRun 296 ws n (.ok (.mk 1 0 [] [] []) (n + 1)) := by
  refine ⟨by omega, isW_next hw hn hs, by simp [Exp.depth, depths], fun h i hi => ?_⟩
  have hlt := lt_of_box hi
  rw [PBi] at hi
  rw [Wd_fn rfl (show T.get 296 = some c296 by kernel_rfl)]
  simp only [c296, sT.1, sC.1, noApp, lookV, Nat.testBit, simprocAttr, -Int.reduceNatCast', at_ok hw hn, take_yes hw hn, take_no hw hn, hi, hs, hlt, PBi, fillS, make0, Nd.dimE, Nd.cellsE, Nd.cutE, Nd.dims, Nd.len, Nd.stor, Nd.lower, Nd.drainE]
theorem asked_false (hw : WF ws) (hn : n < ws.length) (hs : isW ws n [102, 97, 108, 115, 101] = true) : PRun 296 ws n (.ok (.mk 2 0 [] [] []) (n + 1)) := by
  refine ⟨by omega, isW_next hw hn hs, by simp [Exp.depth, depths], fun h i hi => ?_⟩
  have q0 : isW ws n [116, 114, 117, 101] = false := isW_other hs (by decide)
  have hlt := lt_of_box hi
  rw [PBi] at hi
  rw [Wd_fn rfl (show T.get 296 = some c296 by kernel_rfl)]
  simp only [c296, sT.1, sC.1, noApp, lookV, Nat.testBit, simprocAttr, -Int.reduceNatCast', at_ok hw hn, take_yes hw hn, take_no hw hn, hi, hs, q0, hlt, PBi, fillS, make0, Nd.dimE, Nd.cellsE, Nd.cutE, Nd.dims, Nd.len, Nd.stor, Nd.lower, Nd.drainE]
theorem asked_elapsed (hw : WF ws) (hn : n < ws.length) (hs : isW ws n [101, 108, 97, 112, 115, 101, 100] = true) : PRun 296 ws n (.ok (.mk 11 0 [] [] []) (n + 1)) := by
  refine ⟨by omega, isW_next hw hn hs, by simp [Exp.depth, depths], fun h i hi => ?_⟩
  have q0 : isW ws n [116, 114, 117, 101] = false := isW_other hs (by decide)
  have q1 : isW ws n [102, 97, 108, 115, 101] = false := isW_other hs (by decide)
  have hlt := lt_of_box hi
  rw [PBi] at hi
  rw [Wd_fn rfl (show T.get 296 = some c296 by kernel_rfl)]
  simp only [c296, sT.1, sC.1, noApp, lookV, Nat.testBit, simprocAttr, -Int.reduceNatCast', at_ok hw hn, take_yes hw hn, take_no hw hn, hi, hs, q0, q1, hlt, PBi, fillS, make0, Nd.dimE, Nd.cellsE, Nd.cutE, Nd.dims, Nd.len, Nd.stor, Nd.lower, Nd.drainE]
theorem asked_count (hw : WF ws) (hn : n < ws.length) (hs : isW ws n [99, 111, 117, 110, 116] = true) (h1 : isW ws (n + 1) [40] = true) (h2 : namedW ws (n + 1 + 1) = true) (h3 : isW ws (n + 1 + 1 + 1) [41] = true) : PRun 296 ws n (.ok (.mk 7 0 (word ws (n + 1 + 1)).s [] []) (n + 1 + 1 + 1 + 1)) := by
  have n1 := isW_next hw hn hs
  have n2 := isW_next hw n1 h1
  have n3 := namedW_next hw n2 h2
  refine ⟨by omega, isW_next hw n3 h3, by simp [Exp.depth, depths], fun h i hi => ?_⟩
  have q0 : isW ws n [116, 114, 117, 101] = false := isW_other hs (by decide)
  have q1 : isW ws n [102, 97, 108, 115, 101] = false := isW_other hs (by decide)
  have q2 : isW ws n [101, 108, 97, 112, 115, 101, 100] = false := isW_other hs (by decide)
  have hlt := lt_of_box hi
  rw [PBi] at hi
  rw [Wd_fn rfl (show T.get 296 = some c296 by kernel_rfl)]
  simp only [c296, sT.1, sC.1, noApp, lookV, Nat.testBit, simprocAttr, -Int.reduceNatCast', at_ok hw hn, take_yes hw hn, take_no hw hn, hi, hs, q0, q1, q2, hlt, PBi, ofPort_yes hw n1, h1, h2, h3, fillS, make0, Nd.dimE, Nd.cellsE, Nd.cutE, Nd.dims, Nd.len, Nd.stor, Nd.lower, Nd.drainE]
theorem asked_count1 (hw : WF ws) (hn : n < ws.length) (hs : isW ws n [99, 111, 117, 110, 116] = true) (h1 : isW ws (n + 1) [40] = false) : PRun 296 ws n (.no (word ws (n + 1)).pos 6 (n + 1)) := by
  have n1 := isW_next hw hn hs
  refine ⟨n1, fun h i hi => ?_⟩
  have q0 : isW ws n [116, 114, 117, 101] = false := isW_other hs (by decide)
  have q1 : isW ws n [102, 97, 108, 115, 101] = false := isW_other hs (by decide)
  have q2 : isW ws n [101, 108, 97, 112, 115, 101, 100] = false := isW_other hs (by decide)
  have hlt := lt_of_box hi
  rw [PBi] at hi
  rw [Wd_fn rfl (show T.get 296 = some c296 by kernel_rfl)]
  simp only [c296, sT.1, sC.1, noApp, lookV, Nat.testBit, simprocAttr, -Int.reduceNatCast', at_ok hw hn, take_yes hw hn, take_no hw hn, hi, hs, q0, q1, q2, hlt, PBi, ofPort_no1 hw n1, h1, fault_lower]
theorem asked_count2 (hw : WF ws) (hn : n < ws.length) (hs : isW ws n [99, 111, 117, 110, 116] = true) (h1 : isW ws (n + 1) [40] = true) (h2 : namedW ws (n + 1 + 1) = false) : PRun 296 ws n (.no (word ws (n + 1 + 1)).pos 6 (n + 1 + 1)) := by
  have n1 := isW_next hw hn hs
  have n2 := isW_next hw n1 h1
  refine ⟨n2, fun h i hi => ?_⟩
  have q0 : isW ws n [116, 114, 117, 101] = false := isW_other hs (by decide)
  have q1 : isW ws n [102, 97, 108, 115, 101] = false := isW_other hs (by decide)
  have q2 : isW ws n [101, 108, 97, 112, 115, 101, 100] = false := isW_other hs (by decide)
  have hlt := lt_of_box hi
  rw [PBi] at hi
  rw [Wd_fn rfl (show T.get 296 = some c296 by kernel_rfl)]
  simp only [c296, sT.1, sC.1, noApp, lookV, Nat.testBit, simprocAttr, -Int.reduceNatCast', at_ok hw hn, take_yes hw hn, take_no hw hn, hi, hs, q0, q1, q2, hlt, PBi, ofPort_no2 hw n1, h1, h2, fault_lower]
theorem asked_count3 (hw : WF ws) (hn : n < ws.length) (hs : isW ws n [99, 111, 117, 110, 116] = true) (h1 : isW ws (n + 1) [40] = true) (h2 : namedW ws (n + 1 + 1) = true) (h3 : isW ws (n + 1 + 1 + 1) [41] = false) : PRun 296 ws n (.no (word ws (n + 1 + 1 + 1)).pos 6 (n + 1 + 1 + 1)) := by
  have n1 := isW_next hw hn hs
  have n2 := isW_next hw n1 h1
  have n3 := namedW_next hw n2 h2
  refine ⟨n3, fun h i hi => ?_⟩
  have q0 : isW ws n [116, 114, 117, 101] = false := isW_other hs (by decide)
  have q1 : isW ws n [102, 97, 108, 115, 101] = false := isW_other hs (by decide)
  have q2 : isW ws n [101, 108, 97, 112, 115, 101, 100] = false := isW_other hs (by decide)
  have hlt := lt_of_box hi
  rw [PBi] at hi
  rw [Wd_fn rfl (show T.get 296 = some c296 by kernel_rfl)]
  simp only [c296, sT.1, sC.1, noApp, lookV, Nat.testBit, simprocAttr, -Int.reduceNatCast', at_ok hw hn, take_yes hw hn, take_no hw hn, hi, hs, q0, q1, q2, hlt, PBi, ofPort_no3 hw n1, h1, h2, h3, fault_lower]
theorem asked_has (hw : WF ws) (hn : n < ws.length) (hs : isW ws n [104, 97, 115] = true) (h1 : isW ws (n + 1) [40] = true) (h2 : namedW ws (n + 1 + 1) = true) (h3 : isW ws (n + 1 + 1 + 1) [41] = true) : PRun 296 ws n (.ok (.mk 8 0 (word ws (n + 1 + 1)).s [] []) (n + 1 + 1 + 1 + 1)) := by
  have n1 := isW_next hw hn hs
  have n2 := isW_next hw n1 h1
  have n3 := namedW_next hw n2 h2
  refine ⟨by omega, isW_next hw n3 h3, by simp [Exp.depth, depths], fun h i hi => ?_⟩
  have q0 : isW ws n [116, 114, 117, 101] = false := isW_other hs (by decide)
  have q1 : isW ws n [102, 97, 108, 115, 101] = false := isW_other hs (by decide)
  have q2 : isW ws n [101, 108, 97, 112, 115, 101, 100] = false := isW_other hs (by decide)
  have q3 : isW ws n [99, 111, 117, 110, 116] = false := isW_other hs (by decide)
  have hlt := lt_of_box hi
  rw [PBi] at hi
  rw [Wd_fn rfl (show T.get 296 = some c296 by kernel_rfl)]
  simp only [c296, sT.1, sC.1, noApp, lookV, Nat.testBit, simprocAttr, -Int.reduceNatCast', at_ok hw hn, take_yes hw hn, take_no hw hn, hi, hs, q0, q1, q2, q3, hlt, PBi, ofPort_yes hw n1, h1, h2, h3, fillS, make0, Nd.dimE, Nd.cellsE, Nd.cutE, Nd.dims, Nd.len, Nd.stor, Nd.lower, Nd.drainE]
theorem asked_has1 (hw : WF ws) (hn : n < ws.length) (hs : isW ws n [104, 97, 115] = true) (h1 : isW ws (n + 1) [40] = false) : PRun 296 ws n (.no (word ws (n + 1)).pos 6 (n + 1)) := by
  have n1 := isW_next hw hn hs
  refine ⟨n1, fun h i hi => ?_⟩
  have q0 : isW ws n [116, 114, 117, 101] = false := isW_other hs (by decide)
  have q1 : isW ws n [102, 97, 108, 115, 101] = false := isW_other hs (by decide)
  have q2 : isW ws n [101, 108, 97, 112, 115, 101, 100] = false := isW_other hs (by decide)
  have q3 : isW ws n [99, 111, 117, 110, 116] = false := isW_other hs (by decide)
  have hlt := lt_of_box hi
  rw [PBi] at hi
  rw [Wd_fn rfl (show T.get 296 = some c296 by kernel_rfl)]
  simp only [c296, sT.1, sC.1, noApp, lookV, Nat.testBit, simprocAttr, -Int.reduceNatCast', at_ok hw hn, take_yes hw hn, take_no hw hn, hi, hs, q0, q1, q2, q3, hlt, PBi, ofPort_no1 hw n1, h1, fault_lower]
theorem asked_has2 (hw : WF ws) (hn : n < ws.length) (hs : isW ws n [104, 97, 115] = true) (h1 : isW ws (n + 1) [40] = true) (h2 : namedW ws (n + 1 + 1) = false) : PRun 296 ws n (.no (word ws (n + 1 + 1)).pos 6 (n + 1 + 1)) := by
  have n1 := isW_next hw hn hs
  have n2 := isW_next hw n1 h1
  refine ⟨n2, fun h i hi => ?_⟩
  have q0 : isW ws n [116, 114, 117, 101] = false := isW_other hs (by decide)
  have q1 : isW ws n [102, 97, 108, 115, 101] = false := isW_other hs (by decide)
  have q2 : isW ws n [101, 108, 97, 112, 115, 101, 100] = false := isW_other hs (by decide)
  have q3 : isW ws n [99, 111, 117, 110, 116] = false := isW_other hs (by decide)
  have hlt := lt_of_box hi
  rw [PBi] at hi
  rw [Wd_fn rfl (show T.get 296 = some c296 by kernel_rfl)]
  simp only [c296, sT.1, sC.1, noApp, lookV, Nat.testBit, simprocAttr, -Int.reduceNatCast', at_ok hw hn, take_yes hw hn, take_no hw hn, hi, hs, q0, q1, q2, q3, hlt, PBi, ofPort_no2 hw n1, h1, h2, fault_lower]
theorem asked_has3 (hw : WF ws) (hn : n < ws.length) (hs : isW ws n [104, 97, 115] = true) (h1 : isW ws (n + 1) [40] = true) (h2 : namedW ws (n + 1 + 1) = true) (h3 : isW ws (n + 1 + 1 + 1) [41] = false) : PRun 296 ws n (.no (word ws (n + 1 + 1 + 1)).pos 6 (n + 1 + 1 + 1)) := by
  have n1 := isW_next hw hn hs
  have n2 := isW_next hw n1 h1
  have n3 := namedW_next hw n2 h2
  refine ⟨n3, fun h i hi => ?_⟩
  have q0 : isW ws n [116, 114, 117, 101] = false := isW_other hs (by decide)
  have q1 : isW ws n [102, 97, 108, 115, 101] = false := isW_other hs (by decide)
  have q2 : isW ws n [101, 108, 97, 112, 115, 101, 100] = false := isW_other hs (by decide)
  have q3 : isW ws n [99, 111, 117, 110, 116] = false := isW_other hs (by decide)
  have hlt := lt_of_box hi
  rw [PBi] at hi
  rw [Wd_fn rfl (show T.get 296 = some c296 by kernel_rfl)]
  simp only [c296, sT.1, sC.1, noApp, lookV, Nat.testBit, simprocAttr, -Int.reduceNatCast', at_ok hw hn, take_yes hw hn, take_no hw hn, hi, hs, q0, q1, q2, q3, hlt, PBi, ofPort_no3 hw n1, h1, h2, h3, fault_lower]
theorem asked_sum (hw : WF ws) (hn : n < ws.length) (hs : isW ws n [115, 117, 109] = true) (h1 : isW ws (n + 1) [40] = true) (h2 : namedW ws (n + 1 + 1) = true) (h3 : isW ws (n + 1 + 1 + 1) [41] = true) : PRun 296 ws n (.ok (.mk 9 0 (word ws (n + 1 + 1)).s [] []) (n + 1 + 1 + 1 + 1)) := by
  have n1 := isW_next hw hn hs
  have n2 := isW_next hw n1 h1
  have n3 := namedW_next hw n2 h2
  refine ⟨by omega, isW_next hw n3 h3, by simp [Exp.depth, depths], fun h i hi => ?_⟩
  have q0 : isW ws n [116, 114, 117, 101] = false := isW_other hs (by decide)
  have q1 : isW ws n [102, 97, 108, 115, 101] = false := isW_other hs (by decide)
  have q2 : isW ws n [101, 108, 97, 112, 115, 101, 100] = false := isW_other hs (by decide)
  have q3 : isW ws n [99, 111, 117, 110, 116] = false := isW_other hs (by decide)
  have q4 : isW ws n [104, 97, 115] = false := isW_other hs (by decide)
  have hlt := lt_of_box hi
  rw [PBi] at hi
  rw [Wd_fn rfl (show T.get 296 = some c296 by kernel_rfl)]
  simp only [c296, sT.1, sC.1, noApp, lookV, Nat.testBit, simprocAttr, -Int.reduceNatCast', at_ok hw hn, take_yes hw hn, take_no hw hn, hi, hs, q0, q1, q2, q3, q4, hlt, PBi, ofPort_yes hw n1, h1, h2, h3, fillS, make0, Nd.dimE, Nd.cellsE, Nd.cutE, Nd.dims, Nd.len, Nd.stor, Nd.lower, Nd.drainE]
theorem asked_sum1 (hw : WF ws) (hn : n < ws.length) (hs : isW ws n [115, 117, 109] = true) (h1 : isW ws (n + 1) [40] = false) : PRun 296 ws n (.no (word ws (n + 1)).pos 6 (n + 1)) := by
  have n1 := isW_next hw hn hs
  refine ⟨n1, fun h i hi => ?_⟩
  have q0 : isW ws n [116, 114, 117, 101] = false := isW_other hs (by decide)
  have q1 : isW ws n [102, 97, 108, 115, 101] = false := isW_other hs (by decide)
  have q2 : isW ws n [101, 108, 97, 112, 115, 101, 100] = false := isW_other hs (by decide)
  have q3 : isW ws n [99, 111, 117, 110, 116] = false := isW_other hs (by decide)
  have q4 : isW ws n [104, 97, 115] = false := isW_other hs (by decide)
  have hlt := lt_of_box hi
  rw [PBi] at hi
  rw [Wd_fn rfl (show T.get 296 = some c296 by kernel_rfl)]
  simp only [c296, sT.1, sC.1, noApp, lookV, Nat.testBit, simprocAttr, -Int.reduceNatCast', at_ok hw hn, take_yes hw hn, take_no hw hn, hi, hs, q0, q1, q2, q3, q4, hlt, PBi, ofPort_no1 hw n1, h1, fault_lower]
theorem asked_sum2 (hw : WF ws) (hn : n < ws.length) (hs : isW ws n [115, 117, 109] = true) (h1 : isW ws (n + 1) [40] = true) (h2 : namedW ws (n + 1 + 1) = false) : PRun 296 ws n (.no (word ws (n + 1 + 1)).pos 6 (n + 1 + 1)) := by
  have n1 := isW_next hw hn hs
  have n2 := isW_next hw n1 h1
  refine ⟨n2, fun h i hi => ?_⟩
  have q0 : isW ws n [116, 114, 117, 101] = false := isW_other hs (by decide)
  have q1 : isW ws n [102, 97, 108, 115, 101] = false := isW_other hs (by decide)
  have q2 : isW ws n [101, 108, 97, 112, 115, 101, 100] = false := isW_other hs (by decide)
  have q3 : isW ws n [99, 111, 117, 110, 116] = false := isW_other hs (by decide)
  have q4 : isW ws n [104, 97, 115] = false := isW_other hs (by decide)
  have hlt := lt_of_box hi
  rw [PBi] at hi
  rw [Wd_fn rfl (show T.get 296 = some c296 by kernel_rfl)]
  simp only [c296, sT.1, sC.1, noApp, lookV, Nat.testBit, simprocAttr, -Int.reduceNatCast', at_ok hw hn, take_yes hw hn, take_no hw hn, hi, hs, q0, q1, q2, q3, q4, hlt, PBi, ofPort_no2 hw n1, h1, h2, fault_lower]
theorem asked_sum3 (hw : WF ws) (hn : n < ws.length) (hs : isW ws n [115, 117, 109] = true) (h1 : isW ws (n + 1) [40] = true) (h2 : namedW ws (n + 1 + 1) = true) (h3 : isW ws (n + 1 + 1 + 1) [41] = false) : PRun 296 ws n (.no (word ws (n + 1 + 1 + 1)).pos 6 (n + 1 + 1 + 1)) := by
  have n1 := isW_next hw hn hs
  have n2 := isW_next hw n1 h1
  have n3 := namedW_next hw n2 h2
  refine ⟨n3, fun h i hi => ?_⟩
  have q0 : isW ws n [116, 114, 117, 101] = false := isW_other hs (by decide)
  have q1 : isW ws n [102, 97, 108, 115, 101] = false := isW_other hs (by decide)
  have q2 : isW ws n [101, 108, 97, 112, 115, 101, 100] = false := isW_other hs (by decide)
  have q3 : isW ws n [99, 111, 117, 110, 116] = false := isW_other hs (by decide)
  have q4 : isW ws n [104, 97, 115] = false := isW_other hs (by decide)
  have hlt := lt_of_box hi
  rw [PBi] at hi
  rw [Wd_fn rfl (show T.get 296 = some c296 by kernel_rfl)]
  simp only [c296, sT.1, sC.1, noApp, lookV, Nat.testBit, simprocAttr, -Int.reduceNatCast', at_ok hw hn, take_yes hw hn, take_no hw hn, hi, hs, q0, q1, q2, q3, q4, hlt, PBi, ofPort_no3 hw n1, h1, h2, h3, fault_lower]
theorem asked_none (hw : WF ws) (hn : n < ws.length) (q0 : isW ws n [116, 114, 117, 101] = false) (q1 : isW ws n [102, 97, 108, 115, 101] = false) (q2 : isW ws n [101, 108, 97, 112, 115, 101, 100] = false) (q3 : isW ws n [99, 111, 117, 110, 116] = false) (q4 : isW ws n [104, 97, 115] = false) (q5 : isW ws n [115, 117, 109] = false) (q6 : isW ws n [108, 101, 97, 115, 116] = false) : PRun 296 ws n (.no (word ws n).pos 6 n) := by
  refine ⟨hn, fun h i hi => ?_⟩
  have hbad := bad_ok hw hn hi
  have hlt := lt_of_box hi
  rw [PBi] at hi
  rw [Wd_fn rfl (show T.get 296 = some c296 by kernel_rfl)]
  simp only [c296, sT.1, sC.1, noApp, lookV, Nat.testBit, simprocAttr, -Int.reduceNatCast', at_ok hw hn, take_no hw hn, bad_ok hw hn, hi, q0, q1, q2, q3, q4, q5, q6, hlt, PBi, fault_lower]
  exact congrArg (fun x => some (_, x, false)) (PB_set (by rw [PBi]; exact hi)).symm
end
end Go.Proofs.YtlognicjhmcgjaaGreatDoor.AE
namespace Go.Proofs.YtlognicjhmcgjaaGreatDoor.AE
open Go.AE
theorem listN1 {z : List AVal} (x : Nd) (hz : z.length = 7) : listV 7 z 1 [(0, x.enc)] = some (.lst [x.enc] .full) := list_agg1 hz (by omega) x.len x.stor (by omega)
theorem listN2 {z : List AVal} (x y : Nd) (hz : z.length = 7) : listV 7 z 2 [(0, x.enc), (1, y.enc)] = some (.lst [x.enc, y.enc] .full) := list_agg2 hz (by omega) x.len x.stor y.len y.stor (by omega)
theorem listN3 {z : List AVal} (x y w : Nd) (hz : z.length = 7) : listV 7 z 3 [(0, x.enc), (1, y.enc), (2, w.enc)] = some (.lst [x.enc, y.enc, w.enc] .full) := list_agg3 hz (by omega) x.len x.stor y.len y.stor w.len w.stor (by omega)
def zero7 : ABox := .cells [.int .i64 0, .int .i64 0, .str [], .str [], .lst [] .full, .int .i64 0, .int .i64 0]
def NB (x : Nd) : ABox := .cells x.cs
theorem NBi (x : Nd) : NB x = .cells x.cs := Eq.trans rfl rfl
theorem zero7i : zero7 = .cells [.int .i64 0, .int .i64 0, .str [], .str [], .lst [] .full, .int .i64 0, .int .i64 0] := Eq.trans rfl rfl
theorem Nd.drop7 (x : Nd) : x.cs.drop 7 = [] := List.drop_eq_nil_of_le (by rw [Nd.len]; omega)
theorem Nd.cut6 (x : Nd) : x.cs[6]? = some (.int .i64 x.pos) := by
  obtain ⟨⟨op, k, name, sub, args⟩, pos⟩ := x
  rfl
section
variable {ws : List Tok} {h : List ABox}
structure Lies (h : List ABox) (i : Nat) (ws : List Tok) (n : Nat) (x : Nd) (H : List ABox) : Prop where
  lt : i < h.length
  len : h.length + 1 < H.length
  par : H[i]? = some (PB ws n)
  res : H[h.length]? = some zero7
  nod : H[h.length + 1]? = some (NB x)
  old : H.take h.length = h.set i (PB ws n)
theorem Lies.next {i n n' : Nat} {x x' : Nd} {H : List ABox} (hl : Lies h i ws n x H) (l : List ABox) : Lies h i ws n' x' ((H.set i (PB ws n')).set (h.length + 1) (NB x') ++ l) := by
  have h1 := hl.lt
  have h2 := hl.len
  refine ⟨hl.lt, by simp; omega, ?_, ?_, ?_, ?_⟩
  · rw [get_old (by simp; omega), get_set_ne (by omega), get_set (by omega)]
  · rw [get_old (by simp; omega), get_set_ne (by omega), get_set_ne (by omega), hl.res]
  · rw [get_old (by simp; omega), get_set (by simp; omega)]
  · rw [List.take_append_of_le_length (by simp; omega), List.take_set_of_le (by omega), List.take_set, hl.old, set_twice]
inductive Items (ws : List Tok) (pos : Int) : Exp → Nat → Out → Prop
  | stop {e n} : isW ws n [46] = false → Items ws pos e n (.ok e n)
  | bad {e n} : isW ws n [46] = true → (word ws (n + 1)).kind ≠ 1 → Items ws pos e n (.no (word ws (n + 1)).pos 6 (n + 1))
  | many {e n} : isW ws n [46] = true → (word ws (n + 1)).kind = 1 → 4 ≤ (word ws (n + 1)).n → Items ws pos e n (.no (word ws (n + 1)).pos 8 (n + 1))
  | deep {e n} : isW ws n [46] = true → (word ws (n + 1)).kind = 1 → (word ws (n + 1)).n < 4 → ¬ (Exp.mk 12 (word ws (n + 1)).n [] [] [e]).depth ≤ 20 → Items ws pos e n (.no pos 7 (n + 1 + 1))
  | go {e n o} : isW ws n [46] = true → (word ws (n + 1)).kind = 1 → (word ws (n + 1)).n < 4 → (Exp.mk 12 (word ws (n + 1)).n [] [] [e]).depth ≤ 20 → Items ws pos (.mk 12 (word ws (n + 1)).n [] [] [e]) (n + 1 + 1) o → Items ws pos e n o
def LoopR (h : List ABox) (i : Nat) (ws : List Tok) (pos : Int) (len : Nat) (r : Option (Ex × St)) : Out → Prop
  | .ok e n => n < ws.length ∧ e.depth ≤ 20 ∧ ∃ tt H, r = some (.exit 0, ⟨tt, H, false⟩) ∧ tt.length = len ∧ lkp tt 2 = .ptr h.length 0 ∧ lkp tt 3 = .ptr (h.length + 1) 0 ∧ Lies h i ws n ⟨e, pos⟩ H
  | .no p err n => n < ws.length ∧ ∃ tt H, r = some (.pan (fault p err), ⟨tt, H, false⟩) ∧ H.take h.length = h.set i (PB ws n)
theorem Lies.cut {i n n' : Nat} {x : Nd} {H : List ABox} (hl : Lies h i ws n x H) (l : List ABox) : (H.set i (PB ws n') ++ l).take h.length = h.set i (PB ws n') := by
  have h1 := hl.lt
  have h2 := hl.len
  rw [List.take_append_of_le_length (by simp; omega), List.take_set, hl.old, set_twice]
theorem item_loop (hw : WF ws) (i : Nat) (pos : Int) (e : Exp) (n : Nat) (o : Out) (hI : Items ws pos e n o) : ∀ (tt : List AVal) (H : List ABox), n < ws.length → e.depth ≤ 20 → tt.length = 40 → lkp tt 0 = .ptr i 0 → lkp tt 2 = .ptr h.length 0 → lkp tt 3 = .ptr (h.length + 1) 0 → Lies h i ws n ⟨e, pos⟩ H →
    LoopR h i ws pos 40 (execW h.length Wd (.loop l292_0) ⟨tt, H, false⟩) o := by
  induction hI with
  | @stop e n hs =>
    intro tt H hn hd ht e0 e2 e3 hL
    have hlt : i < H.length := by have := hL.lt; have := hL.len; omega
    have hp := hL.par
    rw [PBi] at hp
    rw [execW_loop]
    generalize he : execW h.length Wd l292_0 _ = r
    simp only [l292_0, sT.1, sC.1, noApp, lookV, Nat.testBit, simprocAttr, -Int.reduceNatCast', ht, e0, take_no hw hn, hp, hs, PBi] at he
    subst he
    exact ⟨hn, hd, _, _, rfl, by simp only [length_up, ht], by simp only [sT.1, sC.1, noApp, lookV, Nat.testBit, simprocAttr, -Int.reduceNatCast', e2], by simp only [sT.1, sC.1, noApp, lookV, Nat.testBit, simprocAttr, -Int.reduceNatCast', e3], hL⟩
  | @bad e n hs hk =>
    intro tt H hn hd ht e0 e2 e3 hL
    have n1 := isW_next hw hn hs
    have hlt : i < H.length := by have := hL.lt; have := hL.len; omega
    have hbH : Nat.ble h.length H.length = true := ble_true (by have := hL.len; omega)
    have hp := hL.par
    rw [PBi] at hp
    have hk' : ((word ws (n + 1)).kind == 1) = false := by simpa using hk
    rw [execW_loop]
    generalize he : execW h.length Wd l292_0 _ = r
    simp only [l292_0, sT.1, sC.1, noApp, lookV, Nat.testBit, simprocAttr, -Int.reduceNatCast', ht, e0, take_yes hw hn, hp, hs, PBi, word_ok hw n1, hlt, Tok.enc, hk', bad_ok hw n1, hbH] at he
    subst he
    exact ⟨n1, _, _, rfl, hL.cut _⟩
  | @many e n hs hk hm =>
    intro tt H hn hd ht e0 e2 e3 hL
    have n1 := isW_next hw hn hs
    have hlt : i < H.length := by have := hL.lt; have := hL.len; omega
    have hbH : Nat.ble h.length H.length = true := ble_true (by have := hL.len; omega)
    have hp := hL.par
    rw [PBi] at hp
    have hk' : ((word ws (n + 1)).kind == 1) = true := by simpa using hk
    have hm' : ile 4 (word ws (n + 1)).n = true := by rw [ile_eq]; simpa using hm
    rw [execW_loop]
    generalize he : execW h.length Wd l292_0 _ = r
    simp only [l292_0, sT.1, sC.1, noApp, lookV, Nat.testBit, simprocAttr, -Int.reduceNatCast', ht, e0, take_yes hw hn, hp, hs, PBi, word_ok hw n1, hlt, Tok.enc, hk', hm', fail_ok, hbH] at he
    subst he
    exact ⟨n1, _, _, rfl, hL.cut _⟩
  | @deep e n hs hk hm hdp =>
    intro tt H hn hd ht e0 e2 e3 hL
    have n1 := isW_next hw hn hs
    have n2 := hw.next n1 (by omega)
    have hlt : i < H.length := by have := hL.lt; have := hL.len; omega
    have hlb : h.length + 1 < H.length := hL.len
    have hib : i ≠ h.length + 1 := by have := hL.lt; omega
    have hbH : Nat.ble h.length H.length = true := ble_true (by have := hL.len; omega)
    have hp := hL.par
    have hnod := hL.nod
    rw [NBi] at hnod
    rw [PBi] at hp
    have hk' : ((word ws (n + 1)).kind == 1) = true := by simpa using hk
    have hm' : ile 4 (word ws (n + 1)).n = false := by rw [ile_eq]; simpa using hm
    have w := wrap_succ (n := n + 1) (by have := hw.len; omega)
    rw [execW_loop]
    generalize he : execW h.length Wd l292_0 _ = r
    simp only [l292_0, sT.1, sC.1, noApp, lookV, Nat.testBit, simprocAttr, -Int.reduceNatCast', ht, e0, e3, take_yes hw hn, hp, hs, PBi, word_ok hw n1, hlt, Tok.enc, hk', hm', hbH, hlb, hib, hnod, w, Nd.cut6, Nd.cutE, Nd.dimE, fillS, listN1, make1, hd, hdp] at he
    subst he
    exact ⟨n2, _, _, rfl, hL.cut _⟩
  | @go e n o hs hk hm hdp hI ih =>
    intro tt H hn hd ht e0 e2 e3 hL
    have n1 := isW_next hw hn hs
    have n2 := hw.next n1 (by omega)
    have hlt : i < H.length := by have := hL.lt; have := hL.len; omega
    have hlb : h.length + 1 < H.length := hL.len
    have hib : i ≠ h.length + 1 := by have := hL.lt; omega
    have hbH : Nat.ble h.length H.length = true := ble_true (by have := hL.len; omega)
    have hb1 : Nat.ble h.length (h.length + 1) = true := ble_true (by omega)
    have hp := hL.par
    have hnod := hL.nod
    rw [NBi] at hnod
    rw [PBi] at hp
    have hk' : ((word ws (n + 1)).kind == 1) = true := by simpa using hk
    have hm' : ile 4 (word ws (n + 1)).n = false := by rw [ile_eq]; simpa using hm
    have w := wrap_succ (n := n + 1) (by have := hw.len; omega)
    rw [execW_loop]
    generalize he : execW h.length Wd l292_0 _ = r
    simp only [l292_0, sT.1, sC.1, noApp, lookV, Nat.testBit, simprocAttr, -Int.reduceNatCast', ht, e0, e3, take_yes hw hn, hp, hs, PBi, word_ok hw n1, hlt, Tok.enc, hk', hm', hbH, hlb, hib, hnod, w, Nd.cut6, Nd.cutE, Nd.dimE, Nd.cellsE, Nd.dims, Nd.len, Nd.stor, Nd.drainE, Nd.drop7, fillS, listN1, make1, hd, hdp, hb1] at he
    subst he
    exact ih _ _ n2 hdp (by simp only [length_up, ht]) (by simp only [sT.1, sC.1, noApp, lookV, Nat.testBit, simprocAttr, -Int.reduceNatCast', e0]) (by simp only [sT.1, sC.1, noApp, lookV, Nat.testBit, simprocAttr, -Int.reduceNatCast', e2]) (by simp only [sT.1, sC.1, noApp, lookV, Nat.testBit, simprocAttr, -Int.reduceNatCast', e3]) (hL.next _)
theorem Lies.start {i n : Nat} {x : Nd} (hi : i < h.length) : Lies h i ws n x (h.set i (PB ws n) ++ [zero7, NB x]) := by
  refine ⟨hi, by simp, ?_, ?_, ?_, ?_⟩
  · rw [get_old (by simpa using hi), get_set hi]
  · rw [get_at2 (by simp)]; rfl
  · rw [List.getElem?_append_right (by simp)]; simp
  · rw [List.take_append_of_le_length (by simp), List.take_of_length_le (by simp)]
theorem Lies.answer {i n : Nat} {x : Nd} {H : List ABox} (hl : Lies h i ws n x H) : leave h.length (.ret x.enc) (H.set h.length (NB x)) false = (.ret x.enc, h.set i (PB ws n), false) :=
  leave_cut (by rw [List.take_set_of_le (by omega), hl.old]) (x.lower _)
theorem item_run (hw : WF ws) {n : Nat} (hn : n < ws.length) {e : Exp} {n1 : Nat} {o : Out} (h1 : PRun 293 ws n (.ok e n1)) (hI : Items ws (word ws n).pos e n1 o) (hmono : ∀ e' n', o = .ok e' n' → n1 ≤ n') : PRun 292 ws n o := by
  obtain ⟨g1, g2, g3, g4⟩ := h1
  have run : ∀ (h : List ABox) (i : Nat), h[i]? = some (PB ws n) → ∃ r, LoopR h i ws (word ws n).pos 40 r o ∧ Wd (.fn 292 [] []) [.ptr i 0] h = endR [.cell 2 (some 7)] h (thenW (execW h.length Wd (.seq (.reg [ao 39 (.ld (some 7) (.t 3)), an (.st (some 7) (.t 2) (.t 39))]) .ret)) (blockW 0 r)) := by
    intro h i hi
    have hlt := lt_of_box hi
    rw [PBi] at hi
    generalize hr : Wd (.fn 292 [] []) [.ptr i 0] h = R
    rw [Wd_fn rfl (show T.get 292 = some c292 by kernel_rfl)] at hr
    have hbl1 : Nat.ble h.length (h.length + 1) = true := ble_true (by omega)
    simp only [c292, sT.1, sC.1, noApp, lookV, Nat.testBit, simprocAttr, -Int.reduceNatCast', g4, hi, hlt, PBi, Nd.dimE, Nd.cellsE, Nd.cutE, Nd.dims, Nd.len, Nd.stor, Nd.drainE, hbl1] at hr
    generalize hq : execW h.length Wd (.loop l292_0) _ = r at hr
    refine ⟨r, ?_, ?_⟩
    · rw [← hq]
      exact item_loop hw i _ e n1 o hI _ _ g2 g3 (by simp only [sT.1, sC.1, noApp, lookV, Nat.testBit, simprocAttr, -Int.reduceNatCast']) (by simp only [sT.1, sC.1, noApp, lookV, Nat.testBit, simprocAttr, -Int.reduceNatCast']) (by simp only [sT.1, sC.1, noApp, lookV, Nat.testBit, simprocAttr, -Int.reduceNatCast']) (by simp only [sT.1, sC.1, noApp, lookV, Nat.testBit, simprocAttr, -Int.reduceNatCast']) (Lies.start hlt)
    · rw [← hr]
      simp only [sT.1, sC.1, noApp, lookV, Nat.testBit, simprocAttr, -Int.reduceNatCast']
  cases o with
  | ok e' n' =>
    have hm := hmono e' n' rfl
    obtain ⟨r, hL, _⟩ := run (List.replicate 1 (PB ws n)) 0 rfl
    refine ⟨by omega, hL.1, hL.2.1, fun h i hi => ?_⟩
    obtain ⟨r, ⟨q1, q2, tt, H, rfl, ht, e2, e3, hL⟩, hr⟩ := run h i hi
    have hnod := hL.nod
    have hres := hL.res
    have hlen := hL.len
    have hlen' : h.length < H.length := by omega
    rw [NBi] at hnod
    rw [zero7i] at hres
    rw [hr]
    simp only [sT.1, sC.1, noApp, lookV, Nat.testBit, simprocAttr, -Int.reduceNatCast', ht, e2, e3, hnod, hres, hlen', Nd.dimE, Nd.cellsE, Nd.cutE, Nd.dims, Nd.len, Nd.stor, Nd.drainE]
    exact congrArg some hL.answer
  | no pos err n' =>
    obtain ⟨r, hL, _⟩ := run (List.replicate 1 (PB ws n)) 0 rfl
    refine ⟨hL.1, fun h i hi => ?_⟩
    obtain ⟨r, ⟨q1, tt, H, rfl, q3⟩, hr⟩ := run h i hi
    rw [hr]
    simp only [sT.1, sC.1, noApp, lookV, Nat.testBit, simprocAttr, -Int.reduceNatCast']
    exact congrArg some (leave_cut_pan q3 (fault_lower _ _ _))
end
end Go.Proofs.YtlognicjhmcgjaaGreatDoor.AE
namespace Go.Proofs.YtlognicjhmcgjaaGreatDoor.AE
open Go.AE
inductive Tail (op : Nat → Option Int) (sub : Nat → Out → Prop) (pos : Int) : Exp → Nat → Out → Prop
  | stop {e n} : op n = none → Tail op sub pos e n (.ok e n)
  | bad {e n k p err m} : op n = some k → sub (n + 1) (.no p err m) → Tail op sub pos e n (.no p err m)
  | deep {e n k x n1} : op n = some k → sub (n + 1) (.ok x n1) → ¬ (Exp.mk k 0 [] [] [e, x]).depth ≤ 20 → Tail op sub pos e n (.no pos 7 n1)
  | go {e n k x n1 o} : op n = some k → sub (n + 1) (.ok x n1) → (Exp.mk k 0 [] [] [e, x]).depth ≤ 20 → Tail op sub pos (.mk k 0 [] [] [e, x]) n1 o → Tail op sub pos e n o
theorem Tail.mono {op : Nat → Option Int} {sub : Nat → Out → Prop} {pos : Int} (hs : ∀ n x m, sub n (.ok x m) → n < m) {e : Exp} {n : Nat} {o : Out} (h : Tail op sub pos e n o) : ∀ e' n', o = .ok e' n' → n ≤ n' := by
  induction h with
  | stop _ => intro e' n' h; cases h; exact Nat.le_refl _
  | bad _ _ => intro e' n' h; cases h
  | deep _ _ _ => intro e' n' h; cases h
  | go _ h1 _ _ ih => intro e' n' h; have := ih e' n' h; have := hs _ _ _ h1; omega
theorem Items.mono {ws : List Tok} {pos : Int} {e : Exp} {n : Nat} {o : Out} (h : Items ws pos e n o) : ∀ e' n', o = .ok e' n' → n ≤ n' := by
  induction h with
  | stop _ => intro e' n' h; cases h; exact Nat.le_refl _
  | bad _ _ => intro e' n' h; cases h
  | many _ _ _ => intro e' n' h; cases h
  | deep _ _ _ _ => intro e' n' h; cases h
  | go _ _ _ _ _ ih => intro e' n' h; have := ih e' n' h; omega
section
variable {ws : List Tok} {h : List ABox}
def LoopA (h : List ABox) (i : Nat) (ws : List Tok) (pos : Int) (len : Nat) (r : Option (Ex × St)) : Out → Prop
  | .ok e n => n < ws.length ∧ e.depth ≤ 20 ∧ ∃ tt H, r = some (.ret, ⟨tt, H.set h.length (NB ⟨e, pos⟩), false⟩) ∧ tt.length = len ∧ lkp tt 2 = .ptr h.length 0 ∧ Lies h i ws n ⟨e, pos⟩ H
  | .no p err n => n < ws.length ∧ ∃ tt H, r = some (.pan (fault p err), ⟨tt, H, false⟩) ∧ H.take h.length = h.set i (PB ws n)
theorem Lies.cut0 {i n n' : Nat} {x : Nd} {H : List ABox} (hl : Lies h i ws n x H) : (H.set i (PB ws n')).take h.length = h.set i (PB ws n') := by
  have := hl.cut (n' := n') []
  simpa using this
theorem Lies.next0 {i n n' : Nat} {x x' : Nd} {H : List ABox} (hl : Lies h i ws n x H) : Lies h i ws n' x' ((H.set i (PB ws n')).set (h.length + 1) (NB x')) := by
  have := hl.next (n' := n') (x' := x') []
  simpa using this
def prodOp (ws : List Tok) (n : Nat) : Option Int := if isW ws n [42] = true then some 17 else if isW ws n [47] = true then some 18 else if isW ws n [37] = true then some 19 else none
theorem prodOp_some {n : Nat} {k : Int} (h : prodOp ws n = some k) : (isW ws n [42] = true ∧ k = 17) ∨ (isW ws n [42] = false ∧ isW ws n [47] = true ∧ k = 18) ∨ (isW ws n [42] = false ∧ isW ws n [47] = false ∧ isW ws n [37] = true ∧ k = 19) := by
  simp only [prodOp] at h
  cases h0 : isW ws n [42] <;> cases h1 : isW ws n [47] <;> cases h2 : isW ws n [37] <;> simp_all
theorem prodOp_none {n : Nat} (h : prodOp ws n = none) : isW ws n [42] = false ∧ isW ws n [47] = false ∧ isW ws n [37] = false := by
  simp only [prodOp] at h
  cases h0 : isW ws n [42] <;> cases h1 : isW ws n [47] <;> cases h2 : isW ws n [37] <;> simp_all
theorem prod_loop (hw : WF ws) (i : Nat) (pos : Int) (e : Exp) (n : Nat) (o : Out) (hT : Tail (prodOp ws) (PRun 289 ws) pos e n o) : ∀ (tt : List AVal) (H : List ABox), n < ws.length → e.depth ≤ 20 → tt.length = 27 → lkp tt 0 = .ptr i 0 → lkp tt 2 = .ptr h.length 0 → lkp tt 3 = .ptr (h.length + 1) 0 → Lies h i ws n ⟨e, pos⟩ H →
    LoopA h i ws pos 27 (execW h.length Wd (.loop l283_0) ⟨tt, H, false⟩) o := by
  induction hT with
  | @stop e n hs =>
    intro tt H hn hd ht e0 e2 e3 hL
    have hlt : i < H.length := by have := hL.lt; have := hL.len; omega
    have hlb : h.length + 1 < H.length := hL.len
    have hl0 : h.length < H.length := by omega
    have hib : i ≠ h.length + 1 := by have := hL.lt; omega
    have hb1 : Nat.ble h.length (h.length + 1) = true := ble_true (by omega)
    have hp := hL.par
    have hnod := hL.nod
    have hres := hL.res
    rw [NBi] at hnod
    rw [PBi] at hp
    rw [zero7i] at hres
    obtain ⟨s1, s2, s3⟩ := prodOp_none hs
    rw [execW_loop]
    generalize he : execW h.length Wd l283_0 _ = r
    simp only [l283_0, sT.1, sC.1, noApp, lookV, Nat.testBit, simprocAttr, -Int.reduceNatCast', ht, e0, e2, e3, take_yes hw hn, take_no hw hn, hp, PBi, hlt, hlb, hib, hl0, hnod, hres, hb1, hd, Nd.cut6, Nd.cutE, Nd.dimE, Nd.cellsE, Nd.dims, Nd.len, Nd.stor, Nd.drainE, Nd.drop7, fillS, listN2, s1, s2, s3] at he
    subst he
    exact ⟨hn, hd, _, _, rfl, by simp only [length_up, ht], by simp only [sT.1, sC.1, noApp, lookV, Nat.testBit, simprocAttr, -Int.reduceNatCast', e2], hL⟩
  | @bad e n k p err m hs hx =>
    intro tt H hn hd ht e0 e2 e3 hL
    have hlt : i < H.length := by have := hL.lt; have := hL.len; omega
    have hlb : h.length + 1 < H.length := hL.len
    have hl0 : h.length < H.length := by omega
    have hib : i ≠ h.length + 1 := by have := hL.lt; omega
    have hb1 : Nat.ble h.length (h.length + 1) = true := ble_true (by omega)
    have hp := hL.par
    have hnod := hL.nod
    have hres := hL.res
    rw [NBi] at hnod
    rw [PBi] at hp
    rw [zero7i] at hres
    obtain ⟨x1, x2⟩ := hx
    rw [execW_loop]
    generalize he : execW h.length Wd l283_0 _ = r
    rcases prodOp_some hs with ⟨s1, rfl⟩ | ⟨s1, s2, rfl⟩ | ⟨s1, s2, s3, rfl⟩
    · simp only [l283_0, sT.1, sC.1, noApp, lookV, Nat.testBit, simprocAttr, -Int.reduceNatCast', ht, e0, e2, e3, take_yes hw hn, take_no hw hn, hp, PBi, hlt, hlb, hib, hl0, hnod, hres, hb1, hd, Nd.cut6, Nd.cutE, Nd.dimE, Nd.cellsE, Nd.dims, Nd.len, Nd.stor, Nd.drainE, Nd.drop7, fillS, listN2, s1, x2] at he
      subst he
      exact ⟨x1, _, _, rfl, hL.cut0⟩
    · simp only [l283_0, sT.1, sC.1, noApp, lookV, Nat.testBit, simprocAttr, -Int.reduceNatCast', ht, e0, e2, e3, take_yes hw hn, take_no hw hn, hp, PBi, hlt, hlb, hib, hl0, hnod, hres, hb1, hd, Nd.cut6, Nd.cutE, Nd.dimE, Nd.cellsE, Nd.dims, Nd.len, Nd.stor, Nd.drainE, Nd.drop7, fillS, listN2, s1, s2, x2] at he
      subst he
      exact ⟨x1, _, _, rfl, hL.cut0⟩
    · simp only [l283_0, sT.1, sC.1, noApp, lookV, Nat.testBit, simprocAttr, -Int.reduceNatCast', ht, e0, e2, e3, take_yes hw hn, take_no hw hn, hp, PBi, hlt, hlb, hib, hl0, hnod, hres, hb1, hd, Nd.cut6, Nd.cutE, Nd.dimE, Nd.cellsE, Nd.dims, Nd.len, Nd.stor, Nd.drainE, Nd.drop7, fillS, listN2, s1, s2, s3, x2] at he
      subst he
      exact ⟨x1, _, _, rfl, hL.cut0⟩
  | @deep e n k x n1 hs hx hdp =>
    intro tt H hn hd ht e0 e2 e3 hL
    have hlt : i < H.length := by have := hL.lt; have := hL.len; omega
    have hlb : h.length + 1 < H.length := hL.len
    have hl0 : h.length < H.length := by omega
    have hib : i ≠ h.length + 1 := by have := hL.lt; omega
    have hb1 : Nat.ble h.length (h.length + 1) = true := ble_true (by omega)
    have hp := hL.par
    have hnod := hL.nod
    have hres := hL.res
    rw [NBi] at hnod
    rw [PBi] at hp
    rw [zero7i] at hres
    obtain ⟨x1, x2, x3, x4⟩ := hx
    rw [execW_loop]
    generalize he : execW h.length Wd l283_0 _ = r
    rcases prodOp_some hs with ⟨s1, rfl⟩ | ⟨s1, s2, rfl⟩ | ⟨s1, s2, s3, rfl⟩
    · simp only [l283_0, sT.1, sC.1, noApp, lookV, Nat.testBit, simprocAttr, -Int.reduceNatCast', ht, e0, e2, e3, take_yes hw hn, take_no hw hn, hp, PBi, hlt, hlb, hib, hl0, hnod, hres, hb1, hd, Nd.cut6, Nd.cutE, Nd.dimE, Nd.cellsE, Nd.dims, Nd.len, Nd.stor, Nd.drainE, Nd.drop7, fillS, listN2, s1, x4, x3, make2, hdp] at he
      subst he
      exact ⟨x2, _, _, rfl, hL.cut0⟩
    · simp only [l283_0, sT.1, sC.1, noApp, lookV, Nat.testBit, simprocAttr, -Int.reduceNatCast', ht, e0, e2, e3, take_yes hw hn, take_no hw hn, hp, PBi, hlt, hlb, hib, hl0, hnod, hres, hb1, hd, Nd.cut6, Nd.cutE, Nd.dimE, Nd.cellsE, Nd.dims, Nd.len, Nd.stor, Nd.drainE, Nd.drop7, fillS, listN2, s1, s2, x4, x3, make2, hdp] at he
      subst he
      exact ⟨x2, _, _, rfl, hL.cut0⟩
    · simp only [l283_0, sT.1, sC.1, noApp, lookV, Nat.testBit, simprocAttr, -Int.reduceNatCast', ht, e0, e2, e3, take_yes hw hn, take_no hw hn, hp, PBi, hlt, hlb, hib, hl0, hnod, hres, hb1, hd, Nd.cut6, Nd.cutE, Nd.dimE, Nd.cellsE, Nd.dims, Nd.len, Nd.stor, Nd.drainE, Nd.drop7, fillS, listN2, s1, s2, s3, x4, x3, make2, hdp] at he
      subst he
      exact ⟨x2, _, _, rfl, hL.cut0⟩
  | @go e n k x n1 o hs hx hdp _ ih =>
    intro tt H hn hd ht e0 e2 e3 hL
    have hlt : i < H.length := by have := hL.lt; have := hL.len; omega
    have hlb : h.length + 1 < H.length := hL.len
    have hl0 : h.length < H.length := by omega
    have hib : i ≠ h.length + 1 := by have := hL.lt; omega
    have hb1 : Nat.ble h.length (h.length + 1) = true := ble_true (by omega)
    have hp := hL.par
    have hnod := hL.nod
    have hres := hL.res
    rw [NBi] at hnod
    rw [PBi] at hp
    rw [zero7i] at hres
    obtain ⟨x1, x2, x3, x4⟩ := hx
    rw [execW_loop]
    generalize he : execW h.length Wd l283_0 _ = r
    rcases prodOp_some hs with ⟨s1, rfl⟩ | ⟨s1, s2, rfl⟩ | ⟨s1, s2, s3, rfl⟩
    · simp only [l283_0, sT.1, sC.1, noApp, lookV, Nat.testBit, simprocAttr, -Int.reduceNatCast', ht, e0, e2, e3, take_yes hw hn, take_no hw hn, hp, PBi, hlt, hlb, hib, hl0, hnod, hres, hb1, hd, Nd.cut6, Nd.cutE, Nd.dimE, Nd.cellsE, Nd.dims, Nd.len, Nd.stor, Nd.drainE, Nd.drop7, fillS, listN2, s1, x4, x3, make2, hdp] at he
      subst he
      exact ih _ _ x2 hdp (by simp only [length_up, ht]) (by simp only [sT.1, sC.1, noApp, lookV, Nat.testBit, simprocAttr, -Int.reduceNatCast', ht, e0]) (by simp only [sT.1, sC.1, noApp, lookV, Nat.testBit, simprocAttr, -Int.reduceNatCast', ht, e2]) (by simp only [sT.1, sC.1, noApp, lookV, Nat.testBit, simprocAttr, -Int.reduceNatCast', ht, e3]) hL.next0
    · simp only [l283_0, sT.1, sC.1, noApp, lookV, Nat.testBit, simprocAttr, -Int.reduceNatCast', ht, e0, e2, e3, take_yes hw hn, take_no hw hn, hp, PBi, hlt, hlb, hib, hl0, hnod, hres, hb1, hd, Nd.cut6, Nd.cutE, Nd.dimE, Nd.cellsE, Nd.dims, Nd.len, Nd.stor, Nd.drainE, Nd.drop7, fillS, listN2, s1, s2, x4, x3, make2, hdp] at he
      subst he
      exact ih _ _ x2 hdp (by simp only [length_up, ht]) (by simp only [sT.1, sC.1, noApp, lookV, Nat.testBit, simprocAttr, -Int.reduceNatCast', ht, e0]) (by simp only [sT.1, sC.1, noApp, lookV, Nat.testBit, simprocAttr, -Int.reduceNatCast', ht, e2]) (by simp only [sT.1, sC.1, noApp, lookV, Nat.testBit, simprocAttr, -Int.reduceNatCast', ht, e3]) hL.next0
    · simp only [l283_0, sT.1, sC.1, noApp, lookV, Nat.testBit, simprocAttr, -Int.reduceNatCast', ht, e0, e2, e3, take_yes hw hn, take_no hw hn, hp, PBi, hlt, hlb, hib, hl0, hnod, hres, hb1, hd, Nd.cut6, Nd.cutE, Nd.dimE, Nd.cellsE, Nd.dims, Nd.len, Nd.stor, Nd.drainE, Nd.drop7, fillS, listN2, s1, s2, s3, x4, x3, make2, hdp] at he
      subst he
      exact ih _ _ x2 hdp (by simp only [length_up, ht]) (by simp only [sT.1, sC.1, noApp, lookV, Nat.testBit, simprocAttr, -Int.reduceNatCast', ht, e0]) (by simp only [sT.1, sC.1, noApp, lookV, Nat.testBit, simprocAttr, -Int.reduceNatCast', ht, e2]) (by simp only [sT.1, sC.1, noApp, lookV, Nat.testBit, simprocAttr, -Int.reduceNatCast', ht, e3]) hL.next0
theorem prod_no (hw : WF ws) {n : Nat} (hn : n < ws.length) {p err : Int} {m : Nat} (h1 : PRun 289 ws n (.no p err m)) : PRun 283 ws n (.no p err m) := by
  obtain ⟨g1, g2⟩ := h1
  refine ⟨g1, fun h i hi => ?_⟩
  have hlt := lt_of_box hi
  rw [PBi] at hi
  rw [Wd_fn rfl (show T.get 283 = some c283 by kernel_rfl)]
  simp only [c283, sT.1, sC.1, noApp, lookV, Nat.testBit, simprocAttr, -Int.reduceNatCast', g2, hi, hlt, PBi, fault_lower]
theorem prod_run (hw : WF ws) {n : Nat} (hn : n < ws.length) {e : Exp} {n1 : Nat} {o : Out} (h1 : PRun 289 ws n (.ok e n1)) (hT : Tail (prodOp ws) (PRun 289 ws) (word ws n).pos e n1 o) : PRun 283 ws n o := by
  obtain ⟨g1, g2, g3, g4⟩ := h1
  have hmono := hT.mono (fun n x m h => h.1)
  have run : ∀ (h : List ABox) (i : Nat), h[i]? = some (PB ws n) → ∃ r, LoopA h i ws (word ws n).pos 27 r o ∧ Wd (.fn 283 [] []) [.ptr i 0] h = endR [.cell 2 (some 7)] h (blockW 0 r) := by
    intro h i hi
    have hlt := lt_of_box hi
    rw [PBi] at hi
    generalize hr : Wd (.fn 283 [] []) [.ptr i 0] h = R
    rw [Wd_fn rfl (show T.get 283 = some c283 by kernel_rfl)] at hr
    have hbl1 : Nat.ble h.length (h.length + 1) = true := ble_true (by omega)
    simp only [c283, sT.1, sC.1, noApp, lookV, Nat.testBit, simprocAttr, -Int.reduceNatCast', g4, hi, hlt, PBi, Nd.dimE, Nd.cellsE, Nd.cutE, Nd.dims, Nd.len, Nd.stor, Nd.drainE, hbl1] at hr
    generalize hq : execW h.length Wd (.loop l283_0) _ = r at hr
    refine ⟨r, ?_, ?_⟩
    · rw [← hq]
      exact prod_loop hw i _ e n1 o hT _ _ g2 g3 (by simp only [sT.1, sC.1, noApp, lookV, Nat.testBit, simprocAttr, -Int.reduceNatCast']) (by simp only [sT.1, sC.1, noApp, lookV, Nat.testBit, simprocAttr, -Int.reduceNatCast']) (by simp only [sT.1, sC.1, noApp, lookV, Nat.testBit, simprocAttr, -Int.reduceNatCast']) (by simp only [sT.1, sC.1, noApp, lookV, Nat.testBit, simprocAttr, -Int.reduceNatCast']) (Lies.start hlt)
    · rw [← hr]
  cases o with
  | ok e' n' =>
    have hm := hmono e' n' rfl
    obtain ⟨r, hL, _⟩ := run (List.replicate 1 (PB ws n)) 0 rfl
    refine ⟨by omega, hL.1, hL.2.1, fun h i hi => ?_⟩
    obtain ⟨r, ⟨q1, q2, tt, H, rfl, ht, e2, hL⟩, hr⟩ := run h i hi
    have hnod := hL.nod
    have hres := hL.res
    have hlen := hL.len
    have hlen' : h.length < H.length := by omega
    rw [NBi] at hnod
    rw [zero7i] at hres
    rw [hr]
    simp only [sT.1, sC.1, noApp, lookV, Nat.testBit, simprocAttr, -Int.reduceNatCast', ht, e2, hlen', Nd.cutE, NBi]
    exact congrArg some hL.answer
  | no pos err n' =>
    obtain ⟨r, hL, _⟩ := run (List.replicate 1 (PB ws n)) 0 rfl
    refine ⟨hL.1, fun h i hi => ?_⟩
    obtain ⟨r, ⟨q1, tt, H, rfl, q3⟩, hr⟩ := run h i hi
    rw [hr]
    simp only [sT.1, sC.1, noApp, lookV, Nat.testBit, simprocAttr, -Int.reduceNatCast']
    exact congrArg some (leave_cut_pan q3 (fault_lower _ _ _))
def sumOp (ws : List Tok) (n : Nat) : Option Int := if isW ws n [43] = true then some 15 else if isW ws n [45] = true then some 16 else none
theorem sumOp_some {n : Nat} {k : Int} (h : sumOp ws n = some k) : (isW ws n [43] = true ∧ k = 15) ∨ (isW ws n [43] = false ∧ isW ws n [45] = true ∧ k = 16) := by
  simp only [sumOp] at h
  cases h0 : isW ws n [43] <;> cases h1 : isW ws n [45] <;> simp_all
theorem sumOp_none {n : Nat} (h : sumOp ws n = none) : isW ws n [43] = false ∧ isW ws n [45] = false := by
  simp only [sumOp] at h
  cases h0 : isW ws n [43] <;> cases h1 : isW ws n [45] <;> simp_all
theorem sum_loop (hw : WF ws) (i : Nat) (pos : Int) (e : Exp) (n : Nat) (o : Out) (hT : Tail (sumOp ws) (PRun 283 ws) pos e n o) : ∀ (tt : List AVal) (H : List ABox), n < ws.length → e.depth ≤ 20 → tt.length = 24 → lkp tt 0 = .ptr i 0 → lkp tt 2 = .ptr h.length 0 → lkp tt 3 = .ptr (h.length + 1) 0 → Lies h i ws n ⟨e, pos⟩ H →
    LoopA h i ws pos 24 (execW h.length Wd (.loop l272_0) ⟨tt, H, false⟩) o := by
  induction hT with
  | @stop e n hs =>
    intro tt H hn hd ht e0 e2 e3 hL
    have hlt : i < H.length := by have := hL.lt; have := hL.len; omega
    have hlb : h.length + 1 < H.length := hL.len
    have hl0 : h.length < H.length := by omega
    have hib : i ≠ h.length + 1 := by have := hL.lt; omega
    have hb1 : Nat.ble h.length (h.length + 1) = true := ble_true (by omega)
    have hp := hL.par
    have hnod := hL.nod
    have hres := hL.res
    rw [NBi] at hnod
    rw [PBi] at hp
    rw [zero7i] at hres
    obtain ⟨s1, s2⟩ := sumOp_none hs
    rw [execW_loop]
    generalize he : execW h.length Wd l272_0 _ = r
    simp only [l272_0, sT.1, sC.1, noApp, lookV, Nat.testBit, simprocAttr, -Int.reduceNatCast', ht, e0, e2, e3, take_yes hw hn, take_no hw hn, hp, PBi, hlt, hlb, hib, hl0, hnod, hres, hb1, hd, Nd.cut6, Nd.cutE, Nd.dimE, Nd.cellsE, Nd.dims, Nd.len, Nd.stor, Nd.drainE, Nd.drop7, fillS, listN2, s1, s2] at he
    subst he
    exact ⟨hn, hd, _, _, rfl, by simp only [length_up, ht], by simp only [sT.1, sC.1, noApp, lookV, Nat.testBit, simprocAttr, -Int.reduceNatCast', e2], hL⟩
  | @bad e n k p err m hs hx =>
    intro tt H hn hd ht e0 e2 e3 hL
    have hlt : i < H.length := by have := hL.lt; have := hL.len; omega
    have hlb : h.length + 1 < H.length := hL.len
    have hl0 : h.length < H.length := by omega
    have hib : i ≠ h.length + 1 := by have := hL.lt; omega
    have hb1 : Nat.ble h.length (h.length + 1) = true := ble_true (by omega)
    have hp := hL.par
    have hnod := hL.nod
    have hres := hL.res
    rw [NBi] at hnod
    rw [PBi] at hp
    rw [zero7i] at hres
    obtain ⟨x1, x2⟩ := hx
    rw [execW_loop]
    generalize he : execW h.length Wd l272_0 _ = r
    rcases sumOp_some hs with ⟨s1, rfl⟩ | ⟨s1, s2, rfl⟩
    · simp only [l272_0, sT.1, sC.1, noApp, lookV, Nat.testBit, simprocAttr, -Int.reduceNatCast', ht, e0, e2, e3, take_yes hw hn, take_no hw hn, hp, PBi, hlt, hlb, hib, hl0, hnod, hres, hb1, hd, Nd.cut6, Nd.cutE, Nd.dimE, Nd.cellsE, Nd.dims, Nd.len, Nd.stor, Nd.drainE, Nd.drop7, fillS, listN2, s1, x2] at he
      subst he
      exact ⟨x1, _, _, rfl, hL.cut0⟩
    · simp only [l272_0, sT.1, sC.1, noApp, lookV, Nat.testBit, simprocAttr, -Int.reduceNatCast', ht, e0, e2, e3, take_yes hw hn, take_no hw hn, hp, PBi, hlt, hlb, hib, hl0, hnod, hres, hb1, hd, Nd.cut6, Nd.cutE, Nd.dimE, Nd.cellsE, Nd.dims, Nd.len, Nd.stor, Nd.drainE, Nd.drop7, fillS, listN2, s1, s2, x2] at he
      subst he
      exact ⟨x1, _, _, rfl, hL.cut0⟩
  | @deep e n k x n1 hs hx hdp =>
    intro tt H hn hd ht e0 e2 e3 hL
    have hlt : i < H.length := by have := hL.lt; have := hL.len; omega
    have hlb : h.length + 1 < H.length := hL.len
    have hl0 : h.length < H.length := by omega
    have hib : i ≠ h.length + 1 := by have := hL.lt; omega
    have hb1 : Nat.ble h.length (h.length + 1) = true := ble_true (by omega)
    have hp := hL.par
    have hnod := hL.nod
    have hres := hL.res
    rw [NBi] at hnod
    rw [PBi] at hp
    rw [zero7i] at hres
    obtain ⟨x1, x2, x3, x4⟩ := hx
    rw [execW_loop]
    generalize he : execW h.length Wd l272_0 _ = r
    rcases sumOp_some hs with ⟨s1, rfl⟩ | ⟨s1, s2, rfl⟩
    · simp only [l272_0, sT.1, sC.1, noApp, lookV, Nat.testBit, simprocAttr, -Int.reduceNatCast', ht, e0, e2, e3, take_yes hw hn, take_no hw hn, hp, PBi, hlt, hlb, hib, hl0, hnod, hres, hb1, hd, Nd.cut6, Nd.cutE, Nd.dimE, Nd.cellsE, Nd.dims, Nd.len, Nd.stor, Nd.drainE, Nd.drop7, fillS, listN2, s1, x4, x3, make2, hdp] at he
      subst he
      exact ⟨x2, _, _, rfl, hL.cut0⟩
    · simp only [l272_0, sT.1, sC.1, noApp, lookV, Nat.testBit, simprocAttr, -Int.reduceNatCast', ht, e0, e2, e3, take_yes hw hn, take_no hw hn, hp, PBi, hlt, hlb, hib, hl0, hnod, hres, hb1, hd, Nd.cut6, Nd.cutE, Nd.dimE, Nd.cellsE, Nd.dims, Nd.len, Nd.stor, Nd.drainE, Nd.drop7, fillS, listN2, s1, s2, x4, x3, make2, hdp] at he
      subst he
      exact ⟨x2, _, _, rfl, hL.cut0⟩
  | @go e n k x n1 o hs hx hdp _ ih =>
    intro tt H hn hd ht e0 e2 e3 hL
    have hlt : i < H.length := by have := hL.lt; have := hL.len; omega
    have hlb : h.length + 1 < H.length := hL.len
    have hl0 : h.length < H.length := by omega
    have hib : i ≠ h.length + 1 := by have := hL.lt; omega
    have hb1 : Nat.ble h.length (h.length + 1) = true := ble_true (by omega)
    have hp := hL.par
    have hnod := hL.nod
    have hres := hL.res
    rw [NBi] at hnod
    rw [PBi] at hp
    rw [zero7i] at hres
    obtain ⟨x1, x2, x3, x4⟩ := hx
    rw [execW_loop]
    generalize he : execW h.length Wd l272_0 _ = r
    rcases sumOp_some hs with ⟨s1, rfl⟩ | ⟨s1, s2, rfl⟩
    · simp only [l272_0, sT.1, sC.1, noApp, lookV, Nat.testBit, simprocAttr, -Int.reduceNatCast', ht, e0, e2, e3, take_yes hw hn, take_no hw hn, hp, PBi, hlt, hlb, hib, hl0, hnod, hres, hb1, hd, Nd.cut6, Nd.cutE, Nd.dimE, Nd.cellsE, Nd.dims, Nd.len, Nd.stor, Nd.drainE, Nd.drop7, fillS, listN2, s1, x4, x3, make2, hdp] at he
      subst he
      exact ih _ _ x2 hdp (by simp only [length_up, ht]) (by simp only [sT.1, sC.1, noApp, lookV, Nat.testBit, simprocAttr, -Int.reduceNatCast', ht, e0]) (by simp only [sT.1, sC.1, noApp, lookV, Nat.testBit, simprocAttr, -Int.reduceNatCast', ht, e2]) (by simp only [sT.1, sC.1, noApp, lookV, Nat.testBit, simprocAttr, -Int.reduceNatCast', ht, e3]) hL.next0
    · simp only [l272_0, sT.1, sC.1, noApp, lookV, Nat.testBit, simprocAttr, -Int.reduceNatCast', ht, e0, e2, e3, take_yes hw hn, take_no hw hn, hp, PBi, hlt, hlb, hib, hl0, hnod, hres, hb1, hd, Nd.cut6, Nd.cutE, Nd.dimE, Nd.cellsE, Nd.dims, Nd.len, Nd.stor, Nd.drainE, Nd.drop7, fillS, listN2, s1, s2, x4, x3, make2, hdp] at he
      subst he
      exact ih _ _ x2 hdp (by simp only [length_up, ht]) (by simp only [sT.1, sC.1, noApp, lookV, Nat.testBit, simprocAttr, -Int.reduceNatCast', ht, e0]) (by simp only [sT.1, sC.1, noApp, lookV, Nat.testBit, simprocAttr, -Int.reduceNatCast', ht, e2]) (by simp only [sT.1, sC.1, noApp, lookV, Nat.testBit, simprocAttr, -Int.reduceNatCast', ht, e3]) hL.next0
theorem sum_no (hw : WF ws) {n : Nat} (hn : n < ws.length) {p err : Int} {m : Nat} (h1 : PRun 283 ws n (.no p err m)) : PRun 272 ws n (.no p err m) := by
  obtain ⟨g1, g2⟩ := h1
  refine ⟨g1, fun h i hi => ?_⟩
  have hlt := lt_of_box hi
  rw [PBi] at hi
  rw [Wd_fn rfl (show T.get 272 = some c272 by kernel_rfl)]
  simp only [c272, sT.1, sC.1, noApp, lookV, Nat.testBit, simprocAttr, -Int.reduceNatCast', g2, hi, hlt, PBi, fault_lower]
theorem sum_run (hw : WF ws) {n : Nat} (hn : n < ws.length) {e : Exp} {n1 : Nat} {o : Out} (h1 : PRun 283 ws n (.ok e n1)) (hT : Tail (sumOp ws) (PRun 283 ws) (word ws n).pos e n1 o) : PRun 272 ws n o := by
  obtain ⟨g1, g2, g3, g4⟩ := h1
  have hmono := hT.mono (fun n x m h => h.1)
  have run : ∀ (h : List ABox) (i : Nat), h[i]? = some (PB ws n) → ∃ r, LoopA h i ws (word ws n).pos 24 r o ∧ Wd (.fn 272 [] []) [.ptr i 0] h = endR [.cell 2 (some 7)] h (blockW 0 r) := by
    intro h i hi
    have hlt := lt_of_box hi
    rw [PBi] at hi
    generalize hr : Wd (.fn 272 [] []) [.ptr i 0] h = R
    rw [Wd_fn rfl (show T.get 272 = some c272 by kernel_rfl)] at hr
    have hbl1 : Nat.ble h.length (h.length + 1) = true := ble_true (by omega)
    simp only [c272, sT.1, sC.1, noApp, lookV, Nat.testBit, simprocAttr, -Int.reduceNatCast', g4, hi, hlt, PBi, Nd.dimE, Nd.cellsE, Nd.cutE, Nd.dims, Nd.len, Nd.stor, Nd.drainE, hbl1] at hr
    generalize hq : execW h.length Wd (.loop l272_0) _ = r at hr
    refine ⟨r, ?_, ?_⟩
    · rw [← hq]
      exact sum_loop hw i _ e n1 o hT _ _ g2 g3 (by simp only [sT.1, sC.1, noApp, lookV, Nat.testBit, simprocAttr, -Int.reduceNatCast']) (by simp only [sT.1, sC.1, noApp, lookV, Nat.testBit, simprocAttr, -Int.reduceNatCast']) (by simp only [sT.1, sC.1, noApp, lookV, Nat.testBit, simprocAttr, -Int.reduceNatCast']) (by simp only [sT.1, sC.1, noApp, lookV, Nat.testBit, simprocAttr, -Int.reduceNatCast']) (Lies.start hlt)
    · rw [← hr]
  cases o with
  | ok e' n' =>
    have hm := hmono e' n' rfl
    obtain ⟨r, hL, _⟩ := run (List.replicate 1 (PB ws n)) 0 rfl
    refine ⟨by omega, hL.1, hL.2.1, fun h i hi => ?_⟩
    obtain ⟨r, ⟨q1, q2, tt, H, rfl, ht, e2, hL⟩, hr⟩ := run h i hi
    have hnod := hL.nod
    have hres := hL.res
    have hlen := hL.len
    have hlen' : h.length < H.length := by omega
    rw [NBi] at hnod
    rw [zero7i] at hres
    rw [hr]
    simp only [sT.1, sC.1, noApp, lookV, Nat.testBit, simprocAttr, -Int.reduceNatCast', ht, e2, hlen', Nd.cutE, NBi]
    exact congrArg some hL.answer
  | no pos err n' =>
    obtain ⟨r, hL, _⟩ := run (List.replicate 1 (PB ws n)) 0 rfl
    refine ⟨hL.1, fun h i hi => ?_⟩
    obtain ⟨r, ⟨q1, tt, H, rfl, q3⟩, hr⟩ := run h i hi
    rw [hr]
    simp only [sT.1, sC.1, noApp, lookV, Nat.testBit, simprocAttr, -Int.reduceNatCast']
    exact congrArg some (leave_cut_pan q3 (fault_lower _ _ _))
def andOp (ws : List Tok) (n : Nat) : Option Int := if isW ws n [97, 110, 100] = true then some 23 else none
theorem andOp_some {n : Nat} {k : Int} (h : andOp ws n = some k) : (isW ws n [97, 110, 100] = true ∧ k = 23) := by
  simp only [andOp] at h
  cases h0 : isW ws n [97, 110, 100] <;> simp_all
theorem andOp_none {n : Nat} (h : andOp ws n = none) : isW ws n [97, 110, 100] = false := by
  simp only [andOp] at h
  cases h0 : isW ws n [97, 110, 100] <;> simp_all
theorem and_loop (hw : WF ws) (i : Nat) (pos : Int) (e : Exp) (n : Nat) (o : Out) (hT : Tail (andOp ws) (PRun 230 ws) pos e n o) : ∀ (tt : List AVal) (H : List ABox), n < ws.length → e.depth ≤ 20 → tt.length = 18 → lkp tt 0 = .ptr i 0 → lkp tt 2 = .ptr h.length 0 → lkp tt 3 = .ptr (h.length + 1) 0 → Lies h i ws n ⟨e, pos⟩ H →
    LoopR h i ws pos 18 (execW h.length Wd (.loop l180_0) ⟨tt, H, false⟩) o := by
  induction hT with
  | @stop e n hs =>
    intro tt H hn hd ht e0 e2 e3 hL
    have hlt : i < H.length := by have := hL.lt; have := hL.len; omega
    have hlb : h.length + 1 < H.length := hL.len
    have hl0 : h.length < H.length := by omega
    have hib : i ≠ h.length + 1 := by have := hL.lt; omega
    have hb1 : Nat.ble h.length (h.length + 1) = true := ble_true (by omega)
    have hp := hL.par
    have hnod := hL.nod
    have hres := hL.res
    rw [NBi] at hnod
    rw [PBi] at hp
    rw [zero7i] at hres
    have s1 := andOp_none hs
    rw [execW_loop]
    generalize he : execW h.length Wd l180_0 _ = r
    simp only [l180_0, sT.1, sC.1, noApp, lookV, Nat.testBit, simprocAttr, -Int.reduceNatCast', ht, e0, e2, e3, take_yes hw hn, take_no hw hn, hp, PBi, hlt, hlb, hib, hl0, hnod, hres, hb1, hd, Nd.cut6, Nd.cutE, Nd.dimE, Nd.cellsE, Nd.dims, Nd.len, Nd.stor, Nd.drainE, Nd.drop7, fillS, listN2, s1] at he
    subst he
    exact ⟨hn, hd, _, _, rfl, by simp only [length_up, ht], by simp only [sT.1, sC.1, noApp, lookV, Nat.testBit, simprocAttr, -Int.reduceNatCast', e2], by simp only [sT.1, sC.1, noApp, lookV, Nat.testBit, simprocAttr, -Int.reduceNatCast', e3], hL⟩
  | @bad e n k p err m hs hx =>
    intro tt H hn hd ht e0 e2 e3 hL
    have hlt : i < H.length := by have := hL.lt; have := hL.len; omega
    have hlb : h.length + 1 < H.length := hL.len
    have hl0 : h.length < H.length := by omega
    have hib : i ≠ h.length + 1 := by have := hL.lt; omega
    have hb1 : Nat.ble h.length (h.length + 1) = true := ble_true (by omega)
    have hp := hL.par
    have hnod := hL.nod
    have hres := hL.res
    rw [NBi] at hnod
    rw [PBi] at hp
    rw [zero7i] at hres
    obtain ⟨x1, x2⟩ := hx
    rw [execW_loop]
    generalize he : execW h.length Wd l180_0 _ = r
    obtain ⟨s1, rfl⟩ := andOp_some hs
    · simp only [l180_0, sT.1, sC.1, noApp, lookV, Nat.testBit, simprocAttr, -Int.reduceNatCast', ht, e0, e2, e3, take_yes hw hn, take_no hw hn, hp, PBi, hlt, hlb, hib, hl0, hnod, hres, hb1, hd, Nd.cut6, Nd.cutE, Nd.dimE, Nd.cellsE, Nd.dims, Nd.len, Nd.stor, Nd.drainE, Nd.drop7, fillS, listN2, s1, x2] at he
      subst he
      exact ⟨x1, _, _, rfl, hL.cut0⟩
  | @deep e n k x n1 hs hx hdp =>
    intro tt H hn hd ht e0 e2 e3 hL
    have hlt : i < H.length := by have := hL.lt; have := hL.len; omega
    have hlb : h.length + 1 < H.length := hL.len
    have hl0 : h.length < H.length := by omega
    have hib : i ≠ h.length + 1 := by have := hL.lt; omega
    have hb1 : Nat.ble h.length (h.length + 1) = true := ble_true (by omega)
    have hp := hL.par
    have hnod := hL.nod
    have hres := hL.res
    rw [NBi] at hnod
    rw [PBi] at hp
    rw [zero7i] at hres
    obtain ⟨x1, x2, x3, x4⟩ := hx
    rw [execW_loop]
    generalize he : execW h.length Wd l180_0 _ = r
    obtain ⟨s1, rfl⟩ := andOp_some hs
    · simp only [l180_0, sT.1, sC.1, noApp, lookV, Nat.testBit, simprocAttr, -Int.reduceNatCast', ht, e0, e2, e3, take_yes hw hn, take_no hw hn, hp, PBi, hlt, hlb, hib, hl0, hnod, hres, hb1, hd, Nd.cut6, Nd.cutE, Nd.dimE, Nd.cellsE, Nd.dims, Nd.len, Nd.stor, Nd.drainE, Nd.drop7, fillS, listN2, s1, x4, x3, make2, hdp] at he
      subst he
      exact ⟨x2, _, _, rfl, hL.cut0⟩
  | @go e n k x n1 o hs hx hdp _ ih =>
    intro tt H hn hd ht e0 e2 e3 hL
    have hlt : i < H.length := by have := hL.lt; have := hL.len; omega
    have hlb : h.length + 1 < H.length := hL.len
    have hl0 : h.length < H.length := by omega
    have hib : i ≠ h.length + 1 := by have := hL.lt; omega
    have hb1 : Nat.ble h.length (h.length + 1) = true := ble_true (by omega)
    have hp := hL.par
    have hnod := hL.nod
    have hres := hL.res
    rw [NBi] at hnod
    rw [PBi] at hp
    rw [zero7i] at hres
    obtain ⟨x1, x2, x3, x4⟩ := hx
    rw [execW_loop]
    generalize he : execW h.length Wd l180_0 _ = r
    obtain ⟨s1, rfl⟩ := andOp_some hs
    · simp only [l180_0, sT.1, sC.1, noApp, lookV, Nat.testBit, simprocAttr, -Int.reduceNatCast', ht, e0, e2, e3, take_yes hw hn, take_no hw hn, hp, PBi, hlt, hlb, hib, hl0, hnod, hres, hb1, hd, Nd.cut6, Nd.cutE, Nd.dimE, Nd.cellsE, Nd.dims, Nd.len, Nd.stor, Nd.drainE, Nd.drop7, fillS, listN2, s1, x4, x3, make2, hdp] at he
      subst he
      exact ih _ _ x2 hdp (by simp only [length_up, ht]) (by simp only [sT.1, sC.1, noApp, lookV, Nat.testBit, simprocAttr, -Int.reduceNatCast', ht, e0]) (by simp only [sT.1, sC.1, noApp, lookV, Nat.testBit, simprocAttr, -Int.reduceNatCast', ht, e2]) (by simp only [sT.1, sC.1, noApp, lookV, Nat.testBit, simprocAttr, -Int.reduceNatCast', ht, e3]) hL.next0
theorem and_no (hw : WF ws) {n : Nat} (hn : n < ws.length) {p err : Int} {m : Nat} (h1 : PRun 230 ws n (.no p err m)) : PRun 180 ws n (.no p err m) := by
  obtain ⟨g1, g2⟩ := h1
  refine ⟨g1, fun h i hi => ?_⟩
  have hlt := lt_of_box hi
  rw [PBi] at hi
  rw [Wd_fn rfl (show T.get 180 = some c180 by kernel_rfl)]
  simp only [c180, sT.1, sC.1, noApp, lookV, Nat.testBit, simprocAttr, -Int.reduceNatCast', g2, hi, hlt, PBi, fault_lower]
theorem and_run (hw : WF ws) {n : Nat} (hn : n < ws.length) {e : Exp} {n1 : Nat} {o : Out} (h1 : PRun 230 ws n (.ok e n1)) (hT : Tail (andOp ws) (PRun 230 ws) (word ws n).pos e n1 o) : PRun 180 ws n o := by
  obtain ⟨g1, g2, g3, g4⟩ := h1
  have hmono := hT.mono (fun n x m h => h.1)
  have run : ∀ (h : List ABox) (i : Nat), h[i]? = some (PB ws n) → ∃ r, LoopR h i ws (word ws n).pos 18 r o ∧ Wd (.fn 180 [] []) [.ptr i 0] h = endR [.cell 2 (some 7)] h (thenW (execW h.length Wd (.seq (.reg [ao 17 (.ld (some 7) (.t 3)), an (.st (some 7) (.t 2) (.t 17))]) .ret)) (blockW 0 r)) := by
    intro h i hi
    have hlt := lt_of_box hi
    rw [PBi] at hi
    generalize hr : Wd (.fn 180 [] []) [.ptr i 0] h = R
    rw [Wd_fn rfl (show T.get 180 = some c180 by kernel_rfl)] at hr
    have hbl1 : Nat.ble h.length (h.length + 1) = true := ble_true (by omega)
    simp only [c180, sT.1, sC.1, noApp, lookV, Nat.testBit, simprocAttr, -Int.reduceNatCast', g4, hi, hlt, PBi, Nd.dimE, Nd.cellsE, Nd.cutE, Nd.dims, Nd.len, Nd.stor, Nd.drainE, hbl1] at hr
    generalize hq : execW h.length Wd (.loop l180_0) _ = r at hr
    refine ⟨r, ?_, ?_⟩
    · rw [← hq]
      exact and_loop hw i _ e n1 o hT _ _ g2 g3 (by simp only [sT.1, sC.1, noApp, lookV, Nat.testBit, simprocAttr, -Int.reduceNatCast']) (by simp only [sT.1, sC.1, noApp, lookV, Nat.testBit, simprocAttr, -Int.reduceNatCast']) (by simp only [sT.1, sC.1, noApp, lookV, Nat.testBit, simprocAttr, -Int.reduceNatCast']) (by simp only [sT.1, sC.1, noApp, lookV, Nat.testBit, simprocAttr, -Int.reduceNatCast']) (Lies.start hlt)
    · rw [← hr]
      simp only [sT.1, sC.1, noApp, lookV, Nat.testBit, simprocAttr, -Int.reduceNatCast']
  cases o with
  | ok e' n' =>
    have hm := hmono e' n' rfl
    obtain ⟨r, hL, _⟩ := run (List.replicate 1 (PB ws n)) 0 rfl
    refine ⟨by omega, hL.1, hL.2.1, fun h i hi => ?_⟩
    obtain ⟨r, ⟨q1, q2, tt, H, rfl, ht, e2, e3, hL⟩, hr⟩ := run h i hi
    have hnod := hL.nod
    have hres := hL.res
    have hlen := hL.len
    have hlen' : h.length < H.length := by omega
    rw [NBi] at hnod
    rw [zero7i] at hres
    rw [hr]
    simp only [sT.1, sC.1, noApp, lookV, Nat.testBit, simprocAttr, -Int.reduceNatCast', ht, e2, e3, hnod, hres, hlen', Nd.dimE, Nd.cellsE, Nd.cutE, Nd.dims, Nd.len, Nd.stor, Nd.drainE]
    exact congrArg some hL.answer
  | no pos err n' =>
    obtain ⟨r, hL, _⟩ := run (List.replicate 1 (PB ws n)) 0 rfl
    refine ⟨hL.1, fun h i hi => ?_⟩
    obtain ⟨r, ⟨q1, tt, H, rfl, q3⟩, hr⟩ := run h i hi
    rw [hr]
    simp only [sT.1, sC.1, noApp, lookV, Nat.testBit, simprocAttr, -Int.reduceNatCast']
    exact congrArg some (leave_cut_pan q3 (fault_lower _ _ _))
def orOp (ws : List Tok) (n : Nat) : Option Int := if isW ws n [111, 114] = true then some 24 else none
theorem orOp_some {n : Nat} {k : Int} (h : orOp ws n = some k) : (isW ws n [111, 114] = true ∧ k = 24) := by
  simp only [orOp] at h
  cases h0 : isW ws n [111, 114] <;> simp_all
theorem orOp_none {n : Nat} (h : orOp ws n = none) : isW ws n [111, 114] = false := by
  simp only [orOp] at h
  cases h0 : isW ws n [111, 114] <;> simp_all
theorem or_loop (hw : WF ws) (i : Nat) (pos : Int) (e : Exp) (n : Nat) (o : Out) (hT : Tail (orOp ws) (PRun 180 ws) pos e n o) : ∀ (tt : List AVal) (H : List ABox), n < ws.length → e.depth ≤ 20 → tt.length = 18 → lkp tt 0 = .ptr i 0 → lkp tt 2 = .ptr h.length 0 → lkp tt 3 = .ptr (h.length + 1) 0 → Lies h i ws n ⟨e, pos⟩ H →
    LoopR h i ws pos 18 (execW h.length Wd (.loop l126_0) ⟨tt, H, false⟩) o := by
  induction hT with
  | @stop e n hs =>
    intro tt H hn hd ht e0 e2 e3 hL
    have hlt : i < H.length := by have := hL.lt; have := hL.len; omega
    have hlb : h.length + 1 < H.length := hL.len
    have hl0 : h.length < H.length := by omega
    have hib : i ≠ h.length + 1 := by have := hL.lt; omega
    have hb1 : Nat.ble h.length (h.length + 1) = true := ble_true (by omega)
    have hp := hL.par
    have hnod := hL.nod
    have hres := hL.res
    rw [NBi] at hnod
    rw [PBi] at hp
    rw [zero7i] at hres
    have s1 := orOp_none hs
    rw [execW_loop]
    generalize he : execW h.length Wd l126_0 _ = r
    simp only [l126_0, sT.1, sC.1, noApp, lookV, Nat.testBit, simprocAttr, -Int.reduceNatCast', ht, e0, e2, e3, take_yes hw hn, take_no hw hn, hp, PBi, hlt, hlb, hib, hl0, hnod, hres, hb1, hd, Nd.cut6, Nd.cutE, Nd.dimE, Nd.cellsE, Nd.dims, Nd.len, Nd.stor, Nd.drainE, Nd.drop7, fillS, listN2, s1] at he
    subst he
    exact ⟨hn, hd, _, _, rfl, by simp only [length_up, ht], by simp only [sT.1, sC.1, noApp, lookV, Nat.testBit, simprocAttr, -Int.reduceNatCast', e2], by simp only [sT.1, sC.1, noApp, lookV, Nat.testBit, simprocAttr, -Int.reduceNatCast', e3], hL⟩
  | @bad e n k p err m hs hx =>
    intro tt H hn hd ht e0 e2 e3 hL
    have hlt : i < H.length := by have := hL.lt; have := hL.len; omega
    have hlb : h.length + 1 < H.length := hL.len
    have hl0 : h.length < H.length := by omega
    have hib : i ≠ h.length + 1 := by have := hL.lt; omega
    have hb1 : Nat.ble h.length (h.length + 1) = true := ble_true (by omega)
    have hp := hL.par
    have hnod := hL.nod
    have hres := hL.res
    rw [NBi] at hnod
    rw [PBi] at hp
    rw [zero7i] at hres
    obtain ⟨x1, x2⟩ := hx
    rw [execW_loop]
    generalize he : execW h.length Wd l126_0 _ = r
    obtain ⟨s1, rfl⟩ := orOp_some hs
    · simp only [l126_0, sT.1, sC.1, noApp, lookV, Nat.testBit, simprocAttr, -Int.reduceNatCast', ht, e0, e2, e3, take_yes hw hn, take_no hw hn, hp, PBi, hlt, hlb, hib, hl0, hnod, hres, hb1, hd, Nd.cut6, Nd.cutE, Nd.dimE, Nd.cellsE, Nd.dims, Nd.len, Nd.stor, Nd.drainE, Nd.drop7, fillS, listN2, s1, x2] at he
      subst he
      exact ⟨x1, _, _, rfl, hL.cut0⟩
  | @deep e n k x n1 hs hx hdp =>
    intro tt H hn hd ht e0 e2 e3 hL
    have hlt : i < H.length := by have := hL.lt; have := hL.len; omega
    have hlb : h.length + 1 < H.length := hL.len
    have hl0 : h.length < H.length := by omega
    have hib : i ≠ h.length + 1 := by have := hL.lt; omega
    have hb1 : Nat.ble h.length (h.length + 1) = true := ble_true (by omega)
    have hp := hL.par
    have hnod := hL.nod
    have hres := hL.res
    rw [NBi] at hnod
    rw [PBi] at hp
    rw [zero7i] at hres
    obtain ⟨x1, x2, x3, x4⟩ := hx
    rw [execW_loop]
    generalize he : execW h.length Wd l126_0 _ = r
    obtain ⟨s1, rfl⟩ := orOp_some hs
    · simp only [l126_0, sT.1, sC.1, noApp, lookV, Nat.testBit, simprocAttr, -Int.reduceNatCast', ht, e0, e2, e3, take_yes hw hn, take_no hw hn, hp, PBi, hlt, hlb, hib, hl0, hnod, hres, hb1, hd, Nd.cut6, Nd.cutE, Nd.dimE, Nd.cellsE, Nd.dims, Nd.len, Nd.stor, Nd.drainE, Nd.drop7, fillS, listN2, s1, x4, x3, make2, hdp] at he
      subst he
      exact ⟨x2, _, _, rfl, hL.cut0⟩
  | @go e n k x n1 o hs hx hdp _ ih =>
    intro tt H hn hd ht e0 e2 e3 hL
    have hlt : i < H.length := by have := hL.lt; have := hL.len; omega
    have hlb : h.length + 1 < H.length := hL.len
    have hl0 : h.length < H.length := by omega
    have hib : i ≠ h.length + 1 := by have := hL.lt; omega
    have hb1 : Nat.ble h.length (h.length + 1) = true := ble_true (by omega)
    have hp := hL.par
    have hnod := hL.nod
    have hres := hL.res
    rw [NBi] at hnod
    rw [PBi] at hp
    rw [zero7i] at hres
    obtain ⟨x1, x2, x3, x4⟩ := hx
    rw [execW_loop]
    generalize he : execW h.length Wd l126_0 _ = r
    obtain ⟨s1, rfl⟩ := orOp_some hs
    · simp only [l126_0, sT.1, sC.1, noApp, lookV, Nat.testBit, simprocAttr, -Int.reduceNatCast', ht, e0, e2, e3, take_yes hw hn, take_no hw hn, hp, PBi, hlt, hlb, hib, hl0, hnod, hres, hb1, hd, Nd.cut6, Nd.cutE, Nd.dimE, Nd.cellsE, Nd.dims, Nd.len, Nd.stor, Nd.drainE, Nd.drop7, fillS, listN2, s1, x4, x3, make2, hdp] at he
      subst he
      exact ih _ _ x2 hdp (by simp only [length_up, ht]) (by simp only [sT.1, sC.1, noApp, lookV, Nat.testBit, simprocAttr, -Int.reduceNatCast', ht, e0]) (by simp only [sT.1, sC.1, noApp, lookV, Nat.testBit, simprocAttr, -Int.reduceNatCast', ht, e2]) (by simp only [sT.1, sC.1, noApp, lookV, Nat.testBit, simprocAttr, -Int.reduceNatCast', ht, e3]) hL.next0
theorem or_no (hw : WF ws) {n : Nat} (hn : n < ws.length) {p err : Int} {m : Nat} (h1 : PRun 180 ws n (.no p err m)) : PRun 126 ws n (.no p err m) := by
  obtain ⟨g1, g2⟩ := h1
  refine ⟨g1, fun h i hi => ?_⟩
  have hlt := lt_of_box hi
  rw [PBi] at hi
  rw [Wd_fn rfl (show T.get 126 = some c126 by kernel_rfl)]
  simp only [c126, sT.1, sC.1, noApp, lookV, Nat.testBit, simprocAttr, -Int.reduceNatCast', g2, hi, hlt, PBi, fault_lower]
theorem or_run (hw : WF ws) {n : Nat} (hn : n < ws.length) {e : Exp} {n1 : Nat} {o : Out} (h1 : PRun 180 ws n (.ok e n1)) (hT : Tail (orOp ws) (PRun 180 ws) (word ws n).pos e n1 o) : PRun 126 ws n o := by
  obtain ⟨g1, g2, g3, g4⟩ := h1
  have hmono := hT.mono (fun n x m h => h.1)
  have run : ∀ (h : List ABox) (i : Nat), h[i]? = some (PB ws n) → ∃ r, LoopR h i ws (word ws n).pos 18 r o ∧ Wd (.fn 126 [] []) [.ptr i 0] h = endR [.cell 2 (some 7)] h (thenW (execW h.length Wd (.seq (.reg [ao 17 (.ld (some 7) (.t 3)), an (.st (some 7) (.t 2) (.t 17))]) .ret)) (blockW 0 r)) := by
    intro h i hi
    have hlt := lt_of_box hi
    rw [PBi] at hi
    generalize hr : Wd (.fn 126 [] []) [.ptr i 0] h = R
    rw [Wd_fn rfl (show T.get 126 = some c126 by kernel_rfl)] at hr
    have hbl1 : Nat.ble h.length (h.length + 1) = true := ble_true (by omega)
    simp only [c126, sT.1, sC.1, noApp, lookV, Nat.testBit, simprocAttr, -Int.reduceNatCast', g4, hi, hlt, PBi, Nd.dimE, Nd.cellsE, Nd.cutE, Nd.dims, Nd.len, Nd.stor, Nd.drainE, hbl1] at hr
    generalize hq : execW h.length Wd (.loop l126_0) _ = r at hr
    refine ⟨r, ?_, ?_⟩
    · rw [← hq]
      exact or_loop hw i _ e n1 o hT _ _ g2 g3 (by simp only [sT.1, sC.1, noApp, lookV, Nat.testBit, simprocAttr, -Int.reduceNatCast']) (by simp only [sT.1, sC.1, noApp, lookV, Nat.testBit, simprocAttr, -Int.reduceNatCast']) (by simp only [sT.1, sC.1, noApp, lookV, Nat.testBit, simprocAttr, -Int.reduceNatCast']) (by simp only [sT.1, sC.1, noApp, lookV, Nat.testBit, simprocAttr, -Int.reduceNatCast']) (Lies.start hlt)
    · rw [← hr]
      simp only [sT.1, sC.1, noApp, lookV, Nat.testBit, simprocAttr, -Int.reduceNatCast']
  cases o with
  | ok e' n' =>
    have hm := hmono e' n' rfl
    obtain ⟨r, hL, _⟩ := run (List.replicate 1 (PB ws n)) 0 rfl
    refine ⟨by omega, hL.1, hL.2.1, fun h i hi => ?_⟩
    obtain ⟨r, ⟨q1, q2, tt, H, rfl, ht, e2, e3, hL⟩, hr⟩ := run h i hi
    have hnod := hL.nod
    have hres := hL.res
    have hlen := hL.len
    have hlen' : h.length < H.length := by omega
    rw [NBi] at hnod
    rw [zero7i] at hres
    rw [hr]
    simp only [sT.1, sC.1, noApp, lookV, Nat.testBit, simprocAttr, -Int.reduceNatCast', ht, e2, e3, hnod, hres, hlen', Nd.dimE, Nd.cellsE, Nd.cutE, Nd.dims, Nd.len, Nd.stor, Nd.drainE]
    exact congrArg some hL.answer
  | no pos err n' =>
    obtain ⟨r, hL, _⟩ := run (List.replicate 1 (PB ws n)) 0 rfl
    refine ⟨hL.1, fun h i hi => ?_⟩
    obtain ⟨r, ⟨q1, tt, H, rfl, q3⟩, hr⟩ := run h i hi
    rw [hr]
    simp only [sT.1, sC.1, noApp, lookV, Nat.testBit, simprocAttr, -Int.reduceNatCast']
    exact congrArg some (leave_cut_pan q3 (fault_lower _ _ _))
end
end Go.Proofs.YtlognicjhmcgjaaGreatDoor.AE
namespace Go.Proofs.YtlognicjhmcgjaaGreatDoor.AE
open Go.AE
section
variable {ws : List Tok} {n : Nat}
theorem neg_sign (hw : WF ws) (hn : n < ws.length) (hs : isW ws n [45] = true) {x : Exp} {n1 : Nat} (h1 : PRun 289 ws (n + 1) (.ok x n1)) (hd : (Exp.mk 13 0 [] [] [x]).depth ≤ 20) : PRun 289 ws n (.ok (.mk 13 0 [] [] [x]) n1) := by
  obtain ⟨g1, g2, g3, g4⟩ := h1
  refine ⟨by omega, g2, hd, fun h i hi => ?_⟩
  have hlt := lt_of_box hi
  rw [PBi] at hi
  rw [Wd_fn rfl (show T.get 289 = some c289 by kernel_rfl)]
  simp only [c289, sT.1, sC.1, noApp, lookV, Nat.testBit, simprocAttr, -Int.reduceNatCast', at_ok hw hn, hi, hlt, PBi, fillS, make0, Nd.dimE, Nd.cellsE, Nd.cutE, Nd.dims, Nd.len, Nd.stor, Nd.lower, Nd.drainE, Nd.cut6, Nd.drop7, listN1, listN2, listN3, fault_lower, take_yes hw hn, hs, g4, g3, make1, hd]
theorem neg_deep (hw : WF ws) (hn : n < ws.length) (hs : isW ws n [45] = true) {x : Exp} {n1 : Nat} (h1 : PRun 289 ws (n + 1) (.ok x n1)) (hd : ¬ (Exp.mk 13 0 [] [] [x]).depth ≤ 20) : PRun 289 ws n (.no (word ws n).pos 7 n1) := by
  obtain ⟨g1, g2, g3, g4⟩ := h1
  refine ⟨g2, fun h i hi => ?_⟩
  have hlt := lt_of_box hi
  rw [PBi] at hi
  rw [Wd_fn rfl (show T.get 289 = some c289 by kernel_rfl)]
  simp only [c289, sT.1, sC.1, noApp, lookV, Nat.testBit, simprocAttr, -Int.reduceNatCast', at_ok hw hn, hi, hlt, PBi, fillS, make0, Nd.dimE, Nd.cellsE, Nd.cutE, Nd.dims, Nd.len, Nd.stor, Nd.lower, Nd.drainE, Nd.cut6, Nd.drop7, listN1, listN2, listN3, fault_lower, take_yes hw hn, hs, g4, g3, make1, hd]
theorem neg_bad (hw : WF ws) (hn : n < ws.length) (hs : isW ws n [45] = true) {p err : Int} {m : Nat} (h1 : PRun 289 ws (n + 1) (.no p err m)) : PRun 289 ws n (.no p err m) := by
  obtain ⟨g1, g2⟩ := h1
  refine ⟨g1, fun h i hi => ?_⟩
  have hlt := lt_of_box hi
  rw [PBi] at hi
  rw [Wd_fn rfl (show T.get 289 = some c289 by kernel_rfl)]
  simp only [c289, sT.1, sC.1, noApp, lookV, Nat.testBit, simprocAttr, -Int.reduceNatCast', at_ok hw hn, hi, hlt, PBi, fillS, make0, Nd.dimE, Nd.cellsE, Nd.cutE, Nd.dims, Nd.len, Nd.stor, Nd.lower, Nd.drainE, Nd.cut6, Nd.drop7, listN1, listN2, listN3, fault_lower, take_yes hw hn, hs, g2]
theorem neg_else (hw : WF ws) (hn : n < ws.length) (hs : isW ws n [45] = false) {o : Out} (h1 : PRun 292 ws n o) : PRun 289 ws n o := by
  cases o with
  | ok e n1 =>
    obtain ⟨g1, g2, g3, g4⟩ := h1
    refine ⟨g1, g2, g3, fun h i hi => ?_⟩
    have hlt := lt_of_box hi
    rw [PBi] at hi
    rw [Wd_fn rfl (show T.get 289 = some c289 by kernel_rfl)]
    simp only [c289, sT.1, sC.1, noApp, lookV, Nat.testBit, simprocAttr, -Int.reduceNatCast', at_ok hw hn, hi, hlt, PBi, fillS, make0, Nd.dimE, Nd.cellsE, Nd.cutE, Nd.dims, Nd.len, Nd.stor, Nd.lower, Nd.drainE, Nd.cut6, Nd.drop7, listN1, listN2, listN3, fault_lower, take_no hw hn, hs, g4]
  | no p err m =>
    obtain ⟨g1, g2⟩ := h1
    refine ⟨g1, fun h i hi => ?_⟩
    have hlt := lt_of_box hi
    rw [PBi] at hi
    rw [Wd_fn rfl (show T.get 289 = some c289 by kernel_rfl)]
    simp only [c289, sT.1, sC.1, noApp, lookV, Nat.testBit, simprocAttr, -Int.reduceNatCast', at_ok hw hn, hi, hlt, PBi, fillS, make0, Nd.dimE, Nd.cellsE, Nd.cutE, Nd.dims, Nd.len, Nd.stor, Nd.lower, Nd.drainE, Nd.cut6, Nd.drop7, listN1, listN2, listN3, fault_lower, take_no hw hn, hs, g2]
theorem not_sign (hw : WF ws) (hn : n < ws.length) (hs : isW ws n [110, 111, 116] = true) {x : Exp} {n1 : Nat} (h1 : PRun 230 ws (n + 1) (.ok x n1)) (hd : (Exp.mk 14 0 [] [] [x]).depth ≤ 20) : PRun 230 ws n (.ok (.mk 14 0 [] [] [x]) n1) := by
  obtain ⟨g1, g2, g3, g4⟩ := h1
  refine ⟨by omega, g2, hd, fun h i hi => ?_⟩
  have hlt := lt_of_box hi
  rw [PBi] at hi
  rw [Wd_fn rfl (show T.get 230 = some c230 by kernel_rfl)]
  simp only [c230, sT.1, sC.1, noApp, lookV, Nat.testBit, simprocAttr, -Int.reduceNatCast', at_ok hw hn, hi, hlt, PBi, fillS, make0, Nd.dimE, Nd.cellsE, Nd.cutE, Nd.dims, Nd.len, Nd.stor, Nd.lower, Nd.drainE, Nd.cut6, Nd.drop7, listN1, listN2, listN3, fault_lower, take_yes hw hn, hs, g4, g3, make1, hd]
theorem not_deep (hw : WF ws) (hn : n < ws.length) (hs : isW ws n [110, 111, 116] = true) {x : Exp} {n1 : Nat} (h1 : PRun 230 ws (n + 1) (.ok x n1)) (hd : ¬ (Exp.mk 14 0 [] [] [x]).depth ≤ 20) : PRun 230 ws n (.no (word ws n).pos 7 n1) := by
  obtain ⟨g1, g2, g3, g4⟩ := h1
  refine ⟨g2, fun h i hi => ?_⟩
  have hlt := lt_of_box hi
  rw [PBi] at hi
  rw [Wd_fn rfl (show T.get 230 = some c230 by kernel_rfl)]
  simp only [c230, sT.1, sC.1, noApp, lookV, Nat.testBit, simprocAttr, -Int.reduceNatCast', at_ok hw hn, hi, hlt, PBi, fillS, make0, Nd.dimE, Nd.cellsE, Nd.cutE, Nd.dims, Nd.len, Nd.stor, Nd.lower, Nd.drainE, Nd.cut6, Nd.drop7, listN1, listN2, listN3, fault_lower, take_yes hw hn, hs, g4, g3, make1, hd]
theorem not_bad (hw : WF ws) (hn : n < ws.length) (hs : isW ws n [110, 111, 116] = true) {p err : Int} {m : Nat} (h1 : PRun 230 ws (n + 1) (.no p err m)) : PRun 230 ws n (.no p err m) := by
  obtain ⟨g1, g2⟩ := h1
  refine ⟨g1, fun h i hi => ?_⟩
  have hlt := lt_of_box hi
  rw [PBi] at hi
  rw [Wd_fn rfl (show T.get 230 = some c230 by kernel_rfl)]
  simp only [c230, sT.1, sC.1, noApp, lookV, Nat.testBit, simprocAttr, -Int.reduceNatCast', at_ok hw hn, hi, hlt, PBi, fillS, make0, Nd.dimE, Nd.cellsE, Nd.cutE, Nd.dims, Nd.len, Nd.stor, Nd.lower, Nd.drainE, Nd.cut6, Nd.drop7, listN1, listN2, listN3, fault_lower, take_yes hw hn, hs, g2]
theorem not_else (hw : WF ws) (hn : n < ws.length) (hs : isW ws n [110, 111, 116] = false) {o : Out} (h1 : PRun 261 ws n o) : PRun 230 ws n o := by
  cases o with
  | ok e n1 =>
    obtain ⟨g1, g2, g3, g4⟩ := h1
    refine ⟨g1, g2, g3, fun h i hi => ?_⟩
    have hlt := lt_of_box hi
    rw [PBi] at hi
    rw [Wd_fn rfl (show T.get 230 = some c230 by kernel_rfl)]
    simp only [c230, sT.1, sC.1, noApp, lookV, Nat.testBit, simprocAttr, -Int.reduceNatCast', at_ok hw hn, hi, hlt, PBi, fillS, make0, Nd.dimE, Nd.cellsE, Nd.cutE, Nd.dims, Nd.len, Nd.stor, Nd.lower, Nd.drainE, Nd.cut6, Nd.drop7, listN1, listN2, listN3, fault_lower, take_no hw hn, hs, g4]
  | no p err m =>
    obtain ⟨g1, g2⟩ := h1
    refine ⟨g1, fun h i hi => ?_⟩
    have hlt := lt_of_box hi
    rw [PBi] at hi
    rw [Wd_fn rfl (show T.get 230 = some c230 by kernel_rfl)]
    simp only [c230, sT.1, sC.1, noApp, lookV, Nat.testBit, simprocAttr, -Int.reduceNatCast', at_ok hw hn, hi, hlt, PBi, fillS, make0, Nd.dimE, Nd.cellsE, Nd.cutE, Nd.dims, Nd.len, Nd.stor, Nd.lower, Nd.drainE, Nd.cut6, Nd.drop7, listN1, listN2, listN3, fault_lower, take_no hw hn, hs, g2]
def sameOp (ws : List Tok) (n : Nat) : Option Int := if isW ws n [61] = true then some 20 else if isW ws n [60] = true then some 21 else if isW ws n [60, 61] = true then some 22 else none
theorem sameOp_some {n : Nat} {k : Int} (h : sameOp ws n = some k) : (isW ws n [61] = true ∧ k = 20) ∨ (isW ws n [61] = false ∧ isW ws n [60] = true ∧ k = 21) ∨ (isW ws n [61] = false ∧ isW ws n [60] = false ∧ isW ws n [60, 61] = true ∧ k = 22) := by
  simp only [sameOp] at h
  cases h0 : isW ws n [61] <;> cases h1 : isW ws n [60] <;> cases h2 : isW ws n [60, 61] <;> simp_all
theorem sameOp_none {n : Nat} (h : sameOp ws n = none) : isW ws n [61] = false ∧ isW ws n [60] = false ∧ isW ws n [60, 61] = false := by
  simp only [sameOp] at h
  cases h0 : isW ws n [61] <;> cases h1 : isW ws n [60] <;> cases h2 : isW ws n [60, 61] <;> simp_all
theorem same_bad (hw : WF ws) (hn : n < ws.length) {p err : Int} {m : Nat} (h1 : PRun 272 ws n (.no p err m)) : PRun 261 ws n (.no p err m) := by
  obtain ⟨g1, g2⟩ := h1
  refine ⟨g1, fun h i hi => ?_⟩
  have hlt := lt_of_box hi
  rw [PBi] at hi
  rw [Wd_fn rfl (show T.get 261 = some c261 by kernel_rfl)]
  simp only [c261, sT.1, sC.1, noApp, lookV, Nat.testBit, simprocAttr, -Int.reduceNatCast', at_ok hw hn, hi, hlt, PBi, fillS, make0, Nd.dimE, Nd.cellsE, Nd.cutE, Nd.dims, Nd.len, Nd.stor, Nd.lower, Nd.drainE, Nd.cut6, Nd.drop7, listN1, listN2, listN3, fault_lower, g2]
theorem same_one (hw : WF ws) (hn : n < ws.length) {e : Exp} {n1 : Nat} (h1 : PRun 272 ws n (.ok e n1)) (hs : sameOp ws n1 = none) : PRun 261 ws n (.ok e n1) := by
  obtain ⟨g1, g2, g3, g4⟩ := h1
  obtain ⟨s1, s2, s3⟩ := sameOp_none hs
  refine ⟨g1, g2, g3, fun h i hi => ?_⟩
  have hbl1 : Nat.ble h.length (h.length + 1) = true := ble_true (by omega)
  have hlt := lt_of_box hi
  rw [PBi] at hi
  rw [Wd_fn rfl (show T.get 261 = some c261 by kernel_rfl)]
  simp only [c261, sT.1, sC.1, noApp, lookV, Nat.testBit, simprocAttr, -Int.reduceNatCast', at_ok hw hn, hi, hlt, PBi, fillS, make0, Nd.dimE, Nd.cellsE, Nd.cutE, Nd.dims, Nd.len, Nd.stor, Nd.lower, Nd.drainE, Nd.cut6, Nd.drop7, listN1, listN2, listN3, fault_lower, g4, take_no hw g2, s1, s2, s3, hbl1]
theorem same_two_bad (hw : WF ws) (hn : n < ws.length) {e : Exp} {n1 : Nat} (h1 : PRun 272 ws n (.ok e n1)) {k : Int} (hs : sameOp ws n1 = some k) {p err : Int} {m : Nat} (h2 : PRun 272 ws (n1 + 1) (.no p err m)) : PRun 261 ws n (.no p err m) := by
  obtain ⟨g1, g2, g3, g4⟩ := h1
  obtain ⟨x1, x2⟩ := h2
  refine ⟨x1, fun h i hi => ?_⟩
  have hbl1 : Nat.ble h.length (h.length + 1) = true := ble_true (by omega)
  have hlt := lt_of_box hi
  rw [PBi] at hi
  rw [Wd_fn rfl (show T.get 261 = some c261 by kernel_rfl)]
  rcases sameOp_some hs with ⟨s1, rfl⟩ | ⟨s1, s2, rfl⟩ | ⟨s1, s2, s3, rfl⟩
  · simp only [c261, sT.1, sC.1, noApp, lookV, Nat.testBit, simprocAttr, -Int.reduceNatCast', at_ok hw hn, hi, hlt, PBi, fillS, make0, Nd.dimE, Nd.cellsE, Nd.cutE, Nd.dims, Nd.len, Nd.stor, Nd.lower, Nd.drainE, Nd.cut6, Nd.drop7, listN1, listN2, listN3, fault_lower, g4, take_no hw g2, take_yes hw g2, s1, hbl1, x2]
  · simp only [c261, sT.1, sC.1, noApp, lookV, Nat.testBit, simprocAttr, -Int.reduceNatCast', at_ok hw hn, hi, hlt, PBi, fillS, make0, Nd.dimE, Nd.cellsE, Nd.cutE, Nd.dims, Nd.len, Nd.stor, Nd.lower, Nd.drainE, Nd.cut6, Nd.drop7, listN1, listN2, listN3, fault_lower, g4, take_no hw g2, take_yes hw g2, s1, s2, hbl1, x2]
  · simp only [c261, sT.1, sC.1, noApp, lookV, Nat.testBit, simprocAttr, -Int.reduceNatCast', at_ok hw hn, hi, hlt, PBi, fillS, make0, Nd.dimE, Nd.cellsE, Nd.cutE, Nd.dims, Nd.len, Nd.stor, Nd.lower, Nd.drainE, Nd.cut6, Nd.drop7, listN1, listN2, listN3, fault_lower, g4, take_no hw g2, take_yes hw g2, s1, s2, s3, hbl1, x2]
theorem same_two_deep (hw : WF ws) (hn : n < ws.length) {e : Exp} {n1 : Nat} (h1 : PRun 272 ws n (.ok e n1)) {k : Int} (hs : sameOp ws n1 = some k) {x : Exp} {n2 : Nat} (h2 : PRun 272 ws (n1 + 1) (.ok x n2)) (hd : ¬ (Exp.mk k 0 [] [] [e, x]).depth ≤ 20) : PRun 261 ws n (.no (word ws n).pos 7 n2) := by
  obtain ⟨g1, g2, g3, g4⟩ := h1
  obtain ⟨x1, x2, x3, x4⟩ := h2
  refine ⟨x2, fun h i hi => ?_⟩
  have hbl1 : Nat.ble h.length (h.length + 1) = true := ble_true (by omega)
  have hlt := lt_of_box hi
  rw [PBi] at hi
  rw [Wd_fn rfl (show T.get 261 = some c261 by kernel_rfl)]
  rcases sameOp_some hs with ⟨s1, rfl⟩ | ⟨s1, s2, rfl⟩ | ⟨s1, s2, s3, rfl⟩
  · simp only [c261, sT.1, sC.1, noApp, lookV, Nat.testBit, simprocAttr, -Int.reduceNatCast', at_ok hw hn, hi, hlt, PBi, fillS, make0, Nd.dimE, Nd.cellsE, Nd.cutE, Nd.dims, Nd.len, Nd.stor, Nd.lower, Nd.drainE, Nd.cut6, Nd.drop7, listN1, listN2, listN3, fault_lower, g4, take_no hw g2, take_yes hw g2, s1, hbl1, x4, x3, g3, make2, hd]
  · simp only [c261, sT.1, sC.1, noApp, lookV, Nat.testBit, simprocAttr, -Int.reduceNatCast', at_ok hw hn, hi, hlt, PBi, fillS, make0, Nd.dimE, Nd.cellsE, Nd.cutE, Nd.dims, Nd.len, Nd.stor, Nd.lower, Nd.drainE, Nd.cut6, Nd.drop7, listN1, listN2, listN3, fault_lower, g4, take_no hw g2, take_yes hw g2, s1, s2, hbl1, x4, x3, g3, make2, hd]
  · simp only [c261, sT.1, sC.1, noApp, lookV, Nat.testBit, simprocAttr, -Int.reduceNatCast', at_ok hw hn, hi, hlt, PBi, fillS, make0, Nd.dimE, Nd.cellsE, Nd.cutE, Nd.dims, Nd.len, Nd.stor, Nd.lower, Nd.drainE, Nd.cut6, Nd.drop7, listN1, listN2, listN3, fault_lower, g4, take_no hw g2, take_yes hw g2, s1, s2, s3, hbl1, x4, x3, g3, make2, hd]
theorem same_two (hw : WF ws) (hn : n < ws.length) {e : Exp} {n1 : Nat} (h1 : PRun 272 ws n (.ok e n1)) {k : Int} (hs : sameOp ws n1 = some k) {x : Exp} {n2 : Nat} (h2 : PRun 272 ws (n1 + 1) (.ok x n2)) (hd : (Exp.mk k 0 [] [] [e, x]).depth ≤ 20) : PRun 261 ws n (.ok (.mk k 0 [] [] [e, x]) n2) := by
  obtain ⟨g1, g2, g3, g4⟩ := h1
  obtain ⟨x1, x2, x3, x4⟩ := h2
  refine ⟨by omega, x2, hd, fun h i hi => ?_⟩
  have hbl1 : Nat.ble h.length (h.length + 1) = true := ble_true (by omega)
  have hlt := lt_of_box hi
  rw [PBi] at hi
  rw [Wd_fn rfl (show T.get 261 = some c261 by kernel_rfl)]
  rcases sameOp_some hs with ⟨s1, rfl⟩ | ⟨s1, s2, rfl⟩ | ⟨s1, s2, s3, rfl⟩
  · simp only [c261, sT.1, sC.1, noApp, lookV, Nat.testBit, simprocAttr, -Int.reduceNatCast', at_ok hw hn, hi, hlt, PBi, fillS, make0, Nd.dimE, Nd.cellsE, Nd.cutE, Nd.dims, Nd.len, Nd.stor, Nd.lower, Nd.drainE, Nd.cut6, Nd.drop7, listN1, listN2, listN3, fault_lower, g4, take_no hw g2, take_yes hw g2, s1, hbl1, x4, x3, g3, make2, hd]
  · simp only [c261, sT.1, sC.1, noApp, lookV, Nat.testBit, simprocAttr, -Int.reduceNatCast', at_ok hw hn, hi, hlt, PBi, fillS, make0, Nd.dimE, Nd.cellsE, Nd.cutE, Nd.dims, Nd.len, Nd.stor, Nd.lower, Nd.drainE, Nd.cut6, Nd.drop7, listN1, listN2, listN3, fault_lower, g4, take_no hw g2, take_yes hw g2, s1, s2, hbl1, x4, x3, g3, make2, hd]
  · simp only [c261, sT.1, sC.1, noApp, lookV, Nat.testBit, simprocAttr, -Int.reduceNatCast', at_ok hw hn, hi, hlt, PBi, fillS, make0, Nd.dimE, Nd.cellsE, Nd.cutE, Nd.dims, Nd.len, Nd.stor, Nd.lower, Nd.drainE, Nd.cut6, Nd.drop7, listN1, listN2, listN3, fault_lower, g4, take_no hw g2, take_yes hw g2, s1, s2, s3, hbl1, x4, x3, g3, make2, hd]
end
end Go.Proofs.YtlognicjhmcgjaaGreatDoor.AE
namespace Go.Proofs.YtlognicjhmcgjaaGreatDoor.AE
open Go.AE
section
variable {ws : List Tok} {n : Nat}
theorem var_of (hw : WF ws) (hn : n < ws.length) (h1 : namedW ws n = true) (h2 : isW ws (n + 1) [46] = true) (h3 : namedW ws (n + 1 + 1) = true) : PRun 294 ws n (.ok (.mk 5 0 (word ws n).s (word ws (n + 1 + 1)).s []) (n + 1 + 1 + 1)) :=
  ⟨by omega, namedW_next hw (isW_next hw (namedW_next hw hn h1) h2) h3, by simp [Exp.depth, depths], fun h i hi => variable_of hw hn hi h1 h2 h3⟩
theorem var_plain (hw : WF ws) (hn : n < ws.length) (h1 : namedW ws n = true) (h2 : isW ws (n + 1) [46] = true → namedW ws (n + 1 + 1) = false) : PRun 294 ws n (.ok (.mk 4 0 (word ws n).s [] []) (n + 1)) :=
  ⟨by omega, namedW_next hw hn h1, by simp [Exp.depth, depths], fun h i hi => variable_plain hw hn hi h1 h2⟩
theorem one_int (hw : WF ws) (hn : n < ws.length) (hk : (word ws n).kind = 1) : PRun 293 ws n (.ok (.mk 0 (word ws n).n [] [] []) (n + 1)) := by
  refine ⟨by omega, hw.next hn (by omega), by simp [Exp.depth, depths], fun h i hi => ?_⟩
  have w := wrap_succ (n := n) (by have := hw.len; omega)
  have k1 : ((word ws n).kind == 1) = true := by simpa using hk
  have hlt := lt_of_box hi
  rw [PBi] at hi
  rw [Wd_fn rfl (show T.get 293 = some c293 by kernel_rfl)]
  simp only [c293, sT.1, sC.1, noApp, lookV, Nat.testBit, simprocAttr, -Int.reduceNatCast', at_ok hw hn, hi, hlt, PBi, fillS, make0, Nd.dimE, Nd.cellsE, Nd.cutE, Nd.dims, Nd.len, Nd.stor, Nd.lower, Nd.drainE, Nd.cut6, Nd.drop7, listN1, listN2, listN3, fault_lower, word_ok hw hn, Tok.enc, k1, w]
theorem one_sym (hw : WF ws) (hn : n < ws.length) (hk : (word ws n).kind = 2) : PRun 293 ws n (.ok (.mk 3 0 (word ws n).s [] []) (n + 1)) := by
  refine ⟨by omega, hw.next hn (by omega), by simp [Exp.depth, depths], fun h i hi => ?_⟩
  have w := wrap_succ (n := n) (by have := hw.len; omega)
  have k1 : ((word ws n).kind == 1) = false := by rw [hk]; rfl
  have k2 : ((word ws n).kind == 2) = true := by simpa using hk
  have hlt := lt_of_box hi
  rw [PBi] at hi
  rw [Wd_fn rfl (show T.get 293 = some c293 by kernel_rfl)]
  simp only [c293, sT.1, sC.1, noApp, lookV, Nat.testBit, simprocAttr, -Int.reduceNatCast', at_ok hw hn, hi, hlt, PBi, fillS, make0, Nd.dimE, Nd.cellsE, Nd.cutE, Nd.dims, Nd.len, Nd.stor, Nd.lower, Nd.drainE, Nd.cut6, Nd.drop7, listN1, listN2, listN3, fault_lower, word_ok hw hn, Tok.enc, k1, k2, w]
theorem one_var (hw : WF ws) (hn : n < ws.length) (hs : namedW ws n = true) {o : Out} (h1 : PRun 294 ws n o) : PRun 293 ws n o := by
  have k0 : (word ws n).kind = 0 := by simp [namedW] at hs; exact hs.1
  have k1 : ((word ws n).kind == 1) = false := by rw [k0]; rfl
  have k2 : ((word ws n).kind == 2) = false := by rw [k0]; rfl
  cases o with
  | ok e n1 =>
    obtain ⟨g1, g2, g3, g4⟩ := h1
    refine ⟨g1, g2, g3, fun h i hi => ?_⟩
    have hlt := lt_of_box hi
    rw [PBi] at hi
    rw [Wd_fn rfl (show T.get 293 = some c293 by kernel_rfl)]
    simp only [c293, sT.1, sC.1, noApp, lookV, Nat.testBit, simprocAttr, -Int.reduceNatCast', at_ok hw hn, hi, hlt, PBi, fillS, make0, Nd.dimE, Nd.cellsE, Nd.cutE, Nd.dims, Nd.len, Nd.stor, Nd.lower, Nd.drainE, Nd.cut6, Nd.drop7, listN1, listN2, listN3, fault_lower, word_ok hw hn, Tok.enc, k1, k2, named_ok hw hn, hs, g4]
  | no p err m =>
    obtain ⟨g1, g2⟩ := h1
    refine ⟨g1, fun h i hi => ?_⟩
    have hlt := lt_of_box hi
    rw [PBi] at hi
    rw [Wd_fn rfl (show T.get 293 = some c293 by kernel_rfl)]
    simp only [c293, sT.1, sC.1, noApp, lookV, Nat.testBit, simprocAttr, -Int.reduceNatCast', at_ok hw hn, hi, hlt, PBi, fillS, make0, Nd.dimE, Nd.cellsE, Nd.cutE, Nd.dims, Nd.len, Nd.stor, Nd.lower, Nd.drainE, Nd.cut6, Nd.drop7, listN1, listN2, listN3, fault_lower, word_ok hw hn, Tok.enc, k1, k2, named_ok hw hn, hs, g2]
theorem one_brackets (hw : WF ws) (hn : n < ws.length) (k1 : (word ws n).kind ≠ 1) (k2 : (word ws n).kind ≠ 2) (hs : namedW ws n = false) (hb : isW ws n [40] = true) {o : Out} (h1 : PRun 295 ws n o) : PRun 293 ws n o := by
  have k1' : ((word ws n).kind == 1) = false := by simpa using k1
  have k2' : ((word ws n).kind == 2) = false := by simpa using k2
  cases o with
  | ok e n1 =>
    obtain ⟨g1, g2, g3, g4⟩ := h1
    refine ⟨g1, g2, g3, fun h i hi => ?_⟩
    have hlt := lt_of_box hi
    rw [PBi] at hi
    rw [Wd_fn rfl (show T.get 293 = some c293 by kernel_rfl)]
    simp only [c293, sT.1, sC.1, noApp, lookV, Nat.testBit, simprocAttr, -Int.reduceNatCast', at_ok hw hn, hi, hlt, PBi, fillS, make0, Nd.dimE, Nd.cellsE, Nd.cutE, Nd.dims, Nd.len, Nd.stor, Nd.lower, Nd.drainE, Nd.cut6, Nd.drop7, listN1, listN2, listN3, fault_lower, word_ok hw hn, Tok.enc, k1', k2', named_ok hw hn, hs, is_ok hw hn, hb, g4]
  | no p err m =>
    obtain ⟨g1, g2⟩ := h1
    refine ⟨g1, fun h i hi => ?_⟩
    have hlt := lt_of_box hi
    rw [PBi] at hi
    rw [Wd_fn rfl (show T.get 293 = some c293 by kernel_rfl)]
    simp only [c293, sT.1, sC.1, noApp, lookV, Nat.testBit, simprocAttr, -Int.reduceNatCast', at_ok hw hn, hi, hlt, PBi, fillS, make0, Nd.dimE, Nd.cellsE, Nd.cutE, Nd.dims, Nd.len, Nd.stor, Nd.lower, Nd.drainE, Nd.cut6, Nd.drop7, listN1, listN2, listN3, fault_lower, word_ok hw hn, Tok.enc, k1', k2', named_ok hw hn, hs, is_ok hw hn, hb, g2]
theorem one_asked (hw : WF ws) (hn : n < ws.length) (k1 : (word ws n).kind ≠ 1) (k2 : (word ws n).kind ≠ 2) (hs : namedW ws n = false) (hb : isW ws n [40] = false) {o : Out} (h1 : PRun 296 ws n o) : PRun 293 ws n o := by
  have k1' : ((word ws n).kind == 1) = false := by simpa using k1
  have k2' : ((word ws n).kind == 2) = false := by simpa using k2
  cases o with
  | ok e n1 =>
    obtain ⟨g1, g2, g3, g4⟩ := h1
    refine ⟨g1, g2, g3, fun h i hi => ?_⟩
    have hlt := lt_of_box hi
    rw [PBi] at hi
    rw [Wd_fn rfl (show T.get 293 = some c293 by kernel_rfl)]
    simp only [c293, sT.1, sC.1, noApp, lookV, Nat.testBit, simprocAttr, -Int.reduceNatCast', at_ok hw hn, hi, hlt, PBi, fillS, make0, Nd.dimE, Nd.cellsE, Nd.cutE, Nd.dims, Nd.len, Nd.stor, Nd.lower, Nd.drainE, Nd.cut6, Nd.drop7, listN1, listN2, listN3, fault_lower, word_ok hw hn, Tok.enc, k1', k2', named_ok hw hn, hs, is_ok hw hn, hb, g4]
  | no p err m =>
    obtain ⟨g1, g2⟩ := h1
    refine ⟨g1, fun h i hi => ?_⟩
    have hlt := lt_of_box hi
    rw [PBi] at hi
    rw [Wd_fn rfl (show T.get 293 = some c293 by kernel_rfl)]
    simp only [c293, sT.1, sC.1, noApp, lookV, Nat.testBit, simprocAttr, -Int.reduceNatCast', at_ok hw hn, hi, hlt, PBi, fillS, make0, Nd.dimE, Nd.cellsE, Nd.cutE, Nd.dims, Nd.len, Nd.stor, Nd.lower, Nd.drainE, Nd.cut6, Nd.drop7, listN1, listN2, listN3, fault_lower, word_ok hw hn, Tok.enc, k1', k2', named_ok hw hn, hs, is_ok hw hn, hb, g2]
theorem expr_else (hw : WF ws) (hn : n < ws.length) (hs : isW ws n [105, 102] = false) {o : Out} (h1 : PRun 126 ws n o) : PRun 66 ws n o := by
  cases o with
  | ok e n1 =>
    obtain ⟨g1, g2, g3, g4⟩ := h1
    refine ⟨g1, g2, g3, fun h i hi => ?_⟩
    have hlt := lt_of_box hi
    rw [PBi] at hi
    rw [Wd_fn rfl (show T.get 66 = some c66 by kernel_rfl)]
    simp only [c66, sT.1, sC.1, noApp, lookV, Nat.testBit, simprocAttr, -Int.reduceNatCast', at_ok hw hn, hi, hlt, PBi, fillS, make0, Nd.dimE, Nd.cellsE, Nd.cutE, Nd.dims, Nd.len, Nd.stor, Nd.lower, Nd.drainE, Nd.cut6, Nd.drop7, listN1, listN2, listN3, fault_lower, take_no hw hn, hs, g4]
  | no p err m =>
    obtain ⟨g1, g2⟩ := h1
    refine ⟨g1, fun h i hi => ?_⟩
    have hlt := lt_of_box hi
    rw [PBi] at hi
    rw [Wd_fn rfl (show T.get 66 = some c66 by kernel_rfl)]
    simp only [c66, sT.1, sC.1, noApp, lookV, Nat.testBit, simprocAttr, -Int.reduceNatCast', at_ok hw hn, hi, hlt, PBi, fillS, make0, Nd.dimE, Nd.cellsE, Nd.cutE, Nd.dims, Nd.len, Nd.stor, Nd.lower, Nd.drainE, Nd.cut6, Nd.drop7, listN1, listN2, listN3, fault_lower, take_no hw hn, hs, g2]
theorem least1 (hw : WF ws) (hn : n < ws.length) (hs : isW ws n [108, 101, 97, 115, 116] = true) (h1 : isW ws (n + 1) [40] = false) : PRun 296 ws n (.no (word ws (n + 1)).pos 6 (n + 1)) := by
  have n1 := isW_next hw hn hs
  have q0 : isW ws n [116, 114, 117, 101] = false := isW_other hs (by decide)
  have q1 : isW ws n [102, 97, 108, 115, 101] = false := isW_other hs (by decide)
  have q2 : isW ws n [101, 108, 97, 112, 115, 101, 100] = false := isW_other hs (by decide)
  have q3 : isW ws n [99, 111, 117, 110, 116] = false := isW_other hs (by decide)
  have q4 : isW ws n [104, 97, 115] = false := isW_other hs (by decide)
  have q5 : isW ws n [115, 117, 109] = false := isW_other hs (by decide)
  refine ⟨n1, fun h i hi => ?_⟩
  have hlt := lt_of_box hi
  rw [PBi] at hi
  rw [Wd_fn rfl (show T.get 296 = some c296 by kernel_rfl)]
  simp only [c296, sT.1, sC.1, noApp, lookV, Nat.testBit, simprocAttr, -Int.reduceNatCast', at_ok hw hn, hi, hlt, PBi, fillS, make0, Nd.dimE, Nd.cellsE, Nd.cutE, Nd.dims, Nd.len, Nd.stor, Nd.lower, Nd.drainE, Nd.cut6, Nd.drop7, listN1, listN2, listN3, fault_lower, take_yes hw hn, take_no hw hn, hs, q0, q1, q2, q3, q4, q5, need_no hw n1, h1]
theorem least2 (hw : WF ws) (hn : n < ws.length) (hs : isW ws n [108, 101, 97, 115, 116] = true) (h1 : isW ws (n + 1) [40] = true) (h2 : namedW ws (n + 1 + 1) = false) : PRun 296 ws n (.no (word ws (n + 1 + 1)).pos 6 (n + 1 + 1)) := by
  have n1 := isW_next hw hn hs
  have n2 := isW_next hw n1 h1
  have q0 : isW ws n [116, 114, 117, 101] = false := isW_other hs (by decide)
  have q1 : isW ws n [102, 97, 108, 115, 101] = false := isW_other hs (by decide)
  have q2 : isW ws n [101, 108, 97, 112, 115, 101, 100] = false := isW_other hs (by decide)
  have q3 : isW ws n [99, 111, 117, 110, 116] = false := isW_other hs (by decide)
  have q4 : isW ws n [104, 97, 115] = false := isW_other hs (by decide)
  have q5 : isW ws n [115, 117, 109] = false := isW_other hs (by decide)
  refine ⟨n2, fun h i hi => ?_⟩
  have hlt := lt_of_box hi
  rw [PBi] at hi
  rw [Wd_fn rfl (show T.get 296 = some c296 by kernel_rfl)]
  simp only [c296, sT.1, sC.1, noApp, lookV, Nat.testBit, simprocAttr, -Int.reduceNatCast', at_ok hw hn, hi, hlt, PBi, fillS, make0, Nd.dimE, Nd.cellsE, Nd.cutE, Nd.dims, Nd.len, Nd.stor, Nd.lower, Nd.drainE, Nd.cut6, Nd.drop7, listN1, listN2, listN3, fault_lower, take_yes hw hn, take_no hw hn, hs, q0, q1, q2, q3, q4, q5, need_yes hw n1, h1, name_no hw n2, h2]
theorem least3 (hw : WF ws) (hn : n < ws.length) (hs : isW ws n [108, 101, 97, 115, 116] = true) (h1 : isW ws (n + 1) [40] = true) (h2 : namedW ws (n + 1 + 1) = true) (h3 : isW ws (n + 1 + 1 + 1) [44] = false) : PRun 296 ws n (.no (word ws (n + 1 + 1 + 1)).pos 6 (n + 1 + 1 + 1)) := by
  have n1 := isW_next hw hn hs
  have n2 := isW_next hw n1 h1
  have n3 := namedW_next hw n2 h2
  have q0 : isW ws n [116, 114, 117, 101] = false := isW_other hs (by decide)
  have q1 : isW ws n [102, 97, 108, 115, 101] = false := isW_other hs (by decide)
  have q2 : isW ws n [101, 108, 97, 112, 115, 101, 100] = false := isW_other hs (by decide)
  have q3 : isW ws n [99, 111, 117, 110, 116] = false := isW_other hs (by decide)
  have q4 : isW ws n [104, 97, 115] = false := isW_other hs (by decide)
  have q5 : isW ws n [115, 117, 109] = false := isW_other hs (by decide)
  refine ⟨n3, fun h i hi => ?_⟩
  have hlt := lt_of_box hi
  rw [PBi] at hi
  rw [Wd_fn rfl (show T.get 296 = some c296 by kernel_rfl)]
  simp only [c296, sT.1, sC.1, noApp, lookV, Nat.testBit, simprocAttr, -Int.reduceNatCast', at_ok hw hn, hi, hlt, PBi, fillS, make0, Nd.dimE, Nd.cellsE, Nd.cutE, Nd.dims, Nd.len, Nd.stor, Nd.lower, Nd.drainE, Nd.cut6, Nd.drop7, listN1, listN2, listN3, fault_lower, take_yes hw hn, take_no hw hn, hs, q0, q1, q2, q3, q4, q5, need_yes hw n1, h1, name_yes hw n2, h2, need_no hw n3, h3]
theorem least4 (hw : WF ws) (hn : n < ws.length) (hs : isW ws n [108, 101, 97, 115, 116] = true) (h1 : isW ws (n + 1) [40] = true) (h2 : namedW ws (n + 1 + 1) = true) (h3 : isW ws (n + 1 + 1 + 1) [44] = true) {p err : Int} {m : Nat} (h4 : PRun 66 ws (n + 1 + 1 + 1 + 1) (.no p err m)) : PRun 296 ws n (.no p err m) := by
  have n1 := isW_next hw hn hs
  have n2 := isW_next hw n1 h1
  have n3 := namedW_next hw n2 h2
  have n4 := isW_next hw n3 h3
  have q0 : isW ws n [116, 114, 117, 101] = false := isW_other hs (by decide)
  have q1 : isW ws n [102, 97, 108, 115, 101] = false := isW_other hs (by decide)
  have q2 : isW ws n [101, 108, 97, 112, 115, 101, 100] = false := isW_other hs (by decide)
  have q3 : isW ws n [99, 111, 117, 110, 116] = false := isW_other hs (by decide)
  have q4 : isW ws n [104, 97, 115] = false := isW_other hs (by decide)
  have q5 : isW ws n [115, 117, 109] = false := isW_other hs (by decide)
  obtain ⟨x1, x2⟩ := h4
  refine ⟨x1, fun h i hi => ?_⟩
  have hlt := lt_of_box hi
  rw [PBi] at hi
  rw [Wd_fn rfl (show T.get 296 = some c296 by kernel_rfl)]
  simp only [c296, sT.1, sC.1, noApp, lookV, Nat.testBit, simprocAttr, -Int.reduceNatCast', at_ok hw hn, hi, hlt, PBi, fillS, make0, Nd.dimE, Nd.cellsE, Nd.cutE, Nd.dims, Nd.len, Nd.stor, Nd.lower, Nd.drainE, Nd.cut6, Nd.drop7, listN1, listN2, listN3, fault_lower, take_yes hw hn, take_no hw hn, hs, q0, q1, q2, q3, q4, q5, need_yes hw n1, h1, name_yes hw n2, h2, need_yes hw n3, h3, x2]
theorem least5 (hw : WF ws) (hn : n < ws.length) (hs : isW ws n [108, 101, 97, 115, 116] = true) (h1 : isW ws (n + 1) [40] = true) (h2 : namedW ws (n + 1 + 1) = true) (h3 : isW ws (n + 1 + 1 + 1) [44] = true) {x : Exp} {m : Nat} (h4 : PRun 66 ws (n + 1 + 1 + 1 + 1) (.ok x m)) (h5 : isW ws m [41] = false) : PRun 296 ws n (.no (word ws m).pos 6 m) := by
  have n1 := isW_next hw hn hs
  have n2 := isW_next hw n1 h1
  have n3 := namedW_next hw n2 h2
  have n4 := isW_next hw n3 h3
  have q0 : isW ws n [116, 114, 117, 101] = false := isW_other hs (by decide)
  have q1 : isW ws n [102, 97, 108, 115, 101] = false := isW_other hs (by decide)
  have q2 : isW ws n [101, 108, 97, 112, 115, 101, 100] = false := isW_other hs (by decide)
  have q3 : isW ws n [99, 111, 117, 110, 116] = false := isW_other hs (by decide)
  have q4 : isW ws n [104, 97, 115] = false := isW_other hs (by decide)
  have q5 : isW ws n [115, 117, 109] = false := isW_other hs (by decide)
  obtain ⟨x1, x2, x3, x4⟩ := h4
  refine ⟨x2, fun h i hi => ?_⟩
  have hb1 : Nat.ble h.length (h.length + 1) = true := ble_true (by omega)
  have hlt := lt_of_box hi
  rw [PBi] at hi
  rw [Wd_fn rfl (show T.get 296 = some c296 by kernel_rfl)]
  simp only [c296, sT.1, sC.1, noApp, lookV, Nat.testBit, simprocAttr, -Int.reduceNatCast', at_ok hw hn, hi, hlt, PBi, fillS, make0, Nd.dimE, Nd.cellsE, Nd.cutE, Nd.dims, Nd.len, Nd.stor, Nd.lower, Nd.drainE, Nd.cut6, Nd.drop7, listN1, listN2, listN3, fault_lower, take_yes hw hn, take_no hw hn, hs, q0, q1, q2, q3, q4, q5, need_yes hw n1, h1, name_yes hw n2, h2, need_yes hw n3, h3, x4, need_no hw x2, h5, hb1]
theorem least6 (hw : WF ws) (hn : n < ws.length) (hs : isW ws n [108, 101, 97, 115, 116] = true) (h1 : isW ws (n + 1) [40] = true) (h2 : namedW ws (n + 1 + 1) = true) (h3 : isW ws (n + 1 + 1 + 1) [44] = true) {x : Exp} {m : Nat} (h4 : PRun 66 ws (n + 1 + 1 + 1 + 1) (.ok x m)) (h5 : isW ws m [41] = true) (hd : ¬ (Exp.mk 10 0 (word ws (n + 1 + 1)).s [] [x]).depth ≤ 20) : PRun 296 ws n (.no (word ws n).pos 7 (m + 1)) := by
  have n1 := isW_next hw hn hs
  have n2 := isW_next hw n1 h1
  have n3 := namedW_next hw n2 h2
  have n4 := isW_next hw n3 h3
  have q0 : isW ws n [116, 114, 117, 101] = false := isW_other hs (by decide)
  have q1 : isW ws n [102, 97, 108, 115, 101] = false := isW_other hs (by decide)
  have q2 : isW ws n [101, 108, 97, 112, 115, 101, 100] = false := isW_other hs (by decide)
  have q3 : isW ws n [99, 111, 117, 110, 116] = false := isW_other hs (by decide)
  have q4 : isW ws n [104, 97, 115] = false := isW_other hs (by decide)
  have q5 : isW ws n [115, 117, 109] = false := isW_other hs (by decide)
  obtain ⟨x1, x2, x3, x4⟩ := h4
  refine ⟨isW_next hw x2 h5, fun h i hi => ?_⟩
  have hb1 : Nat.ble h.length (h.length + 1) = true := ble_true (by omega)
  have hlt := lt_of_box hi
  rw [PBi] at hi
  rw [Wd_fn rfl (show T.get 296 = some c296 by kernel_rfl)]
  simp only [c296, sT.1, sC.1, noApp, lookV, Nat.testBit, simprocAttr, -Int.reduceNatCast', at_ok hw hn, hi, hlt, PBi, fillS, make0, Nd.dimE, Nd.cellsE, Nd.cutE, Nd.dims, Nd.len, Nd.stor, Nd.lower, Nd.drainE, Nd.cut6, Nd.drop7, listN1, listN2, listN3, fault_lower, take_yes hw hn, take_no hw hn, hs, q0, q1, q2, q3, q4, q5, need_yes hw n1, h1, name_yes hw n2, h2, need_yes hw n3, h3, x4, x3, need_yes hw x2, h5, make1, hd, hb1]
theorem least7 (hw : WF ws) (hn : n < ws.length) (hs : isW ws n [108, 101, 97, 115, 116] = true) (h1 : isW ws (n + 1) [40] = true) (h2 : namedW ws (n + 1 + 1) = true) (h3 : isW ws (n + 1 + 1 + 1) [44] = true) {x : Exp} {m : Nat} (h4 : PRun 66 ws (n + 1 + 1 + 1 + 1) (.ok x m)) (h5 : isW ws m [41] = true) (hd : (Exp.mk 10 0 (word ws (n + 1 + 1)).s [] [x]).depth ≤ 20) : PRun 296 ws n (.ok (.mk 10 0 (word ws (n + 1 + 1)).s [] [x]) (m + 1)) := by
  have n1 := isW_next hw hn hs
  have n2 := isW_next hw n1 h1
  have n3 := namedW_next hw n2 h2
  have n4 := isW_next hw n3 h3
  have q0 : isW ws n [116, 114, 117, 101] = false := isW_other hs (by decide)
  have q1 : isW ws n [102, 97, 108, 115, 101] = false := isW_other hs (by decide)
  have q2 : isW ws n [101, 108, 97, 112, 115, 101, 100] = false := isW_other hs (by decide)
  have q3 : isW ws n [99, 111, 117, 110, 116] = false := isW_other hs (by decide)
  have q4 : isW ws n [104, 97, 115] = false := isW_other hs (by decide)
  have q5 : isW ws n [115, 117, 109] = false := isW_other hs (by decide)
  obtain ⟨x1, x2, x3, x4⟩ := h4
  refine ⟨by omega, isW_next hw x2 h5, hd, fun h i hi => ?_⟩
  have hb1 : Nat.ble h.length (h.length + 1) = true := ble_true (by omega)
  have hlt := lt_of_box hi
  rw [PBi] at hi
  rw [Wd_fn rfl (show T.get 296 = some c296 by kernel_rfl)]
  simp only [c296, sT.1, sC.1, noApp, lookV, Nat.testBit, simprocAttr, -Int.reduceNatCast', at_ok hw hn, hi, hlt, PBi, fillS, make0, Nd.dimE, Nd.cellsE, Nd.cutE, Nd.dims, Nd.len, Nd.stor, Nd.lower, Nd.drainE, Nd.cut6, Nd.drop7, listN1, listN2, listN3, fault_lower, take_yes hw hn, take_no hw hn, hs, q0, q1, q2, q3, q4, q5, need_yes hw n1, h1, name_yes hw n2, h2, need_yes hw n3, h3, x4, x3, need_yes hw x2, h5, make1, hd, hb1]
theorem if1 (hw : WF ws) (hn : n < ws.length) (hs : isW ws n [105, 102] = true) {p err : Int} {m : Nat} (hx : PRun 66 ws (n + 1) (.no p err m)) : PRun 66 ws n (.no p err m) := by
  obtain ⟨x1, x2⟩ := hx
  refine ⟨x1, fun h i hi => ?_⟩
  have hb1 : Nat.ble h.length (h.length + 1) = true := ble_true (by omega)
  have hb2 : Nat.ble h.length (h.length + 2) = true := ble_true (by omega)
  have hb3 : Nat.ble h.length (h.length + 3) = true := ble_true (by omega)
  have hlt := lt_of_box hi
  rw [PBi] at hi
  rw [Wd_fn rfl (show T.get 66 = some c66 by kernel_rfl)]
  simp only [c66, sT.1, sC.1, noApp, lookV, Nat.testBit, simprocAttr, -Int.reduceNatCast', at_ok hw hn, hi, hlt, PBi, fillS, make0, Nd.dimE, Nd.cellsE, Nd.cutE, Nd.dims, Nd.len, Nd.stor, Nd.lower, Nd.drainE, Nd.cut6, Nd.drop7, listN1, listN2, listN3, fault_lower, take_yes hw hn, hs, hb1, hb2, hb3, x2]
theorem if2 (hw : WF ws) (hn : n < ws.length) (hs : isW ws n [105, 102] = true) {a : Exp} {n1 : Nat} (ha : PRun 66 ws (n + 1) (.ok a n1)) (ht : isW ws n1 [116, 104, 101, 110] = false) : PRun 66 ws n (.no (word ws n1).pos 6 n1) := by
  obtain ⟨a1, a2, a3, a4⟩ := ha
  refine ⟨a2, fun h i hi => ?_⟩
  have hb1 : Nat.ble h.length (h.length + 1) = true := ble_true (by omega)
  have hb2 : Nat.ble h.length (h.length + 2) = true := ble_true (by omega)
  have hb3 : Nat.ble h.length (h.length + 3) = true := ble_true (by omega)
  have hlt := lt_of_box hi
  rw [PBi] at hi
  rw [Wd_fn rfl (show T.get 66 = some c66 by kernel_rfl)]
  simp only [c66, sT.1, sC.1, noApp, lookV, Nat.testBit, simprocAttr, -Int.reduceNatCast', at_ok hw hn, hi, hlt, PBi, fillS, make0, Nd.dimE, Nd.cellsE, Nd.cutE, Nd.dims, Nd.len, Nd.stor, Nd.lower, Nd.drainE, Nd.cut6, Nd.drop7, listN1, listN2, listN3, fault_lower, take_yes hw hn, hs, hb1, hb2, hb3, a4, need_no hw a2, ht]
theorem if3 (hw : WF ws) (hn : n < ws.length) (hs : isW ws n [105, 102] = true) {a : Exp} {n1 : Nat} (ha : PRun 66 ws (n + 1) (.ok a n1)) (ht : isW ws n1 [116, 104, 101, 110] = true) {p err : Int} {m : Nat} (hx : PRun 66 ws (n1 + 1) (.no p err m)) : PRun 66 ws n (.no p err m) := by
  obtain ⟨a1, a2, a3, a4⟩ := ha
  obtain ⟨x1, x2⟩ := hx
  refine ⟨x1, fun h i hi => ?_⟩
  have hb1 : Nat.ble h.length (h.length + 1) = true := ble_true (by omega)
  have hb2 : Nat.ble h.length (h.length + 2) = true := ble_true (by omega)
  have hb3 : Nat.ble h.length (h.length + 3) = true := ble_true (by omega)
  have hlt := lt_of_box hi
  rw [PBi] at hi
  rw [Wd_fn rfl (show T.get 66 = some c66 by kernel_rfl)]
  simp only [c66, sT.1, sC.1, noApp, lookV, Nat.testBit, simprocAttr, -Int.reduceNatCast', at_ok hw hn, hi, hlt, PBi, fillS, make0, Nd.dimE, Nd.cellsE, Nd.cutE, Nd.dims, Nd.len, Nd.stor, Nd.lower, Nd.drainE, Nd.cut6, Nd.drop7, listN1, listN2, listN3, fault_lower, take_yes hw hn, hs, hb1, hb2, hb3, a4, need_yes hw a2, ht, x2]
theorem if4 (hw : WF ws) (hn : n < ws.length) (hs : isW ws n [105, 102] = true) {a : Exp} {n1 : Nat} (ha : PRun 66 ws (n + 1) (.ok a n1)) (ht : isW ws n1 [116, 104, 101, 110] = true) {b : Exp} {n2 : Nat} (hb : PRun 66 ws (n1 + 1) (.ok b n2)) (hl : isW ws n2 [101, 108, 115, 101] = false) : PRun 66 ws n (.no (word ws n2).pos 6 n2) := by
  obtain ⟨a1, a2, a3, a4⟩ := ha
  obtain ⟨b1, b2, b3, b4⟩ := hb
  refine ⟨b2, fun h i hi => ?_⟩
  have hb1 : Nat.ble h.length (h.length + 1) = true := ble_true (by omega)
  have hb2 : Nat.ble h.length (h.length + 2) = true := ble_true (by omega)
  have hb3 : Nat.ble h.length (h.length + 3) = true := ble_true (by omega)
  have hlt := lt_of_box hi
  rw [PBi] at hi
  rw [Wd_fn rfl (show T.get 66 = some c66 by kernel_rfl)]
  simp only [c66, sT.1, sC.1, noApp, lookV, Nat.testBit, simprocAttr, -Int.reduceNatCast', at_ok hw hn, hi, hlt, PBi, fillS, make0, Nd.dimE, Nd.cellsE, Nd.cutE, Nd.dims, Nd.len, Nd.stor, Nd.lower, Nd.drainE, Nd.cut6, Nd.drop7, listN1, listN2, listN3, fault_lower, take_yes hw hn, hs, hb1, hb2, hb3, a4, need_yes hw a2, ht, b4, need_no hw b2, hl]
theorem if5 (hw : WF ws) (hn : n < ws.length) (hs : isW ws n [105, 102] = true) {a : Exp} {n1 : Nat} (ha : PRun 66 ws (n + 1) (.ok a n1)) (ht : isW ws n1 [116, 104, 101, 110] = true) {b : Exp} {n2 : Nat} (hb : PRun 66 ws (n1 + 1) (.ok b n2)) (hl : isW ws n2 [101, 108, 115, 101] = true) {p err : Int} {m : Nat} (hx : PRun 66 ws (n2 + 1) (.no p err m)) : PRun 66 ws n (.no p err m) := by
  obtain ⟨a1, a2, a3, a4⟩ := ha
  obtain ⟨b1, b2, b3, b4⟩ := hb
  obtain ⟨x1, x2⟩ := hx
  refine ⟨x1, fun h i hi => ?_⟩
  have hb1 : Nat.ble h.length (h.length + 1) = true := ble_true (by omega)
  have hb2 : Nat.ble h.length (h.length + 2) = true := ble_true (by omega)
  have hb3 : Nat.ble h.length (h.length + 3) = true := ble_true (by omega)
  have hlt := lt_of_box hi
  rw [PBi] at hi
  rw [Wd_fn rfl (show T.get 66 = some c66 by kernel_rfl)]
  simp only [c66, sT.1, sC.1, noApp, lookV, Nat.testBit, simprocAttr, -Int.reduceNatCast', at_ok hw hn, hi, hlt, PBi, fillS, make0, Nd.dimE, Nd.cellsE, Nd.cutE, Nd.dims, Nd.len, Nd.stor, Nd.lower, Nd.drainE, Nd.cut6, Nd.drop7, listN1, listN2, listN3, fault_lower, take_yes hw hn, hs, hb1, hb2, hb3, a4, need_yes hw a2, ht, b4, need_yes hw b2, hl, x2]
theorem if6 (hw : WF ws) (hn : n < ws.length) (hs : isW ws n [105, 102] = true) {a : Exp} {n1 : Nat} (ha : PRun 66 ws (n + 1) (.ok a n1)) (ht : isW ws n1 [116, 104, 101, 110] = true) {b : Exp} {n2 : Nat} (hb : PRun 66 ws (n1 + 1) (.ok b n2)) (hl : isW ws n2 [101, 108, 115, 101] = true) {c : Exp} {n3 : Nat} (hc : PRun 66 ws (n2 + 1) (.ok c n3)) (hd : ¬ (Exp.mk 25 0 [] [] [a, b, c]).depth ≤ 20) : PRun 66 ws n (.no (word ws n).pos 7 n3) := by
  obtain ⟨a1, a2, a3, a4⟩ := ha
  obtain ⟨b1, b2, b3, b4⟩ := hb
  obtain ⟨c1, c2, c3, c4⟩ := hc
  refine ⟨c2, fun h i hi => ?_⟩
  have hb1 : Nat.ble h.length (h.length + 1) = true := ble_true (by omega)
  have hb2 : Nat.ble h.length (h.length + 2) = true := ble_true (by omega)
  have hb3 : Nat.ble h.length (h.length + 3) = true := ble_true (by omega)
  have hlt := lt_of_box hi
  rw [PBi] at hi
  rw [Wd_fn rfl (show T.get 66 = some c66 by kernel_rfl)]
  simp only [c66, sT.1, sC.1, noApp, lookV, Nat.testBit, simprocAttr, -Int.reduceNatCast', at_ok hw hn, hi, hlt, PBi, fillS, make0, Nd.dimE, Nd.cellsE, Nd.cutE, Nd.dims, Nd.len, Nd.stor, Nd.lower, Nd.drainE, Nd.cut6, Nd.drop7, listN1, listN2, listN3, fault_lower, take_yes hw hn, hs, hb1, hb2, hb3, a4, need_yes hw a2, ht, b4, need_yes hw b2, hl, c4, a3, b3, c3, make3, hd]
theorem if7 (hw : WF ws) (hn : n < ws.length) (hs : isW ws n [105, 102] = true) {a : Exp} {n1 : Nat} (ha : PRun 66 ws (n + 1) (.ok a n1)) (ht : isW ws n1 [116, 104, 101, 110] = true) {b : Exp} {n2 : Nat} (hb : PRun 66 ws (n1 + 1) (.ok b n2)) (hl : isW ws n2 [101, 108, 115, 101] = true) {c : Exp} {n3 : Nat} (hc : PRun 66 ws (n2 + 1) (.ok c n3)) (hd : (Exp.mk 25 0 [] [] [a, b, c]).depth ≤ 20) : PRun 66 ws n (.ok (.mk 25 0 [] [] [a, b, c]) n3) := by
  obtain ⟨a1, a2, a3, a4⟩ := ha
  obtain ⟨b1, b2, b3, b4⟩ := hb
  obtain ⟨c1, c2, c3, c4⟩ := hc
  refine ⟨by omega, c2, hd, fun h i hi => ?_⟩
  have hb1 : Nat.ble h.length (h.length + 1) = true := ble_true (by omega)
  have hb2 : Nat.ble h.length (h.length + 2) = true := ble_true (by omega)
  have hb3 : Nat.ble h.length (h.length + 3) = true := ble_true (by omega)
  have hlt := lt_of_box hi
  rw [PBi] at hi
  rw [Wd_fn rfl (show T.get 66 = some c66 by kernel_rfl)]
  simp only [c66, sT.1, sC.1, noApp, lookV, Nat.testBit, simprocAttr, -Int.reduceNatCast', at_ok hw hn, hi, hlt, PBi, fillS, make0, Nd.dimE, Nd.cellsE, Nd.cutE, Nd.dims, Nd.len, Nd.stor, Nd.lower, Nd.drainE, Nd.cut6, Nd.drop7, listN1, listN2, listN3, fault_lower, take_yes hw hn, hs, hb1, hb2, hb3, a4, need_yes hw a2, ht, b4, need_yes hw b2, hl, c4, a3, b3, c3, make3, hd]
end
end Go.Proofs.YtlognicjhmcgjaaGreatDoor.AE
set_option maxHeartbeats 800000
namespace Go.Proofs.YtlognicjhmcgjaaGreatDoor.AE
open Go.AE
section
variable {ws : List Tok} {n : Nat} {h : List ABox} {i : Nat}
def kwBegins (s : Str) : Bool := s == [105, 102] || s == [110, 111, 116] || s == [116, 114, 117, 101] || s == [102, 97, 108, 115, 101] || s == [101, 108, 97, 112, 115, 101, 100] || s == [99, 111, 117, 110, 116] || s == [104, 97, 115] || s == [115, 117, 109] || s == [108, 101, 97, 115, 116]
def begins (ws : List Tok) (n : Nat) : Bool := (word ws n).kind == 1 || ((word ws n).kind == 2 || (namedW ws n || (((word ws n).kind == 3 && ((word ws n).s == [40] || (word ws n).s == [45])) || ((word ws n).kind == 0 && kwBegins (word ws n).s))))
theorem manyItems_ok (hw : WF ws) (hn : n < ws.length) (hi : h[i]? = some (PB ws n)) : Wd (.fn 297 [] []) [.ptr i 0] h = some (.pan (fault (word ws n).pos (bif begins ws n then 8 else 6)), h, false) := by
  have hlt := lt_of_box hi
  rw [PBi] at hi
  rw [Wd_fn rfl (show T.get 297 = some c297 by kernel_rfl)]
  have hbad : ∀ l : List ABox, Wd (.fn 76 [] []) [.ptr i 0] (h ++ l) = some (.pan (fault (word ws n).pos 6), h ++ l, false) := fun l => bad_ok hw hn (by rw [get_old hlt, hi, PBi])
  cases k1 : ((word ws n).kind == 1) with
  | true =>
    simp only [c297, sT.1, sC.1, noApp, lookV, Nat.testBit, reduceCtorEq, Nat.reduceAdd, Nat.reduceSub, Nat.reduceLT, Nat.reduceEqDiff, Nat.reduceLeDiff, Nat.reduceMul, Int.reduceToNat, Nat.reduceShiftRight, Nat.reduceAnd, Nat.reduceBneDiff, Nat.reduceBEq, word_ok hw hn, Tok.enc, hi, hlt, PBi, fail_ok, named_ok hw hn, bad_ok hw hn, fault_lower, begins, kwBegins, hi, k1]
  | false =>
    cases k2 : ((word ws n).kind == 2) with
    | true =>
      simp only [c297, sT.1, sC.1, noApp, lookV, Nat.testBit, reduceCtorEq, Nat.reduceAdd, Nat.reduceSub, Nat.reduceLT, Nat.reduceEqDiff, Nat.reduceLeDiff, Nat.reduceMul, Int.reduceToNat, Nat.reduceShiftRight, Nat.reduceAnd, Nat.reduceBneDiff, Nat.reduceBEq, word_ok hw hn, Tok.enc, hi, hlt, PBi, fail_ok, named_ok hw hn, bad_ok hw hn, fault_lower, begins, kwBegins, hi, k1, k2]
    | false =>
      cases nm : namedW ws n with
      | true =>
        simp only [c297, sT.1, sC.1, noApp, lookV, Nat.testBit, reduceCtorEq, Nat.reduceAdd, Nat.reduceSub, Nat.reduceLT, Nat.reduceEqDiff, Nat.reduceLeDiff, Nat.reduceMul, Int.reduceToNat, Nat.reduceShiftRight, Nat.reduceAnd, Nat.reduceBneDiff, Nat.reduceBEq, word_ok hw hn, Tok.enc, hi, hlt, PBi, fail_ok, named_ok hw hn, bad_ok hw hn, fault_lower, begins, kwBegins, hi, k1, k2, nm]
      | false =>
        cases k3 : ((word ws n).kind == 3) with
        | true =>
          cases p : ((word ws n).s == [40]) with
          | true =>
            simp only [c297, sT.1, sC.1, noApp, lookV, Nat.testBit, reduceCtorEq, Nat.reduceAdd, Nat.reduceSub, Nat.reduceLT, Nat.reduceEqDiff, Nat.reduceLeDiff, Nat.reduceMul, Int.reduceToNat, Nat.reduceShiftRight, Nat.reduceAnd, Nat.reduceBneDiff, Nat.reduceBEq, word_ok hw hn, Tok.enc, hi, hlt, PBi, fail_ok, named_ok hw hn, bad_ok hw hn, fault_lower, begins, kwBegins, hi, k1, k2, nm, k3, p]
          | false =>
            cases d : ((word ws n).s == [45]) with
            | true =>
              simp only [c297, sT.1, sC.1, noApp, lookV, Nat.testBit, reduceCtorEq, Nat.reduceAdd, Nat.reduceSub, Nat.reduceLT, Nat.reduceEqDiff, Nat.reduceLeDiff, Nat.reduceMul, Int.reduceToNat, Nat.reduceShiftRight, Nat.reduceAnd, Nat.reduceBneDiff, Nat.reduceBEq, word_ok hw hn, Tok.enc, hi, hlt, PBi, fail_ok, named_ok hw hn, bad_ok hw hn, fault_lower, begins, kwBegins, hi, k1, k2, nm, k3, p, d]
            | false =>
              cases k0 : ((word ws n).kind == 0) with
              | true =>
                cases b0 : ((word ws n).s == [105, 102]) with
                | true =>
                  simp only [c297, sT.1, sC.1, noApp, lookV, Nat.testBit, reduceCtorEq, Nat.reduceAdd, Nat.reduceSub, Nat.reduceLT, Nat.reduceEqDiff, Nat.reduceLeDiff, Nat.reduceMul, Int.reduceToNat, Nat.reduceShiftRight, Nat.reduceAnd, Nat.reduceBneDiff, Nat.reduceBEq, word_ok hw hn, Tok.enc, hi, hlt, PBi, fail_ok, named_ok hw hn, bad_ok hw hn, fault_lower, begins, kwBegins, hi, k1, k2, nm, k3, p, d, k0, b0]
                | false =>
                  cases b1 : ((word ws n).s == [110, 111, 116]) with
                  | true =>
                    simp only [c297, sT.1, sC.1, noApp, lookV, Nat.testBit, reduceCtorEq, Nat.reduceAdd, Nat.reduceSub, Nat.reduceLT, Nat.reduceEqDiff, Nat.reduceLeDiff, Nat.reduceMul, Int.reduceToNat, Nat.reduceShiftRight, Nat.reduceAnd, Nat.reduceBneDiff, Nat.reduceBEq, word_ok hw hn, Tok.enc, hi, hlt, PBi, fail_ok, named_ok hw hn, bad_ok hw hn, fault_lower, begins, kwBegins, hi, k1, k2, nm, k3, p, d, k0, b0, b1]
                  | false =>
                    cases b2 : ((word ws n).s == [116, 114, 117, 101]) with
                    | true =>
                      simp only [c297, sT.1, sC.1, noApp, lookV, Nat.testBit, reduceCtorEq, Nat.reduceAdd, Nat.reduceSub, Nat.reduceLT, Nat.reduceEqDiff, Nat.reduceLeDiff, Nat.reduceMul, Int.reduceToNat, Nat.reduceShiftRight, Nat.reduceAnd, Nat.reduceBneDiff, Nat.reduceBEq, word_ok hw hn, Tok.enc, hi, hlt, PBi, fail_ok, named_ok hw hn, bad_ok hw hn, fault_lower, begins, kwBegins, hi, k1, k2, nm, k3, p, d, k0, b0, b1, b2]
                    | false =>
                      cases b3 : ((word ws n).s == [102, 97, 108, 115, 101]) with
                      | true =>
                        simp only [c297, sT.1, sC.1, noApp, lookV, Nat.testBit, reduceCtorEq, Nat.reduceAdd, Nat.reduceSub, Nat.reduceLT, Nat.reduceEqDiff, Nat.reduceLeDiff, Nat.reduceMul, Int.reduceToNat, Nat.reduceShiftRight, Nat.reduceAnd, Nat.reduceBneDiff, Nat.reduceBEq, word_ok hw hn, Tok.enc, hi, hlt, PBi, fail_ok, named_ok hw hn, bad_ok hw hn, fault_lower, begins, kwBegins, hi, k1, k2, nm, k3, p, d, k0, b0, b1, b2, b3]
                      | false =>
                        cases b4 : ((word ws n).s == [101, 108, 97, 112, 115, 101, 100]) with
                        | true =>
                          simp only [c297, sT.1, sC.1, noApp, lookV, Nat.testBit, reduceCtorEq, Nat.reduceAdd, Nat.reduceSub, Nat.reduceLT, Nat.reduceEqDiff, Nat.reduceLeDiff, Nat.reduceMul, Int.reduceToNat, Nat.reduceShiftRight, Nat.reduceAnd, Nat.reduceBneDiff, Nat.reduceBEq, word_ok hw hn, Tok.enc, hi, hlt, PBi, fail_ok, named_ok hw hn, bad_ok hw hn, fault_lower, begins, kwBegins, hi, k1, k2, nm, k3, p, d, k0, b0, b1, b2, b3, b4]
                        | false =>
                          cases b5 : ((word ws n).s == [99, 111, 117, 110, 116]) with
                          | true =>
                            simp only [c297, sT.1, sC.1, noApp, lookV, Nat.testBit, reduceCtorEq, Nat.reduceAdd, Nat.reduceSub, Nat.reduceLT, Nat.reduceEqDiff, Nat.reduceLeDiff, Nat.reduceMul, Int.reduceToNat, Nat.reduceShiftRight, Nat.reduceAnd, Nat.reduceBneDiff, Nat.reduceBEq, word_ok hw hn, Tok.enc, hi, hlt, PBi, fail_ok, named_ok hw hn, bad_ok hw hn, fault_lower, begins, kwBegins, hi, k1, k2, nm, k3, p, d, k0, b0, b1, b2, b3, b4, b5]
                          | false =>
                            cases b6 : ((word ws n).s == [104, 97, 115]) with
                            | true =>
                              simp only [c297, sT.1, sC.1, noApp, lookV, Nat.testBit, reduceCtorEq, Nat.reduceAdd, Nat.reduceSub, Nat.reduceLT, Nat.reduceEqDiff, Nat.reduceLeDiff, Nat.reduceMul, Int.reduceToNat, Nat.reduceShiftRight, Nat.reduceAnd, Nat.reduceBneDiff, Nat.reduceBEq, word_ok hw hn, Tok.enc, hi, hlt, PBi, fail_ok, named_ok hw hn, bad_ok hw hn, fault_lower, begins, kwBegins, hi, k1, k2, nm, k3, p, d, k0, b0, b1, b2, b3, b4, b5, b6]
                            | false =>
                              cases b7 : ((word ws n).s == [115, 117, 109]) with
                              | true =>
                                simp only [c297, sT.1, sC.1, noApp, lookV, Nat.testBit, reduceCtorEq, Nat.reduceAdd, Nat.reduceSub, Nat.reduceLT, Nat.reduceEqDiff, Nat.reduceLeDiff, Nat.reduceMul, Int.reduceToNat, Nat.reduceShiftRight, Nat.reduceAnd, Nat.reduceBneDiff, Nat.reduceBEq, word_ok hw hn, Tok.enc, hi, hlt, PBi, fail_ok, named_ok hw hn, bad_ok hw hn, fault_lower, begins, kwBegins, hi, k1, k2, nm, k3, p, d, k0, b0, b1, b2, b3, b4, b5, b6, b7]
                              | false =>
                                cases b8 : ((word ws n).s == [108, 101, 97, 115, 116]) with
                                | true =>
                                  simp only [c297, sT.1, sC.1, noApp, lookV, Nat.testBit, reduceCtorEq, Nat.reduceAdd, Nat.reduceSub, Nat.reduceLT, Nat.reduceEqDiff, Nat.reduceLeDiff, Nat.reduceMul, Int.reduceToNat, Nat.reduceShiftRight, Nat.reduceAnd, Nat.reduceBneDiff, Nat.reduceBEq, word_ok hw hn, Tok.enc, hi, hlt, PBi, fail_ok, named_ok hw hn, bad_ok hw hn, fault_lower, begins, kwBegins, hi, k1, k2, nm, k3, p, d, k0, b0, b1, b2, b3, b4, b5, b6, b7, b8]
                                | false =>
                                  simp only [c297, sT.1, sC.1, noApp, lookV, Nat.testBit, reduceCtorEq, Nat.reduceAdd, Nat.reduceSub, Nat.reduceLT, Nat.reduceEqDiff, Nat.reduceLeDiff, Nat.reduceMul, Int.reduceToNat, Nat.reduceShiftRight, Nat.reduceAnd, Nat.reduceBneDiff, Nat.reduceBEq, word_ok hw hn, Tok.enc, hi, hlt, PBi, fail_ok, named_ok hw hn, bad_ok hw hn, fault_lower, begins, kwBegins, hi, k1, k2, nm, k3, p, d, k0, b0, b1, b2, b3, b4, b5, b6, b7, b8]
              | false =>
                simp only [c297, sT.1, sC.1, noApp, lookV, Nat.testBit, reduceCtorEq, Nat.reduceAdd, Nat.reduceSub, Nat.reduceLT, Nat.reduceEqDiff, Nat.reduceLeDiff, Nat.reduceMul, Int.reduceToNat, Nat.reduceShiftRight, Nat.reduceAnd, Nat.reduceBneDiff, Nat.reduceBEq, word_ok hw hn, Tok.enc, hi, hlt, PBi, fail_ok, named_ok hw hn, bad_ok hw hn, fault_lower, begins, kwBegins, hi, k1, k2, nm, k3, p, d, k0]
        | false =>
          cases k0 : ((word ws n).kind == 0) with
          | true =>
            cases b0 : ((word ws n).s == [105, 102]) with
            | true =>
              simp only [c297, sT.1, sC.1, noApp, lookV, Nat.testBit, reduceCtorEq, Nat.reduceAdd, Nat.reduceSub, Nat.reduceLT, Nat.reduceEqDiff, Nat.reduceLeDiff, Nat.reduceMul, Int.reduceToNat, Nat.reduceShiftRight, Nat.reduceAnd, Nat.reduceBneDiff, Nat.reduceBEq, word_ok hw hn, Tok.enc, hi, hlt, PBi, fail_ok, named_ok hw hn, bad_ok hw hn, fault_lower, begins, kwBegins, hi, k1, k2, nm, k3, k0, b0]
            | false =>
              cases b1 : ((word ws n).s == [110, 111, 116]) with
              | true =>
                simp only [c297, sT.1, sC.1, noApp, lookV, Nat.testBit, reduceCtorEq, Nat.reduceAdd, Nat.reduceSub, Nat.reduceLT, Nat.reduceEqDiff, Nat.reduceLeDiff, Nat.reduceMul, Int.reduceToNat, Nat.reduceShiftRight, Nat.reduceAnd, Nat.reduceBneDiff, Nat.reduceBEq, word_ok hw hn, Tok.enc, hi, hlt, PBi, fail_ok, named_ok hw hn, bad_ok hw hn, fault_lower, begins, kwBegins, hi, k1, k2, nm, k3, k0, b0, b1]
              | false =>
                cases b2 : ((word ws n).s == [116, 114, 117, 101]) with
                | true =>
                  simp only [c297, sT.1, sC.1, noApp, lookV, Nat.testBit, reduceCtorEq, Nat.reduceAdd, Nat.reduceSub, Nat.reduceLT, Nat.reduceEqDiff, Nat.reduceLeDiff, Nat.reduceMul, Int.reduceToNat, Nat.reduceShiftRight, Nat.reduceAnd, Nat.reduceBneDiff, Nat.reduceBEq, word_ok hw hn, Tok.enc, hi, hlt, PBi, fail_ok, named_ok hw hn, bad_ok hw hn, fault_lower, begins, kwBegins, hi, k1, k2, nm, k3, k0, b0, b1, b2]
                | false =>
                  cases b3 : ((word ws n).s == [102, 97, 108, 115, 101]) with
                  | true =>
                    simp only [c297, sT.1, sC.1, noApp, lookV, Nat.testBit, reduceCtorEq, Nat.reduceAdd, Nat.reduceSub, Nat.reduceLT, Nat.reduceEqDiff, Nat.reduceLeDiff, Nat.reduceMul, Int.reduceToNat, Nat.reduceShiftRight, Nat.reduceAnd, Nat.reduceBneDiff, Nat.reduceBEq, word_ok hw hn, Tok.enc, hi, hlt, PBi, fail_ok, named_ok hw hn, bad_ok hw hn, fault_lower, begins, kwBegins, hi, k1, k2, nm, k3, k0, b0, b1, b2, b3]
                  | false =>
                    cases b4 : ((word ws n).s == [101, 108, 97, 112, 115, 101, 100]) with
                    | true =>
                      simp only [c297, sT.1, sC.1, noApp, lookV, Nat.testBit, reduceCtorEq, Nat.reduceAdd, Nat.reduceSub, Nat.reduceLT, Nat.reduceEqDiff, Nat.reduceLeDiff, Nat.reduceMul, Int.reduceToNat, Nat.reduceShiftRight, Nat.reduceAnd, Nat.reduceBneDiff, Nat.reduceBEq, word_ok hw hn, Tok.enc, hi, hlt, PBi, fail_ok, named_ok hw hn, bad_ok hw hn, fault_lower, begins, kwBegins, hi, k1, k2, nm, k3, k0, b0, b1, b2, b3, b4]
                    | false =>
                      cases b5 : ((word ws n).s == [99, 111, 117, 110, 116]) with
                      | true =>
                        simp only [c297, sT.1, sC.1, noApp, lookV, Nat.testBit, reduceCtorEq, Nat.reduceAdd, Nat.reduceSub, Nat.reduceLT, Nat.reduceEqDiff, Nat.reduceLeDiff, Nat.reduceMul, Int.reduceToNat, Nat.reduceShiftRight, Nat.reduceAnd, Nat.reduceBneDiff, Nat.reduceBEq, word_ok hw hn, Tok.enc, hi, hlt, PBi, fail_ok, named_ok hw hn, bad_ok hw hn, fault_lower, begins, kwBegins, hi, k1, k2, nm, k3, k0, b0, b1, b2, b3, b4, b5]
                      | false =>
                        cases b6 : ((word ws n).s == [104, 97, 115]) with
                        | true =>
                          simp only [c297, sT.1, sC.1, noApp, lookV, Nat.testBit, reduceCtorEq, Nat.reduceAdd, Nat.reduceSub, Nat.reduceLT, Nat.reduceEqDiff, Nat.reduceLeDiff, Nat.reduceMul, Int.reduceToNat, Nat.reduceShiftRight, Nat.reduceAnd, Nat.reduceBneDiff, Nat.reduceBEq, word_ok hw hn, Tok.enc, hi, hlt, PBi, fail_ok, named_ok hw hn, bad_ok hw hn, fault_lower, begins, kwBegins, hi, k1, k2, nm, k3, k0, b0, b1, b2, b3, b4, b5, b6]
                        | false =>
                          cases b7 : ((word ws n).s == [115, 117, 109]) with
                          | true =>
                            simp only [c297, sT.1, sC.1, noApp, lookV, Nat.testBit, reduceCtorEq, Nat.reduceAdd, Nat.reduceSub, Nat.reduceLT, Nat.reduceEqDiff, Nat.reduceLeDiff, Nat.reduceMul, Int.reduceToNat, Nat.reduceShiftRight, Nat.reduceAnd, Nat.reduceBneDiff, Nat.reduceBEq, word_ok hw hn, Tok.enc, hi, hlt, PBi, fail_ok, named_ok hw hn, bad_ok hw hn, fault_lower, begins, kwBegins, hi, k1, k2, nm, k3, k0, b0, b1, b2, b3, b4, b5, b6, b7]
                          | false =>
                            cases b8 : ((word ws n).s == [108, 101, 97, 115, 116]) with
                            | true =>
                              simp only [c297, sT.1, sC.1, noApp, lookV, Nat.testBit, reduceCtorEq, Nat.reduceAdd, Nat.reduceSub, Nat.reduceLT, Nat.reduceEqDiff, Nat.reduceLeDiff, Nat.reduceMul, Int.reduceToNat, Nat.reduceShiftRight, Nat.reduceAnd, Nat.reduceBneDiff, Nat.reduceBEq, word_ok hw hn, Tok.enc, hi, hlt, PBi, fail_ok, named_ok hw hn, bad_ok hw hn, fault_lower, begins, kwBegins, hi, k1, k2, nm, k3, k0, b0, b1, b2, b3, b4, b5, b6, b7, b8]
                            | false =>
                              simp only [c297, sT.1, sC.1, noApp, lookV, Nat.testBit, reduceCtorEq, Nat.reduceAdd, Nat.reduceSub, Nat.reduceLT, Nat.reduceEqDiff, Nat.reduceLeDiff, Nat.reduceMul, Int.reduceToNat, Nat.reduceShiftRight, Nat.reduceAnd, Nat.reduceBneDiff, Nat.reduceBEq, word_ok hw hn, Tok.enc, hi, hlt, PBi, fail_ok, named_ok hw hn, bad_ok hw hn, fault_lower, begins, kwBegins, hi, k1, k2, nm, k3, k0, b0, b1, b2, b3, b4, b5, b6, b7, b8]
          | false =>
            simp only [c297, sT.1, sC.1, noApp, lookV, Nat.testBit, reduceCtorEq, Nat.reduceAdd, Nat.reduceSub, Nat.reduceLT, Nat.reduceEqDiff, Nat.reduceLeDiff, Nat.reduceMul, Int.reduceToNat, Nat.reduceShiftRight, Nat.reduceAnd, Nat.reduceBneDiff, Nat.reduceBEq, word_ok hw hn, Tok.enc, hi, hlt, PBi, fail_ok, named_ok hw hn, bad_ok hw hn, fault_lower, begins, kwBegins, hi, k1, k2, nm, k3, k0]
theorem end_yes (hw : WF ws) (hn : n < ws.length) (hi : h[i]? = some (PB ws n)) (hk : (word ws n).kind = 4) : Wd (.fn 67 [] []) [.ptr i 0] h = some (.ret (.tup []), h, false) := by
  have k4 : ((word ws n).kind == 4) = true := by simpa using hk
  rw [Wd_fn rfl (show T.get 67 = some c67 by kernel_rfl)]
  simp only [c67, sT.1, sC.1, noApp, lookV, Nat.testBit, reduceCtorEq, Nat.reduceAdd, Nat.reduceSub, Nat.reduceLT, Nat.reduceEqDiff, Nat.reduceLeDiff, Nat.reduceMul, Int.reduceToNat, Nat.reduceShiftRight, Nat.reduceAnd, Nat.reduceBneDiff, Nat.reduceBEq, word_ok hw hn hi, Tok.enc, k4]
theorem end_no (hw : WF ws) (hn : n < ws.length) (hi : h[i]? = some (PB ws n)) (hk : (word ws n).kind ≠ 4) : Wd (.fn 67 [] []) [.ptr i 0] h = some (.pan (fault (word ws n).pos 6), h, false) := by
  have k4 : ((word ws n).kind == 4) = false := by simpa using hk
  rw [Wd_fn rfl (show T.get 67 = some c67 by kernel_rfl)]
  simp only [c67, sT.1, sC.1, noApp, lookV, Nat.testBit, reduceCtorEq, Nat.reduceAdd, Nat.reduceSub, Nat.reduceLT, Nat.reduceEqDiff, Nat.reduceLeDiff, Nat.reduceMul, Int.reduceToNat, Nat.reduceShiftRight, Nat.reduceAnd, Nat.reduceBneDiff, Nat.reduceBEq, word_ok hw hn hi, Tok.enc, k4, bad_ok hw hn hi, fault_lower]
end
end Go.Proofs.YtlognicjhmcgjaaGreatDoor.AE
namespace Go.Proofs.YtlognicjhmcgjaaGreatDoor.AE
open Go.AE
inductive BTail (ws : List Tok) (sub : Nat → Out → Prop) (pos : Int) : List Exp → Nat → Out → Prop
  | many {args m} : args.length = 4 → BTail ws sub pos args m (.no (word ws m).pos (bif begins ws m then 8 else 6) m)
  | bad {args m p err k} : args.length < 4 → sub m (.no p err k) → BTail ws sub pos args m (.no p err k)
  | next {args m y m1 o} : args.length < 4 → sub m (.ok y m1) → isW ws m1 [44] = true → BTail ws sub pos (args ++ [y]) (m1 + 1) o → BTail ws sub pos args m o
  | unshut {args m y m1} : args.length < 4 → sub m (.ok y m1) → isW ws m1 [44] = false → isW ws m1 [41] = false → BTail ws sub pos args m (.no (word ws m1).pos 6 m1)
  | deep {args m y m1} : args.length < 4 → sub m (.ok y m1) → isW ws m1 [44] = false → isW ws m1 [41] = true → ¬ (Exp.mk 6 0 [] [] (args ++ [y])).depth ≤ 20 → BTail ws sub pos args m (.no pos 7 (m1 + 1))
  | shut {args m y m1} : args.length < 4 → sub m (.ok y m1) → isW ws m1 [44] = false → isW ws m1 [41] = true → (Exp.mk 6 0 [] [] (args ++ [y])).depth ≤ 20 → BTail ws sub pos args m (.ok (.mk 6 0 [] [] (args ++ [y])) (m1 + 1))
section
variable {ws : List Tok} {h : List ABox}
theorem app_nds (parts : List Nd) (y : Nd) (hl : parts.length ≤ 1000) : appOK 7 (parts.map Nd.enc) [y.enc] = true := by
  simp only [appOK, Bool.and_eq_true, decide_eq_true_eq]
  refine ⟨⟨?_, ?_⟩, ?_⟩
  · simp only [List.length_map, List.length_cons, List.length_nil, limit]; omega
  · simp [Nd.cellsE, Nd.len]
    simpa using y.stor
  · cases parts with
    | nil => rfl
    | cons x xs => simp [Nd.cellsE, Nd.len]
structure LiesB (h : List ABox) (i : Nat) (ws : List Tok) (n : Nat) (H : List ABox) : Prop where
  lt : i < h.length
  len : h.length < H.length
  par : H[i]? = some (PB ws n)
  res : H[h.length]? = some zero7
  old : H.take h.length = h.set i (PB ws n)
theorem LiesB.next {i n n' : Nat} {H : List ABox} (hl : LiesB h i ws n H) : LiesB h i ws n' (H.set i (PB ws n')) := by
  have h1 := hl.lt
  have h2 := hl.len
  refine ⟨hl.lt, by simpa using h2, get_set (by omega), ?_, ?_⟩
  · rw [get_set_ne (by omega), hl.res]
  · rw [List.take_set, hl.old, set_twice]
def bflag (parts : List Nd) : Flag := bif parts.length == 1 then .full else .own 7
theorem bflag_snoc {parts : List Nd} {y : Nd} (h : 1 ≤ parts.length) : bflag (parts ++ [y]) = .own 7 := by
  have : ((parts ++ [y]).length == 1) = false := by simp only [List.length_append, List.length_cons, List.length_nil, beq_eq_false_iff_ne]; omega
  rw [bflag, this]
  rfl
def LoopB (h : List ABox) (i : Nat) (ws : List Tok) (pos : Int) (r : Option (Ex × St)) (o : Out) : Prop :=
  (∃ p err n, o = .no p err n ∧ n < ws.length ∧ ∃ tt H, r = some (.pan (fault p err), ⟨tt, H, false⟩) ∧ H.take h.length = h.set i (PB ws n)) ∨
  (∃ (parts : List Nd) (n : Nat) (tt H : List _), r = some (.exit 0, ⟨tt, H, false⟩) ∧ n < ws.length ∧ tt.length = 44 ∧ lkp tt 0 = .ptr i 0 ∧ lkp tt 2 = .ptr h.length 0 ∧ lkp tt 3 = .int .i64 pos ∧ lkp tt 5 = .lst (parts.map Nd.enc) (.own 7) ∧ LiesB h i ws n H ∧ parts.length ≤ 4 ∧ (∀ x ∈ parts, x.e.depth ≤ 20) ∧
    ((isW ws n [41] = false ∧ o = .no (word ws n).pos 6 n) ∨ (isW ws n [41] = true ∧ ¬ (Exp.mk 6 0 [] [] (parts.map Nd.e)).depth ≤ 20 ∧ o = .no pos 7 (n + 1)) ∨ (isW ws n [41] = true ∧ (Exp.mk 6 0 [] [] (parts.map Nd.e)).depth ≤ 20 ∧ o = .ok (.mk 6 0 [] [] (parts.map Nd.e)) (n + 1))))
theorem bracket_loop (hw : WF ws) (i : Nat) (pos : Int) (args : List Exp) (n : Nat) (o : Out) (hT : BTail ws (PRun 66 ws) pos args n o) : ∀ (parts : List Nd) (tt : List AVal) (H : List ABox), parts.map Nd.e = args → 1 ≤ parts.length → (∀ x ∈ parts, x.e.depth ≤ 20) → n < ws.length → tt.length = 44 → lkp tt 0 = .ptr i 0 → lkp tt 2 = .ptr h.length 0 → lkp tt 3 = .int .i64 pos → lkp tt 5 = .lst (parts.map Nd.enc) (bflag parts) → LiesB h i ws n H →
    LoopB h i ws pos (execW h.length Wd (.loop l295_0) ⟨tt, H, false⟩) o := by
  induction hT with
  | @many args m hl =>
    intro parts tt H hp h1 hdp hn ht e0 e2 e3 e5 hL
    have hlt : i < H.length := by have := hL.lt; have := hL.len; omega
    have hpar := hL.par
    rw [PBi] at hpar
    have hpl : parts.length = 4 := by rw [← hl, ← hp, List.length_map]
    have hfl : bflag parts = .own 7 := by simp [bflag, hpl]
    rw [hfl] at e5
    have h4 : (((parts.map Nd.enc).length : Int) == 4) = true := by simp [hpl]
    rw [execW_loop]
    generalize he : execW h.length Wd l295_0 _ = r
    simp only [l295_0, sT.1, sC.1, noApp, lookV, Nat.testBit, simprocAttr, -Int.reduceNatCast', ht, e0, e5, h4, manyItems_ok hw hn, hpar, PBi, hlt] at he
    subst he
    exact .inl ⟨_, _, _, rfl, hn, _, _, rfl, hL.old⟩
  | @bad args m p err k hl hx =>
    intro parts tt H hp h1 hdp hn ht e0 e2 e3 e5 hL
    have hlt : i < H.length := by have := hL.lt; have := hL.len; omega
    have hpar := hL.par
    rw [PBi] at hpar
    have hpl : parts.length < 4 := by rw [← hp, List.length_map] at hl; exact hl
    have h4 : (((parts.map Nd.enc).length : Int) == 4) = false := by simp; omega
    obtain ⟨x1, x2⟩ := hx
    have hdm : ∀ f : Flag, (AVal.lst (parts.map Nd.enc) f).dim.dim = (AVal.lst (parts.map Nd.enc) f).dim := fun f => dim_twice _
    cases hf : (parts.length == 1) with
    | true =>
      simp only [bflag, hf, cond_true] at e5
      rw [execW_loop]
      generalize he : execW h.length Wd l295_0 _ = r
      simp only [l295_0, sT.1, sC.1, sTA.1, sCA.1, noApp, provA, provE, Src.isTmp, provOf, Src.hangs, AOpd.isT, srcOf, lookV, Nat.testBit, bne, simprocAttr, -Int.reduceNatCast', ht, e0, e5, h4, hpar, PBi, hlt, x2] at he
      subst he
      exact .inl ⟨_, _, _, rfl, x1, _, _, rfl, hL.next.old⟩
    | false =>
      simp only [bflag, hf, cond_false] at e5
      rw [execW_loop]
      generalize he : execW h.length Wd l295_0 _ = r
      simp only [l295_0, sT.1, sC.1, sTA.1, sCA.1, noApp, provA, provE, Src.isTmp, provOf, Src.hangs, AOpd.isT, srcOf, lookV, Nat.testBit, bne, simprocAttr, -Int.reduceNatCast', ht, e0, e5, h4, hpar, PBi, hlt, x2] at he
      subst he
      exact .inl ⟨_, _, _, rfl, x1, _, _, rfl, hL.next.old⟩
  | @next args m y m1 o hl hx hc hT ih =>
    intro parts tt H hp h1 hdp hn ht e0 e2 e3 e5 hL
    have hlt : i < H.length := by have := hL.lt; have := hL.len; omega
    have hpar := hL.par
    rw [PBi] at hpar
    have hpl : parts.length < 4 := by rw [← hp, List.length_map] at hl; exact hl
    have h4 : (((parts.map Nd.enc).length : Int) == 4) = false := by simp; omega
    obtain ⟨x1, x2, x3, x4⟩ := hx
    have hap : appOK 7 (parts.map Nd.enc) [(⟨y, (word ws m).pos⟩ : Nd).enc] = true := app_nds _ _ (by omega)
    have hall : ∀ x ∈ parts ++ [(⟨y, (word ws m).pos⟩ : Nd)], x.e.depth ≤ 20 := by
      intro x hx
      rcases List.mem_append.1 hx with hx | hx
      · exact hdp x hx
      · rw [List.mem_singleton.1 hx]; exact x3
    have hmap : (parts ++ [(⟨y, (word ws m).pos⟩ : Nd)]).map Nd.e = args ++ [y] := by rw [List.map_append, hp]; rfl
    cases hf : (parts.length == 1) with
    | true =>
      simp only [bflag, hf, cond_true] at e5
      rw [execW_loop]
      generalize he : execW h.length Wd l295_0 _ = r
      simp only [l295_0, sT.1, sC.1, sTA.1, sCA.1, noApp, provA, provE, Src.isTmp, provOf, Src.hangs, AOpd.isT, srcOf, lookV, Nat.testBit, bne, simprocAttr, -Int.reduceNatCast', ht, e0, e5, h4, hpar, PBi, hlt, Nd.dimE, listN1, hap, x4, take_yes hw x2, hc] at he
      subst he
      refine ih (parts ++ [⟨y, (word ws m).pos⟩]) _ _ hmap (by simp) hall (isW_next hw x2 hc) (by simp only [length_up, ht]) (by simp only [sT.1, sC.1, noApp, lookV, Nat.testBit, simprocAttr, -Int.reduceNatCast', e0]) (by simp only [sT.1, sC.1, noApp, lookV, Nat.testBit, simprocAttr, -Int.reduceNatCast', e2]) (by simp only [sT.1, sC.1, noApp, lookV, Nat.testBit, simprocAttr, -Int.reduceNatCast', e3]) ?_ hL.next
      simp only [sT.1, sC.1, noApp, lookV, Nat.testBit, simprocAttr, -Int.reduceNatCast', ht, List.map_append, bflag_snoc h1]
    | false =>
      simp only [bflag, hf, cond_false] at e5
      rw [execW_loop]
      generalize he : execW h.length Wd l295_0 _ = r
      simp only [l295_0, sT.1, sC.1, sTA.1, sCA.1, noApp, provA, provE, Src.isTmp, provOf, Src.hangs, AOpd.isT, srcOf, lookV, Nat.testBit, bne, simprocAttr, -Int.reduceNatCast', ht, e0, e5, h4, hpar, PBi, hlt, Nd.dimE, listN1, hap, x4, take_yes hw x2, hc] at he
      subst he
      refine ih (parts ++ [⟨y, (word ws m).pos⟩]) _ _ hmap (by simp) hall (isW_next hw x2 hc) (by simp only [length_up, ht]) (by simp only [sT.1, sC.1, noApp, lookV, Nat.testBit, simprocAttr, -Int.reduceNatCast', e0]) (by simp only [sT.1, sC.1, noApp, lookV, Nat.testBit, simprocAttr, -Int.reduceNatCast', e2]) (by simp only [sT.1, sC.1, noApp, lookV, Nat.testBit, simprocAttr, -Int.reduceNatCast', e3]) ?_ hL.next
      simp only [sT.1, sC.1, noApp, lookV, Nat.testBit, simprocAttr, -Int.reduceNatCast', ht, List.map_append, bflag_snoc h1]
  | @unshut args m y m1 hl hx hc hs =>
    intro parts tt H hp h1 hdp hn ht e0 e2 e3 e5 hL
    have hlt : i < H.length := by have := hL.lt; have := hL.len; omega
    have hpar := hL.par
    rw [PBi] at hpar
    have hpl : parts.length < 4 := by rw [← hp, List.length_map] at hl; exact hl
    have h4 : (((parts.map Nd.enc).length : Int) == 4) = false := by simp; omega
    obtain ⟨x1, x2, x3, x4⟩ := hx
    have hap : appOK 7 (parts.map Nd.enc) [(⟨y, (word ws m).pos⟩ : Nd).enc] = true := app_nds _ _ (by omega)
    have hall : ∀ x ∈ parts ++ [(⟨y, (word ws m).pos⟩ : Nd)], x.e.depth ≤ 20 := by
      intro x hx
      rcases List.mem_append.1 hx with hx | hx
      · exact hdp x hx
      · rw [List.mem_singleton.1 hx]; exact x3
    have hmap : (parts ++ [(⟨y, (word ws m).pos⟩ : Nd)]).map Nd.e = args ++ [y] := by rw [List.map_append, hp]; rfl
    cases hf : (parts.length == 1) with
    | true =>
      simp only [bflag, hf, cond_true] at e5
      rw [execW_loop]
      generalize he : execW h.length Wd l295_0 _ = r
      simp only [l295_0, sT.1, sC.1, sTA.1, sCA.1, noApp, provA, provE, Src.isTmp, provOf, Src.hangs, AOpd.isT, srcOf, lookV, Nat.testBit, bne, simprocAttr, -Int.reduceNatCast', ht, e0, e5, h4, hpar, PBi, hlt, Nd.dimE, listN1, hap, x4, take_no hw x2, hc] at he
      subst he
      refine .inr ⟨parts ++ [⟨y, (word ws m).pos⟩], m1, _, _, rfl, x2, by simp only [length_up, ht], by simp only [sT.1, sC.1, noApp, lookV, Nat.testBit, simprocAttr, -Int.reduceNatCast', e0], by simp only [sT.1, sC.1, noApp, lookV, Nat.testBit, simprocAttr, -Int.reduceNatCast', e2], by simp only [sT.1, sC.1, noApp, lookV, Nat.testBit, simprocAttr, -Int.reduceNatCast', e3], ?_, hL.next, by simp; omega, hall, ?_⟩
      · simp only [sT.1, sC.1, noApp, lookV, Nat.testBit, simprocAttr, -Int.reduceNatCast', ht, List.map_append]
      · rw [hmap]; exact .inl ⟨hs, rfl⟩
    | false =>
      simp only [bflag, hf, cond_false] at e5
      rw [execW_loop]
      generalize he : execW h.length Wd l295_0 _ = r
      simp only [l295_0, sT.1, sC.1, sTA.1, sCA.1, noApp, provA, provE, Src.isTmp, provOf, Src.hangs, AOpd.isT, srcOf, lookV, Nat.testBit, bne, simprocAttr, -Int.reduceNatCast', ht, e0, e5, h4, hpar, PBi, hlt, Nd.dimE, listN1, hap, x4, take_no hw x2, hc] at he
      subst he
      refine .inr ⟨parts ++ [⟨y, (word ws m).pos⟩], m1, _, _, rfl, x2, by simp only [length_up, ht], by simp only [sT.1, sC.1, noApp, lookV, Nat.testBit, simprocAttr, -Int.reduceNatCast', e0], by simp only [sT.1, sC.1, noApp, lookV, Nat.testBit, simprocAttr, -Int.reduceNatCast', e2], by simp only [sT.1, sC.1, noApp, lookV, Nat.testBit, simprocAttr, -Int.reduceNatCast', e3], ?_, hL.next, by simp; omega, hall, ?_⟩
      · simp only [sT.1, sC.1, noApp, lookV, Nat.testBit, simprocAttr, -Int.reduceNatCast', ht, List.map_append]
      · rw [hmap]; exact .inl ⟨hs, rfl⟩
  | @deep args m y m1 hl hx hc hs hd =>
    intro parts tt H hp h1 hdp hn ht e0 e2 e3 e5 hL
    have hlt : i < H.length := by have := hL.lt; have := hL.len; omega
    have hpar := hL.par
    rw [PBi] at hpar
    have hpl : parts.length < 4 := by rw [← hp, List.length_map] at hl; exact hl
    have h4 : (((parts.map Nd.enc).length : Int) == 4) = false := by simp; omega
    obtain ⟨x1, x2, x3, x4⟩ := hx
    have hap : appOK 7 (parts.map Nd.enc) [(⟨y, (word ws m).pos⟩ : Nd).enc] = true := app_nds _ _ (by omega)
    have hall : ∀ x ∈ parts ++ [(⟨y, (word ws m).pos⟩ : Nd)], x.e.depth ≤ 20 := by
      intro x hx
      rcases List.mem_append.1 hx with hx | hx
      · exact hdp x hx
      · rw [List.mem_singleton.1 hx]; exact x3
    have hmap : (parts ++ [(⟨y, (word ws m).pos⟩ : Nd)]).map Nd.e = args ++ [y] := by rw [List.map_append, hp]; rfl
    cases hf : (parts.length == 1) with
    | true =>
      simp only [bflag, hf, cond_true] at e5
      rw [execW_loop]
      generalize he : execW h.length Wd l295_0 _ = r
      simp only [l295_0, sT.1, sC.1, sTA.1, sCA.1, noApp, provA, provE, Src.isTmp, provOf, Src.hangs, AOpd.isT, srcOf, lookV, Nat.testBit, bne, simprocAttr, -Int.reduceNatCast', ht, e0, e5, h4, hpar, PBi, hlt, Nd.dimE, listN1, hap, x4, take_no hw x2, hc] at he
      subst he
      refine .inr ⟨parts ++ [⟨y, (word ws m).pos⟩], m1, _, _, rfl, x2, by simp only [length_up, ht], by simp only [sT.1, sC.1, noApp, lookV, Nat.testBit, simprocAttr, -Int.reduceNatCast', e0], by simp only [sT.1, sC.1, noApp, lookV, Nat.testBit, simprocAttr, -Int.reduceNatCast', e2], by simp only [sT.1, sC.1, noApp, lookV, Nat.testBit, simprocAttr, -Int.reduceNatCast', e3], ?_, hL.next, by simp; omega, hall, ?_⟩
      · simp only [sT.1, sC.1, noApp, lookV, Nat.testBit, simprocAttr, -Int.reduceNatCast', ht, List.map_append]
      · rw [hmap]; exact .inr (.inl ⟨hs, hd, rfl⟩)
    | false =>
      simp only [bflag, hf, cond_false] at e5
      rw [execW_loop]
      generalize he : execW h.length Wd l295_0 _ = r
      simp only [l295_0, sT.1, sC.1, sTA.1, sCA.1, noApp, provA, provE, Src.isTmp, provOf, Src.hangs, AOpd.isT, srcOf, lookV, Nat.testBit, bne, simprocAttr, -Int.reduceNatCast', ht, e0, e5, h4, hpar, PBi, hlt, Nd.dimE, listN1, hap, x4, take_no hw x2, hc] at he
      subst he
      refine .inr ⟨parts ++ [⟨y, (word ws m).pos⟩], m1, _, _, rfl, x2, by simp only [length_up, ht], by simp only [sT.1, sC.1, noApp, lookV, Nat.testBit, simprocAttr, -Int.reduceNatCast', e0], by simp only [sT.1, sC.1, noApp, lookV, Nat.testBit, simprocAttr, -Int.reduceNatCast', e2], by simp only [sT.1, sC.1, noApp, lookV, Nat.testBit, simprocAttr, -Int.reduceNatCast', e3], ?_, hL.next, by simp; omega, hall, ?_⟩
      · simp only [sT.1, sC.1, noApp, lookV, Nat.testBit, simprocAttr, -Int.reduceNatCast', ht, List.map_append]
      · rw [hmap]; exact .inr (.inl ⟨hs, hd, rfl⟩)
  | @shut args m y m1 hl hx hc hs hd =>
    intro parts tt H hp h1 hdp hn ht e0 e2 e3 e5 hL
    have hlt : i < H.length := by have := hL.lt; have := hL.len; omega
    have hpar := hL.par
    rw [PBi] at hpar
    have hpl : parts.length < 4 := by rw [← hp, List.length_map] at hl; exact hl
    have h4 : (((parts.map Nd.enc).length : Int) == 4) = false := by simp; omega
    obtain ⟨x1, x2, x3, x4⟩ := hx
    have hap : appOK 7 (parts.map Nd.enc) [(⟨y, (word ws m).pos⟩ : Nd).enc] = true := app_nds _ _ (by omega)
    have hall : ∀ x ∈ parts ++ [(⟨y, (word ws m).pos⟩ : Nd)], x.e.depth ≤ 20 := by
      intro x hx
      rcases List.mem_append.1 hx with hx | hx
      · exact hdp x hx
      · rw [List.mem_singleton.1 hx]; exact x3
    have hmap : (parts ++ [(⟨y, (word ws m).pos⟩ : Nd)]).map Nd.e = args ++ [y] := by rw [List.map_append, hp]; rfl
    cases hf : (parts.length == 1) with
    | true =>
      simp only [bflag, hf, cond_true] at e5
      rw [execW_loop]
      generalize he : execW h.length Wd l295_0 _ = r
      simp only [l295_0, sT.1, sC.1, sTA.1, sCA.1, noApp, provA, provE, Src.isTmp, provOf, Src.hangs, AOpd.isT, srcOf, lookV, Nat.testBit, bne, simprocAttr, -Int.reduceNatCast', ht, e0, e5, h4, hpar, PBi, hlt, Nd.dimE, listN1, hap, x4, take_no hw x2, hc] at he
      subst he
      refine .inr ⟨parts ++ [⟨y, (word ws m).pos⟩], m1, _, _, rfl, x2, by simp only [length_up, ht], by simp only [sT.1, sC.1, noApp, lookV, Nat.testBit, simprocAttr, -Int.reduceNatCast', e0], by simp only [sT.1, sC.1, noApp, lookV, Nat.testBit, simprocAttr, -Int.reduceNatCast', e2], by simp only [sT.1, sC.1, noApp, lookV, Nat.testBit, simprocAttr, -Int.reduceNatCast', e3], ?_, hL.next, by simp; omega, hall, ?_⟩
      · simp only [sT.1, sC.1, noApp, lookV, Nat.testBit, simprocAttr, -Int.reduceNatCast', ht, List.map_append]
      · rw [hmap]; exact .inr (.inr ⟨hs, hd, rfl⟩)
    | false =>
      simp only [bflag, hf, cond_false] at e5
      rw [execW_loop]
      generalize he : execW h.length Wd l295_0 _ = r
      simp only [l295_0, sT.1, sC.1, sTA.1, sCA.1, noApp, provA, provE, Src.isTmp, provOf, Src.hangs, AOpd.isT, srcOf, lookV, Nat.testBit, bne, simprocAttr, -Int.reduceNatCast', ht, e0, e5, h4, hpar, PBi, hlt, Nd.dimE, listN1, hap, x4, take_no hw x2, hc] at he
      subst he
      refine .inr ⟨parts ++ [⟨y, (word ws m).pos⟩], m1, _, _, rfl, x2, by simp only [length_up, ht], by simp only [sT.1, sC.1, noApp, lookV, Nat.testBit, simprocAttr, -Int.reduceNatCast', e0], by simp only [sT.1, sC.1, noApp, lookV, Nat.testBit, simprocAttr, -Int.reduceNatCast', e2], by simp only [sT.1, sC.1, noApp, lookV, Nat.testBit, simprocAttr, -Int.reduceNatCast', e3], ?_, hL.next, by simp; omega, hall, ?_⟩
      · simp only [sT.1, sC.1, noApp, lookV, Nat.testBit, simprocAttr, -Int.reduceNatCast', ht, List.map_append]
      · rw [hmap]; exact .inr (.inr ⟨hs, hd, rfl⟩)
end
end Go.Proofs.YtlognicjhmcgjaaGreatDoor.AE
namespace Go.Proofs.YtlognicjhmcgjaaGreatDoor.AE
open Go.AE
section
variable {ws : List Tok} {n : Nat}
theorem makeN {h : List ABox} (p : AVal) (pos op k : Int) (name sub : Str) (parts : List Nd) (hp : parts.length ≤ 4) (hd : ∀ x ∈ parts, x.e.depth ≤ 20) : Wd (.fn 127 [] []) [p, .int .i64 pos, .agg [.int .i64 op, .int .i64 k, .str name, .str sub, .lst [] .full], .lst (parts.map Nd.enc) .no] h =
    if (Exp.mk op k name sub (parts.map Nd.e)).depth ≤ 20 then some (.ret (Nd.enc ⟨.mk op k name sub (parts.map Nd.e), pos⟩), h, false) else some (.pan (fault pos 7), h, false) :=
  make_ok (h := h) p pos op k name sub parts false hp hd
theorem br1 (hw : WF ws) (hn : n < ws.length) (hs : isW ws n [40] = true) {p err : Int} {m : Nat} (h1 : PRun 66 ws (n + 1) (.no p err m)) : PRun 295 ws n (.no p err m) := by
  obtain ⟨x1, x2⟩ := h1
  refine ⟨x1, fun h i hi => ?_⟩
  have hlt := lt_of_box hi
  rw [PBi] at hi
  rw [Wd_fn rfl (show T.get 295 = some c295 by kernel_rfl)]
  simp only [c295, sT.1, sC.1, noApp, lookV, Nat.testBit, simprocAttr, -Int.reduceNatCast', at_ok hw hn, need_yes hw hn, hs, hi, hlt, PBi, x2, fault_lower]
theorem br2 (hw : WF ws) (hn : n < ws.length) (hs : isW ws n [40] = true) {x : Exp} {n1 : Nat} (h1 : PRun 66 ws (n + 1) (.ok x n1)) (h2 : isW ws n1 [41] = true) : PRun 295 ws n (.ok x (n1 + 1)) := by
  obtain ⟨x1, x2, x3, x4⟩ := h1
  refine ⟨by omega, isW_next hw x2 h2, x3, fun h i hi => ?_⟩
  have hlt := lt_of_box hi
  have hb1 : Nat.ble h.length (h.length + 1) = true := ble_true (by omega)
  rw [PBi] at hi
  rw [Wd_fn rfl (show T.get 295 = some c295 by kernel_rfl)]
  have s6 : List.take 6 (⟨x, (word ws (n + 1)).pos⟩ : Nd).cs ++ [AVal.int .i64 (word ws n).pos] = (⟨x, (word ws n).pos⟩ : Nd).cs := by
    obtain ⟨op, k, name, sub, args⟩ := x
    exact Eq.trans rfl rfl
  simp only [c295, sT.1, sC.1, noApp, lookV, Nat.testBit, simprocAttr, -Int.reduceNatCast', at_ok hw hn, need_yes hw hn, hs, hi, hlt, PBi, x4, take_yes hw x2, h2, hb1, Nd.dimE, Nd.cellsE, Nd.cutE, Nd.dims, Nd.len, Nd.stor, Nd.lower, Nd.drainE, Nd.drop7, List.append_nil, s6]
theorem br3 (hw : WF ws) (hn : n < ws.length) (hs : isW ws n [40] = true) {x : Exp} {n1 : Nat} (h1 : PRun 66 ws (n + 1) (.ok x n1)) (h2 : isW ws n1 [41] = false) (h3 : isW ws n1 [44] = false) : PRun 295 ws n (.no (word ws n1).pos 6 n1) := by
  obtain ⟨x1, x2, x3, x4⟩ := h1
  refine ⟨x2, fun h i hi => ?_⟩
  have hlt := lt_of_box hi
  have hb1 : Nat.ble h.length (h.length + 1) = true := ble_true (by omega)
  rw [PBi] at hi
  rw [Wd_fn rfl (show T.get 295 = some c295 by kernel_rfl)]
  simp only [c295, sT.1, sC.1, noApp, lookV, Nat.testBit, simprocAttr, -Int.reduceNatCast', at_ok hw hn, need_yes hw hn, hs, hi, hlt, PBi, x4, take_no hw x2, h2, need_no hw x2, h3, hb1, Nd.dimE, Nd.cellsE, Nd.cutE, Nd.dims, Nd.len, Nd.stor, Nd.lower, Nd.drainE, Nd.drop7, fault_lower]
theorem br4 (hw : WF ws) (hn : n < ws.length) (hs : isW ws n [40] = true) {x : Exp} {n1 : Nat} (h1 : PRun 66 ws (n + 1) (.ok x n1)) (h2 : isW ws n1 [41] = false) (h3 : isW ws n1 [44] = true) (h4 : isW ws (n1 + 1) [41] = true) (hd : (Exp.mk 6 0 [] [] [x]).depth ≤ 20) : PRun 295 ws n (.ok (.mk 6 0 [] [] [x]) (n1 + 1 + 1)) := by
  obtain ⟨x1, x2, x3, x4⟩ := h1
  have n2 := isW_next hw x2 h3
  refine ⟨by omega, isW_next hw n2 h4, hd, fun h i hi => ?_⟩
  have hlt := lt_of_box hi
  have hb1 : Nat.ble h.length (h.length + 1) = true := ble_true (by omega)
  rw [PBi] at hi
  rw [Wd_fn rfl (show T.get 295 = some c295 by kernel_rfl)]
  simp only [c295, sT.1, sC.1, noApp, lookV, Nat.testBit, simprocAttr, -Int.reduceNatCast', at_ok hw hn, need_yes hw hn, hs, hi, hlt, PBi, x4, x3, take_no hw x2, h2, need_yes hw x2, h3, take_yes hw n2, h4, hb1, Nd.dimE, Nd.cellsE, Nd.cutE, Nd.dims, Nd.len, Nd.stor, Nd.lower, Nd.drainE, Nd.drop7, listN1, fillS, make1, hd]
theorem br5 (hw : WF ws) (hn : n < ws.length) (hs : isW ws n [40] = true) {x : Exp} {n1 : Nat} (h1 : PRun 66 ws (n + 1) (.ok x n1)) (h2 : isW ws n1 [41] = false) (h3 : isW ws n1 [44] = true) (h4 : isW ws (n1 + 1) [41] = true) (hd : ¬ (Exp.mk 6 0 [] [] [x]).depth ≤ 20) : PRun 295 ws n (.no (word ws n).pos 7 (n1 + 1 + 1)) := by
  obtain ⟨x1, x2, x3, x4⟩ := h1
  have n2 := isW_next hw x2 h3
  refine ⟨isW_next hw n2 h4, fun h i hi => ?_⟩
  have hlt := lt_of_box hi
  have hb1 : Nat.ble h.length (h.length + 1) = true := ble_true (by omega)
  rw [PBi] at hi
  rw [Wd_fn rfl (show T.get 295 = some c295 by kernel_rfl)]
  simp only [c295, sT.1, sC.1, noApp, lookV, Nat.testBit, simprocAttr, -Int.reduceNatCast', at_ok hw hn, need_yes hw hn, hs, hi, hlt, PBi, x4, x3, take_no hw x2, h2, need_yes hw x2, h3, take_yes hw n2, h4, hb1, Nd.dimE, Nd.cellsE, Nd.cutE, Nd.dims, Nd.len, Nd.stor, Nd.lower, Nd.drainE, Nd.drop7, listN1, fillS, make1, hd, fault_lower]
theorem BTail.mono {pos : Int} {args : List Exp} {m : Nat} {o : Out} (h : BTail ws (PRun 66 ws) pos args m o) : ∀ e' n', o = .ok e' n' → m < n' := by
  induction h with
  | many _ => intro e' n' h; cases h
  | bad _ _ => intro e' n' h; cases h
  | next _ h1 _ _ ih => intro e' n' h; have := ih e' n' h; have := h1.1; omega
  | unshut _ _ _ _ => intro e' n' h; cases h
  | deep _ _ _ _ _ => intro e' n' h; cases h
  | shut _ h1 _ _ _ => intro e' n' h; cases h; have := h1.1; omega
theorem LiesB.start {i n : Nat} {h : List ABox} {x : Nd} (hi : i < h.length) : LiesB h i ws n (h.set i (PB ws n) ++ [zero7, NB x]) := by
  refine ⟨hi, by simp, ?_, ?_, ?_⟩
  · rw [get_old (by simpa using hi), get_set hi]
  · rw [get_at2 (by simp)]; rfl
  · rw [List.take_append_of_le_length (by simp), List.take_of_length_le (by simp)]
theorem LiesB.answer {i n : Nat} {h : List ABox} {x : Nd} {H : List ABox} (hl : LiesB h i ws n H) : leave h.length (.ret x.enc) (H.set h.length (NB x)) false = (.ret x.enc, h.set i (PB ws n), false) :=
  leave_cut (by rw [List.take_set_of_le (by omega), hl.old]) (x.lower _)
def brEnd : ACode := .seq (.reg [ao 39 (.mov (.t 0)), ao 40 (.mov (.t 3)), ao 41 (.build [(.int .i64 0), (.int .i64 0), (.str []), (.str []), (.lst [] .full)] [(0, 1, (.c (.int .i64 6)))]), ao 42 (.mov (.t 5)), ao 43 (.call (.c (.fn 127 [] [])) [(.t 39), (.t 40), (.t 41), (.t 42)]), an (.st (some 7) (.t 2) (.t 43))]) .ret
def brShut : ACode := .reg [ao 37 (.mov (.t 0)), ao 38 (.call (.c (.fn 79 [] [])) [(.t 37), (.c (.str [41]))])]
theorem br_end (hw : WF ws) {h : List ABox} {i : Nat} {pos : Int} {r : Option (Ex × St)} {o : Out} (hL : LoopB h i ws pos r o) : match (motive := Out → Prop) o with
    | .ok e n => n < ws.length ∧ e.depth ≤ 20 ∧ endR [.cell 2 (some 7)] h (thenW (execW h.length Wd brEnd) (thenW (execW h.length Wd brShut) (blockW 0 r))) = some (.ret (Nd.enc ⟨e, pos⟩), h.set i (PB ws n), false)
    | .no p err n => n < ws.length ∧ endR [.cell 2 (some 7)] h (thenW (execW h.length Wd brEnd) (thenW (execW h.length Wd brShut) (blockW 0 r))) = some (.pan (fault p err), h.set i (PB ws n), false) := by
  obtain ⟨p, err, n, rfl, hn, tt, H, rfl, q⟩ | ⟨parts, n, tt, H, rfl, hn, ht, e0, e2, e3, e5, hl, hp, hd, hc⟩ := hL
  · refine ⟨hn, ?_⟩
    simp only [sT.1, sC.1, noApp, lookV, Nat.testBit, simprocAttr, -Int.reduceNatCast']
    exact congrArg some (leave_cut_pan q (fault_lower _ _ _))
  · have hpar := hl.par
    have hlen := hl.len
    have hres := (hl.next (n' := n + 1)).res
    rw [zero7i] at hres
    obtain ⟨hs, rfl⟩ | ⟨hs, hdep, rfl⟩ | ⟨hs, hdep, rfl⟩ := hc
    · refine ⟨hn, ?_⟩
      simp only [brEnd, brShut, sT.1, sC.1, noApp, lookV, Nat.testBit, simprocAttr, -Int.reduceNatCast', ht, e0, e2, e3, e5, need_no hw hn hpar hs]
      exact congrArg some (leave_cut_pan hl.old (fault_lower _ _ _))
    · refine ⟨isW_next hw hn hs, ?_⟩
      simp only [brEnd, brShut, sT.1, sC.1, noApp, lookV, Nat.testBit, simprocAttr, -Int.reduceNatCast', ht, e0, e2, e3, e5, need_yes hw hn hpar hs, fillS, makeN _ _ _ _ _ _ parts hp hd, hdep]
      exact congrArg some (leave_cut_pan hl.next.old (fault_lower _ _ _))
    · refine ⟨isW_next hw hn hs, hdep, ?_⟩
      simp only [brEnd, brShut, sT.1, sC.1, noApp, lookV, Nat.testBit, simprocAttr, -Int.reduceNatCast', ht, e0, e2, e3, e5, need_yes hw hn hpar hs, fillS, makeN _ _ _ _ _ _ parts hp hd, hdep, hres, hlen, Nd.dimE, Nd.cellsE, Nd.cutE, Nd.dims, Nd.len, Nd.stor, Nd.drainE]
      exact congrArg some hl.next.answer
theorem br6 (hw : WF ws) (hn : n < ws.length) (hs : isW ws n [40] = true) {x : Exp} {n1 : Nat} (h1 : PRun 66 ws (n + 1) (.ok x n1)) (h2 : isW ws n1 [41] = false) (h3 : isW ws n1 [44] = true) (h4 : isW ws (n1 + 1) [41] = false) {o : Out} (hT : BTail ws (PRun 66 ws) (word ws n).pos [x] (n1 + 1) o) : PRun 295 ws n o := by
  obtain ⟨x1, x2, x3, x4⟩ := h1
  have n2 := isW_next hw x2 h3
  have hmono := hT.mono
  have run : ∀ (h : List ABox) (i : Nat), h[i]? = some (PB ws n) → ∃ r, LoopB h i ws (word ws n).pos r o ∧ Wd (.fn 295 [] []) [.ptr i 0] h = endR [.cell 2 (some 7)] h (thenW (execW h.length Wd brEnd) (thenW (execW h.length Wd brShut) (blockW 0 r))) := by
    intro h i hi
    have hlt := lt_of_box hi
    have hb1 : Nat.ble h.length (h.length + 1) = true := ble_true (by omega)
    rw [PBi] at hi
    generalize hr : Wd (.fn 295 [] []) [.ptr i 0] h = R
    rw [Wd_fn rfl (show T.get 295 = some c295 by kernel_rfl)] at hr
    simp only [c295, sT.1, sC.1, noApp, lookV, Nat.testBit, simprocAttr, -Int.reduceNatCast', at_ok hw hn, need_yes hw hn, hs, hi, hlt, PBi, x4, take_no hw x2, h2, need_yes hw x2, h3, take_no hw n2, h4, hb1, Nd.dimE, Nd.cellsE, Nd.cutE, Nd.dims, Nd.len, Nd.stor, Nd.lower, Nd.drainE, Nd.drop7, listN1] at hr
    generalize hq : execW h.length Wd (.loop l295_0) _ = r at hr
    refine ⟨r, ?_, ?_⟩
    · rw [← hq]
      refine bracket_loop hw i _ [x] _ o hT [⟨x, (word ws (n + 1)).pos⟩] _ _ (Eq.trans rfl rfl) (Nat.le_refl _) (by simpa using x3) n2 (by simp only [sT.1, sC.1, noApp, lookV, Nat.testBit, simprocAttr, -Int.reduceNatCast']) (by simp only [sT.1, sC.1, noApp, lookV, Nat.testBit, simprocAttr, -Int.reduceNatCast']) (by simp only [sT.1, sC.1, noApp, lookV, Nat.testBit, simprocAttr, -Int.reduceNatCast']) (by simp only [sT.1, sC.1, noApp, lookV, Nat.testBit, simprocAttr, -Int.reduceNatCast']) ?_ (LiesB.start hlt)
      simp only [sT.1, sC.1, noApp, lookV, Nat.testBit, simprocAttr, -Int.reduceNatCast', bflag, List.map_cons, List.map_nil, List.length_singleton, beq_self_eq_true, cond_true]
    · rw [← hr]
      simp only [brEnd, brShut, ao, an]
  cases o with
  | ok e' n' =>
    obtain ⟨r, q1, q2⟩ := run (List.replicate 1 (PB ws n)) 0 rfl
    have f0 := br_end hw q1
    refine ⟨by have := hmono _ _ rfl; omega, f0.1, f0.2.1, fun h i hi => ?_⟩
    obtain ⟨r, q1, q2⟩ := run h i hi
    have f1 := br_end hw q1
    exact q2.trans f1.2.2
  | no pos err n' =>
    obtain ⟨r, q1, q2⟩ := run (List.replicate 1 (PB ws n)) 0 rfl
    have f0 := br_end hw q1
    refine ⟨f0.1, fun h i hi => ?_⟩
    obtain ⟨r, q1, q2⟩ := run h i hi
    have f1 := br_end hw q1
    exact q2.trans f1.2
end
end Go.Proofs.YtlognicjhmcgjaaGreatDoor.AE
namespace Go.AE
def ACode.noLp : ACode → Bool
  | .seq a b => a.noLp && b.noLp
  | .cond _ a b => a.noLp && b.noLp
  | .block _ b => b.noLp
  | .loop _ => false
  | _ => true
def GBody.noLp : GBody → Bool
  | .pre a r => a.noLp && r.noLp
  | .dfr _ _ _ c => c.noLp
section
variable {base : Nat} {call : Call}
theorem exec_any (n m : Nat) : ∀ (a : ACode) (s : St), a.noLp = true → exec n base call a s = exec m base call a s
  | .skip, s, _ => rfl
  | .reg _, s, _ => rfl
  | .draw _, s, _ => rfl
  | .exit _, s, _ => rfl
  | .ret, s, _ => rfl
  | .rfun _ _ _ _, s, _ => rfl
  | .loop _, s, h => by cases h
  | .seq a b, s, h => by
    simp only [ACode.noLp, Bool.and_eq_true] at h
    simp only [exec]
    rw [exec_any n m a s h.1]
    split
    · exact exec_any n m b _ h.2
    · rfl
  | .cond c a b, s, h => by
    simp only [ACode.noLp, Bool.and_eq_true] at h
    simp only [exec]
    split
    · exact exec_any n m a s h.1
    · exact exec_any n m b s h.2
    · rfl
  | .block id b, s, h => by
    simp only [ACode.noLp] at h
    simp only [exec]
    rw [exec_any n m b s h]
theorem exec_W {n : Nat} {a : ACode} {s : St} (h : a.noLp = true) : exec n base call a s = execW base call a s := by
  apply Option.ext
  intro x
  rw [execW_iff]
  constructor
  · intro hx
    exact ⟨n, hx⟩
  · rintro ⟨m, hm⟩
    rw [exec_any n m a s h]
    exact hm
def preW (k : St → Option (Ex × St)) : Option (Ex × St) → Option (Ex × St)
  | some (.nor, s) => k s
  | some (.exit _, _) => none
  | r => r
theorem preW_nor (k : St → Option (Ex × St)) (s : St) : preW k (some (.nor, s)) = k s := rfl
theorem preW_ret (k : St → Option (Ex × St)) (s : St) : preW k (some (.ret, s)) = some (.ret, s) := rfl
theorem preW_pan (k : St → Option (Ex × St)) (v : AVal) (s : St) : preW k (some (.pan v, s)) = some (.pan v, s) := rfl
def norW (k : St → Option (Ex × St)) : Option (Ex × St) → Option (Ex × St)
  | some (.nor, s) => k s
  | _ => none
theorem norW_nor (k : St → Option (Ex × St)) (s : St) : norW k (some (.nor, s)) = k s := rfl
def dendW (s : St) : Option (Ex × St) → Option (Ex × St)
  | some (.nor, s2) | some (.ret, s2) => some (.ret, { s with h := s2.h, e := s.e || s2.e })
  | _ => none
theorem dendW_nor (s s2 : St) : dendW s (some (.nor, s2)) = some (.ret, ⟨s.t, s2.h, s.e || s2.e⟩) := rfl
theorem dendW_ret (s s2 : St) : dendW s (some (.ret, s2)) = some (.ret, ⟨s.t, s2.h, s.e || s2.e⟩) := rfl
noncomputable def dW (call : Call) (d : DFunc) (v : AVal) (cv : List AVal) (s : St) : Option (Ex × St) :=
  dendW s (norW (execW s.h.length call d.code) (execW s.h.length call (.reg d.ops) ⟨up (cv.map AVal.dim ++ List.replicate (d.ntmps - cv.length) (.tup [])) d.k v.dim, s.h, false⟩))
theorem dexec_W {n : Nat} {d : DFunc} (hd : d.code.noLp = true) (v : AVal) (cv : List AVal) (s : St) : dexec n call d v cv s = dW call d v cv s := by
  rw [dexec, dW, execW_reg, put_some]
  cases runOps s.h.length call [] d.ops ⟨up (cv.map AVal.dim ++ List.replicate (d.ntmps - cv.length) (.tup [])) d.k v.dim, s.h, false⟩ with
  | none => rfl
  | some x =>
    obtain ⟨x, s1⟩ := x
    cases x
    case nor =>
      rw [norW_nor]
      simp only
      rw [exec_W hd]
      cases execW s.h.length call d.code s1 with
      | none => rfl
      | some x => obtain ⟨x, s2⟩ := x; cases x <;> rfl
    all_goals rfl
noncomputable def dfrW (call : Call) (d : DFunc) (cv : List AVal) : Option (Ex × St) → Option (Ex × St)
  | some (.nor, s) | some (.ret, s) => dW call d .niliface cv s
  | some (.pan v, s) => dW call d v cv s
  | _ => none
theorem dfrW_nor (d : DFunc) (cv : List AVal) (s : St) : dfrW call d cv (some (.nor, s)) = dW call d .niliface cv s := rfl
theorem dfrW_ret (d : DFunc) (cv : List AVal) (s : St) : dfrW call d cv (some (.ret, s)) = dW call d .niliface cv s := rfl
theorem dfrW_pan (d : DFunc) (cv : List AVal) (v : AVal) (s : St) : dfrW call d cv (some (.pan v, s)) = dW call d v cv s := rfl
def fnW (f : FuncId) (k : List AVal → Option (Ex × St)) : AVal → Option (Ex × St)
  | .fn g [] cv => if g = f then k cv else none
  | _ => none
theorem fnW_fn (f : FuncId) (k : List AVal → Option (Ex × St)) (cv : List AVal) : fnW f k (.fn f [] cv) = k cv := if_pos rfl
noncomputable def gW (base : Nat) (call : Call) (d : DFunc) : GBody → St → Option (Ex × St)
  | .pre a r, s => preW (gW base call d r) (execW base call a s)
  | .dfr f caps slot rest, s =>
    fnW f (fun cv => dfrW call d cv (execW base call rest ⟨up s.t slot (.fn f [] (caps.map (ev s.t))), s.h, s.e⟩)) (ev (up s.t slot (.fn f [] (caps.map (ev s.t)))) (.t slot))
theorem gW_dfr (d : DFunc) (f : FuncId) (caps : List AOpd) (slot : Nat) (rest : ACode) (s : St) : gW base call d (.dfr f caps slot rest) s = fnW f (fun cv => dfrW call d cv (execW base call rest ⟨up s.t slot (.fn f [] (caps.map (ev s.t))), s.h, s.e⟩)) (ev (up s.t slot (.fn f [] (caps.map (ev s.t)))) (.t slot)) := rfl
theorem gW_pre (d : DFunc) (a : ACode) (r : GBody) (s : St) : gW base call d (.pre a r) s = preW (gW base call d r) (execW base call a s) := rfl
theorem gexec_W {n : Nat} {d : DFunc} (hd : d.code.noLp = true) : ∀ (b : GBody) (s : St), b.noLp = true → gexec n base call d b s = gW base call d b s
  | .pre a r, s, h => by
    simp only [GBody.noLp, Bool.and_eq_true] at h
    rw [gexec, gW_pre, exec_W h.1]
    cases execW base call a s with
    | none => rfl
    | some x =>
      obtain ⟨x, s1⟩ := x
      cases x
      case nor => exact gexec_W hd r s1 h.2
      all_goals rfl
  | .dfr f caps slot rest, s, h => by
    simp only [GBody.noLp] at h
    rw [gexec, gW_dfr, put_some]
    generalize ev (up s.t slot (.fn f [] (caps.map (ev s.t)))) (.t slot) = w
    cases w
    case fn g first cv =>
      cases first with
      | cons _ _ => rfl
      | nil =>
        by_cases hg : g = f
        · subst hg
          rw [fnW_fn]
          simp only [if_true]
          rw [exec_W h]
          generalize execW base call rest _ = x
          cases x with
          | none => rfl
          | some x =>
            obtain ⟨x, s1⟩ := x
            cases x
            case nor => exact dexec_W hd _ _ _
            case ret => exact dexec_W hd _ _ _
            case pan v => exact dexec_W hd _ _ _
            all_goals rfl
        · simp only [fnW, if_neg hg]
    all_goals rfl
def tasV (ty : TypeId) (zero : AVal) : AVal → Option AVal
  | .niliface => some (.tup [zero, .bool false])
  | .iface u v => if u = ty then some (.tup [v, .bool true]) else some (.tup [zero, .bool false])
  | _ => none
theorem op_tas {p : Prov} (d : Option Nat) (ty : TypeId) (z : AVal) (x : AOpd) (s : St) : runOp base call p d (.tas ty z x) s = putV d s (tasV ty z (ev s.t x)) := by
  rw [op_pure _ _ rfl (by simp) (by simp) (by simp)]
  simp only [pureV]
  cases ev s.t x <;> rfl
theorem tasV_nil (ty : TypeId) (z : AVal) : tasV ty z .niliface = some (.tup [z, .bool false]) := rfl
theorem tasV_hit (ty : TypeId) (z v : AVal) : tasV ty z (.iface ty v) = some (.tup [v, .bool true]) := if_pos rfl
def bndV (d : Nat) : Option AVal → Option Nat
  | none => some d
  | some (.int _ n) => if 0 ≤ n then some n.toNat else none
  | some _ => none
def subSV (x : AVal) (lo hi : Option AVal) : Option AVal :=
  match x with
  | .str s => match bndV s.length hi with
    | some h => match bndV 0 lo with
      | some l => if l ≤ h ∧ h ≤ s.length then some (.str ((s.drop l).take (h - l))) else none
      | none => none
    | none => none
  | _ => none
theorem bound_eq (t : List AVal) (o : Option AOpd) (d : Nat) : bound t o d = bndV d (o.map (ev t)) := by
  cases o with
  | none => rfl
  | some o => simp only [bound, Option.map_some]; cases ev t o <;> rfl
theorem op_subS {p : Prov} (d : Option Nat) (x : AOpd) (lo hi : Option AOpd) (s : St) : runOp base call p d (.subS x lo hi) s = putV d s (subSV (ev s.t x) (lo.map (ev s.t)) (hi.map (ev s.t))) := by
  rw [op_pure _ _ rfl (by simp) (by simp) (by simp)]
  simp only [pureV, bound_eq]
  cases ev s.t x <;> rfl
theorem pure_subS (t : List AVal) (x : AOpd) (lo hi : Option AOpd) : pureV t (.subS x lo hi) = subSV (ev t x) (lo.map (ev t)) (hi.map (ev t)) := by
  simp only [pureV, bound_eq]
  cases ev t x <;> rfl
theorem subS_from {s : List UInt8} {n : Nat} (hn : n ≤ s.length) : subSV (.str s) (some (.int .i64 (n : Nat))) none = some (.str (s.drop n)) := by
  have : (0 : Int) ≤ (n : Int) := by omega
  simp only [subSV, bndV, this, if_true, Int.toNat_natCast, hn, Nat.le_refl, and_self]
  rw [List.take_of_length_le (by rw [List.length_drop]; exact Nat.le_refl _)]
theorem subS_to {s : List UInt8} {m : Nat} (hm : m ≤ s.length) : subSV (.str s) none (some (.int .i64 (m : Nat))) = some (.str (s.take m)) := by
  have h2 : (0 : Int) ≤ (m : Int) := by omega
  simp only [subSV, bndV, h2, if_true, Int.toNat_natCast, hm, Nat.zero_le, and_self, List.drop_zero, Nat.sub_zero]
theorem subS_both {s : List UInt8} {n m : Nat} (hn : n ≤ m) (hm : m ≤ s.length) : subSV (.str s) (some (.int .i64 (n : Nat))) (some (.int .i64 (m : Nat))) = some (.str ((s.drop n).take (m - n))) := by
  have h1 : (0 : Int) ≤ (n : Int) := by omega
  have h2 : (0 : Int) ≤ (m : Int) := by omega
  simp only [subSV, bndV, h1, h2, if_true, Int.toNat_natCast, hn, hm, and_self]
theorem gcall_W {n : Nat} {g : GFunc} (hd : g.d.code.noLp = true) (hb : g.body.noLp = true) (aS : List AVal) (h : List ABox) : gcall n g call aS h = endR g.results h (gW h.length call g.d g.body ⟨aS.map AVal.dim ++ List.replicate (g.ntmps - aS.length) (.tup []), h, false⟩) := by
  rw [gcall, gexec_W hd _ _ hb]
  generalize gW h.length call g.d g.body _ = r
  cases r with
  | none => rfl
  | some x =>
    obtain ⟨x, s⟩ := x
    cases x <;> first | rfl | (simp only [endR, endW]; cases readRes s g.results <;> rfl)
end
end Go.AE
namespace Go.Proofs.YtlognicjhmcgjaaGreatDoor.AE
open Go.AE
section
variable {ws : List Tok} {n : Nat} {h : List ABox} {i : Nat}
theorem Exp.lower (φ : Int → Nat → Bool) (e : Exp) (n : Nat) : (e.enc φ).lower n = true := by
  simp [Exp.enc, AVal.lower, cs_lower]
theorem Exp.dimE (φ : Int → Nat → Bool) (e : Exp) : (e.enc φ).dim = e.enc φ := Eq.trans rfl rfl
theorem Exp.cellsE (φ : Int → Nat → Bool) (e : Exp) : (e.enc φ).cells = e.cs φ := Eq.trans rfl rfl
theorem Exp.drainE (φ : Int → Nat → Bool) (e : Exp) (j : Nat) (t : List AVal) : drainW (e.enc φ) j t = t := rfl
theorem Exp.dims (φ : Int → Nat → Bool) (e : Exp) : (e.cs φ).map AVal.dim = e.cs φ := by
  obtain ⟨op, k, name, sub, args⟩ := e
  simp [Exp.cs, AVal.dim, fl]
  cases φ op args.length <;> rfl
theorem Exp.cut (φ : Int → Nat → Bool) (e : Exp) : cut (e.cs φ) 0 (some 5) = some (e.enc φ) := by
  rw [cut_some (by rw [Exp.cs_len]; omega), List.drop_zero, List.take_of_length_le (by rw [Exp.cs_len]; omega), Exp.dims]
  rfl
theorem Exp.stor (φ : Int → Nat → Bool) (e : Exp) : (e.cs φ).all AVal.storable = true := cs_stor φ e
theorem Exp.drop5 (φ : Int → Nat → Bool) (e : Exp) : (e.cs φ).drop 5 = [] := List.drop_eq_nil_of_le (by rw [Exp.cs_len]; omega)
theorem Nd.take5 (x : Nd) : x.cs.take 5 = x.e.cs φP := by
  obtain ⟨⟨op, k, name, sub, args⟩, pos⟩ := x
  rfl
theorem Nd.cut5 (x : Nd) : Go.AE.cut x.cs 0 (some 5) = some (x.e.enc φP) := by
  rw [cut_some (by rw [Nd.len]; omega), List.drop_zero, Nd.take5, Exp.dims]
  rfl
theorem single_ok (hw : WF ws) {e : Exp} {n' : Nat} (h1 : PRun 66 ws n (.ok e n')) (hk : (word ws n').kind = 4) (hi : h[i]? = some (PB ws n)) : Wd (.fn 32 [] []) [.ptr i 0] h = some (.ret (e.enc φP), h.set i (PB ws n'), false) := by
  obtain ⟨x1, x2, x3, x4⟩ := h1
  have hlt := lt_of_box hi
  have hb1 : Nat.ble h.length (h.length + 1) = true := ble_true (by omega)
  rw [PBi] at hi
  rw [Wd_fn rfl (show T.get 32 = some c32 by kernel_rfl)]
  simp only [c32, sT.1, sC.1, noApp, lookV, Nat.testBit, simprocAttr, -Int.reduceNatCast', hi, hlt, PBi, x4, end_yes hw x2, hk, hb1, Nd.dimE, Nd.cellsE, Nd.cutE, Nd.dims, Nd.len, Nd.stor, Nd.lower, Nd.drainE, Nd.drop7, Nd.cut5, Exp.dimE, Exp.cellsE, Exp.cut, Exp.stor, Exp.drainE, Exp.lower, Exp.cs_len, Exp.drop5, Exp.dims]
theorem single_more (hw : WF ws) {e : Exp} {n' : Nat} (h1 : PRun 66 ws n (.ok e n')) (hk : (word ws n').kind ≠ 4) (hi : h[i]? = some (PB ws n)) : Wd (.fn 32 [] []) [.ptr i 0] h = some (.pan (fault (word ws n').pos 6), h.set i (PB ws n'), false) := by
  obtain ⟨x1, x2, x3, x4⟩ := h1
  have hlt := lt_of_box hi
  have hb1 : Nat.ble h.length (h.length + 1) = true := ble_true (by omega)
  rw [PBi] at hi
  rw [Wd_fn rfl (show T.get 32 = some c32 by kernel_rfl)]
  simp only [c32, sT.1, sC.1, noApp, lookV, Nat.testBit, simprocAttr, -Int.reduceNatCast', hi, hlt, PBi, x4, end_no hw x2, hk, hb1, Nd.dimE, Nd.cellsE, Nd.cutE, Nd.dims, Nd.len, Nd.stor, Nd.lower, Nd.drainE, Nd.drop7, fault_lower]
theorem single_no {p err : Int} {n' : Nat} (h1 : PRun 66 ws n (.no p err n')) (hi : h[i]? = some (PB ws n)) : Wd (.fn 32 [] []) [.ptr i 0] h = some (.pan (fault p err), h.set i (PB ws n'), false) := by
  obtain ⟨x1, x2⟩ := h1
  have hlt := lt_of_box hi
  rw [PBi] at hi
  rw [Wd_fn rfl (show T.get 32 = some c32 by kernel_rfl)]
  simp only [c32, sT.1, sC.1, noApp, lookV, Nat.testBit, simprocAttr, -Int.reduceNatCast', hi, hlt, PBi, x2, fault_lower]
theorem run_X : X 31 = some (gcall 4000 c31) := Eq.trans rfl rfl
theorem W_run (aS : List AVal) (h : List ABox) : Wd (.fn 31 [] []) aS h = endR c31.results h (gW h.length Wd c31.d c31.body ⟨aS.map AVal.dim ++ List.replicate (c31.ntmps - aS.length) (.tup []), h, false⟩) := by
  rw [Wd, W_ext xfine run_X, gcall_W (by kernel_rfl) (by kernel_rfl)]
  simp only [List.nil_append, List.append_nil]
def ScanTo (s : Str) (ws : List Tok) : Prop := ∀ h, Wd (.fn 64 [] []) [.str s] h = some (.ret (.tup [.lst (ws.map Tok.enc) .no, .int .i64 0, .int .i64 0]), h, false)
def ScanNo (s : Str) (p e : Int) : Prop := ∀ h, ∃ w, Wd (.fn 64 [] []) [.str s] h = some (.ret (.tup [w, .int .i64 p, .int .i64 e]), h, false)
def noExp : AVal := .agg [.int .i64 0, .int .i64 0, .str [], .str [], .lst [] .full]
theorem run_scan {s : Str} {p e : Int} (he : e ≠ 0) (hs : ScanNo s p e) (f : AVal) : Wd (.fn 31 [] []) [.str s, f] h = some (.ret (.tup [noExp, .int .i64 p, .int .i64 e]), h, false) := by
  obtain ⟨w, hw⟩ := hs (h ++ [.cells [.int .i64 0, .int .i64 0, .str [], .str [], .lst [] .full], .cells [.int .i64 0], .cells [.int .i64 0]])
  have he' : (e == 0) = false := by simpa using he
  have hb1 : Nat.ble h.length (h.length + 1) = true := ble_true (by omega)
  rw [W_run]
  simp only [c31, gW_pre, sT.1, sC.1, noApp, lookV, Nat.testBit, simprocAttr, -Int.reduceNatCast', preW_nor, preW_ret, hw, hb1, he']
  rfl
theorem run_ok {s : Str} (hs : ScanTo s ws) {e : Exp} (hr : ∀ (h : List ABox) (i : Nat), h[i]? = some (PB ws 0) → Wd (.fn 32 [] []) [.ptr i 0] h = some (.ret (e.enc φP), h.set i (PB ws n), false)) : Wd (.fn 31 [] []) [.str s, .fn 32 [] []] h = some (.ret (.tup [e.enc φP, .int .i64 0, .int .i64 0]), h, false) := by
  have hw := hs (h ++ [.cells [.int .i64 0, .int .i64 0, .str [], .str [], .lst [] .full], .cells [.int .i64 0], .cells [.int .i64 0]])
  have hb1 : Nat.ble h.length (h.length + 1) = true := ble_true (by omega)
  have hb2 : Nat.ble h.length (h.length + 1 + 1) = true := ble_true (by omega)
  have hp := hr (h ++ [.cells [.int .i64 0, .int .i64 0, .str [], .str [], .lst [] .full], .cells [.int .i64 0], .cells [.int .i64 0], PB ws 0]) (h.length + 3) (by rw [List.getElem?_append_right (by omega)]; simp)
  have z0 : ((0 : Nat) : Int) = 0 := Eq.trans rfl rfl
  rw [PBi, PBi, z0] at hp
  rw [W_run]
  simp only [c31, gW_pre, gW_dfr, fnW_fn, dfrW_nor, dfrW_ret, dfrW_pan, dW, norW_nor, dendW_nor, dendW_ret, op_tas, tasV_nil, tasV_hit, fillS, sT.1, sC.1, noApp, lookV, Nat.testBit, simprocAttr, -Int.reduceNatCast', preW_nor, preW_ret, preW_pan, hw, hp, hb1, hb2, Exp.dimE, Exp.cellsE, Exp.cut, Exp.stor, Exp.drainE, Exp.lower, Exp.cs_len, Exp.drop5, Exp.dims]
theorem run_no {s : Str} (hs : ScanTo s ws) {p err : Int} (hr : ∀ (h : List ABox) (i : Nat), h[i]? = some (PB ws 0) → Wd (.fn 32 [] []) [.ptr i 0] h = some (.pan (fault p err), h.set i (PB ws n), false)) : Wd (.fn 31 [] []) [.str s, .fn 32 [] []] h = some (.ret (.tup [noExp, .int .i64 p, .int .i64 err]), h, false) := by
  have hw := hs (h ++ [.cells [.int .i64 0, .int .i64 0, .str [], .str [], .lst [] .full], .cells [.int .i64 0], .cells [.int .i64 0]])
  have hb1 : Nat.ble h.length (h.length + 1) = true := ble_true (by omega)
  have hb2 : Nat.ble h.length (h.length + 1 + 1) = true := ble_true (by omega)
  have hp := hr (h ++ [.cells [.int .i64 0, .int .i64 0, .str [], .str [], .lst [] .full], .cells [.int .i64 0], .cells [.int .i64 0], PB ws 0]) (h.length + 3) (by rw [List.getElem?_append_right (by omega)]; simp)
  have z0 : ((0 : Nat) : Int) = 0 := Eq.trans rfl rfl
  rw [PBi, PBi, z0, fault, faultT] at hp
  rw [W_run]
  simp only [c31, gW_pre, gW_dfr, fnW_fn, dfrW_nor, dfrW_ret, dfrW_pan, dW, norW_nor, dendW_nor, dendW_ret, op_tas, tasV_nil, tasV_hit, fillS, sT.1, sC.1, noApp, lookV, Nat.testBit, simprocAttr, -Int.reduceNatCast', preW_nor, preW_ret, preW_pan, hw, hp, hb1, hb2, Exp.dimE, Exp.cellsE, Exp.cut, Exp.stor, Exp.drainE, Exp.lower, Exp.cs_len, Exp.drop5, Exp.dims]
  rfl
theorem expr_of {s : Str} {v : AVal} {p err : Int} (hv : ∃ e : Exp, v = e.enc φP) (hr : ∀ h, Wd (.fn 31 [] []) [.str s, .fn 32 [] []] h = some (.ret (.tup [v, .int .i64 p, .int .i64 err]), h, false)) : Wd (.fn 11 [] []) [.str s] h = some (.ret (.tup [v, .int .i64 p, .int .i64 err]), h, false) := by
  obtain ⟨x, rfl⟩ := hv
  have hb1 : Nat.ble h.length (h.length + 1) = true := ble_true (by omega)
  rw [Wd_fn rfl (show T.get 11 = some c11 by kernel_rfl)]
  simp only [c11, sT.1, sC.1, noApp, lookV, Nat.testBit, simprocAttr, -Int.reduceNatCast', hr, Exp.dimE, Exp.cellsE, Exp.cut, Exp.stor, Exp.drainE, Exp.lower, Exp.cs_len, Exp.drop5, Exp.dims]
end
end Go.Proofs.YtlognicjhmcgjaaGreatDoor.AE
namespace Go.Proofs.YtlognicjhmcgjaaGreatDoor.AE
open Go.AE
section
variable {ws : List Tok}
theorem isW_at {n : Nat} {s : Str} (h : isW ws n s = true) (s' : Str) : isW ws n s' = (s == s') := by
  simp only [isW, Bool.and_eq_true, beq_iff_eq] at h
  simp only [isW, h.1, h.2, Bool.true_and]
def signsT : List (Str × Nat × Int) := [([111, 114], 1, 24), ([97, 110, 100], 2, 23), ([61], 4, 20), ([60], 4, 21), ([60, 61], 4, 22), ([43], 5, 15), ([45], 5, 16), ([42], 6, 17), ([47], 6, 18), ([37], 6, 19)]
def rankIn (is : Str → Bool) : List (Str × Nat × Int) → Nat × Int
  | [] => (0, 0)
  | x :: xs => bif is x.1 then x.2 else rankIn is xs
def rankW (ws : List Tok) (n : Nat) : Nat × Int := rankIn (isW ws n) signsT
theorem rankIn_mem (is : Str → Bool) : ∀ xs, rankIn is xs = (0, 0) ∨ ∃ x ∈ xs, is x.1 = true ∧ rankIn is xs = x.2
  | [] => .inl rfl
  | x :: xs => by
    rw [rankIn]
    cases h : is x.1 with
    | true => exact .inr ⟨x, by simp, h, rfl⟩
    | false =>
      rcases rankIn_mem is xs with h2 | ⟨y, h2, h3, h4⟩
      · exact .inl h2
      · exact .inr ⟨y, by simp [h2], h3, h4⟩
theorem rank_le (n : Nat) : (rankW ws n).1 ≤ 6 := by
  rcases rankIn_mem (isW ws n) signsT with h | ⟨x, h1, _, h3⟩
  · rw [rankW, h]; omega
  · rw [rankW, h3]
    have : signsT.all (fun x => decide (x.2.1 ≤ 6)) = true := by kernel_rfl
    simpa using List.all_eq_true.1 this x h1
theorem rank_next (hw : WF ws) {n : Nat} (hn : n < ws.length) (h : (rankW ws n).1 ≠ 0) : n + 1 < ws.length := by
  rcases rankIn_mem (isW ws n) signsT with h0 | ⟨x, h1, h2, h3⟩
  · rw [rankW, h0] at h; exact absurd rfl h
  · exact isW_next hw hn h2
theorem rank_at {n : Nat} {s : Str} (h : isW ws n s = true) : rankW ws n = rankIn (s == ·) signsT := by
  rw [rankW, show isW ws n = (s == ·) from funext (isW_at h)]
theorem rank_none {n L : Nat} (h : ∀ x ∈ signsT, x.2.1 = L → isW ws n x.1 = false) (hL : L ≠ 0) : (rankW ws n).1 ≠ L := by
  rcases rankIn_mem (isW ws n) signsT with h0 | ⟨x, h1, h2, h3⟩
  · rw [rankW, h0]; exact fun h => hL h.symm
  · rw [rankW, h3]
    intro q
    rw [h x h1 q] at h2
    cases h2
inductive More (ws : List Tok) (cl : Nat → Nat → Out → Prop) (pos : Int) (least : Nat) : Nat → Exp → Nat → Out → Prop
  | stop {most e n} : (rankW ws n).1 = 0 ∨ (rankW ws n).1 < least ∨ most < (rankW ws n).1 → More ws cl pos least most e n (.ok e n)
  | bad {most e n p err m} : (rankW ws n).1 ≠ 0 → least ≤ (rankW ws n).1 → (rankW ws n).1 ≤ most → cl (n + 1) ((rankW ws n).1 + 1) (.no p err m) → More ws cl pos least most e n (.no p err m)
  | deep {most e n x n1} : (rankW ws n).1 ≠ 0 → least ≤ (rankW ws n).1 → (rankW ws n).1 ≤ most → cl (n + 1) ((rankW ws n).1 + 1) (.ok x n1) → ¬ (Exp.mk (rankW ws n).2 0 [] [] [e, x]).depth ≤ 20 → More ws cl pos least most e n (.no pos 7 n1)
  | go {most e n x n1 o} : (rankW ws n).1 ≠ 0 → least ≤ (rankW ws n).1 → (rankW ws n).1 ≤ most → cl (n + 1) ((rankW ws n).1 + 1) (.ok x n1) → (Exp.mk (rankW ws n).2 0 [] [] [e, x]).depth ≤ 20 → More ws cl pos least (if (rankW ws n).1 = 4 then 2 else (rankW ws n).1) (.mk (rankW ws n).2 0 [] [] [e, x]) n1 o → More ws cl pos least most e n o
variable {cl : Nat → Nat → Out → Prop} {pos : Int}
theorem More.comp0 {lo hi : Nat} (hlo : lo ≤ hi) (h4 : hi ≠ 4) {most : Nat} {e : Exp} {n : Nat} {o' : Out} (h : More ws cl pos hi most e n o') : ∀ e1 n1 o, o' = .ok e1 n1 → hi - 1 ≤ most → 1 ≤ hi → More ws cl pos lo (hi - 1) e1 n1 o → More ws cl pos lo most e n o := by
  induction h with
  | @stop most e n hs =>
    intro e1 n1 o ho hm h1 h2
    cases ho
    cases h2 with
    | stop hs2 => exact .stop (by omega)
    | bad a b c d => exact .bad a b (by omega) d
    | deep a b c d f => exact .deep a b (by omega) d f
    | go a b c d f g => exact .go a b (by omega) d f g
  | bad _ _ _ _ => intro e1 n1 o ho; cases ho
  | deep _ _ _ _ _ => intro e1 n1 o ho; cases ho
  | go a b c d f _ ih =>
    intro e1 n1 o ho hm h1 h2
    refine .go a (by omega) c d f (ih e1 n1 o ho ?_ h1 h2)
    split <;> omega
theorem More.comp {lo hi most : Nat} (hlo : lo ≤ hi) (h4 : hi ≠ 4) (h1 : 1 ≤ hi) (hm : hi - 1 ≤ most) {e : Exp} {n : Nat} {e1 : Exp} {n1 : Nat} (h : More ws cl pos hi most e n (.ok e1 n1)) {o : Out} (h2 : More ws cl pos lo (hi - 1) e1 n1 o) : More ws cl pos lo most e n o :=
  h.comp0 hlo h4 e1 n1 o rfl hm h1 h2
theorem More.no0 {lo hi : Nat} (hlo : lo ≤ hi) {most : Nat} {e : Exp} {n : Nat} {o : Out} (h : More ws cl pos hi most e n o) : ∀ p err m, o = .no p err m → More ws cl pos lo most e n o := by
  induction h with
  | stop _ => intro p err m ho; cases ho
  | bad a b c d => intro p err m ho; exact .bad a (by omega) c d
  | deep a b c d f => intro p err m ho; exact .deep a (by omega) c d f
  | go a b c d f _ ih => intro p err m ho; exact .go a (by omega) c d f (ih p err m ho)
theorem More.no {lo hi most : Nat} (hlo : lo ≤ hi) {e : Exp} {n : Nat} {p err : Int} {m : Nat} (h : More ws cl pos hi most e n (.no p err m)) : More ws cl pos lo most e n (.no p err m) := h.no0 hlo p err m rfl
theorem Tail.more {op : Nat → Option Int} {sub : Nat → Out → Prop} {L : Nat} (h1 : L ≠ 0) (h4 : L ≠ 4) (hop : ∀ n k, op n = some k → rankW ws n = (L, k)) (hno : ∀ n, op n = none → (rankW ws n).1 ≠ L) (hcl : ∀ n o, sub n o → cl n (L + 1) o)
    {e : Exp} {n : Nat} {o : Out} (h : Tail op sub pos e n o) : More ws cl pos L L e n o := by
  induction h with
  | @stop e n hs => exact .stop (by have := hno n hs; omega)
  | @bad e n k p err m hs hx =>
    have r := hop n k hs
    refine .bad ?_ ?_ ?_ ?_
    · rw [r]; exact h1
    · rw [r]; exact Nat.le_refl _
    · rw [r]; exact Nat.le_refl _
    · rw [r]; exact hcl _ _ hx
  | @deep e n k x n1 hs hx hd =>
    have r := hop n k hs
    refine .deep (x := x) ?_ ?_ ?_ ?_ ?_
    · rw [r]; exact h1
    · rw [r]; exact Nat.le_refl _
    · rw [r]; exact Nat.le_refl _
    · rw [r]; exact hcl _ _ hx
    · rw [r]; exact hd
  | @go e n k x n1 o hs hx hd _ ih =>
    have r := hop n k hs
    refine .go (x := x) (n1 := n1) ?_ ?_ ?_ ?_ ?_ ?_
    · rw [r]; exact h1
    · rw [r]; exact Nat.le_refl _
    · rw [r]; exact Nat.le_refl _
    · rw [r]; exact hcl _ _ hx
    · rw [r]; exact hd
    · rw [r]
      simp only
      rw [if_neg h4]
      exact ih
theorem prodOp_rank (n : Nat) (k : Int) (h : prodOp ws n = some k) : rankW ws n = (6, k) := by
  rcases prodOp_some h with ⟨a, rfl⟩ | ⟨_, a, rfl⟩ | ⟨_, _, a, rfl⟩ <;> (rw [rank_at a]; rfl)
theorem sumOp_rank (n : Nat) (k : Int) (h : sumOp ws n = some k) : rankW ws n = (5, k) := by
  rcases sumOp_some h with ⟨a, rfl⟩ | ⟨_, a, rfl⟩ <;> (rw [rank_at a]; rfl)
theorem sameOp_rank (n : Nat) (k : Int) (h : sameOp ws n = some k) : rankW ws n = (4, k) := by
  rcases sameOp_some h with ⟨a, rfl⟩ | ⟨_, a, rfl⟩ | ⟨_, _, a, rfl⟩ <;> (rw [rank_at a]; rfl)
theorem andOp_rank (n : Nat) (k : Int) (h : andOp ws n = some k) : rankW ws n = (2, k) := by
  obtain ⟨a, rfl⟩ := andOp_some h
  rw [rank_at a]; rfl
theorem orOp_rank (n : Nat) (k : Int) (h : orOp ws n = some k) : rankW ws n = (1, k) := by
  obtain ⟨a, rfl⟩ := orOp_some h
  rw [rank_at a]; rfl
theorem prodOp_no (n : Nat) (h : prodOp ws n = none) : (rankW ws n).1 ≠ 6 := by
  obtain ⟨a, b, c⟩ := prodOp_none h
  exact rank_none (by simp [signsT, a, b, c]) (by omega)
theorem sumOp_no (n : Nat) (h : sumOp ws n = none) : (rankW ws n).1 ≠ 5 := by
  obtain ⟨a, b⟩ := sumOp_none h
  exact rank_none (by simp [signsT, a, b]) (by omega)
theorem sameOp_no (n : Nat) (h : sameOp ws n = none) : (rankW ws n).1 ≠ 4 := by
  obtain ⟨a, b, c⟩ := sameOp_none h
  exact rank_none (by simp [signsT, a, b, c]) (by omega)
theorem andOp_no (n : Nat) (h : andOp ws n = none) : (rankW ws n).1 ≠ 2 := by
  exact rank_none (by simp [signsT, andOp_none h]) (by omega)
theorem orOp_no (n : Nat) (h : orOp ws n = none) : (rankW ws n).1 ≠ 1 := by
  exact rank_none (by simp [signsT, orOp_none h]) (by omega)
theorem no3 (n : Nat) : (rankW ws n).1 ≠ 3 := rank_none (by simp [signsT]) (by omega)
inductive HN (ws : List Tok) (neg : Nat → Out → Prop) (cl : Nat → Nat → Out → Prop) (L n : Nat) : Out → Prop
  | bad {p err m} : neg n (.no p err m) → HN ws neg cl L n (.no p err m)
  | go {e n1 o} : neg n (.ok e n1) → More ws cl (word ws n).pos L 6 e n1 o → HN ws neg cl L n o
inductive HT (ws : List Tok) (cl : Nat → Nat → Out → Prop) (L n : Nat) : Out → Prop
  | bad {p err m} : cl (n + 1) 3 (.no p err m) → HT ws cl L n (.no p err m)
  | deep {x n1} : cl (n + 1) 3 (.ok x n1) → ¬ (Exp.mk 14 0 [] [] [x]).depth ≤ 20 → HT ws cl L n (.no (word ws n).pos 7 n1)
  | go {x n1 o} : cl (n + 1) 3 (.ok x n1) → (Exp.mk 14 0 [] [] [x]).depth ≤ 20 → More ws cl (word ws n).pos L 2 (.mk 14 0 [] [] [x]) n1 o → HT ws cl L n o
def HC (ws : List Tok) (neg : Nat → Out → Prop) (cl : Nat → Nat → Out → Prop) (L n : Nat) (o : Out) : Prop :=
  (isW ws n [110, 111, 116] = true ∧ HT ws cl L n o) ∨ (isW ws n [110, 111, 116] = false ∧ HN ws neg cl L n o)
variable {neg : Nat → Out → Prop}
theorem HN.on {lo hi n : Nat} (hlo : lo ≤ hi) (h4 : hi ≠ 4) (h1 : 1 ≤ hi) (h6 : hi ≤ 7) {e : Exp} {n1 : Nat} (h : HN ws neg cl hi n (.ok e n1)) {o : Out} (h2 : More ws cl (word ws n).pos lo (hi - 1) e n1 o) : HN ws neg cl lo n o := by
  cases h with
  | go a b => exact .go a (b.comp hlo h4 h1 (by omega) h2)
theorem HN.no {lo hi n : Nat} (hlo : lo ≤ hi) {p err : Int} {m : Nat} (h : HN ws neg cl hi n (.no p err m)) : HN ws neg cl lo n (.no p err m) := by
  cases h with
  | bad a => exact .bad a
  | go a b => exact .go a (b.no hlo)
theorem HT.on {lo hi n : Nat} (hlo : lo ≤ hi) (h1 : 1 ≤ hi) (h3 : hi ≤ 3) {e : Exp} {n1 : Nat} (h : HT ws cl hi n (.ok e n1)) {o : Out} (h2 : More ws cl (word ws n).pos lo (hi - 1) e n1 o) : HT ws cl lo n o := by
  cases h with
  | go a b c => exact .go a b (c.comp hlo (by omega) h1 (by omega) h2)
theorem HT.no {lo hi n : Nat} (hlo : lo ≤ hi) {p err : Int} {m : Nat} (h : HT ws cl hi n (.no p err m)) : HT ws cl lo n (.no p err m) := by
  cases h with
  | bad a => exact .bad a
  | deep a b => exact .deep a b
  | go a b c => exact .go a b (c.no hlo)
theorem HC.on {lo hi n : Nat} (hlo : lo ≤ hi) (h1 : 1 ≤ hi) (h3 : hi ≤ 3) {e : Exp} {n1 : Nat} (h : HC ws neg cl hi n (.ok e n1)) {o : Out} (h2 : More ws cl (word ws n).pos lo (hi - 1) e n1 o) : HC ws neg cl lo n o := by
  rcases h with ⟨a, b⟩ | ⟨a, b⟩
  · exact .inl ⟨a, b.on hlo h1 h3 h2⟩
  · exact .inr ⟨a, b.on hlo (by omega) h1 (by omega) h2⟩
theorem HC.no {lo hi n : Nat} (hlo : lo ≤ hi) {p err : Int} {m : Nat} (h : HC ws neg cl hi n (.no p err m)) : HC ws neg cl lo n (.no p err m) := by
  rcases h with ⟨a, b⟩ | ⟨a, b⟩
  · exact .inl ⟨a, b.no hlo⟩
  · exact .inr ⟨a, b.no hlo⟩
theorem HN.base {n : Nat} {o : Out} (h : neg n o) : HN ws neg cl 7 n o := by
  cases o with
  | ok e n1 => exact .go h (.stop (by have := rank_le (ws := ws) n1; omega))
  | no p err m => exact .bad h
end
end Go.Proofs.YtlognicjhmcgjaaGreatDoor.AE
namespace Go.Proofs.YtlognicjhmcgjaaGreatDoor.AE
open Go.AE
section
variable {h : List ABox}
theorem tletter (c : UInt8) (h : List ABox) : Wd (.fn 224 [] []) [.int .u8 (c.toNat : Nat)] h = some (.ret (.bool (letter c)), h, false) := by
  rw [Wd_fn rfl (show T.get 224 = some c224 by kernel_rfl)]
  simp only [c224, sT.1, sC.1, noApp, lookV, Nat.testBit, simprocAttr, -Int.reduceNatCast', letter]
theorem tdigit (c : UInt8) (h : List ABox) : Wd (.fn 226 [] []) [.int .u8 (c.toNat : Nat)] h = some (.ret (.bool (digit c)), h, false) := by
  rw [Wd_fn rfl (show T.get 226 = some c226 by kernel_rfl)]
  simp only [c226, sT.1, sC.1, noApp, lookV, Nat.testBit, simprocAttr, -Int.reduceNatCast', digit]
def runTo (p : UInt8 → Bool) (s : Str) (i : Nat) : Nat := i + ((s.drop i).takeWhile p).length
theorem runTo_go {p : UInt8 → Bool} {s : Str} {i : Nat} (hi : i < s.length) (hp : p s[i] = true) : runTo p s i = runTo p s (i + 1) := by
  rw [runTo, runTo, List.drop_eq_getElem_cons hi, List.takeWhile_cons_of_pos hp, List.length_cons]
  omega
theorem runTo_stop {p : UInt8 → Bool} {s : Str} {i : Nat} (hi : i < s.length) (hp : p s[i] = false) : runTo p s i = i := by
  rw [runTo, List.drop_eq_getElem_cons hi, List.takeWhile_cons_of_neg (by simp [hp])]
  rfl
theorem runTo_end {p : UInt8 → Bool} {s : Str} {i : Nat} (hi : s.length ≤ i) : runTo p s i = i := by
  rw [runTo, List.drop_eq_nil_of_le hi]
  rfl
theorem runTo_le (p : UInt8 → Bool) (s : Str) {i : Nat} (hi : i ≤ s.length) : runTo p s i ≤ s.length := by
  have h1 := (List.takeWhile_sublist (l := s.drop i) p).length_le
  rw [List.length_drop] at h1
  rw [runTo]
  omega
theorem runTo_ge (p : UInt8 → Bool) (s : Str) (i : Nat) : i ≤ runTo p s i := by rw [runTo]; omega
def letDig (c : UInt8) : Bool := letter c || digit c
theorem name_loop {b : Nat} (s : Str) (hs : s.length ≤ 100000) : ∀ (k i : Nat) (tt : List AVal), i + k = s.length → tt.length = 60 → lkp tt 0 = .str s → lkp tt 11 = .int .i64 (i : Nat) →
    ∃ tt', execW b Wd (.loop l225_0) ⟨tt, h, false⟩ = some (.exit 0, ⟨tt', h, false⟩) ∧ tt'.length = 60 ∧ lkp tt' 0 = .str s ∧ lkp tt' 11 = .int .i64 (runTo letDig s i : Nat) ∧ lkp tt' 1 = lkp tt 1 ∧ lkp tt' 2 = lkp tt 2 ∧ lkp tt' 3 = lkp tt 3 ∧ lkp tt' 8 = lkp tt 8 := by
  intro k
  induction k with
  | zero =>
    intro i tt hk ht e0 e11
    have c1 : ilt (i : Int) (s.length : Int) = false := by rw [ilt_eq]; simp; omega
    rw [runTo_end (by omega), execW_loop]
    simp only [l225_0, sT.1, sC.1, noApp, lookV, Nat.testBit, simprocAttr, -Int.reduceNatCast', ht, e0, e11, c1]
    exact ⟨_, rfl, by simp only [length_up, ht], by simp only [sT.1, sC.1, noApp, lookV, Nat.testBit, simprocAttr, -Int.reduceNatCast', e0], by simp only [sT.1, sC.1, noApp, lookV, Nat.testBit, simprocAttr, -Int.reduceNatCast', e11], by simp only [sT.1, sC.1, noApp, lookV, Nat.testBit, simprocAttr, -Int.reduceNatCast'], by simp only [sT.1, sC.1, noApp, lookV, Nat.testBit, simprocAttr, -Int.reduceNatCast'], by simp only [sT.1, sC.1, noApp, lookV, Nat.testBit, simprocAttr, -Int.reduceNatCast'], by simp only [sT.1, sC.1, noApp, lookV, Nat.testBit, simprocAttr, -Int.reduceNatCast']⟩
  | succ k ih =>
    intro i tt hk ht e0 e11
    have hi : i < s.length := by omega
    have c1 : ilt (i : Int) (s.length : Int) = true := by rw [ilt_eq]; simp; omega
    have hx : ixSV (.str s) (.int .i64 (i : Nat)) = some (.int .u8 (s[i].toNat : Nat)) := ixSV_get (List.getElem?_eq_getElem hi)
    have w := wrap_succ (n := i) (by omega)
    rw [execW_loop]
    generalize he : execW b Wd l225_0 _ = r
    cases hb : letter s[i] with
    | true =>
      rw [runTo_go hi (by rw [letDig, hb]; rfl)]
      simp only [l225_0, sT.1, sC.1, noApp, lookV, Nat.testBit, simprocAttr, -Int.reduceNatCast', ht, e0, e11, c1, hx, w, tletter, tdigit, hb] at he
      subst he
      refine (ih (i + 1) _ (by omega) ?_ ?_ ?_).imp fun tt' g => ⟨g.1, g.2.1, g.2.2.1, g.2.2.2.1, g.2.2.2.2.1.trans ?_, g.2.2.2.2.2.1.trans ?_, g.2.2.2.2.2.2.1.trans ?_, g.2.2.2.2.2.2.2.trans ?_⟩
      all_goals simp only [sT.1, sC.1, noApp, lookV, Nat.testBit, simprocAttr, -Int.reduceNatCast', ht, e0]
    | false =>
      cases hd : digit s[i] with
      | true =>
        rw [runTo_go hi (by rw [letDig, hb, hd]; rfl)]
        simp only [l225_0, sT.1, sC.1, noApp, lookV, Nat.testBit, simprocAttr, -Int.reduceNatCast', ht, e0, e11, c1, hx, w, tletter, tdigit, hb, hd] at he
        subst he
        refine (ih (i + 1) _ (by omega) ?_ ?_ ?_).imp fun tt' g => ⟨g.1, g.2.1, g.2.2.1, g.2.2.2.1, g.2.2.2.2.1.trans ?_, g.2.2.2.2.2.1.trans ?_, g.2.2.2.2.2.2.1.trans ?_, g.2.2.2.2.2.2.2.trans ?_⟩
        all_goals simp only [sT.1, sC.1, noApp, lookV, Nat.testBit, simprocAttr, -Int.reduceNatCast', ht, e0]
      | false =>
        rw [runTo_stop hi (by rw [letDig, hb, hd]; rfl)]
        simp only [l225_0, sT.1, sC.1, noApp, lookV, Nat.testBit, simprocAttr, -Int.reduceNatCast', ht, e0, e11, c1, hx, w, tletter, tdigit, hb, hd] at he
        subst he
        exact ⟨_, rfl, by simp only [length_up, ht], by simp only [sT.1, sC.1, noApp, lookV, Nat.testBit, simprocAttr, -Int.reduceNatCast', e0], by simp only [sT.1, sC.1, noApp, lookV, Nat.testBit, simprocAttr, -Int.reduceNatCast', e11], by simp only [sT.1, sC.1, noApp, lookV, Nat.testBit, simprocAttr, -Int.reduceNatCast'], by simp only [sT.1, sC.1, noApp, lookV, Nat.testBit, simprocAttr, -Int.reduceNatCast'], by simp only [sT.1, sC.1, noApp, lookV, Nat.testBit, simprocAttr, -Int.reduceNatCast'], by simp only [sT.1, sC.1, noApp, lookV, Nat.testBit, simprocAttr, -Int.reduceNatCast']⟩
theorem number_loop {b : Nat} (s : Str) (hs : s.length ≤ 100000) : ∀ (k i : Nat) (tt : List AVal), i + k = s.length → tt.length = 53 → lkp tt 0 = .str s → lkp tt 7 = .int .i64 (i : Nat) →
    ∃ tt', execW b Wd (.loop l227_0) ⟨tt, h, false⟩ = some (.exit 0, ⟨tt', h, false⟩) ∧ tt'.length = 53 ∧ lkp tt' 0 = .str s ∧ lkp tt' 7 = .int .i64 (runTo digit s i : Nat) ∧ lkp tt' 1 = lkp tt 1 ∧ lkp tt' 4 = lkp tt 4 := by
  intro k
  induction k with
  | zero =>
    intro i tt hk ht e0 e11
    have c1 : ilt (i : Int) (s.length : Int) = false := by rw [ilt_eq]; simp; omega
    rw [runTo_end (by omega), execW_loop]
    simp only [l227_0, sT.1, sC.1, noApp, lookV, Nat.testBit, simprocAttr, -Int.reduceNatCast', ht, e0, e11, c1]
    exact ⟨_, rfl, by simp only [length_up, ht], by simp only [sT.1, sC.1, noApp, lookV, Nat.testBit, simprocAttr, -Int.reduceNatCast', e0], by simp only [sT.1, sC.1, noApp, lookV, Nat.testBit, simprocAttr, -Int.reduceNatCast', e11], by simp only [sT.1, sC.1, noApp, lookV, Nat.testBit, simprocAttr, -Int.reduceNatCast'], by simp only [sT.1, sC.1, noApp, lookV, Nat.testBit, simprocAttr, -Int.reduceNatCast']⟩
  | succ k ih =>
    intro i tt hk ht e0 e11
    have hi : i < s.length := by omega
    have c1 : ilt (i : Int) (s.length : Int) = true := by rw [ilt_eq]; simp; omega
    have hx : ixSV (.str s) (.int .i64 (i : Nat)) = some (.int .u8 (s[i].toNat : Nat)) := ixSV_get (List.getElem?_eq_getElem hi)
    have w := wrap_succ (n := i) (by omega)
    rw [execW_loop]
    generalize he : execW b Wd l227_0 _ = r
    cases hd : digit s[i] with
    | true =>
      rw [runTo_go hi hd]
      simp only [l227_0, sT.1, sC.1, noApp, lookV, Nat.testBit, simprocAttr, -Int.reduceNatCast', ht, e0, e11, c1, hx, w, tdigit, hd] at he
      subst he
      refine (ih (i + 1) _ (by omega) ?_ ?_ ?_).imp fun tt' g => ⟨g.1, g.2.1, g.2.2.1, g.2.2.2.1, g.2.2.2.2.1.trans ?_, g.2.2.2.2.2.trans ?_⟩
      all_goals simp only [sT.1, sC.1, noApp, lookV, Nat.testBit, simprocAttr, -Int.reduceNatCast', ht, e0]
    | false =>
      rw [runTo_stop hi hd]
      simp only [l227_0, sT.1, sC.1, noApp, lookV, Nat.testBit, simprocAttr, -Int.reduceNatCast', ht, e0, e11, c1, hx, w, tdigit, hd] at he
      subst he
      exact ⟨_, rfl, by simp only [length_up, ht], by simp only [sT.1, sC.1, noApp, lookV, Nat.testBit, simprocAttr, -Int.reduceNatCast', e0], by simp only [sT.1, sC.1, noApp, lookV, Nat.testBit, simprocAttr, -Int.reduceNatCast', e11], by simp only [sT.1, sC.1, noApp, lookV, Nat.testBit, simprocAttr, -Int.reduceNatCast'], by simp only [sT.1, sC.1, noApp, lookV, Nat.testBit, simprocAttr, -Int.reduceNatCast']⟩
def tokV (kind : Int) (s : Str) (n pos : Int) : AVal := .agg [.int .i64 kind, .str s, .int .i64 n, .int .i64 pos]
theorem tname_no (s : Str) (kind at_ : Int) (i : Nat) (hi : i ≤ s.length) (hb : ∀ h : i < s.length, letter s[i] = false) : Wd (.fn 225 [] []) [.str s, .int .i64 kind, .int .i64 at_, .int .i64 (i : Nat)] h = some (.ret (.tup [tokV 0 [] 0 at_, .int .i64 at_, .int .i64 5]), h, false) := by
  rw [Wd_fn rfl (show T.get 225 = some c225 by kernel_rfl)]
  rcases Nat.lt_or_ge i s.length with h1 | h1
  · have hx : ixSV (.str s) (.int .i64 (i : Nat)) = some (.int .u8 (s[i].toNat : Nat)) := ixSV_get (List.getElem?_eq_getElem h1)
    have c1 : ((i : Int) == (s.length : Int)) = false := by simp; omega
    simp only [c225, sT.1, sC.1, noApp, lookV, Nat.testBit, simprocAttr, -Int.reduceNatCast', c1, hx, tletter, hb h1, fillS]
    rfl
  · have c1 : ((i : Int) == (s.length : Int)) = true := by simp; omega
    simp only [c225, sT.1, sC.1, noApp, lookV, Nat.testBit, simprocAttr, -Int.reduceNatCast', c1, fillS]
    rfl
end
end Go.Proofs.YtlognicjhmcgjaaGreatDoor.AE
namespace Go.Proofs.YtlognicjhmcgjaaGreatDoor.AE
open Go.AE
section
variable {h : List ABox}
theorem tname_run (s : Str) (hs : s.length ≤ 100000) (kind at_ : Int) (i : Nat) (hi : i < s.length) (hb : letter s[i] = true) : Wd (.fn 225 [] []) [.str s, .int .i64 kind, .int .i64 at_, .int .i64 (i : Nat)] h =
    if runTo letDig s i - i ≤ 16 then some (.ret (.tup [tokV kind ((s.drop i).take (runTo letDig s i - i)) 0 at_, .int .i64 (runTo letDig s i : Nat), .int .i64 0]), h, false) else some (.ret (.tup [tokV 0 [] 0 at_, .int .i64 at_, .int .i64 9]), h, false) := by
  have hx : ixSV (.str s) (.int .i64 (i : Nat)) = some (.int .u8 (s[i].toNat : Nat)) := ixSV_get (List.getElem?_eq_getElem hi)
  have c1 : ((i : Int) == (s.length : Int)) = false := by simp; omega
  have hge := runTo_ge letDig s i
  have hle := runTo_le letDig s (Nat.le_of_lt hi)
  have w : IntKind.i64.wrap ((runTo letDig s i : Nat) - (i : Int)) = ((runTo letDig s i - i : Nat) : Int) := by
    rw [wrap_id (by omega) (by omega)]; omega
  have hsub := subS_both hge hle
  rw [Wd_fn rfl (show T.get 225 = some c225 by kernel_rfl)]
  generalize hR : endR _ h _ = R
  simp only [c225, sT.1, sC.1, noApp, lookV, Nat.testBit, simprocAttr, -Int.reduceNatCast', c1, hx, tletter, hb] at hR
  generalize hr : execW h.length Wd (.loop l225_0) _ = r at hR
  obtain ⟨tt, rfl, ht, e0, e11, e1, e2, e3, e8⟩ : ∃ tt, r = some (.exit 0, ⟨tt, h ++ [.cells [.int .i64 0, .str [], .int .i64 0, .int .i64 0]], false⟩) ∧ tt.length = 60 ∧ lkp tt 0 = .str s ∧ lkp tt 11 = .int .i64 (runTo letDig s i : Nat) ∧ lkp tt 1 = .int .i64 kind ∧ lkp tt 2 = .int .i64 at_ ∧ lkp tt 3 = .int .i64 (i : Nat) ∧ lkp tt 8 = .ptr h.length 0 := by
    rw [← hr]
    refine (name_loop s hs (s.length - i) i _ (by omega) ?_ ?_ ?_).imp fun tt' g => ⟨g.1, g.2.1, g.2.2.1, g.2.2.2.1, g.2.2.2.2.1.trans ?_, g.2.2.2.2.2.1.trans ?_, g.2.2.2.2.2.2.1.trans ?_, g.2.2.2.2.2.2.2.trans ?_⟩
    all_goals simp only [sT.1, sC.1, noApp, lookV, Nat.testBit, simprocAttr, -Int.reduceNatCast']
  by_cases h16 : runTo letDig s i - i ≤ 16
  · have c2 : ilt 16 ((runTo letDig s i - i : Nat) : Int) = false := by rw [ilt_eq]; simp; omega
    rw [if_pos h16, ← hR]
    simp only [sT.1, sC.1, noApp, lookV, Nat.testBit, simprocAttr, -Int.reduceNatCast', ht, e0, e1, e2, e3, e8, e11, w, c2, op_subS, hsub, fillS]
    rfl
  · have c2 : ilt 16 ((runTo letDig s i - i : Nat) : Int) = true := by rw [ilt_eq]; simp; omega
    rw [if_neg h16, ← hR]
    simp only [sT.1, sC.1, noApp, lookV, Nat.testBit, simprocAttr, -Int.reduceNatCast', ht, e0, e1, e2, e3, e8, e11, w, c2, fillS]
    rfl
theorem hasPrefix (s m : Str) : Wd (.fn 228 [] []) [.str s, .str m] h = some (.ret (.bool (s.take m.length == m)), h, false) := by
  have inner : Wd (.fn 259 [] []) [.str s, .str m] h = some (.ret (.bool (s.take m.length == m)), h, false) := by
    rw [Wd_fn rfl (show T.get 259 = some c259 by kernel_rfl)]
    rcases Nat.lt_or_ge s.length m.length with h1 | h1
    · have c1 : ile (m.length : Int) (s.length : Int) = false := by rw [ile_eq]; simp; omega
      have c2 : (s.take m.length == m) = false := by
        rw [beq_eq_false_iff_ne]
        intro e
        have := congrArg List.length e
        rw [List.length_take] at this
        omega
      simp only [c259, sT.1, sC.1, noApp, lookV, Nat.testBit, simprocAttr, -Int.reduceNatCast', c1, c2]
    · have c1 : ile (m.length : Int) (s.length : Int) = true := by rw [ile_eq]; simp; omega
      simp only [c259, sT.1, sC.1, noApp, lookV, Nat.testBit, simprocAttr, -Int.reduceNatCast', c1, pure_subS, Option.map_none, subS_to h1]
  rw [Wd_fn rfl (show T.get 228 = some c228 by kernel_rfl)]
  simp only [c228, sT.1, sC.1, noApp, lookV, Nat.testBit, simprocAttr, -Int.reduceNatCast', inner]
def AtoiTo (s : Str) (n : Int) : Prop := ∀ h, Wd (.fn 258 [] []) [.str s] h = some (.ret (.tup [.int .i64 n, .niliface]), h, false)
def AtoiNo (s : Str) : Prop := ∀ h, ∃ n t v more, Wd (.fn 258 [] []) [.str s] h = some (.ret (.tup [.int .i64 n, .iface t v]), h ++ more, false)
def lead (s : Str) (i : Nat) (hi : i < s.length) : Bool := s[i] == 48 && decide (1 < runTo digit s i - i)
theorem eq48 (c : UInt8) : ((c.toNat : Int) == 48) = (c == 48) := by
  rw [Bool.eq_iff_iff, beq_iff_eq, beq_iff_eq]
  constructor
  · intro h
    apply UInt8.toNat_inj.1
    show c.toNat = 48
    omega
  · intro h
    subst h
    rfl
theorem drain_niliface (j : Nat) (t : List AVal) : drainW .niliface j t = t := Eq.trans rfl rfl
theorem eqi_nn : eqiV 1 true .niliface .niliface = some (.bool false) := Eq.trans rfl rfl
theorem eqi_in (t : TypeId) (v : AVal) : eqiV 1 true (.iface t v) .niliface = some (.bool true) := Eq.trans rfl rfl
theorem number_lead (s : Str) (hs : s.length ≤ 100000) (i : Nat) (hi : i < s.length) (hb : lead s i hi = true) : Wd (.fn 227 [] []) [.str s, .int .i64 (i : Nat)] h = some (.ret (.tup [tokV 0 [] 0 i, .int .i64 (i : Nat), .int .i64 6]), h, false) := by
  rw [lead, Bool.and_eq_true, decide_eq_true_eq] at hb
  have c2 : ilt 1 ((runTo digit s i - i : Nat) : Int) = true := by rw [ilt_eq]; simp; omega
  have hx : ixSV (.str s) (.int .i64 (i : Nat)) = some (.int .u8 (s[i].toNat : Nat)) := ixSV_get (List.getElem?_eq_getElem hi)
  have hge := runTo_ge digit s i
  have hle := runTo_le digit s (Nat.le_of_lt hi)
  have w : IntKind.i64.wrap ((runTo digit s i : Nat) - (i : Int)) = ((runTo digit s i - i : Nat) : Int) := by
    rw [wrap_id (by omega) (by omega)]; omega
  have hsub := subS_both hge hle
  rw [Wd_fn rfl (show T.get 227 = some c227 by kernel_rfl)]
  generalize hR : endR _ h _ = R
  simp only [c227, sT.1, sC.1, noApp, lookV, Nat.testBit, simprocAttr, -Int.reduceNatCast'] at hR
  generalize hr : execW h.length Wd (.loop l227_0) _ = r at hR
  obtain ⟨tt, rfl, ht, e0, e7, e1, e4⟩ : ∃ tt, r = some (.exit 0, ⟨tt, h ++ [.cells [.int .i64 0, .str [], .int .i64 0, .int .i64 0]], false⟩) ∧ tt.length = 53 ∧ lkp tt 0 = .str s ∧ lkp tt 7 = .int .i64 (runTo digit s i : Nat) ∧ lkp tt 1 = .int .i64 (i : Nat) ∧ lkp tt 4 = .ptr h.length 0 := by
    rw [← hr]
    refine (number_loop s hs (s.length - i) i _ (by omega) ?_ ?_ ?_).imp fun tt' g => ⟨g.1, g.2.1, g.2.2.1, g.2.2.2.1, g.2.2.2.2.1.trans ?_, g.2.2.2.2.2.trans ?_⟩
    all_goals simp only [sT.1, sC.1, noApp, lookV, Nat.testBit, simprocAttr, -Int.reduceNatCast']
  rw [← hR]
  simp only [sT.1, sC.1, noApp, lookV, Nat.testBit, simprocAttr, -Int.reduceNatCast', ht, e0, e1, e4, e7, w, hx, eq48, hb.1, c2, fillS]
  rfl
theorem number_ok0 (s : Str) (hs : s.length ≤ 100000) (i : Nat) (hi : i < s.length) (h0 : (s[i] == 48) = false) {n : Int} (hn : AtoiTo ((s.drop i).take (runTo digit s i - i)) n) : Wd (.fn 227 [] []) [.str s, .int .i64 (i : Nat)] h = some (.ret (.tup [tokV 1 [] n i, .int .i64 (runTo digit s i : Nat), .int .i64 0]), h, false) := by
  rw [AtoiTo] at hn
  have hx : ixSV (.str s) (.int .i64 (i : Nat)) = some (.int .u8 (s[i].toNat : Nat)) := ixSV_get (List.getElem?_eq_getElem hi)
  have hge := runTo_ge digit s i
  have hle := runTo_le digit s (Nat.le_of_lt hi)
  have w : IntKind.i64.wrap ((runTo digit s i : Nat) - (i : Int)) = ((runTo digit s i - i : Nat) : Int) := by
    rw [wrap_id (by omega) (by omega)]; omega
  have hsub := subS_both hge hle
  rw [Wd_fn rfl (show T.get 227 = some c227 by kernel_rfl)]
  generalize hR : endR _ h _ = R
  simp only [c227, sT.1, sC.1, noApp, lookV, Nat.testBit, simprocAttr, -Int.reduceNatCast'] at hR
  generalize hr : execW h.length Wd (.loop l227_0) _ = r at hR
  obtain ⟨tt, rfl, ht, e0, e7, e1, e4⟩ : ∃ tt, r = some (.exit 0, ⟨tt, h ++ [.cells [.int .i64 0, .str [], .int .i64 0, .int .i64 0]], false⟩) ∧ tt.length = 53 ∧ lkp tt 0 = .str s ∧ lkp tt 7 = .int .i64 (runTo digit s i : Nat) ∧ lkp tt 1 = .int .i64 (i : Nat) ∧ lkp tt 4 = .ptr h.length 0 := by
    rw [← hr]
    refine (number_loop s hs (s.length - i) i _ (by omega) ?_ ?_ ?_).imp fun tt' g => ⟨g.1, g.2.1, g.2.2.1, g.2.2.2.1, g.2.2.2.2.1.trans ?_, g.2.2.2.2.2.trans ?_⟩
    all_goals simp only [sT.1, sC.1, noApp, lookV, Nat.testBit, simprocAttr, -Int.reduceNatCast']
  rw [← hR]
  simp only [sT.1, sC.1, noApp, lookV, Nat.testBit, simprocAttr, -Int.reduceNatCast', ht, e0, e1, e4, e7, w, hx, eq48, h0, op_subS, hsub, hn, fillS, op_eqi, eqi_nn, drain_niliface]
  simp only [tokV]
theorem number_ok1 (s : Str) (hs : s.length ≤ 100000) (i : Nat) (hi : i < s.length) (hb : lead s i hi = false) (h0 : (s[i] == 48) = true) {n : Int} (hn : AtoiTo ((s.drop i).take (runTo digit s i - i)) n) : Wd (.fn 227 [] []) [.str s, .int .i64 (i : Nat)] h = some (.ret (.tup [tokV 1 [] n i, .int .i64 (runTo digit s i : Nat), .int .i64 0]), h, false) := by
  rw [AtoiTo] at hn
  rw [lead] at hb
  have hx : ixSV (.str s) (.int .i64 (i : Nat)) = some (.int .u8 (s[i].toNat : Nat)) := ixSV_get (List.getElem?_eq_getElem hi)
  have hge := runTo_ge digit s i
  have hle := runTo_le digit s (Nat.le_of_lt hi)
  have w : IntKind.i64.wrap ((runTo digit s i : Nat) - (i : Int)) = ((runTo digit s i - i : Nat) : Int) := by
    rw [wrap_id (by omega) (by omega)]; omega
  have hsub := subS_both hge hle
  rw [Wd_fn rfl (show T.get 227 = some c227 by kernel_rfl)]
  generalize hR : endR _ h _ = R
  simp only [c227, sT.1, sC.1, noApp, lookV, Nat.testBit, simprocAttr, -Int.reduceNatCast'] at hR
  generalize hr : execW h.length Wd (.loop l227_0) _ = r at hR
  obtain ⟨tt, rfl, ht, e0, e7, e1, e4⟩ : ∃ tt, r = some (.exit 0, ⟨tt, h ++ [.cells [.int .i64 0, .str [], .int .i64 0, .int .i64 0]], false⟩) ∧ tt.length = 53 ∧ lkp tt 0 = .str s ∧ lkp tt 7 = .int .i64 (runTo digit s i : Nat) ∧ lkp tt 1 = .int .i64 (i : Nat) ∧ lkp tt 4 = .ptr h.length 0 := by
    rw [← hr]
    refine (number_loop s hs (s.length - i) i _ (by omega) ?_ ?_ ?_).imp fun tt' g => ⟨g.1, g.2.1, g.2.2.1, g.2.2.2.1, g.2.2.2.2.1.trans ?_, g.2.2.2.2.2.trans ?_⟩
    all_goals simp only [sT.1, sC.1, noApp, lookV, Nat.testBit, simprocAttr, -Int.reduceNatCast']
  rw [← hR]
  rw [h0, Bool.true_and, decide_eq_false_iff_not] at hb
  have c2 : ilt 1 ((runTo digit s i - i : Nat) : Int) = false := by rw [ilt_eq]; simp; omega
  simp only [sT.1, sC.1, noApp, lookV, Nat.testBit, simprocAttr, -Int.reduceNatCast', ht, e0, e1, e4, e7, w, hx, eq48, h0, c2, op_subS, hsub, hn, fillS, op_eqi, eqi_nn, drain_niliface]
  simp only [tokV]
theorem number_ok (s : Str) (hs : s.length ≤ 100000) (i : Nat) (hi : i < s.length) (hb : lead s i hi = false) {n : Int} (hn : AtoiTo ((s.drop i).take (runTo digit s i - i)) n) : Wd (.fn 227 [] []) [.str s, .int .i64 (i : Nat)] h = some (.ret (.tup [tokV 1 [] n i, .int .i64 (runTo digit s i : Nat), .int .i64 0]), h, false) := by
  cases h0 : s[i] == 48 with
  | false => exact number_ok0 s hs i hi h0 hn
  | true => exact number_ok1 s hs i hi hb h0 hn
theorem number_large0 (s : Str) (hs : s.length ≤ 100000) (i : Nat) (hi : i < s.length) (h0 : (s[i] == 48) = false) (hn : AtoiNo ((s.drop i).take (runTo digit s i - i))) : Wd (.fn 227 [] []) [.str s, .int .i64 (i : Nat)] h = some (.ret (.tup [tokV 0 [] 0 i, .int .i64 (i : Nat), .int .i64 2]), h, false) := by
  obtain ⟨n, t, v, more, hn⟩ := hn (h ++ [.cells [.int .i64 0, .str [], .int .i64 0, .int .i64 0]])
  have hx : ixSV (.str s) (.int .i64 (i : Nat)) = some (.int .u8 (s[i].toNat : Nat)) := ixSV_get (List.getElem?_eq_getElem hi)
  have hge := runTo_ge digit s i
  have hle := runTo_le digit s (Nat.le_of_lt hi)
  have w : IntKind.i64.wrap ((runTo digit s i : Nat) - (i : Int)) = ((runTo digit s i - i : Nat) : Int) := by
    rw [wrap_id (by omega) (by omega)]; omega
  have hsub := subS_both hge hle
  rw [Wd_fn rfl (show T.get 227 = some c227 by kernel_rfl)]
  generalize hR : endR _ h _ = R
  simp only [c227, sT.1, sC.1, noApp, lookV, Nat.testBit, simprocAttr, -Int.reduceNatCast'] at hR
  generalize hr : execW h.length Wd (.loop l227_0) _ = r at hR
  obtain ⟨tt, rfl, ht, e0, e7, e1, e4⟩ : ∃ tt, r = some (.exit 0, ⟨tt, h ++ [.cells [.int .i64 0, .str [], .int .i64 0, .int .i64 0]], false⟩) ∧ tt.length = 53 ∧ lkp tt 0 = .str s ∧ lkp tt 7 = .int .i64 (runTo digit s i : Nat) ∧ lkp tt 1 = .int .i64 (i : Nat) ∧ lkp tt 4 = .ptr h.length 0 := by
    rw [← hr]
    refine (number_loop s hs (s.length - i) i _ (by omega) ?_ ?_ ?_).imp fun tt' g => ⟨g.1, g.2.1, g.2.2.1, g.2.2.2.1, g.2.2.2.2.1.trans ?_, g.2.2.2.2.2.trans ?_⟩
    all_goals simp only [sT.1, sC.1, noApp, lookV, Nat.testBit, simprocAttr, -Int.reduceNatCast']
  rw [← hR]
  simp only [sT.1, sC.1, noApp, lookV, Nat.testBit, simprocAttr, -Int.reduceNatCast', ht, e0, e1, e4, e7, w, hx, eq48, h0, op_subS, hsub, hn, fillS, op_eqi, eqi_in, dim_iface, cut_cons]
  simp only [tokV]
theorem number_large1 (s : Str) (hs : s.length ≤ 100000) (i : Nat) (hi : i < s.length) (hb : lead s i hi = false) (h0 : (s[i] == 48) = true) (hn : AtoiNo ((s.drop i).take (runTo digit s i - i))) : Wd (.fn 227 [] []) [.str s, .int .i64 (i : Nat)] h = some (.ret (.tup [tokV 0 [] 0 i, .int .i64 (i : Nat), .int .i64 2]), h, false) := by
  obtain ⟨n, t, v, more, hn⟩ := hn (h ++ [.cells [.int .i64 0, .str [], .int .i64 0, .int .i64 0]])
  rw [lead] at hb
  have hx : ixSV (.str s) (.int .i64 (i : Nat)) = some (.int .u8 (s[i].toNat : Nat)) := ixSV_get (List.getElem?_eq_getElem hi)
  have hge := runTo_ge digit s i
  have hle := runTo_le digit s (Nat.le_of_lt hi)
  have w : IntKind.i64.wrap ((runTo digit s i : Nat) - (i : Int)) = ((runTo digit s i - i : Nat) : Int) := by
    rw [wrap_id (by omega) (by omega)]; omega
  have hsub := subS_both hge hle
  rw [Wd_fn rfl (show T.get 227 = some c227 by kernel_rfl)]
  generalize hR : endR _ h _ = R
  simp only [c227, sT.1, sC.1, noApp, lookV, Nat.testBit, simprocAttr, -Int.reduceNatCast'] at hR
  generalize hr : execW h.length Wd (.loop l227_0) _ = r at hR
  obtain ⟨tt, rfl, ht, e0, e7, e1, e4⟩ : ∃ tt, r = some (.exit 0, ⟨tt, h ++ [.cells [.int .i64 0, .str [], .int .i64 0, .int .i64 0]], false⟩) ∧ tt.length = 53 ∧ lkp tt 0 = .str s ∧ lkp tt 7 = .int .i64 (runTo digit s i : Nat) ∧ lkp tt 1 = .int .i64 (i : Nat) ∧ lkp tt 4 = .ptr h.length 0 := by
    rw [← hr]
    refine (number_loop s hs (s.length - i) i _ (by omega) ?_ ?_ ?_).imp fun tt' g => ⟨g.1, g.2.1, g.2.2.1, g.2.2.2.1, g.2.2.2.2.1.trans ?_, g.2.2.2.2.2.trans ?_⟩
    all_goals simp only [sT.1, sC.1, noApp, lookV, Nat.testBit, simprocAttr, -Int.reduceNatCast']
  rw [← hR]
  rw [h0, Bool.true_and, decide_eq_false_iff_not] at hb
  have c2 : ilt 1 ((runTo digit s i - i : Nat) : Int) = false := by rw [ilt_eq]; simp; omega
  simp only [sT.1, sC.1, noApp, lookV, Nat.testBit, simprocAttr, -Int.reduceNatCast', ht, e0, e1, e4, e7, w, hx, eq48, h0, c2, op_subS, hsub, hn, fillS, op_eqi, eqi_in, dim_iface, cut_cons]
  simp only [tokV]
theorem number_large (s : Str) (hs : s.length ≤ 100000) (i : Nat) (hi : i < s.length) (hb : lead s i hi = false) (hn : AtoiNo ((s.drop i).take (runTo digit s i - i))) : Wd (.fn 227 [] []) [.str s, .int .i64 (i : Nat)] h = some (.ret (.tup [tokV 0 [] 0 i, .int .i64 (i : Nat), .int .i64 2]), h, false) := by
  cases h0 : s[i] == 48 with
  | false => exact number_large0 s hs i hi h0 hn
  | true => exact number_large1 s hs i hi hb h0 hn
end
end Go.Proofs.YtlognicjhmcgjaaGreatDoor.AE
namespace Go.Proofs.YtlognicjhmcgjaaGreatDoor.AE
open Go.AE
section
variable {h : List ABox}
def marks : List Str := g1.map wordS
theorem marks_eq : g1 = marks.map AVal.str := by kernel_rfl
theorem marks_len : marks.length = 17 := by kernel_rfl
def heads (r m : Str) : Bool := r.take m.length == m
def markOf (r : Str) : Option Str := marks.find? (heads r)
theorem mark_small : ∀ m ∈ marks, m.length ≤ 2 := by
  have : marks.all (fun m => decide (m.length ≤ 2)) = true := by kernel_rfl
  intro m hm
  simpa using List.all_eq_true.1 this m hm
def tok0 : ABox := .cells [.int .i64 0, .str [], .int .i64 0, .int .i64 0]
theorem tok0i : tok0 = .cells [.int .i64 0, .str [], .int .i64 0, .int .i64 0] := Eq.trans rfl rfl
def MarkEnd (h : List ABox) (s : Str) (i : Nat) (r : Option (Ex × St)) : Option Str → Prop
  | some m => ∃ tt', r = some (.ret, ⟨tt', h ++ [.cells [.int .i64 3, .str m, .int .i64 0, .int .i64 (i : Nat)]], false⟩) ∧ tt'.length = 72 ∧ lkp tt' 4 = .ptr h.length 0 ∧ lkp tt' 5 = .int .i64 (i + m.length : Nat) ∧ lkp tt' 6 = .int .i64 0
  | none => ∃ tt', r = some (.exit 1, ⟨tt', h ++ [tok0], false⟩) ∧ tt'.length = 72 ∧ lkp tt' 0 = .str s ∧ lkp tt' 1 = .int .i64 (i : Nat) ∧ lkp tt' 4 = .ptr h.length 0
theorem mark_loop (s : Str) (hs : s.length ≤ 100000) (i : Nat) (hi : i ≤ s.length) : ∀ (k j : Nat) (tt : List AVal), j + k = 17 → tt.length = 72 → lkp tt 0 = .str s → lkp tt 1 = .int .i64 (i : Nat) → lkp tt 4 = .ptr h.length 0 → lkp tt 52 = .agg g1 → lkp tt 53 = .int .i64 (j : Nat) →
    MarkEnd h s i (execW h.length Wd (.loop l178_0) ⟨tt, h ++ [tok0], false⟩) ((marks.drop j).find? (heads (s.drop i))) := by
  intro k
  have hlen := marks_len
  induction k with
  | zero =>
    intro j tt hj ht e0 e1 e4 e52 e53
    have c1 : ilt (j : Int) 17 = false := by rw [ilt_eq]; simp; omega
    rw [List.drop_eq_nil_of_le («as» := marks) (by omega), List.find?_nil, execW_loop]
    simp only [l178_0, sT.1, sC.1, noApp, lookV, Nat.testBit, simprocAttr, -Int.reduceNatCast', ht, e53, c1]
    exact ⟨_, rfl, by simp only [length_up, ht], by simp only [sT.1, sC.1, noApp, lookV, Nat.testBit, simprocAttr, -Int.reduceNatCast', e0], by simp only [sT.1, sC.1, noApp, lookV, Nat.testBit, simprocAttr, -Int.reduceNatCast', e1], by simp only [sT.1, sC.1, noApp, lookV, Nat.testBit, simprocAttr, -Int.reduceNatCast', e4]⟩
  | succ k ih =>
    intro j tt hj ht e0 e1 e4 e52 e53
    have hj2 : j < marks.length := by omega
    have c1 : ilt (j : Int) 17 = true := by rw [ilt_eq]; simp; omega
    have hx : ixAV 17 none (.agg g1) (.int .i64 (j : Nat)) = some (.str marks[j]) := by
      rw [ixAV_get (v := .str marks[j]) (by omega) (by rw [marks_eq, List.getElem?_map, List.getElem?_eq_getElem hj2]; rfl)]
      rfl
    have hsm := mark_small _ (List.getElem_mem hj2)
    have w := wrap_succ (n := j) (by omega)
    have hsub := subS_from hi
    have w2 : IntKind.i64.wrap ((i : Int) + (marks[j].length : Int)) = ((i + marks[j].length : Nat) : Int) := by
      rw [wrap_id (by omega) (by omega)]; omega
    rw [List.drop_eq_getElem_cons hj2, execW_loop]
    generalize he : execW h.length Wd l178_0 _ = r
    cases hb : ((s.drop i).take marks[j].length == marks[j]) with
    | true =>
      rw [List.find?_cons_of_pos (p := heads (s.drop i)) hb]
      simp only [l178_0, sT.1, sC.1, noApp, lookV, Nat.testBit, simprocAttr, -Int.reduceNatCast', ht, e0, e1, e4, e52, e53, c1, hx, op_subS, Option.map_none, hsub, hasPrefix, hb, fillS, w2, tok0i] at he
      subst he
      exact ⟨_, rfl, by simp only [length_up, ht], by simp only [sT.1, sC.1, noApp, lookV, Nat.testBit, simprocAttr, -Int.reduceNatCast', e4], by simp only [sT.1, sC.1, noApp, lookV, Nat.testBit, simprocAttr, -Int.reduceNatCast', ht], by simp only [sT.1, sC.1, noApp, lookV, Nat.testBit, simprocAttr, -Int.reduceNatCast', ht]⟩
    | false =>
      rw [List.find?_cons_of_neg (p := heads (s.drop i)) (by rw [heads, hb]; exact Bool.false_ne_true)]
      simp only [l178_0, sT.1, sC.1, noApp, lookV, Nat.testBit, simprocAttr, -Int.reduceNatCast', ht, e0, e1, e4, e52, e53, c1, hx, op_subS, Option.map_none, hsub, hasPrefix, hb, w] at he
      subst he
      refine ih (j + 1) _ (by omega) ?_ ?_ ?_ ?_ ?_ ?_
      all_goals simp only [sT.1, sC.1, noApp, lookV, Nat.testBit, simprocAttr, -Int.reduceNatCast', ht, e0, e1, e4, e52]
theorem marks_cut : cut g1 0 (some 17) = some (.agg g1) := by kernel_rfl
theorem eq39 (c : UInt8) : ((c.toNat : Int) == 39) = (c == 39) := by
  rw [Bool.eq_iff_iff, beq_iff_eq, beq_iff_eq]
  constructor
  · intro h
    apply UInt8.toNat_inj.1
    show c.toNat = 39
    omega
  · intro h
    subst h
    rfl
theorem word_end (s : Str) : Wd (.fn 178 [] []) [.str s, .int .i64 (s.length : Nat)] h = some (.ret (.tup [tokV 4 [] 0 s.length, .int .i64 (s.length : Nat), .int .i64 0]), h, false) := by
  rw [Wd_fn rfl (show T.get 178 = some c178 by kernel_rfl)]
  simp only [c178, sT.1, sC.1, noApp, lookV, Nat.testBit, simprocAttr, -Int.reduceNatCast', fillS, tokV]
section
variable {s : Str} {i : Nat} (hi : i < s.length)
include hi
theorem word_name {k n p to e : Int} {w : Str} (h1 : letter s[i] = true) (hn : ∀ h, Wd (.fn 225 [] []) [.str s, .int .i64 0, .int .i64 (i : Nat), .int .i64 (i : Nat)] h = some (.ret (.tup [tokV k w n p, .int .i64 to, .int .i64 e]), h, false)) : Wd (.fn 178 [] []) [.str s, .int .i64 (i : Nat)] h = some (.ret (.tup [tokV k w n p, .int .i64 to, .int .i64 e]), h, false) := by
  have hx : ixSV (.str s) (.int .i64 (i : Nat)) = some (.int .u8 (s[i].toNat : Nat)) := ixSV_get (List.getElem?_eq_getElem hi)
  have c1 : ((i : Int) == (s.length : Int)) = false := by simp; omega
  simp only [tokV] at hn
  rw [Wd_fn rfl (show T.get 178 = some c178 by kernel_rfl)]
  simp only [c178, sT.1, sC.1, noApp, lookV, Nat.testBit, simprocAttr, -Int.reduceNatCast', c1, hx, tletter, h1, hn, tokV]
theorem word_sym {k n p to e : Int} {w : Str} (h1 : letter s[i] = false) (h2 : (s[i] == 39) = true) (hl : s.length ≤ 100000) (hn : ∀ h, Wd (.fn 225 [] []) [.str s, .int .i64 2, .int .i64 (i : Nat), .int .i64 (i + 1 : Nat)] h = some (.ret (.tup [tokV k w n p, .int .i64 to, .int .i64 e]), h, false)) : Wd (.fn 178 [] []) [.str s, .int .i64 (i : Nat)] h = some (.ret (.tup [tokV k w n p, .int .i64 to, .int .i64 e]), h, false) := by
  have hx : ixSV (.str s) (.int .i64 (i : Nat)) = some (.int .u8 (s[i].toNat : Nat)) := ixSV_get (List.getElem?_eq_getElem hi)
  have c1 : ((i : Int) == (s.length : Int)) = false := by simp; omega
  have w := wrap_succ (n := i) (by omega)
  simp only [tokV] at hn
  rw [Wd_fn rfl (show T.get 178 = some c178 by kernel_rfl)]
  simp only [c178, sT.1, sC.1, noApp, lookV, Nat.testBit, simprocAttr, -Int.reduceNatCast', c1, hx, tletter, h1, eq39, h2, w, hn, tokV]
theorem word_int {k n p to e : Int} {w : Str} (h1 : letter s[i] = false) (h2 : (s[i] == 39) = false) (h3 : digit s[i] = true) (hn : ∀ h, Wd (.fn 227 [] []) [.str s, .int .i64 (i : Nat)] h = some (.ret (.tup [tokV k w n p, .int .i64 to, .int .i64 e]), h, false)) : Wd (.fn 178 [] []) [.str s, .int .i64 (i : Nat)] h = some (.ret (.tup [tokV k w n p, .int .i64 to, .int .i64 e]), h, false) := by
  have hx : ixSV (.str s) (.int .i64 (i : Nat)) = some (.int .u8 (s[i].toNat : Nat)) := ixSV_get (List.getElem?_eq_getElem hi)
  have c1 : ((i : Int) == (s.length : Int)) = false := by simp; omega
  simp only [tokV] at hn
  rw [Wd_fn rfl (show T.get 178 = some c178 by kernel_rfl)]
  simp only [c178, sT.1, sC.1, noApp, lookV, Nat.testBit, simprocAttr, -Int.reduceNatCast', c1, hx, tletter, tdigit, h1, eq39, h2, h3, hn, tokV]
def markV (s : Str) (i : Nat) : Option Str → List AVal
  | some m => [tokV 3 m 0 i, .int .i64 (i + m.length : Nat), .int .i64 0]
  | none => [tokV 0 [] 0 i, .int .i64 (i : Nat), .int .i64 5]
theorem word_mark (h1 : letter s[i] = false) (h2 : (s[i] == 39) = false) (h3 : digit s[i] = false) (hl : s.length ≤ 100000) : Wd (.fn 178 [] []) [.str s, .int .i64 (i : Nat)] h = some (.ret (.tup (markV s i (markOf (s.drop i)))), h, false) := by
  have hx : ixSV (.str s) (.int .i64 (i : Nat)) = some (.int .u8 (s[i].toNat : Nat)) := ixSV_get (List.getElem?_eq_getElem hi)
  have c1 : ((i : Int) == (s.length : Int)) = false := by simp; omega
  rw [Wd_fn rfl (show T.get 178 = some c178 by kernel_rfl)]
  generalize hR : endR _ h _ = R
  simp only [c178, sT.1, sC.1, noApp, lookV, Nat.testBit, simprocAttr, -Int.reduceNatCast', c1, hx, tletter, tdigit, h1, eq39, h2, h3, marks_cut] at hR
  generalize hr : execW h.length Wd (.loop l178_0) _ = r at hR
  have q : MarkEnd h s i r (markOf (s.drop i)) := by
    rw [← hr]
    refine mark_loop s hl i (by omega) 17 0 _ (by omega) ?_ ?_ ?_ ?_ ?_ ?_
    all_goals simp only [sT.1, sC.1, noApp, lookV, Nat.testBit, simprocAttr, -Int.reduceNatCast', Int.natCast_zero]
  rw [← hR]
  cases hm : markOf (s.drop i) with
  | some m =>
    rw [hm] at q
    obtain ⟨tt, rfl, ht, e4, e5, e6⟩ := q
    simp only [sT.1, sC.1, noApp, lookV, Nat.testBit, simprocAttr, -Int.reduceNatCast', ht, e4, e5, e6, markV, tokV]
  | none =>
    rw [hm] at q
    obtain ⟨tt, rfl, ht, e0, e1, e4⟩ := q
    rw [tok0i]
    simp only [sT.1, sC.1, noApp, lookV, Nat.testBit, simprocAttr, -Int.reduceNatCast', ht, e0, e1, e4, fillS, markV, tokV]
end
end
end Go.Proofs.YtlognicjhmcgjaaGreatDoor.AE
namespace Go.Proofs.YtlognicjhmcgjaaGreatDoor.AE
open Go.AE
section
variable {h : List ABox}
def blank (c : UInt8) : Bool := (c.toNat : Int) == 32 || (c.toNat : Int) == 9 || (c.toNat : Int) == 10
def sharp (c : UInt8) : Bool := (c.toNat : Int) == 35
def lineEnd (s : Str) : Option Nat := s.findIdx? (· == 10)
def lineEndI (s : Str) : Int := match lineEnd s with
  | some k => k
  | none => -1
def IndexOK : Prop := ∀ (s : Str) (h : List ABox), Wd (.fn 229 [] []) [.str s, .int .u8 10] h = some (.ret (.int .i64 (lineEndI s)), h, false)
inductive Skip (s : Str) : Nat → Nat → Prop
  | done : Skip s s.length s.length
  | blank {i j} (hi : i < s.length) : blank s[i] = true → Skip s (i + 1) j → Skip s i j
  | line {i j k} (hi : i < s.length) : blank s[i] = false → sharp s[i] = true → lineEnd (s.drop i) = some k → Skip s (i + k + 1) j → Skip s i j
  | last {i} (hi : i < s.length) : blank s[i] = false → sharp s[i] = true → lineEnd (s.drop i) = none → Skip s i s.length
  | word {i} (hi : i < s.length) : blank s[i] = false → sharp s[i] = false → Skip s i i
theorem lineEnd_lt {s : Str} {k : Nat} (h : lineEnd s = some k) : k < s.length := by
  rw [lineEnd, List.findIdx?_eq_some_iff_getElem] at h
  exact h.1
theorem Skip.le {s : Str} {i j : Nat} (h : Skip s i j) : i ≤ j ∧ j ≤ s.length := by
  induction h with
  | done => omega
  | blank hi _ _ ih => omega
  | line hi _ _ _ _ ih => omega
  | last hi _ _ _ => omega
  | word hi _ _ => omega
theorem Skip.ex (s : Str) : ∀ (n i : Nat), s.length - i ≤ n → i ≤ s.length → ∃ j, Skip s i j := by
  intro n
  induction n with
  | zero =>
    intro i h1 h2
    have : i = s.length := by omega
    subst this
    exact ⟨_, .done⟩
  | succ n ih =>
    intro i h1 h2
    rcases Nat.lt_or_ge i s.length with hi | hi
    · cases hb : AE.blank s[i] with
      | true =>
        obtain ⟨j, hj⟩ := ih (i + 1) (by omega) (by omega)
        exact ⟨j, .blank hi hb hj⟩
      | false =>
        cases hs : sharp s[i] with
        | false => exact ⟨i, .word hi hb hs⟩
        | true =>
          cases hl : lineEnd (s.drop i) with
          | none => exact ⟨_, .last hi hb hs hl⟩
          | some k =>
            have := lineEnd_lt hl
            rw [List.length_drop] at this
            obtain ⟨j, hj⟩ := ih (i + k + 1) (by omega) (by omega)
            exact ⟨j, .line hi hb hs hl hj⟩
    · have : i = s.length := by omega
      subst this
      exact ⟨_, .done⟩
def SkipEnd (h : List ABox) (j : Nat) (r : Option (Ex × St)) : Prop :=
  (∃ tt, r = some (.exit 0, ⟨tt, h, false⟩) ∧ tt.length = 34 ∧ lkp tt 1 = .int .i64 (j : Nat)) ∨ (∃ tt, r = some (.ret, ⟨tt, h, false⟩) ∧ tt.length = 34 ∧ lkp tt 4 = .int .i64 (j : Nat))
theorem skip_loop (hx : IndexOK) {s : Str} (hs : s.length ≤ 100000) {i j : Nat} (hk : Skip s i j) : ∀ tt : List AVal, tt.length = 34 → lkp tt 0 = .str s → lkp tt 1 = .int .i64 (i : Nat) → SkipEnd h j (execW h.length Wd (.loop l179_0) ⟨tt, h, false⟩) := by
  rw [IndexOK] at hx
  induction hk with
  | done =>
    intro tt ht e0 e1
    have c1 : ilt (s.length : Int) (s.length : Int) = false := by rw [ilt_eq]; simp
    rw [execW_loop]
    simp only [l179_0, sT.1, sC.1, noApp, lookV, Nat.testBit, simprocAttr, -Int.reduceNatCast', ht, e0, e1, c1]
    exact .inl ⟨_, rfl, by simp only [length_up, ht], by simp only [sT.1, sC.1, noApp, lookV, Nat.testBit, simprocAttr, -Int.reduceNatCast', e1]⟩
  | @blank i j hi hb _ ih =>
    intro tt ht e0 e1
    have c1 : ilt (i : Int) (s.length : Int) = true := by rw [ilt_eq]; simp; omega
    have hg : ixSV (.str s) (.int .i64 (i : Nat)) = some (.int .u8 (s[i].toNat : Nat)) := ixSV_get (List.getElem?_eq_getElem hi)
    have w := wrap_succ (n := i) (by omega)
    rw [execW_loop]
    generalize he : execW h.length Wd l179_0 _ = r
    rw [AE.blank] at hb
    cases q1 : ((s[i].toNat : Int) == 32) with
    | true =>
      simp only [l179_0, sT.1, sC.1, noApp, lookV, Nat.testBit, simprocAttr, -Int.reduceNatCast', ht, e0, e1, c1, hg, w, q1] at he
      subst he
      refine ih _ ?_ ?_ ?_
      all_goals simp only [sT.1, sC.1, noApp, lookV, Nat.testBit, simprocAttr, -Int.reduceNatCast', ht, e0]
    | false =>
      cases q2 : ((s[i].toNat : Int) == 9) with
      | true =>
        simp only [l179_0, sT.1, sC.1, noApp, lookV, Nat.testBit, simprocAttr, -Int.reduceNatCast', ht, e0, e1, c1, hg, w, q1, q2] at he
        subst he
        refine ih _ ?_ ?_ ?_
        all_goals simp only [sT.1, sC.1, noApp, lookV, Nat.testBit, simprocAttr, -Int.reduceNatCast', ht, e0]
      | false =>
        have q3 : ((s[i].toNat : Int) == 10) = true := by simpa [q1, q2] using hb
        simp only [l179_0, sT.1, sC.1, noApp, lookV, Nat.testBit, simprocAttr, -Int.reduceNatCast', ht, e0, e1, c1, hg, w, q1, q2, q3] at he
        subst he
        refine ih _ ?_ ?_ ?_
        all_goals simp only [sT.1, sC.1, noApp, lookV, Nat.testBit, simprocAttr, -Int.reduceNatCast', ht, e0]
  | @line i j k hi hb hh hl _ ih =>
    intro tt ht e0 e1
    have c1 : ilt (i : Int) (s.length : Int) = true := by rw [ilt_eq]; simp; omega
    have hg : ixSV (.str s) (.int .i64 (i : Nat)) = some (.int .u8 (s[i].toNat : Nat)) := ixSV_get (List.getElem?_eq_getElem hi)
    have hkl := lineEnd_lt hl
    rw [List.length_drop] at hkl
    have w := wrap_succ (n := i + k) (by omega)
    have w2 : IntKind.i64.wrap ((i : Int) + (k : Int)) = ((i + k : Nat) : Int) := by rw [wrap_id (by omega) (by omega)]; omega
    have hI : lineEndI (s.drop i) = (k : Int) := by rw [lineEndI, hl]
    have c2 : ilt (k : Int) 0 = false := by rw [ilt_eq]; simp
    have hsub := subS_from (Nat.le_of_lt hi)
    rw [execW_loop]
    generalize he : execW h.length Wd l179_0 _ = r
    simp only [AE.blank, Bool.or_eq_false_iff] at hb
    rw [sharp] at hh
    simp only [l179_0, sT.1, sC.1, noApp, lookV, Nat.testBit, simprocAttr, -Int.reduceNatCast', ht, e0, e1, c1, hg, hb.1.1, hb.1.2, hb.2, hh, op_subS, Option.map_none, hsub, hx, hI, c2, w2, w] at he
    subst he
    refine ih _ ?_ ?_ ?_
    all_goals simp only [sT.1, sC.1, noApp, lookV, Nat.testBit, simprocAttr, -Int.reduceNatCast', ht, e0]
  | @last i hi hb hh hl =>
    intro tt ht e0 e1
    have c1 : ilt (i : Int) (s.length : Int) = true := by rw [ilt_eq]; simp; omega
    have hg : ixSV (.str s) (.int .i64 (i : Nat)) = some (.int .u8 (s[i].toNat : Nat)) := ixSV_get (List.getElem?_eq_getElem hi)
    have hI : lineEndI (s.drop i) = -1 := by rw [lineEndI, hl]
    have c2 : ilt (-1) 0 = true := by kernel_rfl
    have hsub := subS_from (Nat.le_of_lt hi)
    rw [execW_loop]
    generalize he : execW h.length Wd l179_0 _ = r
    simp only [AE.blank, Bool.or_eq_false_iff] at hb
    rw [sharp] at hh
    simp only [l179_0, sT.1, sC.1, noApp, lookV, Nat.testBit, simprocAttr, -Int.reduceNatCast', ht, e0, e1, c1, hg, hb.1.1, hb.1.2, hb.2, hh, op_subS, Option.map_none, hsub, hx, hI, c2] at he
    subst he
    exact .inr ⟨_, rfl, by simp only [length_up, ht], by simp only [sT.1, sC.1, noApp, lookV, Nat.testBit, simprocAttr, -Int.reduceNatCast', ht]⟩
  | @word i hi hb hh =>
    intro tt ht e0 e1
    have c1 : ilt (i : Int) (s.length : Int) = true := by rw [ilt_eq]; simp; omega
    have hg : ixSV (.str s) (.int .i64 (i : Nat)) = some (.int .u8 (s[i].toNat : Nat)) := ixSV_get (List.getElem?_eq_getElem hi)
    rw [execW_loop]
    generalize he : execW h.length Wd l179_0 _ = r
    simp only [AE.blank, Bool.or_eq_false_iff] at hb
    rw [sharp] at hh
    simp only [l179_0, sT.1, sC.1, noApp, lookV, Nat.testBit, simprocAttr, -Int.reduceNatCast', ht, e0, e1, c1, hg, hb.1.1, hb.1.2, hb.2, hh] at he
    subst he
    exact .inr ⟨_, rfl, by simp only [length_up, ht], by simp only [sT.1, sC.1, noApp, lookV, Nat.testBit, simprocAttr, -Int.reduceNatCast', ht]⟩
theorem skip_ok (hx : IndexOK) {s : Str} (hs : s.length ≤ 100000) {i j : Nat} (hk : Skip s i j) : Wd (.fn 179 [] []) [.str s, .int .i64 (i : Nat)] h = some (.ret (.int .i64 (j : Nat)), h, false) := by
  rw [Wd_fn rfl (show T.get 179 = some c179 by kernel_rfl)]
  generalize hR : endR _ h _ = R
  simp only [c179, sT.1, sC.1, noApp, lookV, Nat.testBit, simprocAttr, -Int.reduceNatCast'] at hR
  generalize hr : execW h.length Wd (.loop l179_0) _ = r at hR
  have q : SkipEnd h j r := by
    rw [← hr]
    refine skip_loop hx hs hk _ ?_ ?_ ?_
    all_goals simp only [sT.1, sC.1, noApp, lookV, Nat.testBit, simprocAttr, -Int.reduceNatCast']
  rw [← hR]
  rcases q with ⟨tt, rfl, ht, e1⟩ | ⟨tt, rfl, ht, e4⟩
  · simp only [sT.1, sC.1, noApp, lookV, Nat.testBit, simprocAttr, -Int.reduceNatCast', ht, e1]
  · simp only [sT.1, sC.1, noApp, lookV, Nat.testBit, simprocAttr, -Int.reduceNatCast', ht, e4]
end
end Go.Proofs.YtlognicjhmcgjaaGreatDoor.AE
