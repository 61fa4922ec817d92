/- A part of the proof: the abstract executor and what goes through it (part 3). No condition. -/
import Derived.Test.YtfmkpcgpkdnioaaGreatDoorMq2
import Derived.Test.YtfmkpcgpkdnioaaGreatDoorMq0
import Derived.WideKeyArgs
set_option maxRecDepth 100000
namespace Go.AE
theorem ao_eq (d:Nat) (o:AOp):ao d o = ⟨some d,o,none⟩:=Eq.trans rfl rfl
theorem ag_eq (d:Nat) (o:AOp) (j:Nat) (b:Bool):ag d o j b = ⟨some d,o,some (j,b)⟩:=Eq.trans rfl rfl
theorem an_eq (o:AOp):an o = ⟨none,o,none⟩:=Eq.trans rfl rfl
theorem splice_eq (cs:List AVal) (o:Nat) (vs:List AVal):splice cs o vs = cs.take o ++ vs ++ cs.drop (o + vs.length):=Eq.trans rfl rfl
def sT:=PLift.up (And.intro (And.intro (And.intro (And.intro (And.intro (And.intro (And.intro (And.intro @execW_seq (And.intro @execW_skip @execW_if)) (And.intro (And.intro @execW_exit @execW_ret) (And.intro @execW_block @reg_q))) (And.intro (And.intro @execW_draw (And.intro @draw_nil @draw_eff)) (And.intro (And.intro @draw_light @draw_ld) (And.intro @draw_new @ldD_some)))) (And.intro (And.intro (And.intro @drawE_nor (And.intro @drawE_pan @floats_nil)) (And.intro (And.intro @floats_cons @chks_nil) (And.intro @chks_cons @chk_ld))) (And.intro (And.intro @chk_box (And.intro @beqO_same @beqB_same)) (And.intro (And.intro @light_mov @light_pick) (And.intro @light_build @light_list))))) (And.intro (And.intro (And.intro (And.intro @light_nilc (And.intro @light_bin @light_eqb)) (And.intro (And.intro @light_eqi @light_eqa) (And.intro @light_un @light_cvi))) (And.intro (And.intro @light_cvs (And.intro @light_cvb @light_mkI)) (And.intro (And.intro @light_mkF @light_subS) (And.intro @light_subL @light_fa)))) (And.intro (And.intro (And.intro @light_ixaL (And.intro @light_ixaA @light_ixS)) (And.intro (And.intro @light_ixA @light_fld) (And.intro @light_ext @light_len))) (And.intro (And.intro (And.intro @light_mm @light_tas) (And.intro @plain_mov @effs_mov)) (And.intro (And.intro @isApp_mov @plain_pick) (And.intro @effs_pick @isApp_pick)))))) (And.intro (And.intro (And.intro (And.intro (And.intro @plain_build (And.intro @effs_build @isApp_build)) (And.intro (And.intro @plain_list @effs_list) (And.intro @isApp_list @plain_ld))) (And.intro (And.intro @effs_ld (And.intro @isApp_ld @plain_nilc)) (And.intro (And.intro @effs_nilc @isApp_nilc) (And.intro @plain_bin @effs_bin)))) (And.intro (And.intro (And.intro @isApp_bin (And.intro @plain_eqb @effs_eqb)) (And.intro (And.intro @isApp_eqb @plain_eqi) (And.intro @effs_eqi @isApp_eqi))) (And.intro (And.intro (And.intro @plain_eqa @effs_eqa) (And.intro @isApp_eqa @plain_un)) (And.intro (And.intro @effs_un @isApp_un) (And.intro @plain_cvi @effs_cvi))))) (And.intro (And.intro (And.intro (And.intro @isApp_cvi (And.intro @plain_cvs @effs_cvs)) (And.intro (And.intro @isApp_cvs @plain_cvb) (And.intro @effs_cvb @isApp_cvb))) (And.intro (And.intro @plain_mkI (And.intro @effs_mkI @isApp_mkI)) (And.intro (And.intro @plain_mkF @effs_mkF) (And.intro @isApp_mkF @plain_subS)))) (And.intro (And.intro (And.intro @effs_subS (And.intro @isApp_subS @plain_subL)) (And.intro (And.intro @effs_subL @isApp_subL) (And.intro @plain_fa @effs_fa))) (And.intro (And.intro (And.intro @isApp_fa @plain_ixaL) (And.intro @effs_ixaL @isApp_ixaL)) (And.intro (And.intro @plain_ixaA @effs_ixaA) (And.intro @isApp_ixaA @plain_ixS))))))) (And.intro (And.intro (And.intro (And.intro (And.intro (And.intro @effs_ixS (And.intro @isApp_ixS @plain_ixA)) (And.intro (And.intro @effs_ixA @isApp_ixA) (And.intro @plain_fld @effs_fld))) (And.intro (And.intro @isApp_fld (And.intro @plain_ext @effs_ext)) (And.intro (And.intro @isApp_ext @plain_len) (And.intro @effs_len @isApp_len)))) (And.intro (And.intro (And.intro @plain_mm (And.intro @effs_mm @isApp_mm)) (And.intro (And.intro @plain_tas @effs_tas) (And.intro @isApp_tas @plain_asg))) (And.intro (And.intro (And.intro @effs_asg @isApp_asg) (And.intro @plain_new @effs_new)) (And.intro (And.intro @isApp_new @plain_box) (And.intro @effs_box @isApp_box))))) (And.intro (And.intro (And.intro (And.intro @plain_st (And.intro @effs_st @isApp_st)) (And.intro (And.intro @plain_call @effs_call) (And.intro @isApp_call @plain_app))) (And.intro (And.intro @effs_app (And.intro @isApp_app @plain_pan)) (And.intro (And.intro @effs_pan @isApp_pan) (And.intro @q_nil @q_cons)))) (And.intro (And.intro (And.intro @q_plain (And.intro @q_guard @op_mov)) (And.intro (And.intro @op_asg @op_pick) (And.intro @op_fa @op_bin))) (And.intro (And.intro (And.intro @op_un @op_nilc) (And.intro @op_len @op_ixaL)) (And.intro (And.intro @op_new @op_ld) (And.intro @op_st @op_fld)))))) (And.intro (And.intro (And.intro (And.intro (And.intro @op_call (And.intro @op_build @op_list)) (And.intro (And.intro @op_box @boxW_eq) (And.intro @op_mkI @mkIV_agg))) (And.intro (And.intro @mkIV_int (And.intro @op_mkF @op_ixS)) (And.intro (And.intro @op_ixA @op_ext) (And.intro @extV_tup @op_eqb)))) (And.intro (And.intro (And.intro @eqbV_bool (And.intro @op_eqi @op_cvi)) (And.intro (And.intro @cviV_int @op_mm) (And.intro @mm_nat @mmV_min))) (And.intro (And.intro (And.intro @op_pan @panW_iface) (And.intro @callV_ret @callV_pan)) (And.intro (And.intro @put_some @put_none) (And.intro @thenW_norK @thenW_ret))))) (And.intro (And.intro (And.intro (And.intro @thenW_exit (And.intro @thenW_pan @blockW_nor)) (And.intro (And.intro @blockW_ret @blockW_pan) (And.intro @blockW_exit @condW_trueK))) (And.intro (And.intro @condW_falseK (And.intro @maskW_nor @maskW_pan)) (And.intro (And.intro @ev_t @ev_c) (And.intro @raw_t @raw_c)))) (And.intro (And.intro (And.intro @length_up (And.intro @look_eq @look_ne)) (And.intro (And.intro @look_zero @look_succ) (And.intro @drained_t @drained_c))) (And.intro (And.intro (And.intro @drain_bool @drain_int) (And.intro @drain_str @drain_nilptr)) (And.intro (And.intro @drain_ptr @drain_iptr) (And.intro @drain_agg @drain_tup)))))))) (And.intro (And.intro (And.intro (And.intro (And.intro (And.intro (And.intro @drain_fn (And.intro @drain_no @drain_full)) (And.intro (And.intro @drain_own @drain_iface) (And.intro @drain_dim @dim_bool))) (And.intro (And.intro @dim_int (And.intro @dim_str @dim_ptr)) (And.intro (And.intro @dim_iptr @dim_agg) (And.intro @dim_tup @dim_fn)))) (And.intro (And.intro (And.intro @dim_undef (And.intro @dim_nilptr @dim_nilfunc)) (And.intro (And.intro @dim_niliface @dim_iface) (And.intro @dim_yld @dim_no))) (And.intro (And.intro (And.intro @dim_full @dim_own) (And.intro @dim_gv @get_at)) (And.intro (And.intro @get_past @get_old) (And.intro @set_old @set_twice))))) (And.intro (And.intro (And.intro (And.intro @get_set (And.intro @get_at2 @set_at2)) (And.intro (And.intro @get_past2 @set_past2) (And.intro @get_set_ne @set_at))) (And.intro (And.intro @set_past (And.intro @cells_agg @cells_int)) (And.intro (And.intro @cells_str @cells_bool) (And.intro @cells_lst @cells_ptr)))) (And.intro (And.intro (And.intro @cells_nilptr (And.intro @cells_fn @cells_niliface)) (And.intro (And.intro @cells_iface @cells_yld) (And.intro @cut_cons @ldAt_iptr))) (And.intro (And.intro (And.intro @ldAt_box @ldB_cells) (And.intro @putC_none @putC_some)) (And.intro (And.intro @stV_box @stB_cells) (And.intro @stor_int @stor_str)))))) (And.intro (And.intro (And.intro (And.intro (And.intro @stor_bool (And.intro @stor_lst @stor_ptr)) (And.intro (And.intro @stor_iptr @stor_nilptr) (And.intro @stor_nilfunc @stor_fn))) (And.intro (And.intro @stor_yld (And.intro @stor_niliface @stor_iface)) (And.intro (And.intro @lower_undef @lower_bool) (And.intro @lower_int @lower_str)))) (And.intro (And.intro (And.intro @lower_nilptr (And.intro @lower_ptr @lower_yld)) (And.intro (And.intro @lower_iptr @lower_lst) (And.intro @lower_nilfunc @lower_niliface))) (And.intro (And.intro (And.intro @lower_iface @lower_fn) (And.intro @lower_agg @lower_tup)) (And.intro (And.intro @lowerL_nil @lowerL_cons) (And.intro @stW_some @faV_ptr))))) (And.intro (And.intro (And.intro (And.intro @faV_iptr (And.intro @nilcV_ptr @nilcV_iptr)) (And.intro (And.intro @lenV_str @lenV_lst) (And.intro @fldV_agg @putV_some))) (And.intro (And.intro @cut_none (And.intro @bin_add @bin_sub)) (And.intro (And.intro @bin_mul @bin_quo) (And.intro @bin_rem @bin_eql)))) (And.intro (And.intro (And.intro @bin_neq (And.intro @bin_lss @bin_leq)) (And.intro (And.intro @bin_gtr @bin_geq) (And.intro @str_add @str_eql))) (And.intro (And.intro (And.intro @str_neq @str_lss) (And.intro @str_gtr @un_neg)) (And.intro (And.intro @un_not @pickW_true) (And.intro @pickW_false @pick_and))))))) (And.intro (And.intro (And.intro (And.intro (And.intro (And.intro @pick_or (And.intro @guardP_boolK @guardP_tupK)) (And.intro (And.intro @guardP_gv @guardP_gv2) (And.intro @guardQ_trueK @guardQ_falseK))) (And.intro (And.intro @guardQ_some (And.intro @in_some @at_some)) (And.intro (And.intro @inat_some @in_ld) (And.intro @at_ld @inat_ld)))) (And.intro (And.intro (And.intro @in_fa (And.intro @at_fa @inat_fa)) (And.intro (And.intro @in_len @at_len) (And.intro @inat_len @in_fld))) (And.intro (And.intro (And.intro @at_fld @inat_fld) (And.intro @in_un @at_un)) (And.intro (And.intro @inat_un @in_nilc) (And.intro @at_nilc @inat_nilc))))) (And.intro (And.intro (And.intro (And.intro @in_ext (And.intro @at_ext @inat_ext)) (And.intro (And.intro @in_cvi @at_cvi) (And.intro @inat_cvi @in_mkI))) (And.intro (And.intro @at_mkI (And.intro @inat_mkI @in_ixS)) (And.intro (And.intro @at_ixS @inat_ixS) (And.intro @in_ixS2 @at_ixS2)))) (And.intro (And.intro (And.intro @inat_ixS2 (And.intro @in_ixa @at_ixa)) (And.intro (And.intro @inat_ixa @in_ixa2) (And.intro @at_ixa2 @inat_ixa2))) (And.intro (And.intro (And.intro @in_ixA @at_ixA) (And.intro @inat_ixA @in_ixA2)) (And.intro (And.intro @at_ixA2 @inat_ixA2) (And.intro @in_bin @at_bin)))))) (And.intro (And.intro (And.intro (And.intro (And.intro @inat_bin (And.intro @in_bin2 @at_bin2)) (And.intro (And.intro @inat_bin2 @in_eqb) (And.intro @at_eqb @inat_eqb))) (And.intro (And.intro @in_eqb2 (And.intro @at_eqb2 @inat_eqb2)) (And.intro (And.intro @in_eqi @at_eqi) (And.intro @inat_eqi @in_eqi2)))) (And.intro (And.intro (And.intro @at_eqi2 (And.intro @inat_eqi2 @in_mm)) (And.intro (And.intro @at_mm @inat_mm) (And.intro @in_mm2 @at_mm2))) (And.intro (And.intro (And.intro @inat_mm2 @in_pick) (And.intro @at_pick @inat_pick)) (And.intro (And.intro @in_pick2 @at_pick2) (And.intro @inat_pick2 @in_pick3))))) (And.intro (And.intro (And.intro (And.intro @at_pick3 (And.intro @inat_pick3 @gate_some)) (And.intro (And.intro @gate_trueK @gate_falseK) (And.intro @gv_gv @gv_trueK))) (And.intro (And.intro @gv_falseK (And.intro @guardJ_hit @guardJ_tfK)) (And.intro (And.intro @guardJ_ftK @guardJ_tupK) (And.intro @is_true @is_false)))) (And.intro (And.intro (And.intro @endR_nor (And.intro @endR_ret @endR_pan)) (And.intro (And.intro @endW_some @res_nil) (And.intro @res_tmp @res_cell))) (And.intro (And.intro (And.intro @consR_some @oneRes_one) (And.intro @oneRes_nil @oneRes_two)) (And.intro (And.intro @leave_ret @leave_ret0) (And.intro @leave_pan @leave_pan0)))))))))
def sC:=PLift.up (And.intro (And.intro (And.intro (And.intro (And.intro @List.nil_append.{0} (And.intro @List.append_nil.{0} @List.map_cons.{0,0})) (And.intro (And.intro @List.map_nil.{0,0} @List.length_cons.{0}) (And.intro @List.length_nil.{0} @List.cons_append.{0}))) (And.intro (And.intro (And.intro @ao_eq @ag_eq) (And.intro @an_eq @Option.map_some.{0,0})) (And.intro (And.intro @ne_eq.{1} @not_false_eq_true) (And.intro @List.length_set.{0} @List.length_replicate.{0})))) (And.intro (And.intro (And.intro @Bool.or_false (And.intro @Bool.or_true @Bool.false_or)) (And.intro (And.intro @Bool.true_or @Bool.and_true) (And.intro @Bool.and_false @Bool.true_and))) (And.intro (And.intro (And.intro @Bool.false_and @Bool.not_true) (And.intro @Bool.not_false @eq_self.{1})) (And.intro (And.intro @List.getElem?_cons_zero.{0} @List.getElem?_cons_succ.{0}) (And.intro @List.set_cons_zero.{0} @List.set_cons_succ.{0}))))) (And.intro (And.intro (And.intro (And.intro @List.append_assoc.{0} (And.intro @List.length_append.{0} @splice_eq)) (And.intro (And.intro @List.take_zero.{0} @List.drop_zero.{0}) (And.intro @List.take_succ_cons.{0} @List.drop_succ_cons.{0}))) (And.intro (And.intro (And.intro @List.drop_nil.{0} @List.take_nil.{0}) (And.intro @List.all_cons.{0} @List.all_nil.{0})) (And.intro (And.intro @Option.getD_some.{0} @Option.getD_none.{0}) (And.intro @and_self @and_true)))) (And.intro (And.intro (And.intro (And.intro @true_and @if_true.{1}) (And.intro @if_false.{1} @Nat.le_refl)) (And.intro (And.intro @Nat.ble_self_eq_true @Nat.zero_add) (And.intro @Nat.add_zero @beq_self_eq_true.{0}))) (And.intro (And.intro (And.intro @Bool.false_eq_true @bne_self_eq_false.{0}) (And.intro @List.isEmpty_nil.{0} @List.isEmpty_cons.{0})) (And.intro (And.intro @cond_true.{1} @cond_false.{1}) (And.intro @List.filterMap_cons.{0,0} @List.filterMap_nil.{0,0}))))))
def sTA:=PLift.up (And.intro (And.intro (And.intro (And.intro @reg_app (And.intro @ops_nil @ops_cons)) (And.intro @ops_guard (And.intro @op_app @tail_lst))) (And.intro (And.intro @tail_str (And.intro @app_nil @app_full)) (And.intro @app_own (And.intro @app_no @appT_some)))) (And.intro (And.intro (And.intro @taken_t (And.intro @takeV_own @takeV_no)) (And.intro @takeS_tmp (And.intro @takeS_cell @takeT_own))) (And.intro (And.intro @takeP_ptr (And.intro @takeC_cells @takeD_own)) (And.intro @src_nil (And.intro @prov_eff @prov_no)))))
def sCA:=PLift.up (And.intro (And.intro @List.filter_cons.{0} @List.filter_nil.{0}) (And.intro @List.find?_cons.{0} @List.find?_nil.{0}))
end Go.AE
namespace Go.AE
section
variable {base:Nat} {call:Call} {p:Prov} {s:St} {t:List AVal} {h:List ABox}
def hxW (d:Option Nat) (s:St):Option (AVal×List ABox×Bool)→Option (Ex×St)
 | some (v,h,e)=>some (.nor,{ t:=put d v.dim s.t,h,e:=s.e || e})
 | none=>none
theorem hxW_some (d:Option Nat) (t:List AVal) (h h':List ABox) (e e':Bool) (v:AVal):hxW d ⟨t,h,e⟩ (some (v,h',e')) = some (.nor,⟨put d v.dim t,h',e || e'⟩):=rfl
theorem op_hx (d:Option Nat) (o:HOp) (aS:List AOpd):runOp base call p d (.hx o aS) s = hxW d s (hop base o (aS.map (ev s.t)) s.h):=by
 simp only [runOp]
 cases hop base o (aS.map (ev s.t)) s.h with
 | none=>rfl
 | some r=>rfl
theorem plain_hx (o:HOp) (aS:List AOpd):(AOp.hx o aS).plain = false:=Eq.trans rfl rfl
theorem effs_hx (o:HOp) (aS:List AOpd):(AOp.hx o aS).effs = true:=Eq.trans rfl rfl
theorem isApp_hx (o:HOp) (aS:List AOpd):(AOp.hx o aS).isApp = false:=Eq.trans rfl rfl
theorem lenV_sl (id o len cap more:Nat):lenV false (.sl id o len cap more) = some (.int .i64 len):=rfl
theorem dim_sl (id o len cap more:Nat):(AVal.sl id o len cap more).dim = .sl id o len cap more:=rfl
theorem drain_sl (id o len cap more i:Nat) (t:List AVal):drainW (.sl id o len cap more) i t = t:=rfl
theorem stor_sl (id o len cap more:Nat):(AVal.sl id o len cap more).storable = true:=Eq.trans rfl rfl
theorem cells_sl (id o len cap more:Nat):(AVal.sl id o len cap more).cells = [.sl id o len cap more]:=rfl
theorem lower_sl (n id o len cap more:Nat):(AVal.sl id o len cap more).lower n = Nat.blt id n:=Eq.trans rfl rfl
theorem leave_c (n:Nat) (v:AVal) (H:List ABox):leave n (.ret v) H false = bif v.lower n then (.ret v,H.take n,false) else (.ret v,H,false):=by
 unfold leave
 cases h:v.lower n <;> simp [h]
def subP (k:Nat) (x y:AVal):Option AVal:=pureV [x,y] (.subL k (.t 0) none (some (.t 1)))
theorem ixaV_sl (k id o len cap more:Nat) (j:IntKind) (n:Int):ixaV k (.sl id o len cap more) (.int j n) = if 0 ≤ n∧n < len then some (.ptr id (o + n.toNat * k)) else none:=rfl
end
end Go.AE
namespace Go.AE
noncomputable def getA (t:List AVal):Nat→AVal:=List.rec (motive:=fun _=>Nat→AVal) (fun _=>.undef) (fun a _ ih n=>Nat.rec (motive:=fun _=>AVal) a (fun m _=>ih m) n) t
noncomputable def setA (v:AVal) (t:List AVal):Nat→List AVal:=List.rec (motive:=fun _=>Nat→List AVal) (fun _=>[]) (fun a aS ih n=>Nat.rec (motive:=fun _=>List AVal) (v :: aS) (fun m _=>a :: ih m) n) t
theorem getA_eq:∀(t:List AVal) (i:Nat),getA t i = t.getD i .undef
 | [],_=>rfl
 | _ :: _,0=>rfl
 | _ :: t,i + 1=>getA_eq t i
theorem setA_eq (v:AVal):∀(t:List AVal) (i:Nat),setA v t i = t.set i v
 | [],_=>rfl
 | _ :: _,0=>rfl
 | a :: t,i + 1=>congrArg (a :: ·) (setA_eq v t i)
noncomputable def forceI (k:IntKind) (n:Int):AVal:=
 Int.rec (motive:=fun _=>AVal) (fun m=>Nat.rec (motive:=fun _=>AVal) (.int k (.ofNat 0)) (fun p _=>.int k (.ofNat (p + 1))) m) (fun m=>.int k (.negSucc m)) n
noncomputable def forceB (b:Bool):AVal:=Bool.rec (motive:=fun _=>AVal) (.bool false) (.bool true) b
noncomputable def dimF (v:AVal):AVal:=
 AVal.casesOn (motive_1:=fun _=>AVal) v .undef .bool .int .str .nilptr .ptr .iptr (fun xs f=>Flag.casesOn (motive:=fun _=>AVal) f (.lst xs .no) (.lst xs .full) (fun _=>.lst xs .no)) .nilfunc .fn .yld .niliface .iface .agg .tup .sl .mp .nilmap .nils .empt
noncomputable def forceV (v:AVal):AVal:=
 AVal.casesOn (motive_1:=fun _=>AVal) v .undef forceB forceI .str .nilptr .ptr .iptr .lst .nilfunc .fn .yld .niliface .iface .agg .tup .sl .mp .nilmap .nils .empt
theorem forceB_eq (b:Bool):forceB b = .bool b:=by cases b <;> rfl
theorem forceI_eq (k:IntKind) (n:Int):forceI k n = .int k n:=by
 cases n with
 | ofNat m=>cases m <;> rfl
 | negSucc m=>rfl
theorem dimF_eq:dimF = AVal.dim:=by
 funext v
 cases v <;> try rfl
 rename_i xs f
 cases f <;> rfl
theorem forceV_eq (v:AVal):forceV v = v:=by cases v <;> first | rfl | exact forceB_eq _ | exact forceI_eq _ _
noncomputable def setF (d:Nat) (v:AVal) (t:List AVal):List AVal:=
 AVal.casesOn (motive_1:=fun _=>List AVal) (forceV v) (setA .undef t d) (fun b=>setA (.bool b) t d) (fun k n=>setA (.int k n) t d) (fun x=>setA (.str x) t d) (setA .nilptr t d) (fun a b=>setA (.ptr a b) t d) (fun a b=>setA (.iptr a b) t d) (fun a b=>setA (.lst a b) t d)
  (setA .nilfunc t d) (fun a b c=>setA (.fn a b c) t d) (fun a=>setA (.yld a) t d) (setA .niliface t d) (fun a b=>setA (.iface a b) t d) (fun a=>setA (.agg a) t d) (fun a=>setA (.tup a) t d) (fun a b c e f=>setA (.sl a b c e f) t d) (fun a=>setA (.mp a) t d) (setA .nilmap t d) (setA .nils t d) (setA .empt t d)
theorem setF_eq (d:Nat) (v:AVal) (t:List AVal):setF d v t = t.set d v:=by
 unfold setF
 rw [forceV_eq]
 cases v <;> exact setA_eq _ _ _
noncomputable def rawF (t:List AVal):AOpd→AVal
 | .t i=>getA t i
 | .c v=>v
noncomputable def evF (t:List AVal) (x:AOpd):AVal:=dimF (rawF t x)
noncomputable def putF (dst:Option Nat) (v:AVal) (t:List AVal):List AVal:=
 match dst with
 | some d=>setF d v t
 | none=>t
noncomputable def drainedF (t:List AVal) (x:AOpd):List AVal:=
 match x with
 | .t i=>match getA t i with
  | .lst xs (.own _)=>t.set i (.lst xs .no)
  | _=>t
 | .c _=>t
theorem rawF_eq:rawF = raw:=by
 funext t x
 cases x
 ·exact getA_eq _ _
 ·rfl
theorem evF_eq:evF = ev:=by
 funext t x
 simp only [evF,ev,rawF_eq,dimF_eq]
theorem putF_eq:putF = put:=by
 funext d v t
 cases d
 ·rfl
 ·exact setF_eq _ _ _
theorem drainedF_eq:drainedF = drained:=by
 funext t x
 cases x
 ·simp only [drainedF,drained,getA_eq]
  rfl
 ·rfl
noncomputable def boundF (t:List AVal) (x:Option AOpd) (d:Nat):Option Nat:=
 match x with
 | none=>some d
 | some x=>match evF t x with
  | .int _ n=>if 0 ≤ n then some n.toNat else none
  | _=>none
noncomputable def pureVF (t:List AVal) (o:AOp):Option AVal:=
 match o with
 | .mov x=>some (evF t x)
 | .pick c a b=>match evF t c with
  | .bool true=>some (evF t a)
  | .bool false=>some (evF t b)
  | _=>none
 | .build zero parts=>(fillS zero (parts.map fun (o,s,x)=>(o,s,evF t x))).map .agg
 | .list k zero len parts=>
  if zero.length = k∧len * k ≤ 2 ^ 24 then
   match fillS ((List.replicate len zero).flatten) (parts.map fun (i,x)=>(i * k,k,evF t x)) with
   | some cs=>if cs.all AVal.storable then some (.lst ((List.range len).map fun i=>if k = 1 then (cs.getD i .undef) else .agg ((cs.drop (i * k)).take k)) .full) else none
   | none=>none
  else none
 | .nilc x=>match evF t x with
  | .ptr i o=>some (.ptr i o)
  | .iptr cs o=>some (.iptr cs o)
  | .fn f a b=>some (.fn f a b)
  | .yld l=>some (.yld l)
  | .iface u v=>some (.iface u v)
  | _=>none
 | .bin op x y=>binV op (evF t x) (evF t y)
 | .eqb neg x y=>match evF t x,evF t y with
  | .bool a,.bool b=>some (.bool ((a == b) != neg))
  | _,_=>none
 | .eqi k neg x y=>(nilV k (evF t x) (evF t y)).map fun b=>.bool (b != neg)
 | .eqa neg x y=>match evF t x,evF t y with
  | .agg a,.agg b=>(cellsEq a b).map fun r=>.bool (r != neg)
  | _,_=>none
 | .eqs sh neg x y=>(eqSh sh (evF t x) (evF t y)).map fun r=>.bool (r != neg)
 | .un op x=>unV op (evF t x)
 | .nls neg x=>match evF t x with
  | .sl ..=>some (.bool (false != neg))
  | .lst (_ :: _) _=>some (.bool (false != neg))
  | .nils=>some (.bool (true != neg))
  | .empt=>some (.bool (false != neg))
  | _=>none
 | .cvi k x=>match evF t x with
  | .int _ n=>some (.int k (k.wrap n))
  | _=>none
 | .cvs x=>match evF t x with
  | .str s=>some (.str s)
  | _=>none
 | .cvb x=>match evF t x with
  | .str s=>some (.lst (ints s) .no)
  | _=>none
 | .mkI ty x=>match evF t x with
  | .undef=>none
  | v=>some (.iface ty v)
 | .mkF f a b=>some (.fn f (a.map (evF t)) (b.map (evF t)))
 | .subS x lo hi=>match evF t x with
  | .str s=>match boundF t hi s.length with
   | some h=>match boundF t lo 0 with
    | some l=>if l ≤ h∧h ≤ s.length then some (.str ((s.drop l).take (h - l))) else none
    | none=>none
   | none=>none
  | _=>none
 | .subL k x lo hi=>match evF t x with
  | .lst xs f=>match boundF t hi xs.length with
   | some h=>match boundF t lo 0 with
    | some l=>
     if l ≤ h∧h ≤ xs.length then
      if xs.head?.all (fun y=>y.cells.length == k) then some (.lst ((xs.drop l).take (h - l)) (if h = xs.length then f else .no)) else none
     else none
    | none=>none
   | none=>none
  | .sl id o len cap more=>match boundF t hi len with
   | some h=>match boundF t lo 0 with
    | some l=>
     if l ≤ h∧h ≤ cap then
      if cap = l then (if more = 0 then some (.lst [] .full) else none) else (if more = 0∨more = k then some (.sl id (o + l * k) (h - l) (cap - l) more) else none)
     else none
    | none=>none
   | none=>none
  | _=>none
 | .fa off a=>match evF t a with
  | .ptr i o=>some (.ptr i (o + off))
  | .iptr cs o=>some (.iptr cs (o + off))
  | _=>none
 | .ixaL k s i=>match evF t s,evF t i with
  | .lst xs _,.int _ n=>
   if 0 ≤ n∧n < xs.length then
    match xs[n.toNat]? with
    | some x=>if x.cells.length = k then some (.iptr x.cells 0) else none
    | none=>none
   else none
  | .sl id o len _ _,.int _ n=>if 0 ≤ n∧n < len then some (.ptr id (o + n.toNat * k)) else none
  | _,_=>none
 | .ixaA len k a i=>match evF t a,evF t i with
  | .ptr b o,.int _ n=>if 0 ≤ n∧n < (len:Int) then some (.ptr b (o + n.toNat * k)) else none
  | .iptr cs o,.int _ n=>if 0 ≤ n∧n < (len:Int) then some (.iptr cs (o + n.toNat * k)) else none
  | _,_=>none
 | .ixS s i=>match evF t s,evF t i with
  | .str l,.int _ n=>if 0 ≤ n then (l[n.toNat]?).map fun b=>.int .u8 b.toNat else none
  | _,_=>none
 | .ixA len k a i=>match evF t a,evF t i with
  | .agg cs,.int _ n=>if 0 ≤ n∧n < (len:Int) then cut cs (n.toNat * k.getD 1) k else none
  | _,_=>none
 | .fld off k x=>match evF t x with
  | .agg cs=>cut cs off k
  | _=>none
 | .ext x i=>match evF t x with
  | .tup vs=>(vs[i]?).map AVal.dim
  | _=>none
 | .len true x=>match evF t x with
  | .str s=>some (.int .i64 s.length)
  | _=>none
 | .len false x=>match evF t x with
  | .lst xs _=>some (.int .i64 xs.length)
  | .sl _ _ len _ _=>some (.int .i64 len)
  | .nils=>some (.int .i64 0)
  | .empt=>some (.int .i64 0)
  | _=>none
 | .mm isMax x y=>match evF t x,evF t y with
  | .int k a,.int _ b=>some (.int k (if isMax then (if b > a then b else a) else (if b < a then b else a)))
  | _,_=>none
 | .tas ty zero x=>match evF t x with
  | .niliface=>some (.tup [zero,.bool false])
  | .iface u v=>if u = ty then some (.tup [v,.bool true]) else some (.tup [zero,.bool false])
  | _=>none
 | _=>none
noncomputable def takenF (k:Nat) (p:Prov) (x:AOpd) (s:St):Option (List AVal×St):=
 match x with
 | .c _=>none
 | .t i=>
  match rawF s.t (.t i) with
  | .lst xs (.own j)=>if j = k then some (xs,{ s with t:=s.t.set i (.lst xs .no)}) else none
  | _=>
   match p.find? (·.1 == i) with
   | some (_,.tmp b)=>
    match rawF s.t (.t b) with
    | .lst xs (.own j)=>if j = k then some (xs,{ s with t:=s.t.set b (.lst xs .no)}) else none
    | _=>none
   | some (_,.cell a)=>
    match evF s.t a with
    | .ptr id o=>
     match s.h[id]? with
     | some (.cells cs)=>
      match cs[o]? with
      | some (.lst xs (.own j))=>if j = k then some (xs,{ s with h:=s.h.set id (.cells (cs.set o (.lst xs .no)))}) else none
      | _=>none
     | _=>none
    | _=>none
   | none=>none
noncomputable def runOpF (base:Nat) (call:Call) (p:Prov) (dst:Option Nat) (o:AOp) (s:St):Option (Ex×St):=
 match o with
 | .asg x=>some (.nor,{ s with t:=putF dst (rawF s.t x) (drainedF s.t x)})
 | .new cs=>some (.nor,{ s with t:=putF dst (.ptr s.h.length 0) s.t,h:=s.h ++ [.cells (cs.map AVal.dim)]})
 | .box k x=>
  let vs:=(evF s.t x).cells.map AVal.dim
  if vs.length = k∧vs.all AVal.storable then some (.nor,{ s with t:=putF dst (.ptr s.h.length 0) s.t,h:=s.h ++ [.cells vs]}) else none
 | .ld k a=>(ldAt s.h (evF s.t a) k).map fun v=>(.nor,{ s with t:=putF dst v s.t})
 | .st k a x=>
  match evF s.t a with
  | .ptr id o=>
   match s.h[id]? with
   | some (.cells cs)=>
    let v:=rawF s.t x
    let vs:=match k with | none=>[v] | some _=>v.dim.cells.map AVal.dim
    if vs.length = k.getD 1∧o + vs.length ≤ cs.length∧vs.all AVal.storable then
     some (.nor,{ t:=putF dst .undef (drainedF s.t x),h:=s.h.set id (.cells (splice cs o vs)),e:=s.e || !(Nat.ble base id || lowerL (id + 1) vs)})
    else none
   | _=>none
  | _=>none
 | .call f args=>
  match call (evF s.t f) (args.map (evF s.t)) s.h with
  | some (.ret v,h,e)=>some (.nor,{ t:=putF dst v.dim s.t,h,e:=s.e || e})
  | some (.pan v,h,e)=>some (.pan v,{ s with h,e:=s.e || e})
  | none=>none
 | .app k x y=>
  match rawF s.t x,tail (evF s.t y) with
  | .lst xs f,some ys=>
   if ys.isEmpty then some (.nor,{ s with t:=putF dst (AVal.lst xs f).dim s.t})
   else if xs.length + ys.length ≤ limit∧ys.all (fun y=>y.cells.length == k && y.cells.all AVal.storable)∧xs.head?.all (fun y=>y.cells.length == k) then
    match f with
    | .full=>some (.nor,{ s with t:=putF dst (.lst (xs ++ ys) (.own k)) s.t})
    | _=>
     match takenF k p x s with
     | some (xs,s)=>if xs.head?.all (fun y=>y.cells.length == k) then some (.nor,{ s with t:=putF dst (.lst (xs ++ ys) (.own k)) s.t}) else none
     | none=>none
   else none
  | _,_=>none
 | .pan x=>match evF s.t x with
  | .iface u v=>some (.pan (.iface u v),s)
  | _=>none
 | .lk sh z ok m key=>(lkAt s.h sh z ok (evF s.t m) (evF s.t key)).map fun v=>(.nor,{ s with t:=putF dst v s.t})
 | .hx o aS=>(hop base o (aS.map (evF s.t)) s.h).map fun r=>(.nor,{ t:=putF dst r.1.dim s.t,h:=r.2.1,e:=s.e || r.2.2})
 | o=>(pureVF s.t o).map fun v=>(.nor,{ s with t:=putF dst v s.t})
noncomputable def wantedF (t:List AVal) (g:Option (Nat×Bool)):Option Bool:=
 match g with
 | none=>some true
 | some (j,b)=>match rawF t (.t j) with
  | .bool c=>some (c == b)
  | .tup []=>some false
  | _=>none
noncomputable def runOpsF (base:Nat) (call:Call):Prov→List AOper→St→Option (Ex×St)
 | _,[],s=>some (.nor,s)
 | p,o :: os,s=>
  match wantedF s.t o.guard with
  | some true=>
   match runOpF base call p o.dst o.op s with
   | some (.nor,s)=>runOpsF base call (provNext p o) os s
   | r=>r
  | some false=>runOpsF base call (provNext p { o with op:=.pick (.c .undef) (.c .undef) (.c .undef)}) os { s with t:=putF o.dst (.tup []) s.t}
  | none=>none
noncomputable def chkOfF (s:St) (o:AOp):Option Chk:=
 match o with
 | .ld k a=>(ldAt s.h (evF s.t a) k).map (.ld (evF s.t a) k)
 | .lk sh z ok m key=>(lkAt s.h sh z ok (evF s.t m) (evF s.t key)).map (.lk sh z ok (evF s.t m) (evF s.t key))
 | .new cs=>some (.box s.h.length (cs.map AVal.dim))
 | .box _ x=>some (.box s.h.length ((evF s.t x).cells.map AVal.dim))
 | _=>none
noncomputable def runDrawF (base:Nat) (call:Call) (dsts:List Nat):List DOper→List (Nat×Chk)→St→Option (Ex×St)
 | [],_,s=>some (.nor,s)
 | d :: ds,pend,s=>
  match wantedF s.t d.o.guard with
  | some true=>
   match runOpF base call [] d.o.dst d.o.op s with
   | some (.nor,s')=>
    if d.o.op.effs then
     let pend':=pend.filter fun c=>!d.cl.testBit c.1
     if pend'.all (fun c=>c.2.ok s'.h) then runDrawF base call dsts ds pend' s' else none
    else
     match chkOfF s d.o.op with
     | some c=>runDrawF base call dsts ds ((d.ix,c) :: pend) s'
     | none=>runDrawF base call dsts ds pend s'
   | some (.pan v,s')=>if d.o.op.effs then some (.pan v,{ s' with t:=mask dsts s'.t}) else none
   | _=>none
  | some false=>runDrawF base call dsts ds pend { s with t:=putF d.o.dst (.tup []) s.t}
  | none=>none
noncomputable def execF (n base:Nat) (call:Call):ACode→St→Option (Ex×St)
 | .skip,s=>some (.nor,s)
 | .reg ops,s=>runOpsF base call [] ops s
 | .draw ops,s=>runDrawF base call (ops.filterMap (·.o.dst)) ops [] s
 | .draw2 c a b r,s=>both a b (runDrawF base call ((c ++ a :: b :: r).filterMap (·.o.dst)) (c ++ [a,b]) [] s) (runDrawF base call ((c ++ a :: b :: r).filterMap (·.o.dst)) (c ++ a :: b :: r) [] s) (runDrawF base call ((c ++ a :: b :: r).filterMap (·.o.dst)) (c ++ b :: a :: r) [] s)
 | .seq a b,s=>match execF n base call a s with
  | some (.nor,s)=>execF n base call b s
  | r=>r
 | .cond c a b,s=>match evF s.t c with
  | .bool true=>execF n base call a s
  | .bool false=>execF n base call b s
  | _=>none
 | .block id b,s=>match execF n base call b s with
  | some (.exit j,s)=>if j = id then some (.nor,s) else some (.exit j,s)
  | r=>r
 | .loop b,s=>iter (execF n base call b) n s
 | .exit id,s=>some (.exit id,s)
 | .ret,s=>some (.ret,s)
 | .rfun f ps asg body,s=>
  match evF s.t f with
  | .fn g first cap=>
   match call (.fn g first cap) [.yld s.h.length] (s.h ++ [.loop (s.t.map AVal.dim) ps asg body .ready none]) with
   | some (.ret _,h,e)=>
    match h[s.h.length]? with
    | some (.loop t ps' asg' body' st pend)=>
     if st = .busy then none else
     let s':St:={ s with h:=h.set s.h.length (.loop t ps' asg' body' .exhausted pend),e:=s.e || e}
     match pend with
     | none=>some (.nor,s')
     | some .ret=>some (.ret,s')
     | some (.exit id)=>some (.exit id,s')
    | _=>none
   | some (.pan v,h,e)=>some (.pan v,{ s with h,e:=s.e || e})
   | none=>none
  | _=>none
noncomputable def readResF (s:St):List ARes→Option (List AVal)
 | []=>some []
 | .tmp i :: rs=>match readResF s rs with
  | some vs=>some (dimF (rawF s.t (.t i)) :: vs)
  | none=>none
 | .cell a k :: rs=>
  match ldAt s.h (rawF s.t (.t a)) k,readResF s rs with
  | some v,some vs=>some (v :: vs)
  | _,_=>none
noncomputable def roundF (n:Nat) (call:Call) (l:Nat) (args:List AVal) (h:List ABox):Option (CRes×List ABox×Bool):=
 match h[l]? with
 | some (.loop t ps asg body _ _)=>
  if args.length ≠ ps.length then none else
  let base:=h.length
  match execF n base call asg ⟨zips t ps (args.map AVal.dim),h,false⟩ with
  | some (.nor,s)=>
   match s.h[l]? with
   | some (.loop t1 ps1 asg1 body1 .ready pend)=>
    match execF n base call body { s with h:=s.h.set l (.loop t1 ps1 asg1 body1 .busy pend)} with
    | some (x,s)=>
     match s.h[l]? with
     | some (.loop t2 ps2 asg2 body2 _ _)=>
      match x with
      | .nor=>some (leave base (.ret (.bool true)) (s.h.set l (.loop t2 ps2 asg2 body2 .ready none)) s.e)
      | .ret=>some (leave base (.ret (.bool false)) (s.h.set l (.loop t2 ps2 asg2 body2 .done (some .ret))) s.e)
      | .exit id=>some (leave base (.ret (.bool false)) (s.h.set l (.loop t2 ps2 asg2 body2 .done (some (.exit id)))) s.e)
      | .pan _=>none
     | _=>none
    | none=>none
   | _=>none
  | _=>none
 | _=>none
noncomputable def runF (F:FuncId→Option AFunc) (X:Exts):Nat→Call
 | 0=>fun _ _ _=>none
 | n + 1=>fun fv args h=>
  match fv with
  | .fn f first cap=>
   match X f with
   | some g=>g (runF F X n) (first ++ args ++ cap) h
   | none=>
    match F f with
    | none=>none
    | some fn=>
     let aS:=(first ++ args ++ cap).map AVal.dim
     match execF n h.length (runF F X n) fn.code ⟨aS ++ List.replicate (fn.ntmps - aS.length) (.tup []),h,false⟩ with
     | some (.nor,s) | some (.ret,s)=>
      match readResF s fn.results with
      | some vs=>some (leave h.length (.ret (oneRes vs)) s.h s.e)
      | none=>none
     | some (.pan v,s)=>some (leave h.length (.pan v) s.h s.e)
     | _=>none
  | .yld l=>roundF n (runF F X n) l args h
  | _=>none
theorem boundF_eq:boundF = bound:=by
 funext t x d
 cases x <;> simp only [boundF,bound,evF_eq] <;> rfl
theorem pureVF_eq:pureVF = pureV:=by
 funext t o
 cases o <;> simp only [pureVF,pureV,evF_eq,boundF_eq] <;> first | rfl | (cases ‹Bool› <;> rfl)
theorem raw_tQ (t:List AVal) (i:Nat):raw t (.t i) = t.getD i .undef:=rfl
theorem takenF_eq:takenF = taken:=by
 funext k p x s
 cases x <;> simp only [takenF,taken,rawF_eq,raw_tQ,evF_eq] <;> rfl
theorem runOpF_eq:runOpF = runOp:=by
 funext base call p dst o s
 cases o <;> simp only [runOpF,runOp,rawF_eq,evF_eq,putF_eq,drainedF_eq,takenF_eq,pureVF_eq] <;> rfl
theorem wantedF_eq:wantedF = wanted:=by
 funext t g
 cases g <;> simp only [wantedF,wanted,rawF_eq,raw_tQ] <;> rfl
theorem runOpsF_eq (base:Nat) (call:Call):∀(os:List AOper) (p:Prov) (s:St),runOpsF base call p os s = runOps base call p os s
 | [],_,_=>rfl
 | o :: os,p,s=>by
  simp only [runOpsF,runOps,wantedF_eq,runOpF_eq,putF_eq,runOpsF_eq base call os]
  rfl
theorem chkOfF_eq:chkOfF = chkOf:=by
 funext s o
 cases o <;> simp only [chkOfF,chkOf,evF_eq] <;> rfl
theorem runDrawF_eq (base:Nat) (call:Call) (dsts:List Nat):∀(ds:List DOper) (pend:List (Nat×Chk)) (s:St),runDrawF base call dsts ds pend s = runDraw base call dsts ds pend s
 | [],_,_=>rfl
 | d :: ds,pend,s=>by
  simp only [runDrawF,runDraw,wantedF_eq,runOpF_eq,putF_eq,chkOfF_eq,runDrawF_eq base call dsts ds]
  rfl
theorem execF_eq (n base:Nat) (call:Call):∀(c:ACode),execF n base call c = exec n base call c
 | .skip=>by funext s;simp only [execF,exec] <;> rfl
 | .reg ops=>by funext s;simp only [execF,exec,runOpsF_eq] <;> rfl
 | .draw ops=>by funext s;simp only [execF,exec,runDrawF_eq] <;> rfl
 | .draw2 c a b r=>by funext s;simp only [execF,exec,runDrawF_eq] <;> rfl
 | .seq a b=>by funext s;simp only [execF,exec,execF_eq n base call a,execF_eq n base call b] <;> rfl
 | .cond c a b=>by funext s;simp only [execF,exec,evF_eq,execF_eq n base call a,execF_eq n base call b] <;> rfl
 | .block id b=>by funext s;simp only [execF,exec,execF_eq n base call b] <;> rfl
 | .loop b=>by funext s;simp only [execF,exec,execF_eq n base call b] <;> rfl
 | .rfun f ps asg body=>by funext s;simp only [execF,exec,evF_eq] <;> rfl
 | .exit id=>by funext s;simp only [execF,exec] <;> rfl
 | .ret=>by funext s;simp only [execF,exec] <;> rfl
theorem readResF_eq (s:St):∀rs:List ARes,readResF s rs = readRes s rs
 | []=>rfl
 | .tmp i :: rs=>by simp only [readResF,readRes,readResF_eq s rs,rawF_eq,raw_tQ,dimF_eq] <;> rfl
 | .cell a k :: rs=>by simp only [readResF,readRes,readResF_eq s rs,rawF_eq,raw_tQ] <;> rfl
theorem roundF_eq (n:Nat) (call:Call):roundF n call = round n call:=by
 funext l args h
 simp only [roundF,round,execF_eq] <;> rfl
theorem runF_eq (F:FuncId→Option AFunc) (X:Exts):∀n:Nat,runF F X n = run F X n
 | 0=>rfl
 | n + 1=>by
  funext fv args h
  simp only [runF,run,runF_eq F X n,execF_eq,readResF_eq,roundF_eq] <;> rfl
end Go.AE
namespace Go.AE
def memo (k:Nat) (as0:List AVal) (h0:List ABox) (r0:CRes) (h1:List ABox) (e1:Bool) (_:Call) (aS:List AVal) (h:List ABox):Option (CRes×List ABox×Bool):=
 if Nat.ble k h.length && (beqL aS as0 && beqH (h.drop k) h0) then some (r0,h.take k ++ h1,e1) else none
theorem memo_eq {k:Nat} {as0 aS:List AVal} {h0 h h1:List ABox} {r0:CRes} {e1:Bool} {r:CRes×List ABox×Bool} {call:Call} (hm:memo k as0 h0 r0 h1 e1 call aS h = some r):aS = as0∧(∃H,H.length = k∧h = H ++ h0∧r = (r0,H ++ h1,e1)):=by
 unfold memo at hm
 split at hm
 ·rename_i hh
  simp only [Bool.and_eq_true,Nat.ble_eq] at hh
  cases hm
  refine ⟨beqL_eq _ _ hh.2.1,h.take k,by simp;omega,?_,rfl⟩
  rw [←beqH_eq hh.2.2,List.take_append_drop]
 ·cases hm
def withX (X:Exts) (f:FuncId) (g:Call→List AVal→List ABox→Option (CRes×List ABox×Bool)):Exts:=fun i=>if i == f then some g else X i
theorem withX_at {X:Exts} {f i:FuncId} {g g':Call→List AVal→List ABox→Option (CRes×List ABox×Bool)} (h:withX X f g i = some g'):(i = f∧g' = g)∨X i = some g':=by
 unfold withX at h
 cases e:i == f with
 | true=>rw [e] at h;exact .inl ⟨by simpa using e,(Option.some.inj h).symm⟩
 | false=>rw [e] at h;exact .inr h
abbrev withMemo (X:Exts) (f:FuncId) (k:Nat) (as0:List AVal) (h0:List ABox) (r0:CRes) (h1:List ABox) (e1:Bool):Exts:=withX X f (memo k as0 h0 r0 h1 e1)
section
variable {P:Program} {gl:Nat→Option (List AVal)} {F:FuncId→Option AFunc} {X:Exts} {f:FuncId} {fn:AFunc} {n k:Nat} {as0:List AVal} {h0 h1:List ABox} {r0:CRes} {e1:Bool}
theorem ext_of {g:Call→List AVal→List ABox→Option (CRes×List ABox×Bool)} (hP:ProgOK P gl F) (hF:F f = some fn) (hcall:CallOK P gl (run F X n)) (hg:∀call aS h r,g call aS h = some r→run F X n (.fn f [] []) aS h = some r):ExtOK P gl f g:=by
 intro call _ _ aS h r h' e' hr0 G w vs hr hn ha
 have hrun:=hg _ _ _ _ hr0
 obtain ⟨pf,c,p1,p2,p3,_⟩:=hP f fn hF
 have hent:=callFunc_enter (P:=P) p1 p2 p3 vs w
 have hfv:G.V (.fn f [] []) (.func (.func f) #[] #[]):=by simp [Ghost.V,VRel,VRelL]
 have hcs:(callS (.func (.func f) #[] #[]) vs).run P w = (callFunc f vs).run P w:=by rw [callS_fn];simp
 rcases hcall _ _ _ _ _ _ hrun G w _ vs hr hn hfv ha with ⟨f',as',k1,k2⟩ | ⟨_,_,_,_,_,_,hy,_⟩ | ⟨v,w',_,k1,_⟩
 ·rw [hcs,hent] at k1
  cases k1
  exact .inl ⟨hent,k2⟩
 ·cases hy
 ·rw [hcs,hent] at k1
  cases k1
structure Ext1 (P:Program) (gl:Nat→Option (List AVal)) (F:FuncId→Option AFunc) (X:Exts):Prop where
 ok:∀f g,X f = some g→ExtOK P gl f g
 keeps:∀f g,X f = some g→∀call,CallKeeps call→CallKeeps fun _ xs h=>g call xs h
theorem Ext1.call (hmx:P.follows .mixedOrders = true) (hP:ProgOK P gl F) (hX:Ext1 P gl F X) (n:Nat):CallOK P gl (run F X n):=run_sound hmx hP hX.ok hX.keeps n
theorem Ext1.put {Y:Exts} {g:Call→List AVal→List ABox→Option (CRes×List ABox×Bool)} (hmx:P.follows .mixedOrders = true) (hP:ProgOK P gl F) (hX:Ext1 P gl F X) (hY:Ext1 P gl F Y) (hF:F f = some fn) (hg:∀call aS h r,g call aS h = some r→runF F X n (.fn f [] []) aS h = some r):Ext1 P gl F (withX Y f g):=by
 rw [runF_eq] at hg
 constructor
 ·intro i g' hi
  rcases withX_at hi with ⟨rfl,rfl⟩ | hi
  ·exact ext_of hP hF (hX.call hmx hP n) hg
  ·exact hY.ok i g' hi
 ·intro i g' hi call hk
  rcases withX_at hi with ⟨rfl,rfl⟩ | hi
  ·intro fv aS h r h' e' hr
   exact run_keeps hX.keeps n _ _ _ _ _ _ (hg _ _ _ _ hr)
  ·exact hY.keeps i g' hi call hk
theorem Ext1.memo (hmx:P.follows .mixedOrders = true) (hP:ProgOK P gl F) {Y:Exts} (hX:Ext1 P gl F X) (hY:Ext1 P gl F Y) (hF:F f = some fn) (hrun:∀H:List ABox,H.length = k→runF F X n (.fn f [] []) as0 (H ++ h0) = some (r0,H ++ h1,e1)) :
  Ext1 P gl F (withMemo Y f k as0 h0 r0 h1 e1):=
 hX.put (n:=n) hmx hP hY hF fun call aS h r hr=>by
  obtain ⟨e1,H,hH,e2,e3⟩:=memo_eq hr
  rw [e1,e2,e3]
  exact hrun H hH
def splitX (g:List AVal→List ABox→Option (CRes×List ABox×Bool)) (_:Call) (aS:List AVal) (h:List ABox):Option (CRes×List ABox×Bool):=
 match aS with
 | [.lst [] .full]=>some (.ret (.lst [] .full),h,false)
 | aS=>g aS h
theorem Ext1.split {Y:Exts} (hmx:P.follows .mixedOrders = true) (hP:ProgOK P gl F) (hX:Ext1 P gl F X) (hY:Ext1 P gl F Y) (hF:F f = some fn)
  (h1:∀H,run F X n (.fn f [] []) [.nils] H = some (.ret (.lst [] .full),H,false)) (h2:∀H,run F X n (.fn f [] []) [.empt] H = some (.ret (.lst [] .full),H,false)):Ext1 P gl F (withX Y f (splitX (run F X n (.fn f [] [])))):=by
 have base:=ext_of (g:=fun _ aS h=>run F X n (.fn f [] []) aS h) hP hF (hX.call hmx hP n) (fun _ _ _ _ h=>h)
 constructor
 ·intro i g' hi
  rcases withX_at hi with ⟨rfl,rfl⟩ | hi
  ·intro call hc hk aS h r h' e' hr0 G w vs hr hn ha
   unfold splitX at hr0
   split at hr0
   ·cases hr0
    have ha':=ha
    simp only [Ghost.VL,VRelL,VRel] at ha'
    obtain ⟨v,rest,e,⟨a,len,cap,rfl,g1,g2,g3,g4,_⟩,rfl⟩:=ha'
    simp only [List.length_nil] at g1
    subst g1
    have g3:=g3 trivial
    subst g3
    cases a with
    | none=>exact (base call hc hk _ _ _ _ _ (h1 h) G w vs hr hn (by rw [e];simp [Ghost.VL,VRelL,VRel])).imp (fun x=>x) fun x=>⟨by simp,x.2⟩
    | some b=>exact (base call hc hk _ _ _ _ _ (h2 h) G w vs hr hn (by rw [e];simp [Ghost.VL,VRelL,VRel])).imp (fun x=>x) fun x=>⟨by simp,x.2⟩
   ·exact base call hc hk _ _ _ _ _ hr0 G w vs hr hn ha
  ·exact hY.ok i g' hi
 ·intro i g' hi call hk
  rcases withX_at hi with ⟨rfl,rfl⟩ | hi
  ·intro fv aS h r h' e' hr0
   have hr:splitX (run F X n (.fn i [] [])) call aS h = some (r,h',e'):=hr0
   unfold splitX at hr
   split at hr
   ·cases hr;exact ⟨Nat.le_refl _,fun _=>Keeps.refl _ _⟩
   ·exact run_keeps hX.keeps n _ _ _ _ _ _ hr
  ·exact hY.keeps i g' hi call hk
def memoR (k:Nat) (as0:List AVal) (h0:List ABox) (r0:CRes) (h1:List ABox) (e1:Bool) (g:List AVal→List ABox→Option (CRes×List ABox×Bool)) (c:Call) (aS:List AVal) (h:List ABox):Option (CRes×List ABox×Bool):=
 match memo k as0 h0 r0 h1 e1 c aS h with
 | some r=>some r
 | none=>g aS h
theorem Ext1.memoR {Y:Exts} (hmx:P.follows .mixedOrders = true) (hP:ProgOK P gl F) (hX:Ext1 P gl F X) (hY:Ext1 P gl F Y) (hF:F f = some fn) (hrun:∀H:List ABox,H.length = k→runF F X n (.fn f [] []) as0 (H ++ h0) = some (r0,H ++ h1,e1)) :
  Ext1 P gl F (withX Y f (AE.memoR k as0 h0 r0 h1 e1 (runF F X n (.fn f [] [])))):=
 hX.put (n:=n) hmx hP hY hF fun call aS h r hr=>by
  unfold AE.memoR at hr
  split at hr
  ·rename_i r' hm
   cases hr
   obtain ⟨q1,H,hH,q2,q3⟩:=memo_eq hm
   rw [q1,q2,q3]
   exact hrun H hH
  ·exact hr
def pick2 (g1 g2:Call→List AVal→List ABox→Option (CRes×List ABox×Bool)) (c:Call) (aS:List AVal) (h:List ABox):Option (CRes×List ABox×Bool):=if h.isEmpty then g1 c aS h else g2 c aS h
def memoT (d:Nat) (s0:List UInt8) (tab:List (Nat×Nat×CRes)) (_:Call) (aS:List AVal) (h:List ABox):Option (CRes×List ABox×Bool):=
 match aS with
 | [.str s,.int .i64 (.ofNat n)]=>match tab.find? fun e=>Nat.beq e.1 n with
  | some e=>if Nat.beq h.length (e.2.1 + d) && s == s0 then some (e.2.2,h,false) else none
  | none=>none
 | _=>none
theorem memoT_eq {d:Nat} {s0:List UInt8} {tab:List (Nat×Nat×CRes)} {call:Call} {aS:List AVal} {h:List ABox} {r:CRes×List ABox×Bool} (hm:memoT d s0 tab call aS h = some r) :
  ∃e ∈ tab,aS = [.str s0,.int .i64 (.ofNat e.1)]∧h.length = e.2.1 + d∧r = (e.2.2,h,false):=by
 unfold memoT at hm
 split at hm
 ·split at hm
  ·rename_i e he
   split at hm
   ·rename_i hh
    simp only [Bool.and_eq_true,Nat.beq_eq,beq_iff_eq] at hh
    have h1:=List.find?_some he
    simp only [Nat.beq_eq] at h1
    refine ⟨e,List.mem_of_find?_eq_some he,?_,hh.1,(Option.some.inj hm).symm⟩
    rw [h1,hh.2]
   ·cases hm
  ·cases hm
 ·cases hm
theorem Ext1.memoT (hmx:P.follows .mixedOrders = true) (hP:ProgOK P gl F) {Y:Exts} {d:Nat} {s0:List UInt8} {tab:List (Nat×Nat×CRes)} (hX:Ext1 P gl F X) (hY:Ext1 P gl F Y) (hF:F f = some fn)
  (hrun:∀e ∈ tab,∀H:List ABox,H.length = e.2.1 + d→runF F X n (.fn f [] []) [.str s0,.int .i64 (.ofNat e.1)] H = some (e.2.2,H,false)):Ext1 P gl F (withX Y f (AE.memoT d s0 tab)):=
 hX.put (n:=n) hmx hP hY hF fun call aS h r hr=>by
  obtain ⟨e,he,e1,hk,e2⟩:=memoT_eq hr
  rw [e1,e2]
  exact hrun e he h hk
def bx (f:Nat→ABox) (k:Nat):List ABox:=(List.range k).map f
theorem len0 {p:List ABox→Prop} (h:p []):∀H:List ABox,H.length = 0→p H:=fun H hH=>by
 rw [List.eq_nil_of_length_eq_zero hH];exact h
end
end Go.AE
namespace Go.AE
section
variable {P:Program} {gl:Nat→Option (List AVal)}
noncomputable def cellsOf (W:World):Nat→Nat→Option Value:=fun b o=>clean (W.cell? ⟨b,o,none⟩)
def dataT (P:Program) (S:List TypeId):Bool:=S.all fun t=>decide (t < P.types.size) && P.readableRec t && match P.underlying t with
 | some .bool | some (.int _) | some .string=>true
 | some (.slice e)=>S.contains e && decide (0 < P.cellsOf e)
 | some (.struct fs)=>fs.toList.all fun f=>S.contains f.type
 | _=>false
def isStruct (P:Program) (t:TypeId):Bool:=
 match P.underlying t with
 | some (.struct _)=>true
 | _=>false
def el (P:Program) (t:TypeId) (cs:List AVal):AVal:=bif isStruct P t then .agg cs else cs.headD .undef
def FitsAll (R:TypeId→List AVal→Prop):List TypeId→List (List AVal)→Prop
 | [],[]=>True
 | t :: ts,a :: aS=>R t a∧FitsAll R ts aS
 | _,_=>False
def Fits (P:Program):Nat→TypeId→List AVal→Prop
 | 0,_,_=>False
 | n + 1,t,aS=>
  match P.underlying t with
  | some .bool=>∃b,aS = [.bool b]
  | some (.int k)=>∃z,aS = [.int k z]∧(Lit.int k z).wf = true
  | some .string=>∃s:List UInt8,aS = [.str s]∧s.length ≤ maxLen
  | some (.slice e)=>∃xs:List (List AVal),aS = [.lst (xs.map (el P e)) .no]∧xs.length ≤ maxLen∧∀x ∈ xs,Fits P n e x
  | some (.struct fs)=>∃ass:List (List AVal),aS = ass.flatten∧FitsAll (Fits P n) (fs.toList.map (·.type)) ass
  | _=>False
theorem IElems_of {γ:Nat→Option Nat} {imm:Nat→Nat→Option Value} {k:Nat} {b:Nat}:∀(xs:List AVal) (p:Nat),(∀(i:Nat) (x:AVal),xs[i]? = some x→x.cells.length = k∧ICells γ imm x.cells b (p + i * k))→IElems γ imm xs b p
 | [],_,_=>trivial
 | x :: xs,p,h=>by
  obtain ⟨h1,h2⟩:=h 0 x rfl
  have ih:=IElems_of xs (p + k) fun i y hy=>by
   obtain ⟨k1,k2⟩:=h (i + 1) y (by simpa using hy)
   refine ⟨k1,?_⟩
   rw [Nat.add_mul,Nat.one_mul] at k2
   rw [Nat.add_assoc,Nat.add_comm k]
   exact k2
  simp only [Nat.zero_mul,Nat.add_zero] at h2
  cases x with
  | agg cs=>simp only [AVal.cells] at h1 h2;simp only [IElems,h1];exact ⟨h2,ih⟩
  | _=>
   simp only [AVal.cells,List.length_cons,List.length_nil,Nat.zero_add] at h1
   subst h1
   simp only [AVal.cells,ICells] at h2
   exact ⟨h2.1,ih⟩
theorem ICells_of {γ:Nat→Option Nat} {W:World} {b:Nat}:∀(aS:List AVal) (vs:List Value) (p:Nat),VRelL γ (cellsOf W) aS vs→(∀i,i < vs.length→W.cell? ⟨b,p + i,none⟩ = vs[i]?)→ICells γ (cellsOf W) aS b p
 | [],_,_,_,_=>trivial
 | a :: aS,vs,p,h,hc=>by
  simp only [VRelL] at h
  obtain ⟨v,rest,rfl,h1,h2⟩:=h
  refine ⟨⟨v,clean_iff.2 ⟨by simpa using hc 0 (by simp),not_mark h1⟩,h1⟩,ICells_of aS rest (p + 1) h2 fun i hi=>?_⟩
  have:=hc (i + 1) (by simpa using hi)
  rw [Nat.add_assoc,Nat.add_comm 1]
  simpa using this
theorem struct_open {γ:Nat→Option Nat} {imm:Nat→Nat→Option Value} {R:TypeId→List AVal→Prop} {size:TypeId→Nat}:∀(fs:List Field) (o:Nat) (cs:List Value),cs.length = o + (fs.map fun f=>size f.type).sum→
  (∀(j:Nat) f,fs[j]? = some f→f.offset = o + ((fs.take j).map fun f=>size f.type).sum)→(∀f ∈ fs,∃aS,VRelL γ imm aS ((cs.drop f.offset).take (size f.type))∧R f.type aS)→
  ∃ass:List (List AVal),VRelL γ imm ass.flatten (cs.drop o)∧FitsAll R (fs.map (·.type)) ass
 | [],o,cs,hl,_,_=>⟨[],by simp only [List.map_nil,List.sum_nil,Nat.add_zero] at hl;simp [VRelL,←hl],trivial⟩
 | f :: fs,o,cs,hl,ho,hr=>by
  have h0:f.offset = o:=by simpa using ho 0 f rfl
  obtain ⟨aS,h1,h2⟩:=hr f (List.mem_cons_self ..)
  rw [h0] at h1
  simp only [List.map_cons,List.sum_cons] at hl
  obtain ⟨ass,h3,h4⟩:=struct_open fs (o + size f.type) cs (by omega) (fun j g hg=>by
   have:=ho (j + 1) g (by simpa using hg)
   simp only [List.take_succ_cons,List.map_cons,List.sum_cons] at this
   omega) (fun g hg=>hr g (List.mem_cons_of_mem _ hg))
  refine ⟨aS :: ass,?_,h2,h4⟩
  have e:cs.drop o = (cs.drop o).take (size f.type) ++ cs.drop (o + size f.type):=by
   rw [←List.drop_drop,List.take_append_drop]
  rw [e,List.flatten_cons]
  exact VRelL.append h1 h3
theorem Fits.cells_el {n:Nat} {t:TypeId} {x:List AVal} (h:Fits P n t x):(el P t x).cells = x:=by
 cases n with
 | zero=>exact h.elim
 | succ n=>
  simp only [Fits] at h
  simp only [el,isStruct]
  split at h
  ·rename_i hu;obtain ⟨b,rfl⟩:=h;rw [hu];rfl
  ·rename_i hu;obtain ⟨b,rfl,_⟩:=h;rw [hu];rfl
  ·rename_i hu;obtain ⟨b,rfl,_⟩:=h;rw [hu];rfl
  ·rename_i hu;obtain ⟨b,rfl,_⟩:=h;rw [hu];rfl
  ·rename_i hu;rw [hu];rfl
  ·exact h.elim
theorem collect {α:Type} {Q:Nat→α→Prop}:∀len:Nat,(∀i,i < len→∃a,Q i a)→∃xs:List α,xs.length = len∧∀i x,xs[i]? = some x→Q i x
 | 0,_=>⟨[],rfl,fun i x h=>by simp at h⟩
 | len + 1,h=>by
  obtain ⟨xs,h1,h2⟩:=collect len fun i hi=>h i (by omega)
  obtain ⟨y,h3⟩:=h len (by omega)
  refine ⟨xs ++ [y],by simp [h1],fun i x hi=>?_⟩
  rcases Nat.lt_or_ge i xs.length with hlt | hge
  ·rw [List.getElem?_append_left hlt] at hi;exact h2 i x hi
  ·rw [List.getElem?_append_right hge] at hi
   have:i - xs.length = 0:=by
    rcases Nat.eq_zero_or_pos (i - xs.length) with h | h
    ·exact h
    ·rw [List.getElem?_eq_none (by simp only [List.length_cons,List.length_nil];omega)] at hi;cases hi
   rw [this] at hi
   simp only [List.getElem?_cons_zero,Option.some.injEq] at hi
   subst hi
   have:i = len:=by omega
   subst this
   exact h3
theorem add_eq {a:Addr} (h:a.spot = none) (n:Nat):a.add n = ⟨a.block,a.off + n,none⟩:=by
 unfold Addr.add
 split
 ·rename_i h0
  subst h0
  cases a
  simp_all
 ·rfl
theorem open_fits {H:Type} {enc:TypeId×Value→H} {W:World} {base:Nat} {sp:Nat→Bool} {held:Bool} {S:List TypeId} (hl:laidOutB P = true) (hS:dataT P S = true):∀(n:Nat) (t:TypeId) (cs:List Value) (x:DataW H×List MemPlace),t ∈ S→
  DataW.trod enc P W base sp held n t cs = some x→∃aS,VRelL (fun _=>none) (cellsOf W) aS cs∧Fits P n t aS
 | 0,t,cs,x,_,h=>by simp [DataW.trod] at h
 | n + 1,t,cs,x,ht,h=>by
  have hd:=List.all_eq_true.1 hS t ht
  simp only [Bool.and_eq_true,decide_eq_true_eq] at hd
  obtain ⟨⟨hrow,_⟩,hd⟩:=hd
  have ih:=open_fits (base:=base) (sp:=sp) (held:=held) (enc:=enc) (W:=W) hl hS n
  split at hd
  ·rename_i hu
   obtain ⟨b,rfl,_⟩:=DataW.trod_bool hu h
   exact ⟨[.bool b],by simp [VRelL,VRel],by simp only [Fits,hu];exact ⟨b,rfl⟩⟩
  ·rename_i k hu
   obtain ⟨z,rfl,_,hw⟩:=DataW.trod_int hu h
   exact ⟨[.int k z],by simp [VRelL,VRel],by simp only [Fits,hu];exact ⟨z,rfl,hw⟩⟩
  ·rename_i hu
   obtain ⟨s,rfl,_,hw⟩:=DataW.trod_string hu h
   exact ⟨[.str s.data.toList],by simp only [VRelL,VRel];exact ⟨_,_,rfl,⟨s,rfl,rfl⟩,rfl⟩,by simp only [Fits,hu];exact ⟨_,rfl,by simpa using hw⟩⟩
  ·rename_i e hu
   simp only [Bool.and_eq_true,decide_eq_true_eq,List.contains_iff_mem] at hd
   obtain ⟨he,hpos⟩:=hd
   rcases DataW.trod_slice hu h with ⟨rfl,_⟩ | ⟨a,len,cap,elems,rest,m,hm,rfl,_,hb,hlc,hcm,hel,hget,_⟩
   ·refine ⟨[.lst [] .no],?_,by simp only [Fits,hu];exact ⟨[],rfl,Nat.zero_le _,fun _ h=>by cases h⟩⟩
    simp only [VRelL,VRel]
    exact ⟨_,_,rfl,⟨none,0,0,rfl,rfl,Nat.le_refl _,by simp,by simp,⟨0,fun _ h=>by cases h⟩,.inl trivial⟩,rfl⟩
   ·cases hm
    have one:∀i,i < len→∃aS:List AVal,(∃cs',W.cells? base (a.add (i * P.cellsOf e)) (P.cellsOf e) = some cs'∧VRelL (fun _=>none) (cellsOf W) aS cs')∧Fits P n e aS:=by
     intro i hi
     have hg:=hget i hi
     rw [List.getElem?_eq_getElem (by omega)] at hg
     simp only [Option.bind_eq_some_iff] at hg
     obtain ⟨cs',h1,h2⟩:=hg
     obtain ⟨aS,h3,h4⟩:=ih e cs' _ he h2
     exact ⟨aS,⟨cs',h1,h3⟩,h4⟩
    obtain ⟨xs,hxl,hx⟩:=collect len one
    refine ⟨[.lst (xs.map (el P e)) .no],?_,by simp only [Fits,hu];exact ⟨xs,rfl,by omega,fun x hxm=>by obtain ⟨i,hi⟩:=List.getElem?_of_mem hxm;exact (hx i x hi).2⟩⟩
    simp only [VRelL,VRel]
    refine ⟨_,_,rfl,⟨some a,len,cap,rfl,by simp [hxl],hlc,by simp,by simp,⟨P.cellsOf e,fun y hy=>?_⟩,?_⟩,rfl⟩
    ·obtain ⟨x,hxm,rfl⟩:=List.mem_map.1 hy
     obtain ⟨i,hi⟩:=List.getElem?_of_mem hxm
     obtain ⟨⟨cs',h1,h2⟩,h3⟩:=hx i x hi
     rw [h3.cells_el,h2.length,(World.cells?_some h1).2.1]
    ·rcases Nat.eq_zero_or_pos len with h0 | h0
     ·left
      have:xs = []:=List.eq_nil_of_length_eq_zero (by omega)
      simp [this]
     ·right
      have hspot:a.spot = none:=by
       obtain ⟨⟨cs',h1,h2⟩,_⟩:=hx 0 xs[0] (List.getElem?_eq_getElem (by omega))
       obtain ⟨_,h3,h4⟩:=World.cells?_some h1
       have h5:=h4 0 hpos
       rw [List.getElem?_eq_getElem (by omega)] at h5
       simp only [Nat.zero_mul,Addr.add,if_pos] at h5
       cases hsp:a.spot with
       | none=>rfl
       | some s=>
        simp only [World.cell?] at h5
        split at h5
        ·simp [hsp] at h5
        ·cases h5
      refine ⟨a.block,a.off,by rw [←hspot],IElems_of (k:=P.cellsOf e) _ _ fun i y hy=>?_⟩
      rw [List.getElem?_map,Option.map_eq_some_iff] at hy
      obtain ⟨x,hi,rfl⟩:=hy
      obtain ⟨⟨cs',h1,h2⟩,h3⟩:=hx i x hi
      obtain ⟨_,h4,h5⟩:=World.cells?_some h1
      rw [h3.cells_el]
      refine ⟨by rw [h2.length,h4],ICells_of x cs' _ h2 fun j hj=>?_⟩
      have h6:=h5 j (by omega)
      rw [←h6]
      rw [add_eq hspot,add_eq rfl,Nat.add_assoc]
  ·rename_i fs hu
   simp only [List.all_eq_true,List.contains_iff_mem] at hd
   obtain ⟨xs,m,hm,_,hlen,_,hget⟩:=DataW.trod_struct hu h
   cases hm
   obtain ⟨_,h2,h3⟩:=kid_struct hl hrow hu
   obtain ⟨ass,h4,h5⟩:=struct_open (γ:=fun _=>none) (imm:=cellsOf W) (R:=Fits P n) (size:=P.cellsOf) fs.toList 0 cs (by rw [hlen,h2];simp) (fun j f hj=>by rw [h3 j f hj];simp) (fun f hf=>by
    obtain ⟨i,hi⟩:=List.getElem?_of_mem hf
    have hi':fs[i]? = some f:=by simpa using hi
    have hg:=hget i f hi'
    have hil:i < xs.length:=by
     have:=(Array.getElem?_eq_some_iff.1 hi').1
     omega
    rw [List.getElem?_eq_getElem hil] at hg
    exact ih f.type _ _ (hd f hf) hg)
   exact ⟨ass.flatten,by simpa using h4,by simp only [Fits,hu];exact ⟨ass,rfl,h5⟩⟩
  ·cases hd
theorem open_arg {H:Type} {enc:TypeId×Value→H} {W W0:World} {base b0:Nat} {r:Reach} {sp:Nat→Bool} {held:Bool} {S:List TypeId} (hl:laidOutB P = true) (hS:dataT P S = true) {t:TypeId} (ht:t ∈ S) {v:Value} {d:DataW H} {ps:List MemPlace}
  (hok:Value.okWide P W0 r b0 t v) (h:DataW.Trod enc P W base sp held t v d ps):∃n aS,Fits P n t aS∧VRel (fun _=>none) (cellsOf W) (el P t aS) v:=by
 obtain ⟨n,hn⟩:=h
 obtain ⟨aS,h1,h2⟩:=open_fits hl hS n t _ _ ht hn
 refine ⟨n,aS,h2,?_⟩
 have hd:=List.all_eq_true.1 hS t ht
 simp only [Bool.and_eq_true,decide_eq_true_eq] at hd
 obtain ⟨_,hd⟩:=hd
 have scalar:isStruct P t = false→v.cells = #[v]→VRel (fun _=>none) (cellsOf W) (el P t aS) v:=by
  intro hs hv
  rw [hv] at h1
  simp only [el,hs,cond_false]
  cases aS with
  | nil=>simp [VRelL] at h1
  | cons a aS=>
   simp only [VRelL] at h1
   obtain ⟨u,rest,he,h3,h4⟩:=h1
   cases he
   exact h3
 split at hd
 ·rename_i hu
  simp only [Value.okWide,hu,Cell.okWide,Cell.ok] at hok
  refine scalar (by simp [isStruct,hu]) ?_
  cases v <;> first | rfl | (exact hok.elim)
 ·rename_i k hu
  simp only [Value.okWide,hu,Cell.okWide,Cell.ok] at hok
  refine scalar (by simp [isStruct,hu]) ?_
  cases v <;> first | rfl | (exact hok.elim)
 ·rename_i hu
  simp only [Value.okWide,hu,Cell.okWide,Cell.ok] at hok
  refine scalar (by simp [isStruct,hu]) ?_
  cases v <;> first | rfl | (exact hok.elim)
 ·rename_i e hu
  simp only [Value.okWide,hu,Cell.okWide,Cell.ok] at hok
  refine scalar (by simp [isStruct,hu]) ?_
  cases v <;> first | rfl | (exact hok.elim)
 ·rename_i fs hu
  simp only [Value.okWide,hu] at hok
  obtain ⟨cs,rfl,_⟩:=hok
  simp only [el,isStruct,hu,cond_true,VRel]
  exact ⟨cs,rfl,h1⟩
 ·cases hd
noncomputable def Ghost.whole (W:World):Ghost:={ γ:=fun _=>none,imm:=cellsOf W,ow:=fun _=>none}
theorem whole_rel {W:World} (h:Told gl W):Rel P gl (Ghost.whole W) [] W∧NoTmp (Ghost.whole W):=by
 refine ⟨⟨(fun _ _ h=>by cases h),(fun _ _ _ h=>by cases h),(fun _ _ _ h=>by cases h),fun b o v hv _=>?_,(fun _ _ _ _ _ _ h=>by cases h),(fun b o hv=>absurd rfl (clean_iff.1 hv).2),(fun _ _ h=>by cases h),fun g cs hg=>?_⟩,(fun _ _ h=>by cases h)⟩
 ·have hv:=(clean_iff.1 hv).1
  refine ⟨hv,?_⟩
  rcases Nat.lt_or_ge b W.heap.size with hb | hb
  ·exact hb
  ·simp [World.cell?,Array.getElem?_eq_none hb] at hv
 ·obtain ⟨h1,vs,h2,h3⟩:=h g cs hg
  refine ⟨ICells.of_get fun i c hc=>?_,h1⟩
  obtain ⟨v,hv,hr⟩:=h2.get hc
  refine ⟨v,?_,?_⟩
  ·simp only [Ghost.whole,cellsOf,Nat.zero_add]
   exact clean_iff.2 ⟨h3 i v hv,not_mark hr⟩
  ·exact VRel.mono (fun _ _ _ h=>by cases h) 0 (fun i _ hi=>absurd hi (Nat.not_lt_zero _)) c v (lowerL_get h1 hc) hr
theorem whole_kept {n:Nat} {W W':World} {G':Ghost} (he:Ext n (Ghost.whole W) W G' W'):W.keptBut W' (fun _=>False):=by
 refine ⟨he.os,he.output,fun i hi=>?_⟩
 rw [he.heap i hi ⟨fun _ h=>by simp [Ghost.whole] at h,rfl⟩]
 split
 ·rename_i h1 h2
  rw [h1] at h2
  cases h2
  exact ⟨rfl,rfl,rfl,fun _ _=>rfl⟩
 ·rename_i h1 h2
  rw [h1] at h2
  cases h2
  exact .inr ⟨rfl,rfl⟩
 ·rfl
theorem kept_same {W W':World} (h:W.keptBut W' (fun _=>False)) {p:MemPlace} (hp:p.block < W.heap.size):W.sameAt W' p:=by
 have h1:=h.2.2 p.block hp
 cases p with
 | cell b off=>
  simp only [MemPlace.block] at h1 hp
  simp only [World.sameAt,World.cell?]
  split at h1
  ·rename_i e1 e2
   rw [e1,e2]
   simp only [Option.isSome_none,Bool.false_eq_true,if_false]
   exact h1.2.2.2 off (fun h=>h)
  ·rename_i e1 e2
   rw [e1,e2]
  ·rw [h1]
 | map b=>
  simp only [MemPlace.block] at h1 hp
  simp only [World.sameAt]
  split at h1
  ·rename_i c t fr c' t' fr' e1 e2
   obtain ⟨rfl,rfl,h3,h4⟩:=h1
   rw [e1,e2]
   have:c' = c:=by
    apply Array.ext_getElem?
    intro j
    exact h4 j (fun h=>h)
   rw [this]
  ·rename_i e1 e2
   rcases h1 with h1 | ⟨rfl,rfl⟩
   ·exact h1.elim
   ·rw [e1,e2]
  ·exact h1
theorem call_whole {call : AE.Call} (hcall : CallOK P gl call) {f : FuncId} {pf : Func} {c : Code} (h1 : P.funcs[f]? = some pf) (h2 : (pf.name == "runtime.NumGoroutine") = false) (h3 : pf.body = some c) {args : List AVal} {rv : AVal} {h' : List ABox} {e' : Bool}
  (hrun:call (.fn f [] []) args [] = some (.ret rv,h',e')) {W:World} (ht:Told gl W) {vs:Array Value} (hargs:VRelL (fun _=>none) (cellsOf W) args vs.toList) :
  Calls P f vs W fun e W'=>∃v G',e = .returned v∧Ghost.V G' rv v∧W.keptBut W' (fun _=>False):=by
 obtain ⟨hr,hn⟩:=whole_rel (P:=P) ht
 have hfv:(Ghost.whole W).V (.fn f [] []) (.func (.func f) #[] #[]):=by simp [Ghost.V,VRel,VRelL]
 have hS:(callS (.func (.func f) #[] #[]) vs).run P W = .ok (.enter f vs) W:=by
  rw [callS_fn,callFunc_enter h1 h2 h3]
  simp
 rcases hcall _ _ _ _ _ _ hrun _ W _ vs hr hn hfv hargs with ⟨f',aS,k1,k2⟩ | ⟨_,_,_,_,_,_,hy,_⟩ | ⟨v,w',_,k1,_⟩
 ·rw [hS] at k1
  cases k1
  refine (callsIn_wide (n:=0)).1 (CallsIn.mono (k2 none 0) fun e W' hb=>?_)
  cases e with
  | returned v=>
   obtain ⟨rv',G',g1,g2,g3,g4,g5⟩:=hb
   cases g1
   exact ⟨v,G',rfl,g5,whole_kept g2⟩
  | panicked ch=>obtain ⟨_,_,_,g1,_⟩:=hb;cases g1
  | outgrown=>exact hb.elim
 ·cases hy
 ·rw [hS] at k1
  cases k1
end
end Go.AE
