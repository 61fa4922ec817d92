/- Proved: gavottelaw13.CheckLowers answers true for any expression, variables and ports, and they read as they did. Conditions: the listed package-level variables read as the program's text lays them (tied). -/
import Derived.Test.YtfmkpcgpkdnioaaGreatDoorMq2
import Derived.Test.YtfmkpcgpkdnioaaGreatDoorMq11
import Derived.Test.YtfmkpcgpkdnioaaGreatDoorMq36
import Derived.Test.YtfmkpcgpkdnioaaGreatDoorMq3
import Derived.Test.YtfmkpcgpkdnioaaGreatDoorMq37
import Derived.Test.YtfmkpcgpkdnioaaGreatDoorCards
import Derived.Test.YtfmkpcgpkdnioaaGreatDoorTie
import Derived.ProofKit
import Derived.OpenShut
import Derived.LaidMore
import Derived.Lay
import Derived.SevenTiedAt
import Derived.Stop.Joined
import Derived.MakeChecks
import Derived.ChangeMaps5
import Derived.Carry
set_option maxRecDepth 100000
namespace Go.Proofs.YtfmkpcgpkdnioaaGreatDoor
open Go.ChangeShapes Go.WideShapes Go.ChangeAt Go.RowKit
open Go.ChangeMaps (open_string shut_string)
theorem mx:Tryz.prog.follows .mixedOrders = true:=by kernel_rfl
theorem progOK:Go.AE.ProgOK Tryz.prog AE.gl AE.T.get:=Go.AE.progOK_of AE.T_ok
theorem extOK:∀f g,AE.X f = some g→Go.AE.ExtOK Tryz.prog AE.gl f g:=by
 intro f g h
 unfold AE.X at h
 split at h
 ·cases h;exact Go.AE.gcall_ok mx Tryz.func24 (by kernel_rfl) AE.kt24 Tryz.func40 (by kernel_rfl) 4000
 ·cases h;exact Go.AE.gcall_ok mx Tryz.func26 (by kernel_rfl) AE.kt26 Tryz.func43 (by kernel_rfl) 4000
 ·cases h
theorem extKeeps:∀f g,AE.X f = some g→∀call,Go.AE.CallKeeps call→Go.AE.CallKeeps fun _ xs h=>g call xs h:=by
 intro f g h
 unfold AE.X at h
 split at h
 ·cases h;exact fun call hk=>Go.AE.gcall_keeps hk
 ·cases h;exact fun call hk=>Go.AE.gcall_keeps hk
 ·cases h
theorem callOK (n:Nat):Go.AE.CallOK Tryz.prog AE.gl (Go.AE.run AE.T.get AE.X n):=(show Go.AE.Ext1 Tryz.prog AE.gl AE.T.get AE.X from ⟨extOK,extKeeps⟩).call mx progOK n
theorem told {W:World} (h:laidMetH Tryz.prog Rows.checkLowersRow.laid W):Go.AE.Told AE.gl W:=by
 rw [MakeChecks.laidMetH_plain _ _ _ (by kernel_rfl)] at h
 intro g cs hg
 unfold AE.gl at hg
 split at hg <;> first | (cases hg;exact Go.AE.told_nil) | skip
 ·cases hg
  exact Go.AE.told_array h (show ("gavotte/ast.words", Rows.laid_gavotte_ast_words) ∈ _ from .tail _ (.tail _ (.tail _ (.tail _ (.tail _ (.tail _ (.head _))))))) (g := 0) (by kernel_rfl) (t := 214) (by kernel_rfl) Tryz.underlying214 (.inr Tryz.underlying9) (by kernel_rfl) (by kernel_rfl)
 ·cases hg
  exact Go.AE.told_array h (show ("gavotte/token.marks", Rows.laid_gavotte_token_marks) ∈ _ from .tail _ (.tail _ (.tail _ (.tail _ (.tail _ (.head _)))))) (g := 1) (by kernel_rfl) (t := 253) (by kernel_rfl) Tryz.underlying253 (.inr Tryz.underlying9) (by kernel_rfl) (by kernel_rfl)
 ·cases hg
  exact Go.AE.told_array h (show ("internal/strconv.uint64pow10", Rows.laid_internal_strconv_uint64pow10) ∈ _ from .tail _ (.tail _ (.head _))) (g := 5) (by kernel_rfl) (t := 322) (by kernel_rfl) Tryz.underlying322 (.inl ⟨_, Tryz.underlying300⟩) (by kernel_rfl) (by kernel_rfl)
 ·cases hg
  exact Go.AE.told_array h (show ("math/bits.deBruijn32tab", Rows.laid_math_bits_deBruijn32tab) ∈ _ from .head _) (g := 6) (by kernel_rfl) (t := 328) (by kernel_rfl) Tryz.underlying328 (.inl ⟨_, Tryz.underlying5⟩) (by kernel_rfl) (by kernel_rfl)
 ·cases hg
  exact Go.AE.told_array h (show ("math/bits.deBruijn64tab", Rows.laid_math_bits_deBruijn64tab) ∈ _ from .tail _ (.head _)) (g := 7) (by kernel_rfl) (t := 329) (by kernel_rfl) Tryz.underlying329 (.inl ⟨_, Tryz.underlying5⟩) (by kernel_rfl) (by kernel_rfl)
 ·cases hg
theorem own:ownKnob Tryz.prog.godebug = none:=by kernel_rfl
theorem stays {H:Type} {enc:TypeId×Value→H} {P:Program} (hl:laidOutB P = true) {W W':World} (hk:W.keptBut W' (fun _=>False)) {t:TypeId} (hr:P.readableRec t = true) (ht:t < P.types.size) {v:Value} {d:DataW H} {ps:List MemPlace} (h:DataW.Trod enc P W 0 (fun _=>true) true t v d ps) :
  DataW.Trod enc P W' 0 (fun b=>decide (b < W.heap.size)) true t v d ps:=by
 have hlt:∀x ∈ ps,x.block < W.heap.size:=by
  obtain ⟨n,hn⟩:=h
  exact DataW.trod_lt n _ _ _ hn
 exact WideElems.Trod_stays hl hr ht h (fun x hx=>Go.AE.kept_same hk (hlt x hx)) (fun x hx=>by simpa using hlt x hx)
theorem fits_int {P:Program} {n:Nat} {t:TypeId} {ws:List Go.AE.AVal} {k:IntKind} (h:Go.AE.Fits P n t ws) (hu:P.underlying t = some (.int k)):∃z,ws = [.int k z]:=by
 cases n with
 | zero=>exact h.elim
 | succ n=>
  simp only [Go.AE.Fits,hu] at h
  exact ⟨_,h.choose_spec.1⟩
theorem fits_struct {P:Program} {n:Nat} {t:TypeId} {ws:List Go.AE.AVal} {fs:Array Field} (h:Go.AE.Fits P n t ws) (hu:P.underlying t = some (.struct fs)):∃m ass,ws = List.flatten ass∧Go.AE.FitsAll (Go.AE.Fits P m) (fs.toList.map (·.type)) ass:=by
 cases n with
 | zero=>exact h.elim
 | succ n=>
  simp only [Go.AE.Fits,hu] at h
  obtain ⟨ass,h1,h2⟩:=h
  exact ⟨n,ass,h1,h2⟩
theorem fits_slice {P:Program} {n:Nat} {t e:TypeId} {ws:List Go.AE.AVal} (h:Go.AE.Fits P n t ws) (hu:P.underlying t = some (.slice e)):∃xs,ws = [.lst xs .no]:=by
 cases n with
 | zero=>exact h.elim
 | succ n=>
  simp only [Go.AE.Fits,hu] at h
  obtain ⟨xs,h1,_⟩:=h
  exact ⟨_,h1⟩
theorem fits_string {P:Program} {n:Nat} {t:TypeId} {ws:List Go.AE.AVal} (h:Go.AE.Fits P n t ws) (hu:P.underlying t = some .string):∃s,ws = [.str s]:=by
 cases n with
 | zero=>exact h.elim
 | succ n=>
  simp only [Go.AE.Fits,hu] at h
  exact ⟨_,h.choose_spec.1⟩
theorem elE (x:List Go.AE.AVal):Go.AE.el Tryz.prog 24 x = .agg x:=by
 unfold Go.AE.el
 rw [show Go.AE.isStruct Tryz.prog 24 = true by kernel_rfl]
 rfl
theorem elV (x:List Go.AE.AVal):Go.AE.el Tryz.prog 81 x = .agg x:=by
 unfold Go.AE.el
 rw [show Go.AE.isStruct Tryz.prog 81 = true by kernel_rfl]
 rfl
theorem elP (x:List Go.AE.AVal):Go.AE.el Tryz.prog 113 x = .agg x:=by
 unfold Go.AE.el
 rw [show Go.AE.isStruct Tryz.prog 113 = true by kernel_rfl]
 rfl
theorem expr_fits (n:Nat):∀ws:List Go.AE.AVal,Go.AE.Fits Tryz.prog n 24 ws→∃e:AE.Exl,ws = e.enc:=by
 induction n using Nat.strongRecOn with
 | ind n ih=>
  intro ws h
  match n,h,ih with
  | m + 1,h,ih=>
   simp only [Go.AE.Fits,Tryz.underlying24] at h
   obtain ⟨ass,rfl,h1⟩:=h
   match ass,h1 with
   | [p,q,r,r2,l],⟨h2,h3,h4,h4',h5,_⟩=>
    obtain ⟨z1,rfl⟩:=fits_int h2 Tryz.underlying3
    obtain ⟨z2,rfl⟩:=fits_int h3 Tryz.underlying3
    obtain ⟨s,rfl⟩:=fits_string h4 Tryz.underlying9
    obtain ⟨s2,rfl⟩:=fits_string h4' Tryz.underlying9
    match m,h5,ih with
    | k + 1,h5,ih=>
     simp only [Go.AE.Fits,Tryz.underlying22] at h5
     obtain ⟨xs,rfl,_,h6⟩:=h5
     have key:∀xs:List (List Go.AE.AVal),(∀x ∈ xs,Go.AE.Fits Tryz.prog k 24 x)→∃l:List AE.Exl,xs.map (Go.AE.el Tryz.prog 24) = l.map AE.exV:=by
      intro xs
      induction xs with
      | nil=>exact fun _=>⟨[],rfl⟩
      | cons x xs ihx=>
       intro hx
       obtain ⟨l,h3⟩:=ihx fun y hy=>hx y (List.mem_cons_of_mem _ hy)
       obtain ⟨v,hv⟩:=ih k (by omega) x (hx x List.mem_cons_self)
       exact ⟨v :: l,by rw [List.map_cons,List.map_cons,h3,elE,hv];rfl⟩
     obtain ⟨l,hl⟩:=key xs h6
     exact ⟨.mk z1 z2 s s2 l,by rw [AE.enc_mk,←hl];rfl⟩
theorem type_fits {n:Nat} {ws:List Go.AE.AVal} (h:Go.AE.Fits Tryz.prog n 54 ws):∃(k:Int) (L:List Go.AE.AVal),ws = [.int .i64 k,.lst L .no]:=by
 obtain ⟨m,ass,rfl,h1⟩:=fits_struct h Tryz.underlying54
 match ass,h1 with
 | [p,v],⟨h2,h3,_⟩=>
  obtain ⟨z,rfl⟩:=fits_int h2 Tryz.underlying3
  obtain ⟨xs,rfl⟩:=fits_slice h3 Tryz.underlying52
  exact ⟨z,xs,rfl⟩
theorem var_fits {n:Nat} {ws:List Go.AE.AVal} (h:Go.AE.Fits Tryz.prog n 81 ws):∃v:AE.Vr,Go.AE.AVal.agg ws = AE.vrV v:=by
 obtain ⟨m,ass,rfl,h1⟩:=fits_struct h Tryz.underlying81
 match ass,h1 with
 | [p,q,t],⟨h2,h3,h4,_⟩=>
  obtain ⟨s,rfl⟩:=fits_string h2 Tryz.underlying9
  obtain ⟨s2,rfl⟩:=fits_string h3 Tryz.underlying9
  obtain ⟨k,L,rfl⟩:=type_fits h4
  exact ⟨⟨s,s2,k,L⟩,rfl⟩
theorem port_fits {n:Nat} {ws:List Go.AE.AVal} (h:Go.AE.Fits Tryz.prog n 113 ws):∃v:AE.Pt,Go.AE.AVal.agg ws = AE.ptV v:=by
 obtain ⟨m,ass,rfl,h1⟩:=fits_struct h Tryz.underlying113
 match ass,h1 with
 | [p,t],⟨h2,h4,_⟩=>
  obtain ⟨s,rfl⟩:=fits_string h2 Tryz.underlying9
  obtain ⟨k,L,rfl⟩:=type_fits h4
  exact ⟨⟨s,k,L⟩,rfl⟩
theorem vars_fits {n:Nat} {ws:List Go.AE.AVal} (h:Go.AE.Fits Tryz.prog n 25 ws):∃vs:List AE.Vr,ws = [.lst (vs.map AE.vrV) .no]:=by
 cases n with
 | zero=>exact h.elim
 | succ n=>
  simp only [Go.AE.Fits,Tryz.underlying25] at h
  obtain ⟨xs,rfl,_,h1⟩:=h
  have key:∀xs:List (List Go.AE.AVal),(∀x ∈ xs,Go.AE.Fits Tryz.prog n 81 x)→∃l:List AE.Vr,xs.map (Go.AE.el Tryz.prog 81) = l.map AE.vrV:=by
   intro xs
   induction xs with
   | nil=>exact fun _=>⟨[],rfl⟩
   | cons x xs ihx=>
    intro hx
    obtain ⟨l,h3⟩:=ihx fun y hy=>hx y (List.mem_cons_of_mem _ hy)
    obtain ⟨v,hv⟩:=var_fits (hx x List.mem_cons_self)
    exact ⟨v :: l,by rw [List.map_cons,List.map_cons,h3,elV,hv]⟩
  obtain ⟨l,hl⟩:=key xs h1
  exact ⟨l,by rw [hl]⟩
theorem ports_fits {n:Nat} {ws:List Go.AE.AVal} (h:Go.AE.Fits Tryz.prog n 26 ws):∃vs:List AE.Pt,ws = [.lst (vs.map AE.ptV) .no]:=by
 cases n with
 | zero=>exact h.elim
 | succ n=>
  simp only [Go.AE.Fits,Tryz.underlying26] at h
  obtain ⟨xs,rfl,_,h1⟩:=h
  have key:∀xs:List (List Go.AE.AVal),(∀x ∈ xs,Go.AE.Fits Tryz.prog n 113 x)→∃l:List AE.Pt,xs.map (Go.AE.el Tryz.prog 113) = l.map AE.ptV:=by
   intro xs
   induction xs with
   | nil=>exact fun _=>⟨[],rfl⟩
   | cons x xs ihx=>
    intro hx
    obtain ⟨l,h3⟩:=ihx fun y hy=>hx y (List.mem_cons_of_mem _ hy)
    obtain ⟨v,hv⟩:=port_fits (hx x List.mem_cons_self)
    exact ⟨v :: l,by rw [List.map_cons,List.map_cons,h3,elP,hv]⟩
  obtain ⟨l,hl⟩:=key xs h1
  exact ⟨l,by rw [hl]⟩
theorem goes_off {P:Program} {c:OpenClaim} (hs:c.start = .entering) (h:P.funcs.any Func.goes = false):false = c.goesBy P:=by
 have key:∀g:Nat,(P.funcs[g]?).any Func.goes = false:=by
  intro g
  cases hg:P.funcs[g]? with
  | none=>rfl
  | some fn=>
   have hm:=Array.mem_of_getElem? hg
   rw [Array.any_eq_false] at h
   obtain ⟨i,hi,rfl⟩:=Array.getElem_of_mem hm
   simpa using h i hi
 have k2:∀f,P.goes f = false:=by
  intro f
  unfold Program.goes
  rw [h,Bool.and_false,Bool.or_false]
  exact List.any_eq_false.2 fun g _=>by rw [key g];simp
 unfold OpenClaim.goesBy Program.goesAt Program.goesFrom
 rw [hs]
 cases P.funcNamed c.func with
 | none=>rfl
 | some f=>simp [k2 f]
theorem laidOut:laidOutB Tryz.prog = true:=by kernel_rfl
theorem plainS:Go.AE.dataT Tryz.prog [24,22,9,3,25,81,54,52,26,113] = true:=by kernel_rfl
theorem lifted (os:Os) (started:os.Started) (H:Type) (enc:TypeId×Value→H) :
  ReturnsInHanded {} Tryz.checked os 3 .any (fun w args=>(Rows.checkLowersSpec.pre enc Tryz.prog Tryz.f3 Rows.checkLowersRow.domain false w args∧laidMetH Tryz.prog Rows.checkLowersRow.laid w)∧sizedMet enc Tryz.prog Tryz.f3 (OpenSpec.ofChange Rows.checkLowersSpec) false w args)
   (Rows.checkLowersSpec.post enc Tryz.prog Tryz.f3 false true false false):=by
 refine returnsInHanded_of_change_and (C:=Tryz.checked) (X:=fun w _=>laidMetH Tryz.prog Rows.checkLowersRow.laid w) (fun _ _ _ hh h=>h.of_heap hh) own started (by kernel_rfl) Tryz.func3
  (ChangeSpec.witness_shaped (enc:=enc) (C:=Tryz.checked) (os:=os) (X:=fun w _=>laidMetH Tryz.prog Rows.checkLowersRow.laid w) false (World.laidAll Tryz.prog os Rows.checkLowersRow.laid) #[.agg #[.int .i64 0,.int .i64 0,.string ByteArray.empty,.string ByteArray.empty,.slice none 0 0],.slice none 0 0,.slice none 0 0] 8 (World.laidAll_os _ _ _)
   (World.shaped_of_ZipB (by kernel_rfl) (by kernel_rfl)) (by kernel_rfl) (by kernel_rfl) (by kernel_rfl)
   (by rw [MakeChecks.laidMetH_plain _ _ _ (by kernel_rfl)];exact laidMet_laidAll _ (by kernel_rfl) (by kernel_rfl))) ?_
 intro W base args ds gs before hval0 hW hc _ hL _
 have hval:∀(j:Nat) t v,Tryz.f3.params[j]? = some t→args[j]? = some v→Value.okWide Tryz.prog W .any base t v:=hval0
 have hW':=hW
 obtain ⟨p,q,hA0,hV,rfl,_,_⟩:=hW
 have hA:DataW.TrodAll enc Tryz.prog W 0 (fun _=>true) true Tryz.f3.params.toList args.toList ds p:=hA0
 rw [Tryz.params3] at hA hval
 obtain ⟨v0,v1,v2,d0,d1,d2,q0,q1,q2,rfl,rfl,rfl,h0,h1,h2⟩:=trodAll_three hA
 obtain ⟨rfl,rfl⟩:=trodVars_none hV
 obtain ⟨n0,a0,f0,r0⟩:=Go.AE.open_arg laidOut plainS (t:=24) (by decide) (hval 0 24 v0 rfl rfl) h0
 obtain ⟨n1,a1,f1,r1⟩:=Go.AE.open_arg laidOut plainS (t:=25) (by decide) (hval 1 25 v1 rfl rfl) h1
 obtain ⟨n2,a2,f2,r2⟩:=Go.AE.open_arg laidOut plainS (t:=26) (by decide) (hval 2 26 v2 rfl rfl) h2
 obtain ⟨e,rfl⟩:=expr_fits _ _ f0
 obtain ⟨vs,rfl⟩:=vars_fits f1
 obtain ⟨ps,rfl⟩:=ports_fits f2
 simp only [List.append_nil,List.nil_append] at hW'
 obtain ⟨h',e',hw⟩:=AE.law_ok e vs ps
 obtain ⟨n,hrun⟩:=(AE.Wd_iff _).1 hw
 have hcall:=Go.AE.call_whole (callOK n) Tryz.func3 (by kernel_rfl) (show Tryz.f3.body = some _ from rfl) hrun (told hL) (vs:=#[v0,v1,v2]) (by simp only [Go.AE.VRelL];exact ⟨_,_,rfl,r0,_,_,rfl,r1,_,_,rfl,r2,rfl⟩)
 refine hcall.mono fun e W' ⟨v,G',he,hv,hk⟩=>?_
 subst he
 simp only [Go.AE.Ghost.V,Go.AE.VRel] at hv
 subst hv
 refine ⟨_,rfl,_,_,_,[],_,[],hW',?_,trodAll_mk3 (stays laidOut hk (by kernel_rfl) (of_decide_eq_true (by kernel_rfl)) h0) (stays laidOut hk (by kernel_rfl) (of_decide_eq_true (by kernel_rfl)) h1) (stays laidOut hk (by kernel_rfl) (of_decide_eq_true (by kernel_rfl)) h2),?_,World.keptBut_mono (fun _ f=>f.elim) hk,fun h=>by cases h⟩
 ·exact trodAll_mk1 (shut_bool Tryz.underlying4 _)
 ·rfl
theorem row_holds:Rows.CheckLowersSaid:=
 OpenClaim.holds_of_wide 3 Tryz.f3 rfl rfl rfl rfl rfl rfl rfl ⟨rfl,rfl,rfl,rfl,rfl⟩ rfl rfl rfl rfl rfl (by kernel_rfl) Tryz.func3 facts
  (of_decide_eq_true (by kernel_rfl)) (by unfold Func.isWrapper;first | (rw [if_pos (by decide +kernel)];kernel_rfl) | (rw [if_neg (by decide +kernel)];exact ⟨rfl,rfl⟩))
  (fun os started H enc _=>lifted os started H enc)
theorem checkLowers_holds:Rows.CheckLowersCardSaid:=
 Claim7.holds_tied_plain_at .later [] [.data, .data, .data, .sentinel, .sentinel, .data, .data] true (true, "7df12c1ae3658c7319b9c23a2bf89639df40f46c248bde64344c404aab659b4e") true row_holds (fun _ h => by cases h) (by kernel_rfl) (fun _ h => by cases h) checkLowers_row_tie rfl ⟨rfl, rfl⟩ (by kernel_rfl) rfl
  (fun f fn hf hfn=>by
   obtain rfl : f = 3 := Option.some.inj ((show Tryz.prog.funcNamed "gavotte/gavottelaw13.CheckLowers" = some 3 by kernel_rfl).symm.trans hf) |>.symm
   obtain rfl:fn = Tryz.f3:=(Option.some.inj (Tryz.func3.symm.trans hfn)).symm
   exact ⟨by kernel_rfl,fun j t ht=>by
    rw [Tryz.params3] at ht
    have hm:t ∈ [24,25,26]:=by simpa using Array.mem_of_getElem? ht
    have hall:([24,25,26].all fun u=>!Tryz.prog.wantsStandIn u) = true:=by kernel_rfl
    exact (show Tryz.prog.wantsStandIn t = false by simpa using List.all_eq_true.1 hall t hm)⟩)
  (goes_off rfl (by kernel_rfl))
#print axioms checkLowers_holds
end Go.Proofs.YtfmkpcgpkdnioaaGreatDoor
