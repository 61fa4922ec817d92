/- Proved: gavottelaw19.SoloNil answers true for every stamp, bag and number, and they read as they did. Conditions: the listed package-level variables read as the program's text lays them (tied). -/
import Derived.Test.YthndaonhmmlmcaaGreatDoorMq2
import Derived.Test.YthndaonhmmlmcaaGreatDoorMq12
import Derived.Test.YthndaonhmmlmcaaGreatDoorMq20
import Derived.Test.YthndaonhmmlmcaaGreatDoorMq23
import Derived.Test.YthndaonhmmlmcaaGreatDoorMq3
import Derived.Test.YthndaonhmmlmcaaGreatDoorMq24
import Derived.Test.YthndaonhmmlmcaaGreatDoorCards
import Derived.Test.YthndaonhmmlmcaaGreatDoorTie
import Derived.ProofKit
import Derived.OpenShut
import Derived.LaidMore
import Derived.Lay
import Derived.SevenTiedAt
import Derived.Stop.Joined
import Derived.MakeChecks
import Derived.ChangeMaps5
import Derived.Carry
set_option maxRecDepth 100000
namespace Go.Proofs.YthndaonhmmlmcaaGreatDoor
open Go.ChangeShapes Go.WideShapes Go.ChangeAt Go.RowKit
open Go.ChangeMaps (open_string shut_string)
theorem mx:Tryz.prog.follows .mixedOrders = true:=by kernel_rfl
theorem progOK:Go.AE.ProgOK Tryz.prog AE.gl AE.T.get:=Go.AE.progOK_of AE.T_ok
theorem extOK:∀f g,AE.X f = some g→Go.AE.ExtOK Tryz.prog AE.gl f g:=by
 intro f g h
 unfold AE.X at h
 split at h
 ·cases h;exact Go.AE.gcall_ok mx Tryz.func46 (by kernel_rfl) AE.kt46 Tryz.func100 (by kernel_rfl) 4000
 ·cases h;exact Go.AE.add64_ok Tryz.func312 (by kernel_rfl) (by kernel_rfl) (by kernel_rfl) (by kernel_rfl)
 ·cases h;exact Go.AE.sub64_ok Tryz.func311 (by kernel_rfl) (by kernel_rfl) (by kernel_rfl) (by kernel_rfl)
 ·cases h
theorem extKeeps:∀f g,AE.X f = some g→∀call,Go.AE.CallKeeps call→Go.AE.CallKeeps fun _ xs h=>g call xs h:=by
 intro f g h
 unfold AE.X at h
 split at h
 ·cases h;exact fun call hk=>Go.AE.gcall_keeps hk
 ·cases h;exact fun call _=>Go.AE.const_keeps Go.AE.add64X_same call
 ·cases h;exact fun call _=>Go.AE.const_keeps Go.AE.sub64X_same call
 ·cases h
theorem callOK (n:Nat):Go.AE.CallOK Tryz.prog AE.gl (Go.AE.run AE.T.get AE.Z n):=(AE.ext_Z mx progOK ⟨extOK,extKeeps⟩).call mx progOK n
theorem told {W:World} (h:laidMetH Tryz.prog Rows.soloNilRow.laid W):Go.AE.Told AE.gl W:=by
 rw [MakeChecks.laidMetH_plain _ _ _ (by kernel_rfl)] at h
 intro g cs hg
 unfold AE.gl at hg
 split at hg <;> first | (cases hg;exact Go.AE.told_nil) | skip
 ·cases hg
  exact Go.AE.told_array h (show ("gavotte/ast.words", Rows.laid_gavotte_ast_words) ∈ _ from .tail _ (.tail _ (.tail _ (.tail _ (.tail _ (.tail _ (.head _))))))) (g := 0) (by kernel_rfl) (t := 434) (by kernel_rfl) Tryz.underlying434 (.inr Tryz.underlying9) (by kernel_rfl) (by kernel_rfl)
 ·cases hg
  exact Go.AE.told_array h (show ("gavotte/token.marks", Rows.laid_gavotte_token_marks) ∈ _ from .tail _ (.tail _ (.tail _ (.tail _ (.tail _ (.head _)))))) (g := 1) (by kernel_rfl) (t := 506) (by kernel_rfl) Tryz.underlying506 (.inr Tryz.underlying9) (by kernel_rfl) (by kernel_rfl)
 ·cases hg
  exact Go.AE.told_array h (show ("internal/strconv.uint64pow10", Rows.laid_internal_strconv_uint64pow10) ∈ _ from .tail _ (.tail _ (.head _))) (g := 7) (by kernel_rfl) (t := 600) (by kernel_rfl) Tryz.underlying600 (.inl ⟨_, Tryz.underlying308⟩) (by kernel_rfl) (by kernel_rfl)
 ·cases hg
  exact Go.AE.told_array h (show ("math/bits.deBruijn32tab", Rows.laid_math_bits_deBruijn32tab) ∈ _ from .head _) (g := 8) (by kernel_rfl) (t := 602) (by kernel_rfl) Tryz.underlying602 (.inl ⟨_, Tryz.underlying5⟩) (by kernel_rfl) (by kernel_rfl)
 ·cases hg
  exact Go.AE.told_array h (show ("math/bits.deBruijn64tab", Rows.laid_math_bits_deBruijn64tab) ∈ _ from .tail _ (.head _)) (g := 9) (by kernel_rfl) (t := 603) (by kernel_rfl) Tryz.underlying603 (.inl ⟨_, Tryz.underlying5⟩) (by kernel_rfl) (by kernel_rfl)
 ·cases hg
theorem own:ownKnob Tryz.prog.godebug = none:=by kernel_rfl
theorem stays {H:Type} {enc:TypeId×Value→H} {P:Program} (hl:laidOutB P = true) {W W':World} (hk:W.keptBut W' (fun _=>False)) {t:TypeId} (hr:P.readableRec t = true) (ht:t < P.types.size) {v:Value} {d:DataW H} {ps:List MemPlace} (h:DataW.Trod enc P W 0 (fun _=>true) true t v d ps) :
  DataW.Trod enc P W' 0 (fun b=>decide (b < W.heap.size)) true t v d ps:=by
 have hlt:∀x ∈ ps,x.block < W.heap.size:=by
  obtain ⟨n,hn⟩:=h
  exact DataW.trod_lt n _ _ _ hn
 exact WideElems.Trod_stays hl hr ht h (fun x hx=>Go.AE.kept_same hk (hlt x hx)) (fun x hx=>by simpa using hlt x hx)
theorem fits_int {P:Program} {n:Nat} {t:TypeId} {ws:List Go.AE.AVal} {k:IntKind} (h:Go.AE.Fits P n t ws) (hu:P.underlying t = some (.int k)):∃z,ws = [.int k z]:=by
 cases n with
 | zero=>exact h.elim
 | succ n=>
  simp only [Go.AE.Fits,hu] at h
  exact ⟨_,h.choose_spec.1⟩
theorem fits_struct {P:Program} {n:Nat} {t:TypeId} {ws:List Go.AE.AVal} {fs:Array Field} (h:Go.AE.Fits P n t ws) (hu:P.underlying t = some (.struct fs)):∃m ass,ws = List.flatten ass∧Go.AE.FitsAll (Go.AE.Fits P m) (fs.toList.map (·.type)) ass:=by
 cases n with
 | zero=>exact h.elim
 | succ n=>
  simp only [Go.AE.Fits,hu] at h
  obtain ⟨ass,h1,h2⟩:=h
  exact ⟨n,ass,h1,h2⟩
theorem fits_slice {P:Program} {n:Nat} {t e:TypeId} {ws:List Go.AE.AVal} (h:Go.AE.Fits P n t ws) (hu:P.underlying t = some (.slice e)):∃xs,ws = [.lst xs .no]:=by
 cases n with
 | zero=>exact h.elim
 | succ n=>
  simp only [Go.AE.Fits,hu] at h
  obtain ⟨xs,h1,_⟩:=h
  exact ⟨_,h1⟩
theorem fits_string {P:Program} {n:Nat} {t:TypeId} {ws:List Go.AE.AVal} (h:Go.AE.Fits P n t ws) (hu:P.underlying t = some .string):∃s,ws = [.str s]:=by
 cases n with
 | zero=>exact h.elim
 | succ n=>
  simp only [Go.AE.Fits,hu] at h
  exact ⟨_,h.choose_spec.1⟩
theorem elV (x:List Go.AE.AVal):Go.AE.el Tryz.prog 55 x = .agg x:=by
 unfold Go.AE.el
 rw [show Go.AE.isStruct Tryz.prog 55 = true by kernel_rfl]
 rfl
theorem elM (x:List Go.AE.AVal):Go.AE.el Tryz.prog 57 x = .agg x:=by
 unfold Go.AE.el
 rw [show Go.AE.isStruct Tryz.prog 57 = true by kernel_rfl]
 rfl
theorem value_fits (n:Nat):∀ws:List Go.AE.AVal,Go.AE.Fits Tryz.prog n 55 ws→AE.VF (.agg ws):=by
 induction n using Nat.strongRecOn with
 | ind n ih=>
  intro ws h
  match n,h,ih with
  | m + 1,h,ih=>
   simp only [Go.AE.Fits,Tryz.underlying55] at h
   obtain ⟨ass,rfl,h1⟩:=h
   match ass,h1 with
   | [p,q,r,l],⟨h2,h3,h4,h5,_⟩=>
    obtain ⟨z1,rfl⟩:=fits_int h2 Tryz.underlying3
    obtain ⟨z2,rfl⟩:=fits_int h3 Tryz.underlying3
    obtain ⟨s,rfl⟩:=fits_string h4 Tryz.underlying9
    match m,h5,ih with
    | k + 1,h5,ih=>
     simp only [Go.AE.Fits,Tryz.underlying39] at h5
     obtain ⟨xs,rfl,_,h6⟩:=h5
     refine .mk z1 z2 s _ fun y hy=>?_
     obtain ⟨x,hx,rfl⟩:=List.mem_map.1 hy
     rw [elV]
     exact ih k (by omega) x (h6 x hx)
theorem msg_fits {n:Nat} {ws:List Go.AE.AVal} (h:Go.AE.Fits Tryz.prog n 57 ws):AE.MF (.agg ws):=by
 obtain ⟨m,ass,rfl,h1⟩:=fits_struct h Tryz.underlying57
 match ass,h1 with
 | [p,v],⟨h2,h3,_⟩=>
  obtain ⟨s,rfl⟩:=fits_string h2 Tryz.underlying9
  obtain ⟨k,j,u,ys,hys⟩:=value_fits m v h3
  exact ⟨s,k,j,u,ys,rfl,hys⟩
theorem bag_fits {n:Nat} {ws:List Go.AE.AVal} (h:Go.AE.Fits Tryz.prog n 26 ws):∃xs,ws = [.lst xs .no]∧∀x ∈ xs,AE.MF x:=by
 cases n with
 | zero=>exact h.elim
 | succ n=>
  simp only [Go.AE.Fits,Tryz.underlying26] at h
  obtain ⟨xs,rfl,_,h1⟩:=h
  refine ⟨_,rfl,fun y hy=>?_⟩
  obtain ⟨x,hx,rfl⟩:=List.mem_map.1 hy
  rw [elM]
  exact msg_fits (h1 x hx)
theorem goes_off {P:Program} {c:OpenClaim} (hs:c.start = .entering) (h:P.funcs.any Func.goes = false):false = c.goesBy P:=by
 have key:∀g:Nat,(P.funcs[g]?).any Func.goes = false:=by
  intro g
  cases hg:P.funcs[g]? with
  | none=>rfl
  | some fn=>
   have hm:=Array.mem_of_getElem? hg
   rw [Array.any_eq_false] at h
   obtain ⟨i,hi,rfl⟩:=Array.getElem_of_mem hm
   simpa using h i hi
 have k2:∀f,P.goes f = false:=by
  intro f
  unfold Program.goes
  rw [h,Bool.and_false,Bool.or_false]
  exact List.any_eq_false.2 fun g _=>by rw [key g];simp
 unfold OpenClaim.goesBy Program.goesAt Program.goesFrom
 rw [hs]
 cases P.funcNamed c.func with
 | none=>rfl
 | some f=>simp [k2 f]
theorem laidOut:laidOutB Tryz.prog = true:=by kernel_rfl
theorem plainS:Go.AE.dataT Tryz.prog [25,23,3,26,57,9,55,39] = true:=by kernel_rfl
theorem stamp_fits {n:Nat} {ws:List Go.AE.AVal} (h:Go.AE.Fits Tryz.prog n 25 ws):∃a b c,ws = [.int .i64 a,.int .i64 b,.int .i64 c]:=by
 obtain ⟨m,ass,rfl,h1⟩:=fits_struct h Tryz.underlying25
 match ass,h1 with
 | [x,y],⟨h2,h3,_⟩=>
  obtain ⟨m2,bss,rfl,h4⟩:=fits_struct h2 Tryz.underlying23
  match bss,h4 with
  | [p,q],⟨h5,h6,_⟩=>
   obtain ⟨z1,rfl⟩:=fits_int h5 Tryz.underlying3
   obtain ⟨z2,rfl⟩:=fits_int h6 Tryz.underlying3
   obtain ⟨z3,rfl⟩:=fits_int h3 Tryz.underlying3
   exact ⟨z1,z2,z3,rfl⟩
theorem lifted (os:Os) (started:os.Started) (H:Type) (enc:TypeId×Value→H) :
  ReturnsInHanded {} Tryz.checked os 3 .any (fun w args=>(Rows.soloNilSpec.pre enc Tryz.prog Tryz.f3 Rows.soloNilRow.domain false w args∧laidMetH Tryz.prog Rows.soloNilRow.laid w)∧sizedMet enc Tryz.prog Tryz.f3 (OpenSpec.ofChange Rows.soloNilSpec) false w args)
   (Rows.soloNilSpec.post enc Tryz.prog Tryz.f3 false true false false):=by
 refine returnsInHanded_of_change_and (C:=Tryz.checked) (X:=fun w _=>laidMetH Tryz.prog Rows.soloNilRow.laid w) (fun _ _ _ hh h=>h.of_heap hh) own started (by kernel_rfl) Tryz.func3
  (ChangeSpec.witness_shaped (enc:=enc) (C:=Tryz.checked) (os:=os) (X:=fun w _=>laidMetH Tryz.prog Rows.soloNilRow.laid w) false (World.laidAll Tryz.prog os Rows.soloNilRow.laid) #[.agg #[.int .i64 0,.int .i64 0,.int .i64 0],.slice none 0 0,.int .i64 0] 8 (World.laidAll_os _ _ _)
   (World.shaped_of_ZipB (by kernel_rfl) (by kernel_rfl)) (by kernel_rfl) (by kernel_rfl) (by kernel_rfl)
   (by rw [MakeChecks.laidMetH_plain _ _ _ (by kernel_rfl)];exact laidMet_laidAll _ (by kernel_rfl) (by kernel_rfl))) ?_
 intro W base args ds gs before hval0 hW hc _ hL _
 have hval:∀(j:Nat) t v,Tryz.f3.params[j]? = some t→args[j]? = some v→Value.okWide Tryz.prog W .any base t v:=hval0
 have hW':=hW
 obtain ⟨p,q,hA0,hV,rfl,_,_⟩:=hW
 have hA:DataW.TrodAll enc Tryz.prog W 0 (fun _=>true) true Tryz.f3.params.toList args.toList ds p:=hA0
 rw [Tryz.params3] at hA hval
 obtain ⟨v0,v1,v2,d0,d1,d2,q0,q1,q2,rfl,rfl,rfl,h0,h1,h2⟩:=trodAll_three hA
 obtain ⟨rfl,rfl⟩:=trodVars_none hV
 obtain ⟨n0,a0,f0,r0⟩:=Go.AE.open_arg laidOut plainS (t:=25) (by decide) (hval 0 25 v0 rfl rfl) h0
 obtain ⟨n1,a1,f1,r1⟩:=Go.AE.open_arg laidOut plainS (t:=26) (by decide) (hval 1 26 v1 rfl rfl) h1
 obtain ⟨n2,a2,f2,r2⟩:=Go.AE.open_arg laidOut plainS (t:=3) (by decide) (hval 2 3 v2 rfl rfl) h2
 obtain ⟨x,y,z,rfl⟩:=stamp_fits f0
 obtain ⟨xs,rfl,hxs⟩:=bag_fits f1
 obtain ⟨s,rfl⟩:=fits_int f2 Tryz.underlying3
 simp only [List.append_nil,List.nil_append] at hW'
 obtain ⟨h',e',hw⟩:=AE.law_ok x y z s xs hxs
 obtain ⟨n,hrun⟩:=(AE.Wd_iff _).1 hw
 have hcall:=Go.AE.call_whole (callOK n) Tryz.func3 (by kernel_rfl) (show Tryz.f3.body = some _ from rfl) hrun (told hL) (vs:=#[v0,v1,v2]) (by simp only [Go.AE.VRelL];exact ⟨_,_,rfl,r0,_,_,rfl,r1,_,_,rfl,r2,rfl⟩)
 refine hcall.mono fun e W' ⟨v,G',he,hv,hk⟩=>?_
 subst he
 simp only [Go.AE.Ghost.V,Go.AE.VRel] at hv
 subst hv
 refine ⟨_,rfl,_,_,_,[],_,[],hW',?_,trodAll_mk3 (stays laidOut hk (by kernel_rfl) (of_decide_eq_true (by kernel_rfl)) h0) (stays laidOut hk (by kernel_rfl) (of_decide_eq_true (by kernel_rfl)) h1) (stays laidOut hk (by kernel_rfl) (of_decide_eq_true (by kernel_rfl)) h2),?_,World.keptBut_mono (fun _ f=>f.elim) hk,fun h=>by cases h⟩
 ·exact trodAll_mk1 (shut_bool Tryz.underlying4 _)
 ·rfl
theorem row_holds:Rows.SoloNilSaid:=
 OpenClaim.holds_of_wide 3 Tryz.f3 rfl rfl rfl rfl rfl rfl rfl ⟨rfl,rfl,rfl,rfl,rfl⟩ rfl rfl rfl rfl rfl (by kernel_rfl) Tryz.func3 facts
  (of_decide_eq_true (by kernel_rfl)) (by unfold Func.isWrapper;first | (rw [if_pos (by decide +kernel)];kernel_rfl) | (rw [if_neg (by decide +kernel)];exact ⟨rfl,rfl⟩))
  (fun os started H enc _=>lifted os started H enc)
theorem soloNil_holds:Rows.SoloNilCardSaid:=
 Claim7.holds_tied_plain_at .later [] [.data, .data, .data, .sentinel, .sentinel, .data, .data] true (true, "ecc4790c8eed25892a053082b7e64412f241880293432f0cfd3efbcec28ca18c") true row_holds (fun _ h => by cases h) (by kernel_rfl) (fun _ h => by cases h) soloNil_row_tie rfl ⟨rfl, rfl⟩ (by kernel_rfl) rfl
  (fun f fn hf hfn=>by
   obtain rfl : f = 3 := Option.some.inj ((show Tryz.prog.funcNamed "gavotte/gavottelaw19.SoloNil" = some 3 by kernel_rfl).symm.trans hf) |>.symm
   obtain rfl:fn = Tryz.f3:=(Option.some.inj (Tryz.func3.symm.trans hfn)).symm
   exact ⟨by kernel_rfl,fun j t ht=>by
    rw [Tryz.params3] at ht
    have hm:t ∈ [25,26,3]:=by simpa using Array.mem_of_getElem? ht
    have hall:([25,26,3].all fun u=>!Tryz.prog.wantsStandIn u) = true:=by kernel_rfl
    exact (show Tryz.prog.wantsStandIn t = false by simpa using List.all_eq_true.1 hall t hm)⟩)
  (goes_off rfl (by kernel_rfl))
#print axioms soloNil_holds
end Go.Proofs.YthndaonhmmlmcaaGreatDoor
