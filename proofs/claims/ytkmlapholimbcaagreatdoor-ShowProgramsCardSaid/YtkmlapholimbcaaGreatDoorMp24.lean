/- Proved: gavottelaw11.ShowPrograms answers true for any program, and it reads as it did. Conditions: the listed package-level variables read as the program's text lays them (tied). -/
import Derived.Test.YtkmlapholimbcaaGreatDoorMp2
import Derived.Test.YtkmlapholimbcaaGreatDoorMp22
import Derived.Test.YtkmlapholimbcaaGreatDoorMp3
import Derived.Test.YtkmlapholimbcaaGreatDoorMp7
import Derived.Test.YtkmlapholimbcaaGreatDoorMp17
import Derived.Test.YtkmlapholimbcaaGreatDoorMp23
import Derived.Test.YtkmlapholimbcaaGreatDoorCards
import Derived.Test.YtkmlapholimbcaaGreatDoorTie
import Derived.ProofKit
import Derived.OpenShut
import Derived.LaidMore
import Derived.Lay
import Derived.SevenTiedAt
import Derived.Stop.Joined
import Derived.MakeChecks
import Derived.ChangeMaps5
import Derived.Carry
set_option maxRecDepth 100000
namespace Go.Proofs.YtkmlapholimbcaaGreatDoor
open Go.ChangeShapes Go.WideShapes Go.ChangeAt Go.RowKit
open Go.ChangeMaps (open_string shut_string)
theorem qbv {g:Go.AE.Call→List Go.AE.qf→List Go.AE.qq→Option (Go.AE.qcS×List Go.AE.qq×Bool)} (hg:∀call xs h r h' e,g call xs h = some (r,h',e)→h' = h) (call:Go.AE.Call):Go.AE.qP fun _ xs h=>g call xs h:=by
 intro fv xs h r h' e' hr
 obtain rfl:=hg _ _ _ _ _ _ hr
 exact ⟨Nat.le_refl _,fun _=>Go.AE.qaa.refl _ _⟩
theorem mx:Tryz.prog.follows .mixedOrders = true:=by kernel_rfl
theorem qu3:Go.AE.qfA Tryz.prog AE.gl AE.T.get:=Go.AE.qqy AE.qEc
theorem qyL:∀f g,AE.X0 f = some g→Go.AE.qeI Tryz.prog AE.gl f g:=by
 intro f g h
 unfold AE.X0 at h
 split at h
 ·cases h;exact Go.AE.qy2 Tryz.lays156 Tryz.Builder_Extra_156 Tryz.func30 (by kernel_rfl) (show Tryz.f30.body = some _ from rfl)
 ·cases h;exact Go.AE.qub Tryz.lays169 Tryz.Builder_Extra_156 Tryz.func38 (by kernel_rfl) (show Tryz.f38.body = some _ from rfl) rfl rfl
 ·cases h;exact Go.AE.qbm Tryz.lays167 Tryz.Builder_Extra_156 Tryz.func63 (by kernel_rfl) (show Tryz.f63.body = some _ from rfl) rfl rfl
 ·cases h;exact Go.AE.qbH Tryz.lays166 Tryz.Builder_Extra_156 Tryz.func50 (by kernel_rfl) (show Tryz.f50.body = some _ from rfl) rfl rfl
 ·cases h;exact Go.AE.qpd Tryz.laysM171 Tryz.func61 (by kernel_rfl) (show Tryz.f61.body = some _ from rfl) (fun _ _ _ hr=>Go.AE.qu7 hr (by kernel_rfl) (show AE.gl 4 = some _ by kernel_rfl) (by simp [Go.Lib.pow10Tab_length]))
 ·cases h;exact Go.AE.qjT mx Tryz.func24 (by kernel_rfl) AE.qD5 Tryz.func42 (by kernel_rfl) 4000
 ·cases h
theorem qoa:∀f g,AE.X0 f = some g→∀call,Go.AE.qP call→Go.AE.qP fun _ xs h=>g call xs h:=by
 intro f g h
 unfold AE.X0 at h
 split at h
 ·cases h;exact fun call _=>qbv Go.AE.qjY call
 ·cases h;exact fun call _=>qbv Go.AE.qkr call
 ·cases h;exact fun call _=>Go.AE.qic call
 ·cases h;exact fun call _=>Go.AE.qie call
 ·cases h;exact fun call _=>qbv Go.AE.qjW call
 ·cases h;exact fun call hk=>Go.AE.qfM hk
 ·cases h
theorem qvK (n:Nat):Go.AE.qbX Tryz.prog AE.gl (Go.AE.run AE.T.get AE.X0 n):=(show Go.AE.qmI Tryz.prog AE.gl AE.T.get AE.X0 from ⟨qyL,qoa⟩).call mx qu3 n
theorem qvu:Go.AE.qeI Tryz.prog AE.gl 6 Go.AE.qdQ:=by
 obtain ⟨e,he⟩:=AE.qyu
 exact Go.AE.qnm (qvK 400) Tryz.func6 (by kernel_rfl) (show Tryz.f6.body = some _ from rfl) he
theorem qBe:∀f g,AE.X f = some g→Go.AE.qeI Tryz.prog AE.gl f g:=by
 intro f g h
 unfold AE.X at h
 split at h
 ·cases h;exact qvu
 ·cases h;exact Go.AE.qy2 Tryz.lays156 Tryz.Builder_Extra_156 Tryz.func30 (by kernel_rfl) (show Tryz.f30.body = some _ from rfl)
 ·cases h;exact Go.AE.qub Tryz.lays169 Tryz.Builder_Extra_156 Tryz.func38 (by kernel_rfl) (show Tryz.f38.body = some _ from rfl) rfl rfl
 ·cases h;exact Go.AE.qbm Tryz.lays167 Tryz.Builder_Extra_156 Tryz.func63 (by kernel_rfl) (show Tryz.f63.body = some _ from rfl) rfl rfl
 ·cases h;exact Go.AE.qbH Tryz.lays166 Tryz.Builder_Extra_156 Tryz.func50 (by kernel_rfl) (show Tryz.f50.body = some _ from rfl) rfl rfl
 ·cases h;exact Go.AE.qpd Tryz.laysM171 Tryz.func61 (by kernel_rfl) (show Tryz.f61.body = some _ from rfl) (fun _ _ _ hr=>Go.AE.qu7 hr (by kernel_rfl) (show AE.gl 4 = some _ by kernel_rfl) (by simp [Go.Lib.pow10Tab_length]))
 ·cases h;exact Go.AE.qjT mx Tryz.func24 (by kernel_rfl) AE.qD5 Tryz.func42 (by kernel_rfl) 4000
 ·cases h
theorem qsE:∀f g,AE.X f = some g→∀call,Go.AE.qP call→Go.AE.qP fun _ xs h=>g call xs h:=by
 intro f g h
 unfold AE.X at h
 split at h
 ·cases h;exact fun call _=>qbv Go.AE.qhp call
 ·cases h;exact fun call _=>qbv Go.AE.qjY call
 ·cases h;exact fun call _=>qbv Go.AE.qkr call
 ·cases h;exact fun call _=>Go.AE.qic call
 ·cases h;exact fun call _=>Go.AE.qie call
 ·cases h;exact fun call _=>qbv Go.AE.qjW call
 ·cases h;exact fun call hk=>Go.AE.qfM hk
 ·cases h
theorem qyz (n:Nat):Go.AE.qbX Tryz.prog AE.gl (Go.AE.run AE.T.get AE.X n):=(show Go.AE.qmI Tryz.prog AE.gl AE.T.get AE.X from ⟨qBe,qsE⟩).call mx qu3 n
theorem qGh {W:World} (h:laidMetH Tryz.prog Rows.showProgramsRow.laid W):Go.AE.qAs AE.gl W:=by
 rw [MakeChecks.laidMetH_plain _ _ _ (by kernel_rfl)] at h
 intro g cs hg
 unfold AE.gl at hg
 split at hg <;> first | (cases hg;exact Go.AE.qup) | skip
 ·cases hg
  exact Go.AE.qci h (show ("gavotte/ast.words", Rows.laid_gavotte_ast_words) ∈ _ from .tail _ (.tail _ (.tail _ (.tail _ (.tail _ (.tail _ (.head _))))))) (g := 0) (by kernel_rfl) (t := 156) (by kernel_rfl) Tryz.underlying156 (.inr Tryz.underlying9) (by kernel_rfl) (by kernel_rfl) (by kernel_rfl)
 ·cases hg
  exact Go.AE.qci h (show ("gavotte/show.ranks", Rows.laid_gavotte_show_ranks) ∈ _ from .tail _ (.tail _ (.tail _ (.tail _ (.tail _ (.tail _ (.tail _ (.head _)))))))) (g := 1) (by kernel_rfl) (t := 183) (by kernel_rfl) Tryz.underlying183 (.inl ⟨_, Tryz.underlying3⟩) (by kernel_rfl) (by kernel_rfl) (by kernel_rfl)
 ·cases hg
  exact Go.AE.qci h (show ("gavotte/token.marks", Rows.laid_gavotte_token_marks) ∈ _ from .tail _ (.tail _ (.tail _ (.tail _ (.tail _ (.head _)))))) (g := 2) (by kernel_rfl) (t := 186) (by kernel_rfl) Tryz.underlying186 (.inr Tryz.underlying9) (by kernel_rfl) (by kernel_rfl) (by kernel_rfl)
 ·cases hg
  exact Go.AE.qci h (show ("internal/strconv.uint64pow10", Rows.laid_internal_strconv_uint64pow10) ∈ _ from .tail _ (.tail _ (.head _))) (g := 4) (by kernel_rfl) (t := 201) (by kernel_rfl) Tryz.underlying201 (.inl ⟨_, Tryz.underlying192⟩) (by kernel_rfl) (by kernel_rfl) (by kernel_rfl)
 ·cases hg
  exact Go.AE.qci h (show ("math/bits.deBruijn32tab", Rows.laid_math_bits_deBruijn32tab) ∈ _ from .head _) (g := 5) (by kernel_rfl) (t := 215) (by kernel_rfl) Tryz.underlying215 (.inl ⟨_, Tryz.underlying5⟩) (by kernel_rfl) (by kernel_rfl) (by kernel_rfl)
 ·cases hg
  exact Go.AE.qci h (show ("math/bits.deBruijn64tab", Rows.laid_math_bits_deBruijn64tab) ∈ _ from .tail _ (.head _)) (g := 6) (by kernel_rfl) (t := 216) (by kernel_rfl) Tryz.underlying216 (.inl ⟨_, Tryz.underlying5⟩) (by kernel_rfl) (by kernel_rfl) (by kernel_rfl)
 ·cases hg
theorem own:ownKnob Tryz.prog.godebug = none:=by kernel_rfl
theorem qCV {H:Type} {enc:TypeId×Value→H} {P:Program} (hl:laidOutB P = true) {W W':World} (hk:W.keptBut W' (fun _=>False)) {t:TypeId} (hr:P.readableRec t = true) (ht:t < P.types.size) {v:Value} {d:DataW H} {ps:List MemPlace} (h:DataW.Trod enc P W 0 (fun _=>true) true t v d ps) :
  DataW.Trod enc P W' 0 (fun b=>decide (b < W.heap.size)) true t v d ps:=by
 have hlt:∀x ∈ ps,x.block < W.heap.size:=by
  obtain ⟨n,hn⟩:=h
  exact DataW.trod_lt n _ _ _ hn
 exact WideElems.Trod_stays hl hr ht h (fun x hx=>Go.AE.qph hk (hlt x hx)) (fun x hx=>by simpa using hlt x hx)
theorem qsM {P:Program} {c:OpenClaim} (hs:c.start = .entering) (h:P.funcs.any Func.goes = false):false = c.goesBy P:=by
 have key:∀g:Nat,(P.funcs[g]?).any Func.goes = false:=by
  intro g
  cases hg:P.funcs[g]? with
  | none=>rfl
  | some fn=>
   have hm:=Array.mem_of_getElem? hg
   rw [Array.any_eq_false] at h
   obtain ⟨i,hi,rfl⟩:=Array.getElem_of_mem hm
   simpa using h i hi
 have k2:∀f,P.goes f = false:=by
  intro f
  unfold Program.goes
  rw [h,Bool.and_false,Bool.or_false]
  exact List.any_eq_false.2 fun g _=>by rw [key g];simp
 unfold OpenClaim.goesBy Program.goesAt Program.goesFrom
 rw [hs]
 cases P.funcNamed c.func with
 | none=>rfl
 | some f=>simp [k2 f]
theorem qpi:laidOutB Tryz.prog = true:=by kernel_rfl
theorem qzP:Go.AE.qvT Tryz.prog [38,36,54,24,22,9,3,4,98,96,100,47,102,48,66,49,113,50,116,118,51,121,67,69,52,5] = true:=by kernel_rfl
theorem qzo (os:Os) (started:os.Started) (H:Type) (enc:TypeId×Value→H) :
  ReturnsInHanded {} Tryz.checked os 4 .any (fun w args=>(Rows.showProgramsSpec.pre enc Tryz.prog Tryz.f4 Rows.showProgramsRow.domain false w args∧laidMetH Tryz.prog Rows.showProgramsRow.laid w)∧sizedMet enc Tryz.prog Tryz.f4 (OpenSpec.ofChange Rows.showProgramsSpec) false w args)
   (Rows.showProgramsSpec.post enc Tryz.prog Tryz.f4 false true false false):=by
 refine returnsInHanded_of_change_and (C:=Tryz.checked) (X:=fun w _=>laidMetH Tryz.prog Rows.showProgramsRow.laid w) (fun _ _ _ hh h=>h.of_heap hh) own started (by kernel_rfl) Tryz.func4
  (ChangeSpec.witness_shaped (enc:=enc) (C:=Tryz.checked) (os:=os) (X:=fun w _=>laidMetH Tryz.prog Rows.showProgramsRow.laid w) false (World.laidAll Tryz.prog os Rows.showProgramsRow.laid) #[.agg #[.slice none 0 0,.string ByteArray.empty]] 8 (World.laidAll_os _ _ _)
   (World.shaped_of_ZipB (by kernel_rfl) (by kernel_rfl)) (by kernel_rfl) (by kernel_rfl) (by kernel_rfl)
   (by rw [MakeChecks.laidMetH_plain _ _ _ (by kernel_rfl)];exact laidMet_laidAll _ (by kernel_rfl) (by kernel_rfl))) ?_
 intro W base args ds gs before hval0 hW hc _ hL _
 have hval:∀(j:Nat) t v,Tryz.f4.params[j]? = some t→args[j]? = some v→Value.okWide Tryz.prog W .any base t v:=hval0
 have hW':=hW
 obtain ⟨p,q,hA0,hV,rfl,_,_⟩:=hW
 have hA:DataW.TrodAll enc Tryz.prog W 0 (fun _=>true) true Tryz.f4.params.toList args.toList ds p:=hA0
 rw [Tryz.params4] at hA hval
 obtain ⟨v0,d0,rfl,rfl,h0⟩:=trodAll_one hA
 obtain ⟨rfl,rfl⟩:=trodVars_none hV
 obtain ⟨n0,a0,f0,r0⟩:=Go.AE.qtE qpi qzP (t:=38) (by decide) (hval 0 38 v0 rfl rfl) h0
 obtain ⟨p0,hp0,ho⟩:=qqz f0
 simp only [List.append_nil,List.nil_append] at hW'
 obtain ⟨h',e',hw⟩:=AE.qfB ho []
 rw [←hp0] at hw
 obtain ⟨n,hrun⟩:=(Go.AE.qvc AE.qg8 _).1 hw
 have hcall:=Go.AE.qkE (qyz n) Tryz.func4 (by kernel_rfl) (show Tryz.f4.body = some _ from rfl) hrun (qGh hL) (vs:=#[v0]) (by simp only [Go.AE.qr];exact ⟨_,_,rfl,r0,rfl⟩)
 refine hcall.mono fun e W' ⟨v,G',he,hv,hk⟩=>?_
 subst he
 simp only [Go.AE.qm.V,Go.AE.qB] at hv
 subst hv
 refine ⟨_,rfl,_,_,_,[],_,[],hW',?_,trodAll_mk1 (qCV qpi hk (by kernel_rfl) (of_decide_eq_true (by kernel_rfl)) h0),?_,World.keptBut_mono (fun _ f=>f.elim) hk,fun h=>by cases h⟩
 ·exact trodAll_mk1 (shut_bool Tryz.underlying4 _)
 ·rfl
theorem qqK:Rows.ShowProgramsSaid:=
 OpenClaim.holds_of_wide 4 Tryz.f4 rfl rfl rfl rfl rfl rfl rfl ⟨rfl,rfl,rfl,rfl,rfl⟩ rfl rfl rfl rfl rfl (by kernel_rfl) Tryz.func4 facts
  (of_decide_eq_true (by kernel_rfl)) (by unfold Func.isWrapper;first | (rw [if_pos (by decide +kernel)];kernel_rfl) | (rw [if_neg (by decide +kernel)];exact ⟨rfl,rfl⟩))
  (fun os started H enc _=>qzo os started H enc)
theorem showPrograms_holds:Rows.ShowProgramsCardSaid:=
 Claim7.holds_tied_plain_at .later [] [.data, .data, .data, .sentinel, .sentinel, .data, .data, .data] true (true, "97fee0d9cb8fcff3d7a626d4621caf66c24a844c9e6d1a38acd23e7b72121120") true qqK (fun _ h => by cases h) (by kernel_rfl) (fun _ h => by cases h) showPrograms_row_tie rfl ⟨rfl, rfl⟩ (by kernel_rfl) rfl
  (fun f fn hf hfn=>by
   obtain rfl : f = 4 := Option.some.inj ((show Tryz.prog.funcNamed "gavotte/gavottelaw11.ShowPrograms" = some 4 by kernel_rfl).symm.trans hf) |>.symm
   obtain rfl:fn = Tryz.f4:=(Option.some.inj (Tryz.func4.symm.trans hfn)).symm
   exact ⟨by kernel_rfl,fun j t ht=>by
    rw [Tryz.params4] at ht
    have hm:t ∈ [38]:=by simpa using Array.mem_of_getElem? ht
    have hall:([38].all fun u=>!Tryz.prog.wantsStandIn u) = true:=by kernel_rfl
    exact (show Tryz.prog.wantsStandIn t = false by simpa using List.all_eq_true.1 hall t hm)⟩)
  (qsM rfl (by kernel_rfl))
#print axioms showPrograms_holds
end Go.Proofs.YtkmlapholimbcaaGreatDoor
