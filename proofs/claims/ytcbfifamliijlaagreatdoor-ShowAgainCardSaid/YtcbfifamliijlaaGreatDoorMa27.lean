/- Proved: gavottelaw11.ShowAgain answers true for any text, and it reads as it did. Conditions: the listed package-level variables read as the program's text lays them (tied). -/
import Derived.Test.YtcbfifamliijlaaGreatDoorMa2
import Derived.Test.YtcbfifamliijlaaGreatDoorMa24
import Derived.Test.YtcbfifamliijlaaGreatDoorMa3
import Derived.Test.YtcbfifamliijlaaGreatDoorMa25
import Derived.Test.YtcbfifamliijlaaGreatDoorMa19
import Derived.Test.YtcbfifamliijlaaGreatDoorMa26
import Derived.Test.YtcbfifamliijlaaGreatDoorCards
import Derived.Test.YtcbfifamliijlaaGreatDoorTie
import Derived.ProofKit
import Derived.OpenShut
import Derived.LaidMore
import Derived.Lay
import Derived.SevenTiedAt
import Derived.Stop.Joined
import Derived.Stop.LaidErr
import Derived.MakeChecks
import Derived.ChangeMaps5
import Derived.Carry
set_option maxRecDepth 100000
namespace Go.Proofs.YtcbfifamliijlaaGreatDoor
open Go.ChangeShapes Go.WideShapes Go.ChangeAt Go.RowKit
open Go.ChangeMaps (open_string shut_string)
theorem qaU {g:Go.AE.Call->List Go.AE.qd->List Go.AE.qj->Option (Go.AE.qdm×List Go.AE.qj×Bool)} (hg:∀call xs h r h' e,g call xs h = some (r,h',e)->h' = h) (call:Go.AE.Call):Go.AE.qP λ_ xs h=>g call xs h:=by
 intro fv xs h r h' e' hr
 obtain rfl:=hg _ _ _ _ _ _ hr
 exact ⟨Nat.le_refl _,λ_=>Go.AE.qae.refl _ _⟩
theorem qpE {P:Program} {n:String} {d:DataW Unit} {r:List (String×DataW Unit)} {W:World} {g:Nat} {x:Value} (h:laidMet P ((n,d) :: r) W) (hg:P.globalNamed n = some g) (hx:W.var? P n = some #[x]):∃c e,W.heap[g]? = some (.cells c e (0,0)):=by
 obtain ⟨ps,hv,a7,E⟩:=h
 obtain ⟨g',t',cs,fuel,p,q,a1,a6,I,hd,hq,Y⟩:=hv
 obtain rfl:=Option.some.inj (hg.symm.trans a1)
 have e:=Option.some.inj (hx.symm.trans I)
 have hs:0 < cs.size:=by rw [<-e];exact Nat.zero_lt_one
 exact (E g 0 (by
  rw [Y]
  refine List.mem_append_left _ (List.mem_append_left _ ?_)
  exact MemPlace.mem_row.2 ⟨0,by first | exact hs | omega,rfl⟩)).1
theorem mx:Tryz.prog.follows .mixedOrders = true:=by kernel_rfl
theorem qjp:Go.AE.qnm Tryz.prog AE.gl AE.T.get:=Go.AE.quc AE.qJO
theorem qC6:∀f g,AE.X0 f = some g->Go.AE.qfP Tryz.prog AE.gl f g:=by
 intro f g h
 unfold AE.X0 at h
 split at h
 ·cases h;exact Go.AE.qDt Tryz.lays156 Tryz.Builder_Extra_156 Tryz.func16 (by kernel_rfl) (show Tryz.f16.body = some _ from rfl)
 ·cases h;exact Go.AE.qyb Tryz.lays169 Tryz.Builder_Extra_156 Tryz.func32 (by kernel_rfl) (show Tryz.f32.body = some _ from rfl) rfl rfl
 ·cases h;exact Go.AE.qgS Tryz.lays167 Tryz.Builder_Extra_156 Tryz.func105 (by kernel_rfl) (show Tryz.f105.body = some _ from rfl) rfl rfl
 ·cases h;exact Go.AE.qkt Tryz.lays166 Tryz.Builder_Extra_156 Tryz.func31 (by kernel_rfl) (show Tryz.f31.body = some _ from rfl) rfl rfl
 ·cases h;exact Go.AE.qsZ Tryz.laysM171 Tryz.func103 (by kernel_rfl) (show Tryz.f103.body = some _ from rfl) (λ_ _ _ hr=>Go.AE.qzm hr (by kernel_rfl) (show AE.gl 4 = some _ by kernel_rfl) (by simp [Go.Lib.pow10Tab_length]))
 ·cases h;exact Go.AE.qhp mx qjp (f:=7) (by kernel_rfl) 4000
 ·cases h;exact Go.AE.qhp mx qjp (f:=10) (by kernel_rfl) 4000
 ·cases h;exact Go.AE.qhs mx Tryz.func21 (by kernel_rfl) AE.qJD Tryz.func41 (by kernel_rfl) 4000
 ·cases h;exact Go.AE.qhs mx Tryz.func25 (by kernel_rfl) AE.qJE Tryz.func64 (by kernel_rfl) 4000
 ·cases h;exact Go.AE.qnI Tryz.lays137 Tryz.func162 (by kernel_rfl) (show Tryz.f162.body = some _ from rfl)
 ·cases h;exact Go.AE.qqZ (tp:=263) Tryz.laysC172 Tryz.func187 (by kernel_rfl) (show Tryz.f187.body = some _ from rfl) (by kernel_rfl)
 ·cases h
theorem qsd:∀f g,AE.X0 f = some g->∀call,Go.AE.qP call->Go.AE.qP λ_ xs h=>g call xs h:=by
 intro f g h
 unfold AE.X0 at h
 split at h
 ·cases h;exact λcall _=>qaU Go.AE.qnM call
 ·cases h;exact λcall _=>qaU Go.AE.qom call
 ·cases h;exact λcall _=>Go.AE.qlR call
 ·cases h;exact λcall _=>Go.AE.qlS call
 ·cases h;exact λcall _=>qaU Go.AE.qnJ call
 ·cases h;exact λcall hk=>Go.AE.qdQ hk
 ·cases h;exact λcall hk=>Go.AE.qdQ hk
 ·cases h;exact λcall hk=>Go.AE.qdU hk
 ·cases h;exact λcall hk=>Go.AE.qdU hk
 ·cases h;exact λcall _=>qaU Go.AE.qh1 call
 ·cases h;exact λcall _=>qaU Go.AE.qiX call
 ·cases h
theorem qz2 (n:Nat):Go.AE.qcN Tryz.prog AE.gl (Go.AE.run AE.T.get AE.X0 n):=Go.AE.qir mx qjp qC6 qsd n
theorem qzI:Go.AE.qfP Tryz.prog AE.gl 5 Go.AE.qfA:=by
 obtain ⟨e,he⟩:=AE.qCD
 exact Go.AE.qrp (qz2 400) Tryz.func5 (by kernel_rfl) (show Tryz.f5.body = some _ from rfl) he
theorem qGd:∀f g,AE.X f = some g->Go.AE.qfP Tryz.prog AE.gl f g:=by
 intro f g h
 unfold AE.X at h
 split at h
 ·cases h;exact qzI
 ·cases h;exact Go.AE.qDt Tryz.lays156 Tryz.Builder_Extra_156 Tryz.func16 (by kernel_rfl) (show Tryz.f16.body = some _ from rfl)
 ·cases h;exact Go.AE.qyb Tryz.lays169 Tryz.Builder_Extra_156 Tryz.func32 (by kernel_rfl) (show Tryz.f32.body = some _ from rfl) rfl rfl
 ·cases h;exact Go.AE.qgS Tryz.lays167 Tryz.Builder_Extra_156 Tryz.func105 (by kernel_rfl) (show Tryz.f105.body = some _ from rfl) rfl rfl
 ·cases h;exact Go.AE.qkt Tryz.lays166 Tryz.Builder_Extra_156 Tryz.func31 (by kernel_rfl) (show Tryz.f31.body = some _ from rfl) rfl rfl
 ·cases h;exact Go.AE.qsZ Tryz.laysM171 Tryz.func103 (by kernel_rfl) (show Tryz.f103.body = some _ from rfl) (λ_ _ _ hr=>Go.AE.qzm hr (by kernel_rfl) (show AE.gl 4 = some _ by kernel_rfl) (by simp [Go.Lib.pow10Tab_length]))
 ·cases h;exact Go.AE.qhp mx qjp (f:=7) (by kernel_rfl) 4000
 ·cases h;exact Go.AE.qhp mx qjp (f:=10) (by kernel_rfl) 4000
 ·cases h;exact Go.AE.qhs mx Tryz.func21 (by kernel_rfl) AE.qJD Tryz.func41 (by kernel_rfl) 4000
 ·cases h;exact Go.AE.qhs mx Tryz.func25 (by kernel_rfl) AE.qJE Tryz.func64 (by kernel_rfl) 4000
 ·cases h;exact Go.AE.qnI Tryz.lays137 Tryz.func162 (by kernel_rfl) (show Tryz.f162.body = some _ from rfl)
 ·cases h;exact Go.AE.qqZ (tp:=263) Tryz.laysC172 Tryz.func187 (by kernel_rfl) (show Tryz.f187.body = some _ from rfl) (by kernel_rfl)
 ·cases h
theorem qwC:∀f g,AE.X f = some g->∀call,Go.AE.qP call->Go.AE.qP λ_ xs h=>g call xs h:=by
 intro f g h
 unfold AE.X at h
 split at h
 ·cases h;exact λcall _=>qaU Go.AE.qkP call
 ·cases h;exact λcall _=>qaU Go.AE.qnM call
 ·cases h;exact λcall _=>qaU Go.AE.qom call
 ·cases h;exact λcall _=>Go.AE.qlR call
 ·cases h;exact λcall _=>Go.AE.qlS call
 ·cases h;exact λcall _=>qaU Go.AE.qnJ call
 ·cases h;exact λcall hk=>Go.AE.qdQ hk
 ·cases h;exact λcall hk=>Go.AE.qdQ hk
 ·cases h;exact λcall hk=>Go.AE.qdU hk
 ·cases h;exact λcall hk=>Go.AE.qdU hk
 ·cases h;exact λcall _=>qaU Go.AE.qh1 call
 ·cases h;exact λcall _=>qaU Go.AE.qiX call
 ·cases h
theorem qCM (n:Nat):Go.AE.qcN Tryz.prog AE.gl (Go.AE.run AE.T.get AE.X n):=Go.AE.qir mx qjp qGd qwC n
theorem qLF {W:World} (h:laidMetH Tryz.prog Rows.showAgainRow.laid W):Go.AE.qFa AE.gl W:=by
 rw [MakeChecks.laidMetH_plain _ _ _ (by kernel_rfl)] at h
 intro g cs hg
 unfold AE.gl at hg
 split at hg <;> first | (cases hg;exact Go.AE.qyr) | skip
 ·cases hg
  exact Go.AE.qcM h (show ("gavotte/ast.words", Rows.laid_gavotte_ast_words) ∈ _ from .tail _ (.tail _ (.tail _ (.tail _ (.tail _ (.tail _ (.head _))))))) (g := 0) (by kernel_rfl) (t := 133) (by kernel_rfl) Tryz.underlying133 (.inr Tryz.underlying9) (by kernel_rfl) (by kernel_rfl) (by kernel_rfl)
 ·cases hg
  exact Go.AE.qcM h (show ("gavotte/token.marks", Rows.laid_gavotte_token_marks) ∈ _ from .tail _ (.tail _ (.tail _ (.tail _ (.tail _ (.head _)))))) (g := 2) (by kernel_rfl) (t := 217) (by kernel_rfl) Tryz.underlying217 (.inr Tryz.underlying9) (by kernel_rfl) (by kernel_rfl) (by kernel_rfl)
 ·cases hg
  exact Go.AE.qcM h (show ("gavotte/show.ranks", Rows.laid_gavotte_show_ranks) ∈ _ from .tail _ (.tail _ (.tail _ (.tail _ (.tail _ (.tail _ (.tail _ (.head _)))))))) (g := 3) (by kernel_rfl) (t := 229) (by kernel_rfl) Tryz.underlying229 (.inl ⟨_, Tryz.underlying3⟩) (by kernel_rfl) (by kernel_rfl) (by kernel_rfl)
 ·cases hg
  exact Go.AE.qcM h (show ("internal/strconv.uint64pow10", Rows.laid_internal_strconv_uint64pow10) ∈ _ from .tail _ (.tail _ (.head _))) (g := 4) (by kernel_rfl) (t := 241) (by kernel_rfl) Tryz.underlying241 (.inl ⟨_, Tryz.underlying233⟩) (by kernel_rfl) (by kernel_rfl) (by kernel_rfl)
 ·cases hg
  have h3:=h.tail.tail.tail
  obtain ⟨a, s, hv, _⟩ := laid_sentinel h3 (g := 6) (by kernel_rfl) (by kernel_rfl) Tryz.underlying87 (λu hu => typeName_ptr_named (nm := "errors.errorString") (by kernel_rfl) (by kernel_rfl) (by decide) u (hu.trans (congrArg some (by kernel_rfl)))) Tryz.underlying263 Tryz.underlying265 rfl rfl Tryz.underlying9 (by kernel_rfl) (by kernel_rfl)
  obtain ⟨c,e,hh⟩:=qpE h3 (g:=6) (by kernel_rfl) hv
  refine ⟨rfl,[.iface 263 (.pointer (some a))],?_,λj v hj=>?_,λ_=>⟨c,e,hh,?_⟩⟩
  ·simp only [Go.AE.qp,Go.AE.qC]
   exact ⟨_,_,rfl,⟨_,rfl,λe=>by cases e⟩,rfl⟩
  ·have hc:=World.var?_cell (g:=6) (by kernel_rfl) hv j
   rw [hc]
   simpa using hj
  ·have q:=hv
   simp only [World.var?, show Tryz.prog.globalNamed "strconv.ErrRange" = some 6 by kernel_rfl, Option.bind_some, hh, Option.some.injEq] at q
   rw [q]
   rfl
 ·cases hg
  exact Go.AE.qcM h (show ("math/bits.deBruijn32tab", Rows.laid_math_bits_deBruijn32tab) ∈ _ from .head _) (g := 7) (by kernel_rfl) (t := 260) (by kernel_rfl) Tryz.underlying260 (.inl ⟨_, Tryz.underlying5⟩) (by kernel_rfl) (by kernel_rfl) (by kernel_rfl)
 ·cases hg
  exact Go.AE.qcM h (show ("math/bits.deBruijn64tab", Rows.laid_math_bits_deBruijn64tab) ∈ _ from .tail _ (.head _)) (g := 8) (by kernel_rfl) (t := 261) (by kernel_rfl) Tryz.underlying261 (.inl ⟨_, Tryz.underlying5⟩) (by kernel_rfl) (by kernel_rfl) (by kernel_rfl)
 ·cases hg
theorem own:ownKnob Tryz.prog.godebug = none:=by kernel_rfl
theorem qwJ {P:Program} {c:OpenClaim} (hs:c.start = .entering) (h:P.funcs.any Func.goes = false):false = c.goesBy P:=by
 have key:∀g:Nat,(P.funcs[g]?).any Func.goes = false:=by
  intro g
  cases hg:P.funcs[g]? with
  | none=>rfl
  | some fn=>
   have hm:=Array.mem_of_getElem? hg
   rw [Array.any_eq_false] at h
   obtain ⟨i,hi,rfl⟩:=Array.getElem_of_mem hm
   simpa using h i hi
 have k2:∀f,P.goes f = false:=by
  intro f
  unfold Program.goes
  rw [h,Bool.and_false,Bool.or_false]
  exact List.any_eq_false.2 λg _=>by rw [key g];simp
 unfold OpenClaim.goesBy Program.goesAt Program.goesFrom
 rw [hs]
 cases P.funcNamed c.func with
 | none=>rfl
 | some f=>simp [k2 f]
theorem qDZ (os:Os) (started:os.Started) (H:Type) (enc:TypeId×Value->H) :
  ReturnsInHanded {} Tryz.checked os 4 .any (λw args=>(Rows.showAgainSpec.pre enc Tryz.prog Tryz.f4 Rows.showAgainRow.domain false w args/\laidMetH Tryz.prog Rows.showAgainRow.laid w)/\sizedMet enc Tryz.prog Tryz.f4 (OpenSpec.ofChange Rows.showAgainSpec) false w args)
   (Rows.showAgainSpec.post enc Tryz.prog Tryz.f4 false true false false):=by
 refine returnsInHanded_of_change_and (C:=Tryz.checked) (X:=λw _=>laidMetH Tryz.prog Rows.showAgainRow.laid w) (λ_ _ _ hh h=>h.of_heap hh) own started (by kernel_rfl) Tryz.func4
  (ChangeSpec.witness_shaped (enc:=enc) (C:=Tryz.checked) (os:=os) (X:=λw _=>laidMetH Tryz.prog Rows.showAgainRow.laid w) false (World.laidAll Tryz.prog os Rows.showAgainRow.laid) #[.string ByteArray.empty] 8 (World.laidAll_os _ _ _)
   (World.shaped_of_ZipB (by kernel_rfl) (by kernel_rfl)) (by kernel_rfl) (by kernel_rfl) (by kernel_rfl)
   (by rw [MakeChecks.laidMetH_plain _ _ _ (by kernel_rfl)];exact laidMet_laidAll _ (by kernel_rfl) (by kernel_rfl))) ?_
 intro W base args ds gs before I hW hc _ hL _
 have E:∀(j:Nat) t v,Tryz.f4.params[j]? = some t->args[j]? = some v->Value.okWide Tryz.prog W .any base t v:=I
 have a1:=hW
 obtain ⟨p,q,a7,hV,rfl,_,_⟩:=hW
 have hA:DataW.TrodAll enc Tryz.prog W 0 (λ_=>true) true Tryz.f4.params.toList args.toList ds p:=a7
 rw [Tryz.params4] at hA E
 obtain ⟨v0,d0,rfl,rfl,h0⟩:=trodAll_one hA
 obtain ⟨rfl,rfl⟩:=trodVars_none hV
 obtain ⟨s,rfl,rfl,rfl,hs⟩:=open_string Tryz.underlying9 (E 0 9 v0 rfl rfl) h0
 simp only [List.append_nil] at a1
 obtain ⟨h',e',hw⟩:=AE.qkC s.data.toList []
 obtain ⟨n,a6⟩:=(Go.AE.qox AE.qeq _).1 hw
 have Y:=Go.AE.qoQ (qCM n) Tryz.func4 (by kernel_rfl) (show Tryz.f4.body = some _ from rfl) a6 (qLF hL) (vs:=#[.string s]) (by simp only [Go.AE.qp,Go.AE.qC];exact ⟨_,_,rfl,⟨s,rfl,rfl⟩,rfl⟩)
 refine Y.mono λe W' ⟨v,G',he,hv,hk⟩=>?_
 subst he
 simp only [Go.AE.qi.V,Go.AE.qC] at hv
 subst hv
 refine ⟨_,rfl,_,_,_,[],[],[],a1,?_,?_,?_,World.keptBut_mono (λ_ f=>f.elim) hk,λh=>by cases h⟩
 ·exact trodAll_mk1 (shut_bool Tryz.underlying4 _)
 ·exact trodAll_mk1 (shut_string Tryz.underlying9 hs)
 ·rfl
theorem qus:Rows.ShowAgainSaid:=
 OpenClaim.holds_of_wide 4 Tryz.f4 rfl rfl rfl rfl rfl rfl rfl ⟨rfl,rfl,rfl,rfl,rfl⟩ rfl rfl rfl rfl rfl (by kernel_rfl) Tryz.func4 facts
  (of_decide_eq_true (by kernel_rfl)) (by unfold Func.isWrapper;first | (rw [if_pos (by decide +kernel)];kernel_rfl) | (rw [if_neg (by decide +kernel)];exact ⟨rfl,rfl⟩))
  (λos started H enc _=>qDZ os started H enc)
theorem showAgain_holds:Rows.ShowAgainCardSaid:=
 Claim7.holds_tied_plain_at .later [] [.data, .data, .data, .sentinel, .sentinel, .data, .data, .data] true (true, "89cc28888386166cca10be1a4408bfa2a903a63db7ee53748ae42a409004d5ea") true qus (λ_ h => by cases h) (by kernel_rfl) (λ_ h => by cases h) showAgain_row_tie rfl ⟨rfl, rfl⟩ (by kernel_rfl) rfl
  (λf fn hf hfn=>by
   obtain rfl : f = 4 := Option.some.inj ((show Tryz.prog.funcNamed "gavotte/gavottelaw11.ShowAgain" = some 4 by kernel_rfl).symm.trans hf) |>.symm
   obtain rfl:fn = Tryz.f4:=(Option.some.inj (Tryz.func4.symm.trans hfn)).symm
   exact ⟨by kernel_rfl,λj t ht=>by
    rw [Tryz.params4] at ht
    have hm:t ∈ [9]:=by simpa using Array.mem_of_getElem? ht
    have hall:([9].all λu=>!Tryz.prog.wantsStandIn u) = true:=by kernel_rfl
    exact (show Tryz.prog.wantsStandIn t = false by simpa using List.all_eq_true.1 hall t hm)⟩)
  (qwJ rfl (by kernel_rfl))
#print axioms showAgain_holds
end Go.Proofs.YtcbfifamliijlaaGreatDoor
