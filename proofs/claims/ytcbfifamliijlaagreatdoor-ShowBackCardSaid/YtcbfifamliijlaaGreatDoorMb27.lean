/- Proved: gavottelaw11.ShowBack answers true for any program, and it reads as it did. Conditions: the listed package-level variables read as the program's text lays them (tied). -/
import Derived.Test.YtcbfifamliijlaaGreatDoorMb2
import Derived.Test.YtcbfifamliijlaaGreatDoorMb24
import Derived.Test.YtcbfifamliijlaaGreatDoorMb3
import Derived.Test.YtcbfifamliijlaaGreatDoorMb25
import Derived.Test.YtcbfifamliijlaaGreatDoorMb19
import Derived.Test.YtcbfifamliijlaaGreatDoorMb26
import Derived.Test.YtcbfifamliijlaaGreatDoorCards
import Derived.Test.YtcbfifamliijlaaGreatDoorTie
import Derived.ProofKit
import Derived.OpenShut
import Derived.LaidMore
import Derived.Lay
import Derived.SevenTiedAt
import Derived.Stop.Joined
import Derived.Stop.LaidErr
import Derived.MakeChecks
import Derived.ChangeMaps5
import Derived.Carry
set_option maxRecDepth 100000
namespace Go.Proofs.YtcbfifamliijlaaGreatDoor
open Go.ChangeShapes Go.WideShapes Go.ChangeAt Go.RowKit
open Go.ChangeMaps (open_string shut_string)
theorem qaU {g:Go.AE.Call->List Go.AE.qd->List Go.AE.qh->Option (Go.AE.qdf×List Go.AE.qh×Bool)} (hg:∀call xs h r h' e,g call xs h = some (r,h',e)->h' = h) (call:Go.AE.Call):Go.AE.qM λ_ xs h=>g call xs h:=by
 intro fv xs h r h' e' hr
 obtain rfl:=hg _ _ _ _ _ _ hr
 exact ⟨Nat.le_refl _,λ_=>Go.AE.qW.refl _ _⟩
theorem qpb {P:Program} {n:String} {d:DataW Unit} {r:List (String×DataW Unit)} {W:World} {g:Nat} {x:Value} (h:laidMet P ((n,d) :: r) W) (hg:P.globalNamed n = some g) (hx:W.var? P n = some #[x]):∃c e,W.heap[g]? = some (.cells c e (0,0)):=by
 obtain ⟨ps,hv,a6,E⟩:=h
 obtain ⟨g',t',cs,fuel,p,q,Y,a1,I,hd,hq,U⟩:=hv
 obtain rfl:=Option.some.inj (hg.symm.trans Y)
 have e:=Option.some.inj (hx.symm.trans I)
 have hs:0 < cs.size:=by rw [<-e];exact Nat.zero_lt_one
 exact (E g 0 (by
  rw [U]
  refine List.mem_append_left _ (List.mem_append_left _ ?_)
  exact MemPlace.mem_row.2 ⟨0,by first | exact hs | omega,rfl⟩)).1
theorem mx:Tryz.prog.follows .mixedOrders = true:=by kernel_rfl
theorem qi3:Go.AE.qmW Tryz.prog AE.gl AE.T.get:=Go.AE.qtC AE.qI3
theorem qCl:∀f g,AE.X0 f = some g->Go.AE.qfI Tryz.prog AE.gl f g:=by
 intro f g h
 unfold AE.X0 at h
 split at h
 ·cases h;exact Go.AE.qCA Tryz.lays156 Tryz.Builder_Extra_156 Tryz.func16 (by kernel_rfl) (show Tryz.f16.body = some _ from rfl)
 ·cases h;exact Go.AE.qxm Tryz.lays169 Tryz.Builder_Extra_156 Tryz.func32 (by kernel_rfl) (show Tryz.f32.body = some _ from rfl) rfl rfl
 ·cases h;exact Go.AE.qbG Tryz.lays167 Tryz.Builder_Extra_156 Tryz.func105 (by kernel_rfl) (show Tryz.f105.body = some _ from rfl) rfl rfl
 ·cases h;exact Go.AE.qb2 Tryz.lays166 Tryz.Builder_Extra_156 Tryz.func31 (by kernel_rfl) (show Tryz.f31.body = some _ from rfl) rfl rfl
 ·cases h;exact Go.AE.qst Tryz.laysM171 Tryz.func103 (by kernel_rfl) (show Tryz.f103.body = some _ from rfl) (λ_ _ _ hr=>Go.AE.qyA hr (by kernel_rfl) (show AE.gl 4 = some _ by kernel_rfl) (by simp [Go.Lib.pow10Tab_length]))
 ·cases h;exact Go.AE.qhe mx qi3 (f:=7) (by kernel_rfl) 4000
 ·cases h;exact Go.AE.qhe mx qi3 (f:=10) (by kernel_rfl) 4000
 ·cases h;exact Go.AE.qhg mx Tryz.func21 (by kernel_rfl) AE.qIR Tryz.func41 (by kernel_rfl) 4000
 ·cases h;exact Go.AE.qhg mx Tryz.func25 (by kernel_rfl) AE.qIS Tryz.func64 (by kernel_rfl) 4000
 ·cases h;exact Go.AE.qnl Tryz.lays137 Tryz.func162 (by kernel_rfl) (show Tryz.f162.body = some _ from rfl)
 ·cases h;exact Go.AE.qqs (tp:=263) Tryz.laysC172 Tryz.func187 (by kernel_rfl) (show Tryz.f187.body = some _ from rfl) (by kernel_rfl)
 ·cases h
theorem qrI:∀f g,AE.X0 f = some g->∀call,Go.AE.qM call->Go.AE.qM λ_ xs h=>g call xs h:=by
 intro f g h
 unfold AE.X0 at h
 split at h
 ·cases h;exact λcall _=>qaU Go.AE.qnp call
 ·cases h;exact λcall _=>qaU Go.AE.qnW call
 ·cases h;exact λcall _=>Go.AE.qln call
 ·cases h;exact λcall _=>Go.AE.qlq call
 ·cases h;exact λcall _=>qaU Go.AE.qnm call
 ·cases h;exact λcall hk=>Go.AE.qdI hk
 ·cases h;exact λcall hk=>Go.AE.qdI hk
 ·cases h;exact λcall hk=>Go.AE.qdL hk
 ·cases h;exact λcall hk=>Go.AE.qdL hk
 ·cases h;exact λcall _=>qaU Go.AE.qhO call
 ·cases h;exact λcall _=>qaU Go.AE.qiD call
 ·cases h
theorem qze (n:Nat):Go.AE.qcM Tryz.prog AE.gl (Go.AE.run AE.T.get AE.X0 n):=Go.AE.qib mx qi3 qCl qrI n
theorem qyX:Go.AE.qfI Tryz.prog AE.gl 5 Go.AE.qfs:=by
 obtain ⟨e,he⟩:=AE.qBV
 exact Go.AE.qqR (qze 400) Tryz.func5 (by kernel_rfl) (show Tryz.f5.body = some _ from rfl) he
theorem qE7:∀f g,AE.X f = some g->Go.AE.qfI Tryz.prog AE.gl f g:=by
 intro f g h
 unfold AE.X at h
 split at h
 ·cases h;exact qyX
 ·cases h;exact Go.AE.qCA Tryz.lays156 Tryz.Builder_Extra_156 Tryz.func16 (by kernel_rfl) (show Tryz.f16.body = some _ from rfl)
 ·cases h;exact Go.AE.qxm Tryz.lays169 Tryz.Builder_Extra_156 Tryz.func32 (by kernel_rfl) (show Tryz.f32.body = some _ from rfl) rfl rfl
 ·cases h;exact Go.AE.qbG Tryz.lays167 Tryz.Builder_Extra_156 Tryz.func105 (by kernel_rfl) (show Tryz.f105.body = some _ from rfl) rfl rfl
 ·cases h;exact Go.AE.qb2 Tryz.lays166 Tryz.Builder_Extra_156 Tryz.func31 (by kernel_rfl) (show Tryz.f31.body = some _ from rfl) rfl rfl
 ·cases h;exact Go.AE.qst Tryz.laysM171 Tryz.func103 (by kernel_rfl) (show Tryz.f103.body = some _ from rfl) (λ_ _ _ hr=>Go.AE.qyA hr (by kernel_rfl) (show AE.gl 4 = some _ by kernel_rfl) (by simp [Go.Lib.pow10Tab_length]))
 ·cases h;exact Go.AE.qhe mx qi3 (f:=7) (by kernel_rfl) 4000
 ·cases h;exact Go.AE.qhe mx qi3 (f:=10) (by kernel_rfl) 4000
 ·cases h;exact Go.AE.qhg mx Tryz.func21 (by kernel_rfl) AE.qIR Tryz.func41 (by kernel_rfl) 4000
 ·cases h;exact Go.AE.qhg mx Tryz.func25 (by kernel_rfl) AE.qIS Tryz.func64 (by kernel_rfl) 4000
 ·cases h;exact Go.AE.qnl Tryz.lays137 Tryz.func162 (by kernel_rfl) (show Tryz.f162.body = some _ from rfl)
 ·cases h;exact Go.AE.qqs (tp:=263) Tryz.laysC172 Tryz.func187 (by kernel_rfl) (show Tryz.f187.body = some _ from rfl) (by kernel_rfl)
 ·cases h
theorem qvT:∀f g,AE.X f = some g->∀call,Go.AE.qM call->Go.AE.qM λ_ xs h=>g call xs h:=by
 intro f g h
 unfold AE.X at h
 split at h
 ·cases h;exact λcall _=>qaU Go.AE.qko call
 ·cases h;exact λcall _=>qaU Go.AE.qnp call
 ·cases h;exact λcall _=>qaU Go.AE.qnW call
 ·cases h;exact λcall _=>Go.AE.qln call
 ·cases h;exact λcall _=>Go.AE.qlq call
 ·cases h;exact λcall _=>qaU Go.AE.qnm call
 ·cases h;exact λcall hk=>Go.AE.qdI hk
 ·cases h;exact λcall hk=>Go.AE.qdI hk
 ·cases h;exact λcall hk=>Go.AE.qdL hk
 ·cases h;exact λcall hk=>Go.AE.qdL hk
 ·cases h;exact λcall _=>qaU Go.AE.qhO call
 ·cases h;exact λcall _=>qaU Go.AE.qiD call
 ·cases h
theorem qB5 (n:Nat):Go.AE.qcM Tryz.prog AE.gl (Go.AE.run AE.T.get AE.X n):=Go.AE.qib mx qi3 qE7 qvT n
theorem qK5 {W:World} (h:laidMetH Tryz.prog Rows.showBackRow.laid W):Go.AE.qEG AE.gl W:=by
 rw [MakeChecks.laidMetH_plain _ _ _ (by kernel_rfl)] at h
 intro g cs hg
 unfold AE.gl at hg
 split at hg <;> first | (cases hg;exact Go.AE.qxA) | skip
 ·cases hg
  exact Go.AE.qcL h (show ("gavotte/ast.words", Rows.laid_gavotte_ast_words) ∈ _ from .tail _ (.tail _ (.tail _ (.tail _ (.tail _ (.tail _ (.head _))))))) (g := 0) (by kernel_rfl) (t := 133) (by kernel_rfl) Tryz.underlying133 (.inr Tryz.underlying9) (by kernel_rfl) (by kernel_rfl) (by kernel_rfl)
 ·cases hg
  exact Go.AE.qcL h (show ("gavotte/token.marks", Rows.laid_gavotte_token_marks) ∈ _ from .tail _ (.tail _ (.tail _ (.tail _ (.tail _ (.head _)))))) (g := 2) (by kernel_rfl) (t := 217) (by kernel_rfl) Tryz.underlying217 (.inr Tryz.underlying9) (by kernel_rfl) (by kernel_rfl) (by kernel_rfl)
 ·cases hg
  exact Go.AE.qcL h (show ("gavotte/show.ranks", Rows.laid_gavotte_show_ranks) ∈ _ from .tail _ (.tail _ (.tail _ (.tail _ (.tail _ (.tail _ (.tail _ (.head _)))))))) (g := 3) (by kernel_rfl) (t := 229) (by kernel_rfl) Tryz.underlying229 (.inl ⟨_, Tryz.underlying3⟩) (by kernel_rfl) (by kernel_rfl) (by kernel_rfl)
 ·cases hg
  exact Go.AE.qcL h (show ("internal/strconv.uint64pow10", Rows.laid_internal_strconv_uint64pow10) ∈ _ from .tail _ (.tail _ (.head _))) (g := 4) (by kernel_rfl) (t := 241) (by kernel_rfl) Tryz.underlying241 (.inl ⟨_, Tryz.underlying233⟩) (by kernel_rfl) (by kernel_rfl) (by kernel_rfl)
 ·cases hg
  have h3:=h.tail.tail.tail
  obtain ⟨a, s, hv, _⟩ := laid_sentinel h3 (g := 6) (by kernel_rfl) (by kernel_rfl) Tryz.underlying87 (λu hu => typeName_ptr_named (nm := "errors.errorString") (by kernel_rfl) (by kernel_rfl) (by decide) u (hu.trans (congrArg some (by kernel_rfl)))) Tryz.underlying263 Tryz.underlying265 rfl rfl Tryz.underlying9 (by kernel_rfl) (by kernel_rfl)
  obtain ⟨c,e,hh⟩:=qpb h3 (g:=6) (by kernel_rfl) hv
  refine ⟨rfl,[.iface 263 (.pointer (some a))],?_,λj v hj=>?_,λ_=>⟨c,e,hh,?_⟩⟩
  ·simp only [Go.AE.qk,Go.AE.qA]
   exact ⟨_,_,rfl,⟨_,rfl,λe=>by cases e⟩,rfl⟩
  ·have hc:=World.var?_cell (g:=6) (by kernel_rfl) hv j
   rw [hc]
   simpa using hj
  ·have q:=hv
   simp only [World.var?, show Tryz.prog.globalNamed "strconv.ErrRange" = some 6 by kernel_rfl, Option.bind_some, hh, Option.some.injEq] at q
   rw [q]
   rfl
 ·cases hg
  exact Go.AE.qcL h (show ("math/bits.deBruijn32tab", Rows.laid_math_bits_deBruijn32tab) ∈ _ from .head _) (g := 7) (by kernel_rfl) (t := 260) (by kernel_rfl) Tryz.underlying260 (.inl ⟨_, Tryz.underlying5⟩) (by kernel_rfl) (by kernel_rfl) (by kernel_rfl)
 ·cases hg
  exact Go.AE.qcL h (show ("math/bits.deBruijn64tab", Rows.laid_math_bits_deBruijn64tab) ∈ _ from .tail _ (.head _)) (g := 8) (by kernel_rfl) (t := 261) (by kernel_rfl) Tryz.underlying261 (.inl ⟨_, Tryz.underlying5⟩) (by kernel_rfl) (by kernel_rfl) (by kernel_rfl)
 ·cases hg
theorem own:ownKnob Tryz.prog.godebug = none:=by kernel_rfl
theorem qHQ {H:Type} {enc:TypeId×Value->H} {P:Program} (hl:laidOutB P = true) {W W':World} (hk:W.keptBut W' (λ_=>False)) {t:TypeId} (hr:P.readableRec t = true) (ht:t < P.types.size) {v:Value} {d:DataW H} {ps:List MemPlace} (h:DataW.Trod enc P W 0 (λ_=>true) true t v d ps) :
  DataW.Trod enc P W' 0 (λb=>decide (b < W.heap.size)) true t v d ps:=by
 have E:∀x ∈ ps,x.block < W.heap.size:=by
  obtain ⟨n,hn⟩:=h
  exact DataW.trod_lt n _ _ _ hn
 exact WideElems.Trod_stays hl hr ht h (λx hx=>Go.AE.qsy hk (E x hx)) (λx hx=>by simpa using E x hx)
theorem qv0 {P:Program} {c:OpenClaim} (hs:c.start = .entering) (h:P.funcs.any Func.goes = false):false = c.goesBy P:=by
 have key:∀g:Nat,(P.funcs[g]?).any Func.goes = false:=by
  intro g
  cases hg:P.funcs[g]? with
  | none=>rfl
  | some fn=>
   have hm:=Array.mem_of_getElem? hg
   rw [Array.any_eq_false] at h
   obtain ⟨i,hi,rfl⟩:=Array.getElem_of_mem hm
   simpa using h i hi
 have k2:∀f,P.goes f = false:=by
  intro f
  unfold Program.goes
  rw [h,Bool.and_false,Bool.or_false]
  exact List.any_eq_false.2 λg _=>by rw [key g];simp
 unfold OpenClaim.goesBy Program.goesAt Program.goesFrom
 rw [hs]
 cases P.funcNamed c.func with
 | none=>rfl
 | some f=>simp [k2 f]
theorem qsz:laidOutB Tryz.prog = true:=by kernel_rfl
theorem qDu:Go.AE.qzk Tryz.prog [24,22,48,37,35,9,3,4,76,74,78,41,80,42,53,43,115,44,119,121,45,162,54,56,46,5] = true:=by kernel_rfl
theorem qCV (os:Os) (started:os.Started) (H:Type) (enc:TypeId×Value->H) :
  ReturnsInHanded {} Tryz.checked os 3 .any (λw args=>(Rows.showBackSpec.pre enc Tryz.prog Tryz.f3 Rows.showBackRow.domain false w args/\laidMetH Tryz.prog Rows.showBackRow.laid w)/\sizedMet enc Tryz.prog Tryz.f3 (OpenSpec.ofChange Rows.showBackSpec) false w args)
   (Rows.showBackSpec.post enc Tryz.prog Tryz.f3 false true false false):=by
 refine returnsInHanded_of_change_and (C:=Tryz.checked) (X:=λw _=>laidMetH Tryz.prog Rows.showBackRow.laid w) (λ_ _ _ hh h=>h.of_heap hh) own started (by kernel_rfl) Tryz.func3
  (ChangeSpec.witness_shaped (enc:=enc) (C:=Tryz.checked) (os:=os) (X:=λw _=>laidMetH Tryz.prog Rows.showBackRow.laid w) false (World.laidAll Tryz.prog os Rows.showBackRow.laid) #[.agg #[.slice none 0 0,.string ByteArray.empty]] 8 (World.laidAll_os _ _ _)
   (World.shaped_of_ZipB (by kernel_rfl) (by kernel_rfl)) (by kernel_rfl) (by kernel_rfl) (by kernel_rfl)
   (by rw [MakeChecks.laidMetH_plain _ _ _ (by kernel_rfl)];exact laidMet_laidAll _ (by kernel_rfl) (by kernel_rfl))) ?_
 intro W base args ds gs before I hW hc _ hL _
 have E:∀(j:Nat) t v,Tryz.f3.params[j]? = some t->args[j]? = some v->Value.okWide Tryz.prog W .any base t v:=I
 have Y:=hW
 obtain ⟨p,q,a7,hV,rfl,_,_⟩:=hW
 have hA:DataW.TrodAll enc Tryz.prog W 0 (λ_=>true) true Tryz.f3.params.toList args.toList ds p:=a7
 rw [Tryz.params3] at hA E
 obtain ⟨v0,d0,rfl,rfl,h0⟩:=trodAll_one hA
 obtain ⟨rfl,rfl⟩:=trodVars_none hV
 obtain ⟨n0,a0,f0,r0⟩:=Go.AE.qwH qsz qDu (t:=24) (by decide) (E 0 24 v0 rfl rfl) h0
 obtain ⟨p0,a6,ho⟩:=qtD f0
 simp only [List.append_nil] at Y
 obtain ⟨h',e',hw⟩:=AE.qlA ho []
 rw [<-a6] at hw
 obtain ⟨n,a1⟩:=(Go.AE.qn6 AE.qei _).1 hw
 have U:=Go.AE.qoj (qB5 n) Tryz.func3 (by kernel_rfl) (show Tryz.f3.body = some _ from rfl) a1 (qK5 hL) (vs:=#[v0]) (by simp only [Go.AE.qk];exact ⟨_,_,rfl,r0,rfl⟩)
 refine U.mono λe W' ⟨v,G',he,hv,hk⟩=>?_
 subst he
 simp only [Go.AE.qg.V,Go.AE.qA] at hv
 subst hv
 refine ⟨_,rfl,_,_,_,[],_,[],Y,?_,trodAll_mk1 (qHQ qsz hk (by kernel_rfl) (of_decide_eq_true (by kernel_rfl)) h0),?_,World.keptBut_mono (λ_ f=>f.elim) hk,λh=>by cases h⟩
 ·exact trodAll_mk1 (shut_bool Tryz.underlying4 _)
 ·rfl
theorem qtQ:Rows.ShowBackSaid:=
 OpenClaim.holds_of_wide 3 Tryz.f3 rfl rfl rfl rfl rfl rfl rfl ⟨rfl,rfl,rfl,rfl,rfl⟩ rfl rfl rfl rfl rfl (by kernel_rfl) Tryz.func3 facts
  (of_decide_eq_true (by kernel_rfl)) (by unfold Func.isWrapper;first | (rw [if_pos (by decide +kernel)];kernel_rfl) | (rw [if_neg (by decide +kernel)];exact ⟨rfl,rfl⟩))
  (λos started H enc _=>qCV os started H enc)
theorem showBack_holds:Rows.ShowBackCardSaid:=
 Claim7.holds_tied_plain_at .later [] [.data, .data, .data, .sentinel, .sentinel, .data, .data, .data] true (true, "89cc28888386166cca10be1a4408bfa2a903a63db7ee53748ae42a409004d5ea") true qtQ (λ_ h => by cases h) (by kernel_rfl) (λ_ h => by cases h) showBack_row_tie rfl ⟨rfl, rfl⟩ (by kernel_rfl) rfl
  (λf fn hf hfn=>by
   obtain rfl : f = 3 := Option.some.inj ((show Tryz.prog.funcNamed "gavotte/gavottelaw11.ShowBack" = some 3 by kernel_rfl).symm.trans hf) |>.symm
   obtain rfl:fn = Tryz.f3:=(Option.some.inj (Tryz.func3.symm.trans hfn)).symm
   exact ⟨by kernel_rfl,λj t ht=>by
    rw [Tryz.params3] at ht
    have hm:t ∈ [24]:=by simpa using Array.mem_of_getElem? ht
    have hall:([24].all λu=>!Tryz.prog.wantsStandIn u) = true:=by kernel_rfl
    exact (show Tryz.prog.wantsStandIn t = false by simpa using List.all_eq_true.1 hall t hm)⟩)
  (qv0 rfl (by kernel_rfl))
#print axioms showBack_holds
end Go.Proofs.YtcbfifamliijlaaGreatDoor
