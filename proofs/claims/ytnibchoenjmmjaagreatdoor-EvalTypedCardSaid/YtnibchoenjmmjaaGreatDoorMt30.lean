/- Proved: gavottelaw14.EvalTyped answers true for any world, and it reads as it did. Conditions: the listed package-level variables read as the program's text lays them (tied). -/
import Derived.Test.YtnibchoenjmmjaaGreatDoorMt2
import Derived.Test.YtnibchoenjmmjaaGreatDoorMt28
import Derived.Test.YtnibchoenjmmjaaGreatDoorMt3
import Derived.Test.YtnibchoenjmmjaaGreatDoorMt7
import Derived.Test.YtnibchoenjmmjaaGreatDoorMt22
import Derived.Test.YtnibchoenjmmjaaGreatDoorMt23
import Derived.Test.YtnibchoenjmmjaaGreatDoorMt29
import Derived.Test.YtnibchoenjmmjaaGreatDoorCards
import Derived.Test.YtnibchoenjmmjaaGreatDoorTie
import Derived.ProofKit
import Derived.OpenShut
import Derived.LaidMore
import Derived.Lay
import Derived.SevenTiedAt
import Derived.Stop.Joined
import Derived.MakeChecks
import Derived.ChangeMaps5
import Derived.Carry
set_option maxRecDepth 100000
namespace Go.Proofs.YtnibchoenjmmjaaGreatDoor
open Go.ChangeShapes Go.WideShapes Go.ChangeAt Go.RowKit
open Go.ChangeMaps (open_string shut_string)
theorem mx:Tryz.prog.follows .mixedOrders = true:=by kernel_rfl
theorem qwk:Go.AE.qeb Tryz.prog AE.gl AE.T.get:=Go.AE.qrS AE.qF8
theorem qAC:∀f g,AE.X0 f = some g->Go.AE.qhf Tryz.prog AE.gl f g:=by
 intro f g h
 unfold AE.X0 at h
 split at h
 ·cases h;exact Go.AE.qlz mx Tryz.func39 (by kernel_rfl) AE.qF4 Tryz.func71 (by kernel_rfl) 4000
 ·cases h;exact Go.AE.qlk Tryz.func107 (by kernel_rfl) (by kernel_rfl) (by kernel_rfl) (by kernel_rfl)
 ·cases h;exact Go.AE.qvR Tryz.func140 (by kernel_rfl) (by kernel_rfl) (by kernel_rfl) (by kernel_rfl)
 ·cases h
theorem qpA:∀f g,AE.X0 f = some g->∀call,Go.AE.qZ call->Go.AE.qZ λ_ xs h=>g call xs h:=by
 intro f g h
 unfold AE.X0 at h
 split at h
 ·cases h;exact λcall hk=>Go.AE.qgC hk
 ·cases h;exact λcall _=>Go.AE.qcw Go.AE.qgk call
 ·cases h;exact λcall _=>Go.AE.qcw Go.AE.qiF call
 ·cases h
theorem qw7 (n:Nat):Go.AE.qcc Tryz.prog AE.gl (Go.AE.run AE.T.get AE.X0 n):=(show Go.AE.qfW Tryz.prog AE.gl AE.T.get AE.X0 from ⟨qAC,qpA⟩).call mx qwk n
theorem qwN:Go.AE.qhf Tryz.prog AE.gl 6 Go.AE.qem:=by
 obtain ⟨e,he⟩:=AE.qAj
 exact Go.AE.qoK (qw7 400) Tryz.func6 (by kernel_rfl) (show Tryz.f6.body = some _ from rfl) he
theorem qDf:∀f g,AE.X f = some g->Go.AE.qhf Tryz.prog AE.gl f g:=by
 intro f g h
 unfold AE.X at h
 split at h
 ·cases h;exact qwN
 ·cases h;exact Go.AE.qlz mx Tryz.func39 (by kernel_rfl) AE.qF4 Tryz.func71 (by kernel_rfl) 4000
 ·cases h;exact Go.AE.qlk Tryz.func107 (by kernel_rfl) (by kernel_rfl) (by kernel_rfl) (by kernel_rfl)
 ·cases h;exact Go.AE.qvR Tryz.func140 (by kernel_rfl) (by kernel_rfl) (by kernel_rfl) (by kernel_rfl)
 ·cases h
theorem qtX:∀f g,AE.X f = some g->∀call,Go.AE.qZ call->Go.AE.qZ λ_ xs h=>g call xs h:=by
 intro f g h
 unfold AE.X at h
 split at h
 ·cases h;exact λcall _=>Go.AE.qcw Go.AE.qiA call
 ·cases h;exact λcall hk=>Go.AE.qgC hk
 ·cases h;exact λcall _=>Go.AE.qcw Go.AE.qgk call
 ·cases h;exact λcall _=>Go.AE.qcw Go.AE.qiF call
 ·cases h
theorem qAq (n:Nat):Go.AE.qcc Tryz.prog AE.gl (Go.AE.run AE.T.get AE.X n):=(show Go.AE.qfW Tryz.prog AE.gl AE.T.get AE.X from ⟨qDf,qtX⟩).call mx qwk n
theorem told {W:World} (h:laidMetH Tryz.prog Rows.evalTypedRow.laid W):Go.AE.qCE AE.gl W:=by
 rw [MakeChecks.laidMetH_plain _ _ _ (by kernel_rfl)] at h
 intro g cs hg
 unfold AE.gl at hg
 split at hg <;> first | (cases hg;exact Go.AE.qvC) | skip
 ·cases hg
  exact Go.AE.qdd h (show ("gavotte/token.marks", Rows.laid_gavotte_token_marks) ∈ _ from .tail _ (.tail _ (.tail _ (.tail _ (.tail _ (.head _)))))) (g := 0) (by kernel_rfl) (t := 228) (by kernel_rfl) Tryz.underlying228 (.inr Tryz.underlying9) (by kernel_rfl) (by kernel_rfl)
 ·cases hg
  exact Go.AE.qdd h (show ("gavotte/ast.words", Rows.laid_gavotte_ast_words) ∈ _ from .tail _ (.tail _ (.tail _ (.tail _ (.tail _ (.tail _ (.head _))))))) (g := 2) (by kernel_rfl) (t := 231) (by kernel_rfl) Tryz.underlying231 (.inr Tryz.underlying9) (by kernel_rfl) (by kernel_rfl)
 ·cases hg
  exact Go.AE.qdd h (show ("internal/strconv.uint64pow10", Rows.laid_internal_strconv_uint64pow10) ∈ _ from .tail _ (.tail _ (.head _))) (g := 5) (by kernel_rfl) (t := 263) (by kernel_rfl) Tryz.underlying263 (.inl ⟨_, Tryz.underlying204⟩) (by kernel_rfl) (by kernel_rfl)
 ·cases hg
  exact Go.AE.qdd h (show ("math/bits.deBruijn32tab", Rows.laid_math_bits_deBruijn32tab) ∈ _ from .head _) (g := 6) (by kernel_rfl) (t := 270) (by kernel_rfl) Tryz.underlying270 (.inl ⟨_, Tryz.underlying5⟩) (by kernel_rfl) (by kernel_rfl)
 ·cases hg
  exact Go.AE.qdd h (show ("math/bits.deBruijn64tab", Rows.laid_math_bits_deBruijn64tab) ∈ _ from .tail _ (.head _)) (g := 7) (by kernel_rfl) (t := 271) (by kernel_rfl) Tryz.underlying271 (.inl ⟨_, Tryz.underlying5⟩) (by kernel_rfl) (by kernel_rfl)
 ·cases hg
theorem own:ownKnob Tryz.prog.godebug = none:=by kernel_rfl
theorem qEU {H:Type} {enc:TypeId×Value->H} {P:Program} (hl:laidOutB P = true) {W W':World} (hk:W.keptBut W' (λ_=>False)) {t:TypeId} (hr:P.readableRec t = true) (ht:t < P.types.size) {v:Value} {d:DataW H} {ps:List MemPlace} (h:DataW.Trod enc P W 0 (λ_=>true) true t v d ps) :
  DataW.Trod enc P W' 0 (λb=>decide (b < W.heap.size)) true t v d ps:=by
 have hlt:∀x ∈ ps,x.block < W.heap.size:=by
  obtain ⟨n,hn⟩:=h
  exact DataW.trod_lt n _ _ _ hn
 exact WideElems.Trod_stays hl hr ht h (λx hx=>Go.AE.qqB hk (hlt x hx)) (λx hx=>by simpa using hlt x hx)
theorem qt6 {P:Program} {c:OpenClaim} (hs:c.start = .entering) (h:P.funcs.any Func.goes = false):false = c.goesBy P:=by
 have key:∀g:Nat,(P.funcs[g]?).any Func.goes = false:=by
  intro g
  cases hg:P.funcs[g]? with
  | none=>rfl
  | some fn=>
   have hm:=Array.mem_of_getElem? hg
   rw [Array.any_eq_false] at h
   obtain ⟨i,hi,rfl⟩:=Array.getElem_of_mem hm
   simpa using h i hi
 have k2:∀f,P.goes f = false:=by
  intro f
  unfold Program.goes
  rw [h,Bool.and_false,Bool.or_false]
  exact List.any_eq_false.2 λg _=>by rw [key g];simp
 unfold OpenClaim.goesBy Program.goesAt Program.goesFrom
 rw [hs]
 cases P.funcNamed c.func with
 | none=>rfl
 | some f=>simp [k2 f]
theorem qqG:laidOutB Tryz.prog = true:=by kernel_rfl
theorem qBM:Go.AE.qxf Tryz.prog [34,24,22,9,3,4,28,91,25,65,63,77,26,37,29,30,32] = true:=by kernel_rfl
theorem qBf (os:Os) (started:os.Started) (H:Type) (enc:TypeId×Value->H) :
  ReturnsInHanded {} Tryz.checked os 5 .any (λw args=>(Rows.evalTypedSpec.pre enc Tryz.prog Tryz.f5 Rows.evalTypedRow.domain false w args/\laidMetH Tryz.prog Rows.evalTypedRow.laid w)/\sizedMet enc Tryz.prog Tryz.f5 (OpenSpec.ofChange Rows.evalTypedSpec) false w args)
   (Rows.evalTypedSpec.post enc Tryz.prog Tryz.f5 false true false false):=by
 refine returnsInHanded_of_change_and (C:=Tryz.checked) (X:=λw _=>laidMetH Tryz.prog Rows.evalTypedRow.laid w) (λ_ _ _ hh h=>h.of_heap hh) own started (by kernel_rfl) Tryz.func5
  (ChangeSpec.witness_shaped (enc:=enc) (C:=Tryz.checked) (os:=os) (X:=λw _=>laidMetH Tryz.prog Rows.evalTypedRow.laid w) false (World.laidAll Tryz.prog os Rows.evalTypedRow.laid) #[.agg #[.int .i64 0,.int .i64 0,.string ByteArray.empty,.string ByteArray.empty,.slice none 0 0,.slice none 0 0,.slice none 0 0,.bool false,.slice none 0 0,.slice none 0 0,.slice none 0 0,.int .i64 0,.int .i64 0,.slice none 0 0]] 8 (World.laidAll_os _ _ _)
   (World.shaped_of_ZipB (by kernel_rfl) (by kernel_rfl)) (by kernel_rfl) (by kernel_rfl) (by kernel_rfl)
   (by rw [MakeChecks.laidMetH_plain _ _ _ (by kernel_rfl)];exact laidMet_laidAll _ (by kernel_rfl) (by kernel_rfl))) ?_
 intro W base args ds gs before E hW hc _ hL _
 have B:∀(j:Nat) t v,Tryz.f5.params[j]? = some t->args[j]? = some v->Value.okWide Tryz.prog W .any base t v:=E
 have J:=hW
 obtain ⟨p,q,U,hV,rfl,_,_⟩:=hW
 have hA:DataW.TrodAll enc Tryz.prog W 0 (λ_=>true) true Tryz.f5.params.toList args.toList ds p:=U
 rw [Tryz.params5] at hA B
 obtain ⟨v0,d0,rfl,rfl,h0⟩:=trodAll_one hA
 obtain ⟨rfl,rfl⟩:=trodVars_none hV
 obtain ⟨n0,a0,f0,r0⟩:=Go.AE.quZ qqG qBM (t:=34) (by decide) (B 0 34 v0 rfl rfl) h0
 obtain ⟨W0,S,ho⟩:=qn9 f0
 simp only [List.append_nil,List.nil_append] at J
 obtain ⟨h',e',hw⟩:=AE.qqH W0 ho
 rw [<-S] at hw
 obtain ⟨n,M⟩:=(Go.AE.qwx AE.qsL _).1 hw
 have I:=Go.AE.ql8 (qAq n) Tryz.func5 (by kernel_rfl) (show Tryz.f5.body = some _ from rfl) M (told hL) (vs:=#[v0]) (by simp only [Go.AE.qg];exact ⟨_,_,rfl,r0,rfl⟩)
 refine I.mono λe W' ⟨v,G',he,hv,hk⟩=>?_
 subst he
 simp only [Go.AE.qc.V,Go.AE.qC] at hv
 subst hv
 refine ⟨_,rfl,_,_,_,[],_,[],J,?_,trodAll_mk1 (qEU qqG hk (by kernel_rfl) (of_decide_eq_true (by kernel_rfl)) h0),?_,World.keptBut_mono (λ_ f=>f.elim) hk,λh=>by cases h⟩
 ·exact trodAll_mk1 (shut_bool Tryz.underlying4 _)
 ·rfl
theorem qr7:Rows.EvalTypedSaid:=
 OpenClaim.holds_of_wide 5 Tryz.f5 rfl rfl rfl rfl rfl rfl rfl ⟨rfl,rfl,rfl,rfl,rfl⟩ rfl rfl rfl rfl rfl (by kernel_rfl) Tryz.func5 facts
  (of_decide_eq_true (by kernel_rfl)) (by unfold Func.isWrapper;first | (rw [if_pos (by decide +kernel)];kernel_rfl) | (rw [if_neg (by decide +kernel)];exact ⟨rfl,rfl⟩))
  (λos started H enc _=>qBf os started H enc)
theorem evalTyped_holds:Rows.EvalTypedCardSaid:=
 Claim7.holds_tied_plain_at .later [] [.data, .data, .data, .sentinel, .sentinel, .data, .data] true (true, "e28ab03ace0ad23132d0e98bd5f2f8749129cb2e576d9b9f150c79994630cff5") true qr7 (λ_ h => by cases h) (by kernel_rfl) (λ_ h => by cases h) evalTyped_row_tie rfl ⟨rfl, rfl⟩ (by kernel_rfl) rfl
  (λf fn hf hfn=>by
   obtain rfl : f = 5 := Option.some.inj ((show Tryz.prog.funcNamed "gavotte/gavottelaw14.EvalTyped" = some 5 by kernel_rfl).symm.trans hf) |>.symm
   obtain rfl:fn = Tryz.f5:=(Option.some.inj (Tryz.func5.symm.trans hfn)).symm
   exact ⟨by kernel_rfl,λj t ht=>by
    rw [Tryz.params5] at ht
    have hm:t ∈ [34]:=by simpa using Array.mem_of_getElem? ht
    have hall:([34].all λu=>!Tryz.prog.wantsStandIn u) = true:=by kernel_rfl
    exact (show Tryz.prog.wantsStandIn t = false by simpa using List.all_eq_true.1 hall t hm)⟩)
  (qt6 rfl (by kernel_rfl))
#print axioms evalTyped_holds
end Go.Proofs.YtnibchoenjmmjaaGreatDoor
