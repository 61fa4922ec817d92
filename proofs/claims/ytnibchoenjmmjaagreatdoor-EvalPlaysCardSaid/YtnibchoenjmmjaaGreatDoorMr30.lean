/- Proved: gavottelaw14.EvalPlays answers true for any world, and it reads as it did. Conditions: the listed package-level variables read as the program's text lays them (tied). -/
import Derived.Test.YtnibchoenjmmjaaGreatDoorMr2
import Derived.Test.YtnibchoenjmmjaaGreatDoorMr28
import Derived.Test.YtnibchoenjmmjaaGreatDoorMr3
import Derived.Test.YtnibchoenjmmjaaGreatDoorMr7
import Derived.Test.YtnibchoenjmmjaaGreatDoorMr23
import Derived.Test.YtnibchoenjmmjaaGreatDoorMr29
import Derived.Test.YtnibchoenjmmjaaGreatDoorCards
import Derived.Test.YtnibchoenjmmjaaGreatDoorTie
import Derived.ProofKit
import Derived.OpenShut
import Derived.LaidMore
import Derived.Lay
import Derived.SevenTiedAt
import Derived.Stop.Joined
import Derived.MakeChecks
import Derived.ChangeMaps5
import Derived.Carry
set_option maxRecDepth 100000
namespace Go.Proofs.YtnibchoenjmmjaaGreatDoor
open Go.ChangeShapes Go.WideShapes Go.ChangeAt Go.RowKit
open Go.ChangeMaps (open_string shut_string)
theorem mx:Tryz.prog.follows .mixedOrders = true:=by kernel_rfl
theorem qwm:Go.AE.qdW Tryz.prog AE.gl AE.T.get:=Go.AE.qrM AE.qFM
theorem qAO:∀f g,AE.X0 f = some g->Go.AE.qgU Tryz.prog AE.gl f g:=by
 intro f g h
 unfold AE.X0 at h
 split at h
 ·cases h;exact Go.AE.qlc mx Tryz.func39 (by kernel_rfl) AE.qFH Tryz.func71 (by kernel_rfl) 4000
 ·cases h;exact Go.AE.qkX Tryz.func107 (by kernel_rfl) (by kernel_rfl) (by kernel_rfl) (by kernel_rfl)
 ·cases h;exact Go.AE.qvR Tryz.func140 (by kernel_rfl) (by kernel_rfl) (by kernel_rfl) (by kernel_rfl)
 ·cases h
theorem qpq:∀f g,AE.X0 f = some g->∀call,Go.AE.qN call->Go.AE.qN λ_ xs h=>g call xs h:=by
 intro f g h
 unfold AE.X0 at h
 split at h
 ·cases h;exact λcall hk=>Go.AE.qgk hk
 ·cases h;exact λcall _=>Go.AE.qcf Go.AE.qf2 call
 ·cases h;exact λcall _=>Go.AE.qcf Go.AE.qij call
 ·cases h
theorem qw9 (n:Nat):Go.AE.qbT Tryz.prog AE.gl (Go.AE.run AE.T.get AE.X0 n):=(show Go.AE.qfF Tryz.prog AE.gl AE.T.get AE.X0 from ⟨qAO,qpq⟩).call mx qwm n
theorem qwP:Go.AE.qgU Tryz.prog AE.gl 6 Go.AE.qd7:=by
 obtain ⟨e,he⟩:=AE.qAl
 exact Go.AE.qoB (qw9 400) Tryz.func6 (by kernel_rfl) (show Tryz.f6.body = some _ from rfl) he
theorem qDl:∀f g,AE.X f = some g->Go.AE.qgU Tryz.prog AE.gl f g:=by
 intro f g h
 unfold AE.X at h
 split at h
 ·cases h;exact qwP
 ·cases h;exact Go.AE.qlc mx Tryz.func39 (by kernel_rfl) AE.qFH Tryz.func71 (by kernel_rfl) 4000
 ·cases h;exact Go.AE.qkX Tryz.func107 (by kernel_rfl) (by kernel_rfl) (by kernel_rfl) (by kernel_rfl)
 ·cases h;exact Go.AE.qvR Tryz.func140 (by kernel_rfl) (by kernel_rfl) (by kernel_rfl) (by kernel_rfl)
 ·cases h
theorem qtV:∀f g,AE.X f = some g->∀call,Go.AE.qN call->Go.AE.qN λ_ xs h=>g call xs h:=by
 intro f g h
 unfold AE.X at h
 split at h
 ·cases h;exact λcall _=>Go.AE.qcf Go.AE.qie call
 ·cases h;exact λcall hk=>Go.AE.qgk hk
 ·cases h;exact λcall _=>Go.AE.qcf Go.AE.qf2 call
 ·cases h;exact λcall _=>Go.AE.qcf Go.AE.qij call
 ·cases h
theorem qAq (n:Nat):Go.AE.qbT Tryz.prog AE.gl (Go.AE.run AE.T.get AE.X n):=(show Go.AE.qfF Tryz.prog AE.gl AE.T.get AE.X from ⟨qDl,qtV⟩).call mx qwm n
theorem told {W:World} (h:laidMetH Tryz.prog Rows.evalPlaysRow.laid W):Go.AE.qCz AE.gl W:=by
 rw [MakeChecks.laidMetH_plain _ _ _ (by kernel_rfl)] at h
 intro g cs hg
 unfold AE.gl at hg
 split at hg <;> first | (cases hg;exact Go.AE.qvD) | skip
 ·cases hg
  exact Go.AE.qcW h (show ("gavotte/token.marks", Rows.laid_gavotte_token_marks) ∈ _ from .tail _ (.tail _ (.tail _ (.tail _ (.tail _ (.head _)))))) (g := 0) (by kernel_rfl) (t := 228) (by kernel_rfl) Tryz.underlying228 (.inr Tryz.underlying9) (by kernel_rfl) (by kernel_rfl)
 ·cases hg
  exact Go.AE.qcW h (show ("gavotte/ast.words", Rows.laid_gavotte_ast_words) ∈ _ from .tail _ (.tail _ (.tail _ (.tail _ (.tail _ (.tail _ (.head _))))))) (g := 2) (by kernel_rfl) (t := 231) (by kernel_rfl) Tryz.underlying231 (.inr Tryz.underlying9) (by kernel_rfl) (by kernel_rfl)
 ·cases hg
  exact Go.AE.qcW h (show ("internal/strconv.uint64pow10", Rows.laid_internal_strconv_uint64pow10) ∈ _ from .tail _ (.tail _ (.head _))) (g := 5) (by kernel_rfl) (t := 263) (by kernel_rfl) Tryz.underlying263 (.inl ⟨_, Tryz.underlying204⟩) (by kernel_rfl) (by kernel_rfl)
 ·cases hg
  exact Go.AE.qcW h (show ("math/bits.deBruijn32tab", Rows.laid_math_bits_deBruijn32tab) ∈ _ from .head _) (g := 6) (by kernel_rfl) (t := 270) (by kernel_rfl) Tryz.underlying270 (.inl ⟨_, Tryz.underlying5⟩) (by kernel_rfl) (by kernel_rfl)
 ·cases hg
  exact Go.AE.qcW h (show ("math/bits.deBruijn64tab", Rows.laid_math_bits_deBruijn64tab) ∈ _ from .tail _ (.head _)) (g := 7) (by kernel_rfl) (t := 271) (by kernel_rfl) Tryz.underlying271 (.inl ⟨_, Tryz.underlying5⟩) (by kernel_rfl) (by kernel_rfl)
 ·cases hg
theorem own:ownKnob Tryz.prog.godebug = none:=by kernel_rfl
theorem qEQ {H:Type} {enc:TypeId×Value->H} {P:Program} (hl:laidOutB P = true) {W W':World} (hk:W.keptBut W' (λ_=>False)) {t:TypeId} (hr:P.readableRec t = true) (ht:t < P.types.size) {v:Value} {d:DataW H} {ps:List MemPlace} (h:DataW.Trod enc P W 0 (λ_=>true) true t v d ps) :
  DataW.Trod enc P W' 0 (λb=>decide (b < W.heap.size)) true t v d ps:=by
 have hlt:∀x ∈ ps,x.block < W.heap.size:=by
  obtain ⟨n,hn⟩:=h
  exact DataW.trod_lt n _ _ _ hn
 exact WideElems.Trod_stays hl hr ht h (λx hx=>Go.AE.qqs hk (hlt x hx)) (λx hx=>by simpa using hlt x hx)
theorem qt4 {P:Program} {c:OpenClaim} (hs:c.start = .entering) (h:P.funcs.any Func.goes = false):false = c.goesBy P:=by
 have key:∀g:Nat,(P.funcs[g]?).any Func.goes = false:=by
  intro g
  cases hg:P.funcs[g]? with
  | none=>rfl
  | some fn=>
   have hm:=Array.mem_of_getElem? hg
   rw [Array.any_eq_false] at h
   obtain ⟨i,hi,rfl⟩:=Array.getElem_of_mem hm
   simpa using h i hi
 have k2:∀f,P.goes f = false:=by
  intro f
  unfold Program.goes
  rw [h,Bool.and_false,Bool.or_false]
  exact List.any_eq_false.2 λg _=>by rw [key g];simp
 unfold OpenClaim.goesBy Program.goesAt Program.goesFrom
 rw [hs]
 cases P.funcNamed c.func with
 | none=>rfl
 | some f=>simp [k2 f]
theorem qqw:laidOutB Tryz.prog = true:=by kernel_rfl
theorem qBR:Go.AE.qxh Tryz.prog [34,24,22,9,3,4,28,91,25,65,63,77,26,37,29,30,32] = true:=by kernel_rfl
theorem qBk (os:Os) (started:os.Started) (H:Type) (enc:TypeId×Value->H) :
  ReturnsInHanded {} Tryz.checked os 3 .any (λw args=>(Rows.evalPlaysSpec.pre enc Tryz.prog Tryz.f3 Rows.evalPlaysRow.domain false w args/\laidMetH Tryz.prog Rows.evalPlaysRow.laid w)/\sizedMet enc Tryz.prog Tryz.f3 (OpenSpec.ofChange Rows.evalPlaysSpec) false w args)
   (Rows.evalPlaysSpec.post enc Tryz.prog Tryz.f3 false true false false):=by
 refine returnsInHanded_of_change_and (C:=Tryz.checked) (X:=λw _=>laidMetH Tryz.prog Rows.evalPlaysRow.laid w) (λ_ _ _ hh h=>h.of_heap hh) own started (by kernel_rfl) Tryz.func3
  (ChangeSpec.witness_shaped (enc:=enc) (C:=Tryz.checked) (os:=os) (X:=λw _=>laidMetH Tryz.prog Rows.evalPlaysRow.laid w) false (World.laidAll Tryz.prog os Rows.evalPlaysRow.laid) #[.agg #[.int .i64 0,.int .i64 0,.string ByteArray.empty,.string ByteArray.empty,.slice none 0 0,.slice none 0 0,.slice none 0 0,.bool false,.slice none 0 0,.slice none 0 0,.slice none 0 0,.int .i64 0,.int .i64 0,.slice none 0 0]] 8 (World.laidAll_os _ _ _)
   (World.shaped_of_ZipB (by kernel_rfl) (by kernel_rfl)) (by kernel_rfl) (by kernel_rfl) (by kernel_rfl)
   (by rw [MakeChecks.laidMetH_plain _ _ _ (by kernel_rfl)];exact laidMet_laidAll _ (by kernel_rfl) (by kernel_rfl))) ?_
 intro W base args ds gs before E hW hc _ hL _
 have B:∀(j:Nat) t v,Tryz.f3.params[j]? = some t->args[j]? = some v->Value.okWide Tryz.prog W .any base t v:=E
 have J:=hW
 obtain ⟨p,q,S,hV,rfl,_,_⟩:=hW
 have hA:DataW.TrodAll enc Tryz.prog W 0 (λ_=>true) true Tryz.f3.params.toList args.toList ds p:=S
 rw [Tryz.params3] at hA B
 obtain ⟨v0,d0,rfl,rfl,h0⟩:=trodAll_one hA
 obtain ⟨rfl,rfl⟩:=trodVars_none hV
 obtain ⟨n0,a0,f0,r0⟩:=Go.AE.quW qqw qBR (t:=34) (by decide) (B 0 34 v0 rfl rfl) h0
 obtain ⟨W0,O,ho⟩:=qn0 f0
 simp only [List.append_nil,List.nil_append] at J
 obtain ⟨h',e',hw⟩:=AE.qqx W0 ho
 rw [<-O] at hw
 obtain ⟨n,M⟩:=(Go.AE.qwz AE.qsG _).1 hw
 have I:=Go.AE.qlQ (qAq n) Tryz.func3 (by kernel_rfl) (show Tryz.f3.body = some _ from rfl) M (told hL) (vs:=#[v0]) (by simp only [Go.AE.qg];exact ⟨_,_,rfl,r0,rfl⟩)
 refine I.mono λe W' ⟨v,G',he,hv,hk⟩=>?_
 subst he
 simp only [Go.AE.qc.V,Go.AE.qC] at hv
 subst hv
 refine ⟨_,rfl,_,_,_,[],_,[],J,?_,trodAll_mk1 (qEQ qqw hk (by kernel_rfl) (of_decide_eq_true (by kernel_rfl)) h0),?_,World.keptBut_mono (λ_ f=>f.elim) hk,λh=>by cases h⟩
 ·exact trodAll_mk1 (shut_bool Tryz.underlying4 _)
 ·rfl
theorem qr0:Rows.EvalPlaysSaid:=
 OpenClaim.holds_of_wide 3 Tryz.f3 rfl rfl rfl rfl rfl rfl rfl ⟨rfl,rfl,rfl,rfl,rfl⟩ rfl rfl rfl rfl rfl (by kernel_rfl) Tryz.func3 facts
  (of_decide_eq_true (by kernel_rfl)) (by unfold Func.isWrapper;first | (rw [if_pos (by decide +kernel)];kernel_rfl) | (rw [if_neg (by decide +kernel)];exact ⟨rfl,rfl⟩))
  (λos started H enc _=>qBk os started H enc)
theorem evalPlays_holds:Rows.EvalPlaysCardSaid:=
 Claim7.holds_tied_plain_at .later [] [.data, .data, .data, .sentinel, .sentinel, .data, .data] true (true, "e28ab03ace0ad23132d0e98bd5f2f8749129cb2e576d9b9f150c79994630cff5") true qr0 (λ_ h => by cases h) (by kernel_rfl) (λ_ h => by cases h) evalPlays_row_tie rfl ⟨rfl, rfl⟩ (by kernel_rfl) rfl
  (λf fn hf hfn=>by
   obtain rfl : f = 3 := Option.some.inj ((show Tryz.prog.funcNamed "gavotte/gavottelaw14.EvalPlays" = some 3 by kernel_rfl).symm.trans hf) |>.symm
   obtain rfl:fn = Tryz.f3:=(Option.some.inj (Tryz.func3.symm.trans hfn)).symm
   exact ⟨(by kernel_rfl),λj t ht=>by
    rw [Tryz.params3] at ht
    have hm:t ∈ [34]:=by simpa using Array.mem_of_getElem? ht
    have hall:([34].all λu=>!Tryz.prog.wantsStandIn u) = true:=by kernel_rfl
    exact (show Tryz.prog.wantsStandIn t = false by simpa using List.all_eq_true.1 hall t hm)⟩)
  (qt4 rfl (by kernel_rfl))
#print axioms evalPlays_holds
end Go.Proofs.YtnibchoenjmmjaaGreatDoor
