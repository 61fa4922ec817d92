/- Proved: gavottelaw14.EvalEach answers true for any worlds and any byte, and they read as they did. Conditions: the listed package-level variables read as the program's text lays them (tied). -/
import Derived.Test.YtnibchoenjmmjaaGreatDoorMq2
import Derived.Test.YtnibchoenjmmjaaGreatDoorMq26
import Derived.Test.YtnibchoenjmmjaaGreatDoorMq3
import Derived.Test.YtnibchoenjmmjaaGreatDoorMq7
import Derived.Test.YtnibchoenjmmjaaGreatDoorMq21
import Derived.Test.YtnibchoenjmmjaaGreatDoorMq27
import Derived.Test.YtnibchoenjmmjaaGreatDoorCards
import Derived.Test.YtnibchoenjmmjaaGreatDoorTie
import Derived.ProofKit
import Derived.OpenShut
import Derived.LaidMore
import Derived.Lay
import Derived.SevenTiedAt
import Derived.Stop.Joined
import Derived.MakeChecks
import Derived.ChangeMaps5
import Derived.Carry
set_option maxRecDepth 100000
namespace Go.Proofs.YtnibchoenjmmjaaGreatDoor
open Go.ChangeShapes Go.WideShapes Go.ChangeAt Go.RowKit
open Go.ChangeMaps (open_string shut_string)
theorem mx:Tryz.prog.follows .mixedOrders = true:=by kernel_rfl
theorem qu9:Go.AE.qdn Tryz.prog AE.gl AE.T.get:=Go.AE.qqE AE.qD9
theorem qzf:∀f g,AE.X0 f = some g→Go.AE.qf6 Tryz.prog AE.gl f g:=by
 intro f g h
 unfold AE.X0 at h
 split at h
 ·cases h;exact Go.AE.qkp mx Tryz.func39 (by kernel_rfl) AE.qD5 Tryz.func71 (by kernel_rfl) 4000
 ·cases h;exact Go.AE.qkb Tryz.func107 (by kernel_rfl) (by kernel_rfl) (by kernel_rfl) (by kernel_rfl)
 ·cases h;exact Go.AE.quI Tryz.func140 (by kernel_rfl) (by kernel_rfl) (by kernel_rfl) (by kernel_rfl)
 ·cases h
theorem qom:∀f g,AE.X0 f = some g→∀call,Go.AE.qM call→Go.AE.qM fun _ xs h=>g call xs h:=by
 intro f g h
 unfold AE.X0 at h
 split at h
 ·cases h;exact fun call hk=>Go.AE.qfA hk
 ·cases h;exact fun call _=>Go.AE.qbO Go.AE.qfj call
 ·cases h;exact fun call _=>Go.AE.qbO Go.AE.qhB call
 ·cases h
theorem qvQ (n:Nat):Go.AE.qbw Tryz.prog AE.gl (Go.AE.run AE.T.get AE.X0 n):=(show Go.AE.qe3 Tryz.prog AE.gl AE.T.get AE.X0 from ⟨qzf,qom⟩).call mx qu9 n
theorem qvx:Go.AE.qf6 Tryz.prog AE.gl 6 Go.AE.qdz:=by
 obtain ⟨e,he⟩:=AE.qyY
 exact Go.AE.qnv (qvQ 400) Tryz.func6 (by kernel_rfl) (show Tryz.f6.body = some _ from rfl) he
theorem qBF:∀f g,AE.X f = some g→Go.AE.qf6 Tryz.prog AE.gl f g:=by
 intro f g h
 unfold AE.X at h
 split at h
 ·cases h;exact qvx
 ·cases h;exact Go.AE.qkp mx Tryz.func39 (by kernel_rfl) AE.qD5 Tryz.func71 (by kernel_rfl) 4000
 ·cases h;exact Go.AE.qkb Tryz.func107 (by kernel_rfl) (by kernel_rfl) (by kernel_rfl) (by kernel_rfl)
 ·cases h;exact Go.AE.quI Tryz.func140 (by kernel_rfl) (by kernel_rfl) (by kernel_rfl) (by kernel_rfl)
 ·cases h
theorem qsP:∀f g,AE.X f = some g→∀call,Go.AE.qM call→Go.AE.qM fun _ xs h=>g call xs h:=by
 intro f g h
 unfold AE.X at h
 split at h
 ·cases h;exact fun call _=>Go.AE.qbO Go.AE.qhv call
 ·cases h;exact fun call hk=>Go.AE.qfA hk
 ·cases h;exact fun call _=>Go.AE.qbO Go.AE.qfj call
 ·cases h;exact fun call _=>Go.AE.qbO Go.AE.qhB call
 ·cases h
theorem qy3 (n:Nat):Go.AE.qbw Tryz.prog AE.gl (Go.AE.run AE.T.get AE.X n):=(show Go.AE.qe3 Tryz.prog AE.gl AE.T.get AE.X from ⟨qBF,qsP⟩).call mx qu9 n
theorem told {W:World} (h:laidMetH Tryz.prog Rows.evalEachRow.laid W):Go.AE.qA1 AE.gl W:=by
 rw [MakeChecks.laidMetH_plain _ _ _ (by kernel_rfl)] at h
 intro g cs hg
 unfold AE.gl at hg
 split at hg <;> first | (cases hg;exact Go.AE.qur) | skip
 ·cases hg
  exact Go.AE.qcl h (show ("gavotte/token.marks", Rows.laid_gavotte_token_marks) ∈ _ from .tail _ (.tail _ (.tail _ (.tail _ (.tail _ (.head _)))))) (g := 0) (by kernel_rfl) (t := 228) (by kernel_rfl) Tryz.underlying228 (.inr Tryz.underlying9) (by kernel_rfl) (by kernel_rfl)
 ·cases hg
  exact Go.AE.qcl h (show ("gavotte/ast.words", Rows.laid_gavotte_ast_words) ∈ _ from .tail _ (.tail _ (.tail _ (.tail _ (.tail _ (.tail _ (.head _))))))) (g := 2) (by kernel_rfl) (t := 231) (by kernel_rfl) Tryz.underlying231 (.inr Tryz.underlying9) (by kernel_rfl) (by kernel_rfl)
 ·cases hg
  exact Go.AE.qcl h (show ("internal/strconv.uint64pow10", Rows.laid_internal_strconv_uint64pow10) ∈ _ from .tail _ (.tail _ (.head _))) (g := 5) (by kernel_rfl) (t := 263) (by kernel_rfl) Tryz.underlying263 (.inl ⟨_, Tryz.underlying204⟩) (by kernel_rfl) (by kernel_rfl)
 ·cases hg
  exact Go.AE.qcl h (show ("math/bits.deBruijn32tab", Rows.laid_math_bits_deBruijn32tab) ∈ _ from .head _) (g := 6) (by kernel_rfl) (t := 270) (by kernel_rfl) Tryz.underlying270 (.inl ⟨_, Tryz.underlying5⟩) (by kernel_rfl) (by kernel_rfl)
 ·cases hg
  exact Go.AE.qcl h (show ("math/bits.deBruijn64tab", Rows.laid_math_bits_deBruijn64tab) ∈ _ from .tail _ (.head _)) (g := 7) (by kernel_rfl) (t := 271) (by kernel_rfl) Tryz.underlying271 (.inl ⟨_, Tryz.underlying5⟩) (by kernel_rfl) (by kernel_rfl)
 ·cases hg
theorem own:ownKnob Tryz.prog.godebug = none:=by kernel_rfl
theorem qAp {H:Type} {enc:TypeId×Value→H} {P:Program} (hl:laidOutB P = true) {W W':World} (hk:W.keptBut W' (fun _=>False)) {t:TypeId} (hr:P.readableRec t = true) (ht:t < P.types.size) {v:Value} {d:DataW H} {ps:List MemPlace} (h:DataW.Trod enc P W 0 (fun _=>true) true t v d ps) :
  DataW.Trod enc P W' 0 (fun b=>decide (b < W.heap.size)) true t v d ps:=by
 have hlt:∀x ∈ ps,x.block < W.heap.size:=by
  obtain ⟨n,hn⟩:=h
  exact DataW.trod_lt n _ _ _ hn
 exact WideElems.Trod_stays hl hr ht h (fun x hx=>Go.AE.qpp hk (hlt x hx)) (fun x hx=>by simpa using hlt x hx)
theorem qsZ {P:Program} {c:OpenClaim} (hs:c.start = .entering) (h:P.funcs.any Func.goes = false):false = c.goesBy P:=by
 have key:∀g:Nat,(P.funcs[g]?).any Func.goes = false:=by
  intro g
  cases hg:P.funcs[g]? with
  | none=>rfl
  | some fn=>
   have hm:=Array.mem_of_getElem? hg
   rw [Array.any_eq_false] at h
   obtain ⟨i,hi,rfl⟩:=Array.getElem_of_mem hm
   simpa using h i hi
 have k2:∀f,P.goes f = false:=by
  intro f
  unfold Program.goes
  rw [h,Bool.and_false,Bool.or_false]
  exact List.any_eq_false.2 fun g _=>by rw [key g];simp
 unfold OpenClaim.goesBy Program.goesAt Program.goesFrom
 rw [hs]
 cases P.funcNamed c.func with
 | none=>rfl
 | some f=>simp [k2 f]
theorem qg1:laidOutB Tryz.prog = true:=by kernel_rfl
theorem qu8:Go.AE.qvY Tryz.prog [34,24,22,9,3,4,28,91,25,65,63,77,26,37,29,30,32,57,5] = true:=by kernel_rfl
theorem qzO (os:Os) (started:os.Started) (H:Type) (enc:TypeId×Value→H) :
  ReturnsInHanded {} Tryz.checked os 4 .any (fun w args=>(Rows.evalEachSpec.pre enc Tryz.prog Tryz.f4 Rows.evalEachRow.domain false w args∧laidMetH Tryz.prog Rows.evalEachRow.laid w)∧sizedMet enc Tryz.prog Tryz.f4 (OpenSpec.ofChange Rows.evalEachSpec) false w args)
   (Rows.evalEachSpec.post enc Tryz.prog Tryz.f4 false true false false):=by
 refine returnsInHanded_of_change_and (C:=Tryz.checked) (X:=fun w _=>laidMetH Tryz.prog Rows.evalEachRow.laid w) (fun _ _ _ hh h=>h.of_heap hh) own started (by kernel_rfl) Tryz.func4
  (ChangeSpec.witness_shaped (enc:=enc) (C:=Tryz.checked) (os:=os) (X:=fun w _=>laidMetH Tryz.prog Rows.evalEachRow.laid w) false (World.laidAll Tryz.prog os Rows.evalEachRow.laid) #[.slice none 0 0,.int .u8 0] 8 (World.laidAll_os _ _ _)
   (World.shaped_of_ZipB (by kernel_rfl) (by kernel_rfl)) (by kernel_rfl) (by kernel_rfl) (by kernel_rfl)
   (by rw [MakeChecks.laidMetH_plain _ _ _ (by kernel_rfl)];exact laidMet_laidAll _ (by kernel_rfl) (by kernel_rfl))) ?_
 intro W base args ds gs before hval0 hW hc _ hL _
 have hval:∀(j:Nat) t v,Tryz.f4.params[j]? = some t→args[j]? = some v→Value.okWide Tryz.prog W .any base t v:=hval0
 have hW':=hW
 obtain ⟨p,q,hA0,hV,rfl,_,_⟩:=hW
 have hA:DataW.TrodAll enc Tryz.prog W 0 (fun _=>true) true Tryz.f4.params.toList args.toList ds p:=hA0
 rw [Tryz.params4] at hA hval
 obtain ⟨v0,v1,d0,d1,q0,q1,rfl,rfl,rfl,h0,h1⟩:=trodAll_two hA
 obtain ⟨rfl,rfl⟩:=trodVars_none hV
 obtain ⟨n0,a0,f0,r0⟩:=Go.AE.qkD qg1 qu8 (t:=57) (by decide) (hval 0 57 v0 rfl rfl) h0
 obtain ⟨n1,a1,f1,r1⟩:=Go.AE.qkD qg1 qu8 (t:=5) (by decide) (hval 1 5 v1 rfl rfl) h1
 obtain ⟨l,rfl,ho⟩:=qj5 f0
 obtain ⟨z,rfl⟩ :∃z,a1 = [.int .u8 z]:=by
  cases n1 with
  | zero=>exact f1.elim
  | succ n=>
   simp only [Go.AE.qcq,Tryz.underlying5] at f1
   exact ⟨_,f1.choose_spec.1⟩
 simp only [List.append_nil,List.nil_append] at hW'
 obtain ⟨h',e',hw⟩:=AE.qtv l z ho
 obtain ⟨n,hrun⟩:=(Go.AE.qm9 AE.qj6 _).1 hw
 have hcall:=Go.AE.qk4 (qy3 n) Tryz.func4 (by kernel_rfl) (show Tryz.f4.body = some _ from rfl) hrun (told hL) (vs:=#[v0,v1]) (by simp only [Go.AE.qg];exact ⟨_,_,rfl,r0,_,_,rfl,r1,rfl⟩)
 refine hcall.mono fun e W' ⟨v,G',he,hv,hk⟩=>?_
 subst he
 simp only [Go.AE.qd.V,Go.AE.qA] at hv
 subst hv
 refine ⟨_,rfl,_,_,_,[],_,[],hW',?_,trodAll_mk2 (qAp qg1 hk (by kernel_rfl) (of_decide_eq_true (by kernel_rfl)) h0) (qAp qg1 hk (by kernel_rfl) (of_decide_eq_true (by kernel_rfl)) h1),?_,World.keptBut_mono (fun _ f=>f.elim) hk,fun h=>by cases h⟩
 ·exact trodAll_mk1 (shut_bool Tryz.underlying4 _)
 ·rfl
theorem qqU:Rows.EvalEachSaid:=
 OpenClaim.holds_of_wide 4 Tryz.f4 rfl rfl rfl rfl rfl rfl rfl ⟨rfl,rfl,rfl,rfl,rfl⟩ rfl rfl rfl rfl rfl (by kernel_rfl) Tryz.func4 facts
  (of_decide_eq_true (by kernel_rfl)) (by unfold Func.isWrapper;first | (rw [if_pos (by decide +kernel)];kernel_rfl) | (rw [if_neg (by decide +kernel)];exact ⟨rfl,rfl⟩))
  (fun os started H enc _=>qzO os started H enc)
theorem evalEach_holds:Rows.EvalEachCardSaid:=
 Claim7.holds_tied_plain_at .later [] [.data, .data, .data, .sentinel, .sentinel, .data, .data] true (true, "e28ab03ace0ad23132d0e98bd5f2f8749129cb2e576d9b9f150c79994630cff5") true qqU (fun _ h => by cases h) (by kernel_rfl) (fun _ h => by cases h) evalEach_row_tie rfl ⟨rfl, rfl⟩ (by kernel_rfl) rfl
  (fun f fn hf hfn=>by
   obtain rfl : f = 4 := Option.some.inj ((show Tryz.prog.funcNamed "gavotte/gavottelaw14.EvalEach" = some 4 by kernel_rfl).symm.trans hf) |>.symm
   obtain rfl:fn = Tryz.f4:=(Option.some.inj (Tryz.func4.symm.trans hfn)).symm
   exact ⟨by kernel_rfl,fun j t ht=>by
    rw [Tryz.params4] at ht
    have hm:t ∈ [57,5]:=by simpa using Array.mem_of_getElem? ht
    have hall:([57,5].all fun u=>!Tryz.prog.wantsStandIn u) = true:=by kernel_rfl
    exact (show Tryz.prog.wantsStandIn t = false by simpa using List.all_eq_true.1 hall t hm)⟩)
  (qsZ rfl (by kernel_rfl))
#print axioms evalEach_holds
end Go.Proofs.YtnibchoenjmmjaaGreatDoor
