/- Proved: gavottelaw13.CheckAlone answers true for any program and name, and the program reads as it did. Conditions: the listed package-level variables read as the program's text lays them (tied). -/
import Derived.Test.YthgghcnoaecnoaaGreatDoorMc2
import Derived.Test.YthgghcnoaecnoaaGreatDoorMc21
import Derived.Test.YthgghcnoaecnoaaGreatDoorMc3
import Derived.Test.YthgghcnoaecnoaaGreatDoorMc22
import Derived.Test.YthgghcnoaecnoaaGreatDoorMc20
import Derived.Test.YthgghcnoaecnoaaGreatDoorMc23
import Derived.Test.YthgghcnoaecnoaaGreatDoorCards
import Derived.Test.YthgghcnoaecnoaaGreatDoorTie
import Derived.ProofKit
import Derived.OpenShut
import Derived.LaidMore
import Derived.Lay
import Derived.SevenTiedAt
import Derived.Stop.Joined
import Derived.MakeChecks
import Derived.ChangeMaps5
import Derived.Carry
set_option maxRecDepth 100000
namespace Go.Proofs.YthgghcnoaecnoaaGreatDoor
open Go.ChangeShapes Go.WideShapes Go.ChangeAt Go.RowKit
open Go.ChangeMaps (open_string shut_string)
theorem qal{g:Go.AE.Call->List Go.AE.qd->List Go.AE.qj->Option (Go.AE.XL×List Go.AE.qj×Bool)}(hg:∀call xs h r h' e,g call xs h=some (r,h',e)->h'=h)(call:Go.AE.Call):Go.AE.Ze λ_ xs h=>g call xs h:=by intro fv xs h r h' e' hr;obtain rfl:=hg _ _ _ _ _ _ hr;exact⟨Nat.le_refl _,λ_=>Go.AE.Zk.refl _ _⟩
theorem mx:Tryz.prog.follows .mixedOrders=true:=by kernel_rfl
theorem Qm:Go.AE.ud Tryz.prog AE.gl AE.T.get:=Go.AE.qh4 AE.qum
theorem qqa:∀f g,AE.X0 f=some g->Go.AE.yX Tryz.prog AE.gl f g:=by
 intro f g h;unfold AE.X0 at h;split at h;·cases h;exact Go.AE.Li mx Tryz.func23 (by kernel_rfl) AE.quc Tryz.func42 (by kernel_rfl) 4000
 ·cases h;exact Go.AE.Li mx Tryz.func27 (by kernel_rfl) AE.qud Tryz.func48 (by kernel_rfl) 4000
 ·cases h
theorem qgh:∀f g,AE.X0 f=some g->∀call,Go.AE.Ze call->Go.AE.Ze λ_ xs h=>g call xs h:=by
 intro f g h;unfold AE.X0 at h;split at h;·cases h;exact λcall hk=>Go.AE.WX hk
 ·cases h;exact λcall hk=>Go.AE.WX hk
 ·cases h
theorem qmZ(n:Nat):Go.AE.XM Tryz.prog AE.gl (Go.AE.run AE.T.get AE.X0 n):=Go.AE.Kq mx Qm qqa qgh n
theorem qmN:Go.AE.yX Tryz.prog AE.gl 4 Go.AE.gZ:=by obtain⟨e,he⟩:=AE.qpK;exact Go.AE.qfC (qmZ 400) Tryz.func4 (by kernel_rfl) (show Tryz.f4.body=some _ from rfl) he
theorem qsU:∀f g,AE.X f=some g->Go.AE.yX Tryz.prog AE.gl f g:=by
 intro f g h;unfold AE.X at h;split at h;·cases h;exact Go.AE.Zy mx Qm (f:=19) (by kernel_rfl)
 ·cases h;exact Go.AE.Zy mx Qm (f:=33) (by kernel_rfl)
 ·cases h;exact Go.AE.Zy mx Qm (f:=61) (by kernel_rfl)
 ·cases h;exact Go.AE.Zy mx Qm (f:=63) (by kernel_rfl)
 ·cases h;exact Go.AE.Zy mx Qm (f:=67) (by kernel_rfl)
 ·cases h;exact Go.AE.Zy mx Qm (f:=73) (by kernel_rfl)
 ·cases h;exact Go.AE.Zy mx Qm (f:=65) (by kernel_rfl)
 ·cases h;exact Go.AE.Zy mx Qm (f:=109) (by kernel_rfl)
 ·cases h;exact Go.AE.Zy mx Qm (f:=40) (by kernel_rfl)
 ·cases h;exact Go.AE.Zy mx Qm (f:=80) (by kernel_rfl)
 ·cases h;exact Go.AE.Zy mx Qm (f:=81) (by kernel_rfl)
 ·cases h;exact Go.AE.Zy mx Qm (f:=123) (by kernel_rfl)
 ·cases h;exact Go.AE.Zy mx Qm (f:=163) (by kernel_rfl)
 ·cases h;exact Go.AE.Zy mx Qm (f:=124) (by kernel_rfl)
 ·cases h;exact Go.AE.Zy mx Qm (f:=125) (by kernel_rfl)
 ·cases h;exact Go.AE.Zy mx Qm (f:=165) (by kernel_rfl)
 ·cases h;exact Go.AE.Zy mx Qm (f:=126) (by kernel_rfl)
 ·cases h;exact Go.AE.Zy mx Qm (f:=127) (by kernel_rfl)
 ·cases h;exact Go.AE.Zy mx Qm (f:=128) (by kernel_rfl)
 ·cases h;exact Go.AE.Zy mx Qm (f:=129) (by kernel_rfl)
 ·cases h;exact Go.AE.Zy mx Qm (f:=156) (by kernel_rfl)
 ·cases h;exact Go.AE.Zy mx Qm (f:=159) (by kernel_rfl)
 ·cases h;exact Go.AE.Zy mx Qm (f:=199) (by kernel_rfl)
 ·cases h;exact Go.AE.Zy mx Qm (f:=11) (by kernel_rfl)
 ·cases h;exact Go.AE.Zy mx Qm (f:=21) (by kernel_rfl)
 ·cases h;exact Go.AE.Zy mx Qm (f:=22) (by kernel_rfl)
 ·cases h;exact Go.AE.Zy mx Qm (f:=7) (by kernel_rfl)
 ·cases h;exact qmN
 ·cases h;exact Go.AE.Li mx Tryz.func23 (by kernel_rfl) AE.quc Tryz.func42 (by kernel_rfl) 4000
 ·cases h;exact Go.AE.Li mx Tryz.func27 (by kernel_rfl) AE.qud Tryz.func48 (by kernel_rfl) 4000
 ·cases h
theorem qj8:∀f g,AE.X f=some g->∀call,Go.AE.Ze call->Go.AE.Ze λ_ xs h=>g call xs h:=by
 intro f g h;unfold AE.X at h;split at h;·cases h;exact λcall hk=>Go.AE.qX hk
 ·cases h;exact λcall hk=>Go.AE.qX hk
 ·cases h;exact λcall hk=>Go.AE.qX hk
 ·cases h;exact λcall hk=>Go.AE.qX hk
 ·cases h;exact λcall hk=>Go.AE.qX hk
 ·cases h;exact λcall hk=>Go.AE.qX hk
 ·cases h;exact λcall hk=>Go.AE.qX hk
 ·cases h;exact λcall hk=>Go.AE.qX hk
 ·cases h;exact λcall hk=>Go.AE.qX hk
 ·cases h;exact λcall hk=>Go.AE.qX hk
 ·cases h;exact λcall hk=>Go.AE.qX hk
 ·cases h;exact λcall hk=>Go.AE.qX hk
 ·cases h;exact λcall hk=>Go.AE.qX hk
 ·cases h;exact λcall hk=>Go.AE.qX hk
 ·cases h;exact λcall hk=>Go.AE.qX hk
 ·cases h;exact λcall hk=>Go.AE.qX hk
 ·cases h;exact λcall hk=>Go.AE.qX hk
 ·cases h;exact λcall hk=>Go.AE.qX hk
 ·cases h;exact λcall hk=>Go.AE.qX hk
 ·cases h;exact λcall hk=>Go.AE.qX hk
 ·cases h;exact λcall hk=>Go.AE.qX hk
 ·cases h;exact λcall hk=>Go.AE.qX hk
 ·cases h;exact λcall hk=>Go.AE.qX hk
 ·cases h;exact λcall hk=>Go.AE.qX hk
 ·cases h;exact λcall hk=>Go.AE.qX hk
 ·cases h;exact λcall hk=>Go.AE.qX hk
 ·cases h;exact λcall hk=>Go.AE.qX hk
 ·cases h;exact λcall _=>qal Go.AE.uk call
 ·cases h;exact λcall hk=>Go.AE.WX hk
 ·cases h;exact λcall hk=>Go.AE.WX hk
 ·cases h
theorem qpS(n:Nat):Go.AE.XM Tryz.prog AE.gl (Go.AE.run AE.T.get AE.X n):=Go.AE.Kq mx Qm qsU qj8 n
theorem qvz{W:World}(h:laidMetH Tryz.prog Rows.checkAloneRow.laid W):Go.AE.qrO AE.gl W:=by
 rw[MakeChecks.laidMetH_plain _ _ _ (by kernel_rfl)]at h;intro g cs hg;unfold AE.gl at hg;split at hg<;>first|(cases hg;exact Go.AE.qlE)|skip
 ·cases hg;exact Go.AE.WJ h (show("gavotte/ast.words", Rows.laid_gavotte_ast_words)∈_ from .tail _ (.tail _ (.tail _ (.tail _ (.tail _ (.tail _ (.head _))))))) (g := 0) (by kernel_rfl) (t := 115) (by kernel_rfl) Tryz.underlying115 (.inr Tryz.underlying9) (by kernel_rfl) (by kernel_rfl) (by kernel_rfl)
 ·cases hg;exact Go.AE.WJ h (show("gavotte/token.marks", Rows.laid_gavotte_token_marks)∈_ from .tail _ (.tail _ (.tail _ (.tail _ (.tail _ (.head _)))))) (g := 1) (by kernel_rfl) (t := 264) (by kernel_rfl) Tryz.underlying264 (.inr Tryz.underlying9) (by kernel_rfl) (by kernel_rfl) (by kernel_rfl)
 ·cases hg;exact Go.AE.WJ h (show("internal/strconv.uint64pow10", Rows.laid_internal_strconv_uint64pow10)∈_ from .tail _ (.tail _ (.head _))) (g := 5) (by kernel_rfl) (t := 314) (by kernel_rfl) Tryz.underlying314 (.inl ⟨_, Tryz.underlying292⟩) (by kernel_rfl) (by kernel_rfl) (by kernel_rfl)
 ·cases hg;exact Go.AE.WJ h (show("math/bits.deBruijn32tab", Rows.laid_math_bits_deBruijn32tab)∈_ from .head _) (g := 6) (by kernel_rfl) (t := 320) (by kernel_rfl) Tryz.underlying320 (.inl ⟨_, Tryz.underlying5⟩) (by kernel_rfl) (by kernel_rfl) (by kernel_rfl)
 ·cases hg;exact Go.AE.WJ h (show("math/bits.deBruijn64tab", Rows.laid_math_bits_deBruijn64tab)∈_ from .tail _ (.head _)) (g := 7) (by kernel_rfl) (t := 321) (by kernel_rfl) Tryz.underlying321 (.inl ⟨_, Tryz.underlying5⟩) (by kernel_rfl) (by kernel_rfl) (by kernel_rfl)
 ·cases hg
theorem own:ownKnob Tryz.prog.godebug=none:=by kernel_rfl
theorem qrn{H:Type}{enc:TypeId×Value->H}{P:Program}(hl:laidOutB P=true){W W':World}(hk:W.keptBut W' (λ_=>False)){t:TypeId}(hr:P.readableRec t=true)(ht:t<P.types.size){v:Value}{d:DataW H}{ps:List MemPlace}(h:DataW.Trod enc P W 0 (λ_=>true) true t v d ps): DataW.Trod enc P W' 0 (λb=>decide (b<W.heap.size)) true t v d ps:=by have U:∀x∈ps,x.block<W.heap.size:=(by obtain⟨n,hn⟩:=h;exact DataW.trod_lt n _ _ _ hn);exact WideElems.Trod_stays hl hr ht h (λx hx=>Go.AE.qg5 hk (U x hx)) (λx hx=>by simpa using U x hx)
theorem qkf{P:Program}{c:OpenClaim}(hs:c.start=.entering)(h:P.funcs.any Func.goes=false):false=c.goesBy P:=by
 have key:∀g:Nat,(P.funcs[g]?).any Func.goes=false:=by
  intro g
  cases hg:P.funcs[g]? with
  |none=>rfl
  |some fn=>have hm:=Array.mem_of_getElem? hg;rw[Array.any_eq_false]at h;obtain⟨i,hi,rfl⟩:=Array.getElem_of_mem hm;simpa using h i hi
 have k2:∀f,P.goes f=false:=by intro f;unfold Program.goes;rw[h,Bool.and_false,Bool.or_false];exact List.any_eq_false.2 λg _=>by rw[key g];simp
 unfold OpenClaim.goesBy Program.goesAt Program.goesFrom;rw[hs]
 cases P.funcNamed c.func with
 |none=>rfl
 |some f=>simp[k2 f]
theorem yj:laidOutB Tryz.prog=true:=by kernel_rfl
theorem qml:Go.AE.qm7 Tryz.prog [24,22,44,47,38,9,3,4,56,54,112,36,114,37,69,39,92,40,94,96,41,98,70,72,42]=true:=by kernel_rfl
theorem qqP(os:Os)(started:os.Started)(H:Type)(enc:TypeId×Value->H): ReturnsInHanded {} Tryz.checked os 3 .any (λw args=>(Rows.checkAloneSpec.pre enc Tryz.prog Tryz.f3 Rows.checkAloneRow.domain false w args/\laidMetH Tryz.prog Rows.checkAloneRow.laid w)/\sizedMet enc Tryz.prog Tryz.f3 (OpenSpec.ofChange Rows.checkAloneSpec) false w args) (Rows.checkAloneSpec.post enc Tryz.prog Tryz.f3 false true false false):=by
 refine returnsInHanded_of_change_and (C:=Tryz.checked) (X:=λw _=>laidMetH Tryz.prog Rows.checkAloneRow.laid w) (λ_ _ _ hh h=>h.of_heap hh) own started (by kernel_rfl) Tryz.func3 (ChangeSpec.witness_shaped (enc:=enc) (C:=Tryz.checked) (os:=os) (X:=λw _=>laidMetH Tryz.prog Rows.checkAloneRow.laid w) false (World.laidAll Tryz.prog os Rows.checkAloneRow.laid) #[.agg #[.slice none 0 0,.string ByteArray.empty],.string ByteArray.empty] 8 (World.laidAll_os _ _ _) (World.shaped_of_ZipB (by kernel_rfl) (by kernel_rfl)) (by kernel_rfl) (by kernel_rfl) (by kernel_rfl) (by rw[MakeChecks.laidMetH_plain _ _ _ (by kernel_rfl)];exact laidMet_laidAll _ (by kernel_rfl) (by kernel_rfl))) ?_;intro W base args ds gs before Y hW hc _ hL _;have U:∀(j:Nat) t v,Tryz.f3.params[j]?=some t->args[j]?=some v->Value.okWide Tryz.prog W .any base t v:=Y;have a7:=hW;obtain⟨p,q,ab,hV,rfl,_,_⟩:=hW;have hA:DataW.TrodAll enc Tryz.prog W 0 (λ_=>true) true Tryz.f3.params.toList args.toList ds p:=ab;rw[Tryz.params3]at hA U;obtain⟨v0,v1,d0,d1,q0,q1,rfl,rfl,rfl,h0,h1⟩:=trodAll_two hA;obtain⟨rfl,rfl⟩:=trodVars_none hV;obtain⟨n0,a0,f0,r0⟩:=Go.AE.qcl yj qml (t:=24) (by decide) (U 0 24 v0 rfl rfl) h0;obtain⟨n1,a1,f1,r1⟩:=Go.AE.qcl yj qml (t:=9) (by decide) (U 1 9 v1 rfl rfl) h1;obtain⟨p0,aa,ho⟩:=qh5 f0;obtain⟨nm,rfl,hn⟩:=QH f1 Tryz.underlying9;simp only[List.append_nil,List.nil_append]at a7;obtain⟨h',e',hw⟩:=AE.zx ho hn [];rw[<-aa]at hw;obtain⟨n,a8⟩:=(Go.AE.qji AE.qi7 _).1 hw;have a6:=Go.AE.qcZ (qpS n) Tryz.func3 (by kernel_rfl) (show Tryz.f3.body=some _ from rfl) a8 (qvz hL) (vs:=#[v0,v1]) (by simp only[Go.AE.qu];exact⟨_,_,rfl,r0,_,_,rfl,r1,rfl⟩);refine a6.mono λe W' ⟨v,G',he,hv,hk⟩=>?_;subst he;simp only[Go.AE.qh.V,Go.AE.qI]at hv;subst hv;refine⟨_,rfl,_,_,_,[],_,[],a7,?_,trodAll_mk2 (qrn yj hk (by kernel_rfl) (of_decide_eq_true (by kernel_rfl)) h0) (qrn yj hk (by kernel_rfl) (of_decide_eq_true (by kernel_rfl)) h1),?_,World.keptBut_mono (λ_ f=>f.elim) hk,λh=>by cases h⟩;·exact trodAll_mk1 (shut_bool Tryz.underlying4 _)
 ·rfl
theorem qii:Rows.CheckAloneSaid:=OpenClaim.holds_of_wide 3 Tryz.f3 rfl rfl rfl rfl rfl rfl rfl ⟨rfl,rfl,rfl,rfl,rfl⟩ rfl rfl rfl rfl rfl (by kernel_rfl) Tryz.func3 facts (of_decide_eq_true (by kernel_rfl)) (by unfold Func.isWrapper;first|(rw[if_pos (by decide +kernel)];kernel_rfl)|(rw[if_neg (by decide +kernel)];exact⟨rfl,rfl⟩)) (λos started H enc _=>qqP os started H enc)
theorem checkAlone_holds:Rows.CheckAloneCardSaid:=Claim7.holds_tied_plain_at .later [] [.data, .data, .data, .sentinel, .sentinel, .data, .data] true (true, "3f24e95540bb1fb8471dc721653811684201b732d0647dda96079e93b1ea77b2") true qii (λ_ h => by cases h) (by kernel_rfl) (λ_ h => by cases h) checkAlone_row_tie rfl ⟨rfl, rfl⟩ (by kernel_rfl) rfl (λf fn hf hfn=>by
   obtain rfl : f=3 := Option.some.inj ((show Tryz.prog.funcNamed "gavotte/gavottelaw13.CheckAlone" =some 3 by kernel_rfl).symm.trans hf) |>.symm
   obtain rfl:fn=Tryz.f3:=(Option.some.inj (Tryz.func3.symm.trans hfn)).symm
   exact⟨by kernel_rfl,λj t ht=>by
    rw[Tryz.params3]at ht
    have hm:t∈[24,9]:=by simpa using Array.mem_of_getElem? ht
    have hall:([24,9].all λu=>!Tryz.prog.wantsStandIn u)=true:=by kernel_rfl
    exact(show Tryz.prog.wantsStandIn t=false by simpa using List.all_eq_true.1 hall t hm)⟩)
  (qkf rfl (by kernel_rfl))
#print axioms checkAlone_holds
end Go.Proofs.YthgghcnoaecnoaaGreatDoor
