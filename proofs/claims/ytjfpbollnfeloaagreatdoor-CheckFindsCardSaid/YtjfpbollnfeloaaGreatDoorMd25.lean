/- Proved: gavottelaw13.CheckFinds answers true for any program, name and places, and the program reads as it did. Conditions: the listed package-level variables read as the program's text lays them (tied). -/
import Derived.Test.YtjfpbollnfeloaaGreatDoorMd2
import Derived.Test.YtjfpbollnfeloaaGreatDoorMd22
import Derived.Test.YtjfpbollnfeloaaGreatDoorMd3
import Derived.Test.YtjfpbollnfeloaaGreatDoorMd23
import Derived.Test.YtjfpbollnfeloaaGreatDoorMd21
import Derived.Test.YtjfpbollnfeloaaGreatDoorMd24
import Derived.Test.YtjfpbollnfeloaaGreatDoorCards
import Derived.Test.YtjfpbollnfeloaaGreatDoorTie
import Derived.ProofKit
import Derived.OpenShut
import Derived.LaidMore
import Derived.Lay
import Derived.SevenTiedAt
import Derived.Stop.Joined
import Derived.MakeChecks
import Derived.ChangeMaps5
import Derived.Carry
set_option maxRecDepth 100000
namespace Go.Proofs.YtjfpbollnfeloaaGreatDoor
open Go.ChangeShapes Go.WideShapes Go.ChangeAt Go.RowKit
open Go.ChangeMaps (open_string shut_string)
theorem qaK{g:Go.AE.Call->List Go.AE.qd->List Go.AE.qh->Option (Go.AE.XX×List Go.AE.qh×Bool)}(hg:∀call xs h r h' e,g call xs h=some (r,h',e)->h'=h)(call:Go.AE.Call):Go.AE.Zl λ_ xs h=>g call xs h:=by intro fv xs h r h' e' hr;obtain rfl:=hg _ _ _ _ _ _ hr;exact⟨Nat.le_refl _,λ_=>Go.AE.Zq.refl _ _⟩
theorem mx:Tryz.prog.follows .mixedOrders=true:=by kernel_rfl
theorem Z2:Go.AE.uA Tryz.prog AE.gl AE.T.get:=Go.AE.qiJ AE.qvF
theorem qq7:∀f g,AE.X0 f=some g->Go.AE.uo Tryz.prog AE.gl f g:=by
 intro f g h;unfold AE.X0 at h;split at h;·cases h;exact Go.AE.LA mx Tryz.func36 (by kernel_rfl) AE.qvy Tryz.func93 (by kernel_rfl) 4000
 ·cases h;exact Go.AE.LA mx Tryz.func40 (by kernel_rfl) AE.qvz Tryz.func99 (by kernel_rfl) 4000
 ·cases h
theorem qgX:∀f g,AE.X0 f=some g->∀call,Go.AE.Zl call->Go.AE.Zl λ_ xs h=>g call xs h:=by
 intro f g h;unfold AE.X0 at h;split at h;·cases h;exact λcall hk=>Go.AE.W5 hk
 ·cases h;exact λcall hk=>Go.AE.W5 hk
 ·cases h
theorem qnN(n:Nat):Go.AE.XY Tryz.prog AE.gl (Go.AE.run AE.T.get AE.X0 n):=Go.AE.KE mx Z2 qq7 qgX n
theorem qnB:Go.AE.uo Tryz.prog AE.gl 4 Go.AE.Dj:=by obtain⟨e,he⟩:=AE.qqA;exact Go.AE.qgd (qnN 400) Tryz.func4 (by kernel_rfl) (show Tryz.f4.body=some _ from rfl) he
theorem quj:∀f g,AE.X f=some g->Go.AE.uo Tryz.prog AE.gl f g:=by
 intro f g h;unfold AE.X at h;split at h;·cases h;exact Go.AE.Zr mx Z2 (f:=22) (by kernel_rfl)
 ·cases h;exact Go.AE.Zr mx Z2 (f:=27) (by kernel_rfl)
 ·cases h;exact Go.AE.Zr mx Z2 (f:=55) (by kernel_rfl)
 ·cases h;exact Go.AE.Zr mx Z2 (f:=57) (by kernel_rfl)
 ·cases h;exact Go.AE.Zr mx Z2 (f:=61) (by kernel_rfl)
 ·cases h;exact Go.AE.Zr mx Z2 (f:=67) (by kernel_rfl)
 ·cases h;exact Go.AE.Zr mx Z2 (f:=59) (by kernel_rfl)
 ·cases h;exact Go.AE.Zr mx Z2 (f:=121) (by kernel_rfl)
 ·cases h;exact Go.AE.Zr mx Z2 (f:=53) (by kernel_rfl)
 ·cases h;exact Go.AE.Zr mx Z2 (f:=119) (by kernel_rfl)
 ·cases h;exact Go.AE.Zr mx Z2 (f:=120) (by kernel_rfl)
 ·cases h;exact Go.AE.Zr mx Z2 (f:=167) (by kernel_rfl)
 ·cases h;exact Go.AE.Zr mx Z2 (f:=207) (by kernel_rfl)
 ·cases h;exact Go.AE.Zr mx Z2 (f:=168) (by kernel_rfl)
 ·cases h;exact Go.AE.Zr mx Z2 (f:=169) (by kernel_rfl)
 ·cases h;exact Go.AE.Zr mx Z2 (f:=209) (by kernel_rfl)
 ·cases h;exact Go.AE.Zr mx Z2 (f:=170) (by kernel_rfl)
 ·cases h;exact Go.AE.Zr mx Z2 (f:=171) (by kernel_rfl)
 ·cases h;exact Go.AE.Zr mx Z2 (f:=172) (by kernel_rfl)
 ·cases h;exact Go.AE.Zr mx Z2 (f:=173) (by kernel_rfl)
 ·cases h;exact Go.AE.Zr mx Z2 (f:=126) (by kernel_rfl)
 ·cases h;exact Go.AE.Zr mx Z2 (f:=203) (by kernel_rfl)
 ·cases h;exact Go.AE.Zr mx Z2 (f:=242) (by kernel_rfl)
 ·cases h;exact Go.AE.Zr mx Z2 (f:=16) (by kernel_rfl)
 ·cases h;exact Go.AE.Zr mx Z2 (f:=24) (by kernel_rfl)
 ·cases h;exact Go.AE.Zr mx Z2 (f:=28) (by kernel_rfl)
 ·cases h;exact Go.AE.Zr mx Z2 (f:=29) (by kernel_rfl)
 ·cases h;exact Go.AE.Zr mx Z2 (f:=76) (by kernel_rfl)
 ·cases h;exact Go.AE.Zr mx Z2 (f:=74) (by kernel_rfl)
 ·cases h;exact Go.AE.Zr mx Z2 (f:=72) (by kernel_rfl)
 ·cases h;exact Go.AE.Zr mx Z2 (f:=69) (by kernel_rfl)
 ·cases h;exact Go.AE.Zr mx Z2 (f:=25) (by kernel_rfl)
 ·cases h;exact Go.AE.Zr mx Z2 (f:=6) (by kernel_rfl)
 ·cases h;exact qnB
 ·cases h;exact Go.AE.LA mx Tryz.func36 (by kernel_rfl) AE.qvy Tryz.func93 (by kernel_rfl) 4000
 ·cases h;exact Go.AE.LA mx Tryz.func40 (by kernel_rfl) AE.qvz Tryz.func99 (by kernel_rfl) 4000
 ·cases h
theorem qkO:∀f g,AE.X f=some g->∀call,Go.AE.Zl call->Go.AE.Zl λ_ xs h=>g call xs h:=by
 intro f g h;unfold AE.X at h;split at h;·cases h;exact λcall hk=>Go.AE.qW hk
 ·cases h;exact λcall hk=>Go.AE.qW hk
 ·cases h;exact λcall hk=>Go.AE.qW hk
 ·cases h;exact λcall hk=>Go.AE.qW hk
 ·cases h;exact λcall hk=>Go.AE.qW hk
 ·cases h;exact λcall hk=>Go.AE.qW hk
 ·cases h;exact λcall hk=>Go.AE.qW hk
 ·cases h;exact λcall hk=>Go.AE.qW hk
 ·cases h;exact λcall hk=>Go.AE.qW hk
 ·cases h;exact λcall hk=>Go.AE.qW hk
 ·cases h;exact λcall hk=>Go.AE.qW hk
 ·cases h;exact λcall hk=>Go.AE.qW hk
 ·cases h;exact λcall hk=>Go.AE.qW hk
 ·cases h;exact λcall hk=>Go.AE.qW hk
 ·cases h;exact λcall hk=>Go.AE.qW hk
 ·cases h;exact λcall hk=>Go.AE.qW hk
 ·cases h;exact λcall hk=>Go.AE.qW hk
 ·cases h;exact λcall hk=>Go.AE.qW hk
 ·cases h;exact λcall hk=>Go.AE.qW hk
 ·cases h;exact λcall hk=>Go.AE.qW hk
 ·cases h;exact λcall hk=>Go.AE.qW hk
 ·cases h;exact λcall hk=>Go.AE.qW hk
 ·cases h;exact λcall hk=>Go.AE.qW hk
 ·cases h;exact λcall hk=>Go.AE.qW hk
 ·cases h;exact λcall hk=>Go.AE.qW hk
 ·cases h;exact λcall hk=>Go.AE.qW hk
 ·cases h;exact λcall hk=>Go.AE.qW hk
 ·cases h;exact λcall hk=>Go.AE.qW hk
 ·cases h;exact λcall hk=>Go.AE.qW hk
 ·cases h;exact λcall hk=>Go.AE.qW hk
 ·cases h;exact λcall hk=>Go.AE.qW hk
 ·cases h;exact λcall hk=>Go.AE.qW hk
 ·cases h;exact λcall hk=>Go.AE.qW hk
 ·cases h;exact λcall _=>qaK Go.AE.uJ call
 ·cases h;exact λcall hk=>Go.AE.W5 hk
 ·cases h;exact λcall hk=>Go.AE.W5 hk
 ·cases h
theorem qqM(n:Nat):Go.AE.XY Tryz.prog AE.gl (Go.AE.run AE.T.get AE.X n):=Go.AE.KE mx Z2 quj qkO n
theorem qxa{W:World}(h:laidMetH Tryz.prog Rows.checkFindsRow.laid W):Go.AE.qqc AE.gl W:=by
 rw[MakeChecks.laidMetH_plain _ _ _ (by kernel_rfl)]at h;intro g cs hg;unfold AE.gl at hg;split at hg<;>first|(cases hg;exact Go.AE.qmt)|skip
 ·cases hg;exact Go.AE.WR h (show("gavotte/ast.words", Rows.laid_gavotte_ast_words)∈_ from .tail _ (.tail _ (.tail _ (.tail _ (.tail _ (.tail _ (.head _))))))) (g := 0) (by kernel_rfl) (t := 234) (by kernel_rfl) Tryz.underlying234 (.inr Tryz.underlying9) (by kernel_rfl) (by kernel_rfl) (by kernel_rfl)
 ·cases hg;exact Go.AE.WR h (show("gavotte/token.marks", Rows.laid_gavotte_token_marks)∈_ from .tail _ (.tail _ (.tail _ (.tail _ (.tail _ (.head _)))))) (g := 1) (by kernel_rfl) (t := 307) (by kernel_rfl) Tryz.underlying307 (.inr Tryz.underlying9) (by kernel_rfl) (by kernel_rfl) (by kernel_rfl)
 ·cases hg;exact Go.AE.WR h (show("internal/strconv.uint64pow10", Rows.laid_internal_strconv_uint64pow10)∈_ from .tail _ (.tail _ (.head _))) (g := 5) (by kernel_rfl) (t := 355) (by kernel_rfl) Tryz.underlying355 (.inl ⟨_, Tryz.underlying334⟩) (by kernel_rfl) (by kernel_rfl) (by kernel_rfl)
 ·cases hg;exact Go.AE.WR h (show("math/bits.deBruijn32tab", Rows.laid_math_bits_deBruijn32tab)∈_ from .head _) (g := 6) (by kernel_rfl) (t := 361) (by kernel_rfl) Tryz.underlying361 (.inl ⟨_, Tryz.underlying5⟩) (by kernel_rfl) (by kernel_rfl) (by kernel_rfl)
 ·cases hg;exact Go.AE.WR h (show("math/bits.deBruijn64tab", Rows.laid_math_bits_deBruijn64tab)∈_ from .tail _ (.head _)) (g := 7) (by kernel_rfl) (t := 362) (by kernel_rfl) Tryz.underlying362 (.inl ⟨_, Tryz.underlying5⟩) (by kernel_rfl) (by kernel_rfl) (by kernel_rfl)
 ·cases hg
theorem own:ownKnob Tryz.prog.godebug=none:=by kernel_rfl
theorem qmh{H:Type}{enc:TypeId×Value->H}{P:Program}(hl:laidOutB P=true){W W':World}(hk:W.keptBut W' (λ_=>False)){t:TypeId}(hr:P.readableRec t=true)(ht:t<P.types.size){v:Value}{d:DataW H}{ps:List MemPlace}(h:DataW.Trod enc P W 0 (λ_=>true) true t v d ps): DataW.Trod enc P W' 0 (λb=>decide (b<W.heap.size)) true t v d ps:=by have U:∀x∈ps,x.block<W.heap.size:=(by obtain⟨n,hn⟩:=h;exact DataW.trod_lt n _ _ _ hn);exact WideElems.Trod_stays hl hr ht h (λx hx=>Go.AE.qhN hk (U x hx)) (λx hx=>by simpa using U x hx)
theorem qkW{P:Program}{c:OpenClaim}(hs:c.start=.entering)(h:P.funcs.any Func.goes=false):false=c.goesBy P:=by
 have key:∀g:Nat,(P.funcs[g]?).any Func.goes=false:=by
  intro g
  cases hg:P.funcs[g]? with
  |none=>rfl
  |some fn=>have hm:=Array.mem_of_getElem? hg;rw[Array.any_eq_false]at h;obtain⟨i,hi,rfl⟩:=Array.getElem_of_mem hm;simpa using h i hi
 have k2:∀f,P.goes f=false:=by intro f;unfold Program.goes;rw[h,Bool.and_false,Bool.or_false];exact List.any_eq_false.2 λg _=>by rw[key g];simp
 unfold OpenClaim.goesBy Program.goesAt Program.goesFrom;rw[hs]
 cases P.funcNamed c.func with
 |none=>rfl
 |some f=>simp[k2 f]
theorem kV:laidOutB Tryz.prog=true:=by kernel_rfl
theorem qc2:Go.AE.qnU Tryz.prog [24,22,43,59,37,9,3,4,65,63,129,35,131,36,78,38,110,39,112,114,40,116,79,81,41]=true:=by kernel_rfl
theorem qrT(os:Os)(started:os.Started)(H:Type)(enc:TypeId×Value->H): ReturnsInHanded {} Tryz.checked os 3 .any (λw args=>(Rows.checkFindsSpec.pre enc Tryz.prog Tryz.f3 Rows.checkFindsRow.domain false w args/\laidMetH Tryz.prog Rows.checkFindsRow.laid w)/\sizedMet enc Tryz.prog Tryz.f3 (OpenSpec.ofChange Rows.checkFindsSpec) false w args) (Rows.checkFindsSpec.post enc Tryz.prog Tryz.f3 false true false false):=by
 refine returnsInHanded_of_change_and (C:=Tryz.checked) (X:=λw _=>laidMetH Tryz.prog Rows.checkFindsRow.laid w) (λ_ _ _ hh h=>h.of_heap hh) own started (by kernel_rfl) Tryz.func3 (ChangeSpec.witness_shaped (enc:=enc) (C:=Tryz.checked) (os:=os) (X:=λw _=>laidMetH Tryz.prog Rows.checkFindsRow.laid w) false (World.laidAll Tryz.prog os Rows.checkFindsRow.laid) #[.agg #[.slice none 0 0,.string ByteArray.empty],.string ByteArray.empty,.int .i64 0,.int .i64 0] 8 (World.laidAll_os _ _ _) (World.shaped_of_ZipB (by kernel_rfl) (by kernel_rfl)) (by kernel_rfl) (by kernel_rfl) (by kernel_rfl) (by rw[MakeChecks.laidMetH_plain _ _ _ (by kernel_rfl)];exact laidMet_laidAll _ (by kernel_rfl) (by kernel_rfl))) ?_;intro W base args ds gs before Y hW hc _ hL _;have U:∀(j:Nat) t v,Tryz.f3.params[j]?=some t->args[j]?=some v->Value.okWide Tryz.prog W .any base t v:=Y;have a7:=hW;obtain⟨p,q,ab,hV,rfl,_,_⟩:=hW;have hA:DataW.TrodAll enc Tryz.prog W 0 (λ_=>true) true Tryz.f3.params.toList args.toList ds p:=ab;rw[Tryz.params3]at hA U;obtain⟨v0,v1,v2,v3,d0,d1,d2,d3,q0,q1,q2,q3,rfl,rfl,rfl,h0,h1,h2,h3⟩:=trodAll_four hA;obtain⟨rfl,rfl⟩:=trodVars_none hV;obtain⟨n0,a0,f0,r0⟩:=Go.AE.LD kV qc2 (t:=24) (by decide) (U 0 24 v0 rfl rfl) h0;obtain⟨n1,a1,f1,r1⟩:=Go.AE.LD kV qc2 (t:=9) (by decide) (U 1 9 v1 rfl rfl) h1;obtain⟨n2,a2,f2,r2⟩:=Go.AE.LD kV qc2 (t:=3) (by decide) (U 2 3 v2 rfl rfl) h2;obtain⟨n3,a3,f3,r3⟩:=Go.AE.LD kV qc2 (t:=3) (by decide) (U 3 3 v3 rfl rfl) h3;obtain⟨p0,aa,ho⟩:=qiK f0;obtain⟨nm,rfl,hn⟩:=QR f1 Tryz.underlying9;obtain⟨z2,rfl,_⟩:=LW f2;obtain⟨z3,rfl,_⟩:=LW f3;simp only[List.append_nil,List.nil_append]at a7;obtain⟨h',e',hw⟩:=AE.zW (i:=z2) (k:=z3) ho hn [];rw[<-aa]at hw;obtain⟨n,a8⟩:=(Go.AE.qjX AE.qjN _).1 hw;have a6:=Go.AE.qdy (qqM n) Tryz.func3 (by kernel_rfl) (show Tryz.f3.body=some _ from rfl) a8 (qxa hL) (vs:=#[v0,v1,v2,v3]) (by simp only[Go.AE.qx];exact⟨_,_,rfl,r0,_,_,rfl,r1,_,_,rfl,r2,_,_,rfl,r3,rfl⟩);refine a6.mono λe W' ⟨v,G',he,hv,hk⟩=>?_;subst he;simp only[Go.AE.qk.V,Go.AE.qT]at hv;subst hv;refine⟨_,rfl,_,_,_,[],_,[],a7,?_,trodAll_mk4 (qmh kV hk (by kernel_rfl) (of_decide_eq_true (by kernel_rfl)) h0) (qmh kV hk (by kernel_rfl) (of_decide_eq_true (by kernel_rfl)) h1) (qmh kV hk (by kernel_rfl) (of_decide_eq_true (by kernel_rfl)) h2) (qmh kV hk (by kernel_rfl) (of_decide_eq_true (by kernel_rfl)) h3),?_,World.keptBut_mono (λ_ f=>f.elim) hk,λh=>by cases h⟩;·exact trodAll_mk1 (shut_bool Tryz.underlying4 _)
 ·rfl
theorem qiU:Rows.CheckFindsSaid:=OpenClaim.holds_of_wide 3 Tryz.f3 rfl rfl rfl rfl rfl rfl rfl ⟨rfl,rfl,rfl,rfl,rfl⟩ rfl rfl rfl rfl rfl (by kernel_rfl) Tryz.func3 facts (of_decide_eq_true (by kernel_rfl)) (by unfold Func.isWrapper;first|(rw[if_pos (by decide +kernel)];kernel_rfl)|(rw[if_neg (by decide +kernel)];exact⟨rfl,rfl⟩)) (λos started H enc _=>qrT os started H enc)
theorem checkFinds_holds:Rows.CheckFindsCardSaid:=Claim7.holds_tied_plain_at .later [] [.data, .data, .data, .sentinel, .sentinel, .data, .data] true (true, "3ee29fb668e89cf7a9727e4b11e4cbc891761090872e6db640a47e40b542e03c") true qiU (λ_ h => by cases h) (by kernel_rfl) (λ_ h => by cases h) checkFinds_row_tie rfl ⟨rfl, rfl⟩ (by kernel_rfl) rfl (λf fn hf hfn=>by
   obtain rfl : f=3 := Option.some.inj ((show Tryz.prog.funcNamed "gavotte/gavottelaw13.CheckFinds" =some 3 by kernel_rfl).symm.trans hf) |>.symm
   obtain rfl:fn=Tryz.f3:=(Option.some.inj (Tryz.func3.symm.trans hfn)).symm
   exact⟨by kernel_rfl,λj t ht=>by
    rw[Tryz.params3]at ht
    have hm:t∈[24,9,3,3]:=by simpa using Array.mem_of_getElem? ht
    have hall:([24,9,3,3].all λu=>!Tryz.prog.wantsStandIn u)=true:=by kernel_rfl
    exact(show Tryz.prog.wantsStandIn t=false by simpa using List.all_eq_true.1 hall t hm)⟩)
  (qkW rfl (by kernel_rfl))
#print axioms checkFinds_holds
end Go.Proofs.YtjfpbollnfeloaaGreatDoor
