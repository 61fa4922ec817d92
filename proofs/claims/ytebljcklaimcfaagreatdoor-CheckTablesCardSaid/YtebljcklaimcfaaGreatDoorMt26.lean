/- Proved: gavottelaw13.CheckTables answers true for any program, and the program reads as it did. Conditions: the listed package-level variables read as the program's text lays them (tied). -/
import Derived.Test.YtebljcklaimcfaaGreatDoorMt2
import Derived.Test.YtebljcklaimcfaaGreatDoorMt23
import Derived.Test.YtebljcklaimcfaaGreatDoorMt3
import Derived.Test.YtebljcklaimcfaaGreatDoorMt24
import Derived.Test.YtebljcklaimcfaaGreatDoorMt22
import Derived.Test.YtebljcklaimcfaaGreatDoorMt25
import Derived.Test.YtebljcklaimcfaaGreatDoorCards
import Derived.Test.YtebljcklaimcfaaGreatDoorTie
import Derived.ProofKit
import Derived.OpenShut
import Derived.LaidMore
import Derived.Lay
import Derived.SevenTiedAt
import Derived.Stop.Joined
import Derived.MakeChecks
import Derived.ChangeMaps5
import Derived.Carry
set_option maxRecDepth 100000
namespace Go.Proofs.YtebljcklaimcfaaGreatDoor
open Go.ChangeShapes Go.WideShapes Go.ChangeAt Go.RowKit
open Go.ChangeMaps (open_string shut_string)
theorem qaW{g:Go.AE.Call->List Go.AE.qd->List Go.AE.qj->Option (Go.AE.X9×List Go.AE.qj×Bool)}(hg:∀call xs h r h' e,g call xs h=some (r,h',e)->h'=h)(call:Go.AE.Call):Go.AE.Zm λ_ xs h=>g call xs h:=by intro fv xs h r h' e' hr;obtain rfl:=hg _ _ _ _ _ _ hr;exact⟨Nat.le_refl _,λ_=>Go.AE.Zr.refl _ _⟩
theorem mx:Tryz.prog.follows .mixedOrders=true:=by kernel_rfl
theorem ZZ:Go.AE.uH Tryz.prog AE.gl AE.T.get:=AE.qvR
theorem qrP:∀f g,AE.X0 f=some g->Go.AE.uz Tryz.prog AE.gl f g:=by
 intro f g h;unfold AE.X0 at h;split at h;·cases h;exact Go.AE.LG mx Tryz.func32 (by kernel_rfl) AE.qvG Tryz.func62 (by kernel_rfl) 4000
 ·cases h;exact Go.AE.LG mx Tryz.func36 (by kernel_rfl) AE.qvH Tryz.func68 (by kernel_rfl) 4000
 ·cases h
theorem qhi:∀f g,AE.X0 f=some g->∀call,Go.AE.Zm call->Go.AE.Zm λ_ xs h=>g call xs h:=by
 intro f g h;unfold AE.X0 at h;split at h;·cases h;exact λcall hk=>Go.AE.W6 hk
 ·cases h;exact λcall hk=>Go.AE.W6 hk
 ·cases h
theorem qoo(n:Nat):Go.AE.Wa Tryz.prog AE.gl (Go.AE.run AE.T.get AE.X0 n):=Go.AE.KI mx ZZ qrP qhi n
theorem qod:Go.AE.uz Tryz.prog AE.gl 4 Go.AE.Dm:=by obtain⟨e,he⟩:=AE.qrr;exact Go.AE.qgu (qoo 400) Tryz.func4 (by kernel_rfl) (show Tryz.f4.body=some _ from rfl) he
theorem qt4:∀f g,AE.X f=some g->Go.AE.uz Tryz.prog AE.gl f g:=by
 intro f g h;unfold AE.X at h;split at h;·cases h;exact Go.AE.Zp mx ZZ (f:=20) (by kernel_rfl)
 ·cases h;exact Go.AE.Zp mx ZZ (f:=43) (by kernel_rfl)
 ·cases h;exact Go.AE.Zp mx ZZ (f:=83) (by kernel_rfl)
 ·cases h;exact Go.AE.Zp mx ZZ (f:=85) (by kernel_rfl)
 ·cases h;exact Go.AE.Zp mx ZZ (f:=89) (by kernel_rfl)
 ·cases h;exact Go.AE.Zp mx ZZ (f:=95) (by kernel_rfl)
 ·cases h;exact Go.AE.Zp mx ZZ (f:=87) (by kernel_rfl)
 ·cases h;exact Go.AE.Zp mx ZZ (f:=104) (by kernel_rfl)
 ·cases h;exact Go.AE.Zp mx ZZ (f:=50) (by kernel_rfl)
 ·cases h;exact Go.AE.Zp mx ZZ (f:=102) (by kernel_rfl)
 ·cases h;exact Go.AE.Zp mx ZZ (f:=103) (by kernel_rfl)
 ·cases h;exact Go.AE.Zp mx ZZ (f:=149) (by kernel_rfl)
 ·cases h;exact Go.AE.Zp mx ZZ (f:=192) (by kernel_rfl)
 ·cases h;exact Go.AE.Zp mx ZZ (f:=150) (by kernel_rfl)
 ·cases h;exact Go.AE.Zp mx ZZ (f:=151) (by kernel_rfl)
 ·cases h;exact Go.AE.Zp mx ZZ (f:=194) (by kernel_rfl)
 ·cases h;exact Go.AE.Zp mx ZZ (f:=152) (by kernel_rfl)
 ·cases h;exact Go.AE.Zp mx ZZ (f:=153) (by kernel_rfl)
 ·cases h;exact Go.AE.Zp mx ZZ (f:=154) (by kernel_rfl)
 ·cases h;exact Go.AE.Zp mx ZZ (f:=155) (by kernel_rfl)
 ·cases h;exact Go.AE.Zp mx ZZ (f:=185) (by kernel_rfl)
 ·cases h;exact Go.AE.Zp mx ZZ (f:=188) (by kernel_rfl)
 ·cases h;exact Go.AE.Zp mx ZZ (f:=229) (by kernel_rfl)
 ·cases h;exact Go.AE.Zp mx ZZ (f:=13) (by kernel_rfl)
 ·cases h;exact Go.AE.Zp mx ZZ (f:=22) (by kernel_rfl)
 ·cases h;exact Go.AE.Zp mx ZZ (f:=25) (by kernel_rfl)
 ·cases h;exact Go.AE.Zp mx ZZ (f:=26) (by kernel_rfl)
 ·cases h;exact Go.AE.Zp mx ZZ (f:=59) (by kernel_rfl)
 ·cases h;exact Go.AE.Zp mx ZZ (f:=57) (by kernel_rfl)
 ·cases h;exact Go.AE.Zp mx ZZ (f:=55) (by kernel_rfl)
 ·cases h;exact Go.AE.Zp mx ZZ (f:=52) (by kernel_rfl)
 ·cases h;exact Go.AE.Zp mx ZZ (f:=23) (by kernel_rfl)
 ·cases h;exact Go.AE.Zp mx ZZ (f:=6) (by kernel_rfl)
 ·cases h;exact Go.AE.Zp mx ZZ (f:=108) (by kernel_rfl)
 ·cases h;exact Go.AE.Zp mx ZZ (f:=60) (by kernel_rfl)
 ·cases h;exact qod
 ·cases h;exact Go.AE.LG mx Tryz.func32 (by kernel_rfl) AE.qvG Tryz.func62 (by kernel_rfl) 4000
 ·cases h;exact Go.AE.LG mx Tryz.func36 (by kernel_rfl) AE.qvH Tryz.func68 (by kernel_rfl) 4000
 ·cases h
theorem qlo:∀f g,AE.X f=some g->∀call,Go.AE.Zm call->Go.AE.Zm λ_ xs h=>g call xs h:=by
 intro f g h;unfold AE.X at h;split at h;·cases h;exact λcall hk=>Go.AE.qR hk
 ·cases h;exact λcall hk=>Go.AE.qR hk
 ·cases h;exact λcall hk=>Go.AE.qR hk
 ·cases h;exact λcall hk=>Go.AE.qR hk
 ·cases h;exact λcall hk=>Go.AE.qR hk
 ·cases h;exact λcall hk=>Go.AE.qR hk
 ·cases h;exact λcall hk=>Go.AE.qR hk
 ·cases h;exact λcall hk=>Go.AE.qR hk
 ·cases h;exact λcall hk=>Go.AE.qR hk
 ·cases h;exact λcall hk=>Go.AE.qR hk
 ·cases h;exact λcall hk=>Go.AE.qR hk
 ·cases h;exact λcall hk=>Go.AE.qR hk
 ·cases h;exact λcall hk=>Go.AE.qR hk
 ·cases h;exact λcall hk=>Go.AE.qR hk
 ·cases h;exact λcall hk=>Go.AE.qR hk
 ·cases h;exact λcall hk=>Go.AE.qR hk
 ·cases h;exact λcall hk=>Go.AE.qR hk
 ·cases h;exact λcall hk=>Go.AE.qR hk
 ·cases h;exact λcall hk=>Go.AE.qR hk
 ·cases h;exact λcall hk=>Go.AE.qR hk
 ·cases h;exact λcall hk=>Go.AE.qR hk
 ·cases h;exact λcall hk=>Go.AE.qR hk
 ·cases h;exact λcall hk=>Go.AE.qR hk
 ·cases h;exact λcall hk=>Go.AE.qR hk
 ·cases h;exact λcall hk=>Go.AE.qR hk
 ·cases h;exact λcall hk=>Go.AE.qR hk
 ·cases h;exact λcall hk=>Go.AE.qR hk
 ·cases h;exact λcall hk=>Go.AE.qR hk
 ·cases h;exact λcall hk=>Go.AE.qR hk
 ·cases h;exact λcall hk=>Go.AE.qR hk
 ·cases h;exact λcall hk=>Go.AE.qR hk
 ·cases h;exact λcall hk=>Go.AE.qR hk
 ·cases h;exact λcall hk=>Go.AE.qR hk
 ·cases h;exact λcall hk=>Go.AE.qR hk
 ·cases h;exact λcall hk=>Go.AE.qR hk
 ·cases h;exact λcall _=>qaW Go.AE.uN call
 ·cases h;exact λcall hk=>Go.AE.W6 hk
 ·cases h;exact λcall hk=>Go.AE.W6 hk
 ·cases h
theorem qrx(n:Nat):Go.AE.Wa Tryz.prog AE.gl (Go.AE.run AE.T.get AE.X n):=Go.AE.KI mx ZZ qt4 qlo n
theorem qwp{W:World}(h:laidMetH Tryz.prog Rows.checkTablesRow.laid W):Go.AE.qta AE.gl W:=by
 rw[MakeChecks.laidMetH_plain _ _ _ (by kernel_rfl)]at h;intro g cs hg;unfold AE.gl at hg;split at hg<;>first|(cases hg;exact Go.AE.qmY)|skip
 ·cases hg;exact Go.AE.WV h (show("gavotte/ast.words", Rows.laid_gavotte_ast_words)∈_ from .tail _ (.tail _ (.tail _ (.tail _ (.tail _ (.tail _ (.head _))))))) (g := 0) (by kernel_rfl) (t := 219) (by kernel_rfl) Tryz.underlying219 (.inr Tryz.underlying9) (by kernel_rfl) (by kernel_rfl) (by kernel_rfl)
 ·cases hg;exact Go.AE.WV h (show("gavotte/token.marks", Rows.laid_gavotte_token_marks)∈_ from .tail _ (.tail _ (.tail _ (.tail _ (.tail _ (.head _)))))) (g := 1) (by kernel_rfl) (t := 296) (by kernel_rfl) Tryz.underlying296 (.inr Tryz.underlying9) (by kernel_rfl) (by kernel_rfl) (by kernel_rfl)
 ·cases hg;exact Go.AE.WV h (show("internal/strconv.uint64pow10", Rows.laid_internal_strconv_uint64pow10)∈_ from .tail _ (.tail _ (.head _))) (g := 5) (by kernel_rfl) (t := 345) (by kernel_rfl) Tryz.underlying345 (.inl ⟨_, Tryz.underlying324⟩) (by kernel_rfl) (by kernel_rfl) (by kernel_rfl)
 ·cases hg;exact Go.AE.WV h (show("math/bits.deBruijn32tab", Rows.laid_math_bits_deBruijn32tab)∈_ from .head _) (g := 6) (by kernel_rfl) (t := 351) (by kernel_rfl) Tryz.underlying351 (.inl ⟨_, Tryz.underlying5⟩) (by kernel_rfl) (by kernel_rfl) (by kernel_rfl)
 ·cases hg;exact Go.AE.WV h (show("math/bits.deBruijn64tab", Rows.laid_math_bits_deBruijn64tab)∈_ from .tail _ (.head _)) (g := 7) (by kernel_rfl) (t := 352) (by kernel_rfl) Tryz.underlying352 (.inl ⟨_, Tryz.underlying5⟩) (by kernel_rfl) (by kernel_rfl) (by kernel_rfl)
 ·cases hg
theorem own:ownKnob Tryz.prog.godebug=none:=by kernel_rfl
theorem quL{H:Type}{enc:TypeId×Value->H}{P:Program}(hl:laidOutB P=true){W W':World}(hk:W.keptBut W' (λ_=>False)){t:TypeId}(hr:P.readableRec t=true)(ht:t<P.types.size){v:Value}{d:DataW H}{ps:List MemPlace}(h:DataW.Trod enc P W 0 (λ_=>true) true t v d ps): DataW.Trod enc P W' 0 (λb=>decide (b<W.heap.size)) true t v d ps:=by have U:∀x∈ps,x.block<W.heap.size:=(by obtain⟨n,hn⟩:=h;exact DataW.trod_lt n _ _ _ hn);exact WideElems.Trod_stays hl hr ht h (λx hx=>Go.AE.qh8 hk (U x hx)) (λx hx=>by simpa using U x hx)
theorem qlw{P:Program}{c:OpenClaim}(hs:c.start=.entering)(h:P.funcs.any Func.goes=false):false=c.goesBy P:=by
 have key:∀g:Nat,(P.funcs[g]?).any Func.goes=false:=by
  intro g
  cases hg:P.funcs[g]? with
  |none=>rfl
  |some fn=>have hm:=Array.mem_of_getElem? hg;rw[Array.any_eq_false]at h;obtain⟨i,hi,rfl⟩:=Array.getElem_of_mem hm;simpa using h i hi
 have k2:∀f,P.goes f=false:=by intro f;unfold Program.goes;rw[h,Bool.and_false,Bool.or_false];exact List.any_eq_false.2 λg _=>by rw[key g];simp
 unfold OpenClaim.goesBy Program.goesAt Program.goesFrom;rw[hs]
 cases P.funcNamed c.func with
 |none=>rfl
 |some f=>simp[k2 f]
theorem qia:laidOutB Tryz.prog=true:=by kernel_rfl
theorem qsD:Go.AE.qov Tryz.prog [24,22,41,53,35,9,3,4,64,62,125,33,108,34,79,36,185,37,189,191,38,234,54,56,39]=true:=by kernel_rfl
theorem qr9(os:Os)(started:os.Started)(H:Type)(enc:TypeId×Value->H): ReturnsInHanded {} Tryz.checked os 3 .any (λw args=>(Rows.checkTablesSpec.pre enc Tryz.prog Tryz.f3 Rows.checkTablesRow.domain false w args/\laidMetH Tryz.prog Rows.checkTablesRow.laid w)/\sizedMet enc Tryz.prog Tryz.f3 (OpenSpec.ofChange Rows.checkTablesSpec) false w args) (Rows.checkTablesSpec.post enc Tryz.prog Tryz.f3 false true false false):=by
 refine returnsInHanded_of_change_and (C:=Tryz.checked) (X:=λw _=>laidMetH Tryz.prog Rows.checkTablesRow.laid w) (λ_ _ _ hh h=>h.of_heap hh) own started (by kernel_rfl) Tryz.func3 (ChangeSpec.witness_shaped (enc:=enc) (C:=Tryz.checked) (os:=os) (X:=λw _=>laidMetH Tryz.prog Rows.checkTablesRow.laid w) false (World.laidAll Tryz.prog os Rows.checkTablesRow.laid) #[.agg #[.slice none 0 0,.string ByteArray.empty]] 8 (World.laidAll_os _ _ _) (World.shaped_of_ZipB (by kernel_rfl) (by kernel_rfl)) (by kernel_rfl) (by kernel_rfl) (by kernel_rfl) (by rw[MakeChecks.laidMetH_plain _ _ _ (by kernel_rfl)];exact laidMet_laidAll _ (by kernel_rfl) (by kernel_rfl))) ?_;intro W base args ds gs before a6 hW hc _ hL _;have U:∀(j:Nat) t v,Tryz.f3.params[j]?=some t->args[j]?=some v->Value.okWide Tryz.prog W .any base t v:=a6;have a8:=hW;obtain⟨p,q,ac,hV,rfl,_,_⟩:=hW;have hA:DataW.TrodAll enc Tryz.prog W 0 (λ_=>true) true Tryz.f3.params.toList args.toList ds p:=ac;rw[Tryz.params3]at hA U;obtain⟨v0,d0,rfl,rfl,h0⟩:=trodAll_one hA;obtain⟨rfl,rfl⟩:=trodVars_none hV;obtain⟨n0,a0,f0,r0⟩:=Go.AE.qmd qia qsD (t:=24) (by decide) (U 0 24 v0 rfl rfl) h0;obtain⟨p0,ab,ho⟩:=qi5 f0;simp only[List.append_nil,List.nil_append]at a8;obtain⟨h',e',hw⟩:=AE.KW ho [];rw[<-ab]at hw;obtain⟨n,aa⟩:=(Go.AE.qkw AE.qkj _).1 hw;have a7:=Go.AE.qdO (qrx n) Tryz.func3 (by kernel_rfl) (show Tryz.f3.body=some _ from rfl) aa (qwp hL) (vs:=#[v0]) (by simp only[Go.AE.qx];exact⟨_,_,rfl,r0,rfl⟩);refine a7.mono λe W' ⟨v,G',he,hv,hk⟩=>?_;subst he;simp only[Go.AE.qk.V,Go.AE.qP]at hv;subst hv;refine⟨_,rfl,_,_,_,[],_,[],a8,?_,trodAll_mk1 (quL qia hk (by kernel_rfl) (of_decide_eq_true (by kernel_rfl)) h0),?_,World.keptBut_mono (λ_ f=>f.elim) hk,λh=>by cases h⟩;·exact trodAll_mk1 (shut_bool Tryz.underlying4 _)
 ·rfl
theorem qjh:Rows.CheckTablesSaid:=OpenClaim.holds_of_wide 3 Tryz.f3 rfl rfl rfl rfl rfl rfl rfl ⟨rfl,rfl,rfl,rfl,rfl⟩ rfl rfl rfl rfl rfl (by kernel_rfl) Tryz.func3 facts (of_decide_eq_true (by kernel_rfl)) (by unfold Func.isWrapper;first|(rw[if_pos (by decide +kernel)];kernel_rfl)|(rw[if_neg (by decide +kernel)];exact⟨rfl,rfl⟩)) (λos started H enc _=>qr9 os started H enc)
theorem checkTables_holds:Rows.CheckTablesCardSaid:=Claim7.holds_tied_plain_at .later [] [.data, .data, .data, .sentinel, .sentinel, .data, .data] true (true, "d7f0d9c1bbe0904d3445b7a5ad5f7df4d633744ab13049cfcc2d6d4c28c04045") true qjh (λ_ h => by cases h) (by kernel_rfl) (λ_ h => by cases h) checkTables_row_tie rfl ⟨rfl, rfl⟩ (by kernel_rfl) rfl (λf fn hf hfn=>by
   obtain rfl : f=3 := Option.some.inj ((show Tryz.prog.funcNamed "gavotte/gavottelaw13.CheckTables" =some 3 by kernel_rfl).symm.trans hf) |>.symm
   obtain rfl:fn=Tryz.f3:=(Option.some.inj (Tryz.func3.symm.trans hfn)).symm
   exact⟨by kernel_rfl,λj t ht=>by
    rw[Tryz.params3]at ht
    have hm:t∈[24]:=by simpa using Array.mem_of_getElem? ht
    have hall:([24].all λu=>!Tryz.prog.wantsStandIn u)=true:=by kernel_rfl
    exact(show Tryz.prog.wantsStandIn t=false by simpa using List.all_eq_true.1 hall t hm)⟩)
  (qlw rfl (by kernel_rfl))
#print axioms checkTables_holds
end Go.Proofs.YtebljcklaimcfaaGreatDoor
