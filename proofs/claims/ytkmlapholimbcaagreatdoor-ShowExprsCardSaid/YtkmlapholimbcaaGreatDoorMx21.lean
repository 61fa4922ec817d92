/- Proved: gavottelaw11.ShowExprs answers true for any expression, and it reads as it did. Conditions: the listed package-level variables read as the program's text lays them (tied). -/
import Derived.Test.YtkmlapholimbcaaGreatDoorMx2
import Derived.Test.YtkmlapholimbcaaGreatDoorMx19
import Derived.Test.YtkmlapholimbcaaGreatDoorMx3
import Derived.Test.YtkmlapholimbcaaGreatDoorMx6
import Derived.Test.YtkmlapholimbcaaGreatDoorMx14
import Derived.Test.YtkmlapholimbcaaGreatDoorMx20
import Derived.Test.YtkmlapholimbcaaGreatDoorCards
import Derived.Test.YtkmlapholimbcaaGreatDoorTie
import Derived.ProofKit
import Derived.OpenShut
import Derived.LaidMore
import Derived.Lay
import Derived.SevenTiedAt
import Derived.Stop.Joined
import Derived.Stop.LaidErr
import Derived.MakeChecks
import Derived.ChangeMaps5
import Derived.Carry
set_option maxRecDepth 100000
namespace Go.Proofs.YtkmlapholimbcaaGreatDoor
open Go.ChangeShapes Go.WideShapes Go.ChangeAt Go.RowKit
open Go.ChangeMaps (open_string shut_string)
theorem qbb {g:Go.AE.Call→List Go.AE.qa→List Go.AE.qf→Option (Go.AE.qcD×List Go.AE.qf×Bool)} (hg:∀call xs h r h' e,g call xs h = some (r,h',e)→h' = h) (call:Go.AE.Call):Go.AE.qH fun _ xs h=>g call xs h:=by
 intro fv xs h r h' e' hr
 obtain rfl:=hg _ _ _ _ _ _ hr
 exact ⟨Nat.le_refl _,fun _=>Go.AE.qT.refl _ _⟩
theorem laid_block {P:Program} {n:String} {d:DataW Unit} {r:List (String×DataW Unit)} {W:World} {g:Nat} {x:Value} (h:laidMet P ((n,d) :: r) W) (hg:P.globalNamed n = some g) (hx:W.var? P n = some #[x]):∃c e,W.heap[g]? = some (.cells c e (0,0)):=by
 obtain ⟨ps,hv,hnd,hrest⟩:=h
 obtain ⟨g',t',cs,fuel,p,q,hg',ht',hvar,hd,hq,hps⟩:=hv
 obtain rfl:=Option.some.inj (hg.symm.trans hg')
 have e:=Option.some.inj (hx.symm.trans hvar)
 have hs:0 < cs.size:=by rw [←e];exact Nat.zero_lt_one
 exact (hrest g 0 (by
  rw [hps]
  refine List.mem_append_left _ (List.mem_append_left _ ?_)
  exact MemPlace.mem_row.2 ⟨0,by first | exact hs | omega,rfl⟩)).1
theorem mx:Tryz.prog.follows .mixedOrders = true:=by kernel_rfl
theorem qvr:Go.AE.qf5 Tryz.prog AE.gl AE.T.get:=Go.AE.qq4 AE.qDi
theorem qzi:∀f g,AE.X0 f = some g→Go.AE.qey Tryz.prog AE.gl f g:=by
 intro f g h
 unfold AE.X0 at h
 split at h
 ·cases h;exact Go.AE.qun Tryz.lays169 Tryz.Builder_Extra_156 Tryz.func38 (by kernel_rfl) (show Tryz.f38.body = some _ from rfl) rfl rfl
 ·cases h;exact Go.AE.qby Tryz.lays167 Tryz.Builder_Extra_156 Tryz.func63 (by kernel_rfl) (show Tryz.f63.body = some _ from rfl) rfl rfl
 ·cases h;exact Go.AE.qbS Tryz.lays166 Tryz.Builder_Extra_156 Tryz.func50 (by kernel_rfl) (show Tryz.f50.body = some _ from rfl) rfl rfl
 ·cases h;exact Go.AE.qpI Tryz.laysM171 Tryz.func61 (by kernel_rfl) (show Tryz.f61.body = some _ from rfl) (fun _ _ _ hr=>Go.AE.qvw hr (by kernel_rfl) (show AE.gl 4 = some _ by kernel_rfl) (by simp [Go.Lib.pow10Tab_length]))
 ·cases h;exact Go.AE.qkU mx Tryz.func24 (by kernel_rfl) AE.qC7 Tryz.func42 (by kernel_rfl) 4000
 ·cases h;exact Go.AE.qkY Tryz.lays137 Tryz.func133 (by kernel_rfl) (show Tryz.f133.body = some _ from rfl)
 ·cases h;exact Go.AE.qnt (tp:=224) Tryz.laysC172 Tryz.func146 (by kernel_rfl) (show Tryz.f146.body = some _ from rfl) (by kernel_rfl)
 ·cases h
theorem qoH:∀f g,AE.X0 f = some g→∀call,Go.AE.qH call→Go.AE.qH fun _ xs h=>g call xs h:=by
 intro f g h
 unfold AE.X0 at h
 split at h
 ·cases h;exact fun call _=>qbb Go.AE.qli call
 ·cases h;exact fun call _=>Go.AE.qja call
 ·cases h;exact fun call _=>Go.AE.qjc call
 ·cases h;exact fun call _=>qbb Go.AE.qkZ call
 ·cases h;exact fun call hk=>Go.AE.qgk hk
 ·cases h;exact fun call _=>qbb Go.AE.qgq call
 ·cases h;exact fun call _=>qbb Go.AE.qg2 call
 ·cases h
theorem qv5 (n:Nat):Go.AE.qb7 Tryz.prog AE.gl (Go.AE.run AE.T.get AE.X0 n):=(show Go.AE.qnd Tryz.prog AE.gl AE.T.get AE.X0 from ⟨qzi,qoH⟩).call mx qvr n
theorem qvP:Go.AE.qey Tryz.prog AE.gl 6 Go.AE.qek:=by
 obtain ⟨e,he⟩:=AE.qy1
 exact Go.AE.qnQ (qv5 400) Tryz.func6 (by kernel_rfl) (show Tryz.f6.body = some _ from rfl) he
theorem qBx:∀f g,AE.X f = some g→Go.AE.qey Tryz.prog AE.gl f g:=by
 intro f g h
 unfold AE.X at h
 split at h
 ·cases h;exact qvP
 ·cases h;exact Go.AE.qun Tryz.lays169 Tryz.Builder_Extra_156 Tryz.func38 (by kernel_rfl) (show Tryz.f38.body = some _ from rfl) rfl rfl
 ·cases h;exact Go.AE.qby Tryz.lays167 Tryz.Builder_Extra_156 Tryz.func63 (by kernel_rfl) (show Tryz.f63.body = some _ from rfl) rfl rfl
 ·cases h;exact Go.AE.qbS Tryz.lays166 Tryz.Builder_Extra_156 Tryz.func50 (by kernel_rfl) (show Tryz.f50.body = some _ from rfl) rfl rfl
 ·cases h;exact Go.AE.qpI Tryz.laysM171 Tryz.func61 (by kernel_rfl) (show Tryz.f61.body = some _ from rfl) (fun _ _ _ hr=>Go.AE.qvw hr (by kernel_rfl) (show AE.gl 4 = some _ by kernel_rfl) (by simp [Go.Lib.pow10Tab_length]))
 ·cases h;exact Go.AE.qkU mx Tryz.func24 (by kernel_rfl) AE.qC7 Tryz.func42 (by kernel_rfl) 4000
 ·cases h;exact Go.AE.qkY Tryz.lays137 Tryz.func133 (by kernel_rfl) (show Tryz.f133.body = some _ from rfl)
 ·cases h;exact Go.AE.qnt (tp:=224) Tryz.laysC172 Tryz.func146 (by kernel_rfl) (show Tryz.f146.body = some _ from rfl) (by kernel_rfl)
 ·cases h
theorem qs6:∀f g,AE.X f = some g→∀call,Go.AE.qH call→Go.AE.qH fun _ xs h=>g call xs h:=by
 intro f g h
 unfold AE.X at h
 split at h
 ·cases h;exact fun call _=>qbb Go.AE.qio call
 ·cases h;exact fun call _=>qbb Go.AE.qli call
 ·cases h;exact fun call _=>Go.AE.qja call
 ·cases h;exact fun call _=>Go.AE.qjc call
 ·cases h;exact fun call _=>qbb Go.AE.qkZ call
 ·cases h;exact fun call hk=>Go.AE.qgk hk
 ·cases h;exact fun call _=>qbb Go.AE.qgq call
 ·cases h;exact fun call _=>qbb Go.AE.qg2 call
 ·cases h
theorem qy6 (n:Nat):Go.AE.qb7 Tryz.prog AE.gl (Go.AE.run AE.T.get AE.X n):=(show Go.AE.qnd Tryz.prog AE.gl AE.T.get AE.X from ⟨qBx,qs6⟩).call mx qvr n
theorem qE8 {W:World} (h:laidMetH Tryz.prog Rows.showExprsRow.laid W):Go.AE.qAH AE.gl W:=by
 rw [MakeChecks.laidMetH_plain _ _ _ (by kernel_rfl)] at h
 intro g cs hg
 unfold AE.gl at hg
 split at hg <;> first | (cases hg;exact Go.AE.quE) | skip
 ·cases hg
  exact Go.AE.qct h (show ("gavotte/ast.words", Rows.laid_gavotte_ast_words) ∈ _ from .tail _ (.tail _ (.tail _ (.tail _ (.tail _ (.tail _ (.head _))))))) (g := 0) (by kernel_rfl) (t := 156) (by kernel_rfl) Tryz.underlying156 (.inr Tryz.underlying9) (by kernel_rfl) (by kernel_rfl) (by kernel_rfl)
 ·cases hg
  exact Go.AE.qct h (show ("gavotte/show.ranks", Rows.laid_gavotte_show_ranks) ∈ _ from .tail _ (.tail _ (.tail _ (.tail _ (.tail _ (.tail _ (.tail _ (.head _)))))))) (g := 1) (by kernel_rfl) (t := 183) (by kernel_rfl) Tryz.underlying183 (.inl ⟨_, Tryz.underlying3⟩) (by kernel_rfl) (by kernel_rfl) (by kernel_rfl)
 ·cases hg
  exact Go.AE.qct h (show ("gavotte/token.marks", Rows.laid_gavotte_token_marks) ∈ _ from .tail _ (.tail _ (.tail _ (.tail _ (.tail _ (.head _)))))) (g := 2) (by kernel_rfl) (t := 186) (by kernel_rfl) Tryz.underlying186 (.inr Tryz.underlying9) (by kernel_rfl) (by kernel_rfl) (by kernel_rfl)
 ·cases hg
  exact Go.AE.qct h (show ("internal/strconv.uint64pow10", Rows.laid_internal_strconv_uint64pow10) ∈ _ from .tail _ (.tail _ (.head _))) (g := 4) (by kernel_rfl) (t := 201) (by kernel_rfl) Tryz.underlying201 (.inl ⟨_, Tryz.underlying192⟩) (by kernel_rfl) (by kernel_rfl) (by kernel_rfl)
 ·cases hg
  exact Go.AE.qct h (show ("math/bits.deBruijn32tab", Rows.laid_math_bits_deBruijn32tab) ∈ _ from .head _) (g := 5) (by kernel_rfl) (t := 215) (by kernel_rfl) Tryz.underlying215 (.inl ⟨_, Tryz.underlying5⟩) (by kernel_rfl) (by kernel_rfl) (by kernel_rfl)
 ·cases hg
  exact Go.AE.qct h (show ("math/bits.deBruijn64tab", Rows.laid_math_bits_deBruijn64tab) ∈ _ from .tail _ (.head _)) (g := 6) (by kernel_rfl) (t := 216) (by kernel_rfl) Tryz.underlying216 (.inl ⟨_, Tryz.underlying5⟩) (by kernel_rfl) (by kernel_rfl) (by kernel_rfl)
 ·cases hg
  have h3:=h.tail.tail.tail
  obtain ⟨a, s, hv, _⟩ := laid_sentinel h3 (g := 8) (by kernel_rfl) (by kernel_rfl) Tryz.underlying106 (fun u hu => typeName_ptr_named (nm := "errors.errorString") (by kernel_rfl) (by kernel_rfl) (by decide) u (hu.trans (congrArg some (by kernel_rfl)))) Tryz.underlying224 Tryz.underlying226 rfl rfl Tryz.underlying9 (by kernel_rfl) (by kernel_rfl)
  obtain ⟨c,e,hh⟩:=laid_block h3 (g:=8) (by kernel_rfl) hv
  refine ⟨rfl,[.iface 224 (.pointer (some a))],?_,fun j v hj=>?_,fun _=>⟨c,e,hh,?_⟩⟩
  ·simp only [Go.AE.qh,Go.AE.qt]
   exact ⟨_,_,rfl,⟨_,rfl,fun e=>by cases e⟩,rfl⟩
  ·have hc:=World.var?_cell (g:=8) (by kernel_rfl) hv j
   rw [hc]
   simpa using hj
  ·have q:=hv
   simp only [World.var?, show Tryz.prog.globalNamed "strconv.ErrRange" = some 8 by kernel_rfl, Option.bind_some, hh, Option.some.injEq] at q
   rw [q]
   rfl
 ·cases hg
theorem own:ownKnob Tryz.prog.godebug = none:=by kernel_rfl
theorem qCA {H:Type} {enc:TypeId×Value→H} {P:Program} (hl:laidOutB P = true) {W W':World} (hk:W.keptBut W' (fun _=>False)) {t:TypeId} (hr:P.readableRec t = true) (ht:t < P.types.size) {v:Value} {d:DataW H} {ps:List MemPlace} (h:DataW.Trod enc P W 0 (fun _=>true) true t v d ps) :
  DataW.Trod enc P W' 0 (fun b=>decide (b < W.heap.size)) true t v d ps:=by
 have hlt:∀x ∈ ps,x.block < W.heap.size:=by
  obtain ⟨n,hn⟩:=h
  exact DataW.trod_lt n _ _ _ hn
 exact WideElems.Trod_stays hl hr ht h (fun x hx=>Go.AE.qpM hk (hlt x hx)) (fun x hx=>by simpa using hlt x hx)
theorem qte {P:Program} {c:OpenClaim} (hs:c.start = .entering) (h:P.funcs.any Func.goes = false):false = c.goesBy P:=by
 have key:∀g:Nat,(P.funcs[g]?).any Func.goes = false:=by
  intro g
  cases hg:P.funcs[g]? with
  | none=>rfl
  | some fn=>
   have hm:=Array.mem_of_getElem? hg
   rw [Array.any_eq_false] at h
   obtain ⟨i,hi,rfl⟩:=Array.getElem_of_mem hm
   simpa using h i hi
 have k2:∀f,P.goes f = false:=by
  intro f
  unfold Program.goes
  rw [h,Bool.and_false,Bool.or_false]
  exact List.any_eq_false.2 fun g _=>by rw [key g];simp
 unfold OpenClaim.goesBy Program.goesAt Program.goesFrom
 rw [hs]
 cases P.funcNamed c.func with
 | none=>rfl
 | some f=>simp [k2 f]
theorem qpN:laidOutB Tryz.prog = true:=by kernel_rfl
theorem qAc:Go.AE.qwb Tryz.prog [24,22,9,3] = true:=by kernel_rfl
theorem qzE (os:Os) (started:os.Started) (H:Type) (enc:TypeId×Value→H) :
  ReturnsInHanded {} Tryz.checked os 3 .any (fun w args=>(Rows.showExprsSpec.pre enc Tryz.prog Tryz.f3 Rows.showExprsRow.domain false w args∧laidMetH Tryz.prog Rows.showExprsRow.laid w)∧sizedMet enc Tryz.prog Tryz.f3 (OpenSpec.ofChange Rows.showExprsSpec) false w args)
   (Rows.showExprsSpec.post enc Tryz.prog Tryz.f3 false true false false):=by
 refine returnsInHanded_of_change_and (C:=Tryz.checked) (X:=fun w _=>laidMetH Tryz.prog Rows.showExprsRow.laid w) (fun _ _ _ hh h=>h.of_heap hh) own started (by kernel_rfl) Tryz.func3
  (ChangeSpec.witness_shaped (enc:=enc) (C:=Tryz.checked) (os:=os) (X:=fun w _=>laidMetH Tryz.prog Rows.showExprsRow.laid w) false (World.laidAll Tryz.prog os Rows.showExprsRow.laid) #[.agg #[.int .i64 0,.int .i64 0,.string ByteArray.empty,.string ByteArray.empty,.slice none 0 0]] 8 (World.laidAll_os _ _ _)
   (World.shaped_of_ZipB (by kernel_rfl) (by kernel_rfl)) (by kernel_rfl) (by kernel_rfl) (by kernel_rfl)
   (by rw [MakeChecks.laidMetH_plain _ _ _ (by kernel_rfl)];exact laidMet_laidAll _ (by kernel_rfl) (by kernel_rfl))) ?_
 intro W base args ds gs before hval0 hW hc _ hL _
 have hval:∀(j:Nat) t v,Tryz.f3.params[j]? = some t→args[j]? = some v→Value.okWide Tryz.prog W .any base t v:=hval0
 have hW':=hW
 obtain ⟨p,q,hA0,hV,rfl,_,_⟩:=hW
 have hA:DataW.TrodAll enc Tryz.prog W 0 (fun _=>true) true Tryz.f3.params.toList args.toList ds p:=hA0
 rw [Tryz.params3] at hA hval
 obtain ⟨v0,d0,rfl,rfl,h0⟩:=trodAll_one hA
 obtain ⟨rfl,rfl⟩:=trodVars_none hV
 obtain ⟨n0,a0,f0,r0⟩:=Go.AE.qtZ qpN qAc (t:=24) (by decide) (hval 0 24 v0 rfl rfl) h0
 obtain ⟨p0,hp0,ho⟩:=qs5 f0
 simp only [List.append_nil,List.nil_append] at hW'
 obtain ⟨h',e',hw⟩:=AE.qii ho []
 rw [←hp0] at hw
 obtain ⟨n,hrun⟩:=(Go.AE.qr3 AE.qfp _).1 hw
 have hcall:=Go.AE.qlv (qy6 n) Tryz.func3 (by kernel_rfl) (show Tryz.f3.body = some _ from rfl) hrun (qE8 hL) (vs:=#[v0]) (by simp only [Go.AE.qh];exact ⟨_,_,rfl,r0,rfl⟩)
 refine hcall.mono fun e W' ⟨v,G',he,hv,hk⟩=>?_
 subst he
 simp only [Go.AE.qd.V,Go.AE.qt] at hv
 subst hv
 refine ⟨_,rfl,_,_,_,[],_,[],hW',?_,trodAll_mk1 (qCA qpN hk (by kernel_rfl) (of_decide_eq_true (by kernel_rfl)) h0),?_,World.keptBut_mono (fun _ f=>f.elim) hk,fun h=>by cases h⟩
 ·exact trodAll_mk1 (shut_bool Tryz.underlying4 _)
 ·rfl
theorem qrg:Rows.ShowExprsSaid:=
 OpenClaim.holds_of_wide 3 Tryz.f3 rfl rfl rfl rfl rfl rfl rfl ⟨rfl,rfl,rfl,rfl,rfl⟩ rfl rfl rfl rfl rfl (by kernel_rfl) Tryz.func3 facts
  (of_decide_eq_true (by kernel_rfl)) (by unfold Func.isWrapper;first | (rw [if_pos (by decide +kernel)];kernel_rfl) | (rw [if_neg (by decide +kernel)];exact ⟨rfl,rfl⟩))
  (fun os started H enc _=>qzE os started H enc)
theorem showExprs_holds:Rows.ShowExprsCardSaid:=
 Claim7.holds_tied_plain_at .later [] [.data, .data, .data, .sentinel, .sentinel, .data, .data, .data] true (true, "97fee0d9cb8fcff3d7a626d4621caf66c24a844c9e6d1a38acd23e7b72121120") true qrg (fun _ h => by cases h) (by kernel_rfl) (fun _ h => by cases h) showExprs_row_tie rfl ⟨rfl, rfl⟩ (by kernel_rfl) rfl
  (fun f fn hf hfn=>by
   obtain rfl : f = 3 := Option.some.inj ((show Tryz.prog.funcNamed "gavotte/gavottelaw11.ShowExprs" = some 3 by kernel_rfl).symm.trans hf) |>.symm
   obtain rfl:fn = Tryz.f3:=(Option.some.inj (Tryz.func3.symm.trans hfn)).symm
   exact ⟨by kernel_rfl,fun j t ht=>by
    rw [Tryz.params3] at ht
    have hm:t ∈ [24]:=by simpa using Array.mem_of_getElem? ht
    have hall:([24].all fun u=>!Tryz.prog.wantsStandIn u) = true:=by kernel_rfl
    exact (show Tryz.prog.wantsStandIn t = false by simpa using List.all_eq_true.1 hall t hm)⟩)
  (qte rfl (by kernel_rfl))
#print axioms showExprs_holds
end Go.Proofs.YtkmlapholimbcaaGreatDoor
