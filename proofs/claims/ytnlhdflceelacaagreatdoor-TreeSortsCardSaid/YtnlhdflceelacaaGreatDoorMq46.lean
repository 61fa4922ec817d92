/- Proved: gavottelaw17.TreeSorts answers true for any messages, and they read as they did. Conditions: the listed package-level variables read as the program's text lays them (tied). -/
import Derived.Test.YtnlhdflceelacaaGreatDoorMq2
import Derived.Test.YtnlhdflceelacaaGreatDoorMq12
import Derived.Test.YtnlhdflceelacaaGreatDoorMq19
import Derived.Test.YtnlhdflceelacaaGreatDoorMq44
import Derived.Test.YtnlhdflceelacaaGreatDoorMq3
import Derived.Test.YtnlhdflceelacaaGreatDoorMq45
import Derived.Test.YtnlhdflceelacaaGreatDoorCards
import Derived.Test.YtnlhdflceelacaaGreatDoorTie
import Derived.ProofKit
import Derived.OpenShut
import Derived.LaidMore
import Derived.Lay
import Derived.SevenTiedAt
import Derived.Stop.Joined
import Derived.MakeChecks
import Derived.ChangeMaps5
import Derived.Carry
set_option maxRecDepth 100000
namespace Go.Proofs.YtnlhdflceelacaaGreatDoor
open Go.ChangeShapes Go.WideShapes Go.ChangeAt Go.RowKit
open Go.ChangeMaps (open_string shut_string)
theorem mx:Tryz.prog.follows .mixedOrders = true:=by kernel_rfl
theorem qsd:Go.AE.qcn Tryz.prog AE.gl AE.T.get:=Go.AE.qoE AE.qFT
theorem qyj:∀f g,AE.X f = some g→Go.AE.qgL Tryz.prog AE.gl f g:=by
 intro f g h
 unfold AE.X at h
 split at h
 ·cases h;exact Go.AE.qqu mx Tryz.func27 (by kernel_rfl) AE.qGl Tryz.func60 (by kernel_rfl) 4000
 ·cases h;exact Go.AE.qps Tryz.func360 (by kernel_rfl) (by kernel_rfl) (by kernel_rfl) (by kernel_rfl)
 ·cases h;exact Go.AE.qrE Tryz.func359 (by kernel_rfl) (by kernel_rfl) (by kernel_rfl) (by kernel_rfl)
 ·cases h;exact Go.AE.qvc Tryz.func252 (by kernel_rfl) (by kernel_rfl) (by kernel_rfl) (by kernel_rfl)
 ·cases h
theorem qqn:∀f g,AE.X f = some g→∀call,Go.AE.qF call→Go.AE.qF fun _ xs h=>g call xs h:=by
 intro f g h
 unfold AE.X at h
 split at h
 ·cases h;exact fun call hk=>Go.AE.qij hk
 ·cases h;exact fun call _=>Go.AE.qdf Go.AE.qhS call
 ·cases h;exact fun call _=>Go.AE.qdf Go.AE.qiS call
 ·cases h;exact fun call _=>Go.AE.qdf Go.AE.qlS call
 ·cases h
theorem qva (n:Nat):Go.AE.qbd Tryz.prog AE.gl (Go.AE.run AE.T.get AE.Z n):=(AE.qyk mx qsd ⟨qyj,qqn⟩).call mx qsd n
theorem qHz {W:World} (h:laidMetH Tryz.prog Rows.treeSortsRow.laid W):Go.AE.qx0 AE.gl W:=by
 rw [MakeChecks.laidMetH_plain _ _ _ (by kernel_rfl)] at h
 intro g cs hg
 unfold AE.gl at hg
 split at hg <;> first | (cases hg;exact Go.AE.qrM) | skip
 ·cases hg
  exact Go.AE.qb5 h (show ("gavotte/ast.words", Rows.laid_gavotte_ast_words) ∈ _ from .tail _ (.tail _ (.tail _ (.tail _ (.tail _ (.tail _ (.head _))))))) (g := 0) (by kernel_rfl) (t := 350) (by kernel_rfl) Tryz.underlying350 (.inr Tryz.underlying9) (by kernel_rfl) (by kernel_rfl)
 ·cases hg
  exact Go.AE.qb5 h (show ("gavotte/token.marks", Rows.laid_gavotte_token_marks) ∈ _ from .tail _ (.tail _ (.tail _ (.tail _ (.tail _ (.head _)))))) (g := 2) (by kernel_rfl) (t := 426) (by kernel_rfl) Tryz.underlying426 (.inr Tryz.underlying9) (by kernel_rfl) (by kernel_rfl)
 ·cases hg
  exact Go.AE.qb5 h (show ("internal/strconv.uint64pow10", Rows.laid_internal_strconv_uint64pow10) ∈ _ from .tail _ (.tail _ (.head _))) (g := 7) (by kernel_rfl) (t := 571) (by kernel_rfl) Tryz.underlying571 (.inl ⟨_, Tryz.underlying398⟩) (by kernel_rfl) (by kernel_rfl)
 ·cases hg
  exact Go.AE.qb5 h (show ("math/bits.deBruijn32tab", Rows.laid_math_bits_deBruijn32tab) ∈ _ from .head _) (g := 8) (by kernel_rfl) (t := 573) (by kernel_rfl) Tryz.underlying573 (.inl ⟨_, Tryz.underlying5⟩) (by kernel_rfl) (by kernel_rfl)
 ·cases hg
  exact Go.AE.qb5 h (show ("math/bits.deBruijn64tab", Rows.laid_math_bits_deBruijn64tab) ∈ _ from .tail _ (.head _)) (g := 9) (by kernel_rfl) (t := 574) (by kernel_rfl) Tryz.underlying574 (.inl ⟨_, Tryz.underlying5⟩) (by kernel_rfl) (by kernel_rfl)
 ·cases hg
theorem own:ownKnob Tryz.prog.godebug = none:=by kernel_rfl
theorem qCH {H:Type} {enc:TypeId×Value→H} {P:Program} (hl:laidOutB P = true) {W W':World} (hk:W.keptBut W' (fun _=>False)) {t:TypeId} (hr:P.readableRec t = true) (ht:t < P.types.size) {v:Value} {d:DataW H} {ps:List MemPlace} (h:DataW.Trod enc P W 0 (fun _=>true) true t v d ps) :
  DataW.Trod enc P W' 0 (fun b=>decide (b < W.heap.size)) true t v d ps:=by
 have hlt:∀x ∈ ps,x.block < W.heap.size:=by
  obtain ⟨n,hn⟩:=h
  exact DataW.trod_lt n _ _ _ hn
 exact WideElems.Trod_stays hl hr ht h (fun x hx=>Go.AE.qnr hk (hlt x hx)) (fun x hx=>by simpa using hlt x hx)
theorem qi8 {P:Program} {n:Nat} {t:TypeId} {ws:List Go.AE.qa} {k:IntKind} (h:Go.AE.qc6 P n t ws) (hu:P.underlying t = some (.int k)):∃z,ws = [.int k z]:=by
 cases n with
 | zero=>exact h.elim
 | succ n=>
  simp only [Go.AE.qc6,hu] at h
  exact ⟨_,h.choose_spec.1⟩
theorem qie {P:Program} {n:Nat} {t:TypeId} {ws:List Go.AE.qa} {fs:Array Field} (h:Go.AE.qc6 P n t ws) (hu:P.underlying t = some (.struct fs)):∃m ass,ws = List.flatten ass∧Go.AE.qf3 (Go.AE.qc6 P m) (fs.toList.map (·.type)) ass:=by
 cases n with
 | zero=>exact h.elim
 | succ n=>
  simp only [Go.AE.qc6,hu] at h
  obtain ⟨ass,h1,h2⟩:=h
  exact ⟨n,ass,h1,h2⟩
theorem quP {P:Program} {n:Nat} {t e:TypeId} {ws:List Go.AE.qa} (h:Go.AE.qc6 P n t ws) (hu:P.underlying t = some (.slice e)):∃xs,ws = [.lst xs .no]:=by
 cases n with
 | zero=>exact h.elim
 | succ n=>
  simp only [Go.AE.qc6,hu] at h
  obtain ⟨xs,h1,_⟩:=h
  exact ⟨_,h1⟩
theorem qeL {P:Program} {n:Nat} {t:TypeId} {ws:List Go.AE.qa} (h:Go.AE.qc6 P n t ws) (hu:P.underlying t = some .string):∃s,ws = [.str s]:=by
 cases n with
 | zero=>exact h.elim
 | succ n=>
  simp only [Go.AE.qc6,hu] at h
  exact ⟨_,h.choose_spec.1⟩
theorem elV (x:List Go.AE.qa):Go.AE.el Tryz.prog 63 x = .agg x:=by
 unfold Go.AE.el
 rw [show Go.AE.qa9 Tryz.prog 63 = true by kernel_rfl]
 rfl
theorem elM (x:List Go.AE.qa):Go.AE.el Tryz.prog 65 x = .agg x:=by
 unfold Go.AE.el
 rw [show Go.AE.qa9 Tryz.prog 65 = true by kernel_rfl]
 rfl
theorem qle (n:Nat):∀ws:List Go.AE.qa,Go.AE.qc6 Tryz.prog n 63 ws→∃v:AE.Val,ws = v.enc:=by
 induction n using Nat.strongRecOn with
 | ind n ih=>
  intro ws h
  match n,h,ih with
  | m + 1,h,ih=>
   simp only [Go.AE.qc6,Tryz.underlying63] at h
   obtain ⟨ass,rfl,h1⟩:=h
   match ass,h1 with
   | [p,q,r,l],⟨h2,h3,h4,h5,_⟩=>
    obtain ⟨z1,rfl⟩:=qi8 h2 Tryz.underlying3
    obtain ⟨z2,rfl⟩:=qi8 h3 Tryz.underlying3
    obtain ⟨s,rfl⟩:=qeL h4 Tryz.underlying9
    match m,h5,ih with
    | k + 1,h5,ih=>
     simp only [Go.AE.qc6,Tryz.underlying61] at h5
     obtain ⟨xs,rfl,_,h6⟩:=h5
     have key:∀xs:List (List Go.AE.qa),(∀x ∈ xs,Go.AE.qc6 Tryz.prog k 63 x)→∃l:List AE.Val,xs.map (Go.AE.el Tryz.prog 63) = l.map AE.qal:=by
      intro xs
      induction xs with
      | nil=>exact fun _=>⟨[],rfl⟩
      | cons x xs ihx=>
       intro hx
       obtain ⟨l,h3⟩:=ihx fun y hy=>hx y (List.mem_cons_of_mem _ hy)
       obtain ⟨v,hv⟩:=ih k (by omega) x (hx x List.mem_cons_self)
       exact ⟨v :: l,by rw [List.map_cons,List.map_cons,h3,elV,hv];rfl⟩
     obtain ⟨l,hl⟩:=key xs h6
     exact ⟨.mk z1 z2 s l,by rw [AE.qfE,←hl];rfl⟩
theorem qrb {n:Nat} {ws:List Go.AE.qa} (h:Go.AE.qc6 Tryz.prog n 65 ws):∃m:AE.Msg,Go.AE.qa.agg ws = AE.qdO m:=by
 obtain ⟨m,ass,rfl,h1⟩:=qie h Tryz.underlying65
 match ass,h1 with
 | [p,v],⟨h2,h3,_⟩=>
  obtain ⟨s,rfl⟩:=qeL h2 Tryz.underlying9
  obtain ⟨u,rfl⟩:=qle m v h3
  exact ⟨⟨s,u⟩,by simp [AE.qdO]⟩
theorem qpx {n:Nat} {ws:List Go.AE.qa} (h:Go.AE.qc6 Tryz.prog n 22 ws):∃ms:List AE.Msg,ws = [.lst (ms.map AE.qdO) .no]:=by
 cases n with
 | zero=>exact h.elim
 | succ n=>
  simp only [Go.AE.qc6,Tryz.underlying22] at h
  obtain ⟨xs,rfl,_,h1⟩:=h
  have key:∀xs:List (List Go.AE.qa),(∀x ∈ xs,Go.AE.qc6 Tryz.prog n 65 x)→∃l:List AE.Msg,xs.map (Go.AE.el Tryz.prog 65) = l.map AE.qdO:=by
   intro xs
   induction xs with
   | nil=>exact fun _=>⟨[],rfl⟩
   | cons x xs ihx=>
    intro hx
    obtain ⟨l,h3⟩:=ihx fun y hy=>hx y (List.mem_cons_of_mem _ hy)
    obtain ⟨v,hv⟩:=qrb (hx x List.mem_cons_self)
    exact ⟨v :: l,by rw [List.map_cons,List.map_cons,h3,elM,hv]⟩
  obtain ⟨l,hl⟩:=key xs h1
  exact ⟨l,by rw [hl]⟩
theorem qqx {P:Program} {c:OpenClaim} (hs:c.start = .entering) (h:P.funcs.any Func.goes = false):false = c.goesBy P:=by
 have key:∀g:Nat,(P.funcs[g]?).any Func.goes = false:=by
  intro g
  cases hg:P.funcs[g]? with
  | none=>rfl
  | some fn=>
   have hm:=Array.mem_of_getElem? hg
   rw [Array.any_eq_false] at h
   obtain ⟨i,hi,rfl⟩:=Array.getElem_of_mem hm
   simpa using h i hi
 have k2:∀f,P.goes f = false:=by
  intro f
  unfold Program.goes
  rw [h,Bool.and_false,Bool.or_false]
  exact List.any_eq_false.2 fun g _=>by rw [key g];simp
 unfold OpenClaim.goesBy Program.goesAt Program.goesFrom
 rw [hs]
 cases P.funcNamed c.func with
 | none=>rfl
 | some f=>simp [k2 f]
theorem qnu:laidOutB Tryz.prog = true:=by kernel_rfl
theorem qxv:Go.AE.qsU Tryz.prog [22,65,9,63,3,61] = true:=by kernel_rfl
theorem qxe (os:Os) (started:os.Started) (H:Type) (enc:TypeId×Value→H) :
  ReturnsInHanded {} Tryz.checked os 3 .any (fun w args=>(Rows.treeSortsSpec.pre enc Tryz.prog Tryz.f3 Rows.treeSortsRow.domain false w args∧laidMetH Tryz.prog Rows.treeSortsRow.laid w)∧sizedMet enc Tryz.prog Tryz.f3 (OpenSpec.ofChange Rows.treeSortsSpec) false w args)
   (Rows.treeSortsSpec.post enc Tryz.prog Tryz.f3 false true false false):=by
 refine returnsInHanded_of_change_and (C:=Tryz.checked) (X:=fun w _=>laidMetH Tryz.prog Rows.treeSortsRow.laid w) (fun _ _ _ hh h=>h.of_heap hh) own started (by kernel_rfl) Tryz.func3
  (ChangeSpec.witness_shaped (enc:=enc) (C:=Tryz.checked) (os:=os) (X:=fun w _=>laidMetH Tryz.prog Rows.treeSortsRow.laid w) false (World.laidAll Tryz.prog os Rows.treeSortsRow.laid) #[.slice none 0 0] 8 (World.laidAll_os _ _ _)
   (World.shaped_of_ZipB (by kernel_rfl) (by kernel_rfl)) (by kernel_rfl) (by kernel_rfl) (by kernel_rfl)
   (by rw [MakeChecks.laidMetH_plain _ _ _ (by kernel_rfl)];exact laidMet_laidAll _ (by kernel_rfl) (by kernel_rfl))) ?_
 intro W base args ds gs before hval0 hW hc _ hL _
 have hval:∀(j:Nat) t v,Tryz.f3.params[j]? = some t→args[j]? = some v→Value.okWide Tryz.prog W .any base t v:=hval0
 have hW':=hW
 obtain ⟨p,q,hA0,hV,rfl,_,_⟩:=hW
 have hA:DataW.TrodAll enc Tryz.prog W 0 (fun _=>true) true Tryz.f3.params.toList args.toList ds p:=hA0
 rw [Tryz.params3] at hA hval
 obtain ⟨v0,d0,rfl,rfl,h0⟩:=trodAll_one hA
 obtain ⟨rfl,rfl⟩:=trodVars_none hV
 obtain ⟨n0,a0,f0,r0⟩:=Go.AE.qrf qnu qxv (t:=22) (by decide) (hval 0 22 v0 rfl rfl) h0
 obtain ⟨ms,rfl⟩:=qpx f0
 simp only [List.append_nil,List.nil_append] at hW'
 obtain ⟨h',e',hw⟩:=AE.qxd ms
 obtain ⟨n,hrun⟩:=(AE.qrR _).1 hw
 have hcall:=Go.AE.qjG (qva n) Tryz.func3 (by kernel_rfl) (show Tryz.f3.body = some _ from rfl) hrun (qHz hL) (vs:=#[v0]) (by simp only [Go.AE.qh];exact ⟨_,_,rfl,r0,rfl⟩)
 refine hcall.mono fun e W' ⟨v,G',he,hv,hk⟩=>?_
 subst he
 simp only [Go.AE.qe.V,Go.AE.qn] at hv
 subst hv
 refine ⟨_,rfl,_,_,_,[],_,[],hW',?_,trodAll_mk1 (qCH qnu hk (by kernel_rfl) (of_decide_eq_true (by kernel_rfl)) h0),?_,World.keptBut_mono (fun _ f=>f.elim) hk,fun h=>by cases h⟩
 ·exact trodAll_mk1 (shut_bool Tryz.underlying4 _)
 ·rfl
theorem qoS:Rows.TreeSortsSaid:=
 OpenClaim.holds_of_wide 3 Tryz.f3 rfl rfl rfl rfl rfl rfl rfl ⟨rfl,rfl,rfl,rfl,rfl⟩ rfl rfl rfl rfl rfl (by kernel_rfl) Tryz.func3 facts
  (of_decide_eq_true (by kernel_rfl)) (by unfold Func.isWrapper;first | (rw [if_pos (by decide +kernel)];kernel_rfl) | (rw [if_neg (by decide +kernel)];exact ⟨rfl,rfl⟩))
  (fun os started H enc _=>qxe os started H enc)
theorem treeSorts_holds:Rows.TreeSortsCardSaid:=
 Claim7.holds_tied_plain_at .later [] [.data, .data, .data, .sentinel, .sentinel, .data, .data] true (true, "e1281b58f2fa4871c9e3b66b37cffa69f5a30810e0965eabbfc0c42ba4542456") true qoS (fun _ h => by cases h) (by kernel_rfl) (fun _ h => by cases h) treeSorts_row_tie rfl ⟨rfl, rfl⟩ (by kernel_rfl) rfl
  (fun f fn hf hfn=>by
   obtain rfl : f = 3 := Option.some.inj ((show Tryz.prog.funcNamed "gavotte/gavottelaw17.TreeSorts" = some 3 by kernel_rfl).symm.trans hf) |>.symm
   obtain rfl:fn = Tryz.f3:=(Option.some.inj (Tryz.func3.symm.trans hfn)).symm
   exact ⟨by kernel_rfl,fun j t ht=>by
    rw [Tryz.params3] at ht
    have hm:t ∈ [22]:=by simpa using Array.mem_of_getElem? ht
    have hall:([22].all fun u=>!Tryz.prog.wantsStandIn u) = true:=by kernel_rfl
    exact (show Tryz.prog.wantsStandIn t = false by simpa using List.all_eq_true.1 hall t hm)⟩)
  (qqx rfl (by kernel_rfl))
#print axioms treeSorts_holds
end Go.Proofs.YtnlhdflceelacaaGreatDoor
