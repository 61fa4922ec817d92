/- A part of the proof. No condition. -/
import Derived.Test.YtkehdpkcdnofaaaGreatDoorMr2
import Derived.Test.YtkehdpkcdnofaaaGreatDoorMr29
import Derived.Test.YtkehdpkcdnofaaaGreatDoorMr3
import Derived.Test.YtkehdpkcdnofaaaGreatDoorMr24
import Derived.Test.YtkehdpkcdnofaaaGreatDoorCards
import Derived.Test.YtkehdpkcdnofaaaGreatDoorTie
import Derived.ProofKit
import Derived.OpenShut
import Derived.LaidMore
import Derived.Lay
import Derived.SevenTiedAt
import Derived.Stop.Joined
import Derived.Stop.LaidErr
import Derived.MakeChecks
import Derived.ChangeMaps5
set_option maxRecDepth 100000
namespace Go.Proofs.YtkehdpkcdnofaaaGreatDoor
open Go.ChangeShapes Go.WideShapes Go.ChangeAt Go.RowKit
open Go.ChangeMaps (open_string shut_string)
theorem qpf {P:Program} {n:String} {d:DataW Unit} {r:List (String×DataW Unit)} {W:World} {g:Nat} {x:Value} (h:laidMet P ((n,d) :: r) W) (hg:P.globalNamed n = some g) (hx:W.var? P n = some #[x]):∃c e,W.heap[g]? = some (.cells c e (0,0)):=by
 obtain ⟨ps,hv,a6,E⟩:=h
 obtain ⟨g',t',cs,fuel,p,q,Y,a1,I,hd,hq,U⟩:=hv
 obtain rfl:=Option.some.inj (hg.symm.trans Y)
 have e:=Option.some.inj (hx.symm.trans I)
 have hs:0 < cs.size:=by rw [<-e];exact Nat.zero_lt_one
 exact (E g 0 (by
  rw [U]
  refine List.mem_append_left _ (List.mem_append_left _ ?_)
  exact MemPlace.mem_row.2 ⟨0,by first | exact hs | omega,rfl⟩)).1
theorem mx:Tryz.prog.follows .mixedOrders = true:=by kernel_rfl
theorem qCx:Go.AE.qqA Tryz.prog AE.gl AE.T.get:=Go.AE.qtD AE.qFT
theorem qDO:∀f g,AE.X f = some g->Go.AE.qqo Tryz.prog AE.gl f g:=by
 intro f g h
 unfold AE.X at h
 split at h
 ·cases h;exact Go.AE.qnL mx Tryz.func9 (by kernel_rfl) AE.kt9 Tryz.func21 (by kernel_rfl) 4000
 ·cases h;exact Go.AE.qnL mx Tryz.func18 (by kernel_rfl) AE.qGf Tryz.func42 (by kernel_rfl) 4000
 ·cases h;exact Go.AE.qvH Tryz.laysIndex Tryz.func96 (by kernel_rfl) rfl
 ·cases h;exact Go.AE.qyc (tp:=208) Tryz.laysAtoi Tryz.func123 (by kernel_rfl) rfl (by kernel_rfl)
 ·cases h
theorem qh5 {g:Go.AE.Call->List Go.AE.qd->List Go.AE.qk->Option (Go.AE.qfJ×List Go.AE.qk×Bool)} (hg:∀call xs h r h' e,g call xs h = some (r,h',e)->h' = h) (call:Go.AE.Call):Go.AE.qap λ_ xs h=>g call xs h:=by
 intro fv xs h r h' e' hr
 obtain rfl:=hg _ _ _ _ _ _ hr
 exact ⟨Nat.le_refl _,λ_=>Go.AE.qao.refl _ _⟩
theorem qvz:∀f g,AE.X f = some g->∀call,Go.AE.qap call->Go.AE.qap λ_ xs h=>g call xs h:=by
 intro f g h
 unfold AE.X at h
 split at h
 ·cases h;exact λcall hk=>Go.AE.qih hk
 ·cases h;exact λcall hk=>Go.AE.qih hk
 ·cases h;exact λcall hk=>qh5 Go.AE.qmC call
 ·cases h;exact λcall hk=>qh5 Go.AE.qol call
 ·cases h
theorem qBs (n:Nat):Go.AE.qea Tryz.prog AE.gl (Go.AE.run AE.T.get AE.X n):=Go.AE.qlR mx qCx qDO qvz n
theorem qHB {W:World} (h:laidMetH Tryz.prog Rows.readProgramsRow.laid W):Go.AE.qC2 AE.gl W:=by
 rw [MakeChecks.laidMetH_plain _ _ _ (by kernel_rfl)] at h
 intro g cs hg
 unfold AE.gl at hg
 split at hg <;> first | (cases hg;exact Go.AE.qxm) | skip
 ·cases hg
  exact Go.AE.qjM h (show ("gavotte/token.marks", Rows.laid_gavotte_token_marks) ∈ _ from .tail _ (.tail _ (.tail _ (.tail _ (.tail _ (.head _)))))) (g := 0) (by kernel_rfl) (t := 167) (by kernel_rfl) Tryz.underlying167 (.inr Tryz.underlying9) (by kernel_rfl) (by kernel_rfl) (by kernel_rfl)
 ·cases hg
  exact Go.AE.qjM h (show ("gavotte/ast.words", Rows.laid_gavotte_ast_words) ∈ _ from .tail _ (.tail _ (.tail _ (.tail _ (.tail _ (.tail _ (.head _))))))) (g := 1) (by kernel_rfl) (t := 184) (by kernel_rfl) Tryz.underlying184 (.inr Tryz.underlying9) (by kernel_rfl) (by kernel_rfl) (by kernel_rfl)
 ·cases hg
  have h3:=h.tail.tail.tail
  obtain ⟨a, s, hv, _⟩ := laid_sentinel h3 (g := 4) (by kernel_rfl) (by kernel_rfl) Tryz.underlying181 (λu hu => typeName_ptr_named (nm := "errors.errorString") (by kernel_rfl) (by kernel_rfl) (by decide) u (hu.trans (congrArg some (by kernel_rfl)))) Tryz.underlying208 Tryz.underlying210 rfl rfl Tryz.underlying9 (by kernel_rfl) (by kernel_rfl)
  obtain ⟨c,e,hh⟩:=qpf h3 (g:=4) (by kernel_rfl) hv
  refine ⟨rfl,[.iface 208 (.pointer (some a))],?_,λj v hj=>?_,λ_=>⟨c,e,hh,?_⟩⟩
  ·simp only [Go.AE.qv,Go.AE.qT]
   exact ⟨_,_,rfl,⟨_,rfl,λe=>by cases e⟩,rfl⟩
  ·have hc:=World.var?_cell (g:=4) (by kernel_rfl) hv j
   rw [hc]
   simpa using hj
  ·have q:=hv
   simp only [World.var?, show Tryz.prog.globalNamed "strconv.ErrRange" = some 4 by kernel_rfl, Option.bind_some, hh, Option.some.injEq] at q
   rw [q]
   rfl
 ·cases hg
theorem own:ownKnob Tryz.prog.godebug = none:=by kernel_rfl
def ql4:Prop:=∀s:List UInt8,∃n,Go.AE.run AE.T.get AE.X n (.fn 3 [] []) [.str s] [] = some (.ret (.bool true),[],false)
theorem qB5 (a6:ql4) (os:Os) (started:os.Started) (H:Type) (enc:TypeId×Value->H) :
  ReturnsInHanded {} Tryz.checked os 3 .any (λw args=>(Rows.readProgramsSpec.pre enc Tryz.prog Tryz.f3 Rows.readProgramsRow.domain false w args/\laidMetH Tryz.prog Rows.readProgramsRow.laid w)/\sizedMet enc Tryz.prog Tryz.f3 (OpenSpec.ofChange Rows.readProgramsSpec) false w args)
   (Rows.readProgramsSpec.post enc Tryz.prog Tryz.f3 false true false false):=by
 refine returnsInHanded_of_change_and (C:=Tryz.checked) (X:=λw _=>laidMetH Tryz.prog Rows.readProgramsRow.laid w) (λ_ _ _ hh h=>h.of_heap hh) own started (by kernel_rfl) Tryz.func3
  (ChangeSpec.witness_shaped (enc:=enc) (C:=Tryz.checked) (os:=os) (X:=λw _=>laidMetH Tryz.prog Rows.readProgramsRow.laid w) false (World.laidAll Tryz.prog os Rows.readProgramsRow.laid) #[.string ByteArray.empty] 8 (World.laidAll_os _ _ _)
   (World.shaped_of_ZipB (by kernel_rfl) (by kernel_rfl)) (by kernel_rfl) (by kernel_rfl) (by kernel_rfl)
   (by rw [MakeChecks.laidMetH_plain _ _ _ (by kernel_rfl)];exact laidMet_laidAll _ (by kernel_rfl) (by kernel_rfl))) ?_
 intro W base args ds gs before I hW hc _ hL _
 have E:∀(j:Nat) t v,Tryz.f3.params[j]? = some t->args[j]? = some v->Value.okWide Tryz.prog W .any base t v:=I
 have Y:=hW
 obtain ⟨p,q,a7,hV,rfl,_,_⟩:=hW
 have hA:DataW.TrodAll enc Tryz.prog W 0 (λ_=>true) true Tryz.f3.params.toList args.toList ds p:=a7
 rw [Tryz.params3] at hA E
 obtain ⟨v0,d0,rfl,rfl,h0⟩:=trodAll_one hA
 obtain ⟨rfl,rfl⟩:=trodVars_none hV
 obtain ⟨s,rfl,rfl,rfl,hs⟩:=open_string Tryz.underlying9 (E 0 9 v0 rfl rfl) h0
 simp only [List.append_nil] at Y
 obtain ⟨n,a1⟩:=a6 s.data.toList
 have U:=Go.AE.qos (qBs n) Tryz.func3 (by kernel_rfl) (show Tryz.f3.body = some _ from rfl) a1 (qHB hL) (vs:=#[.string s]) (by simp only [Go.AE.qv,Go.AE.qT];exact ⟨_,_,rfl,⟨s,rfl,rfl⟩,rfl⟩)
 refine U.mono λe W' ⟨v,G',he,hv,hk⟩=>?_
 subst he
 simp only [Go.AE.ql.V,Go.AE.qT] at hv
 subst hv
 refine ⟨_,rfl,_,_,_,[],[],[],Y,?_,?_,?_,World.keptBut_mono (λ_ f=>f.elim) hk,λh=>by cases h⟩
 ·exact trodAll_mk1 (shut_bool Tryz.underlying4 _)
 ·exact trodAll_mk1 (shut_string Tryz.underlying9 hs)
 ·rfl
theorem qtU (E:ql4):Rows.ReadProgramsSaid:=
 OpenClaim.holds_of_wide 3 Tryz.f3 rfl rfl rfl rfl rfl rfl rfl ⟨rfl,rfl,rfl,rfl,rfl⟩ rfl rfl rfl rfl rfl (by kernel_rfl) Tryz.func3 (by kernel_rfl)
  (of_decide_eq_true (by kernel_rfl)) (by unfold Func.isWrapper;first | (rw [if_pos (by decide +kernel)];kernel_rfl) | (rw [if_neg (by decide +kernel)];exact ⟨rfl,rfl⟩))
  (λos started H enc _=>qB5 E os started H enc)
end Go.Proofs.YtkehdpkcdnofaaaGreatDoor
