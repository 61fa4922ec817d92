/- Proved: gavottelaw10.ReadRight answers true for every text, and the text reads as it did. Conditions: the listed package-level variables read as the program's text lays them (tied). -/
import Derived.Shelf.Small.Strs
import Derived.Shelf.Strconv.AtoiAll
import Derived.Test.YtlognicjhmcgjaaGreatDoorProg
import Derived.Test.YtlognicjhmcgjaaGreatDoorMr2
import Derived.Below
import Derived.Lib.AtoiErrMem
import Derived.Test.YtlognicjhmcgjaaGreatDoorMr3
import Derived.Test.YtlognicjhmcgjaaGreatDoorMr6
import Derived.Test.YtlognicjhmcgjaaGreatDoorCards
import Derived.Test.YtlognicjhmcgjaaGreatDoorTie
import Derived.ProofKit
import Derived.OpenShut
import Derived.LaidMore
import Derived.Lay
import Derived.SevenTiedAt
import Derived.Stop.Joined
import Derived.Stop.LaidErr
import Derived.MakeChecks
import Derived.ChangeMaps5
set_option maxRecDepth 100000
namespace Go.Proofs
open Go.Shelf
def Tryz.laysAtoi_ren:Go.Shelf.Ren:=⟨fun | 172=>258 | 244=>269 | 245=>270 | 247=>278 | 279=>279 | 280=>280 | 281=>281 | 282=>282 | 287=>286 | 316=>287 | 171=>146 | 205=>288 | 321=>290 | 322=>291 | 243=>201 | 246=>252 | 283=>263 | 284=>264 | 285=>265 | 286=>266 | 129=>274 | 317=>273 | 318=>275 | 319=>276 | 320=>277 | 337=>284 | 338=>285 | n=>n,fun | 9=>9 | 3=>3 | 75=>174 | 76=>175 | 4=>4 | 5=>5 | 167=>308 | 37=>143 | 0=>0 | 85=>309 | 2=>2 | 168=>311 | 53=>294 | 175=>315 | 46=>306 | 210=>319 | 127=>218 | 145=>326 | 143=>324 | 21=>21 | 171=>293 | 173=>297 | 212=>303 | 51=>304 | 20=>20 | 213=>305 | 232=>321 | 233=>322 | 80=>126 | n=>n,fun | 15=>5 | 16=>6 | 17=>4 | 18=>7 | 19=>8 | n=>n⟩
theorem Tryz.laysAtoi:Go.Proofs.LaysC.n172 Tryz.prog Tryz.laysAtoi_ren:={
 mixed:=by kernel_rfl
 f129:=Tryz.func274.trans (congrArg some (by kernel_rfl))
 f171:=Tryz.func146.trans (congrArg some (by kernel_rfl))
 f172:=Tryz.func258.trans (congrArg some (by kernel_rfl))
 f205:=Tryz.func288.trans (congrArg some (by kernel_rfl))
 f243:=Tryz.func201.trans (congrArg some (by kernel_rfl))
 f244:=Tryz.func269.trans (congrArg some (by kernel_rfl))
 f245:=Tryz.func270.trans (congrArg some (by kernel_rfl))
 f246:=Tryz.func252.trans (congrArg some (by kernel_rfl))
 f247:=Tryz.func278.trans (congrArg some (by kernel_rfl))
 f279:=Tryz.func279.trans (congrArg some (by kernel_rfl))
 f280:=Tryz.func280.trans (congrArg some (by kernel_rfl))
 f281:=Tryz.func281.trans (congrArg some (by kernel_rfl))
 f282:=Tryz.func282.trans (congrArg some (by kernel_rfl))
 f283:=Tryz.func263.trans (congrArg some (by kernel_rfl))
 f284:=Tryz.func264.trans (congrArg some (by kernel_rfl))
 f285:=Tryz.func265.trans (congrArg some (by kernel_rfl))
 f286:=Tryz.func266.trans (congrArg some (by kernel_rfl))
 f287:=Tryz.func286.trans (congrArg some (by kernel_rfl))
 f316:=Tryz.func287.trans (congrArg some (by kernel_rfl))
 f317:=Tryz.func273.trans (congrArg some (by kernel_rfl))
 f318:=Tryz.func275.trans (congrArg some (by kernel_rfl))
 f319:=Tryz.func276.trans (congrArg some (by kernel_rfl))
 f320:=Tryz.func277.trans (congrArg some (by kernel_rfl))
 f321:=Tryz.func290.trans (congrArg some (by kernel_rfl))
 f322:=Tryz.func291.trans (congrArg some (by kernel_rfl))
 f337:=Tryz.func284.trans (congrArg some (by kernel_rfl))
 f338:=Tryz.func285.trans (congrArg some (by kernel_rfl))
 t0:=Tryz.underlying0
 a0:=Tryz.isAgg0
 z0:=Tryz.sizeOf0
 v0:=Tryz.zeroValue0
 t2:=Tryz.underlying2
 a2:=Tryz.isAgg2
 z2:=Tryz.sizeOf2
 v2:=Tryz.zeroValue2
 t3:=Tryz.underlying3
 a3:=Tryz.isAgg3
 z3:=Tryz.sizeOf3
 v3:=Tryz.zeroValue3
 t4:=Tryz.underlying4
 a4:=Tryz.isAgg4
 z4:=Tryz.sizeOf4
 v4:=Tryz.zeroValue4
 t5:=Tryz.underlying5
 a5:=Tryz.isAgg5
 z5:=Tryz.sizeOf5
 v5:=Tryz.zeroValue5
 t9:=Tryz.underlying9
 a9:=Tryz.isAgg9
 z9:=Tryz.sizeOf9
 v9:=Tryz.zeroValue9
 t20:=Tryz.underlying20
 a20:=Tryz.isAgg20
 z20:=Tryz.sizeOf20
 v20:=Tryz.zeroValue20
 t21:=Tryz.underlying21
 a21:=Tryz.isAgg21
 z21:=Tryz.sizeOf21
 v21:=Tryz.zeroValue21
 t37:=Tryz.underlying143
 a37:=Tryz.isAgg143
 z37:=Tryz.sizeOf143
 v37:=Tryz.zeroValue143
 t46:=Tryz.underlying306
 a46:=Tryz.isAgg306
 z46:=Tryz.sizeOf306
 v46:=Tryz.zeroValue306
 t51:=Tryz.underlying304
 a51:=Tryz.isAgg304
 z51:=Tryz.sizeOf304
 v51:=Tryz.zeroValue304
 t53:=Tryz.underlying294
 a53:=Tryz.isAgg294
 z53:=Tryz.sizeOf294
 v53:=Tryz.zeroValue294
 t75:=Tryz.underlying174
 a75:=Tryz.isAgg174
 z75:=Tryz.sizeOf174
 v75:=Tryz.zeroValue174
 t76:=Tryz.underlying175
 a76:=Tryz.isAgg175
 z76:=Tryz.sizeOf175
 v76:=Tryz.zeroValue175
 t85:=Tryz.underlying309
 a85:=Tryz.isAgg309
 z85:=Tryz.sizeOf309
 v85:=Tryz.zeroValue309
 t127:=Tryz.underlying218
 a127:=Tryz.isAgg218
 z127:=Tryz.sizeOf218
 v127:=Tryz.zeroValue218
 t143:=Tryz.underlying324
 a143:=Tryz.isAgg324
 z143:=Tryz.sizeOf324
 v143:=Tryz.zeroValue324
 t145:=Tryz.underlying326
 a145:=Tryz.isAgg326
 z145:=Tryz.sizeOf326
 v145:=Tryz.zeroValue326
 t167:=Tryz.underlying308
 a167:=Tryz.isAgg308
 z167:=Tryz.sizeOf308
 v167:=Tryz.zeroValue308
 t168:=Tryz.underlying311
 a168:=Tryz.isAgg311
 z168:=Tryz.sizeOf311
 v168:=Tryz.zeroValue311
 t171:=Tryz.underlying293
 a171:=Tryz.isAgg293
 z171:=Tryz.sizeOf293
 v171:=Tryz.zeroValue293
 t173:=Tryz.underlying297
 a173:=Tryz.isAgg297
 z173:=Tryz.sizeOf297
 v173:=Tryz.zeroValue297
 t175:=Tryz.underlying315
 a175:=Tryz.isAgg315
 z175:=Tryz.sizeOf315
 v175:=Tryz.zeroValue315
 t210:=Tryz.underlying319
 a210:=Tryz.isAgg319
 z210:=Tryz.sizeOf319
 v210:=Tryz.zeroValue319
 t212:=Tryz.underlying303
 a212:=Tryz.isAgg303
 z212:=Tryz.sizeOf303
 v212:=Tryz.zeroValue303
 t213:=Tryz.underlying305
 a213:=Tryz.isAgg305
 z213:=Tryz.sizeOf305
 t232:=Tryz.underlying321
 a232:=Tryz.isAgg321
 z232:=Tryz.sizeOf321
 v232:=Tryz.zeroValue321
 t233:=Tryz.underlying322
 a233:=Tryz.isAgg322
 z233:=Tryz.sizeOf322
 v233:=Tryz.zeroValue322
 g15:=by kernel_rfl
 g16:=by kernel_rfl
 g17:=by kernel_rfl
 g18:=by kernel_rfl
 g19:=by kernel_rfl
 t80:=Tryz.underlying126
 a80:=Tryz.isAgg126
 z80:=Tryz.sizeOf126
 v80:=Tryz.zeroValue126
 i0:=by kernel_rfl
 i2:=by kernel_rfl
 i3:=by kernel_rfl
 i4:=by kernel_rfl
 i5:=by kernel_rfl
 i9:=by kernel_rfl
 i20:=by kernel_rfl
 i21:=by kernel_rfl
 i37:=by kernel_rfl
 i46:=by kernel_rfl
 i51:=by kernel_rfl
 i53:=by kernel_rfl
 i75:=by kernel_rfl
 i76:=by kernel_rfl
 i80:=by kernel_rfl
 i85:=by kernel_rfl
 i127:=by kernel_rfl
 i143:=by kernel_rfl
 i145:=by kernel_rfl
 i167:=by kernel_rfl
 i168:=by kernel_rfl
 i171:=by kernel_rfl
 i173:=by kernel_rfl
 i175:=by kernel_rfl
 i210:=by kernel_rfl
 i212:=by kernel_rfl
 i232:=by kernel_rfl
 i233:=by kernel_rfl
 m15:=by kernel_rfl
 m16:=by kernel_rfl
 m17:=by kernel_rfl
 m18:=by kernel_rfl
 m19:=by kernel_rfl
 c0:=by kernel_rfl
 c2:=by kernel_rfl
 c3:=by kernel_rfl
 c4:=by kernel_rfl
 c5:=by kernel_rfl
 c9:=by kernel_rfl
 c20:=by kernel_rfl
 c21:=by kernel_rfl
 c37:=by kernel_rfl
 c46:=by kernel_rfl
 c51:=by kernel_rfl
 c53:=by kernel_rfl
 c75:=by kernel_rfl
 c76:=by kernel_rfl
 c80:=by kernel_rfl
 c85:=by kernel_rfl
 c127:=by kernel_rfl
 c143:=by kernel_rfl
 c145:=by kernel_rfl
 c167:=by kernel_rfl
 c168:=by kernel_rfl
 c171:=by kernel_rfl
 c173:=by kernel_rfl
 c175:=by kernel_rfl
 c210:=by kernel_rfl
 c212:=by kernel_rfl
 c213:=by kernel_rfl
 c232:=by kernel_rfl
 c233:=by kernel_rfl}
def Tryz.laysIndex_ren:Go.Shelf.Ren:=⟨fun | 137=>229 | 217=>260 | 266=>271 | n=>n,fun | 9=>9 | 5=>5 | 3=>3 | n=>n,fun | n=>n⟩
theorem Tryz.laysIndex:Go.Proofs.Lays.n137 Tryz.prog Tryz.laysIndex_ren:={
 mixed:=by kernel_rfl
 f137:=Tryz.func229.trans (congrArg some (by kernel_rfl))
 f217:=Tryz.func260.trans (congrArg some (by kernel_rfl))
 f266:=Tryz.func271.trans (congrArg some (by kernel_rfl))
 t3:=Tryz.underlying3
 a3:=Tryz.isAgg3
 z3:=Tryz.sizeOf3
 v3:=Tryz.zeroValue3
 t5:=Tryz.underlying5
 a5:=Tryz.isAgg5
 z5:=Tryz.sizeOf5
 v5:=Tryz.zeroValue5
 t9:=Tryz.underlying9
 a9:=Tryz.isAgg9
 z9:=Tryz.sizeOf9
 v9:=Tryz.zeroValue9}
end Go.Proofs
namespace Go.AE
open Go.RowKit Go.Shelf Go.Proofs
section
variable {P:Program} {gl:Nat→Option (List qc)} {G:qg} {w w':World} {h:List qx}
theorem qlQ:∀call xs h r h' e,qir call xs h = some (r,h',e)→h' = h:=by
 intro call xs h r hh e hr
 unfold qir at hr
 split at hr
 ·cases hr;rfl
 ·cases hr
theorem qm8 {t:TypeId}:∀call xs h r h' e,qiL t call xs h = some (r,h',e)→h' = h:=by
 intro call xs h r hh e hr
 unfold qiL at hr
 split at hr
 ·rename_i s
  cases hb:Nat.ble s.length 100000 with
  | false=>rw [hb] at hr;cases hr
  | true=>
   rw [hb,cond_true] at hr
   split at hr
   ·cases hr;rfl
   ·cases hr;rfl
   ·cases hr
 ·cases hr
theorem Rel.below (hr:Rel P gl G h w) (hb:Below w.heap.size w w'):Rel P gl G h w' where
 γlt i b hi:=⟨(hr.γlt i b hi).1,Nat.lt_of_lt_of_le (hr.γlt i b hi).2 hb.size⟩
 inj:=hr.inj
 box i b bx hi hx:=by
  have hlt:=(hr.γlt i b hi).2
  have hb':=hr.box i b bx hi hx
  cases bx with
  | cells cs=>
   obtain ⟨c,e,h1,h2,h3⟩:=hb'
   exact ⟨c,e,by rw [hb.block b hlt];exact h1,h2,fun o' xs k v ho hv=>(h3 o' xs k v ho hv).keep (fun _ h=>h) (fun b h=>hb.block b (hr.ow b _ h).1) (fun _ _ _ h=>h)⟩
  | loop t ps asg body st pend=>
   obtain ⟨L,h1,h2⟩:=hb'
   exact ⟨L,by rw [hb.block b hlt];exact h1,h2⟩
  | map es _=>
   obtain ⟨me,h1,h2⟩:=hb'
   exact ⟨me,by rw [hb.block b hlt];exact h1,h2⟩
  | iter _ _ _ _=>
   obtain ⟨mm,h1,h2⟩:=hb'
   exact ⟨mm,by rw [hb.block b hlt];exact h1,h2⟩
  | dead=>trivial
 imm b o' v hv hm:=by
  obtain ⟨h1,h2⟩:=hr.imm b o' v hv hm
  exact ⟨(qck (hb.block b h2)).trans h1,Nat.lt_of_lt_of_le h2 hb.size⟩
 immγ:=hr.immγ
 immK b o' hv:=by
  obtain ⟨h0,c,e,h1,h2⟩:=hr.immK b o' hv
  exact ⟨h0,c,e,by rw [hb.block b (Array.getElem?_eq_some_iff.1 h1).1];exact h1,h2⟩
 ow b ℓ hi:=⟨Nat.lt_of_lt_of_le (hr.ow b ℓ hi).1 hb.size,(hr.ow b ℓ hi).2⟩
 glob:=hr.glob
theorem Ext.below (n:Nat) (G:qg) (hb:Below w.heap.size w w'):Ext n G w G w':=
 ⟨fun _ _ h=>h,fun _ _ h=>.inl h,fun _ _ _ h=>h,fun _ _ _ h=>.inl h,fun _ h=>.inl h,hb.size,fun b hlt _=>hb.block b hlt,
  fun b L hL=>⟨L,by rw [hb.block b (Array.getElem?_eq_some_iff.1 hL).1];exact hL,rfl,rfl,rfl,rfl,rfl,rfl⟩,hb.os,hb.tape,hb.output⟩
theorem quh {d:List UInt8} {vs:Array Value} (h:G.VL [.str d] vs.toList):∃b:ByteArray,vs = #[.string b]∧b.data.toList = d:=by
 simp only [qg.VL,qy,qI] at h
 obtain ⟨v,rest,e,⟨b,rfl,hb⟩,rfl⟩:=h
 exact ⟨b,by rw [←Array.toArray_toList (xs:=vs),e],hb⟩
theorem qx2 {ρ : Ren} (L : LaysC.n172 P ρ) {pf : Func} {c : Code} (h1 : P.funcs[ρ.f 172]? = some pf) (h2 : (pf.name == "runtime.NumGoroutine") = false) (h3 : pf.body = some c) {tp : TypeId} (hg : gl (ρ.g 16) = some [.iface tp .undef]) : qsl P gl (ρ.f 172) (qiL (ρ.t 168)) := by
 intro call hcall hk xs h r h' e' hrun G w vs hr hn hall
 unfold qiL at hrun
 split at hrun
 ·rename_i d
  obtain ⟨b,rfl,hb⟩:=quh hall
  have hsz:b.size = d.length:=by rw [←hb];rfl
  cases hl:Nat.ble d.length 100000 with
  | false=>rw [hl] at hrun;cases hrun
  | true=>
   have hlen:=Nat.le_of_ble_eq_true hl
   rw [hl,cond_true] at hrun
   refine .inl ⟨qbz h1 h2 h3 _ w,fun ro m=>qfv (m:=m) (callsIn_wide.2 ?_)⟩
   split at hrun
   ·rename_i v hv
    cases hrun
    refine (Any.strconv_Atoi_ok L b (by omega) v (by rw [hb];exact hv) w).mono ?_
    rintro e w' ⟨rfl,hw⟩
    have hbl:Below w.heap.size w w':=by
     rcases hw with rfl | ⟨t,rfl⟩
     ·exact Below.refl _ _
     ·exact Lib.bytesWorld_below w _ t
    exact ⟨_,G,rfl,Ext.below _ G hbl,hr.below hbl,hn,by simp only [qg.V,qI,qy];exact ⟨_,rfl,_,_,rfl,rfl,_,_,rfl,rfl,rfl⟩⟩
   ·rename_i hv
    cases hrun
    obtain ⟨hcells,_⟩:=hr.glob _ _ hg
    simp only [qat,qI] at hcells
    obtain ⟨⟨ev,himm,x,rfl,_⟩,_⟩:=hcells
    refine (Any.strconv_Atoi_range L b (by omega) (by rw [hb];exact hv) (.iface tp x) w (hr.imm _ _ _ himm (by simp [qdF])).1 (.inr ⟨tp,x,rfl⟩)).mono ?_
    rintro e w' ⟨N,rfl,_,_,hbl⟩
    rw [hb]
    exact ⟨_,G,rfl,Ext.below _ G hbl,hr.below hbl,hn,by simp only [qg.V,qI,qy];exact ⟨_,rfl,_,_,rfl,rfl,_,_,rfl,⟨_,rfl,by simp [qdF]⟩,rfl⟩⟩
   ·cases hrun
 ·cases hrun
theorem quI {ρ : Ren} (L : Lays.n137 P ρ) {pf : Func} {c : Code} (h1 : P.funcs[ρ.f 137]? = some pf) (h2 : (pf.name == "runtime.NumGoroutine") = false) (h3 : pf.body = some c) : qsl P gl (ρ.f 137) qir := by
 intro call hcall hk xs h r h' e' hrun G w vs hr hn hall
 unfold qir at hrun
 split at hrun
 ·rename_i d c
  cases hrun
  simp only [qg.VL,qy,qI] at hall
  obtain ⟨v,rest,e,⟨b,rfl,hb⟩,v2,rest2,rfl,rfl,rfl⟩:=hall
  obtain rfl:vs = #[.string b,.int .u8 c]:=by rw [←Array.toArray_toList (xs:=vs),e]
  refine .inl ⟨qbz h1 h2 h3 _ w,fun ro m=>qfv (m:=m) (callsIn_wide.2 ?_)⟩
  refine (Any.strings_IndexByte L b c w).mono ?_
  rintro e w' ⟨rfl,rfl⟩
  rw [hb]
  exact ⟨_,G,rfl,Ext.refl _ G _,hr,hn,by simp only [qg.V,qI]⟩
 ·cases hrun
end
end Go.AE
namespace Go.Proofs.YtlognicjhmcgjaaGreatDoor
open Go.ChangeShapes Go.WideShapes Go.ChangeAt Go.RowKit
open Go.ChangeMaps (open_string shut_string)
theorem mx:Tryz.prog.follows .mixedOrders = true:=by kernel_rfl
theorem qBS:Go.AE.qg7 Tryz.prog AE.gl AE.T.get:=Go.AE.qrj AE.qGe
theorem qDL:∀f g,AE.X f = some g→Go.AE.qsl Tryz.prog AE.gl f g:=by
 intro f g h
 unfold AE.X at h
 split at h
 ·cases h;exact Go.AE.qmI mx Tryz.func31 (by kernel_rfl) AE.qF7 Tryz.func65 (by kernel_rfl) 4000
 ·cases h;exact Go.AE.qmI mx Tryz.func36 (by kernel_rfl) AE.qF8 Tryz.func73 (by kernel_rfl) 4000
 ·cases h;exact Go.AE.quI Tryz.laysIndex Tryz.func229 (by kernel_rfl) rfl
 ·cases h;exact Go.AE.qx2 (tp:=324) Tryz.laysAtoi Tryz.func258 (by kernel_rfl) rfl (by kernel_rfl)
 ·cases h
theorem qhq {g:Go.AE.Call→List Go.AE.qc→List Go.AE.qx→Option (Go.AE.qeh×List Go.AE.qx×Bool)} (hg:∀call xs h r h' e,g call xs h = some (r,h',e)→h' = h) (call:Go.AE.Call):Go.AE.qaj fun _ xs h=>g call xs h:=by
 intro fv xs h r h' e' hr
 obtain rfl:=hg _ _ _ _ _ _ hr
 exact ⟨Nat.le_refl _,fun _=>Go.AE.qal.refl _ _⟩
theorem qvP:∀f g,AE.X f = some g→∀call,Go.AE.qaj call→Go.AE.qaj fun _ xs h=>g call xs h:=by
 intro f g h
 unfold AE.X at h
 split at h
 ·cases h;exact fun call hk=>Go.AE.qht hk
 ·cases h;exact fun call hk=>Go.AE.qht hk
 ·cases h;exact fun call hk=>qhq Go.AE.qlQ call
 ·cases h;exact fun call hk=>qhq Go.AE.qm8 call
 ·cases h
theorem qBu (n:Nat):Go.AE.qds Tryz.prog AE.gl (Go.AE.run AE.T.get AE.X n):=Go.AE.qjx mx qBS qDL qvP n
theorem qGt {W:World} (h:laidMetH Tryz.prog Rows.readRightRow.laid W):Go.AE.qDw AE.gl W:=by
 rw [MakeChecks.laidMetH_plain _ _ _ (by kernel_rfl)] at h
 intro g cs hg
 unfold AE.gl at hg
 split at hg <;> first | (cases hg;exact Go.AE.qt7) | skip
 ·cases hg
  exact Go.AE.qdD h (show ("gavotte/ast.words", Rows.laid_gavotte_ast_words) ∈ _ from .tail _ (.tail _ (.tail _ (.tail _ (.tail _ (.tail _ (.head _))))))) (g := 0) (by kernel_rfl) (t := 219) (by kernel_rfl) Tryz.underlying219 (.inr Tryz.underlying9) (by kernel_rfl) (by kernel_rfl)
 ·cases hg
  exact Go.AE.qdD h (show ("gavotte/token.marks", Rows.laid_gavotte_token_marks) ∈ _ from .tail _ (.tail _ (.tail _ (.tail _ (.tail _ (.head _)))))) (g := 1) (by kernel_rfl) (t := 278) (by kernel_rfl) Tryz.underlying278 (.inr Tryz.underlying9) (by kernel_rfl) (by kernel_rfl)
 ·cases hg
  exact Go.AE.qdD h (show ("internal/strconv.uint64pow10", Rows.laid_internal_strconv_uint64pow10) ∈ _ from .tail _ (.tail _ (.head _))) (g := 4) (by kernel_rfl) (t := 303) (by kernel_rfl) Tryz.underlying303 (.inl ⟨_, Tryz.underlying294⟩) (by kernel_rfl) (by kernel_rfl)
 ·cases hg
  have h3:=h.tail.tail.tail
  obtain ⟨a, s, hv, _⟩ := laid_sentinel h3 (g := 6) (by kernel_rfl) (by kernel_rfl) Tryz.underlying174 (fun u hu => typeName_ptr_named (nm := "errors.errorString") (by kernel_rfl) (by kernel_rfl) (by decide) u (hu.trans (congrArg some (by kernel_rfl)))) Tryz.underlying324 Tryz.underlying326 rfl rfl Tryz.underlying9 (by kernel_rfl) (by kernel_rfl)
  refine ⟨rfl,[.iface 324 (.pointer (some a))],?_,fun j v hj=>?_⟩
  ·simp only [Go.AE.qy,Go.AE.qI]
   exact ⟨_,_,rfl,⟨_,rfl,fun e=>by cases e⟩,rfl⟩
  ·have hc:=World.var?_cell (g:=6) (by kernel_rfl) hv j
   rw [hc]
   simpa using hj
 ·cases hg
  exact Go.AE.qdD h (show ("math/bits.deBruijn32tab", Rows.laid_math_bits_deBruijn32tab) ∈ _ from .head _) (g := 7) (by kernel_rfl) (t := 321) (by kernel_rfl) Tryz.underlying321 (.inl ⟨_, Tryz.underlying5⟩) (by kernel_rfl) (by kernel_rfl)
 ·cases hg
  exact Go.AE.qdD h (show ("math/bits.deBruijn64tab", Rows.laid_math_bits_deBruijn64tab) ∈ _ from .tail _ (.head _)) (g := 8) (by kernel_rfl) (t := 322) (by kernel_rfl) Tryz.underlying322 (.inl ⟨_, Tryz.underlying5⟩) (by kernel_rfl) (by kernel_rfl)
 ·cases hg
theorem own:ownKnob Tryz.prog.godebug = none:=by kernel_rfl
def qlS:Prop:=∀s:List UInt8,∃n,Go.AE.run AE.T.get AE.X n (.fn 7 [] []) [.str s] [] = some (.ret (.bool true),[],false)
theorem qAq (hans:qlS) (os:Os) (started:os.Started) (H:Type) (enc:TypeId×Value→H) :
  ReturnsInHanded {} Tryz.checked os 7 .any (fun w args=>(Rows.readRightSpec.pre enc Tryz.prog Tryz.f7 Rows.readRightRow.domain false w args∧laidMetH Tryz.prog Rows.readRightRow.laid w)∧sizedMet enc Tryz.prog Tryz.f7 (OpenSpec.ofChange Rows.readRightSpec) false w args)
   (Rows.readRightSpec.post enc Tryz.prog Tryz.f7 false true false false):=by
 refine returnsInHanded_of_change_and (C:=Tryz.checked) (X:=fun w _=>laidMetH Tryz.prog Rows.readRightRow.laid w) (fun _ _ _ hh h=>h.of_heap hh) own started (by kernel_rfl) Tryz.func7
  (ChangeSpec.witness_shaped (enc:=enc) (C:=Tryz.checked) (os:=os) (X:=fun w _=>laidMetH Tryz.prog Rows.readRightRow.laid w) false (World.laidAll Tryz.prog os Rows.readRightRow.laid) #[.string ByteArray.empty] 8 (World.laidAll_os _ _ _)
   (World.shaped_of_ZipB (by kernel_rfl) (by kernel_rfl)) (by kernel_rfl) (by kernel_rfl) (by kernel_rfl)
   (by rw [MakeChecks.laidMetH_plain _ _ _ (by kernel_rfl)];exact laidMet_laidAll _ (by kernel_rfl) (by kernel_rfl))) ?_
 intro W base args ds gs before hval0 hW hc _ hL _
 have hval:∀(j:Nat) t v,Tryz.f7.params[j]? = some t→args[j]? = some v→Value.okWide Tryz.prog W .any base t v:=hval0
 have hW':=hW
 obtain ⟨p,q,hA0,hV,rfl,_,_⟩:=hW
 have hA:DataW.TrodAll enc Tryz.prog W 0 (fun _=>true) true Tryz.f7.params.toList args.toList ds p:=hA0
 rw [Tryz.params7] at hA hval
 obtain ⟨v0,d0,rfl,rfl,h0⟩:=trodAll_one hA
 obtain ⟨rfl,rfl⟩:=trodVars_none hV
 obtain ⟨s,rfl,rfl,rfl,hs⟩:=open_string Tryz.underlying9 (hval 0 9 v0 rfl rfl) h0
 simp only [List.append_nil] at hW'
 obtain ⟨n,hrun⟩:=hans s.data.toList
 have hcall:=Go.AE.qnr (qBu n) Tryz.func7 (by kernel_rfl) (show Tryz.f7.body = some _ from rfl) hrun (qGt hL) (vs:=#[.string s]) (by simp only [Go.AE.qy,Go.AE.qI];exact ⟨_,_,rfl,⟨s,rfl,rfl⟩,rfl⟩)
 refine hcall.mono fun e W' ⟨v,G',he,hv,hk⟩=>?_
 subst he
 simp only [Go.AE.qg.V,Go.AE.qI] at hv
 subst hv
 refine ⟨_,rfl,_,_,_,[],[],[],hW',?_,?_,?_,World.keptBut_mono (fun _ f=>f.elim) hk,fun h=>by cases h⟩
 ·exact trodAll_mk1 (shut_bool Tryz.underlying4 _)
 ·exact trodAll_mk1 (shut_string Tryz.underlying9 hs)
 ·rfl
theorem qqh (hans:qlS):Rows.ReadRightSaid:=
 OpenClaim.holds_of_wide 7 Tryz.f7 rfl rfl rfl rfl rfl rfl rfl ⟨rfl,rfl,rfl,rfl,rfl⟩ rfl rfl rfl rfl rfl (by kernel_rfl) Tryz.func7 (by kernel_rfl)
  (of_decide_eq_true (by kernel_rfl)) (by unfold Func.isWrapper;first | (rw [if_pos (by decide +kernel)];kernel_rfl) | (rw [if_neg (by decide +kernel)];exact ⟨rfl,rfl⟩))
  (fun os started H enc _=>qAq hans os started H enc)
end Go.Proofs.YtlognicjhmcgjaaGreatDoor
namespace Go.Proofs.YtlognicjhmcgjaaGreatDoor
theorem qqb:qlS:=fun s=>by
 have haw:AE.Wd (.fn 10 [] []) [] [] = some (.ret (.bool true),[],false):=(Go.AE.qlB AE.qgC _).2 ⟨400,AE.qtm⟩
 exact (Go.AE.qlB AE.qgC _).1 (AE.qB0 AE.qxT AE.qAs haw s)
theorem readRight_holds:Rows.ReadRightCardSaid:=
 Claim7.holds_tied_plain_at .later [] [.data, .data, .data, .sentinel, .sentinel, .data, .data] true (true, "9e0684ef31a6a217fa223af17b07280b8c387b1e26d2caa3283d9b7d2eec04f8") true (qqh qqb) (fun _ h => by cases h) (by kernel_rfl) (fun _ h => by cases h) readRight_row_tie rfl ⟨rfl, rfl⟩ (by kernel_rfl) rfl
  (fun f fn hf hfn=>by
   obtain rfl : f = 7 := Option.some.inj ((show Tryz.prog.funcNamed "gavotte/gavottelaw10.ReadRight" = some 7 by kernel_rfl).symm.trans hf) |>.symm
   obtain rfl:fn = Tryz.f7:=(Option.some.inj (Tryz.func7.symm.trans hfn)).symm
   exact ⟨by kernel_rfl,fun j t ht=>by
    rw [Tryz.params7] at ht
    have hm:t ∈ [9]:=by simpa using Array.mem_of_getElem? ht
    have hall:([9].all fun u=>!Tryz.prog.wantsStandIn u) = true:=by kernel_rfl
    exact (show Tryz.prog.wantsStandIn t = false by simpa using List.all_eq_true.1 hall t hm)⟩)
  (by kernel_rfl)
#print axioms readRight_holds
end Go.Proofs.YtlognicjhmcgjaaGreatDoor
