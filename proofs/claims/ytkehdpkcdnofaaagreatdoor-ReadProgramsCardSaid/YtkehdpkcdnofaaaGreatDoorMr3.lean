/- A part of the proof. No condition. -/
import Derived.Shelf.Small.Strs
import Derived.Shelf.Strconv.AtoiAll
import Derived.Test.YtkehdpkcdnofaaaGreatDoorProg
import Derived.Test.YtkehdpkcdnofaaaGreatDoorMr1
import Derived.Test.YtkehdpkcdnofaaaGreatDoorMr2
import Derived.Below
import Derived.Lib.AtoiErrMem
set_option maxRecDepth 100000
open Array renaming getElem?_eq_some_iff→je
open Nat renaming lt_of_lt_of_le→jo
namespace Go.Proofs
open Go.Shelf
open Go.AE (zk)
def Tryz.laysIndex_ren:Go.Shelf.Ren:=⟨fun | 137=>96 | 217=>125 | 266=>132 | n=>n,fun | 9=>9 | 5=>5 | 3=>3 | n=>n,fun | n=>n⟩
theorem Tryz.laysIndex:Go.Proofs.Lays.n137 Tryz.prog Tryz.laysIndex_ren:={
 mixed:=zk
 f137:=Tryz.func96.trans (congrArg some zk)
 f217:=Tryz.func125.trans (congrArg some zk)
 f266:=Tryz.func132.trans (congrArg some zk)
 t3:=Tryz.underlying3
 a3:=Tryz.isAgg3
 z3:=Tryz.sizeOf3
 v3:=Tryz.zeroValue3
 t5:=Tryz.underlying5
 a5:=Tryz.isAgg5
 z5:=Tryz.sizeOf5
 v5:=Tryz.zeroValue5
 t9:=Tryz.underlying9
 a9:=Tryz.isAgg9
 z9:=Tryz.sizeOf9
 v9:=Tryz.zeroValue9}
def Tryz.laysAtoi_ren:Go.Shelf.Ren:=⟨fun | 172=>123 | 244=>130 | 245=>131 | 247=>135 | 279=>136 | 280=>137 | 281=>138 | 282=>139 | 287=>142 | 316=>143 | 171=>145 | 205=>144 | 321=>147 | 322=>148 | 243=>149 | 246=>151 | 283=>153 | 284=>154 | 285=>155 | 286=>156 | 129=>161 | 317=>160 | 318=>162 | 319=>163 | 320=>164 | 337=>167 | 338=>168 | n=>n,fun | 9=>9 | 3=>3 | 75=>181 | 76=>182 | 4=>4 | 5=>5 | 167=>190 | 37=>191 | 0=>0 | 85=>192 | 2=>2 | 168=>194 | 53=>197 | 175=>198 | 46=>200 | 210=>203 | 127=>207 | 145=>210 | 143=>208 | 21=>21 | 171=>212 | 173=>215 | 212=>219 | 51=>220 | 20=>20 | 213=>221 | 232=>225 | 233=>226 | 80=>81 | n=>n,fun | 15=>3 | 16=>4 | 17=>5 | 18=>6 | 19=>7 | n=>n⟩
theorem Tryz.laysAtoi:Go.Proofs.LaysC.n172 Tryz.prog Tryz.laysAtoi_ren:={
 mixed:=zk
 f129:=Tryz.func161.trans (congrArg some zk)
 f171:=Tryz.func145.trans (congrArg some zk)
 f172:=Tryz.func123.trans (congrArg some zk)
 f205:=Tryz.func144.trans (congrArg some zk)
 f243:=Tryz.func149.trans (congrArg some zk)
 f244:=Tryz.func130.trans (congrArg some zk)
 f245:=Tryz.func131.trans (congrArg some zk)
 f246:=Tryz.func151.trans (congrArg some zk)
 f247:=Tryz.func135.trans (congrArg some zk)
 f279:=Tryz.func136.trans (congrArg some zk)
 f280:=Tryz.func137.trans (congrArg some zk)
 f281:=Tryz.func138.trans (congrArg some zk)
 f282:=Tryz.func139.trans (congrArg some zk)
 f283:=Tryz.func153.trans (congrArg some zk)
 f284:=Tryz.func154.trans (congrArg some zk)
 f285:=Tryz.func155.trans (congrArg some zk)
 f286:=Tryz.func156.trans (congrArg some zk)
 f287:=Tryz.func142.trans (congrArg some zk)
 f316:=Tryz.func143.trans (congrArg some zk)
 f317:=Tryz.func160.trans (congrArg some zk)
 f318:=Tryz.func162.trans (congrArg some zk)
 f319:=Tryz.func163.trans (congrArg some zk)
 f320:=Tryz.func164.trans (congrArg some zk)
 f321:=Tryz.func147.trans (congrArg some zk)
 f322:=Tryz.func148.trans (congrArg some zk)
 f337:=Tryz.func167.trans (congrArg some zk)
 f338:=Tryz.func168.trans (congrArg some zk)
 t0:=Tryz.underlying0
 a0:=Tryz.isAgg0
 z0:=Tryz.sizeOf0
 v0:=Tryz.zeroValue0
 t2:=Tryz.underlying2
 a2:=Tryz.isAgg2
 z2:=Tryz.sizeOf2
 v2:=Tryz.zeroValue2
 t3:=Tryz.underlying3
 a3:=Tryz.isAgg3
 z3:=Tryz.sizeOf3
 v3:=Tryz.zeroValue3
 t4:=Tryz.underlying4
 a4:=Tryz.isAgg4
 z4:=Tryz.sizeOf4
 v4:=Tryz.zeroValue4
 t5:=Tryz.underlying5
 a5:=Tryz.isAgg5
 z5:=Tryz.sizeOf5
 v5:=Tryz.zeroValue5
 t9:=Tryz.underlying9
 a9:=Tryz.isAgg9
 z9:=Tryz.sizeOf9
 v9:=Tryz.zeroValue9
 t20:=Tryz.underlying20
 a20:=Tryz.isAgg20
 z20:=Tryz.sizeOf20
 v20:=Tryz.zeroValue20
 t21:=Tryz.underlying21
 a21:=Tryz.isAgg21
 z21:=Tryz.sizeOf21
 v21:=Tryz.zeroValue21
 t37:=Tryz.underlying191
 a37:=Tryz.isAgg191
 z37:=Tryz.sizeOf191
 v37:=Tryz.zeroValue191
 t46:=Tryz.underlying200
 a46:=Tryz.isAgg200
 z46:=Tryz.sizeOf200
 v46:=Tryz.zeroValue200
 t51:=Tryz.underlying220
 a51:=Tryz.isAgg220
 z51:=Tryz.sizeOf220
 v51:=Tryz.zeroValue220
 t53:=Tryz.underlying197
 a53:=Tryz.isAgg197
 z53:=Tryz.sizeOf197
 v53:=Tryz.zeroValue197
 t75:=Tryz.underlying181
 a75:=Tryz.isAgg181
 z75:=Tryz.sizeOf181
 v75:=Tryz.zeroValue181
 t76:=Tryz.underlying182
 a76:=Tryz.isAgg182
 z76:=Tryz.sizeOf182
 v76:=Tryz.zeroValue182
 t85:=Tryz.underlying192
 a85:=Tryz.isAgg192
 z85:=Tryz.sizeOf192
 v85:=Tryz.zeroValue192
 t127:=Tryz.underlying207
 a127:=Tryz.isAgg207
 z127:=Tryz.sizeOf207
 v127:=Tryz.zeroValue207
 t143:=Tryz.underlying208
 a143:=Tryz.isAgg208
 z143:=Tryz.sizeOf208
 v143:=Tryz.zeroValue208
 t145:=Tryz.underlying210
 a145:=Tryz.isAgg210
 z145:=Tryz.sizeOf210
 v145:=Tryz.zeroValue210
 t167:=Tryz.underlying190
 a167:=Tryz.isAgg190
 z167:=Tryz.sizeOf190
 v167:=Tryz.zeroValue190
 t168:=Tryz.underlying194
 a168:=Tryz.isAgg194
 z168:=Tryz.sizeOf194
 v168:=Tryz.zeroValue194
 t171:=Tryz.underlying212
 a171:=Tryz.isAgg212
 z171:=Tryz.sizeOf212
 v171:=Tryz.zeroValue212
 t173:=Tryz.underlying215
 a173:=Tryz.isAgg215
 z173:=Tryz.sizeOf215
 v173:=Tryz.zeroValue215
 t175:=Tryz.underlying198
 a175:=Tryz.isAgg198
 z175:=Tryz.sizeOf198
 v175:=Tryz.zeroValue198
 t210:=Tryz.underlying203
 a210:=Tryz.isAgg203
 z210:=Tryz.sizeOf203
 v210:=Tryz.zeroValue203
 t212:=Tryz.underlying219
 a212:=Tryz.isAgg219
 z212:=Tryz.sizeOf219
 v212:=Tryz.zeroValue219
 t213:=Tryz.underlying221
 a213:=Tryz.isAgg221
 z213:=Tryz.sizeOf221
 t232:=Tryz.underlying225
 a232:=Tryz.isAgg225
 z232:=Tryz.sizeOf225
 v232:=Tryz.zeroValue225
 t233:=Tryz.underlying226
 a233:=Tryz.isAgg226
 z233:=Tryz.sizeOf226
 v233:=Tryz.zeroValue226
 g15:=zk
 g16:=zk
 g17:=zk
 g18:=zk
 g19:=zk
 t80:=Tryz.underlying81
 a80:=Tryz.isAgg81
 z80:=Tryz.sizeOf81
 v80:=Tryz.zeroValue81
 i0:=zk
 i2:=zk
 i3:=zk
 i4:=zk
 i5:=zk
 i9:=zk
 i20:=zk
 i21:=zk
 i37:=zk
 i46:=zk
 i51:=zk
 i53:=zk
 i75:=zk
 i76:=zk
 i80:=zk
 i85:=zk
 i127:=zk
 i143:=zk
 i145:=zk
 i167:=zk
 i168:=zk
 i171:=zk
 i173:=zk
 i175:=zk
 i210:=zk
 i212:=zk
 i232:=zk
 i233:=zk
 m15:=zk
 m16:=zk
 m17:=zk
 m18:=zk
 m19:=zk
 c0:=zk
 c2:=zk
 c3:=zk
 c4:=zk
 c5:=zk
 c9:=zk
 c20:=zk
 c21:=zk
 c37:=zk
 c46:=zk
 c51:=zk
 c53:=zk
 c75:=zk
 c76:=zk
 c80:=zk
 c85:=zk
 c127:=zk
 c143:=zk
 c145:=zk
 c167:=zk
 c168:=zk
 c171:=zk
 c173:=zk
 c175:=zk
 c210:=zk
 c212:=zk
 c213:=zk
 c232:=zk
 c233:=by kernel_rfl}
end Go.Proofs
namespace Go.AE
open Go.RowKit Go.Shelf Go.Proofs
section
variable {P:Program} {gl:Nat->Option (List qd)} {G:ql} {w w':World} {h:List qk}
theorem qmC:∀call xs h r h' e,qjk call xs h = some (r,h',e)->h' = h:=by
 intro call xs h r hh e hr
 unfold qjk at hr
 split at hr
 ·cases hr;rfl
 ·cases hr
theorem qol {t:TypeId}:∀call xs h r h' e,qjV t call xs h = some (r,h',e)->h' = h:=by
 intro call xs h r hh e hr
 unfold qjV at hr
 split at hr
 ·rename_i s
  cases hb:Nat.ble s.length 100000 with
  | false=>rw [hb] at hr;cases hr
  | true=>
   rw [hb,cond_true] at hr
   split at hr
   ·cases hr;rfl
   ·cases hr;rfl
   ·cases hr
 ·cases hr
theorem Rel.below (hr:Rel P gl G h w) (hb:Below w.heap.size w w'):Rel P gl G h w' where
 γlt i b hi:=⟨(hr.γlt i b hi).1,jo (hr.γlt i b hi).2 hb.size⟩
 inj:=hr.inj
 box i b bx hi hx:=by
  have E:=(hr.γlt i b hi).2
  have I:=hr.box i b bx hi hx
  cases bx with
  | cells cs=>
   obtain ⟨c,e,h1,h2,h3⟩:=I
   exact ⟨c,e,by rw [hb.block b E];exact h1,h2,λo' xs k v ho hv=>(h3 o' xs k v ho hv).keep (λ_ h=>h) (λb h=>hb.block b (hr.ow b _ h).1) (λ_ _ _ h=>h)⟩
  | loop t ps asg body st pend=>
   obtain ⟨L,h1,h2⟩:=I
   exact ⟨L,by rw [hb.block b E];exact h1,h2⟩
  | map es _=>
   obtain ⟨me,h1,h2⟩:=I
   exact ⟨me,by rw [hb.block b E];exact h1,h2⟩
  | iter _ _ _ _=>
   obtain ⟨mm,h1,h2⟩:=I
   exact ⟨mm,by rw [hb.block b E];exact h1,h2⟩
  | bld _ _ _=>exact qqc.keep I (hb.block b E) (λ_ h=>h) (λx hx=>hb.block x (hr.ow x _ hx).1) (λ_ _ _ h=>h)
  | dead=>trivial
 imm b o' v hv hm:=by
  obtain ⟨h1,h2⟩:=hr.imm b o' v hv hm
  exact ⟨(qcw (hb.block b h2)).trans h1,jo h2 hb.size⟩
 immγ:=hr.immγ
 immK b o' hv:=by
  obtain ⟨h0,c,e,h1,h2⟩:=hr.immK b o' hv
  exact ⟨h0,c,e,by rw [hb.block b (je.1 h1).1];exact h1,h2⟩
 ow b ℓ hi:=⟨jo (hr.ow b ℓ hi).1 hb.size,(hr.ow b ℓ hi).2⟩
 glob:=hr.glob
theorem Ext.below (n:Nat) (G:ql) (hb:Below w.heap.size w w'):Ext n G w G w':=
 ⟨λ_ _ h=>h,λ_ _ h=>.inl h,λ_ _ _ h=>h,λ_ _ _ h=>.inl h,λ_ h=>.inl h,hb.size,λb E _=>hb.block b E,
  λb L hL=>⟨L,by rw [hb.block b (je.1 hL).1];exact hL,rfl,rfl,rfl,rfl,rfl,rfl⟩,hb.os,hb.tape,hb.output⟩
theorem qxc {d:List UInt8} {vs:Array Value} (h:G.VL [.str d] vs.toList):∃b:ByteArray,vs = #[.string b]/\b.data.toList = d:=by
 simp only [ql.VL,qv,qT] at h
 obtain ⟨v,rest,e,⟨b,rfl,hb⟩,rfl⟩:=h
 exact ⟨b,by rw [<-Array.toArray_toList (xs:=vs),e],hb⟩
theorem qyc {ρ : Ren} (L : LaysC.n172 P ρ) {pf : Func} {c : Code} (h1 : P.funcs[ρ.f 172]? = some pf) (h2 : (pf.name == "runtime.NumGoroutine") = false) (h3 : pf.body = some c) {tp : TypeId} (hg : gl (ρ.g 16) = some [.iface tp .undef]) : qqo P gl (ρ.f 172) (qjV (ρ.t 168)) := by
 intro call hcall hk xs h r h' e' hrun G w vs hr hn hall
 unfold qjV at hrun
 split at hrun
 ·rename_i d
  obtain ⟨b,rfl,hb⟩:=qxc hall
  have hsz:b.size = d.length:=by rw [<-hb];rfl
  cases hl:Nat.ble d.length 100000 with
  | false=>rw [hl] at hrun;cases hrun
  | true=>
   have hlen:=Nat.le_of_ble_eq_true hl
   rw [hl,cond_true] at hrun
   refine .inl ⟨qbY h1 h2 h3 _ w,λro m=>qgh (m:=m) (callsIn_wide.2 ?_)⟩
   split at hrun
   ·rename_i v hv
    cases hrun
    refine (Any.strconv_Atoi_ok L b zo v (by rw [hb];exact hv) w).mono ?_
    rintro e w' ⟨rfl,hw⟩
    have hbl:Below w.heap.size w w':=by
     rcases hw with rfl | ⟨t,rfl⟩
     ·exact Below.refl _ _
     ·exact Lib.bytesWorld_below w _ t
    exact ⟨_,G,rfl,Ext.below _ G hbl,hr.below hbl,hn,by simp only [ql.V,qT,qv];exact ⟨_,rfl,_,_,rfl,rfl,_,_,rfl,rfl,rfl⟩⟩
   ·rename_i hv
    cases hrun
    obtain ⟨⟨hcells,_⟩,_⟩:=hr.glob _ _ hg
    simp only [qaS,qT] at hcells
    obtain ⟨⟨ev,himm,x,rfl,_⟩,_⟩:=hcells
    refine (Any.strconv_Atoi_range L b zo (by rw [hb];exact hv) (.iface tp x) w (hr.imm _ _ _ himm (by simp [mark])).1 (.inr ⟨tp,x,rfl⟩)).mono ?_
    rintro e w' ⟨N,rfl,_,_,hbl⟩
    rw [hb]
    exact ⟨_,G,rfl,Ext.below _ G hbl,hr.below hbl,hn,by simp only [ql.V,qT,qv];exact ⟨_,rfl,_,_,rfl,rfl,_,_,rfl,⟨_,rfl,by simp [mark]⟩,rfl⟩⟩
   ·cases hrun
 ·cases hrun
theorem qvH {ρ : Ren} (L : Lays.n137 P ρ) {pf : Func} {c : Code} (h1 : P.funcs[ρ.f 137]? = some pf) (h2 : (pf.name == "runtime.NumGoroutine") = false) (h3 : pf.body = some c) : qqo P gl (ρ.f 137) qjk := by
 intro call hcall hk xs h r h' e' hrun G w vs hr hn hall
 unfold qjk at hrun
 split at hrun
 ·rename_i d c
  cases hrun
  simp only [ql.VL,qv,qT] at hall
  obtain ⟨v,rest,e,⟨b,rfl,hb⟩,v2,rest2,rfl,rfl,rfl⟩:=hall
  obtain rfl:vs = #[.string b,.int .u8 c]:=by rw [<-Array.toArray_toList (xs:=vs),e]
  refine .inl ⟨qbY h1 h2 h3 _ w,λro m=>qgh (m:=m) (callsIn_wide.2 ?_)⟩
  refine (Any.strings_IndexByte L b c w).mono ?_
  rintro e w' ⟨rfl,rfl⟩
  rw [hb]
  exact ⟨_,G,rfl,Ext.refl _ G _,hr,hn,by simp only [ql.V,qT]⟩
 ·cases hrun
end
end Go.AE
