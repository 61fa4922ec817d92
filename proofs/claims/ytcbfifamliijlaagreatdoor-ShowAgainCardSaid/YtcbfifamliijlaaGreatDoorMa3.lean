/- A part of the proof. No condition. -/
import Derived.Test.YtcbfifamliijlaaGreatDoorMa1
import Derived.Test.YtcbfifamliijlaaGreatDoorMa2
import Derived.Below
import Derived.Lib.AtoiErrMem
import Derived.Shelf.Small.Strs
import Derived.Shelf.Strconv.AtoiAll
import Derived.Shelf.Strings.BuilderK
import Derived.Shelf.Strings.OnBuilder
import Derived.Shelf.Strconv.Itoa3
import Derived.WalkSmall
import Derived.Lib.AppendIntMem
import Derived.Shelf.Strings.Builder1
import Derived.Shelf.LaysM
import Derived.Test.YtcbfifamliijlaaGreatDoorProg
set_option maxRecDepth 100000
set_option maxHeartbeats 0
namespace Go.AE
open Go.RowKit Go.Shelf Go.Proofs
section
variable {P:Program} {gl:Nat→Option (List qd)} {G:qi} {w w':World} {h:List qj}
theorem qh1:∀call xs h r h' e,qh0 call xs h = some (r,h',e)→h' = h:=by
 intro call xs h r hh e hr
 unfold qh0 at hr
 split at hr
 ·cases hr;rfl
 ·cases hr
theorem qiX {t:TypeId}:∀call xs h r h' e,qiJ t call xs h = some (r,h',e)→h' = h:=by
 intro call xs h r hh e hr
 unfold qiJ at hr
 split at hr
 ·rename_i s
  cases hb:Nat.ble s.length 100000 with
  | false=>rw [hb] at hr;cases hr
  | true=>
   rw [hb,cond_true] at hr
   split at hr
   ·cases hr;rfl
   ·cases hr;rfl
   ·cases hr
 ·cases hr
theorem Rel.below (hr:Rel P gl G h w) (hb:Below w.heap.size w w'):Rel P gl G h w' where
 γlt i b hi:=⟨(hr.γlt i b hi).1,Nat.lt_of_lt_of_le (hr.γlt i b hi).2 hb.size⟩
 inj:=hr.inj
 box i b bx hi hx:=by
  have hlt:=(hr.γlt i b hi).2
  have hb':=hr.box i b bx hi hx
  cases bx with
  | cells cs=>
   obtain ⟨c,e,h1,h2,h3⟩:=hb'
   exact ⟨c,e,by rw [hb.block b hlt];exact h1,h2,fun o' xs k v ho hv=>(h3 o' xs k v ho hv).keep (fun _ h=>h) (fun b h=>hb.block b (hr.ow b _ h).1) (fun _ _ _ h=>h)⟩
  | loop t ps asg body st pend=>
   obtain ⟨L,h1,h2⟩:=hb'
   exact ⟨L,by rw [hb.block b hlt];exact h1,h2⟩
  | map es _=>
   obtain ⟨me,h1,h2⟩:=hb'
   exact ⟨me,by rw [hb.block b hlt];exact h1,h2⟩
  | iter _ _ _ _=>
   obtain ⟨mm,h1,h2⟩:=hb'
   exact ⟨mm,by rw [hb.block b hlt];exact h1,h2⟩
  | bld _ _ _=>exact qqy.keep hb' (hb.block b hlt) (fun _ h=>h) (fun x hx=>hb.block x (hr.ow x _ hx).1) (fun _ _ _ h=>h)
  | dead=>trivial
 imm b o' v hv hm:=by
  obtain ⟨h1,h2⟩:=hr.imm b o' v hv hm
  exact ⟨(qbA (hb.block b h2)).trans h1,Nat.lt_of_lt_of_le h2 hb.size⟩
 immγ:=hr.immγ
 immK b o' hv:=by
  obtain ⟨h0,c,e,h1,h2⟩:=hr.immK b o' hv
  exact ⟨h0,c,e,by rw [hb.block b (Array.getElem?_eq_some_iff.1 h1).1];exact h1,h2⟩
 ow b ℓ hi:=⟨Nat.lt_of_lt_of_le (hr.ow b ℓ hi).1 hb.size,(hr.ow b ℓ hi).2⟩
 glob:=hr.glob
theorem Ext.below (n:Nat) (G:qi) (hb:Below w.heap.size w w'):Ext n G w G w':=
 ⟨fun _ _ h=>h,fun _ _ h=>.inl h,fun _ _ _ h=>h,fun _ _ _ h=>.inl h,fun _ h=>.inl h,hb.size,fun b hlt _=>hb.block b hlt,
  fun b L hL=>⟨L,by rw [hb.block b (Array.getElem?_eq_some_iff.1 hL).1];exact hL,rfl,rfl,rfl,rfl,rfl,rfl⟩,hb.os,hb.tape,hb.output⟩
theorem qyg {d:List UInt8} {vs:Array Value} (h:G.VL [.str d] vs.toList):∃b:ByteArray,vs = #[.string b]∧b.data.toList = d:=by
 simp only [qi.VL,qp,qC] at h
 obtain ⟨v,rest,e,⟨b,rfl,hb⟩,rfl⟩:=h
 exact ⟨b,by rw [←Array.toArray_toList (xs:=vs),e],hb⟩
theorem qqZ {ρ : Ren} (L : LaysC.n172 P ρ) {pf : Func} {c : Code} (h1 : P.funcs[ρ.f 172]? = some pf) (h2 : (pf.name == "runtime.NumGoroutine") = false) (h3 : pf.body = some c) {tp : TypeId} (hg : gl (ρ.g 16) = some [.iface tp .undef]) : qfP P gl (ρ.f 172) (qiJ (ρ.t 168)) := by
 intro call hcall hk xs h r h' e' hrun G w vs hr hn hall
 unfold qiJ at hrun
 split at hrun
 ·rename_i d
  obtain ⟨b,rfl,hb⟩:=qyg hall
  have hsz:b.size = d.length:=by rw [←hb];rfl
  cases hl:Nat.ble d.length 100000 with
  | false=>rw [hl] at hrun;cases hrun
  | true=>
   have hlen:=Nat.le_of_ble_eq_true hl
   rw [hl,cond_true] at hrun
   refine .inl ⟨qZ h1 h2 h3 _ w,fun ro m=>qbz (m:=m) (callsIn_wide.2 ?_)⟩
   split at hrun
   ·rename_i v hv
    cases hrun
    refine (Any.strconv_Atoi_ok L b (by omega) v (by rw [hb];exact hv) w).mono ?_
    rintro e w' ⟨rfl,hw⟩
    have hbl:Below w.heap.size w w':=by
     rcases hw with rfl | ⟨t,rfl⟩
     ·exact Below.refl _ _
     ·exact Lib.bytesWorld_below w _ t
    exact ⟨_,G,rfl,Ext.below _ G hbl,hr.below hbl,hn,by simp only [qi.V,qC,qp];exact ⟨_,rfl,_,_,rfl,rfl,_,_,rfl,rfl,rfl⟩⟩
   ·rename_i hv
    cases hrun
    obtain ⟨⟨hcells,_⟩,_⟩:=hr.glob _ _ hg
    simp only [qaw,qC] at hcells
    obtain ⟨⟨ev,himm,x,rfl,_⟩,_⟩:=hcells
    refine (Any.strconv_Atoi_range L b (by omega) (by rw [hb];exact hv) (.iface tp x) w (hr.imm _ _ _ himm (by simp [mark])).1 (.inr ⟨tp,x,rfl⟩)).mono ?_
    rintro e w' ⟨N,rfl,_,_,hbl⟩
    rw [hb]
    exact ⟨_,G,rfl,Ext.below _ G hbl,hr.below hbl,hn,by simp only [qi.V,qC,qp];exact ⟨_,rfl,_,_,rfl,rfl,_,_,rfl,⟨_,rfl,by simp [mark]⟩,rfl⟩⟩
   ·cases hrun
 ·cases hrun
theorem qnI {ρ : Ren} (L : Lays.n137 P ρ) {pf : Func} {c : Code} (h1 : P.funcs[ρ.f 137]? = some pf) (h2 : (pf.name == "runtime.NumGoroutine") = false) (h3 : pf.body = some c) : qfP P gl (ρ.f 137) qh0 := by
 intro call hcall hk xs h r h' e' hrun G w vs hr hn hall
 unfold qh0 at hrun
 split at hrun
 ·rename_i d c
  cases hrun
  simp only [qi.VL,qp,qC] at hall
  obtain ⟨v,rest,e,⟨b,rfl,hb⟩,v2,rest2,rfl,rfl,rfl⟩:=hall
  obtain rfl:vs = #[.string b,.int .u8 c]:=by rw [←Array.toArray_toList (xs:=vs),e]
  refine .inl ⟨qZ h1 h2 h3 _ w,fun ro m=>qbz (m:=m) (callsIn_wide.2 ?_)⟩
  refine (Any.strings_IndexByte L b c w).mono ?_
  rintro e w' ⟨rfl,rfl⟩
  rw [hb]
  exact ⟨_,G,rfl,Ext.refl _ G _,hr,hn,by simp only [qi.V,qC]⟩
 ·cases hrun
end
open Go.RowKit
section
variable {P:Program} {gl:Nat→Option (List qd)} {G:qi} {w w':World} {h:List qj}
theorem qkP:∀call xs h r h' e,qfA call xs h = some (r,h',e)→h' = h:=by
 intro call xs h r hh e hr
 unfold qfA at hr
 split at hr
 ·cases hr;rfl
 ·cases hr
def qi.bare (G:qi):qi:={ γ:=fun _=>none,imm:=G.imm,ow:=fun _=>none}
theorem Rel.bare (hr:Rel P gl G h w):Rel P gl G.bare [] w:=by
 refine ⟨(fun _ _ h=>by cases h),(fun _ _ _ h=>by cases h),(fun _ _ _ h=>by cases h),hr.imm,(fun _ _ _ _ _ _ h=>by cases h),hr.immK,(fun _ _ h=>by cases h),fun g cs hg=>?_⟩
 obtain ⟨h1,h2⟩:=hr.glob g cs hg
 exact ⟨qeb.mono (fun _ _ _ h=>h) cs g h2 h1,h2⟩
theorem qrp {call0 : AE.Call} (hcall0 : qcN P gl call0) {f : FuncId} {pf : Func} {c : Code} (h1 : P.funcs[f]? = some pf) (h2 : (pf.name == "runtime.NumGoroutine") = false) (h3 : pf.body = some c) {hh : List qj} {ee : Bool} (hrun0 : call0 (.fn f [] []) [] [] = some (.ret (.bool true), hh, ee)) : qfP P gl f qfA := by
 intro call hcall hk xs h r h' e' hrun G w vs hr hn hall
 unfold qfA at hrun
 split at hrun
 ·cases hrun
  obtain rfl:vs = #[]:=by
   simp only [qi.VL,qp] at hall
   rw [←Array.toArray_toList (xs:=vs),hall]
  have hfv:G.bare.V (.fn f [] []) (.func (.func f) #[] #[]):=by simp [qi.V,qC,qp]
  have hS:(qgw (.func (.func f) #[] #[]) #[]).run P w = .ok (.enter f #[]) w:=by
   rw [qjN,qZ h1 h2 h3]
   simp
  have hbn:qes G.bare:=fun _ _ h=>by cases h
  rcases hcall0 _ _ _ _ _ _ hrun0 G.bare w _ #[] hr.bare hbn hfv (by simp [qi.VL,qp]) with ⟨f',aS,k1,k2⟩ | ⟨_,_,_,_,_,_,hy,_⟩ | ⟨v,w',_,k1,_⟩
  ·rw [hS] at k1
   cases k1
   refine .inl ⟨qZ h1 h2 h3 _ w,fun ro n=>CallsIn.mono (k2 ro n) fun e w' hb=>?_⟩
   cases e with
   | returned v=>
    obtain ⟨rv',G',g1,g2,g3,g4,g5⟩:=hb
    cases g1
    have hbl:Below w.heap.size w w':=⟨g2.os,g2.tape,g2.output,g2.size,fun k hk=>g2.heap k hk ⟨fun _ h=>(by cases h),rfl⟩⟩
    refine ⟨_,G,rfl,Ext.below _ G hbl,hr.below hbl,hn,?_⟩
    simp only [qi.V,qC] at g5 ⊢
    exact g5
   | panicked ch=>obtain ⟨_,_,_,g1,_⟩:=hb;cases g1
   | outgrown=>exact hb.elim
  ·cases hy
  ·rw [hS] at k1
   cases k1
 ·cases hrun
end
end Go.AE
namespace Go.Proofs
open Go.Shelf Go.RowKit
structure qkD (w w':World) (b:Nat) (v v':Value):Prop where
 os:w'.os = w.os
 tape:w'.tape = w.tape
 output:w'.output = w.output
 size:w.heap.size ≤ w'.heap.size
 block:∀k,k < w.heap.size→k ≠ b→some k ≠ v.ownBlock→w'.heap[k]? = w.heap[k]?
 own:∀g,v'.ownBlock = some g→v.ownBlock = some g∨w.heap.size ≤ g
section
variable {P:Program} (w:World)
theorem quy (t u ty e:TypeId) (i:TypeInfo) (ht:P.underlying t = some (.slice e)) (hu:P.underlying u = some .string) (hi:P.info? e = some i) (hz:i.zero = some (.int .u8 0)) (hsize:i.size = 1) (hby:i.bytes = 1)
  (v:Value) (n:Nat) (xs:List Value) (hown:w.ownsRowF 0 e 1 v n xs) (s:ByteArray) (h63:n + s.size ≤ maxLen) (hbytes:n + s.size ≤ 140737488355328) :
  ∃v' w',(Builtin.append_ #[t,u] ty #[v,.string s]).run P w = .ok v' w'∧w'.ownsRowF 0 e 1 v' (n + s.size) (xs ++ Lib.strCells s)∧w.grownBy w' v.ownBlock∧∀g,v'.ownBlock = some g→v.ownBlock = some g∨w.heap.size ≤ g:=by
 obtain ⟨v',w',hr,h2,h3,_⟩:=Lib.run_append_own_stringF (P:=P) w 0 t u ty e i ht hu hi hz hsize hby v n xs hown s h63 hbytes (Nat.zero_le _)
 refine ⟨v',w',hr,h2,h3,fun g hg=>?_⟩
 rcases hown.2 with ⟨rfl,rfl⟩ | ⟨g0,cap,cur,fz,rfl,_,hg0,hfz,hnc,hcm,hcs,htake⟩
 ·obtain ⟨v2,w2,hr2,h4,_,_⟩:=Lib.run_append_own_stringF (P:=P) w w.heap.size t u ty e i ht hu hi hz hsize hby (.slice none 0 0) 0 xs ⟨hown.1,.inl ⟨rfl,rfl⟩⟩ s h63 hbytes (Nat.le_refl _)
  rw [hr] at hr2
  cases hr2
  exact .inr (h4.lt g hg).1
 ·have hxl:xs.length = n:=by simpa using hown.1
  by_cases hroom:n + s.size ≤ cap
  ·have hcs':cur.size = cap:=by simpa using hcs
   have hr2:=Lib.run_append_room_stringF (P:=P) w t u ty e i ht hu hi hsize g0 n cap cur fz hg0 (by simpa using hfz) s hroom (by omega)
   rw [hr] at hr2
   cases hr2
   exact .inl hg
  ·have holds:∀j u,xs[j]? = some u→w.cell? ((⟨g0,0,none⟩ :Addr).add j) = some u:=hown.cells (g:=g0) rfl
   have hr2:=Lib.run_append_grow_string (P:=P) w t u ty e i (.int .u8 0) ht hu hi hz ⟨g0,0,none⟩ n cap xs (by rw [hsize];simpa using hxl) holds s (by omega) (by unfold maxLen at h63;omega) (by rw [hby];exact growslice_fits (by omega) (by omega))
   rw [hr] at hr2
   cases hr2
   simp only [Value.ownBlock,Option.some.injEq] at hg
   exact .inr (by omega)
theorem qux (t ty e:TypeId) (i:TypeInfo) (ht:P.underlying t = some (.slice e)) (hi:P.info? e = some i) (hz:i.zero = some (.int .u8 0)) (hsize:i.size = 1) (hby:i.bytes = 1)
  (v:Value) (n:Nat) (xs:List Value) (hown:w.ownsRowF 0 e 1 v n xs) (a:Addr) (m c:Nat) (news:List Value) (hl:news.length = m * 1) (hnews:∀j u,news[j]? = some u→w.cell? (a.add j) = some u) (h1:∀u ∈ news,u.oneCell' = true)
  (h63:n + m ≤ maxLen) (hbytes:n + m ≤ 140737488355328) :
  ∃v' w',(Builtin.append_ #[t,t] ty #[v,.slice (some a) m c]).run P w = .ok v' w'∧w'.ownsRowF 0 e 1 v' (n + m) (xs ++ news)∧w.grownBy w' v.ownBlock∧∀g,v'.ownBlock = some g→v.ownBlock = some g∨w.heap.size ≤ g:=by
 obtain ⟨v',w',hr,h2,h3,_⟩:=run_append_ownF (P:=P) w 0 t ty e i (.int .u8 0) 1 1 ht hi hz hsize hby rfl (by decide) v n xs hown a m c news hl hnews h1 h63 (by omega) (Nat.zero_le _)
 refine ⟨v',w',hr,h2,h3,fun g hg=>?_⟩
 rcases hown.2 with ⟨rfl,rfl⟩ | ⟨g0,cap,cur,fz,rfl,_,hg0,hfz,hnc,hcm,hcs,htake⟩
 ·obtain ⟨v2,w2,hr2,h4,_,_⟩:=run_append_ownF (P:=P) w w.heap.size t ty e i (.int .u8 0) 1 1 ht hi hz hsize hby rfl (by decide) (.slice none 0 0) 0 xs ⟨hown.1,.inl ⟨rfl,rfl⟩⟩ a m c news hl hnews h1 h63 (by omega) (Nat.le_refl _)
  rw [hr] at hr2
  cases hr2
  exact .inr (h4.lt g hg).1
 ·have hxl:xs.length = n:=by simpa using hown.1
  by_cases hroom:n + m ≤ cap
  ·have hcs':cur.size = cap:=by simpa using hcs
   have hr2:=run_append_roomF (P:=P) w t ty e i ht hi g0 n cap cur fz hg0 (by rw [hsize];exact hfz) a m c news (by rw [hsize];exact hl) hnews h1 hroom (by rw [hsize];omega)
   rw [hr] at hr2
   cases hr2
   exact .inl hg
  ·have holds:∀j u,xs[j]? = some u→w.cell? ((⟨g0,0,none⟩ :Addr).add j) = some u:=hown.cells (g:=g0) rfl
   have hr2:=run_append_grow (P:=P) w t ty e i (.int .u8 0) ht hi hz ⟨g0,0,none⟩ n cap xs (by rw [hsize];simpa using hxl) holds a m c news (by rw [hsize];exact hl) hnews (by omega) (by unfold maxLen at h63;omega) (by rw [hby];exact growslice_fits (by omega) (by omega))
   rw [hr] at hr2
   cases hr2
   simp only [Value.ownBlock,Option.some.injEq] at hg
   exact .inr (by omega)
theorem qyC {ops:Array Oper} {rest:List Oper} {o:Oper} {a:Act} {Q:Exit→Act→World→Prop} (hgd:o.guard = none) (sl x:Operand) (t u:TypeId) (ho:o.op = .call { callee:=.builtin .append,args:=#[sl,x],argTypes:=#[t,u]})
  (e:TypeId) (i:TypeInfo) (ht:P.underlying t = some (.slice e)) (hu:P.underlying u = some .string) (hi:P.info? e = some i) (hz:i.zero = some (.int .u8 0)) (hsize:i.size = 1) (hby:i.bytes = 1)
  (v:Value) (n:Nat) (xs:List Value) (hs:a.eval sl = v) (hown:w.ownsRowF 0 e 1 v n xs) (s:ByteArray) (hx:a.eval x = .string s) (h63:n + s.size ≤ maxLen) (hbytes:n + s.size ≤ 140737488355328)
  (h:∀v' w',w'.ownsRowF 0 e 1 v' (n + s.size) (xs ++ Lib.strCells s)→w.grownBy w' v.ownBlock→(∀g,v'.ownBlock = some g→v.ownBlock = some g∨w.heap.size ≤ g)→wpList P ops Q rest (a.put o.dst v') w'):wpList P ops Q (o :: rest) a w:=by
 refine wpList_plain hgd fun K hK=>?_
 obtain ⟨v',w',hr,h2,h3,h4⟩:=quy (P:=P) w t u o.type e i ht hu hi hz hsize hby v n xs hown s h63 hbytes
 unfold Oper.wp execOp
 simp only [ho,resolve,invoke,builtin,Sem.run_bind,Sem.run_pure,Result.andThen_ok,List.map_toArray,List.map_cons,List.map_nil,hs,hx,hr]
 exact hK _ _ (h v' w' h2 h3 h4)
theorem qyB {ops:Array Oper} {rest:List Oper} {o:Oper} {a:Act} {Q:Exit→Act→World→Prop} (hgd:o.guard = none) (sl x:Operand) (t:TypeId) (ho:o.op = .call { callee:=.builtin .append,args:=#[sl,x],argTypes:=#[t,t]})
  (e:TypeId) (i:TypeInfo) (ht:P.underlying t = some (.slice e)) (hi:P.info? e = some i) (hz:i.zero = some (.int .u8 0)) (hsize:i.size = 1) (hby:i.bytes = 1)
  (v:Value) (n:Nat) (xs:List Value) (hs:a.eval sl = v) (hown:w.ownsRowF 0 e 1 v n xs) (ad:Addr) (m c:Nat) (news:List Value) (hx:a.eval x = .slice (some ad) m c) (hl:news.length = m * 1) (hnews:∀j u,news[j]? = some u→w.cell? (ad.add j) = some u) (h1:∀u ∈ news,u.oneCell' = true)
  (h63:n + m ≤ maxLen) (hbytes:n + m ≤ 140737488355328)
  (h:∀v' w',w'.ownsRowF 0 e 1 v' (n + m) (xs ++ news)→w.grownBy w' v.ownBlock→(∀g,v'.ownBlock = some g→v.ownBlock = some g∨w.heap.size ≤ g)→wpList P ops Q rest (a.put o.dst v') w'):wpList P ops Q (o :: rest) a w:=by
 refine wpList_plain hgd fun K hK=>?_
 obtain ⟨v',w',hr,h2,h3,h4⟩:=qux (P:=P) w t o.type e i ht hi hz hsize hby v n xs hown ad m c news hl hnews h1 h63 hbytes
 unfold Oper.wp execOp
 simp only [ho,resolve,invoke,builtin,Sem.run_bind,Sem.run_pure,Result.andThen_ok,List.map_toArray,List.map_cons,List.map_nil,hs,hx,hr]
 exact hK _ _ (h v' w' h2 h3 h4)
end
variable {P:Program} {ρ:Ren}
def qjD (ρ:Ren) (w:World) (b:Nat) (v:Value) (bs:List Value):Prop:=∃p,w.heap[b]? = some (.cells #[p,v] (ρ.t 72) (0,0))∧(p = .pointer none∨p = .pointer (some ⟨b,0,none⟩))∧w.ownsRowF 0 (ρ.t 5) 1 v bs.length bs∧v.ownBlock ≠ some b
theorem qhM (L:Lays.n240 P ρ) (X:Builder.X72 P ρ) {b:Nat} {v:Value} {bs:List Value} {w:World} (h:qjD ρ w b v bs) :
  Calls P (ρ.f 240) #[.pointer (some ⟨b,0,none⟩)] w fun e w'=>e = .returned (.tuple #[])∧w'.heap[b]? = some (.cells #[.pointer (some ⟨b,0,none⟩),v] (ρ.t 72) (0,0))∧w'.ownsRowF 0 (ρ.t 5) 1 v bs.length bs∧w.heap.size = w'.heap.size∧qkD w w' b v v:=by
 obtain ⟨p,h1,h2,h3,h4⟩:=h
 rcases h2 with rfl | rfl
 ·refine (Any.Builder_copyCheck_fresh L X b w (by rw [Lib.cell_of_heap h1];rfl) (by simp [World.shape?,h1]) (Lib.frozen_of_heap h1 0)).mono ?_
  rintro e w' ⟨rfl,rfl⟩
  have hbl:∀k,k ≠ b→(w.setCell ⟨b,0,none⟩ (.pointer (some ⟨b,0,none⟩))).heap[k]? = w.heap[k]?:=fun k hk=>heap_setCell_other w ⟨b,0,none⟩ k _ hk
  refine ⟨rfl,?_,h3.kept (row:=some b) ⟨rfl,rfl,rfl,by simp [World.setCell],fun k _ hk=>hbl k (fun e=>hk (by rw [e]))⟩ (.inr h4),by simp [World.setCell],⟨rfl,rfl,rfl,by simp [World.setCell],fun k _ hk _=>hbl k hk,fun g hg=>.inl hg⟩⟩
  simp [World.setCell,Array.getElem?_modify,h1]
 ·refine (Any.Builder_copyCheck_used L X b w (by rw [Lib.cell_of_heap h1];rfl)).mono ?_
  rintro e w' ⟨rfl,rfl⟩
  exact ⟨rfl,h1,h3,rfl,rfl,rfl,rfl,Nat.le_refl _,fun _ _ _ _=>rfl,fun g hg=>.inl hg⟩
theorem qiE {w w1 w2:World} {b:Nat} {v v':Value} {e:TypeId} {bs:List Value} {X:Builder.Extra P ρ} (k1:qkD w w1 b v v) (hg:w1.grownBy w2 v.ownBlock) (ho:∀g,v'.ownBlock = some g→v.ownBlock = some g∨w1.heap.size ≤ g) (hlt:b < w.heap.size) (hne:v.ownBlock ≠ some b)
  (hb1:w1.heap[b]? = some (.cells #[.pointer (some ⟨b,0,none⟩),v] (ρ.t 72) (0,0))) (hown:w2.ownsRowF 0 (ρ.t 5) 1 v' bs.length bs) :
  (w2.setCell ⟨b,1,none⟩ v').heap[b]? = some (.cells #[.pointer (some ⟨b,0,none⟩),v'] (ρ.t 72) (0,0))∧(w2.setCell ⟨b,1,none⟩ v').ownsRowF 0 (ρ.t 5) 1 v' bs.length bs∧v'.ownBlock ≠ some b∧qkD w (w2.setCell ⟨b,1,none⟩ v') b v v':=by
 have hb2:w2.heap[b]? = some (.cells #[.pointer (some ⟨b,0,none⟩),v] (ρ.t 72) (0,0)):=by
  rw [hg.block b (Nat.lt_of_lt_of_le hlt k1.size) (fun e=>hne e.symm)];exact hb1
 have hbl:∀k,k ≠ b→(w2.setCell ⟨b,1,none⟩ v').heap[k]? = w2.heap[k]?:=fun k hk=>heap_setCell_other w2 ⟨b,1,none⟩ k _ hk
 have hne':v'.ownBlock ≠ some b:=fun e=>by
  rcases ho b e with h | h
  ·exact hne h
  ·have:=k1.size;omega
 refine ⟨by simp [World.setCell,Array.getElem?_modify,hb2],hown.kept (row:=some b) ⟨rfl,rfl,rfl,by simp [World.setCell],fun k _ hk=>hbl k (fun e=>hk (by rw [e]))⟩ (.inr hne'),hne',⟨hg.os.trans k1.os,hg.tape.trans k1.tape,hg.output.trans k1.output,Nat.le_trans k1.size (Nat.le_trans hg.size (by simp [World.setCell])),fun k hk h1 h2=>?_,fun g hq=>?_⟩⟩
 ·rw [hbl k h1,hg.block k (Nat.lt_of_lt_of_le hk k1.size) h2,k1.block k hk h1 h2]
 ·rcases ho g hq with h | h
  ·exact .inl h
  ·exact .inr (Nat.le_trans k1.size h)
theorem qjH (L:Lays.n166 P ρ) (X:Builder.Extra P ρ) {b:Nat} {v:Value} {bs:List Value} {s:ByteArray} {w:World} (h:qjD ρ w b v bs) (hlen:bs.length + s.size ≤ 140737488355328) :
  Calls P (ρ.f 166) #[.pointer (some ⟨b,0,none⟩),.string s] w fun e w'=>e = .returned (.tuple #[.int .i64 s.size,.nilIface])∧∃v',qjD ρ w' b v' (bs ++ Lib.strCells s)∧qkD w w' b v v':=by
 obtain ⟨i0,hi,hz0,hz1,hz2⟩:=info_parts X.infoByte
 have hlt:b < w.heap.size:=by obtain ⟨_,h1,_⟩:=h;exact (Array.getElem?_eq_some_iff.1 h1).1
 have hne:v.ownBlock ≠ some b:=by obtain ⟨_,_,_,_,h4⟩:=h;exact h4
 have mixed:=L.mixed
 have t72:=L.t72;have a72:=L.a72;have z72:=L.z72;have v72:=L.v72;have u72:=run_underlying L.t72
 have t70:=L.t70;have a70:=L.a70;have z70:=L.z70;have v70:=L.v70;have u70:=run_underlying L.t70
 have t37:=L.t37;have a37:=L.a37;have z37:=L.z37;have v37:=L.v37;have u37:=run_underlying L.t37
 have t3:=L.t3;have a3:=L.a3;have z3:=L.z3;have v3:=L.v3;have u3:=run_underlying L.t3
 have t9:=L.t9;have a9:=L.a9;have z9:=L.z9;have v9:=L.v9;have u9:=run_underlying L.t9
 have t4:=L.t4;have a4:=L.a4;have z4:=L.z4;have v4:=L.v4;have u4:=run_underlying L.t4
 have t164:=L.t164;have a164:=L.a164;have z164:=L.z164;have v164:=L.v164;have u164:=run_underlying L.t164
 have t5:=X.t5;have a5:=X.a5;have z5:=X.z5;have v5:=X.v5;have u5:=run_underlying X.t5
 have e240:∀args w,(callFunc (ρ.f 240) args).run P w = .ok (.enter (ρ.f 240) args) w:=enters_of L.f240 (by kernel_rfl) rfl
 go_enter L.f166,Body.n166_ntmps ρ
 go_wp2_with (go_at_fn (ρ.f 240);refine (qhM { L with} X.toX72 h).mono ?_)
 rintro e w1 ⟨rfl,hbk,hown,hsz,k1⟩
 have c0:w1.cell? ⟨b,0,none⟩ = some (.pointer (some ⟨b,0,none⟩)):=by rw [Lib.cell_of_heap hbk];rfl
 have c1:w1.cell? ⟨b,1,none⟩ = some v:=by rw [Lib.cell_of_heap hbk];rfl
 go_wp2_with (at_builtin;refine qyC _ rfl _ _ (ρ.t 37) (ρ.t 9) rfl (ρ.t 5) i0 L.t37 L.t9 hi hz0 hz1 hz2 _ _ _ rfl hown s rfl ?c3 ?c4 ?_)
 case c3=>unfold maxLen;omega
 case c4=>omega
 intro v' w2 hown' hgrow ho
 have hb2:w2.heap[b]? = some (.cells #[.pointer (some ⟨b,0,none⟩),v] (ρ.t 72) (0,0)):=by
  rw [hgrow.block b (by omega) (fun e=>hne e.symm)]
  exact hbk
 have d0:w2.cell? ⟨b,0,none⟩ = some (.pointer (some ⟨b,0,none⟩)):=by rw [Lib.cell_of_heap hb2];rfl
 have d1:w2.cell? ⟨b,1,none⟩ = some v:=by rw [Lib.cell_of_heap hb2];rfl
 have f1:w2.frozen? ⟨b,1,none⟩ = false:=Lib.frozen_of_heap hb2 1
 obtain ⟨q1,q2,q3,q4⟩:=qiE (P:=P) (X:=X) (bs:=bs ++ Lib.strCells s) (e:=0) k1 hgrow ho hlt hne hbk (by simpa [Lib.strCells_length] using hown')
 obtain ⟨ao,n',cap,rfl⟩ :∃ao n' cap,v' = .slice ao n' cap:=by
  rcases hown'.2 with ⟨hv,_⟩ | ⟨g,cap,cur,fz,hv,_⟩
  ·exact ⟨_,_,_,hv⟩
  ·exact ⟨_,_,_,hv⟩
 go_wp2
 go_ret2
 exact ⟨rfl,_,⟨_,q1,.inr rfl,q2,q3⟩,q4⟩
theorem ql5 (L:Lays.n167 P ρ) (X:Builder.Extra P ρ) {b:Nat} {v:Value} {bs:List Value} {c:Int} {w:World} (h:qjD ρ w b v bs) (hlen:bs.length + 1 ≤ 140737488355328) :
  Calls P (ρ.f 167) #[.pointer (some ⟨b,0,none⟩),.int .u8 c] w fun e w'=>e = .returned .nilIface∧∃v',qjD ρ w' b v' (bs ++ [.int .u8 c])∧qkD w w' b v v':=by
 obtain ⟨i0,hi,hz0,hz1,hz2⟩:=info_parts X.infoByte
 have hlt:b < w.heap.size:=by obtain ⟨_,h1,_⟩:=h;exact (Array.getElem?_eq_some_iff.1 h1).1
 have hne:v.ownBlock ≠ some b:=by obtain ⟨_,_,_,_,h4⟩:=h;exact h4
 have mixed:=L.mixed
 have t72:=L.t72;have a72:=L.a72;have z72:=L.z72;have v72:=L.v72;have u72:=run_underlying L.t72
 have t70:=L.t70;have a70:=L.a70;have z70:=L.z70;have v70:=L.v70;have u70:=run_underlying L.t70
 have t5:=L.t5;have a5:=L.a5;have z5:=L.z5;have v5:=L.v5;have u5:=run_underlying L.t5
 have t37:=L.t37;have a37:=L.a37;have z37:=L.z37;have v37:=L.v37;have u37:=run_underlying L.t37
 have t9:=L.t9;have a9:=L.a9;have z9:=L.z9;have v9:=L.v9;have u9:=run_underlying L.t9
 have t4:=L.t4;have a4:=L.a4;have z4:=L.z4;have v4:=L.v4;have u4:=run_underlying L.t4
 have t164:=L.t164;have a164:=L.a164;have z164:=L.z164;have v164:=L.v164;have u164:=run_underlying L.t164
 have e240:∀args w,(callFunc (ρ.f 240) args).run P w = .ok (.enter (ρ.f 240) args) w:=enters_of L.f240 (by kernel_rfl) rfl
 go_enter L.f167,Body.n167_ntmps ρ
 go_wp2_with (go_at_fn (ρ.f 240);refine (qhM { L with} X.toX72 h).mono ?_)
 rintro e w1 ⟨rfl,hbk,hown,hsz,k1⟩
 have c0:w1.cell? ⟨b,0,none⟩ = some (.pointer (some ⟨b,0,none⟩)):=by rw [Lib.cell_of_heap hbk];rfl
 have c1:w1.cell? ⟨b,1,none⟩ = some v:=by rw [Lib.cell_of_heap hbk];rfl
 go_wp2_with (at_builtin;refine qyB _ rfl _ _ (ρ.t 37) rfl (ρ.t 5) i0 L.t37 hi hz0 hz1 hz2 _ _ _ rfl (hown.alloc _) ⟨w1.heap.size,0,none⟩ 1 1 [.int .u8 c] rfl rfl ?c1 ?c2 ?c3 ?c4 ?_)
 case c1=>
  intro j u hj
  match j,hj with
  | 0,hj=>simp at hj;subst hj;simp [Addr.add]
 case c2=>intro u hu;simp at hu;subst hu;rfl
 case c3=>unfold maxLen;omega
 case c4=>omega
 intro v' w2 hown' hgrow ho
 have hgrow':w1.grownBy w2 v.ownBlock:=⟨hgrow.os,hgrow.tape,hgrow.output,by have:=hgrow.size;simp at this;omega,fun k hk h1=>by rw [hgrow.block k (by simp;omega) h1,Lib.alloc_old w1 _ k hk]⟩
 have ho':∀g,v'.ownBlock = some g→v.ownBlock = some g∨w1.heap.size ≤ g:=fun g hg=>(ho g hg).imp id fun h=>by omega
 have hb2:w2.heap[b]? = some (.cells #[.pointer (some ⟨b,0,none⟩),v] (ρ.t 72) (0,0)):=by
  rw [hgrow'.block b (by omega) (fun e=>hne e.symm)]
  exact hbk
 have d0:w2.cell? ⟨b,0,none⟩ = some (.pointer (some ⟨b,0,none⟩)):=by rw [Lib.cell_of_heap hb2];rfl
 have d1:w2.cell? ⟨b,1,none⟩ = some v:=by rw [Lib.cell_of_heap hb2];rfl
 have f1:w2.frozen? ⟨b,1,none⟩ = false:=Lib.frozen_of_heap hb2 1
 obtain ⟨q1,q2,q3,q4⟩:=qiE (P:=P) (X:=X) (bs:=bs ++ [.int .u8 c]) (e:=0) k1 hgrow' ho' hlt hne hbk (by simpa using hown')
 obtain ⟨g,cap,rfl⟩ :∃g cap,v' = .slice (some ⟨g,0,none⟩) (bs.length + 1) cap:=by
  rcases hown'.2 with ⟨_,h0⟩ | ⟨g,cap,cur,fz,hv,_⟩
  ·omega
  ·exact ⟨g,cap,hv⟩
 go_wp2
 go_ret
 exact ⟨rfl,_,⟨_,q1,.inr rfl,q2,q3⟩,q4⟩
theorem qvE (L:Lays.n169 P ρ) (X:Builder.Extra P ρ) {b:Nat} {v:Value} {l:List UInt8} {w:World} (h:qjD ρ w b v (Lib.byteCells l)) (h0:l ≠ []) :
  Calls P (ρ.f 169) #[.pointer (some ⟨b,0,none⟩)] w fun e w'=>e = .returned (.string ⟨l.toArray⟩)∧qjD ρ w' b v (Lib.byteCells l)∧qkD w w' b v v:=by
 obtain ⟨p,hbk,hp,hown,hne⟩:=h
 have hl0:l.length ≠ 0:=by simpa using h0
 rw [Lib.byteCells_length] at hown
 obtain ⟨g,cap,cur,fz,rfl,hg,hfz,hnc,hcm,hcs,htake⟩ :∃g cap cur fz,v = .slice (some ⟨g,0,none⟩) l.length cap∧w.heap[g]? = some (.cells cur (ρ.t 5) fz)∧fz.2 ≤ l.length * 1∧l.length ≤ cap∧cap ≤ maxLen∧cur.size = cap * 1∧cur.toList.take (l.length * 1) = Lib.byteCells l:=by
  rcases hown.2 with ⟨_,hz⟩ | ⟨g,cap,cur,fz,hv,_,r⟩
  ·exact absurd hz hl0
  ·exact ⟨g,cap,cur,fz,hv,r⟩
 have c1:w.drew.cell? ⟨b,1,none⟩ = some (.slice (some ⟨g,0,none⟩) l.length cap):=by
  have:w.drew.heap[b]? = some (.cells #[p,.slice (some ⟨g,0,none⟩) l.length cap] (ρ.t 72) (0,0)):=hbk
  rw [Lib.cell_of_heap this];rfl
 have hSD:(Builtin.unsafeSliceData_ #[(ρ.t 37)] (ρ.t 127) #[.slice (some ⟨g,0,none⟩) l.length cap]).run P w.drew = .ok (.pointer (some ⟨g,0,none⟩)) w.drew:=
  Lib.run_unsafeSliceData_row _ _ _ _ _ _ (by omega)
 have hUS:(Builtin.unsafeString_ #[(ρ.t 127),(ρ.t 3)] (ρ.t 9) #[.pointer (some ⟨g,0,none⟩),.int .i64 l.length]).run P w.drew = .ok (.string ⟨l.toArray⟩) (w.drew.freeze ⟨g,0,none⟩ l.length):=by
  refine Lib.run_unsafeString_row w.drew (ρ.t 127) (ρ.t 3) (ρ.t 9) (ρ.t 5) L.t127 X.cellsByte g cur.size (by have hg':w.drew.heap[g]? = some (.cells cur (ρ.t 5) fz):=hg;simp [World.shape?,hg']) l h0 (by omega) (by unfold maxLen at hcm;omega) ?_
  intro j x hx
  have:=hown.cells (g:=g) rfl j (.int .u8 x.toNat) (by simp [Lib.byteCells,hx])
  exact this
 have hgb:g ≠ b:=fun e=>hne (by simp [Value.ownBlock,e])
 have hbl:∀k,k ≠ g→(w.drew.freeze ⟨g,0,none⟩ l.length).heap[k]? = w.heap[k]?:=fun k hk=>by
  rw [World.freeze,if_neg hl0]
  show (w.heap.modify g _)[k]? = _
  rw [Array.getElem?_modify,if_neg (fun e=>hk e.symm)]
 have hgr:(w.drew.freeze ⟨g,0,none⟩ l.length).heap[g]? = some (.cells cur (ρ.t 5) (if fz.1 == fz.2 then (0,l.length) else (min fz.1 0,max fz.2 l.length))):=by
  rw [World.freeze,if_neg hl0]
  show (w.heap.modify g _)[g]? = _
  rw [Array.getElem?_modify,if_pos rfl,hg]
  obtain ⟨lo,hi'⟩:=fz
  simp
 have hsz:(w.drew.freeze ⟨g,0,none⟩ l.length).heap.size = w.heap.size:=by
  rw [World.freeze,if_neg hl0]
  show (w.heap.modify g _).size = _
  simp
 have q:∀x,x = w.drew.freeze ⟨g,0,none⟩ l.length→x.os = w.os∧x.tape = w.tape∧x.output = w.output:=fun x hx=>by subst hx;rw [World.freeze,if_neg hl0];exact ⟨rfl,rfl,rfl⟩
 have fin:qjD ρ (w.drew.freeze ⟨g,0,none⟩ l.length) b (.slice (some ⟨g,0,none⟩) l.length cap) (Lib.byteCells l)∧qkD w (w.drew.freeze ⟨g,0,none⟩ l.length) b (.slice (some ⟨g,0,none⟩) l.length cap) (.slice (some ⟨g,0,none⟩) l.length cap):=by
  obtain ⟨q1,q2,q3⟩:=q _ rfl
  refine ⟨⟨p,(hbl b (Ne.symm hgb)).trans hbk,hp,⟨by simp,.inr ⟨g,cap,cur,_,by rw [Lib.byteCells_length],Nat.zero_le _,hgr,?_,by rw [Lib.byteCells_length];exact hnc,hcm,hcs,by rw [Lib.byteCells_length];exact htake⟩⟩,hne⟩,⟨q1,q2,q3,Nat.le_of_eq hsz.symm,fun k _ h1 h2=>hbl k (fun e=>h2 (by simp [Value.ownBlock,e])),fun g' hg'=>.inl hg'⟩⟩
  rw [Lib.byteCells_length]
  split
  ·simp
  ·simp at hfz ⊢;omega
 have mixed:=L.mixed
 have t72:=L.t72;have a72:=L.a72;have z72:=L.z72;have v72:=L.v72;have u72:=run_underlying L.t72
 have t70:=L.t70;have a70:=L.a70;have z70:=L.z70;have v70:=L.v70;have u70:=run_underlying L.t70
 have t37:=L.t37;have a37:=L.a37;have z37:=L.z37;have v37:=L.v37;have u37:=run_underlying L.t37
 have t127:=L.t127;have a127:=L.a127;have z127:=L.z127;have v127:=L.v127;have u127:=run_underlying L.t127
 have t3:=L.t3;have a3:=L.a3;have z3:=L.z3;have v3:=L.v3;have u3:=run_underlying L.t3
 have t9:=L.t9;have a9:=L.a9;have z9:=L.z9;have v9:=L.v9;have u9:=run_underlying L.t9
 have t5:=X.t5;have a5:=X.a5;have z5:=X.z5;have v5:=X.v5;have u5:=run_underlying X.t5
 go_enter L.f169,Body.n169_ntmps ρ
 go_wp2
 go_region_o
 all_goals (go_wp2;go_ret;exact ⟨rfl,fin⟩)
end Go.Proofs
namespace Go.AE
open Go.RowKit Go.Shelf Go.Proofs
section
variable {P:Program} {gl:Nat→Option (List qd)} {G:qi} {w w':World} {h:List qj}
theorem qlR {T E:Nat} (call:Call):qP fun _ xs h=>wbX T E call xs h:=by
 intro fv xs h r h' e hr
 simp only [wbX] at hr
 split at hr
 ·split at hr
  ·rename_i t e0 s hid
   cases hc:(Nat.beq t T && Nat.beq e0 E) && ((ile 0 _ && ile _ 255) && Nat.ble s.length qk) <;> rw [hc] at hr <;> cases hr
   exact ⟨by simp,fun _=>qae.set hid fun B _ _ _=>rfl⟩
  ·cases hr
 ·cases hr
theorem qlS {T E:Nat} (call:Call):qP fun _ xs h=>wsX T E call xs h:=by
 intro fv xs h r h' e hr
 simp only [wsX] at hr
 split at hr
 ·split at hr
  ·rename_i t e0 s hid
   cases hc:(Nat.beq t T && Nat.beq e0 E) && Nat.ble (s.length + _) qk <;> rw [hc] at hr <;> cases hr
   exact ⟨by simp,fun _=>qae.set hid fun B _ _ _=>rfl⟩
  ·cases hr
 ·cases hr
theorem qom {T E:Nat}:∀call xs h r h' e,stX T E call xs h = some (r,h',e)→h' = h:=by
 intro call xs h r h' e hr
 unfold stX at hr
 split at hr
 ·split at hr
  ·rename_i t e0 s hid
   cases hc:(Nat.beq t T && Nat.beq e0 E) && !s.isEmpty <;> rw [hc] at hr <;> cases hr
   rfl
  ·cases hr
 ·cases hr
theorem qnJ:∀call xs h r h' e,itX call xs h = some (r,h',e)→h' = h:=by
 intro call xs h r h' e hr
 unfold itX at hr
 split at hr
 ·rename_i n
  cases hc:ile (-9223372036854775808) n && ile n 9223372036854775807 <;> rw [hc] at hr <;> cases hr
  rfl
 ·cases hr
theorem qnM:∀call xs h r h' e,jnX call xs h = some (r,h',e)→h' = h:=by
 intro call xs h r h' e hr
 unfold jnX at hr
 split at hr
 ·split at hr
  ·rename_i l hl
   cases hc:Nat.ble (Lib.join l _).length qk && Nat.ble l.length qk <;> rw [hc] at hr <;> cases hr
   rfl
  ·cases hr
 ·rename_i len _ _ _
  split at hr
  ·split at hr
   ·rename_i l hl
    cases hc:Nat.ble (Lib.join l _).length qk && (Nat.beq l.length len && Nat.ble len qk) <;> rw [hc] at hr <;> cases hr
    rfl
   ·cases hr
  ·cases hr
 ·cases hr
theorem Rel.wrote (hr:Rel P gl G h w) (hn:qes G) {id b T e:Nat} {s s':List UInt8} {p p' v v':Value} (hb:G.γ id = some b) (hid:h[id]? = some (.bld T e s)) (h1:w.heap[b]? = some (.cells #[p,v] T (0,0))) (h3:w.ownsRowF 0 e 1 v s.length (Lib.byteCells s))
  (h4:∀g,v.ownBlock = some g→G.ow g = some (.cell id 1)∧∀j,G.imm g j = none) (hw:qkD w w' b v v') (k1:w'.heap[b]? = some (.cells #[p',v'] T (0,0))) (k2:p' = .pointer none∨p' = .pointer (some ⟨b,0,none⟩)) (k3:w'.ownsRowF 0 e 1 v' s'.length (Lib.byteCells s')) (n:Nat) :
  ∃G':qi,Ext n G w G' w'∧Rel P gl G' (h.set id (.bld T e s')) w'∧qes G'∧G'.γ = G.γ∧G'.imm = G.imm:=by
 let G':qi:={ γ:=G.γ,imm:=G.imm,ow:=fun x=>if v'.ownBlock = some x then some (.cell id 1) else G.ow x}
 have hG:∀x,G'.ow x = if v'.ownBlock = some x then some (.cell id 1) else G.ow x:=fun _=>rfl
 have hne:∀x i,G.γ i = some x→v.ownBlock ≠ some x:=fun x i hx e1=>(hr.ow x _ (h4 x e1).1).2 i hx
 have hsame:∀x,x < w.heap.size→x ≠ b→v.ownBlock ≠ some x→w'.heap[x]? = w.heap[x]?:=fun x a c d=>hw.block x a c (Ne.symm d)
 have hnd:(qj.bld T e s) ≠ .dead:=by simp
 have howk:∀y i o,G.ow y = some (.cell i o)→id ≠ i→v.ownBlock ≠ some y:=fun y i o hy hi e1=>by
  have:=(h4 y e1).1
  rw [hy] at this
  cases this
  exact hi rfl
 have hbl:b < w.heap.size:=(hr.γlt id b hb).2
 have hnew:∀x,v'.ownBlock = some x→x < w'.heap.size∧∀i,G.γ i ≠ some x:=fun x hx=>by
  refine ⟨(k3.lt x hx).2,fun i hi=>?_⟩
  rcases hw.own x hx with h5 | h5
  ·exact hne x i hi h5
  ·have:=(hr.γlt i x hi).2;omega
 refine ⟨G',⟨fun _ _ h=>h,fun _ _ h=>.inl h,fun _ _ _ h=>h,fun _ _ _ h=>.inl h,fun x hx=>?_,hw.size,fun x hx hf=>?_,fun x L hL=>?_,hw.os,hw.tape,hw.output⟩,⟨fun i x hx=>?_,qjZ hr.inj hid hnd,fun i x bx hx hbx=>?_,fun x o u hu hm=>?_,fun x o u i hu hm hg=>qdO hid hnd (hr.immγ x o u i hu hm hg),fun x o hu=>?_,fun x ℓ hx=>?_,hr.glob⟩,fun x i hx=>?_,rfl,rfl⟩
 ·rw [hG] at hx
  split at hx
  ·rename_i e1
   rcases hw.own x e1 with h5 | h5
   ·exact .inl (by rw [(h4 x h5).1];simp)
   ·exact .inr h5
  ·exact .inl hx
 ·exact hsame x hx (fun e1=>hf.1 id (e1▸hb)) (fun e1=>by have:=(h4 x e1).1;rw [hf.2] at this;cases this)
 ·have hx:=(Array.getElem?_eq_some_iff.1 hL).1
  have q1:x ≠ b:=fun e1=>by subst e1;rw [h1] at hL;cases hL
  have q2:v.ownBlock ≠ some x:=fun e1=>by
   rcases h3.2 with ⟨rfl,_⟩ | ⟨g,cap,cur,fz,rfl,_,hg,_⟩
   ·simp [Value.ownBlock] at e1
   ·simp only [Value.ownBlock,Option.some.injEq] at e1
    subst e1
    rw [hg] at hL;cases hL
  exact ⟨L,(hsame x hx q1 q2).trans hL,rfl,rfl,rfl,rfl,rfl,rfl⟩
 ·have:=hr.γlt i x hx
  exact ⟨by simpa using this.1,Nat.lt_of_lt_of_le this.2 hw.size⟩
 ·by_cases e1:id = i
  ·subst e1
   rw [hb] at hx;cases hx
   rw [List.getElem?_set_self (hr.γlt id b hb).1] at hbx
   cases hbx
   refine ⟨p',v',k1,k2,k3,fun g hg=>⟨by rw [hG,if_pos hg],fun j=>?_⟩⟩
   rcases hw.own g hg with h5 | h5
   ·exact (h4 g h5).2 j
   ·cases hi:G.imm g j with
    | none=>rfl
    | some u=>have:=hr.imm_lt hi;omega
  ·rw [List.getElem?_set_ne e1] at hbx
   have h0:=hr.box i x bx hx hbx
   by_cases hd:bx = .dead
   ·subst hd;trivial
   ·obtain ⟨m,hm⟩:=qj.lower_ex bx
    have hxb:x ≠ b:=fun e'=>by
     rcases hr.inj id i b hb (e'▸hx) with q | q | q
     ·exact e1 q
     ·rw [hid] at q;cases q
     ·rw [hbx] at q;cases q;exact hd rfl
    refine qgU.keep h0 hm (fun _ _ _ h=>h) (fun _ _ _ h=>h) (hsame x (hr.γlt i x hx).2 hxb (hne x i hx)) (fun y o hy=>?_) (fun y o hy=>?_) (fun _ _ _ _ h=>h)
    ·rw [hG,if_neg]
     ·exact hy
     ·intro e2
      rcases hw.own y e2 with h5 | h5
      ·exact howk y i o hy e1 h5
      ·have:=(hr.ow y _ hy).1;omega
    ·exact hsame y (hr.ow y _ hy).1 (fun e2=>(hr.ow y _ hy).2 id (e2▸hb)) (howk y i o hy e1)
 ·obtain ⟨q1,q2⟩:=hr.imm x o u hu hm
  have hxb:x ≠ b:=fun e1=>by have:=hr.immγ x o u id hu hm (e1▸hb);rw [hid] at this;cases this
  have hxo:v.ownBlock ≠ some x:=fun e1=>by have:=(h4 x e1).2 o;rw [hu] at this;cases this
  exact ⟨(qbA (hsame x q2 hxb hxo)).trans q1,Nat.lt_of_lt_of_le q2 hw.size⟩
 ·obtain ⟨q0,c,te,q1,q2⟩:=hr.immK x o hu
  have hxo:v.ownBlock ≠ some x:=fun e1=>by have:=(h4 x e1).2 o;rw [hu] at this;cases this
  by_cases hxb:x = b
  ·subst hxb
   rw [h1] at q1;cases q1
   exact ⟨q0,_,_,k1,by rw [q2];rfl⟩
  ·exact ⟨q0,c,te,(hsame x (Array.getElem?_eq_some_iff.1 q1).1 hxb hxo).trans q1,q2⟩
 ·rw [hG] at hx
  split at hx
  ·rename_i e1;exact hnew x e1
  ·have:=hr.ow x ℓ hx
   exact ⟨Nat.lt_of_lt_of_le this.1 hw.size,this.2⟩
 ·rw [hG] at hx
  split at hx
  ·cases hx
  ·exact hn x i hx
theorem qvR {s:List UInt8} {c:Int} (h0:0 ≤ c) (h1:c ≤ 255):Lib.byteCells s ++ [.int .u8 c] = Lib.byteCells (s ++ [c.toNat.toUInt8]):=by
 rw [Lib.byteCells_append]
 congr 1
 simp only [Lib.byteCells,List.map_cons,List.map_nil,List.cons.injEq,Value.int.injEq,true_and,and_true]
 have:c.toNat.toUInt8.toNat = c.toNat:=by simp;omega
 rw [this];omega
theorem qq6 {ρ:Ren} {id b T e:Nat} {s:List UInt8} (hr:Rel P gl G h w) (hb:G.γ id = some b) (hid:h[id]? = some (.bld T e s)) (hT:T = ρ.t 72) (he:e = ρ.t 5) :
  ∃p v,w.heap[b]? = some (.cells #[p,v] T (0,0))∧w.ownsRowF 0 e 1 v s.length (Lib.byteCells s)∧(∀g,v.ownBlock = some g→G.ow g = some (.cell id 1)∧∀j,G.imm g j = none)∧qjD ρ w b v (Lib.byteCells s):=by
 obtain ⟨p,v,h1,h2,h3,h4⟩:=hr.box id b _ hb hid
 subst hT;subst he
 exact ⟨p,v,h1,h3,h4,p,h1,h2,by rw [Lib.byteCells_length];exact h3,fun e1=>(hr.ow b _ (h4 b e1).1).2 id hb⟩
theorem qgS {ρ : Ren} (L : Lays.n167 P ρ) (X : Builder.Extra P ρ) {pf : Func} {c : Code} (h1 : P.funcs[ρ.f 167]? = some pf) (h2 : (pf.name == "runtime.NumGoroutine") = false) (h3 : pf.body = some c) {T E : Nat} (hT : T = ρ.t 72) (hE : E = ρ.t 5) : qfP P gl (ρ.f 167) (wbX T E) := by
 intro call hcall hk xs h r h' e' hrun G w vs hr hn hall
 unfold wbX at hrun
 split at hrun
 ·rename_i id cc
  split at hrun
  ·rename_i t e0 s hid
   cases hc:(Nat.beq t T && Nat.beq e0 E) && ((ile 0 cc && ile cc 255) && Nat.ble s.length qk) <;> rw [hc] at hrun <;> cases hrun
   simp only [Bool.and_eq_true] at hc
   obtain ⟨⟨c1,c2⟩,⟨c3,c4⟩,c5⟩:=hc
   have c1:=Nat.eq_of_beq_eq_true c1
   have c2:=Nat.eq_of_beq_eq_true c2
   subst c1;subst c2
   rw [qaD] at c3 c4
   have c3:=of_decide_eq_true c3
   have c4:=of_decide_eq_true c4
   have c5:=Nat.le_of_ble_eq_true c5
   simp only [qi.VL,qp,qC] at hall
   obtain ⟨u,rest,e,⟨b,hb,rfl⟩,u2,rest2,rfl,rfl,rfl⟩:=hall
   obtain rfl:vs = #[.pointer (some ⟨b,0,none⟩),.int .u8 cc]:=by rw [←Array.toArray_toList (xs:=vs),e]
   obtain ⟨p,v,k1,k2,k3,k4⟩:=qq6 hr hb hid hT hE
   refine .inl ⟨qZ h1 h2 h3 _ w,fun ro m=>qbz (m:=m) (callsIn_wide.2 ?_)⟩
   refine (ql5 L X k4 (by rw [Lib.byteCells_length];unfold qk at c5;omega)).mono ?_
   rintro e w' ⟨rfl,v',⟨p',q1,q2,q3,q4⟩,hw⟩
   rw [qvR c3 c4] at q3
   obtain ⟨G',g1,g2,g3,g4,g5⟩:=Rel.wrote (s':=s ++ [cc.toNat.toUInt8]) hr hn hb hid k1 k2 k3 hw (by rw [hT];exact q1) q2 (by rw [hE];rw [Lib.byteCells_length] at q3;exact q3) h.length
   exact ⟨_,G',rfl,g1,g2,g3,by simp only [qi.V,qC]⟩
  ·cases hrun
 ·cases hrun
theorem qkt {ρ : Ren} (L : Lays.n166 P ρ) (X : Builder.Extra P ρ) {pf : Func} {c : Code} (h1 : P.funcs[ρ.f 166]? = some pf) (h2 : (pf.name == "runtime.NumGoroutine") = false) (h3 : pf.body = some c) {T E : Nat} (hT : T = ρ.t 72) (hE : E = ρ.t 5) : qfP P gl (ρ.f 166) (wsX T E) := by
 intro call hcall hk xs h r h' e' hrun G w vs hr hn hall
 unfold wsX at hrun
 split at hrun
 ·rename_i id uu
  split at hrun
  ·rename_i t e0 s hid
   cases hc:(Nat.beq t T && Nat.beq e0 E) && Nat.ble (s.length + uu.length) qk <;> rw [hc] at hrun <;> cases hrun
   simp only [Bool.and_eq_true] at hc
   obtain ⟨⟨c1,c2⟩,c5⟩:=hc
   have c1:=Nat.eq_of_beq_eq_true c1
   have c2:=Nat.eq_of_beq_eq_true c2
   subst c1;subst c2
   have c5:=Nat.le_of_ble_eq_true c5
   simp only [qi.VL,qp,qC] at hall
   obtain ⟨u,rest,e,⟨b,hb,rfl⟩,u2,rest2,rfl,⟨bs,rfl,rfl⟩,rfl⟩:=hall
   obtain rfl:vs = #[.pointer (some ⟨b,0,none⟩),.string bs]:=by rw [←Array.toArray_toList (xs:=vs),e]
   have hbs:bs.size = bs.data.toList.length:=rfl
   obtain ⟨p,v,k1,k2,k3,k4⟩:=qq6 hr hb hid hT hE
   refine .inl ⟨qZ h1 h2 h3 _ w,fun ro m=>qbz (m:=m) (callsIn_wide.2 ?_)⟩
   refine (qjH L X k4 (by rw [Lib.byteCells_length];unfold qk at c5;omega)).mono ?_
   rintro e w' ⟨rfl,v',⟨p',q1,q2,q3,q4⟩,hw⟩
   rw [Lib.strCells_eq,←Lib.byteCells_append] at q3
   obtain ⟨G',g1,g2,g3,g4,g5⟩:=Rel.wrote (s':=s ++ bs.data.toList) hr hn hb hid k1 k2 k3 hw (by rw [hT];exact q1) q2 (by rw [hE];rw [Lib.byteCells_length] at q3;exact q3) h.length
   refine ⟨_,G',rfl,g1,g2,g3,?_⟩
   simp only [qi.V,qC,qp]
   exact ⟨_,rfl,_,_,rfl,rfl,_,_,rfl,rfl,rfl⟩
  ·cases hrun
 ·cases hrun
theorem qyb {ρ : Ren} (L : Lays.n169 P ρ) (X : Builder.Extra P ρ) {pf : Func} {c : Code} (h1 : P.funcs[ρ.f 169]? = some pf) (h2 : (pf.name == "runtime.NumGoroutine") = false) (h3 : pf.body = some c) {T E : Nat} (hT : T = ρ.t 72) (hE : E = ρ.t 5) : qfP P gl (ρ.f 169) (stX T E) := by
 intro call hcall hk xs h r h' e' hrun G w vs hr hn hall
 unfold stX at hrun
 split at hrun
 ·rename_i id
  split at hrun
  ·rename_i t e0 s hid
   cases hc:(Nat.beq t T && Nat.beq e0 E) && !s.isEmpty <;> rw [hc] at hrun <;> cases hrun
   simp only [Bool.and_eq_true] at hc
   obtain ⟨⟨c1,c2⟩,c5⟩:=hc
   have c1:=Nat.eq_of_beq_eq_true c1
   have c2:=Nat.eq_of_beq_eq_true c2
   subst c1;subst c2
   have c5:s ≠ []:=by simpa using c5
   simp only [qi.VL,qp,qC] at hall
   obtain ⟨u,rest,e,⟨b,hb,rfl⟩,rfl⟩:=hall
   obtain rfl:vs = #[.pointer (some ⟨b,0,none⟩)]:=by rw [←Array.toArray_toList (xs:=vs),e]
   obtain ⟨p,v,k1,k2,k3,k4⟩:=qq6 hr hb hid hT hE
   refine .inl ⟨qZ h1 h2 h3 _ w,fun ro m=>qbz (m:=m) (callsIn_wide.2 ?_)⟩
   refine (qvE L X k4 c5).mono ?_
   rintro e w' ⟨rfl,⟨p',q1,q2,q3,q4⟩,hw⟩
   obtain ⟨G',g1,g2,g3,g4,g5⟩:=Rel.wrote (s':=s) hr hn hb hid k1 k2 k3 hw (by rw [hT];exact q1) q2 (by rw [hE];rw [Lib.byteCells_length] at q3;exact q3) h.length
   have hh:h.set id (.bld t e0 s) = h:=by
    apply List.ext_getElem?
    intro i
    by_cases e1:id = i
    ·subst e1
     rw [List.getElem?_set_self (hr.γlt id b hb).1,hid]
    ·rw [List.getElem?_set_ne e1]
   rw [hh] at g2
   refine ⟨_,G',rfl,g1,g2,g3,?_⟩
   simp only [qi.V,qC]
   exact ⟨_,rfl,by simp⟩
  ·cases hrun
 ·cases hrun
theorem qsZ {ρ : Ren} (L : LaysM.n171 P ρ) {pf : Func} {c : Code} (h1 : P.funcs[ρ.f 171]? = some pf) (h2 : (pf.name == "runtime.NumGoroutine") = false) (h3 : pf.body = some c)
  (htab : ∀ G w h, Rel P gl G h w → Lib.TabIs P w "internal/strconv.uint64pow10" .u64 Lib.pow10Tab) : qfP P gl (ρ.f 171) itX := by
 intro call hcall hk xs h r h' e' hrun G w vs hr hn hall
 unfold itX at hrun
 split at hrun
 ·rename_i n
  cases hc:ile (-9223372036854775808) n && ile n 9223372036854775807 <;> rw [hc] at hrun <;> cases hrun
  simp only [Bool.and_eq_true,qaD] at hc
  have c1:=of_decide_eq_true hc.1
  have c2:=of_decide_eq_true hc.2
  simp only [qi.VL,qp,qC] at hall
  obtain ⟨u,rest,e,rfl,rfl⟩:=hall
  obtain rfl:vs = #[.int .i64 n]:=by rw [←Array.toArray_toList (xs:=vs),e]
  refine .inl ⟨qZ h1 h2 h3 _ w,fun ro m=>qbz (m:=m) (callsIn_wide.2 ?_)⟩
  refine (Any.strconv_Itoa L n c1 c2 w (htab G w h hr)).mono ?_
  rintro e w' ⟨rfl,k,os,rfl⟩
  have hbl:Below w.heap.size w _:=Lib.below_grow _ w (Nat.le_refl _) k os
  refine ⟨_,G,rfl,Ext.below _ G hbl,hr.below hbl,hn,?_⟩
  simp only [qi.V,qC]
  exact ⟨_,rfl,by simp⟩
 ·cases hrun
theorem qon:∀{xs:List qd} {l:List (List UInt8)} {b p:Nat},qgr xs = some l→qQ G.γ G.imm xs b p→∃bs:List ByteArray,bs.map (·.data.toList) = l∧bs.length = xs.length∧∀(j:Nat) x,bs[j]? = some x→G.imm b (p + j) = some (.string x)
 | [],l,b,p,h,_=>by cases h;exact ⟨[],rfl,rfl,fun j x h=>by simp at h⟩
 | x :: xs,l,b,p,h,hi=>by
  cases x <;> simp only [qgr] at h <;> try (cases h;done)
  rename_i s
  obtain ⟨l',hl',rfl⟩:=Option.map_eq_some_iff.1 h
  obtain ⟨h1,h2⟩:=hi.uncons
  simp only [qd.cells,qaw,qC,List.length_cons,List.length_nil] at h1 h2
  obtain ⟨⟨v,hv,b0,rfl,rfl⟩,_⟩:=h1
  obtain ⟨bs,q1,q2,q3⟩:=qon hl' h2
  refine ⟨b0 :: bs,by simp [q1],by simp [q2],fun j x hj=>?_⟩
  cases j with
  | zero=>simp at hj;subst hj;exact hv
  | succ j=>
   simp at hj
   have:=q3 j x hj
   rwa [Nat.add_assoc,Nat.add_comm (0 + 1) j,Nat.zero_add] at this
theorem qjz:∀{xs:List qd} {l:List (List UInt8)} {c:List Value} ,qgr xs = some l→(∀(j:Nat) x,xs[j]? = some x→∃v,c[j]? = some v∧G.V x v)→∃bs:List ByteArray,bs.map (·.data.toList) = l∧bs.length = l.length∧∀(j:Nat) x,bs[j]? = some x→c[j]? = some (.string x)
 | [],l,c,h,_=>by cases h;exact ⟨[],rfl,rfl,fun j x h=>by simp at h⟩
 | x :: xs,l,c,h,hi=>by
  cases x <;> simp only [qgr] at h <;> try (cases h;done)
  rename_i s
  obtain ⟨l',hl',rfl⟩:=Option.map_eq_some_iff.1 h
  obtain ⟨v,hv,hv2⟩:=hi 0 _ rfl
  simp only [qi.V,qC] at hv2
  obtain ⟨b0,rfl,rfl⟩:=hv2
  cases c with
  | nil=>simp at hv
  | cons c0 c=>
   simp at hv
   subst hv
   obtain ⟨bs,q1,q2,q3⟩:=qjz (c:=c) hl' (fun j x hx=>by simpa using hi (j + 1) x (by simpa using hx))
   refine ⟨b0 :: bs,by simp [q1],by simp [q2],fun j x hj=>?_⟩
   cases j with
   | zero=>simp at hj;subst hj;rfl
   | succ j=>simp at hj;simpa using q3 j x hj
theorem qDt {ρ : Ren} (L : Lays.n156 P ρ) (X : Builder.Extra P ρ) {pf : Func} {c : Code} (h1 : P.funcs[ρ.f 156]? = some pf) (h2 : (pf.name == "runtime.NumGoroutine") = false) (h3 : pf.body = some c) : qfP P gl (ρ.f 156) jnX := by
 intro call hcall hk xs h r h' e' hrun G w vs hr hn hall
 unfold jnX at hrun
 split at hrun
 ·rename_i x xs f sep
  split at hrun
  ·rename_i l hl
   cases hc:Nat.ble (Lib.join l sep).length qk && Nat.ble l.length qk <;> rw [hc] at hrun <;> cases hrun
   simp only [Bool.and_eq_true] at hc
   have c1:=Nat.le_of_ble_eq_true hc.1
   have c2:=Nat.le_of_ble_eq_true hc.2
   simp only [qi.VL,qp,qC] at hall
   obtain ⟨u,rest,e,⟨a,len,cap,rfl,rfl,hcap,_,_,_,he⟩,u2,rest2,rfl,⟨sb,rfl,rfl⟩,rfl⟩:=hall
   rcases he with he | ⟨b,p,rfl,he⟩
   ·cases he
   obtain ⟨bs,q1,q2,q3⟩:=qon hl he
   obtain rfl:vs = #[.slice (some ⟨b,p,none⟩) bs.length cap,.string sb]:=by rw [←Array.toArray_toList (xs:=vs),e,q2]
   have hcell:∀(j:Nat) x,bs[j]? = some x→w.cell? ⟨b,p + j,none⟩ = some (.string x):=fun j x hx=>(hr.imm b _ _ (q3 j x hx) (by simp [mark])).1
   have hlt:b < w.heap.size:=by
    have:0 < bs.length:=by rw [q2];simp
    exact (hr.imm b _ _ (q3 0 _ (List.getElem?_eq_getElem this)) (by simp [mark])).2
   have hbl:bs.length = l.length:=by rw [←q1];simp
   refine .inl ⟨qZ h1 h2 h3 _ w,fun ro m=>qbz (m:=m) (callsIn_wide.2 ?_)⟩
   refine (Any.strings_Join L X b p cap bs sb w hcell hlt (by unfold qk at c2;omega) (by rw [q2];exact hcap) (by rw [q1];unfold qk at c1;omega)).mono ?_
   rintro e w' ⟨rfl,hbw⟩
   refine ⟨_,G,rfl,Ext.below _ G hbw,hr.below hbw,hn,?_⟩
   simp only [qi.V,qC]
   exact ⟨_,rfl,by rw [q1]⟩
  ·cases hrun
 ·rename_i id len cap more sep
  split at hrun
  ·rename_i cs hid
   split at hrun
   ·rename_i l hl
    cases hc:Nat.ble (Lib.join l sep).length qk && (Nat.beq l.length len && Nat.ble len qk) <;> rw [hc] at hrun <;> cases hrun
    simp only [Bool.and_eq_true] at hc
    have c1:=Nat.le_of_ble_eq_true hc.1
    have c2:=Nat.eq_of_beq_eq_true hc.2.1
    have c3:=Nat.le_of_ble_eq_true hc.2.2
    simp only [qi.VL,qp,qC] at hall
    obtain ⟨u,rest,e,⟨b,c,hb,rfl,e1,e2,_,_⟩,u2,rest2,rfl,⟨sb,rfl,rfl⟩,rfl⟩:=hall
    obtain ⟨cc,te,k1,k2,_⟩:=hr.box id b _ hb hid
    obtain ⟨bs,q1,q2,q3⟩:=qjz hl (fun j x hx=>qey (γ:=G.γ) (imm:=G.imm) k2 (by rw [List.getElem?_take] at hx;split at hx;exact hx;cases hx))
    obtain rfl:vs = #[.slice (some ⟨b,0,none⟩) bs.length c,.string sb]:=by rw [←Array.toArray_toList (xs:=vs),e,q2,c2]
    have hcell:∀(j:Nat) x,bs[j]? = some x→w.cell? ⟨b,0 + j,none⟩ = some (.string x):=fun j x hx=>by
     rw [Lib.cell_of_heap k1,Nat.zero_add]
     have:=q3 j x hx
     simpa using this
    refine .inl ⟨qZ h1 h2 h3 _ w,fun ro m=>qbz (m:=m) (callsIn_wide.2 ?_)⟩
    refine (Any.strings_Join L X b 0 c bs sb w hcell (hr.γlt id b hb).2 (by rw [q2];unfold qk at c3;omega) (by rw [q2];omega) (by rw [q1];unfold qk at c1;omega)).mono ?_
    rintro e w' ⟨rfl,hbw⟩
    refine ⟨_,G,rfl,Ext.below _ G hbw,hr.below hbw,hn,?_⟩
    simp only [qi.V,qC]
    exact ⟨_,rfl,by rw [q1]⟩
   ·cases hrun
  ·cases hrun
 ·cases hrun
end
end Go.AE
namespace Go.Proofs
open Go.Shelf
def Tryz.lays156_ren:Go.Shelf.Ren:=⟨fun | 167=>105 | 156=>16 | 165=>30 | 166=>31 | 169=>32 | 240=>69 | 241=>70 | 276=>109 | 277=>110 | n=>n,fun | 31=>58 | 9=>9 | 3=>3 | 4=>4 | 0=>0 | 20=>20 | 72=>84 | 76=>88 | 70=>81 | 37=>82 | 75=>87 | 127=>130 | 164=>171 | 5=>5 | 80=>90 | n=>n,fun | n=>n⟩
theorem Tryz.lays156:Go.Proofs.Lays.n156 Tryz.prog Tryz.lays156_ren:={
 mixed:=by kernel_rfl
 f156:=Tryz.func16.trans (congrArg some (by kernel_rfl))
 f165:=Tryz.func30.trans (congrArg some (by kernel_rfl))
 f166:=Tryz.func31.trans (congrArg some (by kernel_rfl))
 f169:=Tryz.func32.trans (congrArg some (by kernel_rfl))
 f240:=Tryz.func69.trans (congrArg some (by kernel_rfl))
 f241:=Tryz.func70.trans (congrArg some (by kernel_rfl))
 f276:=Tryz.func109.trans (congrArg some (by kernel_rfl))
 f277:=Tryz.func110.trans (congrArg some (by kernel_rfl))
 t0:=Tryz.underlying0
 a0:=Tryz.isAgg0
 z0:=Tryz.sizeOf0
 v0:=Tryz.zeroValue0
 t3:=Tryz.underlying3
 a3:=Tryz.isAgg3
 z3:=Tryz.sizeOf3
 v3:=Tryz.zeroValue3
 t4:=Tryz.underlying4
 a4:=Tryz.isAgg4
 z4:=Tryz.sizeOf4
 v4:=Tryz.zeroValue4
 t9:=Tryz.underlying9
 a9:=Tryz.isAgg9
 z9:=Tryz.sizeOf9
 v9:=Tryz.zeroValue9
 t20:=Tryz.underlying20
 a20:=Tryz.isAgg20
 z20:=Tryz.sizeOf20
 v20:=Tryz.zeroValue20
 t31:=Tryz.underlying58
 a31:=Tryz.isAgg58
 z31:=Tryz.sizeOf58
 v31:=Tryz.zeroValue58
 t37:=Tryz.underlying82
 a37:=Tryz.isAgg82
 z37:=Tryz.sizeOf82
 v37:=Tryz.zeroValue82
 t70:=Tryz.underlying81
 a70:=Tryz.isAgg81
 z70:=Tryz.sizeOf81
 v70:=Tryz.zeroValue81
 t72:=Tryz.underlying84
 a72:=Tryz.isAgg84
 z72:=Tryz.sizeOf84
 v72:=Tryz.zeroValue84
 t75:=Tryz.underlying87
 a75:=Tryz.isAgg87
 z75:=Tryz.sizeOf87
 v75:=Tryz.zeroValue87
 t76:=Tryz.underlying88
 a76:=Tryz.isAgg88
 z76:=Tryz.sizeOf88
 v76:=Tryz.zeroValue88
 t127:=Tryz.underlying130
 a127:=Tryz.isAgg130
 z127:=Tryz.sizeOf130
 v127:=Tryz.zeroValue130
 t164:=Tryz.underlying171
 a164:=Tryz.isAgg171
 z164:=Tryz.sizeOf171
 v164:=Tryz.zeroValue171}
theorem Tryz.Builder_Extra_156:Builder.Extra Tryz.prog Tryz.lays156_ren:={
 sizeBuilder:=by kernel_rfl
 liesBuilder:=by kernel_rfl
 t5:=Tryz.underlying5
 a5:=Tryz.isAgg5
 z5:=Tryz.sizeOf5
 v5:=Tryz.zeroValue5
 infoByte:=by kernel_rfl
 cellsByte:=by kernel_rfl
 sizeByte:=by kernel_rfl
 neB5:=by decide}
def Tryz.lays137_ren:Go.Shelf.Ren:=⟨fun | 137=>162 | 217=>189 | 266=>197 | n=>n,fun | 9=>9 | 5=>5 | 3=>3 | n=>n,fun | n=>n⟩
theorem Tryz.lays137:Go.Proofs.Lays.n137 Tryz.prog Tryz.lays137_ren:={
 mixed:=by kernel_rfl
 f137:=Tryz.func162.trans (congrArg some (by kernel_rfl))
 f217:=Tryz.func189.trans (congrArg some (by kernel_rfl))
 f266:=Tryz.func197.trans (congrArg some (by kernel_rfl))
 t3:=Tryz.underlying3
 a3:=Tryz.isAgg3
 z3:=Tryz.sizeOf3
 v3:=Tryz.zeroValue3
 t5:=Tryz.underlying5
 a5:=Tryz.isAgg5
 z5:=Tryz.sizeOf5
 v5:=Tryz.zeroValue5
 t9:=Tryz.underlying9
 a9:=Tryz.isAgg9
 z9:=Tryz.sizeOf9
 v9:=Tryz.zeroValue9}
theorem Tryz.lays166:Go.Proofs.Lays.n166 Tryz.prog Tryz.lays156_ren:={ Tryz.lays156 with}
theorem Tryz.lays169:Go.Proofs.Lays.n169 Tryz.prog Tryz.lays156_ren:={ Tryz.lays156 with}
theorem Tryz.lays167:Go.Proofs.Lays.n167 Tryz.prog Tryz.lays156_ren:={ Tryz.lays156 with
 f167:=Tryz.func105.trans (congrArg some (by kernel_rfl))
 t5:=Tryz.underlying5
 a5:=Tryz.isAgg5
 z5:=Tryz.sizeOf5
 v5:=Tryz.zeroValue5}
def Tryz.laysM171_ren:Go.Shelf.Ren:=⟨fun | 171=>103 | 243=>150 | 246=>184 | 283=>191 | 284=>192 | 285=>193 | 286=>194 | 129=>200 | 317=>199 | 318=>201 | 319=>202 | 320=>203 | 337=>210 | 338=>211 | n=>n,fun | 3=>3 | 9=>9 | 2=>2 | 4=>4 | 171=>232 | 0=>0 | 53=>233 | 37=>82 | 5=>5 | 173=>236 | 212=>241 | 51=>242 | 20=>20 | 213=>243 | 46=>245 | 232=>260 | 233=>261 | n=>n,fun | 17=>4 | 18=>7 | 19=>8 | n=>n⟩
theorem Tryz.laysM171:Go.Proofs.LaysM.n171 Tryz.prog Tryz.laysM171_ren:={
 mixed:=by kernel_rfl
 f129:=Tryz.func200.trans (congrArg some (by kernel_rfl))
 f171:=Tryz.func103.trans (congrArg some (by kernel_rfl))
 f243:=Tryz.func150.trans (congrArg some (by kernel_rfl))
 f246:=Tryz.func184.trans (congrArg some (by kernel_rfl))
 f283:=Tryz.func191.trans (congrArg some (by kernel_rfl))
 f284:=Tryz.func192.trans (congrArg some (by kernel_rfl))
 f285:=Tryz.func193.trans (congrArg some (by kernel_rfl))
 f286:=Tryz.func194.trans (congrArg some (by kernel_rfl))
 f317:=Tryz.func199.trans (congrArg some (by kernel_rfl))
 f318:=Tryz.func201.trans (congrArg some (by kernel_rfl))
 f319:=Tryz.func202.trans (congrArg some (by kernel_rfl))
 f320:=Tryz.func203.trans (congrArg some (by kernel_rfl))
 f337:=Tryz.func210.trans (congrArg some (by kernel_rfl))
 f338:=Tryz.func211.trans (congrArg some (by kernel_rfl))
 t0:=Tryz.underlying0
 a0:=Tryz.isAgg0
 z0:=Tryz.sizeOf0
 v0:=Tryz.zeroValue0
 t2:=Tryz.underlying2
 a2:=Tryz.isAgg2
 z2:=Tryz.sizeOf2
 v2:=Tryz.zeroValue2
 t3:=Tryz.underlying3
 a3:=Tryz.isAgg3
 z3:=Tryz.sizeOf3
 v3:=Tryz.zeroValue3
 t4:=Tryz.underlying4
 a4:=Tryz.isAgg4
 z4:=Tryz.sizeOf4
 v4:=Tryz.zeroValue4
 t5:=Tryz.underlying5
 a5:=Tryz.isAgg5
 z5:=Tryz.sizeOf5
 v5:=Tryz.zeroValue5
 t9:=Tryz.underlying9
 a9:=Tryz.isAgg9
 z9:=Tryz.sizeOf9
 v9:=Tryz.zeroValue9
 t20:=Tryz.underlying20
 a20:=Tryz.isAgg20
 z20:=Tryz.sizeOf20
 v20:=Tryz.zeroValue20
 t37:=Tryz.underlying82
 a37:=Tryz.isAgg82
 z37:=Tryz.sizeOf82
 v37:=Tryz.zeroValue82
 t46:=Tryz.underlying245
 a46:=Tryz.isAgg245
 z46:=Tryz.sizeOf245
 v46:=Tryz.zeroValue245
 t51:=Tryz.underlying242
 a51:=Tryz.isAgg242
 z51:=Tryz.sizeOf242
 v51:=Tryz.zeroValue242
 t53:=Tryz.underlying233
 a53:=Tryz.isAgg233
 z53:=Tryz.sizeOf233
 v53:=Tryz.zeroValue233
 t171:=Tryz.underlying232
 a171:=Tryz.isAgg232
 z171:=Tryz.sizeOf232
 v171:=Tryz.zeroValue232
 t173:=Tryz.underlying236
 a173:=Tryz.isAgg236
 z173:=Tryz.sizeOf236
 v173:=Tryz.zeroValue236
 t212:=Tryz.underlying241
 a212:=Tryz.isAgg241
 z212:=Tryz.sizeOf241
 v212:=Tryz.zeroValue241
 t213:=Tryz.underlying243
 a213:=Tryz.isAgg243
 z213:=Tryz.sizeOf243
 t232:=Tryz.underlying260
 a232:=Tryz.isAgg260
 z232:=Tryz.sizeOf260
 v232:=Tryz.zeroValue260
 t233:=Tryz.underlying261
 a233:=Tryz.isAgg261
 z233:=Tryz.sizeOf261
 v233:=Tryz.zeroValue261
 g17:=by kernel_rfl
 g18:=by kernel_rfl
 g19:=by kernel_rfl
 i0:=by kernel_rfl
 i2:=by kernel_rfl
 i3:=by kernel_rfl
 i4:=by kernel_rfl
 i5:=by kernel_rfl
 i9:=by kernel_rfl
 i20:=by kernel_rfl
 i37:=by kernel_rfl
 i46:=by kernel_rfl
 i51:=by kernel_rfl
 i53:=by kernel_rfl
 i171:=by kernel_rfl
 i173:=by kernel_rfl
 i212:=by kernel_rfl
 i232:=by kernel_rfl
 i233:=by kernel_rfl
 m17:=by kernel_rfl
 m18:=by kernel_rfl
 m19:=by kernel_rfl}
def Tryz.laysC172_ren:Go.Shelf.Ren:=⟨fun | 172=>187 | 244=>195 | 245=>196 | 247=>204 | 279=>205 | 280=>206 | 281=>207 | 282=>208 | 287=>212 | 316=>213 | 171=>103 | 205=>214 | 321=>216 | 322=>217 | 243=>150 | 246=>184 | 283=>191 | 284=>192 | 285=>193 | 286=>194 | 129=>200 | 317=>199 | 318=>201 | 319=>202 | 320=>203 | 337=>210 | 338=>211 | n=>n,fun | 9=>9 | 3=>3 | 75=>87 | 76=>88 | 4=>4 | 5=>5 | 167=>247 | 37=>82 | 0=>0 | 85=>248 | 2=>2 | 168=>250 | 53=>233 | 175=>254 | 46=>245 | 210=>258 | 127=>130 | 145=>265 | 143=>263 | 21=>21 | 171=>232 | 173=>236 | 212=>241 | 51=>242 | 20=>20 | 213=>243 | 232=>260 | 233=>261 | 80=>90 | n=>n,fun | 15=>5 | 16=>6 | 17=>4 | 18=>7 | 19=>8 | n=>n⟩
theorem Tryz.laysC172:Go.Proofs.LaysC.n172 Tryz.prog Tryz.laysC172_ren:={
 mixed:=by kernel_rfl
 f129:=Tryz.func200.trans (congrArg some (by kernel_rfl))
 f171:=Tryz.func103.trans (congrArg some (by kernel_rfl))
 f172:=Tryz.func187.trans (congrArg some (by kernel_rfl))
 f205:=Tryz.func214.trans (congrArg some (by kernel_rfl))
 f243:=Tryz.func150.trans (congrArg some (by kernel_rfl))
 f244:=Tryz.func195.trans (congrArg some (by kernel_rfl))
 f245:=Tryz.func196.trans (congrArg some (by kernel_rfl))
 f246:=Tryz.func184.trans (congrArg some (by kernel_rfl))
 f247:=Tryz.func204.trans (congrArg some (by kernel_rfl))
 f279:=Tryz.func205.trans (congrArg some (by kernel_rfl))
 f280:=Tryz.func206.trans (congrArg some (by kernel_rfl))
 f281:=Tryz.func207.trans (congrArg some (by kernel_rfl))
 f282:=Tryz.func208.trans (congrArg some (by kernel_rfl))
 f283:=Tryz.func191.trans (congrArg some (by kernel_rfl))
 f284:=Tryz.func192.trans (congrArg some (by kernel_rfl))
 f285:=Tryz.func193.trans (congrArg some (by kernel_rfl))
 f286:=Tryz.func194.trans (congrArg some (by kernel_rfl))
 f287:=Tryz.func212.trans (congrArg some (by kernel_rfl))
 f316:=Tryz.func213.trans (congrArg some (by kernel_rfl))
 f317:=Tryz.func199.trans (congrArg some (by kernel_rfl))
 f318:=Tryz.func201.trans (congrArg some (by kernel_rfl))
 f319:=Tryz.func202.trans (congrArg some (by kernel_rfl))
 f320:=Tryz.func203.trans (congrArg some (by kernel_rfl))
 f321:=Tryz.func216.trans (congrArg some (by kernel_rfl))
 f322:=Tryz.func217.trans (congrArg some (by kernel_rfl))
 f337:=Tryz.func210.trans (congrArg some (by kernel_rfl))
 f338:=Tryz.func211.trans (congrArg some (by kernel_rfl))
 t0:=Tryz.underlying0
 a0:=Tryz.isAgg0
 z0:=Tryz.sizeOf0
 v0:=Tryz.zeroValue0
 t2:=Tryz.underlying2
 a2:=Tryz.isAgg2
 z2:=Tryz.sizeOf2
 v2:=Tryz.zeroValue2
 t3:=Tryz.underlying3
 a3:=Tryz.isAgg3
 z3:=Tryz.sizeOf3
 v3:=Tryz.zeroValue3
 t4:=Tryz.underlying4
 a4:=Tryz.isAgg4
 z4:=Tryz.sizeOf4
 v4:=Tryz.zeroValue4
 t5:=Tryz.underlying5
 a5:=Tryz.isAgg5
 z5:=Tryz.sizeOf5
 v5:=Tryz.zeroValue5
 t9:=Tryz.underlying9
 a9:=Tryz.isAgg9
 z9:=Tryz.sizeOf9
 v9:=Tryz.zeroValue9
 t20:=Tryz.underlying20
 a20:=Tryz.isAgg20
 z20:=Tryz.sizeOf20
 v20:=Tryz.zeroValue20
 t21:=Tryz.underlying21
 a21:=Tryz.isAgg21
 z21:=Tryz.sizeOf21
 v21:=Tryz.zeroValue21
 t37:=Tryz.underlying82
 a37:=Tryz.isAgg82
 z37:=Tryz.sizeOf82
 v37:=Tryz.zeroValue82
 t46:=Tryz.underlying245
 a46:=Tryz.isAgg245
 z46:=Tryz.sizeOf245
 v46:=Tryz.zeroValue245
 t51:=Tryz.underlying242
 a51:=Tryz.isAgg242
 z51:=Tryz.sizeOf242
 v51:=Tryz.zeroValue242
 t53:=Tryz.underlying233
 a53:=Tryz.isAgg233
 z53:=Tryz.sizeOf233
 v53:=Tryz.zeroValue233
 t75:=Tryz.underlying87
 a75:=Tryz.isAgg87
 z75:=Tryz.sizeOf87
 v75:=Tryz.zeroValue87
 t76:=Tryz.underlying88
 a76:=Tryz.isAgg88
 z76:=Tryz.sizeOf88
 v76:=Tryz.zeroValue88
 t85:=Tryz.underlying248
 a85:=Tryz.isAgg248
 z85:=Tryz.sizeOf248
 v85:=Tryz.zeroValue248
 t127:=Tryz.underlying130
 a127:=Tryz.isAgg130
 z127:=Tryz.sizeOf130
 v127:=Tryz.zeroValue130
 t143:=Tryz.underlying263
 a143:=Tryz.isAgg263
 z143:=Tryz.sizeOf263
 v143:=Tryz.zeroValue263
 t145:=Tryz.underlying265
 a145:=Tryz.isAgg265
 z145:=Tryz.sizeOf265
 v145:=Tryz.zeroValue265
 t167:=Tryz.underlying247
 a167:=Tryz.isAgg247
 z167:=Tryz.sizeOf247
 v167:=Tryz.zeroValue247
 t168:=Tryz.underlying250
 a168:=Tryz.isAgg250
 z168:=Tryz.sizeOf250
 v168:=Tryz.zeroValue250
 t171:=Tryz.underlying232
 a171:=Tryz.isAgg232
 z171:=Tryz.sizeOf232
 v171:=Tryz.zeroValue232
 t173:=Tryz.underlying236
 a173:=Tryz.isAgg236
 z173:=Tryz.sizeOf236
 v173:=Tryz.zeroValue236
 t175:=Tryz.underlying254
 a175:=Tryz.isAgg254
 z175:=Tryz.sizeOf254
 v175:=Tryz.zeroValue254
 t210:=Tryz.underlying258
 a210:=Tryz.isAgg258
 z210:=Tryz.sizeOf258
 v210:=Tryz.zeroValue258
 t212:=Tryz.underlying241
 a212:=Tryz.isAgg241
 z212:=Tryz.sizeOf241
 v212:=Tryz.zeroValue241
 t213:=Tryz.underlying243
 a213:=Tryz.isAgg243
 z213:=Tryz.sizeOf243
 t232:=Tryz.underlying260
 a232:=Tryz.isAgg260
 z232:=Tryz.sizeOf260
 v232:=Tryz.zeroValue260
 t233:=Tryz.underlying261
 a233:=Tryz.isAgg261
 z233:=Tryz.sizeOf261
 v233:=Tryz.zeroValue261
 g15:=by kernel_rfl
 g16:=by kernel_rfl
 g17:=by kernel_rfl
 g18:=by kernel_rfl
 g19:=by kernel_rfl
 t80:=Tryz.underlying90
 a80:=Tryz.isAgg90
 z80:=Tryz.sizeOf90
 v80:=Tryz.zeroValue90
 i0:=by kernel_rfl
 i2:=by kernel_rfl
 i3:=by kernel_rfl
 i4:=by kernel_rfl
 i5:=by kernel_rfl
 i9:=by kernel_rfl
 i20:=by kernel_rfl
 i21:=by kernel_rfl
 i37:=by kernel_rfl
 i46:=by kernel_rfl
 i51:=by kernel_rfl
 i53:=by kernel_rfl
 i75:=by kernel_rfl
 i76:=by kernel_rfl
 i80:=by kernel_rfl
 i85:=by kernel_rfl
 i127:=by kernel_rfl
 i143:=by kernel_rfl
 i145:=by kernel_rfl
 i167:=by kernel_rfl
 i168:=by kernel_rfl
 i171:=by kernel_rfl
 i173:=by kernel_rfl
 i175:=by kernel_rfl
 i210:=by kernel_rfl
 i212:=by kernel_rfl
 i232:=by kernel_rfl
 i233:=by kernel_rfl
 m15:=by kernel_rfl
 m16:=by kernel_rfl
 m17:=by kernel_rfl
 m18:=by kernel_rfl
 m19:=by kernel_rfl
 c0:=by kernel_rfl
 c2:=by kernel_rfl
 c3:=by kernel_rfl
 c4:=by kernel_rfl
 c5:=by kernel_rfl
 c9:=by kernel_rfl
 c20:=by kernel_rfl
 c21:=by kernel_rfl
 c37:=by kernel_rfl
 c46:=by kernel_rfl
 c51:=by kernel_rfl
 c53:=by kernel_rfl
 c75:=by kernel_rfl
 c76:=by kernel_rfl
 c80:=by kernel_rfl
 c85:=by kernel_rfl
 c127:=by kernel_rfl
 c143:=by kernel_rfl
 c145:=by kernel_rfl
 c167:=by kernel_rfl
 c168:=by kernel_rfl
 c171:=by kernel_rfl
 c173:=by kernel_rfl
 c175:=by kernel_rfl
 c210:=by kernel_rfl
 c212:=by kernel_rfl
 c213:=by kernel_rfl
 c232:=by kernel_rfl
 c233:=by kernel_rfl}
end Go.Proofs
