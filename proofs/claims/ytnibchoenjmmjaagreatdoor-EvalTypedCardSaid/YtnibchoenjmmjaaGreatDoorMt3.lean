/- Proved: part 3. No condition. -/
import Derived.Test.YtnibchoenjmmjaaGreatDoorMt1
import Derived.Test.YtnibchoenjmmjaaGreatDoorMt2
import Derived.Below
import Derived.Lib.AtoiErrMem
import Derived.Shelf.Small.Strs
import Derived.Shelf.Strconv.AtoiAll
set_option maxRecDepth 100000
open Array renaming getElem?_eq_some_iff→jf
open Nat renaming lt_of_lt_of_le→jq
namespace Go.AE
open Go.RowKit Go.Shelf Go.Proofs
section
variable {P:Program} {gl:Nat->Option (List qa)} {G:qc} {w w':World} {h:List qb}
theorem Rel.below (hr:Rel P gl G h w) (hb:Below w.heap.size w w'):Rel P gl G h w' where
 γlt i b hi:=⟨(hr.γlt i b hi).1,jq (hr.γlt i b hi).2 hb.size⟩
 inj:=hr.inj
 box i b bx hi hx:=by
  have hlt:=(hr.γlt i b hi).2
  have B:=hr.box i b bx hi hx
  cases bx with
  | cells cs=>
   obtain ⟨c,e,h1,h2,h3⟩:=B
   exact ⟨c,e,by rw [hb.block b hlt];exact h1,h2,λo' xs k v ho hv=>(h3 o' xs k v ho hv).keep (λ_ h=>h) (λb h=>hb.block b (hr.ow b _ h).1) (λ_ _ _ h=>h)⟩
  | loop t ps asg body st pend=>
   obtain ⟨L,h1,h2⟩:=B
   exact ⟨L,by rw [hb.block b hlt];exact h1,h2⟩
  | map es _=>
   obtain ⟨me,h1,h2⟩:=B
   exact ⟨me,by rw [hb.block b hlt];exact h1,h2⟩
  | iter _ _ _ _=>
   obtain ⟨mm,h1,h2⟩:=B
   exact ⟨mm,by rw [hb.block b hlt];exact h1,h2⟩
  | dead=>trivial
 imm b o' v hv hm:=by
  obtain ⟨h1,h2⟩:=hr.imm b o' v hv hm
  exact ⟨(qbL (hb.block b h2)).trans h1,jq h2 hb.size⟩
 immγ:=hr.immγ
 immK b o' hv:=by
  obtain ⟨h0,c,e,h1,h2⟩:=hr.immK b o' hv
  exact ⟨h0,c,e,by rw [hb.block b (jf.1 h1).1];exact h1,h2⟩
 ow b ℓ hi:=⟨jq (hr.ow b ℓ hi).1 hb.size,(hr.ow b ℓ hi).2⟩
 glob:=hr.glob
theorem Ext.below (n:Nat) (G:qc) (hb:Below w.heap.size w w'):Ext n G w G w':=
 ⟨λ_ _ h=>h,λ_ _ h=>.inl h,λ_ _ _ h=>h,λ_ _ _ h=>.inl h,λ_ h=>.inl h,hb.size,λb hlt _=>hb.block b hlt,
  λb L hL=>⟨L,by rw [hb.block b (jf.1 hL).1];exact hL,rfl,rfl,rfl,rfl,rfl,rfl⟩,hb.os,hb.tape,hb.output⟩
end
open Go.RowKit
section
variable {P:Program} {gl:Nat->Option (List qa)} {G:qc} {w w':World} {h:List qb}
theorem qiA:∀call xs h r h' e,qem call xs h = some (r,h',e)->h' = h:=by
 intro call xs h r hh e hr
 unfold qem at hr
 split at hr
 ·cases hr;rfl
 ·cases hr
def qc.bare (G:qc):qc:={ γ:=λ_=>none,imm:=G.imm,ow:=λ_=>none}
theorem Rel.bare (hr:Rel P gl G h w):Rel P gl G.bare [] w:=by
 refine ⟨(λ_ _ h=>by cases h),(λ_ _ _ h=>by cases h),(λ_ _ _ h=>by cases h),hr.imm,(λ_ _ _ _ _ _ h=>by cases h),hr.immK,(λ_ _ h=>by cases h),λg cs hg=>?_⟩
 obtain ⟨h1,h2⟩:=hr.glob g cs hg
 exact ⟨qar.mono (λ_ _ _ h=>h) 0 (λi _ hi=>absurd hi (Nat.not_lt_zero _)) cs g 0 h2 h1,h2⟩
theorem qoK {call0 : AE.Call} (hcall0 : qcc P gl call0) {f : FuncId} {pf : Func} {c : Code} (h1 : P.funcs[f]? = some pf) (h2 : (pf.name == "runtime.NumGoroutine") = false) (h3 : pf.body = some c) {hh : List qb} {ee : Bool} (hrun0 : call0 (.fn f [] []) [] [] = some (.ret (.bool true), hh, ee)) : qhf P gl f qem := by
 intro call hcall hk xs h r h' e' hrun G w vs hr hn hall
 unfold qem at hrun
 split at hrun
 ·cases hrun
  obtain rfl:vs = #[]:=by
   simp only [qc.VL,qg] at hall
   rw [<-Array.toArray_toList (xs:=vs),hall]
  have hfv:G.bare.V (.fn f [] []) (.func (.func f) #[] #[]):=by simp [qc.V,qC,qg]
  have hS:(qeI (.func (.func f) #[] #[]) #[]).run P w = .ok (.enter f #[]) w:=by
   rw [qfY,qbc h1 h2 h3]
   simp
  have hbn:qej G.bare:=λ_ _ h=>by cases h
  rcases hcall0 _ _ _ _ _ _ hrun0 G.bare w _ #[] hr.bare hbn hfv (by simp [qc.VL,qg]) with ⟨f',aS,k1,k2⟩ | ⟨_,_,_,_,_,_,hy,_⟩ | ⟨v,w',_,k1,_⟩
  ·rw [hS] at k1
   cases k1
   refine .inl ⟨qbc h1 h2 h3 _ w,λro n=>CallsIn.mono (k2 ro n) λe w' hb=>?_⟩
   cases e with
   | returned v=>
    obtain ⟨rv',G',g1,g2,g3,g4,g5⟩:=hb
    cases g1
    have hbl:Below w.heap.size w w':=⟨g2.os,g2.tape,g2.output,g2.size,λk hk=>g2.heap k hk ⟨λ_ h=>(by cases h),rfl⟩⟩
    refine ⟨_,G,rfl,Ext.below _ G hbl,hr.below hbl,hn,?_⟩
    simp only [qc.V,qC] at g5 ⊢
    exact g5
   | panicked ch=>obtain ⟨_,_,_,g1,_⟩:=hb;cases g1
   | outgrown=>exact hb.elim
  ·cases hy
  ·rw [hS] at k1
   cases k1
 ·cases hrun
end
end Go.AE
