/- A part of the proof. No condition. -/
import Derived.Test.YtebljcklaimcfaaGreatDoorMt2
import Derived.Below
import Derived.Lib.AtoiErrMem
import Derived.Shelf.Small.Strs
import Derived.Shelf.Strconv.AtoiAll
set_option maxRecDepth 100000
namespace Go.AE
open Go.RowKit Go.Shelf Go.Proofs
section
variable{P:Program}{gl:Nat→Option (List qd)}{G:qk}{w w':World}{h:List qj}
theorem Rel.below(hr:Rel P gl G h w)(hb:Below w.heap.size w w'):Rel P gl G h w' where
 γlt i b hi:=⟨(hr.γlt i b hi).1,Nat.lt_of_lt_of_le (hr.γlt i b hi).2 hb.size⟩
 inj:=hr.inj
 box i b bx hi hx:=by
  have hlt:=(hr.γlt i b hi).2
  have hb':=hr.box i b bx hi hx
  cases bx with
  |cells cs=>
   obtain⟨c,e,h1,h2,h3⟩:=hb'
   exact⟨c,e,by rw[hb.block b hlt];exact h1,h2,fun o' xs k v ho hv=>(h3 o' xs k v ho hv).keep (fun _ h=>h) (fun b h=>hb.block b (hr.ow b _ h).1) (fun _ _ _ h=>h)⟩
  |loop t ps asg body st pend=>
   obtain⟨L,h1,h2⟩:=hb'
   exact⟨L,by rw[hb.block b hlt];exact h1,h2⟩
  |map es _=>
   obtain⟨me,h1,h2⟩:=hb'
   exact⟨me,by rw[hb.block b hlt];exact h1,h2⟩
  |iter _ _ _ _=>
   obtain⟨mm,h1,h2⟩:=hb'
   exact⟨mm,by rw[hb.block b hlt];exact h1,h2⟩
  |bld _ _ _=>exact qfL.keep hb' (hb.block b hlt) (fun _ h=>h) (fun x hx=>hb.block x (hr.ow x _ hx).1) (fun _ _ _ h=>h)
  |dead=>trivial
 imm b o' v hv hm:=by
  obtain⟨h1,h2⟩:=hr.imm b o' v hv hm
  exact⟨(Xb (hb.block b h2)).trans h1,Nat.lt_of_lt_of_le h2 hb.size⟩
 immγ:=hr.immγ
 immK b o' hv:=by
  obtain⟨h0,c,e,h1,h2⟩:=hr.immK b o' hv
  exact⟨h0,c,e,by rw[hb.block b (Array.getElem?_eq_some_iff.1 h1).1];exact h1,h2⟩
 ow b ℓ hi:=⟨Nat.lt_of_lt_of_le (hr.ow b ℓ hi).1 hb.size,(hr.ow b ℓ hi).2⟩
 glob:=hr.glob
theorem Ext.below(n:Nat)(G:qk)(hb:Below w.heap.size w w'):Ext n G w G w':=⟨fun _ _ h=>h,fun _ _ h=>.inl h,fun _ _ _ h=>h,fun _ _ _ h=>.inl h,fun _ h=>.inl h,hb.size,fun b hlt _=>hb.block b hlt,fun b L hL=>⟨L,by rw[hb.block b (Array.getElem?_eq_some_iff.1 hL).1];exact hL,rfl,rfl,rfl,rfl,rfl,rfl⟩,hb.os,hb.tape,hb.output⟩
end
open Go.RowKit
section
variable{P:Program}{gl:Nat→Option (List qd)}{G:qk}{w w':World}{h:List qj}
theorem uN:∀call xs h r h' e,Dm call xs h=some (r,h',e)→h'=h:=by
 intro call xs h r hh e hr;unfold Dm at hr;split at hr;·cases hr;rfl
 ·cases hr
def qk.bare(G:qk):qk:={γ:=fun _=>none,imm:=G.imm,ow:=fun _=>none}
theorem Rel.bare(hr:Rel P gl G h w):Rel P gl G.bare [] w:=by refine⟨(fun _ _ h=>by cases h),(fun _ _ _ h=>by cases h),(fun _ _ _ h=>by cases h),hr.imm,(fun _ _ _ _ _ _ h=>by cases h),hr.immK,(fun _ _ h=>by cases h),fun g cs hg=>?_⟩;obtain⟨h1,h2⟩:=hr.glob g cs hg;exact⟨kz.mono (fun _ _ _ h=>h) cs g h2 h1,h2⟩
theorem qgu{call0 : AE.Call}(hcall0 : Wa P gl call0){f : FuncId}{pf : Func}{c : Code}(h1 : P.funcs[f]?=some pf)(h2 : (pf.name== "runtime.NumGoroutine")=false)(h3 : pf.body=some c){hh : List qj}{ee : Bool}(hrun0 : call0 (.fn f [] []) [] []=some (.ret (.bool true), hh, ee)): uz P gl f Dm := by
 intro call hcall hk xs h r h' e' hrun G w vs hr hn hall;unfold Dm at hrun;split at hrun
 ·cases hrun;obtain rfl:vs=#[]:=(by simp only[qk.VL,qx]at hall;rw[←Array.toArray_toList (xs:=vs),hall]);have hfv:G.bare.V (.fn f [] []) (.func (.func f) #[] #[]):=(by simp[qk.V,qP,qx]);have hS:(FA (.func (.func f) #[] #[]) #[]).run P w=.ok (.enter f #[]) w:=(by rw[yf,Qx h1 h2 h3];simp);have hbn:gV G.bare:=fun _ _ h=>(by cases h);rcases hcall0 _ _ _ _ _ _ hrun0 G.bare w _ #[] hr.bare hbn hfv (by simp[qk.VL,qx])with⟨f',aS,k1,k2⟩|⟨_,_,_,_,_,_,hy,_⟩|⟨v,w',_,k1,_⟩
  ·rw[hS]at k1;cases k1;refine .inl ⟨Qx h1 h2 h3 _ w,fun ro n=>CallsIn.mono (k2 ro n) fun e w' hb=>?_⟩
   cases e with
   |returned v=>obtain⟨rv',G',g1,g2,g3,g4,g5⟩:=hb;cases g1;have hbl:Below w.heap.size w w':=⟨g2.os,g2.tape,g2.output,g2.size,fun k hk=>g2.heap k hk ⟨fun _ h=>(by cases h),rfl⟩⟩;refine⟨_,G,rfl,Ext.below _ G hbl,hr.below hbl,hn,?_⟩;simp only[qk.V,qP]at g5⊢;exact g5
   |panicked ch=>obtain⟨_,_,_,g1,_⟩:=hb;cases g1
   |outgrown=>exact hb.elim
  ·cases hy
  ·rw[hS]at k1;cases k1
 ·cases hrun
end
end Go.AE
