/- A part of the proof: the abstract executor and what goes through it (part 38). No condition. -/
import Derived.Test.YtnlhdflceelacaaGreatDoorMq37
set_option maxRecDepth 100000
namespace Go.Proofs.YtnlhdflceelacaaGreatDoor.AE
open Go.AE
section
variable {base:Nat} {G:List qg} {y5:List qa} {Lid:Nat}
theorem qxS (hl:y5.length = 5) (hd:∀c ∈ y5,c.dim = c) (hs:y5.all qa.storable = true):hop base (.lit 5 [.str [],.int .i64 0,.int .i64 0,.str [],.lst [] .full] 1 [0]) [.agg y5] G = some (.sl G.length 0 1 1 0,G ++ [.cells y5],false):=by
 obtain ⟨a,b,c,d,e,rfl⟩ :∃a b c d e,y5 = [a,b,c,d,e]:=by
  match y5,hl with
  | [a,b,c,d,e],_=>exact ⟨a,b,c,d,e,rfl⟩
 have hm:=qeu hd
 have e1:qaY [qa.str [],.int .i64 0,.int .i64 0,.str [],.lst [] .full] [(0,5,.agg [a,b,c,d,e])] = some [a,b,c,d,e]:=by
  have hs':a.storable = true∧b.storable = true∧c.storable = true∧d.storable = true∧e.storable = true:=by simpa using hs
  simp [qaY,qa.cells,splice,hs']
 show (if (5 = 5∧1 * 5 ≤ 2 ^ 24) then _ else none) = _
 rw [if_pos ⟨rfl,by decide⟩]
 show (match qaY [qa.str [],.int .i64 0,.int .i64 0,.str [],.lst [] .full] [(0,5,.agg [a,b,c,d,e])] with | some cs=>some (qa.sl G.length 0 1 1 0,G ++ [qg.cells (cs.map qa.dim)],false) | none=>none) = _
 rw [e1]
 simp only [hm]
theorem qoT {k len more cap:Nat} {id:Nat} {cs:List qa} (hb:G[id]? = some (.cells cs)) (hl:cs.length = len * k) (hd:∀c ∈ cs,c.dim = c):qfx k G (.sl id 0 len cap more) = some (cs,len):=by
 simp only [qfx,hb,Nat.zero_add]
 rw [if_pos (by omega),List.drop_zero,←hl,List.take_length,qeu hd]
theorem qgP (hy:G[Lid]? = some (.cells y5)) (hl:y5.length = 5) (hd:∀c ∈ y5,c.dim = c) (hs:y5.all qa.storable = true):hop base (.app 5) [.lst [] .full,.sl Lid 0 1 1 0] G = some (.sl G.length 0 1 1 5,G ++ [.cells y5],false):=by
 have hr:=qoT (k:=5) (len:=1) (cap:=1) (more:=0) hy (by omega) hd
 simp only [hop,qfG,hr,hs]
 simp [qfx,qdp,qcB]
theorem qi0 {id i:Nat} {cs:List qa} (hi:i < 1000) (hy:G[Lid]? = some (.cells y5)) (hl:y5.length = 5) (hd:∀c ∈ y5,c.dim = c) (hs:y5.all qa.storable = true) (hb:G[id]? = some (.cells cs)) (hcl:cs.length = i * 5) (hcd:∀c ∈ cs,c.dim = c):hop base (.app 5) [.sl id 0 i i 5,.sl Lid 0 1 1 0] G = some (.sl G.length 0 (i + 1) (i + 1) 5,G.set id .dead ++ [.cells (cs ++ y5)],false):=by
 have hr:=qoT (k:=5) (len:=1) (cap:=1) (more:=0) hy (by omega) hd
 have hr2:=qoT (k:=5) (len:=i) (cap:=i) (more:=5) hb hcl hcd
 simp only [hop,qfG,hr,hs,hr2,hb]
 have h1:¬ (i + 1 ≤ i):=by omega
 have h2:i + 1 ≤ qcB:=by simp [qcB];omega
 simp [h1,h2,hcl]
end
theorem qbW.dims {H:Nat→Option qg} {es:List El} (h:qbW H es):∀c ∈ row es,c.dim = c:=fun c hc=>by
 obtain ⟨v,hv,hcv⟩:=List.mem_flatten.1 hc
 obtain ⟨e,he,rfl⟩:=List.mem_map.1 hv
 obtain ⟨p,k,n,s,L,e1,hLd,_⟩:=(h e he).five
 rw [e1] at hcv
 simp only [List.mem_cons,List.not_mem_nil,or_false] at hcv
 rcases hcv with rfl | rfl | rfl | rfl | rfl <;> first | rfl | exact hLd
theorem qbW.rowlen {H:Nat→Option qg} {es:List El} (h:qbW H es):(row es).length = es.length * 5:=by rw [row,qgh h.len5,List.length_map]
theorem MR.mono {H H':Nat→Option qg} (hle:∀i x,H i = some x→H' i = some x) {m:Msg} {cs:List qa} (h:MR H m cs):MR H' m cs:=by
 obtain ⟨es,rfl,hv,h0⟩:=h
 exact ⟨es,rfl,hv.mono hle,h0⟩
theorem qbW.mono {H H':Nat→Option qg} (hle:∀i x,H i = some x→H' i = some x) {es:List El} (h:qbW H es):qbW H' es:=fun e he=>(h e he).mono hle
def qtR (n:Nat) (H K:Nat→Option qg):Nat→Option qg:=fun i=>if i < n then H i else K i
def qep (H:Nat→Option qg) (es:List El) (g:List qg) (v:qa):Prop:=Cov H g∧qbW H es∧((es = []∧v = .lst [] .full)∨∃id,v = .sl id 0 es.length es.length 5∧es ≠ []∧g[id]? = some (.cells (row es))∧∀i x,H i = some x→i < id)
theorem qep.facts {H:Nat→Option qg} {es:List El} {g:List qg} {v:qa} (h:qep H es g v):v.dim = v∧(∀i t,qau v i t = t)∧qis false v = some (.int .i64 (es.length:Nat)):=by
 rcases h.2.2 with ⟨rfl,rfl⟩ | ⟨id,rfl,_⟩ <;> exact ⟨rfl,fun _ _=>rfl,rfl⟩
theorem qep.app {H H':Nat→Option qg} {es:List El} {g g':List qg} {v:qa} (h:qep H es g v) (h30:es.length < 1000) (hle:∀i x,H i = some x→H' i = some x) (hg:∀i,i < g.length→g'[i]? = g[i]?) (hl:g.length ≤ g'.length) (hc:Cov H' g') (hfr:∀i x,H' i = some x→i < g.length→H i = some x) {e:El} (he:MR H' e.1 e.2) {base Lid:Nat} (hL:g.length ≤ Lid) (hLx:∀i x,H' i = some x→i < Lid) (hy:g'[Lid]? = some (.cells e.2)) :
  ∃v' g'',hop base (.app 5) [v,.sl Lid 0 1 1 0] g' = some (v',g'',false)∧qep H' (es ++ [e]) g'' v'∧g'.length < g''.length∧(∀n,n ≤ g.length→(∀id,v = .sl id 0 es.length es.length 5→n ≤ id)→g''.take n = g.take n)∧∀n,n ≤ g'.length→∀id o len cap more,v' = .sl id o len cap more→n ≤ id:=by
 obtain ⟨p,k,n,s,L,e5,hLd,hLs,_,_⟩:=he.five
 have hl5:=he.length
 have hd:∀c ∈ e.2,c.dim = c:=by
  rw [e5]
  intro c hc
  simp only [List.mem_cons,List.not_mem_nil,or_false] at hc
  rcases hc with rfl | rfl | rfl | rfl | rfl <;> first | rfl | exact hLd
 have hs:e.2.all qa.storable = true:=by
  rw [e5]
  simp only [List.all_cons,List.all_nil,hLs,qgB,qgD,Bool.and_true]
 have hLlt:=(List.getElem?_eq_some_iff.1 hy).1
 have tk:∀n,n ≤ g.length→g'.take n = g.take n:=fun n hn=>by
  apply List.ext_getElem?
  intro i
  rw [List.getElem?_take,List.getElem?_take]
  split
  ·exact hg i (by omega)
  ·rfl
 have goods:qbW H' (es ++ [e]):=fun x hx=>by
  rcases List.mem_append.1 hx with hx | hx
  ·exact (h.2.1.mono hle) x hx
  ·simp at hx
   rw [hx]
   exact he
 rcases h.2.2 with ⟨rfl,rfl⟩ | ⟨id,rfl,hne,hb,hlow⟩
 ·refine ⟨_,_,qgP hy hl5 hd hs,⟨hc.app,goods,.inr ⟨g'.length,rfl,by simp,?_,fun i x hx=>by have:=hLx i x hx;omega⟩⟩,by simp,fun n hn _=>?_,fun n hn id o len cap more hv=>by cases hv;exact hn⟩
  ·rw [List.getElem?_append_right (Nat.le_refl _),Nat.sub_self]
   simp [row]
  ·rw [List.take_append_of_le_length (by omega),tk n hn]
 ·have hid:=(List.getElem?_eq_some_iff.1 hb).1
  have hb':g'[id]? = some (.cells (row es)):=by rw [hg id hid,hb]
  refine ⟨_,_,qi0 h30 hy hl5 hd hs hb' h.2.1.rowlen h.2.1.dims,⟨?_,goods,.inr ⟨(g'.set id .dead).length,by simp,by simp,?_,fun i x hx=>by have:=hLx i x hx;simp;omega⟩⟩,by simp,fun n hn hv=>?_,fun n hn id o len cap more hv=>by cases hv;exact hn⟩
  ·refine Cov.app fun i x hx=>?_
   have:i ≠ id:=fun e=>by
    subst e
    have:=hlow _ _ (hfr _ _ hx hid)
    omega
   rw [List.getElem?_set_ne (Ne.symm this)]
   exact hc i x hx
  ·rw [List.getElem?_append_right (Nat.le_refl _),Nat.sub_self]
   simp [row]
  ·have:=hv id rfl
   rw [List.take_append_of_le_length (by simp;omega),List.take_set_of_le this,tk n hn]
end Go.Proofs.YtnlhdflceelacaaGreatDoor.AE
