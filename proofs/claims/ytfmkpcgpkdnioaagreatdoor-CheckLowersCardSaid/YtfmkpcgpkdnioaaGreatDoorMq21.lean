/- A part of the proof: the abstract executor and what goes through it (part 21). No condition. -/
import Derived.Test.YtfmkpcgpkdnioaaGreatDoorMq20
set_option maxRecDepth 100000
namespace Go.Proofs.YtfmkpcgpkdnioaaGreatDoor.AE
open Go.AE
structure Nd where
 op:Int
 n:Int
 nm:Str
 sb:Str
 pl:Int
 ins:List Int
section
variable (vn pn:List Str)
def fin (op n:Int) (nm sb:Str) (ins:List Int):Nd:=
 bif op == 3 then ⟨op,n,nm,[],0,ins⟩ else
 bif op == 4 then ⟨op,n,[],[],pos vn nm 0,ins⟩ else
 bif op == 5 then ⟨op,n,nm,sb,0,ins⟩ else
 bif op == 7 then ⟨op,n,[],[],pos pn nm 0,ins⟩ else
 bif op == 8 then ⟨op,n,[],[],pos pn nm 0,ins⟩ else
 bif op == 9 then ⟨op,n,[],[],pos pn nm 0,ins⟩ else
 bif op == 10 then ⟨op,n,[],[],pos pn nm 0,ins⟩ else ⟨op,n,[],[],0,ins⟩
def gather (f:Nat→Exl→List Nd) (b:Nat):List Exl→List Nd→List Int→List Nd×List Int
 | [],out,ins=>(out,ins)
 | a :: aS,out,ins=>gather f b aS (out ++ f (b + out.length) a) (ins ++ [((b + (out ++ f (b + out.length) a).length:Nat):Int) - 1])
def low:Nat→Nat→Exl→List Nd
 | 0,_,_=>[]
 | d + 1,b,.mk op n nm sb aS=>(gather (low d) b aS [] []).1 ++ [fin vn pn op n nm sb (gather (low d) b aS [] []).2]
end
def sz:Nat→Exl→Nat
 | 0,_=>0
 | d + 1,.mk _ _ _ _ aS=>1 + (aS.map (sz d)).sum
theorem gather_len {vn pn:List Str} {d:Nat} (hd:∀b e,(low vn pn d b e).length = sz d e) (b:Nat):∀(aS:List Exl) (out:List Nd) (ins:List Int),(gather (low vn pn d) b aS out ins).1.length = out.length + (aS.map (sz d)).sum
 | [],out,ins=>by rw [gather];simp
 | a :: aS,out,ins=>by
  rw [gather,gather_len hd b aS]
  simp [hd]
  omega
theorem low_len {vn pn:List Str}:∀(d b:Nat) (e:Exl),(low vn pn d b e).length = sz d e
 | 0,_,_=>rfl
 | d + 1,b,.mk op n nm sb aS=>by
  rw [low,sz,List.length_append,gather_len (low_len d)]
  simp
  omega
theorem sum_le {f g:Exl→Nat} (h:∀e,f e ≤ g e):∀aS:List Exl,(aS.map f).sum ≤ (aS.map g).sum
 | []=>Nat.le_refl _
 | a :: aS=>by
  have:=sum_le h aS
  have:=h a
  simp
  omega
theorem sz_step:∀(d:Nat) (e:Exl),sz d e ≤ sz (d + 1) e
 | 0,e=>by rw [sz];omega
 | d + 1,.mk op n nm sb aS=>by
  rw [sz,sz]
  have:=sum_le (sz_step d) aS
  omega
theorem sz_more (d:Nat) (e:Exl):∀k,sz d e ≤ sz (d + k) e
 | 0=>Nat.le_refl _
 | k + 1=>Nat.le_trans (sz_more d e k) (sz_step (d + k) e)
def Cov (H:Nat→Option ABox) (g:List ABox):Prop:=∀i x,H i = some x→g[i]? = some x
theorem Cov.lt {H:Nat→Option ABox} {g:List ABox} (h:Cov H g) {i:Nat} {x:ABox} (hi:H i = some x):i < g.length:=(List.getElem?_eq_some_iff.1 (h i x hi)).1
theorem Cov.late {H:Nat→Option ABox} {g:List ABox} (h:Cov H g) {i:Nat} (hi:g.length ≤ i):H i = none:=by
 cases hx:H i with
 | none=>rfl
 | some x=>have:=h.lt hx;omega
theorem Cov.more {H:Nat→Option ABox} {g:List ABox} (h:Cov H g) (l:List ABox):Cov H (g ++ l):=fun i x hi=>by
 rw [List.getElem?_append_left (h.lt hi)]
 exact h i x hi
theorem Cov.set {H:Nat→Option ABox} {g:List ABox} (h:Cov H g) {j:Nat} (hj:H j = none) (b:ABox):Cov H (g.set j b):=fun i x hi=>by
 have:j ≠ i:=fun e=>by subst e;rw [hj] at hi;cases hi
 rw [List.getElem?_set_ne this]
 exact h i x hi
def Ins (H:Nat→Option ABox) (ins:List Int) (I:AVal):Prop:=(ins = []∧I = .lst [] .full)∨∃id,I = .sl id 0 ins.length ins.length 1∧H id = some (.cells (ins.map (.int .i64)))
def RowOf (H:Nat→Option ABox) (x:Nd) (r:List AVal):Prop:=∃I,r = [.int .i64 x.op,.int .i64 x.n,.str x.nm,.str x.sb,.int .i64 x.pl,I]∧Ins H x.ins I
def Rows (H:Nat→Option ABox):List Nd→List (List AVal)→Prop
 | [],[]=>True
 | x :: ns,r :: rs=>RowOf H x r∧Rows H ns rs
 | _,_=>False
def Sub (H H':Nat→Option ABox):Prop:=∀i x,H i = some x→H' i = some x
theorem Ins.mono {H H':Nat→Option ABox} (hs:Sub H H') {ins:List Int} {I:AVal} (h:Ins H ins I):Ins H' ins I:=by
 rcases h with h | ⟨id,e,hi⟩
 ·exact .inl h
 ·exact .inr ⟨id,e,hs _ _ hi⟩
theorem Ins.facts {H:Nat→Option ABox} {ins:List Int} {I:AVal} (h:Ins H ins I):I.dim = I∧I.storable = true∧(∀i t,drainW I i t = t)∧lenV false I = some (.int .i64 (ins.length:Nat)):=by
 rcases h with ⟨rfl,rfl⟩ | ⟨id,rfl,_⟩ <;> exact ⟨rfl,rfl,fun _ _=>rfl,rfl⟩
theorem Rows.mono {H H':Nat→Option ABox} (hs:Sub H H'):∀{ns:List Nd} {rs:List (List AVal)},Rows H ns rs→Rows H' ns rs
 | [],[],_=>trivial
 | _ :: _,_ :: _,⟨⟨I,e,hI⟩,h⟩=>⟨⟨I,e,hI.mono hs⟩,h.mono hs⟩
theorem Rows.snoc {H:Nat→Option ABox} {x:Nd} {r:List AVal} (hr:RowOf H x r):∀{ns:List Nd} {rs:List (List AVal)},Rows H ns rs→Rows H (ns ++ [x]) (rs ++ [r])
 | [],[],_=>⟨hr,trivial⟩
 | _ :: _,_ :: _,⟨h1,h⟩=>⟨h1,h.snoc hr⟩
theorem Rows.length {H:Nat→Option ABox}:∀{ns:List Nd} {rs:List (List AVal)},Rows H ns rs→rs.length = ns.length
 | [],[],_=>rfl
 | _ :: _,_ :: _,⟨_,h⟩=>by rw [List.length_cons,List.length_cons,h.length]
theorem RowOf.six {H:Nat→Option ABox} {x:Nd} {r:List AVal} (h:RowOf H x r):r.length = 6∧Still r:=by
 obtain ⟨I,rfl,hI⟩:=h
 obtain ⟨a,b,_⟩:=hI.facts
 refine ⟨rfl,fun c hc=>?_⟩
 simp only [List.mem_cons,List.not_mem_nil,or_false] at hc
 rcases hc with rfl | rfl | rfl | rfl | rfl | rfl <;> first | exact ⟨rfl,rfl⟩ | exact ⟨a,b⟩
theorem Rows.six {H:Nat→Option ABox}:∀{ns:List Nd} {rs:List (List AVal)},Rows H ns rs→∀r ∈ rs,r.length = 6∧Still r
 | [],[],_,_,hr=>nomatch hr
 | _ :: _,_ :: _,⟨h1,h⟩,r,hr=>by
  rcases List.mem_cons.1 hr with rfl | hr
  ·exact h1.six
  ·exact h.six r hr
theorem Rows.still {H:Nat→Option ABox} {ns:List Nd} {rs:List (List AVal)} (h:Rows H ns rs):Still rs.flatten:=fun c hc=>by
 obtain ⟨r,hr,hc⟩:=List.mem_flatten.1 hc
 exact (h.six r hr).2 c hc
theorem Rows.len {H:Nat→Option ABox} {ns:List Nd} {rs:List (List AVal)} (h:Rows H ns rs):rs.flatten.length = ns.length * 6:=by
 rw [flat_len fun r hr=>(h.six r hr).1,h.length]
theorem Rows.get {H:Nat→Option ABox}:∀{ns:List Nd} {rs:List (List AVal)},Rows H ns rs→∀i (h1:i < ns.length) (h2:i < rs.length),RowOf H ns[i] rs[i]
 | _ :: _,_ :: _,⟨h,_⟩,0,_,_=>h
 | _ :: _,_ :: _,⟨_,h⟩,i + 1,h1,h2=>h.get i (by simpa using h1) (by simpa using h2)
def Tab (H:Nat→Option ABox) (g:List ABox) (t:Nat) (ns:List Nd) (V:AVal):Prop:=Cov H g∧H t = none∧((ns = []∧V = .lst [] .full)∨∃rs,V = .sl t 0 ns.length ns.length 6∧ns ≠ []∧g[t]? = some (.cells rs.flatten)∧Rows H ns rs)
theorem Tab.facts {H:Nat→Option ABox} {g:List ABox} {t:Nat} {ns:List Nd} {V:AVal} (h:Tab H g t ns V):V.dim = V∧V.storable = true∧(∀i t,drainW V i t = t)∧lenV false V = some (.int .i64 (ns.length:Nat)):=by
 rcases h with ⟨_,_,⟨rfl,rfl⟩ | ⟨rs,rfl,_⟩⟩ <;> exact ⟨rfl,rfl,fun _ _=>rfl,rfl⟩
theorem ins_next {base:Nat} {H:Nat→Option ABox} {g:List ABox} {ins:List Int} {I:AVal} {id:Nat} (hl:ins.length ≤ 100000) (x:Int)
  (hI:(ins = []∧I = .lst [] .full)∨(I = .sl id 0 ins.length ins.length 1∧ins ≠ []∧g[id]? = some (.cells (ins.map (.int .i64))))) :
  ∃g',hop base (.app 1) [I,.sl g.length 0 1 1 0] (g ++ [.cells [.int .i64 x]]) = some (.sl (g.length + 1) 0 (ins ++ [x]).length (ins ++ [x]).length 1,g',false)∧g'.length = g.length + 2∧(∀i,i < g.length→(ins ≠ []→i ≠ id)→g'[i]? = g[i]?)∧g'[g.length + 1]? = some (.cells ((ins ++ [x]).map (.int .i64))):=by
 have hst:∀l:List Int,Still (l.map (.int .i64)):=fun l c hc=>by
  obtain ⟨y,_,rfl⟩:=List.mem_map.1 hc
  exact ⟨rfl,rfl⟩
 have h2:(g ++ [ABox.cells [.int .i64 x]])[g.length]? = some (.cells ([x].map (.int .i64))):=by rw [get_at];rfl
 have hlen:(g ++ [ABox.cells [.int .i64 x]]).length = g.length + 1:=by simp
 rcases hI with ⟨rfl,rfl⟩ | ⟨rfl,hne,hid⟩
 ·refine ⟨_,by rw [app_first (k:=1) h2 rfl (hst _),hlen];rfl,by simp,fun i hi _=>?_,?_⟩
  ·rw [List.append_assoc,List.getElem?_append_left hi]
  ·rw [←hlen,get_at]
   rfl
 ·have hlt:id < g.length:=(List.getElem?_eq_some_iff.1 hid).1
  have h1:(g ++ [ABox.cells [.int .i64 x]])[id]? = some (.cells (ins.map (.int .i64))):=by rw [List.getElem?_append_left hlt];exact hid
  refine ⟨_,by rw [app_next (k:=1) h1 h2 rfl (by simp) (hst _) (hst _) hl (by omega),hlen,List.length_append];rfl,by simp,fun i hi hne2=>?_,?_⟩
  ·rw [List.getElem?_append_left (by simp;omega),List.getElem?_set_ne (fun e=>hne2 hne e.symm),List.getElem?_append_left hi]
  ·rw [show g.length + 1 = ((g ++ [ABox.cells [.int .i64 x]]).set id .dead).length by simp,get_at,List.map_append]
   rfl
theorem tab_next {base:Nat} {H:Nat→Option ABox} {g:List ABox} {t:Nat} {ns:List Nd} {V:AVal} (hT:Tab H g t ns V) (hl:ns.length ≤ 100000) {x:Nd} {r:List AVal} (hr:RowOf H x r) :
  ∃g',hop base (.app 6) [V,.sl g.length 0 1 1 0] (g ++ [.cells r]) = some (.sl (g.length + 1) 0 (ns ++ [x]).length (ns ++ [x]).length 6,g',false)∧g'.length = g.length + 2∧(∀i,i < g.length→(ns ≠ []→i ≠ t)→g'[i]? = g[i]?)∧Tab H g' (g.length + 1) (ns ++ [x]) (.sl (g.length + 1) 0 (ns ++ [x]).length (ns ++ [x]).length 6):=by
 obtain ⟨hC,ht,hT⟩:=hT
 obtain ⟨hr6,hrs⟩:=hr.six
 have h2:(g ++ [ABox.cells r])[g.length]? = some (.cells r):=by rw [get_at];rfl
 have hlen:(g ++ [ABox.cells r]).length = g.length + 1:=by simp
 have hnone:H (g.length + 1) = none:=hC.late (by omega)
 rcases hT with ⟨rfl,rfl⟩ | ⟨rs,rfl,hne,hid,hR⟩
 ·refine ⟨_,by rw [app_first h2 hr6 hrs,hlen];rfl,by simp,fun i hi _=>?_,(hC.more _).more _,hnone,.inr ⟨[r],rfl,by simp,?_,hr,trivial⟩⟩
  ·rw [List.append_assoc,List.getElem?_append_left hi]
  ·rw [←hlen,get_at]
   simp
 ·have hlt:t < g.length:=(List.getElem?_eq_some_iff.1 hid).1
  have h1:(g ++ [ABox.cells r])[t]? = some (.cells rs.flatten):=by rw [List.getElem?_append_left hlt];exact hid
  refine ⟨_,by rw [app_next h1 h2 hr6 hR.len hrs hR.still hl (by omega),hlen,List.length_append];rfl,by simp,fun i hi hne2=>?_,((hC.more _).set ht _).more _,hnone,.inr ⟨rs ++ [r],rfl,by simp,?_,hR.snoc hr⟩⟩
  ·rw [List.getElem?_append_left (by simp;omega),List.getElem?_set_ne (fun e=>hne2 hne e.symm),List.getElem?_append_left hi]
  ·rw [show g.length + 1 = ((g ++ [ABox.cells r]).set t .dead).length by simp,get_at]
   simp
end Go.Proofs.YtfmkpcgpkdnioaaGreatDoor.AE
