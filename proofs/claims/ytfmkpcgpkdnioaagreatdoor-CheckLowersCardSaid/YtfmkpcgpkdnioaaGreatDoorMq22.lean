/- A part of the proof: the abstract executor and what goes through it (part 22). No condition. -/
import Derived.Test.YtfmkpcgpkdnioaaGreatDoorMq21
set_option maxRecDepth 100000
namespace Go.Proofs.YtfmkpcgpkdnioaaGreatDoor.AE
open Go.AE
theorem leave_e {n:Nat} (h:n ≠ 0) (v:AVal) (H:List ABox):leave n (.ret v) H true = (.ret v,H,true):=by simp [leave,h]
theorem blt_ge {a b:Nat} (h:b ≤ a):Nat.blt a b = false:=Bool.eq_false_iff.2 fun e=>by
 have:a + 1 ≤ b:=Nat.le_of_ble_eq_true e
 omega
theorem ble_gt {a b:Nat} (h:b < a):Nat.ble a b = false:=Bool.eq_false_iff.2 fun e=>by
 have:a ≤ b:=Nat.le_of_ble_eq_true e
 omega
def VarsH (H:Nat→Option ABox) (vs:List Vr) (V:AVal):Prop:=(vs = []∧V = .lst [] .full)∨∃id,V = .sl id 0 vs.length vs.length 4∧H id = some (.cells (vs.map vrR).flatten)
theorem VarsH.at {H:Nat→Option ABox} {vs:List Vr} {V:AVal} (h:VarsH H vs V) {g:List ABox} (hc:Cov H g):VarsAt g vs V:=by
 rcases h with h | ⟨id,e,hi⟩
 ·exact .inl h
 ·exact .inr ⟨id,e,hc _ _ hi⟩
theorem VarsH.facts {H:Nat→Option ABox} {vs:List Vr} {V:AVal} (h:VarsH H vs V):V.dim = V∧V.storable = true∧∀i t,drainW V i t = t:=by
 rcases h with ⟨_,rfl⟩ | ⟨id,rfl,_⟩ <;> exact ⟨rfl,rfl,fun _ _=>rfl⟩
theorem VarsH.mono {H H':Nat→Option ABox} (hs:Sub H H') {vs:List Vr} {V:AVal} (h:VarsH H vs V):VarsH H' vs V:=by
 rcases h with h | ⟨id,e,hi⟩
 ·exact .inl h
 ·exact .inr ⟨id,e,hs _ _ hi⟩
structure Pre (vs:List Vr) (V P:AVal) (L:Nat) (H:Nat→Option ABox) (g:List ABox) (t:Nat) (ns:List Nd) (Tb:AVal):Prop where
 tab:Tab H g t ns Tb
 box:g[L]? = some (.cells [Tb,V,P])
 hno:H L = none
 ne:t ≠ L
 lt:t < g.length
 vars:VarsH H vs V
structure Post (vs:List Vr) (V P:AVal) (L:Nat) (H:Nat→Option ABox) (g:List ABox) (t:Nat) (H':Nat→Option ABox) (g':List ABox) (t':Nat) (ns:List Nd) (Tb':AVal):Prop where
 pre:Pre vs V P L H' g' t' ns Tb'
 more:g.length ≤ g'.length
 keep:∀i,i < g.length→i ≠ L→i ≠ t→g'[i]? = g[i]?
 told:∀i,i < g.length→H' i = H i
 young:g.length ≤ t'
def Adds (vs:List Vr) (ps:List Pt) (V:AVal) (L d:Nat):Prop:=∀(e:Exl),(∃k,Fit k e)→dOK d e = true→∀(H:Nat→Option ABox) (g:List ABox) (t:Nat) (ns:List Nd) (Tb:AVal),ns.length + sz d e ≤ 10000→Pre vs V (.lst (ps.map ptV) .no) L H g t ns Tb→
    ∃H' g' t' Tb',Wd (.fn 19 [] []) [.ptr L 0,exV e] g = some (.ret (.int .i64 (((ns.length + (low (vs.map (·.nm)) (ps.map (·.nm)) d ns.length e).length:Nat):Int) - 1)),g',true)∧
     Post vs V (.lst (ps.map ptV) .no) L H g t H' g' t' (ns ++ low (vs.map (·.nm)) (ps.map (·.nm)) d ns.length e) Tb'
theorem Pre.more {vs:List Vr} {V P:AVal} {L:Nat} {H:Nat→Option ABox} {g:List ABox} {t:Nat} {ns:List Nd} {Tb:AVal} (h:Pre vs V P L H g t ns Tb) (l:List ABox):Pre vs V P L H (g ++ l) t ns Tb:=by
 have hL:L < g.length:=(List.getElem?_eq_some_iff.1 h.box).1
 refine ⟨⟨h.tab.1.more l,h.tab.2.1,?_⟩,by rw [List.getElem?_append_left hL];exact h.box,h.hno,h.ne,by have:=h.lt;simp;omega,h.vars⟩
 rcases h.tab.2.2 with e | ⟨rs,e,hne,hi,hR⟩
 ·exact .inl e
 ·exact .inr ⟨rs,e,hne,by rw [List.getElem?_append_left h.lt];exact hi,hR⟩
theorem Pre.put {vs:List Vr} {V P:AVal} {L:Nat} {H:Nat→Option ABox} {g g':List ABox} {t:Nat} {ns:List Nd} {Tb:AVal} (h:Pre vs V P L H g t ns Tb) {A:Nat→Prop} (hlen:g.length ≤ g'.length) (hk:∀i,i < g.length→¬ A i→g'[i]? = g[i]?) (hA:∀i,A i→H i = none∧i ≠ L∧i ≠ t):Pre vs V P L H g' t ns Tb:=by
 have hL:L < g.length:=(List.getElem?_eq_some_iff.1 h.box).1
 refine ⟨⟨fun i x hi=>?_,h.tab.2.1,?_⟩,?_,h.hno,h.ne,by have:=h.lt;omega,h.vars⟩
 ·rw [hk i (h.tab.1.lt hi) fun ha=>by rw [(hA i ha).1] at hi;cases hi]
  exact h.tab.1 i x hi
 ·rcases h.tab.2.2 with e | ⟨rs,e,hne,hi,hR⟩
  ·exact .inl e
  ·exact .inr ⟨rs,e,hne,by rw [hk t h.lt fun ha=>(hA t ha).2.2 rfl];exact hi,hR⟩
 ·rw [hk L hL fun ha=>(hA L ha).2.1 rfl]
  exact h.box
structure Lp (vs:List Vr) (ps:List Pt) (V:AVal) (L d:Nat) (op n:Int) (nm sb:Str) (aS:List Exl) (ns:List Nd) (g:List ABox) (t0:Nat) (Hg:Nat→Option ABox) (i:Nat) (H:Nat→Option ABox) (G:List ABox) (t:Nat) (out:List Nd) (ins:List Int) (I:AVal) (j:Nat) (Tb:AVal):Prop where
 pre:Pre vs V (.lst (ps.map ptV) .no) L H G t (ns ++ out) Tb
 b2:g.length + 2 ≤ G.length
 bB:G[g.length]? = some (.cells [.int .i64 op,.int .i64 n,.str nm,.str sb,.lst (aS.map exV) .no])
 bN:G[g.length + 1]? = some (.cells [.int .i64 op,.int .i64 n,.str [],.str [],.int .i64 0,I])
 hI:(ins = []∧I = .lst [] .full)∨(I = .sl j 0 ins.length ins.length 1∧ins ≠ []∧G[j]? = some (.cells (ins.map (.int .i64)))∧g.length + 2 ≤ j∧j ≠ t∧H j = none)
 tB:t < g.length∨g.length + 2 ≤ t
 hB:H (g.length + 1) = none
 keep:∀i,i < g.length→i ≠ L→i ≠ t0→G[i]? = g[i]?
 told:∀i,i < g.length→H i = Hg i
 ty:t = t0∨g.length ≤ t
 gat:gather (low (vs.map (·.nm)) (ps.map (·.nm)) d) ns.length (aS.drop i) out ins = gather (low (vs.map (·.nm)) (ps.map (·.nm)) d) ns.length aS [] []
 inl:ins.length = i
 len:ns.length + out.length + ((aS.drop i).map (sz d)).sum + 1 ≤ 10000
theorem Lp.facts {vs:List Vr} {ps:List Pt} {V:AVal} {L d:Nat} {op n:Int} {nm sb:Str} {aS:List Exl} {ns:List Nd} {g:List ABox} {t0:Nat} {Hg:Nat→Option ABox} {i:Nat} {H:Nat→Option ABox} {G:List ABox} {t:Nat} {out:List Nd} {ins:List Int} {I:AVal} {j:Nat} {Tb:AVal} (h:Lp vs ps V L d op n nm sb aS ns g t0 Hg i H G t out ins I j Tb):I.dim = I∧I.storable = true∧∀i t,drainW I i t = t:=by
 rcases h.hI with ⟨_,rfl⟩ | ⟨rfl,_⟩ <;> exact ⟨rfl,rfl,fun _ _=>rfl⟩
section
variable {vs:List Vr} {ps:List Pt} {V:AVal} {L d:Nat}
theorem lp_next {op n:Int} {nm sb:Str} {aS:List Exl} {ns:List Nd} {g:List ABox} {t0:Nat} {Hg:Nat→Option ABox} {i:Nat} {H:Nat→Option ABox} {G:List ABox} {t:Nat} {out:List Nd} {ins:List Int} {I:AVal} {j:Nat} {Tb:AVal} (h:Lp vs ps V L d op n nm sb aS ns g t0 Hg i H G t out ins I j Tb) (hA:Adds vs ps V L d) (hL:L < g.length) (hi:i < aS.length) (hl:aS.length ≤ 20) (hf:∀a ∈ aS,∃k,Fit k a) (hD:∀a ∈ aS,dOK d a = true) :
  ∃(x:Int) (H2:Nat→Option ABox) (G2:List ABox) (t2:Nat) (Tb2:AVal) (out2:List Nd) (G3:List ABox),Wd (.fn 19 [] []) [.ptr L 0,exV aS[i]] (G ++ [.cells aS[i].enc]) = some (.ret (.int .i64 x),G2,true)∧
   (G ++ [.cells aS[i].enc])[g.length + 1]? = some (.cells [.int .i64 op,.int .i64 n,.str [],.str [],.int .i64 0,I])∧G2[g.length + 1]? = some (.cells [.int .i64 op,.int .i64 n,.str [],.str [],.int .i64 0,I])∧(G2 ++ [.cells [.int .i64 x]])[g.length + 1]? = some (.cells [.int .i64 op,.int .i64 n,.str [],.str [],.int .i64 0,I])∧G3[g.length + 1]? = some (.cells [.int .i64 op,.int .i64 n,.str [],.str [],.int .i64 0,I])∧
   hop g.length (.app 1) [I,.sl G2.length 0 1 1 0] (G2 ++ [.cells [.int .i64 x]]) = some (.sl (G2.length + 1) 0 (ins ++ [x]).length (ins ++ [x]).length 1,G3,false)∧
   Lp vs ps V L d op n nm sb aS ns g t0 Hg (i + 1) H2 (G3.set (g.length + 1) (.cells [.int .i64 op,.int .i64 n,.str [],.str [],.int .i64 0,.sl (G2.length + 1) 0 (ins ++ [x]).length (ins ++ [x]).length 1])) t2 out2 (ins ++ [x]) (.sl (G2.length + 1) 0 (ins ++ [x]).length (ins ++ [x]).length 1) (G2.length + 1) Tb2:=by
 obtain ⟨pre,b2,bB,bN,hI,tB,hB,keep,told,ty,gat,inl,len⟩:=h
 have e1:(aS.drop i).map (sz d) = sz d aS[i] :: (aS.drop (i + 1)).map (sz d):=by rw [List.drop_eq_getElem_cons hi,List.map_cons]
 rw [e1,List.sum_cons] at len
 obtain ⟨H2,G2,t2,Tb2,hr,post⟩:=hA aS[i] (hf _ (List.getElem_mem hi)) (hD _ (List.getElem_mem hi)) H (G ++ [.cells aS[i].enc]) t (ns ++ out) Tb (by simp;omega) (pre.more _)
 obtain ⟨pre2,more2,keep2,told2,young2⟩:=post
 rw [List.drop_eq_getElem_cons hi,gather] at gat
 generalize hx:(((ns.length + (out ++ low (vs.map (·.nm)) (ps.map (·.nm)) d (ns.length + out.length) aS[i]).length:Nat):Int) - 1) = x at gat
 have hx2:((((ns ++ out).length + (low (vs.map (·.nm)) (ps.map (·.nm)) d (ns ++ out).length aS[i]).length:Nat):Int) - 1) = x:=by
  rw [←hx,List.length_append,List.length_append,Nat.add_assoc]
 rw [hx2] at hr
 have gl:(G ++ [ABox.cells aS[i].enc]).length = G.length + 1:=by simp
 rw [gl] at more2 keep2 told2 young2
 have bN1:(G ++ [ABox.cells aS[i].enc])[g.length + 1]? = some (.cells [.int .i64 op,.int .i64 n,.str [],.str [],.int .i64 0,I]):=by rw [List.getElem?_append_left (by omega)];exact bN
 have bN2:G2[g.length + 1]? = some (.cells [.int .i64 op,.int .i64 n,.str [],.str [],.int .i64 0,I]):=by rw [keep2 _ (by omega) (by omega) (by omega)];exact bN1
 have hI2:(ins = []∧I = .lst [] .full)∨(I = .sl j 0 ins.length ins.length 1∧ins ≠ []∧G2[j]? = some (.cells (ins.map (.int .i64)))):=by
  rcases hI with h | ⟨a,b,c,c1,c2,c3⟩
  ·exact .inl h
  ·have hj:j < G.length:=(List.getElem?_eq_some_iff.1 c).1
   exact .inr ⟨a,b,by rw [keep2 j (by omega) (by omega) c2,List.getElem?_append_left hj];exact c⟩
 have hj2:ins ≠ []→g.length + 2 ≤ j∧H2 j = none∧j ≠ t2∧j < G.length:=by
  intro hne
  rcases hI with ⟨h,_⟩ | ⟨a,b,c,c1,c2,c3⟩
  ·exact absurd h hne
  ·have hj:j < G.length:=(List.getElem?_eq_some_iff.1 c).1
   exact ⟨c1,by rw [told2 j (by omega)];exact c3,by omega,hj⟩
 obtain ⟨G3,hap,l3,k3,n3⟩:=ins_next (base:=g.length) (H:=H2) (g:=G2) (id:=j) (by omega) x hI2
 have bN3:G3[g.length + 1]? = some (.cells [.int .i64 op,.int .i64 n,.str [],.str [],.int .i64 0,I]):=by
  rw [k3 _ (by omega) fun hne=>by have:=(hj2 hne).1;omega]
  exact bN2
 have pt2:=pre2.lt
 refine ⟨x,H2,G2,t2,Tb2,out ++ low (vs.map (·.nm)) (ps.map (·.nm)) d (ns.length + out.length) aS[i],G3,hr,bN1,bN2,by rw [List.getElem?_append_left (by omega)];exact bN2,bN3,hap,?_⟩
 rw [show (ns ++ out).length = ns.length + out.length by rw [List.length_append],List.append_assoc] at pre2
 have hk4:∀(X:ABox) (i:Nat),i < G2.length→¬ (i = g.length + 1∨(ins ≠ []∧i = j))→(G3.set (g.length + 1) X)[i]? = G2[i]?:=fun X i hi hn=>by
  rw [List.getElem?_set_ne fun e=>hn (.inl e.symm),k3 i hi fun hne e=>hn (.inr ⟨hne,e⟩)]
 have hBn:H2 (g.length + 1) = none:=by rw [told2 _ (by omega)];exact hB
 refine ⟨pre2.put (A:=fun i=>i = g.length + 1∨(ins ≠ []∧i = j)) (by simp;omega) (hk4 _) ?_,by simp;omega,?_,?_,?_,by omega,hBn,?_,?_,by omega,gat,by simp;omega,?_⟩
 ·rintro i (rfl | ⟨hne,rfl⟩)
  ·exact ⟨hBn,by omega,by omega⟩
  ·obtain ⟨q1,q2,q3,_⟩:=hj2 hne
   exact ⟨q2,by omega,q3⟩
 ·rw [hk4 _ _ (by omega) (by rintro (h | ⟨hne,h⟩);omega;have:=(hj2 hne).1;omega),keep2 _ (by omega) (by omega) (by omega),List.getElem?_append_left (by omega)]
  exact bB
 ·rw [List.getElem?_set_self (by omega)]
 ·refine .inr ⟨rfl,by simp,?_,by omega,by omega,pre2.tab.1.late (by omega)⟩
  rw [List.getElem?_set_ne (by omega)]
  exact n3
 ·intro i hi h1 h2
  rw [hk4 _ _ (by omega) (by rintro (h | ⟨hne,h⟩);omega;have:=(hj2 hne).1;omega),keep2 _ (by omega) h1 (by rcases ty with rfl | h;exact h2;omega),List.getElem?_append_left (by omega)]
  exact keep i hi h1 h2
 ·intro i hi
  rw [told2 i (by omega)]
  exact told i hi
 ·rw [List.length_append,low_len]
  omega
end
end Go.Proofs.YtfmkpcgpkdnioaaGreatDoor.AE
