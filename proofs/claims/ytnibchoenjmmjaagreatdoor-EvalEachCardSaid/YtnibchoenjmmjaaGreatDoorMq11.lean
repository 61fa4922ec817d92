/- A part of the proof: the abstract executor and what goes through it (part 11). No condition. -/
import Derived.Test.YtnibchoenjmmjaaGreatDoorMq10
import Derived.Test.YtnibchoenjmmjaaGreatDoorMq9
set_option maxRecDepth 100000
set_option maxHeartbeats 0
namespace Go.Proofs.YtnibchoenjmmjaaGreatDoor.AE
open Go.AE
theorem qcc {n:Nat} (h:n ≠ 0) (v:qa) (H:List qb):qat n (.ret v) H true = (.ret v,H,true):=by simp [qat,h]
theorem qy0 {a b:Nat} (h:b < a):Nat.ble a b = false:=Bool.eq_false_iff.2 fun e=>by
 have:a ≤ b:=Nat.le_of_ble_eq_true e
 omega
def qgM (H:Nat→Option qb) (vs:List Vr) (V:qa):Prop:=(vs = []∧V = .lst [] .full)∨∃id,V = .sl id 0 vs.length vs.length 4∧H id = some (.cells (vs.map vrR).flatten)
theorem qgM.at {H:Nat→Option qb} {vs:List Vr} {V:qa} (h:qgM H vs V) {g:List qb} (hc:Cov H g):qho g vs V:=by
 rcases h with h | ⟨id,e,hi⟩
 ·exact .inl h
 ·exact .inr ⟨id,e,hc _ _ hi⟩
theorem qgM.facts {H:Nat→Option qb} {vs:List Vr} {V:qa} (h:qgM H vs V):V.dim = V∧V.storable = true∧∀i t,qx V i t = t:=by
 rcases h with ⟨_,rfl⟩ | ⟨id,rfl,_⟩ <;> exact ⟨rfl,rfl,fun _ _=>rfl⟩
theorem qgM.mono {H H':Nat→Option qb} (hs:Sub H H') {vs:List Vr} {V:qa} (h:qgM H vs V):qgM H' vs V:=by
 rcases h with h | ⟨id,e,hi⟩
 ·exact .inl h
 ·exact .inr ⟨id,e,hs _ _ hi⟩
structure Pre (vs:List Vr) (V P:qa) (L:Nat) (H:Nat→Option qb) (g:List qb) (t:Nat) (ns:List Nd) (Tb:qa):Prop where
 tab:Tab H g t ns Tb
 box:g[L]? = some (.cells [Tb,V,P])
 hno:H L = none
 ne:t ≠ L
 lt:t < g.length
 vars:qgM H vs V
structure qDs (vs:List Vr) (V P:qa) (L:Nat) (H:Nat→Option qb) (g:List qb) (t:Nat) (H':Nat→Option qb) (g':List qb) (t':Nat) (ns:List Nd) (Tb':qa):Prop where
 pre:Pre vs V P L H' g' t' ns Tb'
 more:g.length ≤ g'.length
 keep:∀i,i < g.length→i ≠ L→i ≠ t→g'[i]? = g[i]?
 told:∀i,i < g.length→H' i = H i
 young:g.length ≤ t'
def qAW (vs:List Vr) (ps:List Pt) (V:qa) (L d:Nat):Prop:=∀(e:Exl),(∃k,Fit k e)→dOK d e = true→∀(H:Nat→Option qb) (g:List qb) (t:Nat) (ns:List Nd) (Tb:qa),ns.length + sz d e ≤ 10000→Pre vs V (.lst (ps.map ptV) .no) L H g t ns Tb→
    ∃H' g' t' Tb',Wd (.fn 41 [] []) [.ptr L 0,exV e] g = some (.ret (.int .i64 (((ns.length + (low (vs.map (·.nm)) (ps.map (·.nm)) d ns.length e).length:Nat):Int) - 1)),g',true)∧
     qDs vs V (.lst (ps.map ptV) .no) L H g t H' g' t' (ns ++ low (vs.map (·.nm)) (ps.map (·.nm)) d ns.length e) Tb'
theorem Pre.more {vs:List Vr} {V P:qa} {L:Nat} {H:Nat→Option qb} {g:List qb} {t:Nat} {ns:List Nd} {Tb:qa} (h:Pre vs V P L H g t ns Tb) (l:List qb):Pre vs V P L H (g ++ l) t ns Tb:=by
 have hL:L < g.length:=(List.getElem?_eq_some_iff.1 h.box).1
 refine ⟨⟨h.tab.1.more l,h.tab.2.1,?_⟩,by rw [List.getElem?_append_left hL];exact h.box,h.hno,h.ne,by have:=h.lt;simp;omega,h.vars⟩
 rcases h.tab.2.2 with e | ⟨rs,e,hne,hi,hR⟩
 ·exact .inl e
 ·exact .inr ⟨rs,e,hne,by rw [List.getElem?_append_left h.lt];exact hi,hR⟩
theorem Pre.put {vs:List Vr} {V P:qa} {L:Nat} {H:Nat→Option qb} {g g':List qb} {t:Nat} {ns:List Nd} {Tb:qa} (h:Pre vs V P L H g t ns Tb) {A:Nat→Prop} (hlen:g.length ≤ g'.length) (hk:∀i,i < g.length→¬ A i→g'[i]? = g[i]?) (hA:∀i,A i→H i = none∧i ≠ L∧i ≠ t):Pre vs V P L H g' t ns Tb:=by
 have hL:L < g.length:=(List.getElem?_eq_some_iff.1 h.box).1
 refine ⟨⟨fun i x hi=>?_,h.tab.2.1,?_⟩,?_,h.hno,h.ne,by have:=h.lt;omega,h.vars⟩
 ·rw [hk i (h.tab.1.lt hi) fun ha=>by rw [(hA i ha).1] at hi;cases hi]
  exact h.tab.1 i x hi
 ·rcases h.tab.2.2 with e | ⟨rs,e,hne,hi,hR⟩
  ·exact .inl e
  ·exact .inr ⟨rs,e,hne,by rw [hk t h.lt fun ha=>(hA t ha).2.2 rfl];exact hi,hR⟩
 ·rw [hk L hL fun ha=>(hA L ha).2.1 rfl]
  exact h.box
structure Lp (vs:List Vr) (ps:List Pt) (V:qa) (L d:Nat) (op n:Int) (nm sb:Str) (aS:List Exl) (ns:List Nd) (g:List qb) (t0:Nat) (Hg:Nat→Option qb) (i:Nat) (H:Nat→Option qb) (G:List qb) (t:Nat) (out:List Nd) (ins:List Int) (I:qa) (j:Nat) (Tb:qa):Prop where
 pre:Pre vs V (.lst (ps.map ptV) .no) L H G t (ns ++ out) Tb
 b2:g.length + 2 ≤ G.length
 bB:G[g.length]? = some (.cells [.int .i64 op,.int .i64 n,.str nm,.str sb,.lst (aS.map exV) .no])
 bN:G[g.length + 1]? = some (.cells [.int .i64 op,.int .i64 n,.str [],.str [],.int .i64 0,I])
 hI:(ins = []∧I = .lst [] .full)∨(I = .sl j 0 ins.length ins.length 1∧ins ≠ []∧G[j]? = some (.cells (ins.map (.int .i64)))∧g.length + 2 ≤ j∧j ≠ t∧H j = none)
 tB:t < g.length∨g.length + 2 ≤ t
 hB:H (g.length + 1) = none
 keep:∀i,i < g.length→i ≠ L→i ≠ t0→G[i]? = g[i]?
 told:∀i,i < g.length→H i = Hg i
 ty:t = t0∨g.length ≤ t
 gat:qbz (low (vs.map (·.nm)) (ps.map (·.nm)) d) ns.length (aS.drop i) out ins = qbz (low (vs.map (·.nm)) (ps.map (·.nm)) d) ns.length aS [] []
 inl:ins.length = i
 len:ns.length + out.length + ((aS.drop i).map (sz d)).sum + 1 ≤ 10000
theorem Lp.facts {vs:List Vr} {ps:List Pt} {V:qa} {L d:Nat} {op n:Int} {nm sb:Str} {aS:List Exl} {ns:List Nd} {g:List qb} {t0:Nat} {Hg:Nat→Option qb} {i:Nat} {H:Nat→Option qb} {G:List qb} {t:Nat} {out:List Nd} {ins:List Int} {I:qa} {j:Nat} {Tb:qa} (h:Lp vs ps V L d op n nm sb aS ns g t0 Hg i H G t out ins I j Tb):I.dim = I∧I.storable = true∧∀i t,qx I i t = t:=by
 rcases h.hI with ⟨_,rfl⟩ | ⟨rfl,_⟩ <;> exact ⟨rfl,rfl,fun _ _=>rfl⟩
section
variable {vs:List Vr} {ps:List Pt} {V:qa} {L d:Nat}
theorem qw8 {op n:Int} {nm sb:Str} {aS:List Exl} {ns:List Nd} {g:List qb} {t0:Nat} {Hg:Nat→Option qb} {i:Nat} {H:Nat→Option qb} {G:List qb} {t:Nat} {out:List Nd} {ins:List Int} {I:qa} {j:Nat} {Tb:qa} (h:Lp vs ps V L d op n nm sb aS ns g t0 Hg i H G t out ins I j Tb) (hA:qAW vs ps V L d) (hL:L < g.length) (hi:i < aS.length) (hl:aS.length ≤ 20) (hf:∀a ∈ aS,∃k,Fit k a) (hD:∀a ∈ aS,dOK d a = true) :
  ∃(x:Int) (H2:Nat→Option qb) (G2:List qb) (t2:Nat) (Tb2:qa) (out2:List Nd) (G3:List qb),Wd (.fn 41 [] []) [.ptr L 0,exV aS[i]] (G ++ [.cells aS[i].enc]) = some (.ret (.int .i64 x),G2,true)∧
   (G ++ [.cells aS[i].enc])[g.length + 1]? = some (.cells [.int .i64 op,.int .i64 n,.str [],.str [],.int .i64 0,I])∧G2[g.length + 1]? = some (.cells [.int .i64 op,.int .i64 n,.str [],.str [],.int .i64 0,I])∧(G2 ++ [.cells [.int .i64 x]])[g.length + 1]? = some (.cells [.int .i64 op,.int .i64 n,.str [],.str [],.int .i64 0,I])∧G3[g.length + 1]? = some (.cells [.int .i64 op,.int .i64 n,.str [],.str [],.int .i64 0,I])∧
   hop g.length (.app 1) [I,.sl G2.length 0 1 1 0] (G2 ++ [.cells [.int .i64 x]]) = some (.sl (G2.length + 1) 0 (ins ++ [x]).length (ins ++ [x]).length 1,G3,false)∧
   Lp vs ps V L d op n nm sb aS ns g t0 Hg (i + 1) H2 (G3.set (g.length + 1) (.cells [.int .i64 op,.int .i64 n,.str [],.str [],.int .i64 0,.sl (G2.length + 1) 0 (ins ++ [x]).length (ins ++ [x]).length 1])) t2 out2 (ins ++ [x]) (.sl (G2.length + 1) 0 (ins ++ [x]).length (ins ++ [x]).length 1) (G2.length + 1) Tb2:=by
 obtain ⟨pre,b2,bB,bN,hI,tB,hB,keep,told,ty,gat,inl,len⟩:=h
 have e1:(aS.drop i).map (sz d) = sz d aS[i] :: (aS.drop (i + 1)).map (sz d):=by rw [List.drop_eq_getElem_cons hi,List.map_cons]
 rw [e1,List.sum_cons] at len
 obtain ⟨H2,G2,t2,Tb2,hr,post⟩:=hA aS[i] (hf _ (List.getElem_mem hi)) (hD _ (List.getElem_mem hi)) H (G ++ [.cells aS[i].enc]) t (ns ++ out) Tb (by simp;omega) (pre.more _)
 obtain ⟨pre2,more2,keep2,told2,young2⟩:=post
 rw [List.drop_eq_getElem_cons hi,qbz] at gat
 generalize hx:(((ns.length + (out ++ low (vs.map (·.nm)) (ps.map (·.nm)) d (ns.length + out.length) aS[i]).length:Nat):Int) - 1) = x at gat
 have hx2:((((ns ++ out).length + (low (vs.map (·.nm)) (ps.map (·.nm)) d (ns ++ out).length aS[i]).length:Nat):Int) - 1) = x:=by
  rw [←hx,List.length_append,List.length_append,Nat.add_assoc]
 rw [hx2] at hr
 have gl:(G ++ [qb.cells aS[i].enc]).length = G.length + 1:=by simp
 rw [gl] at more2 keep2 told2 young2
 have bN1:(G ++ [qb.cells aS[i].enc])[g.length + 1]? = some (.cells [.int .i64 op,.int .i64 n,.str [],.str [],.int .i64 0,I]):=by rw [List.getElem?_append_left (by omega)];exact bN
 have bN2:G2[g.length + 1]? = some (.cells [.int .i64 op,.int .i64 n,.str [],.str [],.int .i64 0,I]):=by rw [keep2 _ (by omega) (by omega) (by omega)];exact bN1
 have hI2:(ins = []∧I = .lst [] .full)∨(I = .sl j 0 ins.length ins.length 1∧ins ≠ []∧G2[j]? = some (.cells (ins.map (.int .i64)))):=by
  rcases hI with h | ⟨a,b,c,c1,c2,c3⟩
  ·exact .inl h
  ·have hj:j < G.length:=(List.getElem?_eq_some_iff.1 c).1
   exact .inr ⟨a,b,by rw [keep2 j (by omega) (by omega) c2,List.getElem?_append_left hj];exact c⟩
 have hj2:ins ≠ []→g.length + 2 ≤ j∧H2 j = none∧j ≠ t2∧j < G.length:=by
  intro hne
  rcases hI with ⟨h,_⟩ | ⟨a,b,c,c1,c2,c3⟩
  ·exact absurd h hne
  ·have hj:j < G.length:=(List.getElem?_eq_some_iff.1 c).1
   exact ⟨c1,by rw [told2 j (by omega)];exact c3,by omega,hj⟩
 obtain ⟨G3,hap,l3,k3,n3⟩:=qtg (base:=g.length) (H:=H2) (g:=G2) (id:=j) (by omega) x hI2
 have bN3:G3[g.length + 1]? = some (.cells [.int .i64 op,.int .i64 n,.str [],.str [],.int .i64 0,I]):=by
  rw [k3 _ (by omega) fun hne=>by have:=(hj2 hne).1;omega]
  exact bN2
 have pt2:=pre2.lt
 refine ⟨x,H2,G2,t2,Tb2,out ++ low (vs.map (·.nm)) (ps.map (·.nm)) d (ns.length + out.length) aS[i],G3,hr,bN1,bN2,by rw [List.getElem?_append_left (by omega)];exact bN2,bN3,hap,?_⟩
 rw [show (ns ++ out).length = ns.length + out.length by rw [List.length_append],List.append_assoc] at pre2
 have hk4:∀(X:qb) (i:Nat),i < G2.length→¬ (i = g.length + 1∨(ins ≠ []∧i = j))→(G3.set (g.length + 1) X)[i]? = G2[i]?:=fun X i hi hn=>by
  rw [List.getElem?_set_ne fun e=>hn (.inl e.symm),k3 i hi fun hne e=>hn (.inr ⟨hne,e⟩)]
 have hBn:H2 (g.length + 1) = none:=by rw [told2 _ (by omega)];exact hB
 refine ⟨pre2.put (A:=fun i=>i = g.length + 1∨(ins ≠ []∧i = j)) (by simp;omega) (hk4 _) ?_,by simp;omega,?_,?_,?_,by omega,hBn,?_,?_,by omega,gat,by simp;omega,?_⟩
 ·rintro i (rfl | ⟨hne,rfl⟩)
  ·exact ⟨hBn,by omega,by omega⟩
  ·obtain ⟨q1,q2,q3,_⟩:=hj2 hne
   exact ⟨q2,by omega,q3⟩
 ·rw [hk4 _ _ (by omega) (by rintro (h | ⟨hne,h⟩);omega;have:=(hj2 hne).1;omega),keep2 _ (by omega) (by omega) (by omega),List.getElem?_append_left (by omega)]
  exact bB
 ·rw [List.getElem?_set_self (by omega)]
 ·refine .inr ⟨rfl,by simp,?_,by omega,by omega,pre2.tab.1.late (by omega)⟩
  rw [List.getElem?_set_ne (by omega)]
  exact n3
 ·intro i hi h1 h2
  rw [hk4 _ _ (by omega) (by rintro (h | ⟨hne,h⟩);omega;have:=(hj2 hne).1;omega),keep2 _ (by omega) h1 (by rcases ty with rfl | h;exact h2;omega),List.getElem?_append_left (by omega)]
  exact keep i hi h1 h2
 ·intro i hi
  rw [told2 i (by omega)]
  exact told i hi
 ·rw [List.length_append,qjz]
  omega
end
section
variable {vs:List Vr} {ps:List Pt} {V:qa} {L d:Nat}
theorem qrJ {op n:Int} {nm sb:Str} {aS:List Exl} {ns:List Nd} {g:List qb} {t0:Nat} {Hg:Nat→Option qb} (hA:qAW vs ps V L d) (hL:L < g.length) (hl:aS.length ≤ 20) (hf:∀a ∈ aS,∃k,Fit k a) (hD:∀a ∈ aS,dOK d a = true) :
  ∀q st,(∃(tt:List qa) (ef:Bool) (i:Nat) (H:Nat→Option qb) (G:List qb) (t:Nat) (out:List Nd) (ins:List Int) (I:qa) (j:Nat) (Tb:qa),st = ⟨tt,G,ef⟩∧tt.length = 83∧lkp tt 0 = .ptr L 0∧lkp tt 3 = .ptr g.length 0∧lkp tt 5 = .ptr (g.length + 1) 0∧lkp tt 14 = .lst (aS.map exV) .no∧lkp tt 15 = .int .i64 (aS.length:Nat)∧lkp tt 16 = .int .i64 (i:Nat)∧i + q = aS.length∧Lp vs ps V L d op n nm sb aS ns g t0 Hg i H G t out ins I j Tb)→
   ∃x st',qm g.length Wd (.loop ql1) st = some (x,st')∧(x = .exit 0∧∃(tt:List qa) (ef:Bool) (H:Nat→Option qb) (G:List qb) (t:Nat) (out:List Nd) (ins:List Int) (I:qa) (j:Nat) (Tb:qa),st' = ⟨tt,G,ef⟩∧tt.length = 83∧lkp tt 0 = .ptr L 0∧lkp tt 3 = .ptr g.length 0∧lkp tt 5 = .ptr (g.length + 1) 0∧Lp vs ps V L d op n nm sb aS ns g t0 Hg aS.length H G t out ins I j Tb):=by
 refine qD _ _ ?_
 rintro q st ⟨tt,ef,i,H,G,t,out,ins,I,j,Tb,rfl,ht,e0,e3,e5,e14,e15,e16,hiq,lp⟩
 generalize he:qm g.length Wd ql1 _ = r
 rcases Nat.lt_or_ge i aS.length with hi | hi
 ·have c1:ilt (i:Int) (aS.length:Int) = true:=qyz (by omega)
  have w:=qab (n:=i) (by omega)
  obtain ⟨hId,hIs,hIw⟩:=lp.facts
  have hGB:=lp.b2
  obtain ⟨x,H2,G2,t2,Tb2,out2,G3,hr,b1,b2,b3,b4,hap,lp2⟩:=qw8 lp hA hL hi hl hf hD
  generalize (ins ++ [x]).length = N at hap lp2
  have hg:(aS.map exV)[i]? = some (exV aS[i]):=by rw [List.getElem?_map,List.getElem?_eq_getElem hi];rfl
  generalize aS[i] = y at hr hg b1
  obtain ⟨op',n',nm',sb',as'⟩:=y
  rw [qN] at hg
  rw [qN,qci] at hr
  rw [qci] at b1
  have hx:qav 5 (.lst (aS.map exV) .no) (.int .i64 (i:Nat)) = some (.iptr [.int .i64 op',.int .i64 n',.str nm',.str sb',.lst (as'.map exV) .no] 0):=qaM hg rfl
  have hbl:Nat.ble g.length G.length = true:=qi (by omega)
  have hbn:Nat.ble g.length (g.length + 1) = true:=qi (by omega)
  simp only [sA.1,ql1,simprocAttr,-Int.reduceNatCast',qCS,ht,e0,e3,e5,e14,e15,e16,c1,hx,hbl,hbn,hr,b1,b2,b3,b4,hap,hId,hIs,hIw,w,Bool.or_true,Bool.or_false] at he
  subst he
  refine .inl ⟨_,q - 1,rfl,by omega,_,_,i + 1,H2,_,t2,out2,_,_,_,Tb2,rfl,?_,?_,?_,?_,?_,?_,?_,by omega,lp2⟩
  ·simp only [qc,ht]
  ·simp only [sB.1,simprocAttr,-Int.reduceNatCast',ht,e0]
  ·simp only [sB.1,simprocAttr,-Int.reduceNatCast',ht,e3]
  ·simp only [sB.1,simprocAttr,-Int.reduceNatCast',ht,e5]
  ·simp only [sB.1,simprocAttr,-Int.reduceNatCast',ht,e14]
  ·simp only [sB.1,simprocAttr,-Int.reduceNatCast',ht,e15]
  ·simp only [sB.1,simprocAttr,-Int.reduceNatCast',ht]
 ·have c1:ilt (i:Int) (aS.length:Int) = false:=qyy (by omega)
  have:i = aS.length:=by omega
  subst this
  simp only [sB.1,ql1,simprocAttr,-Int.reduceNatCast',ht,e0,e3,e5,e14,e15,e16,c1] at he
  subst he
  refine .inr ⟨_,_,rfl,by simp,rfl,_,ef,H,G,t,out,ins,I,j,Tb,rfl,?_,?_,?_,?_,lp⟩
  ·simp only [qc,ht]
  ·simp only [sB.1,simprocAttr,-Int.reduceNatCast',ht,e0]
  ·simp only [sB.1,simprocAttr,-Int.reduceNatCast',ht,e3]
  ·simp only [sB.1,simprocAttr,-Int.reduceNatCast',ht,e5]
theorem qcL {op n:Int} {nm sb:Str} {aS:List Exl} {ns:List Nd} {g:List qb} {t0:Nat} {Hg:Nat→Option qb} {H:Nat→Option qb} {G:List qb} {t:Nat} {out:List Nd} {ins:List Int} {I:qa} {j:Nat} {Tb:qa} {i:Nat} (h:Lp vs ps V L d op n nm sb aS ns g t0 Hg i H G t out ins I j Tb) (hL:L < g.length) (x:Nd) (hx:x.ins = ins) :
  ∃(H':Nat→Option qb) (G6:List qb),
   hop g.length (.app 6) [Tb,.sl G.length 0 1 1 0] (G.set (g.length + 1) (.cells [.int .i64 x.op,.int .i64 x.n,.str x.nm,.str x.sb,.int .i64 x.pl,I]) ++ [.cells [.int .i64 x.op,.int .i64 x.n,.str x.nm,.str x.sb,.int .i64 x.pl,I]]) = some (.sl (G.length + 1) 0 (ns ++ out ++ [x]).length (ns ++ out ++ [x]).length 6,G6,false)∧
   (∀X,(G.set (g.length + 1) X)[g.length + 1]? = some X)∧(∀X,(G.set (g.length + 1) X)[g.length]? = some (.cells [.int .i64 op,.int .i64 n,.str nm,.str sb,.lst (aS.map exV) .no]))∧(∀X,(G.set (g.length + 1) X)[L]? = some (.cells [Tb,V,.lst (ps.map ptV) .no]))∧
   (∀X Y,(G.set (g.length + 1) X ++ [Y])[g.length + 1]? = some X)∧(∀X Y,(G.set (g.length + 1) X ++ [Y])[L]? = some (.cells [Tb,V,.lst (ps.map ptV) .no]))∧
   G6[g.length + 1]? = some (.cells [.int .i64 x.op,.int .i64 x.n,.str x.nm,.str x.sb,.int .i64 x.pl,I])∧G6[L]? = some (.cells [Tb,V,.lst (ps.map ptV) .no])∧
   (∀X,(G6.set L X)[L]? = some X)∧
   qDs vs V (.lst (ps.map ptV) .no) L Hg g t0 H' (G6.set L (.cells [.sl (G.length + 1) 0 (ns ++ out ++ [x]).length (ns ++ out ++ [x]).length 6,V,.lst (ps.map ptV) .no])) (G.length + 1) (ns ++ (out ++ [x])) (.sl (G.length + 1) 0 (ns ++ out ++ [x]).length (ns ++ out ++ [x]).length 6):=by
 obtain ⟨pre,b2,bB,bN,hI,tB,hB,keep,told,ty,gat,inl,len⟩:=h
 obtain ⟨H',hH',hsub,hIH,htH,hLH,hBH⟩ :∃H':Nat→Option qb,(∀i,i < g.length→H' i = H i)∧Sub H H'∧Ins H' ins I∧H' t = none∧H' L = none∧(H' (g.length + 1) = none∧Cov H' G):=by
  rcases hI with ⟨h1,h2⟩ | ⟨rfl,hne,hj,h1,h2,h3⟩
  ·exact ⟨H,fun _ _=>rfl,fun _ _ h=>h,.inl ⟨h1,h2⟩,pre.tab.2.1,pre.hno,hB,pre.tab.1⟩
  ·refine ⟨fun i=>if i = j then some (.cells (ins.map (.int .i64))) else H i,fun i hi=>if_neg (by omega),fun i y hy=>?_,.inr ⟨j,rfl,if_pos rfl⟩,?_,?_,?_,fun i y hy=>?_⟩
   ·have:i ≠ j:=fun e=>by subst e;rw [h3] at hy;cases hy
    simp only [this,if_false,hy]
   ·exact (if_neg fun e=>h2 e.symm).trans pre.tab.2.1
   ·exact (if_neg (by omega)).trans pre.hno
   ·exact (if_neg (by omega)).trans hB
   ·have hy':(if i = j then some (qb.cells (ins.map (.int .i64))) else H i) = some y:=hy
    by_cases e:i = j
    ·subst e
     rw [if_pos rfl] at hy'
     cases hy'
     exact hj
    ·rw [if_neg e] at hy'
     exact pre.tab.1 i y hy'
 have hlt:=pre.lt
 have tab5:∀X,Tab H' (G.set (g.length + 1) X) t (ns ++ out) Tb:=fun X=>⟨hBH.2.set hBH.1 X,htH,by
  rcases pre.tab.2.2 with e | ⟨rs,e,hne,hi,hR⟩
  ·exact .inl e
  ·exact .inr ⟨rs,e,hne,by rw [List.getElem?_set_ne (by omega)];exact hi,hR.mono hsub⟩⟩
 have hrow:qiM H' x [.int .i64 x.op,.int .i64 x.n,.str x.nm,.str x.sb,.int .i64 x.pl,I]:=⟨I,rfl,by rw [hx];exact hIH⟩
 obtain ⟨G6,hap,l6,k6,tab6⟩:=qui (base:=g.length) (tab5 (.cells [.int .i64 x.op,.int .i64 x.n,.str x.nm,.str x.sb,.int .i64 x.pl,I])) (by rw [List.length_append];omega) hrow
 have gl:∀X,(G.set (g.length + 1) X).length = G.length:=fun X=>by simp
 rw [gl] at hap l6 k6 tab6
 have f1:∀X,(G.set (g.length + 1) X)[g.length + 1]? = some X:=fun X=>List.getElem?_set_self (by omega)
 have f2:∀X,(G.set (g.length + 1) X)[g.length]? = some (.cells [.int .i64 op,.int .i64 n,.str nm,.str sb,.lst (aS.map exV) .no]):=fun X=>by rw [List.getElem?_set_ne (by omega)];exact bB
 have f3:∀X,(G.set (g.length + 1) X)[L]? = some (.cells [Tb,V,.lst (ps.map ptV) .no]):=fun X=>by rw [List.getElem?_set_ne (by omega)];exact pre.box
 have tL:=pre.ne
 refine ⟨H',G6,hap,f1,f2,f3,fun X Y=>?_,fun X Y=>?_,?_,?_,fun X=>List.getElem?_set_self (by omega),?_⟩
 ·rw [List.getElem?_append_left (by rw [gl];omega)]
  exact f1 X
 ·rw [List.getElem?_append_left (by rw [gl];omega)]
  exact f3 X
 ·rw [k6 _ (by omega) fun _=>by omega]
  exact f1 _
 ·rw [k6 _ (by omega) fun _=>by omega]
  exact f3 _
 ·obtain ⟨c6,n6,t6⟩:=tab6
  rw [←List.append_assoc]
  refine ⟨⟨⟨c6.set hLH _,n6,?_⟩,List.getElem?_set_self (by omega),hLH,by omega,by simp;omega,pre.vars.mono hsub⟩,by simp;omega,fun i hi h1 h2=>?_,fun i hi=>?_,by omega⟩
  ·rcases t6 with ⟨e,_⟩ | ⟨rs,e,hne,hi,hR⟩
   ·simp at e
   ·exact .inr ⟨rs,rfl,hne,by rw [List.getElem?_set_ne (by omega)];exact hi,hR⟩
  ·rw [List.getElem?_set_ne (by omega),k6 i (by omega) (fun _=>by rcases ty with rfl | h;exact h2;omega),List.getElem?_set_ne (by omega)]
   exact keep i hi h1 h2
  ·rw [hH' i hi]
   exact told i hi
end
theorem qEc (vs:List Vr) (ps:List Pt) (V:qa) (L:Nat) (hvl:vs.length ≤ 100000) (hpl:ps.length ≤ 100000):∀d,qAW vs ps V L d:=by
 intro d
 induction d with
 | zero=>
  intro e _ hd
  rw [dOK] at hd
  cases hd
 | succ d ih=>
  rintro ⟨op,n,nm,sb,aS⟩ ⟨k,hk⟩ hd H g t0 ns Tb0 hlen pre0
  obtain ⟨k,rfl⟩ :∃k',k = k' + 1:=by cases k with | zero=>exact hk.elim | succ k=>exact ⟨k,rfl⟩
  have hf:∀a ∈ aS,∃k,Fit k a:=fun a ha=>⟨k,hk.2 a ha⟩
  rw [dOK,List.all_eq_true] at hd
  rw [sz] at hlen
  have hL:L < g.length:=(List.getElem?_eq_some_iff.1 pre0.box).1
  have hvars:=pre0.vars
  obtain ⟨hVd,hVs,hVw⟩:=hvars.facts
  have lp0:Lp vs ps V L d op n nm sb aS ns g t0 H 0 H (g ++ [.cells [.int .i64 op,.int .i64 n,.str nm,.str sb,.lst (aS.map exV) .no],.cells [.int .i64 op,.int .i64 n,.str [],.str [],.int .i64 0,.lst [] .full]]) t0 [] [] (.lst [] .full) 0 Tb0:=by
   refine ⟨by rw [List.append_nil];exact pre0.more _,by simp,by rw [qQ];rfl,?_,.inl ⟨rfl,rfl⟩,.inl pre0.lt,pre0.tab.1.late (by omega),fun i hi _ _=>List.getElem?_append_left hi,fun _ _=>rfl,.inl rfl,rfl,rfl,?_⟩
   ·rw [List.getElem?_append_right (by omega),show g.length + 1 - g.length = 1 by omega]
    rfl
   ·simp
    omega
  generalize hw:Wd _ _ g = w
  rw [qN,qr rfl (show T.get 41 = some c41 by kernel_rfl)] at hw
  simp only [sA.1,c41,simprocAttr,-Int.reduceNatCast',qcd,qaP] at hw
  generalize hr:qm g.length Wd (.loop ql1) _ = r at hw
  obtain ⟨x,st',rfl,rfl,tt,ef,H,G,t,out,ins,I,j,Tb,rfl,ht,e0,e3,e5,lp⟩:=qaB hr (qrJ ih hL hk.1 hf hd aS.length _ ⟨_,_,0,H,_,t0,[],[],.lst [] .full,0,Tb0,rfl,by simp only [sB.1,simprocAttr,-Int.reduceNatCast'],by simp only [sB.1,simprocAttr,-Int.reduceNatCast'],by simp only [sB.1,simprocAttr,-Int.reduceNatCast'],by simp only [sB.1,simprocAttr,-Int.reduceNatCast'],by simp only [sB.1,simprocAttr,-Int.reduceNatCast'],by simp only [sB.1,simprocAttr,-Int.reduceNatCast'],by simp only [sB.1,simprocAttr,-Int.reduceNatCast',Int.natCast_zero],by omega,lp0⟩)
  obtain ⟨hId,hIs,hIw⟩:=lp.facts
  have hlit:=fun b a1 a2 a3 a4 a5 h=>qFC b a1 a2 a3 a4 a5 I hId hIs h
  have bB:=lp.bB
  have bN:=lp.bN
  have box:=lp.pre.box
  have b2:=lp.b2
  obtain ⟨hTd,hTs,hTw,_⟩:=lp.pre.tab.facts
  have hVA:=lp.pre.vars.at lp.pre.tab.1
  have hvp:=fun s=>qj3 (h:=G) vs V hVA s hvl
  have hpp:=fun s=>qii (h:=G) ps s hpl
  have q1:Nat.ble g.length L = false:=qy0 hL
  have q2:Nat.blt (G.length + 1) (L + 1) = false:=qcN (by omega)
  have q3:Nat.ble g.length (g.length + 1) = true:=qi (by omega)
  have hss:∀X Y:qb,(G.set (g.length + 1) X).set (g.length + 1) Y = G.set (g.length + 1) Y:=fun X Y=>List.set_set ..
  have g0:g.length ≠ 0:=by omega
  have gat:=lp.gat
  rw [List.drop_eq_nil_of_le (Nat.le_refl _),qbz] at gat
  have hlow:low (vs.map (·.nm)) (ps.map (·.nm)) (d + 1) ns.length (.mk op n nm sb aS) = out ++ [fin (vs.map (·.nm)) (ps.map (·.nm)) op n nm sb ins]:=by rw [low,←gat]
  rw [hlow]
  have olen:=lp.len
  by_cases h3:op = 3
  ·subst h3
   have hfin:fin (vs.map (·.nm)) (ps.map (·.nm)) 3 n nm sb ins = ⟨3,n,nm,[],0,ins⟩:=rfl
   rw [hfin]
   obtain ⟨H',G6,hap,f1,f2,f3,f4,f5,n6,l6,f7,post⟩:=qcL lp hL (⟨3,n,nm,[],0,ins⟩ :Nd) rfl
   have hN:(ns ++ out ++ [(⟨3,n,nm,[],0,ins⟩ :Nd)]).length = ns.length + (out ++ [(⟨3,n,nm,[],0,ins⟩ :Nd)]).length:=by simp only [List.length_append,List.length_cons,List.length_nil];omega
   have wN:IntKind.i64.wrap (((ns.length + (out ++ [(⟨3,n,nm,[],0,ins⟩ :Nd)]).length:Nat):Int) - 1) = ((ns.length + (out ++ [(⟨3,n,nm,[],0,ins⟩ :Nd)]).length:Nat):Int) - 1:=qaX (by simp only [List.length_append,List.length_cons,List.length_nil];omega) (by simp only [List.length_append,List.length_cons,List.length_nil];omega)
   rw [hN] at hap post
   generalize ns.length + (out ++ [(⟨3,n,nm,[],0,ins⟩ :Nd)]).length = N at hap post wN ⊢
   simp only [sA.1,simprocAttr,-Int.reduceNatCast',qcd,qaP,ht,e0,e3,e5,bB,bN,box,hId,hIs,hIw,hVd,hVs,hVw,hTd,hTs,hTw,hlit,f1,f2,f3,f4,f5,hap,n6,l6,f7,q1,q2,q3,wN,hss,hvp,hpp,Bool.or_true,Bool.or_false,Bool.or_self,Bool.not_false] at hw
   subst hw
   exact ⟨H',_,_,_,congrArg some (qcc g0 _ _),post⟩
  by_cases h4:op = 4
  ·subst h4
   have hfin:fin (vs.map (·.nm)) (ps.map (·.nm)) 4 n nm sb ins = ⟨4,n,[],[],pos (vs.map (·.nm)) nm 0,ins⟩:=rfl
   rw [hfin]
   obtain ⟨H',G6,hap,f1,f2,f3,f4,f5,n6,l6,f7,post⟩:=qcL lp hL (⟨4,n,[],[],pos (vs.map (·.nm)) nm 0,ins⟩ :Nd) rfl
   have hN:(ns ++ out ++ [(⟨4,n,[],[],pos (vs.map (·.nm)) nm 0,ins⟩ :Nd)]).length = ns.length + (out ++ [(⟨4,n,[],[],pos (vs.map (·.nm)) nm 0,ins⟩ :Nd)]).length:=by simp only [List.length_append,List.length_cons,List.length_nil];omega
   have wN:IntKind.i64.wrap (((ns.length + (out ++ [(⟨4,n,[],[],pos (vs.map (·.nm)) nm 0,ins⟩ :Nd)]).length:Nat):Int) - 1) = ((ns.length + (out ++ [(⟨4,n,[],[],pos (vs.map (·.nm)) nm 0,ins⟩ :Nd)]).length:Nat):Int) - 1:=qaX (by simp only [List.length_append,List.length_cons,List.length_nil];omega) (by simp only [List.length_append,List.length_cons,List.length_nil];omega)
   rw [hN] at hap post
   generalize ns.length + (out ++ [(⟨4,n,[],[],pos (vs.map (·.nm)) nm 0,ins⟩ :Nd)]).length = N at hap post wN ⊢
   simp only [sA.1,simprocAttr,-Int.reduceNatCast',qcd,qaP,ht,e0,e3,e5,bB,bN,box,hId,hIs,hIw,hVd,hVs,hVw,hTd,hTs,hTw,hlit,f1,f2,f3,f4,f5,hap,n6,l6,f7,q1,q2,q3,wN,hss,hvp,hpp,Bool.or_true,Bool.or_false,Bool.or_self,Bool.not_false] at hw
   subst hw
   exact ⟨H',_,_,_,congrArg some (qcc g0 _ _),post⟩
  by_cases h5:op = 5
  ·subst h5
   have hfin:fin (vs.map (·.nm)) (ps.map (·.nm)) 5 n nm sb ins = ⟨5,n,nm,sb,0,ins⟩:=rfl
   rw [hfin]
   obtain ⟨H',G6,hap,f1,f2,f3,f4,f5,n6,l6,f7,post⟩:=qcL lp hL (⟨5,n,nm,sb,0,ins⟩ :Nd) rfl
   have hN:(ns ++ out ++ [(⟨5,n,nm,sb,0,ins⟩ :Nd)]).length = ns.length + (out ++ [(⟨5,n,nm,sb,0,ins⟩ :Nd)]).length:=by simp only [List.length_append,List.length_cons,List.length_nil];omega
   have wN:IntKind.i64.wrap (((ns.length + (out ++ [(⟨5,n,nm,sb,0,ins⟩ :Nd)]).length:Nat):Int) - 1) = ((ns.length + (out ++ [(⟨5,n,nm,sb,0,ins⟩ :Nd)]).length:Nat):Int) - 1:=qaX (by simp only [List.length_append,List.length_cons,List.length_nil];omega) (by simp only [List.length_append,List.length_cons,List.length_nil];omega)
   rw [hN] at hap post
   generalize ns.length + (out ++ [(⟨5,n,nm,sb,0,ins⟩ :Nd)]).length = N at hap post wN ⊢
   simp only [sA.1,simprocAttr,-Int.reduceNatCast',qcd,qaP,ht,e0,e3,e5,bB,bN,box,hId,hIs,hIw,hVd,hVs,hVw,hTd,hTs,hTw,hlit,f1,f2,f3,f4,f5,hap,n6,l6,f7,q1,q2,q3,wN,hss,hvp,hpp,Bool.or_true,Bool.or_false,Bool.or_self,Bool.not_false] at hw
   subst hw
   exact ⟨H',_,_,_,congrArg some (qcc g0 _ _),post⟩
  by_cases h7:op = 7
  ·subst h7
   have hfin:fin (vs.map (·.nm)) (ps.map (·.nm)) 7 n nm sb ins = ⟨7,n,[],[],pos (ps.map (·.nm)) nm 0,ins⟩:=rfl
   rw [hfin]
   obtain ⟨H',G6,hap,f1,f2,f3,f4,f5,n6,l6,f7,post⟩:=qcL lp hL (⟨7,n,[],[],pos (ps.map (·.nm)) nm 0,ins⟩ :Nd) rfl
   have hN:(ns ++ out ++ [(⟨7,n,[],[],pos (ps.map (·.nm)) nm 0,ins⟩ :Nd)]).length = ns.length + (out ++ [(⟨7,n,[],[],pos (ps.map (·.nm)) nm 0,ins⟩ :Nd)]).length:=by simp only [List.length_append,List.length_cons,List.length_nil];omega
   have wN:IntKind.i64.wrap (((ns.length + (out ++ [(⟨7,n,[],[],pos (ps.map (·.nm)) nm 0,ins⟩ :Nd)]).length:Nat):Int) - 1) = ((ns.length + (out ++ [(⟨7,n,[],[],pos (ps.map (·.nm)) nm 0,ins⟩ :Nd)]).length:Nat):Int) - 1:=qaX (by simp only [List.length_append,List.length_cons,List.length_nil];omega) (by simp only [List.length_append,List.length_cons,List.length_nil];omega)
   rw [hN] at hap post
   generalize ns.length + (out ++ [(⟨7,n,[],[],pos (ps.map (·.nm)) nm 0,ins⟩ :Nd)]).length = N at hap post wN ⊢
   simp only [sA.1,simprocAttr,-Int.reduceNatCast',qcd,qaP,ht,e0,e3,e5,bB,bN,box,hId,hIs,hIw,hVd,hVs,hVw,hTd,hTs,hTw,hlit,f1,f2,f3,f4,f5,hap,n6,l6,f7,q1,q2,q3,wN,hss,hvp,hpp,Bool.or_true,Bool.or_false,Bool.or_self,Bool.not_false] at hw
   subst hw
   exact ⟨H',_,_,_,congrArg some (qcc g0 _ _),post⟩
  by_cases h8:op = 8
  ·subst h8
   have hfin:fin (vs.map (·.nm)) (ps.map (·.nm)) 8 n nm sb ins = ⟨8,n,[],[],pos (ps.map (·.nm)) nm 0,ins⟩:=rfl
   rw [hfin]
   obtain ⟨H',G6,hap,f1,f2,f3,f4,f5,n6,l6,f7,post⟩:=qcL lp hL (⟨8,n,[],[],pos (ps.map (·.nm)) nm 0,ins⟩ :Nd) rfl
   have hN:(ns ++ out ++ [(⟨8,n,[],[],pos (ps.map (·.nm)) nm 0,ins⟩ :Nd)]).length = ns.length + (out ++ [(⟨8,n,[],[],pos (ps.map (·.nm)) nm 0,ins⟩ :Nd)]).length:=by simp only [List.length_append,List.length_cons,List.length_nil];omega
   have wN:IntKind.i64.wrap (((ns.length + (out ++ [(⟨8,n,[],[],pos (ps.map (·.nm)) nm 0,ins⟩ :Nd)]).length:Nat):Int) - 1) = ((ns.length + (out ++ [(⟨8,n,[],[],pos (ps.map (·.nm)) nm 0,ins⟩ :Nd)]).length:Nat):Int) - 1:=qaX (by simp only [List.length_append,List.length_cons,List.length_nil];omega) (by simp only [List.length_append,List.length_cons,List.length_nil];omega)
   rw [hN] at hap post
   generalize ns.length + (out ++ [(⟨8,n,[],[],pos (ps.map (·.nm)) nm 0,ins⟩ :Nd)]).length = N at hap post wN ⊢
   simp only [sA.1,simprocAttr,-Int.reduceNatCast',qcd,qaP,ht,e0,e3,e5,bB,bN,box,hId,hIs,hIw,hVd,hVs,hVw,hTd,hTs,hTw,hlit,f1,f2,f3,f4,f5,hap,n6,l6,f7,q1,q2,q3,wN,hss,hvp,hpp,Bool.or_true,Bool.or_false,Bool.or_self,Bool.not_false] at hw
   subst hw
   exact ⟨H',_,_,_,congrArg some (qcc g0 _ _),post⟩
  by_cases h9:op = 9
  ·subst h9
   have hfin:fin (vs.map (·.nm)) (ps.map (·.nm)) 9 n nm sb ins = ⟨9,n,[],[],pos (ps.map (·.nm)) nm 0,ins⟩:=rfl
   rw [hfin]
   obtain ⟨H',G6,hap,f1,f2,f3,f4,f5,n6,l6,f7,post⟩:=qcL lp hL (⟨9,n,[],[],pos (ps.map (·.nm)) nm 0,ins⟩ :Nd) rfl
   have hN:(ns ++ out ++ [(⟨9,n,[],[],pos (ps.map (·.nm)) nm 0,ins⟩ :Nd)]).length = ns.length + (out ++ [(⟨9,n,[],[],pos (ps.map (·.nm)) nm 0,ins⟩ :Nd)]).length:=by simp only [List.length_append,List.length_cons,List.length_nil];omega
   have wN:IntKind.i64.wrap (((ns.length + (out ++ [(⟨9,n,[],[],pos (ps.map (·.nm)) nm 0,ins⟩ :Nd)]).length:Nat):Int) - 1) = ((ns.length + (out ++ [(⟨9,n,[],[],pos (ps.map (·.nm)) nm 0,ins⟩ :Nd)]).length:Nat):Int) - 1:=qaX (by simp only [List.length_append,List.length_cons,List.length_nil];omega) (by simp only [List.length_append,List.length_cons,List.length_nil];omega)
   rw [hN] at hap post
   generalize ns.length + (out ++ [(⟨9,n,[],[],pos (ps.map (·.nm)) nm 0,ins⟩ :Nd)]).length = N at hap post wN ⊢
   simp only [sA.1,simprocAttr,-Int.reduceNatCast',qcd,qaP,ht,e0,e3,e5,bB,bN,box,hId,hIs,hIw,hVd,hVs,hVw,hTd,hTs,hTw,hlit,f1,f2,f3,f4,f5,hap,n6,l6,f7,q1,q2,q3,wN,hss,hvp,hpp,Bool.or_true,Bool.or_false,Bool.or_self,Bool.not_false] at hw
   subst hw
   exact ⟨H',_,_,_,congrArg some (qcc g0 _ _),post⟩
  by_cases h10:op = 10
  ·subst h10
   have hfin:fin (vs.map (·.nm)) (ps.map (·.nm)) 10 n nm sb ins = ⟨10,n,[],[],pos (ps.map (·.nm)) nm 0,ins⟩:=rfl
   rw [hfin]
   obtain ⟨H',G6,hap,f1,f2,f3,f4,f5,n6,l6,f7,post⟩:=qcL lp hL (⟨10,n,[],[],pos (ps.map (·.nm)) nm 0,ins⟩ :Nd) rfl
   have hN:(ns ++ out ++ [(⟨10,n,[],[],pos (ps.map (·.nm)) nm 0,ins⟩ :Nd)]).length = ns.length + (out ++ [(⟨10,n,[],[],pos (ps.map (·.nm)) nm 0,ins⟩ :Nd)]).length:=by simp only [List.length_append,List.length_cons,List.length_nil];omega
   have wN:IntKind.i64.wrap (((ns.length + (out ++ [(⟨10,n,[],[],pos (ps.map (·.nm)) nm 0,ins⟩ :Nd)]).length:Nat):Int) - 1) = ((ns.length + (out ++ [(⟨10,n,[],[],pos (ps.map (·.nm)) nm 0,ins⟩ :Nd)]).length:Nat):Int) - 1:=qaX (by simp only [List.length_append,List.length_cons,List.length_nil];omega) (by simp only [List.length_append,List.length_cons,List.length_nil];omega)
   rw [hN] at hap post
   generalize ns.length + (out ++ [(⟨10,n,[],[],pos (ps.map (·.nm)) nm 0,ins⟩ :Nd)]).length = N at hap post wN ⊢
   simp only [sA.1,simprocAttr,-Int.reduceNatCast',qcd,qaP,ht,e0,e3,e5,bB,bN,box,hId,hIs,hIw,hVd,hVs,hVw,hTd,hTs,hTw,hlit,f1,f2,f3,f4,f5,hap,n6,l6,f7,q1,q2,q3,wN,hss,hvp,hpp,Bool.or_true,Bool.or_false,Bool.or_self,Bool.not_false] at hw
   subst hw
   exact ⟨H',_,_,_,congrArg some (qcc g0 _ _),post⟩
  have z3:(op == 3) = false:=beq_eq_false_iff_ne.2 h3
  have z4:(op == 4) = false:=beq_eq_false_iff_ne.2 h4
  have z5:(op == 5) = false:=beq_eq_false_iff_ne.2 h5
  have z7:(op == 7) = false:=beq_eq_false_iff_ne.2 h7
  have z8:(op == 8) = false:=beq_eq_false_iff_ne.2 h8
  have z9:(op == 9) = false:=beq_eq_false_iff_ne.2 h9
  have z10:(op == 10) = false:=beq_eq_false_iff_ne.2 h10
  have hfin:fin (vs.map (·.nm)) (ps.map (·.nm)) op n nm sb ins = ⟨op,n,[],[],0,ins⟩:=by simp only [fin,z3,z4,z5,z7,z8,z9,z10,cond_false]
  rw [hfin]
  obtain ⟨H',G6,hap,f1,f2,f3,f4,f5,n6,l6,f7,post⟩:=qcL lp hL (⟨op,n,[],[],0,ins⟩ :Nd) rfl
  have hGs:G.set (g.length + 1) (.cells [.int .i64 op,.int .i64 n,.str [],.str [],.int .i64 0,I]) = G:=by
   apply List.ext_getElem?
   intro i
   by_cases e:g.length + 1 = i
   ·subst e
    rw [f1]
    exact bN.symm
   ·rw [List.getElem?_set_ne e]
  have f4:=fun Y=>f4 (.cells [.int .i64 op,.int .i64 n,.str [],.str [],.int .i64 0,I]) Y
  have f5:=fun Y=>f5 (.cells [.int .i64 op,.int .i64 n,.str [],.str [],.int .i64 0,I]) Y
  simp only [hGs] at hap f4 f5
  have hN:(ns ++ out ++ [(⟨op,n,[],[],0,ins⟩ :Nd)]).length = ns.length + (out ++ [(⟨op,n,[],[],0,ins⟩ :Nd)]).length:=by simp only [List.length_append,List.length_cons,List.length_nil];omega
  have wN:IntKind.i64.wrap (((ns.length + (out ++ [(⟨op,n,[],[],0,ins⟩ :Nd)]).length:Nat):Int) - 1) = ((ns.length + (out ++ [(⟨op,n,[],[],0,ins⟩ :Nd)]).length:Nat):Int) - 1:=qaX (by simp only [List.length_append,List.length_cons,List.length_nil];omega) (by simp only [List.length_append,List.length_cons,List.length_nil];omega)
  rw [hN] at hap post
  generalize ns.length + (out ++ [(⟨op,n,[],[],0,ins⟩ :Nd)]).length = N at hap post wN ⊢
  simp only [sA.1,simprocAttr,-Int.reduceNatCast',qcd,qaP,ht,e0,e3,e5,bB,bN,box,hId,hIs,hIw,hVd,hVs,hVw,hTd,hTs,hTw,hlit,f1,f2,f3,f4,f5,hap,n6,l6,f7,q1,q2,q3,wN,hss,hvp,hpp,Bool.or_true,Bool.or_false,Bool.or_self,Bool.not_false,z3,z4,z5,z7,z8,z9,z10] at hw
  subst hw
  exact ⟨H',_,_,_,congrArg some (qcc g0 _ _),post⟩
section
variable {vs:List Vr} {ps:List Pt} {V:qa} {h:List qb}
end
theorem qws:∀(d:Nat),d ≤ 40→∀(e:Exl) (room:Int),-1 ≤ room→room ≤ 600→∀h,∃r:Int,Wd (.fn 44 [] []) [exV e,.int .i64 (d:Nat),.int .i64 room] h = some (.ret (.int .i64 r),h,false)∧-1 ≤ r∧r ≤ 600∧(0 ≤ r→Fit d e∧r + sz d e ≤ room):=by
 intro d
 induction d with
 | zero=>
  rintro _ ⟨op,n,nm,sb,aS⟩ room h1 h2 h
  have z0:(((0:Nat):Int) == 0) = true:=by kernel_rfl
  refine ⟨-1,?_,by omega,by omega,fun h=>by omega⟩
  rw [qN,qr rfl (show T.get 44 = some c44 by kernel_rfl)]
  simp only [sB.1,c44,simprocAttr,-Int.reduceNatCast',z0,Bool.true_or]
 | succ d ih=>
  rintro hd ⟨op,n,nm,sb,aS⟩ room h1 h2 h
  have z0:(((d + 1:Nat):Int) == 0) = false:=by rw [beq_eq_false_iff_ne];omega
  obtain ⟨G,hG⟩ :∃G,G = h ++ [qb.cells [.int .i64 op,.int .i64 n,.str nm,.str sb,.lst (aS.map exV) .no]]:=⟨_,rfl⟩
  have hbx:G[h.length]? = some (.cells [.int .i64 op,.int .i64 n,.str nm,.str sb,.lst (aS.map exV) .no]):=by rw [hG,qQ];rfl
  have hlt:h.length < G.length:=by rw [hG];simp
  have htk:G.take h.length = h:=by rw [hG];simp
  rw [qN]
  generalize hw:Wd _ _ h = w
  rw [qr rfl (show T.get 44 = some c44 by kernel_rfl)] at hw
  cases hc:(ilt room 1 || ilt 20 (aS.length:Int) || ilt 100 (nm.length:Int) || ilt 100 (sb.length:Int)) with
  | true=>
   simp only [sB.1,c44,simprocAttr,-Int.reduceNatCast',z0,hc,Bool.false_or,List.length_map] at hw
   subst hw
   exact ⟨-1,rfl,by omega,by omega,fun h=>by omega⟩
  | false=>
   have hroom:1 ≤ room∧aS.length ≤ 20:=by
    simp only [Bool.or_eq_false_iff,qf,decide_eq_false_iff_not] at hc
    omega
   have loop:∀q st,(∃(tt:List qa) (i:Nat) (rm:Int),st = ⟨tt,G,false⟩∧tt.length = 55∧lkp tt 1 = .int .i64 (d + 1:Nat)∧lkp tt 2 = .int .i64 rm∧lkp tt 3 = .ptr h.length 0∧lkp tt 7 = .int .i64 (i:Nat)∧i + q = aS.length∧-1 ≤ rm∧rm ≤ 600∧(0 ≤ rm→(∀j (hj:j < aS.length),j < i→Fit d aS[j])∧rm + (((aS.take i).map (sz d)).sum:Nat) ≤ room - 1))→
     ∃x st',qm h.length Wd (.loop qjo) st = some (x,st')∧(x = .exit 0∧∃(tt:List qa) (rm:Int),st' = ⟨tt,G,false⟩∧tt.length = 55∧lkp tt 2 = .int .i64 rm∧-1 ≤ rm∧rm ≤ 600∧(0 ≤ rm→(∀j (hj:j < aS.length),Fit d aS[j])∧rm + ((aS.map (sz d)).sum:Nat) ≤ room - 1)):=by
    refine qD _ _ ?_
    rintro q st ⟨tt,i,rm,rfl,ht,e1,e2,e3,e7,hiq,hr1,hr2,hfit⟩
    generalize he:qm h.length Wd qjo _ = r
    rcases Nat.lt_or_ge i aS.length with hi | hi
    ·have c1:ilt (i:Int) (aS.length:Int) = true:=by rw [qf];simp;omega
     by_cases hrm:0 ≤ rm
     ·have c2:ile 0 rm = true:=by rw [qaw];simpa using hrm
      have w:=qab (n:=i) (by omega)
      have wd:IntKind.i64.wrap (((d + 1:Nat):Int) - 1) = ((d:Nat):Int):=by rw [qaX (by omega) (by omega)];omega
      obtain ⟨r',hr',b1,b2,b3⟩:=ih (by omega) aS[i] rm hr1 hr2 G
      have hg:(aS.map exV)[i]? = some (exV aS[i]):=by rw [List.getElem?_map,List.getElem?_eq_getElem hi];rfl
      have hfit2:0 ≤ r'→(∀j (hj:j < aS.length),j < i + 1→Fit d aS[j])∧r' + (((aS.take (i + 1)).map (sz d)).sum:Nat) ≤ room - 1:=fun h0=>by
       refine ⟨fun j hj hji=>?_,?_⟩
       ·by_cases e:j = i
        ·subst e
         exact (b3 h0).1
        ·exact (hfit hrm).1 j hj (by omega)
       ·have:=(b3 h0).2
        have:=(hfit hrm).2
        rw [List.take_succ_eq_append_getElem hi,List.map_append,List.sum_append]
        simp only [List.map_cons,List.map_nil,List.sum_cons,List.sum_nil]
        omega
      generalize aS[i] = y at hr' hg
      obtain ⟨op',n',nm',sb',as'⟩:=y
      rw [qN] at hr' hg
      have hx:qav 5 (.lst (aS.map exV) .no) (.int .i64 (i:Nat)) = some (.iptr [.int .i64 op',.int .i64 n',.str nm',.str sb',.lst (as'.map exV) .no] 0):=qaM hg rfl
      simp only [sB.1,qjo,simprocAttr,-Int.reduceNatCast',ht,e1,e2,e3,e7,c1,c2,w,wd,hx,hbx,hr',List.length_map] at he
      subst he
      refine .inl ⟨_,q - 1,rfl,by omega,_,i + 1,r',rfl,by simp only [qc,ht],?_,?_,?_,?_,by omega,b1,b2,hfit2⟩
      ·simp only [sB.1,simprocAttr,-Int.reduceNatCast',ht,e1]
      ·simp only [sB.1,simprocAttr,-Int.reduceNatCast',ht]
      ·simp only [sB.1,simprocAttr,-Int.reduceNatCast',ht,e3]
      ·simp only [sB.1,simprocAttr,-Int.reduceNatCast',ht]
     ·have c2:ile 0 rm = false:=by rw [qaw];simpa using hrm
      simp only [sB.1,qjo,simprocAttr,-Int.reduceNatCast',ht,e1,e2,e3,e7,c1,c2,hbx,List.length_map] at he
      subst he
      exact .inr ⟨_,_,rfl,by simp,rfl,_,rm,rfl,by simp only [qc,ht],by simp only [sB.1,simprocAttr,-Int.reduceNatCast',ht,e2],hr1,hr2,fun h0=>absurd h0 hrm⟩
    ·have c1:ilt (i:Int) (aS.length:Int) = false:=by rw [qf];simp;omega
     simp only [sB.1,qjo,simprocAttr,-Int.reduceNatCast',ht,e1,e2,e3,e7,c1,hbx,List.length_map] at he
     subst he
     exact .inr ⟨_,_,rfl,by simp,rfl,_,rm,rfl,by simp only [qc,ht],by simp only [sB.1,simprocAttr,-Int.reduceNatCast',ht,e2],hr1,hr2,fun h0=>⟨fun j hj=>(hfit h0).1 j hj (by omega),by have:=(hfit h0).2;rw [List.take_of_length_le hi] at this;exact this⟩⟩
   have wr:IntKind.i64.wrap (room - 1) = room - 1:=qaX (by omega) (by omega)
   simp only [sB.1,c44,simprocAttr,-Int.reduceNatCast',z0,hc,Bool.false_or,List.length_map,wr] at hw
   generalize hr:qm h.length Wd (.loop qjo) _ = r at hw
   obtain ⟨x,st',rfl,rfl,tt,rm,rfl,ht,e2,b1,b2,b3⟩:=qaB hr (loop aS.length _ ⟨_,0,room - 1,by rw [hG],by simp only [sB.1,simprocAttr,-Int.reduceNatCast'],by simp only [sB.1,simprocAttr,-Int.reduceNatCast'],by simp only [sB.1,simprocAttr,-Int.reduceNatCast'],by simp only [sB.1,simprocAttr,-Int.reduceNatCast'],by simp only [sB.1,simprocAttr,-Int.reduceNatCast',Int.natCast_zero],by omega,by omega,by omega,fun _=>⟨fun j _ h=>absurd h (by omega),by simp⟩⟩)
   simp only [sB.1,simprocAttr,-Int.reduceNatCast',ht,e2] at hw
   subst hw
   refine ⟨rm,congrArg some (qH htk rfl),b1,b2,fun h0=>⟨⟨hroom.2,fun a ha=>?_⟩,?_⟩⟩
   ·obtain ⟨j,hj,rfl⟩:=List.getElem_of_mem ha
    exact (b3 h0).1 j hj
   ·have:=(b3 h0).2
    rw [sz]
    omega
theorem qt9 (e:Exl) (h:List qb):∃r:Int,Wd (.fn 20 [] []) [.agg [.lst [qCX e] .full,.str []]] h = some (.ret (.int .i64 r),h,false)∧(r = 0∨(r = 1∧Fit 40 e∧sz 40 e ≤ 600)):=by
 have w600:IntKind.i64.wrap (600 - 1) = 599:=by kernel_rfl
 have x599:IntKind.i64.wrap 599 = 599:=by kernel_rfl
 have g1:ilt 60 1 = false:=Eq.trans rfl rfl
 have g2:ilt 100 0 = false:=Eq.trans rfl rfl
 have g3:ilt 300 0 = false:=Eq.trans rfl rfl
 have g4:ilt 100 1 = false:=Eq.trans rfl rfl
 have g5:ile 0 600 = true:=Eq.trans rfl rfl
 have g6:ile 0 599 = true:=Eq.trans rfl rfl
 have c40:((40:Nat):Int) = 40:=Eq.trans rfl rfl
 obtain ⟨op,n,nm,sb,aS⟩:=e
 rw [qCX,qN]
 obtain ⟨r,hr,r1,r2,r3⟩:=qws 40 (by omega) (.mk op n nm sb aS) 599 (by omega) (by omega) (h ++ [.cells [.lst [.agg [.str [],.bool false,.lst [] .full,.lst [] .full,.lst [] .full,.lst [.agg [.int .i64 op,.int .i64 n,.str nm,.str sb,.lst (aS.map exV) .no]] .full,.lst [] .full,.lst [] .full,.lst [] .full,.int .i64 0,.lst [] .full,.lst [] .full,.lst [] .full,.lst [] .full]] .full,.str []],.cells [.str [],.bool false,.lst [] .full,.lst [] .full,.lst [] .full,.lst [.agg [.int .i64 op,.int .i64 n,.str nm,.str sb,.lst (aS.map exV) .no]] .full,.lst [] .full,.lst [] .full,.lst [] .full,.int .i64 0,.lst [] .full,.lst [] .full,.lst [] .full,.lst [] .full]])
 rw [qN,c40] at hr
 have hp:=fun r g=>qqC r g
 have hs:=fun r g=>qt8 r g
 have i1:∀cs:List qa,qav 14 (.lst [.agg cs] .full) (.int .i64 0) = if cs.length = 14 then some (.iptr cs 0) else none:=fun cs=>rfl
 have i2:∀cs:List qa,qav 5 (.lst [.agg cs] .full) (.int .i64 0) = if cs.length = 5 then some (.iptr cs 0) else none:=fun cs=>rfl
 have l1:∀x:qa,[x].length = 1:=fun _=>rfl
 generalize hw:Wd _ _ h = w
 rw [qr rfl (show T.get 20 = some c20 by kernel_rfl)] at hw
 by_cases h0:0 ≤ r
 ·have c0:ile 0 r = true:=by rw [qaw];simpa using h0
  have c1:ilt r 0 = false:=by rw [qf];simpa using h0
  simp only [sA.1,c20,qwW,qwX,qwY,qwZ,qw0,qZ,simprocAttr,-Int.reduceNatCast',w600,x599,g1,g2,g3,g4,g5,g6,qi (Nat.le_succ _),Bool.not_true,z00,z01,z11,cc1,cc0,w01,w1,qzN,l1,i1,i2,hp,hs,hr,c0,c1] at hw
  subst hw
  exact ⟨1,rfl,.inr ⟨rfl,(r3 h0).1,by have:=(r3 h0).2;omega⟩⟩
 ·have c0:ile 0 r = false:=by rw [qaw];simpa using h0
  have c1:ilt r 0 = true:=by rw [qf];simpa using h0
  simp only [sA.1,c20,qwW,qwX,qwY,qwZ,qw0,qZ,simprocAttr,-Int.reduceNatCast',w600,x599,g1,g2,g3,g4,g5,g6,qi (Nat.le_succ _),Bool.not_true,z00,z01,z11,cc1,cc0,w01,w1,qzN,l1,i1,i2,hp,hs,hr,c0,c1] at hw
  subst hw
  exact ⟨0,rfl,.inl rfl⟩
abbrev Res:=Val×Int
def qc0:Val:=.mk 0 0 [] []
def qgG (n:Int):Res:=(.mk 0 n [] [],0)
def qdv (b:Bool):Res:=(.mk 1 (bif b then 1 else 0) [] [],0)
def qbk (e:Int):Res:=(qc0,e)
def qa6 (v:Val):Res:=bif qE 3 v then (v,0) else qbk 1
def RAt (H:Nat→Option qb) (r:Res) (rs:List qa):Prop:=∃cs,rs = cs ++ [.int .i64 r.2]∧At H r.1 cs
theorem At.leaf (H:Nat→Option qb) (k n:Int) (s:Str):At H (.mk k n s []) [.int .i64 k,.int .i64 n,.str s,.lst [] .full]:=.lst k n s [] [] .full (.inr rfl) rfl fun i h=>by simp at h
theorem RAt.whole (H:Nat→Option qb) (n:Int):RAt H (qgG n) [.int .i64 0,.int .i64 n,.str [],.lst [] .full,.int .i64 0]:=⟨_,rfl,At.leaf H 0 n []⟩
theorem RAt.wrong (H:Nat→Option qb) (e:Int):RAt H (qbk e) [.int .i64 0,.int .i64 0,.str [],.lst [] .full,.int .i64 e]:=⟨_,rfl,At.leaf H 0 0 []⟩
theorem RAt.truth (H:Nat→Option qb) (b:Bool):RAt H (qdv b) [.int .i64 1,.int .i64 (bif b then 1 else 0),.str [],.lst [] .full,.int .i64 0]:=⟨_,rfl,At.leaf H 1 _ []⟩
theorem RAt.mono {H H':Nat→Option qb} (hs:Sub H H') {r:Res} {rs:List qa} (h:RAt H r rs):RAt H' r rs:=by
 obtain ⟨cs,e,h⟩:=h
 exact ⟨cs,e,h.mono hs⟩
theorem RAt.cells {H:Nat→Option qb} {r:Res} {rs:List qa} (h:RAt H r rs):∃k n s l L,r.1 = .mk k n s l∧rs = [.int .i64 k,.int .i64 n,.str s,L,.int .i64 r.2]∧LP H l L:=by
 obtain ⟨v,e⟩:=r
 obtain ⟨cs,rfl,h⟩:=h
 obtain ⟨k,n,s,l⟩:=v
 obtain ⟨L,rfl,hL⟩:=h.lp
 exact ⟨k,n,s,l,L,rfl,rfl,hL⟩
section
variable {g:List qb}
theorem qkU (b:Bool):Wd (.fn 51 [] []) [.bool b] g = some (.ret (.agg [.int .i64 1,.int .i64 (bif b then 1 else 0),.str [],.lst [] .full,.int .i64 0]),g,false):=by
 rw [qr rfl (show T.get 51 = some c51 by kernel_rfl)]
 cases b <;> simp only [sB.1,c51,simprocAttr,-Int.reduceNatCast',qaK,cond_true,cond_false]
theorem qc2 {H:Nat→Option qb} {v:Val} {cs:List qa} (hv:At H v cs) (hg:Cov H g):∃rs,Wd (.fn 52 [] []) [.agg cs] g = some (.ret (.agg rs),g,false)∧RAt H (qa6 v) rs:=by
 have h1:=qdQ hv (g ++ [.cells cs,.cells [.int .i64 0,.int .i64 0,.str [],.lst [] .full,.int .i64 0]]) (hg.more _)
 have h2:∀h,Wd (.fn 55 [] []) [.int .i64 1] h = some (.ret (rI 0 1),h,false):=fun h=>qan 1
 obtain ⟨k,n,s,l⟩:=v
 obtain ⟨L,rfl,hL⟩:=hv.lp
 obtain ⟨hLd,hLs,hLw,hLl⟩:=hL.facts
 have hlow:=hL.low hg
 have hb1:=qrB g 1
 rw [qa6]
 cases hr:qE 3 (.mk k n s l) with
 | true=>
  rw [hr] at h1
  refine ⟨[.int .i64 k,.int .i64 n,.str s,L,.int .i64 0],?_,⟨_,rfl,hv⟩⟩
  rw [qr rfl (show T.get 52 = some c52 by kernel_rfl)]
  simp only [sB.1,c52,simprocAttr,-Int.reduceNatCast',qaK,hLd,hLs,hLw,hlow,hb1,h1,splice,Bool.true_or]
 | false=>
  rw [hr] at h1
  refine ⟨_,?_,RAt.wrong H 1⟩
  rw [qr rfl (show T.get 52 = some c52 by kernel_rfl)]
  simp only [sB.1,c52,simprocAttr,-Int.reduceNatCast',qaK,hLd,hLs,hLw,hlow,h1,h2,rI,splice]
end
def isI:Val→Bool
 | .mk k _ _ _=>k == 0
def qeX:Val→Int
 | .mk _ n _ _=>n
def qAr (l:List Val):Res:=bif l.all isI then (bif qiK (qiv (l.map qeX)) then qgG (qiv (l.map qeX)) else qbk 2) else qbk 1
theorem qyk {H:Nat→Option qb} {l:List Val} {L:qa} (hL:LP H l L) (hs:qq2 (l.map qeX)) (hl:l.length ≤ 200) (hr:∀v ∈ l,qE 3 v = true) (h:List qb) (hg:Cov H h):∃rs,Wd (.fn 80 [] []) [L] h = some (.ret (.agg rs),h,false)∧RAt H (qAr l) rs:=by
 obtain ⟨hLd,hLs,hLw,hLl⟩:=hL.facts
 have ww:∀h,Wd (.fn 55 [] []) [.int .i64 1] h = some (.ret (rI 0 1),h,false):=fun h=>qan 1
 have loop:∀k st,(∃tt g i S,st = ⟨tt,g,false⟩∧tt.length = 53∧g.take h.length = h∧h.length < g.length∧g[h.length]? = some (.cells [.int .i64 0,.int .i64 0,.str [],.lst [] .full,.int .i64 0])∧lkp tt 2 = .ptr h.length 0∧lkp tt 9 = L∧lkp tt 10 = .int .i64 (l.length:Nat)∧lkp tt 11 = .int .i64 (i:Nat)∧lkp tt 3 = .int .u64 (hiS S)∧lkp tt 4 = .int .u64 (loS S)∧i + k = l.length∧S + qiv ((l.drop i).map qeX) = qiv (l.map qeX)∧l.all isI = (l.drop i).all isI)→
   ∃x st',qm h.length Wd (.loop qjt) st = some (x,st')∧(∃tt g,st' = ⟨tt,g,false⟩∧tt.length = 53∧g.take h.length = h∧h.length < g.length∧lkp tt 2 = .ptr h.length 0∧((x = .exit 0∧l.all isI = true∧g[h.length]? = some (.cells [.int .i64 0,.int .i64 0,.str [],.lst [] .full,.int .i64 0])∧lkp tt 3 = .int .u64 (hiS (qiv (l.map qeX)))∧lkp tt 4 = .int .u64 (loS (qiv (l.map qeX))))∨(x = .ret∧l.all isI = false∧g[h.length]? = some (.cells [.int .i64 0,.int .i64 0,.str [],.lst [] .full,.int .i64 1])))):=by
  refine qD _ _ ?_
  rintro k st ⟨tt,g,i,S,rfl,ht,hgt,hlt,hb,e2,e9,e10,e11,e3,e4,hik,hS,hall⟩
  generalize he:qm h.length Wd qjt _ = r
  have hgg:Cov H g:=fun j x hx=>by
   have h1:=hg j x hx
   have h2:(g.take h.length)[j]? = some x:=by rw [hgt];exact h1
   rw [List.getElem?_take] at h2
   split at h2
   ·exact h2
   ·cases h2
  rcases Nat.lt_or_ge i l.length with hi | hi
  ·have c1E:ilt (i:Int) (l.length:Int) = true:=by rw [qf];simp;omega
   have w:=q9 (n:=i) (by omega)
   obtain ⟨pp,cs,hx,hpd,_,hld,hvi⟩:=hL.item hi hgg
   have hb1:Nat.ble h.length g.length = true:=qi (by omega)
   have hpw:∀i t,qx pp i t = t:=fun i t=>by rw [←hpd];exact qaf _ _ _
   have hri:=hr _ (List.getElem_mem hi)
   rw [List.drop_eq_getElem_cons hi] at hS hall
   rw [List.map_cons,qiv] at hS
   rw [List.all_cons] at hall
   have hsm:=hs _ (List.mem_map_of_mem (f:=qeX) (List.getElem_mem hi))
   have hR:=qdQ hvi (g ++ [.cells cs]) (hgg.more _)
   rw [hri] at hR
   generalize l[i] = v at *
   obtain ⟨K,N,Z,zs⟩:=v
   obtain ⟨L',rfl,hL'⟩:=hvi.lp
   obtain ⟨d1,s1,w1,n1⟩:=hL'.facts
   cases hk:(K == 0) with
   | true=>
    have hK:K = 0:=by simpa using hk
    subst hK
    obtain ⟨c,hh⟩:=qwD (h:=g ++ [.cells [.int .i64 0,.int .i64 N,.str Z,L']]) S hsm
    simp only [qeX] at hS hh
    simp only [sB.1,qjt,simprocAttr,-Int.reduceNatCast',ht,e2,e9,e10,e11,e3,e4,c1E,hLd,hLw,hx,hpd,hpw,hld,w,hR,d1,s1,w1,qw5,hh,qiR,qaK,hb1,Bool.true_or] at he
    subst he
    exact .inl ⟨_,k - 1,rfl,by omega,_,_,i + 1,S + N,rfl,by simp only [qc,ht],by rw [List.take_append_of_le_length (by omega),hgt],by simp only [List.length_append];omega,by rw [List.getElem?_append_left hlt,hb],by simp only [sB.1,simprocAttr,-Int.reduceNatCast',ht,e2],by simp only [sB.1,simprocAttr,-Int.reduceNatCast',ht,e9,hLd,hLw],by simp only [sB.1,simprocAttr,-Int.reduceNatCast',ht,e10],by simp only [sB.1,simprocAttr,-Int.reduceNatCast',ht],by simp only [sB.1,simprocAttr,-Int.reduceNatCast',ht],by simp only [sB.1,simprocAttr,-Int.reduceNatCast',ht],by omega,by omega,by rw [hall];rfl⟩
   | false=>
    simp only [sB.1,qjt,simprocAttr,-Int.reduceNatCast',ht,e2,e9,e10,e11,e3,e4,c1E,hLd,hLw,hx,hpd,hpw,hld,w,hR,d1,s1,w1,hk,ww,rI,hlt,hb,qaK,hb1,Bool.true_or] at he
    subst he
    refine .inr ⟨_,_,rfl,by simp,_,_,rfl,by simp only [qc,ht],?_,by simp;omega,by simp only [sB.1,simprocAttr,-Int.reduceNatCast',ht,e2],.inr ⟨rfl,by rw [hall,isI,hk];rfl,?_⟩⟩
    ·rw [List.take_append_of_le_length (by simp;omega),List.take_set_of_le (by omega),hgt]
    ·rw [List.getElem?_append_left (by simp;omega),List.getElem?_set_self hlt]
  ·have c1E:ilt (i:Int) (l.length:Int) = false:=by rw [qf];simp;omega
   simp only [sB.1,qjt,simprocAttr,-Int.reduceNatCast',ht,e10,e11,c1E] at he
   subst he
   rw [List.drop_eq_nil_of_le hi,List.map_nil,qiv,Int.add_zero] at hS
   rw [List.drop_eq_nil_of_le hi,List.all_nil] at hall
   subst hS
   exact .inr ⟨_,_,rfl,by simp,_,_,rfl,by simp only [qc,ht],hgt,hlt,by simp only [sB.1,simprocAttr,-Int.reduceNatCast',ht,e2],.inl ⟨rfl,hall,hb,by simp only [sB.1,simprocAttr,-Int.reduceNatCast',ht,e3],by simp only [sB.1,simprocAttr,-Int.reduceNatCast',ht,e4]⟩⟩
 have hT:-9223372036854775808 * 200 ≤ qiv (l.map qeX)∧qiv (l.map qeX) ≤ 9223372036854775808 * 200:=by
  obtain ⟨h1,h2⟩:=qiw hs
  rw [List.length_map] at h1 h2
  omega
 obtain ⟨f1,f2⟩:=qug hT
 have d0:loS 0 = 0:=by kernel_rfl
 have d1:hiS 0 = 0:=by kernel_rfl
 rw [qAr]
 generalize hw:Wd _ _ h = w
 rw [qr rfl (show T.get 80 = some c80 by kernel_rfl)] at hw
 simp only [sB.1,c80,simprocAttr,-Int.reduceNatCast',hLd,hLw,hLl] at hw
 generalize hr:qm h.length Wd (.loop qjt) _ = r at hw
 obtain ⟨x,st',rfl,tt,g,rfl,ht,hgt,hlt,e2,⟨rfl,ha,hb,e3,e4⟩ | ⟨rfl,ha,hb⟩⟩:=qaB hr (loop l.length _ ⟨_,_,0,0,rfl,by simp only [sB.1,simprocAttr,-Int.reduceNatCast'],by simp,by simp,by simp,by simp only [sB.1,simprocAttr,-Int.reduceNatCast'],by simp only [sB.1,simprocAttr,-Int.reduceNatCast',hLd],by simp only [sB.1,simprocAttr,-Int.reduceNatCast'],by simp only [sB.1,simprocAttr,-Int.reduceNatCast',Int.natCast_zero],by simp only [sB.1,simprocAttr,-Int.reduceNatCast',d1],by simp only [sB.1,simprocAttr,-Int.reduceNatCast',d0],by omega,by simp,rfl⟩)
 ·have htk:∀b,(g.set h.length b).take h.length = h:=fun b=>by rw [List.take_set_of_le (by omega),hgt]
  rw [ha]
  cases hf:qiK (qiv (l.map qeX)) with
  | true=>
   rw [hf] at f1 f2
   have f2:=f2 rfl
   rw [f2] at f1
   simp only [sB.1,simprocAttr,-Int.reduceNatCast',ht,e2,e3,e4,f1,f2,qiR,qaK,qaC,qan,hb,hgt,hlt,rI] at hw
   subst hw
   exact ⟨_,congrArg some (qH (htk _) rfl),RAt.whole H _⟩
  | false=>
   rw [hf] at f1
   simp only [sB.1,simprocAttr,-Int.reduceNatCast',ht,e2,e3,e4,f1,qiR,qaK,qaC,qan,hb,hgt,hlt,rI] at hw
   subst hw
   exact ⟨_,congrArg some (qH (htk _) rfl),RAt.wrong H _⟩
 ·rw [ha]
  simp only [sB.1,simprocAttr,-Int.reduceNatCast',ht,e2,hb,hlt] at hw
  subst hw
  exact ⟨_,congrArg some (qH hgt rfl),RAt.wrong H _⟩
end Go.Proofs.YtnibchoenjmmjaaGreatDoor.AE
