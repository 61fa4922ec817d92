/- A part of the proof: the abstract executor and what goes through it (part 25). No condition. -/
import Derived.Test.YtfmkpcgpkdnioaaGreatDoorMq24
set_option maxRecDepth 100000
namespace Go.Proofs.YtfmkpcgpkdnioaaGreatDoor.AE
open Go.AE
theorem rows_cat {H:Nat→Option ABox} {ms:List Nd} {qs:List (List AVal)} (hq:Rows H ms qs):∀{ns:List Nd} {rs:List (List AVal)},Rows H ns rs→Rows H (ns ++ ms) (rs ++ qs)
 | [],[],_=>hq
 | _ :: _,_ :: _,⟨h1,h⟩=>⟨h1,rows_cat hq h⟩
theorem rows_ok {H:Nat→Option ABox} {ns:List Nd} {rs:List (List AVal)} {ms:List Nd} {qs:List (List AVal)} (h:Rows H ns rs) (hq:Rows H ms qs) (hl:ns.length + ms.length ≤ 100000):appOK 6 (rs.map .agg) (qs.map .agg) = true:=by
 have h1:=h.length
 have h2:=hq.length
 simp only [appOK,Bool.and_eq_true,decide_eq_true_eq,List.length_map]
 refine ⟨⟨by simp only [limit];omega,?_⟩,?_⟩
 ·rw [List.all_eq_true]
  intro v hv
  obtain ⟨r,hr,rfl⟩:=List.mem_map.1 hv
  obtain ⟨a,b⟩:=hq.six r hr
  simp [AVal.cells,a]
  exact fun c hc=>(b c hc).2
 ·cases rs with
  | nil=>rfl
  | cons r rs=>
   have:=(h.six r List.mem_cons_self).1
   simp [AVal.cells,this]
def RefLow (vs:List Vr) (ps:List Pt) (d:Nat) (F:Flag):Prop:=∀(e:Exl),(∃k,Fit k e)→dOK d e = true→∀(H:Nat→Option ABox) (g:List ABox) (b:Nat),b + sz d e ≤ 10000→Cov H g→
    ∃H' g' rs,Wd (.fn 10 [] []) [exV e,.lst (vs.map vrV) .no,.lst (ps.map ptV) .no,.int .i64 (b:Nat)] g = some (.ret (.lst (rs.map .agg) F),g',false)∧g.length ≤ g'.length∧(∀i,i < g.length→g'[i]? = g[i]?)∧(∀i,i < g.length→H' i = H i)∧Cov H' g'∧Rows H' (low (vs.map (·.nm)) (ps.map (·.nm)) d b e) rs
structure Lq (vs:List Vr) (ps:List Pt) (d:Nat) (op n:Int) (nm sb:Str) (aS:List Exl) (b:Nat) (g:List ABox) (Hg:Nat→Option ABox) (i:Nat) (H:Nat→Option ABox) (G:List ABox) (out:List Nd) (rs:List (List AVal)) (ins:List Int) (I:AVal) (j:Nat):Prop where
 cov:Cov H G
 b2:g.length + 2 ≤ G.length
 bB:G[g.length]? = some (.cells [.int .i64 op,.int .i64 n,.str nm,.str sb,.lst (aS.map exV) .no])
 bN:G[g.length + 1]? = some (.cells [.int .i64 op,.int .i64 n,.str [],.str [],.int .i64 0,I])
 hI:(ins = []∧I = .lst [] .full)∨(I = .sl j 0 ins.length ins.length 1∧ins ≠ []∧G[j]? = some (.cells (ins.map (.int .i64)))∧g.length + 2 ≤ j∧H j = none)
 hB:H (g.length + 1) = none
 keep:∀i,i < g.length→G[i]? = g[i]?
 told:∀i,i < g.length→H i = Hg i
 rows:Rows H out rs
 gat:gather (low (vs.map (·.nm)) (ps.map (·.nm)) d) b (aS.drop i) out ins = gather (low (vs.map (·.nm)) (ps.map (·.nm)) d) b aS [] []
 inl:ins.length = i
 outl:i ≤ out.length
 len:b + out.length + ((aS.drop i).map (sz d)).sum + 1 ≤ 10000
theorem Lq.facts {vs:List Vr} {ps:List Pt} {d:Nat} {op n:Int} {nm sb:Str} {aS:List Exl} {b:Nat} {g:List ABox} {Hg:Nat→Option ABox} {i:Nat} {H:Nat→Option ABox} {G:List ABox} {out:List Nd} {rs:List (List AVal)} {ins:List Int} {I:AVal} {j:Nat} (h:Lq vs ps d op n nm sb aS b g Hg i H G out rs ins I j):I.dim = I∧I.storable = true∧∀i t,drainW I i t = t:=by
 rcases h.hI with ⟨_,rfl⟩ | ⟨rfl,_⟩ <;> exact ⟨rfl,rfl,fun _ _=>rfl⟩
theorem low_ne {vn pn:List Str}:∀{d:Nat} {e:Exl} (b:Nat),dOK d e = true→1 ≤ (low vn pn d b e).length
 | 0,_,_,h=>by rw [dOK] at h;cases h
 | d + 1,.mk op n nm sb aS,b,_=>by rw [low];simp
section
variable {vs:List Vr} {ps:List Pt} {d:Nat} {F:Flag}
theorem lq_next {op n:Int} {nm sb:Str} {aS:List Exl} {b:Nat} {g:List ABox} {Hg:Nat→Option ABox} {i:Nat} {H:Nat→Option ABox} {G:List ABox} {out:List Nd} {rs:List (List AVal)} {ins:List Int} {I:AVal} {j:Nat} (h:Lq vs ps d op n nm sb aS b g Hg i H G out rs ins I j) (hA:RefLow vs ps d F) (hi:i < aS.length) (hl:aS.length ≤ 20) (hf:∀a ∈ aS,∃k,Fit k a) (hD:∀a ∈ aS,dOK d a = true) :
  ∃(x:Int) (H2:Nat→Option ABox) (G2:List ABox) (qs:List (List AVal)) (out2:List Nd) (G3:List ABox),Wd (.fn 10 [] []) [exV aS[i],.lst (vs.map vrV) .no,.lst (ps.map ptV) .no,.int .i64 ((b + rs.length:Nat):Int)] G = some (.ret (.lst (qs.map .agg) F),G2,false)∧
   appOK 6 (rs.map .agg) (qs.map .agg) = true∧(qs.map AVal.agg).isEmpty = false∧x = ((b + (rs ++ qs).length:Nat):Int) - 1∧b + (rs ++ qs).length ≤ 10000∧g.length + 2 ≤ G2.length∧
   G2[g.length + 1]? = some (.cells [.int .i64 op,.int .i64 n,.str [],.str [],.int .i64 0,I])∧(G2 ++ [.cells [.int .i64 x]])[g.length + 1]? = some (.cells [.int .i64 op,.int .i64 n,.str [],.str [],.int .i64 0,I])∧G3[g.length + 1]? = some (.cells [.int .i64 op,.int .i64 n,.str [],.str [],.int .i64 0,I])∧
   hop g.length (.app 1) [I,.sl G2.length 0 1 1 0] (G2 ++ [.cells [.int .i64 x]]) = some (.sl (G2.length + 1) 0 (ins ++ [x]).length (ins ++ [x]).length 1,G3,false)∧
   Lq vs ps d op n nm sb aS b g Hg (i + 1) H2 (G3.set (g.length + 1) (.cells [.int .i64 op,.int .i64 n,.str [],.str [],.int .i64 0,.sl (G2.length + 1) 0 (ins ++ [x]).length (ins ++ [x]).length 1])) out2 (rs ++ qs) (ins ++ [x]) (.sl (G2.length + 1) 0 (ins ++ [x]).length (ins ++ [x]).length 1) (G2.length + 1):=by
 obtain ⟨cov,b2,bB,bN,hI,hB,keep,told,rows,gat,inl,outl,len⟩:=h
 have e1:(aS.drop i).map (sz d) = sz d aS[i] :: (aS.drop (i + 1)).map (sz d):=by rw [List.drop_eq_getElem_cons hi,List.map_cons]
 rw [e1,List.sum_cons] at len
 have rl:=rows.length
 obtain ⟨H2,G2,qs,hr,more2,keep2,told2,cov2,rows2⟩:=hA aS[i] (hf _ (List.getElem_mem hi)) (hD _ (List.getElem_mem hi)) H G (b + out.length) (by omega) cov
 have ql:=rows2.length
 have lne:=low_ne (vn:=vs.map (·.nm)) (pn:=ps.map (·.nm)) (b + out.length) (hD _ (List.getElem_mem hi))
 have lsz:=low_len (vn:=vs.map (·.nm)) (pn:=ps.map (·.nm)) d (b + out.length) aS[i]
 rw [List.drop_eq_getElem_cons hi,gather] at gat
 generalize hx:(((b + (out ++ low (vs.map (·.nm)) (ps.map (·.nm)) d (b + out.length) aS[i]).length:Nat):Int) - 1) = x at gat
 have hx2:x = ((b + (rs ++ qs).length:Nat):Int) - 1:=by
  rw [←hx,List.length_append,List.length_append,rl,ql]
 have bN2:G2[g.length + 1]? = some (.cells [.int .i64 op,.int .i64 n,.str [],.str [],.int .i64 0,I]):=by rw [keep2 _ (by omega)];exact bN
 have hI2:(ins = []∧I = .lst [] .full)∨(I = .sl j 0 ins.length ins.length 1∧ins ≠ []∧G2[j]? = some (.cells (ins.map (.int .i64)))):=by
  rcases hI with h | ⟨a,b,c,c1,c3⟩
  ·exact .inl h
  ·have hj:j < G.length:=(List.getElem?_eq_some_iff.1 c).1
   exact .inr ⟨a,b,by rw [keep2 j hj];exact c⟩
 have hj2:ins ≠ []→g.length + 2 ≤ j∧H2 j = none∧j < G.length:=by
  intro hne
  rcases hI with ⟨h,_⟩ | ⟨a,b,c,c1,c3⟩
  ·exact absurd h hne
  ·have hj:j < G.length:=(List.getElem?_eq_some_iff.1 c).1
   exact ⟨c1,by rw [told2 j hj];exact c3,hj⟩
 obtain ⟨G3,hap,l3,k3,n3⟩:=ins_next (base:=g.length) (H:=H2) (g:=G2) (id:=j) (by omega) x hI2
 have bN3:G3[g.length + 1]? = some (.cells [.int .i64 op,.int .i64 n,.str [],.str [],.int .i64 0,I]):=by
  rw [k3 _ (by omega) fun hne=>by have:=(hj2 hne).1;omega]
  exact bN2
 have qne:(qs.map AVal.agg).isEmpty = false:=by
  cases qs with
  | nil=>simp at ql;omega
  | cons=>rfl
 have hsub:Sub H H2:=fun i y hy=>by rw [told2 i (cov.lt hy)];exact hy
 have rl':=rl
 refine ⟨x,H2,G2,qs,out ++ low (vs.map (·.nm)) (ps.map (·.nm)) d (b + out.length) aS[i],G3,by rw [rl];exact hr,rows_ok (rows.mono hsub) rows2 (by omega),qne,hx2,by simp;omega,by omega,bN2,by rw [List.getElem?_append_left (by omega)];exact bN2,bN3,hap,?_⟩
 have hk4:∀(X:ABox) (i:Nat),i < G2.length→¬ (i = g.length + 1∨(ins ≠ []∧i = j))→(G3.set (g.length + 1) X)[i]? = G2[i]?:=fun X i hi hn=>by
  rw [List.getElem?_set_ne fun e=>hn (.inl e.symm),k3 i hi fun hne e=>hn (.inr ⟨hne,e⟩)]
 have hBn:H2 (g.length + 1) = none:=by rw [told2 _ (by omega)];exact hB
 refine ⟨fun i y hy=>?_,by simp;omega,?_,?_,?_,hBn,?_,?_,rows_cat rows2 (rows.mono hsub),gat,by simp;omega,by simp;omega,?_⟩
 ·rw [hk4 _ i (cov2.lt hy) ?_]
  ·exact cov2 i y hy
  ·rintro (rfl | ⟨hne,rfl⟩)
   ·rw [hBn] at hy
    cases hy
   ·rw [(hj2 hne).2.1] at hy
    cases hy
 ·rw [hk4 _ _ (by omega) (by rintro (h | ⟨hne,h⟩);omega;have:=(hj2 hne).1;omega),keep2 _ (by omega)]
  exact bB
 ·rw [List.getElem?_set_self (by omega)]
 ·refine .inr ⟨rfl,by simp,?_,by omega,cov2.late (by omega)⟩
  rw [List.getElem?_set_ne (by omega)]
  exact n3
 ·intro i hi
  rw [hk4 _ _ (by omega) (by rintro (h | ⟨hne,h⟩);omega;have:=(hj2 hne).1;omega),keep2 _ (by omega)]
  exact keep i hi
 ·intro i hi
  rw [told2 i (by omega)]
  exact told i hi
 ·rw [List.length_append,low_len]
  omega
end
end Go.Proofs.YtfmkpcgpkdnioaaGreatDoor.AE
