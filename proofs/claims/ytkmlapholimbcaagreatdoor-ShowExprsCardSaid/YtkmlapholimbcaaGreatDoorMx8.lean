/- A part of the proof: the abstract executor and what goes through it (part 8). No condition. -/
import Derived.Test.YtkmlapholimbcaaGreatDoorMx7
import Derived.Test.YtkmlapholimbcaaGreatDoorMx2
import Derived.Test.YtkmlapholimbcaaGreatDoorMx6
set_option maxRecDepth 100000
namespace Go.Proofs.YtkmlapholimbcaaGreatDoor.AE
open Go.AE
inductive qfL (ws:List Tok) (sub:Nat→Out→Prop) (pos:Int):List Exp→Nat→Out→Prop
 | many {args m}:args.length = 4→qfL ws sub pos args m (.no (word ws m).pos (bif qaX ws m then 8 else 6) m)
 | bad {args m p err k}:args.length < 4→sub m (.no p err k)→qfL ws sub pos args m (.no p err k)
 | next {args m y m1 o}:args.length < 4→sub m (.ok y m1)→isW ws m1 [44] = true→qfL ws sub pos (args ++ [y]) (m1 + 1) o→qfL ws sub pos args m o
 | unshut {args m y m1}:args.length < 4→sub m (.ok y m1)→isW ws m1 [44] = false→isW ws m1 [41] = false→qfL ws sub pos args m (.no (word ws m1).pos 6 m1)
 | qcg {args m y m1}:args.length < 4→sub m (.ok y m1)→isW ws m1 [44] = false→isW ws m1 [41] = true→¬ (Exp.mk 6 0 [] [] (args ++ [y])).depth ≤ 20→qfL ws sub pos args m (.no pos 7 (m1 + 1))
 | shut {args m y m1}:args.length < 4→sub m (.ok y m1)→isW ws m1 [44] = false→isW ws m1 [41] = true→(Exp.mk 6 0 [] [] (args ++ [y])).depth ≤ 20→qfL ws sub pos args m (.ok (.mk 6 0 [] [] (args ++ [y])) (m1 + 1))
section
variable {ws:List Tok} {h:List qf}
theorem qhz (parts:List Nd) (y:Nd) (hl:parts.length ≤ 1000):qc8 7 (parts.map Nd.enc) [y.enc] = true:=by
 simp only [qc8,Bool.and_eq_true,decide_eq_true_eq]
 refine ⟨⟨?_,?_⟩,?_⟩
 ·simp only [List.length_map,List.length_cons,List.length_nil,qu];omega
 ·simp [Nd.cellsE,Nd.len]
  simpa using y.stor
 ·cases parts with
  | nil=>rfl
  | cons x xs=>simp [Nd.cellsE,Nd.len]
structure qgQ (h:List qf) (i:Nat) (ws:List Tok) (n:Nat) (H:List qf):Prop where
 lt:i < h.length
 len:h.length < H.length
 par:H[i]? = some (PB ws n)
 res:H[h.length]? = some qrS
 old:H.take h.length = h.set i (PB ws n)
theorem qgQ.next {i n n':Nat} {H:List qf} (hl:qgQ h i ws n H):qgQ h i ws n' (H.set i (PB ws n')):=by
 have h1:=hl.lt
 have h2:=hl.len
 refine ⟨hl.lt,by simpa using h2,qdE (by omega),?_,?_⟩
 ·rw [qbX (by omega),hl.res]
 ·rw [List.take_set,hl.old,qe1]
def qd7 (parts:List Nd):qfQ:=bif parts.length == 1 then .full else .own 7
theorem qg3 {parts:List Nd} {y:Nd} (h:1 ≤ parts.length):qd7 (parts ++ [y]) = .own 7:=by
 have:((parts ++ [y]).length == 1) = false:=by simp only [List.length_append,List.length_cons,List.length_nil,beq_eq_false_iff_ne];omega
 rw [qd7,this]
 rfl
def qvx (h:List qf) (i:Nat) (ws:List Tok) (pos:Int) (r:Option (Ex×St)) (o:Out):Prop:=
 (∃p err n,o = .no p err n∧n < ws.length∧∃tt H,r = some (.pan (qdt p err),⟨tt,H,false⟩)∧H.take h.length = h.set i (PB ws n))∨
 (∃(parts:List Nd) (n:Nat) (tt H:List _),r = some (.exit 0,⟨tt,H,false⟩)∧n < ws.length∧tt.length = 44∧lkp tt 0 = .ptr i 0∧lkp tt 2 = .ptr h.length 0∧lkp tt 3 = .int .i64 pos∧lkp tt 5 = .lst (parts.map Nd.enc) (.own 7)∧qgQ h i ws n H∧parts.length ≤ 4∧(∀x ∈ parts,x.e.depth ≤ 20)∧
  ((isW ws n [41] = false∧o = .no (word ws n).pos 6 n)∨(isW ws n [41] = true∧¬ (Exp.mk 6 0 [] [] (parts.map Nd.e)).depth ≤ 20∧o = .no pos 7 (n + 1))∨(isW ws n [41] = true∧(Exp.mk 6 0 [] [] (parts.map Nd.e)).depth ≤ 20∧o = .ok (.mk 6 0 [] [] (parts.map Nd.e)) (n + 1))))
theorem qil (hw:WF ws) (i:Nat) (pos:Int) (args:List Exp) (n:Nat) (o:Out) (hT:qfL ws (qa8 43 ws) pos args n o):∀(parts:List Nd) (tt:List qa) (H:List qf),parts.map Nd.e = args→1 ≤ parts.length→(∀x ∈ parts,x.e.depth ≤ 20)→n < ws.length→tt.length = 44→lkp tt 0 = .ptr i 0→lkp tt 2 = .ptr h.length 0→lkp tt 3 = .int .i64 pos→lkp tt 5 = .lst (parts.map Nd.enc) (qd7 parts)→qgQ h i ws n H→
  qvx h i ws pos (qo h.length Wd (.loop qbe) ⟨tt,H,false⟩) o:=by
 induction hT with
 | @many args m hl=>
  intro parts tt H hp h1 hdp hn ht e0 e2 e3 e5 hL
  have hlt:i < H.length:=by have:=hL.lt;have:=hL.len;omega
  have hpar:=hL.par
  rw [PBi] at hpar
  have hpl:parts.length = 4:=by rw [←hl,←hp,List.length_map]
  have hfl:qd7 parts = .own 7:=by simp [qd7,hpl]
  rw [hfl] at e5
  have h4:(((parts.map Nd.enc).length:Int) == 4) = true:=by simp [hpl]
  rw [qm]
  generalize he:qo h.length Wd qbe _ = r
  simp only [qbe,sT.1,sC.1,qc,qb,Nat.testBit,simprocAttr,-Int.reduceNatCast',ht,e0,e5,h4,qiQ hw hn,hpar,PBi,hlt] at he
  subst he
  exact .inl ⟨_,_,_,rfl,hn,_,_,rfl,hL.old⟩
 | @bad args m p err k hl hx=>
  intro parts tt H hp h1 hdp hn ht e0 e2 e3 e5 hL
  have hlt:i < H.length:=by have:=hL.lt;have:=hL.len;omega
  have hpar:=hL.par
  rw [PBi] at hpar
  have hpl:parts.length < 4:=by rw [←hp,List.length_map] at hl;exact hl
  have h4:(((parts.map Nd.enc).length:Int) == 4) = false:=by simp;omega
  obtain ⟨x1,x2⟩:=hx
  have hdm:∀f:qfQ,(qa.lst (parts.map Nd.enc) f).dim.dim = (qa.lst (parts.map Nd.enc) f).dim:=fun f=>qit _
  cases hf:(parts.length == 1) with
  | true=>
   simp only [qd7,hf,cond_true] at e5
   rw [qm]
   generalize he:qo h.length Wd qbe _ = r
   simp only [qbe,sT.1,sC.1,sTA.1,sCA.1,qc,qak,qal,Src.isTmp,qD,Src.hangs,qk.isT,qai,qb,Nat.testBit,bne,simprocAttr,-Int.reduceNatCast',ht,e0,e5,h4,hpar,PBi,hlt,x2] at he
   subst he
   exact .inl ⟨_,_,_,rfl,x1,_,_,rfl,hL.next.old⟩
  | false=>
   simp only [qd7,hf,cond_false] at e5
   rw [qm]
   generalize he:qo h.length Wd qbe _ = r
   simp only [qbe,sT.1,sC.1,sTA.1,sCA.1,qc,qak,qal,Src.isTmp,qD,Src.hangs,qk.isT,qai,qb,Nat.testBit,bne,simprocAttr,-Int.reduceNatCast',ht,e0,e5,h4,hpar,PBi,hlt,x2] at he
   subst he
   exact .inl ⟨_,_,_,rfl,x1,_,_,rfl,hL.next.old⟩
 | @next args m y m1 o hl hx hc hT ih=>
  intro parts tt H hp h1 hdp hn ht e0 e2 e3 e5 hL
  have hlt:i < H.length:=by have:=hL.lt;have:=hL.len;omega
  have hpar:=hL.par
  rw [PBi] at hpar
  have hpl:parts.length < 4:=by rw [←hp,List.length_map] at hl;exact hl
  have h4:(((parts.map Nd.enc).length:Int) == 4) = false:=by simp;omega
  obtain ⟨x1,x2,x3,x4⟩:=hx
  have hap:qc8 7 (parts.map Nd.enc) [(⟨y,(word ws m).pos⟩ :Nd).enc] = true:=qhz _ _ (by omega)
  have hall:∀x ∈ parts ++ [(⟨y,(word ws m).pos⟩ :Nd)],x.e.depth ≤ 20:=by
   intro x hx
   rcases List.mem_append.1 hx with hx | hx
   ·exact hdp x hx
   ·rw [List.mem_singleton.1 hx];exact x3
  have hmap:(parts ++ [(⟨y,(word ws m).pos⟩ :Nd)]).map Nd.e = args ++ [y]:=by rw [List.map_append,hp];rfl
  cases hf:(parts.length == 1) with
  | true=>
   simp only [qd7,hf,cond_true] at e5
   rw [qm]
   generalize he:qo h.length Wd qbe _ = r
   simp only [qbe,sT.1,sC.1,sTA.1,sCA.1,qc,qak,qal,Src.isTmp,qD,Src.hangs,qk.isT,qai,qb,Nat.testBit,bne,simprocAttr,-Int.reduceNatCast',ht,e0,e5,h4,hpar,PBi,hlt,Nd.dimE,qaI,hap,x4,qz hw x2,hc] at he
   subst he
   refine ih (parts ++ [⟨y,(word ws m).pos⟩]) _ _ hmap (by simp) hall (qW hw x2 hc) (by simp only [qj,ht]) (by simp only [sT.1,sC.1,qc,qb,Nat.testBit,simprocAttr,-Int.reduceNatCast',e0]) (by simp only [sT.1,sC.1,qc,qb,Nat.testBit,simprocAttr,-Int.reduceNatCast',e2]) (by simp only [sT.1,sC.1,qc,qb,Nat.testBit,simprocAttr,-Int.reduceNatCast',e3]) ?_ hL.next
   simp only [sT.1,sC.1,qc,qb,Nat.testBit,simprocAttr,-Int.reduceNatCast',ht,List.map_append,qg3 h1]
  | false=>
   simp only [qd7,hf,cond_false] at e5
   rw [qm]
   generalize he:qo h.length Wd qbe _ = r
   simp only [qbe,sT.1,sC.1,sTA.1,sCA.1,qc,qak,qal,Src.isTmp,qD,Src.hangs,qk.isT,qai,qb,Nat.testBit,bne,simprocAttr,-Int.reduceNatCast',ht,e0,e5,h4,hpar,PBi,hlt,Nd.dimE,qaI,hap,x4,qz hw x2,hc] at he
   subst he
   refine ih (parts ++ [⟨y,(word ws m).pos⟩]) _ _ hmap (by simp) hall (qW hw x2 hc) (by simp only [qj,ht]) (by simp only [sT.1,sC.1,qc,qb,Nat.testBit,simprocAttr,-Int.reduceNatCast',e0]) (by simp only [sT.1,sC.1,qc,qb,Nat.testBit,simprocAttr,-Int.reduceNatCast',e2]) (by simp only [sT.1,sC.1,qc,qb,Nat.testBit,simprocAttr,-Int.reduceNatCast',e3]) ?_ hL.next
   simp only [sT.1,sC.1,qc,qb,Nat.testBit,simprocAttr,-Int.reduceNatCast',ht,List.map_append,qg3 h1]
 | @unshut args m y m1 hl hx hc hs=>
  intro parts tt H hp h1 hdp hn ht e0 e2 e3 e5 hL
  have hlt:i < H.length:=by have:=hL.lt;have:=hL.len;omega
  have hpar:=hL.par
  rw [PBi] at hpar
  have hpl:parts.length < 4:=by rw [←hp,List.length_map] at hl;exact hl
  have h4:(((parts.map Nd.enc).length:Int) == 4) = false:=by simp;omega
  obtain ⟨x1,x2,x3,x4⟩:=hx
  have hap:qc8 7 (parts.map Nd.enc) [(⟨y,(word ws m).pos⟩ :Nd).enc] = true:=qhz _ _ (by omega)
  have hall:∀x ∈ parts ++ [(⟨y,(word ws m).pos⟩ :Nd)],x.e.depth ≤ 20:=by
   intro x hx
   rcases List.mem_append.1 hx with hx | hx
   ·exact hdp x hx
   ·rw [List.mem_singleton.1 hx];exact x3
  have hmap:(parts ++ [(⟨y,(word ws m).pos⟩ :Nd)]).map Nd.e = args ++ [y]:=by rw [List.map_append,hp];rfl
  cases hf:(parts.length == 1) with
  | true=>
   simp only [qd7,hf,cond_true] at e5
   rw [qm]
   generalize he:qo h.length Wd qbe _ = r
   simp only [qbe,sT.1,sC.1,sTA.1,sCA.1,qc,qak,qal,Src.isTmp,qD,Src.hangs,qk.isT,qai,qb,Nat.testBit,bne,simprocAttr,-Int.reduceNatCast',ht,e0,e5,h4,hpar,PBi,hlt,Nd.dimE,qaI,hap,x4,qC hw x2,hc] at he
   subst he
   refine .inr ⟨parts ++ [⟨y,(word ws m).pos⟩],m1,_,_,rfl,x2,by simp only [qj,ht],by simp only [sT.1,sC.1,qc,qb,Nat.testBit,simprocAttr,-Int.reduceNatCast',e0],by simp only [sT.1,sC.1,qc,qb,Nat.testBit,simprocAttr,-Int.reduceNatCast',e2],by simp only [sT.1,sC.1,qc,qb,Nat.testBit,simprocAttr,-Int.reduceNatCast',e3],?_,hL.next,by simp;omega,hall,?_⟩
   ·simp only [sT.1,sC.1,qc,qb,Nat.testBit,simprocAttr,-Int.reduceNatCast',ht,List.map_append]
   ·rw [hmap];exact .inl ⟨hs,rfl⟩
  | false=>
   simp only [qd7,hf,cond_false] at e5
   rw [qm]
   generalize he:qo h.length Wd qbe _ = r
   simp only [qbe,sT.1,sC.1,sTA.1,sCA.1,qc,qak,qal,Src.isTmp,qD,Src.hangs,qk.isT,qai,qb,Nat.testBit,bne,simprocAttr,-Int.reduceNatCast',ht,e0,e5,h4,hpar,PBi,hlt,Nd.dimE,qaI,hap,x4,qC hw x2,hc] at he
   subst he
   refine .inr ⟨parts ++ [⟨y,(word ws m).pos⟩],m1,_,_,rfl,x2,by simp only [qj,ht],by simp only [sT.1,sC.1,qc,qb,Nat.testBit,simprocAttr,-Int.reduceNatCast',e0],by simp only [sT.1,sC.1,qc,qb,Nat.testBit,simprocAttr,-Int.reduceNatCast',e2],by simp only [sT.1,sC.1,qc,qb,Nat.testBit,simprocAttr,-Int.reduceNatCast',e3],?_,hL.next,by simp;omega,hall,?_⟩
   ·simp only [sT.1,sC.1,qc,qb,Nat.testBit,simprocAttr,-Int.reduceNatCast',ht,List.map_append]
   ·rw [hmap];exact .inl ⟨hs,rfl⟩
 | @qcg args m y m1 hl hx hc hs hd=>
  intro parts tt H hp h1 hdp hn ht e0 e2 e3 e5 hL
  have hlt:i < H.length:=by have:=hL.lt;have:=hL.len;omega
  have hpar:=hL.par
  rw [PBi] at hpar
  have hpl:parts.length < 4:=by rw [←hp,List.length_map] at hl;exact hl
  have h4:(((parts.map Nd.enc).length:Int) == 4) = false:=by simp;omega
  obtain ⟨x1,x2,x3,x4⟩:=hx
  have hap:qc8 7 (parts.map Nd.enc) [(⟨y,(word ws m).pos⟩ :Nd).enc] = true:=qhz _ _ (by omega)
  have hall:∀x ∈ parts ++ [(⟨y,(word ws m).pos⟩ :Nd)],x.e.depth ≤ 20:=by
   intro x hx
   rcases List.mem_append.1 hx with hx | hx
   ·exact hdp x hx
   ·rw [List.mem_singleton.1 hx];exact x3
  have hmap:(parts ++ [(⟨y,(word ws m).pos⟩ :Nd)]).map Nd.e = args ++ [y]:=by rw [List.map_append,hp];rfl
  cases hf:(parts.length == 1) with
  | true=>
   simp only [qd7,hf,cond_true] at e5
   rw [qm]
   generalize he:qo h.length Wd qbe _ = r
   simp only [qbe,sT.1,sC.1,sTA.1,sCA.1,qc,qak,qal,Src.isTmp,qD,Src.hangs,qk.isT,qai,qb,Nat.testBit,bne,simprocAttr,-Int.reduceNatCast',ht,e0,e5,h4,hpar,PBi,hlt,Nd.dimE,qaI,hap,x4,qC hw x2,hc] at he
   subst he
   refine .inr ⟨parts ++ [⟨y,(word ws m).pos⟩],m1,_,_,rfl,x2,by simp only [qj,ht],by simp only [sT.1,sC.1,qc,qb,Nat.testBit,simprocAttr,-Int.reduceNatCast',e0],by simp only [sT.1,sC.1,qc,qb,Nat.testBit,simprocAttr,-Int.reduceNatCast',e2],by simp only [sT.1,sC.1,qc,qb,Nat.testBit,simprocAttr,-Int.reduceNatCast',e3],?_,hL.next,by simp;omega,hall,?_⟩
   ·simp only [sT.1,sC.1,qc,qb,Nat.testBit,simprocAttr,-Int.reduceNatCast',ht,List.map_append]
   ·rw [hmap];exact .inr (.inl ⟨hs,hd,rfl⟩)
  | false=>
   simp only [qd7,hf,cond_false] at e5
   rw [qm]
   generalize he:qo h.length Wd qbe _ = r
   simp only [qbe,sT.1,sC.1,sTA.1,sCA.1,qc,qak,qal,Src.isTmp,qD,Src.hangs,qk.isT,qai,qb,Nat.testBit,bne,simprocAttr,-Int.reduceNatCast',ht,e0,e5,h4,hpar,PBi,hlt,Nd.dimE,qaI,hap,x4,qC hw x2,hc] at he
   subst he
   refine .inr ⟨parts ++ [⟨y,(word ws m).pos⟩],m1,_,_,rfl,x2,by simp only [qj,ht],by simp only [sT.1,sC.1,qc,qb,Nat.testBit,simprocAttr,-Int.reduceNatCast',e0],by simp only [sT.1,sC.1,qc,qb,Nat.testBit,simprocAttr,-Int.reduceNatCast',e2],by simp only [sT.1,sC.1,qc,qb,Nat.testBit,simprocAttr,-Int.reduceNatCast',e3],?_,hL.next,by simp;omega,hall,?_⟩
   ·simp only [sT.1,sC.1,qc,qb,Nat.testBit,simprocAttr,-Int.reduceNatCast',ht,List.map_append]
   ·rw [hmap];exact .inr (.inl ⟨hs,hd,rfl⟩)
 | @shut args m y m1 hl hx hc hs hd=>
  intro parts tt H hp h1 hdp hn ht e0 e2 e3 e5 hL
  have hlt:i < H.length:=by have:=hL.lt;have:=hL.len;omega
  have hpar:=hL.par
  rw [PBi] at hpar
  have hpl:parts.length < 4:=by rw [←hp,List.length_map] at hl;exact hl
  have h4:(((parts.map Nd.enc).length:Int) == 4) = false:=by simp;omega
  obtain ⟨x1,x2,x3,x4⟩:=hx
  have hap:qc8 7 (parts.map Nd.enc) [(⟨y,(word ws m).pos⟩ :Nd).enc] = true:=qhz _ _ (by omega)
  have hall:∀x ∈ parts ++ [(⟨y,(word ws m).pos⟩ :Nd)],x.e.depth ≤ 20:=by
   intro x hx
   rcases List.mem_append.1 hx with hx | hx
   ·exact hdp x hx
   ·rw [List.mem_singleton.1 hx];exact x3
  have hmap:(parts ++ [(⟨y,(word ws m).pos⟩ :Nd)]).map Nd.e = args ++ [y]:=by rw [List.map_append,hp];rfl
  cases hf:(parts.length == 1) with
  | true=>
   simp only [qd7,hf,cond_true] at e5
   rw [qm]
   generalize he:qo h.length Wd qbe _ = r
   simp only [qbe,sT.1,sC.1,sTA.1,sCA.1,qc,qak,qal,Src.isTmp,qD,Src.hangs,qk.isT,qai,qb,Nat.testBit,bne,simprocAttr,-Int.reduceNatCast',ht,e0,e5,h4,hpar,PBi,hlt,Nd.dimE,qaI,hap,x4,qC hw x2,hc] at he
   subst he
   refine .inr ⟨parts ++ [⟨y,(word ws m).pos⟩],m1,_,_,rfl,x2,by simp only [qj,ht],by simp only [sT.1,sC.1,qc,qb,Nat.testBit,simprocAttr,-Int.reduceNatCast',e0],by simp only [sT.1,sC.1,qc,qb,Nat.testBit,simprocAttr,-Int.reduceNatCast',e2],by simp only [sT.1,sC.1,qc,qb,Nat.testBit,simprocAttr,-Int.reduceNatCast',e3],?_,hL.next,by simp;omega,hall,?_⟩
   ·simp only [sT.1,sC.1,qc,qb,Nat.testBit,simprocAttr,-Int.reduceNatCast',ht,List.map_append]
   ·rw [hmap];exact .inr (.inr ⟨hs,hd,rfl⟩)
  | false=>
   simp only [qd7,hf,cond_false] at e5
   rw [qm]
   generalize he:qo h.length Wd qbe _ = r
   simp only [qbe,sT.1,sC.1,sTA.1,sCA.1,qc,qak,qal,Src.isTmp,qD,Src.hangs,qk.isT,qai,qb,Nat.testBit,bne,simprocAttr,-Int.reduceNatCast',ht,e0,e5,h4,hpar,PBi,hlt,Nd.dimE,qaI,hap,x4,qC hw x2,hc] at he
   subst he
   refine .inr ⟨parts ++ [⟨y,(word ws m).pos⟩],m1,_,_,rfl,x2,by simp only [qj,ht],by simp only [sT.1,sC.1,qc,qb,Nat.testBit,simprocAttr,-Int.reduceNatCast',e0],by simp only [sT.1,sC.1,qc,qb,Nat.testBit,simprocAttr,-Int.reduceNatCast',e2],by simp only [sT.1,sC.1,qc,qb,Nat.testBit,simprocAttr,-Int.reduceNatCast',e3],?_,hL.next,by simp;omega,hall,?_⟩
   ·simp only [sT.1,sC.1,qc,qb,Nat.testBit,simprocAttr,-Int.reduceNatCast',ht,List.map_append]
   ·rw [hmap];exact .inr (.inr ⟨hs,hd,rfl⟩)
end
end Go.Proofs.YtkmlapholimbcaaGreatDoor.AE
namespace Go.Proofs.YtkmlapholimbcaaGreatDoor.AE
open Go.AE
section
variable {ws:List Tok} {n:Nat}
theorem qzH {h:List qf} (p:qa) (pos op k:Int) (name sub:Str) (parts:List Nd) (hp:parts.length ≤ 4) (hd:∀x ∈ parts,x.e.depth ≤ 20):Wd (.fn 72 [] []) [p,.int .i64 pos,.agg [.int .i64 op,.int .i64 k,.str name,.str sub,.lst [] .full],.lst (parts.map Nd.enc) .no] h =
  if (Exp.mk op k name sub (parts.map Nd.e)).depth ≤ 20 then some (.ret (Nd.enc ⟨.mk op k name sub (parts.map Nd.e),pos⟩),h,false) else some (.pan (qdt pos 7),h,false):=
 qgz (h:=h) p pos op k name sub parts false hp hd
theorem br2 (hw:WF ws) (hn:n < ws.length) (hs:isW ws n [40] = true) {x:Exp} {n1:Nat} (h1:qa8 43 ws (n + 1) (.ok x n1)) (h2:isW ws n1 [41] = true):qa8 181 ws n (.ok x (n1 + 1)):=by
 obtain ⟨x1,x2,x3,x4⟩:=h1
 refine ⟨by omega,qW hw x2 h2,x3,fun h i hi=>?_⟩
 have hlt:=qw hi
 have hb1:=qfa h 1
 rw [PBi] at hi
 rw [qi rfl (show T.get 181 = some quX by kernel_rfl)]
 have s6:List.take 6 (⟨x,(word ws (n + 1)).pos⟩ :Nd).cs ++ [qa.int .i64 (word ws n).pos] = (⟨x,(word ws n).pos⟩ :Nd).cs:=by
  obtain ⟨op,k,name,sub,args⟩:=x
  exact Eq.trans rfl rfl
 simp only [quX,sT.1,sC.1,qc,qb,Nat.testBit,simprocAttr,-Int.reduceNatCast',qbi hw hn,qbg hw hn,hs,hi,hlt,PBi,x4,qz hw x2,h2,hb1,Nd.dimE,Nd.cellsE,Nd.cutE,Nd.dims,Nd.len,Nd.stor,Nd.lower,Nd.drainE,Nd.drop7,List.append_nil,s6]
theorem br4 (hw:WF ws) (hn:n < ws.length) (hs:isW ws n [40] = true) {x:Exp} {n1:Nat} (h1:qa8 43 ws (n + 1) (.ok x n1)) (h2:isW ws n1 [41] = false) (h3:isW ws n1 [44] = true) (h4:isW ws (n1 + 1) [41] = true) (hd:(Exp.mk 6 0 [] [] [x]).depth ≤ 20):qa8 181 ws n (.ok (.mk 6 0 [] [] [x]) (n1 + 1 + 1)):=by
 obtain ⟨x1,x2,x3,x4⟩:=h1
 have n2:=qW hw x2 h3
 refine ⟨by omega,qW hw n2 h4,hd,fun h i hi=>?_⟩
 have hlt:=qw hi
 have hb1:=qfa h 1
 rw [PBi] at hi
 rw [qi rfl (show T.get 181 = some quX by kernel_rfl)]
 simp only [quX,sT.1,sC.1,qc,qb,Nat.testBit,simprocAttr,-Int.reduceNatCast',qbi hw hn,qbg hw hn,hs,hi,hlt,PBi,x4,x3,qC hw x2,h2,qbg hw x2,h3,qz hw n2,h4,hb1,Nd.dimE,Nd.cellsE,Nd.cutE,Nd.dims,Nd.len,Nd.stor,Nd.lower,Nd.drainE,Nd.drop7,qaI,qI,qmx,hd]
theorem qfL.mono {pos:Int} {args:List Exp} {m:Nat} {o:Out} (h:qfL ws (qa8 43 ws) pos args m o):∀e' n',o = .ok e' n'→m < n':=by
 induction h with
 | many _=>intro e' n' h;cases h
 | bad _ _=>intro e' n' h;cases h
 | next _ h1 _ _ ih=>intro e' n' h;have:=ih e' n' h;have:=h1.1;omega
 | unshut _ _ _ _=>intro e' n' h;cases h
 | qcg _ _ _ _ _=>intro e' n' h;cases h
 | shut _ h1 _ _ _=>intro e' n' h;cases h;have:=h1.1;omega
theorem qgQ.start {i n:Nat} {h:List qf} {x:Nd} (hi:i < h.length):qgQ h i ws n (h.set i (PB ws n) ++ [qrS,NB x]):=by
 refine ⟨hi,by simp,?_,?_,?_⟩
 ·rw [qbW (by simpa using hi),qdE hi]
 ·rw [qcv (by simp)];rfl
 ·rw [List.take_append_of_le_length (by simp),List.take_of_length_le (by simp)]
theorem qgQ.answer {i n:Nat} {h:List qf} {x:Nd} {H:List qf} (hl:qgQ h i ws n H):qaQ h.length (.ret x.enc) (H.set h.length (NB x)) false = (.ret x.enc,h.set i (PB ws n),false):=
 qa0 (by rw [List.take_set_of_le (by omega),hl.old]) (x.lower _)
def qjs:qG:=.seq (.reg [ao 39 (.mov (.t 0)),ao 40 (.mov (.t 3)),ao 41 (.build [(.int .i64 0),(.int .i64 0),(.str []),(.str []),(.lst [] .full)] [(0,1,(.c (.int .i64 6)))]),ao 42 (.mov (.t 5)),ao 43 (.call (.c (.fn 72 [] [])) [(.t 39),(.t 40),(.t 41),(.t 42)]),an (.st (some 7) (.t 2) (.t 43))]) .ret
def qf7:qG:=.reg [ao 37 (.mov (.t 0)),ao 38 (.call (.c (.fn 71 [] [])) [(.t 37),(.c (.str [41]))])]
theorem qkH (hw:WF ws) {h:List qf} {i:Nat} {pos:Int} {r:Option (Ex×St)} {o:Out} (hL:qvx h i ws pos r o):match (motive:=Out→Prop) o with
  | .ok e n=>n < ws.length∧e.depth ≤ 20∧qeo [.cell 2 (some 7)] h (qbN (qo h.length Wd qjs) (qbN (qo h.length Wd qf7) (qce 0 r))) = some (.ret (Nd.enc ⟨e,pos⟩),h.set i (PB ws n),false)
  | .no p err n=>n < ws.length∧qeo [.cell 2 (some 7)] h (qbN (qo h.length Wd qjs) (qbN (qo h.length Wd qf7) (qce 0 r))) = some (.pan (qdt p err),h.set i (PB ws n),false):=by
 obtain ⟨p,err,n,rfl,hn,tt,H,rfl,q⟩ | ⟨parts,n,tt,H,rfl,hn,ht,e0,e2,e3,e5,hl,hp,hd,hc⟩:=hL
 ·refine ⟨hn,?_⟩
  simp only [sT.1,sC.1,qc,qb,Nat.testBit,simprocAttr,-Int.reduceNatCast']
  exact congrArg some (qaN q (qg _ _ _))
 ·have hpar:=hl.par
  have hlen:=hl.len
  have hres:=(hl.next (n':=n + 1)).res
  rw [qbu] at hres
  obtain ⟨hs,rfl⟩ | ⟨hs,hdep,rfl⟩ | ⟨hs,hdep,rfl⟩:=hc
  ·refine ⟨hn,?_⟩
   simp only [qjs,qf7,sT.1,sC.1,qc,qb,Nat.testBit,simprocAttr,-Int.reduceNatCast',ht,e0,e2,e3,e5,qxy hw hn hpar hs]
   exact congrArg some (qaN hl.old (qg _ _ _))
  ·refine ⟨qW hw hn hs,?_⟩
   simp only [qjs,qf7,sT.1,sC.1,qc,qb,Nat.testBit,simprocAttr,-Int.reduceNatCast',ht,e0,e2,e3,e5,qbg hw hn hpar hs,qI,qzH _ _ _ _ _ _ parts hp hd,hdep]
   exact congrArg some (qaN hl.next.old (qg _ _ _))
  ·refine ⟨qW hw hn hs,hdep,?_⟩
   simp only [qjs,qf7,sT.1,sC.1,qc,qb,Nat.testBit,simprocAttr,-Int.reduceNatCast',ht,e0,e2,e3,e5,qbg hw hn hpar hs,qI,qzH _ _ _ _ _ _ parts hp hd,hdep,hres,hlen,Nd.dimE,Nd.cellsE,Nd.cutE,Nd.dims,Nd.len,Nd.stor,Nd.drainE]
   exact congrArg some hl.next.answer
theorem br6 (hw:WF ws) (hn:n < ws.length) (hs:isW ws n [40] = true) {x:Exp} {n1:Nat} (h1:qa8 43 ws (n + 1) (.ok x n1)) (h2:isW ws n1 [41] = false) (h3:isW ws n1 [44] = true) (h4:isW ws (n1 + 1) [41] = false) {o:Out} (hT:qfL ws (qa8 43 ws) (word ws n).pos [x] (n1 + 1) o):qa8 181 ws n o:=by
 obtain ⟨x1,x2,x3,x4⟩:=h1
 have n2:=qW hw x2 h3
 have hmono:=hT.mono
 have run:∀(h:List qf) (i:Nat),h[i]? = some (PB ws n)→∃r,qvx h i ws (word ws n).pos r o∧Wd (.fn 181 [] []) [.ptr i 0] h = qeo [.cell 2 (some 7)] h (qbN (qo h.length Wd qjs) (qbN (qo h.length Wd qf7) (qce 0 r))):=by
  intro h i hi
  have hlt:=qw hi
  have hb1:=qfa h 1
  rw [PBi] at hi
  generalize hr:Wd (.fn 181 [] []) [.ptr i 0] h = R
  rw [qi rfl (show T.get 181 = some quX by kernel_rfl)] at hr
  simp only [quX,sT.1,sC.1,qc,qb,Nat.testBit,simprocAttr,-Int.reduceNatCast',qbi hw hn,qbg hw hn,hs,hi,hlt,PBi,x4,qC hw x2,h2,qbg hw x2,h3,qC hw n2,h4,hb1,Nd.dimE,Nd.cellsE,Nd.cutE,Nd.dims,Nd.len,Nd.stor,Nd.lower,Nd.drainE,Nd.drop7,qaI] at hr
  generalize hq:qo h.length Wd (.loop qbe) _ = r at hr
  refine ⟨r,?_,?_⟩
  ·rw [←hq]
   refine qil hw i _ [x] _ o hT [⟨x,(word ws (n + 1)).pos⟩] _ _ (Eq.trans rfl rfl) (Nat.le_refl _) (by simpa using x3) n2 (by simp only [sT.1,sC.1,qc,qb,Nat.testBit,simprocAttr,-Int.reduceNatCast']) (by simp only [sT.1,sC.1,qc,qb,Nat.testBit,simprocAttr,-Int.reduceNatCast']) (by simp only [sT.1,sC.1,qc,qb,Nat.testBit,simprocAttr,-Int.reduceNatCast']) (by simp only [sT.1,sC.1,qc,qb,Nat.testBit,simprocAttr,-Int.reduceNatCast']) ?_ (qgQ.start hlt)
   simp only [sT.1,sC.1,qc,qb,Nat.testBit,simprocAttr,-Int.reduceNatCast',qd7,List.map_cons,List.map_nil,List.length_singleton,beq_self_eq_true,cond_true]
  ·rw [←hr]
   simp only [qjs,qf7,ao,an]
 cases o with
 | ok e' n'=>
  obtain ⟨r,q1,q2⟩:=run (List.replicate 1 (PB ws n)) 0 rfl
  have f0:=qkH hw q1
  refine ⟨by have:=hmono _ _ rfl;omega,f0.1,f0.2.1,fun h i hi=>?_⟩
  obtain ⟨r,q1,q2⟩:=run h i hi
  have f1:=qkH hw q1
  exact q2.trans f1.2.2
 | no pos err n'=>
  obtain ⟨r,q1,q2⟩:=run (List.replicate 1 (PB ws n)) 0 rfl
  have f0:=qkH hw q1
  refine ⟨f0.1,fun h i hi=>?_⟩
  obtain ⟨r,q1,q2⟩:=run h i hi
  have f1:=qkH hw q1
  exact q2.trans f1.2
end
end Go.Proofs.YtkmlapholimbcaaGreatDoor.AE
namespace Go.Proofs.YtkmlapholimbcaaGreatDoor.AE
open Go.AE
section
variable {ws:List Tok} {n:Nat} {h:List qf} {i:Nat}
theorem Exp.lower (φ:Int→Nat→Bool) (e:Exp) (n:Nat):(e.enc φ).lower n = true:=by
 simp [Exp.enc,qa.lower,qkK]
theorem Exp.dimE (φ:Int→Nat→Bool) (e:Exp):(e.enc φ).dim = e.enc φ:=Eq.trans rfl rfl
theorem Exp.cellsE (φ:Int→Nat→Bool) (e:Exp):(e.enc φ).cells = e.cs φ:=Eq.trans rfl rfl
theorem Exp.drainE (φ:Int→Nat→Bool) (e:Exp) (j:Nat) (t:List qa):qbI (e.enc φ) j t = t:=rfl
theorem Exp.dims (φ:Int→Nat→Bool) (e:Exp):(e.cs φ).map qa.dim = e.cs φ:=by
 obtain ⟨op,k,name,sub,args⟩:=e
 simp [Exp.cs,qa.dim,fl]
 cases φ op args.length <;> rfl
theorem Exp.cut (φ:Int→Nat→Bool) (e:Exp):cut (e.cs φ) 0 (some 5) = some (e.enc φ):=by
 rw [qhE (by rw [Exp.cs_len];omega),List.drop_zero,List.take_of_length_le (by rw [Exp.cs_len];omega),Exp.dims]
 rfl
theorem Exp.stor (φ:Int→Nat→Bool) (e:Exp):(e.cs φ).all qa.storable = true:=qnX φ e
theorem Exp.drop5 (φ:Int→Nat→Bool) (e:Exp):(e.cs φ).drop 5 = []:=List.drop_eq_nil_of_le (by rw [Exp.cs_len];omega)
theorem Nd.take5 (x:Nd):x.cs.take 5 = x.e.cs φP:=by
 obtain ⟨⟨op,k,name,sub,args⟩,pos⟩:=x
 rfl
theorem Nd.cut5 (x:Nd):Go.AE.cut x.cs 0 (some 5) = some (x.e.enc φP):=by
 rw [qhE (by rw [Nd.len];omega),List.drop_zero,Nd.take5,Exp.dims]
 rfl
theorem qrp (hw:WF ws) {e:Exp} {n':Nat} (h1:qa8 43 ws n (.ok e n')) (hk:(word ws n').kind = 4) (hi:h[i]? = some (PB ws n)):Wd (.fn 25 [] []) [.ptr i 0] h = some (.ret (e.enc φP),h.set i (PB ws n'),false):=by
 obtain ⟨x1,x2,x3,x4⟩:=h1
 have hlt:=qw hi
 have hb1:=qfa h 1
 rw [PBi] at hi
 rw [qi rfl (show T.get 25 = some c25 by kernel_rfl)]
 simp only [c25,sT.1,sC.1,qc,qb,Nat.testBit,simprocAttr,-Int.reduceNatCast',hi,hlt,PBi,x4,qwz hw x2,hk,hb1,Nd.dimE,Nd.cellsE,Nd.cutE,Nd.dims,Nd.len,Nd.stor,Nd.lower,Nd.drainE,Nd.drop7,Nd.cut5,Exp.dimE,Exp.cellsE,Exp.cut,Exp.stor,Exp.drainE,Exp.lower,Exp.cs_len,Exp.drop5,Exp.dims]
theorem qCu:X 24 = some (qeq 4000 c24):=Eq.trans rfl rfl
theorem qAI (aS:List qa) (h:List qf):Wd (.fn 24 [] []) aS h = qeo c24.results h (gW h.length Wd c24.d c24.body ⟨aS.map qa.dim ++ List.replicate (c24.ntmps - aS.length) (.tup []),h,false⟩):=by
 rw [Wd,qhx qfp qCu,qwK (by kernel_rfl) (by kernel_rfl)]
 simp only [List.nil_append,List.append_nil]
def quP (s:Str) (ws:List Tok):Prop:=∀h,Wd (.fn 41 [] []) [.str s] h = some (.ret (.tup [.lst (ws.map Tok.enc) .no,.int .i64 0,.int .i64 0]),h,false)
theorem qAh {s:Str} (hs:quP s ws) {e:Exp} (hr:∀(h:List qf) (i:Nat),h[i]? = some (PB ws 0)→Wd (.fn 25 [] []) [.ptr i 0] h = some (.ret (e.enc φP),h.set i (PB ws n),false)):Wd (.fn 24 [] []) [.str s,.fn 25 [] []] h = some (.ret (.tup [e.enc φP,.int .i64 0,.int .i64 0]),h,false):=by
 have hw:=hs (h ++ [.cells [.int .i64 0,.int .i64 0,.str [],.str [],.lst [] .full],.cells [.int .i64 0],.cells [.int .i64 0]])
 have hb1:=qfa h 1
 have hb2:Nat.ble h.length (h.length + 1 + 1) = true:=qau (by omega)
 have hp:=hr (h ++ [.cells [.int .i64 0,.int .i64 0,.str [],.str [],.lst [] .full],.cells [.int .i64 0],.cells [.int .i64 0],PB ws 0]) (h.length + 3) (by rw [List.getElem?_append_right (by omega)];simp)
 have z0:((0:Nat):Int) = 0:=Eq.trans rfl rfl
 rw [PBi,PBi,z0] at hp
 rw [qAI]
 simp only [c24,qvd,qvc,qu7,qsn,qsp,qso,dW,qk7,qn0,qn1,qz9,quD,quC,qI,sT.1,sC.1,qc,qb,Nat.testBit,simprocAttr,-Int.reduceNatCast',qt6,qt8,qt7,hw,hp,hb1,hb2,Exp.dimE,Exp.cellsE,Exp.cut,Exp.stor,Exp.drainE,Exp.lower,Exp.cs_len,Exp.drop5,Exp.dims]
theorem qwB {s:Str} {v:qa} {p err:Int} (hv:∃e:Exp,v = e.enc φP) (hr:∀h,Wd (.fn 24 [] []) [.str s,.fn 25 [] []] h = some (.ret (.tup [v,.int .i64 p,.int .i64 err]),h,false)):Wd (.fn 11 [] []) [.str s] h = some (.ret (.tup [v,.int .i64 p,.int .i64 err]),h,false):=by
 obtain ⟨x,rfl⟩:=hv
 have hb1:=qfa h 1
 rw [qi rfl (show T.get 11 = some c11 by kernel_rfl)]
 simp only [c11,sT.1,sC.1,qc,qb,Nat.testBit,simprocAttr,-Int.reduceNatCast',hr,Exp.dimE,Exp.cellsE,Exp.cut,Exp.stor,Exp.drainE,Exp.lower,Exp.cs_len,Exp.drop5,Exp.dims]
end
end Go.Proofs.YtkmlapholimbcaaGreatDoor.AE
namespace Go.Proofs.YtkmlapholimbcaaGreatDoor.AE
open Go.AE
def fB (nb mb sb:Bool) (lo hi n:Int) (nm sub:Str) (k:Nat):Bool:=(nb || n == 0) && ((mb || nm == []) && ((sb || sub == []) && (ile lo (k:Int) && ile (k:Int) hi)))
section
variable {h:List qf}
set_option maxHeartbeats 1000000 in
theorem qap (op n:Int) (nm sub:Str) (aS:List qa) (nb mb sb:Bool) (lo hi:Int) :
  Wd (.fn 91 [] []) [.agg [.int .i64 op,.int .i64 n,.str nm,.str sub,.lst aS .no],.bool nb,.bool mb,.bool sb,.int .i64 lo,.int .i64 hi] h = some (.ret (.bool (fB nb mb sb lo hi n nm sub aS.length)),h,false):=by
 rw [qi rfl (show T.get 91 = some c91 by kernel_rfl)]
 by_cases a1:nb = true∨(nb = false∧(n == 0) = true)
 ·by_cases a2:mb = true∨(mb = false∧(nm == []) = true)
  ·by_cases a3:sb = true∨(sb = false∧(sub == []) = true)
   ·cases c1:ile lo (aS.length:Int) <;>
    rcases a1 with rfl | ⟨rfl,b1⟩ <;> rcases a2 with rfl | ⟨rfl,b2⟩ <;> rcases a3 with rfl | ⟨rfl,b3⟩ <;> simp only [c91,sT.1,sC.1,qc,qb,Nat.testBit,simprocAttr,-Int.reduceNatCast',fB, *]
   ·have e3:sb = false:=by cases sb <;> simp_all
    subst e3
    have b3:(sub == []) = false:=by cases hq:(sub == []) <;> simp_all
    rcases a1 with rfl | ⟨rfl,b1⟩ <;> rcases a2 with rfl | ⟨rfl,b2⟩ <;> simp only [c91,sT.1,sC.1,qc,qb,Nat.testBit,simprocAttr,-Int.reduceNatCast',fB, *]
  ·have e3:mb = false:=by cases mb <;> simp_all
   subst e3
   have b3:(nm == []) = false:=by cases hq:(nm == []) <;> simp_all
   rcases a1 with rfl | ⟨rfl,b1⟩ <;> simp only [c91,sT.1,sC.1,qc,qb,Nat.testBit,simprocAttr,-Int.reduceNatCast',fB, *]
 ·have e3:nb = false:=by cases nb <;> simp_all
  subst e3
  have b3:(n == 0) = false:=by cases hq:(n == 0) <;> simp_all
  simp only [c91,sT.1,sC.1,qc,qb,Nat.testBit,simprocAttr,-Int.reduceNatCast',fB, *]
def nB0 (n:Int) (nm sub:Str) (k:Nat):Bool:=fB true false false 0 0 n nm sub k && ile 0 n
def nB1 (n:Int) (nm sub:Str) (k:Nat):Bool:=fB false false false 0 0 n nm sub k
def nB2 (n:Int) (nm sub:Str) (k:Nat):Bool:=fB false false false 0 0 n nm sub k
def nB3 (n:Int) (nm sub:Str) (k:Nat):Bool:=fB false true false 0 0 n nm sub k && qbD nm
def nB4 (n:Int) (nm sub:Str) (k:Nat):Bool:=fB false true false 0 0 n nm sub k && qA nm
def nB5 (n:Int) (nm sub:Str) (k:Nat):Bool:=fB false true true 0 0 n nm sub k && (qA nm && qA sub)
def nB6 (n:Int) (nm sub:Str) (k:Nat):Bool:=fB false false false 1 4 n nm sub k
def nB7 (n:Int) (nm sub:Str) (k:Nat):Bool:=fB false true false 0 0 n nm sub k && qA nm
def nB8 (n:Int) (nm sub:Str) (k:Nat):Bool:=fB false true false 0 0 n nm sub k && qA nm
def nB9 (n:Int) (nm sub:Str) (k:Nat):Bool:=fB false true false 0 0 n nm sub k && qA nm
def qxh (n:Int) (nm sub:Str) (k:Nat):Bool:=fB false true false 1 1 n nm sub k && qA nm
def qxi (n:Int) (nm sub:Str) (k:Nat):Bool:=fB false false false 0 0 n nm sub k
def qxj (n:Int) (nm sub:Str) (k:Nat):Bool:=fB true false false 1 1 n nm sub k && (ile 0 n && ilt n 4)
def qxk (n:Int) (nm sub:Str) (k:Nat):Bool:=fB false false false 1 1 n nm sub k
def qxl (n:Int) (nm sub:Str) (k:Nat):Bool:=fB false false false 1 1 n nm sub k
def qxm (n:Int) (nm sub:Str) (k:Nat):Bool:=fB false false false 2 2 n nm sub k
def qxn (n:Int) (nm sub:Str) (k:Nat):Bool:=fB false false false 2 2 n nm sub k
def qxo (n:Int) (nm sub:Str) (k:Nat):Bool:=fB false false false 2 2 n nm sub k
def qxp (n:Int) (nm sub:Str) (k:Nat):Bool:=fB false false false 2 2 n nm sub k
def qxq (n:Int) (nm sub:Str) (k:Nat):Bool:=fB false false false 2 2 n nm sub k
def qxr (n:Int) (nm sub:Str) (k:Nat):Bool:=fB false false false 2 2 n nm sub k
def qxs (n:Int) (nm sub:Str) (k:Nat):Bool:=fB false false false 2 2 n nm sub k
def qxt (n:Int) (nm sub:Str) (k:Nat):Bool:=fB false false false 2 2 n nm sub k
def qxu (n:Int) (nm sub:Str) (k:Nat):Bool:=fB false false false 2 2 n nm sub k
def qxv (n:Int) (nm sub:Str) (k:Nat):Bool:=fB false false false 2 2 n nm sub k
def qxw (n:Int) (nm sub:Str) (k:Nat):Bool:=fB false false false 3 3 n nm sub k
def qgA (op n:Int) (nm sub:Str) (k:Nat):Bool:=
 bif op == 0 then nB0 n nm sub k else 
 bif op == 1 then nB1 n nm sub k else 
 bif op == 2 then nB2 n nm sub k else 
 bif op == 3 then nB3 n nm sub k else 
 bif op == 4 then nB4 n nm sub k else 
 bif op == 5 then nB5 n nm sub k else 
 bif op == 6 then nB6 n nm sub k else 
 bif op == 7 then nB7 n nm sub k else 
 bif op == 8 then nB8 n nm sub k else 
 bif op == 9 then nB9 n nm sub k else 
 bif op == 10 then qxh n nm sub k else 
 bif op == 11 then qxi n nm sub k else 
 bif op == 12 then qxj n nm sub k else 
 bif op == 13 then qxk n nm sub k else 
 bif op == 14 then qxl n nm sub k else 
 bif op == 15 then qxm n nm sub k else 
 bif op == 16 then qxn n nm sub k else 
 bif op == 17 then qxo n nm sub k else 
 bif op == 18 then qxp n nm sub k else 
 bif op == 19 then qxq n nm sub k else 
 bif op == 20 then qxr n nm sub k else 
 bif op == 21 then qxs n nm sub k else 
 bif op == 22 then qxt n nm sub k else 
 bif op == 23 then qxu n nm sub k else 
 bif op == 24 then qxv n nm sub k else 
 bif op == 25 then qxw n nm sub k else false
def ND (h:List qf) (op:Int) (B:Int→Str→Str→Nat→Bool):Prop:=∀(n:Int) (nm sub:Str) (aS:List qa),Wd (.fn 59 [] []) [.agg [.int .i64 op,.int .i64 n,.str nm,.str sub,.lst aS .no]] h = some (.ret (.bool (B n nm sub aS.length)),h,false)
set_option maxHeartbeats 1000000 in
theorem qzM:ND h 0 nB0:=by
 intro n nm sub aS
 have hf:=fun (h:List qf)=>qap (h:=h) 0 n nm sub aS true false false 0 0
 rw [qi rfl (show T.get 59 = some c59 by kernel_rfl)]
 cases hF:fB true false false 0 0 n nm sub aS.length <;> simp only [c59,sT.1,sC.1,qc,qb,Nat.testBit,simprocAttr,-Int.reduceNatCast',hf,hF,nB0,qan,qU]
set_option maxHeartbeats 1000000 in
theorem qzN:ND h 1 nB1:=by
 intro n nm sub aS
 have hf:=fun (h:List qf)=>qap (h:=h) 1 n nm sub aS false false false 0 0
 rw [qi rfl (show T.get 59 = some c59 by kernel_rfl)]
 cases hF:fB false false false 0 0 n nm sub aS.length <;> simp only [c59,sT.1,sC.1,qc,qb,Nat.testBit,simprocAttr,-Int.reduceNatCast',hf,hF,nB1,qan,qU]
set_option maxHeartbeats 1000000 in
theorem qzO:ND h 2 nB2:=by
 intro n nm sub aS
 have hf:=fun (h:List qf)=>qap (h:=h) 2 n nm sub aS false false false 0 0
 rw [qi rfl (show T.get 59 = some c59 by kernel_rfl)]
 cases hF:fB false false false 0 0 n nm sub aS.length <;> simp only [c59,sT.1,sC.1,qc,qb,Nat.testBit,simprocAttr,-Int.reduceNatCast',hf,hF,nB2,qan,qU]
set_option maxHeartbeats 1000000 in
theorem qzP:ND h 3 nB3:=by
 intro n nm sub aS
 have hf:=fun (h:List qf)=>qap (h:=h) 3 n nm sub aS false true false 0 0
 rw [qi rfl (show T.get 59 = some c59 by kernel_rfl)]
 cases hF:fB false true false 0 0 n nm sub aS.length <;> simp only [c59,sT.1,sC.1,qc,qb,Nat.testBit,simprocAttr,-Int.reduceNatCast',hf,hF,nB3,qan,qU]
set_option maxHeartbeats 1000000 in
theorem qzQ:ND h 4 nB4:=by
 intro n nm sub aS
 have hf:=fun (h:List qf)=>qap (h:=h) 4 n nm sub aS false true false 0 0
 rw [qi rfl (show T.get 59 = some c59 by kernel_rfl)]
 cases hF:fB false true false 0 0 n nm sub aS.length <;> simp only [c59,sT.1,sC.1,qc,qb,Nat.testBit,simprocAttr,-Int.reduceNatCast',hf,hF,nB4,qan,qU]
set_option maxHeartbeats 1000000 in
theorem qzR:ND h 5 nB5:=by
 intro n nm sub aS
 have hf:=fun (h:List qf)=>qap (h:=h) 5 n nm sub aS false true true 0 0
 rw [qi rfl (show T.get 59 = some c59 by kernel_rfl)]
 cases hF:fB false true true 0 0 n nm sub aS.length <;> cases h1:qA nm <;> simp only [c59,sT.1,sC.1,qc,qb,Nat.testBit,simprocAttr,-Int.reduceNatCast',hf,hF,nB5,qan,qU,h1]
set_option maxHeartbeats 1000000 in
theorem qzS:ND h 6 nB6:=by
 intro n nm sub aS
 have hf:=fun (h:List qf)=>qap (h:=h) 6 n nm sub aS false false false 1 4
 rw [qi rfl (show T.get 59 = some c59 by kernel_rfl)]
 cases hF:fB false false false 1 4 n nm sub aS.length <;> simp only [c59,sT.1,sC.1,qc,qb,Nat.testBit,simprocAttr,-Int.reduceNatCast',hf,hF,nB6,qan,qU]
set_option maxHeartbeats 1000000 in
theorem qzT:ND h 7 nB7:=by
 intro n nm sub aS
 have hf:=fun (h:List qf)=>qap (h:=h) 7 n nm sub aS false true false 0 0
 rw [qi rfl (show T.get 59 = some c59 by kernel_rfl)]
 cases hF:fB false true false 0 0 n nm sub aS.length <;> simp only [c59,sT.1,sC.1,qc,qb,Nat.testBit,simprocAttr,-Int.reduceNatCast',hf,hF,nB7,qan,qU]
set_option maxHeartbeats 1000000 in
theorem qzU:ND h 8 nB8:=by
 intro n nm sub aS
 have hf:=fun (h:List qf)=>qap (h:=h) 8 n nm sub aS false true false 0 0
 rw [qi rfl (show T.get 59 = some c59 by kernel_rfl)]
 cases hF:fB false true false 0 0 n nm sub aS.length <;> simp only [c59,sT.1,sC.1,qc,qb,Nat.testBit,simprocAttr,-Int.reduceNatCast',hf,hF,nB8,qan,qU]
set_option maxHeartbeats 1000000 in
theorem qzV:ND h 9 nB9:=by
 intro n nm sub aS
 have hf:=fun (h:List qf)=>qap (h:=h) 9 n nm sub aS false true false 0 0
 rw [qi rfl (show T.get 59 = some c59 by kernel_rfl)]
 cases hF:fB false true false 0 0 n nm sub aS.length <;> simp only [c59,sT.1,sC.1,qc,qb,Nat.testBit,simprocAttr,-Int.reduceNatCast',hf,hF,nB9,qan,qU]
set_option maxHeartbeats 1000000 in
theorem qxB:ND h 10 qxh:=by
 intro n nm sub aS
 have hf:=fun (h:List qf)=>qap (h:=h) 10 n nm sub aS false true false 1 1
 rw [qi rfl (show T.get 59 = some c59 by kernel_rfl)]
 cases hF:fB false true false 1 1 n nm sub aS.length <;> simp only [c59,sT.1,sC.1,qc,qb,Nat.testBit,simprocAttr,-Int.reduceNatCast',hf,hF,qxh,qan,qU]
set_option maxHeartbeats 1000000 in
theorem qxC:ND h 11 qxi:=by
 intro n nm sub aS
 have hf:=fun (h:List qf)=>qap (h:=h) 11 n nm sub aS false false false 0 0
 rw [qi rfl (show T.get 59 = some c59 by kernel_rfl)]
 cases hF:fB false false false 0 0 n nm sub aS.length <;> simp only [c59,sT.1,sC.1,qc,qb,Nat.testBit,simprocAttr,-Int.reduceNatCast',hf,hF,qxi,qan,qU]
set_option maxHeartbeats 1000000 in
theorem qxD:ND h 12 qxj:=by
 intro n nm sub aS
 have hf:=fun (h:List qf)=>qap (h:=h) 12 n nm sub aS true false false 1 1
 rw [qi rfl (show T.get 59 = some c59 by kernel_rfl)]
 cases hF:fB true false false 1 1 n nm sub aS.length <;> cases h1:ile 0 n <;> simp only [c59,sT.1,sC.1,qc,qb,Nat.testBit,simprocAttr,-Int.reduceNatCast',hf,hF,qxj,qan,qU,h1]
set_option maxHeartbeats 1000000 in
theorem qxE:ND h 13 qxk:=by
 intro n nm sub aS
 have hf:=fun (h:List qf)=>qap (h:=h) 13 n nm sub aS false false false 1 1
 rw [qi rfl (show T.get 59 = some c59 by kernel_rfl)]
 cases hF:fB false false false 1 1 n nm sub aS.length <;> simp only [c59,sT.1,sC.1,qc,qb,Nat.testBit,simprocAttr,-Int.reduceNatCast',hf,hF,qxk,qan,qU]
set_option maxHeartbeats 1000000 in
theorem qxF:ND h 14 qxl:=by
 intro n nm sub aS
 have hf:=fun (h:List qf)=>qap (h:=h) 14 n nm sub aS false false false 1 1
 rw [qi rfl (show T.get 59 = some c59 by kernel_rfl)]
 cases hF:fB false false false 1 1 n nm sub aS.length <;> simp only [c59,sT.1,sC.1,qc,qb,Nat.testBit,simprocAttr,-Int.reduceNatCast',hf,hF,qxl,qan,qU]
set_option maxHeartbeats 1000000 in
theorem qxG:ND h 15 qxm:=by
 intro n nm sub aS
 have hf:=fun (h:List qf)=>qap (h:=h) 15 n nm sub aS false false false 2 2
 rw [qi rfl (show T.get 59 = some c59 by kernel_rfl)]
 cases hF:fB false false false 2 2 n nm sub aS.length <;> simp only [c59,sT.1,sC.1,qc,qb,Nat.testBit,simprocAttr,-Int.reduceNatCast',hf,hF,qxm,qan,qU]
set_option maxHeartbeats 1000000 in
theorem qxH:ND h 16 qxn:=by
 intro n nm sub aS
 have hf:=fun (h:List qf)=>qap (h:=h) 16 n nm sub aS false false false 2 2
 rw [qi rfl (show T.get 59 = some c59 by kernel_rfl)]
 cases hF:fB false false false 2 2 n nm sub aS.length <;> simp only [c59,sT.1,sC.1,qc,qb,Nat.testBit,simprocAttr,-Int.reduceNatCast',hf,hF,qxn,qan,qU]
set_option maxHeartbeats 1000000 in
theorem qxI:ND h 17 qxo:=by
 intro n nm sub aS
 have hf:=fun (h:List qf)=>qap (h:=h) 17 n nm sub aS false false false 2 2
 rw [qi rfl (show T.get 59 = some c59 by kernel_rfl)]
 cases hF:fB false false false 2 2 n nm sub aS.length <;> simp only [c59,sT.1,sC.1,qc,qb,Nat.testBit,simprocAttr,-Int.reduceNatCast',hf,hF,qxo,qan,qU]
set_option maxHeartbeats 1000000 in
theorem qxJ:ND h 18 qxp:=by
 intro n nm sub aS
 have hf:=fun (h:List qf)=>qap (h:=h) 18 n nm sub aS false false false 2 2
 rw [qi rfl (show T.get 59 = some c59 by kernel_rfl)]
 cases hF:fB false false false 2 2 n nm sub aS.length <;> simp only [c59,sT.1,sC.1,qc,qb,Nat.testBit,simprocAttr,-Int.reduceNatCast',hf,hF,qxp,qan,qU]
set_option maxHeartbeats 1000000 in
theorem qxK:ND h 19 qxq:=by
 intro n nm sub aS
 have hf:=fun (h:List qf)=>qap (h:=h) 19 n nm sub aS false false false 2 2
 rw [qi rfl (show T.get 59 = some c59 by kernel_rfl)]
 cases hF:fB false false false 2 2 n nm sub aS.length <;> simp only [c59,sT.1,sC.1,qc,qb,Nat.testBit,simprocAttr,-Int.reduceNatCast',hf,hF,qxq,qan,qU]
set_option maxHeartbeats 1000000 in
theorem qxL:ND h 20 qxr:=by
 intro n nm sub aS
 have hf:=fun (h:List qf)=>qap (h:=h) 20 n nm sub aS false false false 2 2
 rw [qi rfl (show T.get 59 = some c59 by kernel_rfl)]
 cases hF:fB false false false 2 2 n nm sub aS.length <;> simp only [c59,sT.1,sC.1,qc,qb,Nat.testBit,simprocAttr,-Int.reduceNatCast',hf,hF,qxr,qan,qU]
set_option maxHeartbeats 1000000 in
theorem qxM:ND h 21 qxs:=by
 intro n nm sub aS
 have hf:=fun (h:List qf)=>qap (h:=h) 21 n nm sub aS false false false 2 2
 rw [qi rfl (show T.get 59 = some c59 by kernel_rfl)]
 cases hF:fB false false false 2 2 n nm sub aS.length <;> simp only [c59,sT.1,sC.1,qc,qb,Nat.testBit,simprocAttr,-Int.reduceNatCast',hf,hF,qxs,qan,qU]
set_option maxHeartbeats 1000000 in
theorem qxN:ND h 22 qxt:=by
 intro n nm sub aS
 have hf:=fun (h:List qf)=>qap (h:=h) 22 n nm sub aS false false false 2 2
 rw [qi rfl (show T.get 59 = some c59 by kernel_rfl)]
 cases hF:fB false false false 2 2 n nm sub aS.length <;> simp only [c59,sT.1,sC.1,qc,qb,Nat.testBit,simprocAttr,-Int.reduceNatCast',hf,hF,qxt,qan,qU]
set_option maxHeartbeats 1000000 in
theorem qxO:ND h 23 qxu:=by
 intro n nm sub aS
 have hf:=fun (h:List qf)=>qap (h:=h) 23 n nm sub aS false false false 2 2
 rw [qi rfl (show T.get 59 = some c59 by kernel_rfl)]
 cases hF:fB false false false 2 2 n nm sub aS.length <;> simp only [c59,sT.1,sC.1,qc,qb,Nat.testBit,simprocAttr,-Int.reduceNatCast',hf,hF,qxu,qan,qU]
set_option maxHeartbeats 1000000 in
theorem qxP:ND h 24 qxv:=by
 intro n nm sub aS
 have hf:=fun (h:List qf)=>qap (h:=h) 24 n nm sub aS false false false 2 2
 rw [qi rfl (show T.get 59 = some c59 by kernel_rfl)]
 cases hF:fB false false false 2 2 n nm sub aS.length <;> simp only [c59,sT.1,sC.1,qc,qb,Nat.testBit,simprocAttr,-Int.reduceNatCast',hf,hF,qxv,qan,qU]
set_option maxHeartbeats 1000000 in
theorem qxQ:ND h 25 qxw:=by
 intro n nm sub aS
 have hf:=fun (h:List qf)=>qap (h:=h) 25 n nm sub aS false false false 3 3
 rw [qi rfl (show T.get 59 = some c59 by kernel_rfl)]
 cases hF:fB false false false 3 3 n nm sub aS.length <;> simp only [c59,sT.1,sC.1,qc,qb,Nat.testBit,simprocAttr,-Int.reduceNatCast',hf,hF,qxw,qan,qU]
theorem qC8 {op:Int} (ho:¬ (0 ≤ op∧op ≤ 25)):(op == 0) = false∧(op == 1) = false∧(op == 2) = false∧(op == 3) = false∧(op == 4) = false∧(op == 5) = false∧(op == 6) = false∧(op == 7) = false∧(op == 8) = false∧(op == 9) = false∧(op == 10) = false∧(op == 11) = false∧(op == 12) = false∧(op == 13) = false∧(op == 14) = false∧(op == 15) = false∧(op == 16) = false∧(op == 17) = false∧(op == 18) = false∧(op == 19) = false∧(op == 20) = false∧(op == 21) = false∧(op == 22) = false∧(op == 23) = false∧(op == 24) = false∧(op == 25) = false:=by
 refine ⟨?_,?_,?_,?_,?_,?_,?_,?_,?_,?_,?_,?_,?_,?_,?_,?_,?_,?_,?_,?_,?_,?_,?_,?_,?_,?_⟩ <;> rw [beq_eq_false_iff_ne] <;> omega
theorem qcl {op:Int} (ho:¬ (0 ≤ op∧op ≤ 25)) (n:Int) (nm sub:Str) (k:Nat):qgA op n nm sub k = false:=by
 simp only [qgA,qC8 ho,cond_false]
set_option maxHeartbeats 1000000 in
theorem qxS {op:Int} (ho:¬ (0 ≤ op∧op ≤ 25)) (n:Int) (nm sub:Str) (aS:List qa):Wd (.fn 59 [] []) [.agg [.int .i64 op,.int .i64 n,.str nm,.str sub,.lst aS .no]] h = some (.ret (.bool false),h,false):=by
 rw [qi rfl (show T.get 59 = some c59 by kernel_rfl)]
 simp only [c59,sT.1,sC.1,qc,qb,Nat.testBit,simprocAttr,-Int.reduceNatCast',qC8 ho]
theorem qzX (op n:Int) (nm sub:Str) (aS:List qa):Wd (.fn 59 [] []) [.agg [.int .i64 op,.int .i64 n,.str nm,.str sub,.lst aS .no]] h = some (.ret (.bool (qgA op n nm sub aS.length)),h,false):=by
 by_cases ho:0 ≤ op∧op ≤ 25
 ·have:op = 0∨op = 1∨op = 2∨op = 3∨op = 4∨op = 5∨op = 6∨op = 7∨op = 8∨op = 9∨op = 10∨op = 11∨op = 12∨op = 13∨op = 14∨op = 15∨op = 16∨op = 17∨op = 18∨op = 19∨op = 20∨op = 21∨op = 22∨op = 23∨op = 24∨op = 25:=by omega
  rcases this with rfl | rfl | rfl | rfl | rfl | rfl | rfl | rfl | rfl | rfl | rfl | rfl | rfl | rfl | rfl | rfl | rfl | rfl | rfl | rfl | rfl | rfl | rfl | rfl | rfl | rfl
  ·exact qzM n nm sub aS
  ·exact qzN n nm sub aS
  ·exact qzO n nm sub aS
  ·exact qzP n nm sub aS
  ·exact qzQ n nm sub aS
  ·exact qzR n nm sub aS
  ·exact qzS n nm sub aS
  ·exact qzT n nm sub aS
  ·exact qzU n nm sub aS
  ·exact qzV n nm sub aS
  ·exact qxB n nm sub aS
  ·exact qxC n nm sub aS
  ·exact qxD n nm sub aS
  ·exact qxE n nm sub aS
  ·exact qxF n nm sub aS
  ·exact qxG n nm sub aS
  ·exact qxH n nm sub aS
  ·exact qxI n nm sub aS
  ·exact qxJ n nm sub aS
  ·exact qxK n nm sub aS
  ·exact qxL n nm sub aS
  ·exact qxM n nm sub aS
  ·exact qxN n nm sub aS
  ·exact qxO n nm sub aS
  ·exact qxP n nm sub aS
  ·exact qxQ n nm sub aS
 ·rw [qcl ho]
  exact qxS ho n nm sub aS
end
end Go.Proofs.YtkmlapholimbcaaGreatDoor.AE
namespace Go.Proofs.YtkmlapholimbcaaGreatDoor.AE
open Go.AE
def right:Nat→Exl→Bool
 | 0,_=>false
 | d + 1,.mk op n nm sub aS=>qgA op n nm sub aS.length && aS.all (right d)
theorem qjU (a b:Int):ilt a b = !(ile b a):=by
 rw [qM,qay]
 by_cases h:a < b
 ·rw [decide_eq_true h,decide_eq_false (by omega)];rfl
 ·rw [decide_eq_false h,decide_eq_true (by omega)];rfl
theorem qDO (n:Int):ilt n 4 = ile n 3:=by
 rw [qM,qay]
 by_cases h:n < 4
 ·rw [decide_eq_true h,decide_eq_true (by omega)]
 ·rw [decide_eq_false h,decide_eq_false (by omega)]
theorem qyE {a b:Int} (h:a < b):ilt a b = true:=by rw [qM];exact decide_eq_true h
theorem qyD {a b:Int} (h:¬ a < b):ilt a b = false:=by rw [qM];exact decide_eq_false h
theorem qDP {a b:Int} (h:a ≤ b):ile a b = true:=by rw [qay];exact decide_eq_true h
theorem qC6 {a b:Int} (h:¬ a ≤ b):ile a b = false:=by rw [qay];exact decide_eq_false h
def dOK:Nat→Exl→Bool
 | 0,_=>false
 | m + 1,.mk _ _ _ _ aS=>aS.all (dOK m)
theorem qhl:∀(d:Nat) (e:Exl),right d e = true→dOK d e = true
 | 0,_,h=>by rw [right] at h;cases h
 | d + 1,.mk op n nm sub aS,h=>by
  rw [right,Bool.and_eq_true,List.all_eq_true] at h
  rw [dOK,List.all_eq_true]
  exact fun a ha=>qhl d a (h.2 a ha)
set_option maxHeartbeats 1000000 in
theorem qET:∀(m:Nat),m ≤ 100→∀(e:Exl) (h:List qf),(∃k,Fit k e)→∃v:Nat,Wd (.fn 35 [] []) [exV e,.int .i64 (m:Nat)] h = some (.ret (.int .i64 (v:Nat)),h,false)∧1 ≤ v∧v ≤ m + 1∧decide (v ≤ m) = dOK m e:=by
 intro m
 induction m with
 | zero=>
  rintro _ ⟨op,n,nm,sub,aS⟩ h _
  have z0:ile ((0:Nat):Int) 0 = true:=by kernel_rfl
  have w0:IntKind.i64.wrap (((0:Nat):Int) + 1) = ((1:Nat):Int):=by kernel_rfl
  refine ⟨1,?_,by omega,by omega,by rw [dOK];rfl⟩
  rw [qe,qi rfl (show T.get 35 = some c35 by kernel_rfl)]
  simp only [c35,sT.1,sC.1,qc,qb,Nat.testBit,simprocAttr,-Int.reduceNatCast',z0,w0]
 | succ m ih=>
  rintro hm ⟨op,n,nm,sub,aS⟩ h ⟨k,hk⟩
  have ih:=ih (by omega)
  obtain ⟨k,rfl⟩ :∃k',k = k' + 1:=by cases k with | zero=>exact hk.elim | succ k=>exact ⟨k,rfl⟩
  have hl:aS.length ≤ 20:=hk.1
  have hf:∀a ∈ aS,∃k,Fit k a:=fun a ha=>⟨k,hk.2 a ha⟩
  have z0:ile ((m + 1:Nat):Int) 0 = false:=qC6 (by omega)
  have z1:IntKind.i64.wrap (((m + 1:Nat):Int) - 1) = ((m:Nat):Int):=by rw [qbf (by omega) (by omega)];omega
  rw [dOK,qe]
  have loop:∀q st,(∃(tt:List qa) (G:List qf) (i qcg:Nat),st = ⟨tt,G,false⟩∧tt.length = 32∧G.take h.length = h∧h.length ≤ G.length∧lkp tt 1 = .int .i64 (m + 1:Nat)∧lkp tt 5 = .int .i64 (qcg:Nat)∧lkp tt 13 = .lst (aS.map exV) .no∧lkp tt 14 = .int .i64 (aS.length:Nat)∧lkp tt 15 = .int .i64 (i:Nat)∧i + q = aS.length∧1 ≤ qcg∧qcg ≤ m + 1∧(aS.drop i).all (dOK m) = aS.all (dOK m))→
    ∃x st',qo h.length Wd (.loop qjY) st = some (x,st')∧(∃(tt:List qa) (G:List qf),st' = ⟨tt,G,false⟩∧tt.length = 32∧G.take h.length = h∧((x = .exit 0∧aS.all (dOK m) = true∧∃qcg:Nat,lkp tt 5 = .int .i64 (qcg:Nat)∧1 ≤ qcg∧qcg ≤ m + 1)∨(x = .ret∧aS.all (dOK m) = false∧lkp tt 4 = .int .i64 (m + 2:Nat)))):=by
   refine qbj _ (fun x st'=>∃(tt:List qa) (G:List qf),st' = ⟨tt,G,false⟩∧tt.length = 32∧G.take h.length = h∧((x = .exit 0∧aS.all (dOK m) = true∧∃qcg:Nat,lkp tt 5 = .int .i64 (qcg:Nat)∧1 ≤ qcg∧qcg ≤ m + 1)∨(x = .ret∧aS.all (dOK m) = false∧lkp tt 4 = .int .i64 (m + 2:Nat)))) ?_
   rintro q st ⟨tt,G,i,qcg,rfl,ht,hG1,hG2,e1,e5,e13,e14,e15,hiq,hd1,hd2,hR⟩
   generalize he:qo h.length Wd qjY _ = r
   rcases Nat.lt_or_ge i aS.length with hi | hi
   ·have c1:ilt (i:Int) (aS.length:Int) = true:=qyE (by omega)
    have w:=qX (n:=i) (by omega)
    obtain ⟨v,hv,v1,v2,v3⟩:=ih aS[i] (G ++ [.cells (aS[i]).enc]) (hf _ (List.getElem_mem hi))
    have hg:(aS.map exV)[i]? = some (exV aS[i]):=by rw [List.getElem?_map,List.getElem?_eq_getElem hi];rfl
    rw [List.drop_eq_getElem_cons hi,List.all_cons,←v3] at hR
    generalize aS[i] = y at hv hg
    obtain ⟨op',n',nm',sb',as'⟩:=y
    rw [qe] at hg
    rw [qe,qa6] at hv
    have hx:qc7 5 (.lst (aS.map exV) .no) (.int .i64 (i:Nat)) = some (.iptr [.int .i64 op',.int .i64 n',.str nm',.str sb',.lst (as'.map exV) .no] 0):=qF hg rfl
    have hbl:Nat.ble h.length G.length = true:=qau hG2
    have w1:IntKind.i64.wrap (1 + (v:Int)) = ((v + 1:Nat):Int):=by rw [qbf (by omega) (by omega)];omega
    have mx:(if ((v + 1:Nat):Int) > (qcg:Int) then ((v + 1:Nat):Int) else (qcg:Int)) = ((max qcg (v + 1):Nat):Int):=by split <;> omega
    cases hb:decide (v ≤ m) with
    | true=>
     have hvm:v ≤ m:=of_decide_eq_true hb
     rw [hb,Bool.true_and] at hR
     have c2:ilt ((m + 1:Nat):Int) ((max qcg (v + 1):Nat):Int) = false:=qyD (by omega)
     simp only [qjY,sT.1,sC.1,qc,qb,Nat.testBit,simprocAttr,-Int.reduceNatCast',ht,e1,e5,e13,e14,e15,c1,hx,hbl,hv,z1,w1,mx,qqt,c2,w] at he
     subst he
     refine .inl ⟨_,q - 1,rfl,by omega,_,_,i + 1,max qcg (v + 1),rfl,by simp only [qj,ht],by rw [List.take_append_of_le_length hG2,hG1],by simp;omega,?_,?_,?_,?_,?_,by omega,by omega,by omega,hR⟩
     ·simp only [sT.1,sC.1,qc,qb,Nat.testBit,simprocAttr,-Int.reduceNatCast',ht,e1]
     ·simp only [sT.1,sC.1,qc,qb,Nat.testBit,simprocAttr,-Int.reduceNatCast',ht]
     ·simp only [sT.1,sC.1,qc,qb,Nat.testBit,simprocAttr,-Int.reduceNatCast',ht,e13]
     ·simp only [sT.1,sC.1,qc,qb,Nat.testBit,simprocAttr,-Int.reduceNatCast',ht,e14]
     ·simp only [sT.1,sC.1,qc,qb,Nat.testBit,simprocAttr,-Int.reduceNatCast',ht]
    | false=>
     have hvm:¬ v ≤ m:=of_decide_eq_false hb
     rw [hb,Bool.false_and] at hR
     have hmx:max qcg (v + 1) = m + 2:=by omega
     have c2:ilt ((m + 1:Nat):Int) ((max qcg (v + 1):Nat):Int) = true:=qyE (by omega)
     simp only [qjY,sT.1,sC.1,qc,qb,Nat.testBit,simprocAttr,-Int.reduceNatCast',ht,e1,e5,e13,e14,e15,c1,hx,hbl,hv,z1,w1,mx,qqt,c2,w] at he
     subst he
     refine .inr ⟨_,_,rfl,by simp,_,_,rfl,?_,?_,.inr ⟨rfl,hR.symm,?_⟩⟩
     ·simp only [qj,ht]
     ·rw [List.take_append_of_le_length hG2,hG1]
     ·simp only [sT.1,sC.1,qc,qb,Nat.testBit,simprocAttr,-Int.reduceNatCast',ht,hmx]
   ·have c1:ilt (i:Int) (aS.length:Int) = false:=qyD (by omega)
    rw [List.drop_eq_nil_of_le hi,List.all_nil] at hR
    simp only [qjY,sT.1,sC.1,qc,qb,Nat.testBit,simprocAttr,-Int.reduceNatCast',ht,e1,e5,e13,e14,e15,c1] at he
    subst he
    exact .inr ⟨_,_,rfl,by simp,_,_,rfl,by simp only [qj,ht],hG1,.inl ⟨rfl,hR.symm,qcg,by simp only [sT.1,sC.1,qc,qb,Nat.testBit,simprocAttr,-Int.reduceNatCast',ht,e5],hd1,hd2⟩⟩
  generalize hw:Wd _ _ h = w
  rw [qi rfl (show T.get 35 = some c35 by kernel_rfl)] at hw
  simp only [c35,sT.1,sC.1,qc,qb,Nat.testBit,simprocAttr,-Int.reduceNatCast',z0,List.length_map] at hw
  generalize hr:qo h.length Wd (.loop qjY) _ = r at hw
  obtain ⟨x,st',rfl,tt,G,rfl,ht,hG,hq⟩:=qgr hr (loop aS.length _ ⟨_,_,0,1,rfl,by simp only [sT.1,sC.1,qc,qb,Nat.testBit,simprocAttr,-Int.reduceNatCast'],by simp,by simp,by simp only [sT.1,sC.1,qc,qb,Nat.testBit,simprocAttr,-Int.reduceNatCast'],by simp only [sT.1,sC.1,qc,qb,Nat.testBit,simprocAttr,-Int.reduceNatCast'];rfl,by simp only [sT.1,sC.1,qc,qb,Nat.testBit,simprocAttr,-Int.reduceNatCast'],by simp only [sT.1,sC.1,qc,qb,Nat.testBit,simprocAttr,-Int.reduceNatCast'],by simp only [sT.1,sC.1,qc,qb,Nat.testBit,simprocAttr,-Int.reduceNatCast',Int.natCast_zero],by omega,by omega,by omega,rfl⟩)
  rcases hq with ⟨rfl,hall,qcg,e5,b1,b2⟩ | ⟨rfl,hall,e4⟩
  ·simp only [sT.1,sC.1,qc,qb,Nat.testBit,simprocAttr,-Int.reduceNatCast',ht,e5] at hw
   subst hw
   refine ⟨qcg,congrArg some (qa0 hG rfl),b1,by omega,?_⟩
   rw [hall]
   exact decide_eq_true (by omega)
  ·simp only [sT.1,sC.1,qc,qb,Nat.testBit,simprocAttr,-Int.reduceNatCast',ht,e4] at hw
   subst hw
   refine ⟨m + 2,congrArg some (qa0 hG rfl),by omega,by omega,?_⟩
   rw [hall]
   exact decide_eq_false (by omega)
def qyI (d:Nat):Prop:=∀(e:Exl) (h:List qf),(∃k,Fit k e)→dOK d e = true→Wd (.fn 36 [] []) [exV e] h = some (.ret (.bool (right d e)),h,false)
theorem qDl {d:Nat} (hn:qyI d) (aS:List Exl) (hl:aS.length ≤ 20) (hf:∀a ∈ aS,∃k,Fit k a) (hD:∀a ∈ aS,dOK d a = true) (h:List qf) :
  Wd (.fn 60 [] []) [.lst (aS.map exV) .no,.fn 36 [] []] h = some (.ret (.bool (aS.all (right d))),h,false):=by
 have loop:∀q st,(∃(tt:List qa) (G:List qf) (i:Nat),st = ⟨tt,G,false⟩∧tt.length = 18∧G.take h.length = h∧h.length ≤ G.length∧lkp tt 1 = .fn 36 [] []∧lkp tt 7 = .lst (aS.map exV) .no∧lkp tt 8 = .int .i64 (aS.length:Nat)∧lkp tt 9 = .int .i64 (i:Nat)∧i + q = aS.length∧(aS.drop i).all (right d) = aS.all (right d))→
   ∃x st',qo h.length Wd (.loop qjZ) st = some (x,st')∧(∃(tt:List qa) (G:List qf),st' = ⟨tt,G,false⟩∧tt.length = 18∧G.take h.length = h∧((x = .exit 0∧aS.all (right d) = true)∨(x = .ret∧aS.all (right d) = false∧lkp tt 4 = .bool false))):=by
  refine qbj _ (fun x st'=>∃(tt:List qa) (G:List qf),st' = ⟨tt,G,false⟩∧tt.length = 18∧G.take h.length = h∧((x = .exit 0∧aS.all (right d) = true)∨(x = .ret∧aS.all (right d) = false∧lkp tt 4 = .bool false))) ?_
  rintro q st ⟨tt,G,i,rfl,ht,hG1,hG2,e1,e7,e8,e9,hiq,hR⟩
  generalize he:qo h.length Wd qjZ _ = r
  rcases Nat.lt_or_ge i aS.length with hi | hi
  ·have c1:ilt (i:Int) (aS.length:Int) = true:=qyE (by omega)
   have w:=qX (n:=i) (by omega)
   have hv:=hn aS[i] (G ++ [.cells (aS[i]).enc]) (hf _ (List.getElem_mem hi)) (hD _ (List.getElem_mem hi))
   have hg:(aS.map exV)[i]? = some (exV aS[i]):=by rw [List.getElem?_map,List.getElem?_eq_getElem hi];rfl
   rw [List.drop_eq_getElem_cons hi,List.all_cons] at hR
   generalize aS[i] = y at hv hg hR
   obtain ⟨op',n',nm',sb',as'⟩:=y
   rw [qe] at hg
   rw [qe,qa6] at hv
   have hx:qc7 5 (.lst (aS.map exV) .no) (.int .i64 (i:Nat)) = some (.iptr [.int .i64 op',.int .i64 n',.str nm',.str sb',.lst (as'.map exV) .no] 0):=qF hg rfl
   have hbl:Nat.ble h.length G.length = true:=qau hG2
   cases hb:right d (.mk op' n' nm' sb' as') with
   | true=>
    rw [hb,Bool.true_and] at hR
    rw [hb] at hv
    simp only [qjZ,sT.1,sC.1,qc,qb,Nat.testBit,simprocAttr,-Int.reduceNatCast',ht,e1,e7,e8,e9,c1,hx,hbl,hv,w] at he
    subst he
    refine .inl ⟨_,q - 1,rfl,by omega,_,_,i + 1,rfl,by simp only [qj,ht],by rw [List.take_append_of_le_length hG2,hG1],by simp;omega,?_,?_,?_,?_,by omega,hR⟩
    ·simp only [sT.1,sC.1,qc,qb,Nat.testBit,simprocAttr,-Int.reduceNatCast',ht,e1]
    ·simp only [sT.1,sC.1,qc,qb,Nat.testBit,simprocAttr,-Int.reduceNatCast',ht,e7]
    ·simp only [sT.1,sC.1,qc,qb,Nat.testBit,simprocAttr,-Int.reduceNatCast',ht,e8]
    ·simp only [sT.1,sC.1,qc,qb,Nat.testBit,simprocAttr,-Int.reduceNatCast',ht]
   | false=>
    rw [hb,Bool.false_and] at hR
    rw [hb] at hv
    simp only [qjZ,sT.1,sC.1,qc,qb,Nat.testBit,simprocAttr,-Int.reduceNatCast',ht,e1,e7,e8,e9,c1,hx,hbl,hv,w] at he
    subst he
    refine .inr ⟨_,_,rfl,by simp,_,_,rfl,?_,?_,.inr ⟨rfl,hR.symm,?_⟩⟩
    ·simp only [qj,ht]
    ·rw [List.take_append_of_le_length hG2,hG1]
    ·simp only [sT.1,sC.1,qc,qb,Nat.testBit,simprocAttr,-Int.reduceNatCast',ht]
  ·have c1:ilt (i:Int) (aS.length:Int) = false:=qyD (by omega)
   rw [List.drop_eq_nil_of_le hi,List.all_nil] at hR
   simp only [qjZ,sT.1,sC.1,qc,qb,Nat.testBit,simprocAttr,-Int.reduceNatCast',ht,e1,e7,e8,e9,c1] at he
   subst he
   exact .inr ⟨_,_,rfl,by simp,_,_,rfl,by simp only [qj,ht],hG1,.inl ⟨rfl,hR.symm⟩⟩
 generalize hw:Wd _ _ h = w
 rw [qi rfl (show T.get 60 = some c60 by kernel_rfl)] at hw
 simp only [c60,sT.1,sC.1,qc,qb,Nat.testBit,simprocAttr,-Int.reduceNatCast',List.length_map] at hw
 generalize hr:qo h.length Wd (.loop qjZ) _ = r at hw
 obtain ⟨x,st',rfl,tt,G,rfl,ht,hG,hq⟩:=qgr hr (loop aS.length _ ⟨_,_,0,rfl,by simp only [sT.1,sC.1,qc,qb,Nat.testBit,simprocAttr,-Int.reduceNatCast'],by simp,by simp,by simp only [sT.1,sC.1,qc,qb,Nat.testBit,simprocAttr,-Int.reduceNatCast'],by simp only [sT.1,sC.1,qc,qb,Nat.testBit,simprocAttr,-Int.reduceNatCast'],by simp only [sT.1,sC.1,qc,qb,Nat.testBit,simprocAttr,-Int.reduceNatCast'],by simp only [sT.1,sC.1,qc,qb,Nat.testBit,simprocAttr,-Int.reduceNatCast',Int.natCast_zero],by omega,rfl⟩)
 rcases hq with ⟨rfl,hall⟩ | ⟨rfl,hall,e4⟩
 ·simp only [sT.1,sC.1,qc,qb,Nat.testBit,simprocAttr,-Int.reduceNatCast',ht] at hw
  subst hw
  rw [hall]
  exact congrArg some (qa0 hG rfl)
 ·simp only [sT.1,sC.1,qc,qb,Nat.testBit,simprocAttr,-Int.reduceNatCast',ht,e4] at hw
  subst hw
  rw [hall]
  exact congrArg some (qa0 hG rfl)
theorem qCk:∀d,qyI d:=by
 intro d
 induction d with
 | zero=>
  rintro e h _ hd
  rw [dOK] at hd
  cases hd
 | succ d ih=>
  rintro ⟨op,n,nm,sub,aS⟩ h ⟨k,hk⟩ hd
  obtain ⟨k,rfl⟩ :∃k',k = k' + 1:=by cases k with | zero=>exact hk.elim | succ k=>exact ⟨k,rfl⟩
  have hf:∀a ∈ aS,∃k,Fit k a:=fun a ha=>⟨k,hk.2 a ha⟩
  rw [dOK,List.all_eq_true] at hd
  have ha:=fun g=>qDl ih aS hk.1 hf hd g
  have hn:=fun g=>qzX (h:=g) op n nm sub (aS.map exV)
  rw [List.length_map] at hn
  rw [qe,right,qi rfl (show T.get 36 = some c36 by kernel_rfl)]
  cases hb:qgA op n nm sub aS.length with
  | false=>simp only [c36,sT.1,sC.1,qc,qb,Nat.testBit,simprocAttr,-Int.reduceNatCast',hn,hb]
  | true=>simp only [c36,sT.1,sC.1,qc,qb,Nat.testBit,simprocAttr,-Int.reduceNatCast',hn,hb,ha]
theorem qBw (e:Exl) (h:List qf) (hk:∃k,Fit k e):Wd (.fn 18 [] []) [exV e] h = some (.ret (.bool (right 20 e)),h,false):=by
 obtain ⟨v,hv,v1,v2,v3⟩:=qET 20 (by omega) e (h ++ [.cells e.enc]) hk
 have hn:=fun hd g=>qCk 20 e g hk hd
 have c20:((20:Nat):Int) = 20:=Eq.trans rfl rfl
 rw [c20] at hv
 cases hd:dOK 20 e with
 | false=>
  rw [hd] at v3
  have hr:right 20 e = false:=by
   cases hr:right 20 e with
   | false=>rfl
   | true=>rw [qhl _ _ hr] at hd;cases hd
  have c1:ile (v:Int) 20 = false:=by have:=of_decide_eq_false v3;exact qC6 (by omega)
  rw [hr]
  obtain ⟨op,n,nm,sub,aS⟩:=e
  rw [qe,qa6] at hv
  rw [qe,qi rfl (show T.get 18 = some c18 by kernel_rfl)]
  simp only [c18,sT.1,sC.1,qc,qb,Nat.testBit,simprocAttr,-Int.reduceNatCast',hv,c1]
 | true=>
  have hn:=hn hd
  rw [hd] at v3
  have c1:ile (v:Int) 20 = true:=by have:=of_decide_eq_true v3;exact qDP (by omega)
  obtain ⟨op,n,nm,sub,aS⟩:=e
  rw [qe,qa6] at hv
  rw [qe] at hn
  rw [qe,qi rfl (show T.get 18 = some c18 by kernel_rfl)]
  simp only [c18,sT.1,sC.1,qc,qb,Nat.testBit,simprocAttr,-Int.reduceNatCast',hv,c1,hn]
end Go.Proofs.YtkmlapholimbcaaGreatDoor.AE
namespace Go.Proofs.YtkmlapholimbcaaGreatDoor.AE
open Go.AE
def BX (s:Str):qf:=.bld 79 5 s
def bsO:Option qf→Str
 | some (.bld _ _ s)=>s
 | _=>[]
def isB:Option qf→Bool
 | some (.bld t e _)=>Nat.beq t 79 && Nat.beq e 5
 | _=>false
theorem qaC (s:Str):bsO (some (BX s)) = s:=Eq.trans rfl rfl
theorem qaG (s:Str):isB (some (BX s)) = true:=Eq.trans rfl rfl
theorem bt:(Nat.beq 79 79 && Nat.beq 5 5) = true:=by kernel_rfl
theorem qaO {o:Option qf} (h:isB o = true):o = some (BX (bsO o)):=by
 unfold isB at h
 split at h
 ·rw [Bool.and_eq_true] at h
  rw [Nat.eq_of_beq_eq_true h.1,Nat.eq_of_beq_eq_true h.2]
  rfl
 ·cases h
section
variable {G:List qf} {id:Nat} {S:Str}
theorem qvq {a:Str} (hS:S.length ≤ qu) (h:a <+: S):a.length ≤ qu:=Nat.le_trans h.length_le hS
theorem qbS (hS:S.length ≤ qu) (u:Str) (h:isB G[id]? = true) (hp:bsO G[id]? ++ u <+: S):Wd (.fn 50 [] []) [.ptr id 0,.str u] G = some (.ret (.tup [.int .i64 (u.length:Nat),.niliface]),G.set id (BX (bsO G[id]? ++ u)),false):=by
 have e:=qaO h
 generalize bsO G[id]? = s at *
 have hl:=qvq hS hp
 rw [List.length_append] at hl
 have hx:wsX 79 5 Wd [.ptr id 0,.str u] G = some (.ret (.tup [.int .i64 (u.length:Nat),.niliface]),G.set id (BX (s ++ u)),false):=by
  have hb:Nat.ble (s.length + u.length) qu = true:=qau hl
  simp only [wsX,e,BX,hb,bt,Bool.and_self,Bool.true_and,cond_true]
 exact (qhx qfp (show X 50 = some (wsX 79 5) by kernel_rfl)).trans hx
theorem qby (hS:S.length ≤ qu) (c:Int) (d:UInt8) (hc:c = (d.toNat:Int)) (h:isB G[id]? = true) (hp:bsO G[id]? ++ [d] <+: S):Wd (.fn 63 [] []) [.ptr id 0,.int .u8 c] G = some (.ret .niliface,G.set id (BX (bsO G[id]? ++ [d])),false):=by
 subst hc
 have e:=qaO h
 generalize bsO G[id]? = s at *
 have hl:=qvq hS hp
 rw [List.length_append] at hl
 have hx:wbX 79 5 Wd [.ptr id 0,.int .u8 (d.toNat:Int)] G = some (.ret .niliface,G.set id (BX (s ++ [d])),false):=by
  have hb:Nat.ble s.length qu = true:=qau (by omega)
  have h0:ile 0 (d.toNat:Int) = true:=by rw [qay];simp
  have h1:ile (d.toNat:Int) 255 = true:=by rw [qay];have:=d.toNat_lt;exact decide_eq_true (by omega)
  have h2:(d.toNat:Int).toNat.toUInt8 = d:=by simp
  simp only [wbX,e,BX,hb,h0,h1,h2,bt,Bool.and_self,Bool.true_and,cond_true]
 exact (qhx qfp (show X 63 = some (wbX 79 5) by kernel_rfl)).trans hx
theorem qpI (n:Int) (h0:0 ≤ n) (h1:n ≤ 9223372036854775807):Wd (.fn 61 [] []) [.int .i64 n] G = some (.ret (.str (Lib.itoa n)),G,false):=by
 have hx:itX Wd [.int .i64 n] G = some (.ret (.str (Lib.itoa n)),G,false):=by
  have a:ile (-9223372036854775808) n = true:=by rw [qay];exact decide_eq_true (by omega)
  have b:ile n 9223372036854775807 = true:=by rw [qay];exact decide_eq_true h1
  simp only [itX,a,b,Bool.and_self,cond_true]
 exact (qhx qfp (show X 61 = some itX by kernel_rfl)).trans hx
theorem qun (h:isB G[id]? = true) (hn:(bsO G[id]?).isEmpty = false):Wd (.fn 38 [] []) [.ptr id 0] G = some (.ret (.str (bsO G[id]?)),G,false):=by
 have e:=qaO h
 generalize bsO G[id]? = s at *
 have hx:stX 79 5 Wd [.ptr id 0] G = some (.ret (.str s),G,false):=by
  simp only [stX,e,BX,hn,bt,Bool.and_self,Bool.true_and,Bool.not_false,cond_true]
 exact (qhx qfp (show X 38 = some (stX 79 5) by kernel_rfl)).trans hx
def qw4 (len k:Nat) (a i:qa):Option qa:=
 match a,i with
 | .ptr b o,.int _ n=>if 0 ≤ n∧n < (len:Int) then some (.ptr b (o + n.toNat * k)) else none
 | .iptr cs o,.int _ n=>if 0 ≤ n∧n < (len:Int) then some (.iptr cs (o + n.toNat * k)) else none
 | _,_=>none
theorem qxX {base:Nat} {call:AE.Call} {p:qco} {s:St} (d:Option Nat) (n k:Nat) (x i:qk):qq base call p d (.ixaA n k x i) s = qfJ d s (qw4 n k (ev s.t x) (ev s.t i)):=by
 rw [qa3 _ _ rfl (by simp) (by simp) (by simp)]
 simp only [pureV]
 cases ev s.t x <;> cases ev s.t i <;> rfl
def ranks:List Int:=[9,9,9,9,9,9,9,9,9,9,9,9,8,7,3,5,5,6,6,6,4,4,4,2,1,0]
def rk (op:Int):Int:=ranks.getD op.toNat 9
def Exl.op:Exl→Int
 | .mk op _ _ _ _=>op
theorem qx5 {e:Exl} (h0:0 ≤ e.op) (h1:e.op ≤ 25):Wd (.fn 93 [] []) [exV e] G = some (.ret (.int .i64 (rk e.op)),G,false):=by
 obtain ⟨op,n,nm,sb,aS⟩:=e
 simp only [Exl.op] at *
 rw [qe,qi rfl (show T.get 93 = some c93 by kernel_rfl)]
 have c1:ilt op 0 = false:=by rw [qM];exact decide_eq_false (by omega)
 have c2:ile 26 op = false:=by rw [qay];exact decide_eq_false (by omega)
 obtain ⟨k,rfl⟩ :∃k:Nat,op = k:=⟨op.toNat,by omega⟩
 have x:qw4 26 1 (.iptr g1 0) (.int .i64 (k:Nat)) = some (.iptr g1 k):=by
  have q:(0:Int) ≤ (k:Int)∧(k:Int) < ((26:Nat):Int):=by omega
  rw [qw4,if_pos q]
  simp
 have y:(g1[k]?).map qa.dim = some (.int .i64 (rk (k:Nat))):=by
  have:k = 0∨k = 1∨k = 2∨k = 3∨k = 4∨k = 5∨k = 6∨k = 7∨k = 8∨k = 9∨k = 10∨k = 11∨k = 12∨k = 13∨k = 14∨k = 15∨k = 16∨k = 17∨k = 18∨k = 19∨k = 20∨k = 21∨k = 22∨k = 23∨k = 24∨k = 25:=by omega
  rcases this with rfl | rfl | rfl | rfl | rfl | rfl | rfl | rfl | rfl | rfl | rfl | rfl | rfl | rfl | rfl | rfl | rfl | rfl | rfl | rfl | rfl | rfl | rfl | rfl | rfl | rfl <;> rfl
 simp only [c93,sT.1,sC.1,qc,qb,Nat.testBit,simprocAttr,-Int.reduceNatCast',c1,c2,qxX,x,y]
end
end Go.Proofs.YtkmlapholimbcaaGreatDoor.AE
