/- A part of the proof: the abstract executor and what goes through it (part 5). No condition. -/
import Derived.Test.YtlognicjhmcgjaaGreatDoorMr4
import Derived.Test.YtlognicjhmcgjaaGreatDoorMr2
set_option maxRecDepth 100000
namespace Go.Proofs.YtlognicjhmcgjaaGreatDoor.AE
open Go.AE
inductive qdH (ws:List Tok) (sub:Nat→Out→Prop) (pos:Int):List Exp→Nat→Out→Prop
 | many {args m}:args.length = 4→qdH ws sub pos args m (.no (word ws m).pos (bif qbd ws m then 8 else 6) m)
 | bad {args m p err k}:args.length < 4→sub m (.no p err k)→qdH ws sub pos args m (.no p err k)
 | next {args m y m1 o}:args.length < 4→sub m (.ok y m1)→isW ws m1 [44] = true→qdH ws sub pos (args ++ [y]) (m1 + 1) o→qdH ws sub pos args m o
 | unshut {args m y m1}:args.length < 4→sub m (.ok y m1)→isW ws m1 [44] = false→isW ws m1 [41] = false→qdH ws sub pos args m (.no (word ws m1).pos 6 m1)
 | deep {args m y m1}:args.length < 4→sub m (.ok y m1)→isW ws m1 [44] = false→isW ws m1 [41] = true→¬ (Exp.mk 6 0 [] [] (args ++ [y])).depth ≤ 20→qdH ws sub pos args m (.no pos 7 (m1 + 1))
 | shut {args m y m1}:args.length < 4→sub m (.ok y m1)→isW ws m1 [44] = false→isW ws m1 [41] = true→(Exp.mk 6 0 [] [] (args ++ [y])).depth ≤ 20→qdH ws sub pos args m (.ok (.mk 6 0 [] [] (args ++ [y])) (m1 + 1))
section
variable {ws:List Tok} {h:List qx}
theorem qi5 (parts:List Nd) (y:Nd) (hl:parts.length ≤ 1000):qdw 7 (parts.map Nd.enc) [y.enc] = true:=by
 simp only [qdw,Bool.and_eq_true,decide_eq_true_eq]
 refine ⟨⟨?_,?_⟩,?_⟩
 ·simp only [List.length_map,List.length_cons,List.length_nil,qcs];omega
 ·simp [Nd.cellsE,Nd.len]
  simpa using y.stor
 ·cases parts with
  | nil=>rfl
  | cons x xs=>simp [Nd.cellsE,Nd.len]
structure qhQ (h:List qx) (i:Nat) (ws:List Tok) (n:Nat) (H:List qx):Prop where
 lt:i < h.length
 len:h.length < H.length
 par:H[i]? = some (PB ws n)
 res:H[h.length]? = some qsv
 old:H.take h.length = h.set i (PB ws n)
theorem qhQ.next {i n n':Nat} {H:List qx} (hl:qhQ h i ws n H):qhQ h i ws n' (H.set i (PB ws n')):=by
 have h1:=hl.lt
 have h2:=hl.len
 refine ⟨hl.lt,by simpa using h2,qep (by omega),?_,?_⟩
 ·rw [qcx (by omega),hl.res]
 ·rw [List.take_set,hl.old,qfH]
def qeZ (parts:List Nd):qgA:=bif parts.length == 1 then .full else .own 7
theorem qib {parts:List Nd} {y:Nd} (h:1 ≤ parts.length):qeZ (parts ++ [y]) = .own 7:=by
 have:((parts ++ [y]).length == 1) = false:=by simp only [List.length_append,List.length_cons,List.length_nil,beq_eq_false_iff_ne];omega
 rw [qeZ,this]
 rfl
def qyO (h:List qx) (i:Nat) (ws:List Tok) (pos:Int) (r:Option (Ex×St)) (o:Out):Prop:=
 (∃p err n,o = .no p err n∧n < ws.length∧∃tt H,r = some (.pan (qbo p err),⟨tt,H,false⟩)∧H.take h.length = h.set i (PB ws n))∨
 (∃(parts:List Nd) (n:Nat) (tt H:List _),r = some (.exit 0,⟨tt,H,false⟩)∧n < ws.length∧tt.length = 44∧lkp tt 0 = .ptr i 0∧lkp tt 2 = .ptr h.length 0∧lkp tt 3 = .int .i64 pos∧lkp tt 5 = .lst (parts.map Nd.enc) (.own 7)∧qhQ h i ws n H∧parts.length ≤ 4∧(∀x ∈ parts,x.e.depth ≤ 20)∧
  ((isW ws n [41] = false∧o = .no (word ws n).pos 6 n)∨(isW ws n [41] = true∧¬ (Exp.mk 6 0 [] [] (parts.map Nd.e)).depth ≤ 20∧o = .no pos 7 (n + 1))∨(isW ws n [41] = true∧(Exp.mk 6 0 [] [] (parts.map Nd.e)).depth ≤ 20∧o = .ok (.mk 6 0 [] [] (parts.map Nd.e)) (n + 1))))
theorem qkr (hw:WF ws) (i:Nat) (pos:Int) (args:List Exp) (n:Nat) (o:Out) (hT:qdH ws (qai 66 ws) pos args n o):∀(parts:List Nd) (tt:List qc) (H:List qx),parts.map Nd.e = args→1 ≤ parts.length→(∀x ∈ parts,x.e.depth ≤ 20)→n < ws.length→tt.length = 44→lkp tt 0 = .ptr i 0→lkp tt 2 = .ptr h.length 0→lkp tt 3 = .int .i64 pos→lkp tt 5 = .lst (parts.map Nd.enc) (qeZ parts)→qhQ h i ws n H→
  qyO h i ws pos (qH h.length Wd (.loop qby) ⟨tt,H,false⟩) o:=by
 induction hT with
 | @many args m hl=>
  intro parts tt H hp h1 hdp hn ht e0 e2 e3 e5 hL
  have hlt:i < H.length:=by have:=hL.lt;have:=hL.len;omega
  have hpar:=hL.par
  rw [PBi] at hpar
  have hpl:parts.length = 4:=by rw [←hl,←hp,List.length_map]
  have hfl:qeZ parts = .own 7:=by simp [qeZ,hpl]
  rw [hfl] at e5
  have h4:(((parts.map Nd.enc).length:Int) == 4) = true:=by simp [hpl]
  rw [qn]
  generalize he:qH h.length Wd qby _ = r
  simp only [qby,sT.1,sC.1,qf,qe,Nat.testBit,simprocAttr,-Int.reduceNatCast',ht,e0,e5,h4,qjX hw hn,hpar,PBi,hlt] at he
  subst he
  exact .inl ⟨_,_,_,rfl,hn,_,_,rfl,hL.old⟩
 | @bad args m p err k hl hx=>
  intro parts tt H hp h1 hdp hn ht e0 e2 e3 e5 hL
  have hlt:i < H.length:=by have:=hL.lt;have:=hL.len;omega
  have hpar:=hL.par
  rw [PBi] at hpar
  have hpl:parts.length < 4:=by rw [←hp,List.length_map] at hl;exact hl
  have h4:(((parts.map Nd.enc).length:Int) == 4) = false:=by simp;omega
  obtain ⟨x1,x2⟩:=hx
  have hdm:∀f:qgA,(qc.lst (parts.map Nd.enc) f).dim.dim = (qc.lst (parts.map Nd.enc) f).dim:=fun f=>qjH _
  cases hf:(parts.length == 1) with
  | true=>
   simp only [qeZ,hf,cond_true] at e5
   rw [qn]
   generalize he:qH h.length Wd qby _ = r
   simp only [qby,sT.1,sC.1,sTA.1,sCA.1,qf,qbe,qbf,Src.isTmp,qay,Src.hangs,qz.isT,qbc,qe,Nat.testBit,bne,simprocAttr,-Int.reduceNatCast',ht,e0,e5,h4,hpar,PBi,hlt,x2] at he
   subst he
   exact .inl ⟨_,_,_,rfl,x1,_,_,rfl,hL.next.old⟩
  | false=>
   simp only [qeZ,hf,cond_false] at e5
   rw [qn]
   generalize he:qH h.length Wd qby _ = r
   simp only [qby,sT.1,sC.1,sTA.1,sCA.1,qf,qbe,qbf,Src.isTmp,qay,Src.hangs,qz.isT,qbc,qe,Nat.testBit,bne,simprocAttr,-Int.reduceNatCast',ht,e0,e5,h4,hpar,PBi,hlt,x2] at he
   subst he
   exact .inl ⟨_,_,_,rfl,x1,_,_,rfl,hL.next.old⟩
 | @next args m y m1 o hl hx hc hT ih=>
  intro parts tt H hp h1 hdp hn ht e0 e2 e3 e5 hL
  have hlt:i < H.length:=by have:=hL.lt;have:=hL.len;omega
  have hpar:=hL.par
  rw [PBi] at hpar
  have hpl:parts.length < 4:=by rw [←hp,List.length_map] at hl;exact hl
  have h4:(((parts.map Nd.enc).length:Int) == 4) = false:=by simp;omega
  obtain ⟨x1,x2,x3,x4⟩:=hx
  have hap:qdw 7 (parts.map Nd.enc) [(⟨y,(word ws m).pos⟩ :Nd).enc] = true:=qi5 _ _ (by omega)
  have hall:∀x ∈ parts ++ [(⟨y,(word ws m).pos⟩ :Nd)],x.e.depth ≤ 20:=by
   intro x hx
   rcases List.mem_append.1 hx with hx | hx
   ·exact hdp x hx
   ·rw [List.mem_singleton.1 hx];exact x3
  have hmap:(parts ++ [(⟨y,(word ws m).pos⟩ :Nd)]).map Nd.e = args ++ [y]:=by rw [List.map_append,hp];rfl
  cases hf:(parts.length == 1) with
  | true=>
   simp only [qeZ,hf,cond_true] at e5
   rw [qn]
   generalize he:qH h.length Wd qby _ = r
   simp only [qby,sT.1,sC.1,sTA.1,sCA.1,qf,qbe,qbf,Src.isTmp,qay,Src.hangs,qz.isT,qbc,qe,Nat.testBit,bne,simprocAttr,-Int.reduceNatCast',ht,e0,e5,h4,hpar,PBi,hlt,Nd.dimE,qag,hap,x4,ql hw x2,hc] at he
   subst he
   refine ih (parts ++ [⟨y,(word ws m).pos⟩]) _ _ hmap (by simp) hall (qh hw x2 hc) (by simp only [qK,ht]) (by simp only [sT.1,sC.1,qf,qe,Nat.testBit,simprocAttr,-Int.reduceNatCast',e0]) (by simp only [sT.1,sC.1,qf,qe,Nat.testBit,simprocAttr,-Int.reduceNatCast',e2]) (by simp only [sT.1,sC.1,qf,qe,Nat.testBit,simprocAttr,-Int.reduceNatCast',e3]) ?_ hL.next
   simp only [sT.1,sC.1,qf,qe,Nat.testBit,simprocAttr,-Int.reduceNatCast',ht,List.map_append,qib h1]
  | false=>
   simp only [qeZ,hf,cond_false] at e5
   rw [qn]
   generalize he:qH h.length Wd qby _ = r
   simp only [qby,sT.1,sC.1,sTA.1,sCA.1,qf,qbe,qbf,Src.isTmp,qay,Src.hangs,qz.isT,qbc,qe,Nat.testBit,bne,simprocAttr,-Int.reduceNatCast',ht,e0,e5,h4,hpar,PBi,hlt,Nd.dimE,qag,hap,x4,ql hw x2,hc] at he
   subst he
   refine ih (parts ++ [⟨y,(word ws m).pos⟩]) _ _ hmap (by simp) hall (qh hw x2 hc) (by simp only [qK,ht]) (by simp only [sT.1,sC.1,qf,qe,Nat.testBit,simprocAttr,-Int.reduceNatCast',e0]) (by simp only [sT.1,sC.1,qf,qe,Nat.testBit,simprocAttr,-Int.reduceNatCast',e2]) (by simp only [sT.1,sC.1,qf,qe,Nat.testBit,simprocAttr,-Int.reduceNatCast',e3]) ?_ hL.next
   simp only [sT.1,sC.1,qf,qe,Nat.testBit,simprocAttr,-Int.reduceNatCast',ht,List.map_append,qib h1]
 | @unshut args m y m1 hl hx hc hs=>
  intro parts tt H hp h1 hdp hn ht e0 e2 e3 e5 hL
  have hlt:i < H.length:=by have:=hL.lt;have:=hL.len;omega
  have hpar:=hL.par
  rw [PBi] at hpar
  have hpl:parts.length < 4:=by rw [←hp,List.length_map] at hl;exact hl
  have h4:(((parts.map Nd.enc).length:Int) == 4) = false:=by simp;omega
  obtain ⟨x1,x2,x3,x4⟩:=hx
  have hap:qdw 7 (parts.map Nd.enc) [(⟨y,(word ws m).pos⟩ :Nd).enc] = true:=qi5 _ _ (by omega)
  have hall:∀x ∈ parts ++ [(⟨y,(word ws m).pos⟩ :Nd)],x.e.depth ≤ 20:=by
   intro x hx
   rcases List.mem_append.1 hx with hx | hx
   ·exact hdp x hx
   ·rw [List.mem_singleton.1 hx];exact x3
  have hmap:(parts ++ [(⟨y,(word ws m).pos⟩ :Nd)]).map Nd.e = args ++ [y]:=by rw [List.map_append,hp];rfl
  cases hf:(parts.length == 1) with
  | true=>
   simp only [qeZ,hf,cond_true] at e5
   rw [qn]
   generalize he:qH h.length Wd qby _ = r
   simp only [qby,sT.1,sC.1,sTA.1,sCA.1,qf,qbe,qbf,Src.isTmp,qay,Src.hangs,qz.isT,qbc,qe,Nat.testBit,bne,simprocAttr,-Int.reduceNatCast',ht,e0,e5,h4,hpar,PBi,hlt,Nd.dimE,qag,hap,x4,qq hw x2,hc] at he
   subst he
   refine .inr ⟨parts ++ [⟨y,(word ws m).pos⟩],m1,_,_,rfl,x2,by simp only [qK,ht],by simp only [sT.1,sC.1,qf,qe,Nat.testBit,simprocAttr,-Int.reduceNatCast',e0],by simp only [sT.1,sC.1,qf,qe,Nat.testBit,simprocAttr,-Int.reduceNatCast',e2],by simp only [sT.1,sC.1,qf,qe,Nat.testBit,simprocAttr,-Int.reduceNatCast',e3],?_,hL.next,by simp;omega,hall,?_⟩
   ·simp only [sT.1,sC.1,qf,qe,Nat.testBit,simprocAttr,-Int.reduceNatCast',ht,List.map_append]
   ·rw [hmap];exact .inl ⟨hs,rfl⟩
  | false=>
   simp only [qeZ,hf,cond_false] at e5
   rw [qn]
   generalize he:qH h.length Wd qby _ = r
   simp only [qby,sT.1,sC.1,sTA.1,sCA.1,qf,qbe,qbf,Src.isTmp,qay,Src.hangs,qz.isT,qbc,qe,Nat.testBit,bne,simprocAttr,-Int.reduceNatCast',ht,e0,e5,h4,hpar,PBi,hlt,Nd.dimE,qag,hap,x4,qq hw x2,hc] at he
   subst he
   refine .inr ⟨parts ++ [⟨y,(word ws m).pos⟩],m1,_,_,rfl,x2,by simp only [qK,ht],by simp only [sT.1,sC.1,qf,qe,Nat.testBit,simprocAttr,-Int.reduceNatCast',e0],by simp only [sT.1,sC.1,qf,qe,Nat.testBit,simprocAttr,-Int.reduceNatCast',e2],by simp only [sT.1,sC.1,qf,qe,Nat.testBit,simprocAttr,-Int.reduceNatCast',e3],?_,hL.next,by simp;omega,hall,?_⟩
   ·simp only [sT.1,sC.1,qf,qe,Nat.testBit,simprocAttr,-Int.reduceNatCast',ht,List.map_append]
   ·rw [hmap];exact .inl ⟨hs,rfl⟩
 | @deep args m y m1 hl hx hc hs hd=>
  intro parts tt H hp h1 hdp hn ht e0 e2 e3 e5 hL
  have hlt:i < H.length:=by have:=hL.lt;have:=hL.len;omega
  have hpar:=hL.par
  rw [PBi] at hpar
  have hpl:parts.length < 4:=by rw [←hp,List.length_map] at hl;exact hl
  have h4:(((parts.map Nd.enc).length:Int) == 4) = false:=by simp;omega
  obtain ⟨x1,x2,x3,x4⟩:=hx
  have hap:qdw 7 (parts.map Nd.enc) [(⟨y,(word ws m).pos⟩ :Nd).enc] = true:=qi5 _ _ (by omega)
  have hall:∀x ∈ parts ++ [(⟨y,(word ws m).pos⟩ :Nd)],x.e.depth ≤ 20:=by
   intro x hx
   rcases List.mem_append.1 hx with hx | hx
   ·exact hdp x hx
   ·rw [List.mem_singleton.1 hx];exact x3
  have hmap:(parts ++ [(⟨y,(word ws m).pos⟩ :Nd)]).map Nd.e = args ++ [y]:=by rw [List.map_append,hp];rfl
  cases hf:(parts.length == 1) with
  | true=>
   simp only [qeZ,hf,cond_true] at e5
   rw [qn]
   generalize he:qH h.length Wd qby _ = r
   simp only [qby,sT.1,sC.1,sTA.1,sCA.1,qf,qbe,qbf,Src.isTmp,qay,Src.hangs,qz.isT,qbc,qe,Nat.testBit,bne,simprocAttr,-Int.reduceNatCast',ht,e0,e5,h4,hpar,PBi,hlt,Nd.dimE,qag,hap,x4,qq hw x2,hc] at he
   subst he
   refine .inr ⟨parts ++ [⟨y,(word ws m).pos⟩],m1,_,_,rfl,x2,by simp only [qK,ht],by simp only [sT.1,sC.1,qf,qe,Nat.testBit,simprocAttr,-Int.reduceNatCast',e0],by simp only [sT.1,sC.1,qf,qe,Nat.testBit,simprocAttr,-Int.reduceNatCast',e2],by simp only [sT.1,sC.1,qf,qe,Nat.testBit,simprocAttr,-Int.reduceNatCast',e3],?_,hL.next,by simp;omega,hall,?_⟩
   ·simp only [sT.1,sC.1,qf,qe,Nat.testBit,simprocAttr,-Int.reduceNatCast',ht,List.map_append]
   ·rw [hmap];exact .inr (.inl ⟨hs,hd,rfl⟩)
  | false=>
   simp only [qeZ,hf,cond_false] at e5
   rw [qn]
   generalize he:qH h.length Wd qby _ = r
   simp only [qby,sT.1,sC.1,sTA.1,sCA.1,qf,qbe,qbf,Src.isTmp,qay,Src.hangs,qz.isT,qbc,qe,Nat.testBit,bne,simprocAttr,-Int.reduceNatCast',ht,e0,e5,h4,hpar,PBi,hlt,Nd.dimE,qag,hap,x4,qq hw x2,hc] at he
   subst he
   refine .inr ⟨parts ++ [⟨y,(word ws m).pos⟩],m1,_,_,rfl,x2,by simp only [qK,ht],by simp only [sT.1,sC.1,qf,qe,Nat.testBit,simprocAttr,-Int.reduceNatCast',e0],by simp only [sT.1,sC.1,qf,qe,Nat.testBit,simprocAttr,-Int.reduceNatCast',e2],by simp only [sT.1,sC.1,qf,qe,Nat.testBit,simprocAttr,-Int.reduceNatCast',e3],?_,hL.next,by simp;omega,hall,?_⟩
   ·simp only [sT.1,sC.1,qf,qe,Nat.testBit,simprocAttr,-Int.reduceNatCast',ht,List.map_append]
   ·rw [hmap];exact .inr (.inl ⟨hs,hd,rfl⟩)
 | @shut args m y m1 hl hx hc hs hd=>
  intro parts tt H hp h1 hdp hn ht e0 e2 e3 e5 hL
  have hlt:i < H.length:=by have:=hL.lt;have:=hL.len;omega
  have hpar:=hL.par
  rw [PBi] at hpar
  have hpl:parts.length < 4:=by rw [←hp,List.length_map] at hl;exact hl
  have h4:(((parts.map Nd.enc).length:Int) == 4) = false:=by simp;omega
  obtain ⟨x1,x2,x3,x4⟩:=hx
  have hap:qdw 7 (parts.map Nd.enc) [(⟨y,(word ws m).pos⟩ :Nd).enc] = true:=qi5 _ _ (by omega)
  have hall:∀x ∈ parts ++ [(⟨y,(word ws m).pos⟩ :Nd)],x.e.depth ≤ 20:=by
   intro x hx
   rcases List.mem_append.1 hx with hx | hx
   ·exact hdp x hx
   ·rw [List.mem_singleton.1 hx];exact x3
  have hmap:(parts ++ [(⟨y,(word ws m).pos⟩ :Nd)]).map Nd.e = args ++ [y]:=by rw [List.map_append,hp];rfl
  cases hf:(parts.length == 1) with
  | true=>
   simp only [qeZ,hf,cond_true] at e5
   rw [qn]
   generalize he:qH h.length Wd qby _ = r
   simp only [qby,sT.1,sC.1,sTA.1,sCA.1,qf,qbe,qbf,Src.isTmp,qay,Src.hangs,qz.isT,qbc,qe,Nat.testBit,bne,simprocAttr,-Int.reduceNatCast',ht,e0,e5,h4,hpar,PBi,hlt,Nd.dimE,qag,hap,x4,qq hw x2,hc] at he
   subst he
   refine .inr ⟨parts ++ [⟨y,(word ws m).pos⟩],m1,_,_,rfl,x2,by simp only [qK,ht],by simp only [sT.1,sC.1,qf,qe,Nat.testBit,simprocAttr,-Int.reduceNatCast',e0],by simp only [sT.1,sC.1,qf,qe,Nat.testBit,simprocAttr,-Int.reduceNatCast',e2],by simp only [sT.1,sC.1,qf,qe,Nat.testBit,simprocAttr,-Int.reduceNatCast',e3],?_,hL.next,by simp;omega,hall,?_⟩
   ·simp only [sT.1,sC.1,qf,qe,Nat.testBit,simprocAttr,-Int.reduceNatCast',ht,List.map_append]
   ·rw [hmap];exact .inr (.inr ⟨hs,hd,rfl⟩)
  | false=>
   simp only [qeZ,hf,cond_false] at e5
   rw [qn]
   generalize he:qH h.length Wd qby _ = r
   simp only [qby,sT.1,sC.1,sTA.1,sCA.1,qf,qbe,qbf,Src.isTmp,qay,Src.hangs,qz.isT,qbc,qe,Nat.testBit,bne,simprocAttr,-Int.reduceNatCast',ht,e0,e5,h4,hpar,PBi,hlt,Nd.dimE,qag,hap,x4,qq hw x2,hc] at he
   subst he
   refine .inr ⟨parts ++ [⟨y,(word ws m).pos⟩],m1,_,_,rfl,x2,by simp only [qK,ht],by simp only [sT.1,sC.1,qf,qe,Nat.testBit,simprocAttr,-Int.reduceNatCast',e0],by simp only [sT.1,sC.1,qf,qe,Nat.testBit,simprocAttr,-Int.reduceNatCast',e2],by simp only [sT.1,sC.1,qf,qe,Nat.testBit,simprocAttr,-Int.reduceNatCast',e3],?_,hL.next,by simp;omega,hall,?_⟩
   ·simp only [sT.1,sC.1,qf,qe,Nat.testBit,simprocAttr,-Int.reduceNatCast',ht,List.map_append]
   ·rw [hmap];exact .inr (.inr ⟨hs,hd,rfl⟩)
end
section
variable {ws:List Tok} {n:Nat}
theorem qBy {h:List qx} (p:qc) (pos op k:Int) (name sub:Str) (parts:List Nd) (hp:parts.length ≤ 4) (hd:∀x ∈ parts,x.e.depth ≤ 20):Wd (.fn 127 [] []) [p,.int .i64 pos,.agg [.int .i64 op,.int .i64 k,.str name,.str sub,.lst [] .full],.lst (parts.map Nd.enc) .no] h =
  if (Exp.mk op k name sub (parts.map Nd.e)).depth ≤ 20 then some (.ret (Nd.enc ⟨.mk op k name sub (parts.map Nd.e),pos⟩),h,false) else some (.pan (qbo pos 7),h,false):=
 qhB (h:=h) p pos op k name sub parts false hp hd
theorem br1 (hw:WF ws) (hn:n < ws.length) (hs:isW ws n [40] = true) {p err:Int} {m:Nat} (h1:qai 66 ws (n + 1) (.no p err m)):qai 295 ws n (.no p err m):=by
 obtain ⟨x1,x2⟩:=h1
 refine ⟨x1,fun h i hi=>?_⟩
 have hlt:=qd hi
 rw [PBi] at hi
 rw [qm rfl (show T.get 295 = some qmL by kernel_rfl)]
 simp only [qmL,sT.1,sC.1,qf,qe,Nat.testBit,simprocAttr,-Int.reduceNatCast',qam hw hn,qi hw hn,hs,hi,hlt,PBi,x2,qb]
theorem br2 (hw:WF ws) (hn:n < ws.length) (hs:isW ws n [40] = true) {x:Exp} {n1:Nat} (h1:qai 66 ws (n + 1) (.ok x n1)) (h2:isW ws n1 [41] = true):qai 295 ws n (.ok x (n1 + 1)):=by
 obtain ⟨x1,x2,x3,x4⟩:=h1
 refine ⟨by omega,qh hw x2 h2,x3,fun h i hi=>?_⟩
 have hlt:=qd hi
 have hb1:=qr h 1
 rw [PBi] at hi
 rw [qm rfl (show T.get 295 = some qmL by kernel_rfl)]
 have s6:List.take 6 (⟨x,(word ws (n + 1)).pos⟩ :Nd).cs ++ [qc.int .i64 (word ws n).pos] = (⟨x,(word ws n).pos⟩ :Nd).cs:=by
  obtain ⟨op,k,name,sub,args⟩:=x
  exact Eq.trans rfl rfl
 simp only [qmL,sT.1,sC.1,qf,qe,Nat.testBit,simprocAttr,-Int.reduceNatCast',qam hw hn,qi hw hn,hs,hi,hlt,PBi,x4,ql hw x2,h2,hb1,Nd.dimE,Nd.cellsE,Nd.cutE,Nd.dims,Nd.len,Nd.stor,Nd.lower,Nd.drainE,Nd.drop7,List.append_nil,s6]
theorem br3 (hw:WF ws) (hn:n < ws.length) (hs:isW ws n [40] = true) {x:Exp} {n1:Nat} (h1:qai 66 ws (n + 1) (.ok x n1)) (h2:isW ws n1 [41] = false) (h3:isW ws n1 [44] = false):qai 295 ws n (.no (word ws n1).pos 6 n1):=by
 obtain ⟨x1,x2,x3,x4⟩:=h1
 refine ⟨x2,fun h i hi=>?_⟩
 have hlt:=qd hi
 have hb1:=qr h 1
 rw [PBi] at hi
 rw [qm rfl (show T.get 295 = some qmL by kernel_rfl)]
 simp only [qmL,sT.1,sC.1,qf,qe,Nat.testBit,simprocAttr,-Int.reduceNatCast',qam hw hn,qi hw hn,hs,hi,hlt,PBi,x4,qq hw x2,h2,qah hw x2,h3,hb1,Nd.dimE,Nd.cellsE,Nd.cutE,Nd.dims,Nd.len,Nd.stor,Nd.lower,Nd.drainE,Nd.drop7,qb]
theorem br4 (hw:WF ws) (hn:n < ws.length) (hs:isW ws n [40] = true) {x:Exp} {n1:Nat} (h1:qai 66 ws (n + 1) (.ok x n1)) (h2:isW ws n1 [41] = false) (h3:isW ws n1 [44] = true) (h4:isW ws (n1 + 1) [41] = true) (hd:(Exp.mk 6 0 [] [] [x]).depth ≤ 20):qai 295 ws n (.ok (.mk 6 0 [] [] [x]) (n1 + 1 + 1)):=by
 obtain ⟨x1,x2,x3,x4⟩:=h1
 have n2:=qh hw x2 h3
 refine ⟨by omega,qh hw n2 h4,hd,fun h i hi=>?_⟩
 have hlt:=qd hi
 have hb1:=qr h 1
 rw [PBi] at hi
 rw [qm rfl (show T.get 295 = some qmL by kernel_rfl)]
 simp only [qmL,sT.1,sC.1,qf,qe,Nat.testBit,simprocAttr,-Int.reduceNatCast',qam hw hn,qi hw hn,hs,hi,hlt,PBi,x4,x3,qq hw x2,h2,qi hw x2,h3,ql hw n2,h4,hb1,Nd.dimE,Nd.cellsE,Nd.cutE,Nd.dims,Nd.len,Nd.stor,Nd.lower,Nd.drainE,Nd.drop7,qag,qu,qhX,hd]
theorem br5 (hw:WF ws) (hn:n < ws.length) (hs:isW ws n [40] = true) {x:Exp} {n1:Nat} (h1:qai 66 ws (n + 1) (.ok x n1)) (h2:isW ws n1 [41] = false) (h3:isW ws n1 [44] = true) (h4:isW ws (n1 + 1) [41] = true) (hd:¬ (Exp.mk 6 0 [] [] [x]).depth ≤ 20):qai 295 ws n (.no (word ws n).pos 7 (n1 + 1 + 1)):=by
 obtain ⟨x1,x2,x3,x4⟩:=h1
 have n2:=qh hw x2 h3
 refine ⟨qh hw n2 h4,fun h i hi=>?_⟩
 have hlt:=qd hi
 have hb1:=qr h 1
 rw [PBi] at hi
 rw [qm rfl (show T.get 295 = some qmL by kernel_rfl)]
 simp only [qmL,sT.1,sC.1,qf,qe,Nat.testBit,simprocAttr,-Int.reduceNatCast',qam hw hn,qi hw hn,hs,hi,hlt,PBi,x4,x3,qq hw x2,h2,qi hw x2,h3,ql hw n2,h4,hb1,Nd.dimE,Nd.cellsE,Nd.cutE,Nd.dims,Nd.len,Nd.stor,Nd.lower,Nd.drainE,Nd.drop7,qag,qu,qhX,hd,qb]
theorem qdH.mono {pos:Int} {args:List Exp} {m:Nat} {o:Out} (h:qdH ws (qai 66 ws) pos args m o):∀e' n',o = .ok e' n'→m < n':=by
 induction h with
 | many _=>intro e' n' h;cases h
 | bad _ _=>intro e' n' h;cases h
 | next _ h1 _ _ ih=>intro e' n' h;have:=ih e' n' h;have:=h1.1;omega
 | unshut _ _ _ _=>intro e' n' h;cases h
 | deep _ _ _ _ _=>intro e' n' h;cases h
 | shut _ h1 _ _ _=>intro e' n' h;cases h;have:=h1.1;omega
theorem qhQ.start {i n:Nat} {h:List qx} {x:Nd} (hi:i < h.length):qhQ h i ws n (h.set i (PB ws n) ++ [qsv,NB x]):=by
 refine ⟨hi,by simp,?_,?_,?_⟩
 ·rw [qcv (by simpa using hi),qep hi]
 ·rw [qcE (by simp)];rfl
 ·rw [List.take_append_of_le_length (by simp),List.take_of_length_le (by simp)]
theorem qhQ.answer {i n:Nat} {h:List qx} {x:Nd} {H:List qx} (hl:qhQ h i ws n H):qbp h.length (.ret x.enc) (H.set h.length (NB x)) false = (.ret x.enc,h.set i (PB ws n),false):=
 qb7 (by rw [List.take_set_of_le (by omega),hl.old]) (x.lower _)
def qk9:qV:=.seq (.reg [ao 39 (.mov (.t 0)),ao 40 (.mov (.t 3)),ao 41 (.build [(.int .i64 0),(.int .i64 0),(.str []),(.str []),(.lst [] .full)] [(0,1,(.c (.int .i64 6)))]),ao 42 (.mov (.t 5)),ao 43 (.call (.c (.fn 127 [] [])) [(.t 39),(.t 40),(.t 41),(.t 42)]),an (.st (some 7) (.t 2) (.t 43))]) .ret
def qhy:qV:=.reg [ao 37 (.mov (.t 0)),ao 38 (.call (.c (.fn 79 [] [])) [(.t 37),(.c (.str [41]))])]
theorem qmM (hw:WF ws) {h:List qx} {i:Nat} {pos:Int} {r:Option (Ex×St)} {o:Out} (hL:qyO h i ws pos r o):match (motive:=Out→Prop) o with
  | .ok e n=>n < ws.length∧e.depth ≤ 20∧qfU [.cell 2 (some 7)] h (qcd (qH h.length Wd qk9) (qcd (qH h.length Wd qhy) (qc7 0 r))) = some (.ret (Nd.enc ⟨e,pos⟩),h.set i (PB ws n),false)
  | .no p err n=>n < ws.length∧qfU [.cell 2 (some 7)] h (qcd (qH h.length Wd qk9) (qcd (qH h.length Wd qhy) (qc7 0 r))) = some (.pan (qbo p err),h.set i (PB ws n),false):=by
 obtain ⟨p,err,n,rfl,hn,tt,H,rfl,q⟩ | ⟨parts,n,tt,H,rfl,hn,ht,e0,e2,e3,e5,hl,hp,hd,hc⟩:=hL
 ·refine ⟨hn,?_⟩
  simp only [sT.1,sC.1,qf,qe,Nat.testBit,simprocAttr,-Int.reduceNatCast']
  exact congrArg some (qa6 q (qb _ _ _))
 ·have hpar:=hl.par
  have hlen:=hl.len
  have hres:=(hl.next (n':=n + 1)).res
  rw [qbV] at hres
  obtain ⟨hs,rfl⟩ | ⟨hs,hdep,rfl⟩ | ⟨hs,hdep,rfl⟩:=hc
  ·refine ⟨hn,?_⟩
   simp only [qk9,qhy,sT.1,sC.1,qf,qe,Nat.testBit,simprocAttr,-Int.reduceNatCast',ht,e0,e2,e3,e5,qah hw hn hpar hs]
   exact congrArg some (qa6 hl.old (qb _ _ _))
  ·refine ⟨qh hw hn hs,?_⟩
   simp only [qk9,qhy,sT.1,sC.1,qf,qe,Nat.testBit,simprocAttr,-Int.reduceNatCast',ht,e0,e2,e3,e5,qi hw hn hpar hs,qu,qBy _ _ _ _ _ _ parts hp hd,hdep]
   exact congrArg some (qa6 hl.next.old (qb _ _ _))
  ·refine ⟨qh hw hn hs,hdep,?_⟩
   simp only [qk9,qhy,sT.1,sC.1,qf,qe,Nat.testBit,simprocAttr,-Int.reduceNatCast',ht,e0,e2,e3,e5,qi hw hn hpar hs,qu,qBy _ _ _ _ _ _ parts hp hd,hdep,hres,hlen,Nd.dimE,Nd.cellsE,Nd.cutE,Nd.dims,Nd.len,Nd.stor,Nd.drainE]
   exact congrArg some hl.next.answer
theorem br6 (hw:WF ws) (hn:n < ws.length) (hs:isW ws n [40] = true) {x:Exp} {n1:Nat} (h1:qai 66 ws (n + 1) (.ok x n1)) (h2:isW ws n1 [41] = false) (h3:isW ws n1 [44] = true) (h4:isW ws (n1 + 1) [41] = false) {o:Out} (hT:qdH ws (qai 66 ws) (word ws n).pos [x] (n1 + 1) o):qai 295 ws n o:=by
 obtain ⟨x1,x2,x3,x4⟩:=h1
 have n2:=qh hw x2 h3
 have hmono:=hT.mono
 have run:∀(h:List qx) (i:Nat),h[i]? = some (PB ws n)→∃r,qyO h i ws (word ws n).pos r o∧Wd (.fn 295 [] []) [.ptr i 0] h = qfU [.cell 2 (some 7)] h (qcd (qH h.length Wd qk9) (qcd (qH h.length Wd qhy) (qc7 0 r))):=by
  intro h i hi
  have hlt:=qd hi
  have hb1:=qr h 1
  rw [PBi] at hi
  generalize hr:Wd (.fn 295 [] []) [.ptr i 0] h = R
  rw [qm rfl (show T.get 295 = some qmL by kernel_rfl)] at hr
  simp only [qmL,sT.1,sC.1,qf,qe,Nat.testBit,simprocAttr,-Int.reduceNatCast',qam hw hn,qi hw hn,hs,hi,hlt,PBi,x4,qq hw x2,h2,qi hw x2,h3,qq hw n2,h4,hb1,Nd.dimE,Nd.cellsE,Nd.cutE,Nd.dims,Nd.len,Nd.stor,Nd.lower,Nd.drainE,Nd.drop7,qag] at hr
  generalize hq:qH h.length Wd (.loop qby) _ = r at hr
  refine ⟨r,?_,?_⟩
  ·rw [←hq]
   refine qkr hw i _ [x] _ o hT [⟨x,(word ws (n + 1)).pos⟩] _ _ (Eq.trans rfl rfl) (Nat.le_refl _) (by simpa using x3) n2 (by simp only [sT.1,sC.1,qf,qe,Nat.testBit,simprocAttr,-Int.reduceNatCast']) (by simp only [sT.1,sC.1,qf,qe,Nat.testBit,simprocAttr,-Int.reduceNatCast']) (by simp only [sT.1,sC.1,qf,qe,Nat.testBit,simprocAttr,-Int.reduceNatCast']) (by simp only [sT.1,sC.1,qf,qe,Nat.testBit,simprocAttr,-Int.reduceNatCast']) ?_ (qhQ.start hlt)
   simp only [sT.1,sC.1,qf,qe,Nat.testBit,simprocAttr,-Int.reduceNatCast',qeZ,List.map_cons,List.map_nil,List.length_singleton,beq_self_eq_true,cond_true]
  ·rw [←hr]
   simp only [qk9,qhy,ao,an]
 cases o with
 | ok e' n'=>
  obtain ⟨r,q1,q2⟩:=run (List.replicate 1 (PB ws n)) 0 rfl
  have f0:=qmM hw q1
  refine ⟨by have:=hmono _ _ rfl;omega,f0.1,f0.2.1,fun h i hi=>?_⟩
  obtain ⟨r,q1,q2⟩:=run h i hi
  have f1:=qmM hw q1
  exact q2.trans f1.2.2
 | no pos err n'=>
  obtain ⟨r,q1,q2⟩:=run (List.replicate 1 (PB ws n)) 0 rfl
  have f0:=qmM hw q1
  refine ⟨f0.1,fun h i hi=>?_⟩
  obtain ⟨r,q1,q2⟩:=run h i hi
  have f1:=qmM hw q1
  exact q2.trans f1.2
end
end Go.Proofs.YtlognicjhmcgjaaGreatDoor.AE
namespace Go.AE
def qV.noLp:qV→Bool
 | .seq a b=>a.noLp && b.noLp
 | .cond _ a b=>a.noLp && b.noLp
 | .block _ b=>b.noLp
 | .loop _=>false
 | _=>true
def qez.noLp:qez→Bool
 | .pre a r=>a.noLp && r.noLp
 | .dfr _ _ _ c=>c.noLp
section
variable {base:Nat} {call:Call}
theorem qeM (n m:Nat):∀(a:qV) (s:St),a.noLp = true→qbs n base call a s = qbs m base call a s
 | .skip,s,_=>rfl
 | .reg _,s,_=>rfl
 | .draw _,s,_=>rfl
 | .draw2 _ _ _ _,s,_=>rfl
 | .exit _,s,_=>rfl
 | .ret,s,_=>rfl
 | .rfun _ _ _ _,s,_=>rfl
 | .loop _,s,h=>by cases h
 | .seq a b,s,h=>by
  simp only [qV.noLp,Bool.and_eq_true] at h
  simp only [qbs]
  rw [qeM n m a s h.1]
  split
  ·exact qeM n m b _ h.2
  ·rfl
 | .cond c a b,s,h=>by
  simp only [qV.noLp,Bool.and_eq_true] at h
  simp only [qbs]
  split
  ·exact qeM n m a s h.1
  ·exact qeM n m b s h.2
  ·rfl
 | .block id b,s,h=>by
  simp only [qV.noLp] at h
  simp only [qbs]
  rw [qeM n m b s h]
theorem qpT {n:Nat} {a:qV} {s:St} (h:a.noLp = true):qbs n base call a s = qH base call a s:=by
 apply Option.ext
 intro x
 rw [qaq]
 constructor
 ·intro hx
  exact ⟨n,hx⟩
 ·rintro ⟨m,hm⟩
  rw [qeM n m a s h]
  exact hm
def qzY (k:St→Option (Ex×St)):Option (Ex×St)→Option (Ex×St)
 | some (.nor,s)=>k s
 | some (.exit _,_)=>none
 | r=>r
theorem qeO (k:St→Option (Ex×St)) (s:St):qzY k (some (.nor,s)) = k s:=rfl
theorem qeJ (k:St→Option (Ex×St)) (s:St):qzY k (some (.ret,s)) = some (.ret,s):=rfl
theorem qgM (k:St→Option (Ex×St)) (v:qc) (s:St):qzY k (some (.pan v,s)) = some (.pan v,s):=rfl
def qFz (k:St→Option (Ex×St)):Option (Ex×St)→Option (Ex×St)
 | some (.nor,s)=>k s
 | _=>none
theorem qfQ (k:St→Option (Ex×St)) (s:St):qFz k (some (.nor,s)) = k s:=rfl
def qxA (s:St):Option (Ex×St)→Option (Ex×St)
 | some (.nor,s2) | some (.ret,s2)=>some (.ret,{ s with h:=s2.h,e:=s.e || s2.e})
 | _=>none
theorem qfL (s s2:St):qxA s (some (.nor,s2)) = some (.ret,⟨s.t,s2.h,s.e || s2.e⟩):=rfl
theorem qfE (s s2:St):qxA s (some (.ret,s2)) = some (.ret,⟨s.t,s2.h,s.e || s2.e⟩):=rfl
noncomputable def dW (call:Call) (d:qcT) (v:qc) (cv:List qc) (s:St):Option (Ex×St):=
 qxA s (qFz (qH s.h.length call d.code) (qH s.h.length call (.reg d.ops) ⟨up (cv.map qc.dim ++ List.replicate (d.ntmps - cv.length) (.tup [])) d.k v.dim,s.h,false⟩))
theorem qlR {n:Nat} {d:qcT} (hd:d.code.noLp = true) (v:qc) (cv:List qc) (s:St):qeY n call d v cv s = dW call d v cv s:=by
 rw [qeY,dW,qgY,qiJ]
 cases qa7 s.h.length call [] d.ops ⟨up (cv.map qc.dim ++ List.replicate (d.ntmps - cv.length) (.tup [])) d.k v.dim,s.h,false⟩ with
 | none=>rfl
 | some x=>
  obtain ⟨x,s1⟩:=x
  cases x
  case nor=>
   rw [qfQ]
   simp only
   rw [qpT hd]
   cases qH s.h.length call d.code s1 with
   | none=>rfl
   | some x=>obtain ⟨x,s2⟩:=x;cases x <;> rfl
  all_goals rfl
noncomputable def qBZ (call:Call) (d:qcT) (cv:List qc):Option (Ex×St)→Option (Ex×St)
 | some (.nor,s) | some (.ret,s)=>dW call d .niliface cv s
 | some (.pan v,s)=>dW call d v cv s
 | _=>none
theorem qgP (d:qcT) (cv:List qc) (s:St):qBZ call d cv (some (.nor,s)) = dW call d .niliface cv s:=rfl
theorem qgS (d:qcT) (cv:List qc) (s:St):qBZ call d cv (some (.ret,s)) = dW call d .niliface cv s:=rfl
theorem qgO (d:qcT) (cv:List qc) (v:qc) (s:St):qBZ call d cv (some (.pan v,s)) = dW call d v cv s:=rfl
def fnW (f:FuncId) (k:List qc→Option (Ex×St)):qc→Option (Ex×St)
 | .fn g [] cv=>if g = f then k cv else none
 | _=>none
theorem qj7 (f:FuncId) (k:List qc→Option (Ex×St)) (cv:List qc):fnW f k (.fn f [] cv) = k cv:=if_pos rfl
noncomputable def gW (base:Nat) (call:Call) (d:qcT):qez→St→Option (Ex×St)
 | .pre a r,s=>qzY (gW base call d r) (qH base call a s)
 | .dfr f caps slot rest,s=>
  fnW f (fun cv=>qBZ call d cv (qH base call rest ⟨up s.t slot (.fn f [] (caps.map (ev s.t))),s.h,s.e⟩)) (ev (up s.t slot (.fn f [] (caps.map (ev s.t)))) (.t slot))
theorem qko (d:qcT) (f:FuncId) (caps:List qz) (slot:Nat) (rest:qV) (s:St):gW base call d (.dfr f caps slot rest) s = fnW f (fun cv=>qBZ call d cv (qH base call rest ⟨up s.t slot (.fn f [] (caps.map (ev s.t))),s.h,s.e⟩)) (ev (up s.t slot (.fn f [] (caps.map (ev s.t)))) (.t slot)):=rfl
theorem qgZ (d:qcT) (a:qV) (r:qez) (s:St):gW base call d (.pre a r) s = qzY (gW base call d r) (qH base call a s):=rfl
theorem qs2 {n:Nat} {d:qcT} (hd:d.code.noLp = true):∀(b:qez) (s:St),b.noLp = true→qdK n base call d b s = gW base call d b s
 | .pre a r,s,h=>by
  simp only [qez.noLp,Bool.and_eq_true] at h
  rw [qdK,qgZ,qpT h.1]
  cases qH base call a s with
  | none=>rfl
  | some x=>
   obtain ⟨x,s1⟩:=x
   cases x
   case nor=>exact qs2 hd r s1 h.2
   all_goals rfl
 | .dfr f caps slot rest,s,h=>by
  simp only [qez.noLp] at h
  rw [qdK,qko,qiJ]
  generalize ev (up s.t slot (.fn f [] (caps.map (ev s.t)))) (.t slot) = w
  cases w
  case fn g first cv=>
   cases first with
   | cons _ _=>rfl
   | nil=>
    by_cases hg:g = f
    ·subst hg
     rw [qj7]
     simp only [if_true]
     rw [qpT h]
     generalize qH base call rest _ = x
     cases x with
     | none=>rfl
     | some x=>
      obtain ⟨x,s1⟩:=x
      cases x
      case nor=>exact qlR hd _ _ _
      case ret=>exact qlR hd _ _ _
      case pan v=>exact qlR hd _ _ _
      all_goals rfl
    ·simp only [fnW,if_neg hg]
  all_goals rfl
def qCI (ty:TypeId) (zero:qc):qc→Option qc
 | .niliface=>some (.tup [zero,.bool false])
 | .iface u v=>if u = ty then some (.tup [v,.bool true]) else some (.tup [zero,.bool false])
 | _=>none
theorem qmn {p:qdp} (d:Option Nat) (ty:TypeId) (z:qc) (x:qz) (s:St):qJ base call p d (.tas ty z x) s = qgz d s (qCI ty z (ev s.t x)):=by
 rw [qbr _ _ rfl (by simp) (by simp) (by simp)]
 simp only [pureV]
 cases ev s.t x <;> rfl
theorem qgN (ty:TypeId) (z:qc):qCI ty z .niliface = some (.tup [z,.bool false]):=rfl
theorem qgH (ty:TypeId) (z v:qc):qCI ty z (.iface ty v) = some (.tup [v,.bool true]):=if_pos rfl
def qzA (d:Nat):Option qc→Option Nat
 | none=>some d
 | some (.int _ n)=>if 0 ≤ n then some n.toNat else none
 | some _=>none
def qkd (x:qc) (lo hi:Option qc):Option qc:=
 match x with
 | .str s=>match qzA s.length hi with
  | some h=>match qzA 0 lo with
   | some l=>if l ≤ h∧h ≤ s.length then some (.str ((s.drop l).take (h - l))) else none
   | none=>none
  | none=>none
 | _=>none
theorem qmA (t:List qc) (o:Option qz) (d:Nat):bound t o d = qzA d (o.map (ev t)):=by
 cases o with
 | none=>rfl
 | some o=>simp only [bound,Option.map_some];cases ev t o <;> rfl
theorem qdX {p:qdp} (d:Option Nat) (x:qz) (lo hi:Option qz) (s:St):qJ base call p d (.subS x lo hi) s = qgz d s (qkd (ev s.t x) (lo.map (ev s.t)) (hi.map (ev s.t))):=by
 rw [qbr _ _ rfl (by simp) (by simp) (by simp)]
 simp only [pureV,qmA]
 cases ev s.t x <;> rfl
theorem qpr (t:List qc) (x:qz) (lo hi:Option qz):pureV t (.subS x lo hi) = qkd (ev t x) (lo.map (ev t)) (hi.map (ev t)):=by
 simp only [pureV,qmA]
 cases ev t x <;> rfl
theorem qhF {s:List UInt8} {n:Nat} (hn:n ≤ s.length):qkd (.str s) (some (.int .i64 (n:Nat))) none = some (.str (s.drop n)):=by
 have:(0:Int) ≤ (n:Int):=by omega
 simp only [qkd,qzA,this,if_true,Int.toNat_natCast,hn,Nat.le_refl,and_self]
 rw [List.take_of_length_le (by rw [List.length_drop];exact Nat.le_refl _)]
theorem qzf {s:List UInt8} {m:Nat} (hm:m ≤ s.length):qkd (.str s) none (some (.int .i64 (m:Nat))) = some (.str (s.take m)):=by
 have h2:(0:Int) ≤ (m:Int):=by omega
 simp only [qkd,qzA,h2,if_true,Int.toNat_natCast,hm,Nat.zero_le,and_self,List.drop_zero,Nat.sub_zero]
theorem qdJ {s:List UInt8} {n m:Nat} (hn:n ≤ m) (hm:m ≤ s.length):qkd (.str s) (some (.int .i64 (n:Nat))) (some (.int .i64 (m:Nat))) = some (.str ((s.drop n).take (m - n))):=by
 have h1:(0:Int) ≤ (n:Int):=by omega
 have h2:(0:Int) ≤ (m:Int):=by omega
 simp only [qkd,qzA,h1,h2,if_true,Int.toNat_natCast,hn,hm,and_self]
theorem qqx {n:Nat} {g:qiQ} (hd:g.d.code.noLp = true) (hb:g.body.noLp = true) (aS:List qc) (h:List qx):qeW n g call aS h = qfU g.results h (gW h.length call g.d g.body ⟨aS.map qc.dim ++ List.replicate (g.ntmps - aS.length) (.tup []),h,false⟩):=by
 rw [qeW,qs2 hd _ _ hb]
 generalize gW h.length call g.d g.body _ = r
 cases r with
 | none=>rfl
 | some x=>
  obtain ⟨x,s⟩:=x
  cases x <;> first | rfl | (simp only [qfU,qxs];cases qaM s g.results <;> rfl)
end
end Go.AE
namespace Go.Proofs.YtlognicjhmcgjaaGreatDoor.AE
open Go.AE
section
variable {ws:List Tok} {n:Nat} {h:List qx} {i:Nat}
theorem Exp.lower (φ:Int→Nat→Bool) (e:Exp) (n:Nat):(e.enc φ).lower n = true:=by
 simp [Exp.enc,qc.lower,qmo]
theorem Exp.dimE (φ:Int→Nat→Bool) (e:Exp):(e.enc φ).dim = e.enc φ:=Eq.trans rfl rfl
theorem Exp.cellsE (φ:Int→Nat→Bool) (e:Exp):(e.enc φ).cells = e.cs φ:=Eq.trans rfl rfl
theorem Exp.drainE (φ:Int→Nat→Bool) (e:Exp) (j:Nat) (t:List qc):qcf (e.enc φ) j t = t:=rfl
theorem Exp.dims (φ:Int→Nat→Bool) (e:Exp):(e.cs φ).map qc.dim = e.cs φ:=by
 obtain ⟨op,k,name,sub,args⟩:=e
 simp [Exp.cs,qc.dim,fl]
 cases φ op args.length <;> rfl
theorem Exp.cut (φ:Int→Nat→Bool) (e:Exp):cut (e.cs φ) 0 (some 5) = some (e.enc φ):=by
 rw [qdS (by rw [Exp.cs_len];omega),List.drop_zero,List.take_of_length_le (by rw [Exp.cs_len];omega),Exp.dims]
 rfl
theorem Exp.stor (φ:Int→Nat→Bool) (e:Exp):(e.cs φ).all qc.storable = true:=qq2 φ e
theorem Exp.drop5 (φ:Int→Nat→Bool) (e:Exp):(e.cs φ).drop 5 = []:=List.drop_eq_nil_of_le (by rw [Exp.cs_len];omega)
theorem Nd.take5 (x:Nd):x.cs.take 5 = x.e.cs φP:=by
 obtain ⟨⟨op,k,name,sub,args⟩,pos⟩:=x
 rfl
theorem Nd.cut5 (x:Nd):Go.AE.cut x.cs 0 (some 5) = some (x.e.enc φP):=by
 rw [qdS (by rw [Nd.len];omega),List.drop_zero,Nd.take5,Exp.dims]
 rfl
theorem qsk (hw:WF ws) {e:Exp} {n':Nat} (h1:qai 66 ws n (.ok e n')) (hk:(word ws n').kind = 4) (hi:h[i]? = some (PB ws n)):Wd (.fn 32 [] []) [.ptr i 0] h = some (.ret (e.enc φP),h.set i (PB ws n'),false):=by
 obtain ⟨x1,x2,x3,x4⟩:=h1
 have hlt:=qd hi
 have hb1:=qr h 1
 rw [PBi] at hi
 rw [qm rfl (show T.get 32 = some c32 by kernel_rfl)]
 simp only [c32,sT.1,sC.1,qf,qe,Nat.testBit,simprocAttr,-Int.reduceNatCast',hi,hlt,PBi,x4,qpj hw x2,hk,hb1,Nd.dimE,Nd.cellsE,Nd.cutE,Nd.dims,Nd.len,Nd.stor,Nd.lower,Nd.drainE,Nd.drop7,Nd.cut5,Exp.dimE,Exp.cellsE,Exp.cut,Exp.stor,Exp.drainE,Exp.lower,Exp.cs_len,Exp.drop5,Exp.dims]
theorem qlf (hw:WF ws) {e:Exp} {n':Nat} (h1:qai 66 ws n (.ok e n')) (hk:(word ws n').kind ≠ 4) (hi:h[i]? = some (PB ws n)):Wd (.fn 32 [] []) [.ptr i 0] h = some (.pan (qbo (word ws n').pos 6),h.set i (PB ws n'),false):=by
 obtain ⟨x1,x2,x3,x4⟩:=h1
 have hlt:=qd hi
 have hb1:=qr h 1
 rw [PBi] at hi
 rw [qm rfl (show T.get 32 = some c32 by kernel_rfl)]
 simp only [c32,sT.1,sC.1,qf,qe,Nat.testBit,simprocAttr,-Int.reduceNatCast',hi,hlt,PBi,x4,qwJ hw x2,hk,hb1,Nd.dimE,Nd.cellsE,Nd.cutE,Nd.dims,Nd.len,Nd.stor,Nd.lower,Nd.drainE,Nd.drop7,qb]
theorem qjm {p err:Int} {n':Nat} (h1:qai 66 ws n (.no p err n')) (hi:h[i]? = some (PB ws n)):Wd (.fn 32 [] []) [.ptr i 0] h = some (.pan (qbo p err),h.set i (PB ws n'),false):=by
 obtain ⟨x1,x2⟩:=h1
 have hlt:=qd hi
 rw [PBi] at hi
 rw [qm rfl (show T.get 32 = some c32 by kernel_rfl)]
 simp only [c32,sT.1,sC.1,qf,qe,Nat.testBit,simprocAttr,-Int.reduceNatCast',hi,hlt,PBi,x2,qb]
theorem qCG:X 31 = some (qeW 4000 c31):=Eq.trans rfl rfl
theorem qxH (aS:List qc) (h:List qx):Wd (.fn 31 [] []) aS h = qfU c31.results h (gW h.length Wd c31.d c31.body ⟨aS.map qc.dim ++ List.replicate (c31.ntmps - aS.length) (.tup []),h,false⟩):=by
 rw [Wd,qrb qgC qCG,qqx (by kernel_rfl) (by kernel_rfl)]
 simp only [List.nil_append,List.append_nil]
def qjK (s:Str) (ws:List Tok):Prop:=∀h,Wd (.fn 64 [] []) [.str s] h = some (.ret (.tup [.lst (ws.map Tok.enc) .no,.int .i64 0,.int .i64 0]),h,false)
def qrg (s:Str) (p e:Int):Prop:=∀h,∃w,Wd (.fn 64 [] []) [.str s] h = some (.ret (.tup [w,.int .i64 p,.int .i64 e]),h,false)
def qhU:qc:=.agg [.int .i64 0,.int .i64 0,.str [],.str [],.lst [] .full]
theorem qvR {s:Str} {p e:Int} (he:e ≠ 0) (hs:qrg s p e) (f:qc):Wd (.fn 31 [] []) [.str s,f] h = some (.ret (.tup [qhU,.int .i64 p,.int .i64 e]),h,false):=by
 obtain ⟨w,hw⟩:=hs (h ++ [.cells [.int .i64 0,.int .i64 0,.str [],.str [],.lst [] .full],.cells [.int .i64 0],.cells [.int .i64 0]])
 have he':(e == 0) = false:=by simpa using he
 have hb1:=qr h 1
 rw [qxH]
 simp only [c31,qgZ,sT.1,sC.1,qf,qe,Nat.testBit,simprocAttr,-Int.reduceNatCast',qeO,qeJ,hw,hb1,he']
 rfl
theorem qA0 {s:Str} (hs:qjK s ws) {e:Exp} (hr:∀(h:List qx) (i:Nat),h[i]? = some (PB ws 0)→Wd (.fn 32 [] []) [.ptr i 0] h = some (.ret (e.enc φP),h.set i (PB ws n),false)):Wd (.fn 31 [] []) [.str s,.fn 32 [] []] h = some (.ret (.tup [e.enc φP,.int .i64 0,.int .i64 0]),h,false):=by
 have hw:=hs (h ++ [.cells [.int .i64 0,.int .i64 0,.str [],.str [],.lst [] .full],.cells [.int .i64 0],.cells [.int .i64 0]])
 have hb1:=qr h 1
 have hb2:Nat.ble h.length (h.length + 1 + 1) = true:=qao (by omega)
 have hp:=hr (h ++ [.cells [.int .i64 0,.int .i64 0,.str [],.str [],.lst [] .full],.cells [.int .i64 0],.cells [.int .i64 0],PB ws 0]) (h.length + 3) (by rw [List.getElem?_append_right (by omega)];simp)
 have z0:((0:Nat):Int) = 0:=Eq.trans rfl rfl
 rw [PBi,PBi,z0] at hp
 rw [qxH]
 simp only [c31,qgZ,qko,qj7,qgP,qgS,qgO,dW,qfQ,qfL,qfE,qmn,qgN,qgH,qu,sT.1,sC.1,qf,qe,Nat.testBit,simprocAttr,-Int.reduceNatCast',qeO,qeJ,qgM,hw,hp,hb1,hb2,Exp.dimE,Exp.cellsE,Exp.cut,Exp.stor,Exp.drainE,Exp.lower,Exp.cs_len,Exp.drop5,Exp.dims]
theorem qpP {s:Str} (hs:qjK s ws) {p err:Int} (hr:∀(h:List qx) (i:Nat),h[i]? = some (PB ws 0)→Wd (.fn 32 [] []) [.ptr i 0] h = some (.pan (qbo p err),h.set i (PB ws n),false)):Wd (.fn 31 [] []) [.str s,.fn 32 [] []] h = some (.ret (.tup [qhU,.int .i64 p,.int .i64 err]),h,false):=by
 have hw:=hs (h ++ [.cells [.int .i64 0,.int .i64 0,.str [],.str [],.lst [] .full],.cells [.int .i64 0],.cells [.int .i64 0]])
 have hb1:=qr h 1
 have hb2:Nat.ble h.length (h.length + 1 + 1) = true:=qao (by omega)
 have hp:=hr (h ++ [.cells [.int .i64 0,.int .i64 0,.str [],.str [],.lst [] .full],.cells [.int .i64 0],.cells [.int .i64 0],PB ws 0]) (h.length + 3) (by rw [List.getElem?_append_right (by omega)];simp)
 have z0:((0:Nat):Int) = 0:=Eq.trans rfl rfl
 rw [PBi,PBi,z0,qbo,qmj] at hp
 rw [qxH]
 simp only [c31,qgZ,qko,qj7,qgP,qgS,qgO,dW,qfQ,qfL,qfE,qmn,qgN,qgH,qu,sT.1,sC.1,qf,qe,Nat.testBit,simprocAttr,-Int.reduceNatCast',qeO,qeJ,qgM,hw,hp,hb1,hb2,Exp.dimE,Exp.cellsE,Exp.cut,Exp.stor,Exp.drainE,Exp.lower,Exp.cs_len,Exp.drop5,Exp.dims]
 rfl
theorem qhx {s:Str} {v:qc} {p err:Int} (hv:∃e:Exp,v = e.enc φP) (hr:∀h,Wd (.fn 31 [] []) [.str s,.fn 32 [] []] h = some (.ret (.tup [v,.int .i64 p,.int .i64 err]),h,false)):Wd (.fn 11 [] []) [.str s] h = some (.ret (.tup [v,.int .i64 p,.int .i64 err]),h,false):=by
 obtain ⟨x,rfl⟩:=hv
 have hb1:=qr h 1
 rw [qm rfl (show T.get 11 = some c11 by kernel_rfl)]
 simp only [c11,sT.1,sC.1,qf,qe,Nat.testBit,simprocAttr,-Int.reduceNatCast',hr,Exp.dimE,Exp.cellsE,Exp.cut,Exp.stor,Exp.drainE,Exp.lower,Exp.cs_len,Exp.drop5,Exp.dims]
end
section
variable {ws:List Tok}
theorem qzF {n:Nat} {s:Str} (h:isW ws n s = true) (s':Str):isW ws n s' = (s == s'):=by
 simp only [isW,Bool.and_eq_true,beq_iff_eq] at h
 simp only [isW,h.1,h.2,Bool.true_and]
def qkE:List (Str×Nat×Int):=[([111,114],1,24),([97,110,100],2,23),([61],4,20),([60],4,21),([60,61],4,22),([43],5,15),([45],5,16),([42],6,17),([47],6,18),([37],6,19)]
def qio (is:Str→Bool):List (Str×Nat×Int)→Nat×Int
 | []=>(0,0)
 | x :: xs=>bif is x.1 then x.2 else qio is xs
def qbH (ws:List Tok) (n:Nat):Nat×Int:=qio (isW ws n) qkE
theorem qgh (is:Str→Bool):∀xs,qio is xs = (0,0)∨∃x ∈ xs,is x.1 = true∧qio is xs = x.2
 | []=>.inl rfl
 | x :: xs=>by
  rw [qio]
  cases h:is x.1 with
  | true=>exact .inr ⟨x,by simp,h,rfl⟩
  | false=>
   rcases qgh is xs with h2 | ⟨y,h2,h3,h4⟩
   ·exact .inl h2
   ·exact .inr ⟨y,by simp [h2],h3,h4⟩
theorem qze (n:Nat):(qbH ws n).1 ≤ 6:=by
 rcases qgh (isW ws n) qkE with h | ⟨x,h1,_,h3⟩
 ·rw [qbH,h];omega
 ·rw [qbH,h3]
  have:qkE.all (fun x=>decide (x.2.1 ≤ 6)) = true:=by kernel_rfl
  simpa using List.all_eq_true.1 this x h1
theorem qei (hw:WF ws) {n:Nat} (hn:n < ws.length) (h:(qbH ws n).1 ≠ 0):n + 1 < ws.length:=by
 rcases qgh (isW ws n) qkE with h0 | ⟨x,h1,h2,h3⟩
 ·rw [qbH,h0] at h;exact absurd rfl h
 ·exact qh hw hn h2
theorem qhe {n:Nat} {s:Str} (h:isW ws n s = true):qbH ws n = qio (s == ·) qkE:=by
 rw [qbH,show isW ws n = (s == ·) from funext (qzF h)]
inductive qgB (ws:List Tok) (cl:Nat→Nat→Out→Prop) (pos:Int) (least:Nat):Nat→Exp→Nat→Out→Prop
 | stop {most e n}:(qbH ws n).1 = 0∨(qbH ws n).1 < least∨most < (qbH ws n).1→qgB ws cl pos least most e n (.ok e n)
 | bad {most e n p err m}:(qbH ws n).1 ≠ 0→least ≤ (qbH ws n).1→(qbH ws n).1 ≤ most→cl (n + 1) ((qbH ws n).1 + 1) (.no p err m)→qgB ws cl pos least most e n (.no p err m)
 | deep {most e n x n1}:(qbH ws n).1 ≠ 0→least ≤ (qbH ws n).1→(qbH ws n).1 ≤ most→cl (n + 1) ((qbH ws n).1 + 1) (.ok x n1)→¬ (Exp.mk (qbH ws n).2 0 [] [] [e,x]).depth ≤ 20→qgB ws cl pos least most e n (.no pos 7 n1)
 | go {most e n x n1 o}:(qbH ws n).1 ≠ 0→least ≤ (qbH ws n).1→(qbH ws n).1 ≤ most→cl (n + 1) ((qbH ws n).1 + 1) (.ok x n1)→(Exp.mk (qbH ws n).2 0 [] [] [e,x]).depth ≤ 20→qgB ws cl pos least (if (qbH ws n).1 = 4 then 2 else (qbH ws n).1) (.mk (qbH ws n).2 0 [] [] [e,x]) n1 o→qgB ws cl pos least most e n o
variable {cl:Nat→Nat→Out→Prop} {pos:Int}
theorem qgB.comp0 {lo hi:Nat} (hlo:lo ≤ hi) (h4:hi ≠ 4) {most:Nat} {e:Exp} {n:Nat} {o':Out} (h:qgB ws cl pos hi most e n o'):∀e1 n1 o,o' = .ok e1 n1→hi - 1 ≤ most→1 ≤ hi→qgB ws cl pos lo (hi - 1) e1 n1 o→qgB ws cl pos lo most e n o:=by
 induction h with
 | @stop most e n hs=>
  intro e1 n1 o ho hm h1 h2
  cases ho
  cases h2 with
  | stop hs2=>exact .stop (by omega)
  | bad a b c d=>exact .bad a b (by omega) d
  | deep a b c d f=>exact .deep a b (by omega) d f
  | go a b c d f g=>exact .go a b (by omega) d f g
 | bad _ _ _ _=>intro e1 n1 o ho;cases ho
 | deep _ _ _ _ _=>intro e1 n1 o ho;cases ho
 | go a b c d f _ ih=>
  intro e1 n1 o ho hm h1 h2
  refine .go a (by omega) c d f (ih e1 n1 o ho ?_ h1 h2)
  split <;> omega
theorem qgB.comp {lo hi most:Nat} (hlo:lo ≤ hi) (h4:hi ≠ 4) (h1:1 ≤ hi) (hm:hi - 1 ≤ most) {e:Exp} {n:Nat} {e1:Exp} {n1:Nat} (h:qgB ws cl pos hi most e n (.ok e1 n1)) {o:Out} (h2:qgB ws cl pos lo (hi - 1) e1 n1 o):qgB ws cl pos lo most e n o:=
 h.comp0 hlo h4 e1 n1 o rfl hm h1 h2
theorem qgB.no0 {lo hi:Nat} (hlo:lo ≤ hi) {most:Nat} {e:Exp} {n:Nat} {o:Out} (h:qgB ws cl pos hi most e n o):∀p err m,o = .no p err m→qgB ws cl pos lo most e n o:=by
 induction h with
 | stop _=>intro p err m ho;cases ho
 | bad a b c d=>intro p err m ho;exact .bad a (by omega) c d
 | deep a b c d f=>intro p err m ho;exact .deep a (by omega) c d f
 | go a b c d f _ ih=>intro p err m ho;exact .go a (by omega) c d f (ih p err m ho)
theorem qgB.no {lo hi most:Nat} (hlo:lo ≤ hi) {e:Exp} {n:Nat} {p err:Int} {m:Nat} (h:qgB ws cl pos hi most e n (.no p err m)):qgB ws cl pos lo most e n (.no p err m):=h.no0 hlo p err m rfl
theorem qe8.more {op:Nat→Option Int} {sub:Nat→Out→Prop} {L:Nat} (h1:L ≠ 0) (h4:L ≠ 4) (hop:∀n k,op n = some k→qbH ws n = (L,k)) (hno:∀n,op n = none→(qbH ws n).1 ≠ L) (hcl:∀n o,sub n o→cl n (L + 1) o)
  {e:Exp} {n:Nat} {o:Out} (h:qe8 op sub pos e n o):qgB ws cl pos L L e n o:=by
 induction h with
 | @stop e n hs=>exact .stop (by have:=hno n hs;omega)
 | @bad e n k p err m hs hx=>
  have r:=hop n k hs
  refine .bad ?_ ?_ ?_ ?_
  ·rw [r];exact h1
  ·rw [r];exact Nat.le_refl _
  ·rw [r];exact Nat.le_refl _
  ·rw [r];exact hcl _ _ hx
 | @deep e n k x n1 hs hx hd=>
  have r:=hop n k hs
  refine .deep (x:=x) ?_ ?_ ?_ ?_ ?_
  ·rw [r];exact h1
  ·rw [r];exact Nat.le_refl _
  ·rw [r];exact Nat.le_refl _
  ·rw [r];exact hcl _ _ hx
  ·rw [r];exact hd
 | @go e n k x n1 o hs hx hd _ ih=>
  have r:=hop n k hs
  refine .go (x:=x) (n1:=n1) ?_ ?_ ?_ ?_ ?_ ?_
  ·rw [r];exact h1
  ·rw [r];exact Nat.le_refl _
  ·rw [r];exact Nat.le_refl _
  ·rw [r];exact hcl _ _ hx
  ·rw [r];exact hd
  ·rw [r]
   simp only
   rw [if_neg h4]
   exact ih
theorem ql2 (n:Nat) (k:Int) (h:qfs ws n = some k):qbH ws n = (6,k):=by
 rcases qc3 h with ⟨a,rfl⟩ | ⟨_,a,rfl⟩ | ⟨_,_,a,rfl⟩ <;> (rw [qhe a];rfl)
theorem qnD (n:Nat) (k:Int) (h:qi9 ws n = some k):qbH ws n = (5,k):=by
 rcases qdO h with ⟨a,rfl⟩ | ⟨_,a,rfl⟩ <;> (rw [qhe a];rfl)
theorem qkP (n:Nat) (k:Int) (h:qek ws n = some k):qbH ws n = (4,k):=by
 rcases qc1 h with ⟨a,rfl⟩ | ⟨_,a,rfl⟩ | ⟨_,_,a,rfl⟩ <;> (rw [qhe a];rfl)
theorem qoV (n:Nat) (k:Int) (h:qjb ws n = some k):qbH ws n = (2,k):=by
 obtain ⟨a,rfl⟩:=qdL h
 rw [qhe a];rfl
theorem qrK (n:Nat) (k:Int) (h:qvJ ws n = some k):qbH ws n = (1,k):=by
 obtain ⟨a,rfl⟩:=qeE h
 rw [qhe a];rfl
inductive HN (ws:List Tok) (neg:Nat→Out→Prop) (cl:Nat→Nat→Out→Prop) (L n:Nat):Out→Prop
 | bad {p err m}:neg n (.no p err m)→HN ws neg cl L n (.no p err m)
 | go {e n1 o}:neg n (.ok e n1)→qgB ws cl (word ws n).pos L 6 e n1 o→HN ws neg cl L n o
inductive HT (ws:List Tok) (cl:Nat→Nat→Out→Prop) (L n:Nat):Out→Prop
 | bad {p err m}:cl (n + 1) 3 (.no p err m)→HT ws cl L n (.no p err m)
 | deep {x n1}:cl (n + 1) 3 (.ok x n1)→¬ (Exp.mk 14 0 [] [] [x]).depth ≤ 20→HT ws cl L n (.no (word ws n).pos 7 n1)
 | go {x n1 o}:cl (n + 1) 3 (.ok x n1)→(Exp.mk 14 0 [] [] [x]).depth ≤ 20→qgB ws cl (word ws n).pos L 2 (.mk 14 0 [] [] [x]) n1 o→HT ws cl L n o
def HC (ws:List Tok) (neg:Nat→Out→Prop) (cl:Nat→Nat→Out→Prop) (L n:Nat) (o:Out):Prop:=
 (isW ws n [110,111,116] = true∧HT ws cl L n o)∨(isW ws n [110,111,116] = false∧HN ws neg cl L n o)
variable {neg:Nat→Out→Prop}
theorem HN.on {lo hi n:Nat} (hlo:lo ≤ hi) (h4:hi ≠ 4) (h1:1 ≤ hi) (h6:hi ≤ 7) {e:Exp} {n1:Nat} (h:HN ws neg cl hi n (.ok e n1)) {o:Out} (h2:qgB ws cl (word ws n).pos lo (hi - 1) e n1 o):HN ws neg cl lo n o:=by
 cases h with
 | go a b=>exact .go a (b.comp hlo h4 h1 (by omega) h2)
theorem HN.no {lo hi n:Nat} (hlo:lo ≤ hi) {p err:Int} {m:Nat} (h:HN ws neg cl hi n (.no p err m)):HN ws neg cl lo n (.no p err m):=by
 cases h with
 | bad a=>exact .bad a
 | go a b=>exact .go a (b.no hlo)
theorem HT.on {lo hi n:Nat} (hlo:lo ≤ hi) (h1:1 ≤ hi) (h3:hi ≤ 3) {e:Exp} {n1:Nat} (h:HT ws cl hi n (.ok e n1)) {o:Out} (h2:qgB ws cl (word ws n).pos lo (hi - 1) e n1 o):HT ws cl lo n o:=by
 cases h with
 | go a b c=>exact .go a b (c.comp hlo (by omega) h1 (by omega) h2)
theorem HT.no {lo hi n:Nat} (hlo:lo ≤ hi) {p err:Int} {m:Nat} (h:HT ws cl hi n (.no p err m)):HT ws cl lo n (.no p err m):=by
 cases h with
 | bad a=>exact .bad a
 | deep a b=>exact .deep a b
 | go a b c=>exact .go a b (c.no hlo)
theorem HC.on {lo hi n:Nat} (hlo:lo ≤ hi) (h1:1 ≤ hi) (h3:hi ≤ 3) {e:Exp} {n1:Nat} (h:HC ws neg cl hi n (.ok e n1)) {o:Out} (h2:qgB ws cl (word ws n).pos lo (hi - 1) e n1 o):HC ws neg cl lo n o:=by
 rcases h with ⟨a,b⟩ | ⟨a,b⟩
 ·exact .inl ⟨a,b.on hlo h1 h3 h2⟩
 ·exact .inr ⟨a,b.on hlo (by omega) h1 (by omega) h2⟩
theorem HC.no {lo hi n:Nat} (hlo:lo ≤ hi) {p err:Int} {m:Nat} (h:HC ws neg cl hi n (.no p err m)):HC ws neg cl lo n (.no p err m):=by
 rcases h with ⟨a,b⟩ | ⟨a,b⟩
 ·exact .inl ⟨a,b.no hlo⟩
 ·exact .inr ⟨a,b.no hlo⟩
theorem HN.base {n:Nat} {o:Out} (h:neg n o):HN ws neg cl 7 n o:=by
 cases o with
 | ok e n1=>exact .go h (.stop (by have:=qze (ws:=ws) n1;omega))
 | no p err m=>exact .bad h
end
def qkJ (f:FuncId) (ws:List Tok) (n:Nat):Except (Int×Int) (qc×Nat)→Prop
 | .ok (v,n')=>n < n'∧n' < ws.length∧∀(h:List qx) (i:Nat),h[i]? = some (PB ws n)→Wd (.fn f [] []) [.ptr i 0] h = some (.ret v,h.set i (PB ws n'),false)
 | .error (p,e)=>∃n',n' < ws.length∧∀(h:List qx) (i:Nat),h[i]? = some (PB ws n)→Wd (.fn f [] []) [.ptr i 0] h = some (.pan (qbo p e),h.set i (PB ws n'),false)
def GOK (ws:List Tok) (Q:qc→Prop):Except (Int×Int) (qc×Nat)→Prop
 | .ok (v,_)=>Q v
 | .error (p,e)=>(∃k,k < ws.length∧p = (word ws k).pos)∧1 ≤ e
theorem qW {ws:List Tok} {n:Nat} (h:qab ws n = true):qa2 (word ws n).s = true:=by
 simp only [qab,Bool.and_eq_true] at h
 exact h.2
def qcb (op:Int) (n:Int) (name sub:Str) (k:Nat):Bool:=
 (op == 0 && ile 0 n && name == [] && sub == [] && k == 0) ||
 ((op == 1 || op == 2 || op == 11) && n == 0 && name == [] && sub == [] && k == 0) ||
 (op == 3 && n == 0 && qfW name && sub == [] && k == 0) ||
 ((op == 4 || op == 7 || op == 8 || op == 9) && n == 0 && qa2 name && sub == [] && k == 0) ||
 (op == 5 && n == 0 && qa2 name && qa2 sub && k == 0) ||
 (op == 6 && n == 0 && name == [] && sub == [] && (Nat.ble 1 k && Nat.ble k 4)) ||
 (op == 10 && n == 0 && qa2 name && sub == [] && k == 1) ||
 (op == 12 && ile 0 n && ilt n 4 && name == [] && sub == [] && k == 1) ||
 ((op == 13 || op == 14) && n == 0 && name == [] && sub == [] && k == 1) ||
 (op == 25 && n == 0 && name == [] && sub == [] && k == 3) ||
 ((ile 15 op && ile op 24) && n == 0 && name == [] && sub == [] && k == 2)
mutual
def Exp.right:Exp→Bool
 | .mk op n name sub args=>qcb op n name sub args.length && qbA args
def qbA:List Exp→Bool
 | []=>true
 | e :: es=>e.right && qbA es
end
def XOK (ws:List Tok):Out→Prop
 | .ok e _=>e.right = true
 | .no p err _=>(∃k,k < ws.length∧p = (word ws k).pos)∧1 ≤ err
def qly (e:Exp):Prop:=e.right = true∧e.depth ≤ 20
structure qY where
 name:Str
 model:Str
def qY.enc (x:qY):qc:=.agg [.str x.name,.str x.model]
def qjp (v:qc):Prop:=∃x:qY,v = x.enc∧qa2 x.name = true∧qa2 x.model = true
structure qa1 where
 part:Str
 port:Str
def qa1.enc (x:qa1):qc:=.agg [.str x.part,.str x.port]
abbrev qa1.ok (x:qa1):Prop:=(x.part = []∨qa2 x.part = true)∧qa2 x.port = true
def qCx (v:qc):Prop:=∃x:qa1,v = x.enc∧x.ok
structure qF where
 frm:qa1
 to:qa1
def qF.enc (x:qF):qc:=.agg [.str x.frm.part,.str x.frm.port,.str x.to.part,.str x.to.port]
def qkh (v:qc):Prop:=∃x:qF,v = x.enc∧x.frm.ok∧x.to.ok
structure qa5 where
 name:Str
 e:Exp
def qa5.enc (x:qa5):qc:=.agg (.str x.name :: x.e.cs φP)
def qgF (v:qc):Prop:=∃x:qa5,v = x.enc∧qa2 x.name = true∧qly x.e
structure qX where
 port:Str
 e:Exp
 cond:List Exp
def qX.enc (x:qX):qc:=.agg (.str x.port :: (x.e.cs φP ++ [.lst (x.cond.map (Exp.enc φP)) .full]))
def qj5 (v:qc):Prop:=∃x:qX,v = x.enc∧qa2 x.port = true∧qly x.e∧(x.cond = []∨∃e,x.cond = [e]∧qly e)
theorem qN {z:List qc} (op k:Int) (nm sb:Str) (args:List Exp) (hz:z.length = 5):qfc 5 z 1 [(0,.agg [.int .i64 op,.int .i64 k,.str nm,.str sb,.lst (qbE φP args) (fl (φP op args.length))])] = some (.lst [.agg [.int .i64 op,.int .i64 k,.str nm,.str sb,.lst (qbE φP args) (fl (φP op args.length))]] .full):=qdG hz (by omega) rfl (by simp [qc.storable]) (by omega)
section
variable {ws:List Tok}
def WQ (ws:List Tok):Prop:=∀n,n < ws.length→((word ws n).kind = 1→0 ≤ (word ws n).n)∧((word ws n).kind = 2→qfW (word ws n).s = true)
theorem qct {a b:Int} (h:a ≤ b):ile a b = true:=by rw [qea];simp [h]
theorem qsX {a b:Int} (h:a < b):ilt a b = true:=by rw [qaw];simp [h]
theorem qEr {n:Int} (h:0 ≤ n):(Exp.mk 0 n [] [] []).right = true:=by simp [Exp.right,qbA,qcb,qct h]
theorem qEk {s:Str} (h:qfW s = true):(Exp.mk 3 0 s [] []).right = true:=by simp [Exp.right,qbA,qcb,h]
theorem qpo {op:Int} (h:op = 1∨op = 2∨op = 11):(Exp.mk op 0 [] [] []).right = true:=by rcases h with rfl | rfl | rfl <;> rfl
theorem qzB {op:Int} {s:Str} (h:op = 4∨op = 7∨op = 8∨op = 9) (hs:qa2 s = true):(Exp.mk op 0 s [] []).right = true:=by rcases h with rfl | rfl | rfl | rfl <;> simp [Exp.right,qbA,qcb,hs]
theorem qFT {s t:Str} (hs:qa2 s = true) (ht:qa2 t = true):(Exp.mk 5 0 s t []).right = true:=by simp [Exp.right,qbA,qcb,hs,ht]
theorem qy6 {s:Str} {x:Exp} (hs:qa2 s = true) (hx:x.right = true):(Exp.mk 10 0 s [] [x]).right = true:=by simp [Exp.right,qbA,qcb,hs,hx]
theorem qFm {op:Int} {x:Exp} (h:op = 13∨op = 14) (hx:x.right = true):(Exp.mk op 0 [] [] [x]).right = true:=by rcases h with rfl | rfl <;> simp [Exp.right,qbA,qcb,hx]
theorem qAx {n:Int} {x:Exp} (h0:0 ≤ n) (h4:n < 4) (hx:x.right = true):(Exp.mk 12 n [] [] [x]).right = true:=by simp [Exp.right,qbA,qcb,hx,qct h0,qsX h4]
theorem qF1 {a b c:Exp} (ha:a.right = true) (hb:b.right = true) (hc:c.right = true):(Exp.mk 25 0 [] [] [a,b,c]).right = true:=by simp [Exp.right,qbA,qcb,ha,hb,hc]
theorem qBG {k:Int} {a b:Exp} (hk:15 ≤ k∧k ≤ 24) (ha:a.right = true) (hb:b.right = true):(Exp.mk k 0 [] [] [a,b]).right = true:=by simp [Exp.right,qbA,qcb,ha,hb,qct hk.1,qct hk.2]
theorem qBo {args:List Exp} (h1:1 ≤ args.length) (h4:args.length ≤ 4) (ha:qbA args = true):(Exp.mk 6 0 [] [] args).right = true:=by
 have e1:Nat.ble 1 args.length = true:=qao h1
 have e2:Nat.ble args.length 4 = true:=qao h4
 simp [Exp.right,qcb,ha,e1,e2]
theorem qAo {x:Exp} (hx:x.right = true):(Exp.mk 6 0 [] [] [x]).right = true:=qBo (by simp) (by simp) (by simp [qbA,hx])
theorem qg0 {args:List Exp} {y:Exp} (ha:qbA args = true) (hy:y.right = true):qbA (args ++ [y]) = true:=by
 induction args with
 | nil=>simp [qbA,hy]
 | cons a aS ih=>
  simp only [qbA,Bool.and_eq_true] at ha
  simp only [List.cons_append,qbA,ha.1,ih ha.2,Bool.and_self]
theorem qtW {n:Nat} {k:Int} (h:qfs ws n = some k):15 ≤ k∧k ≤ 24:=by rcases qc3 h with ⟨_,rfl⟩ | ⟨_,_,rfl⟩ | ⟨_,_,_,rfl⟩ <;> decide
theorem qxp {n:Nat} {k:Int} (h:qi9 ws n = some k):15 ≤ k∧k ≤ 24:=by rcases qdO h with ⟨_,rfl⟩ | ⟨_,_,rfl⟩ <;> decide
theorem qun {n:Nat} {k:Int} (h:qek ws n = some k):15 ≤ k∧k ≤ 24:=by rcases qc1 h with ⟨_,rfl⟩ | ⟨_,_,rfl⟩ | ⟨_,_,_,rfl⟩ <;> decide
theorem qza {n:Nat} {k:Int} (h:qjb ws n = some k):15 ≤ k∧k ≤ 24:=by obtain ⟨_,rfl⟩:=qdL h;decide
theorem qAC {n:Nat} {k:Int} (h:qvJ ws n = some k):15 ≤ k∧k ≤ 24:=by obtain ⟨_,rfl⟩:=qeE h;decide
theorem qe8.imp {op:Nat→Option Int} {sub sub':Nat→Out→Prop} {pos:Int} (hs:∀n o,sub n o→sub' n o) {e:Exp} {n:Nat} {o:Out} (h:qe8 op sub pos e n o):qe8 op sub' pos e n o:=by
 induction h with
 | stop a=>exact .stop a
 | bad a b=>exact .bad a (hs _ _ b)
 | deep a b c=>exact .deep a (hs _ _ b) c
 | go a b c _ ih=>exact .go a (hs _ _ b) c ih
theorem qdH.imp {sub sub':Nat→Out→Prop} {pos:Int} (hs:∀n o,sub n o→sub' n o) {args:List Exp} {n:Nat} {o:Out} (h:qdH ws sub pos args n o):qdH ws sub' pos args n o:=by
 induction h with
 | many a=>exact .many a
 | bad a b=>exact .bad a (hs _ _ b)
 | next a b c _ ih=>exact .next a (hs _ _ b) c ih
 | unshut a b c d=>exact .unshut a (hs _ _ b) c d
 | deep a b c d e=>exact .deep a (hs _ _ b) c d e
 | shut a b c d e=>exact .shut a (hs _ _ b) c d e
def Exs (ws:List Tok) (sub:Nat→Out→Prop) (n:Nat):Prop:=∀m,n ≤ m→m < ws.length→∃o,sub m o
def qED (ws:List Tok) (sub:Nat→Out→Prop):Prop:=∀m e m',sub m (.ok e m')→m < m'∧m' < ws.length
theorem qe8.ex {op:Nat→Option Int} {sub:Nat→Out→Prop} {pos:Int} (hop:∀n k,n < ws.length→op n = some k→n + 1 < ws.length) (hg:qED ws sub) (n0:Nat) (hx:Exs ws sub n0):∀(k:Nat) (e:Exp) (n:Nat),n0 ≤ n→ws.length - n ≤ k→n < ws.length→∃o,qe8 op sub pos e n o:=by
 intro k
 induction k with
 | zero=>intro e n _ h1 h2;omega
 | succ k ih=>
  intro e n h0 h1 h2
  cases hs:op n with
  | none=>exact ⟨_,.stop hs⟩
  | some j=>
   obtain ⟨o,ho⟩:=hx (n + 1) (by omega) (hop n j h2 hs)
   cases o with
   | no p err m=>exact ⟨_,.bad hs ho⟩
   | ok x n1=>
    obtain ⟨g1,g2⟩:=hg _ _ _ ho
    by_cases hd:(Exp.mk j 0 [] [] [e,x]).depth ≤ 20
    ·obtain ⟨o,h⟩:=ih (.mk j 0 [] [] [e,x]) n1 (by omega) (by omega) g2
     exact ⟨o,.go hs ho hd h⟩
    ·exact ⟨_,.deep hs ho hd⟩
theorem qeX.ex (hw:WF ws) {pos:Int}:∀(k:Nat) (e:Exp) (n:Nat),ws.length - n ≤ k→n < ws.length→∃o,qeX ws pos e n o:=by
 intro k
 induction k with
 | zero=>intro e n h1 h2;omega
 | succ k ih=>
  intro e n h1 h2
  cases hs:isW ws n [46] with
  | false=>exact ⟨_,.stop hs⟩
  | true=>
   have n1:=qh hw h2 hs
   by_cases hk:(word ws (n + 1)).kind = 1
   ·by_cases h4:4 ≤ (word ws (n + 1)).n
    ·exact ⟨_,.many hs hk h4⟩
    ·by_cases hd:(Exp.mk 12 (word ws (n + 1)).n [] [] [e]).depth ≤ 20
     ·have n2:=hw.next n1 (by omega)
      obtain ⟨o,h⟩:=ih (.mk 12 (word ws (n + 1)).n [] [] [e]) (n + 1 + 1) (by omega) n2
      exact ⟨o,.go hs hk (by omega) hd h⟩
     ·exact ⟨_,.deep hs hk (by omega) hd⟩
   ·exact ⟨_,.bad hs hk⟩
theorem qdH.ex (hw:WF ws) {sub:Nat→Out→Prop} {pos:Int} (hg:qED ws sub) (n0:Nat) (hx:Exs ws sub n0):∀(k:Nat) (args:List Exp) (m:Nat),args.length + k = 4→n0 ≤ m→m < ws.length→∃o,qdH ws sub pos args m o:=by
 intro k
 induction k with
 | zero=>intro args m h1 _ _;exact ⟨_,.many (by omega)⟩
 | succ k ih=>
  intro args m h1 h0 h2
  obtain ⟨o,ho⟩:=hx m h0 h2
  cases o with
  | no p err j=>exact ⟨_,.bad (by omega) ho⟩
  | ok y m1=>
   obtain ⟨g1,g2⟩:=hg _ _ _ ho
   cases hc:isW ws m1 [44] with
   | true=>
    obtain ⟨o,h⟩:=ih (args ++ [y]) (m1 + 1) (by simp;omega) (by omega) (qh hw g2 hc)
    exact ⟨o,.next (by omega) ho hc h⟩
   | false=>
    cases hs:isW ws m1 [41] with
    | false=>exact ⟨_,.unshut (by omega) ho hc hs⟩
    | true=>
     by_cases hd:(Exp.mk 6 0 [] [] (args ++ [y])).depth ≤ 20
     ·exact ⟨_,.shut (by omega) ho hc hs hd⟩
     ·exact ⟨_,.deep (by omega) ho hc hs hd⟩
theorem qe8.xok {op:Nat→Option Int} {sub:Nat→Out→Prop} {pos:Int} (hop:∀n k,op n = some k→15 ≤ k∧k ≤ 24) (hp:∃k,k < ws.length∧pos = (word ws k).pos) (hs:∀n o,sub n o→XOK ws o) {e:Exp} {n:Nat} {o:Out} (he:e.right = true) (h:qe8 op sub pos e n o):XOK ws o:=by
 induction h with
 | stop _=>exact he
 | bad _ b=>exact hs _ _ b
 | deep _ _ _=>exact ⟨hp,by decide⟩
 | go a b _ _ ih=>exact ih (qBG (hop _ _ a) he (hs _ _ b))
theorem qeX.xok (hw:WF ws) (hz:WQ ws) {pos:Int} (hp:∃k,k < ws.length∧pos = (word ws k).pos) {e:Exp} {n:Nat} {o:Out} (hn:n < ws.length) (he:e.right = true) (h:qeX ws pos e n o):XOK ws o:=by
 induction h with
 | stop _=>exact he
 | bad a _=>exact ⟨⟨_,qh hw hn a,rfl⟩,by decide⟩
 | many a _ _=>exact ⟨⟨_,qh hw hn a,rfl⟩,by decide⟩
 | deep _ _ _ _=>exact ⟨hp,by decide⟩
 | go a b c _ _ ih=>exact ih (hw.next (qh hw hn a) (by omega)) (qAx ((hz _ (qh hw hn a)).1 b) c he)
theorem qdH.xok {sub:Nat→Out→Prop} {pos:Int} (hp:∃k,k < ws.length∧pos = (word ws k).pos) (hs:∀n o,sub n o→XOK ws o) {args:List Exp} {n:Nat} {o:Out} (hn:n < ws.length) (hg:∀n e m,sub n (.ok e m)→m < ws.length) (hw:WF ws) (_:0 ≤ n) (ha:qbA args = true) (h1:1 ≤ args.length) (h:qdH ws sub pos args n o):XOK ws o:=by
 induction h with
 | @many args m _=>exact ⟨⟨m,hn,rfl⟩,by cases qbd ws m <;> decide⟩
 | bad _ b=>exact hs _ _ b
 | next _ b c _ ih=>exact ih (qh hw (hg _ _ _ b) c) (Nat.zero_le _) (qg0 ha (hs _ _ b)) (by simp)
 | unshut _ b _ _=>exact ⟨⟨_,hg _ _ _ b,rfl⟩,by decide⟩
 | deep _ _ _ _ _=>exact ⟨hp,by decide⟩
 | shut a b _ _ _=>exact qBo (by simp) (by simp;omega) (qg0 ha (hs _ _ b))
theorem qsL (hw:WF ws) {n:Nat} (hn:n < ws.length) {p err:Int} {m:Nat} (h1:qai 293 ws n (.no p err m)):qai 292 ws n (.no p err m):=by
 obtain ⟨g1,g2⟩:=h1
 refine ⟨g1,fun h i hi=>?_⟩
 have hlt:=qd hi
 rw [PBi] at hi
 rw [qm rfl (show T.get 292 = some qzw by kernel_rfl)]
 simp only [qzw,sT.1,sC.1,qf,qe,Nat.testBit,simprocAttr,-Int.reduceNatCast',g2,hi,hlt,PBi,qb]
def qzR (ws:List Tok) (n:Nat) (o:Out):Prop:=n < ws.length∧XOK ws o∧qai 289 ws n o
def qvT (ws:List Tok) (n:Nat) (o:Out):Prop:=n < ws.length∧XOK ws o∧qai 283 ws n o
def qCo (ws:List Tok) (n:Nat) (o:Out):Prop:=n < ws.length∧XOK ws o∧qai 272 ws n o
def qz6 (ws:List Tok) (n:Nat) (o:Out):Prop:=n < ws.length∧XOK ws o∧qai 261 ws n o
def qBD (ws:List Tok) (n:Nat) (o:Out):Prop:=n < ws.length∧XOK ws o∧qai 230 ws n o
def qCh (ws:List Tok) (n:Nat) (o:Out):Prop:=n < ws.length∧XOK ws o∧qai 180 ws n o
def JOr (ws:List Tok) (n:Nat) (o:Out):Prop:=n < ws.length∧XOK ws o∧qai 126 ws n o
def qst (ws:List Tok) (n:Nat) (o:Out):Prop:=n < ws.length∧XOK ws o∧qai 66 ws n o
theorem qgU {sub:Nat→Out→Prop} {f:FuncId} (h:∀n o,sub n o→qai f ws n o):qED ws sub:=fun m e m' hs=>⟨(h _ _ hs).1,(h _ _ hs).2.1⟩
variable (hw:WF ws) (hz:WQ ws)
include hw hz
set_option linter.unusedSectionVars false
theorem qAk {n:Nat} {o:Out} (h:qzR ws n o) (hx:Exs ws (qzR ws) (n + 1)):∃o,qvT ws n o:=by
 obtain ⟨hn,hok,hp⟩:=h
 cases o with
 | no p err m=>exact ⟨_,hn,(by exact hok),qrd hw hn hp⟩
 | ok e n1=>
  obtain ⟨o,ho⟩:=qe8.ex (op:=qfs ws) (pos:=(word ws n).pos) (fun m k hm hs=>qei hw hm (by rw [ql2 m k hs];simp)) (qgU (f:=289) fun _ _ h=>h.2.2) (n + 1) hx ws.length e n1 hp.1 (by omega) hp.2.1
  refine ⟨o,hn,qe8.xok (fun m k hk=>qtW hk) ⟨n,hn,rfl⟩ (fun _ _ h=>h.2.1) hok ho,qvI hw hn hp (ho.imp fun _ _ h=>h.2.2)⟩
theorem qEx {n:Nat} {o:Out} (h:qvT ws n o) (hx:Exs ws (qvT ws) (n + 1)):∃o,qCo ws n o:=by
 obtain ⟨hn,hok,hp⟩:=h
 cases o with
 | no p err m=>exact ⟨_,hn,(by exact hok),qwO hw hn hp⟩
 | ok e n1=>
  obtain ⟨o,ho⟩:=qe8.ex (op:=qi9 ws) (pos:=(word ws n).pos) (fun m k hm hs=>qei hw hm (by rw [qnD m k hs];simp)) (qgU (f:=283) fun _ _ h=>h.2.2) (n + 1) hx ws.length e n1 hp.1 (by omega) hp.2.1
  refine ⟨o,hn,qe8.xok (fun m k hk=>qxp hk) ⟨n,hn,rfl⟩ (fun _ _ h=>h.2.1) hok ho,qyt hw hn hp (ho.imp fun _ _ h=>h.2.2)⟩
theorem qBq {n:Nat} {o:Out} (h:qCo ws n o) (hx:Exs ws (qCo ws) (n + 1)):∃o,qz6 ws n o:=by
 obtain ⟨hn,hok,hp⟩:=h
 cases o with
 | no p err m=>exact ⟨_,hn,hok,ql6 hw hn hp⟩
 | ok e n1=>
  cases hs:qek ws n1 with
  | none=>exact ⟨_,hn,hok,qvv hw hn hp hs⟩
  | some k=>
   have hk4:=qkP n1 k hs
   have n2:=qei hw hp.2.1 (by rw [hk4];simp)
   obtain ⟨o2,h2⟩:=hx (n1 + 1) (by have:=hp.1;omega) n2
   cases o2 with
   | no p err m=>exact ⟨_,hn,(by exact h2.2.1),qke hw hn hp hs h2.2.2⟩
   | ok x n2=>
    by_cases hd:(Exp.mk k 0 [] [] [e,x]).depth ≤ 20
    ·exact ⟨_,hn,(by exact qBG (qun hs) hok h2.2.1),qu5 hw hn hp hs h2.2.2 hd⟩
    ·exact ⟨_,hn,(by exact ⟨⟨_,by assumption,rfl⟩,by decide⟩),qi0 hw hn hp hs h2.2.2 hd⟩
theorem qEo {n:Nat} (hn:n < ws.length) (h:isW ws n [110,111,116] = false→∃o,qz6 ws n o) (hx:Exs ws (qBD ws) (n + 1)):∃o,qBD ws n o:=by
 cases hs:isW ws n [110,111,116] with
 | false=>
  obtain ⟨o,_,hok,hp⟩:=h hs
  exact ⟨o,hn,hok,qmk hw hn hs hp⟩
 | true=>
  obtain ⟨o,h2⟩:=hx (n + 1) (Nat.le_refl _) (qh hw hn hs)
  cases o with
  | no p err m=>exact ⟨_,hn,(by exact h2.2.1),qyE hw hn hs h2.2.2⟩
  | ok x n1=>
   by_cases hd:(Exp.mk 14 0 [] [] [x]).depth ≤ 20
   ·exact ⟨_,hn,(by exact qFm (by decide) h2.2.1),qt5 hw hn hs h2.2.2 hd⟩
   ·exact ⟨_,hn,(by exact ⟨⟨_,by assumption,rfl⟩,by decide⟩),quK hw hn hs h2.2.2 hd⟩
theorem qDC {n:Nat} {o:Out} (h:qBD ws n o) (hx:Exs ws (qBD ws) (n + 1)):∃o,qCh ws n o:=by
 obtain ⟨hn,hok,hp⟩:=h
 cases o with
 | no p err m=>exact ⟨_,hn,(by exact hok),qwu hw hn hp⟩
 | ok e n1=>
  obtain ⟨o,ho⟩:=qe8.ex (op:=qjb ws) (pos:=(word ws n).pos) (fun m k hm hs=>qei hw hm (by rw [qoV m k hs];simp)) (qgU (f:=230) fun _ _ h=>h.2.2) (n + 1) hx ws.length e n1 hp.1 (by omega) hp.2.1
  refine ⟨o,hn,qe8.xok (fun m k hk=>qza hk) ⟨n,hn,rfl⟩ (fun _ _ h=>h.2.1) hok ho,qyY hw hn hp (ho.imp fun _ _ h=>h.2.2)⟩
theorem qGm {n:Nat} {o:Out} (h:qCh ws n o) (hx:Exs ws (qCh ws) (n + 1)):∃o,JOr ws n o:=by
 obtain ⟨hn,hok,hp⟩:=h
 cases o with
 | no p err m=>exact ⟨_,hn,(by exact hok),qz3 hw hn hp⟩
 | ok e n1=>
  obtain ⟨o,ho⟩:=qe8.ex (op:=qvJ ws) (pos:=(word ws n).pos) (fun m k hm hs=>qei hw hm (by rw [qrK m k hs];simp)) (qgU (f:=180) fun _ _ h=>h.2.2) (n + 1) hx ws.length e n1 hp.1 (by omega) hp.2.1
  refine ⟨o,hn,qe8.xok (fun m k hk=>qAC hk) ⟨n,hn,rfl⟩ (fun _ _ h=>h.2.1) hok ho,qBc hw hn hp (ho.imp fun _ _ h=>h.2.2)⟩
theorem qzL {n:Nat} (hn:n < ws.length) (h:∃o,JOr ws n o) (hx:Exs ws (qst ws) (n + 1)):∃o,qst ws n o:=by
 cases hs:isW ws n [105,102] with
 | false=>
  obtain ⟨o,_,hok,hp⟩:=h
  exact ⟨o,hn,hok,qjB hw hn hs hp⟩
 | true=>
  obtain ⟨o1,_,kp1,p1⟩:=hx (n + 1) (Nat.le_refl _) (qh hw hn hs)
  cases o1 with
  | no p err m=>exact ⟨_,hn,(by exact kp1),if1 hw hn hs p1⟩
  | ok a n1=>
   cases ht:isW ws n1 [116,104,101,110] with
   | false=>exact ⟨_,hn,(by exact ⟨⟨_,p1.2.1,rfl⟩,by decide⟩),if2 hw hn hs p1 ht⟩
   | true=>
    obtain ⟨o2,_,kp2,p2⟩:=hx (n1 + 1) (by have:=p1.1;omega) (qh hw p1.2.1 ht)
    cases o2 with
    | no p err m=>exact ⟨_,hn,(by exact kp2),if3 hw hn hs p1 ht p2⟩
    | ok b n2=>
     cases he:isW ws n2 [101,108,115,101] with
     | false=>exact ⟨_,hn,(by exact ⟨⟨_,p2.2.1,rfl⟩,by decide⟩),if4 hw hn hs p1 ht p2 he⟩
     | true=>
      obtain ⟨o3,_,kp3,p3⟩:=hx (n2 + 1) (by have:=p1.1;have:=p2.1;omega) (qh hw p2.2.1 he)
      cases o3 with
      | no p err m=>exact ⟨_,hn,(by exact kp3),if5 hw hn hs p1 ht p2 he p3⟩
      | ok c n3=>
       by_cases hd:(Exp.mk 25 0 [] [] [a,b,c]).depth ≤ 20
       ·exact ⟨_,hn,(by exact qF1 kp1 kp2 kp3),if7 hw hn hs p1 ht p2 he p3 hd⟩
       ·exact ⟨_,hn,(by exact ⟨⟨_,by assumption,rfl⟩,by decide⟩),if6 hw hn hs p1 ht p2 he p3 hd⟩
def qFj (ws:List Tok) (n:Nat):Prop:=∃o,XOK ws o∧qai 293 ws n o
theorem qm9 {n:Nat} (hn:n < ws.length) (hs:isW ws n [40] = true) (hx:Exs ws (qst ws) (n + 1)):∃o,XOK ws o∧qai 295 ws n o:=by
 obtain ⟨o,_,kp1,p1⟩:=hx (n + 1) (Nat.le_refl _) (qh hw hn hs)
 cases o with
 | no p err m=>exact ⟨_,(by exact kp1),br1 hw hn hs p1⟩
 | ok x n1=>
  cases h2:isW ws n1 [41] with
  | true=>exact ⟨_,(by exact kp1),br2 hw hn hs p1 h2⟩
  | false=>
   cases h3:isW ws n1 [44] with
   | false=>exact ⟨_,(by exact ⟨⟨_,p1.2.1,rfl⟩,by decide⟩),br3 hw hn hs p1 h2 h3⟩
   | true=>
    have n2:=qh hw p1.2.1 h3
    cases h4:isW ws (n1 + 1) [41] with
    | true=>
     by_cases hd:(Exp.mk 6 0 [] [] [x]).depth ≤ 20
     ·exact ⟨_,(by exact qAo kp1),br4 hw hn hs p1 h2 h3 h4 hd⟩
     ·exact ⟨_,(by exact ⟨⟨_,by assumption,rfl⟩,by decide⟩),br5 hw hn hs p1 h2 h3 h4 hd⟩
    | false=>
     obtain ⟨o,ho⟩:=qdH.ex hw (pos:=(word ws n).pos) (qgU (f:=66) fun _ _ h=>h.2.2) (n + 1) hx 3 [x] (n1 + 1) rfl (by have:=p1.1;omega) n2
     exact ⟨o,qdH.xok ⟨n,hn,rfl⟩ (fun _ _ h=>h.2.1) n2 (fun _ _ _ h=>h.2.2.2.1) hw (by omega) (by simp only [qbA,Bool.and_true];exact kp1) (by simp) ho,br6 hw hn hs p1 h2 h3 h4 (ho.imp fun _ _ h=>h.2.2)⟩
theorem qC1 {n:Nat} (hn:n < ws.length) (hx:Exs ws (qst ws) (n + 1)):qFj ws n:=by
 by_cases k1:(word ws n).kind = 1
 ·exact ⟨_,(by exact qEr ((hz _ hn).1 k1)),qy5 hw hn k1⟩
 by_cases k2:(word ws n).kind = 2
 ·exact ⟨_,(by exact qEk ((hz _ hn).2 k2)),qyy hw hn k2⟩
 cases hs:qab ws n with
 | true=>
  have n1:=qM hw hn hs
  cases hp:isW ws (n + 1) [46] with
  | false=>
   have h:isW ws (n + 1) [46] = true→qab ws (n + 1 + 1) = false:=fun h=>by rw [hp] at h;cases h
   exact ⟨_,(by exact qzB (by decide) (qW hs)),qiK hw hn hs (qg9 hw hn hs h)⟩
  | true=>
   have n2:=qh hw n1 hp
   by_cases k3:(word ws (n + 1 + 1)).kind = 1
   ·have hq:qab ws (n + 1 + 1) = false:=by simp [qab,k3]
    exact ⟨_,(by exact qzB (by decide) (qW hs)),qiK hw hn hs (qg9 hw hn hs fun _=>hq)⟩
   ·cases hq:qab ws (n + 1 + 1) with
    | true=>exact ⟨_,(by exact qFT (qW hs) (qW hq)),qiK hw hn hs (qBx hw hn hs hp hq)⟩
    | false=>exact ⟨_,(by exact qzB (by decide) (qW hs)),qiK hw hn hs (qg9 hw hn hs fun _=>hq)⟩
 | false=>
  cases hb:isW ws n [40] with
  | true=>
   obtain ⟨o,kbr,p1⟩:=qm9 hw hz hn hb hx
   exact ⟨o,kbr,qkC hw hn k1 k2 hs hb p1⟩
  | false=>
   cases q0:isW ws n [116,114,117,101] with
   | true=>exact ⟨_,(by exact qpo (by decide)),qan hw hn k1 k2 hs hb (qnv hw hn q0)⟩
   | false=>
   cases q1:isW ws n [102,97,108,115,101] with
   | true=>exact ⟨_,(by exact qpo (by decide)),qan hw hn k1 k2 hs hb (qlo hw hn q1)⟩
   | false=>
   cases q2:isW ws n [101,108,97,112,115,101,100] with
   | true=>exact ⟨_,(by exact qpo (by decide)),qan hw hn k1 k2 hs hb (qjd hw hn q2)⟩
   | false=>
   cases q3:isW ws n [99,111,117,110,116] with
   | true=>
    cases g1:isW ws (n + 1) [40] with
    | false=>exact ⟨_,(by exact ⟨⟨_,qh hw hn (by assumption),rfl⟩,by decide⟩),qan hw hn k1 k2 hs hb (qjw hw hn q3 g1)⟩
    | true=>
    cases g2:qab ws (n + 1 + 1) with
    | false=>exact ⟨_,(by exact ⟨⟨_,qh hw (qh hw hn (by assumption)) (by assumption),rfl⟩,by decide⟩),qan hw hn k1 k2 hs hb (qjs hw hn q3 g1 g2)⟩
    | true=>
    cases g3:isW ws (n + 1 + 1 + 1) [41] with
    | false=>exact ⟨_,(by exact ⟨⟨_,qM hw (qh hw (qh hw hn (by assumption)) (by assumption)) (by assumption),rfl⟩,by decide⟩),qan hw hn k1 k2 hs hb (qkA hw hn q3 g1 g2 g3)⟩
    | true=>exact ⟨_,(by exact qzB (by decide) (qW g2)),qan hw hn k1 k2 hs hb (qlc hw hn q3 g1 g2 g3)⟩
   | false=>
   cases q4:isW ws n [104,97,115] with
   | true=>
    cases g1:isW ws (n + 1) [40] with
    | false=>exact ⟨_,(by exact ⟨⟨_,qh hw hn (by assumption),rfl⟩,by decide⟩),qan hw hn k1 k2 hs hb (qni hw hn q4 g1)⟩
    | true=>
    cases g2:qab ws (n + 1 + 1) with
    | false=>exact ⟨_,(by exact ⟨⟨_,qh hw (qh hw hn (by assumption)) (by assumption),rfl⟩,by decide⟩),qan hw hn k1 k2 hs hb (qn5 hw hn q4 g1 g2)⟩
    | true=>
    cases g3:isW ws (n + 1 + 1 + 1) [41] with
    | false=>exact ⟨_,(by exact ⟨⟨_,qM hw (qh hw (qh hw hn (by assumption)) (by assumption)) (by assumption),rfl⟩,by decide⟩),qan hw hn k1 k2 hs hb (qoG hw hn q4 g1 g2 g3)⟩
    | true=>exact ⟨_,(by exact qzB (by decide) (qW g2)),qan hw hn k1 k2 hs hb (qqj hw hn q4 g1 g2 g3)⟩
   | false=>
   cases q5:isW ws n [115,117,109] with
   | true=>
    cases g1:isW ws (n + 1) [40] with
    | false=>exact ⟨_,(by exact ⟨⟨_,qh hw hn (by assumption),rfl⟩,by decide⟩),qan hw hn k1 k2 hs hb (qnI hw hn q5 g1)⟩
    | true=>
    cases g2:qab ws (n + 1 + 1) with
    | false=>exact ⟨_,(by exact ⟨⟨_,qh hw (qh hw hn (by assumption)) (by assumption),rfl⟩,by decide⟩),qan hw hn k1 k2 hs hb (qnF hw hn q5 g1 g2)⟩
    | true=>
    cases g3:isW ws (n + 1 + 1 + 1) [41] with
    | false=>exact ⟨_,(by exact ⟨⟨_,qM hw (qh hw (qh hw hn (by assumption)) (by assumption)) (by assumption),rfl⟩,by decide⟩),qan hw hn k1 k2 hs hb (qnS hw hn q5 g1 g2 g3)⟩
    | true=>exact ⟨_,(by exact qzB (by decide) (qW g2)),qan hw hn k1 k2 hs hb (qqz hw hn q5 g1 g2 g3)⟩
   | false=>
   cases q6:isW ws n [108,101,97,115,116] with
   | false=>exact ⟨_,(by exact ⟨⟨_,by assumption,rfl⟩,by decide⟩),qan hw hn k1 k2 hs hb (qh7 hw hn q0 q1 q2 q3 q4 q5 q6)⟩
   | true=>
    cases g1:isW ws (n + 1) [40] with
    | false=>exact ⟨_,(by exact ⟨⟨_,qh hw hn (by assumption),rfl⟩,by decide⟩),qan hw hn k1 k2 hs hb (qBr hw hn q6 g1)⟩
    | true=>
    have n1:=qh hw hn q6
    have n2:=qh hw n1 g1
    cases g2:qab ws (n + 1 + 1) with
    | false=>exact ⟨_,(by exact ⟨⟨_,by assumption,rfl⟩,by decide⟩),qan hw hn k1 k2 hs hb (qAt hw hn q6 g1 g2)⟩
    | true=>
    have n3:=qM hw n2 g2
    cases g3:isW ws (n + 1 + 1 + 1) [44] with
    | false=>exact ⟨_,(by exact ⟨⟨_,by assumption,rfl⟩,by decide⟩),qan hw hn k1 k2 hs hb (qBN hw hn q6 g1 g2 g3)⟩
    | true=>
    obtain ⟨o,_,kp4,p4⟩:=hx (n + 1 + 1 + 1 + 1) (by omega) (qh hw n3 g3)
    cases o with
    | no p err m=>exact ⟨_,(by exact kp4),qan hw hn k1 k2 hs hb (qzM hw hn q6 g1 g2 g3 p4)⟩
    | ok x m=>
     cases g5:isW ws m [41] with
     | false=>exact ⟨_,(by exact ⟨⟨_,p4.2.1,rfl⟩,by decide⟩),qan hw hn k1 k2 hs hb (qA8 hw hn q6 g1 g2 g3 p4 g5)⟩
     | true=>
      by_cases hd:(Exp.mk 10 0 (word ws (n + 1 + 1)).s [] [x]).depth ≤ 20
      ·exact ⟨_,(by exact qy6 (qW g2) kp4),qan hw hn k1 k2 hs hb (qAE hw hn q6 g1 g2 g3 p4 g5 hd)⟩
      ·exact ⟨_,(by exact ⟨⟨_,by assumption,rfl⟩,by decide⟩),qan hw hn k1 k2 hs hb (qBF hw hn q6 g1 g2 g3 p4 g5 hd)⟩
theorem qDD {n:Nat} (hn:n < ws.length) (h1:qFj ws n) (hx:Exs ws (qzR ws) (n + 1)):∃o,qzR ws n o:=by
 cases hs:isW ws n [45] with
 | true=>
  obtain ⟨o,_,kp1,p1⟩:=hx (n + 1) (Nat.le_refl _) (qh hw hn hs)
  cases o with
  | no p err m=>exact ⟨_,hn,(by exact kp1),qy8 hw hn hs p1⟩
  | ok x n1=>
   by_cases hd:(Exp.mk 13 0 [] [] [x]).depth ≤ 20
   ·exact ⟨_,hn,(by exact qFm (by decide) kp1),qtX hw hn hs p1 hd⟩
   ·exact ⟨_,hn,(by exact ⟨⟨_,by assumption,rfl⟩,by decide⟩),qvp hw hn hs p1 hd⟩
 | false=>
  obtain ⟨o,kp1,p1⟩:=h1
  cases o with
  | no p err m=>exact ⟨_,hn,kp1,qiy hw hn hs (qsL hw hn p1)⟩
  | ok e n1=>
   obtain ⟨o,ho⟩:=qeX.ex hw (pos:=(word ws n).pos) ws.length e n1 (by omega) p1.2.1
   exact ⟨o,hn,qeX.xok hw hz ⟨n,hn,rfl⟩ p1.2.1 kp1 ho,qiy hw hn hs (qt2 hw hn p1 ho ho.mono)⟩
structure All (ws:List Tok) (n:Nat):Prop where
 neg:∃o,qzR ws n o
 prod:∃o,qvT ws n o
 sum:∃o,qCo ws n o
 not:∃o,qBD ws n o
 and:∃o,qCh ws n o
 expr:∃o,qst ws n o
theorem qqr:∀(k n:Nat),ws.length - n ≤ k→n < ws.length→All ws n:=by
 intro k
 induction k with
 | zero=>intro n h1 h2;omega
 | succ k ih=>
  intro n h1 hn
  have hx:∀m,n + 1 ≤ m→m < ws.length→All ws m:=fun m h2 h3=>ih m (by omega) h3
  have jneg:=qDD hw hz hn (qC1 hw hz hn fun m h2 h3=>(hx m h2 h3).expr) fun m h2 h3=>(hx m h2 h3).neg
  have jprod:=jneg.elim fun _ h=>qAk hw hz h fun m h2 h3=>(hx m h2 h3).neg
  have jsum:=jprod.elim fun _ h=>qEx hw hz h fun m h2 h3=>(hx m h2 h3).prod
  have jsame:=jsum.elim fun _ h=>qBq hw hz h fun m h2 h3=>(hx m h2 h3).sum
  have jnot:=qEo hw hz hn (fun _=>jsame) fun m h2 h3=>(hx m h2 h3).not
  have jand:=jnot.elim fun _ h=>qDC hw hz h fun m h2 h3=>(hx m h2 h3).not
  have jor:=jand.elim fun _ h=>qGm hw hz h fun m h2 h3=>(hx m h2 h3).and
  exact ⟨jneg,jprod,jsum,jnot,jand,qzL hw hz hn jor fun m h2 h3=>(hx m h2 h3).expr⟩
theorem qzh {n:Nat} (hn:n < ws.length):∃o,qai 66 ws n o∧XOK ws o:=by
 obtain ⟨o,_,h0,h1⟩:=(qqr hw hz ws.length n (by omega) hn).expr
 exact ⟨o,h1,h0⟩
end
section
variable {ws:List Tok}
set_option maxHeartbeats 0 in
theorem qsZ (hw:WF ws) {n:Nat} (hn:n < ws.length):∃o,qkJ 189 ws n o∧GOK ws qjp o:=by
 cases a0:qab ws (n) with
 | false=>
  refine ⟨.error ((word ws (n)).pos,6),⟨n,hn,fun h i hi=>?_⟩,⟨⟨n,hn,rfl⟩,by decide⟩⟩
  have hlt:=qd hi
  have hps:=qdc hi
  rw [PBi] at hps
  have hb1:=qr h 1
  have hb2:=qr h 2
  have hb3:=qr h 3
  rw [PBi] at hi
  rw [qm rfl (show T.get 189 = some qo4 by kernel_rfl)]
  simp only [qo4,sT.1,sC.1,qf,qe,Nat.testBit,simprocAttr,-Int.reduceNatCast',qcy hw hn,a0,hi,hlt,PBi,hb1,hb2,hb3,hps,qu,qb,qY.enc,qa1.enc,qF.enc,qa5.enc,qX.enc,Nd.enc,Nd.cs,Exp.enc,Exp.cs,List.cons_append,List.nil_append,qt,qj,qv,qN]
 | true=>
  have n0:=qM hw hn a0
  cases a1:isW ws (n + 1) [61] with
  | false=>
   refine ⟨.error ((word ws (n + 1)).pos,6),⟨n + 1,n0,fun h i hi=>?_⟩,⟨⟨n + 1,n0,rfl⟩,by decide⟩⟩
   have hlt:=qd hi
   have hb1:=qr h 1
   have hb2:=qr h 2
   have hb3:=qr h 3
   rw [PBi] at hi
   rw [qm rfl (show T.get 189 = some qo4 by kernel_rfl)]
   simp only [qo4,sT.1,sC.1,qf,qe,Nat.testBit,simprocAttr,-Int.reduceNatCast',qP hw hn,a0,qah hw n0,a1,hi,hlt,PBi,hb1,hb2,hb3,qu,qb,qY.enc,qa1.enc,qF.enc,qa5.enc,qX.enc,Nd.enc,Nd.cs,Exp.enc,Exp.cs,List.cons_append,List.nil_append,qt,qj,qv,qN]
  | true=>
   have n1:=qh hw n0 a1
   cases a2:qab ws (n + 1 + 1) with
   | false=>
    refine ⟨.error ((word ws (n + 1 + 1)).pos,6),⟨n + 1 + 1,n1,fun h i hi=>?_⟩,⟨⟨n + 1 + 1,n1,rfl⟩,by decide⟩⟩
    have hlt:=qd hi
    have hb1:=qr h 1
    have hb2:=qr h 2
    have hb3:=qr h 3
    rw [PBi] at hi
    rw [qm rfl (show T.get 189 = some qo4 by kernel_rfl)]
    simp only [qo4,sT.1,sC.1,qf,qe,Nat.testBit,simprocAttr,-Int.reduceNatCast',qP hw hn,a0,qi hw n0,a1,qcy hw n1,a2,hi,hlt,PBi,hb1,hb2,hb3,qu,qb,qY.enc,qa1.enc,qF.enc,qa5.enc,qX.enc,Nd.enc,Nd.cs,Exp.enc,Exp.cs,List.cons_append,List.nil_append,qt,qj,qv,qN]
   | true=>
    have n2:=qM hw n1 a2
    cases a3:isW ws (n + 1 + 1 + 1) [59] with
    | false=>
     refine ⟨.error ((word ws (n + 1 + 1 + 1)).pos,6),⟨n + 1 + 1 + 1,n2,fun h i hi=>?_⟩,⟨⟨n + 1 + 1 + 1,n2,rfl⟩,by decide⟩⟩
     have hlt:=qd hi
     have hb1:=qr h 1
     have hb2:=qr h 2
     have hb3:=qr h 3
     rw [PBi] at hi
     rw [qm rfl (show T.get 189 = some qo4 by kernel_rfl)]
     simp only [qo4,sT.1,sC.1,qf,qe,Nat.testBit,simprocAttr,-Int.reduceNatCast',qP hw hn,a0,qi hw n0,a1,qP hw n1,a2,qah hw n2,a3,hi,hlt,PBi,hb1,hb2,hb3,qu,qb,qY.enc,qa1.enc,qF.enc,qa5.enc,qX.enc,Nd.enc,Nd.cs,Exp.enc,Exp.cs,List.cons_append,List.nil_append,qt,qj,qv,qN]
    | true=>
     have n3:=qh hw n2 a3
     refine ⟨.ok (qY.enc ⟨(word ws (n)).s,(word ws (n + 1 + 1)).s⟩,n + 1 + 1 + 1 + 1),⟨by omega,n3,fun h i hi=>?_⟩,⟨⟨(word ws (n)).s,(word ws (n + 1 + 1)).s⟩,rfl,(qW a0),(qW a2)⟩⟩
     have hlt:=qd hi
     have hb1:=qr h 1
     have hb2:=qr h 2
     have hb3:=qr h 3
     rw [PBi] at hi
     rw [qm rfl (show T.get 189 = some qo4 by kernel_rfl)]
     simp only [qo4,sT.1,sC.1,qf,qe,Nat.testBit,simprocAttr,-Int.reduceNatCast',qP hw hn,a0,qi hw n0,a1,qP hw n1,a2,qi hw n2,a3,hi,hlt,PBi,hb1,hb2,hb3,qu,qb,qY.enc,qa1.enc,qF.enc,qa5.enc,qX.enc,Nd.enc,Nd.cs,Exp.enc,Exp.cs,List.cons_append,List.nil_append,qt,qj,qv,qN]
set_option maxHeartbeats 0 in
theorem qku (hw:WF ws) {n:Nat} (hn:n < ws.length):∃o,qkJ 239 ws n o∧GOK ws qCx o:=by
 cases a0:qab ws (n) with
 | false=>
  refine ⟨.error ((word ws (n)).pos,6),⟨n,hn,fun h i hi=>?_⟩,⟨⟨n,hn,rfl⟩,by decide⟩⟩
  have hlt:=qd hi
  have hps:=qdc hi
  rw [PBi] at hps
  have hb1:=qr h 1
  have hb2:=qr h 2
  have hb3:=qr h 3
  rw [PBi] at hi
  rw [qm rfl (show T.get 239 = some qtI by kernel_rfl)]
  simp only [qtI,sT.1,sC.1,qf,qe,Nat.testBit,simprocAttr,-Int.reduceNatCast',qcy hw hn,a0,hi,hlt,PBi,hb1,hb2,hb3,hps,qu,qb,qY.enc,qa1.enc,qF.enc,qa5.enc,qX.enc,Nd.enc,Nd.cs,Exp.enc,Exp.cs,List.cons_append,List.nil_append,qt,qj,qv,qN]
 | true=>
  have n0:=qM hw hn a0
  cases a1:isW ws (n + 1) [46] with
  | false=>
   refine ⟨.ok (qa1.enc ⟨[],(word ws (n)).s⟩,n + 1),⟨by omega,n0,fun h i hi=>?_⟩,⟨⟨[],(word ws (n)).s⟩,rfl,.inl rfl,(qW a0)⟩⟩
   have hlt:=qd hi
   have hb1:=qr h 1
   have hb2:=qr h 2
   have hb3:=qr h 3
   rw [PBi] at hi
   rw [qm rfl (show T.get 239 = some qtI by kernel_rfl)]
   simp only [qtI,sT.1,sC.1,qf,qe,Nat.testBit,simprocAttr,-Int.reduceNatCast',qP hw hn,a0,qq hw n0,a1,hi,hlt,PBi,hb1,hb2,hb3,qu,qb,qY.enc,qa1.enc,qF.enc,qa5.enc,qX.enc,Nd.enc,Nd.cs,Exp.enc,Exp.cs,List.cons_append,List.nil_append,qt,qj,qv,qN]
  | true=>
   have n1:=qh hw n0 a1
   cases a2:qab ws (n + 1 + 1) with
   | false=>
    refine ⟨.error ((word ws (n + 1 + 1)).pos,6),⟨n + 1 + 1,n1,fun h i hi=>?_⟩,⟨⟨n + 1 + 1,n1,rfl⟩,by decide⟩⟩
    have hlt:=qd hi
    have hb1:=qr h 1
    have hb2:=qr h 2
    have hb3:=qr h 3
    rw [PBi] at hi
    rw [qm rfl (show T.get 239 = some qtI by kernel_rfl)]
    simp only [qtI,sT.1,sC.1,qf,qe,Nat.testBit,simprocAttr,-Int.reduceNatCast',qP hw hn,a0,ql hw n0,a1,qcy hw n1,a2,hi,hlt,PBi,hb1,hb2,hb3,qu,qb,qY.enc,qa1.enc,qF.enc,qa5.enc,qX.enc,Nd.enc,Nd.cs,Exp.enc,Exp.cs,List.cons_append,List.nil_append,qt,qj,qv,qN]
   | true=>
    have n2:=qM hw n1 a2
    refine ⟨.ok (qa1.enc ⟨(word ws (n)).s,(word ws (n + 1 + 1)).s⟩,n + 1 + 1 + 1),⟨by omega,n2,fun h i hi=>?_⟩,⟨⟨(word ws (n)).s,(word ws (n + 1 + 1)).s⟩,rfl,.inr (qW a0),(qW a2)⟩⟩
    have hlt:=qd hi
    have hb1:=qr h 1
    have hb2:=qr h 2
    have hb3:=qr h 3
    rw [PBi] at hi
    rw [qm rfl (show T.get 239 = some qtI by kernel_rfl)]
    simp only [qtI,sT.1,sC.1,qf,qe,Nat.testBit,simprocAttr,-Int.reduceNatCast',qP hw hn,a0,ql hw n0,a1,qP hw n1,a2,hi,hlt,PBi,hb1,hb2,hb3,qu,qb,qY.enc,qa1.enc,qF.enc,qa5.enc,qX.enc,Nd.enc,Nd.cs,Exp.enc,Exp.cs,List.cons_append,List.nil_append,qt,qj,qv,qN]
set_option maxHeartbeats 0 in
theorem qlr (hw:WF ws) {n:Nat} (hn:n < ws.length):∃o,qkJ 191 ws n o∧GOK ws qkh o:=by
 obtain ⟨o0,p0,q0⟩:=qku hw hn
 rcases o0 with ⟨pos,err⟩ | ⟨v0,m0⟩
 ·obtain ⟨m0,x0,y0⟩:=p0
  refine ⟨.error (pos,err),⟨m0,x0,fun h i hi=>?_⟩,q0⟩
  have hlt:=qd hi
  have hb1:=qr h 1
  have hb2:=qr h 2
  have hb3:=qr h 3
  rw [PBi] at hi
  rw [qm rfl (show T.get 191 = some qo0 by kernel_rfl)]
  simp only [qo0,sT.1,sC.1,qf,qe,Nat.testBit,simprocAttr,-Int.reduceNatCast',y0,hi,hlt,PBi,hb1,hb2,hb3,qu,qb,qY.enc,qa1.enc,qF.enc,qa5.enc,qX.enc,Nd.enc,Nd.cs,Exp.enc,Exp.cs,List.cons_append,List.nil_append,qt,qj,qv,qN]
 ·obtain ⟨u0,n0,y0⟩:=p0
  obtain ⟨⟨ep0,eq0⟩,rfl,w0⟩:=q0
  cases a1:isW ws (m0) [45,62] with
  | false=>
   refine ⟨.error ((word ws (m0)).pos,6),⟨m0,n0,fun h i hi=>?_⟩,⟨⟨m0,n0,rfl⟩,by decide⟩⟩
   have hlt:=qd hi
   have hb1:=qr h 1
   have hb2:=qr h 2
   have hb3:=qr h 3
   rw [PBi] at hi
   rw [qm rfl (show T.get 191 = some qo0 by kernel_rfl)]
   simp only [qo0,sT.1,sC.1,qf,qe,Nat.testBit,simprocAttr,-Int.reduceNatCast',y0,qah hw n0,a1,hi,hlt,PBi,hb1,hb2,hb3,qu,qb,qY.enc,qa1.enc,qF.enc,qa5.enc,qX.enc,Nd.enc,Nd.cs,Exp.enc,Exp.cs,List.cons_append,List.nil_append,qt,qj,qv,qN]
  | true=>
   have n1:=qh hw n0 a1
   obtain ⟨o2,p2,q2⟩:=qku hw n1
   rcases o2 with ⟨pos,err⟩ | ⟨v2,m2⟩
   ·obtain ⟨m2,x2,y2⟩:=p2
    refine ⟨.error (pos,err),⟨m2,x2,fun h i hi=>?_⟩,q2⟩
    have hlt:=qd hi
    have hb1:=qr h 1
    have hb2:=qr h 2
    have hb3:=qr h 3
    rw [PBi] at hi
    rw [qm rfl (show T.get 191 = some qo0 by kernel_rfl)]
    simp only [qo0,sT.1,sC.1,qf,qe,Nat.testBit,simprocAttr,-Int.reduceNatCast',y0,qi hw n0,a1,y2,hi,hlt,PBi,hb1,hb2,hb3,qu,qb,qY.enc,qa1.enc,qF.enc,qa5.enc,qX.enc,Nd.enc,Nd.cs,Exp.enc,Exp.cs,List.cons_append,List.nil_append,qt,qj,qv,qN]
   ·obtain ⟨u2,n2,y2⟩:=p2
    obtain ⟨⟨ep2,eq2⟩,rfl,w2⟩:=q2
    cases a3:isW ws (m2) [59] with
    | false=>
     refine ⟨.error ((word ws (m2)).pos,6),⟨m2,n2,fun h i hi=>?_⟩,⟨⟨m2,n2,rfl⟩,by decide⟩⟩
     have hlt:=qd hi
     have hb1:=qr h 1
     have hb2:=qr h 2
     have hb3:=qr h 3
     rw [PBi] at hi
     rw [qm rfl (show T.get 191 = some qo0 by kernel_rfl)]
     simp only [qo0,sT.1,sC.1,qf,qe,Nat.testBit,simprocAttr,-Int.reduceNatCast',y0,qi hw n0,a1,y2,qah hw n2,a3,hi,hlt,PBi,hb1,hb2,hb3,qu,qb,qY.enc,qa1.enc,qF.enc,qa5.enc,qX.enc,Nd.enc,Nd.cs,Exp.enc,Exp.cs,List.cons_append,List.nil_append,qt,qj,qv,qN]
    | true=>
     have n3:=qh hw n2 a3
     refine ⟨.ok (qF.enc ⟨⟨ep0,eq0⟩,⟨ep2,eq2⟩⟩,m2 + 1),⟨by omega,n3,fun h i hi=>?_⟩,⟨⟨⟨ep0,eq0⟩,⟨ep2,eq2⟩⟩,rfl,w0,w2⟩⟩
     have hlt:=qd hi
     have hb1:=qr h 1
     have hb2:=qr h 2
     have hb3:=qr h 3
     rw [PBi] at hi
     rw [qm rfl (show T.get 191 = some qo0 by kernel_rfl)]
     simp only [qo0,sT.1,sC.1,qf,qe,Nat.testBit,simprocAttr,-Int.reduceNatCast',y0,qi hw n0,a1,y2,qi hw n2,a3,hi,hlt,PBi,hb1,hb2,hb3,qu,qb,qY.enc,qa1.enc,qF.enc,qa5.enc,qX.enc,Nd.enc,Nd.cs,Exp.enc,Exp.cs,List.cons_append,List.nil_append,qt,qj,qv,qN]
set_option maxHeartbeats 0 in
theorem qwF (hw:WF ws) (hx:∀m,m < ws.length→∃o,qai 66 ws m o∧XOK ws o) {n:Nat} (hn:n < ws.length):∃o,qkJ 195 ws n o∧GOK ws qgF o:=by
 cases a0:qab ws (n) with
 | false=>
  refine ⟨.error ((word ws (n)).pos,6),⟨n,hn,fun h i hi=>?_⟩,⟨⟨n,hn,rfl⟩,by decide⟩⟩
  have hlt:=qd hi
  have hps:=qdc hi
  rw [PBi] at hps
  have hb1:=qr h 1
  have hb2:=qr h 2
  have hb3:=qr h 3
  rw [PBi] at hi
  rw [qm rfl (show T.get 195 = some qo5 by kernel_rfl)]
  simp only [qo5,sT.1,sC.1,qf,qe,Nat.testBit,simprocAttr,-Int.reduceNatCast',qcy hw hn,a0,hi,hlt,PBi,hb1,hb2,hb3,hps,qu,qb,qY.enc,qa1.enc,qF.enc,qa5.enc,qX.enc,Nd.enc,Nd.cs,Exp.enc,Exp.cs,List.cons_append,List.nil_append,qt,qj,qv,qN]
 | true=>
  have n0:=qM hw hn a0
  cases a1:isW ws (n + 1) [61] with
  | false=>
   refine ⟨.error ((word ws (n + 1)).pos,6),⟨n + 1,n0,fun h i hi=>?_⟩,⟨⟨n + 1,n0,rfl⟩,by decide⟩⟩
   have hlt:=qd hi
   have hb1:=qr h 1
   have hb2:=qr h 2
   have hb3:=qr h 3
   rw [PBi] at hi
   rw [qm rfl (show T.get 195 = some qo5 by kernel_rfl)]
   simp only [qo5,sT.1,sC.1,qf,qe,Nat.testBit,simprocAttr,-Int.reduceNatCast',qP hw hn,a0,qah hw n0,a1,hi,hlt,PBi,hb1,hb2,hb3,qu,qb,qY.enc,qa1.enc,qF.enc,qa5.enc,qX.enc,Nd.enc,Nd.cs,Exp.enc,Exp.cs,List.cons_append,List.nil_append,qt,qj,qv,qN]
  | true=>
   have n1:=qh hw n0 a1
   obtain ⟨o2,p2,q2⟩:=hx (n + 1 + 1) n1
   cases o2 with
   | no pos err m2=>
    obtain ⟨x2,y2⟩:=p2
    refine ⟨.error (pos,err),⟨m2,x2,fun h i hi=>?_⟩,q2⟩
    have hlt:=qd hi
    have hb1:=qr h 1
    have hb2:=qr h 2
    have hb3:=qr h 3
    rw [PBi] at hi
    rw [qm rfl (show T.get 195 = some qo5 by kernel_rfl)]
    simp only [qo5,sT.1,sC.1,qf,qe,Nat.testBit,simprocAttr,-Int.reduceNatCast',qP hw hn,a0,qi hw n0,a1,y2,hi,hlt,PBi,hb1,hb2,hb3,qu,qb,qY.enc,qa1.enc,qF.enc,qa5.enc,qX.enc,Nd.enc,Nd.cs,Exp.enc,Exp.cs,List.cons_append,List.nil_append,qt,qj,qv,qN]
   | ok e2 m2=>
    obtain ⟨u2,n2,d2,y2⟩:=p2
    obtain ⟨op2,k2,nm2,sb2,as2⟩:=e2
    cases a3:isW ws (m2) [59] with
    | false=>
     refine ⟨.error ((word ws (m2)).pos,6),⟨m2,n2,fun h i hi=>?_⟩,⟨⟨m2,n2,rfl⟩,by decide⟩⟩
     have hlt:=qd hi
     have hb1:=qr h 1
     have hb2:=qr h 2
     have hb3:=qr h 3
     rw [PBi] at hi
     rw [qm rfl (show T.get 195 = some qo5 by kernel_rfl)]
     simp only [qo5,sT.1,sC.1,qf,qe,Nat.testBit,simprocAttr,-Int.reduceNatCast',qP hw hn,a0,qi hw n0,a1,y2,qah hw n2,a3,hi,hlt,PBi,hb1,hb2,hb3,qu,qb,qY.enc,qa1.enc,qF.enc,qa5.enc,qX.enc,Nd.enc,Nd.cs,Exp.enc,Exp.cs,List.cons_append,List.nil_append,qt,qj,qv,qN]
    | true=>
     have n3:=qh hw n2 a3
     refine ⟨.ok (qa5.enc ⟨(word ws (n)).s,(Exp.mk op2 k2 nm2 sb2 as2)⟩,m2 + 1),⟨by omega,n3,fun h i hi=>?_⟩,⟨⟨(word ws (n)).s,(Exp.mk op2 k2 nm2 sb2 as2)⟩,rfl,(qW a0),⟨q2,d2⟩⟩⟩
     have hlt:=qd hi
     have hb1:=qr h 1
     have hb2:=qr h 2
     have hb3:=qr h 3
     rw [PBi] at hi
     rw [qm rfl (show T.get 195 = some qo5 by kernel_rfl)]
     simp only [qo5,sT.1,sC.1,qf,qe,Nat.testBit,simprocAttr,-Int.reduceNatCast',qP hw hn,a0,qi hw n0,a1,y2,qi hw n2,a3,hi,hlt,PBi,hb1,hb2,hb3,qu,qb,qY.enc,qa1.enc,qF.enc,qa5.enc,qX.enc,Nd.enc,Nd.cs,Exp.enc,Exp.cs,List.cons_append,List.nil_append,qt,qj,qv,qN]
set_option maxHeartbeats 0 in
theorem qxO (hw:WF ws) (hx:∀m,m < ws.length→∃o,qai 66 ws m o∧XOK ws o) {n:Nat} (hn:n < ws.length):∃o,qkJ 197 ws n o∧GOK ws qj5 o:=by
 cases a0:qab ws (n) with
 | false=>
  refine ⟨.error ((word ws (n)).pos,6),⟨n,hn,fun h i hi=>?_⟩,⟨⟨n,hn,rfl⟩,by decide⟩⟩
  have hlt:=qd hi
  have hps:=qdc hi
  rw [PBi] at hps
  have hb1:=qr h 1
  have hb2:=qr h 2
  have hb3:=qr h 3
  rw [PBi] at hi
  rw [qm rfl (show T.get 197 = some qkK by kernel_rfl)]
  simp only [qkK,sT.1,sC.1,qf,qe,Nat.testBit,simprocAttr,-Int.reduceNatCast',qcy hw hn,a0,hi,hlt,PBi,hb1,hb2,hb3,hps,qu,qb,qY.enc,qa1.enc,qF.enc,qa5.enc,qX.enc,Nd.enc,Nd.cs,Exp.enc,Exp.cs,List.cons_append,List.nil_append,qt,qj,qv,qN]
 | true=>
  have n0:=qM hw hn a0
  obtain ⟨o1,p1,q1⟩:=hx (n + 1) n0
  cases o1 with
  | no pos err m1=>
   obtain ⟨x1,y1⟩:=p1
   refine ⟨.error (pos,err),⟨m1,x1,fun h i hi=>?_⟩,q1⟩
   have hlt:=qd hi
   have hb1:=qr h 1
   have hb2:=qr h 2
   have hb3:=qr h 3
   rw [PBi] at hi
   rw [qm rfl (show T.get 197 = some qkK by kernel_rfl)]
   simp only [qkK,sT.1,sC.1,qf,qe,Nat.testBit,simprocAttr,-Int.reduceNatCast',qP hw hn,a0,y1,hi,hlt,PBi,hb1,hb2,hb3,qu,qb,qY.enc,qa1.enc,qF.enc,qa5.enc,qX.enc,Nd.enc,Nd.cs,Exp.enc,Exp.cs,List.cons_append,List.nil_append,qt,qj,qv,qN]
  | ok e1 m1=>
   obtain ⟨u1,n1,d1,y1⟩:=p1
   obtain ⟨op1,k1,nm1,sb1,as1⟩:=e1
   cases a2:isW ws (m1) [105,102] with
   | false=>
    cases a3:isW ws (m1) [59] with
    | false=>
     refine ⟨.error ((word ws (m1)).pos,6),⟨m1,n1,fun h i hi=>?_⟩,⟨⟨m1,n1,rfl⟩,by decide⟩⟩
     have hlt:=qd hi
     have hb1:=qr h 1
     have hb2:=qr h 2
     have hb3:=qr h 3
     rw [PBi] at hi
     rw [qm rfl (show T.get 197 = some qkK by kernel_rfl)]
     simp only [qkK,sT.1,sC.1,qf,qe,Nat.testBit,simprocAttr,-Int.reduceNatCast',qP hw hn,a0,y1,qq hw n1,a2,qah hw n1,a3,hi,hlt,PBi,hb1,hb2,hb3,qu,qb,qY.enc,qa1.enc,qF.enc,qa5.enc,qX.enc,Nd.enc,Nd.cs,Exp.enc,Exp.cs,List.cons_append,List.nil_append,qt,qj,qv,qN]
    | true=>
     have n3:=qh hw n1 a3
     refine ⟨.ok (qX.enc ⟨(word ws (n)).s,(Exp.mk op1 k1 nm1 sb1 as1),[]⟩,m1 + 1),⟨by omega,n3,fun h i hi=>?_⟩,⟨⟨(word ws (n)).s,(Exp.mk op1 k1 nm1 sb1 as1),[]⟩,rfl,(qW a0),⟨q1,d1⟩,.inl rfl⟩⟩
     have hlt:=qd hi
     have hb1:=qr h 1
     have hb2:=qr h 2
     have hb3:=qr h 3
     rw [PBi] at hi
     rw [qm rfl (show T.get 197 = some qkK by kernel_rfl)]
     simp only [qkK,sT.1,sC.1,qf,qe,Nat.testBit,simprocAttr,-Int.reduceNatCast',qP hw hn,a0,y1,qq hw n1,a2,qi hw n1,a3,hi,hlt,PBi,hb1,hb2,hb3,qu,qb,qY.enc,qa1.enc,qF.enc,qa5.enc,qX.enc,Nd.enc,Nd.cs,Exp.enc,Exp.cs,List.cons_append,List.nil_append,qt,qj,qv,qN]
   | true=>
    have n2:=qh hw n1 a2
    obtain ⟨o3,p3,q3⟩:=hx (m1 + 1) n2
    cases o3 with
    | no pos err m3=>
     obtain ⟨x3,y3⟩:=p3
     refine ⟨.error (pos,err),⟨m3,x3,fun h i hi=>?_⟩,q3⟩
     have hlt:=qd hi
     have hb1:=qr h 1
     have hb2:=qr h 2
     have hb3:=qr h 3
     rw [PBi] at hi
     rw [qm rfl (show T.get 197 = some qkK by kernel_rfl)]
     simp only [qkK,sT.1,sC.1,qf,qe,Nat.testBit,simprocAttr,-Int.reduceNatCast',qP hw hn,a0,y1,ql hw n1,a2,y3,hi,hlt,PBi,hb1,hb2,hb3,qu,qb,qY.enc,qa1.enc,qF.enc,qa5.enc,qX.enc,Nd.enc,Nd.cs,Exp.enc,Exp.cs,List.cons_append,List.nil_append,qt,qj,qv,qN]
    | ok e3 m3=>
     obtain ⟨u3,n3,d3,y3⟩:=p3
     obtain ⟨op3,k3,nm3,sb3,as3⟩:=e3
     cases a4:isW ws (m3) [59] with
     | false=>
      refine ⟨.error ((word ws (m3)).pos,6),⟨m3,n3,fun h i hi=>?_⟩,⟨⟨m3,n3,rfl⟩,by decide⟩⟩
      have hlt:=qd hi
      have hb1:=qr h 1
      have hb2:=qr h 2
      have hb3:=qr h 3
      rw [PBi] at hi
      rw [qm rfl (show T.get 197 = some qkK by kernel_rfl)]
      simp only [qkK,sT.1,sC.1,qf,qe,Nat.testBit,simprocAttr,-Int.reduceNatCast',qP hw hn,a0,y1,ql hw n1,a2,y3,qah hw n3,a4,hi,hlt,PBi,hb1,hb2,hb3,qu,qb,qY.enc,qa1.enc,qF.enc,qa5.enc,qX.enc,Nd.enc,Nd.cs,Exp.enc,Exp.cs,List.cons_append,List.nil_append,qt,qj,qv,qN]
     | true=>
      have n4:=qh hw n3 a4
      refine ⟨.ok (qX.enc ⟨(word ws (n)).s,(Exp.mk op1 k1 nm1 sb1 as1),[(Exp.mk op3 k3 nm3 sb3 as3)]⟩,m3 + 1),⟨by omega,n4,fun h i hi=>?_⟩,⟨⟨(word ws (n)).s,(Exp.mk op1 k1 nm1 sb1 as1),[(Exp.mk op3 k3 nm3 sb3 as3)]⟩,rfl,(qW a0),⟨q1,d1⟩,.inr ⟨_,rfl,⟨q3,d3⟩⟩⟩⟩
      have hlt:=qd hi
      have hb1:=qr h 1
      have hb2:=qr h 2
      have hb3:=qr h 3
      rw [PBi] at hi
      rw [qm rfl (show T.get 197 = some qkK by kernel_rfl)]
      simp only [qkK,sT.1,sC.1,qf,qe,Nat.testBit,simprocAttr,-Int.reduceNatCast',qP hw hn,a0,y1,ql hw n1,a2,y3,qi hw n3,a4,hi,hlt,PBi,hb1,hb2,hb3,qu,qb,qY.enc,qa1.enc,qF.enc,qa5.enc,qX.enc,Nd.enc,Nd.cs,Exp.enc,Exp.cs,List.cons_append,List.nil_append,qt,qj,qv,qN]
end
def qlm (ws:List Tok) (p e:Int):Prop:=(∃k,k < ws.length∧p = (word ws k).pos)∧1 ≤ e
def Shp (k:Nat) (v:qc):Prop:=∃cs,v = .agg cs∧cs.length = k∧cs.all qc.storable = true∧(∀n,qD n cs = true)∧cs.map qc.dim = cs
def qbK (k:Nat) (z:List qc):qV:=
 (.seq (.seq (.reg [ao 10 (.mov (.t 2)),ao 11 (.call (.t 10) [])]) (.cond (.t 11) (.skip) (.exit 0)))
 (.block 1 (.seq (.seq (.reg [ao 12 (.mov (.t 9)),ao 13 (.len false (.t 12)),ao 14 (.mov (.t 1)),ao 15 (.bin .eql (.t 13) (.t 14))])
 (.cond (.t 15) (.reg [ao 16 (.mov (.t 0)),ao 17 (.mov (.t 0)),ao 18 (.call (.c (.fn 124 [] [])) [(.t 17)]),ao 19 (.call (.c (.fn 132 [] [])) [(.t 16),(.t 18),(.c (.int .i64 8))])]) (.skip)))
 (.reg [ao 20 (.mov (.t 9)),ao 21 (.mov (.t 3)),ao 22 (.call (.t 21) []),ao 23 (.list k z 1 [(0,(.t 22))]),ao 24 (.app k (.t 20) (.t 23)),ao 9 (.asg (.t 24))]))))
def qvZ (k:Nat) (z:List qc):qG:=⟨26,[.tmp 8],(.seq (.reg [ao 8 (.asg (.c (.lst [] .full)))]) (.seq (.reg [ao 9 (.asg (.c (.lst [] .full)))]) (.seq (.block 0 (.loop (qbK k z))) (.seq (.reg [ao 25 (.mov (.t 9)),ao 8 (.asg (.t 25))]) (.ret)))))⟩
def ofl (k:Nat) (vs:List qc):qgA:=bif vs.isEmpty then .full else .own k
theorem qlN (k:Nat) (vs xs:List qc):(qc.lst xs (ofl k vs)).dim = .lst xs (fl vs.isEmpty):=by cases vs <;> rfl
theorem qCT {k:Nat} {vs:List qc} {v:qc} (hv:Shp k v) (hs:∀u ∈ vs,Shp k u) (hl:vs.length ≤ 1000):qdw k vs [v] = true:=by
 obtain ⟨cs,rfl,h1,h2,_⟩:=hv
 simp only [qdw,Bool.and_eq_true,decide_eq_true_eq]
 refine ⟨⟨?_,?_⟩,?_⟩
 ·simp only [List.length_cons,List.length_nil,qcs]
  omega
 ·simp [qc.cells,h1]
  simpa using h2
 ·cases vs with
  | nil=>rfl
  | cons u us=>
   obtain ⟨ds,rfl,h3,_⟩:=hs u (by simp)
   simp [qc.cells,h3]
theorem set_set {h:List qx} {i:Nat} {a b:qx}:(h.set i a).set i b = h.set i b:=by simp
theorem qAf {ws:List Tok} {h:List qx} {i n m:Nat} (hi:h[i]? = some (PB ws n)):(h.set i (PB ws m))[i]? = some (PB ws m):=List.getElem?_set_self (qd hi)
def qCp {ι:Type} (ws:List Tok) (i:ι→Nat) (k:Nat) (ov:ι→qc) (J:ι→List qx→Prop) (Q:qc→Prop) (m:Nat):Except (Int×Int) (qc×Nat)→Prop
 | .ok (v,m')=>m < m'∧m' < ws.length∧Q v∧Shp k v∧∀c h,J c h→h[i c]? = some (PB ws m)→Wd (ov c) [] h = some (.ret v,h.set (i c) (PB ws m'),false)
 | .error (p,e)=>qlm ws p e∧∃m',m' < ws.length∧∀c h,J c h→h[i c]? = some (PB ws m)→Wd (ov c) [] h = some (.pan (qbo p e),h.set (i c) (PB ws m'),false)
section
variable {ι:Type} {ws:List Tok} {i:ι→Nat} {k most:Nat} {z:List qc} {fb oa:FuncId} {fa fc ob oc:ι→List qc} {beg:Nat→Bool} {J:ι→List qx→Prop} {Q:qc→Prop}
def qEh {ι:Type} (ws:List Tok) (i:ι→Nat) (k most:Nat) (z:List qc) (bv ov:ι→qc) (beg:Nat→Bool) (J:ι→List qx→Prop) (Q:qc→Prop) (n:Nat) (vs:List qc):Except (Int×Int) (List qc×Nat)→Prop
 | .ok (us,n')=>n ≤ n'∧n' < ws.length∧(vs ++ us).length ≤ most∧(∀v ∈ us,Q v∧Shp k v)∧beg n' = false∧(us ≠ []→n < n')∧(beg n = true→us ≠ [])∧
   ∀c b h tt,J c h→h[i c]? = some (PB ws n)→tt.length = 26→lkp tt 0 = .ptr (i c) 0→lkp tt 1 = .int .i64 (most:Nat)→lkp tt 2 = bv c→lkp tt 3 = ov c→lkp tt 9 = .lst vs (ofl k vs)→
    ∃tt',qH b Wd (.loop (qbK k z)) ⟨tt,h,false⟩ = some (.exit 0,⟨tt',h.set (i c) (PB ws n'),false⟩)∧tt'.length = 26∧lkp tt' 9 = .lst (vs ++ us) (ofl k (vs ++ us))
 | .error (p,e)=>qlm ws p e∧∃n',n' < ws.length∧
   ∀c b h tt,J c h→h[i c]? = some (PB ws n)→tt.length = 26→lkp tt 0 = .ptr (i c) 0→lkp tt 1 = .int .i64 (most:Nat)→lkp tt 2 = bv c→lkp tt 3 = ov c→lkp tt 9 = .lst vs (ofl k vs)→
    ∃tt',qH b Wd (.loop (qbK k z)) ⟨tt,h,false⟩ = some (.pan (qbo p e),⟨tt',h.set (i c) (PB ws n'),false⟩)
theorem qp9 (hw:WF ws) (hm:most ≤ 1000) (hz:z.length = k) (hk1:k ≠ 1) (hk:k ≤ 1000) (hJ:∀c h m,J c h→J c (h.set (i c) (PB ws m)))
  (hB:∀m c h,m < ws.length→J c h→h[i c]? = some (PB ws m)→Wd (.fn fb (fa c) (fc c)) [] h = some (.ret (.bool (beg m)),h,false))
  (hO:∀m,m < ws.length→beg m = true→∃o,qCp ws i k (fun c=>.fn oa (ob c) (oc c)) J Q m o) :
  ∀d n vs,ws.length - n ≤ d→n < ws.length→vs.length ≤ most→(∀v ∈ vs,Shp k v)→∃o,qEh ws i k most z (fun c=>.fn fb (fa c) (fc c)) (fun c=>.fn oa (ob c) (oc c)) beg J Q n vs o:=by
 intro d
 induction d with
 | zero=>intro n vs h1 h2;omega
 | succ d ih=>
  intro n vs h1 hn hl hs
  cases hb:beg n with
  | false=>
   refine ⟨.ok ([],n),Nat.le_refl _,hn,by simpa using hl,by simp,hb,by simp,by simp [hb],fun c b h tt hj hi ht e0 e1 e2 e3 e9=>?_⟩
   have q:=hB n c h hn hj hi
   have hset:=qdc hi
   rw [hb] at q
   generalize he:qH b Wd _ _ = R
   rw [qn] at he
   simp only [qbK,sT.1,sC.1,sTA.1,sCA.1,qf,qbe,qbf,Src.isTmp,qay,Src.hangs,qz.isT,qbc,qe,Nat.testBit,bne,simprocAttr,-Int.reduceNatCast',ht,e2,q] at he
   subst he
   rw [hset]
   exact ⟨_,rfl,by simp only [qK,ht],by simp only [sT.1,sC.1,sTA.1,sCA.1,qf,qbe,qbf,Src.isTmp,qay,Src.hangs,qz.isT,qbc,qe,Nat.testBit,bne,simprocAttr,-Int.reduceNatCast',ht,e9,List.append_nil]⟩
  | true=>
   by_cases hlm:vs.length = most
   ·have c1:((vs.length:Int) == (most:Int)) = true:=by simp [hlm]
    refine ⟨.error ((word ws n).pos,8),⟨⟨n,hn,rfl⟩,by decide⟩,n,hn,fun c b h tt hj hi ht e0 e1 e2 e3 e9=>?_⟩
    have q:=hB n c h hn hj hi
    have hset:=qdc hi
    have qa:=qam hw hn hi
    rw [hb] at q
    generalize he:qH b Wd _ _ = R
    rw [qn] at he
    simp only [qbK,sT.1,sC.1,sTA.1,sCA.1,qf,qbe,qbf,Src.isTmp,qay,Src.hangs,qz.isT,qbc,qe,Nat.testBit,bne,simprocAttr,-Int.reduceNatCast',ht,e0,e1,e2,e9,q,qa,c1,qaC,qlN,qt,qb] at he
    subst he
    rw [hset]
    exact ⟨_,rfl⟩
   ·have c1:((vs.length:Int) == (most:Int)) = false:=by simp;omega
    obtain ⟨o,ho⟩:=hO n hn hb
    rcases o with ⟨p,e⟩ | ⟨v,m⟩
    ·obtain ⟨g1,n',g2,g3⟩:=ho
     refine ⟨.error (p,e),g1,n',g2,fun c b h tt hj hi ht e0 e1 e2 e3 e9=>?_⟩
     have q:=hB n c h hn hj hi
     have r:=g3 c h hj hi
     rw [hb] at q
     generalize he:qH b Wd _ _ = R
     rw [qn] at he
     simp only [qbK,sT.1,sC.1,sTA.1,sCA.1,qf,qbe,qbf,Src.isTmp,qay,Src.hangs,qz.isT,qbc,qe,Nat.testBit,bne,simprocAttr,-Int.reduceNatCast',ht,e0,e1,e2,e3,e9,q,c1,r,qlN,qt] at he
     subst he
     exact ⟨_,rfl⟩
    ·obtain ⟨g1,g2,g3,g4,g5⟩:=ho
     obtain ⟨o2,ho2⟩:=ih m (vs ++ [v]) (by omega) g2 (by simp;omega) (by
      intro u hu
      rcases List.mem_append.1 hu with hu | hu
      ·exact hs u hu
      ·simp only [List.mem_singleton] at hu;subst hu;exact g4)
     have step:∀c b h tt,J c h→h[i c]? = some (PB ws n)→tt.length = 26→lkp tt 0 = .ptr (i c) 0→lkp tt 1 = .int .i64 (most:Nat)→lkp tt 2 = .fn fb (fa c) (fc c)→lkp tt 3 = .fn oa (ob c) (oc c)→lkp tt 9 = .lst vs (ofl k vs)→
       ∃tt',qH b Wd (qbK k z) ⟨tt,h,false⟩ = some (.nor,⟨tt',h.set (i c) (PB ws m),false⟩)∧tt'.length = 26∧lkp tt' 0 = .ptr (i c) 0∧lkp tt' 1 = .int .i64 (most:Nat)∧lkp tt' 2 = .fn fb (fa c) (fc c)∧lkp tt' 3 = .fn oa (ob c) (oc c)∧lkp tt' 9 = .lst (vs ++ [v]) (ofl k (vs ++ [v])):=by
      intro c b h tt hj hi ht e0 e1 e2 e3 e9
      have q:=hB n c h hn hj hi
      have r:=g5 c h hj hi
      rw [hb] at q
      have a1:=qCT g4 hs (by omega)
      obtain ⟨cs,rfl,s1,s2,s3,_⟩:=g4
      have l1:qfc k z 1 [(0,.agg cs)] = some (.lst [.agg cs] .full):=qdG hz hk1 s1 s2 hk
      cases vs with
      | nil=>
       simp only [ofl,List.isEmpty_nil,cond_true] at e9
       simp only [List.length_nil] at c1
       generalize he:qH b Wd (qbK k z) _ = R
       simp only [qbK,sT.1,sC.1,sTA.1,sCA.1,qf,qbe,qbf,Src.isTmp,qay,Src.hangs,qz.isT,qbc,qe,Nat.testBit,bne,simprocAttr,-Int.reduceNatCast',ht,e0,e1,e2,e3,e9,q,c1,r,l1,a1] at he
       subst he
       refine ⟨_,rfl,by simp only [qK,ht],?_,?_,?_,?_,?_⟩ <;> simp only [sT.1,sC.1,sTA.1,sCA.1,qf,qbe,qbf,Src.isTmp,qay,Src.hangs,qz.isT,qbc,qe,Nat.testBit,bne,simprocAttr,-Int.reduceNatCast',ht,e0,e1,e2,e3] <;> rfl
      | cons u us=>
       simp only [ofl,List.isEmpty_cons,cond_false] at e9
       simp only [List.length_cons] at c1
       generalize he:qH b Wd (qbK k z) _ = R
       simp only [qbK,sT.1,sC.1,sTA.1,sCA.1,qf,qbe,qbf,Src.isTmp,qay,Src.hangs,qz.isT,qbc,qe,Nat.testBit,bne,simprocAttr,-Int.reduceNatCast',ht,e0,e1,e2,e3,e9,q,c1,r,l1,a1] at he
       subst he
       refine ⟨_,rfl,by simp only [qK,ht],?_,?_,?_,?_,?_⟩ <;> simp only [sT.1,sC.1,sTA.1,sCA.1,qf,qbe,qbf,Src.isTmp,qay,Src.hangs,qz.isT,qbc,qe,Nat.testBit,bne,simprocAttr,-Int.reduceNatCast',ht,e0,e1,e2,e3] <;> rfl
     rcases o2 with ⟨p,e⟩ | ⟨us,n'⟩
     ·obtain ⟨k1,n',k2,k3⟩:=ho2
      refine ⟨.error (p,e),k1,n',k2,fun c b h tt hj hi ht e0 e1 e2 e3 e9=>?_⟩
      obtain ⟨tt',x1,x2,x3,x4,x5,x6,x7⟩:=step c b h tt hj hi ht e0 e1 e2 e3 e9
      obtain ⟨tu,y1⟩:=k3 c b _ tt' (hJ c h m hj) (qAf hi) x2 x3 x4 x5 x6 x7
      refine ⟨tu,?_⟩
      rw [qn,x1]
      rw [qdN]
      rw [y1,set_set]
     ·obtain ⟨k1,k2,k3,k4,k5,k6,k7,k8⟩:=ho2
      refine ⟨.ok (v :: us,n'),by omega,k2,by simpa using k3,?_,k5,fun _=>by omega,by simp,fun c b h tt hj hi ht e0 e1 e2 e3 e9=>?_⟩
      ·intro u hu
       rcases List.mem_cons.1 hu with hu | hu
       ·subst hu;exact ⟨g3,g4⟩
       ·exact k4 u hu
      ·obtain ⟨tt',x1,x2,x3,x4,x5,x6,x7⟩:=step c b h tt hj hi ht e0 e1 e2 e3 e9
       obtain ⟨tu,y1,y2,y3⟩:=k8 c b _ tt' (hJ c h m hj) (qAf hi) x2 x3 x4 x5 x6 x7
       refine ⟨tu,?_,y2,by simpa using y3⟩
       rw [qn,x1]
       rw [qdN]
       rw [y1,set_set]
end
theorem qky (n:Nat) (f:FuncId) (a c args:List qc) (h:List qx):run T.get X n (.fn f a c) args h = run T.get X n (.fn f [] []) (a ++ args ++ c) h:=by
 cases n with
 | zero=>rfl
 | succ n=>simp only [run,List.nil_append,List.append_nil]
theorem qiS (f:FuncId) (a c args:List qc) (h:List qx):Wd (.fn f a c) args h = Wd (.fn f [] []) (a ++ args ++ c) h:=by
 apply Option.ext
 intro x
 rw [Wd,qlB qgC,qlB qgC]
 constructor <;> rintro ⟨n,hn⟩ <;> exact ⟨n,by first | rw [←qky];exact hn | rw [qky];exact hn⟩
theorem qhI {k:Nat} {vs:List qc} (h:∀v ∈ vs,Shp k v) (n:Nat):qD n vs = true:=by
 induction vs with
 | nil=>rfl
 | cons v vs ih=>
  obtain ⟨cs,rfl,_,_,h1,_⟩:=h v (by simp)
  simp only [qD,qc.lower,h1 n,ih fun u hu=>h u (by simp [hu]),Bool.and_self]
def qxg {ι:Type} (ws:List Tok) (i:ι→Nat) (k most:Nat) (F:FuncId) (args:ι→List qc) (beg:Nat→Bool) (J:ι→List qx→Prop) (Q:qc→Prop) (n:Nat):Except (Int×Int) (List qc×Nat)→Prop
 | .ok (vs,n')=>n ≤ n'∧n' < ws.length∧vs.length ≤ most∧(∀v ∈ vs,Q v∧Shp k v)∧beg n' = false∧(vs ≠ []→n < n')∧(beg n = true→vs ≠ [])∧
   ∀c h,J c h→h[i c]? = some (PB ws n)→Wd (.fn F [] []) (.ptr (i c) 0 :: .int .i64 (most:Nat) :: args c) h = some (.ret (.lst vs (fl vs.isEmpty)),h.set (i c) (PB ws n'),false)
 | .error (p,e)=>qlm ws p e∧∃n',n' < ws.length∧
   ∀c h,J c h→h[i c]? = some (PB ws n)→Wd (.fn F [] []) (.ptr (i c) 0 :: .int .i64 (most:Nat) :: args c) h = some (.pan (qbo p e),h.set (i c) (PB ws n'),false)
section
variable {ι:Type} {ws:List Tok} {i:ι→Nat} {k most:Nat} {z:List qc} {fb oa F:FuncId} {fa fc ob oc:ι→List qc} {beg:Nat→Bool} {J:ι→List qx→Prop} {Q:qc→Prop}
theorem qi4 (hw:WF ws) (hX:X F = none) (hF:T.get F = some (qvZ k z)) (hm:most ≤ 1000) (hz:z.length = k) (hk1:k ≠ 1) (hk:k ≤ 1000) (hJ:∀c h m,J c h→J c (h.set (i c) (PB ws m)))
  (hB:∀m c h,m < ws.length→J c h→h[i c]? = some (PB ws m)→Wd (.fn fb (fa c) (fc c)) [] h = some (.ret (.bool (beg m)),h,false))
  (hO:∀m,m < ws.length→beg m = true→∃o,qCp ws i k (fun c=>.fn oa (ob c) (oc c)) J Q m o) {n:Nat} (hn:n < ws.length) :
  ∃o,qxg ws i k most F (fun c=>[.fn fb (fa c) (fc c),.fn oa (ob c) (oc c)]) beg J Q n o:=by
 obtain ⟨o,ho⟩:=qp9 (z:=z) hw hm hz hk1 hk hJ hB hO ws.length n [] (by omega) hn (by simp) (by simp)
 have e0:ofl k [] = .full:=rfl
 rcases o with ⟨p,e⟩ | ⟨vs,n'⟩
 ·obtain ⟨g1,n',g2,g3⟩:=ho
  refine ⟨.error (p,e),g1,n',g2,fun c h hj hi=>?_⟩
  generalize hw:Wd _ _ h = w
  rw [qm hX hF] at hw
  simp only [qvZ,sT.1,sC.1,sTA.1,sCA.1,qf,qbe,qbf,Src.isTmp,qay,Src.hangs,qz.isT,qbc,qe,Nat.testBit,bne,simprocAttr,-Int.reduceNatCast'] at hw
  generalize hr:qH h.length Wd (.loop (qbK k z)) _ = r at hw
  obtain ⟨tt',q⟩ :∃tt',r = some (.pan (qbo p e),⟨tt',h.set (i c) (PB ws n'),false⟩):=by
   rw [←hr]
   refine g3 c h.length h _ hj hi ?_ ?_ ?_ ?_ ?_ ?_ <;> simp only [sT.1,sC.1,qf,qe,Nat.testBit,simprocAttr,-Int.reduceNatCast',e0]
  subst q
  simp only [sT.1,sC.1,sTA.1,sCA.1,qf,qbe,qbf,Src.isTmp,qay,Src.hangs,qz.isT,qbc,qe,Nat.testBit,bne,simprocAttr,-Int.reduceNatCast',qb] at hw
  exact hw.symm
 ·obtain ⟨g1,g2,g3,g4,g5,g6,g7,g8⟩:=ho
  refine ⟨.ok (vs,n'),g1,g2,by simpa using g3,g4,g5,g6,g7,fun c h hj hi=>?_⟩
  have hlow:=qhI (fun v hv=>(g4 v hv).2) h.length
  generalize hw:Wd _ _ h = w
  rw [qm hX hF] at hw
  simp only [qvZ,sT.1,sC.1,sTA.1,sCA.1,qf,qbe,qbf,Src.isTmp,qay,Src.hangs,qz.isT,qbc,qe,Nat.testBit,bne,simprocAttr,-Int.reduceNatCast'] at hw
  generalize hr:qH h.length Wd (.loop (qbK k z)) _ = r at hw
  obtain ⟨tt',q,q2,q3⟩ :∃tt',r = some (.exit 0,⟨tt',h.set (i c) (PB ws n'),false⟩)∧tt'.length = 26∧lkp tt' 9 = .lst vs (ofl k vs):=by
   rw [←hr]
   refine g8 c h.length h _ hj hi ?_ ?_ ?_ ?_ ?_ ?_ <;> simp only [sT.1,sC.1,qf,qe,Nat.testBit,simprocAttr,-Int.reduceNatCast',e0]
  subst q
  simp only [sT.1,sC.1,sTA.1,sCA.1,qf,qbe,qbf,Src.isTmp,qay,Src.hangs,qz.isT,qbc,qe,Nat.testBit,bne,simprocAttr,-Int.reduceNatCast',q2,q3,qlN,qt,qj,hlow] at hw
  exact hw.symm
def qw1:qG:=⟨6,[.tmp 2],(.seq (.reg [ao 2 (.asg (.c (.bool false)))]) (.seq (.reg [ao 3 (.ld none (.t 0)),ao 4 (.ld none (.t 1)),ao 5 (.call (.c (.fn 75 [] [])) [(.t 3),(.t 4)]),ao 2 (.asg (.t 5))]) (.ret)))⟩
def qtP (k:Nat) (z:List qc):qG:=⟨9,[.cell 3 (some k)],(.seq (.reg [ao 3 (.new z)]) (.seq (.reg [ao 4 (.ld none (.t 0)),ao 5 (.ld none (.t 1)),ao 6 (.call (.c (.fn 79 [] [])) [(.t 4),(.t 5)])])
 (.seq (.reg [ao 7 (.ld none (.t 2)),ao 8 (.call (.t 7) []),an (.st (some k) (.t 3) (.t 8))]) (.ret))))⟩
def qpW (m b o:FuncId):qG:=⟨14,[.tmp 8],(.seq (.reg [ao 4 (.box 1 (.t 0)),ao 6 (.box 1 (.t 2)),ao 7 (.box 1 (.t 3)),ao 8 (.asg (.c (.lst [] .full)))])
 (.seq (.reg [ao 9 (.ld none (.t 4)),ao 10 (.mov (.t 1)),ao 11 (.mkF b [] [(.t 4),(.t 6)]),ao 12 (.mkF o [] [(.t 4),(.t 6),(.t 7)]),ao 13 (.call (.c (.fn m [] [])) [(.t 9),(.t 10),(.t 11),(.t 12)]),ao 8 (.asg (.t 13))]) (.ret)))⟩
end
def qhb (i b:Nat) (first:Str) (f:FuncId) (h:List qx):Prop:=
 i < b∧h[b]? = some (.cells [.ptr i 0])∧h[b + 1]? = some (.cells [.str first])∧h[b + 2]? = some (.cells [.fn f [.ptr i 0] []])
theorem qhb.set {i b:Nat} {first:Str} {f:FuncId} {h:List qx} (x:qx) (hj:qhb i b first f h):qhb i b first f (h.set i x):=by
 obtain ⟨h0,h1,h2,h3⟩:=hj
 refine ⟨h0,?_,?_,?_⟩ <;> rw [List.getElem?_set_ne (by omega)] <;> assumption
section
variable {ws:List Tok} {k:Nat} {z:List qc} {Q:qc→Prop}
variable {B O M:FuncId} {i b:Nat} {first:Str} {f:FuncId}
theorem quG (hX:X B = none) (hF:T.get B = some qw1) (hw:WF ws) {m:Nat} (hm:m < ws.length) {h:List qx} (hj:qhb i b first f h) (hi:h[i]? = some (PB ws m)) :
  Wd (.fn B [] [.ptr b 0,.ptr (b + 1) 0]) [] h = some (.ret (.bool (isW ws m first)),h,false):=by
 obtain ⟨h0,h1,h2,h3⟩:=hj
 rw [qm hX hF]
 simp only [qw1,sT.1,sC.1,qf,qe,Nat.testBit,simprocAttr,-Int.reduceNatCast',h1,h2,qbi hw hm hi]
theorem qvS (hX:X O = none) (hF:T.get O = some (qtP k z)) (hw:WF ws) (hz:z.length = k) (hzd:z.map qc.dim = z) {m:Nat} (hm:m < ws.length) (hs:isW ws m first = true) (ho:∃o,qkJ f ws (m + 1) o∧GOK ws (fun v=>Q v∧Shp k v) o) :
  ∃o,qCp ws (ι:=Nat×Nat) (fun c=>c.1) k (fun c=>.fn O [] [.ptr c.2 0,.ptr (c.2 + 1) 0,.ptr (c.2 + 2) 0]) (fun c=>qhb c.1 c.2 first f) Q m o:=by
 obtain ⟨o,g1,g2⟩:=ho
 have hb:∀i H,Wd (.fn f [.ptr i 0] []) [] H = Wd (.fn f [] []) [.ptr i 0] H:=fun i H=>qiS f [.ptr i 0] [] [] H
 rcases o with ⟨p,e⟩ | ⟨v,m'⟩
 ·obtain ⟨m',x1,x2⟩:=g1
  refine ⟨.error (p,e),g2,m',x1,fun ⟨i,b⟩ h hj hi=>?_⟩
  simp only at hi hj ⊢
  obtain ⟨h0,h1,h2,h3⟩:=hj
  have hlt:=qd hi
  have l1:=qd h1
  have l2:=qd h2
  have l3:=qd h3
  have f1:∀x l,(h.set i x ++ l)[b + 2]? = some (.cells [.fn f [.ptr i 0] []]):=fun x l=>by rw [List.getElem?_append_left (by simpa using l3),List.getElem?_set_ne (by omega),h3]
  rw [PBi] at hi
  rw [qm hX hF]
  simp only [qtP,sT.1,sC.1,qf,qe,Nat.testBit,simprocAttr,-Int.reduceNatCast',hzd,h1,h2,l1,l2,qi hw hm,hs,hi,hlt,PBi,f1,hb,x2,qb]
 ·obtain ⟨x0,x1,x2⟩:=g1
  obtain ⟨q1,cs,rfl,s1,s2,s3,s4⟩:=g2
  refine ⟨.ok (_,m'),by omega,x1,q1,⟨cs,rfl,s1,s2,s3,s4⟩,fun ⟨i,b⟩ h hj hi=>?_⟩
  simp only at hi hj ⊢
  obtain ⟨h0,h1,h2,h3⟩:=hj
  have hlt:=qd hi
  have l1:=qd h1
  have l2:=qd h2
  have l3:=qd h3
  have f1:∀x l,(h.set i x ++ l)[b + 2]? = some (.cells [.fn f [.ptr i 0] []]):=fun x l=>by rw [List.getElem?_append_left (by simpa using l3),List.getElem?_set_ne (by omega),h3]
  have hd:z.drop k = []:=List.drop_eq_nil_of_le (by omega)
  have hc:Go.AE.cut cs 0 (some k) = some (.agg cs):=by
   rw [qdS (by omega),List.drop_zero,List.take_of_length_le (by omega),s4]
  have hle:Nat.ble (0 + cs.length) z.length = true:=qao (by omega)
  rw [PBi] at hi
  rw [qm hX hF]
  simp only [qtP,sT.1,sC.1,qf,qe,Nat.testBit,simprocAttr,-Int.reduceNatCast',hzd,h1,h2,l1,l2,qi hw hm,hs,hi,hlt,PBi,f1,hb,x2,qb,s1,s2,s3,s4,hd,hc,hz]
theorem qd9 {L:FuncId} {most:Nat} (hXL:X L = none) (hFL:T.get L = some (qpW M B O)) (hXM:X M = none) (hFM:T.get M = some (qvZ k z)) (hXB:X B = none) (hFB:T.get B = some qw1) (hXO:X O = none) (hFO:T.get O = some (qtP k z))
  (hw:WF ws) (hm:most ≤ 1000) (hz:z.length = k) (hzd:z.map qc.dim = z) (hk1:k ≠ 1) (hk:k ≤ 1000) (ho:∀m,m < ws.length→∃o,qkJ f ws m o∧GOK ws (fun v=>Q v∧Shp k v) o) {n:Nat} (hn:n < ws.length) :
  ∃o,qxg ws (ι:=Nat) (fun i=>i) k most L (fun i=>[.str first,.fn f [.ptr i 0] []]) (fun m=>isW ws m first) (fun _ _=>True) Q n o:=by
 obtain ⟨o,h1⟩:=qi4 (ι:=Nat×Nat) (i:=fun c=>c.1) (most:=most) (fb:=B) (fa:=fun _=>[]) (fc:=fun c=>[.ptr c.2 0,.ptr (c.2 + 1) 0]) (oa:=O) (ob:=fun _=>[]) (oc:=fun c=>[.ptr c.2 0,.ptr (c.2 + 1) 0,.ptr (c.2 + 2) 0]) (beg:=fun m=>isW ws m first) (J:=fun c=>qhb c.1 c.2 first f) (Q:=Q) hw hXM hFM hm hz hk1 hk
  (fun c h m hj=>hj.set _) (fun m c h hm hj hi=>quG hXB hFB hw hm hj hi) (fun m hm hs=>qvS hXO hFO hw hz hzd hm hs (ho (m + 1) (qh hw hm hs))) hn
 have key:∀(h:List qx) (i:Nat),h[i]? = some (PB ws n)→qhb i h.length first f (h ++ [.cells [.ptr i 0],.cells [.str first],.cells [.fn f [.ptr i 0] []]])∧(h ++ [.cells [.ptr i 0],.cells [.str first],.cells [.fn f [.ptr i 0] []]])[i]? = some (PB ws n):=by
  intro h i hi
  have hlt:=qd hi
  refine ⟨⟨hlt,?_,?_,?_⟩,?_⟩
  ·rw [List.getElem?_append_right (by omega)];simp
  ·rw [List.getElem?_append_right (by omega)];simp
  ·rw [List.getElem?_append_right (by omega)];simp
  ·rw [List.getElem?_append_left hlt,hi]
 rcases o with ⟨p,e⟩ | ⟨vs,n'⟩
 ·obtain ⟨g1,n',g2,g3⟩:=h1
  refine ⟨.error (p,e),g1,n',g2,fun i h _ hi=>?_⟩
  have hlt:=qd hi
  obtain ⟨j1,j2⟩:=key h i hi
  have q:=g3 (i,h.length) _ j1 j2
  rw [PBi] at q
  rw [PBi] at hi
  generalize hw:Wd _ _ h = w
  rw [qm hXL hFL] at hw
  simp only [qpW,sT.1,sC.1,qf,qe,Nat.testBit,simprocAttr,-Int.reduceNatCast',hi,hlt,PBi,q,qb] at hw
  exact hw.symm
 ·obtain ⟨g1,g2,g3,g4,g5,g6,g7,g8⟩:=h1
  refine ⟨.ok (vs,n'),g1,g2,g3,g4,g5,g6,g7,fun i h _ hi=>?_⟩
  have hlt:=qd hi
  have hlow:=qhI (fun v hv=>(g4 v hv).2) h.length
  obtain ⟨j1,j2⟩:=key h i hi
  have q:=g8 (i,h.length) _ j1 j2
  rw [PBi] at q
  rw [PBi] at hi
  generalize hw:Wd _ _ h = w
  rw [qm hXL hFL] at hw
  simp only [qpW,sT.1,sC.1,qf,qe,Nat.testBit,simprocAttr,-Int.reduceNatCast',hi,hlt,PBi,q,qt,qj,hlow] at hw
  exact hw.symm
end
end Go.Proofs.YtlognicjhmcgjaaGreatDoor.AE
namespace Go.AE
section
variable {base:Nat} {call:Call} {p:qdp} {s:St} {t:List qc} {h:List qx}
def hxW (d:Option Nat) (s:St):Option (qc×List qx×Bool)→Option (Ex×St)
 | some (v,h,e)=>some (.nor,{ t:=put d v.dim s.t,h,e:=s.e || e})
 | none=>none
theorem qaE (d:Option Nat) (t:List qc) (h h':List qx) (e e':Bool) (v:qc):hxW d ⟨t,h,e⟩ (some (v,h',e')) = some (.nor,⟨put d v.dim t,h',e || e'⟩):=rfl
theorem qcJ (d:Option Nat) (o:HOp) (aS:List qz):qJ base call p d (.hx o aS) s = hxW d s (hop base o (aS.map (ev s.t)) s.h):=by
 simp only [qJ]
 cases hop base o (aS.map (ev s.t)) s.h with
 | none=>rfl
 | some r=>rfl
theorem qaF (o:HOp) (aS:List qz):(AOp.hx o aS).plain = false:=Eq.trans rfl rfl
theorem qa0 (o:HOp) (aS:List qz):(AOp.hx o aS).effs = true:=Eq.trans rfl rfl
theorem qaH (o:HOp) (aS:List qz):(AOp.hx o aS).isApp = false:=Eq.trans rfl rfl
theorem qb1 (id o len cap more:Nat):(qc.sl id o len cap more).dim = .sl id o len cap more:=rfl
theorem qaT (id o len cap more i:Nat) (t:List qc):qcf (.sl id o len cap more) i t = t:=rfl
theorem qbg (id o len cap more:Nat):(qc.sl id o len cap more).storable = true:=Eq.trans rfl rfl
theorem qaP (id o len cap more:Nat):(qc.sl id o len cap more).cells = [.sl id o len cap more]:=rfl
def qGG (k:Nat) (x y:qc):Option qc:=pureV [x,y] (.subL k (.t 0) none (some (.t 1)))
end
end Go.AE
namespace Go.Proofs.YtlognicjhmcgjaaGreatDoor.AE
open Go.AE
inductive qa9 where
 | mk (kind:Int) (subs:List qa9)
mutual
def qa9.cs:qa9→List qc
 | .mk k ts=>[.int .i64 k,.lst (qcM ts) (fl ts.isEmpty)]
def qcM:List qa9→List qc
 | []=>[]
 | t :: ts=>.agg t.cs :: qcM ts
end
mutual
def qa9.good:Nat→qa9→Bool
 | l,.mk k ts=>(ts.isEmpty && (k == 0 || k == 1 || k == 2)) || (k == 3 && !ts.isEmpty && Nat.ble ts.length 4 && Nat.blt 0 l && qkB (l - 1) ts)
def qkB:Nat→List qa9→Bool
 | _,[]=>true
 | l,t :: ts=>t.good l && qkB l ts
end
theorem qa8 (k:Int) (ts:List qa9):(qa9.mk k ts).cs = [.int .i64 k,.lst (qcM ts) (fl ts.isEmpty)]:=by rw [qa9.cs]
theorem qA (t:qa9):t.cs.length = 2:=by cases t;rw [qa8];rfl
theorem qw (t:qa9):t.cs.all qc.storable = true:=by cases t;rw [qa8];simp [qc.storable]
theorem qC (t:qa9):t.cs.map qc.dim = t.cs:=by cases t with | mk k ts=>rw [qa8];cases ts <;> rfl
mutual
theorem qo (n:Nat):∀t:qa9,qD n t.cs = true
 | .mk k ts=>by rw [qa8];simp only [qD,qc.lower,qZ n ts,Bool.and_self]
theorem qZ (n:Nat):∀ts:List qa9,qD n (qcM ts) = true
 | []=>by simp only [qcM,qD]
 | t :: ts=>by simp only [qcM,qD,qc.lower,qo n t,qZ n ts,Bool.and_self]
end
theorem qcN (t:qa9):∃a b,t.cs = [a,b]∧a.dim = a∧b.dim = b∧a.storable = true∧b.storable = true:=by
 cases t with
 | mk k ts=>
  refine ⟨_,_,qa8 k ts,rfl,?_,rfl,rfl⟩
  cases ts <;> rfl
section
variable {base:Nat} {h:List qx}
theorem qaS (t:qa9):hop base (.lit 2 [(.int .i64 0),(.lst [] .full)] 1 [0]) [.agg t.cs] h = some (.sl h.length 0 1 1 0,h ++ [.cells t.cs],false):=by
 obtain ⟨a,b,e,d1,d2,s1,s2⟩:=qcN t
 rw [e]
 simp [hop,qu,qc.cells,s1,s2,splice,d1,d2]
def qmr (base n m id id2:Nat) (h:List qx):Option qx→Option qx→Option (qc×List qx×Bool)
 | some (.cells ds),some (.cells es)=>
  if ds.length = n * 2∧es.length = 2∧(es.map qc.dim).all qc.storable = true∧n ≤ 100∧0 < n∧(m = 0∨m = 2) then
   some (.sl h.length 0 (n + 1) (n + 1) 2,(if m = 0 then h else h.set id .dead) ++ [.cells (ds.map qc.dim ++ es.map qc.dim)],false)
  else hop base (.app 2) [.sl id 0 n n m,.sl id2 0 1 1 0] h
 | _,_=>hop base (.app 2) [.sl id 0 n n m,.sl id2 0 1 1 0] h
theorem qaR (id id2 n m:Nat):hop base (.app 2) [.sl id 0 n n m,.sl id2 0 1 1 0] h = qmr base n m id id2 h h[id]? h[id2]?:=by
 unfold qmr
 split
 ·rename_i ds es h1 h2
  split
  ·rename_i hc
   obtain ⟨c1,c2,c3,c4,c5,c6⟩:=hc
   have e1:qhu 2 h (.sl id2 0 1 1 0) = some (es.map qc.dim,1):=by
    have:es.take 2 = es:=List.take_of_length_le (by omega)
    simp [qhu,h2,c2,this]
   have e2:qhu 2 h (.sl id 0 n n m) = some (ds.map qc.dim,n):=by
    have:ds.take (n * 2) = ds:=List.take_of_length_le (by omega)
    simp [qhu,h1,c1,this]
   have hn:n + 1 ≤ qcs:=by simp only [qcs];omega
   have hn2:¬ n + 1 ≤ n:=by omega
   simp only [hop,qjF,e1,e2,c3,h1,Bool.not_true,Bool.false_eq_true,if_false,hn,hn2,if_true,Nat.succ_ne_zero]
   rcases c6 with rfl | rfl
   ·simp
   ·simp [c1]
  ·rfl
 ·rfl
theorem qbS (id id2:Nat) (t1 t2:qa9):qmr base 1 0 id id2 h (some (.cells t1.cs)) (some (.cells t2.cs)) = some (.sl h.length 0 2 2 2,h ++ [.cells (t1.cs ++ t2.cs)],false):=by
 simp only [qmr,List.length_append,List.map_append,List.append_assoc,qA,qC,qw]
 rw [if_pos (by decide)]
 rfl
theorem qbT (id id2:Nat) (t1 t2 t3:qa9):qmr base 2 2 id id2 h (some (.cells (t1.cs ++ t2.cs))) (some (.cells t3.cs)) = some (.sl h.length 0 3 3 2,h.set id .dead ++ [.cells (t1.cs ++ (t2.cs ++ t3.cs))],false):=by
 simp only [qmr,List.length_append,List.map_append,List.append_assoc,qA,qC,qw]
 rw [if_pos (by decide)]
 rfl
theorem qbU (id id2:Nat) (t1 t2 t3 t4:qa9):qmr base 3 2 id id2 h (some (.cells (t1.cs ++ (t2.cs ++ t3.cs)))) (some (.cells t4.cs)) = some (.sl h.length 0 4 4 2,h.set id .dead ++ [.cells (t1.cs ++ (t2.cs ++ (t3.cs ++ t4.cs)))],false):=by
 simp only [qmr,List.length_append,List.map_append,List.append_assoc,qA,qC,qw]
 rw [if_pos (by decide)]
 rfl
theorem qaD (k:Option Nat) (p:qc):hop base (.ldz k) [p] h = (qee h p k).map (qpO h):=rfl
def qtJ (n m id:Nat) (h:List qx) (a:Int):Option qx→qc×List qx×Bool
 | some (.cells ds)=>if ds.length = n * 2∧0 < n∧(ds.map qc.dim).all qc.storable = true then (.agg [.int .i64 a,.lst (elems 2 n (ds.map qc.dim)) .no],h.set id .dead,false) else qpO h (.agg [.int .i64 a,.sl id 0 n n m])
 | _=>qpO h (.agg [.int .i64 a,.sl id 0 n n m])
theorem qbQ (n m id:Nat) (a:Int):qpO h (.agg [.int .i64 a,.sl id 0 n n m]) = qtJ n m id h a h[id]?:=by
 unfold qtJ
 split
 ·rename_i ds h1
  split
  ·rename_i hc
   obtain ⟨c1,c2,c3⟩:=hc
   have e1:n * 2 / n = 2:=Nat.mul_div_cancel_left 2 c2
   have e2:frz h (.sl id 0 n n m) = some (.lst (elems 2 n (ds.map qc.dim)) .no,h.set id .dead):=by
    simp only [frz,h1,c1,c3,e1,Nat.le_refl,and_self,if_true]
   have e3:frz h (.int .i64 a) = none:=rfl
   simp only [qpO,qoz,e2,e3]
  ·rfl
 ·rfl
theorem qbP (m id:Nat) (a:Int) (t1:qa9):qtJ 1 m id h a (some (.cells t1.cs)) = (.agg [.int .i64 a,.lst (qcM [t1]) .no],h.set id .dead,false):=by
 obtain ⟨a1,b1,e1,p1,p2,p3,p4⟩:=qcN t1
 simp [qtJ,qcM,elems,e1,p1,p2,p3,p4,List.range,List.range.loop]
theorem qbX (m id:Nat) (a:Int) (t1 t2:qa9):qtJ 2 m id h a (some (.cells (t1.cs ++ t2.cs))) = (.agg [.int .i64 a,.lst (qcM [t1,t2]) .no],h.set id .dead,false):=by
 obtain ⟨a1,b1,e1,p1,p2,p3,p4⟩:=qcN t1
 obtain ⟨a2,b2,e2,q1,q2,q3,q4⟩:=qcN t2
 simp [qtJ,qcM,elems,e1,e2,p1,p2,p3,p4,q1,q2,q3,q4,List.range,List.range.loop]
theorem qbZ (m id:Nat) (a:Int) (t1 t2 t3:qa9):qtJ 3 m id h a (some (.cells (t1.cs ++ (t2.cs ++ t3.cs)))) = (.agg [.int .i64 a,.lst (qcM [t1,t2,t3]) .no],h.set id .dead,false):=by
 obtain ⟨a1,b1,e1,p1,p2,p3,p4⟩:=qcN t1
 obtain ⟨a2,b2,e2,q1,q2,q3,q4⟩:=qcN t2
 obtain ⟨a3,b3,e3,r1,r2,r3,r4⟩:=qcN t3
 simp [qtJ,qcM,elems,e1,e2,e3,p1,p2,p3,p4,q1,q2,q3,q4,r1,r2,r3,r4,List.range,List.range.loop]
theorem qbW (m id:Nat) (a:Int) (t1 t2 t3 t4:qa9):qtJ 4 m id h a (some (.cells (t1.cs ++ (t2.cs ++ (t3.cs ++ t4.cs))))) = (.agg [.int .i64 a,.lst (qcM [t1,t2,t3,t4]) .no],h.set id .dead,false):=by
 obtain ⟨a1,b1,e1,p1,p2,p3,p4⟩:=qcN t1
 obtain ⟨a2,b2,e2,q1,q2,q3,q4⟩:=qcN t2
 obtain ⟨a3,b3,e3,r1,r2,r3,r4⟩:=qcN t3
 obtain ⟨a4,b4,e4,s1,s2,s3,s4⟩:=qcN t4
 simp [qtJ,qcM,elems,e1,e2,e3,e4,p1,p2,p3,p4,q1,q2,q3,q4,r1,r2,r3,r4,s1,s2,s3,s4,List.range,List.range.loop]
theorem qbY (id m:Nat):qmt false (.sl id 0 1 1 m) = some (.int .i64 1):=rfl
theorem qbO (id m:Nat):qmt false (.sl id 0 2 2 m) = some (.int .i64 2):=rfl
theorem qbM (id m:Nat):qmt false (.sl id 0 3 3 m) = some (.int .i64 3):=rfl
theorem qbN (id m:Nat):qmt false (.sl id 0 4 4 m) = some (.int .i64 4):=rfl
theorem qhK:fl false = .no:=rfl
theorem qgL:fl true = .full:=rfl
theorem qav:qcM [] = []:=by rw [qcM]
end
section
variable {ws:List Tok}
def qB3 (ws:List Tok) (d:Int) (l n:Nat):Except (Int×Int) (qa9×Nat)→Prop
 | .ok (t,n')=>t.good l = true∧n < n'∧n' < ws.length∧∀(h:List qx) (i:Nat),h[i]? = some (PB ws n)→Wd (.fn 187 [] []) [.ptr i 0,.int .i64 d] h = some (.ret (.agg t.cs),h.set i (PB ws n'),false)
 | .error (p,e)=>qlm ws p e∧∃n',n' < ws.length∧∀(h:List qx) (i:Nat),h[i]? = some (PB ws n)→Wd (.fn 187 [] []) [.ptr i 0,.int .i64 d] h = some (.pan (qbo p e),h.set i (PB ws n'),false)
set_option maxHeartbeats 0 in
theorem qj4 (hw:WF ws) {n:Nat} (hn:n < ws.length):∃e:Int,1 ≤ e∧∀(h:List qx) (i:Nat),h[i]? = some (PB ws n)→Wd (.fn 232 [] []) [.ptr i 0] h = some (.pan (qbo (word ws n).pos e),h,false):=by
 by_cases hc:(isW ws n [105,110,116] || isW ws n [98,111,111,108] || isW ws n [115,121,109] || isW ws n [40]) = true
 ·refine ⟨8,by decide,fun h i hi=>?_⟩
  rw [qm rfl (show T.get 232 = some qzt by kernel_rfl)]
  cases a1:isW ws n [105,110,116] <;> cases a2:isW ws n [98,111,111,108] <;> cases a3:isW ws n [115,121,109] <;> cases a4:isW ws n [40] <;> first
   | (rw [a1,a2,a3,a4] at hc;cases hc;done)
   | simp only [qzt,sT.1,sC.1,qf,qe,Nat.testBit,simprocAttr,-Int.reduceNatCast',qbi hw hn hi,a1,a2,a3,a4,qam hw hn hi,qaC,qb]
 ·refine ⟨6,by decide,fun h i hi=>?_⟩
  rw [qm rfl (show T.get 232 = some qzt by kernel_rfl)]
  simp only [Bool.or_eq_true,not_or,Bool.not_eq_true] at hc
  obtain ⟨⟨⟨a1,a2⟩,a3⟩,a4⟩:=hc
  simp only [qzt,sT.1,sC.1,qf,qe,Nat.testBit,simprocAttr,-Int.reduceNatCast',qbi hw hn hi,a1,a2,a3,a4,qaK hw hn hi,qb]
set_option maxHeartbeats 4000000 in
theorem quZ (hw:WF ws) {d:Int} (hd:ilt 3 d = true) {n:Nat} (hn:n < ws.length):∃o,qB3 ws d 0 n o:=by
 have hl:=hw.len
 have w:=qap (n:=n) (by omega)
 cases a0:isW ws n [105,110,116] with
 | true=>
  have n0:=qh hw hn a0
  refine ⟨.ok (.mk 0 [],n + 1),(by simp [qa9.good]),by omega,n0,fun h i hi=>?_⟩
  have hlt:=qd hi
  have hb1:=qr h 1
  have hb2:=qr h 2
  have hb3:=qr h 3
  have hb4:=qr h 4
  have hb5:=qr h 5
  have hb6:=qr h 6
  have hb7:=qr h 7
  have hb8:=qr h 8
  have hb9:=qr h 9
  have hb10:=qr h 10
  rw [PBi] at hi
  rw [qm rfl (show T.get 187 = some qdd by kernel_rfl)]
  simp only [qdd,qbD,sT.1,sC.1,qf,qe,Nat.testBit,simprocAttr,-Int.reduceNatCast',qn,qcJ,qaE,qaF,qa0,qaH,qb1,qaT,qbg,qaP,qaS,qaR,qbS,qbT,qbU,qaD,qbQ,qbP,qbX,qbZ,qbW,qbY,qbO,qbM,qbN,qa8,qhK,qgL,qav,qZ,qo,qC,qA,qw,ql hw hn,a0,hi,hlt,PBi,hb1,hb2,hb3,hb4,hb5,hb6,hb7,hb8,hb9,hb10,qu,qb]
 | false=>
  cases a1:isW ws n [98,111,111,108] with
  | true=>
   have n0:=qh hw hn a1
   refine ⟨.ok (.mk 1 [],n + 1),(by simp [qa9.good]),by omega,n0,fun h i hi=>?_⟩
   have hlt:=qd hi
   have hb1:=qr h 1
   have hb2:=qr h 2
   have hb3:=qr h 3
   have hb4:=qr h 4
   have hb5:=qr h 5
   have hb6:=qr h 6
   have hb7:=qr h 7
   have hb8:=qr h 8
   have hb9:=qr h 9
   have hb10:=qr h 10
   rw [PBi] at hi
   rw [qm rfl (show T.get 187 = some qdd by kernel_rfl)]
   simp only [qdd,qbD,sT.1,sC.1,qf,qe,Nat.testBit,simprocAttr,-Int.reduceNatCast',qn,qcJ,qaE,qaF,qa0,qaH,qb1,qaT,qbg,qaP,qaS,qaR,qbS,qbT,qbU,qaD,qbQ,qbP,qbX,qbZ,qbW,qbY,qbO,qbM,qbN,qa8,qhK,qgL,qav,qZ,qo,qC,qA,qw,a0,qq hw hn,ql hw hn,a1,hi,hlt,PBi,hb1,hb2,hb3,hb4,hb5,hb6,hb7,hb8,hb9,hb10,qu,qb]
  | false=>
   cases a2:isW ws n [115,121,109] with
   | true=>
    have n0:=qh hw hn a2
    refine ⟨.ok (.mk 2 [],n + 1),(by simp [qa9.good]),by omega,n0,fun h i hi=>?_⟩
    have hlt:=qd hi
    have hb1:=qr h 1
    have hb2:=qr h 2
    have hb3:=qr h 3
    have hb4:=qr h 4
    have hb5:=qr h 5
    have hb6:=qr h 6
    have hb7:=qr h 7
    have hb8:=qr h 8
    have hb9:=qr h 9
    have hb10:=qr h 10
    rw [PBi] at hi
    rw [qm rfl (show T.get 187 = some qdd by kernel_rfl)]
    simp only [qdd,qbD,sT.1,sC.1,qf,qe,Nat.testBit,simprocAttr,-Int.reduceNatCast',qn,qcJ,qaE,qaF,qa0,qaH,qb1,qaT,qbg,qaP,qaS,qaR,qbS,qbT,qbU,qaD,qbQ,qbP,qbX,qbZ,qbW,qbY,qbO,qbM,qbN,qa8,qhK,qgL,qav,qZ,qo,qC,qA,qw,a0,qq hw hn,a1,ql hw hn,a2,hi,hlt,PBi,hb1,hb2,hb3,hb4,hb5,hb6,hb7,hb8,hb9,hb10,qu,qb]
   | false=>
    cases a3:isW ws n [40] with
    | false=>
     refine ⟨.error ((word ws (n)).pos,6),⟨⟨n,hn,rfl⟩,by decide⟩,n,hn,fun h i hi=>?_⟩
     have hlt:=qd hi
     have hps:=qdc hi
     rw [PBi] at hps
     have hb1:=qr h 1
     have hb2:=qr h 2
     have hb3:=qr h 3
     have hb4:=qr h 4
     have hb5:=qr h 5
     have hb6:=qr h 6
     have hb7:=qr h 7
     have hb8:=qr h 8
     have hb9:=qr h 9
     have hb10:=qr h 10
     rw [PBi] at hi
     rw [qm rfl (show T.get 187 = some qdd by kernel_rfl)]
     simp only [qdd,qbD,sT.1,sC.1,qf,qe,Nat.testBit,simprocAttr,-Int.reduceNatCast',qn,qcJ,qaE,qaF,qa0,qaH,qb1,qaT,qbg,qaP,qaS,qaR,qbS,qbT,qbU,qaD,qbQ,qbP,qbX,qbZ,qbW,qbY,qbO,qbM,qbN,qa8,qhK,qgL,qav,qZ,qo,qC,qA,qw,a0,qq hw hn,a1,a2,qbi hw hn,a3,qaK hw hn,hi,hlt,PBi,hb1,hb2,hb3,hb4,hb5,hb6,hb7,hb8,hb9,hb10,hps,qu,qb]
    | true=>
     refine ⟨.error ((word ws (n)).pos,7),⟨⟨n,hn,rfl⟩,by decide⟩,n,hn,fun h i hi=>?_⟩
     have hlt:=qd hi
     have hps:=qdc hi
     rw [PBi] at hps
     have hb1:=qr h 1
     have hb2:=qr h 2
     have hb3:=qr h 3
     have hb4:=qr h 4
     have hb5:=qr h 5
     have hb6:=qr h 6
     have hb7:=qr h 7
     have hb8:=qr h 8
     have hb9:=qr h 9
     have hb10:=qr h 10
     rw [PBi] at hi
     rw [qm rfl (show T.get 187 = some qdd by kernel_rfl)]
     simp only [qdd,qbD,sT.1,sC.1,qf,qe,Nat.testBit,simprocAttr,-Int.reduceNatCast',qn,qcJ,qaE,qaF,qa0,qaH,qb1,qaT,qbg,qaP,qaS,qaR,qbS,qbT,qbU,qaD,qbQ,qbP,qbX,qbZ,qbW,qbY,qbO,qbM,qbN,qa8,qhK,qgL,qav,qZ,qo,qC,qA,qw,a0,qq hw hn,a1,a2,qbi hw hn,a3,hd,qam hw hn,qaC,hi,hlt,PBi,hb1,hb2,hb3,hb4,hb5,hb6,hb7,hb8,hb9,hb10,hps,qu,qb]
set_option maxHeartbeats 4000000 in
theorem qiM (hw:WF ws) {d:Int} {l:Nat} (hd:ilt 3 d = false) (ha:IntKind.i64.wrap (d + 1) = d + 1) (ih:∀n,n < ws.length→∃o,qB3 ws (d + 1) l n o) {n:Nat} (hn:n < ws.length):∃o,qB3 ws d (l + 1) n o:=by
 have hl:=hw.len
 have w:=qap (n:=n) (by omega)
 cases a0:isW ws n [105,110,116] with
 | true=>
  have n0:=qh hw hn a0
  refine ⟨.ok (.mk 0 [],n + 1),(by simp [qa9.good]),by omega,n0,fun h i hi=>?_⟩
  have hlt:=qd hi
  have hb1:=qr h 1
  have hb2:=qr h 2
  have hb3:=qr h 3
  have hb4:=qr h 4
  have hb5:=qr h 5
  have hb6:=qr h 6
  have hb7:=qr h 7
  have hb8:=qr h 8
  have hb9:=qr h 9
  have hb10:=qr h 10
  rw [PBi] at hi
  rw [qm rfl (show T.get 187 = some qdd by kernel_rfl)]
  simp only [qdd,qbD,sT.1,sC.1,qf,qe,Nat.testBit,simprocAttr,-Int.reduceNatCast',qn,qcJ,qaE,qaF,qa0,qaH,qb1,qaT,qbg,qaP,qaS,qaR,qbS,qbT,qbU,qaD,qbQ,qbP,qbX,qbZ,qbW,qbY,qbO,qbM,qbN,qa8,qhK,qgL,qav,qZ,qo,qC,qA,qw,ql hw hn,a0,hi,hlt,PBi,hb1,hb2,hb3,hb4,hb5,hb6,hb7,hb8,hb9,hb10,qu,qb]
 | false=>
  cases a1:isW ws n [98,111,111,108] with
  | true=>
   have n0:=qh hw hn a1
   refine ⟨.ok (.mk 1 [],n + 1),(by simp [qa9.good]),by omega,n0,fun h i hi=>?_⟩
   have hlt:=qd hi
   have hb1:=qr h 1
   have hb2:=qr h 2
   have hb3:=qr h 3
   have hb4:=qr h 4
   have hb5:=qr h 5
   have hb6:=qr h 6
   have hb7:=qr h 7
   have hb8:=qr h 8
   have hb9:=qr h 9
   have hb10:=qr h 10
   rw [PBi] at hi
   rw [qm rfl (show T.get 187 = some qdd by kernel_rfl)]
   simp only [qdd,qbD,sT.1,sC.1,qf,qe,Nat.testBit,simprocAttr,-Int.reduceNatCast',qn,qcJ,qaE,qaF,qa0,qaH,qb1,qaT,qbg,qaP,qaS,qaR,qbS,qbT,qbU,qaD,qbQ,qbP,qbX,qbZ,qbW,qbY,qbO,qbM,qbN,qa8,qhK,qgL,qav,qZ,qo,qC,qA,qw,a0,qq hw hn,ql hw hn,a1,hi,hlt,PBi,hb1,hb2,hb3,hb4,hb5,hb6,hb7,hb8,hb9,hb10,qu,qb]
  | false=>
   cases a2:isW ws n [115,121,109] with
   | true=>
    have n0:=qh hw hn a2
    refine ⟨.ok (.mk 2 [],n + 1),(by simp [qa9.good]),by omega,n0,fun h i hi=>?_⟩
    have hlt:=qd hi
    have hb1:=qr h 1
    have hb2:=qr h 2
    have hb3:=qr h 3
    have hb4:=qr h 4
    have hb5:=qr h 5
    have hb6:=qr h 6
    have hb7:=qr h 7
    have hb8:=qr h 8
    have hb9:=qr h 9
    have hb10:=qr h 10
    rw [PBi] at hi
    rw [qm rfl (show T.get 187 = some qdd by kernel_rfl)]
    simp only [qdd,qbD,sT.1,sC.1,qf,qe,Nat.testBit,simprocAttr,-Int.reduceNatCast',qn,qcJ,qaE,qaF,qa0,qaH,qb1,qaT,qbg,qaP,qaS,qaR,qbS,qbT,qbU,qaD,qbQ,qbP,qbX,qbZ,qbW,qbY,qbO,qbM,qbN,qa8,qhK,qgL,qav,qZ,qo,qC,qA,qw,a0,qq hw hn,a1,ql hw hn,a2,hi,hlt,PBi,hb1,hb2,hb3,hb4,hb5,hb6,hb7,hb8,hb9,hb10,qu,qb]
   | false=>
    cases a3:isW ws n [40] with
    | false=>
     refine ⟨.error ((word ws (n)).pos,6),⟨⟨n,hn,rfl⟩,by decide⟩,n,hn,fun h i hi=>?_⟩
     have hlt:=qd hi
     have hps:=qdc hi
     rw [PBi] at hps
     have hb1:=qr h 1
     have hb2:=qr h 2
     have hb3:=qr h 3
     have hb4:=qr h 4
     have hb5:=qr h 5
     have hb6:=qr h 6
     have hb7:=qr h 7
     have hb8:=qr h 8
     have hb9:=qr h 9
     have hb10:=qr h 10
     rw [PBi] at hi
     rw [qm rfl (show T.get 187 = some qdd by kernel_rfl)]
     simp only [qdd,qbD,sT.1,sC.1,qf,qe,Nat.testBit,simprocAttr,-Int.reduceNatCast',qn,qcJ,qaE,qaF,qa0,qaH,qb1,qaT,qbg,qaP,qaS,qaR,qbS,qbT,qbU,qaD,qbQ,qbP,qbX,qbZ,qbW,qbY,qbO,qbM,qbN,qa8,qhK,qgL,qav,qZ,qo,qC,qA,qw,a0,qq hw hn,a1,a2,qbi hw hn,a3,qaK hw hn,hi,hlt,PBi,hb1,hb2,hb3,hb4,hb5,hb6,hb7,hb8,hb9,hb10,hps,qu,qb]
    | true=>
     have n0:=qh hw hn a3
     obtain ⟨o1,p1⟩:=ih (n + 1) n0
     rcases o1 with ⟨pos,err⟩ | ⟨t1,m1⟩
     ·obtain ⟨q1,m1,x1,y1⟩:=p1
      refine ⟨.error (pos,err),q1,m1,x1,fun h i hi=>?_⟩
      have hlt:=qd hi
      have hb1:=qr h 1
      have hb2:=qr h 2
      have hb3:=qr h 3
      have hb4:=qr h 4
      have hb5:=qr h 5
      have hb6:=qr h 6
      have hb7:=qr h 7
      have hb8:=qr h 8
      have hb9:=qr h 9
      have hb10:=qr h 10
      rw [PBi] at hi
      rw [qm rfl (show T.get 187 = some qdd by kernel_rfl)]
      simp only [qdd,qbD,sT.1,sC.1,qf,qe,Nat.testBit,simprocAttr,-Int.reduceNatCast',qn,qcJ,qaE,qaF,qa0,qaH,qb1,qaT,qbg,qaP,qaS,qaR,qbS,qbT,qbU,qaD,qbQ,qbP,qbX,qbZ,qbW,qbY,qbO,qbM,qbN,qa8,qhK,qgL,qav,qZ,qo,qC,qA,qw,a0,qq hw hn,a1,a2,qbi hw hn,a3,hd,ha,w,y1,hi,hlt,PBi,hb1,hb2,hb3,hb4,hb5,hb6,hb7,hb8,hb9,hb10,qu,qb]
     ·obtain ⟨g1,u1,n1,y1⟩:=p1
      cases b1:isW ws m1 [44] with
      | false=>
       refine ⟨.error ((word ws (m1)).pos,6),⟨⟨m1,n1,rfl⟩,by decide⟩,m1,n1,fun h i hi=>?_⟩
       have hlt:=qd hi
       have hb1:=qr h 1
       have hb2:=qr h 2
       have hb3:=qr h 3
       have hb4:=qr h 4
       have hb5:=qr h 5
       have hb6:=qr h 6
       have hb7:=qr h 7
       have hb8:=qr h 8
       have hb9:=qr h 9
       have hb10:=qr h 10
       rw [PBi] at hi
       rw [qm rfl (show T.get 187 = some qdd by kernel_rfl)]
       simp only [qdd,qbD,sT.1,sC.1,qf,qe,Nat.testBit,simprocAttr,-Int.reduceNatCast',qn,qcJ,qaE,qaF,qa0,qaH,qb1,qaT,qbg,qaP,qaS,qaR,qbS,qbT,qbU,qaD,qbQ,qbP,qbX,qbZ,qbW,qbY,qbO,qbM,qbN,qa8,qhK,qgL,qav,qZ,qo,qC,qA,qw,a0,qq hw hn,a1,a2,qbi hw hn,a3,hd,ha,w,y1,qah hw n1,b1,hi,hlt,PBi,hb1,hb2,hb3,hb4,hb5,hb6,hb7,hb8,hb9,hb10,qu,qb]
      | true=>
       have v1:=qh hw n1 b1
       cases z1:isW ws (m1 + 1) [41] with
       | true=>
        have r1:=qh hw v1 z1
        refine ⟨.ok (.mk 3 [t1],m1 + 1 + 1),(by simp [qa9.good,qkB,g1]),by omega,r1,fun h i hi=>?_⟩
        have hlt:=qd hi
        have hb1:=qr h 1
        have hb2:=qr h 2
        have hb3:=qr h 3
        have hb4:=qr h 4
        have hb5:=qr h 5
        have hb6:=qr h 6
        have hb7:=qr h 7
        have hb8:=qr h 8
        have hb9:=qr h 9
        have hb10:=qr h 10
        rw [PBi] at hi
        rw [qm rfl (show T.get 187 = some qdd by kernel_rfl)]
        simp only [qdd,qbD,sT.1,sC.1,qf,qe,Nat.testBit,simprocAttr,-Int.reduceNatCast',qn,qcJ,qaE,qaF,qa0,qaH,qb1,qaT,qbg,qaP,qaS,qaR,qbS,qbT,qbU,qaD,qbQ,qbP,qbX,qbZ,qbW,qbY,qbO,qbM,qbN,qa8,qhK,qgL,qav,qZ,qo,qC,qA,qw,a0,qq hw hn,a1,a2,qbi hw hn,a3,hd,ha,w,y1,qi hw n1,b1,ql hw v1,z1,hi,hlt,PBi,hb1,hb2,hb3,hb4,hb5,hb6,hb7,hb8,hb9,hb10,qu,qb]
       | false=>
        obtain ⟨o2,p2⟩:=ih (m1 + 1) v1
        rcases o2 with ⟨pos,err⟩ | ⟨t2,m2⟩
        ·obtain ⟨q2,m2,x2,y2⟩:=p2
         refine ⟨.error (pos,err),q2,m2,x2,fun h i hi=>?_⟩
         have hlt:=qd hi
         have hb1:=qr h 1
         have hb2:=qr h 2
         have hb3:=qr h 3
         have hb4:=qr h 4
         have hb5:=qr h 5
         have hb6:=qr h 6
         have hb7:=qr h 7
         have hb8:=qr h 8
         have hb9:=qr h 9
         have hb10:=qr h 10
         rw [PBi] at hi
         rw [qm rfl (show T.get 187 = some qdd by kernel_rfl)]
         simp only [qdd,qbD,sT.1,sC.1,qf,qe,Nat.testBit,simprocAttr,-Int.reduceNatCast',qn,qcJ,qaE,qaF,qa0,qaH,qb1,qaT,qbg,qaP,qaS,qaR,qbS,qbT,qbU,qaD,qbQ,qbP,qbX,qbZ,qbW,qbY,qbO,qbM,qbN,qa8,qhK,qgL,qav,qZ,qo,qC,qA,qw,a0,qq hw hn,a1,a2,qbi hw hn,a3,hd,ha,w,y1,qi hw n1,b1,qq hw v1,z1,y2,hi,hlt,PBi,hb1,hb2,hb3,hb4,hb5,hb6,hb7,hb8,hb9,hb10,qu,qb]
        ·obtain ⟨g2,u2,n2,y2⟩:=p2
         cases b2:isW ws m2 [44] with
         | false=>
          cases z2:isW ws m2 [41] with
          | false=>
           refine ⟨.error ((word ws (m2)).pos,6),⟨⟨m2,n2,rfl⟩,by decide⟩,m2,n2,fun h i hi=>?_⟩
           have hlt:=qd hi
           have hb1:=qr h 1
           have hb2:=qr h 2
           have hb3:=qr h 3
           have hb4:=qr h 4
           have hb5:=qr h 5
           have hb6:=qr h 6
           have hb7:=qr h 7
           have hb8:=qr h 8
           have hb9:=qr h 9
           have hb10:=qr h 10
           rw [PBi] at hi
           rw [qm rfl (show T.get 187 = some qdd by kernel_rfl)]
           simp only [qdd,qbD,sT.1,sC.1,qf,qe,Nat.testBit,simprocAttr,-Int.reduceNatCast',qn,qcJ,qaE,qaF,qa0,qaH,qb1,qaT,qbg,qaP,qaS,qaR,qbS,qbT,qbU,qaD,qbQ,qbP,qbX,qbZ,qbW,qbY,qbO,qbM,qbN,qa8,qhK,qgL,qav,qZ,qo,qC,qA,qw,a0,qq hw hn,a1,a2,qbi hw hn,a3,hd,ha,w,y1,qi hw n1,b1,qq hw v1,z1,y2,qq hw n2,b2,z2,qah hw n2,hi,hlt,PBi,hb1,hb2,hb3,hb4,hb5,hb6,hb7,hb8,hb9,hb10,qu,qb]
          | true=>
           have v2:=qh hw n2 z2
           refine ⟨.ok (.mk 3 [t1,t2],m2 + 1),(by simp [qa9.good,qkB,g1,g2]),by omega,v2,fun h i hi=>?_⟩
           have hlt:=qd hi
           have hb1:=qr h 1
           have hb2:=qr h 2
           have hb3:=qr h 3
           have hb4:=qr h 4
           have hb5:=qr h 5
           have hb6:=qr h 6
           have hb7:=qr h 7
           have hb8:=qr h 8
           have hb9:=qr h 9
           have hb10:=qr h 10
           rw [PBi] at hi
           rw [qm rfl (show T.get 187 = some qdd by kernel_rfl)]
           simp only [qdd,qbD,sT.1,sC.1,qf,qe,Nat.testBit,simprocAttr,-Int.reduceNatCast',qn,qcJ,qaE,qaF,qa0,qaH,qb1,qaT,qbg,qaP,qaS,qaR,qbS,qbT,qbU,qaD,qbQ,qbP,qbX,qbZ,qbW,qbY,qbO,qbM,qbN,qa8,qhK,qgL,qav,qZ,qo,qC,qA,qw,a0,qq hw hn,a1,a2,qbi hw hn,a3,hd,ha,w,y1,qi hw n1,b1,qq hw v1,z1,y2,qq hw n2,b2,z2,qi hw n2,hi,hlt,PBi,hb1,hb2,hb3,hb4,hb5,hb6,hb7,hb8,hb9,hb10,qu,qb]
         | true=>
          have v2:=qh hw n2 b2
          obtain ⟨o3,p3⟩:=ih (m2 + 1) v2
          rcases o3 with ⟨pos,err⟩ | ⟨t3,m3⟩
          ·obtain ⟨q3,m3,x3,y3⟩:=p3
           refine ⟨.error (pos,err),q3,m3,x3,fun h i hi=>?_⟩
           have hlt:=qd hi
           have hb1:=qr h 1
           have hb2:=qr h 2
           have hb3:=qr h 3
           have hb4:=qr h 4
           have hb5:=qr h 5
           have hb6:=qr h 6
           have hb7:=qr h 7
           have hb8:=qr h 8
           have hb9:=qr h 9
           have hb10:=qr h 10
           rw [PBi] at hi
           rw [qm rfl (show T.get 187 = some qdd by kernel_rfl)]
           simp only [qdd,qbD,sT.1,sC.1,qf,qe,Nat.testBit,simprocAttr,-Int.reduceNatCast',qn,qcJ,qaE,qaF,qa0,qaH,qb1,qaT,qbg,qaP,qaS,qaR,qbS,qbT,qbU,qaD,qbQ,qbP,qbX,qbZ,qbW,qbY,qbO,qbM,qbN,qa8,qhK,qgL,qav,qZ,qo,qC,qA,qw,a0,qq hw hn,a1,a2,qbi hw hn,a3,hd,ha,w,y1,qi hw n1,b1,qq hw v1,z1,y2,ql hw n2,b2,y3,hi,hlt,PBi,hb1,hb2,hb3,hb4,hb5,hb6,hb7,hb8,hb9,hb10,qu,qb]
          ·obtain ⟨g3,u3,n3,y3⟩:=p3
           cases b3:isW ws m3 [44] with
           | false=>
            cases z3:isW ws m3 [41] with
            | false=>
             refine ⟨.error ((word ws (m3)).pos,6),⟨⟨m3,n3,rfl⟩,by decide⟩,m3,n3,fun h i hi=>?_⟩
             have hlt:=qd hi
             have hb1:=qr h 1
             have hb2:=qr h 2
             have hb3:=qr h 3
             have hb4:=qr h 4
             have hb5:=qr h 5
             have hb6:=qr h 6
             have hb7:=qr h 7
             have hb8:=qr h 8
             have hb9:=qr h 9
             have hb10:=qr h 10
             rw [PBi] at hi
             rw [qm rfl (show T.get 187 = some qdd by kernel_rfl)]
             simp only [qdd,qbD,sT.1,sC.1,qf,qe,Nat.testBit,simprocAttr,-Int.reduceNatCast',qn,qcJ,qaE,qaF,qa0,qaH,qb1,qaT,qbg,qaP,qaS,qaR,qbS,qbT,qbU,qaD,qbQ,qbP,qbX,qbZ,qbW,qbY,qbO,qbM,qbN,qa8,qhK,qgL,qav,qZ,qo,qC,qA,qw,a0,qq hw hn,a1,a2,qbi hw hn,a3,hd,ha,w,y1,qi hw n1,b1,qq hw v1,z1,y2,ql hw n2,b2,y3,qq hw n3,b3,z3,qah hw n3,hi,hlt,PBi,hb1,hb2,hb3,hb4,hb5,hb6,hb7,hb8,hb9,hb10,qu,qb]
            | true=>
             have v3:=qh hw n3 z3
             refine ⟨.ok (.mk 3 [t1,t2,t3],m3 + 1),(by simp [qa9.good,qkB,g1,g2,g3]),by omega,v3,fun h i hi=>?_⟩
             have hlt:=qd hi
             have hb1:=qr h 1
             have hb2:=qr h 2
             have hb3:=qr h 3
             have hb4:=qr h 4
             have hb5:=qr h 5
             have hb6:=qr h 6
             have hb7:=qr h 7
             have hb8:=qr h 8
             have hb9:=qr h 9
             have hb10:=qr h 10
             rw [PBi] at hi
             rw [qm rfl (show T.get 187 = some qdd by kernel_rfl)]
             simp only [qdd,qbD,sT.1,sC.1,qf,qe,Nat.testBit,simprocAttr,-Int.reduceNatCast',qn,qcJ,qaE,qaF,qa0,qaH,qb1,qaT,qbg,qaP,qaS,qaR,qbS,qbT,qbU,qaD,qbQ,qbP,qbX,qbZ,qbW,qbY,qbO,qbM,qbN,qa8,qhK,qgL,qav,qZ,qo,qC,qA,qw,a0,qq hw hn,a1,a2,qbi hw hn,a3,hd,ha,w,y1,qi hw n1,b1,qq hw v1,z1,y2,ql hw n2,b2,y3,qq hw n3,b3,z3,qi hw n3,hi,hlt,PBi,hb1,hb2,hb3,hb4,hb5,hb6,hb7,hb8,hb9,hb10,qu,qb]
           | true=>
            have v3:=qh hw n3 b3
            obtain ⟨o4,p4⟩:=ih (m3 + 1) v3
            rcases o4 with ⟨pos,err⟩ | ⟨t4,m4⟩
            ·obtain ⟨q4,m4,x4,y4⟩:=p4
             refine ⟨.error (pos,err),q4,m4,x4,fun h i hi=>?_⟩
             have hlt:=qd hi
             have hb1:=qr h 1
             have hb2:=qr h 2
             have hb3:=qr h 3
             have hb4:=qr h 4
             have hb5:=qr h 5
             have hb6:=qr h 6
             have hb7:=qr h 7
             have hb8:=qr h 8
             have hb9:=qr h 9
             have hb10:=qr h 10
             rw [PBi] at hi
             rw [qm rfl (show T.get 187 = some qdd by kernel_rfl)]
             simp only [qdd,qbD,sT.1,sC.1,qf,qe,Nat.testBit,simprocAttr,-Int.reduceNatCast',qn,qcJ,qaE,qaF,qa0,qaH,qb1,qaT,qbg,qaP,qaS,qaR,qbS,qbT,qbU,qaD,qbQ,qbP,qbX,qbZ,qbW,qbY,qbO,qbM,qbN,qa8,qhK,qgL,qav,qZ,qo,qC,qA,qw,a0,qq hw hn,a1,a2,qbi hw hn,a3,hd,ha,w,y1,qi hw n1,b1,qq hw v1,z1,y2,ql hw n2,b2,y3,ql hw n3,b3,y4,hi,hlt,PBi,hb1,hb2,hb3,hb4,hb5,hb6,hb7,hb8,hb9,hb10,qu,qb]
            ·obtain ⟨g4,u4,n4,y4⟩:=p4
             cases b4:isW ws m4 [44] with
             | false=>
              cases z4:isW ws m4 [41] with
              | false=>
               refine ⟨.error ((word ws (m4)).pos,6),⟨⟨m4,n4,rfl⟩,by decide⟩,m4,n4,fun h i hi=>?_⟩
               have hlt:=qd hi
               have hb1:=qr h 1
               have hb2:=qr h 2
               have hb3:=qr h 3
               have hb4:=qr h 4
               have hb5:=qr h 5
               have hb6:=qr h 6
               have hb7:=qr h 7
               have hb8:=qr h 8
               have hb9:=qr h 9
               have hb10:=qr h 10
               rw [PBi] at hi
               rw [qm rfl (show T.get 187 = some qdd by kernel_rfl)]
               simp only [qdd,qbD,sT.1,sC.1,qf,qe,Nat.testBit,simprocAttr,-Int.reduceNatCast',qn,qcJ,qaE,qaF,qa0,qaH,qb1,qaT,qbg,qaP,qaS,qaR,qbS,qbT,qbU,qaD,qbQ,qbP,qbX,qbZ,qbW,qbY,qbO,qbM,qbN,qa8,qhK,qgL,qav,qZ,qo,qC,qA,qw,a0,qq hw hn,a1,a2,qbi hw hn,a3,hd,ha,w,y1,qi hw n1,b1,qq hw v1,z1,y2,ql hw n2,b2,y3,ql hw n3,b3,y4,qq hw n4,b4,z4,qah hw n4,hi,hlt,PBi,hb1,hb2,hb3,hb4,hb5,hb6,hb7,hb8,hb9,hb10,qu,qb]
              | true=>
               have v4:=qh hw n4 z4
               refine ⟨.ok (.mk 3 [t1,t2,t3,t4],m4 + 1),(by simp [qa9.good,qkB,g1,g2,g3,g4]),by omega,v4,fun h i hi=>?_⟩
               have hlt:=qd hi
               have hb1:=qr h 1
               have hb2:=qr h 2
               have hb3:=qr h 3
               have hb4:=qr h 4
               have hb5:=qr h 5
               have hb6:=qr h 6
               have hb7:=qr h 7
               have hb8:=qr h 8
               have hb9:=qr h 9
               have hb10:=qr h 10
               rw [PBi] at hi
               rw [qm rfl (show T.get 187 = some qdd by kernel_rfl)]
               simp only [qdd,qbD,sT.1,sC.1,qf,qe,Nat.testBit,simprocAttr,-Int.reduceNatCast',qn,qcJ,qaE,qaF,qa0,qaH,qb1,qaT,qbg,qaP,qaS,qaR,qbS,qbT,qbU,qaD,qbQ,qbP,qbX,qbZ,qbW,qbY,qbO,qbM,qbN,qa8,qhK,qgL,qav,qZ,qo,qC,qA,qw,a0,qq hw hn,a1,a2,qbi hw hn,a3,hd,ha,w,y1,qi hw n1,b1,qq hw v1,z1,y2,ql hw n2,b2,y3,ql hw n3,b3,y4,qq hw n4,b4,z4,qi hw n4,hi,hlt,PBi,hb1,hb2,hb3,hb4,hb5,hb6,hb7,hb8,hb9,hb10,qu,qb]
             | true=>
              have v4:=qh hw n4 b4
              obtain ⟨e,he,ym⟩:=qj4 hw v4
              refine ⟨.error ((word ws (m4 + 1)).pos,e),⟨⟨m4 + 1,v4,rfl⟩,he⟩,m4 + 1,v4,fun h i hi=>?_⟩
              have hlt:=qd hi
              have hb1:=qr h 1
              have hb2:=qr h 2
              have hb3:=qr h 3
              have hb4:=qr h 4
              have hb5:=qr h 5
              have hb6:=qr h 6
              have hb7:=qr h 7
              have hb8:=qr h 8
              have hb9:=qr h 9
              have hb10:=qr h 10
              rw [PBi] at hi
              rw [qm rfl (show T.get 187 = some qdd by kernel_rfl)]
              simp only [qdd,qbD,sT.1,sC.1,qf,qe,Nat.testBit,simprocAttr,-Int.reduceNatCast',qn,qcJ,qaE,qaF,qa0,qaH,qb1,qaT,qbg,qaP,qaS,qaR,qbS,qbT,qbU,qaD,qbQ,qbP,qbX,qbZ,qbW,qbY,qbO,qbM,qbN,qa8,qhK,qgL,qav,qZ,qo,qC,qA,qw,a0,qq hw hn,a1,a2,qbi hw hn,a3,hd,ha,w,y1,qi hw n1,b1,qq hw v1,z1,y2,ql hw n2,b2,y3,ql hw n3,b3,y4,ql hw n4,b4,ym,hi,hlt,PBi,hb1,hb2,hb3,hb4,hb5,hb6,hb7,hb8,hb9,hb10,qu,qb]
end
structure qas where
 name:Str
 t:qa9
def qas.enc (x:qas):qc:=.agg (.str x.name :: x.t.cs)
def qgo (v:qc):Prop:=∃x:qas,v = x.enc∧qa2 x.name = true∧x.t.good 3 = true
structure qbw where
 kind:Int
 name:Str
 model:Str
 link:qF
def qbw.enc (x:qbw):qc:=.agg [.int .i64 x.kind,.str x.name,.str x.model,.str x.link.frm.part,.str x.link.frm.port,.str x.link.to.part,.str x.link.to.port]
def qF.zero:qF:=⟨⟨[],[]⟩,⟨[],[]⟩⟩
def qtl (v:qc):Prop:=∃x:qbw,v = x.enc∧((x.kind = 0∧qa2 x.name = true∧qa2 x.model = true∧x.link = .zero)∨(x.kind = 1∧qa2 x.name = true∧x.model = []∧x.link = .zero)∨((x.kind = 2∨x.kind = 3)∧x.name = []∧x.model = []∧x.link.frm.ok∧x.link.to.ok))
def qb2 (k most:Nat) (Q:qc→Prop) (vs:List qc):Prop:=vs.length ≤ most∧∀v ∈ vs,Q v∧Shp k v
def qBl (v:qc):Prop:=∃vs,v = .lst vs (fl vs.isEmpty)∧qb2 6 10 qgF vs
def qka (v:qc):Prop:=∃(e:Exp) (vs:List qc),v = .agg (e.cs φP ++ [.lst vs (fl vs.isEmpty)])∧qly e∧qb2 7 5 qtl vs
theorem qb2.lower {k most:Nat} {Q:qc→Prop} {vs:List qc} (h:qb2 k most Q vs) (n:Nat):qD n vs = true:=qhI (fun v hv=>(h.2 v hv).2) n
theorem qip (n:Nat) (a b:List qc):qD n (a ++ b) = (qD n a && qD n b):=by
 induction a with
 | nil=>simp [qD]
 | cons x xs ih=>simp only [List.cons_append,qD,ih,Bool.and_assoc]
section
variable {ws:List Tok}
theorem qA3 (hw:WF ws) {n:Nat} (hn:n < ws.length):∃o,qB3 ws 1 3 n o:=
 qiM hw (by decide) (by decide) (fun _ h2=>qiM hw (by decide) (by decide) (fun _ h3=>qiM hw (by decide) (by decide) (fun _ h4=>quZ hw (by decide) h4) h3) h2) hn
theorem qzn {v:qc} (h:qtl v):Shp 7 v:=by
 obtain ⟨x,rfl,_⟩:=h
 exact ⟨_,rfl,rfl,rfl,fun n=>by simp [qD,qc.lower],rfl⟩
theorem qdZ (e:Exp):(e.cs φP).length = 5∧(e.cs φP).all qc.storable = true∧(∀n,qD n (e.cs φP) = true)∧(e.cs φP).map qc.dim = e.cs φP:=by
 obtain ⟨op,k,nm,sb,aS⟩:=e
 refine ⟨rfl,rfl,fun n=>?_,?_⟩
 ·simp only [Exp.cs,qD,qc.lower,qv,Bool.and_self]
 ·simp only [Exp.cs,List.map_cons,List.map_nil,qt]
  rfl
theorem qrc {v:qc} (h:qgF v):Shp 6 v:=by
 obtain ⟨x,rfl,_⟩:=h
 obtain ⟨h1,h2,h3,h4⟩:=qdZ x.e
 exact ⟨_,rfl,by simp [h1],by simp [h2,qc.storable],fun n=>by simp only [qD,qc.lower,h3,Bool.and_self],by rw [List.map_cons,h4];rfl⟩
theorem qmi {v:qc} (h:qgo v):Shp 3 v:=by
 obtain ⟨x,rfl,_⟩:=h
 exact ⟨_,rfl,by simp [qA],by rw [List.all_cons,qw];rfl,fun n=>by simp only [qD,qc.lower,qo,Bool.and_self],by rw [List.map_cons,qC];rfl⟩
theorem que {v:qc} (h:qjp v):Shp 2 v:=by
 obtain ⟨x,rfl,_⟩:=h
 exact ⟨_,rfl,rfl,rfl,fun n=>by simp [qD,qc.lower],rfl⟩
theorem qux {v:qc} (h:qkh v):Shp 4 v:=by
 obtain ⟨x,rfl,_⟩:=h
 exact ⟨_,rfl,rfl,rfl,fun n=>by simp [qD,qc.lower],rfl⟩
theorem qtR {v:qc} (h:qj5 v):Shp 7 v:=by
 obtain ⟨x,rfl,_⟩:=h
 obtain ⟨h1,h2,h3,h4⟩:=qdZ x.e
 have e1:∀n,qD n (x.cond.map (Exp.enc φP)) = true:=by
  intro n
  induction x.cond with
  | nil=>rfl
  | cons e es ih=>
   have:=(qdZ e).2.2.1 n
   obtain ⟨op,k,nm,sb,aS⟩:=e
   simp only [List.map_cons,qD,ih,Bool.and_true,Exp.enc,qc.lower]
   simpa only [Exp.cs] using this
 refine ⟨_,rfl,by simp [h1],by simp [h2,qc.storable],fun n=>?_,by rw [List.map_cons,List.map_append,h4];rfl⟩
 simp only [qD,qc.lower,qip,h3,e1,Bool.and_self]
theorem qul {v:qc} (h:qka v):Shp 6 v:=by
 obtain ⟨e,vs,rfl,_,h5⟩:=h
 obtain ⟨h1,h2,h3,h4⟩:=qdZ e
 refine ⟨_,rfl,by simp [h1],by simp [h2,qc.storable],fun n=>?_,by rw [List.map_append,h4,List.map_cons,qt];rfl⟩
 simp only [qD,qc.lower,qip,h3,h5.lower,Bool.and_self]
theorem qsP {f:FuncId} {k m:Nat} {Q:qc→Prop} (hs:∀v,Q v→Shp k v) (ho:∃o,qkJ f ws m o∧GOK ws Q o):∃o,qCp ws (fun i:Nat=>i) k (fun i=>.fn f [.ptr i 0] []) (fun _ _=>True) Q m o:=by
 obtain ⟨o,g1,g2⟩:=ho
 have hb:∀i H,Wd (.fn f [.ptr i 0] []) [] H = Wd (.fn f [] []) [.ptr i 0] H:=fun i H=>qiS f [.ptr i 0] [] [] H
 rcases o with ⟨p,e⟩ | ⟨v,m'⟩
 ·obtain ⟨m',x1,x2⟩:=g1
  exact ⟨.error (p,e),g2,m',x1,fun i h _ hi=>by rw [hb];exact x2 h i hi⟩
 ·obtain ⟨x0,x1,x2⟩:=g1
  exact ⟨.ok (v,m'),x0,x1,g2,hs v g2,fun i h _ hi=>by rw [hb];exact x2 h i hi⟩
theorem qfe {k:Nat} {Q:qc→Prop} (hs:∀v,Q v→Shp k v) {f:FuncId} {m:Nat} (ho:∃o,qkJ f ws m o∧GOK ws Q o):∃o,qkJ f ws m o∧GOK ws (fun v=>Q v∧Shp k v) o:=by
 obtain ⟨o,g1,g2⟩:=ho
 rcases o with ⟨p,e⟩ | ⟨v,m'⟩
 ·exact ⟨_,g1,g2⟩
 ·exact ⟨_,g1,g2,hs v g2⟩
def qtH (ws:List Tok) (F:FuncId) (most:Int) (rest:Nat→List qc) (k mostN:Nat) (Q:qc→Prop) (n:Nat):Except (Int×Int) (List qc×Nat)→Prop
 | .ok (vs,n')=>n ≤ n'∧n' < ws.length∧qb2 k mostN Q vs∧∀(h:List qx) (i:Nat),h[i]? = some (PB ws n)→Wd (.fn F [] []) (.ptr i 0 :: .int .i64 most :: rest i) h = some (.ret (.lst vs (fl vs.isEmpty)),h.set i (PB ws n'),false)
 | .error (p,e)=>qlm ws p e∧∃n',n' < ws.length∧∀(h:List qx) (i:Nat),h[i]? = some (PB ws n)→Wd (.fn F [] []) (.ptr i 0 :: .int .i64 most :: rest i) h = some (.pan (qbo p e),h.set i (PB ws n'),false)
theorem qd5 {F:FuncId} {most:Nat} {rest:Nat→List qc} {k n:Nat} {Q:qc→Prop} {beg:Nat→Bool} (h:∃o,qxg ws (ι:=Nat) (fun i=>i) k most F rest beg (fun _ _=>True) Q n o):∃o,qtH ws F (most:Nat) rest k most Q n o:=by
 obtain ⟨o,ho⟩:=h
 rcases o with ⟨p,e⟩ | ⟨vs,m⟩
 ·obtain ⟨g1,n',g2,g3⟩:=ho
  exact ⟨.error (p,e),g1,n',g2,fun h i hi=>g3 i h trivial hi⟩
 ·obtain ⟨g1,g2,g3,g4,_,_,_,g8⟩:=ho
  exact ⟨.ok (vs,m),g1,g2,⟨g3,g4⟩,fun h i hi=>g8 i h trivial hi⟩
theorem qmD {f:FuncId} {i:Nat} {h:List qx}:Wd (.fn f [.ptr i 0] []) [] h = Wd (.fn f [] []) [.ptr i 0] h:=qiS f [.ptr i 0] [] [] h
def qsb (ws:List Tok) (n:Nat):Bool:=isW ws n [97,100,100] || isW ws n [100,114,111,112] || isW ws n [116,105,101] || isW ws n [99,117,116]
set_option maxHeartbeats 0 in
theorem qqu (hw:WF ws) {n:Nat} {h:List qx} {i:Nat} (hn:n < ws.length) (hi:h[i]? = some (PB ws n)):Wd (.fn 244 [] []) [.ptr i 0] h = some (.ret (.bool (qsb ws n)),h,false):=by
 rw [qm rfl (show T.get 244 = some qCe by kernel_rfl)]
 cases a1:isW ws n [97,100,100] <;> cases a2:isW ws n [100,114,111,112] <;> cases a3:isW ws n [116,105,101] <;> cases a4:isW ws n [99,117,116] <;> simp only [qCe,sT.1,sC.1,qf,qe,Nat.testBit,simprocAttr,-Int.reduceNatCast',qbi hw hn hi,a1,a2,a3,a4,qsb]
set_option maxHeartbeats 0 in
theorem qsA (hw:WF ws) {n:Nat} (hn:n < ws.length):∃o,qkJ 134 ws n o∧GOK ws qgo o:=by
 cases a0:qab ws (n) with
 | false=>
  refine ⟨.error ((word ws (n)).pos,6),⟨n,hn,fun h i hi=>?_⟩,⟨⟨n,hn,rfl⟩,by decide⟩⟩
  have hlt:=qd hi
  have hps:=qdc hi
  rw [PBi] at hps
  have hb1:=qr h 1
  have hb2:=qr h 2
  have hb3:=qr h 3
  rw [PBi] at hi
  rw [qm rfl (show T.get 134 = some qo3 by kernel_rfl)]
  simp only [qo3,sT.1,sC.1,qf,qe,Nat.testBit,simprocAttr,-Int.reduceNatCast',qcy hw hn,a0,hi,hlt,PBi,hb1,hb2,hb3,hps,qu,qb,qY.enc,qa1.enc,qF.enc,qa5.enc,qX.enc,qas.enc,qbw.enc,qF.zero,Nd.enc,Nd.cs,Exp.enc,Exp.cs,List.cons_append,List.nil_append,qt,qj,qv,qN,qA,qC,qw,qo]
 | true=>
  have n0:=qM hw hn a0
  cases a1:isW ws (n + 1) [58] with
  | false=>
   refine ⟨.error ((word ws (n + 1)).pos,6),⟨n + 1,n0,fun h i hi=>?_⟩,⟨⟨n + 1,n0,rfl⟩,by decide⟩⟩
   have hlt:=qd hi
   have hb1:=qr h 1
   have hb2:=qr h 2
   have hb3:=qr h 3
   rw [PBi] at hi
   rw [qm rfl (show T.get 134 = some qo3 by kernel_rfl)]
   simp only [qo3,sT.1,sC.1,qf,qe,Nat.testBit,simprocAttr,-Int.reduceNatCast',qP hw hn,a0,qah hw n0,a1,hi,hlt,PBi,hb1,hb2,hb3,qu,qb,qY.enc,qa1.enc,qF.enc,qa5.enc,qX.enc,qas.enc,qbw.enc,qF.zero,Nd.enc,Nd.cs,Exp.enc,Exp.cs,List.cons_append,List.nil_append,qt,qj,qv,qN,qA,qC,qw,qo]
  | true=>
   have n1:=qh hw n0 a1
   obtain ⟨o2,p2⟩:=qA3 hw n1
   rcases o2 with ⟨pos,err⟩ | ⟨t2,m2⟩
   ·obtain ⟨q2,m2,x2,y2⟩:=p2
    refine ⟨.error (pos,err),⟨m2,x2,fun h i hi=>?_⟩,q2⟩
    have hlt:=qd hi
    have hb1:=qr h 1
    have hb2:=qr h 2
    have hb3:=qr h 3
    rw [PBi] at hi
    rw [qm rfl (show T.get 134 = some qo3 by kernel_rfl)]
    simp only [qo3,sT.1,sC.1,qf,qe,Nat.testBit,simprocAttr,-Int.reduceNatCast',qP hw hn,a0,qi hw n0,a1,y2,hi,hlt,PBi,hb1,hb2,hb3,qu,qb,qY.enc,qa1.enc,qF.enc,qa5.enc,qX.enc,qas.enc,qbw.enc,qF.zero,Nd.enc,Nd.cs,Exp.enc,Exp.cs,List.cons_append,List.nil_append,qt,qj,qv,qN,qA,qC,qw,qo]
   ·obtain ⟨g2,u2,n2,y2⟩:=p2
    obtain ⟨ta2,tb2,te2,td2,tf2,tg2,th2⟩:=qcN t2
    have tl2:∀n,qD n [ta2,tb2] = true:=fun n=>by rw [←te2];exact qo n t2
    simp only [qD,Bool.and_eq_true,and_true] at tl2
    have tm2:=fun n=>(tl2 n).1
    have tn2:=fun n=>(tl2 n).2
    cases a3:isW ws (m2) [59] with
    | false=>
     refine ⟨.error ((word ws (m2)).pos,6),⟨m2,n2,fun h i hi=>?_⟩,⟨⟨m2,n2,rfl⟩,by decide⟩⟩
     have hlt:=qd hi
     have hb1:=qr h 1
     have hb2:=qr h 2
     have hb3:=qr h 3
     rw [PBi] at hi
     rw [qm rfl (show T.get 134 = some qo3 by kernel_rfl)]
     simp only [qo3,sT.1,sC.1,qf,qe,Nat.testBit,simprocAttr,-Int.reduceNatCast',qP hw hn,a0,qi hw n0,a1,y2,te2,td2,tf2,tg2,th2,tm2,tn2,qah hw n2,a3,hi,hlt,PBi,hb1,hb2,hb3,qu,qb,qY.enc,qa1.enc,qF.enc,qa5.enc,qX.enc,qas.enc,qbw.enc,qF.zero,Nd.enc,Nd.cs,Exp.enc,Exp.cs,List.cons_append,List.nil_append,qt,qj,qv,qN,qA,qC,qw,qo]
    | true=>
     have n3:=qh hw n2 a3
     refine ⟨.ok (qas.enc ⟨(word ws (n)).s,t2⟩,m2 + 1),⟨by omega,n3,fun h i hi=>?_⟩,⟨⟨(word ws (n)).s,t2⟩,rfl,(qW a0),g2⟩⟩
     have hlt:=qd hi
     have hb1:=qr h 1
     have hb2:=qr h 2
     have hb3:=qr h 3
     rw [PBi] at hi
     rw [qm rfl (show T.get 134 = some qo3 by kernel_rfl)]
     simp only [qo3,sT.1,sC.1,qf,qe,Nat.testBit,simprocAttr,-Int.reduceNatCast',qP hw hn,a0,qi hw n0,a1,y2,te2,td2,tf2,tg2,th2,tm2,tn2,qi hw n2,a3,hi,hlt,PBi,hb1,hb2,hb3,qu,qb,qY.enc,qa1.enc,qF.enc,qa5.enc,qX.enc,qas.enc,qbw.enc,qF.zero,Nd.enc,Nd.cs,Exp.enc,Exp.cs,List.cons_append,List.nil_append,qt,qj,qv,qN,qA,qC,qw,qo]
set_option maxHeartbeats 0 in
theorem qBf (hw:WF ws) {n:Nat} (hn:n < ws.length):∃o,qkJ 245 ws n o∧GOK ws qtl o:=by
 cases a0:isW ws (n) [97,100,100] with
 | false=>
  cases a1:isW ws (n) [100,114,111,112] with
  | false=>
   cases a2:isW ws (n) [116,105,101] with
   | false=>
    cases a3:isW ws (n) [99,117,116] with
    | false=>
     refine ⟨.error ((word ws (n)).pos,6),⟨n,hn,fun h i hi=>?_⟩,⟨⟨n,hn,rfl⟩,by decide⟩⟩
     have hlt:=qd hi
     have hps:=qdc hi
     rw [PBi] at hps
     have hb1:=qr h 1
     have hb2:=qr h 2
     have hb3:=qr h 3
     have hb4:=qr h 4
     rw [PBi] at hi
     rw [qm rfl (show T.get 245 = some qhJ by kernel_rfl)]
     simp only [qhJ,sT.1,sC.1,qf,qe,Nat.testBit,simprocAttr,-Int.reduceNatCast',qq hw hn,a0,qq hw hn,a1,qq hw hn,a2,qah hw hn,a3,hi,hlt,PBi,hb1,hb2,hb3,hb4,hps,qu,qb,qY.enc,qa1.enc,qF.enc,qa5.enc,qX.enc,qas.enc,qbw.enc,qF.zero,Nd.enc,Nd.cs,Exp.enc,Exp.cs,List.cons_append,List.nil_append,qt,qj,qv,qN,qA,qC,qw,qo]
    | true=>
     have n3:=qh hw hn a3
     obtain ⟨o4,p4,q4⟩:=qlr hw n3
     rcases o4 with ⟨pos,err⟩ | ⟨v4,m4⟩
     ·obtain ⟨m4,x4,y4⟩:=p4
      refine ⟨.error (pos,err),⟨m4,x4,fun h i hi=>?_⟩,q4⟩
      have hlt:=qd hi
      have hb1:=qr h 1
      have hb2:=qr h 2
      have hb3:=qr h 3
      have hb4:=qr h 4
      rw [PBi] at hi
      rw [qm rfl (show T.get 245 = some qhJ by kernel_rfl)]
      simp only [qhJ,sT.1,sC.1,qf,qe,Nat.testBit,simprocAttr,-Int.reduceNatCast',qq hw hn,a0,qq hw hn,a1,qq hw hn,a2,qi hw hn,a3,y4,hi,hlt,PBi,hb1,hb2,hb3,hb4,qu,qb,qY.enc,qa1.enc,qF.enc,qa5.enc,qX.enc,qas.enc,qbw.enc,qF.zero,Nd.enc,Nd.cs,Exp.enc,Exp.cs,List.cons_append,List.nil_append,qt,qj,qv,qN,qA,qC,qw,qo]
     ·obtain ⟨u4,n4,y4⟩:=p4
      obtain ⟨⟨⟨fa4,fb4⟩,⟨ta4,tb4⟩⟩,rfl,w4⟩:=q4
      refine ⟨.ok (qbw.enc ⟨3,[],[],⟨⟨fa4,fb4⟩,⟨ta4,tb4⟩⟩⟩,m4),⟨by omega,n4,fun h i hi=>?_⟩,⟨⟨3,[],[],⟨⟨fa4,fb4⟩,⟨ta4,tb4⟩⟩⟩,rfl,.inr (.inr ⟨.inr rfl,rfl,rfl,w4⟩)⟩⟩
      have hlt:=qd hi
      have hb1:=qr h 1
      have hb2:=qr h 2
      have hb3:=qr h 3
      have hb4:=qr h 4
      rw [PBi] at hi
      rw [qm rfl (show T.get 245 = some qhJ by kernel_rfl)]
      simp only [qhJ,sT.1,sC.1,qf,qe,Nat.testBit,simprocAttr,-Int.reduceNatCast',qq hw hn,a0,qq hw hn,a1,qq hw hn,a2,qi hw hn,a3,y4,hi,hlt,PBi,hb1,hb2,hb3,hb4,qu,qb,qY.enc,qa1.enc,qF.enc,qa5.enc,qX.enc,qas.enc,qbw.enc,qF.zero,Nd.enc,Nd.cs,Exp.enc,Exp.cs,List.cons_append,List.nil_append,qt,qj,qv,qN,qA,qC,qw,qo]
   | true=>
    have n2:=qh hw hn a2
    obtain ⟨o3,p3,q3⟩:=qlr hw n2
    rcases o3 with ⟨pos,err⟩ | ⟨v3,m3⟩
    ·obtain ⟨m3,x3,y3⟩:=p3
     refine ⟨.error (pos,err),⟨m3,x3,fun h i hi=>?_⟩,q3⟩
     have hlt:=qd hi
     have hb1:=qr h 1
     have hb2:=qr h 2
     have hb3:=qr h 3
     have hb4:=qr h 4
     rw [PBi] at hi
     rw [qm rfl (show T.get 245 = some qhJ by kernel_rfl)]
     simp only [qhJ,sT.1,sC.1,qf,qe,Nat.testBit,simprocAttr,-Int.reduceNatCast',qq hw hn,a0,qq hw hn,a1,ql hw hn,a2,y3,hi,hlt,PBi,hb1,hb2,hb3,hb4,qu,qb,qY.enc,qa1.enc,qF.enc,qa5.enc,qX.enc,qas.enc,qbw.enc,qF.zero,Nd.enc,Nd.cs,Exp.enc,Exp.cs,List.cons_append,List.nil_append,qt,qj,qv,qN,qA,qC,qw,qo]
    ·obtain ⟨u3,n3,y3⟩:=p3
     obtain ⟨⟨⟨fa3,fb3⟩,⟨ta3,tb3⟩⟩,rfl,w3⟩:=q3
     refine ⟨.ok (qbw.enc ⟨2,[],[],⟨⟨fa3,fb3⟩,⟨ta3,tb3⟩⟩⟩,m3),⟨by omega,n3,fun h i hi=>?_⟩,⟨⟨2,[],[],⟨⟨fa3,fb3⟩,⟨ta3,tb3⟩⟩⟩,rfl,.inr (.inr ⟨.inl rfl,rfl,rfl,w3⟩)⟩⟩
     have hlt:=qd hi
     have hb1:=qr h 1
     have hb2:=qr h 2
     have hb3:=qr h 3
     have hb4:=qr h 4
     rw [PBi] at hi
     rw [qm rfl (show T.get 245 = some qhJ by kernel_rfl)]
     simp only [qhJ,sT.1,sC.1,qf,qe,Nat.testBit,simprocAttr,-Int.reduceNatCast',qq hw hn,a0,qq hw hn,a1,ql hw hn,a2,y3,hi,hlt,PBi,hb1,hb2,hb3,hb4,qu,qb,qY.enc,qa1.enc,qF.enc,qa5.enc,qX.enc,qas.enc,qbw.enc,qF.zero,Nd.enc,Nd.cs,Exp.enc,Exp.cs,List.cons_append,List.nil_append,qt,qj,qv,qN,qA,qC,qw,qo]
  | true=>
   have n1:=qh hw hn a1
   cases a2:qab ws (n + 1) with
   | false=>
    refine ⟨.error ((word ws (n + 1)).pos,6),⟨n + 1,n1,fun h i hi=>?_⟩,⟨⟨n + 1,n1,rfl⟩,by decide⟩⟩
    have hlt:=qd hi
    have hb1:=qr h 1
    have hb2:=qr h 2
    have hb3:=qr h 3
    have hb4:=qr h 4
    rw [PBi] at hi
    rw [qm rfl (show T.get 245 = some qhJ by kernel_rfl)]
    simp only [qhJ,sT.1,sC.1,qf,qe,Nat.testBit,simprocAttr,-Int.reduceNatCast',qq hw hn,a0,ql hw hn,a1,qcy hw n1,a2,hi,hlt,PBi,hb1,hb2,hb3,hb4,qu,qb,qY.enc,qa1.enc,qF.enc,qa5.enc,qX.enc,qas.enc,qbw.enc,qF.zero,Nd.enc,Nd.cs,Exp.enc,Exp.cs,List.cons_append,List.nil_append,qt,qj,qv,qN,qA,qC,qw,qo]
   | true=>
    have n2:=qM hw n1 a2
    cases a3:isW ws (n + 1 + 1) [59] with
    | false=>
     refine ⟨.error ((word ws (n + 1 + 1)).pos,6),⟨n + 1 + 1,n2,fun h i hi=>?_⟩,⟨⟨n + 1 + 1,n2,rfl⟩,by decide⟩⟩
     have hlt:=qd hi
     have hb1:=qr h 1
     have hb2:=qr h 2
     have hb3:=qr h 3
     have hb4:=qr h 4
     rw [PBi] at hi
     rw [qm rfl (show T.get 245 = some qhJ by kernel_rfl)]
     simp only [qhJ,sT.1,sC.1,qf,qe,Nat.testBit,simprocAttr,-Int.reduceNatCast',qq hw hn,a0,ql hw hn,a1,qP hw n1,a2,qah hw n2,a3,hi,hlt,PBi,hb1,hb2,hb3,hb4,qu,qb,qY.enc,qa1.enc,qF.enc,qa5.enc,qX.enc,qas.enc,qbw.enc,qF.zero,Nd.enc,Nd.cs,Exp.enc,Exp.cs,List.cons_append,List.nil_append,qt,qj,qv,qN,qA,qC,qw,qo]
    | true=>
     have n3:=qh hw n2 a3
     refine ⟨.ok (qbw.enc ⟨1,(word ws (n + 1)).s,[],.zero⟩,n + 1 + 1 + 1),⟨by omega,n3,fun h i hi=>?_⟩,⟨⟨1,(word ws (n + 1)).s,[],.zero⟩,rfl,.inr (.inl ⟨rfl,(qW a2),rfl,rfl⟩)⟩⟩
     have hlt:=qd hi
     have hb1:=qr h 1
     have hb2:=qr h 2
     have hb3:=qr h 3
     have hb4:=qr h 4
     rw [PBi] at hi
     rw [qm rfl (show T.get 245 = some qhJ by kernel_rfl)]
     simp only [qhJ,sT.1,sC.1,qf,qe,Nat.testBit,simprocAttr,-Int.reduceNatCast',qq hw hn,a0,ql hw hn,a1,qP hw n1,a2,qi hw n2,a3,hi,hlt,PBi,hb1,hb2,hb3,hb4,qu,qb,qY.enc,qa1.enc,qF.enc,qa5.enc,qX.enc,qas.enc,qbw.enc,qF.zero,Nd.enc,Nd.cs,Exp.enc,Exp.cs,List.cons_append,List.nil_append,qt,qj,qv,qN,qA,qC,qw,qo]
 | true=>
  have n0:=qh hw hn a0
  obtain ⟨o1,p1,q1⟩:=qsZ hw n0
  rcases o1 with ⟨pos,err⟩ | ⟨v1,m1⟩
  ·obtain ⟨m1,x1,y1⟩:=p1
   refine ⟨.error (pos,err),⟨m1,x1,fun h i hi=>?_⟩,q1⟩
   have hlt:=qd hi
   have hb1:=qr h 1
   have hb2:=qr h 2
   have hb3:=qr h 3
   have hb4:=qr h 4
   rw [PBi] at hi
   rw [qm rfl (show T.get 245 = some qhJ by kernel_rfl)]
   simp only [qhJ,sT.1,sC.1,qf,qe,Nat.testBit,simprocAttr,-Int.reduceNatCast',ql hw hn,a0,y1,hi,hlt,PBi,hb1,hb2,hb3,hb4,qu,qb,qY.enc,qa1.enc,qF.enc,qa5.enc,qX.enc,qas.enc,qbw.enc,qF.zero,Nd.enc,Nd.cs,Exp.enc,Exp.cs,List.cons_append,List.nil_append,qt,qj,qv,qN,qA,qC,qw,qo]
  ·obtain ⟨u1,n1,y1⟩:=p1
   obtain ⟨⟨pn1,pm1⟩,rfl,w1⟩:=q1
   refine ⟨.ok (qbw.enc ⟨0,pn1,pm1,.zero⟩,m1),⟨by omega,n1,fun h i hi=>?_⟩,⟨⟨0,pn1,pm1,.zero⟩,rfl,.inl ⟨rfl,w1.1,w1.2,rfl⟩⟩⟩
   have hlt:=qd hi
   have hb1:=qr h 1
   have hb2:=qr h 2
   have hb3:=qr h 3
   have hb4:=qr h 4
   rw [PBi] at hi
   rw [qm rfl (show T.get 245 = some qhJ by kernel_rfl)]
   simp only [qhJ,sT.1,sC.1,qf,qe,Nat.testBit,simprocAttr,-Int.reduceNatCast',ql hw hn,a0,y1,hi,hlt,PBi,hb1,hb2,hb3,hb4,qu,qb,qY.enc,qa1.enc,qF.enc,qa5.enc,qX.enc,qas.enc,qbw.enc,qF.zero,Nd.enc,Nd.cs,Exp.enc,Exp.cs,List.cons_append,List.nil_append,qt,qj,qv,qN,qA,qC,qw,qo]
theorem qq6 (hw:WF ws) (hx:∀m,m < ws.length→∃o,qai 66 ws m o∧XOK ws o) {n:Nat} (hn:n < ws.length):∃o,qtH ws 246 10 (fun i=>[.fn 137 [.ptr i 0] [],.fn 195 [.ptr i 0] []]) 6 10 qgF n o:=
 qd5 (qi4 (z:=[.str [],.int .i64 0,.int .i64 0,.str [],.str [],.lst [] .full]) (fa:=fun i=>[.ptr i 0]) (fc:=fun _=>[]) (ob:=fun i=>[.ptr i 0]) (oc:=fun _=>[]) (J:=fun _ _=>True) hw rfl (by kernel_rfl) (by decide) rfl (by decide) (by decide) (fun _ _ _ _=>trivial) (fun m i h hm _ hi=>by rw [qmD];exact q9 hw hm hi) (fun m hm _=>qsP (fun v hv=>qrc hv) (qwF hw hx hm)) hn)
theorem qpK (hw:WF ws) {n:Nat} (hn:n < ws.length):∃o,qtH ws 243 5 (fun i=>[.fn 244 [.ptr i 0] [],.fn 245 [.ptr i 0] []]) 7 5 qtl n o:=
 qd5 (qi4 (z:=[.int .i64 0,.str [],.str [],.str [],.str [],.str [],.str []]) (fa:=fun i=>[.ptr i 0]) (fc:=fun _=>[]) (ob:=fun i=>[.ptr i 0]) (oc:=fun _=>[]) (J:=fun _ _=>True) hw rfl (by kernel_rfl) (by decide) rfl (by decide) (by decide) (fun _ _ _ _=>trivial) (fun m i h hm _ hi=>by rw [qmD];exact qqu hw hm hi) (fun m hm _=>qsP (fun v hv=>qzn hv) (qBf hw hm)) hn)
set_option maxHeartbeats 0 in
theorem qlh (hw:WF ws) (hx:∀m,m < ws.length→∃o,qai 66 ws m o∧XOK ws o) {n:Nat} (hn:n < ws.length):∃o,qkJ 198 ws n o∧GOK ws qBl o:=by
 cases a0:isW ws (n) [123] with
 | false=>
  refine ⟨.error ((word ws (n)).pos,6),⟨n,hn,fun h i hi=>?_⟩,⟨⟨n,hn,rfl⟩,by decide⟩⟩
  have hlt:=qd hi
  have hps:=qdc hi
  rw [PBi] at hps
  have hb1:=qr h 1
  have hb2:=qr h 2
  have hb3:=qr h 3
  rw [PBi] at hi
  rw [qm rfl (show T.get 198 = some qtG by kernel_rfl)]
  simp only [qtG,sT.1,sC.1,qf,qe,Nat.testBit,simprocAttr,-Int.reduceNatCast',qah hw hn,a0,hi,hlt,PBi,hb1,hb2,hb3,hps,qu,qb,qY.enc,qa1.enc,qF.enc,qa5.enc,qX.enc,qas.enc,qbw.enc,qF.zero,Nd.enc,Nd.cs,Exp.enc,Exp.cs,List.cons_append,List.nil_append,qt,qj,qv,qN,qA,qC,qw,qo]
 | true=>
  have n0:=qh hw hn a0
  obtain ⟨o1,p1⟩:=qq6 hw hx n0
  rcases o1 with ⟨pos,err⟩ | ⟨v1,m1⟩
  ·obtain ⟨q1,m1,x1,y1⟩:=p1
   refine ⟨.error (pos,err),⟨m1,x1,fun h i hi=>?_⟩,q1⟩
   have hlt:=qd hi
   have hb1:=qr h 1
   have hb2:=qr h 2
   have hb3:=qr h 3
   rw [PBi] at hi
   rw [qm rfl (show T.get 198 = some qtG by kernel_rfl)]
   simp only [qtG,sT.1,sC.1,qf,qe,Nat.testBit,simprocAttr,-Int.reduceNatCast',qi hw hn,a0,y1,hi,hlt,PBi,hb1,hb2,hb3,qu,qb,qY.enc,qa1.enc,qF.enc,qa5.enc,qX.enc,qas.enc,qbw.enc,qF.zero,Nd.enc,Nd.cs,Exp.enc,Exp.cs,List.cons_append,List.nil_append,qt,qj,qv,qN,qA,qC,qw,qo]
  ·obtain ⟨u1,n1,l1,y1⟩:=p1
   have k1:=l1.lower
   cases a2:isW ws (m1) [125] with
   | false=>
    refine ⟨.error ((word ws (m1)).pos,6),⟨m1,n1,fun h i hi=>?_⟩,⟨⟨m1,n1,rfl⟩,by decide⟩⟩
    have hlt:=qd hi
    have hb1:=qr h 1
    have hb2:=qr h 2
    have hb3:=qr h 3
    rw [PBi] at hi
    rw [qm rfl (show T.get 198 = some qtG by kernel_rfl)]
    simp only [qtG,sT.1,sC.1,qf,qe,Nat.testBit,simprocAttr,-Int.reduceNatCast',qi hw hn,a0,y1,k1,qah hw n1,a2,hi,hlt,PBi,hb1,hb2,hb3,qu,qb,qY.enc,qa1.enc,qF.enc,qa5.enc,qX.enc,qas.enc,qbw.enc,qF.zero,Nd.enc,Nd.cs,Exp.enc,Exp.cs,List.cons_append,List.nil_append,qt,qj,qv,qN,qA,qC,qw,qo]
   | true=>
    have n2:=qh hw n1 a2
    refine ⟨.ok (.lst v1 (fl v1.isEmpty),m1 + 1),⟨by omega,n2,fun h i hi=>?_⟩,⟨v1,rfl,l1⟩⟩
    have hlt:=qd hi
    have hb1:=qr h 1
    have hb2:=qr h 2
    have hb3:=qr h 3
    rw [PBi] at hi
    rw [qm rfl (show T.get 198 = some qtG by kernel_rfl)]
    simp only [qtG,sT.1,sC.1,qf,qe,Nat.testBit,simprocAttr,-Int.reduceNatCast',qi hw hn,a0,y1,k1,qi hw n1,a2,hi,hlt,PBi,hb1,hb2,hb3,qu,qb,qY.enc,qa1.enc,qF.enc,qa5.enc,qX.enc,qas.enc,qbw.enc,qF.zero,Nd.enc,Nd.cs,Exp.enc,Exp.cs,List.cons_append,List.nil_append,qt,qj,qv,qN,qA,qC,qw,qo]
set_option maxHeartbeats 0 in
theorem qxw (hw:WF ws) (hx:∀m,m < ws.length→∃o,qai 66 ws m o∧XOK ws o) {n:Nat} (hn:n < ws.length):∃o,qkJ 193 ws n o∧GOK ws qka o:=by
 obtain ⟨o0,p0,q0⟩:=hx (n) hn
 cases o0 with
 | no pos err m0=>
  obtain ⟨x0,y0⟩:=p0
  refine ⟨.error (pos,err),⟨m0,x0,fun h i hi=>?_⟩,q0⟩
  have hlt:=qd hi
  have hb1:=qr h 1
  have hb2:=qr h 2
  have hb3:=qr h 3
  rw [PBi] at hi
  rw [qm rfl (show T.get 193 = some qpa by kernel_rfl)]
  simp only [qpa,sT.1,sC.1,qf,qe,Nat.testBit,simprocAttr,-Int.reduceNatCast',y0,hi,hlt,PBi,hb1,hb2,hb3,qu,qb,qY.enc,qa1.enc,qF.enc,qa5.enc,qX.enc,qas.enc,qbw.enc,qF.zero,Nd.enc,Nd.cs,Exp.enc,Exp.cs,List.cons_append,List.nil_append,qt,qj,qv,qN,qA,qC,qw,qo]
 | ok e0 m0=>
  obtain ⟨u0,n0,d0,y0⟩:=p0
  obtain ⟨op0,k0,nm0,sb0,as0⟩:=e0
  cases a1:isW ws (m0) [123] with
  | false=>
   refine ⟨.error ((word ws (m0)).pos,6),⟨m0,n0,fun h i hi=>?_⟩,⟨⟨m0,n0,rfl⟩,by decide⟩⟩
   have hlt:=qd hi
   have hb1:=qr h 1
   have hb2:=qr h 2
   have hb3:=qr h 3
   rw [PBi] at hi
   rw [qm rfl (show T.get 193 = some qpa by kernel_rfl)]
   simp only [qpa,sT.1,sC.1,qf,qe,Nat.testBit,simprocAttr,-Int.reduceNatCast',y0,qah hw n0,a1,hi,hlt,PBi,hb1,hb2,hb3,qu,qb,qY.enc,qa1.enc,qF.enc,qa5.enc,qX.enc,qas.enc,qbw.enc,qF.zero,Nd.enc,Nd.cs,Exp.enc,Exp.cs,List.cons_append,List.nil_append,qt,qj,qv,qN,qA,qC,qw,qo]
  | true=>
   have n1:=qh hw n0 a1
   obtain ⟨o2,p2⟩:=qpK hw n1
   rcases o2 with ⟨pos,err⟩ | ⟨v2,m2⟩
   ·obtain ⟨q2,m2,x2,y2⟩:=p2
    refine ⟨.error (pos,err),⟨m2,x2,fun h i hi=>?_⟩,q2⟩
    have hlt:=qd hi
    have hb1:=qr h 1
    have hb2:=qr h 2
    have hb3:=qr h 3
    rw [PBi] at hi
    rw [qm rfl (show T.get 193 = some qpa by kernel_rfl)]
    simp only [qpa,sT.1,sC.1,qf,qe,Nat.testBit,simprocAttr,-Int.reduceNatCast',y0,qi hw n0,a1,y2,hi,hlt,PBi,hb1,hb2,hb3,qu,qb,qY.enc,qa1.enc,qF.enc,qa5.enc,qX.enc,qas.enc,qbw.enc,qF.zero,Nd.enc,Nd.cs,Exp.enc,Exp.cs,List.cons_append,List.nil_append,qt,qj,qv,qN,qA,qC,qw,qo]
   ·obtain ⟨u2,n2,l2,y2⟩:=p2
    have k2:=l2.lower
    cases a3:isW ws (m2) [125] with
    | false=>
     refine ⟨.error ((word ws (m2)).pos,6),⟨m2,n2,fun h i hi=>?_⟩,⟨⟨m2,n2,rfl⟩,by decide⟩⟩
     have hlt:=qd hi
     have hb1:=qr h 1
     have hb2:=qr h 2
     have hb3:=qr h 3
     rw [PBi] at hi
     rw [qm rfl (show T.get 193 = some qpa by kernel_rfl)]
     simp only [qpa,sT.1,sC.1,qf,qe,Nat.testBit,simprocAttr,-Int.reduceNatCast',y0,qi hw n0,a1,y2,k2,qah hw n2,a3,hi,hlt,PBi,hb1,hb2,hb3,qu,qb,qY.enc,qa1.enc,qF.enc,qa5.enc,qX.enc,qas.enc,qbw.enc,qF.zero,Nd.enc,Nd.cs,Exp.enc,Exp.cs,List.cons_append,List.nil_append,qt,qj,qv,qN,qA,qC,qw,qo]
    | true=>
     have n3:=qh hw n2 a3
     refine ⟨.ok (.agg (Exp.cs φP (Exp.mk op0 k0 nm0 sb0 as0) ++ [.lst v2 (fl v2.isEmpty)]),m2 + 1),⟨by omega,n3,fun h i hi=>?_⟩,⟨(Exp.mk op0 k0 nm0 sb0 as0),v2,rfl,⟨q0,d0⟩,l2⟩⟩
     have hlt:=qd hi
     have hb1:=qr h 1
     have hb2:=qr h 2
     have hb3:=qr h 3
     rw [PBi] at hi
     rw [qm rfl (show T.get 193 = some qpa by kernel_rfl)]
     simp only [qpa,sT.1,sC.1,qf,qe,Nat.testBit,simprocAttr,-Int.reduceNatCast',y0,qi hw n0,a1,y2,k2,qi hw n2,a3,hi,hlt,PBi,hb1,hb2,hb3,qu,qb,qY.enc,qa1.enc,qF.enc,qa5.enc,qX.enc,qas.enc,qbw.enc,qF.zero,Nd.enc,Nd.cs,Exp.enc,Exp.cs,List.cons_append,List.nil_append,qt,qj,qv,qN,qA,qC,qw,qo]
end
theorem qbR {a b:Nat} (h:b < a):Nat.ble a b = false:=by
 cases e:Nat.ble a b with
 | false=>rfl
 | true=>have:=Nat.le_of_ble_eq_true e;omega
theorem qmz {h:List qx} {r:Nat} {x:qx} (hr:h[r]? = some x):h.set r x = h:=by
 apply List.ext_getElem?
 intro j
 by_cases hj:r = j
 ·subst hj;rw [hr,List.getElem?_set_self (qd hr)]
 ·rw [List.getElem?_set_ne hj]
section
variable {ws:List Tok}
theorem qmJ (hw:WF ws) (hx:∀m,m < ws.length→∃o,qai 66 ws m o∧XOK ws o) {n:Nat} (hn:n < ws.length):∃o,qtH ws 133 8 (fun i=>[.str [105,110],.fn 134 [.ptr i 0] []]) 3 8 qgo n o:=
 qd5 (qd9 (M:=184) (B:=185) (O:=186) (k:=3) (z:=[.str [],.int .i64 0,.lst [] .full]) rfl (by kernel_rfl) rfl (by kernel_rfl) rfl (by kernel_rfl) rfl (by kernel_rfl) hw (by decide) rfl rfl (by decide) (by decide) (fun m hm=>qfe (fun v hv=>qmi hv) (qsA hw hm)) hn)
theorem qki (hw:WF ws) (hx:∀m,m < ws.length→∃o,qai 66 ws m o∧XOK ws o) {n:Nat} (hn:n < ws.length):∃o,qtH ws 133 8 (fun i=>[.str [111,117,116],.fn 134 [.ptr i 0] []]) 3 8 qgo n o:=
 qd5 (qd9 (M:=184) (B:=185) (O:=186) (k:=3) (z:=[.str [],.int .i64 0,.lst [] .full]) rfl (by kernel_rfl) rfl (by kernel_rfl) rfl (by kernel_rfl) rfl (by kernel_rfl) hw (by decide) rfl rfl (by decide) (by decide) (fun m hm=>qfe (fun v hv=>qmi hv) (qsA hw hm)) hn)
theorem qse (hw:WF ws) (hx:∀m,m < ws.length→∃o,qai 66 ws m o∧XOK ws o) {n:Nat} (hn:n < ws.length):∃o,qtH ws 194 10 (fun i=>[.str [118,97,114],.fn 195 [.ptr i 0] []]) 6 10 qgF n o:=
 qd5 (qd9 (M:=246) (B:=247) (O:=248) (k:=6) (z:=[.str [],.int .i64 0,.int .i64 0,.str [],.str [],.lst [] .full]) rfl (by kernel_rfl) rfl (by kernel_rfl) rfl (by kernel_rfl) rfl (by kernel_rfl) hw (by decide) rfl rfl (by decide) (by decide) (fun m hm=>qfe (fun v hv=>qrc hv) (qwF hw hx hm)) hn)
theorem qoM (hw:WF ws) (hx:∀m,m < ws.length→∃o,qai 66 ws m o∧XOK ws o) {n:Nat} (hn:n < ws.length):∃o,qtH ws 196 8 (fun i=>[.str [101,109,105,116],.fn 197 [.ptr i 0] []]) 7 8 qj5 n o:=
 qd5 (qd9 (M:=249) (B:=250) (O:=251) (k:=7) (z:=[.str [],.int .i64 0,.int .i64 0,.str [],.str [],.lst [] .full,.lst [] .full]) rfl (by kernel_rfl) rfl (by kernel_rfl) rfl (by kernel_rfl) rfl (by kernel_rfl) hw (by decide) rfl rfl (by decide) (by decide) (fun m hm=>qfe (fun v hv=>qtR hv) (qxO hw hx hm)) hn)
theorem qol (hw:WF ws) (hx:∀m,m < ws.length→∃o,qai 66 ws m o∧XOK ws o) {n:Nat} (hn:n < ws.length):∃o,qtH ws 188 32 (fun i=>[.str [112,97,114,116],.fn 189 [.ptr i 0] []]) 2 32 qjp n o:=
 qd5 (qd9 (M:=233) (B:=234) (O:=235) (k:=2) (z:=[.str [],.str []]) rfl (by kernel_rfl) rfl (by kernel_rfl) rfl (by kernel_rfl) rfl (by kernel_rfl) hw (by decide) rfl rfl (by decide) (by decide) (fun m hm=>qfe (fun v hv=>que hv) (qsZ hw hm)) hn)
theorem qnM (hw:WF ws) (hx:∀m,m < ws.length→∃o,qai 66 ws m o∧XOK ws o) {n:Nat} (hn:n < ws.length):∃o,qtH ws 190 200 (fun i=>[.str [108,105,110,107],.fn 191 [.ptr i 0] []]) 4 200 qkh n o:=
 qd5 (qd9 (M:=236) (B:=237) (O:=238) (k:=4) (z:=[.str [],.str [],.str [],.str []]) rfl (by kernel_rfl) rfl (by kernel_rfl) rfl (by kernel_rfl) rfl (by kernel_rfl) hw (by decide) rfl rfl (by decide) (by decide) (fun m hm=>qfe (fun v hv=>qux hv) (qlr hw hm)) hn)
theorem qoE (hw:WF ws) (hx:∀m,m < ws.length→∃o,qai 66 ws m o∧XOK ws o) {n:Nat} (hn:n < ws.length):∃o,qtH ws 192 4 (fun i=>[.str [114,117,108,101],.fn 193 [.ptr i 0] []]) 6 4 qka n o:=
 qd5 (qd9 (M:=240) (B:=241) (O:=242) (k:=6) (z:=[.int .i64 0,.int .i64 0,.str [],.str [],.lst [] .full,.lst [] .full]) rfl (by kernel_rfl) rfl (by kernel_rfl) rfl (by kernel_rfl) rfl (by kernel_rfl) hw (by decide) rfl rfl (by decide) (by decide) (fun m hm=>qfe (fun v hv=>qul hv) (qxw hw hx hm)) hn)
def qFR (ws:List Tok) (F:FuncId) (C:List qc) (Q:List qc→Prop) (n:Nat):Except (Int×Int) (List qc×Nat)→Prop
 | .ok (D,n')=>n ≤ n'∧n' < ws.length∧Q D∧∀(h:List qx) (i r:Nat),h[i]? = some (PB ws n)→h[r]? = some (.cells C)→i ≠ r→Wd (.fn F [] []) [.ptr i 0,.ptr r 0] h = some (.ret (.tup []),(h.set i (PB ws n')).set r (.cells D),false)
 | .error (p,e)=>qlm ws p e∧∃n',n' < ws.length∧∀(h:List qx) (i r:Nat),h[i]? = some (PB ws n)→h[r]? = some (.cells C)→i ≠ r→∃X,Wd (.fn F [] []) [.ptr i 0,.ptr r 0] h = some (.pan (qbo p e),(h.set i (PB ws n')).set r X,false)
def lv (vs:List qc):qc:=.lst vs (fl vs.isEmpty)
def qbB (nm:Str) (c:Bool) (ins outs:qc):List qc:=[.str nm,.bool c,ins,outs,.lst [] .full,.lst [] .full,.lst [] .full,.lst [] .full,.lst [] .full,.int .i64 0,.lst [] .full,.lst [] .full,.lst [] .full,.lst [] .full]
def qhs (nm:Str) (c:Bool) (ins outs:qc) (D:List qc):Prop:=∃ps ls rs:List qc,D = [.str nm,.bool c,ins,outs,.lst [] .full,.lst [] .full,.lst [] .full,.lst [] .full,.lst [] .full,.int .i64 0,.lst [] .full,.lst ps (fl ps.isEmpty),.lst ls (fl ls.isEmpty),.lst rs (fl rs.isEmpty)]∧
 qb2 2 32 qjp ps∧qb2 4 200 qkh ls∧qb2 6 4 qka rs
def qiN (nm:Str) (c:Bool) (ins outs:qc) (D:List qc):Prop:=∃(vars:List qc) (ta:Exp) (emits qef exts:List qc) (con:Int) (own:List qc),D = [.str nm,.bool c,ins,outs,.lst vars (fl vars.isEmpty),.lst [.agg (ta.cs φP)] .full,.lst emits (fl emits.isEmpty),.lst qef (fl qef.isEmpty),.lst exts (fl exts.isEmpty),.int .i64 con,.lst own (fl own.isEmpty),.lst [] .full,.lst [] .full,.lst [] .full]∧
 qb2 6 10 qgF vars∧qly ta∧qb2 7 8 qj5 emits∧qb2 6 10 qgF qef∧qb2 6 10 qgF exts∧((con = 2∧qb2 6 10 qgF own)∨((con = 0∨con = 1)∧own = []))
set_option maxHeartbeats 4000000 in
theorem qoQ (hw:WF ws) (hx:∀m,m < ws.length→∃o,qai 66 ws m o∧XOK ws o) {nm:Str} {c:Bool} {ins outs:qc} {n:Nat} (hn:n < ws.length):∃o,qFR ws 135 (qbB nm c ins outs) (qhs nm c ins outs) n o:=by
 obtain ⟨o0,p0⟩:=qol hw hx hn
 rcases o0 with ⟨pos,err⟩ | ⟨v0,m0⟩
 ·obtain ⟨q0,m0,x0,y0⟩:=p0
  refine ⟨.error (pos,err),q0,m0,x0,fun h i r hi hr hne=>?_⟩
  have hlt:=qd hi
  have hlr:=qd hr
  have hbr:Nat.ble h.length r = false:=qbR hlr
  have s1:∀a b,((h.set i a).set r b)[i]? = some a:=fun a b=>by rw [List.getElem?_set_ne (Ne.symm hne),List.getElem?_set_self hlt]
  have s2:∀a b,((h.set i a).set r b)[r]? = some b:=fun a b=>List.getElem?_set_self (by simpa using hlr)
  have s3:∀a,(h.set i a)[r]? = some (.cells (qbB nm c ins outs)):=fun a=>by rw [List.getElem?_set_ne hne];exact hr
  have s4:∀a b c,((h.set i a).set r b).set i c = (h.set i c).set r b:=fun a b c=>by rw [List.set_comm _ _ (Ne.symm hne),List.set_set]
  have s5:∀a b c,((h.set i a).set r b).set r c = (h.set i a).set r c:=fun a b c=>List.set_set ..
  have s6:∀a,h.set i a = (h.set i a).set r (.cells (qbB nm c ins outs)):=fun a=>(qmz (s3 a)).symm
  rw [PBi] at hi
  generalize hW:Wd _ _ h = W
  rw [qm rfl (show T.get 135 = some qtF by kernel_rfl)] at hW
  simp only [qtF,sT.1,sC.1,qf,qe,Nat.testBit,simprocAttr,-Int.reduceNatCast',y0,hi,hr,hlt,hlr,hbr,PBi,qbB,s1,s2,s3,s4,s5,young,qu,qb,qY.enc,qa1.enc,qF.enc,qa5.enc,qX.enc,qas.enc,qbw.enc,qF.zero,Nd.enc,Nd.cs,Exp.enc,Exp.cs,List.cons_append,List.nil_append,qt,qj,qv,qN,qA,qC,qw,qo] at hW
  exact ⟨_,hW.symm.trans (by rw [s6];rfl)⟩
 ·obtain ⟨u0,n0,l0,y0⟩:=p0
  have k0:=l0.lower
  obtain ⟨o1,p1⟩:=qnM hw hx n0
  rcases o1 with ⟨pos,err⟩ | ⟨v1,m1⟩
  ·obtain ⟨q1,m1,x1,y1⟩:=p1
   refine ⟨.error (pos,err),q1,m1,x1,fun h i r hi hr hne=>?_⟩
   have hlt:=qd hi
   have hlr:=qd hr
   have hbr:Nat.ble h.length r = false:=qbR hlr
   have s1:∀a b,((h.set i a).set r b)[i]? = some a:=fun a b=>by rw [List.getElem?_set_ne (Ne.symm hne),List.getElem?_set_self hlt]
   have s2:∀a b,((h.set i a).set r b)[r]? = some b:=fun a b=>List.getElem?_set_self (by simpa using hlr)
   have s3:∀a,(h.set i a)[r]? = some (.cells (qbB nm c ins outs)):=fun a=>by rw [List.getElem?_set_ne hne];exact hr
   have s4:∀a b c,((h.set i a).set r b).set i c = (h.set i c).set r b:=fun a b c=>by rw [List.set_comm _ _ (Ne.symm hne),List.set_set]
   have s5:∀a b c,((h.set i a).set r b).set r c = (h.set i a).set r c:=fun a b c=>List.set_set ..
   rw [PBi] at hi
   generalize hW:Wd _ _ h = W
   rw [qm rfl (show T.get 135 = some qtF by kernel_rfl)] at hW
   simp only [qtF,sT.1,sC.1,qf,qe,Nat.testBit,simprocAttr,-Int.reduceNatCast',y0,k0,y1,hi,hr,hlt,hlr,hbr,PBi,qbB,s1,s2,s3,s4,s5,young,qu,qb,qY.enc,qa1.enc,qF.enc,qa5.enc,qX.enc,qas.enc,qbw.enc,qF.zero,Nd.enc,Nd.cs,Exp.enc,Exp.cs,List.cons_append,List.nil_append,qt,qj,qv,qN,qA,qC,qw,qo] at hW
   exact ⟨_,hW.symm⟩
  ·obtain ⟨u1,n1,l1,y1⟩:=p1
   have k1:=l1.lower
   obtain ⟨o2,p2⟩:=qoE hw hx n1
   rcases o2 with ⟨pos,err⟩ | ⟨v2,m2⟩
   ·obtain ⟨q2,m2,x2,y2⟩:=p2
    refine ⟨.error (pos,err),q2,m2,x2,fun h i r hi hr hne=>?_⟩
    have hlt:=qd hi
    have hlr:=qd hr
    have hbr:Nat.ble h.length r = false:=qbR hlr
    have s1:∀a b,((h.set i a).set r b)[i]? = some a:=fun a b=>by rw [List.getElem?_set_ne (Ne.symm hne),List.getElem?_set_self hlt]
    have s2:∀a b,((h.set i a).set r b)[r]? = some b:=fun a b=>List.getElem?_set_self (by simpa using hlr)
    have s3:∀a,(h.set i a)[r]? = some (.cells (qbB nm c ins outs)):=fun a=>by rw [List.getElem?_set_ne hne];exact hr
    have s4:∀a b c,((h.set i a).set r b).set i c = (h.set i c).set r b:=fun a b c=>by rw [List.set_comm _ _ (Ne.symm hne),List.set_set]
    have s5:∀a b c,((h.set i a).set r b).set r c = (h.set i a).set r c:=fun a b c=>List.set_set ..
    rw [PBi] at hi
    generalize hW:Wd _ _ h = W
    rw [qm rfl (show T.get 135 = some qtF by kernel_rfl)] at hW
    simp only [qtF,sT.1,sC.1,qf,qe,Nat.testBit,simprocAttr,-Int.reduceNatCast',y0,k0,y1,k1,y2,hi,hr,hlt,hlr,hbr,PBi,qbB,s1,s2,s3,s4,s5,young,qu,qb,qY.enc,qa1.enc,qF.enc,qa5.enc,qX.enc,qas.enc,qbw.enc,qF.zero,Nd.enc,Nd.cs,Exp.enc,Exp.cs,List.cons_append,List.nil_append,qt,qj,qv,qN,qA,qC,qw,qo] at hW
    exact ⟨_,hW.symm⟩
   ·obtain ⟨u2,n2,l2,y2⟩:=p2
    have k2:=l2.lower
    refine ⟨.ok (_,m2),by omega,n2,⟨v0,v1,v2,rfl,l0,l1,l2⟩,fun h i r hi hr hne=>?_⟩
    have hlt:=qd hi
    have hlr:=qd hr
    have hbr:Nat.ble h.length r = false:=qbR hlr
    have s1:∀a b,((h.set i a).set r b)[i]? = some a:=fun a b=>by rw [List.getElem?_set_ne (Ne.symm hne),List.getElem?_set_self hlt]
    have s2:∀a b,((h.set i a).set r b)[r]? = some b:=fun a b=>List.getElem?_set_self (by simpa using hlr)
    have s3:∀a,(h.set i a)[r]? = some (.cells (qbB nm c ins outs)):=fun a=>by rw [List.getElem?_set_ne hne];exact hr
    have s4:∀a b c,((h.set i a).set r b).set i c = (h.set i c).set r b:=fun a b c=>by rw [List.set_comm _ _ (Ne.symm hne),List.set_set]
    have s5:∀a b c,((h.set i a).set r b).set r c = (h.set i a).set r c:=fun a b c=>List.set_set ..
    rw [PBi] at hi
    generalize hW:Wd _ _ h = W
    rw [qm rfl (show T.get 135 = some qtF by kernel_rfl)] at hW
    simp only [qtF,sT.1,sC.1,qf,qe,Nat.testBit,simprocAttr,-Int.reduceNatCast',y0,k0,y1,k1,y2,k2,hi,hr,hlt,hlr,hbr,PBi,qbB,s1,s2,s3,s4,s5,young,qu,qb,qY.enc,qa1.enc,qF.enc,qa5.enc,qX.enc,qas.enc,qbw.enc,qF.zero,Nd.enc,Nd.cs,Exp.enc,Exp.cs,List.cons_append,List.nil_append,qt,qj,qv,qN,qA,qC,qw,qo] at hW
    exact hW.symm
set_option maxHeartbeats 4000000 in
theorem qpt (hw:WF ws) (hx:∀m,m < ws.length→∃o,qai 66 ws m o∧XOK ws o) {nm:Str} {c:Bool} {ins outs:qc} {n:Nat} (hn:n < ws.length):∃o,qFR ws 136 (qbB nm c ins outs) (qiN nm c ins outs) n o:=by
 obtain ⟨o0,p0⟩:=qse hw hx hn
 rcases o0 with ⟨pos,err⟩ | ⟨v0,m0⟩
 ·obtain ⟨q0,m0,x0,y0⟩:=p0
  refine ⟨.error (pos,err),q0,m0,x0,fun h i r hi hr hne=>?_⟩
  have hlt:=qd hi
  have hlr:=qd hr
  have hbr:Nat.ble h.length r = false:=qbR hlr
  have s1:∀a b,((h.set i a).set r b)[i]? = some a:=fun a b=>by rw [List.getElem?_set_ne (Ne.symm hne),List.getElem?_set_self hlt]
  have s2:∀a b,((h.set i a).set r b)[r]? = some b:=fun a b=>List.getElem?_set_self (by simpa using hlr)
  have s3:∀a,(h.set i a)[r]? = some (.cells (qbB nm c ins outs)):=fun a=>by rw [List.getElem?_set_ne hne];exact hr
  have s4:∀a b c,((h.set i a).set r b).set i c = (h.set i c).set r b:=fun a b c=>by rw [List.set_comm _ _ (Ne.symm hne),List.set_set]
  have s5:∀a b c,((h.set i a).set r b).set r c = (h.set i a).set r c:=fun a b c=>List.set_set ..
  have s6:∀a,h.set i a = (h.set i a).set r (.cells (qbB nm c ins outs)):=fun a=>(qmz (s3 a)).symm
  rw [PBi] at hi
  generalize hW:Wd _ _ h = W
  rw [qm rfl (show T.get 136 = some qed by kernel_rfl)] at hW
  simp only [qed,sT.1,sC.1,qf,qe,Nat.testBit,simprocAttr,-Int.reduceNatCast',y0,hi,hr,hlt,hlr,hbr,PBi,qbB,s1,s2,s3,s4,s5,young,qu,qb,qY.enc,qa1.enc,qF.enc,qa5.enc,qX.enc,qas.enc,qbw.enc,qF.zero,Nd.enc,Nd.cs,Exp.enc,Exp.cs,List.cons_append,List.nil_append,qt,qj,qv,qN,qA,qC,qw,qo] at hW
  exact ⟨_,hW.symm.trans (by rw [s6];rfl)⟩
 ·obtain ⟨u0,n0,l0,y0⟩:=p0
  have k0:=l0.lower
  cases a1:isW ws (m0) [116,97] with
  | false=>
   refine ⟨.error ((word ws (m0)).pos,6),⟨⟨m0,n0,rfl⟩,by decide⟩,m0,n0,fun h i r hi hr hne=>?_⟩
   have hlt:=qd hi
   have hlr:=qd hr
   have hbr:Nat.ble h.length r = false:=qbR hlr
   have s1:∀a b,((h.set i a).set r b)[i]? = some a:=fun a b=>by rw [List.getElem?_set_ne (Ne.symm hne),List.getElem?_set_self hlt]
   have s2:∀a b,((h.set i a).set r b)[r]? = some b:=fun a b=>List.getElem?_set_self (by simpa using hlr)
   have s3:∀a,(h.set i a)[r]? = some (.cells (qbB nm c ins outs)):=fun a=>by rw [List.getElem?_set_ne hne];exact hr
   have s4:∀a b c,((h.set i a).set r b).set i c = (h.set i c).set r b:=fun a b c=>by rw [List.set_comm _ _ (Ne.symm hne),List.set_set]
   have s5:∀a b c,((h.set i a).set r b).set r c = (h.set i a).set r c:=fun a b c=>List.set_set ..
   rw [PBi] at hi
   generalize hW:Wd _ _ h = W
   rw [qm rfl (show T.get 136 = some qed by kernel_rfl)] at hW
   simp only [qed,sT.1,sC.1,qf,qe,Nat.testBit,simprocAttr,-Int.reduceNatCast',y0,k0,qah hw n0,a1,hi,hr,hlt,hlr,hbr,PBi,qbB,s1,s2,s3,s4,s5,young,qu,qb,qY.enc,qa1.enc,qF.enc,qa5.enc,qX.enc,qas.enc,qbw.enc,qF.zero,Nd.enc,Nd.cs,Exp.enc,Exp.cs,List.cons_append,List.nil_append,qt,qj,qv,qN,qA,qC,qw,qo] at hW
   exact ⟨_,hW.symm⟩
  | true=>
   have n1:=qh hw n0 a1
   obtain ⟨o2,p2,q2⟩:=hx (m0 + 1) n1
   cases o2 with
   | no pos err m2=>
    obtain ⟨x2,y2⟩:=p2
    refine ⟨.error (pos,err),q2,m2,x2,fun h i r hi hr hne=>?_⟩
    have hlt:=qd hi
    have hlr:=qd hr
    have hbr:Nat.ble h.length r = false:=qbR hlr
    have s1:∀a b,((h.set i a).set r b)[i]? = some a:=fun a b=>by rw [List.getElem?_set_ne (Ne.symm hne),List.getElem?_set_self hlt]
    have s2:∀a b,((h.set i a).set r b)[r]? = some b:=fun a b=>List.getElem?_set_self (by simpa using hlr)
    have s3:∀a,(h.set i a)[r]? = some (.cells (qbB nm c ins outs)):=fun a=>by rw [List.getElem?_set_ne hne];exact hr
    have s4:∀a b c,((h.set i a).set r b).set i c = (h.set i c).set r b:=fun a b c=>by rw [List.set_comm _ _ (Ne.symm hne),List.set_set]
    have s5:∀a b c,((h.set i a).set r b).set r c = (h.set i a).set r c:=fun a b c=>List.set_set ..
    rw [PBi] at hi
    generalize hW:Wd _ _ h = W
    rw [qm rfl (show T.get 136 = some qed by kernel_rfl)] at hW
    simp only [qed,sT.1,sC.1,qf,qe,Nat.testBit,simprocAttr,-Int.reduceNatCast',y0,k0,qi hw n0,a1,y2,hi,hr,hlt,hlr,hbr,PBi,qbB,s1,s2,s3,s4,s5,young,qu,qb,qY.enc,qa1.enc,qF.enc,qa5.enc,qX.enc,qas.enc,qbw.enc,qF.zero,Nd.enc,Nd.cs,Exp.enc,Exp.cs,List.cons_append,List.nil_append,qt,qj,qv,qN,qA,qC,qw,qo] at hW
    exact ⟨_,hW.symm⟩
   | ok e2 m2=>
    obtain ⟨u2,n2,d2,y2⟩:=p2
    obtain ⟨op2,k2,nm2,sb2,as2⟩:=e2
    cases a3:isW ws (m2) [59] with
    | false=>
     refine ⟨.error ((word ws (m2)).pos,6),⟨⟨m2,n2,rfl⟩,by decide⟩,m2,n2,fun h i r hi hr hne=>?_⟩
     have hlt:=qd hi
     have hlr:=qd hr
     have hbr:Nat.ble h.length r = false:=qbR hlr
     have s1:∀a b,((h.set i a).set r b)[i]? = some a:=fun a b=>by rw [List.getElem?_set_ne (Ne.symm hne),List.getElem?_set_self hlt]
     have s2:∀a b,((h.set i a).set r b)[r]? = some b:=fun a b=>List.getElem?_set_self (by simpa using hlr)
     have s3:∀a,(h.set i a)[r]? = some (.cells (qbB nm c ins outs)):=fun a=>by rw [List.getElem?_set_ne hne];exact hr
     have s4:∀a b c,((h.set i a).set r b).set i c = (h.set i c).set r b:=fun a b c=>by rw [List.set_comm _ _ (Ne.symm hne),List.set_set]
     have s5:∀a b c,((h.set i a).set r b).set r c = (h.set i a).set r c:=fun a b c=>List.set_set ..
     rw [PBi] at hi
     generalize hW:Wd _ _ h = W
     rw [qm rfl (show T.get 136 = some qed by kernel_rfl)] at hW
     simp only [qed,sT.1,sC.1,qf,qe,Nat.testBit,simprocAttr,-Int.reduceNatCast',y0,k0,qi hw n0,a1,y2,qah hw n2,a3,hi,hr,hlt,hlr,hbr,PBi,qbB,s1,s2,s3,s4,s5,young,qu,qb,qY.enc,qa1.enc,qF.enc,qa5.enc,qX.enc,qas.enc,qbw.enc,qF.zero,Nd.enc,Nd.cs,Exp.enc,Exp.cs,List.cons_append,List.nil_append,qt,qj,qv,qN,qA,qC,qw,qo] at hW
     exact ⟨_,hW.symm⟩
    | true=>
     have n3:=qh hw n2 a3
     obtain ⟨o4,p4⟩:=qoM hw hx n3
     rcases o4 with ⟨pos,err⟩ | ⟨v4,m4⟩
     ·obtain ⟨q4,m4,x4,y4⟩:=p4
      refine ⟨.error (pos,err),q4,m4,x4,fun h i r hi hr hne=>?_⟩
      have hlt:=qd hi
      have hlr:=qd hr
      have hbr:Nat.ble h.length r = false:=qbR hlr
      have s1:∀a b,((h.set i a).set r b)[i]? = some a:=fun a b=>by rw [List.getElem?_set_ne (Ne.symm hne),List.getElem?_set_self hlt]
      have s2:∀a b,((h.set i a).set r b)[r]? = some b:=fun a b=>List.getElem?_set_self (by simpa using hlr)
      have s3:∀a,(h.set i a)[r]? = some (.cells (qbB nm c ins outs)):=fun a=>by rw [List.getElem?_set_ne hne];exact hr
      have s4:∀a b c,((h.set i a).set r b).set i c = (h.set i c).set r b:=fun a b c=>by rw [List.set_comm _ _ (Ne.symm hne),List.set_set]
      have s5:∀a b c,((h.set i a).set r b).set r c = (h.set i a).set r c:=fun a b c=>List.set_set ..
      rw [PBi] at hi
      generalize hW:Wd _ _ h = W
      rw [qm rfl (show T.get 136 = some qed by kernel_rfl)] at hW
      simp only [qed,sT.1,sC.1,qf,qe,Nat.testBit,simprocAttr,-Int.reduceNatCast',y0,k0,qi hw n0,a1,y2,qi hw n2,a3,y4,hi,hr,hlt,hlr,hbr,PBi,qbB,s1,s2,s3,s4,s5,young,qu,qb,qY.enc,qa1.enc,qF.enc,qa5.enc,qX.enc,qas.enc,qbw.enc,qF.zero,Nd.enc,Nd.cs,Exp.enc,Exp.cs,List.cons_append,List.nil_append,qt,qj,qv,qN,qA,qC,qw,qo] at hW
      exact ⟨_,hW.symm⟩
     ·obtain ⟨u4,n4,l4,y4⟩:=p4
      have k4:=l4.lower
      cases a5:isW ws (m4) [105,110,116] with
      | false=>
       refine ⟨.error ((word ws (m4)).pos,6),⟨⟨m4,n4,rfl⟩,by decide⟩,m4,n4,fun h i r hi hr hne=>?_⟩
       have hlt:=qd hi
       have hlr:=qd hr
       have hbr:Nat.ble h.length r = false:=qbR hlr
       have s1:∀a b,((h.set i a).set r b)[i]? = some a:=fun a b=>by rw [List.getElem?_set_ne (Ne.symm hne),List.getElem?_set_self hlt]
       have s2:∀a b,((h.set i a).set r b)[r]? = some b:=fun a b=>List.getElem?_set_self (by simpa using hlr)
       have s3:∀a,(h.set i a)[r]? = some (.cells (qbB nm c ins outs)):=fun a=>by rw [List.getElem?_set_ne hne];exact hr
       have s4:∀a b c,((h.set i a).set r b).set i c = (h.set i c).set r b:=fun a b c=>by rw [List.set_comm _ _ (Ne.symm hne),List.set_set]
       have s5:∀a b c,((h.set i a).set r b).set r c = (h.set i a).set r c:=fun a b c=>List.set_set ..
       rw [PBi] at hi
       generalize hW:Wd _ _ h = W
       rw [qm rfl (show T.get 136 = some qed by kernel_rfl)] at hW
       simp only [qed,sT.1,sC.1,qf,qe,Nat.testBit,simprocAttr,-Int.reduceNatCast',y0,k0,qi hw n0,a1,y2,qi hw n2,a3,y4,k4,qah hw n4,a5,hi,hr,hlt,hlr,hbr,PBi,qbB,s1,s2,s3,s4,s5,young,qu,qb,qY.enc,qa1.enc,qF.enc,qa5.enc,qX.enc,qas.enc,qbw.enc,qF.zero,Nd.enc,Nd.cs,Exp.enc,Exp.cs,List.cons_append,List.nil_append,qt,qj,qv,qN,qA,qC,qw,qo] at hW
       exact ⟨_,hW.symm⟩
      | true=>
       have n5:=qh hw n4 a5
       obtain ⟨o6,p6,q6⟩:=qlh hw hx n5
       rcases o6 with ⟨pos,err⟩ | ⟨v6,m6⟩
       ·obtain ⟨m6,x6,y6⟩:=p6
        refine ⟨.error (pos,err),q6,m6,x6,fun h i r hi hr hne=>?_⟩
        have hlt:=qd hi
        have hlr:=qd hr
        have hbr:Nat.ble h.length r = false:=qbR hlr
        have s1:∀a b,((h.set i a).set r b)[i]? = some a:=fun a b=>by rw [List.getElem?_set_ne (Ne.symm hne),List.getElem?_set_self hlt]
        have s2:∀a b,((h.set i a).set r b)[r]? = some b:=fun a b=>List.getElem?_set_self (by simpa using hlr)
        have s3:∀a,(h.set i a)[r]? = some (.cells (qbB nm c ins outs)):=fun a=>by rw [List.getElem?_set_ne hne];exact hr
        have s4:∀a b c,((h.set i a).set r b).set i c = (h.set i c).set r b:=fun a b c=>by rw [List.set_comm _ _ (Ne.symm hne),List.set_set]
        have s5:∀a b c,((h.set i a).set r b).set r c = (h.set i a).set r c:=fun a b c=>List.set_set ..
        rw [PBi] at hi
        generalize hW:Wd _ _ h = W
        rw [qm rfl (show T.get 136 = some qed by kernel_rfl)] at hW
        simp only [qed,sT.1,sC.1,qf,qe,Nat.testBit,simprocAttr,-Int.reduceNatCast',y0,k0,qi hw n0,a1,y2,qi hw n2,a3,y4,k4,qi hw n4,a5,y6,hi,hr,hlt,hlr,hbr,PBi,qbB,s1,s2,s3,s4,s5,young,qu,qb,qY.enc,qa1.enc,qF.enc,qa5.enc,qX.enc,qas.enc,qbw.enc,qF.zero,Nd.enc,Nd.cs,Exp.enc,Exp.cs,List.cons_append,List.nil_append,qt,qj,qv,qN,qA,qC,qw,qo] at hW
        exact ⟨_,hW.symm⟩
       ·obtain ⟨u6,n6,y6⟩:=p6
        obtain ⟨v6,rfl,l6⟩:=q6
        have k6:=l6.lower
        cases a7:isW ws (m6) [101,120,116] with
        | false=>
         refine ⟨.error ((word ws (m6)).pos,6),⟨⟨m6,n6,rfl⟩,by decide⟩,m6,n6,fun h i r hi hr hne=>?_⟩
         have hlt:=qd hi
         have hlr:=qd hr
         have hbr:Nat.ble h.length r = false:=qbR hlr
         have s1:∀a b,((h.set i a).set r b)[i]? = some a:=fun a b=>by rw [List.getElem?_set_ne (Ne.symm hne),List.getElem?_set_self hlt]
         have s2:∀a b,((h.set i a).set r b)[r]? = some b:=fun a b=>List.getElem?_set_self (by simpa using hlr)
         have s3:∀a,(h.set i a)[r]? = some (.cells (qbB nm c ins outs)):=fun a=>by rw [List.getElem?_set_ne hne];exact hr
         have s4:∀a b c,((h.set i a).set r b).set i c = (h.set i c).set r b:=fun a b c=>by rw [List.set_comm _ _ (Ne.symm hne),List.set_set]
         have s5:∀a b c,((h.set i a).set r b).set r c = (h.set i a).set r c:=fun a b c=>List.set_set ..
         rw [PBi] at hi
         generalize hW:Wd _ _ h = W
         rw [qm rfl (show T.get 136 = some qed by kernel_rfl)] at hW
         simp only [qed,sT.1,sC.1,qf,qe,Nat.testBit,simprocAttr,-Int.reduceNatCast',y0,k0,qi hw n0,a1,y2,qi hw n2,a3,y4,k4,qi hw n4,a5,y6,k6,qah hw n6,a7,hi,hr,hlt,hlr,hbr,PBi,qbB,s1,s2,s3,s4,s5,young,qu,qb,qY.enc,qa1.enc,qF.enc,qa5.enc,qX.enc,qas.enc,qbw.enc,qF.zero,Nd.enc,Nd.cs,Exp.enc,Exp.cs,List.cons_append,List.nil_append,qt,qj,qv,qN,qA,qC,qw,qo] at hW
         exact ⟨_,hW.symm⟩
        | true=>
         have n7:=qh hw n6 a7
         obtain ⟨o8,p8,q8⟩:=qlh hw hx n7
         rcases o8 with ⟨pos,err⟩ | ⟨v8,m8⟩
         ·obtain ⟨m8,x8,y8⟩:=p8
          refine ⟨.error (pos,err),q8,m8,x8,fun h i r hi hr hne=>?_⟩
          have hlt:=qd hi
          have hlr:=qd hr
          have hbr:Nat.ble h.length r = false:=qbR hlr
          have s1:∀a b,((h.set i a).set r b)[i]? = some a:=fun a b=>by rw [List.getElem?_set_ne (Ne.symm hne),List.getElem?_set_self hlt]
          have s2:∀a b,((h.set i a).set r b)[r]? = some b:=fun a b=>List.getElem?_set_self (by simpa using hlr)
          have s3:∀a,(h.set i a)[r]? = some (.cells (qbB nm c ins outs)):=fun a=>by rw [List.getElem?_set_ne hne];exact hr
          have s4:∀a b c,((h.set i a).set r b).set i c = (h.set i c).set r b:=fun a b c=>by rw [List.set_comm _ _ (Ne.symm hne),List.set_set]
          have s5:∀a b c,((h.set i a).set r b).set r c = (h.set i a).set r c:=fun a b c=>List.set_set ..
          rw [PBi] at hi
          generalize hW:Wd _ _ h = W
          rw [qm rfl (show T.get 136 = some qed by kernel_rfl)] at hW
          simp only [qed,sT.1,sC.1,qf,qe,Nat.testBit,simprocAttr,-Int.reduceNatCast',y0,k0,qi hw n0,a1,y2,qi hw n2,a3,y4,k4,qi hw n4,a5,y6,k6,qi hw n6,a7,y8,hi,hr,hlt,hlr,hbr,PBi,qbB,s1,s2,s3,s4,s5,young,qu,qb,qY.enc,qa1.enc,qF.enc,qa5.enc,qX.enc,qas.enc,qbw.enc,qF.zero,Nd.enc,Nd.cs,Exp.enc,Exp.cs,List.cons_append,List.nil_append,qt,qj,qv,qN,qA,qC,qw,qo] at hW
          exact ⟨_,hW.symm⟩
         ·obtain ⟨u8,n8,y8⟩:=p8
          obtain ⟨v8,rfl,l8⟩:=q8
          have k8:=l8.lower
          cases a9:isW ws (m8) [99,111,110] with
          | false=>
           refine ⟨.ok (_,m8),by omega,n8,⟨v0,(Exp.mk op2 k2 nm2 sb2 as2),v4,v6,v8,0,[],rfl,l0,⟨q2,d2⟩,l4,l6,l8,.inr ⟨.inl rfl,rfl⟩⟩,fun h i r hi hr hne=>?_⟩
           have hlt:=qd hi
           have hlr:=qd hr
           have hbr:Nat.ble h.length r = false:=qbR hlr
           have s1:∀a b,((h.set i a).set r b)[i]? = some a:=fun a b=>by rw [List.getElem?_set_ne (Ne.symm hne),List.getElem?_set_self hlt]
           have s2:∀a b,((h.set i a).set r b)[r]? = some b:=fun a b=>List.getElem?_set_self (by simpa using hlr)
           have s3:∀a,(h.set i a)[r]? = some (.cells (qbB nm c ins outs)):=fun a=>by rw [List.getElem?_set_ne hne];exact hr
           have s4:∀a b c,((h.set i a).set r b).set i c = (h.set i c).set r b:=fun a b c=>by rw [List.set_comm _ _ (Ne.symm hne),List.set_set]
           have s5:∀a b c,((h.set i a).set r b).set r c = (h.set i a).set r c:=fun a b c=>List.set_set ..
           rw [PBi] at hi
           generalize hW:Wd _ _ h = W
           rw [qm rfl (show T.get 136 = some qed by kernel_rfl)] at hW
           simp only [qed,sT.1,sC.1,qf,qe,Nat.testBit,simprocAttr,-Int.reduceNatCast',y0,k0,qi hw n0,a1,y2,qi hw n2,a3,y4,k4,qi hw n4,a5,y6,k6,qi hw n6,a7,y8,k8,qq hw n8,a9,hi,hr,hlt,hlr,hbr,PBi,qbB,s1,s2,s3,s4,s5,young,qu,qb,qY.enc,qa1.enc,qF.enc,qa5.enc,qX.enc,qas.enc,qbw.enc,qF.zero,Nd.enc,Nd.cs,Exp.enc,Exp.cs,List.cons_append,List.nil_append,qt,qj,qv,qN,qA,qC,qw,qo] at hW
           exact hW.symm
          | true=>
           have n9:=qh hw n8 a9
           cases a10:isW ws (m8 + 1) [105,110,116] with
           | false=>
            cases a11:isW ws (m8 + 1) [101,120,116] with
            | false=>
             obtain ⟨o12,p12,q12⟩:=qlh hw hx n9
             rcases o12 with ⟨pos,err⟩ | ⟨v12,m12⟩
             ·obtain ⟨m12,x12,y12⟩:=p12
              refine ⟨.error (pos,err),q12,m12,x12,fun h i r hi hr hne=>?_⟩
              have hlt:=qd hi
              have hlr:=qd hr
              have hbr:Nat.ble h.length r = false:=qbR hlr
              have s1:∀a b,((h.set i a).set r b)[i]? = some a:=fun a b=>by rw [List.getElem?_set_ne (Ne.symm hne),List.getElem?_set_self hlt]
              have s2:∀a b,((h.set i a).set r b)[r]? = some b:=fun a b=>List.getElem?_set_self (by simpa using hlr)
              have s3:∀a,(h.set i a)[r]? = some (.cells (qbB nm c ins outs)):=fun a=>by rw [List.getElem?_set_ne hne];exact hr
              have s4:∀a b c,((h.set i a).set r b).set i c = (h.set i c).set r b:=fun a b c=>by rw [List.set_comm _ _ (Ne.symm hne),List.set_set]
              have s5:∀a b c,((h.set i a).set r b).set r c = (h.set i a).set r c:=fun a b c=>List.set_set ..
              rw [PBi] at hi
              generalize hW:Wd _ _ h = W
              rw [qm rfl (show T.get 136 = some qed by kernel_rfl)] at hW
              simp only [qed,sT.1,sC.1,qf,qe,Nat.testBit,simprocAttr,-Int.reduceNatCast',y0,k0,qi hw n0,a1,y2,qi hw n2,a3,y4,k4,qi hw n4,a5,y6,k6,qi hw n6,a7,y8,k8,ql hw n8,a9,qq hw n9,a10,qq hw n9,a11,y12,hi,hr,hlt,hlr,hbr,PBi,qbB,s1,s2,s3,s4,s5,young,qu,qb,qY.enc,qa1.enc,qF.enc,qa5.enc,qX.enc,qas.enc,qbw.enc,qF.zero,Nd.enc,Nd.cs,Exp.enc,Exp.cs,List.cons_append,List.nil_append,qt,qj,qv,qN,qA,qC,qw,qo] at hW
              exact ⟨_,hW.symm⟩
             ·obtain ⟨u12,n12,y12⟩:=p12
              obtain ⟨v12,rfl,l12⟩:=q12
              have k12:=l12.lower
              refine ⟨.ok (_,m12),by omega,n12,⟨v0,(Exp.mk op2 k2 nm2 sb2 as2),v4,v6,v8,2,v12,rfl,l0,⟨q2,d2⟩,l4,l6,l8,.inl ⟨rfl,l12⟩⟩,fun h i r hi hr hne=>?_⟩
              have hlt:=qd hi
              have hlr:=qd hr
              have hbr:Nat.ble h.length r = false:=qbR hlr
              have s1:∀a b,((h.set i a).set r b)[i]? = some a:=fun a b=>by rw [List.getElem?_set_ne (Ne.symm hne),List.getElem?_set_self hlt]
              have s2:∀a b,((h.set i a).set r b)[r]? = some b:=fun a b=>List.getElem?_set_self (by simpa using hlr)
              have s3:∀a,(h.set i a)[r]? = some (.cells (qbB nm c ins outs)):=fun a=>by rw [List.getElem?_set_ne hne];exact hr
              have s4:∀a b c,((h.set i a).set r b).set i c = (h.set i c).set r b:=fun a b c=>by rw [List.set_comm _ _ (Ne.symm hne),List.set_set]
              have s5:∀a b c,((h.set i a).set r b).set r c = (h.set i a).set r c:=fun a b c=>List.set_set ..
              rw [PBi] at hi
              generalize hW:Wd _ _ h = W
              rw [qm rfl (show T.get 136 = some qed by kernel_rfl)] at hW
              simp only [qed,sT.1,sC.1,qf,qe,Nat.testBit,simprocAttr,-Int.reduceNatCast',y0,k0,qi hw n0,a1,y2,qi hw n2,a3,y4,k4,qi hw n4,a5,y6,k6,qi hw n6,a7,y8,k8,ql hw n8,a9,qq hw n9,a10,qq hw n9,a11,y12,k12,hi,hr,hlt,hlr,hbr,PBi,qbB,s1,s2,s3,s4,s5,young,qu,qb,qY.enc,qa1.enc,qF.enc,qa5.enc,qX.enc,qas.enc,qbw.enc,qF.zero,Nd.enc,Nd.cs,Exp.enc,Exp.cs,List.cons_append,List.nil_append,qt,qj,qv,qN,qA,qC,qw,qo] at hW
              exact hW.symm
            | true=>
             have n11:=qh hw n9 a11
             cases a12:isW ws (m8 + 1 + 1) [105,110,116] with
             | false=>
              refine ⟨.error ((word ws (m8 + 1 + 1)).pos,6),⟨⟨m8 + 1 + 1,n11,rfl⟩,by decide⟩,m8 + 1 + 1,n11,fun h i r hi hr hne=>?_⟩
              have hlt:=qd hi
              have hlr:=qd hr
              have hbr:Nat.ble h.length r = false:=qbR hlr
              have s1:∀a b,((h.set i a).set r b)[i]? = some a:=fun a b=>by rw [List.getElem?_set_ne (Ne.symm hne),List.getElem?_set_self hlt]
              have s2:∀a b,((h.set i a).set r b)[r]? = some b:=fun a b=>List.getElem?_set_self (by simpa using hlr)
              have s3:∀a,(h.set i a)[r]? = some (.cells (qbB nm c ins outs)):=fun a=>by rw [List.getElem?_set_ne hne];exact hr
              have s4:∀a b c,((h.set i a).set r b).set i c = (h.set i c).set r b:=fun a b c=>by rw [List.set_comm _ _ (Ne.symm hne),List.set_set]
              have s5:∀a b c,((h.set i a).set r b).set r c = (h.set i a).set r c:=fun a b c=>List.set_set ..
              rw [PBi] at hi
              generalize hW:Wd _ _ h = W
              rw [qm rfl (show T.get 136 = some qed by kernel_rfl)] at hW
              simp only [qed,sT.1,sC.1,qf,qe,Nat.testBit,simprocAttr,-Int.reduceNatCast',y0,k0,qi hw n0,a1,y2,qi hw n2,a3,y4,k4,qi hw n4,a5,y6,k6,qi hw n6,a7,y8,k8,ql hw n8,a9,qq hw n9,a10,ql hw n9,a11,qah hw n11,a12,hi,hr,hlt,hlr,hbr,PBi,qbB,s1,s2,s3,s4,s5,young,qu,qb,qY.enc,qa1.enc,qF.enc,qa5.enc,qX.enc,qas.enc,qbw.enc,qF.zero,Nd.enc,Nd.cs,Exp.enc,Exp.cs,List.cons_append,List.nil_append,qt,qj,qv,qN,qA,qC,qw,qo] at hW
              exact ⟨_,hW.symm⟩
             | true=>
              have n12:=qh hw n11 a12
              cases a13:isW ws (m8 + 1 + 1 + 1) [59] with
              | false=>
               refine ⟨.error ((word ws (m8 + 1 + 1 + 1)).pos,6),⟨⟨m8 + 1 + 1 + 1,n12,rfl⟩,by decide⟩,m8 + 1 + 1 + 1,n12,fun h i r hi hr hne=>?_⟩
               have hlt:=qd hi
               have hlr:=qd hr
               have hbr:Nat.ble h.length r = false:=qbR hlr
               have s1:∀a b,((h.set i a).set r b)[i]? = some a:=fun a b=>by rw [List.getElem?_set_ne (Ne.symm hne),List.getElem?_set_self hlt]
               have s2:∀a b,((h.set i a).set r b)[r]? = some b:=fun a b=>List.getElem?_set_self (by simpa using hlr)
               have s3:∀a,(h.set i a)[r]? = some (.cells (qbB nm c ins outs)):=fun a=>by rw [List.getElem?_set_ne hne];exact hr
               have s4:∀a b c,((h.set i a).set r b).set i c = (h.set i c).set r b:=fun a b c=>by rw [List.set_comm _ _ (Ne.symm hne),List.set_set]
               have s5:∀a b c,((h.set i a).set r b).set r c = (h.set i a).set r c:=fun a b c=>List.set_set ..
               rw [PBi] at hi
               generalize hW:Wd _ _ h = W
               rw [qm rfl (show T.get 136 = some qed by kernel_rfl)] at hW
               simp only [qed,sT.1,sC.1,qf,qe,Nat.testBit,simprocAttr,-Int.reduceNatCast',y0,k0,qi hw n0,a1,y2,qi hw n2,a3,y4,k4,qi hw n4,a5,y6,k6,qi hw n6,a7,y8,k8,ql hw n8,a9,qq hw n9,a10,ql hw n9,a11,qi hw n11,a12,qah hw n12,a13,hi,hr,hlt,hlr,hbr,PBi,qbB,s1,s2,s3,s4,s5,young,qu,qb,qY.enc,qa1.enc,qF.enc,qa5.enc,qX.enc,qas.enc,qbw.enc,qF.zero,Nd.enc,Nd.cs,Exp.enc,Exp.cs,List.cons_append,List.nil_append,qt,qj,qv,qN,qA,qC,qw,qo] at hW
               exact ⟨_,hW.symm⟩
              | true=>
               have n13:=qh hw n12 a13
               refine ⟨.ok (_,m8 + 1 + 1 + 1 + 1),by omega,n13,⟨v0,(Exp.mk op2 k2 nm2 sb2 as2),v4,v6,v8,1,[],rfl,l0,⟨q2,d2⟩,l4,l6,l8,.inr ⟨.inr rfl,rfl⟩⟩,fun h i r hi hr hne=>?_⟩
               have hlt:=qd hi
               have hlr:=qd hr
               have hbr:Nat.ble h.length r = false:=qbR hlr
               have s1:∀a b,((h.set i a).set r b)[i]? = some a:=fun a b=>by rw [List.getElem?_set_ne (Ne.symm hne),List.getElem?_set_self hlt]
               have s2:∀a b,((h.set i a).set r b)[r]? = some b:=fun a b=>List.getElem?_set_self (by simpa using hlr)
               have s3:∀a,(h.set i a)[r]? = some (.cells (qbB nm c ins outs)):=fun a=>by rw [List.getElem?_set_ne hne];exact hr
               have s4:∀a b c,((h.set i a).set r b).set i c = (h.set i c).set r b:=fun a b c=>by rw [List.set_comm _ _ (Ne.symm hne),List.set_set]
               have s5:∀a b c,((h.set i a).set r b).set r c = (h.set i a).set r c:=fun a b c=>List.set_set ..
               rw [PBi] at hi
               generalize hW:Wd _ _ h = W
               rw [qm rfl (show T.get 136 = some qed by kernel_rfl)] at hW
               simp only [qed,sT.1,sC.1,qf,qe,Nat.testBit,simprocAttr,-Int.reduceNatCast',y0,k0,qi hw n0,a1,y2,qi hw n2,a3,y4,k4,qi hw n4,a5,y6,k6,qi hw n6,a7,y8,k8,ql hw n8,a9,qq hw n9,a10,ql hw n9,a11,qi hw n11,a12,qi hw n12,a13,hi,hr,hlt,hlr,hbr,PBi,qbB,s1,s2,s3,s4,s5,young,qu,qb,qY.enc,qa1.enc,qF.enc,qa5.enc,qX.enc,qas.enc,qbw.enc,qF.zero,Nd.enc,Nd.cs,Exp.enc,Exp.cs,List.cons_append,List.nil_append,qt,qj,qv,qN,qA,qC,qw,qo] at hW
               exact hW.symm
           | true=>
            have n10:=qh hw n9 a10
            cases a11:isW ws (m8 + 1 + 1) [101,120,116] with
            | false=>
             refine ⟨.error ((word ws (m8 + 1 + 1)).pos,6),⟨⟨m8 + 1 + 1,n10,rfl⟩,by decide⟩,m8 + 1 + 1,n10,fun h i r hi hr hne=>?_⟩
             have hlt:=qd hi
             have hlr:=qd hr
             have hbr:Nat.ble h.length r = false:=qbR hlr
             have s1:∀a b,((h.set i a).set r b)[i]? = some a:=fun a b=>by rw [List.getElem?_set_ne (Ne.symm hne),List.getElem?_set_self hlt]
             have s2:∀a b,((h.set i a).set r b)[r]? = some b:=fun a b=>List.getElem?_set_self (by simpa using hlr)
             have s3:∀a,(h.set i a)[r]? = some (.cells (qbB nm c ins outs)):=fun a=>by rw [List.getElem?_set_ne hne];exact hr
             have s4:∀a b c,((h.set i a).set r b).set i c = (h.set i c).set r b:=fun a b c=>by rw [List.set_comm _ _ (Ne.symm hne),List.set_set]
             have s5:∀a b c,((h.set i a).set r b).set r c = (h.set i a).set r c:=fun a b c=>List.set_set ..
             rw [PBi] at hi
             generalize hW:Wd _ _ h = W
             rw [qm rfl (show T.get 136 = some qed by kernel_rfl)] at hW
             simp only [qed,sT.1,sC.1,qf,qe,Nat.testBit,simprocAttr,-Int.reduceNatCast',y0,k0,qi hw n0,a1,y2,qi hw n2,a3,y4,k4,qi hw n4,a5,y6,k6,qi hw n6,a7,y8,k8,ql hw n8,a9,ql hw n9,a10,qah hw n10,a11,hi,hr,hlt,hlr,hbr,PBi,qbB,s1,s2,s3,s4,s5,young,qu,qb,qY.enc,qa1.enc,qF.enc,qa5.enc,qX.enc,qas.enc,qbw.enc,qF.zero,Nd.enc,Nd.cs,Exp.enc,Exp.cs,List.cons_append,List.nil_append,qt,qj,qv,qN,qA,qC,qw,qo] at hW
             exact ⟨_,hW.symm⟩
            | true=>
             have n11:=qh hw n10 a11
             cases a12:isW ws (m8 + 1 + 1 + 1) [59] with
             | false=>
              refine ⟨.error ((word ws (m8 + 1 + 1 + 1)).pos,6),⟨⟨m8 + 1 + 1 + 1,n11,rfl⟩,by decide⟩,m8 + 1 + 1 + 1,n11,fun h i r hi hr hne=>?_⟩
              have hlt:=qd hi
              have hlr:=qd hr
              have hbr:Nat.ble h.length r = false:=qbR hlr
              have s1:∀a b,((h.set i a).set r b)[i]? = some a:=fun a b=>by rw [List.getElem?_set_ne (Ne.symm hne),List.getElem?_set_self hlt]
              have s2:∀a b,((h.set i a).set r b)[r]? = some b:=fun a b=>List.getElem?_set_self (by simpa using hlr)
              have s3:∀a,(h.set i a)[r]? = some (.cells (qbB nm c ins outs)):=fun a=>by rw [List.getElem?_set_ne hne];exact hr
              have s4:∀a b c,((h.set i a).set r b).set i c = (h.set i c).set r b:=fun a b c=>by rw [List.set_comm _ _ (Ne.symm hne),List.set_set]
              have s5:∀a b c,((h.set i a).set r b).set r c = (h.set i a).set r c:=fun a b c=>List.set_set ..
              rw [PBi] at hi
              generalize hW:Wd _ _ h = W
              rw [qm rfl (show T.get 136 = some qed by kernel_rfl)] at hW
              simp only [qed,sT.1,sC.1,qf,qe,Nat.testBit,simprocAttr,-Int.reduceNatCast',y0,k0,qi hw n0,a1,y2,qi hw n2,a3,y4,k4,qi hw n4,a5,y6,k6,qi hw n6,a7,y8,k8,ql hw n8,a9,ql hw n9,a10,qi hw n10,a11,qah hw n11,a12,hi,hr,hlt,hlr,hbr,PBi,qbB,s1,s2,s3,s4,s5,young,qu,qb,qY.enc,qa1.enc,qF.enc,qa5.enc,qX.enc,qas.enc,qbw.enc,qF.zero,Nd.enc,Nd.cs,Exp.enc,Exp.cs,List.cons_append,List.nil_append,qt,qj,qv,qN,qA,qC,qw,qo] at hW
              exact ⟨_,hW.symm⟩
             | true=>
              have n12:=qh hw n11 a12
              refine ⟨.ok (_,m8 + 1 + 1 + 1 + 1),by omega,n12,⟨v0,(Exp.mk op2 k2 nm2 sb2 as2),v4,v6,v8,0,[],rfl,l0,⟨q2,d2⟩,l4,l6,l8,.inr ⟨.inl rfl,rfl⟩⟩,fun h i r hi hr hne=>?_⟩
              have hlt:=qd hi
              have hlr:=qd hr
              have hbr:Nat.ble h.length r = false:=qbR hlr
              have s1:∀a b,((h.set i a).set r b)[i]? = some a:=fun a b=>by rw [List.getElem?_set_ne (Ne.symm hne),List.getElem?_set_self hlt]
              have s2:∀a b,((h.set i a).set r b)[r]? = some b:=fun a b=>List.getElem?_set_self (by simpa using hlr)
              have s3:∀a,(h.set i a)[r]? = some (.cells (qbB nm c ins outs)):=fun a=>by rw [List.getElem?_set_ne hne];exact hr
              have s4:∀a b c,((h.set i a).set r b).set i c = (h.set i c).set r b:=fun a b c=>by rw [List.set_comm _ _ (Ne.symm hne),List.set_set]
              have s5:∀a b c,((h.set i a).set r b).set r c = (h.set i a).set r c:=fun a b c=>List.set_set ..
              rw [PBi] at hi
              generalize hW:Wd _ _ h = W
              rw [qm rfl (show T.get 136 = some qed by kernel_rfl)] at hW
              simp only [qed,sT.1,sC.1,qf,qe,Nat.testBit,simprocAttr,-Int.reduceNatCast',y0,k0,qi hw n0,a1,y2,qi hw n2,a3,y4,k4,qi hw n4,a5,y6,k6,qi hw n6,a7,y8,k8,ql hw n8,a9,ql hw n9,a10,qi hw n10,a11,qi hw n11,a12,hi,hr,hlt,hlr,hbr,PBi,qbB,s1,s2,s3,s4,s5,young,qu,qb,qY.enc,qa1.enc,qF.enc,qa5.enc,qX.enc,qas.enc,qbw.enc,qF.zero,Nd.enc,Nd.cs,Exp.enc,Exp.cs,List.cons_append,List.nil_append,qt,qj,qv,qN,qA,qC,qw,qo] at hW
              exact hW.symm
end
end Go.Proofs.YtlognicjhmcgjaaGreatDoor.AE
