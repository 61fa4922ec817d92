/- A part of the proof: the abstract executor and what goes through it (part 13). No condition. -/
import Derived.Test.YtkmlapholimbcaaGreatDoorMp12
set_option maxRecDepth 100000
namespace Go.Proofs.YtkmlapholimbcaaGreatDoor.AE
open Go.AE
theorem qd0 {α:Type} {l:List α} {g:α→Str} {i:Nat} (hi:i < l.length) (s:Str):s ++ ((l.take (i + 1)).map g).flatten = (s ++ ((l.take i).map g).flatten) ++ g l[i]:=by
 rw [List.take_succ_eq_append_getElem hi,List.map_append,List.flatten_append,List.map_cons,List.map_nil,List.flatten_cons,List.flatten_nil,List.append_nil,List.append_assoc]
theorem qhA {α:Type} (l:List α) (g:α→Str) (i:Nat):((l.take i).map g).flatten.length ≤ (l.map g).flatten.length:=by
 have:=congrArg (fun l=>(l.map g).flatten.length) (List.take_append_drop i l)
 simp only [List.map_append,List.flatten_append,List.length_append] at this
 omega
theorem ixe (o p:Int) (q r:Str) (s:qf) (f:qf9):qa3 5 (.lst [.agg [.int .i64 o,.int .i64 p,.str q,.str r,s]] f) (.int .i64 0) = some (.iptr [.int .i64 o,.int .i64 p,.str q,.str r,s] 0):=by
 have:=qu (k:=5) (xs:=[.agg [.int .i64 o,.int .i64 p,.str q,.str r,s]]) (f:=f) (j:=.i64) (n:=0) rfl rfl
 exact this
section
variable {nm:Str} {cp:Bool} {ins outs:List qJ} {vars int ext own:List qM} {ta:List qf} {emits:List qam} {con:Int} {parts:List qaw} {links:List qZ} {rules:List qab} {G:List qq} {P b:Nat} {s0:Str}
set_option maxHeartbeats 8000000 in
theorem qwV (hbx:G[P]? = some (.cells [.str nm,.bool cp,.lst (ins.map qJ.enc) .no,.lst (outs.map qJ.enc) .no,.lst (vars.map qM.enc) .no,.lst ta .no,.lst (emits.map qam.enc) .no,.lst (int.map qM.enc) .no,.lst (ext.map qM.enc) .no,.int .i64 con,.lst (own.map qM.enc) .no,.lst (parts.map qaw.enc) .no,.lst (links.map qZ.enc) .no,.lst (rules.map qab.enc) .no])) (hl:vars.length ≤ 1000) (hp:∀x ∈ vars,qeK x) {g:qM→Str} (hg0:∀x,g x = [32,32,118,97,114,32] ++ (x.txt ++ [10])) (hb:s0.length + (vars.map g).flatten.length ≤ 60000000):∀q st,(∃tt i,st = ⟨tt,G,false⟩∧tt.length = 269∧lkp tt 1 = .ptr P 0∧lkp tt 3 = .str (s0 ++ ((vars.take i).map g).flatten)∧lkp tt 4 = .int .i64 (i:Nat)∧i + q = vars.length)→
  ∃x st',qx b Wd (.loop qly) st = some (x,st')∧(∃tt,st' = ⟨tt,G,false⟩∧tt.length = 269∧lkp tt 1 = .ptr P 0∧lkp tt 3 = .str (s0 ++ (vars.map g).flatten)∧x = .exit 0):=by
 refine qD _ (fun x st'=>∃tt,st' = ⟨tt,G,false⟩∧tt.length = 269∧lkp tt 1 = .ptr P 0∧lkp tt 3 = .str (s0 ++ (vars.map g).flatten)∧x = .exit 0) ?_
 rintro q st ⟨tt,i,rfl,ht,e1,e3,e6,hiq⟩
 generalize he:qx b Wd qly _ = r
 rcases Nat.lt_or_ge i vars.length with hi | hi
 ·have c1:ilt (i:Int) (vars.length:Int) = true:=qcK (by omega)
  have w:=qE (n:=i) (by omega)
  have hm:=hp _ (List.getElem_mem hi)
  have hg:(vars.map qM.enc)[i]? = some (qM.enc vars[i]):=by rw [List.getElem?_map,List.getElem?_eq_getElem hi];rfl
  have hS:=qd0 (g:=g) hi s0
  have hW:∀k,60000000 ≤ k→(s0 ++ ((vars.take i).map g).flatten).length ≤ k:=fun k hk=>by have:=qhA vars g i;rw [List.length_append];omega
  rw [hg0] at hS
  generalize s0 ++ ((vars.take i).map g).flatten = W at *
  generalize vars[i] = y at hg hS hm
  have hT:=fun G=>qeO hm.2 G
  have h2:=qbn hm.2
  have h1:=hm.1
  rw [qM.txt] at hS
  clear hm
  obtain ⟨vn,e⟩:=y
  simp only at hT h2 hS h1
  generalize eT e = u at *
  obtain ⟨op,n,m2,sb,aS⟩:=e
  rw [ql] at hT
  rw [qM.enc,exC] at hg
  have ln:∀k,16 ≤ k→vn.length ≤ k:=fun k hk=>by omega
  have lu:∀k,44000 ≤ k→u.length ≤ k:=fun k hk=>by omega
  have hx:qa3 6 (.lst (vars.map qM.enc) .no) (.int .i64 (i:Nat)) = some (.iptr [.str vn,.int .i64 op,.int .i64 n,.str m2,.str sb,.lst (aS.map exV) .no] 0):=qu hg rfl
  simp (maxDischargeDepth:=9) only [qly,sT.1,sC.1,sTA.1,sCA.1,qe,qj,qk,Src.isTmp,qg,Src.hangs,qn.isT,qi,qd,Nat.testBit,bne,simprocAttr,-Int.reduceNatCast',ht,e1,e3,e6,c1,w,hbx,hx,hT,ln,lu,hW,List.length_map,qb5,qb6,if_true,List.append_assoc,List.cons_append,List.nil_append] at he
  subst he
  refine .inl ⟨_,q - 1,rfl,by omega,_,i + 1,rfl,by simp only [qh,ht],?_,?_,?_,by omega⟩
  ·simp only [sT.1,sC.1,sTA.1,sCA.1,qe,qj,qk,Src.isTmp,qg,Src.hangs,qn.isT,qi,qd,Nat.testBit,bne,simprocAttr,-Int.reduceNatCast',ht,e1]
  ·rw [hS];simp only [sT.1,sC.1,sTA.1,sCA.1,qe,qj,qk,Src.isTmp,qg,Src.hangs,qn.isT,qi,qd,Nat.testBit,bne,simprocAttr,-Int.reduceNatCast',ht,List.append_assoc,List.cons_append,List.nil_append]
  ·simp only [sT.1,sC.1,sTA.1,sCA.1,qe,qj,qk,Src.isTmp,qg,Src.hangs,qn.isT,qi,qd,Nat.testBit,bne,simprocAttr,-Int.reduceNatCast',ht,w]
 ·have c1:ilt (i:Int) (vars.length:Int) = false:=qcJ (by omega)
  rw [List.take_of_length_le hi] at e3
  simp only [qly,sT.1,sC.1,sTA.1,sCA.1,qe,qj,qk,Src.isTmp,qg,Src.hangs,qn.isT,qi,qd,Nat.testBit,bne,simprocAttr,-Int.reduceNatCast',ht,e1,e3,e6,c1,hbx,List.length_map] at he
  subst he
  refine .inr ⟨_,_,rfl,by simp,_,rfl,by simp only [qh,ht],?_,?_,rfl⟩
  all_goals simp only [sT.1,sC.1,sTA.1,sCA.1,qe,qj,qk,Src.isTmp,qg,Src.hangs,qn.isT,qi,qd,Nat.testBit,bne,simprocAttr,-Int.reduceNatCast',ht,e1,e3]
set_option maxHeartbeats 8000000 in
theorem qtA (hbx:G[P]? = some (.cells [.str nm,.bool cp,.lst (ins.map qJ.enc) .no,.lst (outs.map qJ.enc) .no,.lst (vars.map qM.enc) .no,.lst ta .no,.lst (emits.map qam.enc) .no,.lst (int.map qM.enc) .no,.lst (ext.map qM.enc) .no,.int .i64 con,.lst (own.map qM.enc) .no,.lst (parts.map qaw.enc) .no,.lst (links.map qZ.enc) .no,.lst (rules.map qab.enc) .no])) (hl:parts.length ≤ 1000) (hp:∀x ∈ parts,qhi x) {g:qaw→Str} (hg0:∀x,g x = [32,32,112,97,114,116,32] ++ (x.txt ++ [10])) (hb:s0.length + (parts.map g).flatten.length ≤ 60000000):∀q st,(∃tt i,st = ⟨tt,G,false⟩∧tt.length = 269∧lkp tt 1 = .ptr P 0∧lkp tt 3 = .str (s0 ++ ((parts.take i).map g).flatten)∧lkp tt 6 = .int .i64 (i:Nat)∧i + q = parts.length)→
  ∃x st',qx b Wd (.loop qlz) st = some (x,st')∧(∃tt,st' = ⟨tt,G,false⟩∧tt.length = 269∧lkp tt 1 = .ptr P 0∧lkp tt 3 = .str (s0 ++ (parts.map g).flatten)∧x = .exit 4):=by
 refine qD _ (fun x st'=>∃tt,st' = ⟨tt,G,false⟩∧tt.length = 269∧lkp tt 1 = .ptr P 0∧lkp tt 3 = .str (s0 ++ (parts.map g).flatten)∧x = .exit 4) ?_
 rintro q st ⟨tt,i,rfl,ht,e1,e3,e6,hiq⟩
 generalize he:qx b Wd qlz _ = r
 rcases Nat.lt_or_ge i parts.length with hi | hi
 ·have c1:ilt (i:Int) (parts.length:Int) = true:=qcK (by omega)
  have w:=qE (n:=i) (by omega)
  have hm:=hp _ (List.getElem_mem hi)
  have hg:(parts.map qaw.enc)[i]? = some (qaw.enc parts[i]):=by rw [List.getElem?_map,List.getElem?_eq_getElem hi];rfl
  have hS:=qd0 (g:=g) hi s0
  have hW:∀k,60000000 ≤ k→(s0 ++ ((parts.take i).map g).flatten).length ≤ k:=fun k hk=>by have:=qhA parts g i;rw [List.length_append];omega
  rw [hg0] at hS
  generalize s0 ++ ((parts.take i).map g).flatten = W at *
  generalize parts[i] = y at hg hS hm
  obtain ⟨h1,h2⟩:=hm
  rw [qaw.txt] at hS
  obtain ⟨a,c⟩:=y
  simp only at hS h1 h2
  rw [qaw.enc] at hg
  have ln:∀k,16 ≤ k→a.length ≤ k:=fun k hk=>by omega
  have lu:∀k,16 ≤ k→c.length ≤ k:=fun k hk=>by omega
  have hx:qa3 2 (.lst (parts.map qaw.enc) .no) (.int .i64 (i:Nat)) = some (.iptr [.str a,.str c] 0):=qu hg rfl
  simp (maxDischargeDepth:=9) only [qlz,sT.1,sC.1,sTA.1,sCA.1,qe,qj,qk,Src.isTmp,qg,Src.hangs,qn.isT,qi,qd,Nat.testBit,bne,simprocAttr,-Int.reduceNatCast',ht,e1,e3,e6,c1,w,hbx,hx,ln,lu,hW,List.length_map,qb5,qb6,if_true,List.append_assoc,List.cons_append,List.nil_append] at he
  subst he
  refine .inl ⟨_,q - 1,rfl,by omega,_,i + 1,rfl,by simp only [qh,ht],?_,?_,?_,by omega⟩
  ·simp only [sT.1,sC.1,sTA.1,sCA.1,qe,qj,qk,Src.isTmp,qg,Src.hangs,qn.isT,qi,qd,Nat.testBit,bne,simprocAttr,-Int.reduceNatCast',ht,e1]
  ·rw [hS];simp only [sT.1,sC.1,sTA.1,sCA.1,qe,qj,qk,Src.isTmp,qg,Src.hangs,qn.isT,qi,qd,Nat.testBit,bne,simprocAttr,-Int.reduceNatCast',ht,List.append_assoc,List.cons_append,List.nil_append]
  ·simp only [sT.1,sC.1,sTA.1,sCA.1,qe,qj,qk,Src.isTmp,qg,Src.hangs,qn.isT,qi,qd,Nat.testBit,bne,simprocAttr,-Int.reduceNatCast',ht,w]
 ·have c1:ilt (i:Int) (parts.length:Int) = false:=qcJ (by omega)
  rw [List.take_of_length_le hi] at e3
  simp only [qlz,sT.1,sC.1,sTA.1,sCA.1,qe,qj,qk,Src.isTmp,qg,Src.hangs,qn.isT,qi,qd,Nat.testBit,bne,simprocAttr,-Int.reduceNatCast',ht,e1,e3,e6,c1,hbx,List.length_map] at he
  subst he
  refine .inr ⟨_,_,rfl,by simp,_,rfl,by simp only [qh,ht],?_,?_,rfl⟩
  all_goals simp only [sT.1,sC.1,sTA.1,sCA.1,qe,qj,qk,Src.isTmp,qg,Src.hangs,qn.isT,qi,qd,Nat.testBit,bne,simprocAttr,-Int.reduceNatCast',ht,e1,e3]
set_option maxHeartbeats 8000000 in
theorem qtz (hbx:G[P]? = some (.cells [.str nm,.bool cp,.lst (ins.map qJ.enc) .no,.lst (outs.map qJ.enc) .no,.lst (vars.map qM.enc) .no,.lst ta .no,.lst (emits.map qam.enc) .no,.lst (int.map qM.enc) .no,.lst (ext.map qM.enc) .no,.int .i64 con,.lst (own.map qM.enc) .no,.lst (parts.map qaw.enc) .no,.lst (links.map qZ.enc) .no,.lst (rules.map qab.enc) .no])) (hl:links.length ≤ 1000) (hp:∀x ∈ links,qhh x) {g:qZ→Str} (hg0:∀x,g x = [32,32,108,105,110,107,32] ++ (x.txt ++ [10])) (hb:s0.length + (links.map g).flatten.length ≤ 60000000):∀q st,(∃tt i,st = ⟨tt,G,false⟩∧tt.length = 269∧lkp tt 1 = .ptr P 0∧lkp tt 3 = .str (s0 ++ ((links.take i).map g).flatten)∧lkp tt 7 = .int .i64 (i:Nat)∧i + q = links.length)→
  ∃x st',qx b Wd (.loop qlA) st = some (x,st')∧(∃tt,st' = ⟨tt,G,false⟩∧tt.length = 269∧lkp tt 1 = .ptr P 0∧lkp tt 3 = .str (s0 ++ (links.map g).flatten)∧x = .exit 6):=by
 refine qD _ (fun x st'=>∃tt,st' = ⟨tt,G,false⟩∧tt.length = 269∧lkp tt 1 = .ptr P 0∧lkp tt 3 = .str (s0 ++ (links.map g).flatten)∧x = .exit 6) ?_
 rintro q st ⟨tt,i,rfl,ht,e1,e3,e6,hiq⟩
 generalize he:qx b Wd qlA _ = r
 rcases Nat.lt_or_ge i links.length with hi | hi
 ·have c1:ilt (i:Int) (links.length:Int) = true:=qcK (by omega)
  have w:=qE (n:=i) (by omega)
  have hm:=hp _ (List.getElem_mem hi)
  have hg:(links.map qZ.enc)[i]? = some (qZ.enc links[i]):=by rw [List.getElem?_map,List.getElem?_eq_getElem hi];rfl
  have hS:=qd0 (g:=g) hi s0
  have hW:∀k,60000000 ≤ k→(s0 ++ ((links.take i).map g).flatten).length ≤ k:=fun k hk=>by have:=qhA links g i;rw [List.length_append];omega
  rw [hg0] at hS
  generalize s0 ++ ((links.take i).map g).flatten = W at *
  generalize links[i] = y at hg hS hm
  have hT:=fun G=>qeT hm.1 hm.2 G
  have h2:=qZ.len hm.1 hm.2
  clear hm
  generalize y.txt = u at *
  obtain ⟨⟨a,c⟩,⟨d,e⟩⟩:=y
  rw [qZ.enc] at hg hT
  simp only at hg hT
  have lu:∀k,90 ≤ k→u.length ≤ k:=fun k hk=>by omega
  have hx:qa3 4 (.lst (links.map qZ.enc) .no) (.int .i64 (i:Nat)) = some (.iptr [.str a,.str c,.str d,.str e] 0):=qu hg rfl
  simp (maxDischargeDepth:=9) only [qlA,sT.1,sC.1,sTA.1,sCA.1,qe,qj,qk,Src.isTmp,qg,Src.hangs,qn.isT,qi,qd,Nat.testBit,bne,simprocAttr,-Int.reduceNatCast',ht,e1,e3,e6,c1,w,hbx,hx,hT,lu,hW,List.length_map,qb5,qb6,if_true,List.append_assoc,List.cons_append,List.nil_append] at he
  subst he
  refine .inl ⟨_,q - 1,rfl,by omega,_,i + 1,rfl,by simp only [qh,ht],?_,?_,?_,by omega⟩
  ·simp only [sT.1,sC.1,sTA.1,sCA.1,qe,qj,qk,Src.isTmp,qg,Src.hangs,qn.isT,qi,qd,Nat.testBit,bne,simprocAttr,-Int.reduceNatCast',ht,e1]
  ·rw [hS];simp only [sT.1,sC.1,sTA.1,sCA.1,qe,qj,qk,Src.isTmp,qg,Src.hangs,qn.isT,qi,qd,Nat.testBit,bne,simprocAttr,-Int.reduceNatCast',ht,List.append_assoc,List.cons_append,List.nil_append]
  ·simp only [sT.1,sC.1,sTA.1,sCA.1,qe,qj,qk,Src.isTmp,qg,Src.hangs,qn.isT,qi,qd,Nat.testBit,bne,simprocAttr,-Int.reduceNatCast',ht,w]
 ·have c1:ilt (i:Int) (links.length:Int) = false:=qcJ (by omega)
  rw [List.take_of_length_le hi] at e3
  simp only [qlA,sT.1,sC.1,sTA.1,sCA.1,qe,qj,qk,Src.isTmp,qg,Src.hangs,qn.isT,qi,qd,Nat.testBit,bne,simprocAttr,-Int.reduceNatCast',ht,e1,e3,e6,c1,hbx,List.length_map] at he
  subst he
  refine .inr ⟨_,_,rfl,by simp,_,rfl,by simp only [qh,ht],?_,?_,rfl⟩
  all_goals simp only [sT.1,sC.1,sTA.1,sCA.1,qe,qj,qk,Src.isTmp,qg,Src.hangs,qn.isT,qi,qd,Nat.testBit,bne,simprocAttr,-Int.reduceNatCast',ht,e1,e3]
set_option maxHeartbeats 8000000 in
theorem qty (hbx:G[P]? = some (.cells [.str nm,.bool cp,.lst (ins.map qJ.enc) .no,.lst (outs.map qJ.enc) .no,.lst (vars.map qM.enc) .no,.lst ta .no,.lst (emits.map qam.enc) .no,.lst (int.map qM.enc) .no,.lst (ext.map qM.enc) .no,.int .i64 con,.lst (own.map qM.enc) .no,.lst (parts.map qaw.enc) .no,.lst (links.map qZ.enc) .no,.lst (rules.map qab.enc) .no])) (hl:emits.length ≤ 1000) (hp:∀x ∈ emits,qhb x) {g:qam→Str} (hg0:∀x,g x = [32,32] ++ (x.txt ++ [10])) (hb:s0.length + (emits.map g).flatten.length ≤ 60000000):∀q st,(∃tt i,st = ⟨tt,G,false⟩∧tt.length = 269∧lkp tt 1 = .ptr P 0∧lkp tt 3 = .str (s0 ++ ((emits.take i).map g).flatten)∧lkp tt 5 = .int .i64 (i:Nat)∧i + q = emits.length)→
  ∃x st',qx b Wd (.loop qi1) st = some (x,st')∧(∃tt,st' = ⟨tt,G,false⟩∧tt.length = 269∧lkp tt 1 = .ptr P 0∧lkp tt 3 = .str (s0 ++ (emits.map g).flatten)∧x = .exit 2):=by
 refine qD _ (fun x st'=>∃tt,st' = ⟨tt,G,false⟩∧tt.length = 269∧lkp tt 1 = .ptr P 0∧lkp tt 3 = .str (s0 ++ (emits.map g).flatten)∧x = .exit 2) ?_
 rintro q st ⟨tt,i,rfl,ht,e1,e3,e6,hiq⟩
 generalize he:qx b Wd qi1 _ = r
 rcases Nat.lt_or_ge i emits.length with hi | hi
 ·have c1:ilt (i:Int) (emits.length:Int) = true:=qcK (by omega)
  have w:=qE (n:=i) (by omega)
  have hm:=hp _ (List.getElem_mem hi)
  have hg:(emits.map qam.enc)[i]? = some (qam.enc emits[i]):=by rw [List.getElem?_map,List.getElem?_eq_getElem hi];rfl
  have hS:=qd0 (g:=g) hi s0
  have hW:∀k,60000000 ≤ k→(s0 ++ ((emits.take i).map g).flatten).length ≤ k:=fun k hk=>by have:=qhA emits g i;rw [List.length_append];omega
  rw [hg0] at hS
  generalize s0 ++ ((emits.take i).map g).flatten = W at *
  generalize emits[i] = y at hg hS hm
  obtain ⟨h1,hE,h3,h4⟩:=hm
  have hT:=fun G=>qeO hE G
  have h2:=qbn hE
  rw [qam.txt] at hS
  obtain ⟨pn,e,ifs⟩:=y
  simp only at hT h2 hS h1 h3 h4
  clear hE
  generalize eT e = u at *
  obtain ⟨op,n,m2,sb,aS⟩:=e
  rw [ql] at hT
  rw [qam.enc,exC] at hg
  simp only [List.cons_append,List.nil_append] at hg
  have ln:∀k,16 ≤ k→pn.length ≤ k:=fun k hk=>by omega
  have lu:∀k,44000 ≤ k→u.length ≤ k:=fun k hk=>by omega
  match ifs,h3,h4 with
  | [],_,_=>
   have d0:ilt 0 (0:Int) = false:=by kernel_rfl
   have hx:qa3 7 (.lst (emits.map qam.enc) .no) (.int .i64 (i:Nat)) = some (.iptr [.str pn,.int .i64 op,.int .i64 n,.str m2,.str sb,.lst (aS.map exV) .no,.lst [] .no] 0):=qu hg rfl
   simp only [qhH,List.map_nil,List.flatten_nil,List.nil_append] at hS
   simp (maxDischargeDepth:=9) only [qi1,sT.1,sC.1,sTA.1,sCA.1,qe,qj,qk,Src.isTmp,qg,Src.hangs,qn.isT,qi,qd,Nat.testBit,bne,simprocAttr,-Int.reduceNatCast',ht,e1,e3,e6,c1,w,hbx,hx,hT,ln,lu,cc0,d0,List.length_nil,hW,List.length_map,qb5,qb6,if_true,List.append_assoc,List.cons_append,List.nil_append] at he
   subst he
   refine .inl ⟨_,q - 1,rfl,by omega,_,i + 1,rfl,by simp only [qh,ht],?_,?_,?_,by omega⟩
   ·simp only [sT.1,sC.1,sTA.1,sCA.1,qe,qj,qk,Src.isTmp,qg,Src.hangs,qn.isT,qi,qd,Nat.testBit,bne,simprocAttr,-Int.reduceNatCast',ht,e1]
   ·rw [hS];simp only [sT.1,sC.1,sTA.1,sCA.1,qe,qj,qk,Src.isTmp,qg,Src.hangs,qn.isT,qi,qd,Nat.testBit,bne,simprocAttr,-Int.reduceNatCast',ht,List.append_assoc,List.cons_append,List.nil_append]
   ·simp only [sT.1,sC.1,sTA.1,sCA.1,qe,qj,qk,Src.isTmp,qg,Src.hangs,qn.isT,qi,qd,Nat.testBit,bne,simprocAttr,-Int.reduceNatCast',ht,w]
  | [a],_,h4=>
   have hF:=fun G=>qeO (h4 a (by simp)) G
   have h5:=qbn (h4 a (by simp))
   have d0:ilt 0 (1:Int) = true:=by kernel_rfl
   simp only [qhH,List.map_cons,List.map_nil,List.flatten_cons,List.flatten_nil,List.append_nil] at hS
   clear h4
   generalize eT a = v at *
   have lv:∀k,44000 ≤ k→v.length ≤ k:=fun k hk=>by omega
   obtain ⟨op',n',m2',sb',as'⟩:=a
   rw [List.map_cons,List.map_nil,ql] at hg
   rw [ql] at hF
   have hx:qa3 7 (.lst (emits.map qam.enc) .no) (.int .i64 (i:Nat)) = some (.iptr [.str pn,.int .i64 op,.int .i64 n,.str m2,.str sb,.lst (aS.map exV) .no,.lst [.agg [.int .i64 op',.int .i64 n',.str m2',.str sb',.lst (as'.map exV) .no]] .no] 0):=qu hg rfl
   simp (maxDischargeDepth:=9) only [qi1,sT.1,sC.1,sTA.1,sCA.1,qe,qj,qk,Src.isTmp,qg,Src.hangs,qn.isT,qi,qd,Nat.testBit,bne,simprocAttr,-Int.reduceNatCast',ht,e1,e3,e6,c1,w,hbx,hx,hT,hF,ixe,ln,lu,lv,cc1,d0,List.length_cons,List.length_nil,hW,List.length_map,qb5,qb6,if_true,List.append_assoc,List.cons_append,List.nil_append] at he
   subst he
   refine .inl ⟨_,q - 1,rfl,by omega,_,i + 1,rfl,by simp only [qh,ht],?_,?_,?_,by omega⟩
   ·simp only [sT.1,sC.1,sTA.1,sCA.1,qe,qj,qk,Src.isTmp,qg,Src.hangs,qn.isT,qi,qd,Nat.testBit,bne,simprocAttr,-Int.reduceNatCast',ht,e1]
   ·rw [hS];simp only [sT.1,sC.1,sTA.1,sCA.1,qe,qj,qk,Src.isTmp,qg,Src.hangs,qn.isT,qi,qd,Nat.testBit,bne,simprocAttr,-Int.reduceNatCast',ht,List.append_assoc,List.cons_append,List.nil_append]
   ·simp only [sT.1,sC.1,sTA.1,sCA.1,qe,qj,qk,Src.isTmp,qg,Src.hangs,qn.isT,qi,qd,Nat.testBit,bne,simprocAttr,-Int.reduceNatCast',ht,w]
  | a :: c :: l,h3,_=>exact absurd h3 (by simp)
 ·have c1:ilt (i:Int) (emits.length:Int) = false:=qcJ (by omega)
  rw [List.take_of_length_le hi] at e3
  simp only [qi1,sT.1,sC.1,sTA.1,sCA.1,qe,qj,qk,Src.isTmp,qg,Src.hangs,qn.isT,qi,qd,Nat.testBit,bne,simprocAttr,-Int.reduceNatCast',ht,e1,e3,e6,c1,hbx,List.length_map] at he
  subst he
  refine .inr ⟨_,_,rfl,by simp,_,rfl,by simp only [qh,ht],?_,?_,rfl⟩
  all_goals simp only [sT.1,sC.1,sTA.1,sCA.1,qe,qj,qk,Src.isTmp,qg,Src.hangs,qn.isT,qi,qd,Nat.testBit,bne,simprocAttr,-Int.reduceNatCast',ht,e1,e3]
set_option maxHeartbeats 8000000 in
theorem qwU {h:List qq} {R j:Nat} {op n:Int} {m2 sb:Str} {aS:List Exl} {acts:List qbW} (hl:acts.length ≤ 1000) (hp:∀a ∈ acts,a.short∧(a.kind = 0∨a.kind = 1∨a.kind = 2∨a.kind = 3)) {g:qbW→Str} (hg0:∀x,g x = [32,32,32,32] ++ (x.txt ++ [10])) (hb:s0.length + (acts.map g).flatten.length ≤ 60000000):∀q st,(∃tt G i,st = ⟨tt,G,false⟩∧G[h.length]? = some (.cells [.str nm,.bool cp,.lst (ins.map qJ.enc) .no,.lst (outs.map qJ.enc) .no,.lst (vars.map qM.enc) .no,.lst ta .no,.lst (emits.map qam.enc) .no,.lst (int.map qM.enc) .no,.lst (ext.map qM.enc) .no,.int .i64 con,.lst (own.map qM.enc) .no,.lst (parts.map qaw.enc) .no,.lst (links.map qZ.enc) .no,.lst (rules.map qab.enc) .no])∧G[R]? = some (.cells [.int .i64 op,.int .i64 n,.str m2,.str sb,.lst (aS.map exV) .no,.lst (acts.map qbW.enc) .no])∧R < G.length∧h.length < G.length∧G.take h.length = h∧tt.length = 269∧lkp tt 1 = .ptr h.length 0∧lkp tt 8 = .int .i64 (j:Nat)∧lkp tt 9 = .ptr R 0∧lkp tt 3 = .str (s0 ++ ((acts.take i).map g).flatten)∧lkp tt 10 = .int .i64 (i:Nat)∧i + q = acts.length)→
  ∃x st',qx h.length Wd (.loop qgR) st = some (x,st')∧(∃tt G,st' = ⟨tt,G,false⟩∧G[h.length]? = some (.cells [.str nm,.bool cp,.lst (ins.map qJ.enc) .no,.lst (outs.map qJ.enc) .no,.lst (vars.map qM.enc) .no,.lst ta .no,.lst (emits.map qam.enc) .no,.lst (int.map qM.enc) .no,.lst (ext.map qM.enc) .no,.int .i64 con,.lst (own.map qM.enc) .no,.lst (parts.map qaw.enc) .no,.lst (links.map qZ.enc) .no,.lst (rules.map qab.enc) .no])∧h.length < G.length∧G.take h.length = h∧tt.length = 269∧lkp tt 1 = .ptr h.length 0∧lkp tt 8 = .int .i64 (j:Nat)∧lkp tt 3 = .str (s0 ++ (acts.map g).flatten)∧x = .exit 10):=by
 refine qD _ (fun x st'=>∃tt G,st' = ⟨tt,G,false⟩∧G[h.length]? = some (.cells [.str nm,.bool cp,.lst (ins.map qJ.enc) .no,.lst (outs.map qJ.enc) .no,.lst (vars.map qM.enc) .no,.lst ta .no,.lst (emits.map qam.enc) .no,.lst (int.map qM.enc) .no,.lst (ext.map qM.enc) .no,.int .i64 con,.lst (own.map qM.enc) .no,.lst (parts.map qaw.enc) .no,.lst (links.map qZ.enc) .no,.lst (rules.map qab.enc) .no])∧h.length < G.length∧G.take h.length = h∧tt.length = 269∧lkp tt 1 = .ptr h.length 0∧lkp tt 8 = .int .i64 (j:Nat)∧lkp tt 3 = .str (s0 ++ (acts.map g).flatten)∧x = .exit 10) ?_
 rintro q st ⟨tt,G,i,rfl,hbx,hbr,hRl,hlt,htk,ht,e1,e8,e9,e3,e6,hiq⟩
 generalize he:qx h.length Wd qgR _ = r
 have hbl:Nat.ble h.length G.length = true:=qas (by omega)
 rcases Nat.lt_or_ge i acts.length with hi | hi
 ·have c1:ilt (i:Int) (acts.length:Int) = true:=qcK (by omega)
  have w:=qE (n:=i) (by omega)
  have hm:=hp _ (List.getElem_mem hi)
  have hg:(acts.map qbW.enc)[i]? = some (qbW.enc acts[i]):=by rw [List.getElem?_map,List.getElem?_eq_getElem hi];rfl
  have hS:=qd0 (g:=g) hi s0
  have hW:∀k,60000000 ≤ k→(s0 ++ ((acts.take i).map g).flatten).length ≤ k:=fun k hk=>by have:=qhA acts g i;rw [List.length_append];omega
  have nb:∀X:List qq,(G ++ X)[h.length]? = some (.cells [.str nm,.bool cp,.lst (ins.map qJ.enc) .no,.lst (outs.map qJ.enc) .no,.lst (vars.map qM.enc) .no,.lst ta .no,.lst (emits.map qam.enc) .no,.lst (int.map qM.enc) .no,.lst (ext.map qM.enc) .no,.int .i64 con,.lst (own.map qM.enc) .no,.lst (parts.map qaw.enc) .no,.lst (links.map qZ.enc) .no,.lst (rules.map qab.enc) .no]):=fun X=>by rw [List.getElem?_append_left hlt];exact hbx
  have nr:∀X:List qq,(G ++ X)[R]? = some (.cells [.int .i64 op,.int .i64 n,.str m2,.str sb,.lst (aS.map exV) .no,.lst (acts.map qbW.enc) .no]):=fun X=>by rw [List.getElem?_append_left hRl];exact hbr
  have nt:∀X:List qq,(G ++ X).take h.length = h:=fun X=>by rw [List.take_append_of_le_length (by omega)];exact htk
  rw [hg0] at hS
  generalize s0 ++ ((acts.take i).map g).flatten = W at *
  generalize acts[i] = y at hg hS hm
  obtain ⟨⟨h1,h2,h3⟩,hk⟩:=hm
  obtain ⟨kd,a,c,l⟩:=y
  rw [qbW.txt] at hS
  simp only at h1 h2 h3 hk hS
  have la:∀k,16 ≤ k→a.length ≤ k:=fun k hk=>by omega
  have lc:∀k,16 ≤ k→c.length ≤ k:=fun k hk=>by omega
  have hx:qa3 7 (.lst (acts.map qbW.enc) .no) (.int .i64 (i:Nat)) = some (.iptr [.int .i64 kd,.str a,.str c,.str l.frm.part,.str l.frm.port,.str l.to.part,.str l.to.port] 0):=qu hg rfl
  rcases hk with rfl | rfl | rfl | rfl
  ·have k0:((0:Int) == 0) = true:=by kernel_rfl
   rw [k0,cond_true] at hS
   simp (maxDischargeDepth:=9) only [qgR,sT.1,sC.1,sTA.1,sCA.1,qe,qj,qk,Src.isTmp,qg,Src.hangs,qn.isT,qi,qd,Nat.testBit,bne,simprocAttr,-Int.reduceNatCast',ht,e1,e3,e6,e8,e9,c1,w,hbr,hx,hbl,la,lc,k0,hW,List.length_map,qb5,qb6,if_true,List.append_assoc,List.cons_append,List.nil_append] at he
   subst he
   refine .inl ⟨_,q - 1,rfl,by omega,_,_,i + 1,rfl,nb _,nr _,by simp;omega,by simp;omega,nt _,by simp only [qh,ht],?_,?_,?_,?_,?_,by omega⟩
   ·simp only [sT.1,sC.1,sTA.1,sCA.1,qe,qj,qk,Src.isTmp,qg,Src.hangs,qn.isT,qi,qd,Nat.testBit,bne,simprocAttr,-Int.reduceNatCast',ht,e1]
   ·simp only [sT.1,sC.1,sTA.1,sCA.1,qe,qj,qk,Src.isTmp,qg,Src.hangs,qn.isT,qi,qd,Nat.testBit,bne,simprocAttr,-Int.reduceNatCast',ht,e8]
   ·simp only [sT.1,sC.1,sTA.1,sCA.1,qe,qj,qk,Src.isTmp,qg,Src.hangs,qn.isT,qi,qd,Nat.testBit,bne,simprocAttr,-Int.reduceNatCast',ht,e9]
   ·rw [hS];simp only [sT.1,sC.1,sTA.1,sCA.1,qe,qj,qk,Src.isTmp,qg,Src.hangs,qn.isT,qi,qd,Nat.testBit,bne,simprocAttr,-Int.reduceNatCast',ht,cond_true,cond_false,List.append_assoc,List.cons_append,List.nil_append]
   ·simp only [sT.1,sC.1,sTA.1,sCA.1,qe,qj,qk,Src.isTmp,qg,Src.hangs,qn.isT,qi,qd,Nat.testBit,bne,simprocAttr,-Int.reduceNatCast',ht,w]
  ·have k0:((1:Int) == 0) = false:=by kernel_rfl
   have k1:((1:Int) == 1) = true:=by kernel_rfl
   rw [k0,k1,cond_false,cond_true] at hS
   simp (maxDischargeDepth:=9) only [qgR,sT.1,sC.1,sTA.1,sCA.1,qe,qj,qk,Src.isTmp,qg,Src.hangs,qn.isT,qi,qd,Nat.testBit,bne,simprocAttr,-Int.reduceNatCast',ht,e1,e3,e6,e8,e9,c1,w,hbr,hx,hbl,la,k0,k1,hW,List.length_map,qb5,qb6,if_true,List.append_assoc,List.cons_append,List.nil_append] at he
   subst he
   refine .inl ⟨_,q - 1,rfl,by omega,_,_,i + 1,rfl,nb _,nr _,by simp;omega,by simp;omega,nt _,by simp only [qh,ht],?_,?_,?_,?_,?_,by omega⟩
   ·simp only [sT.1,sC.1,sTA.1,sCA.1,qe,qj,qk,Src.isTmp,qg,Src.hangs,qn.isT,qi,qd,Nat.testBit,bne,simprocAttr,-Int.reduceNatCast',ht,e1]
   ·simp only [sT.1,sC.1,sTA.1,sCA.1,qe,qj,qk,Src.isTmp,qg,Src.hangs,qn.isT,qi,qd,Nat.testBit,bne,simprocAttr,-Int.reduceNatCast',ht,e8]
   ·simp only [sT.1,sC.1,sTA.1,sCA.1,qe,qj,qk,Src.isTmp,qg,Src.hangs,qn.isT,qi,qd,Nat.testBit,bne,simprocAttr,-Int.reduceNatCast',ht,e9]
   ·rw [hS];simp only [sT.1,sC.1,sTA.1,sCA.1,qe,qj,qk,Src.isTmp,qg,Src.hangs,qn.isT,qi,qd,Nat.testBit,bne,simprocAttr,-Int.reduceNatCast',ht,cond_true,cond_false,List.append_assoc,List.cons_append,List.nil_append]
   ·simp only [sT.1,sC.1,sTA.1,sCA.1,qe,qj,qk,Src.isTmp,qg,Src.hangs,qn.isT,qi,qd,Nat.testBit,bne,simprocAttr,-Int.reduceNatCast',ht,w]
  ·have k0:((2:Int) == 0) = false:=by kernel_rfl
   have k1:((2:Int) == 1) = false:=by kernel_rfl
   have k2:((2:Int) == 2) = true:=by kernel_rfl
   obtain ⟨hf,ho⟩:=h3 (by omega) (by omega)
   have hT:=fun G=>qeT hf ho G
   have h5:=qZ.len hf ho
   rw [qZ.enc] at hT
   rw [k0,k1,k2,cond_false,cond_false,cond_true] at hS
   generalize l.txt = u at *
   have lu:∀k,90 ≤ k→u.length ≤ k:=fun k hk=>by omega
   simp (maxDischargeDepth:=9) only [qgR,sT.1,sC.1,sTA.1,sCA.1,qe,qj,qk,Src.isTmp,qg,Src.hangs,qn.isT,qi,qd,Nat.testBit,bne,simprocAttr,-Int.reduceNatCast',ht,e1,e3,e6,e8,e9,c1,w,hbr,hx,hbl,hT,lu,k0,k1,k2,hW,List.length_map,qb5,qb6,if_true,List.append_assoc,List.cons_append,List.nil_append] at he
   subst he
   refine .inl ⟨_,q - 1,rfl,by omega,_,_,i + 1,rfl,nb _,nr _,by simp;omega,by simp;omega,nt _,by simp only [qh,ht],?_,?_,?_,?_,?_,by omega⟩
   ·simp only [sT.1,sC.1,sTA.1,sCA.1,qe,qj,qk,Src.isTmp,qg,Src.hangs,qn.isT,qi,qd,Nat.testBit,bne,simprocAttr,-Int.reduceNatCast',ht,e1]
   ·simp only [sT.1,sC.1,sTA.1,sCA.1,qe,qj,qk,Src.isTmp,qg,Src.hangs,qn.isT,qi,qd,Nat.testBit,bne,simprocAttr,-Int.reduceNatCast',ht,e8]
   ·simp only [sT.1,sC.1,sTA.1,sCA.1,qe,qj,qk,Src.isTmp,qg,Src.hangs,qn.isT,qi,qd,Nat.testBit,bne,simprocAttr,-Int.reduceNatCast',ht,e9]
   ·rw [hS];simp only [sT.1,sC.1,sTA.1,sCA.1,qe,qj,qk,Src.isTmp,qg,Src.hangs,qn.isT,qi,qd,Nat.testBit,bne,simprocAttr,-Int.reduceNatCast',ht,cond_true,cond_false,List.append_assoc,List.cons_append,List.nil_append]
   ·simp only [sT.1,sC.1,sTA.1,sCA.1,qe,qj,qk,Src.isTmp,qg,Src.hangs,qn.isT,qi,qd,Nat.testBit,bne,simprocAttr,-Int.reduceNatCast',ht,w]
  ·have k0:((3:Int) == 0) = false:=by kernel_rfl
   have k1:((3:Int) == 1) = false:=by kernel_rfl
   have k2:((3:Int) == 2) = false:=by kernel_rfl
   have k3:((3:Int) == 3) = true:=by kernel_rfl
   obtain ⟨hf,ho⟩:=h3 (by omega) (by omega)
   have hT:=fun G=>qeT hf ho G
   have h5:=qZ.len hf ho
   rw [qZ.enc] at hT
   rw [k0,k1,k2,cond_false,cond_false,cond_false] at hS
   generalize l.txt = u at *
   have lu:∀k,90 ≤ k→u.length ≤ k:=fun k hk=>by omega
   simp (maxDischargeDepth:=9) only [qgR,sT.1,sC.1,sTA.1,sCA.1,qe,qj,qk,Src.isTmp,qg,Src.hangs,qn.isT,qi,qd,Nat.testBit,bne,simprocAttr,-Int.reduceNatCast',ht,e1,e3,e6,e8,e9,c1,w,hbr,hx,hbl,hT,lu,k0,k1,k2,k3,hW,List.length_map,qb5,qb6,if_true,List.append_assoc,List.cons_append,List.nil_append] at he
   subst he
   refine .inl ⟨_,q - 1,rfl,by omega,_,_,i + 1,rfl,nb _,nr _,by simp;omega,by simp;omega,nt _,by simp only [qh,ht],?_,?_,?_,?_,?_,by omega⟩
   ·simp only [sT.1,sC.1,sTA.1,sCA.1,qe,qj,qk,Src.isTmp,qg,Src.hangs,qn.isT,qi,qd,Nat.testBit,bne,simprocAttr,-Int.reduceNatCast',ht,e1]
   ·simp only [sT.1,sC.1,sTA.1,sCA.1,qe,qj,qk,Src.isTmp,qg,Src.hangs,qn.isT,qi,qd,Nat.testBit,bne,simprocAttr,-Int.reduceNatCast',ht,e8]
   ·simp only [sT.1,sC.1,sTA.1,sCA.1,qe,qj,qk,Src.isTmp,qg,Src.hangs,qn.isT,qi,qd,Nat.testBit,bne,simprocAttr,-Int.reduceNatCast',ht,e9]
   ·rw [hS];simp only [sT.1,sC.1,sTA.1,sCA.1,qe,qj,qk,Src.isTmp,qg,Src.hangs,qn.isT,qi,qd,Nat.testBit,bne,simprocAttr,-Int.reduceNatCast',ht,cond_true,cond_false,List.append_assoc,List.cons_append,List.nil_append]
   ·simp only [sT.1,sC.1,sTA.1,sCA.1,qe,qj,qk,Src.isTmp,qg,Src.hangs,qn.isT,qi,qd,Nat.testBit,bne,simprocAttr,-Int.reduceNatCast',ht,w]
 ·have c1:ilt (i:Int) (acts.length:Int) = false:=qcJ (by omega)
  rw [List.take_of_length_le hi] at e3
  simp only [qgR,sT.1,sC.1,sTA.1,sCA.1,qe,qj,qk,Src.isTmp,qg,Src.hangs,qn.isT,qi,qd,Nat.testBit,bne,simprocAttr,-Int.reduceNatCast',ht,e1,e3,e6,e8,e9,c1,hbr,List.length_map] at he
  subst he
  refine .inr ⟨_,_,rfl,by simp,_,G,rfl,hbx,hlt,htk,by simp only [qh,ht],?_,?_,?_,rfl⟩
  all_goals simp only [sT.1,sC.1,sTA.1,sCA.1,qe,qj,qk,Src.isTmp,qg,Src.hangs,qn.isT,qi,qd,Nat.testBit,bne,simprocAttr,-Int.reduceNatCast',ht,e1,e3,e8]
set_option maxHeartbeats 8000000 in
theorem qtB {h:List qq} (hl:rules.length ≤ 1000) (hp:∀r ∈ rules,qhc r.e∧r.acts.length ≤ 1000∧∀a ∈ r.acts,a.short∧(a.kind = 0∨a.kind = 1∨a.kind = 2∨a.kind = 3)) {g:qab→Str} (hg0:∀x,g x = qa4 x.lines) (hb:s0.length + (rules.map g).flatten.length ≤ 60000000):∀q st,(∃tt G i,st = ⟨tt,G,false⟩∧G[h.length]? = some (.cells [.str nm,.bool cp,.lst (ins.map qJ.enc) .no,.lst (outs.map qJ.enc) .no,.lst (vars.map qM.enc) .no,.lst ta .no,.lst (emits.map qam.enc) .no,.lst (int.map qM.enc) .no,.lst (ext.map qM.enc) .no,.int .i64 con,.lst (own.map qM.enc) .no,.lst (parts.map qaw.enc) .no,.lst (links.map qZ.enc) .no,.lst (rules.map qab.enc) .no])∧h.length < G.length∧G.take h.length = h∧tt.length = 269∧lkp tt 1 = .ptr h.length 0∧lkp tt 3 = .str (s0 ++ ((rules.take i).map g).flatten)∧lkp tt 8 = .int .i64 (i:Nat)∧i + q = rules.length)→
  ∃x st',qx h.length Wd (.loop qi2) st = some (x,st')∧(∃tt G,st' = ⟨tt,G,false⟩∧G[h.length]? = some (.cells [.str nm,.bool cp,.lst (ins.map qJ.enc) .no,.lst (outs.map qJ.enc) .no,.lst (vars.map qM.enc) .no,.lst ta .no,.lst (emits.map qam.enc) .no,.lst (int.map qM.enc) .no,.lst (ext.map qM.enc) .no,.int .i64 con,.lst (own.map qM.enc) .no,.lst (parts.map qaw.enc) .no,.lst (links.map qZ.enc) .no,.lst (rules.map qab.enc) .no])∧h.length < G.length∧G.take h.length = h∧tt.length = 269∧lkp tt 1 = .ptr h.length 0∧lkp tt 3 = .str (s0 ++ (rules.map g).flatten)∧x = .exit 8):=by
 refine qD _ (fun x st'=>∃tt G,st' = ⟨tt,G,false⟩∧G[h.length]? = some (.cells [.str nm,.bool cp,.lst (ins.map qJ.enc) .no,.lst (outs.map qJ.enc) .no,.lst (vars.map qM.enc) .no,.lst ta .no,.lst (emits.map qam.enc) .no,.lst (int.map qM.enc) .no,.lst (ext.map qM.enc) .no,.int .i64 con,.lst (own.map qM.enc) .no,.lst (parts.map qaw.enc) .no,.lst (links.map qZ.enc) .no,.lst (rules.map qab.enc) .no])∧h.length < G.length∧G.take h.length = h∧tt.length = 269∧lkp tt 1 = .ptr h.length 0∧lkp tt 3 = .str (s0 ++ (rules.map g).flatten)∧x = .exit 8) ?_
 rintro q st ⟨tt,G,i,rfl,hbx,hlt,htk,ht,e1,e3,e6,hiq⟩
 generalize he:qx h.length Wd qi2 _ = r
 have hbl:Nat.ble h.length G.length = true:=qas (by omega)
 rcases Nat.lt_or_ge i rules.length with hi | hi
 ·have c1:ilt (i:Int) (rules.length:Int) = true:=qcK (by omega)
  have w:=qE (n:=i) (by omega)
  obtain ⟨hE,hla,ha⟩:=hp _ (List.getElem_mem hi)
  have hT:=fun G=>qeO hE G
  have h2:=qbn hE
  have hg:(rules.map qab.enc)[i]? = some (qab.enc rules[i]):=by rw [List.getElem?_map,List.getElem?_eq_getElem hi];rfl
  have hS:=qd0 (g:=g) hi s0
  have hq1:=qhA rules g (i + 1)
  have hW:∀k,60000000 ≤ k→(s0 ++ ((rules.take i).map g).flatten).length ≤ k:=fun k hk=>by have:=qhA rules g i;rw [List.length_append];omega
  have nb:∀X:List qq,(G ++ X)[h.length]? = some (.cells [.str nm,.bool cp,.lst (ins.map qJ.enc) .no,.lst (outs.map qJ.enc) .no,.lst (vars.map qM.enc) .no,.lst ta .no,.lst (emits.map qam.enc) .no,.lst (int.map qM.enc) .no,.lst (ext.map qM.enc) .no,.int .i64 con,.lst (own.map qM.enc) .no,.lst (parts.map qaw.enc) .no,.lst (links.map qZ.enc) .no,.lst (rules.map qab.enc) .no]):=fun X=>by rw [List.getElem?_append_left hlt];exact hbx
  have nt:∀X:List qq,(G ++ X).take h.length = h:=fun X=>by rw [List.take_append_of_le_length (by omega)];exact htk
  have hSl:(s0 ++ ((rules.take i).map g).flatten ++ g rules[i]).length ≤ 60000000:=by rw [←hS,List.length_append];omega
  rw [hg0,qab.lines,qbi,List.isEmpty_map] at hS hSl
  generalize s0 ++ ((rules.take i).map g).flatten = W at *
  clear hq1 hE
  generalize rules[i] = y at *
  obtain ⟨e,acts⟩:=y
  simp only at hT h2 hla ha hS hSl
  generalize eT e = u at *
  obtain ⟨op,n,m2,sb,aS⟩:=e
  rw [ql] at hT
  rw [qab.enc,exC] at hg
  simp only [List.cons_append,List.nil_append] at hg
  have lu:∀k,44000 ≤ k→u.length ≤ k:=fun k hk=>by omega
  have hx:qa3 6 (.lst (rules.map qab.enc) .no) (.int .i64 (i:Nat)) = some (.iptr [.int .i64 op,.int .i64 n,.str m2,.str sb,.lst (aS.map exV) .no,.lst (acts.map qbW.enc) .no] 0):=qu hg rfl
  cases hae:acts.isEmpty with
  | true=>
   have:acts = []:=List.isEmpty_iff.1 hae
   subst this
   have z0:((0:Int) == 0) = true:=by kernel_rfl
   rw [hae,cond_true,qa5] at hS
   simp only [List.map_nil] at hx
   simp (maxDischargeDepth:=9) only [qi2,sT.1,sC.1,sTA.1,sCA.1,qe,qj,qk,Src.isTmp,qg,Src.hangs,qn.isT,qi,qd,Nat.testBit,bne,simprocAttr,-Int.reduceNatCast',ht,e1,e3,e6,c1,w,hbx,hbl,hx,hT,lu,hW,z0,cc0,List.length_nil,List.length_map,qb5,qb6,if_true,List.append_assoc,List.cons_append,List.nil_append] at he
   subst he
   refine .inl ⟨_,q - 1,rfl,by omega,_,_,i + 1,rfl,nb _,by simp;omega,nt _,by simp only [qh,ht],?_,?_,?_,by omega⟩
   ·simp only [sT.1,sC.1,sTA.1,sCA.1,qe,qj,qk,Src.isTmp,qg,Src.hangs,qn.isT,qi,qd,Nat.testBit,bne,simprocAttr,-Int.reduceNatCast',ht,e1]
   ·rw [hS];simp only [sT.1,sC.1,sTA.1,sCA.1,qe,qj,qk,Src.isTmp,qg,Src.hangs,qn.isT,qi,qd,Nat.testBit,bne,simprocAttr,-Int.reduceNatCast',ht,List.append_assoc,List.cons_append,List.nil_append]
   ·simp only [sT.1,sC.1,sTA.1,sCA.1,qe,qj,qk,Src.isTmp,qg,Src.hangs,qn.isT,qi,qd,Nat.testBit,bne,simprocAttr,-Int.reduceNatCast',ht,w]
  | false=>
   have z0:((acts.length:Int) == 0) = false:=by rw [qpo];exact hae
   rw [hae,cond_false] at hS hSl
   have hcl:qa4 (([32,32] ++ ([114,117,108,101,32] ++ u ++ [32,123])) :: ((acts.map qbW.txt).map (fun l=>[32,32] ++ ([32,32] ++ l)) ++ [[32,32] ++ [125]])) = [32,32,114,117,108,101,32] ++ (u ++ [32,123,10]) ++ ((acts.map fun x=>[32,32,32,32] ++ (x.txt ++ [10])).flatten ++ [32,32,125,10]):=by
    rw [show ([32,32] ++ ([114,117,108,101,32] ++ u ++ [32,123])) :: ((acts.map qbW.txt).map (fun l=>[32,32] ++ ([32,32] ++ l)) ++ [[32,32] ++ [125]]) = [[32,32] ++ ([114,117,108,101,32] ++ u ++ [32,123])] ++ ((acts.map qbW.txt).map (fun l=>[32,32] ++ ([32,32] ++ l)) ++ [[32,32] ++ [125]]) from rfl,qbb,qbb,qa5,qa5,qa4,List.map_map,List.map_map]
    simp only [Function.comp_def,List.append_assoc,List.cons_append,List.nil_append]
   rw [hcl] at hS hSl
   generalize hgA:(fun x:qbW=>[32,32,32,32] ++ (x.txt ++ [10])) = gA at *
   simp (maxDischargeDepth:=9) only [qi2,sT.1,sC.1,sTA.1,sCA.1,qe,qj,qk,Src.isTmp,qg,Src.hangs,qn.isT,qi,qd,Nat.testBit,bne,simprocAttr,-Int.reduceNatCast',ht,e1,e3,e6,c1,w,hbx,hbl,hx,hT,lu,hW,z0,List.length_map,qb5,qb6,if_true,List.append_assoc,List.cons_append,List.nil_append] at he
   generalize hr3:qx h.length Wd (.loop qgR) _ = r3 at he
   have hA:=qwU (h:=h) (R:=G.length) (j:=i) (op:=op) (n:=n) (m2:=m2) (sb:=sb) (aS:=aS) (s0:=W ++ ([32,32,114,117,108,101,32] ++ (u ++ [32,123,10]))) (nm:=nm) (cp:=cp) (ins:=ins) (outs:=outs) (vars:=vars) (int:=int) (ext:=ext) (own:=own) (ta:=ta) (emits:=emits) (con:=con) (parts:=parts) (links:=links) (rules:=rules) hla ha (g:=gA) (fun x=>by rw [←hgA]) (by simp only [List.length_append,List.length_cons,List.length_nil] at hSl ⊢;omega)
   obtain ⟨x,st',rfl,tt',G',rfl,hbx',hlt',htk',ht',e1',e8',e3',rfl⟩:=qaT hr3 (hA acts.length _ ⟨_,_,0,rfl,nb _,by rw [qbD];rfl,by simp,by simp;omega,nt _,by simp only [qh,ht],by simp only [sT.1,sC.1,sTA.1,sCA.1,qe,qj,qk,Src.isTmp,qg,Src.hangs,qn.isT,qi,qd,Nat.testBit,bne,simprocAttr,-Int.reduceNatCast',ht,e1],by simp only [sT.1,sC.1,sTA.1,sCA.1,qe,qj,qk,Src.isTmp,qg,Src.hangs,qn.isT,qi,qd,Nat.testBit,bne,simprocAttr,-Int.reduceNatCast',ht,e6],by simp only [sT.1,sC.1,sTA.1,sCA.1,qe,qj,qk,Src.isTmp,qg,Src.hangs,qn.isT,qi,qd,Nat.testBit,bne,simprocAttr,-Int.reduceNatCast',ht],by simp only [sT.1,sC.1,sTA.1,sCA.1,qe,qj,qk,Src.isTmp,qg,Src.hangs,qn.isT,qi,qd,Nat.testBit,bne,simprocAttr,-Int.reduceNatCast',ht,List.take_zero,List.map_nil,List.flatten_nil,List.append_nil,List.append_assoc,List.cons_append,List.nil_append],by simp only [sT.1,sC.1,sTA.1,sCA.1,qe,qj,qk,Src.isTmp,qg,Src.hangs,qn.isT,qi,qd,Nat.testBit,bne,simprocAttr,-Int.reduceNatCast',ht,Int.natCast_zero],by omega⟩)
   have lq:∀k,60000000 ≤ k→(W ++ ([32,32,114,117,108,101,32] ++ (u ++ [32,123,10])) ++ (acts.map gA).flatten).length ≤ k:=fun k hk=>by simp only [List.length_append,List.length_cons,List.length_nil] at hSl ⊢;omega
   have hS2:W ++ ([32,32,114,117,108,101,32] ++ (u ++ [32,123,10]) ++ ((acts.map gA).flatten ++ [32,32,125,10])) = (W ++ ([32,32,114,117,108,101,32] ++ (u ++ [32,123,10])) ++ (acts.map gA).flatten) ++ [32,32,125,10]:=by simp only [List.append_assoc]
   rw [hS2] at hS
   generalize W ++ ([32,32,114,117,108,101,32] ++ (u ++ [32,123,10])) ++ (acts.map gA).flatten = Q at *
   simp (maxDischargeDepth:=9) only [sT.1,sC.1,sTA.1,sCA.1,qe,qj,qk,Src.isTmp,qg,Src.hangs,qn.isT,qi,qd,Nat.testBit,bne,simprocAttr,-Int.reduceNatCast',ht',e1',e3',e8',w,lq,qb5,qb6,if_true,List.append_assoc,List.cons_append,List.nil_append] at he
   subst he
   refine .inl ⟨_,q - 1,rfl,by omega,_,G',i + 1,rfl,hbx',hlt',htk',by simp only [qh,ht'],?_,?_,?_,by omega⟩
   ·simp only [sT.1,sC.1,sTA.1,sCA.1,qe,qj,qk,Src.isTmp,qg,Src.hangs,qn.isT,qi,qd,Nat.testBit,bne,simprocAttr,-Int.reduceNatCast',ht',e1']
   ·rw [hS];simp only [sT.1,sC.1,sTA.1,sCA.1,qe,qj,qk,Src.isTmp,qg,Src.hangs,qn.isT,qi,qd,Nat.testBit,bne,simprocAttr,-Int.reduceNatCast',ht']
   ·simp only [sT.1,sC.1,sTA.1,sCA.1,qe,qj,qk,Src.isTmp,qg,Src.hangs,qn.isT,qi,qd,Nat.testBit,bne,simprocAttr,-Int.reduceNatCast',ht',w]
 ·have c1:ilt (i:Int) (rules.length:Int) = false:=qcJ (by omega)
  rw [List.take_of_length_le hi] at e3
  simp only [qi2,sT.1,sC.1,sTA.1,sCA.1,qe,qj,qk,Src.isTmp,qg,Src.hangs,qn.isT,qi,qd,Nat.testBit,bne,simprocAttr,-Int.reduceNatCast',ht,e1,e3,e6,c1,hbx,List.length_map] at he
  subst he
  refine .inr ⟨_,_,rfl,by simp,_,G,rfl,hbx,hlt,htk,by simp only [qh,ht],?_,?_,rfl⟩
  all_goals simp only [sT.1,sC.1,sTA.1,sCA.1,qe,qj,qk,Src.isTmp,qg,Src.hangs,qn.isT,qi,qd,Nat.testBit,bne,simprocAttr,-Int.reduceNatCast',ht,e1,e3]
end
end Go.Proofs.YtkmlapholimbcaaGreatDoor.AE
namespace Go.Proofs.YtkmlapholimbcaaGreatDoor.AE
open Go.AE
theorem qfo {α:Type} (l:List α) (f:α→Str):qa4 (l.map f) = (l.map fun x=>f x ++ [10]).flatten:=by rw [qa4,List.map_map];rfl
theorem qvM {l:List Str}:(qa4 l == []) = l.isEmpty:=by
 cases l with
 | nil=>rfl
 | cons x r=>simp [qa4]
theorem qhT (m:qy):qa4 (qbE m) = bif (inL m).isEmpty then qdh m ++ [32,123,125,10] else qdh m ++ ([32,123,10] ++ (qa4 (inL m) ++ [125,10])):=by
 rw [qbE]
 cases (inL m).isEmpty with
 | true=>rw [cond_true,cond_true,qa5,List.append_assoc];rfl
 | false=>
  rw [cond_false,cond_false,show (qdh m ++ [32,123]) :: (inL m ++ [[125]]) = [qdh m ++ [32,123]] ++ (inL m ++ [[125]]) from rfl,qbb,qbb,qa5,qa5]
  simp only [List.append_assoc,List.cons_append,List.nil_append]
theorem quN {m:qy} (hm:qbB m):(qa4 (inL m)).length ≤ 36100000:=by
 have h1:=qgH (L:=inL m) (b:=100000) fun s hs=>by
  have hf:=qhU hm
  refine hf s ?_
  rw [qbE]
  cases he:(inL m).isEmpty with
  | true=>rw [List.isEmpty_iff.1 he] at hs;cases hs
  | false=>rw [cond_false];exact List.mem_cons_of_mem _ (List.mem_append_left _ hs)
 have h2:=qiR hm
 have:(inL m).length * 100001 ≤ 360 * 100001:=Nat.mul_le_mul_right _ h2
 omega
def qmO (m:qy):Prop:=∀r ∈ m.rules,∀a ∈ r.acts,a.kind = 0∨a.kind = 1∨a.kind = 2∨a.kind = 3
section
variable {h:List qq}
set_option maxHeartbeats 8000000 in
theorem qrG {m:qy} (hm:qbB m) (hc:m.coupled = false) (ht1:m.ta.length = 1) (h:List qq):Wd (.fn 33 [] []) [m.enc] h = some (.ret (.str (qa4 (qbE m))),h,false):=by
 have hN:=quN hm
 have hne:(inL m).isEmpty = false:=by
  have hb:(qbi [32,32] [105,110,116] (m.int.map qM.txt)).isEmpty = false:=by
   rw [qbi]
   cases (m.int.map qM.txt).isEmpty <;> rfl
  rw [inL,hc,cond_false,qkz]
  cases hq:(m.vars.map fun s=>[32,32,118,97,114,32] ++ s.txt) with
  | cons x r=>simp
  | nil=>
   obtain ⟨e,he⟩:=qcq ht1
   rw [he]
   simp
 have a1:=fun h=>qdx hm.ins.1 hm.ins.2 (word:=[105,110]) (by simp) h
 have a2:=fun h=>qdx hm.outs.1 hm.outs.2 (word:=[111,117,116]) (by simp) h
 have a3:=fun h=>qf5 hm.int.1 hm.int.2 (word:=[105,110,116]) (by simp) h
 have a4:=fun h=>qf5 hm.ext.1 hm.ext.2 (word:=[101,120,116]) (by simp) h
 have a5:=fun h=>qf5 hm.own.1 hm.own.2 (word:=[99,111,110]) (by simp) h
 have hv:=hm.vars
 have hem:=hm.emits
 have hta:=hm.ta.2
 have hnm:=hm.name
 clear hm
 rw [qhT,hne,cond_false]
 obtain ⟨nm,cp,ins,outs,vars,ta,emits,int,ext,con,own,parts,links,rules⟩:=m
 simp only at hc ht1 a1 a2 a3 a4 a5 hv hem hta hnm
 subst hc
 rw [inL,qkz] at *
 simp only [cond_false,qdh,qvP] at hN ⊢
 clear hne
 simp only [qbb] at hN ⊢
 have f1:(fun p:qJ=>[32,32] ++ ([105,110] ++ ([32] ++ p.txt))) = fun p=>[32,32,105,110,32] ++ p.txt:=rfl
 have f2:(fun p:qJ=>[32,32] ++ ([111,117,116] ++ ([32] ++ p.txt))) = fun p=>[32,32,111,117,116,32] ++ p.txt:=rfl
 rw [f1] at a1
 rw [f2] at a2
 generalize qa4 (ins.map _) = A at *
 generalize qa4 (outs.map _) = B at *
 obtain ⟨e,rfl⟩:=qcq ht1
 have hE:=fun G=>qeO (hta e (by simp)) G
 have hu:=qbn (hta e (by simp))
 simp only [List.map_cons,List.map_nil,qa5,taT] at hN ⊢
 generalize eT e = u at *
 clear hta ht1
 obtain ⟨op,n,m2,sb,aS⟩:=e
 rw [ql] at hE
 rw [qfo vars,qfo emits] at hN ⊢
 generalize hg0:(fun x:qM=>([32,32,118,97,114,32] ++ x.txt) ++ [10]) = g0 at *
 generalize hg1:(fun x:qam=>([32,32] ++ x.txt) ++ [10]) = g1 at *
 have hx0:∀x,g0 x = [32,32,118,97,114,32] ++ (x.txt ++ [10]):=fun x=>by rw [←hg0];simp only [List.append_assoc]
 have hx1:∀x,g1 x = [32,32] ++ (x.txt ++ [10]):=fun x=>by rw [←hg1];simp only [List.append_assoc]
 generalize qa4 (qbi [32,32] [105,110,116] (int.map qM.txt)) = I at *
 generalize qa4 (qbi [32,32] [101,120,116] (ext.map qM.txt)) = X at *
 generalize hO:qa4 (qbi [32,32] [99,111,110] (own.map qM.txt)) = O at *
 simp only [List.length_append,List.length_cons,List.length_nil] at hN
 have lA:∀k,36100000 ≤ k→A.length ≤ k:=fun k hk=>by omega
 have lB:∀k,36100000 ≤ k→B.length ≤ k:=fun k hk=>by omega
 have lu:∀k,44000 ≤ k→u.length ≤ k:=fun k hk=>by omega
 have lI:∀k,36100000 ≤ k→I.length ≤ k:=fun k hk=>by omega
 have lX:∀k,36100000 ≤ k→X.length ≤ k:=fun k hk=>by omega
 have ln:∀k,16 ≤ k→nm.length ≤ k:=fun k hk=>by omega
 obtain ⟨H,hH⟩ :∃H,H = h ++ [qq.cells [.str nm,.bool false,.lst (ins.map qJ.enc) .no,.lst (outs.map qJ.enc) .no,.lst (vars.map qM.enc) .no,.lst [.agg [.int .i64 op,.int .i64 n,.str m2,.str sb,.lst (aS.map exV) .no]] .no,.lst (emits.map qam.enc) .no,.lst (int.map qM.enc) .no,.lst (ext.map qM.enc) .no,.int .i64 con,.lst (own.map qM.enc) .no,.lst (parts.map qaw.enc) .no,.lst (links.map qZ.enc) .no,.lst (rules.map qab.enc) .no]]:=⟨_,rfl⟩
 have hbx:H[h.length]? = some (.cells [.str nm,.bool false,.lst (ins.map qJ.enc) .no,.lst (outs.map qJ.enc) .no,.lst (vars.map qM.enc) .no,.lst [.agg [.int .i64 op,.int .i64 n,.str m2,.str sb,.lst (aS.map exV) .no]] .no,.lst (emits.map qam.enc) .no,.lst (int.map qM.enc) .no,.lst (ext.map qM.enc) .no,.int .i64 con,.lst (own.map qM.enc) .no,.lst (parts.map qaw.enc) .no,.lst (links.map qZ.enc) .no,.lst (rules.map qab.enc) .no]):=by rw [hH,qbD];rfl
 have htk:H.take h.length = h:=by rw [hH,List.take_left]
 rw [qy.enc,qy.cs]
 generalize hw:Wd _ _ h = w
 rw [qt rfl (show T.get 33 = some c33 by kernel_rfl)] at hw
 simp only [List.map_cons,List.map_nil,ql] at hw
 simp (maxDischargeDepth:=9) only [c33,sT.1,sC.1,sTA.1,sCA.1,qe,qj,qk,Src.isTmp,qg,Src.hangs,qn.isT,qi,qd,Nat.testBit,bne,simprocAttr,-Int.reduceNatCast',a1,a2,lA,lB,qb5,qb6,if_true] at hw
 rw [←hH] at hw
 generalize hr1:qx h.length Wd (.loop qly) _ = r at hw
 obtain ⟨x,st',rfl,tt,rfl,ht,e1,e3,rfl⟩:=qaT hr1 (qwV (s0:=A ++ B) (b:=h.length) hbx hv.1 hv.2 hx0 (by rw [List.length_append];omega) vars.length _ ⟨_,0,rfl,by simp only [sT.1,sC.1,sTA.1,sCA.1,qe,qj,qk,Src.isTmp,qg,Src.hangs,qn.isT,qi,qd,Nat.testBit,bne,simprocAttr,-Int.reduceNatCast'],by simp only [sT.1,sC.1,sTA.1,sCA.1,qe,qj,qk,Src.isTmp,qg,Src.hangs,qn.isT,qi,qd,Nat.testBit,bne,simprocAttr,-Int.reduceNatCast'],by simp only [sT.1,sC.1,sTA.1,sCA.1,qe,qj,qk,Src.isTmp,qg,Src.hangs,qn.isT,qi,qd,Nat.testBit,bne,simprocAttr,-Int.reduceNatCast',List.take_zero,List.map_nil,List.flatten_nil,List.append_nil],by simp only [sT.1,sC.1,sTA.1,sCA.1,qe,qj,qk,Src.isTmp,qg,Src.hangs,qn.isT,qi,qd,Nat.testBit,bne,simprocAttr,-Int.reduceNatCast',Int.natCast_zero],by omega⟩)
 obtain ⟨S1,hS1⟩ :∃S,S = A ++ B ++ (vars.map g0).flatten:=⟨_,rfl⟩
 have n1:=congrArg List.length hS1
 simp only [List.length_append] at n1
 have l1:∀k,36100000 ≤ k→S1.length ≤ k:=fun k hk=>by omega
 rw [←hS1] at e3
 simp (maxDischargeDepth:=9) only [sT.1,sC.1,sTA.1,sCA.1,qe,qj,qk,Src.isTmp,qg,Src.hangs,qn.isT,qi,qd,Nat.testBit,bne,simprocAttr,-Int.reduceNatCast',ht,e1,e3,hbx,ixe,hE,l1,lu,qb5,qb6,if_true,List.append_assoc,List.cons_append,List.nil_append] at hw
 generalize hr2:qx h.length Wd (.loop qi1) _ = r at hw
 obtain ⟨x,st',rfl,tt,rfl,ht,e1,e3,rfl⟩:=qaT hr2 (qty (s0:=S1 ++ 32 :: 32 :: 116 :: 97 :: 32 :: (u ++ [59,10])) (b:=h.length) hbx hem.1 hem.2 hx1 (by simp only [List.length_append,List.length_cons,List.length_nil];omega) emits.length _ ⟨_,0,rfl,by simp only [sT.1,sC.1,sTA.1,sCA.1,qe,qj,qk,Src.isTmp,qg,Src.hangs,qn.isT,qi,qd,Nat.testBit,bne,simprocAttr,-Int.reduceNatCast',ht],by simp only [sT.1,sC.1,sTA.1,sCA.1,qe,qj,qk,Src.isTmp,qg,Src.hangs,qn.isT,qi,qd,Nat.testBit,bne,simprocAttr,-Int.reduceNatCast',ht,e1],by simp only [sT.1,sC.1,sTA.1,sCA.1,qe,qj,qk,Src.isTmp,qg,Src.hangs,qn.isT,qi,qd,Nat.testBit,bne,simprocAttr,-Int.reduceNatCast',ht,List.take_zero,List.map_nil,List.flatten_nil,List.append_nil],by simp only [sT.1,sC.1,sTA.1,sCA.1,qe,qj,qk,Src.isTmp,qg,Src.hangs,qn.isT,qi,qd,Nat.testBit,bne,simprocAttr,-Int.reduceNatCast',ht,Int.natCast_zero],by omega⟩)
 obtain ⟨S2,hS2⟩ :∃S,S = S1 ++ 32 :: 32 :: 116 :: 97 :: 32 :: (u ++ [59,10]) ++ (emits.map g1).flatten:=⟨_,rfl⟩
 have n2:=congrArg List.length hS2
 simp only [List.length_append,List.length_cons,List.length_nil] at n2
 have l2:∀k,36100000 ≤ k→S2.length ≤ k:=fun k hk=>by omega
 rw [←hS2] at e3
 have e12:((1:Int) == 2) = false:=by kernel_rfl
 cases c1:con == 1 with
 | true=>
  have:con = 1:=beq_iff_eq.1 c1
  subst this
  simp (maxDischargeDepth:=9) only [sT.1,sC.1,sTA.1,sCA.1,qe,qj,qk,Src.isTmp,qg,Src.hangs,qn.isT,qi,qd,Nat.testBit,bne,simprocAttr,-Int.reduceNatCast',ht,e1,e3,hbx,a3,a4,e12,beq_self_eq_true,l2,lI,lX,ln,qb5,qb6,if_true,List.append_assoc,List.cons_append,List.nil_append] at hw
  subst hw
  refine (congrArg some (qac htk rfl)).trans ?_
  rw [hS2,hS1]
  simp only [cond_true,cond_false,beq_self_eq_true,qa5,List.append_assoc,List.cons_append,List.nil_append]
 | false=>
  cases c2:con == 2 with
  | true=>
   rw [c1,c2,cond_false,cond_true,hO] at hN
   have lO:∀k,36100000 ≤ k→O.length ≤ k:=fun k hk=>by omega
   have lQ:∀k,36100000 ≤ k→S2.length + (I.length + (X.length + O.length)) ≤ k:=fun k hk=>by omega
   simp (maxDischargeDepth:=9) only [sT.1,sC.1,sTA.1,sCA.1,qe,qj,qk,Src.isTmp,qg,Src.hangs,qn.isT,qi,qd,Nat.testBit,bne,simprocAttr,-Int.reduceNatCast',ht,e1,e3,hbx,a3,a4,a5,c1,c2,l2,lI,lX,lO,lQ,ln,qb5,qb6,if_true,List.append_assoc,List.cons_append,List.nil_append] at hw
   subst hw
   refine (congrArg some (qac htk rfl)).trans ?_
   rw [hS2,hS1]
   simp only [cond_true,cond_false,hO,List.append_assoc,List.cons_append,List.nil_append]
  | false=>
   simp (maxDischargeDepth:=9) only [sT.1,sC.1,sTA.1,sCA.1,qe,qj,qk,Src.isTmp,qg,Src.hangs,qn.isT,qi,qd,Nat.testBit,bne,simprocAttr,-Int.reduceNatCast',ht,e1,e3,hbx,a3,a4,c1,c2,l2,lI,lX,ln,qb5,qb6,if_true,List.append_assoc,List.cons_append,List.nil_append] at hw
   subst hw
   refine (congrArg some (qac htk rfl)).trans ?_
   rw [hS2,hS1]
   simp only [cond_false,qa4,List.map_nil,List.flatten_nil,List.append_assoc,List.cons_append,List.nil_append,List.append_nil]
set_option maxHeartbeats 8000000 in
theorem qrP {m:qy} (hm:qbB m) (hc:m.coupled = true) (hk:qmO m) (h:List qq):Wd (.fn 33 [] []) [m.enc] h = some (.ret (.str (qa4 (qbE m))),h,false):=by
 have hN:=quN hm
 have a1:=fun h=>qdx hm.ins.1 hm.ins.2 (word:=[105,110]) (by simp) h
 have a2:=fun h=>qdx hm.outs.1 hm.outs.2 (word:=[111,117,116]) (by simp) h
 have hpa:=hm.parts
 have hli:=hm.links
 have hru:=hm.rules
 have hnm:=hm.name
 clear hm
 rw [qhT]
 have hem:=qvM (l:=inL m)
 rw [qmO] at hk
 obtain ⟨nm,cp,ins,outs,vars,ta,emits,int,ext,con,own,parts,links,rules⟩:=m
 simp only at hc hk a1 a2 hpa hli hru hnm
 subst hc
 rw [←hem]
 rw [inL,qnt] at *
 simp only [cond_true,qdh] at hN ⊢
 clear hem
 simp only [qbb] at hN ⊢
 have f1:(fun p:qJ=>[32,32] ++ ([105,110] ++ ([32] ++ p.txt))) = fun p=>[32,32,105,110,32] ++ p.txt:=rfl
 have f2:(fun p:qJ=>[32,32] ++ ([111,117,116] ++ ([32] ++ p.txt))) = fun p=>[32,32,111,117,116,32] ++ p.txt:=rfl
 rw [f1] at a1
 rw [f2] at a2
 generalize qa4 (ins.map _) = A at *
 generalize qa4 (outs.map _) = B at *
 have hR:qa4 (rules.map qab.lines).flatten = (rules.map fun r=>qa4 r.lines).flatten:=by
  clear hN hru hk
  induction rules with
  | nil=>rfl
  | cons r l ih=>rw [List.map_cons,List.flatten_cons,qbb,ih,List.map_cons,List.flatten_cons]
 rw [qfo parts,qfo links,hR] at hN ⊢
 clear hR
 generalize hg0:(fun x:qaw=>([32,32,112,97,114,116,32] ++ x.txt) ++ [10]) = g0 at *
 generalize hg1:(fun x:qZ=>([32,32,108,105,110,107,32] ++ x.txt) ++ [10]) = g1 at *
 generalize hg2:(fun x:qab=>qa4 x.lines) = g2 at *
 have hx0:∀x,g0 x = [32,32,112,97,114,116,32] ++ (x.txt ++ [10]):=fun x=>by rw [←hg0];simp only [List.append_assoc]
 have hx1:∀x,g1 x = [32,32,108,105,110,107,32] ++ (x.txt ++ [10]):=fun x=>by rw [←hg1];simp only [List.append_assoc]
 have hx2:∀x,g2 x = qa4 x.lines:=fun x=>by rw [←hg2]
 simp only [List.length_append] at hN
 have lA:∀k,36100000 ≤ k→A.length ≤ k:=fun k hk=>by omega
 have lB:∀k,36100000 ≤ k→B.length ≤ k:=fun k hk=>by omega
 have ln:∀k,16 ≤ k→nm.length ≤ k:=fun k hk=>by omega
 obtain ⟨H,hH⟩ :∃H,H = h ++ [qq.cells [.str nm,.bool true,.lst (ins.map qJ.enc) .no,.lst (outs.map qJ.enc) .no,.lst (vars.map qM.enc) .no,.lst (ta.map exV) .no,.lst (emits.map qam.enc) .no,.lst (int.map qM.enc) .no,.lst (ext.map qM.enc) .no,.int .i64 con,.lst (own.map qM.enc) .no,.lst (parts.map qaw.enc) .no,.lst (links.map qZ.enc) .no,.lst (rules.map qab.enc) .no]]:=⟨_,rfl⟩
 have hbx:H[h.length]? = some (.cells [.str nm,.bool true,.lst (ins.map qJ.enc) .no,.lst (outs.map qJ.enc) .no,.lst (vars.map qM.enc) .no,.lst (ta.map exV) .no,.lst (emits.map qam.enc) .no,.lst (int.map qM.enc) .no,.lst (ext.map qM.enc) .no,.int .i64 con,.lst (own.map qM.enc) .no,.lst (parts.map qaw.enc) .no,.lst (links.map qZ.enc) .no,.lst (rules.map qab.enc) .no]):=by rw [hH,qbD];rfl
 have htk:H.take h.length = h:=by rw [hH,List.take_left]
 have hHl:h.length < H.length:=by rw [hH];simp
 rw [qy.enc,qy.cs]
 generalize hw:Wd _ _ h = w
 rw [qt rfl (show T.get 33 = some c33 by kernel_rfl)] at hw
 simp (maxDischargeDepth:=9) only [c33,sT.1,sC.1,sTA.1,sCA.1,qe,qj,qk,Src.isTmp,qg,Src.hangs,qn.isT,qi,qd,Nat.testBit,bne,simprocAttr,-Int.reduceNatCast',a1,a2,lA,lB,qb5,qb6,if_true] at hw
 rw [←hH] at hw
 generalize hr1:qx h.length Wd (.loop qlz) _ = r at hw
 obtain ⟨x,st',rfl,tt,rfl,ht,e1,e3,rfl⟩:=qaT hr1 (qtA (s0:=A ++ B) (b:=h.length) hbx hpa.1 hpa.2 hx0 (by rw [List.length_append];omega) parts.length _ ⟨_,0,rfl,by simp only [sT.1,sC.1,sTA.1,sCA.1,qe,qj,qk,Src.isTmp,qg,Src.hangs,qn.isT,qi,qd,Nat.testBit,bne,simprocAttr,-Int.reduceNatCast'],by simp only [sT.1,sC.1,sTA.1,sCA.1,qe,qj,qk,Src.isTmp,qg,Src.hangs,qn.isT,qi,qd,Nat.testBit,bne,simprocAttr,-Int.reduceNatCast'],by simp only [sT.1,sC.1,sTA.1,sCA.1,qe,qj,qk,Src.isTmp,qg,Src.hangs,qn.isT,qi,qd,Nat.testBit,bne,simprocAttr,-Int.reduceNatCast',List.take_zero,List.map_nil,List.flatten_nil,List.append_nil],by simp only [sT.1,sC.1,sTA.1,sCA.1,qe,qj,qk,Src.isTmp,qg,Src.hangs,qn.isT,qi,qd,Nat.testBit,bne,simprocAttr,-Int.reduceNatCast',Int.natCast_zero],by omega⟩)
 simp only [sT.1,sC.1,sTA.1,sCA.1,qe,qj,qk,Src.isTmp,qg,Src.hangs,qn.isT,qi,qd,Nat.testBit,bne,simprocAttr,-Int.reduceNatCast',ht,e1,e3] at hw
 generalize hr2:qx h.length Wd (.loop qlA) _ = r at hw
 obtain ⟨x,st',rfl,tt,rfl,ht,e1,e3,rfl⟩:=qaT hr2 (qtz (s0:=A ++ B ++ (parts.map g0).flatten) (b:=h.length) hbx hli.1 hli.2 hx1 (by simp only [List.length_append];omega) links.length _ ⟨_,0,rfl,by simp only [sT.1,sC.1,sTA.1,sCA.1,qe,qj,qk,Src.isTmp,qg,Src.hangs,qn.isT,qi,qd,Nat.testBit,bne,simprocAttr,-Int.reduceNatCast',ht],by simp only [sT.1,sC.1,sTA.1,sCA.1,qe,qj,qk,Src.isTmp,qg,Src.hangs,qn.isT,qi,qd,Nat.testBit,bne,simprocAttr,-Int.reduceNatCast',ht,e1],by simp only [sT.1,sC.1,sTA.1,sCA.1,qe,qj,qk,Src.isTmp,qg,Src.hangs,qn.isT,qi,qd,Nat.testBit,bne,simprocAttr,-Int.reduceNatCast',ht,e3,List.take_zero,List.map_nil,List.flatten_nil,List.append_nil],by simp only [sT.1,sC.1,sTA.1,sCA.1,qe,qj,qk,Src.isTmp,qg,Src.hangs,qn.isT,qi,qd,Nat.testBit,bne,simprocAttr,-Int.reduceNatCast',ht,Int.natCast_zero],by omega⟩)
 simp only [sT.1,sC.1,sTA.1,sCA.1,qe,qj,qk,Src.isTmp,qg,Src.hangs,qn.isT,qi,qd,Nat.testBit,bne,simprocAttr,-Int.reduceNatCast',ht,e1,e3] at hw
 generalize hr3:qx h.length Wd (.loop qi2) _ = r at hw
 obtain ⟨x,st',rfl,tt,G,rfl,hbx,hlt,htk,ht,e1,e3,rfl⟩:=qaT hr3 (qtB (s0:=A ++ B ++ (parts.map g0).flatten ++ (links.map g1).flatten) (nm:=nm) (cp:=true) (ins:=ins) (outs:=outs) (vars:=vars) (int:=int) (ext:=ext) (own:=own) (ta:=ta.map exV) (emits:=emits) (con:=con) (parts:=parts) (links:=links) (h:=h) (by have:=hru.1;omega) (fun r hr=>⟨(hru.2 r hr).1,(hru.2 r hr).2.1,fun a ha=>⟨(hru.2 r hr).2.2 a ha,hk r hr a ha⟩⟩) hx2 (by simp only [List.length_append];omega) rules.length _ ⟨_,H,0,rfl,hbx,hHl,htk,by simp only [sT.1,sC.1,sTA.1,sCA.1,qe,qj,qk,Src.isTmp,qg,Src.hangs,qn.isT,qi,qd,Nat.testBit,bne,simprocAttr,-Int.reduceNatCast',ht],by simp only [sT.1,sC.1,sTA.1,sCA.1,qe,qj,qk,Src.isTmp,qg,Src.hangs,qn.isT,qi,qd,Nat.testBit,bne,simprocAttr,-Int.reduceNatCast',ht,e1],by simp only [sT.1,sC.1,sTA.1,sCA.1,qe,qj,qk,Src.isTmp,qg,Src.hangs,qn.isT,qi,qd,Nat.testBit,bne,simprocAttr,-Int.reduceNatCast',ht,e3,List.take_zero,List.map_nil,List.flatten_nil,List.append_nil],by simp only [sT.1,sC.1,sTA.1,sCA.1,qe,qj,qk,Src.isTmp,qg,Src.hangs,qn.isT,qi,qd,Nat.testBit,bne,simprocAttr,-Int.reduceNatCast',ht,Int.natCast_zero],by omega⟩)
 obtain ⟨S,hS⟩ :∃S,S = A ++ B ++ (parts.map g0).flatten ++ (links.map g1).flatten ++ (rules.map g2).flatten:=⟨_,rfl⟩
 have n1:=congrArg List.length hS
 simp only [List.length_append] at n1
 have l1:∀k,36100000 ≤ k→S.length ≤ k:=fun k hk=>by omega
 rw [←hS] at e3
 have hS2:A ++ (B ++ ((parts.map g0).flatten ++ ((links.map g1).flatten ++ (rules.map g2).flatten))) = S:=by rw [hS];simp only [List.append_assoc]
 rw [hS2]
 cases hS0:S == [] with
 | true=>
  simp (maxDischargeDepth:=9) only [sT.1,sC.1,sTA.1,sCA.1,qe,qj,qk,Src.isTmp,qg,Src.hangs,qn.isT,qi,qd,Nat.testBit,bne,simprocAttr,-Int.reduceNatCast',ht,e1,e3,hbx,hS0,ln,qb5,qb6,if_true,List.append_assoc,List.cons_append,List.nil_append] at hw
  subst hw
  refine (congrArg some (qac htk rfl)).trans ?_
  simp only [cond_true,List.append_assoc,List.cons_append,List.nil_append]
 | false=>
  simp (maxDischargeDepth:=9) only [sT.1,sC.1,sTA.1,sCA.1,qe,qj,qk,Src.isTmp,qg,Src.hangs,qn.isT,qi,qd,Nat.testBit,bne,simprocAttr,-Int.reduceNatCast',ht,e1,e3,hbx,hS0,l1,ln,qb5,qb6,if_true,List.append_assoc,List.cons_append,List.nil_append] at hw
  subst hw
  refine (congrArg some (qac htk rfl)).trans ?_
  simp only [cond_false,List.append_assoc,List.cons_append,List.nil_append]
end
end Go.Proofs.YtkmlapholimbcaaGreatDoor.AE
