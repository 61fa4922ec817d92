/- A part of the proof: the abstract executor and what goes through it (part 16). No condition. -/
import Derived.Test.YtkmlapholimbcaaGreatDoorMp15
import Derived.Test.YtkmlapholimbcaaGreatDoorMp7
set_option maxRecDepth 100000
namespace Go.Proofs.YtkmlapholimbcaaGreatDoor.AE
open Go.AE
def qrF (m:qy):Bool:=ilt 0 (m.parts.length:Nat) || (ilt 0 (m.links.length:Nat) || (ilt 0 (m.rules.length:Nat) || (!(((m.ta.length:Nat):Int) == 1) || (ilt 8 (m.emits.length:Nat) || (ilt m.con 0 || (ilt 2 m.con || (ilt m.con 2 && ilt 0 (m.own.length:Nat))))))))
def qvS (m:qy):Bool:=ilt 0 (m.vars.length:Nat) || (ilt 0 (m.ta.length:Nat) || (ilt 0 (m.emits.length:Nat) || (ilt 0 (m.int.length:Nat) || (ilt 0 (m.ext.length:Nat) || (ilt 0 (m.own.length:Nat) || (!(m.con == 0) || (ilt 32 (m.parts.length:Nat) || (ilt 200 (m.links.length:Nat) || ilt 4 (m.rules.length:Nat)))))))))
theorem qmZ (m:qy):qgG m = (!qrF m && (m.emits.all qde && (okL m.vars && (okL m.int && (okL m.ext && (okL m.own && m.ta.all (right 20))))))):=by
 rw [Bool.eq_iff_iff,qgG,qrF]
 simp only [Bool.and_eq_true,Bool.not_eq_true',Bool.or_eq_false_iff,Bool.and_eq_false_iff,Bool.not_eq_false',qaj,qaL,decide_eq_false_iff_not,decide_eq_true_eq,beq_iff_eq]
 constructor
 ·rintro ⟨⟨h1,h2,h3,h4,h5⟩,h6,h7,h8,h9,h10,h11,h12,h13,h14⟩
  exact ⟨⟨h1,h2,h3,h11,by omega,h4,h5,by omega⟩,h14,h7,h8,h9,h10,h12⟩
 ·rintro ⟨⟨h1,h2,h3,h11,h13,h4,h5,h6⟩,h14,h7,h8,h9,h10,h12⟩
  exact ⟨⟨h1,h2,h3,h4,h5⟩,by omega,h7,h8,h9,h10,h11,h12,by omega,h14⟩
theorem qnu (m:qy):qgJ m = (!qvS m && (m.parts.all qd2 && (m.links.all qc7 && m.rules.all qd5))):=by
 rw [Bool.eq_iff_iff,qgJ,qvS]
 simp only [Bool.and_eq_true,Bool.not_eq_true',Bool.or_eq_false_iff,Bool.and_eq_false_iff,Bool.not_eq_false',qaj,qaL,decide_eq_false_iff_not,decide_eq_true_eq,beq_iff_eq]
 constructor
 ·rintro ⟨⟨h1,h2,h3,h4⟩,⟨h5,h6,h7⟩,h8,h9,h10,h11,h12,h13⟩
  exact ⟨⟨h1,h2,h3,h5,h6,h7,h4,by omega,by omega,by omega⟩,h9,h11,h13⟩
 ·rintro ⟨⟨h1,h2,h3,h5,h6,h7,h4,h8,h10,h12⟩,h9,h11,h13⟩
  exact ⟨⟨h1,h2,h3,h4⟩,⟨h5,h6,h7⟩,by omega,h9,by omega,h11,by omega,h13⟩
theorem qj9 (m:qy):qbJ m = (qG m.name && ((!ilt 8 (m.ins.length:Nat) && m.ins.all qcr) && ((!ilt 8 (m.outs.length:Nat) && m.outs.all qcr) && bif m.coupled then qgJ m else qgG m))):=by
 rw [qbJ]
 cases qG m.name <;> cases ilt 8 (m.ins.length:Nat) <;> cases ilt 8 (m.outs.length:Nat) <;> cases m.ins.all qcr <;> cases m.outs.all qcr <;> rfl
theorem ix0 (o p:Int) (q r:Str) (s:qf) (f:qf9):qa3 5 (.lst [.agg [.int .i64 o,.int .i64 p,.str q,.str r,s]] f) (.int .i64 0) = some (.iptr [.int .i64 o,.int .i64 p,.str q,.str r,s] 0):=by
 have:=qu (k:=5) (xs:=[.agg [.int .i64 o,.int .i64 p,.str q,.str r,s]]) (f:=f) (j:=.i64) (n:=0) rfl rfl
 exact this
section
variable {h:List qq}
set_option maxHeartbeats 8000000 in
theorem qp2 {m:qy} (hm:qe0 m) (h:List qq):Wd (.fn 32 [] []) [m.enc] h = some (.ret (.bool (qbJ m)),h,false):=by
 have a1:=fun h=>qh1 m.ins h
 have a2:=fun h=>qh1 m.outs h
 have a3:=fun h=>qfw hm.vars.2 h
 have a4:=fun h=>qfw hm.int.2 h
 have a5:=fun h=>qfw hm.ext.2 h
 have a6:=fun h=>qfw hm.own.2 h
 have eA:=qmZ m
 have eC:=qnu m
 rw [qrF] at eA
 rw [qvS] at eC
 rw [qj9]
 generalize qgG m = ba at *
 generalize qgJ m = bc at *
 have hl5:=hm.emits
 have hl6:=hm.parts
 have hl7:=hm.links
 have hl8:=hm.rules
 have hta:=hm.ta.2
 clear hm
 obtain ⟨nm,cp,ins,outs,vars,ta,emits,int,ext,con,own,parts,links,rules⟩:=m
 rw [qy.enc,qy.cs]
 simp only at *
 generalize (!ilt 8 (ins.length:Nat) && ins.all qcr) = b1 at *
 generalize (!ilt 8 (outs.length:Nat) && outs.all qcr) = b2 at *
 generalize hw:Wd _ _ h = w
 rw [qt rfl (show T.get 32 = some c32 by kernel_rfl)] at hw
 cases hn:qG nm with
 | false=>
  simp only [c32,sT.1,sC.1,sTA.1,sCA.1,qe,qj,qk,Src.isTmp,qg,Src.hangs,qn.isT,qi,qd,Nat.testBit,bne,simprocAttr,-Int.reduceNatCast',qH,hn] at hw
  subst hw
  rw [Bool.false_and]
 | true=>
  cases b1 with
  | false=>
   simp only [c32,sT.1,sC.1,sTA.1,sCA.1,qe,qj,qk,Src.isTmp,qg,Src.hangs,qn.isT,qi,qd,Nat.testBit,bne,simprocAttr,-Int.reduceNatCast',qH,hn,a1] at hw
   subst hw
   rw [Bool.false_and,Bool.and_false]
  | true=>
   cases b2 with
   | false=>
    simp only [c32,sT.1,sC.1,sTA.1,sCA.1,qe,qj,qk,Src.isTmp,qg,Src.hangs,qn.isT,qi,qd,Nat.testBit,bne,simprocAttr,-Int.reduceNatCast',qH,hn,a1,a2] at hw
    subst hw
    rw [Bool.false_and,Bool.and_false,Bool.and_false]
   | true=>
    rw [Bool.true_and,Bool.true_and,Bool.true_and]
    cases cp with
    | false=>
     rw [cond_false]
     cases c1:(ilt 0 (parts.length:Nat) || (ilt 0 (links.length:Nat) || (ilt 0 (rules.length:Nat) || (!(((ta.length:Nat):Int) == 1) || (ilt 8 (emits.length:Nat) || (ilt con 0 || (ilt 2 con || (ilt con 2 && ilt 0 (own.length:Nat))))))))) with
     | true=>
      rw [c1,Bool.not_true,Bool.false_and] at eA
      simp only [c32,sT.1,sC.1,sTA.1,sCA.1,qe,qj,qk,Src.isTmp,qg,Src.hangs,qn.isT,qi,qd,Nat.testBit,bne,simprocAttr,-Int.reduceNatCast',qH,hn,a1,a2,List.length_map,Bool.or_assoc,c1] at hw
      subst hw
      rw [eA]
     | false=>
      have ht1:ta.length = 1:=by
       simp only [Bool.or_eq_false_iff,Bool.not_eq_false',beq_iff_eq] at c1
       omega
      obtain ⟨e,rfl⟩:=qcq ht1
      have hE:=fun h=>qhx (hta e (by simp)) h
      rw [c1,Bool.not_false,Bool.true_and,List.all_cons,List.all_nil,Bool.and_true] at eA
      generalize right 20 e = v at hE eA
      obtain ⟨op,n,m2,sb,aS⟩:=e
      rw [ql] at hE
      have loop:=qtu (nm:=nm) (cp:=false) (ins:=ins) (outs:=outs) (vars:=vars) (ta:=[.mk op n m2 sb aS]) (emits:=emits) (int:=int) (ext:=ext) (con:=con) (own:=own) (parts:=parts) (links:=links) (rules:=rules) (h:=h) hl5.1 hl5.2
      rw [List.map_cons,List.map_nil,ql] at loop
      simp only [List.length_cons,List.length_nil] at c1
      simp only [c32,sT.1,sC.1,sTA.1,sCA.1,qe,qj,qk,Src.isTmp,qg,Src.hangs,qn.isT,qi,qd,Nat.testBit,bne,simprocAttr,-Int.reduceNatCast',qH,hn,a1,a2,List.length_map,List.map_cons,List.map_nil,ql,Bool.or_assoc,c1] at hw
      generalize hr:qx h.length Wd (.loop qfS) _ = r at hw
      obtain ⟨x,st',rfl,tt,G,rfl,hbx,hlt,htk,ht,e1,⟨rfl,hR⟩ | ⟨rfl,hR,e2⟩⟩:=qaT hr (loop emits.length _ ⟨_,_,0,rfl,by rw [qbD];rfl,by simp,by simp,by simp only [sT.1,sC.1,sTA.1,sCA.1,qe,qj,qk,Src.isTmp,qg,Src.hangs,qn.isT,qi,qd,Nat.testBit,bne,simprocAttr,-Int.reduceNatCast'],by simp only [sT.1,sC.1,sTA.1,sCA.1,qe,qj,qk,Src.isTmp,qg,Src.hangs,qn.isT,qi,qd,Nat.testBit,bne,simprocAttr,-Int.reduceNatCast'],by simp only [sT.1,sC.1,sTA.1,sCA.1,qe,qj,qk,Src.isTmp,qg,Src.hangs,qn.isT,qi,qd,Nat.testBit,bne,simprocAttr,-Int.reduceNatCast',Int.natCast_zero],by omega,rfl⟩)
      ·rw [hR,Bool.true_and] at eA
       cases o1:okL vars <;> rw [o1] at a3 eA
       ·simp only [sT.1,sC.1,sTA.1,sCA.1,qe,qj,qk,Src.isTmp,qg,Src.hangs,qn.isT,qi,qd,Nat.testBit,bne,simprocAttr,-Int.reduceNatCast',ht,e1,hbx,htk,a3] at hw
        subst hw
        rw [eA,Bool.false_and]
        exact congrArg some (qac htk rfl)
       ·cases o2:okL int <;> rw [o2] at a4 eA
        ·simp only [sT.1,sC.1,sTA.1,sCA.1,qe,qj,qk,Src.isTmp,qg,Src.hangs,qn.isT,qi,qd,Nat.testBit,bne,simprocAttr,-Int.reduceNatCast',ht,e1,hbx,htk,a3,a4] at hw
         subst hw
         rw [eA,Bool.true_and,Bool.false_and]
         exact congrArg some (qac htk rfl)
        ·cases o3:okL ext <;> rw [o3] at a5 eA
         ·simp only [sT.1,sC.1,sTA.1,sCA.1,qe,qj,qk,Src.isTmp,qg,Src.hangs,qn.isT,qi,qd,Nat.testBit,bne,simprocAttr,-Int.reduceNatCast',ht,e1,hbx,htk,a3,a4,a5] at hw
          subst hw
          rw [eA,Bool.true_and,Bool.true_and,Bool.false_and]
          exact congrArg some (qac htk rfl)
         ·cases o4:okL own <;> rw [o4] at a6 eA
          ·simp only [sT.1,sC.1,sTA.1,sCA.1,qe,qj,qk,Src.isTmp,qg,Src.hangs,qn.isT,qi,qd,Nat.testBit,bne,simprocAttr,-Int.reduceNatCast',ht,e1,hbx,htk,a3,a4,a5,a6] at hw
           subst hw
           rw [eA,Bool.true_and,Bool.true_and,Bool.true_and,Bool.false_and]
           exact congrArg some (qac htk rfl)
          ·simp only [sT.1,sC.1,sTA.1,sCA.1,qe,qj,qk,Src.isTmp,qg,Src.hangs,qn.isT,qi,qd,Nat.testBit,bne,simprocAttr,-Int.reduceNatCast',ht,e1,hbx,htk,a3,a4,a5,a6,ix0,hE] at hw
           subst hw
           rw [eA,Bool.true_and,Bool.true_and,Bool.true_and,Bool.true_and]
           exact congrArg some (qac htk rfl)
      ·rw [hR,Bool.false_and] at eA
       simp only [sT.1,sC.1,sTA.1,sCA.1,qe,qj,qk,Src.isTmp,qg,Src.hangs,qn.isT,qi,qd,Nat.testBit,bne,simprocAttr,-Int.reduceNatCast',ht,e2,htk] at hw
       subst hw
       rw [eA]
       exact congrArg some (qac htk rfl)
    | true=>
     rw [cond_true]
     cases c1:(ilt 0 (vars.length:Nat) || (ilt 0 (ta.length:Nat) || (ilt 0 (emits.length:Nat) || (ilt 0 (int.length:Nat) || (ilt 0 (ext.length:Nat) || (ilt 0 (own.length:Nat) || (!(con == 0) || (ilt 32 (parts.length:Nat) || (ilt 200 (links.length:Nat) || ilt 4 (rules.length:Nat)))))))))) with
     | true=>
      rw [c1,Bool.not_true,Bool.false_and] at eC
      simp only [c32,sT.1,sC.1,sTA.1,sCA.1,qe,qj,qk,Src.isTmp,qg,Src.hangs,qn.isT,qi,qd,Nat.testBit,bne,simprocAttr,-Int.reduceNatCast',qH,hn,a1,a2,List.length_map,Bool.or_assoc,c1] at hw
      subst hw
      rw [eC]
     | false=>
      rw [c1,Bool.not_false,Bool.true_and] at eC
      simp only [c32,sT.1,sC.1,sTA.1,sCA.1,qe,qj,qk,Src.isTmp,qg,Src.hangs,qn.isT,qi,qd,Nat.testBit,bne,simprocAttr,-Int.reduceNatCast',qH,hn,a1,a2,List.length_map,Bool.or_assoc,c1] at hw
      obtain ⟨G,hG⟩ :∃G,G = h ++ [qq.cells [.str nm,.bool true,.lst (ins.map qJ.enc) .no,.lst (outs.map qJ.enc) .no,.lst (vars.map qM.enc) .no,.lst (ta.map exV) .no,.lst (emits.map qam.enc) .no,.lst (int.map qM.enc) .no,.lst (ext.map qM.enc) .no,.int .i64 con,.lst (own.map qM.enc) .no,.lst (parts.map qaw.enc) .no,.lst (links.map qZ.enc) .no,.lst (rules.map qab.enc) .no]]:=⟨_,rfl⟩
      have hbx:G[h.length]? = some (.cells [.str nm,.bool true,.lst (ins.map qJ.enc) .no,.lst (outs.map qJ.enc) .no,.lst (vars.map qM.enc) .no,.lst (ta.map exV) .no,.lst (emits.map qam.enc) .no,.lst (int.map qM.enc) .no,.lst (ext.map qM.enc) .no,.int .i64 con,.lst (own.map qM.enc) .no,.lst (parts.map qaw.enc) .no,.lst (links.map qZ.enc) .no,.lst (rules.map qab.enc) .no]):=by rw [hG,qbD];rfl
      have htk:G.take h.length = h:=by rw [hG,List.take_left]
      rw [←hG] at hw
      generalize hr:qx h.length Wd (.loop qlv) _ = r at hw
      obtain ⟨x,st',rfl,tt,rfl,ht,e1,⟨rfl,hR⟩ | ⟨rfl,hR,e2⟩⟩:=qaT hr (qtw hbx hl6 parts.length _ ⟨_,0,rfl,by simp only [sT.1,sC.1,sTA.1,sCA.1,qe,qj,qk,Src.isTmp,qg,Src.hangs,qn.isT,qi,qd,Nat.testBit,bne,simprocAttr,-Int.reduceNatCast'],by simp only [sT.1,sC.1,sTA.1,sCA.1,qe,qj,qk,Src.isTmp,qg,Src.hangs,qn.isT,qi,qd,Nat.testBit,bne,simprocAttr,-Int.reduceNatCast'],by simp only [sT.1,sC.1,sTA.1,sCA.1,qe,qj,qk,Src.isTmp,qg,Src.hangs,qn.isT,qi,qd,Nat.testBit,bne,simprocAttr,-Int.reduceNatCast',Int.natCast_zero],by omega,rfl⟩)
      ·rw [hR,Bool.true_and] at eC
       simp only [sT.1,sC.1,sTA.1,sCA.1,qe,qj,qk,Src.isTmp,qg,Src.hangs,qn.isT,qi,qd,Nat.testBit,bne,simprocAttr,-Int.reduceNatCast',ht,e1] at hw
       generalize hr2:qx h.length Wd (.loop qlw) _ = r2 at hw
       obtain ⟨x,st',rfl,tt,rfl,ht,e1,⟨rfl,hR⟩ | ⟨rfl,hR,e2⟩⟩:=qaT hr2 (qtv hbx hl7 links.length _ ⟨_,0,rfl,by simp only [sT.1,sC.1,sTA.1,sCA.1,qe,qj,qk,Src.isTmp,qg,Src.hangs,qn.isT,qi,qd,Nat.testBit,bne,simprocAttr,-Int.reduceNatCast',ht],by simp only [sT.1,sC.1,sTA.1,sCA.1,qe,qj,qk,Src.isTmp,qg,Src.hangs,qn.isT,qi,qd,Nat.testBit,bne,simprocAttr,-Int.reduceNatCast',ht,e1],by simp only [sT.1,sC.1,sTA.1,sCA.1,qe,qj,qk,Src.isTmp,qg,Src.hangs,qn.isT,qi,qd,Nat.testBit,bne,simprocAttr,-Int.reduceNatCast',ht,Int.natCast_zero],by omega,rfl⟩)
       ·rw [hR,Bool.true_and] at eC
        simp only [sT.1,sC.1,sTA.1,sCA.1,qe,qj,qk,Src.isTmp,qg,Src.hangs,qn.isT,qi,qd,Nat.testBit,bne,simprocAttr,-Int.reduceNatCast',ht,e1] at hw
        generalize hr3:qx h.length Wd (.loop qhO) _ = r3 at hw
        obtain ⟨x,st',rfl,tt,rfl,ht,e1,⟨rfl,hR⟩ | ⟨rfl,hR,e2⟩⟩:=qaT hr3 (qtx hbx hl8.1 hl8.2 rules.length _ ⟨_,0,rfl,by simp only [sT.1,sC.1,sTA.1,sCA.1,qe,qj,qk,Src.isTmp,qg,Src.hangs,qn.isT,qi,qd,Nat.testBit,bne,simprocAttr,-Int.reduceNatCast',ht],by simp only [sT.1,sC.1,sTA.1,sCA.1,qe,qj,qk,Src.isTmp,qg,Src.hangs,qn.isT,qi,qd,Nat.testBit,bne,simprocAttr,-Int.reduceNatCast',ht,e1],by simp only [sT.1,sC.1,sTA.1,sCA.1,qe,qj,qk,Src.isTmp,qg,Src.hangs,qn.isT,qi,qd,Nat.testBit,bne,simprocAttr,-Int.reduceNatCast',ht,Int.natCast_zero],by omega,rfl⟩)
        ·simp only [sT.1,sC.1,sTA.1,sCA.1,qe,qj,qk,Src.isTmp,qg,Src.hangs,qn.isT,qi,qd,Nat.testBit,bne,simprocAttr,-Int.reduceNatCast',ht,e1,htk] at hw
         subst hw
         rw [eC,hR]
         exact congrArg some (qac htk rfl)
        ·simp only [sT.1,sC.1,sTA.1,sCA.1,qe,qj,qk,Src.isTmp,qg,Src.hangs,qn.isT,qi,qd,Nat.testBit,bne,simprocAttr,-Int.reduceNatCast',ht,e2,htk] at hw
         subst hw
         rw [eC,hR]
         exact congrArg some (qac htk rfl)
       ·rw [hR,Bool.false_and] at eC
        simp only [sT.1,sC.1,sTA.1,sCA.1,qe,qj,qk,Src.isTmp,qg,Src.hangs,qn.isT,qi,qd,Nat.testBit,bne,simprocAttr,-Int.reduceNatCast',ht,e2,htk] at hw
        subst hw
        rw [eC]
        exact congrArg some (qac htk rfl)
      ·rw [hR,Bool.false_and] at eC
       simp only [sT.1,sC.1,sTA.1,sCA.1,qe,qj,qk,Src.isTmp,qg,Src.hangs,qn.isT,qi,qd,Nat.testBit,bne,simprocAttr,-Int.reduceNatCast',ht,e2,htk] at hw
       subst hw
       rw [eC]
       exact congrArg some (qac htk rfl)
set_option maxHeartbeats 4000000 in
theorem qtU {p:qaP} (hm:∀m ∈ p.models,qe0 m) (h:List qq):Wd (.fn 15 [] []) [p.enc] h = some (.ret (.bool (qh2 p)),h,false):=by
 obtain ⟨l,r⟩:=p
 rw [qh2,qaP.enc,qaP.cs]
 simp only at *
 have n1:ilt (l.length:Nat) 1 = !ile 1 (l.length:Nat):=qeQ _ _
 have n2:ilt 24 (l.length:Nat) = !ile (l.length:Nat) 24:=qeQ _ _
 generalize hw:Wd _ _ h = w
 rw [qt rfl (show T.get 15 = some c15 by kernel_rfl)] at hw
 cases c1:ile 1 (l.length:Nat) with
 | false=>
  simp only [c15,sT.1,sC.1,sTA.1,sCA.1,qe,qj,qk,Src.isTmp,qg,Src.hangs,qn.isT,qi,qd,Nat.testBit,bne,simprocAttr,-Int.reduceNatCast',List.length_map,n1,c1,Bool.not_false] at hw
  subst hw
  rw [Bool.false_and]
 | true=>
  cases c2:ile (l.length:Nat) 24 with
  | false=>
   simp only [c15,sT.1,sC.1,sTA.1,sCA.1,qe,qj,qk,Src.isTmp,qg,Src.hangs,qn.isT,qi,qd,Nat.testBit,bne,simprocAttr,-Int.reduceNatCast',List.length_map,n1,n2,c1,c2,Bool.not_false,Bool.not_true] at hw
   subst hw
   rw [Bool.false_and,Bool.and_false]
  | true=>
   cases hn:qG r with
   | false=>
    simp only [c15,sT.1,sC.1,sTA.1,sCA.1,qe,qj,qk,Src.isTmp,qg,Src.hangs,qn.isT,qi,qd,Nat.testBit,bne,simprocAttr,-Int.reduceNatCast',List.length_map,n1,n2,c1,c2,qH,hn,Bool.not_false,Bool.not_true] at hw
    subst hw
    rw [Bool.false_and,Bool.and_false,Bool.and_false]
   | true=>
    have hl:l.length ≤ 24:=by rw [qaL] at c2;have:=of_decide_eq_true c2;omega
    rw [Bool.true_and,Bool.true_and,Bool.true_and]
    simp only [c15,sT.1,sC.1,sTA.1,sCA.1,qe,qj,qk,Src.isTmp,qg,Src.hangs,qn.isT,qi,qd,Nat.testBit,bne,simprocAttr,-Int.reduceNatCast',List.length_map,n1,n2,c1,c2,qH,hn,Bool.not_false,Bool.not_true] at hw
    obtain ⟨G,hG⟩ :∃G,G = h ++ [qq.cells [.lst (l.map qy.enc) .no,.str r]]:=⟨_,rfl⟩
    have hbx:G[h.length]? = some (.cells [.lst (l.map qy.enc) .no,.str r]):=by rw [hG,qbD];rfl
    have htk:G.take h.length = h:=by rw [hG,List.take_left]
    rw [←hG] at hw
    have loop:∀q st,(∃tt i,st = ⟨tt,G,false⟩∧tt.length = 34∧lkp tt 1 = .ptr h.length 0∧lkp tt 3 = .int .i64 (i:Nat)∧i + q = l.length∧l.all qbJ = (l.drop i).all qbJ)→
      ∃x st',qx h.length Wd (.loop qlt) st = some (x,st')∧(∃tt,st' = ⟨tt,G,false⟩∧tt.length = 34∧((x = .exit 0∧l.all qbJ = true)∨(x = .ret∧l.all qbJ = false∧lkp tt 2 = .bool false))):=by
     refine qD _ (fun x st'=>∃tt,st' = ⟨tt,G,false⟩∧tt.length = 34∧((x = .exit 0∧l.all qbJ = true)∨(x = .ret∧l.all qbJ = false∧lkp tt 2 = .bool false))) ?_
     rintro q st ⟨tt,i,rfl,ht,e1,e3,hiq,hR⟩
     generalize he:qx h.length Wd qlt _ = r
     rcases Nat.lt_or_ge i l.length with hi | hi
     ·have c1:ilt (i:Int) (l.length:Int) = true:=qcK (by omega)
      have w:=qE (n:=i) (by omega)
      have hE:=fun h=>qp2 (hm _ (List.getElem_mem hi)) h
      have hg:(l.map qy.enc)[i]? = some (qy.enc l[i]):=by rw [List.getElem?_map,List.getElem?_eq_getElem hi];rfl
      rw [qb9 hi] at hR
      generalize l[i] = y at hE hg hR
      generalize qbJ y = v at hE hR
      obtain ⟨a1,a2,a3,a4,a5,a6,a7,a8,a9,a10,a11,a12,a13,a14⟩:=y
      rw [qy.enc,qy.cs] at hE hg
      simp only at hE hg
      have hx:qa3 14 (.lst (l.map qy.enc) .no) (.int .i64 (i:Nat)) = some (.iptr _ 0):=qu hg rfl
      simp only [qf.cells] at hx
      cases v <;> simp only [qlt,sT.1,sC.1,sTA.1,sCA.1,qe,qj,qk,Src.isTmp,qg,Src.hangs,qn.isT,qi,qd,Nat.testBit,bne,simprocAttr,-Int.reduceNatCast',ht,e1,e3,c1,w,hx,hbx,hE,List.length_map] at he <;> subst he
      ·refine .inr ⟨_,_,rfl,by simp,_,rfl,by simp only [qh,ht],.inr ⟨rfl,hR,?_⟩⟩
       simp only [sT.1,sC.1,sTA.1,sCA.1,qe,qj,qk,Src.isTmp,qg,Src.hangs,qn.isT,qi,qd,Nat.testBit,bne,simprocAttr,-Int.reduceNatCast',ht]
      ·refine .inl ⟨_,q - 1,rfl,by omega,_,i + 1,rfl,by simp only [qh,ht],?_,?_,by omega,by rw [hR,Bool.true_and]⟩
       all_goals simp only [sT.1,sC.1,sTA.1,sCA.1,qe,qj,qk,Src.isTmp,qg,Src.hangs,qn.isT,qi,qd,Nat.testBit,bne,simprocAttr,-Int.reduceNatCast',ht,e1,w]
     ·have c1:ilt (i:Int) (l.length:Int) = false:=qcJ (by omega)
      rw [qb8 hi] at hR
      simp only [qlt,sT.1,sC.1,sTA.1,sCA.1,qe,qj,qk,Src.isTmp,qg,Src.hangs,qn.isT,qi,qd,Nat.testBit,bne,simprocAttr,-Int.reduceNatCast',ht,e1,e3,c1,hbx,List.length_map] at he
      subst he
      exact .inr ⟨_,_,rfl,by simp,_,rfl,by simp only [qh,ht],.inl ⟨rfl,hR⟩⟩
    generalize hr:qx h.length Wd (.loop qlt) _ = r at hw
    obtain ⟨x,st',rfl,tt,rfl,ht,⟨rfl,hR⟩ | ⟨rfl,hR,e2⟩⟩:=qaT hr (loop l.length _ ⟨_,0,rfl,by simp only [sT.1,sC.1,sTA.1,sCA.1,qe,qj,qk,Src.isTmp,qg,Src.hangs,qn.isT,qi,qd,Nat.testBit,bne,simprocAttr,-Int.reduceNatCast'],by simp only [sT.1,sC.1,sTA.1,sCA.1,qe,qj,qk,Src.isTmp,qg,Src.hangs,qn.isT,qi,qd,Nat.testBit,bne,simprocAttr,-Int.reduceNatCast'],by simp only [sT.1,sC.1,sTA.1,sCA.1,qe,qj,qk,Src.isTmp,qg,Src.hangs,qn.isT,qi,qd,Nat.testBit,bne,simprocAttr,-Int.reduceNatCast',Int.natCast_zero],by omega,rfl⟩)
    ·simp only [sT.1,sC.1,sTA.1,sCA.1,qe,qj,qk,Src.isTmp,qg,Src.hangs,qn.isT,qi,qd,Nat.testBit,bne,simprocAttr,-Int.reduceNatCast',ht,htk] at hw
     subst hw
     rw [hR]
     exact congrArg some (qac htk rfl)
    ·simp only [sT.1,sC.1,sTA.1,sCA.1,qe,qj,qk,Src.isTmp,qg,Src.hangs,qn.isT,qi,qd,Nat.testBit,bne,simprocAttr,-Int.reduceNatCast',ht,e2,htk] at hw
     subst hw
     rw [hR]
     exact congrArg some (qac htk rfl)
end
end Go.Proofs.YtkmlapholimbcaaGreatDoor.AE
namespace Go.Proofs.YtkmlapholimbcaaGreatDoor.AE
open Go.AE
set_option maxHeartbeats 2000000 in
theorem qwj:∀(d:Nat),d ≤ 40→∀(e:Exl) (room:Int),-1 ≤ room→room ≤ 600→∀h,∃r:Int,Wd (.fn 28 [] []) [exV e,.int .i64 (d:Nat),.int .i64 room] h = some (.ret (.int .i64 r),h,false)∧-1 ≤ r∧r ≤ 600∧(0 ≤ r→Fit d e∧r + sz d e ≤ room):=by
 intro d
 induction d with
 | zero=>
  rintro _ ⟨op,n,nm,sb,aS⟩ room h1 h2 h
  have z0:(((0:Nat):Int) == 0) = true:=by kernel_rfl
  refine ⟨-1,?_,by omega,by omega,fun h=>by omega⟩
  rw [ql,qt rfl (show T.get 28 = some c28 by kernel_rfl)]
  simp only [c28,sT.1,sC.1,qe,qd,Nat.testBit,simprocAttr,-Int.reduceNatCast',z0,Bool.true_or]
 | succ d ih=>
  rintro hd ⟨op,n,nm,sb,aS⟩ room h1 h2 h
  have z0:(((d + 1:Nat):Int) == 0) = false:=by rw [beq_eq_false_iff_ne];omega
  obtain ⟨G,hG⟩ :∃G,G = h ++ [qq.cells [.int .i64 op,.int .i64 n,.str nm,.str sb,.lst (aS.map exV) .no]]:=⟨_,rfl⟩
  have hbx:G[h.length]? = some (.cells [.int .i64 op,.int .i64 n,.str nm,.str sb,.lst (aS.map exV) .no]):=by rw [hG,qbD];rfl
  have hlt:h.length < G.length:=by rw [hG];simp
  have htk:G.take h.length = h:=by rw [hG];simp
  rw [ql]
  generalize hw:Wd _ _ h = w
  rw [qt rfl (show T.get 28 = some c28 by kernel_rfl)] at hw
  cases hc:(ilt room 1 || ilt 20 (aS.length:Int) || ilt 100 (nm.length:Int) || ilt 100 (sb.length:Int)) with
  | true=>
   simp only [c28,sT.1,sC.1,qe,qd,Nat.testBit,simprocAttr,-Int.reduceNatCast',z0,hc,Bool.false_or,List.length_map] at hw
   subst hw
   exact ⟨-1,rfl,by omega,by omega,fun h=>by omega⟩
  | false=>
   have hroom:1 ≤ room∧aS.length ≤ 20:=by
    simp only [Bool.or_eq_false_iff,qaj,decide_eq_false_iff_not] at hc
    omega
   have loop:∀q st,(∃(tt:List qf) (i:Nat) (rm:Int),st = ⟨tt,G,false⟩∧tt.length = 55∧lkp tt 1 = .int .i64 (d + 1:Nat)∧lkp tt 2 = .int .i64 rm∧lkp tt 3 = .ptr h.length 0∧lkp tt 7 = .int .i64 (i:Nat)∧i + q = aS.length∧-1 ≤ rm∧rm ≤ 600∧(0 ≤ rm→(∀j (hj:j < aS.length),j < i→Fit d aS[j])∧rm + (((aS.take i).map (sz d)).sum:Nat) ≤ room - 1))→
     ∃x st',qx h.length Wd (.loop qi0) st = some (x,st')∧(x = .exit 0∧∃(tt:List qf) (rm:Int),st' = ⟨tt,G,false⟩∧tt.length = 55∧lkp tt 2 = .int .i64 rm∧-1 ≤ rm∧rm ≤ 600∧(0 ≤ rm→(∀j (hj:j < aS.length),Fit d aS[j])∧rm + ((aS.map (sz d)).sum:Nat) ≤ room - 1)):=by
    refine qD _ (fun x st'=>x = .exit 0∧∃(tt:List qf) (rm:Int),st' = ⟨tt,G,false⟩∧tt.length = 55∧lkp tt 2 = .int .i64 rm∧-1 ≤ rm∧rm ≤ 600∧(0 ≤ rm→(∀j (hj:j < aS.length),Fit d aS[j])∧rm + ((aS.map (sz d)).sum:Nat) ≤ room - 1)) ?_
    rintro q st ⟨tt,i,rm,rfl,ht,e1,e2,e3,e7,hiq,hr1,hr2,hfit⟩
    generalize he:qx h.length Wd qi0 _ = r
    rcases Nat.lt_or_ge i aS.length with hi | hi
    ·have c1:ilt (i:Int) (aS.length:Int) = true:=by rw [qaj];simp;omega
     by_cases hrm:0 ≤ rm
     ·have c2:ile 0 rm = true:=by rw [qaL];simpa using hrm
      have w:=qE (n:=i) (by omega)
      have wd:IntKind.i64.wrap (((d + 1:Nat):Int) - 1) = ((d:Nat):Int):=by rw [qbG (by omega) (by omega)];omega
      obtain ⟨r',hr',b1,b2,b3⟩:=ih (by omega) aS[i] rm hr1 hr2 G
      have hg:(aS.map exV)[i]? = some (exV aS[i]):=by rw [List.getElem?_map,List.getElem?_eq_getElem hi];rfl
      have hfit2:0 ≤ r'→(∀j (hj:j < aS.length),j < i + 1→Fit d aS[j])∧r' + (((aS.take (i + 1)).map (sz d)).sum:Nat) ≤ room - 1:=fun h0=>by
       refine ⟨fun j hj hji=>?_,?_⟩
       ·by_cases e:j = i
        ·subst e
         exact (b3 h0).1
        ·exact (hfit hrm).1 j hj (by omega)
       ·have:=(b3 h0).2
        have:=(hfit hrm).2
        rw [List.take_succ_eq_append_getElem hi,List.map_append,List.sum_append]
        simp only [List.map_cons,List.map_nil,List.sum_cons,List.sum_nil]
        omega
      generalize aS[i] = y at hr' hg
      obtain ⟨op',n',nm',sb',as'⟩:=y
      rw [ql] at hr' hg
      have hx:qa3 5 (.lst (aS.map exV) .no) (.int .i64 (i:Nat)) = some (.iptr [.int .i64 op',.int .i64 n',.str nm',.str sb',.lst (as'.map exV) .no] 0):=qu hg rfl
      simp only [qi0,sT.1,sC.1,qe,qd,Nat.testBit,simprocAttr,-Int.reduceNatCast',ht,e1,e2,e3,e7,c1,c2,w,wd,hx,hbx,hr',List.length_map] at he
      subst he
      refine .inl ⟨_,q - 1,rfl,by omega,_,i + 1,r',rfl,by simp only [qh,ht],?_,?_,?_,?_,by omega,b1,b2,hfit2⟩
      ·simp only [sT.1,sC.1,qe,qd,Nat.testBit,simprocAttr,-Int.reduceNatCast',ht,e1]
      ·simp only [sT.1,sC.1,qe,qd,Nat.testBit,simprocAttr,-Int.reduceNatCast',ht]
      ·simp only [sT.1,sC.1,qe,qd,Nat.testBit,simprocAttr,-Int.reduceNatCast',ht,e3]
      ·simp only [sT.1,sC.1,qe,qd,Nat.testBit,simprocAttr,-Int.reduceNatCast',ht]
     ·have c2:ile 0 rm = false:=by rw [qaL];simpa using hrm
      simp only [qi0,sT.1,sC.1,qe,qd,Nat.testBit,simprocAttr,-Int.reduceNatCast',ht,e1,e2,e3,e7,c1,c2,hbx,List.length_map] at he
      subst he
      exact .inr ⟨_,_,rfl,by simp,rfl,_,rm,rfl,by simp only [qh,ht],by simp only [sT.1,sC.1,qe,qd,Nat.testBit,simprocAttr,-Int.reduceNatCast',ht,e2],hr1,hr2,fun h0=>absurd h0 hrm⟩
    ·have c1:ilt (i:Int) (aS.length:Int) = false:=by rw [qaj];simp;omega
     simp only [qi0,sT.1,sC.1,qe,qd,Nat.testBit,simprocAttr,-Int.reduceNatCast',ht,e1,e2,e3,e7,c1,hbx,List.length_map] at he
     subst he
     exact .inr ⟨_,_,rfl,by simp,rfl,_,rm,rfl,by simp only [qh,ht],by simp only [sT.1,sC.1,qe,qd,Nat.testBit,simprocAttr,-Int.reduceNatCast',ht,e2],hr1,hr2,fun h0=>⟨fun j hj=>(hfit h0).1 j hj (by omega),by have:=(hfit h0).2;rw [List.take_of_length_le hi] at this;exact this⟩⟩
   have wr:IntKind.i64.wrap (room - 1) = room - 1:=qbG (by omega) (by omega)
   simp only [c28,sT.1,sC.1,qe,qd,Nat.testBit,simprocAttr,-Int.reduceNatCast',z0,hc,Bool.false_or,List.length_map,wr] at hw
   generalize hr:qx h.length Wd (.loop qi0) _ = r at hw
   obtain ⟨x,st',rfl,rfl,tt,rm,rfl,ht,e2,b1,b2,b3⟩:=qaT hr (loop aS.length _ ⟨_,0,room - 1,by rw [hG],by simp only [sT.1,sC.1,qe,qd,Nat.testBit,simprocAttr,-Int.reduceNatCast'],by simp only [sT.1,sC.1,qe,qd,Nat.testBit,simprocAttr,-Int.reduceNatCast'],by simp only [sT.1,sC.1,qe,qd,Nat.testBit,simprocAttr,-Int.reduceNatCast'],by simp only [sT.1,sC.1,qe,qd,Nat.testBit,simprocAttr,-Int.reduceNatCast'],by simp only [sT.1,sC.1,qe,qd,Nat.testBit,simprocAttr,-Int.reduceNatCast',Int.natCast_zero],by omega,by omega,by omega,fun _=>⟨fun j _ h=>absurd h (by omega),by simp⟩⟩)
   simp only [sT.1,sC.1,qe,qd,Nat.testBit,simprocAttr,-Int.reduceNatCast',ht,e2] at hw
   subst hw
   refine ⟨rm,congrArg some (qac htk rfl),b1,b2,fun h0=>⟨⟨hroom.2,fun a ha=>?_⟩,?_⟩⟩
   ·obtain ⟨j,hj,rfl⟩:=List.getElem_of_mem ha
    exact (b3 h0).1 j hj
   ·have:=(b3 h0).2
    rw [sz]
    omega
end Go.Proofs.YtkmlapholimbcaaGreatDoor.AE
namespace Go.Proofs.YtkmlapholimbcaaGreatDoor.AE
open Go.AE
set_option maxHeartbeats 2000000 in
theorem qwN:∀(d:Nat),d ≤ 10→∀(e:Tp) (room:Int),-1 ≤ room→room ≤ 600→∀h,∃r:Int,Wd (.fn 45 [] []) [tpV e,.int .i64 (d:Nat),.int .i64 room] h = some (.ret (.int .i64 r),h,false)∧-1 ≤ r∧r ≤ 600∧(0 ≤ r→r + 1 ≤ room):=by
 intro d
 induction d with
 | zero=>
  rintro _ ⟨k,aS⟩ room h1 h2 h
  have z0:(((0:Nat):Int) == 0) = true:=by kernel_rfl
  refine ⟨-1,?_,by omega,by omega,fun h=>by omega⟩
  rw [qa9,qt rfl (show T.get 45 = some c45 by kernel_rfl)]
  simp only [c45,sT.1,sC.1,qe,qd,Nat.testBit,simprocAttr,-Int.reduceNatCast',z0,Bool.true_or]
 | succ d ih=>
  rintro hd ⟨k,aS⟩ room h1 h2 h
  have z0:(((d + 1:Nat):Int) == 0) = false:=by rw [beq_eq_false_iff_ne];omega
  obtain ⟨G,hG⟩ :∃G,G = h ++ [qq.cells [.int .i64 k,.lst (aS.map tpV) .no]]:=⟨_,rfl⟩
  have hbx:G[h.length]? = some (.cells [.int .i64 k,.lst (aS.map tpV) .no]):=by rw [hG,qbD];rfl
  have hlt:h.length < G.length:=by rw [hG];simp
  have htk:G.take h.length = h:=by rw [hG];simp
  rw [qa9]
  generalize hw:Wd _ _ h = w
  rw [qt rfl (show T.get 45 = some c45 by kernel_rfl)] at hw
  cases hc:(ilt room 1 || ilt 20 (aS.length:Int)) with
  | true=>
   simp only [c45,sT.1,sC.1,qe,qd,Nat.testBit,simprocAttr,-Int.reduceNatCast',z0,hc,Bool.false_or,List.length_map] at hw
   subst hw
   exact ⟨-1,rfl,by omega,by omega,fun h=>by omega⟩
  | false=>
   have hroom:1 ≤ room∧aS.length ≤ 20:=by
    simp only [Bool.or_eq_false_iff,qaj,decide_eq_false_iff_not] at hc
    omega
   have loop:∀q st,(∃(tt:List qf) (i:Nat) (rm:Int),st = ⟨tt,G,false⟩∧tt.length = 43∧lkp tt 1 = .int .i64 (d + 1:Nat)∧lkp tt 2 = .int .i64 rm∧lkp tt 3 = .ptr h.length 0∧lkp tt 7 = .int .i64 (i:Nat)∧i + q = aS.length∧-1 ≤ rm∧rm ≤ 600∧(0 ≤ rm→rm ≤ room - 1))→
     ∃x st',qx h.length Wd (.loop qi4) st = some (x,st')∧(x = .exit 0∧∃(tt:List qf) (rm:Int),st' = ⟨tt,G,false⟩∧tt.length = 43∧lkp tt 2 = .int .i64 rm∧-1 ≤ rm∧rm ≤ 600∧(0 ≤ rm→rm ≤ room - 1)):=by
    refine qD _ (fun x st'=>x = .exit 0∧∃(tt:List qf) (rm:Int),st' = ⟨tt,G,false⟩∧tt.length = 43∧lkp tt 2 = .int .i64 rm∧-1 ≤ rm∧rm ≤ 600∧(0 ≤ rm→rm ≤ room - 1)) ?_
    rintro q st ⟨tt,i,rm,rfl,ht,e1,e2,e3,e7,hiq,hr1,hr2,hfit⟩
    generalize he:qx h.length Wd qi4 _ = r
    rcases Nat.lt_or_ge i aS.length with hi | hi
    ·have c1:ilt (i:Int) (aS.length:Int) = true:=qcK (by omega)
     by_cases hrm:0 ≤ rm
     ·have c2:ile 0 rm = true:=qli hrm
      have w:=qE (n:=i) (by omega)
      have wd:IntKind.i64.wrap (((d + 1:Nat):Int) - 1) = ((d:Nat):Int):=by rw [qbG (by omega) (by omega)];omega
      obtain ⟨r',hr',b1,b2,b3⟩:=ih (by omega) aS[i] rm hr1 hr2 G
      have hg:(aS.map tpV)[i]? = some (tpV aS[i]):=by rw [List.getElem?_map,List.getElem?_eq_getElem hi];rfl
      generalize aS[i] = y at hr' hg
      obtain ⟨k',as'⟩:=y
      rw [qa9] at hr' hg
      have hx:qa3 2 (.lst (aS.map tpV) .no) (.int .i64 (i:Nat)) = some (.iptr [.int .i64 k',.lst (as'.map tpV) .no] 0):=qu hg rfl
      simp only [qi4,sT.1,sC.1,qe,qd,Nat.testBit,simprocAttr,-Int.reduceNatCast',ht,e1,e2,e3,e7,c1,c2,w,wd,hx,hbx,hr',List.length_map] at he
      subst he
      refine .inl ⟨_,q - 1,rfl,by omega,_,i + 1,r',rfl,by simp only [qh,ht],?_,?_,?_,?_,by omega,b1,b2,fun h0=>by have:=b3 h0;have:=hfit hrm;omega⟩
      all_goals simp only [sT.1,sC.1,qe,qd,Nat.testBit,simprocAttr,-Int.reduceNatCast',ht,e1,e3]
     ·have c2:ile 0 rm = false:=qoF hrm
      simp only [qi4,sT.1,sC.1,qe,qd,Nat.testBit,simprocAttr,-Int.reduceNatCast',ht,e1,e2,e3,e7,c1,c2,hbx,List.length_map] at he
      subst he
      exact .inr ⟨_,_,rfl,by simp,rfl,_,rm,rfl,by simp only [qh,ht],by simp only [sT.1,sC.1,qe,qd,Nat.testBit,simprocAttr,-Int.reduceNatCast',ht,e2],hr1,hr2,fun h0=>absurd h0 hrm⟩
    ·have c1:ilt (i:Int) (aS.length:Int) = false:=qcJ (by omega)
     simp only [qi4,sT.1,sC.1,qe,qd,Nat.testBit,simprocAttr,-Int.reduceNatCast',ht,e1,e2,e3,e7,c1,hbx,List.length_map] at he
     subst he
     exact .inr ⟨_,_,rfl,by simp,rfl,_,rm,rfl,by simp only [qh,ht],by simp only [sT.1,sC.1,qe,qd,Nat.testBit,simprocAttr,-Int.reduceNatCast',ht,e2],hr1,hr2,hfit⟩
   have wr:IntKind.i64.wrap (room - 1) = room - 1:=qbG (by omega) (by omega)
   simp only [c45,sT.1,sC.1,qe,qd,Nat.testBit,simprocAttr,-Int.reduceNatCast',z0,hc,Bool.false_or,List.length_map,wr] at hw
   generalize hr:qx h.length Wd (.loop qi4) _ = r at hw
   obtain ⟨x,st',rfl,rfl,tt,rm,rfl,ht,e2,b1,b2,b3⟩:=qaT hr (loop aS.length _ ⟨_,0,room - 1,by rw [hG],by simp only [sT.1,sC.1,qe,qd,Nat.testBit,simprocAttr,-Int.reduceNatCast'],by simp only [sT.1,sC.1,qe,qd,Nat.testBit,simprocAttr,-Int.reduceNatCast'],by simp only [sT.1,sC.1,qe,qd,Nat.testBit,simprocAttr,-Int.reduceNatCast'],by simp only [sT.1,sC.1,qe,qd,Nat.testBit,simprocAttr,-Int.reduceNatCast'],by simp only [sT.1,sC.1,qe,qd,Nat.testBit,simprocAttr,-Int.reduceNatCast',Int.natCast_zero],by omega,by omega,by omega,fun _=>by omega⟩)
   simp only [sT.1,sC.1,qe,qd,Nat.testBit,simprocAttr,-Int.reduceNatCast',ht,e2] at hw
   subst hw
   exact ⟨rm,congrArg some (qac htk rfl),b1,b2,fun h0=>by have:=b3 h0;omega⟩
def Go1 (e:Exl):Prop:=Fit 40 e∧sz 40 e ≤ 600
theorem qzV (d:Nat) (e:Exl):1 ≤ sz (d + 1) e:=by obtain ⟨_,_,_,_,_⟩:=e;rw [sz];omega
theorem e40 (e:Exl) {room:Int} (h1:-1 ≤ room) (h2:room ≤ 600) (h:List qq):∃r:Int,Wd (.fn 28 [] []) [exV e,.int .i64 40,.int .i64 room] h = some (.ret (.int .i64 r),h,false)∧-1 ≤ r∧r ≤ 600∧(0 ≤ r→Go1 e∧r + 1 ≤ room):=by
 obtain ⟨r,e1,e2,e3,e4⟩:=qwj 40 (by omega) e room h1 h2 h
 have c:((40:Nat):Int) = 40:=by kernel_rfl
 rw [c] at e1
 exact ⟨r,e1,e2,e3,fun h0=>by have f:=e4 h0;have g:1 ≤ sz 40 e:=qzV 39 e;exact ⟨⟨f.1,by omega⟩,by omega⟩⟩
theorem k10 (e:Tp) {room:Int} (h1:-1 ≤ room) (h2:room ≤ 600) (h:List qq):∃r:Int,Wd (.fn 45 [] []) [tpV e,.int .i64 10,.int .i64 room] h = some (.ret (.int .i64 r),h,false)∧-1 ≤ r∧r ≤ 600∧(0 ≤ r→r + 1 ≤ room):=by
 have:=qwN 10 (by omega) e room h1 h2 h
 have c:((10:Nat):Int) = 10:=by kernel_rfl
 rwa [c] at this
def qdB {α:Type} (l:List α):Prop:=l.length ≤ 9223372036854775807
set_option maxHeartbeats 1000000 in
theorem qg4 {l:List qM} (hl:qdB l) {room:Int} (h1:-1 ≤ room) (h2:room ≤ 600) (h:List qq):∃r:Int,Wd (.fn 27 [] []) [.lst (l.map qM.enc) .no,.int .i64 room] h = some (.ret (.int .i64 r),h,false)∧-1 ≤ r∧r ≤ 600∧(0 ≤ r→(∀s ∈ l,Go1 s.e)∧r + l.length ≤ room):=by
 have loop:∀q st,(∃(tt:List qf) (i:Nat) (rm:Int),st = ⟨tt,h,false⟩∧tt.length = 24∧lkp tt 0 = .lst (l.map qM.enc) .no∧lkp tt 1 = .int .i64 rm∧lkp tt 5 = .int .i64 (i:Nat)∧i + q = l.length∧-1 ≤ rm∧rm ≤ 600∧(0 ≤ rm→(∀s ∈ l.take i,Go1 s.e)∧rm + i ≤ room))→
   ∃x st',qx h.length Wd (.loop qiZ) st = some (x,st')∧(x = .exit 0∧∃(tt:List qf) (rm:Int),st' = ⟨tt,h,false⟩∧tt.length = 24∧lkp tt 1 = .int .i64 rm∧-1 ≤ rm∧rm ≤ 600∧(0 ≤ rm→(∀s ∈ l,Go1 s.e)∧rm + l.length ≤ room)):=by
  refine qD _ (fun x st'=>x = .exit 0∧∃(tt:List qf) (rm:Int),st' = ⟨tt,h,false⟩∧tt.length = 24∧lkp tt 1 = .int .i64 rm∧-1 ≤ rm∧rm ≤ 600∧(0 ≤ rm→(∀s ∈ l,Go1 s.e)∧rm + l.length ≤ room)) ?_
  rintro q st ⟨tt,i,rm,rfl,ht,e0,e1,e5,hiq,hr1,hr2,hfit⟩
  generalize he:qx h.length Wd qiZ _ = r
  rcases Nat.lt_or_ge i l.length with hi | hi
  ·have c1:ilt (i:Int) (l.length:Int) = true:=qcK (by omega)
   by_cases hrm:0 ≤ rm
   ·have c2:ile 0 rm = true:=qli hrm
    have w:=qE (n:=i) (by have:=hl;unfold qdB at this;omega)
    obtain ⟨r',hr',b1,b2,b3⟩:=e40 l[i].e hr1 hr2 h
    have hfit2:0 ≤ r'→(∀s ∈ l.take (i + 1),Go1 s.e)∧r' + ((i + 1:Nat):Int) ≤ room:=fun h0=>by
     have f1:=hfit hrm
     have f2:=b3 h0
     rw [List.take_succ_eq_append_getElem hi]
     refine ⟨fun s hs=>?_,by omega⟩
     rcases List.mem_append.1 hs with hs | hs
     ·exact f1.1 s hs
     ·rw [List.mem_singleton] at hs
      subst hs
      first | exact f2.1 | trivial
    have hg:(l.map qM.enc)[i]? = some (qM.enc l[i]):=by rw [List.getElem?_map,List.getElem?_eq_getElem hi];rfl
    generalize l[i] = y at hr' hg
    obtain ⟨nm,op,n,m2,sb,aS⟩:=y
    rw [ql] at hr'
    rw [qM.enc,exC] at hg
    have hx:=qu (k:=6) (f:=.no) (j:=.i64) hg rfl
    change qa3 6 (.lst (l.map qM.enc) .no) _ = _ at hx
    simp only [qiZ,sT.1,sC.1,qe,qd,Nat.testBit,simprocAttr,-Int.reduceNatCast',ht,e0,e1,e5,c1,c2,w,hx,hr',List.length_map,qf.cells] at he
    subst he
    refine .inl ⟨_,q - 1,rfl,by omega,_,i + 1,r',rfl,by simp only [qh,ht],?_,?_,?_,by omega,b1,b2,hfit2⟩
    all_goals simp only [sT.1,sC.1,qe,qd,Nat.testBit,simprocAttr,-Int.reduceNatCast',ht,e0]
   ·have c2:ile 0 rm = false:=qoF hrm
    simp only [qiZ,sT.1,sC.1,qe,qd,Nat.testBit,simprocAttr,-Int.reduceNatCast',ht,e0,e1,e5,c1,c2,List.length_map] at he
    subst he
    exact .inr ⟨_,_,rfl,by simp,rfl,_,rm,rfl,by simp only [qh,ht],by simp only [sT.1,sC.1,qe,qd,Nat.testBit,simprocAttr,-Int.reduceNatCast',ht,e1],hr1,hr2,fun h0=>absurd h0 hrm⟩
  ·have c1:ilt (i:Int) (l.length:Int) = false:=qcJ (by omega)
   rw [List.take_of_length_le hi] at hfit
   simp only [qiZ,sT.1,sC.1,qe,qd,Nat.testBit,simprocAttr,-Int.reduceNatCast',ht,e0,e1,e5,c1,List.length_map] at he
   subst he
   exact .inr ⟨_,_,rfl,by simp,rfl,_,rm,rfl,by simp only [qh,ht],by simp only [sT.1,sC.1,qe,qd,Nat.testBit,simprocAttr,-Int.reduceNatCast',ht,e1],hr1,hr2,fun h0=>⟨(hfit h0).1,by have:=(hfit h0).2;omega⟩⟩
 generalize hw:Wd _ _ h = w
 rw [qt rfl (show T.get 27 = some c27 by kernel_rfl)] at hw
 simp only [c27,sT.1,sC.1,qe,qd,Nat.testBit,simprocAttr,-Int.reduceNatCast'] at hw
 generalize hr:qx h.length Wd (.loop qiZ) _ = r at hw
 obtain ⟨x,st',rfl,rfl,tt,rm,rfl,ht,e1,b1,b2,b3⟩:=qaT hr (loop l.length _ ⟨_,0,room,rfl,by simp only [sT.1,sC.1,qe,qd,Nat.testBit,simprocAttr,-Int.reduceNatCast'],by simp only [sT.1,sC.1,qe,qd,Nat.testBit,simprocAttr,-Int.reduceNatCast'],by simp only [sT.1,sC.1,qe,qd,Nat.testBit,simprocAttr,-Int.reduceNatCast'],by simp only [sT.1,sC.1,qe,qd,Nat.testBit,simprocAttr,-Int.reduceNatCast',Int.natCast_zero],by omega,h1,h2,fun _=>⟨by simp,by omega⟩⟩)
 simp only [sT.1,sC.1,qe,qd,Nat.testBit,simprocAttr,-Int.reduceNatCast',ht,e1] at hw
 subst hw
 exact ⟨rm,rfl,b1,b2,b3⟩
set_option maxHeartbeats 1000000 in
theorem qki {l:List qJ} (hl:qdB l) {room:Int} (h1:-1 ≤ room) (h2:room ≤ 600) (h:List qq):∃r:Int,Wd (.fn 26 [] []) [.lst (l.map qJ.enc) .no,.int .i64 room] h = some (.ret (.int .i64 r),h,false)∧-1 ≤ r∧r ≤ 600∧(0 ≤ r→(∀s ∈ l,True)∧r + l.length ≤ room):=by
 have loop:∀q st,(∃(tt:List qf) (i:Nat) (rm:Int),st = ⟨tt,h,false⟩∧tt.length = 24∧lkp tt 0 = .lst (l.map qJ.enc) .no∧lkp tt 1 = .int .i64 rm∧lkp tt 5 = .int .i64 (i:Nat)∧i + q = l.length∧-1 ≤ rm∧rm ≤ 600∧(0 ≤ rm→(∀s ∈ l.take i,True)∧rm + i ≤ room))→
   ∃x st',qx h.length Wd (.loop qiY) st = some (x,st')∧(x = .exit 0∧∃(tt:List qf) (rm:Int),st' = ⟨tt,h,false⟩∧tt.length = 24∧lkp tt 1 = .int .i64 rm∧-1 ≤ rm∧rm ≤ 600∧(0 ≤ rm→(∀s ∈ l,True)∧rm + l.length ≤ room)):=by
  refine qD _ (fun x st'=>x = .exit 0∧∃(tt:List qf) (rm:Int),st' = ⟨tt,h,false⟩∧tt.length = 24∧lkp tt 1 = .int .i64 rm∧-1 ≤ rm∧rm ≤ 600∧(0 ≤ rm→(∀s ∈ l,True)∧rm + l.length ≤ room)) ?_
  rintro q st ⟨tt,i,rm,rfl,ht,e0,e1,e5,hiq,hr1,hr2,hfit⟩
  generalize he:qx h.length Wd qiY _ = r
  rcases Nat.lt_or_ge i l.length with hi | hi
  ·have c1:ilt (i:Int) (l.length:Int) = true:=qcK (by omega)
   by_cases hrm:0 ≤ rm
   ·have c2:ile 0 rm = true:=qli hrm
    have w:=qE (n:=i) (by have:=hl;unfold qdB at this;omega)
    obtain ⟨r',hr',b1,b2,b3⟩:=k10 l[i].t hr1 hr2 h
    have hfit2:0 ≤ r'→(∀s ∈ l.take (i + 1),True)∧r' + ((i + 1:Nat):Int) ≤ room:=fun h0=>by
     have f1:=hfit hrm
     have f2:=b3 h0
     rw [List.take_succ_eq_append_getElem hi]
     refine ⟨fun s hs=>?_,by omega⟩
     rcases List.mem_append.1 hs with hs | hs
     ·exact f1.1 s hs
     ·rw [List.mem_singleton] at hs
      subst hs
      first | exact f2.1 | trivial
    have hg:(l.map qJ.enc)[i]? = some (qJ.enc l[i]):=by rw [List.getElem?_map,List.getElem?_eq_getElem hi];rfl
    generalize l[i] = y at hr' hg
    obtain ⟨nm,k,aS⟩:=y
    rw [qa9] at hr'
    rw [qJ.enc,Tp.enc,show (aS.map fun v=>qf.agg v.enc) = aS.map tpV from rfl] at hg
    have hx:=qu (k:=3) (f:=.no) (j:=.i64) hg rfl
    change qa3 3 (.lst (l.map qJ.enc) .no) _ = _ at hx
    simp only [qiY,sT.1,sC.1,qe,qd,Nat.testBit,simprocAttr,-Int.reduceNatCast',ht,e0,e1,e5,c1,c2,w,hx,hr',List.length_map,qf.cells] at he
    subst he
    refine .inl ⟨_,q - 1,rfl,by omega,_,i + 1,r',rfl,by simp only [qh,ht],?_,?_,?_,by omega,b1,b2,hfit2⟩
    all_goals simp only [sT.1,sC.1,qe,qd,Nat.testBit,simprocAttr,-Int.reduceNatCast',ht,e0]
   ·have c2:ile 0 rm = false:=qoF hrm
    simp only [qiY,sT.1,sC.1,qe,qd,Nat.testBit,simprocAttr,-Int.reduceNatCast',ht,e0,e1,e5,c1,c2,List.length_map] at he
    subst he
    exact .inr ⟨_,_,rfl,by simp,rfl,_,rm,rfl,by simp only [qh,ht],by simp only [sT.1,sC.1,qe,qd,Nat.testBit,simprocAttr,-Int.reduceNatCast',ht,e1],hr1,hr2,fun h0=>absurd h0 hrm⟩
  ·have c1:ilt (i:Int) (l.length:Int) = false:=qcJ (by omega)
   rw [List.take_of_length_le hi] at hfit
   simp only [qiY,sT.1,sC.1,qe,qd,Nat.testBit,simprocAttr,-Int.reduceNatCast',ht,e0,e1,e5,c1,List.length_map] at he
   subst he
   exact .inr ⟨_,_,rfl,by simp,rfl,_,rm,rfl,by simp only [qh,ht],by simp only [sT.1,sC.1,qe,qd,Nat.testBit,simprocAttr,-Int.reduceNatCast',ht,e1],hr1,hr2,fun h0=>⟨(hfit h0).1,by have:=(hfit h0).2;omega⟩⟩
 generalize hw:Wd _ _ h = w
 rw [qt rfl (show T.get 26 = some c26 by kernel_rfl)] at hw
 simp only [c26,sT.1,sC.1,qe,qd,Nat.testBit,simprocAttr,-Int.reduceNatCast'] at hw
 generalize hr:qx h.length Wd (.loop qiY) _ = r at hw
 obtain ⟨x,st',rfl,rfl,tt,rm,rfl,ht,e1,b1,b2,b3⟩:=qaT hr (loop l.length _ ⟨_,0,room,rfl,by simp only [sT.1,sC.1,qe,qd,Nat.testBit,simprocAttr,-Int.reduceNatCast'],by simp only [sT.1,sC.1,qe,qd,Nat.testBit,simprocAttr,-Int.reduceNatCast'],by simp only [sT.1,sC.1,qe,qd,Nat.testBit,simprocAttr,-Int.reduceNatCast'],by simp only [sT.1,sC.1,qe,qd,Nat.testBit,simprocAttr,-Int.reduceNatCast',Int.natCast_zero],by omega,h1,h2,fun _=>⟨by simp,by omega⟩⟩)
 simp only [sT.1,sC.1,qe,qd,Nat.testBit,simprocAttr,-Int.reduceNatCast',ht,e1] at hw
 subst hw
 exact ⟨rm,rfl,b1,b2,b3⟩
end Go.Proofs.YtkmlapholimbcaaGreatDoor.AE
namespace Go.Proofs.YtkmlapholimbcaaGreatDoor.AE
open Go.AE
theorem qCZ:∀(d:Nat) (e:Exl),sz d e ≤ sz (d + 1) e:=by
 intro d
 induction d with
 | zero=>intro e;rw [sz];omega
 | succ d ih=>
  rintro ⟨op,n,nm,sb,aS⟩
  rw [sz,sz]
  have:(aS.map (sz d)).sum ≤ (aS.map (sz (d + 1))).sum:=by
   induction aS with
   | nil=>simp
   | cons a aS iha=>have:=ih a;simp only [List.map_cons,List.sum_cons];omega
  omega
theorem qCY {d d':Nat} (h:d ≤ d') (e:Exl):sz d e ≤ sz d' e:=by
 induction h with
 | refl=>exact Nat.le_refl _
 | step _ ih=>exact Nat.le_trans ih (qCZ _ _)
def ExG (e:Exl):Prop:=Go1 e∧OkN e
theorem ExG.ok {e:Exl} (h:ExG e) (hr:right 20 e = true):qhc e:=⟨hr,h.2,by have:=qCY (show 20 ≤ 40 by omega) e;have:=h.1.2;omega⟩
structure qd9 (Q:Exl→Prop) (m:qy):Prop where
 vars:∀s ∈ m.vars,Q s.e
 ta:∀e ∈ m.ta,Q e
 emits:∀x ∈ m.emits,Q x.e∧∀e ∈ x.ifs,Q e
 int:∀s ∈ m.int,Q s.e
 ext:∀s ∈ m.ext,Q s.e
 own:∀s ∈ m.own,Q s.e
 rules:∀r ∈ m.rules,Q r.e
structure qux (m:qy):Prop where
 ins:m.ins.length ≤ 600
 outs:m.outs.length ≤ 600
 vars:m.vars.length ≤ 600
 ta:m.ta.length ≤ 600
 emits:m.emits.length ≤ 600∧∀x ∈ m.emits,x.ifs.length ≤ 600
 int:m.int.length ≤ 600
 ext:m.ext.length ≤ 600
 own:m.own.length ≤ 600
 parts:m.parts.length ≤ 600
 links:m.links.length ≤ 600
 rules:m.rules.length ≤ 600∧∀r ∈ m.rules,r.acts.length ≤ 600
def qyd (m:qy):Prop:=∀r ∈ m.rules,∀a ∈ r.acts,qu8 a
theorem Go1.fit {e:Exl} (h:Go1 e):ExF e:=⟨40,h.1⟩
theorem qp3 {m:qy} (hs:qux m) (he:qd9 ExG m) (ha:qyd m):qe0 m where
 ins:=by have:=hs.ins;omega
 outs:=by have:=hs.outs;omega
 vars:=⟨by have:=hs.vars;omega,fun s h=>(he.vars s h).1.fit⟩
 ta:=⟨by have:=hs.ta;omega,fun s h=>(he.ta s h).1.fit⟩
 emits:=⟨by have:=hs.emits.1;omega,fun x h=>⟨(he.emits x h).1.1.fit,by have:=hs.emits.2 x h;omega,fun e hx=>((he.emits x h).2 e hx).1.fit⟩⟩
 int:=⟨by have:=hs.int;omega,fun s h=>(he.int s h).1.fit⟩
 ext:=⟨by have:=hs.ext;omega,fun s h=>(he.ext s h).1.fit⟩
 own:=⟨by have:=hs.own;omega,fun s h=>(he.own s h).1.fit⟩
 parts:=by have:=hs.parts;omega
 links:=by have:=hs.links;omega
 rules:=⟨by have:=hs.rules.1;omega,fun r h=>⟨(he.rules r h).1.fit,by have:=hs.rules.2 r h;omega,ha r h⟩⟩
theorem qbe {s:Str} (h:qG s = true):s.length ≤ 16:=by
 simp only [qG,qcs,Bool.and_eq_true,decide_eq_true_eq] at h
 exact h.1.1.2
theorem qfQ {a b:Int} (h:ile a b = true):a ≤ b:=by rw [qaL] at h;exact of_decide_eq_true h
theorem qer {a b:Int} (h:ilt a b = false):b ≤ a:=by rw [qaj,decide_eq_false_iff_not] at h;omega
theorem qxM {s:qM} (h:qia s = true) (hg:ExG s.e):qeK s:=by
 simp only [qia,Bool.and_eq_true] at h
 exact ⟨qbe h.1,hg.ok h.2⟩
theorem qke {s:qJ} (h:qcr s = true):qe1 s:=by
 simp only [qcr,Bool.and_eq_true] at h
 exact ⟨qbe h.1,h.2⟩
theorem qst {x:qam} (h:qde x = true) (hg:ExG x.e) (hi:∀e ∈ x.ifs,ExG e):qhb x:=by
 simp only [qde,Bool.and_eq_true,List.all_eq_true] at h
 exact ⟨qbe h.1.1.1,hg.ok h.1.2,by have:=qfQ h.1.1.2;omega,fun e he=>(hi e he).ok (h.2 e he)⟩
theorem qtF {s:qaw} (h:qd2 s = true):qhi s:=by
 simp only [qd2,Bool.and_eq_true] at h
 exact ⟨qbe h.1,qbe h.2⟩
theorem qn0 {s:qdN} (h:qro s = true):s.short:=by
 simp only [qro,Bool.and_eq_true,Bool.or_eq_true,beq_iff_eq] at h
 exact ⟨h.2.elim (fun e=>by rw [e];simp) qbe,qbe h.1⟩
theorem qj0 {s:qZ} (h:qc7 s = true):qhh s:=by
 simp only [qc7,Bool.and_eq_true] at h
 exact ⟨qn0 h.1,qn0 h.2⟩
theorem qve {a:qbW} (h:qhk a = true):a.short:=by
 unfold qhk at h
 cases k0:a.kind == 0 with
 | true=>
  rw [k0,cond_true] at h
  simp only [Bool.and_eq_true] at h
  exact ⟨qbe h.1.1,qbe h.1.2,fun e=>absurd (by simpa using k0) e⟩
 | false=>
  rw [k0,cond_false] at h
  cases k1:a.kind == 1 with
  | true=>
   rw [k1,cond_true] at h
   simp only [Bool.and_eq_true,beq_iff_eq] at h
   exact ⟨qbe h.1.1,by rw [h.1.2];simp,fun _ e=>absurd (by simpa using k1) e⟩
  | false=>
   rw [k1,cond_false] at h
   simp only [Bool.and_eq_true,beq_iff_eq] at h
   have:=qj0 h.2.2
   exact ⟨by rw [h.2.1.1];simp,by rw [h.2.1.2];simp,fun _ _=>this⟩
theorem qt4 {r:qab} (h:qd5 r = true) (hg:ExG r.e):qjE r∧r.acts.length ≤ 5:=by
 simp only [qd5,Bool.and_eq_true,List.all_eq_true] at h
 have h5:=qfQ h.1.1
 exact ⟨⟨hg.ok h.1.2,by omega,fun a ha=>qve (h.2 a ha)⟩,by omega⟩
theorem qc0 {α:Type} {l:List α} (h:ilt 0 (l.length:Nat) = false):l = []:=List.length_eq_zero_iff.1 (by have:=qer h;omega)
theorem qqN {l:List qab} (h:∀r ∈ l,r.acts.length ≤ 5):(l.map fun r=>r.acts.length + 2).sum ≤ l.length * 7:=by
 induction l with
 | nil=>simp
 | cons r l ih=>
  have h1:=h r (by simp)
  have h2:=ih fun x hx=>h x (by simp [hx])
  simp only [List.map_cons,List.sum_cons,List.length_cons]
  omega
theorem qka {l:List qM} (h:okL l = true) (hg:∀s ∈ l,ExG s.e):l.length ≤ 10∧∀s ∈ l,qeK s:=by
 simp only [okL,Bool.and_eq_true,Bool.not_eq_true',List.all_eq_true] at h
 exact ⟨by have:=qer h.1;omega,fun s hs=>qxM (h.2 s hs) (hg s hs)⟩
theorem qp0 {m:qy} (h:qbJ m = true) (he:qd9 ExG m):qbB m:=by
 obtain ⟨nm,cp,ins,outs,vars,ta,emits,int,ext,con,own,parts,links,rules⟩:=m
 obtain ⟨e1,e2,e3,e4,e5,e6,e7⟩:=he
 simp only at e1 e2 e3 e4 e5 e6 e7
 simp only [qbJ,Bool.and_eq_true,Bool.not_eq_true',Bool.or_eq_false_iff,Bool.not_eq_false',List.all_eq_true] at h
 obtain ⟨⟨hn,hi,ho⟩,⟨pi,po⟩,hb⟩:=h
 have hi:=qer hi
 have ho:=qer ho
 have pi:∀s ∈ ins,qe1 s:=fun s hs=>qke (pi s hs)
 have po:∀s ∈ outs,qe1 s:=fun s hs=>qke (po s hs)
 cases cp with
 | true=>
  rw [cond_true] at hb
  simp only [qgJ,Bool.and_eq_true,Bool.not_eq_true',Bool.or_eq_false_iff,List.all_eq_true] at hb
  obtain ⟨⟨z1,z2,z3,_⟩,⟨z4,z5,z6⟩,p1,p2,p3,p4,p5,p6⟩:=hb
  obtain rfl:=qc0 z1
  obtain rfl:=qc0 z2
  obtain rfl:=qc0 z3
  obtain rfl:=qc0 z4
  obtain rfl:=qc0 z5
  obtain rfl:=qc0 z6
  have p1:=qfQ p1
  have p3:=qfQ p3
  have p5:=qfQ p5
  have hr:=fun r hr=>qt4 (p6 r hr) (e7 r hr)
  have hs:=qqN fun r h=>(hr r h).2
  exact ⟨qbe hn,⟨by simp only;omega,pi⟩,⟨by simp only;omega,po⟩,⟨by simp,by simp⟩,⟨by simp,by simp⟩,⟨by simp,by simp⟩,⟨by simp,by simp⟩,⟨by simp,by simp⟩,⟨by simp,by simp⟩,⟨by simp only;omega,fun s hs=>qtF (p2 s hs)⟩,⟨by simp only;omega,fun s hs=>qj0 (p4 s hs)⟩,⟨by simp only;omega,fun s hs=>(hr s hs).1⟩,by simp only [List.length_nil];omega⟩
 | false=>
  rw [cond_false] at hb
  simp only [qgG,Bool.and_eq_true,Bool.not_eq_true',Bool.or_eq_false_iff,List.all_eq_true,beq_iff_eq] at hb
  obtain ⟨⟨z1,z2,z3,_,_⟩,_,o1,o2,o3,o4,t1,t2,t3,t4⟩:=hb
  obtain rfl:=qc0 z1
  obtain rfl:=qc0 z2
  obtain rfl:=qc0 z3
  obtain ⟨l1,q1⟩:=qka o1 e1
  obtain ⟨l2,q2⟩:=qka o2 e4
  obtain ⟨l3,q3⟩:=qka o3 e5
  obtain ⟨l4,q4⟩:=qka o4 e6
  have t3:=qfQ t3
  exact ⟨qbe hn,⟨by simp only;omega,pi⟩,⟨by simp only;omega,po⟩,⟨by simp only;omega,q1⟩,⟨by simp only;omega,fun s hs=>(e2 s hs).ok (t2 s hs)⟩,⟨by simp only;omega,fun s hs=>qst (t4 s hs) (e3 s hs).1 (e3 s hs).2⟩,⟨by simp only;omega,q2⟩,⟨by simp only;omega,q3⟩,⟨by simp only;omega,q4⟩,⟨by simp,by simp⟩,⟨by simp,by simp⟩,⟨by simp,by simp⟩,by simp only [List.length_nil,List.map_nil,List.sum_nil];omega⟩
theorem qtS {p:qaP} (h:qh2 p = true) (he:∀m ∈ p.models,qd9 ExG m):qe2 p:=by
 simp only [qh2,Bool.and_eq_true,List.all_eq_true] at h
 exact ⟨⟨by have:=qfQ h.2.1;omega,fun m hm=>qp0 (h.2.2.2 m hm) (he m hm)⟩,qbe h.2.2.1⟩
end Go.Proofs.YtkmlapholimbcaaGreatDoor.AE
