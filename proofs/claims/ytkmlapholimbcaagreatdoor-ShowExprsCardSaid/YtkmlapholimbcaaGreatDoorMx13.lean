/- A part of the proof: the abstract executor and what goes through it (part 13). No condition. -/
import Derived.Test.YtkmlapholimbcaaGreatDoorMx12
import Derived.Test.YtkmlapholimbcaaGreatDoorMx6
import Derived.Test.YtkmlapholimbcaaGreatDoorMx2
import Derived.Test.YtkmlapholimbcaaGreatDoorMx8
set_option maxRecDepth 100000
namespace Go.Proofs.YtkmlapholimbcaaGreatDoor.AE
open Go.AE
theorem qhb {a b:Nat} (h1:a ≤ 536870912) (h2:b ≤ 536870912):a + b ≤ qu:=by unfold qu;omega
theorem qhc {a b n:Nat} (h1:a ≤ n / 2) (h2:b ≤ n / 2):a + b ≤ n:=by omega
theorem EA (K:Int) {a:Exl} {t:Str} (h:qdT a t):∃A:Str,A = inn K (a.op,t)∧(∀n,50002 ≤ n→A.length ≤ n)∧∀G,Wd (.fn 10 [] []) [exV a,.int .i64 K] G = some (.ret (.str A),G,false):=by
 have:=qbY K (a.op,t)
 have:=h.2.1
 simp only at *
 exact ⟨_,rfl,fun n hn=>by omega,fun G=>qid h K G⟩
theorem ixs (P i:Nat) (h:i < 10):qc7 1 (.sl P 0 10 10 0) (.int .i64 (i:Nat)) = some (.ptr P i):=by
 have:i = 0∨i = 1∨i = 2∨i = 3∨i = 4∨i = 5∨i = 6∨i = 7∨i = 8∨i = 9:=by omega
 rcases this with rfl | rfl | rfl | rfl | rfl | rfl | rfl | rfl | rfl | rfl <;> exact Eq.trans rfl rfl
section
variable {G:List qf} {n:Int} {nm sb:Str}
set_option maxHeartbeats 4000000 in
theorem qAR {a:Exl} {ta:Str} (ka:qdT a ta) (hn:nm.length ≤ 16):Wd (.fn 22 [] []) [exV (.mk 10 n nm sb [a])] G = some (.ret (.str ([108,101,97,115,116,40] ++ (nm ++ ([44,32] ++ (inn 0 (a.op,ta) ++ [41]))))),G,false):=by
 obtain ⟨A,hA,lA,eA⟩:=EA 0 ka
 rw [←hA]
 clear hA ka
 obtain ⟨oa,na,m2a,sba,asa⟩:=a
 rw [qe] at eA
 have x0:=qF (k:=5) (xs:=[exV (.mk oa na m2a sba asa)]) (f:=.no) (j:=.i64) (n:=0) rfl (by rw [qe];rfl)
 simp only [qe,cc0,cc1,cc2,qa.cells] at x0
 have c15:ile 15 (10:Int) = false:=Eq.trans rfl rfl
 have lN:∀k,16 ≤ k→nm.length ≤ k:=fun k hk=>by omega
 generalize hw:Wd _ _ G = w
 rw [qe,qi rfl (show T.get 22 = some c22 by kernel_rfl)] at hw
 simp only [List.map_cons,List.map_nil,qe] at hw
 simp (maxDischargeDepth:=9) only [c22,sT.1,sC.1,sTA.1,sCA.1,qc,qak,qal,Src.isTmp,qD,Src.hangs,qk.isT,qai,qb,Nat.testBit,bne,simprocAttr,-Int.reduceNatCast',qbU,qab,qaf,qaz,qad,qff,qb9,qaZ,qbm,qaY,qa1,if_true,eA,lA,x0,c15,lN,qhb,qhc,List.append_assoc,List.cons_append,List.nil_append] at hw
 subst hw
 simp only [List.append_assoc,List.cons_append,List.nil_append]
set_option maxHeartbeats 4000000 in
theorem qAT {a:Exl} {ta:Str} (ka:qdT a ta):Wd (.fn 22 [] []) [exV (.mk 13 n nm sb [a])] G = some (.ret (.str (45 :: inn 7 (a.op,ta))),G,false):=by
 obtain ⟨A,hA,lA,eA⟩:=EA 7 ka
 rw [←hA]
 clear hA ka
 obtain ⟨oa,na,m2a,sba,asa⟩:=a
 rw [qe] at eA
 have x0:=qF (k:=5) (xs:=[exV (.mk oa na m2a sba asa)]) (f:=.no) (j:=.i64) (n:=0) rfl (by rw [qe];rfl)
 simp only [qe,cc0,cc1,cc2,qa.cells] at x0
 have c15:ile 15 (13:Int) = false:=Eq.trans rfl rfl
 generalize hw:Wd _ _ G = w
 rw [qe,qi rfl (show T.get 22 = some c22 by kernel_rfl)] at hw
 simp only [List.map_cons,List.map_nil,qe] at hw
 simp only [c22,sT.1,sC.1,sTA.1,sCA.1,qc,qak,qal,Src.isTmp,qD,Src.hangs,qk.isT,qai,qb,Nat.testBit,bne,simprocAttr,-Int.reduceNatCast',qbU,qab,qaf,qaz,qad,qff,qb9,qaZ,qbm,qaY,qa1,if_true,eA,lA,x0,c15,qhb,qhc,List.append_assoc,List.cons_append,List.nil_append] at hw
 subst hw
 simp only [List.append_assoc,List.cons_append,List.nil_append]
set_option maxHeartbeats 4000000 in
theorem qAU {a:Exl} {ta:Str} (ka:qdT a ta):Wd (.fn 22 [] []) [exV (.mk 14 n nm sb [a])] G = some (.ret (.str ([110,111,116,32] ++ inn 3 (a.op,ta))),G,false):=by
 obtain ⟨A,hA,lA,eA⟩:=EA 3 ka
 rw [←hA]
 clear hA ka
 obtain ⟨oa,na,m2a,sba,asa⟩:=a
 rw [qe] at eA
 have x0:=qF (k:=5) (xs:=[exV (.mk oa na m2a sba asa)]) (f:=.no) (j:=.i64) (n:=0) rfl (by rw [qe];rfl)
 simp only [qe,cc0,cc1,cc2,qa.cells] at x0
 have c15:ile 15 (14:Int) = false:=Eq.trans rfl rfl
 generalize hw:Wd _ _ G = w
 rw [qe,qi rfl (show T.get 22 = some c22 by kernel_rfl)] at hw
 simp only [List.map_cons,List.map_nil,qe] at hw
 simp only [c22,sT.1,sC.1,sTA.1,sCA.1,qc,qak,qal,Src.isTmp,qD,Src.hangs,qk.isT,qai,qb,Nat.testBit,bne,simprocAttr,-Int.reduceNatCast',qbU,qab,qaf,qaz,qad,qff,qb9,qaZ,qbm,qaY,qa1,if_true,eA,lA,x0,c15,qhb,qhc,List.append_assoc,List.cons_append,List.nil_append] at hw
 subst hw
 simp only [List.append_assoc,List.cons_append,List.nil_append]
set_option maxHeartbeats 4000000 in
theorem qA5 {a:Exl} {ta:Str} (ka:qdT a ta) {b:Exl} {tb:Str} (kb:qdT b tb) {c:Exl} {tc:Str} (kc:qdT c tc):Wd (.fn 22 [] []) [exV (.mk 25 n nm sb [a,b,c])] G = some (.ret (.str ([105,102,32] ++ (inn 0 (a.op,ta) ++ ([32,116,104,101,110,32] ++ (inn 0 (b.op,tb) ++ ([32,101,108,115,101,32] ++ inn 0 (c.op,tc))))))),G,false):=by
 obtain ⟨A,hA,lA,eA⟩:=EA 0 ka
 obtain ⟨B,hB,lB,eB⟩:=EA 0 kb
 obtain ⟨C,hC,lC,eC⟩:=EA 0 kc
 rw [←hA,←hB,←hC]
 clear hA ka hB kb hC kc
 obtain ⟨oa,na,m2a,sba,asa⟩:=a
 obtain ⟨ob,nb,m2b,sbb,asb⟩:=b
 obtain ⟨oc,nc,m2c,sbc,asc⟩:=c
 rw [qe] at eA eB eC
 have x0:=qF (k:=5) (xs:=[exV (.mk oa na m2a sba asa),exV (.mk ob nb m2b sbb asb),exV (.mk oc nc m2c sbc asc)]) (f:=.no) (j:=.i64) (n:=0) rfl (by rw [qe];rfl)
 have x1:=qF (k:=5) (xs:=[exV (.mk oa na m2a sba asa),exV (.mk ob nb m2b sbb asb),exV (.mk oc nc m2c sbc asc)]) (f:=.no) (j:=.i64) (n:=1) rfl (by rw [qe];rfl)
 have x2:=qF (k:=5) (xs:=[exV (.mk oa na m2a sba asa),exV (.mk ob nb m2b sbb asb),exV (.mk oc nc m2c sbc asc)]) (f:=.no) (j:=.i64) (n:=2) rfl (by rw [qe];rfl)
 simp only [qe,cc0,cc1,cc2,qa.cells] at x0 x1 x2
 have c15:ile 15 (25:Int) = true:=Eq.trans rfl rfl
 have c24:ile (25:Int) 24 = false:=Eq.trans rfl rfl
 generalize hw:Wd _ _ G = w
 rw [qe,qi rfl (show T.get 22 = some c22 by kernel_rfl)] at hw
 simp only [List.map_cons,List.map_nil,qe] at hw
 simp (maxDischargeDepth:=9) only [c22,sT.1,sC.1,sTA.1,sCA.1,qc,qak,qal,Src.isTmp,qD,Src.hangs,qk.isT,qai,qb,Nat.testBit,bne,simprocAttr,-Int.reduceNatCast',qbU,qab,qaf,qaz,qad,qff,qb9,qaZ,qbm,qaY,qa1,if_true,eA,lA,eB,lB,eC,lC,x0,x1,x2,c15,c24,qhb,qhc,List.append_assoc,List.cons_append,List.nil_append] at hw
 subst hw
 simp only [List.append_assoc,List.cons_append,List.nil_append]
set_option maxHeartbeats 4000000 in
theorem qAV {a:Exl} {ta:Str} (ka:qdT a ta) {b:Exl} {tb:Str} (kb:qdT b tb):Wd (.fn 22 [] []) [exV (.mk 15 n nm sb [a,b])] G = some (.ret (.str (inn 5 (a.op,ta) ++ ([32,43,32] ++ inn 6 (b.op,tb)))),G,false):=by
 obtain ⟨A,hA,lA,eA⟩:=EA 5 ka
 obtain ⟨B,hB,lB,eB⟩:=EA 6 kb
 rw [←hA,←hB]
 clear hA ka hB kb
 obtain ⟨oa,na,m2a,sba,asa⟩:=a
 obtain ⟨ob,nb,m2b,sbb,asb⟩:=b
 rw [qe] at eA eB
 have x0:=qF (k:=5) (xs:=[exV (.mk oa na m2a sba asa),exV (.mk ob nb m2b sbb asb)]) (f:=.no) (j:=.i64) (n:=0) rfl (by rw [qe];rfl)
 have x1:=qF (k:=5) (xs:=[exV (.mk oa na m2a sba asa),exV (.mk ob nb m2b sbb asb)]) (f:=.no) (j:=.i64) (n:=1) rfl (by rw [qe];rfl)
 simp only [qe,cc0,cc1,cc2,qa.cells] at x0 x1
 have c15:ile 15 (15:Int) = true:=Eq.trans rfl rfl
 have c24:ile (15:Int) 24 = true:=Eq.trans rfl rfl
 have hr:=fun G=>qbk (G:=G) (op:=15) (by omega) (by omega)
 rw [show rk 15 = 5 from rfl] at hr
 have w5:IntKind.i64.wrap 6 = 6:=by kernel_rfl
 have w0:IntKind.i64.wrap 0 = 0:=by kernel_rfl
 have e4:((5:Int) == 4) = false:=by kernel_rfl
 have xs:qc7 1 (.sl (G.length + 1) 0 10 10 0) (.int .i64 0) = some (.ptr (G.length + 1) 0):=ixs (G.length + 1) 0 (by omega)
 generalize hw:Wd _ _ G = w
 rw [qe,qi rfl (show T.get 22 = some c22 by kernel_rfl)] at hw
 simp only [List.map_cons,List.map_nil,qe] at hw
 simp only [c22,sT.1,sC.1,sTA.1,sCA.1,qc,qak,qal,Src.isTmp,qD,Src.hangs,qk.isT,qai,qb,Nat.testBit,bne,simprocAttr,-Int.reduceNatCast',qbU,qab,qaf,qaz,qad,qff,qb9,qaZ,qbm,qaY,qa1,if_true,eA,lA,eB,lB,x0,x1,c15,c24,hr,w5,w0,e4,xs,qhb,qhc,List.append_assoc,List.cons_append,List.nil_append] at hw
 subst hw
 simp only [List.append_assoc,List.cons_append,List.nil_append]
set_option maxHeartbeats 4000000 in
theorem qAW {a:Exl} {ta:Str} (ka:qdT a ta) {b:Exl} {tb:Str} (kb:qdT b tb):Wd (.fn 22 [] []) [exV (.mk 16 n nm sb [a,b])] G = some (.ret (.str (inn 5 (a.op,ta) ++ ([32,45,32] ++ inn 6 (b.op,tb)))),G,false):=by
 obtain ⟨A,hA,lA,eA⟩:=EA 5 ka
 obtain ⟨B,hB,lB,eB⟩:=EA 6 kb
 rw [←hA,←hB]
 clear hA ka hB kb
 obtain ⟨oa,na,m2a,sba,asa⟩:=a
 obtain ⟨ob,nb,m2b,sbb,asb⟩:=b
 rw [qe] at eA eB
 have x0:=qF (k:=5) (xs:=[exV (.mk oa na m2a sba asa),exV (.mk ob nb m2b sbb asb)]) (f:=.no) (j:=.i64) (n:=0) rfl (by rw [qe];rfl)
 have x1:=qF (k:=5) (xs:=[exV (.mk oa na m2a sba asa),exV (.mk ob nb m2b sbb asb)]) (f:=.no) (j:=.i64) (n:=1) rfl (by rw [qe];rfl)
 simp only [qe,cc0,cc1,cc2,qa.cells] at x0 x1
 have c15:ile 15 (16:Int) = true:=Eq.trans rfl rfl
 have c24:ile (16:Int) 24 = true:=Eq.trans rfl rfl
 have hr:=fun G=>qbk (G:=G) (op:=16) (by omega) (by omega)
 rw [show rk 16 = 5 from rfl] at hr
 have w5:IntKind.i64.wrap 6 = 6:=by kernel_rfl
 have w0:IntKind.i64.wrap 1 = 1:=by kernel_rfl
 have e4:((5:Int) == 4) = false:=by kernel_rfl
 have xs:qc7 1 (.sl (G.length + 1) 0 10 10 0) (.int .i64 1) = some (.ptr (G.length + 1) 1):=ixs (G.length + 1) 1 (by omega)
 generalize hw:Wd _ _ G = w
 rw [qe,qi rfl (show T.get 22 = some c22 by kernel_rfl)] at hw
 simp only [List.map_cons,List.map_nil,qe] at hw
 simp only [c22,sT.1,sC.1,sTA.1,sCA.1,qc,qak,qal,Src.isTmp,qD,Src.hangs,qk.isT,qai,qb,Nat.testBit,bne,simprocAttr,-Int.reduceNatCast',qbU,qab,qaf,qaz,qad,qff,qb9,qaZ,qbm,qaY,qa1,if_true,eA,lA,eB,lB,x0,x1,c15,c24,hr,w5,w0,e4,xs,qhb,qhc,List.append_assoc,List.cons_append,List.nil_append] at hw
 subst hw
 simp only [List.append_assoc,List.cons_append,List.nil_append]
set_option maxHeartbeats 4000000 in
theorem qAX {a:Exl} {ta:Str} (ka:qdT a ta) {b:Exl} {tb:Str} (kb:qdT b tb):Wd (.fn 22 [] []) [exV (.mk 17 n nm sb [a,b])] G = some (.ret (.str (inn 6 (a.op,ta) ++ ([32,42,32] ++ inn 7 (b.op,tb)))),G,false):=by
 obtain ⟨A,hA,lA,eA⟩:=EA 6 ka
 obtain ⟨B,hB,lB,eB⟩:=EA 7 kb
 rw [←hA,←hB]
 clear hA ka hB kb
 obtain ⟨oa,na,m2a,sba,asa⟩:=a
 obtain ⟨ob,nb,m2b,sbb,asb⟩:=b
 rw [qe] at eA eB
 have x0:=qF (k:=5) (xs:=[exV (.mk oa na m2a sba asa),exV (.mk ob nb m2b sbb asb)]) (f:=.no) (j:=.i64) (n:=0) rfl (by rw [qe];rfl)
 have x1:=qF (k:=5) (xs:=[exV (.mk oa na m2a sba asa),exV (.mk ob nb m2b sbb asb)]) (f:=.no) (j:=.i64) (n:=1) rfl (by rw [qe];rfl)
 simp only [qe,cc0,cc1,cc2,qa.cells] at x0 x1
 have c15:ile 15 (17:Int) = true:=Eq.trans rfl rfl
 have c24:ile (17:Int) 24 = true:=Eq.trans rfl rfl
 have hr:=fun G=>qbk (G:=G) (op:=17) (by omega) (by omega)
 rw [show rk 17 = 6 from rfl] at hr
 have w5:IntKind.i64.wrap 7 = 7:=by kernel_rfl
 have w0:IntKind.i64.wrap 2 = 2:=by kernel_rfl
 have e4:((6:Int) == 4) = false:=by kernel_rfl
 have xs:qc7 1 (.sl (G.length + 1) 0 10 10 0) (.int .i64 2) = some (.ptr (G.length + 1) 2):=ixs (G.length + 1) 2 (by omega)
 generalize hw:Wd _ _ G = w
 rw [qe,qi rfl (show T.get 22 = some c22 by kernel_rfl)] at hw
 simp only [List.map_cons,List.map_nil,qe] at hw
 simp only [c22,sT.1,sC.1,sTA.1,sCA.1,qc,qak,qal,Src.isTmp,qD,Src.hangs,qk.isT,qai,qb,Nat.testBit,bne,simprocAttr,-Int.reduceNatCast',qbU,qab,qaf,qaz,qad,qff,qb9,qaZ,qbm,qaY,qa1,if_true,eA,lA,eB,lB,x0,x1,c15,c24,hr,w5,w0,e4,xs,qhb,qhc,List.append_assoc,List.cons_append,List.nil_append] at hw
 subst hw
 simp only [List.append_assoc,List.cons_append,List.nil_append]
set_option maxHeartbeats 4000000 in
theorem qAY {a:Exl} {ta:Str} (ka:qdT a ta) {b:Exl} {tb:Str} (kb:qdT b tb):Wd (.fn 22 [] []) [exV (.mk 18 n nm sb [a,b])] G = some (.ret (.str (inn 6 (a.op,ta) ++ ([32,47,32] ++ inn 7 (b.op,tb)))),G,false):=by
 obtain ⟨A,hA,lA,eA⟩:=EA 6 ka
 obtain ⟨B,hB,lB,eB⟩:=EA 7 kb
 rw [←hA,←hB]
 clear hA ka hB kb
 obtain ⟨oa,na,m2a,sba,asa⟩:=a
 obtain ⟨ob,nb,m2b,sbb,asb⟩:=b
 rw [qe] at eA eB
 have x0:=qF (k:=5) (xs:=[exV (.mk oa na m2a sba asa),exV (.mk ob nb m2b sbb asb)]) (f:=.no) (j:=.i64) (n:=0) rfl (by rw [qe];rfl)
 have x1:=qF (k:=5) (xs:=[exV (.mk oa na m2a sba asa),exV (.mk ob nb m2b sbb asb)]) (f:=.no) (j:=.i64) (n:=1) rfl (by rw [qe];rfl)
 simp only [qe,cc0,cc1,cc2,qa.cells] at x0 x1
 have c15:ile 15 (18:Int) = true:=Eq.trans rfl rfl
 have c24:ile (18:Int) 24 = true:=Eq.trans rfl rfl
 have hr:=fun G=>qbk (G:=G) (op:=18) (by omega) (by omega)
 rw [show rk 18 = 6 from rfl] at hr
 have w5:IntKind.i64.wrap 7 = 7:=by kernel_rfl
 have w0:IntKind.i64.wrap 3 = 3:=by kernel_rfl
 have e4:((6:Int) == 4) = false:=by kernel_rfl
 have xs:qc7 1 (.sl (G.length + 1) 0 10 10 0) (.int .i64 3) = some (.ptr (G.length + 1) 3):=ixs (G.length + 1) 3 (by omega)
 generalize hw:Wd _ _ G = w
 rw [qe,qi rfl (show T.get 22 = some c22 by kernel_rfl)] at hw
 simp only [List.map_cons,List.map_nil,qe] at hw
 simp only [c22,sT.1,sC.1,sTA.1,sCA.1,qc,qak,qal,Src.isTmp,qD,Src.hangs,qk.isT,qai,qb,Nat.testBit,bne,simprocAttr,-Int.reduceNatCast',qbU,qab,qaf,qaz,qad,qff,qb9,qaZ,qbm,qaY,qa1,if_true,eA,lA,eB,lB,x0,x1,c15,c24,hr,w5,w0,e4,xs,qhb,qhc,List.append_assoc,List.cons_append,List.nil_append] at hw
 subst hw
 simp only [List.append_assoc,List.cons_append,List.nil_append]
set_option maxHeartbeats 4000000 in
theorem qAZ {a:Exl} {ta:Str} (ka:qdT a ta) {b:Exl} {tb:Str} (kb:qdT b tb):Wd (.fn 22 [] []) [exV (.mk 19 n nm sb [a,b])] G = some (.ret (.str (inn 6 (a.op,ta) ++ ([32,37,32] ++ inn 7 (b.op,tb)))),G,false):=by
 obtain ⟨A,hA,lA,eA⟩:=EA 6 ka
 obtain ⟨B,hB,lB,eB⟩:=EA 7 kb
 rw [←hA,←hB]
 clear hA ka hB kb
 obtain ⟨oa,na,m2a,sba,asa⟩:=a
 obtain ⟨ob,nb,m2b,sbb,asb⟩:=b
 rw [qe] at eA eB
 have x0:=qF (k:=5) (xs:=[exV (.mk oa na m2a sba asa),exV (.mk ob nb m2b sbb asb)]) (f:=.no) (j:=.i64) (n:=0) rfl (by rw [qe];rfl)
 have x1:=qF (k:=5) (xs:=[exV (.mk oa na m2a sba asa),exV (.mk ob nb m2b sbb asb)]) (f:=.no) (j:=.i64) (n:=1) rfl (by rw [qe];rfl)
 simp only [qe,cc0,cc1,cc2,qa.cells] at x0 x1
 have c15:ile 15 (19:Int) = true:=Eq.trans rfl rfl
 have c24:ile (19:Int) 24 = true:=Eq.trans rfl rfl
 have hr:=fun G=>qbk (G:=G) (op:=19) (by omega) (by omega)
 rw [show rk 19 = 6 from rfl] at hr
 have w5:IntKind.i64.wrap 7 = 7:=by kernel_rfl
 have w0:IntKind.i64.wrap 4 = 4:=by kernel_rfl
 have e4:((6:Int) == 4) = false:=by kernel_rfl
 have xs:qc7 1 (.sl (G.length + 1) 0 10 10 0) (.int .i64 4) = some (.ptr (G.length + 1) 4):=ixs (G.length + 1) 4 (by omega)
 generalize hw:Wd _ _ G = w
 rw [qe,qi rfl (show T.get 22 = some c22 by kernel_rfl)] at hw
 simp only [List.map_cons,List.map_nil,qe] at hw
 simp only [c22,sT.1,sC.1,sTA.1,sCA.1,qc,qak,qal,Src.isTmp,qD,Src.hangs,qk.isT,qai,qb,Nat.testBit,bne,simprocAttr,-Int.reduceNatCast',qbU,qab,qaf,qaz,qad,qff,qb9,qaZ,qbm,qaY,qa1,if_true,eA,lA,eB,lB,x0,x1,c15,c24,hr,w5,w0,e4,xs,qhb,qhc,List.append_assoc,List.cons_append,List.nil_append] at hw
 subst hw
 simp only [List.append_assoc,List.cons_append,List.nil_append]
set_option maxHeartbeats 4000000 in
theorem qA0 {a:Exl} {ta:Str} (ka:qdT a ta) {b:Exl} {tb:Str} (kb:qdT b tb):Wd (.fn 22 [] []) [exV (.mk 20 n nm sb [a,b])] G = some (.ret (.str (inn 5 (a.op,ta) ++ ([32,61,32] ++ inn 5 (b.op,tb)))),G,false):=by
 obtain ⟨A,hA,lA,eA⟩:=EA 5 ka
 obtain ⟨B,hB,lB,eB⟩:=EA 5 kb
 rw [←hA,←hB]
 clear hA ka hB kb
 obtain ⟨oa,na,m2a,sba,asa⟩:=a
 obtain ⟨ob,nb,m2b,sbb,asb⟩:=b
 rw [qe] at eA eB
 have x0:=qF (k:=5) (xs:=[exV (.mk oa na m2a sba asa),exV (.mk ob nb m2b sbb asb)]) (f:=.no) (j:=.i64) (n:=0) rfl (by rw [qe];rfl)
 have x1:=qF (k:=5) (xs:=[exV (.mk oa na m2a sba asa),exV (.mk ob nb m2b sbb asb)]) (f:=.no) (j:=.i64) (n:=1) rfl (by rw [qe];rfl)
 simp only [qe,cc0,cc1,cc2,qa.cells] at x0 x1
 have c15:ile 15 (20:Int) = true:=Eq.trans rfl rfl
 have c24:ile (20:Int) 24 = true:=Eq.trans rfl rfl
 have hr:=fun G=>qbk (G:=G) (op:=20) (by omega) (by omega)
 rw [show rk 20 = 4 from rfl] at hr
 have w5:IntKind.i64.wrap 5 = 5:=by kernel_rfl
 have w0:IntKind.i64.wrap 5 = 5:=by kernel_rfl
 have e4:((4:Int) == 4) = true:=by kernel_rfl
 have xs:qc7 1 (.sl (G.length + 1) 0 10 10 0) (.int .i64 5) = some (.ptr (G.length + 1) 5):=ixs (G.length + 1) 5 (by omega)
 generalize hw:Wd _ _ G = w
 rw [qe,qi rfl (show T.get 22 = some c22 by kernel_rfl)] at hw
 simp only [List.map_cons,List.map_nil,qe] at hw
 simp only [c22,sT.1,sC.1,sTA.1,sCA.1,qc,qak,qal,Src.isTmp,qD,Src.hangs,qk.isT,qai,qb,Nat.testBit,bne,simprocAttr,-Int.reduceNatCast',qbU,qab,qaf,qaz,qad,qff,qb9,qaZ,qbm,qaY,qa1,if_true,eA,lA,eB,lB,x0,x1,c15,c24,hr,w5,w0,e4,xs,qhb,qhc,List.append_assoc,List.cons_append,List.nil_append] at hw
 subst hw
 simp only [List.append_assoc,List.cons_append,List.nil_append]
set_option maxHeartbeats 4000000 in
theorem qA1 {a:Exl} {ta:Str} (ka:qdT a ta) {b:Exl} {tb:Str} (kb:qdT b tb):Wd (.fn 22 [] []) [exV (.mk 21 n nm sb [a,b])] G = some (.ret (.str (inn 5 (a.op,ta) ++ ([32,60,32] ++ inn 5 (b.op,tb)))),G,false):=by
 obtain ⟨A,hA,lA,eA⟩:=EA 5 ka
 obtain ⟨B,hB,lB,eB⟩:=EA 5 kb
 rw [←hA,←hB]
 clear hA ka hB kb
 obtain ⟨oa,na,m2a,sba,asa⟩:=a
 obtain ⟨ob,nb,m2b,sbb,asb⟩:=b
 rw [qe] at eA eB
 have x0:=qF (k:=5) (xs:=[exV (.mk oa na m2a sba asa),exV (.mk ob nb m2b sbb asb)]) (f:=.no) (j:=.i64) (n:=0) rfl (by rw [qe];rfl)
 have x1:=qF (k:=5) (xs:=[exV (.mk oa na m2a sba asa),exV (.mk ob nb m2b sbb asb)]) (f:=.no) (j:=.i64) (n:=1) rfl (by rw [qe];rfl)
 simp only [qe,cc0,cc1,cc2,qa.cells] at x0 x1
 have c15:ile 15 (21:Int) = true:=Eq.trans rfl rfl
 have c24:ile (21:Int) 24 = true:=Eq.trans rfl rfl
 have hr:=fun G=>qbk (G:=G) (op:=21) (by omega) (by omega)
 rw [show rk 21 = 4 from rfl] at hr
 have w5:IntKind.i64.wrap 5 = 5:=by kernel_rfl
 have w0:IntKind.i64.wrap 6 = 6:=by kernel_rfl
 have e4:((4:Int) == 4) = true:=by kernel_rfl
 have xs:qc7 1 (.sl (G.length + 1) 0 10 10 0) (.int .i64 6) = some (.ptr (G.length + 1) 6):=ixs (G.length + 1) 6 (by omega)
 generalize hw:Wd _ _ G = w
 rw [qe,qi rfl (show T.get 22 = some c22 by kernel_rfl)] at hw
 simp only [List.map_cons,List.map_nil,qe] at hw
 simp only [c22,sT.1,sC.1,sTA.1,sCA.1,qc,qak,qal,Src.isTmp,qD,Src.hangs,qk.isT,qai,qb,Nat.testBit,bne,simprocAttr,-Int.reduceNatCast',qbU,qab,qaf,qaz,qad,qff,qb9,qaZ,qbm,qaY,qa1,if_true,eA,lA,eB,lB,x0,x1,c15,c24,hr,w5,w0,e4,xs,qhb,qhc,List.append_assoc,List.cons_append,List.nil_append] at hw
 subst hw
 simp only [List.append_assoc,List.cons_append,List.nil_append]
set_option maxHeartbeats 4000000 in
theorem qA2 {a:Exl} {ta:Str} (ka:qdT a ta) {b:Exl} {tb:Str} (kb:qdT b tb):Wd (.fn 22 [] []) [exV (.mk 22 n nm sb [a,b])] G = some (.ret (.str (inn 5 (a.op,ta) ++ ([32,60,61,32] ++ inn 5 (b.op,tb)))),G,false):=by
 obtain ⟨A,hA,lA,eA⟩:=EA 5 ka
 obtain ⟨B,hB,lB,eB⟩:=EA 5 kb
 rw [←hA,←hB]
 clear hA ka hB kb
 obtain ⟨oa,na,m2a,sba,asa⟩:=a
 obtain ⟨ob,nb,m2b,sbb,asb⟩:=b
 rw [qe] at eA eB
 have x0:=qF (k:=5) (xs:=[exV (.mk oa na m2a sba asa),exV (.mk ob nb m2b sbb asb)]) (f:=.no) (j:=.i64) (n:=0) rfl (by rw [qe];rfl)
 have x1:=qF (k:=5) (xs:=[exV (.mk oa na m2a sba asa),exV (.mk ob nb m2b sbb asb)]) (f:=.no) (j:=.i64) (n:=1) rfl (by rw [qe];rfl)
 simp only [qe,cc0,cc1,cc2,qa.cells] at x0 x1
 have c15:ile 15 (22:Int) = true:=Eq.trans rfl rfl
 have c24:ile (22:Int) 24 = true:=Eq.trans rfl rfl
 have hr:=fun G=>qbk (G:=G) (op:=22) (by omega) (by omega)
 rw [show rk 22 = 4 from rfl] at hr
 have w5:IntKind.i64.wrap 5 = 5:=by kernel_rfl
 have w0:IntKind.i64.wrap 7 = 7:=by kernel_rfl
 have e4:((4:Int) == 4) = true:=by kernel_rfl
 have xs:qc7 1 (.sl (G.length + 1) 0 10 10 0) (.int .i64 7) = some (.ptr (G.length + 1) 7):=ixs (G.length + 1) 7 (by omega)
 generalize hw:Wd _ _ G = w
 rw [qe,qi rfl (show T.get 22 = some c22 by kernel_rfl)] at hw
 simp only [List.map_cons,List.map_nil,qe] at hw
 simp only [c22,sT.1,sC.1,sTA.1,sCA.1,qc,qak,qal,Src.isTmp,qD,Src.hangs,qk.isT,qai,qb,Nat.testBit,bne,simprocAttr,-Int.reduceNatCast',qbU,qab,qaf,qaz,qad,qff,qb9,qaZ,qbm,qaY,qa1,if_true,eA,lA,eB,lB,x0,x1,c15,c24,hr,w5,w0,e4,xs,qhb,qhc,List.append_assoc,List.cons_append,List.nil_append] at hw
 subst hw
 simp only [List.append_assoc,List.cons_append,List.nil_append]
set_option maxHeartbeats 4000000 in
theorem qA3 {a:Exl} {ta:Str} (ka:qdT a ta) {b:Exl} {tb:Str} (kb:qdT b tb):Wd (.fn 22 [] []) [exV (.mk 23 n nm sb [a,b])] G = some (.ret (.str (inn 2 (a.op,ta) ++ ([32,97,110,100,32] ++ inn 3 (b.op,tb)))),G,false):=by
 obtain ⟨A,hA,lA,eA⟩:=EA 2 ka
 obtain ⟨B,hB,lB,eB⟩:=EA 3 kb
 rw [←hA,←hB]
 clear hA ka hB kb
 obtain ⟨oa,na,m2a,sba,asa⟩:=a
 obtain ⟨ob,nb,m2b,sbb,asb⟩:=b
 rw [qe] at eA eB
 have x0:=qF (k:=5) (xs:=[exV (.mk oa na m2a sba asa),exV (.mk ob nb m2b sbb asb)]) (f:=.no) (j:=.i64) (n:=0) rfl (by rw [qe];rfl)
 have x1:=qF (k:=5) (xs:=[exV (.mk oa na m2a sba asa),exV (.mk ob nb m2b sbb asb)]) (f:=.no) (j:=.i64) (n:=1) rfl (by rw [qe];rfl)
 simp only [qe,cc0,cc1,cc2,qa.cells] at x0 x1
 have c15:ile 15 (23:Int) = true:=Eq.trans rfl rfl
 have c24:ile (23:Int) 24 = true:=Eq.trans rfl rfl
 have hr:=fun G=>qbk (G:=G) (op:=23) (by omega) (by omega)
 rw [show rk 23 = 2 from rfl] at hr
 have w5:IntKind.i64.wrap 3 = 3:=by kernel_rfl
 have w0:IntKind.i64.wrap 8 = 8:=by kernel_rfl
 have e4:((2:Int) == 4) = false:=by kernel_rfl
 have xs:qc7 1 (.sl (G.length + 1) 0 10 10 0) (.int .i64 8) = some (.ptr (G.length + 1) 8):=ixs (G.length + 1) 8 (by omega)
 generalize hw:Wd _ _ G = w
 rw [qe,qi rfl (show T.get 22 = some c22 by kernel_rfl)] at hw
 simp only [List.map_cons,List.map_nil,qe] at hw
 simp only [c22,sT.1,sC.1,sTA.1,sCA.1,qc,qak,qal,Src.isTmp,qD,Src.hangs,qk.isT,qai,qb,Nat.testBit,bne,simprocAttr,-Int.reduceNatCast',qbU,qab,qaf,qaz,qad,qff,qb9,qaZ,qbm,qaY,qa1,if_true,eA,lA,eB,lB,x0,x1,c15,c24,hr,w5,w0,e4,xs,qhb,qhc,List.append_assoc,List.cons_append,List.nil_append] at hw
 subst hw
 simp only [List.append_assoc,List.cons_append,List.nil_append]
set_option maxHeartbeats 4000000 in
theorem qA4 {a:Exl} {ta:Str} (ka:qdT a ta) {b:Exl} {tb:Str} (kb:qdT b tb):Wd (.fn 22 [] []) [exV (.mk 24 n nm sb [a,b])] G = some (.ret (.str (inn 1 (a.op,ta) ++ ([32,111,114,32] ++ inn 2 (b.op,tb)))),G,false):=by
 obtain ⟨A,hA,lA,eA⟩:=EA 1 ka
 obtain ⟨B,hB,lB,eB⟩:=EA 2 kb
 rw [←hA,←hB]
 clear hA ka hB kb
 obtain ⟨oa,na,m2a,sba,asa⟩:=a
 obtain ⟨ob,nb,m2b,sbb,asb⟩:=b
 rw [qe] at eA eB
 have x0:=qF (k:=5) (xs:=[exV (.mk oa na m2a sba asa),exV (.mk ob nb m2b sbb asb)]) (f:=.no) (j:=.i64) (n:=0) rfl (by rw [qe];rfl)
 have x1:=qF (k:=5) (xs:=[exV (.mk oa na m2a sba asa),exV (.mk ob nb m2b sbb asb)]) (f:=.no) (j:=.i64) (n:=1) rfl (by rw [qe];rfl)
 simp only [qe,cc0,cc1,cc2,qa.cells] at x0 x1
 have c15:ile 15 (24:Int) = true:=Eq.trans rfl rfl
 have c24:ile (24:Int) 24 = true:=Eq.trans rfl rfl
 have hr:=fun G=>qbk (G:=G) (op:=24) (by omega) (by omega)
 rw [show rk 24 = 1 from rfl] at hr
 have w5:IntKind.i64.wrap 2 = 2:=by kernel_rfl
 have w0:IntKind.i64.wrap 9 = 9:=by kernel_rfl
 have e4:((1:Int) == 4) = false:=by kernel_rfl
 have xs:qc7 1 (.sl (G.length + 1) 0 10 10 0) (.int .i64 9) = some (.ptr (G.length + 1) 9):=ixs (G.length + 1) 9 (by omega)
 generalize hw:Wd _ _ G = w
 rw [qe,qi rfl (show T.get 22 = some c22 by kernel_rfl)] at hw
 simp only [List.map_cons,List.map_nil,qe] at hw
 simp only [c22,sT.1,sC.1,sTA.1,sCA.1,qc,qak,qal,Src.isTmp,qD,Src.hangs,qk.isT,qai,qb,Nat.testBit,bne,simprocAttr,-Int.reduceNatCast',qbU,qab,qaf,qaz,qad,qff,qb9,qaZ,qbm,qaY,qa1,if_true,eA,lA,eB,lB,x0,x1,c15,c24,hr,w5,w0,e4,xs,qhb,qhc,List.append_assoc,List.cons_append,List.nil_append] at hw
 subst hw
 simp only [List.append_assoc,List.cons_append,List.nil_append]
set_option maxHeartbeats 4000000 in
theorem qy2 {a:Exl} {ta:Str} (ka:qdT a ta) (ho:(a.op == 0) = false) (hn0:0 ≤ n) (hn1:n ≤ 3):Wd (.fn 22 [] []) [exV (.mk 12 n nm sb [a])] G = some (.ret (.str (inn 8 (a.op,ta) ++ (46 :: Lib.itoa n))),G,false):=by
 obtain ⟨A,hA,lA,eA⟩:=EA 8 ka
 rw [←hA]
 clear hA ka
 obtain ⟨oa,na,m2a,sba,asa⟩:=a
 rw [qe] at eA
 have x0:=qF (k:=5) (xs:=[exV (.mk oa na m2a sba asa)]) (f:=.no) (j:=.i64) (n:=0) rfl (by rw [qe];rfl)
 simp only [qe,cc0,cc1,cc2,qa.cells] at x0
 have c15:ile 15 (12:Int) = false:=Eq.trans rfl rfl
 have hD:=fun G=>qnj (G:=G) hn0 (by omega)
 have lD:∀k,19 ≤ k→(Lib.itoa n).length ≤ k:=fun k hk=>by have:=(qfX hn0 (by omega)).2;omega
 generalize Lib.itoa n = D at *
 simp only [Exl.op] at ho
 generalize hw:Wd _ _ G = w
 rw [qe,qi rfl (show T.get 22 = some c22 by kernel_rfl)] at hw
 simp only [List.map_cons,List.map_nil,qe] at hw
 simp only [c22,sT.1,sC.1,sTA.1,sCA.1,qc,qak,qal,Src.isTmp,qD,Src.hangs,qk.isT,qai,qb,Nat.testBit,bne,simprocAttr,-Int.reduceNatCast',qbU,qab,qaf,qaz,qad,qff,qb9,qaZ,qbm,qaY,qa1,if_true,eA,lA,x0,c15,hD,lD,ho,qhb,qhc,List.append_assoc,List.cons_append,List.nil_append] at hw
 subst hw
 simp only [List.append_assoc,List.cons_append,List.nil_append]
set_option maxHeartbeats 4000000 in
theorem qy3 {a:Exl} {ta:Str} (ka:qdT a ta) (ho:(a.op == 0) = true) (hn0:0 ≤ n) (hn1:n ≤ 3):Wd (.fn 22 [] []) [exV (.mk 12 n nm sb [a])] G = some (.ret (.str (40 :: (ta ++ [41]) ++ (46 :: Lib.itoa n))),G,false):=by
 obtain ⟨_,lt,eB⟩:=ka
 have lA:∀k,50000 ≤ k→ta.length ≤ k:=fun k hk=>by omega
 obtain ⟨oa,na,m2a,sba,asa⟩:=a
 rw [qe] at eB
 have x0:=qF (k:=5) (xs:=[exV (.mk oa na m2a sba asa)]) (f:=.no) (j:=.i64) (n:=0) rfl (by rw [qe];rfl)
 simp only [qe,cc0,qa.cells] at x0
 have c15:ile 15 (12:Int) = false:=Eq.trans rfl rfl
 have hD:=fun G=>qnj (G:=G) hn0 (by omega)
 have lD:∀k,19 ≤ k→(Lib.itoa n).length ≤ k:=fun k hk=>by have:=(qfX hn0 (by omega)).2;omega
 generalize Lib.itoa n = D at *
 simp only [Exl.op] at ho
 generalize hw:Wd _ _ G = w
 rw [qe,qi rfl (show T.get 22 = some c22 by kernel_rfl)] at hw
 simp only [List.map_cons,List.map_nil,qe] at hw
 simp only [c22,sT.1,sC.1,sTA.1,sCA.1,qc,qak,qal,Src.isTmp,qD,Src.hangs,qk.isT,qai,qb,Nat.testBit,bne,simprocAttr,-Int.reduceNatCast',qbU,qab,qaf,qaz,qad,qff,qb9,qaZ,qbm,qaY,qa1,if_true,eB,lA,x0,c15,hD,lD,ho,qhb,qhc,List.append_assoc,List.cons_append,List.nil_append] at hw
 subst hw
 simp only [List.append_assoc,List.cons_append,List.nil_append]
end
end Go.Proofs.YtkmlapholimbcaaGreatDoor.AE
namespace Go.Proofs.YtkmlapholimbcaaGreatDoor.AE
open Go.AE
def qc4 (l:List Str):Str:=match l with
 | []=>[]
 | x :: r=>32 :: x ++ (r.map fun t=>44 :: 32 :: t).flatten
theorem qm2 (l:List Str) (x:Str):qc4 (l ++ [x]) = qc4 l ++ (bif l.isEmpty then 32 :: x else 44 :: 32 :: x):=by
 cases l with
 | nil=>simp [qc4]
 | cons y l=>simp [qc4]
theorem qyy (a:Int×Str) (r:List (Int×Str)):qkz (a :: r) = 40 :: (inn 0 a ++ (44 :: (qc4 (r.map (inn 0)) ++ [41]))):=by
 cases r with
 | nil=>simp [qkz,qbz,qc4]
 | cons b r=>simp [qkz,qbz,qc4]
section
variable {G:List qf} {n:Int} {nm sb:Str}
theorem quw {aS:List Exl} {f:Exl→Str} (h:∀a ∈ aS,(f a).length ≤ 50000):(qc4 (aS.map fun a=>inn 0 (a.op,f a))).length ≤ aS.length * 50004:=by
 cases aS with
 | nil=>simp [qc4]
 | cons x r=>
  simp only [List.map_cons,qc4,List.length_cons,List.length_append,List.length_flatten,List.map_map]
  have h1:=qbY 0 (x.op,f x)
  have h2:=h x (by simp)
  have h3:(List.map (List.length ∘ ((fun t=>44 :: 32 :: t) ∘ fun a=>inn 0 (a.op,f a))) r).sum ≤ r.length * 50004:=by
   have hr:∀a ∈ r,(f a).length ≤ 50000:=fun a ha=>h a (by simp [ha])
   clear h h1 h2
   induction r with
   | nil=>simp
   | cons y r ih=>
    have h1:=qbY 0 (y.op,f y)
    have h2:=hr y (by simp)
    have:=ih fun a ha=>hr a (by simp [ha])
    simp only [List.map_cons,List.sum_cons,Function.comp,List.length_cons] at *
    omega
  simp only at h1
  omega
set_option maxHeartbeats 8000000 in
theorem qDv {a:Exl} {aS:List Exl} {f:Exl→Str} (h:∀x ∈ a :: aS,qdT x (f x)) (hl:aS.length ≤ 3):Wd (.fn 22 [] []) [exV (.mk 6 n nm sb (a :: aS))] G = some (.ret (.str (qkz ((a :: aS).map fun x=>(x.op,f x)))),G,false):=by
 obtain ⟨A,hA,lA,eA⟩:=EA 0 (h a (by simp))
 have hr:=fun i (hi:i < aS.length)=>EA 0 (h aS[i] (by simp))
 have hq:=fun x (hx:x ∈ aS)=>(h x (by simp [hx])).2.1
 rw [List.map_cons,qyy,List.map_map,←hA]
 generalize hf:(inn 0 ∘ fun x:Exl=>(x.op,f x)) = g
 have hfg:∀x,inn 0 (x.op,f x) = g x:=fun x=>by rw [←hf];rfl
 have hlen:∀i,(qc4 ((aS.take i).map g)).length ≤ 150012:=fun i=>by
  have:=quw (aS:=aS.take i) (f:=f) fun x hx=>hq x (List.mem_of_mem_take hx)
  have e:(fun a:Exl=>inn 0 (a.op,f a)) = g:=by rw [←hf];rfl
  rw [e] at this
  have h3:(aS.take i).length ≤ 3:=by rw [List.length_take];omega
  have:(aS.take i).length * 50004 ≤ 3 * 50004:=Nat.mul_le_mul_right _ h3
  omega
 clear hA hq
 have hX:=qe 6 n nm sb (a :: aS)
 obtain ⟨op,na,m2,sa,asa⟩:=a
 rw [qe] at eA
 have x0:qc7 5 (.lst ((Exl.mk op na m2 sa asa :: aS).map exV) .no) (.int .i64 0) = some (.iptr [.int .i64 op,.int .i64 na,.str m2,.str sa,.lst (asa.map exV) .no] 0):=by
  have:=qF (k:=5) (xs:=(Exl.mk op na m2 sa asa :: aS).map exV) (f:=.no) (j:=.i64) (n:=0) (x:=exV (.mk op na m2 sa asa)) rfl (by rw [qe];rfl)
  rw [qe] at this
  exact this
 obtain ⟨M,hM⟩ :∃M,M = (Exl.mk op na m2 sa asa :: aS).map exV:=⟨_,rfl⟩
 have hMl:M.length = aS.length + 1:=by rw [hM,List.length_map,List.length_cons]
 have hMg:∀i (hi:i < aS.length),M[i + 1]? = some (exV aS[i]):=fun i hi=>by rw [hM,List.map_cons,List.getElem?_cons_succ,List.getElem?_map,List.getElem?_eq_getElem hi];rfl
 rw [←hM] at x0 hX
 clear hM
 obtain ⟨H,hH⟩ :∃H,H = G ++ [qf.cells [.int .i64 6,.int .i64 n,.str nm,.str sb,.lst M .no],.cells [.str [32,43,32],.str [32,45,32],.str [32,42,32],.str [32,47,32],.str [32,37,32],.str [32,61,32],.str [32,60,32],.str [32,60,61,32],.str [32,97,110,100,32],.str [32,111,114,32]]]:=⟨_,rfl⟩
 have hbx:H[G.length]? = some (.cells [.int .i64 6,.int .i64 n,.str nm,.str sb,.lst M .no]):=by rw [hH,qgl];rfl
 have htk:H.take G.length = G:=by rw [hH,List.take_left]
 have loop:∀k st,(∃tt j,st = ⟨tt,H,false⟩∧tt.length = 201∧lkp tt 1 = .ptr G.length 0∧lkp tt 6 = .str (40 :: (A ++ (44 :: qc4 ((aS.take (j - 1)).map g))))∧lkp tt 7 = .int .i64 (j:Nat)∧1 ≤ j∧j + k = aS.length + 1)→
   ∃x st',qo G.length Wd (.loop qjW) st = some (x,st')∧(∃tt,st' = ⟨tt,H,false⟩∧tt.length = 201∧lkp tt 6 = .str (40 :: (A ++ (44 :: qc4 (aS.map g))))∧x = .exit 1):=by
  refine qbj _ (fun x st'=>∃tt,st' = ⟨tt,H,false⟩∧tt.length = 201∧lkp tt 6 = .str (40 :: (A ++ (44 :: qc4 (aS.map g))))∧x = .exit 1) ?_
  rintro k st ⟨tt,j,rfl,ht,e1,e6,e7,hj,hik⟩
  generalize he:qo G.length Wd qjW _ = r
  rcases Nat.lt_or_ge j M.length with hi | hi
  ·have c1:ilt (j:Int) (M.length:Int) = true:=qyE (by omega)
   have w:=qX (n:=j) (by omega)
   have hi2:j - 1 < aS.length:=by omega
   obtain ⟨B,hB,lB,eB⟩:=hr (j - 1) hi2
   have hg:=hMg (j - 1) hi2
   rw [show j - 1 + 1 = j by omega] at hg
   have hS:qc4 ((aS.take (j + 1 - 1)).map g) = qc4 ((aS.take (j - 1)).map g) ++ (bif (aS.take (j - 1)).isEmpty then 32 :: B else 44 :: 32 :: B):=by
    rw [show j + 1 - 1 = j - 1 + 1 by omega,List.take_succ_eq_append_getElem hi2,List.map_append,List.map_cons,List.map_nil,qm2,←hfg,←hB]
    congr 2
    cases aS.take (j - 1) <;> rfl
   have hl1:∀k,150012 ≤ k→(qc4 ((aS.take (j - 1)).map g)).length ≤ k:=fun k hk=>by have:=hlen (j - 1);omega
   have hne:(aS.take (j - 1)).isEmpty = !ilt 1 (j:Int):=by
    rw [qM]
    by_cases h1:j = 1
    ·subst h1;rfl
    ·rw [decide_eq_true (by omega)]
     obtain ⟨q,hq⟩ :∃q,j - 1 = q + 1:=⟨j - 2,by omega⟩
     rw [hq]
     cases aS with
     | nil=>simp at hi2
     | cons b r=>rfl
   rw [hne] at hS
   generalize qc4 ((aS.take (j - 1)).map g) = W at *
   generalize aS[j - 1] = y at eB hg
   obtain ⟨o',n',m',s',a'⟩:=y
   rw [qe] at eB hg
   have hx:=qF (k:=5) (f:=.no) (j:=.i64) hg rfl
   simp only [qa.cells] at hx
   cases c2:ilt 1 (j:Int) with
   | false=>
    rw [c2,Bool.not_false,cond_true] at hS
    simp (maxDischargeDepth:=9) only [qjW,sT.1,sC.1,sTA.1,sCA.1,qc,qak,qal,Src.isTmp,qD,Src.hangs,qk.isT,qai,qb,Nat.testBit,bne,simprocAttr,-Int.reduceNatCast',ht,e1,e6,e7,c1,c2,w,hx,hbx,eB,lA,lB,hl1,qhb,qhc,if_true,List.append_assoc,List.cons_append,List.nil_append] at he
    subst he
    refine .inl ⟨_,k - 1,rfl,by omega,_,j + 1,rfl,by simp only [qj,ht],?_,?_,?_,by omega,by omega⟩
    ·simp only [sT.1,sC.1,sTA.1,sCA.1,qc,qak,qal,Src.isTmp,qD,Src.hangs,qk.isT,qai,qb,Nat.testBit,bne,simprocAttr,-Int.reduceNatCast',ht,e1]
    ·rw [hS];simp only [sT.1,sC.1,sTA.1,sCA.1,qc,qak,qal,Src.isTmp,qD,Src.hangs,qk.isT,qai,qb,Nat.testBit,bne,simprocAttr,-Int.reduceNatCast',ht,List.append_assoc,List.cons_append,List.nil_append]
    ·simp only [sT.1,sC.1,sTA.1,sCA.1,qc,qak,qal,Src.isTmp,qD,Src.hangs,qk.isT,qai,qb,Nat.testBit,bne,simprocAttr,-Int.reduceNatCast',ht,w]
   | true=>
    rw [c2,Bool.not_true,cond_false] at hS
    simp (maxDischargeDepth:=9) only [qjW,sT.1,sC.1,sTA.1,sCA.1,qc,qak,qal,Src.isTmp,qD,Src.hangs,qk.isT,qai,qb,Nat.testBit,bne,simprocAttr,-Int.reduceNatCast',ht,e1,e6,e7,c1,c2,w,hx,hbx,eB,lA,lB,hl1,qhb,qhc,if_true,List.append_assoc,List.cons_append,List.nil_append] at he
    subst he
    refine .inl ⟨_,k - 1,rfl,by omega,_,j + 1,rfl,by simp only [qj,ht],?_,?_,?_,by omega,by omega⟩
    ·simp only [sT.1,sC.1,sTA.1,sCA.1,qc,qak,qal,Src.isTmp,qD,Src.hangs,qk.isT,qai,qb,Nat.testBit,bne,simprocAttr,-Int.reduceNatCast',ht,e1]
    ·rw [hS];simp only [sT.1,sC.1,sTA.1,sCA.1,qc,qak,qal,Src.isTmp,qD,Src.hangs,qk.isT,qai,qb,Nat.testBit,bne,simprocAttr,-Int.reduceNatCast',ht,List.append_assoc,List.cons_append,List.nil_append]
    ·simp only [sT.1,sC.1,sTA.1,sCA.1,qc,qak,qal,Src.isTmp,qD,Src.hangs,qk.isT,qai,qb,Nat.testBit,bne,simprocAttr,-Int.reduceNatCast',ht,w]
  ·have c1:ilt (j:Int) (M.length:Int) = false:=qyD (by omega)
   rw [List.take_of_length_le (by omega)] at e6
   simp only [qjW,sT.1,sC.1,sTA.1,sCA.1,qc,qak,qal,Src.isTmp,qD,Src.hangs,qk.isT,qai,qb,Nat.testBit,bne,simprocAttr,-Int.reduceNatCast',ht,e1,e6,e7,c1,hbx] at he
   subst he
   refine .inr ⟨_,_,rfl,by simp,_,rfl,by simp only [qj,ht],?_,rfl⟩
   simp only [sT.1,sC.1,sTA.1,sCA.1,qc,qak,qal,Src.isTmp,qD,Src.hangs,qk.isT,qai,qb,Nat.testBit,bne,simprocAttr,-Int.reduceNatCast',ht,e6]
 have c15:ile 15 (6:Int) = false:=Eq.trans rfl rfl
 have hl1:∀k,150012 ≤ k→(qc4 (aS.map g)).length ≤ k:=fun k hk=>by have:=hlen aS.length;rw [List.take_length] at this;omega
 generalize hw:Wd _ _ G = w
 rw [hX,qi rfl (show T.get 22 = some c22 by kernel_rfl)] at hw
 simp only [c22,sT.1,sC.1,sTA.1,sCA.1,qc,qak,qal,Src.isTmp,qD,Src.hangs,qk.isT,qai,qb,Nat.testBit,bne,simprocAttr,-Int.reduceNatCast',qbU,qab,qaf,qaz,qad,qff,qb9,qaZ,qbm,qaY,qa1,if_true,eA,lA,x0,c15,qhb,qhc,List.append_assoc,List.cons_append,List.nil_append] at hw
 rw [←hH] at hw
 generalize hr1:qo G.length Wd (.loop qjW) _ = r at hw
 obtain ⟨x,st',rfl,tt,rfl,ht,e6,rfl⟩:=qgr hr1 (loop aS.length _ ⟨_,1,rfl,by simp only [sT.1,sC.1,sTA.1,sCA.1,qc,qak,qal,Src.isTmp,qD,Src.hangs,qk.isT,qai,qb,Nat.testBit,bne,simprocAttr,-Int.reduceNatCast'],by simp only [sT.1,sC.1,sTA.1,sCA.1,qc,qak,qal,Src.isTmp,qD,Src.hangs,qk.isT,qai,qb,Nat.testBit,bne,simprocAttr,-Int.reduceNatCast'],by simp only [sT.1,sC.1,sTA.1,sCA.1,qc,qak,qal,Src.isTmp,qD,Src.hangs,qk.isT,qai,qb,Nat.testBit,bne,simprocAttr,-Int.reduceNatCast',Nat.sub_self,List.take_zero,List.map_nil,qc4,List.append_nil],by simp only [sT.1,sC.1,sTA.1,sCA.1,qc,qak,qal,Src.isTmp,qD,Src.hangs,qk.isT,qai,qb,Nat.testBit,bne,simprocAttr,-Int.reduceNatCast',cc1],by omega,by omega⟩)
 simp (maxDischargeDepth:=9) only [sT.1,sC.1,sTA.1,sCA.1,qc,qak,qal,Src.isTmp,qD,Src.hangs,qk.isT,qai,qb,Nat.testBit,bne,simprocAttr,-Int.reduceNatCast',ht,e6,htk,lA,hl1,qhb,qhc,if_true,List.append_assoc,List.cons_append,List.nil_append] at hw
 subst hw
 exact congrArg some (qa0 htk rfl)
end
end Go.Proofs.YtkmlapholimbcaaGreatDoor.AE
namespace Go.Proofs.YtkmlapholimbcaaGreatDoor.AE
open Go.AE
theorem qsc {op n:Int} {nm sb:Str} {aS:List Exl} {f:Exl→Str} (hb:qgA op n nm sb aS.length = true) (hn:n ≤ 9223372036854775807) (hl:(ntx op n nm sb (aS.map fun a=>(a.op,f a))).length ≤ 50000) (h:∀a ∈ aS,qdT a (f a)):qdT (.mk op n nm sb aS) (ntx op n nm sb (aS.map fun a=>(a.op,f a))):=by
 have ho:0 ≤ op∧op ≤ 25:=Decidable.byContradiction fun hc=>by rw [qcl hc] at hb;cases hb
 refine ⟨ho,hl,fun G=>?_⟩
 clear hl
 have an:∀{a b:Bool},(a && b) = true→a = true∧b = true:=fun h=>(Bool.and_eq_true _ _).mp h
 have:op = 0∨op = 1∨op = 2∨op = 3∨op = 4∨op = 5∨op = 6∨op = 7∨op = 8∨op = 9∨op = 10∨op = 11∨op = 12∨op = 13∨op = 14∨op = 15∨op = 16∨op = 17∨op = 18∨op = 19∨op = 20∨op = 21∨op = 22∨op = 23∨op = 24∨op = 25:=by omega
 rcases this with rfl | rfl | rfl | rfl | rfl | rfl | rfl | rfl | rfl | rfl | rfl | rfl | rfl | rfl | rfl | rfl | rfl | rfl | rfl | rfl | rfl | rfl | rfl | rfl | rfl | rfl
 ·obtain ⟨h1,h2⟩:=an (show (fB _ _ _ _ _ n nm sb aS.length && ile 0 n) = true from hb)
  have hl:aS = []:=List.length_eq_zero_iff.1 (by have:=qp h1;omega)
  subst hl
  rw [qay] at h2
  exact qDp (of_decide_eq_true h2) hn
 ·have h1:fB false false false 0 0 n nm sb aS.length = true:=hb
  have hl:aS = []:=List.length_eq_zero_iff.1 (by have:=qp h1;omega)
  subst hl
  exact qDq
 ·have h1:fB false false false 0 0 n nm sb aS.length = true:=hb
  have hl:aS = []:=List.length_eq_zero_iff.1 (by have:=qp h1;omega)
  subst hl
  exact qDr
 ·obtain ⟨h1,h2⟩:=an (show (fB _ _ _ _ _ n nm sb aS.length && qbD nm) = true from hb)
  have hl:aS = []:=List.length_eq_zero_iff.1 (by have:=qp h1;omega)
  subst hl
  exact qDs (qe6 h2).2
 ·obtain ⟨h1,h2⟩:=an (show (fB _ _ _ _ _ n nm sb aS.length && qA nm) = true from hb)
  have hl:aS = []:=List.length_eq_zero_iff.1 (by have:=qp h1;omega)
  subst hl
  exact qDt
 ·obtain ⟨h1,h2⟩:=an (show (fB _ _ _ _ _ n nm sb aS.length && (qA nm && qA sb)) = true from hb)
  obtain ⟨h2,h3⟩:=an h2
  have hl:aS = []:=List.length_eq_zero_iff.1 (by have:=qp h1;omega)
  subst hl
  exact qDu (qaa h2).2 (qaa h3).2
 ·have h1:fB false false false 1 4 n nm sb aS.length = true:=hb
  have:=qp h1
  cases aS with
  | nil=>simp at this
  | cons a aS=>exact qDv h (by simp at this;omega)
 ·obtain ⟨h1,h2⟩:=an (show (fB _ _ _ _ _ n nm sb aS.length && qA nm) = true from hb)
  have hl:aS = []:=List.length_eq_zero_iff.1 (by have:=qp h1;omega)
  subst hl
  exact qDw (qaa h2).2
 ·obtain ⟨h1,h2⟩:=an (show (fB _ _ _ _ _ n nm sb aS.length && qA nm) = true from hb)
  have hl:aS = []:=List.length_eq_zero_iff.1 (by have:=qp h1;omega)
  subst hl
  exact qDx (qaa h2).2
 ·obtain ⟨h1,h2⟩:=an (show (fB _ _ _ _ _ n nm sb aS.length && qA nm) = true from hb)
  have hl:aS = []:=List.length_eq_zero_iff.1 (by have:=qp h1;omega)
  subst hl
  exact qDy (qaa h2).2
 ·obtain ⟨h1,h2⟩:=an (show (fB _ _ _ 1 1 n nm sb aS.length && qA nm) = true from hb)
  obtain ⟨a,rfl⟩:=qbJ (l:=aS) (by have:=qp h1;omega)
  exact qAR (h a (by simp)) (qaa h2).2
 ·have h1:fB false false false 0 0 n nm sb aS.length = true:=hb
  have hl:aS = []:=List.length_eq_zero_iff.1 (by have:=qp h1;omega)
  subst hl
  exact qAS
 ·obtain ⟨h1,h2⟩:=an (show (fB _ _ _ 1 1 n nm sb aS.length && (ile 0 n && ilt n 4)) = true from hb)
  obtain ⟨a,rfl⟩:=qbJ (l:=aS) (by have:=qp h1;omega)
  simp only [Bool.and_eq_true,qay,qM,decide_eq_true_eq] at h2
  have ha:=h a (by simp)
  have e:ntx 12 n nm sb ([a].map fun a=>(a.op,f a)) = inn (bif a.op == 0 then 10 else 8) (a.op,f a) ++ (46 :: Lib.itoa n):=rfl
  rw [e]
  cases hc:a.op == 0 with
  | true=>
   have e2:inn 10 (a.op,f a) = 40 :: (f a ++ [41]):=by
    rw [inn,beq_iff_eq.1 hc]
    rfl
   rw [cond_true,e2]
   exact qy3 ha hc h2.1 (by omega)
  | false=>
   rw [cond_false]
   exact qy2 ha hc h2.1 (by omega)
 ·have h1:fB false false false 1 1 n nm sb aS.length = true:=hb
  obtain ⟨a,rfl⟩:=qbJ (l:=aS) (by have:=qp h1;omega)
  exact qAT (h a (by simp))
 ·have h1:fB false false false 1 1 n nm sb aS.length = true:=hb
  obtain ⟨a,rfl⟩:=qbJ (l:=aS) (by have:=qp h1;omega)
  exact qAU (h a (by simp))
 ·have h1:fB false false false 2 2 n nm sb aS.length = true:=hb
  obtain ⟨a,b,rfl⟩:=qaw (l:=aS) (by have:=qp h1;omega)
  exact qAV (h a (by simp)) (h b (by simp))
 ·have h1:fB false false false 2 2 n nm sb aS.length = true:=hb
  obtain ⟨a,b,rfl⟩:=qaw (l:=aS) (by have:=qp h1;omega)
  exact qAW (h a (by simp)) (h b (by simp))
 ·have h1:fB false false false 2 2 n nm sb aS.length = true:=hb
  obtain ⟨a,b,rfl⟩:=qaw (l:=aS) (by have:=qp h1;omega)
  exact qAX (h a (by simp)) (h b (by simp))
 ·have h1:fB false false false 2 2 n nm sb aS.length = true:=hb
  obtain ⟨a,b,rfl⟩:=qaw (l:=aS) (by have:=qp h1;omega)
  exact qAY (h a (by simp)) (h b (by simp))
 ·have h1:fB false false false 2 2 n nm sb aS.length = true:=hb
  obtain ⟨a,b,rfl⟩:=qaw (l:=aS) (by have:=qp h1;omega)
  exact qAZ (h a (by simp)) (h b (by simp))
 ·have h1:fB false false false 2 2 n nm sb aS.length = true:=hb
  obtain ⟨a,b,rfl⟩:=qaw (l:=aS) (by have:=qp h1;omega)
  exact qA0 (h a (by simp)) (h b (by simp))
 ·have h1:fB false false false 2 2 n nm sb aS.length = true:=hb
  obtain ⟨a,b,rfl⟩:=qaw (l:=aS) (by have:=qp h1;omega)
  exact qA1 (h a (by simp)) (h b (by simp))
 ·have h1:fB false false false 2 2 n nm sb aS.length = true:=hb
  obtain ⟨a,b,rfl⟩:=qaw (l:=aS) (by have:=qp h1;omega)
  exact qA2 (h a (by simp)) (h b (by simp))
 ·have h1:fB false false false 2 2 n nm sb aS.length = true:=hb
  obtain ⟨a,b,rfl⟩:=qaw (l:=aS) (by have:=qp h1;omega)
  exact qA3 (h a (by simp)) (h b (by simp))
 ·have h1:fB false false false 2 2 n nm sb aS.length = true:=hb
  obtain ⟨a,b,rfl⟩:=qaw (l:=aS) (by have:=qp h1;omega)
  exact qA4 (h a (by simp)) (h b (by simp))
 ·have h1:fB false false false 3 3 n nm sb aS.length = true:=hb
  obtain ⟨a,b,c,rfl⟩:=qe4 (l:=aS) (by have:=qp h1;omega)
  exact qA5 (h a (by simp)) (h b (by simp)) (h c (by simp))
theorem quS:∀(d:Nat) (e:Exl),right d e = true→OkN e→sz d e ≤ 1100→qdT e (tx d e)
 | 0,_,h,_,_=>by rw [right] at h;cases h
 | d + 1,.mk op n nm sb aS,h,hn,hs=>by
  have hl:=(qrL (d + 1) (.mk op n nm sb aS) h hn).2
  rw [right,Bool.and_eq_true,List.all_eq_true] at h
  obtain ⟨h1,h2⟩:=qnm hn
  rw [tx] at *
  refine qsc h.1 h1 (by omega) fun a ha=>quS d a (h.2 a ha) (h2 a ha) ?_
  rw [sz] at hs
  have:sz d a ≤ (aS.map (sz d)).sum:=by
   clear h hn h2 hl hs
   induction aS with
   | nil=>cases ha
   | cons b l ih=>
    simp only [List.map_cons,List.sum_cons]
    rcases List.mem_cons.1 ha with rfl | ha
    ·omega
    ·have:=ih ha;omega
  omega
theorem qwp {e:Exl} (h:qAF e) (G:List qf):Wd (.fn 10 [] []) [exV e,.int .i64 0] G = some (.ret (.str (eT e)),G,false):=by
 have hb:=quS 20 e h.1 h.2.1 (by have:=h.2.2;omega)
 have:=qid hb 0 G
 have e2:inn 0 (e.op,tx 20 e) = tx 20 e:=by
  rw [inn]
  have hk:∀k:Nat,k ≤ 25→ile 0 (rk (k:Nat)) = true:=by decide
  have h1:=hb.1
  have:=hk e.op.toNat (by omega)
  rw [show ((e.op.toNat:Nat):Int) = e.op by omega] at this
  simp only [this,cond_true]
 rw [e2] at this
 exact this
end Go.Proofs.YtkmlapholimbcaaGreatDoor.AE
namespace Go.Proofs.YtkmlapholimbcaaGreatDoor.AE
open Go.AE
def qei:List (Nat×Str):=[(5,[97,116,111,109,105,99]),(6,[99,111,117,112,108,101,100]),(7,[114,111,111,116]),(8,[105,110]),(9,[111,117,116]),(10,[118,97,114]),(11,[116,97]),(12,[101,109,105,116]),(13,[105,110,116]),(14,[98,111,111,108]),(15,[115,121,109]),(16,[101,120,116]),(17,[99,111,110]),(18,[112,97,114,116]),(19,[108,105,110,107]),(20,[114,117,108,101]),(21,[97,100,100]),(22,[100,114,111,112]),(23,[116,105,101]),(24,[99,117,116]),(25,[105,102]),(26,[116,104,101,110]),(27,[101,108,115,101]),(28,[97,110,100]),(29,[111,114]),(30,[110,111,116]),(31,[116,114,117,101]),(32,[102,97,108,115,101]),(33,[99,111,117,110,116]),(34,[104,97,115]),(35,[115,117,109]),(36,[108,101,97,115,116]),(37,[101,108,97,112,115,101,100])]
def qjw:List (Nat×Str)→qG
 | []=>.skip
 | [x]=>.reg [ao x.1 (.bin .eql (.t 3) (.c (.str x.2))),ao 4 (.asg (.t x.1))]
 | x :: y :: r=>.seq (.reg [ao x.1 (.bin .eql (.t 3) (.c (.str x.2))),ao 4 (.asg (.t x.1))]) (.cond (.t 4) .skip (qjw (y :: r)))
def qrd:qG:=.seq (.reg [ao 2 (.asg (.c (.bool false)))]) (.seq (.seq (.reg [ao 3 (.mov (.t 0))]) (.block 0 (.seq (qjw qei) (.cond (.t 4) (.seq (.reg [ao 2 (.asg (.c (.bool true)))]) .ret) .skip)))) (.seq (.reg [ao 2 (.asg (.c (.bool false)))]) .ret))
theorem que:(⟨38,[.tmp 2],qrd⟩ :qE) = c39:=by kernel_rfl
theorem qkJ {b:Nat} {h:List qf} {s:Str}:∀(l:List (Nat×Str)),l ≠ []→(∀x ∈ l,5 ≤ x.1∧x.1 < 38)→∀tt:List qa,tt.length = 38→lkp tt 3 = .str s→
  ∃tt',qo b Wd (qjw l) ⟨tt,h,false⟩ = some (.nor,⟨tt',h,false⟩)∧tt'.length = 38∧lkp tt' 4 = .bool (l.any fun x=>s == x.2)
 | [],h0,_,_,_,_=>absurd rfl h0
 | [(k,w)],_,hk,tt,ht,e3=>by
  obtain ⟨k5,k38⟩:=hk (k,w) (by simp)
  have a1:¬ (k = 3):=by simp only at k5;omega
  have a2:¬ (k = 4):=by simp only at k5;omega
  have a3:k < 38:=k38
  simp only [qjw,sT.1,sC.1,qc,qb,Nat.testBit,simprocAttr,-Int.reduceNatCast',ht,e3,a1,a2,a3]
  refine ⟨_,rfl,by simp only [qj,ht],?_⟩
  simp only [sT.1,sC.1,qc,qb,Nat.testBit,simprocAttr,-Int.reduceNatCast',ht,List.any_cons,List.any_nil]
 | (k,w) :: y :: r,_,hk,tt,ht,e3=>by
  obtain ⟨k5,k38⟩:=hk (k,w) (by simp)
  have a1:¬ (k = 3):=by simp only at k5;omega
  have a2:¬ (k = 4):=by simp only at k5;omega
  have a3:k < 38:=k38
  generalize he:qo b Wd _ _ = R
  cases hb:(s == w) with
  | true=>
   simp only [qjw,sT.1,sC.1,qc,qb,Nat.testBit,simprocAttr,-Int.reduceNatCast',ht,e3,a1,a2,a3,hb] at he
   subst he
   refine ⟨_,rfl,by simp only [qj,ht],?_⟩
   simp only [sT.1,sC.1,qc,qb,Nat.testBit,simprocAttr,-Int.reduceNatCast',ht,List.any_cons,hb]
  | false=>
   obtain ⟨tt',g1,g2,g3⟩:=qkJ (b:=b) (h:=h) (s:=s) (y :: r) (by simp) (fun x hx=>hk x (List.mem_cons_of_mem _ hx)) (up (up tt k (.bool false)) 4 (.bool false)) (by simp only [qj,ht]) (by simp only [sT.1,sC.1,qc,qb,Nat.testBit,simprocAttr,-Int.reduceNatCast',ht,e3,a1])
   simp only [qjw,sT.1,sC.1,qc,qb,Nat.testBit,simprocAttr,-Int.reduceNatCast',ht,e3,a1,a2,a3,hb,g1] at he
   subst he
   refine ⟨tt',rfl,g2,?_⟩
   rw [g3,List.any_cons (a:=(k,w)),hb,Bool.false_or]
theorem qx8:(qei.all fun x=>words.contains x.2) = true:=by kernel_rfl
theorem qxf:(words.all fun w=>qei.any fun x=>w == x.2) = true:=by kernel_rfl
theorem quf (s:Str):(qei.any fun x=>s == x.2) = qbr s:=by
 rw [Bool.eq_iff_iff,qbr,List.any_eq_true,List.any_eq_true]
 constructor
 ·rintro ⟨x,hx,h⟩
  have:=List.all_eq_true.1 qx8 x hx
  refine ⟨x.2,by simpa using this,?_⟩
  rw [beq_iff_eq] at h
  rw [h,beq_self_eq_true]
 ·rintro ⟨w,hw,h⟩
  have:=List.all_eq_true.1 qxf w hw
  rw [List.any_eq_true] at this
  obtain ⟨x,hx,h2⟩:=this
  rw [beq_iff_eq] at h
  subst h
  exact ⟨x,hx,h2⟩
theorem qx7:∀x ∈ qei,5 ≤ x.1∧x.1 < 38:=by
 have:(qei.all fun x=>decide (5 ≤ x.1) && decide (x.1 < 38)) = true:=by kernel_rfl
 intro x hx
 simpa using List.all_eq_true.1 this x hx
theorem qmU (s:Str) (h:List qf):Wd (.fn 39 [] []) [.str s] h = some (.ret (.bool (qbr s)),h,false):=by
 rw [qi rfl (show T.get 39 = some c39 by kernel_rfl),←que]
 generalize hR:qeo _ h _ = R
 simp only [qrd,sT.1,sC.1,qc,qb,Nat.testBit,simprocAttr,-Int.reduceNatCast'] at hR
 generalize hr:qo h.length Wd (qjw qei) _ = r at hR
 obtain ⟨tt,rfl,ht,e4⟩ :∃tt,r = some (.nor,⟨tt,h,false⟩)∧tt.length = 38∧lkp tt 4 = .bool (qei.any fun x=>s == x.2):=by
  rw [←hr]
  refine qkJ qei (by simp [qei]) qx7 _ ?_ ?_
  all_goals simp only [sT.1,sC.1,qc,qb,Nat.testBit,simprocAttr,-Int.reduceNatCast']
 rw [quf] at e4
 rw [←hR]
 cases hb:qbr s with
 | true=>
  rw [hb] at e4
  simp only [sT.1,sC.1,qc,qb,Nat.testBit,simprocAttr,-Int.reduceNatCast',ht,e4]
 | false=>
  rw [hb] at e4
  simp only [sT.1,sC.1,qc,qb,Nat.testBit,simprocAttr,-Int.reduceNatCast',ht,e4]
theorem qam (s:Str) (h:List qf):Wd (.fn 20 [] []) [.str s] h = some (.ret (.bool (qbD s)),h,false):=by
 have loop:∀k st,(∃tt i,st = ⟨tt,h,false⟩∧tt.length = 50∧lkp tt 0 = .str s∧lkp tt 3 = .int .i64 (i:Nat)∧i + k = s.length∧qS i (s.drop i) = qS 0 s∧s.length ≤ 16)→
   ∃x st',qo h.length Wd (.loop qiL) st = some (x,st')∧((x = .exit 0∧qS 0 s = true∧∃tt,st' = ⟨tt,h,false⟩∧tt.length = 50)∨(x = .ret∧qS 0 s = false∧∃tt,st' = ⟨tt,h,false⟩∧tt.length = 50∧lkp tt 2 = .bool false)):=by
  refine qbj _ (fun x st'=>(x = .exit 0∧qS 0 s = true∧∃tt,st' = ⟨tt,h,false⟩∧tt.length = 50)∨(x = .ret∧qS 0 s = false∧∃tt,st' = ⟨tt,h,false⟩∧tt.length = 50∧lkp tt 2 = .bool false)) ?_
  rintro k st ⟨tt,i,rfl,ht,e0,e3,hik,hR,hl⟩
  generalize he:qo h.length Wd qiL _ = r
  rcases Nat.lt_or_ge i s.length with hi | hi
  ·have c1:ilt (i:Int) (s.length:Int) = true:=by rw [qM];simp;omega
   have hx:qdG (.str s) (.int .i64 (i:Nat)) = some (.int .u8 (s[i].toNat:Nat)):=qaM (List.getElem?_eq_getElem hi)
   have w:=qX (n:=i) (by omega)
   rw [List.drop_eq_getElem_cons hi,qS] at hR
   have hz:((i:Int) == 0) = (i == 0):=by rw [Bool.eq_iff_iff];simp
   cases hlt:qaR s[i] with
   | true=>
    have q:(ile 97 (s[i].toNat:Int) && ile (s[i].toNat:Int) 122) = true:=hlt
    simp only [Bool.and_eq_true] at q
    cases hd:ile 48 (s[i].toNat:Int) <;> cases hd2:ile (s[i].toNat:Int) 57
    all_goals
     simp only [qiL,sT.1,sC.1,qc,qb,Nat.testBit,simprocAttr,-Int.reduceNatCast',ht,e0,e3,c1,hx,w,hz,q.1,q.2,hd,hd2] at he
     subst he
     refine .inl ⟨_,k - 1,rfl,by omega,_,i + 1,rfl,by simp only [qj,ht],?_,?_,by omega,by rw [hlt] at hR;simpa using hR,hl⟩
     ·simp only [sT.1,sC.1,qc,qb,Nat.testBit,simprocAttr,-Int.reduceNatCast',ht,e0]
     ·simp only [sT.1,sC.1,qc,qb,Nat.testBit,simprocAttr,-Int.reduceNatCast',ht]
   | false=>
    have q:(ile 97 (s[i].toNat:Int) && ile (s[i].toNat:Int) 122) = false:=hlt
    have hq:∀a b,ile 97 (s[i].toNat:Int) = a→ile (s[i].toNat:Int) 122 = b→(a && b) = false:=fun a b ha hb=>by rw [←ha,←hb];exact q
    cases hi0:(i == 0) with
    | true=>
     rw [hlt,hi0] at hR
     cases ha:ile 97 (s[i].toNat:Int) <;> cases hb:ile (s[i].toNat:Int) 122 <;> cases hd:ile 48 (s[i].toNat:Int) <;> cases hd2:ile (s[i].toNat:Int) 57
     all_goals first | (have:=hq _ _ ha hb;cases this;done) | skip
     all_goals
      simp only [qiL,sT.1,sC.1,qc,qb,Nat.testBit,simprocAttr,-Int.reduceNatCast',ht,e0,e3,c1,hx,w,hz,ha,hb,hd,hd2,hi0] at he
      subst he
      refine .inr ⟨_,_,rfl,by simp,.inr ⟨rfl,by simpa using hR.symm,_,rfl,by simp only [qj,ht],?_⟩⟩
      simp only [sT.1,sC.1,qc,qb,Nat.testBit,simprocAttr,-Int.reduceNatCast',ht]
    | false=>
     rw [hlt,hi0] at hR
     simp only [Bool.not_false,Bool.true_and,Bool.false_or,q9] at hR
     cases ha:ile 97 (s[i].toNat:Int) <;> cases hb:ile (s[i].toNat:Int) 122 <;> cases hd:ile 48 (s[i].toNat:Int) <;> cases hd2:ile (s[i].toNat:Int) 57
     all_goals first | (have:=hq _ _ ha hb;cases this;done) | skip
     all_goals rw [hd,hd2] at hR
     all_goals simp only [qiL,sT.1,sC.1,qc,qb,Nat.testBit,simprocAttr,-Int.reduceNatCast',ht,e0,e3,c1,hx,w,hz,ha,hb,hd,hd2,hi0] at he
     all_goals subst he
     all_goals first
      | (refine .inr ⟨_,_,rfl,by simp,.inr ⟨rfl,by simpa using hR.symm,_,rfl,by simp only [qj,ht],?_⟩⟩
         simp only [sT.1,sC.1,qc,qb,Nat.testBit,simprocAttr,-Int.reduceNatCast',ht]
         done)
      | (refine .inl ⟨_,k - 1,rfl,by omega,_,i + 1,rfl,by simp only [qj,ht],?_,?_,by omega,by simpa using hR,hl⟩
         ·simp only [sT.1,sC.1,qc,qb,Nat.testBit,simprocAttr,-Int.reduceNatCast',ht,e0]
         ·simp only [sT.1,sC.1,qc,qb,Nat.testBit,simprocAttr,-Int.reduceNatCast',ht])
  ·have c1:ilt (i:Int) (s.length:Int) = false:=by rw [qM];simp;omega
   simp only [qiL,sT.1,sC.1,qc,qb,Nat.testBit,simprocAttr,-Int.reduceNatCast',ht,e0,e3,c1] at he
   subst he
   rw [List.drop_eq_nil_of_le hi,qS] at hR
   exact .inr ⟨_,_,rfl,by simp,.inl ⟨rfl,hR.symm,_,rfl,by simp only [qj,ht]⟩⟩
 rw [qi rfl (show T.get 20 = some c20 by kernel_rfl)]
 by_cases g1:1 ≤ s.length
 ·have d1:ilt (s.length:Int) 1 = false:=by rw [qM];simp;omega
  by_cases g2:s.length ≤ 16
  ·have d2:ilt 16 (s.length:Int) = false:=by rw [qM];simp;omega
   simp only [c20,sT.1,sC.1,qc,qb,Nat.testBit,simprocAttr,-Int.reduceNatCast',d1,d2]
   generalize hr:qo h.length Wd (.loop qiL) _ = r
   obtain ⟨x,st',rfl,hq⟩:=qgr hr (loop s.length _ ⟨_,0,rfl,by simp only [sT.1,sC.1,qc,qb,Nat.testBit,simprocAttr,-Int.reduceNatCast'],by simp only [sT.1,sC.1,qc,qb,Nat.testBit,simprocAttr,-Int.reduceNatCast'],by simp only [sT.1,sC.1,qc,qb,Nat.testBit,simprocAttr,-Int.reduceNatCast',Int.natCast_zero],by omega,rfl,g2⟩)
   rcases hq with ⟨rfl,hv,tt,rfl,ht⟩ | ⟨rfl,hv,tt,rfl,ht,e2⟩
   ·simp only [sT.1,sC.1,qc,qb,Nat.testBit,simprocAttr,-Int.reduceNatCast',ht]
    simp [qbD,g1,g2,hv]
   ·simp only [sT.1,sC.1,qc,qb,Nat.testBit,simprocAttr,-Int.reduceNatCast',ht,e2]
    simp [qbD,g1,g2,hv]
  ·have d2:ilt 16 (s.length:Int) = true:=by rw [qM];simp;omega
   simp only [c20,sT.1,sC.1,qc,qb,Nat.testBit,simprocAttr,-Int.reduceNatCast',d1,d2]
   simp [qbD,g2]
 ·have d1:ilt (s.length:Int) 1 = true:=by rw [qM];simp;omega
  simp only [c20,sT.1,sC.1,qc,qb,Nat.testBit,simprocAttr,-Int.reduceNatCast',d1]
  simp [qbD,g1]
theorem qaq (s:Str) (h:List qf):Wd (.fn 21 [] []) [.str s] h = some (.ret (.bool (qA s)),h,false):=by
 rw [qi rfl (show T.get 21 = some c21 by kernel_rfl)]
 cases hv:qbD s <;> cases hr:qbr s <;> (simp only [c21,sT.1,sC.1,qc,qb,Nat.testBit,simprocAttr,-Int.reduceNatCast',qam,qmU,hv,hr];simp [qA,hv,hr])
end Go.Proofs.YtkmlapholimbcaaGreatDoor.AE
namespace Go.Proofs.YtkmlapholimbcaaGreatDoor.AE
open Go.AE
def qex (d:Nat):Prop:=∀(e:Exl) (h:List qf),(∃k,Fit k e)→Wd (.fn 9 [] []) [exV e,.int .i64 (d:Nat)] h = some (.ret (.bool (right d e)),h,false)
section
variable {d:Nat} {h:List qf}
theorem qwA (hd:d < 100) (ih:qex d) {n:Int} {op:Int} {nm sub:Str} {aS:List Exl} (hl:aS.length < 1000000000) (hf:∀a ∈ aS,∃k,Fit k a):∀k st,(∃tt i,st = ⟨tt,h ++ [.cells [.int .i64 op,.int .i64 n,.str nm,.str sub,.lst (aS.map exV) .no]],false⟩∧tt.length = 126∧lkp tt 1 = .int .i64 (d + 1:Nat)∧lkp tt 2 = .ptr h.length 0∧lkp tt 10 = .int .i64 (i:Nat)∧i + k = aS.length∧(aS.drop i).all (right d) = aS.all (right d))→
  ∃x st',qo h.length Wd (.loop qve) st = some (x,st')∧(∃tt,st' = ⟨tt,h ++ [.cells [.int .i64 op,.int .i64 n,.str nm,.str sub,.lst (aS.map exV) .no]],false⟩∧tt.length = 126∧((x = .exit 1∧aS.all (right d) = true)∨(x = .ret∧aS.all (right d) = false∧lkp tt 4 = .bool false))):=by
 obtain ⟨G,hG⟩ :∃G,G = h ++ [qf.cells [.int .i64 op,.int .i64 n,.str nm,.str sub,.lst (aS.map exV) .no]]:=⟨_,rfl⟩
 have hbx:G[h.length]? = some (.cells [.int .i64 op,.int .i64 n,.str nm,.str sub,.lst (aS.map exV) .no]):=by rw [hG,qgl];rfl
 rw [←hG]
 refine qbj _ (fun x st'=>∃tt,st' = ⟨tt,G,false⟩∧tt.length = 126∧((x = .exit 1∧aS.all (right d) = true)∨(x = .ret∧aS.all (right d) = false∧lkp tt 4 = .bool false))) ?_
 rintro k st ⟨tt,i,rfl,ht,e1,e2,e10,hik,hR⟩
 generalize he:qo h.length Wd qve _ = r
 rcases Nat.lt_or_ge i aS.length with hi | hi
 ·have c1:ilt (i:Int) (aS.length:Int) = true:=by rw [qM];simp;omega
  have w:=qX (n:=i) (by omega)
  have wd:IntKind.i64.wrap (((d + 1:Nat):Int) - 1) = ((d:Nat):Int):=by rw [qbf (by omega) (by omega)];omega
  have hr':=ih aS[i] G (hf _ (List.getElem_mem hi))
  have hg:(aS.map exV)[i]? = some (exV aS[i]):=by rw [List.getElem?_map,List.getElem?_eq_getElem hi];rfl
  rw [List.drop_eq_getElem_cons hi,List.all_cons] at hR
  generalize aS[i] = y at hr' hg hR
  obtain ⟨op',n',nm',sb',as'⟩:=y
  rw [qe] at hr' hg
  have hx:qc7 5 (.lst (aS.map exV) .no) (.int .i64 (i:Nat)) = some (.iptr [.int .i64 op',.int .i64 n',.str nm',.str sb',.lst (as'.map exV) .no] 0):=qF hg rfl
  cases hb:right d (.mk op' n' nm' sb' as') with
  | true=>
   rw [hb,Bool.true_and] at hR
   rw [hb] at hr'
   simp only [qve,sT.1,sC.1,qc,qb,Nat.testBit,simprocAttr,-Int.reduceNatCast',ht,e1,e2,e10,c1,w,wd,hx,hbx,hr',List.length_map] at he
   subst he
   refine .inl ⟨_,k - 1,rfl,by omega,_,i + 1,rfl,by simp only [qj,ht],?_,?_,?_,by omega,hR⟩
   ·simp only [sT.1,sC.1,qc,qb,Nat.testBit,simprocAttr,-Int.reduceNatCast',ht,e1]
   ·simp only [sT.1,sC.1,qc,qb,Nat.testBit,simprocAttr,-Int.reduceNatCast',ht,e2]
   ·simp only [sT.1,sC.1,qc,qb,Nat.testBit,simprocAttr,-Int.reduceNatCast',ht]
  | false=>
   rw [hb,Bool.false_and] at hR
   rw [hb] at hr'
   simp only [qve,sT.1,sC.1,qc,qb,Nat.testBit,simprocAttr,-Int.reduceNatCast',ht,e1,e2,e10,c1,w,wd,hx,hbx,hr',List.length_map] at he
   subst he
   exact .inr ⟨_,_,rfl,by simp,_,rfl,by simp only [qj,ht],.inr ⟨rfl,hR.symm,by simp only [sT.1,sC.1,qc,qb,Nat.testBit,simprocAttr,-Int.reduceNatCast',ht]⟩⟩
 ·have c1:ilt (i:Int) (aS.length:Int) = false:=by rw [qM];simp;omega
  rw [List.drop_eq_nil_of_le hi,List.all_nil] at hR
  simp only [qve,sT.1,sC.1,qc,qb,Nat.testBit,simprocAttr,-Int.reduceNatCast',ht,e1,e2,e10,c1,hbx,List.length_map] at he
  subst he
  exact .inr ⟨_,_,rfl,by simp,_,rfl,by simp only [qj,ht],.inl ⟨rfl,hR.symm⟩⟩
end
end Go.Proofs.YtkmlapholimbcaaGreatDoor.AE
namespace Go.Proofs.YtkmlapholimbcaaGreatDoor.AE
open Go.AE
theorem qcb (n:Int) (nm sub:Str) (k:Nat):((!ile 0 n || !(nm == []) || !(sub == []) || ilt (k:Int) 0 || ilt 0 (k:Int)) = !(nB0 n nm sub k))∧((!(n == 0) || !(nm == []) || !(sub == []) || ilt (k:Int) 0 || ilt 0 (k:Int)) = !(nB1 n nm sub k))∧((!(n == 0) || !(nm == []) || !(sub == []) || ilt (k:Int) 0 || ilt 0 (k:Int)) = !(nB2 n nm sub k))∧((!(n == 0) || !qbD nm || !(sub == []) || ilt (k:Int) 0 || ilt 0 (k:Int)) = !(nB3 n nm sub k))∧((!(n == 0) || !qA nm || !(sub == []) || ilt (k:Int) 0 || ilt 0 (k:Int)) = !(nB4 n nm sub k))∧((!(n == 0) || !qA nm || !qA sub || ilt (k:Int) 0 || ilt 0 (k:Int)) = !(nB5 n nm sub k))∧((!(n == 0) || !(nm == []) || !(sub == []) || ilt (k:Int) 1 || ilt 4 (k:Int)) = !(nB6 n nm sub k))∧((!(n == 0) || !qA nm || !(sub == []) || ilt (k:Int) 0 || ilt 0 (k:Int)) = !(nB7 n nm sub k))∧((!(n == 0) || !qA nm || !(sub == []) || ilt (k:Int) 0 || ilt 0 (k:Int)) = !(nB8 n nm sub k))∧((!(n == 0) || !qA nm || !(sub == []) || ilt (k:Int) 0 || ilt 0 (k:Int)) = !(nB9 n nm sub k))∧((!(n == 0) || !qA nm || !(sub == []) || ilt (k:Int) 1 || ilt 1 (k:Int)) = !(qxh n nm sub k))∧((!(n == 0) || !(nm == []) || !(sub == []) || ilt (k:Int) 0 || ilt 0 (k:Int)) = !(qxi n nm sub k))∧((!(ile 0 n && ile n 3) || !(nm == []) || !(sub == []) || ilt (k:Int) 1 || ilt 1 (k:Int)) = !(qxj n nm sub k))∧((!(n == 0) || !(nm == []) || !(sub == []) || ilt (k:Int) 1 || ilt 1 (k:Int)) = !(qxk n nm sub k))∧((!(n == 0) || !(nm == []) || !(sub == []) || ilt (k:Int) 1 || ilt 1 (k:Int)) = !(qxl n nm sub k))∧((!(n == 0) || !(nm == []) || !(sub == []) || ilt (k:Int) 2 || ilt 2 (k:Int)) = !(qxm n nm sub k))∧((!(n == 0) || !(nm == []) || !(sub == []) || ilt (k:Int) 2 || ilt 2 (k:Int)) = !(qxn n nm sub k))∧((!(n == 0) || !(nm == []) || !(sub == []) || ilt (k:Int) 2 || ilt 2 (k:Int)) = !(qxo n nm sub k))∧((!(n == 0) || !(nm == []) || !(sub == []) || ilt (k:Int) 2 || ilt 2 (k:Int)) = !(qxp n nm sub k))∧((!(n == 0) || !(nm == []) || !(sub == []) || ilt (k:Int) 2 || ilt 2 (k:Int)) = !(qxq n nm sub k))∧((!(n == 0) || !(nm == []) || !(sub == []) || ilt (k:Int) 2 || ilt 2 (k:Int)) = !(qxr n nm sub k))∧((!(n == 0) || !(nm == []) || !(sub == []) || ilt (k:Int) 2 || ilt 2 (k:Int)) = !(qxs n nm sub k))∧((!(n == 0) || !(nm == []) || !(sub == []) || ilt (k:Int) 2 || ilt 2 (k:Int)) = !(qxt n nm sub k))∧((!(n == 0) || !(nm == []) || !(sub == []) || ilt (k:Int) 2 || ilt 2 (k:Int)) = !(qxu n nm sub k))∧((!(n == 0) || !(nm == []) || !(sub == []) || ilt (k:Int) 2 || ilt 2 (k:Int)) = !(qxv n nm sub k))∧((!(n == 0) || !(nm == []) || !(sub == []) || ilt (k:Int) 3 || ilt 3 (k:Int)) = !(qxw n nm sub k)):=by
 refine ⟨?_,?_,?_,?_,?_,?_,?_,?_,?_,?_,?_,?_,?_,?_,?_,?_,?_,?_,?_,?_,?_,?_,?_,?_,?_,?_⟩ <;> (
  simp only [nB0,nB1,nB2,nB3,nB4,nB5,nB6,nB7,nB8,nB9,qxh,qxi,qxj,qxk,qxl,qxm,qxn,qxo,qxp,qxq,qxr,qxs,qxt,qxu,qxv,qxw,fB,qDO]
  rw [qjU,qjU]
  generalize ile _ (k:Int) = a1
  generalize ile (k:Int) _ = a2
  generalize (n == 0) = a3
  generalize (nm == []) = a4
  generalize (sub == []) = a5
  generalize ile 0 n = a6
  generalize ile n 3 = a7
  generalize qbD nm = a8
  generalize qA nm = a9
  generalize qA sub = b1
  revert a1 a2 a3 a4 a5 a6 a7 a8 a9 b1
  decide)
section
variable {d:Nat} {h:List qf}
def EXP (d:Nat) (h:List qf) (op:Int) (B:Int→Str→Str→Nat→Bool):Prop:=∀(n:Int) (nm sub:Str) (aS:List Exl),aS.length < 1000000000→(∀a ∈ aS,∃k,Fit k a)→Wd (.fn 9 [] []) [exV (.mk op n nm sub aS),.int .i64 (d + 1:Nat)] h = some (.ret (.bool (B n nm sub aS.length && aS.all (right d))),h,false)
theorem qfB (d:Nat):(((d + 1:Nat):Int) == 0) = false:=by rw [beq_eq_false_iff_ne];omega
theorem qa9 (hd:d < 100) (ih:qex d) {op n:Int} {nm sub:Str} {aS:List Exl} (hl:aS.length < 1000000000) (hf:∀a ∈ aS,∃k,Fit k a) {T:List qa} (t0:T.length = 126) (t1:lkp T 1 = .int .i64 (d + 1:Nat)) (t2:lkp T 2 = .ptr h.length 0) (t10:lkp T 10 = .int .i64 0):qeo [.tmp 4] h (qbN (qo h.length Wd ((qG.reg [⟨some 4,.asg (.c (.bool true)),none⟩]).seq .ret)) (qce 1 (qo h.length Wd (.loop qve) ⟨T,h ++ [.cells [.int .i64 op,.int .i64 n,.str nm,.str sub,.lst (aS.map exV) .no]],false⟩))) = some (.ret (.bool (aS.all (right d))),h,false):=by
 generalize hw:qeo _ h _ = w
 generalize hr:qo h.length Wd (.loop qve) _ = r at hw
 obtain ⟨x,st',rfl,tt,rfl,ht,hq⟩:=qgr hr (qwA hd ih hl hf aS.length _ ⟨_,0,rfl,t0,t1,t2,by rw [t10];rfl,by omega,rfl⟩)
 rcases hq with ⟨rfl,hall⟩ | ⟨rfl,hall,e4⟩
 ·simp only [sT.1,sC.1,qc,qb,Nat.testBit,simprocAttr,-Int.reduceNatCast',ht] at hw
  rw [hall]
  exact hw.symm
 ·simp only [sT.1,sC.1,qc,qb,Nat.testBit,simprocAttr,-Int.reduceNatCast',ht,e4] at hw
  rw [hall]
  exact hw.symm
set_option maxHeartbeats 1000000 in
theorem qDC (hd:d < 100) (ih:qex d):EXP d h 0 nB0:=by
 intro n nm sub aS hl hf
 have q:=(qcb n nm sub aS.length).1
 have z:ilt 0 0 = false∧ilt 25 0 = false:=⟨by kernel_rfl,by kernel_rfl⟩
 rw [qe,qi rfl (show T.get 9 = some c9 by kernel_rfl)]
 cases hb:nB0 n nm sub aS.length <;> rw [hb] at q <;> simp only [c9,sT.1,sC.1,qc,qb,Nat.testBit,simprocAttr,-Int.reduceNatCast',qfB,z,List.length_map,qam,qaq,q,Bool.not_true,Bool.not_false,Bool.true_and,Bool.false_and]
 apply qa9 hd ih hl hf <;> simp only [sT.1,sC.1,qc,qb,Nat.testBit,simprocAttr,-Int.reduceNatCast']
set_option maxHeartbeats 1000000 in
theorem qDD (hd:d < 100) (ih:qex d):EXP d h 1 nB1:=by
 intro n nm sub aS hl hf
 have q:=(qcb n nm sub aS.length).2.1
 have z:ilt 1 0 = false∧ilt 25 1 = false:=⟨by kernel_rfl,by kernel_rfl⟩
 rw [qe,qi rfl (show T.get 9 = some c9 by kernel_rfl)]
 cases hb:nB1 n nm sub aS.length <;> rw [hb] at q <;> simp only [c9,sT.1,sC.1,qc,qb,Nat.testBit,simprocAttr,-Int.reduceNatCast',qfB,z,List.length_map,qam,qaq,q,Bool.not_true,Bool.not_false,Bool.true_and,Bool.false_and]
 apply qa9 hd ih hl hf <;> simp only [sT.1,sC.1,qc,qb,Nat.testBit,simprocAttr,-Int.reduceNatCast']
set_option maxHeartbeats 1000000 in
theorem qDE (hd:d < 100) (ih:qex d):EXP d h 2 nB2:=by
 intro n nm sub aS hl hf
 have q:=(qcb n nm sub aS.length).2.2.1
 have z:ilt 2 0 = false∧ilt 25 2 = false:=⟨by kernel_rfl,by kernel_rfl⟩
 rw [qe,qi rfl (show T.get 9 = some c9 by kernel_rfl)]
 cases hb:nB2 n nm sub aS.length <;> rw [hb] at q <;> simp only [c9,sT.1,sC.1,qc,qb,Nat.testBit,simprocAttr,-Int.reduceNatCast',qfB,z,List.length_map,qam,qaq,q,Bool.not_true,Bool.not_false,Bool.true_and,Bool.false_and]
 apply qa9 hd ih hl hf <;> simp only [sT.1,sC.1,qc,qb,Nat.testBit,simprocAttr,-Int.reduceNatCast']
set_option maxHeartbeats 1000000 in
theorem qDF (hd:d < 100) (ih:qex d):EXP d h 3 nB3:=by
 intro n nm sub aS hl hf
 have q:=(qcb n nm sub aS.length).2.2.2.1
 have z:ilt 3 0 = false∧ilt 25 3 = false:=⟨by kernel_rfl,by kernel_rfl⟩
 rw [qe,qi rfl (show T.get 9 = some c9 by kernel_rfl)]
 cases hb:nB3 n nm sub aS.length <;> rw [hb] at q <;> simp only [c9,sT.1,sC.1,qc,qb,Nat.testBit,simprocAttr,-Int.reduceNatCast',qfB,z,List.length_map,qam,qaq,q,Bool.not_true,Bool.not_false,Bool.true_and,Bool.false_and]
 apply qa9 hd ih hl hf <;> simp only [sT.1,sC.1,qc,qb,Nat.testBit,simprocAttr,-Int.reduceNatCast']
set_option maxHeartbeats 1000000 in
theorem qDG (hd:d < 100) (ih:qex d):EXP d h 4 nB4:=by
 intro n nm sub aS hl hf
 have q:=(qcb n nm sub aS.length).2.2.2.2.1
 have z:ilt 4 0 = false∧ilt 25 4 = false:=⟨by kernel_rfl,by kernel_rfl⟩
 rw [qe,qi rfl (show T.get 9 = some c9 by kernel_rfl)]
 cases hb:nB4 n nm sub aS.length <;> rw [hb] at q <;> simp only [c9,sT.1,sC.1,qc,qb,Nat.testBit,simprocAttr,-Int.reduceNatCast',qfB,z,List.length_map,qam,qaq,q,Bool.not_true,Bool.not_false,Bool.true_and,Bool.false_and]
 apply qa9 hd ih hl hf <;> simp only [sT.1,sC.1,qc,qb,Nat.testBit,simprocAttr,-Int.reduceNatCast']
set_option maxHeartbeats 1000000 in
theorem qDH (hd:d < 100) (ih:qex d):EXP d h 5 nB5:=by
 intro n nm sub aS hl hf
 have q:=(qcb n nm sub aS.length).2.2.2.2.2.1
 have z:ilt 5 0 = false∧ilt 25 5 = false:=⟨by kernel_rfl,by kernel_rfl⟩
 rw [qe,qi rfl (show T.get 9 = some c9 by kernel_rfl)]
 cases hb:nB5 n nm sub aS.length <;> rw [hb] at q <;> simp only [c9,sT.1,sC.1,qc,qb,Nat.testBit,simprocAttr,-Int.reduceNatCast',qfB,z,List.length_map,qam,qaq,q,Bool.not_true,Bool.not_false,Bool.true_and,Bool.false_and]
 apply qa9 hd ih hl hf <;> simp only [sT.1,sC.1,qc,qb,Nat.testBit,simprocAttr,-Int.reduceNatCast']
set_option maxHeartbeats 1000000 in
theorem qDI (hd:d < 100) (ih:qex d):EXP d h 6 nB6:=by
 intro n nm sub aS hl hf
 have q:=(qcb n nm sub aS.length).2.2.2.2.2.2.1
 have z:ilt 6 0 = false∧ilt 25 6 = false:=⟨by kernel_rfl,by kernel_rfl⟩
 rw [qe,qi rfl (show T.get 9 = some c9 by kernel_rfl)]
 cases hb:nB6 n nm sub aS.length <;> rw [hb] at q <;> simp only [c9,sT.1,sC.1,qc,qb,Nat.testBit,simprocAttr,-Int.reduceNatCast',qfB,z,List.length_map,qam,qaq,q,Bool.not_true,Bool.not_false,Bool.true_and,Bool.false_and]
 apply qa9 hd ih hl hf <;> simp only [sT.1,sC.1,qc,qb,Nat.testBit,simprocAttr,-Int.reduceNatCast']
set_option maxHeartbeats 1000000 in
theorem qDJ (hd:d < 100) (ih:qex d):EXP d h 7 nB7:=by
 intro n nm sub aS hl hf
 have q:=(qcb n nm sub aS.length).2.2.2.2.2.2.2.1
 have z:ilt 7 0 = false∧ilt 25 7 = false:=⟨by kernel_rfl,by kernel_rfl⟩
 rw [qe,qi rfl (show T.get 9 = some c9 by kernel_rfl)]
 cases hb:nB7 n nm sub aS.length <;> rw [hb] at q <;> simp only [c9,sT.1,sC.1,qc,qb,Nat.testBit,simprocAttr,-Int.reduceNatCast',qfB,z,List.length_map,qam,qaq,q,Bool.not_true,Bool.not_false,Bool.true_and,Bool.false_and]
 apply qa9 hd ih hl hf <;> simp only [sT.1,sC.1,qc,qb,Nat.testBit,simprocAttr,-Int.reduceNatCast']
set_option maxHeartbeats 1000000 in
theorem qDK (hd:d < 100) (ih:qex d):EXP d h 8 nB8:=by
 intro n nm sub aS hl hf
 have q:=(qcb n nm sub aS.length).2.2.2.2.2.2.2.2.1
 have z:ilt 8 0 = false∧ilt 25 8 = false:=⟨by kernel_rfl,by kernel_rfl⟩
 rw [qe,qi rfl (show T.get 9 = some c9 by kernel_rfl)]
 cases hb:nB8 n nm sub aS.length <;> rw [hb] at q <;> simp only [c9,sT.1,sC.1,qc,qb,Nat.testBit,simprocAttr,-Int.reduceNatCast',qfB,z,List.length_map,qam,qaq,q,Bool.not_true,Bool.not_false,Bool.true_and,Bool.false_and]
 apply qa9 hd ih hl hf <;> simp only [sT.1,sC.1,qc,qb,Nat.testBit,simprocAttr,-Int.reduceNatCast']
end
end Go.Proofs.YtkmlapholimbcaaGreatDoor.AE
