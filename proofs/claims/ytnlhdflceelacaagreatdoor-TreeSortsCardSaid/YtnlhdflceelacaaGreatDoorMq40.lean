/- A part of the proof: the abstract executor and what goes through it (part 40). No condition. -/
import Derived.Test.YtnlhdflceelacaaGreatDoorMq38
set_option maxRecDepth 100000
namespace Go.Proofs.YtnlhdflceelacaaGreatDoor.AE
open Go.AE
theorem qiD {n i:Nat} {h:List qg} {x:qg} (hx:qiC n h i = some x):n ≤ i∧h[i]? = some x:=by
 by_cases hi:n ≤ i
 ·rw [qdl hi] at hx
  exact ⟨hi,hx⟩
 ·rw [qev hi] at hx
  cases hx
theorem qry (h:List qg):Wd (.fn 21 [] []) [.lst [] .full,qa1] h = some (.ret (.tup []),h,false):=by
 have zl:([]:List qa).length = 0:=rfl
 have zi:((0:Nat):Int) = 0:=rfl
 have x1:IntKind.i64.wrap 1 = 1:=by kernel_rfl
 have w1:IntKind.i64.wrap (0 + 1) = 1:=by kernel_rfl
 have k1:ilt 1 0 = false:=Eq.trans rfl rfl
 have k2:ile 20 0 = false:=Eq.trans rfl rfl
 have k3:ilt 20 0 = false:=Eq.trans rfl rfl
 have i1:Wd (.fn 104 [] []) [.lst [] .full,.int .i64 0,.int .i64 0,qa1] h = some (.ret (.tup []),h,false):=by
  rw [qab rfl (show T.get 104 = some quL by kernel_rfl)]
  simp only [quL,qeS,qar,sT.1,sC.1,qd,qc,Nat.testBit,simprocAttr,-Int.reduceNatCast',w1,x1,k1]
 have i2:Wd (.fn 54 [] []) [.lst [] .full,.int .i64 0,qa1] h = some (.ret (.tup []),h,false):=by
  rw [qab rfl (show T.get 54 = some c54 by kernel_rfl)]
  simp only [c54,qns,qnt,qar,sT.1,sC.1,qd,qc,Nat.testBit,simprocAttr,-Int.reduceNatCast',k2,k3,i1]
 rw [qab rfl (show T.get 21 = some c21 by kernel_rfl)]
 simp only [c21,sT.1,sC.1,qd,qc,Nat.testBit,simprocAttr,-Int.reduceNatCast',zl,zi,i2]
def Lst (n:Nat) (ms:List Msg) (g:List qg) (v:qa):Prop:=∃H es,qep H es g v∧es.map (·.1) = ms∧∀id o len cap more,v = .sl id o len cap more→n ≤ id
theorem qn2 (n:Nat) (g:List qg):Lst n [] g (.lst [] .full):=⟨fun _=>none,[],⟨(fun i x hx=>by cases hx),(fun e he=>by simp at he),.inl ⟨rfl,rfl⟩⟩,rfl,(fun id o len cap more hv=>by cases hv)⟩
set_option maxHeartbeats 4000000 in
theorem qgE (ms:List Msg) (h30:ms.length ≤ 30) (hok:∀m ∈ ms,OK 3 m.v) (h:List qg) :
  ∃v junk ms',Wd (.fn 7 [] []) [.lst (ms.map qdO) .no] h = some (.ret v,h ++ junk,false)∧Lst h.length ms' (h ++ junk) v∧ms'.Pairwise leM∧ms'.Perm ms:=by
 obtain ⟨ys,hys⟩ :∃ys,ys = ms.map qdO:=⟨_,rfl⟩
 have hyl:ys.length = ms.length:=by rw [hys,List.length_map]
 have loop:∀k st,(∃(tt:List qa) (i:Nat) (g:List qg) (v:qa),st = ⟨tt,g,false⟩∧tt.length = 25∧lkp tt 3 = v∧lkp tt 6 = .lst ys .no∧lkp tt 7 = .int .i64 (ms.length:Nat)∧lkp tt 8 = .int .i64 (i:Nat)∧i + k = ms.length∧h.length ≤ g.length∧g.take h.length = h∧Lst h.length (ms.take i) g v)→
   ∃q st',qy h.length Wd (.loop quR) st = some (q,st')∧(q = .exit 0∧∃(tt:List qa) (g:List qg) (v:qa),st' = ⟨tt,g,false⟩∧tt.length = 25∧lkp tt 3 = v∧h.length ≤ g.length∧g.take h.length = h∧Lst h.length ms g v):=by
  refine qK _ (fun q st'=>q = .exit 0∧∃(tt:List qa) (g:List qg) (v:qa),st' = ⟨tt,g,false⟩∧tt.length = 25∧lkp tt 3 = v∧h.length ≤ g.length∧g.take h.length = h∧Lst h.length ms g v) ?_
  rintro k st ⟨tt,i,g,v,rfl,ht,e3,e6,e7,e8,hik,hgl,hgt,H,es,hra,hem,hid⟩
  generalize he:qy h.length Wd quR _ = r
  rcases Nat.lt_or_ge i ms.length with hi | hi
  ·have c1:ilt (i:Int) (ms.length:Int) = true:=by rw [qr];simp;omega
   have w:=qP (n:=i) (by omega)
   have hg:ys[i]? = some (qdO ms[i]):=by rw [hys,List.getElem?_map,List.getElem?_eq_getElem hi];rfl
   have hokm:=hok _ (List.getElem_mem hi)
   have htake:ms.take (i + 1) = ms.take i ++ [ms[i]]:=List.take_succ_eq_append_getElem hi
   have hesl:es.length = i:=by rw [←List.length_map (f:=(·.1)),hem,List.length_take];omega
   generalize ms[i] = mm at hg hokm htake
   obtain ⟨p,vv⟩:=mm
   obtain ⟨K,Nn,S,zs⟩:=vv
   rw [qcD] at hg
   have hx:qbr 5 (.lst ys .no) (.int .i64 (i:Nat)) = some (.iptr [.str p,.int .i64 K,.int .i64 Nn,.str S,.lst (zs.map qal) .no] 0):=qbi hg rfl
   obtain ⟨cs,m,hcp,hvr⟩:=qlp 3 _ hokm (g ++ [.cells [.str p,.int .i64 K,.int .i64 Nn,.str S,.lst (zs.map qal) .no]])
   simp only at hvr
   rw [qam] at hcp
   simp only [List.append_assoc,List.cons_append,List.nil_append] at hcp hvr
   obtain ⟨K',N',S',l',L,hK,hcs,hLd,hLs,hLw,_⟩:=hvr.cells
   cases hK
   have hmr:MR (qtR g.length H (qiC (g ++ [qg.cells [.str p,.int .i64 K,.int .i64 Nn,.str S,.lst (zs.map qal) .no]]).length (g ++ .cells [.str p,.int .i64 K,.int .i64 Nn,.str S,.lst (zs.map qal) .no] :: m))) ⟨p,.mk K Nn S zs⟩ (.str p :: cs):=by
    refine ⟨cs,rfl,hvr.mono fun j x hx=>?_,hokm⟩
    have hj:=(qiD hx).1
    rw [qtR,if_neg (by simp at hj;omega)]
    exact hx
   obtain ⟨v',g'',happ,hra',hgl',htk,hnew⟩:=hra.app (H':=qtR g.length H (qiC (g ++ [qg.cells [.str p,.int .i64 K,.int .i64 Nn,.str S,.lst (zs.map qal) .no]]).length (g ++ .cells [.str p,.int .i64 K,.int .i64 Nn,.str S,.lst (zs.map qal) .no] :: m))) (g':=g ++ .cells [.str p,.int .i64 K,.int .i64 Nn,.str S,.lst (zs.map qal) .no] :: (m ++ [.cells (.str p :: cs)])) (e:=(⟨p,.mk K Nn S zs⟩,.str p :: cs)) (base:=h.length) (Lid:=g.length + (m.length + 1)) (by omega)
    (fun j x hx=>by
     rw [qtR,if_pos]
     ·exact hx
     ·exact (List.getElem?_eq_some_iff.1 (hra.1 j x hx)).1)
    (fun j hj=>by rw [List.getElem?_append_left hj]) (by simp)
    (fun j x hx=>by
     rw [qtR] at hx
     split at hx
     ·rename_i hj
      rw [List.getElem?_append_left hj]
      exact hra.1 j x hx
     ·have:=(qiD hx).2
      rw [show g ++ qg.cells [qa.str p,qa.int .i64 K,.int .i64 Nn,.str S,.lst (zs.map qal) .no] :: (m ++ [.cells (.str p :: cs)]) = (g ++ qg.cells [.str p,.int .i64 K,.int .i64 Nn,.str S,.lst (zs.map qal) .no] :: m) ++ [.cells (.str p :: cs)] by simp]
      rw [List.getElem?_append_left (List.getElem?_eq_some_iff.1 this).1]
      exact this)
    (fun j x hx hj=>by rw [qtR,if_pos hj] at hx;exact hx) hmr (by omega)
    (fun j x hx=>by
     rw [qtR] at hx
     split at hx
     ·omega
     ·have:=(List.getElem?_eq_some_iff.1 (qiD hx).2).1
      simp at this
      omega)
    (by rw [qbh];simp)
   rw [hcs] at hcp happ hmr
   have hlit:∀b:Nat,hop b (.lit 5 [.str [],.int .i64 0,.int .i64 0,.str [],.lst [] .full] 1 [0]) [.agg [.str p,.int .i64 K,.int .i64 Nn,.str S,L]] (g ++ .cells [.str p,.int .i64 K,.int .i64 Nn,.str S,.lst (zs.map qal) .no] :: m) = some (.sl (g.length + (m.length + 1)) 0 1 1 0,g ++ .cells [.str p,.int .i64 K,.int .i64 Nn,.str S,.lst (zs.map qal) .no] :: (m ++ [.cells [.str p,.int .i64 K,.int .i64 Nn,.str S,L]]),false):=fun b=>by
    rw [qxS rfl (by
     intro c hc
     simp only [List.mem_cons,List.not_mem_nil,or_false] at hc
     rcases hc with rfl | rfl | rfl | rfl | rfl <;> first | rfl | exact hLd) (by simp only [List.all_cons,List.all_nil,hLs,qgB,qgD,Bool.and_true])]
    simp
   have hb1:Nat.ble h.length g.length = true:=qcb hgl
   obtain ⟨vd,vw,_⟩:=hra.facts
   obtain ⟨vd',vw',_⟩:=hra'.facts
   simp only [quR,sT.1,sC.1,sTA.1,sCA.1,qd,qaZ,qa0,Src.isTmp,qad,Src.hangs,ql.isT,qaW,qc,Nat.testBit,bne,simprocAttr,-Int.reduceNatCast',qe4,qaP,qaV,qbu,qaQ,qA,qo,ht,e3,e6,e7,e8,c1,w,hx,hb1,hLd,hLs,hLw,hcp,hlit,happ,vd,vw,vd',vw',qaY,Bool.true_or] at he
   subst he
   refine .inl ⟨_,k - 1,rfl,by omega,_,i + 1,g'',v',rfl,by simp only [qi,ht],?_,?_,?_,?_,by omega,?_,?_,_,_,hra',by rw [htake,←hem];simp,fun id o len cap more hv=>hnew h.length (by simp;omega) id o len cap more hv⟩
   ·simp only [sT.1,sC.1,qd,qc,Nat.testBit,simprocAttr,-Int.reduceNatCast',ht]
   ·simp only [sT.1,sC.1,qd,qc,Nat.testBit,simprocAttr,-Int.reduceNatCast',ht,e6]
   ·simp only [sT.1,sC.1,qd,qc,Nat.testBit,simprocAttr,-Int.reduceNatCast',ht,e7]
   ·simp only [sT.1,sC.1,qd,qc,Nat.testBit,simprocAttr,-Int.reduceNatCast',ht]
   ·simp at hgl';omega
   ·rw [htk h.length hgl fun id hv=>hid id _ _ _ _ hv,hgt]
  ·have c1:ilt (i:Int) (ms.length:Int) = false:=by rw [qr];simp;omega
   simp only [quR,sT.1,sC.1,qd,qc,Nat.testBit,simprocAttr,-Int.reduceNatCast',ht,e7,e8,c1] at he
   subst he
   refine .inr ⟨_,_,rfl,by simp,rfl,_,g,v,rfl,by simp only [qi,ht],?_,hgl,hgt,H,es,hra,?_,hid⟩
   ·simp only [sT.1,sC.1,qd,qc,Nat.testBit,simprocAttr,-Int.reduceNatCast',ht,e3]
   ·rw [hem,List.take_of_length_le hi]
 rw [←hys]
 generalize hw:Wd _ _ h = w
 rw [qab rfl (show T.get 7 = some c7 by kernel_rfl)] at hw
 simp only [c7,sT.1,sC.1,qd,qc,Nat.testBit,simprocAttr,-Int.reduceNatCast',qA,qo,hyl] at hw
 generalize hr:qy h.length Wd (.loop quR) _ = r at hw
 obtain ⟨x,st',rfl,rfl,tt,g,v,rfl,ht,e3,hgl,hgt,H,es,hra,hem,hid⟩:=qbU hr (loop ms.length _ ⟨_,0,h,.lst [] .full,rfl,by simp only [sT.1,sC.1,qd,qc,Nat.testBit,simprocAttr,-Int.reduceNatCast'],by simp only [sT.1,sC.1,qd,qc,Nat.testBit,simprocAttr,-Int.reduceNatCast'],by simp only [sT.1,sC.1,qd,qc,Nat.testBit,simprocAttr,-Int.reduceNatCast'],by simp only [sT.1,sC.1,qd,qc,Nat.testBit,simprocAttr,-Int.reduceNatCast'],by simp only [sT.1,sC.1,qd,qc,Nat.testBit,simprocAttr,-Int.reduceNatCast',Int.natCast_zero],by omega,Nat.le_refl _,List.take_length,qn2 _ _⟩)
 obtain ⟨vd,vw,_⟩:=hra.facts
 have hsn:=fun g=>qry g
 rcases hra.2.2 with ⟨rfl,rfl⟩ | ⟨id,rfl,hne,hbox,hlow⟩
 ·simp only [sT.1,sC.1,qd,qc,Nat.testBit,simprocAttr,-Int.reduceNatCast',qA,qo,ht,e3,hsn] at hw
  subst hw
  have hm0:ms = []:=by rw [←hem];rfl
  refine ⟨_,[],[],?_,qn2 _ _,List.Pairwise.nil,by rw [hm0]⟩
  rw [List.append_nil]
  exact congrArg some (qcA hgt rfl)
 ·have hl:qeo H id es g:=⟨hra.1,hlow,hbox,hra.2.1⟩
  have hel:es.length = ms.length:=by rw [←hem,List.length_map]
  obtain ⟨es',hs1,hs2,hs3⟩:=qur (N:=es.length) rfl (by omega) hl
  have hidh:=hid id _ _ _ _ rfl
  simp only [sT.1,sC.1,qd,qc,Nat.testBit,simprocAttr,-Int.reduceNatCast',qA,qo,ht,e3,hs1] at hw
  subst hw
  have hgood':qbW H es':=hl.good.perm fun e he=>hs3.subset he
  have hl':=hl.put hgood'
  have hsplit:g.set id (.cells (row es')) = h ++ (g.set id (.cells (row es'))).drop h.length:=by
   have:=(List.take_append_drop h.length (g.set id (.cells (row es')))).symm
   rwa [List.take_set_of_le hidh,hgt] at this
  have hlen':es'.length = es.length:=hs3.length_eq
  refine ⟨.sl id 0 es.length es.length 5,(g.set id (.cells (row es'))).drop h.length,es'.map (·.1),?_,⟨H,es',⟨?_,hgood',.inr ⟨id,by rw [hlen'],?_,?_,hlow⟩⟩,rfl,(fun id' o len cap more hv=>by cases hv;exact hidh)⟩,?_,?_⟩
  ·rw [←hsplit,qeZ,qcV,qi2 hidh]
   rfl
  ·rw [←hsplit];exact hl'.cov
  ·intro e
   rw [e] at hlen'
   exact hne (List.length_eq_zero_iff.1 hlen'.symm)
  ·rw [←hsplit];exact hl'.box
  ·rw [List.pairwise_map]
   exact hs2
  ·rw [←hem]
   exact hs3.map _
end Go.Proofs.YtnlhdflceelacaaGreatDoor.AE
