/- A part of the proof: the abstract executor and what goes through it (part 43). No condition. -/
import Derived.Test.YtnlhdflceelacaaGreatDoorMq42
set_option maxRecDepth 100000
namespace Go.Proofs.YtnlhdflceelacaaGreatDoor.AE
open Go.AE
def qsl (H:Nat→Option qg) (v:Val):Prop:=∀cs g,VR H v cs→Cov H g→Wd (.fn 19 [] []) [.agg cs,qal v] g = some (.ret (.bool true),g,false)
set_option maxHeartbeats 2000000 in
theorem qiO {H:Nat→Option qg} {k n:Int} {s:Str} {l:List Val} (hl:l.length ≤ 4) (ho:∀x ∈ l,qsl H x):qsl H (.mk k n s l):=by
 intro cs h hv hg
 obtain ⟨L,rfl,hL⟩:=hv.lp
 obtain ⟨d1,s1,w1,n1⟩:=hL.facts
 obtain ⟨two,htwo⟩ :∃two:List qg,two = [.cells [.int .i64 k,.int .i64 n,.str s,L],.cells [.int .i64 k,.int .i64 n,.str s,.lst (l.map qal) .no]]:=⟨_,rfl⟩
 have hb1:(h ++ two)[h.length]? = some (.cells [.int .i64 k,.int .i64 n,.str s,L]):=by rw [qhd,htwo];rfl
 have hb2:(h ++ two)[h.length + 1]? = some (.cells [.int .i64 k,.int .i64 n,.str s,.lst (l.map qal) .no]):=by rw [qbh,htwo];rfl
 have hgG:Cov H (h ++ two):=hg.app
 have htk:(h ++ two).take h.length = h:=by simp
 have loop:∀q st,(∃(tt:List qa) (i:Nat),st = ⟨tt,h ++ two,false⟩∧tt.length = 53∧lkp tt 2 = .ptr h.length 0∧lkp tt 3 = .ptr (h.length + 1) 0∧lkp tt 5 = .int .i64 (i:Nat)∧i + q = l.length)→
   ∃x st',qy h.length Wd (.loop qkt) st = some (x,st')∧(x = .exit 0∧∃tt:List qa,st' = ⟨tt,h ++ two,false⟩∧tt.length = 53):=by
  refine qK _ (fun x st'=>x = .exit 0∧∃tt:List qa,st' = ⟨tt,h ++ two,false⟩∧tt.length = 53) ?_
  rintro q st ⟨tt,i,rfl,ht,e2,e3,e5,hiq⟩
  generalize he:qy h.length Wd qkt _ = r
  generalize h ++ two = G at *
  rcases Nat.lt_or_ge i l.length with hi | hi
  ·have c1:ilt (i:Int) (l.length:Int) = true:=by rw [qr];simp;omega
   have w:=qP (n:=i) (by omega)
   obtain ⟨id,rw',cs,x1,x2,x3,x4⟩:=hL.item hi hgG
   have g2:(l.map qal)[i]? = some (qal l[i]):=by rw [List.getElem?_map,List.getElem?_eq_getElem hi];rfl
   have hor:=ho _ (List.getElem_mem hi) cs G x4 hgG
   obtain ⟨ka,na,sa,la,L',hv',rfl,v1,v2,v3,v4⟩:=x4.cells
   rw [hv',qam] at g2 hor
   have y1:qbr 4 (.lst (l.map qal) .no) (.int .i64 (i:Nat)) = some (.iptr [.int .i64 ka,.int .i64 na,.str sa,.lst (la.map qal) .no] 0):=qbi g2 rfl
   simp only [qkt,sT.1,sC.1,qd,qc,Nat.testBit,simprocAttr,-Int.reduceNatCast',ht,e2,e3,e5,hb1,hb2,d1,n1,w1,v1,v2,v3,c1,w,x1,x2,x3,y1,hor] at he
   subst he
   refine .inl ⟨_,q - 1,rfl,by omega,_,i + 1,rfl,by simp only [qi,ht],?_,?_,?_,by omega⟩
   ·simp only [sT.1,sC.1,qd,qc,Nat.testBit,simprocAttr,-Int.reduceNatCast',ht,e2]
   ·simp only [sT.1,sC.1,qd,qc,Nat.testBit,simprocAttr,-Int.reduceNatCast',ht,e3]
   ·simp only [sT.1,sC.1,qd,qc,Nat.testBit,simprocAttr,-Int.reduceNatCast',ht]
  ·have c1:ilt (i:Int) (l.length:Int) = false:=by rw [qr];simp;omega
   simp only [qkt,sT.1,sC.1,qd,qc,Nat.testBit,simprocAttr,-Int.reduceNatCast',ht,e2,e3,e5,hb1,hb2,d1,n1,w1,c1] at he
   subst he
   exact .inr ⟨_,_,rfl,by simp,rfl,_,rfl,by simp only [qi,ht]⟩
 have kq:(k == k) = true:=by simp
 have nq:(n == n) = true:=by simp
 have sq:(s == s) = true:=by simp
 have lq:((l.length:Int) == (l.length:Int)) = true:=by simp
 rw [qam]
 generalize hL0:(qj.loop qkt) = L0 at loop
 generalize hw:Wd _ _ h = w
 rw [qab rfl (show T.get 19 = some c19 by kernel_rfl)] at hw
 simp only [c19,hL0,sT.1,sC.1,qd,qc,Nat.testBit,simprocAttr,-Int.reduceNatCast',d1,n1,w1,s1,kq,nq,sq,lq,List.length_map] at hw
 generalize hr:qy h.length Wd L0 _ = r at hw
 obtain ⟨x,st',rfl,rfl,tt,rfl,ht⟩:=qbU hr (loop l.length _ ⟨_,0,by rw [htwo],by simp only [sT.1,sC.1,qd,qc,Nat.testBit,simprocAttr,-Int.reduceNatCast'],by simp only [sT.1,sC.1,qd,qc,Nat.testBit,simprocAttr,-Int.reduceNatCast'],by simp only [sT.1,sC.1,qd,qc,Nat.testBit,simprocAttr,-Int.reduceNatCast'],by simp only [sT.1,sC.1,qd,qc,Nat.testBit,simprocAttr,-Int.reduceNatCast',Int.natCast_zero],by omega⟩)
 simp only [sT.1,sC.1,qd,qc,Nat.testBit,simprocAttr,-Int.reduceNatCast',ht] at hw
 subst hw
 first | rfl | exact congrArg some (qcA htk rfl)
theorem quh:∀d,∀{H:Nat→Option qg} {v:Val},OK d v→qsl H v:=by
 intro d
 induction d with
 | zero=>
  rintro H ⟨k,n,s,l⟩ h0
  have hl:l = []:=by rcases h0 with ⟨_,_,h⟩ | ⟨_,_,h,_⟩ | ⟨_,_,_,h⟩ <;> exact h
  subst hl
  exact qiO (by simp) fun x hx=>by cases hx
 | succ d ih=>
  rintro H ⟨k,n,s,l⟩ h0
  rcases h0 with h0 | ⟨_,_,_,_,h4,hall⟩
  ·have hl:l = []:=by rcases h0 with ⟨_,_,h⟩ | ⟨_,_,h,_⟩ | ⟨_,_,_,h⟩ <;> exact h
   subst hl
   exact qiO (by simp) fun x hx=>by cases hx
  ·exact qiO h4 fun x hx=>ih (hall x hx)
theorem qep.at {H:Nat→Option qg} {es:List El} {g:List qg} {v:qa} (h:qep H es g v) {i:Nat} (hi:i < es.length):∃id,qbr 5 v (.int .i64 (i:Nat)) = some (.ptr id (i * 5))∧g[id]? = some (.cells (row es)):=by
 rcases h.2.2 with ⟨rfl,rfl⟩ | ⟨id,rfl,_,hb,_⟩
 ·simp at hi
 ·exact ⟨id,qb4 hi,hb⟩
theorem qep.more {H:Nat→Option qg} {es:List El} {g m:List qg} {v:qa} (h:qep H es g v):qep H es (g ++ m) v:=by
 refine ⟨h.1.app,h.2.1,?_⟩
 rcases h.2.2 with h0 | ⟨id,e,hne,hb,hlow⟩
 ·exact .inl h0
 ·refine .inr ⟨id,e,hne,?_,hlow⟩
  rw [List.getElem?_append_left (List.getElem?_eq_some_iff.1 hb).1,hb]
set_option maxHeartbeats 4000000 in
theorem qiN {H:Nat→Option qg} {es:List El} {h:List qg} {v u:qa} {n:Nat} (hr:qep H es h v) (hp:PL n (es.map (·.1)) h u) (h30:es.length ≤ 1000):Wd (.fn 6 [] []) [v,u] h = some (.ret (.bool true),h,false):=by
 obtain ⟨vd,vw,vl⟩:=hr.facts
 obtain ⟨ud,uw,ul⟩:=hp.facts
 rw [List.length_map] at ul
 have loop:∀q st,(∃(tt:List qa) (i:Nat),st = ⟨tt,h,false⟩∧tt.length = 42∧lkp tt 0 = v∧lkp tt 1 = u∧lkp tt 5 = .int .i64 (i:Nat)∧i + q = es.length)→
   ∃x st',qy h.length Wd (.loop quQ) st = some (x,st')∧(x = .exit 0∧∃tt:List qa,st' = ⟨tt,h,false⟩∧tt.length = 42):=by
  refine qK _ (fun x st'=>x = .exit 0∧∃tt:List qa,st' = ⟨tt,h,false⟩∧tt.length = 42) ?_
  rintro q st ⟨tt,i,rfl,ht,e0,e1,e5,hiq⟩
  generalize he:qy h.length Wd quQ _ = r
  rcases Nat.lt_or_ge i es.length with hi | hi
  ·have c1:ilt (i:Int) (es.length:Int) = true:=by rw [qr];simp;omega
   have w:=qP (n:=i) (by omega)
   obtain ⟨id,x1,x2⟩:=hr.at hi
   obtain ⟨id',y1,y2,y3⟩:=hp.at (i:=i) (by rw [List.length_map];exact hi)
   rw [List.getElem_map] at y3
   have x3:=hr.2.1.at hi
   have hle:=hr.2.1.le hi
   have hle2:i * 5 + 5 ≤ (qll (es.map (·.1))).length:=by rw [qjq,List.length_map];omega
   obtain ⟨cs,hcs,hv,hok⟩:=hr.2.1 _ (List.getElem_mem hi)
   have hsame:=quh 3 hok cs h hv hr.1
   generalize es[i] = e at *
   obtain ⟨⟨p,vv⟩,ee⟩:=e
   obtain ⟨k,nn,s,l⟩:=vv
   simp only at hcs hv hok hsame y3 x3
   subst hcs
   obtain ⟨K,N',S,l',L,hK,rfl,hLd,hLs,hLw,_⟩:=hv.cells
   cases hK
   rw [qcD] at y3
   rw [qam] at hsame
   have pq:(p == p) = true:=by simp
   have part:∀(R:List qa) (a0 a1 a2 a3 a4:qa),i * 5 + 5 ≤ R.length→cut R (i * 5) (some 5) = some (.agg [a0,a1,a2,a3,a4])→a0.dim = a0→a1.dim = a1→a2.dim = a2→a3.dim = a3→a4.dim = a4→(R[i * 5]?).map qa.dim = some a0∧cut R (i * 5 + 1) (some 4) = some (.agg [a1,a2,a3,a4]):=by
    intro R a0 a1 a2 a3 a4 hR hcut b0 b1 b2 b3 b4
    rw [qgd hR] at hcut
    simp only [Option.some.injEq,qa.agg.injEq] at hcut
    have hd:∀j,j < 5→(R[i * 5 + j]?).map qa.dim = [a0,a1,a2,a3,a4][j]?:=fun j hj=>by
     rw [←hcut,List.getElem?_map,List.getElem?_take,if_pos hj,List.getElem?_drop]
    refine ⟨by have:=hd 0 (by omega);simpa using this,?_⟩
    rw [qgd (by omega)]
    congr 2
    apply List.ext_getElem?
    intro j
    rw [List.getElem?_map,List.getElem?_take]
    split
    ·rename_i hj
     rw [List.getElem?_drop,show i * 5 + 1 + j = i * 5 + (j + 1) by omega,hd (j + 1) (by omega)]
     rfl
    ·rename_i hj
     simp only [Option.map_none]
     exact (List.getElem?_eq_none (by simp;omega)).symm
   obtain ⟨p1,p2⟩:=part _ _ _ _ _ _ hle x3 rfl rfl rfl rfl hLd
   obtain ⟨q1,q2⟩:=part _ _ _ _ _ _ hle2 y3 rfl rfl rfl rfl rfl
   simp only [quQ,sT.1,sC.1,sTA.1,sCA.1,qd,qaZ,qa0,Src.isTmp,qad,Src.hangs,ql.isT,qaW,qc,Nat.testBit,bne,simprocAttr,-Int.reduceNatCast',qA,qo,ht,e0,e1,e5,vd,vw,vl,ud,uw,c1,w,x1,x2,y1,y2,p1,p2,q1,q2,pq,hLd,hLs,hLw,hsame,qeG] at he
   subst he
   refine .inl ⟨_,q - 1,rfl,by omega,_,i + 1,rfl,by simp only [qi,ht],?_,?_,?_,by omega⟩
   ·simp only [sT.1,sC.1,qd,qc,Nat.testBit,simprocAttr,-Int.reduceNatCast',ht,e0]
   ·simp only [sT.1,sC.1,qd,qc,Nat.testBit,simprocAttr,-Int.reduceNatCast',ht,e1]
   ·simp only [sT.1,sC.1,qd,qc,Nat.testBit,simprocAttr,-Int.reduceNatCast',ht]
  ·have c1:ilt (i:Int) (es.length:Int) = false:=by rw [qr];simp;omega
   simp only [quQ,sT.1,sC.1,qd,qc,Nat.testBit,simprocAttr,-Int.reduceNatCast',ht,e0,e5,vd,vw,vl,c1] at he
   subst he
   exact .inr ⟨_,_,rfl,by simp,rfl,_,rfl,by simp only [qi,ht]⟩
 have lq:((es.length:Int) == (es.length:Int)) = true:=by simp
 generalize hw:Wd _ _ h = w
 rw [qab rfl (show T.get 6 = some c6 by kernel_rfl)] at hw
 simp only [c6,sT.1,sC.1,qd,qc,Nat.testBit,simprocAttr,-Int.reduceNatCast',vd,vw,vl,ud,uw,ul,lq] at hw
 generalize hr':qy h.length Wd (.loop quQ) _ = r at hw
 obtain ⟨x,st',rfl,rfl,tt,rfl,ht⟩:=qbU hr' (loop es.length _ ⟨_,0,rfl,by simp only [sT.1,sC.1,qd,qc,Nat.testBit,simprocAttr,-Int.reduceNatCast'],by simp only [sT.1,sC.1,qd,qc,Nat.testBit,simprocAttr,-Int.reduceNatCast'],by simp only [sT.1,sC.1,qd,qc,Nat.testBit,simprocAttr,-Int.reduceNatCast'],by simp only [sT.1,sC.1,qd,qc,Nat.testBit,simprocAttr,-Int.reduceNatCast',Int.natCast_zero],by omega⟩)
 simp only [sT.1,sC.1,qd,qc,Nat.testBit,simprocAttr,-Int.reduceNatCast',ht] at hw
 exact hw.symm
end Go.Proofs.YtnlhdflceelacaaGreatDoor.AE
