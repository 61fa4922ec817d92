/- A part of the proof: the abstract executor and what goes through it (part 29). No condition. -/
import Derived.Test.YtnlhdflceelacaaGreatDoorMq27
set_option maxRecDepth 100000
namespace Go.Proofs.YtnlhdflceelacaaGreatDoor.AE
open Go.AE
abbrev El:=Msg×List qa
def row (es:List El):List qa:=(es.map (·.2)).flatten
def qbW (H:Nat→Option qg) (es:List El):Prop:=∀e ∈ es,MR H e.1 e.2
theorem MR.length {H:Nat→Option qg} {m:Msg} {cs:List qa} (h:MR H m cs):cs.length = 5:=by
 obtain ⟨es,rfl,hv,_⟩:=h
 rw [List.length_cons,hv.length]
theorem MR.five {H:Nat→Option qg} {m:Msg} {cs:List qa} (h:MR H m cs):∃p k n s L,cs = [.str p,.int .i64 k,.int .i64 n,.str s,L]∧L.dim = L∧L.storable = true∧(∀i t,qau L i t = t)∧∀id,(∀i x,H i = some x→i < id)→L.lower (id + 1) = true:=by
 obtain ⟨es,rfl,hv,_⟩:=h
 generalize m.v = v at hv
 obtain ⟨k,n,s,l⟩:=v
 obtain ⟨L,rfl,hL⟩:=hv.lp
 obtain ⟨hLd,hLs,hLw,_⟩:=hL.facts
 refine ⟨_,k,n,s,L,rfl,hLd,hLs,hLw,fun id hlow=>?_⟩
 rcases hL with ⟨_,rfl⟩ | ⟨id',ess,rfl,hH,_⟩
 ·rfl
 ·rw [qcV]
  exact qpA (by have:=hlow _ _ hH;omega)
theorem qbW.len5 {H:Nat→Option qg} {es:List El} (h:qbW H es):∀v ∈ es.map (·.2),v.length = 5:=fun v hv=>by
 obtain ⟨e,he,rfl⟩:=List.mem_map.1 hv
 exact (h e he).length
theorem qbW.at {H:Nat→Option qg} {es:List El} (h:qbW H es) {i:Nat} (hi:i < es.length):cut (row es) (i * 5) (some 5) = some (.agg es[i].2):=by
 have hi':i < (es.map (·.2)).length:=by rw [List.length_map];exact hi
 rw [row,qgc h.len5 hi']
 ·rw [List.getElem_map]
 ·rw [List.getElem_map]
  obtain ⟨p,k,n,s,L,e,hLd,_,_⟩:=(h _ (List.getElem_mem hi)).five
  rw [e]
  intro c hc
  simp only [List.mem_cons,List.not_mem_nil,or_false] at hc
  rcases hc with rfl | rfl | rfl | rfl | rfl <;> first | rfl | exact hLd
theorem qbW.le {H:Nat→Option qg} {es:List El} (h:qbW H es) {i:Nat} (hi:i < es.length):i * 5 + 5 ≤ (row es).length:=qif h.len5 (by rw [List.length_map];exact hi)
theorem qbW.put {H:Nat→Option qg} {es:List El} (h:qbW H es) {i:Nat} (hi:i < es.length) {e:El} (he:MR H e.1 e.2):splice (row es) (i * 5) e.2 = row (es.set i e):=by
 rw [row,qfg h.len5 (by rw [List.length_map];exact hi) he.length,row,List.map_set]
theorem qbW.set {H:Nat→Option qg} {es:List El} (h:qbW H es) {i:Nat} {e:El} (he:MR H e.1 e.2):qbW H (es.set i e):=fun x hx=>by
 rcases List.mem_or_eq_of_mem_set hx with hx | rfl
 ·exact h x hx
 ·exact he
structure qeo (H:Nat→Option qg) (id:Nat) (es:List El) (g:List qg):Prop where
 cov:Cov H g
 low:∀i x,H i = some x→i < id
 box:g[id]? = some (.cells (row es))
 good:qbW H es
theorem qeo.lt {H:Nat→Option qg} {id:Nat} {es:List El} {g:List qg} (h:qeo H id es g):id < g.length:=(List.getElem?_eq_some_iff.1 h.box).1
theorem qeo.put {H:Nat→Option qg} {id:Nat} {es es':List El} {g:List qg} (h:qeo H id es g) (h':qbW H es'):qeo H id es' (g.set id (.cells (row es'))) where
 cov i x hx:=by
  have:=h.low i x hx
  rw [List.getElem?_set_ne (by omega)]
  exact h.cov i x hx
 low:=h.low
 box:=List.getElem?_set_self h.lt
 good:=h'
def swp (es:List El) (i j:Nat) (hi:i < es.length) (hj:j < es.length):List El:=(es.set i es[j]).set j es[i]
def qxZ (H:Nat→Option qg) (f:Nat) (id n:Nat) (args:List qa) (es es':List El):Prop:=∀g,qeo H id es g→Wd (.fn f [] []) (.sl id 0 n n 5 :: args) g = some (.ret (.tup []),g.set id (.cells (row es')),false)
theorem qbm {g:List qg} {id:Nat} {b:qg} (h:g[id]? = some b):g.set id b = g:=by
 obtain ⟨h1,h2⟩:=List.getElem?_eq_some_iff.1 h
 rw [←h2,List.set_getElem_self]
def qd8 (es:List El) (a b:Nat):Nat→List El
 | 0=>es
 | k + 1=>if h:a < es.length∧b < es.length then qd8 (swp es a b h.1 h.2) (a + 1) (b + 1) k else es
set_option maxHeartbeats 2000000 in
theorem qhK {H:Nat→Option qg} {id:Nat} (F:qa) (hF:F = .fn 22 [] []):∀(es:List El) (a b n:Nat),es.length ≤ 100→a + n ≤ es.length→b + n ≤ es.length→qbW H es→qxZ H 251 id es.length [.int .i64 (a:Nat),.int .i64 (b:Nat),.int .i64 (n:Nat),F] es (qd8 es a b n):=by
 intro es a b n h100 ha hb hgood h hl
 subst hF
 have loop:∀k st,(∃(tt:List qa) (i:Nat) (xs:List El),st = ⟨tt,h.set id (.cells (row xs)),false⟩∧tt.length = 38∧lkp tt 0 = .sl id 0 es.length es.length 5∧lkp tt 1 = .int .i64 (a:Nat)∧lkp tt 2 = .int .i64 (b:Nat)∧lkp tt 3 = .int .i64 (n:Nat)∧lkp tt 10 = .int .i64 (i:Nat)∧i + k = n∧xs.length = es.length∧qbW H xs∧qd8 es a b n = qd8 xs (a + i) (b + i) k)→
   ∃x st',qy h.length Wd (.loop qfL) st = some (x,st')∧(x = .exit 0∧∃tt:List qa,st' = ⟨tt,h.set id (.cells (row (qd8 es a b n))),false⟩∧tt.length = 38):=by
  refine qK _ (fun x st'=>x = .exit 0∧∃tt:List qa,st' = ⟨tt,h.set id (.cells (row (qd8 es a b n))),false⟩∧tt.length = 38) ?_
  rintro k st ⟨tt,i,xs,rfl,ht,e0,e1,e2,e3,e10,hik,hxl,hxg,hsw⟩
  generalize he:qy h.length Wd qfL _ = r
  rcases Nat.lt_or_ge i n with hi | hi
  ·obtain ⟨k',rfl⟩ :∃k',k = k' + 1:=⟨k - 1,by omega⟩
   have hA:a + i < xs.length:=by omega
   have hB:b + i < xs.length:=by omega
   have c1:ilt (i:Int) (n:Int) = true:=by rw [qr];simp;omega
   have w:=qP (n:=i) (by omega)
   have wa:IntKind.i64.wrap ((a:Int) + (i:Int)) = ((a + i:Nat):Int):=by rw [qM (by omega) (by omega)];omega
   have wb:IntKind.i64.wrap ((b:Int) + (i:Int)) = ((b + i:Nat):Int):=by rw [qM (by omega) (by omega)];omega
   have xa:qbr 5 (.sl id 0 es.length es.length 5) (.int .i64 (a + i:Nat)) = some (.ptr id ((a + i) * 5)):=qb4 (by omega)
   have xb:qbr 5 (.sl id 0 es.length es.length 5) (.int .i64 (b + i:Nat)) = some (.ptr id ((b + i) * 5)):=qb4 (by omega)
   have hl1:=hl.put hxg
   have hbox:=hl1.box
   have cA:=hxg.at hA
   have cB:=hxg.at hB
   have gA:=hxg _ (List.getElem_mem hA)
   have gB:=hxg _ (List.getElem_mem hB)
   have pA:=hxg.put hA gB
   have hxg1:=hxg.set (i:=a + i) gB
   have lA:=hxg.le hA
   have lB:(b + i) * 5 + 5 ≤ (row (xs.set (a + i) xs[b + i])).length:=hxg1.le (by rw [List.length_set];exact hB)
   have pB:=hxg1.put (i:=b + i) (by rw [List.length_set];exact hB) gA
   have hsw2:qd8 xs (a + i) (b + i) (k' + 1) = qd8 ((xs.set (a + i) xs[b + i]).set (b + i) xs[a + i]) (a + (i + 1)) (b + (i + 1)) k':=by
    rw [qd8,dif_pos ⟨hA,hB⟩]
    rfl
   have hxg2:qbW H ((xs.set (a + i) xs[b + i]).set (b + i) xs[a + i]):=hxg1.set gA
   obtain ⟨G,hG⟩ :∃G,G = h.set id (.cells (row xs)):=⟨_,rfl⟩
   rw [←hG] at he hbox hl1
   have hGl:=hl1.lt
   obtain ⟨p1,k1,n1,s1,L1,q1,d1,st1,w1,lo1⟩:=gA.five
   obtain ⟨p2,k2,n2,s2,L2,q2,d2,st2,w2,lo2⟩:=gB.five
   have lo1:=lo1 id hl.low
   have lo2:=lo2 id hl.low
   rw [q1] at cA pB
   rw [q2] at cB pA
   have pA2:List.take ((a + i) * 5) (row xs) ++ qa.str p2 :: qa.int .i64 k2 :: qa.int .i64 n2 :: qa.str s2 :: L2 :: List.drop ((a + i) * 5 + 5) (row xs) = row (xs.set (a + i) xs[b + i]):=by
    rw [←pA]
    simp [splice]
   have pB2:List.take ((b + i) * 5) (row (xs.set (a + i) xs[b + i])) ++ qa.str p1 :: qa.int .i64 k1 :: qa.int .i64 n1 :: qa.str s1 :: L1 :: List.drop ((b + i) * 5 + 5) (row (xs.set (a + i) xs[b + i])) = row ((xs.set (a + i) xs[b + i]).set (b + i) xs[a + i]):=by
    rw [←pB]
    simp [splice]
   simp only [qfL,sT.1,sC.1,sTA.1,sCA.1,qd,qaZ,qa0,Src.isTmp,qad,Src.hangs,ql.isT,qaW,qc,Nat.testBit,bne,simprocAttr,-Int.reduceNatCast',qA,qo,ht,e0,e1,e2,e3,e10,c1,w,wa,wb,xa,xb,hbox,hGl,cA,cB,d1,d2,st1,st2,w1,w2,lo1,lo2,lA,lB,pA2,pB2,Bool.or_true] at he
   subst he
   refine .inl ⟨_,k',rfl,by omega,_,i + 1,(xs.set (a + i) xs[b + i]).set (b + i) xs[a + i],by rw [hG,qaj],by simp only [qi,ht],?_,?_,?_,?_,?_,by omega,by simp [hxl],hxg2,hsw.trans hsw2⟩
   ·simp only [sT.1,sC.1,qd,qc,Nat.testBit,simprocAttr,-Int.reduceNatCast',ht,e0]
   ·simp only [sT.1,sC.1,qd,qc,Nat.testBit,simprocAttr,-Int.reduceNatCast',ht,e1]
   ·simp only [sT.1,sC.1,qd,qc,Nat.testBit,simprocAttr,-Int.reduceNatCast',ht,e2]
   ·simp only [sT.1,sC.1,qd,qc,Nat.testBit,simprocAttr,-Int.reduceNatCast',ht,e3]
   ·simp only [sT.1,sC.1,qd,qc,Nat.testBit,simprocAttr,-Int.reduceNatCast',ht]
  ·have c1:ilt (i:Int) (n:Int) = false:=by rw [qr];simp;omega
   have hk0:k = 0:=by omega
   subst hk0
   simp only [qfL,sT.1,sC.1,qd,qc,Nat.testBit,simprocAttr,-Int.reduceNatCast',ht,e3,e10,c1] at he
   subst he
   refine .inr ⟨_,_,rfl,by simp,rfl,_,by rw [hsw,qd8],by simp only [qi,ht]⟩
 generalize hw:Wd _ _ h = w
 rw [qab rfl (show T.get 251 = some qxQ by kernel_rfl)] at hw
 simp only [qxQ,sT.1,sC.1,qd,qc,Nat.testBit,simprocAttr,-Int.reduceNatCast',qA,qo] at hw
 generalize hr:qy h.length Wd (.loop qfL) _ = r at hw
 obtain ⟨x,st',rfl,rfl,tt,rfl,ht⟩:=qbU hr (loop n _ ⟨_,0,es,by rw [qbm hl.box],by simp only [sT.1,sC.1,qd,qc,Nat.testBit,simprocAttr,-Int.reduceNatCast'],by simp only [sT.1,sC.1,qd,qc,Nat.testBit,simprocAttr,-Int.reduceNatCast'],by simp only [sT.1,sC.1,qd,qc,Nat.testBit,simprocAttr,-Int.reduceNatCast'],by simp only [sT.1,sC.1,qd,qc,Nat.testBit,simprocAttr,-Int.reduceNatCast'],by simp only [sT.1,sC.1,qd,qc,Nat.testBit,simprocAttr,-Int.reduceNatCast'],by simp only [sT.1,sC.1,qd,qc,Nat.testBit,simprocAttr,-Int.reduceNatCast',Int.natCast_zero],by omega,rfl,hgood,rfl⟩)
 simp only [sT.1,sC.1,qd,qc,Nat.testBit,simprocAttr,-Int.reduceNatCast',ht] at hw
 subst hw
 rfl
theorem qxA (P W R:List El) (x y:El) (hi:P.length < (P ++ x :: (W ++ y :: R)).length) (hj:P.length + 1 + W.length < (P ++ x :: (W ++ y :: R)).length):swp (P ++ x :: (W ++ y :: R)) P.length (P.length + 1 + W.length) hi hj = P ++ y :: (W ++ x :: R):=by
 have e1:(P ++ x :: (W ++ y :: R))[P.length]'hi = x:=by simp
 have e2:(P ++ x :: (W ++ y :: R))[P.length + 1 + W.length]'hj = y:=by
  rw [List.getElem_append_right (by omega)]
  simp only [show P.length + 1 + W.length - P.length = W.length + 1 by omega,List.getElem_cons_succ]
  rw [List.getElem_append_right (Nat.le_refl _)]
  simp
 unfold swp
 rw [e1,e2,List.set_append_right _ _ (Nat.le_refl _),Nat.sub_self,List.set_cons_zero,List.set_append_right _ _ (by omega),show P.length + 1 + W.length - P.length = W.length + 1 by omega,List.set_cons_succ,List.set_append_right _ _ (Nat.le_refl _),Nat.sub_self,List.set_cons_zero]
theorem qjw:∀(A B P M Q:List El),A.length = B.length→qd8 (P ++ (A ++ (M ++ (B ++ Q)))) P.length (P.length + A.length + M.length) A.length = P ++ (B ++ (M ++ (A ++ Q)))
 | [],[],P,M,Q,_=>by simp [qd8]
 | [],_ :: _,_,_,_,h=>by simp at h
 | _ :: _,[],_,_,_,h=>by simp at h
 | x :: A,y :: B,P,M,Q,h=>by
  have hl:A.length = B.length:=by simpa using h
  have e:P ++ ((x :: A) ++ (M ++ ((y :: B) ++ Q))) = P ++ x :: ((A ++ M) ++ y :: (B ++ Q)):=by simp
  rw [e,List.length_cons,qd8,dif_pos (by simp;omega)]
  have hb:P.length + (A.length + 1) + M.length = P.length + 1 + (A ++ M).length:=by simp;omega
  simp only [hb]
  rw [qxA]
  have ih:=qjw A B (P ++ [y]) (M ++ [x]) Q hl
  have e2:P ++ y :: ((A ++ M) ++ x :: (B ++ Q)) = (P ++ [y]) ++ (A ++ ((M ++ [x]) ++ (B ++ Q))):=by simp
  rw [e2,show P.length + 1 = (P ++ [y]).length by simp,show (P ++ [y]).length + (A ++ M).length + 1 = (P ++ [y]).length + A.length + (M ++ [x]).length by simp;omega,ih]
  simp
end Go.Proofs.YtnlhdflceelacaaGreatDoor.AE
