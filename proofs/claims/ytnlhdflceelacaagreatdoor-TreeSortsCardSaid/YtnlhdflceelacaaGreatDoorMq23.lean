/- A part of the proof: the abstract executor and what goes through it (part 23). No condition. -/
import Derived.Test.YtnlhdflceelacaaGreatDoorMq22
set_option maxRecDepth 100000
namespace Go.Proofs.YtnlhdflceelacaaGreatDoor.AE
open Go.AE
theorem qeZ (n:Nat) (v:qa) (H:List qg):q6 n (.ret v) H false = bif v.lower n then (.ret v,H.take n,false) else (.ret v,H,false):=qtT n v H
theorem qi2 {a b:Nat} (h:b ≤ a):Nat.blt a b = false:=Bool.eq_false_iff.2 fun e=>by
 have:a + 1 ≤ b:=Nat.le_of_ble_eq_true e
 omega
def qiC (n:Nat) (h:List qg):Nat→Option qg:=fun i=>if n ≤ i then h[i]? else none
theorem qdl {n i:Nat} {h:List qg} (hi:n ≤ i):qiC n h i = h[i]?:=if_pos hi
theorem qev {n i:Nat} {h:List qg} (hi:¬ n ≤ i):qiC n h i = none:=if_neg hi
theorem qgj {h X:List qg} {a:qg} {i:Nat} (hi:h.length + 1 ≤ i):(h ++ a :: X)[i]? = X[i - (h.length + 1)]?:=by
 rw [List.getElem?_append_right (by omega),show i - h.length = (i - (h.length + 1)) + 1 by omega,List.getElem?_cons_succ]
theorem qhz {h X Y:List qg} {a b:qg} {i:Nat} {x:qg} (hx:qiC (h.length + 1) (h ++ a :: X) i = some x):qiC (h.length + 1) (h ++ b :: (X ++ Y)) i = some x:=by
 by_cases hi:h.length + 1 ≤ i
 ·rw [qdl hi,qgj hi] at hx ⊢
  have:=(List.getElem?_eq_some_iff.1 hx).1
  rw [List.getElem?_append_left this,hx]
 ·rw [qev hi] at hx
  cases hx
theorem qoh {h X Y:List qg} {a b:qg} {n i:Nat} {x:qg} (hn:h.length + 1 ≤ n) (hx:qiC n (h ++ a :: (X ++ Y)) i = some x):qiC (h.length + 1) (h ++ b :: (X ++ Y)) i = some x:=by
 by_cases hi:n ≤ i
 ·rw [qdl hi,qgj (by omega)] at hx
  rw [qdl (by omega),qgj (by omega),hx]
 ·rw [qev hi] at hx
  cases hx
def qgI:List qa:=[.int .i64 0,.int .i64 0,.str [],.lst [] .full]
def qrP (v:Val):Prop:=∀h,∃cs m,Wd (.fn 20 [] []) [qal v] h = some (.ret (.agg cs),h ++ m,false)∧VR (qiC h.length (h ++ m)) v cs
theorem mk4 {base n:Nat} {h:List qg} (hn:n ≤ 4):hop base (.mk 4 [.int .i64 0,.int .i64 0,.str [],.lst [] .full]) [.int .i64 (n:Nat),.int .i64 (n:Nat)] h = some (.sl h.length 0 n n 0,h ++ [.cells (List.replicate n qgI).flatten],false):=by
 simp only [hop]
 rw [if_pos ⟨by omega,by omega,by omega,rfl⟩,Int.toNat_natCast]
 have e:((List.replicate n [qa.int .i64 0,.int .i64 0,.str [],.lst [] .full]).flatten).map qa.dim = (List.replicate n qgI).flatten:=qeu fun c hc=>by
  obtain ⟨v,hv,hcv⟩:=List.mem_flatten.1 hc
  rw [List.eq_of_mem_replicate hv] at hcv
  simp only [List.mem_cons,List.not_mem_nil,or_false] at hcv
  rcases hcv with rfl | rfl | rfl | rfl <;> rfl
 rw [e]
theorem qpl {n:Nat}:∀v ∈ List.replicate n qgI,v.length = 4:=fun v hv=>by
 rw [List.eq_of_mem_replicate hv]
 rfl
set_option maxHeartbeats 1000000 in
theorem qta {l:List Val} (hl:l.length ≤ 4) (hne:l ≠ []) (hc:∀x ∈ l,qrP x) (h:List qg):∃(m:List qg) (ess:List (List qa)),Wd (.fn 53 [] []) [.lst (l.map qal) .no,.fn 20 [] []] h = some (.ret (.sl h.length 0 l.length l.length 0),h ++ .cells ess.flatten :: m,false)∧
  ess.length = l.length∧∀(i:Nat) (h1:i < l.length) (h2:i < ess.length),VR (qiC (h.length + 1) (h ++ .cells ess.flatten :: m)) l[i] ess[i]:=by
 obtain ⟨ys,hys⟩ :∃ys,ys = l.map qal:=⟨_,rfl⟩
 have hyl:ys.length = l.length:=by rw [hys,List.length_map]
 have loop:∀k st,(∃(tt:List qa) (i:Nat) (es:List (List qa)) (junk:List qg),st = ⟨tt,h ++ .cells (es ++ List.replicate k qgI).flatten :: junk,false⟩∧tt.length = 29∧lkp tt 1 = .fn 20 [] []∧lkp tt 5 = .sl h.length 0 l.length l.length 0∧lkp tt 14 = .lst ys .no∧lkp tt 15 = .int .i64 (l.length:Nat)∧lkp tt 16 = .int .i64 (i:Nat)∧i + k = l.length∧es.length = i∧(∀e ∈ es,e.length = 4)∧
    ∀(j:Nat) (h1:j < l.length) (h2:j < es.length),VR (qiC (h.length + 1) (h ++ .dead :: junk)) l[j] es[j])→
   ∃x st',qy h.length Wd (.loop qkv) st = some (x,st')∧(x = .exit 0∧∃(tt:List qa) (es:List (List qa)) (junk:List qg),st' = ⟨tt,h ++ .cells es.flatten :: junk,false⟩∧tt.length = 29∧lkp tt 5 = .sl h.length 0 l.length l.length 0∧es.length = l.length∧
    ∀(j:Nat) (h1:j < l.length) (h2:j < es.length),VR (qiC (h.length + 1) (h ++ .dead :: junk)) l[j] es[j]):=by
  refine qK _ (fun x st'=>x = .exit 0∧∃(tt:List qa) (es:List (List qa)) (junk:List qg),st' = ⟨tt,h ++ .cells es.flatten :: junk,false⟩∧tt.length = 29∧lkp tt 5 = .sl h.length 0 l.length l.length 0∧es.length = l.length∧
    ∀(j:Nat) (h1:j < l.length) (h2:j < es.length),VR (qiC (h.length + 1) (h ++ .dead :: junk)) l[j] es[j]) ?_
  rintro k st ⟨tt,i,es,junk,rfl,ht,e1,e5,e14,e15,e16,hik,hel,hes,hvr⟩
  generalize he:qy h.length Wd qkv _ = r
  rcases Nat.lt_or_ge i l.length with hi | hi
  ·obtain ⟨k',rfl⟩ :∃k',k = k' + 1:=⟨k - 1,by omega⟩
   have c1:ilt (i:Int) (l.length:Int) = true:=by rw [qr];simp;omega
   have w:=qP (n:=i) (by omega)
   have hg:ys[i]? = some (qal l[i]):=by rw [hys,List.getElem?_map,List.getElem?_eq_getElem hi];rfl
   obtain ⟨row,hrow⟩ :∃row,row = (es ++ List.replicate (k' + 1) qgI).flatten:=⟨_,rfl⟩
   rw [←hrow] at he
   obtain ⟨cs,m,hcp,hvc⟩:=hc l[i] (List.getElem_mem hi) (h ++ (qg.cells row :: junk ++ [.cells l[i].enc]))
   obtain ⟨K,N,S,zs,L,hL,hcs,hLd,hLs,hLw,_⟩:=hvc.cells
   have hk4:∀v ∈ es ++ List.replicate (k' + 1) qgI,v.length = 4:=fun v hv=>by
    rcases List.mem_append.1 hv with hv | hv
    ·exact hes v hv
    ·exact qpl v hv
   have hin:i < (es ++ List.replicate (k' + 1) qgI).length:=by simp;omega
   have hle:i * 4 + 4 ≤ row.length:=by rw [hrow];exact qif hk4 hin
   have hsp:splice row (i * 4) cs = ((es ++ [cs]) ++ List.replicate k' qgI).flatten:=by
    rw [hrow,qfg hk4 hin hvc.length,List.set_append_right _ _ (by omega),hel,Nat.sub_self]
    simp [List.replicate_succ]
   have hxs:qbr 4 (.sl h.length 0 l.length l.length 0) (.int .i64 (i:Nat)) = some (.ptr h.length (i * 4)):=qb4 hi
   rw [hL,qfE,qam] at hcp
   simp only [List.append_assoc,List.cons_append,List.nil_append] at hcp
   rw [hL,qam] at hg
   have hx:qbr 4 (.lst ys .no) (.int .i64 (i:Nat)) = some (.iptr [.int .i64 K,.int .i64 N,.str S,.lst (zs.map qal) .no] 0):=qbi hg rfl
   rw [hcs] at hcp hsp
   have hlen:∀q:List qg,(h ++ qg.cells row :: q).length = h.length + (q.length + 1):=fun q=>by simp
   have hb1:Nat.ble h.length (h.length + (junk.length + 1)) = true:=qcb (by omega)
   have hb2:Nat.ble h.length h.length = true:=qcb (Nat.le_refl _)
   simp only [qkv,sT.1,sC.1,qd,qc,Nat.testBit,simprocAttr,-Int.reduceNatCast',ht,e1,e5,e14,e15,e16,c1,w,hx,hxs,hlen,hb1,hb2,hLd,hLs,hLw,hcp,hle,qA,Bool.true_or] at he
   have hsp2:List.take (i * 4) row ++ qa.int .i64 K :: qa.int .i64 N :: qa.str S :: L :: List.drop (i * 4 + 4) row = ((es ++ [[.int .i64 K,.int .i64 N,.str S,L]]) ++ List.replicate k' qgI).flatten:=by
    rw [←hsp]
    simp [splice]
   rw [hsp2] at he
   subst he
   simp only [hL,qfE,List.append_assoc,List.cons_append,List.nil_append] at hvc
   have hvr2:∀(j:Nat) (h1:j < l.length) (h2:j < (es ++ [[.int .i64 K,.int .i64 N,.str S,L]]).length),VR (qiC (h.length + 1) (h ++ .dead :: (junk ++ qg.cells [.int .i64 K,.int .i64 N,.str S,.lst (zs.map qal) .no] :: m))) l[j] (es ++ [[.int .i64 K,.int .i64 N,.str S,L]])[j]:=fun j h1 h2=>by
    by_cases hj:j < es.length
    ·rw [List.getElem_append_left hj]
     exact (hvr j h1 hj).mono fun _ _ hx=>qhz hx
    ·have hji:j = i:=by simp at h2;omega
     subst hji
     rw [List.getElem_append_right (by omega)]
     simp only [hel,Nat.sub_self,List.getElem_cons_zero]
     rw [hL,←hcs]
     refine hvc.mono fun _ _ hx=>qoh (n:=(h ++ qg.cells row :: (junk ++ [qg.cells [qa.int .i64 K,.int .i64 N,.str S,.lst (zs.map qal) .no]])).length) (a:=.cells row) (by simp) ?_
     simpa using hx
   refine .inl ⟨_,k',rfl,by omega,_,i + 1,es ++ [[.int .i64 K,.int .i64 N,.str S,L]],junk ++ qg.cells [.int .i64 K,.int .i64 N,.str S,.lst (zs.map qal) .no] :: m,rfl,by simp only [qi,ht],?_,?_,?_,?_,?_,by omega,by simp [hel],?_,hvr2⟩
   ·simp only [sT.1,sC.1,qd,qc,Nat.testBit,simprocAttr,-Int.reduceNatCast',ht,e1]
   ·simp only [sT.1,sC.1,qd,qc,Nat.testBit,simprocAttr,-Int.reduceNatCast',ht,e5]
   ·simp only [sT.1,sC.1,qd,qc,Nat.testBit,simprocAttr,-Int.reduceNatCast',ht,e14]
   ·simp only [sT.1,sC.1,qd,qc,Nat.testBit,simprocAttr,-Int.reduceNatCast',ht,e15]
   ·simp only [sT.1,sC.1,qd,qc,Nat.testBit,simprocAttr,-Int.reduceNatCast',ht]
   ·intro e he
    rcases List.mem_append.1 he with he | he
    ·exact hes e he
    ·simp only [List.mem_singleton] at he
     rw [he]
     rfl
  ·have c1:ilt (i:Int) (l.length:Int) = false:=by rw [qr];simp;omega
   have hk0:k = 0:=by omega
   subst hk0
   simp only [qkv,sT.1,sC.1,qd,qc,Nat.testBit,simprocAttr,-Int.reduceNatCast',ht,e15,e16,c1] at he
   subst he
   refine .inr ⟨_,_,rfl,by simp,rfl,_,es,junk,rfl,by simp only [qi,ht],?_,by omega,hvr⟩
   simp only [sT.1,sC.1,qd,qc,Nat.testBit,simprocAttr,-Int.reduceNatCast',ht,e5]
 have d1:((l.length:Int) == 0) = false:=by
  have:=List.length_pos_iff.2 hne
  simp;omega
 rw [←hys]
 generalize hw:Wd _ _ h = w
 have hmk:=fun b g=>mk4 (base:=b) (h:=g) hl
 rw [qab rfl (show T.get 53 = some c53 by kernel_rfl)] at hw
 simp only [c53,sT.1,sC.1,sTA.1,sCA.1,qd,qaZ,qa0,Src.isTmp,qad,Src.hangs,ql.isT,qaW,qc,Nat.testBit,bne,simprocAttr,-Int.reduceNatCast',qe4,qaP,qaV,qbu,qaQ,qA,qo,hyl,d1,hmk] at hw
 generalize hr:qy h.length Wd (.loop qkv) _ = r at hw
 obtain ⟨x,st',rfl,rfl,tt,es,junk,rfl,ht,e5,hel,hvr⟩:=qbU hr (loop l.length _ ⟨_,0,[],[],rfl,by simp only [sT.1,sC.1,qd,qc,Nat.testBit,simprocAttr,-Int.reduceNatCast'],by simp only [sT.1,sC.1,qd,qc,Nat.testBit,simprocAttr,-Int.reduceNatCast'],by simp only [sT.1,sC.1,qd,qc,Nat.testBit,simprocAttr,-Int.reduceNatCast'],by simp only [sT.1,sC.1,qd,qc,Nat.testBit,simprocAttr,-Int.reduceNatCast'],by simp only [sT.1,sC.1,qd,qc,Nat.testBit,simprocAttr,-Int.reduceNatCast'],by simp only [sT.1,sC.1,qd,qc,Nat.testBit,simprocAttr,-Int.reduceNatCast',Int.natCast_zero],by omega,rfl,by simp,fun j _ h2=>by simp at h2⟩)
 simp only [sT.1,sC.1,qd,qc,Nat.testBit,simprocAttr,-Int.reduceNatCast',ht,e5,qA,qo] at hw
 subst hw
 refine ⟨junk,es,?_,hel,fun i h1 h2=>(hvr i h1 h2).mono fun _ _ hx=>?_⟩
 ·rw [qeZ]
  simp [qcV,qi2 (Nat.le_refl h.length)]
 ·have:=qhz (b:=.cells es.flatten) (Y:=[]) hx
  simpa using this
theorem qpY (h:List qg) (f:qa):Wd (.fn 53 [] []) [.lst [] .no,f] h = some (.ret (.lst [] .full),h,false):=by
 rw [qab rfl (show T.get 53 = some c53 by kernel_rfl)]
 have z:(((0:Nat):Int) == 0) = true:=by kernel_rfl
 have zl:([]:List qa).length = 0:=rfl
 simp only [c53,sT.1,sC.1,sTA.1,sCA.1,qd,qaZ,qa0,Src.isTmp,qad,Src.hangs,ql.isT,qaW,qc,Nat.testBit,bne,simprocAttr,-Int.reduceNatCast',qe4,qaP,qaV,qbu,qaQ,qA,qo,zl,z]
theorem qg0 (k n:Int) (s:Str) (h:List qg):Wd (.fn 20 [] []) [qal (.mk k n s [])] h = some (.ret (.agg [.int .i64 k,.int .i64 n,.str s,.lst [] .full]),h,false):=by
 have he:=fun g f=>qpY g f
 rw [qam,qab rfl (show T.get 20 = some c20 by kernel_rfl)]
 have hb:∀j,Nat.ble h.length (h.length + j) = true:=fun j=>qcb (by omega)
 simp only [c20,sT.1,sC.1,qd,qc,Nat.testBit,simprocAttr,-Int.reduceNatCast',List.map_nil,he,hb,Bool.true_or]
theorem qlp:∀d v,OK d v→qrP v:=by
 intro d
 induction d with
 | zero=>
  rintro ⟨k,n,s,l⟩ h0 h
  have hl:l = []:=by rcases h0 with ⟨_,_,h⟩ | ⟨_,_,h,_⟩ | ⟨_,_,_,h⟩ <;> exact h
  subst hl
  exact ⟨_,[],by rw [qg0,List.append_nil],.leaf k n s⟩
 | succ d ih=>
  rintro ⟨k,n,s,l⟩ h0 h
  rcases h0 with h0 | ⟨rfl,rfl,rfl,h1,h4,hall⟩
  ·have hl:l = []:=by rcases h0 with ⟨_,_,h⟩ | ⟨_,_,h,_⟩ | ⟨_,_,_,h⟩ <;> exact h
   subst hl
   exact ⟨_,[],by rw [qg0,List.append_nil],.leaf k n s⟩
  ·have hne:l ≠ []:=fun e=>by rw [e] at h1;simp at h1
   obtain ⟨m,ess,he,hel,hvr⟩:=qta h4 hne (fun x hx=>ih x (hall x hx)) (h ++ [.cells [.int .i64 3,.int .i64 0,.str [],.lst (l.map qal) .no],.cells [.int .i64 0,.int .i64 0,.str [],.lst [] .full]])
   rw [qam]
   generalize hw:Wd _ _ h = w
   rw [qab rfl (show T.get 20 = some c20 by kernel_rfl)] at hw
   have hb:∀j,Nat.ble h.length (h.length + j) = true:=fun j=>qcb (by omega)
   have hbl:(h ++ [qg.cells [.int .i64 3,.int .i64 0,.str [],.lst (l.map qal) .no],.cells [.int .i64 0,.int .i64 0,.str [],.lst [] .full]]).length = h.length + 2:=by simp
   simp only [hbl,List.append_assoc,List.cons_append,List.nil_append] at he hvr
   simp only [c20,sT.1,sC.1,qd,qc,Nat.testBit,simprocAttr,-Int.reduceNatCast',he,hb,qA,qo,qo3,qpE,qcV,Bool.true_or] at hw
   subst hw
   refine ⟨[.int .i64 3,.int .i64 0,.str [],.sl (h.length + 2) 0 l.length l.length 0],.cells [.int .i64 3,.int .i64 0,.str [],.sl (h.length + 2) 0 l.length l.length 0] :: .cells [.int .i64 3,.int .i64 0,.str [],.sl (h.length + 2) 0 l.length l.length 0] :: .cells ess.flatten :: m,?_,VR.node _ _ _ l (h.length + 2) ess hne ?_ hel fun i a b=>(hvr i a b).mono fun j x hx=>?_⟩
   ·rw [qeZ]
    simp only [qho,qe2,qfM,qhp,qhr,qcV,qi2 (show h.length ≤ h.length + 2 by omega),Bool.and_false,Bool.false_and,Bool.and_true,cond_false]
   ·rw [qdl (by omega),List.getElem?_append_right (by omega),Nat.add_sub_cancel_left]
    rfl
   ·by_cases hj:h.length + 2 + 1 ≤ j
    ·rw [qdl hj,List.getElem?_append_right (by omega),show j - h.length = (j - h.length - 3) + 3 by omega] at hx
     rw [qdl (by omega),List.getElem?_append_right (by omega),show j - h.length = (j - h.length - 3) + 3 by omega]
     exact hx
    ·rw [qev hj] at hx
     cases hx
end Go.Proofs.YtnlhdflceelacaaGreatDoor.AE
