/- A part of the proof: the abstract executor and what goes through it (part 10). No condition. -/
import Derived.Test.YtkmlapholimbcaaGreatDoorMp9
set_option maxRecDepth 100000
namespace Go.Proofs.YtkmlapholimbcaaGreatDoor.AE
open Go.AE
def qcO (l:List Str):Str:=match l with
 | []=>[]
 | x :: r=>32 :: x ++ (r.map fun t=>44 :: 32 :: t).flatten
theorem qmv (l:List Str) (x:Str):qcO (l ++ [x]) = qcO l ++ (bif l.isEmpty then 32 :: x else 44 :: 32 :: x):=by
 cases l with
 | nil=>simp [qcO]
 | cons y l=>simp [qcO]
theorem qx5 (a:Int×Str) (r:List (Int×Str)):qmC (a :: r) = 40 :: (inn 0 a ++ (44 :: (qcO (r.map (inn 0)) ++ [41]))):=by
 cases r with
 | nil=>simp [qmC,qaS,qcO]
 | cons b r=>simp [qmC,qaS,qcO]
section
variable {G:List qq} {n:Int} {nm sb:Str}
theorem quh {aS:List Exl} {f:Exl→Str} (h:∀a ∈ aS,(f a).length ≤ 50000):(qcO (aS.map fun a=>inn 0 (a.op,f a))).length ≤ aS.length * 50004:=by
 cases aS with
 | nil=>simp [qcO]
 | cons x r=>
  simp only [List.map_cons,qcO,List.length_cons,List.length_append,List.length_flatten,List.map_map]
  have h1:=qbM 0 (x.op,f x)
  have h2:=h x (by simp)
  have h3:(List.map (List.length ∘ ((fun t=>44 :: 32 :: t) ∘ fun a=>inn 0 (a.op,f a))) r).sum ≤ r.length * 50004:=by
   have hr:∀a ∈ r,(f a).length ≤ 50000:=fun a ha=>h a (by simp [ha])
   clear h h1 h2
   induction r with
   | nil=>simp
   | cons y r ih=>
    have h1:=qbM 0 (y.op,f y)
    have h2:=hr y (by simp)
    have:=ih fun a ha=>hr a (by simp [ha])
    simp only [List.map_cons,List.sum_cons,Function.comp,List.length_cons] at *
    omega
  simp only at h1
  omega
set_option maxHeartbeats 8000000 in
theorem qEp {a:Exl} {aS:List Exl} {f:Exl→Str} (h:∀x ∈ a :: aS,qdo x (f x)) (hl:aS.length ≤ 3):Wd (.fn 22 [] []) [exV (.mk 6 n nm sb (a :: aS))] G = some (.ret (.str (qmC ((a :: aS).map fun x=>(x.op,f x)))),G,false):=by
 obtain ⟨A,hA,lA,eA⟩:=EA 0 (h a (by simp))
 have hr:=fun i (hi:i < aS.length)=>EA 0 (h aS[i] (by simp))
 have hq:=fun x (hx:x ∈ aS)=>(h x (by simp [hx])).2.1
 rw [List.map_cons,qx5,List.map_map,←hA]
 generalize hf:(inn 0 ∘ fun x:Exl=>(x.op,f x)) = g
 have hfg:∀x,inn 0 (x.op,f x) = g x:=fun x=>by rw [←hf];rfl
 have hlen:∀i,(qcO ((aS.take i).map g)).length ≤ 150012:=fun i=>by
  have:=quh (aS:=aS.take i) (f:=f) fun x hx=>hq x (List.mem_of_mem_take hx)
  have e:(fun a:Exl=>inn 0 (a.op,f a)) = g:=by rw [←hf];rfl
  rw [e] at this
  have h3:(aS.take i).length ≤ 3:=by rw [List.length_take];omega
  have:(aS.take i).length * 50004 ≤ 3 * 50004:=Nat.mul_le_mul_right _ h3
  omega
 clear hA hq
 have hX:=ql 6 n nm sb (a :: aS)
 obtain ⟨op,na,m2,sa,asa⟩:=a
 rw [ql] at eA
 have x0:qa3 5 (.lst ((Exl.mk op na m2 sa asa :: aS).map exV) .no) (.int .i64 0) = some (.iptr [.int .i64 op,.int .i64 na,.str m2,.str sa,.lst (asa.map exV) .no] 0):=by
  have:=qu (k:=5) (xs:=(Exl.mk op na m2 sa asa :: aS).map exV) (f:=.no) (j:=.i64) (n:=0) (x:=exV (.mk op na m2 sa asa)) rfl (by rw [ql];rfl)
  rw [ql] at this
  exact this
 obtain ⟨M,hM⟩ :∃M,M = (Exl.mk op na m2 sa asa :: aS).map exV:=⟨_,rfl⟩
 have hMl:M.length = aS.length + 1:=by rw [hM,List.length_map,List.length_cons]
 have hMg:∀i (hi:i < aS.length),M[i + 1]? = some (exV aS[i]):=fun i hi=>by rw [hM,List.map_cons,List.getElem?_cons_succ,List.getElem?_map,List.getElem?_eq_getElem hi];rfl
 rw [←hM] at x0 hX
 clear hM
 obtain ⟨H,hH⟩ :∃H,H = G ++ [qq.cells [.int .i64 6,.int .i64 n,.str nm,.str sb,.lst M .no],.cells [.str [32,43,32],.str [32,45,32],.str [32,42,32],.str [32,47,32],.str [32,37,32],.str [32,61,32],.str [32,60,32],.str [32,60,61,32],.str [32,97,110,100,32],.str [32,111,114,32]]]:=⟨_,rfl⟩
 have hbx:H[G.length]? = some (.cells [.int .i64 6,.int .i64 n,.str nm,.str sb,.lst M .no]):=by rw [hH,qbD];rfl
 have htk:H.take G.length = G:=by rw [hH,List.take_left]
 have loop:∀k st,(∃tt j,st = ⟨tt,H,false⟩∧tt.length = 201∧lkp tt 1 = .ptr G.length 0∧lkp tt 6 = .str (40 :: (A ++ (44 :: qcO ((aS.take (j - 1)).map g))))∧lkp tt 7 = .int .i64 (j:Nat)∧1 ≤ j∧j + k = aS.length + 1)→
   ∃x st',qx G.length Wd (.loop qiX) st = some (x,st')∧(∃tt,st' = ⟨tt,H,false⟩∧tt.length = 201∧lkp tt 6 = .str (40 :: (A ++ (44 :: qcO (aS.map g))))∧x = .exit 1):=by
  refine qD _ (fun x st'=>∃tt,st' = ⟨tt,H,false⟩∧tt.length = 201∧lkp tt 6 = .str (40 :: (A ++ (44 :: qcO (aS.map g))))∧x = .exit 1) ?_
  rintro k st ⟨tt,j,rfl,ht,e1,e6,e7,hj,hik⟩
  generalize he:qx G.length Wd qiX _ = r
  rcases Nat.lt_or_ge j M.length with hi | hi
  ·have c1:ilt (j:Int) (M.length:Int) = true:=qcK (by omega)
   have w:=qE (n:=j) (by omega)
   have hi2:j - 1 < aS.length:=by omega
   obtain ⟨B,hB,lB,eB⟩:=hr (j - 1) hi2
   have hg:=hMg (j - 1) hi2
   rw [show j - 1 + 1 = j by omega] at hg
   have hS:qcO ((aS.take (j + 1 - 1)).map g) = qcO ((aS.take (j - 1)).map g) ++ (bif (aS.take (j - 1)).isEmpty then 32 :: B else 44 :: 32 :: B):=by
    rw [show j + 1 - 1 = j - 1 + 1 by omega,List.take_succ_eq_append_getElem hi2,List.map_append,List.map_cons,List.map_nil,qmv,←hfg,←hB]
    congr 2
    cases aS.take (j - 1) <;> rfl
   have hl1:∀k,150012 ≤ k→(qcO ((aS.take (j - 1)).map g)).length ≤ k:=fun k hk=>by have:=hlen (j - 1);omega
   have hne:(aS.take (j - 1)).isEmpty = !ilt 1 (j:Int):=by
    rw [qaj]
    by_cases h1:j = 1
    ·subst h1;rfl
    ·rw [decide_eq_true (by omega)]
     obtain ⟨q,hq⟩ :∃q,j - 1 = q + 1:=⟨j - 2,by omega⟩
     rw [hq]
     cases aS with
     | nil=>simp at hi2
     | cons b r=>rfl
   rw [hne] at hS
   generalize qcO ((aS.take (j - 1)).map g) = W at *
   generalize aS[j - 1] = y at eB hg
   obtain ⟨o',n',m',s',a'⟩:=y
   rw [ql] at eB hg
   have hx:=qu (k:=5) (f:=.no) (j:=.i64) hg rfl
   simp only [qf.cells] at hx
   cases c2:ilt 1 (j:Int) with
   | false=>
    rw [c2,Bool.not_false,cond_true] at hS
    simp (maxDischargeDepth:=9) only [qiX,sT.1,sC.1,sTA.1,sCA.1,qe,qj,qk,Src.isTmp,qg,Src.hangs,qn.isT,qi,qd,Nat.testBit,bne,simprocAttr,-Int.reduceNatCast',ht,e1,e6,e7,c1,c2,w,hx,hbx,eB,lA,lB,hl1,qb5,qb6,if_true,List.append_assoc,List.cons_append,List.nil_append] at he
    subst he
    refine .inl ⟨_,k - 1,rfl,by omega,_,j + 1,rfl,by simp only [qh,ht],?_,?_,?_,by omega,by omega⟩
    ·simp only [sT.1,sC.1,sTA.1,sCA.1,qe,qj,qk,Src.isTmp,qg,Src.hangs,qn.isT,qi,qd,Nat.testBit,bne,simprocAttr,-Int.reduceNatCast',ht,e1]
    ·rw [hS];simp only [sT.1,sC.1,sTA.1,sCA.1,qe,qj,qk,Src.isTmp,qg,Src.hangs,qn.isT,qi,qd,Nat.testBit,bne,simprocAttr,-Int.reduceNatCast',ht,List.append_assoc,List.cons_append,List.nil_append]
    ·simp only [sT.1,sC.1,sTA.1,sCA.1,qe,qj,qk,Src.isTmp,qg,Src.hangs,qn.isT,qi,qd,Nat.testBit,bne,simprocAttr,-Int.reduceNatCast',ht,w]
   | true=>
    rw [c2,Bool.not_true,cond_false] at hS
    simp (maxDischargeDepth:=9) only [qiX,sT.1,sC.1,sTA.1,sCA.1,qe,qj,qk,Src.isTmp,qg,Src.hangs,qn.isT,qi,qd,Nat.testBit,bne,simprocAttr,-Int.reduceNatCast',ht,e1,e6,e7,c1,c2,w,hx,hbx,eB,lA,lB,hl1,qb5,qb6,if_true,List.append_assoc,List.cons_append,List.nil_append] at he
    subst he
    refine .inl ⟨_,k - 1,rfl,by omega,_,j + 1,rfl,by simp only [qh,ht],?_,?_,?_,by omega,by omega⟩
    ·simp only [sT.1,sC.1,sTA.1,sCA.1,qe,qj,qk,Src.isTmp,qg,Src.hangs,qn.isT,qi,qd,Nat.testBit,bne,simprocAttr,-Int.reduceNatCast',ht,e1]
    ·rw [hS];simp only [sT.1,sC.1,sTA.1,sCA.1,qe,qj,qk,Src.isTmp,qg,Src.hangs,qn.isT,qi,qd,Nat.testBit,bne,simprocAttr,-Int.reduceNatCast',ht,List.append_assoc,List.cons_append,List.nil_append]
    ·simp only [sT.1,sC.1,sTA.1,sCA.1,qe,qj,qk,Src.isTmp,qg,Src.hangs,qn.isT,qi,qd,Nat.testBit,bne,simprocAttr,-Int.reduceNatCast',ht,w]
  ·have c1:ilt (j:Int) (M.length:Int) = false:=qcJ (by omega)
   rw [List.take_of_length_le (by omega)] at e6
   simp only [qiX,sT.1,sC.1,sTA.1,sCA.1,qe,qj,qk,Src.isTmp,qg,Src.hangs,qn.isT,qi,qd,Nat.testBit,bne,simprocAttr,-Int.reduceNatCast',ht,e1,e6,e7,c1,hbx] at he
   subst he
   refine .inr ⟨_,_,rfl,by simp,_,rfl,by simp only [qh,ht],?_,rfl⟩
   simp only [sT.1,sC.1,sTA.1,sCA.1,qe,qj,qk,Src.isTmp,qg,Src.hangs,qn.isT,qi,qd,Nat.testBit,bne,simprocAttr,-Int.reduceNatCast',ht,e6]
 have c15:ile 15 (6:Int) = false:=Eq.trans rfl rfl
 have hl1:∀k,150012 ≤ k→(qcO (aS.map g)).length ≤ k:=fun k hk=>by have:=hlen aS.length;rw [List.take_length] at this;omega
 generalize hw:Wd _ _ G = w
 rw [hX,qt rfl (show T.get 22 = some c22 by kernel_rfl)] at hw
 simp only [c22,sT.1,sC.1,sTA.1,sCA.1,qe,qj,qk,Src.isTmp,qg,Src.hangs,qn.isT,qi,qd,Nat.testBit,bne,simprocAttr,-Int.reduceNatCast',qa6,qT,qV,qak,qU,qeP,qaN,qag,qaY,qaG,qaB,if_true,eA,lA,x0,c15,qb5,qb6,List.append_assoc,List.cons_append,List.nil_append] at hw
 rw [←hH] at hw
 generalize hr1:qx G.length Wd (.loop qiX) _ = r at hw
 obtain ⟨x,st',rfl,tt,rfl,ht,e6,rfl⟩:=qaT hr1 (loop aS.length _ ⟨_,1,rfl,by simp only [sT.1,sC.1,sTA.1,sCA.1,qe,qj,qk,Src.isTmp,qg,Src.hangs,qn.isT,qi,qd,Nat.testBit,bne,simprocAttr,-Int.reduceNatCast'],by simp only [sT.1,sC.1,sTA.1,sCA.1,qe,qj,qk,Src.isTmp,qg,Src.hangs,qn.isT,qi,qd,Nat.testBit,bne,simprocAttr,-Int.reduceNatCast'],by simp only [sT.1,sC.1,sTA.1,sCA.1,qe,qj,qk,Src.isTmp,qg,Src.hangs,qn.isT,qi,qd,Nat.testBit,bne,simprocAttr,-Int.reduceNatCast',Nat.sub_self,List.take_zero,List.map_nil,qcO,List.append_nil],by simp only [sT.1,sC.1,sTA.1,sCA.1,qe,qj,qk,Src.isTmp,qg,Src.hangs,qn.isT,qi,qd,Nat.testBit,bne,simprocAttr,-Int.reduceNatCast',cc1],by omega,by omega⟩)
 simp (maxDischargeDepth:=9) only [sT.1,sC.1,sTA.1,sCA.1,qe,qj,qk,Src.isTmp,qg,Src.hangs,qn.isT,qi,qd,Nat.testBit,bne,simprocAttr,-Int.reduceNatCast',ht,e6,htk,lA,hl1,qb5,qb6,if_true,List.append_assoc,List.cons_append,List.nil_append] at hw
 subst hw
 exact congrArg some (qac htk rfl)
end
end Go.Proofs.YtkmlapholimbcaaGreatDoor.AE
namespace Go.Proofs.YtkmlapholimbcaaGreatDoor.AE
open Go.AE
def Shp (k:Nat) (v:qf):Prop:=∃cs,v = .agg cs∧cs.length = k∧cs.all qf.storable = true∧cs.map qf.dim = cs
def qdt:qf→Option Nat
 | .sl id _ _ _ _=>some id
 | _=>none
def SL (G:List qq) (L:List Str) (V:qf):Prop:=(L = []∧V = .lst [] .full)∨∃id,V = .sl id 0 L.length L.length 1∧L ≠ []∧G[id]? = some (.cells (L.map qf.str))
theorem qcN (L:List Str):qgc (L.map qf.str):=fun c hc=>by
 obtain ⟨s,_,rfl⟩:=List.mem_map.1 hc
 exact ⟨rfl,rfl⟩
theorem SL.facts {G:List qq} {L:List Str} {V:qf} (h:SL G L V):V.dim = V∧(∀i t,qbZ V i t = t)∧V.storable = true∧qmK false V = some (.int .i64 (L.length:Nat)):=by
 rcases h with ⟨rfl,rfl⟩ | ⟨id,rfl,_,_⟩ <;> exact ⟨rfl,fun _ _=>rfl,rfl,rfl⟩
theorem SL.keep {G G':List qq} {L:List Str} {V:qf} (h:SL G L V) (hk:∀id,qdt V = some id→G'[id]? = G[id]?):SL G' L V:=by
 rcases h with h | ⟨id,rfl,h1,h2⟩
 ·exact .inl h
 ·exact .inr ⟨id,rfl,h1,(hk id rfl).trans h2⟩
theorem SL.lt {G:List qq} {L:List Str} {V:qf} (h:SL G L V) {id:Nat} (hi:qdt V = some id):id < G.length:=by
 rcases h with ⟨_,rfl⟩ | ⟨id',rfl,_,h2⟩
 ·cases hi
 ·cases hi
  exact (List.getElem?_eq_some_iff.1 h2).1
theorem SL.more {G:List qq} {L:List Str} {V:qf} (h:SL G L V) (l:List qq):SL (G ++ l) L V:=h.keep fun id hi=>List.getElem?_append_left (h.lt hi)
theorem qAn (b:Nat) (u:Str) (G:List qq):hop b (.lit 1 [.str []] 1 [0]) [.str u] G = some (.sl G.length 0 1 1 0,G ++ [.cells [.str u]],false):=by kernel_rfl
theorem SL.app {G:List qq} {L:List Str} {V:qf} (h:SL G L V) (hl:L.length ≤ 100000) (b:Nat) (u:Str) :
  ∃G',hop b (.app 1) [V,.sl G.length 0 1 1 0] (G ++ [.cells [.str u]]) = some (.sl (G.length + 1) 0 (L.length + 1) (L.length + 1) 1,G',false)∧SL G' (L ++ [u]) (.sl (G.length + 1) 0 (L.length + 1) (L.length + 1) 1)∧G'.length = G.length + 2∧∀i,i < G.length→qdt V ≠ some i→G'[i]? = G[i]?:=by
 have h2:(G ++ [qq.cells [.str u]])[G.length]? = some (.cells [.str u]):=by rw [qbD];rfl
 have hs:qgc [qf.str u]:=qcN [u]
 rcases h with ⟨rfl,rfl⟩ | ⟨id,rfl,hne,hid⟩
 ·have e:=qmX (base:=b) (k:=1) h2 rfl hs
  rw [List.length_append] at e
  refine ⟨_,e,.inr ⟨G.length + 1,rfl,by simp,?_⟩,by simp,fun i hi _=>?_⟩
  ·rw [List.append_assoc,qcY];rfl
  ·rw [List.append_assoc,List.getElem?_append_left hi]
 ·have hlt:=(List.getElem?_eq_some_iff.1 hid).1
  have e:=qrB (base:=b) (k:=1) (n:=L.length) (show (G ++ [qq.cells [.str u]])[id]? = _ by rw [List.getElem?_append_left hlt];exact hid) h2 rfl (by simp) hs (qcN L) hl (by omega)
  rw [List.length_append] at e
  refine ⟨_,e,.inr ⟨G.length + 1,by simp,by simp,?_⟩,by simp,fun i hi hn=>?_⟩
  ·have:((G ++ [qq.cells [.str u]]).set id .dead).length = G.length + 1:=by simp
   rw [qiN this];simp
  ·have:id ≠ i:=fun e=>hn (by rw [e];rfl)
   rw [List.getElem?_append_left (by simp;omega),List.getElem?_set_ne this,List.getElem?_append_left hi]
def Ln (h:List qq) (V:qf) (L:List Str) (r:Option (qcS×List qq×Bool)):Prop:=
 ∃G' V',r = some (.ret V',G',false)∧SL G' L V'∧h.length ≤ G'.length∧(∀i,i < h.length→qdt V ≠ some i→G'[i]? = h[i]?)∧(V' = V∨∀id,qdt V' = some id→h.length ≤ id)
def qdq (k:Nat) (z:List qf):qF:=
 (.seq (.reg [ao 14 (.bin .lss (.t 13) (.t 12))]) (.seq (.cond (.t 14) (.skip) (.exit 0)) (.seq (.block 1 (.seq (.reg [ao 15 (.ixaL k (.t 11) (.t 13)),ao 16 (.ld (some k) (.t 15)),ao 10 (.new z),an (.st (some k) (.t 10) (.t 16))])
 (.reg [ao 17 (.mov (.t 0)),ao 18 (.mov (.t 1)),ao 19 (.mov (.t 3)),ao 20 (.ld (some k) (.t 10)),ao 21 (.call (.t 19) [(.t 20)]),ao 22 (.bin .add (.t 18) (.t 21)),ao 23 (.hx (.lit 1 [(.str [])] 1 [0]) [(.t 22)]),ao 24 (.hx (.app 1) [(.t 17),(.t 23)]),ao 0 (.asg (.t 24))])))
 (.reg [ao 25 (.bin .add (.t 13) (.c (.int .i64 1))),ao 13 (.mov (.t 25))]))))
def qv9 (k:Nat) (z:List qf):qw:=⟨27,[.tmp 8],(.seq (.reg [ao 8 (.asg (.c (.lst [] .full)))]) (.seq (.seq (.reg [ao 11 (.mov (.t 2)),ao 12 (.len false (.t 11)),ao 13 (.mov (.c (.int .i64 0)))]) (.block 0 (.loop (qdq k z)))) (.seq (.reg [ao 26 (.mov (.t 0)),ao 8 (.asg (.t 26))]) (.ret))))⟩
section
variable {α:Type} {k:Nat} {z:List qf} {l:List α} {en:α→qf} {g F:FuncId} {tf:α→Str} {ah:Str}
set_option maxHeartbeats 1000000 in
theorem qnR (hz:z.length = k) (hzd:z.map qf.dim = z) (hs:∀v ∈ l,Shp k (en v)) (hl:l.length ≤ 1000) (hg:∀v ∈ l,∀h,Wd (.fn g [] []) [en v] h = some (.ret (.str (tf v)),h,false)) (hlen:∀v ∈ l,ah.length + (tf v).length ≤ qo) {H:List qq} {V0:qf} {L0:List Str} (hL0:L0.length ≤ 50000) :
  ∀d st,(∃(tt:List qf) (i:Nat) (G:List qq) (V:qf),st = ⟨tt,G,false⟩∧tt.length = 27∧lkp tt 0 = V∧lkp tt 1 = .str ah∧lkp tt 3 = .fn g [] []∧lkp tt 11 = .lst (l.map en) .no∧lkp tt 12 = .int .i64 (l.length:Nat)∧lkp tt 13 = .int .i64 (i:Nat)∧i + d = l.length∧SL G (L0 ++ (l.take i).map fun v=>ah ++ tf v) V∧H.length ≤ G.length∧(∀i,i < H.length→qdt V0 ≠ some i→G[i]? = H[i]?)∧(V = V0∨∀id,qdt V = some id→H.length ≤ id))→
   ∃x st',qx H.length Wd (.loop (qdq k z)) st = some (x,st')∧(∃(tt:List qf) (G:List qq) (V:qf),st' = ⟨tt,G,false⟩∧tt.length = 27∧lkp tt 0 = V∧SL G (L0 ++ l.map fun v=>ah ++ tf v) V∧H.length ≤ G.length∧(∀i,i < H.length→qdt V0 ≠ some i→G[i]? = H[i]?)∧(V = V0∨∀id,qdt V = some id→H.length ≤ id)∧x = .exit 0):=by
 refine qD _ (fun x st'=>(∃(tt:List qf) (G:List qq) (V:qf),st' = ⟨tt,G,false⟩∧tt.length = 27∧lkp tt 0 = V∧SL G (L0 ++ l.map fun v=>ah ++ tf v) V∧H.length ≤ G.length∧(∀i,i < H.length→qdt V0 ≠ some i→G[i]? = H[i]?)∧(V = V0∨∀id,qdt V = some id→H.length ≤ id)∧x = .exit 0)) ?_
 rintro d st ⟨tt,i,G,V,rfl,ht,e0,e1,e3,e11,e12,e13,hid,hSL,hG,hkp,hV⟩
 generalize he:qx H.length Wd (qdq k z) _ = r
 rcases Nat.lt_or_ge i l.length with hi | hi
 ·have c1:ilt (i:Int) (l.length:Int) = true:=qcK (by omega)
  have w:=qE (n:=i) (by omega)
  obtain ⟨cs,ec,s1,s2,s4⟩:=hs l[i] (List.getElem_mem hi)
  have hq:=hg l[i] (List.getElem_mem hi)
  have hle:=hlen l[i] (List.getElem_mem hi)
  have htk:(l.take (i + 1)).map (fun v=>ah ++ tf v) = (l.take i).map (fun v=>ah ++ tf v) ++ [ah ++ tf l[i]]:=by rw [List.take_succ_eq_append_getElem hi,List.map_append];rfl
  generalize htx:tf l[i] = u at hq hle htk
  rw [ec] at hq
  have hx:qa3 k (.lst (l.map en) .no) (.int .i64 (i:Nat)) = some (.iptr cs 0):=by
   have:=qu (k:=k) (f:=.no) (j:=.i64) (show (l.map en)[i]? = some (qf.agg cs) by rw [List.getElem?_map,List.getElem?_eq_getElem hi,Option.map_some,ec]) (by simpa [qf.cells] using s1)
   simpa [qf.cells] using this
  have hd:z.drop k = []:=List.drop_eq_nil_of_le (by omega)
  have hc:Go.AE.cut cs 0 (some k) = some (.agg cs):=by
   rw [qjM (by omega),List.drop_zero,List.take_of_length_le (by omega),s4]
  have hB:Nat.ble H.length G.length = true:=qas hG
  have hln:(L0 ++ (l.take i).map fun v=>ah ++ tf v).length ≤ 100000:=by simp;omega
  obtain ⟨Vd,Vw,_,_⟩:=hSL.facts
  have hSL1:=hSL.more [qq.cells cs]
  obtain ⟨G',hap,hS',hl',hk'⟩:=hSL1.app hln H.length (ah ++ u)
  have hSt:=qAn H.length (ah ++ u) (G ++ [qq.cells cs])
  rw [List.append_assoc] at hS'
  have hll:(G ++ [qq.cells cs]).length = G.length + 1:=by simp
  simp only [List.append_assoc,List.cons_append,List.nil_append,hll] at hap hSt
  rw [hll] at hS' hl' hk'
  simp only [qdq,sT.1,sC.1,sTA.1,sCA.1,qe,qj,qk,Src.isTmp,qg,Src.hangs,qn.isT,qi,qd,Nat.testBit,bne,simprocAttr,-Int.reduceNatCast',List.length_map,qa6,qT,qV,qak,qU,qaN,qag,qaY,qaG,qaB,ht,e0,e1,e3,e11,e12,e13,c1,hx,hzd,hc,s1,s2,s4,hd,hz,hB,hq,hle,if_true,Vd,Vw,hSt,hap,w] at he
  subst he
  refine .inl ⟨_,d - 1,rfl,by omega,_,i + 1,G',.sl (G.length + 1 + 1) 0 ((L0 ++ (l.take i).map fun v=>ah ++ tf v).length + 1) ((L0 ++ (l.take i).map fun v=>ah ++ tf v).length + 1) 1,rfl,by simp only [qh,ht],?_,?_,?_,?_,?_,?_,by omega,by rw [htk];exact hS',by omega,fun j hj hn=>?_,.inr fun id hid=>by cases hid;omega⟩
  rotate_right
  ·have hVj:qdt V ≠ some j:=fun e=>by
    rcases hV with rfl | hV
    ·exact hn e
    ·have:=hV j e;omega
   rw [hk' j (by omega) hVj,List.getElem?_append_left (by omega)]
   exact hkp j hj hn
  all_goals simp only [sT.1,sC.1,sTA.1,sCA.1,qe,qj,qk,Src.isTmp,qg,Src.hangs,qn.isT,qi,qd,Nat.testBit,bne,simprocAttr,-Int.reduceNatCast',qaN,ht,e1,e3,e11,e12,w,List.length_append,List.length_map]
 ·have c1:ilt (i:Int) (l.length:Int) = false:=qcJ (by omega)
  rw [List.take_of_length_le hi] at hSL
  simp only [qdq,sT.1,sC.1,sTA.1,sCA.1,qe,qj,qk,Src.isTmp,qg,Src.hangs,qn.isT,qi,qd,Nat.testBit,bne,simprocAttr,-Int.reduceNatCast',List.length_map,ht,e12,e13,c1] at he
  subst he
  exact .inr ⟨_,_,rfl,by simp,_,G,V,rfl,by simp only [qh,ht],by simp only [sT.1,sC.1,sTA.1,sCA.1,qe,qj,qk,Src.isTmp,qg,Src.hangs,qn.isT,qi,qd,Nat.testBit,bne,simprocAttr,-Int.reduceNatCast',ht,e0],hSL,hG,hkp,hV,rfl⟩
theorem qjZ (n:Nat) (v:qf) (G:List qq):leave n (.ret v) G false = (.ret v,bif v.lower n then G.take n else G,false):=by
 cases hl:v.lower n <;> simp [leave,hl]
theorem Ln.leave {h G:List qq} {V V':qf} {L:List Str} (hS:SL G L V') (hG:h.length ≤ G.length) (hk:∀i,i < h.length→qdt V ≠ some i→G[i]? = h[i]?) (hV:V' = V∨∀id,qdt V' = some id→h.length ≤ id):Ln h V L (some (Go.AE.leave h.length (.ret V') G false)):=by
 rw [qjZ]
 cases hl:V'.lower h.length with
 | false=>exact ⟨G,V',rfl,hS,hG,hk,hV⟩
 | true=>
  refine ⟨G.take h.length,V',rfl,hS.keep fun id hi=>?_,by simp;omega,fun i hi hn=>?_,hV⟩
  ·have:id < h.length:=by
    rcases hS with ⟨_,rfl⟩ | ⟨id',rfl,_,_⟩
    ·cases hi
    ·cases hi
     simpa [qf.lower] using hl
   rw [List.getElem?_take_of_lt this]
  ·rw [List.getElem?_take_of_lt hi];exact hk i hi hn
theorem qdT (hX:X F = none) (hF:T.get F = some (qv9 k z)) (hz:z.length = k) (hzd:z.map qf.dim = z) (hs:∀v ∈ l,Shp k (en v)) (hl:l.length ≤ 1000) (hg:∀v ∈ l,∀h,Wd (.fn g [] []) [en v] h = some (.ret (.str (tf v)),h,false)) (hlen:∀v ∈ l,ah.length + (tf v).length ≤ qo) {h:List qq} {V:qf} {L:List Str} (hL:L.length ≤ 50000) (hS:SL h L V) :
  Ln h V (L ++ l.map fun v=>ah ++ tf v) (Wd (.fn F [] []) [V,.str ah,.lst (l.map en) .no,.fn g [] []] h):=by
 have loop:=qnR (H:=h) (V0:=V) (L0:=L) hz hzd hs hl hg hlen hL
 obtain ⟨Vd,Vw,_,_⟩:=hS.facts
 generalize hw:Wd _ _ h = w
 rw [qt hX hF] at hw
 simp only [qv9,sT.1,sC.1,sTA.1,sCA.1,qe,qj,qk,Src.isTmp,qg,Src.hangs,qn.isT,qi,qd,Nat.testBit,bne,simprocAttr,-Int.reduceNatCast',List.length_map,Vd,Vw] at hw
 generalize hr:qx h.length Wd (.loop (qdq k z)) _ = r at hw
 obtain ⟨x,st',rfl,tt,G,V',rfl,ht,e0,hS',hG,hk,hV,rfl⟩:=qaT hr (loop l.length _ ⟨_,0,h,V,rfl,by simp only [sT.1,sC.1,sTA.1,sCA.1,qe,qj,qk,Src.isTmp,qg,Src.hangs,qn.isT,qi,qd,Nat.testBit,bne,simprocAttr,-Int.reduceNatCast'],by simp only [sT.1,sC.1,sTA.1,sCA.1,qe,qj,qk,Src.isTmp,qg,Src.hangs,qn.isT,qi,qd,Nat.testBit,bne,simprocAttr,-Int.reduceNatCast',Vd],by simp only [sT.1,sC.1,sTA.1,sCA.1,qe,qj,qk,Src.isTmp,qg,Src.hangs,qn.isT,qi,qd,Nat.testBit,bne,simprocAttr,-Int.reduceNatCast'],by simp only [sT.1,sC.1,sTA.1,sCA.1,qe,qj,qk,Src.isTmp,qg,Src.hangs,qn.isT,qi,qd,Nat.testBit,bne,simprocAttr,-Int.reduceNatCast'],by simp only [sT.1,sC.1,sTA.1,sCA.1,qe,qj,qk,Src.isTmp,qg,Src.hangs,qn.isT,qi,qd,Nat.testBit,bne,simprocAttr,-Int.reduceNatCast'],by simp only [sT.1,sC.1,sTA.1,sCA.1,qe,qj,qk,Src.isTmp,qg,Src.hangs,qn.isT,qi,qd,Nat.testBit,bne,simprocAttr,-Int.reduceNatCast'],by simp only [sT.1,sC.1,sTA.1,sCA.1,qe,qj,qk,Src.isTmp,qg,Src.hangs,qn.isT,qi,qd,Nat.testBit,bne,simprocAttr,-Int.reduceNatCast',Int.natCast_zero],by omega,by simpa using hS,Nat.le_refl _,fun _ _ _=>rfl,.inl rfl⟩)
 obtain ⟨Vd',Vw',_,_⟩:=hS'.facts
 simp only [sT.1,sC.1,sTA.1,sCA.1,qe,qj,qk,Src.isTmp,qg,Src.hangs,qn.isT,qi,qd,Nat.testBit,bne,simprocAttr,-Int.reduceNatCast',ht,e0,Vd',Vw'] at hw
 subst hw
 exact Ln.leave hS' hG hk hV
def qm6 (E:FuncId):qw:=⟨39,[.tmp 10],(.seq (.reg [ao 10 (.asg (.c (.lst [] .full)))]) (.seq (.seq (.reg [ao 11 (.mov (.t 3)),ao 12 (.len false (.t 11)),ao 13 (.bin .eql (.t 12) (.c (.int .i64 0)))]) (.cond (.t 13) (.seq (.reg [ao 14 (.mov (.t 0)),ao 15 (.mov (.t 1)),ao 16 (.mov (.t 2)),ao 17 (.bin .add (.t 15) (.t 16)),ao 18 (.bin .add (.t 17) (.c (.str [32,123,125]))),ao 19 (.hx (.lit 1 [(.str [])] 1 [0]) [(.t 18)]),ao 20 (.hx (.app 1) [(.t 14),(.t 19)]),ao 10 (.asg (.t 20))]) (.ret)) (.skip)))
 (.seq (.reg [ao 21 (.mov (.t 0)),ao 22 (.mov (.t 1)),ao 23 (.mov (.t 2)),ao 24 (.bin .add (.t 22) (.t 23)),ao 25 (.bin .add (.t 24) (.c (.str [32,123]))),ao 26 (.hx (.lit 1 [(.str [])] 1 [0]) [(.t 25)]),ao 27 (.hx (.app 1) [(.t 21),(.t 26)]),ao 0 (.asg (.t 27))])
 (.seq (.reg [ao 28 (.mov (.t 0)),ao 29 (.mov (.t 1)),ao 30 (.bin .add (.t 29) (.c (.str [32,32]))),ao 31 (.mov (.t 3)),ao 32 (.mov (.t 4)),ao 33 (.call (.c (.fn E [] [])) [(.t 28),(.t 30),(.t 31),(.t 32)]),ao 0 (.asg (.t 33))])
 (.seq (.reg [ao 34 (.mov (.t 0)),ao 35 (.mov (.t 1)),ao 36 (.bin .add (.t 35) (.c (.str [125]))),ao 37 (.hx (.lit 1 [(.str [])] 1 [0]) [(.t 36)]),ao 38 (.hx (.app 1) [(.t 34),(.t 37)]),ao 10 (.asg (.t 38))]) (.ret))))))⟩
def qbi (ah hd:Str) (ls:List Str):List Str:=bif ls.isEmpty then [ah ++ (hd ++ [32,123,125])] else (ah ++ (hd ++ [32,123])) :: (ls.map (fun l=>ah ++ ([32,32] ++ l)) ++ [ah ++ [125]])
set_option maxHeartbeats 1000000 in
theorem qjG {B:FuncId} {hd:Str} (hXB:X B = none) (hB:T.get B = some (qm6 F)) (hX:X F = none) (hF:T.get F = some (qv9 k z)) (hz:z.length = k) (hzd:z.map qf.dim = z) (hs:∀v ∈ l,Shp k (en v)) (hl:l.length ≤ 1000) (hg:∀v ∈ l,∀h,Wd (.fn g [] []) [en v] h = some (.ret (.str (tf v)),h,false)) (hlen:∀v ∈ l,ah.length + (tf v).length ≤ 500000000) (hh:ah.length + hd.length ≤ 500000000) {h:List qq} {V:qf} {L:List Str} (hL:L.length ≤ 40000) (hS:SL h L V) :
  Ln h V (L ++ qbi ah hd (l.map tf)) (Wd (.fn B [] []) [V,.str ah,.str hd,.lst (l.map en) .no,.fn g [] []] h):=by
 obtain ⟨Vd,Vw,Vs,_⟩:=hS.facts
 have q1:ah.length + hd.length ≤ qo:=by unfold qo;omega
 have q2:∀n,n ≤ 10→ah.length + (hd.length + n) ≤ qo:=fun n hn=>by unfold qo;omega
 have q3:∀n,n ≤ 10→ah.length + hd.length + n ≤ qo:=fun n hn=>by unfold qo;omega
 have q4:∀n,n ≤ 10→ah.length + n ≤ qo:=fun n hn=>by unfold qo;omega
 have HX:=fun u g=>qAn h.length u g
 generalize hw:Wd _ _ h = w
 rw [qt hXB hB] at hw
 cases l with
 | nil=>
  have hL':L.length ≤ 100000:=by omega
  obtain ⟨G',hap,hS',hl',hk'⟩:=hS.app hL' h.length (ah ++ (hd ++ [32,123,125]))
  simp only [qm6,sT.1,sC.1,sTA.1,sCA.1,qe,qj,qk,Src.isTmp,qg,Src.hangs,qn.isT,qi,qd,Nat.testBit,bne,simprocAttr,-Int.reduceNatCast',List.length_map,List.map_nil,List.map_cons,qa6,qT,qV,qak,qU,qaN,qag,qaY,qaG,qaB,Vd,Vw,q1,q2,q3,if_true,List.length_nil,List.length_append,List.length_cons,List.append_assoc,cc0,HX,hap] at hw
  subst hw
  exact Ln.leave (by simpa [qbi] using hS') (by omega) hk' (.inr fun id hi=>by cases hi;omega)
 | cons v l=>
  have c0:(((l.length + 1:Nat):Int) == 0) = false:=by rw [beq_eq_false_iff_ne];omega
  obtain ⟨G1,hap,hS1,hl1,hk1⟩:=hS.app (by omega) h.length (ah ++ (hd ++ [32,123]))
  have hE:=qdT (l:=v :: l) (ah:=ah ++ [32,32]) hX hF hz hzd hs hl hg (fun v hv=>by have:=hlen v hv;simp;unfold qo;omega) (by simp;omega) hS1
  obtain ⟨G2,V2,hE,hS2,hl2,hk2,hV2⟩:=hE
  rw [show (v :: l).map en = en v :: l.map en from rfl] at hE
  obtain ⟨Vd2,Vw2,_,_⟩:=hS2.facts
  obtain ⟨G3,hap3,hS3,hl3,hk3⟩:=hS2.app (by simp at hl ⊢;omega) h.length (ah ++ [125])
  have hst:=fun u=>qAn h.length u G2
  simp only [qm6,sT.1,sC.1,sTA.1,sCA.1,qe,qj,qk,Src.isTmp,qg,Src.hangs,qn.isT,qi,qd,Nat.testBit,bne,simprocAttr,-Int.reduceNatCast',List.length_map,List.map_nil,List.map_cons,qa6,qT,qV,qak,qU,qaN,qag,qaY,qaG,qaB,Vd,Vw,Vd2,Vw2,q1,q2,q3,q4,if_true,c0,List.length_nil,List.length_append,List.length_cons,List.append_assoc,HX,hap,hE,hst,hap3] at hw
  subst hw
  have hid:∀id,qdt V2 = some id→h.length ≤ id:=fun id hi=>by
   rcases hV2 with rfl | hV2
   ·cases hi;omega
   ·have:=hV2 id hi;omega
  refine Ln.leave (h:=h) (G:=G3) (V:=V) (by simpa [qbi,Function.comp_def] using hS3) (by omega) (fun i hi hn=>?_) (.inr fun id hi=>by cases hi;omega)
  rw [hk3 i (by omega) (fun e=>by have:=hid i e;omega),hk2 i (by omega) (fun e=>by cases e;omega),hk1 i hi hn]
end
end Go.Proofs.YtkmlapholimbcaaGreatDoor.AE
namespace Go.Proofs.YtkmlapholimbcaaGreatDoor.AE
open Go.AE
inductive Tp where
 | mk (k:Int) (l:List Tp)
def Tp.enc:Tp→List qf
 | .mk k l=>[.int .i64 k,.lst (l.map fun v=>.agg v.enc) .no]
def tpV (v:Tp):qf:=.agg v.enc
theorem qa9 (k:Int) (l:List Tp):tpV (.mk k l) = .agg [.int .i64 k,.lst (l.map tpV) .no]:=by rw [tpV,Tp.enc];rfl
def tyB:Nat→Tp→Bool
 | 0,.mk k l=>(k == 0 || (k == 1 || k == 2)) && l.isEmpty
 | d + 1,.mk k l=>((k == 0 || (k == 1 || k == 2)) && l.isEmpty) || (k == 3 && ((decide (1 ≤ l.length) && decide (l.length ≤ 4)) && l.all (tyB d)))
theorem qpY (t:List qf) (f:FuncId) (a b:List qn):pureV t (.mkF f a b) = some (.fn f (a.map (ev t)) (b.map (ev t))):=rfl
theorem qz0 {d:Nat} (hd:d ≤ 3) {v:Tp} (hy:∀g,Wd (.fn 135 [] []) [tpV v,.int .i64 (d:Nat)] g = some (.ret (.bool (tyB d v)),g,false)) (g:List qq) (R:Nat) (hR:R < g.length) (hr:g[R]? = some (.cells [.int .i64 (d + 1:Nat)])) :
  Wd (.fn 151 [] [.ptr R 0]) [tpV v] g = some (.ret (.bool (tyB d v)),g,false):=by
 generalize tyB d v = b at *
 obtain ⟨k,l⟩:=v
 rw [qa9] at *
 have w1:IntKind.i64.wrap (((d + 1:Nat):Int) - 1) = ((d:Nat):Int):=by rw [qbG (by omega) (by omega)];omega
 rw [qt rfl (show T.get 151 = some qAl by kernel_rfl)]
 simp only [qAl,sT.1,sC.1,qe,qd,Nat.testBit,simprocAttr,-Int.reduceNatCast',hR,hr,w1,hy]
set_option maxHeartbeats 1000000 in
theorem qmE {d:Nat} (hd:d ≤ 3) {l:List Tp} (hy:∀x ∈ l,∀g,Wd (.fn 135 [] []) [tpV x,.int .i64 (d:Nat)] g = some (.ret (.bool (tyB d x)),g,false)) (h:List qq) (R:Nat) (hR:R < h.length) (hr:h[R]? = some (.cells [.int .i64 (d + 1:Nat)])) :
  Wd (.fn 150 [] []) [.lst (l.map tpV) .no,.fn 151 [] [.ptr R 0]] h = some (.ret (.bool ((decide (1 ≤ l.length) && decide (l.length ≤ 4)) && l.all (tyB d))),h,false):=by
 have loop:l.length ≤ 4→∀k st,(∃(tt:List qf) (i:Nat) (junk:List qq),st = ⟨tt,h ++ junk,false⟩∧tt.length = 26∧lkp tt 1 = .fn 151 [] [.ptr R 0]∧lkp tt 15 = .lst (l.map tpV) .no∧lkp tt 16 = .int .i64 (l.length:Nat)∧lkp tt 17 = .int .i64 (i:Nat)∧i + k = l.length∧l.all (tyB d) = (l.drop i).all (tyB d))→
   ∃x st',qx h.length Wd (.loop qfR) st = some (x,st')∧(∃(tt:List qf) (junk:List qq),st' = ⟨tt,h ++ junk,false⟩∧tt.length = 26∧((x = .exit 0∧l.all (tyB d) = true)∨(x = .ret∧lkp tt 4 = .bool false∧l.all (tyB d) = false))):=by
  intro h4
  refine qD _ (fun x st'=>∃(tt:List qf) (junk:List qq),st' = ⟨tt,h ++ junk,false⟩∧tt.length = 26∧((x = .exit 0∧l.all (tyB d) = true)∨(x = .ret∧lkp tt 4 = .bool false∧l.all (tyB d) = false))) ?_
  rintro k st ⟨tt,i,junk,rfl,ht,e1,e15,e16,e17,hik,hall⟩
  generalize he:qx h.length Wd qfR _ = r
  rcases Nat.lt_or_ge i l.length with hi | hi
  ·have c1:ilt (i:Int) (l.length:Int) = true:=qcK (by omega)
   have w:=qE (n:=i) (by omega)
   have hyi:=hy _ (List.getElem_mem hi)
   have hlen:(h ++ junk).length = h.length + junk.length:=by simp
   have h1':=qz0 hd hyi (h ++ (junk ++ [.cells l[i].enc])) R (by simp;omega) (by rw [List.getElem?_append_left hR,hr])
   have hg:(l.map tpV)[i]? = some (tpV l[i]):=by rw [List.getElem?_map,List.getElem?_eq_getElem hi];rfl
   rw [List.drop_eq_getElem_cons hi,List.all_cons] at hall
   have hb1:Nat.ble h.length (h.length + junk.length) = true:=qas (by omega)
   generalize l[i] = v at h1' hg hall
   cases hb:tyB d v <;> rw [hb] at hall h1' <;> obtain ⟨K,L⟩:=v <;> rw [qa9] at h1' hg <;> rw [Tp.enc] at h1' <;> change Wd _ _ (h ++ (junk ++ [.cells [.int .i64 K,.lst (L.map tpV) .no]])) = _ at h1' <;> have hx:qa3 2 (.lst (l.map tpV) .no) (.int .i64 (i:Nat)) = some (.iptr [.int .i64 K,.lst (L.map tpV) .no] 0):=qu hg rfl
   ·rw [Bool.false_and] at hall
    simp only [qfR,sT.1,sC.1,qe,qd,Nat.testBit,simprocAttr,-Int.reduceNatCast',ht,e1,e15,e16,e17,c1,w,hx,hlen,hb1,h1',Bool.true_or,List.append_assoc] at he
    subst he
    refine .inr ⟨_,_,rfl,by simp,_,junk ++ [.cells [.int .i64 K,.lst (L.map tpV) .no]],rfl,by simp only [qh,ht],.inr ⟨rfl,?_,hall⟩⟩
    simp only [sT.1,sC.1,qe,qd,Nat.testBit,simprocAttr,-Int.reduceNatCast',ht]
   ·rw [Bool.true_and] at hall
    simp only [qfR,sT.1,sC.1,qe,qd,Nat.testBit,simprocAttr,-Int.reduceNatCast',ht,e1,e15,e16,e17,c1,w,hx,hlen,hb1,h1',Bool.true_or,List.append_assoc] at he
    subst he
    refine .inl ⟨_,k - 1,rfl,by omega,_,i + 1,junk ++ [.cells [.int .i64 K,.lst (L.map tpV) .no]],rfl,by simp only [qh,ht],?_,?_,?_,?_,by omega,hall⟩
    all_goals simp only [sT.1,sC.1,qe,qd,Nat.testBit,simprocAttr,-Int.reduceNatCast',ht,e1,e15,e16]
  ·have c1:ilt (i:Int) (l.length:Int) = false:=qcJ (by omega)
   simp only [qfR,sT.1,sC.1,qe,qd,Nat.testBit,simprocAttr,-Int.reduceNatCast',ht,e16,e17,c1] at he
   subst he
   rw [List.drop_eq_nil_of_le hi] at hall
   exact .inr ⟨_,_,rfl,by simp,_,junk,rfl,by simp only [qh,ht],.inl ⟨rfl,hall⟩⟩
 generalize hw:Wd _ _ h = w
 rw [qt rfl (show T.get 150 = some qyx by kernel_rfl)] at hw
 by_cases h14:1 ≤ l.length∧l.length ≤ 4
 ·have d1:ilt (l.length:Int) 1 = false:=qcJ (by omega)
  have d2:ilt 4 (l.length:Int) = false:=qcJ (by omega)
  simp only [qyx,sT.1,sC.1,qe,qd,Nat.testBit,simprocAttr,-Int.reduceNatCast',List.length_map,d1,d2] at hw
  generalize hr:qx h.length Wd (.loop qfR) _ = r at hw
  obtain ⟨x,st',rfl,tt,junk,rfl,ht,⟨rfl,ha⟩ | ⟨rfl,e4,ha⟩⟩:=qaT hr (loop h14.2 l.length _ ⟨_,0,[],by rw [List.append_nil],by simp only [sT.1,sC.1,qe,qd,Nat.testBit,simprocAttr,-Int.reduceNatCast'],by simp only [sT.1,sC.1,qe,qd,Nat.testBit,simprocAttr,-Int.reduceNatCast'],by simp only [sT.1,sC.1,qe,qd,Nat.testBit,simprocAttr,-Int.reduceNatCast'],by simp only [sT.1,sC.1,qe,qd,Nat.testBit,simprocAttr,-Int.reduceNatCast'],by simp only [sT.1,sC.1,qe,qd,Nat.testBit,simprocAttr,-Int.reduceNatCast',Int.natCast_zero],by omega,rfl⟩)
  ·simp only [sT.1,sC.1,qe,qd,Nat.testBit,simprocAttr,-Int.reduceNatCast',ht] at hw
   rw [ha,decide_eq_true h14.1,decide_eq_true h14.2]
   exact hw.symm
  ·simp only [sT.1,sC.1,qe,qd,Nat.testBit,simprocAttr,-Int.reduceNatCast',ht,e4] at hw
   rw [ha,Bool.and_false]
   exact hw.symm
 ·have d1:(ilt (l.length:Int) 1 || ilt 4 (l.length:Int)) = true:=by rw [qaj,qaj];simp;omega
  have d2:(decide (1 ≤ l.length) && decide (l.length ≤ 4)) = false:=by
   rw [Bool.and_eq_false_iff,decide_eq_false_iff_not,decide_eq_false_iff_not]
   omega
  simp only [qyx,sT.1,sC.1,qe,qd,Nat.testBit,simprocAttr,-Int.reduceNatCast',List.length_map,d1] at hw
  rw [d2,Bool.false_and]
  exact hw.symm
theorem qpo {α:Type} (l:List α):((l.length:Int) == 0) = l.isEmpty:=by
 cases l with
 | nil=>rfl
 | cons a l=>rw [List.isEmpty_cons,beq_eq_false_iff_ne,List.length_cons];omega
set_option maxHeartbeats 1000000 in
theorem qDj:∀d,d ≤ 3→∀(v:Tp) g,Wd (.fn 135 [] []) [tpV v,.int .i64 (d:Nat)] g = some (.ret (.bool (tyB d v)),g,false):=by
 have a3:∀x:Int,(x == 3) = true→((x == 0) = false∧(x == 1) = false∧(x == 2) = false):=fun x h=>by
  simp only [beq_iff_eq,beq_eq_false_iff_ne] at *
  omega
 intro d
 induction d with
 | zero=>
  rintro _ ⟨k,l⟩ g
  have d1:ilt 0 ((0:Nat):Int) = false:=Eq.trans rfl rfl
  rw [tyB,qa9]
  rw [qt rfl (show T.get 135 = some qvJ by kernel_rfl)]
  cases h0:(k == 0) <;> cases h1:(k == 1) <;> cases h2:(k == 2) <;> cases h3:(k == 3) <;> simp only [qvJ,sT.1,sC.1,qe,qd,Nat.testBit,simprocAttr,-Int.reduceNatCast',List.length_map,qpo,h0,h1,h2,h3,d1,cond_true,cond_false,Bool.or_true,Bool.or_false,Bool.true_or,Bool.true_and,Bool.false_and]
 | succ d ih=>
  rintro hd ⟨k,l⟩ g
  have d1:ilt 0 ((d + 1:Nat):Int) = true:=qcK (by omega)
  have hit:=qmE (d:=d) (l:=l) (by omega) (fun x _=>ih (by omega) x) (g ++ [.cells [.int .i64 k,.lst (l.map tpV) .no],.cells [.int .i64 (d + 1:Nat)]]) (g.length + 1) (by simp) (by rw [qcY];rfl)
  rw [tyB,qa9]
  rw [qt rfl (show T.get 135 = some qvJ by kernel_rfl)]
  cases h3:(k == 3) with
  | true=>
   obtain ⟨h0,h1,h2⟩:=a3 k h3
   simp only [qvJ,sT.1,sC.1,qe,qd,Nat.testBit,simprocAttr,-Int.reduceNatCast',h0,h1,h2,h3,hit,d1,qpY,qbL,qcY,cond_true,cond_false,Bool.or_false,Bool.false_or,Bool.true_and,Bool.false_and]
  | false=>
   cases h0:(k == 0) <;> cases h1:(k == 1) <;> cases h2:(k == 2) <;> simp only [qvJ,sT.1,sC.1,qe,qd,Nat.testBit,simprocAttr,-Int.reduceNatCast',List.length_map,qpo,h0,h1,h2,h3,d1,cond_true,cond_false,Bool.or_true,Bool.or_false,Bool.true_or,Bool.true_and,Bool.false_and]
theorem qe3 (v:Tp) (g:List qq):Wd (.fn 100 [] []) [tpV v] g = some (.ret (.bool (tyB 3 v)),g,false):=by
 have h:=qDj 3 (by omega) v (g ++ [.cells v.enc])
 have c3:((3:Nat):Int) = 3:=by kernel_rfl
 rw [c3] at h
 generalize tyB 3 v = b at *
 obtain ⟨k,l⟩:=v
 rw [Tp.enc] at h
 change Wd _ _ (g ++ [.cells [.int .i64 k,.lst (l.map tpV) .no]]) = _ at h
 rw [qa9] at h ⊢
 rw [qt rfl (show T.get 100 = some qz7 by kernel_rfl)]
 simp only [qz7,sT.1,sC.1,qe,qd,Nat.testBit,simprocAttr,-Int.reduceNatCast',h]
end Go.Proofs.YtkmlapholimbcaaGreatDoor.AE
namespace Go.Proofs.YtkmlapholimbcaaGreatDoor.AE
open Go.AE
def qrg (l:List Str):Str:=bif l.length == 1 then 40 :: (l.headD [] ++ [44,41]) else 40 :: (Lib.join l [44,32] ++ [41])
def ttx:Nat→Tp→Str
 | 0,.mk k _=>bif k == 0 then [105,110,116] else bif k == 1 then [98,111,111,108] else [115,121,109]
 | d + 1,.mk k l=>bif k == 0 then [105,110,116] else bif k == 1 then [98,111,111,108] else bif k == 2 then [115,121,109] else qrg (l.map (ttx d))
theorem qgz (l:List Str):qeF (l.map qf.str) = some l:=by
 induction l with
 | nil=>rfl
 | cons a l ih=>rw [List.map_cons,qeF,ih];rfl
theorem mkS (base n:Nat) (hn:n ≤ 100000) (h:List qq):hop base (.mk 1 [.str []]) [.int .i64 (n:Nat),.int .i64 (n:Nat)] h = some (.sl h.length 0 n n 0,h ++ [.cells (List.replicate n (.str []))],false):=by
 simp only [hop]
 rw [if_pos ⟨by omega,by omega,by omega,rfl⟩,Int.toNat_natCast]
 have e:((List.replicate n [qf.str []]).flatten).map qf.dim = List.replicate n (.str []):=by
  induction n with
  | zero=>rfl
  | succ n ih=>rw [List.replicate_succ,List.flatten_cons,List.map_append,ih (by omega),List.replicate_succ];rfl
 rw [e]
theorem qgQ (sep:Str):∀(l:List Str) (b:Nat),(∀x ∈ l,x.length ≤ b)→(Lib.join l sep).length ≤ l.length * (b + sep.length):=by
 intro l
 induction l with
 | nil=>intro b _;rw [Lib.join_nil];simp
 | cons a l ih=>
  intro b hb
  have h1:=hb a (by simp)
  have h2:=ih b fun x hx=>hb x (by simp [hx])
  rw [List.length_cons,Nat.succ_mul]
  cases l with
  | nil=>rw [Lib.join_one];simp;omega
  | cons c l=>
   rw [show Lib.join (a :: c :: l) sep = a ++ (sep ++ Lib.join (c :: l) sep) by rw [Lib.join_cons,Lib.join_cons];simp [Lib.joinTail],List.length_append,List.length_append]
   generalize (c :: l).length * (b + sep.length) = m at *
   omega
theorem quq {l:List Str} {b:Nat} (h4:l.length ≤ 4) (hb:∀x ∈ l,x.length ≤ b):(qrg l).length ≤ 4 * b + 10:=by
 unfold qrg
 cases hc:l.length == 1 with
 | true=>
  cases l with
  | nil=>simp at hc
  | cons a l=>have:=hb a (by simp);simp only [cond_true,List.headD_cons,List.length_cons,List.length_append,List.length_nil];omega
 | false=>
  have h:_ ≤ l.length * (b + 2):=qgQ [44,32] l b hb
  have:l.length * (b + 2) ≤ 4 * (b + 2):=Nat.mul_le_mul_right _ h4
  simp only [cond_false,List.length_cons,List.length_append,List.length_nil]
  omega
theorem qy3 {G:List qq} {id:Nat} {l:List Str} (hG:G[id]? = some (.cells (l.map qf.str))) (h1:(Lib.join l [44,32]).length ≤ qo) (h2:l.length ≤ 4):Wd (.fn 30 [] []) [.sl id 0 l.length l.length 0,.str [44,32]] G = some (.ret (.str (Lib.join l [44,32])),G,false):=by
 have hx:jnX Wd [.sl id 0 l.length l.length 0,.str [44,32]] G = some (.ret (.str (Lib.join l [44,32])),G,false):=by
  have a:Nat.ble (Lib.join l [44,32]).length qo = true:=qas h1
  have b:Nat.ble l.length qo = true:=qas (by unfold qo;omega)
  have c:(l.map qf.str).take l.length = l.map qf.str:=List.take_of_length_le (by simp)
  have d:Nat.beq l.length l.length = true:=Nat.beq_refl _
  simp only [jnX,hG,c,qgz,a,b,d,Bool.and_self,cond_true]
 exact (qin qg8 (show X 30 = some jnX by kernel_rfl)).trans hx
theorem qrh {G:List qq} {id:Nat} {l:List Str} (hG:G[id]? = some (.cells (l.map qf.str))) (h4:l.length ≤ 4) (hb:∀x ∈ l,x.length ≤ 5000):Wd (.fn 152 [] []) [.sl id 0 l.length l.length 0] G = some (.ret (.str (qrg l)),G,false):=by
 have hid:=(List.getElem?_eq_some_iff.1 hG).1
 rw [qt rfl (show T.get 152 = some qyy by kernel_rfl)]
 by_cases h1:l.length = 1
 ·obtain ⟨x,rfl⟩ :∃x,l = [x]:=List.length_eq_one_iff.1 h1
  have hx:=hb x (by simp)
  have q1:1 + x.length ≤ qo:=by unfold qo;omega
  have q2:1 + x.length + 2 ≤ qo:=by unfold qo;omega
  have q3:x.length + 1 ≤ qo:=by unfold qo;omega
  have q4:x.length + 1 + 2 ≤ qo:=by unfold qo;omega
  have q5:x.length + 3 ≤ qo:=by unfold qo;omega
  have z1:(((1:Nat):Int) == 1) = true:=by kernel_rfl
  have hix:qa3 1 (.sl id 0 1 1 0) (.int .i64 0) = some (.ptr id 0):=by rw [qpe];rfl
  simp only [List.map_cons,List.map_nil] at hG
  simp only [qyy,sT.1,sC.1,qe,qd,Nat.testBit,simprocAttr,-Int.reduceNatCast',qpp,qaN,qag,z1,hix,hG,hid,q1,q2,q3,q4,q5,if_true,qrg,List.headD_cons]
 ·have c1:((l.length:Int) == 1) = false:=by rw [beq_eq_false_iff_ne];omega
  have c2:(l.length == 1) = false:=by rw [beq_eq_false_iff_ne];exact h1
  have hj:_ ≤ l.length * (5000 + 2):=qgQ [44,32] l 5000 hb
  have:l.length * (5000 + 2) ≤ 4 * (5000 + 2):=Nat.mul_le_mul_right _ h4
  have hk:=qy3 hG (by unfold qo;omega) h4
  rw [qrg,c2,cond_false]
  generalize Lib.join l [44,32] = u at *
  have q1:1 + u.length ≤ qo:=by unfold qo;omega
  have q2:1 + u.length + 1 ≤ qo:=by unfold qo;omega
  have q3:u.length + 1 ≤ qo:=by unfold qo;omega
  have q4:u.length + 1 + 1 ≤ qo:=by unfold qo;omega
  have q5:u.length + 2 ≤ qo:=by unfold qo;omega
  simp only [qyy,sT.1,sC.1,qe,qd,Nat.testBit,simprocAttr,-Int.reduceNatCast',qpp,qaN,qag,c1,hk,q1,q2,q3,q4,q5,if_true]
theorem qwr {α:Type} (a:List α) (z v:α) (m:Nat):(a ++ List.replicate (m + 1) z).set a.length v = (a ++ [v]) ++ List.replicate m z:=by
 rw [List.set_append_right _ _ (Nat.le_refl _),Nat.sub_self,List.replicate_succ];simp
set_option maxHeartbeats 1000000 in
theorem qz2 {l:List Tp} {tf:Tp→Str} (hl:l.length ≤ 4) (hne:l ≠ []) (hy:∀x ∈ l,∀g,Wd (.fn 139 [] []) [tpV x] g = some (.ret (.str (tf x)),g,false)) (h:List qq):∃junk,Wd (.fn 153 [] []) [.lst (l.map tpV) .no,.fn 139 [] []] h = some (.ret (.sl h.length 0 l.length l.length 0),h ++ .cells (l.map fun x=>qf.str (tf x)) :: junk,false):=by
 have loop:∀k st,(∃(tt:List qf) (i:Nat) (junk:List qq),st = ⟨tt,h ++ .cells ((l.take i).map (fun x=>qf.str (tf x)) ++ List.replicate k (qf.str [])) :: junk,false⟩∧tt.length = 29∧lkp tt 1 = .fn 139 [] []∧lkp tt 5 = .sl h.length 0 l.length l.length 0∧lkp tt 14 = .lst (l.map tpV) .no∧lkp tt 15 = .int .i64 (l.length:Nat)∧lkp tt 16 = .int .i64 (i:Nat)∧i + k = l.length)→
   ∃x st',qx h.length Wd (.loop qgn) st = some (x,st')∧(∃(tt:List qf) (junk:List qq),st' = ⟨tt,h ++ .cells (l.map fun x=>qf.str (tf x)) :: junk,false⟩∧tt.length = 29∧lkp tt 5 = .sl h.length 0 l.length l.length 0∧x = .exit 0):=by
  refine qD _ (fun x st'=>∃(tt:List qf) (junk:List qq),st' = ⟨tt,h ++ .cells (l.map fun x=>qf.str (tf x)) :: junk,false⟩∧tt.length = 29∧lkp tt 5 = .sl h.length 0 l.length l.length 0∧x = .exit 0) ?_
  rintro k st ⟨tt,i,junk,rfl,ht,e1,e5,e14,e15,e16,hik⟩
  generalize he:qx h.length Wd qgn _ = r
  rcases Nat.lt_or_ge i l.length with hi | hi
  ·obtain ⟨k',rfl⟩ :∃k',k = k' + 1:=⟨k - 1,by omega⟩
   have c1:ilt (i:Int) (l.length:Int) = true:=qcK (by omega)
   have w:=qE (n:=i) (by omega)
   have htk:(l.take (i + 1)).map (fun x=>qf.str (tf x)) = (l.take i).map (fun x=>qf.str (tf x)) ++ [qf.str (tf l[i])]:=by rw [List.take_succ_eq_append_getElem hi,List.map_append];rfl
   have hsl:((l.take i).map (fun x=>qf.str (tf x)) ++ List.replicate (k' + 1) (qf.str [])).set i (qf.str (tf l[i])) = (l.take (i + 1)).map (fun x=>qf.str (tf x)) ++ List.replicate k' (qf.str []):=by
    have:=qwr ((l.take i).map fun x=>qf.str (tf x)) (qf.str []) (qf.str (tf l[i])) k'
    have hli:((l.take i).map fun x=>qf.str (tf x)).length = i:=by simp;omega
    rw [hli] at this
    rw [this,htk]
   have hil:i + 1 ≤ ((l.take i).map (fun x=>qf.str (tf x)) ++ List.replicate (k' + 1) (qf.str [])).length:=by simp;omega
   generalize (l.take i).map (fun x=>qf.str (tf x)) ++ List.replicate (k' + 1) (qf.str []) = row at *
   rw [List.set_eq_take_append_cons_drop,if_pos (by omega)] at hsl
   have hyi:=hy l[i] (List.getElem_mem hi)
   have hg:(l.map tpV)[i]? = some (tpV l[i]):=by rw [List.getElem?_map,List.getElem?_eq_getElem hi];rfl
   have hxs:qa3 1 (.sl h.length 0 l.length l.length 0) (.int .i64 (i:Nat)) = some (.ptr h.length (0 + i)):=by
    rw [qpe,if_pos ⟨by omega,by omega⟩];simp
   rw [Nat.zero_add] at hxs
   generalize tf l[i] = u at hyi hsl
   generalize l[i] = v at hyi hg
   obtain ⟨K,L⟩:=v
   rw [qa9] at hyi hg
   have hx:qa3 2 (.lst (l.map tpV) .no) (.int .i64 (i:Nat)) = some (.iptr [.int .i64 K,.lst (L.map tpV) .no] 0):=qu hg rfl
   have hlen:∀q:List qq,(h ++ qq.cells row :: q).length = h.length + (q.length + 1):=fun q=>by simp
   have hb1:Nat.ble h.length (h.length + (junk.length + 1)) = true:=qas (by omega)
   have hb2:Nat.ble h.length h.length = true:=qas (Nat.le_refl _)
   simp only [qgn,sT.1,sC.1,qe,qd,Nat.testBit,simprocAttr,-Int.reduceNatCast',ht,e1,e5,e14,e15,e16,c1,w,hx,hxs,hlen,hb1,hb2,hyi,hil,hsl,qaN,qag,Bool.true_or,List.append_assoc] at he
   subst he
   refine .inl ⟨_,k',rfl,by omega,_,i + 1,junk ++ [.cells [.int .i64 K,.lst (L.map tpV) .no]],rfl,by simp only [qh,ht],?_,?_,?_,?_,?_,by omega⟩
   all_goals simp only [sT.1,sC.1,qe,qd,Nat.testBit,simprocAttr,-Int.reduceNatCast',ht,e1,e5,e14,e15]
  ·have c1:ilt (i:Int) (l.length:Int) = false:=qcJ (by omega)
   obtain rfl:k = 0:=by omega
   rw [List.take_of_length_le hi,List.replicate_zero,List.append_nil] at he
   simp only [qgn,sT.1,sC.1,qe,qd,Nat.testBit,simprocAttr,-Int.reduceNatCast',ht,e15,e16,c1] at he
   subst he
   exact .inr ⟨_,_,rfl,by simp,_,junk,rfl,by simp only [qh,ht],by simp only [sT.1,sC.1,qe,qd,Nat.testBit,simprocAttr,-Int.reduceNatCast',ht,e5],rfl⟩
 have c0:((l.length:Int) == 0) = false:=by
  rw [qpo]
  cases l with
  | nil=>exact absurd rfl hne
  | cons a l=>rfl
 have hm:=mkS h.length l.length (by omega) h
 generalize hw:Wd _ _ h = w
 rw [qt rfl (show T.get 153 = some qAm by kernel_rfl)] at hw
 simp only [qAm,sT.1,sC.1,sTA.1,sCA.1,qe,qj,qk,Src.isTmp,qg,Src.hangs,qn.isT,qi,qd,Nat.testBit,bne,simprocAttr,-Int.reduceNatCast',qa6,qT,qV,qak,qU,qaN,qag,List.length_map,c0,hm] at hw
 generalize hr:qx h.length Wd (.loop qgn) _ = r at hw
 obtain ⟨x,st',rfl,tt,junk,rfl,ht,e5,rfl⟩:=qaT hr (loop l.length _ ⟨_,0,[],rfl,by simp only [sT.1,sC.1,sTA.1,sCA.1,qe,qj,qk,Src.isTmp,qg,Src.hangs,qn.isT,qi,qd,Nat.testBit,bne,simprocAttr,-Int.reduceNatCast'],by simp only [sT.1,sC.1,sTA.1,sCA.1,qe,qj,qk,Src.isTmp,qg,Src.hangs,qn.isT,qi,qd,Nat.testBit,bne,simprocAttr,-Int.reduceNatCast'],by simp only [sT.1,sC.1,sTA.1,sCA.1,qe,qj,qk,Src.isTmp,qg,Src.hangs,qn.isT,qi,qd,Nat.testBit,bne,simprocAttr,-Int.reduceNatCast',qaN],by simp only [sT.1,sC.1,sTA.1,sCA.1,qe,qj,qk,Src.isTmp,qg,Src.hangs,qn.isT,qi,qd,Nat.testBit,bne,simprocAttr,-Int.reduceNatCast'],by simp only [sT.1,sC.1,sTA.1,sCA.1,qe,qj,qk,Src.isTmp,qg,Src.hangs,qn.isT,qi,qd,Nat.testBit,bne,simprocAttr,-Int.reduceNatCast'],by simp only [sT.1,sC.1,sTA.1,sCA.1,qe,qj,qk,Src.isTmp,qg,Src.hangs,qn.isT,qi,qd,Nat.testBit,bne,simprocAttr,-Int.reduceNatCast',Int.natCast_zero],by omega⟩)
 have hb:Nat.blt h.length h.length = false:=by
  cases hb:Nat.blt h.length h.length with
  | false=>rfl
  | true=>exact absurd (Nat.blt_eq▸hb) (Nat.lt_irrefl _)
 simp only [sT.1,sC.1,sTA.1,sCA.1,qe,qj,qk,Src.isTmp,qg,Src.hangs,qn.isT,qi,qd,Nat.testBit,bne,simprocAttr,-Int.reduceNatCast',ht,e5,qaN,qag,qjZ,qaB,hb,cond_false] at hw
 exact ⟨junk,hw.symm⟩
theorem qjB:∀d,d ≤ 3→∀(v:Tp),tyB d v = true→(∀g,Wd (.fn 139 [] []) [tpV v] g = some (.ret (.str (ttx d v)),g,false))∧(ttx d v).length ≤ 8 ^ (d + 1):=by
 have a3:∀x:Int,(x == 3) = true→((x == 0) = false∧(x == 1) = false∧(x == 2) = false):=fun x h=>by
  simp only [beq_iff_eq,beq_eq_false_iff_ne] at *
  omega
 have leaf:∀(k:Int) (l:List Tp) (s:Str),(k == 0 || (k == 1 || k == 2)) = true→(s = bif k == 0 then [105,110,116] else bif k == 1 then [98,111,111,108] else [115,121,109])→(∀g,Wd (.fn 139 [] []) [tpV (.mk k l)] g = some (.ret (.str s),g,false))∧s.length ≤ 4:=by
  rintro k l s hk rfl
  refine ⟨fun g=>?_,by cases k == 0 <;> cases k == 1 <;> simp⟩
  rw [qa9,qt rfl (show T.get 139 = some qx9 by kernel_rfl)]
  cases h0:(k == 0) <;> cases h1:(k == 1) <;> cases h2:(k == 2) <;> rw [h0,h1,h2] at hk <;> first | cases hk;done | simp only [qx9,sT.1,sC.1,qe,qd,Nat.testBit,simprocAttr,-Int.reduceNatCast',h0,h1,h2,cond_true,cond_false]
 intro d
 induction d with
 | zero=>
  rintro _ ⟨k,l⟩ hv
  rw [tyB,Bool.and_eq_true] at hv
  obtain ⟨h1,h2⟩:=leaf k l _ hv.1 rfl
  exact ⟨h1,Nat.le_trans h2 (by omega)⟩
 | succ d ih=>
  rintro hd ⟨k,l⟩ hv
  have hp:8 ≤ 8 ^ (d + 1):=by
   have:=Nat.pow_le_pow_right (n:=8) (by omega) (show 1 ≤ d + 1 by omega)
   simpa using this
  rw [tyB] at hv
  cases h3:(k == 3) with
  | false=>
   rw [h3,Bool.false_and,Bool.or_false,Bool.and_eq_true] at hv
   obtain ⟨h1,h2⟩:=leaf k l (ttx (d + 1) (.mk k l)) hv.1 (by
    rw [ttx]
    cases h0:(k == 0) <;> cases h1:(k == 1) <;> cases h2:(k == 2) <;> simp_all)
   exact ⟨h1,Nat.le_trans h2 (by rw [Nat.pow_succ];omega)⟩
  | true=>
   obtain ⟨h0,h1,h2⟩:=a3 k h3
   simp only [h0,h1,h2,h3,Bool.or_self,Bool.false_and,Bool.false_or,Bool.true_and,Bool.and_eq_true,decide_eq_true_eq,List.all_eq_true] at hv
   obtain ⟨⟨l1,l4⟩,hall⟩:=hv
   have hb:∀x ∈ l.map (ttx d),x.length ≤ 8 ^ (d + 1):=fun x hx=>by
    obtain ⟨y,hy,rfl⟩:=List.mem_map.1 hx
    exact (ih (by omega) y (hall y hy)).2
   have hp3:8 ^ (d + 1) ≤ 512:=by
    have:=Nat.pow_le_pow_right (n:=8) (by omega) (show d + 1 ≤ 3 by omega)
    simpa using this
   have e:ttx (d + 1) (.mk k l) = qrg (l.map (ttx d)):=by rw [ttx,h0,h1,h2];rfl
   rw [e]
   refine ⟨fun g=>?_,Nat.le_trans (quq (by simpa using l4) hb) (by rw [Nat.pow_succ _ (d + 1)];omega)⟩
   have hE:=qz2 l4 (by rintro rfl;simp at l1) (fun x hx=>(ih (by omega) x (hall x hx)).1) (g ++ [.cells [.int .i64 k,.lst (l.map tpV) .no]])
   obtain ⟨junk,hE⟩:=hE
   have hT:=qrh (G:=(g ++ [.cells [.int .i64 k,.lst (l.map tpV) .no]]) ++ .cells (l.map fun x=>qf.str (ttx d x)) :: junk) (id:=(g ++ [qq.cells [.int .i64 k,.lst (l.map tpV) .no]]).length) (l:=l.map (ttx d)) (by rw [qbD,List.map_map];rfl) (by simpa using l4) (fun x hx=>Nat.le_trans (hb x hx) (by omega))
   rw [List.length_map] at hT
   have hgl:(g ++ [qq.cells [.int .i64 k,.lst (l.map tpV) .no]]).length = g.length + 1:=by simp
   rw [hgl] at hT hE
   simp only [List.append_assoc,List.cons_append,List.nil_append] at hT hE
   generalize qrg (l.map (ttx d)) = S at *
   rw [qa9,qt rfl (show T.get 139 = some qx9 by kernel_rfl)]
   simp only [qx9,sT.1,sC.1,qe,qd,Nat.testBit,simprocAttr,-Int.reduceNatCast',qaN,qag,h0,h1,h2,hE,hT,cond_true,cond_false]
theorem qim {v:Tp} (hv:tyB 3 v = true) (g:List qq):Wd (.fn 113 [] []) [tpV v] g = some (.ret (.str (ttx 3 v)),g,false):=by
 have h1:=qe3 v (g ++ [.cells v.enc])
 have h2:=(qjB 3 (by omega) v hv).1 (g ++ [.cells v.enc])
 rw [hv] at h1
 generalize ttx 3 v = b at *
 clear hv
 obtain ⟨k,l⟩:=v
 rw [Tp.enc] at h1 h2
 rw [show (l.map fun v=>qf.agg v.enc) = l.map tpV from rfl] at h1 h2
 rw [qa9] at h1 h2 ⊢
 rw [qt rfl (show T.get 113 = some qAd by kernel_rfl)]
 simp only [qAd,sT.1,sC.1,qe,qd,Nat.testBit,simprocAttr,-Int.reduceNatCast',h1,h2]
end Go.Proofs.YtkmlapholimbcaaGreatDoor.AE
namespace Go.Proofs.YtkmlapholimbcaaGreatDoor.AE
open Go.AE
structure qJ where (name:Str) (t:Tp)
structure qM where (name:Str) (e:Exl)
structure qam where (port:Str) (e:Exl) (ifs:List Exl)
structure qaw where (name model:Str)
structure qdN where (part port:Str)
structure qZ where (frm to:qdN)
structure qbW where (kind:Int) (name model:Str) (link:qZ)
structure qab where (e:Exl) (acts:List qbW)
def exC:Exl→List qf
 | .mk op n nm sb aS=>[.int .i64 op,.int .i64 n,.str nm,.str sb,.lst (aS.map exV) .no]
theorem qyJ (e:Exl):exV e = .agg (exC e):=by cases e;rw [ql];rfl
def qJ.enc (p:qJ):qf:=.agg (.str p.name :: p.t.enc)
def qM.enc (s:qM):qf:=.agg (.str s.name :: exC s.e)
def qam.enc (x:qam):qf:=.agg (.str x.port :: (exC x.e ++ [.lst (x.ifs.map exV) .no]))
def qaw.enc (p:qaw):qf:=.agg [.str p.name,.str p.model]
def qdN.enc (p:qdN):qf:=.agg [.str p.part,.str p.port]
def qZ.enc (l:qZ):qf:=.agg [.str l.frm.part,.str l.frm.port,.str l.to.part,.str l.to.port]
def qbW.enc (a:qbW):qf:=.agg [.int .i64 a.kind,.str a.name,.str a.model,.str a.link.frm.part,.str a.link.frm.port,.str a.link.to.part,.str a.link.to.port]
def qab.enc (r:qab):qf:=.agg (exC r.e ++ [.lst (r.acts.map qbW.enc) .no])
def qhc (e:Exl):Prop:=right 20 e = true∧OkN e∧sz 20 e ≤ 1000
def eT (e:Exl):Str:=tx 20 e
theorem qnQ {e:Exl} (h:qhc e) (G:List qq):Wd (.fn 19 [] []) [exV e] G = some (.ret (.str (eT e)),G,false):=qiH h.1 h.2.1 h.2.2 G
theorem qbn {e:Exl} (h:qhc e):(eT e).length ≤ 44000:=by
 have:=(qku 20 e h.1 h.2.1).2
 have:=h.2.2
 unfold eT
 omega
def qJ.txt (p:qJ):Str:=p.name ++ ([58,32] ++ (ttx 3 p.t ++ [59]))
def qM.txt (s:qM):Str:=s.name ++ ([32,61,32] ++ (eT s.e ++ [59]))
def taT (e:Exl):Str:=[116,97,32] ++ (eT e ++ [59])
def qhH (l:List Exl):Str:=(l.map fun e=>[32,105,102,32] ++ eT e).flatten
def qam.txt (x:qam):Str:=[101,109,105,116,32] ++ (x.port ++ ([32] ++ (eT x.e ++ (qhH x.ifs ++ [59]))))
def qaw.txt (p:qaw):Str:=p.name ++ ([32,61,32] ++ (p.model ++ [59]))
def qdN.txt (p:qdN):Str:=bif p.part.isEmpty then p.port else p.part ++ ([46] ++ p.port)
def qZ.txt (l:qZ):Str:=l.frm.txt ++ ([32,45,62,32] ++ (l.to.txt ++ [59]))
def qbW.txt (a:qbW):Str:=bif a.kind == 0 then [97,100,100,32] ++ (a.name ++ ([32,61,32] ++ (a.model ++ [59]))) else bif a.kind == 1 then [100,114,111,112,32] ++ (a.name ++ [59]) else bif a.kind == 2 then [116,105,101,32] ++ a.link.txt else [99,117,116,32] ++ a.link.txt
section
variable {G:List qq}
theorem qqS {s:qM} (hn:s.name.length ≤ 16) (he:qhc s.e):Wd (.fn 121 [] []) [s.enc] G = some (.ret (.str s.txt),G,false):=by
 obtain ⟨nm,e⟩:=s
 have hT:=fun G=>qnQ he G
 have hl:=qbn he
 rw [qM.txt,qM.enc]
 generalize eT e = u at *
 simp only at hn
 have q1:nm.length + 3 ≤ qo:=by unfold qo;omega
 have q2:nm.length + (u.length + 3) ≤ qo:=by unfold qo;omega
 have q3:nm.length + 3 + u.length ≤ qo:=by unfold qo;omega
 have q4:nm.length + (3 + u.length) ≤ qo:=by unfold qo;omega
 have q5:nm.length + 3 + u.length + 1 ≤ qo:=by unfold qo;omega
 have q6:nm.length + (u.length + 1 + 1 + 1) ≤ qo:=by unfold qo;omega
 have q7:nm.length + (u.length + 1 + 1 + 1) + 1 ≤ qo:=by unfold qo;omega
 obtain ⟨op,n,m2,sb,aS⟩:=e
 rw [ql] at hT
 rw [exC,qt rfl (show T.get 121 = some qAg by kernel_rfl)]
 simp only [qAg,sT.1,sC.1,sTA.1,sCA.1,qe,qj,qk,Src.isTmp,qg,Src.hangs,qn.isT,qi,qd,Nat.testBit,bne,simprocAttr,-Int.reduceNatCast',hT,q1,q2,q3,q4,q5,q6,q7,if_true,List.append_assoc]
theorem qtR {p:qJ} (hn:p.name.length ≤ 16) (ht:tyB 3 p.t = true):Wd (.fn 84 [] []) [p.enc] G = some (.ret (.str p.txt),G,false):=by
 obtain ⟨nm,v⟩:=p
 have hT:=fun G=>qim ht G
 have hl:=(qjB 3 (by omega) v ht).2
 rw [qJ.txt,qJ.enc]
 generalize ttx 3 v = u at *
 simp only at hn ht
 have q1:nm.length + 2 ≤ qo:=by unfold qo;omega
 have q2:nm.length + (u.length + 2) ≤ qo:=by unfold qo;omega
 have q4:nm.length + (2 + u.length) ≤ qo:=by unfold qo;omega
 have q6:nm.length + (u.length + 1 + 1) ≤ qo:=by unfold qo;omega
 have q7:nm.length + (u.length + 1 + 1) + 1 ≤ qo:=by unfold qo;omega
 have q8:nm.length + 2 + u.length ≤ qo:=by unfold qo;omega
 clear ht
 obtain ⟨k,l⟩:=v
 rw [qa9] at hT
 rw [Tp.enc,show (l.map fun v=>qf.agg v.enc) = l.map tpV from rfl,qt rfl (show T.get 84 = some c84 by kernel_rfl)]
 simp only [c84,sT.1,sC.1,sTA.1,sCA.1,qe,qj,qk,Src.isTmp,qg,Src.hangs,qn.isT,qi,qd,Nat.testBit,bne,simprocAttr,-Int.reduceNatCast',hT,q1,q2,q4,q6,q7,q8,if_true,List.append_assoc]
theorem qzW {e:Exl} (he:qhc e):Wd (.fn 123 [] []) [exV e] G = some (.ret (.str (taT e)),G,false):=by
 have hT:=fun G=>qnQ he G
 have hl:=qbn he
 rw [taT]
 generalize eT e = u at *
 have q1:3 + u.length ≤ qo:=by unfold qo;omega
 have q2:u.length + 3 ≤ qo:=by unfold qo;omega
 have q3:u.length + 3 + 1 ≤ qo:=by unfold qo;omega
 have q4:u.length + 1 + 1 + 1 ≤ qo:=by unfold qo;omega
 have q5:u.length + 1 + 1 + 1 + 1 ≤ qo:=by unfold qo;omega
 obtain ⟨op,n,m2,sb,aS⟩:=e
 rw [ql] at *
 rw [qt rfl (show T.get 123 = some qAh by kernel_rfl)]
 simp only [qAh,sT.1,sC.1,sTA.1,sCA.1,qe,qj,qk,Src.isTmp,qg,Src.hangs,qn.isT,qi,qd,Nat.testBit,bne,simprocAttr,-Int.reduceNatCast',hT,q1,q2,q3,q4,q5,if_true,List.append_assoc]
theorem qtH {p:qaw} (h1:p.name.length ≤ 16) (h2:p.model.length ≤ 16):Wd (.fn 115 [] []) [p.enc] G = some (.ret (.str p.txt),G,false):=by
 obtain ⟨a,b⟩:=p
 simp only at h1 h2
 have q1:a.length + 3 ≤ qo:=by unfold qo;omega
 have q2:a.length + 3 + b.length ≤ qo:=by unfold qo;omega
 have q3:a.length + (b.length + 1 + 1 + 1) ≤ qo:=by unfold qo;omega
 have q4:a.length + (b.length + 1 + 1 + 1) + 1 ≤ qo:=by unfold qo;omega
 have q5:a.length + (3 + b.length) ≤ qo:=by unfold qo;omega
 rw [qaw.txt,qaw.enc,qt rfl (show T.get 115 = some qAe by kernel_rfl)]
 simp only [qAe,sT.1,sC.1,sTA.1,sCA.1,qe,qj,qk,Src.isTmp,qg,Src.hangs,qn.isT,qi,qd,Nat.testBit,bne,simprocAttr,-Int.reduceNatCast',q1,q2,q3,q4,q5,if_true,List.append_assoc]
theorem qvw (s:Str):(s == []) = s.isEmpty:=by cases s <;> rfl
theorem qn3 {p:qdN} (h1:p.part.length ≤ 16) (h2:p.port.length ≤ 16):Wd (.fn 140 [] []) [p.enc] G = some (.ret (.str p.txt),G,false):=by
 obtain ⟨a,b⟩:=p
 simp only at h1 h2
 have q1:a.length + 1 ≤ qo:=by unfold qo;omega
 have q2:a.length + 1 + b.length ≤ qo:=by unfold qo;omega
 have q3:a.length + (b.length + 1) ≤ qo:=by unfold qo;omega
 have q5:a.length + (1 + b.length) ≤ qo:=by unfold qo;omega
 rw [qdN.txt,qdN.enc,qt rfl (show T.get 140 = some qAk by kernel_rfl)]
 cases hc:a.isEmpty <;> simp only [qAk,sT.1,sC.1,sTA.1,sCA.1,qe,qj,qk,Src.isTmp,qg,Src.hangs,qn.isT,qi,qd,Nat.testBit,bne,simprocAttr,-Int.reduceNatCast',qvw,hc,q1,q2,q3,q5,if_true,cond_true,cond_false,List.append_assoc]
def qdN.short (p:qdN):Prop:=p.part.length ≤ 16∧p.port.length ≤ 16
theorem qdN.short.txt {p:qdN} (h:p.short):p.txt.length ≤ 40:=by
 have:=h.1
 have:=h.2
 unfold qdN.txt
 cases p.part.isEmpty <;> simp <;> omega
theorem qj3 {l:qZ} (h1:l.frm.short) (h2:l.to.short):Wd (.fn 117 [] []) [l.enc] G = some (.ret (.str l.txt),G,false):=by
 obtain ⟨⟨a,b⟩,⟨c,d⟩⟩:=l
 have f1:=fun G=>qn3 (G:=G) h1.1 h1.2
 have f2:=fun G=>qn3 (G:=G) h2.1 h2.2
 have l1:=h1.txt
 have l2:=h2.txt
 rw [qZ.txt,qZ.enc]
 rw [qdN.enc] at f1 f2
 simp only at *
 generalize qdN.txt ⟨a,b⟩ = u at *
 generalize qdN.txt ⟨c,d⟩ = v at *
 have q1:u.length + 4 ≤ qo:=by unfold qo;omega
 have q2:u.length + 4 + v.length ≤ qo:=by unfold qo;omega
 have q3:u.length + (v.length + 1 + 1 + 1 + 1) ≤ qo:=by unfold qo;omega
 have q4:u.length + (v.length + 1 + 1 + 1 + 1) + 1 ≤ qo:=by unfold qo;omega
 have q5:u.length + (4 + v.length) ≤ qo:=by unfold qo;omega
 rw [qt rfl (show T.get 117 = some qAf by kernel_rfl)]
 simp only [qAf,sT.1,sC.1,sTA.1,sCA.1,qe,qj,qk,Src.isTmp,qg,Src.hangs,qn.isT,qi,qd,Nat.testBit,bne,simprocAttr,-Int.reduceNatCast',f1,f2,q1,q2,q3,q4,q5,if_true,List.append_assoc]
def qbW.short (a:qbW):Prop:=a.name.length ≤ 16∧a.model.length ≤ 16∧(a.kind ≠ 0→a.kind ≠ 1→a.link.frm.short∧a.link.to.short)
theorem qZ.len {l:qZ} (h1:l.frm.short) (h2:l.to.short):l.txt.length ≤ 90:=by
 have:=h1.txt
 have:=h2.txt
 unfold qZ.txt
 simp
 omega
theorem qvh {a:qbW} (h:a.short):Wd (.fn 119 [] []) [a.enc] G = some (.ret (.str a.txt),G,false):=by
 obtain ⟨k,a,b,l⟩:=a
 obtain ⟨h1,h2,h3⟩:=h
 simp only at h1 h2 h3
 have q1:a.length + 1 + 1 + 1 + 1 + 3 ≤ qo:=by unfold qo;omega
 have q2:4 + a.length ≤ qo:=by unfold qo;omega
 have q3:a.length + 4 ≤ qo:=by unfold qo;omega
 have q4:a.length + 3 + 1 + 1 + 1 + 1 ≤ qo:=by unfold qo;omega
 have q5:a.length + (b.length + 1 + 1 + 1) + 1 + 1 + 1 + 1 ≤ qo:=by unfold qo;omega
 have q6:a.length + (b.length + 1 + 1 + 1) + 1 + 1 + 1 + 1 + 1 ≤ qo:=by unfold qo;omega
 have q7:a.length + 3 + 1 + 1 + 1 + 1 + b.length ≤ qo:=by unfold qo;omega
 have q8:a.length + 1 + 1 + 1 + 1 + 1 ≤ qo:=by unfold qo;omega
 have q9:a.length + 1 + 1 + 1 + 1 + 1 + 1 ≤ qo:=by unfold qo;omega
 have qa:5 + a.length ≤ qo:=by unfold qo;omega
 have qb:a.length + 1 + 1 + 1 + 1 ≤ qo:=by unfold qo;omega
 have qc:a.length + 5 ≤ qo:=by unfold qo;omega
 rw [qbW.txt,qbW.enc,qt rfl (show T.get 119 = some qx8 by kernel_rfl)]
 simp only
 cases h0:(k == 0) with
 | true=>simp only [qx8,sT.1,sC.1,sTA.1,sCA.1,qe,qj,qk,Src.isTmp,qg,Src.hangs,qn.isT,qi,qd,Nat.testBit,bne,simprocAttr,-Int.reduceNatCast',h0,q1,q2,q3,q4,q5,q6,q7,q8,q9,qa,qb,qc,if_true,cond_true,cond_false,List.append_assoc]
 | false=>
  cases h1:(k == 1) with
  | true=>simp only [qx8,sT.1,sC.1,sTA.1,sCA.1,qe,qj,qk,Src.isTmp,qg,Src.hangs,qn.isT,qi,qd,Nat.testBit,bne,simprocAttr,-Int.reduceNatCast',h0,h1,q1,q2,q3,q4,q5,q6,q7,q8,q9,qa,qb,qc,if_true,cond_true,cond_false,List.append_assoc]
  | false=>
   obtain ⟨s1,s2⟩:=h3 (beq_eq_false_iff_ne.1 h0) (beq_eq_false_iff_ne.1 h1)
   have f:=fun G=>qj3 (G:=G) s1 s2
   have hl:=qZ.len s1 s2
   rw [qZ.enc] at f
   generalize qZ.txt l = u at *
   have p1:4 + u.length ≤ qo:=by unfold qo;omega
   have p2:u.length + 4 ≤ qo:=by unfold qo;omega
   cases h2:(k == 2) <;> simp only [qx8,sT.1,sC.1,sTA.1,sCA.1,qe,qj,qk,Src.isTmp,qg,Src.hangs,qn.isT,qi,qd,Nat.testBit,bne,simprocAttr,-Int.reduceNatCast',h0,h1,h2,f,p1,p2,if_true,cond_true,cond_false,List.append_assoc]
end
end Go.Proofs.YtkmlapholimbcaaGreatDoor.AE
