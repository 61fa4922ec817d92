/- A part of the proof: the abstract executor and what goes through it (part 9). No condition. -/
import Derived.Test.YtkmlapholimbcaaGreatDoorMx8
set_option maxRecDepth 100000
namespace Go.Proofs.YtkmlapholimbcaaGreatDoor.AE
open Go.AE
def inn (k:Int) (p:Int×Str):Str:=bif ile k (rk p.1) then p.2 else 40 :: (p.2 ++ [41])
def qbz:List Str→Str
 | []=>[]
 | x :: r=>x ++ (r.map fun t=>44 :: 32 :: t).flatten
theorem qg7 (l:List Str) (x:Str):qbz (l ++ [x]) = bif l.isEmpty then x else qbz l ++ (44 :: 32 :: x):=by
 cases l with
 | nil=>simp [qbz]
 | cons y l=>simp [qbz]
def sgn (op:Int):Str×Int×Int:=
 bif op == 24 then ([32,111,114,32],1,2) else bif op == 23 then ([32,97,110,100,32],2,3) else bif op == 20 then ([32,61,32],5,5) else bif op == 21 then ([32,60,32],5,5) else bif op == 22 then ([32,60,61,32],5,5)
 else bif op == 15 then ([32,43,32],5,6) else bif op == 16 then ([32,45,32],5,6) else bif op == 17 then ([32,42,32],6,7) else bif op == 18 then ([32,47,32],6,7) else ([32,37,32],6,7)
theorem qbB (op:Int) (G:List qf) (h0:15 ≤ op) (h1:op ≤ 24):Wd (.fn 66 [] []) [.int .i64 op] G = some (.ret (.tup [.str (sgn op).1,.int .i64 (sgn op).2.1,.int .i64 (sgn op).2.2]),G,false):=by
 have:op = 15∨op = 16∨op = 17∨op = 18∨op = 19∨op = 20∨op = 21∨op = 22∨op = 23∨op = 24:=by omega
 rw [qi rfl (show T.get 66 = some c66 by kernel_rfl)]
 rcases this with rfl | rfl | rfl | rfl | rfl | rfl | rfl | rfl | rfl | rfl <;> (simp only [c66,sT.1,sC.1,qc,qb,Nat.testBit,simprocAttr,-Int.reduceNatCast'];rfl)
theorem qa5 {aS:List Exl} {i:Nat} (hi:i < aS.length):qc7 5 (.lst (aS.map exV) .no) (.int .i64 (i:Nat)) = some (.iptr aS[i].enc 0):=by
 have:=qF (k:=5) (xs:=aS.map exV) (f:=.no) (j:=.i64) (x:=exV aS[i]) (by rw [List.getElem?_map,List.getElem?_eq_getElem hi];rfl) (by obtain ⟨op,n,nm,sb,as'⟩:=aS[i];rw [qe];rfl)
 exact this
def qdA (S:Str) (a:Exl) (t:Str):Prop:=(0 ≤ a.op∧a.op ≤ 25)∧∀(G:List qf) (id:Nat),id < G.length→isB G[id]? = true→bsO G[id]? ++ t <+: S→Wd (.fn 37 [] []) [.ptr id 0,exV a] G = some (.ret (.tup []),G.set id (BX (bsO G[id]? ++ t)),false)
def qih (S:Str) (a:Exl) (k:Int) (t:Str):Prop:=∀(G:List qf) (id:Nat),id < G.length→isB G[id]? = true→bsO G[id]? ++ t <+: S→Wd (.fn 62 [] []) [.ptr id 0,exV a,.int .i64 k] G = some (.ret (.tup []),G.set id (BX (bsO G[id]? ++ t)),false)
theorem qac {S:Str} (hS:S.length ≤ qu) {a:Exl} {t:Str} (h:qdA S a t) (k:Int):qih S a k (inn k (a.op,t)):=by
 intro G id hlt hb hp
 have e:=qaO hb
 generalize bsO G[id]? = s at *
 obtain ⟨⟨h0,h1⟩,hT⟩:=h
 have hr:=fun G=>qx5 (G:=G) h0 h1
 obtain ⟨op,n,nm,sb,aS⟩:=a
 simp only [Exl.op] at *
 rw [qe] at hT hr ⊢
 generalize hw:Wd _ _ G = w
 rw [qi rfl (show T.get 62 = some c62 by kernel_rfl)] at hw
 have w40:=fun {G id}=>qby (G:=G) (id:=id) hS 40 40 rfl
 have w41:=fun {G id}=>qby (G:=G) (id:=id) hS 41 41 rfl
 have hle:id < G.length + 1:=by omega
 unfold inn at hp ⊢
 cases hc:ile k (rk op) with
 | true=>
  rw [hc,cond_true] at hp
  simp only [c62,sT.1,sC.1,qc,qb,Nat.testBit,simprocAttr,-Int.reduceNatCast',hr,hc,hT,hlt,hle,e,qaC,qaG,hp,List.getElem?_append_left,List.set_append_left,List.length_append,List.length_cons,List.length_nil] at hw
  subst hw
  rfl
 | false=>
  rw [hc,cond_false] at hp
  obtain ⟨R,rfl⟩:=hp
  simp only [c62,sT.1,sC.1,qc,qb,Nat.testBit,simprocAttr,-Int.reduceNatCast',hr,hc,hT,w40,w41,hlt,hle,e,qaC,qaG,List.getElem?_append_left,List.set_append_left,List.getElem?_set_self,List.length_set,List.length_append,List.length_cons,List.length_nil,List.append_assoc,List.cons_append,List.nil_append,List.prefix_append_right_inj,List.cons_prefix_cons,List.nil_prefix,List.prefix_append,List.set_set] at hw
  subst hw
  rfl
theorem qw3 {S:Str} (hS:S.length ≤ qu) {a:Exl} {t:Str} (h:qdA S a t) (op n:Int) (nm sb:Str) (hn0:0 ≤ n) (hn1:n ≤ 3) (G:List qf) (id:Nat) (hlt:id < G.length) (hb:isB G[id]? = true) (hp:bsO G[id]? ++ (inn (bif a.op == 0 then 10 else 8) (a.op,t) ++ (46 :: Lib.itoa n)) <+: S) :
  Wd (.fn 65 [] []) [.ptr id 0,exV (.mk op n nm sb [a])] G = some (.ret (.tup []),G.set id (BX (bsO G[id]? ++ (inn (bif a.op == 0 then 10 else 8) (a.op,t) ++ (46 :: Lib.itoa n)))),false):=by
 have e:=qaO hb
 generalize bsO G[id]? = s at *
 have hI:=fun k=>qac hS h k
 have hi:=fun {G}=>qpI (G:=G) n hn0 (by omega)
 unfold qih at hI
 obtain ⟨op',n',nm',sb',as'⟩:=a
 simp only [Exl.op] at *
 obtain ⟨R,rfl⟩:=hp
 rw [qe] at hI
 have x1:=qa5 (aS:=[Exl.mk op' n' nm' sb' as']) (i:=0) (by simp)
 simp only [List.map_cons,List.map_nil,qe,List.getElem_cons_zero,qa6,cc0] at x1
 generalize hw:Wd _ _ G = w
 rw [qe,qi rfl (show T.get 65 = some c65 by kernel_rfl)] at hw
 rw [List.map_cons,List.map_nil,qe] at hw
 have w46:=fun {G id}=>qby (G:=G) (id:=id) hS 46 46 rfl
 have wsS:=fun {G id u}=>qbS (G:=G) (id:=id) hS u
 have hle:id < G.length + 1:=by omega
 cases hc:op' == 0 <;> rw [hc] at hS hI w46 wsS <;>
 simp only [c65,sT.1,sC.1,qc,qb,Nat.testBit,simprocAttr,-Int.reduceNatCast',hI,hi,x1,hc,cond_true,cond_false,w46,wsS,hlt,hle,e,qaC,qaG,List.getElem?_append_left,List.set_append_left,List.getElem?_set_self,List.length_set,List.length_append,List.length_cons,List.length_nil,List.append_assoc,List.cons_append,List.nil_append,List.prefix_append_right_inj,List.cons_prefix_cons,List.nil_prefix,List.prefix_append,List.set_set] at hw <;>
 subst hw <;>
 simp only [cond_true,cond_false,List.append_assoc,List.cons_append,List.nil_append]
def qkz (ps:List (Int×Str)):Str:=40 :: (qbz (ps.map (inn 0)) ++ (bif ps.length == 1 then [44,41] else [41]))
set_option maxHeartbeats 1000000 in
theorem qm9 {S:Str} (hS:S.length ≤ qu) {aS:List Exl} {f:Exl→Str} (h:∀a ∈ aS,qdA S a (f a)) (hl:aS.length ≤ 100) {H:List qf} {id:Nat} (hlt:id < H.length) {s:Str} (hp:∀i,i ≤ aS.length→s ++ qbz ((aS.take i).map fun a=>inn 0 (a.op,f a)) <+: S) :
  ∀k st,(∃(tt:List qa) (i:Nat) (l:List qf),st = ⟨tt,H.set id (BX (s ++ qbz ((aS.take i).map fun a=>inn 0 (a.op,f a)))) ++ l,false⟩∧tt.length = 30∧lkp tt 0 = .ptr id 0∧lkp tt 1 = .lst (aS.map exV) .no∧lkp tt 8 = .lst (aS.map exV) .no∧lkp tt 9 = .int .i64 (aS.length:Nat)∧lkp tt 10 = .int .i64 (i:Nat)∧i + k = aS.length)→
   ∃x st',qo H.length Wd (.loop qj0) st = some (x,st')∧(∃(tt:List qa) (l:List qf),st' = ⟨tt,H.set id (BX (s ++ qbz (aS.map fun a=>inn 0 (a.op,f a)))) ++ l,false⟩∧tt.length = 30∧lkp tt 0 = .ptr id 0∧lkp tt 1 = .lst (aS.map exV) .no∧x = .exit 0):=by
 refine qbj _ (fun x st'=>(∃(tt:List qa) (l:List qf),st' = ⟨tt,H.set id (BX (s ++ qbz (aS.map fun a=>inn 0 (a.op,f a)))) ++ l,false⟩∧tt.length = 30∧lkp tt 0 = .ptr id 0∧lkp tt 1 = .lst (aS.map exV) .no∧x = .exit 0)) ?_
 rintro k st ⟨tt,i,l,rfl,ht,e0,e1,e8,e9,e10,hik⟩
 generalize he:qo H.length Wd qj0 _ = r
 rcases Nat.lt_or_ge i aS.length with hi | hi
 ·have c1:ilt (i:Int) (aS.length:Int) = true:=qyE (by omega)
  have w:=qX (n:=i) (by omega)
  have hx:=qa5 hi
  have hpi:=hp (i + 1) (by omega)
  have hI:=qac hS (h _ (List.getElem_mem hi)) 0
  unfold qih at hI
  rw [List.take_succ_eq_append_getElem hi,List.map_append,List.map_cons,List.map_nil,qg7] at hpi
  have hje:((aS.take i).map fun a=>inn 0 (a.op,f a)).isEmpty = !(ilt 0 (i:Int)):=by
   rw [qM]
   cases i with
   | zero=>rfl
   | succ i=>cases aS with
    | nil=>simp at hi
    | cons b r=>simp
  have hnx:H.set id (BX (s ++ qbz ((aS.take (i + 1)).map fun a=>inn 0 (a.op,f a)))) = H.set id (BX (s ++ bif ((aS.take i).map fun a=>inn 0 (a.op,f a)).isEmpty then inn 0 (aS[i].op,f aS[i]) else qbz ((aS.take i).map fun a=>inn 0 (a.op,f a)) ++ (44 :: 32 :: inn 0 (aS[i].op,f aS[i])))):=by
   rw [List.take_succ_eq_append_getElem hi,List.map_append,List.map_cons,List.map_nil,qg7]
  rw [hje] at hpi hnx
  have hj0:ilt 0 (i:Int) = false→qbz ((aS.take i).map fun a=>inn 0 (a.op,f a)) = []:=fun hq=>by
   rw [hq] at hje
   rw [List.isEmpty_iff.1 hje,qbz]
  generalize inn 0 (aS[i].op,f aS[i]) = u at hpi hnx hI
  generalize aS[i] = a at hI hx
  generalize qbz ((aS.take i).map fun a=>inn 0 (a.op,f a)) = q at *
  obtain ⟨op,n,nm,sb,as'⟩:=a
  rw [qe] at hI
  rw [qa6] at hx
  have wsS:=fun {G id u}=>qbS (G:=G) (id:=id) hS u
  have hB:Nat.ble H.length (H.length + l.length) = true:=qau (by omega)
  have hl2:id < H.length + l.length:=by omega
  have hl3:id < H.length + (l.length + 1):=by omega
  cases hc:ilt 0 (i:Int) with
  | false=>
   rw [hc,Bool.not_false,cond_true] at hpi hnx
   rw [hj0 hc] at he
   simp only [qj0,sT.1,sC.1,qc,qb,Nat.testBit,simprocAttr,-Int.reduceNatCast',ht,e0,e1,e8,e9,e10,c1,hc,hx,hI,hB,hlt,hl2,hl3,hpi,w,qaC,qaG,List.getElem?_append_left,List.set_append_left,List.getElem?_set_self,List.length_set,List.length_append,List.length_cons,List.length_nil,List.append_assoc,List.append_nil,List.set_set] at he
   subst he
   refine .inl ⟨_,k - 1,rfl,by omega,_,i + 1,_,by rw [hnx],by simp only [qj,ht],?_,?_,?_,?_,?_,by omega⟩
   all_goals simp only [sT.1,sC.1,qc,qb,Nat.testBit,simprocAttr,-Int.reduceNatCast',ht,e0,e1,e8,e9,w]
  | true=>
   rw [hc,Bool.not_true,cond_false] at hpi hnx
   obtain ⟨R,rfl⟩:=hpi
   simp only [qj0,sT.1,sC.1,qc,qb,Nat.testBit,simprocAttr,-Int.reduceNatCast',ht,e0,e1,e8,e9,e10,c1,hc,hx,hI,wsS,hB,hlt,hl2,hl3,w,qaC,qaG,List.getElem?_append_left,List.set_append_left,List.getElem?_set_self,List.length_set,List.length_append,List.length_cons,List.length_nil,List.append_assoc,List.cons_append,List.nil_append,List.prefix_append_right_inj,List.cons_prefix_cons,List.nil_prefix,List.prefix_append,List.set_set] at he
   subst he
   refine .inl ⟨_,k - 1,rfl,by omega,_,i + 1,_,by rw [hnx],by simp only [qj,ht],?_,?_,?_,?_,?_,by omega⟩
   all_goals simp only [sT.1,sC.1,qc,qb,Nat.testBit,simprocAttr,-Int.reduceNatCast',ht,e0,e1,e8,e9,w]
 ·have c1:ilt (i:Int) (aS.length:Int) = false:=qyD (by omega)
  rw [List.take_of_length_le hi] at he
  simp only [qj0,sT.1,sC.1,qc,qb,Nat.testBit,simprocAttr,-Int.reduceNatCast',ht,e9,e10,c1] at he
  subst he
  refine .inr ⟨_,_,rfl,by simp,_,l,rfl,by simp only [qj,ht],?_,?_,rfl⟩
  all_goals simp only [sT.1,sC.1,qc,qb,Nat.testBit,simprocAttr,-Int.reduceNatCast',ht,e0,e1]
end Go.Proofs.YtkmlapholimbcaaGreatDoor.AE
namespace Go.Proofs.YtkmlapholimbcaaGreatDoor.AE
open Go.AE
def ntx (op n:Int) (nm sb:Str) (ps:List (Int×Str)):Str:=
 bif op == 0 then Lib.itoa n else bif op == 1 then [116,114,117,101] else bif op == 2 then [102,97,108,115,101] else bif op == 11 then [101,108,97,112,115,101,100]
 else bif op == 3 then 39 :: nm else bif op == 4 then nm else bif op == 5 then nm ++ (46 :: sb) else bif op == 7 then [99,111,117,110,116,40] ++ (nm ++ [41]) else bif op == 8 then [104,97,115,40] ++ (nm ++ [41])
 else bif op == 9 then [115,117,109,40] ++ (nm ++ [41]) else bif op == 10 then [108,101,97,115,116,40] ++ (nm ++ ([44,32] ++ (inn 0 (ps.getD 0 (0,[])) ++ [41])))
 else bif op == 6 then qkz ps else bif op == 12 then inn (bif (ps.getD 0 (0,[])).1 == 0 then 10 else 8) (ps.getD 0 (0,[])) ++ (46 :: Lib.itoa n) else bif op == 13 then 45 :: inn 7 (ps.getD 0 (0,[])) else bif op == 14 then [110,111,116,32] ++ inn 3 (ps.getD 0 (0,[]))
 else bif op == 25 then [105,102,32] ++ (inn 0 (ps.getD 0 (0,[])) ++ ([32,116,104,101,110,32] ++ (inn 0 (ps.getD 1 (0,[])) ++ ([32,101,108,115,101,32] ++ inn 0 (ps.getD 2 (0,[]))))))
 else inn (sgn op).2.1 (ps.getD 0 (0,[])) ++ ((sgn op).1 ++ inn (sgn op).2.2 (ps.getD 1 (0,[])))
def tx:Nat→Exl→Str
 | 0,_=>[]
 | d + 1,.mk op n nm sb aS=>ntx op n nm sb (aS.map fun a=>(a.op,tx d a))
section
variable {S:Str} {G:List qf} {id:Nat} {s:Str} {n:Int} {nm sb:Str}
theorem qpL (l r:List Str):qbz l <+: qbz (l ++ r):=by
 cases l with
 | nil=>exact List.nil_prefix
 | cons x l=>simp [qbz]
set_option maxHeartbeats 4000000 in
theorem quF (hS:S.length ≤ qu) {aS:List Exl} {f:Exl→Str} (h:∀a ∈ aS,qdA S a (f a)) (hl:aS.length ≤ 100) (hlt:id < G.length) (hb:isB G[id]? = true) (hp:bsO G[id]? ++ qkz (aS.map fun a=>(a.op,f a)) <+: S) :
  Wd (.fn 64 [] []) [.ptr id 0,.lst (aS.map exV) .no] G = some (.ret (.tup []),G.set id (BX (bsO G[id]? ++ qkz (aS.map fun a=>(a.op,f a)))),false):=by
 have e:=qaO hb
 generalize bsO G[id]? = s at *
 have w40:=fun {G id}=>qby (G:=G) (id:=id) hS 40 40 rfl
 have w41:=fun {G id}=>qby (G:=G) (id:=id) hS 41 41 rfl
 have w44:=fun {G id}=>qby (G:=G) (id:=id) hS 44 44 rfl
 have hpj:∀i,i ≤ aS.length→s ++ [40] ++ qbz ((aS.take i).map fun a=>inn 0 (a.op,f a)) <+: S:=fun i hi=>by
  refine List.IsPrefix.trans ?_ hp
  rw [qkz,List.append_assoc,List.prefix_append_right_inj,List.singleton_append,List.cons_prefix_cons]
  refine ⟨rfl,?_⟩
  rw [List.map_map]
  refine List.IsPrefix.trans ?_ (List.prefix_append _ _)
  have q:=qpL ((aS.take i).map fun a=>inn 0 (a.op,f a)) ((aS.drop i).map fun a=>inn 0 (a.op,f a))
  rwa [←List.map_append,List.take_append_drop] at q
 have loop:=qm9 (H:=G) (id:=id) (s:=s ++ [40]) hS h hl hlt hpj
 generalize hw:Wd _ _ G = w
 rw [qi rfl (show T.get 64 = some c64 by kernel_rfl)] at hw
 have p40:s ++ [40] <+: S:=by have:=hpj 0 (by omega);simpa [qbz] using this
 simp only [c64,sT.1,sC.1,qc,qb,Nat.testBit,simprocAttr,-Int.reduceNatCast',w40,p40,hlt,e,qaC,qaG,List.length_map] at hw
 generalize hr:qo G.length Wd (.loop qj0) _ = r at hw
 obtain ⟨x,st',rfl,tt,l,rfl,ht,e0,e1,rfl⟩:=qgr hr (loop aS.length _ ⟨_,0,[],by rw [List.append_nil,List.take_zero,List.map_nil,qbz,List.append_nil],by simp only [sT.1,sC.1,qc,qb,Nat.testBit,simprocAttr,-Int.reduceNatCast'],by simp only [sT.1,sC.1,qc,qb,Nat.testBit,simprocAttr,-Int.reduceNatCast'],by simp only [sT.1,sC.1,qc,qb,Nat.testBit,simprocAttr,-Int.reduceNatCast'],by simp only [sT.1,sC.1,qc,qb,Nat.testBit,simprocAttr,-Int.reduceNatCast'],by simp only [sT.1,sC.1,qc,qb,Nat.testBit,simprocAttr,-Int.reduceNatCast'],by simp only [sT.1,sC.1,qc,qb,Nat.testBit,simprocAttr,-Int.reduceNatCast',Int.natCast_zero],by omega⟩)
 have hm:(aS.map fun a=>(a.op,f a)).map (inn 0) = aS.map fun a=>inn 0 (a.op,f a):=by rw [List.map_map];rfl
 rw [qkz,hm,List.length_map] at hp ⊢
 generalize qbz (aS.map fun a=>inn 0 (a.op,f a)) = q at *
 have hc:(((aS.length:Nat):Int) == 1) = (aS.length == 1):=by
  rw [Bool.eq_iff_iff];simp;omega
 obtain ⟨R,rfl⟩:=hp
 cases hc1:(aS.length == 1) <;> rw [hc1] at hS w41 w44 hc <;>
 simp only [sT.1,sC.1,qc,qb,Nat.testBit,simprocAttr,-Int.reduceNatCast',ht,e0,e1,hc,cond_true,cond_false,w41,w44,hlt,qaC,qaG,List.length_map,List.getElem?_append_left,List.set_append_left,List.getElem?_set_self,List.length_set,List.append_assoc,List.cons_append,List.nil_append,List.prefix_append_right_inj,List.cons_prefix_cons,List.nil_prefix,List.prefix_append,List.set_set] at hw <;>
 subst hw <;>
 simp only [cond_true,cond_false,List.append_assoc,List.cons_append,List.nil_append]
end
end Go.Proofs.YtkmlapholimbcaaGreatDoor.AE
namespace Go.Proofs.YtkmlapholimbcaaGreatDoor.AE
open Go.AE
theorem qe6 {s:Str} (h:qbD s = true):1 ≤ s.length∧s.length ≤ 16:=by
 simp only [qbD,Bool.and_eq_true,decide_eq_true_eq] at h
 exact h.1
theorem qaa {s:Str} (h:qA s = true):1 ≤ s.length∧s.length ≤ 16:=by
 rw [qA,Bool.and_eq_true] at h
 exact qe6 h.1
theorem qp {nb mb sb:Bool} {lo hi n:Int} {nm sub:Str} {k:Nat} (h:fB nb mb sb lo hi n nm sub k = true):lo ≤ (k:Int)∧(k:Int) ≤ hi:=by
 simp only [fB,Bool.and_eq_true,qay,decide_eq_true_eq] at h
 exact ⟨h.2.2.2.1,h.2.2.2.2⟩
section
variable {S:Str} {G:List qf} {id:Nat} {n:Int} {nm sb:Str}
theorem cc2:((2:Nat):Int) = 2:=Eq.trans rfl rfl
set_option maxHeartbeats 4000000 in
theorem qEY (hS:S.length ≤ qu) (hn0:0 ≤ n) (hn1:n ≤ 9223372036854775807) (hlt:id < G.length) (hb:isB G[id]? = true) (hp:bsO G[id]? ++ (Lib.itoa n) <+: S):Wd (.fn 37 [] []) [.ptr id 0,exV (.mk 0 n nm sb [])] G = some (.ret (.tup []),G.set id (BX (bsO G[id]? ++ (Lib.itoa n))),false):=by
 have e:=qaO hb
 generalize bsO G[id]? = s at *
 have hle:id < G.length + 1:=by omega
 obtain ⟨R,rfl⟩:=hp
 have wb:=fun {G id} c d=>qby (G:=G) (id:=id) hS c d
 have ws:=fun {G id u}=>qbS (G:=G) (id:=id) hS u
 have w40:=fun {G id}=>wb (G:=G) (id:=id) 40 40 rfl
 have w41:=fun {G id}=>wb (G:=G) (id:=id) 41 41 rfl
 have w45:=fun {G id}=>wb (G:=G) (id:=id) 45 45 rfl
 have hi:=fun {G}=>qpI (G:=G) n hn0 hn1
 generalize hw:Wd _ _ G = w
 rw [qe,qi rfl (show T.get 37 = some c37 by kernel_rfl)] at hw
 simp only [c37,sT.1,sC.1,qc,qb,Nat.testBit,simprocAttr,-Int.reduceNatCast',if_true,w40,w41,w45,ws,hi,hlt,hle,e,qaC,qaG,List.map_cons,List.map_nil,List.getElem?_append_left,List.set_append_left,List.getElem?_set_self,List.length_set,List.length_append,List.length_cons,List.length_nil,List.append_assoc,List.cons_append,List.nil_append,List.prefix_append_right_inj,List.cons_prefix_cons,List.nil_prefix,List.prefix_append,List.set_set] at hw
 subst hw
 first
 | rfl
 | simp only [List.append_assoc,List.cons_append,List.nil_append]
set_option maxHeartbeats 4000000 in
theorem qEZ (hS:S.length ≤ qu) (hlt:id < G.length) (hb:isB G[id]? = true) (hp:bsO G[id]? ++ ([116,114,117,101]) <+: S):Wd (.fn 37 [] []) [.ptr id 0,exV (.mk 1 n nm sb [])] G = some (.ret (.tup []),G.set id (BX (bsO G[id]? ++ ([116,114,117,101]))),false):=by
 have e:=qaO hb
 generalize bsO G[id]? = s at *
 have hle:id < G.length + 1:=by omega
 obtain ⟨R,rfl⟩:=hp
 have wb:=fun {G id} c d=>qby (G:=G) (id:=id) hS c d
 have ws:=fun {G id u}=>qbS (G:=G) (id:=id) hS u
 have w40:=fun {G id}=>wb (G:=G) (id:=id) 40 40 rfl
 have w41:=fun {G id}=>wb (G:=G) (id:=id) 41 41 rfl
 have w45:=fun {G id}=>wb (G:=G) (id:=id) 45 45 rfl
 generalize hw:Wd _ _ G = w
 rw [qe,qi rfl (show T.get 37 = some c37 by kernel_rfl)] at hw
 simp only [c37,sT.1,sC.1,qc,qb,Nat.testBit,simprocAttr,-Int.reduceNatCast',if_true,w40,w41,w45,ws,hlt,hle,e,qaC,qaG,List.map_cons,List.map_nil,List.getElem?_append_left,List.set_append_left,List.getElem?_set_self,List.length_set,List.length_append,List.length_cons,List.length_nil,List.append_assoc,List.cons_append,List.nil_append,List.prefix_append_right_inj,List.cons_prefix_cons,List.nil_prefix,List.prefix_append,List.set_set] at hw
 subst hw
 first
 | rfl
 | simp only [List.append_assoc,List.cons_append,List.nil_append]
set_option maxHeartbeats 4000000 in
theorem qE0 (hS:S.length ≤ qu) (hlt:id < G.length) (hb:isB G[id]? = true) (hp:bsO G[id]? ++ ([102,97,108,115,101]) <+: S):Wd (.fn 37 [] []) [.ptr id 0,exV (.mk 2 n nm sb [])] G = some (.ret (.tup []),G.set id (BX (bsO G[id]? ++ ([102,97,108,115,101]))),false):=by
 have e:=qaO hb
 generalize bsO G[id]? = s at *
 have hle:id < G.length + 1:=by omega
 obtain ⟨R,rfl⟩:=hp
 have wb:=fun {G id} c d=>qby (G:=G) (id:=id) hS c d
 have ws:=fun {G id u}=>qbS (G:=G) (id:=id) hS u
 have w40:=fun {G id}=>wb (G:=G) (id:=id) 40 40 rfl
 have w41:=fun {G id}=>wb (G:=G) (id:=id) 41 41 rfl
 have w45:=fun {G id}=>wb (G:=G) (id:=id) 45 45 rfl
 generalize hw:Wd _ _ G = w
 rw [qe,qi rfl (show T.get 37 = some c37 by kernel_rfl)] at hw
 simp only [c37,sT.1,sC.1,qc,qb,Nat.testBit,simprocAttr,-Int.reduceNatCast',if_true,w40,w41,w45,ws,hlt,hle,e,qaC,qaG,List.map_cons,List.map_nil,List.getElem?_append_left,List.set_append_left,List.getElem?_set_self,List.length_set,List.length_append,List.length_cons,List.length_nil,List.append_assoc,List.cons_append,List.nil_append,List.prefix_append_right_inj,List.cons_prefix_cons,List.nil_prefix,List.prefix_append,List.set_set] at hw
 subst hw
 first
 | rfl
 | simp only [List.append_assoc,List.cons_append,List.nil_append]
set_option maxHeartbeats 4000000 in
theorem qCG (hS:S.length ≤ qu) (hlt:id < G.length) (hb:isB G[id]? = true) (hp:bsO G[id]? ++ ([101,108,97,112,115,101,100]) <+: S):Wd (.fn 37 [] []) [.ptr id 0,exV (.mk 11 n nm sb [])] G = some (.ret (.tup []),G.set id (BX (bsO G[id]? ++ ([101,108,97,112,115,101,100]))),false):=by
 have e:=qaO hb
 generalize bsO G[id]? = s at *
 have hle:id < G.length + 1:=by omega
 obtain ⟨R,rfl⟩:=hp
 have wb:=fun {G id} c d=>qby (G:=G) (id:=id) hS c d
 have ws:=fun {G id u}=>qbS (G:=G) (id:=id) hS u
 have w40:=fun {G id}=>wb (G:=G) (id:=id) 40 40 rfl
 have w41:=fun {G id}=>wb (G:=G) (id:=id) 41 41 rfl
 have w45:=fun {G id}=>wb (G:=G) (id:=id) 45 45 rfl
 generalize hw:Wd _ _ G = w
 rw [qe,qi rfl (show T.get 37 = some c37 by kernel_rfl)] at hw
 simp only [c37,sT.1,sC.1,qc,qb,Nat.testBit,simprocAttr,-Int.reduceNatCast',if_true,w40,w41,w45,ws,hlt,hle,e,qaC,qaG,List.map_cons,List.map_nil,List.getElem?_append_left,List.set_append_left,List.getElem?_set_self,List.length_set,List.length_append,List.length_cons,List.length_nil,List.append_assoc,List.cons_append,List.nil_append,List.prefix_append_right_inj,List.cons_prefix_cons,List.nil_prefix,List.prefix_append,List.set_set] at hw
 subst hw
 first
 | rfl
 | simp only [List.append_assoc,List.cons_append,List.nil_append]
set_option maxHeartbeats 4000000 in
theorem qE1 (hS:S.length ≤ qu) (hn:nm.length ≤ 16) (hlt:id < G.length) (hb:isB G[id]? = true) (hp:bsO G[id]? ++ (39 :: nm) <+: S):Wd (.fn 37 [] []) [.ptr id 0,exV (.mk 3 n nm sb [])] G = some (.ret (.tup []),G.set id (BX (bsO G[id]? ++ (39 :: nm))),false):=by
 have e:=qaO hb
 generalize bsO G[id]? = s at *
 have hle:id < G.length + 1:=by omega
 obtain ⟨R,rfl⟩:=hp
 have wb:=fun {G id} c d=>qby (G:=G) (id:=id) hS c d
 have ws:=fun {G id u}=>qbS (G:=G) (id:=id) hS u
 have w40:=fun {G id}=>wb (G:=G) (id:=id) 40 40 rfl
 have w41:=fun {G id}=>wb (G:=G) (id:=id) 41 41 rfl
 have w45:=fun {G id}=>wb (G:=G) (id:=id) 45 45 rfl
 have n0:∀k,k ≤ 200→k + nm.length ≤ qu:=fun k hk=>by unfold qu;omega
 have n1:∀k,k ≤ 200→nm.length + k ≤ qu:=fun k hk=>by unfold qu;omega
 generalize hw:Wd _ _ G = w
 rw [qe,qi rfl (show T.get 37 = some c37 by kernel_rfl)] at hw
 simp only [c37,sT.1,sC.1,qc,qb,Nat.testBit,simprocAttr,-Int.reduceNatCast',if_true,w40,w41,w45,ws,n0,n1,hlt,hle,e,qaC,qaG,List.map_cons,List.map_nil,List.getElem?_append_left,List.set_append_left,List.getElem?_set_self,List.length_set,List.length_append,List.length_cons,List.length_nil,List.append_assoc,List.cons_append,List.nil_append,List.prefix_append_right_inj,List.cons_prefix_cons,List.nil_prefix,List.prefix_append,List.set_set] at hw
 subst hw
 first
 | rfl
 | simp only [List.append_assoc,List.cons_append,List.nil_append]
set_option maxHeartbeats 4000000 in
theorem qE2 (hS:S.length ≤ qu) (hn:nm.length ≤ 16) (hlt:id < G.length) (hb:isB G[id]? = true) (hp:bsO G[id]? ++ (nm) <+: S):Wd (.fn 37 [] []) [.ptr id 0,exV (.mk 4 n nm sb [])] G = some (.ret (.tup []),G.set id (BX (bsO G[id]? ++ (nm))),false):=by
 have e:=qaO hb
 generalize bsO G[id]? = s at *
 have hle:id < G.length + 1:=by omega
 obtain ⟨R,rfl⟩:=hp
 have wb:=fun {G id} c d=>qby (G:=G) (id:=id) hS c d
 have ws:=fun {G id u}=>qbS (G:=G) (id:=id) hS u
 have w40:=fun {G id}=>wb (G:=G) (id:=id) 40 40 rfl
 have w41:=fun {G id}=>wb (G:=G) (id:=id) 41 41 rfl
 have w45:=fun {G id}=>wb (G:=G) (id:=id) 45 45 rfl
 have n0:∀k,k ≤ 200→k + nm.length ≤ qu:=fun k hk=>by unfold qu;omega
 have n1:∀k,k ≤ 200→nm.length + k ≤ qu:=fun k hk=>by unfold qu;omega
 generalize hw:Wd _ _ G = w
 rw [qe,qi rfl (show T.get 37 = some c37 by kernel_rfl)] at hw
 simp only [c37,sT.1,sC.1,qc,qb,Nat.testBit,simprocAttr,-Int.reduceNatCast',if_true,w40,w41,w45,ws,n0,n1,hlt,hle,e,qaC,qaG,List.map_cons,List.map_nil,List.getElem?_append_left,List.set_append_left,List.getElem?_set_self,List.length_set,List.length_append,List.length_cons,List.length_nil,List.append_assoc,List.cons_append,List.nil_append,List.prefix_append_right_inj,List.cons_prefix_cons,List.nil_prefix,List.prefix_append,List.set_set] at hw
 subst hw
 first
 | rfl
 | simp only [List.append_assoc,List.cons_append,List.nil_append]
set_option maxHeartbeats 4000000 in
theorem qE3 (hS:S.length ≤ qu) (hn:nm.length ≤ 16) (hs:sb.length ≤ 16) (hlt:id < G.length) (hb:isB G[id]? = true) (hp:bsO G[id]? ++ (nm ++ (46 :: sb)) <+: S):Wd (.fn 37 [] []) [.ptr id 0,exV (.mk 5 n nm sb [])] G = some (.ret (.tup []),G.set id (BX (bsO G[id]? ++ (nm ++ (46 :: sb)))),false):=by
 have e:=qaO hb
 generalize bsO G[id]? = s at *
 have hle:id < G.length + 1:=by omega
 obtain ⟨R,rfl⟩:=hp
 have wb:=fun {G id} c d=>qby (G:=G) (id:=id) hS c d
 have ws:=fun {G id u}=>qbS (G:=G) (id:=id) hS u
 have w40:=fun {G id}=>wb (G:=G) (id:=id) 40 40 rfl
 have w41:=fun {G id}=>wb (G:=G) (id:=id) 41 41 rfl
 have w45:=fun {G id}=>wb (G:=G) (id:=id) 45 45 rfl
 have n0:∀k,k ≤ 200→k + nm.length ≤ qu:=fun k hk=>by unfold qu;omega
 have n1:∀k,k ≤ 200→nm.length + k ≤ qu:=fun k hk=>by unfold qu;omega
 have s0:nm.length + (1 + sb.length) ≤ qu:=by unfold qu;omega
 have s1:nm.length + (sb.length + 1) ≤ qu:=by unfold qu;omega
 have s2:nm.length + 1 + sb.length ≤ qu:=by unfold qu;omega
 generalize hw:Wd _ _ G = w
 rw [qe,qi rfl (show T.get 37 = some c37 by kernel_rfl)] at hw
 simp only [c37,sT.1,sC.1,qc,qb,Nat.testBit,simprocAttr,-Int.reduceNatCast',if_true,w40,w41,w45,ws,n0,n1,s0,s1,s2,hlt,hle,e,qaC,qaG,List.map_cons,List.map_nil,List.getElem?_append_left,List.set_append_left,List.getElem?_set_self,List.length_set,List.length_append,List.length_cons,List.length_nil,List.append_assoc,List.cons_append,List.nil_append,List.prefix_append_right_inj,List.cons_prefix_cons,List.nil_prefix,List.prefix_append,List.set_set] at hw
 subst hw
 first
 | rfl
 | simp only [List.append_assoc,List.cons_append,List.nil_append]
set_option maxHeartbeats 4000000 in
theorem qE5 (hS:S.length ≤ qu) (hn:nm.length ≤ 16) (hlt:id < G.length) (hb:isB G[id]? = true) (hp:bsO G[id]? ++ ([99,111,117,110,116,40] ++ (nm ++ [41])) <+: S):Wd (.fn 37 [] []) [.ptr id 0,exV (.mk 7 n nm sb [])] G = some (.ret (.tup []),G.set id (BX (bsO G[id]? ++ ([99,111,117,110,116,40] ++ (nm ++ [41])))),false):=by
 have e:=qaO hb
 generalize bsO G[id]? = s at *
 have hle:id < G.length + 1:=by omega
 obtain ⟨R,rfl⟩:=hp
 have wb:=fun {G id} c d=>qby (G:=G) (id:=id) hS c d
 have ws:=fun {G id u}=>qbS (G:=G) (id:=id) hS u
 have w40:=fun {G id}=>wb (G:=G) (id:=id) 40 40 rfl
 have w41:=fun {G id}=>wb (G:=G) (id:=id) 41 41 rfl
 have w45:=fun {G id}=>wb (G:=G) (id:=id) 45 45 rfl
 have n0:∀k,k ≤ 200→k + nm.length ≤ qu:=fun k hk=>by unfold qu;omega
 have n1:∀k,k ≤ 200→nm.length + k ≤ qu:=fun k hk=>by unfold qu;omega
 generalize hw:Wd _ _ G = w
 rw [qe,qi rfl (show T.get 37 = some c37 by kernel_rfl)] at hw
 simp only [c37,sT.1,sC.1,qc,qb,Nat.testBit,simprocAttr,-Int.reduceNatCast',if_true,w40,w41,w45,ws,n0,n1,hlt,hle,e,qaC,qaG,List.map_cons,List.map_nil,List.getElem?_append_left,List.set_append_left,List.getElem?_set_self,List.length_set,List.length_append,List.length_cons,List.length_nil,List.append_assoc,List.cons_append,List.nil_append,List.prefix_append_right_inj,List.cons_prefix_cons,List.nil_prefix,List.prefix_append,List.set_set] at hw
 subst hw
 first
 | rfl
 | simp only [List.append_assoc,List.cons_append,List.nil_append]
set_option maxHeartbeats 4000000 in
theorem qE6 (hS:S.length ≤ qu) (hn:nm.length ≤ 16) (hlt:id < G.length) (hb:isB G[id]? = true) (hp:bsO G[id]? ++ ([104,97,115,40] ++ (nm ++ [41])) <+: S):Wd (.fn 37 [] []) [.ptr id 0,exV (.mk 8 n nm sb [])] G = some (.ret (.tup []),G.set id (BX (bsO G[id]? ++ ([104,97,115,40] ++ (nm ++ [41])))),false):=by
 have e:=qaO hb
 generalize bsO G[id]? = s at *
 have hle:id < G.length + 1:=by omega
 obtain ⟨R,rfl⟩:=hp
 have wb:=fun {G id} c d=>qby (G:=G) (id:=id) hS c d
 have ws:=fun {G id u}=>qbS (G:=G) (id:=id) hS u
 have w40:=fun {G id}=>wb (G:=G) (id:=id) 40 40 rfl
 have w41:=fun {G id}=>wb (G:=G) (id:=id) 41 41 rfl
 have w45:=fun {G id}=>wb (G:=G) (id:=id) 45 45 rfl
 have n0:∀k,k ≤ 200→k + nm.length ≤ qu:=fun k hk=>by unfold qu;omega
 have n1:∀k,k ≤ 200→nm.length + k ≤ qu:=fun k hk=>by unfold qu;omega
 generalize hw:Wd _ _ G = w
 rw [qe,qi rfl (show T.get 37 = some c37 by kernel_rfl)] at hw
 simp only [c37,sT.1,sC.1,qc,qb,Nat.testBit,simprocAttr,-Int.reduceNatCast',if_true,w40,w41,w45,ws,n0,n1,hlt,hle,e,qaC,qaG,List.map_cons,List.map_nil,List.getElem?_append_left,List.set_append_left,List.getElem?_set_self,List.length_set,List.length_append,List.length_cons,List.length_nil,List.append_assoc,List.cons_append,List.nil_append,List.prefix_append_right_inj,List.cons_prefix_cons,List.nil_prefix,List.prefix_append,List.set_set] at hw
 subst hw
 first
 | rfl
 | simp only [List.append_assoc,List.cons_append,List.nil_append]
set_option maxHeartbeats 4000000 in
theorem qE7 (hS:S.length ≤ qu) (hn:nm.length ≤ 16) (hlt:id < G.length) (hb:isB G[id]? = true) (hp:bsO G[id]? ++ ([115,117,109,40] ++ (nm ++ [41])) <+: S):Wd (.fn 37 [] []) [.ptr id 0,exV (.mk 9 n nm sb [])] G = some (.ret (.tup []),G.set id (BX (bsO G[id]? ++ ([115,117,109,40] ++ (nm ++ [41])))),false):=by
 have e:=qaO hb
 generalize bsO G[id]? = s at *
 have hle:id < G.length + 1:=by omega
 obtain ⟨R,rfl⟩:=hp
 have wb:=fun {G id} c d=>qby (G:=G) (id:=id) hS c d
 have ws:=fun {G id u}=>qbS (G:=G) (id:=id) hS u
 have w40:=fun {G id}=>wb (G:=G) (id:=id) 40 40 rfl
 have w41:=fun {G id}=>wb (G:=G) (id:=id) 41 41 rfl
 have w45:=fun {G id}=>wb (G:=G) (id:=id) 45 45 rfl
 have n0:∀k,k ≤ 200→k + nm.length ≤ qu:=fun k hk=>by unfold qu;omega
 have n1:∀k,k ≤ 200→nm.length + k ≤ qu:=fun k hk=>by unfold qu;omega
 generalize hw:Wd _ _ G = w
 rw [qe,qi rfl (show T.get 37 = some c37 by kernel_rfl)] at hw
 simp only [c37,sT.1,sC.1,qc,qb,Nat.testBit,simprocAttr,-Int.reduceNatCast',if_true,w40,w41,w45,ws,n0,n1,hlt,hle,e,qaC,qaG,List.map_cons,List.map_nil,List.getElem?_append_left,List.set_append_left,List.getElem?_set_self,List.length_set,List.length_append,List.length_cons,List.length_nil,List.append_assoc,List.cons_append,List.nil_append,List.prefix_append_right_inj,List.cons_prefix_cons,List.nil_prefix,List.prefix_append,List.set_set] at hw
 subst hw
 first
 | rfl
 | simp only [List.append_assoc,List.cons_append,List.nil_append]
set_option maxHeartbeats 4000000 in
theorem qCF (hS:S.length ≤ qu) {a:Exl} {ta:Str} (ka:qdA S a ta) (hn:nm.length ≤ 16) (hlt:id < G.length) (hb:isB G[id]? = true) (hp:bsO G[id]? ++ ([108,101,97,115,116,40] ++ (nm ++ ([44,32] ++ (inn 0 (a.op,ta) ++ [41])))) <+: S):Wd (.fn 37 [] []) [.ptr id 0,exV (.mk 10 n nm sb [a])] G = some (.ret (.tup []),G.set id (BX (bsO G[id]? ++ ([108,101,97,115,116,40] ++ (nm ++ ([44,32] ++ (inn 0 (a.op,ta) ++ [41])))))),false):=by
 have e:=qaO hb
 generalize bsO G[id]? = s at *
 have hle:id < G.length + 1:=by omega
 have Ia:=fun k=>qac hS ka k
 unfold qih at Ia
 obtain ⟨oa,na,ma,ba,la⟩:=a
 simp only [Exl.op] at *
 have xa:=qa5 (aS:=[Exl.mk oa na ma ba la]) (i:=0) (by simp)
 simp only [List.map_cons,List.map_nil,qe,List.getElem_cons_zero,List.getElem_cons_succ,qa6,cc0,cc1,cc2] at xa
 rw [qe] at Ia
 obtain ⟨R,rfl⟩:=hp
 have wb:=fun {G id} c d=>qby (G:=G) (id:=id) hS c d
 have ws:=fun {G id u}=>qbS (G:=G) (id:=id) hS u
 have w40:=fun {G id}=>wb (G:=G) (id:=id) 40 40 rfl
 have w41:=fun {G id}=>wb (G:=G) (id:=id) 41 41 rfl
 have w45:=fun {G id}=>wb (G:=G) (id:=id) 45 45 rfl
 have n0:∀k,k ≤ 200→k + nm.length ≤ qu:=fun k hk=>by unfold qu;omega
 have n1:∀k,k ≤ 200→nm.length + k ≤ qu:=fun k hk=>by unfold qu;omega
 generalize hw:Wd _ _ G = w
 rw [qe,qi rfl (show T.get 37 = some c37 by kernel_rfl)] at hw
 rw [List.map_cons,List.map_nil,qe] at hw
 simp only [c37,sT.1,sC.1,qc,qb,Nat.testBit,simprocAttr,-Int.reduceNatCast',if_true,Ia,xa,w40,w41,w45,ws,n0,n1,hlt,hle,e,qaC,qaG,List.map_cons,List.map_nil,List.getElem?_append_left,List.set_append_left,List.getElem?_set_self,List.length_set,List.length_append,List.length_cons,List.length_nil,List.append_assoc,List.cons_append,List.nil_append,List.prefix_append_right_inj,List.cons_prefix_cons,List.nil_prefix,List.prefix_append,List.set_set] at hw
 subst hw
 first
 | rfl
 | simp only [List.append_assoc,List.cons_append,List.nil_append]
set_option maxHeartbeats 4000000 in
theorem qCI (hS:S.length ≤ qu) {a:Exl} {ta:Str} (ka:qdA S a ta) (hlt:id < G.length) (hb:isB G[id]? = true) (hp:bsO G[id]? ++ (45 :: inn 7 (a.op,ta)) <+: S):Wd (.fn 37 [] []) [.ptr id 0,exV (.mk 13 n nm sb [a])] G = some (.ret (.tup []),G.set id (BX (bsO G[id]? ++ (45 :: inn 7 (a.op,ta)))),false):=by
 have e:=qaO hb
 generalize bsO G[id]? = s at *
 have hle:id < G.length + 1:=by omega
 have Ia:=fun k=>qac hS ka k
 unfold qih at Ia
 obtain ⟨oa,na,ma,ba,la⟩:=a
 simp only [Exl.op] at *
 have xa:=qa5 (aS:=[Exl.mk oa na ma ba la]) (i:=0) (by simp)
 simp only [List.map_cons,List.map_nil,qe,List.getElem_cons_zero,List.getElem_cons_succ,qa6,cc0,cc1,cc2] at xa
 rw [qe] at Ia
 obtain ⟨R,rfl⟩:=hp
 have wb:=fun {G id} c d=>qby (G:=G) (id:=id) hS c d
 have ws:=fun {G id u}=>qbS (G:=G) (id:=id) hS u
 have w40:=fun {G id}=>wb (G:=G) (id:=id) 40 40 rfl
 have w41:=fun {G id}=>wb (G:=G) (id:=id) 41 41 rfl
 have w45:=fun {G id}=>wb (G:=G) (id:=id) 45 45 rfl
 generalize hw:Wd _ _ G = w
 rw [qe,qi rfl (show T.get 37 = some c37 by kernel_rfl)] at hw
 rw [List.map_cons,List.map_nil,qe] at hw
 simp only [c37,sT.1,sC.1,qc,qb,Nat.testBit,simprocAttr,-Int.reduceNatCast',if_true,Ia,xa,w40,w41,w45,ws,hlt,hle,e,qaC,qaG,List.map_cons,List.map_nil,List.getElem?_append_left,List.set_append_left,List.getElem?_set_self,List.length_set,List.length_append,List.length_cons,List.length_nil,List.append_assoc,List.cons_append,List.nil_append,List.prefix_append_right_inj,List.cons_prefix_cons,List.nil_prefix,List.prefix_append,List.set_set] at hw
 subst hw
 first
 | rfl
 | simp only [List.append_assoc,List.cons_append,List.nil_append]
set_option maxHeartbeats 4000000 in
theorem qCJ (hS:S.length ≤ qu) {a:Exl} {ta:Str} (ka:qdA S a ta) (hlt:id < G.length) (hb:isB G[id]? = true) (hp:bsO G[id]? ++ ([110,111,116,32] ++ inn 3 (a.op,ta)) <+: S):Wd (.fn 37 [] []) [.ptr id 0,exV (.mk 14 n nm sb [a])] G = some (.ret (.tup []),G.set id (BX (bsO G[id]? ++ ([110,111,116,32] ++ inn 3 (a.op,ta)))),false):=by
 have e:=qaO hb
 generalize bsO G[id]? = s at *
 have hle:id < G.length + 1:=by omega
 have Ia:=fun k=>qac hS ka k
 unfold qih at Ia
 obtain ⟨oa,na,ma,ba,la⟩:=a
 simp only [Exl.op] at *
 have xa:=qa5 (aS:=[Exl.mk oa na ma ba la]) (i:=0) (by simp)
 simp only [List.map_cons,List.map_nil,qe,List.getElem_cons_zero,List.getElem_cons_succ,qa6,cc0,cc1,cc2] at xa
 rw [qe] at Ia
 obtain ⟨R,rfl⟩:=hp
 have wb:=fun {G id} c d=>qby (G:=G) (id:=id) hS c d
 have ws:=fun {G id u}=>qbS (G:=G) (id:=id) hS u
 have w40:=fun {G id}=>wb (G:=G) (id:=id) 40 40 rfl
 have w41:=fun {G id}=>wb (G:=G) (id:=id) 41 41 rfl
 have w45:=fun {G id}=>wb (G:=G) (id:=id) 45 45 rfl
 generalize hw:Wd _ _ G = w
 rw [qe,qi rfl (show T.get 37 = some c37 by kernel_rfl)] at hw
 rw [List.map_cons,List.map_nil,qe] at hw
 simp only [c37,sT.1,sC.1,qc,qb,Nat.testBit,simprocAttr,-Int.reduceNatCast',if_true,Ia,xa,w40,w41,w45,ws,hlt,hle,e,qaC,qaG,List.map_cons,List.map_nil,List.getElem?_append_left,List.set_append_left,List.getElem?_set_self,List.length_set,List.length_append,List.length_cons,List.length_nil,List.append_assoc,List.cons_append,List.nil_append,List.prefix_append_right_inj,List.cons_prefix_cons,List.nil_prefix,List.prefix_append,List.set_set] at hw
 subst hw
 first
 | rfl
 | simp only [List.append_assoc,List.cons_append,List.nil_append]
set_option maxHeartbeats 4000000 in
theorem qCU (hS:S.length ≤ qu) {a:Exl} {b:Exl} {c:Exl} {ta:Str} {tb:Str} {tc:Str} (ka:qdA S a ta) (kb:qdA S b tb) (kc:qdA S c tc) (hlt:id < G.length) (hb:isB G[id]? = true) (hp:bsO G[id]? ++ ([105,102,32] ++ (inn 0 (a.op,ta) ++ ([32,116,104,101,110,32] ++ (inn 0 (b.op,tb) ++ ([32,101,108,115,101,32] ++ inn 0 (c.op,tc)))))) <+: S):Wd (.fn 37 [] []) [.ptr id 0,exV (.mk 25 n nm sb [a,b,c])] G = some (.ret (.tup []),G.set id (BX (bsO G[id]? ++ ([105,102,32] ++ (inn 0 (a.op,ta) ++ ([32,116,104,101,110,32] ++ (inn 0 (b.op,tb) ++ ([32,101,108,115,101,32] ++ inn 0 (c.op,tc)))))))),false):=by
 have e:=qaO hb
 generalize bsO G[id]? = s at *
 have hle:id < G.length + 1:=by omega
 have Ia:=fun k=>qac hS ka k
 have Ib:=fun k=>qac hS kb k
 have Ic:=fun k=>qac hS kc k
 unfold qih at Ia Ib Ic
 obtain ⟨oa,na,ma,ba,la⟩:=a
 obtain ⟨ob,nb,mb,bb,lb⟩:=b
 obtain ⟨oc,nc,mc,bc,lc⟩:=c
 simp only [Exl.op] at *
 have xa:=qa5 (aS:=[Exl.mk oa na ma ba la,Exl.mk ob nb mb bb lb,Exl.mk oc nc mc bc lc]) (i:=0) (by simp)
 have xb:=qa5 (aS:=[Exl.mk oa na ma ba la,Exl.mk ob nb mb bb lb,Exl.mk oc nc mc bc lc]) (i:=1) (by simp)
 have xc:=qa5 (aS:=[Exl.mk oa na ma ba la,Exl.mk ob nb mb bb lb,Exl.mk oc nc mc bc lc]) (i:=2) (by simp)
 simp only [List.map_cons,List.map_nil,qe,List.getElem_cons_zero,List.getElem_cons_succ,qa6,cc0,cc1,cc2] at xa xb xc
 rw [qe] at Ia Ib Ic
 obtain ⟨R,rfl⟩:=hp
 have wb:=fun {G id} c d=>qby (G:=G) (id:=id) hS c d
 have ws:=fun {G id u}=>qbS (G:=G) (id:=id) hS u
 have w40:=fun {G id}=>wb (G:=G) (id:=id) 40 40 rfl
 have w41:=fun {G id}=>wb (G:=G) (id:=id) 41 41 rfl
 have w45:=fun {G id}=>wb (G:=G) (id:=id) 45 45 rfl
 generalize hw:Wd _ _ G = w
 rw [qe,qi rfl (show T.get 37 = some c37 by kernel_rfl)] at hw
 rw [List.map_cons,List.map_cons,List.map_cons,List.map_nil,qe,qe,qe] at hw
 simp only [c37,sT.1,sC.1,qc,qb,Nat.testBit,simprocAttr,-Int.reduceNatCast',if_true,Ia,xa,Ib,xb,Ic,xc,w40,w41,w45,ws,hlt,hle,e,qaC,qaG,List.map_cons,List.map_nil,List.getElem?_append_left,List.set_append_left,List.getElem?_set_self,List.length_set,List.length_append,List.length_cons,List.length_nil,List.append_assoc,List.cons_append,List.nil_append,List.prefix_append_right_inj,List.cons_prefix_cons,List.nil_prefix,List.prefix_append,List.set_set] at hw
 subst hw
 first
 | rfl
 | simp only [List.append_assoc,List.cons_append,List.nil_append]
set_option maxHeartbeats 4000000 in
theorem qCK (hS:S.length ≤ qu) {a:Exl} {b:Exl} {ta:Str} {tb:Str} (ka:qdA S a ta) (kb:qdA S b tb) (hlt:id < G.length) (hb:isB G[id]? = true) (hp:bsO G[id]? ++ (inn (sgn 15).2.1 (a.op,ta) ++ ((sgn 15).1 ++ inn (sgn 15).2.2 (b.op,tb))) <+: S):Wd (.fn 37 [] []) [.ptr id 0,exV (.mk 15 n nm sb [a,b])] G = some (.ret (.tup []),G.set id (BX (bsO G[id]? ++ (inn (sgn 15).2.1 (a.op,ta) ++ ((sgn 15).1 ++ inn (sgn 15).2.2 (b.op,tb))))),false):=by
 have e:=qaO hb
 generalize bsO G[id]? = s at *
 have hle:id < G.length + 1:=by omega
 have Ia:=fun k=>qac hS ka k
 have Ib:=fun k=>qac hS kb k
 unfold qih at Ia Ib
 obtain ⟨oa,na,ma,ba,la⟩:=a
 obtain ⟨ob,nb,mb,bb,lb⟩:=b
 simp only [Exl.op] at *
 have xa:=qa5 (aS:=[Exl.mk oa na ma ba la,Exl.mk ob nb mb bb lb]) (i:=0) (by simp)
 have xb:=qa5 (aS:=[Exl.mk oa na ma ba la,Exl.mk ob nb mb bb lb]) (i:=1) (by simp)
 simp only [List.map_cons,List.map_nil,qe,List.getElem_cons_zero,List.getElem_cons_succ,qa6,cc0,cc1,cc2] at xa xb
 rw [qe] at Ia Ib
 obtain ⟨R,rfl⟩:=hp
 have wb:=fun {G id} c d=>qby (G:=G) (id:=id) hS c d
 have ws:=fun {G id u}=>qbS (G:=G) (id:=id) hS u
 have w40:=fun {G id}=>wb (G:=G) (id:=id) 40 40 rfl
 have w41:=fun {G id}=>wb (G:=G) (id:=id) 41 41 rfl
 have w45:=fun {G id}=>wb (G:=G) (id:=id) 45 45 rfl
 have hsg:=fun G=>qbB 15 G (by omega) (by omega)
 generalize hw:Wd _ _ G = w
 rw [qe,qi rfl (show T.get 37 = some c37 by kernel_rfl)] at hw
 rw [List.map_cons,List.map_cons,List.map_nil,qe,qe] at hw
 simp only [c37,sT.1,sC.1,qc,qb,Nat.testBit,simprocAttr,-Int.reduceNatCast',if_true,Ia,xa,Ib,xb,w40,w41,w45,ws,hsg,hlt,hle,e,qaC,qaG,List.map_cons,List.map_nil,List.getElem?_append_left,List.set_append_left,List.getElem?_set_self,List.length_set,List.length_append,List.length_cons,List.length_nil,List.append_assoc,List.cons_append,List.nil_append,List.prefix_append_right_inj,List.cons_prefix_cons,List.nil_prefix,List.prefix_append,List.set_set] at hw
 subst hw
 first
 | rfl
 | simp only [List.append_assoc,List.cons_append,List.nil_append]
set_option maxHeartbeats 4000000 in
theorem qCL (hS:S.length ≤ qu) {a:Exl} {b:Exl} {ta:Str} {tb:Str} (ka:qdA S a ta) (kb:qdA S b tb) (hlt:id < G.length) (hb:isB G[id]? = true) (hp:bsO G[id]? ++ (inn (sgn 16).2.1 (a.op,ta) ++ ((sgn 16).1 ++ inn (sgn 16).2.2 (b.op,tb))) <+: S):Wd (.fn 37 [] []) [.ptr id 0,exV (.mk 16 n nm sb [a,b])] G = some (.ret (.tup []),G.set id (BX (bsO G[id]? ++ (inn (sgn 16).2.1 (a.op,ta) ++ ((sgn 16).1 ++ inn (sgn 16).2.2 (b.op,tb))))),false):=by
 have e:=qaO hb
 generalize bsO G[id]? = s at *
 have hle:id < G.length + 1:=by omega
 have Ia:=fun k=>qac hS ka k
 have Ib:=fun k=>qac hS kb k
 unfold qih at Ia Ib
 obtain ⟨oa,na,ma,ba,la⟩:=a
 obtain ⟨ob,nb,mb,bb,lb⟩:=b
 simp only [Exl.op] at *
 have xa:=qa5 (aS:=[Exl.mk oa na ma ba la,Exl.mk ob nb mb bb lb]) (i:=0) (by simp)
 have xb:=qa5 (aS:=[Exl.mk oa na ma ba la,Exl.mk ob nb mb bb lb]) (i:=1) (by simp)
 simp only [List.map_cons,List.map_nil,qe,List.getElem_cons_zero,List.getElem_cons_succ,qa6,cc0,cc1,cc2] at xa xb
 rw [qe] at Ia Ib
 obtain ⟨R,rfl⟩:=hp
 have wb:=fun {G id} c d=>qby (G:=G) (id:=id) hS c d
 have ws:=fun {G id u}=>qbS (G:=G) (id:=id) hS u
 have w40:=fun {G id}=>wb (G:=G) (id:=id) 40 40 rfl
 have w41:=fun {G id}=>wb (G:=G) (id:=id) 41 41 rfl
 have w45:=fun {G id}=>wb (G:=G) (id:=id) 45 45 rfl
 have hsg:=fun G=>qbB 16 G (by omega) (by omega)
 generalize hw:Wd _ _ G = w
 rw [qe,qi rfl (show T.get 37 = some c37 by kernel_rfl)] at hw
 rw [List.map_cons,List.map_cons,List.map_nil,qe,qe] at hw
 simp only [c37,sT.1,sC.1,qc,qb,Nat.testBit,simprocAttr,-Int.reduceNatCast',if_true,Ia,xa,Ib,xb,w40,w41,w45,ws,hsg,hlt,hle,e,qaC,qaG,List.map_cons,List.map_nil,List.getElem?_append_left,List.set_append_left,List.getElem?_set_self,List.length_set,List.length_append,List.length_cons,List.length_nil,List.append_assoc,List.cons_append,List.nil_append,List.prefix_append_right_inj,List.cons_prefix_cons,List.nil_prefix,List.prefix_append,List.set_set] at hw
 subst hw
 first
 | rfl
 | simp only [List.append_assoc,List.cons_append,List.nil_append]
set_option maxHeartbeats 4000000 in
theorem qCM (hS:S.length ≤ qu) {a:Exl} {b:Exl} {ta:Str} {tb:Str} (ka:qdA S a ta) (kb:qdA S b tb) (hlt:id < G.length) (hb:isB G[id]? = true) (hp:bsO G[id]? ++ (inn (sgn 17).2.1 (a.op,ta) ++ ((sgn 17).1 ++ inn (sgn 17).2.2 (b.op,tb))) <+: S):Wd (.fn 37 [] []) [.ptr id 0,exV (.mk 17 n nm sb [a,b])] G = some (.ret (.tup []),G.set id (BX (bsO G[id]? ++ (inn (sgn 17).2.1 (a.op,ta) ++ ((sgn 17).1 ++ inn (sgn 17).2.2 (b.op,tb))))),false):=by
 have e:=qaO hb
 generalize bsO G[id]? = s at *
 have hle:id < G.length + 1:=by omega
 have Ia:=fun k=>qac hS ka k
 have Ib:=fun k=>qac hS kb k
 unfold qih at Ia Ib
 obtain ⟨oa,na,ma,ba,la⟩:=a
 obtain ⟨ob,nb,mb,bb,lb⟩:=b
 simp only [Exl.op] at *
 have xa:=qa5 (aS:=[Exl.mk oa na ma ba la,Exl.mk ob nb mb bb lb]) (i:=0) (by simp)
 have xb:=qa5 (aS:=[Exl.mk oa na ma ba la,Exl.mk ob nb mb bb lb]) (i:=1) (by simp)
 simp only [List.map_cons,List.map_nil,qe,List.getElem_cons_zero,List.getElem_cons_succ,qa6,cc0,cc1,cc2] at xa xb
 rw [qe] at Ia Ib
 obtain ⟨R,rfl⟩:=hp
 have wb:=fun {G id} c d=>qby (G:=G) (id:=id) hS c d
 have ws:=fun {G id u}=>qbS (G:=G) (id:=id) hS u
 have w40:=fun {G id}=>wb (G:=G) (id:=id) 40 40 rfl
 have w41:=fun {G id}=>wb (G:=G) (id:=id) 41 41 rfl
 have w45:=fun {G id}=>wb (G:=G) (id:=id) 45 45 rfl
 have hsg:=fun G=>qbB 17 G (by omega) (by omega)
 generalize hw:Wd _ _ G = w
 rw [qe,qi rfl (show T.get 37 = some c37 by kernel_rfl)] at hw
 rw [List.map_cons,List.map_cons,List.map_nil,qe,qe] at hw
 simp only [c37,sT.1,sC.1,qc,qb,Nat.testBit,simprocAttr,-Int.reduceNatCast',if_true,Ia,xa,Ib,xb,w40,w41,w45,ws,hsg,hlt,hle,e,qaC,qaG,List.map_cons,List.map_nil,List.getElem?_append_left,List.set_append_left,List.getElem?_set_self,List.length_set,List.length_append,List.length_cons,List.length_nil,List.append_assoc,List.cons_append,List.nil_append,List.prefix_append_right_inj,List.cons_prefix_cons,List.nil_prefix,List.prefix_append,List.set_set] at hw
 subst hw
 first
 | rfl
 | simp only [List.append_assoc,List.cons_append,List.nil_append]
set_option maxHeartbeats 4000000 in
theorem qCN (hS:S.length ≤ qu) {a:Exl} {b:Exl} {ta:Str} {tb:Str} (ka:qdA S a ta) (kb:qdA S b tb) (hlt:id < G.length) (hb:isB G[id]? = true) (hp:bsO G[id]? ++ (inn (sgn 18).2.1 (a.op,ta) ++ ((sgn 18).1 ++ inn (sgn 18).2.2 (b.op,tb))) <+: S):Wd (.fn 37 [] []) [.ptr id 0,exV (.mk 18 n nm sb [a,b])] G = some (.ret (.tup []),G.set id (BX (bsO G[id]? ++ (inn (sgn 18).2.1 (a.op,ta) ++ ((sgn 18).1 ++ inn (sgn 18).2.2 (b.op,tb))))),false):=by
 have e:=qaO hb
 generalize bsO G[id]? = s at *
 have hle:id < G.length + 1:=by omega
 have Ia:=fun k=>qac hS ka k
 have Ib:=fun k=>qac hS kb k
 unfold qih at Ia Ib
 obtain ⟨oa,na,ma,ba,la⟩:=a
 obtain ⟨ob,nb,mb,bb,lb⟩:=b
 simp only [Exl.op] at *
 have xa:=qa5 (aS:=[Exl.mk oa na ma ba la,Exl.mk ob nb mb bb lb]) (i:=0) (by simp)
 have xb:=qa5 (aS:=[Exl.mk oa na ma ba la,Exl.mk ob nb mb bb lb]) (i:=1) (by simp)
 simp only [List.map_cons,List.map_nil,qe,List.getElem_cons_zero,List.getElem_cons_succ,qa6,cc0,cc1,cc2] at xa xb
 rw [qe] at Ia Ib
 obtain ⟨R,rfl⟩:=hp
 have wb:=fun {G id} c d=>qby (G:=G) (id:=id) hS c d
 have ws:=fun {G id u}=>qbS (G:=G) (id:=id) hS u
 have w40:=fun {G id}=>wb (G:=G) (id:=id) 40 40 rfl
 have w41:=fun {G id}=>wb (G:=G) (id:=id) 41 41 rfl
 have w45:=fun {G id}=>wb (G:=G) (id:=id) 45 45 rfl
 have hsg:=fun G=>qbB 18 G (by omega) (by omega)
 generalize hw:Wd _ _ G = w
 rw [qe,qi rfl (show T.get 37 = some c37 by kernel_rfl)] at hw
 rw [List.map_cons,List.map_cons,List.map_nil,qe,qe] at hw
 simp only [c37,sT.1,sC.1,qc,qb,Nat.testBit,simprocAttr,-Int.reduceNatCast',if_true,Ia,xa,Ib,xb,w40,w41,w45,ws,hsg,hlt,hle,e,qaC,qaG,List.map_cons,List.map_nil,List.getElem?_append_left,List.set_append_left,List.getElem?_set_self,List.length_set,List.length_append,List.length_cons,List.length_nil,List.append_assoc,List.cons_append,List.nil_append,List.prefix_append_right_inj,List.cons_prefix_cons,List.nil_prefix,List.prefix_append,List.set_set] at hw
 subst hw
 first
 | rfl
 | simp only [List.append_assoc,List.cons_append,List.nil_append]
set_option maxHeartbeats 4000000 in
theorem qCO (hS:S.length ≤ qu) {a:Exl} {b:Exl} {ta:Str} {tb:Str} (ka:qdA S a ta) (kb:qdA S b tb) (hlt:id < G.length) (hb:isB G[id]? = true) (hp:bsO G[id]? ++ (inn (sgn 19).2.1 (a.op,ta) ++ ((sgn 19).1 ++ inn (sgn 19).2.2 (b.op,tb))) <+: S):Wd (.fn 37 [] []) [.ptr id 0,exV (.mk 19 n nm sb [a,b])] G = some (.ret (.tup []),G.set id (BX (bsO G[id]? ++ (inn (sgn 19).2.1 (a.op,ta) ++ ((sgn 19).1 ++ inn (sgn 19).2.2 (b.op,tb))))),false):=by
 have e:=qaO hb
 generalize bsO G[id]? = s at *
 have hle:id < G.length + 1:=by omega
 have Ia:=fun k=>qac hS ka k
 have Ib:=fun k=>qac hS kb k
 unfold qih at Ia Ib
 obtain ⟨oa,na,ma,ba,la⟩:=a
 obtain ⟨ob,nb,mb,bb,lb⟩:=b
 simp only [Exl.op] at *
 have xa:=qa5 (aS:=[Exl.mk oa na ma ba la,Exl.mk ob nb mb bb lb]) (i:=0) (by simp)
 have xb:=qa5 (aS:=[Exl.mk oa na ma ba la,Exl.mk ob nb mb bb lb]) (i:=1) (by simp)
 simp only [List.map_cons,List.map_nil,qe,List.getElem_cons_zero,List.getElem_cons_succ,qa6,cc0,cc1,cc2] at xa xb
 rw [qe] at Ia Ib
 obtain ⟨R,rfl⟩:=hp
 have wb:=fun {G id} c d=>qby (G:=G) (id:=id) hS c d
 have ws:=fun {G id u}=>qbS (G:=G) (id:=id) hS u
 have w40:=fun {G id}=>wb (G:=G) (id:=id) 40 40 rfl
 have w41:=fun {G id}=>wb (G:=G) (id:=id) 41 41 rfl
 have w45:=fun {G id}=>wb (G:=G) (id:=id) 45 45 rfl
 have hsg:=fun G=>qbB 19 G (by omega) (by omega)
 generalize hw:Wd _ _ G = w
 rw [qe,qi rfl (show T.get 37 = some c37 by kernel_rfl)] at hw
 rw [List.map_cons,List.map_cons,List.map_nil,qe,qe] at hw
 simp only [c37,sT.1,sC.1,qc,qb,Nat.testBit,simprocAttr,-Int.reduceNatCast',if_true,Ia,xa,Ib,xb,w40,w41,w45,ws,hsg,hlt,hle,e,qaC,qaG,List.map_cons,List.map_nil,List.getElem?_append_left,List.set_append_left,List.getElem?_set_self,List.length_set,List.length_append,List.length_cons,List.length_nil,List.append_assoc,List.cons_append,List.nil_append,List.prefix_append_right_inj,List.cons_prefix_cons,List.nil_prefix,List.prefix_append,List.set_set] at hw
 subst hw
 first
 | rfl
 | simp only [List.append_assoc,List.cons_append,List.nil_append]
set_option maxHeartbeats 4000000 in
theorem qCP (hS:S.length ≤ qu) {a:Exl} {b:Exl} {ta:Str} {tb:Str} (ka:qdA S a ta) (kb:qdA S b tb) (hlt:id < G.length) (hb:isB G[id]? = true) (hp:bsO G[id]? ++ (inn (sgn 20).2.1 (a.op,ta) ++ ((sgn 20).1 ++ inn (sgn 20).2.2 (b.op,tb))) <+: S):Wd (.fn 37 [] []) [.ptr id 0,exV (.mk 20 n nm sb [a,b])] G = some (.ret (.tup []),G.set id (BX (bsO G[id]? ++ (inn (sgn 20).2.1 (a.op,ta) ++ ((sgn 20).1 ++ inn (sgn 20).2.2 (b.op,tb))))),false):=by
 have e:=qaO hb
 generalize bsO G[id]? = s at *
 have hle:id < G.length + 1:=by omega
 have Ia:=fun k=>qac hS ka k
 have Ib:=fun k=>qac hS kb k
 unfold qih at Ia Ib
 obtain ⟨oa,na,ma,ba,la⟩:=a
 obtain ⟨ob,nb,mb,bb,lb⟩:=b
 simp only [Exl.op] at *
 have xa:=qa5 (aS:=[Exl.mk oa na ma ba la,Exl.mk ob nb mb bb lb]) (i:=0) (by simp)
 have xb:=qa5 (aS:=[Exl.mk oa na ma ba la,Exl.mk ob nb mb bb lb]) (i:=1) (by simp)
 simp only [List.map_cons,List.map_nil,qe,List.getElem_cons_zero,List.getElem_cons_succ,qa6,cc0,cc1,cc2] at xa xb
 rw [qe] at Ia Ib
 obtain ⟨R,rfl⟩:=hp
 have wb:=fun {G id} c d=>qby (G:=G) (id:=id) hS c d
 have ws:=fun {G id u}=>qbS (G:=G) (id:=id) hS u
 have w40:=fun {G id}=>wb (G:=G) (id:=id) 40 40 rfl
 have w41:=fun {G id}=>wb (G:=G) (id:=id) 41 41 rfl
 have w45:=fun {G id}=>wb (G:=G) (id:=id) 45 45 rfl
 have hsg:=fun G=>qbB 20 G (by omega) (by omega)
 generalize hw:Wd _ _ G = w
 rw [qe,qi rfl (show T.get 37 = some c37 by kernel_rfl)] at hw
 rw [List.map_cons,List.map_cons,List.map_nil,qe,qe] at hw
 simp only [c37,sT.1,sC.1,qc,qb,Nat.testBit,simprocAttr,-Int.reduceNatCast',if_true,Ia,xa,Ib,xb,w40,w41,w45,ws,hsg,hlt,hle,e,qaC,qaG,List.map_cons,List.map_nil,List.getElem?_append_left,List.set_append_left,List.getElem?_set_self,List.length_set,List.length_append,List.length_cons,List.length_nil,List.append_assoc,List.cons_append,List.nil_append,List.prefix_append_right_inj,List.cons_prefix_cons,List.nil_prefix,List.prefix_append,List.set_set] at hw
 subst hw
 first
 | rfl
 | simp only [List.append_assoc,List.cons_append,List.nil_append]
set_option maxHeartbeats 4000000 in
theorem qCQ (hS:S.length ≤ qu) {a:Exl} {b:Exl} {ta:Str} {tb:Str} (ka:qdA S a ta) (kb:qdA S b tb) (hlt:id < G.length) (hb:isB G[id]? = true) (hp:bsO G[id]? ++ (inn (sgn 21).2.1 (a.op,ta) ++ ((sgn 21).1 ++ inn (sgn 21).2.2 (b.op,tb))) <+: S):Wd (.fn 37 [] []) [.ptr id 0,exV (.mk 21 n nm sb [a,b])] G = some (.ret (.tup []),G.set id (BX (bsO G[id]? ++ (inn (sgn 21).2.1 (a.op,ta) ++ ((sgn 21).1 ++ inn (sgn 21).2.2 (b.op,tb))))),false):=by
 have e:=qaO hb
 generalize bsO G[id]? = s at *
 have hle:id < G.length + 1:=by omega
 have Ia:=fun k=>qac hS ka k
 have Ib:=fun k=>qac hS kb k
 unfold qih at Ia Ib
 obtain ⟨oa,na,ma,ba,la⟩:=a
 obtain ⟨ob,nb,mb,bb,lb⟩:=b
 simp only [Exl.op] at *
 have xa:=qa5 (aS:=[Exl.mk oa na ma ba la,Exl.mk ob nb mb bb lb]) (i:=0) (by simp)
 have xb:=qa5 (aS:=[Exl.mk oa na ma ba la,Exl.mk ob nb mb bb lb]) (i:=1) (by simp)
 simp only [List.map_cons,List.map_nil,qe,List.getElem_cons_zero,List.getElem_cons_succ,qa6,cc0,cc1,cc2] at xa xb
 rw [qe] at Ia Ib
 obtain ⟨R,rfl⟩:=hp
 have wb:=fun {G id} c d=>qby (G:=G) (id:=id) hS c d
 have ws:=fun {G id u}=>qbS (G:=G) (id:=id) hS u
 have w40:=fun {G id}=>wb (G:=G) (id:=id) 40 40 rfl
 have w41:=fun {G id}=>wb (G:=G) (id:=id) 41 41 rfl
 have w45:=fun {G id}=>wb (G:=G) (id:=id) 45 45 rfl
 have hsg:=fun G=>qbB 21 G (by omega) (by omega)
 generalize hw:Wd _ _ G = w
 rw [qe,qi rfl (show T.get 37 = some c37 by kernel_rfl)] at hw
 rw [List.map_cons,List.map_cons,List.map_nil,qe,qe] at hw
 simp only [c37,sT.1,sC.1,qc,qb,Nat.testBit,simprocAttr,-Int.reduceNatCast',if_true,Ia,xa,Ib,xb,w40,w41,w45,ws,hsg,hlt,hle,e,qaC,qaG,List.map_cons,List.map_nil,List.getElem?_append_left,List.set_append_left,List.getElem?_set_self,List.length_set,List.length_append,List.length_cons,List.length_nil,List.append_assoc,List.cons_append,List.nil_append,List.prefix_append_right_inj,List.cons_prefix_cons,List.nil_prefix,List.prefix_append,List.set_set] at hw
 subst hw
 first
 | rfl
 | simp only [List.append_assoc,List.cons_append,List.nil_append]
set_option maxHeartbeats 4000000 in
theorem qCR (hS:S.length ≤ qu) {a:Exl} {b:Exl} {ta:Str} {tb:Str} (ka:qdA S a ta) (kb:qdA S b tb) (hlt:id < G.length) (hb:isB G[id]? = true) (hp:bsO G[id]? ++ (inn (sgn 22).2.1 (a.op,ta) ++ ((sgn 22).1 ++ inn (sgn 22).2.2 (b.op,tb))) <+: S):Wd (.fn 37 [] []) [.ptr id 0,exV (.mk 22 n nm sb [a,b])] G = some (.ret (.tup []),G.set id (BX (bsO G[id]? ++ (inn (sgn 22).2.1 (a.op,ta) ++ ((sgn 22).1 ++ inn (sgn 22).2.2 (b.op,tb))))),false):=by
 have e:=qaO hb
 generalize bsO G[id]? = s at *
 have hle:id < G.length + 1:=by omega
 have Ia:=fun k=>qac hS ka k
 have Ib:=fun k=>qac hS kb k
 unfold qih at Ia Ib
 obtain ⟨oa,na,ma,ba,la⟩:=a
 obtain ⟨ob,nb,mb,bb,lb⟩:=b
 simp only [Exl.op] at *
 have xa:=qa5 (aS:=[Exl.mk oa na ma ba la,Exl.mk ob nb mb bb lb]) (i:=0) (by simp)
 have xb:=qa5 (aS:=[Exl.mk oa na ma ba la,Exl.mk ob nb mb bb lb]) (i:=1) (by simp)
 simp only [List.map_cons,List.map_nil,qe,List.getElem_cons_zero,List.getElem_cons_succ,qa6,cc0,cc1,cc2] at xa xb
 rw [qe] at Ia Ib
 obtain ⟨R,rfl⟩:=hp
 have wb:=fun {G id} c d=>qby (G:=G) (id:=id) hS c d
 have ws:=fun {G id u}=>qbS (G:=G) (id:=id) hS u
 have w40:=fun {G id}=>wb (G:=G) (id:=id) 40 40 rfl
 have w41:=fun {G id}=>wb (G:=G) (id:=id) 41 41 rfl
 have w45:=fun {G id}=>wb (G:=G) (id:=id) 45 45 rfl
 have hsg:=fun G=>qbB 22 G (by omega) (by omega)
 generalize hw:Wd _ _ G = w
 rw [qe,qi rfl (show T.get 37 = some c37 by kernel_rfl)] at hw
 rw [List.map_cons,List.map_cons,List.map_nil,qe,qe] at hw
 simp only [c37,sT.1,sC.1,qc,qb,Nat.testBit,simprocAttr,-Int.reduceNatCast',if_true,Ia,xa,Ib,xb,w40,w41,w45,ws,hsg,hlt,hle,e,qaC,qaG,List.map_cons,List.map_nil,List.getElem?_append_left,List.set_append_left,List.getElem?_set_self,List.length_set,List.length_append,List.length_cons,List.length_nil,List.append_assoc,List.cons_append,List.nil_append,List.prefix_append_right_inj,List.cons_prefix_cons,List.nil_prefix,List.prefix_append,List.set_set] at hw
 subst hw
 first
 | rfl
 | simp only [List.append_assoc,List.cons_append,List.nil_append]
set_option maxHeartbeats 4000000 in
theorem qCS (hS:S.length ≤ qu) {a:Exl} {b:Exl} {ta:Str} {tb:Str} (ka:qdA S a ta) (kb:qdA S b tb) (hlt:id < G.length) (hb:isB G[id]? = true) (hp:bsO G[id]? ++ (inn (sgn 23).2.1 (a.op,ta) ++ ((sgn 23).1 ++ inn (sgn 23).2.2 (b.op,tb))) <+: S):Wd (.fn 37 [] []) [.ptr id 0,exV (.mk 23 n nm sb [a,b])] G = some (.ret (.tup []),G.set id (BX (bsO G[id]? ++ (inn (sgn 23).2.1 (a.op,ta) ++ ((sgn 23).1 ++ inn (sgn 23).2.2 (b.op,tb))))),false):=by
 have e:=qaO hb
 generalize bsO G[id]? = s at *
 have hle:id < G.length + 1:=by omega
 have Ia:=fun k=>qac hS ka k
 have Ib:=fun k=>qac hS kb k
 unfold qih at Ia Ib
 obtain ⟨oa,na,ma,ba,la⟩:=a
 obtain ⟨ob,nb,mb,bb,lb⟩:=b
 simp only [Exl.op] at *
 have xa:=qa5 (aS:=[Exl.mk oa na ma ba la,Exl.mk ob nb mb bb lb]) (i:=0) (by simp)
 have xb:=qa5 (aS:=[Exl.mk oa na ma ba la,Exl.mk ob nb mb bb lb]) (i:=1) (by simp)
 simp only [List.map_cons,List.map_nil,qe,List.getElem_cons_zero,List.getElem_cons_succ,qa6,cc0,cc1,cc2] at xa xb
 rw [qe] at Ia Ib
 obtain ⟨R,rfl⟩:=hp
 have wb:=fun {G id} c d=>qby (G:=G) (id:=id) hS c d
 have ws:=fun {G id u}=>qbS (G:=G) (id:=id) hS u
 have w40:=fun {G id}=>wb (G:=G) (id:=id) 40 40 rfl
 have w41:=fun {G id}=>wb (G:=G) (id:=id) 41 41 rfl
 have w45:=fun {G id}=>wb (G:=G) (id:=id) 45 45 rfl
 have hsg:=fun G=>qbB 23 G (by omega) (by omega)
 generalize hw:Wd _ _ G = w
 rw [qe,qi rfl (show T.get 37 = some c37 by kernel_rfl)] at hw
 rw [List.map_cons,List.map_cons,List.map_nil,qe,qe] at hw
 simp only [c37,sT.1,sC.1,qc,qb,Nat.testBit,simprocAttr,-Int.reduceNatCast',if_true,Ia,xa,Ib,xb,w40,w41,w45,ws,hsg,hlt,hle,e,qaC,qaG,List.map_cons,List.map_nil,List.getElem?_append_left,List.set_append_left,List.getElem?_set_self,List.length_set,List.length_append,List.length_cons,List.length_nil,List.append_assoc,List.cons_append,List.nil_append,List.prefix_append_right_inj,List.cons_prefix_cons,List.nil_prefix,List.prefix_append,List.set_set] at hw
 subst hw
 first
 | rfl
 | simp only [List.append_assoc,List.cons_append,List.nil_append]
set_option maxHeartbeats 4000000 in
theorem qCT (hS:S.length ≤ qu) {a:Exl} {b:Exl} {ta:Str} {tb:Str} (ka:qdA S a ta) (kb:qdA S b tb) (hlt:id < G.length) (hb:isB G[id]? = true) (hp:bsO G[id]? ++ (inn (sgn 24).2.1 (a.op,ta) ++ ((sgn 24).1 ++ inn (sgn 24).2.2 (b.op,tb))) <+: S):Wd (.fn 37 [] []) [.ptr id 0,exV (.mk 24 n nm sb [a,b])] G = some (.ret (.tup []),G.set id (BX (bsO G[id]? ++ (inn (sgn 24).2.1 (a.op,ta) ++ ((sgn 24).1 ++ inn (sgn 24).2.2 (b.op,tb))))),false):=by
 have e:=qaO hb
 generalize bsO G[id]? = s at *
 have hle:id < G.length + 1:=by omega
 have Ia:=fun k=>qac hS ka k
 have Ib:=fun k=>qac hS kb k
 unfold qih at Ia Ib
 obtain ⟨oa,na,ma,ba,la⟩:=a
 obtain ⟨ob,nb,mb,bb,lb⟩:=b
 simp only [Exl.op] at *
 have xa:=qa5 (aS:=[Exl.mk oa na ma ba la,Exl.mk ob nb mb bb lb]) (i:=0) (by simp)
 have xb:=qa5 (aS:=[Exl.mk oa na ma ba la,Exl.mk ob nb mb bb lb]) (i:=1) (by simp)
 simp only [List.map_cons,List.map_nil,qe,List.getElem_cons_zero,List.getElem_cons_succ,qa6,cc0,cc1,cc2] at xa xb
 rw [qe] at Ia Ib
 obtain ⟨R,rfl⟩:=hp
 have wb:=fun {G id} c d=>qby (G:=G) (id:=id) hS c d
 have ws:=fun {G id u}=>qbS (G:=G) (id:=id) hS u
 have w40:=fun {G id}=>wb (G:=G) (id:=id) 40 40 rfl
 have w41:=fun {G id}=>wb (G:=G) (id:=id) 41 41 rfl
 have w45:=fun {G id}=>wb (G:=G) (id:=id) 45 45 rfl
 have hsg:=fun G=>qbB 24 G (by omega) (by omega)
 generalize hw:Wd _ _ G = w
 rw [qe,qi rfl (show T.get 37 = some c37 by kernel_rfl)] at hw
 rw [List.map_cons,List.map_cons,List.map_nil,qe,qe] at hw
 simp only [c37,sT.1,sC.1,qc,qb,Nat.testBit,simprocAttr,-Int.reduceNatCast',if_true,Ia,xa,Ib,xb,w40,w41,w45,ws,hsg,hlt,hle,e,qaC,qaG,List.map_cons,List.map_nil,List.getElem?_append_left,List.set_append_left,List.getElem?_set_self,List.length_set,List.length_append,List.length_cons,List.length_nil,List.append_assoc,List.cons_append,List.nil_append,List.prefix_append_right_inj,List.cons_prefix_cons,List.nil_prefix,List.prefix_append,List.set_set] at hw
 subst hw
 first
 | rfl
 | simp only [List.append_assoc,List.cons_append,List.nil_append]
end
end Go.Proofs.YtkmlapholimbcaaGreatDoor.AE
namespace Go.Proofs.YtkmlapholimbcaaGreatDoor.AE
open Go.AE
section
variable {S:Str} {G:List qf} {id:Nat} {n:Int} {nm sb:Str}
set_option maxHeartbeats 4000000 in
theorem qE4 (hS:S.length ≤ qu) {aS:List Exl} {f:Exl→Str} (h:∀a ∈ aS,qdA S a (f a)) (hl:aS.length ≤ 100) (hlt:id < G.length) (hb:isB G[id]? = true) (hp:bsO G[id]? ++ qkz (aS.map fun a=>(a.op,f a)) <+: S) :
  Wd (.fn 37 [] []) [.ptr id 0,exV (.mk 6 n nm sb aS)] G = some (.ret (.tup []),G.set id (BX (bsO G[id]? ++ qkz (aS.map fun a=>(a.op,f a)))),false):=by
 have e:=qaO hb
 generalize bsO G[id]? = s at *
 have hle:id < G.length + 1:=by omega
 have ht:=fun {G id}=>quF (G:=G) (id:=id) hS h hl
 generalize hw:Wd _ _ G = w
 rw [qe,qi rfl (show T.get 37 = some c37 by kernel_rfl)] at hw
 simp only [c37,sT.1,sC.1,qc,qb,Nat.testBit,simprocAttr,-Int.reduceNatCast',ht,hp,hlt,hle,e,qaC,qaG,List.getElem?_append_left,List.set_append_left,List.getElem?_set_self,List.length_set,List.length_append,List.length_cons,List.length_nil] at hw
 subst hw
 rfl
set_option maxHeartbeats 4000000 in
theorem qCH (hS:S.length ≤ qu) {a:Exl} {t:Str} (h:qdA S a t) (hn0:0 ≤ n) (hn1:n ≤ 3) (hlt:id < G.length) (hb:isB G[id]? = true) (hp:bsO G[id]? ++ (inn (bif a.op == 0 then 10 else 8) (a.op,t) ++ (46 :: Lib.itoa n)) <+: S) :
  Wd (.fn 37 [] []) [.ptr id 0,exV (.mk 12 n nm sb [a])] G = some (.ret (.tup []),G.set id (BX (bsO G[id]? ++ (inn (bif a.op == 0 then 10 else 8) (a.op,t) ++ (46 :: Lib.itoa n)))),false):=by
 have e:=qaO hb
 generalize bsO G[id]? = s at *
 have hle:id < G.length + 1:=by omega
 have ht:=fun {G id}=>qw3 hS h 12 n nm sb hn0 hn1 G id
 generalize inn (bif a.op == 0 then 10 else 8) (a.op,t) ++ (46 :: Lib.itoa n) = u at *
 rw [qe,List.map_cons,List.map_nil] at ht
 generalize hw:Wd _ _ G = w
 rw [qe,qi rfl (show T.get 37 = some c37 by kernel_rfl)] at hw
 simp only [c37,sT.1,sC.1,qc,qb,Nat.testBit,simprocAttr,-Int.reduceNatCast',ht,hp,hlt,hle,e,qaC,qaG,List.getElem?_append_left,List.set_append_left,List.getElem?_set_self,List.length_set,List.length_append,List.length_cons,List.length_nil] at hw
 subst hw
 rfl
end
def OkN:Exl→Prop
 | .mk _ n _ _ aS=>n ≤ 9223372036854775807∧∀a ∈ aS,OkN a
theorem qnm {op n:Int} {nm sb:Str} {aS:List Exl} (h:OkN (.mk op n nm sb aS)):n ≤ 9223372036854775807∧∀a ∈ aS,OkN a:=by rw [OkN] at h;exact h
theorem qbJ {α:Type} {l:List α} (h:l.length = 1):∃a,l = [a]:=by
 match l,h with
 | [a],_=>exact ⟨a,rfl⟩
theorem qaw {α:Type} {l:List α} (h:l.length = 2):∃a b,l = [a,b]:=by
 match l,h with
 | [a,b],_=>exact ⟨a,b,rfl⟩
theorem qe4 {α:Type} {l:List α} (h:l.length = 3):∃a b c,l = [a,b,c]:=by
 match l,h with
 | [a,b,c],_=>exact ⟨a,b,c,rfl⟩
theorem qrF {S:Str} (hS:S.length ≤ qu) {op n:Int} {nm sb:Str} {aS:List Exl} {f:Exl→Str} (hb:qgA op n nm sb aS.length = true) (hn:n ≤ 9223372036854775807) (h:∀a ∈ aS,qdA S a (f a)):qdA S (.mk op n nm sb aS) (ntx op n nm sb (aS.map fun a=>(a.op,f a))):=by
 have ho:0 ≤ op∧op ≤ 25:=Decidable.byContradiction fun hc=>by rw [qcl hc] at hb;cases hb
 refine ⟨ho,fun G id hlt hB hp=>?_⟩
 have an:∀{a b:Bool},(a && b) = true→a = true∧b = true:=fun h=>(Bool.and_eq_true _ _).mp h
 have:op = 0∨op = 1∨op = 2∨op = 3∨op = 4∨op = 5∨op = 6∨op = 7∨op = 8∨op = 9∨op = 10∨op = 11∨op = 12∨op = 13∨op = 14∨op = 15∨op = 16∨op = 17∨op = 18∨op = 19∨op = 20∨op = 21∨op = 22∨op = 23∨op = 24∨op = 25:=by omega
 rcases this with rfl | rfl | rfl | rfl | rfl | rfl | rfl | rfl | rfl | rfl | rfl | rfl | rfl | rfl | rfl | rfl | rfl | rfl | rfl | rfl | rfl | rfl | rfl | rfl | rfl | rfl
 ·obtain ⟨h1,h2⟩:=an (show (fB _ _ _ _ _ n nm sb aS.length && ile 0 n) = true from hb)
  have hl:aS = []:=List.length_eq_zero_iff.1 (by have:=qp h1;omega)
  subst hl
  rw [qay] at h2
  exact qEY hS (of_decide_eq_true h2) hn hlt hB hp
 ·have h1:fB false false false 0 0 n nm sb aS.length = true:=hb
  have hl:aS = []:=List.length_eq_zero_iff.1 (by have:=qp h1;omega)
  subst hl
  exact qEZ hS hlt hB hp
 ·have h1:fB false false false 0 0 n nm sb aS.length = true:=hb
  have hl:aS = []:=List.length_eq_zero_iff.1 (by have:=qp h1;omega)
  subst hl
  exact qE0 hS hlt hB hp
 ·obtain ⟨h1,h2⟩:=an (show (fB _ _ _ _ _ n nm sb aS.length && qbD nm) = true from hb)
  have hl:aS = []:=List.length_eq_zero_iff.1 (by have:=qp h1;omega)
  subst hl
  exact qE1 hS (qe6 h2).2 hlt hB hp
 ·obtain ⟨h1,h2⟩:=an (show (fB _ _ _ _ _ n nm sb aS.length && qA nm) = true from hb)
  have hl:aS = []:=List.length_eq_zero_iff.1 (by have:=qp h1;omega)
  subst hl
  exact qE2 hS (qaa h2).2 hlt hB hp
 ·obtain ⟨h1,h2⟩:=an (show (fB _ _ _ _ _ n nm sb aS.length && (qA nm && qA sb)) = true from hb)
  obtain ⟨h2,h3⟩:=an h2
  have hl:aS = []:=List.length_eq_zero_iff.1 (by have:=qp h1;omega)
  subst hl
  exact qE3 hS (qaa h2).2 (qaa h3).2 hlt hB hp
 ·have h1:fB false false false 1 4 n nm sb aS.length = true:=hb
  exact qE4 hS h (by have:=qp h1;omega) hlt hB hp
 ·obtain ⟨h1,h2⟩:=an (show (fB _ _ _ _ _ n nm sb aS.length && qA nm) = true from hb)
  have hl:aS = []:=List.length_eq_zero_iff.1 (by have:=qp h1;omega)
  subst hl
  exact qE5 hS (qaa h2).2 hlt hB hp
 ·obtain ⟨h1,h2⟩:=an (show (fB _ _ _ _ _ n nm sb aS.length && qA nm) = true from hb)
  have hl:aS = []:=List.length_eq_zero_iff.1 (by have:=qp h1;omega)
  subst hl
  exact qE6 hS (qaa h2).2 hlt hB hp
 ·obtain ⟨h1,h2⟩:=an (show (fB _ _ _ _ _ n nm sb aS.length && qA nm) = true from hb)
  have hl:aS = []:=List.length_eq_zero_iff.1 (by have:=qp h1;omega)
  subst hl
  exact qE7 hS (qaa h2).2 hlt hB hp
 ·obtain ⟨h1,h2⟩:=an (show (fB _ _ _ 1 1 n nm sb aS.length && qA nm) = true from hb)
  obtain ⟨a,rfl⟩:=qbJ (l:=aS) (by have:=qp h1;omega)
  exact qCF hS (h a (by simp)) (qaa h2).2 hlt hB hp
 ·have h1:fB false false false 0 0 n nm sb aS.length = true:=hb
  have hl:aS = []:=List.length_eq_zero_iff.1 (by have:=qp h1;omega)
  subst hl
  exact qCG hS hlt hB hp
 ·obtain ⟨h1,h2⟩:=an (show (fB _ _ _ 1 1 n nm sb aS.length && (ile 0 n && ilt n 4)) = true from hb)
  obtain ⟨a,rfl⟩:=qbJ (l:=aS) (by have:=qp h1;omega)
  simp only [Bool.and_eq_true,qay,qM,decide_eq_true_eq] at h2
  exact qCH hS (h a (by simp)) h2.1 (by omega) hlt hB hp
 ·have h1:fB false false false 1 1 n nm sb aS.length = true:=hb
  obtain ⟨a,rfl⟩:=qbJ (l:=aS) (by have:=qp h1;omega)
  exact qCI hS (h a (by simp)) hlt hB hp
 ·have h1:fB false false false 1 1 n nm sb aS.length = true:=hb
  obtain ⟨a,rfl⟩:=qbJ (l:=aS) (by have:=qp h1;omega)
  exact qCJ hS (h a (by simp)) hlt hB hp
 ·have h1:fB false false false 2 2 n nm sb aS.length = true:=hb
  obtain ⟨a,b,rfl⟩:=qaw (l:=aS) (by have:=qp h1;omega)
  exact qCK hS (h a (by simp)) (h b (by simp)) hlt hB hp
 ·have h1:fB false false false 2 2 n nm sb aS.length = true:=hb
  obtain ⟨a,b,rfl⟩:=qaw (l:=aS) (by have:=qp h1;omega)
  exact qCL hS (h a (by simp)) (h b (by simp)) hlt hB hp
 ·have h1:fB false false false 2 2 n nm sb aS.length = true:=hb
  obtain ⟨a,b,rfl⟩:=qaw (l:=aS) (by have:=qp h1;omega)
  exact qCM hS (h a (by simp)) (h b (by simp)) hlt hB hp
 ·have h1:fB false false false 2 2 n nm sb aS.length = true:=hb
  obtain ⟨a,b,rfl⟩:=qaw (l:=aS) (by have:=qp h1;omega)
  exact qCN hS (h a (by simp)) (h b (by simp)) hlt hB hp
 ·have h1:fB false false false 2 2 n nm sb aS.length = true:=hb
  obtain ⟨a,b,rfl⟩:=qaw (l:=aS) (by have:=qp h1;omega)
  exact qCO hS (h a (by simp)) (h b (by simp)) hlt hB hp
 ·have h1:fB false false false 2 2 n nm sb aS.length = true:=hb
  obtain ⟨a,b,rfl⟩:=qaw (l:=aS) (by have:=qp h1;omega)
  exact qCP hS (h a (by simp)) (h b (by simp)) hlt hB hp
 ·have h1:fB false false false 2 2 n nm sb aS.length = true:=hb
  obtain ⟨a,b,rfl⟩:=qaw (l:=aS) (by have:=qp h1;omega)
  exact qCQ hS (h a (by simp)) (h b (by simp)) hlt hB hp
 ·have h1:fB false false false 2 2 n nm sb aS.length = true:=hb
  obtain ⟨a,b,rfl⟩:=qaw (l:=aS) (by have:=qp h1;omega)
  exact qCR hS (h a (by simp)) (h b (by simp)) hlt hB hp
 ·have h1:fB false false false 2 2 n nm sb aS.length = true:=hb
  obtain ⟨a,b,rfl⟩:=qaw (l:=aS) (by have:=qp h1;omega)
  exact qCS hS (h a (by simp)) (h b (by simp)) hlt hB hp
 ·have h1:fB false false false 2 2 n nm sb aS.length = true:=hb
  obtain ⟨a,b,rfl⟩:=qaw (l:=aS) (by have:=qp h1;omega)
  exact qCT hS (h a (by simp)) (h b (by simp)) hlt hB hp
 ·have h1:fB false false false 3 3 n nm sb aS.length = true:=hb
  obtain ⟨a,b,c,rfl⟩:=qe4 (l:=aS) (by have:=qp h1;omega)
  exact qCU hS (h a (by simp)) (h b (by simp)) (h c (by simp)) hlt hB hp
theorem qrG {S:Str} (hS:S.length ≤ qu):∀(d:Nat) (e:Exl),right d e = true→OkN e→qdA S e (tx d e)
 | 0,_,h,_=>by rw [right] at h;cases h
 | d + 1,.mk op n nm sb aS,h,hn=>by
  rw [right,Bool.and_eq_true,List.all_eq_true] at h
  obtain ⟨h1,h2⟩:=qnm hn
  rw [tx]
  exact qrF hS h.1 h1 fun a ha=>qrG hS d a (h.2 a ha) (h2 a ha)
end Go.Proofs.YtkmlapholimbcaaGreatDoor.AE
