/- A part of the proof. No condition. -/
import Derived.Test.YtcbfifamliijlaaGreatDoorMb9
open Int renaming reduceNatCast'→rN
set_option maxRecDepth 100000
set_option maxHeartbeats 0
open List renaming length_append→ji,length_map→jQ,append_assoc→jp,append_nil→jF,map_map→jG,map_append→jX,nil_append→jW,cons_append→jw,getElem_cons_zero→j3
open Bool renaming and_eq_true→jk,not_false→j0
namespace Go.Proofs.YtcbfifamliijlaaGreatDoor.AE
open Go.AE
def BX (s:Str):qh:=.bld 84 5 s
def bsO:Option qh->Str
 | some (.bld _ _ s)=>s
 | _=>[]
def isB:Option qh->Bool
 | some (.bld t e _)=>Nat.beq t 84 && Nat.beq e 5
 | _=>false
theorem qaC (s:Str):bsO (some (BX s)) = s:=Eq.trans rfl rfl
theorem qaG (s:Str):isB (some (BX s)) = true:=Eq.trans rfl rfl
theorem bt:(Nat.beq 84 84 && Nat.beq 5 5) = true:=zk
theorem qaS {o:Option qh} (h:isB o = true):o = some (BX (bsO o)):=by
 unfold isB at h
 split at h
 ·rw [jk] at h
  rw [Nat.eq_of_beq_eq_true h.1,Nat.eq_of_beq_eq_true h.2]
  rfl
 ·cases h
section
variable {G:List qh} {id:Nat} {S:Str}
theorem qyw {a:Str} (hS:S.length <= qi) (h:a <+: S):a.length <= qi:=Nat.le_trans h.length_le hS
theorem qb2 (hS:S.length <= qi) (u:Str) (h:isB G[id]? = true) (hp:bsO G[id]? ++ u <+: S):Wd (.fn 31 [] []) [.ptr id 0,.str u] G = some (.ret (.tup [.int .i64 (u.length:Nat),.niliface]),G.set id (BX (bsO G[id]? ++ u)),false):=by
 have e:=qaS h
 generalize bsO G[id]? = s at *
 have hl:=qyw hS hp
 rw [ji] at hl
 have hx:wsX 84 5 Wd [.ptr id 0,.str u] G = some (.ret (.tup [.int .i64 (u.length:Nat),.niliface]),G.set id (BX (s ++ u)),false):=by
  have hb:Nat.ble (s.length + u.length) qi = true:=qj hl
  simp only [wsX,e,BX,hb,bt,Bool.and_self,cond_true]
 exact (qg3 qei (show X 31 = some (wsX 84 5) by kernel_rfl)).trans hx
theorem qbG (hS:S.length <= qi) (c:Int) (d:UInt8) (hc:c = (d.toNat:Int)) (h:isB G[id]? = true) (hp:bsO G[id]? ++ [d] <+: S):Wd (.fn 105 [] []) [.ptr id 0,.int .u8 c] G = some (.ret .niliface,G.set id (BX (bsO G[id]? ++ [d])),false):=by
 subst hc
 have e:=qaS h
 generalize bsO G[id]? = s at *
 have hl:=qyw hS hp
 rw [ji] at hl
 have hx:wbX 84 5 Wd [.ptr id 0,.int .u8 (d.toNat:Int)] G = some (.ret .niliface,G.set id (BX (s ++ [d])),false):=by
  have hb:Nat.ble s.length qi = true:=qj zo
  have h0:ile 0 (d.toNat:Int) = true:=by rw [qav];simp
  have h1:ile (d.toNat:Int) 255 = true:=by rw [qav];have:=d.toNat_lt;exact decide_eq_true zo
  have h2:(d.toNat:Int).toNat.toUInt8 = d:=by simp
  simp only [wbX,e,BX,hb,h0,h1,h2,bt,Bool.and_self,cond_true]
 exact (qg3 qei (show X 105 = some (wbX 84 5) by kernel_rfl)).trans hx
theorem qst (n:Int) (h0:0 <= n) (h1:n <= 9223372036854775807):Wd (.fn 103 [] []) [.int .i64 n] G = some (.ret (.str (Lib.itoa n)),G,false):=by
 have hx:itX Wd [.int .i64 n] G = some (.ret (.str (Lib.itoa n)),G,false):=by
  have a:ile (-9223372036854775808) n = true:=by rw [qav];exact decide_eq_true zo
  have b:ile n 9223372036854775807 = true:=by rw [qav];exact decide_eq_true h1
  simp only [itX,a,b,Bool.and_self,cond_true]
 exact (qg3 qei (show X 103 = some itX by kernel_rfl)).trans hx
theorem qxm (h:isB G[id]? = true) (hn:(bsO G[id]?).isEmpty = false):Wd (.fn 32 [] []) [.ptr id 0] G = some (.ret (.str (bsO G[id]?)),G,false):=by
 have e:=qaS h
 generalize bsO G[id]? = s at *
 have hx:stX 84 5 Wd [.ptr id 0] G = some (.ret (.str s),G,false):=by
  simp only [stX,e,BX,hn,bt,Bool.and_self,j0,cond_true]
 exact (qg3 qei (show X 32 = some (stX 84 5) by kernel_rfl)).trans hx
def qz5 (len k:Nat) (a i:qd):Option qd:=
 match a,i with
 | .ptr b o,.int _ n=>if 0 <= n/\n < (len:Int) then some (.ptr b (o + n.toNat * k)) else none
 | .iptr cs o,.int _ n=>if 0 <= n/\n < (len:Int) then some (.iptr cs (o + n.toNat * k)) else none
 | _,_=>none
theorem qAM {base:Nat} {call:AE.Call} {p:qcB} {s:St} (d:Option Nat) (n k:Nat) (x i:qB):qz base call p d (.ixaA n k x i) s = qgZ d s (qz5 n k (ev s.t x) (ev s.t i)):=by
 rw [qa4 _ _ rfl (by simp) (by simp) (by simp)]
 simp only [pureV]
 cases ev s.t x <;> cases ev s.t i <;> rfl
def ranks:List Int:=[9,9,9,9,9,9,9,9,9,9,9,9,8,7,3,5,5,6,6,6,4,4,4,2,1,0]
def rk (op:Int):Int:=ranks.getD op.toNat 9
def Exl.op:Exl->Int
 | .mk op _ _ _ _=>op
theorem qAX {e:Exl} (h0:0 <= e.op) (h1:e.op <= 25):Wd (.fn 151 [] []) [exV e] G = some (.ret (.int .i64 (rk e.op)),G,false):=by
 obtain ⟨op,n,nm,sb,aS⟩:=e
 simp only [Exl.op] at *
 rw [qt,ql 151 qEh]
 have c1:ilt op 0 = false:=by rw [qX];exact decide_eq_false zo
 have c2:ile 26 op = false:=by rw [qav];exact decide_eq_false zo
 obtain ⟨k,rfl⟩ :∃k:Nat,op = k:=⟨op.toNat,zo⟩
 have x:qz5 26 1 (.iptr g3 0) (.int .i64 (k:Nat)) = some (.iptr g3 k):=by
  have q:(0:Int) <= (k:Int)/\(k:Int) < ((26:Nat):Int):=zo
  rw [qz5,if_pos q]
  simp
 have y:(g3[k]?).map qd.dim = some (.int .i64 (rk (k:Nat))):=by
  have:k = 0\/k = 1\/k = 2\/k = 3\/k = 4\/k = 5\/k = 6\/k = 7\/k = 8\/k = 9\/k = 10\/k = 11\/k = 12\/k = 13\/k = 14\/k = 15\/k = 16\/k = 17\/k = 18\/k = 19\/k = 20\/k = 21\/k = 22\/k = 23\/k = 24\/k = 25:=zo
  rcases this with rfl | rfl | rfl | rfl | rfl | rfl | rfl | rfl | rfl | rfl | rfl | rfl | rfl | rfl | rfl | rfl | rfl | rfl | rfl | rfl | rfl | rfl | rfl | rfl | rfl | rfl <;> rfl
 simp only [qEh,sT.1,sC.1,qe,qw,seval,-rN,c1,c2,qAM,x,y]
end
def inn (k:Int) (p:Int×Str):Str:=bif ile k (rk p.1) then p.2 else 40 :: (p.2 ++ [41])
def qbV:List Str->Str
 | []=>[]
 | x :: r=>x ++ (r.map λt=>44 :: 32 :: t).flatten
theorem qiN (l:List Str) (x:Str):qbV (l ++ [x]) = bif l.isEmpty then x else qbV l ++ (44 :: 32 :: x):=by
 cases l with
 | nil=>simp [qbV]
 | cons y l=>simp [qbV]
def sgn (op:Int):Str×Int×Int:=
 bif op == 24 then ([32,111,114,32],1,2) else bif op == 23 then ([32,97,110,100,32],2,3) else bif op == 20 then ([32,61,32],5,5) else bif op == 21 then ([32,60,32],5,5) else bif op == 22 then ([32,60,61,32],5,5)
 else bif op == 15 then ([32,43,32],5,6) else bif op == 16 then ([32,45,32],5,6) else bif op == 17 then ([32,42,32],6,7) else bif op == 18 then ([32,47,32],6,7) else ([32,37,32],6,7)
theorem qbK (op:Int) (G:List qh) (h0:15 <= op) (h1:op <= 24):Wd (.fn 108 [] []) [.int .i64 op] G = some (.ret (.tup [.str (sgn op).1,.int .i64 (sgn op).2.1,.int .i64 (sgn op).2.2]),G,false):=by
 have:op = 15\/op = 16\/op = 17\/op = 18\/op = 19\/op = 20\/op = 21\/op = 22\/op = 23\/op = 24:=zo
 rw [ql 108 qD2]
 rcases this with rfl | rfl | rfl | rfl | rfl | rfl | rfl | rfl | rfl | rfl <;> (simp only [qD2,sT.1,sC.1,qe,seval,-rN];rfl)
theorem qa6 {aS:List Exl} {i:Nat} (hi:i < aS.length):qfH 5 (.lst (aS.map exV) .no) (.int .i64 (i:Nat)) = some (.iptr aS[i].enc 0):=by
 have:=qar (k:=5) (xs:=aS.map exV) (f:=.no) (j:=.i64) (x:=exV aS[i]) (by rw [List.getElem?_map,List.getElem?_eq_getElem hi];rfl) (by obtain ⟨op,n,nm,sb,E⟩:=aS[i];rw [qt];rfl)
 exact this
def qem (S:Str) (a:Exl) (t:Str):Prop:=(0 <= a.op/\a.op <= 25)/\∀(G:List qh) (id:Nat),id < G.length->isB G[id]? = true->bsO G[id]? ++ t <+: S->Wd (.fn 68 [] []) [.ptr id 0,exV a] G = some (.ret (.tup []),G.set id (BX (bsO G[id]? ++ t)),false)
def qke (S:Str) (a:Exl) (k:Int) (t:Str):Prop:=∀(G:List qh) (id:Nat),id < G.length->isB G[id]? = true->bsO G[id]? ++ t <+: S->Wd (.fn 104 [] []) [.ptr id 0,exV a,.int .i64 k] G = some (.ret (.tup []),G.set id (BX (bsO G[id]? ++ t)),false)
theorem qah {S:Str} (hS:S.length <= qi) {a:Exl} {t:Str} (h:qem S a t) (k:Int):qke S a k (inn k (a.op,t)):=by
 intro G id E hb hp
 have e:=qaS hb
 generalize bsO G[id]? = s at *
 obtain ⟨⟨h0,h1⟩,hT⟩:=h
 have hr:=λG=>qAX (G:=G) h0 h1
 obtain ⟨op,n,nm,sb,aS⟩:=a
 simp only [Exl.op] at *
 rw [qt] at hT hr ⊢
 generalize hw:Wd _ _ G = w
 rw [ql 104 qBY] at hw
 have Y:=fun {G id}=>qbG (G:=G) (id:=id) hS 40 40 rfl
 have U:=fun {G id}=>qbG (G:=G) (id:=id) hS 41 41 rfl
 have I:id < G.length + 1:=zo
 unfold inn at hp ⊢
 cases hc:ile k (rk op) with
 | true=>
  rw [hc,cond_true] at hp
  simp only [qBY,sT.1,sC.1,qe,seval,-rN,hr,hc,hT,E,I,e,qaC,qaG,hp] at hw
  subst hw
  rfl
 | false=>
  rw [hc,cond_false] at hp
  obtain ⟨R,rfl⟩:=hp
  simp only [qBY,sT.1,sC.1,qe,seval,-rN,hr,hc,hT,Y,U,E,I,e,qaC,qaG,List.prefix_append_right_inj,List.cons_prefix_cons,List.nil_prefix,List.prefix_append] at hw
  subst hw
  rfl
theorem qz4 {S:Str} (hS:S.length <= qi) {a:Exl} {t:Str} (h:qem S a t) (op n:Int) (nm sb:Str) (a6:0 <= n) (ab:n <= 3) (G:List qh) (id:Nat) (a7:id < G.length) (hb:isB G[id]? = true) (hp:bsO G[id]? ++ (inn (bif a.op == 0 then 10 else 8) (a.op,t) ++ (46 :: Lib.itoa n)) <+: S) :
  Wd (.fn 107 [] []) [.ptr id 0,exV (.mk op n nm sb [a])] G = some (.ret (.tup []),G.set id (BX (bsO G[id]? ++ (inn (bif a.op == 0 then 10 else 8) (a.op,t) ++ (46 :: Lib.itoa n)))),false):=by
 have e:=qaS hb
 generalize bsO G[id]? = s at *
 have hI:=λk=>qah hS h k
 have hi:=fun {G}=>qst (G:=G) n a6 zo
 unfold qke at hI
 obtain ⟨U,n',a1,Y,aa⟩:=a
 simp only [Exl.op] at *
 obtain ⟨R,rfl⟩:=hp
 rw [qt] at hI
 have x1:=qa6 (aS:=[Exl.mk U n' a1 Y aa]) (i:=0) (by simp)
 simp only [List.map_cons,List.map_nil,qt,j3,qbI,cc0] at x1
 generalize hw:Wd _ _ G = w
 rw [qt,ql 107 qD1] at hw
 rw [List.map_cons,List.map_nil,qt] at hw
 have I:=fun {G id}=>qbG (G:=G) (id:=id) hS 46 46 rfl
 have E:=fun {G id u}=>qb2 (G:=G) (id:=id) hS u
 have a8:id < G.length + 1:=zo
 cases hc:U == 0 <;> rw [hc] at hS hI I E <;>
 simp only [qD1,sT.1,sC.1,qe,seval,-rN,hI,hi,x1,hc,I,E,a7,a8,e,qaC,qaG,List.prefix_append_right_inj,List.cons_prefix_cons,List.nil_prefix,List.prefix_append] at hw <;>
 subst hw <;>
 simp only [cond_true,cond_false]
def quw (ps:List (Int×Str)):Str:=40 :: (qbV (ps.map (inn 0)) ++ (bif ps.length == 1 then [44,41] else [41]))
theorem qp2 {S:Str} (hS:S.length <= qi) {aS:List Exl} {f:Exl->Str} (h:∀a ∈ aS,qem S a (f a)) (hl:aS.length <= 100) {H:List qh} {id:Nat} (a6:id < H.length) {s:Str} (hp:∀i,i <= aS.length->s ++ qbV ((aS.take i).map λa=>inn 0 (a.op,f a)) <+: S) :
  ∀k st,(∃(tt:List qd) (i:Nat) (l:List qh),st = ⟨tt,H.set id (BX (s ++ qbV ((aS.take i).map λa=>inn 0 (a.op,f a)))) ++ l,false⟩/\tt.length = 30/\lkp tt 0 = .ptr id 0/\lkp tt 1 = .lst (aS.map exV) .no/\lkp tt 8 = .lst (aS.map exV) .no/\lkp tt 9 = .int .i64 (aS.length:Nat)/\lkp tt 10 = .int .i64 (i:Nat)/\i + k = aS.length)->
   ∃x U,qp H.length Wd (.loop qhQ) st = some (x,U)/\(∃(tt:List qd) (l:List qh),U = ⟨tt,H.set id (BX (s ++ qbV (aS.map λa=>inn 0 (a.op,f a)))) ++ l,false⟩/\tt.length = 30/\lkp tt 0 = .ptr id 0/\lkp tt 1 = .lst (aS.map exV) .no/\x = .exit 0):=by
 refine qao _ (λx U=>(∃(tt:List qd) (l:List qh),U = ⟨tt,H.set id (BX (s ++ qbV (aS.map λa=>inn 0 (a.op,f a)))) ++ l,false⟩/\tt.length = 30/\lkp tt 0 = .ptr id 0/\lkp tt 1 = .lst (aS.map exV) .no/\x = .exit 0)) ?_
 rintro k st ⟨tt,i,l,rfl,ht,e0,e1,e8,e9,a1,ac⟩
 generalize he:qp H.length Wd qhQ _ = r
 rcases Nat.lt_or_ge i aS.length with hi | hi
 ·have c1:ilt (i:Int) (aS.length:Int) = true:=qiK zo
  have w:=qC (n:=i) zo
  have hx:=qa6 hi
  have E:=hp (i + 1) zo
  have hI:=qah hS (h _ (List.getElem_mem hi)) 0
  unfold qke at hI
  rw [List.take_succ_eq_append_getElem hi,jX,List.map_cons,List.map_nil,qiN] at E
  have Y:((aS.take i).map λa=>inn 0 (a.op,f a)).isEmpty = !(ilt 0 (i:Int)):=by
   rw [qX]
   cases i with
   | zero=>rfl
   | succ i=>cases aS with
    | nil=>simp at hi
    | cons b r=>simp
  have I:H.set id (BX (s ++ qbV ((aS.take (i + 1)).map λa=>inn 0 (a.op,f a)))) = H.set id (BX (s ++ bif ((aS.take i).map λa=>inn 0 (a.op,f a)).isEmpty then inn 0 (aS[i].op,f aS[i]) else qbV ((aS.take i).map λa=>inn 0 (a.op,f a)) ++ (44 :: 32 :: inn 0 (aS[i].op,f aS[i])))):=by
   rw [List.take_succ_eq_append_getElem hi,jX,List.map_cons,List.map_nil,qiN]
  rw [Y] at E I
  have aa:ilt 0 (i:Int) = false->qbV ((aS.take i).map λa=>inn 0 (a.op,f a)) = []:=λhq=>by
   rw [hq] at Y
   rw [List.isEmpty_iff.1 Y,qbV]
  generalize inn 0 (aS[i].op,f aS[i]) = u at E I hI
  generalize aS[i] = a at hI hx
  generalize qbV ((aS.take i).map λa=>inn 0 (a.op,f a)) = q at *
  obtain ⟨op,n,nm,sb,ad⟩:=a
  rw [qt] at hI
  rw [qbI] at hx
  have a8:=fun {G id u}=>qb2 (G:=G) (id:=id) hS u
  have hB:Nat.ble H.length (H.length + l.length) = true:=qj zo
  have ab:id < H.length + l.length:=zo
  have a7:id < H.length + (l.length + 1):=zo
  cases hc:ilt 0 (i:Int) with
  | false=>
   rw [hc,j0,cond_true] at E I
   rw [aa hc] at he
   simp only [qhQ,sT.1,sC.1,qe,seval,-rN,ht,e0,e8,e9,a1,c1,hc,hx,hI,hB,a6,a7,E,w,qaC,qaG] at he
   subst he
   refine .inl ⟨_,k - 1,rfl,zo,_,i + 1,_,by rw [I],Y1,?_,?_,?_,?_,?_,zo⟩
   all_goals simp only [sT.1,sC.1,seval,-rN,ht,e0,e1,e8,e9]
  | true=>
   rw [hc,Bool.not_true,cond_false] at E I
   obtain ⟨R,rfl⟩:=E
   simp only [qhQ,sT.1,sC.1,qe,seval,-rN,ht,e0,e8,e9,a1,c1,hc,hx,hI,a8,hB,a6,a7,w,qaC,qaG,List.prefix_append_right_inj,List.cons_prefix_cons,List.nil_prefix,List.prefix_append] at he
   subst he
   refine .inl ⟨_,k - 1,rfl,zo,_,i + 1,_,by rw [I],Y1,?_,?_,?_,?_,?_,zo⟩
   all_goals simp only [sT.1,sC.1,seval,-rN,ht,e0,e1,e8,e9]
 ·have c1:ilt (i:Int) (aS.length:Int) = false:=qis zo
  rw [List.take_of_length_le hi] at he
  simp only [qhQ,sT.1,sC.1,qe,seval,-rN,ht,e9,a1,c1] at he
  subst he
  refine .inr ⟨_,_,rfl,by simp,_,l,rfl,Y1,?_,?_,rfl⟩
  all_goals simp only [sT.1,sC.1,seval,-rN,e0,e1]
def ntx (op n:Int) (nm sb:Str) (ps:List (Int×Str)):Str:=
 bif op == 0 then Lib.itoa n else bif op == 1 then [116,114,117,101] else bif op == 2 then [102,97,108,115,101] else bif op == 11 then [101,108,97,112,115,101,100]
 else bif op == 3 then 39 :: nm else bif op == 4 then nm else bif op == 5 then nm ++ (46 :: sb) else bif op == 7 then [99,111,117,110,116,40] ++ (nm ++ [41]) else bif op == 8 then [104,97,115,40] ++ (nm ++ [41])
 else bif op == 9 then [115,117,109,40] ++ (nm ++ [41]) else bif op == 10 then [108,101,97,115,116,40] ++ (nm ++ ([44,32] ++ (inn 0 (ps.getD 0 (0,[])) ++ [41])))
 else bif op == 6 then quw ps else bif op == 12 then inn (bif (ps.getD 0 (0,[])).1 == 0 then 10 else 8) (ps.getD 0 (0,[])) ++ (46 :: Lib.itoa n) else bif op == 13 then 45 :: inn 7 (ps.getD 0 (0,[])) else bif op == 14 then [110,111,116,32] ++ inn 3 (ps.getD 0 (0,[]))
 else bif op == 25 then [105,102,32] ++ (inn 0 (ps.getD 0 (0,[])) ++ ([32,116,104,101,110,32] ++ (inn 0 (ps.getD 1 (0,[])) ++ ([32,101,108,115,101,32] ++ inn 0 (ps.getD 2 (0,[]))))))
 else inn (sgn op).2.1 (ps.getD 0 (0,[])) ++ ((sgn op).1 ++ inn (sgn op).2.2 (ps.getD 1 (0,[])))
def tx:Nat->Exl->Str
 | 0,_=>[]
 | d + 1,.mk op n nm sb aS=>ntx op n nm sb (aS.map λa=>(a.op,tx d a))
section
variable {S:Str} {G:List qh} {id:Nat} {s:Str} {n:Int} {nm sb:Str}
structure WrO (S:Str):Prop where
 b:∀{G:List qh} {id:Nat} (c:Int) (d:UInt8),c = (d.toNat:Int)->isB G[id]? = true->bsO G[id]? ++ [d] <+: S->Wd (.fn 105 [] []) [.ptr id 0,.int .u8 c] G = some (.ret .niliface,G.set id (BX (bsO G[id]? ++ [d])),false)
 s:∀{G:List qh} {id:Nat} {u:Str},isB G[id]? = true->bsO G[id]? ++ u <+: S->Wd (.fn 31 [] []) [.ptr id 0,.str u] G = some (.ret (.tup [.int .i64 (u.length:Nat),.niliface]),G.set id (BX (bsO G[id]? ++ u)),false)
theorem qsx (l r:List Str):qbV l <+: qbV (l ++ r):=by
 cases l with
 | nil=>exact List.nil_prefix
 | cons x l=>simp [qbV]
theorem qxD (hS:S.length <= qi) {aS:List Exl} {f:Exl->Str} (h:∀a ∈ aS,qem S a (f a)) (hl:aS.length <= 100) (Y:id < G.length) (hb:isB G[id]? = true) (hp:bsO G[id]? ++ quw (aS.map λa=>(a.op,f a)) <+: S) :
  Wd (.fn 106 [] []) [.ptr id 0,.lst (aS.map exV) .no] G = some (.ret (.tup []),G.set id (BX (bsO G[id]? ++ quw (aS.map λa=>(a.op,f a)))),false):=by
 have e:=qaS hb
 generalize bsO G[id]? = s at *
 have a1:=fun {G id}=>qbG (G:=G) (id:=id) hS 40 40 rfl
 have I:=fun {G id}=>qbG (G:=G) (id:=id) hS 41 41 rfl
 have E:=fun {G id}=>qbG (G:=G) (id:=id) hS 44 44 rfl
 have U:∀i,i <= aS.length->s ++ [40] ++ qbV ((aS.take i).map λa=>inn 0 (a.op,f a)) <+: S:=λi hi=>by
  refine List.IsPrefix.trans ?_ hp
  rw [quw,jp,List.prefix_append_right_inj,List.singleton_append,List.cons_prefix_cons]
  refine ⟨rfl,?_⟩
  rw [jG]
  refine List.IsPrefix.trans ?_ (List.prefix_append _ _)
  have q:=qsx ((aS.take i).map λa=>inn 0 (a.op,f a)) ((aS.drop i).map λa=>inn 0 (a.op,f a))
  rwa [<-jX,List.take_append_drop] at q
 have loop:=qp2 (H:=G) (id:=id) (s:=s ++ [40]) hS h hl Y U
 generalize hw:Wd _ _ G = w
 rw [ql 106 qD0] at hw
 have p40:s ++ [40] <+: S:=by have:=U 0 zo;simpa [qbV] using this
 simp only [qD0,sT.1,sC.1,qe,seval,-rN,a1,p40,e,qaC,qaG,jQ] at hw
 generalize hr:qp G.length Wd (.loop qhQ) _ = r at hw
 obtain ⟨x,a7,rfl,tt,l,rfl,ht,e0,e1,rfl⟩:=qc0 hr (loop aS.length _ ⟨_,0,[],by rw [jF,List.take_zero,List.map_nil,qbV,jF],Y0,Y0,Y0,Y0,Y0,v5,zo⟩)
 have hm:(aS.map λa=>(a.op,f a)).map (inn 0) = aS.map λa=>inn 0 (a.op,f a):=by rw [jG];rfl
 rw [quw,hm,jQ] at hp ⊢
 generalize qbV (aS.map λa=>inn 0 (a.op,f a)) = q at *
 have hc:(((aS.length:Nat):Int) == 1) = (aS.length == 1):=by
  rw [Bool.eq_iff_iff];simp;omega
 obtain ⟨R,rfl⟩:=hp
 cases a6:(aS.length == 1) <;> rw [a6] at hS I E hc <;>
 simp only [sT.1,sC.1,qe,seval,-rN,ht,e0,e1,hc,I,E,Y,qaC,qaG,jQ,List.prefix_append_right_inj,List.cons_prefix_cons,List.nil_prefix] at hw <;>
 subst hw <;>
 simp only [cond_true,cond_false]
end
theorem qii {s:Str} (h:qcx s = true):1 <= s.length/\s.length <= 16:=by
 simp only [qcx,jk,decide_eq_true_eq] at h
 exact h.1
theorem qaA {s:Str} (h:qy s = true):1 <= s.length/\s.length <= 16:=by
 rw [qy,jk] at h
 exact qii h.1
theorem qG {nb mb sb:Bool} {lo hi n:Int} {nm sub:Str} {k:Nat} (h:fB nb mb sb lo hi n nm sub k = true):lo <= (k:Int)/\(k:Int) <= hi:=by
 simp only [fB,jk,qav,decide_eq_true_eq] at h
 exact ⟨h.2.2.2.1,h.2.2.2.2⟩
theorem cc2:((2:Nat):Int) = 2:=Eq.trans rfl rfl
section
variable {S:Str} {G:List qh} {id:Nat} {n:Int} {nm sb:Str}
theorem qKV (hS:S.length <= qi) (I:0 <= n) (E:n <= 9223372036854775807) (U:id < G.length) (hb:isB G[id]? = true) (hp:bsO G[id]? ++ (Lib.itoa n) <+: S):Wd (.fn 68 [] []) [.ptr id 0,exV (.mk 0 n nm sb [])] G = some (.ret (.tup []),G.set id (BX (bsO G[id]? ++ (Lib.itoa n))),false):=by
 have e:=qaS hb
 generalize bsO G[id]? = s at *
 have a7:id < G.length + 1:=zo
 obtain ⟨R,rfl⟩:=hp
 have wb:=fun {G id} c d=>qbG (G:=G) (id:=id) hS c d
 have ws:=fun {G id u}=>qb2 (G:=G) (id:=id) hS u
 have a6:=fun {G id}=>wb (G:=G) (id:=id) 40 40 rfl
 have a1:=fun {G id}=>wb (G:=G) (id:=id) 41 41 rfl
 have Y:=fun {G id}=>wb (G:=G) (id:=id) 45 45 rfl
 have hi:=fun {G}=>qst (G:=G) n I E
 generalize hw:Wd _ _ G = w
 rw [qt,ql 68 c68] at hw
 simp only [c68,sT.1,sC.1,qe,seval,-rN,ws,hi,U,e,qaC,qaG,List.prefix_append_right_inj,List.prefix_append] at hw
 subst hw
 first
 | rfl
 | simp only [jp,jw,jW]
theorem qKW (hS:S.length <= qi) (E:id < G.length) (hb:isB G[id]? = true) (hp:bsO G[id]? ++ ([116,114,117,101]) <+: S):Wd (.fn 68 [] []) [.ptr id 0,exV (.mk 1 n nm sb [])] G = some (.ret (.tup []),G.set id (BX (bsO G[id]? ++ ([116,114,117,101]))),false):=by
 have e:=qaS hb
 generalize bsO G[id]? = s at *
 have a1:id < G.length + 1:=zo
 obtain ⟨R,rfl⟩:=hp
 have wb:=fun {G id} c d=>qbG (G:=G) (id:=id) hS c d
 have ws:=fun {G id u}=>qb2 (G:=G) (id:=id) hS u
 have Y:=fun {G id}=>wb (G:=G) (id:=id) 40 40 rfl
 have U:=fun {G id}=>wb (G:=G) (id:=id) 41 41 rfl
 have I:=fun {G id}=>wb (G:=G) (id:=id) 45 45 rfl
 generalize hw:Wd _ _ G = w
 rw [qt,ql 68 c68] at hw
 simp only [c68,sT.1,sC.1,qe,seval,-rN,ws,E,e,qaC,qaG,List.prefix_append_right_inj,List.cons_prefix_cons,List.nil_prefix] at hw
 subst hw
 first
 | rfl
 | simp only [jp,jw,jW]
theorem qKX (hS:S.length <= qi) (E:id < G.length) (hb:isB G[id]? = true) (hp:bsO G[id]? ++ ([102,97,108,115,101]) <+: S):Wd (.fn 68 [] []) [.ptr id 0,exV (.mk 2 n nm sb [])] G = some (.ret (.tup []),G.set id (BX (bsO G[id]? ++ ([102,97,108,115,101]))),false):=by
 have e:=qaS hb
 generalize bsO G[id]? = s at *
 have a1:id < G.length + 1:=zo
 obtain ⟨R,rfl⟩:=hp
 have wb:=fun {G id} c d=>qbG (G:=G) (id:=id) hS c d
 have ws:=fun {G id u}=>qb2 (G:=G) (id:=id) hS u
 have Y:=fun {G id}=>wb (G:=G) (id:=id) 40 40 rfl
 have U:=fun {G id}=>wb (G:=G) (id:=id) 41 41 rfl
 have I:=fun {G id}=>wb (G:=G) (id:=id) 45 45 rfl
 generalize hw:Wd _ _ G = w
 rw [qt,ql 68 c68] at hw
 simp only [c68,sT.1,sC.1,qe,seval,-rN,ws,E,e,qaC,qaG,List.prefix_append_right_inj,List.cons_prefix_cons,List.nil_prefix] at hw
 subst hw
 first
 | rfl
 | simp only [jp,jw,jW]
theorem qHW (hS:S.length <= qi) (E:id < G.length) (hb:isB G[id]? = true) (hp:bsO G[id]? ++ ([101,108,97,112,115,101,100]) <+: S):Wd (.fn 68 [] []) [.ptr id 0,exV (.mk 11 n nm sb [])] G = some (.ret (.tup []),G.set id (BX (bsO G[id]? ++ ([101,108,97,112,115,101,100]))),false):=by
 have e:=qaS hb
 generalize bsO G[id]? = s at *
 have a1:id < G.length + 1:=zo
 obtain ⟨R,rfl⟩:=hp
 have wb:=fun {G id} c d=>qbG (G:=G) (id:=id) hS c d
 have ws:=fun {G id u}=>qb2 (G:=G) (id:=id) hS u
 have Y:=fun {G id}=>wb (G:=G) (id:=id) 40 40 rfl
 have U:=fun {G id}=>wb (G:=G) (id:=id) 41 41 rfl
 have I:=fun {G id}=>wb (G:=G) (id:=id) 45 45 rfl
 generalize hw:Wd _ _ G = w
 rw [qt,ql 68 c68] at hw
 simp only [c68,sT.1,sC.1,qe,seval,-rN,ws,E,e,qaC,qaG,List.prefix_append_right_inj,List.cons_prefix_cons,List.nil_prefix] at hw
 subst hw
 first
 | rfl
 | simp only [jp,jw,jW]
theorem qKY (hS:S.length <= qi) (hn:nm.length <= 16) (E:id < G.length) (hb:isB G[id]? = true) (hp:bsO G[id]? ++ (39 :: nm) <+: S):Wd (.fn 68 [] []) [.ptr id 0,exV (.mk 3 n nm sb [])] G = some (.ret (.tup []),G.set id (BX (bsO G[id]? ++ (39 :: nm))),false):=by
 have e:=qaS hb
 generalize bsO G[id]? = s at *
 have a1:id < G.length + 1:=zo
 obtain ⟨R,rfl⟩:=hp
 have wb:=fun {G id} c d=>qbG (G:=G) (id:=id) hS c d
 have ws:=fun {G id u}=>qb2 (G:=G) (id:=id) hS u
 have Y:=fun {G id}=>wb (G:=G) (id:=id) 40 40 rfl
 have U:=fun {G id}=>wb (G:=G) (id:=id) 41 41 rfl
 have I:=fun {G id}=>wb (G:=G) (id:=id) 45 45 rfl
 have n0:∀k,k <= 200->k + nm.length <= qi:=λk hk=>by unfold qi;omega
 have n1:∀k,k <= 200->nm.length + k <= qi:=λk hk=>by unfold qi;omega
 generalize hw:Wd _ _ G = w
 rw [qt,ql 68 c68] at hw
 simp only [c68,sT.1,sC.1,qe,seval,-rN,ws,n0,n1,E,e,qaC,qaG,List.prefix_append_right_inj,List.cons_prefix_cons,List.prefix_append] at hw
 subst hw
 first
 | rfl
 | simp only [jp,jw,jW]
theorem qKZ (hS:S.length <= qi) (hn:nm.length <= 16) (E:id < G.length) (hb:isB G[id]? = true) (hp:bsO G[id]? ++ (nm) <+: S):Wd (.fn 68 [] []) [.ptr id 0,exV (.mk 4 n nm sb [])] G = some (.ret (.tup []),G.set id (BX (bsO G[id]? ++ (nm))),false):=by
 have e:=qaS hb
 generalize bsO G[id]? = s at *
 have a1:id < G.length + 1:=zo
 obtain ⟨R,rfl⟩:=hp
 have wb:=fun {G id} c d=>qbG (G:=G) (id:=id) hS c d
 have ws:=fun {G id u}=>qb2 (G:=G) (id:=id) hS u
 have Y:=fun {G id}=>wb (G:=G) (id:=id) 40 40 rfl
 have U:=fun {G id}=>wb (G:=G) (id:=id) 41 41 rfl
 have I:=fun {G id}=>wb (G:=G) (id:=id) 45 45 rfl
 have n0:∀k,k <= 200->k + nm.length <= qi:=λk hk=>by unfold qi;omega
 have n1:∀k,k <= 200->nm.length + k <= qi:=λk hk=>by unfold qi;omega
 generalize hw:Wd _ _ G = w
 rw [qt,ql 68 c68] at hw
 simp only [c68,sT.1,sC.1,qe,seval,-rN,ws,n0,n1,E,e,qaC,qaG,List.prefix_append_right_inj,List.prefix_append] at hw
 subst hw
 first
 | rfl
 | simp only [jp,jw,jW]
theorem qK0 (hS:S.length <= qi) (hn:nm.length <= 16) (hs:sb.length <= 16) (E:id < G.length) (hb:isB G[id]? = true) (hp:bsO G[id]? ++ (nm ++ (46 :: sb)) <+: S):Wd (.fn 68 [] []) [.ptr id 0,exV (.mk 5 n nm sb [])] G = some (.ret (.tup []),G.set id (BX (bsO G[id]? ++ (nm ++ (46 :: sb)))),false):=by
 have e:=qaS hb
 generalize bsO G[id]? = s at *
 have a1:id < G.length + 1:=zo
 obtain ⟨R,rfl⟩:=hp
 have wb:=fun {G id} c d=>qbG (G:=G) (id:=id) hS c d
 have ws:=fun {G id u}=>qb2 (G:=G) (id:=id) hS u
 have Y:=fun {G id}=>wb (G:=G) (id:=id) 40 40 rfl
 have U:=fun {G id}=>wb (G:=G) (id:=id) 41 41 rfl
 have I:=fun {G id}=>wb (G:=G) (id:=id) 45 45 rfl
 have n0:∀k,k <= 200->k + nm.length <= qi:=λk hk=>by unfold qi;omega
 have n1:∀k,k <= 200->nm.length + k <= qi:=λk hk=>by unfold qi;omega
 have s0:nm.length + (1 + sb.length) <= qi:=by unfold qi;omega
 have s1:nm.length + (sb.length + 1) <= qi:=by unfold qi;omega
 have s2:nm.length + 1 + sb.length <= qi:=by unfold qi;omega
 generalize hw:Wd _ _ G = w
 rw [qt,ql 68 c68] at hw
 simp only [c68,sT.1,sC.1,qe,seval,-rN,ws,n0,n1,s2,E,e,qaC,qaG,List.prefix_append_right_inj,List.cons_prefix_cons,List.prefix_append] at hw
 subst hw
 first
 | rfl
 | simp only [jp,jw,jW]
theorem qK2 (hS:S.length <= qi) (hn:nm.length <= 16) (E:id < G.length) (hb:isB G[id]? = true) (hp:bsO G[id]? ++ ([99,111,117,110,116,40] ++ (nm ++ [41])) <+: S):Wd (.fn 68 [] []) [.ptr id 0,exV (.mk 7 n nm sb [])] G = some (.ret (.tup []),G.set id (BX (bsO G[id]? ++ ([99,111,117,110,116,40] ++ (nm ++ [41])))),false):=by
 have e:=qaS hb
 generalize bsO G[id]? = s at *
 have a1:id < G.length + 1:=zo
 obtain ⟨R,rfl⟩:=hp
 have wb:=fun {G id} c d=>qbG (G:=G) (id:=id) hS c d
 have ws:=fun {G id u}=>qb2 (G:=G) (id:=id) hS u
 have Y:=fun {G id}=>wb (G:=G) (id:=id) 40 40 rfl
 have U:=fun {G id}=>wb (G:=G) (id:=id) 41 41 rfl
 have I:=fun {G id}=>wb (G:=G) (id:=id) 45 45 rfl
 have n0:∀k,k <= 200->k + nm.length <= qi:=λk hk=>by unfold qi;omega
 have n1:∀k,k <= 200->nm.length + k <= qi:=λk hk=>by unfold qi;omega
 generalize hw:Wd _ _ G = w
 rw [qt,ql 68 c68] at hw
 simp only [c68,sT.1,sC.1,qe,seval,-rN,ws,n0,n1,E,e,qaC,qaG,List.prefix_append_right_inj,List.cons_prefix_cons,List.nil_prefix] at hw
 subst hw
 first
 | rfl
 | simp only [jp,jw,jW]
theorem qK3 (hS:S.length <= qi) (hn:nm.length <= 16) (E:id < G.length) (hb:isB G[id]? = true) (hp:bsO G[id]? ++ ([104,97,115,40] ++ (nm ++ [41])) <+: S):Wd (.fn 68 [] []) [.ptr id 0,exV (.mk 8 n nm sb [])] G = some (.ret (.tup []),G.set id (BX (bsO G[id]? ++ ([104,97,115,40] ++ (nm ++ [41])))),false):=by
 have e:=qaS hb
 generalize bsO G[id]? = s at *
 have a1:id < G.length + 1:=zo
 obtain ⟨R,rfl⟩:=hp
 have wb:=fun {G id} c d=>qbG (G:=G) (id:=id) hS c d
 have ws:=fun {G id u}=>qb2 (G:=G) (id:=id) hS u
 have Y:=fun {G id}=>wb (G:=G) (id:=id) 40 40 rfl
 have U:=fun {G id}=>wb (G:=G) (id:=id) 41 41 rfl
 have I:=fun {G id}=>wb (G:=G) (id:=id) 45 45 rfl
 have n0:∀k,k <= 200->k + nm.length <= qi:=λk hk=>by unfold qi;omega
 have n1:∀k,k <= 200->nm.length + k <= qi:=λk hk=>by unfold qi;omega
 generalize hw:Wd _ _ G = w
 rw [qt,ql 68 c68] at hw
 simp only [c68,sT.1,sC.1,qe,seval,-rN,ws,n0,n1,E,e,qaC,qaG,List.prefix_append_right_inj,List.cons_prefix_cons,List.nil_prefix] at hw
 subst hw
 first
 | rfl
 | simp only [jp,jw,jW]
theorem qK4 (hS:S.length <= qi) (hn:nm.length <= 16) (E:id < G.length) (hb:isB G[id]? = true) (hp:bsO G[id]? ++ ([115,117,109,40] ++ (nm ++ [41])) <+: S):Wd (.fn 68 [] []) [.ptr id 0,exV (.mk 9 n nm sb [])] G = some (.ret (.tup []),G.set id (BX (bsO G[id]? ++ ([115,117,109,40] ++ (nm ++ [41])))),false):=by
 have e:=qaS hb
 generalize bsO G[id]? = s at *
 have a1:id < G.length + 1:=zo
 obtain ⟨R,rfl⟩:=hp
 have wb:=fun {G id} c d=>qbG (G:=G) (id:=id) hS c d
 have ws:=fun {G id u}=>qb2 (G:=G) (id:=id) hS u
 have Y:=fun {G id}=>wb (G:=G) (id:=id) 40 40 rfl
 have U:=fun {G id}=>wb (G:=G) (id:=id) 41 41 rfl
 have I:=fun {G id}=>wb (G:=G) (id:=id) 45 45 rfl
 have n0:∀k,k <= 200->k + nm.length <= qi:=λk hk=>by unfold qi;omega
 have n1:∀k,k <= 200->nm.length + k <= qi:=λk hk=>by unfold qi;omega
 generalize hw:Wd _ _ G = w
 rw [qt,ql 68 c68] at hw
 simp only [c68,sT.1,sC.1,qe,seval,-rN,ws,n0,n1,E,e,qaC,qaG,List.prefix_append_right_inj,List.cons_prefix_cons,List.nil_prefix] at hw
 subst hw
 first
 | rfl
 | simp only [jp,jw,jW]
end
section
variable {S:Str} {G:List qh} {id:Nat} {n:Int} {nm sb:Str}
theorem qHV (hS:S.length <= qi) {a:Exl} {ta:Str} (ka:qem S a ta) (hn:nm.length <= 16) (I:id < G.length) (hb:isB G[id]? = true) (hp:bsO G[id]? ++ ([108,101,97,115,116,40] ++ (nm ++ ([44,32] ++ (inn 0 (a.op,ta) ++ [41])))) <+: S):Wd (.fn 68 [] []) [.ptr id 0,exV (.mk 10 n nm sb [a])] G = some (.ret (.tup []),G.set id (BX (bsO G[id]? ++ ([108,101,97,115,116,40] ++ (nm ++ ([44,32] ++ (inn 0 (a.op,ta) ++ [41])))))),false):=by
 have e:=qaS hb
 generalize bsO G[id]? = s at *
 have U:id < G.length + 1:=zo
 have Ia:=λk=>qah hS ka k
 unfold qke at Ia
 obtain ⟨oa,na,ma,ba,la⟩:=a
 simp only [Exl.op] at *
 have xa:=qa6 (aS:=[Exl.mk oa na ma ba la]) (i:=0) (by simp)
 simp only [List.map_cons,List.map_nil,qt,j3,qbI,cc0] at xa
 rw [qt] at Ia
 obtain ⟨R,rfl⟩:=hp
 have wb:=fun {G id} c d=>qbG (G:=G) (id:=id) hS c d
 have ws:=fun {G id u}=>qb2 (G:=G) (id:=id) hS u
 have a1:=fun {G id}=>wb (G:=G) (id:=id) 40 40 rfl
 have E:=fun {G id}=>wb (G:=G) (id:=id) 41 41 rfl
 have Y:=fun {G id}=>wb (G:=G) (id:=id) 45 45 rfl
 have n0:∀k,k <= 200->k + nm.length <= qi:=λk hk=>by unfold qi;omega
 have n1:∀k,k <= 200->nm.length + k <= qi:=λk hk=>by unfold qi;omega
 generalize hw:Wd _ _ G = w
 rw [qt,ql 68 c68] at hw
 rw [List.map_cons,List.map_nil,qt] at hw
 simp only [c68,sT.1,sC.1,qe,seval,-rN,Ia,xa,E,ws,n0,n1,I,U,e,qaC,qaG,List.prefix_append_right_inj,List.cons_prefix_cons,List.nil_prefix,List.prefix_append] at hw
 subst hw
 first
 | rfl
 | simp only [jp,jw,jW]
theorem qHY (hS:S.length <= qi) {a:Exl} {ta:Str} (ka:qem S a ta) (I:id < G.length) (hb:isB G[id]? = true) (hp:bsO G[id]? ++ (45 :: inn 7 (a.op,ta)) <+: S):Wd (.fn 68 [] []) [.ptr id 0,exV (.mk 13 n nm sb [a])] G = some (.ret (.tup []),G.set id (BX (bsO G[id]? ++ (45 :: inn 7 (a.op,ta)))),false):=by
 have e:=qaS hb
 generalize bsO G[id]? = s at *
 have U:id < G.length + 1:=zo
 have Ia:=λk=>qah hS ka k
 unfold qke at Ia
 obtain ⟨oa,na,ma,ba,la⟩:=a
 simp only [Exl.op] at *
 have xa:=qa6 (aS:=[Exl.mk oa na ma ba la]) (i:=0) (by simp)
 simp only [List.map_cons,List.map_nil,qt,j3,qbI,cc0] at xa
 rw [qt] at Ia
 obtain ⟨R,rfl⟩:=hp
 have wb:=fun {G id} c d=>qbG (G:=G) (id:=id) hS c d
 have ws:=fun {G id u}=>qb2 (G:=G) (id:=id) hS u
 have a1:=fun {G id}=>wb (G:=G) (id:=id) 40 40 rfl
 have Y:=fun {G id}=>wb (G:=G) (id:=id) 41 41 rfl
 have E:=fun {G id}=>wb (G:=G) (id:=id) 45 45 rfl
 generalize hw:Wd _ _ G = w
 rw [qt,ql 68 c68] at hw
 rw [List.map_cons,List.map_nil,qt] at hw
 simp only [c68,sT.1,sC.1,qe,seval,-rN,Ia,xa,E,I,U,e,qaC,qaG,List.prefix_append_right_inj,List.cons_prefix_cons,List.nil_prefix,List.prefix_append] at hw
 subst hw
 first
 | rfl
 | simp only [jp,jw,jW]
theorem qHZ (hS:S.length <= qi) {a:Exl} {ta:Str} (ka:qem S a ta) (E:id < G.length) (hb:isB G[id]? = true) (hp:bsO G[id]? ++ ([110,111,116,32] ++ inn 3 (a.op,ta)) <+: S):Wd (.fn 68 [] []) [.ptr id 0,exV (.mk 14 n nm sb [a])] G = some (.ret (.tup []),G.set id (BX (bsO G[id]? ++ ([110,111,116,32] ++ inn 3 (a.op,ta)))),false):=by
 have e:=qaS hb
 generalize bsO G[id]? = s at *
 have I:id < G.length + 1:=zo
 have Ia:=λk=>qah hS ka k
 unfold qke at Ia
 obtain ⟨oa,na,ma,ba,la⟩:=a
 simp only [Exl.op] at *
 have xa:=qa6 (aS:=[Exl.mk oa na ma ba la]) (i:=0) (by simp)
 simp only [List.map_cons,List.map_nil,qt,j3,qbI,cc0] at xa
 rw [qt] at Ia
 obtain ⟨R,rfl⟩:=hp
 have wb:=fun {G id} c d=>qbG (G:=G) (id:=id) hS c d
 have ws:=fun {G id u}=>qb2 (G:=G) (id:=id) hS u
 have a1:=fun {G id}=>wb (G:=G) (id:=id) 40 40 rfl
 have Y:=fun {G id}=>wb (G:=G) (id:=id) 41 41 rfl
 have U:=fun {G id}=>wb (G:=G) (id:=id) 45 45 rfl
 generalize hw:Wd _ _ G = w
 rw [qt,ql 68 c68] at hw
 rw [List.map_cons,List.map_nil,qt] at hw
 simp only [c68,sT.1,sC.1,qe,seval,-rN,Ia,xa,ws,E,I,e,qaC,qaG,List.prefix_append_right_inj,List.cons_prefix_cons,List.nil_prefix,List.prefix_append] at hw
 subst hw
 first
 | rfl
 | simp only [jp,jw,jW]
theorem qIa (hS:S.length <= qi) {a:Exl} {b:Exl} {c:Exl} {ta:Str} {tb:Str} {tc:Str} (ka:qem S a ta) (kb:qem S b tb) (kc:qem S c tc) (E:id < G.length) (hb:isB G[id]? = true) (hp:bsO G[id]? ++ ([105,102,32] ++ (inn 0 (a.op,ta) ++ ([32,116,104,101,110,32] ++ (inn 0 (b.op,tb) ++ ([32,101,108,115,101,32] ++ inn 0 (c.op,tc)))))) <+: S):Wd (.fn 68 [] []) [.ptr id 0,exV (.mk 25 n nm sb [a,b,c])] G = some (.ret (.tup []),G.set id (BX (bsO G[id]? ++ ([105,102,32] ++ (inn 0 (a.op,ta) ++ ([32,116,104,101,110,32] ++ (inn 0 (b.op,tb) ++ ([32,101,108,115,101,32] ++ inn 0 (c.op,tc)))))))),false):=by
 have e:=qaS hb
 generalize bsO G[id]? = s at *
 have I:id < G.length + 1:=zo
 have Ia:=λk=>qah hS ka k
 have Ib:=λk=>qah hS kb k
 have Ic:=λk=>qah hS kc k
 unfold qke at Ia Ib Ic
 obtain ⟨oa,na,ma,ba,la⟩:=a
 obtain ⟨ob,nb,mb,bb,lb⟩:=b
 obtain ⟨oc,nc,mc,bc,lc⟩:=c
 simp only [Exl.op] at *
 have xa:=qa6 (aS:=[Exl.mk oa na ma ba la,Exl.mk ob nb mb bb lb,Exl.mk oc nc mc bc lc]) (i:=0) (by simp)
 have xb:=qa6 (aS:=[Exl.mk oa na ma ba la,Exl.mk ob nb mb bb lb,Exl.mk oc nc mc bc lc]) (i:=1) (by simp)
 have xc:=qa6 (aS:=[Exl.mk oa na ma ba la,Exl.mk ob nb mb bb lb,Exl.mk oc nc mc bc lc]) (i:=2) (by simp)
 simp only [List.map_cons,List.map_nil,qt,j3,List.getElem_cons_succ,qbI,cc0,cc1,cc2] at xa xb xc
 rw [qt] at Ia Ib Ic
 obtain ⟨R,rfl⟩:=hp
 have wb:=fun {G id} c d=>qbG (G:=G) (id:=id) hS c d
 have ws:=fun {G id u}=>qb2 (G:=G) (id:=id) hS u
 have a1:=fun {G id}=>wb (G:=G) (id:=id) 40 40 rfl
 have Y:=fun {G id}=>wb (G:=G) (id:=id) 41 41 rfl
 have U:=fun {G id}=>wb (G:=G) (id:=id) 45 45 rfl
 generalize hw:Wd _ _ G = w
 rw [qt,ql 68 c68] at hw
 rw [List.map_cons,List.map_cons,List.map_cons,List.map_nil,qt,qt,qt] at hw
 simp only [c68,sT.1,sC.1,qe,seval,-rN,Ia,xa,Ib,xb,Ic,xc,ws,E,I,e,qaC,qaG,List.prefix_append_right_inj,List.cons_prefix_cons,List.nil_prefix,List.prefix_append] at hw
 subst hw
 first
 | rfl
 | simp only [jp,jw,jW]
end
section
variable {S:Str} {G:List qh} {id:Nat} {n:Int} {nm sb:Str}
theorem qH0 (hS:S.length <= qi) {a:Exl} {b:Exl} {ta:Str} {tb:Str} (ka:qem S a ta) (kb:qem S b tb) (I:id < G.length) (hb:isB G[id]? = true) (hp:bsO G[id]? ++ (inn (sgn 15).2.1 (a.op,ta) ++ ((sgn 15).1 ++ inn (sgn 15).2.2 (b.op,tb))) <+: S):Wd (.fn 68 [] []) [.ptr id 0,exV (.mk 15 n nm sb [a,b])] G = some (.ret (.tup []),G.set id (BX (bsO G[id]? ++ (inn (sgn 15).2.1 (a.op,ta) ++ ((sgn 15).1 ++ inn (sgn 15).2.2 (b.op,tb))))),false):=by
 have e:=qaS hb
 generalize bsO G[id]? = s at *
 have U:id < G.length + 1:=zo
 have Ia:=λk=>qah hS ka k
 have Ib:=λk=>qah hS kb k
 unfold qke at Ia Ib
 obtain ⟨oa,na,ma,ba,la⟩:=a
 obtain ⟨ob,nb,mb,bb,lb⟩:=b
 simp only [Exl.op] at *
 have xa:=qa6 (aS:=[Exl.mk oa na ma ba la,Exl.mk ob nb mb bb lb]) (i:=0) (by simp)
 have xb:=qa6 (aS:=[Exl.mk oa na ma ba la,Exl.mk ob nb mb bb lb]) (i:=1) (by simp)
 simp only [List.map_cons,List.map_nil,qt,j3,List.getElem_cons_succ,qbI,cc0,cc1] at xa xb
 rw [qt] at Ia Ib
 obtain ⟨R,rfl⟩:=hp
 have wb:=fun {G id} c d=>qbG (G:=G) (id:=id) hS c d
 have ws:=fun {G id u}=>qb2 (G:=G) (id:=id) hS u
 have a6:=fun {G id}=>wb (G:=G) (id:=id) 40 40 rfl
 have a1:=fun {G id}=>wb (G:=G) (id:=id) 41 41 rfl
 have Y:=fun {G id}=>wb (G:=G) (id:=id) 45 45 rfl
 have E:=λG=>qbK 15 G zo zo
 generalize hw:Wd _ _ G = w
 rw [qt,ql 68 c68] at hw
 rw [List.map_cons,List.map_cons,List.map_nil,qt,qt] at hw
 simp only [c68,sT.1,sC.1,qe,seval,-rN,Ia,xa,Ib,xb,ws,E,I,U,e,qaC,qaG,List.prefix_append_right_inj,List.prefix_append] at hw
 subst hw
 first
 | rfl
 | simp only [jp,jw,jW]
theorem qH1 (hS:S.length <= qi) {a:Exl} {b:Exl} {ta:Str} {tb:Str} (ka:qem S a ta) (kb:qem S b tb) (I:id < G.length) (hb:isB G[id]? = true) (hp:bsO G[id]? ++ (inn (sgn 16).2.1 (a.op,ta) ++ ((sgn 16).1 ++ inn (sgn 16).2.2 (b.op,tb))) <+: S):Wd (.fn 68 [] []) [.ptr id 0,exV (.mk 16 n nm sb [a,b])] G = some (.ret (.tup []),G.set id (BX (bsO G[id]? ++ (inn (sgn 16).2.1 (a.op,ta) ++ ((sgn 16).1 ++ inn (sgn 16).2.2 (b.op,tb))))),false):=by
 have e:=qaS hb
 generalize bsO G[id]? = s at *
 have U:id < G.length + 1:=zo
 have Ia:=λk=>qah hS ka k
 have Ib:=λk=>qah hS kb k
 unfold qke at Ia Ib
 obtain ⟨oa,na,ma,ba,la⟩:=a
 obtain ⟨ob,nb,mb,bb,lb⟩:=b
 simp only [Exl.op] at *
 have xa:=qa6 (aS:=[Exl.mk oa na ma ba la,Exl.mk ob nb mb bb lb]) (i:=0) (by simp)
 have xb:=qa6 (aS:=[Exl.mk oa na ma ba la,Exl.mk ob nb mb bb lb]) (i:=1) (by simp)
 simp only [List.map_cons,List.map_nil,qt,j3,List.getElem_cons_succ,qbI,cc0,cc1] at xa xb
 rw [qt] at Ia Ib
 obtain ⟨R,rfl⟩:=hp
 have wb:=fun {G id} c d=>qbG (G:=G) (id:=id) hS c d
 have ws:=fun {G id u}=>qb2 (G:=G) (id:=id) hS u
 have a6:=fun {G id}=>wb (G:=G) (id:=id) 40 40 rfl
 have a1:=fun {G id}=>wb (G:=G) (id:=id) 41 41 rfl
 have Y:=fun {G id}=>wb (G:=G) (id:=id) 45 45 rfl
 have E:=λG=>qbK 16 G zo zo
 generalize hw:Wd _ _ G = w
 rw [qt,ql 68 c68] at hw
 rw [List.map_cons,List.map_cons,List.map_nil,qt,qt] at hw
 simp only [c68,sT.1,sC.1,qe,seval,-rN,Ia,xa,Ib,xb,ws,E,I,U,e,qaC,qaG,List.prefix_append_right_inj,List.prefix_append] at hw
 subst hw
 first
 | rfl
 | simp only [jp,jw,jW]
theorem qH2 (hS:S.length <= qi) {a:Exl} {b:Exl} {ta:Str} {tb:Str} (ka:qem S a ta) (kb:qem S b tb) (I:id < G.length) (hb:isB G[id]? = true) (hp:bsO G[id]? ++ (inn (sgn 17).2.1 (a.op,ta) ++ ((sgn 17).1 ++ inn (sgn 17).2.2 (b.op,tb))) <+: S):Wd (.fn 68 [] []) [.ptr id 0,exV (.mk 17 n nm sb [a,b])] G = some (.ret (.tup []),G.set id (BX (bsO G[id]? ++ (inn (sgn 17).2.1 (a.op,ta) ++ ((sgn 17).1 ++ inn (sgn 17).2.2 (b.op,tb))))),false):=by
 have e:=qaS hb
 generalize bsO G[id]? = s at *
 have U:id < G.length + 1:=zo
 have Ia:=λk=>qah hS ka k
 have Ib:=λk=>qah hS kb k
 unfold qke at Ia Ib
 obtain ⟨oa,na,ma,ba,la⟩:=a
 obtain ⟨ob,nb,mb,bb,lb⟩:=b
 simp only [Exl.op] at *
 have xa:=qa6 (aS:=[Exl.mk oa na ma ba la,Exl.mk ob nb mb bb lb]) (i:=0) (by simp)
 have xb:=qa6 (aS:=[Exl.mk oa na ma ba la,Exl.mk ob nb mb bb lb]) (i:=1) (by simp)
 simp only [List.map_cons,List.map_nil,qt,j3,List.getElem_cons_succ,qbI,cc0,cc1] at xa xb
 rw [qt] at Ia Ib
 obtain ⟨R,rfl⟩:=hp
 have wb:=fun {G id} c d=>qbG (G:=G) (id:=id) hS c d
 have ws:=fun {G id u}=>qb2 (G:=G) (id:=id) hS u
 have a6:=fun {G id}=>wb (G:=G) (id:=id) 40 40 rfl
 have a1:=fun {G id}=>wb (G:=G) (id:=id) 41 41 rfl
 have Y:=fun {G id}=>wb (G:=G) (id:=id) 45 45 rfl
 have E:=λG=>qbK 17 G zo zo
 generalize hw:Wd _ _ G = w
 rw [qt,ql 68 c68] at hw
 rw [List.map_cons,List.map_cons,List.map_nil,qt,qt] at hw
 simp only [c68,sT.1,sC.1,qe,seval,-rN,Ia,xa,Ib,xb,ws,E,I,U,e,qaC,qaG,List.prefix_append_right_inj,List.prefix_append] at hw
 subst hw
 first
 | rfl
 | simp only [jp,jw,jW]
theorem qH3 (hS:S.length <= qi) {a:Exl} {b:Exl} {ta:Str} {tb:Str} (ka:qem S a ta) (kb:qem S b tb) (I:id < G.length) (hb:isB G[id]? = true) (hp:bsO G[id]? ++ (inn (sgn 18).2.1 (a.op,ta) ++ ((sgn 18).1 ++ inn (sgn 18).2.2 (b.op,tb))) <+: S):Wd (.fn 68 [] []) [.ptr id 0,exV (.mk 18 n nm sb [a,b])] G = some (.ret (.tup []),G.set id (BX (bsO G[id]? ++ (inn (sgn 18).2.1 (a.op,ta) ++ ((sgn 18).1 ++ inn (sgn 18).2.2 (b.op,tb))))),false):=by
 have e:=qaS hb
 generalize bsO G[id]? = s at *
 have U:id < G.length + 1:=zo
 have Ia:=λk=>qah hS ka k
 have Ib:=λk=>qah hS kb k
 unfold qke at Ia Ib
 obtain ⟨oa,na,ma,ba,la⟩:=a
 obtain ⟨ob,nb,mb,bb,lb⟩:=b
 simp only [Exl.op] at *
 have xa:=qa6 (aS:=[Exl.mk oa na ma ba la,Exl.mk ob nb mb bb lb]) (i:=0) (by simp)
 have xb:=qa6 (aS:=[Exl.mk oa na ma ba la,Exl.mk ob nb mb bb lb]) (i:=1) (by simp)
 simp only [List.map_cons,List.map_nil,qt,j3,List.getElem_cons_succ,qbI,cc0,cc1] at xa xb
 rw [qt] at Ia Ib
 obtain ⟨R,rfl⟩:=hp
 have wb:=fun {G id} c d=>qbG (G:=G) (id:=id) hS c d
 have ws:=fun {G id u}=>qb2 (G:=G) (id:=id) hS u
 have a6:=fun {G id}=>wb (G:=G) (id:=id) 40 40 rfl
 have a1:=fun {G id}=>wb (G:=G) (id:=id) 41 41 rfl
 have Y:=fun {G id}=>wb (G:=G) (id:=id) 45 45 rfl
 have E:=λG=>qbK 18 G zo zo
 generalize hw:Wd _ _ G = w
 rw [qt,ql 68 c68] at hw
 rw [List.map_cons,List.map_cons,List.map_nil,qt,qt] at hw
 simp only [c68,sT.1,sC.1,qe,seval,-rN,Ia,xa,Ib,xb,ws,E,I,U,e,qaC,qaG,List.prefix_append_right_inj,List.prefix_append] at hw
 subst hw
 first
 | rfl
 | simp only [jp,jw,jW]
theorem qH4 (hS:S.length <= qi) {a:Exl} {b:Exl} {ta:Str} {tb:Str} (ka:qem S a ta) (kb:qem S b tb) (I:id < G.length) (hb:isB G[id]? = true) (hp:bsO G[id]? ++ (inn (sgn 19).2.1 (a.op,ta) ++ ((sgn 19).1 ++ inn (sgn 19).2.2 (b.op,tb))) <+: S):Wd (.fn 68 [] []) [.ptr id 0,exV (.mk 19 n nm sb [a,b])] G = some (.ret (.tup []),G.set id (BX (bsO G[id]? ++ (inn (sgn 19).2.1 (a.op,ta) ++ ((sgn 19).1 ++ inn (sgn 19).2.2 (b.op,tb))))),false):=by
 have e:=qaS hb
 generalize bsO G[id]? = s at *
 have U:id < G.length + 1:=zo
 have Ia:=λk=>qah hS ka k
 have Ib:=λk=>qah hS kb k
 unfold qke at Ia Ib
 obtain ⟨oa,na,ma,ba,la⟩:=a
 obtain ⟨ob,nb,mb,bb,lb⟩:=b
 simp only [Exl.op] at *
 have xa:=qa6 (aS:=[Exl.mk oa na ma ba la,Exl.mk ob nb mb bb lb]) (i:=0) (by simp)
 have xb:=qa6 (aS:=[Exl.mk oa na ma ba la,Exl.mk ob nb mb bb lb]) (i:=1) (by simp)
 simp only [List.map_cons,List.map_nil,qt,j3,List.getElem_cons_succ,qbI,cc0,cc1] at xa xb
 rw [qt] at Ia Ib
 obtain ⟨R,rfl⟩:=hp
 have wb:=fun {G id} c d=>qbG (G:=G) (id:=id) hS c d
 have ws:=fun {G id u}=>qb2 (G:=G) (id:=id) hS u
 have a6:=fun {G id}=>wb (G:=G) (id:=id) 40 40 rfl
 have a1:=fun {G id}=>wb (G:=G) (id:=id) 41 41 rfl
 have Y:=fun {G id}=>wb (G:=G) (id:=id) 45 45 rfl
 have E:=λG=>qbK 19 G zo zo
 generalize hw:Wd _ _ G = w
 rw [qt,ql 68 c68] at hw
 rw [List.map_cons,List.map_cons,List.map_nil,qt,qt] at hw
 simp only [c68,sT.1,sC.1,qe,seval,-rN,Ia,xa,Ib,xb,ws,E,I,U,e,qaC,qaG,List.prefix_append_right_inj,List.prefix_append] at hw
 subst hw
 first
 | rfl
 | simp only [jp,jw,jW]
end
section
variable {S:Str} {G:List qh} {id:Nat} {n:Int} {nm sb:Str}
theorem qH5 (hS:S.length <= qi) {a:Exl} {b:Exl} {ta:Str} {tb:Str} (ka:qem S a ta) (kb:qem S b tb) (I:id < G.length) (hb:isB G[id]? = true) (hp:bsO G[id]? ++ (inn (sgn 20).2.1 (a.op,ta) ++ ((sgn 20).1 ++ inn (sgn 20).2.2 (b.op,tb))) <+: S):Wd (.fn 68 [] []) [.ptr id 0,exV (.mk 20 n nm sb [a,b])] G = some (.ret (.tup []),G.set id (BX (bsO G[id]? ++ (inn (sgn 20).2.1 (a.op,ta) ++ ((sgn 20).1 ++ inn (sgn 20).2.2 (b.op,tb))))),false):=by
 have e:=qaS hb
 generalize bsO G[id]? = s at *
 have U:id < G.length + 1:=zo
 have Ia:=λk=>qah hS ka k
 have Ib:=λk=>qah hS kb k
 unfold qke at Ia Ib
 obtain ⟨oa,na,ma,ba,la⟩:=a
 obtain ⟨ob,nb,mb,bb,lb⟩:=b
 simp only [Exl.op] at *
 have xa:=qa6 (aS:=[Exl.mk oa na ma ba la,Exl.mk ob nb mb bb lb]) (i:=0) (by simp)
 have xb:=qa6 (aS:=[Exl.mk oa na ma ba la,Exl.mk ob nb mb bb lb]) (i:=1) (by simp)
 simp only [List.map_cons,List.map_nil,qt,j3,List.getElem_cons_succ,qbI,cc0,cc1] at xa xb
 rw [qt] at Ia Ib
 obtain ⟨R,rfl⟩:=hp
 have wb:=fun {G id} c d=>qbG (G:=G) (id:=id) hS c d
 have ws:=fun {G id u}=>qb2 (G:=G) (id:=id) hS u
 have a6:=fun {G id}=>wb (G:=G) (id:=id) 40 40 rfl
 have a1:=fun {G id}=>wb (G:=G) (id:=id) 41 41 rfl
 have Y:=fun {G id}=>wb (G:=G) (id:=id) 45 45 rfl
 have E:=λG=>qbK 20 G zo zo
 generalize hw:Wd _ _ G = w
 rw [qt,ql 68 c68] at hw
 rw [List.map_cons,List.map_cons,List.map_nil,qt,qt] at hw
 simp only [c68,sT.1,sC.1,qe,seval,-rN,Ia,xa,Ib,xb,ws,E,I,U,e,qaC,qaG,List.prefix_append_right_inj,List.prefix_append] at hw
 subst hw
 first
 | rfl
 | simp only [jp,jw,jW]
theorem qH6 (hS:S.length <= qi) {a:Exl} {b:Exl} {ta:Str} {tb:Str} (ka:qem S a ta) (kb:qem S b tb) (I:id < G.length) (hb:isB G[id]? = true) (hp:bsO G[id]? ++ (inn (sgn 21).2.1 (a.op,ta) ++ ((sgn 21).1 ++ inn (sgn 21).2.2 (b.op,tb))) <+: S):Wd (.fn 68 [] []) [.ptr id 0,exV (.mk 21 n nm sb [a,b])] G = some (.ret (.tup []),G.set id (BX (bsO G[id]? ++ (inn (sgn 21).2.1 (a.op,ta) ++ ((sgn 21).1 ++ inn (sgn 21).2.2 (b.op,tb))))),false):=by
 have e:=qaS hb
 generalize bsO G[id]? = s at *
 have U:id < G.length + 1:=zo
 have Ia:=λk=>qah hS ka k
 have Ib:=λk=>qah hS kb k
 unfold qke at Ia Ib
 obtain ⟨oa,na,ma,ba,la⟩:=a
 obtain ⟨ob,nb,mb,bb,lb⟩:=b
 simp only [Exl.op] at *
 have xa:=qa6 (aS:=[Exl.mk oa na ma ba la,Exl.mk ob nb mb bb lb]) (i:=0) (by simp)
 have xb:=qa6 (aS:=[Exl.mk oa na ma ba la,Exl.mk ob nb mb bb lb]) (i:=1) (by simp)
 simp only [List.map_cons,List.map_nil,qt,j3,List.getElem_cons_succ,qbI,cc0,cc1] at xa xb
 rw [qt] at Ia Ib
 obtain ⟨R,rfl⟩:=hp
 have wb:=fun {G id} c d=>qbG (G:=G) (id:=id) hS c d
 have ws:=fun {G id u}=>qb2 (G:=G) (id:=id) hS u
 have a6:=fun {G id}=>wb (G:=G) (id:=id) 40 40 rfl
 have a1:=fun {G id}=>wb (G:=G) (id:=id) 41 41 rfl
 have Y:=fun {G id}=>wb (G:=G) (id:=id) 45 45 rfl
 have E:=λG=>qbK 21 G zo zo
 generalize hw:Wd _ _ G = w
 rw [qt,ql 68 c68] at hw
 rw [List.map_cons,List.map_cons,List.map_nil,qt,qt] at hw
 simp only [c68,sT.1,sC.1,qe,seval,-rN,Ia,xa,Ib,xb,ws,E,I,U,e,qaC,qaG,List.prefix_append_right_inj,List.prefix_append] at hw
 subst hw
 first
 | rfl
 | simp only [jp,jw,jW]
theorem qH7 (hS:S.length <= qi) {a:Exl} {b:Exl} {ta:Str} {tb:Str} (ka:qem S a ta) (kb:qem S b tb) (I:id < G.length) (hb:isB G[id]? = true) (hp:bsO G[id]? ++ (inn (sgn 22).2.1 (a.op,ta) ++ ((sgn 22).1 ++ inn (sgn 22).2.2 (b.op,tb))) <+: S):Wd (.fn 68 [] []) [.ptr id 0,exV (.mk 22 n nm sb [a,b])] G = some (.ret (.tup []),G.set id (BX (bsO G[id]? ++ (inn (sgn 22).2.1 (a.op,ta) ++ ((sgn 22).1 ++ inn (sgn 22).2.2 (b.op,tb))))),false):=by
 have e:=qaS hb
 generalize bsO G[id]? = s at *
 have U:id < G.length + 1:=zo
 have Ia:=λk=>qah hS ka k
 have Ib:=λk=>qah hS kb k
 unfold qke at Ia Ib
 obtain ⟨oa,na,ma,ba,la⟩:=a
 obtain ⟨ob,nb,mb,bb,lb⟩:=b
 simp only [Exl.op] at *
 have xa:=qa6 (aS:=[Exl.mk oa na ma ba la,Exl.mk ob nb mb bb lb]) (i:=0) (by simp)
 have xb:=qa6 (aS:=[Exl.mk oa na ma ba la,Exl.mk ob nb mb bb lb]) (i:=1) (by simp)
 simp only [List.map_cons,List.map_nil,qt,j3,List.getElem_cons_succ,qbI,cc0,cc1] at xa xb
 rw [qt] at Ia Ib
 obtain ⟨R,rfl⟩:=hp
 have wb:=fun {G id} c d=>qbG (G:=G) (id:=id) hS c d
 have ws:=fun {G id u}=>qb2 (G:=G) (id:=id) hS u
 have a6:=fun {G id}=>wb (G:=G) (id:=id) 40 40 rfl
 have a1:=fun {G id}=>wb (G:=G) (id:=id) 41 41 rfl
 have Y:=fun {G id}=>wb (G:=G) (id:=id) 45 45 rfl
 have E:=λG=>qbK 22 G zo zo
 generalize hw:Wd _ _ G = w
 rw [qt,ql 68 c68] at hw
 rw [List.map_cons,List.map_cons,List.map_nil,qt,qt] at hw
 simp only [c68,sT.1,sC.1,qe,seval,-rN,Ia,xa,Ib,xb,ws,E,I,U,e,qaC,qaG,List.prefix_append_right_inj,List.prefix_append] at hw
 subst hw
 first
 | rfl
 | simp only [jp,jw,jW]
theorem qH8 (hS:S.length <= qi) {a:Exl} {b:Exl} {ta:Str} {tb:Str} (ka:qem S a ta) (kb:qem S b tb) (I:id < G.length) (hb:isB G[id]? = true) (hp:bsO G[id]? ++ (inn (sgn 23).2.1 (a.op,ta) ++ ((sgn 23).1 ++ inn (sgn 23).2.2 (b.op,tb))) <+: S):Wd (.fn 68 [] []) [.ptr id 0,exV (.mk 23 n nm sb [a,b])] G = some (.ret (.tup []),G.set id (BX (bsO G[id]? ++ (inn (sgn 23).2.1 (a.op,ta) ++ ((sgn 23).1 ++ inn (sgn 23).2.2 (b.op,tb))))),false):=by
 have e:=qaS hb
 generalize bsO G[id]? = s at *
 have U:id < G.length + 1:=zo
 have Ia:=λk=>qah hS ka k
 have Ib:=λk=>qah hS kb k
 unfold qke at Ia Ib
 obtain ⟨oa,na,ma,ba,la⟩:=a
 obtain ⟨ob,nb,mb,bb,lb⟩:=b
 simp only [Exl.op] at *
 have xa:=qa6 (aS:=[Exl.mk oa na ma ba la,Exl.mk ob nb mb bb lb]) (i:=0) (by simp)
 have xb:=qa6 (aS:=[Exl.mk oa na ma ba la,Exl.mk ob nb mb bb lb]) (i:=1) (by simp)
 simp only [List.map_cons,List.map_nil,qt,j3,List.getElem_cons_succ,qbI,cc0,cc1] at xa xb
 rw [qt] at Ia Ib
 obtain ⟨R,rfl⟩:=hp
 have wb:=fun {G id} c d=>qbG (G:=G) (id:=id) hS c d
 have ws:=fun {G id u}=>qb2 (G:=G) (id:=id) hS u
 have a6:=fun {G id}=>wb (G:=G) (id:=id) 40 40 rfl
 have a1:=fun {G id}=>wb (G:=G) (id:=id) 41 41 rfl
 have Y:=fun {G id}=>wb (G:=G) (id:=id) 45 45 rfl
 have E:=λG=>qbK 23 G zo zo
 generalize hw:Wd _ _ G = w
 rw [qt,ql 68 c68] at hw
 rw [List.map_cons,List.map_cons,List.map_nil,qt,qt] at hw
 simp only [c68,sT.1,sC.1,qe,seval,-rN,Ia,xa,Ib,xb,ws,E,I,U,e,qaC,qaG,List.prefix_append_right_inj,List.prefix_append] at hw
 subst hw
 first
 | rfl
 | simp only [jp,jw,jW]
theorem qH9 (hS:S.length <= qi) {a:Exl} {b:Exl} {ta:Str} {tb:Str} (ka:qem S a ta) (kb:qem S b tb) (I:id < G.length) (hb:isB G[id]? = true) (hp:bsO G[id]? ++ (inn (sgn 24).2.1 (a.op,ta) ++ ((sgn 24).1 ++ inn (sgn 24).2.2 (b.op,tb))) <+: S):Wd (.fn 68 [] []) [.ptr id 0,exV (.mk 24 n nm sb [a,b])] G = some (.ret (.tup []),G.set id (BX (bsO G[id]? ++ (inn (sgn 24).2.1 (a.op,ta) ++ ((sgn 24).1 ++ inn (sgn 24).2.2 (b.op,tb))))),false):=by
 have e:=qaS hb
 generalize bsO G[id]? = s at *
 have U:id < G.length + 1:=zo
 have Ia:=λk=>qah hS ka k
 have Ib:=λk=>qah hS kb k
 unfold qke at Ia Ib
 obtain ⟨oa,na,ma,ba,la⟩:=a
 obtain ⟨ob,nb,mb,bb,lb⟩:=b
 simp only [Exl.op] at *
 have xa:=qa6 (aS:=[Exl.mk oa na ma ba la,Exl.mk ob nb mb bb lb]) (i:=0) (by simp)
 have xb:=qa6 (aS:=[Exl.mk oa na ma ba la,Exl.mk ob nb mb bb lb]) (i:=1) (by simp)
 simp only [List.map_cons,List.map_nil,qt,j3,List.getElem_cons_succ,qbI,cc0,cc1] at xa xb
 rw [qt] at Ia Ib
 obtain ⟨R,rfl⟩:=hp
 have wb:=fun {G id} c d=>qbG (G:=G) (id:=id) hS c d
 have ws:=fun {G id u}=>qb2 (G:=G) (id:=id) hS u
 have a6:=fun {G id}=>wb (G:=G) (id:=id) 40 40 rfl
 have a1:=fun {G id}=>wb (G:=G) (id:=id) 41 41 rfl
 have Y:=fun {G id}=>wb (G:=G) (id:=id) 45 45 rfl
 have E:=λG=>qbK 24 G zo zo
 generalize hw:Wd _ _ G = w
 rw [qt,ql 68 c68] at hw
 rw [List.map_cons,List.map_cons,List.map_nil,qt,qt] at hw
 simp only [c68,sT.1,sC.1,qe,seval,-rN,Ia,xa,Ib,xb,ws,E,I,U,e,qaC,qaG,List.prefix_append_right_inj,List.prefix_append] at hw
 subst hw
 first
 | rfl
 | simp only [jp,jw,jW]
end
end Go.Proofs.YtcbfifamliijlaaGreatDoor.AE
