/- A part of the proof: the abstract executor and what goes through it (part 19). No condition. -/
import Derived.Test.YtnibchoenjmmjaaGreatDoorMr18
set_option maxRecDepth 100000
set_option maxHeartbeats 0
open List renaming getElem?_append_left→ja,getElem?_append_right→jc,getElem?_eq_some_iff→jd,take_set_of_le→jZ,getElem?_set_ne→jf,getElem?_set_self→jg,drop_eq_getElem_cons→jV,length_map→jW,map_append→j9,getElem?_eq_none→jq,getElem?_cons_zero→jz,getElem?_cons_succ→Jb,ext_getElem?→jQ,mem_map→jR
open Nat renaming add_zero→jT
open Bool renaming true_and→jX,false_and→jN,and_true→jx
namespace Go.Proofs.YtnibchoenjmmjaaGreatDoor.AE
open Go.AE
def wE (W:Wl):qeZ:=⟨W.vals,W.bag,W.en,W.ed,(W.N.oth.zip W.ofv).map λx=>(x.1.1,x.1.2.1,x.2)⟩
def qcR (x:Str×Str×Val):List qa:=.str x.1 :: .str x.2.1 :: x.2.2.enc
theorem qaJ (x:Str×Str×Val):(qcR x).length = 6/\qb0 (qcR x):=by
 obtain ⟨a,b,k,n,s,l⟩:=x
 rw [qcR,qaU]
 refine ⟨rfl,λc hc=>?_⟩
 simp only [List.mem_cons,List.not_mem_nil,or_false] at hc
 rcases hc with rfl | rfl | rfl | rfl | rfl | rfl <;> exact ⟨rfl,rfl⟩
theorem SlR.oth {g:List qb} {b:Nat} {l:List (Str×Str×Val)} {V:qa} (h:SlR g b 6 (l.map qcR) V) {H:Nat->Option qb} (hH:∀i,b <= i->i < g.length->H i = g[i]?):qd5 H l V:=by
 refine ⟨l.map qcR,by simp,λi h1 h2=>?_,?_⟩
 ·exact ⟨l[i].2.2.enc,by simp [qcR],At.arg _⟩
 ·rcases h with ⟨e,rfl⟩ | ⟨id,rfl,h1,_,h3⟩
  ·exact .inl ⟨by simpa using e,rfl⟩
  ·exact .inr ⟨id,6,by simp,by rw [hH id h1 (jd.1 h3).1];exact h3⟩
section
variable {h:List qb}
theorem qqW (base:Nat) (a b:Str) (k n:Int) (s:Str) (L:List qa) (h:List qb):hop base (.lit 6 [.str [],.str [],.int .i64 0,.int .i64 0,.str [],.lst [] .full] 1 [0]) [.agg [.str a,.str b,.int .i64 k,.int .i64 n,.str s,.lst L .no]] h = some (.sl h.length 0 1 1 0,h ++ [.cells [.str a,.str b,.int .i64 k,.int .i64 n,.str s,.lst L .no]],false):=xk
theorem qbU (b:List (List Val)):(qaV b).dim = qaV b/\(qaV b).storable = true/\(∀i t,qz (qaV b) i t = t)/\qbB false (qaV b) = some (.int .i64 (b.length:Nat))/\(qaV b).cells = [qaV b]:=⟨rfl,by rw [qaV];kernel_rfl,λi t=>by rw [qaV];rfl,by rw [qaV,qbB];simp,rfl⟩
theorem qtR (op n:Int) (nm sb:Str) (aS:List Exl) (N:Nms) (E:List Val) (I:List (List Val)) (en ed:Int) (B:List Val) (hl:B.length = N.oth.length) (hs:N.oth.length <= 50) (b1:qb) :
  ∀k st,(∃(tt:List qa) (G:List qb) (i:Nat) (V:qa),st = ⟨tt,G,false⟩/\tt.length = 45/\lkp tt 1 = .ptr h.length 0/\lkp tt 2 = .ptr (h.length + 1) 0/\lkp tt 3 = .ptr (h.length + 2) 0/\lkp tt 4 = .int .i64 (i:Nat)/\i + k = B.length/\(∀j,j < h.length + 2->G[j]? = (h ++ [.cells (wC ⟨.mk op n nm sb aS,N,E,I,en,ed,B⟩),b1])[j]?)/\G[h.length + 2]? = some (.cells [.lst (E.map qa6) .no,qaV I,.int .i64 en,.int .i64 ed,V])/\h.length + 3 <= G.length/\SlR G (h.length + 3) 6 ((((N.oth.zip B).take i).map λx=>(x.1.1,x.1.2.1,x.2)).map qcR) V)->
   ∃x S,qj h.length Wd (.loop qmK) st = some (x,S)/\(∃(tt:List qa) (G:List qb) (V:qa),S = ⟨tt,G,false⟩/\tt.length = 45/\lkp tt 2 = .ptr (h.length + 1) 0/\lkp tt 3 = .ptr (h.length + 2) 0/\(∀j,j < h.length + 2->G[j]? = (h ++ [.cells (wC ⟨.mk op n nm sb aS,N,E,I,en,ed,B⟩),b1])[j]?)/\G[h.length + 2]? = some (.cells [.lst (E.map qa6) .no,qaV I,.int .i64 en,.int .i64 ed,V])/\h.length + 3 <= G.length/\SlR G (h.length + 3) 6 (((N.oth.zip B).map λx=>(x.1.1,x.1.2.1,x.2)).map qcR) V/\x = .exit 0):=by
 refine qx _ _ ?_
 rintro k st ⟨tt,G,i,V,rfl,ht,e1,e2,e3,e4,aj,hG,g2,a7,hV⟩
 generalize he:qj h.length Wd qmK _ = r
 obtain ⟨vd,vs,vw,_,vc⟩:=hV.facts
 obtain ⟨bd,bs,bw,bl,bc⟩:=qbU I
 have b0:=hG h.length zo
 rw [qY] at b0
 simp only [jz,qeU] at b0
 have l0:h.length < G.length:=zo
 have l2:h.length + 2 < G.length:=zo
 have hB:Nat.ble h.length (h.length + 2) = true:=qf zo
 have ai:(N.oth.zip B).length = B.length:=by simp;omega
 rcases Nat.lt_or_ge i B.length with hi | hi
 ·have M:ilt (i:Int) (B.length:Int) = true:=by rw [qe];simp;omega
  have w:=qU (n:=i) zo
  have ac:i < N.oth.length:=zo
  have x1:=qiI ac
  have x2:=qyc hi
  obtain ⟨V',G',a6,J,ae,hold⟩:=hV.next (base:=h.length) (row:=qcR (N.oth[i].1,N.oth[i].2.1,B[i])) a7 (by simp;omega) zo (λr hr=>by
   obtain ⟨v,_,rfl⟩:=jR.1 hr
   exact qaJ v) (qaJ _).1 (qaJ _).2
  have O:(((N.oth.zip B).take i).map λx=>(x.1.1,x.1.2.1,x.2)).map qcR ++ [qcR (N.oth[i].1,N.oth[i].2.1,B[i])] = (((N.oth.zip B).take (i + 1)).map λx=>(x.1.1,x.1.2.1,x.2)).map qcR:=by
   rw [List.take_succ_eq_append_getElem zo,j9,j9]
   simp
  rw [O] at J
  obtain ⟨ab,aa,a8,_,af⟩:=J.facts
  have a1:∀j,j < h.length + 3->∀id a c d e,V = .sl id a c d e->j ≠ id:=λj hj id a c d e' ev=>by
   rcases hV with ⟨_,hV⟩ | ⟨ah,hV,h1,_⟩
   ·rw [hV] at ev;cases ev
   ·rw [hV] at ev;cases ev;omega
  have ad:G'[h.length + 2]? = some (.cells [.lst (E.map qa6) .no,qaV I,.int .i64 en,.int .i64 ed,V]):=by rw [hold _ zo (a1 _ zo)];exact g2
  have U:h.length + 2 < G'.length:=zo
  generalize N.oth[i] = q at *
  generalize B[i] = v at *
  obtain ⟨qp,qn,qk,ql⟩:=q
  obtain ⟨vk,vn,vz,vl⟩:=v
  rw [qah] at x1
  rw [qaU] at x2
  simp only [qcR,qaU] at a6
  simp only [sA.1,qmK,seval,ht,e1,e3,e4,M,b0,l0,g2,l2,x1,x2,vd,vs,vw,vc,bd,bs,bw,bc,qqW,a6,ad,U,ab,aa,a8,hB,w] at he
  subst he
  have P1:∀(X:qb) j,j ≠ h.length + 2->(G'.set (h.length + 2) X)[j]? = G'[j]?:=λX j hj=>by rw [jf zo]
  refine .inl ⟨_,k - 1,rfl,zo,_,_,i + 1,V',rfl,Y0,?_,?_,?_,?_,zo,λj hj=>?_,?_,?_,?_⟩
  ·simp only [sA.1,seval,ht,e1]
  ·simp only [sA.1,seval,ht,e2]
  ·simp only [sA.1,seval,ht,e3]
  ·simp only [sA.1,seval,ht]
  ·rw [P1 _ j zo,hold j zo (a1 j zo),hG j hj]
  ·rw [jg U]
  ·simp;omega
  ·exact J.keep λj h1 h2=>P1 _ j zo
 ·have M:ilt (i:Int) (B.length:Int) = false:=by rw [qe];simp;omega
  rw [List.take_of_length_le zo] at hV
  simp only [sA.1,qmK,seval,ht,e1,e4,M,b0,l0] at he
  subst he
  refine .inr ⟨_,_,rfl,by simp,_,G,V,rfl,Y0,?_,?_,hG,g2,a7,hV,rfl⟩
  all_goals simp only [sA.1,seval,ht,e2,e3]
theorem qAM (W:Wl) (hl:W.ofv.length = W.N.oth.length) (hs:W.N.oth.length <= 50):∃OL m,Wd (.fn 10 [] []) [wV W] h = some (.ret (.agg [.lst (W.vals.map qa6) .no,qaV W.bag,.int .i64 W.en,.int .i64 W.ed,OL]),h ++ m,false)/\qd5 (qcx h.length (h ++ m)) (wE W).oth OL:=by
 obtain ⟨⟨op,n,nm,sb,aS⟩,N,B,E,en,ed,I⟩:=W
 simp only [wE] at *
 obtain ⟨bd,bs,bw,bl,bc⟩:=qbU E
 have loop:=qtR (h:=h) op n nm sb aS N B E en ed I hl hs (.cells [.lst [] .full,.lst [] .full,.int .i64 0,.int .i64 0,.lst [] .full])
 simp only [qeU] at loop
 generalize hw:Wd _ _ h = w
 rw [wV,qeU] at hw
 rw [qm 10 c10] at hw
 have O:Nat.ble h.length (h.length + 2) = true:=qf zo
 simp only [sA.1,c10,seval,bd,bs,bw,bc,O] at hw
 generalize hr:qj h.length Wd (.loop qmK) _ = r at hw
 obtain ⟨x,S,rfl,tt,G,V,rfl,ht,e2,e3,hG,g2,a1,hV,rfl⟩:=qaH hr (loop I.length _ ⟨_,_,0,.lst [] .full,rfl,Y2,Y2,Y2,Y2,y9,zo,λj hj=>by
  rcases Nat.lt_or_ge j h.length with h1 | h1
  ·rw [ja h1,ja h1]
  ·obtain ⟨q,rfl⟩ :∃q,j = h.length + q:=⟨j - h.length,zo⟩
   rw [jc zo,jc zo,Nat.add_sub_cancel_left]
   have:q = 0\/q = 1:=zo
   rcases this with rfl | rfl <;> rfl,by
  rw [jc zo,Nat.add_sub_cancel_left]
  rfl,by simp,.inl ⟨rfl,rfl⟩⟩)
 case _=>
  obtain ⟨vd,vs,vw,_,vc⟩:=hV.facts
  have hB:Nat.ble h.length (h.length + 1) = true:=qf zo
  have b1:=hG (h.length + 1) zo
  rw [jc zo,Nat.add_sub_cancel_left] at b1
  simp only [Jb,jz] at b1
  have l1:h.length + 1 < G.length:=zo
  have l2:h.length + 2 < G.length:=zo
  simp only [sA.1,seval,ht,e2,e3,b1,g2,l1,l2,vd,vs,vw,vc,bd,bs,bw,bc,hB] at hw
  subst hw
  have tk:G.take h.length = h:=by
   apply jQ
   intro i
   rw [List.getElem?_take]
   split
   ·rw [hG i zo,ja ‹_›]
   ·rw [jq zo]
  obtain ⟨m,hm,J⟩:=qI (v:=.agg [.lst (B.map qa6) .no,qaV E,.int .i64 en,.int .i64 ed,V]) (g:=h) (G:=G.set (h.length + 1) (.cells [.lst (B.map qa6) .no,qaV E,.int .i64 en,.int .i64 ed,V])) (by rw [jZ zo,tk])
  refine ⟨V,m,congrArg some hm,?_⟩
  rcases hV with ⟨e,rfl⟩ | ⟨id,rfl,h1,h2,h3⟩
  ·exact SlR.oth (g:=[]) (b:=0) (.inl ⟨e,rfl⟩) λi _ h=>by simp at h
  ·have M:=J (by
    simp only [qa.lower,qt,qde (show h.length <= id by omega),jN,Bool.and_false])
   exact SlR.oth (g:=G) (b:=h.length + 3) (.inr ⟨id,rfl,h1,h2,h3⟩) λi hi U=>by
    rw [qL zo,M,jf zo]
end
def qh5 (x:Str×List Val):List qa:=[.str x.1,.lst (x.2.map qa6) .no]
theorem qe3 (x:Str×List Val):(qh5 x).length = 2/\qb0 (qh5 x):=⟨rfl,λc hc=>by
 simp only [qh5,List.mem_cons,List.not_mem_nil,or_false] at hc
 rcases hc with rfl | rfl <;> exact ⟨rfl,rfl⟩⟩
theorem qBl (base:Nat) (a:Str) (L:List qa) (h:List qb):hop base (.lit 2 [.str [],.lst [] .full] 1 [0]) [.agg [.str a,.lst L .no]] h = some (.sl h.length 0 1 1 0,h ++ [.cells [.str a,.lst L .no]],false):=xk
section
variable {h:List qb}
theorem qnr (op n:Int) (nm sb:Str) (aS:List Exl) (N:Nms) (E:List Val) (aa:List (List Val)) (en ed:Int) (ah:List Val) (hl:E.length = N.vars.length) (hs:N.vars.length <= 50) (G1:List qb) (B:Nat) (hB:h.length + 3 <= B) (b0:G1[h.length]? = some (.cells [.int .i64 op,.int .i64 n,.str nm,.str sb,.lst (aS.map exV) .no,.lst (N.vars.map nvV) .no,.lst (N.ports.map npV) .no,.bool N.bagq,.lst (N.oth.map nvV) .no,.lst (E.map qa6) .no,qaV aa,.int .i64 en,.int .i64 ed,.lst (ah.map qa6) .no])) (V1 V4:qa) (f1:V1.dim = V1/\V1.storable = true/\V1.cells = [V1]) (f2:V4.dim = V4/\V4.storable = true/\V4.cells = [V4]) :
  ∀k st,(∃(tt:List qa) (G:List qb) (i:Nat) (V:qa),st = ⟨tt,G,false⟩/\tt.length = 93/\lkp tt 1 = .ptr h.length 0/\lkp tt 2 = .ptr (h.length + 1) 0/\lkp tt 3 = .ptr (h.length + 2) 0/\lkp tt 4 = .int .i64 (i:Nat)/\i + k = E.length/\(∀j,j < B->j ≠ h.length + 2->G[j]? = G1[j]?)/\G[h.length + 2]? = some (.cells [V,V1,.int .i64 en,.int .i64 ed,V4])/\B <= G.length/\SlR G B 6 (((((N.vars.zip E).take i)).map λx=>(([]:Str),x.1.2.1,x.2)).map qcR) V)->
   ∃x S,qj h.length Wd (.loop qmL) st = some (x,S)/\(∃(tt:List qa) (G:List qb) (V:qa),S = ⟨tt,G,false⟩/\tt.length = 93/\lkp tt 1 = .ptr h.length 0/\lkp tt 2 = .ptr (h.length + 1) 0/\lkp tt 3 = .ptr (h.length + 2) 0/\(∀j,j < B->j ≠ h.length + 2->G[j]? = G1[j]?)/\G[h.length + 2]? = some (.cells [V,V1,.int .i64 en,.int .i64 ed,V4])/\B <= G.length/\SlR G B 6 ((((N.vars.zip E)).map λx=>(([]:Str),x.1.2.1,x.2)).map qcR) V/\x = .exit 0):=by
 refine qx _ _ ?_
 rintro k st ⟨tt,G,i,V,rfl,ht,e1,e2,e3,ei,au,hG,g2,a8,hV⟩
 generalize he:qj h.length Wd qmL _ = r
 obtain ⟨vd,vs,vw,_,vc⟩:=hV.facts
 obtain ⟨bd,bs,bw,bl,bc⟩:=qbU aa
 obtain ⟨d1,s1,ac⟩:=f1
 obtain ⟨d2,s2,ab⟩:=f2
 have M:=hG h.length zo zo
 rw [b0] at M
 have l0:h.length < G.length:=zo
 have l2:h.length + 2 < G.length:=zo
 have aj:Nat.ble h.length (h.length + 2) = true:=qf zo
 have ar:(N.vars.zip E).length = E.length:=by simp;omega
 rcases Nat.lt_or_ge i E.length with hi | hi
 ·have J:ilt (i:Int) (E.length:Int) = true:=by rw [qe];simp;omega
  have w:=qU (n:=i) zo
  have ai:i < N.vars.length:=zo
  obtain ⟨V',G',a7,I,al,hold⟩:=hV.next (base:=h.length) (row:=qcR ([],N.vars[i].2.1,E[i])) a8 (by simp;omega) zo (λr hr=>by
   obtain ⟨v,_,rfl⟩:=jR.1 hr
   exact qaJ v) (qaJ _).1 (qaJ _).2
  have O:((((N.vars.zip E).take i)).map λx=>(([]:Str),x.1.2.1,x.2)).map qcR ++ [qcR ([],N.vars[i].2.1,E[i])] = ((((N.vars.zip E).take (i + 1))).map λx=>(([]:Str),x.1.2.1,x.2)).map qcR:=by
   rw [List.take_succ_eq_append_getElem zo,j9,j9]
   simp
  rw [O] at I
  obtain ⟨af,ae,ad,_,am⟩:=I.facts
  have a1:∀j,j < B->∀id a c d e,V = .sl id a c d e->j ≠ id:=λj hj id a c d e' ev=>by
   rcases hV with ⟨_,hV⟩ | ⟨ap,hV,h1,_⟩
   ·rw [hV] at ev;cases ev
   ·rw [hV] at ev;cases ev;omega
  have ak:G'[h.length + 2]? = some (.cells [V,V1,.int .i64 en,.int .i64 ed,V4]):=by rw [hold _ zo (a1 _ zo)];exact g2
  have U:h.length + 2 < G'.length:=zo
  have x1:=qiI ai
  have x2:=qyc hi
  generalize N.vars[i] = q at *
  generalize E[i] = v at *
  obtain ⟨qp,qn,qk,ql⟩:=q
  obtain ⟨vk,vn,vz,vl⟩:=v
  rw [qah] at x1
  rw [qaU] at x2
  simp only [qcR,qaU] at a7
  simp only [sA.1,qmL,seval,ht,e1,e3,ei,J,M,l0,g2,l2,x1,x2,vd,vs,vw,vc,bd,bs,bw,bl,bc,d1,s1,ac,d2,s2,ab,qqW,a7,ak,U,af,ae,ad,aj,w] at he
  subst he
  have P1:∀(X:qb) j,j ≠ h.length + 2->(G'.set (h.length + 2) X)[j]? = G'[j]?:=λX j hj=>by rw [jf zo]
  refine .inl ⟨_,k - 1,rfl,zo,_,_,i + 1,V',rfl,Y0,?_,?_,?_,?_,zo,λj hj a6=>?_,?_,?_,?_⟩
  ·simp only [sA.1,seval,ht,e1]
  ·simp only [sA.1,seval,ht,e2]
  ·simp only [sA.1,seval,ht,e3]
  ·simp only [sA.1,seval,ht]
  ·rw [P1 _ j a6,hold j zo (a1 j hj),hG j hj a6]
  ·rw [jg U]
  ·simp;omega
  ·exact I.keep λj h1 h2=>P1 _ j zo
 ·have J:ilt (i:Int) (E.length:Int) = false:=by rw [qe];simp;omega
  rw [List.take_of_length_le zo] at hV
  simp only [sA.1,qmL,seval,ht,e1,ei,J,M,l0,bl,bd,bw] at he
  subst he
  refine .inr ⟨_,_,rfl,by simp,_,G,V,rfl,Y0,?_,?_,?_,hG,g2,a8,hV,rfl⟩
  all_goals simp only [sA.1,seval,ht,e1,e2,e3]
theorem qrH (op n:Int) (nm sb:Str) (aS:List Exl) (N:Nms) (ab:List Val) (aa:List (List Val)) (en ed:Int) (E:List Val) (hl:E.length = N.oth.length) (hs:N.oth.length <= 50) (G1:List qb) (B:Nat) (hB:h.length + 3 <= B) (b0:G1[h.length]? = some (.cells [.int .i64 op,.int .i64 n,.str nm,.str sb,.lst (aS.map exV) .no,.lst (N.vars.map nvV) .no,.lst (N.ports.map npV) .no,.bool N.bagq,.lst (N.oth.map nvV) .no,.lst (ab.map qa6) .no,qaV aa,.int .i64 en,.int .i64 ed,.lst (E.map qa6) .no])) (V0 V1:qa) (f1:V0.dim = V0/\V0.storable = true/\V0.cells = [V0]) (f2:V1.dim = V1/\V1.storable = true/\V1.cells = [V1]) :
  ∀k st,(∃(tt:List qa) (G:List qb) (i:Nat) (V:qa),st = ⟨tt,G,false⟩/\tt.length = 93/\lkp tt 1 = .ptr h.length 0/\lkp tt 2 = .ptr (h.length + 1) 0/\lkp tt 3 = .ptr (h.length + 2) 0/\lkp tt 5 = .int .i64 (i:Nat)/\i + k = E.length/\(∀j,j < B->j ≠ h.length + 2->G[j]? = G1[j]?)/\G[h.length + 2]? = some (.cells [V0,V1,.int .i64 en,.int .i64 ed,V])/\B <= G.length/\SlR G B 6 (((((N.oth.zip E).take i)).map λx=>(x.1.1,x.1.2.1,x.2)).map qcR) V)->
   ∃x S,qj h.length Wd (.loop qmM) st = some (x,S)/\(∃(tt:List qa) (G:List qb) (V:qa),S = ⟨tt,G,false⟩/\tt.length = 93/\lkp tt 1 = .ptr h.length 0/\lkp tt 2 = .ptr (h.length + 1) 0/\lkp tt 3 = .ptr (h.length + 2) 0/\(∀j,j < B->j ≠ h.length + 2->G[j]? = G1[j]?)/\G[h.length + 2]? = some (.cells [V0,V1,.int .i64 en,.int .i64 ed,V])/\B <= G.length/\SlR G B 6 ((((N.oth.zip E)).map λx=>(x.1.1,x.1.2.1,x.2)).map qcR) V/\x = .exit 2):=by
 refine qx _ _ ?_
 rintro k st ⟨tt,G,i,V,rfl,ht,e1,e2,e3,ei,au,hG,g2,a8,hV⟩
 generalize he:qj h.length Wd qmM _ = r
 obtain ⟨vd,vs,vw,_,vc⟩:=hV.facts
 obtain ⟨bd,bs,bw,bl,bc⟩:=qbU aa
 obtain ⟨d1,s1,ad⟩:=f1
 obtain ⟨d2,s2,ac⟩:=f2
 have M:=hG h.length zo zo
 rw [b0] at M
 have l0:h.length < G.length:=zo
 have l2:h.length + 2 < G.length:=zo
 have aj:Nat.ble h.length (h.length + 2) = true:=qf zo
 have ar:(N.oth.zip E).length = E.length:=by simp;omega
 rcases Nat.lt_or_ge i E.length with hi | hi
 ·have J:ilt (i:Int) (E.length:Int) = true:=by rw [qe];simp;omega
  have w:=qU (n:=i) zo
  have ai:i < N.oth.length:=zo
  obtain ⟨V',G',a7,I,al,hold⟩:=hV.next (base:=h.length) (row:=qcR (N.oth[i].1,N.oth[i].2.1,E[i])) a8 (by simp;omega) zo (λr hr=>by
   obtain ⟨v,_,rfl⟩:=jR.1 hr
   exact qaJ v) (qaJ _).1 (qaJ _).2
  have O:((((N.oth.zip E).take i)).map λx=>(x.1.1,x.1.2.1,x.2)).map qcR ++ [qcR (N.oth[i].1,N.oth[i].2.1,E[i])] = ((((N.oth.zip E).take (i + 1))).map λx=>(x.1.1,x.1.2.1,x.2)).map qcR:=by
   rw [List.take_succ_eq_append_getElem zo,j9,j9]
   simp
  rw [O] at I
  obtain ⟨ah,af,ae,_,am⟩:=I.facts
  have a1:∀j,j < B->∀id a c d e,V = .sl id a c d e->j ≠ id:=λj hj id a c d e' ev=>by
   rcases hV with ⟨_,hV⟩ | ⟨ap,hV,h1,_⟩
   ·rw [hV] at ev;cases ev
   ·rw [hV] at ev;cases ev;omega
  have ak:G'[h.length + 2]? = some (.cells [V0,V1,.int .i64 en,.int .i64 ed,V]):=by rw [hold _ zo (a1 _ zo)];exact g2
  have U:h.length + 2 < G'.length:=zo
  have x1:=qiI ai
  have x2:=qyc hi
  generalize N.oth[i] = q at *
  generalize E[i] = v at *
  obtain ⟨qp,qn,qk,ql⟩:=q
  obtain ⟨vk,vn,vz,vl⟩:=v
  rw [qah] at x1
  rw [qaU] at x2
  simp only [qcR,qaU] at a7
  simp only [sA.1,qmM,seval,ht,e1,e3,ei,J,M,l0,g2,l2,x1,x2,vd,vs,vw,vc,bd,bs,bw,bl,bc,d1,s1,ad,d2,s2,ac,qqW,a7,ak,U,ah,af,ae,aj,w] at he
  subst he
  have P1:∀(X:qb) j,j ≠ h.length + 2->(G'.set (h.length + 2) X)[j]? = G'[j]?:=λX j hj=>by rw [jf zo]
  refine .inl ⟨_,k - 1,rfl,zo,_,_,i + 1,V',rfl,Y0,?_,?_,?_,?_,zo,λj hj a6=>?_,?_,?_,?_⟩
  ·simp only [sA.1,seval,ht,e1]
  ·simp only [sA.1,seval,ht,e2]
  ·simp only [sA.1,seval,ht,e3]
  ·simp only [sA.1,seval,ht]
  ·rw [P1 _ j a6,hold j zo (a1 j hj),hG j hj a6]
  ·rw [jg U]
  ·simp;omega
  ·exact I.keep λj h1 h2=>P1 _ j zo
 ·have J:ilt (i:Int) (E.length:Int) = false:=by rw [qe];simp;omega
  rw [List.take_of_length_le zo] at hV
  simp only [sA.1,qmM,seval,ht,e1,ei,J,M,l0,bl,bd,bw] at he
  subst he
  refine .inr ⟨_,_,rfl,by simp,_,G,V,rfl,Y0,?_,?_,?_,hG,g2,a8,hV,rfl⟩
  all_goals simp only [sA.1,seval,ht,e1,e2,e3]
theorem qro (op n:Int) (nm sb:Str) (aS:List Exl) (N:Nms) (aa:List Val) (E:List (List Val)) (en ed:Int) (ah:List Val) (hl:E.length = N.ports.length) (hs:N.ports.length <= 50) (G1:List qb) (B:Nat) (hB:h.length + 3 <= B) (b0:G1[h.length]? = some (.cells [.int .i64 op,.int .i64 n,.str nm,.str sb,.lst (aS.map exV) .no,.lst (N.vars.map nvV) .no,.lst (N.ports.map npV) .no,.bool N.bagq,.lst (N.oth.map nvV) .no,.lst (aa.map qa6) .no,qaV E,.int .i64 en,.int .i64 ed,.lst (ah.map qa6) .no])) (V0 V4:qa) (f1:V0.dim = V0/\V0.storable = true/\V0.cells = [V0]) (f2:V4.dim = V4/\V4.storable = true/\V4.cells = [V4]) :
  ∀k st,(∃(tt:List qa) (G:List qb) (i:Nat) (V:qa),st = ⟨tt,G,false⟩/\tt.length = 93/\lkp tt 1 = .ptr h.length 0/\lkp tt 2 = .ptr (h.length + 1) 0/\lkp tt 3 = .ptr (h.length + 2) 0/\lkp tt 6 = .int .i64 (i:Nat)/\i + k = E.length/\(∀j,j < B->j ≠ h.length + 2->G[j]? = G1[j]?)/\G[h.length + 2]? = some (.cells [V0,V,.int .i64 en,.int .i64 ed,V4])/\B <= G.length/\SlR G B 2 (((((N.ports.zip E).take i)).map λx=>(x.1.1,x.2)).map qh5) V)->
   ∃x S,qj h.length Wd (.loop qmN) st = some (x,S)/\(∃(tt:List qa) (G:List qb) (V:qa),S = ⟨tt,G,false⟩/\tt.length = 93/\lkp tt 1 = .ptr h.length 0/\lkp tt 2 = .ptr (h.length + 1) 0/\lkp tt 3 = .ptr (h.length + 2) 0/\(∀j,j < B->j ≠ h.length + 2->G[j]? = G1[j]?)/\G[h.length + 2]? = some (.cells [V0,V,.int .i64 en,.int .i64 ed,V4])/\B <= G.length/\SlR G B 2 ((((N.ports.zip E)).map λx=>(x.1.1,x.2)).map qh5) V/\x = .exit 4):=by
 refine qx _ _ ?_
 rintro k st ⟨tt,G,i,V,rfl,ht,e1,e2,e3,ei,au,hG,g2,a8,hV⟩
 generalize he:qj h.length Wd qmN _ = r
 obtain ⟨vd,vs,vw,_,vc⟩:=hV.facts
 obtain ⟨bd,bs,bw,bl,bc⟩:=qbU E
 obtain ⟨d1,s1,ac⟩:=f1
 obtain ⟨d2,s2,ab⟩:=f2
 have M:=hG h.length zo zo
 rw [b0] at M
 have l0:h.length < G.length:=zo
 have l2:h.length + 2 < G.length:=zo
 have aj:Nat.ble h.length (h.length + 2) = true:=qf zo
 have ar:(N.ports.zip E).length = E.length:=by simp;omega
 rcases Nat.lt_or_ge i E.length with hi | hi
 ·have J:ilt (i:Int) (E.length:Int) = true:=by rw [qe];simp;omega
  have w:=qU (n:=i) zo
  have ai:i < N.ports.length:=zo
  obtain ⟨V',G',a7,I,al,hold⟩:=hV.next (base:=h.length) (row:=qh5 (N.ports[i].1,E[i])) a8 (by simp;omega) zo (λr hr=>by
   obtain ⟨v,_,rfl⟩:=jR.1 hr
   exact qe3 v) (qe3 _).1 (qe3 _).2
  have O:((((N.ports.zip E).take i)).map λx=>(x.1.1,x.2)).map qh5 ++ [qh5 (N.ports[i].1,E[i])] = ((((N.ports.zip E).take (i + 1))).map λx=>(x.1.1,x.2)).map qh5:=by
   rw [List.take_succ_eq_append_getElem zo,j9,j9]
   simp
  rw [O] at I
  obtain ⟨af,ae,ad,_,am⟩:=I.facts
  have a1:∀j,j < B->∀id a c d e,V = .sl id a c d e->j ≠ id:=λj hj id a c d e' ev=>by
   rcases hV with ⟨_,hV⟩ | ⟨ap,hV,h1,_⟩
   ·rw [hV] at ev;cases ev
   ·rw [hV] at ev;cases ev;omega
  have ak:G'[h.length + 2]? = some (.cells [V0,V,.int .i64 en,.int .i64 ed,V4]):=by rw [hold _ zo (a1 _ zo)];exact g2
  have U:h.length + 2 < G'.length:=zo
  have x1:=qux ai
  have x2:=qhv hi
  generalize N.ports[i] = q at *
  generalize E[i] = v at *
  obtain ⟨qn,qk,ql⟩:=q
  rw [qah] at x1
  simp only [qh5] at a7
  simp only [sA.1,qmN,seval,ht,e1,e3,ei,J,M,l0,g2,l2,x1,x2,vd,vs,vw,vc,bd,bs,bw,bl,bc,d1,s1,ac,d2,s2,ab,qBl,a7,ak,U,af,ae,ad,aj,w] at he
  subst he
  have P1:∀(X:qb) j,j ≠ h.length + 2->(G'.set (h.length + 2) X)[j]? = G'[j]?:=λX j hj=>by rw [jf zo]
  refine .inl ⟨_,k - 1,rfl,zo,_,_,i + 1,V',rfl,Y0,?_,?_,?_,?_,zo,λj hj a6=>?_,?_,?_,?_⟩
  ·simp only [sA.1,seval,ht,e1]
  ·simp only [sA.1,seval,ht,e2]
  ·simp only [sA.1,seval,ht,e3]
  ·simp only [sA.1,seval,ht]
  ·rw [P1 _ j a6,hold j zo (a1 j hj),hG j hj a6]
  ·rw [jg U]
  ·simp;omega
  ·exact I.keep λj h1 h2=>P1 _ j zo
 ·have J:ilt (i:Int) (E.length:Int) = false:=by rw [qe];simp;omega
  rw [List.take_of_length_le zo] at hV
  simp only [sA.1,qmN,seval,ht,e1,ei,J,M,l0,bl,bd,bw] at he
  subst he
  refine .inr ⟨_,_,rfl,by simp,_,G,V,rfl,Y0,?_,?_,?_,hG,g2,a8,hV,rfl⟩
  all_goals simp only [sA.1,seval,ht,e1,e2,e3]
end
def qg5 (W:Wl):List (Str×Str×Val):=(W.N.vars.zip W.vals).map λx=>(([]:Str),x.1.2.1,x.2)
def wOf (W:Wl):List (Str×Str×Val):=(W.N.oth.zip W.ofv).map λx=>(x.1.1,x.1.2.1,x.2)
def qjq (W:Wl):List (Str×List Val):=(W.N.ports.zip W.bag).map λx=>(x.1.1,x.2)
theorem SlR.low {g:List qb} {b k:Nat} {r:List (List qa)} {V:qa} (h:SlR g b k r V) (c:Nat) (hc:c <= b):(r = []/\V = .lst [] .full)\/V.lower c = false:=by
 rcases h with h1 | ⟨id,rfl,h1,_⟩
 ·exact .inl h1
 ·exact .inr (by simp only [qa.lower,qde (show c <= id by omega)])
theorem SlR.lt {g:List qb} {b k:Nat} {r:List (List qa)} {V:qa} (h:SlR g b k r V) {c:Nat} (hc:c <= b):SlR g c k r V:=by
 rcases h with h1 | ⟨id,rfl,h1,h2,h3⟩
 ·exact .inl h1
 ·exact .inr ⟨id,rfl,zo,h2,h3⟩
section
variable {h:List qb}
theorem qu4 (W:Wl) (l1:W.vals.length = W.N.vars.length) (l2:W.ofv.length = W.N.oth.length) (l3:W.bag.length = W.N.ports.length) (s1:W.N.vars.length <= 50) (s2:W.N.oth.length <= 50) (s3:W.N.ports.length <= 50):∃V0 V1 V4 m,Wd (.fn 12 [] []) [wV W] h = some (.ret (.agg [V0,V1,.int .i64 W.en,.int .i64 W.ed,V4]),h ++ m,false)/\SlR (h ++ m) h.length 6 ((qg5 W).map qcR) V0/\SlR (h ++ m) h.length 2 ((qjq W).map qh5) V1/\SlR (h ++ m) h.length 6 ((wOf W).map qcR) V4:=by
 obtain ⟨⟨op,n,nm,sb,aS⟩,N,B,E,en,ed,I⟩:=W
 simp only [qg5,wOf,qjq] at *
 have nn:(qa.lst [] .full).dim = .lst [] .full/\(qa.lst [] .full).storable = true/\(qa.lst [] .full).cells = [.lst [] .full]:=⟨rfl,rfl,rfl⟩
 obtain ⟨bd,bs,bw,bl,bc⟩:=qbU E
 generalize hw:Wd _ _ h = w
 rw [wV,qeU] at hw
 rw [qm 12 c12] at hw
 have ai:Nat.ble h.length (h.length + 2) = true:=qf zo
 simp only [sA.1,c12,seval,bd,bs,bw,bc,ai] at hw
 generalize hr:qj h.length Wd (.loop qmL) _ = r at hw
 have L1:=qnr (h:=h) op n nm sb aS N B E en ed I l1 s1 (h ++ [(qb.cells [.int .i64 op,.int .i64 n,.str nm,.str sb,.lst (aS.map exV) .no,.lst (N.vars.map nvV) .no,.lst (N.ports.map npV) .no,.bool N.bagq,.lst (N.oth.map nvV) .no,.lst (B.map qa6) .no,qaV E,.int .i64 en,.int .i64 ed,.lst (I.map qa6) .no]),.cells [.lst [] .full,.lst [] .full,.int .i64 0,.int .i64 0,.lst [] .full],.cells [.lst [] .full,.lst [] .full,.int .i64 en,.int .i64 ed,.lst [] .full]]) (h.length + 3) zo (by
  rw [jc zo,Nat.sub_self]
  rfl) (.lst [] .full) (.lst [] .full) nn nn
 obtain ⟨x,S,rfl,t1,G,V0,rfl,ht,e1,e2,e3,hG,g2,ah,a7,rfl⟩:=qaH hr (L1 B.length _ ⟨_,_,0,.lst [] .full,rfl,Y2,Y2,Y2,Y2,y9,zo,λ_ _ _=>rfl,by
  rw [jc zo,Nat.add_sub_cancel_left]
  rfl,by simp,.inl ⟨rfl,rfl⟩⟩)
 clear L1
 have b0:=hG h.length zo zo
 rw [jc zo,Nat.sub_self,jz] at b0
 have b1:=hG (h.length + 1) zo zo
 rw [jc zo,Nat.add_sub_cancel_left,Jb,jz] at b1
 obtain ⟨vd,vs,_,_,vc⟩:=a7.facts
 simp only [sA.1,seval,ht,e1,e2,e3] at hw
 generalize hr:qj h.length Wd (.loop qmM) _ = r at hw
 have L2:=qrH (h:=h) op n nm sb aS N B E en ed I l2 s2 G G.length ah b0 V0 (.lst [] .full) ⟨vd,vs,vc⟩ nn
 obtain ⟨x,S,rfl,t2,G2,V4,rfl,J,e12,aa,a8,O,g22,am,a1,rfl⟩:=qaH hr (L2 I.length _ ⟨_,_,0,.lst [] .full,rfl,u3,w5,x10,u7,x11,zo,λ_ _ _=>rfl,g2,zo,.inl ⟨rfl,rfl⟩⟩)
 clear L2
 have ad:=O h.length zo zo
 rw [b0] at ad
 have ac:=O (h.length + 1) zo zo
 rw [b1] at ac
 obtain ⟨wd,ws,_,_,wc⟩:=a1.facts
 simp only [sA.1,seval,J,e12,aa,a8] at hw
 generalize hr:qj h.length Wd (.loop qmN) _ = r at hw
 have L3:=qro (h:=h) op n nm sb aS N B E en ed I l3 s3 G2 G2.length zo ad V0 V4 ⟨vd,vs,vc⟩ ⟨wd,ws,wc⟩
 obtain ⟨x,S,rfl,t3,G3,V1,rfl,ae,ap,ak,aj,M,g23,al,a6,rfl⟩:=qaH hr (L3 E.length _ ⟨_,_,0,.lst [] .full,rfl,by simp only [sA.1,seval,J],by simp only [sA.1,seval,J,e12],by simp only [sA.1,seval,J,aa],by simp only [sA.1,seval,J,a8],by simp only [sA.1,seval,J,Int.natCast_zero],zo,λ_ _ _=>rfl,g22,zo,.inl ⟨rfl,rfl⟩⟩)
 clear L3
 have ab:=M (h.length + 1) zo zo
 rw [ac] at ab
 obtain ⟨ud,us,_,_,uc⟩:=a6.facts
 have q1:h.length + 1 < G3.length:=zo
 have q2:h.length + 2 < G3.length:=zo
 have hB:Nat.ble h.length (h.length + 1) = true:=qf zo
 simp only [sA.1,seval,ae,ak,aj,ab,g23,q1,q2,vd,vs,vc,wd,ws,wc,ud,us,uc,hB] at hw
 subst hw
 have tk:G3.take h.length = h:=by
  apply jQ
  intro i
  rw [List.getElem?_take]
  split
  ·rw [M i zo zo,O i zo zo,hG i zo zo,ja ‹_›]
  ·rw [jq zo]
 obtain ⟨m,hm,af⟩:=qI (v:=.agg [V0,V1,.int .i64 en,.int .i64 ed,V4]) (g:=h) (G:=G3.set (h.length + 1) (.cells [V0,V1,.int .i64 en,.int .i64 ed,V4])) (by rw [jZ zo,tk])
 refine ⟨V0,V1,V4,m,congrArg some hm,?_⟩
 have K0:SlR (G3.set (h.length + 1) (.cells [V0,V1,.int .i64 en,.int .i64 ed,V4])) h.length 6 (((N.vars.zip B).map λx=>(([]:Str),x.1.2.1,x.2)).map qcR) V0:=(a7.keep λi hi U=>by rw [jf zo,M i zo zo,O i zo zo]).lt zo
 have K1:SlR (G3.set (h.length + 1) (.cells [V0,V1,.int .i64 en,.int .i64 ed,V4])) h.length 2 (((N.ports.zip E).map λx=>(x.1.1,x.2)).map qh5) V1:=(a6.keep λi hi U=>by rw [jf zo]).lt zo
 have K4:SlR (G3.set (h.length + 1) (.cells [V0,V1,.int .i64 en,.int .i64 ed,V4])) h.length 6 (((N.oth.zip I).map λx=>(x.1.1,x.1.2.1,x.2)).map qcR) V4:=(a1.keep λi hi U=>by rw [jf zo,M i zo zo]).lt zo
 cases hv:(qa.agg [V0,V1,.int .i64 en,.int .i64 ed,V4]).lower h.length with
 | false=>rw [af hv];exact ⟨K0,K1,K4⟩
 | true=>
  simp only [qa.lower,qt,Bool.and_eq_true] at hv
  refine ⟨?_,?_,?_⟩
  ·rcases K0.low h.length zo with h1 | h1
   ·exact .inl h1
   ·rw [hv.1] at h1;cases h1
  ·rcases K1.low h.length zo with h1 | h1
   ·exact .inl h1
   ·rw [hv.2.1] at h1;cases h1
  ·rcases K4.low h.length zo with h1 | h1
   ·exact .inl h1
   ·rw [hv.2.2.2.2.1] at h1;cases h1
end
theorem qcL {k:Nat} {vs:List (List qa)} (hk:∀v ∈ vs,v.length = k) {i a:Nat} (hi:i < vs.length) (ha:a < k):vs.flatten[i * k + a]? = vs[i][a]?:=by
 have h1:=qhG hk hi
 rw [<-h1,List.getElem?_take,if_pos ha,List.getElem?_drop]
def qlR (l:List (Str×List Val)) (p:Str):List Val:=match l.find? (λx=>x.1 == p) with
 | some x=>x.2
 | none=>[]
theorem qop {l:List (Str×List Val)} {p:Str} {i:Nat} (hi:i < l.length):qlR (l.drop i) p = bif l[i].1 == p then l[i].2 else qlR (l.drop (i + 1)) p:=by
 rw [jV hi,qlR,qlR,List.find?_cons]
 cases l[i].1 == p <;> rfl
section
variable {h:List qb}
theorem qcc (b:Bool):Wd (.fn 28 [] []) [.bool b] h = some (.ret (.agg [.int .i64 1,.int .i64 (bif b then 1 else 0),.str [],.lst [] .full]),h,false):=by
 rw [qm 28 c28]
 cases b <;> simp only [sB.1,c28,seval,qbd]
theorem qlL (l:List (Str×List Val)) (hl:l.length <= 50) (V0 V1 V4:qa) (en ed:Int) (p:Str) (g:List qb) (hV:SlR g 0 2 (l.map qh5) V1) :
  ∀k st,(∃(tt:List qa) (i:Nat),st = ⟨tt,g ++ [.cells [V0,V1,.int .i64 en,.int .i64 ed,V4]],false⟩/\tt.length = 27/\lkp tt 1 = .str p/\lkp tt 2 = .ptr g.length 0/\lkp tt 5 = .int .i64 (i:Nat)/\i + k = l.length/\qlR (l.drop i) p = qlR l p)->
   ∃x I,qj g.length Wd (.loop qj6) st = some (x,I)/\(∃(tt:List qa),I = ⟨tt,g ++ [.cells [V0,V1,.int .i64 en,.int .i64 ed,V4]],false⟩/\tt.length = 27/\((x = .exit 0/\qlR l p = [])\/(x = .ret/\lkp tt 4 = .lst ((qlR l p).map qa6) .no))):=by
 refine qx _ _ ?_
 rintro k st ⟨tt,i,rfl,ht,e1,e2,e5,J,hc⟩
 generalize he:qj g.length Wd qj6 _ = r
 have fc:=hV.facts
 rw [jW] at fc
 obtain ⟨vd,vs,vw,vl,vc⟩:=fc
 have E:(g ++ [qb.cells [V0,V1,.int .i64 en,.int .i64 ed,V4]])[g.length]? = some (.cells [V0,V1,.int .i64 en,.int .i64 ed,V4]):=by rw [qY];rfl
 rcases Nat.lt_or_ge i l.length with hi | hi
 ·have B:ilt (i:Int) (l.length:Int) = true:=by rw [qe];simp;omega
  have w:=qU (n:=i) zo
  rw [qop hi] at hc
  rcases hV with ⟨e,_⟩ | ⟨id,rfl,_,_,h3⟩
  ·simp at e;subst e;simp at hi
  ·rw [jW] at *
   have hid:id < g.length:=(jd.1 h3).1
   have M:(g ++ [qb.cells [V0,.sl id 0 l.length l.length 2,.int .i64 en,.int .i64 ed,V4]])[id]? = some (.cells (l.map qh5).flatten):=by rw [ja hid];exact h3
   have s1:=qck (k:=2) (id:=id) (cap:=l.length) (more:=2) (j:=.i64) hi
   have hk:∀v ∈ l.map qh5,v.length = 2:=λv hv=>by
    obtain ⟨x,_,rfl⟩:=jR.1 hv
    rfl
   have q0:=qcL hk (i:=i) (a:=0) (by simpa using hi) zo
   have q1:=qcL hk (i:=i) (a:=1) (by simpa using hi) zo
   simp only [List.getElem_map,qh5,jT,jz,Jb] at q0 q1
   cases cq:l[i].1 == p with
   | true=>
    rw [cq,cond_true] at hc
    simp only [sA.1,qj6,seval,E,ht,e1,e2,e5,B,vl,h3,s1,q0,q1,cq,hid,vd,vs] at he
    subst he
    exact .inr ⟨_,_,rfl,by simp,_,rfl,Y0,.inr ⟨rfl,by simp only [sA.1,seval,ht,<-hc]⟩⟩
   | false=>
    rw [cq,cond_false] at hc
    simp only [sA.1,qj6,seval,E,ht,e1,e2,e5,B,vl,h3,s1,q0,q1,cq,hid,w,vd,vs] at he
    subst he
    refine .inl ⟨_,k - 1,rfl,zo,_,i + 1,rfl,Y0,?_,?_,?_,zo,hc⟩
    all_goals simp only [sA.1,seval,ht,e1,e2]
 ·have B:ilt (i:Int) (l.length:Int) = false:=by rw [qe];simp;omega
  rw [List.drop_of_length_le hi] at hc
  simp only [sA.1,qj6,seval,ht,e2,e5,E,B,vl,vd,vs] at he
  subst he
  exact .inr ⟨_,_,rfl,by simp,_,rfl,Y0,.inl ⟨rfl,hc.symm⟩⟩
theorem qep (l:List (Str×List Val)) (hl:l.length <= 50) (V0 V1 V4:qa) (f0:V0.dim = V0/\V0.storable = true/\V0.cells = [V0]) (f4:V4.dim = V4/\V4.storable = true/\V4.cells = [V4]) (en ed:Int) (p:Str) (g:List qb) (hV:SlR g 0 2 (l.map qh5) V1) :
  ∃f m,Wd (.fn 29 [] []) [.agg [V0,V1,.int .i64 en,.int .i64 ed,V4],.str p] g = some (.ret (.lst ((qlR l p).map qa6) f),g ++ m,false)/\(f = .no\/(f = .full/\qlR l p = [])):=by
 obtain ⟨d0,s0,E⟩:=f0
 obtain ⟨d4,s4,B⟩:=f4
 obtain ⟨vd,vs,_,_,vc⟩:=hV.facts
 generalize hw:Wd _ _ g = w
 rw [qm 29 c29] at hw
 simp only [sA.1,c29,seval,d0,s0,E,d4,s4,B,vd,vs,vc] at hw
 generalize hr:qj g.length Wd (.loop qj6) _ = r at hw
 obtain ⟨x,I,rfl,tt,rfl,ht,hx⟩:=qaH hr (qlL l hl V0 V1 V4 en ed p g hV l.length _ ⟨_,0,rfl,Y2,Y2,Y2,y9,zo,rfl⟩)
 have tk:(g ++ [qb.cells [V0,V1,.int .i64 en,.int .i64 ed,V4]]).take g.length = g:=by simp
 rcases hx with ⟨rfl,hx⟩ | ⟨rfl,hx⟩
 ·simp only [sA.1,seval,ht] at hw
  subst hw
  rw [hx]
  exact ⟨.full,[],by rw [List.append_nil];rfl,.inr ⟨rfl,rfl⟩⟩
 ·simp only [sA.1,seval,ht,hx] at hw
  subst hw
  obtain ⟨m,hm,_⟩:=qI (v:=.lst ((qlR l p).map qa6) .no) tk
  exact ⟨.no,m,congrArg some hm,.inl rfl⟩
end
theorem qk6 {k:Nat} {vs:List (List qa)} (hk:∀v ∈ vs,v.length = k) {i a w:Nat} (hi:i < vs.length) (ha:a + w <= k) (hd:∀c ∈ vs[i],c.dim = c):cut vs.flatten (i * k + a) (some w) = some (.agg ((vs[i].drop a).take w)):=by
 have h1:=qhG hk hi
 have h2:=qjQ hk hi
 rw [qfK zo]
 have:(vs.flatten.drop (i * k + a)).take w = (vs[i].drop a).take w:=by
  rw [<-h1,List.drop_take,List.drop_drop,List.take_take,Nat.min_eq_left zo]
 rw [this,qc8 λc hc=>hd c (List.mem_of_mem_drop (List.mem_of_mem_take hc))]
def nmd (q:Str×Str×Val->Bool) (l:List (Str×Str×Val)):Option Val:=(l.find? q).map λx=>x.2.2
theorem qlp {q:Str×Str×Val->Bool} {l:List (Str×Str×Val)} {i:Nat} (hi:i < l.length):nmd q (l.drop i) = bif q l[i] then some l[i].2.2 else nmd q (l.drop (i + 1)):=by
 rw [jV hi,nmd,nmd,List.find?_cons]
 cases q l[i] <;> rfl
def qmI (nm:Str) (x:Str×Str×Val):Bool:=x.2.1 == nm
def qzY (nm sb:Str) (x:Str×Str×Val):Bool:=x.1 == nm && x.2.1 == sb
def zr4:qb:=.cells [.int .i64 0,.int .i64 0,.str [],.lst [] .full]
section
variable {h:List qb}
theorem qnY (op n:Int) (nm sb:Str) (aS:List Exl) (l:List (Str×Str×Val)) (hl:l.length <= 50) (V0 V1 V4:qa) (en ed:Int) (G:List qb) (hV:SlR G 0 6 (l.map qcR) V0) (b0:G[h.length]? = some (.cells [.int .i64 op,.int .i64 n,.str nm,.str sb,.lst (aS.map exV) .no])) (b1:G[h.length + 1]? = some (.cells [V0,V1,.int .i64 en,.int .i64 ed,V4])) (b2:G[h.length + 2]? = some zr4) :
  ∀k st,(∃(tt:List qa) (i:Nat),st = ⟨tt,G,false⟩/\tt.length = 348/\lkp tt 2 = .ptr h.length 0/\lkp tt 3 = .ptr (h.length + 1) 0/\lkp tt 4 = .ptr (h.length + 2) 0/\lkp tt 6 = .ptr (h.length + 3) 0/\lkp tt 15 = .int .i64 (i:Nat)/\i + k = l.length/\nmd (qmI nm) (l.drop i) = nmd (qmI nm) l)->
   ∃x E,qj h.length Wd (.loop qj3) st = some (x,E)/\(∃(tt:List qa),tt.length = 348/\lkp tt 4 = .ptr (h.length + 2) 0/\lkp tt 6 = .ptr (h.length + 3) 0/\((x = .exit 4/\E = ⟨tt,G,false⟩/\nmd (qmI nm) l = none)\/∃v cs,x = .ret/\v.enc = cs/\E = ⟨tt,G.set (h.length + 2) (.cells cs),false⟩/\lkp tt 5 = .int .i64 0/\nmd (qmI nm) l = some v)):=by
 refine qx _ _ ?_
 rintro k st ⟨tt,i,rfl,ht,e2,e3,e4,e6,ei,J,hc⟩
 generalize he:qj h.length Wd qj3 _ = r
 have fc:=hV.facts
 rw [jW] at fc
 obtain ⟨vd,vs,vw,vl,vc⟩:=fc
 have l0:h.length < G.length:=(jd.1 b0).1
 have l1:h.length + 1 < G.length:=(jd.1 b1).1
 have l2:h.length + 2 < G.length:=(jd.1 b2).1
 have hB:Nat.ble h.length (h.length + 2) = true:=qf zo
 rw [zr4] at b2
 rcases Nat.lt_or_ge i l.length with hi | hi
 ·have B:ilt (i:Int) (l.length:Int) = true:=by rw [qe];simp;omega
  have w:=qU (n:=i) zo
  rw [qlp hi] at hc
  rcases hV with ⟨e,_⟩ | ⟨id,rfl,_,_,h3⟩
  ·simp at e;subst e;simp at hi
  ·rw [jW] at *
   have hid:id < G.length:=(jd.1 h3).1
   have s1:=qck (k:=6) (id:=id) (cap:=l.length) (more:=6) (j:=.i64) hi
   have hk:∀v ∈ l.map qcR,v.length = 6:=λv hv=>by
    obtain ⟨x,_,rfl⟩:=jR.1 hv
    exact (qaJ x).1
   have I:i < (l.map qcR).length:=by simpa using hi
   have q0:=qcL hk (a:=0) I zo
   have q1:=qcL hk (a:=1) I zo
   have q2:=qk6 hk (a:=2) (w:=4) I zo (λc hc=>by
    rw [List.getElem_map] at hc
    exact ((qaJ _).2 c hc).1)
   simp only [List.getElem_map,qcR,jT,jz,Jb,List.drop_succ_cons,List.drop_zero] at q0 q1 q2
   generalize l[i] = y at *
   obtain ⟨yp,yn,yk,yv,yz,yl⟩:=y
   simp only [qaU,List.take_succ_cons,List.take_zero] at q2
   simp only [qmI] at hc
   cases cq:yn == nm with
   | true=>
    simp only [cq,Bool.and_self,jx,jX,cond_true] at hc
    simp only [sA.1,qj3,seval,b0,b1,b2,l0,l1,l2,hB,ldB,ht,e2,e3,e4,e6,ei,B,vl,h3,s1,q0,q1,q2,cq,hid,vd,vs] at he
    subst he
    refine .inr ⟨_,_,rfl,by simp,_,Y0,w6,x8,.inr ⟨.mk yk yv yz yl,_,rfl,qaU _ _ _ _,rfl,u3,hc.symm⟩⟩
   | false=>
    simp only [cq,jN,Bool.and_false,jX,cond_false] at hc
    simp only [sA.1,qj3,seval,b0,b1,b2,l0,l1,l2,hB,ldB,ht,e2,e3,e4,e6,ei,B,vl,h3,s1,q0,q1,q2,cq,hid,vd,vs,w] at he
    subst he
    refine .inl ⟨_,k - 1,rfl,zo,_,i + 1,rfl,Y0,?_,?_,?_,?_,?_,zo,hc⟩
    all_goals simp only [sA.1,seval,ht,e2,e3,e4,e6]
 ·have B:ilt (i:Int) (l.length:Int) = false:=by rw [qe];simp;omega
  rw [List.drop_of_length_le hi] at hc
  simp only [sA.1,qj3,seval,ht,e3,ei,b1,l1,B,vl,vd,vs] at he
  subst he
  exact .inr ⟨_,_,rfl,by simp,_,Y0,by simp only [sA.1,seval,e4],by simp only [sA.1,seval,e6],.inl ⟨rfl,rfl,hc.symm⟩⟩
theorem qre (op n:Int) (nm sb:Str) (aS:List Exl) (l:List (Str×Str×Val)) (hl:l.length <= 50) (V0 V1 V4:qa) (en ed:Int) (G:List qb) (hV:SlR G 0 6 (l.map qcR) V4) (b0:G[h.length]? = some (.cells [.int .i64 op,.int .i64 n,.str nm,.str sb,.lst (aS.map exV) .no])) (b1:G[h.length + 1]? = some (.cells [V0,V1,.int .i64 en,.int .i64 ed,V4])) (b2:G[h.length + 2]? = some zr4) :
  ∀k st,(∃(tt:List qa) (i:Nat),st = ⟨tt,G,false⟩/\tt.length = 348/\lkp tt 2 = .ptr h.length 0/\lkp tt 3 = .ptr (h.length + 1) 0/\lkp tt 4 = .ptr (h.length + 2) 0/\lkp tt 6 = .ptr (h.length + 3) 0/\lkp tt 16 = .int .i64 (i:Nat)/\i + k = l.length/\nmd (qzY nm sb) (l.drop i) = nmd (qzY nm sb) l)->
   ∃x E,qj h.length Wd (.loop qiK) st = some (x,E)/\(∃(tt:List qa),tt.length = 348/\lkp tt 4 = .ptr (h.length + 2) 0/\lkp tt 6 = .ptr (h.length + 3) 0/\((x = .exit 6/\E = ⟨tt,G,false⟩/\nmd (qzY nm sb) l = none)\/∃v cs,x = .ret/\v.enc = cs/\E = ⟨tt,G.set (h.length + 2) (.cells cs),false⟩/\lkp tt 5 = .int .i64 0/\nmd (qzY nm sb) l = some v)):=by
 refine qx _ _ ?_
 rintro k st ⟨tt,i,rfl,ht,e2,e3,e4,e6,ei,J,hc⟩
 generalize he:qj h.length Wd qiK _ = r
 have fc:=hV.facts
 rw [jW] at fc
 obtain ⟨vd,vs,vw,vl,vc⟩:=fc
 have l0:h.length < G.length:=(jd.1 b0).1
 have l1:h.length + 1 < G.length:=(jd.1 b1).1
 have l2:h.length + 2 < G.length:=(jd.1 b2).1
 have hB:Nat.ble h.length (h.length + 2) = true:=qf zo
 rw [zr4] at b2
 rcases Nat.lt_or_ge i l.length with hi | hi
 ·have B:ilt (i:Int) (l.length:Int) = true:=by rw [qe];simp;omega
  have w:=qU (n:=i) zo
  rw [qlp hi] at hc
  rcases hV with ⟨e,_⟩ | ⟨id,rfl,_,_,h3⟩
  ·simp at e;subst e;simp at hi
  ·rw [jW] at *
   have hid:id < G.length:=(jd.1 h3).1
   have s1:=qck (k:=6) (id:=id) (cap:=l.length) (more:=6) (j:=.i64) hi
   have hk:∀v ∈ l.map qcR,v.length = 6:=λv hv=>by
    obtain ⟨x,_,rfl⟩:=jR.1 hv
    exact (qaJ x).1
   have I:i < (l.map qcR).length:=by simpa using hi
   have q0:=qcL hk (a:=0) I zo
   have q1:=qcL hk (a:=1) I zo
   have q2:=qk6 hk (a:=2) (w:=4) I zo (λc hc=>by
    rw [List.getElem_map] at hc
    exact ((qaJ _).2 c hc).1)
   simp only [List.getElem_map,qcR,jT,jz,Jb,List.drop_succ_cons,List.drop_zero] at q0 q1 q2
   generalize l[i] = y at *
   obtain ⟨yp,yn,yk,yv,yz,yl⟩:=y
   simp only [qaU,List.take_succ_cons,List.take_zero] at q2
   simp only [qzY] at hc
   cases cp:yp == nm with
   | true=>
    cases cq:yn == sb with
    | true=>
     simp only [cp,cq,Bool.and_self,jx,jX,cond_true] at hc
     simp only [sA.1,qiK,seval,b0,b1,b2,l0,l1,l2,hB,ldB,ht,e2,e3,e4,e6,ei,B,vl,h3,s1,q0,q1,q2,cp,cq,hid,vd,vs] at he
     subst he
     refine .inr ⟨_,_,rfl,by simp,_,Y0,w6,x8,.inr ⟨.mk yk yv yz yl,_,rfl,qaU _ _ _ _,rfl,u3,hc.symm⟩⟩
    | false=>
     simp only [cp,cq,jN,Bool.and_false,jX,cond_false] at hc
     simp only [sA.1,qiK,seval,b0,b1,b2,l0,l1,l2,hB,ldB,ht,e2,e3,e4,e6,ei,B,vl,h3,s1,q0,q1,q2,cp,cq,hid,vd,vs,w] at he
     subst he
     refine .inl ⟨_,k - 1,rfl,zo,_,i + 1,rfl,Y0,?_,?_,?_,?_,?_,zo,hc⟩
     all_goals simp only [sA.1,seval,ht,e2,e3,e4,e6]
   | false=>
    simp only [cp,jN,Bool.and_false,jX,cond_false] at hc
    simp only [sA.1,qiK,seval,b0,b1,b2,l0,l1,l2,hB,ldB,ht,e2,e3,e4,e6,ei,B,vl,h3,s1,q0,q1,q2,cp,hid,vd,vs,w] at he
    subst he
    refine .inl ⟨_,k - 1,rfl,zo,_,i + 1,rfl,Y0,?_,?_,?_,?_,?_,zo,hc⟩
    all_goals simp only [sA.1,seval,ht,e2,e3,e4,e6]
 ·have B:ilt (i:Int) (l.length:Int) = false:=by rw [qe];simp;omega
  rw [List.drop_of_length_le hi] at hc
  simp only [sA.1,qiK,seval,ht,e3,ei,b1,l1,B,vl,vd,vs] at he
  subst he
  exact .inr ⟨_,_,rfl,by simp,_,Y0,by simp only [sA.1,seval,e4],by simp only [sA.1,seval,e6],.inl ⟨rfl,rfl,hc.symm⟩⟩
end
end Go.Proofs.YtnibchoenjmmjaaGreatDoor.AE
