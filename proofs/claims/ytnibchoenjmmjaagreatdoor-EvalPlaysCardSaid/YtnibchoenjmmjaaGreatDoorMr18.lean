/- A part of the proof: the abstract executor and what goes through it (part 18). No condition. -/
import Derived.Test.YtnibchoenjmmjaaGreatDoorMr17
import Derived.Test.YtnibchoenjmmjaaGreatDoorMr12
import Derived.Test.YtnibchoenjmmjaaGreatDoorMr11
import Derived.Test.YtnibchoenjmmjaaGreatDoorMr14
set_option maxRecDepth 100000
set_option maxHeartbeats 0
open List renaming getElem?_append_left→ja,getElem?_eq_some_iff→jd,length_append→ji,map_map→jI,map_append→j9,length_cons→jA,length_nil→jB
namespace Go.Proofs.YtnibchoenjmmjaaGreatDoor.AE
open Go.AE
theorem qCn {base:Nat} {call:AE.Call} {dsts:List Nat} {s:St} {pend:List (Nat×Chk)} {d:Option Nat} {o:AOp} {ix cl j:Nat} {b:Bool} {ds:List qH} (h:lkp s.t j = .tup []):qw base call dsts (⟨⟨d,o,some (j,b)⟩,ix,cl⟩ :: ds) pend s = qw base call dsts ds pend { s with t:=put d (.tup []) s.t}:=by
 have e:s.t.getD j .undef = .tup []:=h
 simp only [qw,wanted,e]
structure Wl where
 e:Exl
 N:Nms
 vals:List Val
 bag:List (List Val)
 en:Int
 ed:Int
 ofv:List Val
def wC (W:Wl):List qa:=W.e.enc ++ (qfR W.N ++ [.lst (W.vals.map qa6) .no,qaV W.bag,.int .i64 W.en,.int .i64 W.ed,.lst (W.ofv.map qa6) .no])
def wV (W:Wl):qa:=.agg (wC W)
theorem qeU (op n:Int) (nm sb:Str) (aS:List Exl) (N:Nms) (B:List Val) (I:List (List Val)) (en ed:Int) (E:List Val):wC ⟨.mk op n nm sb aS,N,B,I,en,ed,E⟩ = [.int .i64 op,.int .i64 n,.str nm,.str sb,.lst (aS.map exV) .no,.lst (N.vars.map nvV) .no,.lst (N.ports.map npV) .no,.bool N.bagq,.lst (N.oth.map nvV) .no,.lst (B.map qa6) .no,qaV I,.int .i64 en,.int .i64 ed,.lst (E.map qa6) .no]:=by rw [wC,qb3,qfR];rfl
theorem qyc {l:List Val} {i:Nat} (hi:i < l.length):qar 4 (.lst (l.map qa6) .no) (.int .i64 (i:Nat)) = some (.iptr l[i].enc 0):=
 qa4 (k:=4) (x:=qa6 l[i]) (by rw [List.getElem?_map,List.getElem?_eq_getElem hi];rfl) (by obtain ⟨k,n,s,l'⟩:=l[i];rw [qkP];rfl)
def noH:Nat->Option qb:=λ_=>none
theorem qee (g:List qb):Cov noH g:=λi x h=>by cases h
section
variable {h:List qb}
theorem qnD (op n:Int) (nm sb:Str) (aS:List Exl) (N:Nms) (B:List Val) (S:List (List Val)) (en ed:Int) (M:List Val) (hl:B.length = N.vars.length) (hs:B.length <= 50) (G:List qb) (hG:G = h ++ [.cells [.int .i64 op,.int .i64 n,.str nm,.str sb,.lst (aS.map exV) .no,.lst (N.vars.map nvV) .no,.lst (N.ports.map npV) .no,.bool N.bagq,.lst (N.oth.map nvV) .no,.lst (B.map qa6) .no,qaV S,.int .i64 en,.int .i64 ed,.lst (M.map qa6) .no]]) :
  ∀k st,(∃(tt:List qa) (i:Nat),st = ⟨tt,G,false⟩/\tt.length = 231/\lkp tt 1 = .ptr h.length 0/\lkp tt 3 = .int .i64 (i:Nat)/\i + k = B.length/\(∀j (hj:j < B.length) (E:j < N.vars.length),j < i->tyB 3 N.vars[j].2.2 = true/\qec B[j] N.vars[j].2.2 = true))->
   ∃x J,qj h.length Wd (.loop qv6) st = some (x,J)/\(∃(tt:List qa),J = ⟨tt,G,false⟩/\tt.length = 231/\lkp tt 1 = .ptr h.length 0/\((x = .exit 0/\(∀j (hj:j < B.length) (E:j < N.vars.length),tyB 3 N.vars[j].2.2 = true/\qec B[j] N.vars[j].2.2 = true))\/(x = .ret/\lkp tt 2 = .bool false))):=by
 refine qx _ _ ?_
 rintro k st ⟨tt,i,rfl,ht,e1,ei,a8,O⟩
 generalize he:qj h.length Wd qv6 _ = r
 have b0:G[h.length]? = some (.cells [.int .i64 op,.int .i64 n,.str nm,.str sb,.lst (aS.map exV) .no,.lst (N.vars.map nvV) .no,.lst (N.ports.map npV) .no,.bool N.bagq,.lst (N.oth.map nvV) .no,.lst (B.map qa6) .no,qaV S,.int .i64 en,.int .i64 ed,.lst (M.map qa6) .no]):=by rw [hG,qY];rfl
 have l0:h.length < G.length:=by rw [hG];simp
 rcases Nat.lt_or_ge i B.length with hi | hi
 ·have I:ilt (i:Int) (B.length:Int) = true:=by rw [qe];simp;omega
  have w:=qU (n:=i) zo
  have a1:i < N.vars.length:=zo
  have x1:=qiI a1
  have x2:=qyc hi
  have t1:=qzM 3 zo (H:=noH) N.vars[i].2.2 _ G (Ta.arg _) (qee _)
  have t2:=qpv (H:=noH) B[i] N.vars[i].2.2 _ _ G (At.arg _) (Ta.arg _) (qee _)
  have a6:((3:Nat):Int) = 3:=xk
  rw [a6] at t1
  have next:tyB 3 N.vars[i].2.2 = true->qec B[i] N.vars[i].2.2 = true->(∀j (hj:j < B.length) (E:j < N.vars.length),j < i + 1->tyB 3 N.vars[j].2.2 = true/\qec B[j] N.vars[j].2.2 = true):=λh1 h2 j hj E a7=>by
   by_cases U:j = i
   ·subst U;exact ⟨h1,h2⟩
   ·exact O j hj E zo
  generalize B[i] = v at *
  generalize N.vars[i] = q at *
  obtain ⟨qp,qn,qk,ql⟩:=q
  obtain ⟨vk,vn,vz,vl⟩:=v
  simp only [qah,qaU] at x1 x2 t1 t2 next
  cases q1:tyB 3 (.mk qk ql) with
  | false=>
   rw [q1] at t1
   simp only [sA.1,qv6,seval,ht,e1,ei,I,b0,l0,x1,x2,t1] at he
   subst he
   exact .inr ⟨_,_,rfl,by simp,_,rfl,Y0,w5,.inr ⟨rfl,u3⟩⟩
  | true=>
   rw [q1] at t1
   cases q2:qec (.mk vk vn vz vl) (.mk qk ql) with
   | false=>
    rw [q2] at t2
    simp only [sA.1,qv6,seval,ht,e1,ei,I,b0,l0,x1,x2,t1,t2] at he
    subst he
    exact .inr ⟨_,_,rfl,by simp,_,rfl,Y0,w5,.inr ⟨rfl,u3⟩⟩
   | true=>
    rw [q2] at t2
    simp only [sA.1,qv6,seval,ht,e1,ei,I,b0,l0,x1,x2,t1,t2,w] at he
    subst he
    refine .inl ⟨_,k - 1,rfl,zo,_,i + 1,rfl,Y0,w5,u3,zo,next q1 q2⟩
 ·have I:ilt (i:Int) (B.length:Int) = false:=by rw [qe];simp;omega
  simp only [sA.1,qv6,seval,ht,e1,ei,I,b0,l0] at he
  subst he
  exact .inr ⟨_,_,rfl,by simp,_,rfl,Y0,w5,.inl ⟨rfl,λj hj E=>O j hj E zo⟩⟩
theorem qrW (op n:Int) (nm sb:Str) (aS:List Exl) (N:Nms) (J:List Val) (S:List (List Val)) (en ed:Int) (B:List Val) (hl:B.length = N.oth.length) (hs:B.length <= 50) (G:List qb) (hG:G = h ++ [.cells [.int .i64 op,.int .i64 n,.str nm,.str sb,.lst (aS.map exV) .no,.lst (N.vars.map nvV) .no,.lst (N.ports.map npV) .no,.bool N.bagq,.lst (N.oth.map nvV) .no,.lst (J.map qa6) .no,qaV S,.int .i64 en,.int .i64 ed,.lst (B.map qa6) .no]]) :
  ∀k st,(∃(tt:List qa) (i:Nat),st = ⟨tt,G,false⟩/\tt.length = 231/\lkp tt 1 = .ptr h.length 0/\lkp tt 4 = .int .i64 (i:Nat)/\i + k = B.length/\(∀j (hj:j < B.length) (E:j < N.oth.length),j < i->tyB 3 N.oth[j].2.2 = true/\qec B[j] N.oth[j].2.2 = true))->
   ∃x M,qj h.length Wd (.loop qv7) st = some (x,M)/\(∃(tt:List qa),M = ⟨tt,G,false⟩/\tt.length = 231/\lkp tt 1 = .ptr h.length 0/\((x = .exit 2/\(∀j (hj:j < B.length) (E:j < N.oth.length),tyB 3 N.oth[j].2.2 = true/\qec B[j] N.oth[j].2.2 = true))\/(x = .ret/\lkp tt 2 = .bool false))):=by
 refine qx _ _ ?_
 rintro k st ⟨tt,i,rfl,ht,e1,ei,a8,O⟩
 generalize he:qj h.length Wd qv7 _ = r
 have b0:G[h.length]? = some (.cells [.int .i64 op,.int .i64 n,.str nm,.str sb,.lst (aS.map exV) .no,.lst (N.vars.map nvV) .no,.lst (N.ports.map npV) .no,.bool N.bagq,.lst (N.oth.map nvV) .no,.lst (J.map qa6) .no,qaV S,.int .i64 en,.int .i64 ed,.lst (B.map qa6) .no]):=by rw [hG,qY];rfl
 have l0:h.length < G.length:=by rw [hG];simp
 rcases Nat.lt_or_ge i B.length with hi | hi
 ·have I:ilt (i:Int) (B.length:Int) = true:=by rw [qe];simp;omega
  have w:=qU (n:=i) zo
  have a1:i < N.oth.length:=zo
  have x1:=qiI a1
  have x2:=qyc hi
  have t1:=qzM 3 zo (H:=noH) N.oth[i].2.2 _ G (Ta.arg _) (qee _)
  have t2:=qpv (H:=noH) B[i] N.oth[i].2.2 _ _ G (At.arg _) (Ta.arg _) (qee _)
  have a6:((3:Nat):Int) = 3:=xk
  rw [a6] at t1
  have next:tyB 3 N.oth[i].2.2 = true->qec B[i] N.oth[i].2.2 = true->(∀j (hj:j < B.length) (E:j < N.oth.length),j < i + 1->tyB 3 N.oth[j].2.2 = true/\qec B[j] N.oth[j].2.2 = true):=λh1 h2 j hj E a7=>by
   by_cases U:j = i
   ·subst U;exact ⟨h1,h2⟩
   ·exact O j hj E zo
  generalize B[i] = v at *
  generalize N.oth[i] = q at *
  obtain ⟨qp,qn,qk,ql⟩:=q
  obtain ⟨vk,vn,vz,vl⟩:=v
  simp only [qah,qaU] at x1 x2 t1 t2 next
  cases q1:tyB 3 (.mk qk ql) with
  | false=>
   rw [q1] at t1
   simp only [sA.1,qv7,seval,ht,e1,ei,I,b0,l0,x1,x2,t1] at he
   subst he
   exact .inr ⟨_,_,rfl,by simp,_,rfl,Y0,w5,.inr ⟨rfl,u3⟩⟩
  | true=>
   rw [q1] at t1
   cases q2:qec (.mk vk vn vz vl) (.mk qk ql) with
   | false=>
    rw [q2] at t2
    simp only [sA.1,qv7,seval,ht,e1,ei,I,b0,l0,x1,x2,t1,t2] at he
    subst he
    exact .inr ⟨_,_,rfl,by simp,_,rfl,Y0,w5,.inr ⟨rfl,u3⟩⟩
   | true=>
    rw [q2] at t2
    simp only [sA.1,qv7,seval,ht,e1,ei,I,b0,l0,x1,x2,t1,t2,w] at he
    subst he
    refine .inl ⟨_,k - 1,rfl,zo,_,i + 1,rfl,Y0,w5,u3,zo,next q1 q2⟩
 ·have I:ilt (i:Int) (B.length:Int) = false:=by rw [qe];simp;omega
  simp only [sA.1,qv7,seval,ht,e1,ei,I,b0,l0] at he
  subst he
  exact .inr ⟨_,_,rfl,by simp,_,rfl,Y0,w5,.inl ⟨rfl,λj hj E=>O j hj E zo⟩⟩
theorem qvi (op n:Int) (nm sb:Str) (aS:List Exl) (N:Nms) (O:List Val) (B:List (List Val)) (en ed:Int) (U:List Val) (G:List qb) (hG:G = h ++ [.cells [.int .i64 op,.int .i64 n,.str nm,.str sb,.lst (aS.map exV) .no,.lst (N.vars.map nvV) .no,.lst (N.ports.map npV) .no,.bool N.bagq,.lst (N.oth.map nvV) .no,.lst (O.map qa6) .no,qaV B,.int .i64 en,.int .i64 ed,.lst (U.map qa6) .no]]) (a:Nat) (ha:a < B.length) (a7:a < N.ports.length) (a8:B[a].length <= 100) :
  ∀k st,(∃(tt:List qa) (i:Nat),st = ⟨tt,G,false⟩/\tt.length = 231/\lkp tt 1 = .ptr h.length 0/\lkp tt 5 = .int .i64 (a:Nat)/\lkp tt 6 = .int .i64 (i:Nat)/\i + k = B[a].length/\∀v ∈ B[a].take i,qec v N.ports[a].2 = true)->
   ∃x S,qj h.length Wd (.loop quA) st = some (x,S)/\(∃(tt:List qa),S = ⟨tt,G,false⟩/\tt.length = 231/\lkp tt 1 = .ptr h.length 0/\lkp tt 5 = .int .i64 (a:Nat)/\((x = .exit 6/\∀v ∈ B[a],qec v N.ports[a].2 = true)\/(x = .ret/\lkp tt 2 = .bool false))):=by
 refine qx _ _ ?_
 rintro k st ⟨tt,i,rfl,ht,e1,e5,e6,aa,I⟩
 generalize he:qj h.length Wd quA _ = r
 have b0:G[h.length]? = some (.cells [.int .i64 op,.int .i64 n,.str nm,.str sb,.lst (aS.map exV) .no,.lst (N.vars.map nvV) .no,.lst (N.ports.map npV) .no,.bool N.bagq,.lst (N.oth.map nvV) .no,.lst (O.map qa6) .no,qaV B,.int .i64 en,.int .i64 ed,.lst (U.map qa6) .no]):=by rw [hG,qY];rfl
 have l0:h.length < G.length:=by rw [hG];simp
 have x0:=qhv ha
 have bd:(qaV B).dim = qaV B:=rfl
 have bw:∀i t,qz (qaV B) i t = t:=λi t=>by rw [qaV];rfl
 rcases Nat.lt_or_ge i B[a].length with hi | hi
 ·have E:ilt (i:Int) (B[a].length:Int) = true:=by rw [qe];simp;omega
  have w:=qU (n:=i) zo
  have x1:=qux a7
  have x2:=qyc hi
  have t2:=qpv (H:=noH) B[a][i] N.ports[a].2 _ _ G (At.arg _) (Ta.arg _) (qee _)
  have next:qec B[a][i] N.ports[a].2 = true->∀v ∈ B[a].take (i + 1),qec v N.ports[a].2 = true:=λh2 v hv=>by
   rw [List.take_succ_eq_append_getElem hi] at hv
   rcases List.mem_append.1 hv with hv | hv
   ·exact I v hv
   ·rw [List.mem_singleton.1 hv];exact h2
  have prev:0 < i->∃u,∃hu:i - 1 < B[a].length,B[a][i - 1] = u/\qec u N.ports[a].2 = true:=λh0=>⟨_,zo,rfl,I _ (by
   rw [List.mem_take_iff_getElem]
   exact ⟨i - 1,zo,rfl⟩)⟩
  generalize hv:B[a][i] = v at *
  generalize N.ports[a] = q at *
  obtain ⟨qn,qk,ql⟩:=q
  obtain ⟨vk,vn,vz,vl⟩:=v
  simp only [qah,qaU] at x1 x2 t2 next prev
  cases q2:qec (.mk vk vn vz vl) (.mk qk ql) with
  | false=>
   rw [q2] at t2
   simp only [sA.1,quA,seval,ht,e1,e5,e6,E,b0,l0,bd,bw,x0,x1,x2,t2] at he
   subst he
   exact .inr ⟨_,_,rfl,by simp,_,rfl,Y0,w5,z13,.inr ⟨rfl,u3⟩⟩
  | true=>
   rw [q2] at t2
   cases i with
   | zero=>
    have M:ilt 0 ((0:Nat):Int) = false:=xk
    simp only [sA.1,quA,seval,-Int.reduceNatCast',ht,e1,e5,e6,E,b0,l0,bd,bw,x0,x1,x2,t2,M,w] at he
    subst he
    refine .inl ⟨_,k - 1,rfl,zo,_,0 + 1,rfl,Y0,w5,z13,u3,zo,next q2⟩
   | succ i=>
    have M:ilt 0 ((i + 1:Nat):Int) = true:=by rw [qe];simp
    have w1:IntKind.i64.wrap (((i + 1:Nat):Int) - 1) = (i:Nat):=by rw [IntKind.wrap_i64];omega
    obtain ⟨u,hu,a1,a6⟩:=prev zo
    simp only [Nat.add_sub_cancel] at hu a1
    have x3:=qyc hu
    rw [a1] at x3
    have J:=qeN 3 (H:=noH) (qhF a6).1 (.mk vk vn vz vl) _ _ G ⟨3,(qhF q2).1⟩ (At.arg _) (At.arg _) (qee _)
    generalize qf7 u (.mk vk vn vz vl) = cc at J
    obtain ⟨uk,un,uz,ul⟩:=u
    simp only [qaU] at x3 J
    cases q3:ilt 0 cc with
    | true=>
     simp only [sA.1,quA,seval,ht,e1,e5,e6,E,b0,l0,bd,bw,x0,x1,x2,x3,t2,M,w1,J,q3] at he
     subst he
     exact .inr ⟨_,_,rfl,by simp,_,rfl,Y0,w5,z13,.inr ⟨rfl,u3⟩⟩
    | false=>
     simp only [sA.1,quA,seval,ht,e1,e5,e6,E,b0,l0,bd,bw,x0,x1,x2,x3,t2,M,w1,J,q3,w] at he
     subst he
     refine .inl ⟨_,k - 1,rfl,zo,_,i + 1 + 1,rfl,Y0,w5,z13,u3,zo,next q2⟩
 ·have E:ilt (i:Int) (B[a].length:Int) = false:=by rw [qe];simp;omega
  rw [List.take_of_length_le hi] at I
  simp only [sA.1,quA,seval,ht,e1,e5,e6,E,b0,l0,bd,bw,x0] at he
  subst he
  exact .inr ⟨_,_,rfl,by simp,_,rfl,Y0,w5,z13,.inl ⟨rfl,I⟩⟩
theorem qrV (op n:Int) (nm sb:Str) (aS:List Exl) (N:Nms) (O:List Val) (B:List (List Val)) (en ed:Int) (U:List Val) (hl:B.length = N.ports.length) (hs:B.length <= 50) (G:List qb) (hG:G = h ++ [.cells [.int .i64 op,.int .i64 n,.str nm,.str sb,.lst (aS.map exV) .no,.lst (N.vars.map nvV) .no,.lst (N.ports.map npV) .no,.bool N.bagq,.lst (N.oth.map nvV) .no,.lst (O.map qa6) .no,qaV B,.int .i64 en,.int .i64 ed,.lst (U.map qa6) .no]]) :
  ∀k st,(∃(tt:List qa) (i:Nat),st = ⟨tt,G,false⟩/\tt.length = 231/\lkp tt 1 = .ptr h.length 0/\lkp tt 5 = .int .i64 (i:Nat)/\i + k = B.length/\(∀j (hj:j < B.length) (I:j < N.ports.length),j < i->B[j].length <= 100/\tyB 3 N.ports[j].2 = true/\∀v ∈ B[j],qec v N.ports[j].2 = true))->
   ∃x S,qj h.length Wd (.loop qv8) st = some (x,S)/\(∃(tt:List qa),S = ⟨tt,G,false⟩/\tt.length = 231/\lkp tt 1 = .ptr h.length 0/\((x = .exit 4/\(∀j (hj:j < B.length) (I:j < N.ports.length),B[j].length <= 100/\tyB 3 N.ports[j].2 = true/\∀v ∈ B[j],qec v N.ports[j].2 = true))\/(x = .ret/\lkp tt 2 = .bool false))):=by
 refine qx _ _ ?_
 rintro k st ⟨tt,i,rfl,ht,e1,e5,af,a6⟩
 generalize he:qj h.length Wd qv8 _ = r
 have b0:G[h.length]? = some (.cells [.int .i64 op,.int .i64 n,.str nm,.str sb,.lst (aS.map exV) .no,.lst (N.vars.map nvV) .no,.lst (N.ports.map npV) .no,.bool N.bagq,.lst (N.oth.map nvV) .no,.lst (O.map qa6) .no,qaV B,.int .i64 en,.int .i64 ed,.lst (U.map qa6) .no]):=by rw [hG,qY];rfl
 have l0:h.length < G.length:=by rw [hG];simp
 have bl:qbB false (qaV B) = some (.int .i64 (B.length:Nat)):=by rw [qaV,qbB];simp
 have bd:(qaV B).dim = qaV B:=rfl
 have bw:∀i t,qz (qaV B) i t = t:=λi t=>by rw [qaV];rfl
 rcases Nat.lt_or_ge i B.length with hi | hi
 ·have M:ilt (i:Int) (B.length:Int) = true:=by rw [qe];simp;omega
  have w:=qU (n:=i) zo
  have a1:i < N.ports.length:=zo
  have x0:=qhv hi
  have x1:=qux a1
  have t1:=qzM 3 zo (H:=noH) N.ports[i].2 _ G (Ta.arg _) (qee _)
  have ab:((3:Nat):Int) = 3:=xk
  rw [ab] at t1
  have a8:=λJ=>qvi (h:=h) op n nm sb aS N O B en ed U G hG i hi a1 J B[i].length
  have next:B[i].length <= 100->tyB 3 N.ports[i].2 = true->(∀v ∈ B[i],qec v N.ports[i].2 = true)->(∀j (hj:j < B.length) (I:j < N.ports.length),j < i + 1->B[j].length <= 100/\tyB 3 N.ports[j].2 = true/\∀v ∈ B[j],qec v N.ports[j].2 = true):=λh0 h1 h2 j hj I ae=>by
   by_cases aa:j = i
   ·subst aa;exact ⟨h0,h1,h2⟩
   ·exact a6 j hj I zo
  generalize ah:B[i] = bl0 at *
  generalize ad:N.ports[i] = q at *
  obtain ⟨qn,qk,ql⟩:=q
  simp only [qah] at x1 t1 next
  cases q0:ilt 100 (bl0.length:Int) with
  | true=>
   simp only [sA.1,qv8,seval,ht,e1,e5,M,b0,l0,bl,bd,bw,x0,x1,q0] at he
   subst he
   exact .inr ⟨_,_,rfl,by simp,_,rfl,Y0,w5,.inr ⟨rfl,u3⟩⟩
  | false=>
   have J:bl0.length <= 100:=by rw [qe] at q0;simp at q0;omega
   cases q1:tyB 3 (.mk qk ql) with
   | false=>
    rw [q1] at t1
    simp only [sA.1,qv8,seval,ht,e1,e5,M,b0,l0,bl,bd,bw,x0,x1,q0,t1] at he
    subst he
    exact .inr ⟨_,_,rfl,by simp,_,rfl,Y0,w5,.inr ⟨rfl,u3⟩⟩
   | true=>
    rw [q1] at t1
    simp only [sA.1,qv8,seval,ht,e1,e5,M,b0,l0,bl,bd,bw,x0,x1,q0,t1] at he
    generalize hr:qj h.length Wd (.loop quA) _ = r2 at he
    obtain ⟨x,S,rfl,ac,rfl,E,f1,f5,⟨rfl,a7⟩ | ⟨rfl,f2⟩⟩:=qaH hr (a8 J _ ⟨_,0,rfl,Y0,w5,z13,x11,zo,λv hv=>by simp at hv⟩)
    ·simp only [sA.1,seval,E,f5,w] at he
     subst he
     exact .inl ⟨_,k - 1,rfl,zo,_,i + 1,rfl,by simp only [qaX,E],by simp only [sA.1,seval,E,f1],by simp only [sA.1,seval,E],zo,next J q1 a7⟩
    ·simp only [sA.1,seval,E,f2] at he
     subst he
     exact .inr ⟨_,_,rfl,by simp,_,rfl,by simp only [qaX,E],by simp only [sA.1,seval,E,f1],.inr ⟨rfl,by simp only [sA.1,seval,E,f2]⟩⟩
 ·have M:ilt (i:Int) (B.length:Int) = false:=by rw [qe];simp;omega
  simp only [sA.1,qv8,seval,ht,e1,e5,M,b0,l0,bl,bd,bw] at he
  subst he
  exact .inr ⟨_,_,rfl,by simp,_,rfl,Y0,w5,.inl ⟨rfl,λj hj I=>a6 j hj I zo⟩⟩
end
structure qap (W:Wl):Prop where
 fit:Fit 40 W.e
 siz:sz 40 W.e <= 600
 vl:W.N.vars.length <= 50
 pl:W.N.ports.length <= 50
 ol:W.N.oth.length <= 50
 ve:W.vals.length = W.N.vars.length
 be:W.bag.length = W.N.ports.length
 oe:W.ofv.length = W.N.oth.length
 ed:1 <= W.ed
 en:0 <= W.en
 vs:∀j (hj:j < W.vals.length) (hj':j < W.N.vars.length),tyB 3 W.N.vars[j].2.2 = true/\qec W.vals[j] W.N.vars[j].2.2 = true
 os:∀j (hj:j < W.ofv.length) (hj':j < W.N.oth.length),tyB 3 W.N.oth[j].2.2 = true/\qec W.ofv[j] W.N.oth[j].2.2 = true
 bs:∀j (hj:j < W.bag.length) (hj':j < W.N.ports.length),W.bag[j].length <= 100/\tyB 3 W.N.ports[j].2 = true/\∀v ∈ W.bag[j],qec v W.N.ports[j].2 = true
 ty:(qfE W.N W.e).2 = 0
theorem qBs {W:Wl} (ve:W.vals.length = W.N.vars.length) (be:W.bag.length = W.N.ports.length) (oe:W.ofv.length = W.N.oth.length) (vl:W.N.vars.length <= 50) (pl:W.N.ports.length <= 50) (ol:W.N.oth.length <= 50)
  (vs:∀j (hj:j < W.vals.length) (B:j < W.N.vars.length),tyB 3 W.N.vars[j].2.2 = true/\qec W.vals[j] W.N.vars[j].2.2 = true)
  (os:∀j (hj:j < W.ofv.length) (B:j < W.N.oth.length),tyB 3 W.N.oth[j].2.2 = true/\qec W.ofv[j] W.N.oth[j].2.2 = true)
  (bs:∀j (hj:j < W.bag.length) (B:j < W.N.ports.length),W.bag[j].length <= 100/\tyB 3 W.N.ports[j].2 = true/\∀v ∈ W.bag[j],qec v W.N.ports[j].2 = true):qzQ W.N:=by
 refine ⟨λx hx=>?_,λx hx=>?_,λx hx=>?_,zo,zo,zo⟩
 ·obtain ⟨j,hj,rfl⟩:=List.getElem_of_mem hx
  exact qvF (vs j zo hj).1
 ·obtain ⟨j,hj,rfl⟩:=List.getElem_of_mem hx
  exact qvF (bs j zo hj).2.1
 ·obtain ⟨j,hj,rfl⟩:=List.getElem_of_mem hx
  exact qvF (os j zo hj).1
theorem qg1 (op n:Int) (nm sb:Str) (L:List qa):quJ 5 [.int .i64 0,.int .i64 0,.str [],.str [],.lst [] .full] 1 [(0,.agg [.int .i64 op,.int .i64 n,.str nm,.str sb,.lst L .no])] = some (.lst [.agg [.int .i64 op,.int .i64 n,.str nm,.str sb,.lst L .no]] .full):=xk
theorem qd2 (L:List qa):quJ 14 [.str [],.bool false,.lst [] .full,.lst [] .full,.lst [] .full,.lst [] .full,.lst [] .full,.lst [] .full,.lst [] .full,.int .i64 0,.lst [] .full,.lst [] .full,.lst [] .full,.lst [] .full] 1 [(0,.agg [.str [],.bool false,.lst [] .full,.lst [] .full,.lst [] .full,.lst L .full,.lst [] .full,.lst [] .full,.lst [] .full,.int .i64 0,.lst [] .full,.lst [] .full,.lst [] .full,.lst [] .full])] = some (.lst [.agg [.str [],.bool false,.lst [] .full,.lst [] .full,.lst [] .full,.lst L .full,.lst [] .full,.lst [] .full,.lst [] .full,.int .i64 0,.lst [] .full,.lst [] .full,.lst [] .full,.lst [] .full]] .full):=xk
section
variable {h:List qb}
theorem qnC (W:Wl):∃b,Wd (.fn 7 [] []) [wV W] h = some (.ret (.bool b),h,false)/\(b = true->qap W):=by
 obtain ⟨⟨op,n,nm,sb,aS⟩,N,E,B,en,ed,J⟩:=W
 obtain ⟨r,I,U⟩:=qvn (.mk op n nm sb aS) (h ++ [.cells [.int .i64 op,.int .i64 n,.str nm,.str sb,.lst (aS.map exV) .no,.lst (N.vars.map nvV) .no,.lst (N.ports.map npV) .no,.bool N.bagq,.lst (N.oth.map nvV) .no,.lst (E.map qa6) .no,qaV B,.int .i64 en,.int .i64 ed,.lst (J.map qa6) .no]])
 have bl:qbB false (qaV B) = some (.int .i64 (B.length:Nat)):=by rw [qaV,qbB];simp
 have bd:(qaV B).dim = qaV B:=rfl
 have bw:∀i t,qz (qaV B) i t = t:=λi t=>by rw [qaV];rfl
 have bs:(qaV B).storable = true:=by rw [qaV];kernel_rfl
 rw [qEt,qD] at I
 generalize hw:Wd _ _ h = w
 rw [wV,qeU] at hw
 rw [qm 7 c7] at hw
 cases y0:(r == 0) with
 | true=>
  simp only [sA.1,c7,seval,qg1,qd2,I,bl,bd,bw,bs,y0] at hw
  subst hw
  exact ⟨false,rfl,λh=>by cases h⟩
 | false=>
 cases y1:(ilt 50 (N.vars.length:Int)) with
 | true=>
  simp only [sA.1,c7,seval,qg1,qd2,I,bl,bd,bw,bs,y0,y1] at hw
  subst hw
  exact ⟨false,rfl,λh=>by cases h⟩
 | false=>
 cases y2:(ilt 50 (N.ports.length:Int)) with
 | true=>
  simp only [sA.1,c7,seval,qg1,qd2,I,bl,bd,bw,bs,y0,y1,y2] at hw
  subst hw
  exact ⟨false,rfl,λh=>by cases h⟩
 | false=>
 cases y3:(ilt 50 (N.oth.length:Int)) with
 | true=>
  simp only [sA.1,c7,seval,qg1,qd2,I,bl,bd,bw,bs,y0,y1,y2,y3] at hw
  subst hw
  exact ⟨false,rfl,λh=>by cases h⟩
 | false=>
 cases y4:((E.length:Int) == (N.vars.length:Int)) with
 | false=>
  simp only [sA.1,c7,seval,qg1,qd2,I,bl,bd,bw,bs,y0,y1,y2,y3,y4] at hw
  subst hw
  exact ⟨false,rfl,λh=>by cases h⟩
 | true=>
 cases y5:((B.length:Int) == (N.ports.length:Int)) with
 | false=>
  simp only [sA.1,c7,seval,qg1,qd2,I,bl,bd,bw,bs,y0,y1,y2,y3,y4,y5] at hw
  subst hw
  exact ⟨false,rfl,λh=>by cases h⟩
 | true=>
 cases y6:((J.length:Int) == (N.oth.length:Int)) with
 | false=>
  simp only [sA.1,c7,seval,qg1,qd2,I,bl,bd,bw,bs,y0,y1,y2,y3,y4,y5,y6] at hw
  subst hw
  exact ⟨false,rfl,λh=>by cases h⟩
 | true=>
 cases y7:(ilt ed 1) with
 | true=>
  simp only [sA.1,c7,seval,qg1,qd2,I,bl,bd,bw,bs,y0,y1,y2,y3,y4,y5,y6,y7] at hw
  subst hw
  exact ⟨false,rfl,λh=>by cases h⟩
 | false=>
 cases y8:(ilt en 0) with
 | true=>
  simp only [sA.1,c7,seval,qg1,qd2,I,bl,bd,bw,bs,y0,y1,y2,y3,y4,y5,y6,y7,y8] at hw
  subst hw
  exact ⟨false,rfl,λh=>by cases h⟩
 | false=>
 have M:Fit 40 (.mk op n nm sb aS)/\sz 40 (.mk op n nm sb aS) <= 600:=by
  rcases U with rfl | ⟨_,h1,h2⟩
  ·cases y0
  ·exact ⟨h1,h2⟩
 have d1:N.vars.length <= 50:=by rw [qe] at y1;simp at y1;omega
 have d2:N.ports.length <= 50:=by rw [qe] at y2;simp at y2;omega
 have d3:N.oth.length <= 50:=by rw [qe] at y3;simp at y3;omega
 have d4:E.length = N.vars.length:=by have:=beq_iff_eq.1 y4;omega
 have d5:B.length = N.ports.length:=by have:=beq_iff_eq.1 y5;omega
 have d6:J.length = N.oth.length:=by have:=beq_iff_eq.1 y6;omega
 have d7:1 <= ed:=by rw [qe] at y7;simpa using y7
 have d8:0 <= en:=by rw [qe] at y8;simpa using y8
 simp only [sA.1,c7,seval,qg1,qd2,I,bl,bd,bw,bs,y0,y1,y2,y3,y4,y5,y6,y7,y8] at hw
 generalize hr:qj h.length Wd (.loop qv6) _ = r at hw
 obtain ⟨x,O,rfl,tt,rfl,ht,e1,⟨rfl,hv⟩ | ⟨rfl,e2⟩⟩:=qaH hr (qnD (h:=h) op n nm sb aS N E B en ed J d4 zo _ rfl E.length _ ⟨_,0,rfl,Y2,Y2,y9,zo,λj _ _ h=>zo⟩)
 ·simp only [sA.1,seval,ht,e1] at hw
  generalize hr:qj h.length Wd (.loop qv7) _ = r at hw
  obtain ⟨x,O,rfl,tt,rfl,ht,e1,⟨rfl,ho⟩ | ⟨rfl,e2⟩⟩:=qaH hr (qrW (h:=h) op n nm sb aS N E B en ed J d6 zo _ rfl J.length _ ⟨_,0,rfl,u3,w5,x11,zo,λj _ _ h=>zo⟩)
  ·simp only [sA.1,seval,ht,e1] at hw
   generalize hr:qj h.length Wd (.loop qv8) _ = r at hw
   obtain ⟨x,O,rfl,tt,rfl,ht,e1,⟨rfl,hb⟩ | ⟨rfl,e2⟩⟩:=qaH hr (qrV (h:=h) op n nm sb aS N E B en ed J d5 zo _ rfl B.length _ ⟨_,0,rfl,u3,w5,x11,zo,λj _ _ h=>zo⟩)
   ·have hN:qzQ N:=qBs (W:=⟨.mk op n nm sb aS,N,E,B,en,ed,J⟩) d4 d5 d6 d1 d2 d3 hv ho hb
    obtain ⟨rs,m,S,a6⟩:=qwx N hN (.mk op n nm sb aS) ⟨40,M.1⟩ (h ++ [.cells [.int .i64 op,.int .i64 n,.str nm,.str sb,.lst (aS.map exV) .no,.lst (N.vars.map nvV) .no,.lst (N.ports.map npV) .no,.bool N.bagq,.lst (N.oth.map nvV) .no,.lst (E.map qa6) .no,qaV B,.int .i64 en,.int .i64 ed,.lst (J.map qa6) .no]])
    obtain ⟨kk,LL,rfl,ld,a1,lw⟩:=a6.two
    rw [qD,qfR] at S
    have hB:Nat.ble h.length (h.length + (m.length + 1)) = true:=qf zo
    have fin:(qfE N (.mk op n nm sb aS)).2 = 0->qap ⟨.mk op n nm sb aS,N,E,B,en,ed,J⟩:=λhz=>⟨M.1,M.2,d1,d2,d3,d4,d5,d6,d7,d8,hv,ho,hb,hz⟩
    generalize (qfE N (.mk op n nm sb aS)).2 = f at *
    simp only [sA.1,seval,ht,e1,S,ld,a1,lw,hB] at hw
    subst hw
    exact ⟨f == 0,rfl,λhf=>fin (by simpa using hf)⟩
   ·simp only [sA.1,seval,ht,e2] at hw
    subst hw
    exact ⟨false,rfl,λh=>by cases h⟩
  ·simp only [sA.1,seval,ht,e2] at hw
   subst hw
   exact ⟨false,rfl,λh=>by cases h⟩
 ·simp only [sA.1,seval,ht,e2] at hw
  subst hw
  exact ⟨false,rfl,λh=>by cases h⟩
end
def SlR (h:List qb) (b k:Nat) (rows:List (List qa)) (V:qa):Prop:=(rows = []/\V = .lst [] .full)\/∃id,V = .sl id 0 rows.length rows.length k/\b <= id/\rows ≠ []/\h[id]? = some (.cells rows.flatten)
theorem SlR.facts {h:List qb} {b k:Nat} {rows:List (List qa)} {V:qa} (hV:SlR h b k rows V):V.dim = V/\V.storable = true/\(∀i t,qz V i t = t)/\qbB false V = some (.int .i64 (rows.length:Nat))/\V.cells = [V]:=by
 rcases hV with ⟨rfl,rfl⟩ | ⟨id,rfl,_⟩ <;> exact ⟨rfl,rfl,λ_ _=>rfl,rfl,rfl⟩
theorem SlR.keep {h h':List qb} {b k:Nat} {rows:List (List qa)} {V:qa} (hV:SlR h b k rows V) (hg:∀i,b <= i->i < h.length->h'[i]? = h[i]?):SlR h' b k rows V:=by
 rcases hV with h1 | ⟨id,rfl,h1,h2,h3⟩
 ·exact .inl h1
 ·exact .inr ⟨id,rfl,h1,h2,by rw [hg id h1 (jd.1 h3).1];exact h3⟩
theorem SlR.next {h:List qb} {b k base:Nat} {rows:List (List qa)} {V:qa} (hV:SlR h b k rows V) (hb:b <= h.length) (hl:rows.length <= 100000) (hk:k ≠ 0) (hr:∀r ∈ rows,r.length = k/\qb0 r) {row:List qa} (h1:row.length = k) (h2:qb0 row) :
  ∃V' h',hop base (.app k) [V,.sl h.length 0 1 1 0] (h ++ [.cells row]) = some (V',h',false)/\SlR h' b k (rows ++ [row]) V'/\h'.length = h.length + 2/\∀i,i < h.length->(∀id a c d e,V = .sl id a c d e->i ≠ id)->h'[i]? = h[i]?:=by
 have g2:(h ++ [qb.cells row])[h.length]? = some (.cells row):=by rw [qY];rfl
 have S:(h ++ [qb.cells row]).length = h.length + 1:=by simp
 rcases hV with ⟨rfl,rfl⟩ | ⟨id,rfl,hid,U,hi⟩
 ·refine ⟨_,_,qcb g2 h1 h2,.inr ⟨_,rfl,zo,by simp,?_⟩,by simp,λi hi _=>?_⟩
  ·rw [qY];simp
  ·rw [List.append_assoc,ja hi]
 ·have hlt:id < h.length:=(jd.1 hi).1
  have J:(h ++ [qb.cells row])[id]? = some (.cells rows.flatten):=by rw [ja hlt];exact hi
  have hc:rows.flatten.length = rows.length * k:=qc5 λv hv=>(hr v hv).1
  have E:qb0 rows.flatten:=λc M=>by
   obtain ⟨r,I,O⟩:=List.mem_flatten.1 M
   exact (hr r I).2 c O
  refine ⟨_,_,qc2 J g2 h1 hc h2 E hl hk,.inr ⟨(h ++ [qb.cells row]).length,by simp,zo,by simp,?_⟩,by simp,λi hi B=>?_⟩
  ·rw [show (h ++ [qb.cells row]).length = ((h ++ [qb.cells row]).set id .dead).length by simp,qY]
   simp
  ·rw [ja (by simp;omega),List.getElem?_set_ne (by have:=B _ _ _ _ _ rfl;omega),ja hi]
def qn4 (x:Str×Str×Tp):Vr:=⟨[],x.2.1,qP x.2.2,(qcu x.2.2).map tpV⟩
def qCr (x:Str×Tp):Pt:=⟨x.1,qP x.2,(qcu x.2).map tpV⟩
theorem qu8 (l:List (Str×Tp)):l.map npV = (l.map qCr).map ptV:=by
 rw [jI]
 refine List.map_congr_left λx _=>?_
 obtain ⟨s,k,l'⟩:=x
 simp [npV,qah,ptV,qCr,qP,qcu]
section
variable {h:List qb}
theorem qEr (base:Nat) (b:Str) (k:Int) (L:List qa) (h:List qb):hop base (.lit 4 [.str [],.str [],.int .i64 0,.lst [] .full] 1 [0]) [.agg [.str [],.str b,.int .i64 k,.lst L .no]] h = some (.sl h.length 0 1 1 0,h ++ [.cells [.str [],.str b,.int .i64 k,.lst L .no]],false):=qHh base [] b k L h
theorem qnO (W:Wl) (hl:W.N.vars.length <= 50) :
  ∀k st,(∃(tt:List qa) (G:List qb) (i:Nat) (V:qa),st = ⟨tt,G,false⟩/\tt.length = 38/\lkp tt 1 = .ptr h.length 0/\lkp tt 3 = V/\lkp tt 4 = .int .i64 (i:Nat)/\i + k = W.N.vars.length/\(∀j,j < h.length + 1->G[j]? = (h ++ [.cells (wC W)])[j]?)/\h.length + 1 <= G.length/\SlR G (h.length + 1) 4 (((W.N.vars.take i).map qn4).map vrR) V)->
   ∃x M,qj h.length Wd (.loop qzZ) st = some (x,M)/\(∃(tt:List qa) (G:List qb) (V:qa),M = ⟨tt,G,false⟩/\tt.length = 38/\lkp tt 1 = .ptr h.length 0/\lkp tt 3 = V/\(∀j,j < h.length + 1->G[j]? = (h ++ [.cells (wC W)])[j]?)/\h.length + 1 <= G.length/\SlR G (h.length + 1) 4 ((W.N.vars.map qn4).map vrR) V/\x = .exit 0):=by
 obtain ⟨⟨op,n,nm,sb,aS⟩,N,U,a8,en,ed,a6⟩:=W
 refine qx _ _ ?_
 rintro k st ⟨tt,G,i,V,rfl,ht,e1,e3,e4,a7,hG,S,hV⟩
 generalize he:qj h.length Wd qzZ _ = r
 obtain ⟨vd,vs,vw,_,vc⟩:=hV.facts
 have b0:G[h.length]? = some (.cells (wC ⟨.mk op n nm sb aS,N,U,a8,en,ed,a6⟩)):=by rw [hG _ zo,qY];rfl
 rw [qeU] at b0
 have l0:h.length < G.length:=zo
 simp only at a7 hl
 rcases Nat.lt_or_ge i N.vars.length with hi | hi
 ·have E:ilt (i:Int) (N.vars.length:Int) = true:=by rw [qe];simp;omega
  have w:=qU (n:=i) zo
  have x1:=qiI hi
  have hx:qn4 N.vars[i] = qn4 N.vars[i]:=rfl
  obtain ⟨V',G',O,B,aa,hold⟩:=hV.next (base:=h.length) (row:=vrR (qn4 N.vars[i])) S (by simp;omega) zo (λr hr=>by
   obtain ⟨v,_,rfl⟩:=List.mem_map.1 hr
   exact ⟨rfl,qcZ v⟩) rfl (qcZ _)
  have I:((N.vars.take i).map qn4).map vrR ++ [vrR (qn4 N.vars[i])] = ((N.vars.take (i + 1)).map qn4).map vrR:=by
   rw [List.take_succ_eq_append_getElem hi,j9,j9]
   rfl
  rw [I] at B
  obtain ⟨J,ab,a1,_,ac⟩:=B.facts
  generalize N.vars[i] = q at *
  obtain ⟨qp,qn,qk,ql⟩:=q
  rw [qah] at x1
  simp only [qn4,vrR,qP,qcu] at O
  simp only [sA.1,qzZ,seval,ht,e1,e3,e4,E,b0,l0,x1,vd,vs,vw,qEr,O,J,a1,w] at he
  subst he
  refine .inl ⟨_,k - 1,rfl,zo,_,G',i + 1,V',rfl,Y0,?_,?_,?_,by show i + 1 + (k - 1) = N.vars.length;omega,λj hj=>?_,zo,B⟩
  ·simp only [sA.1,seval,ht,e1]
  ·simp only [sA.1,seval,ht,J]
  ·simp only [sA.1,seval,ht]
  ·rw [hold j zo λid a c d e' ev=>?_,hG j hj]
   rcases hV with ⟨_,hV⟩ | ⟨ad,hV,h1,_⟩
   ·rw [hV] at ev;cases ev
   ·rw [hV] at ev;cases ev;omega
 ·have E:ilt (i:Int) (N.vars.length:Int) = false:=by rw [qe];simp;omega
  rw [List.take_of_length_le hi] at hV
  simp only [sA.1,qzZ,seval,ht,e1,e4,E,b0,l0] at he
  subst he
  exact .inr ⟨_,_,rfl,by simp,_,G,V,rfl,Y0,w5,u7,hG,S,hV,rfl⟩
theorem qm6 {vs:List Vr} {ps:List Pt} {V:qa} (b:Nat) (hb:b <= h.length) (ae:∀id a c d e,V = .sl id a c d e->b <= id) (e:Exl) (hk:∃k,Fit k e) (hV:qh9 h vs V) (hr:right 20 e = true) (h0:0 < h.length) (hs:sz 20 e <= 10000) (U:vs.length <= 100000) (a1:ps.length <= 100000) :
  ∃H' g' t' E,Wd (.fn 19 [] []) [exV e,V,.lst (ps.map ptV) .no] h = some (.ret E,g',true)/\Tab H' g' t' (low (vs.map (·.nm)) (ps.map (·.nm)) 20 0 e) E/\h.length <= g'.length/\(∀i,i < h.length->g'[i]? = h[i]?)/\(∀i x,H' i = some x->b <= i)/\h.length <= t':=by
 have hx:=qDk e (h ++ [.cells e.enc]) hk
 have ac:V.dim = V:=by rcases hV with ⟨_,rfl⟩ | ⟨id,rfl,_⟩ <;> rfl
 have ab:V.storable = true:=by rcases hV with ⟨_,rfl⟩ | ⟨id,rfl,_⟩ <;> rfl
 have aa:∀i t,qz V i t = t:=by rcases hV with ⟨_,rfl⟩ | ⟨id,rfl,_⟩ <;> exact λ_ _=>rfl
 have ad:V.cells = [V]:=by rcases hV with ⟨_,rfl⟩ | ⟨id,rfl,_⟩ <;> rfl
 rw [hr] at hx
 have hd:=qfg _ _ hr
 obtain ⟨H,hH⟩ :∃H:Nat->Option qb,H = λi=>if b <= i/\i < h.length then h[i]? else none:=⟨_,rfl⟩
 have M:∀i,b <= i->i < h.length->H i = h[i]?:=λi B hi=>by rw [hH];exact if_pos ⟨B,hi⟩
 have J:∀i,i < b->H i = none:=λi hi=>by rw [hH];exact if_neg zo
 have I:∀i,h.length <= i->H i = none:=λi hi=>by rw [hH];exact if_neg zo
 have O:Cov H h:=λi x hx=>by
  by_cases hi:i < h.length
  ·by_cases B:b <= i
   ·rw [<-M i B hi]
    exact hx
   ·rw [J i zo] at hx
    cases hx
  ·rw [I i zo] at hx
   cases hx
 have af:qhu H vs V:=by
  rcases hV with hV | ⟨id,e,hi⟩
  ·exact .inl hV
  ·exact .inr ⟨id,e,by rw [M id (ae _ _ _ _ _ e) (jd.1 hi).1];exact hi⟩
 have pre:Pre vs V (.lst (ps.map ptV) .no) (h.length + 1) H (h ++ [.cells e.enc,.cells [.lst [] .full,V,.lst (ps.map ptV) .no]]) h.length [] (.lst [] .full):=by
  refine ⟨⟨O.more _,I _ (Nat.le_refl _),.inl ⟨rfl,rfl⟩⟩,?_,I _ zo,zo,by simp,af⟩
  rw [List.getElem?_append_right zo,show h.length + 1 - h.length = 1 by omega]
  rfl
 obtain ⟨H',g',t',E,ha,post⟩:=qFP vs ps V (h.length + 1) U a1 20 e hk hd H _ h.length [] (.lst [] .full) (by simpa using hs) pre
 generalize (((([]:List Nd).length + (low (vs.map (·.nm)) (ps.map (·.nm)) 20 ([]:List Nd).length e).length:Nat):Int) - 1) = z at ha
 obtain ⟨aj,ai,ah,_⟩:=post.pre.tab.facts
 have a7:=post.pre.box
 have a6:∀i,i < h.length->g'[i]? = h[i]?:=λi hi=>by
  rw [post.keep i (by simp only [ji,jA,jB];omega) zo zo,ja hi]
 have hm:=post.more
 simp only [ji,jA,jB] at hm
 have a8:∀i x,H' i = some x->b <= i:=λi x hx=>by
  by_cases hi:i < h.length + 2
  ·rw [post.told i (by simpa using hi)] at hx
   by_cases B:b <= i
   ·exact B
   ·rw [J i zo] at hx
    cases hx
  ·omega
 have S:=post.young
 simp only [ji,jA,jB] at S
 refine ⟨H',g',t',E,?_,by simpa using post.pre.tab,zo,a6,a8,zo⟩
 obtain ⟨op,n,nm,sub,aS⟩:=e
 rw [qD,qb3] at hx
 rw [qD,qb3] at ha
 generalize hw:Wd _ _ h = w
 rw [qD,qm 19 c19] at hw
 simp only [sA.1,c19,seval,qa9,hx,ha,a7,ac,ab,aa,ad,aj,ai,ah,Bool.or_true] at hw
 subst hw
 exact congrArg some (qcI (n:=h.length) zo _ _)
def wNs (W:Wl):List Nd:=low (W.N.vars.map (·.2.1)) (W.N.ports.map (·.1)) 20 0 W.e
theorem qvx (W:Wl) (hR:qap W) (h0:0 < h.length):∃g' Tb,Wd (.fn 9 [] []) [wV W] h = some (.ret Tb,g',true)/\(wNs W ≠ []->qen (qcx h.length g') (wNs W) Tb)/\h.length <= g'.length/\∀i,i < h.length->g'[i]? = h[i]?:=by
 have loop:=qnO (h:=h) W hR.vl
 have M:∃k,Fit k W.e:=⟨40,hR.fit⟩
 have J:right 20 W.e = true:=by
  have:=hR.ty
  rw [qfE] at this
  cases hq:right 20 W.e with
  | true=>rfl
  | false=>rw [hq] at this;cases this
 have a1:sz 20 W.e <= 10000:=by
  have h1:sz 20 W.e <= sz 40 W.e:=qkL 20 W.e 20
  have:=hR.siz
  omega
 have U:(W.N.vars.map qn4).map (·.nm) = W.N.vars.map (·.2.1):=by rw [jI];rfl
 have a6:(W.N.ports.map qCr).map (·.nm) = W.N.ports.map (·.1):=by rw [jI];rfl
 have am:=hR.vl
 have ap:=hR.pl
 unfold wNs
 obtain ⟨⟨op,n,nm,sb,aS⟩,N,af,E,en,ed,aj⟩:=W
 simp only at *
 simp only [qeU] at loop
 generalize hw:Wd _ _ h = w
 rw [wV,qeU] at hw
 rw [qm 9 c9] at hw
 have bs:(qaV E).storable = true:=by rw [qaV];kernel_rfl
 have bd:(qaV E).dim = qaV E:=rfl
 simp only [sA.1,c9,seval,bs,bd] at hw
 generalize hr:qj h.length Wd (.loop qzZ) _ = r at hw
 obtain ⟨x,ai,rfl,tt,G,V,rfl,ht,e1,e3,hG,ae,hV,rfl⟩:=qaH hr (loop N.vars.length _ ⟨_,_,0,.lst [] .full,rfl,Y2,Y2,Y2,y9,zo,λ_ _=>rfl,by simp,.inl ⟨rfl,rfl⟩⟩)
 obtain ⟨vd,vs,vw,_,vc⟩:=hV.facts
 have b0:=hG h.length zo
 rw [qY] at b0
 simp only [List.getElem?_cons_zero] at b0
 have l0:h.length < G.length:=zo
 have ad:qh9 G (N.vars.map qn4) V:=by
  rcases hV with ⟨e,rfl⟩ | ⟨id,rfl,h1,h2,h3⟩
  ·exact .inl ⟨by simpa using e,rfl⟩
  ·exact .inr ⟨id,by simp,h3⟩
 have ac:∀id a c d e,V = .sl id a c d e->h.length + 1 <= id:=λid a c d e ev=>by
  rcases hV with ⟨_,hV⟩ | ⟨ak,hV,h1,_⟩
  ·rw [hV] at ev;cases ev
  ·rw [hV] at ev;cases ev;exact h1
 obtain ⟨H',g',t',Tb,I,B,ar,a8,ab,al⟩:=qm6 (h:=G) (h.length + 1) ae ac (vs:=N.vars.map qn4) (ps:=N.ports.map qCr) (V:=V) (.mk op n nm sb aS) M ad J zo a1 (by simp;omega) (by simp;omega)
 rw [U,a6] at B
 rw [<-qu8,qD] at I
 obtain ⟨S,ah,O,_⟩:=B.facts
 simp only [sA.1,seval,ht,e1,e3,b0,l0,vd,vw,I,S,O] at hw
 subst hw
 refine ⟨g',Tb,?_,λa7=>?_,zo,λi hi=>by rw [a8 i zo,hG i zo,ja hi]⟩
 ·rw [qcI zo]
 ·rcases B with ⟨aa,_,⟨e,_⟩ | ⟨rs,rfl,_,h3,h4⟩⟩
  ·exact absurd e a7
  ·exact ⟨t',rs,rfl,by rw [qL zo];exact h3,h4.mono λi x hx=>by rw [qL (by have:=ab i x hx;omega)];exact aa i x hx⟩
end
end Go.Proofs.YtnibchoenjmmjaaGreatDoor.AE
