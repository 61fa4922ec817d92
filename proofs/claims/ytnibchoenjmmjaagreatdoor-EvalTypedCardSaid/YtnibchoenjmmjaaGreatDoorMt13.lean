/- Proved: part 13. No condition. -/
import Derived.Test.YtnibchoenjmmjaaGreatDoorMt12
set_option maxRecDepth 100000
set_option maxHeartbeats 0
open List renaming getElem?_append_left→ja,getElem?_eq_some_iff→je,drop_eq_getElem_cons→jX
open Option renaming map_some→jO
open Bool renaming not_true→j0,not_false→j3
namespace Go.Proofs.YtnibchoenjmmjaaGreatDoor.AE
open Go.AE
def qeF (H:Nat->Option qb) (ns:List Nd) (V:qa):Prop:=∃tid rs,V = .sl tid 0 ns.length ns.length 6/\H tid = some (.cells rs.flatten)/\Rows H ns rs
theorem qeF.item {H:Nat->Option qb} {ns:List Nd} {V:qa} (h:qeF H ns V) {i:Nat} (hi:i < ns.length) {g:List qb} (hg:Cov H g):∃B I,V = .sl B 0 ns.length ns.length 6/\B < g.length/\qaW 6 V (.int .i64 (i:Nat)) = some (.ptr B (i * 6))/\ldB (some 6) (i * 6) g[B]? = some (.agg [.int .i64 ns[i].op,.int .i64 ns[i].n,.str ns[i].nm,.str ns[i].sb,.int .i64 ns[i].pl,I])/\Ins H ns[i].ins I:=by
 obtain ⟨B,rs,rfl,ht,hr⟩:=h
 have hl:=hr.length
 obtain ⟨I,e,hI⟩:=hr.get i hi zo
 refine ⟨B,I,rfl,hg.lt ht,qcC hi,?_,hI⟩
 have hc:=qdS (vs:=rs) (k:=6) (λv hv=>(hr.six v hv).1) (by omega:i < rs.length) λc hc=>((hr.six _ (List.getElem_mem zo)).2 c hc).1
 rw [e] at hc
 rw [hg _ _ ht,ldB]
 exact hc
theorem qgS {dn:Int->Bool} {ev:Int->Res} {l:List Int} {i:Nat} (hi:i < l.length):qcB dn ev (l.drop i) = bif !(dn l[i]) then l[i] else bif !((ev l[i]).2 == 0) then -1 else qcB dn ev (l.drop (i + 1)):=by
 rw [jX hi,qcB]
section
variable {g:List qb} {H:Nat->Option qb}
theorem Ins.item {ins:List Int} {I:qa} (h:Ins H ins I) {i:Nat} (hi:i < ins.length) (hg:Cov H g):∃id,I = .sl id 0 ins.length ins.length 1/\id < g.length/\qaW 1 I (.int .i64 (i:Nat)) = some (.ptr id i)/\g[id]? = some (.cells (ins.map cI))/\(ins.map cI)[i]? = some (cI ins[i]):=by
 rcases h with ⟨rfl,rfl⟩ | ⟨id,rfl,hid⟩
 ·simp at hi
 ·exact ⟨id,rfl,hg.lt hid,by rw [qcC hi,Nat.mul_one],hg _ _ hid,by rw [List.getElem?_map,List.getElem?_eq_getElem hi];rfl⟩
theorem qno (R D N:Nat) (dn:Int->Bool) (ev:Int->Res) (ns:List Nd) {TV VL BV OL:qa} {en ed:Int} (hR:R < g.length) (hb:g[R]? = some (.cells [TV,VL,BV,.int .i64 en,.int .i64 ed,OL,.sl D 0 N N 0])) (hg:Cov H g) (hT:qeF H ns TV) (hD:qcj H g D N dn ev) (i:Nat) (hi:i < ns.length) (hc:qoc ns[i].op = false) (aj:∀j ∈ ns[i].ins,0 <= j/\j < N) (ar:ns[i].ins.length <= 1000) :
  Wd (.fn 25 [] []) [.ptr R 0,.int .i64 (i:Nat)] g = some (.ret (.int .i64 (qcB dn ev ns[i].ins)),g,false):=by
 obtain ⟨ah,I,al,hlt,x1,x2,hI⟩:=hT.item hi hg
 subst al
 obtain ⟨Id,Is,Iw,Il⟩:=hI.facts
 generalize ns[i] = nd at *
 obtain ⟨op,n,nm,sb,pl,ins⟩:=nd
 simp only at *
 have d:∀id o n c w:Nat,(qa.sl id o n c w).dim = .sl id o n c w:=λ_ _ _ _ _=>rfl
 have st:∀id o n c w:Nat,(qa.sl id o n c w).storable = true:=λ_ _ _ _ _=>rfl
 have ak:Nat.ble g.length g.length = true:=qe zo
 have z0:qhs 0 false .nilptr .nilptr = some (.bool true):=xk
 have z1:∀q,qhs 0 false (.ptr q 0) .nilptr = some (.bool false):=λ_=>xk
 obtain ⟨af,ae,ad⟩ :(op == 23) = false/\(op == 24) = false/\(op == 25) = false:=by
  simpa [qoc] using hc
 obtain ⟨G,hG⟩ :∃G,G = g ++ [qb.cells [.int .i64 op,.int .i64 n,.str nm,.str sb,.int .i64 pl,I]]:=⟨_,rfl⟩
 have az:G.length = g.length + 1:=by rw [hG];simp
 have aa:G.take g.length = g:=by rw [hG];simp
 have a6:Cov H G:=by rw [hG];exact hg.more _
 have a8:R < G.length:=zo
 have a7:G[R]? = some (.cells [.sl ah 0 ns.length ns.length 6,VL,BV,.int .i64 en,.int .i64 ed,OL,.sl D 0 N N 0]):=by rw [hG,ja hR];exact hb
 have am:qcj H G D N dn ev:=by rw [hG];exact hD.more _
 obtain ⟨ds,D0,D1,D2,D3⟩:=am
 have mD:∀i:Nat,i < N->qaW 1 (.sl D 0 N N 0) (.int .i64 (i:Nat)) = some (.ptr D i):=λi h=>by rw [qcC h,Nat.mul_one]
 have loop:∀k st,(∃(tt:List qa) (a:Nat),st = ⟨tt,G,false⟩/\tt.length = 86/\lkp tt 0 = .ptr R 0/\lkp tt 59 = I/\lkp tt 60 = .int .i64 (ins.length:Nat)/\lkp tt 61 = .int .i64 (a:Nat)/\a + k = ins.length/\qcB dn ev ins = qcB dn ev (ins.drop a))->
   ∃x U,qm g.length Wd (.loop qi6) st = some (x,U)/\(∃(tt:List qa),U = ⟨tt,G,false⟩/\tt.length = 86/\((x = .exit 1/\qcB dn ev ins = -1)\/(x = .ret/\lkp tt 4 = .int .i64 (qcB dn ev ins)))):=by
  refine qy _ _ ?_
  rintro k st ⟨tt,a,rfl,ht,e0,J,E,B,av,hf⟩
  generalize he:qm g.length Wd qi6 _ = r
  rcases Nat.lt_or_ge a ins.length with ha | ha
  ·have c1E:ilt (a:Int) (ins.length:Int) = true:=by rw [qf];simp;omega
   have w:=qaH (n:=a) zo
   obtain ⟨ap,ay,y0,y1,y2,y3⟩:=hI.item ha a6
   have hj:=aj _ (List.getElem_mem ha)
   rw [qgS ha] at hf
   obtain ⟨j,ai⟩ :∃j:Nat,ins[a] = (j:Int):=⟨ins[a].toNat,zo⟩
   rw [ai] at y3 hj hf
   have a1:j < N:=zo
   have m1:=mD j a1
   cases S:dn (j:Int) with
   | false=>
    have e1:=(D3 j a1).1 S
    rw [S] at hf
    simp only [sB.1,qi6,seval,ht,e0,J,E,B,c1E,Id,Iw,y0,y1,y2,y3,a8,a7,D0,D1,m1,e1,d,z0,z1,cI,jO] at he
    subst he
    exact .inr ⟨_,_,rfl,by simp,_,rfl,Y0,.inr ⟨rfl,by simp only [sB.1,seval,ht,hf,j3,cond_true]⟩⟩
   | true=>
    obtain ⟨q,rs,e1,hq,hr⟩:=(D3 j a1).2 S
    have ab:=a6.lt hq
    have ac:=a6 _ _ hq
    rw [S] at hf
    generalize au:ev j = r0 at *
    obtain ⟨v0,x0⟩:=r0
    obtain ⟨k0,m0,s0,l0,L0,hv,rfl,hL⟩:=hr.cells
    cases M:(x0 == 0) with
    | false=>
     simp only [M] at hf
     simp only [sB.1,qi6,seval,ht,e0,J,E,B,c1E,Id,Iw,y0,y1,y2,y3,a8,a7,D0,D1,m1,e1,d,z0,z1,cI,jO,ab,ac,M] at he
     subst he
     exact .inr ⟨_,_,rfl,by simp,_,rfl,Y0,.inr ⟨rfl,by simp only [sB.1,seval,ht,hf,j3,j0,cond_true,cond_false]⟩⟩
    | true=>
     simp only [M] at hf
     simp only [sB.1,qi6,seval,ht,e0,J,E,B,c1E,Id,Iw,y0,y1,y2,y3,a8,a7,D0,D1,m1,e1,d,z0,z1,cI,jO,ab,ac,M,w] at he
     subst he
     refine .inl ⟨_,k - 1,rfl,zo,_,a + 1,rfl,Y0,?_,?_,?_,?_,zo,hf⟩
     all_goals simp only [sB.1,seval,ht,e0,J,E,B,Id,Iw,w]
  ·have c1E:ilt (a:Int) (ins.length:Int) = false:=by rw [qf];simp;omega
   simp only [sB.1,qi6,seval,ht,E,B,c1E] at he
   subst he
   rw [List.drop_eq_nil_of_le ha] at hf
   exact .inr ⟨_,_,rfl,by simp,_,rfl,Y0,.inl ⟨rfl,hf⟩⟩
 generalize hw:Wd _ _ g = w
 rw [qi 25 c25] at hw
 simp only [sA.1,c25,seval,hR,hb,hlt,x1,x2,Id,Is,Iw,Il,d,st,ak,af,ae,ad] at hw
 generalize hr:qm g.length Wd (.loop qi6) _ = r at hw
 obtain ⟨x,U,rfl,tt,rfl,ht,⟨rfl,hf⟩ | ⟨rfl,e4⟩⟩:=known hr (loop ins.length _ ⟨_,0,by rw [hG],X1,X1,by simp only [sB.1,seval,Id],X1,X2,zo,rfl⟩)
 ·rw [hf]
  simp only [sB.1,seval,ht] at hw
  subst hw
  exact congrArg some (q6 aa rfl)
 ·simp only [sB.1,seval,ht,e4] at hw
  subst hw
  exact congrArg some (q6 aa rfl)
theorem Ins.cho {op:Int} {ins:List Int} {I:qa} (h:Ins H ins I) (hc:Cho op ins):∃id,I = .sl id 0 ins.length ins.length 1/\H id = some (.cells (ins.map cI)):=by
 rcases h with ⟨rfl,rfl⟩ | ⟨id,rfl,hid⟩
 ·rcases hc with ⟨_,a,b,c,e⟩ | ⟨_,a,b,e⟩ | ⟨_,a,b,e⟩ <;> cases e
 ·exact ⟨id,rfl,hid⟩
theorem qri (R D N:Nat) (dn:Int->Bool) (ev:Int->Res) (ns:List Nd) {TV VL BV OL:qa} {en ed:Int} (hR:R < g.length) (hb:g[R]? = some (.cells [TV,VL,BV,.int .i64 en,.int .i64 ed,OL,.sl D 0 N N 0])) (hg:Cov H g) (hT:qeF H ns TV) (hD:qcj H g D N dn ev) (i:Nat) (hi:i < ns.length) (hc:Cho ns[i].op ns[i].ins) (ah:∀j ∈ ns[i].ins,0 <= j/\j < N) :
  Wd (.fn 25 [] []) [.ptr R 0,.int .i64 (i:Nat)] g = some (.ret (.int .i64 (qds ns[i].op ns[i].ins dn ev)),g,false):=by
 obtain ⟨av,I,au,hlt,x1,x2,hI⟩:=hT.item hi hg
 subst au
 obtain ⟨Id,Is,Iw,Il⟩:=hI.facts
 generalize ns[i] = nd at *
 obtain ⟨op,n,nm,sb,pl,ins⟩:=nd
 simp only at *
 obtain ⟨a8,rfl,ab⟩:=hI.cho hc
 have E:=hg.lt ab
 have J:=hg _ _ ab
 have d:∀id o n c w:Nat,(qa.sl id o n c w).dim = .sl id o n c w:=λ_ _ _ _ _=>rfl
 have st:∀id o n c w:Nat,(qa.sl id o n c w).storable = true:=λ_ _ _ _ _=>rfl
 have dw:∀id o n c w i t,qo (qa.sl id o n c w) i t = t:=λ_ _ _ _ _ _ _=>rfl
 have S:Nat.ble g.length g.length = true:=qe zo
 have z0:qhs 0 false .nilptr .nilptr = some (.bool true):=xk
 have z1:∀q,qhs 0 false (.ptr q 0) .nilptr = some (.bool false):=λ_=>xk
 obtain ⟨ds,D0,D1,D2,D3⟩:=hD
 have ar:qoc op = true/\(op == 23 || op == 24 || op == 25) = true:=by rcases hc with ⟨rfl,_⟩ | ⟨rfl,_⟩ | ⟨rfl,_⟩ <;> decide
 have ae:(op == 23) = true\/((op == 23) = false/\(op == 24) = true)\/((op == 23) = false/\(op == 24) = false/\(op == 25) = true):=by rcases hc with ⟨rfl,_⟩ | ⟨rfl,_⟩ | ⟨rfl,_⟩ <;> decide
 obtain ⟨i0,ap,ac,B⟩ :∃i:Nat,ins.getD 0 0 = (i:Int)/\i < N/\(ins.map cI)[0]? = some (cI (i:Int)):=by
  rcases hc with ⟨_,a,b,c,rfl⟩ | ⟨_,a,b,rfl⟩ | ⟨_,a,b,rfl⟩ <;>
  ·have:=ah a (by simp)
   refine ⟨a.toNat,?_,zo,?_⟩
   ·simp;omega
   ·simp only [List.map_cons,List.getElem?_cons_zero,cI]
    rw [Int.toNat_of_nonneg this.1]
 have ak:0 < ins.length:=by rcases hc with ⟨_,a,b,c,rfl⟩ | ⟨_,a,b,rfl⟩ | ⟨_,a,b,rfl⟩ <;> simp
 have m0:qaW 1 (.sl a8 0 ins.length ins.length 1) (.int .i64 0) = some (.ptr a8 0):=qcC (i:=0) (k:=1) ak
 have mD:∀i:Nat,i < N->qaW 1 (.sl D 0 N N 0) (.int .i64 (i:Nat)) = some (.ptr D i):=λi h=>by rw [qcC h,Nat.mul_one]
 have M:=mD i0 ac
 rw [qds,ar.1,cond_true]
 simp only [ap]
 cases aj:dn (i0:Int) with
 | false=>
  have e0:=(D3 i0 ac).1 aj
  rw [j3,cond_true]
  rw [qi 25 c25]
  rcases ae with k1 | ⟨k1,k2⟩ | ⟨k1,k2,k3⟩
  ·simp only [sA.1,c25,seval,hR,hb,hlt,x1,x2,d,st,dw,S,k1,E,J,D0,D1,m0,B,M,e0,z0,z1,cI,jO]
  ·simp only [sA.1,c25,seval,hR,hb,hlt,x1,x2,d,st,dw,S,k1,k2,E,J,D0,D1,m0,B,M,e0,z0,z1,cI,jO]
  ·simp only [sA.1,c25,seval,hR,hb,hlt,x1,x2,d,st,dw,S,k1,k2,k3,E,J,D0,D1,m0,B,M,e0,z0,z1,cI,jO]
 | true=>
  obtain ⟨q0,ay,e0,af,am⟩:=(D3 i0 ac).2 aj
  have a6:=hg.lt af
  have a7:=hg _ _ af
  rw [j0,cond_false]
  generalize aA:ev i0 = r0 at *
  obtain ⟨v0,x0⟩:=r0
  obtain ⟨k,m,s,l,L,hv,rfl,hL⟩:=am.cells
  obtain ⟨Ld,Ls,Lw,Ll⟩:=hL.facts
  have aB:=hL.low hg
  simp only at hv
  subst hv
  have a1:=qjz (g:=g ++ [.cells [.int .i64 op,.int .i64 n,.str nm,.str sb,.int .i64 pl,.sl a8 0 ins.length ins.length 1]]) (.ptr R 0) op n nm sb pl a8 ins hc (by simp;omega) (by rw [ja E];exact J) k m s L x0 Ld Ls l rfl
  have aa:=qdq hc (.mk k m s l,x0)
  generalize qas op ins (.mk k m s l,x0) = sc at *
  cases U:ile 0 sc with
  | false=>
   rw [Bool.false_and,cond_false]
   rw [qi 25 c25]
   rcases ae with k1 | ⟨k1,k2⟩ | ⟨k1,k2,k3⟩
   ·simp only [sA.1,c25,seval,hR,hb,hlt,x1,x2,d,st,dw,S,k1,E,J,D0,D1,m0,B,M,e0,z0,z1,cI,a6,a7,Ld,Ls,Lw,a1,U,jO]
   ·simp only [sA.1,c25,seval,hR,hb,hlt,x1,x2,d,st,dw,S,k1,k2,E,J,D0,D1,m0,B,M,e0,z0,z1,cI,a6,a7,Ld,Ls,Lw,a1,U,jO]
   ·simp only [sA.1,c25,seval,hR,hb,hlt,x1,x2,d,st,dw,S,k1,k2,k3,E,J,D0,D1,m0,B,M,e0,z0,z1,cI,a6,a7,Ld,Ls,Lw,a1,U,jO]
  | true=>
   have az:0 <= sc:=by rw [qaT] at U;simpa using U
   have aa:sc ∈ ins:=by
    rcases aa with e | e
    ·omega
    ·exact e
   obtain ⟨i1,rfl⟩ :∃i:Nat,sc = (i:Int):=⟨sc.toNat,zo⟩
   have ad:i1 < N:=by have:=ah _ aa;omega
   have al:=mD i1 ad
   rw [Bool.true_and]
   have hz:∃p,ds[i1]? = some p/\p.dim = p/\(∀i t,qo p i t = t)/\qhs 0 false p .nilptr = some (.bool (!(dn (i1:Int)))):=by
    cases ai:dn (i1:Int) with
    | false=>exact ⟨_,(D3 i1 ad).1 ai,rfl,λ_ _=>rfl,xk⟩
    | true=>
     obtain ⟨q,rs,e,_⟩:=(D3 i1 ad).2 ai
     exact ⟨_,e,rfl,λ_ _=>rfl,z1 q⟩
   obtain ⟨p,e1,pd,pw,pz⟩:=hz
   generalize dn (i1:Int) = b at *
   rw [qi 25 c25]
   have k2:=True.intro
   have k3:=True.intro
   rcases ae with k1 | ⟨k1,k2⟩ | ⟨k1,k2,k3⟩ <;> cases b <;>
   simp only [sA.1,c25,seval,hR,hb,hlt,x1,x2,d,st,dw,S,k1,k2,k3,E,J,D0,D1,m0,B,M,al,e0,e1,pd,pw,pz,z0,z1,cI,a6,a7,Ld,Ls,Lw,a1,U,jO,j3,j0,cond_true,cond_false]
end
section
variable {h:List qb} {id:Nat} {z z':Str} {L L':qa} (Ld:L.dim = L) (Ls:L.storable = true) (Ld':L'.dim = L') (Ls':L'.storable = true) (hlt:id < h.length)
include Ld Ls Ld' Ls' hlt in
theorem qsn {a b:Int} (hid:h[id]? = some (.cells [.int .i64 0,.int .i64 a,.str z,L,.int .i64 0,.int .i64 b,.str z',L'])) {q:Bool} (hq:(ilt a (IntKind.i64.wrap (a + b)) == ilt 0 b) = q):Wd (.fn 57 [] []) [.int .i64 15,.sl id 0 2 2 4] h = some (.ret (bif q then rI (IntKind.i64.wrap (a + b)) 0 else rI 0 2),h,false):=by
 have J:qaW 4 (.sl id 0 2 2 4) (.int .i64 0) = some (.ptr id 0):=xk
 have I:qaW 4 (.sl id 0 2 2 4) (.int .i64 1) = some (.ptr id 4):=xk
 have M:qaW 4 (.sl id 0 1 1 4) (.int .i64 0) = some (.ptr id 0):=xk
 have B:qbG false (.sl id 0 2 2 4) = some (.int .i64 2):=xk
 have E:qbG false (.sl id 0 1 1 4) = some (.int .i64 1):=xk
 have S:∀id o n c w i t,qo (qa.sl id o n c w) i t = t:=λ_ _ _ _ _ _ _=>rfl
 have a6:Nat.ble h.length (h.length + 1) = true:=qe zo
 have a1:Nat.ble h.length (h.length + 2) = true:=qe zo
 have U:∀id o n c w:Nat,(qa.sl id o n c w).dim = .sl id o n c w:=λ_ _ _ _ _=>rfl
 rw [qi 57 c57]
 cases q <;> simp only [sA.1,c57,qfo,seval,qaG,J,I,M,U,S,B,E,a6,a1,hlt,hid,Ld,Ls,Ld',Ls',hq,c2E,k02,k12,k22,w1E,w2E,btf,bff,qbb,qaP,rI]
include Ld Ls Ld' Ls' hlt in
theorem qss {a b:Int} (hid:h[id]? = some (.cells [.int .i64 0,.int .i64 a,.str z,L,.int .i64 0,.int .i64 b,.str z',L'])) {q:Bool} (hq:(ilt (IntKind.i64.wrap (a - b)) a == ilt 0 b) = q):Wd (.fn 57 [] []) [.int .i64 16,.sl id 0 2 2 4] h = some (.ret (bif q then rI (IntKind.i64.wrap (a - b)) 0 else rI 0 2),h,false):=by
 have J:qaW 4 (.sl id 0 2 2 4) (.int .i64 0) = some (.ptr id 0):=xk
 have I:qaW 4 (.sl id 0 2 2 4) (.int .i64 1) = some (.ptr id 4):=xk
 have M:qaW 4 (.sl id 0 1 1 4) (.int .i64 0) = some (.ptr id 0):=xk
 have B:qbG false (.sl id 0 2 2 4) = some (.int .i64 2):=xk
 have E:qbG false (.sl id 0 1 1 4) = some (.int .i64 1):=xk
 have S:∀id o n c w i t,qo (qa.sl id o n c w) i t = t:=λ_ _ _ _ _ _ _=>rfl
 have a6:Nat.ble h.length (h.length + 1) = true:=qe zo
 have a1:Nat.ble h.length (h.length + 2) = true:=qe zo
 have U:∀id o n c w:Nat,(qa.sl id o n c w).dim = .sl id o n c w:=λ_ _ _ _ _=>rfl
 rw [qi 57 c57]
 cases q <;> simp only [sA.1,c57,qfo,seval,qaG,J,I,M,U,S,B,E,a6,a1,hlt,hid,Ld,Ls,Ld',Ls',hq,c2E,k02,k12,k22,w1E,w2E,btf,bff,qbb,qaP,rI]
include Ld Ls Ld' Ls' hlt in
theorem qsq {a b:Int} (hid:h[id]? = some (.cells [.int .i64 0,.int .i64 a,.str z,L,.int .i64 0,.int .i64 b,.str z',L'])) {r:qa} (hp:Wd (.fn 82 [] []) [.int .i64 a,.int .i64 b] (h ++ [.cells [.int .i64 0,.int .i64 0,.str [],.lst [] .full,.int .i64 0],.cells [.int .i64 0,.int .i64 a,.str z,L],.cells [.int .i64 0,.int .i64 b,.str z',L']]) = some (.ret r,(h ++ [.cells [.int .i64 0,.int .i64 0,.str [],.lst [] .full,.int .i64 0],.cells [.int .i64 0,.int .i64 a,.str z,L],.cells [.int .i64 0,.int .i64 b,.str z',L']]),false)) {n e:Int} (hr:r = rI n e):Wd (.fn 57 [] []) [.int .i64 17,.sl id 0 2 2 4] h = some (.ret (rI n e),h,false):=by
 have J:qaW 4 (.sl id 0 2 2 4) (.int .i64 0) = some (.ptr id 0):=xk
 have I:qaW 4 (.sl id 0 2 2 4) (.int .i64 1) = some (.ptr id 4):=xk
 have M:qaW 4 (.sl id 0 1 1 4) (.int .i64 0) = some (.ptr id 0):=xk
 have B:qbG false (.sl id 0 2 2 4) = some (.int .i64 2):=xk
 have E:qbG false (.sl id 0 1 1 4) = some (.int .i64 1):=xk
 have S:∀id o n c w i t,qo (qa.sl id o n c w) i t = t:=λ_ _ _ _ _ _ _=>rfl
 have a6:Nat.ble h.length (h.length + 1) = true:=qe zo
 have a1:Nat.ble h.length (h.length + 2) = true:=qe zo
 have U:∀id o n c w:Nat,(qa.sl id o n c w).dim = .sl id o n c w:=λ_ _ _ _ _=>rfl
 rw [qi 57 c57]
 subst hr
 simp only [sA.1,c57,qfo,seval,qaG,J,I,M,U,S,B,E,a6,a1,hlt,hid,Ld,Ls,Ld',Ls',hp,c2E,k02,k12,k22,w1E,w2E,btf,bff,qbb,qaP,rI]
include Ld Ls Ld' Ls' hlt in
theorem qnV {a b:Int} (hid:h[id]? = some (.cells [.int .i64 0,.int .i64 a,.str z,L,.int .i64 0,.int .i64 b,.str z',L'])) (hb:(b == 0) = true):Wd (.fn 57 [] []) [.int .i64 18,.sl id 0 2 2 4] h = some (.ret (rI 0 3),h,false):=by
 have J:qaW 4 (.sl id 0 2 2 4) (.int .i64 0) = some (.ptr id 0):=xk
 have I:qaW 4 (.sl id 0 2 2 4) (.int .i64 1) = some (.ptr id 4):=xk
 have M:qaW 4 (.sl id 0 1 1 4) (.int .i64 0) = some (.ptr id 0):=xk
 have B:qbG false (.sl id 0 2 2 4) = some (.int .i64 2):=xk
 have E:qbG false (.sl id 0 1 1 4) = some (.int .i64 1):=xk
 have S:∀id o n c w i t,qo (qa.sl id o n c w) i t = t:=λ_ _ _ _ _ _ _=>rfl
 have a6:Nat.ble h.length (h.length + 1) = true:=qe zo
 have a1:Nat.ble h.length (h.length + 2) = true:=qe zo
 have U:∀id o n c w:Nat,(qa.sl id o n c w).dim = .sl id o n c w:=λ_ _ _ _ _=>rfl
 rw [qi 57 c57]
 simp only [sA.1,c57,qfo,seval,qaG,J,I,M,U,S,B,E,a6,a1,hlt,hid,Ld,Ls,Ld',Ls',hb,c2E,k02,k12,k22,w1E,w2E,btf,bff,qbb,qaP,rI]
include Ld Ls Ld' Ls' hlt in
theorem qso {a b:Int} (hid:h[id]? = some (.cells [.int .i64 0,.int .i64 a,.str z,L,.int .i64 0,.int .i64 b,.str z',L'])) (hb:(b == 0) = false) (a1:(b = 0) = False) {q:Bool} (hq:(!(a == -9223372036854775808) || !(b == -1)) = q):Wd (.fn 57 [] []) [.int .i64 18,.sl id 0 2 2 4] h = some (.ret (bif q then rI (IntKind.i64.wrap (a.tdiv b)) 0 else rI 0 2),h,false):=by
 have J:qaW 4 (.sl id 0 2 2 4) (.int .i64 0) = some (.ptr id 0):=xk
 have I:qaW 4 (.sl id 0 2 2 4) (.int .i64 1) = some (.ptr id 4):=xk
 have M:qaW 4 (.sl id 0 1 1 4) (.int .i64 0) = some (.ptr id 0):=xk
 have B:qbG false (.sl id 0 2 2 4) = some (.int .i64 2):=xk
 have E:qbG false (.sl id 0 1 1 4) = some (.int .i64 1):=xk
 have S:∀id o n c w i t,qo (qa.sl id o n c w) i t = t:=λ_ _ _ _ _ _ _=>rfl
 have a7:Nat.ble h.length (h.length + 1) = true:=qe zo
 have a6:Nat.ble h.length (h.length + 2) = true:=qe zo
 have U:∀id o n c w:Nat,(qa.sl id o n c w).dim = .sl id o n c w:=λ_ _ _ _ _=>rfl
 rw [qi 57 c57]
 cases q <;> simp only [sA.1,c57,qfo,seval,qaG,J,I,M,U,S,B,E,a7,a6,hlt,hid,Ld,Ls,Ld',Ls',hb,a1,hq,c2E,k02,k12,k22,w1E,w2E,btf,bff,qbb,qaP,rI]
include Ld Ls Ld' Ls' hlt in
theorem qnW {a b:Int} (hid:h[id]? = some (.cells [.int .i64 0,.int .i64 a,.str z,L,.int .i64 0,.int .i64 b,.str z',L'])) (hb:(b == 0) = true):Wd (.fn 57 [] []) [.int .i64 19,.sl id 0 2 2 4] h = some (.ret (rI 0 3),h,false):=by
 have J:qaW 4 (.sl id 0 2 2 4) (.int .i64 0) = some (.ptr id 0):=xk
 have I:qaW 4 (.sl id 0 2 2 4) (.int .i64 1) = some (.ptr id 4):=xk
 have M:qaW 4 (.sl id 0 1 1 4) (.int .i64 0) = some (.ptr id 0):=xk
 have B:qbG false (.sl id 0 2 2 4) = some (.int .i64 2):=xk
 have E:qbG false (.sl id 0 1 1 4) = some (.int .i64 1):=xk
 have S:∀id o n c w i t,qo (qa.sl id o n c w) i t = t:=λ_ _ _ _ _ _ _=>rfl
 have a6:Nat.ble h.length (h.length + 1) = true:=qe zo
 have a1:Nat.ble h.length (h.length + 2) = true:=qe zo
 have U:∀id o n c w:Nat,(qa.sl id o n c w).dim = .sl id o n c w:=λ_ _ _ _ _=>rfl
 rw [qi 57 c57]
 simp only [sA.1,c57,qfo,seval,qaG,J,I,M,U,S,B,E,a6,a1,hlt,hid,Ld,Ls,Ld',Ls',hb,c2E,k02,k12,k22,w1E,w2E,btf,bff,qbb,qaP,rI]
include Ld Ls Ld' Ls' hlt in
theorem qnX {a b:Int} (hid:h[id]? = some (.cells [.int .i64 0,.int .i64 a,.str z,L,.int .i64 0,.int .i64 b,.str z',L'])) (hb:(b == 0) = false) (a1:(b == -1) = true):Wd (.fn 57 [] []) [.int .i64 19,.sl id 0 2 2 4] h = some (.ret (rI 0 0),h,false):=by
 have J:qaW 4 (.sl id 0 2 2 4) (.int .i64 0) = some (.ptr id 0):=xk
 have I:qaW 4 (.sl id 0 2 2 4) (.int .i64 1) = some (.ptr id 4):=xk
 have M:qaW 4 (.sl id 0 1 1 4) (.int .i64 0) = some (.ptr id 0):=xk
 have B:qbG false (.sl id 0 2 2 4) = some (.int .i64 2):=xk
 have E:qbG false (.sl id 0 1 1 4) = some (.int .i64 1):=xk
 have S:∀id o n c w i t,qo (qa.sl id o n c w) i t = t:=λ_ _ _ _ _ _ _=>rfl
 have a7:Nat.ble h.length (h.length + 1) = true:=qe zo
 have a6:Nat.ble h.length (h.length + 2) = true:=qe zo
 have U:∀id o n c w:Nat,(qa.sl id o n c w).dim = .sl id o n c w:=λ_ _ _ _ _=>rfl
 rw [qi 57 c57]
 simp only [sA.1,c57,qfo,seval,qaG,J,I,M,U,S,B,E,a7,a6,hlt,hid,Ld,Ls,Ld',Ls',hb,a1,c2E,k02,k12,k22,w1E,w2E,btf,bff,qbb,qaP,rI]
include Ld Ls Ld' Ls' hlt in
theorem qsp {a b:Int} (hid:h[id]? = some (.cells [.int .i64 0,.int .i64 a,.str z,L,.int .i64 0,.int .i64 b,.str z',L'])) (hb:(b == 0) = false) (a6:(b = 0) = False) (a1:(b == -1) = false):Wd (.fn 57 [] []) [.int .i64 19,.sl id 0 2 2 4] h = some (.ret (rI (a.tmod b) 0),h,false):=by
 have J:qaW 4 (.sl id 0 2 2 4) (.int .i64 0) = some (.ptr id 0):=xk
 have I:qaW 4 (.sl id 0 2 2 4) (.int .i64 1) = some (.ptr id 4):=xk
 have M:qaW 4 (.sl id 0 1 1 4) (.int .i64 0) = some (.ptr id 0):=xk
 have B:qbG false (.sl id 0 2 2 4) = some (.int .i64 2):=xk
 have E:qbG false (.sl id 0 1 1 4) = some (.int .i64 1):=xk
 have S:∀id o n c w i t,qo (qa.sl id o n c w) i t = t:=λ_ _ _ _ _ _ _=>rfl
 have a8:Nat.ble h.length (h.length + 1) = true:=qe zo
 have a7:Nat.ble h.length (h.length + 2) = true:=qe zo
 have U:∀id o n c w:Nat,(qa.sl id o n c w).dim = .sl id o n c w:=λ_ _ _ _ _=>rfl
 rw [qi 57 c57]
 simp only [sA.1,c57,qfo,seval,qaG,J,I,M,U,S,B,E,a8,a7,hlt,hid,Ld,Ls,Ld',Ls',hb,a6,a1,c2E,k02,k12,k22,w1E,w2E,btf,bff,qbb,qaP,rI]
include Ld Ls Ld' Ls' hlt in
theorem qhK {k k' a b op:Int} (hid:h[id]? = some (.cells [.int .i64 k,.int .i64 a,.str z,L,.int .i64 k',.int .i64 b,.str z',L'])) (hk:(k == 0) = false\/((k == 0) = true/\(k' == 0) = false)):Wd (.fn 57 [] []) [.int .i64 op,.sl id 0 2 2 4] h = some (.ret (rI 0 1),h,false):=by
 have J:qaW 4 (.sl id 0 2 2 4) (.int .i64 0) = some (.ptr id 0):=xk
 have I:qaW 4 (.sl id 0 2 2 4) (.int .i64 1) = some (.ptr id 4):=xk
 have M:qaW 4 (.sl id 0 1 1 4) (.int .i64 0) = some (.ptr id 0):=xk
 have B:qbG false (.sl id 0 2 2 4) = some (.int .i64 2):=xk
 have E:qbG false (.sl id 0 1 1 4) = some (.int .i64 1):=xk
 have S:∀id o n c w i t,qo (qa.sl id o n c w) i t = t:=λ_ _ _ _ _ _ _=>rfl
 have a6:Nat.ble h.length (h.length + 1) = true:=qe zo
 have a1:Nat.ble h.length (h.length + 2) = true:=qe zo
 have U:∀id o n c w:Nat,(qa.sl id o n c w).dim = .sl id o n c w:=λ_ _ _ _ _=>rfl
 rw [qi 57 c57]
 rcases hk with c | ⟨c,c'⟩
 ·simp only [sA.1,c57,qfo,seval,qaG,J,I,M,U,S,B,E,a6,a1,hlt,hid,Ld,Ls,Ld',Ls',c,c2E,k02,k12,k22,w1E,w2E,qbb,qaP,rI]
 ·simp only [sA.1,c57,qfo,seval,qaG,J,I,M,U,S,B,E,a6,a1,hlt,hid,Ld,Ls,Ld',Ls',c,c',c2E,k02,k12,k22,w1E,w2E,qbb,qaP,rI]
include Ld Ls hlt in
theorem qnU {k b op:Int} (hid:h[id]? = some (.cells [.int .i64 k,.int .i64 b,.str z,L])) (hk:(k == 0) = false):Wd (.fn 57 [] []) [.int .i64 op,.sl id 0 1 1 4] h = some (.ret (rI 0 1),h,false):=by
 have a7:qaW 4 (.sl id 0 2 2 4) (.int .i64 0) = some (.ptr id 0):=xk
 have a6:qaW 4 (.sl id 0 2 2 4) (.int .i64 1) = some (.ptr id 4):=xk
 have E:qaW 4 (.sl id 0 1 1 4) (.int .i64 0) = some (.ptr id 0):=xk
 have a1:qbG false (.sl id 0 2 2 4) = some (.int .i64 2):=xk
 have B:qbG false (.sl id 0 1 1 4) = some (.int .i64 1):=xk
 have I:∀id o n c w i t,qo (qa.sl id o n c w) i t = t:=λ_ _ _ _ _ _ _=>rfl
 have U:Nat.ble h.length (h.length + 1) = true:=qe zo
 have S:Nat.ble h.length (h.length + 2) = true:=qe zo
 have J:∀id o n c w:Nat,(qa.sl id o n c w).dim = .sl id o n c w:=λ_ _ _ _ _=>rfl
 have M:ilt 0 1 = true:=Eq.trans rfl rfl
 rw [qi 57 c57]
 simp only [sA.1,c57,qfo,seval,qaG,E,J,I,B,U,S,hlt,hid,Ld,Ls,hk,c2E,c1E,M,k12,w1E,w2E,qbb,qaP,rI]
include Ld Ls hlt in
theorem qsr {b:Int} (hid:h[id]? = some (.cells [.int .i64 0,.int .i64 b,.str z,L])) {q:Bool} (hq:(ilt (IntKind.i64.wrap (0 - b)) 0 == ilt 0 b) = q):Wd (.fn 57 [] []) [.int .i64 13,.sl id 0 1 1 4] h = some (.ret (bif q then rI (IntKind.i64.wrap (0 - b)) 0 else rI 0 2),h,false):=by
 have a8:qaW 4 (.sl id 0 2 2 4) (.int .i64 0) = some (.ptr id 0):=xk
 have a7:qaW 4 (.sl id 0 2 2 4) (.int .i64 1) = some (.ptr id 4):=xk
 have E:qaW 4 (.sl id 0 1 1 4) (.int .i64 0) = some (.ptr id 0):=xk
 have a6:qbG false (.sl id 0 2 2 4) = some (.int .i64 2):=xk
 have B:qbG false (.sl id 0 1 1 4) = some (.int .i64 1):=xk
 have I:∀id o n c w i t,qo (qa.sl id o n c w) i t = t:=λ_ _ _ _ _ _ _=>rfl
 have a1:Nat.ble h.length (h.length + 1) = true:=qe zo
 have U:Nat.ble h.length (h.length + 2) = true:=qe zo
 have J:∀id o n c w:Nat,(qa.sl id o n c w).dim = .sl id o n c w:=λ_ _ _ _ _=>rfl
 have S:ilt 0 1 = true:=Eq.trans rfl rfl
 have M:ilt 1 1 = false:=Eq.trans rfl rfl
 have n12:((1:Int) == 2) = false:=Eq.trans rfl rfl
 rw [qi 57 c57]
 cases q <;> simp only [sA.1,c57,qfo,seval,qaG,E,J,I,B,a1,U,hlt,hid,Ld,Ls,hq,c2E,c1E,S,M,n12,k12,w1E,w2E,btf,bff,qbb,qaP,rI]
include Ld Ls Ld' Ls' hlt in
theorem qvt {a b:Int} (hid:h[id]? = some (.cells [.int .i64 0,.int .i64 a,.str z,L,.int .i64 0,.int .i64 b,.str z',L'])) (ha:I64 a) (hb:I64 b) {op:Int} (hop:op = 15\/op = 16\/op = 17\/op = 18\/op = 19):Wd (.fn 57 [] []) [.int .i64 op,.sl id 0 2 2 4] h = some (.ret (rI (qcV op a b).1 (qcV op a b).2),h,false):=by
 rcases hop with rfl | rfl | rfl | rfl | rfl
 ·rw [qsn Ld Ls Ld' Ls' hlt hid (qCF ha hb),qjo rfl λhf=>qfd (qbz.1 hf)]
  rfl
 ·rw [qss Ld Ls Ld' Ls' hlt hid (qBW ha hb),qjo rfl λhf=>qfd (qbz.1 hf)]
  rfl
 ·exact qsq Ld Ls Ld' Ls' hlt hid (qnI ha hb) rfl
 ·by_cases h0:b = 0
  ·subst h0;exact qnV Ld Ls Ld' Ls' hlt hid rfl
  ·rw [qso Ld Ls Ld' Ls' hlt hid (qiw h0).1 (qiw h0).2 (qCV ha hb h0),qjo rfl λhf=>qfd (qbz.1 hf)]
   simp [qcV,h0]
 ·by_cases h0:b = 0
  ·subst h0;exact qnW Ld Ls Ld' Ls' hlt hid rfl
  ·cases h1:b == -1 with
   | true=>
    rw [qnX Ld Ls Ld' Ls' hlt hid (qiw h0).1 h1]
    have h1:b = -1:=by simpa using h1
    subst h1
    simp [qcV,Int.tmod_neg]
   | false=>
    rw [qsp Ld Ls Ld' Ls' hlt hid (qiw h0).1 (qiw h0).2 h1]
    simp [qcV,h0]
include Ld Ls hlt in
theorem qyM {b:Int} (hid:h[id]? = some (.cells [.int .i64 0,.int .i64 b,.str z,L])) (hb:I64 b):Wd (.fn 57 [] []) [.int .i64 13,.sl id 0 1 1 4] h = some (.ret (rI (qcV 16 0 b).1 (qcV 16 0 b).2),h,false):=by
 rw [qsr Ld Ls hlt hid (qBW ⟨zo,zo⟩ hb),qjo rfl λhf=>qfd (qbz.1 hf)]
 rfl
end
def VSl (H:Nat->Option qb) (G:List qb) (b:Nat) (ts:List Val) (V:qa):Prop:=(ts = []/\V = .lst [] .full)\/∃(id:Nat) (rs:List (List qa)),V = .sl id 0 ts.length ts.length 4/\b <= id/\ts ≠ []/\G[id]? = some (.cells rs.flatten)/\H id = none/\rs.length = ts.length/\∀(i:Nat) (h:i < ts.length) (h':i < rs.length),At H ts[i] rs[i]
theorem VSl.facts {H:Nat->Option qb} {G:List qb} {b:Nat} {ts:List Val} {V:qa} (h:VSl H G b ts V):V.dim = V/\V.storable = true/\(∀i t,qo V i t = t)/\qbG false V = some (.int .i64 (ts.length:Nat)):=by
 rcases h with ⟨rfl,rfl⟩ | ⟨id,rs,rfl,_⟩ <;> exact ⟨rfl,rfl,λ_ _=>rfl,rfl⟩
theorem VSl.keep {H H':Nat->Option qb} {G G':List qb} {b:Nat} {ts:List Val} {V:qa} (h:VSl H G b ts V) (hs:Sub H H') (hn:∀i,i < G.length->H i = none->H' i = none) (hg:∀i,b <= i->i < G.length->G'[i]? = G[i]?):VSl H' G' b ts V:=by
 rcases h with h | ⟨id,rs,e,h1,h2,h3,h4,h5,h6⟩
 ·exact .inl h
 ·have hlt:id < G.length:=(je.1 h3).1
  exact .inr ⟨id,rs,e,h1,h2,by rw [hg id h1 hlt];exact h3,hn id hlt h4,h5,λi a c=>(h6 i a c).mono hs⟩
theorem VSl.next {H:Nat->Option qb} {G:List qb} {b base:Nat} {ts:List Val} {V:qa} (h:VSl H G b ts V) (hc:Cov H G) (hb:b <= G.length) (hl:ts.length <= 100000) {t:Val} {row:List qa} (ht:At H t row) :
  ∃G',hop base (.app 4) [V,.sl G.length 0 1 1 0] (G ++ [.cells row]) = some (.sl (G.length + 1) 0 (ts.length + 1) (ts.length + 1) 4,G',false)/\VSl H G' b (ts ++ [t]) (.sl (G.length + 1) 0 (ts.length + 1) (ts.length + 1) 4)/\Cov H G'/\G'.length = G.length + 2/\∀i,i < b->G'[i]? = G[i]?:=by
 have h2:(G ++ [qb.cells row])[G.length]? = some (.cells row):=by rw [qF];rfl
 have B:(G ++ [qb.cells row]).length = G.length + 1:=by simp
 have E:H (G.length + 1) = none:=hc.late zo
 have tl:(ts ++ [t]).length = ts.length + 1:=by simp
 rcases h with ⟨rfl,rfl⟩ | ⟨id,rs,rfl,h1,a6,h3,h4,h5,h6⟩
 ·refine ⟨_,by rw [qct h2 ht.length ht.still,B];rfl,.inr ⟨G.length + 1,[row],rfl,zo,by simp,?_,E,rfl,λi a c=>?_⟩,(hc.more _).more _,by simp,λi hi=>?_⟩
  ·rw [<-B,qF]
   simp
  ·have:i = 0:=by simp at c;omega
   subst this
   exact ht
  ·rw [List.append_assoc,ja zo]
 ·have hlt:id < G.length:=(je.1 h3).1
  have M:(G ++ [qb.cells row])[id]? = some (.cells rs.flatten):=by rw [ja hlt];exact h3
  have J:=(At.elem h5 h6).1
  have I:qbY rs.flatten:=λc S=>by
   obtain ⟨r,hr,U⟩:=List.mem_flatten.1 S
   obtain ⟨i,hi,rfl⟩:=List.getElem_of_mem hr
   exact (h6 i zo hi).still c U
  have a1:rs.flatten.length = ts.length * 4:=by rw [qdl J,h5]
  refine ⟨_,by rw [qdj M h2 ht.length a1 ht.still I zo zo,B],.inr ⟨G.length + 1,rs ++ [row],by rw [tl],zo,by simp,?_,E,by simp [h5],λi a c=>?_⟩,((hc.more _).set h4 _).more _,by simp,λi hi=>?_⟩
  ·rw [show G.length + 1 = ((G ++ [qb.cells row]).set id .dead).length by simp,qF]
   simp
  ·by_cases hi:i < ts.length
   ·rw [List.getElem_append_left hi,List.getElem_append_left zo]
    exact h6 i hi zo
   ·have:i = ts.length:=by simp at a;omega
    subst this
    rw [List.getElem_append_right zo,List.getElem_append_right zo]
    simp only [h5,Nat.sub_self,List.getElem_cons_zero]
    exact ht
  ·rw [ja (by simp;omega),List.getElem?_set_ne zo,ja zo]
theorem VSl.lp {H H':Nat->Option qb} {G:List qb} {b:Nat} {ts:List Val} {V:qa} (h:VSl H G b ts V) (hs:Sub H H') (hg:∀i,b <= i->i < G.length->H i = none->H' i = G[i]?):LP H' ts V:=by
 rcases h with ⟨rfl,rfl⟩ | ⟨id,rs,rfl,h1,h2,h3,h4,h5,h6⟩
 ·exact LP.nil (.inr rfl)
 ·exact ⟨rs,h5,λi a c=>(h6 i a c).mono hs,.inr ⟨id,4,rfl,by rw [hg id h1 (je.1 h3).1 h4];exact h3⟩⟩
theorem qzY (base:Nat) (k n:Int) (s:Str) (L:qa) (hd:L.dim = L) (hs:L.storable = true) (h:List qb):hop base (.lit 4 [.int .i64 0,.int .i64 0,.str [],.lst [] .full] 1 [0]) [.agg [.int .i64 k,.int .i64 n,.str s,L]] h = some (.sl h.length 0 1 1 0,h ++ [.cells [.int .i64 k,.int .i64 n,.str s,L]],false):=by
 have s1:∀(j:IntKind) (x:Int),(qa.int j x).storable = true:=λ_ _=>rfl
 have d1:∀(j:IntKind) (x:Int),(qa.int j x).dim = .int j x:=λ_ _=>rfl
 have s2:∀x,(qa.str x).storable = true:=λ_=>rfl
 have d2:∀x,(qa.str x).dim = .str x:=λ_=>rfl
 simp [hop,q8,qa.cells,splice,hs,hd,s1,d1,s2,d2]
def qcT (ev:Int->Res) (k:List Val->Res):List Int->List Val->Res
 | [],vs=>k vs
 | j :: js,vs=>bif !((ev j).2 == 0) then ev j else qcT ev k js (vs ++ [(ev j).1])
theorem ql3 {ev:Int->Res} {k:List Val->Res} {l:List Int} {i:Nat} {vs:List Val} (hi:i < l.length):qcT ev k (l.drop i) vs = bif !((ev l[i]).2 == 0) then ev l[i] else qcT ev k (l.drop (i + 1)) (vs ++ [(ev l[i]).1]):=by
 rw [jX hi,qcT]
section
variable {g:List qb} {H:Nat->Option qb}
theorem qmd (R D N:Nat) (dn:Int->Bool) (ev:Int->Res) (kk:List Val->Res) {TV VL BV OL:qa} {en ed:Int} (hR:R < g.length) (hb:g[R]? = some (.cells [TV,VL,BV,.int .i64 en,.int .i64 ed,OL,.sl D 0 N N 0])) (hg:Cov H g) (hD:qcj H g D N dn ev) (nc:List qa) {ins:List Int} {I:qa} (hI:Ins H ins I) (ar:∀j ∈ ins,0 <= j/\j < N) (aE:ins.length <= 1000) (G0:List qb) (a6:G0 = g ++ [zr5,.cells nc]) :
  ∀k st,(∃(tt:List qa) (G:List qb) (a:Nat) (V:qa) (vs:List Val),st = ⟨tt,G,false⟩/\tt.length = 198/\lkp tt 0 = .ptr R 0/\lkp tt 4 = .ptr g.length 0/\lkp tt 5 = .ptr (g.length + 1) 0/\lkp tt 6 = V/\lkp tt 27 = I/\lkp tt 28 = .int .i64 (ins.length:Nat)/\lkp tt 29 = .int .i64 (a:Nat)/\a + k = ins.length/\vs.length = a/\(∀i,i < g.length + 2->G[i]? = G0[i]?)/\g.length + 2 <= G.length/\Cov H G/\VSl H G (g.length + 2) vs V/\qcT ev kk ins [] = qcT ev kk (ins.drop a) vs/\qcB dn ev (ins.drop a) = -1/\(∀v ∈ vs,∃j:Int,dn j = true/\(ev j).1 = v))->
   ∃x aa,qm g.length Wd (.loop qkp) st = some (x,aa)/\(∃(tt:List qa) (G:List qb) (V:qa) (vs:List Val) (rs:List qa),aa = ⟨tt,G,false⟩/\tt.length = 198/\lkp tt 0 = .ptr R 0/\lkp tt 4 = .ptr g.length 0/\lkp tt 5 = .ptr (g.length + 1) 0/\((x = .exit 1/\lkp tt 6 = V/\(∀i,i < g.length + 2->G[i]? = G0[i]?)/\g.length + 2 <= G.length/\Cov H G/\VSl H G (g.length + 2) vs V/\qcT ev kk ins [] = kk vs/\vs.length = ins.length/\(∀v ∈ vs,∃j:Int,dn j = true/\(ev j).1 = v))\/(x = .ret/\G.take g.length = g/\g.length < G.length/\G[g.length]? = some (.cells rs)/\RAt H (qcT ev kk ins []) rs))):=by
 have d:∀id o n c w:Nat,(qa.sl id o n c w).dim = .sl id o n c w:=λ_ _ _ _ _=>rfl
 have st:∀id o n c w:Nat,(qa.sl id o n c w).storable = true:=λ_ _ _ _ _=>rfl
 have dw:∀id o n c w i t,qo (qa.sl id o n c w) i t = t:=λ_ _ _ _ _ _ _=>rfl
 obtain ⟨Id,Is,Iw,Il⟩:=hI.facts
 have aC:G0.length = g.length + 2:=by rw [a6];simp
 have mD:∀i:Nat,i < N->qaW 1 (.sl D 0 N N 0) (.int .i64 (i:Nat)) = some (.ptr D i):=λi h=>by rw [qcC h,Nat.mul_one]
 refine qy _ _ ?_
 rintro k st ⟨tt,G,a,V,vs,rfl,ht,e0,e4,e5,e6,a7,M,J,aF,al,E,a1,B,hV,hA,hN,hM⟩
 generalize he:qm g.length Wd qkp _ = r
 have old:∀i,i < g.length->G[i]? = g[i]?:=λi hi=>by rw [E i zo,a6,ja hi]
 have af:R < G.length:=zo
 have ae:=(old R hR).trans hb
 obtain ⟨ds,D0,D1,D2,D3⟩:=hD
 have ah:=(old D D0).trans D1
 have ai:D < G.length:=zo
 have av:Nat.ble g.length g.length = true:=qe zo
 have hz:G[g.length]? = some zr5:=by rw [E _ zo,a6,qF];rfl
 have am:G.take g.length = g:=by
  apply List.ext_getElem?
  intro i
  rw [List.getElem?_take]
  split
  ·exact old i ‹_›
  ·rw [List.getElem?_eq_none zo]
 obtain ⟨Vd,Vs,Vw,Vl⟩:=hV.facts
 rcases Nat.lt_or_ge a ins.length with ha | ha
 ·have c1E:ilt (a:Int) (ins.length:Int) = true:=by rw [qf];simp;omega
  have w:=qaH (n:=a) zo
  obtain ⟨aD,aH,y0,y1,y2,y3⟩:=hI.item ha B
  have hj:=ar _ (List.getElem_mem ha)
  rw [qgS ha] at hN
  rw [ql3 ha] at hA
  obtain ⟨j,ap⟩ :∃j:Nat,ins[a] = (j:Int):=⟨ins[a].toNat,zo⟩
  rw [ap] at y3 hj hN hA
  have ad:j < N:=zo
  have m1:=mD j ad
  cases U:dn (j:Int) with
  | false=>
   rw [U,j3,cond_true] at hN
   omega
  | true=>
   obtain ⟨q,rs,e1,hq,hr⟩:=(D3 j ad).2 U
   have ab:=B.lt hq
   have ac:=B _ _ hq
   rw [U] at hN
   generalize au:ev j = r0 at *
   obtain ⟨v0,x0⟩:=r0
   have aj:∃cs,rs = cs ++ [.int .i64 x0]/\At H v0 cs:=hr
   obtain ⟨k0,m0,s0,l0,L0,hv,rfl,hL⟩:=hr.cells
   obtain ⟨Ld,Ls,Lw,Ll⟩:=hL.facts
   have aI:=hL.low hg
   cases S:(x0 == 0) with
   | false=>
    simp only [S,j3,cond_true] at hA
    simp only [sA.1,qkp,seval,ht,e0,e4,e5,e6,a7,M,J,c1E,Id,Iw,y0,y1,y2,y3,af,ae,ai,ah,m1,e1,d,cI,jO,ab,ac,hz,S,a1,show g.length < G.length by omega,av,Ld,Ls,Lw] at he
    subst he
    refine .inr ⟨_,_,rfl,by simp,_,_,V,vs,_,rfl,Y0,z14,y9,by simp only [sB.1,seval,ht,e5],.inr ⟨rfl,?_,by simp;omega,?_,by rw [hA];exact hr⟩⟩
    ·rw [List.take_set_of_le zo,am]
    ·rw [List.getElem?_set_self zo]
   | true=>
    simp only [S,j0,cond_false] at hA hN
    have a8:At H v0 [.int .i64 k0,.int .i64 m0,.str s0,L0]:=by
     obtain ⟨cs,e,hc⟩:=aj
     have:cs = [.int .i64 k0,.int .i64 m0,.str s0,L0]:=by
      have e':[qa.int .i64 k0,.int .i64 m0,.str s0,L0] ++ [.int .i64 x0] = cs ++ [.int .i64 x0]:=e
      exact (List.append_cancel_right e').symm
     rwa [<-this]
    have ak:=λ(g':List qb)=>qzY g.length k0 m0 s0 L0 Ld Ls g'
    obtain ⟨G',aB,aA,az,aG,ay⟩:=hV.next (base:=g.length) B a1 zo a8
    simp only [sA.1,qkp,seval,ht,e0,e4,e5,e6,a7,M,J,c1E,Id,Iw,y0,y1,y2,y3,af,ae,ai,ah,m1,e1,d,dw,cI,jO,ab,ac,S,w,Ld,Ls,Lw,Vd,Vw,ak,aB] at he
    subst he
    refine .inl ⟨_,k - 1,rfl,zo,_,G',a + 1,_,vs ++ [v0],rfl,Y0,?_,?_,?_,rfl,?_,?_,?_,zo,by simp [al],λi hi=>by rw [ay i hi,E i hi],zo,az,?_,hA,hN,λv hv=>?_⟩
    case inl.true.true.refine_8=>
     rcases List.mem_append.1 hv with hv | hv
     ·exact hM v hv
     ·exact ⟨j,U,by rw [au,List.mem_singleton.1 hv]⟩
    all_goals first | (simp only [sB.1,seval,ht,e0,e4,e5,e6,a7,M,J,Id,Iw,w];done) | skip
    all_goals (simp only [sB.1,seval,ht,q9];exact aA)
 ·have c1E:ilt (a:Int) (ins.length:Int) = false:=by rw [qf];simp;omega
  simp only [sA.1,qkp,seval,ht,M,J,c1E] at he
  subst he
  rw [List.drop_eq_nil_of_le ha,qcT] at hA
  exact .inr ⟨_,_,rfl,by simp,_,G,V,vs,[],rfl,Y0,z14,y9,by simp only [sB.1,seval,ht,e5],.inl ⟨rfl,by simp only [sB.1,seval,ht,e6],E,a1,B,hV,hA,zo,hM⟩⟩
end
end Go.Proofs.YtnibchoenjmmjaaGreatDoor.AE
