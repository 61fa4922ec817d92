/- A part of the proof. No condition. -/
import Derived.Test.YtcbfifamliijlaaGreatDoorMb7
open Int renaming reduceNatCast'→rN
set_option maxRecDepth 100000
namespace Go.Proofs.YtcbfifamliijlaaGreatDoor.AE
open Go.AE
inductive qg8 (op:Nat->Option Int) (sub:Nat->Out->Prop) (pos:Int):Exp->Nat->Out->Prop
 | stop {e n}:op n = none->qg8 op sub pos e n (.ok e n)
 | bad {e n k p err m}:op n = some k->sub (n + 1) (.no p err m)->qg8 op sub pos e n (.no p err m)
 | qcz {e n k x n1}:op n = some k->sub (n + 1) (.ok x n1)->¬ (Exp.mk k 0 [] [] [e,x]).depth <= 20->qg8 op sub pos e n (.no pos 7 n1)
 | go {e n k x n1 o}:op n = some k->sub (n + 1) (.ok x n1)->(Exp.mk k 0 [] [] [e,x]).depth <= 20->qg8 op sub pos (.mk k 0 [] [] [e,x]) n1 o->qg8 op sub pos e n o
theorem qg8.mono {op:Nat->Option Int} {sub:Nat->Out->Prop} {pos:Int} (hs:∀n x m,sub n (.ok x m)->n < m) {e:Exp} {n:Nat} {o:Out} (h:qg8 op sub pos e n o):∀e' n',o = .ok e' n'->n <= n':=by
 induction h with
 | stop _=>intro e' n' h;cases h;exact Nat.le_refl _
 | bad _ _=>intro e' n' h;cases h
 | qcz _ _ _=>intro e' n' h;cases h
 | go _ h1 _ _ ih=>intro e' n' h;have:=ih e' n' h;have:=hs _ _ _ h1;omega
theorem qg2.mono {ws:List Tok} {pos:Int} {e:Exp} {n:Nat} {o:Out} (h:qg2 ws pos e n o):∀e' n',o = .ok e' n'->n <= n':=by
 induction h with
 | stop _=>intro e' n' h;cases h;exact Nat.le_refl _
 | bad _ _=>intro e' n' h;cases h
 | many _ _ _=>intro e' n' h;cases h
 | qcz _ _ _ _=>intro e' n' h;cases h
 | go _ _ _ _ _ ih=>intro e' n' h;have:=ih e' n' h;omega
section
variable {ws:List Tok} {h:List qh}
def quV (h:List qh) (i:Nat) (ws:List Tok) (pos:Int) (len:Nat) (r:Option (Ex×St)):Out->Prop
 | .ok e n=>n < ws.length/\e.depth <= 20/\∃tt H,r = some (.ret,⟨tt,H.set h.length (NB ⟨e,pos⟩),false⟩)/\tt.length = len/\lkp tt 2 = .ptr h.length 0/\qgI h i ws n ⟨e,pos⟩ H
 | .no p err n=>n < ws.length/\∃tt H,r = some (.pan (qea p err),⟨tt,H,false⟩)/\H.take h.length = h.set i (PB ws n)
theorem qgI.cut0 {i n n':Nat} {x:Nd} {H:List qh} (hl:qgI h i ws n x H):(H.set i (PB ws n')).take h.length = h.set i (PB ws n'):=by
 have:=hl.cut (n':=n') []
 simpa using this
theorem qgI.next0 {i n n':Nat} {x x':Nd} {H:List qh} (hl:qgI h i ws n x H):qgI h i ws n' x' ((H.set i (PB ws n')).set (h.length + 1) (NB x')):=by
 have:=hl.next (n':=n') (x':=x') []
 simpa using this
def qc9 (ws:List Tok) (n:Nat):Option Int:=if isW ws n [42] = true then some 17 else if isW ws n [47] = true then some 18 else if isW ws n [37] = true then some 19 else none
theorem qfC {n:Nat} {k:Int} (h:qc9 ws n = some k):(isW ws n [42] = true/\k = 17)\/(isW ws n [42] = false/\isW ws n [47] = true/\k = 18)\/(isW ws n [42] = false/\isW ws n [47] = false/\isW ws n [37] = true/\k = 19):=by
 simp only [qc9] at h
 cases h0:isW ws n [42] <;> cases h1:isW ws n [47] <;> cases h2:isW ws n [37] <;> simp_all
theorem qmv {n:Nat} (h:qc9 ws n = none):isW ws n [42] = false/\isW ws n [47] = false/\isW ws n [37] = false:=by
 simp only [qc9] at h
 cases h0:isW ws n [42] <;> cases h1:isW ws n [47] <;> cases h2:isW ws n [37] <;> simp_all
theorem qtB (hw:WF ws) (i:Nat) (pos:Int) (e:Exp) (n:Nat) (o:Out) (hT:qg8 (qc9 ws) (qbf 215 ws) pos e n o):∀(tt:List qd) (H:List qh),n < ws.length->e.depth <= 20->tt.length = 27->lkp tt 0 = .ptr i 0->lkp tt 2 = .ptr h.length 0->lkp tt 3 = .ptr (h.length + 1) 0->qgI h i ws n ⟨e,pos⟩ H->
  quV h i ws pos 27 (qp h.length Wd (.loop qcp) ⟨tt,H,false⟩) o:=by
 induction hT with
 | @stop e n hs=>
  intro tt H hn hd ht e0 e2 e3 hL
  have I:i < H.length:=by have:=hL.lt;have:=hL.len;omega
  have a7:h.length + 1 < H.length:=hL.len
  have a8:h.length < H.length:=zo
  have U:i ≠ h.length + 1:=by have:=hL.lt;omega
  have a6:Nat.ble h.length (h.length + 1) = true:=qj zo
  have hp:=hL.par
  have E:=hL.nod
  have Y:=hL.res
  rw [NBi] at E
  rw [PBi] at hp
  rw [qbE] at Y
  obtain ⟨s1,s2,s3⟩:=qmv hs
  rw [qr]
  generalize he:qp h.length Wd qcp _ = r
  simp only [qcp,sT.1,sC.1,qe,seval,-rN,ht,e0,e2,e3,qaa hw hn,hp,PBi,E,Y,Nd.cutE,Nd.dimE,Nd.cellsE,Nd.dims,Nd.len,Nd.stor,Nd.drainE,s1,s2,s3] at he
  subst he
  exact ⟨hn,hd,_,_,rfl,Y1,Y3,hL⟩
 | @bad e n k p err m hs hx=>
  intro tt H hn hd ht e0 e2 e3 hL
  have I:i < H.length:=by have:=hL.lt;have:=hL.len;omega
  have a7:h.length + 1 < H.length:=hL.len
  have a8:h.length < H.length:=zo
  have U:i ≠ h.length + 1:=by have:=hL.lt;omega
  have a6:Nat.ble h.length (h.length + 1) = true:=qj zo
  have hp:=hL.par
  have E:=hL.nod
  have Y:=hL.res
  rw [NBi] at E
  rw [PBi] at hp
  rw [qbE] at Y
  obtain ⟨x1,x2⟩:=hx
  rw [qr]
  generalize he:qp h.length Wd qcp _ = r
  rcases qfC hs with ⟨s1,rfl⟩ | ⟨s1,s2,rfl⟩ | ⟨s1,s2,s3,rfl⟩
  ·simp only [qcp,sT.1,sC.1,qe,Nat.testBit,seval,-rN,ht,e0,e3,qI hw hn,hp,PBi,I,U,E,Nd.cut6,Nd.cutE,qJ,s1,x2] at he
   subst he
   exact ⟨x1,_,_,rfl,hL.cut0⟩
  ·simp only [qcp,sT.1,sC.1,qe,Nat.testBit,seval,-rN,ht,e0,e3,qI hw hn,qaa hw hn,hp,PBi,I,U,E,Nd.cut6,Nd.cutE,qJ,s1,s2,x2] at he
   subst he
   exact ⟨x1,_,_,rfl,hL.cut0⟩
  ·simp only [qcp,sT.1,sC.1,qe,Nat.testBit,seval,-rN,ht,e0,e2,e3,qI hw hn,qaa hw hn,hp,PBi,I,U,E,Nd.cut6,Nd.cutE,Nd.dimE,Nd.cellsE,Nd.dims,Nd.drainE,qJ,s1,s2,s3,x2] at he
   subst he
   exact ⟨x1,_,_,rfl,hL.cut0⟩
 | @qcz e n k x n1 hs hx a1=>
  intro tt H hn hd ht e0 e2 e3 hL
  have I:i < H.length:=by have:=hL.lt;have:=hL.len;omega
  have a7:h.length + 1 < H.length:=hL.len
  have a8:h.length < H.length:=zo
  have U:i ≠ h.length + 1:=by have:=hL.lt;omega
  have a6:Nat.ble h.length (h.length + 1) = true:=qj zo
  have hp:=hL.par
  have E:=hL.nod
  have Y:=hL.res
  rw [NBi] at E
  rw [PBi] at hp
  rw [qbE] at Y
  obtain ⟨x1,x2,x3,x4⟩:=hx
  rw [qr]
  generalize he:qp h.length Wd qcp _ = r
  rcases qfC hs with ⟨s1,rfl⟩ | ⟨s1,s2,rfl⟩ | ⟨s1,s2,s3,rfl⟩
  ·simp only [qcp,sT.1,sC.1,qe,Nat.testBit,seval,-rN,ht,e0,e3,qI hw hn,hp,PBi,I,U,E,hd,Nd.cut6,Nd.cutE,Nd.dimE,qJ,qcr,s1,x4,x3,qez,a1] at he
   subst he
   exact ⟨x2,_,_,rfl,hL.cut0⟩
  ·simp only [qcp,sT.1,sC.1,qe,Nat.testBit,seval,-rN,ht,e0,e3,qI hw hn,qaa hw hn,hp,PBi,I,U,E,hd,Nd.cut6,Nd.cutE,Nd.dimE,qJ,qcr,s1,s2,x4,x3,qez,a1] at he
   subst he
   exact ⟨x2,_,_,rfl,hL.cut0⟩
  ·simp only [qcp,sT.1,sC.1,qe,Nat.testBit,seval,-rN,ht,e0,e2,e3,qI hw hn,qaa hw hn,hp,PBi,I,U,E,hd,Nd.cut6,Nd.cutE,Nd.dimE,Nd.cellsE,Nd.dims,Nd.drainE,qJ,qcr,s1,s2,s3,x4,x3,qez,a1] at he
   subst he
   exact ⟨x2,_,_,rfl,hL.cut0⟩
 | @go e n k x n1 o hs hx a1 _ ih=>
  intro tt H hn hd ht e0 e2 e3 hL
  have I:i < H.length:=by have:=hL.lt;have:=hL.len;omega
  have a7:h.length + 1 < H.length:=hL.len
  have a8:h.length < H.length:=zo
  have U:i ≠ h.length + 1:=by have:=hL.lt;omega
  have a6:Nat.ble h.length (h.length + 1) = true:=qj zo
  have hp:=hL.par
  have E:=hL.nod
  have Y:=hL.res
  rw [NBi] at E
  rw [PBi] at hp
  rw [qbE] at Y
  obtain ⟨x1,x2,x3,x4⟩:=hx
  rw [qr]
  generalize he:qp h.length Wd qcp _ = r
  rcases qfC hs with ⟨s1,rfl⟩ | ⟨s1,s2,rfl⟩ | ⟨s1,s2,s3,rfl⟩
  ·simp only [qcp,sT.1,sC.1,qe,Nat.testBit,seval,-rN,ht,e0,e3,qI hw hn,hp,PBi,I,U,E,a6,hd,Nd.cut6,Nd.cutE,Nd.dimE,Nd.cellsE,Nd.dims,Nd.len,Nd.stor,Nd.drainE,Nd.drop7,qJ,qcr,s1,x4,x3,qez,a1] at he
   subst he
   exact ih _ _ x2 a1 Y1 u4 Y3 Y2 hL.next0
  ·simp only [qcp,sT.1,sC.1,qe,Nat.testBit,seval,-rN,ht,e0,e3,qI hw hn,qaa hw hn,hp,PBi,I,U,E,a6,hd,Nd.cut6,Nd.cutE,Nd.dimE,Nd.cellsE,Nd.dims,Nd.len,Nd.stor,Nd.drainE,Nd.drop7,qJ,qcr,s1,s2,x4,x3,qez,a1] at he
   subst he
   exact ih _ _ x2 a1 Y1 u4 Y3 Y2 hL.next0
  ·simp only [qcp,sT.1,sC.1,qe,Nat.testBit,seval,-rN,ht,e0,e2,e3,qI hw hn,qaa hw hn,hp,PBi,I,U,E,a6,hd,Nd.cut6,Nd.cutE,Nd.dimE,Nd.cellsE,Nd.dims,Nd.len,Nd.stor,Nd.drainE,Nd.drop7,qJ,qcr,s1,s2,s3,x4,x3,qez,a1] at he
   subst he
   exact ih _ _ x2 a1 Y1 u4 Y3 Y2 hL.next0
theorem qwW (hw:WF ws) {n:Nat} (hn:n < ws.length) {e:Exp} {n1:Nat} {o:Out} (h1:qbf 215 ws n (.ok e n1)) (hT:qg8 (qc9 ws) (qbf 215 ws) (word ws n).pos e n1 o):qbf 209 ws n o:=by
 obtain ⟨g1,g2,g3,g4⟩:=h1
 have E:=hT.mono (λn x m h=>h.1)
 have run:∀(h:List qh) (i:Nat),h[i]? = some (PB ws n)->∃r,quV h i ws (word ws n).pos 27 r o/\Wd (.fn 209 [] []) [.ptr i 0] h = qfG [.cell 2 (some 7)] h (qcO 0 r):=by
  intro h i hi
  have U:=qo hi
  rw [PBi] at hi
  generalize hr:Wd (.fn 209 [] []) [.ptr i 0] h = R
  rw [ql 209 qEp] at hr
  have a6:Nat.ble h.length (h.length + 1) = true:=qj zo
  simp only [qEp,sT.1,sC.1,qe,seval,-rN,g4,hi,U,PBi,Nd.dimE,Nd.cellsE,Nd.dims,Nd.len,Nd.stor,Nd.drainE,a6] at hr
  generalize hq:qp h.length Wd (.loop qcp) _ = r at hr
  refine ⟨r,?_,?_⟩
  ·rw [<-hq]
   exact qtB hw i _ e n1 o hT _ _ g2 g3 Y0 Y0 Y0 Y0 (qgI.start U)
  ·rw [<-hr]
 cases o with
 | ok e' n'=>
  have hm:=E e' n' rfl
  obtain ⟨r,hL,_⟩:=run (List.replicate 1 (PB ws n)) 0 rfl
  refine ⟨zo,hL.1,hL.2.1,λh i hi=>?_⟩
  obtain ⟨r,⟨q1,q2,tt,H,rfl,ht,e2,hL⟩,hr⟩:=run h i hi
  have a1:=hL.nod
  have Y:=hL.res
  have a7:=hL.len
  have I:h.length < H.length:=zo
  rw [NBi] at a1
  rw [qbE] at Y
  rw [hr]
  simp only [sT.1,seval,-rN,e2,I,Nd.cutE,NBi]
  exact congrArg some hL.answer
 | no pos err n'=>
  obtain ⟨r,hL,_⟩:=run (List.replicate 1 (PB ws n)) 0 rfl
  refine ⟨hL.1,λh i hi=>?_⟩
  obtain ⟨r,⟨q1,tt,H,rfl,q3⟩,hr⟩:=run h i hi
  rw [hr]
  simp only [sT.1,seval,-rN]
  exact congrArg some (qaR q3 (qu _ _ _))
def qeJ (ws:List Tok) (n:Nat):Option Int:=if isW ws n [43] = true then some 15 else if isW ws n [45] = true then some 16 else none
theorem qgD {n:Nat} {k:Int} (h:qeJ ws n = some k):(isW ws n [43] = true/\k = 15)\/(isW ws n [43] = false/\isW ws n [45] = true/\k = 16):=by
 simp only [qeJ] at h
 cases h0:isW ws n [43] <;> cases h1:isW ws n [45] <;> simp_all
theorem qpV {n:Nat} (h:qeJ ws n = none):isW ws n [43] = false/\isW ws n [45] = false:=by
 simp only [qeJ] at h
 cases h0:isW ws n [43] <;> cases h1:isW ws n [45] <;> simp_all
theorem qxs (hw:WF ws) (i:Nat) (pos:Int) (e:Exp) (n:Nat) (o:Out) (hT:qg8 (qeJ ws) (qbf 209 ws) pos e n o):∀(tt:List qd) (H:List qh),n < ws.length->e.depth <= 20->tt.length = 24->lkp tt 0 = .ptr i 0->lkp tt 2 = .ptr h.length 0->lkp tt 3 = .ptr (h.length + 1) 0->qgI h i ws n ⟨e,pos⟩ H->
  quV h i ws pos 24 (qp h.length Wd (.loop qc7) ⟨tt,H,false⟩) o:=by
 induction hT with
 | @stop e n hs=>
  intro tt H hn hd ht e0 e2 e3 hL
  have U:i < H.length:=by have:=hL.lt;have:=hL.len;omega
  have a7:h.length + 1 < H.length:=hL.len
  have a8:h.length < H.length:=zo
  have Y:i ≠ h.length + 1:=by have:=hL.lt;omega
  have a6:Nat.ble h.length (h.length + 1) = true:=qj zo
  have hp:=hL.par
  have E:=hL.nod
  have I:=hL.res
  rw [NBi] at E
  rw [PBi] at hp
  rw [qbE] at I
  obtain ⟨s1,s2⟩:=qpV hs
  rw [qr]
  generalize he:qp h.length Wd qc7 _ = r
  simp only [qc7,sT.1,sC.1,qe,seval,-rN,ht,e0,e2,e3,qaa hw hn,hp,PBi,E,I,Nd.cutE,Nd.dimE,Nd.cellsE,Nd.dims,Nd.len,Nd.stor,Nd.drainE,s1,s2] at he
  subst he
  exact ⟨hn,hd,_,_,rfl,Y1,Y3,hL⟩
 | @bad e n k p err m hs hx=>
  intro tt H hn hd ht e0 e2 e3 hL
  have U:i < H.length:=by have:=hL.lt;have:=hL.len;omega
  have a7:h.length + 1 < H.length:=hL.len
  have a8:h.length < H.length:=zo
  have Y:i ≠ h.length + 1:=by have:=hL.lt;omega
  have a6:Nat.ble h.length (h.length + 1) = true:=qj zo
  have hp:=hL.par
  have E:=hL.nod
  have I:=hL.res
  rw [NBi] at E
  rw [PBi] at hp
  rw [qbE] at I
  obtain ⟨x1,x2⟩:=hx
  rw [qr]
  generalize he:qp h.length Wd qc7 _ = r
  rcases qgD hs with ⟨s1,rfl⟩ | ⟨s1,s2,rfl⟩
  ·simp only [qc7,sT.1,sC.1,qe,Nat.testBit,seval,-rN,ht,e0,e3,qI hw hn,hp,PBi,U,Y,E,Nd.cut6,Nd.cutE,qJ,s1,x2] at he
   subst he
   exact ⟨x1,_,_,rfl,hL.cut0⟩
  ·simp only [qc7,sT.1,sC.1,qe,Nat.testBit,seval,-rN,ht,e0,e2,e3,qI hw hn,qaa hw hn,hp,PBi,U,Y,E,Nd.cut6,Nd.cutE,Nd.dimE,Nd.cellsE,Nd.dims,Nd.drainE,qJ,s1,s2,x2] at he
   subst he
   exact ⟨x1,_,_,rfl,hL.cut0⟩
 | @qcz e n k x n1 hs hx a1=>
  intro tt H hn hd ht e0 e2 e3 hL
  have U:i < H.length:=by have:=hL.lt;have:=hL.len;omega
  have a7:h.length + 1 < H.length:=hL.len
  have a8:h.length < H.length:=zo
  have Y:i ≠ h.length + 1:=by have:=hL.lt;omega
  have a6:Nat.ble h.length (h.length + 1) = true:=qj zo
  have hp:=hL.par
  have E:=hL.nod
  have I:=hL.res
  rw [NBi] at E
  rw [PBi] at hp
  rw [qbE] at I
  obtain ⟨x1,x2,x3,x4⟩:=hx
  rw [qr]
  generalize he:qp h.length Wd qc7 _ = r
  rcases qgD hs with ⟨s1,rfl⟩ | ⟨s1,s2,rfl⟩
  ·simp only [qc7,sT.1,sC.1,qe,Nat.testBit,seval,-rN,ht,e0,e3,qI hw hn,hp,PBi,U,Y,E,hd,Nd.cut6,Nd.cutE,Nd.dimE,qJ,qcr,s1,x4,x3,qez,a1] at he
   subst he
   exact ⟨x2,_,_,rfl,hL.cut0⟩
  ·simp only [qc7,sT.1,sC.1,qe,Nat.testBit,seval,-rN,ht,e0,e2,e3,qI hw hn,qaa hw hn,hp,PBi,U,Y,E,hd,Nd.cut6,Nd.cutE,Nd.dimE,Nd.cellsE,Nd.dims,Nd.drainE,qJ,qcr,s1,s2,x4,x3,qez,a1] at he
   subst he
   exact ⟨x2,_,_,rfl,hL.cut0⟩
 | @go e n k x n1 o hs hx a1 _ ih=>
  intro tt H hn hd ht e0 e2 e3 hL
  have U:i < H.length:=by have:=hL.lt;have:=hL.len;omega
  have a7:h.length + 1 < H.length:=hL.len
  have a8:h.length < H.length:=zo
  have Y:i ≠ h.length + 1:=by have:=hL.lt;omega
  have a6:Nat.ble h.length (h.length + 1) = true:=qj zo
  have hp:=hL.par
  have E:=hL.nod
  have I:=hL.res
  rw [NBi] at E
  rw [PBi] at hp
  rw [qbE] at I
  obtain ⟨x1,x2,x3,x4⟩:=hx
  rw [qr]
  generalize he:qp h.length Wd qc7 _ = r
  rcases qgD hs with ⟨s1,rfl⟩ | ⟨s1,s2,rfl⟩
  ·simp only [qc7,sT.1,sC.1,qe,Nat.testBit,seval,-rN,ht,e0,e3,qI hw hn,hp,PBi,U,Y,E,a6,hd,Nd.cut6,Nd.cutE,Nd.dimE,Nd.cellsE,Nd.dims,Nd.len,Nd.stor,Nd.drainE,Nd.drop7,qJ,qcr,s1,x4,x3,qez,a1] at he
   subst he
   exact ih _ _ x2 a1 Y1 u4 Y3 Y2 hL.next0
  ·simp only [qc7,sT.1,sC.1,qe,Nat.testBit,seval,-rN,ht,e0,e2,e3,qI hw hn,qaa hw hn,hp,PBi,U,Y,E,a6,hd,Nd.cut6,Nd.cutE,Nd.dimE,Nd.cellsE,Nd.dims,Nd.len,Nd.stor,Nd.drainE,Nd.drop7,qJ,qcr,s1,s2,x4,x3,qez,a1] at he
   subst he
   exact ih _ _ x2 a1 Y1 u4 Y3 Y2 hL.next0
theorem qBl (hw:WF ws) {n:Nat} (hn:n < ws.length) {e:Exp} {n1:Nat} {o:Out} (h1:qbf 209 ws n (.ok e n1)) (hT:qg8 (qeJ ws) (qbf 209 ws) (word ws n).pos e n1 o):qbf 198 ws n o:=by
 obtain ⟨g1,g2,g3,g4⟩:=h1
 have E:=hT.mono (λn x m h=>h.1)
 have run:∀(h:List qh) (i:Nat),h[i]? = some (PB ws n)->∃r,quV h i ws (word ws n).pos 24 r o/\Wd (.fn 198 [] []) [.ptr i 0] h = qfG [.cell 2 (some 7)] h (qcO 0 r):=by
  intro h i hi
  have U:=qo hi
  rw [PBi] at hi
  generalize hr:Wd (.fn 198 [] []) [.ptr i 0] h = R
  rw [ql 198 qEo] at hr
  have a6:Nat.ble h.length (h.length + 1) = true:=qj zo
  simp only [qEo,sT.1,sC.1,qe,seval,-rN,g4,hi,U,PBi,Nd.dimE,Nd.cellsE,Nd.dims,Nd.len,Nd.stor,Nd.drainE,a6] at hr
  generalize hq:qp h.length Wd (.loop qc7) _ = r at hr
  refine ⟨r,?_,?_⟩
  ·rw [<-hq]
   exact qxs hw i _ e n1 o hT _ _ g2 g3 Y0 Y0 Y0 Y0 (qgI.start U)
  ·rw [<-hr]
 cases o with
 | ok e' n'=>
  have hm:=E e' n' rfl
  obtain ⟨r,hL,_⟩:=run (List.replicate 1 (PB ws n)) 0 rfl
  refine ⟨zo,hL.1,hL.2.1,λh i hi=>?_⟩
  obtain ⟨r,⟨q1,q2,tt,H,rfl,ht,e2,hL⟩,hr⟩:=run h i hi
  have a1:=hL.nod
  have Y:=hL.res
  have a7:=hL.len
  have I:h.length < H.length:=zo
  rw [NBi] at a1
  rw [qbE] at Y
  rw [hr]
  simp only [sT.1,seval,-rN,e2,I,Nd.cutE,NBi]
  exact congrArg some hL.answer
 | no pos err n'=>
  obtain ⟨r,hL,_⟩:=run (List.replicate 1 (PB ws n)) 0 rfl
  refine ⟨hL.1,λh i hi=>?_⟩
  obtain ⟨r,⟨q1,tt,H,rfl,q3⟩,hr⟩:=run h i hi
  rw [hr]
  simp only [sT.1,seval,-rN]
  exact congrArg some (qaR q3 (qu _ _ _))
def qg4 (ws:List Tok) (n:Nat):Option Int:=if isW ws n [97,110,100] = true then some 23 else none
theorem qgn {n:Nat} {k:Int} (h:qg4 ws n = some k):(isW ws n [97,110,100] = true/\k = 23):=by
 simp only [qg4] at h
 cases h0:isW ws n [97,110,100] <;> simp_all
theorem qn9 {n:Nat} (h:qg4 ws n = none):isW ws n [97,110,100] = false:=by
 simp only [qg4] at h
 cases h0:isW ws n [97,110,100] <;> simp_all
theorem qu4 (hw:WF ws) (i:Nat) (pos:Int) (e:Exp) (n:Nat) (o:Out) (hT:qg8 (qg4 ws) (qbf 183 ws) pos e n o):∀(tt:List qd) (H:List qh),n < ws.length->e.depth <= 20->tt.length = 18->lkp tt 0 = .ptr i 0->lkp tt 2 = .ptr h.length 0->lkp tt 3 = .ptr (h.length + 1) 0->qgI h i ws n ⟨e,pos⟩ H->
  qn3 h i ws pos 18 (qp h.length Wd (.loop qev) ⟨tt,H,false⟩) o:=by
 induction hT with
 | @stop e n hs=>
  intro tt H hn hd ht e0 e2 e3 hL
  have U:i < H.length:=by have:=hL.lt;have:=hL.len;omega
  have a7:h.length + 1 < H.length:=hL.len
  have a8:h.length < H.length:=zo
  have Y:i ≠ h.length + 1:=by have:=hL.lt;omega
  have a6:Nat.ble h.length (h.length + 1) = true:=qj zo
  have hp:=hL.par
  have E:=hL.nod
  have I:=hL.res
  rw [NBi] at E
  rw [PBi] at hp
  rw [qbE] at I
  have s1:=qn9 hs
  rw [qr]
  generalize he:qp h.length Wd qev _ = r
  simp only [qev,sT.1,sC.1,qe,seval,-rN,ht,e0,qaa hw hn,hp,PBi,s1] at he
  subst he
  exact ⟨hn,hd,_,_,rfl,Y1,Y3,Y2,hL⟩
 | @bad e n k p err m hs hx=>
  intro tt H hn hd ht e0 e2 e3 hL
  have U:i < H.length:=by have:=hL.lt;have:=hL.len;omega
  have a7:h.length + 1 < H.length:=hL.len
  have a8:h.length < H.length:=zo
  have Y:i ≠ h.length + 1:=by have:=hL.lt;omega
  have a6:Nat.ble h.length (h.length + 1) = true:=qj zo
  have hp:=hL.par
  have E:=hL.nod
  have I:=hL.res
  rw [NBi] at E
  rw [PBi] at hp
  rw [qbE] at I
  obtain ⟨x1,x2⟩:=hx
  rw [qr]
  generalize he:qp h.length Wd qev _ = r
  obtain ⟨s1,rfl⟩:=qgn hs
  ·simp only [qev,sT.1,sC.1,qe,Nat.testBit,seval,-rN,ht,e0,e3,qI hw hn,hp,PBi,U,Y,E,Nd.cut6,Nd.cutE,qJ,s1,x2] at he
   subst he
   exact ⟨x1,_,_,rfl,hL.cut0⟩
 | @qcz e n k x n1 hs hx a1=>
  intro tt H hn hd ht e0 e2 e3 hL
  have U:i < H.length:=by have:=hL.lt;have:=hL.len;omega
  have a7:h.length + 1 < H.length:=hL.len
  have a8:h.length < H.length:=zo
  have Y:i ≠ h.length + 1:=by have:=hL.lt;omega
  have a6:Nat.ble h.length (h.length + 1) = true:=qj zo
  have hp:=hL.par
  have E:=hL.nod
  have I:=hL.res
  rw [NBi] at E
  rw [PBi] at hp
  rw [qbE] at I
  obtain ⟨x1,x2,x3,x4⟩:=hx
  rw [qr]
  generalize he:qp h.length Wd qev _ = r
  obtain ⟨s1,rfl⟩:=qgn hs
  ·simp only [qev,sT.1,sC.1,qe,Nat.testBit,seval,-rN,ht,e0,e3,qI hw hn,hp,PBi,U,Y,E,hd,Nd.cut6,Nd.cutE,Nd.dimE,qJ,qcr,s1,x4,x3,qez,a1] at he
   subst he
   exact ⟨x2,_,_,rfl,hL.cut0⟩
 | @go e n k x n1 o hs hx a1 _ ih=>
  intro tt H hn hd ht e0 e2 e3 hL
  have U:i < H.length:=by have:=hL.lt;have:=hL.len;omega
  have a7:h.length + 1 < H.length:=hL.len
  have a8:h.length < H.length:=zo
  have Y:i ≠ h.length + 1:=by have:=hL.lt;omega
  have a6:Nat.ble h.length (h.length + 1) = true:=qj zo
  have hp:=hL.par
  have E:=hL.nod
  have I:=hL.res
  rw [NBi] at E
  rw [PBi] at hp
  rw [qbE] at I
  obtain ⟨x1,x2,x3,x4⟩:=hx
  rw [qr]
  generalize he:qp h.length Wd qev _ = r
  obtain ⟨s1,rfl⟩:=qgn hs
  ·simp only [qev,sT.1,sC.1,qe,Nat.testBit,seval,-rN,ht,e0,e3,qI hw hn,hp,PBi,U,Y,E,a6,hd,Nd.cut6,Nd.cutE,Nd.dimE,Nd.cellsE,Nd.dims,Nd.len,Nd.stor,Nd.drainE,Nd.drop7,qJ,qcr,s1,x4,x3,qez,a1] at he
   subst he
   exact ih _ _ x2 a1 Y1 u4 Y3 Y2 hL.next0
theorem qyU (hw:WF ws) {n:Nat} (hn:n < ws.length) {e:Exp} {n1:Nat} {o:Out} (h1:qbf 183 ws n (.ok e n1)) (hT:qg8 (qg4 ws) (qbf 183 ws) (word ws n).pos e n1 o):qbf 148 ws n o:=by
 obtain ⟨g1,g2,g3,g4⟩:=h1
 have U:=hT.mono (λn x m h=>h.1)
 have run:∀(h:List qh) (i:Nat),h[i]? = some (PB ws n)->∃r,qn3 h i ws (word ws n).pos 18 r o/\Wd (.fn 148 [] []) [.ptr i 0] h = qfG [.cell 2 (some 7)] h (qb1 (qp h.length Wd (.seq (.reg [ao 17 (.ld (some 7) (.t 3)),an (.st (some 7) (.t 2) (.t 17))]) .ret)) (qcO 0 r)):=by
  intro h i hi
  have a1:=qo hi
  rw [PBi] at hi
  generalize hr:Wd (.fn 148 [] []) [.ptr i 0] h = R
  rw [ql 148 qEg] at hr
  have a6:Nat.ble h.length (h.length + 1) = true:=qj zo
  simp only [qEg,sT.1,sC.1,qe,seval,-rN,g4,hi,a1,PBi,Nd.dimE,Nd.cellsE,Nd.dims,Nd.len,Nd.stor,Nd.drainE,a6] at hr
  generalize hq:qp h.length Wd (.loop qev) _ = r at hr
  refine ⟨r,?_,?_⟩
  ·rw [<-hq]
   exact qu4 hw i _ e n1 o hT _ _ g2 g3 Y0 Y0 Y0 Y0 (qgI.start a1)
  ·rw [<-hr]
   simp only [sC.1,seval,-rN]
 cases o with
 | ok e' n'=>
  have hm:=U e' n' rfl
  obtain ⟨r,hL,_⟩:=run (List.replicate 1 (PB ws n)) 0 rfl
  refine ⟨zo,hL.1,hL.2.1,λh i hi=>?_⟩
  obtain ⟨r,⟨q1,q2,tt,H,rfl,ht,e2,e3,hL⟩,hr⟩:=run h i hi
  have I:=hL.nod
  have E:=hL.res
  have a7:=hL.len
  have Y:h.length < H.length:=zo
  rw [NBi] at I
  rw [qbE] at E
  rw [hr]
  simp only [sT.1,sC.1,qe,seval,-rN,ht,e2,e3,I,E,Y,Nd.dimE,Nd.cellsE,Nd.cutE,Nd.dims,Nd.len,Nd.stor,Nd.drainE]
  exact congrArg some hL.answer
 | no pos err n'=>
  obtain ⟨r,hL,_⟩:=run (List.replicate 1 (PB ws n)) 0 rfl
  refine ⟨hL.1,λh i hi=>?_⟩
  obtain ⟨r,⟨q1,tt,H,rfl,q3⟩,hr⟩:=run h i hi
  rw [hr]
  simp only [sT.1,sC.1,seval,-rN]
  exact congrArg some (qaR q3 (qu _ _ _))
def qqa (ws:List Tok) (n:Nat):Option Int:=if isW ws n [111,114] = true then some 24 else none
theorem qh4 {n:Nat} {k:Int} (h:qqa ws n = some k):(isW ws n [111,114] = true/\k = 24):=by
 simp only [qqa] at h
 cases h0:isW ws n [111,114] <;> simp_all
theorem qtq {n:Nat} (h:qqa ws n = none):isW ws n [111,114] = false:=by
 simp only [qqa] at h
 cases h0:isW ws n [111,114] <;> simp_all
theorem qAP (hw:WF ws) (i:Nat) (pos:Int) (e:Exp) (n:Nat) (o:Out) (hT:qg8 (qqa ws) (qbf 148 ws) pos e n o):∀(tt:List qd) (H:List qh),n < ws.length->e.depth <= 20->tt.length = 18->lkp tt 0 = .ptr i 0->lkp tt 2 = .ptr h.length 0->lkp tt 3 = .ptr (h.length + 1) 0->qgI h i ws n ⟨e,pos⟩ H->
  qn3 h i ws pos 18 (qp h.length Wd (.loop qeu) ⟨tt,H,false⟩) o:=by
 induction hT with
 | @stop e n hs=>
  intro tt H hn hd ht e0 e2 e3 hL
  have U:i < H.length:=by have:=hL.lt;have:=hL.len;omega
  have a7:h.length + 1 < H.length:=hL.len
  have a8:h.length < H.length:=zo
  have Y:i ≠ h.length + 1:=by have:=hL.lt;omega
  have a6:Nat.ble h.length (h.length + 1) = true:=qj zo
  have hp:=hL.par
  have E:=hL.nod
  have I:=hL.res
  rw [NBi] at E
  rw [PBi] at hp
  rw [qbE] at I
  have s1:=qtq hs
  rw [qr]
  generalize he:qp h.length Wd qeu _ = r
  simp only [qeu,sT.1,sC.1,qe,seval,-rN,ht,e0,qaa hw hn,hp,PBi,s1] at he
  subst he
  exact ⟨hn,hd,_,_,rfl,Y1,Y3,Y2,hL⟩
 | @bad e n k p err m hs hx=>
  intro tt H hn hd ht e0 e2 e3 hL
  have U:i < H.length:=by have:=hL.lt;have:=hL.len;omega
  have a7:h.length + 1 < H.length:=hL.len
  have a8:h.length < H.length:=zo
  have Y:i ≠ h.length + 1:=by have:=hL.lt;omega
  have a6:Nat.ble h.length (h.length + 1) = true:=qj zo
  have hp:=hL.par
  have E:=hL.nod
  have I:=hL.res
  rw [NBi] at E
  rw [PBi] at hp
  rw [qbE] at I
  obtain ⟨x1,x2⟩:=hx
  rw [qr]
  generalize he:qp h.length Wd qeu _ = r
  obtain ⟨s1,rfl⟩:=qh4 hs
  ·simp only [qeu,sT.1,sC.1,qe,Nat.testBit,seval,-rN,ht,e0,e3,qI hw hn,hp,PBi,U,Y,E,Nd.cut6,Nd.cutE,qJ,s1,x2] at he
   subst he
   exact ⟨x1,_,_,rfl,hL.cut0⟩
 | @qcz e n k x n1 hs hx a1=>
  intro tt H hn hd ht e0 e2 e3 hL
  have U:i < H.length:=by have:=hL.lt;have:=hL.len;omega
  have a7:h.length + 1 < H.length:=hL.len
  have a8:h.length < H.length:=zo
  have Y:i ≠ h.length + 1:=by have:=hL.lt;omega
  have a6:Nat.ble h.length (h.length + 1) = true:=qj zo
  have hp:=hL.par
  have E:=hL.nod
  have I:=hL.res
  rw [NBi] at E
  rw [PBi] at hp
  rw [qbE] at I
  obtain ⟨x1,x2,x3,x4⟩:=hx
  rw [qr]
  generalize he:qp h.length Wd qeu _ = r
  obtain ⟨s1,rfl⟩:=qh4 hs
  ·simp only [qeu,sT.1,sC.1,qe,Nat.testBit,seval,-rN,ht,e0,e3,qI hw hn,hp,PBi,U,Y,E,hd,Nd.cut6,Nd.cutE,Nd.dimE,qJ,qcr,s1,x4,x3,qez,a1] at he
   subst he
   exact ⟨x2,_,_,rfl,hL.cut0⟩
 | @go e n k x n1 o hs hx a1 _ ih=>
  intro tt H hn hd ht e0 e2 e3 hL
  have U:i < H.length:=by have:=hL.lt;have:=hL.len;omega
  have a7:h.length + 1 < H.length:=hL.len
  have a8:h.length < H.length:=zo
  have Y:i ≠ h.length + 1:=by have:=hL.lt;omega
  have a6:Nat.ble h.length (h.length + 1) = true:=qj zo
  have hp:=hL.par
  have E:=hL.nod
  have I:=hL.res
  rw [NBi] at E
  rw [PBi] at hp
  rw [qbE] at I
  obtain ⟨x1,x2,x3,x4⟩:=hx
  rw [qr]
  generalize he:qp h.length Wd qeu _ = r
  obtain ⟨s1,rfl⟩:=qh4 hs
  ·simp only [qeu,sT.1,sC.1,qe,Nat.testBit,seval,-rN,ht,e0,e3,qI hw hn,hp,PBi,U,Y,E,a6,hd,Nd.cut6,Nd.cutE,Nd.dimE,Nd.cellsE,Nd.dims,Nd.len,Nd.stor,Nd.drainE,Nd.drop7,qJ,qcr,s1,x4,x3,qez,a1] at he
   subst he
   exact ih _ _ x2 a1 Y1 u4 Y3 Y2 hL.next0
theorem qDt (hw:WF ws) {n:Nat} (hn:n < ws.length) {e:Exp} {n1:Nat} {o:Out} (h1:qbf 148 ws n (.ok e n1)) (hT:qg8 (qqa ws) (qbf 148 ws) (word ws n).pos e n1 o):qbf 100 ws n o:=by
 obtain ⟨g1,g2,g3,g4⟩:=h1
 have U:=hT.mono (λn x m h=>h.1)
 have run:∀(h:List qh) (i:Nat),h[i]? = some (PB ws n)->∃r,qn3 h i ws (word ws n).pos 18 r o/\Wd (.fn 100 [] []) [.ptr i 0] h = qfG [.cell 2 (some 7)] h (qb1 (qp h.length Wd (.seq (.reg [ao 17 (.ld (some 7) (.t 3)),an (.st (some 7) (.t 2) (.t 17))]) .ret)) (qcO 0 r)):=by
  intro h i hi
  have a1:=qo hi
  rw [PBi] at hi
  generalize hr:Wd (.fn 100 [] []) [.ptr i 0] h = R
  rw [ql 100 qDY] at hr
  have a6:Nat.ble h.length (h.length + 1) = true:=qj zo
  simp only [qDY,sT.1,sC.1,qe,seval,-rN,g4,hi,a1,PBi,Nd.dimE,Nd.cellsE,Nd.dims,Nd.len,Nd.stor,Nd.drainE,a6] at hr
  generalize hq:qp h.length Wd (.loop qeu) _ = r at hr
  refine ⟨r,?_,?_⟩
  ·rw [<-hq]
   exact qAP hw i _ e n1 o hT _ _ g2 g3 Y0 Y0 Y0 Y0 (qgI.start a1)
  ·rw [<-hr]
   simp only [sC.1,seval,-rN]
 cases o with
 | ok e' n'=>
  have hm:=U e' n' rfl
  obtain ⟨r,hL,_⟩:=run (List.replicate 1 (PB ws n)) 0 rfl
  refine ⟨zo,hL.1,hL.2.1,λh i hi=>?_⟩
  obtain ⟨r,⟨q1,q2,tt,H,rfl,ht,e2,e3,hL⟩,hr⟩:=run h i hi
  have I:=hL.nod
  have E:=hL.res
  have a7:=hL.len
  have Y:h.length < H.length:=zo
  rw [NBi] at I
  rw [qbE] at E
  rw [hr]
  simp only [sT.1,sC.1,qe,seval,-rN,ht,e2,e3,I,E,Y,Nd.dimE,Nd.cellsE,Nd.cutE,Nd.dims,Nd.len,Nd.stor,Nd.drainE]
  exact congrArg some hL.answer
 | no pos err n'=>
  obtain ⟨r,hL,_⟩:=run (List.replicate 1 (PB ws n)) 0 rfl
  refine ⟨hL.1,λh i hi=>?_⟩
  obtain ⟨r,⟨q1,tt,H,rfl,q3⟩,hr⟩:=run h i hi
  rw [hr]
  simp only [sT.1,sC.1,seval,-rN]
  exact congrArg some (qaR q3 (qu _ _ _))
end
section
variable {ws:List Tok} {n:Nat}
theorem qwB (hw:WF ws) (hn:n < ws.length) (hs:isW ws n [45] = true) {x:Exp} {n1:Nat} (h1:qbf 215 ws (n + 1) (.ok x n1)) (hd:(Exp.mk 13 0 [] [] [x]).depth <= 20):qbf 215 ws n (.ok (.mk 13 0 [] [] [x]) n1):=by
 obtain ⟨g1,g2,g3,g4⟩:=h1
 refine ⟨zo,g2,hd,λh i hi=>?_⟩
 have E:=qo hi
 rw [PBi] at hi
 rw [ql 215 qxV]
 simp only [qxV,sT.1,sC.1,qe,seval,-rN,qcN hw hn,hi,E,PBi,qJ,Nd.dimE,Nd.cellsE,Nd.cutE,Nd.dims,Nd.len,Nd.stor,Nd.lower,Nd.drainE,qcT,qI hw hn,hs,g4,g3,qpo,hd]
theorem qwA (hw:WF ws) (hn:n < ws.length) (hs:isW ws n [45] = false) {o:Out} (h1:qbf 218 ws n o):qbf 215 ws n o:=by
 cases o with
 | ok e n1=>
  obtain ⟨g1,g2,g3,g4⟩:=h1
  refine ⟨g1,g2,g3,λh i hi=>?_⟩
  have E:=qo hi
  rw [PBi] at hi
  rw [ql 215 qxV]
  simp only [qxV,sT.1,sC.1,qe,seval,-rN,qcN hw hn,hi,E,PBi,qJ,Nd.dimE,Nd.cellsE,Nd.cutE,Nd.dims,Nd.len,Nd.stor,Nd.lower,Nd.drainE,qaa hw hn,hs,g4]
 | no p err m=>
  obtain ⟨g1,g2⟩:=h1
  refine ⟨g1,λh i hi=>?_⟩
  have E:=qo hi
  rw [PBi] at hi
  rw [ql 215 qxV]
  simp only [qxV,sT.1,sC.1,qe,seval,-rN,qcN hw hn,hi,E,PBi,qJ,qu,qaa hw hn,hs,g2]
theorem qwF (hw:WF ws) (hn:n < ws.length) (hs:isW ws n [110,111,116] = true) {x:Exp} {n1:Nat} (h1:qbf 183 ws (n + 1) (.ok x n1)) (hd:(Exp.mk 14 0 [] [] [x]).depth <= 20):qbf 183 ws n (.ok (.mk 14 0 [] [] [x]) n1):=by
 obtain ⟨g1,g2,g3,g4⟩:=h1
 refine ⟨zo,g2,hd,λh i hi=>?_⟩
 have E:=qo hi
 rw [PBi] at hi
 rw [ql 183 qxT]
 simp only [qxT,sT.1,sC.1,qe,seval,-rN,qcN hw hn,hi,E,PBi,qJ,Nd.dimE,Nd.cellsE,Nd.cutE,Nd.dims,Nd.len,Nd.stor,Nd.lower,Nd.drainE,qcT,qI hw hn,hs,g4,g3,qpo,hd]
theorem qwE (hw:WF ws) (hn:n < ws.length) (hs:isW ws n [110,111,116] = false) {o:Out} (h1:qbf 190 ws n o):qbf 183 ws n o:=by
 cases o with
 | ok e n1=>
  obtain ⟨g1,g2,g3,g4⟩:=h1
  refine ⟨g1,g2,g3,λh i hi=>?_⟩
  have E:=qo hi
  rw [PBi] at hi
  rw [ql 183 qxT]
  simp only [qxT,sT.1,sC.1,qe,seval,-rN,qcN hw hn,hi,E,PBi,qJ,Nd.dimE,Nd.cellsE,Nd.cutE,Nd.dims,Nd.len,Nd.stor,Nd.lower,Nd.drainE,qaa hw hn,hs,g4]
 | no p err m=>
  obtain ⟨g1,g2⟩:=h1
  refine ⟨g1,λh i hi=>?_⟩
  have E:=qo hi
  rw [PBi] at hi
  rw [ql 183 qxT]
  simp only [qxT,sT.1,sC.1,qe,seval,-rN,qcN hw hn,hi,E,PBi,qJ,qu,qaa hw hn,hs,g2]
def qd8 (ws:List Tok) (n:Nat):Option Int:=if isW ws n [61] = true then some 20 else if isW ws n [60] = true then some 21 else if isW ws n [60,61] = true then some 22 else none
theorem qmD {n:Nat} {k:Int} (h:qd8 ws n = some k):(isW ws n [61] = true/\k = 20)\/(isW ws n [61] = false/\isW ws n [60] = true/\k = 21)\/(isW ws n [61] = false/\isW ws n [60] = false/\isW ws n [60,61] = true/\k = 22):=by
 simp only [qd8] at h
 cases h0:isW ws n [61] <;> cases h1:isW ws n [60] <;> cases h2:isW ws n [60,61] <;> simp_all
theorem qmC {n:Nat} (h:qd8 ws n = none):isW ws n [61] = false/\isW ws n [60] = false/\isW ws n [60,61] = false:=by
 simp only [qd8] at h
 cases h0:isW ws n [61] <;> cases h1:isW ws n [60] <;> cases h2:isW ws n [60,61] <;> simp_all
theorem qxe (hw:WF ws) (hn:n < ws.length) {e:Exp} {n1:Nat} (h1:qbf 198 ws n (.ok e n1)) (hs:qd8 ws n1 = none):qbf 190 ws n (.ok e n1):=by
 obtain ⟨g1,g2,g3,g4⟩:=h1
 obtain ⟨s1,s2,s3⟩:=qmC hs
 refine ⟨g1,g2,g3,λh i hi=>?_⟩
 have E:Nat.ble h.length (h.length + 1) = true:=qj zo
 have I:=qo hi
 rw [PBi] at hi
 rw [ql 190 qxU]
 simp only [qxU,sT.1,sC.1,qe,seval,-rN,hi,I,PBi,Nd.dimE,Nd.cellsE,Nd.cutE,Nd.dims,Nd.len,Nd.stor,Nd.lower,Nd.drainE,g4,qaa hw g2,s1,s2,s3,E]
theorem qxf (hw:WF ws) (hn:n < ws.length) {e:Exp} {n1:Nat} (h1:qbf 198 ws n (.ok e n1)) {k:Int} (hs:qd8 ws n1 = some k) {x:Exp} {n2:Nat} (h2:qbf 198 ws (n1 + 1) (.ok x n2)) (hd:(Exp.mk k 0 [] [] [e,x]).depth <= 20):qbf 190 ws n (.ok (.mk k 0 [] [] [e,x]) n2):=by
 obtain ⟨g1,g2,g3,g4⟩:=h1
 obtain ⟨x1,x2,x3,x4⟩:=h2
 refine ⟨zo,x2,hd,λh i hi=>?_⟩
 have E:Nat.ble h.length (h.length + 1) = true:=qj zo
 have I:=qo hi
 rw [PBi] at hi
 rw [ql 190 qxU]
 rcases qmD hs with ⟨s1,rfl⟩ | ⟨s1,s2,rfl⟩ | ⟨s1,s2,s3,rfl⟩
 ·simp only [qxU,sT.1,sC.1,qe,Nat.testBit,seval,-rN,hi,I,PBi,qJ,Nd.dimE,Nd.cellsE,Nd.cutE,Nd.dims,Nd.len,Nd.stor,Nd.lower,Nd.drainE,Nd.cut6,qcr,g4,qI hw g2,s1,E,x4,x3,g3,qez,hd]
 ·simp only [qxU,sT.1,sC.1,qe,Nat.testBit,seval,-rN,hi,I,PBi,qJ,Nd.dimE,Nd.cellsE,Nd.cutE,Nd.dims,Nd.len,Nd.stor,Nd.lower,Nd.drainE,Nd.cut6,qcr,g4,qaa hw g2,qI hw g2,s1,s2,E,x4,x3,g3,qez,hd]
 ·simp only [qxU,sT.1,sC.1,qe,Nat.testBit,seval,-rN,hi,I,PBi,qJ,Nd.dimE,Nd.cellsE,Nd.cutE,Nd.dims,Nd.len,Nd.stor,Nd.lower,Nd.drainE,Nd.cut6,qcr,g4,qaa hw g2,qI hw g2,s1,s2,s3,E,x4,x3,g3,qez,hd]
end
section
variable {ws:List Tok} {n:Nat}
theorem qAJ (hw:WF ws) (hn:n < ws.length) (hk:(word ws n).kind = 1):qbf 219 ws n (.ok (.mk 0 (word ws n).n [] [] []) (n + 1)):=by
 refine ⟨zo,hw.next hn zo,by simp [Exp.depth,qa5],λh i hi=>?_⟩
 have w:=qC (n:=n) (by have:=hw.len;omega)
 have k1:((word ws n).kind == 1) = true:=by simpa using hk
 have E:=qo hi
 rw [PBi] at hi
 rw [ql 219 qka]
 simp only [qka,sT.1,sC.1,qe,seval,-rN,hi,E,PBi,qJ,qdU,Nd.dimE,Nd.cellsE,Nd.cutE,Nd.dims,Nd.len,Nd.stor,Nd.lower,Nd.drainE,qS hw hn,Tok.enc,k1,w]
theorem qAK (hw:WF ws) (hn:n < ws.length) (hk:(word ws n).kind = 2):qbf 219 ws n (.ok (.mk 3 0 (word ws n).s [] []) (n + 1)):=by
 refine ⟨zo,hw.next hn zo,by simp [Exp.depth,qa5],λh i hi=>?_⟩
 have w:=qC (n:=n) (by have:=hw.len;omega)
 have k1:((word ws n).kind == 1) = false:=by rw [hk];rfl
 have k2:((word ws n).kind == 2) = true:=by simpa using hk
 have E:=qo hi
 rw [PBi] at hi
 rw [ql 219 qka]
 simp only [qka,sT.1,sC.1,qe,seval,-rN,hi,E,PBi,qJ,qdU,Nd.dimE,Nd.cellsE,Nd.cutE,Nd.dims,Nd.len,Nd.stor,Nd.lower,Nd.drainE,qS hw hn,Tok.enc,k1,k2,w]
theorem qtk (hw:WF ws) (hn:n < ws.length) (hs:qaT ws n = true) {o:Out} (h1:qbf 220 ws n o):qbf 219 ws n o:=by
 have k0:(word ws n).kind = 0:=by simp [qaT] at hs;exact hs.1
 have k1:((word ws n).kind == 1) = false:=by rw [k0];rfl
 have k2:((word ws n).kind == 2) = false:=by rw [k0];rfl
 cases o with
 | ok e n1=>
  obtain ⟨g1,g2,g3,g4⟩:=h1
  refine ⟨g1,g2,g3,λh i hi=>?_⟩
  have E:=qo hi
  rw [PBi] at hi
  rw [ql 219 qka]
  simp only [qka,sT.1,sC.1,qe,seval,-rN,hi,E,PBi,qJ,qdU,Nd.dimE,Nd.cellsE,Nd.cutE,Nd.dims,Nd.len,Nd.stor,Nd.lower,Nd.drainE,qS hw hn,Tok.enc,k1,k2,qR hw hn,hs,g4]
 | no p err m=>
  obtain ⟨g1,g2⟩:=h1
  refine ⟨g1,λh i hi=>?_⟩
  have E:=qo hi
  rw [PBi] at hi
  rw [ql 219 qka]
  simp only [qka,sT.1,sC.1,qe,seval,-rN,hi,E,PBi,qJ,qdU,Nd.dimE,Nd.cellsE,Nd.dims,Nd.len,Nd.stor,Nd.drainE,qu,qS hw hn,Tok.enc,k1,k2,qR hw hn,hs,g2]
theorem qeE (hw:WF ws) (hn:n < ws.length) (k1:(word ws n).kind ≠ 1) (k2:(word ws n).kind ≠ 2) (hs:qaT ws n = false) (hb:isW ws n [40] = true) {o:Out} (h1:qbf 221 ws n o):qbf 219 ws n o:=by
 have U:((word ws n).kind == 1) = false:=by simpa using k1
 have I:((word ws n).kind == 2) = false:=by simpa using k2
 cases o with
 | ok e n1=>
  obtain ⟨g1,g2,g3,g4⟩:=h1
  refine ⟨g1,g2,g3,λh i hi=>?_⟩
  have E:=qo hi
  rw [PBi] at hi
  rw [ql 219 qka]
  simp only [qka,sT.1,sC.1,qe,seval,-rN,hi,E,PBi,qJ,qdU,Nd.dimE,Nd.cellsE,Nd.cutE,Nd.dims,Nd.len,Nd.stor,Nd.lower,Nd.drainE,qS hw hn,Tok.enc,U,I,qR hw hn,hs,qgs hw hn,hb,g4]
 | no p err m=>
  obtain ⟨g1,g2⟩:=h1
  refine ⟨g1,λh i hi=>?_⟩
  have E:=qo hi
  rw [PBi] at hi
  rw [ql 219 qka]
  simp only [qka,sT.1,sC.1,qe,seval,-rN,hi,E,PBi,qJ,qdU,Nd.dimE,Nd.cellsE,Nd.dims,Nd.len,Nd.stor,Nd.drainE,qu,qS hw hn,Tok.enc,U,I,qR hw hn,hs,qgs hw hn,hb,g2]
theorem qcX (hw:WF ws) (hn:n < ws.length) (k1:(word ws n).kind ≠ 1) (k2:(word ws n).kind ≠ 2) (hs:qaT ws n = false) (hb:isW ws n [40] = false) {o:Out} (h1:qbf 222 ws n o):qbf 219 ws n o:=by
 have U:((word ws n).kind == 1) = false:=by simpa using k1
 have I:((word ws n).kind == 2) = false:=by simpa using k2
 cases o with
 | ok e n1=>
  obtain ⟨g1,g2,g3,g4⟩:=h1
  refine ⟨g1,g2,g3,λh i hi=>?_⟩
  have E:=qo hi
  rw [PBi] at hi
  rw [ql 219 qka]
  simp only [qka,sT.1,sC.1,qe,seval,-rN,hi,E,PBi,qJ,qdU,Nd.dimE,Nd.cellsE,Nd.cutE,Nd.dims,Nd.len,Nd.stor,Nd.lower,Nd.drainE,qS hw hn,Tok.enc,U,I,qR hw hn,hs,qgs hw hn,hb,g4]
 | no p err m=>
  obtain ⟨g1,g2⟩:=h1
  refine ⟨g1,λh i hi=>?_⟩
  have E:=qo hi
  rw [PBi] at hi
  rw [ql 219 qka]
  simp only [qka,sT.1,sC.1,qe,seval,-rN,hi,E,PBi,qJ,qdU,Nd.dimE,Nd.cellsE,Nd.dims,Nd.len,Nd.stor,Nd.drainE,qu,qS hw hn,Tok.enc,U,I,qR hw hn,hs,qgs hw hn,hb,g2]
theorem qrH (hw:WF ws) (hn:n < ws.length) (hs:isW ws n [105,102] = false) {o:Out} (h1:qbf 100 ws n o):qbf 65 ws n o:=by
 cases o with
 | ok e n1=>
  obtain ⟨g1,g2,g3,g4⟩:=h1
  refine ⟨g1,g2,g3,λh i hi=>?_⟩
  have E:=qo hi
  rw [PBi] at hi
  rw [ql 65 c65]
  simp only [c65,sT.1,sC.1,qe,seval,-rN,qcN hw hn,hi,E,PBi,Nd.dimE,Nd.cellsE,Nd.cutE,Nd.dims,Nd.len,Nd.stor,Nd.lower,Nd.drainE,qaa hw hn,hs,g4]
 | no p err m=>
  obtain ⟨g1,g2⟩:=h1
  refine ⟨g1,λh i hi=>?_⟩
  have E:=qo hi
  rw [PBi] at hi
  rw [ql 65 c65]
  simp only [c65,sT.1,sC.1,qe,seval,-rN,qcN hw hn,hi,E,PBi,qu,qaa hw hn,hs,g2]
theorem qCS (hw:WF ws) (hn:n < ws.length) (hs:isW ws n [108,101,97,115,116] = true) (h1:isW ws (n + 1) [40] = true) (h2:qaT ws (n + 1 + 1) = true) (h3:isW ws (n + 1 + 1 + 1) [44] = true) {x:Exp} {m:Nat} (h4:qbf 65 ws (n + 1 + 1 + 1 + 1) (.ok x m)) (h5:isW ws m [41] = true) (hd:(Exp.mk 10 0 (word ws (n + 1 + 1)).s [] [x]).depth <= 20):qbf 222 ws n (.ok (.mk 10 0 (word ws (n + 1 + 1)).s [] [x]) (m + 1)):=by
 have n1:=qU hw hn hs
 have n2:=qU hw n1 h1
 have n3:=qaN hw n2 h2
 have n4:=qU hw n3 h3
 have q0:isW ws n [116,114,117,101] = false:=qau hs (by decide)
 have q1:isW ws n [102,97,108,115,101] = false:=qau hs (by decide)
 have q2:isW ws n [101,108,97,112,115,101,100] = false:=qau hs (by decide)
 have q3:isW ws n [99,111,117,110,116] = false:=qau hs (by decide)
 have q4:isW ws n [104,97,115] = false:=qau hs (by decide)
 have q5:isW ws n [115,117,109] = false:=qau hs (by decide)
 obtain ⟨x1,x2,x3,x4⟩:=h4
 refine ⟨zo,qU hw x2 h5,hd,λh i hi=>?_⟩
 have I:Nat.ble h.length (h.length + 1) = true:=qj zo
 have E:=qo hi
 rw [PBi] at hi
 rw [ql 222 qlx]
 simp only [qlx,sT.1,sC.1,qe,seval,-rN,qcN hw hn,hi,E,PBi,qJ,qdU,Nd.dimE,Nd.cellsE,Nd.cutE,Nd.dims,Nd.len,Nd.stor,Nd.lower,Nd.drainE,qcT,qI hw hn,qaa hw hn,hs,q0,q1,q2,q3,q4,q5,qa8 hw n1,h1,qdV hw n2,h2,qa8 hw n3,h3,x4,x3,qa8 hw x2,h5,qpo,hd,I]
theorem if7 (hw:WF ws) (hn:n < ws.length) (hs:isW ws n [105,102] = true) {a:Exp} {n1:Nat} (ha:qbf 65 ws (n + 1) (.ok a n1)) (ht:isW ws n1 [116,104,101,110] = true) {b:Exp} {n2:Nat} (hb:qbf 65 ws (n1 + 1) (.ok b n2)) (hl:isW ws n2 [101,108,115,101] = true) {c:Exp} {n3:Nat} (hc:qbf 65 ws (n2 + 1) (.ok c n3)) (hd:(Exp.mk 25 0 [] [] [a,b,c]).depth <= 20):qbf 65 ws n (.ok (.mk 25 0 [] [] [a,b,c]) n3):=by
 obtain ⟨a1,a2,a3,a4⟩:=ha
 obtain ⟨b1,b2,b3,b4⟩:=hb
 obtain ⟨c1,c2,c3,c4⟩:=hc
 refine ⟨zo,c2,hd,λh i hi=>?_⟩
 have Y:Nat.ble h.length (h.length + 1) = true:=qj zo
 have U:Nat.ble h.length (h.length + 2) = true:=qj zo
 have I:Nat.ble h.length (h.length + 3) = true:=qj zo
 have E:=qo hi
 rw [PBi] at hi
 rw [ql 65 c65]
 simp only [c65,sT.1,sC.1,qe,seval,-rN,qcN hw hn,hi,E,PBi,qJ,Nd.dimE,Nd.cellsE,Nd.cutE,Nd.dims,Nd.len,Nd.stor,Nd.lower,Nd.drainE,qCW,qI hw hn,hs,Y,U,I,a4,qa8 hw a2,ht,b4,qa8 hw b2,hl,c4,a3,b3,c3,qHi,hd]
end
end Go.Proofs.YtcbfifamliijlaaGreatDoor.AE
set_option maxHeartbeats 800000
namespace Go.Proofs.YtcbfifamliijlaaGreatDoor.AE
open Go.AE
section
variable {ws:List Tok} {n:Nat} {h:List qh} {i:Nat}
def qai (s:Str):Bool:=s == [105,102] || s == [110,111,116] || s == [116,114,117,101] || s == [102,97,108,115,101] || s == [101,108,97,112,115,101,100] || s == [99,111,117,110,116] || s == [104,97,115] || s == [115,117,109] || s == [108,101,97,115,116]
def qa1 (ws:List Tok) (n:Nat):Bool:=(word ws n).kind == 1 || ((word ws n).kind == 2 || (qaT ws n || (((word ws n).kind == 3 && ((word ws n).s == [40] || (word ws n).s == [45])) || ((word ws n).kind == 0 && qai (word ws n).s))))
theorem qkT (hw:WF ws) (hn:n < ws.length) (hi:h[i]? = some (PB ws n)):Wd (.fn 223 [] []) [.ptr i 0] h = some (.pan (qea (word ws n).pos (bif qa1 ws n then 8 else 6)),h,false):=by
 have E:=qo hi
 rw [PBi] at hi
 rw [ql 223 qfF]
 have I:∀l:List qh,Wd (.fn 44 [] []) [.ptr i 0] (h ++ l) = some (.pan (qea (word ws n).pos 6),h ++ l,false):=λl=>qhw hw hn (by rw [qcP E,hi,PBi])
 cases k1:((word ws n).kind == 1) with
 | true=>
  simp only [qfF,sT.1,sC.1,qe,qw,reduceCtorEq,Nat.reduceAdd,Nat.reduceSub,Nat.reduceLT,Nat.reduceEqDiff,qS hw hn,Tok.enc,PBi,qay,qu,qa1,qai,hi,k1]
 | false=>
  cases k2:((word ws n).kind == 2) with
  | true=>
   simp only [qfF,sT.1,sC.1,qe,qw,reduceCtorEq,Nat.reduceAdd,Nat.reduceSub,Nat.reduceLT,Nat.reduceEqDiff,qS hw hn,Tok.enc,PBi,qay,qu,qa1,qai,hi,k1,k2]
  | false=>
   cases nm:qaT ws n with
   | true=>
    simp only [qfF,sT.1,sC.1,qe,qw,reduceCtorEq,Nat.reduceAdd,Nat.reduceSub,Nat.reduceLT,Nat.reduceEqDiff,qS hw hn,Tok.enc,E,PBi,qay,qR hw hn,qu,qa1,qai,hi,k1,k2,nm]
   | false=>
    cases k3:((word ws n).kind == 3) with
    | true=>
     cases p:((word ws n).s == [40]) with
     | true=>
      simp only [qfF,sT.1,sC.1,qe,qw,reduceCtorEq,Nat.reduceAdd,Nat.reduceSub,Nat.reduceLT,Nat.reduceEqDiff,qS hw hn,Tok.enc,E,PBi,qay,qR hw hn,qu,qa1,qai,hi,k1,k2,nm,k3,p]
     | false=>
      cases d:((word ws n).s == [45]) with
      | true=>
       simp only [qfF,sT.1,sC.1,qe,qw,reduceCtorEq,Nat.reduceAdd,Nat.reduceSub,Nat.reduceLT,Nat.reduceEqDiff,qS hw hn,Tok.enc,E,PBi,qay,qR hw hn,qu,qa1,qai,hi,k1,k2,nm,k3,p,d]
      | false=>
       cases k0:((word ws n).kind == 0) with
       | true=>
        cases b0:((word ws n).s == [105,102]) with
        | true=>
         simp only [qfF,sT.1,sC.1,qe,qw,reduceCtorEq,Nat.reduceAdd,Nat.reduceSub,Nat.reduceLT,Nat.reduceEqDiff,qS hw hn,Tok.enc,E,PBi,qay,qR hw hn,qu,qa1,qai,hi,k1,k2,nm,k3,p,d,k0,b0]
        | false=>
         cases b1:((word ws n).s == [110,111,116]) with
         | true=>
          simp only [qfF,sT.1,sC.1,qe,qw,reduceCtorEq,Nat.reduceAdd,Nat.reduceSub,Nat.reduceLT,Nat.reduceEqDiff,qS hw hn,Tok.enc,E,PBi,qay,qR hw hn,qu,qa1,qai,hi,k1,k2,nm,k3,p,d,k0,b0,b1]
         | false=>
          cases b2:((word ws n).s == [116,114,117,101]) with
          | true=>
           simp only [qfF,sT.1,sC.1,qe,qw,reduceCtorEq,Nat.reduceAdd,Nat.reduceSub,Nat.reduceLT,Nat.reduceEqDiff,qS hw hn,Tok.enc,E,PBi,qay,qR hw hn,qu,qa1,qai,hi,k1,k2,nm,k3,p,d,k0,b0,b1,b2]
          | false=>
           cases b3:((word ws n).s == [102,97,108,115,101]) with
           | true=>
            simp only [qfF,sT.1,sC.1,qe,qw,reduceCtorEq,Nat.reduceAdd,Nat.reduceSub,Nat.reduceLT,Nat.reduceEqDiff,qS hw hn,Tok.enc,E,PBi,qay,qR hw hn,qu,qa1,qai,hi,k1,k2,nm,k3,p,d,k0,b0,b1,b2,b3]
           | false=>
            cases b4:((word ws n).s == [101,108,97,112,115,101,100]) with
            | true=>
             simp only [qfF,sT.1,sC.1,qe,qw,reduceCtorEq,Nat.reduceAdd,Nat.reduceSub,Nat.reduceLT,Nat.reduceEqDiff,qS hw hn,Tok.enc,E,PBi,qay,qR hw hn,qu,qa1,qai,hi,k1,k2,nm,k3,p,d,k0,b0,b1,b2,b3,b4]
            | false=>
             cases b5:((word ws n).s == [99,111,117,110,116]) with
             | true=>
              simp only [qfF,sT.1,sC.1,qe,qw,reduceCtorEq,Nat.reduceAdd,Nat.reduceSub,Nat.reduceLT,Nat.reduceEqDiff,qS hw hn,Tok.enc,E,PBi,qay,qR hw hn,qu,qa1,qai,hi,k1,k2,nm,k3,p,d,k0,b0,b1,b2,b3,b4,b5]
             | false=>
              cases b6:((word ws n).s == [104,97,115]) with
              | true=>
               simp only [qfF,sT.1,sC.1,qe,qw,reduceCtorEq,Nat.reduceAdd,Nat.reduceSub,Nat.reduceLT,Nat.reduceEqDiff,qS hw hn,Tok.enc,E,PBi,qay,qR hw hn,qu,qa1,qai,hi,k1,k2,nm,k3,p,d,k0,b0,b1,b2,b3,b4,b5,b6]
              | false=>
               cases b7:((word ws n).s == [115,117,109]) with
               | true=>
                simp only [qfF,sT.1,sC.1,qe,qw,reduceCtorEq,Nat.reduceAdd,Nat.reduceSub,Nat.reduceLT,Nat.reduceEqDiff,qS hw hn,Tok.enc,E,PBi,qay,qR hw hn,qu,qa1,qai,hi,k1,k2,nm,k3,p,d,k0,b0,b1,b2,b3,b4,b5,b6,b7]
               | false=>
                cases b8:((word ws n).s == [108,101,97,115,116]) with
                | true=>
                 simp only [qfF,sT.1,sC.1,qe,qw,reduceCtorEq,Nat.reduceAdd,Nat.reduceSub,Nat.reduceLT,Nat.reduceEqDiff,qS hw hn,Tok.enc,E,PBi,qay,qR hw hn,qu,qa1,qai,hi,k1,k2,nm,k3,p,d,k0,b0,b1,b2,b3,b4,b5,b6,b7,b8]
                | false=>
                 simp only [qfF,sT.1,sC.1,qe,qw,reduceCtorEq,Nat.reduceAdd,Nat.reduceSub,Nat.reduceLT,Nat.reduceEqDiff,qS hw hn,Tok.enc,E,PBi,qay,qR hw hn,qhw hw hn,qu,qa1,qai,hi,k1,k2,nm,k3,p,d,k0,b0,b1,b2,b3,b4,b5,b6,b7,b8]
       | false=>
        simp only [qfF,sT.1,sC.1,qe,qw,reduceCtorEq,Nat.reduceAdd,Nat.reduceSub,Nat.reduceLT,Nat.reduceEqDiff,qS hw hn,Tok.enc,E,PBi,qay,qR hw hn,qhw hw hn,qu,qa1,qai,hi,k1,k2,nm,k3,p,d,k0]
    | false=>
     cases k0:((word ws n).kind == 0) with
     | true=>
      cases b0:((word ws n).s == [105,102]) with
      | true=>
       simp only [qfF,sT.1,sC.1,qe,qw,reduceCtorEq,Nat.reduceAdd,Nat.reduceSub,Nat.reduceLT,Nat.reduceEqDiff,qS hw hn,Tok.enc,E,PBi,qay,qR hw hn,qu,qa1,qai,hi,k1,k2,nm,k3,k0,b0]
      | false=>
       cases b1:((word ws n).s == [110,111,116]) with
       | true=>
        simp only [qfF,sT.1,sC.1,qe,qw,reduceCtorEq,Nat.reduceAdd,Nat.reduceSub,Nat.reduceLT,Nat.reduceEqDiff,qS hw hn,Tok.enc,E,PBi,qay,qR hw hn,qu,qa1,qai,hi,k1,k2,nm,k3,k0,b0,b1]
       | false=>
        cases b2:((word ws n).s == [116,114,117,101]) with
        | true=>
         simp only [qfF,sT.1,sC.1,qe,qw,reduceCtorEq,Nat.reduceAdd,Nat.reduceSub,Nat.reduceLT,Nat.reduceEqDiff,qS hw hn,Tok.enc,E,PBi,qay,qR hw hn,qu,qa1,qai,hi,k1,k2,nm,k3,k0,b0,b1,b2]
        | false=>
         cases b3:((word ws n).s == [102,97,108,115,101]) with
         | true=>
          simp only [qfF,sT.1,sC.1,qe,qw,reduceCtorEq,Nat.reduceAdd,Nat.reduceSub,Nat.reduceLT,Nat.reduceEqDiff,qS hw hn,Tok.enc,E,PBi,qay,qR hw hn,qu,qa1,qai,hi,k1,k2,nm,k3,k0,b0,b1,b2,b3]
         | false=>
          cases b4:((word ws n).s == [101,108,97,112,115,101,100]) with
          | true=>
           simp only [qfF,sT.1,sC.1,qe,qw,reduceCtorEq,Nat.reduceAdd,Nat.reduceSub,Nat.reduceLT,Nat.reduceEqDiff,qS hw hn,Tok.enc,E,PBi,qay,qR hw hn,qu,qa1,qai,hi,k1,k2,nm,k3,k0,b0,b1,b2,b3,b4]
          | false=>
           cases b5:((word ws n).s == [99,111,117,110,116]) with
           | true=>
            simp only [qfF,sT.1,sC.1,qe,qw,reduceCtorEq,Nat.reduceAdd,Nat.reduceSub,Nat.reduceLT,Nat.reduceEqDiff,qS hw hn,Tok.enc,E,PBi,qay,qR hw hn,qu,qa1,qai,hi,k1,k2,nm,k3,k0,b0,b1,b2,b3,b4,b5]
           | false=>
            cases b6:((word ws n).s == [104,97,115]) with
            | true=>
             simp only [qfF,sT.1,sC.1,qe,qw,reduceCtorEq,Nat.reduceAdd,Nat.reduceSub,Nat.reduceLT,Nat.reduceEqDiff,qS hw hn,Tok.enc,E,PBi,qay,qR hw hn,qu,qa1,qai,hi,k1,k2,nm,k3,k0,b0,b1,b2,b3,b4,b5,b6]
            | false=>
             cases b7:((word ws n).s == [115,117,109]) with
             | true=>
              simp only [qfF,sT.1,sC.1,qe,qw,reduceCtorEq,Nat.reduceAdd,Nat.reduceSub,Nat.reduceLT,Nat.reduceEqDiff,qS hw hn,Tok.enc,E,PBi,qay,qR hw hn,qu,qa1,qai,hi,k1,k2,nm,k3,k0,b0,b1,b2,b3,b4,b5,b6,b7]
             | false=>
              cases b8:((word ws n).s == [108,101,97,115,116]) with
              | true=>
               simp only [qfF,sT.1,sC.1,qe,qw,reduceCtorEq,Nat.reduceAdd,Nat.reduceSub,Nat.reduceLT,Nat.reduceEqDiff,qS hw hn,Tok.enc,E,PBi,qay,qR hw hn,qu,qa1,qai,hi,k1,k2,nm,k3,k0,b0,b1,b2,b3,b4,b5,b6,b7,b8]
              | false=>
               simp only [qfF,sT.1,sC.1,qe,qw,reduceCtorEq,Nat.reduceAdd,Nat.reduceSub,Nat.reduceLT,Nat.reduceEqDiff,qS hw hn,Tok.enc,E,PBi,qay,qR hw hn,qhw hw hn,qu,qa1,qai,hi,k1,k2,nm,k3,k0,b0,b1,b2,b3,b4,b5,b6,b7,b8]
     | false=>
      simp only [qfF,sT.1,sC.1,qe,qw,reduceCtorEq,Nat.reduceAdd,Nat.reduceSub,Nat.reduceLT,Nat.reduceEqDiff,qS hw hn,Tok.enc,E,PBi,qay,qR hw hn,qhw hw hn,qu,qa1,qai,hi,k1,k2,nm,k3,k0]
theorem qzF (hw:WF ws) (hn:n < ws.length) (hi:h[i]? = some (PB ws n)) (hk:(word ws n).kind = 4):Wd (.fn 49 [] []) [.ptr i 0] h = some (.ret (.tup []),h,false):=by
 have k4:((word ws n).kind == 4) = true:=by simpa using hk
 rw [ql 49 c49]
 simp only [c49,sT.1,sC.1,qe,reduceCtorEq,Nat.reduceAdd,Nat.reduceSub,Nat.reduceLT,qS hw hn hi,Tok.enc,k4]
end
end Go.Proofs.YtcbfifamliijlaaGreatDoor.AE
