/- A part of the proof. No condition. -/
import Derived.Test.YtkehdpkcdnofaaaGreatDoorMr7
set_option maxRecDepth 100000
set_option maxHeartbeats 0
namespace Go.Proofs.YtkehdpkcdnofaaaGreatDoor.AE
open Go.AE
inductive qeP (op:Nat->Option Int) (sub:Nat->Out->Prop) (pos:Int):Exp->Nat->Out->Prop
 | stop {e n}:op n = none->qeP op sub pos e n (.ok e n)
 | bad {e n k p err m}:op n = some k->sub (n + 1) (.no p err m)->qeP op sub pos e n (.no p err m)
 | deep {e n k x n1}:op n = some k->sub (n + 1) (.ok x n1)->¬ (Exp.mk k 0 [] [] [e,x]).depth <= 20->qeP op sub pos e n (.no pos 7 n1)
 | go {e n k x n1 o}:op n = some k->sub (n + 1) (.ok x n1)->(Exp.mk k 0 [] [] [e,x]).depth <= 20->qeP op sub pos (.mk k 0 [] [] [e,x]) n1 o->qeP op sub pos e n o
theorem qeP.mono {op:Nat->Option Int} {sub:Nat->Out->Prop} {pos:Int} (hs:∀n x m,sub n (.ok x m)->n < m) {e:Exp} {n:Nat} {o:Out} (h:qeP op sub pos e n o):∀e' n',o = .ok e' n'->n <= n':=by
 induction h with
 | stop _=>intro e' n' h;cases h;exact Nat.le_refl _
 | bad _ _=>intro e' n' h;cases h
 | deep _ _ _=>intro e' n' h;cases h
 | go _ h1 _ _ ih=>intro e' n' h;have:=ih e' n' h;have:=hs _ _ _ h1;omega
theorem qeo.mono {ws:List Tok} {pos:Int} {e:Exp} {n:Nat} {o:Out} (h:qeo ws pos e n o):∀e' n',o = .ok e' n'->n <= n':=by
 induction h with
 | stop _=>intro e' n' h;cases h;exact Nat.le_refl _
 | bad _ _=>intro e' n' h;cases h
 | many _ _ _=>intro e' n' h;cases h
 | deep _ _ _ _=>intro e' n' h;cases h
 | go _ _ _ _ _ ih=>intro e' n' h;have:=ih e' n' h;omega
section
variable {ws:List Tok} {h:List qk}
def quK (h:List qk) (i:Nat) (ws:List Tok) (pos:Int) (len:Nat) (r:Option (Ex×St)):Out->Prop
 | .ok e n=>n < ws.length/\e.depth <= 20/\∃tt H,r = some (.ret,⟨tt,H.set h.length (NB ⟨e,pos⟩),false⟩)/\tt.length = len/\lkp tt 2 = .ptr h.length 0/\qhp h i ws n ⟨e,pos⟩ H
 | .no p err n=>n < ws.length/\∃tt H,r = some (.pan (qbK p err),⟨tt,H,false⟩)/\H.take h.length = h.set i (PB ws n)
theorem qhp.cut0 {i n n':Nat} {x:Nd} {H:List qk} (hl:qhp h i ws n x H):(H.set i (PB ws n')).take h.length = h.set i (PB ws n'):=by
 have:=hl.cut (n':=n') []
 simpa using this
theorem qhp.next0 {i n n':Nat} {x x':Nd} {H:List qk} (hl:qhp h i ws n x H):qhp h i ws n' x' ((H.set i (PB ws n')).set (h.length + 1) (NB x')):=by
 have:=hl.next (n':=n') (x':=x') []
 simpa using this
def qgR (ws:List Tok) (n:Nat):Option Int:=if isW ws n [42] = true then some 17 else if isW ws n [47] = true then some 18 else if isW ws n [37] = true then some 19 else none
theorem qeD {n:Nat} {k:Int} (h:qgR ws n = some k):(isW ws n [42] = true/\k = 17)\/(isW ws n [42] = false/\isW ws n [47] = true/\k = 18)\/(isW ws n [42] = false/\isW ws n [47] = false/\isW ws n [37] = true/\k = 19):=by
 simp only [qgR] at h
 cases h0:isW ws n [42] <;> cases h1:isW ws n [47] <;> cases h2:isW ws n [37] <;> simp_all
theorem qiB {n:Nat} (h:qgR ws n = none):isW ws n [42] = false/\isW ws n [47] = false/\isW ws n [37] = false:=by
 simp only [qgR] at h
 cases h0:isW ws n [42] <;> cases h1:isW ws n [47] <;> cases h2:isW ws n [37] <;> simp_all
theorem qtC (hw:WF ws) (i:Nat) (pos:Int) (e:Exp) (n:Nat) (o:Out) (hT:qeP (qgR ws) (qaA 146 ws) pos e n o):∀(tt:List qd) (H:List qk),n < ws.length->e.depth <= 20->tt.length = 27->lkp tt 0 = .ptr i 0->lkp tt 2 = .ptr h.length 0->lkp tt 3 = .ptr (h.length + 1) 0->qhp h i ws n ⟨e,pos⟩ H->
  quK h i ws pos 27 (qg h.length Wd (.loop qc7) ⟨tt,H,false⟩) o:=by
 induction hT with
 | @stop e n hs=>
  intro tt H hn hd ht e0 e2 e3 hL
  have I:i < H.length:=by have:=hL.lt;have:=hL.len;omega
  have a7:h.length + 1 < H.length:=hL.len
  have a8:h.length < H.length:=zo
  have U:i ≠ h.length + 1:=by have:=hL.lt;omega
  have a6:=blA h 1
  have hp:=hL.par
  have E:=hL.nod
  have Y:=hL.res
  rw [NBi] at E
  rw [PBi] at hp
  rw [qcl] at Y
  obtain ⟨s1,s2,s3⟩:=qiB hs
  rw [qh]
  generalize he:qg h.length Wd qc7 _ = r
  simp only [sB.1,qc7,seval,ht,e0,e2,e3,qy hw hn,hp,PBi,E,Y,Nd.cutE,Nd.dimE,Nd.cellsE,Nd.dims,Nd.len,Nd.stor,Nd.drainE,s1,s2,s3] at he
  subst he
  exact ⟨hn,hd,_,_,rfl,Y0,Y2,hL⟩
 | @bad e n k p err m hs hx=>
  intro tt H hn hd ht e0 e2 e3 hL
  have I:i < H.length:=by have:=hL.lt;have:=hL.len;omega
  have a7:h.length + 1 < H.length:=hL.len
  have a8:h.length < H.length:=zo
  have U:i ≠ h.length + 1:=by have:=hL.lt;omega
  have a6:=blA h 1
  have hp:=hL.par
  have E:=hL.nod
  have Y:=hL.res
  rw [NBi] at E
  rw [PBi] at hp
  rw [qcl] at Y
  obtain ⟨x1,x2⟩:=hx
  rw [qh]
  generalize he:qg h.length Wd qc7 _ = r
  rcases qeD hs with ⟨s1,rfl⟩ | ⟨s1,s2,rfl⟩ | ⟨s1,s2,s3,rfl⟩
  ·simp only [sB.1,qc7,seval,ht,e0,e3,qt hw hn,hp,PBi,I,U,E,Nd.cut6,Nd.cutE,qr,s1,x2] at he
   subst he
   exact ⟨x1,_,_,rfl,hL.cut0⟩
  ·simp only [sB.1,qc7,seval,ht,e0,e3,qt hw hn,qy hw hn,hp,PBi,I,U,E,Nd.cut6,Nd.cutE,qr,s1,s2,x2] at he
   subst he
   exact ⟨x1,_,_,rfl,hL.cut0⟩
  ·simp only [sB.1,qc7,seval,ht,e0,e2,e3,qt hw hn,qy hw hn,hp,PBi,I,U,E,Nd.cut6,Nd.cutE,Nd.dimE,Nd.cellsE,Nd.dims,Nd.drainE,qr,s1,s2,s3,x2] at he
   subst he
   exact ⟨x1,_,_,rfl,hL.cut0⟩
 | @deep e n k x n1 hs hx a1=>
  intro tt H hn hd ht e0 e2 e3 hL
  have I:i < H.length:=by have:=hL.lt;have:=hL.len;omega
  have a7:h.length + 1 < H.length:=hL.len
  have a8:h.length < H.length:=zo
  have U:i ≠ h.length + 1:=by have:=hL.lt;omega
  have a6:=blA h 1
  have hp:=hL.par
  have E:=hL.nod
  have Y:=hL.res
  rw [NBi] at E
  rw [PBi] at hp
  rw [qcl] at Y
  obtain ⟨x1,x2,x3,x4⟩:=hx
  rw [qh]
  generalize he:qg h.length Wd qc7 _ = r
  rcases qeD hs with ⟨s1,rfl⟩ | ⟨s1,s2,rfl⟩ | ⟨s1,s2,s3,rfl⟩
  ·simp only [sB.1,qc7,seval,ht,e0,e3,qt hw hn,hp,PBi,I,U,E,hd,Nd.cut6,Nd.cutE,Nd.dimE,qr,qcz,s1,x4,x3,qej,a1] at he
   subst he
   exact ⟨x2,_,_,rfl,hL.cut0⟩
  ·simp only [sB.1,qc7,seval,ht,e0,e3,qt hw hn,qy hw hn,hp,PBi,I,U,E,hd,Nd.cut6,Nd.cutE,Nd.dimE,qr,qcz,s1,s2,x4,x3,qej,a1] at he
   subst he
   exact ⟨x2,_,_,rfl,hL.cut0⟩
  ·simp only [sB.1,qc7,seval,ht,e0,e2,e3,qt hw hn,qy hw hn,hp,PBi,I,U,E,hd,Nd.cut6,Nd.cutE,Nd.dimE,Nd.cellsE,Nd.dims,Nd.drainE,qr,qcz,s1,s2,s3,x4,x3,qej,a1] at he
   subst he
   exact ⟨x2,_,_,rfl,hL.cut0⟩
 | @go e n k x n1 o hs hx a1 _ ih=>
  intro tt H hn hd ht e0 e2 e3 hL
  have I:i < H.length:=by have:=hL.lt;have:=hL.len;omega
  have a7:h.length + 1 < H.length:=hL.len
  have a8:h.length < H.length:=zo
  have U:i ≠ h.length + 1:=by have:=hL.lt;omega
  have a6:=blA h 1
  have hp:=hL.par
  have E:=hL.nod
  have Y:=hL.res
  rw [NBi] at E
  rw [PBi] at hp
  rw [qcl] at Y
  obtain ⟨x1,x2,x3,x4⟩:=hx
  rw [qh]
  generalize he:qg h.length Wd qc7 _ = r
  rcases qeD hs with ⟨s1,rfl⟩ | ⟨s1,s2,rfl⟩ | ⟨s1,s2,s3,rfl⟩
  ·simp only [sB.1,qc7,seval,ht,e0,e3,qt hw hn,hp,PBi,I,U,E,a6,hd,Nd.cut6,Nd.cutE,Nd.dimE,Nd.cellsE,Nd.dims,Nd.len,Nd.stor,Nd.drainE,Nd.drop7,qr,qcz,s1,x4,x3,qej,a1] at he
   subst he
   exact ih _ _ x2 a1 Y0 Y3 Y2 y7 hL.next0
  ·simp only [sB.1,qc7,seval,ht,e0,e3,qt hw hn,qy hw hn,hp,PBi,I,U,E,a6,hd,Nd.cut6,Nd.cutE,Nd.dimE,Nd.cellsE,Nd.dims,Nd.len,Nd.stor,Nd.drainE,Nd.drop7,qr,qcz,s1,s2,x4,x3,qej,a1] at he
   subst he
   exact ih _ _ x2 a1 Y0 Y3 Y2 y7 hL.next0
  ·simp only [sB.1,qc7,seval,ht,e0,e2,e3,qt hw hn,qy hw hn,hp,PBi,I,U,E,a6,hd,Nd.cut6,Nd.cutE,Nd.dimE,Nd.cellsE,Nd.dims,Nd.len,Nd.stor,Nd.drainE,Nd.drop7,qr,qcz,s1,s2,s3,x4,x3,qej,a1] at he
   subst he
   exact ih _ _ x2 a1 Y0 Y3 Y2 y7 hL.next0
theorem qzB (hw:WF ws) {n:Nat} (hn:n < ws.length) {p err:Int} {m:Nat} (h1:qaA 146 ws n (.no p err m)):qaA 141 ws n (.no p err m):=by
 obtain ⟨g1,g2⟩:=h1
 refine ⟨g1,λh i hi=>?_⟩
 have E:=qc hi
 rw [PBi] at hi
 rw [qu 141 qAq]
 simp only [sB.1,qAq,seval,g2,hi,E,PBi,qe]
theorem qwt (hw:WF ws) {n:Nat} (hn:n < ws.length) {e:Exp} {n1:Nat} {o:Out} (h1:qaA 146 ws n (.ok e n1)) (hT:qeP (qgR ws) (qaA 146 ws) (word ws n).pos e n1 o):qaA 141 ws n o:=by
 obtain ⟨g1,g2,g3,g4⟩:=h1
 have E:=hT.mono (λn x m h=>h.1)
 have run:∀(h:List qk) (i:Nat),h[i]? = some (PB ws n)->∃r,quK h i ws (word ws n).pos 27 r o/\Wd (.fn 141 [] []) [.ptr i 0] h = qbS [.cell 2 (some 7)] h (qbj 0 r):=by
  intro h i hi
  have U:=qc hi
  rw [PBi] at hi
  generalize hr:Wd (.fn 141 [] []) [.ptr i 0] h = R
  rw [qu 141 qAq] at hr
  have a6:=blA h 1
  simp only [sB.1,qAq,seval,g4,hi,U,PBi,Nd.dimE,Nd.cellsE,Nd.dims,Nd.len,Nd.stor,Nd.drainE,a6] at hr
  generalize hq:qg h.length Wd (.loop qc7) _ = r at hr
  refine ⟨r,?_,?_⟩
  ·rw [<-hq]
   exact qtC hw i _ e n1 o hT _ _ g2 g3 Y1 Y1 Y1 Y1 (qhp.start U)
  ·rw [<-hr]
 cases o with
 | ok e' n'=>
  have hm:=E e' n' rfl
  obtain ⟨r,hL,_⟩:=run (List.replicate 1 (PB ws n)) 0 rfl
  refine ⟨zo,hL.1,hL.2.1,λh i hi=>?_⟩
  obtain ⟨r,⟨q1,q2,tt,H,rfl,ht,e2,hL⟩,hr⟩:=run h i hi
  have a1:=hL.nod
  have Y:=hL.res
  have a7:=hL.len
  have I:h.length < H.length:=zo
  rw [NBi] at a1
  rw [qcl] at Y
  rw [hr]
  simp only [sB.1,seval,e2,I,Nd.cutE,NBi]
  exact congrArg some hL.answer
 | no pos err n'=>
  obtain ⟨r,hL,_⟩:=run (List.replicate 1 (PB ws n)) 0 rfl
  refine ⟨hL.1,λh i hi=>?_⟩
  obtain ⟨r,⟨q1,tt,H,rfl,q3⟩,hr⟩:=run h i hi
  rw [hr]
  simp only [sB.1,seval]
  exact congrArg some (qbe q3 (qe _ _ _))
def qkE (ws:List Tok) (n:Nat):Option Int:=if isW ws n [43] = true then some 15 else if isW ws n [45] = true then some 16 else none
theorem qfG {n:Nat} {k:Int} (h:qkE ws n = some k):(isW ws n [43] = true/\k = 15)\/(isW ws n [43] = false/\isW ws n [45] = true/\k = 16):=by
 simp only [qkE] at h
 cases h0:isW ws n [43] <;> cases h1:isW ws n [45] <;> simp_all
theorem qjJ {n:Nat} (h:qkE ws n = none):isW ws n [43] = false/\isW ws n [45] = false:=by
 simp only [qkE] at h
 cases h0:isW ws n [43] <;> cases h1:isW ws n [45] <;> simp_all
theorem qxe (hw:WF ws) (i:Nat) (pos:Int) (e:Exp) (n:Nat) (o:Out) (hT:qeP (qkE ws) (qaA 141 ws) pos e n o):∀(tt:List qd) (H:List qk),n < ws.length->e.depth <= 20->tt.length = 24->lkp tt 0 = .ptr i 0->lkp tt 2 = .ptr h.length 0->lkp tt 3 = .ptr (h.length + 1) 0->qhp h i ws n ⟨e,pos⟩ H->
  quK h i ws pos 24 (qg h.length Wd (.loop qdY) ⟨tt,H,false⟩) o:=by
 induction hT with
 | @stop e n hs=>
  intro tt H hn hd ht e0 e2 e3 hL
  have U:i < H.length:=by have:=hL.lt;have:=hL.len;omega
  have a7:h.length + 1 < H.length:=hL.len
  have a8:h.length < H.length:=zo
  have Y:i ≠ h.length + 1:=by have:=hL.lt;omega
  have a6:=blA h 1
  have hp:=hL.par
  have E:=hL.nod
  have I:=hL.res
  rw [NBi] at E
  rw [PBi] at hp
  rw [qcl] at I
  obtain ⟨s1,s2⟩:=qjJ hs
  rw [qh]
  generalize he:qg h.length Wd qdY _ = r
  simp only [sB.1,qdY,seval,ht,e0,e2,e3,qy hw hn,hp,PBi,E,I,Nd.cutE,Nd.dimE,Nd.cellsE,Nd.dims,Nd.len,Nd.stor,Nd.drainE,s1,s2] at he
  subst he
  exact ⟨hn,hd,_,_,rfl,Y0,Y2,hL⟩
 | @bad e n k p err m hs hx=>
  intro tt H hn hd ht e0 e2 e3 hL
  have U:i < H.length:=by have:=hL.lt;have:=hL.len;omega
  have a7:h.length + 1 < H.length:=hL.len
  have a8:h.length < H.length:=zo
  have Y:i ≠ h.length + 1:=by have:=hL.lt;omega
  have a6:=blA h 1
  have hp:=hL.par
  have E:=hL.nod
  have I:=hL.res
  rw [NBi] at E
  rw [PBi] at hp
  rw [qcl] at I
  obtain ⟨x1,x2⟩:=hx
  rw [qh]
  generalize he:qg h.length Wd qdY _ = r
  rcases qfG hs with ⟨s1,rfl⟩ | ⟨s1,s2,rfl⟩
  ·simp only [sB.1,qdY,seval,ht,e0,e3,qt hw hn,hp,PBi,U,Y,E,Nd.cut6,Nd.cutE,qr,s1,x2] at he
   subst he
   exact ⟨x1,_,_,rfl,hL.cut0⟩
  ·simp only [sB.1,qdY,seval,ht,e0,e2,e3,qt hw hn,qy hw hn,hp,PBi,U,Y,E,Nd.cut6,Nd.cutE,Nd.dimE,Nd.cellsE,Nd.dims,Nd.drainE,qr,s1,s2,x2] at he
   subst he
   exact ⟨x1,_,_,rfl,hL.cut0⟩
 | @deep e n k x n1 hs hx a1=>
  intro tt H hn hd ht e0 e2 e3 hL
  have U:i < H.length:=by have:=hL.lt;have:=hL.len;omega
  have a7:h.length + 1 < H.length:=hL.len
  have a8:h.length < H.length:=zo
  have Y:i ≠ h.length + 1:=by have:=hL.lt;omega
  have a6:=blA h 1
  have hp:=hL.par
  have E:=hL.nod
  have I:=hL.res
  rw [NBi] at E
  rw [PBi] at hp
  rw [qcl] at I
  obtain ⟨x1,x2,x3,x4⟩:=hx
  rw [qh]
  generalize he:qg h.length Wd qdY _ = r
  rcases qfG hs with ⟨s1,rfl⟩ | ⟨s1,s2,rfl⟩
  ·simp only [sB.1,qdY,seval,ht,e0,e3,qt hw hn,hp,PBi,U,Y,E,hd,Nd.cut6,Nd.cutE,Nd.dimE,qr,qcz,s1,x4,x3,qej,a1] at he
   subst he
   exact ⟨x2,_,_,rfl,hL.cut0⟩
  ·simp only [sB.1,qdY,seval,ht,e0,e2,e3,qt hw hn,qy hw hn,hp,PBi,U,Y,E,hd,Nd.cut6,Nd.cutE,Nd.dimE,Nd.cellsE,Nd.dims,Nd.drainE,qr,qcz,s1,s2,x4,x3,qej,a1] at he
   subst he
   exact ⟨x2,_,_,rfl,hL.cut0⟩
 | @go e n k x n1 o hs hx a1 _ ih=>
  intro tt H hn hd ht e0 e2 e3 hL
  have U:i < H.length:=by have:=hL.lt;have:=hL.len;omega
  have a7:h.length + 1 < H.length:=hL.len
  have a8:h.length < H.length:=zo
  have Y:i ≠ h.length + 1:=by have:=hL.lt;omega
  have a6:=blA h 1
  have hp:=hL.par
  have E:=hL.nod
  have I:=hL.res
  rw [NBi] at E
  rw [PBi] at hp
  rw [qcl] at I
  obtain ⟨x1,x2,x3,x4⟩:=hx
  rw [qh]
  generalize he:qg h.length Wd qdY _ = r
  rcases qfG hs with ⟨s1,rfl⟩ | ⟨s1,s2,rfl⟩
  ·simp only [sB.1,qdY,seval,ht,e0,e3,qt hw hn,hp,PBi,U,Y,E,a6,hd,Nd.cut6,Nd.cutE,Nd.dimE,Nd.cellsE,Nd.dims,Nd.len,Nd.stor,Nd.drainE,Nd.drop7,qr,qcz,s1,x4,x3,qej,a1] at he
   subst he
   exact ih _ _ x2 a1 Y0 Y3 Y2 y7 hL.next0
  ·simp only [sB.1,qdY,seval,ht,e0,e2,e3,qt hw hn,qy hw hn,hp,PBi,U,Y,E,a6,hd,Nd.cut6,Nd.cutE,Nd.dimE,Nd.cellsE,Nd.dims,Nd.len,Nd.stor,Nd.drainE,Nd.drop7,qr,qcz,s1,s2,x4,x3,qej,a1] at he
   subst he
   exact ih _ _ x2 a1 Y0 Y3 Y2 y7 hL.next0
theorem qCP (hw:WF ws) {n:Nat} (hn:n < ws.length) {p err:Int} {m:Nat} (h1:qaA 141 ws n (.no p err m)):qaA 134 ws n (.no p err m):=by
 obtain ⟨g1,g2⟩:=h1
 refine ⟨g1,λh i hi=>?_⟩
 have E:=qc hi
 rw [PBi] at hi
 rw [qu 134 qAp]
 simp only [sB.1,qAp,seval,g2,hi,E,PBi,qe]
theorem qAd (hw:WF ws) {n:Nat} (hn:n < ws.length) {e:Exp} {n1:Nat} {o:Out} (h1:qaA 141 ws n (.ok e n1)) (hT:qeP (qkE ws) (qaA 141 ws) (word ws n).pos e n1 o):qaA 134 ws n o:=by
 obtain ⟨g1,g2,g3,g4⟩:=h1
 have E:=hT.mono (λn x m h=>h.1)
 have run:∀(h:List qk) (i:Nat),h[i]? = some (PB ws n)->∃r,quK h i ws (word ws n).pos 24 r o/\Wd (.fn 134 [] []) [.ptr i 0] h = qbS [.cell 2 (some 7)] h (qbj 0 r):=by
  intro h i hi
  have U:=qc hi
  rw [PBi] at hi
  generalize hr:Wd (.fn 134 [] []) [.ptr i 0] h = R
  rw [qu 134 qAp] at hr
  have a6:=blA h 1
  simp only [sB.1,qAp,seval,g4,hi,U,PBi,Nd.dimE,Nd.cellsE,Nd.dims,Nd.len,Nd.stor,Nd.drainE,a6] at hr
  generalize hq:qg h.length Wd (.loop qdY) _ = r at hr
  refine ⟨r,?_,?_⟩
  ·rw [<-hq]
   exact qxe hw i _ e n1 o hT _ _ g2 g3 Y1 Y1 Y1 Y1 (qhp.start U)
  ·rw [<-hr]
 cases o with
 | ok e' n'=>
  have hm:=E e' n' rfl
  obtain ⟨r,hL,_⟩:=run (List.replicate 1 (PB ws n)) 0 rfl
  refine ⟨zo,hL.1,hL.2.1,λh i hi=>?_⟩
  obtain ⟨r,⟨q1,q2,tt,H,rfl,ht,e2,hL⟩,hr⟩:=run h i hi
  have a1:=hL.nod
  have Y:=hL.res
  have a7:=hL.len
  have I:h.length < H.length:=zo
  rw [NBi] at a1
  rw [qcl] at Y
  rw [hr]
  simp only [sB.1,seval,e2,I,Nd.cutE,NBi]
  exact congrArg some hL.answer
 | no pos err n'=>
  obtain ⟨r,hL,_⟩:=run (List.replicate 1 (PB ws n)) 0 rfl
  refine ⟨hL.1,λh i hi=>?_⟩
  obtain ⟨r,⟨q1,tt,H,rfl,q3⟩,hr⟩:=run h i hi
  rw [hr]
  simp only [sB.1,seval]
  exact congrArg some (qbe q3 (qe _ _ _))
def qjR (ws:List Tok) (n:Nat):Option Int:=if isW ws n [97,110,100] = true then some 23 else none
theorem qfn {n:Nat} {k:Int} (h:qjR ws n = some k):(isW ws n [97,110,100] = true/\k = 23):=by
 simp only [qjR] at h
 cases h0:isW ws n [97,110,100] <;> simp_all
theorem qi9 {n:Nat} (h:qjR ws n = none):isW ws n [97,110,100] = false:=by
 simp only [qjR] at h
 cases h0:isW ws n [97,110,100] <;> simp_all
theorem quT (hw:WF ws) (i:Nat) (pos:Int) (e:Exp) (n:Nat) (o:Out) (hT:qeP (qjR ws) (qaA 122 ws) pos e n o):∀(tt:List qd) (H:List qk),n < ws.length->e.depth <= 20->tt.length = 18->lkp tt 0 = .ptr i 0->lkp tt 2 = .ptr h.length 0->lkp tt 3 = .ptr (h.length + 1) 0->qhp h i ws n ⟨e,pos⟩ H->
  qoa h i ws pos 18 (qg h.length Wd (.loop qir) ⟨tt,H,false⟩) o:=by
 induction hT with
 | @stop e n hs=>
  intro tt H hn hd ht e0 e2 e3 hL
  have U:i < H.length:=by have:=hL.lt;have:=hL.len;omega
  have a7:h.length + 1 < H.length:=hL.len
  have a8:h.length < H.length:=zo
  have Y:i ≠ h.length + 1:=by have:=hL.lt;omega
  have a6:=blA h 1
  have hp:=hL.par
  have E:=hL.nod
  have I:=hL.res
  rw [NBi] at E
  rw [PBi] at hp
  rw [qcl] at I
  have s1:=qi9 hs
  rw [qh]
  generalize he:qg h.length Wd qir _ = r
  simp only [sB.1,qir,seval,ht,e0,qy hw hn,hp,PBi,s1] at he
  subst he
  exact ⟨hn,hd,_,_,rfl,Y0,Y2,y7,hL⟩
 | @bad e n k p err m hs hx=>
  intro tt H hn hd ht e0 e2 e3 hL
  have U:i < H.length:=by have:=hL.lt;have:=hL.len;omega
  have a7:h.length + 1 < H.length:=hL.len
  have a8:h.length < H.length:=zo
  have Y:i ≠ h.length + 1:=by have:=hL.lt;omega
  have a6:=blA h 1
  have hp:=hL.par
  have E:=hL.nod
  have I:=hL.res
  rw [NBi] at E
  rw [PBi] at hp
  rw [qcl] at I
  obtain ⟨x1,x2⟩:=hx
  rw [qh]
  generalize he:qg h.length Wd qir _ = r
  obtain ⟨s1,rfl⟩:=qfn hs
  ·simp only [sB.1,qir,seval,ht,e0,e3,qt hw hn,hp,PBi,U,Y,E,Nd.cut6,Nd.cutE,qr,s1,x2] at he
   subst he
   exact ⟨x1,_,_,rfl,hL.cut0⟩
 | @deep e n k x n1 hs hx a1=>
  intro tt H hn hd ht e0 e2 e3 hL
  have U:i < H.length:=by have:=hL.lt;have:=hL.len;omega
  have a7:h.length + 1 < H.length:=hL.len
  have a8:h.length < H.length:=zo
  have Y:i ≠ h.length + 1:=by have:=hL.lt;omega
  have a6:=blA h 1
  have hp:=hL.par
  have E:=hL.nod
  have I:=hL.res
  rw [NBi] at E
  rw [PBi] at hp
  rw [qcl] at I
  obtain ⟨x1,x2,x3,x4⟩:=hx
  rw [qh]
  generalize he:qg h.length Wd qir _ = r
  obtain ⟨s1,rfl⟩:=qfn hs
  ·simp only [sB.1,qir,seval,ht,e0,e3,qt hw hn,hp,PBi,U,Y,E,hd,Nd.cut6,Nd.cutE,Nd.dimE,qr,qcz,s1,x4,x3,qej,a1] at he
   subst he
   exact ⟨x2,_,_,rfl,hL.cut0⟩
 | @go e n k x n1 o hs hx a1 _ ih=>
  intro tt H hn hd ht e0 e2 e3 hL
  have U:i < H.length:=by have:=hL.lt;have:=hL.len;omega
  have a7:h.length + 1 < H.length:=hL.len
  have a8:h.length < H.length:=zo
  have Y:i ≠ h.length + 1:=by have:=hL.lt;omega
  have a6:=blA h 1
  have hp:=hL.par
  have E:=hL.nod
  have I:=hL.res
  rw [NBi] at E
  rw [PBi] at hp
  rw [qcl] at I
  obtain ⟨x1,x2,x3,x4⟩:=hx
  rw [qh]
  generalize he:qg h.length Wd qir _ = r
  obtain ⟨s1,rfl⟩:=qfn hs
  ·simp only [sB.1,qir,seval,ht,e0,e3,qt hw hn,hp,PBi,U,Y,E,a6,hd,Nd.cut6,Nd.cutE,Nd.dimE,Nd.cellsE,Nd.dims,Nd.len,Nd.stor,Nd.drainE,Nd.drop7,qr,qcz,s1,x4,x3,qej,a1] at he
   subst he
   exact ih _ _ x2 a1 Y0 Y3 Y2 y7 hL.next0
theorem qAH (hw:WF ws) {n:Nat} (hn:n < ws.length) {p err:Int} {m:Nat} (h1:qaA 122 ws n (.no p err m)):qaA 90 ws n (.no p err m):=by
 obtain ⟨g1,g2⟩:=h1
 refine ⟨g1,λh i hi=>?_⟩
 have E:=qc hi
 rw [PBi] at hi
 rw [qu 90 c90]
 simp only [sB.1,c90,seval,g2,hi,E,PBi,qe]
theorem qx7 (hw:WF ws) {n:Nat} (hn:n < ws.length) {e:Exp} {n1:Nat} {o:Out} (h1:qaA 122 ws n (.ok e n1)) (hT:qeP (qjR ws) (qaA 122 ws) (word ws n).pos e n1 o):qaA 90 ws n o:=by
 obtain ⟨g1,g2,g3,g4⟩:=h1
 have U:=hT.mono (λn x m h=>h.1)
 have run:∀(h:List qk) (i:Nat),h[i]? = some (PB ws n)->∃r,qoa h i ws (word ws n).pos 18 r o/\Wd (.fn 90 [] []) [.ptr i 0] h = qbS [.cell 2 (some 7)] h (qbr (qg h.length Wd (.seq (.reg [ao 17 (.ld (some 7) (.t 3)),an (.st (some 7) (.t 2) (.t 17))]) .ret)) (qbj 0 r)):=by
  intro h i hi
  have a1:=qc hi
  rw [PBi] at hi
  generalize hr:Wd (.fn 90 [] []) [.ptr i 0] h = R
  rw [qu 90 c90] at hr
  have a6:=blA h 1
  simp only [sB.1,c90,seval,g4,hi,a1,PBi,Nd.dimE,Nd.cellsE,Nd.dims,Nd.len,Nd.stor,Nd.drainE,a6] at hr
  generalize hq:qg h.length Wd (.loop qir) _ = r at hr
  refine ⟨r,?_,?_⟩
  ·rw [<-hq]
   exact quT hw i _ e n1 o hT _ _ g2 g3 Y1 Y1 Y1 Y1 (qhp.start a1)
  ·rw [<-hr]
   simp only [sC.1,seval]
 cases o with
 | ok e' n'=>
  have hm:=U e' n' rfl
  obtain ⟨r,hL,_⟩:=run (List.replicate 1 (PB ws n)) 0 rfl
  refine ⟨zo,hL.1,hL.2.1,λh i hi=>?_⟩
  obtain ⟨r,⟨q1,q2,tt,H,rfl,ht,e2,e3,hL⟩,hr⟩:=run h i hi
  have I:=hL.nod
  have E:=hL.res
  have a7:=hL.len
  have Y:h.length < H.length:=zo
  rw [NBi] at I
  rw [qcl] at E
  rw [hr]
  simp only [sB.1,seval,ht,e2,e3,I,E,Y,Nd.dimE,Nd.cellsE,Nd.cutE,Nd.dims,Nd.len,Nd.stor,Nd.drainE]
  exact congrArg some hL.answer
 | no pos err n'=>
  obtain ⟨r,hL,_⟩:=run (List.replicate 1 (PB ws n)) 0 rfl
  refine ⟨hL.1,λh i hi=>?_⟩
  obtain ⟨r,⟨q1,tt,H,rfl,q3⟩,hr⟩:=run h i hi
  rw [hr]
  simp only [sB.1,seval]
  exact congrArg some (qbe q3 (qe _ _ _))
def qwl (ws:List Tok) (n:Nat):Option Int:=if isW ws n [111,114] = true then some 24 else none
theorem qgN {n:Nat} {k:Int} (h:qwl ws n = some k):(isW ws n [111,114] = true/\k = 24):=by
 simp only [qwl] at h
 cases h0:isW ws n [111,114] <;> simp_all
theorem qlH {n:Nat} (h:qwl ws n = none):isW ws n [111,114] = false:=by
 simp only [qwl] at h
 cases h0:isW ws n [111,114] <;> simp_all
theorem qzz (hw:WF ws) (i:Nat) (pos:Int) (e:Exp) (n:Nat) (o:Out) (hT:qeP (qwl ws) (qaA 90 ws) pos e n o):∀(tt:List qd) (H:List qk),n < ws.length->e.depth <= 20->tt.length = 18->lkp tt 0 = .ptr i 0->lkp tt 2 = .ptr h.length 0->lkp tt 3 = .ptr (h.length + 1) 0->qhp h i ws n ⟨e,pos⟩ H->
  qoa h i ws pos 18 (qg h.length Wd (.loop qiq) ⟨tt,H,false⟩) o:=by
 induction hT with
 | @stop e n hs=>
  intro tt H hn hd ht e0 e2 e3 hL
  have U:i < H.length:=by have:=hL.lt;have:=hL.len;omega
  have a7:h.length + 1 < H.length:=hL.len
  have a8:h.length < H.length:=zo
  have Y:i ≠ h.length + 1:=by have:=hL.lt;omega
  have a6:=blA h 1
  have hp:=hL.par
  have E:=hL.nod
  have I:=hL.res
  rw [NBi] at E
  rw [PBi] at hp
  rw [qcl] at I
  have s1:=qlH hs
  rw [qh]
  generalize he:qg h.length Wd qiq _ = r
  simp only [sB.1,qiq,seval,ht,e0,qy hw hn,hp,PBi,s1] at he
  subst he
  exact ⟨hn,hd,_,_,rfl,Y0,Y2,y7,hL⟩
 | @bad e n k p err m hs hx=>
  intro tt H hn hd ht e0 e2 e3 hL
  have U:i < H.length:=by have:=hL.lt;have:=hL.len;omega
  have a7:h.length + 1 < H.length:=hL.len
  have a8:h.length < H.length:=zo
  have Y:i ≠ h.length + 1:=by have:=hL.lt;omega
  have a6:=blA h 1
  have hp:=hL.par
  have E:=hL.nod
  have I:=hL.res
  rw [NBi] at E
  rw [PBi] at hp
  rw [qcl] at I
  obtain ⟨x1,x2⟩:=hx
  rw [qh]
  generalize he:qg h.length Wd qiq _ = r
  obtain ⟨s1,rfl⟩:=qgN hs
  ·simp only [sB.1,qiq,seval,ht,e0,e3,qt hw hn,hp,PBi,U,Y,E,Nd.cut6,Nd.cutE,qr,s1,x2] at he
   subst he
   exact ⟨x1,_,_,rfl,hL.cut0⟩
 | @deep e n k x n1 hs hx a1=>
  intro tt H hn hd ht e0 e2 e3 hL
  have U:i < H.length:=by have:=hL.lt;have:=hL.len;omega
  have a7:h.length + 1 < H.length:=hL.len
  have a8:h.length < H.length:=zo
  have Y:i ≠ h.length + 1:=by have:=hL.lt;omega
  have a6:=blA h 1
  have hp:=hL.par
  have E:=hL.nod
  have I:=hL.res
  rw [NBi] at E
  rw [PBi] at hp
  rw [qcl] at I
  obtain ⟨x1,x2,x3,x4⟩:=hx
  rw [qh]
  generalize he:qg h.length Wd qiq _ = r
  obtain ⟨s1,rfl⟩:=qgN hs
  ·simp only [sB.1,qiq,seval,ht,e0,e3,qt hw hn,hp,PBi,U,Y,E,hd,Nd.cut6,Nd.cutE,Nd.dimE,qr,qcz,s1,x4,x3,qej,a1] at he
   subst he
   exact ⟨x2,_,_,rfl,hL.cut0⟩
 | @go e n k x n1 o hs hx a1 _ ih=>
  intro tt H hn hd ht e0 e2 e3 hL
  have U:i < H.length:=by have:=hL.lt;have:=hL.len;omega
  have a7:h.length + 1 < H.length:=hL.len
  have a8:h.length < H.length:=zo
  have Y:i ≠ h.length + 1:=by have:=hL.lt;omega
  have a6:=blA h 1
  have hp:=hL.par
  have E:=hL.nod
  have I:=hL.res
  rw [NBi] at E
  rw [PBi] at hp
  rw [qcl] at I
  obtain ⟨x1,x2,x3,x4⟩:=hx
  rw [qh]
  generalize he:qg h.length Wd qiq _ = r
  obtain ⟨s1,rfl⟩:=qgN hs
  ·simp only [sB.1,qiq,seval,ht,e0,e3,qt hw hn,hp,PBi,U,Y,E,a6,hd,Nd.cut6,Nd.cutE,Nd.dimE,Nd.cellsE,Nd.dims,Nd.len,Nd.stor,Nd.drainE,Nd.drop7,qr,qcz,s1,x4,x3,qej,a1] at he
   subst he
   exact ih _ _ x2 a1 Y0 Y3 Y2 y7 hL.next0
theorem qEU (hw:WF ws) {n:Nat} (hn:n < ws.length) {p err:Int} {m:Nat} (h1:qaA 90 ws n (.no p err m)):qaA 64 ws n (.no p err m):=by
 obtain ⟨g1,g2⟩:=h1
 refine ⟨g1,λh i hi=>?_⟩
 have E:=qc hi
 rw [PBi] at hi
 rw [qu 64 c64]
 simp only [sB.1,c64,seval,g2,hi,E,PBi,qe]
theorem qCv (hw:WF ws) {n:Nat} (hn:n < ws.length) {e:Exp} {n1:Nat} {o:Out} (h1:qaA 90 ws n (.ok e n1)) (hT:qeP (qwl ws) (qaA 90 ws) (word ws n).pos e n1 o):qaA 64 ws n o:=by
 obtain ⟨g1,g2,g3,g4⟩:=h1
 have U:=hT.mono (λn x m h=>h.1)
 have run:∀(h:List qk) (i:Nat),h[i]? = some (PB ws n)->∃r,qoa h i ws (word ws n).pos 18 r o/\Wd (.fn 64 [] []) [.ptr i 0] h = qbS [.cell 2 (some 7)] h (qbr (qg h.length Wd (.seq (.reg [ao 17 (.ld (some 7) (.t 3)),an (.st (some 7) (.t 2) (.t 17))]) .ret)) (qbj 0 r)):=by
  intro h i hi
  have a1:=qc hi
  rw [PBi] at hi
  generalize hr:Wd (.fn 64 [] []) [.ptr i 0] h = R
  rw [qu 64 c64] at hr
  have a6:=blA h 1
  simp only [sB.1,c64,seval,g4,hi,a1,PBi,Nd.dimE,Nd.cellsE,Nd.dims,Nd.len,Nd.stor,Nd.drainE,a6] at hr
  generalize hq:qg h.length Wd (.loop qiq) _ = r at hr
  refine ⟨r,?_,?_⟩
  ·rw [<-hq]
   exact qzz hw i _ e n1 o hT _ _ g2 g3 Y1 Y1 Y1 Y1 (qhp.start a1)
  ·rw [<-hr]
   simp only [sC.1,seval]
 cases o with
 | ok e' n'=>
  have hm:=U e' n' rfl
  obtain ⟨r,hL,_⟩:=run (List.replicate 1 (PB ws n)) 0 rfl
  refine ⟨zo,hL.1,hL.2.1,λh i hi=>?_⟩
  obtain ⟨r,⟨q1,q2,tt,H,rfl,ht,e2,e3,hL⟩,hr⟩:=run h i hi
  have I:=hL.nod
  have E:=hL.res
  have a7:=hL.len
  have Y:h.length < H.length:=zo
  rw [NBi] at I
  rw [qcl] at E
  rw [hr]
  simp only [sB.1,seval,ht,e2,e3,I,E,Y,Nd.dimE,Nd.cellsE,Nd.cutE,Nd.dims,Nd.len,Nd.stor,Nd.drainE]
  exact congrArg some hL.answer
 | no pos err n'=>
  obtain ⟨r,hL,_⟩:=run (List.replicate 1 (PB ws n)) 0 rfl
  refine ⟨hL.1,λh i hi=>?_⟩
  obtain ⟨r,⟨q1,tt,H,rfl,q3⟩,hr⟩:=run h i hi
  rw [hr]
  simp only [sB.1,seval]
  exact congrArg some (qbe q3 (qe _ _ _))
end
section
variable {ws:List Tok} {n:Nat}
theorem qwd (hw:WF ws) (hn:n < ws.length) (hs:isW ws n [45] = true) {x:Exp} {n1:Nat} (h1:qaA 146 ws (n + 1) (.ok x n1)) (hd:(Exp.mk 13 0 [] [] [x]).depth <= 20):qaA 146 ws n (.ok (.mk 13 0 [] [] [x]) n1):=by
 obtain ⟨g1,g2,g3,g4⟩:=h1
 refine ⟨zo,g2,hd,λh i hi=>?_⟩
 have E:=qc hi
 rw [PBi] at hi
 rw [qu 146 qqi]
 simp only [sB.1,qqi,seval,qa4 hw hn,hi,E,PBi,qr,Nd.dimE,Nd.cellsE,Nd.cutE,Nd.dims,Nd.len,Nd.stor,Nd.lower,Nd.drainE,qcK,qt hw hn,hs,g4,g3,qi2,hd]
theorem qwb (hw:WF ws) (hn:n < ws.length) (hs:isW ws n [45] = true) {x:Exp} {n1:Nat} (h1:qaA 146 ws (n + 1) (.ok x n1)) (hd:¬ (Exp.mk 13 0 [] [] [x]).depth <= 20):qaA 146 ws n (.no (word ws n).pos 7 n1):=by
 obtain ⟨g1,g2,g3,g4⟩:=h1
 refine ⟨g2,λh i hi=>?_⟩
 have E:=qc hi
 rw [PBi] at hi
 rw [qu 146 qqi]
 simp only [sB.1,qqi,seval,qa4 hw hn,hi,E,PBi,qr,Nd.dimE,qcK,qe,qt hw hn,hs,g4,g3,qi2,hd]
theorem qzm (hw:WF ws) (hn:n < ws.length) (hs:isW ws n [45] = true) {p err:Int} {m:Nat} (h1:qaA 146 ws (n + 1) (.no p err m)):qaA 146 ws n (.no p err m):=by
 obtain ⟨g1,g2⟩:=h1
 refine ⟨g1,λh i hi=>?_⟩
 have E:=qc hi
 rw [PBi] at hi
 rw [qu 146 qqi]
 simp only [sB.1,qqi,seval,qa4 hw hn,hi,E,PBi,qr,qe,qt hw hn,hs,g2]
theorem qki (hw:WF ws) (hn:n < ws.length) (hs:isW ws n [45] = false) {o:Out} (h1:qaA 150 ws n o):qaA 146 ws n o:=by
 cases o with
 | ok e n1=>
  obtain ⟨g1,g2,g3,g4⟩:=h1
  refine ⟨g1,g2,g3,λh i hi=>?_⟩
  have E:=qc hi
  rw [PBi] at hi
  rw [qu 146 qqi]
  simp only [sB.1,qqi,seval,qa4 hw hn,hi,E,PBi,qr,Nd.dimE,Nd.cellsE,Nd.cutE,Nd.dims,Nd.len,Nd.stor,Nd.lower,Nd.drainE,qy hw hn,hs,g4]
 | no p err m=>
  obtain ⟨g1,g2⟩:=h1
  refine ⟨g1,λh i hi=>?_⟩
  have E:=qc hi
  rw [PBi] at hi
  rw [qu 146 qqi]
  simp only [sB.1,qqi,seval,qa4 hw hn,hi,E,PBi,qr,qe,qy hw hn,hs,g2]
theorem qwh (hw:WF ws) (hn:n < ws.length) (hs:isW ws n [110,111,116] = true) {x:Exp} {n1:Nat} (h1:qaA 122 ws (n + 1) (.ok x n1)) (hd:(Exp.mk 14 0 [] [] [x]).depth <= 20):qaA 122 ws n (.ok (.mk 14 0 [] [] [x]) n1):=by
 obtain ⟨g1,g2,g3,g4⟩:=h1
 refine ⟨zo,g2,hd,λh i hi=>?_⟩
 have E:=qc hi
 rw [PBi] at hi
 rw [qu 122 qqh]
 simp only [sB.1,qqh,seval,qa4 hw hn,hi,E,PBi,qr,Nd.dimE,Nd.cellsE,Nd.cutE,Nd.dims,Nd.len,Nd.stor,Nd.lower,Nd.drainE,qcK,qt hw hn,hs,g4,g3,qi2,hd]
theorem qwf (hw:WF ws) (hn:n < ws.length) (hs:isW ws n [110,111,116] = true) {x:Exp} {n1:Nat} (h1:qaA 122 ws (n + 1) (.ok x n1)) (hd:¬ (Exp.mk 14 0 [] [] [x]).depth <= 20):qaA 122 ws n (.no (word ws n).pos 7 n1):=by
 obtain ⟨g1,g2,g3,g4⟩:=h1
 refine ⟨g2,λh i hi=>?_⟩
 have E:=qc hi
 rw [PBi] at hi
 rw [qu 122 qqh]
 simp only [sB.1,qqh,seval,qa4 hw hn,hi,E,PBi,qr,Nd.dimE,qcK,qe,qt hw hn,hs,g4,g3,qi2,hd]
theorem qzr (hw:WF ws) (hn:n < ws.length) (hs:isW ws n [110,111,116] = true) {p err:Int} {m:Nat} (h1:qaA 122 ws (n + 1) (.no p err m)):qaA 122 ws n (.no p err m):=by
 obtain ⟨g1,g2⟩:=h1
 refine ⟨g1,λh i hi=>?_⟩
 have E:=qc hi
 rw [PBi] at hi
 rw [qu 122 qqh]
 simp only [sB.1,qqh,seval,qa4 hw hn,hi,E,PBi,qr,qe,qt hw hn,hs,g2]
theorem qwg (hw:WF ws) (hn:n < ws.length) (hs:isW ws n [110,111,116] = false) {o:Out} (h1:qaA 129 ws n o):qaA 122 ws n o:=by
 cases o with
 | ok e n1=>
  obtain ⟨g1,g2,g3,g4⟩:=h1
  refine ⟨g1,g2,g3,λh i hi=>?_⟩
  have E:=qc hi
  rw [PBi] at hi
  rw [qu 122 qqh]
  simp only [sB.1,qqh,seval,qa4 hw hn,hi,E,PBi,qr,Nd.dimE,Nd.cellsE,Nd.cutE,Nd.dims,Nd.len,Nd.stor,Nd.lower,Nd.drainE,qy hw hn,hs,g4]
 | no p err m=>
  obtain ⟨g1,g2⟩:=h1
  refine ⟨g1,λh i hi=>?_⟩
  have E:=qc hi
  rw [PBi] at hi
  rw [qu 122 qqh]
  simp only [sB.1,qqh,seval,qa4 hw hn,hi,E,PBi,qr,qe,qy hw hn,hs,g2]
def qfj (ws:List Tok) (n:Nat):Option Int:=if isW ws n [61] = true then some 20 else if isW ws n [60] = true then some 21 else if isW ws n [60,61] = true then some 22 else none
theorem qeG {n:Nat} {k:Int} (h:qfj ws n = some k):(isW ws n [61] = true/\k = 20)\/(isW ws n [61] = false/\isW ws n [60] = true/\k = 21)\/(isW ws n [61] = false/\isW ws n [60] = false/\isW ws n [60,61] = true/\k = 22):=by
 simp only [qfj] at h
 cases h0:isW ws n [61] <;> cases h1:isW ws n [60] <;> cases h2:isW ws n [60,61] <;> simp_all
theorem qiH {n:Nat} (h:qfj ws n = none):isW ws n [61] = false/\isW ws n [60] = false/\isW ws n [60,61] = false:=by
 simp only [qfj] at h
 cases h0:isW ws n [61] <;> cases h1:isW ws n [60] <;> cases h2:isW ws n [60,61] <;> simp_all
theorem qwW (hw:WF ws) (hn:n < ws.length) {p err:Int} {m:Nat} (h1:qaA 134 ws n (.no p err m)):qaA 129 ws n (.no p err m):=by
 obtain ⟨g1,g2⟩:=h1
 refine ⟨g1,λh i hi=>?_⟩
 have E:=qc hi
 rw [PBi] at hi
 rw [qu 129 qkN]
 simp only [sB.1,qkN,seval,hi,E,PBi,qe,g2]
theorem qwX (hw:WF ws) (hn:n < ws.length) {e:Exp} {n1:Nat} (h1:qaA 134 ws n (.ok e n1)) (hs:qfj ws n1 = none):qaA 129 ws n (.ok e n1):=by
 obtain ⟨g1,g2,g3,g4⟩:=h1
 obtain ⟨s1,s2,s3⟩:=qiH hs
 refine ⟨g1,g2,g3,λh i hi=>?_⟩
 have E:=blA h 1
 have I:=qc hi
 rw [PBi] at hi
 rw [qu 129 qkN]
 simp only [sB.1,qkN,seval,hi,I,PBi,Nd.dimE,Nd.cellsE,Nd.cutE,Nd.dims,Nd.len,Nd.stor,Nd.lower,Nd.drainE,g4,qy hw g2,s1,s2,s3,E]
theorem qlT (hw:WF ws) (hn:n < ws.length) {e:Exp} {n1:Nat} (h1:qaA 134 ws n (.ok e n1)) {k:Int} (hs:qfj ws n1 = some k) {p err:Int} {m:Nat} (h2:qaA 134 ws (n1 + 1) (.no p err m)):qaA 129 ws n (.no p err m):=by
 obtain ⟨g1,g2,g3,g4⟩:=h1
 obtain ⟨x1,x2⟩:=h2
 refine ⟨x1,λh i hi=>?_⟩
 have E:=blA h 1
 have I:=qc hi
 rw [PBi] at hi
 rw [qu 129 qkN]
 rcases qeG hs with ⟨s1,rfl⟩ | ⟨s1,s2,rfl⟩ | ⟨s1,s2,s3,rfl⟩
 ·simp only [sB.1,qkN,seval,hi,I,PBi,qr,Nd.dimE,Nd.cellsE,Nd.cutE,Nd.dims,Nd.len,Nd.stor,Nd.drainE,Nd.cut6,qe,g4,qt hw g2,s1,E,x2]
 ·simp only [sB.1,qkN,seval,hi,I,PBi,qr,Nd.dimE,Nd.cellsE,Nd.cutE,Nd.dims,Nd.len,Nd.stor,Nd.drainE,Nd.cut6,qe,g4,qy hw g2,qt hw g2,s1,s2,E,x2]
 ·simp only [sB.1,qkN,seval,hi,I,PBi,qr,Nd.dimE,Nd.cellsE,Nd.cutE,Nd.dims,Nd.len,Nd.stor,Nd.drainE,Nd.cut6,qe,g4,qy hw g2,qt hw g2,s1,s2,s3,E,x2]
theorem qkD (hw:WF ws) (hn:n < ws.length) {e:Exp} {n1:Nat} (h1:qaA 134 ws n (.ok e n1)) {k:Int} (hs:qfj ws n1 = some k) {x:Exp} {n2:Nat} (h2:qaA 134 ws (n1 + 1) (.ok x n2)) (hd:¬ (Exp.mk k 0 [] [] [e,x]).depth <= 20):qaA 129 ws n (.no (word ws n).pos 7 n2):=by
 obtain ⟨g1,g2,g3,g4⟩:=h1
 obtain ⟨x1,x2,x3,x4⟩:=h2
 refine ⟨x2,λh i hi=>?_⟩
 have E:=blA h 1
 have I:=qc hi
 rw [PBi] at hi
 rw [qu 129 qkN]
 rcases qeG hs with ⟨s1,rfl⟩ | ⟨s1,s2,rfl⟩ | ⟨s1,s2,s3,rfl⟩
 ·simp only [sB.1,qkN,seval,hi,I,PBi,qr,Nd.dimE,Nd.cellsE,Nd.cutE,Nd.dims,Nd.len,Nd.stor,Nd.drainE,Nd.cut6,qcz,qe,g4,qt hw g2,s1,E,x4,x3,g3,qej,hd]
 ·simp only [sB.1,qkN,seval,hi,I,PBi,qr,Nd.dimE,Nd.cellsE,Nd.cutE,Nd.dims,Nd.len,Nd.stor,Nd.drainE,Nd.cut6,qcz,qe,g4,qy hw g2,qt hw g2,s1,s2,E,x4,x3,g3,qej,hd]
 ·simp only [sB.1,qkN,seval,hi,I,PBi,qr,Nd.dimE,Nd.cellsE,Nd.cutE,Nd.dims,Nd.len,Nd.stor,Nd.drainE,Nd.cut6,qcz,qe,g4,qy hw g2,qt hw g2,s1,s2,s3,E,x4,x3,g3,qej,hd]
theorem qwY (hw:WF ws) (hn:n < ws.length) {e:Exp} {n1:Nat} (h1:qaA 134 ws n (.ok e n1)) {k:Int} (hs:qfj ws n1 = some k) {x:Exp} {n2:Nat} (h2:qaA 134 ws (n1 + 1) (.ok x n2)) (hd:(Exp.mk k 0 [] [] [e,x]).depth <= 20):qaA 129 ws n (.ok (.mk k 0 [] [] [e,x]) n2):=by
 obtain ⟨g1,g2,g3,g4⟩:=h1
 obtain ⟨x1,x2,x3,x4⟩:=h2
 refine ⟨zo,x2,hd,λh i hi=>?_⟩
 have E:=blA h 1
 have I:=qc hi
 rw [PBi] at hi
 rw [qu 129 qkN]
 rcases qeG hs with ⟨s1,rfl⟩ | ⟨s1,s2,rfl⟩ | ⟨s1,s2,s3,rfl⟩
 ·simp only [sB.1,qkN,seval,hi,I,PBi,qr,Nd.dimE,Nd.cellsE,Nd.cutE,Nd.dims,Nd.len,Nd.stor,Nd.lower,Nd.drainE,Nd.cut6,qcz,g4,qt hw g2,s1,E,x4,x3,g3,qej,hd]
 ·simp only [sB.1,qkN,seval,hi,I,PBi,qr,Nd.dimE,Nd.cellsE,Nd.cutE,Nd.dims,Nd.len,Nd.stor,Nd.lower,Nd.drainE,Nd.cut6,qcz,g4,qy hw g2,qt hw g2,s1,s2,E,x4,x3,g3,qej,hd]
 ·simp only [sB.1,qkN,seval,hi,I,PBi,qr,Nd.dimE,Nd.cellsE,Nd.cutE,Nd.dims,Nd.len,Nd.stor,Nd.lower,Nd.drainE,Nd.cut6,qcz,g4,qy hw g2,qt hw g2,s1,s2,s3,E,x4,x3,g3,qej,hd]
end
end Go.Proofs.YtkehdpkcdnofaaaGreatDoor.AE
