/- A part of the proof. No condition. -/
import Derived.Test.YtcbfifamliijlaaGreatDoorMa7
open Int renaming reduceNatCast'→rN
set_option maxRecDepth 100000
namespace Go.Proofs.YtcbfifamliijlaaGreatDoor.AE
open Go.AE
inductive qdw (op:Nat->Option Int) (sub:Nat->Out->Prop) (pos:Int):Exp->Nat->Out->Prop
 | stop {e n}:op n = none->qdw op sub pos e n (.ok e n)
 | bad {e n k p err m}:op n = some k->sub (n + 1) (.no p err m)->qdw op sub pos e n (.no p err m)
 | deep {e n k x n1}:op n = some k->sub (n + 1) (.ok x n1)->¬ (Exp.mk k 0 [] [] [e,x]).depth <= 20->qdw op sub pos e n (.no pos 7 n1)
 | go {e n k x n1 o}:op n = some k->sub (n + 1) (.ok x n1)->(Exp.mk k 0 [] [] [e,x]).depth <= 20->qdw op sub pos (.mk k 0 [] [] [e,x]) n1 o->qdw op sub pos e n o
theorem qdw.mono {op:Nat->Option Int} {sub:Nat->Out->Prop} {pos:Int} (hs:∀n x m,sub n (.ok x m)->n < m) {e:Exp} {n:Nat} {o:Out} (h:qdw op sub pos e n o):∀e' n',o = .ok e' n'->n <= n':=by
 induction h with
 | stop _=>intro e' n' h;cases h;exact Nat.le_refl _
 | bad _ _=>intro e' n' h;cases h
 | deep _ _ _=>intro e' n' h;cases h
 | go _ h1 _ _ ih=>intro e' n' h;have:=ih e' n' h;have:=hs _ _ _ h1;omega
theorem qeh.mono {ws:List Tok} {pos:Int} {e:Exp} {n:Nat} {o:Out} (h:qeh ws pos e n o):∀e' n',o = .ok e' n'->n <= n':=by
 induction h with
 | stop _=>intro e' n' h;cases h;exact Nat.le_refl _
 | bad _ _=>intro e' n' h;cases h
 | many _ _ _=>intro e' n' h;cases h
 | deep _ _ _ _=>intro e' n' h;cases h
 | go _ _ _ _ _ ih=>intro e' n' h;have:=ih e' n' h;omega
section
variable {ws:List Tok} {h:List qj}
def qvA (h:List qj) (i:Nat) (ws:List Tok) (pos:Int) (len:Nat) (r:Option (Ex×St)):Out->Prop
 | .ok e n=>n < ws.length/\e.depth <= 20/\∃tt H,r = some (.ret,⟨tt,H.set h.length (NB ⟨e,pos⟩),false⟩)/\tt.length = len/\lkp tt 2 = .ptr h.length 0/\qgW h i ws n ⟨e,pos⟩ H
 | .no p err n=>n < ws.length/\∃tt H,r = some (.pan (qbc p err),⟨tt,H,false⟩)/\H.take h.length = h.set i (PB ws n)
theorem qgW.facts {i n:Nat} {x:Nd} {H:List qj} (hL:qgW h i ws n x H):i < H.length/\h.length + 1 < H.length/\h.length < H.length/\i ≠ h.length + 1/\Nat.ble h.length (h.length + 1) = true/\H[i]? = some (.cells [.lst (ws.map Tok.enc) .no,.int .i64 (n:Int)])/\H[h.length + 1]? = some (.cells x.cs)/\H[h.length]? = some (.cells [.int .i64 0,.int .i64 0,.str [],.str [],.lst [] .full,.int .i64 0,.int .i64 0]):=by
 have h1:=hL.lt
 have h2:=hL.len
 exact ⟨zo,h2,zo,zo,qx zo,by rw [<-PBi];exact hL.par,by rw [<-NBi];exact hL.nod,by rw [<-qjC];exact hL.res⟩
theorem qgW.cut0 {i n n':Nat} {x:Nd} {H:List qj} (hl:qgW h i ws n x H):(H.set i (PB ws n')).take h.length = h.set i (PB ws n'):=by
 have:=hl.cut (n':=n') []
 simpa using this
theorem qgW.next0 {i n n':Nat} {x x':Nd} {H:List qj} (hl:qgW h i ws n x H):qgW h i ws n' x' ((H.set i (PB ws n')).set (h.length + 1) (NB x')):=by
 have:=hl.next (n':=n') (x':=x') []
 simpa using this
def qct (ws:List Tok) (n:Nat):Option Int:=if isW ws n [42] = true then some 17 else if isW ws n [47] = true then some 18 else if isW ws n [37] = true then some 19 else none
theorem qc2 {n:Nat} {k:Int} (h:qct ws n = some k):(isW ws n [42] = true/\k = 17)\/(isW ws n [42] = false/\isW ws n [47] = true/\k = 18)\/(isW ws n [42] = false/\isW ws n [47] = false/\isW ws n [37] = true/\k = 19):=by
 simp only [qct] at h
 cases h0:isW ws n [42] <;> cases h1:isW ws n [47] <;> cases h2:isW ws n [37] <;> simp_all
theorem qmY {n:Nat} (h:qct ws n = none):isW ws n [42] = false/\isW ws n [47] = false/\isW ws n [37] = false:=by
 simp only [qct] at h
 cases h0:isW ws n [42] <;> cases h1:isW ws n [47] <;> cases h2:isW ws n [37] <;> simp_all
theorem qua (hw:WF ws) (i:Nat) (pos:Int) (e:Exp) (n:Nat) (o:Out) (hT:qdw (qct ws) (qag 215 ws) pos e n o):∀(tt:List qd) (H:List qj),n < ws.length->e.depth <= 20->tt.length = 27->lkp tt 0 = .ptr i 0->lkp tt 2 = .ptr h.length 0->lkp tt 3 = .ptr (h.length + 1) 0->qgW h i ws n ⟨e,pos⟩ H->
  qvA h i ws pos 27 (qv h.length Wd (.loop qcs) ⟨tt,H,false⟩) o:=by
 induction hT with
 | @stop e n hs=>
  intro tt H hn hd ht e0 e2 e3 hL
  obtain ⟨I,a8,aa,Y,a6,hp,E,a7⟩:=hL.facts
  obtain ⟨s1,s2,s3⟩:=qmY hs
  rw [qn]
  generalize he:qv h.length Wd qcs _ = r
  simp only [qcs,sT.1,sC.1,qg,seval,-rN,ht,e0,e2,e3,qu hw hn,hp,PBi,E,a7,Nd.cutE,Nd.dimE,Nd.cellsE,Nd.dims,Nd.len,Nd.stor,Nd.drainE,s1,s2,s3] at he
  subst he
  exact ⟨hn,hd,_,_,rfl,Y1,Y3,hL⟩
 | @bad e n k p err m hs hx=>
  intro tt H hn hd ht e0 e2 e3 hL
  obtain ⟨I,a8,aa,Y,a6,hp,E,a7⟩:=hL.facts
  obtain ⟨x1,x2⟩:=hx
  rw [qn]
  generalize he:qv h.length Wd qcs _ = r
  rcases qc2 hs with ⟨s1,rfl⟩ | ⟨s1,s2,rfl⟩ | ⟨s1,s2,s3,rfl⟩
  ·simp only [qcs,sT.1,sC.1,qg,Nat.testBit,seval,-rN,ht,e0,e3,qo hw hn,hp,PBi,I,Y,E,Nd.cut6,Nd.cutE,qz,s1,x2] at he
   subst he
   exact ⟨x1,_,_,rfl,hL.cut0⟩
  ·simp only [qcs,sT.1,sC.1,qg,Nat.testBit,seval,-rN,ht,e0,e3,qo hw hn,qu hw hn,hp,PBi,I,Y,E,Nd.cut6,Nd.cutE,qz,s1,s2,x2] at he
   subst he
   exact ⟨x1,_,_,rfl,hL.cut0⟩
  ·simp only [qcs,sT.1,sC.1,qg,Nat.testBit,seval,-rN,ht,e0,e2,e3,qo hw hn,qu hw hn,hp,PBi,I,Y,E,Nd.cut6,Nd.cutE,Nd.dimE,Nd.cellsE,Nd.dims,Nd.drainE,qz,s1,s2,s3,x2] at he
   subst he
   exact ⟨x1,_,_,rfl,hL.cut0⟩
 | @deep e n k x n1 hs hx a1=>
  intro tt H hn hd ht e0 e2 e3 hL
  obtain ⟨I,a8,aa,Y,a6,hp,E,a7⟩:=hL.facts
  obtain ⟨x1,x2,x3,x4⟩:=hx
  rw [qn]
  generalize he:qv h.length Wd qcs _ = r
  rcases qc2 hs with ⟨s1,rfl⟩ | ⟨s1,s2,rfl⟩ | ⟨s1,s2,s3,rfl⟩
  ·simp only [qcs,sT.1,sC.1,qg,Nat.testBit,seval,-rN,ht,e0,e3,qo hw hn,hp,PBi,I,Y,E,hd,Nd.cut6,Nd.cutE,Nd.dimE,qz,qb9,s1,x4,x3,qem,a1] at he
   subst he
   exact ⟨x2,_,_,rfl,hL.cut0⟩
  ·simp only [qcs,sT.1,sC.1,qg,Nat.testBit,seval,-rN,ht,e0,e3,qo hw hn,qu hw hn,hp,PBi,I,Y,E,hd,Nd.cut6,Nd.cutE,Nd.dimE,qz,qb9,s1,s2,x4,x3,qem,a1] at he
   subst he
   exact ⟨x2,_,_,rfl,hL.cut0⟩
  ·simp only [qcs,sT.1,sC.1,qg,Nat.testBit,seval,-rN,ht,e0,e2,e3,qo hw hn,qu hw hn,hp,PBi,I,Y,E,hd,Nd.cut6,Nd.cutE,Nd.dimE,Nd.cellsE,Nd.dims,Nd.drainE,qz,qb9,s1,s2,s3,x4,x3,qem,a1] at he
   subst he
   exact ⟨x2,_,_,rfl,hL.cut0⟩
 | @go e n k x n1 o hs hx a1 _ ih=>
  intro tt H hn hd ht e0 e2 e3 hL
  obtain ⟨I,a8,aa,Y,a6,hp,E,a7⟩:=hL.facts
  obtain ⟨x1,x2,x3,x4⟩:=hx
  rw [qn]
  generalize he:qv h.length Wd qcs _ = r
  rcases qc2 hs with ⟨s1,rfl⟩ | ⟨s1,s2,rfl⟩ | ⟨s1,s2,s3,rfl⟩
  ·simp only [qcs,sT.1,sC.1,qg,Nat.testBit,seval,-rN,ht,e0,e3,qo hw hn,hp,PBi,I,Y,E,a6,hd,Nd.cut6,Nd.cutE,Nd.dimE,Nd.cellsE,Nd.dims,Nd.len,Nd.stor,Nd.drainE,Nd.drop7,qz,qb9,s1,x4,x3,qem,a1] at he
   subst he
   exact ih _ _ x2 a1 Y1 Y2 Y3 Y4 hL.next0
  ·simp only [qcs,sT.1,sC.1,qg,Nat.testBit,seval,-rN,ht,e0,e3,qo hw hn,qu hw hn,hp,PBi,I,Y,E,a6,hd,Nd.cut6,Nd.cutE,Nd.dimE,Nd.cellsE,Nd.dims,Nd.len,Nd.stor,Nd.drainE,Nd.drop7,qz,qb9,s1,s2,x4,x3,qem,a1] at he
   subst he
   exact ih _ _ x2 a1 Y1 Y2 Y3 Y4 hL.next0
  ·simp only [qcs,sT.1,sC.1,qg,Nat.testBit,seval,-rN,ht,e0,e2,e3,qo hw hn,qu hw hn,hp,PBi,I,Y,E,a6,hd,Nd.cut6,Nd.cutE,Nd.dimE,Nd.cellsE,Nd.dims,Nd.len,Nd.stor,Nd.drainE,Nd.drop7,qz,qb9,s1,s2,s3,x4,x3,qem,a1] at he
   subst he
   exact ih _ _ x2 a1 Y1 Y2 Y3 Y4 hL.next0
theorem qBm (hw:WF ws) {n:Nat} (hn:n < ws.length) {p err:Int} {m:Nat} (h1:qag 215 ws n (.no p err m)):qag 209 ws n (.no p err m):=by
 obtain ⟨g1,g2⟩:=h1
 refine ⟨g1,λh i hi=>?_⟩
 have E:=qf hi
 rw [PBi] at hi
 rw [qm 209 qCd]
 simp only [qCd,sT.1,sC.1,qg,seval,-rN,g2,hi,E,PBi,qe]
theorem qob (hw:WF ws) {n:Nat} (hn:n < ws.length) {e:Exp} {n1:Nat} {o:Out} (h1:qag 215 ws n (.ok e n1)) (hT:qdw (qct ws) (qag 215 ws) (word ws n).pos e n1 o):qag 209 ws n o:=by
 obtain ⟨g1,g2,g3,g4⟩:=h1
 have E:=hT.mono (λn x m h=>h.1)
 have run:∀(h:List qj) (i:Nat),h[i]? = some (PB ws n)->∃r,qvA h i ws (word ws n).pos 27 r o/\Wd (.fn 209 [] []) [.ptr i 0] h = qfO [.cell 2 (some 7)] h (qc8 0 r):=by
  intro h i hi
  have Y:=qf hi
  rw [PBi] at hi
  generalize hr:Wd (.fn 209 [] []) [.ptr i 0] h = R
  rw [qm 209 qCd] at hr
  simp only [qCd,sT.1,sC.1,qg,seval,-rN,g4,hi,Y,PBi,Nd.dimE,Nd.cellsE,Nd.dims,Nd.len,Nd.stor,Nd.drainE,qN] at hr
  generalize hq:qv h.length Wd (.loop qcs) _ = r at hr
  refine ⟨r,?_,?_⟩
  ·rw [<-hq]
   exact qua hw i _ e n1 o hT _ _ g2 g3 Y0 Y0 Y0 Y0 (qgW.start Y)
  ·rw [<-hr]
 cases o with
 | ok e' n'=>
  have hm:=E e' n' rfl
  obtain ⟨r,hL,_⟩:=run (List.replicate 1 (PB ws n)) 0 rfl
  refine ⟨zo,hL.1,hL.2.1,λh i hi=>?_⟩
  obtain ⟨r,⟨q1,q2,tt,H,rfl,ht,e2,hL⟩,hr⟩:=run h i hi
  have a6:=hL.nod
  have a1:=hL.res
  have a7:=hL.len
  have I:h.length < H.length:=zo
  rw [NBi] at a6
  rw [qjC] at a1
  rw [hr]
  simp only [sT.1,seval,-rN,e2,I,Nd.cutE,NBi]
  exact congrArg some hL.answer
 | no pos err n'=>
  obtain ⟨r,hL,_⟩:=run (List.replicate 1 (PB ws n)) 0 rfl
  refine ⟨hL.1,λh i hi=>?_⟩
  obtain ⟨r,⟨q1,tt,H,rfl,q3⟩,hr⟩:=run h i hi
  rw [hr]
  simp only [sT.1,seval,-rN]
  exact congrArg some (qa4 q3 (qe _ _ _))
def qdH (ws:List Tok) (n:Nat):Option Int:=if isW ws n [43] = true then some 15 else if isW ws n [45] = true then some 16 else none
theorem qdI {n:Nat} {k:Int} (h:qdH ws n = some k):(isW ws n [43] = true/\k = 15)\/(isW ws n [43] = false/\isW ws n [45] = true/\k = 16):=by
 simp only [qdH] at h
 cases h0:isW ws n [43] <;> cases h1:isW ws n [45] <;> simp_all
theorem qqn {n:Nat} (h:qdH ws n = none):isW ws n [43] = false/\isW ws n [45] = false:=by
 simp only [qdH] at h
 cases h0:isW ws n [43] <;> cases h1:isW ws n [45] <;> simp_all
theorem qyh (hw:WF ws) (i:Nat) (pos:Int) (e:Exp) (n:Nat) (o:Out) (hT:qdw (qdH ws) (qag 209 ws) pos e n o):∀(tt:List qd) (H:List qj),n < ws.length->e.depth <= 20->tt.length = 24->lkp tt 0 = .ptr i 0->lkp tt 2 = .ptr h.length 0->lkp tt 3 = .ptr (h.length + 1) 0->qgW h i ws n ⟨e,pos⟩ H->
  qvA h i ws pos 24 (qv h.length Wd (.loop qde) ⟨tt,H,false⟩) o:=by
 induction hT with
 | @stop e n hs=>
  intro tt H hn hd ht e0 e2 e3 hL
  obtain ⟨I,a8,aa,Y,a7,hp,E,a6⟩:=hL.facts
  obtain ⟨s1,s2⟩:=qqn hs
  rw [qn]
  generalize he:qv h.length Wd qde _ = r
  simp only [qde,sT.1,sC.1,qg,seval,-rN,ht,e0,e2,e3,qu hw hn,hp,PBi,E,a6,Nd.cutE,Nd.dimE,Nd.cellsE,Nd.dims,Nd.len,Nd.stor,Nd.drainE,s1,s2] at he
  subst he
  exact ⟨hn,hd,_,_,rfl,Y1,Y3,hL⟩
 | @bad e n k p err m hs hx=>
  intro tt H hn hd ht e0 e2 e3 hL
  obtain ⟨I,a8,aa,Y,a7,hp,E,a6⟩:=hL.facts
  obtain ⟨x1,x2⟩:=hx
  rw [qn]
  generalize he:qv h.length Wd qde _ = r
  rcases qdI hs with ⟨s1,rfl⟩ | ⟨s1,s2,rfl⟩
  ·simp only [qde,sT.1,sC.1,qg,Nat.testBit,seval,-rN,ht,e0,e3,qo hw hn,hp,PBi,I,Y,E,Nd.cut6,Nd.cutE,qz,s1,x2] at he
   subst he
   exact ⟨x1,_,_,rfl,hL.cut0⟩
  ·simp only [qde,sT.1,sC.1,qg,Nat.testBit,seval,-rN,ht,e0,e2,e3,qo hw hn,qu hw hn,hp,PBi,I,Y,E,Nd.cut6,Nd.cutE,Nd.dimE,Nd.cellsE,Nd.dims,Nd.drainE,qz,s1,s2,x2] at he
   subst he
   exact ⟨x1,_,_,rfl,hL.cut0⟩
 | @deep e n k x n1 hs hx a1=>
  intro tt H hn hd ht e0 e2 e3 hL
  obtain ⟨I,a8,aa,Y,a7,hp,E,a6⟩:=hL.facts
  obtain ⟨x1,x2,x3,x4⟩:=hx
  rw [qn]
  generalize he:qv h.length Wd qde _ = r
  rcases qdI hs with ⟨s1,rfl⟩ | ⟨s1,s2,rfl⟩
  ·simp only [qde,sT.1,sC.1,qg,Nat.testBit,seval,-rN,ht,e0,e3,qo hw hn,hp,PBi,I,Y,E,hd,Nd.cut6,Nd.cutE,Nd.dimE,qz,qb9,s1,x4,x3,qem,a1] at he
   subst he
   exact ⟨x2,_,_,rfl,hL.cut0⟩
  ·simp only [qde,sT.1,sC.1,qg,Nat.testBit,seval,-rN,ht,e0,e2,e3,qo hw hn,qu hw hn,hp,PBi,I,Y,E,hd,Nd.cut6,Nd.cutE,Nd.dimE,Nd.cellsE,Nd.dims,Nd.drainE,qz,qb9,s1,s2,x4,x3,qem,a1] at he
   subst he
   exact ⟨x2,_,_,rfl,hL.cut0⟩
 | @go e n k x n1 o hs hx a1 _ ih=>
  intro tt H hn hd ht e0 e2 e3 hL
  obtain ⟨I,a8,aa,Y,a7,hp,E,a6⟩:=hL.facts
  obtain ⟨x1,x2,x3,x4⟩:=hx
  rw [qn]
  generalize he:qv h.length Wd qde _ = r
  rcases qdI hs with ⟨s1,rfl⟩ | ⟨s1,s2,rfl⟩
  ·simp only [qde,sT.1,sC.1,qg,Nat.testBit,seval,-rN,ht,e0,e3,qo hw hn,hp,PBi,I,Y,E,a7,hd,Nd.cut6,Nd.cutE,Nd.dimE,Nd.cellsE,Nd.dims,Nd.len,Nd.stor,Nd.drainE,Nd.drop7,qz,qb9,s1,x4,x3,qem,a1] at he
   subst he
   exact ih _ _ x2 a1 Y1 Y2 Y3 Y4 hL.next0
  ·simp only [qde,sT.1,sC.1,qg,Nat.testBit,seval,-rN,ht,e0,e2,e3,qo hw hn,qu hw hn,hp,PBi,I,Y,E,a7,hd,Nd.cut6,Nd.cutE,Nd.dimE,Nd.cellsE,Nd.dims,Nd.len,Nd.stor,Nd.drainE,Nd.drop7,qz,qb9,s1,s2,x4,x3,qem,a1] at he
   subst he
   exact ih _ _ x2 a1 Y1 Y2 Y3 Y4 hL.next0
theorem qEK (hw:WF ws) {n:Nat} (hn:n < ws.length) {p err:Int} {m:Nat} (h1:qag 209 ws n (.no p err m)):qag 198 ws n (.no p err m):=by
 obtain ⟨g1,g2⟩:=h1
 refine ⟨g1,λh i hi=>?_⟩
 have E:=qf hi
 rw [PBi] at hi
 rw [qm 198 qCc]
 simp only [qCc,sT.1,sC.1,qg,seval,-rN,g2,hi,E,PBi,qe]
theorem quV (hw:WF ws) {n:Nat} (hn:n < ws.length) {e:Exp} {n1:Nat} {o:Out} (h1:qag 209 ws n (.ok e n1)) (hT:qdw (qdH ws) (qag 209 ws) (word ws n).pos e n1 o):qag 198 ws n o:=by
 obtain ⟨g1,g2,g3,g4⟩:=h1
 have E:=hT.mono (λn x m h=>h.1)
 have run:∀(h:List qj) (i:Nat),h[i]? = some (PB ws n)->∃r,qvA h i ws (word ws n).pos 24 r o/\Wd (.fn 198 [] []) [.ptr i 0] h = qfO [.cell 2 (some 7)] h (qc8 0 r):=by
  intro h i hi
  have Y:=qf hi
  rw [PBi] at hi
  generalize hr:Wd (.fn 198 [] []) [.ptr i 0] h = R
  rw [qm 198 qCc] at hr
  simp only [qCc,sT.1,sC.1,qg,seval,-rN,g4,hi,Y,PBi,Nd.dimE,Nd.cellsE,Nd.dims,Nd.len,Nd.stor,Nd.drainE,qN] at hr
  generalize hq:qv h.length Wd (.loop qde) _ = r at hr
  refine ⟨r,?_,?_⟩
  ·rw [<-hq]
   exact qyh hw i _ e n1 o hT _ _ g2 g3 Y0 Y0 Y0 Y0 (qgW.start Y)
  ·rw [<-hr]
 cases o with
 | ok e' n'=>
  have hm:=E e' n' rfl
  obtain ⟨r,hL,_⟩:=run (List.replicate 1 (PB ws n)) 0 rfl
  refine ⟨zo,hL.1,hL.2.1,λh i hi=>?_⟩
  obtain ⟨r,⟨q1,q2,tt,H,rfl,ht,e2,hL⟩,hr⟩:=run h i hi
  have a6:=hL.nod
  have a1:=hL.res
  have a7:=hL.len
  have I:h.length < H.length:=zo
  rw [NBi] at a6
  rw [qjC] at a1
  rw [hr]
  simp only [sT.1,seval,-rN,e2,I,Nd.cutE,NBi]
  exact congrArg some hL.answer
 | no pos err n'=>
  obtain ⟨r,hL,_⟩:=run (List.replicate 1 (PB ws n)) 0 rfl
  refine ⟨hL.1,λh i hi=>?_⟩
  obtain ⟨r,⟨q1,tt,H,rfl,q3⟩,hr⟩:=run h i hi
  rw [hr]
  simp only [sT.1,seval,-rN]
  exact congrArg some (qa4 q3 (qe _ _ _))
def qhi (w:Str) (kk:Int) (ws:List Tok) (n:Nat):Option Int:=if isW ws n w = true then some kk else none
def lvB (w:Str) (kk:Int) (U:FuncId):qF:=
 (.seq (.seq (.reg [ao 6 (.mov (.t 0)),ao 7 (.call (.c (.fn 95 [] [])) [(.t 6),(.c (.str w))])]) (.cond (.t 7) (.skip) (.exit 0)))
 (.block 1 (.draw [⟨ao 8 (.mov (.t 0)),0,0⟩,⟨ao 9 (.fa 6 (.t 3)),1,0⟩,⟨ao 10 (.ld none (.t 9)),2,2⟩,⟨ao 11 (.build [(.int .i64 0),(.int .i64 0),(.str []),(.str []),(.lst [] .full)] [(0,1,(.c (.int .i64 kk)))]),3,0⟩,⟨ao 12 (.ld (some 7) (.t 3)),4,0⟩,⟨ao 13 (.mov (.t 0)),5,0⟩,⟨ao 14 (.call (.c (.fn U [] [])) [(.t 13)]),6,32⟩,
 ⟨ao 15 (.list 7 [(.int .i64 0),(.int .i64 0),(.str []),(.str []),(.lst [] .full),(.int .i64 0),(.int .i64 0)] 2 [(0,(.t 12)),(1,(.t 14))]),7,112⟩,⟨ao 16 (.call (.c (.fn 101 [] [])) [(.t 8),(.t 10),(.t 11),(.t 15)]),8,255⟩,⟨an (.st (some 7) (.t 3) (.t 16)),9,511⟩])))
def lvF (w:Str) (kk:Int) (U:FuncId):qt:=⟨18,[.cell 2 (some 7)],(.seq (.reg [ao 2 (.new [(.int .i64 0),(.int .i64 0),(.str []),(.str []),(.lst [] .full),(.int .i64 0),(.int .i64 0)])])
 (.seq (.reg [ao 4 (.mov (.t 0)),ao 5 (.call (.c (.fn U [] [])) [(.t 4)]),ao 3 (.new [(.int .i64 0),(.int .i64 0),(.str []),(.str []),(.lst [] .full),(.int .i64 0),(.int .i64 0)]),an (.st (some 7) (.t 3) (.t 5))])
 (.seq (.block 0 (.loop (lvB w kk U))) (.seq (.reg [ao 17 (.ld (some 7) (.t 3)),an (.st (some 7) (.t 2) (.t 17))]) (.ret)))))⟩
section
variable {w:Str} {kk:Int} {F U:FuncId}
theorem qdD {n:Nat} {k:Int} (h:qhi w kk ws n = some k):(isW ws n w = true/\k = kk):=by
 simp only [qhi] at h
 cases h0:isW ws n w <;> simp_all
theorem qpZ {n:Nat} (h:qhi w kk ws n = none):isW ws n w = false:=by
 simp only [qhi] at h
 cases h0:isW ws n w <;> simp_all
theorem qAX (hw:WF ws) (i:Nat) (pos:Int) (e:Exp) (n:Nat) (o:Out) (hT:qdw (qhi w kk ws) (qag U ws) pos e n o):∀(tt:List qd) (H:List qj),n < ws.length->e.depth <= 20->tt.length = 18->lkp tt 0 = .ptr i 0->lkp tt 2 = .ptr h.length 0->lkp tt 3 = .ptr (h.length + 1) 0->qgW h i ws n ⟨e,pos⟩ H->
  qvB h i ws pos 18 (qv h.length Wd (.loop (lvB w kk U)) ⟨tt,H,false⟩) o:=by
 induction hT with
 | @stop e n hs=>
  intro tt H hn hd ht e0 e2 e3 hL
  obtain ⟨I,a8,aa,Y,a7,hp,E,a1⟩:=hL.facts
  have s1:=qpZ hs
  rw [qn]
  generalize he:qv h.length Wd (lvB w kk U) _ = r
  simp only [lvB,sT.1,sC.1,qg,seval,-rN,ht,e0,qu hw hn,hp,PBi,s1] at he
  subst he
  exact ⟨hn,hd,_,_,rfl,Y1,Y3,Y4,hL⟩
 | @bad e n k p err m hs hx=>
  intro tt H hn hd ht e0 e2 e3 hL
  obtain ⟨I,a8,aa,Y,a7,hp,E,a1⟩:=hL.facts
  obtain ⟨x1,x2⟩:=hx
  rw [qn]
  generalize he:qv h.length Wd (lvB w kk U) _ = r
  obtain ⟨s1,rfl⟩:=qdD hs
  ·simp only [lvB,sT.1,sC.1,qg,Nat.testBit,seval,-rN,ht,e0,e3,qo hw hn,hp,PBi,I,Y,E,Nd.cut6,Nd.cutE,qz,s1,x2] at he
   subst he
   exact ⟨x1,_,_,rfl,hL.cut0⟩
 | @deep e n k x n1 hs hx a6=>
  intro tt H hn hd ht e0 e2 e3 hL
  obtain ⟨I,a8,aa,Y,a7,hp,E,a1⟩:=hL.facts
  obtain ⟨x1,x2,x3,x4⟩:=hx
  rw [qn]
  generalize he:qv h.length Wd (lvB w kk U) _ = r
  obtain ⟨s1,rfl⟩:=qdD hs
  ·simp only [lvB,sT.1,sC.1,qg,Nat.testBit,seval,-rN,ht,e0,e3,qo hw hn,hp,PBi,I,Y,E,hd,Nd.cut6,Nd.cutE,Nd.dimE,qz,qb9,s1,x4,x3,qem,a6] at he
   subst he
   exact ⟨x2,_,_,rfl,hL.cut0⟩
 | @go e n k x n1 o hs hx a6 _ ih=>
  intro tt H hn hd ht e0 e2 e3 hL
  obtain ⟨I,a8,aa,Y,a7,hp,E,a1⟩:=hL.facts
  obtain ⟨x1,x2,x3,x4⟩:=hx
  rw [qn]
  generalize he:qv h.length Wd (lvB w kk U) _ = r
  obtain ⟨s1,rfl⟩:=qdD hs
  ·simp only [lvB,sT.1,sC.1,qg,Nat.testBit,seval,-rN,ht,e0,e3,qo hw hn,hp,PBi,I,Y,E,a7,hd,Nd.cut6,Nd.cutE,Nd.dimE,Nd.cellsE,Nd.dims,Nd.len,Nd.stor,Nd.drainE,Nd.drop7,qz,qb9,s1,x4,x3,qem,a6] at he
   subst he
   exact ih _ _ x2 a6 Y1 Y2 Y3 Y4 hL.next0
theorem qD1 (hX:X F = none) (hF:T.get F = some (lvF w kk U)) (hw:WF ws) {n:Nat} (hn:n < ws.length) {p err:Int} {m:Nat} (h1:qag U ws n (.no p err m)):qag F ws n (.no p err m):=by
 obtain ⟨g1,g2⟩:=h1
 refine ⟨g1,λh i hi=>?_⟩
 have E:=qf hi
 rw [PBi] at hi
 rw [qm _ _ hX hF]
 simp only [lvF,sT.1,sC.1,qg,seval,-rN,g2,hi,E,PBi,qe]
theorem qy2 (hX:X F = none) (hF:T.get F = some (lvF w kk U)) (hw:WF ws) {n:Nat} (hn:n < ws.length) {e:Exp} {n1:Nat} {o:Out} (h1:qag U ws n (.ok e n1)) (hT:qdw (qhi w kk ws) (qag U ws) (word ws n).pos e n1 o):qag F ws n o:=by
 obtain ⟨g1,g2,g3,g4⟩:=h1
 have Y:=hT.mono (λn x m h=>h.1)
 have run:∀(h:List qj) (i:Nat),h[i]? = some (PB ws n)->∃r,qvB h i ws (word ws n).pos 18 r o/\Wd (.fn F [] []) [.ptr i 0] h = qfO [.cell 2 (some 7)] h (qb8 (qv h.length Wd (.seq (.reg [ao 17 (.ld (some 7) (.t 3)),an (.st (some 7) (.t 2) (.t 17))]) .ret)) (qc8 0 r)):=by
  intro h i hi
  have a6:=qf hi
  rw [PBi] at hi
  generalize hr:Wd (.fn F [] []) [.ptr i 0] h = R
  rw [qm _ _ hX hF] at hr
  simp only [lvF,sT.1,sC.1,qg,seval,-rN,g4,hi,a6,PBi,Nd.dimE,Nd.cellsE,Nd.dims,Nd.len,Nd.stor,Nd.drainE,qN] at hr
  generalize hq:qv h.length Wd (.loop (lvB w kk U)) _ = r at hr
  refine ⟨r,?_,?_⟩
  ·rw [<-hq]
   exact qAX hw i _ e n1 o hT _ _ g2 g3 Y0 Y0 Y0 Y0 (qgW.start a6)
  ·rw [<-hr]
   simp only [sC.1,seval,-rN]
 cases o with
 | ok e' n'=>
  have hm:=Y e' n' rfl
  obtain ⟨r,hL,_⟩:=run (List.replicate 1 (PB ws n)) 0 rfl
  refine ⟨zo,hL.1,hL.2.1,λh i hi=>?_⟩
  obtain ⟨r,⟨q1,q2,tt,H,rfl,ht,e2,e3,hL⟩,hr⟩:=run h i hi
  have I:=hL.nod
  have E:=hL.res
  have a7:=hL.len
  have a1:h.length < H.length:=zo
  rw [NBi] at I
  rw [qjC] at E
  rw [hr]
  simp only [sT.1,sC.1,qg,seval,-rN,ht,e2,e3,I,E,a1,Nd.dimE,Nd.cellsE,Nd.cutE,Nd.dims,Nd.len,Nd.stor,Nd.drainE]
  exact congrArg some hL.answer
 | no pos err n'=>
  obtain ⟨r,hL,_⟩:=run (List.replicate 1 (PB ws n)) 0 rfl
  refine ⟨hL.1,λh i hi=>?_⟩
  obtain ⟨r,⟨q1,tt,H,rfl,q3⟩,hr⟩:=run h i hi
  rw [hr]
  simp only [sT.1,sC.1,seval,-rN]
  exact congrArg some (qa4 q3 (qe _ _ _))
end
abbrev qhG:=qhi [97,110,100] 23
abbrev qtZ:=qhi [111,114] 24
theorem qiV {n:Nat} {k:Int} (h:qhG ws n = some k):isW ws n [97,110,100] = true/\k = 23:=qdD h
theorem qlx {n:Nat} {k:Int} (h:qtZ ws n = some k):isW ws n [111,114] = true/\k = 24:=qdD h
theorem qCx (hw:WF ws) {n:Nat} (hn:n < ws.length) {p err:Int} {m:Nat} (h1:qag 183 ws n (.no p err m)):qag 148 ws n (.no p err m):=qD1 (w:=[97,110,100]) (kk:=23) rfl zk hw hn h1
theorem qqV (hw:WF ws) {n:Nat} (hn:n < ws.length) {e:Exp} {n1:Nat} {o:Out} (h1:qag 183 ws n (.ok e n1)) (hT:qdw (qhG ws) (qag 183 ws) (word ws n).pos e n1 o):qag 148 ws n o:=qy2 (w:=[97,110,100]) (kk:=23) rfl zk hw hn h1 hT
theorem qIy (hw:WF ws) {n:Nat} (hn:n < ws.length) {p err:Int} {m:Nat} (h1:qag 148 ws n (.no p err m)):qag 100 ws n (.no p err m):=qD1 (w:=[111,114]) (kk:=24) rfl zk hw hn h1
theorem qzd (hw:WF ws) {n:Nat} (hn:n < ws.length) {e:Exp} {n1:Nat} {o:Out} (h1:qag 148 ws n (.ok e n1)) (hT:qdw (qtZ ws) (qag 148 ws) (word ws n).pos e n1 o):qag 100 ws n o:=qy2 (w:=[111,114]) (kk:=24) rfl zk hw hn h1 hT
end
section
variable {ws:List Tok} {n:Nat}
theorem qn1 (hw:WF ws) (hn:n < ws.length) (hs:isW ws n [45] = true) {x:Exp} {n1:Nat} (h1:qag 215 ws (n + 1) (.ok x n1)) (hd:(Exp.mk 13 0 [] [] [x]).depth <= 20):qag 215 ws n (.ok (.mk 13 0 [] [] [x]) n1):=by
 obtain ⟨g1,g2,g3,g4⟩:=h1
 refine ⟨zo,g2,hd,λh i hi=>?_⟩
 have E:=qf hi
 rw [PBi] at hi
 rw [qm 215 qqE]
 simp only [qqE,sT.1,sC.1,qg,seval,-rN,qaE hw hn,hi,E,PBi,qz,Nd.dimE,Nd.cellsE,Nd.cutE,Nd.dims,Nd.len,Nd.stor,Nd.lower,Nd.drainE,qb4,qo hw hn,hs,g4,g3,qiP,hd]
theorem qxq (hw:WF ws) (hn:n < ws.length) (hs:isW ws n [45] = true) {x:Exp} {n1:Nat} (h1:qag 215 ws (n + 1) (.ok x n1)) (hd:¬ (Exp.mk 13 0 [] [] [x]).depth <= 20):qag 215 ws n (.no (word ws n).pos 7 n1):=by
 obtain ⟨g1,g2,g3,g4⟩:=h1
 refine ⟨g2,λh i hi=>?_⟩
 have E:=qf hi
 rw [PBi] at hi
 rw [qm 215 qqE]
 simp only [qqE,sT.1,sC.1,qg,seval,-rN,qaE hw hn,hi,E,PBi,qz,Nd.dimE,qb4,qe,qo hw hn,hs,g4,g3,qiP,hd]
theorem qA8 (hw:WF ws) (hn:n < ws.length) (hs:isW ws n [45] = true) {p err:Int} {m:Nat} (h1:qag 215 ws (n + 1) (.no p err m)):qag 215 ws n (.no p err m):=by
 obtain ⟨g1,g2⟩:=h1
 refine ⟨g1,λh i hi=>?_⟩
 have E:=qf hi
 rw [PBi] at hi
 rw [qm 215 qqE]
 simp only [qqE,sT.1,sC.1,qg,seval,-rN,qaE hw hn,hi,E,PBi,qz,qe,qo hw hn,hs,g2]
theorem qj7 (hw:WF ws) (hn:n < ws.length) (hs:isW ws n [45] = false) {o:Out} (h1:qag 218 ws n o):qag 215 ws n o:=by
 cases o with
 | ok e n1=>
  obtain ⟨g1,g2,g3,g4⟩:=h1
  refine ⟨g1,g2,g3,λh i hi=>?_⟩
  have E:=qf hi
  rw [PBi] at hi
  rw [qm 215 qqE]
  simp only [qqE,sT.1,sC.1,qg,seval,-rN,qaE hw hn,hi,E,PBi,qz,Nd.dimE,Nd.cellsE,Nd.cutE,Nd.dims,Nd.len,Nd.stor,Nd.lower,Nd.drainE,qu hw hn,hs,g4]
 | no p err m=>
  obtain ⟨g1,g2⟩:=h1
  refine ⟨g1,λh i hi=>?_⟩
  have E:=qf hi
  rw [PBi] at hi
  rw [qm 215 qqE]
  simp only [qqE,sT.1,sC.1,qg,seval,-rN,qaE hw hn,hi,E,PBi,qz,qe,qu hw hn,hs,g2]
theorem qn3 (hw:WF ws) (hn:n < ws.length) (hs:isW ws n [110,111,116] = true) {x:Exp} {n1:Nat} (h1:qag 183 ws (n + 1) (.ok x n1)) (hd:(Exp.mk 14 0 [] [] [x]).depth <= 20):qag 183 ws n (.ok (.mk 14 0 [] [] [x]) n1):=by
 obtain ⟨g1,g2,g3,g4⟩:=h1
 refine ⟨zo,g2,hd,λh i hi=>?_⟩
 have E:=qf hi
 rw [PBi] at hi
 rw [qm 183 qqD]
 simp only [qqD,sT.1,sC.1,qg,seval,-rN,qaE hw hn,hi,E,PBi,qz,Nd.dimE,Nd.cellsE,Nd.cutE,Nd.dims,Nd.len,Nd.stor,Nd.lower,Nd.drainE,qb4,qo hw hn,hs,g4,g3,qiP,hd]
theorem qxt (hw:WF ws) (hn:n < ws.length) (hs:isW ws n [110,111,116] = true) {x:Exp} {n1:Nat} (h1:qag 183 ws (n + 1) (.ok x n1)) (hd:¬ (Exp.mk 14 0 [] [] [x]).depth <= 20):qag 183 ws n (.no (word ws n).pos 7 n1):=by
 obtain ⟨g1,g2,g3,g4⟩:=h1
 refine ⟨g2,λh i hi=>?_⟩
 have E:=qf hi
 rw [PBi] at hi
 rw [qm 183 qqD]
 simp only [qqD,sT.1,sC.1,qg,seval,-rN,qaE hw hn,hi,E,PBi,qz,Nd.dimE,qb4,qe,qo hw hn,hs,g4,g3,qiP,hd]
theorem qBe (hw:WF ws) (hn:n < ws.length) (hs:isW ws n [110,111,116] = true) {p err:Int} {m:Nat} (h1:qag 183 ws (n + 1) (.no p err m)):qag 183 ws n (.no p err m):=by
 obtain ⟨g1,g2⟩:=h1
 refine ⟨g1,λh i hi=>?_⟩
 have E:=qf hi
 rw [PBi] at hi
 rw [qm 183 qqD]
 simp only [qqD,sT.1,sC.1,qg,seval,-rN,qaE hw hn,hi,E,PBi,qz,qe,qo hw hn,hs,g2]
theorem qn2 (hw:WF ws) (hn:n < ws.length) (hs:isW ws n [110,111,116] = false) {o:Out} (h1:qag 190 ws n o):qag 183 ws n o:=by
 cases o with
 | ok e n1=>
  obtain ⟨g1,g2,g3,g4⟩:=h1
  refine ⟨g1,g2,g3,λh i hi=>?_⟩
  have E:=qf hi
  rw [PBi] at hi
  rw [qm 183 qqD]
  simp only [qqD,sT.1,sC.1,qg,seval,-rN,qaE hw hn,hi,E,PBi,qz,Nd.dimE,Nd.cellsE,Nd.cutE,Nd.dims,Nd.len,Nd.stor,Nd.lower,Nd.drainE,qu hw hn,hs,g4]
 | no p err m=>
  obtain ⟨g1,g2⟩:=h1
  refine ⟨g1,λh i hi=>?_⟩
  have E:=qf hi
  rw [PBi] at hi
  rw [qm 183 qqD]
  simp only [qqD,sT.1,sC.1,qg,seval,-rN,qaE hw hn,hi,E,PBi,qz,qe,qu hw hn,hs,g2]
def qcv (ws:List Tok) (n:Nat):Option Int:=if isW ws n [61] = true then some 20 else if isW ws n [60] = true then some 21 else if isW ws n [60,61] = true then some 22 else none
theorem qc3 {n:Nat} {k:Int} (h:qcv ws n = some k):(isW ws n [61] = true/\k = 20)\/(isW ws n [61] = false/\isW ws n [60] = true/\k = 21)\/(isW ws n [61] = false/\isW ws n [60] = false/\isW ws n [60,61] = true/\k = 22):=by
 simp only [qcv] at h
 cases h0:isW ws n [61] <;> cases h1:isW ws n [60] <;> cases h2:isW ws n [60,61] <;> simp_all
theorem qm7 {n:Nat} (h:qcv ws n = none):isW ws n [61] = false/\isW ws n [60] = false/\isW ws n [60,61] = false:=by
 simp only [qcv] at h
 cases h0:isW ws n [61] <;> cases h1:isW ws n [60] <;> cases h2:isW ws n [60,61] <;> simp_all
theorem qx6 (hw:WF ws) (hn:n < ws.length) {p err:Int} {m:Nat} (h1:qag 198 ws n (.no p err m)):qag 190 ws n (.no p err m):=by
 obtain ⟨g1,g2⟩:=h1
 refine ⟨g1,λh i hi=>?_⟩
 have E:=qf hi
 rw [PBi] at hi
 rw [qm 190 qkv]
 simp only [qkv,sT.1,sC.1,qg,seval,-rN,hi,E,PBi,qe,g2]
theorem qoj (hw:WF ws) (hn:n < ws.length) {e:Exp} {n1:Nat} (h1:qag 198 ws n (.ok e n1)) (hs:qcv ws n1 = none):qag 190 ws n (.ok e n1):=by
 obtain ⟨g1,g2,g3,g4⟩:=h1
 obtain ⟨s1,s2,s3⟩:=qm7 hs
 refine ⟨g1,g2,g3,λh i hi=>?_⟩
 have E:=qf hi
 rw [PBi] at hi
 rw [qm 190 qkv]
 simp only [qkv,sT.1,sC.1,qg,seval,-rN,hi,E,PBi,Nd.dimE,Nd.cellsE,Nd.cutE,Nd.dims,Nd.len,Nd.stor,Nd.lower,Nd.drainE,g4,qu hw g2,s1,s2,s3,qN]
theorem qlK (hw:WF ws) (hn:n < ws.length) {e:Exp} {n1:Nat} (h1:qag 198 ws n (.ok e n1)) {k:Int} (hs:qcv ws n1 = some k) {p err:Int} {m:Nat} (h2:qag 198 ws (n1 + 1) (.no p err m)):qag 190 ws n (.no p err m):=by
 obtain ⟨g1,g2,g3,g4⟩:=h1
 obtain ⟨x1,x2⟩:=h2
 refine ⟨x1,λh i hi=>?_⟩
 have E:=qf hi
 rw [PBi] at hi
 rw [qm 190 qkv]
 rcases qc3 hs with ⟨s1,rfl⟩ | ⟨s1,s2,rfl⟩ | ⟨s1,s2,s3,rfl⟩
 ·simp only [qkv,sT.1,sC.1,qg,Nat.testBit,seval,-rN,hi,E,PBi,qz,Nd.dimE,Nd.cellsE,Nd.cutE,Nd.dims,Nd.len,Nd.stor,Nd.drainE,Nd.cut6,qe,g4,qo hw g2,s1,qN,x2]
 ·simp only [qkv,sT.1,sC.1,qg,Nat.testBit,seval,-rN,hi,E,PBi,qz,Nd.dimE,Nd.cellsE,Nd.cutE,Nd.dims,Nd.len,Nd.stor,Nd.drainE,Nd.cut6,qe,g4,qu hw g2,qo hw g2,s1,s2,qN,x2]
 ·simp only [qkv,sT.1,sC.1,qg,Nat.testBit,seval,-rN,hi,E,PBi,qz,Nd.dimE,Nd.cellsE,Nd.cutE,Nd.dims,Nd.len,Nd.stor,Nd.drainE,Nd.cut6,qe,g4,qu hw g2,qo hw g2,s1,s2,s3,qN,x2]
theorem qkm (hw:WF ws) (hn:n < ws.length) {e:Exp} {n1:Nat} (h1:qag 198 ws n (.ok e n1)) {k:Int} (hs:qcv ws n1 = some k) {x:Exp} {n2:Nat} (h2:qag 198 ws (n1 + 1) (.ok x n2)) (hd:¬ (Exp.mk k 0 [] [] [e,x]).depth <= 20):qag 190 ws n (.no (word ws n).pos 7 n2):=by
 obtain ⟨g1,g2,g3,g4⟩:=h1
 obtain ⟨x1,x2,x3,x4⟩:=h2
 refine ⟨x2,λh i hi=>?_⟩
 have E:=qf hi
 rw [PBi] at hi
 rw [qm 190 qkv]
 rcases qc3 hs with ⟨s1,rfl⟩ | ⟨s1,s2,rfl⟩ | ⟨s1,s2,s3,rfl⟩
 ·simp only [qkv,sT.1,sC.1,qg,Nat.testBit,seval,-rN,hi,E,PBi,qz,Nd.dimE,Nd.cellsE,Nd.cutE,Nd.dims,Nd.len,Nd.stor,Nd.drainE,Nd.cut6,qb9,qe,g4,qo hw g2,s1,qN,x4,x3,g3,qem,hd]
 ·simp only [qkv,sT.1,sC.1,qg,Nat.testBit,seval,-rN,hi,E,PBi,qz,Nd.dimE,Nd.cellsE,Nd.cutE,Nd.dims,Nd.len,Nd.stor,Nd.drainE,Nd.cut6,qb9,qe,g4,qu hw g2,qo hw g2,s1,s2,qN,x4,x3,g3,qem,hd]
 ·simp only [qkv,sT.1,sC.1,qg,Nat.testBit,seval,-rN,hi,E,PBi,qz,Nd.dimE,Nd.cellsE,Nd.cutE,Nd.dims,Nd.len,Nd.stor,Nd.drainE,Nd.cut6,qb9,qe,g4,qu hw g2,qo hw g2,s1,s2,s3,qN,x4,x3,g3,qem,hd]
theorem qok (hw:WF ws) (hn:n < ws.length) {e:Exp} {n1:Nat} (h1:qag 198 ws n (.ok e n1)) {k:Int} (hs:qcv ws n1 = some k) {x:Exp} {n2:Nat} (h2:qag 198 ws (n1 + 1) (.ok x n2)) (hd:(Exp.mk k 0 [] [] [e,x]).depth <= 20):qag 190 ws n (.ok (.mk k 0 [] [] [e,x]) n2):=by
 obtain ⟨g1,g2,g3,g4⟩:=h1
 obtain ⟨x1,x2,x3,x4⟩:=h2
 refine ⟨zo,x2,hd,λh i hi=>?_⟩
 have E:=qf hi
 rw [PBi] at hi
 rw [qm 190 qkv]
 rcases qc3 hs with ⟨s1,rfl⟩ | ⟨s1,s2,rfl⟩ | ⟨s1,s2,s3,rfl⟩
 ·simp only [qkv,sT.1,sC.1,qg,Nat.testBit,seval,-rN,hi,E,PBi,qz,Nd.dimE,Nd.cellsE,Nd.cutE,Nd.dims,Nd.len,Nd.stor,Nd.lower,Nd.drainE,Nd.cut6,qb9,g4,qo hw g2,s1,qN,x4,x3,g3,qem,hd]
 ·simp only [qkv,sT.1,sC.1,qg,Nat.testBit,seval,-rN,hi,E,PBi,qz,Nd.dimE,Nd.cellsE,Nd.cutE,Nd.dims,Nd.len,Nd.stor,Nd.lower,Nd.drainE,Nd.cut6,qb9,g4,qu hw g2,qo hw g2,s1,s2,qN,x4,x3,g3,qem,hd]
 ·simp only [qkv,sT.1,sC.1,qg,Nat.testBit,seval,-rN,hi,E,PBi,qz,Nd.dimE,Nd.cellsE,Nd.cutE,Nd.dims,Nd.len,Nd.stor,Nd.lower,Nd.drainE,Nd.cut6,qb9,g4,qu hw g2,qo hw g2,s1,s2,s3,qN,x4,x3,g3,qem,hd]
end
section
variable {ws:List Tok} {n:Nat}
theorem qEW (hw:WF ws) (hn:n < ws.length) (h1:qU ws n = true) (h2:isW ws (n + 1) [46] = true) (h3:qU ws (n + 1 + 1) = true):qag 220 ws n (.ok (.mk 5 0 (word ws n).s (word ws (n + 1 + 1)).s []) (n + 1 + 1 + 1)):=
 ⟨zo,qL hw (ql hw (qL hw hn h1) h2) h3,by simp [Exp.depth,qaR],λh i hi=>qiC hw hn hi h1 h2 h3⟩
theorem qiB (hw:WF ws) (hn:n < ws.length) (h1:qU ws n = true) (h2:isW ws (n + 1) [46] = true->qU ws (n + 1 + 1) = false):qag 220 ws n (.ok (.mk 4 0 (word ws n).s [] []) (n + 1)):=
 ⟨zo,qL hw hn h1,by simp [Exp.depth,qaR],λh i hi=>qfx hw hn hi h1 h2⟩
theorem qtR (hw:WF ws) (hn:n < ws.length) (hk:(word ws n).kind = 1):qag 219 ws n (.ok (.mk 0 (word ws n).n [] [] []) (n + 1)):=by
 refine ⟨zo,hw.next hn zo,by simp [Exp.depth,qaR],λh i hi=>?_⟩
 have w:=qJ (n:=n) (by have:=hw.len;omega)
 have k1:((word ws n).kind == 1) = true:=by simpa using hk
 have E:=qf hi
 rw [PBi] at hi
 rw [qm 219 qkw]
 simp only [qkw,sT.1,sC.1,qg,seval,-rN,hi,E,PBi,qz,qcA,Nd.dimE,Nd.cellsE,Nd.cutE,Nd.dims,Nd.len,Nd.stor,Nd.lower,Nd.drainE,qX hw hn,Tok.enc,k1,w]
theorem qtT (hw:WF ws) (hn:n < ws.length) (hk:(word ws n).kind = 2):qag 219 ws n (.ok (.mk 3 0 (word ws n).s [] []) (n + 1)):=by
 refine ⟨zo,hw.next hn zo,by simp [Exp.depth,qaR],λh i hi=>?_⟩
 have w:=qJ (n:=n) (by have:=hw.len;omega)
 have k1:((word ws n).kind == 1) = false:=by rw [hk];rfl
 have k2:((word ws n).kind == 2) = true:=by simpa using hk
 have E:=qf hi
 rw [PBi] at hi
 rw [qm 219 qkw]
 simp only [qkw,sT.1,sC.1,qg,seval,-rN,hi,E,PBi,qz,qcA,Nd.dimE,Nd.cellsE,Nd.cutE,Nd.dims,Nd.len,Nd.stor,Nd.lower,Nd.drainE,qX hw hn,Tok.enc,k1,k2,w]
theorem qgJ (hw:WF ws) (hn:n < ws.length) (hs:qU ws n = true) {o:Out} (h1:qag 220 ws n o):qag 219 ws n o:=by
 have k0:(word ws n).kind = 0:=by simp [qU] at hs;exact hs.1
 have k1:((word ws n).kind == 1) = false:=by rw [k0];rfl
 have k2:((word ws n).kind == 2) = false:=by rw [k0];rfl
 cases o with
 | ok e n1=>
  obtain ⟨g1,g2,g3,g4⟩:=h1
  refine ⟨g1,g2,g3,λh i hi=>?_⟩
  have E:=qf hi
  rw [PBi] at hi
  rw [qm 219 qkw]
  simp only [qkw,sT.1,sC.1,qg,seval,-rN,hi,E,PBi,qz,qcA,Nd.dimE,Nd.cellsE,Nd.cutE,Nd.dims,Nd.len,Nd.stor,Nd.lower,Nd.drainE,qX hw hn,Tok.enc,k1,k2,qT hw hn,hs,g4]
 | no p err m=>
  obtain ⟨g1,g2⟩:=h1
  refine ⟨g1,λh i hi=>?_⟩
  have E:=qf hi
  rw [PBi] at hi
  rw [qm 219 qkw]
  simp only [qkw,sT.1,sC.1,qg,seval,-rN,hi,E,PBi,qz,qcA,Nd.dimE,Nd.cellsE,Nd.dims,Nd.len,Nd.stor,Nd.drainE,qe,qX hw hn,Tok.enc,k1,k2,qT hw hn,hs,g2]
theorem qdf (hw:WF ws) (hn:n < ws.length) (k1:(word ws n).kind ≠ 1) (k2:(word ws n).kind ≠ 2) (hs:qU ws n = false) (hb:isW ws n [40] = true) {o:Out} (h1:qag 221 ws n o):qag 219 ws n o:=by
 have Y:((word ws n).kind == 1) = false:=by simpa using k1
 have I:((word ws n).kind == 2) = false:=by simpa using k2
 cases o with
 | ok e n1=>
  obtain ⟨g1,g2,g3,g4⟩:=h1
  refine ⟨g1,g2,g3,λh i hi=>?_⟩
  have E:=qf hi
  rw [PBi] at hi
  rw [qm 219 qkw]
  simp only [qkw,sT.1,sC.1,qg,seval,-rN,hi,E,PBi,qz,qcA,Nd.dimE,Nd.cellsE,Nd.cutE,Nd.dims,Nd.len,Nd.stor,Nd.lower,Nd.drainE,qX hw hn,Tok.enc,Y,I,qT hw hn,hs,qbu hw hn,hb,g4]
 | no p err m=>
  obtain ⟨g1,g2⟩:=h1
  refine ⟨g1,λh i hi=>?_⟩
  have E:=qf hi
  rw [PBi] at hi
  rw [qm 219 qkw]
  simp only [qkw,sT.1,sC.1,qg,seval,-rN,hi,E,PBi,qz,qcA,Nd.dimE,Nd.cellsE,Nd.dims,Nd.len,Nd.stor,Nd.drainE,qe,qX hw hn,Tok.enc,Y,I,qT hw hn,hs,qbu hw hn,hb,g2]
theorem qV (hw:WF ws) (hn:n < ws.length) (k1:(word ws n).kind ≠ 1) (k2:(word ws n).kind ≠ 2) (hs:qU ws n = false) (hb:isW ws n [40] = false) {o:Out} (h1:qag 222 ws n o):qag 219 ws n o:=by
 have Y:((word ws n).kind == 1) = false:=by simpa using k1
 have I:((word ws n).kind == 2) = false:=by simpa using k2
 cases o with
 | ok e n1=>
  obtain ⟨g1,g2,g3,g4⟩:=h1
  refine ⟨g1,g2,g3,λh i hi=>?_⟩
  have E:=qf hi
  rw [PBi] at hi
  rw [qm 219 qkw]
  simp only [qkw,sT.1,sC.1,qg,seval,-rN,hi,E,PBi,qz,qcA,Nd.dimE,Nd.cellsE,Nd.cutE,Nd.dims,Nd.len,Nd.stor,Nd.lower,Nd.drainE,qX hw hn,Tok.enc,Y,I,qT hw hn,hs,qbu hw hn,hb,g4]
 | no p err m=>
  obtain ⟨g1,g2⟩:=h1
  refine ⟨g1,λh i hi=>?_⟩
  have E:=qf hi
  rw [PBi] at hi
  rw [qm 219 qkw]
  simp only [qkw,sT.1,sC.1,qg,seval,-rN,hi,E,PBi,qz,qcA,Nd.dimE,Nd.cellsE,Nd.dims,Nd.len,Nd.stor,Nd.drainE,qe,qX hw hn,Tok.enc,Y,I,qT hw hn,hs,qbu hw hn,hb,g2]
theorem qk2 (hw:WF ws) (hn:n < ws.length) (hs:isW ws n [105,102] = false) {o:Out} (h1:qag 100 ws n o):qag 65 ws n o:=by
 cases o with
 | ok e n1=>
  obtain ⟨g1,g2,g3,g4⟩:=h1
  refine ⟨g1,g2,g3,λh i hi=>?_⟩
  have E:=qf hi
  rw [PBi] at hi
  rw [qm 65 c65]
  simp only [c65,sT.1,sC.1,qg,seval,-rN,qaE hw hn,hi,E,PBi,Nd.dimE,Nd.cellsE,Nd.cutE,Nd.dims,Nd.len,Nd.stor,Nd.lower,Nd.drainE,qu hw hn,hs,g4]
 | no p err m=>
  obtain ⟨g1,g2⟩:=h1
  refine ⟨g1,λh i hi=>?_⟩
  have E:=qf hi
  rw [PBi] at hi
  rw [qm 65 c65]
  simp only [c65,sT.1,sC.1,qg,seval,-rN,qaE hw hn,hi,E,PBi,qe,qu hw hn,hs,g2]
theorem qDN (hw:WF ws) (hn:n < ws.length) (hs:isW ws n [108,101,97,115,116] = true) (h1:isW ws (n + 1) [40] = false):qag 222 ws n (.no (word ws (n + 1)).pos 6 (n + 1)):=by
 have n1:=ql hw hn hs
 obtain ⟨q0,q1,q2,q3,q4,q5⟩:=qm2 hs
 refine ⟨n1,λh i hi=>?_⟩
 have E:=qf hi
 rw [PBi] at hi
 rw [qm 222 qcJ]
 simp only [qcJ,sT.1,sC.1,qg,seval,-rN,qaE hw hn,hi,E,PBi,qz,qcA,Nd.dimE,Nd.cellsE,Nd.dims,Nd.len,Nd.stor,Nd.drainE,qe,qo hw hn,qu hw hn,hs,q0,q1,q2,q3,q4,q5,qb5 hw n1,h1]
theorem qDO (hw:WF ws) (hn:n < ws.length) (hs:isW ws n [108,101,97,115,116] = true) (h1:isW ws (n + 1) [40] = true) (h2:qU ws (n + 1 + 1) = false):qag 222 ws n (.no (word ws (n + 1 + 1)).pos 6 (n + 1 + 1)):=by
 have n1:=ql hw hn hs
 have n2:=ql hw n1 h1
 obtain ⟨q0,q1,q2,q3,q4,q5⟩:=qm2 hs
 refine ⟨n2,λh i hi=>?_⟩
 have E:=qf hi
 rw [PBi] at hi
 rw [qm 222 qcJ]
 simp only [qcJ,sT.1,sC.1,qg,seval,-rN,qaE hw hn,hi,E,PBi,qz,qcA,Nd.dimE,Nd.cellsE,Nd.dims,Nd.len,Nd.stor,Nd.drainE,qe,qo hw hn,qu hw hn,hs,q0,q1,q2,q3,q4,q5,qE hw n1,h1,qmS hw n2,h2]
theorem qDP (hw:WF ws) (hn:n < ws.length) (hs:isW ws n [108,101,97,115,116] = true) (h1:isW ws (n + 1) [40] = true) (h2:qU ws (n + 1 + 1) = true) (h3:isW ws (n + 1 + 1 + 1) [44] = false):qag 222 ws n (.no (word ws (n + 1 + 1 + 1)).pos 6 (n + 1 + 1 + 1)):=by
 have n1:=ql hw hn hs
 have n2:=ql hw n1 h1
 have n3:=qL hw n2 h2
 obtain ⟨q0,q1,q2,q3,q4,q5⟩:=qm2 hs
 refine ⟨n3,λh i hi=>?_⟩
 have E:=qf hi
 rw [PBi] at hi
 rw [qm 222 qcJ]
 simp only [qcJ,sT.1,sC.1,qg,seval,-rN,qaE hw hn,hi,E,PBi,qz,qcA,Nd.dimE,Nd.cellsE,Nd.dims,Nd.len,Nd.stor,Nd.drainE,qe,qo hw hn,qu hw hn,hs,q0,q1,q2,q3,q4,q5,qE hw n1,h1,qbE hw n2,h2,qb5 hw n3,h3]
theorem qDQ (hw:WF ws) (hn:n < ws.length) (hs:isW ws n [108,101,97,115,116] = true) (h1:isW ws (n + 1) [40] = true) (h2:qU ws (n + 1 + 1) = true) (h3:isW ws (n + 1 + 1 + 1) [44] = true) {p err:Int} {m:Nat} (h4:qag 65 ws (n + 1 + 1 + 1 + 1) (.no p err m)):qag 222 ws n (.no p err m):=by
 have n1:=ql hw hn hs
 have n2:=ql hw n1 h1
 have n3:=qL hw n2 h2
 have n4:=ql hw n3 h3
 obtain ⟨q0,q1,q2,q3,q4,q5⟩:=qm2 hs
 obtain ⟨x1,x2⟩:=h4
 refine ⟨x1,λh i hi=>?_⟩
 have E:=qf hi
 rw [PBi] at hi
 rw [qm 222 qcJ]
 simp only [qcJ,sT.1,sC.1,qg,seval,-rN,qaE hw hn,hi,E,PBi,qz,qcA,Nd.dimE,Nd.cellsE,Nd.dims,Nd.len,Nd.stor,Nd.drainE,qe,qo hw hn,qu hw hn,hs,q0,q1,q2,q3,q4,q5,qE hw n1,h1,qbE hw n2,h2,qE hw n3,h3,x2]
theorem qDR (hw:WF ws) (hn:n < ws.length) (hs:isW ws n [108,101,97,115,116] = true) (h1:isW ws (n + 1) [40] = true) (h2:qU ws (n + 1 + 1) = true) (h3:isW ws (n + 1 + 1 + 1) [44] = true) {x:Exp} {m:Nat} (h4:qag 65 ws (n + 1 + 1 + 1 + 1) (.ok x m)) (h5:isW ws m [41] = false):qag 222 ws n (.no (word ws m).pos 6 m):=by
 have n1:=ql hw hn hs
 have n2:=ql hw n1 h1
 have n3:=qL hw n2 h2
 have n4:=ql hw n3 h3
 obtain ⟨q0,q1,q2,q3,q4,q5⟩:=qm2 hs
 obtain ⟨x1,x2,x3,x4⟩:=h4
 refine ⟨x2,λh i hi=>?_⟩
 have E:=qf hi
 rw [PBi] at hi
 rw [qm 222 qcJ]
 simp only [qcJ,sT.1,sC.1,qg,seval,-rN,qaE hw hn,hi,E,PBi,qz,qcA,Nd.dimE,Nd.cellsE,Nd.dims,Nd.len,Nd.stor,Nd.drainE,qe,qo hw hn,qu hw hn,hs,q0,q1,q2,q3,q4,q5,qE hw n1,h1,qbE hw n2,h2,qE hw n3,h3,x4,qb5 hw x2,h5,qN]
theorem qDS (hw:WF ws) (hn:n < ws.length) (hs:isW ws n [108,101,97,115,116] = true) (h1:isW ws (n + 1) [40] = true) (h2:qU ws (n + 1 + 1) = true) (h3:isW ws (n + 1 + 1 + 1) [44] = true) {x:Exp} {m:Nat} (h4:qag 65 ws (n + 1 + 1 + 1 + 1) (.ok x m)) (h5:isW ws m [41] = true) (hd:¬ (Exp.mk 10 0 (word ws (n + 1 + 1)).s [] [x]).depth <= 20):qag 222 ws n (.no (word ws n).pos 7 (m + 1)):=by
 have n1:=ql hw hn hs
 have n2:=ql hw n1 h1
 have n3:=qL hw n2 h2
 have n4:=ql hw n3 h3
 obtain ⟨q0,q1,q2,q3,q4,q5⟩:=qm2 hs
 obtain ⟨x1,x2,x3,x4⟩:=h4
 refine ⟨ql hw x2 h5,λh i hi=>?_⟩
 have E:=qf hi
 rw [PBi] at hi
 rw [qm 222 qcJ]
 simp only [qcJ,sT.1,sC.1,qg,seval,-rN,qaE hw hn,hi,E,PBi,qz,qcA,Nd.dimE,Nd.cellsE,Nd.cutE,Nd.dims,Nd.len,Nd.stor,Nd.drainE,qb4,qe,qo hw hn,qu hw hn,hs,q0,q1,q2,q3,q4,q5,qE hw n1,h1,qbE hw n2,h2,qE hw n3,h3,x4,x3,qE hw x2,h5,qiP,hd,qN]
theorem qyZ (hw:WF ws) (hn:n < ws.length) (hs:isW ws n [108,101,97,115,116] = true) (h1:isW ws (n + 1) [40] = true) (h2:qU ws (n + 1 + 1) = true) (h3:isW ws (n + 1 + 1 + 1) [44] = true) {x:Exp} {m:Nat} (h4:qag 65 ws (n + 1 + 1 + 1 + 1) (.ok x m)) (h5:isW ws m [41] = true) (hd:(Exp.mk 10 0 (word ws (n + 1 + 1)).s [] [x]).depth <= 20):qag 222 ws n (.ok (.mk 10 0 (word ws (n + 1 + 1)).s [] [x]) (m + 1)):=by
 have n1:=ql hw hn hs
 have n2:=ql hw n1 h1
 have n3:=qL hw n2 h2
 have n4:=ql hw n3 h3
 obtain ⟨q0,q1,q2,q3,q4,q5⟩:=qm2 hs
 obtain ⟨x1,x2,x3,x4⟩:=h4
 refine ⟨zo,ql hw x2 h5,hd,λh i hi=>?_⟩
 have E:=qf hi
 rw [PBi] at hi
 rw [qm 222 qcJ]
 simp only [qcJ,sT.1,sC.1,qg,seval,-rN,qaE hw hn,hi,E,PBi,qz,qcA,Nd.dimE,Nd.cellsE,Nd.cutE,Nd.dims,Nd.len,Nd.stor,Nd.lower,Nd.drainE,qb4,qo hw hn,qu hw hn,hs,q0,q1,q2,q3,q4,q5,qE hw n1,h1,qbE hw n2,h2,qE hw n3,h3,x4,x3,qE hw x2,h5,qiP,hd,qN]
theorem if1 (hw:WF ws) (hn:n < ws.length) (hs:isW ws n [105,102] = true) {p err:Int} {m:Nat} (hx:qag 65 ws (n + 1) (.no p err m)):qag 65 ws n (.no p err m):=by
 obtain ⟨x1,x2⟩:=hx
 refine ⟨x1,λh i hi=>?_⟩
 have E:=qf hi
 rw [PBi] at hi
 rw [qm 65 c65]
 simp only [c65,sT.1,sC.1,qg,seval,-rN,qaE hw hn,hi,E,PBi,qe,qo hw hn,hs,x2]
theorem if2 (hw:WF ws) (hn:n < ws.length) (hs:isW ws n [105,102] = true) {a:Exp} {n1:Nat} (ha:qag 65 ws (n + 1) (.ok a n1)) (ht:isW ws n1 [116,104,101,110] = false):qag 65 ws n (.no (word ws n1).pos 6 n1):=by
 obtain ⟨a1,a2,a3,a4⟩:=ha
 refine ⟨a2,λh i hi=>?_⟩
 have E:=qf hi
 rw [PBi] at hi
 rw [qm 65 c65]
 simp only [c65,sT.1,sC.1,qg,seval,-rN,qaE hw hn,hi,E,PBi,Nd.dimE,Nd.cellsE,Nd.dims,Nd.len,Nd.stor,Nd.drainE,qe,qo hw hn,hs,qN,a4,qb5 hw a2,ht]
theorem if3 (hw:WF ws) (hn:n < ws.length) (hs:isW ws n [105,102] = true) {a:Exp} {n1:Nat} (ha:qag 65 ws (n + 1) (.ok a n1)) (ht:isW ws n1 [116,104,101,110] = true) {p err:Int} {m:Nat} (hx:qag 65 ws (n1 + 1) (.no p err m)):qag 65 ws n (.no p err m):=by
 obtain ⟨a1,a2,a3,a4⟩:=ha
 obtain ⟨x1,x2⟩:=hx
 refine ⟨x1,λh i hi=>?_⟩
 have E:=qf hi
 rw [PBi] at hi
 rw [qm 65 c65]
 simp only [c65,sT.1,sC.1,qg,seval,-rN,qaE hw hn,hi,E,PBi,Nd.dimE,Nd.cellsE,Nd.dims,Nd.len,Nd.stor,Nd.drainE,qe,qo hw hn,hs,qN,a4,qE hw a2,ht,x2]
theorem if4 (hw:WF ws) (hn:n < ws.length) (hs:isW ws n [105,102] = true) {a:Exp} {n1:Nat} (ha:qag 65 ws (n + 1) (.ok a n1)) (ht:isW ws n1 [116,104,101,110] = true) {b:Exp} {n2:Nat} (hb:qag 65 ws (n1 + 1) (.ok b n2)) (hl:isW ws n2 [101,108,115,101] = false):qag 65 ws n (.no (word ws n2).pos 6 n2):=by
 obtain ⟨a1,a2,a3,a4⟩:=ha
 obtain ⟨b1,b2,b3,b4⟩:=hb
 refine ⟨b2,λh i hi=>?_⟩
 have E:=qf hi
 rw [PBi] at hi
 rw [qm 65 c65]
 simp only [c65,sT.1,sC.1,qg,seval,-rN,qaE hw hn,hi,E,PBi,Nd.dimE,Nd.cellsE,Nd.dims,Nd.len,Nd.stor,Nd.drainE,qe,qo hw hn,hs,qN,a4,qE hw a2,ht,b4,qb5 hw b2,hl]
theorem if5 (hw:WF ws) (hn:n < ws.length) (hs:isW ws n [105,102] = true) {a:Exp} {n1:Nat} (ha:qag 65 ws (n + 1) (.ok a n1)) (ht:isW ws n1 [116,104,101,110] = true) {b:Exp} {n2:Nat} (hb:qag 65 ws (n1 + 1) (.ok b n2)) (hl:isW ws n2 [101,108,115,101] = true) {p err:Int} {m:Nat} (hx:qag 65 ws (n2 + 1) (.no p err m)):qag 65 ws n (.no p err m):=by
 obtain ⟨a1,a2,a3,a4⟩:=ha
 obtain ⟨b1,b2,b3,b4⟩:=hb
 obtain ⟨x1,x2⟩:=hx
 refine ⟨x1,λh i hi=>?_⟩
 have E:=qf hi
 rw [PBi] at hi
 rw [qm 65 c65]
 simp only [c65,sT.1,sC.1,qg,seval,-rN,qaE hw hn,hi,E,PBi,Nd.dimE,Nd.cellsE,Nd.dims,Nd.len,Nd.stor,Nd.drainE,qe,qo hw hn,hs,qN,a4,qE hw a2,ht,b4,qE hw b2,hl,x2]
theorem if6 (hw:WF ws) (hn:n < ws.length) (hs:isW ws n [105,102] = true) {a:Exp} {n1:Nat} (ha:qag 65 ws (n + 1) (.ok a n1)) (ht:isW ws n1 [116,104,101,110] = true) {b:Exp} {n2:Nat} (hb:qag 65 ws (n1 + 1) (.ok b n2)) (hl:isW ws n2 [101,108,115,101] = true) {c:Exp} {n3:Nat} (hc:qag 65 ws (n2 + 1) (.ok c n3)) (hd:¬ (Exp.mk 25 0 [] [] [a,b,c]).depth <= 20):qag 65 ws n (.no (word ws n).pos 7 n3):=by
 obtain ⟨a1,a2,a3,a4⟩:=ha
 obtain ⟨b1,b2,b3,b4⟩:=hb
 obtain ⟨c1,c2,c3,c4⟩:=hc
 refine ⟨c2,λh i hi=>?_⟩
 have E:=qf hi
 rw [PBi] at hi
 rw [qm 65 c65]
 simp only [c65,sT.1,sC.1,qg,seval,-rN,qaE hw hn,hi,E,PBi,qz,Nd.dimE,Nd.cellsE,Nd.cutE,Nd.dims,Nd.len,Nd.stor,Nd.drainE,qy1,qe,qo hw hn,hs,qN,a4,qE hw a2,ht,b4,qE hw b2,hl,c4,a3,b3,c3,qD2,hd]
theorem if7 (hw:WF ws) (hn:n < ws.length) (hs:isW ws n [105,102] = true) {a:Exp} {n1:Nat} (ha:qag 65 ws (n + 1) (.ok a n1)) (ht:isW ws n1 [116,104,101,110] = true) {b:Exp} {n2:Nat} (hb:qag 65 ws (n1 + 1) (.ok b n2)) (hl:isW ws n2 [101,108,115,101] = true) {c:Exp} {n3:Nat} (hc:qag 65 ws (n2 + 1) (.ok c n3)) (hd:(Exp.mk 25 0 [] [] [a,b,c]).depth <= 20):qag 65 ws n (.ok (.mk 25 0 [] [] [a,b,c]) n3):=by
 obtain ⟨a1,a2,a3,a4⟩:=ha
 obtain ⟨b1,b2,b3,b4⟩:=hb
 obtain ⟨c1,c2,c3,c4⟩:=hc
 refine ⟨zo,c2,hd,λh i hi=>?_⟩
 have E:=qf hi
 rw [PBi] at hi
 rw [qm 65 c65]
 simp only [c65,sT.1,sC.1,qg,seval,-rN,qaE hw hn,hi,E,PBi,qz,Nd.dimE,Nd.cellsE,Nd.cutE,Nd.dims,Nd.len,Nd.stor,Nd.lower,Nd.drainE,qy1,qo hw hn,hs,qN,a4,qE hw a2,ht,b4,qE hw b2,hl,c4,a3,b3,c3,qD2,hd]
end
end Go.Proofs.YtcbfifamliijlaaGreatDoor.AE
