/- A part of the proof: the abstract executor and what goes through it (part 7). No condition. -/
import Derived.Test.YtkmlapholimbcaaGreatDoorMx6
set_option maxRecDepth 100000
namespace Go.Proofs.YtkmlapholimbcaaGreatDoor.AE
open Go.AE
inductive qfR (op:Nat→Option Int) (sub:Nat→Out→Prop) (pos:Int):Exp→Nat→Out→Prop
 | stop {e n}:op n = none→qfR op sub pos e n (.ok e n)
 | bad {e n k p err m}:op n = some k→sub (n + 1) (.no p err m)→qfR op sub pos e n (.no p err m)
 | qcg {e n k x n1}:op n = some k→sub (n + 1) (.ok x n1)→¬ (Exp.mk k 0 [] [] [e,x]).depth ≤ 20→qfR op sub pos e n (.no pos 7 n1)
 | go {e n k x n1 o}:op n = some k→sub (n + 1) (.ok x n1)→(Exp.mk k 0 [] [] [e,x]).depth ≤ 20→qfR op sub pos (.mk k 0 [] [] [e,x]) n1 o→qfR op sub pos e n o
theorem qfR.mono {op:Nat→Option Int} {sub:Nat→Out→Prop} {pos:Int} (hs:∀n x m,sub n (.ok x m)→n < m) {e:Exp} {n:Nat} {o:Out} (h:qfR op sub pos e n o):∀e' n',o = .ok e' n'→n ≤ n':=by
 induction h with
 | stop _=>intro e' n' h;cases h;exact Nat.le_refl _
 | bad _ _=>intro e' n' h;cases h
 | qcg _ _ _=>intro e' n' h;cases h
 | go _ h1 _ _ ih=>intro e' n' h;have:=ih e' n' h;have:=hs _ _ _ h1;omega
theorem qfM.mono {ws:List Tok} {pos:Int} {e:Exp} {n:Nat} {o:Out} (h:qfM ws pos e n o):∀e' n',o = .ok e' n'→n ≤ n':=by
 induction h with
 | stop _=>intro e' n' h;cases h;exact Nat.le_refl _
 | bad _ _=>intro e' n' h;cases h
 | many _ _ _=>intro e' n' h;cases h
 | qcg _ _ _ _=>intro e' n' h;cases h
 | go _ _ _ _ _ ih=>intro e' n' h;have:=ih e' n' h;omega
section
variable {ws:List Tok} {h:List qf}
def qrY (h:List qf) (i:Nat) (ws:List Tok) (pos:Int) (len:Nat) (r:Option (Ex×St)):Out→Prop
 | .ok e n=>n < ws.length∧e.depth ≤ 20∧∃tt H,r = some (.ret,⟨tt,H.set h.length (NB ⟨e,pos⟩),false⟩)∧tt.length = len∧lkp tt 2 = .ptr h.length 0∧qfs h i ws n ⟨e,pos⟩ H
 | .no p err n=>n < ws.length∧∃tt H,r = some (.pan (qdt p err),⟨tt,H,false⟩)∧H.take h.length = h.set i (PB ws n)
theorem qfs.cut0 {i n n':Nat} {x:Nd} {H:List qf} (hl:qfs h i ws n x H):(H.set i (PB ws n')).take h.length = h.set i (PB ws n'):=by
 have:=hl.cut (n':=n') []
 simpa using this
theorem qfs.next0 {i n n':Nat} {x x':Nd} {H:List qf} (hl:qfs h i ws n x H):qfs h i ws n' x' ((H.set i (PB ws n')).set (h.length + 1) (NB x')):=by
 have:=hl.next (n':=n') (x':=x') []
 simpa using this
def qcL (ws:List Tok) (n:Nat):Option Int:=if isW ws n [42] = true then some 17 else if isW ws n [47] = true then some 18 else if isW ws n [37] = true then some 19 else none
theorem qet {n:Nat} {k:Int} (h:qcL ws n = some k):(isW ws n [42] = true∧k = 17)∨(isW ws n [42] = false∧isW ws n [47] = true∧k = 18)∨(isW ws n [42] = false∧isW ws n [47] = false∧isW ws n [37] = true∧k = 19):=by
 simp only [qcL] at h
 cases h0:isW ws n [42] <;> cases h1:isW ws n [47] <;> cases h2:isW ws n [37] <;> simp_all
theorem qki {n:Nat} (h:qcL ws n = none):isW ws n [42] = false∧isW ws n [47] = false∧isW ws n [37] = false:=by
 simp only [qcL] at h
 cases h0:isW ws n [42] <;> cases h1:isW ws n [47] <;> cases h2:isW ws n [37] <;> simp_all
theorem qq3 (hw:WF ws) (i:Nat) (pos:Int) (e:Exp) (n:Nat) (o:Out) (hT:qfR (qcL ws) (qa8 174 ws) pos e n o):∀(tt:List qa) (H:List qf),n < ws.length→e.depth ≤ 20→tt.length = 27→lkp tt 0 = .ptr i 0→lkp tt 2 = .ptr h.length 0→lkp tt 3 = .ptr (h.length + 1) 0→qfs h i ws n ⟨e,pos⟩ H→
  qrY h i ws pos 27 (qo h.length Wd (.loop qca) ⟨tt,H,false⟩) o:=by
 induction hT with
 | @stop e n hs=>
  intro tt H hn hd ht e0 e2 e3 hL
  have hlt:i < H.length:=by have:=hL.lt;have:=hL.len;omega
  have hlb:h.length + 1 < H.length:=hL.len
  have hl0:h.length < H.length:=by omega
  have hib:i ≠ h.length + 1:=by have:=hL.lt;omega
  have hb1:=qfa h 1
  have hp:=hL.par
  have hnod:=hL.nod
  have hres:=hL.res
  rw [NBi] at hnod
  rw [PBi] at hp
  rw [qbu] at hres
  obtain ⟨s1,s2,s3⟩:=qki hs
  rw [qm]
  generalize he:qo h.length Wd qca _ = r
  simp only [qca,sT.1,sC.1,qc,qb,Nat.testBit,simprocAttr,-Int.reduceNatCast',ht,e0,e2,e3,qz hw hn,qC hw hn,hp,PBi,hlt,hlb,hib,hl0,hnod,hres,hb1,hd,Nd.cut6,Nd.cutE,Nd.dimE,Nd.cellsE,Nd.dims,Nd.len,Nd.stor,Nd.drainE,Nd.drop7,qI,qag,s1,s2,s3] at he
  subst he
  exact ⟨hn,hd,_,_,rfl,by simp only [qj,ht],by simp only [sT.1,sC.1,qc,qb,Nat.testBit,simprocAttr,-Int.reduceNatCast',e2],hL⟩
 | @bad e n k p err m hs hx=>
  intro tt H hn hd ht e0 e2 e3 hL
  have hlt:i < H.length:=by have:=hL.lt;have:=hL.len;omega
  have hlb:h.length + 1 < H.length:=hL.len
  have hl0:h.length < H.length:=by omega
  have hib:i ≠ h.length + 1:=by have:=hL.lt;omega
  have hb1:=qfa h 1
  have hp:=hL.par
  have hnod:=hL.nod
  have hres:=hL.res
  rw [NBi] at hnod
  rw [PBi] at hp
  rw [qbu] at hres
  obtain ⟨x1,x2⟩:=hx
  rw [qm]
  generalize he:qo h.length Wd qca _ = r
  rcases qet hs with ⟨s1,rfl⟩ | ⟨s1,s2,rfl⟩ | ⟨s1,s2,s3,rfl⟩
  ·simp only [qca,sT.1,sC.1,qc,qb,Nat.testBit,simprocAttr,-Int.reduceNatCast',ht,e0,e2,e3,qz hw hn,qC hw hn,hp,PBi,hlt,hlb,hib,hl0,hnod,hres,hb1,hd,Nd.cut6,Nd.cutE,Nd.dimE,Nd.cellsE,Nd.dims,Nd.len,Nd.stor,Nd.drainE,Nd.drop7,qI,qag,s1,x2] at he
   subst he
   exact ⟨x1,_,_,rfl,hL.cut0⟩
  ·simp only [qca,sT.1,sC.1,qc,qb,Nat.testBit,simprocAttr,-Int.reduceNatCast',ht,e0,e2,e3,qz hw hn,qC hw hn,hp,PBi,hlt,hlb,hib,hl0,hnod,hres,hb1,hd,Nd.cut6,Nd.cutE,Nd.dimE,Nd.cellsE,Nd.dims,Nd.len,Nd.stor,Nd.drainE,Nd.drop7,qI,qag,s1,s2,x2] at he
   subst he
   exact ⟨x1,_,_,rfl,hL.cut0⟩
  ·simp only [qca,sT.1,sC.1,qc,qb,Nat.testBit,simprocAttr,-Int.reduceNatCast',ht,e0,e2,e3,qz hw hn,qC hw hn,hp,PBi,hlt,hlb,hib,hl0,hnod,hres,hb1,hd,Nd.cut6,Nd.cutE,Nd.dimE,Nd.cellsE,Nd.dims,Nd.len,Nd.stor,Nd.drainE,Nd.drop7,qI,qag,s1,s2,s3,x2] at he
   subst he
   exact ⟨x1,_,_,rfl,hL.cut0⟩
 | @qcg e n k x n1 hs hx hdp=>
  intro tt H hn hd ht e0 e2 e3 hL
  have hlt:i < H.length:=by have:=hL.lt;have:=hL.len;omega
  have hlb:h.length + 1 < H.length:=hL.len
  have hl0:h.length < H.length:=by omega
  have hib:i ≠ h.length + 1:=by have:=hL.lt;omega
  have hb1:=qfa h 1
  have hp:=hL.par
  have hnod:=hL.nod
  have hres:=hL.res
  rw [NBi] at hnod
  rw [PBi] at hp
  rw [qbu] at hres
  obtain ⟨x1,x2,x3,x4⟩:=hx
  rw [qm]
  generalize he:qo h.length Wd qca _ = r
  rcases qet hs with ⟨s1,rfl⟩ | ⟨s1,s2,rfl⟩ | ⟨s1,s2,s3,rfl⟩
  ·simp only [qca,sT.1,sC.1,qc,qb,Nat.testBit,simprocAttr,-Int.reduceNatCast',ht,e0,e2,e3,qz hw hn,qC hw hn,hp,PBi,hlt,hlb,hib,hl0,hnod,hres,hb1,hd,Nd.cut6,Nd.cutE,Nd.dimE,Nd.cellsE,Nd.dims,Nd.len,Nd.stor,Nd.drainE,Nd.drop7,qI,qag,s1,x4,x3,qdJ,hdp] at he
   subst he
   exact ⟨x2,_,_,rfl,hL.cut0⟩
  ·simp only [qca,sT.1,sC.1,qc,qb,Nat.testBit,simprocAttr,-Int.reduceNatCast',ht,e0,e2,e3,qz hw hn,qC hw hn,hp,PBi,hlt,hlb,hib,hl0,hnod,hres,hb1,hd,Nd.cut6,Nd.cutE,Nd.dimE,Nd.cellsE,Nd.dims,Nd.len,Nd.stor,Nd.drainE,Nd.drop7,qI,qag,s1,s2,x4,x3,qdJ,hdp] at he
   subst he
   exact ⟨x2,_,_,rfl,hL.cut0⟩
  ·simp only [qca,sT.1,sC.1,qc,qb,Nat.testBit,simprocAttr,-Int.reduceNatCast',ht,e0,e2,e3,qz hw hn,qC hw hn,hp,PBi,hlt,hlb,hib,hl0,hnod,hres,hb1,hd,Nd.cut6,Nd.cutE,Nd.dimE,Nd.cellsE,Nd.dims,Nd.len,Nd.stor,Nd.drainE,Nd.drop7,qI,qag,s1,s2,s3,x4,x3,qdJ,hdp] at he
   subst he
   exact ⟨x2,_,_,rfl,hL.cut0⟩
 | @go e n k x n1 o hs hx hdp _ ih=>
  intro tt H hn hd ht e0 e2 e3 hL
  have hlt:i < H.length:=by have:=hL.lt;have:=hL.len;omega
  have hlb:h.length + 1 < H.length:=hL.len
  have hl0:h.length < H.length:=by omega
  have hib:i ≠ h.length + 1:=by have:=hL.lt;omega
  have hb1:=qfa h 1
  have hp:=hL.par
  have hnod:=hL.nod
  have hres:=hL.res
  rw [NBi] at hnod
  rw [PBi] at hp
  rw [qbu] at hres
  obtain ⟨x1,x2,x3,x4⟩:=hx
  rw [qm]
  generalize he:qo h.length Wd qca _ = r
  rcases qet hs with ⟨s1,rfl⟩ | ⟨s1,s2,rfl⟩ | ⟨s1,s2,s3,rfl⟩
  ·simp only [qca,sT.1,sC.1,qc,qb,Nat.testBit,simprocAttr,-Int.reduceNatCast',ht,e0,e2,e3,qz hw hn,qC hw hn,hp,PBi,hlt,hlb,hib,hl0,hnod,hres,hb1,hd,Nd.cut6,Nd.cutE,Nd.dimE,Nd.cellsE,Nd.dims,Nd.len,Nd.stor,Nd.drainE,Nd.drop7,qI,qag,s1,x4,x3,qdJ,hdp] at he
   subst he
   exact ih _ _ x2 hdp (by simp only [qj,ht]) (by simp only [sT.1,sC.1,qc,qb,Nat.testBit,simprocAttr,-Int.reduceNatCast',ht,e0]) (by simp only [sT.1,sC.1,qc,qb,Nat.testBit,simprocAttr,-Int.reduceNatCast',ht,e2]) (by simp only [sT.1,sC.1,qc,qb,Nat.testBit,simprocAttr,-Int.reduceNatCast',ht,e3]) hL.next0
  ·simp only [qca,sT.1,sC.1,qc,qb,Nat.testBit,simprocAttr,-Int.reduceNatCast',ht,e0,e2,e3,qz hw hn,qC hw hn,hp,PBi,hlt,hlb,hib,hl0,hnod,hres,hb1,hd,Nd.cut6,Nd.cutE,Nd.dimE,Nd.cellsE,Nd.dims,Nd.len,Nd.stor,Nd.drainE,Nd.drop7,qI,qag,s1,s2,x4,x3,qdJ,hdp] at he
   subst he
   exact ih _ _ x2 hdp (by simp only [qj,ht]) (by simp only [sT.1,sC.1,qc,qb,Nat.testBit,simprocAttr,-Int.reduceNatCast',ht,e0]) (by simp only [sT.1,sC.1,qc,qb,Nat.testBit,simprocAttr,-Int.reduceNatCast',ht,e2]) (by simp only [sT.1,sC.1,qc,qb,Nat.testBit,simprocAttr,-Int.reduceNatCast',ht,e3]) hL.next0
  ·simp only [qca,sT.1,sC.1,qc,qb,Nat.testBit,simprocAttr,-Int.reduceNatCast',ht,e0,e2,e3,qz hw hn,qC hw hn,hp,PBi,hlt,hlb,hib,hl0,hnod,hres,hb1,hd,Nd.cut6,Nd.cutE,Nd.dimE,Nd.cellsE,Nd.dims,Nd.len,Nd.stor,Nd.drainE,Nd.drop7,qI,qag,s1,s2,s3,x4,x3,qdJ,hdp] at he
   subst he
   exact ih _ _ x2 hdp (by simp only [qj,ht]) (by simp only [sT.1,sC.1,qc,qb,Nat.testBit,simprocAttr,-Int.reduceNatCast',ht,e0]) (by simp only [sT.1,sC.1,qc,qb,Nat.testBit,simprocAttr,-Int.reduceNatCast',ht,e2]) (by simp only [sT.1,sC.1,qc,qb,Nat.testBit,simprocAttr,-Int.reduceNatCast',ht,e3]) hL.next0
theorem qt9 (hw:WF ws) {n:Nat} (hn:n < ws.length) {e:Exp} {n1:Nat} {o:Out} (h1:qa8 174 ws n (.ok e n1)) (hT:qfR (qcL ws) (qa8 174 ws) (word ws n).pos e n1 o):qa8 170 ws n o:=by
 obtain ⟨g1,g2,g3,g4⟩:=h1
 have hmono:=hT.mono (fun n x m h=>h.1)
 have run:∀(h:List qf) (i:Nat),h[i]? = some (PB ws n)→∃r,qrY h i ws (word ws n).pos 27 r o∧Wd (.fn 170 [] []) [.ptr i 0] h = qeo [.cell 2 (some 7)] h (qce 0 r):=by
  intro h i hi
  have hlt:=qw hi
  rw [PBi] at hi
  generalize hr:Wd (.fn 170 [] []) [.ptr i 0] h = R
  rw [qi rfl (show T.get 170 = some qAw by kernel_rfl)] at hr
  have hbl1:Nat.ble h.length (h.length + 1) = true:=qau (by omega)
  simp only [qAw,sT.1,sC.1,qc,qb,Nat.testBit,simprocAttr,-Int.reduceNatCast',g4,hi,hlt,PBi,Nd.dimE,Nd.cellsE,Nd.cutE,Nd.dims,Nd.len,Nd.stor,Nd.drainE,hbl1] at hr
  generalize hq:qo h.length Wd (.loop qca) _ = r at hr
  refine ⟨r,?_,?_⟩
  ·rw [←hq]
   exact qq3 hw i _ e n1 o hT _ _ g2 g3 (by simp only [sT.1,sC.1,qc,qb,Nat.testBit,simprocAttr,-Int.reduceNatCast']) (by simp only [sT.1,sC.1,qc,qb,Nat.testBit,simprocAttr,-Int.reduceNatCast']) (by simp only [sT.1,sC.1,qc,qb,Nat.testBit,simprocAttr,-Int.reduceNatCast']) (by simp only [sT.1,sC.1,qc,qb,Nat.testBit,simprocAttr,-Int.reduceNatCast']) (qfs.start hlt)
  ·rw [←hr]
 cases o with
 | ok e' n'=>
  have hm:=hmono e' n' rfl
  obtain ⟨r,hL,_⟩:=run (List.replicate 1 (PB ws n)) 0 rfl
  refine ⟨by omega,hL.1,hL.2.1,fun h i hi=>?_⟩
  obtain ⟨r,⟨q1,q2,tt,H,rfl,ht,e2,hL⟩,hr⟩:=run h i hi
  have hnod:=hL.nod
  have hres:=hL.res
  have hlen:=hL.len
  have hlen':h.length < H.length:=by omega
  rw [NBi] at hnod
  rw [qbu] at hres
  rw [hr]
  simp only [sT.1,sC.1,qc,qb,Nat.testBit,simprocAttr,-Int.reduceNatCast',ht,e2,hlen',Nd.cutE,NBi]
  exact congrArg some hL.answer
 | no pos err n'=>
  obtain ⟨r,hL,_⟩:=run (List.replicate 1 (PB ws n)) 0 rfl
  refine ⟨hL.1,fun h i hi=>?_⟩
  obtain ⟨r,⟨q1,tt,H,rfl,q3⟩,hr⟩:=run h i hi
  rw [hr]
  simp only [sT.1,sC.1,qc,qb,Nat.testBit,simprocAttr,-Int.reduceNatCast']
  exact congrArg some (qaN q3 (qg _ _ _))
def qdQ (ws:List Tok) (n:Nat):Option Int:=if isW ws n [43] = true then some 15 else if isW ws n [45] = true then some 16 else none
theorem qfn {n:Nat} {k:Int} (h:qdQ ws n = some k):(isW ws n [43] = true∧k = 15)∨(isW ws n [43] = false∧isW ws n [45] = true∧k = 16):=by
 simp only [qdQ] at h
 cases h0:isW ws n [43] <;> cases h1:isW ws n [45] <;> simp_all
theorem qm1 {n:Nat} (h:qdQ ws n = none):isW ws n [43] = false∧isW ws n [45] = false:=by
 simp only [qdQ] at h
 cases h0:isW ws n [43] <;> cases h1:isW ws n [45] <;> simp_all
theorem quv (hw:WF ws) (i:Nat) (pos:Int) (e:Exp) (n:Nat) (o:Out) (hT:qfR (qdQ ws) (qa8 170 ws) pos e n o):∀(tt:List qa) (H:List qf),n < ws.length→e.depth ≤ 20→tt.length = 24→lkp tt 0 = .ptr i 0→lkp tt 2 = .ptr h.length 0→lkp tt 3 = .ptr (h.length + 1) 0→qfs h i ws n ⟨e,pos⟩ H→
  qrY h i ws pos 24 (qo h.length Wd (.loop qcI) ⟨tt,H,false⟩) o:=by
 induction hT with
 | @stop e n hs=>
  intro tt H hn hd ht e0 e2 e3 hL
  have hlt:i < H.length:=by have:=hL.lt;have:=hL.len;omega
  have hlb:h.length + 1 < H.length:=hL.len
  have hl0:h.length < H.length:=by omega
  have hib:i ≠ h.length + 1:=by have:=hL.lt;omega
  have hb1:=qfa h 1
  have hp:=hL.par
  have hnod:=hL.nod
  have hres:=hL.res
  rw [NBi] at hnod
  rw [PBi] at hp
  rw [qbu] at hres
  obtain ⟨s1,s2⟩:=qm1 hs
  rw [qm]
  generalize he:qo h.length Wd qcI _ = r
  simp only [qcI,sT.1,sC.1,qc,qb,Nat.testBit,simprocAttr,-Int.reduceNatCast',ht,e0,e2,e3,qz hw hn,qC hw hn,hp,PBi,hlt,hlb,hib,hl0,hnod,hres,hb1,hd,Nd.cut6,Nd.cutE,Nd.dimE,Nd.cellsE,Nd.dims,Nd.len,Nd.stor,Nd.drainE,Nd.drop7,qI,qag,s1,s2] at he
  subst he
  exact ⟨hn,hd,_,_,rfl,by simp only [qj,ht],by simp only [sT.1,sC.1,qc,qb,Nat.testBit,simprocAttr,-Int.reduceNatCast',e2],hL⟩
 | @bad e n k p err m hs hx=>
  intro tt H hn hd ht e0 e2 e3 hL
  have hlt:i < H.length:=by have:=hL.lt;have:=hL.len;omega
  have hlb:h.length + 1 < H.length:=hL.len
  have hl0:h.length < H.length:=by omega
  have hib:i ≠ h.length + 1:=by have:=hL.lt;omega
  have hb1:=qfa h 1
  have hp:=hL.par
  have hnod:=hL.nod
  have hres:=hL.res
  rw [NBi] at hnod
  rw [PBi] at hp
  rw [qbu] at hres
  obtain ⟨x1,x2⟩:=hx
  rw [qm]
  generalize he:qo h.length Wd qcI _ = r
  rcases qfn hs with ⟨s1,rfl⟩ | ⟨s1,s2,rfl⟩
  ·simp only [qcI,sT.1,sC.1,qc,qb,Nat.testBit,simprocAttr,-Int.reduceNatCast',ht,e0,e2,e3,qz hw hn,qC hw hn,hp,PBi,hlt,hlb,hib,hl0,hnod,hres,hb1,hd,Nd.cut6,Nd.cutE,Nd.dimE,Nd.cellsE,Nd.dims,Nd.len,Nd.stor,Nd.drainE,Nd.drop7,qI,qag,s1,x2] at he
   subst he
   exact ⟨x1,_,_,rfl,hL.cut0⟩
  ·simp only [qcI,sT.1,sC.1,qc,qb,Nat.testBit,simprocAttr,-Int.reduceNatCast',ht,e0,e2,e3,qz hw hn,qC hw hn,hp,PBi,hlt,hlb,hib,hl0,hnod,hres,hb1,hd,Nd.cut6,Nd.cutE,Nd.dimE,Nd.cellsE,Nd.dims,Nd.len,Nd.stor,Nd.drainE,Nd.drop7,qI,qag,s1,s2,x2] at he
   subst he
   exact ⟨x1,_,_,rfl,hL.cut0⟩
 | @qcg e n k x n1 hs hx hdp=>
  intro tt H hn hd ht e0 e2 e3 hL
  have hlt:i < H.length:=by have:=hL.lt;have:=hL.len;omega
  have hlb:h.length + 1 < H.length:=hL.len
  have hl0:h.length < H.length:=by omega
  have hib:i ≠ h.length + 1:=by have:=hL.lt;omega
  have hb1:=qfa h 1
  have hp:=hL.par
  have hnod:=hL.nod
  have hres:=hL.res
  rw [NBi] at hnod
  rw [PBi] at hp
  rw [qbu] at hres
  obtain ⟨x1,x2,x3,x4⟩:=hx
  rw [qm]
  generalize he:qo h.length Wd qcI _ = r
  rcases qfn hs with ⟨s1,rfl⟩ | ⟨s1,s2,rfl⟩
  ·simp only [qcI,sT.1,sC.1,qc,qb,Nat.testBit,simprocAttr,-Int.reduceNatCast',ht,e0,e2,e3,qz hw hn,qC hw hn,hp,PBi,hlt,hlb,hib,hl0,hnod,hres,hb1,hd,Nd.cut6,Nd.cutE,Nd.dimE,Nd.cellsE,Nd.dims,Nd.len,Nd.stor,Nd.drainE,Nd.drop7,qI,qag,s1,x4,x3,qdJ,hdp] at he
   subst he
   exact ⟨x2,_,_,rfl,hL.cut0⟩
  ·simp only [qcI,sT.1,sC.1,qc,qb,Nat.testBit,simprocAttr,-Int.reduceNatCast',ht,e0,e2,e3,qz hw hn,qC hw hn,hp,PBi,hlt,hlb,hib,hl0,hnod,hres,hb1,hd,Nd.cut6,Nd.cutE,Nd.dimE,Nd.cellsE,Nd.dims,Nd.len,Nd.stor,Nd.drainE,Nd.drop7,qI,qag,s1,s2,x4,x3,qdJ,hdp] at he
   subst he
   exact ⟨x2,_,_,rfl,hL.cut0⟩
 | @go e n k x n1 o hs hx hdp _ ih=>
  intro tt H hn hd ht e0 e2 e3 hL
  have hlt:i < H.length:=by have:=hL.lt;have:=hL.len;omega
  have hlb:h.length + 1 < H.length:=hL.len
  have hl0:h.length < H.length:=by omega
  have hib:i ≠ h.length + 1:=by have:=hL.lt;omega
  have hb1:=qfa h 1
  have hp:=hL.par
  have hnod:=hL.nod
  have hres:=hL.res
  rw [NBi] at hnod
  rw [PBi] at hp
  rw [qbu] at hres
  obtain ⟨x1,x2,x3,x4⟩:=hx
  rw [qm]
  generalize he:qo h.length Wd qcI _ = r
  rcases qfn hs with ⟨s1,rfl⟩ | ⟨s1,s2,rfl⟩
  ·simp only [qcI,sT.1,sC.1,qc,qb,Nat.testBit,simprocAttr,-Int.reduceNatCast',ht,e0,e2,e3,qz hw hn,qC hw hn,hp,PBi,hlt,hlb,hib,hl0,hnod,hres,hb1,hd,Nd.cut6,Nd.cutE,Nd.dimE,Nd.cellsE,Nd.dims,Nd.len,Nd.stor,Nd.drainE,Nd.drop7,qI,qag,s1,x4,x3,qdJ,hdp] at he
   subst he
   exact ih _ _ x2 hdp (by simp only [qj,ht]) (by simp only [sT.1,sC.1,qc,qb,Nat.testBit,simprocAttr,-Int.reduceNatCast',ht,e0]) (by simp only [sT.1,sC.1,qc,qb,Nat.testBit,simprocAttr,-Int.reduceNatCast',ht,e2]) (by simp only [sT.1,sC.1,qc,qb,Nat.testBit,simprocAttr,-Int.reduceNatCast',ht,e3]) hL.next0
  ·simp only [qcI,sT.1,sC.1,qc,qb,Nat.testBit,simprocAttr,-Int.reduceNatCast',ht,e0,e2,e3,qz hw hn,qC hw hn,hp,PBi,hlt,hlb,hib,hl0,hnod,hres,hb1,hd,Nd.cut6,Nd.cutE,Nd.dimE,Nd.cellsE,Nd.dims,Nd.len,Nd.stor,Nd.drainE,Nd.drop7,qI,qag,s1,s2,x4,x3,qdJ,hdp] at he
   subst he
   exact ih _ _ x2 hdp (by simp only [qj,ht]) (by simp only [sT.1,sC.1,qc,qb,Nat.testBit,simprocAttr,-Int.reduceNatCast',ht,e0]) (by simp only [sT.1,sC.1,qc,qb,Nat.testBit,simprocAttr,-Int.reduceNatCast',ht,e2]) (by simp only [sT.1,sC.1,qc,qb,Nat.testBit,simprocAttr,-Int.reduceNatCast',ht,e3]) hL.next0
theorem qyt (hw:WF ws) {n:Nat} (hn:n < ws.length) {e:Exp} {n1:Nat} {o:Out} (h1:qa8 170 ws n (.ok e n1)) (hT:qfR (qdQ ws) (qa8 170 ws) (word ws n).pos e n1 o):qa8 162 ws n o:=by
 obtain ⟨g1,g2,g3,g4⟩:=h1
 have hmono:=hT.mono (fun n x m h=>h.1)
 have run:∀(h:List qf) (i:Nat),h[i]? = some (PB ws n)→∃r,qrY h i ws (word ws n).pos 24 r o∧Wd (.fn 162 [] []) [.ptr i 0] h = qeo [.cell 2 (some 7)] h (qce 0 r):=by
  intro h i hi
  have hlt:=qw hi
  rw [PBi] at hi
  generalize hr:Wd (.fn 162 [] []) [.ptr i 0] h = R
  rw [qi rfl (show T.get 162 = some qAv by kernel_rfl)] at hr
  have hbl1:Nat.ble h.length (h.length + 1) = true:=qau (by omega)
  simp only [qAv,sT.1,sC.1,qc,qb,Nat.testBit,simprocAttr,-Int.reduceNatCast',g4,hi,hlt,PBi,Nd.dimE,Nd.cellsE,Nd.cutE,Nd.dims,Nd.len,Nd.stor,Nd.drainE,hbl1] at hr
  generalize hq:qo h.length Wd (.loop qcI) _ = r at hr
  refine ⟨r,?_,?_⟩
  ·rw [←hq]
   exact quv hw i _ e n1 o hT _ _ g2 g3 (by simp only [sT.1,sC.1,qc,qb,Nat.testBit,simprocAttr,-Int.reduceNatCast']) (by simp only [sT.1,sC.1,qc,qb,Nat.testBit,simprocAttr,-Int.reduceNatCast']) (by simp only [sT.1,sC.1,qc,qb,Nat.testBit,simprocAttr,-Int.reduceNatCast']) (by simp only [sT.1,sC.1,qc,qb,Nat.testBit,simprocAttr,-Int.reduceNatCast']) (qfs.start hlt)
  ·rw [←hr]
 cases o with
 | ok e' n'=>
  have hm:=hmono e' n' rfl
  obtain ⟨r,hL,_⟩:=run (List.replicate 1 (PB ws n)) 0 rfl
  refine ⟨by omega,hL.1,hL.2.1,fun h i hi=>?_⟩
  obtain ⟨r,⟨q1,q2,tt,H,rfl,ht,e2,hL⟩,hr⟩:=run h i hi
  have hnod:=hL.nod
  have hres:=hL.res
  have hlen:=hL.len
  have hlen':h.length < H.length:=by omega
  rw [NBi] at hnod
  rw [qbu] at hres
  rw [hr]
  simp only [sT.1,sC.1,qc,qb,Nat.testBit,simprocAttr,-Int.reduceNatCast',ht,e2,hlen',Nd.cutE,NBi]
  exact congrArg some hL.answer
 | no pos err n'=>
  obtain ⟨r,hL,_⟩:=run (List.replicate 1 (PB ws n)) 0 rfl
  refine ⟨hL.1,fun h i hi=>?_⟩
  obtain ⟨r,⟨q1,tt,H,rfl,q3⟩,hr⟩:=run h i hi
  rw [hr]
  simp only [sT.1,sC.1,qc,qb,Nat.testBit,simprocAttr,-Int.reduceNatCast']
  exact congrArg some (qaN q3 (qg _ _ _))
def qfN (ws:List Tok) (n:Nat):Option Int:=if isW ws n [97,110,100] = true then some 23 else none
theorem qe9 {n:Nat} {k:Int} (h:qfN ws n = some k):(isW ws n [97,110,100] = true∧k = 23):=by
 simp only [qfN] at h
 cases h0:isW ws n [97,110,100] <;> simp_all
theorem qlp {n:Nat} (h:qfN ws n = none):isW ws n [97,110,100] = false:=by
 simp only [qfN] at h
 cases h0:isW ws n [97,110,100] <;> simp_all
theorem qr6 (hw:WF ws) (i:Nat) (pos:Int) (e:Exp) (n:Nat) (o:Out) (hT:qfR (qfN ws) (qa8 134 ws) pos e n o):∀(tt:List qa) (H:List qf),n < ws.length→e.depth ≤ 20→tt.length = 18→lkp tt 0 = .ptr i 0→lkp tt 2 = .ptr h.length 0→lkp tt 3 = .ptr (h.length + 1) 0→qfs h i ws n ⟨e,pos⟩ H→
  qln h i ws pos 18 (qo h.length Wd (.loop qgt) ⟨tt,H,false⟩) o:=by
 induction hT with
 | @stop e n hs=>
  intro tt H hn hd ht e0 e2 e3 hL
  have hlt:i < H.length:=by have:=hL.lt;have:=hL.len;omega
  have hlb:h.length + 1 < H.length:=hL.len
  have hl0:h.length < H.length:=by omega
  have hib:i ≠ h.length + 1:=by have:=hL.lt;omega
  have hb1:=qfa h 1
  have hp:=hL.par
  have hnod:=hL.nod
  have hres:=hL.res
  rw [NBi] at hnod
  rw [PBi] at hp
  rw [qbu] at hres
  have s1:=qlp hs
  rw [qm]
  generalize he:qo h.length Wd qgt _ = r
  simp only [qgt,sT.1,sC.1,qc,qb,Nat.testBit,simprocAttr,-Int.reduceNatCast',ht,e0,e2,e3,qz hw hn,qC hw hn,hp,PBi,hlt,hlb,hib,hl0,hnod,hres,hb1,hd,Nd.cut6,Nd.cutE,Nd.dimE,Nd.cellsE,Nd.dims,Nd.len,Nd.stor,Nd.drainE,Nd.drop7,qI,qag,s1] at he
  subst he
  exact ⟨hn,hd,_,_,rfl,by simp only [qj,ht],by simp only [sT.1,sC.1,qc,qb,Nat.testBit,simprocAttr,-Int.reduceNatCast',e2],by simp only [sT.1,sC.1,qc,qb,Nat.testBit,simprocAttr,-Int.reduceNatCast',e3],hL⟩
 | @bad e n k p err m hs hx=>
  intro tt H hn hd ht e0 e2 e3 hL
  have hlt:i < H.length:=by have:=hL.lt;have:=hL.len;omega
  have hlb:h.length + 1 < H.length:=hL.len
  have hl0:h.length < H.length:=by omega
  have hib:i ≠ h.length + 1:=by have:=hL.lt;omega
  have hb1:=qfa h 1
  have hp:=hL.par
  have hnod:=hL.nod
  have hres:=hL.res
  rw [NBi] at hnod
  rw [PBi] at hp
  rw [qbu] at hres
  obtain ⟨x1,x2⟩:=hx
  rw [qm]
  generalize he:qo h.length Wd qgt _ = r
  obtain ⟨s1,rfl⟩:=qe9 hs
  ·simp only [qgt,sT.1,sC.1,qc,qb,Nat.testBit,simprocAttr,-Int.reduceNatCast',ht,e0,e2,e3,qz hw hn,qC hw hn,hp,PBi,hlt,hlb,hib,hl0,hnod,hres,hb1,hd,Nd.cut6,Nd.cutE,Nd.dimE,Nd.cellsE,Nd.dims,Nd.len,Nd.stor,Nd.drainE,Nd.drop7,qI,qag,s1,x2] at he
   subst he
   exact ⟨x1,_,_,rfl,hL.cut0⟩
 | @qcg e n k x n1 hs hx hdp=>
  intro tt H hn hd ht e0 e2 e3 hL
  have hlt:i < H.length:=by have:=hL.lt;have:=hL.len;omega
  have hlb:h.length + 1 < H.length:=hL.len
  have hl0:h.length < H.length:=by omega
  have hib:i ≠ h.length + 1:=by have:=hL.lt;omega
  have hb1:=qfa h 1
  have hp:=hL.par
  have hnod:=hL.nod
  have hres:=hL.res
  rw [NBi] at hnod
  rw [PBi] at hp
  rw [qbu] at hres
  obtain ⟨x1,x2,x3,x4⟩:=hx
  rw [qm]
  generalize he:qo h.length Wd qgt _ = r
  obtain ⟨s1,rfl⟩:=qe9 hs
  ·simp only [qgt,sT.1,sC.1,qc,qb,Nat.testBit,simprocAttr,-Int.reduceNatCast',ht,e0,e2,e3,qz hw hn,qC hw hn,hp,PBi,hlt,hlb,hib,hl0,hnod,hres,hb1,hd,Nd.cut6,Nd.cutE,Nd.dimE,Nd.cellsE,Nd.dims,Nd.len,Nd.stor,Nd.drainE,Nd.drop7,qI,qag,s1,x4,x3,qdJ,hdp] at he
   subst he
   exact ⟨x2,_,_,rfl,hL.cut0⟩
 | @go e n k x n1 o hs hx hdp _ ih=>
  intro tt H hn hd ht e0 e2 e3 hL
  have hlt:i < H.length:=by have:=hL.lt;have:=hL.len;omega
  have hlb:h.length + 1 < H.length:=hL.len
  have hl0:h.length < H.length:=by omega
  have hib:i ≠ h.length + 1:=by have:=hL.lt;omega
  have hb1:=qfa h 1
  have hp:=hL.par
  have hnod:=hL.nod
  have hres:=hL.res
  rw [NBi] at hnod
  rw [PBi] at hp
  rw [qbu] at hres
  obtain ⟨x1,x2,x3,x4⟩:=hx
  rw [qm]
  generalize he:qo h.length Wd qgt _ = r
  obtain ⟨s1,rfl⟩:=qe9 hs
  ·simp only [qgt,sT.1,sC.1,qc,qb,Nat.testBit,simprocAttr,-Int.reduceNatCast',ht,e0,e2,e3,qz hw hn,qC hw hn,hp,PBi,hlt,hlb,hib,hl0,hnod,hres,hb1,hd,Nd.cut6,Nd.cutE,Nd.dimE,Nd.cellsE,Nd.dims,Nd.len,Nd.stor,Nd.drainE,Nd.drop7,qI,qag,s1,x4,x3,qdJ,hdp] at he
   subst he
   exact ih _ _ x2 hdp (by simp only [qj,ht]) (by simp only [sT.1,sC.1,qc,qb,Nat.testBit,simprocAttr,-Int.reduceNatCast',ht,e0]) (by simp only [sT.1,sC.1,qc,qb,Nat.testBit,simprocAttr,-Int.reduceNatCast',ht,e2]) (by simp only [sT.1,sC.1,qc,qb,Nat.testBit,simprocAttr,-Int.reduceNatCast',ht,e3]) hL.next0
theorem qvD (hw:WF ws) {n:Nat} (hn:n < ws.length) {e:Exp} {n1:Nat} {o:Out} (h1:qa8 134 ws n (.ok e n1)) (hT:qfR (qfN ws) (qa8 134 ws) (word ws n).pos e n1 o):qa8 98 ws n o:=by
 obtain ⟨g1,g2,g3,g4⟩:=h1
 have hmono:=hT.mono (fun n x m h=>h.1)
 have run:∀(h:List qf) (i:Nat),h[i]? = some (PB ws n)→∃r,qln h i ws (word ws n).pos 18 r o∧Wd (.fn 98 [] []) [.ptr i 0] h = qeo [.cell 2 (some 7)] h (qbN (qo h.length Wd (.seq (.reg [ao 17 (.ld (some 7) (.t 3)),an (.st (some 7) (.t 2) (.t 17))]) .ret)) (qce 0 r)):=by
  intro h i hi
  have hlt:=qw hi
  rw [PBi] at hi
  generalize hr:Wd (.fn 98 [] []) [.ptr i 0] h = R
  rw [qi rfl (show T.get 98 = some c98 by kernel_rfl)] at hr
  have hbl1:Nat.ble h.length (h.length + 1) = true:=qau (by omega)
  simp only [c98,sT.1,sC.1,qc,qb,Nat.testBit,simprocAttr,-Int.reduceNatCast',g4,hi,hlt,PBi,Nd.dimE,Nd.cellsE,Nd.cutE,Nd.dims,Nd.len,Nd.stor,Nd.drainE,hbl1] at hr
  generalize hq:qo h.length Wd (.loop qgt) _ = r at hr
  refine ⟨r,?_,?_⟩
  ·rw [←hq]
   exact qr6 hw i _ e n1 o hT _ _ g2 g3 (by simp only [sT.1,sC.1,qc,qb,Nat.testBit,simprocAttr,-Int.reduceNatCast']) (by simp only [sT.1,sC.1,qc,qb,Nat.testBit,simprocAttr,-Int.reduceNatCast']) (by simp only [sT.1,sC.1,qc,qb,Nat.testBit,simprocAttr,-Int.reduceNatCast']) (by simp only [sT.1,sC.1,qc,qb,Nat.testBit,simprocAttr,-Int.reduceNatCast']) (qfs.start hlt)
  ·rw [←hr]
   simp only [sT.1,sC.1,qc,qb,Nat.testBit,simprocAttr,-Int.reduceNatCast']
 cases o with
 | ok e' n'=>
  have hm:=hmono e' n' rfl
  obtain ⟨r,hL,_⟩:=run (List.replicate 1 (PB ws n)) 0 rfl
  refine ⟨by omega,hL.1,hL.2.1,fun h i hi=>?_⟩
  obtain ⟨r,⟨q1,q2,tt,H,rfl,ht,e2,e3,hL⟩,hr⟩:=run h i hi
  have hnod:=hL.nod
  have hres:=hL.res
  have hlen:=hL.len
  have hlen':h.length < H.length:=by omega
  rw [NBi] at hnod
  rw [qbu] at hres
  rw [hr]
  simp only [sT.1,sC.1,qc,qb,Nat.testBit,simprocAttr,-Int.reduceNatCast',ht,e2,e3,hnod,hres,hlen',Nd.dimE,Nd.cellsE,Nd.cutE,Nd.dims,Nd.len,Nd.stor,Nd.drainE]
  exact congrArg some hL.answer
 | no pos err n'=>
  obtain ⟨r,hL,_⟩:=run (List.replicate 1 (PB ws n)) 0 rfl
  refine ⟨hL.1,fun h i hi=>?_⟩
  obtain ⟨r,⟨q1,tt,H,rfl,q3⟩,hr⟩:=run h i hi
  rw [hr]
  simp only [sT.1,sC.1,qc,qb,Nat.testBit,simprocAttr,-Int.reduceNatCast']
  exact congrArg some (qaN q3 (qg _ _ _))
def qnh (ws:List Tok) (n:Nat):Option Int:=if isW ws n [111,114] = true then some 24 else none
theorem qgC {n:Nat} {k:Int} (h:qnh ws n = some k):(isW ws n [111,114] = true∧k = 24):=by
 simp only [qnh] at h
 cases h0:isW ws n [111,114] <;> simp_all
theorem qqD {n:Nat} (h:qnh ws n = none):isW ws n [111,114] = false:=by
 simp only [qnh] at h
 cases h0:isW ws n [111,114] <;> simp_all
theorem qx0 (hw:WF ws) (i:Nat) (pos:Int) (e:Exp) (n:Nat) (o:Out) (hT:qfR (qnh ws) (qa8 98 ws) pos e n o):∀(tt:List qa) (H:List qf),n < ws.length→e.depth ≤ 20→tt.length = 18→lkp tt 0 = .ptr i 0→lkp tt 2 = .ptr h.length 0→lkp tt 3 = .ptr (h.length + 1) 0→qfs h i ws n ⟨e,pos⟩ H→
  qln h i ws pos 18 (qo h.length Wd (.loop qgs) ⟨tt,H,false⟩) o:=by
 induction hT with
 | @stop e n hs=>
  intro tt H hn hd ht e0 e2 e3 hL
  have hlt:i < H.length:=by have:=hL.lt;have:=hL.len;omega
  have hlb:h.length + 1 < H.length:=hL.len
  have hl0:h.length < H.length:=by omega
  have hib:i ≠ h.length + 1:=by have:=hL.lt;omega
  have hb1:=qfa h 1
  have hp:=hL.par
  have hnod:=hL.nod
  have hres:=hL.res
  rw [NBi] at hnod
  rw [PBi] at hp
  rw [qbu] at hres
  have s1:=qqD hs
  rw [qm]
  generalize he:qo h.length Wd qgs _ = r
  simp only [qgs,sT.1,sC.1,qc,qb,Nat.testBit,simprocAttr,-Int.reduceNatCast',ht,e0,e2,e3,qz hw hn,qC hw hn,hp,PBi,hlt,hlb,hib,hl0,hnod,hres,hb1,hd,Nd.cut6,Nd.cutE,Nd.dimE,Nd.cellsE,Nd.dims,Nd.len,Nd.stor,Nd.drainE,Nd.drop7,qI,qag,s1] at he
  subst he
  exact ⟨hn,hd,_,_,rfl,by simp only [qj,ht],by simp only [sT.1,sC.1,qc,qb,Nat.testBit,simprocAttr,-Int.reduceNatCast',e2],by simp only [sT.1,sC.1,qc,qb,Nat.testBit,simprocAttr,-Int.reduceNatCast',e3],hL⟩
 | @bad e n k p err m hs hx=>
  intro tt H hn hd ht e0 e2 e3 hL
  have hlt:i < H.length:=by have:=hL.lt;have:=hL.len;omega
  have hlb:h.length + 1 < H.length:=hL.len
  have hl0:h.length < H.length:=by omega
  have hib:i ≠ h.length + 1:=by have:=hL.lt;omega
  have hb1:=qfa h 1
  have hp:=hL.par
  have hnod:=hL.nod
  have hres:=hL.res
  rw [NBi] at hnod
  rw [PBi] at hp
  rw [qbu] at hres
  obtain ⟨x1,x2⟩:=hx
  rw [qm]
  generalize he:qo h.length Wd qgs _ = r
  obtain ⟨s1,rfl⟩:=qgC hs
  ·simp only [qgs,sT.1,sC.1,qc,qb,Nat.testBit,simprocAttr,-Int.reduceNatCast',ht,e0,e2,e3,qz hw hn,qC hw hn,hp,PBi,hlt,hlb,hib,hl0,hnod,hres,hb1,hd,Nd.cut6,Nd.cutE,Nd.dimE,Nd.cellsE,Nd.dims,Nd.len,Nd.stor,Nd.drainE,Nd.drop7,qI,qag,s1,x2] at he
   subst he
   exact ⟨x1,_,_,rfl,hL.cut0⟩
 | @qcg e n k x n1 hs hx hdp=>
  intro tt H hn hd ht e0 e2 e3 hL
  have hlt:i < H.length:=by have:=hL.lt;have:=hL.len;omega
  have hlb:h.length + 1 < H.length:=hL.len
  have hl0:h.length < H.length:=by omega
  have hib:i ≠ h.length + 1:=by have:=hL.lt;omega
  have hb1:=qfa h 1
  have hp:=hL.par
  have hnod:=hL.nod
  have hres:=hL.res
  rw [NBi] at hnod
  rw [PBi] at hp
  rw [qbu] at hres
  obtain ⟨x1,x2,x3,x4⟩:=hx
  rw [qm]
  generalize he:qo h.length Wd qgs _ = r
  obtain ⟨s1,rfl⟩:=qgC hs
  ·simp only [qgs,sT.1,sC.1,qc,qb,Nat.testBit,simprocAttr,-Int.reduceNatCast',ht,e0,e2,e3,qz hw hn,qC hw hn,hp,PBi,hlt,hlb,hib,hl0,hnod,hres,hb1,hd,Nd.cut6,Nd.cutE,Nd.dimE,Nd.cellsE,Nd.dims,Nd.len,Nd.stor,Nd.drainE,Nd.drop7,qI,qag,s1,x4,x3,qdJ,hdp] at he
   subst he
   exact ⟨x2,_,_,rfl,hL.cut0⟩
 | @go e n k x n1 o hs hx hdp _ ih=>
  intro tt H hn hd ht e0 e2 e3 hL
  have hlt:i < H.length:=by have:=hL.lt;have:=hL.len;omega
  have hlb:h.length + 1 < H.length:=hL.len
  have hl0:h.length < H.length:=by omega
  have hib:i ≠ h.length + 1:=by have:=hL.lt;omega
  have hb1:=qfa h 1
  have hp:=hL.par
  have hnod:=hL.nod
  have hres:=hL.res
  rw [NBi] at hnod
  rw [PBi] at hp
  rw [qbu] at hres
  obtain ⟨x1,x2,x3,x4⟩:=hx
  rw [qm]
  generalize he:qo h.length Wd qgs _ = r
  obtain ⟨s1,rfl⟩:=qgC hs
  ·simp only [qgs,sT.1,sC.1,qc,qb,Nat.testBit,simprocAttr,-Int.reduceNatCast',ht,e0,e2,e3,qz hw hn,qC hw hn,hp,PBi,hlt,hlb,hib,hl0,hnod,hres,hb1,hd,Nd.cut6,Nd.cutE,Nd.dimE,Nd.cellsE,Nd.dims,Nd.len,Nd.stor,Nd.drainE,Nd.drop7,qI,qag,s1,x4,x3,qdJ,hdp] at he
   subst he
   exact ih _ _ x2 hdp (by simp only [qj,ht]) (by simp only [sT.1,sC.1,qc,qb,Nat.testBit,simprocAttr,-Int.reduceNatCast',ht,e0]) (by simp only [sT.1,sC.1,qc,qb,Nat.testBit,simprocAttr,-Int.reduceNatCast',ht,e2]) (by simp only [sT.1,sC.1,qc,qb,Nat.testBit,simprocAttr,-Int.reduceNatCast',ht,e3]) hL.next0
theorem qAb (hw:WF ws) {n:Nat} (hn:n < ws.length) {e:Exp} {n1:Nat} {o:Out} (h1:qa8 98 ws n (.ok e n1)) (hT:qfR (qnh ws) (qa8 98 ws) (word ws n).pos e n1 o):qa8 70 ws n o:=by
 obtain ⟨g1,g2,g3,g4⟩:=h1
 have hmono:=hT.mono (fun n x m h=>h.1)
 have run:∀(h:List qf) (i:Nat),h[i]? = some (PB ws n)→∃r,qln h i ws (word ws n).pos 18 r o∧Wd (.fn 70 [] []) [.ptr i 0] h = qeo [.cell 2 (some 7)] h (qbN (qo h.length Wd (.seq (.reg [ao 17 (.ld (some 7) (.t 3)),an (.st (some 7) (.t 2) (.t 17))]) .ret)) (qce 0 r)):=by
  intro h i hi
  have hlt:=qw hi
  rw [PBi] at hi
  generalize hr:Wd (.fn 70 [] []) [.ptr i 0] h = R
  rw [qi rfl (show T.get 70 = some c70 by kernel_rfl)] at hr
  have hbl1:Nat.ble h.length (h.length + 1) = true:=qau (by omega)
  simp only [c70,sT.1,sC.1,qc,qb,Nat.testBit,simprocAttr,-Int.reduceNatCast',g4,hi,hlt,PBi,Nd.dimE,Nd.cellsE,Nd.cutE,Nd.dims,Nd.len,Nd.stor,Nd.drainE,hbl1] at hr
  generalize hq:qo h.length Wd (.loop qgs) _ = r at hr
  refine ⟨r,?_,?_⟩
  ·rw [←hq]
   exact qx0 hw i _ e n1 o hT _ _ g2 g3 (by simp only [sT.1,sC.1,qc,qb,Nat.testBit,simprocAttr,-Int.reduceNatCast']) (by simp only [sT.1,sC.1,qc,qb,Nat.testBit,simprocAttr,-Int.reduceNatCast']) (by simp only [sT.1,sC.1,qc,qb,Nat.testBit,simprocAttr,-Int.reduceNatCast']) (by simp only [sT.1,sC.1,qc,qb,Nat.testBit,simprocAttr,-Int.reduceNatCast']) (qfs.start hlt)
  ·rw [←hr]
   simp only [sT.1,sC.1,qc,qb,Nat.testBit,simprocAttr,-Int.reduceNatCast']
 cases o with
 | ok e' n'=>
  have hm:=hmono e' n' rfl
  obtain ⟨r,hL,_⟩:=run (List.replicate 1 (PB ws n)) 0 rfl
  refine ⟨by omega,hL.1,hL.2.1,fun h i hi=>?_⟩
  obtain ⟨r,⟨q1,q2,tt,H,rfl,ht,e2,e3,hL⟩,hr⟩:=run h i hi
  have hnod:=hL.nod
  have hres:=hL.res
  have hlen:=hL.len
  have hlen':h.length < H.length:=by omega
  rw [NBi] at hnod
  rw [qbu] at hres
  rw [hr]
  simp only [sT.1,sC.1,qc,qb,Nat.testBit,simprocAttr,-Int.reduceNatCast',ht,e2,e3,hnod,hres,hlen',Nd.dimE,Nd.cellsE,Nd.cutE,Nd.dims,Nd.len,Nd.stor,Nd.drainE]
  exact congrArg some hL.answer
 | no pos err n'=>
  obtain ⟨r,hL,_⟩:=run (List.replicate 1 (PB ws n)) 0 rfl
  refine ⟨hL.1,fun h i hi=>?_⟩
  obtain ⟨r,⟨q1,tt,H,rfl,q3⟩,hr⟩:=run h i hi
  rw [hr]
  simp only [sT.1,sC.1,qc,qb,Nat.testBit,simprocAttr,-Int.reduceNatCast']
  exact congrArg some (qaN q3 (qg _ _ _))
end
end Go.Proofs.YtkmlapholimbcaaGreatDoor.AE
namespace Go.Proofs.YtkmlapholimbcaaGreatDoor.AE
open Go.AE
section
variable {ws:List Tok} {n:Nat}
theorem qtU (hw:WF ws) (hn:n < ws.length) (hs:isW ws n [45] = true) {x:Exp} {n1:Nat} (h1:qa8 174 ws (n + 1) (.ok x n1)) (hd:(Exp.mk 13 0 [] [] [x]).depth ≤ 20):qa8 174 ws n (.ok (.mk 13 0 [] [] [x]) n1):=by
 obtain ⟨g1,g2,g3,g4⟩:=h1
 refine ⟨by omega,g2,hd,fun h i hi=>?_⟩
 have hlt:=qw hi
 rw [PBi] at hi
 rw [qi rfl (show T.get 174 = some quW by kernel_rfl)]
 simp only [quW,sT.1,sC.1,qc,qb,Nat.testBit,simprocAttr,-Int.reduceNatCast',qbi hw hn,hi,hlt,PBi,qI,qbA,Nd.dimE,Nd.cellsE,Nd.cutE,Nd.dims,Nd.len,Nd.stor,Nd.lower,Nd.drainE,Nd.cut6,Nd.drop7,qaI,qag,qbt,qg,qz hw hn,hs,g4,g3,qmx,hd]
theorem qtT (hw:WF ws) (hn:n < ws.length) (hs:isW ws n [45] = false) {o:Out} (h1:qa8 177 ws n o):qa8 174 ws n o:=by
 cases o with
 | ok e n1=>
  obtain ⟨g1,g2,g3,g4⟩:=h1
  refine ⟨g1,g2,g3,fun h i hi=>?_⟩
  have hlt:=qw hi
  rw [PBi] at hi
  rw [qi rfl (show T.get 174 = some quW by kernel_rfl)]
  simp only [quW,sT.1,sC.1,qc,qb,Nat.testBit,simprocAttr,-Int.reduceNatCast',qbi hw hn,hi,hlt,PBi,qI,qbA,Nd.dimE,Nd.cellsE,Nd.cutE,Nd.dims,Nd.len,Nd.stor,Nd.lower,Nd.drainE,Nd.cut6,Nd.drop7,qaI,qag,qbt,qg,qC hw hn,hs,g4]
 | no p err m=>
  obtain ⟨g1,g2⟩:=h1
  refine ⟨g1,fun h i hi=>?_⟩
  have hlt:=qw hi
  rw [PBi] at hi
  rw [qi rfl (show T.get 174 = some quW by kernel_rfl)]
  simp only [quW,sT.1,sC.1,qc,qb,Nat.testBit,simprocAttr,-Int.reduceNatCast',qbi hw hn,hi,hlt,PBi,qI,qbA,Nd.dimE,Nd.cellsE,Nd.cutE,Nd.dims,Nd.len,Nd.stor,Nd.lower,Nd.drainE,Nd.cut6,Nd.drop7,qaI,qag,qbt,qg,qC hw hn,hs,g2]
theorem qtX (hw:WF ws) (hn:n < ws.length) (hs:isW ws n [110,111,116] = true) {x:Exp} {n1:Nat} (h1:qa8 134 ws (n + 1) (.ok x n1)) (hd:(Exp.mk 14 0 [] [] [x]).depth ≤ 20):qa8 134 ws n (.ok (.mk 14 0 [] [] [x]) n1):=by
 obtain ⟨g1,g2,g3,g4⟩:=h1
 refine ⟨by omega,g2,hd,fun h i hi=>?_⟩
 have hlt:=qw hi
 rw [PBi] at hi
 rw [qi rfl (show T.get 134 = some quU by kernel_rfl)]
 simp only [quU,sT.1,sC.1,qc,qb,Nat.testBit,simprocAttr,-Int.reduceNatCast',qbi hw hn,hi,hlt,PBi,qI,qbA,Nd.dimE,Nd.cellsE,Nd.cutE,Nd.dims,Nd.len,Nd.stor,Nd.lower,Nd.drainE,Nd.cut6,Nd.drop7,qaI,qag,qbt,qg,qz hw hn,hs,g4,g3,qmx,hd]
theorem qtW (hw:WF ws) (hn:n < ws.length) (hs:isW ws n [110,111,116] = false) {o:Out} (h1:qa8 149 ws n o):qa8 134 ws n o:=by
 cases o with
 | ok e n1=>
  obtain ⟨g1,g2,g3,g4⟩:=h1
  refine ⟨g1,g2,g3,fun h i hi=>?_⟩
  have hlt:=qw hi
  rw [PBi] at hi
  rw [qi rfl (show T.get 134 = some quU by kernel_rfl)]
  simp only [quU,sT.1,sC.1,qc,qb,Nat.testBit,simprocAttr,-Int.reduceNatCast',qbi hw hn,hi,hlt,PBi,qI,qbA,Nd.dimE,Nd.cellsE,Nd.cutE,Nd.dims,Nd.len,Nd.stor,Nd.lower,Nd.drainE,Nd.cut6,Nd.drop7,qaI,qag,qbt,qg,qC hw hn,hs,g4]
 | no p err m=>
  obtain ⟨g1,g2⟩:=h1
  refine ⟨g1,fun h i hi=>?_⟩
  have hlt:=qw hi
  rw [PBi] at hi
  rw [qi rfl (show T.get 134 = some quU by kernel_rfl)]
  simp only [quU,sT.1,sC.1,qc,qb,Nat.testBit,simprocAttr,-Int.reduceNatCast',qbi hw hn,hi,hlt,PBi,qI,qbA,Nd.dimE,Nd.cellsE,Nd.cutE,Nd.dims,Nd.len,Nd.stor,Nd.lower,Nd.drainE,Nd.cut6,Nd.drop7,qaI,qag,qbt,qg,qC hw hn,hs,g2]
def qds (ws:List Tok) (n:Nat):Option Int:=if isW ws n [61] = true then some 20 else if isW ws n [60] = true then some 21 else if isW ws n [60,61] = true then some 22 else none
theorem qks {n:Nat} {k:Int} (h:qds ws n = some k):(isW ws n [61] = true∧k = 20)∨(isW ws n [61] = false∧isW ws n [60] = true∧k = 21)∨(isW ws n [61] = false∧isW ws n [60] = false∧isW ws n [60,61] = true∧k = 22):=by
 simp only [qds] at h
 cases h0:isW ws n [61] <;> cases h1:isW ws n [60] <;> cases h2:isW ws n [60,61] <;> simp_all
theorem qkr {n:Nat} (h:qds ws n = none):isW ws n [61] = false∧isW ws n [60] = false∧isW ws n [60,61] = false:=by
 simp only [qds] at h
 cases h0:isW ws n [61] <;> cases h1:isW ws n [60] <;> cases h2:isW ws n [60,61] <;> simp_all
theorem qui (hw:WF ws) (hn:n < ws.length) {e:Exp} {n1:Nat} (h1:qa8 162 ws n (.ok e n1)) (hs:qds ws n1 = none):qa8 149 ws n (.ok e n1):=by
 obtain ⟨g1,g2,g3,g4⟩:=h1
 obtain ⟨s1,s2,s3⟩:=qkr hs
 refine ⟨g1,g2,g3,fun h i hi=>?_⟩
 have hbl1:Nat.ble h.length (h.length + 1) = true:=qau (by omega)
 have hlt:=qw hi
 rw [PBi] at hi
 rw [qi rfl (show T.get 149 = some quV by kernel_rfl)]
 simp only [quV,sT.1,sC.1,qc,qb,Nat.testBit,simprocAttr,-Int.reduceNatCast',qbi hw hn,hi,hlt,PBi,qI,qbA,Nd.dimE,Nd.cellsE,Nd.cutE,Nd.dims,Nd.len,Nd.stor,Nd.lower,Nd.drainE,Nd.cut6,Nd.drop7,qaI,qag,qbt,qg,g4,qC hw g2,s1,s2,s3,hbl1]
theorem quj (hw:WF ws) (hn:n < ws.length) {e:Exp} {n1:Nat} (h1:qa8 162 ws n (.ok e n1)) {k:Int} (hs:qds ws n1 = some k) {x:Exp} {n2:Nat} (h2:qa8 162 ws (n1 + 1) (.ok x n2)) (hd:(Exp.mk k 0 [] [] [e,x]).depth ≤ 20):qa8 149 ws n (.ok (.mk k 0 [] [] [e,x]) n2):=by
 obtain ⟨g1,g2,g3,g4⟩:=h1
 obtain ⟨x1,x2,x3,x4⟩:=h2
 refine ⟨by omega,x2,hd,fun h i hi=>?_⟩
 have hbl1:Nat.ble h.length (h.length + 1) = true:=qau (by omega)
 have hlt:=qw hi
 rw [PBi] at hi
 rw [qi rfl (show T.get 149 = some quV by kernel_rfl)]
 rcases qks hs with ⟨s1,rfl⟩ | ⟨s1,s2,rfl⟩ | ⟨s1,s2,s3,rfl⟩
 ·simp only [quV,sT.1,sC.1,qc,qb,Nat.testBit,simprocAttr,-Int.reduceNatCast',qbi hw hn,hi,hlt,PBi,qI,qbA,Nd.dimE,Nd.cellsE,Nd.cutE,Nd.dims,Nd.len,Nd.stor,Nd.lower,Nd.drainE,Nd.cut6,Nd.drop7,qaI,qag,qbt,qg,g4,qC hw g2,qz hw g2,s1,hbl1,x4,x3,g3,qdJ,hd]
 ·simp only [quV,sT.1,sC.1,qc,qb,Nat.testBit,simprocAttr,-Int.reduceNatCast',qbi hw hn,hi,hlt,PBi,qI,qbA,Nd.dimE,Nd.cellsE,Nd.cutE,Nd.dims,Nd.len,Nd.stor,Nd.lower,Nd.drainE,Nd.cut6,Nd.drop7,qaI,qag,qbt,qg,g4,qC hw g2,qz hw g2,s1,s2,hbl1,x4,x3,g3,qdJ,hd]
 ·simp only [quV,sT.1,sC.1,qc,qb,Nat.testBit,simprocAttr,-Int.reduceNatCast',qbi hw hn,hi,hlt,PBi,qI,qbA,Nd.dimE,Nd.cellsE,Nd.cutE,Nd.dims,Nd.len,Nd.stor,Nd.lower,Nd.drainE,Nd.cut6,Nd.drop7,qaI,qag,qbt,qg,g4,qC hw g2,qz hw g2,s1,s2,s3,hbl1,x4,x3,g3,qdJ,hd]
end
end Go.Proofs.YtkmlapholimbcaaGreatDoor.AE
namespace Go.Proofs.YtkmlapholimbcaaGreatDoor.AE
open Go.AE
section
variable {ws:List Tok} {n:Nat}
theorem qxU (hw:WF ws) (hn:n < ws.length) (hk:(word ws n).kind = 1):qa8 178 ws n (.ok (.mk 0 (word ws n).n [] [] []) (n + 1)):=by
 refine ⟨by omega,hw.next hn (by omega),by simp [Exp.depth,qa4],fun h i hi=>?_⟩
 have w:=qX (n:=n) (by have:=hw.len;omega)
 have k1:((word ws n).kind == 1) = true:=by simpa using hk
 have hlt:=qw hi
 rw [PBi] at hi
 rw [qi rfl (show T.get 178 = some qia by kernel_rfl)]
 simp only [qia,sT.1,sC.1,qc,qb,Nat.testBit,simprocAttr,-Int.reduceNatCast',qbi hw hn,hi,hlt,PBi,qI,qbA,Nd.dimE,Nd.cellsE,Nd.cutE,Nd.dims,Nd.len,Nd.stor,Nd.lower,Nd.drainE,Nd.cut6,Nd.drop7,qaI,qag,qbt,qg,qR hw hn,Tok.enc,k1,w]
theorem qxV (hw:WF ws) (hn:n < ws.length) (hk:(word ws n).kind = 2):qa8 178 ws n (.ok (.mk 3 0 (word ws n).s [] []) (n + 1)):=by
 refine ⟨by omega,hw.next hn (by omega),by simp [Exp.depth,qa4],fun h i hi=>?_⟩
 have w:=qX (n:=n) (by have:=hw.len;omega)
 have k1:((word ws n).kind == 1) = false:=by rw [hk];rfl
 have k2:((word ws n).kind == 2) = true:=by simpa using hk
 have hlt:=qw hi
 rw [PBi] at hi
 rw [qi rfl (show T.get 178 = some qia by kernel_rfl)]
 simp only [qia,sT.1,sC.1,qc,qb,Nat.testBit,simprocAttr,-Int.reduceNatCast',qbi hw hn,hi,hlt,PBi,qI,qbA,Nd.dimE,Nd.cellsE,Nd.cutE,Nd.dims,Nd.len,Nd.stor,Nd.lower,Nd.drainE,Nd.cut6,Nd.drop7,qaI,qag,qbt,qg,qR hw hn,Tok.enc,k1,k2,w]
theorem qqy (hw:WF ws) (hn:n < ws.length) (hs:qa2 ws n = true) {o:Out} (h1:qa8 180 ws n o):qa8 178 ws n o:=by
 have k0:(word ws n).kind = 0:=by simp [qa2] at hs;exact hs.1
 have k1:((word ws n).kind == 1) = false:=by rw [k0];rfl
 have k2:((word ws n).kind == 2) = false:=by rw [k0];rfl
 cases o with
 | ok e n1=>
  obtain ⟨g1,g2,g3,g4⟩:=h1
  refine ⟨g1,g2,g3,fun h i hi=>?_⟩
  have hlt:=qw hi
  rw [PBi] at hi
  rw [qi rfl (show T.get 178 = some qia by kernel_rfl)]
  simp only [qia,sT.1,sC.1,qc,qb,Nat.testBit,simprocAttr,-Int.reduceNatCast',qbi hw hn,hi,hlt,PBi,qI,qbA,Nd.dimE,Nd.cellsE,Nd.cutE,Nd.dims,Nd.len,Nd.stor,Nd.lower,Nd.drainE,Nd.cut6,Nd.drop7,qaI,qag,qbt,qg,qR hw hn,Tok.enc,k1,k2,qO hw hn,hs,g4]
 | no p err m=>
  obtain ⟨g1,g2⟩:=h1
  refine ⟨g1,fun h i hi=>?_⟩
  have hlt:=qw hi
  rw [PBi] at hi
  rw [qi rfl (show T.get 178 = some qia by kernel_rfl)]
  simp only [qia,sT.1,sC.1,qc,qb,Nat.testBit,simprocAttr,-Int.reduceNatCast',qbi hw hn,hi,hlt,PBi,qI,qbA,Nd.dimE,Nd.cellsE,Nd.cutE,Nd.dims,Nd.len,Nd.stor,Nd.lower,Nd.drainE,Nd.cut6,Nd.drop7,qaI,qag,qbt,qg,qR hw hn,Tok.enc,k1,k2,qO hw hn,hs,g2]
theorem qdM (hw:WF ws) (hn:n < ws.length) (k1:(word ws n).kind ≠ 1) (k2:(word ws n).kind ≠ 2) (hs:qa2 ws n = false) (hb:isW ws n [40] = true) {o:Out} (h1:qa8 181 ws n o):qa8 178 ws n o:=by
 have k1':((word ws n).kind == 1) = false:=by simpa using k1
 have k2':((word ws n).kind == 2) = false:=by simpa using k2
 cases o with
 | ok e n1=>
  obtain ⟨g1,g2,g3,g4⟩:=h1
  refine ⟨g1,g2,g3,fun h i hi=>?_⟩
  have hlt:=qw hi
  rw [PBi] at hi
  rw [qi rfl (show T.get 178 = some qia by kernel_rfl)]
  simp only [qia,sT.1,sC.1,qc,qb,Nat.testBit,simprocAttr,-Int.reduceNatCast',qbi hw hn,hi,hlt,PBi,qI,qbA,Nd.dimE,Nd.cellsE,Nd.cutE,Nd.dims,Nd.len,Nd.stor,Nd.lower,Nd.drainE,Nd.cut6,Nd.drop7,qaI,qag,qbt,qg,qR hw hn,Tok.enc,k1',k2',qO hw hn,hs,qhM hw hn,hb,g4]
 | no p err m=>
  obtain ⟨g1,g2⟩:=h1
  refine ⟨g1,fun h i hi=>?_⟩
  have hlt:=qw hi
  rw [PBi] at hi
  rw [qi rfl (show T.get 178 = some qia by kernel_rfl)]
  simp only [qia,sT.1,sC.1,qc,qb,Nat.testBit,simprocAttr,-Int.reduceNatCast',qbi hw hn,hi,hlt,PBi,qI,qbA,Nd.dimE,Nd.cellsE,Nd.cutE,Nd.dims,Nd.len,Nd.stor,Nd.lower,Nd.drainE,Nd.cut6,Nd.drop7,qaI,qag,qbt,qg,qR hw hn,Tok.enc,k1',k2',qO hw hn,hs,qhM hw hn,hb,g2]
theorem qcC (hw:WF ws) (hn:n < ws.length) (k1:(word ws n).kind ≠ 1) (k2:(word ws n).kind ≠ 2) (hs:qa2 ws n = false) (hb:isW ws n [40] = false) {o:Out} (h1:qa8 182 ws n o):qa8 178 ws n o:=by
 have k1':((word ws n).kind == 1) = false:=by simpa using k1
 have k2':((word ws n).kind == 2) = false:=by simpa using k2
 cases o with
 | ok e n1=>
  obtain ⟨g1,g2,g3,g4⟩:=h1
  refine ⟨g1,g2,g3,fun h i hi=>?_⟩
  have hlt:=qw hi
  rw [PBi] at hi
  rw [qi rfl (show T.get 178 = some qia by kernel_rfl)]
  simp only [qia,sT.1,sC.1,qc,qb,Nat.testBit,simprocAttr,-Int.reduceNatCast',qbi hw hn,hi,hlt,PBi,qI,qbA,Nd.dimE,Nd.cellsE,Nd.cutE,Nd.dims,Nd.len,Nd.stor,Nd.lower,Nd.drainE,Nd.cut6,Nd.drop7,qaI,qag,qbt,qg,qR hw hn,Tok.enc,k1',k2',qO hw hn,hs,qhM hw hn,hb,g4]
 | no p err m=>
  obtain ⟨g1,g2⟩:=h1
  refine ⟨g1,fun h i hi=>?_⟩
  have hlt:=qw hi
  rw [PBi] at hi
  rw [qi rfl (show T.get 178 = some qia by kernel_rfl)]
  simp only [qia,sT.1,sC.1,qc,qb,Nat.testBit,simprocAttr,-Int.reduceNatCast',qbi hw hn,hi,hlt,PBi,qI,qbA,Nd.dimE,Nd.cellsE,Nd.cutE,Nd.dims,Nd.len,Nd.stor,Nd.lower,Nd.drainE,Nd.cut6,Nd.drop7,qaI,qag,qbt,qg,qR hw hn,Tok.enc,k1',k2',qO hw hn,hs,qhM hw hn,hb,g2]
theorem qoF (hw:WF ws) (hn:n < ws.length) (hs:isW ws n [105,102] = false) {o:Out} (h1:qa8 70 ws n o):qa8 43 ws n o:=by
 cases o with
 | ok e n1=>
  obtain ⟨g1,g2,g3,g4⟩:=h1
  refine ⟨g1,g2,g3,fun h i hi=>?_⟩
  have hlt:=qw hi
  rw [PBi] at hi
  rw [qi rfl (show T.get 43 = some c43 by kernel_rfl)]
  simp only [c43,sT.1,sC.1,qc,qb,Nat.testBit,simprocAttr,-Int.reduceNatCast',qbi hw hn,hi,hlt,PBi,qI,qbA,Nd.dimE,Nd.cellsE,Nd.cutE,Nd.dims,Nd.len,Nd.stor,Nd.lower,Nd.drainE,Nd.cut6,Nd.drop7,qaI,qag,qbt,qg,qC hw hn,hs,g4]
 | no p err m=>
  obtain ⟨g1,g2⟩:=h1
  refine ⟨g1,fun h i hi=>?_⟩
  have hlt:=qw hi
  rw [PBi] at hi
  rw [qi rfl (show T.get 43 = some c43 by kernel_rfl)]
  simp only [c43,sT.1,sC.1,qc,qb,Nat.testBit,simprocAttr,-Int.reduceNatCast',qbi hw hn,hi,hlt,PBi,qI,qbA,Nd.dimE,Nd.cellsE,Nd.cutE,Nd.dims,Nd.len,Nd.stor,Nd.lower,Nd.drainE,Nd.cut6,Nd.drop7,qaI,qag,qbt,qg,qC hw hn,hs,g2]
theorem qzC (hw:WF ws) (hn:n < ws.length) (hs:isW ws n [108,101,97,115,116] = true) (h1:isW ws (n + 1) [40] = true) (h2:qa2 ws (n + 1 + 1) = true) (h3:isW ws (n + 1 + 1 + 1) [44] = true) {x:Exp} {m:Nat} (h4:qa8 43 ws (n + 1 + 1 + 1 + 1) (.ok x m)) (h5:isW ws m [41] = true) (hd:(Exp.mk 10 0 (word ws (n + 1 + 1)).s [] [x]).depth ≤ 20):qa8 182 ws n (.ok (.mk 10 0 (word ws (n + 1 + 1)).s [] [x]) (m + 1)):=by
 have n1:=qW hw hn hs
 have n2:=qW hw n1 h1
 have n3:=qaS hw n2 h2
 have n4:=qW hw n3 h3
 have q0:isW ws n [116,114,117,101] = false:=qas hs (by decide)
 have q1:isW ws n [102,97,108,115,101] = false:=qas hs (by decide)
 have q2:isW ws n [101,108,97,112,115,101,100] = false:=qas hs (by decide)
 have q3:isW ws n [99,111,117,110,116] = false:=qas hs (by decide)
 have q4:isW ws n [104,97,115] = false:=qas hs (by decide)
 have q5:isW ws n [115,117,109] = false:=qas hs (by decide)
 obtain ⟨x1,x2,x3,x4⟩:=h4
 refine ⟨by omega,qW hw x2 h5,hd,fun h i hi=>?_⟩
 have hb1:=qfa h 1
 have hlt:=qw hi
 rw [PBi] at hi
 rw [qi rfl (show T.get 182 = some qjh by kernel_rfl)]
 simp only [qjh,sT.1,sC.1,qc,qb,Nat.testBit,simprocAttr,-Int.reduceNatCast',qbi hw hn,hi,hlt,PBi,qI,qbA,Nd.dimE,Nd.cellsE,Nd.cutE,Nd.dims,Nd.len,Nd.stor,Nd.lower,Nd.drainE,Nd.cut6,Nd.drop7,qaI,qag,qbt,qg,qz hw hn,qC hw hn,hs,q0,q1,q2,q3,q4,q5,qbg hw n1,h1,qd1 hw n2,h2,qbg hw n3,h3,x4,x3,qbg hw x2,h5,qmx,hd,hb1]
theorem if7 (hw:WF ws) (hn:n < ws.length) (hs:isW ws n [105,102] = true) {a:Exp} {n1:Nat} (ha:qa8 43 ws (n + 1) (.ok a n1)) (ht:isW ws n1 [116,104,101,110] = true) {b:Exp} {n2:Nat} (hb:qa8 43 ws (n1 + 1) (.ok b n2)) (hl:isW ws n2 [101,108,115,101] = true) {c:Exp} {n3:Nat} (hc:qa8 43 ws (n2 + 1) (.ok c n3)) (hd:(Exp.mk 25 0 [] [] [a,b,c]).depth ≤ 20):qa8 43 ws n (.ok (.mk 25 0 [] [] [a,b,c]) n3):=by
 obtain ⟨a1,a2,a3,a4⟩:=ha
 obtain ⟨b1,b2,b3,b4⟩:=hb
 obtain ⟨c1,c2,c3,c4⟩:=hc
 refine ⟨by omega,c2,hd,fun h i hi=>?_⟩
 have hb1:=qfa h 1
 have hb2:=qfa h 2
 have hb3:=qfa h 3
 have hlt:=qw hi
 rw [PBi] at hi
 rw [qi rfl (show T.get 43 = some c43 by kernel_rfl)]
 simp only [c43,sT.1,sC.1,qc,qb,Nat.testBit,simprocAttr,-Int.reduceNatCast',qbi hw hn,hi,hlt,PBi,qI,qbA,Nd.dimE,Nd.cellsE,Nd.cutE,Nd.dims,Nd.len,Nd.stor,Nd.lower,Nd.drainE,Nd.cut6,Nd.drop7,qaI,qag,qbt,qg,qz hw hn,hs,hb1,hb2,hb3,a4,qbg hw a2,ht,b4,qbg hw b2,hl,c4,a3,b3,c3,qCh,hd]
end
end Go.Proofs.YtkmlapholimbcaaGreatDoor.AE
set_option maxHeartbeats 800000
namespace Go.Proofs.YtkmlapholimbcaaGreatDoor.AE
open Go.AE
section
variable {ws:List Tok} {n:Nat} {h:List qf} {i:Nat}
def qae (s:Str):Bool:=s == [105,102] || s == [110,111,116] || s == [116,114,117,101] || s == [102,97,108,115,101] || s == [101,108,97,112,115,101,100] || s == [99,111,117,110,116] || s == [104,97,115] || s == [115,117,109] || s == [108,101,97,115,116]
def qaX (ws:List Tok) (n:Nat):Bool:=(word ws n).kind == 1 || ((word ws n).kind == 2 || (qa2 ws n || (((word ws n).kind == 3 && ((word ws n).s == [40] || (word ws n).s == [45])) || ((word ws n).kind == 0 && qae (word ws n).s))))
theorem qiQ (hw:WF ws) (hn:n < ws.length) (hi:h[i]? = some (PB ws n)):Wd (.fn 184 [] []) [.ptr i 0] h = some (.pan (qdt (word ws n).pos (bif qaX ws n then 8 else 6)),h,false):=by
 have hlt:=qw hi
 rw [PBi] at hi
 rw [qi rfl (show T.get 184 = some qew by kernel_rfl)]
 have hbad:∀l:List qf,Wd (.fn 74 [] []) [.ptr i 0] (h ++ l) = some (.pan (qdt (word ws n).pos 6),h ++ l,false):=fun l=>qaT hw hn (by rw [qbW hlt,hi,PBi])
 cases k1:((word ws n).kind == 1) with
 | true=>
  simp only [qew,sT.1,sC.1,qc,qb,Nat.testBit,reduceCtorEq,Nat.reduceAdd,Nat.reduceSub,Nat.reduceLT,Nat.reduceEqDiff,Nat.reduceLeDiff,Nat.reduceMul,Int.reduceToNat,Nat.reduceShiftRight,Nat.reduceAnd,Nat.reduceBneDiff,Nat.reduceBEq,qR hw hn,Tok.enc,hi,hlt,PBi,qax,qO hw hn,qaT hw hn,qg,qaX,qae,hi,k1]
 | false=>
  cases k2:((word ws n).kind == 2) with
  | true=>
   simp only [qew,sT.1,sC.1,qc,qb,Nat.testBit,reduceCtorEq,Nat.reduceAdd,Nat.reduceSub,Nat.reduceLT,Nat.reduceEqDiff,Nat.reduceLeDiff,Nat.reduceMul,Int.reduceToNat,Nat.reduceShiftRight,Nat.reduceAnd,Nat.reduceBneDiff,Nat.reduceBEq,qR hw hn,Tok.enc,hi,hlt,PBi,qax,qO hw hn,qaT hw hn,qg,qaX,qae,hi,k1,k2]
  | false=>
   cases nm:qa2 ws n with
   | true=>
    simp only [qew,sT.1,sC.1,qc,qb,Nat.testBit,reduceCtorEq,Nat.reduceAdd,Nat.reduceSub,Nat.reduceLT,Nat.reduceEqDiff,Nat.reduceLeDiff,Nat.reduceMul,Int.reduceToNat,Nat.reduceShiftRight,Nat.reduceAnd,Nat.reduceBneDiff,Nat.reduceBEq,qR hw hn,Tok.enc,hi,hlt,PBi,qax,qO hw hn,qaT hw hn,qg,qaX,qae,hi,k1,k2,nm]
   | false=>
    cases k3:((word ws n).kind == 3) with
    | true=>
     cases p:((word ws n).s == [40]) with
     | true=>
      simp only [qew,sT.1,sC.1,qc,qb,Nat.testBit,reduceCtorEq,Nat.reduceAdd,Nat.reduceSub,Nat.reduceLT,Nat.reduceEqDiff,Nat.reduceLeDiff,Nat.reduceMul,Int.reduceToNat,Nat.reduceShiftRight,Nat.reduceAnd,Nat.reduceBneDiff,Nat.reduceBEq,qR hw hn,Tok.enc,hi,hlt,PBi,qax,qO hw hn,qaT hw hn,qg,qaX,qae,hi,k1,k2,nm,k3,p]
     | false=>
      cases d:((word ws n).s == [45]) with
      | true=>
       simp only [qew,sT.1,sC.1,qc,qb,Nat.testBit,reduceCtorEq,Nat.reduceAdd,Nat.reduceSub,Nat.reduceLT,Nat.reduceEqDiff,Nat.reduceLeDiff,Nat.reduceMul,Int.reduceToNat,Nat.reduceShiftRight,Nat.reduceAnd,Nat.reduceBneDiff,Nat.reduceBEq,qR hw hn,Tok.enc,hi,hlt,PBi,qax,qO hw hn,qaT hw hn,qg,qaX,qae,hi,k1,k2,nm,k3,p,d]
      | false=>
       cases k0:((word ws n).kind == 0) with
       | true=>
        cases b0:((word ws n).s == [105,102]) with
        | true=>
         simp only [qew,sT.1,sC.1,qc,qb,Nat.testBit,reduceCtorEq,Nat.reduceAdd,Nat.reduceSub,Nat.reduceLT,Nat.reduceEqDiff,Nat.reduceLeDiff,Nat.reduceMul,Int.reduceToNat,Nat.reduceShiftRight,Nat.reduceAnd,Nat.reduceBneDiff,Nat.reduceBEq,qR hw hn,Tok.enc,hi,hlt,PBi,qax,qO hw hn,qaT hw hn,qg,qaX,qae,hi,k1,k2,nm,k3,p,d,k0,b0]
        | false=>
         cases b1:((word ws n).s == [110,111,116]) with
         | true=>
          simp only [qew,sT.1,sC.1,qc,qb,Nat.testBit,reduceCtorEq,Nat.reduceAdd,Nat.reduceSub,Nat.reduceLT,Nat.reduceEqDiff,Nat.reduceLeDiff,Nat.reduceMul,Int.reduceToNat,Nat.reduceShiftRight,Nat.reduceAnd,Nat.reduceBneDiff,Nat.reduceBEq,qR hw hn,Tok.enc,hi,hlt,PBi,qax,qO hw hn,qaT hw hn,qg,qaX,qae,hi,k1,k2,nm,k3,p,d,k0,b0,b1]
         | false=>
          cases b2:((word ws n).s == [116,114,117,101]) with
          | true=>
           simp only [qew,sT.1,sC.1,qc,qb,Nat.testBit,reduceCtorEq,Nat.reduceAdd,Nat.reduceSub,Nat.reduceLT,Nat.reduceEqDiff,Nat.reduceLeDiff,Nat.reduceMul,Int.reduceToNat,Nat.reduceShiftRight,Nat.reduceAnd,Nat.reduceBneDiff,Nat.reduceBEq,qR hw hn,Tok.enc,hi,hlt,PBi,qax,qO hw hn,qaT hw hn,qg,qaX,qae,hi,k1,k2,nm,k3,p,d,k0,b0,b1,b2]
          | false=>
           cases b3:((word ws n).s == [102,97,108,115,101]) with
           | true=>
            simp only [qew,sT.1,sC.1,qc,qb,Nat.testBit,reduceCtorEq,Nat.reduceAdd,Nat.reduceSub,Nat.reduceLT,Nat.reduceEqDiff,Nat.reduceLeDiff,Nat.reduceMul,Int.reduceToNat,Nat.reduceShiftRight,Nat.reduceAnd,Nat.reduceBneDiff,Nat.reduceBEq,qR hw hn,Tok.enc,hi,hlt,PBi,qax,qO hw hn,qaT hw hn,qg,qaX,qae,hi,k1,k2,nm,k3,p,d,k0,b0,b1,b2,b3]
           | false=>
            cases b4:((word ws n).s == [101,108,97,112,115,101,100]) with
            | true=>
             simp only [qew,sT.1,sC.1,qc,qb,Nat.testBit,reduceCtorEq,Nat.reduceAdd,Nat.reduceSub,Nat.reduceLT,Nat.reduceEqDiff,Nat.reduceLeDiff,Nat.reduceMul,Int.reduceToNat,Nat.reduceShiftRight,Nat.reduceAnd,Nat.reduceBneDiff,Nat.reduceBEq,qR hw hn,Tok.enc,hi,hlt,PBi,qax,qO hw hn,qaT hw hn,qg,qaX,qae,hi,k1,k2,nm,k3,p,d,k0,b0,b1,b2,b3,b4]
            | false=>
             cases b5:((word ws n).s == [99,111,117,110,116]) with
             | true=>
              simp only [qew,sT.1,sC.1,qc,qb,Nat.testBit,reduceCtorEq,Nat.reduceAdd,Nat.reduceSub,Nat.reduceLT,Nat.reduceEqDiff,Nat.reduceLeDiff,Nat.reduceMul,Int.reduceToNat,Nat.reduceShiftRight,Nat.reduceAnd,Nat.reduceBneDiff,Nat.reduceBEq,qR hw hn,Tok.enc,hi,hlt,PBi,qax,qO hw hn,qaT hw hn,qg,qaX,qae,hi,k1,k2,nm,k3,p,d,k0,b0,b1,b2,b3,b4,b5]
             | false=>
              cases b6:((word ws n).s == [104,97,115]) with
              | true=>
               simp only [qew,sT.1,sC.1,qc,qb,Nat.testBit,reduceCtorEq,Nat.reduceAdd,Nat.reduceSub,Nat.reduceLT,Nat.reduceEqDiff,Nat.reduceLeDiff,Nat.reduceMul,Int.reduceToNat,Nat.reduceShiftRight,Nat.reduceAnd,Nat.reduceBneDiff,Nat.reduceBEq,qR hw hn,Tok.enc,hi,hlt,PBi,qax,qO hw hn,qaT hw hn,qg,qaX,qae,hi,k1,k2,nm,k3,p,d,k0,b0,b1,b2,b3,b4,b5,b6]
              | false=>
               cases b7:((word ws n).s == [115,117,109]) with
               | true=>
                simp only [qew,sT.1,sC.1,qc,qb,Nat.testBit,reduceCtorEq,Nat.reduceAdd,Nat.reduceSub,Nat.reduceLT,Nat.reduceEqDiff,Nat.reduceLeDiff,Nat.reduceMul,Int.reduceToNat,Nat.reduceShiftRight,Nat.reduceAnd,Nat.reduceBneDiff,Nat.reduceBEq,qR hw hn,Tok.enc,hi,hlt,PBi,qax,qO hw hn,qaT hw hn,qg,qaX,qae,hi,k1,k2,nm,k3,p,d,k0,b0,b1,b2,b3,b4,b5,b6,b7]
               | false=>
                cases b8:((word ws n).s == [108,101,97,115,116]) with
                | true=>
                 simp only [qew,sT.1,sC.1,qc,qb,Nat.testBit,reduceCtorEq,Nat.reduceAdd,Nat.reduceSub,Nat.reduceLT,Nat.reduceEqDiff,Nat.reduceLeDiff,Nat.reduceMul,Int.reduceToNat,Nat.reduceShiftRight,Nat.reduceAnd,Nat.reduceBneDiff,Nat.reduceBEq,qR hw hn,Tok.enc,hi,hlt,PBi,qax,qO hw hn,qaT hw hn,qg,qaX,qae,hi,k1,k2,nm,k3,p,d,k0,b0,b1,b2,b3,b4,b5,b6,b7,b8]
                | false=>
                 simp only [qew,sT.1,sC.1,qc,qb,Nat.testBit,reduceCtorEq,Nat.reduceAdd,Nat.reduceSub,Nat.reduceLT,Nat.reduceEqDiff,Nat.reduceLeDiff,Nat.reduceMul,Int.reduceToNat,Nat.reduceShiftRight,Nat.reduceAnd,Nat.reduceBneDiff,Nat.reduceBEq,qR hw hn,Tok.enc,hi,hlt,PBi,qax,qO hw hn,qaT hw hn,qg,qaX,qae,hi,k1,k2,nm,k3,p,d,k0,b0,b1,b2,b3,b4,b5,b6,b7,b8]
       | false=>
        simp only [qew,sT.1,sC.1,qc,qb,Nat.testBit,reduceCtorEq,Nat.reduceAdd,Nat.reduceSub,Nat.reduceLT,Nat.reduceEqDiff,Nat.reduceLeDiff,Nat.reduceMul,Int.reduceToNat,Nat.reduceShiftRight,Nat.reduceAnd,Nat.reduceBneDiff,Nat.reduceBEq,qR hw hn,Tok.enc,hi,hlt,PBi,qax,qO hw hn,qaT hw hn,qg,qaX,qae,hi,k1,k2,nm,k3,p,d,k0]
    | false=>
     cases k0:((word ws n).kind == 0) with
     | true=>
      cases b0:((word ws n).s == [105,102]) with
      | true=>
       simp only [qew,sT.1,sC.1,qc,qb,Nat.testBit,reduceCtorEq,Nat.reduceAdd,Nat.reduceSub,Nat.reduceLT,Nat.reduceEqDiff,Nat.reduceLeDiff,Nat.reduceMul,Int.reduceToNat,Nat.reduceShiftRight,Nat.reduceAnd,Nat.reduceBneDiff,Nat.reduceBEq,qR hw hn,Tok.enc,hi,hlt,PBi,qax,qO hw hn,qaT hw hn,qg,qaX,qae,hi,k1,k2,nm,k3,k0,b0]
      | false=>
       cases b1:((word ws n).s == [110,111,116]) with
       | true=>
        simp only [qew,sT.1,sC.1,qc,qb,Nat.testBit,reduceCtorEq,Nat.reduceAdd,Nat.reduceSub,Nat.reduceLT,Nat.reduceEqDiff,Nat.reduceLeDiff,Nat.reduceMul,Int.reduceToNat,Nat.reduceShiftRight,Nat.reduceAnd,Nat.reduceBneDiff,Nat.reduceBEq,qR hw hn,Tok.enc,hi,hlt,PBi,qax,qO hw hn,qaT hw hn,qg,qaX,qae,hi,k1,k2,nm,k3,k0,b0,b1]
       | false=>
        cases b2:((word ws n).s == [116,114,117,101]) with
        | true=>
         simp only [qew,sT.1,sC.1,qc,qb,Nat.testBit,reduceCtorEq,Nat.reduceAdd,Nat.reduceSub,Nat.reduceLT,Nat.reduceEqDiff,Nat.reduceLeDiff,Nat.reduceMul,Int.reduceToNat,Nat.reduceShiftRight,Nat.reduceAnd,Nat.reduceBneDiff,Nat.reduceBEq,qR hw hn,Tok.enc,hi,hlt,PBi,qax,qO hw hn,qaT hw hn,qg,qaX,qae,hi,k1,k2,nm,k3,k0,b0,b1,b2]
        | false=>
         cases b3:((word ws n).s == [102,97,108,115,101]) with
         | true=>
          simp only [qew,sT.1,sC.1,qc,qb,Nat.testBit,reduceCtorEq,Nat.reduceAdd,Nat.reduceSub,Nat.reduceLT,Nat.reduceEqDiff,Nat.reduceLeDiff,Nat.reduceMul,Int.reduceToNat,Nat.reduceShiftRight,Nat.reduceAnd,Nat.reduceBneDiff,Nat.reduceBEq,qR hw hn,Tok.enc,hi,hlt,PBi,qax,qO hw hn,qaT hw hn,qg,qaX,qae,hi,k1,k2,nm,k3,k0,b0,b1,b2,b3]
         | false=>
          cases b4:((word ws n).s == [101,108,97,112,115,101,100]) with
          | true=>
           simp only [qew,sT.1,sC.1,qc,qb,Nat.testBit,reduceCtorEq,Nat.reduceAdd,Nat.reduceSub,Nat.reduceLT,Nat.reduceEqDiff,Nat.reduceLeDiff,Nat.reduceMul,Int.reduceToNat,Nat.reduceShiftRight,Nat.reduceAnd,Nat.reduceBneDiff,Nat.reduceBEq,qR hw hn,Tok.enc,hi,hlt,PBi,qax,qO hw hn,qaT hw hn,qg,qaX,qae,hi,k1,k2,nm,k3,k0,b0,b1,b2,b3,b4]
          | false=>
           cases b5:((word ws n).s == [99,111,117,110,116]) with
           | true=>
            simp only [qew,sT.1,sC.1,qc,qb,Nat.testBit,reduceCtorEq,Nat.reduceAdd,Nat.reduceSub,Nat.reduceLT,Nat.reduceEqDiff,Nat.reduceLeDiff,Nat.reduceMul,Int.reduceToNat,Nat.reduceShiftRight,Nat.reduceAnd,Nat.reduceBneDiff,Nat.reduceBEq,qR hw hn,Tok.enc,hi,hlt,PBi,qax,qO hw hn,qaT hw hn,qg,qaX,qae,hi,k1,k2,nm,k3,k0,b0,b1,b2,b3,b4,b5]
           | false=>
            cases b6:((word ws n).s == [104,97,115]) with
            | true=>
             simp only [qew,sT.1,sC.1,qc,qb,Nat.testBit,reduceCtorEq,Nat.reduceAdd,Nat.reduceSub,Nat.reduceLT,Nat.reduceEqDiff,Nat.reduceLeDiff,Nat.reduceMul,Int.reduceToNat,Nat.reduceShiftRight,Nat.reduceAnd,Nat.reduceBneDiff,Nat.reduceBEq,qR hw hn,Tok.enc,hi,hlt,PBi,qax,qO hw hn,qaT hw hn,qg,qaX,qae,hi,k1,k2,nm,k3,k0,b0,b1,b2,b3,b4,b5,b6]
            | false=>
             cases b7:((word ws n).s == [115,117,109]) with
             | true=>
              simp only [qew,sT.1,sC.1,qc,qb,Nat.testBit,reduceCtorEq,Nat.reduceAdd,Nat.reduceSub,Nat.reduceLT,Nat.reduceEqDiff,Nat.reduceLeDiff,Nat.reduceMul,Int.reduceToNat,Nat.reduceShiftRight,Nat.reduceAnd,Nat.reduceBneDiff,Nat.reduceBEq,qR hw hn,Tok.enc,hi,hlt,PBi,qax,qO hw hn,qaT hw hn,qg,qaX,qae,hi,k1,k2,nm,k3,k0,b0,b1,b2,b3,b4,b5,b6,b7]
             | false=>
              cases b8:((word ws n).s == [108,101,97,115,116]) with
              | true=>
               simp only [qew,sT.1,sC.1,qc,qb,Nat.testBit,reduceCtorEq,Nat.reduceAdd,Nat.reduceSub,Nat.reduceLT,Nat.reduceEqDiff,Nat.reduceLeDiff,Nat.reduceMul,Int.reduceToNat,Nat.reduceShiftRight,Nat.reduceAnd,Nat.reduceBneDiff,Nat.reduceBEq,qR hw hn,Tok.enc,hi,hlt,PBi,qax,qO hw hn,qaT hw hn,qg,qaX,qae,hi,k1,k2,nm,k3,k0,b0,b1,b2,b3,b4,b5,b6,b7,b8]
              | false=>
               simp only [qew,sT.1,sC.1,qc,qb,Nat.testBit,reduceCtorEq,Nat.reduceAdd,Nat.reduceSub,Nat.reduceLT,Nat.reduceEqDiff,Nat.reduceLeDiff,Nat.reduceMul,Int.reduceToNat,Nat.reduceShiftRight,Nat.reduceAnd,Nat.reduceBneDiff,Nat.reduceBEq,qR hw hn,Tok.enc,hi,hlt,PBi,qax,qO hw hn,qaT hw hn,qg,qaX,qae,hi,k1,k2,nm,k3,k0,b0,b1,b2,b3,b4,b5,b6,b7,b8]
     | false=>
      simp only [qew,sT.1,sC.1,qc,qb,Nat.testBit,reduceCtorEq,Nat.reduceAdd,Nat.reduceSub,Nat.reduceLT,Nat.reduceEqDiff,Nat.reduceLeDiff,Nat.reduceMul,Int.reduceToNat,Nat.reduceShiftRight,Nat.reduceAnd,Nat.reduceBneDiff,Nat.reduceBEq,qR hw hn,Tok.enc,hi,hlt,PBi,qax,qO hw hn,qaT hw hn,qg,qaX,qae,hi,k1,k2,nm,k3,k0]
theorem qwz (hw:WF ws) (hn:n < ws.length) (hi:h[i]? = some (PB ws n)) (hk:(word ws n).kind = 4):Wd (.fn 44 [] []) [.ptr i 0] h = some (.ret (.tup []),h,false):=by
 have k4:((word ws n).kind == 4) = true:=by simpa using hk
 rw [qi rfl (show T.get 44 = some c44 by kernel_rfl)]
 simp only [c44,sT.1,sC.1,qc,qb,Nat.testBit,reduceCtorEq,Nat.reduceAdd,Nat.reduceSub,Nat.reduceLT,Nat.reduceEqDiff,Nat.reduceLeDiff,Nat.reduceMul,Int.reduceToNat,Nat.reduceShiftRight,Nat.reduceAnd,Nat.reduceBneDiff,Nat.reduceBEq,qR hw hn hi,Tok.enc,k4]
end
end Go.Proofs.YtkmlapholimbcaaGreatDoor.AE
