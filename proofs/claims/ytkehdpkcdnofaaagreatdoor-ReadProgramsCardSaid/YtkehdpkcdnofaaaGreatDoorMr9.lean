/- A part of the proof. No condition. -/
import Derived.Test.YtkehdpkcdnofaaaGreatDoorMr8
import Derived.Test.YtkehdpkcdnofaaaGreatDoorMr2
set_option maxRecDepth 100000
set_option maxHeartbeats 0
open List renaming length_map→jQ,map_append→jX,mem_append→jH,mem_singleton→jY,length_cons→jy,length_nil→jz
namespace Go.Proofs.YtkehdpkcdnofaaaGreatDoor.AE
open Go.AE
section
variable {ws:List Tok} {n:Nat}
theorem qCW (hw:WF ws) (hn:n < ws.length) (h1:qM ws n = true) (h2:isW ws (n + 1) [46] = true) (h3:qM ws (n + 1 + 1) = true):qaA 157 ws n (.ok (.mk 5 0 (word ws n).s (word ws (n + 1 + 1)).s []) (n + 1 + 1 + 1)):=
 ⟨zo,qF hw (qi hw (qF hw hn h1) h2) h3,by simp [Exp.depth,qaD],λh i hi=>qno hw hn hi h1 h2 h3⟩
theorem qiP (hw:WF ws) (hn:n < ws.length) (h1:qM ws n = true) (h2:isW ws (n + 1) [46] = true->qM ws (n + 1 + 1) = false):qaA 157 ws n (.ok (.mk 4 0 (word ws n).s [] []) (n + 1)):=
 ⟨zo,qF hw hn h1,by simp [Exp.depth,qaD],λh i hi=>qi5 hw hn hi h1 h2⟩
theorem qzs (hw:WF ws) (hn:n < ws.length) (hk:(word ws n).kind = 1):qaA 152 ws n (.ok (.mk 0 (word ws n).n [] [] []) (n + 1)):=by
 refine ⟨zo,hw.next hn zo,by simp [Exp.depth,qaD],λh i hi=>?_⟩
 have w:=qo (n:=n) (by have:=hw.len;omega)
 have k1:((word ws n).kind == 1) = true:=by simpa using hk
 have E:=qc hi
 rw [PBi] at hi
 rw [qu 152 qkO]
 simp only [sB.1,qkO,seval,hi,E,PBi,qr,qdg,Nd.dimE,Nd.cellsE,Nd.cutE,Nd.dims,Nd.len,Nd.stor,Nd.lower,Nd.drainE,qag hw hn,Tok.enc,k1,w]
theorem qzu (hw:WF ws) (hn:n < ws.length) (hk:(word ws n).kind = 2):qaA 152 ws n (.ok (.mk 3 0 (word ws n).s [] []) (n + 1)):=by
 refine ⟨zo,hw.next hn zo,by simp [Exp.depth,qaD],λh i hi=>?_⟩
 have w:=qo (n:=n) (by have:=hw.len;omega)
 have k1:((word ws n).kind == 1) = false:=by rw [hk];rfl
 have k2:((word ws n).kind == 2) = true:=by simpa using hk
 have E:=qc hi
 rw [PBi] at hi
 rw [qu 152 qkO]
 simp only [sB.1,qkO,seval,hi,E,PBi,qr,qdg,Nd.dimE,Nd.cellsE,Nd.cutE,Nd.dims,Nd.len,Nd.stor,Nd.lower,Nd.drainE,qag hw hn,Tok.enc,k1,k2,w]
theorem qko (hw:WF ws) (hn:n < ws.length) (hs:qM ws n = true) {o:Out} (h1:qaA 157 ws n o):qaA 152 ws n o:=by
 have k0:(word ws n).kind = 0:=by simp [qM] at hs;exact hs.1
 have k1:((word ws n).kind == 1) = false:=by rw [k0];rfl
 have k2:((word ws n).kind == 2) = false:=by rw [k0];rfl
 cases o with
 | ok e n1=>
  obtain ⟨g1,g2,g3,g4⟩:=h1
  refine ⟨g1,g2,g3,λh i hi=>?_⟩
  have E:=qc hi
  rw [PBi] at hi
  rw [qu 152 qkO]
  simp only [sB.1,qkO,seval,hi,E,PBi,qr,qdg,Nd.dimE,Nd.cellsE,Nd.cutE,Nd.dims,Nd.len,Nd.stor,Nd.lower,Nd.drainE,qag hw hn,Tok.enc,k1,k2,qaf hw hn,hs,g4]
 | no p err m=>
  obtain ⟨g1,g2⟩:=h1
  refine ⟨g1,λh i hi=>?_⟩
  have E:=qc hi
  rw [PBi] at hi
  rw [qu 152 qkO]
  simp only [sB.1,qkO,seval,hi,E,PBi,qr,qdg,Nd.dimE,Nd.cellsE,Nd.dims,Nd.len,Nd.stor,Nd.drainE,qe,qag hw hn,Tok.enc,k1,k2,qaf hw hn,hs,g2]
theorem qlE (hw:WF ws) (hn:n < ws.length) (k1:(word ws n).kind ≠ 1) (k2:(word ws n).kind ≠ 2) (hs:qM ws n = false) (hb:isW ws n [40] = true) {o:Out} (h1:qaA 158 ws n o):qaA 152 ws n o:=by
 have U:((word ws n).kind == 1) = false:=by simpa using k1
 have I:((word ws n).kind == 2) = false:=by simpa using k2
 cases o with
 | ok e n1=>
  obtain ⟨g1,g2,g3,g4⟩:=h1
  refine ⟨g1,g2,g3,λh i hi=>?_⟩
  have E:=qc hi
  rw [PBi] at hi
  rw [qu 152 qkO]
  simp only [sB.1,qkO,seval,hi,E,PBi,qr,qdg,Nd.dimE,Nd.cellsE,Nd.cutE,Nd.dims,Nd.len,Nd.stor,Nd.lower,Nd.drainE,qag hw hn,Tok.enc,U,I,qaf hw hn,hs,qcJ hw hn,hb,g4]
 | no p err m=>
  obtain ⟨g1,g2⟩:=h1
  refine ⟨g1,λh i hi=>?_⟩
  have E:=qc hi
  rw [PBi] at hi
  rw [qu 152 qkO]
  simp only [sB.1,qkO,seval,hi,E,PBi,qr,qdg,Nd.dimE,Nd.cellsE,Nd.dims,Nd.len,Nd.stor,Nd.drainE,qe,qag hw hn,Tok.enc,U,I,qaf hw hn,hs,qcJ hw hn,hb,g2]
theorem qaH (hw:WF ws) (hn:n < ws.length) (k1:(word ws n).kind ≠ 1) (k2:(word ws n).kind ≠ 2) (hs:qM ws n = false) (hb:isW ws n [40] = false) {o:Out} (h1:qaA 159 ws n o):qaA 152 ws n o:=by
 have U:((word ws n).kind == 1) = false:=by simpa using k1
 have I:((word ws n).kind == 2) = false:=by simpa using k2
 cases o with
 | ok e n1=>
  obtain ⟨g1,g2,g3,g4⟩:=h1
  refine ⟨g1,g2,g3,λh i hi=>?_⟩
  have E:=qc hi
  rw [PBi] at hi
  rw [qu 152 qkO]
  simp only [sB.1,qkO,seval,hi,E,PBi,qr,qdg,Nd.dimE,Nd.cellsE,Nd.cutE,Nd.dims,Nd.len,Nd.stor,Nd.lower,Nd.drainE,qag hw hn,Tok.enc,U,I,qaf hw hn,hs,qcJ hw hn,hb,g4]
 | no p err m=>
  obtain ⟨g1,g2⟩:=h1
  refine ⟨g1,λh i hi=>?_⟩
  have E:=qc hi
  rw [PBi] at hi
  rw [qu 152 qkO]
  simp only [sB.1,qkO,seval,hi,E,PBi,qr,qdg,Nd.dimE,Nd.cellsE,Nd.dims,Nd.len,Nd.stor,Nd.drainE,qe,qag hw hn,Tok.enc,U,I,qaf hw hn,hs,qcJ hw hn,hb,g2]
theorem qrO (hw:WF ws) (hn:n < ws.length) (hs:isW ws n [105,102] = false) {o:Out} (h1:qaA 64 ws n o):qaA 43 ws n o:=by
 cases o with
 | ok e n1=>
  obtain ⟨g1,g2,g3,g4⟩:=h1
  refine ⟨g1,g2,g3,λh i hi=>?_⟩
  have E:=qc hi
  rw [PBi] at hi
  rw [qu 43 c43]
  simp only [sB.1,c43,seval,qa4 hw hn,hi,E,PBi,Nd.dimE,Nd.cellsE,Nd.cutE,Nd.dims,Nd.len,Nd.stor,Nd.lower,Nd.drainE,qy hw hn,hs,g4]
 | no p err m=>
  obtain ⟨g1,g2⟩:=h1
  refine ⟨g1,λh i hi=>?_⟩
  have E:=qc hi
  rw [PBi] at hi
  rw [qu 43 c43]
  simp only [sB.1,c43,seval,qa4 hw hn,hi,E,PBi,qe,qy hw hn,hs,g2]
theorem qBY (hw:WF ws) (hn:n < ws.length) (hs:isW ws n [108,101,97,115,116] = true) (h1:isW ws (n + 1) [40] = false):qaA 159 ws n (.no (word ws (n + 1)).pos 6 (n + 1)):=by
 have n1:=qi hw hn hs
 have q0:isW ws n [116,114,117,101] = false:=qm hs (by decide)
 have q1:isW ws n [102,97,108,115,101] = false:=qm hs (by decide)
 have q2:isW ws n [101,108,97,112,115,101,100] = false:=qm hs (by decide)
 have q3:isW ws n [99,111,117,110,116] = false:=qm hs (by decide)
 have q4:isW ws n [104,97,115] = false:=qm hs (by decide)
 have q5:isW ws n [115,117,109] = false:=qm hs (by decide)
 refine ⟨n1,λh i hi=>?_⟩
 have E:=qc hi
 rw [PBi] at hi
 rw [qu 159 qdu]
 simp only [sB.1,qdu,seval,qa4 hw hn,hi,E,PBi,qr,qdg,Nd.dimE,Nd.cellsE,Nd.dims,Nd.len,Nd.stor,Nd.drainE,qe,qt hw hn,qy hw hn,hs,q0,q1,q2,q3,q4,q5,qb3 hw n1,h1]
theorem qBZ (hw:WF ws) (hn:n < ws.length) (hs:isW ws n [108,101,97,115,116] = true) (h1:isW ws (n + 1) [40] = true) (h2:qM ws (n + 1 + 1) = false):qaA 159 ws n (.no (word ws (n + 1 + 1)).pos 6 (n + 1 + 1)):=by
 have n1:=qi hw hn hs
 have n2:=qi hw n1 h1
 have q0:isW ws n [116,114,117,101] = false:=qm hs (by decide)
 have q1:isW ws n [102,97,108,115,101] = false:=qm hs (by decide)
 have q2:isW ws n [101,108,97,112,115,101,100] = false:=qm hs (by decide)
 have q3:isW ws n [99,111,117,110,116] = false:=qm hs (by decide)
 have q4:isW ws n [104,97,115] = false:=qm hs (by decide)
 have q5:isW ws n [115,117,109] = false:=qm hs (by decide)
 refine ⟨n2,λh i hi=>?_⟩
 have E:=qc hi
 rw [PBi] at hi
 rw [qu 159 qdu]
 simp only [sB.1,qdu,seval,qa4 hw hn,hi,E,PBi,qr,qdg,Nd.dimE,Nd.cellsE,Nd.dims,Nd.len,Nd.stor,Nd.drainE,qe,qt hw hn,qy hw hn,hs,q0,q1,q2,q3,q4,q5,qH hw n1,h1,qmX hw n2,h2]
theorem qB0 (hw:WF ws) (hn:n < ws.length) (hs:isW ws n [108,101,97,115,116] = true) (h1:isW ws (n + 1) [40] = true) (h2:qM ws (n + 1 + 1) = true) (h3:isW ws (n + 1 + 1 + 1) [44] = false):qaA 159 ws n (.no (word ws (n + 1 + 1 + 1)).pos 6 (n + 1 + 1 + 1)):=by
 have n1:=qi hw hn hs
 have n2:=qi hw n1 h1
 have n3:=qF hw n2 h2
 have q0:isW ws n [116,114,117,101] = false:=qm hs (by decide)
 have q1:isW ws n [102,97,108,115,101] = false:=qm hs (by decide)
 have q2:isW ws n [101,108,97,112,115,101,100] = false:=qm hs (by decide)
 have q3:isW ws n [99,111,117,110,116] = false:=qm hs (by decide)
 have q4:isW ws n [104,97,115] = false:=qm hs (by decide)
 have q5:isW ws n [115,117,109] = false:=qm hs (by decide)
 refine ⟨n3,λh i hi=>?_⟩
 have E:=qc hi
 rw [PBi] at hi
 rw [qu 159 qdu]
 simp only [sB.1,qdu,seval,qa4 hw hn,hi,E,PBi,qr,qdg,Nd.dimE,Nd.cellsE,Nd.dims,Nd.len,Nd.stor,Nd.drainE,qe,qt hw hn,qy hw hn,hs,q0,q1,q2,q3,q4,q5,qH hw n1,h1,qcq hw n2,h2,qb3 hw n3,h3]
theorem qB1 (hw:WF ws) (hn:n < ws.length) (hs:isW ws n [108,101,97,115,116] = true) (h1:isW ws (n + 1) [40] = true) (h2:qM ws (n + 1 + 1) = true) (h3:isW ws (n + 1 + 1 + 1) [44] = true) {p err:Int} {m:Nat} (h4:qaA 43 ws (n + 1 + 1 + 1 + 1) (.no p err m)):qaA 159 ws n (.no p err m):=by
 have n1:=qi hw hn hs
 have n2:=qi hw n1 h1
 have n3:=qF hw n2 h2
 have n4:=qi hw n3 h3
 have q0:isW ws n [116,114,117,101] = false:=qm hs (by decide)
 have q1:isW ws n [102,97,108,115,101] = false:=qm hs (by decide)
 have q2:isW ws n [101,108,97,112,115,101,100] = false:=qm hs (by decide)
 have q3:isW ws n [99,111,117,110,116] = false:=qm hs (by decide)
 have q4:isW ws n [104,97,115] = false:=qm hs (by decide)
 have q5:isW ws n [115,117,109] = false:=qm hs (by decide)
 obtain ⟨x1,x2⟩:=h4
 refine ⟨x1,λh i hi=>?_⟩
 have E:=qc hi
 rw [PBi] at hi
 rw [qu 159 qdu]
 simp only [sB.1,qdu,seval,qa4 hw hn,hi,E,PBi,qr,qdg,Nd.dimE,Nd.cellsE,Nd.dims,Nd.len,Nd.stor,Nd.drainE,qe,qt hw hn,qy hw hn,hs,q0,q1,q2,q3,q4,q5,qH hw n1,h1,qcq hw n2,h2,qH hw n3,h3,x2]
theorem qB2 (hw:WF ws) (hn:n < ws.length) (hs:isW ws n [108,101,97,115,116] = true) (h1:isW ws (n + 1) [40] = true) (h2:qM ws (n + 1 + 1) = true) (h3:isW ws (n + 1 + 1 + 1) [44] = true) {x:Exp} {m:Nat} (h4:qaA 43 ws (n + 1 + 1 + 1 + 1) (.ok x m)) (h5:isW ws m [41] = false):qaA 159 ws n (.no (word ws m).pos 6 m):=by
 have n1:=qi hw hn hs
 have n2:=qi hw n1 h1
 have n3:=qF hw n2 h2
 have n4:=qi hw n3 h3
 have q0:isW ws n [116,114,117,101] = false:=qm hs (by decide)
 have q1:isW ws n [102,97,108,115,101] = false:=qm hs (by decide)
 have q2:isW ws n [101,108,97,112,115,101,100] = false:=qm hs (by decide)
 have q3:isW ws n [99,111,117,110,116] = false:=qm hs (by decide)
 have q4:isW ws n [104,97,115] = false:=qm hs (by decide)
 have q5:isW ws n [115,117,109] = false:=qm hs (by decide)
 obtain ⟨x1,x2,x3,x4⟩:=h4
 refine ⟨x2,λh i hi=>?_⟩
 have I:=blA h 1
 have E:=qc hi
 rw [PBi] at hi
 rw [qu 159 qdu]
 simp only [sB.1,qdu,seval,qa4 hw hn,hi,E,PBi,qr,qdg,Nd.dimE,Nd.cellsE,Nd.dims,Nd.len,Nd.stor,Nd.drainE,qe,qt hw hn,qy hw hn,hs,q0,q1,q2,q3,q4,q5,qH hw n1,h1,qcq hw n2,h2,qH hw n3,h3,x4,qb3 hw x2,h5,I]
theorem qB3 (hw:WF ws) (hn:n < ws.length) (hs:isW ws n [108,101,97,115,116] = true) (h1:isW ws (n + 1) [40] = true) (h2:qM ws (n + 1 + 1) = true) (h3:isW ws (n + 1 + 1 + 1) [44] = true) {x:Exp} {m:Nat} (h4:qaA 43 ws (n + 1 + 1 + 1 + 1) (.ok x m)) (h5:isW ws m [41] = true) (hd:¬ (Exp.mk 10 0 (word ws (n + 1 + 1)).s [] [x]).depth <= 20):qaA 159 ws n (.no (word ws n).pos 7 (m + 1)):=by
 have n1:=qi hw hn hs
 have n2:=qi hw n1 h1
 have n3:=qF hw n2 h2
 have n4:=qi hw n3 h3
 have q0:isW ws n [116,114,117,101] = false:=qm hs (by decide)
 have q1:isW ws n [102,97,108,115,101] = false:=qm hs (by decide)
 have q2:isW ws n [101,108,97,112,115,101,100] = false:=qm hs (by decide)
 have q3:isW ws n [99,111,117,110,116] = false:=qm hs (by decide)
 have q4:isW ws n [104,97,115] = false:=qm hs (by decide)
 have q5:isW ws n [115,117,109] = false:=qm hs (by decide)
 obtain ⟨x1,x2,x3,x4⟩:=h4
 refine ⟨qi hw x2 h5,λh i hi=>?_⟩
 have I:=blA h 1
 have E:=qc hi
 rw [PBi] at hi
 rw [qu 159 qdu]
 simp only [sB.1,qdu,seval,qa4 hw hn,hi,E,PBi,qr,qdg,Nd.dimE,Nd.cellsE,Nd.cutE,Nd.dims,Nd.len,Nd.stor,Nd.drainE,qcK,qe,qt hw hn,qy hw hn,hs,q0,q1,q2,q3,q4,q5,qH hw n1,h1,qcq hw n2,h2,qH hw n3,h3,x4,x3,qH hw x2,h5,qi2,hd,I]
theorem qB4 (hw:WF ws) (hn:n < ws.length) (hs:isW ws n [108,101,97,115,116] = true) (h1:isW ws (n + 1) [40] = true) (h2:qM ws (n + 1 + 1) = true) (h3:isW ws (n + 1 + 1 + 1) [44] = true) {x:Exp} {m:Nat} (h4:qaA 43 ws (n + 1 + 1 + 1 + 1) (.ok x m)) (h5:isW ws m [41] = true) (hd:(Exp.mk 10 0 (word ws (n + 1 + 1)).s [] [x]).depth <= 20):qaA 159 ws n (.ok (.mk 10 0 (word ws (n + 1 + 1)).s [] [x]) (m + 1)):=by
 have n1:=qi hw hn hs
 have n2:=qi hw n1 h1
 have n3:=qF hw n2 h2
 have n4:=qi hw n3 h3
 have q0:isW ws n [116,114,117,101] = false:=qm hs (by decide)
 have q1:isW ws n [102,97,108,115,101] = false:=qm hs (by decide)
 have q2:isW ws n [101,108,97,112,115,101,100] = false:=qm hs (by decide)
 have q3:isW ws n [99,111,117,110,116] = false:=qm hs (by decide)
 have q4:isW ws n [104,97,115] = false:=qm hs (by decide)
 have q5:isW ws n [115,117,109] = false:=qm hs (by decide)
 obtain ⟨x1,x2,x3,x4⟩:=h4
 refine ⟨zo,qi hw x2 h5,hd,λh i hi=>?_⟩
 have I:=blA h 1
 have E:=qc hi
 rw [PBi] at hi
 rw [qu 159 qdu]
 simp only [sB.1,qdu,seval,qa4 hw hn,hi,E,PBi,qr,qdg,Nd.dimE,Nd.cellsE,Nd.cutE,Nd.dims,Nd.len,Nd.stor,Nd.lower,Nd.drainE,qcK,qt hw hn,qy hw hn,hs,q0,q1,q2,q3,q4,q5,qH hw n1,h1,qcq hw n2,h2,qH hw n3,h3,x4,x3,qH hw x2,h5,qi2,hd,I]
theorem if1 (hw:WF ws) (hn:n < ws.length) (hs:isW ws n [105,102] = true) {p err:Int} {m:Nat} (hx:qaA 43 ws (n + 1) (.no p err m)):qaA 43 ws n (.no p err m):=by
 obtain ⟨x1,x2⟩:=hx
 refine ⟨x1,λh i hi=>?_⟩
 have E:=qc hi
 rw [PBi] at hi
 rw [qu 43 c43]
 simp only [sB.1,c43,seval,qa4 hw hn,hi,E,PBi,qe,qt hw hn,hs,x2]
theorem if2 (hw:WF ws) (hn:n < ws.length) (hs:isW ws n [105,102] = true) {a:Exp} {n1:Nat} (ha:qaA 43 ws (n + 1) (.ok a n1)) (ht:isW ws n1 [116,104,101,110] = false):qaA 43 ws n (.no (word ws n1).pos 6 n1):=by
 obtain ⟨a1,a2,a3,a4⟩:=ha
 refine ⟨a2,λh i hi=>?_⟩
 have I:=blA h 1
 have E:=qc hi
 rw [PBi] at hi
 rw [qu 43 c43]
 simp only [sB.1,c43,seval,qa4 hw hn,hi,E,PBi,Nd.dimE,Nd.cellsE,Nd.dims,Nd.len,Nd.stor,Nd.drainE,qe,qt hw hn,hs,I,a4,qb3 hw a2,ht]
theorem if3 (hw:WF ws) (hn:n < ws.length) (hs:isW ws n [105,102] = true) {a:Exp} {n1:Nat} (ha:qaA 43 ws (n + 1) (.ok a n1)) (ht:isW ws n1 [116,104,101,110] = true) {p err:Int} {m:Nat} (hx:qaA 43 ws (n1 + 1) (.no p err m)):qaA 43 ws n (.no p err m):=by
 obtain ⟨a1,a2,a3,a4⟩:=ha
 obtain ⟨x1,x2⟩:=hx
 refine ⟨x1,λh i hi=>?_⟩
 have I:=blA h 1
 have E:=qc hi
 rw [PBi] at hi
 rw [qu 43 c43]
 simp only [sB.1,c43,seval,qa4 hw hn,hi,E,PBi,Nd.dimE,Nd.cellsE,Nd.dims,Nd.len,Nd.stor,Nd.drainE,qe,qt hw hn,hs,I,a4,qH hw a2,ht,x2]
theorem if4 (hw:WF ws) (hn:n < ws.length) (hs:isW ws n [105,102] = true) {a:Exp} {n1:Nat} (ha:qaA 43 ws (n + 1) (.ok a n1)) (ht:isW ws n1 [116,104,101,110] = true) {b:Exp} {n2:Nat} (hb:qaA 43 ws (n1 + 1) (.ok b n2)) (hl:isW ws n2 [101,108,115,101] = false):qaA 43 ws n (.no (word ws n2).pos 6 n2):=by
 obtain ⟨a1,a2,a3,a4⟩:=ha
 obtain ⟨b1,b2,b3,b4⟩:=hb
 refine ⟨b2,λh i hi=>?_⟩
 have U:=blA h 1
 have I:=blA h 2
 have E:=qc hi
 rw [PBi] at hi
 rw [qu 43 c43]
 simp only [sB.1,c43,seval,qa4 hw hn,hi,E,PBi,Nd.dimE,Nd.cellsE,Nd.dims,Nd.len,Nd.stor,Nd.drainE,qe,qt hw hn,hs,U,I,a4,qH hw a2,ht,b4,qb3 hw b2,hl]
theorem if5 (hw:WF ws) (hn:n < ws.length) (hs:isW ws n [105,102] = true) {a:Exp} {n1:Nat} (ha:qaA 43 ws (n + 1) (.ok a n1)) (ht:isW ws n1 [116,104,101,110] = true) {b:Exp} {n2:Nat} (hb:qaA 43 ws (n1 + 1) (.ok b n2)) (hl:isW ws n2 [101,108,115,101] = true) {p err:Int} {m:Nat} (hx:qaA 43 ws (n2 + 1) (.no p err m)):qaA 43 ws n (.no p err m):=by
 obtain ⟨a1,a2,a3,a4⟩:=ha
 obtain ⟨b1,b2,b3,b4⟩:=hb
 obtain ⟨x1,x2⟩:=hx
 refine ⟨x1,λh i hi=>?_⟩
 have U:=blA h 1
 have I:=blA h 2
 have E:=qc hi
 rw [PBi] at hi
 rw [qu 43 c43]
 simp only [sB.1,c43,seval,qa4 hw hn,hi,E,PBi,Nd.dimE,Nd.cellsE,Nd.dims,Nd.len,Nd.stor,Nd.drainE,qe,qt hw hn,hs,U,I,a4,qH hw a2,ht,b4,qH hw b2,hl,x2]
theorem if6 (hw:WF ws) (hn:n < ws.length) (hs:isW ws n [105,102] = true) {a:Exp} {n1:Nat} (ha:qaA 43 ws (n + 1) (.ok a n1)) (ht:isW ws n1 [116,104,101,110] = true) {b:Exp} {n2:Nat} (hb:qaA 43 ws (n1 + 1) (.ok b n2)) (hl:isW ws n2 [101,108,115,101] = true) {c:Exp} {n3:Nat} (hc:qaA 43 ws (n2 + 1) (.ok c n3)) (hd:¬ (Exp.mk 25 0 [] [] [a,b,c]).depth <= 20):qaA 43 ws n (.no (word ws n).pos 7 n3):=by
 obtain ⟨a1,a2,a3,a4⟩:=ha
 obtain ⟨b1,b2,b3,b4⟩:=hb
 obtain ⟨c1,c2,c3,c4⟩:=hc
 refine ⟨c2,λh i hi=>?_⟩
 have Y:=blA h 1
 have U:=blA h 2
 have I:=blA h 3
 have E:=qc hi
 rw [PBi] at hi
 rw [qu 43 c43]
 simp only [sB.1,c43,seval,qa4 hw hn,hi,E,PBi,qr,Nd.dimE,Nd.cellsE,Nd.cutE,Nd.dims,Nd.len,Nd.stor,Nd.drainE,qxI,qe,qt hw hn,hs,Y,U,I,a4,qH hw a2,ht,b4,qH hw b2,hl,c4,a3,b3,c3,qB6,hd]
theorem if7 (hw:WF ws) (hn:n < ws.length) (hs:isW ws n [105,102] = true) {a:Exp} {n1:Nat} (ha:qaA 43 ws (n + 1) (.ok a n1)) (ht:isW ws n1 [116,104,101,110] = true) {b:Exp} {n2:Nat} (hb:qaA 43 ws (n1 + 1) (.ok b n2)) (hl:isW ws n2 [101,108,115,101] = true) {c:Exp} {n3:Nat} (hc:qaA 43 ws (n2 + 1) (.ok c n3)) (hd:(Exp.mk 25 0 [] [] [a,b,c]).depth <= 20):qaA 43 ws n (.ok (.mk 25 0 [] [] [a,b,c]) n3):=by
 obtain ⟨a1,a2,a3,a4⟩:=ha
 obtain ⟨b1,b2,b3,b4⟩:=hb
 obtain ⟨c1,c2,c3,c4⟩:=hc
 refine ⟨zo,c2,hd,λh i hi=>?_⟩
 have Y:=blA h 1
 have U:=blA h 2
 have I:=blA h 3
 have E:=qc hi
 rw [PBi] at hi
 rw [qu 43 c43]
 simp only [sB.1,c43,seval,qa4 hw hn,hi,E,PBi,qr,Nd.dimE,Nd.cellsE,Nd.cutE,Nd.dims,Nd.len,Nd.stor,Nd.lower,Nd.drainE,qxI,qt hw hn,hs,Y,U,I,a4,qH hw a2,ht,b4,qH hw b2,hl,c4,a3,b3,c3,qB6,hd]
end
end Go.Proofs.YtkehdpkcdnofaaaGreatDoor.AE
set_option maxHeartbeats 800000
namespace Go.Proofs.YtkehdpkcdnofaaaGreatDoor.AE
open Go.AE
section
variable {ws:List Tok} {n:Nat} {h:List qk} {i:Nat}
def qan (s:Str):Bool:=s == [105,102] || s == [110,111,116] || s == [116,114,117,101] || s == [102,97,108,115,101] || s == [101,108,97,112,115,101,100] || s == [99,111,117,110,116] || s == [104,97,115] || s == [115,117,109] || s == [108,101,97,115,116]
def qa6 (ws:List Tok) (n:Nat):Bool:=(word ws n).kind == 1 || ((word ws n).kind == 2 || (qM ws n || (((word ws n).kind == 3 && ((word ws n).s == [40] || (word ws n).s == [45])) || ((word ws n).kind == 0 && qan (word ws n).s))))
theorem qlx (hw:WF ws) (hn:n < ws.length) (hi:h[i]? = some (PB ws n)):Wd (.fn 165 [] []) [.ptr i 0] h = some (.pan (qbK (word ws n).pos (bif qa6 ws n then 8 else 6)),h,false):=by
 have E:=qc hi
 rw [PBi] at hi
 rw [qu 165 qgf]
 cases k1:((word ws n).kind == 1) with
 | true=>
  simp only [sB.1,qgf,reduceCtorEq,Nat.reduceAdd,Nat.reduceSub,Nat.reduceLT,Nat.reduceEqDiff,qag hw hn,Tok.enc,PBi,qaJ,qe,qa6,qan,hi,k1]
 | false=>
  cases k2:((word ws n).kind == 2) with
  | true=>
   simp only [sB.1,qgf,reduceCtorEq,Nat.reduceAdd,Nat.reduceSub,Nat.reduceLT,Nat.reduceEqDiff,qag hw hn,Tok.enc,PBi,qaJ,qe,qa6,qan,hi,k1,k2]
  | false=>
   cases nm:qM ws n with
   | true=>
    simp only [sB.1,qgf,reduceCtorEq,Nat.reduceAdd,Nat.reduceSub,Nat.reduceLT,Nat.reduceEqDiff,qag hw hn,Tok.enc,E,PBi,qaJ,qaf hw hn,qe,qa6,qan,hi,k1,k2,nm]
   | false=>
    cases k3:((word ws n).kind == 3) with
    | true=>
     cases p:((word ws n).s == [40]) with
     | true=>
      simp only [sB.1,qgf,reduceCtorEq,Nat.reduceAdd,Nat.reduceSub,Nat.reduceLT,Nat.reduceEqDiff,qag hw hn,Tok.enc,E,PBi,qaJ,qaf hw hn,qe,qa6,qan,hi,k1,k2,nm,k3,p]
     | false=>
      cases d:((word ws n).s == [45]) with
      | true=>
       simp only [sB.1,qgf,reduceCtorEq,Nat.reduceAdd,Nat.reduceSub,Nat.reduceLT,Nat.reduceEqDiff,qag hw hn,Tok.enc,E,PBi,qaJ,qaf hw hn,qe,qa6,qan,hi,k1,k2,nm,k3,p,d]
      | false=>
       cases k0:((word ws n).kind == 0) with
       | true=>
        cases b0:((word ws n).s == [105,102]) with
        | true=>
         simp only [sB.1,qgf,reduceCtorEq,Nat.reduceAdd,Nat.reduceSub,Nat.reduceLT,Nat.reduceEqDiff,qag hw hn,Tok.enc,E,PBi,qaJ,qaf hw hn,qe,qa6,qan,hi,k1,k2,nm,k3,p,d,k0,b0]
        | false=>
         cases b1:((word ws n).s == [110,111,116]) with
         | true=>
          simp only [sB.1,qgf,reduceCtorEq,Nat.reduceAdd,Nat.reduceSub,Nat.reduceLT,Nat.reduceEqDiff,qag hw hn,Tok.enc,E,PBi,qaJ,qaf hw hn,qe,qa6,qan,hi,k1,k2,nm,k3,p,d,k0,b0,b1]
         | false=>
          cases b2:((word ws n).s == [116,114,117,101]) with
          | true=>
           simp only [sB.1,qgf,reduceCtorEq,Nat.reduceAdd,Nat.reduceSub,Nat.reduceLT,Nat.reduceEqDiff,qag hw hn,Tok.enc,E,PBi,qaJ,qaf hw hn,qe,qa6,qan,hi,k1,k2,nm,k3,p,d,k0,b0,b1,b2]
          | false=>
           cases b3:((word ws n).s == [102,97,108,115,101]) with
           | true=>
            simp only [sB.1,qgf,reduceCtorEq,Nat.reduceAdd,Nat.reduceSub,Nat.reduceLT,Nat.reduceEqDiff,qag hw hn,Tok.enc,E,PBi,qaJ,qaf hw hn,qe,qa6,qan,hi,k1,k2,nm,k3,p,d,k0,b0,b1,b2,b3]
           | false=>
            cases b4:((word ws n).s == [101,108,97,112,115,101,100]) with
            | true=>
             simp only [sB.1,qgf,reduceCtorEq,Nat.reduceAdd,Nat.reduceSub,Nat.reduceLT,Nat.reduceEqDiff,qag hw hn,Tok.enc,E,PBi,qaJ,qaf hw hn,qe,qa6,qan,hi,k1,k2,nm,k3,p,d,k0,b0,b1,b2,b3,b4]
            | false=>
             cases b5:((word ws n).s == [99,111,117,110,116]) with
             | true=>
              simp only [sB.1,qgf,reduceCtorEq,Nat.reduceAdd,Nat.reduceSub,Nat.reduceLT,Nat.reduceEqDiff,qag hw hn,Tok.enc,E,PBi,qaJ,qaf hw hn,qe,qa6,qan,hi,k1,k2,nm,k3,p,d,k0,b0,b1,b2,b3,b4,b5]
             | false=>
              cases b6:((word ws n).s == [104,97,115]) with
              | true=>
               simp only [sB.1,qgf,reduceCtorEq,Nat.reduceAdd,Nat.reduceSub,Nat.reduceLT,Nat.reduceEqDiff,qag hw hn,Tok.enc,E,PBi,qaJ,qaf hw hn,qe,qa6,qan,hi,k1,k2,nm,k3,p,d,k0,b0,b1,b2,b3,b4,b5,b6]
              | false=>
               cases b7:((word ws n).s == [115,117,109]) with
               | true=>
                simp only [sB.1,qgf,reduceCtorEq,Nat.reduceAdd,Nat.reduceSub,Nat.reduceLT,Nat.reduceEqDiff,qag hw hn,Tok.enc,E,PBi,qaJ,qaf hw hn,qe,qa6,qan,hi,k1,k2,nm,k3,p,d,k0,b0,b1,b2,b3,b4,b5,b6,b7]
               | false=>
                cases b8:((word ws n).s == [108,101,97,115,116]) with
                | true=>
                 simp only [sB.1,qgf,reduceCtorEq,Nat.reduceAdd,Nat.reduceSub,Nat.reduceLT,Nat.reduceEqDiff,qag hw hn,Tok.enc,E,PBi,qaJ,qaf hw hn,qe,qa6,qan,hi,k1,k2,nm,k3,p,d,k0,b0,b1,b2,b3,b4,b5,b6,b7,b8]
                | false=>
                 simp only [sB.1,qgf,reduceCtorEq,Nat.reduceAdd,Nat.reduceSub,Nat.reduceLT,Nat.reduceEqDiff,qag hw hn,Tok.enc,E,PBi,qaJ,qaf hw hn,qeb hw hn,qe,qa6,qan,hi,k1,k2,nm,k3,p,d,k0,b0,b1,b2,b3,b4,b5,b6,b7,b8]
       | false=>
        simp only [sB.1,qgf,reduceCtorEq,Nat.reduceAdd,Nat.reduceSub,Nat.reduceLT,Nat.reduceEqDiff,qag hw hn,Tok.enc,E,PBi,qaJ,qaf hw hn,qeb hw hn,qe,qa6,qan,hi,k1,k2,nm,k3,p,d,k0]
    | false=>
     cases k0:((word ws n).kind == 0) with
     | true=>
      cases b0:((word ws n).s == [105,102]) with
      | true=>
       simp only [sB.1,qgf,reduceCtorEq,Nat.reduceAdd,Nat.reduceSub,Nat.reduceLT,Nat.reduceEqDiff,qag hw hn,Tok.enc,E,PBi,qaJ,qaf hw hn,qe,qa6,qan,hi,k1,k2,nm,k3,k0,b0]
      | false=>
       cases b1:((word ws n).s == [110,111,116]) with
       | true=>
        simp only [sB.1,qgf,reduceCtorEq,Nat.reduceAdd,Nat.reduceSub,Nat.reduceLT,Nat.reduceEqDiff,qag hw hn,Tok.enc,E,PBi,qaJ,qaf hw hn,qe,qa6,qan,hi,k1,k2,nm,k3,k0,b0,b1]
       | false=>
        cases b2:((word ws n).s == [116,114,117,101]) with
        | true=>
         simp only [sB.1,qgf,reduceCtorEq,Nat.reduceAdd,Nat.reduceSub,Nat.reduceLT,Nat.reduceEqDiff,qag hw hn,Tok.enc,E,PBi,qaJ,qaf hw hn,qe,qa6,qan,hi,k1,k2,nm,k3,k0,b0,b1,b2]
        | false=>
         cases b3:((word ws n).s == [102,97,108,115,101]) with
         | true=>
          simp only [sB.1,qgf,reduceCtorEq,Nat.reduceAdd,Nat.reduceSub,Nat.reduceLT,Nat.reduceEqDiff,qag hw hn,Tok.enc,E,PBi,qaJ,qaf hw hn,qe,qa6,qan,hi,k1,k2,nm,k3,k0,b0,b1,b2,b3]
         | false=>
          cases b4:((word ws n).s == [101,108,97,112,115,101,100]) with
          | true=>
           simp only [sB.1,qgf,reduceCtorEq,Nat.reduceAdd,Nat.reduceSub,Nat.reduceLT,Nat.reduceEqDiff,qag hw hn,Tok.enc,E,PBi,qaJ,qaf hw hn,qe,qa6,qan,hi,k1,k2,nm,k3,k0,b0,b1,b2,b3,b4]
          | false=>
           cases b5:((word ws n).s == [99,111,117,110,116]) with
           | true=>
            simp only [sB.1,qgf,reduceCtorEq,Nat.reduceAdd,Nat.reduceSub,Nat.reduceLT,Nat.reduceEqDiff,qag hw hn,Tok.enc,E,PBi,qaJ,qaf hw hn,qe,qa6,qan,hi,k1,k2,nm,k3,k0,b0,b1,b2,b3,b4,b5]
           | false=>
            cases b6:((word ws n).s == [104,97,115]) with
            | true=>
             simp only [sB.1,qgf,reduceCtorEq,Nat.reduceAdd,Nat.reduceSub,Nat.reduceLT,Nat.reduceEqDiff,qag hw hn,Tok.enc,E,PBi,qaJ,qaf hw hn,qe,qa6,qan,hi,k1,k2,nm,k3,k0,b0,b1,b2,b3,b4,b5,b6]
            | false=>
             cases b7:((word ws n).s == [115,117,109]) with
             | true=>
              simp only [sB.1,qgf,reduceCtorEq,Nat.reduceAdd,Nat.reduceSub,Nat.reduceLT,Nat.reduceEqDiff,qag hw hn,Tok.enc,E,PBi,qaJ,qaf hw hn,qe,qa6,qan,hi,k1,k2,nm,k3,k0,b0,b1,b2,b3,b4,b5,b6,b7]
             | false=>
              cases b8:((word ws n).s == [108,101,97,115,116]) with
              | true=>
               simp only [sB.1,qgf,reduceCtorEq,Nat.reduceAdd,Nat.reduceSub,Nat.reduceLT,Nat.reduceEqDiff,qag hw hn,Tok.enc,E,PBi,qaJ,qaf hw hn,qe,qa6,qan,hi,k1,k2,nm,k3,k0,b0,b1,b2,b3,b4,b5,b6,b7,b8]
              | false=>
               simp only [sB.1,qgf,reduceCtorEq,Nat.reduceAdd,Nat.reduceSub,Nat.reduceLT,Nat.reduceEqDiff,qag hw hn,Tok.enc,E,PBi,qaJ,qaf hw hn,qeb hw hn,qe,qa6,qan,hi,k1,k2,nm,k3,k0,b0,b1,b2,b3,b4,b5,b6,b7,b8]
     | false=>
      simp only [sB.1,qgf,reduceCtorEq,Nat.reduceAdd,Nat.reduceSub,Nat.reduceLT,Nat.reduceEqDiff,qag hw hn,Tok.enc,E,PBi,qaJ,qaf hw hn,qeb hw hn,qe,qa6,qan,hi,k1,k2,nm,k3,k0]
theorem qyU (hw:WF ws) (hn:n < ws.length) (hi:h[i]? = some (PB ws n)) (hk:(word ws n).kind = 4):Wd (.fn 29 [] []) [.ptr i 0] h = some (.ret (.tup []),h,false):=by
 have k4:((word ws n).kind == 4) = true:=by simpa using hk
 rw [qu 29 c29]
 simp only [sB.1,c29,reduceCtorEq,Nat.reduceAdd,Nat.reduceSub,Nat.reduceLT,qag hw hn hi,Tok.enc,k4]
theorem qBB (hw:WF ws) (hn:n < ws.length) (hi:h[i]? = some (PB ws n)) (hk:(word ws n).kind ≠ 4):Wd (.fn 29 [] []) [.ptr i 0] h = some (.pan (qbK (word ws n).pos 6),h,false):=by
 have k4:((word ws n).kind == 4) = false:=by simpa using hk
 rw [qu 29 c29]
 simp only [sB.1,c29,reduceCtorEq,Nat.reduceAdd,Nat.reduceSub,Nat.reduceLT,qag hw hn hi,Tok.enc,k4,qeb hw hn hi,qe]
end
inductive qdS (ws:List Tok) (sub:Nat->Out->Prop) (pos:Int):List Exp->Nat->Out->Prop
 | many {args m}:args.length = 4->qdS ws sub pos args m (.no (word ws m).pos (bif qa6 ws m then 8 else 6) m)
 | bad {args m p err k}:args.length < 4->sub m (.no p err k)->qdS ws sub pos args m (.no p err k)
 | next {args m y m1 o}:args.length < 4->sub m (.ok y m1)->isW ws m1 [44] = true->qdS ws sub pos (args ++ [y]) (m1 + 1) o->qdS ws sub pos args m o
 | unshut {args m y m1}:args.length < 4->sub m (.ok y m1)->isW ws m1 [44] = false->isW ws m1 [41] = false->qdS ws sub pos args m (.no (word ws m1).pos 6 m1)
 | deep {args m y m1}:args.length < 4->sub m (.ok y m1)->isW ws m1 [44] = false->isW ws m1 [41] = true->¬ (Exp.mk 6 0 [] [] (args ++ [y])).depth <= 20->qdS ws sub pos args m (.no pos 7 (m1 + 1))
 | shut {args m y m1}:args.length < 4->sub m (.ok y m1)->isW ws m1 [44] = false->isW ws m1 [41] = true->(Exp.mk 6 0 [] [] (args ++ [y])).depth <= 20->qdS ws sub pos args m (.ok (.mk 6 0 [] [] (args ++ [y])) (m1 + 1))
section
variable {ws:List Tok} {h:List qk}
theorem qjS (parts:List Nd) (y:Nd) (hl:parts.length <= 1000):qbE 7 (parts.map Nd.enc) [y.enc] = true:=by
 simp only [qbE,Bool.and_eq_true,decide_eq_true_eq]
 refine ⟨⟨?_,?_⟩,?_⟩
 ·simp only [jQ,jy,jz,qe6];omega
 ·simp [Nd.cellsE,Nd.len]
  simpa using y.stor
 ·cases parts with
  | nil=>rfl
  | cons x xs=>simp [Nd.cellsE,Nd.len]
structure qiS (h:List qk) (i:Nat) (ws:List Tok) (n:Nat) (H:List qk):Prop where
 lt:i < h.length
 len:h.length < H.length
 par:H[i]? = some (PB ws n)
 res:H[h.length]? = some quC
 old:H.take h.length = h.set i (PB ws n)
theorem qiS.next {i n n':Nat} {H:List qk} (hl:qiS h i ws n H):qiS h i ws n' (H.set i (PB ws n')):=by
 have h1:=hl.lt
 have h2:=hl.len
 refine ⟨hl.lt,by simpa using h2,qY zo,?_,?_⟩
 ·rw [qN zo,hl.res]
 ·rw [List.take_set,hl.old,qg1]
def qfL (parts:List Nd):qha:=bif parts.length == 1 then .full else .own 7
theorem qjb {parts:List Nd} {y:Nd} (h:1 <= parts.length):qfL (parts ++ [y]) = .own 7:=by
 have:((parts ++ [y]).length == 1) = false:=by simp only [List.length_append,jy,jz,beq_eq_false_iff_ne];omega
 rw [qfL,this]
 rfl
def qxZ (h:List qk) (i:Nat) (ws:List Tok) (pos:Int) (r:Option (Ex×St)) (o:Out):Prop:=
 (∃p err n,o = .no p err n/\n < ws.length/\∃tt H,r = some (.pan (qbK p err),⟨tt,H,false⟩)/\H.take h.length = h.set i (PB ws n))\/
 (∃(parts:List Nd) (n:Nat) (tt H:List _),r = some (.exit 0,⟨tt,H,false⟩)/\n < ws.length/\tt.length = 44/\lkp tt 0 = .ptr i 0/\lkp tt 2 = .ptr h.length 0/\lkp tt 3 = .int .i64 pos/\lkp tt 5 = .lst (parts.map Nd.enc) (.own 7)/\qiS h i ws n H/\parts.length <= 4/\(∀x ∈ parts,x.e.depth <= 20)/\
  ((isW ws n [41] = false/\o = .no (word ws n).pos 6 n)\/(isW ws n [41] = true/\¬ (Exp.mk 6 0 [] [] (parts.map Nd.e)).depth <= 20/\o = .no pos 7 (n + 1))\/(isW ws n [41] = true/\(Exp.mk 6 0 [] [] (parts.map Nd.e)).depth <= 20/\o = .ok (.mk 6 0 [] [] (parts.map Nd.e)) (n + 1))))
theorem qk0 (hw:WF ws) (i:Nat) (pos:Int) (args:List Exp) (n:Nat) (o:Out) (hT:qdS ws (qaA 43 ws) pos args n o):∀(parts:List Nd) (tt:List qd) (H:List qk),parts.map Nd.e = args->1 <= parts.length->(∀x ∈ parts,x.e.depth <= 20)->n < ws.length->tt.length = 44->lkp tt 0 = .ptr i 0->lkp tt 2 = .ptr h.length 0->lkp tt 3 = .int .i64 pos->lkp tt 5 = .lst (parts.map Nd.enc) (qfL parts)->qiS h i ws n H->
  qxZ h i ws pos (qg h.length Wd (.loop qbV) ⟨tt,H,false⟩) o:=by
 induction hT with
 | @many args m hl=>
  intro parts tt H hp h1 a6 hn ht e0 e2 e3 e5 hL
  have Y:i < H.length:=by have:=hL.lt;have:=hL.len;omega
  have E:=hL.par
  rw [PBi] at E
  have a7:parts.length = 4:=by rw [<-hl,<-hp,jQ]
  have a8:qfL parts = .own 7:=by simp [qfL,a7]
  rw [a8] at e5
  have h4:(((parts.map Nd.enc).length:Int) == 4) = true:=by simp [a7]
  rw [qh]
  generalize he:qg h.length Wd qbV _ = r
  simp only [sB.1,qbV,seval,ht,e0,e5,h4,qlx hw hn,E,PBi] at he
  subst he
  exact .inl ⟨_,_,_,rfl,hn,_,_,rfl,hL.old⟩
 | @bad args m p err k hl hx=>
  intro parts tt H hp h1 a6 hn ht e0 e2 e3 e5 hL
  have Y:i < H.length:=by have:=hL.lt;have:=hL.len;omega
  have E:=hL.par
  rw [PBi] at E
  have a7:parts.length < 4:=by rw [<-hp,jQ] at hl;exact hl
  have h4:(((parts.map Nd.enc).length:Int) == 4) = false:=by simp;omega
  obtain ⟨x1,x2⟩:=hx
  have aa:∀f:qha,(qd.lst (parts.map Nd.enc) f).dim.dim = (qd.lst (parts.map Nd.enc) f).dim:=λf=>qk7 _
  cases hf:(parts.length == 1) with
  | true=>
   simp only [qfL,hf,cond_true] at e5
   rw [qh]
   generalize he:qg h.length Wd qbV _ = r
   simp only [sA.1,qbV,seval,ht,e0,e5,h4,E,PBi,x2] at he
   subst he
   exact .inl ⟨_,_,_,rfl,x1,_,_,rfl,hL.next.old⟩
  | false=>
   simp only [qfL,hf,cond_false] at e5
   rw [qh]
   generalize he:qg h.length Wd qbV _ = r
   simp only [sA.1,qbV,seval,ht,e0,e5,h4,E,PBi,x2] at he
   subst he
   exact .inl ⟨_,_,_,rfl,x1,_,_,rfl,hL.next.old⟩
 | @next args m y m1 o hl hx hc hT ih=>
  intro parts tt H hp h1 a6 hn ht e0 e2 e3 e5 hL
  have Y:i < H.length:=by have:=hL.lt;have:=hL.len;omega
  have E:=hL.par
  rw [PBi] at E
  have a7:parts.length < 4:=by rw [<-hp,jQ] at hl;exact hl
  have h4:(((parts.map Nd.enc).length:Int) == 4) = false:=by simp;omega
  obtain ⟨x1,x2,x3,x4⟩:=hx
  have a1:qbE 7 (parts.map Nd.enc) [(⟨y,(word ws m).pos⟩ :Nd).enc] = true:=qjS _ _ zo
  have U:∀x ∈ parts ++ [(⟨y,(word ws m).pos⟩ :Nd)],x.e.depth <= 20:=by
   intro x hx
   rcases jH.1 hx with hx | hx
   ·exact a6 x hx
   ·rw [jY.1 hx];exact x3
  have I:(parts ++ [(⟨y,(word ws m).pos⟩ :Nd)]).map Nd.e = args ++ [y]:=by rw [jX,hp];rfl
  cases hf:(parts.length == 1) with
  | true=>
   simp only [qfL,hf,cond_true] at e5
   rw [qh]
   generalize he:qg h.length Wd qbV _ = r
   simp only [sA.1,qbV,seval,ht,e0,e5,h4,E,PBi,Y,Nd.dimE,qcK,a1,x4,qt hw x2,hc] at he
   subst he
   refine ih (parts ++ [⟨y,(word ws m).pos⟩]) _ _ I (by simp) U (qi hw x2 hc) Y0 Y3 Y2 y7 ?_ hL.next
   simp only [sB.1,seval,ht,jX,qjb h1]
  | false=>
   simp only [qfL,hf,cond_false] at e5
   rw [qh]
   generalize he:qg h.length Wd qbV _ = r
   simp only [sA.1,qbV,seval,ht,e0,e5,h4,E,PBi,Y,Nd.dimE,qcK,a1,x4,qt hw x2,hc] at he
   subst he
   refine ih (parts ++ [⟨y,(word ws m).pos⟩]) _ _ I (by simp) U (qi hw x2 hc) Y0 Y3 Y2 y7 ?_ hL.next
   simp only [sB.1,seval,ht,jX,qjb h1]
 | @unshut args m y m1 hl hx hc hs=>
  intro parts tt H hp h1 a6 hn ht e0 e2 e3 e5 hL
  have Y:i < H.length:=by have:=hL.lt;have:=hL.len;omega
  have E:=hL.par
  rw [PBi] at E
  have a7:parts.length < 4:=by rw [<-hp,jQ] at hl;exact hl
  have h4:(((parts.map Nd.enc).length:Int) == 4) = false:=by simp;omega
  obtain ⟨x1,x2,x3,x4⟩:=hx
  have a1:qbE 7 (parts.map Nd.enc) [(⟨y,(word ws m).pos⟩ :Nd).enc] = true:=qjS _ _ zo
  have U:∀x ∈ parts ++ [(⟨y,(word ws m).pos⟩ :Nd)],x.e.depth <= 20:=by
   intro x hx
   rcases jH.1 hx with hx | hx
   ·exact a6 x hx
   ·rw [jY.1 hx];exact x3
  have I:(parts ++ [(⟨y,(word ws m).pos⟩ :Nd)]).map Nd.e = args ++ [y]:=by rw [jX,hp];rfl
  cases hf:(parts.length == 1) with
  | true=>
   simp only [qfL,hf,cond_true] at e5
   rw [qh]
   generalize he:qg h.length Wd qbV _ = r
   simp only [sA.1,qbV,seval,ht,e0,e5,h4,E,PBi,Y,Nd.dimE,qcK,a1,x4,qy hw x2,hc] at he
   subst he
   refine .inr ⟨parts ++ [⟨y,(word ws m).pos⟩],m1,_,_,rfl,x2,Y0,Y3,Y2,y7,?_,hL.next,by simp;omega,U,?_⟩
   ·simp only [sB.1,seval,ht,jX]
   ·rw [I];exact .inl ⟨hs,rfl⟩
  | false=>
   simp only [qfL,hf,cond_false] at e5
   rw [qh]
   generalize he:qg h.length Wd qbV _ = r
   simp only [sA.1,qbV,seval,ht,e0,e5,h4,E,PBi,Y,Nd.dimE,qcK,a1,x4,qy hw x2,hc] at he
   subst he
   refine .inr ⟨parts ++ [⟨y,(word ws m).pos⟩],m1,_,_,rfl,x2,Y0,Y3,Y2,y7,?_,hL.next,by simp;omega,U,?_⟩
   ·simp only [sB.1,seval,ht,jX]
   ·rw [I];exact .inl ⟨hs,rfl⟩
 | @deep args m y m1 hl hx hc hs hd=>
  intro parts tt H hp h1 a6 hn ht e0 e2 e3 e5 hL
  have Y:i < H.length:=by have:=hL.lt;have:=hL.len;omega
  have E:=hL.par
  rw [PBi] at E
  have a7:parts.length < 4:=by rw [<-hp,jQ] at hl;exact hl
  have h4:(((parts.map Nd.enc).length:Int) == 4) = false:=by simp;omega
  obtain ⟨x1,x2,x3,x4⟩:=hx
  have a1:qbE 7 (parts.map Nd.enc) [(⟨y,(word ws m).pos⟩ :Nd).enc] = true:=qjS _ _ zo
  have U:∀x ∈ parts ++ [(⟨y,(word ws m).pos⟩ :Nd)],x.e.depth <= 20:=by
   intro x hx
   rcases jH.1 hx with hx | hx
   ·exact a6 x hx
   ·rw [jY.1 hx];exact x3
  have I:(parts ++ [(⟨y,(word ws m).pos⟩ :Nd)]).map Nd.e = args ++ [y]:=by rw [jX,hp];rfl
  cases hf:(parts.length == 1) with
  | true=>
   simp only [qfL,hf,cond_true] at e5
   rw [qh]
   generalize he:qg h.length Wd qbV _ = r
   simp only [sA.1,qbV,seval,ht,e0,e5,h4,E,PBi,Y,Nd.dimE,qcK,a1,x4,qy hw x2,hc] at he
   subst he
   refine .inr ⟨parts ++ [⟨y,(word ws m).pos⟩],m1,_,_,rfl,x2,Y0,Y3,Y2,y7,?_,hL.next,by simp;omega,U,?_⟩
   ·simp only [sB.1,seval,ht,jX]
   ·rw [I];exact .inr (.inl ⟨hs,hd,rfl⟩)
  | false=>
   simp only [qfL,hf,cond_false] at e5
   rw [qh]
   generalize he:qg h.length Wd qbV _ = r
   simp only [sA.1,qbV,seval,ht,e0,e5,h4,E,PBi,Y,Nd.dimE,qcK,a1,x4,qy hw x2,hc] at he
   subst he
   refine .inr ⟨parts ++ [⟨y,(word ws m).pos⟩],m1,_,_,rfl,x2,Y0,Y3,Y2,y7,?_,hL.next,by simp;omega,U,?_⟩
   ·simp only [sB.1,seval,ht,jX]
   ·rw [I];exact .inr (.inl ⟨hs,hd,rfl⟩)
 | @shut args m y m1 hl hx hc hs hd=>
  intro parts tt H hp h1 a6 hn ht e0 e2 e3 e5 hL
  have Y:i < H.length:=by have:=hL.lt;have:=hL.len;omega
  have E:=hL.par
  rw [PBi] at E
  have a7:parts.length < 4:=by rw [<-hp,jQ] at hl;exact hl
  have h4:(((parts.map Nd.enc).length:Int) == 4) = false:=by simp;omega
  obtain ⟨x1,x2,x3,x4⟩:=hx
  have a1:qbE 7 (parts.map Nd.enc) [(⟨y,(word ws m).pos⟩ :Nd).enc] = true:=qjS _ _ zo
  have U:∀x ∈ parts ++ [(⟨y,(word ws m).pos⟩ :Nd)],x.e.depth <= 20:=by
   intro x hx
   rcases jH.1 hx with hx | hx
   ·exact a6 x hx
   ·rw [jY.1 hx];exact x3
  have I:(parts ++ [(⟨y,(word ws m).pos⟩ :Nd)]).map Nd.e = args ++ [y]:=by rw [jX,hp];rfl
  cases hf:(parts.length == 1) with
  | true=>
   simp only [qfL,hf,cond_true] at e5
   rw [qh]
   generalize he:qg h.length Wd qbV _ = r
   simp only [sA.1,qbV,seval,ht,e0,e5,h4,E,PBi,Y,Nd.dimE,qcK,a1,x4,qy hw x2,hc] at he
   subst he
   refine .inr ⟨parts ++ [⟨y,(word ws m).pos⟩],m1,_,_,rfl,x2,Y0,Y3,Y2,y7,?_,hL.next,by simp;omega,U,?_⟩
   ·simp only [sB.1,seval,ht,jX]
   ·rw [I];exact .inr (.inr ⟨hs,hd,rfl⟩)
  | false=>
   simp only [qfL,hf,cond_false] at e5
   rw [qh]
   generalize he:qg h.length Wd qbV _ = r
   simp only [sA.1,qbV,seval,ht,e0,e5,h4,E,PBi,Y,Nd.dimE,qcK,a1,x4,qy hw x2,hc] at he
   subst he
   refine .inr ⟨parts ++ [⟨y,(word ws m).pos⟩],m1,_,_,rfl,x2,Y0,Y3,Y2,y7,?_,hL.next,by simp;omega,U,?_⟩
   ·simp only [sB.1,seval,ht,jX]
   ·rw [I];exact .inr (.inr ⟨hs,hd,rfl⟩)
end
section
variable {ws:List Tok} {n:Nat}
theorem qB7 {h:List qk} (p:qd) (pos op k:Int) (name sub:Str) (parts:List Nd) (hp:parts.length <= 4) (hd:∀x ∈ parts,x.e.depth <= 20):Wd (.fn 65 [] []) [p,.int .i64 pos,.agg [.int .i64 op,.int .i64 k,.str name,.str sub,.lst [] .full],.lst (parts.map Nd.enc) .no] h =
  if (Exp.mk op k name sub (parts.map Nd.e)).depth <= 20 then some (.ret (Nd.enc ⟨.mk op k name sub (parts.map Nd.e),pos⟩),h,false) else some (.pan (qbK pos 7),h,false):=
 qix (h:=h) p pos op k name sub parts false hp hd
theorem br1 (hw:WF ws) (hn:n < ws.length) (hs:isW ws n [40] = true) {p err:Int} {m:Nat} (h1:qaA 43 ws (n + 1) (.no p err m)):qaA 158 ws n (.no p err m):=by
 obtain ⟨x1,x2⟩:=h1
 refine ⟨x1,λh i hi=>?_⟩
 have E:=qc hi
 rw [PBi] at hi
 rw [qu 158 qnz]
 simp only [sB.1,qnz,seval,qa4 hw hn,qH hw hn,hs,hi,E,PBi,x2,qe]
theorem br2 (hw:WF ws) (hn:n < ws.length) (hs:isW ws n [40] = true) {x:Exp} {n1:Nat} (h1:qaA 43 ws (n + 1) (.ok x n1)) (h2:isW ws n1 [41] = true):qaA 158 ws n (.ok x (n1 + 1)):=by
 obtain ⟨x1,x2,x3,x4⟩:=h1
 refine ⟨zo,qi hw x2 h2,x3,λh i hi=>?_⟩
 have E:=qc hi
 have I:=blA h 1
 rw [PBi] at hi
 rw [qu 158 qnz]
 have s6:List.take 6 (⟨x,(word ws (n + 1)).pos⟩ :Nd).cs ++ [qd.int .i64 (word ws n).pos] = (⟨x,(word ws n).pos⟩ :Nd).cs:=by
  obtain ⟨op,k,name,sub,args⟩:=x
  exact Eq.trans rfl rfl
 simp only [sB.1,qnz,seval,qa4 hw hn,qH hw hn,hs,hi,E,PBi,x4,qt hw x2,h2,I,Nd.dimE,Nd.cellsE,Nd.cutE,Nd.dims,Nd.len,Nd.stor,Nd.lower,Nd.drainE,Nd.drop7,s6]
theorem br3 (hw:WF ws) (hn:n < ws.length) (hs:isW ws n [40] = true) {x:Exp} {n1:Nat} (h1:qaA 43 ws (n + 1) (.ok x n1)) (h2:isW ws n1 [41] = false) (h3:isW ws n1 [44] = false):qaA 158 ws n (.no (word ws n1).pos 6 n1):=by
 obtain ⟨x1,x2,x3,x4⟩:=h1
 refine ⟨x2,λh i hi=>?_⟩
 have E:=qc hi
 have I:=blA h 1
 rw [PBi] at hi
 rw [qu 158 qnz]
 simp only [sB.1,qnz,seval,qa4 hw hn,qH hw hn,hs,hi,E,PBi,x4,qy hw x2,h2,qb3 hw x2,h3,I,Nd.dimE,Nd.cellsE,Nd.dims,Nd.len,Nd.stor,Nd.drainE,Nd.drop7,qe]
theorem br4 (hw:WF ws) (hn:n < ws.length) (hs:isW ws n [40] = true) {x:Exp} {n1:Nat} (h1:qaA 43 ws (n + 1) (.ok x n1)) (h2:isW ws n1 [41] = false) (h3:isW ws n1 [44] = true) (h4:isW ws (n1 + 1) [41] = true) (hd:(Exp.mk 6 0 [] [] [x]).depth <= 20):qaA 158 ws n (.ok (.mk 6 0 [] [] [x]) (n1 + 1 + 1)):=by
 obtain ⟨x1,x2,x3,x4⟩:=h1
 have n2:=qi hw x2 h3
 refine ⟨zo,qi hw n2 h4,hd,λh i hi=>?_⟩
 have E:=qc hi
 have I:=blA h 1
 rw [PBi] at hi
 rw [qu 158 qnz]
 simp only [sB.1,qnz,seval,qa4 hw hn,qH hw hn,hs,hi,E,PBi,x4,x3,qy hw x2,h2,qH hw x2,h3,qt hw n2,h4,I,Nd.dimE,Nd.cellsE,Nd.cutE,Nd.dims,Nd.len,Nd.stor,Nd.lower,Nd.drainE,Nd.drop7,qcK,qr,qi2,hd]
theorem br5 (hw:WF ws) (hn:n < ws.length) (hs:isW ws n [40] = true) {x:Exp} {n1:Nat} (h1:qaA 43 ws (n + 1) (.ok x n1)) (h2:isW ws n1 [41] = false) (h3:isW ws n1 [44] = true) (h4:isW ws (n1 + 1) [41] = true) (hd:¬ (Exp.mk 6 0 [] [] [x]).depth <= 20):qaA 158 ws n (.no (word ws n).pos 7 (n1 + 1 + 1)):=by
 obtain ⟨x1,x2,x3,x4⟩:=h1
 have n2:=qi hw x2 h3
 refine ⟨qi hw n2 h4,λh i hi=>?_⟩
 have E:=qc hi
 have I:=blA h 1
 rw [PBi] at hi
 rw [qu 158 qnz]
 simp only [sB.1,qnz,seval,qa4 hw hn,qH hw hn,hs,hi,E,PBi,x4,x3,qy hw x2,h2,qH hw x2,h3,qt hw n2,h4,I,Nd.dimE,Nd.cellsE,Nd.cutE,Nd.dims,Nd.len,Nd.stor,Nd.drainE,Nd.drop7,qcK,qr,qi2,hd,qe]
theorem qdS.mono {pos:Int} {args:List Exp} {m:Nat} {o:Out} (h:qdS ws (qaA 43 ws) pos args m o):∀e' n',o = .ok e' n'->m < n':=by
 induction h with
 | many _=>intro e' n' h;cases h
 | bad _ _=>intro e' n' h;cases h
 | next _ h1 _ _ ih=>intro e' n' h;have:=ih e' n' h;have:=h1.1;omega
 | unshut _ _ _ _=>intro e' n' h;cases h
 | deep _ _ _ _ _=>intro e' n' h;cases h
 | shut _ h1 _ _ _=>intro e' n' h;cases h;have:=h1.1;omega
theorem qiS.start {i n:Nat} {h:List qk} {x:Nd} (hi:i < h.length):qiS h i ws n (h.set i (PB ws n) ++ [quC,NB x]):=by
 refine ⟨hi,by simp,?_,?_,?_⟩
 ·rw [qah (by simpa using hi),qY hi]
 ·rw [qd6 (by simp)];rfl
 ·rw [List.take_append_of_le_length (by simp),List.take_of_length_le (by simp)]
theorem qiS.answer {i n:Nat} {h:List qk} {x:Nd} {H:List qk} (hl:qiS h i ws n H):qbD h.length (.ret x.enc) (H.set h.length (NB x)) false = (.ret x.enc,h.set i (PB ws n),false):=
 qw (by rw [List.take_set_of_le zo,hl.old]) (x.lower _)
def qme:qK:=.seq (.reg [ao 39 (.mov (.t 0)),ao 40 (.mov (.t 3)),ao 41 (.build [(.int .i64 0),(.int .i64 0),(.str []),(.str []),(.lst [] .full)] [(0,1,(.c (.int .i64 6)))]),ao 42 (.mov (.t 5)),ao 43 (.call (.c (.fn 65 [] [])) [(.t 39),(.t 40),(.t 41),(.t 42)]),an (.st (some 7) (.t 2) (.t 43))]) .ret
def qh4:qK:=.reg [ao 37 (.mov (.t 0)),ao 38 (.call (.c (.fn 27 [] [])) [(.t 37),(.c (.str [41]))])]
theorem qny (hw:WF ws) {h:List qk} {i:Nat} {pos:Int} {r:Option (Ex×St)} {o:Out} (hL:qxZ h i ws pos r o):match (motive:=Out->Prop) o with
  | .ok e n=>n < ws.length/\e.depth <= 20/\qbS [.cell 2 (some 7)] h (qbr (qg h.length Wd qme) (qbr (qg h.length Wd qh4) (qbj 0 r))) = some (.ret (Nd.enc ⟨e,pos⟩),h.set i (PB ws n),false)
  | .no p err n=>n < ws.length/\qbS [.cell 2 (some 7)] h (qbr (qg h.length Wd qme) (qbr (qg h.length Wd qh4) (qbj 0 r))) = some (.pan (qbK p err),h.set i (PB ws n),false):=by
 obtain ⟨p,err,n,rfl,hn,tt,H,rfl,q⟩ | ⟨parts,n,tt,H,rfl,hn,ht,e0,e2,e3,e5,hl,hp,hd,hc⟩:=hL
 ·refine ⟨hn,?_⟩
  simp only [sB.1,seval]
  exact congrArg some (qbe q (qe _ _ _))
 ·have I:=hl.par
  have Y:=hl.len
  have U:=(hl.next (n':=n + 1)).res
  rw [qcl] at U
  obtain ⟨hs,rfl⟩ | ⟨hs,E,rfl⟩ | ⟨hs,E,rfl⟩:=hc
  ·refine ⟨hn,?_⟩
   simp only [sB.1,qme,qh4,seval,ht,e0,qb3 hw hn I hs]
   exact congrArg some (qbe hl.old (qe _ _ _))
  ·refine ⟨qi hw hn hs,?_⟩
   simp only [sB.1,qme,qh4,seval,ht,e0,e3,e5,qH hw hn I hs,qr,qB7 _ _ _ _ _ _ parts hp hd,E]
   exact congrArg some (qbe hl.next.old (qe _ _ _))
  ·refine ⟨qi hw hn hs,E,?_⟩
   simp only [sB.1,qme,qh4,seval,ht,e0,e2,e3,e5,qH hw hn I hs,qr,qB7 _ _ _ _ _ _ parts hp hd,E,U,Y,Nd.dimE,Nd.cellsE,Nd.cutE,Nd.dims,Nd.len,Nd.stor,Nd.drainE]
   exact congrArg some hl.next.answer
theorem br6 (hw:WF ws) (hn:n < ws.length) (hs:isW ws n [40] = true) {x:Exp} {n1:Nat} (h1:qaA 43 ws (n + 1) (.ok x n1)) (h2:isW ws n1 [41] = false) (h3:isW ws n1 [44] = true) (h4:isW ws (n1 + 1) [41] = false) {o:Out} (hT:qdS ws (qaA 43 ws) (word ws n).pos [x] (n1 + 1) o):qaA 158 ws n o:=by
 obtain ⟨x1,x2,x3,x4⟩:=h1
 have n2:=qi hw x2 h3
 have E:=hT.mono
 have run:∀(h:List qk) (i:Nat),h[i]? = some (PB ws n)->∃r,qxZ h i ws (word ws n).pos r o/\Wd (.fn 158 [] []) [.ptr i 0] h = qbS [.cell 2 (some 7)] h (qbr (qg h.length Wd qme) (qbr (qg h.length Wd qh4) (qbj 0 r))):=by
  intro h i hi
  have I:=qc hi
  have U:=blA h 1
  rw [PBi] at hi
  generalize hr:Wd (.fn 158 [] []) [.ptr i 0] h = R
  rw [qu 158 qnz] at hr
  simp only [sB.1,qnz,seval,qa4 hw hn,qH hw hn,hs,hi,I,PBi,x4,qy hw x2,h2,qH hw x2,h3,qy hw n2,h4,U,Nd.dimE,Nd.cellsE,Nd.cutE,Nd.dims,Nd.len,Nd.stor,Nd.drainE,Nd.drop7,qcK] at hr
  generalize hq:qg h.length Wd (.loop qbV) _ = r at hr
  refine ⟨r,?_,?_⟩
  ·rw [<-hq]
   refine qk0 hw i _ [x] _ o hT [⟨x,(word ws (n + 1)).pos⟩] _ _ (Eq.trans rfl rfl) (Nat.le_refl _) (by simpa using x3) n2 Y1 Y1 Y1 Y1 ?_ (qiS.start I)
   simp only [sB.1,seval,qfL]
  ·rw [<-hr]
   simp only [qme,qh4,ao,an]
 cases o with
 | ok e' n'=>
  obtain ⟨r,q1,q2⟩:=run (List.replicate 1 (PB ws n)) 0 rfl
  have f0:=qny hw q1
  refine ⟨by have:=E _ _ rfl;omega,f0.1,f0.2.1,λh i hi=>?_⟩
  obtain ⟨r,q1,q2⟩:=run h i hi
  have f1:=qny hw q1
  exact q2.trans f1.2.2
 | no pos err n'=>
  obtain ⟨r,q1,q2⟩:=run (List.replicate 1 (PB ws n)) 0 rfl
  have f0:=qny hw q1
  refine ⟨f0.1,λh i hi=>?_⟩
  obtain ⟨r,q1,q2⟩:=run h i hi
  have f1:=qny hw q1
  exact q2.trans f1.2
end
section
variable {ws:List Tok} {n:Nat} {h:List qk} {i:Nat}
theorem Exp.lower (φ:Int->Nat->Bool) (e:Exp) (n:Nat):(e.enc φ).lower n = true:=by
 simp [Exp.enc,qd.lower,qcH]
theorem Exp.dimE (φ:Int->Nat->Bool) (e:Exp):(e.enc φ).dim = e.enc φ:=Eq.trans rfl rfl
theorem Exp.cellsE (φ:Int->Nat->Bool) (e:Exp):(e.enc φ).cells = e.cs φ:=Eq.trans rfl rfl
theorem Exp.drainE (φ:Int->Nat->Bool) (e:Exp) (j:Nat) (t:List qd):qcy (e.enc φ) j t = t:=rfl
theorem Exp.dims (φ:Int->Nat->Bool) (e:Exp):(e.cs φ).map qd.dim = e.cs φ:=by
 obtain ⟨op,k,name,sub,args⟩:=e
 simp [Exp.cs,qd.dim,fl]
 cases φ op args.length <;> rfl
theorem Exp.cut (φ:Int->Nat->Bool) (e:Exp):cut (e.cs φ) 0 (some 5) = some (e.enc φ):=by
 rw [qcI (by rw [Exp.cs_len];omega),List.drop_zero,List.take_of_length_le (by rw [Exp.cs_len];omega),Exp.dims]
 rfl
theorem Exp.stor (φ:Int->Nat->Bool) (e:Exp):(e.cs φ).all qd.storable = true:=qrh φ e
theorem Exp.drop5 (φ:Int->Nat->Bool) (e:Exp):(e.cs φ).drop 5 = []:=List.drop_eq_nil_of_le (by rw [Exp.cs_len];omega)
def qqC (s:Str) (ws:List Tok):Prop:=∀h,Wd (.fn 20 [] []) [.str s] h = some (.ret (.tup [.lst (ws.map Tok.enc) .no,.int .i64 0,.int .i64 0]),h,false)
def qAD (s:Str) (p e:Int):Prop:=∀h,∃w,Wd (.fn 20 [] []) [.str s] h = some (.ret (.tup [w,.int .i64 p,.int .i64 e]),h,false)
end
end Go.Proofs.YtkehdpkcdnofaaaGreatDoor.AE
