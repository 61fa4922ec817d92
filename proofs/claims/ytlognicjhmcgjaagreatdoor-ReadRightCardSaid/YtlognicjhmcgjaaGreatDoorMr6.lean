/- A part of the proof: the abstract executor and what goes through it (part 6). No condition. -/
import Derived.Test.YtlognicjhmcgjaaGreatDoorMr5
import Derived.Test.YtlognicjhmcgjaaGreatDoorMr4
import Derived.Test.YtlognicjhmcgjaaGreatDoorMr3
import Derived.KernelRfl
set_option maxRecDepth 100000
namespace Go.Proofs.YtlognicjhmcgjaaGreatDoor.AE
open Go.AE
section
variable {ws:List Tok}
def qf6 (v:qc):Prop:=∃(nm:Str) (ins outs D:List qc),v = .agg D∧qa2 nm = true∧qb2 3 8 qgo ins∧qb2 3 8 qgo outs∧
 (qhs nm true (.lst ins (fl ins.isEmpty)) (.lst outs (fl outs.isEmpty)) D∨qiN nm false (.lst ins (fl ins.isEmpty)) (.lst outs (fl outs.isEmpty)) D)
theorem qvh (e:Exp) (n:Nat):qD n [.agg (e.cs φP)] = true:=by simp only [qD,qc.lower,(qdZ e).2.2.1,Bool.and_self]
theorem qrm {v:qc} (h:qf6 v):Shp 14 v:=by
 obtain ⟨nm,ins,outs,D,rfl,_,h1,h2,h3⟩:=h
 rcases h3 with ⟨ps,ls,rs,rfl,k1,k2,k3⟩ | ⟨vars,ta,emits,qef,exts,con,own,rfl,k1,_,k2,k3,k4,k5⟩
 ·refine ⟨_,rfl,rfl,rfl,fun n=>?_,?_⟩
  ·simp only [qD,qc.lower,h1.lower,h2.lower,k1.lower,k2.lower,k3.lower,Bool.and_self]
  ·simp only [List.map_cons,List.map_nil,qt]
   rfl
 ·have k6:∀n,qD n own = true:=by
   rcases k5 with ⟨_,k5⟩ | ⟨_,rfl⟩
   ·exact k5.lower
   ·intro n;rfl
  refine ⟨_,rfl,rfl,rfl,fun n=>?_,?_⟩
  ·have e1:=qvh ta n
   simp only [qD,Bool.and_true] at e1
   simp only [qD,qc.lower,h1.lower,h2.lower,k1.lower,k2.lower,k3.lower,k4.lower,k6,(qdZ ta).2.2.1,Bool.and_self]
  ·simp only [List.map_cons,List.map_nil,qt]
   rfl
theorem qml {F:FuncId} {C:List qc} {p e:Int} {n n':Nat} (y:∀(h:List qx) (i r:Nat),h[i]? = some (PB ws n)→h[r]? = some (.cells C)→i ≠ r→∃X,Wd (.fn F [] []) [.ptr i 0,.ptr r 0] h = some (.pan (qbo p e),(h.set i (PB ws n')).set r X,false)) :
  ∃X:List qx→Nat→Nat→qx,∀(h:List qx) (i r:Nat),h[i]? = some (PB ws n)→h[r]? = some (.cells C)→i ≠ r→Wd (.fn F [] []) [.ptr i 0,.ptr r 0] h = some (.pan (qbo p e),(h.set i (PB ws n')).set r (X h i r),false):=
 ⟨fun h i r=>@Classical.epsilon _ ⟨.dead⟩ fun X=>Wd (.fn F [] []) [.ptr i 0,.ptr r 0] h = some (.pan (qbo p e),(h.set i (PB ws n')).set r X,false),fun h i r a b c=>Classical.epsilon_spec (y h i r a b c)⟩
def qbu (ws:List Tok) (n:Nat):Bool:=isW ws n [97,116,111,109,105,99] || isW ws n [99,111,117,112,108,101,100]
set_option maxHeartbeats 4000000 in
theorem qub (hw:WF ws) (hx:∀m,m < ws.length→∃o,qai 66 ws m o∧XOK ws o) {n:Nat} (hn:n < ws.length) (hb:qbu ws n = true):∃o,qkJ 78 ws n o∧GOK ws qf6 o:=by
 have hl:=hw.len
 have w:=qap (n:=n) (by omega)
 cases a0:isW ws n [99,111,117,112,108,101,100] with
 | true=>
  have n0:=qh hw hn a0
  cases a1:qab ws (n + 1) with
  | false=>
   refine ⟨.error ((word ws (n + 1)).pos,6),⟨n + 1,n0,fun h i hi=>?_⟩,⟨⟨n + 1,n0,rfl⟩,by decide⟩⟩
   have hlt:=qd hi
   have hb1:=qr h 1
   have hb2:=qr h 2
   have hb3:=qr h 3
   have hb4:=qr h 4
   have hne:i ≠ h.length + 1:=by omega
   have hn0:i ≠ h.length:=by omega
   rw [PBi] at hi
   rw [qm rfl (show T.get 78 = some c78 by kernel_rfl)]
   simp only [c78,sT.1,sC.1,qf,qe,Nat.testBit,simprocAttr,-Int.reduceNatCast',qbi hw hn,a0,w,qcy hw n0,a1,hi,hlt,hne,hn0,PBi,qbB,hb1,hb2,hb3,hb4,qu,qb,qY.enc,qa1.enc,qF.enc,qa5.enc,qX.enc,qas.enc,qbw.enc,qF.zero,Nd.enc,Nd.cs,Exp.enc,Exp.cs,List.cons_append,List.nil_append,qt,qj,qv,qN,qA,qC,qw,qo]
  | true=>
   have n1:=qM hw n0 a1
   cases a2:isW ws (n + 1 + 1) [123] with
   | false=>
    refine ⟨.error ((word ws (n + 1 + 1)).pos,6),⟨n + 1 + 1,n1,fun h i hi=>?_⟩,⟨⟨n + 1 + 1,n1,rfl⟩,by decide⟩⟩
    have hlt:=qd hi
    have hb1:=qr h 1
    have hb2:=qr h 2
    have hb3:=qr h 3
    have hb4:=qr h 4
    have hne:i ≠ h.length + 1:=by omega
    have hn0:i ≠ h.length:=by omega
    rw [PBi] at hi
    rw [qm rfl (show T.get 78 = some c78 by kernel_rfl)]
    simp only [c78,sT.1,sC.1,qf,qe,Nat.testBit,simprocAttr,-Int.reduceNatCast',qbi hw hn,a0,w,qP hw n0,a1,qah hw n1,a2,hi,hlt,hne,hn0,PBi,qbB,hb1,hb2,hb3,hb4,qu,qb,qY.enc,qa1.enc,qF.enc,qa5.enc,qX.enc,qas.enc,qbw.enc,qF.zero,Nd.enc,Nd.cs,Exp.enc,Exp.cs,List.cons_append,List.nil_append,qt,qj,qv,qN,qA,qC,qw,qo]
   | true=>
    have n2:=qh hw n1 a2
    obtain ⟨o3,p3⟩:=qmJ hw hx n2
    rcases o3 with ⟨pos,err⟩ | ⟨v3,m3⟩
    ·obtain ⟨q3,m3,x3,y3⟩:=p3
     refine ⟨.error (pos,err),⟨m3,x3,fun h i hi=>?_⟩,q3⟩
     have hlt:=qd hi
     have hb1:=qr h 1
     have hb2:=qr h 2
     have hb3:=qr h 3
     have hb4:=qr h 4
     have hne:i ≠ h.length + 1:=by omega
     have hn0:i ≠ h.length:=by omega
     rw [PBi] at hi
     rw [qm rfl (show T.get 78 = some c78 by kernel_rfl)]
     simp only [c78,sT.1,sC.1,qf,qe,Nat.testBit,simprocAttr,-Int.reduceNatCast',qbi hw hn,a0,w,qP hw n0,a1,qi hw n1,a2,y3,hi,hlt,hne,hn0,PBi,qbB,hb1,hb2,hb3,hb4,qu,qb,qY.enc,qa1.enc,qF.enc,qa5.enc,qX.enc,qas.enc,qbw.enc,qF.zero,Nd.enc,Nd.cs,Exp.enc,Exp.cs,List.cons_append,List.nil_append,qt,qj,qv,qN,qA,qC,qw,qo]
    ·obtain ⟨u3,n3,l3,y3⟩:=p3
     have k3:=l3.lower
     obtain ⟨o4,p4⟩:=qki hw hx n3
     rcases o4 with ⟨pos,err⟩ | ⟨v4,m4⟩
     ·obtain ⟨q4,m4,x4,y4⟩:=p4
      refine ⟨.error (pos,err),⟨m4,x4,fun h i hi=>?_⟩,q4⟩
      have hlt:=qd hi
      have hb1:=qr h 1
      have hb2:=qr h 2
      have hb3:=qr h 3
      have hb4:=qr h 4
      have hne:i ≠ h.length + 1:=by omega
      have hn0:i ≠ h.length:=by omega
      rw [PBi] at hi
      rw [qm rfl (show T.get 78 = some c78 by kernel_rfl)]
      simp only [c78,sT.1,sC.1,qf,qe,Nat.testBit,simprocAttr,-Int.reduceNatCast',qbi hw hn,a0,w,qP hw n0,a1,qi hw n1,a2,y3,k3,y4,hi,hlt,hne,hn0,PBi,qbB,hb1,hb2,hb3,hb4,qu,qb,qY.enc,qa1.enc,qF.enc,qa5.enc,qX.enc,qas.enc,qbw.enc,qF.zero,Nd.enc,Nd.cs,Exp.enc,Exp.cs,List.cons_append,List.nil_append,qt,qj,qv,qN,qA,qC,qw,qo]
     ·obtain ⟨u4,n4,l4,y4⟩:=p4
      have k4:=l4.lower
      obtain ⟨o5,p5⟩:=qoQ hw hx (nm:=(word ws (n + 1)).s) (c:=true) (ins:=.lst v3 (fl v3.isEmpty)) (outs:=.lst v4 (fl v4.isEmpty)) n4
      rcases o5 with ⟨pos,err⟩ | ⟨D,m5⟩
      ·obtain ⟨q5,m5,x5,y5⟩:=p5
       obtain ⟨X,y5⟩:=qml y5
       rw [qbB] at y5
       refine ⟨.error (pos,err),⟨m5,x5,fun h i hi=>?_⟩,q5⟩
       have hlt:=qd hi
       have hb1:=qr h 1
       have hb2:=qr h 2
       have hb3:=qr h 3
       have hb4:=qr h 4
       have hne:i ≠ h.length + 1:=by omega
       have hn0:i ≠ h.length:=by omega
       rw [PBi] at hi
       rw [qm rfl (show T.get 78 = some c78 by kernel_rfl)]
       simp only [c78,sT.1,sC.1,qf,qe,Nat.testBit,simprocAttr,-Int.reduceNatCast',qbi hw hn,a0,w,qP hw n0,a1,qi hw n1,a2,y3,k3,y4,k4,y5,hi,hlt,hne,hn0,PBi,qbB,hb1,hb2,hb3,hb4,qu,qb,qY.enc,qa1.enc,qF.enc,qa5.enc,qX.enc,qas.enc,qbw.enc,qF.zero,Nd.enc,Nd.cs,Exp.enc,Exp.cs,List.cons_append,List.nil_append,qt,qj,qv,qN,qA,qC,qw,qo]
      ·obtain ⟨u5,n5,q5,y5⟩:=p5
       obtain ⟨ps,ls,rs,rfl,r1,r2,r3⟩:=q5
       have z1:=r1.lower
       have z2:=r2.lower
       have z3:=r3.lower
       rw [qbB] at y5
       cases a6:isW ws (m5) [125] with
       | false=>
        refine ⟨.error ((word ws (m5)).pos,6),⟨m5,n5,fun h i hi=>?_⟩,⟨⟨m5,n5,rfl⟩,by decide⟩⟩
        have hlt:=qd hi
        have hb1:=qr h 1
        have hb2:=qr h 2
        have hb3:=qr h 3
        have hb4:=qr h 4
        have hne:i ≠ h.length + 1:=by omega
        have hn0:i ≠ h.length:=by omega
        rw [PBi] at hi
        rw [qm rfl (show T.get 78 = some c78 by kernel_rfl)]
        simp only [c78,sT.1,sC.1,qf,qe,Nat.testBit,simprocAttr,-Int.reduceNatCast',qbi hw hn,a0,w,qP hw n0,a1,qi hw n1,a2,y3,k3,y4,k4,y5,z1,z2,z3,qah hw n5,a6,hi,hlt,hne,hn0,PBi,qbB,hb1,hb2,hb3,hb4,qu,qb,qY.enc,qa1.enc,qF.enc,qa5.enc,qX.enc,qas.enc,qbw.enc,qF.zero,Nd.enc,Nd.cs,Exp.enc,Exp.cs,List.cons_append,List.nil_append,qt,qj,qv,qN,qA,qC,qw,qo]
       | true=>
        have n6:=qh hw n5 a6
        refine ⟨.ok (.agg _,m5 + 1),⟨by omega,n6,fun h i hi=>?_⟩,⟨(word ws (n + 1)).s,v3,v4,_,rfl,qW a1,l3,l4,.inl ⟨ps,ls,rs,rfl,r1,r2,r3⟩⟩⟩
        have hlt:=qd hi
        have hb1:=qr h 1
        have hb2:=qr h 2
        have hb3:=qr h 3
        have hb4:=qr h 4
        have hne:i ≠ h.length + 1:=by omega
        have hn0:i ≠ h.length:=by omega
        rw [PBi] at hi
        rw [qm rfl (show T.get 78 = some c78 by kernel_rfl)]
        simp only [c78,sT.1,sC.1,qf,qe,Nat.testBit,simprocAttr,-Int.reduceNatCast',qbi hw hn,a0,w,qP hw n0,a1,qi hw n1,a2,y3,k3,y4,k4,y5,z1,z2,z3,qi hw n5,a6,hi,hlt,hne,hn0,PBi,qbB,hb1,hb2,hb3,hb4,qu,qb,qY.enc,qa1.enc,qF.enc,qa5.enc,qX.enc,qas.enc,qbw.enc,qF.zero,Nd.enc,Nd.cs,Exp.enc,Exp.cs,List.cons_append,List.nil_append,qt,qj,qv,qN,qA,qC,qw,qo]
 | false=>
  have n0:n + 1 < ws.length:=by
   rw [qbu,a0,Bool.or_false] at hb
   exact qh hw hn hb
  cases a1:qab ws (n + 1) with
  | false=>
   refine ⟨.error ((word ws (n + 1)).pos,6),⟨n + 1,n0,fun h i hi=>?_⟩,⟨⟨n + 1,n0,rfl⟩,by decide⟩⟩
   have hlt:=qd hi
   have hb1:=qr h 1
   have hb2:=qr h 2
   have hb3:=qr h 3
   have hb4:=qr h 4
   have hne:i ≠ h.length + 1:=by omega
   have hn0:i ≠ h.length:=by omega
   rw [PBi] at hi
   rw [qm rfl (show T.get 78 = some c78 by kernel_rfl)]
   simp only [c78,sT.1,sC.1,qf,qe,Nat.testBit,simprocAttr,-Int.reduceNatCast',qbi hw hn,a0,w,qcy hw n0,a1,hi,hlt,hne,hn0,PBi,qbB,hb1,hb2,hb3,hb4,qu,qb,qY.enc,qa1.enc,qF.enc,qa5.enc,qX.enc,qas.enc,qbw.enc,qF.zero,Nd.enc,Nd.cs,Exp.enc,Exp.cs,List.cons_append,List.nil_append,qt,qj,qv,qN,qA,qC,qw,qo]
  | true=>
   have n1:=qM hw n0 a1
   cases a2:isW ws (n + 1 + 1) [123] with
   | false=>
    refine ⟨.error ((word ws (n + 1 + 1)).pos,6),⟨n + 1 + 1,n1,fun h i hi=>?_⟩,⟨⟨n + 1 + 1,n1,rfl⟩,by decide⟩⟩
    have hlt:=qd hi
    have hb1:=qr h 1
    have hb2:=qr h 2
    have hb3:=qr h 3
    have hb4:=qr h 4
    have hne:i ≠ h.length + 1:=by omega
    have hn0:i ≠ h.length:=by omega
    rw [PBi] at hi
    rw [qm rfl (show T.get 78 = some c78 by kernel_rfl)]
    simp only [c78,sT.1,sC.1,qf,qe,Nat.testBit,simprocAttr,-Int.reduceNatCast',qbi hw hn,a0,w,qP hw n0,a1,qah hw n1,a2,hi,hlt,hne,hn0,PBi,qbB,hb1,hb2,hb3,hb4,qu,qb,qY.enc,qa1.enc,qF.enc,qa5.enc,qX.enc,qas.enc,qbw.enc,qF.zero,Nd.enc,Nd.cs,Exp.enc,Exp.cs,List.cons_append,List.nil_append,qt,qj,qv,qN,qA,qC,qw,qo]
   | true=>
    have n2:=qh hw n1 a2
    obtain ⟨o3,p3⟩:=qmJ hw hx n2
    rcases o3 with ⟨pos,err⟩ | ⟨v3,m3⟩
    ·obtain ⟨q3,m3,x3,y3⟩:=p3
     refine ⟨.error (pos,err),⟨m3,x3,fun h i hi=>?_⟩,q3⟩
     have hlt:=qd hi
     have hb1:=qr h 1
     have hb2:=qr h 2
     have hb3:=qr h 3
     have hb4:=qr h 4
     have hne:i ≠ h.length + 1:=by omega
     have hn0:i ≠ h.length:=by omega
     rw [PBi] at hi
     rw [qm rfl (show T.get 78 = some c78 by kernel_rfl)]
     simp only [c78,sT.1,sC.1,qf,qe,Nat.testBit,simprocAttr,-Int.reduceNatCast',qbi hw hn,a0,w,qP hw n0,a1,qi hw n1,a2,y3,hi,hlt,hne,hn0,PBi,qbB,hb1,hb2,hb3,hb4,qu,qb,qY.enc,qa1.enc,qF.enc,qa5.enc,qX.enc,qas.enc,qbw.enc,qF.zero,Nd.enc,Nd.cs,Exp.enc,Exp.cs,List.cons_append,List.nil_append,qt,qj,qv,qN,qA,qC,qw,qo]
    ·obtain ⟨u3,n3,l3,y3⟩:=p3
     have k3:=l3.lower
     obtain ⟨o4,p4⟩:=qki hw hx n3
     rcases o4 with ⟨pos,err⟩ | ⟨v4,m4⟩
     ·obtain ⟨q4,m4,x4,y4⟩:=p4
      refine ⟨.error (pos,err),⟨m4,x4,fun h i hi=>?_⟩,q4⟩
      have hlt:=qd hi
      have hb1:=qr h 1
      have hb2:=qr h 2
      have hb3:=qr h 3
      have hb4:=qr h 4
      have hne:i ≠ h.length + 1:=by omega
      have hn0:i ≠ h.length:=by omega
      rw [PBi] at hi
      rw [qm rfl (show T.get 78 = some c78 by kernel_rfl)]
      simp only [c78,sT.1,sC.1,qf,qe,Nat.testBit,simprocAttr,-Int.reduceNatCast',qbi hw hn,a0,w,qP hw n0,a1,qi hw n1,a2,y3,k3,y4,hi,hlt,hne,hn0,PBi,qbB,hb1,hb2,hb3,hb4,qu,qb,qY.enc,qa1.enc,qF.enc,qa5.enc,qX.enc,qas.enc,qbw.enc,qF.zero,Nd.enc,Nd.cs,Exp.enc,Exp.cs,List.cons_append,List.nil_append,qt,qj,qv,qN,qA,qC,qw,qo]
     ·obtain ⟨u4,n4,l4,y4⟩:=p4
      have k4:=l4.lower
      obtain ⟨o5,p5⟩:=qpt hw hx (nm:=(word ws (n + 1)).s) (c:=false) (ins:=.lst v3 (fl v3.isEmpty)) (outs:=.lst v4 (fl v4.isEmpty)) n4
      rcases o5 with ⟨pos,err⟩ | ⟨D,m5⟩
      ·obtain ⟨q5,m5,x5,y5⟩:=p5
       obtain ⟨X,y5⟩:=qml y5
       rw [qbB] at y5
       refine ⟨.error (pos,err),⟨m5,x5,fun h i hi=>?_⟩,q5⟩
       have hlt:=qd hi
       have hb1:=qr h 1
       have hb2:=qr h 2
       have hb3:=qr h 3
       have hb4:=qr h 4
       have hne:i ≠ h.length + 1:=by omega
       have hn0:i ≠ h.length:=by omega
       rw [PBi] at hi
       rw [qm rfl (show T.get 78 = some c78 by kernel_rfl)]
       simp only [c78,sT.1,sC.1,qf,qe,Nat.testBit,simprocAttr,-Int.reduceNatCast',qbi hw hn,a0,w,qP hw n0,a1,qi hw n1,a2,y3,k3,y4,k4,y5,hi,hlt,hne,hn0,PBi,qbB,hb1,hb2,hb3,hb4,qu,qb,qY.enc,qa1.enc,qF.enc,qa5.enc,qX.enc,qas.enc,qbw.enc,qF.zero,Nd.enc,Nd.cs,Exp.enc,Exp.cs,List.cons_append,List.nil_append,qt,qj,qv,qN,qA,qC,qw,qo]
      ·obtain ⟨u5,n5,q5,y5⟩:=p5
       obtain ⟨vars,ta,emits,qef,exts,con,own,rfl,r1,r0,r2,r3,r4,r5⟩:=q5
       have z1:=r1.lower
       have z2:=r2.lower
       have z3:=r3.lower
       have z4:=r4.lower
       have z5:∀n,qD n own = true:=by
        rcases r5 with ⟨_,r5⟩ | ⟨_,rfl⟩
        ·exact r5.lower
        ·intro n;rfl
       have z6:=(qdZ ta).2.2.1
       rw [qbB] at y5
       cases a6:isW ws (m5) [125] with
       | false=>
        refine ⟨.error ((word ws (m5)).pos,6),⟨m5,n5,fun h i hi=>?_⟩,⟨⟨m5,n5,rfl⟩,by decide⟩⟩
        have hlt:=qd hi
        have hb1:=qr h 1
        have hb2:=qr h 2
        have hb3:=qr h 3
        have hb4:=qr h 4
        have hne:i ≠ h.length + 1:=by omega
        have hn0:i ≠ h.length:=by omega
        rw [PBi] at hi
        rw [qm rfl (show T.get 78 = some c78 by kernel_rfl)]
        simp only [c78,sT.1,sC.1,qf,qe,Nat.testBit,simprocAttr,-Int.reduceNatCast',qbi hw hn,a0,w,qP hw n0,a1,qi hw n1,a2,y3,k3,y4,k4,y5,z1,z2,z3,z4,z5,z6,qah hw n5,a6,hi,hlt,hne,hn0,PBi,qbB,hb1,hb2,hb3,hb4,qu,qb,qY.enc,qa1.enc,qF.enc,qa5.enc,qX.enc,qas.enc,qbw.enc,qF.zero,Nd.enc,Nd.cs,Exp.enc,Exp.cs,List.cons_append,List.nil_append,qt,qj,qv,qN,qA,qC,qw,qo]
       | true=>
        have n6:=qh hw n5 a6
        refine ⟨.ok (.agg _,m5 + 1),⟨by omega,n6,fun h i hi=>?_⟩,⟨(word ws (n + 1)).s,v3,v4,_,rfl,qW a1,l3,l4,.inr ⟨vars,ta,emits,qef,exts,con,own,rfl,r1,r0,r2,r3,r4,r5⟩⟩⟩
        have hlt:=qd hi
        have hb1:=qr h 1
        have hb2:=qr h 2
        have hb3:=qr h 3
        have hb4:=qr h 4
        have hne:i ≠ h.length + 1:=by omega
        have hn0:i ≠ h.length:=by omega
        rw [PBi] at hi
        rw [qm rfl (show T.get 78 = some c78 by kernel_rfl)]
        simp only [c78,sT.1,sC.1,qf,qe,Nat.testBit,simprocAttr,-Int.reduceNatCast',qbi hw hn,a0,w,qP hw n0,a1,qi hw n1,a2,y3,k3,y4,k4,y5,z1,z2,z3,z4,z5,z6,qi hw n5,a6,hi,hlt,hne,hn0,PBi,qbB,hb1,hb2,hb3,hb4,qu,qb,qY.enc,qa1.enc,qF.enc,qa5.enc,qX.enc,qas.enc,qbw.enc,qF.zero,Nd.enc,Nd.cs,Exp.enc,Exp.cs,List.cons_append,List.nil_append,qt,qj,qv,qN,qA,qC,qw,qo]
theorem qcr (hw:WF ws) {n:Nat} {h:List qx} {i b:Nat} (hn:n < ws.length) (hb:h[b]? = some (.cells [.ptr i 0])) (hi:h[i]? = some (PB ws n)):Wd (.fn 74 [] [.ptr b 0]) [] h = some (.ret (.bool (qbu ws n)),h,false):=by
 rw [qm rfl (show T.get 74 = some c74 by kernel_rfl)]
 cases a1:isW ws n [97,116,111,109,105,99] <;> cases a2:isW ws n [99,111,117,112,108,101,100] <;> simp only [c74,sT.1,sC.1,qf,qe,Nat.testBit,simprocAttr,-Int.reduceNatCast',hb,qbi hw hn hi,a1,a2,qbu]
def qFV (ws:List Tok) (n:Nat):Except (Int×Int) (List qc×Nat)→Prop
 | .ok (vs,n')=>n ≤ n'∧n' < ws.length∧qb2 14 24 qf6 vs∧(qbu ws n = true→vs ≠ [])∧∀(h:List qx) (i b:Nat),h[b]? = some (.cells [.ptr i 0])→i ≠ b→h[i]? = some (PB ws n)→Wd (.fn 77 [] []) [.ptr i 0,.int .i64 24,.fn 74 [] [.ptr b 0],.fn 78 [.ptr i 0] []] h = some (.ret (.lst vs (fl vs.isEmpty)),h.set i (PB ws n'),false)
 | .error (p,e)=>qlm ws p e∧∃n',n' < ws.length∧∀(h:List qx) (i b:Nat),h[b]? = some (.cells [.ptr i 0])→i ≠ b→h[i]? = some (PB ws n)→Wd (.fn 77 [] []) [.ptr i 0,.int .i64 24,.fn 74 [] [.ptr b 0],.fn 78 [.ptr i 0] []] h = some (.pan (qbo p e),h.set i (PB ws n'),false)
theorem qlT (hw:WF ws) (hx:∀m,m < ws.length→∃o,qai 66 ws m o∧XOK ws o) {n:Nat} (hn:n < ws.length):∃o,qFV ws n o:=by
 obtain ⟨o,ho⟩:=qi4 (ι:=Nat×Nat) (i:=fun c=>c.1) (k:=14) (most:=24) (F:=77) (z:=[.str [],.bool false,.lst [] .full,.lst [] .full,.lst [] .full,.lst [] .full,.lst [] .full,.lst [] .full,.lst [] .full,.int .i64 0,.lst [] .full,.lst [] .full,.lst [] .full,.lst [] .full])
  (fb:=74) (fa:=fun _=>[]) (fc:=fun c=>[.ptr c.2 0]) (oa:=78) (ob:=fun c=>[.ptr c.1 0]) (oc:=fun _=>[]) (beg:=qbu ws) (J:=fun c h=>h[c.2]? = some (.cells [.ptr c.1 0])∧c.1 ≠ c.2) (Q:=qf6)
  hw rfl (by kernel_rfl) (by decide) rfl (by decide) (by decide) (fun c h m hj=>⟨by rw [List.getElem?_set_ne hj.2];exact hj.1,hj.2⟩) (fun m c h hm hj hi=>qcr hw hm hj.1 hi) (fun m hm hbg=>by
   obtain ⟨o,g1,g2⟩:=qub hw hx hm hbg
   rcases o with ⟨p,e⟩ | ⟨v,m'⟩
   ·obtain ⟨m',x1,x2⟩:=g1
    exact ⟨.error (p,e),g2,m',x1,fun c h _ hi=>by rw [qmD];exact x2 h c.1 hi⟩
   ·obtain ⟨x0,x1,x2⟩:=g1
    exact ⟨.ok (v,m'),x0,x1,g2,qrm g2,fun c h _ hi=>by rw [qmD];exact x2 h c.1 hi⟩) hn
 rcases o with ⟨p,e⟩ | ⟨vs,m⟩
 ·obtain ⟨g1,n',g2,g3⟩:=ho
  exact ⟨.error (p,e),g1,n',g2,fun h i b hb hne hi=>g3 (i,b) h ⟨hb,hne⟩ hi⟩
 ·obtain ⟨g1,g2,g3,g4,_,_,g7,g8⟩:=ho
  exact ⟨.ok (vs,m),g1,g2,⟨g3,g4⟩,g7,fun h i b hb hne hi=>g8 (i,b) h ⟨hb,hne⟩ hi⟩
def qg7 (v:qc):Prop:=∃(ms:List qc) (root:Str),v = .agg [.lst ms (fl ms.isEmpty),.str root]∧ms ≠ []∧qb2 14 24 qf6 ms∧qa2 root = true
set_option maxHeartbeats 4000000 in
theorem qnR (hw:WF ws) (hx:∀m,m < ws.length→∃o,qai 66 ws m o∧XOK ws o) {n:Nat} (hn:n < ws.length):∃o,qkJ 37 ws n o∧GOK ws qg7 o:=by
 cases a0:qbu ws n with
 | false=>
  refine ⟨.error ((word ws (n)).pos,6),⟨n,hn,fun h i hi=>?_⟩,⟨⟨n,hn,rfl⟩,by decide⟩⟩
  have hlt:=qd hi
  have hps:=qdc hi
  rw [PBi] at hps
  have hb1:=qr h 1
  have hb2:=qr h 2
  have hb3:=qr h 3
  have hb4:=qr h 4
  have hne:i ≠ h.length + 1:=by omega
  have hn0:i ≠ h.length:=by omega
  have hbg:∀l,Wd (.fn 74 [] [.ptr h.length 0]) [] (h ++ (.cells [.ptr i 0] :: l)) = some (.ret (.bool (qbu ws n)),h ++ (.cells [.ptr i 0] :: l),false):=fun l=>qcr hw hn (by rw [List.getElem?_append_right (Nat.le_refl _),Nat.sub_self];rfl) (by rw [List.getElem?_append_left hlt];exact hi)
  rw [PBi] at hi
  rw [qm rfl (show T.get 37 = some c37 by kernel_rfl)]
  simp only [c37,sT.1,sC.1,qf,qe,Nat.testBit,simprocAttr,-Int.reduceNatCast',hbg,a0,qaK hw hn,hi,hlt,hne,hn0,PBi,qbB,hb1,hb2,hb3,hb4,hps,qu,qb,qY.enc,qa1.enc,qF.enc,qa5.enc,qX.enc,qas.enc,qbw.enc,qF.zero,Nd.enc,Nd.cs,Exp.enc,Exp.cs,List.cons_append,List.nil_append,qt,qj,qv,qN,qA,qC,qw,qo]
 | true=>
  obtain ⟨o1,p1⟩:=qlT hw hx hn
  rcases o1 with ⟨pos,err⟩ | ⟨v1,m1⟩
  ·obtain ⟨q1,m1,x1,y1⟩:=p1
   refine ⟨.error (pos,err),⟨m1,x1,fun h i hi=>?_⟩,q1⟩
   have hlt:=qd hi
   have hb1:=qr h 1
   have hb2:=qr h 2
   have hb3:=qr h 3
   have hb4:=qr h 4
   have hne:i ≠ h.length + 1:=by omega
   have hn0:i ≠ h.length:=by omega
   have hbg:∀l,Wd (.fn 74 [] [.ptr h.length 0]) [] (h ++ (.cells [.ptr i 0] :: l)) = some (.ret (.bool (qbu ws n)),h ++ (.cells [.ptr i 0] :: l),false):=fun l=>qcr hw hn (by rw [List.getElem?_append_right (Nat.le_refl _),Nat.sub_self];rfl) (by rw [List.getElem?_append_left hlt];exact hi)
   rw [PBi] at hi
   rw [qm rfl (show T.get 37 = some c37 by kernel_rfl)]
   simp only [c37,sT.1,sC.1,qf,qe,Nat.testBit,simprocAttr,-Int.reduceNatCast',hbg,a0,y1,hi,hlt,hne,hn0,PBi,qbB,hb1,hb2,hb3,hb4,qu,qb,qY.enc,qa1.enc,qF.enc,qa5.enc,qX.enc,qas.enc,qbw.enc,qF.zero,Nd.enc,Nd.cs,Exp.enc,Exp.cs,List.cons_append,List.nil_append,qt,qj,qv,qN,qA,qC,qw,qo]
  ·obtain ⟨u1,n1,l1,e1,y1⟩:=p1
   have k1:=l1.lower
   cases a2:isW ws (m1) [114,111,111,116] with
   | false=>
    refine ⟨.error ((word ws (m1)).pos,6),⟨m1,n1,fun h i hi=>?_⟩,⟨⟨m1,n1,rfl⟩,by decide⟩⟩
    have hlt:=qd hi
    have hb1:=qr h 1
    have hb2:=qr h 2
    have hb3:=qr h 3
    have hb4:=qr h 4
    have hne:i ≠ h.length + 1:=by omega
    have hn0:i ≠ h.length:=by omega
    have hbg:∀l,Wd (.fn 74 [] [.ptr h.length 0]) [] (h ++ (.cells [.ptr i 0] :: l)) = some (.ret (.bool (qbu ws n)),h ++ (.cells [.ptr i 0] :: l),false):=fun l=>qcr hw hn (by rw [List.getElem?_append_right (Nat.le_refl _),Nat.sub_self];rfl) (by rw [List.getElem?_append_left hlt];exact hi)
    rw [PBi] at hi
    rw [qm rfl (show T.get 37 = some c37 by kernel_rfl)]
    simp only [c37,sT.1,sC.1,qf,qe,Nat.testBit,simprocAttr,-Int.reduceNatCast',hbg,a0,y1,k1,qah hw n1,a2,hi,hlt,hne,hn0,PBi,qbB,hb1,hb2,hb3,hb4,qu,qb,qY.enc,qa1.enc,qF.enc,qa5.enc,qX.enc,qas.enc,qbw.enc,qF.zero,Nd.enc,Nd.cs,Exp.enc,Exp.cs,List.cons_append,List.nil_append,qt,qj,qv,qN,qA,qC,qw,qo]
   | true=>
    have n2:=qh hw n1 a2
    cases a3:qab ws (m1 + 1) with
    | false=>
     refine ⟨.error ((word ws (m1 + 1)).pos,6),⟨m1 + 1,n2,fun h i hi=>?_⟩,⟨⟨m1 + 1,n2,rfl⟩,by decide⟩⟩
     have hlt:=qd hi
     have hb1:=qr h 1
     have hb2:=qr h 2
     have hb3:=qr h 3
     have hb4:=qr h 4
     have hne:i ≠ h.length + 1:=by omega
     have hn0:i ≠ h.length:=by omega
     have hbg:∀l,Wd (.fn 74 [] [.ptr h.length 0]) [] (h ++ (.cells [.ptr i 0] :: l)) = some (.ret (.bool (qbu ws n)),h ++ (.cells [.ptr i 0] :: l),false):=fun l=>qcr hw hn (by rw [List.getElem?_append_right (Nat.le_refl _),Nat.sub_self];rfl) (by rw [List.getElem?_append_left hlt];exact hi)
     rw [PBi] at hi
     rw [qm rfl (show T.get 37 = some c37 by kernel_rfl)]
     simp only [c37,sT.1,sC.1,qf,qe,Nat.testBit,simprocAttr,-Int.reduceNatCast',hbg,a0,y1,k1,qi hw n1,a2,qcy hw n2,a3,hi,hlt,hne,hn0,PBi,qbB,hb1,hb2,hb3,hb4,qu,qb,qY.enc,qa1.enc,qF.enc,qa5.enc,qX.enc,qas.enc,qbw.enc,qF.zero,Nd.enc,Nd.cs,Exp.enc,Exp.cs,List.cons_append,List.nil_append,qt,qj,qv,qN,qA,qC,qw,qo]
    | true=>
     have n3:=qM hw n2 a3
     cases a4:isW ws (m1 + 1 + 1) [59] with
     | false=>
      refine ⟨.error ((word ws (m1 + 1 + 1)).pos,6),⟨m1 + 1 + 1,n3,fun h i hi=>?_⟩,⟨⟨m1 + 1 + 1,n3,rfl⟩,by decide⟩⟩
      have hlt:=qd hi
      have hb1:=qr h 1
      have hb2:=qr h 2
      have hb3:=qr h 3
      have hb4:=qr h 4
      have hne:i ≠ h.length + 1:=by omega
      have hn0:i ≠ h.length:=by omega
      have hbg:∀l,Wd (.fn 74 [] [.ptr h.length 0]) [] (h ++ (.cells [.ptr i 0] :: l)) = some (.ret (.bool (qbu ws n)),h ++ (.cells [.ptr i 0] :: l),false):=fun l=>qcr hw hn (by rw [List.getElem?_append_right (Nat.le_refl _),Nat.sub_self];rfl) (by rw [List.getElem?_append_left hlt];exact hi)
      rw [PBi] at hi
      rw [qm rfl (show T.get 37 = some c37 by kernel_rfl)]
      simp only [c37,sT.1,sC.1,qf,qe,Nat.testBit,simprocAttr,-Int.reduceNatCast',hbg,a0,y1,k1,qi hw n1,a2,qP hw n2,a3,qah hw n3,a4,hi,hlt,hne,hn0,PBi,qbB,hb1,hb2,hb3,hb4,qu,qb,qY.enc,qa1.enc,qF.enc,qa5.enc,qX.enc,qas.enc,qbw.enc,qF.zero,Nd.enc,Nd.cs,Exp.enc,Exp.cs,List.cons_append,List.nil_append,qt,qj,qv,qN,qA,qC,qw,qo]
     | true=>
      have n4:=qh hw n3 a4
      by_cases a5:(word ws (m1 + 1 + 1 + 1)).kind = 4
      ·refine ⟨.ok (.agg [.lst v1 (fl v1.isEmpty),.str (word ws (m1 + 1)).s],m1 + 1 + 1 + 1),⟨by omega,n4,fun h i hi=>?_⟩,⟨v1,_,rfl,e1 a0,l1,qW a3⟩⟩
       have hlt:=qd hi
       have hb1:=qr h 1
       have hb2:=qr h 2
       have hb3:=qr h 3
       have hb4:=qr h 4
       have hne:i ≠ h.length + 1:=by omega
       have hn0:i ≠ h.length:=by omega
       have hbg:∀l,Wd (.fn 74 [] [.ptr h.length 0]) [] (h ++ (.cells [.ptr i 0] :: l)) = some (.ret (.bool (qbu ws n)),h ++ (.cells [.ptr i 0] :: l),false):=fun l=>qcr hw hn (by rw [List.getElem?_append_right (Nat.le_refl _),Nat.sub_self];rfl) (by rw [List.getElem?_append_left hlt];exact hi)
       rw [PBi] at hi
       rw [qm rfl (show T.get 37 = some c37 by kernel_rfl)]
       simp only [c37,sT.1,sC.1,qf,qe,Nat.testBit,simprocAttr,-Int.reduceNatCast',hbg,a0,y1,k1,qi hw n1,a2,qP hw n2,a3,qi hw n3,a4,qpj hw n4,a5,hi,hlt,hne,hn0,PBi,qbB,hb1,hb2,hb3,hb4,qu,qb,qY.enc,qa1.enc,qF.enc,qa5.enc,qX.enc,qas.enc,qbw.enc,qF.zero,Nd.enc,Nd.cs,Exp.enc,Exp.cs,List.cons_append,List.nil_append,qt,qj,qv,qN,qA,qC,qw,qo]
      ·refine ⟨.error ((word ws (m1 + 1 + 1 + 1)).pos,6),⟨m1 + 1 + 1 + 1,n4,fun h i hi=>?_⟩,⟨⟨m1 + 1 + 1 + 1,n4,rfl⟩,by decide⟩⟩
       have hlt:=qd hi
       have hb1:=qr h 1
       have hb2:=qr h 2
       have hb3:=qr h 3
       have hb4:=qr h 4
       have hne:i ≠ h.length + 1:=by omega
       have hn0:i ≠ h.length:=by omega
       have hbg:∀l,Wd (.fn 74 [] [.ptr h.length 0]) [] (h ++ (.cells [.ptr i 0] :: l)) = some (.ret (.bool (qbu ws n)),h ++ (.cells [.ptr i 0] :: l),false):=fun l=>qcr hw hn (by rw [List.getElem?_append_right (Nat.le_refl _),Nat.sub_self];rfl) (by rw [List.getElem?_append_left hlt];exact hi)
       rw [PBi] at hi
       rw [qm rfl (show T.get 37 = some c37 by kernel_rfl)]
       simp only [c37,sT.1,sC.1,qf,qe,Nat.testBit,simprocAttr,-Int.reduceNatCast',hbg,a0,y1,k1,qi hw n1,a2,qP hw n2,a3,qi hw n3,a4,qwJ hw n4,a5,hi,hlt,hne,hn0,PBi,qbB,hb1,hb2,hb3,hb4,qu,qb,qY.enc,qa1.enc,qF.enc,qa5.enc,qX.enc,qas.enc,qbw.enc,qF.zero,Nd.enc,Nd.cs,Exp.enc,Exp.cs,List.cons_append,List.nil_append,qt,qj,qv,qN,qA,qC,qw,qo]
end
section
variable {ws:List Tok} {n:Nat} {h:List qx}
theorem qzX:X 36 = some (qeW 4000 c36):=Eq.trans rfl rfl
theorem qrq (aS:List qc) (h:List qx):Wd (.fn 36 [] []) aS h = qfU c36.results h (gW h.length Wd c36.d c36.body ⟨aS.map qc.dim ++ List.replicate (c36.ntmps - aS.length) (.tup []),h,false⟩):=by
 rw [Wd,qrb qgC qzX,qqx (by kernel_rfl) (by kernel_rfl)]
 simp only [List.nil_append,List.append_nil]
def qhP:qc:=.agg [.lst [] .full,.str []]
theorem qte {s:Str} {p e:Int} (he:e ≠ 0) (hs:qrg s p e) (f:qc):Wd (.fn 36 [] []) [.str s,f] h = some (.ret (.tup [qhP,.int .i64 p,.int .i64 e]),h,false):=by
 obtain ⟨w,hw⟩:=hs (h ++ [.cells [.lst [] .full,.str []],.cells [.int .i64 0],.cells [.int .i64 0]])
 have he':(e == 0) = false:=by simpa using he
 have hb1:=qr h 1
 rw [qrq]
 simp only [c36,qgZ,sT.1,sC.1,qf,qe,Nat.testBit,simprocAttr,-Int.reduceNatCast',qeO,qeJ,hw,hb1,he']
 rfl
theorem qxD {s:Str} (hs:qjK s ws) {ms:List qc} {rt:Str} (hm:∀n,qD n ms = true) (hr:∀(h:List qx) (i:Nat),h[i]? = some (PB ws 0)→Wd (.fn 37 [] []) [.ptr i 0] h = some (.ret (.agg [.lst ms (fl ms.isEmpty),.str rt]),h.set i (PB ws n),false)):Wd (.fn 36 [] []) [.str s,.fn 37 [] []] h = some (.ret (.tup [.agg [.lst ms (fl ms.isEmpty),.str rt],.int .i64 0,.int .i64 0]),h,false):=by
 have hw:=hs (h ++ [.cells [.lst [] .full,.str []],.cells [.int .i64 0],.cells [.int .i64 0]])
 have hb1:=qr h 1
 have hb2:Nat.ble h.length (h.length + 1 + 1) = true:=qao (by omega)
 have hp:=hr (h ++ [.cells [.lst [] .full,.str []],.cells [.int .i64 0],.cells [.int .i64 0],PB ws 0]) (h.length + 3) (by rw [List.getElem?_append_right (by omega)];simp)
 have z0:((0:Nat):Int) = 0:=Eq.trans rfl rfl
 rw [PBi,PBi,z0] at hp
 rw [qrq]
 simp only [c36,qgZ,qko,qj7,qgP,qgS,qgO,dW,qfQ,qfL,qfE,qmn,qgN,qgH,qu,sT.1,sC.1,qf,qe,Nat.testBit,simprocAttr,-Int.reduceNatCast',qeO,qeJ,qgM,hw,hp,hb1,hb2,qt,qj,hm]
theorem qpv {s:Str} (hs:qjK s ws) {p err:Int} (hr:∀(h:List qx) (i:Nat),h[i]? = some (PB ws 0)→Wd (.fn 37 [] []) [.ptr i 0] h = some (.pan (qbo p err),h.set i (PB ws n),false)):Wd (.fn 36 [] []) [.str s,.fn 37 [] []] h = some (.ret (.tup [qhP,.int .i64 p,.int .i64 err]),h,false):=by
 have hw:=hs (h ++ [.cells [.lst [] .full,.str []],.cells [.int .i64 0],.cells [.int .i64 0]])
 have hb1:=qr h 1
 have hb2:Nat.ble h.length (h.length + 1 + 1) = true:=qao (by omega)
 have hp:=hr (h ++ [.cells [.lst [] .full,.str []],.cells [.int .i64 0],.cells [.int .i64 0],PB ws 0]) (h.length + 3) (by rw [List.getElem?_append_right (by omega)];simp)
 have z0:((0:Nat):Int) = 0:=Eq.trans rfl rfl
 rw [PBi,PBi,z0,qbo,qmj] at hp
 rw [qrq]
 simp only [c36,qgZ,qko,qj7,qgP,qgS,qgO,dW,qfQ,qfL,qfE,qmn,qgN,qgH,qu,sT.1,sC.1,qf,qe,Nat.testBit,simprocAttr,-Int.reduceNatCast',qeO,qeJ,qgM,hw,hp,hb1,hb2,qt,qj]
 rfl
theorem qqC {s:Str} {ms:List qc} {rt:Str} {p err:Int} (hm:∀n,qD n ms = true) (hr:∀h,Wd (.fn 36 [] []) [.str s,.fn 37 [] []] h = some (.ret (.tup [.agg [.lst ms (fl ms.isEmpty),.str rt],.int .i64 p,.int .i64 err]),h,false)):Wd (.fn 14 [] []) [.str s] h = some (.ret (.tup [.agg [.lst ms (fl ms.isEmpty),.str rt],.int .i64 p,.int .i64 err]),h,false):=by
 have hb1:=qr h 1
 rw [qm rfl (show T.get 14 = some c14 by kernel_rfl)]
 simp only [c14,sT.1,sC.1,qf,qe,Nat.testBit,simprocAttr,-Int.reduceNatCast',hr,qt,qj,hm]
end
section
variable {ws:List Tok}
theorem qh3 {n:Nat} {s:Str} (hw:WF ws) (hn:n < ws.length) (h:isW ws n s = true) (hs:qa2 s = false) (ho:∀t ∈ ([[40],[45],[105,102],[110,111,116],[116,114,117,101],[102,97,108,115,101],[101,108,97,112,115,101,100],[99,111,117,110,116],[104,97,115],[115,117,109],[108,101,97,115,116]]:List Str),s ≠ t) :
  qai 66 ws n (.no (word ws n).pos 6 n):=by
 have e:∀t,t ∈ ([[40],[45],[105,102],[110,111,116],[116,114,117,101],[102,97,108,115,101],[101,108,97,112,115,101,100],[99,111,117,110,116],[104,97,115],[115,117,109],[108,101,97,115,116]]:List Str)→isW ws n t = false:=fun t ht=>qp h (ho t ht)
 have h':=h
 simp only [isW,Bool.and_eq_true,Bool.or_eq_true,beq_iff_eq] at h'
 obtain ⟨hk,hss⟩:=h'
 have k1:¬ (word ws n).kind = 1:=by omega
 have k2:¬ (word ws n).kind = 2:=by omega
 have nm:qab ws n = false:=by simp [qab,hss,hs]
 refine qjB hw hn (e _ (by simp)) (qz3 hw hn (qwu hw hn (qmk hw hn (e _ (by simp)) (ql6 hw hn (qwO hw hn (qrd hw hn (qiy hw hn (e _ (by simp)) (qsL hw hn (qan hw hn k1 k2 nm (e _ (by simp)) ?_)))))))))
 exact qh7 hw hn (e _ (by simp)) (e _ (by simp)) (e _ (by simp)) (e _ (by simp)) (e _ (by simp)) (e _ (by simp)) (e _ (by simp))
theorem qqB {n:Nat} (hw:WF ws) (hn:n < ws.length) (hb:qbu ws n = true):qai 66 ws n (.no (word ws n).pos 6 n):=by
 simp only [qbu,Bool.or_eq_true] at hb
 rcases hb with hb | hb
 ·exact qh3 hw hn hb (by kernel_rfl) (by decide)
 ·exact qh3 hw hn hb (by kernel_rfl) (by decide)
end
def qff (k:Nat) (z:List qc):qV:=
 (.seq (.reg [ao 10 (.bin .lss (.t 9) (.t 8))]) (.seq (.cond (.t 10) (.skip) (.exit 0)) (.seq (.block 1 (.seq (.reg [ao 11 (.ixaL k (.t 7) (.t 9)),ao 12 (.ld (some k) (.t 11)),ao 6 (.new z),an (.st (some k) (.t 6) (.t 12))])
 (.seq (.reg [ao 13 (.mov (.t 1)),ao 14 (.ld (some k) (.t 6)),ao 15 (.call (.t 13) [(.t 14)]),ao 16 (.un .not (.t 15))]) (.cond (.t 16) (.seq (.reg [ao 4 (.asg (.c (.bool false)))]) (.ret)) (.skip)))))
 (.reg [ao 17 (.bin .add (.t 9) (.c (.int .i64 1))),ao 9 (.mov (.t 17))]))))
def qCF (k:Nat) (z:List qc):qG:=⟨18,[.tmp 4],(.seq (.reg [ao 4 (.asg (.c (.bool false)))]) (.seq (.seq (.reg [ao 7 (.mov (.t 0)),ao 8 (.len false (.t 7)),ao 9 (.mov (.c (.int .i64 0)))]) (.block 0 (.loop (qff k z)))) (.seq (.reg [ao 4 (.asg (.c (.bool true)))]) (.ret))))⟩
section
variable {k:Nat} {z vs:List qc} {g F:FuncId} {e:Bool}
theorem qsM (hz:z.length = k) (hzd:z.map qc.dim = z) (hs:∀v ∈ vs,Shp k v) (hl:vs.length ≤ 100000) (hg:∀v ∈ vs,∀h,Wd (.fn g [] []) [v] h = some (.ret (.bool true),h,false)) (b:Nat) :
  ∀d i (H:List qx) tt,vs.length - i = d→i ≤ vs.length→tt.length = 18→lkp tt 1 = .fn g [] []→lkp tt 7 = .lst vs (fl e)→lkp tt 8 = .int .i64 (vs.length:Nat)→lkp tt 9 = .int .i64 (i:Nat)→b ≤ H.length→
   ∃tt' l,qH b Wd (.loop (qff k z)) ⟨tt,H,false⟩ = some (.exit 0,⟨tt',H ++ l,false⟩)∧tt'.length = 18:=by
 intro d
 induction d with
 | zero=>
  intro i H tt h1 h2 ht e1 e7 e8 e9 hb
  have c1:ilt (i:Int) (vs.length:Int) = false:=by rw [qaw];simp;omega
  generalize he:qH b Wd _ _ = R
  rw [qn] at he
  simp only [qff,sT.1,sC.1,sTA.1,sCA.1,qf,qbe,qbf,Src.isTmp,qay,Src.hangs,qz.isT,qbc,qe,Nat.testBit,bne,simprocAttr,-Int.reduceNatCast',ht,e1,e7,e8,e9,c1,qt,qj] at he
  subst he
  exact ⟨_,[],by rw [List.append_nil],by simp only [qK,ht]⟩
 | succ d ih=>
  intro i H tt h1 h2 ht e1 e7 e8 e9 hb
  have hi:i < vs.length:=by omega
  have c1:ilt (i:Int) (vs.length:Int) = true:=by rw [qaw];simp;omega
  have hv:=hs vs[i] (List.getElem_mem hi)
  have hq:=hg vs[i] (List.getElem_mem hi)
  obtain ⟨cs,ec,s1,s2,s3,s4⟩:=hv
  rw [ec] at hq
  have hx:qhM k (.lst vs (fl e)) (.int .i64 (i:Nat)) = some (.iptr cs 0):=by
   have:=qcP (k:=k) (f:=fl e) (j:=.i64) (show vs[i]? = some (qc.agg cs) by rw [List.getElem?_eq_getElem hi,ec]) (by simpa [qc.cells] using s1)
   simpa [qc.cells] using this
  have hd:z.drop k = []:=List.drop_eq_nil_of_le (by omega)
  have hc:Go.AE.cut cs 0 (some k) = some (.agg cs):=by
   rw [qdS (by omega),List.drop_zero,List.take_of_length_le (by omega),s4]
  have hbl:Nat.ble b H.length = true:=qao hb
  have w:=qap (n:=i) (by omega)
  obtain ⟨tt1,x1,x2,x3,x4,x5,x6⟩ :∃tt',qH b Wd (qff k z) ⟨tt,H,false⟩ = some (.nor,⟨tt',H ++ [.cells cs],false⟩)∧tt'.length = 18∧lkp tt' 1 = .fn g [] []∧lkp tt' 7 = .lst vs (fl e)∧lkp tt' 8 = .int .i64 (vs.length:Nat)∧lkp tt' 9 = .int .i64 ((i + 1:Nat):Int):=by
   generalize he:qH b Wd (qff k z) _ = R
   simp only [qff,sT.1,sC.1,sTA.1,sCA.1,qf,qbe,qbf,Src.isTmp,qay,Src.hangs,qz.isT,qbc,qe,Nat.testBit,bne,simprocAttr,-Int.reduceNatCast',ht,e1,e7,e8,e9,c1,qt,qj,hx,hzd,hc,s1,s2,s3,s4,hd,hz,hbl,hq,w] at he
   subst he
   refine ⟨_,rfl,by simp only [qK,ht],?_,?_,?_,?_⟩ <;> simp only [sT.1,sC.1,sTA.1,sCA.1,qf,qbe,qbf,Src.isTmp,qay,Src.hangs,qz.isT,qbc,qe,Nat.testBit,bne,simprocAttr,-Int.reduceNatCast',ht,e1,e7,e8,qt] <;> rfl
  obtain ⟨tt2,l,y1,y2⟩:=ih (i + 1) (H ++ [.cells cs]) tt1 (by omega) (by omega) x2 x3 x4 x5 x6 (by simp;omega)
  refine ⟨tt2,[.cells cs] ++ l,?_,y2⟩
  rw [qn,x1,qdN,y1,List.append_assoc]
theorem qmH (hX:X F = none) (hF:T.get F = some (qCF k z)) (hz:z.length = k) (hzd:z.map qc.dim = z) (hs:∀v ∈ vs,Shp k v) (hl:vs.length ≤ 100000) (hg:∀v ∈ vs,∀h,Wd (.fn g [] []) [v] h = some (.ret (.bool true),h,false)) (h:List qx) :
  Wd (.fn F [] []) [.lst vs (fl e),.fn g [] []] h = some (.ret (.bool true),h,false):=by
 generalize hw:Wd _ _ h = w
 rw [qm hX hF] at hw
 simp only [qCF,sT.1,sC.1,sTA.1,sCA.1,qf,qbe,qbf,Src.isTmp,qay,Src.hangs,qz.isT,qbc,qe,Nat.testBit,bne,simprocAttr,-Int.reduceNatCast',qt,qj] at hw
 generalize hr:qH h.length Wd (.loop (qff k z)) _ = r at hw
 obtain ⟨tt',l,q,q2⟩ :∃tt' l,r = some (.exit 0,⟨tt',h ++ l,false⟩)∧tt'.length = 18:=by
  rw [←hr]
  refine qsM (e:=e) hz hzd hs hl hg h.length _ 0 h _ rfl (by omega) ?_ ?_ ?_ ?_ ?_ (Nat.le_refl _) <;> simp only [sT.1,sC.1,qf,qe,Nat.testBit,simprocAttr,-Int.reduceNatCast',qt] <;> rfl
 subst q
 simp only [sT.1,sC.1,sTA.1,sCA.1,qf,qbe,qbf,Src.isTmp,qay,Src.hangs,qz.isT,qbc,qe,Nat.testBit,bne,simprocAttr,-Int.reduceNatCast',q2] at hw
 exact hw.symm
end
section
variable {h:List qx}
set_option maxHeartbeats 0 in
theorem qak {op n:Int} {nm sub:Str} {args:List qc} {f:Bool} {nb mb sb:Bool} {lo hi:Int} (hN:nb = true∨n = 0) (hM:mb = true∨nm = []) (hS:sb = true∨sub = []) (h1:lo ≤ (args.length:Int)) (h2:(args.length:Int) ≤ hi) :
  Wd (.fn 163 [] []) [.agg [.int .i64 op,.int .i64 n,.str nm,.str sub,.lst args (fl f)],.bool nb,.bool mb,.bool sb,.int .i64 lo,.int .i64 hi] h = some (.ret (.bool true),h,false):=by
 have c1:=qct h1
 have c2:=qct h2
 have a1:nb = true∨(nb = false∧n = 0):=by cases nb <;> simp_all
 have a2:mb = true∨(mb = false∧nm = []):=by cases mb <;> simp_all
 have a3:sb = true∨(sb = false∧sub = []):=by cases sb <;> simp_all
 rw [qm rfl (show T.get 163 = some qB8 by kernel_rfl)]
 rcases a1 with rfl | ⟨rfl,rfl⟩ <;> rcases a2 with rfl | ⟨rfl,rfl⟩ <;> rcases a3 with rfl | ⟨rfl,rfl⟩ <;> simp only [qB8,sT.1,sC.1,qf,qe,Nat.testBit,simprocAttr,-Int.reduceNatCast',c1,c2,qt,qj]
theorem qzV {n:Int} (h0:0 ≤ n) {args:List qc} {f:Bool} (h8:0 ≤ (args.length:Int)) (h9:(args.length:Int) ≤ 0):Wd (.fn 98 [] []) [.agg [.int .i64 0,.int .i64 n,.str [],.str [],.lst args (fl f)]] h = some (.ret (.bool true),h,false):=by
 have hf:=fun (h:List qx)=>qak (h:=h) (op:=0) (n:=n) (nm:=[]) (sub:=[]) (args:=args) (f:=f) (nb:=true) (mb:=false) (sb:=false) (.inl rfl) (.inr rfl) (.inr rfl) h8 h9
 rw [qm rfl (show T.get 98 = some c98 by kernel_rfl)]
 simp only [c98,sT.1,sC.1,qf,qe,Nat.testBit,simprocAttr,-Int.reduceNatCast',hf,qct h0,qt,qj]
theorem qAM {args:List qc} {f:Bool} (h8:0 ≤ (args.length:Int)) (h9:(args.length:Int) ≤ 0):Wd (.fn 98 [] []) [.agg [.int .i64 1,.int .i64 0,.str [],.str [],.lst args (fl f)]] h = some (.ret (.bool true),h,false):=by
 have hf:=fun (h:List qx)=>qak (h:=h) (op:=1) (n:=0) (nm:=[]) (sub:=[]) (args:=args) (f:=f) (nb:=false) (mb:=false) (sb:=false) (.inr rfl) (.inr rfl) (.inr rfl) h8 h9
 rw [qm rfl (show T.get 98 = some c98 by kernel_rfl)]
 simp only [c98,sT.1,sC.1,qf,qe,Nat.testBit,simprocAttr,-Int.reduceNatCast',hf,qt,qj]
theorem qA4 {args:List qc} {f:Bool} (h8:0 ≤ (args.length:Int)) (h9:(args.length:Int) ≤ 0):Wd (.fn 98 [] []) [.agg [.int .i64 2,.int .i64 0,.str [],.str [],.lst args (fl f)]] h = some (.ret (.bool true),h,false):=by
 have hf:=fun (h:List qx)=>qak (h:=h) (op:=2) (n:=0) (nm:=[]) (sub:=[]) (args:=args) (f:=f) (nb:=false) (mb:=false) (sb:=false) (.inr rfl) (.inr rfl) (.inr rfl) h8 h9
 rw [qm rfl (show T.get 98 = some c98 by kernel_rfl)]
 simp only [c98,sT.1,sC.1,qf,qe,Nat.testBit,simprocAttr,-Int.reduceNatCast',hf,qt,qj]
theorem qzH {nm:Str} (h0:qfW nm = true) {args:List qc} {f:Bool} (h8:0 ≤ (args.length:Int)) (h9:(args.length:Int) ≤ 0):Wd (.fn 98 [] []) [.agg [.int .i64 3,.int .i64 0,.str nm,.str [],.lst args (fl f)]] h = some (.ret (.bool true),h,false):=by
 have hf:=fun (h:List qx)=>qak (h:=h) (op:=3) (n:=0) (nm:=nm) (sub:=[]) (args:=args) (f:=f) (nb:=false) (mb:=true) (sb:=false) (.inr rfl) (.inl rfl) (.inr rfl) h8 h9
 rw [qm rfl (show T.get 98 = some c98 by kernel_rfl)]
 simp only [c98,sT.1,sC.1,qf,qe,Nat.testBit,simprocAttr,-Int.reduceNatCast',hf,qmg,h0,qt,qj]
theorem qAp {nm:Str} (h0:qa2 nm = true) {args:List qc} {f:Bool} (h8:0 ≤ (args.length:Int)) (h9:(args.length:Int) ≤ 0):Wd (.fn 98 [] []) [.agg [.int .i64 4,.int .i64 0,.str nm,.str [],.lst args (fl f)]] h = some (.ret (.bool true),h,false):=by
 have hf:=fun (h:List qx)=>qak (h:=h) (op:=4) (n:=0) (nm:=nm) (sub:=[]) (args:=args) (f:=f) (nb:=false) (mb:=true) (sb:=false) (.inr rfl) (.inl rfl) (.inr rfl) h8 h9
 rw [qm rfl (show T.get 98 = some c98 by kernel_rfl)]
 simp only [c98,sT.1,sC.1,qf,qe,Nat.testBit,simprocAttr,-Int.reduceNatCast',hf,qaV,h0,qt,qj]
theorem qAr {nm sb:Str} (h0:qa2 nm = true) (h1:qa2 sb = true) {args:List qc} {f:Bool} (h8:0 ≤ (args.length:Int)) (h9:(args.length:Int) ≤ 0):Wd (.fn 98 [] []) [.agg [.int .i64 5,.int .i64 0,.str nm,.str sb,.lst args (fl f)]] h = some (.ret (.bool true),h,false):=by
 have hf:=fun (h:List qx)=>qak (h:=h) (op:=5) (n:=0) (nm:=nm) (sub:=sb) (args:=args) (f:=f) (nb:=false) (mb:=true) (sb:=true) (.inr rfl) (.inl rfl) (.inl rfl) h8 h9
 rw [qm rfl (show T.get 98 = some c98 by kernel_rfl)]
 simp only [c98,sT.1,sC.1,qf,qe,Nat.testBit,simprocAttr,-Int.reduceNatCast',hf,qaV,h0,h1,qt,qj]
theorem qzK {args:List qc} {f:Bool} (h8:1 ≤ (args.length:Int)) (h9:(args.length:Int) ≤ 4):Wd (.fn 98 [] []) [.agg [.int .i64 6,.int .i64 0,.str [],.str [],.lst args (fl f)]] h = some (.ret (.bool true),h,false):=by
 have hf:=fun (h:List qx)=>qak (h:=h) (op:=6) (n:=0) (nm:=[]) (sub:=[]) (args:=args) (f:=f) (nb:=false) (mb:=false) (sb:=false) (.inr rfl) (.inr rfl) (.inr rfl) h8 h9
 rw [qm rfl (show T.get 98 = some c98 by kernel_rfl)]
 simp only [c98,sT.1,sC.1,qf,qe,Nat.testBit,simprocAttr,-Int.reduceNatCast',hf,qt,qj]
theorem qz7 {nm:Str} (h0:qa2 nm = true) {args:List qc} {f:Bool} (h8:0 ≤ (args.length:Int)) (h9:(args.length:Int) ≤ 0):Wd (.fn 98 [] []) [.agg [.int .i64 7,.int .i64 0,.str nm,.str [],.lst args (fl f)]] h = some (.ret (.bool true),h,false):=by
 have hf:=fun (h:List qx)=>qak (h:=h) (op:=7) (n:=0) (nm:=nm) (sub:=[]) (args:=args) (f:=f) (nb:=false) (mb:=true) (sb:=false) (.inr rfl) (.inl rfl) (.inr rfl) h8 h9
 rw [qm rfl (show T.get 98 = some c98 by kernel_rfl)]
 simp only [c98,sT.1,sC.1,qf,qe,Nat.testBit,simprocAttr,-Int.reduceNatCast',hf,qaV,h0,qt,qj]
theorem qAc {nm:Str} (h0:qa2 nm = true) {args:List qc} {f:Bool} (h8:0 ≤ (args.length:Int)) (h9:(args.length:Int) ≤ 0):Wd (.fn 98 [] []) [.agg [.int .i64 8,.int .i64 0,.str nm,.str [],.lst args (fl f)]] h = some (.ret (.bool true),h,false):=by
 have hf:=fun (h:List qx)=>qak (h:=h) (op:=8) (n:=0) (nm:=nm) (sub:=[]) (args:=args) (f:=f) (nb:=false) (mb:=true) (sb:=false) (.inr rfl) (.inl rfl) (.inr rfl) h8 h9
 rw [qm rfl (show T.get 98 = some c98 by kernel_rfl)]
 simp only [c98,sT.1,sC.1,qf,qe,Nat.testBit,simprocAttr,-Int.reduceNatCast',hf,qaV,h0,qt,qj]
theorem qBM {nm:Str} (h0:qa2 nm = true) {args:List qc} {f:Bool} (h8:0 ≤ (args.length:Int)) (h9:(args.length:Int) ≤ 0):Wd (.fn 98 [] []) [.agg [.int .i64 9,.int .i64 0,.str nm,.str [],.lst args (fl f)]] h = some (.ret (.bool true),h,false):=by
 have hf:=fun (h:List qx)=>qak (h:=h) (op:=9) (n:=0) (nm:=nm) (sub:=[]) (args:=args) (f:=f) (nb:=false) (mb:=true) (sb:=false) (.inr rfl) (.inl rfl) (.inr rfl) h8 h9
 rw [qm rfl (show T.get 98 = some c98 by kernel_rfl)]
 simp only [c98,sT.1,sC.1,qf,qe,Nat.testBit,simprocAttr,-Int.reduceNatCast',hf,qaV,h0,qt,qj]
theorem qx5 {nm:Str} (h0:qa2 nm = true) {args:List qc} {f:Bool} (h8:1 ≤ (args.length:Int)) (h9:(args.length:Int) ≤ 1):Wd (.fn 98 [] []) [.agg [.int .i64 10,.int .i64 0,.str nm,.str [],.lst args (fl f)]] h = some (.ret (.bool true),h,false):=by
 have hf:=fun (h:List qx)=>qak (h:=h) (op:=10) (n:=0) (nm:=nm) (sub:=[]) (args:=args) (f:=f) (nb:=false) (mb:=true) (sb:=false) (.inr rfl) (.inl rfl) (.inr rfl) h8 h9
 rw [qm rfl (show T.get 98 = some c98 by kernel_rfl)]
 simp only [c98,sT.1,sC.1,qf,qe,Nat.testBit,simprocAttr,-Int.reduceNatCast',hf,qaV,h0,qt,qj]
theorem qxQ {args:List qc} {f:Bool} (h8:0 ≤ (args.length:Int)) (h9:(args.length:Int) ≤ 0):Wd (.fn 98 [] []) [.agg [.int .i64 11,.int .i64 0,.str [],.str [],.lst args (fl f)]] h = some (.ret (.bool true),h,false):=by
 have hf:=fun (h:List qx)=>qak (h:=h) (op:=11) (n:=0) (nm:=[]) (sub:=[]) (args:=args) (f:=f) (nb:=false) (mb:=false) (sb:=false) (.inr rfl) (.inr rfl) (.inr rfl) h8 h9
 rw [qm rfl (show T.get 98 = some c98 by kernel_rfl)]
 simp only [c98,sT.1,sC.1,qf,qe,Nat.testBit,simprocAttr,-Int.reduceNatCast',hf,qt,qj]
theorem qyA {n:Int} (h0:0 ≤ n) (h4:n < 4) {args:List qc} {f:Bool} (h8:1 ≤ (args.length:Int)) (h9:(args.length:Int) ≤ 1):Wd (.fn 98 [] []) [.agg [.int .i64 12,.int .i64 n,.str [],.str [],.lst args (fl f)]] h = some (.ret (.bool true),h,false):=by
 have hf:=fun (h:List qx)=>qak (h:=h) (op:=12) (n:=n) (nm:=[]) (sub:=[]) (args:=args) (f:=f) (nb:=true) (mb:=false) (sb:=false) (.inl rfl) (.inr rfl) (.inr rfl) h8 h9
 rw [qm rfl (show T.get 98 = some c98 by kernel_rfl)]
 simp only [c98,sT.1,sC.1,qf,qe,Nat.testBit,simprocAttr,-Int.reduceNatCast',hf,qct h0,qsX h4,qt,qj]
theorem qxS {args:List qc} {f:Bool} (h8:1 ≤ (args.length:Int)) (h9:(args.length:Int) ≤ 1):Wd (.fn 98 [] []) [.agg [.int .i64 13,.int .i64 0,.str [],.str [],.lst args (fl f)]] h = some (.ret (.bool true),h,false):=by
 have hf:=fun (h:List qx)=>qak (h:=h) (op:=13) (n:=0) (nm:=[]) (sub:=[]) (args:=args) (f:=f) (nb:=false) (mb:=false) (sb:=false) (.inr rfl) (.inr rfl) (.inr rfl) h8 h9
 rw [qm rfl (show T.get 98 = some c98 by kernel_rfl)]
 simp only [c98,sT.1,sC.1,qf,qe,Nat.testBit,simprocAttr,-Int.reduceNatCast',hf,qt,qj]
theorem qxd {args:List qc} {f:Bool} (h8:1 ≤ (args.length:Int)) (h9:(args.length:Int) ≤ 1):Wd (.fn 98 [] []) [.agg [.int .i64 14,.int .i64 0,.str [],.str [],.lst args (fl f)]] h = some (.ret (.bool true),h,false):=by
 have hf:=fun (h:List qx)=>qak (h:=h) (op:=14) (n:=0) (nm:=[]) (sub:=[]) (args:=args) (f:=f) (nb:=false) (mb:=false) (sb:=false) (.inr rfl) (.inr rfl) (.inr rfl) h8 h9
 rw [qm rfl (show T.get 98 = some c98 by kernel_rfl)]
 simp only [c98,sT.1,sC.1,qf,qe,Nat.testBit,simprocAttr,-Int.reduceNatCast',hf,qt,qj]
theorem qyu {args:List qc} {f:Bool} (h8:2 ≤ (args.length:Int)) (h9:(args.length:Int) ≤ 2):Wd (.fn 98 [] []) [.agg [.int .i64 15,.int .i64 0,.str [],.str [],.lst args (fl f)]] h = some (.ret (.bool true),h,false):=by
 have hf:=fun (h:List qx)=>qak (h:=h) (op:=15) (n:=0) (nm:=[]) (sub:=[]) (args:=args) (f:=f) (nb:=false) (mb:=false) (sb:=false) (.inr rfl) (.inr rfl) (.inr rfl) h8 h9
 rw [qm rfl (show T.get 98 = some c98 by kernel_rfl)]
 simp only [c98,sT.1,sC.1,qf,qe,Nat.testBit,simprocAttr,-Int.reduceNatCast',hf,qt,qj]
theorem qwS {args:List qc} {f:Bool} (h8:2 ≤ (args.length:Int)) (h9:(args.length:Int) ≤ 2):Wd (.fn 98 [] []) [.agg [.int .i64 16,.int .i64 0,.str [],.str [],.lst args (fl f)]] h = some (.ret (.bool true),h,false):=by
 have hf:=fun (h:List qx)=>qak (h:=h) (op:=16) (n:=0) (nm:=[]) (sub:=[]) (args:=args) (f:=f) (nb:=false) (mb:=false) (sb:=false) (.inr rfl) (.inr rfl) (.inr rfl) h8 h9
 rw [qm rfl (show T.get 98 = some c98 by kernel_rfl)]
 simp only [c98,sT.1,sC.1,qf,qe,Nat.testBit,simprocAttr,-Int.reduceNatCast',hf,qt,qj]
theorem qxq {args:List qc} {f:Bool} (h8:2 ≤ (args.length:Int)) (h9:(args.length:Int) ≤ 2):Wd (.fn 98 [] []) [.agg [.int .i64 17,.int .i64 0,.str [],.str [],.lst args (fl f)]] h = some (.ret (.bool true),h,false):=by
 have hf:=fun (h:List qx)=>qak (h:=h) (op:=17) (n:=0) (nm:=[]) (sub:=[]) (args:=args) (f:=f) (nb:=false) (mb:=false) (sb:=false) (.inr rfl) (.inr rfl) (.inr rfl) h8 h9
 rw [qm rfl (show T.get 98 = some c98 by kernel_rfl)]
 simp only [c98,sT.1,sC.1,qf,qe,Nat.testBit,simprocAttr,-Int.reduceNatCast',hf,qt,qj]
theorem qyV {args:List qc} {f:Bool} (h8:2 ≤ (args.length:Int)) (h9:(args.length:Int) ≤ 2):Wd (.fn 98 [] []) [.agg [.int .i64 18,.int .i64 0,.str [],.str [],.lst args (fl f)]] h = some (.ret (.bool true),h,false):=by
 have hf:=fun (h:List qx)=>qak (h:=h) (op:=18) (n:=0) (nm:=[]) (sub:=[]) (args:=args) (f:=f) (nb:=false) (mb:=false) (sb:=false) (.inr rfl) (.inr rfl) (.inr rfl) h8 h9
 rw [qm rfl (show T.get 98 = some c98 by kernel_rfl)]
 simp only [c98,sT.1,sC.1,qf,qe,Nat.testBit,simprocAttr,-Int.reduceNatCast',hf,qt,qj]
theorem qwZ {args:List qc} {f:Bool} (h8:2 ≤ (args.length:Int)) (h9:(args.length:Int) ≤ 2):Wd (.fn 98 [] []) [.agg [.int .i64 19,.int .i64 0,.str [],.str [],.lst args (fl f)]] h = some (.ret (.bool true),h,false):=by
 have hf:=fun (h:List qx)=>qak (h:=h) (op:=19) (n:=0) (nm:=[]) (sub:=[]) (args:=args) (f:=f) (nb:=false) (mb:=false) (sb:=false) (.inr rfl) (.inr rfl) (.inr rfl) h8 h9
 rw [qm rfl (show T.get 98 = some c98 by kernel_rfl)]
 simp only [c98,sT.1,sC.1,qf,qe,Nat.testBit,simprocAttr,-Int.reduceNatCast',hf,qt,qj]
theorem qxh {args:List qc} {f:Bool} (h8:2 ≤ (args.length:Int)) (h9:(args.length:Int) ≤ 2):Wd (.fn 98 [] []) [.agg [.int .i64 20,.int .i64 0,.str [],.str [],.lst args (fl f)]] h = some (.ret (.bool true),h,false):=by
 have hf:=fun (h:List qx)=>qak (h:=h) (op:=20) (n:=0) (nm:=[]) (sub:=[]) (args:=args) (f:=f) (nb:=false) (mb:=false) (sb:=false) (.inr rfl) (.inr rfl) (.inr rfl) h8 h9
 rw [qm rfl (show T.get 98 = some c98 by kernel_rfl)]
 simp only [c98,sT.1,sC.1,qf,qe,Nat.testBit,simprocAttr,-Int.reduceNatCast',hf,qt,qj]
theorem qxx {args:List qc} {f:Bool} (h8:2 ≤ (args.length:Int)) (h9:(args.length:Int) ≤ 2):Wd (.fn 98 [] []) [.agg [.int .i64 21,.int .i64 0,.str [],.str [],.lst args (fl f)]] h = some (.ret (.bool true),h,false):=by
 have hf:=fun (h:List qx)=>qak (h:=h) (op:=21) (n:=0) (nm:=[]) (sub:=[]) (args:=args) (f:=f) (nb:=false) (mb:=false) (sb:=false) (.inr rfl) (.inr rfl) (.inr rfl) h8 h9
 rw [qm rfl (show T.get 98 = some c98 by kernel_rfl)]
 simp only [c98,sT.1,sC.1,qf,qe,Nat.testBit,simprocAttr,-Int.reduceNatCast',hf,qt,qj]
theorem qyG {args:List qc} {f:Bool} (h8:2 ≤ (args.length:Int)) (h9:(args.length:Int) ≤ 2):Wd (.fn 98 [] []) [.agg [.int .i64 22,.int .i64 0,.str [],.str [],.lst args (fl f)]] h = some (.ret (.bool true),h,false):=by
 have hf:=fun (h:List qx)=>qak (h:=h) (op:=22) (n:=0) (nm:=[]) (sub:=[]) (args:=args) (f:=f) (nb:=false) (mb:=false) (sb:=false) (.inr rfl) (.inr rfl) (.inr rfl) h8 h9
 rw [qm rfl (show T.get 98 = some c98 by kernel_rfl)]
 simp only [c98,sT.1,sC.1,qf,qe,Nat.testBit,simprocAttr,-Int.reduceNatCast',hf,qt,qj]
theorem qyS {args:List qc} {f:Bool} (h8:2 ≤ (args.length:Int)) (h9:(args.length:Int) ≤ 2):Wd (.fn 98 [] []) [.agg [.int .i64 23,.int .i64 0,.str [],.str [],.lst args (fl f)]] h = some (.ret (.bool true),h,false):=by
 have hf:=fun (h:List qx)=>qak (h:=h) (op:=23) (n:=0) (nm:=[]) (sub:=[]) (args:=args) (f:=f) (nb:=false) (mb:=false) (sb:=false) (.inr rfl) (.inr rfl) (.inr rfl) h8 h9
 rw [qm rfl (show T.get 98 = some c98 by kernel_rfl)]
 simp only [c98,sT.1,sC.1,qf,qe,Nat.testBit,simprocAttr,-Int.reduceNatCast',hf,qt,qj]
theorem qx6 {args:List qc} {f:Bool} (h8:2 ≤ (args.length:Int)) (h9:(args.length:Int) ≤ 2):Wd (.fn 98 [] []) [.agg [.int .i64 24,.int .i64 0,.str [],.str [],.lst args (fl f)]] h = some (.ret (.bool true),h,false):=by
 have hf:=fun (h:List qx)=>qak (h:=h) (op:=24) (n:=0) (nm:=[]) (sub:=[]) (args:=args) (f:=f) (nb:=false) (mb:=false) (sb:=false) (.inr rfl) (.inr rfl) (.inr rfl) h8 h9
 rw [qm rfl (show T.get 98 = some c98 by kernel_rfl)]
 simp only [c98,sT.1,sC.1,qf,qe,Nat.testBit,simprocAttr,-Int.reduceNatCast',hf,qt,qj]
theorem qxe {args:List qc} {f:Bool} (h8:3 ≤ (args.length:Int)) (h9:(args.length:Int) ≤ 3):Wd (.fn 98 [] []) [.agg [.int .i64 25,.int .i64 0,.str [],.str [],.lst args (fl f)]] h = some (.ret (.bool true),h,false):=by
 have hf:=fun (h:List qx)=>qak (h:=h) (op:=25) (n:=0) (nm:=[]) (sub:=[]) (args:=args) (f:=f) (nb:=false) (mb:=false) (sb:=false) (.inr rfl) (.inr rfl) (.inr rfl) h8 h9
 rw [qm rfl (show T.get 98 = some c98 by kernel_rfl)]
 simp only [c98,sT.1,sC.1,qf,qe,Nat.testBit,simprocAttr,-Int.reduceNatCast',hf,qt,qj]
theorem qyp {op n:Int} {nm sub:Str} {args:List qc} {f:Bool} (hp:qcb op n nm sub args.length = true):Wd (.fn 98 [] []) [.agg [.int .i64 op,.int .i64 n,.str nm,.str sub,.lst args (fl f)]] h = some (.ret (.bool true),h,false):=by
 have ofI:∀a b:Int,ile a b = true→a ≤ b:=fun a b h=>by rw [qea] at h;simpa using h
 have ofL:∀a b:Int,ilt a b = true→a < b:=fun a b h=>by rw [qaw] at h;simpa using h
 simp only [qcb,Bool.or_eq_true,Bool.and_eq_true,beq_iff_eq,Nat.ble_eq] at hp
 rcases hp with ((((((((((⟨⟨⟨⟨rfl,h0⟩,rfl⟩,rfl⟩,h8⟩ | ⟨⟨⟨⟨ho,rfl⟩,rfl⟩,rfl⟩,h8⟩) | ⟨⟨⟨⟨rfl,rfl⟩,h0⟩,rfl⟩,h8⟩) | ⟨⟨⟨⟨ho,rfl⟩,h0⟩,rfl⟩,h8⟩) | ⟨⟨⟨⟨rfl,rfl⟩,h0⟩,h1⟩,h8⟩) | ⟨⟨⟨⟨rfl,rfl⟩,rfl⟩,rfl⟩,h8,h9⟩) | ⟨⟨⟨⟨rfl,rfl⟩,h0⟩,rfl⟩,h8⟩) | ⟨⟨⟨⟨⟨rfl,h0⟩,h4⟩,rfl⟩,rfl⟩,h8⟩) | ⟨⟨⟨⟨ho,rfl⟩,rfl⟩,rfl⟩,h8⟩) | ⟨⟨⟨⟨rfl,rfl⟩,rfl⟩,rfl⟩,h8⟩) | ⟨⟨⟨⟨⟨h15,h24⟩,rfl⟩,rfl⟩,rfl⟩,h8⟩)
 ·exact qzV (ofI _ _ h0) (by omega) (by omega)
 ·rcases ho with (rfl | rfl) | rfl
  ·exact qAM (by omega) (by omega)
  ·exact qA4 (by omega) (by omega)
  ·exact qxQ (by omega) (by omega)
 ·exact qzH h0 (by omega) (by omega)
 ·rcases ho with ((rfl | rfl) | rfl) | rfl
  ·exact qAp h0 (by omega) (by omega)
  ·exact qz7 h0 (by omega) (by omega)
  ·exact qAc h0 (by omega) (by omega)
  ·exact qBM h0 (by omega) (by omega)
 ·exact qAr h0 h1 (by omega) (by omega)
 ·exact qzK (by omega) (by omega)
 ·exact qx5 h0 (by omega) (by omega)
 ·exact qyA (ofI _ _ h0) (ofL _ _ h4) (by omega) (by omega)
 ·rcases ho with rfl | rfl
  ·exact qxS (by omega) (by omega)
  ·exact qxd (by omega) (by omega)
 ·exact qxe (by omega) (by omega)
 ·have h15:=ofI _ _ h15
  have h24:=ofI _ _ h24
  have:op = 15∨op = 16∨op = 17∨op = 18∨op = 19∨op = 20∨op = 21∨op = 22∨op = 23∨op = 24:=by omega
  rcases this with rfl | rfl | rfl | rfl | rfl | rfl | rfl | rfl | rfl | rfl
  ·exact qyu (by omega) (by omega)
  ·exact qwS (by omega) (by omega)
  ·exact qxq (by omega) (by omega)
  ·exact qyV (by omega) (by omega)
  ·exact qwZ (by omega) (by omega)
  ·exact qxh (by omega) (by omega)
  ·exact qxx (by omega) (by omega)
  ·exact qyG (by omega) (by omega)
  ·exact qyS (by omega) (by omega)
  ·exact qx6 (by omega) (by omega)
end
theorem qfA {op n:Int} {nm sub:Str} {k:Nat} (hp:qcb op n nm sub k = true):k ≤ 4:=by
 simp only [qcb,Bool.or_eq_true,Bool.and_eq_true,beq_iff_eq,Nat.ble_eq] at hp
 omega
theorem qr8 (es:List Exp):∀v ∈ qbE φP es,Shp 5 v:=by
 intro v hv
 rw [qc4] at hv
 obtain ⟨e,_,rfl⟩:=List.mem_map.1 hv
 obtain ⟨h1,h2,h3,h4⟩:=qdZ e
 exact ⟨_,rfl,h1,h2,h3,h4⟩
mutual
theorem qmK:∀(e:Exp),e.right = true→∀h,Wd (.fn 52 [] []) [.agg (e.cs φP)] h = some (.ret (.bool true),h,false)
 | .mk op n nm sub args,hr,h=>by
  rw [Exp.right,Bool.and_eq_true] at hr
  have hn:=fun (h:List qx)=>qyp (h:=h) (args:=qbE φP args) (f:=φP op args.length) (by rw [qes];exact hr.1)
  have ha:=fun (h:List qx)=>qmH (F:=99) (k:=5) (z:=[.int .i64 0,.int .i64 0,.str [],.str [],.lst [] .full]) (e:=φP op args.length) (g:=52) rfl (by kernel_rfl) rfl rfl (qr8 args) (by have:=qfA hr.1;rw [qes];omega) (qjT args hr.2) h
  rw [Exp.cs,qm rfl (show T.get 52 = some c52 by kernel_rfl)]
  simp only [c52,sT.1,sC.1,qf,qe,Nat.testBit,simprocAttr,-Int.reduceNatCast',hn,ha,qt,qj]
theorem qjT:∀(es:List Exp),qbA es = true→∀v ∈ qbE φP es,∀h,Wd (.fn 52 [] []) [v] h = some (.ret (.bool true),h,false)
 | [],_,v,hv,h=>by rw [qbE] at hv;cases hv
 | e :: es,hr,v,hv,h=>by
  rw [qbA,Bool.and_eq_true] at hr
  rw [qbE] at hv
  rcases List.mem_cons.1 hv with rfl | hv
  ·exact qmK e hr.1 h
  ·exact qjT es hr.2 v hv h
end
theorem qlq (es:List Exp) (a:Exp):qaz (es ++ [a]) = max (qaz es) a.depth:=by
 induction es with
 | nil=>simp [qaz]
 | cons e es ih=>simp only [List.cons_append,qaz,ih];omega
theorem qn1 {es:List Exp} {a:Exp} (h:a ∈ es):a.depth ≤ qaz es:=by
 induction es with
 | nil=>cases h
 | cons e es ih=>
  rw [qaz]
  rcases List.mem_cons.1 h with rfl | h
  ·omega
  ·have:=ih h;omega
theorem qqN {args:List Exp} {m:Nat} {f:Bool} (hm:m ≤ 1000) (hl:args.length ≤ 1000) (hd:qaz args + 1 ≤ m) (hg:∀a ∈ args,∀h,Wd (.fn 51 [] []) [.agg (a.cs φP),.int .i64 ((m - 1:Nat):Int)] h = some (.ret (.int .i64 (a.depth:Nat)),h,false)) (b:Nat) :
  ∀(suf pre:List Exp) (H:List qx) tt,args = pre ++ suf→tt.length = 32→lkp tt 1 = .int .i64 (m:Nat)→lkp tt 5 = .int .i64 ((qaz pre + 1:Nat):Int)→lkp tt 13 = .lst (qbE φP args) (fl f)→lkp tt 14 = .int .i64 (args.length:Nat)→lkp tt 15 = .int .i64 (pre.length:Nat)→b ≤ H.length→
   ∃tt' l,qH b Wd (.loop qlE) ⟨tt,H,false⟩ = some (.exit 0,⟨tt',H ++ l,false⟩)∧tt'.length = 32∧lkp tt' 5 = .int .i64 ((qaz args + 1:Nat):Int):=by
 intro suf
 induction suf with
 | nil=>
  intro pre H tt ea ht e1 e5 e13 e14 e15 hb
  have:pre = args:=by rw [ea,List.append_nil]
  subst this
  have c1:ilt (pre.length:Int) (pre.length:Int) = false:=by rw [qaw];simp
  generalize he:qH b Wd _ _ = R
  rw [qn] at he
  simp only [qlE,sT.1,sC.1,sTA.1,sCA.1,qf,qbe,qbf,Src.isTmp,qay,Src.hangs,qz.isT,qbc,qe,Nat.testBit,bne,simprocAttr,-Int.reduceNatCast',ht,e1,e5,e13,e14,e15,c1,qt,qj] at he
  subst he
  exact ⟨_,[],by rw [List.append_nil],by simp only [qK,ht],by simp only [sT.1,sC.1,sTA.1,sCA.1,qf,qbe,qbf,Src.isTmp,qay,Src.hangs,qz.isT,qbc,qe,Nat.testBit,bne,simprocAttr,-Int.reduceNatCast',ht,e5]⟩
 | cons a suf ih=>
  intro pre H tt ea ht e1 e5 e13 e14 e15 hb
  have hlen:args.length = pre.length + 1 + suf.length:=by rw [ea];simp;omega
  have c1:ilt (pre.length:Int) (args.length:Int) = true:=by rw [qaw];simp;omega
  have hmem:a ∈ args:=by rw [ea];simp
  have hq:=hg a hmem
  have hda:=qn1 hmem
  have hpre:qaz pre ≤ qaz args:=by
   rw [ea]
   clear ea hlen c1 hmem hq hda e5 e15 ih
   induction pre with
   | nil=>simp [qaz]
   | cons p ps ih=>simp only [List.cons_append,qaz];omega
  obtain ⟨s1,s2,s3,s4⟩:=qdZ a
  have hx:qhM 5 (.lst (qbE φP args) (fl f)) (.int .i64 (pre.length:Nat)) = some (.iptr (a.cs φP) 0):=by
   have:=qcP (k:=5) (f:=fl f) (j:=.i64) (xs:=qbE φP args) (n:=pre.length) (x:=.agg (a.cs φP)) (by rw [qc4,ea];simp [Exp.enc]) (by simpa [qc.cells] using s1)
   simpa [qc.cells] using this
  have hd5:([(.int .i64 0),(.int .i64 0),(.str []),(.str []),(.lst [] .full)]:List qc).drop 5 = []:=rfl
  have hc:Go.AE.cut (a.cs φP) 0 (some 5) = some (.agg (a.cs φP)):=by
   rw [qdS (by omega),List.drop_zero,List.take_of_length_le (by omega),s4]
  have hbl:Nat.ble b H.length = true:=qao hb
  have w:=qap (n:=pre.length) (by omega)
  have w1:IntKind.i64.wrap ((m:Int) - 1) = ((m - 1:Nat):Int):=by rw [qcA (by omega) (by omega)];omega
  have w2:IntKind.i64.wrap (1 + (a.depth:Int)) = ((a.depth + 1:Nat):Int):=by rw [qcA (by omega) (by omega)];omega
  have c2:ilt (m:Int) ((max (qaz pre + 1) (a.depth + 1):Nat):Int) = false:=by rw [qaw];simp;omega
  have e6:max (qaz pre + 1) (a.depth + 1) = qaz (pre ++ [a]) + 1:=by rw [qlq];omega
  obtain ⟨tt1,x1,x2,x3,x4,x5,x6,x7⟩ :∃tt',qH b Wd qlE ⟨tt,H,false⟩ = some (.nor,⟨tt',H ++ [.cells (a.cs φP)],false⟩)∧tt'.length = 32∧lkp tt' 1 = .int .i64 (m:Nat)∧lkp tt' 5 = .int .i64 ((max (qaz pre + 1) (a.depth + 1):Nat):Int)∧lkp tt' 13 = .lst (qbE φP args) (fl f)∧lkp tt' 14 = .int .i64 (args.length:Nat)∧lkp tt' 15 = .int .i64 ((pre.length + 1:Nat):Int):=by
   generalize he:qH b Wd qlE _ = R
   simp only [qlE,sT.1,sC.1,sTA.1,sCA.1,qf,qbe,qbf,Src.isTmp,qay,Src.hangs,qz.isT,qbc,qe,Nat.testBit,bne,simprocAttr,-Int.reduceNatCast',ht,e1,e5,e13,e14,e15,c1,qt,qj,hx,hc,s1,s2,s3,s4,hd5,hbl,hq,w,w1,w2,c2] at he
   subst he
   refine ⟨_,rfl,by simp only [qK,ht],?_,?_,?_,?_,?_⟩ <;> simp only [sT.1,sC.1,sTA.1,sCA.1,qf,qbe,qbf,Src.isTmp,qay,Src.hangs,qz.isT,qbc,qe,Nat.testBit,bne,simprocAttr,-Int.reduceNatCast',ht,e1,e5,e13,e14,qt] <;> rfl
  obtain ⟨tt2,l,y1,y2,y3⟩:=ih (pre ++ [a]) (H ++ [.cells (a.cs φP)]) tt1 (by rw [ea];simp) x2 x3 (by rw [x4,e6]) x5 x6 (by rw [x7];simp) (by simp;omega)
  refine ⟨tt2,[.cells (a.cs φP)] ++ l,?_,y2,y3⟩
  rw [qn,x1,qdN,y1,List.append_assoc]
mutual
theorem qpf:∀(e:Exp),e.right = true→∀m:Nat,m ≤ 1000→e.depth ≤ m→∀h,Wd (.fn 51 [] []) [.agg (e.cs φP),.int .i64 (m:Nat)] h = some (.ret (.int .i64 (e.depth:Nat)),h,false)
 | .mk op n nm sub args,hr,m,hm,hd,h=>by
  rw [Exp.right,Bool.and_eq_true] at hr
  rw [Exp.depth] at hd
  have hl4:=qfA hr.1
  have hg:=ql5 args hr.2 (m - 1) (by omega) (by omega)
  have c1:ile (m:Int) 0 = false:=by rw [qea];simp;omega
  have hbl:Nat.ble h.length h.length = true:=qao (Nat.le_refl _)
  generalize hw:Wd _ _ h = w
  rw [Exp.cs,qm rfl (show T.get 51 = some c51 by kernel_rfl)] at hw
  simp only [c51,sT.1,sC.1,sTA.1,sCA.1,qf,qbe,qbf,Src.isTmp,qay,Src.hangs,qz.isT,qbc,qe,Nat.testBit,bne,simprocAttr,-Int.reduceNatCast',c1,qt,qj,qes] at hw
  generalize hR:qH h.length Wd (.loop qlE) _ = r at hw
  obtain ⟨tt',l,q,q2,q3⟩ :∃tt' l,r = some (.exit 0,⟨tt',(h ++ [.cells [.int .i64 op,.int .i64 n,.str nm,.str sub,.lst (qbE φP args) (fl (φP op args.length))]]) ++ l,false⟩)∧tt'.length = 32∧lkp tt' 5 = .int .i64 ((qaz args + 1:Nat):Int):=by
   rw [←hR]
   refine qqN (f:=φP op args.length) hm (by omega) hd hg h.length args [] _ _ rfl ?_ ?_ ?_ ?_ ?_ ?_ (by simp) <;> simp only [sT.1,sC.1,qf,qe,Nat.testBit,simprocAttr,-Int.reduceNatCast',qt,qj,qes] <;> rfl
  subst q
  simp only [sT.1,sC.1,sTA.1,sCA.1,qf,qbe,qbf,Src.isTmp,qay,Src.hangs,qz.isT,qbc,qe,Nat.testBit,bne,simprocAttr,-Int.reduceNatCast',q2,q3] at hw
  rw [Exp.depth]
  exact hw.symm
theorem ql5:∀(es:List Exp),qbA es = true→∀m:Nat,m ≤ 1000→qaz es ≤ m→∀a ∈ es,∀h,Wd (.fn 51 [] []) [.agg (a.cs φP),.int .i64 (m:Nat)] h = some (.ret (.int .i64 (a.depth:Nat)),h,false)
 | [],_,m,_,_,a,ha,h=>by cases ha
 | e :: es,hr,m,hm,hd,a,ha,h=>by
  rw [qbA,Bool.and_eq_true] at hr
  rw [qaz] at hd
  rcases List.mem_cons.1 ha with ha | ha
  ·rw [ha];exact qpf e hr.1 m hm (by omega) h
  ·exact ql5 es hr.2 m hm (by omega) a ha h
end
theorem qcg {e:Exp} (he:qly e) (h:List qx):Wd (.fn 23 [] []) [.agg (e.cs φP)] h = some (.ret (.bool true),h,false):=by
 obtain ⟨h1,h2⟩:=he
 have hn:=qpf e h1 20 (by omega) h2
 have hs:=qmK e h1
 have z:((20:Nat):Int) = 20:=rfl
 rw [z] at hn
 have c1:ile (e.depth:Int) 20 = true:=qct (by omega)
 obtain ⟨op,n,nm,sub,args⟩:=e
 rw [qm rfl (show T.get 23 = some c23 by kernel_rfl)]
 simp only [Exp.cs] at hn hs ⊢
 simp only [c23,sT.1,sC.1,qf,qe,Nat.testBit,simprocAttr,-Int.reduceNatCast',hn,hs,c1,qt,qj]
theorem qkT (t:qa9) (h:List qx):qpO h (.agg t.cs) = (.agg t.cs,h,false):=by
 cases t with | mk k ts=>rw [qa8];rfl
theorem qru (t:qa9):Go.AE.cut t.cs 0 (some 2) = some (.agg t.cs):=by
 rw [qdS (by rw [qA];omega),List.drop_zero,List.take_of_length_le (by rw [qA];omega),qC]
theorem qhC:∀ts:List qa9,qcM ts = ts.map (fun t=>.agg t.cs)
 | []=>by rw [qcM];rfl
 | t :: ts=>by rw [qcM,qhC ts];rfl
theorem qj9 (ts:List qa9):(qcM ts).length = ts.length:=by rw [qhC,List.length_map]
theorem qs6 (t:List qc) (f:FuncId) (a b:List qz):pureV t (.mkF f a b) = some (.fn f (a.map (ev t)) (b.map (ev t))):=rfl
theorem qoR {ts:List qa9} {q:Nat} {l:Nat} {f:Bool} (hl:ts.length ≤ 1000) (hg:∀t ∈ ts,∀h:List qx,h[q]? = some (.cells [.int .i64 (l:Nat)])→Wd (.fn 254 [] [.ptr q 0]) [.agg t.cs] h = some (.ret (.bool true),h,false)) (b:Nat) :
  ∀(suf pre:List qa9) (H:List qx) tt,ts = pre ++ suf→tt.length = 26→lkp tt 1 = .fn 254 [] [.ptr q 0]→lkp tt 15 = .lst (qcM ts) (fl f)→lkp tt 16 = .int .i64 (ts.length:Nat)→lkp tt 17 = .int .i64 (pre.length:Nat)→b ≤ H.length→H[q]? = some (.cells [.int .i64 (l:Nat)])→
   ∃tt' l',qH b Wd (.loop qhi) ⟨tt,H,false⟩ = some (.exit 0,⟨tt',H ++ l',false⟩)∧tt'.length = 26:=by
 intro suf
 induction suf with
 | nil=>
  intro pre H tt ea ht e1 e15 e16 e17 hb hq
  have:pre = ts:=by rw [ea,List.append_nil]
  subst this
  have c1:ilt (pre.length:Int) (pre.length:Int) = false:=by rw [qaw];simp
  generalize he:qH b Wd _ _ = R
  rw [qn] at he
  simp only [qhi,sT.1,sC.1,sTA.1,sCA.1,qf,qbe,qbf,Src.isTmp,qay,Src.hangs,qz.isT,qbc,qe,Nat.testBit,bne,simprocAttr,-Int.reduceNatCast',ht,e1,e15,e16,e17,c1,qt,qj] at he
  subst he
  exact ⟨_,[],by rw [List.append_nil],by simp only [qK,ht]⟩
 | cons t suf ih=>
  intro pre H tt ea ht e1 e15 e16 e17 hb hq
  have hlen:ts.length = pre.length + 1 + suf.length:=by rw [ea];simp;omega
  have c1:ilt (pre.length:Int) (ts.length:Int) = true:=by rw [qaw];simp;omega
  have hlt:=qd hq
  have hcall:=hg t (by rw [ea];simp) (H ++ [.cells t.cs]) (by rw [List.getElem?_append_left hlt];exact hq)
  have hx:qhM 2 (.lst (qcM ts) (fl f)) (.int .i64 (pre.length:Nat)) = some (.iptr t.cs 0):=by
   have:=qcP (k:=2) (f:=fl f) (j:=.i64) (xs:=qcM ts) (n:=pre.length) (x:=.agg t.cs) (by rw [qhC,ea];simp) (by simpa [qc.cells] using qA t)
   simpa [qc.cells] using this
  have hd2:([(.int .i64 0),(.lst [] .full)]:List qc).drop 2 = []:=rfl
  have hbl:Nat.ble b H.length = true:=qao hb
  have w:=qap (n:=pre.length) (by omega)
  obtain ⟨tt1,x1,x2,x3,x4,x5,x6⟩ :∃tt',qH b Wd qhi ⟨tt,H,false⟩ = some (.nor,⟨tt',H ++ [.cells t.cs],false⟩)∧tt'.length = 26∧lkp tt' 1 = .fn 254 [] [.ptr q 0]∧lkp tt' 15 = .lst (qcM ts) (fl f)∧lkp tt' 16 = .int .i64 (ts.length:Nat)∧lkp tt' 17 = .int .i64 ((pre.length + 1:Nat):Int):=by
   generalize he:qH b Wd qhi _ = R
   simp only [qhi,sT.1,sC.1,sTA.1,sCA.1,qf,qbe,qbf,Src.isTmp,qay,Src.hangs,qz.isT,qbc,qe,Nat.testBit,bne,simprocAttr,-Int.reduceNatCast',qcJ,qaE,qaF,qa0,qaH,qaD,qkT,qru,qA,qC,qw,qo,ht,e1,e15,e16,e17,c1,qt,qj,hx,hd2,hbl,hcall,w] at he
   subst he
   refine ⟨_,rfl,by simp only [qK,ht],?_,?_,?_,?_⟩ <;> simp only [sT.1,sC.1,sTA.1,sCA.1,qf,qbe,qbf,Src.isTmp,qay,Src.hangs,qz.isT,qbc,qe,Nat.testBit,bne,simprocAttr,-Int.reduceNatCast',ht,e1,e15,e16,qt] <;> rfl
  obtain ⟨tt2,l',y1,y2⟩:=ih (pre ++ [t]) (H ++ [.cells t.cs]) tt1 (by rw [ea];simp) x2 x3 x4 x5 (by rw [x6];simp) (by simp;omega) (by rw [List.getElem?_append_left hlt];exact hq)
  refine ⟨tt2,[.cells t.cs] ++ l',?_,y2⟩
  rw [qn,x1,qdN,y1,List.append_assoc]
theorem qwi {ts:List qa9} {q:Nat} {l:Nat} {f:Bool} (h1:1 ≤ ts.length) (h4:ts.length ≤ 4) (hg:∀t ∈ ts,∀h:List qx,h[q]? = some (.cells [.int .i64 (l:Nat)])→Wd (.fn 254 [] [.ptr q 0]) [.agg t.cs] h = some (.ret (.bool true),h,false)) {h:List qx} (hq:h[q]? = some (.cells [.int .i64 (l:Nat)])) :
  Wd (.fn 253 [] []) [.lst (qcM ts) (fl f),.fn 254 [] [.ptr q 0]] h = some (.ret (.bool true),h,false):=by
 have c1:ilt (ts.length:Int) 1 = false:=by rw [qaw];simp;omega
 have c2:ilt 4 (ts.length:Int) = false:=by rw [qaw];simp;omega
 generalize hw:Wd _ _ h = w
 rw [qm rfl (show T.get 253 = some qCa by kernel_rfl)] at hw
 simp only [qCa,sT.1,sC.1,sTA.1,sCA.1,qf,qbe,qbf,Src.isTmp,qay,Src.hangs,qz.isT,qbc,qe,Nat.testBit,bne,simprocAttr,-Int.reduceNatCast',qt,qj,qj9,c1,c2] at hw
 generalize hr:qH h.length Wd (.loop qhi) _ = r at hw
 obtain ⟨tt',l',q1,q2⟩ :∃tt' l',r = some (.exit 0,⟨tt',h ++ l',false⟩)∧tt'.length = 26:=by
  rw [←hr]
  refine qoR (f:=f) (l:=l) (by omega) hg h.length ts [] h _ rfl ?_ ?_ ?_ ?_ ?_ (Nat.le_refl _) hq <;> simp only [sT.1,sC.1,qf,qe,Nat.testBit,simprocAttr,-Int.reduceNatCast',qt,qj9] <;> rfl
 subst q1
 simp only [sT.1,sC.1,sTA.1,sCA.1,qf,qbe,qbf,Src.isTmp,qay,Src.hangs,qz.isT,qbc,qe,Nat.testBit,bne,simprocAttr,-Int.reduceNatCast',q2] at hw
 exact hw.symm
mutual
theorem qrh:∀(t:qa9) (l:Nat),l ≤ 1000→t.good l = true→∀h,Wd (.fn 203 [] []) [.agg t.cs,.int .i64 (l:Nat)] h = some (.ret (.bool true),h,false)
 | .mk k ts,l,hl,hgood,h=>by
  rw [qa9.good] at hgood
  simp only [Bool.or_eq_true,Bool.and_eq_true,beq_iff_eq,Bool.not_eq_true',Nat.ble_eq,Nat.blt_eq] at hgood
  rcases hgood with ⟨he,hk⟩ | ⟨⟨⟨⟨rfl,hne⟩,h4⟩,h0⟩,hgs⟩
  ·obtain rfl:ts = []:=List.isEmpty_iff.1 he
   rw [qa8,qm rfl (show T.get 203 = some qzu by kernel_rfl)]
   rcases hk with (rfl | rfl) | rfl <;> (simp only [qzu,sT.1,sC.1,qf,qe,Nat.testBit,simprocAttr,-Int.reduceNatCast',qav,qgL];rfl)
  ·have h1:1 ≤ ts.length:=by cases ts <;> simp_all
   have c1:ilt 0 (l:Int) = true:=qsX (by omega)
   have ha:=qmb ts (l - 1) (by omega) hgs
   have hcl:∀(q:Nat),∀t ∈ ts,∀h:List qx,h[q]? = some (.cells [.int .i64 (l:Nat)])→Wd (.fn 254 [] [.ptr q 0]) [.agg t.cs] h = some (.ret (.bool true),h,false):=by
    intro q t ht h hq
    have hc:=ha t ht
    have w1:IntKind.i64.wrap ((l:Int) - 1) = ((l - 1:Nat):Int):=by rw [qcA (by omega) (by omega)];omega
    have hlt:=qd hq
    rw [qm rfl (show T.get 254 = some qCb by kernel_rfl)]
    simp only [qCb,sT.1,sC.1,qf,qe,Nat.testBit,simprocAttr,-Int.reduceNatCast',qcJ,qaE,qaF,qa0,qaH,qaD,qkT,qru,qA,qC,qw,qo,hq,hlt,hc,w1]
   have hit:=fun (h:List qx) (q:Nat) (hq:h[q]? = some (.cells [.int .i64 (l:Nat)]))=>qwi (f:=ts.isEmpty) h1 h4 (hcl q) hq
   have hlast:∀x:qx,(h ++ [x,.cells [.int .i64 (l:Nat)]])[h.length + 1]? = some (.cells [.int .i64 (l:Nat)]):=fun x=>by rw [List.getElem?_append_right (by omega)];simp
   have hit2:=fun x=>hit (h ++ [x,.cells [.int .i64 (l:Nat)]]) (h.length + 1) (hlast x)
   rw [qa8,qm rfl (show T.get 203 = some qzu by kernel_rfl)]
   simp only [qzu,sT.1,sC.1,qf,qe,Nat.testBit,simprocAttr,-Int.reduceNatCast',qs6,c1,hit2,qt,qj]
theorem qmb:∀(ts:List qa9) (l:Nat),l ≤ 1000→qkB l ts = true→∀t ∈ ts,∀h,Wd (.fn 203 [] []) [.agg t.cs,.int .i64 (l:Nat)] h = some (.ret (.bool true),h,false)
 | [],_,_,_,t,ht,h=>by cases ht
 | u :: ts,l,hl,hgs,t,ht,h=>by
  rw [qkB,Bool.and_eq_true] at hgs
  rcases List.mem_cons.1 ht with ht | ht
  ·rw [ht];exact qrh u l hl hgs.1 h
  ·exact qmb ts l hl hgs.2 t ht h
end
theorem qkq {t:qa9} (ht:t.good 3 = true) (h:List qx):Wd (.fn 152 [] []) [.agg t.cs] h = some (.ret (.bool true),h,false):=by
 have hc:=qrh t 3 (by decide) ht
 have z:((3:Nat):Int) = 3:=rfl
 rw [z] at hc
 rw [qm rfl (show T.get 152 = some qCr by kernel_rfl)]
 simp only [qCr,sT.1,sC.1,qf,qe,Nat.testBit,simprocAttr,-Int.reduceNatCast',qcJ,qaE,qaF,qa0,qaH,qaD,qkT,qru,qA,qC,qw,qo,hc]
section
variable {h:List qx}
theorem qAG (k:Int) (xs:List qc) (f:qgA):qpO h (.agg [.int .i64 k,.lst xs f]) = (.agg [.int .i64 k,.lst xs f],h,false):=rfl
theorem qjG {v:qc} (hv:qgo v):Wd (.fn 95 [] []) [v] h = some (.ret (.bool true),h,false):=by
 obtain ⟨⟨nm,⟨k,ts⟩⟩,rfl,h1,h2⟩:=hv
 have ht:=fun h=>qkq h2 h
 simp only [qa8] at ht
 rw [qm rfl (show T.get 95 = some c95 by kernel_rfl)]
 simp only [c95,sT.1,sC.1,qf,qe,Nat.testBit,simprocAttr,-Int.reduceNatCast',qas.enc,qa8,qcJ,qaE,qaF,qa0,qaH,qaD,qAG,qaV,h1,ht,qt,qj]
theorem qkQ {v:qc} (hv:qgF v):Wd (.fn 160 [] []) [v] h = some (.ret (.bool true),h,false):=by
 obtain ⟨⟨nm,⟨op,n,nm2,sb,aS⟩⟩,rfl,h1,h2⟩:=hv
 have ht:=fun h=>qcg h2 h
 simp only [Exp.cs] at ht
 rw [qm rfl (show T.get 160 = some qCn by kernel_rfl)]
 simp only [qCn,sT.1,sC.1,qf,qe,Nat.testBit,simprocAttr,-Int.reduceNatCast',qa5.enc,Exp.cs,qaV,h1,ht,qt,qj]
theorem qjW {v:qc} (hv:qjp v):Wd (.fn 154 [] []) [v] h = some (.ret (.bool true),h,false):=by
 obtain ⟨⟨nm,md⟩,rfl,h1,h2⟩:=hv
 rw [qm rfl (show T.get 154 = some qCm by kernel_rfl)]
 simp only [qCm,sT.1,sC.1,qf,qe,Nat.testBit,simprocAttr,-Int.reduceNatCast',qY.enc,qaV,h1,h2]
theorem qhA {x:qa1} (hv:x.ok):Wd (.fn 204 [] []) [.agg [.str x.part,.str x.port]] h = some (.ret (.bool true),h,false):=by
 obtain ⟨h1,h2⟩:=hv
 rw [qm rfl (show T.get 204 = some qz4 by kernel_rfl)]
 rcases h1 with h1 | h1
 ·simp only [qz4,sT.1,sC.1,qf,qe,Nat.testBit,simprocAttr,-Int.reduceNatCast',qaV,h1,h2]
 ·cases hp:(x.part == ([]:Str)) <;> simp only [qz4,sT.1,sC.1,qf,qe,Nat.testBit,simprocAttr,-Int.reduceNatCast',qaV,h1,h2,hp]
theorem qgv {x:qF} (h1:x.frm.ok) (h2:x.to.ok):Wd (.fn 156 [] []) [.agg [.str x.frm.part,.str x.frm.port,.str x.to.part,.str x.to.port]] h = some (.ret (.bool true),h,false):=by
 have e1:=fun h=>qhA (h:=h) h1
 have e2:=fun h=>qhA (h:=h) h2
 rw [qm rfl (show T.get 156 = some qB5 by kernel_rfl)]
 simp only [qB5,sT.1,sC.1,qf,qe,Nat.testBit,simprocAttr,-Int.reduceNatCast',e1,e2]
theorem qjo {v:qc} (hv:qj5 v):Wd (.fn 162 [] []) [v] h = some (.ret (.bool true),h,false):=by
 obtain ⟨⟨nm,⟨op,n,nm2,sb,aS⟩,cond⟩,rfl,h1,h2,h3⟩:=hv
 have ht:=fun h=>qcg h2 h
 simp only [Exp.cs] at ht
 have hall:∀h,Wd (.fn 99 [] []) [.lst (cond.map (Exp.enc φP)) .full,.fn 23 [] []] h = some (.ret (.bool true),h,false):=fun h=>by
  have hs:∀v ∈ cond.map (Exp.enc φP),Shp 5 v:=by rw [←qc4];exact qr8 cond
  refine qmH (k:=5) (z:=[.int .i64 0,.int .i64 0,.str [],.str [],.lst [] .full]) (e:=true) rfl (by kernel_rfl) rfl rfl hs ?_ ?_ h
  ·rcases h3 with h3 | ⟨e,h3,_⟩
   ·simp only at h3;rw [h3];decide
   ·simp only at h3;rw [h3];simp
  ·intro v hv h
   rcases h3 with h3 | ⟨e,h3,h4⟩
   ·simp only at h3;rw [h3] at hv;cases hv
   ·simp only at h3
    rw [h3] at hv
    simp only [List.map_cons,List.map_nil,List.mem_singleton] at hv
    subst hv
    exact qcg h4 h
 have hlen:ile (cond.length:Int) 1 = true:=by
  refine qct ?_
  rcases h3 with h3 | ⟨e,h3,_⟩
  ·simp only at h3;rw [h3];decide
  ·simp only at h3;rw [h3];simp
 rw [qm rfl (show T.get 162 = some qCj by kernel_rfl)]
 simp only [qCj,sT.1,sC.1,qf,qe,Nat.testBit,simprocAttr,-Int.reduceNatCast',qX.enc,Exp.cs,qaV,h1,ht,hall,hlen,List.length_map,qt,qj]
end
section
variable {h:List qx}
theorem qgs {k most:Nat} {Q:qc→Prop} {g F:FuncId} {z vs:List qc} (hX:X F = none) (hF:T.get F = some (qCF k z)) (hz:z.length = k) (hzd:z.map qc.dim = z) (hm:most ≤ 1000) (hl:qb2 k most Q vs) (hg:∀v,Q v→∀h,Wd (.fn g [] []) [v] h = some (.ret (.bool true),h,false)) (h:List qx) :
  Wd (.fn F [] []) [.lst vs (fl vs.isEmpty),.fn g [] []] h = some (.ret (.bool true),h,false):=
 qmH hX hF hz hzd (fun v hv=>(hl.2 v hv).2) (by have:=hl.1;omega) (fun v hv=>hg v (hl.2 v hv).1) h
theorem qgV {base:Nat} {call:AE.Call} {p:qdp} {s:St} (d:Option Nat) (sh:qb6) (n:Bool) (x y:qz):qJ base call p d (.eqs sh n x y) s = qgz d s ((qty sh (ev s.t x) (ev s.t y)).map fun r=>.bool (r != n)):=qbr _ _ rfl (by simp) (by simp) (by simp)
theorem qhw (sh:qb6) (n:Bool) (x y:qz):(AOp.eqs sh n x y).plain = true:=Eq.trans rfl rfl
theorem qiV (sh:qb6) (n:Bool) (x y:qz):(AOp.eqs sh n x y).effs = false:=Eq.trans rfl rfl
theorem qhr (sh:qb6) (n:Bool) (x y:qz):(AOp.eqs sh n x y).isApp = false:=Eq.trans rfl rfl
theorem qix {s:Str} (h:qa2 s = true):Nat.ble s.length qcs = true:=by
 simp only [qa2,qfW,Bool.and_eq_true,decide_eq_true_eq] at h
 exact qao (by simp only [qcs];omega)
theorem qiw {x:qa1} (h:x.ok):Nat.ble x.part.length qcs = true∧Nat.ble x.port.length qcs = true:=by
 obtain ⟨h1 | h1,h2⟩:=h
 ·exact ⟨by rw [h1];rfl,qix h2⟩
 ·exact ⟨qix h1,qix h2⟩
theorem qx1 {a b c d:Str} (ha:Nat.ble a.length qcs = true) (hb:Nat.ble b.length qcs = true) (hc:Nat.ble c.length qcs = true) (hd:Nat.ble d.length qcs = true):∃r:Bool,qty ⟨true,4,[(0,.s),(1,.s),(2,.s),(3,.s)]⟩ (.agg [.str a,.str b,.str c,.str d]) (.agg [.str [],.str [],.str [],.str []]) = some r:=by
 have h0:Nat.ble 0 qcs = true:=rfl
 refine ⟨qdV [.str a,.str b,.str c,.str d] [.str [],.str [],.str [],.str []] [(0,.s),(1,.s),(2,.s),(3,.s)],?_⟩
 unfold qty
 rw [if_pos]
 ·rfl
 ·simp only [qc9,qe1,List.all_cons,List.all_nil,qde,List.getElem?_cons_zero,List.getElem?_cons_succ,ha,hb,hc,hd,h0,List.length_nil,List.length_cons,Bool.and_self,Bool.and_true]
  rfl
theorem qqp:qty ⟨true,4,[(0,.s),(1,.s),(2,.s),(3,.s)]⟩ (.agg [.str [],.str [],.str [],.str []]) (.agg [.str [],.str [],.str [],.str []]) = some true:=by kernel_rfl
theorem qkX {v:qc} (hv:qtl v):Wd (.fn 206 [] []) [v] h = some (.ret (.bool true),h,false):=by
 obtain ⟨⟨k,nm,md,ln⟩,rfl,hc⟩:=hv
 rcases hc with ⟨hk,h1,h2,hl⟩ | ⟨hk,h1,h2,hl⟩ | ⟨hk,h1,h2,h3,h4⟩
 ·simp only at hk h1 h2 hl
  subst hk hl
  rw [qm rfl (show T.get 206 = some qwE by kernel_rfl)]
  simp only [qwE,sT.1,sC.1,qf,qe,Nat.testBit,simprocAttr,-Int.reduceNatCast',qbw.enc,qF.zero,qhw,qiV,qhr,qgV,qqp,qu,qaV,h1,h2]
  rfl
 ·simp only at hk h1 h2 hl
  subst hk hl h2
  rw [qm rfl (show T.get 206 = some qwE by kernel_rfl)]
  simp only [qwE,sT.1,sC.1,qf,qe,Nat.testBit,simprocAttr,-Int.reduceNatCast',qbw.enc,qF.zero,qhw,qiV,qhr,qgV,qqp,qu,qaV,h1]
  rfl
 ·simp only at hk h1 h2 h3 h4
  obtain ⟨r,hr⟩:=qx1 (qiw h3).1 (qiw h3).2 (qiw h4).1 (qiw h4).2
  have hl:=fun h=>qgv (h:=h) h3 h4
  subst h1 h2
  rw [qm rfl (show T.get 206 = some qwE by kernel_rfl)]
  rcases hk with rfl | rfl <;> simp only [qwE,sT.1,sC.1,qf,qe,Nat.testBit,simprocAttr,-Int.reduceNatCast',qbw.enc,qhw,qiV,qhr,qgV,hr,qu,hl]
theorem qk7 {v:qc} (hv:qkh v):Wd (.fn 156 [] []) [v] h = some (.ret (.bool true),h,false):=by
 obtain ⟨x,rfl,h1,h2⟩:=hv
 exact qgv h1 h2
theorem qge {vs:List qc} {m:Nat} (h:vs.length ≤ m):ile (vs.length:Int) (m:Int) = true:=qct (by omega)
theorem qj8 {v:qc} (hv:qka v):Wd (.fn 158 [] []) [v] h = some (.ret (.bool true),h,false):=by
 obtain ⟨⟨op,n,nm2,sb,aS⟩,vs,rfl,h2,hl⟩:=hv
 have ht:=fun h=>qcg h2 h
 simp only [Exp.cs] at ht
 have ha:=fun h=>qgs (F:=205) (z:=[.int .i64 0,.str [],.str [],.str [],.str [],.str [],.str []]) (g:=206) rfl (by kernel_rfl) rfl rfl (by decide) hl (fun v hv h=>qkX hv) h
 have c1:ile (vs.length:Int) 5 = true:=qge hl.1
 rw [qm rfl (show T.get 158 = some qCq by kernel_rfl)]
 simp only [qCq,sT.1,sC.1,qf,qe,Nat.testBit,simprocAttr,-Int.reduceNatCast',Exp.cs,List.cons_append,List.nil_append,ht,ha,c1,qt,qj]
theorem qgX {nm:Str} {ins outs:List qc} {D:List qc} (hv:qhs nm true (.lst ins (fl ins.isEmpty)) (.lst outs (fl outs.isEmpty)) D):Wd (.fn 96 [] []) [.agg D] h = some (.ret (.bool true),h,false):=by
 obtain ⟨ps,ls,rs,rfl,h1,h2,h3⟩:=hv
 have a1:=fun h=>qgs (F:=153) (z:=[.str [],.str []]) (g:=154) rfl (by kernel_rfl) rfl rfl (by decide) h1 (fun v hv h=>qjW hv) h
 have a2:=fun h=>qgs (F:=155) (z:=[.str [],.str [],.str [],.str []]) (g:=156) rfl (by kernel_rfl) rfl rfl (by decide) h2 (fun v hv h=>qk7 hv) h
 have a3:=fun h=>qgs (F:=157) (z:=[.int .i64 0,.int .i64 0,.str [],.str [],.lst [] .full,.lst [] .full]) (g:=158) rfl (by kernel_rfl) rfl rfl (by decide) h3 (fun v hv h=>qj8 hv) h
 have c1:ile (ps.length:Int) 32 = true:=qge h1.1
 have c2:ile (ls.length:Int) 200 = true:=qge h2.1
 have c3:ile (rs.length:Int) 4 = true:=qge h3.1
 have z0:ilt 0 (((0:Nat):Int)) = false:=by kernel_rfl
 rw [qm rfl (show T.get 96 = some c96 by kernel_rfl)]
 simp only [c96,sT.1,sC.1,qf,qe,Nat.testBit,simprocAttr,-Int.reduceNatCast',a1,a2,a3,c1,c2,c3,z0,qt,qj]
end
section
variable {h:List qx}
theorem qAT (a b c d:List qc) (x y z w:Bool):qfc 1 [.lst [] .full] 4 [(0,.lst a (fl x)),(1,.lst b (fl y)),(2,.lst c (fl z)),(3,.lst d (fl w))] = some (.lst [.lst a (fl x),.lst b (fl y),.lst c (fl z),.lst d (fl w)] .full):=by
 simp [qfc,qu,qc.cells,qc.storable,splice,elems,List.range,List.range.loop,qt]
set_option maxHeartbeats 0 in
theorem qhV {nm:Str} {ins outs:List qc} {D:List qc} (hv:qiN nm false (.lst ins (fl ins.isEmpty)) (.lst outs (fl outs.isEmpty)) D):Wd (.fn 97 [] []) [.agg D] h = some (.ret (.bool true),h,false):=by
 obtain ⟨vars,ta,emits,qef,exts,con,own,rfl,h1,h2,h3,h4,h5,h6⟩:=hv
 have aS:=fun (vs:List qc) (hl:qb2 6 10 qgF vs) h=>qgs (F:=159) (z:=[.str [],.int .i64 0,.int .i64 0,.str [],.str [],.lst [] .full]) (g:=160) rfl (by kernel_rfl) rfl rfl (by decide) hl (fun v hv h=>qkQ hv) h
 have hown:qb2 6 10 qgF own:=by
  rcases h6 with ⟨_,h6⟩ | ⟨_,rfl⟩
  ·exact h6
  ·exact ⟨by simp,by simp⟩
 have a1:=aS vars h1
 have a2:=aS qef h4
 have a3:=aS exts h5
 have a4:=aS own hown
 have aT:=fun h=>qmH (F:=99) (k:=5) (z:=[.int .i64 0,.int .i64 0,.str [],.str [],.lst [] .full]) (e:=true) (vs:=[.agg (ta.cs φP)]) (g:=23) rfl (by kernel_rfl) rfl rfl (by intro v hv;simp only [List.mem_singleton] at hv;subst hv;exact qr8 [ta] _ (by simp [qbE])) (by simp) (by intro v hv h;simp only [List.mem_singleton] at hv;subst hv;exact qcg h2 h) h
 simp only [qgL] at aT
 have aE:=fun h=>qgs (F:=161) (z:=[.str [],.int .i64 0,.int .i64 0,.str [],.str [],.lst [] .full,.lst [] .full]) (g:=162) rfl (by kernel_rfl) rfl rfl (by decide) h3 (fun v hv h=>qjo hv) h
 have gt10:∀vs:List qc,vs.length ≤ 10→ilt 10 (vs.length:Int) = false:=fun vs h=>by rw [qaw];simp;omega
 have g1:=gt10 vars h1.1
 have g2:=gt10 qef h4.1
 have g3:=gt10 exts h5.1
 have g4:=gt10 own hown.1
 have cE:ile (emits.length:Int) 8 = true:=qge h3.1
 have z0:ilt 0 (((0:Nat):Int)) = false:=by kernel_rfl
 have hcon:ilt con 0 = false∧ilt 2 con = false:=by
  rcases h6 with ⟨rfl,_⟩ | ⟨rfl | rfl,_⟩ <;> exact ⟨by kernel_rfl,by kernel_rfl⟩
 obtain ⟨hc1,hc2⟩:=hcon
 have i0:=qcP (k:=1) (f:=.full) (j:=.i64) (n:=0) (xs:=[.lst vars (fl vars.isEmpty),.lst qef (fl qef.isEmpty),.lst exts (fl exts.isEmpty),.lst own (fl own.isEmpty)]) rfl rfl
 have i1:=qcP (k:=1) (f:=.full) (j:=.i64) (n:=1) (xs:=[.lst vars (fl vars.isEmpty),.lst qef (fl qef.isEmpty),.lst exts (fl exts.isEmpty),.lst own (fl own.isEmpty)]) rfl rfl
 have i2:=qcP (k:=1) (f:=.full) (j:=.i64) (n:=2) (xs:=[.lst vars (fl vars.isEmpty),.lst qef (fl qef.isEmpty),.lst exts (fl exts.isEmpty),.lst own (fl own.isEmpty)]) rfl rfl
 have i3:=qcP (k:=1) (f:=.full) (j:=.i64) (n:=3) (xs:=[.lst vars (fl vars.isEmpty),.lst qef (fl qef.isEmpty),.lst exts (fl exts.isEmpty),.lst own (fl own.isEmpty)]) rfl rfl
 have n0:((0:Nat):Int) = 0:=rfl
 have n1:((1:Nat):Int) = 1:=rfl
 have n2:((2:Nat):Int) = 2:=rfl
 have n3:((3:Nat):Int) = 3:=rfl
 have n4:((4:Nat):Int) = 4:=rfl
 rw [n0] at i0 z0
 rw [n1] at i1
 rw [n2] at i2
 rw [n3] at i3
 have l0:ilt 0 4 = true:=by kernel_rfl
 have l1:ilt 1 4 = true:=by kernel_rfl
 have l2:ilt 2 4 = true:=by kernel_rfl
 have l3:ilt 3 4 = true:=by kernel_rfl
 have l4:ilt 4 4 = false:=by kernel_rfl
 have w0:IntKind.i64.wrap 1 = 1:=by kernel_rfl
 have w1:IntKind.i64.wrap 2 = 2:=by kernel_rfl
 have w2:IntKind.i64.wrap 3 = 3:=by kernel_rfl
 have w3:IntKind.i64.wrap 4 = 4:=by kernel_rfl
 rw [qm rfl (show T.get 97 = some c97 by kernel_rfl)]
 rcases h6 with ⟨rfl,_⟩ | ⟨hc,he⟩
 ·cases ho:ilt 0 (own.length:Int) <;> simp only [c97,qxC,sT.1,sC.1,qf,qe,Nat.testBit,simprocAttr,-Int.reduceNatCast',qn,qAT,a1,a2,a3,a4,aT,aE,g1,g2,g3,g4,cE,hc1,hc2,z0,ho,i0,i1,i2,i3,n0,n1,n2,n3,n4,l0,l1,l2,l3,l4,w0,w1,w2,w3,qt,qj] <;> rfl
 ·have ho:ilt 0 (own.length:Int) = false:=by rw [he];kernel_rfl
  simp only [c97,qxC,sT.1,sC.1,qf,qe,Nat.testBit,simprocAttr,-Int.reduceNatCast',qn,qAT,a1,a2,a3,a4,aT,aE,g1,g2,g3,g4,cE,hc1,hc2,z0,ho,i0,i1,i2,i3,n0,n1,n2,n3,n4,l0,l1,l2,l3,l4,w0,w1,w2,w3,qt,qj]
end
section
variable {h:List qx}
set_option maxHeartbeats 0 in
theorem qiG {v:qc} (hv:qf6 v):Wd (.fn 50 [] []) [v] h = some (.ret (.bool true),h,false):=by
 obtain ⟨nm,ins,outs,D,rfl,h0,h1,h2,h3⟩:=hv
 have aP:=fun (vs:List qc) (hl:qb2 3 8 qgo vs) h=>qgs (F:=94) (z:=[.str [],.int .i64 0,.lst [] .full]) (g:=95) rfl (by kernel_rfl) rfl rfl (by decide) hl (fun v hv h=>qjG hv) h
 have a1:=aP ins h1
 have a2:=aP outs h2
 have gt8:∀vs:List qc,vs.length ≤ 8→ilt 8 (vs.length:Int) = false:=fun vs h=>by rw [qaw];simp;omega
 have g1:=gt8 ins h1.1
 have g2:=gt8 outs h2.1
 rw [qm rfl (show T.get 50 = some c50 by kernel_rfl)]
 rcases h3 with h3 | h3
 ·have hc:=fun h=>qgX (h:=h) h3
  obtain ⟨ps,ls,rs,rfl,_,_,_⟩:=h3
  simp only [c50,sT.1,sC.1,qf,qe,Nat.testBit,simprocAttr,-Int.reduceNatCast',qaV,h0,g1,g2,a1,a2,hc,qt,qj]
 ·have hc:=fun h=>qhV (h:=h) h3
  obtain ⟨vars,ta,emits,qef,exts,con,own,rfl,_⟩:=h3
  simp only [c50,sT.1,sC.1,qf,qe,Nat.testBit,simprocAttr,-Int.reduceNatCast',qaV,h0,g1,g2,a1,a2,hc,qt,qj]
theorem qtM {v:qc} (hv:qg7 v):Wd (.fn 22 [] []) [v] h = some (.ret (.bool true),h,false):=by
 obtain ⟨ms,root,rfl,hne,hl,h0⟩:=hv
 have ha:=fun h=>qgs (F:=49) (z:=[.str [],.bool false,.lst [] .full,.lst [] .full,.lst [] .full,.lst [] .full,.lst [] .full,.lst [] .full,.lst [] .full,.int .i64 0,.lst [] .full,.lst [] .full,.lst [] .full,.lst [] .full]) (g:=50) rfl (by kernel_rfl) rfl rfl (by decide) hl (fun v hv h=>qiG hv) h
 have c1:ile 1 (ms.length:Int) = true:=qct (by cases ms with | nil=>exact absurd rfl hne | cons _ _=>simp;omega)
 have c2:ile (ms.length:Int) 24 = true:=qge hl.1
 rw [qm rfl (show T.get 22 = some c22 by kernel_rfl)]
 simp only [c22,sT.1,sC.1,qf,qe,Nat.testBit,simprocAttr,-Int.reduceNatCast',qaV,h0,c1,c2,ha,qt,qj]
end
section
variable {h:List qx}
theorem qd1 (c:UInt8) (h:List qx):Wd (.fn 224 [] []) [.int .u8 (c.toNat:Nat)] h = some (.ret (.bool (qb0 c)),h,false):=by
 rw [qm rfl (show T.get 224 = some qCd by kernel_rfl)]
 simp only [qCd,sT.1,sC.1,qf,qe,Nat.testBit,simprocAttr,-Int.reduceNatCast',qb0]
theorem qhk (c:UInt8) (h:List qx):Wd (.fn 226 [] []) [.int .u8 (c.toNat:Nat)] h = some (.ret (.bool (qaJ c)),h,false):=by
 rw [qm rfl (show T.get 226 = some qCi by kernel_rfl)]
 simp only [qCi,sT.1,sC.1,qf,qe,Nat.testBit,simprocAttr,-Int.reduceNatCast',qaJ]
def qaA (p:UInt8→Bool) (s:Str) (i:Nat):Nat:=i + ((s.drop i).takeWhile p).length
theorem qgG {p:UInt8→Bool} {s:Str} {i:Nat} (hi:i < s.length) (hp:p s[i] = true):qaA p s i = qaA p s (i + 1):=by
 rw [qaA,qaA,List.drop_eq_getElem_cons hi,List.takeWhile_cons_of_pos hp,List.length_cons]
 omega
theorem qis {p:UInt8→Bool} {s:Str} {i:Nat} (hi:i < s.length) (hp:p s[i] = false):qaA p s i = i:=by
 rw [qaA,List.drop_eq_getElem_cons hi,List.takeWhile_cons_of_neg (by simp [hp])]
 rfl
theorem qkD {p:UInt8→Bool} {s:Str} {i:Nat} (hi:s.length ≤ i):qaA p s i = i:=by
 rw [qaA,List.drop_eq_nil_of_le hi]
 rfl
theorem qcQ (p:UInt8→Bool) (s:Str) {i:Nat} (hi:i ≤ s.length):qaA p s i ≤ s.length:=by
 have h1:=(List.takeWhile_sublist (l:=s.drop i) p).length_le
 rw [List.length_drop] at h1
 rw [qaA]
 omega
theorem qdj (p:UInt8→Bool) (s:Str) (i:Nat):i ≤ qaA p s i:=by rw [qaA];omega
def qbC (c:UInt8):Bool:=qb0 c || qaJ c
theorem qpx {b:Nat} (s:Str) (hs:s.length ≤ 100000):∀(k i:Nat) (tt:List qc),i + k = s.length→tt.length = 60→lkp tt 0 = .str s→lkp tt 11 = .int .i64 (i:Nat)→
  ∃tt',qH b Wd (.loop qgw) ⟨tt,h,false⟩ = some (.exit 0,⟨tt',h,false⟩)∧tt'.length = 60∧lkp tt' 0 = .str s∧lkp tt' 11 = .int .i64 (qaA qbC s i:Nat)∧lkp tt' 1 = lkp tt 1∧lkp tt' 2 = lkp tt 2∧lkp tt' 3 = lkp tt 3∧lkp tt' 8 = lkp tt 8:=by
 intro k
 induction k with
 | zero=>
  intro i tt hk ht e0 e11
  have c1:ilt (i:Int) (s.length:Int) = false:=by rw [qaw];simp;omega
  rw [qkD (by omega),qn]
  simp only [qgw,sT.1,sC.1,qf,qe,Nat.testBit,simprocAttr,-Int.reduceNatCast',ht,e0,e11,c1]
  exact ⟨_,rfl,by simp only [qK,ht],by simp only [sT.1,sC.1,qf,qe,Nat.testBit,simprocAttr,-Int.reduceNatCast',e0],by simp only [sT.1,sC.1,qf,qe,Nat.testBit,simprocAttr,-Int.reduceNatCast',e11],by simp only [sT.1,sC.1,qf,qe,Nat.testBit,simprocAttr,-Int.reduceNatCast'],by simp only [sT.1,sC.1,qf,qe,Nat.testBit,simprocAttr,-Int.reduceNatCast'],by simp only [sT.1,sC.1,qf,qe,Nat.testBit,simprocAttr,-Int.reduceNatCast'],by simp only [sT.1,sC.1,qf,qe,Nat.testBit,simprocAttr,-Int.reduceNatCast']⟩
 | succ k ih=>
  intro i tt hk ht e0 e11
  have hi:i < s.length:=by omega
  have c1:ilt (i:Int) (s.length:Int) = true:=by rw [qaw];simp;omega
  have hx:qeL (.str s) (.int .i64 (i:Nat)) = some (.int .u8 (s[i].toNat:Nat)):=qba (List.getElem?_eq_getElem hi)
  have w:=qap (n:=i) (by omega)
  rw [qn]
  generalize he:qH b Wd qgw _ = r
  cases hb:qb0 s[i] with
  | true=>
   rw [qgG hi (by rw [qbC,hb];rfl)]
   simp only [qgw,sT.1,sC.1,qf,qe,Nat.testBit,simprocAttr,-Int.reduceNatCast',ht,e0,e11,c1,hx,w,qd1,qhk,hb] at he
   subst he
   refine (ih (i + 1) _ (by omega) ?_ ?_ ?_).imp fun tt' g=>⟨g.1,g.2.1,g.2.2.1,g.2.2.2.1,g.2.2.2.2.1.trans ?_,g.2.2.2.2.2.1.trans ?_,g.2.2.2.2.2.2.1.trans ?_,g.2.2.2.2.2.2.2.trans ?_⟩
   all_goals simp only [sT.1,sC.1,qf,qe,Nat.testBit,simprocAttr,-Int.reduceNatCast',ht,e0]
  | false=>
   cases hd:qaJ s[i] with
   | true=>
    rw [qgG hi (by rw [qbC,hb,hd];rfl)]
    simp only [qgw,sT.1,sC.1,qf,qe,Nat.testBit,simprocAttr,-Int.reduceNatCast',ht,e0,e11,c1,hx,w,qd1,qhk,hb,hd] at he
    subst he
    refine (ih (i + 1) _ (by omega) ?_ ?_ ?_).imp fun tt' g=>⟨g.1,g.2.1,g.2.2.1,g.2.2.2.1,g.2.2.2.2.1.trans ?_,g.2.2.2.2.2.1.trans ?_,g.2.2.2.2.2.2.1.trans ?_,g.2.2.2.2.2.2.2.trans ?_⟩
    all_goals simp only [sT.1,sC.1,qf,qe,Nat.testBit,simprocAttr,-Int.reduceNatCast',ht,e0]
   | false=>
    rw [qis hi (by rw [qbC,hb,hd];rfl)]
    simp only [qgw,sT.1,sC.1,qf,qe,Nat.testBit,simprocAttr,-Int.reduceNatCast',ht,e0,e11,c1,hx,w,qd1,qhk,hb,hd] at he
    subst he
    exact ⟨_,rfl,by simp only [qK,ht],by simp only [sT.1,sC.1,qf,qe,Nat.testBit,simprocAttr,-Int.reduceNatCast',e0],by simp only [sT.1,sC.1,qf,qe,Nat.testBit,simprocAttr,-Int.reduceNatCast',e11],by simp only [sT.1,sC.1,qf,qe,Nat.testBit,simprocAttr,-Int.reduceNatCast'],by simp only [sT.1,sC.1,qf,qe,Nat.testBit,simprocAttr,-Int.reduceNatCast'],by simp only [sT.1,sC.1,qf,qe,Nat.testBit,simprocAttr,-Int.reduceNatCast'],by simp only [sT.1,sC.1,qf,qe,Nat.testBit,simprocAttr,-Int.reduceNatCast']⟩
theorem qc2 {b:Nat} (s:Str) (hs:s.length ≤ 100000):∀(k i:Nat) (tt:List qc),i + k = s.length→tt.length = 53→lkp tt 0 = .str s→lkp tt 7 = .int .i64 (i:Nat)→
  ∃tt',qH b Wd (.loop qeB) ⟨tt,h,false⟩ = some (.exit 0,⟨tt',h,false⟩)∧tt'.length = 53∧lkp tt' 0 = .str s∧lkp tt' 7 = .int .i64 (qaA qaJ s i:Nat)∧lkp tt' 1 = lkp tt 1∧lkp tt' 4 = lkp tt 4:=by
 intro k
 induction k with
 | zero=>
  intro i tt hk ht e0 e11
  have c1:ilt (i:Int) (s.length:Int) = false:=by rw [qaw];simp;omega
  rw [qkD (by omega),qn]
  simp only [qeB,sT.1,sC.1,qf,qe,Nat.testBit,simprocAttr,-Int.reduceNatCast',ht,e0,e11,c1]
  exact ⟨_,rfl,by simp only [qK,ht],by simp only [sT.1,sC.1,qf,qe,Nat.testBit,simprocAttr,-Int.reduceNatCast',e0],by simp only [sT.1,sC.1,qf,qe,Nat.testBit,simprocAttr,-Int.reduceNatCast',e11],by simp only [sT.1,sC.1,qf,qe,Nat.testBit,simprocAttr,-Int.reduceNatCast'],by simp only [sT.1,sC.1,qf,qe,Nat.testBit,simprocAttr,-Int.reduceNatCast']⟩
 | succ k ih=>
  intro i tt hk ht e0 e11
  have hi:i < s.length:=by omega
  have c1:ilt (i:Int) (s.length:Int) = true:=by rw [qaw];simp;omega
  have hx:qeL (.str s) (.int .i64 (i:Nat)) = some (.int .u8 (s[i].toNat:Nat)):=qba (List.getElem?_eq_getElem hi)
  have w:=qap (n:=i) (by omega)
  rw [qn]
  generalize he:qH b Wd qeB _ = r
  cases hd:qaJ s[i] with
  | true=>
   rw [qgG hi hd]
   simp only [qeB,sT.1,sC.1,qf,qe,Nat.testBit,simprocAttr,-Int.reduceNatCast',ht,e0,e11,c1,hx,w,qhk,hd] at he
   subst he
   refine (ih (i + 1) _ (by omega) ?_ ?_ ?_).imp fun tt' g=>⟨g.1,g.2.1,g.2.2.1,g.2.2.2.1,g.2.2.2.2.1.trans ?_,g.2.2.2.2.2.trans ?_⟩
   all_goals simp only [sT.1,sC.1,qf,qe,Nat.testBit,simprocAttr,-Int.reduceNatCast',ht,e0]
  | false=>
   rw [qis hi hd]
   simp only [qeB,sT.1,sC.1,qf,qe,Nat.testBit,simprocAttr,-Int.reduceNatCast',ht,e0,e11,c1,hx,w,qhk,hd] at he
   subst he
   exact ⟨_,rfl,by simp only [qK,ht],by simp only [sT.1,sC.1,qf,qe,Nat.testBit,simprocAttr,-Int.reduceNatCast',e0],by simp only [sT.1,sC.1,qf,qe,Nat.testBit,simprocAttr,-Int.reduceNatCast',e11],by simp only [sT.1,sC.1,qf,qe,Nat.testBit,simprocAttr,-Int.reduceNatCast'],by simp only [sT.1,sC.1,qf,qe,Nat.testBit,simprocAttr,-Int.reduceNatCast']⟩
def qb5 (kind:Int) (s:Str) (n pos:Int):qc:=.agg [.int .i64 kind,.str s,.int .i64 n,.int .i64 pos]
theorem qmy (s:Str) (kind at_:Int) (i:Nat) (hi:i ≤ s.length) (hb:∀h:i < s.length,qb0 s[i] = false):Wd (.fn 225 [] []) [.str s,.int .i64 kind,.int .i64 at_,.int .i64 (i:Nat)] h = some (.ret (.tup [qb5 0 [] 0 at_,.int .i64 at_,.int .i64 5]),h,false):=by
 rw [qm rfl (show T.get 225 = some qy3 by kernel_rfl)]
 rcases Nat.lt_or_ge i s.length with h1 | h1
 ·have hx:qeL (.str s) (.int .i64 (i:Nat)) = some (.int .u8 (s[i].toNat:Nat)):=qba (List.getElem?_eq_getElem h1)
  have c1:((i:Int) == (s.length:Int)) = false:=by simp;omega
  simp only [qy3,sT.1,sC.1,qf,qe,Nat.testBit,simprocAttr,-Int.reduceNatCast',c1,hx,qd1,hb h1,qu]
  rfl
 ·have c1:((i:Int) == (s.length:Int)) = true:=by simp;omega
  simp only [qy3,sT.1,sC.1,qf,qe,Nat.testBit,simprocAttr,-Int.reduceNatCast',c1,qu]
  rfl
end
section
variable {h:List qx}
theorem qrO (s:Str) (hs:s.length ≤ 100000) (kind at_:Int) (i:Nat) (hi:i < s.length) (hb:qb0 s[i] = true):Wd (.fn 225 [] []) [.str s,.int .i64 kind,.int .i64 at_,.int .i64 (i:Nat)] h =
  if qaA qbC s i - i ≤ 16 then some (.ret (.tup [qb5 kind ((s.drop i).take (qaA qbC s i - i)) 0 at_,.int .i64 (qaA qbC s i:Nat),.int .i64 0]),h,false) else some (.ret (.tup [qb5 0 [] 0 at_,.int .i64 at_,.int .i64 9]),h,false):=by
 have hx:qeL (.str s) (.int .i64 (i:Nat)) = some (.int .u8 (s[i].toNat:Nat)):=qba (List.getElem?_eq_getElem hi)
 have c1:((i:Int) == (s.length:Int)) = false:=by simp;omega
 have hge:=qdj qbC s i
 have hle:=qcQ qbC s (Nat.le_of_lt hi)
 have w:IntKind.i64.wrap ((qaA qbC s i:Nat) - (i:Int)) = ((qaA qbC s i - i:Nat):Int):=by
  rw [qcA (by omega) (by omega)];omega
 have hsub:=qdJ hge hle
 rw [qm rfl (show T.get 225 = some qy3 by kernel_rfl)]
 generalize hR:qfU _ h _ = R
 simp only [qy3,sT.1,sC.1,qf,qe,Nat.testBit,simprocAttr,-Int.reduceNatCast',c1,hx,qd1,hb] at hR
 generalize hr:qH h.length Wd (.loop qgw) _ = r at hR
 obtain ⟨tt,rfl,ht,e0,e11,e1,e2,e3,e8⟩ :∃tt,r = some (.exit 0,⟨tt,h ++ [.cells [.int .i64 0,.str [],.int .i64 0,.int .i64 0]],false⟩)∧tt.length = 60∧lkp tt 0 = .str s∧lkp tt 11 = .int .i64 (qaA qbC s i:Nat)∧lkp tt 1 = .int .i64 kind∧lkp tt 2 = .int .i64 at_∧lkp tt 3 = .int .i64 (i:Nat)∧lkp tt 8 = .ptr h.length 0:=by
  rw [←hr]
  refine (qpx s hs (s.length - i) i _ (by omega) ?_ ?_ ?_).imp fun tt' g=>⟨g.1,g.2.1,g.2.2.1,g.2.2.2.1,g.2.2.2.2.1.trans ?_,g.2.2.2.2.2.1.trans ?_,g.2.2.2.2.2.2.1.trans ?_,g.2.2.2.2.2.2.2.trans ?_⟩
  all_goals simp only [sT.1,sC.1,qf,qe,Nat.testBit,simprocAttr,-Int.reduceNatCast']
 by_cases h16:qaA qbC s i - i ≤ 16
 ·have c2:ilt 16 ((qaA qbC s i - i:Nat):Int) = false:=by rw [qaw];simp;omega
  rw [if_pos h16,←hR]
  simp only [sT.1,sC.1,qf,qe,Nat.testBit,simprocAttr,-Int.reduceNatCast',ht,e0,e1,e2,e3,e8,e11,w,c2,qdX,hsub,qu]
  rfl
 ·have c2:ilt 16 ((qaA qbC s i - i:Nat):Int) = true:=by rw [qaw];simp;omega
  rw [if_neg h16,←hR]
  simp only [sT.1,sC.1,qf,qe,Nat.testBit,simprocAttr,-Int.reduceNatCast',ht,e0,e1,e2,e3,e8,e11,w,c2,qu]
  rfl
theorem qkG (s m:Str):Wd (.fn 228 [] []) [.str s,.str m] h = some (.ret (.bool (s.take m.length == m)),h,false):=by
 have inner:Wd (.fn 259 [] []) [.str s,.str m] h = some (.ret (.bool (s.take m.length == m)),h,false):=by
  rw [qm rfl (show T.get 259 = some qAD by kernel_rfl)]
  rcases Nat.lt_or_ge s.length m.length with h1 | h1
  ·have c1:ile (m.length:Int) (s.length:Int) = false:=by rw [qea];simp;omega
   have c2:(s.take m.length == m) = false:=by
    rw [beq_eq_false_iff_ne]
    intro e
    have:=congrArg List.length e
    rw [List.length_take] at this
    omega
   simp only [qAD,sT.1,sC.1,qf,qe,Nat.testBit,simprocAttr,-Int.reduceNatCast',c1,c2]
  ·have c1:ile (m.length:Int) (s.length:Int) = true:=by rw [qea];simp;omega
   simp only [qAD,sT.1,sC.1,qf,qe,Nat.testBit,simprocAttr,-Int.reduceNatCast',c1,qpr,Option.map_none,qzf h1]
 rw [qm rfl (show T.get 228 = some qCf by kernel_rfl)]
 simp only [qCf,sT.1,sC.1,qf,qe,Nat.testBit,simprocAttr,-Int.reduceNatCast',inner]
def qh4 (s:Str) (n:Int):Prop:=∀h,Wd (.fn 258 [] []) [.str s] h = some (.ret (.tup [.int .i64 n,.niliface]),h,false)
def qmq (s:Str):Prop:=∀h,∃n t v more,Wd (.fn 258 [] []) [.str s] h = some (.ret (.tup [.int .i64 n,.iface t v]),h ++ more,false)
def qrV (s:Str) (i:Nat) (hi:i < s.length):Bool:=s[i] == 48 && decide (1 < qaA qaJ s i - i)
theorem qBk (c:UInt8):((c.toNat:Int) == 48) = (c == 48):=by
 rw [Bool.eq_iff_iff,beq_iff_eq,beq_iff_eq]
 constructor
 ·intro h
  apply UInt8.toNat_inj.1
  show c.toNat = 48
  omega
 ·intro h
  subst h
  rfl
theorem qe7 (j:Nat) (t:List qc):qcf .niliface j t = t:=Eq.trans rfl rfl
theorem qwL:qkL 1 true .niliface .niliface = some (.bool false):=Eq.trans rfl rfl
theorem qwI (t:TypeId) (v:qc):qkL 1 true (.iface t v) .niliface = some (.bool true):=Eq.trans rfl rfl
theorem qkM (s:Str) (hs:s.length ≤ 100000) (i:Nat) (hi:i < s.length) (hb:qrV s i hi = true):Wd (.fn 227 [] []) [.str s,.int .i64 (i:Nat)] h = some (.ret (.tup [qb5 0 [] 0 i,.int .i64 (i:Nat),.int .i64 6]),h,false):=by
 rw [qrV,Bool.and_eq_true,decide_eq_true_eq] at hb
 have c2:ilt 1 ((qaA qaJ s i - i:Nat):Int) = true:=by rw [qaw];simp;omega
 have hx:qeL (.str s) (.int .i64 (i:Nat)) = some (.int .u8 (s[i].toNat:Nat)):=qba (List.getElem?_eq_getElem hi)
 have hge:=qdj qaJ s i
 have hle:=qcQ qaJ s (Nat.le_of_lt hi)
 have w:IntKind.i64.wrap ((qaA qaJ s i:Nat) - (i:Int)) = ((qaA qaJ s i - i:Nat):Int):=by
  rw [qcA (by omega) (by omega)];omega
 have hsub:=qdJ hge hle
 rw [qm rfl (show T.get 227 = some qo8 by kernel_rfl)]
 generalize hR:qfU _ h _ = R
 simp only [qo8,sT.1,sC.1,qf,qe,Nat.testBit,simprocAttr,-Int.reduceNatCast'] at hR
 generalize hr:qH h.length Wd (.loop qeB) _ = r at hR
 obtain ⟨tt,rfl,ht,e0,e7,e1,e4⟩ :∃tt,r = some (.exit 0,⟨tt,h ++ [.cells [.int .i64 0,.str [],.int .i64 0,.int .i64 0]],false⟩)∧tt.length = 53∧lkp tt 0 = .str s∧lkp tt 7 = .int .i64 (qaA qaJ s i:Nat)∧lkp tt 1 = .int .i64 (i:Nat)∧lkp tt 4 = .ptr h.length 0:=by
  rw [←hr]
  refine (qc2 s hs (s.length - i) i _ (by omega) ?_ ?_ ?_).imp fun tt' g=>⟨g.1,g.2.1,g.2.2.1,g.2.2.2.1,g.2.2.2.2.1.trans ?_,g.2.2.2.2.2.trans ?_⟩
  all_goals simp only [sT.1,sC.1,qf,qe,Nat.testBit,simprocAttr,-Int.reduceNatCast']
 rw [←hR]
 simp only [sT.1,sC.1,qf,qe,Nat.testBit,simprocAttr,-Int.reduceNatCast',ht,e0,e1,e4,e7,w,hx,qBk,hb.1,c2,qu]
 rfl
theorem qok (s:Str) (hs:s.length ≤ 100000) (i:Nat) (hi:i < s.length) (h0:(s[i] == 48) = false) {n:Int} (hn:qh4 ((s.drop i).take (qaA qaJ s i - i)) n):Wd (.fn 227 [] []) [.str s,.int .i64 (i:Nat)] h = some (.ret (.tup [qb5 1 [] n i,.int .i64 (qaA qaJ s i:Nat),.int .i64 0]),h,false):=by
 rw [qh4] at hn
 have hx:qeL (.str s) (.int .i64 (i:Nat)) = some (.int .u8 (s[i].toNat:Nat)):=qba (List.getElem?_eq_getElem hi)
 have hge:=qdj qaJ s i
 have hle:=qcQ qaJ s (Nat.le_of_lt hi)
 have w:IntKind.i64.wrap ((qaA qaJ s i:Nat) - (i:Int)) = ((qaA qaJ s i - i:Nat):Int):=by
  rw [qcA (by omega) (by omega)];omega
 have hsub:=qdJ hge hle
 rw [qm rfl (show T.get 227 = some qo8 by kernel_rfl)]
 generalize hR:qfU _ h _ = R
 simp only [qo8,sT.1,sC.1,qf,qe,Nat.testBit,simprocAttr,-Int.reduceNatCast'] at hR
 generalize hr:qH h.length Wd (.loop qeB) _ = r at hR
 obtain ⟨tt,rfl,ht,e0,e7,e1,e4⟩ :∃tt,r = some (.exit 0,⟨tt,h ++ [.cells [.int .i64 0,.str [],.int .i64 0,.int .i64 0]],false⟩)∧tt.length = 53∧lkp tt 0 = .str s∧lkp tt 7 = .int .i64 (qaA qaJ s i:Nat)∧lkp tt 1 = .int .i64 (i:Nat)∧lkp tt 4 = .ptr h.length 0:=by
  rw [←hr]
  refine (qc2 s hs (s.length - i) i _ (by omega) ?_ ?_ ?_).imp fun tt' g=>⟨g.1,g.2.1,g.2.2.1,g.2.2.2.1,g.2.2.2.2.1.trans ?_,g.2.2.2.2.2.trans ?_⟩
  all_goals simp only [sT.1,sC.1,qf,qe,Nat.testBit,simprocAttr,-Int.reduceNatCast']
 rw [←hR]
 simp only [sT.1,sC.1,qf,qe,Nat.testBit,simprocAttr,-Int.reduceNatCast',ht,e0,e1,e4,e7,w,hx,qBk,h0,qdX,hsub,hn,qu,qij,qwL,qe7]
 simp only [qb5]
theorem qoH (s:Str) (hs:s.length ≤ 100000) (i:Nat) (hi:i < s.length) (hb:qrV s i hi = false) (h0:(s[i] == 48) = true) {n:Int} (hn:qh4 ((s.drop i).take (qaA qaJ s i - i)) n):Wd (.fn 227 [] []) [.str s,.int .i64 (i:Nat)] h = some (.ret (.tup [qb5 1 [] n i,.int .i64 (qaA qaJ s i:Nat),.int .i64 0]),h,false):=by
 rw [qh4] at hn
 rw [qrV] at hb
 have hx:qeL (.str s) (.int .i64 (i:Nat)) = some (.int .u8 (s[i].toNat:Nat)):=qba (List.getElem?_eq_getElem hi)
 have hge:=qdj qaJ s i
 have hle:=qcQ qaJ s (Nat.le_of_lt hi)
 have w:IntKind.i64.wrap ((qaA qaJ s i:Nat) - (i:Int)) = ((qaA qaJ s i - i:Nat):Int):=by
  rw [qcA (by omega) (by omega)];omega
 have hsub:=qdJ hge hle
 rw [qm rfl (show T.get 227 = some qo8 by kernel_rfl)]
 generalize hR:qfU _ h _ = R
 simp only [qo8,sT.1,sC.1,qf,qe,Nat.testBit,simprocAttr,-Int.reduceNatCast'] at hR
 generalize hr:qH h.length Wd (.loop qeB) _ = r at hR
 obtain ⟨tt,rfl,ht,e0,e7,e1,e4⟩ :∃tt,r = some (.exit 0,⟨tt,h ++ [.cells [.int .i64 0,.str [],.int .i64 0,.int .i64 0]],false⟩)∧tt.length = 53∧lkp tt 0 = .str s∧lkp tt 7 = .int .i64 (qaA qaJ s i:Nat)∧lkp tt 1 = .int .i64 (i:Nat)∧lkp tt 4 = .ptr h.length 0:=by
  rw [←hr]
  refine (qc2 s hs (s.length - i) i _ (by omega) ?_ ?_ ?_).imp fun tt' g=>⟨g.1,g.2.1,g.2.2.1,g.2.2.2.1,g.2.2.2.2.1.trans ?_,g.2.2.2.2.2.trans ?_⟩
  all_goals simp only [sT.1,sC.1,qf,qe,Nat.testBit,simprocAttr,-Int.reduceNatCast']
 rw [←hR]
 rw [h0,Bool.true_and,decide_eq_false_iff_not] at hb
 have c2:ilt 1 ((qaA qaJ s i - i:Nat):Int) = false:=by rw [qaw];simp;omega
 simp only [sT.1,sC.1,qf,qe,Nat.testBit,simprocAttr,-Int.reduceNatCast',ht,e0,e1,e4,e7,w,hx,qBk,h0,c2,qdX,hsub,hn,qu,qij,qwL,qe7]
 simp only [qb5]
theorem qqo (s:Str) (hs:s.length ≤ 100000) (i:Nat) (hi:i < s.length) (hb:qrV s i hi = false) {n:Int} (hn:qh4 ((s.drop i).take (qaA qaJ s i - i)) n):Wd (.fn 227 [] []) [.str s,.int .i64 (i:Nat)] h = some (.ret (.tup [qb5 1 [] n i,.int .i64 (qaA qaJ s i:Nat),.int .i64 0]),h,false):=by
 cases h0:s[i] == 48 with
 | false=>exact qok s hs i hi h0 hn
 | true=>exact qoH s hs i hi hb h0 hn
theorem qiI (s:Str) (hs:s.length ≤ 100000) (i:Nat) (hi:i < s.length) (h0:(s[i] == 48) = false) (hn:qmq ((s.drop i).take (qaA qaJ s i - i))):Wd (.fn 227 [] []) [.str s,.int .i64 (i:Nat)] h = some (.ret (.tup [qb5 0 [] 0 i,.int .i64 (i:Nat),.int .i64 2]),h,false):=by
 obtain ⟨n,t,v,more,hn⟩:=hn (h ++ [.cells [.int .i64 0,.str [],.int .i64 0,.int .i64 0]])
 have hx:qeL (.str s) (.int .i64 (i:Nat)) = some (.int .u8 (s[i].toNat:Nat)):=qba (List.getElem?_eq_getElem hi)
 have hge:=qdj qaJ s i
 have hle:=qcQ qaJ s (Nat.le_of_lt hi)
 have w:IntKind.i64.wrap ((qaA qaJ s i:Nat) - (i:Int)) = ((qaA qaJ s i - i:Nat):Int):=by
  rw [qcA (by omega) (by omega)];omega
 have hsub:=qdJ hge hle
 rw [qm rfl (show T.get 227 = some qo8 by kernel_rfl)]
 generalize hR:qfU _ h _ = R
 simp only [qo8,sT.1,sC.1,qf,qe,Nat.testBit,simprocAttr,-Int.reduceNatCast'] at hR
 generalize hr:qH h.length Wd (.loop qeB) _ = r at hR
 obtain ⟨tt,rfl,ht,e0,e7,e1,e4⟩ :∃tt,r = some (.exit 0,⟨tt,h ++ [.cells [.int .i64 0,.str [],.int .i64 0,.int .i64 0]],false⟩)∧tt.length = 53∧lkp tt 0 = .str s∧lkp tt 7 = .int .i64 (qaA qaJ s i:Nat)∧lkp tt 1 = .int .i64 (i:Nat)∧lkp tt 4 = .ptr h.length 0:=by
  rw [←hr]
  refine (qc2 s hs (s.length - i) i _ (by omega) ?_ ?_ ?_).imp fun tt' g=>⟨g.1,g.2.1,g.2.2.1,g.2.2.2.1,g.2.2.2.2.1.trans ?_,g.2.2.2.2.2.trans ?_⟩
  all_goals simp only [sT.1,sC.1,qf,qe,Nat.testBit,simprocAttr,-Int.reduceNatCast']
 rw [←hR]
 simp only [sT.1,sC.1,qf,qe,Nat.testBit,simprocAttr,-Int.reduceNatCast',ht,e0,e1,e4,e7,w,hx,qBk,h0,qdX,hsub,hn,qu,qij,qwI,qhn,qjc]
 simp only [qb5]
theorem qiY (s:Str) (hs:s.length ≤ 100000) (i:Nat) (hi:i < s.length) (hb:qrV s i hi = false) (h0:(s[i] == 48) = true) (hn:qmq ((s.drop i).take (qaA qaJ s i - i))):Wd (.fn 227 [] []) [.str s,.int .i64 (i:Nat)] h = some (.ret (.tup [qb5 0 [] 0 i,.int .i64 (i:Nat),.int .i64 2]),h,false):=by
 obtain ⟨n,t,v,more,hn⟩:=hn (h ++ [.cells [.int .i64 0,.str [],.int .i64 0,.int .i64 0]])
 rw [qrV] at hb
 have hx:qeL (.str s) (.int .i64 (i:Nat)) = some (.int .u8 (s[i].toNat:Nat)):=qba (List.getElem?_eq_getElem hi)
 have hge:=qdj qaJ s i
 have hle:=qcQ qaJ s (Nat.le_of_lt hi)
 have w:IntKind.i64.wrap ((qaA qaJ s i:Nat) - (i:Int)) = ((qaA qaJ s i - i:Nat):Int):=by
  rw [qcA (by omega) (by omega)];omega
 have hsub:=qdJ hge hle
 rw [qm rfl (show T.get 227 = some qo8 by kernel_rfl)]
 generalize hR:qfU _ h _ = R
 simp only [qo8,sT.1,sC.1,qf,qe,Nat.testBit,simprocAttr,-Int.reduceNatCast'] at hR
 generalize hr:qH h.length Wd (.loop qeB) _ = r at hR
 obtain ⟨tt,rfl,ht,e0,e7,e1,e4⟩ :∃tt,r = some (.exit 0,⟨tt,h ++ [.cells [.int .i64 0,.str [],.int .i64 0,.int .i64 0]],false⟩)∧tt.length = 53∧lkp tt 0 = .str s∧lkp tt 7 = .int .i64 (qaA qaJ s i:Nat)∧lkp tt 1 = .int .i64 (i:Nat)∧lkp tt 4 = .ptr h.length 0:=by
  rw [←hr]
  refine (qc2 s hs (s.length - i) i _ (by omega) ?_ ?_ ?_).imp fun tt' g=>⟨g.1,g.2.1,g.2.2.1,g.2.2.2.1,g.2.2.2.2.1.trans ?_,g.2.2.2.2.2.trans ?_⟩
  all_goals simp only [sT.1,sC.1,qf,qe,Nat.testBit,simprocAttr,-Int.reduceNatCast']
 rw [←hR]
 rw [h0,Bool.true_and,decide_eq_false_iff_not] at hb
 have c2:ilt 1 ((qaA qaJ s i - i:Nat):Int) = false:=by rw [qaw];simp;omega
 simp only [sT.1,sC.1,qf,qe,Nat.testBit,simprocAttr,-Int.reduceNatCast',ht,e0,e1,e4,e7,w,hx,qBk,h0,c2,qdX,hsub,hn,qu,qij,qwI,qhn,qjc]
 simp only [qb5]
theorem qkl (s:Str) (hs:s.length ≤ 100000) (i:Nat) (hi:i < s.length) (hb:qrV s i hi = false) (hn:qmq ((s.drop i).take (qaA qaJ s i - i))):Wd (.fn 227 [] []) [.str s,.int .i64 (i:Nat)] h = some (.ret (.tup [qb5 0 [] 0 i,.int .i64 (i:Nat),.int .i64 2]),h,false):=by
 cases h0:s[i] == 48 with
 | false=>exact qiI s hs i hi h0 hn
 | true=>exact qiY s hs i hi hb h0 hn
end
section
variable {h:List qx}
def marks:List Str:=g1.map qBC
theorem qwm:g1 = marks.map qc.str:=by kernel_rfl
theorem qsz:marks.length = 17:=by kernel_rfl
def qoj (r m:Str):Bool:=r.take m.length == m
def qe6 (r:Str):Option Str:=marks.find? (qoj r)
theorem qor:∀m ∈ marks,m.length ≤ 2:=by
 have:marks.all (fun m=>decide (m.length ≤ 2)) = true:=by kernel_rfl
 intro m hm
 simpa using List.all_eq_true.1 this m hm
def qEv:qx:=.cells [.int .i64 0,.str [],.int .i64 0,.int .i64 0]
theorem qAn:qEv = .cells [.int .i64 0,.str [],.int .i64 0,.int .i64 0]:=Eq.trans rfl rfl
def qsR (h:List qx) (s:Str) (i:Nat) (r:Option (Ex×St)):Option Str→Prop
 | some m=>∃tt',r = some (.ret,⟨tt',h ++ [.cells [.int .i64 3,.str m,.int .i64 0,.int .i64 (i:Nat)]],false⟩)∧tt'.length = 72∧lkp tt' 4 = .ptr h.length 0∧lkp tt' 5 = .int .i64 (i + m.length:Nat)∧lkp tt' 6 = .int .i64 0
 | none=>∃tt',r = some (.exit 1,⟨tt',h ++ [qEv],false⟩)∧tt'.length = 72∧lkp tt' 0 = .str s∧lkp tt' 1 = .int .i64 (i:Nat)∧lkp tt' 4 = .ptr h.length 0
theorem qqt (s:Str) (hs:s.length ≤ 100000) (i:Nat) (hi:i ≤ s.length):∀(k j:Nat) (tt:List qc),j + k = 17→tt.length = 72→lkp tt 0 = .str s→lkp tt 1 = .int .i64 (i:Nat)→lkp tt 4 = .ptr h.length 0→lkp tt 52 = .agg g1→lkp tt 53 = .int .i64 (j:Nat)→
  qsR h s i (qH h.length Wd (.loop qhc) ⟨tt,h ++ [qEv],false⟩) ((marks.drop j).find? (qoj (s.drop i))):=by
 intro k
 have hlen:=qsz
 induction k with
 | zero=>
  intro j tt hj ht e0 e1 e4 e52 e53
  have c1:ilt (j:Int) 17 = false:=by rw [qaw];simp;omega
  rw [List.drop_eq_nil_of_le («as»:=marks) (by omega),List.find?_nil,qn]
  simp only [qhc,sT.1,sC.1,qf,qe,Nat.testBit,simprocAttr,-Int.reduceNatCast',ht,e53,c1]
  exact ⟨_,rfl,by simp only [qK,ht],by simp only [sT.1,sC.1,qf,qe,Nat.testBit,simprocAttr,-Int.reduceNatCast',e0],by simp only [sT.1,sC.1,qf,qe,Nat.testBit,simprocAttr,-Int.reduceNatCast',e1],by simp only [sT.1,sC.1,qf,qe,Nat.testBit,simprocAttr,-Int.reduceNatCast',e4]⟩
 | succ k ih=>
  intro j tt hj ht e0 e1 e4 e52 e53
  have hj2:j < marks.length:=by omega
  have c1:ilt (j:Int) 17 = true:=by rw [qaw];simp;omega
  have hx:qjj 17 none (.agg g1) (.int .i64 (j:Nat)) = some (.str marks[j]):=by
   rw [qmR (v:=.str marks[j]) (by omega) (by rw [qwm,List.getElem?_map,List.getElem?_eq_getElem hj2];rfl)]
   rfl
  have hsm:=qor _ (List.getElem_mem hj2)
  have w:=qap (n:=j) (by omega)
  have hsub:=qhF hi
  have w2:IntKind.i64.wrap ((i:Int) + (marks[j].length:Int)) = ((i + marks[j].length:Nat):Int):=by
   rw [qcA (by omega) (by omega)];omega
  rw [List.drop_eq_getElem_cons hj2,qn]
  generalize he:qH h.length Wd qhc _ = r
  cases hb:((s.drop i).take marks[j].length == marks[j]) with
  | true=>
   rw [List.find?_cons_of_pos (p:=qoj (s.drop i)) hb]
   simp only [qhc,sT.1,sC.1,qf,qe,Nat.testBit,simprocAttr,-Int.reduceNatCast',ht,e0,e1,e4,e52,e53,c1,hx,qdX,Option.map_none,hsub,qkG,hb,qu,w2,qAn] at he
   subst he
   exact ⟨_,rfl,by simp only [qK,ht],by simp only [sT.1,sC.1,qf,qe,Nat.testBit,simprocAttr,-Int.reduceNatCast',e4],by simp only [sT.1,sC.1,qf,qe,Nat.testBit,simprocAttr,-Int.reduceNatCast',ht],by simp only [sT.1,sC.1,qf,qe,Nat.testBit,simprocAttr,-Int.reduceNatCast',ht]⟩
  | false=>
   rw [List.find?_cons_of_neg (p:=qoj (s.drop i)) (by rw [qoj,hb];exact Bool.false_ne_true)]
   simp only [qhc,sT.1,sC.1,qf,qe,Nat.testBit,simprocAttr,-Int.reduceNatCast',ht,e0,e1,e4,e52,e53,c1,hx,qdX,Option.map_none,hsub,qkG,hb,w] at he
   subst he
   refine ih (j + 1) _ (by omega) ?_ ?_ ?_ ?_ ?_ ?_
   all_goals simp only [sT.1,sC.1,qf,qe,Nat.testBit,simprocAttr,-Int.reduceNatCast',ht,e0,e1,e4,e52]
theorem qr2:cut g1 0 (some 17) = some (.agg g1):=by kernel_rfl
theorem qDy (c:UInt8):((c.toNat:Int) == 39) = (c == 39):=by
 rw [Bool.eq_iff_iff,beq_iff_eq,beq_iff_eq]
 constructor
 ·intro h
  apply UInt8.toNat_inj.1
  show c.toNat = 39
  omega
 ·intro h
  subst h
  rfl
theorem qvx (s:Str):Wd (.fn 178 [] []) [.str s,.int .i64 (s.length:Nat)] h = some (.ret (.tup [qb5 4 [] 0 s.length,.int .i64 (s.length:Nat),.int .i64 0]),h,false):=by
 rw [qm rfl (show T.get 178 = some qpb by kernel_rfl)]
 simp only [qpb,sT.1,sC.1,qf,qe,Nat.testBit,simprocAttr,-Int.reduceNatCast',qu,qb5]
section
variable {s:Str} {i:Nat} (hi:i < s.length)
include hi
theorem qsV {k n p to e:Int} {w:Str} (h1:qb0 s[i] = true) (hn:∀h,Wd (.fn 225 [] []) [.str s,.int .i64 0,.int .i64 (i:Nat),.int .i64 (i:Nat)] h = some (.ret (.tup [qb5 k w n p,.int .i64 to,.int .i64 e]),h,false)):Wd (.fn 178 [] []) [.str s,.int .i64 (i:Nat)] h = some (.ret (.tup [qb5 k w n p,.int .i64 to,.int .i64 e]),h,false):=by
 have hx:qeL (.str s) (.int .i64 (i:Nat)) = some (.int .u8 (s[i].toNat:Nat)):=qba (List.getElem?_eq_getElem hi)
 have c1:((i:Int) == (s.length:Int)) = false:=by simp;omega
 simp only [qb5] at hn
 rw [qm rfl (show T.get 178 = some qpb by kernel_rfl)]
 simp only [qpb,sT.1,sC.1,qf,qe,Nat.testBit,simprocAttr,-Int.reduceNatCast',c1,hx,qd1,h1,hn,qb5]
theorem qvQ {k n p to e:Int} {w:Str} (h1:qb0 s[i] = false) (h2:(s[i] == 39) = true) (hl:s.length ≤ 100000) (hn:∀h,Wd (.fn 225 [] []) [.str s,.int .i64 2,.int .i64 (i:Nat),.int .i64 (i + 1:Nat)] h = some (.ret (.tup [qb5 k w n p,.int .i64 to,.int .i64 e]),h,false)):Wd (.fn 178 [] []) [.str s,.int .i64 (i:Nat)] h = some (.ret (.tup [qb5 k w n p,.int .i64 to,.int .i64 e]),h,false):=by
 have hx:qeL (.str s) (.int .i64 (i:Nat)) = some (.int .u8 (s[i].toNat:Nat)):=qba (List.getElem?_eq_getElem hi)
 have c1:((i:Int) == (s.length:Int)) = false:=by simp;omega
 have w:=qap (n:=i) (by omega)
 simp only [qb5] at hn
 rw [qm rfl (show T.get 178 = some qpb by kernel_rfl)]
 simp only [qpb,sT.1,sC.1,qf,qe,Nat.testBit,simprocAttr,-Int.reduceNatCast',c1,hx,qd1,h1,qDy,h2,w,hn,qb5]
theorem qwb {k n p to e:Int} {w:Str} (h1:qb0 s[i] = false) (h2:(s[i] == 39) = false) (h3:qaJ s[i] = true) (hn:∀h,Wd (.fn 227 [] []) [.str s,.int .i64 (i:Nat)] h = some (.ret (.tup [qb5 k w n p,.int .i64 to,.int .i64 e]),h,false)):Wd (.fn 178 [] []) [.str s,.int .i64 (i:Nat)] h = some (.ret (.tup [qb5 k w n p,.int .i64 to,.int .i64 e]),h,false):=by
 have hx:qeL (.str s) (.int .i64 (i:Nat)) = some (.int .u8 (s[i].toNat:Nat)):=qba (List.getElem?_eq_getElem hi)
 have c1:((i:Int) == (s.length:Int)) = false:=by simp;omega
 simp only [qb5] at hn
 rw [qm rfl (show T.get 178 = some qpb by kernel_rfl)]
 simp only [qpb,sT.1,sC.1,qf,qe,Nat.testBit,simprocAttr,-Int.reduceNatCast',c1,hx,qd1,qhk,h1,qDy,h2,h3,hn,qb5]
def qw4 (s:Str) (i:Nat):Option Str→List qc
 | some m=>[qb5 3 m 0 i,.int .i64 (i + m.length:Nat),.int .i64 0]
 | none=>[qb5 0 [] 0 i,.int .i64 (i:Nat),.int .i64 5]
theorem qpV (h1:qb0 s[i] = false) (h2:(s[i] == 39) = false) (h3:qaJ s[i] = false) (hl:s.length ≤ 100000):Wd (.fn 178 [] []) [.str s,.int .i64 (i:Nat)] h = some (.ret (.tup (qw4 s i (qe6 (s.drop i)))),h,false):=by
 have hx:qeL (.str s) (.int .i64 (i:Nat)) = some (.int .u8 (s[i].toNat:Nat)):=qba (List.getElem?_eq_getElem hi)
 have c1:((i:Int) == (s.length:Int)) = false:=by simp;omega
 rw [qm rfl (show T.get 178 = some qpb by kernel_rfl)]
 generalize hR:qfU _ h _ = R
 simp only [qpb,sT.1,sC.1,qf,qe,Nat.testBit,simprocAttr,-Int.reduceNatCast',c1,hx,qd1,qhk,h1,qDy,h2,h3,qr2] at hR
 generalize hr:qH h.length Wd (.loop qhc) _ = r at hR
 have q:qsR h s i r (qe6 (s.drop i)):=by
  rw [←hr]
  refine qqt s hl i (by omega) 17 0 _ (by omega) ?_ ?_ ?_ ?_ ?_ ?_
  all_goals simp only [sT.1,sC.1,qf,qe,Nat.testBit,simprocAttr,-Int.reduceNatCast',Int.natCast_zero]
 rw [←hR]
 cases hm:qe6 (s.drop i) with
 | some m=>
  rw [hm] at q
  obtain ⟨tt,rfl,ht,e4,e5,e6⟩:=q
  simp only [sT.1,sC.1,qf,qe,Nat.testBit,simprocAttr,-Int.reduceNatCast',ht,e4,e5,e6,qw4,qb5]
 | none=>
  rw [hm] at q
  obtain ⟨tt,rfl,ht,e0,e1,e4⟩:=q
  rw [qAn]
  simp only [sT.1,sC.1,qf,qe,Nat.testBit,simprocAttr,-Int.reduceNatCast',ht,e0,e1,e4,qu,qw4,qb5]
end
end
section
variable {h:List qx}
def blank (c:UInt8):Bool:=(c.toNat:Int) == 32 || (c.toNat:Int) == 9 || (c.toNat:Int) == 10
def sharp (c:UInt8):Bool:=(c.toNat:Int) == 35
def qcL (s:Str):Option Nat:=s.findIdx? (· == 10)
def qdY (s:Str):Int:=match qcL s with
 | some k=>k
 | none=>-1
def qcF:Prop:=∀(s:Str) (h:List qx),Wd (.fn 229 [] []) [.str s,.int .u8 10] h = some (.ret (.int .i64 (qdY s)),h,false)
inductive qhN (s:Str):Nat→Nat→Prop
 | done:qhN s s.length s.length
 | blank {i j} (hi:i < s.length):blank s[i] = true→qhN s (i + 1) j→qhN s i j
 | line {i j k} (hi:i < s.length):blank s[i] = false→sharp s[i] = true→qcL (s.drop i) = some k→qhN s (i + k + 1) j→qhN s i j
 | last {i} (hi:i < s.length):blank s[i] = false→sharp s[i] = true→qcL (s.drop i) = none→qhN s i s.length
 | word {i} (hi:i < s.length):blank s[i] = false→sharp s[i] = false→qhN s i i
theorem qik {s:Str} {k:Nat} (h:qcL s = some k):k < s.length:=by
 rw [qcL,List.findIdx?_eq_some_iff_getElem] at h
 exact h.1
theorem qhN.le {s:Str} {i j:Nat} (h:qhN s i j):i ≤ j∧j ≤ s.length:=by
 induction h with
 | done=>omega
 | blank hi _ _ ih=>omega
 | line hi _ _ _ _ ih=>omega
 | last hi _ _ _=>omega
 | word hi _ _=>omega
theorem qhN.ex (s:Str):∀(n i:Nat),s.length - i ≤ n→i ≤ s.length→∃j,qhN s i j:=by
 intro n
 induction n with
 | zero=>
  intro i h1 h2
  have:i = s.length:=by omega
  subst this
  exact ⟨_,.done⟩
 | succ n ih=>
  intro i h1 h2
  rcases Nat.lt_or_ge i s.length with hi | hi
  ·cases hb:AE.blank s[i] with
   | true=>
    obtain ⟨j,hj⟩:=ih (i + 1) (by omega) (by omega)
    exact ⟨j,.blank hi hb hj⟩
   | false=>
    cases hs:sharp s[i] with
    | false=>exact ⟨i,.word hi hb hs⟩
    | true=>
     cases hl:qcL (s.drop i) with
     | none=>exact ⟨_,.last hi hb hs hl⟩
     | some k=>
      have:=qik hl
      rw [List.length_drop] at this
      obtain ⟨j,hj⟩:=ih (i + k + 1) (by omega) (by omega)
      exact ⟨j,.line hi hb hs hl hj⟩
  ·have:i = s.length:=by omega
   subst this
   exact ⟨_,.done⟩
def qq8 (h:List qx) (j:Nat) (r:Option (Ex×St)):Prop:=
 (∃tt,r = some (.exit 0,⟨tt,h,false⟩)∧tt.length = 34∧lkp tt 1 = .int .i64 (j:Nat))∨(∃tt,r = some (.ret,⟨tt,h,false⟩)∧tt.length = 34∧lkp tt 4 = .int .i64 (j:Nat))
theorem qra (hx:qcF) {s:Str} (hs:s.length ≤ 100000) {i j:Nat} (hk:qhN s i j):∀tt:List qc,tt.length = 34→lkp tt 0 = .str s→lkp tt 1 = .int .i64 (i:Nat)→qq8 h j (qH h.length Wd (.loop qdm) ⟨tt,h,false⟩):=by
 rw [qcF] at hx
 induction hk with
 | done=>
  intro tt ht e0 e1
  have c1:ilt (s.length:Int) (s.length:Int) = false:=by rw [qaw];simp
  rw [qn]
  simp only [qdm,sT.1,sC.1,qf,qe,Nat.testBit,simprocAttr,-Int.reduceNatCast',ht,e0,e1,c1]
  exact .inl ⟨_,rfl,by simp only [qK,ht],by simp only [sT.1,sC.1,qf,qe,Nat.testBit,simprocAttr,-Int.reduceNatCast',e1]⟩
 | @blank i j hi hb _ ih=>
  intro tt ht e0 e1
  have c1:ilt (i:Int) (s.length:Int) = true:=by rw [qaw];simp;omega
  have hg:qeL (.str s) (.int .i64 (i:Nat)) = some (.int .u8 (s[i].toNat:Nat)):=qba (List.getElem?_eq_getElem hi)
  have w:=qap (n:=i) (by omega)
  rw [qn]
  generalize he:qH h.length Wd qdm _ = r
  rw [AE.blank] at hb
  cases q1:((s[i].toNat:Int) == 32) with
  | true=>
   simp only [qdm,sT.1,sC.1,qf,qe,Nat.testBit,simprocAttr,-Int.reduceNatCast',ht,e0,e1,c1,hg,w,q1] at he
   subst he
   refine ih _ ?_ ?_ ?_
   all_goals simp only [sT.1,sC.1,qf,qe,Nat.testBit,simprocAttr,-Int.reduceNatCast',ht,e0]
  | false=>
   cases q2:((s[i].toNat:Int) == 9) with
   | true=>
    simp only [qdm,sT.1,sC.1,qf,qe,Nat.testBit,simprocAttr,-Int.reduceNatCast',ht,e0,e1,c1,hg,w,q1,q2] at he
    subst he
    refine ih _ ?_ ?_ ?_
    all_goals simp only [sT.1,sC.1,qf,qe,Nat.testBit,simprocAttr,-Int.reduceNatCast',ht,e0]
   | false=>
    have q3:((s[i].toNat:Int) == 10) = true:=by simpa [q1,q2] using hb
    simp only [qdm,sT.1,sC.1,qf,qe,Nat.testBit,simprocAttr,-Int.reduceNatCast',ht,e0,e1,c1,hg,w,q1,q2,q3] at he
    subst he
    refine ih _ ?_ ?_ ?_
    all_goals simp only [sT.1,sC.1,qf,qe,Nat.testBit,simprocAttr,-Int.reduceNatCast',ht,e0]
 | @line i j k hi hb hh hl _ ih=>
  intro tt ht e0 e1
  have c1:ilt (i:Int) (s.length:Int) = true:=by rw [qaw];simp;omega
  have hg:qeL (.str s) (.int .i64 (i:Nat)) = some (.int .u8 (s[i].toNat:Nat)):=qba (List.getElem?_eq_getElem hi)
  have hkl:=qik hl
  rw [List.length_drop] at hkl
  have w:=qap (n:=i + k) (by omega)
  have w2:IntKind.i64.wrap ((i:Int) + (k:Int)) = ((i + k:Nat):Int):=by rw [qcA (by omega) (by omega)];omega
  have hI:qdY (s.drop i) = (k:Int):=by rw [qdY,hl]
  have c2:ilt (k:Int) 0 = false:=by rw [qaw];simp
  have hsub:=qhF (Nat.le_of_lt hi)
  rw [qn]
  generalize he:qH h.length Wd qdm _ = r
  simp only [AE.blank,Bool.or_eq_false_iff] at hb
  rw [sharp] at hh
  simp only [qdm,sT.1,sC.1,qf,qe,Nat.testBit,simprocAttr,-Int.reduceNatCast',ht,e0,e1,c1,hg,hb.1.1,hb.1.2,hb.2,hh,qdX,Option.map_none,hsub,hx,hI,c2,w2,w] at he
  subst he
  refine ih _ ?_ ?_ ?_
  all_goals simp only [sT.1,sC.1,qf,qe,Nat.testBit,simprocAttr,-Int.reduceNatCast',ht,e0]
 | @last i hi hb hh hl=>
  intro tt ht e0 e1
  have c1:ilt (i:Int) (s.length:Int) = true:=by rw [qaw];simp;omega
  have hg:qeL (.str s) (.int .i64 (i:Nat)) = some (.int .u8 (s[i].toNat:Nat)):=qba (List.getElem?_eq_getElem hi)
  have hI:qdY (s.drop i) = -1:=by rw [qdY,hl]
  have c2:ilt (-1) 0 = true:=by kernel_rfl
  have hsub:=qhF (Nat.le_of_lt hi)
  rw [qn]
  generalize he:qH h.length Wd qdm _ = r
  simp only [AE.blank,Bool.or_eq_false_iff] at hb
  rw [sharp] at hh
  simp only [qdm,sT.1,sC.1,qf,qe,Nat.testBit,simprocAttr,-Int.reduceNatCast',ht,e0,e1,c1,hg,hb.1.1,hb.1.2,hb.2,hh,qdX,Option.map_none,hsub,hx,hI,c2] at he
  subst he
  exact .inr ⟨_,rfl,by simp only [qK,ht],by simp only [sT.1,sC.1,qf,qe,Nat.testBit,simprocAttr,-Int.reduceNatCast',ht]⟩
 | @word i hi hb hh=>
  intro tt ht e0 e1
  have c1:ilt (i:Int) (s.length:Int) = true:=by rw [qaw];simp;omega
  have hg:qeL (.str s) (.int .i64 (i:Nat)) = some (.int .u8 (s[i].toNat:Nat)):=qba (List.getElem?_eq_getElem hi)
  rw [qn]
  generalize he:qH h.length Wd qdm _ = r
  simp only [AE.blank,Bool.or_eq_false_iff] at hb
  rw [sharp] at hh
  simp only [qdm,sT.1,sC.1,qf,qe,Nat.testBit,simprocAttr,-Int.reduceNatCast',ht,e0,e1,c1,hg,hb.1.1,hb.1.2,hb.2,hh] at he
  subst he
  exact .inr ⟨_,rfl,by simp only [qK,ht],by simp only [sT.1,sC.1,qf,qe,Nat.testBit,simprocAttr,-Int.reduceNatCast',ht]⟩
theorem qlu (hx:qcF) {s:Str} (hs:s.length ≤ 100000) {i j:Nat} (hk:qhN s i j):Wd (.fn 179 [] []) [.str s,.int .i64 (i:Nat)] h = some (.ret (.int .i64 (j:Nat)),h,false):=by
 rw [qm rfl (show T.get 179 = some qCl by kernel_rfl)]
 generalize hR:qfU _ h _ = R
 simp only [qCl,sT.1,sC.1,qf,qe,Nat.testBit,simprocAttr,-Int.reduceNatCast'] at hR
 generalize hr:qH h.length Wd (.loop qdm) _ = r at hR
 have q:qq8 h j r:=by
  rw [←hr]
  refine qra hx hs hk _ ?_ ?_ ?_
  all_goals simp only [sT.1,sC.1,qf,qe,Nat.testBit,simprocAttr,-Int.reduceNatCast']
 rw [←hR]
 rcases q with ⟨tt,rfl,ht,e1⟩ | ⟨tt,rfl,ht,e4⟩
 ·simp only [sT.1,sC.1,qf,qe,Nat.testBit,simprocAttr,-Int.reduceNatCast',ht,e1]
 ·simp only [sT.1,sC.1,qf,qe,Nat.testBit,simprocAttr,-Int.reduceNatCast',ht,e4]
end
section
variable {h:List qx}
def qbv:qV:=(.seq (.reg [ao 6 (.new [(.int .i64 0),(.str []),(.int .i64 0),(.int .i64 0)]),an (.st (some 4) (.t 6) (.t 10))]) (.reg [ao 7 (.asg (.t 11))]))
def qFW (xs:List qc):qgA:=bif xs.isEmpty then .full else .own 4
theorem qAz (t:List qc) (p:Nat) (ps:List Nat) (a:qc) (aS:List qc):qjC t (p :: ps) (a :: aS) = qjC (up t p a) ps aS:=Eq.trans rfl rfl
theorem qAH (t aS:List qc):qjC t [] aS = t:=by cases aS <;> exact Eq.trans rfl rfl
theorem qv3 (xs:List qc) (hx:∀x ∈ xs,x.cells.length = 4) (hl:xs.length ≤ 100000) (k:Int) (w:Str) (n p:Int):qdw 4 xs [.agg [.int .i64 k,.str w,.int .i64 n,.int .i64 p]] = true:=by
 simp only [qdw,Bool.and_eq_true,decide_eq_true_eq]
 refine ⟨⟨?_,?_⟩,?_⟩
 ·simp only [List.length_cons,List.length_nil,qcs];omega
 ·simp [qc.cells,qc.storable]
 ·cases xs with
  | nil=>rfl
  | cons x xs=>simp [hx x (by simp)]
theorem qif (m:Nat):∀xs ys:List qc,qD m xs = true→qD m ys = true→qD m (xs ++ ys) = true
 | [],ys,_,h=>h
 | x :: xs,ys,h1,h2=>by
  rw [qdU,Bool.and_eq_true] at h1
  rw [List.cons_append,qdU,h1.1,qif m xs ys h1.2 h2]
  rfl
theorem qBQ (k:Int) (w:Str) (n p:Int):qfc 4 [.int .i64 0,.str [],.int .i64 0,.int .i64 0] 1 [(0,.agg [.int .i64 k,.str w,.int .i64 n,.int .i64 p])] = some (.lst [.agg [.int .i64 k,.str w,.int .i64 n,.int .i64 p]] .full):=qdG (Eq.trans rfl rfl) (by omega) (Eq.trans rfl rfl) (Eq.trans rfl rfl) (by omega)
theorem qit {H:List qx} {tab:List qc} {xs:List qc} {f:qgA} (hf:(f = .full∧xs = [])∨f = .own 4) {q l:Nat} (ht:tab.length = 22) (e5:lkp tab 5 = .ptr q 0) (hq:H[q]? = some (.cells [.lst xs f])) (hl:H[l]? = some (.loop tab [10,11] qbv qdy .ready none)) (hne:q ≠ l) (hx:∀x ∈ xs,x.cells.length = 4) (hn:xs.length ≤ 100000) (hlow:∀m,qD m xs = true) (k:Int) (w:Str) (n p:Int) :
  Wd (.yld l) [qb5 k w n p,.int .i64 0] H = some (.ret (.bool true),H.set q (.cells [.lst (xs ++ [qb5 k w n p]) (.own 4)]),false):=by
 have hql:q < H.length:=(List.getElem?_eq_some_iff.1 hq).1
 have hll:l < H.length:=(List.getElem?_eq_some_iff.1 hl).1
 have hap:=qv3 xs hx hn k w n p
 have hlo:∀m,qD m (xs ++ [.agg [.int .i64 k,.str w,.int .i64 n,.int .i64 p]]) = true:=fun m=>qif m _ _ (hlow m) (Eq.trans rfl rfl)
 have hqb:Nat.ble H.length q = false:=by rw [Bool.eq_false_iff];intro h;have:=Nat.le_of_ble_eq_true h;omega
 let busy:qx:=.loop tab [10,11] qbv qdy .busy none
 have A:qH H.length Wd qbv ⟨qjC tab [10,11] ([qb5 k w n p,.int .i64 0].map qc.dim),H,false⟩ = some (.nor,⟨up (up (up (up tab 10 (qb5 k w n p)) 11 (.int .i64 0)) 6 (.ptr H.length 0)) 7 (.int .i64 0),H ++ [.cells [.int .i64 k,.str w,.int .i64 n,.int .i64 p]],false⟩):=by
  simp only [qbv,qAz,qAH,qb5,sT.1,sC.1,qf,qe,Nat.testBit,simprocAttr,-Int.reduceNatCast',ht]
 have hlen:(H.set l busy).length = H.length:=by simp
 have hq2:(H.set l busy)[q]? = some (.cells [.lst xs f]):=by rw [List.getElem?_set_ne (by omega)];exact hq
 have B:∃tt,qH H.length Wd qdy ⟨up (up (up (up tab 10 (qb5 k w n p)) 11 (.int .i64 0)) 6 (.ptr H.length 0)) 7 (.int .i64 0),(H ++ [qx.cells [.int .i64 k,.str w,.int .i64 n,.int .i64 p]]).set l busy,false⟩ = some (Ex.nor,⟨tt,(H.set l busy).set q (.cells [.lst (xs ++ [qb5 k w n p]) (.own 4)]) ++ [qx.cells [.int .i64 k,.str w,.int .i64 n,.int .i64 p]],false⟩):=by
  rw [List.set_append_left _ _ hll]
  revert hq2 hlen
  generalize H.set l busy = Hb
  intro hlen hq2
  have hql2:q < Hb.length:=by omega
  generalize he:qH H.length Wd _ _ = r
  rcases hf with ⟨rfl,rfl⟩ | rfl
  ·simp only [qdy,sT.1,sC.1,sTA.1,sCA.1,qf,qbe,qbf,Src.isTmp,qay,Src.hangs,qz.isT,qbc,qe,Nat.testBit,bne,simprocAttr,-Int.reduceNatCast',qb5,ht,e5,hq2,hql,hlen,List.length_set,qcE hlen,qcv hql2,qu,hap,qBQ,hlo] at he
   subst he
   exact ⟨_,by simp only [qb5,List.nil_append];rfl⟩
  ·simp only [qdy,sT.1,sC.1,sTA.1,sCA.1,qf,qbe,qbf,Src.isTmp,qay,Src.hangs,qz.isT,qbc,qe,Nat.testBit,bne,simprocAttr,-Int.reduceNatCast',qb5,ht,e5,hq2,hql,hlen,List.length_set,qcE hlen,qcv hql2,qu,hap,qBQ,hlo] at he
   subst he
   exact ⟨_,by simp only [qb5,List.nil_append];rfl⟩
 obtain ⟨tt,B⟩:=B
 have hls:l < ((H.set l busy).set q (qx.cells [.lst (xs ++ [qb5 k w n p]) (.own 4)])).length:=by simpa using hll
 rw [show Wd (.yld l) [qb5 k w n p,.int .i64 0] H = qkz Wd l [qb5 k w n p,.int .i64 0] H from qBi qgC]
 refine qkf (call:=Wd) hl rfl A (t1:=tab) (ps1:=[10,11]) (asg1:=qbv) (body1:=qdy) (pend1:=none) ?_ B (t2:=tab) (ps2:=[10,11]) (asg2:=qbv) (body2:=qdy) (st2:=.busy) (pend2:=none) ?_ ?_
 ·rw [List.getElem?_append_left hll]
  exact hl
 ·rw [List.getElem?_append_left hls,List.getElem?_set_ne hne,List.getElem?_set_self hll]
 ·rw [qiD]
  refine congrArg some (qb7 ?_ rfl)
  rw [List.set_append_left _ _ hls,List.take_append_of_le_length (by simp),List.take_of_length_le (by simp),List.set_comm _ _ (Ne.symm hne),List.set_set]
  apply List.ext_getElem?
  intro j
  by_cases hj:l = j
  ·subst hj
   rw [List.getElem?_set_self (by simpa using hll),List.getElem?_set_ne hne,hl]
  ·rw [List.getElem?_set_ne hj]
theorem qpu {H:List qx} {tab:List qc} {a l:Nat} {x0 x1:Int} (ht:tab.length = 22) (e2:lkp tab 2 = .ptr a 0) (e3:lkp tab 3 = .ptr (a + 1) 0) (e4:lkp tab 4 = .ptr (a + 1 + 1) 0) (h0:H[a]? = some (.cells [.lst [] .full])) (h1:H[a + 1]? = some (.cells [.int .i64 x0])) (h2:H[a + 1 + 1]? = some (.cells [.int .i64 x1])) (hl:H[l]? = some (.loop tab [10,11] qbv qdy .ready none)) (hal:a + 1 + 1 < l) (k:Int) (w:Str) (n p e:Int) (he0:(e == 0) = false) :
  Wd (.yld l) [qb5 k w n p,.int .i64 e] H = some (.ret (.bool false),(((H.set a (.cells [.lst [] .full])).set (a + 1) (.cells [.int .i64 p])).set (a + 1 + 1) (.cells [.int .i64 e])).set l (.loop tab [10,11] qbv qdy .done (some .ret)),false):=by
 have hll:l < H.length:=(List.getElem?_eq_some_iff.1 hl).1
 let busy:qx:=.loop tab [10,11] qbv qdy .busy none
 have A:qH H.length Wd qbv ⟨qjC tab [10,11] ([qb5 k w n p,.int .i64 e].map qc.dim),H,false⟩ = some (.nor,⟨up (up (up (up tab 10 (qb5 k w n p)) 11 (.int .i64 e)) 6 (.ptr H.length 0)) 7 (.int .i64 e),H ++ [.cells [.int .i64 k,.str w,.int .i64 n,.int .i64 p]],false⟩):=by
  simp only [qbv,qAz,qAH,qb5,sT.1,sC.1,qf,qe,Nat.testBit,simprocAttr,-Int.reduceNatCast',ht]
 have hlen:(H.set l busy).length = H.length:=by simp
 have g0:(H.set l busy)[a]? = some (.cells [.lst [] .full]):=by rw [List.getElem?_set_ne (by omega)];exact h0
 have g1':(H.set l busy)[a + 1]? = some (.cells [.int .i64 x0]):=by rw [List.getElem?_set_ne (by omega)];exact h1
 have g2':(H.set l busy)[a + 1 + 1]? = some (.cells [.int .i64 x1]):=by rw [List.getElem?_set_ne (by omega)];exact h2
 have B:∃tt,qH H.length Wd qdy ⟨up (up (up (up tab 10 (qb5 k w n p)) 11 (.int .i64 e)) 6 (.ptr H.length 0)) 7 (.int .i64 e),(H ++ [qx.cells [.int .i64 k,.str w,.int .i64 n,.int .i64 p]]).set l busy,false⟩ = some (Ex.ret,⟨tt,(((H.set l busy).set a (.cells [.lst [] .full])).set (a + 1) (.cells [.int .i64 p])).set (a + 1 + 1) (.cells [.int .i64 e]) ++ [qx.cells [.int .i64 k,.str w,.int .i64 n,.int .i64 p]],false⟩):=by
  rw [List.set_append_left _ _ hll]
  revert g0 g1' g2' hlen
  generalize H.set l busy = Hb
  intro hlen g0 g1' g2'
  have q0:a < H.length:=by omega
  have q1:a + 1 < H.length:=by omega
  have q2:a + 1 + 1 < H.length:=by omega
  have n1:a ≠ a + 1:=by omega
  have n2:a ≠ a + 1 + 1:=by omega
  have n3:a + 1 ≠ a + 1 + 1:=by omega
  generalize he:qH H.length Wd _ _ = r
  simp only [qdy,sT.1,sC.1,sTA.1,sCA.1,qf,qbe,qbf,Src.isTmp,qay,Src.hangs,qz.isT,qbc,qe,Nat.testBit,bne,simprocAttr,-Int.reduceNatCast',qb5,ht,e2,e3,e4,he0,g0,g1',g2',q0,q1,q2,n1,n2,n3,hlen,List.length_set,qcE hlen] at he
  subst he
  exact ⟨_,rfl⟩
 obtain ⟨tt,B⟩:=B
 have hls:l < ((((H.set l busy).set a (.cells [.lst [] .full])).set (a + 1) (.cells [.int .i64 p])).set (a + 1 + 1) (.cells [.int .i64 e])).length:=by simpa using hll
 rw [show Wd (.yld l) [qb5 k w n p,.int .i64 e] H = qkz Wd l [qb5 k w n p,.int .i64 e] H from qBi qgC]
 refine qkf (call:=Wd) hl rfl A (t1:=tab) (ps1:=[10,11]) (asg1:=qbv) (body1:=qdy) (pend1:=none) ?_ B (t2:=tab) (ps2:=[10,11]) (asg2:=qbv) (body2:=qdy) (st2:=.busy) (pend2:=none) ?_ ?_
 ·rw [List.getElem?_append_left hll]
  exact hl
 ·rw [List.getElem?_append_left hls,List.getElem?_set_ne (by omega),List.getElem?_set_ne (by omega),List.getElem?_set_ne (by omega),List.getElem?_set_self hll]
 ·rw [qiD]
  refine congrArg some (qb7 ?_ rfl)
  rw [List.set_append_left _ _ hls,List.take_append_of_le_length (by simp),List.take_of_length_le (by simp),List.set_comm (l:=H) _ _ (show l ≠ a by omega),List.set_comm _ _ (show l ≠ a + 1 by omega),List.set_comm _ _ (show l ≠ a + 1 + 1 by omega),List.set_set]
end
section
variable {s:Str} {H H2:List qx} {base b l i j:Nat} {tt:List qc} {k n p to e:Int} {w:Str} {yb:Bool}
theorem qAS (hx:qcF) (hs:s.length ≤ 100000) (hk:qhN s i j) (ht:tt.length = 37) (e0:lkp tt 0 = .yld l) (e1:lkp tt 1 = .ptr b 0) (e3:lkp tt 3 = .int .i64 (i:Nat)) (hb:H[b]? = some (.cells [.str s])) (hbase:base ≤ H.length)
  (hw:∀h,Wd (.fn 178 [] []) [.str s,.int .i64 (j:Nat)] h = some (.ret (.tup [qb5 k w n p,.int .i64 to,.int .i64 0]),h,false))
  (hy:Wd (.yld l) [qb5 k w n p,.int .i64 0] (H ++ [.cells [.int .i64 k,.str w,.int .i64 n,.int .i64 p]]) = some (.ret (.bool true),H2,false)) (h2:H2[H.length]? = some (.cells [.int .i64 k,.str w,.int .i64 n,.int .i64 p])) (hk4:(k == 4) = false) :
  ∃tt',qH base Wd qfO ⟨tt,H,false⟩ = some (.nor,⟨tt',H2,false⟩)∧tt'.length = 37∧lkp tt' 0 = .yld l∧lkp tt' 1 = .ptr b 0∧lkp tt' 3 = .int .i64 to:=by
 have hbl:b < H.length:=(List.getElem?_eq_some_iff.1 hb).1
 have hsk:=fun h=>qlu (h:=h) hx hs hk
 simp only [qb5] at hw hy
 generalize he:qH base Wd _ _ = r
 simp only [qfO,sT.1,sC.1,qf,qe,Nat.testBit,simprocAttr,-Int.reduceNatCast',ht,e0,e1,e3,hb,hbl,hsk,hw,hy,h2,hk4] at he
 subst he
 refine ⟨_,rfl,?_,?_,?_,?_⟩
 all_goals simp only [sT.1,sC.1,qf,qe,Nat.testBit,simprocAttr,-Int.reduceNatCast',ht,e0,e1]
theorem qyN (hx:qcF) (hs:s.length ≤ 100000) (hk:qhN s i j) (ht:tt.length = 37) (e0:lkp tt 0 = .yld l) (e1:lkp tt 1 = .ptr b 0) (e3:lkp tt 3 = .int .i64 (i:Nat)) (hb:H[b]? = some (.cells [.str s])) (hbase:base ≤ H.length)
  (hw:∀h,Wd (.fn 178 [] []) [.str s,.int .i64 (j:Nat)] h = some (.ret (.tup [qb5 k w n p,.int .i64 to,.int .i64 0]),h,false))
  (hy:Wd (.yld l) [qb5 k w n p,.int .i64 0] (H ++ [.cells [.int .i64 k,.str w,.int .i64 n,.int .i64 p]]) = some (.ret (.bool true),H2,false)) (h2:H2[H.length]? = some (.cells [.int .i64 k,.str w,.int .i64 n,.int .i64 p])) (hk4:(k == 4) = true) :
  ∃tt',qH base Wd qfO ⟨tt,H,false⟩ = some (.ret,⟨tt',H2,false⟩):=by
 have hbl:b < H.length:=(List.getElem?_eq_some_iff.1 hb).1
 have hsk:=fun h=>qlu (h:=h) hx hs hk
 simp only [qb5] at hw hy
 generalize he:qH base Wd _ _ = r
 simp only [qfO,sT.1,sC.1,qf,qe,Nat.testBit,simprocAttr,-Int.reduceNatCast',ht,e0,e1,e3,hb,hbl,hsk,hw,hy,h2,hk4] at he
 subst he
 exact ⟨_,rfl⟩
theorem qwp (hx:qcF) (hs:s.length ≤ 100000) (hk:qhN s i j) (ht:tt.length = 37) (e0:lkp tt 0 = .yld l) (e1:lkp tt 1 = .ptr b 0) (e3:lkp tt 3 = .int .i64 (i:Nat)) (hb:H[b]? = some (.cells [.str s])) (hbase:base ≤ H.length)
  (hw:∀h,Wd (.fn 178 [] []) [.str s,.int .i64 (j:Nat)] h = some (.ret (.tup [qb5 k w n p,.int .i64 to,.int .i64 e]),h,false))
  (hy:Wd (.yld l) [qb5 k w n p,.int .i64 e] (H ++ [.cells [.int .i64 k,.str w,.int .i64 n,.int .i64 p]]) = some (.ret (.bool false),H2,false)) (h2:H2[H.length]? = some (.cells [.int .i64 k,.str w,.int .i64 n,.int .i64 p])) :
  ∃tt',qH base Wd qfO ⟨tt,H,false⟩ = some (.ret,⟨tt',H2,false⟩):=by
 have hbl:b < H.length:=(List.getElem?_eq_some_iff.1 hb).1
 have hsk:=fun h=>qlu (h:=h) hx hs hk
 simp only [qb5] at hw hy
 generalize he:qH base Wd _ _ = r
 simp only [qfO,sT.1,sC.1,qf,qe,Nat.testBit,simprocAttr,-Int.reduceNatCast',ht,e0,e1,e3,hb,hbl,hsk,hw,hy,h2] at he
 subst he
 exact ⟨_,rfl⟩
end
def qmp (s:Str) (j:Nat) (t:Tok) (to:Nat) (e:Int):Prop:=∀h,Wd (.fn 178 [] []) [.str s,.int .i64 (j:Nat)] h = some (.ret (.tup [qb5 t.kind t.s t.n t.pos,.int .i64 (to:Nat),.int .i64 e]),h,false)
inductive qgE (s:Str):Nat→List Tok→Option (Int×Int)→Prop
 | last {i j t to}:qhN s i j→qmp s j t to 0→(t.kind == 4) = true→qgE s i [t] none
 | err {i j t to e}:qhN s i j→qmp s j t to e→(e == 0) = false→qgE s i [] (some (t.pos,e))
 | next {i j t to ts o}:qhN s i j→qmp s j t to 0→(t.kind == 4) = false→qgE s to ts o→qgE s i (t :: ts) o
section
variable {s:Str} {base a b q l:Nat} {tab:List qc}
structure qhl (s:Str) (a q b l:Nat) (tab:List qc) (xs:List Tok) (H:List qx):Prop where
 r0:H[a]? = some (.cells [.lst [] .full])
 r1:H[a + 1]? = some (.cells [.int .i64 0])
 r2:H[a + 1 + 1]? = some (.cells [.int .i64 0])
 lst:∃f,((f = .full∧xs = [])∨f = .own 4)∧H[q]? = some (.cells [.lst (xs.map Tok.enc) f])
 txt:H[b]? = some (.cells [.str s])
 box:H[l]? = some (.loop tab [10,11] qbv qdy .ready none)
 ord:a + 1 + 1 < q∧q < b∧b < l
theorem qjk (xs:List Tok):∀x ∈ xs.map Tok.enc,x.cells.length = 4:=by
 intro x hx
 obtain ⟨t,_,rfl⟩:=List.mem_map.1 hx
 rfl
theorem qex (m:Nat):∀xs:List Tok,qD m (xs.map Tok.enc) = true
 | []=>rfl
 | t :: xs=>by rw [List.map_cons,qdU,qex m xs];rfl
def qda (a q l:Nat) (tab:List qc) (H H':List qx) (xs:List Tok):Option (Int×Int)→Prop
 | none=>H'.take (l + 1) = (H.set q (.cells [.lst (xs.map Tok.enc) (.own 4)])).take (l + 1)
 | some (p,e)=>∃c,H'.take (l + 1) = (((((H.set q c).set a (.cells [.lst [] .full])).set (a + 1) (.cells [.int .i64 p])).set (a + 1 + 1) (.cells [.int .i64 e])).set l (.loop tab [10,11] qbv qdy .done (some .ret))).take (l + 1)
theorem qhl.next {xs:List Tok} {H:List qx} (hl:qhl s a q b l tab xs H) (t:Tok) (c:qx):qhl s a q b l tab (xs ++ [t]) ((H ++ [c]).set q (.cells [.lst ((xs ++ [t]).map Tok.enc) (.own 4)])):=by
 obtain ⟨h0,h1,h2,⟨f,_,h3⟩,h4,h5,o⟩:=hl
 have hll:l < H.length:=(List.getElem?_eq_some_iff.1 h5).1
 refine ⟨?_,?_,?_,⟨_,.inr rfl,?_⟩,?_,?_,o⟩
 ·rw [List.getElem?_set_ne (by omega),List.getElem?_append_left (by omega),h0]
 ·rw [List.getElem?_set_ne (by omega),List.getElem?_append_left (by omega),h1]
 ·rw [List.getElem?_set_ne (by omega),List.getElem?_append_left (by omega),h2]
 ·rw [List.getElem?_set_self (by simp;omega)]
 ·rw [List.getElem?_set_ne (by omega),List.getElem?_append_left (by omega),h4]
 ·rw [List.getElem?_set_ne (by omega),List.getElem?_append_left (by omega),h5]
theorem qhl.grow {xs:List Tok} {H:List qx} (hl:qhl s a q b l tab xs H) (c:qx):qhl s a q b l tab xs (H ++ [c]):=by
 obtain ⟨h0,h1,h2,⟨f,hf,h3⟩,h4,h5,o⟩:=hl
 have hll:l < H.length:=(List.getElem?_eq_some_iff.1 h5).1
 refine ⟨?_,?_,?_,⟨f,hf,?_⟩,?_,?_,o⟩
 all_goals rw [List.getElem?_append_left (by omega)]
 ·exact h0
 ·exact h1
 ·exact h2
 ·exact h3
 ·exact h4
 ·exact h5
theorem quw (hx:qcF) (hs:s.length ≤ 100000) (t22:tab.length = 22) (p2:lkp tab 2 = .ptr a 0) (p3:lkp tab 3 = .ptr (a + 1) 0) (p4:lkp tab 4 = .ptr (a + 1 + 1) 0) (p5:lkp tab 5 = .ptr q 0) {i:Nat} {ts:List Tok} {o:Option (Int×Int)} (hW:qgE s i ts o) :
  ∀(xs:List Tok) (H:List qx) (tt:List qc),qhl s a q b l tab xs H→xs.length + ts.length ≤ 100000→base ≤ H.length→tt.length = 37→lkp tt 0 = .yld l→lkp tt 1 = .ptr b 0→lkp tt 3 = .int .i64 (i:Nat)→
   ∃tt' H',qH base Wd (.loop qfO) ⟨tt,H,false⟩ = some (.ret,⟨tt',H',false⟩)∧qda a q l tab H H' (xs ++ ts) o:=by
 induction hW with
 | @last i j t to hk hw h4=>
  intro xs H tt hL hn hbase ht e0 e1 e3
  have hll:l < H.length:=(List.getElem?_eq_some_iff.1 hL.box).1
  obtain ⟨f,hf,hq⟩:=(hL.grow (.cells [.int .i64 t.kind,.str t.s,.int .i64 t.n,.int .i64 t.pos])).lst
  have hord:=hL.ord
  have hy:=qit (hf.imp (fun g=>⟨g.1,by rw [g.2];rfl⟩) id) t22 p5 hq (hL.grow _).box (by omega) (qjk xs) (by simp;omega) (fun m=>qex m xs) t.kind t.s t.n t.pos
  obtain ⟨tt',he⟩:=qyN (base:=base) hx hs hk ht e0 e1 e3 hL.txt hbase hw hy (by rw [List.getElem?_set_ne (by omega),qcE rfl];rfl) h4
  rw [qn,he]
  refine ⟨_,_,rfl,?_⟩
  rw [qda,List.map_append,List.set_append_left _ _ (by omega),List.take_append_of_le_length (by simp;omega)]
  rfl
 | @err i j t to e hk hw he0=>
  intro xs H tt hL hn hbase ht e0 e1 e3
  have hll:l < H.length:=(List.getElem?_eq_some_iff.1 hL.box).1
  have hg:=hL.grow (.cells [.int .i64 t.kind,.str t.s,.int .i64 t.n,.int .i64 t.pos])
  obtain ⟨f,hf,hq⟩:=hL.lst
  have hord:=hL.ord
  have hy:=qpu t22 p2 p3 p4 hg.r0 hg.r1 hg.r2 hg.box (by omega) t.kind t.s t.n t.pos e he0
  obtain ⟨tt',he⟩:=qwp (base:=base) hx hs hk ht e0 e1 e3 hL.txt hbase hw hy (by
   rw [List.getElem?_set_ne (by omega),List.getElem?_set_ne (by omega),List.getElem?_set_ne (by omega),List.getElem?_set_ne (by omega),qcE rfl];rfl)
  rw [qn,he]
  refine ⟨_,_,rfl,.cells [.lst (xs.map Tok.enc) f],?_⟩
  rw [List.set_append_left _ _ (by omega),List.set_append_left _ _ (by simp;omega),List.set_append_left _ _ (by simp;omega),List.set_append_left _ _ (by simp;omega),List.take_append_of_le_length (by simp;omega)]
  rw [show H.set q (.cells [.lst (xs.map Tok.enc) f]) = H from by
   apply List.ext_getElem?
   intro j
   by_cases hj:q = j
   ·subst hj;rw [hq,List.getElem?_set_self (by omega)]
   ·rw [List.getElem?_set_ne hj]]
 | @next i j t to ts o hk hw h4 _ ih=>
  intro xs H tt hL hn hbase ht e0 e1 e3
  have hll:l < H.length:=(List.getElem?_eq_some_iff.1 hL.box).1
  obtain ⟨f,hf,hq⟩:=(hL.grow (.cells [.int .i64 t.kind,.str t.s,.int .i64 t.n,.int .i64 t.pos])).lst
  have hord:=hL.ord
  have hy:=qit (hf.imp (fun g=>⟨g.1,by rw [g.2];rfl⟩) id) t22 p5 hq (hL.grow _).box (by omega) (qjk xs) (by simp at hn ⊢;omega) (fun m=>qex m xs) t.kind t.s t.n t.pos
  obtain ⟨tt',he,g1,g2,g3,g4⟩:=qAS (base:=base) hx hs hk ht e0 e1 e3 hL.txt hbase hw hy (by rw [List.getElem?_set_ne (by omega),qcE rfl];rfl) h4
  have hL2:=hL.next t (.cells [.int .i64 t.kind,.str t.s,.int .i64 t.n,.int .i64 t.pos])
  obtain ⟨tt2,H2,r1,r2⟩:=ih (xs ++ [t]) _ tt' hL2 (by simp at hn ⊢;omega) (by simp;omega) g1 g2 g3 g4
  rw [qn,he,qdN]
  refine ⟨tt2,H2,?_,?_⟩
  ·rw [←r1,List.map_append];rfl
  ·rw [List.append_assoc] at r2
   cases o with
   | none=>
    rw [qda,List.set_set,List.set_append_left _ _ (by omega),List.take_append_of_le_length (by simp;omega)] at r2
    exact r2
   | some pe=>
    obtain ⟨c,r2⟩:=r2
    refine ⟨c,?_⟩
    rw [r2,List.set_set,List.set_append_left _ _ (by omega),List.set_append_left _ _ (by simp;omega),List.set_append_left _ _ (by simp;omega),List.set_append_left _ _ (by simp;omega),List.set_append_left _ _ (by simp;omega),List.take_append_of_le_length (by simp;omega)]
end
section
variable {s:Str} {a b q l:Nat} {tab:List qc}
theorem qda.cut {H H':List qx} {xs:List Tok} {o:Option (Int×Int)} (h:qda a q l tab H H' xs o):qda a q l tab H (H'.take (l + 1)) xs o:=by
 cases o with
 | none=>rw [qda,List.take_take,Nat.min_self];exact h
 | some pe=>
  obtain ⟨c,h⟩:=h
  exact ⟨c,by rw [List.take_take,Nat.min_self];exact h⟩
theorem qrE (hx:qcF) (hs:s.length ≤ 16384) (t22:tab.length = 22) (p2:lkp tab 2 = .ptr a 0) (p3:lkp tab 3 = .ptr (a + 1) 0) (p4:lkp tab 4 = .ptr (a + 1 + 1) 0) (p5:lkp tab 5 = .ptr q 0) {ts:List Tok} {o:Option (Int×Int)} (hW:qgE s 0 ts o) {H:List qx} (hL:qhl s a q b l tab [] H) (hn:ts.length ≤ 100000) (hl:H.length = l + 1) :
  ∃R,Wd (.fn 177 [] [.ptr b 0]) [.yld l] H = some (.ret (.tup []),R,false)∧qda a q l tab H R ts o:=by
 have htx:=hL.txt
 have hbl:b < H.length:=(List.getElem?_eq_some_iff.1 htx).1
 have c1:ilt 16384 (s.length:Int) = false:=by rw [qaw];simp;omega
 rw [qm rfl (show T.get 177 = some qB6 by kernel_rfl)]
 generalize hR:qfU _ H _ = R
 simp only [qB6,sT.1,sC.1,qf,qe,Nat.testBit,simprocAttr,-Int.reduceNatCast',htx,hbl,c1] at hR
 generalize hr:qH H.length Wd (.loop qfO) _ = r at hR
 obtain ⟨tt',H',rfl,hE⟩ :∃tt' H',r = some (.ret,⟨tt',H',false⟩)∧qda a q l tab H H' ([] ++ ts) o:=by
  rw [←hr]
  refine quw hx (by omega) t22 p2 p3 p4 p5 hW [] H _ hL (by simpa using hn) (Nat.le_refl _) ?_ ?_ ?_ ?_
  all_goals simp only [sT.1,sC.1,qf,qe,Nat.testBit,simprocAttr,-Int.reduceNatCast',Int.natCast_zero]
 simp only [sT.1,sC.1,qf,qe,Nat.testBit,simprocAttr,-Int.reduceNatCast'] at hR
 subst hR
 refine ⟨_,rfl,?_⟩
 rw [hl]
 exact hE.cut
end
end Go.Proofs.YtlognicjhmcgjaaGreatDoor.AE
namespace Go.AE
theorem quN {base:Nat} {call:Call} {f:qz} {ps:List Nat} {asg body:qV} {s:St} {g:FuncId} {first cap:List qc} {v:qc} {h:List qx} {e:Bool} {t:List qc} {ps':List Nat} {asg' body':qV}
  (hf:ev s.t f = .fn g first cap) (hc:call (.fn g first cap) [.yld s.h.length] (s.h ++ [.loop (s.t.map qc.dim) ps asg body .ready none]) = some (.ret v,h,e)) (hl:h[s.h.length]? = some (.loop t ps' asg' body' .ready none)) :
  qH base call (.rfun f ps asg body) s = some (.nor,{ s with h:=h.set s.h.length (.loop t ps' asg' body' .exhausted none),e:=s.e || e}):=by
 rw [qh2]
 simp only [qbs,hf,hc,hl]
 rfl
theorem qtZ {base:Nat} {call:Call} {f:qz} {ps:List Nat} {asg body:qV} {s:St} {g:FuncId} {first cap:List qc} {v:qc} {h:List qx} {e:Bool} {t:List qc} {ps':List Nat} {asg' body':qV}
  (hf:ev s.t f = .fn g first cap) (hc:call (.fn g first cap) [.yld s.h.length] (s.h ++ [.loop (s.t.map qc.dim) ps asg body .ready none]) = some (.ret v,h,e)) (hl:h[s.h.length]? = some (.loop t ps' asg' body' .done (some .ret))) :
  qH base call (.rfun f ps asg body) s = some (.ret,{ s with h:=h.set s.h.length (.loop t ps' asg' body' .exhausted (some .ret)),e:=s.e || e}):=by
 rw [qh2]
 simp only [qbs,hf,hc,hl]
 rfl
end Go.AE
namespace Go.Proofs.YtlognicjhmcgjaaGreatDoor.AE
open Go.AE
section
variable {s:Str} {h:List qx}
theorem qwC (h:List qx):Wd (.fn 123 [] []) [.str s] h = some (.ret (.fn 177 [] [.ptr h.length 0]),h ++ [.cells [.str s]],false):=by
 have hb:Nat.ble (h.length + 1) h.length = false:=by rw [Bool.eq_false_iff];intro q;have:=Nat.le_of_ble_eq_true q;omega
 rw [qm rfl (show T.get 123 = some qB7 by kernel_rfl)]
 simp only [qB7,sT.1,sC.1,qf,qe,Nat.testBit,reduceCtorEq,Nat.reduceAdd,Nat.reduceSub,Nat.reduceLT,Nat.reduceEqDiff,Nat.reduceLeDiff,Nat.reduceMul,Int.reduceToNat,Nat.reduceShiftRight,Nat.reduceAnd,Nat.reduceBneDiff,Nat.reduceBEq]
 simp [qbp,qc.lower,qD]
theorem qx3 (hx:qcF) (hs:s.length ≤ 16384) {ts:List Tok} (hW:qgE s 0 ts none) (hn:ts.length ≤ 100000):Wd (.fn 64 [] []) [.str s] h = some (.ret (.tup [.lst (ts.map Tok.enc) .no,.int .i64 0,.int .i64 0]),h,false):=by
 rw [qm rfl (show T.get 64 = some c64 by kernel_rfl)]
 generalize hR:qfU _ h _ = R
 simp only [c64,sT.1,sC.1,qf,qe,Nat.testBit,reduceCtorEq,Nat.reduceAdd,Nat.reduceSub,Nat.reduceLT,Nat.reduceEqDiff,Nat.reduceLeDiff,Nat.reduceMul,Int.reduceToNat,Nat.reduceShiftRight,Nat.reduceAnd,Nat.reduceBneDiff,Nat.reduceBEq,qwC] at hR
 generalize hr:qH h.length Wd (.rfun _ _ _ _) _ = r at hR
 obtain ⟨tt,H',rfl,ht,e2,e3,e4,e5,hE⟩ :∃tt H',r = some (.nor,⟨tt,H',false⟩)∧tt.length = 22∧lkp tt 2 = .ptr h.length 0∧lkp tt 3 = .ptr (h.length + 1) 0∧lkp tt 4 = .ptr (h.length + 1 + 1) 0∧lkp tt 5 = .ptr (h.length + 3) 0∧H'.take (h.length + 4) = h ++ [.cells [.lst [] .full],.cells [.int .i64 0],.cells [.int .i64 0],.cells [.lst (ts.map Tok.enc) (.own 4)]]:=by
  rw [←hr]
  clear hr hR
  generalize hT:up (up (up (up (up (up (qc.str s :: List.replicate 21 (.tup [])) 2 (.ptr h.length 0)) 3 (.ptr (h.length + 1) 0)) 4 (.ptr (h.length + 2) 0)) 5 (.ptr (h.length + 3) 0)) 8 (.str s)) 9 (.fn 177 [] [.ptr (h.length + 4) 0]) = T0
  have d22:T0.length = 22:=by rw [←hT];simp only [sT.1,sC.1,qf,qe,Nat.testBit,reduceCtorEq,Nat.reduceAdd,Nat.reduceSub,Nat.reduceLT,Nat.reduceEqDiff,Nat.reduceLeDiff,Nat.reduceMul,Int.reduceToNat,Nat.reduceShiftRight,Nat.reduceAnd,Nat.reduceBneDiff,Nat.reduceBEq]
  have d2:lkp T0 2 = .ptr h.length 0:=by rw [←hT];simp only [sT.1,sC.1,qf,qe,Nat.testBit,reduceCtorEq,Nat.reduceAdd,Nat.reduceSub,Nat.reduceLT,Nat.reduceEqDiff,Nat.reduceLeDiff,Nat.reduceMul,Int.reduceToNat,Nat.reduceShiftRight,Nat.reduceAnd,Nat.reduceBneDiff,Nat.reduceBEq]
  have d3:lkp T0 3 = .ptr (h.length + 1) 0:=by rw [←hT];simp only [sT.1,sC.1,qf,qe,Nat.testBit,reduceCtorEq,Nat.reduceAdd,Nat.reduceSub,Nat.reduceLT,Nat.reduceEqDiff,Nat.reduceLeDiff,Nat.reduceMul,Int.reduceToNat,Nat.reduceShiftRight,Nat.reduceAnd,Nat.reduceBneDiff,Nat.reduceBEq]
  have d4:lkp T0 4 = .ptr (h.length + 1 + 1) 0:=by rw [←hT];simp only [sT.1,sC.1,qf,qe,Nat.testBit,reduceCtorEq,Nat.reduceAdd,Nat.reduceSub,Nat.reduceLT,Nat.reduceEqDiff,Nat.reduceLeDiff,Nat.reduceMul,Int.reduceToNat,Nat.reduceShiftRight,Nat.reduceAnd,Nat.reduceBneDiff,Nat.reduceBEq]
  have d5:lkp T0 5 = .ptr (h.length + 3) 0:=by rw [←hT];simp only [sT.1,sC.1,qf,qe,Nat.testBit,reduceCtorEq,Nat.reduceAdd,Nat.reduceSub,Nat.reduceLT,Nat.reduceEqDiff,Nat.reduceLeDiff,Nat.reduceMul,Int.reduceToNat,Nat.reduceShiftRight,Nat.reduceAnd,Nat.reduceBneDiff,Nat.reduceBEq]
  have d9:ev T0 (.t 9) = .fn 177 [] [.ptr (h.length + 4) 0]:=by rw [←hT];simp only [sT.1,sC.1,qf,qe,Nat.testBit,reduceCtorEq,Nat.reduceAdd,Nat.reduceSub,Nat.reduceLT,Nat.reduceEqDiff,Nat.reduceLeDiff,Nat.reduceMul,Int.reduceToNat,Nat.reduceShiftRight,Nat.reduceAnd,Nat.reduceBneDiff,Nat.reduceBEq]
  have dm:T0.map qc.dim = T0:=by rw [←hT];simp only [up,List.replicate,List.set_cons_succ,List.set_cons_zero,List.map_cons,List.map_nil,qlt,qls,qlO,qrx]
  have hl5:(h ++ [qx.cells [.lst [] .full],.cells [.int .i64 0],.cells [.int .i64 0],.cells [.lst [] .full],.cells [.str s]]).length = h.length + 5:=by simp
  have hL:qhl s h.length (h.length + 3) (h.length + 4) (h.length + 5) T0 [] ((h ++ [qx.cells [.lst [] .full],.cells [.int .i64 0],.cells [.int .i64 0],.cells [.lst [] .full],.cells [.str s]]) ++ [.loop T0 [10,11] qbv qdy .ready none]):=by
   rw [List.append_assoc]
   refine ⟨?_,?_,?_,⟨_,.inl ⟨rfl,rfl⟩,?_⟩,?_,?_,by omega⟩
   ·rw [qcE rfl];rfl
   ·rw [qbj];rfl
   ·rw [Nat.add_assoc,qbj];rfl
   ·rw [qbj];rfl
   ·rw [qbj];rfl
   ·rw [qbj];rfl
  obtain ⟨R,hc,hE⟩:=qrE hx hs d22 d2 d3 d4 d5 hW hL hn (by simp)
  rw [qda] at hE
  have hRl:h.length + 5 < R.length:=by
   have:=congrArg List.length hE
   rw [List.length_take,List.length_take] at this
   simp at this
   omega
  have g5:R[h.length + 5]? = some (.loop T0 [10,11] qbv qdy .ready none):=by
   have:=congrArg (fun x=>x[h.length + 5]?) hE
   simp only [List.getElem?_take_of_lt (Nat.lt_succ_self (h.length + 5))] at this
   rw [this,List.getElem?_set_ne (by omega)]
   exact hL.box
  refine ⟨T0,_,quN (v:=.tup []) d9 (by rw [dm,hl5];exact hc) (by rw [hl5];exact g5),d22,d2,d3,d4,d5,?_⟩
  rw [hl5,List.take_set_of_le (by omega)]
  have:=congrArg (List.take (h.length + 4)) hE
  rw [List.take_take,List.take_take,Nat.min_eq_left (by omega)] at this
  rw [this,List.append_assoc,List.set_append_right _ _ (by omega),List.take_append]
  simp
  exact List.take_of_length_le (by omega)
 have hlen:h.length + 4 ≤ H'.length:=by
  have:=congrArg List.length hE
  rw [List.length_take] at this
  simp at this
  omega
 have gk:∀k,k < h.length + 4→H'[k]? = (h ++ [.cells [.lst [] .full],.cells [.int .i64 0],.cells [.int .i64 0],.cells [.lst (ts.map Tok.enc) (.own 4)]])[k]?:=fun k hk=>by rw [←hE,List.getElem?_take_of_lt hk]
 have r0:H'[h.length]? = some (.cells [.lst [] .full]):=by rw [gk _ (by omega),qcE rfl];rfl
 have r1:H'[h.length + 1]? = some (.cells [.int .i64 0]):=by rw [gk _ (by omega),qbj];rfl
 have r2:H'[h.length + 1 + 1]? = some (.cells [.int .i64 0]):=by rw [Nat.add_assoc,gk _ (by omega),qbj];rfl
 have r3:H'[h.length + 3]? = some (.cells [.lst (ts.map Tok.enc) (.own 4)]):=by rw [gk _ (by omega),qbj];rfl
 have hlow:=qex (h.length + 1) ts
 have l0:h.length < H'.length:=by omega
 have l1:h.length + 1 < H'.length:=by omega
 have l2:h.length + 1 + 1 < H'.length:=by omega
 have l3:h.length + 3 < H'.length:=by omega
 have m1:¬ (h.length = h.length + 1):=by omega
 have m2:¬ (h.length = h.length + 1 + 1):=by omega
 have m3:¬ (h.length + 1 = h.length + 1 + 1):=by omega
 have m4:¬ (h.length + 1 = h.length):=by omega
 have m5:¬ (h.length + 1 + 1 = h.length):=by omega
 have m6:¬ (h.length + 1 + 1 = h.length + 1):=by omega
 rw [←hR]
 simp only [sT.1,sC.1,qf,qe,Nat.testBit,reduceCtorEq,Nat.reduceAdd,Nat.reduceSub,Nat.reduceLT,Nat.reduceEqDiff,Nat.reduceLeDiff,Nat.reduceMul,Int.reduceToNat,Nat.reduceShiftRight,Nat.reduceAnd,Nat.reduceBneDiff,Nat.reduceBEq,ht,e2,e3,e4,e5,r0,r1,r2,r3,l0,l1,l2,l3,m1,m2,m3,m4,m5,m6]
 refine congrArg some (qb7 ?_ ?_)
 ·rw [List.take_set_of_le (by omega),List.take_set_of_le (by omega),List.take_set_of_le (by omega)]
  have:=congrArg (List.take h.length) hE
  rw [List.take_take,Nat.min_eq_left (by omega)] at this
  rw [this,List.take_append_of_le_length (Nat.le_refl _),List.take_length]
 ·simp [qc.lower,qD,qex]
theorem qm6 {ts:List Tok} {p e:Int} (hA:∀(a b q l:Nat) (tab:List qc) (H:List qx),tab.length = 22→lkp tab 2 = .ptr a 0→lkp tab 3 = .ptr (a + 1) 0→lkp tab 4 = .ptr (a + 1 + 1) 0→lkp tab 5 = .ptr q 0→qhl s a q b l tab [] H→H.length = l + 1→∃R,Wd (.fn 177 [] [.ptr b 0]) [.yld l] H = some (.ret (.tup []),R,false)∧qda a q l tab H R ts (some (p,e))):Wd (.fn 64 [] []) [.str s] h = some (.ret (.tup [.lst [] .full,.int .i64 p,.int .i64 e]),h,false):=by
 rw [qm rfl (show T.get 64 = some c64 by kernel_rfl)]
 generalize hR:qfU _ h _ = R
 simp only [c64,sT.1,sC.1,qf,qe,Nat.testBit,reduceCtorEq,Nat.reduceAdd,Nat.reduceSub,Nat.reduceLT,Nat.reduceEqDiff,Nat.reduceLeDiff,Nat.reduceMul,Int.reduceToNat,Nat.reduceShiftRight,Nat.reduceAnd,Nat.reduceBneDiff,Nat.reduceBEq,qwC] at hR
 generalize hr:qH h.length Wd (.rfun _ _ _ _) _ = r at hR
 obtain ⟨tt,H',rfl,ht,e2,e3,e4,hE⟩ :∃tt H',r = some (.ret,⟨tt,H',false⟩)∧tt.length = 22∧lkp tt 2 = .ptr h.length 0∧lkp tt 3 = .ptr (h.length + 1) 0∧lkp tt 4 = .ptr (h.length + 1 + 1) 0∧H'.take (h.length + 3) = h ++ [.cells [.lst [] .full],.cells [.int .i64 p],.cells [.int .i64 e]]:=by
  rw [←hr]
  clear hr hR
  generalize hT:up (up (up (up (up (up (qc.str s :: List.replicate 21 (.tup [])) 2 (.ptr h.length 0)) 3 (.ptr (h.length + 1) 0)) 4 (.ptr (h.length + 2) 0)) 5 (.ptr (h.length + 3) 0)) 8 (.str s)) 9 (.fn 177 [] [.ptr (h.length + 4) 0]) = T0
  have d22:T0.length = 22:=by rw [←hT];simp only [sT.1,sC.1,qf,qe,Nat.testBit,reduceCtorEq,Nat.reduceAdd,Nat.reduceSub,Nat.reduceLT,Nat.reduceEqDiff,Nat.reduceLeDiff,Nat.reduceMul,Int.reduceToNat,Nat.reduceShiftRight,Nat.reduceAnd,Nat.reduceBneDiff,Nat.reduceBEq]
  have d2:lkp T0 2 = .ptr h.length 0:=by rw [←hT];simp only [sT.1,sC.1,qf,qe,Nat.testBit,reduceCtorEq,Nat.reduceAdd,Nat.reduceSub,Nat.reduceLT,Nat.reduceEqDiff,Nat.reduceLeDiff,Nat.reduceMul,Int.reduceToNat,Nat.reduceShiftRight,Nat.reduceAnd,Nat.reduceBneDiff,Nat.reduceBEq]
  have d3:lkp T0 3 = .ptr (h.length + 1) 0:=by rw [←hT];simp only [sT.1,sC.1,qf,qe,Nat.testBit,reduceCtorEq,Nat.reduceAdd,Nat.reduceSub,Nat.reduceLT,Nat.reduceEqDiff,Nat.reduceLeDiff,Nat.reduceMul,Int.reduceToNat,Nat.reduceShiftRight,Nat.reduceAnd,Nat.reduceBneDiff,Nat.reduceBEq]
  have d4:lkp T0 4 = .ptr (h.length + 1 + 1) 0:=by rw [←hT];simp only [sT.1,sC.1,qf,qe,Nat.testBit,reduceCtorEq,Nat.reduceAdd,Nat.reduceSub,Nat.reduceLT,Nat.reduceEqDiff,Nat.reduceLeDiff,Nat.reduceMul,Int.reduceToNat,Nat.reduceShiftRight,Nat.reduceAnd,Nat.reduceBneDiff,Nat.reduceBEq]
  have d5:lkp T0 5 = .ptr (h.length + 3) 0:=by rw [←hT];simp only [sT.1,sC.1,qf,qe,Nat.testBit,reduceCtorEq,Nat.reduceAdd,Nat.reduceSub,Nat.reduceLT,Nat.reduceEqDiff,Nat.reduceLeDiff,Nat.reduceMul,Int.reduceToNat,Nat.reduceShiftRight,Nat.reduceAnd,Nat.reduceBneDiff,Nat.reduceBEq]
  have d9:ev T0 (.t 9) = .fn 177 [] [.ptr (h.length + 4) 0]:=by rw [←hT];simp only [sT.1,sC.1,qf,qe,Nat.testBit,reduceCtorEq,Nat.reduceAdd,Nat.reduceSub,Nat.reduceLT,Nat.reduceEqDiff,Nat.reduceLeDiff,Nat.reduceMul,Int.reduceToNat,Nat.reduceShiftRight,Nat.reduceAnd,Nat.reduceBneDiff,Nat.reduceBEq]
  have dm:T0.map qc.dim = T0:=by rw [←hT];simp only [up,List.replicate,List.set_cons_succ,List.set_cons_zero,List.map_cons,List.map_nil,qlt,qls,qlO,qrx]
  have hl5:(h ++ [qx.cells [.lst [] .full],.cells [.int .i64 0],.cells [.int .i64 0],.cells [.lst [] .full],.cells [.str s]]).length = h.length + 5:=by simp
  have hL:qhl s h.length (h.length + 3) (h.length + 4) (h.length + 5) T0 [] ((h ++ [qx.cells [.lst [] .full],.cells [.int .i64 0],.cells [.int .i64 0],.cells [.lst [] .full],.cells [.str s]]) ++ [.loop T0 [10,11] qbv qdy .ready none]):=by
   rw [List.append_assoc]
   refine ⟨?_,?_,?_,⟨_,.inl ⟨rfl,rfl⟩,?_⟩,?_,?_,by omega⟩
   ·rw [qcE rfl];rfl
   ·rw [qbj];rfl
   ·rw [Nat.add_assoc,qbj];rfl
   ·rw [qbj];rfl
   ·rw [qbj];rfl
   ·rw [qbj];rfl
  obtain ⟨R,hc,hE⟩:=hA _ _ _ _ _ _ d22 d2 d3 d4 d5 hL (by simp)
  obtain ⟨c,hE⟩:=hE
  have hRl:h.length + 5 < R.length:=by
   have:=congrArg List.length hE
   rw [List.length_take,List.length_take] at this
   simp at this
   omega
  have g5:R[h.length + 5]? = some (.loop T0 [10,11] qbv qdy .done (some .ret)):=by
   have:=congrArg (fun x=>x[h.length + 5]?) hE
   simp only [List.getElem?_take_of_lt (Nat.lt_succ_self (h.length + 5))] at this
   rw [this,List.getElem?_set_self (by simp)]
  refine ⟨T0,_,qtZ (v:=.tup []) d9 (by rw [dm,hl5];exact hc) (by rw [hl5];exact g5),d22,d2,d3,d4,?_⟩
  rw [hl5,List.take_set_of_le (by omega)]
  have:=congrArg (List.take (h.length + 3)) hE
  rw [List.take_take,List.take_take,Nat.min_eq_left (by omega),List.take_set_of_le (by omega)] at this
  rw [this,List.append_assoc,List.set_append_right _ _ (by omega),List.set_append_right _ _ (by omega),List.set_append_right _ _ (by omega),List.set_append_right _ _ (by omega),List.take_append]
  have z1:h.length + 1 + 1 - h.length = 2:=by omega
  simp [z1]
  exact List.take_of_length_le (by omega)
 have hlen:h.length + 3 ≤ H'.length:=by
  have:=congrArg List.length hE
  rw [List.length_take] at this
  simp at this
  omega
 have gk:∀k,k < h.length + 3→H'[k]? = (h ++ [.cells [.lst [] .full],.cells [.int .i64 p],.cells [.int .i64 e]])[k]?:=fun k hk=>by rw [←hE,List.getElem?_take_of_lt hk]
 have r0:H'[h.length]? = some (.cells [.lst [] .full]):=by rw [gk _ (by omega),qcE rfl];rfl
 have r1:H'[h.length + 1]? = some (.cells [.int .i64 p]):=by rw [gk _ (by omega),qbj];rfl
 have r2:H'[h.length + 1 + 1]? = some (.cells [.int .i64 e]):=by rw [Nat.add_assoc,gk _ (by omega),qbj];rfl
 have l0:h.length < H'.length:=by omega
 have l1:h.length + 1 < H'.length:=by omega
 have l2:h.length + 1 + 1 < H'.length:=by omega
 have m1:¬ (h.length = h.length + 1):=by omega
 have m2:¬ (h.length = h.length + 1 + 1):=by omega
 have m3:¬ (h.length + 1 = h.length + 1 + 1):=by omega
 have m4:¬ (h.length + 1 = h.length):=by omega
 have m5:¬ (h.length + 1 + 1 = h.length):=by omega
 have m6:¬ (h.length + 1 + 1 = h.length + 1):=by omega
 rw [←hR]
 simp only [sT.1,sC.1,qf,qe,Nat.testBit,reduceCtorEq,Nat.reduceAdd,Nat.reduceSub,Nat.reduceLT,Nat.reduceEqDiff,Nat.reduceLeDiff,Nat.reduceMul,Int.reduceToNat,Nat.reduceShiftRight,Nat.reduceAnd,Nat.reduceBneDiff,Nat.reduceBEq,ht,e2,e3,e4,r0,r1,r2,l0,l1,l2,m1,m2,m3,m4,m5,m6]
 refine congrArg some (qb7 ?_ ?_)
 ·have:=congrArg (List.take h.length) hE
  rw [List.take_take,Nat.min_eq_left (by omega)] at this
  rw [this,List.take_append_of_le_length (Nat.le_refl _),List.take_length]
 ·simp [qc.lower,qD]
theorem qyq (hx:qcF) (hs:s.length ≤ 16384) {ts:List Tok} {p e:Int} (hW:qgE s 0 ts (some (p,e))) (hn:ts.length ≤ 100000):Wd (.fn 64 [] []) [.str s] h = some (.ret (.tup [.lst [] .full,.int .i64 p,.int .i64 e]),h,false):=
 qm6 fun _ _ _ _ _ _ t22 p2 p3 p4 p5 hL hl=>qrE hx hs t22 p2 p3 p4 p5 hW hL hn hl
end
def qfh (d:Str):Nat:=d.foldl (fun a c=>a * 10 + (c.toNat - 48)) 0
def qem:Nat:=9223372036854775807
def qkx:Prop:=∀d:Str,d ≠ []→d.length ≤ 100000→d.all qaJ = true→(qfh d ≤ qem→qh4 d (qfh d:Nat))∧(qem < qfh d→qmq d)
def qkn (at_:Nat):Tok:=⟨0,[],0,at_⟩
def qa4 (s:Str) (kind:Int) (at_ i:Nat):Tok×Nat×Int:=
 match s[i]? with
 | none=>(qkn at_,at_,5)
 | some c=>if qb0 c = true then (if qaA qbC s i - i ≤ 16 then (⟨kind,(s.drop i).take (qaA qbC s i - i),0,at_⟩,qaA qbC s i,0) else (qkn at_,at_,9)) else (qkn at_,at_,5)
def qcG (s:Str) (i:Nat):Str:=(s.drop i).take (qaA qaJ s i - i)
def qfF (s:Str) (i:Nat) (c:UInt8):Tok×Nat×Int:=
 if c = 48∧1 < qaA qaJ s i - i then (qkn i,i,6)
 else if qfh (qcG s i) ≤ qem then (⟨1,[],(qfh (qcG s i):Nat),i⟩,qaA qaJ s i,0) else (qkn i,i,2)
def qgg (s:Str) (i:Nat):Option Str→Tok×Nat×Int
 | some m=>(⟨3,m,0,i⟩,i + m.length,0)
 | none=>(qkn i,i,5)
def lex (s:Str) (j:Nat):Tok×Nat×Int:=
 match s[j]? with
 | none=>(⟨4,[],0,j⟩,j,0)
 | some c=>
  if qb0 c = true then qa4 s 0 j j
  else if c = 39 then qa4 s 2 j (j + 1)
  else if qaJ c = true then qfF s j c
  else qgg s j (qe6 (s.drop j))
theorem qmQ:qb0 39 = false:=by kernel_rfl
theorem qf0 (p:UInt8→Bool):∀l:Str,(∀a ∈ l,p a = true)→l.takeWhile p = l
 | [],_=>rfl
 | a :: l,h=>by rw [List.takeWhile_cons_of_pos (h a (by simp)),qf0 p l fun b hb=>h b (by simp [hb])]
theorem qen (p:UInt8→Bool) (s:Str) (i:Nat):(s.drop i).take (qaA p s i - i) = (s.drop i).takeWhile p:=by
 rw [qaA,Nat.add_sub_cancel_left]
 generalize s.drop i = l
 induction l with
 | nil=>rfl
 | cons c l ih=>
  rw [List.takeWhile_cons]
  split
  ·rw [List.length_cons,List.take_succ_cons,ih]
  ·rfl
theorem qoA (s:Str) (i:Nat):(qcG s i).all qaJ = true:=by
 rw [qcG,qen]
 exact List.all_takeWhile
theorem qgJ {p:UInt8→Bool} {s:Str} {i:Nat} (hi:i < s.length) (hp:p s[i] = true):i < qaA p s i:=by
 rw [qgG hi hp]
 have:=qdj p s (i + 1)
 omega
theorem qlZ {s:Str} {i:Nat} (hi:i < s.length) (hp:qaJ s[i] = true):qcG s i ≠ []:=by
 rw [qcG]
 have h1:=qgJ hi hp
 intro h
 have:=congrArg List.length h
 rw [List.length_take,List.length_drop,List.length_nil] at this
 omega
theorem qjA (s:Str) (i:Nat):(qcG s i).length ≤ s.length:=by
 rw [qcG,List.length_take,List.length_drop]
 omega
theorem qh6 {s:Str} (hs:s.length ≤ 100000) (kind:Int) (at_ i:Nat) (hi:i ≤ s.length) (h:List qx):Wd (.fn 225 [] []) [.str s,.int .i64 kind,.int .i64 (at_:Nat),.int .i64 (i:Nat)] h =
  some (.ret (.tup [qb5 (qa4 s kind at_ i).1.kind (qa4 s kind at_ i).1.s (qa4 s kind at_ i).1.n (qa4 s kind at_ i).1.pos,.int .i64 ((qa4 s kind at_ i).2.1:Nat),.int .i64 (qa4 s kind at_ i).2.2]),h,false):=by
 rcases Nat.lt_or_ge i s.length with h1 | h1
 ·cases hl:qb0 s[i] with
  | true=>
   rw [qrO s hs kind at_ i h1 hl]
   simp only [qa4,List.getElem?_eq_getElem h1,hl,if_true]
   split
   ·rfl
   ·rfl
  | false=>
   rw [qmy s kind at_ i hi fun _=>hl]
   simp only [qa4,List.getElem?_eq_getElem h1,hl,Bool.false_eq_true,if_false]
   rfl
 ·rw [qmy s kind at_ i hi fun h=>absurd h (by omega)]
  simp only [qa4,List.getElem?_eq_none h1]
  rfl
theorem qi3 (hat:qkx) {s:Str} (hs:s.length ≤ 100000) {j:Nat} (hj:j ≤ s.length):qmp s j (lex s j).1 (lex s j).2.1 (lex s j).2.2:=by
 intro h
 rcases Nat.lt_or_ge j s.length with h1 | h1
 ·have hx:=List.getElem?_eq_getElem h1
  cases hl:qb0 s[j] with
  | true=>
   have e:lex s j = qa4 s 0 j j:=by simp only [lex,hx,hl,if_true]
   rw [e]
   exact qsV h1 hl fun h=>qh6 hs 0 j j hj h
  | false=>
   cases h39:(s[j] == 39) with
   | true=>
    have e:lex s j = qa4 s 2 j (j + 1):=by simp only [lex,hx,hl,Bool.false_eq_true,if_false,beq_iff_eq.1 h39,if_true,qmQ]
    rw [e]
    exact qvQ h1 hl h39 hs fun h=>qh6 hs 2 j (j + 1) h1 h
   | false=>
    have h39':s[j] ≠ 39:=by simpa using h39
    cases hd:qaJ s[j] with
    | true=>
     have e:lex s j = qfF s j s[j]:=by simp only [lex,hx,hl,Bool.false_eq_true,if_false,h39',hd,if_true]
     rw [e]
     obtain ⟨a1,a2⟩:=hat (qcG s j) (qlZ h1 hd) (Nat.le_trans (qjA s j) hs) (qoA s j)
     refine qwb h1 hl h39 hd fun h=>?_
     by_cases q1:s[j] = 48∧1 < qaA qaJ s j - j
     ·rw [qkM s hs j h1 (by simp [qrV,q1.1,q1.2]),qfF,if_pos q1]
      rfl
     ·have q2:qrV s j h1 = false:=by
       rw [Bool.eq_false_iff]
       intro q
       simp only [qrV,Bool.and_eq_true,beq_iff_eq,decide_eq_true_eq] at q
       exact q1 q
      by_cases q3:qfh (qcG s j) ≤ qem
      ·rw [qqo s hs j h1 q2 (a1 q3),qfF,if_neg q1,if_pos q3]
      ·rw [qkl s hs j h1 q2 (a2 (by omega)),qfF,if_neg q1,if_neg q3]
       rfl
    | false=>
     have e:lex s j = qgg s j (qe6 (s.drop j)):=by simp only [lex,hx,hl,Bool.false_eq_true,if_false,h39',hd]
     rw [e,qpV h1 hl h39 hd hs]
     cases qe6 (s.drop j) <;> rfl
 ·obtain rfl:j = s.length:=by omega
  have e:lex s s.length = (⟨4,[],0,s.length⟩,s.length,0):=by simp only [lex,List.getElem?_eq_none (Nat.le_refl _)]
  rw [e]
  exact qvx s
theorem quc:∀m ∈ marks,0 < m.length:=by
 have:marks.all (fun m=>decide (0 < m.length)) = true:=by kernel_rfl
 intro m hm
 simpa using List.all_eq_true.1 this m hm
theorem qnX {r m:Str} (h:qe6 r = some m):m ∈ marks∧m.length ≤ r.length:=by
 rw [qe6] at h
 refine ⟨List.mem_of_find?_eq_some h,?_⟩
 have:=List.find?_some h
 rw [qoj,beq_iff_eq] at this
 have:=congrArg List.length this
 rw [List.length_take] at this
 omega
structure quW (s:Str) (t:Tok):Prop where
 kind:t.kind = 0∨t.kind = 1∨t.kind = 2∨t.kind = 3∨t.kind = 4
 name:t.kind = 0∨t.kind = 2→∃c r,t.s = c :: r∧qb0 c = true∧r.all qbC = true∧r.length ≤ 15
 qdF:t.kind = 3→t.s ∈ marks
 int:t.kind = 1→0 ≤ t.n∧t.n ≤ 9223372036854775807
 pos:0 ≤ t.pos∧t.pos ≤ s.length
theorem qic {s:Str} {kind:Int} {at_ i:Nat} (hk:kind = 0∨kind = 2) (hai:at_ ≤ i) (hi:i ≤ s.length) (h0:(qa4 s kind at_ i).2.2 = 0) :
  i < (qa4 s kind at_ i).2.1∧(qa4 s kind at_ i).2.1 ≤ s.length∧(qa4 s kind at_ i).1.kind = kind∧quW s (qa4 s kind at_ i).1:=by
 rcases Nat.lt_or_ge i s.length with h1 | h1
 ·cases hl:qb0 s[i] with
  | true=>
   simp only [qa4,List.getElem?_eq_getElem h1,hl,if_true] at h0 ⊢
   split at h0
   ·rename_i h16
    rw [if_pos h16]
    have hl2:qbC s[i] = true:=by rw [qbC,hl];rfl
    refine ⟨qgJ h1 hl2,qcQ _ _ hi,rfl,⟨by rcases hk with rfl | rfl <;> simp,fun _=>?_,fun h=>?_,fun h=>?_,by simp;omega⟩⟩
    ·simp only
     rw [qen,List.drop_eq_getElem_cons h1,List.takeWhile_cons_of_pos hl2]
     refine ⟨_,_,rfl,hl,List.all_takeWhile,?_⟩
     rw [qaA,List.drop_eq_getElem_cons h1,List.takeWhile_cons_of_pos hl2,List.length_cons] at h16
     omega
    ·simp only at h;omega
    ·simp only at h;omega
   ·cases h0
  | false=>
   simp only [qa4,List.getElem?_eq_getElem h1,hl,Bool.false_eq_true,if_false] at h0
   cases h0
 ·simp only [qa4,List.getElem?_eq_none h1] at h0
  cases h0
theorem qmv {s:Str} {i:Nat} (h1:i < s.length) (h0:(lex s i).2.2 = 0):i < (lex s i).2.1∧(lex s i).2.1 ≤ s.length∧(lex s i).1.kind ≠ 4∧quW s (lex s i).1:=by
 have hx:=List.getElem?_eq_getElem h1
 cases hl:qb0 s[i] with
 | true=>
  have e:lex s i = qa4 s 0 i i:=by simp only [lex,hx,hl,if_true]
  rw [e] at h0 ⊢
  obtain ⟨a,b,c,d⟩:=qic (.inl rfl) (Nat.le_refl _) (Nat.le_of_lt h1) h0
  exact ⟨a,b,by rw [c];decide,d⟩
 | false=>
  by_cases h39:s[i] = 39
  ·have e:lex s i = qa4 s 2 i (i + 1):=by simp only [lex,hx,hl,Bool.false_eq_true,if_false,h39,if_true,qmQ]
   rw [e] at h0 ⊢
   obtain ⟨a,b,c,d⟩:=qic (i:=i + 1) (.inr rfl) (Nat.le_succ _) h1 h0
   exact ⟨by omega,b,by rw [c];decide,d⟩
  ·cases hd:qaJ s[i] with
   | true=>
    have e:lex s i = qfF s i s[i]:=by simp only [lex,hx,hl,Bool.false_eq_true,if_false,h39,hd,if_true]
    rw [e,qfF] at h0 ⊢
    split at h0
    ·cases h0
    ·rename_i q1
     rw [if_neg q1]
     split at h0
     ·rename_i q2
      rw [if_pos q2]
      refine ⟨qgJ h1 hd,qcQ _ _ (Nat.le_of_lt h1),by simp,⟨by simp,fun h=>by simp at h,fun h=>by simp at h,fun _=>?_,by simp;omega⟩⟩
      simp only [qem] at q2 ⊢
      omega
     ·cases h0
   | false=>
    have e:lex s i = qgg s i (qe6 (s.drop i)):=by simp only [lex,hx,hl,Bool.false_eq_true,if_false,h39,hd]
    rw [e] at h0 ⊢
    cases hm:qe6 (s.drop i) with
    | none=>rw [hm] at h0;cases h0
    | some m=>
     obtain ⟨hm1,hm2⟩:=qnX hm
     have:=quc m hm1
     rw [List.length_drop] at hm2
     simp only [qgg]
     exact ⟨by omega,by omega,by simp,⟨by simp,fun h=>by simp at h,fun _=>hm1,fun h=>by simp at h,by simp;omega⟩⟩
def nl (c:UInt8):Bool:=!((c.toNat:Int) == 10)
inductive RW (s:Str):Nat→List Tok→Option (Int×Int)→Prop
 | fin:RW s s.length [⟨4,[],0,s.length⟩] none
 | blank {i ts o} (hi:i < s.length):AE.blank s[i] = true→RW s (i + 1) ts o→RW s i ts o
 | sharp {i ts o} (hi:i < s.length):AE.blank s[i] = false→AE.sharp s[i] = true→RW s (qaA nl s i) ts o→RW s i ts o
 | word {i ts o} (hi:i < s.length):AE.blank s[i] = false→AE.sharp s[i] = false→(lex s i).2.2 = 0→RW s (lex s i).2.1 ts o→RW s i ((lex s i).1 :: ts) o
 | err {i} (hi:i < s.length):AE.blank s[i] = false→AE.sharp s[i] = false→(lex s i).2.2 ≠ 0→RW s i [] (some ((i:Int),(lex s i).2.2))
theorem RW.ex (s:Str):∀(n i:Nat),s.length - i ≤ n→i ≤ s.length→∃ts o,RW s i ts o:=by
 intro n
 induction n with
 | zero=>
  intro i h1 h2
  obtain rfl:i = s.length:=by omega
  exact ⟨_,_,.fin⟩
 | succ n ih=>
  intro i h1 h2
  rcases Nat.lt_or_ge i s.length with hi | hi
  ·cases hb:AE.blank s[i] with
   | true=>
    obtain ⟨ts,o,h⟩:=ih (i + 1) (by omega) (by omega)
    exact ⟨ts,o,.blank hi hb h⟩
   | false=>
    cases hs:AE.sharp s[i] with
    | true=>
     have hn:nl s[i] = true:=by
      simp only [AE.sharp,beq_iff_eq] at hs
      simp [nl,hs]
     obtain ⟨ts,o,h⟩:=ih (qaA nl s i) (by have:=qgJ hi hn;omega) (qcQ _ _ h2)
     exact ⟨ts,o,.sharp hi hb hs h⟩
    | false=>
     by_cases h0:(lex s i).2.2 = 0
     ·obtain ⟨g1,g2,_⟩:=qmv hi h0
      obtain ⟨ts,o,h⟩:=ih (lex s i).2.1 (by omega) g2
      exact ⟨_,o,.word hi hb hs h0 h⟩
     ·exact ⟨_,_,.err hi hb hs h0⟩
  ·obtain rfl:i = s.length:=by omega
   exact ⟨_,_,.fin⟩
theorem RW.le {s:Str} {i:Nat} {ts:List Tok} {o:Option (Int×Int)} (h:RW s i ts o):i ≤ s.length∧ts.length + i ≤ s.length + 1∧(∀t ∈ ts,quW s t):=by
 induction h with
 | fin=>exact ⟨Nat.le_refl _,by simp;omega,fun t ht=>by
   rw [List.mem_singleton] at ht
   subst ht
   exact ⟨by simp,fun h=>by simp at h,fun h=>by simp at h,fun h=>by simp at h,by simp⟩⟩
 | blank hi _ _ ih=>exact ⟨by omega,by omega,ih.2.2⟩
 | @sharp i ts o hi hb hs _ ih=>have:=qdj nl s i;exact ⟨by omega,by omega,ih.2.2⟩
 | word hi _ _ h0 _ ih=>
  obtain ⟨g1,g2,_,g4⟩:=qmv hi h0
  refine ⟨by omega,by rw [List.length_cons];omega,fun t ht=>?_⟩
  rcases List.mem_cons.1 ht with rfl | ht
  ·exact g4
  ·exact ih.2.2 t ht
 | err hi _ _ _=>exact ⟨by omega,by simp;omega,fun t ht=>by cases ht⟩
theorem RW.last {s:Str} {i:Nat} {ts:List Tok} {o:Option (Int×Int)} (h:RW s i ts o) (ho:o = none):∃ws,ts = ws ++ [⟨4,[],0,s.length⟩]∧∀t ∈ ws,t.kind ≠ 4:=by
 induction h with
 | fin=>exact ⟨[],rfl,fun _ h=>by cases h⟩
 | blank hi _ _ ih=>exact ih ho
 | sharp hi _ _ _ ih=>exact ih ho
 | word hi _ _ h0 _ ih=>
  obtain ⟨ws,rfl,hw⟩:=ih ho
  refine ⟨_ :: ws,rfl,fun t ht=>?_⟩
  rcases List.mem_cons.1 ht with rfl | ht
  ·exact (qmv hi h0).2.2.1
  ·exact hw t ht
 | err hi _ _ _=>cases ho
theorem RW.wf {s:Str} (hs:s.length ≤ 16384) {ts:List Tok} (h:RW s 0 ts none):WF ts∧0 < ts.length:=by
 have hl:=h.le
 obtain ⟨ws,rfl,hw⟩:=h.last rfl
 refine ⟨⟨by omega,fun n w hn hk=>?_⟩,by simp⟩
 rcases Nat.lt_or_ge n ws.length with h1 | h1
 ·simp;omega
 ·rw [List.getElem?_append_right h1] at hn
  obtain ⟨h2,h3⟩:=List.getElem?_eq_some_iff.1 hn
  simp at h2
  have:n - ws.length = 0:=by omega
  simp only [this,List.getElem_cons_zero] at h3
  subst h3
  exact absurd rfl hk
theorem qgE.skip {s:Str} {i i':Nat} {ts:List Tok} {o:Option (Int×Int)} (h:qgE s i' ts o) (hf:∀j,qhN s i' j→qhN s i j):qgE s i ts o:=by
 cases h with
 | last h1 h2 h3=>exact .last (hf _ h1) h2 h3
 | err h1 h2 h3=>exact .err (hf _ h1) h2 h3
 | next h1 h2 h3 h4=>exact .next (hf _ h1) h2 h3 h4
theorem qkH {s:Str} {i k:Nat} (h:qcL (s.drop i) = some k):qaA nl s i = i + k∧∃hk:i + k < s.length,AE.blank s[i + k] = true:=by
 rw [qcL,List.findIdx?_eq_some_iff_getElem] at h
 obtain ⟨h1,h2,h3⟩:=h
 rw [List.length_drop] at h1
 have e:((s.drop i).takeWhile nl).length = k:=by
  rw [List.takeWhile_eq_take_findIdx_not,List.length_take,List.length_drop]
  have:List.findIdx (fun a=>!nl a) (s.drop i) = k:=by
   rw [List.findIdx_eq (by rw [List.length_drop];omega)]
   refine ⟨?_,fun j hj=>?_⟩
   ·simp only [beq_iff_eq] at h2
    simp [nl,h2]
   ·have:=h3 j hj
    simp only [nl,Bool.not_not]
    rw [Bool.eq_false_iff]
    intro q
    rw [beq_iff_eq] at q
    refine this ?_
    rw [beq_iff_eq]
    apply UInt8.toNat_inj.1
    show _ = 10
    omega
  rw [this]
  omega
 refine ⟨by rw [qaA,e],by omega,?_⟩
 rw [List.getElem_drop] at h2
 simp only [beq_iff_eq] at h2
 simp [AE.blank,h2]
theorem qkv {s:Str} {i:Nat} (hi:i ≤ s.length) (h:qcL (s.drop i) = none):qaA nl s i = s.length:=by
 rw [qcL,List.findIdx?_eq_none_iff] at h
 rw [qaA,qf0 nl _ ?_,List.length_drop]
 ·omega
 ·intro a ha
  have:=h a ha
  rw [beq_eq_false_iff_ne] at this
  simp only [nl,Bool.not_eq_true',beq_eq_false_iff_ne,ne_eq]
  intro q
  refine this ?_
  apply UInt8.toNat_inj.1
  show _ = 10
  omega
theorem RW.words (hat:qkx) {s:Str} (hs:s.length ≤ 100000) {i:Nat} {ts:List Tok} {o:Option (Int×Int)} (h:RW s i ts o):qgE s i ts o:=by
 induction h with
 | fin=>
  have e:lex s s.length = (⟨4,[],0,s.length⟩,s.length,0):=by simp only [lex,List.getElem?_eq_none (Nat.le_refl _)]
  have:=qi3 hat hs (Nat.le_refl s.length)
  rw [e] at this
  exact .last .done this rfl
 | blank hi hb _ ih=>exact ih.skip fun j hj=>.blank hi hb hj
 | @sharp i ts o hi hb hh _ ih=>
  cases hl:qcL (s.drop i) with
  | none=>
   rw [qkv (Nat.le_of_lt hi) hl] at ih
   refine ih.skip fun j hj=>?_
   have hj2:j = s.length:=by have:=hj.le;omega
   subst hj2
   exact .last hi hb hh hl
  | some k=>
   obtain ⟨e,hk,hb2⟩:=qkH hl
   rw [e] at ih
   refine ih.skip fun j hj=>?_
   refine .line hi hb hh hl ?_
   generalize hq:i + k = q at hj hk hb2
   cases hj with
   | done=>omega
   | blank _ _ h=>exact h
   | line _ h0 _ _ _=>rw [h0] at hb2;cases hb2
   | last _ h0 _ _=>rw [h0] at hb2;cases hb2
   | word _ h0 _=>rw [h0] at hb2;cases hb2
 | @word i ts o hi hb hh h0 _ ih=>
  have hw:=qi3 hat hs (Nat.le_of_lt hi)
  rw [h0] at hw
  exact .next (.word hi hb hh) hw (by simpa using (qmv hi h0).2.2.1) ih
 | @err i hi hb hh h0=>
  have hw:=qi3 hat hs (Nat.le_of_lt hi)
  have hp:(lex s i).1.pos = i:=by
   simp only [lex,qa4,qfF,qgg,qkn]
   repeat' split
   all_goals rfl
  rw [←hp]
  exact .err (.word hi hb hh) hw (by simpa using h0)
section
variable {h:List qx} {ws:List Tok}
theorem qlM (f:FuncId):Wd (.fn 53 [] []) [.lst [] .full,.lst [] .full,.fn f [] []] h = some (.ret (.bool true),h,false):=by
 have z0:ilt 0 (((0:Nat):Int)) = false:=by kernel_rfl
 rw [qm rfl (show T.get 53 = some c53 by kernel_rfl)]
 simp only [c53,qzQ,sT.1,sC.1,qf,qe,Nat.testBit,simprocAttr,-Int.reduceNatCast',qn,z0]
theorem qlp (f:FuncId):Wd (.fn 55 [] []) [.lst [] .full,.lst [] .full,.fn f [] []] h = some (.ret (.bool true),h,false):=by
 have z0:ilt 0 (((0:Nat):Int)) = false:=by kernel_rfl
 rw [qm rfl (show T.get 55 = some c55 by kernel_rfl)]
 simp only [c55,qzO,sT.1,sC.1,qf,qe,Nat.testBit,simprocAttr,-Int.reduceNatCast',qn,z0]
theorem qsq:Wd (.fn 24 [] []) [qhP,qhP] h = some (.ret (.bool true),h,false):=by
 rw [qhP,qm rfl (show T.get 24 = some c24 by kernel_rfl)]
 simp only [c24,sT.1,sC.1,qf,qe,Nat.testBit,simprocAttr,-Int.reduceNatCast',qlM]
theorem qiH:Wd (.fn 25 [] []) [qhU,qhU] h = some (.ret (.bool true),h,false):=by
 rw [qhU,qm rfl (show T.get 25 = some c25 by kernel_rfl)]
 simp only [c25,sT.1,sC.1,qf,qe,Nat.testBit,simprocAttr,-Int.reduceNatCast',qlp]
end
section
variable {ws:List Tok}
theorem qnT (hw:WF ws) {n:Nat} (hn:n < ws.length) (a0:qbu ws n = false) {h:List qx} {i:Nat} (hi:h[i]? = some (PB ws n)):Wd (.fn 37 [] []) [.ptr i 0] h = some (.pan (qbo (word ws n).pos 6),h.set i (PB ws n),false):=by
 have hlt:=qd hi
 have hps:=qdc hi
 rw [PBi] at hps
 have hb1:=qr h 1
 have hb2:=qr h 2
 have hb3:=qr h 3
 have hb4:=qr h 4
 have hne:i ≠ h.length + 1:=by omega
 have hn0:i ≠ h.length:=by omega
 have hbg:∀l,Wd (.fn 74 [] [.ptr h.length 0]) [] (h ++ (.cells [.ptr i 0] :: l)) = some (.ret (.bool (qbu ws n)),h ++ (.cells [.ptr i 0] :: l),false):=fun l=>qcr hw hn (by rw [List.getElem?_append_right (Nat.le_refl _),Nat.sub_self];rfl) (by rw [List.getElem?_append_left hlt];exact hi)
 rw [PBi] at hi
 rw [qm rfl (show T.get 37 = some c37 by kernel_rfl)]
 simp only [c37,sT.1,sC.1,qf,qe,Nat.testBit,simprocAttr,-Int.reduceNatCast',hbg,a0,qaK hw hn,hi,hlt,hne,hn0,PBi,qbB,hb1,hb2,hb3,hb4,hps,qu,qb,qY.enc,qa1.enc,qF.enc,qa5.enc,qX.enc,qas.enc,qbw.enc,qF.zero,Nd.enc,Nd.cs,Exp.enc,Exp.cs,List.cons_append,List.nil_append,qt,qj,qv,qN,qA,qC,qw,qo]
end
theorem qie:∀(r:Str) (i:Nat),0 < i→r.all qbC = true→qaN i r = true
 | [],_,_,_=>rfl
 | c :: r,i,hi,h=>by
  rw [List.all_cons,Bool.and_eq_true] at h
  have h1:=h.1
  simp only [qbC,Bool.or_eq_true] at h1
  have e:(!qb0 c && (i == 0 || !qaJ c)) = false:=by
   have:(i == 0) = false:=by simp;omega
   rcases h1 with h1 | h1 <;> simp [h1,this]
  rw [qaN,e]
  exact qie r (i + 1) (by omega) h.2
theorem qvy {s r:Str} {c:UInt8} (h:s = c :: r) (hc:qb0 c = true) (hr:r.all qbC = true) (hl:r.length ≤ 15):qfW s = true:=by
 subst h
 have:qaN 0 (c :: r) = true:=by
  rw [qaN,hc]
  exact qie r 1 (by omega) hr
 simp only [qfW,this,List.length_cons,Bool.and_true,Bool.and_eq_true,decide_eq_true_eq]
 omega
theorem qsy {ws:List Tok} {n:Nat} (hn:n < ws.length):word ws n ∈ ws:=List.mem_of_getElem? (qiT hn)
theorem qDq {s:Str} {ws:List Tok} (h:∀t ∈ ws,quW s t):WQ ws:=fun n hn=>by
 have ht:=h _ (qsy hn)
 refine ⟨fun hk=>(ht.int hk).1,fun hk=>?_⟩
 obtain ⟨c,r,h1,h2,h3,h4⟩:=ht.name (.inr hk)
 exact qvy h1 h2 h3 h4
theorem qAK (s:Str) (i:Nat) (h:(lex s i).2.2 ≠ 0):1 ≤ (lex s i).2.2:=by
 revert h
 simp only [lex,qa4,qfF,qgg,qkn]
 repeat' split
 all_goals simp
theorem qDN {s:Str} {i:Nat} {ts:List Tok} {o:Option (Int×Int)} (h:RW s i ts o):∀p e,o = some (p,e)→0 ≤ p∧p ≤ s.length∧1 ≤ e:=by
 induction h with
 | fin=>intro p e h;cases h
 | blank _ _ _ ih=>exact ih
 | sharp _ _ _ _ ih=>exact ih
 | word _ _ _ _ _ ih=>exact ih
 | @err i hi _ _ h0=>intro p e h;cases h;exact ⟨by omega,by omega,qAK s i h0⟩
def POk (s:Str):Prop:=∃(ms:List qc) (rt:Str),qg7 (.agg [.lst ms (fl ms.isEmpty),.str rt])∧∀h,Wd (.fn 14 [] []) [.str s] h = some (.ret (.tup [.agg [.lst ms (fl ms.isEmpty),.str rt],.int .i64 0,.int .i64 0]),h,false)
def PNo (s:Str):Prop:=∃p e:Int,0 ≤ p∧p ≤ s.length∧1 ≤ e∧∀h,Wd (.fn 14 [] []) [.str s] h = some (.ret (.tup [qhP,.int .i64 p,.int .i64 e]),h,false)
def EOk (s:Str):Prop:=∃e:Exp,qly e∧∀h,Wd (.fn 11 [] []) [.str s] h = some (.ret (.tup [e.enc φP,.int .i64 0,.int .i64 0]),h,false)
def ENo (s:Str):Prop:=∃p e:Int,0 ≤ p∧p ≤ s.length∧1 ≤ e∧∀h,Wd (.fn 11 [] []) [.str s] h = some (.ret (.tup [qhU,.int .i64 p,.int .i64 e]),h,false)
theorem qmc:∃e:Exp,qhU = e.enc φP:=⟨.mk 0 0 [] [] [],Eq.trans rfl rfl⟩
theorem qhv {s:Str} {p e:Int} (hr:∀h,Wd (.fn 36 [] []) [.str s,.fn 37 [] []] h = some (.ret (.tup [qhP,.int .i64 p,.int .i64 e]),h,false)) (h:List qx):Wd (.fn 14 [] []) [.str s] h = some (.ret (.tup [qhP,.int .i64 p,.int .i64 e]),h,false):=
 qqC (ms:=[]) (rt:=[]) (fun _=>rfl) hr
theorem qqm (hix:qcF) (hat:qkx) {s:Str} (hs:s.length ≤ 16384):(POk s∧ENo s)∨(PNo s∧(EOk s∨ENo s)):=by
 obtain ⟨ts,o,hW⟩:=RW.ex s s.length 0 (by omega) (by omega)
 have hWd:=hW.words hat (by omega)
 have hle:=hW.le
 cases o with
 | some pe=>
  obtain ⟨p,e⟩:=pe
  obtain ⟨g1,g2,g3⟩:=qDN hW p e rfl
  have hS:qrg s p e:=fun h=>⟨_,qyq hix hs hWd (by omega)⟩
  exact .inr ⟨⟨p,e,g1,g2,g3,fun h=>qhv (fun h=>qte (by omega) hS _) h⟩,.inr ⟨p,e,g1,g2,g3,fun h=>qhx qmc fun h=>qvR (by omega) hS _⟩⟩
 | none=>
  obtain ⟨hw,h0⟩:=hW.wf hs
  have hz:=qDq hle.2.2
  have hS:qjK s ts:=fun h=>qx3 hix hs hWd (by omega)
  have hpos:∀k,k < ts.length→0 ≤ (word ts k).pos∧(word ts k).pos ≤ s.length:=fun k hk=>(hle.2.2 _ (qsy hk)).pos
  have hx:∀m,m < ts.length→∃o,qai 66 ts m o∧XOK ts o:=fun m hm=>qzh hw hz hm
  cases hb:qbu ts 0 with
  | true=>
   have hno:ENo s:=⟨(word ts 0).pos,6,(hpos 0 h0).1,(hpos 0 h0).2,by decide,fun h=>qhx qmc fun h=>qpP hS fun h i hi=>qjm (qqB hw h0 hb) hi⟩
   obtain ⟨o,g1,g2⟩:=qnR hw hx h0
   rcases o with ⟨p,e⟩ | ⟨v,m⟩
   ·obtain ⟨m,x1,x2⟩:=g1
    obtain ⟨⟨k,hk,rfl⟩,h1⟩:=g2
    exact .inr ⟨⟨_,e,(hpos k hk).1,(hpos k hk).2,h1,fun h=>qhv (fun h=>qpv hS x2) h⟩,.inr hno⟩
   ·obtain ⟨x0,x1,x2⟩:=g1
    obtain ⟨ms,rt,rfl,hne,hl,hr⟩:=g2
    exact .inl ⟨⟨ms,rt,⟨ms,rt,rfl,hne,hl,hr⟩,fun h=>qqC hl.lower fun h=>qxD hS hl.lower x2⟩,hno⟩
  | false=>
   refine .inr ⟨⟨(word ts 0).pos,6,(hpos 0 h0).1,(hpos 0 h0).2,by decide,fun h=>qhv (fun h=>qpv hS fun h i hi=>qnT hw h0 hb hi) h⟩,?_⟩
   obtain ⟨o,hp,hok⟩:=hx 0 h0
   cases o with
   | ok e n=>
    by_cases k4:(word ts n).kind = 4
    ·exact .inl ⟨e,⟨hok,hp.2.2.1⟩,fun h=>qhx ⟨e,rfl⟩ fun h=>qA0 hS fun h i hi=>qsk hw hp k4 hi⟩
    ·obtain ⟨g1,g2⟩:=hpos n hp.2.1
     exact .inr ⟨_,6,g1,g2,by decide,fun h=>qhx qmc fun h=>qpP hS fun h i hi=>qlf hw hp k4 hi⟩
   | no p err n=>
    obtain ⟨⟨k,hk1,rfl⟩,h1⟩:=hok
    exact .inr ⟨_,err,(hpos k hk1).1,(hpos k hk1).2,h1,fun h=>qhx qmc fun h=>qpP hS fun h i hi=>qjm hp hi⟩
theorem qdg (t z:List qc):pureV t (.build z []) = some (.agg z):=rfl
set_option maxHeartbeats 0 in
theorem qB0 (hix:qcF) (hat:qkx) (haw:Wd (.fn 10 [] []) [] [] = some (.ret (.bool true),[],false)) (s:Str):Wd (.fn 7 [] []) [.str s] [] = some (.ret (.bool true),[],false):=by
 rw [qm rfl (show T.get 7 = some c7 by kernel_rfl)]
 rcases Nat.lt_or_ge 8000 s.length with hl | hl
 ·have c1:ilt 8000 (s.length:Int) = true:=by rw [qaw];simp;omega
  simp only [c7,sT.1,sC.1,qf,qe,Nat.testBit,simprocAttr,-Int.reduceNatCast',qu,qdg,haw,c1]
 ·have c1:ilt 8000 (s.length:Int) = false:=by rw [qaw];simp;omega
  have sn:=fun h=>qsq (h:=h)
  have en:=fun h=>qiH (h:=h)
  simp only [qhP] at sn
  simp only [qhU] at en
  rcases qqm hix hat (s:=s) (by omega) with ⟨⟨ms,rt,hp,h1⟩,⟨q,f,q1,q2,q3,h2⟩⟩ | ⟨⟨p,e,p1,p2,p3,h1⟩,h3⟩
  ·have hr:=fun h=>qtM (h:=h) hp
   have f0:(f == 0) = false:=by simp;omega
   have g1:=qct q1
   have g2:=qct q2
   simp only [qhU] at h2
   simp only [c7,sT.1,sC.1,qf,qe,Nat.testBit,simprocAttr,-Int.reduceNatCast',qu,qdg,haw,c1,h1,h2,hr,en,f0,g1,g2,qt,qj]
   exact congrArg some (qb7 (h:=[]) rfl rfl)
  ·have e0:(e == 0) = false:=by simp;omega
   have g1:=qct p1
   have g2:=qct p2
   simp only [qhP] at h1
   rcases h3 with ⟨x,hx,h2⟩ | ⟨q,f,q1,q2,q3,h2⟩
   ·have hr:=fun h=>qcg hx h
    obtain ⟨op,n,nm,sb,aS⟩:=x
    simp only [Exp.enc,Exp.cs] at h2 hr
    simp only [c7,sT.1,sC.1,qf,qe,Nat.testBit,simprocAttr,-Int.reduceNatCast',qu,qdg,haw,c1,h1,h2,hr,sn,e0,g1,g2,qt,qj]
    exact congrArg some (qb7 (h:=[]) rfl rfl)
   ·have f0:(f == 0) = false:=by simp;omega
    have k1:=qct q1
    have k2:=qct q2
    simp only [qhU] at h2
    simp only [c7,sT.1,sC.1,qf,qe,Nat.testBit,simprocAttr,-Int.reduceNatCast',qu,qdg,haw,c1,h1,h2,sn,en,e0,f0,g1,g2,k1,k2,qt,qj]
    exact congrArg some (qb7 (h:=[]) rfl rfl)
theorem qpS {c:UInt8} (hd:qaJ c = true):48 ≤ c.toNat∧c.toNat ≤ 57:=by
 simp only [qaJ,qea,Bool.and_eq_true,decide_eq_true_eq] at hd
 omega
theorem qil:∀s:Str,Lib.indexByte s 10 = qdY s
 | []=>rfl
 | c :: s=>by
  have ih:=qil s
  rw [Lib.indexByte]
  simp only [qdY,qcL,List.findIdx?_cons] at ih ⊢
  cases hb:(c == 10) with
  | true=>simp
  | false=>
   simp only [Bool.false_eq_true,if_false]
   rw [ih]
   cases hf:List.findIdx? (fun x=>x == 10) s with
   | none=>simp
   | some k=>simp
theorem qxT:qcF:=by
 intro s h
 rw [show Wd = W T.get X from rfl,qrb qgC (show X 229 = some qir from rfl)]
 show some (qeh.ret (qc.int .i64 (Lib.indexByte s ((10:Int).toNat.toUInt8))),h,false) = _
 rw [show ((10:Int).toNat.toUInt8) = 10 from rfl,qil]
theorem qgt:∀(l:Str) (acc:Nat),l.all qaJ = true→acc < 18446744073709551616→
  (Lib.parseUint10 acc l = .ok (l.foldl (fun a c=>a * 10 + (c.toNat - 48)) acc)∧l.foldl (fun a c=>a * 10 + (c.toNat - 48)) acc < 18446744073709551616)∨
  (Lib.parseUint10 acc l = .range∧18446744073709551616 ≤ l.foldl (fun a c=>a * 10 + (c.toNat - 48)) acc)
 | [],acc,_,h=>.inl ⟨rfl,h⟩
 | c :: l,acc,hd,h=>by
  rw [List.all_cons,Bool.and_eq_true] at hd
  obtain ⟨d1,d2⟩:=qpS hd.1
  have mono:∀(l:Str) (a b:Nat),a ≤ b→l.foldl (fun a c=>a * 10 + (c.toNat - 48)) a ≤ l.foldl (fun a c=>a * 10 + (c.toNat - 48)) b:=by
   intro l
   induction l with
   | nil=>intro a b h;exact h
   | cons c l ih=>intro a b h;exact ih _ _ (by show a * 10 + _ ≤ b * 10 + _;omega)
  have grow:∀(l:Str) (a:Nat),a ≤ l.foldl (fun a c=>a * 10 + (c.toNat - 48)) a:=by
   intro l
   induction l with
   | nil=>intro a;exact Nat.le_refl _
   | cons c l ih=>intro a;exact Nat.le_trans (by show a ≤ a * 10 + _;omega) (ih _)
  rw [Lib.parseUint10,if_pos ⟨d1,d2⟩,List.foldl_cons]
  by_cases h1:1844674407370955162 ≤ acc
  ·rw [if_pos h1]
   exact .inr ⟨rfl,Nat.le_trans (by omega) (grow l _)⟩
  ·rw [if_neg h1]
   by_cases h2:18446744073709551616 ≤ acc * 10 + (c.toNat - 48)
   ·rw [if_pos h2]
    exact .inr ⟨rfl,Nat.le_trans h2 (grow l _)⟩
   ·rw [if_neg h2]
    exact qgt l _ hd.2 (by omega)
theorem qlV {d:Str} (hne:d ≠ []) (hd:d.all qaJ = true):Lib.atoiAll d = if qfh d ≤ qem then .ok (qfh d:Nat) else .range:=by
 cases d with
 | nil=>exact absurd rfl hne
 | cons c r=>
  have hc:=hd
  rw [List.all_cons,Bool.and_eq_true] at hc
  obtain ⟨d1,d2⟩:=qpS hc.1
  have h43:¬ (c.toNat = 43):=by omega
  have h45:¬ (c.toNat = 45):=by omega
  rw [Lib.atoiAll]
  simp only [h43,Lib.parseMag,reduceCtorEq,if_false,h45,or_self,not_false_eq_true,true_and,false_and]
  rcases qgt (c :: r) 0 hd (by omega) with ⟨p1,p2⟩ | ⟨p1,p2⟩
  ·rw [p1]
   by_cases hq:qfh (c :: r) ≤ qem
   ·rw [if_pos hq]
    show (if 9223372036854775808 ≤ qfh (c :: r) then Lib.NumEnd.range else Lib.NumEnd.ok (qfh (c :: r):Int)) = _
    rw [if_neg (by simp only [qem] at hq;omega)]
   ·rw [if_neg hq]
    show (if 9223372036854775808 ≤ qfh (c :: r) then Lib.NumEnd.range else Lib.NumEnd.ok (qfh (c :: r):Int)) = _
    rw [if_pos (by simp only [qem] at hq;omega)]
  ·rw [p1,if_neg]
   show ¬ qfh (c :: r) ≤ qem
   have p2':18446744073709551616 ≤ qfh (c :: r):=p2
   simp only [qem]
   omega
theorem qAs:qkx:=by
 intro d hne hl hd
 have ha:=qlV hne hd
 have hb:Nat.ble d.length 100000 = true:=Nat.ble_eq_true_of_le hl
 refine ⟨fun h=>?_,fun h=>?_⟩
 ·rw [if_pos h] at ha
  intro hp
  obtain ⟨t,ht⟩ :∃t,X 258 = some (qiL t):=⟨_,rfl⟩
  rw [show Wd = W T.get X from rfl,qrb qgC ht]
  simp only [qiL,List.nil_append,List.append_nil,hb,cond_true,ha]
 ·rw [if_neg (by omega)] at ha
  intro hp
  obtain ⟨t,ht⟩ :∃t,X 258 = some (qiL t):=⟨_,rfl⟩
  refine ⟨Lib.atoiSat d,t,.undef,[],?_⟩
  rw [show Wd = W T.get X from rfl,qrb qgC ht]
  simp only [qiL,List.nil_append,List.append_nil,hb,cond_true,ha]
theorem qtm:run T.get X 400 (.fn 10 [] []) [] [] = some (.ret (.bool true),[],false):=by kernel_rfl
end Go.Proofs.YtlognicjhmcgjaaGreatDoor.AE
