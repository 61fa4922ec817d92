/- A part of the proof. No condition. -/
import Derived.Test.YtkehdpkcdnofaaaGreatDoorMr20
set_option maxRecDepth 100000
set_option maxHeartbeats 0
open List renaming getElem?_set_ne→jf,length_set→jV,forall_mem_cons→j8
namespace Go.Proofs.YtkehdpkcdnofaaaGreatDoor.AE
open Go.AE
theorem sne {L:List qk} {x:qk} {n a b:Nat} (h:a ≠ b):(L.set (n + a) x)[n + b]? = L[n + b]?:=jf zo
theorem qg4 {L:List qk} {x:qk} {n a:Nat} (h:a ≠ 0):(L.set (n + a) x)[n]? = L[n]?:=jf zo
theorem qiL {L:List qk} {x:qk} {n b:Nat} (h:b ≠ 0):(L.set n x)[n + b]? = L[n + b]?:=jf zo
theorem qda {ws:List Tok} {L:Nat} {p e:Int} {h:List qk} {n:Int} {D tt:List qd} {H:List qk} (S:MS ws L p e h n D tt H):tt.length = L/\lkp tt 0 = Wv ws/\lkp tt 2 = .int .i64 n/\lkp tt 4 = .ptr h.length 0/\lkp tt 6 = .ptr (h.length + 1) 0/\lkp tt 8 = .ptr (h.length + 2) 0/\lkp tt 9 = .ptr (h.length + 3) 0/\H[h.length]? = some (.cells D)/\H[h.length + 1]? = some (.cells Z14)/\H[h.length + 2]? = some zz/\H[h.length + 3]? = some (.cells [.int .i64 p,.int .i64 e])/\H.take h.length = h/\h.length < H.length/\h.length + 1 < H.length/\h.length + 2 < H.length/\h.length + 3 < H.length/\Nat.ble h.length (h.length + 1) = true/\Nat.ble h.length h.length = true:=
 ⟨S.1,S.2,S.3,S.4,S.5,S.6,S.7,S.8,S.9,S.10,S.11,S.12,qc S.8,qc S.9,qc S.10,qc S.11,qE zo,qE zo⟩
theorem qhA {n:Nat} {H h:List qk} {v:qd} (hv:v.lower n = true) (hc:H.take n = h:=by repeat (first | exact tk | refine qaz ?_ (by simp only [jV];omega) _ | refine qz ?_ zo _)):qbD n (.ret v) H false = (.ret v,h,false):=qw hc hv
abbrev qi4 (nm:Str) (c:Bool) (ins outs vars ta emits int ext:qd) (con:Int) (own:qd):List qd:=[.str nm,.bool c,ins,outs,vars,ta,emits,int,ext,.int .i64 con,own,.lst [] .full,.lst [] .full,.lst [] .full]
structure qfI where
 vars:List qbq
 ta:Exp
 emits:List qbB
 int:List qbq
 ext:List qbq
 con:Int
 own:List qbq
def qfI.row (φ:Int->Nat->Bool) (nm:Str) (c:Bool) (ins outs:List qd) (x:qfI):List qd:=qi4 nm c (lV ins) (lV outs) (lV (x.vars.map (qbq.enc φ))) (.lst [x.ta.enc φ] .full) (lV (x.emits.map (qbB.enc φ))) (lV (x.int.map (qbq.enc φ))) (lV (x.ext.map (qbq.enc φ))) x.con (lV (x.own.map (qbq.enc φ)))
def qfI.good (x:qfI):Prop:=x.vars.length <= 10/\x.emits.length <= 8/\x.int.length <= 10/\x.ext.length <= 10/\x.own.length <= 10/\qlg x.ta/\(∀d ∈ x.vars,qlh d)/\(∀d ∈ x.emits,d.good)/\(∀d ∈ x.int,qlh d)/\(∀d ∈ x.ext,qlh d)/\(∀d ∈ x.own,qlh d)
theorem qbz {nm:Str} {c:Bool} {ins outs vars ta E int ext:List qd} {I:Int} {own:List qd} (a:∀k,qj k ins = true) (b:∀k,qj k outs = true) (v:∀k,qj k vars = true) (t:∀k,qj k ta = true) (m:∀k,qj k E = true) (i:∀k,qj k int = true) (x:∀k,qj k ext = true) (o:∀k,qj k own = true):Shp 14 (.agg (qi4 nm c (lV ins) (lV outs) (lV vars) (.lst ta .full) (lV E) (lV int) (lV ext) I (lV own))):=
 ⟨_,rfl,rfl,by simp [qd.storable,lV],λn=>by simp [qj,qd.lower,lV,a,b,v,t,m,i,x,o],by simp only [List.map_cons,List.map_nil,qp,lV];rfl⟩
theorem qe7 (a b c:Str):qcV 1 [.str []] 3 [(0,.str a),(1,.str b),(2,.str c)] = some (.lst [.str a,.str b,.str c] .full):=rfl
section
variable {ws:List Tok}
theorem qO (k:Nat) (ds:List qbq):qj k (ds.map (qbq.enc φR)) = true:=qc0 k ds φR
theorem qal (k:Nat) (ds:List qbB):qj k (ds.map (qbB.enc φR)) = true:=qI (qad (qdo φR) ds) k
theorem qoH (k:Nat) (ds:List qbB):qj k (ds.map (qbB.enc φP)) = true:=qI (qad (qdo φP) ds) k
theorem qbX (k:Nat) (ds:List qbq):qj k (ds.map (qbq.enc φP)) = true:=qc0 k ds φP
theorem quX (hw:WF ws) (hk:KOK ws) {nm:Str} {c:Bool} {ins outs:List qd} (I:∀k,qj k ins = true) (E:∀k,qj k outs = true) {n:Nat} (hn:n < ws.length):BoM ws 51 36 (qdc nm c ins outs) (qdc nm c ins outs) (qfI.row φP nm c ins outs) (qfI.row φR nm c ins outs) qfI.good n:=by
 have wz:∀k,qj k [] = true:=λ_=>rfl
 have A0:=AtC.start (F:=36) (aS:=[Wv ws,.agg (qdc nm c ins outs),.int .i64 (n:Nat)]) rfl (show T.get 36 = some c36 by kernel_rfl)
 have A1:=A0.go 2 (S':=λh tt H=>MS ws 217 0 0 h (n:Nat) (qdc nm c ins outs) tt H) (λh tt H ⟨ht,hH⟩=>by
  subst ht hH
  generalize hx:qg H.length Wd _ _ = R
  simp only [sB.1,c36,qas,qau,Wv,qdc,seval,qp,lV] at hx
  subst hx
  exact ⟨_,_,rfl,Y1,Y1,Y1,Y1,Y1,Y1,Y1,by simp [lV],by simp,by simp,by simp,by simp⟩)
 obtain ⟨U,m0,l0,h0,q0,c0,b0,_,w0,k0⟩ | ⟨p,e,m',U,m0,ap,hp,he,hm,q0,c0,b0,x0,k0⟩:=quw hw hk hn
 all_goals have A2:=A1.loop (S:=λh n xs tt H=>MS ws 217 0 0 h (n:Nat) (qi4 nm c (lV ins) (lV outs) (.lst xs (ofl 6 xs)) (.lst [] .full) (.lst [] .full) (.lst [] .full) (.lst [] .full) 0 (.lst [] .full)) tt H) (body:=qgy) (id:=0) rfl (qdi φR) (fun {h n m d xs tt H} h1 hl hx S=>qux hk hw h1.1 (by have:=h1.2.1;have:=h1.2.2.1;omega) h1.2.2.2.2 ((qdi φR) d) hl hx S) c0 q0
 ·have A3:=A2.exit (λh tt H S=>qxo hk b0 h0 S)
  obtain ⟨h1,k1,r1⟩ | ⟨p,e,hm,hp,he,k1,r1⟩:=qbW hw hk [116,97] zk h0
  ·obtain ⟨⟨o2,c2,u2,v2,y2⟩,m2,l2,h2,q2,k2,r2⟩ | ⟨p,e,m,j,⟨o2,c2,u2,v2,y2⟩,hm,hp,he,k2,r2⟩:=qlb hw hk h1
   all_goals simp only [Nd.enc,Nd.cs,Exp.enc,Exp.cs,List.cons_append,List.nil_append] at k2 r2
   ·obtain ⟨h3,k3,r3⟩ | ⟨p,e,hm,hp,he,k3,r3⟩:=qbW hw hk [59] zk h2
    ·have A4:=A3.go 7 (S':=λh tt H=>MS ws 217 0 0 h (m2 + 1:Nat) (qi4 nm c (lV ins) (lV outs) (.lst (U.map (qbq.enc φR)) (ofl 6 (U.map (qbq.enc φR)))) (.lst [(Exp.mk o2 c2 u2 v2 y2).enc φR] .full) (.lst [] .full) (.lst [] .full) (.lst [] .full) 0 (.lst [] .full)) tt H) (λh tt H S=>by
      obtain ⟨ht,e0,e2,e4,e6,e8,e9,b4,b6,b8,b9,tk,l4,l6,l8,l9,n1,n0⟩:=qda S
      generalize hx:qg h.length Wd _ _ = R
      simp only [sB.1,c36,qas,qau,bne,seval,ht,e0,e2,e4,e6,e8,e9,b4,b6,b8,b9,l4,l6,l8,l9,n1,sne,qg4,qiL,qav,qac,qp,lV,qx,qb7,r1,r2,r3] at hx
      subst hx
      exact ⟨_,_,rfl,Y0,Y3,Y4,y9,v6,y5,z8,qL (qf (qU (qf b4 zo _) _) zo _) _,qL (qf (qf (qf b6 zo _) zo _) zo _) _,qL (qf (qf (qf b8 zo _) zo _) zo _) _,qL (qU (qf (qU b9 _) zo _) _) _,qaz (qz (qz (qz tk zo _) zo _) zo _) (by simp;omega) _⟩)
     obtain ⟨a7,m4,l4,h4,q4,c4,b4,_,w4,k4⟩ | ⟨p,e,m',a7,m4,ap,hp,he,hm,q4,c4,b4,x4,k4⟩:=qoF hw hk h3
     all_goals have A5:=A4.loop (S:=λh n xs tt H=>MS ws 217 0 0 h (n:Nat) (qi4 nm c (lV ins) (lV outs) (.lst (U.map (qbq.enc φR)) (ofl 6 (U.map (qbq.enc φR)))) (.lst [(Exp.mk o2 c2 u2 v2 y2).enc φR] .full) (.lst xs (ofl 7 xs)) (.lst [] .full) (.lst [] .full) 0 (.lst [] .full)) tt H) (body:=qgz) (id:=2) rfl (qdo φR) (fun {h n m d xs tt H} h1 hl hx S=>qoG hk hw h1.1 (by have:=h1.2.1;have:=h1.2.2.1;omega) h1.2.2.2.2 ((qdo φR) d) hl hx S) c4 q4
     ·have A6:=A5.exit (λh tt H S=>qrG hk b4 h4 S)
      obtain ⟨h5,k5,r5⟩ | ⟨p,e,hm,hp,he,k5,r5⟩:=qbW hw hk [105,110,116] zk h4
      ·obtain ⟨aa,m6,l6,h6,q6,k6,r6⟩ | ⟨p,e,m,j,aa,hm,hp,he,k6,r6⟩:=qt9 hw hk h5
       all_goals simp only [lV] at k6 r6
       ·obtain ⟨h7,k7,r7⟩ | ⟨p,e,hm,hp,he,k7,r7⟩:=qbW hw hk [101,120,116] zk h6
        ·obtain ⟨ac,m8,l8,h8,q8,k8,r8⟩ | ⟨p,e,m,j,ac,hm,hp,he,k8,r8⟩:=qt9 hw hk h7
         all_goals simp only [lV] at k8 r8
         ·obtain ⟨a9,h9,x9,k9,r9⟩ | ⟨a9,k9,r9⟩:=qkF hw hk [99,111,110] zk h8
          ·obtain ⟨ak,aj,av,ai,ah⟩ | ⟨ak,ai,ah⟩:=qkF hw hk [105,110,116] zk h9
           ·cases af:isW ws (m8 + 1 + 1) [101,120,116] with
            | false=>
             have ad:=λ(h:List qk) (i:Nat) (hi:h[i]? = some (PB ws (m8 + 1 + 1)))=>qb3 hw aj hi af
             have a8:=λh=>qhD hw hk h9 (all:=[[105,110,116],[101,120,116],[59]]) (by simp) (by simp only [j8];exact ⟨zk,zk,zk,λ_ h=>by cases h⟩) h
             simp only [List.map_cons,List.map_nil,qfm,ak,af,cond_true,cond_false,qbk] at a8
             have K:PNM ws 51 (qdc nm c ins outs) n (word ws (m8 + 1 + 1)).pos 6 (m8 + 1 + 1):=λh i r hi hr Y=>by
               obtain ⟨ab,a6,a1,s1,s2,s3,s4,s5,s6⟩:=two hi hr Y
               rw [PBi] at hi
               generalize hW:Wd _ _ h = W
               rw [qu 51 c51] at hW
               simp only [sB.1,c51,seval,k0,w0,k1,k2,k3,k4,w4,k5,k6,k7,k8,k9,ai,ad,hi,a6,a1,PBi,qdc,s1,s3,s4,qe,qp,qB,lV,qbX,qx,qb7] at hW
               subst hW
               first
               | exact ⟨_,rfl⟩
               | exact ⟨_,by rw [s6];rfl⟩
             exact .inr ⟨_,6,(m8 + 1 + 1),_,.agg (qi4 nm c (lV ins) (lV outs) (lV (U.map (qbq.enc φR))) (.lst [(Exp.mk o2 c2 u2 v2 y2).enc φR] .full) (lV (a7.map (qbB.enc φR))) (lV (aa.map (qbq.enc φR))) (lV (ac.map (qbq.enc φR))) 0 (.lst [] .full)),aj,qnF aj,rfl,qbz I E (λk=>qO k U) (qbF φR · [_]) (λk=>qal k a7) (λk=>qO k aa) (λk=>qO k ac) wz,K,A6.out 13 (λh tt H S=>by
              obtain ⟨ht,e0,e2,e4,e6,e8,e9,b4,b6,b8,b9,tk,l4,l6,l8,l9,n1,n0⟩:=qda S
              generalize hx:qg h.length Wd _ _ = R
              simp only [sB.1,c36,qas,qau,bne,seval,ht,e0,e2,e4,e6,e8,e9,b4,b6,b8,b9,l4,l9,n1,sne,qg4,qiL,qav,qe7,qac,qp,qB,lV,Exp.enc,Exp.cs,qx,r5,r6,r7,r8,r9,x9,ah,a8] at hx
              subst hx
              refine ⟨_,rfl,?_⟩
              simp only [sB.1,c36,seval,ht,e6,e8,l6,l8,sne,qp,lV]
              exact congrArg some (qw (by repeat (first | exact tk | refine qaz ?_ (by simp only [jV];omega) _ | refine qz ?_ zo _)) (by simp only [qd.lower,qj,qx,I,E,qO,qal];rfl)))⟩
            | true=>
             have ad:=λ(h:List qk) (i:Nat) (hi:h[i]? = some (PB ws (m8 + 1 + 1)))=>qH hw aj hi af
             have ae:=qi hw aj af
             cases a12:isW ws (m8 + 1 + 1 + 1) [59] with
             | false=>
              have al:=λ(h:List qk) (i:Nat) (hi:h[i]? = some (PB ws (m8 + 1 + 1 + 1)))=>qb3 hw ae hi a12
              have a8:=λh=>qhD hw hk h9 (all:=[[105,110,116],[101,120,116],[59]]) (by simp) (by simp only [j8];exact ⟨zk,zk,zk,λ_ h=>by cases h⟩) h
              simp only [List.map_cons,List.map_nil,qfm,ak,af,a12,cond_true,cond_false,qbk] at a8
              have K:PNM ws 51 (qdc nm c ins outs) n (word ws (m8 + 1 + 1 + 1)).pos 6 (m8 + 1 + 1 + 1):=λh i r hi hr Y=>by
                obtain ⟨ab,a6,a1,s1,s2,s3,s4,s5,s6⟩:=two hi hr Y
                rw [PBi] at hi
                generalize hW:Wd _ _ h = W
                rw [qu 51 c51] at hW
                simp only [sB.1,c51,seval,k0,w0,k1,k2,k3,k4,w4,k5,k6,k7,k8,k9,ai,ad,al,hi,a6,a1,PBi,qdc,s1,s3,s4,qe,qp,qB,lV,qbX,qx,qb7] at hW
                subst hW
                first
                | exact ⟨_,rfl⟩
                | exact ⟨_,by rw [s6];rfl⟩
              exact .inr ⟨_,6,(m8 + 1 + 1 + 1),_,.agg (qi4 nm c (lV ins) (lV outs) (lV (U.map (qbq.enc φR))) (.lst [(Exp.mk o2 c2 u2 v2 y2).enc φR] .full) (lV (a7.map (qbB.enc φR))) (lV (aa.map (qbq.enc φR))) (lV (ac.map (qbq.enc φR))) 0 (.lst [] .full)),ae,qnF ae,rfl,qbz I E (λk=>qO k U) (qbF φR · [_]) (λk=>qal k a7) (λk=>qO k aa) (λk=>qO k ac) wz,K,A6.out 13 (λh tt H S=>by
               obtain ⟨ht,e0,e2,e4,e6,e8,e9,b4,b6,b8,b9,tk,l4,l6,l8,l9,n1,n0⟩:=qda S
               generalize hx:qg h.length Wd _ _ = R
               simp only [sB.1,c36,qas,qau,bne,seval,ht,e0,e2,e4,e6,e8,e9,b4,b6,b8,b9,l4,l9,n1,sne,qg4,qiL,qav,qe7,qac,qp,qB,lV,Exp.enc,Exp.cs,qx,r5,r6,r7,r8,r9,x9,ah,a8] at hx
               subst hx
               refine ⟨_,rfl,?_⟩
               simp only [sB.1,c36,seval,ht,e6,e8,l6,l8,sne,qp,lV]
               exact congrArg some (qw (by repeat (first | exact tk | refine qaz ?_ (by simp only [jV];omega) _ | refine qz ?_ zo _)) (by simp only [qd.lower,qj,qx,I,E,qO,qal];rfl)))⟩
             | true=>
              have al:=λ(h:List qk) (i:Nat) (hi:h[i]? = some (PB ws (m8 + 1 + 1 + 1)))=>qH hw ae hi a12
              have ar:=qi hw ae a12
              have a8:=λh=>qhD hw hk h9 (all:=[[105,110,116],[101,120,116],[59]]) (by simp) (by simp only [j8];exact ⟨zk,zk,zk,λ_ h=>by cases h⟩) h
              simp only [List.map_cons,List.map_nil,qfm,ak,af,a12,cond_true,qbk] at a8
              exact .inl ⟨⟨U,.mk o2 c2 u2 v2 y2,a7,aa,ac,0,[]⟩,(m8 + 1 + 1 + 1 + 1),zo,ar,⟨q0,q4,q6.1,q8.1,Nat.zero_le _,q2,c0.all λ_ _ _ h=>h.2.2.2.1,c4.all λ_ _ _ h=>h.2.2.2.1,q6.2,q8.2,λ_ h=>by cases h⟩,λh i r hi hr Y=>by
                obtain ⟨ab,a6,a1,s1,s2,s3,s4,s5,s6⟩:=two hi hr Y
                rw [PBi] at hi
                generalize hW:Wd _ _ h = W
                rw [qu 51 c51] at hW
                simp only [sB.1,c51,seval,k0,w0,k1,k2,k3,k4,w4,k5,k6,k7,k8,k9,ai,ad,al,qbX,hi,a6,a1,PBi,qdc,s1,s3,s4,qp,qB,lV,qx,qb7] at hW
                exact hW.symm,A6.out 13 (λh tt H S=>by
               obtain ⟨ht,e0,e2,e4,e6,e8,e9,b4,b6,b8,b9,tk,l4,l6,l8,l9,n1,n0⟩:=qda S
               generalize hx:qg h.length Wd _ _ = R
               simp only [sB.1,c36,qas,qau,bne,seval,ht,e0,e2,e4,e6,e8,e9,b4,b6,b8,b9,l4,l9,n1,sne,qg4,qiL,qav,qe7,qac,qp,qB,lV,Exp.enc,Exp.cs,qx,r5,r6,r7,r8,r9,x9,ah,a8] at hx
               subst hx
               refine ⟨_,rfl,?_⟩
               simp only [sB.1,c36,seval,ht,e6,e8,l6,l8,sne,qp,lV,qfI.row,qkP,Exp.enc,Exp.cs]
               exact congrArg some (qw (by repeat (first | exact tk | refine qaz ?_ (by simp only [jV];omega) _ | refine qz ?_ zo _)) (by simp only [qd.lower,qj,qx,I,E,qO,qal,qx];rfl)))⟩
           ·have aQ:=ak
            have kQ:=ai
            have rQ:=ah
            obtain ⟨ak,aj,av,ai,ah⟩ | ⟨ak,ai,ah⟩:=qkF hw hk [101,120,116] zk h9
            ·cases af:isW ws (m8 + 1 + 1) [105,110,116] with
             | false=>
              have ad:=λ(h:List qk) (i:Nat) (hi:h[i]? = some (PB ws (m8 + 1 + 1)))=>qb3 hw aj hi af
              have a8:=λh=>qhD hw hk h9 (all:=[[101,120,116],[105,110,116],[59]]) (by simp) (by simp only [j8];exact ⟨zk,zk,zk,λ_ h=>by cases h⟩) h
              simp only [List.map_cons,List.map_nil,qfm,ak,af,cond_true,cond_false,qbk] at a8
              have K:PNM ws 51 (qdc nm c ins outs) n (word ws (m8 + 1 + 1)).pos 6 (m8 + 1 + 1):=λh i r hi hr Y=>by
                obtain ⟨ab,a6,a1,s1,s2,s3,s4,s5,s6⟩:=two hi hr Y
                rw [PBi] at hi
                generalize hW:Wd _ _ h = W
                rw [qu 51 c51] at hW
                simp only [sB.1,c51,seval,k0,w0,k1,k2,k3,k4,w4,k5,k6,k7,k8,k9,kQ,ai,ad,hi,a6,a1,PBi,qdc,s1,s3,s4,qe,qp,qB,lV,qbX,qx,qb7] at hW
                subst hW
                first
                | exact ⟨_,rfl⟩
                | exact ⟨_,by rw [s6];rfl⟩
              exact .inr ⟨_,6,(m8 + 1 + 1),_,.agg (qi4 nm c (lV ins) (lV outs) (lV (U.map (qbq.enc φR))) (.lst [(Exp.mk o2 c2 u2 v2 y2).enc φR] .full) (lV (a7.map (qbB.enc φR))) (lV (aa.map (qbq.enc φR))) (lV (ac.map (qbq.enc φR))) 1 (.lst [] .full)),aj,qnF aj,rfl,qbz I E (λk=>qO k U) (qbF φR · [_]) (λk=>qal k a7) (λk=>qO k aa) (λk=>qO k ac) wz,K,A6.out 13 (λh tt H S=>by
               obtain ⟨ht,e0,e2,e4,e6,e8,e9,b4,b6,b8,b9,tk,l4,l6,l8,l9,n1,n0⟩:=qda S
               generalize hx:qg h.length Wd _ _ = R
               simp only [sB.1,c36,qas,qau,bne,seval,ht,e0,e2,e4,e6,e8,e9,b4,b6,b8,b9,l4,l9,n1,sne,qg4,qiL,qav,qe7,qac,qp,qB,lV,Exp.enc,Exp.cs,qx,r5,r6,r7,r8,r9,x9,ah,a8,rQ] at hx
               subst hx
               refine ⟨_,rfl,?_⟩
               simp only [sB.1,c36,seval,ht,e6,e8,l6,l8,sne,qp,lV]
               exact congrArg some (qw (by repeat (first | exact tk | refine qaz ?_ (by simp only [jV];omega) _ | refine qz ?_ zo _)) (by simp only [qd.lower,qj,qx,I,E,qO,qal];rfl)))⟩
             | true=>
              have ad:=λ(h:List qk) (i:Nat) (hi:h[i]? = some (PB ws (m8 + 1 + 1)))=>qH hw aj hi af
              have ae:=qi hw aj af
              cases a12:isW ws (m8 + 1 + 1 + 1) [59] with
              | false=>
               have al:=λ(h:List qk) (i:Nat) (hi:h[i]? = some (PB ws (m8 + 1 + 1 + 1)))=>qb3 hw ae hi a12
               have a8:=λh=>qhD hw hk h9 (all:=[[101,120,116],[105,110,116],[59]]) (by simp) (by simp only [j8];exact ⟨zk,zk,zk,λ_ h=>by cases h⟩) h
               simp only [List.map_cons,List.map_nil,qfm,ak,af,a12,cond_true,cond_false,qbk] at a8
               have K:PNM ws 51 (qdc nm c ins outs) n (word ws (m8 + 1 + 1 + 1)).pos 6 (m8 + 1 + 1 + 1):=λh i r hi hr Y=>by
                 obtain ⟨ab,a6,a1,s1,s2,s3,s4,s5,s6⟩:=two hi hr Y
                 rw [PBi] at hi
                 generalize hW:Wd _ _ h = W
                 rw [qu 51 c51] at hW
                 simp only [sB.1,c51,seval,k0,w0,k1,k2,k3,k4,w4,k5,k6,k7,k8,k9,kQ,ai,ad,al,hi,a6,a1,PBi,qdc,s1,s3,s4,qe,qp,qB,lV,qbX,qx,qb7] at hW
                 subst hW
                 first
                 | exact ⟨_,rfl⟩
                 | exact ⟨_,by rw [s6];rfl⟩
               exact .inr ⟨_,6,(m8 + 1 + 1 + 1),_,.agg (qi4 nm c (lV ins) (lV outs) (lV (U.map (qbq.enc φR))) (.lst [(Exp.mk o2 c2 u2 v2 y2).enc φR] .full) (lV (a7.map (qbB.enc φR))) (lV (aa.map (qbq.enc φR))) (lV (ac.map (qbq.enc φR))) 1 (.lst [] .full)),ae,qnF ae,rfl,qbz I E (λk=>qO k U) (qbF φR · [_]) (λk=>qal k a7) (λk=>qO k aa) (λk=>qO k ac) wz,K,A6.out 13 (λh tt H S=>by
                obtain ⟨ht,e0,e2,e4,e6,e8,e9,b4,b6,b8,b9,tk,l4,l6,l8,l9,n1,n0⟩:=qda S
                generalize hx:qg h.length Wd _ _ = R
                simp only [sB.1,c36,qas,qau,bne,seval,ht,e0,e2,e4,e6,e8,e9,b4,b6,b8,b9,l4,l9,n1,sne,qg4,qiL,qav,qe7,qac,qp,qB,lV,Exp.enc,Exp.cs,qx,r5,r6,r7,r8,r9,x9,ah,a8,rQ] at hx
                subst hx
                refine ⟨_,rfl,?_⟩
                simp only [sB.1,c36,seval,ht,e6,e8,l6,l8,sne,qp,lV]
                exact congrArg some (qw (by repeat (first | exact tk | refine qaz ?_ (by simp only [jV];omega) _ | refine qz ?_ zo _)) (by simp only [qd.lower,qj,qx,I,E,qO,qal];rfl)))⟩
              | true=>
               have al:=λ(h:List qk) (i:Nat) (hi:h[i]? = some (PB ws (m8 + 1 + 1 + 1)))=>qH hw ae hi a12
               have ar:=qi hw ae a12
               have a8:=λh=>qhD hw hk h9 (all:=[[101,120,116],[105,110,116],[59]]) (by simp) (by simp only [j8];exact ⟨zk,zk,zk,λ_ h=>by cases h⟩) h
               simp only [List.map_cons,List.map_nil,qfm,ak,af,a12,cond_true,qbk] at a8
               exact .inl ⟨⟨U,.mk o2 c2 u2 v2 y2,a7,aa,ac,1,[]⟩,(m8 + 1 + 1 + 1 + 1),zo,ar,⟨q0,q4,q6.1,q8.1,Nat.zero_le _,q2,c0.all λ_ _ _ h=>h.2.2.2.1,c4.all λ_ _ _ h=>h.2.2.2.1,q6.2,q8.2,λ_ h=>by cases h⟩,λh i r hi hr Y=>by
                 obtain ⟨ab,a6,a1,s1,s2,s3,s4,s5,s6⟩:=two hi hr Y
                 rw [PBi] at hi
                 generalize hW:Wd _ _ h = W
                 rw [qu 51 c51] at hW
                 simp only [sB.1,c51,seval,k0,w0,k1,k2,k3,k4,w4,k5,k6,k7,k8,k9,kQ,ai,ad,al,qbX,hi,a6,a1,PBi,qdc,s1,s3,s4,qp,qB,lV,qx,qb7] at hW
                 exact hW.symm,A6.out 13 (λh tt H S=>by
                obtain ⟨ht,e0,e2,e4,e6,e8,e9,b4,b6,b8,b9,tk,l4,l6,l8,l9,n1,n0⟩:=qda S
                generalize hx:qg h.length Wd _ _ = R
                simp only [sB.1,c36,qas,qau,bne,seval,ht,e0,e2,e4,e6,e8,e9,b4,b6,b8,b9,l4,l9,n1,sne,qg4,qiL,qav,qe7,qac,qp,qB,lV,Exp.enc,Exp.cs,qx,r5,r6,r7,r8,r9,x9,ah,a8,rQ] at hx
                subst hx
                refine ⟨_,rfl,?_⟩
                simp only [sB.1,c36,seval,ht,e6,e8,l6,l8,sne,qp,lV,qfI.row,qkP,Exp.enc,Exp.cs]
                exact congrArg some (qw (by repeat (first | exact tk | refine qaz ?_ (by simp only [jV];omega) _ | refine qz ?_ zo _)) (by simp only [qd.lower,qj,qx,I,E,qO,qal,qx];rfl)))⟩
            ·obtain ⟨am,m11,ay,ae,au,ad,a8⟩ | ⟨p,e,m,j,am,hm,hp,he,ad,a8⟩:=qt9 hw hk h9
             all_goals simp only [lV] at ad a8
             ·exact .inl ⟨⟨U,.mk o2 c2 u2 v2 y2,a7,aa,ac,2,am⟩,m11,zo,ae,⟨q0,q4,q6.1,q8.1,au.1,q2,c0.all λ_ _ _ h=>h.2.2.2.1,c4.all λ_ _ _ h=>h.2.2.2.1,q6.2,q8.2,au.2⟩,λh i r hi hr Y=>by
                obtain ⟨ab,a6,a1,s1,s2,s3,s4,s5,s6⟩:=two hi hr Y
                rw [PBi] at hi
                generalize hW:Wd _ _ h = W
                rw [qu 51 c51] at hW
                simp only [sB.1,c51,seval,k0,w0,k1,k2,k3,k4,w4,k5,k6,k7,k8,k9,kQ,ai,ad,qbX,hi,a6,a1,PBi,qdc,s1,s3,s4,qp,qB,lV,qx,qb7] at hW
                exact hW.symm,A6.out 13 (λh tt H S=>by
               obtain ⟨ht,e0,e2,e4,e6,e8,e9,b4,b6,b8,b9,tk,l4,l6,l8,l9,n1,n0⟩:=qda S
               generalize hx:qg h.length Wd _ _ = R
               simp only [sB.1,c36,qas,qau,bne,seval,ht,e0,e2,e4,e6,e8,e9,b4,b6,b8,b9,l4,l9,n1,sne,qg4,qiL,qav,qe7,qac,qp,qB,lV,Exp.enc,Exp.cs,qx,r5,r6,r7,r8,r9,x9,rQ,ah,a8] at hx
               subst hx
               refine ⟨_,rfl,?_⟩
               simp only [sB.1,c36,seval,ht,e6,e8,l6,l8,sne,qp,lV,qfI.row,Exp.enc,Exp.cs]
               exact congrArg some (qw (by repeat (first | exact tk | refine qaz ?_ (by simp only [jV];omega) _ | refine qz ?_ zo _)) (by simp only [qd.lower,qj,qx,I,E,qO,qal,qx];rfl)))⟩
             ·have K:PNM ws 51 (qdc nm c ins outs) n p e m:=λh i r hi hr Y=>by
                obtain ⟨ab,a6,a1,s1,s2,s3,s4,s5,s6⟩:=two hi hr Y
                rw [PBi] at hi
                generalize hW:Wd _ _ h = W
                rw [qu 51 c51] at hW
                simp only [sB.1,c51,seval,k0,w0,k1,k2,k3,k4,w4,k5,k6,k7,k8,k9,kQ,ai,ad,hi,a6,a1,PBi,qdc,s1,s3,s4,qe,qp,qB,lV,qbX,qx,qb7] at hW
                subst hW
                first
                | exact ⟨_,rfl⟩
                | exact ⟨_,by rw [s6];rfl⟩
              exact .inr ⟨p,e,m,_,.agg (qi4 nm c (lV ins) (lV outs) (lV (U.map (qbq.enc φR))) (.lst [(Exp.mk o2 c2 u2 v2 y2).enc φR] .full) (lV (a7.map (qbB.enc φR))) (lV (aa.map (qbq.enc φR))) (lV (ac.map (qbq.enc φR))) 2 (lV (am.map (qbq.enc φR)))),hm,hp,he,qbz I E (λk=>qO k U) (qbF φR · [_]) (λk=>qal k a7) (λk=>qO k aa) (λk=>qO k ac) (λk=>qO k am),K,A6.out 13 (λh tt H S=>by
               obtain ⟨ht,e0,e2,e4,e6,e8,e9,b4,b6,b8,b9,tk,l4,l6,l8,l9,n1,n0⟩:=qda S
               generalize hx:qg h.length Wd _ _ = R
               simp only [sB.1,c36,qas,qau,bne,seval,ht,e0,e2,e4,e6,e8,e9,b4,b6,b8,b9,l4,l9,n1,sne,qg4,qiL,qav,qe7,qac,qp,qB,lV,Exp.enc,Exp.cs,qx,r5,r6,r7,r8,r9,x9,rQ,ah,a8] at hx
               subst hx
               refine ⟨_,rfl,?_⟩
               simp only [sB.1,c36,seval,ht,e6,e8,l6,l8,sne,qp,lV]
               exact congrArg some (qw (by repeat (first | exact tk | refine qaz ?_ (by simp only [jV];omega) _ | refine qz ?_ zo _)) (by simp only [qd.lower,qj,qx,I,E,qO,qal];rfl)))⟩
          ·exact .inl ⟨⟨U,.mk o2 c2 u2 v2 y2,a7,aa,ac,0,[]⟩,m8,zo,h8,⟨q0,q4,q6.1,q8.1,Nat.zero_le _,q2,c0.all λ_ _ _ h=>h.2.2.2.1,c4.all λ_ _ _ h=>h.2.2.2.1,q6.2,q8.2,λ_ h=>by cases h⟩,λh i r hi hr Y=>by
             obtain ⟨ab,a6,a1,s1,s2,s3,s4,s5,s6⟩:=two hi hr Y
             rw [PBi] at hi
             generalize hW:Wd _ _ h = W
             rw [qu 51 c51] at hW
             simp only [sB.1,c51,seval,k0,w0,k1,k2,k3,k4,w4,k5,k6,k7,k8,k9,qbX,hi,a6,a1,PBi,qdc,s1,s3,s4,qp,qB,lV,qx,qb7] at hW
             exact hW.symm,A6.out 13 (λh tt H S=>by
            obtain ⟨ht,e0,e2,e4,e6,e8,e9,b4,b6,b8,b9,tk,l4,l6,l8,l9,n1,n0⟩:=qda S
            generalize hx:qg h.length Wd _ _ = R
            simp only [sB.1,c36,qas,qau,bne,seval,ht,e0,e2,e4,e6,e8,e9,b4,b6,b8,b9,l4,l9,n1,sne,qg4,qiL,qav,qac,qp,qB,lV,Exp.enc,Exp.cs,qx,r5,r6,r7,r8,r9] at hx
            subst hx
            refine ⟨_,rfl,?_⟩
            simp only [sB.1,c36,seval,ht,e6,e8,l6,l8,sne,qp,lV,qfI.row,qkP,Exp.enc,Exp.cs]
            exact congrArg some (qw (by repeat (first | exact tk | refine qaz ?_ (by simp only [jV];omega) _ | refine qz ?_ zo _)) (by simp only [qd.lower,qj,qx,I,E,qO,qal,qx];rfl)))⟩
         ·have K:PNM ws 51 (qdc nm c ins outs) n p e m:=λh i r hi hr Y=>by
            obtain ⟨ab,a6,a1,s1,s2,s3,s4,s5,s6⟩:=two hi hr Y
            rw [PBi] at hi
            generalize hW:Wd _ _ h = W
            rw [qu 51 c51] at hW
            simp only [sB.1,c51,seval,k0,w0,k1,k2,k3,k4,w4,k5,k6,k7,k8,hi,a6,a1,PBi,qdc,s1,s3,s4,qe,qp,qB,lV,qbX,qx,qb7] at hW
            subst hW
            first
            | exact ⟨_,rfl⟩
            | exact ⟨_,by rw [s6];rfl⟩
          exact .inr ⟨p,e,m,_,.agg (qi4 nm c (lV ins) (lV outs) (lV (U.map (qbq.enc φR))) (.lst [(Exp.mk o2 c2 u2 v2 y2).enc φR] .full) (lV (a7.map (qbB.enc φR))) (lV (aa.map (qbq.enc φR))) (lV (ac.map (qbq.enc φR))) 0 (.lst [] .full)),hm,hp,he,qbz I E (λk=>qO k U) (qbF φR · [_]) (λk=>qal k a7) (λk=>qO k aa) (λk=>qO k ac) wz,K,A6.out 13 (λh tt H S=>by
           obtain ⟨ht,e0,e2,e4,e6,e8,e9,b4,b6,b8,b9,tk,l4,l6,l8,l9,n1,n0⟩:=qda S
           generalize hx:qg h.length Wd _ _ = R
           simp only [sB.1,c36,qas,qau,bne,seval,ht,e0,e2,e4,e6,e8,e9,b4,b6,b8,b9,l4,l9,n1,sne,qg4,qiL,qav,qac,qp,qB,lV,Exp.enc,Exp.cs,qx,r5,r6,r7,r8,he] at hx
           subst hx
           refine ⟨_,rfl,?_⟩
           simp only [sB.1,c36,seval,ht,e6,e8,l6,l8,sne,qp,lV]
           exact congrArg some (qw (by repeat (first | exact tk | refine qaz ?_ (by simp only [jV];omega) _ | refine qz ?_ zo _)) (by simp only [qd.lower,qj,qx,I,E,qO,qal];rfl)))⟩
        ·have K:PNM ws 51 (qdc nm c ins outs) n p e m6:=λh i r hi hr Y=>by
           obtain ⟨ab,a6,a1,s1,s2,s3,s4,s5,s6⟩:=two hi hr Y
           rw [PBi] at hi
           generalize hW:Wd _ _ h = W
           rw [qu 51 c51] at hW
           simp only [sB.1,c51,seval,k0,w0,k1,k2,k3,k4,w4,k5,k6,k7,hi,a6,a1,PBi,qdc,s1,s3,s4,qe,qp,qB,lV,qbX,qx,qb7] at hW
           subst hW
           first
           | exact ⟨_,rfl⟩
           | exact ⟨_,by rw [s6];rfl⟩
         exact .inr ⟨p,e,m6,_,.agg (qi4 nm c (lV ins) (lV outs) (lV (U.map (qbq.enc φR))) (.lst [(Exp.mk o2 c2 u2 v2 y2).enc φR] .full) (lV (a7.map (qbB.enc φR))) (lV (aa.map (qbq.enc φR))) (.lst [] .full) 0 (.lst [] .full)),hm,hp,he,qbz I E (λk=>qO k U) (qbF φR · [_]) (λk=>qal k a7) (λk=>qO k aa) wz wz,K,A6.out 13 (λh tt H S=>by
          obtain ⟨ht,e0,e2,e4,e6,e8,e9,b4,b6,b8,b9,tk,l4,l6,l8,l9,n1,n0⟩:=qda S
          generalize hx:qg h.length Wd _ _ = R
          simp only [sB.1,c36,qas,qau,bne,seval,ht,e0,e2,e4,e6,e8,e9,b4,b6,b8,b9,l4,l9,n1,sne,qg4,qiL,qav,qac,qp,qB,lV,Exp.enc,Exp.cs,qx,r5,r6,r7,he] at hx
          subst hx
          refine ⟨_,rfl,?_⟩
          simp only [sB.1,c36,seval,ht,e6,e8,l6,l8,sne,qp,lV]
          exact congrArg some (qw (by repeat (first | exact tk | refine qaz ?_ (by simp only [jV];omega) _ | refine qz ?_ zo _)) (by simp only [qd.lower,qj,qx,I,E,qO,qal];rfl)))⟩
       ·have K:PNM ws 51 (qdc nm c ins outs) n p e m:=λh i r hi hr Y=>by
          obtain ⟨ab,a6,a1,s1,s2,s3,s4,s5,s6⟩:=two hi hr Y
          rw [PBi] at hi
          generalize hW:Wd _ _ h = W
          rw [qu 51 c51] at hW
          simp only [sB.1,c51,seval,k0,w0,k1,k2,k3,k4,w4,k5,k6,hi,a6,a1,PBi,qdc,s1,s3,s4,qe,qp,qB,lV,qx,qb7] at hW
          subst hW
          first
          | exact ⟨_,rfl⟩
          | exact ⟨_,by rw [s6];rfl⟩
        exact .inr ⟨p,e,m,_,.agg (qi4 nm c (lV ins) (lV outs) (lV (U.map (qbq.enc φR))) (.lst [(Exp.mk o2 c2 u2 v2 y2).enc φR] .full) (lV (a7.map (qbB.enc φR))) (lV (aa.map (qbq.enc φR))) (.lst [] .full) 0 (.lst [] .full)),hm,hp,he,qbz I E (λk=>qO k U) (qbF φR · [_]) (λk=>qal k a7) (λk=>qO k aa) wz wz,K,A6.out 13 (λh tt H S=>by
         obtain ⟨ht,e0,e2,e4,e6,e8,e9,b4,b6,b8,b9,tk,l4,l6,l8,l9,n1,n0⟩:=qda S
         generalize hx:qg h.length Wd _ _ = R
         simp only [sB.1,c36,qas,qau,bne,seval,ht,e0,e2,e4,e6,e8,e9,b4,b6,b8,b9,l4,l9,n1,sne,qg4,qiL,qav,qac,qp,qB,lV,Exp.enc,Exp.cs,qx,r5,r6,he] at hx
         subst hx
         refine ⟨_,rfl,?_⟩
         simp only [sB.1,c36,seval,ht,e6,e8,l6,l8,sne,qp,lV]
         exact congrArg some (qw (by repeat (first | exact tk | refine qaz ?_ (by simp only [jV];omega) _ | refine qz ?_ zo _)) (by simp only [qd.lower,qj,qx,I,E,qO,qal];rfl)))⟩
      ·have K:PNM ws 51 (qdc nm c ins outs) n p e m4:=λh i r hi hr Y=>by
         obtain ⟨ab,a6,a1,s1,s2,s3,s4,s5,s6⟩:=two hi hr Y
         rw [PBi] at hi
         generalize hW:Wd _ _ h = W
         rw [qu 51 c51] at hW
         simp only [sB.1,c51,seval,k0,w0,k1,k2,k3,k4,w4,k5,hi,a6,a1,PBi,qdc,s1,s3,s4,qe,qp,qB,lV,qx,qb7] at hW
         subst hW
         first
         | exact ⟨_,rfl⟩
         | exact ⟨_,by rw [s6];rfl⟩
       exact .inr ⟨p,e,m4,_,.agg (qi4 nm c (lV ins) (lV outs) (lV (U.map (qbq.enc φR))) (.lst [(Exp.mk o2 c2 u2 v2 y2).enc φR] .full) (lV (a7.map (qbB.enc φR))) (.lst [] .full) (.lst [] .full) 0 (.lst [] .full)),hm,hp,he,qbz I E (λk=>qO k U) (qbF φR · [_]) (λk=>qal k a7) wz wz wz,K,A6.out 13 (λh tt H S=>by
        obtain ⟨ht,e0,e2,e4,e6,e8,e9,b4,b6,b8,b9,tk,l4,l6,l8,l9,n1,n0⟩:=qda S
        generalize hx:qg h.length Wd _ _ = R
        simp only [sB.1,c36,qas,qau,bne,seval,ht,e0,e2,e4,e6,e8,e9,b4,b6,b8,b9,l9,n1,sne,qg4,qav,qac,qp,lV,Exp.enc,Exp.cs,qx,r5,he] at hx
        subst hx
        refine ⟨_,rfl,?_⟩
        simp only [sB.1,c36,seval,ht,e6,e8,l6,l8,sne,qp,lV]
        exact congrArg some (qw (by repeat (first | exact tk | refine qaz ?_ (by simp only [jV];omega) _ | refine qz ?_ zo _)) (by simp only [qd.lower,qj,qx,I,E,qO,qal];rfl)))⟩
     ·have K:PNM ws 51 (qdc nm c ins outs) n p e m':=λh i r hi hr Y=>by
       obtain ⟨ab,a6,a1,s1,s2,s3,s4,s5,s6⟩:=two hi hr Y
       rw [PBi] at hi
       generalize hW:Wd _ _ h = W
       rw [qu 51 c51] at hW
       simp only [sB.1,c51,seval,k0,w0,k1,k2,k3,k4,hi,a6,a1,PBi,qdc,s1,s3,s4,qe,qp,qB,lV,qx,qb7] at hW
       subst hW
       first
       | exact ⟨_,rfl⟩
       | exact ⟨_,by rw [s6];rfl⟩
      rcases x4 with ⟨q,rfl,rfl⟩ | ⟨q,_,d,j,hr⟩
      ·exact .inr ⟨_,_,m',(m4:Nat),_,ap,hp,he,qbz I E (λk=>qO k U) (qbF φR · [_]) (λk=>qal k a7) wz wz wz,K,A5.out (λh tt H S=>qrH I E (λk=>qO k U) (qbF φR · [_]) hk b4 hm (by simpa using q) (qad (qdo φR) _) S)⟩
      ·exact .inr ⟨p,e,m',j,_,ap,hp,he,qbz I E (λk=>qO k U) (qbF φR · [_]) (λk=>qal k a7) wz wz wz,K,A5.out (λh tt H S=>qvt I E (λk=>qO k U) (qbF φR · [_]) hk hw b4 hm he hr ((qdo φR) _) (by simpa using q) (qad (qdo φR) _) S)⟩
    ·have K:PNM ws 51 (qdc nm c ins outs) n p e m2:=λh i r hi hr Y=>by
       obtain ⟨ab,a6,a1,s1,s2,s3,s4,s5,s6⟩:=two hi hr Y
       rw [PBi] at hi
       generalize hW:Wd _ _ h = W
       rw [qu 51 c51] at hW
       simp only [sB.1,c51,seval,k0,w0,k1,k2,k3,hi,a6,a1,PBi,qdc,s1,s3,s4,qe,qp,qB,lV,qx,qb7] at hW
       subst hW
       first
       | exact ⟨_,rfl⟩
       | exact ⟨_,by rw [s6];rfl⟩
     exact .inr ⟨p,e,m2,_,.agg (qi4 nm c (lV ins) (lV outs) (lV (U.map (qbq.enc φR))) (.lst [(Exp.mk o2 c2 u2 v2 y2).enc φR] .full) (.lst [] .full) (.lst [] .full) (.lst [] .full) 0 (.lst [] .full)),hm,hp,he,qbz I E (λk=>qO k U) (qbF φR · [_]) wz wz wz wz,K,A3.out 20 (λh tt H S=>by
      obtain ⟨ht,e0,e2,e4,e6,e8,e9,b4,b6,b8,b9,tk,l4,l6,l8,l9,n1,n0⟩:=qda S
      generalize hx:qg h.length Wd _ _ = R
      simp only [sB.1,c36,qas,qau,bne,seval,ht,e0,e2,e4,e6,e8,e9,b4,b6,b8,b9,l4,l6,l8,l9,n1,sne,qg4,qiL,qav,qac,qp,lV,qx,qb7,r1,r2,r3,he] at hx
      subst hx
      refine ⟨_,rfl,?_⟩
      simp only [sB.1,c36,seval,ht,e6,e8,l6,l8,sne,qp,lV]
      exact congrArg some (qw (by repeat (first | exact tk | refine qaz ?_ (by simp only [jV];omega) _ | refine qz ?_ zo _)) (by simp only [qd.lower,qj,qx,I,E,qO];rfl)))⟩
   ·have K:PNM ws 51 (qdc nm c ins outs) n p e m:=λh i r hi hr Y=>by
      obtain ⟨ab,a6,a1,s1,s2,s3,s4,s5,s6⟩:=two hi hr Y
      rw [PBi] at hi
      generalize hW:Wd _ _ h = W
      rw [qu 51 c51] at hW
      simp only [sB.1,c51,seval,k0,w0,k1,k2,hi,a1,PBi,qdc,s1,s3,s4,qe,qp,qB,lV] at hW
      subst hW
      first
      | exact ⟨_,rfl⟩
      | exact ⟨_,by rw [s6];rfl⟩
    exact .inr ⟨p,e,m,_,.agg (qi4 nm c (lV ins) (lV outs) (lV (U.map (qbq.enc φR))) (.lst [] .full) (.lst [] .full) (.lst [] .full) (.lst [] .full) 0 (.lst [] .full)),hm,hp,he,qbz I E (λk=>qO k U) wz wz wz wz wz,K,A3.out 20 (λh tt H S=>by
     obtain ⟨ht,e0,e2,e4,e6,e8,e9,b4,b6,b8,b9,tk,l4,l6,l8,l9,n1,n0⟩:=qda S
     generalize hx:qg h.length Wd _ _ = R
     simp only [sB.1,c36,qas,qau,bne,seval,ht,e0,e2,e4,e6,e8,e9,b4,b6,b8,b9,l4,l6,l8,l9,n1,sne,qg4,qav,qac,qp,lV,qx,r1,r2,he] at hx
     subst hx
     refine ⟨_,rfl,?_⟩
     simp only [sB.1,c36,seval,ht,e6,e8,l6,l8,sne,qp,lV]
     exact congrArg some (qw (by repeat (first | exact tk | refine qaz ?_ (by simp only [jV];omega) _ | refine qz ?_ zo _)) (by simp only [qd.lower,qj,I,E,qO];rfl)))⟩
  ·have K:PNM ws 51 (qdc nm c ins outs) n p e m0:=λh i r hi hr Y=>by
     obtain ⟨ab,a6,a1,s1,s2,s3,s4,s5,s6⟩:=two hi hr Y
     rw [PBi] at hi
     generalize hW:Wd _ _ h = W
     rw [qu 51 c51] at hW
     simp only [sB.1,c51,seval,k0,w0,k1,hi,a1,PBi,qdc,s1,s3,s4,qe,qp,qB,lV] at hW
     subst hW
     first
     | exact ⟨_,rfl⟩
     | exact ⟨_,by rw [s6];rfl⟩
   exact .inr ⟨p,e,m0,_,.agg (qi4 nm c (lV ins) (lV outs) (lV (U.map (qbq.enc φR))) (.lst [] .full) (.lst [] .full) (.lst [] .full) (.lst [] .full) 0 (.lst [] .full)),hm,hp,he,qbz I E (λk=>qO k U) wz wz wz wz wz,K,A3.out 20 (λh tt H S=>by
    obtain ⟨ht,e0,e2,e4,e6,e8,e9,b4,b6,b8,b9,tk,l4,l6,l8,l9,n1,n0⟩:=qda S
    generalize hx:qg h.length Wd _ _ = R
    simp only [sB.1,c36,qas,qau,bne,seval,ht,e0,e2,e4,e6,e8,e9,b4,b6,b8,b9,l9,n1,sne,qg4,qav,qac,qp,lV,r1,he] at hx
    subst hx
    refine ⟨_,rfl,?_⟩
    simp only [sB.1,c36,seval,ht,e6,e8,l6,l8,sne,qp,lV]
    exact congrArg some (qw (by repeat (first | exact tk | refine qaz ?_ (by simp only [jV];omega) _ | refine qz ?_ zo _)) (by simp only [qd.lower,qj,I,E,qO];rfl)))⟩
 ·have K:PNM ws 51 (qdc nm c ins outs) n p e m':=λh i r hi hr Y=>by
   obtain ⟨ab,a6,a1,s1,s2,s3,s4,s5,s6⟩:=two hi hr Y
   rw [PBi] at hi
   generalize hW:Wd _ _ h = W
   rw [qu 51 c51] at hW
   simp only [sB.1,c51,seval,k0,hi,PBi,qe] at hW
   subst hW
   first
   | exact ⟨_,rfl⟩
   | exact ⟨_,by rw [s6];rfl⟩
  rcases x0 with ⟨q,rfl,rfl⟩ | ⟨q,_,d,j,hr⟩
  ·exact .inr ⟨_,_,m',(m0:Nat),_,ap,hp,he,qbz I E (λk=>qO k U) wz wz wz wz wz,K,A2.out (λh tt H S=>qxp I E hk b0 hm (by simpa using q) (qad (qdi φR) _) S)⟩
  ·exact .inr ⟨p,e,m',j,_,ap,hp,he,qbz I E (λk=>qO k U) wz wz wz wz wz,K,A2.out (λh tt H S=>qAh I E hk hw b0 hm he hr ((qdi φR) _) (by simpa using q) (qad (qdi φR) _) S)⟩
end
inductive qDh where
 | atom (a:qfI)
 | coup (c:qg8)
structure qab where
 name:Str
 ins:List qbv
 outs:List qbv
 body:qDh
def qab.row (φ:Int->Nat->Bool) (x:qab):List qd:=match x.body with
 | .atom a=>a.row φ x.name false (x.ins.map qbv.enc) (x.outs.map qbv.enc)
 | .coup c=>c.row φ x.name true (x.ins.map qbv.enc) (x.outs.map qbv.enc)
def qab.enc (φ:Int->Nat->Bool) (x:qab):qd:=.agg (x.row φ)
def qab.good (x:qab):Prop:=(x.ins.length <= 8/\∀d ∈ x.ins,d.t.sm = true)/\(x.outs.length <= 8/\∀d ∈ x.outs,d.t.sm = true)/\match x.body with
 | .atom a=>a.good
 | .coup c=>c.good
theorem qW (k:Nat) (ds:List qbv):qj k (ds.map qbv.enc) = true:=qI (qad qgQ ds) k
theorem qe9 (φ:Int->Nat->Bool) (x:qab):Shp 14 (x.enc φ):=by
 obtain ⟨nm,ins,outs,⟨vars,ta,E,int,ext,I,own⟩ | ⟨ps,ls,rs⟩⟩:=x
 ·exact qbz (qW · ins) (qW · outs) (λk=>qc0 k vars φ) (qbF φ · [ta]) (λk=>qI (qad (qdo φ) E) k) (λk=>qc0 k int φ) (λk=>qc0 k ext φ) (λk=>qc0 k own φ)
 ·exact qgc (qW · ins) (qW · outs) (λk=>qI (qad qbf ps) k) (λk=>qI (qad qbN ls) k) (λk=>qI (qad (qc4 φ) rs) k)
def qbC (ws:List Tok) (n:Nat):Bool:=isW ws n [97,116,111,109,105,99] || isW ws n [99,111,117,112,108,101,100]
def BoV {D:Type} (ws:List Tok) (F R:FuncId) (k:Nat) (eP eR:D->qd) (Q:D->Prop) (n:Nat):Prop:=
 (∃(d:D) (m:Nat),n < m/\m < ws.length/\Q d/\PY ws F n (eP d) m/\RY ws R n [] (eR d) (m:Nat) 0 0)\/
 ∃(p e:Int) (m:Nat) (j:Int) (v:qd),m < ws.length/\Flt ws p e/\(e == 0) = false/\Shp k v/\PN ws F n p e m/\RY ws R n [] v j p e
section
variable {ws:List Tok}
theorem qtz {F:FuncId} {C:List qd} {n m:Nat} {p e:Int} (y:PNM ws F C n p e m):∃X:List qk->Nat->Nat->qk,∀(h:List qk) (i r:Nat),h[i]? = some (PB ws n)->h[r]? = some (.cells C)->i ≠ r->Wd (.fn F [] []) [.ptr i 0,.ptr r 0] h = some (.pan (qbK p e),(h.set i (PB ws m)).set r (X h i r),false):=by
 classical
 refine ⟨λh i r=>if q:h[i]? = some (PB ws n)/\h[r]? = some (.cells C)/\i ≠ r then (y h i r q.1 q.2.1 q.2.2).choose else .dead,λh i r a b c=>?_⟩
 dsimp only
 rw [dif_pos ⟨a,b,c⟩]
 exact (y h i r a b c).choose_spec
theorem qgO (k:Nat) (ds:List qcc):qj k (ds.map qcc.enc) = true:=qI (qad qbf ds) k
theorem qgE (k:Nat) (ds:List qb8):qj k (ds.map qb8.enc) = true:=qI (qad qbN ds) k
theorem qgW (φ:Int->Nat->Bool) (k:Nat) (ds:List qc5):qj k (ds.map (qc5.enc φ)) = true:=qI (qad (qc4 φ) ds) k
theorem qzl (hw:WF ws) (hk:KOK ws) {n:Nat} (hn:n < ws.length) (hb:qbC ws n = true):BoV ws 26 13 14 (qab.enc φP) (qab.enc φR) qab.good n:=by
 have w:=qo (n:=n) (by have:=hw.len;omega)
 have P:=λ(h:List qk) (i:Nat)=>qu 26 c26 (first:=[]) (cap:=[]) (args:=[.ptr i 0]) (h:=h)
 have R:=λh:List qk=>qu 13 c13 (first:=[]) (cap:=[]) (args:=[.lst (ws.map Tok.enc) .no,.int .i64 (n:Nat)]) (h:=h)
 have h0:n + 1 < ws.length:=by
  rw [qbC] at hb
  cases a:isW ws n [97,116,111,109,105,99] with
  | true=>exact qi hw hn a
  | false=>rw [a,Bool.false_or] at hb;exact qi hw hn hb
 clear hb
 obtain ⟨a0,h9,w0,k0,r0⟩ | ⟨a0,k0,r0⟩:=qAt hw hk [99,111,117,112,108,101,100] zk hn
 ·obtain ⟨s1,n1,l1,h1,q1,k1,r1⟩ | ⟨p,e,m,j,d,hm,hp,he,k1,r1⟩:=qfa hw h0
  obtain ⟨h2,k2,r2⟩ | ⟨p,e,hm,hp,he,k2,r2⟩:=qbW hw hk [123] zk h1
  obtain ⟨a6,m3,l3,h3,q3,k3,r3⟩ | ⟨p,e,m,j,hm,hp,he,k3,r3⟩:=qkr hw hk [105,110] zk h2
  obtain ⟨a1,m4,l4,h4,q4,k4,r4⟩ | ⟨p,e,m,j,hm,hp,he,k4,r4⟩:=qkr hw hk [111,117,116] zk h3
  obtain ⟨d5,m5,l5,h5,q5,k5,r5⟩ | ⟨p,e,m,j,v,hm,hp,he,⟨cs,rfl,y1,y2,y3,y4⟩,k5,r5⟩:=qrg hw hk (nm:=s1) (c:=true) (qW · a6) (qW · a1) h4
  obtain ⟨h6,k6,r6⟩ | ⟨p,e,hm,hp,he,k6,r6⟩:=qbW hw hk [125] zk h5
  ·simp only [qdc,qgV,qg8.row,lV] at k5 r5
   simp only [sB.1,c13,seval,qr,qav,lV,qp,qB,qW,qgO,qgE,qgW,w,r0,r1,r2,r3,r4,r5,r6] at R
   exact .inl ⟨⟨s1,a6,a1,.coup d5⟩,m5 + 1,zo,h6,⟨q3,q4,q5⟩,λh i hi=>(P h i).trans (by
    have E:=qc hi
    have U:i ≠ h.length + 1:=zo
    have Y:i ≠ h.length:=zo
    have I:=blA h 1
    rw [PBi] at hi
    simp only [sB.1,c26,seval,lV,qp,qB,qW,qgO,qgE,qgW,PBi,hi,E,U,I,w,k0,k1,k2,k3,k4,k5,k6,qab.enc,qab.row,qgV,qg8.row]),λh=>(R h).trans (by simp only [qab.enc,qab.row,qgV,qg8.row,lV])⟩
  ·simp only [qdc,qgV,qg8.row,lV] at k5 r5
   simp only [sB.1,c13,seval,qr,qav,lV,qp,qB,qW,qgO,qgE,qgW,w,r0,r1,r2,r3,r4,r5,r6] at R
   exact .inr ⟨p,e,m5,m5,.agg _,hm,hp,he,⟨_,rfl,rfl,by simp [qd.storable],λn=>by simp [qj,qd.lower,qW,qgO,qgE,qgW],by simp only [List.map_cons,List.map_nil,qp];rfl⟩,λh i hi=>(P h i).trans (by
    have E:=qc hi
    have U:i ≠ h.length + 1:=zo
    have Y:i ≠ h.length:=zo
    have I:=blA h 1
    rw [PBi] at hi
    simp only [sB.1,c26,seval,lV,qp,qB,qW,qe,PBi,hi,E,U,I,w,k0,k1,k2,k3,k4,k5,k6]),R⟩
  ·have hc:Go.AE.cut cs 0 (some 14) = some (.agg cs):=by rw [qcI zo,List.drop_zero,List.take_of_length_le zo,y4]
   obtain ⟨X,k5⟩:=qtz k5
   simp only [qdc,qgV,lV] at k5 r5
   simp only [sB.1,c13,seval,qr,qav,lV,qp,qB,qW,w,r0,r1,r2,r3,r4,r5,he,hc,y1,y2,y3,y4] at R
   exact .inr ⟨p,e,m,j,.agg _,hm,hp,he,⟨_,rfl,y1,y2,y3,y4⟩,λh i hi=>(P h i).trans (by
    have E:=qc hi
    have U:i ≠ h.length + 1:=zo
    have Y:i ≠ h.length:=zo
    have I:=blA h 1
    rw [PBi] at hi
    simp only [sB.1,c26,seval,lV,qp,qB,qW,qe,PBi,hi,E,U,I,w,k0,k1,k2,k3,k4,k5]),R⟩
  ·simp only [sB.1,c13,seval,qr,qav,lV,qp,qB,qW,w,r0,r1,r2,r3,r4,he] at R
   exact .inr ⟨p,e,m,j,.agg _,hm,hp,he,⟨_,rfl,rfl,by simp [qd.storable],λn=>by simp [qj,qd.lower,qW],by simp only [List.map_cons,List.map_nil,qp];rfl⟩,λh i hi=>(P h i).trans (by
    have E:=qc hi
    have U:i ≠ h.length + 1:=zo
    have Y:i ≠ h.length:=zo
    have I:=blA h 1
    rw [PBi] at hi
    simp only [sB.1,c26,seval,lV,qp,qB,qW,qe,PBi,hi,E,I,w,k0,k1,k2,k3,k4]),R⟩
  ·simp only [sB.1,c13,seval,qr,qav,w,r0,r1,r2,r3,he] at R
   exact .inr ⟨p,e,m,j,.agg _,hm,hp,he,⟨_,rfl,rfl,by simp [qd.storable],λn=>by simp [qj,qd.lower],by simp only [List.map_cons,List.map_nil];rfl⟩,λh i hi=>(P h i).trans (by
    have E:=qc hi
    have U:i ≠ h.length + 1:=zo
    have Y:i ≠ h.length:=zo
    have I:=blA h 1
    rw [PBi] at hi
    simp only [sB.1,c26,seval,qe,PBi,hi,E,I,w,k0,k1,k2,k3]),R⟩
  ·simp only [sB.1,c13,seval,qr,qav,w,r0,r1,r2,he] at R
   exact .inr ⟨p,e,n1,n1,.agg _,hm,hp,he,⟨_,rfl,rfl,by simp [qd.storable],λn=>by simp [qj,qd.lower],by simp only [List.map_cons,List.map_nil];rfl⟩,λh i hi=>(P h i).trans (by
    have E:=qc hi
    have U:i ≠ h.length + 1:=zo
    have Y:i ≠ h.length:=zo
    have I:=blA h 1
    rw [PBi] at hi
    simp only [sB.1,c26,seval,qe,PBi,hi,E,I,w,k0,k1,k2]),R⟩
  ·simp only [sB.1,c13,seval,qr,qav,w,r0,r1,he] at R
   exact .inr ⟨p,e,m,j,.agg _,hm,hp,he,⟨_,rfl,rfl,by simp [qd.storable],λn=>by simp [qj,qd.lower],by simp only [List.map_cons,List.map_nil];rfl⟩,λh i hi=>(P h i).trans (by
    have E:=qc hi
    have U:i ≠ h.length + 1:=zo
    have Y:i ≠ h.length:=zo
    have I:=blA h 1
    rw [PBi] at hi
    simp only [sB.1,c26,seval,qe,PBi,hi,E,I,w,k0,k1]),R⟩
 ·obtain ⟨s1,n1,l1,h1,q1,k1,r1⟩ | ⟨p,e,m,j,d,hm,hp,he,k1,r1⟩:=qfa hw h0
  obtain ⟨h2,k2,r2⟩ | ⟨p,e,hm,hp,he,k2,r2⟩:=qbW hw hk [123] zk h1
  obtain ⟨a6,m3,l3,h3,q3,k3,r3⟩ | ⟨p,e,m,j,hm,hp,he,k3,r3⟩:=qkr hw hk [105,110] zk h2
  obtain ⟨a1,m4,l4,h4,q4,k4,r4⟩ | ⟨p,e,m,j,hm,hp,he,k4,r4⟩:=qkr hw hk [111,117,116] zk h3
  obtain ⟨d5,m5,l5,h5,q5,k5,r5⟩ | ⟨p,e,m,j,v,hm,hp,he,⟨cs,rfl,y1,y2,y3,y4⟩,k5,r5⟩:=quX hw hk (nm:=s1) (c:=false) (qW · a6) (qW · a1) h4
  obtain ⟨h6,k6,r6⟩ | ⟨p,e,hm,hp,he,k6,r6⟩:=qbW hw hk [125] zk h5
  ·simp only [qdc,qgV,qfI.row,qi4,lV] at k5 r5
   simp only [sB.1,c13,seval,qr,qav,lV,qp,qB,qW,qO,qal,qic,Exp.enc,w,r0,r1,r2,r3,r4,r5,r6] at R
   exact .inl ⟨⟨s1,a6,a1,.atom d5⟩,m5 + 1,zo,h6,⟨q3,q4,q5⟩,λh i hi=>(P h i).trans (by
    have E:=qc hi
    have U:i ≠ h.length + 1:=zo
    have Y:i ≠ h.length:=zo
    have I:=blA h 1
    rw [PBi] at hi
    simp only [sB.1,c26,seval,lV,qp,qB,qW,qbX,qoH,qic,Exp.enc,PBi,hi,E,U,I,w,k0,k1,k2,k3,k4,k5,k6,qab.enc,qab.row,qfI.row,qi4]),λh=>(R h).trans (by simp only [qab.enc,qab.row,qfI.row,qi4,lV,Exp.enc])⟩
  ·simp only [qdc,qgV,qfI.row,qi4,lV] at k5 r5
   simp only [sB.1,c13,seval,qr,qav,lV,qp,qB,qW,qO,qal,qic,Exp.enc,w,r0,r1,r2,r3,r4,r5,r6] at R
   exact .inr ⟨p,e,m5,m5,.agg _,hm,hp,he,⟨_,rfl,rfl,by simp [qd.storable],λn=>by simp [qj,qd.lower,qW,qO,qal,qic],by simp only [List.map_cons,List.map_nil,qp];rfl⟩,λh i hi=>(P h i).trans (by
    have E:=qc hi
    have U:i ≠ h.length + 1:=zo
    have Y:i ≠ h.length:=zo
    have I:=blA h 1
    rw [PBi] at hi
    simp only [sB.1,c26,seval,lV,qp,qB,qW,Exp.enc,qe,PBi,hi,E,U,I,w,k0,k1,k2,k3,k4,k5,k6]),R⟩
  ·have hc:Go.AE.cut cs 0 (some 14) = some (.agg cs):=by rw [qcI zo,List.drop_zero,List.take_of_length_le zo,y4]
   obtain ⟨X,k5⟩:=qtz k5
   simp only [qdc,qgV,lV] at k5 r5
   simp only [sB.1,c13,seval,qr,qav,lV,qp,qB,qW,w,r0,r1,r2,r3,r4,r5,he,hc,y1,y2,y3,y4] at R
   exact .inr ⟨p,e,m,j,.agg _,hm,hp,he,⟨_,rfl,y1,y2,y3,y4⟩,λh i hi=>(P h i).trans (by
    have E:=qc hi
    have U:i ≠ h.length + 1:=zo
    have Y:i ≠ h.length:=zo
    have I:=blA h 1
    rw [PBi] at hi
    simp only [sB.1,c26,seval,lV,qp,qB,qW,qe,PBi,hi,E,U,I,w,k0,k1,k2,k3,k4,k5]),R⟩
  ·simp only [sB.1,c13,seval,qr,qav,lV,qp,qB,qW,w,r0,r1,r2,r3,r4,he] at R
   exact .inr ⟨p,e,m,j,.agg _,hm,hp,he,⟨_,rfl,rfl,by simp [qd.storable],λn=>by simp [qj,qd.lower,qW],by simp only [List.map_cons,List.map_nil,qp];rfl⟩,λh i hi=>(P h i).trans (by
    have E:=qc hi
    have U:i ≠ h.length + 1:=zo
    have Y:i ≠ h.length:=zo
    have I:=blA h 1
    rw [PBi] at hi
    simp only [sB.1,c26,seval,lV,qp,qB,qW,qe,PBi,hi,E,I,w,k0,k1,k2,k3,k4]),R⟩
  ·simp only [sB.1,c13,seval,qr,qav,w,r0,r1,r2,r3,he] at R
   exact .inr ⟨p,e,m,j,.agg _,hm,hp,he,⟨_,rfl,rfl,by simp [qd.storable],λn=>by simp [qj,qd.lower],by simp only [List.map_cons,List.map_nil];rfl⟩,λh i hi=>(P h i).trans (by
    have E:=qc hi
    have U:i ≠ h.length + 1:=zo
    have Y:i ≠ h.length:=zo
    have I:=blA h 1
    rw [PBi] at hi
    simp only [sB.1,c26,seval,qe,PBi,hi,E,I,w,k0,k1,k2,k3]),R⟩
  ·simp only [sB.1,c13,seval,qr,qav,w,r0,r1,r2,he] at R
   exact .inr ⟨p,e,n1,n1,.agg _,hm,hp,he,⟨_,rfl,rfl,by simp [qd.storable],λn=>by simp [qj,qd.lower],by simp only [List.map_cons,List.map_nil];rfl⟩,λh i hi=>(P h i).trans (by
    have E:=qc hi
    have U:i ≠ h.length + 1:=zo
    have Y:i ≠ h.length:=zo
    have I:=blA h 1
    rw [PBi] at hi
    simp only [sB.1,c26,seval,qe,PBi,hi,E,I,w,k0,k1,k2]),R⟩
  ·simp only [sB.1,c13,seval,qr,qav,w,r0,r1,he] at R
   exact .inr ⟨p,e,m,j,.agg _,hm,hp,he,⟨_,rfl,rfl,by simp [qd.storable],λn=>by simp [qj,qd.lower],by simp only [List.map_cons,List.map_nil];rfl⟩,λh i hi=>(P h i).trans (by
    have E:=qc hi
    have U:i ≠ h.length + 1:=zo
    have Y:i ≠ h.length:=zo
    have I:=blA h 1
    rw [PBi] at hi
    simp only [sB.1,c26,seval,qe,PBi,hi,E,I,w,k0,k1]),R⟩
end
end Go.Proofs.YtkehdpkcdnofaaaGreatDoor.AE
