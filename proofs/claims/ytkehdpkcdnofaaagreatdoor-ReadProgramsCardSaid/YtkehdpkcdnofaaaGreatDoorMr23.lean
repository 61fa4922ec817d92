/- A part of the proof. No condition. -/
import Derived.Test.YtkehdpkcdnofaaaGreatDoorMr22
import Derived.Test.YtkehdpkcdnofaaaGreatDoorMr12
import Derived.Test.YtkehdpkcdnofaaaGreatDoorMr9
import Derived.Test.YtkehdpkcdnofaaaGreatDoorMr11
set_option maxRecDepth 100000
set_option maxHeartbeats 0
open List renaming length_set→jV,getElem?_append_left→ja,getElem?_append_right→jc,getElem?_eq_getElem→jh,length_append→ji,length_map→jQ,getElem?_map→jr,nil_append→jW,cons_append→jw,length_cons→jy
open Bool renaming and_eq_true→jk
open Nat renaming le_refl→jm,sub_self→Ja,zero_add→Jb
namespace Go.Proofs.YtkehdpkcdnofaaaGreatDoor.AE
open Go.AE
section
variable {ws:List Tok} {s:Str}
theorem qtE (hs:s.length <= 16384) (hW:RW s 0 ws none) (hw:WF ws) (hk:KOK ws) (hn:0 < ws.length) :
  (∃(x:qhF) (m:Nat),x.good/\PY ws 10 0 (x.enc φP) m/\∀h,Wd (.fn 6 [] []) [.str s] h = some (.ret (.tup [x.enc φR,.agg [.int .i64 0,.int .i64 0]]),h,false))\/
  ∃(p e:Int) (m:Nat),Flt ws p e/\(e == 0) = false/\PN ws 10 0 p e m/\∀h,Wd (.fn 6 [] []) [.str s] h = some (.ret (.tup [.agg zP,.agg [.int .i64 p,.int .i64 e]]),h,false):=by
 have ab:=λh=>qt2 (h:=h) hs hW
 have P:=λ(h:List qk) (i:Nat)=>qu 10 c10 (first:=[]) (cap:=[]) (args:=[.ptr i 0]) (h:=h)
 have af:=λ(h:List qk) (i b:Nat) (hb:h[b]? = some (.cells [.ptr i 0])) (hi:h[i]? = some (PB ws 0))=>qcF hw hn hb hi
 have A0:=AtC.start (F:=6) (aS:=[.str s]) rfl (show T.get 6 = some c6 by kernel_rfl)
 have A1:=A0.go 7 (S':=λh tt H=>DS ws h 0 [] tt H) (λh tt H ⟨ht,hH⟩=>by
  subst ht hH
  generalize hx:qg H.length Wd _ _ = R
  simp only [sB.1,c6,qas,qau,seval,qr,ab] at hx
  subst hx
  exact ⟨_,_,rfl,Y1,Y1,Y1,Y1,Y1,Y1,by simp only [sB.1,seval],by simp,by simp,by simp,by simp;rfl,by simp⟩)
 cases a0:qbC ws 0 with
 | false=>
  have A2:=(A1.loop (S:=(λh n xs tt H=>DS ws h n xs tt H)) (body:=qmQ) (id:=0) (One:=qAA ws) (most:=24) rfl (qe9 φR) (λh1 hl hx S=>qiz hk h1 hl hx S) (.nil 0) (by simp)).exit (λh tt H S=>qjv hk a0 hn S)
  have a7:=λh=>qdh hn (ws:=ws) h
  have ad:=λ(h:List qk) (i:Nat) (hi:h[i]? = some (PB ws 0))=>qeb hw hn hi
  have z0:(((0:Nat):Int) == 0) = true:=Eq.trans rfl rfl
  exact .inr ⟨_,6,0,qnF hn,rfl,λh i hi=>(P h i).trans (by
   have E:=qc hi
   have I:=qcO hi
   have a6:i ≠ h.length + 1:=zo
   have U:i ≠ h.length:=zo
   have a1:=blA h 1
   have Y:=blA h 2
   have hg:∀l,Wd (.fn 22 [] [.ptr h.length 0]) [] (h ++ (.cells [.ptr i 0] :: l)) = some (.ret (.bool (qbC ws 0)),h ++ (.cells [.ptr i 0] :: l),false):=λl=>qcF hw hn (by rw [jc (jm _),Ja];rfl) (by rw [ja E];exact hi)
   rw [PBi] at hi I
   simp only [sB.1,c10,seval,-Int.reduceNatCast',qe,PBi,hi,E,hg,a0,ad,I]),A2.out 8 (λh tt H S=>by
   obtain ⟨ht,e2,e3,e4,e8,e9,e10,b2,b3,b4,b9,tk⟩:=S
   have l2:=qc b2
   have l3:=qc b3
   have l4:=qc b4
   have l9:=qc b9
   have n0:=bl0 h
   have n3:∀k,Nat.ble h.length (h.length + k) = true:=λk=>qE zo
   simp only [List.map_nil,qgL] at b9
   generalize hx:qg h.length Wd _ _ = R
   simp only [sB.1,c6,qas,qau,bne,seval,-Int.reduceNatCast',ht,e2,e3,e4,e8,e9,e10,b2,b3,b4,b9,n3,qiL,qbk,a7,z0] at hx
   subst hx
   refine ⟨_,rfl,?_⟩
   simp only [sB.1,c6,seval,-Int.reduceNatCast',e2,e3,l2,l3,qg4]
   exact congrArg some (qhA (by simp only [qd.lower,qj];rfl)))⟩
 | true=>
  obtain ⟨ds,m,l1,h1,q1,c1,b1,aa,k1⟩ | ⟨p,e,m',ds,m,ae,hp,he,hm,q1,c1,b1,x1,k1⟩:=qmW hw hk hn
  all_goals have A2:=A1.loop (S:=(λh n xs tt H=>DS ws h n xs tt H)) (body:=qmQ) (id:=0) rfl (qe9 φR) (λh1 hl hx S=>qiz hk h1 hl hx S) c1 q1
  ·have A3:=A2.exit (λh tt H S=>qjv hk b1 h1 S)
   have ac:=aa a0
   have cl:(((ds.map (qab.enc φR)).length:Int) == 0) = false:=by rw [jQ,beq_eq_false_iff_ne];cases ds with
    | nil=>exact absurd rfl ac
    | cons=>simp;omega
   obtain ⟨h2,k2,r2⟩ | ⟨p,e,hm,hp,he,k2,r2⟩:=qbW hw hk [114,111,111,116] zk h1
   ·obtain ⟨s3,m3,l3,h3,q3,k3,r3⟩ | ⟨p,e,m,j,d,hm,hp,he,k3,r3⟩:=qfa hw h2
    ·obtain ⟨h4,k4,r4⟩ | ⟨p,e,hm,hp,he,k4,r4⟩:=qbW hw hk [59] zk h3
     ·have hT:=qae h4
      by_cases hd:(word ws (m3 + 1)).kind = 4
      ·have k5:=λ(h:List qk) (i:Nat) (hi:h[i]? = some (PB ws (m3 + 1)))=>qyU hw h4 hi hd
       have a8:((word ws (m3 + 1)).kind == 4) = true:=by rw [hd];rfl
       exact .inl ⟨⟨ds,s3⟩,m3 + 1,⟨q1,c1.all λ_ _ _ h=>h.2.2.2.1⟩,λh i hi=>(P h i).trans (by
        have E:=qc hi
        have I:=qcO hi
        have a6:i ≠ h.length + 1:=zo
        have U:i ≠ h.length:=zo
        have a1:=blA h 1
        have Y:=blA h 2
        have hg:∀l,Wd (.fn 22 [] [.ptr h.length 0]) [] (h ++ (.cells [.ptr i 0] :: l)) = some (.ret (.bool (qbC ws 0)),h ++ (.cells [.ptr i 0] :: l),false):=λl=>qcF hw hn (by rw [jc (jm _),Ja];rfl) (by rw [ja E];exact hi)
        rw [PBi] at hi I
        simp only [sB.1,c10,seval,-Int.reduceNatCast',lV,qp,qB,qbZ,PBi,hi,E,U,a1,Y,hg,a0,k1,k2,k3,k4,k5,qhF.enc]),A3.out 8 (λh tt H S=>by
        obtain ⟨ht,e2,e3,e4,e8,e9,e10,b2,b3,b4,b9,tk⟩:=S
        have l2:=qc b2
        have l3:=qc b3
        have l4:=qc b4
        have l9:=qc b9
        have n0:=bl0 h
        have n3:∀k,Nat.ble h.length (h.length + k) = true:=λk=>qE zo
        generalize hx:qg h.length Wd _ _ = R
        simp only [sB.1,c6,qas,qau,bne,seval,ht,e2,e3,e4,e8,e9,e10,b2,b3,b4,b9,l2,l3,l4,l9,n3,sne,qg4,qiL,qav,qac,qp,cl,r2,r3,r4,hT,a8] at hx
        subst hx
        refine ⟨_,rfl,?_⟩
        simp only [sB.1,c6,seval,e2,e3,l2,l3,qg4,qp,lV,qhF.enc]
        exact congrArg some (qhA (by simp only [qd.lower,qj,qbZ];rfl)))⟩
      ·have k5:=λ(h:List qk) (i:Nat) (hi:h[i]? = some (PB ws (m3 + 1)))=>qBB hw h4 hi hd
       have a7:=λh=>qdh h4 (ws:=ws) h
       have a8:((word ws (m3 + 1)).kind == 4) = false:=by rw [beq_eq_false_iff_ne];exact hd
       exact .inr ⟨_,6,m3 + 1,qnF h4,rfl,λh i hi=>(P h i).trans (by
        have E:=qc hi
        have I:=qcO hi
        have a6:i ≠ h.length + 1:=zo
        have U:i ≠ h.length:=zo
        have a1:=blA h 1
        have Y:=blA h 2
        have hg:∀l,Wd (.fn 22 [] [.ptr h.length 0]) [] (h ++ (.cells [.ptr i 0] :: l)) = some (.ret (.bool (qbC ws 0)),h ++ (.cells [.ptr i 0] :: l),false):=λl=>qcF hw hn (by rw [jc (jm _),Ja];rfl) (by rw [ja E];exact hi)
        rw [PBi] at hi I
        simp only [sB.1,c10,seval,-Int.reduceNatCast',lV,qp,qB,qbZ,qe,PBi,hi,E,U,Y,hg,a0,k1,k2,k3,k4,k5]),A3.out 8 (λh tt H S=>by
        obtain ⟨ht,e2,e3,e4,e8,e9,e10,b2,b3,b4,b9,tk⟩:=S
        have l2:=qc b2
        have l3:=qc b3
        have l4:=qc b4
        have l9:=qc b9
        have n0:=bl0 h
        have n3:∀k,Nat.ble h.length (h.length + k) = true:=λk=>qE zo
        generalize hx:qg h.length Wd _ _ = R
        simp only [sB.1,c6,qas,qau,bne,seval,ht,e2,e3,e4,e8,e9,e10,b2,b3,b4,b9,l2,l3,l4,l9,n3,sne,qg4,qiL,qav,qac,qp,qbk,cl,r2,r3,r4,hT,a8,a7] at hx
        subst hx
        refine ⟨_,rfl,?_⟩
        simp only [sB.1,c6,seval,e2,e3,l2,l3,qg4]
        exact congrArg some (qhA (by simp only [qd.lower,qj];rfl)))⟩
     ·exact .inr ⟨p,e,m3,hp,he,λh i hi=>(P h i).trans (by
       have E:=qc hi
       have I:=qcO hi
       have a6:i ≠ h.length + 1:=zo
       have U:i ≠ h.length:=zo
       have a1:=blA h 1
       have Y:=blA h 2
       have hg:∀l,Wd (.fn 22 [] [.ptr h.length 0]) [] (h ++ (.cells [.ptr i 0] :: l)) = some (.ret (.bool (qbC ws 0)),h ++ (.cells [.ptr i 0] :: l),false):=λl=>qcF hw hn (by rw [jc (jm _),Ja];rfl) (by rw [ja E];exact hi)
       rw [PBi] at hi I
       simp only [sB.1,c10,seval,-Int.reduceNatCast',lV,qp,qB,qbZ,qe,PBi,hi,E,U,Y,hg,a0,k1,k2,k3,k4]),A3.out 8 (λh tt H S=>by
       obtain ⟨ht,e2,e3,e4,e8,e9,e10,b2,b3,b4,b9,tk⟩:=S
       have l2:=qc b2
       have l3:=qc b3
       have l4:=qc b4
       have l9:=qc b9
       have n0:=bl0 h
       have n3:∀k,Nat.ble h.length (h.length + k) = true:=λk=>qE zo
       generalize hx:qg h.length Wd _ _ = R
       simp only [sB.1,c6,qas,qau,bne,seval,ht,e2,e3,e4,e8,e9,e10,b2,b3,b4,b9,l2,l3,l4,l9,n3,sne,qg4,qiL,qav,qac,qp,cl,r2,r3,r4,he] at hx
       subst hx
       refine ⟨_,rfl,?_⟩
       simp only [sB.1,c6,seval,e2,e3,l2,l3,qg4]
       exact congrArg some (qhA (by simp only [qd.lower,qj];rfl)))⟩
    ·exact .inr ⟨p,e,m,hp,he,λh i hi=>(P h i).trans (by
      have E:=qc hi
      have I:=qcO hi
      have a6:i ≠ h.length + 1:=zo
      have U:i ≠ h.length:=zo
      have a1:=blA h 1
      have Y:=blA h 2
      have hg:∀l,Wd (.fn 22 [] [.ptr h.length 0]) [] (h ++ (.cells [.ptr i 0] :: l)) = some (.ret (.bool (qbC ws 0)),h ++ (.cells [.ptr i 0] :: l),false):=λl=>qcF hw hn (by rw [jc (jm _),Ja];rfl) (by rw [ja E];exact hi)
      rw [PBi] at hi I
      simp only [sB.1,c10,seval,-Int.reduceNatCast',lV,qp,qB,qbZ,qe,PBi,hi,E,U,Y,hg,a0,k1,k2,k3]),A3.out 8 (λh tt H S=>by
      obtain ⟨ht,e2,e3,e4,e8,e9,e10,b2,b3,b4,b9,tk⟩:=S
      have l2:=qc b2
      have l3:=qc b3
      have l4:=qc b4
      have l9:=qc b9
      have n0:=bl0 h
      have n3:∀k,Nat.ble h.length (h.length + k) = true:=λk=>qE zo
      generalize hx:qg h.length Wd _ _ = R
      simp only [sB.1,c6,qas,qau,bne,seval,ht,e2,e3,e4,e8,e9,e10,b2,b3,b4,b9,l2,l3,l4,l9,n3,sne,qg4,qiL,qav,qac,qp,cl,r2,r3,he] at hx
      subst hx
      refine ⟨_,rfl,?_⟩
      simp only [sB.1,c6,seval,e2,e3,l2,l3,qg4]
      exact congrArg some (qhA (by simp only [qd.lower,qj];rfl)))⟩
   ·exact .inr ⟨p,e,m,hp,he,λh i hi=>(P h i).trans (by
     have E:=qc hi
     have I:=qcO hi
     have a6:i ≠ h.length + 1:=zo
     have U:i ≠ h.length:=zo
     have a1:=blA h 1
     have Y:=blA h 2
     have hg:∀l,Wd (.fn 22 [] [.ptr h.length 0]) [] (h ++ (.cells [.ptr i 0] :: l)) = some (.ret (.bool (qbC ws 0)),h ++ (.cells [.ptr i 0] :: l),false):=λl=>qcF hw hn (by rw [jc (jm _),Ja];rfl) (by rw [ja E];exact hi)
     rw [PBi] at hi I
     simp only [sB.1,c10,seval,-Int.reduceNatCast',lV,qp,qB,qbZ,qe,PBi,hi,E,U,Y,hg,a0,k1,k2]),A3.out 8 (λh tt H S=>by
     obtain ⟨ht,e2,e3,e4,e8,e9,e10,b2,b3,b4,b9,tk⟩:=S
     have l2:=qc b2
     have l3:=qc b3
     have l4:=qc b4
     have l9:=qc b9
     have n0:=bl0 h
     have n3:∀k,Nat.ble h.length (h.length + k) = true:=λk=>qE zo
     generalize hx:qg h.length Wd _ _ = R
     simp only [sB.1,c6,qas,qau,bne,seval,ht,e2,e3,e4,e8,e9,e10,b2,b3,b4,b9,l2,l3,l4,n3,qiL,qav,qac,qp,cl,r2,he] at hx
     subst hx
     refine ⟨_,rfl,?_⟩
     simp only [sB.1,c6,seval,e2,e3,l2,l3,qg4]
     exact congrArg some (qhA (by simp only [qd.lower,qj];rfl)))⟩
  ·have K:PN ws 10 0 p e m':=λh i hi=>(P h i).trans (by
    have E:=qc hi
    have I:=qcO hi
    have a6:i ≠ h.length + 1:=zo
    have U:i ≠ h.length:=zo
    have a1:=blA h 1
    have Y:=blA h 2
    have hg:∀l,Wd (.fn 22 [] [.ptr h.length 0]) [] (h ++ (.cells [.ptr i 0] :: l)) = some (.ret (.bool (qbC ws 0)),h ++ (.cells [.ptr i 0] :: l),false):=λl=>qcF hw hn (by rw [jc (jm _),Ja];rfl) (by rw [ja E];exact hi)
    rw [PBi] at hi I
    simp only [sB.1,c10,seval,-Int.reduceNatCast',qe,PBi,hi,E,U,hg,a0,k1])
   rcases x1 with ⟨q,rfl,rfl⟩ | ⟨q,_,v,j,hv,hr⟩
   ·exact .inr ⟨_,_,m',hp,he,K,A2.out (λh tt H S=>qpv hk b1 hm (by simpa using q) S)⟩
   ·exact .inr ⟨p,e,m',hp,he,K,A2.out (λh tt H S=>qtd hk b1 hm he hv hr (by simpa using q) S)⟩
end
theorem qt4 {φ ψ:Int->Nat->Bool} {h:List qk} {op n:Int} {name sub:Str} {args:List Exp} {b c:Bool} (hl:args.length <= 100000)
  (ih:∀e ∈ args,∀h,Wd (.fn 41 [] []) [e.enc φ,e.enc ψ] h = some (.ret (.bool true),h,false)) :
  ∀(k i:Nat) (tt:List qd),i + k = args.length->tt.length = 60->lkp tt 2 = .ptr h.length 0->lkp tt 3 = .ptr (h.length + 1) 0->lkp tt 5 = .int .i64 (i:Nat)->
  ∃E,qg h.length Wd (.loop qpe) ⟨tt,h ++ [.cells [.int .i64 op,.int .i64 n,.str name,.str sub,.lst (qaE φ args) (fl b)],.cells [.int .i64 op,.int .i64 n,.str name,.str sub,.lst (qaE ψ args) (fl c)]],false⟩ = some (.exit 0,⟨E,h ++ [.cells [.int .i64 op,.int .i64 n,.str name,.str sub,.lst (qaE φ args) (fl b)],.cells [.int .i64 op,.int .i64 n,.str name,.str sub,.lst (qaE ψ args) (fl c)]],false⟩)/\E.length = 60:=by
 intro k
 induction k with
 | zero=>
  intro i tt hk ht e2 e3 e5
  have c1:ilt (i:Int) ((qaE φ args).length:Int) = false:=by rw [qD,qbw];simp;omega
  rw [qh]
  simp only [sB.1,qpe,seval,ht,e2,e5,qp,c1]
  exact ⟨_,rfl,Y0⟩
 | succ k I=>
  intro i tt hk ht e2 e3 e5
  have hi:i < args.length:=zo
  have c1:ilt (i:Int) ((qaE φ args).length:Int) = true:=by rw [qD,qbw];simp;omega
  have hx:qeQ 5 (.lst (qaE φ args) (fl b)) (.int .i64 (i:Nat)) = some (.iptr (args[i].cs φ) 0):=qbG (x:=args[i].enc φ) (by rw [qdB,jr,jh hi];rfl) (Exp.cs_len φ _)
  have hy:qeQ 5 (.lst (qaE ψ args) (fl c)) (.int .i64 (i:Nat)) = some (.iptr (args[i].cs ψ) 0):=qbG (x:=args[i].enc ψ) (by rw [qdB,jr,jh hi];rfl) (Exp.cs_len ψ _)
  have w2:=qo (n:=i) zo
  have hc:=ih args[i] (List.getElem_mem hi)
  rw [qh]
  generalize he:qg h.length Wd qpe _ = R
  simp only [sB.1,qpe,seval,ht,e2,e3,e5,qp,c1,hx,hy,Exp.cut,Exp.dimE,hc,w2] at he
  subst he
  refine I (i + 1) _ zo ?_ ?_ ?_ ?_
  all_goals simp only [sB.1,seval,ht,e2,e3]
theorem qkC {φ ψ:Int->Nat->Bool}:∀(d:Nat) (e:Exp),e.depth <= d->e.small->∀h,Wd (.fn 41 [] []) [e.enc φ,e.enc ψ] h = some (.ret (.bool true),h,false):=by
 intro d
 induction d with
 | zero=>rintro ⟨op,n,name,sub,args⟩ hd;simp [Exp.depth] at hd
 | succ d ih=>
  rintro ⟨op,n,name,sub,args⟩ hd hs h
  simp only [Exp.depth] at hd
  rw [Exp.small] at hs
  have hm:∀e ∈ args,∀h,Wd (.fn 41 [] []) [e.enc φ,e.enc ψ] h = some (.ret (.bool true),h,false):=λe he h=>
   ih e (qgo (d:=d) (es:=args) zo e he) (qhn hs.2 e he) h
  have c5:(((qaE φ args).length:Int) == ((qaE ψ args).length:Int)) = true:=by rw [qbw,qbw];simp
  rw [qu 41 c41]
  generalize hR:qbS _ h _ = R
  simp only [sB.1,c41,seval,Exp.enc,Exp.cs,qp,c5] at hR
  generalize hq:qg h.length Wd (.loop qpe) _ = r at hR
  obtain ⟨tt,rfl,ht⟩ :∃tt,r = some (.exit 0,⟨tt,h ++ [.cells [.int .i64 op,.int .i64 n,.str name,.str sub,.lst (qaE φ args) (fl (φ op args.length))],.cells [.int .i64 op,.int .i64 n,.str name,.str sub,.lst (qaE ψ args) (fl (ψ op args.length))]],false⟩)/\tt.length = 60:=by
   rw [<-hq]
   refine qt4 hs.1 hm args.length 0 _ zo ?_ ?_ ?_ ?_
   all_goals simp only [sB.1,seval,Int.natCast_zero]
  rw [<-hR]
  simp only [sB.1,seval,ht]
theorem qcx {base N:Nat} {body:qK} {S:Nat->List qd->List qk->Prop} (round:∀{i:Nat} {tt:List qd} {H:List qk},i < N->S i tt H->∃E H',qg base Wd body ⟨tt,H,false⟩ = some (.nor,⟨E,H',false⟩)/\S (i + 1) E H') :
  ∀(k i:Nat) {tt:List qd} {H:List qk},i + k = N->S i tt H->∃E H',S N E H'/\qg base Wd (.loop body) ⟨tt,H,false⟩ = qg base Wd (.loop body) ⟨E,H',false⟩
 | 0,i,tt,H,hk,s=>⟨tt,H,by rw [<-hk];exact s,rfl⟩
 | k + 1,i,tt,H,hk,s=>by
  obtain ⟨t1,H1,x,s1⟩:=round zo s
  obtain ⟨t2,H2,s2,y⟩:=qcx round k (i + 1) zo s1
  exact ⟨t2,H2,s2,by rw [qh,x,qaT,y]⟩
theorem qf0 {A B:List qd} (h:A.length = B.length):((A.length:Int) == (B.length:Int)) = true:=by rw [h];simp
theorem qiZ {a b:Nat} (h:a < b):ilt (a:Int) (b:Int) = true:=by rw [qD];simp;omega
theorem qiY {a b:Nat} (h:b <= a):ilt (a:Int) (b:Int) = false:=by rw [qD];simp;omega
theorem qb1 {D:Type} {k:Nat} {enc:D->qd} {ds:List D} {f:qha} {i:Nat} (hi:i < ds.length) {cs:List qd} (he:enc ds[i] = .agg cs) (hl:cs.length = k):qeQ k (.lst (ds.map enc) f) (.int .i64 (i:Nat)) = some (.iptr cs 0):=qbG (x:=.agg cs) (by rw [jr,jh hi,<-he];rfl) hl
def qob (t:qaV):Prop:=∀h:List qk,Wd (.fn 63 [] []) [.agg t.cs,.agg t.cs] h = some (.ret (.bool true),h,false)
theorem qh9 (ts:List qaV):qcs ts = ts.map λt=>.agg t.cs:=by
 induction ts with
 | nil=>simp only [qcs,List.map_nil]
 | cons t ts ih=>simp only [qcs,List.map_cons,ih]
theorem qAb {k:Int} {ts:List qaV} (hl:ts.length <= 4) (ih:∀t ∈ ts,qob t):qob (.mk k ts):=λh=>by
 generalize hR:Wd _ _ h = R
 rw [qu 63 c63] at hR
 have c5:=qf0 (rfl:(qcs ts).length = (qcs ts).length)
 simp only [sB.1,c63,seval,qa2,qp] at hR
 generalize hq:qg h.length Wd (.loop qmN) _ = r at hR
 have S0:=λ(tt:List qd) (H:List qk) (hq:qg h.length Wd (.loop qmN) ⟨tt,H,false⟩ = r) (s:tt.length = 39/\lkp tt 2 = .ptr h.length 0/\lkp tt 3 = .ptr (h.length + 1) 0/\lkp tt 5 = .int .i64 (0:Nat)/\H = h ++ [.cells [.int .i64 k,.lst (qcs ts) (fl ts.isEmpty)],.cells [.int .i64 k,.lst (qcs ts) (fl ts.isEmpty)]])=>
  qcx (base:=h.length) (body:=qmN) (S:=λi tt H=>tt.length = 39/\lkp tt 2 = .ptr h.length 0/\lkp tt 3 = .ptr (h.length + 1) 0/\lkp tt 5 = .int .i64 (i:Nat)/\H = h ++ [.cells [.int .i64 k,.lst (qcs ts) (fl ts.isEmpty)],.cells [.int .i64 k,.lst (qcs ts) (fl ts.isEmpty)]]) (N:=ts.length) (fun {i tt H} hi ⟨ht,e2,e3,e5,hH⟩=>by
   subst hH
   have c1:ilt (i:Int) ((qcs ts).length:Int) = true:=qiZ (by rw [qh9,jQ];exact hi)
   have hx:qeQ 2 (.lst (qcs ts) (fl ts.isEmpty)) (.int .i64 (i:Nat)) = some (.iptr (ts[i].cs) 0):=by rw [qh9];exact qb1 hi rfl (qbt _)
   have w2:=qo (n:=i) zo
   have hc:=ih ts[i] (List.getElem_mem hi)
   generalize ts[i] = t at *
   obtain ⟨k',I⟩:=t
   simp only [qob,qa2] at hx hc
   generalize he:qg h.length Wd qmN _ = R
   simp only [sB.1,qmN,seval,ht,e2,e3,e5,qp,c1,hx,hc,w2] at he
   subst he
   refine ⟨_,_,rfl,?_,?_,?_,?_,rfl⟩
   all_goals simp only [sB.1,seval,ht,e2,e3]) ts.length 0 (Jb _) s
 obtain ⟨t2,H2,⟨ht,e2,e3,e5,hH⟩,E⟩:=S0 _ _ hq ⟨Y1,Y1,Y1,z10,rfl⟩
 subst hH
 have c1:ilt (ts.length:Int) ((qcs ts).length:Int) = false:=qiY (by rw [qh9,jQ];exact jm _)
 rw [E,qh] at hq
 simp only [sB.1,qmN,seval,ht,e2,e5,qp,c1] at hq
 subst hq
 rw [<-hR]
 simp only [sB.1,seval,ht]
mutual
theorem qFR:∀t:qaV,t.sm = true->qob t
 | .mk k ts,h=>by
  simp only [qaV.sm,jk] at h
  exact qAb (Nat.le_of_ble_eq_true h.1) (qCO ts h.2)
theorem qCO:∀ts:List qaV,smT ts = true->∀t ∈ ts,qob t
 | [],_=>λt h=>by cases h
 | t :: ts,h=>λx hx=>by
  simp only [smT,jk] at h
  exact (List.mem_cons.1 hx).elim (λe=>e▸qFR t h.1) (qCO ts h.2 x)
end
namespace D
variable {base:Nat} {call:AE.Call} {dsts:List Nat} {s:St} {pend:List (Nat×Chk)}
theorem draw_on {d:Option Nat} {o:AOp} {ix cl j:Nat} {b:Bool} {ds:List qX} (h:lkp s.t j = .bool b):qS base call dsts (⟨⟨d,o,some (j,b)⟩,ix,cl⟩ :: ds) pend s = qS base call dsts (⟨⟨d,o,none⟩,ix,cl⟩ :: ds) pend s:=by
 have e:s.t.getD j .undef = .bool b:=h
 simp only [qS,wanted,e,beq_self_eq_true]
end D
theorem qjG {ds:List qbv} {b c:Bool} (hl:ds.length <= 100000) (hd:∀d ∈ ds,d.t.sm = true) (h:List qk):Wd (.fn 38 [] []) [.lst (ds.map qbv.enc) (fl b),.lst (ds.map qbv.enc) (fl c)] h = some (.ret (.bool true),h,false):=by
 generalize hR:Wd _ _ h = R
 rw [qu 38 c38] at hR
 have c5:=qf0 (show (ds.map qbv.enc).length = (ds.map qbv.enc).length by simp only [jQ])
 simp only [sB.1,c38,seval,qp] at hR
 generalize hq:qg h.length Wd (.loop qmK) _ = r at hR
 have S0:=λ(tt:List qd) (H:List qk) (hq:qg h.length Wd (.loop qmK) ⟨tt,H,false⟩ = r) (s:tt.length = 42/\lkp tt 0 = .lst (ds.map qbv.enc) (fl b)/\lkp tt 1 = .lst (ds.map qbv.enc) (fl c)/\lkp tt 5 = .int .i64 (0:Nat)/\H = h)=>
  qcx (base:=h.length) (body:=qmK) (S:=λi tt H=>tt.length = 42/\lkp tt 0 = .lst (ds.map qbv.enc) (fl b)/\lkp tt 1 = .lst (ds.map qbv.enc) (fl c)/\lkp tt 5 = .int .i64 (i:Nat)/\H = h) (N:=ds.length) (fun {i tt H} hi ⟨ht,e0,e1,e5,hH⟩=>by
   subst hH
   have c1:ilt (i:Int) ((ds.map qbv.enc).length:Int) = true:=qiZ (by rw [jQ];exact hi)
   have w2:=qo (n:=i) zo
   have hm:=List.getElem_mem hi
   obtain ⟨d,E⟩ :∃d,ds[i] = d:=⟨_,rfl⟩
   rw [E] at hm
   have hx:=qb1 (k:=3) (f:=fl b) (enc:=qbv.enc) hi (congrArg qbv.enc E) (by rw [jy,qbt])
   have hy:=qb1 (k:=3) (f:=fl c) (enc:=qbv.enc) hi (congrArg qbv.enc E) (by rw [jy,qbt])
   have hc:=qFR d.t (hd d hm)
   obtain ⟨nm,⟨kk,ts⟩⟩:=d
   simp only [qob,qa2] at hc hx hy
   generalize he:qg H.length Wd qmK _ = R
   simp only [sB.1,qmK,seval,D.draw_on,ht,e0,e1,e5,qp,c1,hx,hy,hc,w2] at he
   subst he
   refine ⟨_,_,rfl,?_,?_,?_,?_,rfl⟩
   all_goals simp only [sB.1,seval,ht,e0,e1]) ds.length 0 (Jb _) s
 obtain ⟨t2,H2,⟨ht,e0,e1,e5,hH⟩,I⟩:=S0 _ _ hq ⟨Y1,Y1,Y1,z10,rfl⟩
 subst hH
 have c1:ilt (ds.length:Int) ((ds.map qbv.enc).length:Int) = false:=qiY (by rw [jQ];exact jm _)
 rw [I,qh] at hq
 simp only [sB.1,qmK,seval,ht,e0,e5,qp,c1] at hq
 subst hq
 rw [<-hR]
 simp only [sB.1,seval,ht]
theorem qg0 {φ ψ:Int->Nat->Bool} {ds:List qbq} {b c:Bool} (hl:ds.length <= 100000) (hd:∀d ∈ ds,d.e.small) (h:List qk):Wd (.fn 39 [] []) [.lst (ds.map (qbq.enc φ)) (fl b),.lst (ds.map (qbq.enc ψ)) (fl c)] h = some (.ret (.bool true),h,false):=by
 generalize hR:Wd _ _ h = R
 rw [qu 39 c39] at hR
 have c5:=qf0 (show (ds.map (qbq.enc φ)).length = (ds.map (qbq.enc ψ)).length by simp only [jQ])
 simp only [sB.1,c39,seval,qp,c5] at hR
 generalize hq:qg h.length Wd (.loop qmL) _ = r at hR
 have S0:=λ(tt:List qd) (H:List qk) (hq:qg h.length Wd (.loop qmL) ⟨tt,H,false⟩ = r) (s:tt.length = 42/\lkp tt 0 = .lst (ds.map (qbq.enc φ)) (fl b)/\lkp tt 1 = .lst (ds.map (qbq.enc ψ)) (fl c)/\lkp tt 5 = .int .i64 (0:Nat)/\H = h)=>
  qcx (base:=h.length) (body:=qmL) (S:=λi tt H=>tt.length = 42/\lkp tt 0 = .lst (ds.map (qbq.enc φ)) (fl b)/\lkp tt 1 = .lst (ds.map (qbq.enc ψ)) (fl c)/\lkp tt 5 = .int .i64 (i:Nat)/\H = h) (N:=ds.length) (fun {i tt H} hi ⟨ht,e0,e1,e5,hH⟩=>by
   subst hH
   have c1:ilt (i:Int) ((ds.map (qbq.enc φ)).length:Int) = true:=qiZ (by rw [jQ];exact hi)
   have w2:=qo (n:=i) zo
   have hm:=List.getElem_mem hi
   obtain ⟨d,E⟩ :∃d,ds[i] = d:=⟨_,rfl⟩
   rw [E] at hm
   have hx:=qb1 (k:=6) (f:=fl b) (enc:=(qbq.enc φ)) hi (congrArg (qbq.enc φ) E) (by rw [jy,Exp.cs_len])
   have hy:=qb1 (k:=6) (f:=fl c) (enc:=(qbq.enc ψ)) hi (congrArg (qbq.enc ψ) E) (by rw [jy,Exp.cs_len])
   have hc:=qkC (φ:=φ) (ψ:=ψ) _ d.e (jm _) (hd d hm)
   obtain ⟨nm,⟨op,n,u,v,aS⟩⟩:=d
   simp only [Exp.enc,Exp.cs] at hc hx hy
   generalize he:qg H.length Wd qmL _ = R
   simp only [sB.1,qmL,seval,D.draw_on,ht,e0,e1,e5,qp,c1,hx,hy,hc,w2] at he
   subst he
   refine ⟨_,_,rfl,?_,?_,?_,?_,rfl⟩
   all_goals simp only [sB.1,seval,ht,e0,e1]) ds.length 0 (Jb _) s
 obtain ⟨t2,H2,⟨ht,e0,e1,e5,hH⟩,I⟩:=S0 _ _ hq ⟨Y1,Y1,Y1,z10,rfl⟩
 subst hH
 have c1:ilt (ds.length:Int) ((ds.map (qbq.enc φ)).length:Int) = false:=qiY (by rw [jQ];exact jm _)
 rw [I,qh] at hq
 simp only [sB.1,qmL,seval,ht,e0,e5,qp,c1] at hq
 subst hq
 rw [<-hR]
 simp only [sB.1,seval,ht]
theorem qjF {φ ψ:Int->Nat->Bool} {ds:List Exp} {b c:Bool} (hl:ds.length <= 100000) (hd:∀d ∈ ds,d.small) (h:List qk):Wd (.fn 40 [] []) [.lst (ds.map (Exp.enc φ)) (fl b),.lst (ds.map (Exp.enc ψ)) (fl c)] h = some (.ret (.bool true),h,false):=by
 generalize hR:Wd _ _ h = R
 rw [qu 40 c40] at hR
 have c5:=qf0 (show (ds.map (Exp.enc φ)).length = (ds.map (Exp.enc ψ)).length by simp only [jQ])
 simp only [sB.1,c40,seval,qp,c5] at hR
 generalize hq:qg h.length Wd (.loop qmM) _ = r at hR
 have S0:=λ(tt:List qd) (H:List qk) (hq:qg h.length Wd (.loop qmM) ⟨tt,H,false⟩ = r) (s:tt.length = 27/\lkp tt 0 = .lst (ds.map (Exp.enc φ)) (fl b)/\lkp tt 1 = .lst (ds.map (Exp.enc ψ)) (fl c)/\lkp tt 5 = .int .i64 (0:Nat)/\H = h)=>
  qcx (base:=h.length) (body:=qmM) (S:=λi tt H=>tt.length = 27/\lkp tt 0 = .lst (ds.map (Exp.enc φ)) (fl b)/\lkp tt 1 = .lst (ds.map (Exp.enc ψ)) (fl c)/\lkp tt 5 = .int .i64 (i:Nat)/\H = h) (N:=ds.length) (fun {i tt H} hi ⟨ht,e0,e1,e5,hH⟩=>by
   subst hH
   have c1:ilt (i:Int) ((ds.map (Exp.enc φ)).length:Int) = true:=qiZ (by rw [jQ];exact hi)
   have w2:=qo (n:=i) zo
   have hm:=List.getElem_mem hi
   obtain ⟨d,E⟩ :∃d,ds[i] = d:=⟨_,rfl⟩
   rw [E] at hm
   have hx:=qb1 (k:=5) (f:=fl b) (enc:=(Exp.enc φ)) hi (congrArg (Exp.enc φ) E) (Exp.cs_len _ _)
   have hy:=qb1 (k:=5) (f:=fl c) (enc:=(Exp.enc ψ)) hi (congrArg (Exp.enc ψ) E) (Exp.cs_len _ _)
   have hc:=qkC (φ:=φ) (ψ:=ψ) _ d (jm _) (hd d hm)
   obtain ⟨op,n,u,v,aS⟩:=d
   simp only [Exp.enc,Exp.cs] at hc hx hy
   generalize he:qg H.length Wd qmM _ = R
   simp only [sB.1,qmM,seval,ht,e0,e1,e5,qp,c1,hx,hy,hc,w2] at he
   subst he
   refine ⟨_,_,rfl,?_,?_,?_,?_,rfl⟩
   all_goals simp only [sB.1,seval,ht,e0,e1]) ds.length 0 (Jb _) s
 obtain ⟨t2,H2,⟨ht,e0,e1,e5,hH⟩,I⟩:=S0 _ _ hq ⟨Y1,Y1,Y1,z10,rfl⟩
 subst hH
 have c1:ilt (ds.length:Int) ((ds.map (Exp.enc φ)).length:Int) = false:=qiY (by rw [jQ];exact jm _)
 rw [I,qh] at hq
 simp only [sB.1,qmM,seval,ht,e0,e5,qp,c1] at hq
 subst hq
 rw [<-hR]
 simp only [sB.1,seval,ht]
end Go.Proofs.YtkehdpkcdnofaaaGreatDoor.AE
namespace Go.Proofs.YtkehdpkcdnofaaaGreatDoor.AE
open Go.AE
theorem qiD {base:Nat} {call:AE.Call} {p:qdU} {s:St} (d:Option Nat) (sh:qeN) (n:Bool) (x y:qP):qJ base call p d (.eqs sh n x y) s = qhL d s ((qqk sh (ev s.t x) (ev s.t y)).map λr=>.bool (r != n)):=qbI _ _ rfl (by simp) (by simp) (by simp)
theorem qj1 {base:Nat} {call:AE.Call} {dsts:List Nat} {s:St} {pend:List (Nat×Chk)} {d:Option Nat} {sh:qeN} {n:Bool} {x y:qP} {ix cl:Nat} {ds:List qX}:qS base call dsts (⟨⟨d,.eqs sh n x y,none⟩,ix,cl⟩ :: ds) pend s = qbr (qS base call dsts ds pend) (qJ base call [] d (.eqs sh n x y) s):=by
 have he:(AOp.eqs sh n x y).effs = false:=rfl
 have hc:qhb s (.eqs sh n x y) = none:=rfl
 simp only [qS,wanted,he,Bool.false_eq_true,if_false,hc]
 cases hr:qJ base call [] d (.eqs sh n x y) s with
 | none=>rfl
 | some r=>
  obtain ⟨x,s'⟩:=r
  have:=qCd he hr
  subst this
  rfl
theorem qyW {d:qcc} (h:d.good):qqk ⟨true,2,[(0,.s),(1,.s)]⟩ (.agg [.str d.name,.str d.model]) (.agg [.str d.name,.str d.model]) = some true:=by
 unfold qqk
 rw [if_pos]
 ·simp [qd.cells,qet,qjc]
 ·simp [qeY,qe0,qeZ,qE h.1,qE h.2]
theorem qyV {d:qb8} (h:d.good):qqk ⟨true,4,[(0,.s),(1,.s),(2,.s),(3,.s)]⟩ (.agg [.str d.frm.part,.str d.frm.port,.str d.to.part,.str d.to.port]) (.agg [.str d.frm.part,.str d.frm.port,.str d.to.part,.str d.to.port]) = some true:=by
 obtain ⟨h1,h2,h3,h4⟩:=h
 unfold qqk
 rw [if_pos]
 ·simp [qd.cells,qet,qjc]
 ·simp [qeY,qe0,qeZ,qE h1,qE h2,qE h3,qE h4]
theorem qBC {d:qdk} (h:d.good):qqk ⟨true,7,[(0,(.i .i64)),(1,.s),(2,.s),(3,.s),(4,.s),(5,.s),(6,.s)]⟩ (.agg [.int .i64 d.kind,.str d.name,.str d.model,.str d.link.frm.part,.str d.link.frm.port,.str d.link.to.part,.str d.link.to.port]) (.agg [.int .i64 d.kind,.str d.name,.str d.model,.str d.link.frm.part,.str d.link.frm.port,.str d.link.to.part,.str d.link.to.port]) = some true:=by
 obtain ⟨h0,h5,h6,h1,h2,h3,h4⟩:=h
 have k1:ile IntKind.i64.min d.kind = true:=show ile (-9223372036854775808) d.kind = true by rw [qdF];simp;omega
 have k2:ile d.kind IntKind.i64.max = true:=show ile d.kind 9223372036854775807 = true by rw [qdF];simp;omega
 unfold qqk
 rw [if_pos]
 ·simp [qd.cells,qet,qjc]
 ·simp [qeY,qe0,qeZ,qE h1,qE h2,qE h3,qE h4,qE h5,qE h6,k1]
  exact k2
theorem qfz {base id N:Nat} {body:qK} {S:Nat->List qd->List qk->Prop} {Q:List qd->List qk->Prop} (round:∀{i:Nat} {tt:List qd} {H:List qk},i < N->S i tt H->∃E H',qg base Wd body ⟨tt,H,false⟩ = some (.nor,⟨E,H',false⟩)/\S (i + 1) E H')
  (exit:∀{tt:List qd} {H:List qk},S N tt H->∃E H',qg base Wd body ⟨tt,H,false⟩ = some (.exit id,⟨E,H',false⟩)/\Q E H') {tt:List qd} {H:List qk} (s:S 0 tt H):∃E H',qg base Wd (.block id (.loop body)) ⟨tt,H,false⟩ = some (.nor,⟨E,H',false⟩)/\Q E H':=by
 obtain ⟨t1,H1,s1,x1⟩:=qcx round N 0 (Jb _) s
 obtain ⟨t2,H2,x2,q⟩:=exit s1
 exact ⟨t2,H2,by rw [qcU,x1,qh,x2,qbi];exact if_pos rfl,q⟩
structure qeR where
 nm:Str
 c:Bool
 ins:List qbv
 outs:List qbv
 vars:List qbq
 ta:List Exp
 emits:List qbB
 int:List qbq
 ext:List qbq
 con:Int
 own:List qbq
 parts:List qcc
 links:List qb8
 rules:List qc5
def qeR.row (φ:Int->Nat->Bool) (x:qeR):List qd:=[.str x.nm,.bool x.c,lV (x.ins.map qbv.enc),lV (x.outs.map qbv.enc),lV (x.vars.map (qbq.enc φ)),.lst (x.ta.map (Exp.enc φ)) .full,lV (x.emits.map (qbB.enc φ)),lV (x.int.map (qbq.enc φ)),lV (x.ext.map (qbq.enc φ)),.int .i64 x.con,lV (x.own.map (qbq.enc φ)),lV (x.parts.map qcc.enc),lV (x.links.map qb8.enc),lV (x.rules.map (qc5.enc φ))]
structure qeR.ok (x:qeR):Prop where
 ins:x.ins.length <= 100000/\∀d ∈ x.ins,d.t.sm = true
 outs:x.outs.length <= 100000/\∀d ∈ x.outs,d.t.sm = true
 vars:x.vars.length <= 100000/\∀d ∈ x.vars,d.e.small
 ta:x.ta.length <= 100000/\∀d ∈ x.ta,d.small
 emits:x.emits.length <= 100000/\∀d ∈ x.emits,d.good
 int:x.int.length <= 100000/\∀d ∈ x.int,d.e.small
 ext:x.ext.length <= 100000/\∀d ∈ x.ext,d.e.small
 own:x.own.length <= 100000/\∀d ∈ x.own,d.e.small
 parts:x.parts.length <= 100000/\∀d ∈ x.parts,d.good
 links:x.links.length <= 100000/\∀d ∈ x.links,d.good
 rules:x.rules.length <= 100000/\∀d ∈ x.rules,qlg d.cond/\d.acts.length <= 5/\∀a ∈ d.acts,a.good
structure MMS (φ ψ:Int->Nat->Bool) (x:qeR) (h:List qk) (tt:List qd) (H:List qk):Prop where
 len:tt.length = 259
 e2:lkp tt 2 = .ptr h.length 0
 e3:lkp tt 3 = .ptr (h.length + 1) 0
 b2:H[h.length]? = some (.cells (x.row φ))
 b3:H[h.length + 1]? = some (.cells (x.row ψ))
 tk:H.take h.length = h
section
variable {φ ψ:Int->Nat->Bool} {x:qeR} {h:List qk} {tt:List qd} {H:List qk}
theorem qw1 (ok:x.ok) (S:MMS φ ψ x h tt H):∃I H',qg h.length Wd (qau 1 (qas 3 c17.code)) ⟨tt,H,false⟩ = some (.nor,⟨I,H',false⟩)/\MMS φ ψ x h I H':=by
 rw [show qau 1 (qas 3 c17.code) = .seq (.seq (.reg [ao 5 (.asg (.c (.int .i64 0)))]) (.block 0 (.loop qpa))) .skip from rfl,qbx,qbx,show qg h.length Wd (.reg [ao 5 (.asg (.c (.int .i64 0)))]) ⟨tt,H,false⟩ = some (.nor,⟨up tt 5 (.int .i64 0),H,false⟩) by simp only [sB.1,seval],qaT,qcC]
 refine qfz (N:=x.emits.length) (S:=λi tt H=>MMS φ ψ x h tt H/\lkp tt 5 = .int .i64 (i:Nat)) (Q:=MMS φ ψ x h) (fun {i tt H} hi ⟨S,e5⟩=>?_) (fun {tt H} ⟨S,e5⟩=>?_) (by
  obtain ⟨ht,e2,e3,b2,b3,tk⟩:=S
  exact ⟨⟨Y0,Y2,y7,b2,b3,tk⟩,z13⟩)
 ·have hl:=ok.emits.1
  have c1:ilt (i:Int) ((x.emits.map (qbB.enc φ)).length:Int) = true:=qiZ (by rw [jQ];exact hi)
  have w2:=qo (n:=i) zo
  have hm:=List.getElem_mem hi
  obtain ⟨d,E⟩ :∃d,x.emits[i] = d:=⟨_,rfl⟩
  rw [E] at hm
  have hg:=ok.emits.2 d hm
  have hx:=λf=>qb1 (k:=7) (f:=f) (enc:=(qbB.enc φ)) hi (congrArg (qbB.enc φ) E) (by rw [jy,ji,Exp.cs_len];rfl)
  have hy:=λf=>qb1 (k:=7) (f:=f) (enc:=(qbB.enc ψ)) hi (congrArg (qbB.enc ψ) E) (by rw [jy,ji,Exp.cs_len];rfl)
  obtain ⟨ht,e2,e3,b2,b3,tk⟩:=S
  have l2:=qc b2
  have l3:=qc b3
  simp only [qeR.row,lV] at b2 b3
  have hc:=qkC (φ:=φ) (ψ:=ψ) _ d.e (jm _) hg.1.1
  have U:=qjF (φ:=φ) (ψ:=ψ) (b:=true) (c:=true) (ds:=d.cond) (by have:=hg.2.1;omega) (λe he=>(hg.2.2 e he).1)
  obtain ⟨nm,⟨op,n,u,v,aS⟩,cs⟩:=d
  simp only [Exp.enc,Exp.cs,jw,jW,qkP] at hc U hx hy
  generalize he:qg h.length Wd qpa _ = R
  simp only [sB.1,qpa,seval,D.draw_on,ht,e2,e3,e5,b2,b3,qp,c1,hx,hy,w2,hc,U] at he
  subst he
  refine ⟨_,_,rfl,⟨Y0,Y2,y7,by simpa only [qeR.row,lV] using b2,by simpa only [qeR.row,lV] using b3,tk⟩,Y4⟩
 ·have c1:ilt (x.emits.length:Int) ((x.emits.map (qbB.enc φ)).length:Int) = false:=qiY (by rw [jQ];exact jm _)
  obtain ⟨ht,e2,e3,b2,b3,tk⟩:=S
  have l2:=qc b2
  have l3:=qc b3
  simp only [qeR.row,lV] at b2 b3
  generalize he:qg h.length Wd qpa _ = R
  simp only [sB.1,qpa,seval,ht,e2,e5,b2,qp,c1] at he
  subst he
  exact ⟨_,_,rfl,Y0,Y2,y7,by simpa only [qeR.row,lV] using b2,by simpa only [qeR.row,lV] using b3,tk⟩
theorem qw3 (ok:x.ok) (S:MMS φ ψ x h tt H):∃I H',qg h.length Wd (qau 1 (qas 4 c17.code)) ⟨tt,H,false⟩ = some (.nor,⟨I,H',false⟩)/\MMS φ ψ x h I H':=by
 rw [show qau 1 (qas 4 c17.code) = .seq (.seq (.reg [ao 6 (.asg (.c (.int .i64 0)))]) (.block 2 (.loop qpb))) .skip from rfl,qbx,qbx,show qg h.length Wd (.reg [ao 6 (.asg (.c (.int .i64 0)))]) ⟨tt,H,false⟩ = some (.nor,⟨up tt 6 (.int .i64 0),H,false⟩) by simp only [sB.1,seval],qaT,qcC]
 refine qfz (N:=x.parts.length) (S:=λi tt H=>MMS φ ψ x h tt H/\lkp tt 6 = .int .i64 (i:Nat)) (Q:=MMS φ ψ x h) (fun {i tt H} hi ⟨S,e5⟩=>?_) (fun {tt H} ⟨S,e5⟩=>?_) (by
  obtain ⟨ht,e2,e3,b2,b3,tk⟩:=S
  exact ⟨⟨Y0,Y2,y7,b2,b3,tk⟩,z13⟩)
 ·have hl:=ok.parts.1
  have c1:ilt (i:Int) ((x.parts.map qcc.enc).length:Int) = true:=qiZ (by rw [jQ];exact hi)
  have w2:=qo (n:=i) zo
  have hm:=List.getElem_mem hi
  obtain ⟨d,E⟩ :∃d,x.parts[i] = d:=⟨_,rfl⟩
  rw [E] at hm
  have hg:=ok.parts.2 d hm
  have hx:=λf=>qb1 (k:=2) (f:=f) (enc:=qcc.enc) hi (congrArg qcc.enc E) rfl
  have hy:=λf=>qb1 (k:=2) (f:=f) (enc:=qcc.enc) hi (congrArg qcc.enc E) rfl
  obtain ⟨ht,e2,e3,b2,b3,tk⟩:=S
  have l2:=qc b2
  have l3:=qc b3
  simp only [qeR.row,lV] at b2 b3
  have hc:=qyW hg
  generalize he:qg h.length Wd qpb _ = R
  simp only [sB.1,qpb,seval,qj1,qiD,ht,e2,e3,e5,b2,b3,qp,c1,hx,w2,hc] at he
  subst he
  refine ⟨_,_,rfl,⟨Y0,Y2,y7,by simpa only [qeR.row,lV] using b2,by simpa only [qeR.row,lV] using b3,tk⟩,Y4⟩
 ·have c1:ilt (x.parts.length:Int) ((x.parts.map qcc.enc).length:Int) = false:=qiY (by rw [jQ];exact jm _)
  obtain ⟨ht,e2,e3,b2,b3,tk⟩:=S
  have l2:=qc b2
  have l3:=qc b3
  simp only [qeR.row,lV] at b2 b3
  generalize he:qg h.length Wd qpb _ = R
  simp only [sB.1,qpb,seval,ht,e2,e5,b2,qp,c1] at he
  subst he
  exact ⟨_,_,rfl,Y0,Y2,y7,by simpa only [qeR.row,lV] using b2,by simpa only [qeR.row,lV] using b3,tk⟩
theorem qw2 (ok:x.ok) (S:MMS φ ψ x h tt H):∃I H',qg h.length Wd (qau 1 (qas 5 c17.code)) ⟨tt,H,false⟩ = some (.nor,⟨I,H',false⟩)/\MMS φ ψ x h I H':=by
 rw [show qau 1 (qas 5 c17.code) = .seq (.seq (.reg [ao 7 (.asg (.c (.int .i64 0)))]) (.block 4 (.loop qpc))) .skip from rfl,qbx,qbx,show qg h.length Wd (.reg [ao 7 (.asg (.c (.int .i64 0)))]) ⟨tt,H,false⟩ = some (.nor,⟨up tt 7 (.int .i64 0),H,false⟩) by simp only [sB.1,seval],qaT,qcC]
 refine qfz (N:=x.links.length) (S:=λi tt H=>MMS φ ψ x h tt H/\lkp tt 7 = .int .i64 (i:Nat)) (Q:=MMS φ ψ x h) (fun {i tt H} hi ⟨S,e5⟩=>?_) (fun {tt H} ⟨S,e5⟩=>?_) (by
  obtain ⟨ht,e2,e3,b2,b3,tk⟩:=S
  exact ⟨⟨Y0,Y2,y7,b2,b3,tk⟩,z13⟩)
 ·have hl:=ok.links.1
  have c1:ilt (i:Int) ((x.links.map qb8.enc).length:Int) = true:=qiZ (by rw [jQ];exact hi)
  have w2:=qo (n:=i) zo
  have hm:=List.getElem_mem hi
  obtain ⟨d,E⟩ :∃d,x.links[i] = d:=⟨_,rfl⟩
  rw [E] at hm
  have hg:=ok.links.2 d hm
  have hx:=λf=>qb1 (k:=4) (f:=f) (enc:=qb8.enc) hi (congrArg qb8.enc E) rfl
  have hy:=λf=>qb1 (k:=4) (f:=f) (enc:=qb8.enc) hi (congrArg qb8.enc E) rfl
  obtain ⟨ht,e2,e3,b2,b3,tk⟩:=S
  have l2:=qc b2
  have l3:=qc b3
  simp only [qeR.row,lV] at b2 b3
  have hc:=qyV hg
  generalize he:qg h.length Wd qpc _ = R
  simp only [sB.1,qpc,seval,qj1,qiD,ht,e2,e3,e5,b2,b3,qp,c1,hx,w2,hc] at he
  subst he
  refine ⟨_,_,rfl,⟨Y0,Y2,y7,by simpa only [qeR.row,lV] using b2,by simpa only [qeR.row,lV] using b3,tk⟩,Y4⟩
 ·have c1:ilt (x.links.length:Int) ((x.links.map qb8.enc).length:Int) = false:=qiY (by rw [jQ];exact jm _)
  obtain ⟨ht,e2,e3,b2,b3,tk⟩:=S
  have l2:=qc b2
  have l3:=qc b3
  simp only [qeR.row,lV] at b2 b3
  generalize he:qg h.length Wd qpc _ = R
  simp only [sB.1,qpc,seval,ht,e2,e5,b2,qp,c1] at he
  subst he
  exact ⟨_,_,rfl,Y0,Y2,y7,by simpa only [qeR.row,lV] using b2,by simpa only [qeR.row,lV] using b3,tk⟩
theorem qw4 (ok:x.ok) (S:MMS φ ψ x h tt H):∃U H',qg h.length Wd (qau 1 (qas 6 c17.code)) ⟨tt,H,false⟩ = some (.nor,⟨U,H',false⟩)/\MMS φ ψ x h U H':=by
 rw [show qau 1 (qas 6 c17.code) = .seq (.seq (.reg [ao 8 (.asg (.c (.int .i64 0)))]) (.block 6 (.loop qpd))) .skip from rfl,qbx,qbx,show qg h.length Wd (.reg [ao 8 (.asg (.c (.int .i64 0)))]) ⟨tt,H,false⟩ = some (.nor,⟨up tt 8 (.int .i64 0),H,false⟩) by simp only [sB.1,seval],qaT,qcC]
 refine qfz (N:=x.rules.length) (S:=λi tt H=>MMS φ ψ x h tt H/\lkp tt 8 = .int .i64 (i:Nat)) (Q:=MMS φ ψ x h) (fun {i tt H} hi ⟨S,e8⟩=>?_) (fun {tt H} ⟨S,e8⟩=>?_) (by
  obtain ⟨ht,e2,e3,b2,b3,tk⟩:=S
  exact ⟨⟨Y0,Y2,y7,b2,b3,tk⟩,z13⟩)
 ·have hl:=ok.rules.1
  have c1:ilt (i:Int) ((x.rules.map (qc5.enc φ)).length:Int) = true:=qiZ (by rw [jQ];exact hi)
  have w2:=qo (n:=i) zo
  have hm:=List.getElem_mem hi
  obtain ⟨d,E⟩ :∃d,x.rules[i] = d:=⟨_,rfl⟩
  rw [E] at hm
  obtain ⟨hg,a8,Y⟩:=ok.rules.2 d hm
  have hx:=λf=>qb1 (k:=6) (f:=f) (enc:=qc5.enc φ) hi (congrArg (qc5.enc φ) E) (by rw [ji,Exp.cs_len];rfl)
  have hy:=λf=>qb1 (k:=6) (f:=f) (enc:=qc5.enc ψ) hi (congrArg (qc5.enc ψ) E) (by rw [ji,Exp.cs_len];rfl)
  obtain ⟨ht,e2,e3,b2,b3,tk⟩:=S
  have l2:=qc b2
  have l3:=qc b3
  simp only [qeR.row,lV] at b2 b3
  have hc:=qkC (φ:=φ) (ψ:=ψ) _ d.cond (jm _) hg.1
  have c5:=qf0 (rfl:(d.acts.map qdk.enc).length = (d.acts.map qdk.enc).length)
  obtain ⟨⟨op,n,u,v,aS⟩,acts⟩:=d
  simp only at a8 Y
  have a6:Nat.ble h.length H.length = true:=qE zo
  have a1:Nat.ble h.length (H.length + 1) = true:=qE zo
  simp only [Exp.enc,Exp.cs,jw,jW,lV] at hc hx hy
  generalize he:qg h.length Wd qpd _ = R
  simp only [sB.1,qpd,seval,ht,e2,e3,e8,b2,b3,l3,qp,c1,hx,hy,hc,a6,a1] at he
  generalize hq:qg h.length Wd (.loop qmJ) _ = r at he
  have S0:=λ(t1:List qd) (H1:List qk) (hq:qg h.length Wd (.loop qmJ) ⟨t1,H1,false⟩ = r) (s:t1.length = 259/\lkp t1 2 = .ptr h.length 0/\lkp t1 3 = .ptr (h.length + 1) 0/\lkp t1 8 = .int .i64 (i:Nat)/\lkp t1 9 = .ptr H.length 0/\lkp t1 10 = .ptr (H.length + 1) 0/\lkp t1 11 = .int .i64 (0:Nat)/\H1 = H ++ [.cells [.int .i64 op,.int .i64 n,.str u,.str v,.lst (qaE φ aS) (fl (φ op aS.length)),.lst (acts.map qdk.enc) (fl (acts.map qdk.enc).isEmpty)],.cells [.int .i64 op,.int .i64 n,.str u,.str v,.lst (qaE ψ aS) (fl (ψ op aS.length)),.lst (acts.map qdk.enc) (fl (acts.map qdk.enc).isEmpty)]])=>
   qcx (base:=h.length) (body:=qmJ) (S:=λk t1 H1=>t1.length = 259/\lkp t1 2 = .ptr h.length 0/\lkp t1 3 = .ptr (h.length + 1) 0/\lkp t1 8 = .int .i64 (i:Nat)/\lkp t1 9 = .ptr H.length 0/\lkp t1 10 = .ptr (H.length + 1) 0/\lkp t1 11 = .int .i64 (k:Nat)/\H1 = H ++ [.cells [.int .i64 op,.int .i64 n,.str u,.str v,.lst (qaE φ aS) (fl (φ op aS.length)),.lst (acts.map qdk.enc) (fl (acts.map qdk.enc).isEmpty)],.cells [.int .i64 op,.int .i64 n,.str u,.str v,.lst (qaE ψ aS) (fl (ψ op aS.length)),.lst (acts.map qdk.enc) (fl (acts.map qdk.enc).isEmpty)]]) (N:=acts.length) (fun {k t1 H1} hk ⟨ht,e2,e3,e8,e9,e10,e11,hH⟩=>by
    subst hH
    have c1:ilt (k:Int) ((acts.map qdk.enc).length:Int) = true:=qiZ (by rw [jQ];exact hk)
    have w2:=qo (n:=k) zo
    have hm:=List.getElem_mem hk
    obtain ⟨d,E⟩ :∃d,acts[k] = d:=⟨_,rfl⟩
    rw [E] at hm
    have hx:=λf=>qb1 (k:=7) (f:=f) (enc:=qdk.enc) hk (congrArg qdk.enc E) rfl
    have hc:=qBC (Y d hm)
    generalize he:qg h.length Wd qmJ _ = R
    simp only [sB.1,qmJ,seval,qj1,qiD,ht,e9,e10,e11,qp,c1,hx,w2,hc] at he
    subst he
    refine ⟨_,_,rfl,?_,?_,?_,?_,?_,?_,?_,rfl⟩
    all_goals simp only [sB.1,seval,ht,e2,e3,e8,e9,e10]) acts.length 0 (Jb _) s
  obtain ⟨t2,H2,⟨I,f2,f3,f8,f9,f10,f11,hH⟩,a7⟩:=S0 _ _ hq ⟨Y4,Y2,y7,y5,Y4,Y4,z13,rfl⟩
  subst hH
  have c1:ilt (acts.length:Int) ((acts.map qdk.enc).length:Int) = false:=qiY (by rw [jQ];exact jm _)
  rw [a7,qh] at hq
  simp only [sB.1,qmJ,seval,I,f9,f11,qp,c1] at hq
  subst hq
  simp only [sB.1,seval,I,f8,w2] at he
  subst he
  refine ⟨_,_,rfl,⟨by simp only [qe4,I],by simp only [sB.1,seval,f2],by simp only [sB.1,seval,f3],qL (by simpa only [qeR.row,lV] using b2) _,qL (by simpa only [qeR.row,lV] using b3) _,qaz tk zo _⟩,by simp only [sB.1,seval,I]⟩
 ·have c1:ilt (x.rules.length:Int) ((x.rules.map (qc5.enc φ)).length:Int) = false:=qiY (by rw [jQ];exact jm _)
  obtain ⟨ht,e2,e3,b2,b3,tk⟩:=S
  have l2:=qc b2
  have l3:=qc b3
  simp only [qeR.row,lV] at b2 b3
  generalize he:qg h.length Wd qpd _ = R
  simp only [sB.1,qpd,seval,ht,e2,e8,b2,qp,c1] at he
  subst he
  exact ⟨_,_,rfl,Y0,Y2,y7,by simpa only [qeR.row,lV] using b2,by simpa only [qeR.row,lV] using b3,tk⟩
theorem qwV (ok:x.ok) (h:List qk):Wd (.fn 17 [] []) [.agg (x.row φ),.agg (x.row ψ)] h = some (.ret (.bool true),h,false):=by
 have A0:=AtC.start (F:=17) (aS:=[.agg (x.row φ),.agg (x.row ψ)]) rfl (show T.get 17 = some c17 by kernel_rfl)
 have A1:=A0.go 3 (S':=λh tt H=>MMS φ ψ x h tt H) (λh tt H ⟨ht,hH⟩=>by
  subst ht hH
  have h1:=λb c=>qjG (b:=b) (c:=c) ok.ins.1 ok.ins.2
  have h2:=λb c=>qjG (b:=b) (c:=c) ok.outs.1 ok.outs.2
  have h3:=λb c=>qg0 (φ:=φ) (ψ:=ψ) (b:=b) (c:=c) ok.vars.1 ok.vars.2
  have h4:=qjF (φ:=φ) (ψ:=ψ) (b:=true) (c:=true) ok.ta.1 ok.ta.2
  have h5:=λb c=>qg0 (φ:=φ) (ψ:=ψ) (b:=b) (c:=c) ok.int.1 ok.int.2
  have h6:=λb c=>qg0 (φ:=φ) (ψ:=ψ) (b:=b) (c:=c) ok.ext.1 ok.ext.2
  have h7:=λb c=>qg0 (φ:=φ) (ψ:=ψ) (b:=b) (c:=c) ok.own.1 ok.own.2
  have l1:=qf0 (show (x.emits.map (qbB.enc φ)).length = (x.emits.map (qbB.enc ψ)).length by simp only [jQ])
  have l2:=qf0 (rfl:(x.parts.map qcc.enc).length = (x.parts.map qcc.enc).length)
  have l3:=qf0 (rfl:(x.links.map qb8.enc).length = (x.links.map qb8.enc).length)
  have l4:=qf0 (show (x.rules.map (qc5.enc φ)).length = (x.rules.map (qc5.enc ψ)).length by simp only [jQ])
  simp only [qkP] at h4
  generalize hx:qg H.length Wd _ _ = R
  simp only [sB.1,c17,qas,qau,seval,qeR.row,lV,qp,h1,h2,h3,h4,h5,h6,h7,l1,l4] at hx
  subst hx
  exact ⟨_,_,rfl,Y1,Y1,Y1,by simp [qeR.row,lV],by simp [qeR.row,lV],by simp⟩)
 have A2:=A1.go 1 (S':=λh tt H=>MMS φ ψ x h tt H) (λh tt H S=>qw1 ok S)
 have A3:=A2.go 1 (S':=λh tt H=>MMS φ ψ x h tt H) (λh tt H S=>qw3 ok S)
 have A4:=A3.go 1 (S':=λh tt H=>MMS φ ψ x h tt H) (λh tt H S=>qw2 ok S)
 have A5:=A4.go 1 (S':=λh tt H=>MMS φ ψ x h tt H) (λh tt H S=>qw4 ok S)
 exact A5.out 2 (λh tt H S=>by
  obtain ⟨ht,e2,e3,b2,b3,tk⟩:=S
  generalize hx:qg h.length Wd _ _ = R
  simp only [sB.1,c17,qas,qau,seval] at hx
  subst hx
  refine ⟨_,rfl,?_⟩
  simp only [sB.1,c17,seval,ht]
  exact congrArg some (qw tk rfl)) h
end
section
variable {ws:List Tok} {n:Nat} {h:List qk}
theorem qCy:X 9 = some (qf8 4000 c9):=Eq.trans rfl rfl
theorem qqz (aS:List qd) (h:List qk):Wd (.fn 9 [] []) aS h = qbS c9.results h (gW h.length Wd c9.d c9.body ⟨aS.map qd.dim ++ List.replicate (c9.ntmps - aS.length) (.tup []),h,false⟩):=by
 rw [Wd,quN qiQ qCy,qy0 zk zk]
 simp only [jW,List.append_nil]
def qCe:qd:=.agg [.lst [] .full,.str []]
theorem qtF {s:Str} {p e:Int} (he:e ≠ 0) (hs:qAD s p e) (f:qd):Wd (.fn 9 [] []) [.str s,f] h = some (.ret (.tup [qCe,.int .i64 p,.int .i64 e]),h,false):=by
 obtain ⟨w,hw⟩:=hs (h ++ [.cells [.lst [] .full,.str []],.cells [.int .i64 0],.cells [.int .i64 0]])
 have E:(e == 0) = false:=by simpa using he
 have I:=blA h 1
 rw [qqz]
 simp only [sB.1,c9,qnK,seval,qks,qws,hw,I,E]
 rfl
theorem qzE {s:Str} (hs:qqC s ws) {ms:List qd} {rt:Str} (hm:∀n,qj n ms = true) (hr:∀(h:List qk) (i:Nat),h[i]? = some (PB ws 0)->Wd (.fn 10 [] []) [.ptr i 0] h = some (.ret (.agg [.lst ms (fl ms.isEmpty),.str rt]),h.set i (PB ws n),false)):Wd (.fn 9 [] []) [.str s,.fn 10 [] []] h = some (.ret (.tup [.agg [.lst ms (fl ms.isEmpty),.str rt],.int .i64 0,.int .i64 0]),h,false):=by
 have hw:=hs (h ++ [.cells [.lst [] .full,.str []],.cells [.int .i64 0],.cells [.int .i64 0]])
 have I:=blA h 1
 have E:Nat.ble h.length (h.length + 1 + 1) = true:=qE zo
 have hp:=hr (h ++ [.cells [.lst [] .full,.str []],.cells [.int .i64 0],.cells [.int .i64 0],PB ws 0]) (h.length + 3) (by rw [jc zo];simp)
 have z0:((0:Nat):Int) = 0:=Eq.trans rfl rfl
 rw [PBi,PBi,z0] at hp
 rw [qqz]
 simp only [sB.1,c9,qnK,qrW,qrU,qva,dW,qkj,qk4,qxS,qxl,qr,seval,qks,hw,hp,I,E,qp,hm]
theorem qzD {s:Str} (hs:qqC s ws) {p err:Int} (hr:∀(h:List qk) (i:Nat),h[i]? = some (PB ws 0)->Wd (.fn 10 [] []) [.ptr i 0] h = some (.pan (qbK p err),h.set i (PB ws n),false)):Wd (.fn 9 [] []) [.str s,.fn 10 [] []] h = some (.ret (.tup [qCe,.int .i64 p,.int .i64 err]),h,false):=by
 have hw:=hs (h ++ [.cells [.lst [] .full,.str []],.cells [.int .i64 0],.cells [.int .i64 0]])
 have I:=blA h 1
 have E:Nat.ble h.length (h.length + 1 + 1) = true:=qE zo
 have hp:=hr (h ++ [.cells [.lst [] .full,.str []],.cells [.int .i64 0],.cells [.int .i64 0],PB ws 0]) (h.length + 3) (by rw [jc zo];simp)
 have z0:((0:Nat):Int) = 0:=Eq.trans rfl rfl
 rw [PBi,PBi,z0,qbK,qrP] at hp
 rw [qqz]
 simp only [sB.1,c9,qnK,qrW,qrU,qu9,dW,qkj,qk4,qxS,qxk,qr,seval,qks,hw,hp,I,E]
 rfl
theorem qm4 {s:Str} {ms:List qd} {rt:Str} {p err:Int} (hm:∀n,qj n ms = true) (hr:∀h,Wd (.fn 9 [] []) [.str s,.fn 10 [] []] h = some (.ret (.tup [.agg [.lst ms (fl ms.isEmpty),.str rt],.int .i64 p,.int .i64 err]),h,false)):Wd (.fn 5 [] []) [.str s] h = some (.ret (.tup [.agg [.lst ms (fl ms.isEmpty),.str rt],.int .i64 p,.int .i64 err]),h,false):=by
 rw [qu 5 c5]
 simp only [sB.1,c5,seval,hr,qp,hm]
end
end Go.Proofs.YtkehdpkcdnofaaaGreatDoor.AE
