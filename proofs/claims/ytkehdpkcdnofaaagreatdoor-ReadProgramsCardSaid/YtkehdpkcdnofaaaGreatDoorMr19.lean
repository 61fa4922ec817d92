/- A part of the proof. No condition. -/
import Derived.Test.YtkehdpkcdnofaaaGreatDoorMr18
set_option maxRecDepth 100000
set_option maxHeartbeats 0
open List renaming nil_append→jW,cons_append→jw,length_cons→jy,length_nil→jz
namespace Go.Proofs.YtkehdpkcdnofaaaGreatDoor.AE
open Go.AE
def qf7:List qaV->List qd
 | []=>[]
 | [a]=>a.cs
 | a :: b :: ts=>a.cs ++ qf7 (b :: ts)
def slT (id:Nat) (ts:List qaV):qd:=match ts with
 | []=>.lst [] .full
 | _=>.sl id 0 ts.length ts.length 2
abbrev zT:List qd:=[.int .i64 0,.lst [] .full]
structure TS (ws:List Tok) (k:Int) (h:List qk) (n:Int) (id:Nat) (ts:List qaV) (tt:List qd) (H:List qk):Prop where
 len:tt.length = 137
 e0:lkp tt 0 = Wv ws
 e1:lkp tt 1 = .int .i64 n
 e2:lkp tt 2 = .int .i64 k
 e6:lkp tt 6 = .ptr h.length 0
 e8:lkp tt 8 = .ptr (h.length + 1) 0
 e9:lkp tt 9 = .ptr (h.length + 2) 0
 e10:lkp tt 10 = .ptr (h.length + 3) 0
 b6:H[h.length]? = some (.cells zT)
 b8:H[h.length + 1]? = some zz
 b9:H[h.length + 2]? = some (.cells zT)
 b10:H[h.length + 3]? = some (.cells [.int .i64 3,slT id ts])
 bi:ts ≠ []->H[id]? = some (.cells (qf7 ts))/\h.length + 3 < id
 tk:H.take h.length = h
theorem qdj (t:qaV):cut t.cs 0 (some 2) = some (.agg t.cs):=by rw [qcI (by rw [qbt];decide),List.drop_zero,List.take_of_length_le (by rw [qbt];decide),qb4]
theorem qDd {A:List qk} {n:Nat} {a b c d:qk} (h:A.length = n):(A ++ [a,b,c,d])[n + 3]? = some d:=by subst h;simp
section
variable {ws:List Tok}
theorem qhV {h:List qk} {n id:Nat} {k:Int} {ts:List qaV} {tt:List qd} {H:List qk} {t:qaV} {m:Nat} (hk:KOK ws) (hw:WF ws) (U:IntKind.i64.wrap (k + 1) = k + 1) (hl:ts.length < 4) (hn:n < ws.length) (hm:m < ws.length) (aa:m + 1 < ws.length) (hr:RY ws 54 n [.int .i64 (k + 1)] (.agg t.cs) (m:Nat) 0 0) (hc:isW ws m [44] = true) (hd:ts = []->isW ws (m + 1) [41] = false) (S:TS ws k h (n:Nat) id ts tt H) :
  ∃Y H' a6,qg h.length Wd qbm ⟨tt,H,false⟩ = some (.nor,⟨Y,H',false⟩)/\TS ws k h (m + 1:Nat) a6 (ts ++ [t]) Y H':=by
 have a7:isW ws m [41] = false:=qmG hc rfl
 have w:=qo (n:=m) (by have:=hw.len;omega)
 have r1:=λh=>(qaO (n:=m) (by assumption) hk (s:=[44]) zk h).trans (by rw [hc])
 have r2:=λh=>(qaO (n:=m) (by assumption) hk (s:=[41]) zk h).trans (by rw [a7])
 have a8:ilt 1 1 = false:=Eq.trans rfl rfl
 have z4:(((0:Nat):Int) == 4) = false:=Eq.trans rfl rfl
 have n3:=blA h 3
 obtain ⟨ht,e0,e1,e2,e6,e8,e9,e10,b6,b8,b9,E,bi,tk⟩:=S
 have l6:=qc b6
 have l8:=qc b8
 have l9:=qc b9
 have l10:=qc E
 rcases ts with _ | ⟨x1,_ | ⟨x2,_ | ⟨x3,_ | ⟨x4,us⟩⟩⟩⟩
 ·replace hd:=hd rfl
  have r3:=λh=>(qaO (n:=m + 1) (by assumption) hk (s:=[41]) zk h).trans (by rw [hd])
  simp only [slT] at E
  generalize he:qg h.length Wd qbm _ = R
  simp only [sB.1,qbm,bne,seval,qdb,qaL,qaI,qbs,qaX,qa7,qaQ,qj7,qqM,qaU,qb6,qdD,qbJ,qb4,qbt,qbA,ht,e0,e1,e2,e6,e8,e9,e10,b6,b9,E,l6,l8,l9,l10,qr,z4,n3,qdj,hr,r1,r2,r3,U,w] at he
  subst he
  exact ⟨_,_,H.length + 3,rfl,Y0,Y3,Y4,Y2,v6,y5,z8,z12,qL (qf b6 zo _) _,qL (qf b8 zo _) _,qL (qf b9 zo _) _,qL (qU E _) _,λ_=>⟨qDd (by simp),zo⟩,qaz (qz tk zo _) (by simp;omega) _⟩
 ·simp only [slT] at E
  obtain ⟨bj,a1⟩:=bi (by simp)
  have lj:=qc bj
  simp only [qf7] at bj
  have dj:∀y,(H.set (h.length + 3) y)[id]? = some (.cells (x1.cs)):=λy=>qf bj zo y
  have dk:∀y,(H.set id y)[h.length + 3]? = some (.cells [.int .i64 3,.sl id 0 1 1 2]):=λy=>qf E zo y
  simp only [jy,jz] at E
  cases I:isW ws (m + 1) [41]
  all_goals
   have r3:=λh=>(qaO (n:=m + 1) (by assumption) hk (s:=[41]) zk h).trans (by rw [I])
   generalize he:qg h.length Wd qbm _ = R
   simp only [sB.1,qbm,bne,seval,qdb,qaL,qaI,qbs,qaX,qa7,qaQ,qbd,ql9,qaU,qb6,qnH,qc8,qdZ,qbJ,qb4,qbt,qbA,ht,e0,e1,e2,e6,e8,e9,e10,b6,b9,E,l6,l8,l9,l10,qr,n3,qdj,hr,r1,r2,r3,U,w,bj,lj,dk] at he
   subst he
   exact ⟨_,_,H.length + 3,rfl,Y0,Y3,Y4,Y2,v6,y5,z8,z12,qL (qf (qf b6 zo _) zo _) _,qL (qf (qf b8 zo _) zo _) _,qL (qf (qf b9 zo _) zo _) _,qL (qU (dk _) _) _,λ_=>⟨qDd (by simp),zo⟩,qaz (qz (qz tk zo _) zo _) (by simp;omega) _⟩
 ·simp only [slT] at E
  obtain ⟨bj,a1⟩:=bi (by simp)
  have lj:=qc bj
  simp only [qf7] at bj
  have dj:∀y,(H.set (h.length + 3) y)[id]? = some (.cells (x1.cs ++ x2.cs)):=λy=>qf bj zo y
  have dk:∀y,(H.set id y)[h.length + 3]? = some (.cells [.int .i64 3,.sl id 0 2 2 2]):=λy=>qf E zo y
  simp only [jy,jz] at E
  cases I:isW ws (m + 1) [41]
  all_goals
   have r3:=λh=>(qaO (n:=m + 1) (by assumption) hk (s:=[41]) zk h).trans (by rw [I])
   generalize he:qg h.length Wd qbm _ = R
   simp only [sB.1,qbm,bne,seval,qdb,qaL,qaI,qbs,qaX,qa7,qaQ,qbd,qfS,qaU,qb6,qnI,qdZ,qe3,qbJ,qb4,qbt,qbA,ht,e0,e1,e2,e6,e8,e9,e10,b6,b9,E,l6,l8,l9,l10,qr,n3,qdj,hr,r1,r2,r3,U,w,bj,lj,dk] at he
   subst he
   exact ⟨_,_,H.length + 3,rfl,Y0,Y3,Y4,Y2,v6,y5,z8,z12,qL (qf (qf b6 zo _) zo _) _,qL (qf (qf b8 zo _) zo _) _,qL (qf (qf b9 zo _) zo _) _,qL (qU (dk _) _) _,λ_=>⟨qDd (by simp),zo⟩,qaz (qz (qz tk zo _) zo _) (by simp;omega) _⟩
 ·simp only [slT] at E
  obtain ⟨bj,a1⟩:=bi (by simp)
  have lj:=qc bj
  simp only [qf7] at bj
  have dj:∀y,(H.set (h.length + 3) y)[id]? = some (.cells (x1.cs ++ (x2.cs ++ x3.cs))):=λy=>qf bj zo y
  have dk:∀y,(H.set id y)[h.length + 3]? = some (.cells [.int .i64 3,.sl id 0 3 3 2]):=λy=>qf E zo y
  simp only [jy,jz] at E
  cases I:isW ws (m + 1) [41]
  all_goals
   have r3:=λh=>(qaO (n:=m + 1) (by assumption) hk (s:=[41]) zk h).trans (by rw [I])
   generalize he:qg h.length Wd qbm _ = R
   simp only [sB.1,qbm,bne,seval,qdb,qaL,qaI,qbs,qaX,qa7,qaQ,qbd,qh3,qaU,qb6,qnJ,qe3,qlt,qbJ,qb4,qbt,qbA,ht,e0,e1,e2,e6,e8,e9,e10,b6,b9,E,l6,l8,l9,l10,qr,n3,qdj,hr,r1,r2,r3,U,w,bj,lj,dk] at he
   subst he
   exact ⟨_,_,H.length + 3,rfl,Y0,Y3,Y4,Y2,v6,y5,z8,z12,qL (qf (qf b6 zo _) zo _) _,qL (qf (qf b8 zo _) zo _) _,qL (qf (qf b9 zo _) zo _) _,qL (qU (dk _) _) _,λ_=>⟨qDd (by simp),zo⟩,qaz (qz (qz tk zo _) zo _) (by simp;omega) _⟩
 ·simp at hl
  omega
theorem qn6 {h:List qk} {n id:Nat} {k:Int} {ts:List qaV} {tt:List qd} {H:List qk} {j p e:Int} (hk:KOK ws) (hw:WF ws) (I:IntKind.i64.wrap (k + 1) = k + 1) (hl:ts.length < 4) (U:(e == 0) = false) (hr:RY ws 54 n [.int .i64 (k + 1)] (.agg zT) j p e) (S:TS ws k h (n:Nat) id ts tt H) :
  ∃s,qg h.length Wd qbm ⟨tt,H,false⟩ = some (.ret,s)/\qbS c54.results h (some (.ret,s)) = some (.ret (.tup [.agg zT,.int .i64 j,.agg [.int .i64 p,.int .i64 e]]),h,false):=by
 have z4:(((0:Nat):Int) == 4) = false:=Eq.trans rfl rfl
 obtain ⟨ht,e0,e1,e2,e6,e8,e9,e10,b6,b8,b9,E,bi,tk⟩:=S
 have l6:=qc b6
 have l8:=qc b8
 have l9:=qc b9
 have l10:=qc E
 have n1:=blA h 1
 have g8:∀y,(H.set h.length y)[h.length + 1]? = some zz:=λy=>qf b8 zo y
 have g6:∀y z,((H.set h.length y).set (h.length + 1) z)[h.length]? = some y:=λy z=>qf (qU b6 y) zo z
 rcases ts with _ | ⟨x1,_ | ⟨x2,_ | ⟨x3,_ | ⟨x4,us⟩⟩⟩⟩
 ·simp only [slT] at E
  generalize he:qg h.length Wd qbm _ = R
  simp only [sB.1,qbm,bne,seval,ht,e0,e1,e2,e6,e8,e9,e10,b6,b9,E,l6,l8,l9,z4,n1,hr,U,I,g8] at he
  subst he
  refine ⟨_,rfl,?_⟩
  simp only [sB.1,c54,seval,ht,e6,e8,l6,l8,g6]
  exact congrArg some (qw (qaz (qz (qz tk zo _) zo _) (by simp;omega) _) rfl)
 ·simp only [slT] at E
  obtain ⟨bj,Y⟩:=bi (by simp)
  have lj:=qc bj
  simp only [qf7] at bj
  simp only [jy,jz] at E
  have dj:∀y,(H.set (h.length + 3) y)[id]? = some (.cells (x1.cs)):=λy=>qf bj zo y
  have dk:∀y,(H.set id y)[h.length + 3]? = some (.cells [.int .i64 3,.sl id 0 1 1 2]):=λy=>qf E zo y
  generalize he:qg h.length Wd qbm _ = R
  simp only [sB.1,qbm,bne,seval,qbs,qc8,ht,e0,e1,e2,e6,e8,e9,e10,b6,b9,E,l6,l8,l9,n1,hr,U,I,g8] at he
  subst he
  refine ⟨_,rfl,?_⟩
  simp only [sB.1,c54,seval,ht,e6,e8,l6,l8,g6]
  exact congrArg some (qw (qaz (qz (qz tk zo _) zo _) (by simp;omega) _) rfl)
 ·simp only [slT] at E
  obtain ⟨bj,Y⟩:=bi (by simp)
  have lj:=qc bj
  simp only [qf7] at bj
  simp only [jy,jz] at E
  have dj:∀y,(H.set (h.length + 3) y)[id]? = some (.cells (x1.cs ++ x2.cs)):=λy=>qf bj zo y
  have dk:∀y,(H.set id y)[h.length + 3]? = some (.cells [.int .i64 3,.sl id 0 2 2 2]):=λy=>qf E zo y
  generalize he:qg h.length Wd qbm _ = R
  simp only [sB.1,qbm,bne,seval,qbs,qdZ,ht,e0,e1,e2,e6,e8,e9,e10,b6,b9,E,l6,l8,l9,n1,hr,U,I,g8] at he
  subst he
  refine ⟨_,rfl,?_⟩
  simp only [sB.1,c54,seval,ht,e6,e8,l6,l8,g6]
  exact congrArg some (qw (qaz (qz (qz tk zo _) zo _) (by simp;omega) _) rfl)
 ·simp only [slT] at E
  obtain ⟨bj,Y⟩:=bi (by simp)
  have lj:=qc bj
  simp only [qf7] at bj
  simp only [jy,jz] at E
  have dj:∀y,(H.set (h.length + 3) y)[id]? = some (.cells (x1.cs ++ (x2.cs ++ x3.cs))):=λy=>qf bj zo y
  have dk:∀y,(H.set id y)[h.length + 3]? = some (.cells [.int .i64 3,.sl id 0 3 3 2]):=λy=>qf E zo y
  generalize he:qg h.length Wd qbm _ = R
  simp only [sB.1,qbm,bne,seval,qbs,qe3,ht,e0,e1,e2,e6,e8,e9,e10,b6,b9,E,l6,l8,l9,n1,hr,U,I,g8] at he
  subst he
  refine ⟨_,rfl,?_⟩
  simp only [sB.1,c54,seval,ht,e6,e8,l6,l8,g6]
  exact congrArg some (qw (qaz (qz (qz tk zo _) zo _) (by simp;omega) _) rfl)
 ·simp at hl
  omega
theorem qur {h:List qk} {n id:Nat} {k:Int} {ts:List qaV} {tt:List qd} {H:List qk} {b:Bool} (hk:KOK ws) (hw:WF ws) (Y:IntKind.i64.wrap (k + 1) = k + 1) (hl:ts.length = 4) (hn:n < ws.length) (rb:∀h:List qk,Wd (.fn 85 [] []) [Wv ws,.int .i64 (n:Nat)] h = some (.ret (.bool b),h,false)) (S:TS ws k h (n:Nat) id ts tt H) :
  ∃s,qg h.length Wd qbm ⟨tt,H,false⟩ = some (.ret,s)/\qbS c54.results h (some (.ret,s)) = some (.ret (.tup [.agg zT,.int .i64 (n:Nat),.agg [.int .i64 (word ws n).pos,.int .i64 (bif b then 8 else 6)]]),h,false):=by
 have hT:=qae hn
 have I:=λh=>qdh hn (ws:=ws) h
 obtain ⟨ht,e0,e1,e2,e6,e8,e9,e10,b6,b8,b9,E,bi,tk⟩:=S
 have l6:=qc b6
 have l8:=qc b8
 have l9:=qc b9
 have l10:=qc E
 have n1:=blA h 1
 have g8:∀y,(H.set h.length y)[h.length + 1]? = some zz:=λy=>qf b8 zo y
 have g6:∀y z,((H.set h.length y).set (h.length + 1) z)[h.length]? = some y:=λy z=>qf (qU b6 y) zo z
 rcases ts with _ | ⟨x1,_ | ⟨x2,_ | ⟨x3,_ | ⟨x4,us⟩⟩⟩⟩
 ·cases hl
 ·cases hl
 ·cases hl
 ·cases hl
 ·cases us with
  | cons x us=>simp at hl
  | nil=>
   simp only [slT] at E
   obtain ⟨bj,U⟩:=bi (by simp)
   have lj:=qc bj
   simp only [qf7] at bj
   simp only [jy,jz] at E
   cases b
   all_goals
    generalize he:qg h.length Wd qbm _ = R
    simp only [sB.1,qbm,bne,seval,qbs,qlt,ht,e0,e1,e6,e8,e9,e10,b6,b9,E,qr,n1,rb,hT,I,qbk,g8] at he
    subst he
    refine ⟨_,rfl,?_⟩
    simp only [sB.1,c54,seval,ht,e6,e8,l8,g6]
    exact congrArg some (qw (qz (qz tk zo _) zo _) rfl)
theorem qhU {h:List qk} {n id:Nat} {k:Int} {ts:List qaV} {tt:List qd} {H:List qk} {t:qaV} {m:Nat} (hk:KOK ws) (hw:WF ws) (U:IntKind.i64.wrap (k + 1) = k + 1) (hl:ts.length < 4) (hn:n < ws.length) (hm:m < ws.length) (hr:RY ws 54 n [.int .i64 (k + 1)] (.agg t.cs) (m:Nat) 0 0) (hc:isW ws m [44] = false) (hd:ts ≠ []->isW ws m [41] = false) (S:TS ws k h (n:Nat) id ts tt H) :
  ∃s,qg h.length Wd qbm ⟨tt,H,false⟩ = some (.ret,s)/\qbS c54.results h (some (.ret,s)) = some (.ret (.tup [.agg zT,.int .i64 (m:Nat),.agg [.int .i64 (word ws m).pos,.int .i64 6]]),h,false):=by
 have I:=λh=>qdh hm (ws:=ws) h
 have r1:=λh=>(qaO (n:=m) (by assumption) hk (s:=[44]) zk h).trans (by rw [hc])
 have a1:ilt 1 1 = false:=Eq.trans rfl rfl
 have z4:(((0:Nat):Int) == 4) = false:=Eq.trans rfl rfl
 have n3:=blA h 3
 obtain ⟨ht,e0,e1,e2,e6,e8,e9,e10,b6,b8,b9,E,bi,tk⟩:=S
 have l6:=qc b6
 have l8:=qc b8
 have l9:=qc b9
 have l10:=qc E
 have n0:=bl0 h
 have n1:=blA h 1
 rcases ts with _ | ⟨x1,_ | ⟨x2,_ | ⟨x3,_ | ⟨x4,us⟩⟩⟩⟩
 ·simp only [slT] at E
  cases hq:isW ws m [41]
  all_goals
   have r2:=λh=>(qaO (n:=m) (by assumption) hk (s:=[41]) zk h).trans (by rw [hq])
   have d6:∀y,(H.set (h.length + 3) y)[h.length]? = some (.cells zT):=λy=>qf b6 zo _
   have d9:∀y,(H.set (h.length + 3) y)[h.length + 2]? = some (.cells zT):=λy=>qf b9 zo _
   have d8:∀y z,((H.set (h.length + 3) y).set h.length z)[h.length + 1]? = some zz:=λy z=>qf (qf b8 zo _) zo _
   have f6:∀y z u,(((H.set (h.length + 3) y).set h.length z).set (h.length + 1) u)[h.length]? = some z:=λy z u=>qf (qU (d6 y) z) zo u
   have f8:∀y z u,(((H.set (h.length + 3) y).set h.length z).set (h.length + 1) u)[h.length + 1]? = some u:=λy z u=>qU (d8 y z) u
   generalize he:qg h.length Wd qbm _ = R
   simp only [sB.1,qbm,bne,seval,qdb,qaL,qaI,qbs,qaX,qa7,qaQ,qj7,qqM,qaU,qb6,qdD,qc8,qQ,qbJ,qb4,qbt,qbA,ht,e0,e1,e2,e6,e8,e9,e10,b6,b9,E,l6,l8,l9,l10,qr,z4,a1,n3,qdj,n1,hr,r1,r2,U,I,qbk,d6,d8,d9] at he
   subst he
   refine ⟨_,rfl,?_⟩
   simp only [sB.1,c54,seval,ht,e6,e8,l6,l8,f6]
   exact congrArg some (qw (qaz (qz (qz (qz tk zo _) zo _) zo _) (by simp;omega) _) (by simp only [qd.lower,qj];rfl))
 ·simp only [slT] at E
  obtain ⟨bj,Y⟩:=bi (by simp)
  have lj:=qc bj
  simp only [qf7] at bj
  simp only [jy,jz] at E
  have dj:∀y,(H.set (h.length + 3) y)[id]? = some (.cells (x1.cs)):=λy=>qf bj zo y
  have dk:∀y,(H.set id y)[h.length + 3]? = some (.cells [.int .i64 3,.sl id 0 1 1 2]):=λy=>qf E zo y
  have hd:=hd (by simp)
  have r2:=λh=>(qaO (n:=m) (by assumption) hk (s:=[41]) zk h).trans (by rw [hd])
  have d6:∀y,((H.set id .dead).set (h.length + 3) y)[h.length]? = some (.cells zT):=λy=>qf (qf b6 zo _) zo _
  have d9:∀y,((H.set id .dead).set (h.length + 3) y)[h.length + 2]? = some (.cells zT):=λy=>qf (qf b9 zo _) zo _
  have d8:∀y z,(((H.set id .dead).set (h.length + 3) y).set h.length z)[h.length + 1]? = some zz:=λy z=>qf (qf (qf b8 zo _) zo _) zo _
  have f6:∀y z u,((((H.set id .dead).set (h.length + 3) y).set h.length z).set (h.length + 1) u)[h.length]? = some z:=λy z u=>qf (qU (d6 y) z) zo u
  have f8:∀y z u,((((H.set id .dead).set (h.length + 3) y).set h.length z).set (h.length + 1) u)[h.length + 1]? = some u:=λy z u=>qU (d8 y z) u
  generalize he:qg h.length Wd qbm _ = R
  simp only [sB.1,qbm,bne,seval,qdb,qaL,qaI,qbs,qaX,qa7,qaQ,qbd,ql9,qaU,qb6,qnH,qc8,qQ,qbJ,qb4,qbt,qbA,ht,e0,e1,e2,e6,e8,e9,e10,b6,b9,E,l6,l8,l9,l10,qr,n3,qdj,n1,hr,r1,r2,U,I,qbk,d6,d8,d9,bj,lj,dk] at he
  subst he
  refine ⟨_,rfl,?_⟩
  simp only [sB.1,c54,seval,ht,e6,e8,l6,l8,f6]
  exact congrArg some (qw (qaz (qz (qz (qz (qz tk zo _) zo _) zo _) zo _) (by simp;omega) _) (by simp only [qd.lower,qj];rfl))
 ·simp only [slT] at E
  obtain ⟨bj,Y⟩:=bi (by simp)
  have lj:=qc bj
  simp only [qf7] at bj
  simp only [jy,jz] at E
  have dj:∀y,(H.set (h.length + 3) y)[id]? = some (.cells (x1.cs ++ x2.cs)):=λy=>qf bj zo y
  have dk:∀y,(H.set id y)[h.length + 3]? = some (.cells [.int .i64 3,.sl id 0 2 2 2]):=λy=>qf E zo y
  have hd:=hd (by simp)
  have r2:=λh=>(qaO (n:=m) (by assumption) hk (s:=[41]) zk h).trans (by rw [hd])
  have d6:∀y,((H.set id .dead).set (h.length + 3) y)[h.length]? = some (.cells zT):=λy=>qf (qf b6 zo _) zo _
  have d9:∀y,((H.set id .dead).set (h.length + 3) y)[h.length + 2]? = some (.cells zT):=λy=>qf (qf b9 zo _) zo _
  have d8:∀y z,(((H.set id .dead).set (h.length + 3) y).set h.length z)[h.length + 1]? = some zz:=λy z=>qf (qf (qf b8 zo _) zo _) zo _
  have f6:∀y z u,((((H.set id .dead).set (h.length + 3) y).set h.length z).set (h.length + 1) u)[h.length]? = some z:=λy z u=>qf (qU (d6 y) z) zo u
  have f8:∀y z u,((((H.set id .dead).set (h.length + 3) y).set h.length z).set (h.length + 1) u)[h.length + 1]? = some u:=λy z u=>qU (d8 y z) u
  generalize he:qg h.length Wd qbm _ = R
  simp only [sB.1,qbm,bne,seval,qdb,qaL,qaI,qbs,qaX,qa7,qaQ,qbd,qfS,qaU,qb6,qnI,qdZ,qQ,qbJ,qb4,qbt,qbA,ht,e0,e1,e2,e6,e8,e9,e10,b6,b9,E,l6,l8,l9,l10,qr,n3,qdj,n1,hr,r1,r2,U,I,qbk,d6,d8,d9,bj,lj,dk] at he
  subst he
  refine ⟨_,rfl,?_⟩
  simp only [sB.1,c54,seval,ht,e6,e8,l6,l8,f6]
  exact congrArg some (qw (qaz (qz (qz (qz (qz tk zo _) zo _) zo _) zo _) (by simp;omega) _) (by simp only [qd.lower,qj];rfl))
 ·simp only [slT] at E
  obtain ⟨bj,Y⟩:=bi (by simp)
  have lj:=qc bj
  simp only [qf7] at bj
  simp only [jy,jz] at E
  have dj:∀y,(H.set (h.length + 3) y)[id]? = some (.cells (x1.cs ++ (x2.cs ++ x3.cs))):=λy=>qf bj zo y
  have dk:∀y,(H.set id y)[h.length + 3]? = some (.cells [.int .i64 3,.sl id 0 3 3 2]):=λy=>qf E zo y
  have hd:=hd (by simp)
  have r2:=λh=>(qaO (n:=m) (by assumption) hk (s:=[41]) zk h).trans (by rw [hd])
  have d6:∀y,((H.set id .dead).set (h.length + 3) y)[h.length]? = some (.cells zT):=λy=>qf (qf b6 zo _) zo _
  have d9:∀y,((H.set id .dead).set (h.length + 3) y)[h.length + 2]? = some (.cells zT):=λy=>qf (qf b9 zo _) zo _
  have d8:∀y z,(((H.set id .dead).set (h.length + 3) y).set h.length z)[h.length + 1]? = some zz:=λy z=>qf (qf (qf b8 zo _) zo _) zo _
  have f6:∀y z u,((((H.set id .dead).set (h.length + 3) y).set h.length z).set (h.length + 1) u)[h.length]? = some z:=λy z u=>qf (qU (d6 y) z) zo u
  have f8:∀y z u,((((H.set id .dead).set (h.length + 3) y).set h.length z).set (h.length + 1) u)[h.length + 1]? = some u:=λy z u=>qU (d8 y z) u
  generalize he:qg h.length Wd qbm _ = R
  simp only [sB.1,qbm,bne,seval,qdb,qaL,qaI,qbs,qaX,qa7,qaQ,qbd,qh3,qaU,qb6,qnJ,qe3,qQ,qbJ,qb4,qbt,qbA,ht,e0,e1,e2,e6,e8,e9,e10,b6,b9,E,l6,l8,l9,l10,qr,n3,qdj,n1,hr,r1,r2,U,I,qbk,d6,d8,d9,bj,lj,dk] at he
  subst he
  refine ⟨_,rfl,?_⟩
  simp only [sB.1,c54,seval,ht,e6,e8,l6,l8,f6]
  exact congrArg some (qw (qaz (qz (qz (qz (qz tk zo _) zo _) zo _) zo _) (by simp;omega) _) (by simp only [qd.lower,qj];rfl))
 ·simp at hl
  omega
theorem qkG {h:List qk} {n id:Nat} {k:Int} {ts:List qaV} {tt:List qd} {H:List qk} {t:qaV} {m:Nat} (hk:KOK ws) (hw:WF ws) (I:IntKind.i64.wrap (k + 1) = k + 1) (hl:ts.length < 4) (hn:n < ws.length) (hm:m < ws.length) (hr:RY ws 54 n [.int .i64 (k + 1)] (.agg t.cs) (m:Nat) 0 0) (h0:ts ≠ []) (hd:isW ws m [41] = true) (S:TS ws k h (n:Nat) id ts tt H) :
  ∃s,qg h.length Wd qbm ⟨tt,H,false⟩ = some (.ret,s)/\qbS c54.results h (some (.ret,s)) = some (.ret (.tup [.agg [.int .i64 3,.lst (qcs (ts ++ [t])) .no],.int .i64 (m + 1:Nat),.agg [.int .i64 0,.int .i64 0]]),h,false):=by
 have w:=qo (n:=m) (by have:=hw.len;omega)
 have r2:=λh=>(qaO (n:=m) (by assumption) hk (s:=[41]) zk h).trans (by rw [hd])
 have n3:=blA h 3
 obtain ⟨ht,e0,e1,e2,e6,e8,e9,e10,b6,b8,b9,E,bi,tk⟩:=S
 have l6:=qc b6
 have l8:=qc b8
 have l9:=qc b9
 have l10:=qc E
 have n1:=blA h 1
 rcases ts with _ | ⟨x1,_ | ⟨x2,_ | ⟨x3,_ | ⟨x4,us⟩⟩⟩⟩
 ·cases h0 rfl
 ·simp only [slT] at E
  obtain ⟨bj,U⟩:=bi (by simp)
  have lj:=qc bj
  simp only [qf7] at bj
  simp only [jy,jz] at E
  have dj:∀y,(H.set (h.length + 3) y)[id]? = some (.cells (x1.cs)):=λy=>qf bj zo y
  have dk:∀y,(H.set id y)[h.length + 3]? = some (.cells [.int .i64 3,.sl id 0 1 1 2]):=λy=>qf E zo y
  have d6:∀y,((H.set id .dead).set (h.length + 3) y)[h.length]? = some (.cells zT):=λy=>qf (qf b6 zo _) zo _
  have d9:∀y,((H.set id .dead).set (h.length + 3) y)[h.length + 2]? = some (.cells zT):=λy=>qf (qf b9 zo _) zo _
  have d8:∀y z,(((H.set id .dead).set (h.length + 3) y).set h.length z)[h.length + 1]? = some zz:=λy z=>qf (qf (qf b8 zo _) zo _) zo _
  have f6:∀y z u,((((H.set id .dead).set (h.length + 3) y).set h.length z).set (h.length + 1) u)[h.length]? = some z:=λy z u=>qf (qU (d6 y) z) zo u
  have f8:∀y z u,((((H.set id .dead).set (h.length + 3) y).set h.length z).set (h.length + 1) u)[h.length + 1]? = some u:=λy z u=>qU (d8 y z) u
  generalize he:qg h.length Wd qbm _ = R
  simp only [sB.1,qbm,bne,seval,qdb,qaL,qaI,qbs,qaX,qa7,qaQ,qbd,ql9,qaU,qb6,qnH,qc8,qdZ,qQ,qbJ,qb4,qbt,qbA,ht,e0,e1,e2,e6,e8,e9,e10,b6,b9,E,l6,l8,l9,l10,qr,n3,qdj,n1,hr,r2,I,w,d6,d8,bj,lj,dk] at he
  subst he
  refine ⟨_,rfl,?_⟩
  simp only [sB.1,c54,seval,ht,e6,e8,l6,l8,f6]
  exact congrArg some (qw (qaz (qz (qz (qz (qz tk zo _) zo _) zo _) zo _) (by simp;omega) _) (by simp only [qd.lower,qj,qQ];rfl))
 ·simp only [slT] at E
  obtain ⟨bj,U⟩:=bi (by simp)
  have lj:=qc bj
  simp only [qf7] at bj
  simp only [jy,jz] at E
  have dj:∀y,(H.set (h.length + 3) y)[id]? = some (.cells (x1.cs ++ x2.cs)):=λy=>qf bj zo y
  have dk:∀y,(H.set id y)[h.length + 3]? = some (.cells [.int .i64 3,.sl id 0 2 2 2]):=λy=>qf E zo y
  have d6:∀y,((H.set id .dead).set (h.length + 3) y)[h.length]? = some (.cells zT):=λy=>qf (qf b6 zo _) zo _
  have d9:∀y,((H.set id .dead).set (h.length + 3) y)[h.length + 2]? = some (.cells zT):=λy=>qf (qf b9 zo _) zo _
  have d8:∀y z,(((H.set id .dead).set (h.length + 3) y).set h.length z)[h.length + 1]? = some zz:=λy z=>qf (qf (qf b8 zo _) zo _) zo _
  have f6:∀y z u,((((H.set id .dead).set (h.length + 3) y).set h.length z).set (h.length + 1) u)[h.length]? = some z:=λy z u=>qf (qU (d6 y) z) zo u
  have f8:∀y z u,((((H.set id .dead).set (h.length + 3) y).set h.length z).set (h.length + 1) u)[h.length + 1]? = some u:=λy z u=>qU (d8 y z) u
  generalize he:qg h.length Wd qbm _ = R
  simp only [sB.1,qbm,bne,seval,qdb,qaL,qaI,qbs,qaX,qa7,qaQ,qbd,qfS,qaU,qb6,qnI,qdZ,qe3,qQ,qbJ,qb4,qbt,qbA,ht,e0,e1,e2,e6,e8,e9,e10,b6,b9,E,l6,l8,l9,l10,qr,n3,qdj,n1,hr,r2,I,w,d6,d8,bj,lj,dk] at he
  subst he
  refine ⟨_,rfl,?_⟩
  simp only [sB.1,c54,seval,ht,e6,e8,l6,l8,f6]
  exact congrArg some (qw (qaz (qz (qz (qz (qz tk zo _) zo _) zo _) zo _) (by simp;omega) _) (by simp only [qd.lower,qj,qQ];rfl))
 ·simp only [slT] at E
  obtain ⟨bj,U⟩:=bi (by simp)
  have lj:=qc bj
  simp only [qf7] at bj
  simp only [jy,jz] at E
  have dj:∀y,(H.set (h.length + 3) y)[id]? = some (.cells (x1.cs ++ (x2.cs ++ x3.cs))):=λy=>qf bj zo y
  have dk:∀y,(H.set id y)[h.length + 3]? = some (.cells [.int .i64 3,.sl id 0 3 3 2]):=λy=>qf E zo y
  have d6:∀y,((H.set id .dead).set (h.length + 3) y)[h.length]? = some (.cells zT):=λy=>qf (qf b6 zo _) zo _
  have d9:∀y,((H.set id .dead).set (h.length + 3) y)[h.length + 2]? = some (.cells zT):=λy=>qf (qf b9 zo _) zo _
  have d8:∀y z,(((H.set id .dead).set (h.length + 3) y).set h.length z)[h.length + 1]? = some zz:=λy z=>qf (qf (qf b8 zo _) zo _) zo _
  have f6:∀y z u,((((H.set id .dead).set (h.length + 3) y).set h.length z).set (h.length + 1) u)[h.length]? = some z:=λy z u=>qf (qU (d6 y) z) zo u
  have f8:∀y z u,((((H.set id .dead).set (h.length + 3) y).set h.length z).set (h.length + 1) u)[h.length + 1]? = some u:=λy z u=>qU (d8 y z) u
  generalize he:qg h.length Wd qbm _ = R
  simp only [sB.1,qbm,bne,seval,qdb,qaL,qaI,qbs,qaX,qa7,qaQ,qbd,qh3,qaU,qb6,qnJ,qe3,qlt,qQ,qbJ,qb4,qbt,qbA,ht,e0,e1,e2,e6,e8,e9,e10,b6,b9,E,l6,l8,l9,l10,qr,n3,qdj,n1,hr,r2,I,w,d6,d8,bj,lj,dk] at he
  subst he
  refine ⟨_,rfl,?_⟩
  simp only [sB.1,c54,seval,ht,e6,e8,l6,l8,f6]
  exact congrArg some (qw (qaz (qz (qz (qz (qz tk zo _) zo _) zo _) zo _) (by simp;omega) _) (by simp only [qd.lower,qj,qQ];rfl))
 ·simp at hl
  omega
theorem qCS {h:List qk} {n id:Nat} {k:Int} {ts:List qaV} {tt:List qd} {H:List qk} {t:qaV} {m:Nat} (hk:KOK ws) (hw:WF ws) (I:IntKind.i64.wrap (k + 1) = k + 1) (hn:n < ws.length) (hm:m < ws.length) (hr:RY ws 54 n [.int .i64 (k + 1)] (.agg t.cs) (m:Nat) 0 0) (Y:m + 1 < ws.length) (h0:ts = []) (hc:isW ws m [44] = true) (hd:isW ws (m + 1) [41] = true) (S:TS ws k h (n:Nat) id ts tt H) :
  ∃s,qg h.length Wd qbm ⟨tt,H,false⟩ = some (.ret,s)/\qbS c54.results h (some (.ret,s)) = some (.ret (.tup [.agg [.int .i64 3,.lst (qcs (ts ++ [t])) .no],.int .i64 (m + 1 + 1:Nat),.agg [.int .i64 0,.int .i64 0]]),h,false):=by
 have w:=qo (n:=m) (by have:=hw.len;omega)
 have w1:=qo (n:=m + 1) (by have:=hw.len;omega)
 have U:isW ws m [41] = false:=qmG hc rfl
 have r1:=λh=>(qaO (n:=m) (by assumption) hk (s:=[44]) zk h).trans (by rw [hc])
 have r2:=λh=>(qaO (n:=m) (by assumption) hk (s:=[41]) zk h).trans (by rw [U])
 have r3:=λh=>(qaO (n:=m + 1) (by assumption) hk (s:=[41]) zk h).trans (by rw [hd])
 have z4:(((0:Nat):Int) == 4) = false:=Eq.trans rfl rfl
 have n3:=blA h 3
 obtain ⟨ht,e0,e1,e2,e6,e8,e9,e10,b6,b8,b9,E,bi,tk⟩:=S
 have l6:=qc b6
 have l8:=qc b8
 have l9:=qc b9
 have l10:=qc E
 have n1:=blA h 1
 subst h0
 ·simp only [slT] at E
  have d6:∀y,(H.set (h.length + 3) y)[h.length]? = some (.cells zT):=λy=>qf b6 zo _
  have d9:∀y,(H.set (h.length + 3) y)[h.length + 2]? = some (.cells zT):=λy=>qf b9 zo _
  have d8:∀y z,((H.set (h.length + 3) y).set h.length z)[h.length + 1]? = some zz:=λy z=>qf (qf b8 zo _) zo _
  have f6:∀y z u,(((H.set (h.length + 3) y).set h.length z).set (h.length + 1) u)[h.length]? = some z:=λy z u=>qf (qU (d6 y) z) zo u
  generalize he:qg h.length Wd qbm _ = R
  simp only [sB.1,qbm,bne,seval,qdb,qaL,qaI,qbs,qaX,qa7,qaQ,qj7,qqM,qaU,qb6,qdD,qc8,qQ,qbJ,qb4,qbt,qbA,ht,e0,e1,e2,e6,e8,e9,e10,b6,b9,E,l6,l8,l9,l10,qr,z4,n3,qdj,n1,hr,r1,r2,r3,I,w,w1,d6,d8,d9] at he
  subst he
  refine ⟨_,rfl,?_⟩
  simp only [sB.1,c54,seval,ht,e6,e8,l6,l8,f6]
  exact congrArg some (qw (qaz (qz (qz (qz tk zo _) zo _) zo _) (by simp;omega) _) (by simp only [qd.lower,qj,qQ];rfl))
end
section
variable {ws:List Tok}
abbrev TE (ws:List Tok) (k:Int) (n:Nat) (ts:List qaV) (h:List qk) (tt:List qd) (H:List qk):Prop:=∃id,TS ws k h (n:Nat) id ts tt H
abbrev qp9 (ws:List Tok) (k:Int) (n:Nat):List qd:=[Wv ws,.int .i64 (n:Nat),.int .i64 k]
theorem qiO (hw:WF ws) (hk:KOK ws) {d k:Int} (hd:ilt 3 d = false) (aa:(k == 3) = false) (ha:IntKind.i64.wrap (d + 1) = d + 1) (I:IntKind.i64.wrap (k + 1) = k + 1) (ih:∀n,n < ws.length->BT ws (d + 1) (k + 1) n) {n:Nat} (hn:n < ws.length):BT ws d k n:=by
 have w:=qo (n:=n) (by have:=hw.len;omega)
 have P:=λ(h:List qk) (i:Nat)=>qu 72 c72 (first:=[]) (cap:=[]) (args:=[.ptr i 0,.int .i64 d]) (h:=h)
 have U:=λh=>blA h 2
 have A0:=AtC.start (F:=54) (aS:=qp9 ws k n) rfl (show T.get 54 = some c54 by kernel_rfl)
 have a8:=λh=>qdh hn (ws:=ws) h
 have rI:=λh=>qaO hn hk (s:=[105,110,116]) zk h
 have rB:=λh=>qaO hn hk (s:=[98,111,111,108]) zk h
 have rS:=λh=>qaO hn hk (s:=[115,121,109]) zk h
 have rP:=λh=>qaO hn hk (s:=[40]) zk h
 cases a0:isW ws n [105,110,116] with
 | true=>
  have n0:=qi hw hn a0
  exact .inl ⟨.mk 0 [],n + 1,zo,n0,by simp [qaV.sm,smT],λh i hi=>(P h i).trans (by
   have E:=qc hi
   rw [PBi] at hi
   simp only [sB.1,c72,qdq,seval,qa2,qkP,qbR,qt hw hn,a0,hi,E,PBi,qr]),A0.out 10 (λh tt H ⟨ht,hH⟩=>by
   subst ht hH
   generalize hx:qg H.length Wd _ _ = R
   simp only [sB.1,c54,qas,qau,qp9,Wv,seval,qr,rI,a0,w] at hx
   subst hx
   refine ⟨_,rfl,?_⟩
   simp only [sB.1,c54,seval,qa2,qbR,qkP])⟩
 | false=>
  cases a1:isW ws n [98,111,111,108] with
  | true=>
   have n0:=qi hw hn a1
   exact .inl ⟨.mk 1 [],n + 1,zo,n0,by simp [qaV.sm,smT],λh i hi=>(P h i).trans (by
    have E:=qc hi
    rw [PBi] at hi
    simp only [sB.1,c72,qdq,seval,qa2,qkP,qbR,qy hw hn,qt hw hn,a0,a1,hi,E,PBi,qr]),A0.out 10 (λh tt H ⟨ht,hH⟩=>by
    subst ht hH
    generalize hx:qg H.length Wd _ _ = R
    simp only [sB.1,c54,qas,qau,qp9,Wv,seval,qr,rI,rB,a0,a1,w] at hx
    subst hx
    refine ⟨_,rfl,?_⟩
    simp only [sB.1,c54,seval,qa2,qbR,qkP])⟩
  | false=>
   cases a2:isW ws n [115,121,109] with
   | true=>
    have n0:=qi hw hn a2
    exact .inl ⟨.mk 2 [],n + 1,zo,n0,by simp [qaV.sm,smT],λh i hi=>(P h i).trans (by
     have E:=qc hi
     rw [PBi] at hi
     simp only [sB.1,c72,qdq,seval,qa2,qkP,qbR,qy hw hn,qt hw hn,a0,a1,a2,hi,E,PBi,qr]),A0.out 10 (λh tt H ⟨ht,hH⟩=>by
     subst ht hH
     generalize hx:qg H.length Wd _ _ = R
     simp only [sB.1,c54,qas,qau,qp9,Wv,seval,qr,rI,rB,rS,a0,a1,a2,w] at hx
     subst hx
     refine ⟨_,rfl,?_⟩
     simp only [sB.1,c54,seval,qa2,qbR,qkP])⟩
   | false=>
    cases a3:isW ws n [40] with
    | false=>
     exact .inr ⟨_,6,n,(n:Nat),hn,qnF hn,rfl,λh i hi=>(P h i).trans (by
      have E:=qc hi
      have a7:=qcO hi
      rw [PBi] at hi
      rw [PBi] at a7
      simp only [sB.1,c72,qdq,seval,qy hw hn,a0,a1,a2,qcJ hw hn,a3,qeb hw hn,hi,E,PBi,a7,qr,qe]),A0.out 10 (λh tt H ⟨ht,hH⟩=>by
      subst ht hH
      generalize hx:qg H.length Wd _ _ = R
      simp only [sB.1,c54,qas,qau,qp9,Wv,bne,seval,qr,rI,rB,rS,rP,a0,a1,a2,a3,a8,qbk] at hx
      subst hx
      refine ⟨_,rfl,?_⟩
      simp only [sB.1,c54,seval])⟩
    | true=>
     have h3:=qi hw hn a3
     have A1:=(A0.go 9 (S':=TE ws k (n + 1) []) (λh tt H ⟨ht,hH⟩=>by
      subst ht hH
      generalize hx:qg H.length Wd _ _ = R
      simp only [sB.1,c54,qas,qau,qp9,Wv,bne,seval,qr,rI,rB,rS,rP,a0,a1,a2,a3,aa,w] at hx
      subst hx
      exact ⟨_,_,rfl,0,Y1,Y1,Y1,Y1,Y1,Y1,Y1,Y1,by simp,by simp,by simp,by simp [slT],λh=>absurd rfl h,by simp⟩)).last (body:=qbm) (id:=0) rfl
     obtain ⟨t1,m1,ae,u1,g1,p1,q1⟩ | ⟨p,e,m,j,hm,hp,he,p1,q1⟩:=ih (n + 1) h3
     ·cases b1:isW ws m1 [44] with
      | false=>
       exact .inr ⟨_,6,m1,_,u1,qnF u1,rfl,λh i hi=>(P h i).trans (by
        have E:=qc hi
        rw [PBi] at hi
        simp only [sB.1,c72,qdq,seval,qdb,qaL,qaI,qbs,qa7,qb5,qaQ,qy hw hn,a0,a1,a2,qcJ hw hn,a3,hd,ha,w,p1,qb3 hw u1,b1,hi,E,PBi,U,qr,qe]),A1.out (λh tt H ⟨id,S⟩=>qhU hk hw I (by simp) h3 u1 q1 b1 (λh=>absurd rfl h) S)⟩
      | true=>
       have v1:=qi hw u1 b1
       cases z1:isW ws (m1 + 1) [41] with
       | true=>
        have r1:=qi hw v1 z1
        exact .inl ⟨.mk 3 [t1],m1 + 1 + 1,zo,r1,by simp [qaV.sm,smT,g1],λh i hi=>(P h i).trans (by
         have E:=qc hi
         rw [PBi] at hi
         simp only [sB.1,c72,qdq,seval,qdb,qaL,qaI,qbs,qa7,qb5,qaQ,qaU,qb6,qdD,qa2,qxE,qQ,qy hw hn,a0,a1,a2,qcJ hw hn,a3,hd,ha,w,p1,qH hw u1,b1,qt hw v1,z1,hi,E,PBi,U,qr]),λh=>(A1.out (λh tt H ⟨id,S⟩=>qCS hk hw I h3 u1 q1 v1 rfl b1 z1 S) h).trans (by simp only [qa2,List.isEmpty_cons,qxE,jW])⟩
       | false=>
        have A2:=A1.step (S':=TE ws k (m1 + 1) [t1]) (λh tt H ⟨id,S⟩=>by
         obtain ⟨Y,H2,a6,x,y⟩:=qhV hk hw I (by simp) h3 u1 v1 q1 b1 (λ_=>z1) S
         exact ⟨Y,H2,x,a6,y⟩)
        obtain ⟨t2,m2,ad,u2,g2,p2,q2⟩ | ⟨p,e,m,j,hm,hp,he,p2,q2⟩:=ih (m1 + 1) v1
        ·cases b2:isW ws m2 [44] with
         | false=>
          cases z2:isW ws m2 [41] with
          | true=>
           have r2:=qi hw u2 z2
           exact .inl ⟨.mk 3 [t1,t2],m2 + 1,zo,r2,by simp [qaV.sm,smT,g1,g2],λh i hi=>(P h i).trans (by
            have E:=qc hi
            rw [PBi] at hi
            simp only [sB.1,c72,qdq,seval,qh,qdb,qaL,qdA,qaI,qbs,qaX,qa7,qb5,qaQ,qbd,qfR,qaU,qb6,qdD,qnH,qc8,qa2,qxE,qQ,qy hw hn,a0,a1,a2,qcJ hw hn,a3,hd,ha,w,p1,qH hw u1,b1,qy hw v1,z1,p2,qy hw u2,b2,qH hw u2,z2,hi,E,PBi,U,qr]),λh=>(A2.out (λh tt H ⟨id,S⟩=>qkG hk hw I (by simp) v1 u2 q2 (by simp) z2 S) h).trans (by simp only [qa2,List.isEmpty_cons,qxE,jw,jW])⟩
          | false=>
           exact .inr ⟨_,6,m2,_,u2,qnF u2,rfl,λh i hi=>(P h i).trans (by
            have E:=qc hi
            rw [PBi] at hi
            simp only [sB.1,c72,qdq,seval,qh,qdb,qaL,qdA,qaI,qbs,qaX,qa7,qb5,qaQ,qbd,qfR,qaU,qb6,qdD,qc8,qQ,qy hw hn,a0,a1,a2,qcJ hw hn,a3,hd,ha,w,p1,qH hw u1,b1,qy hw v1,z1,p2,qy hw u2,b2,qb3 hw u2,z2,hi,E,PBi,U,qr,qe]),A2.out (λh tt H ⟨id,S⟩=>qhU hk hw I (by simp) v1 u2 q2 b2 (λ_=>z2) S)⟩
         | true=>
          have v2:=qi hw u2 b2
          have A3:=A2.step (S':=TE ws k (m2 + 1) [t1,t2]) (λh tt H ⟨id,S⟩=>by
           obtain ⟨Y,H2,a6,x,y⟩:=qhV hk hw I (by simp) v1 u2 v2 q2 b2 (λh=>by cases h) S
           exact ⟨Y,H2,x,a6,y⟩)
          obtain ⟨t3,m3,ac,u3,g3,p3,q3⟩ | ⟨p,e,m,j,hm,hp,he,p3,q3⟩:=ih (m2 + 1) v2
          ·cases b3:isW ws m3 [44] with
           | false=>
            cases z3:isW ws m3 [41] with
            | true=>
             have r3:=qi hw u3 z3
             exact .inl ⟨.mk 3 [t1,t2,t3],m3 + 1,zo,r3,by simp [qaV.sm,smT,g1,g2,g3],λh i hi=>(P h i).trans (by
              have E:=qc hi
              rw [PBi] at hi
              simp only [sB.1,c72,qdq,seval,qh,qdb,qaL,qdA,qaI,qbs,qaX,qa7,qb5,qaQ,qbd,qfR,qfS,qaU,qb6,qdD,qnI,qc8,qdZ,qa2,qxE,qQ,qy hw hn,a0,a1,a2,qcJ hw hn,a3,hd,ha,w,p1,qH hw u1,b1,qy hw v1,z1,p2,qt hw u2,b2,p3,qy hw u3,b3,qH hw u3,z3,hi,E,PBi,U,qr]),λh=>(A3.out (λh tt H ⟨id,S⟩=>qkG hk hw I (by simp) v2 u3 q3 (by simp) z3 S) h).trans (by simp only [qa2,List.isEmpty_cons,qxE,jw,jW])⟩
            | false=>
             exact .inr ⟨_,6,m3,_,u3,qnF u3,rfl,λh i hi=>(P h i).trans (by
              have E:=qc hi
              rw [PBi] at hi
              simp only [sB.1,c72,qdq,seval,qh,qdb,qaL,qdA,qaI,qbs,qaX,qa7,qb5,qaQ,qbd,qfR,qfS,qaU,qb6,qdD,qc8,qdZ,qQ,qy hw hn,a0,a1,a2,qcJ hw hn,a3,hd,ha,w,p1,qH hw u1,b1,qy hw v1,z1,p2,qt hw u2,b2,p3,qy hw u3,b3,qb3 hw u3,z3,hi,E,PBi,U,qr,qe]),A3.out (λh tt H ⟨id,S⟩=>qhU hk hw I (by simp) v2 u3 q3 b3 (λ_=>z3) S)⟩
           | true=>
            have v3:=qi hw u3 b3
            have A4:=A3.step (S':=TE ws k (m3 + 1) [t1,t2,t3]) (λh tt H ⟨id,S⟩=>by
             obtain ⟨Y,H2,a6,x,y⟩:=qhV hk hw I (by simp) v2 u3 v3 q3 b3 (λh=>by cases h) S
             exact ⟨Y,H2,x,a6,y⟩)
            obtain ⟨t4,m4,ab,u4,g4,p4,q4⟩ | ⟨p,e,m,j,hm,hp,he,p4,q4⟩:=ih (m3 + 1) v3
            ·cases b4:isW ws m4 [44] with
             | false=>
              cases z4:isW ws m4 [41] with
              | true=>
               have r4:=qi hw u4 z4
               exact .inl ⟨.mk 3 [t1,t2,t3,t4],m4 + 1,zo,r4,by simp [qaV.sm,smT,g1,g2,g3,g4],λh i hi=>(P h i).trans (by
                have E:=qc hi
                rw [PBi] at hi
                simp only [sB.1,c72,qdq,seval,qh,qdb,qaL,qdA,qaI,qbs,qaX,qa7,qb5,qaQ,qbd,qfR,qfS,qh3,qaU,qb6,qdD,qnJ,qc8,qdZ,qe3,qa2,qxE,qQ,qy hw hn,a0,a1,a2,qcJ hw hn,a3,hd,ha,w,p1,qH hw u1,b1,qy hw v1,z1,p2,qt hw u2,b2,p3,qt hw u3,b3,p4,qy hw u4,b4,qH hw u4,z4,hi,E,PBi,U,qr]),λh=>(A4.out (λh tt H ⟨id,S⟩=>qkG hk hw I (by simp) v3 u4 q4 (by simp) z4 S) h).trans (by simp only [qa2,List.isEmpty_cons,qxE,jw,jW])⟩
              | false=>
               exact .inr ⟨_,6,m4,_,u4,qnF u4,rfl,λh i hi=>(P h i).trans (by
                have E:=qc hi
                rw [PBi] at hi
                simp only [sB.1,c72,qdq,seval,qh,qdb,qaL,qdA,qaI,qbs,qaX,qa7,qb5,qaQ,qbd,qfR,qfS,qh3,qaU,qb6,qdD,qc8,qdZ,qe3,qQ,qy hw hn,a0,a1,a2,qcJ hw hn,a3,hd,ha,w,p1,qH hw u1,b1,qy hw v1,z1,p2,qt hw u2,b2,p3,qt hw u3,b3,p4,qy hw u4,b4,qb3 hw u4,z4,hi,E,PBi,U,qr,qe]),A4.out (λh tt H ⟨id,S⟩=>qhU hk hw I (by simp) v3 u4 q4 b4 (λ_=>z4) S)⟩
             | true=>
              have v4:=qi hw u4 b4
              have A5:=A4.step (S':=TE ws k (m4 + 1) [t1,t2,t3,t4]) (λh tt H ⟨id,S⟩=>by
               obtain ⟨Y,H2,a6,x,y⟩:=qhV hk hw I (by simp) v3 u4 v4 q4 b4 (λh=>by cases h) S
               exact ⟨Y,H2,x,a6,y⟩)
              obtain ⟨rb,pb⟩ | ⟨rb,pb⟩:=qzg hw hk v4
              ·exact .inr ⟨_,8,m4 + 1,_,v4,⟨⟨_,v4,rfl⟩,by decide⟩,rfl,λh i hi=>(P h i).trans (by
                have E:=qc hi
                rw [PBi] at hi
                simp only [sB.1,c72,qdq,seval,qh,qdb,qaL,qdA,qaI,qbs,qaX,qa7,qb5,qaQ,qbd,qfR,qfS,qh3,qaU,qb6,qdD,qc8,qdZ,qe3,qlt,qQ,qy hw hn,a0,a1,a2,qcJ hw hn,a3,hd,ha,w,p1,qH hw u1,b1,qy hw v1,z1,p2,qt hw u2,b2,p3,qt hw u3,b3,p4,qt hw u4,b4,pb,hi,E,PBi,U,qr,qe]),A5.out (λh tt H ⟨id,S⟩=>qur hk hw I (by simp) v4 rb S)⟩
              ·exact .inr ⟨_,6,m4 + 1,_,v4,⟨⟨_,v4,rfl⟩,by decide⟩,rfl,λh i hi=>(P h i).trans (by
                have E:=qc hi
                rw [PBi] at hi
                simp only [sB.1,c72,qdq,seval,qh,qdb,qaL,qdA,qaI,qbs,qaX,qa7,qb5,qaQ,qbd,qfR,qfS,qh3,qaU,qb6,qdD,qc8,qdZ,qe3,qlt,qQ,qy hw hn,a0,a1,a2,qcJ hw hn,a3,hd,ha,w,p1,qH hw u1,b1,qy hw v1,z1,p2,qt hw u2,b2,p3,qt hw u3,b3,p4,qt hw u4,b4,pb,hi,E,PBi,U,qr,qe]),A5.out (λh tt H ⟨id,S⟩=>qur hk hw I (by simp) v4 rb S)⟩
            ·exact .inr ⟨p,e,m,j,hm,hp,he,λh i hi=>(P h i).trans (by
              have E:=qc hi
              rw [PBi] at hi
              simp only [sB.1,c72,qdq,seval,qh,qdb,qaL,qdA,qaI,qbs,qaX,qa7,qb5,qaQ,qbd,qfR,qfS,qaU,qb6,qdD,qc8,qdZ,qe3,qQ,qy hw hn,a0,a1,a2,qcJ hw hn,a3,hd,ha,w,p1,qH hw u1,b1,qy hw v1,z1,p2,qt hw u2,b2,p3,qt hw u3,b3,p4,hi,E,PBi,U,qr,qe]),A4.out (λh tt H ⟨id,S⟩=>qn6 hk hw I (by simp) he q4 S)⟩
          ·exact .inr ⟨p,e,m,j,hm,hp,he,λh i hi=>(P h i).trans (by
            have E:=qc hi
            rw [PBi] at hi
            simp only [sB.1,c72,qdq,seval,qh,qdb,qaL,qdA,qaI,qbs,qaX,qa7,qb5,qaQ,qbd,qfR,qaU,qb6,qdD,qc8,qdZ,qQ,qy hw hn,a0,a1,a2,qcJ hw hn,a3,hd,ha,w,p1,qH hw u1,b1,qy hw v1,z1,p2,qt hw u2,b2,p3,hi,E,PBi,U,qr,qe]),A3.out (λh tt H ⟨id,S⟩=>qn6 hk hw I (by simp) he q3 S)⟩
        ·exact .inr ⟨p,e,m,j,hm,hp,he,λh i hi=>(P h i).trans (by
          have E:=qc hi
          rw [PBi] at hi
          simp only [sB.1,c72,qdq,seval,qh,qdb,qaL,qaI,qbs,qa7,qb5,qaQ,qaU,qb6,qdD,qc8,qQ,qy hw hn,a0,a1,a2,qcJ hw hn,a3,hd,ha,w,p1,qH hw u1,b1,qy hw v1,z1,p2,hi,E,PBi,U,qr,qe]),A2.out (λh tt H ⟨id,S⟩=>qn6 hk hw I (by simp) he q2 S)⟩
     ·exact .inr ⟨p,e,m,j,hm,hp,he,λh i hi=>(P h i).trans (by
       have E:=qc hi
       rw [PBi] at hi
       simp only [sB.1,c72,qdq,seval,qaI,qy hw hn,a0,a1,a2,qcJ hw hn,a3,hd,ha,w,p1,hi,E,PBi,qr,qe]),A1.out (λh tt H ⟨id,S⟩=>qn6 hk hw I (by simp) he q1 S)⟩
theorem qCT (hw:WF ws) (hk:KOK ws) {n:Nat} (hn:n < ws.length):BT ws 1 0 n:=
 qiO hw hk rfl rfl rfl rfl (λ_ h=>qiO hw hk rfl rfl rfl rfl (λ_ h=>qiO hw hk rfl rfl rfl rfl (λ_ h=>qus hw hk rfl rfl h) h) h) hn
end
structure qbv where
 name:Str
 t:qaV
def qbv.enc (x:qbv):qd:=.agg (.str x.name :: x.t.cs)
theorem qgQ (d:qbv):Shp 3 d.enc:=by
 obtain ⟨nm,⟨k,ts⟩⟩:=d
 exact ⟨_,rfl,by rw [qa2];rfl,by rw [qa2];simp [qd.storable],λn=>by rw [qa2];simp [qj,qd.lower,qQ],by rw [qa2];simp only [List.map_cons,List.map_nil,qp];rfl⟩
abbrev qjQ (ws:List Tok) (n:Nat) (s:Str) (j p e:Int):Prop:=∀h:List qk,Wd (.fn 15 [] []) [Wv ws,.int .i64 (n:Nat),.lst [.str s] .full] h = some (.ret (.tup [.int .i64 j,.agg [.int .i64 p,.int .i64 e]]),h,false)
section
variable {ws:List Tok} {w:Str}
def Po (ws:List Tok) (n:Nat) (d:qbv) (k:Nat) (j p e:Int):Prop:=
 (k = 0/\∃s,RY ws 16 (n + 1) [] (.str s) j p e)\/∃n1:Nat,RY ws 16 (n + 1) [] (.str d.name) (n1:Nat) 0 0/\
 ((k = 1/\qjQ ws n1 [58] j p e)\/∃n2:Nat,qjQ ws n1 [58] (n2:Nat) 0 0/\
 ((k = 2/\RY ws 54 n2 [.int .i64 0] (.agg [.int .i64 0,.lst [] .full]) j p e)\/∃n3:Nat,RY ws 54 n2 [.int .i64 0] (.agg d.t.cs) (n3:Nat) 0 0/\qjQ ws n3 [59] j p e/\k = 3))
def qDn (ws:List Tok) (w:Str) (n:Nat) (d:qbv) (m:Nat):Prop:=isW ws n w = true/\n < m/\m < ws.length/\d.t.sm = true/\Po ws n d 3 (m:Nat) 0 0
def ErP (ws:List Tok) (n:Nat) (p e:Int):Prop:=(Flt ws p e/\(e == 0) = false)/\∃(d:qbv) (k:Nat) (j:Int),Po ws n d k j p e
theorem qCw (hw:WF ws) (hk:KOK ws) {n:Nat} (hb:isW ws n w = true) (hn:n + 1 < ws.length):qqt ws 49 3 (λn v m=>∃d,v = qbv.enc d/\qDn ws w n d m) (ErP ws) n:=by
 have P:=λ(h:List qk) (i:Nat)=>qu 49 c49 (first:=[]) (cap:=[]) (args:=[.ptr i 0]) (h:=h)
 obtain ⟨s0,n0,l0,h0,q0,k0,r0⟩ | ⟨p,e,m,j,d,hm,hp,he,k0,r0⟩:=qfa hw hn
 obtain ⟨h1,k1,r1⟩ | ⟨p,e,hm,hp,he,k1,r1⟩:=qbW hw hk [58] zk h0
 obtain ⟨⟨kk,tt⟩,n2,l2,h2,g2,k2,r2⟩ | ⟨p,e,m,j,hm,hp,he,k2,r2⟩:=qCT hw hk h1
 obtain ⟨h3,k3,r3⟩ | ⟨p,e,hm,hp,he,k3,r3⟩:=qbW hw hk [59] zk h2
 ·exact .inr ⟨_,_,zo,h3,⟨⟨s0,.mk kk tt⟩,rfl,hb,zo,h3,g2,.inr ⟨_,r0,.inr ⟨_,r1,.inr ⟨_,r2,r3,rfl⟩⟩⟩⟩,qgQ _,λh i hi=>(P h i).trans (by
   have E:=qc hi
   simp only [qa2] at k2 r2
   simp only [sB.1,c49,seval,qbv.enc,qa2,qQ,qp, *])⟩
 ·exact .inl ⟨p,e,_,⟨⟨hp,he⟩,⟨s0,.mk kk tt⟩,3,_,.inr ⟨_,r0,.inr ⟨_,r1,.inr ⟨_,r2,r3,rfl⟩⟩⟩⟩,hm,λh i hi=>(P h i).trans (by
   have E:=qc hi
   simp only [qa2] at k2 r2
   simp only [sB.1,c49,seval,qe,qQ,qp, *])⟩
 ·exact .inl ⟨p,e,_,⟨⟨hp,he⟩,⟨s0,.mk 0 []⟩,2,_,.inr ⟨_,r0,.inr ⟨_,r1,.inl ⟨rfl,r2⟩⟩⟩⟩,hm,λh i hi=>(P h i).trans (by
   have E:=qc hi
   simp only [sB.1,c49,seval,qe, *])⟩
 ·exact .inl ⟨p,e,_,⟨⟨hp,he⟩,⟨s0,.mk 0 []⟩,1,_,.inr ⟨_,r0,.inl ⟨rfl,r1⟩⟩⟩,hm,λh i hi=>(P h i).trans (by
   have E:=qc hi
   simp only [sB.1,c49,seval,qe, *])⟩
 ·exact .inl ⟨p,e,_,⟨⟨hp,he⟩,⟨d,.mk 0 []⟩,0,_,.inl ⟨rfl,_,r0⟩⟩,hm,λh i hi=>(P h i).trans (by
   have E:=qc hi
   simp only [sB.1,c49,seval,qe, *])⟩
theorem qpN (hw:WF ws) (hk:KOK ws) (w:Str) {n:Nat} (hn:n < ws.length):LB ws 48 8 8 (λi=>[.str w,.fn 49 [.ptr i 0] []]) (λm=>isW ws m w) qbv.enc (qDn ws w) (ErP ws) n:=
 qls rfl (λ_ _ _ h=>h.1) (qfy (M:=69) (B:=70) (O:=71) (k:=3) (z:=[.str [],.int .i64 0,.lst [] .full]) rfl zk rfl zk rfl zk rfl zk hw (by decide) rfl rfl (by decide) (by decide) (λm hm hs=>qCw hw hk hs (qi hw hm hs)) hn)
structure PS (ws:List Tok) (w:Str) (h:List qk) (n:Nat) (xs tt:List qd) (H:List qk):Prop where
 len:tt.length = 87
 e0:lkp tt 0 = Wv ws
 e1:lkp tt 1 = .int .i64 (n:Nat)
 e2:lkp tt 2 = .str w
 e8:lkp tt 8 = .ptr h.length 0
 e9:lkp tt 9 = .lst xs (ofl 3 xs)
 b8:H[h.length]? = some zz
 tk:H.take h.length = h
theorem qpO {h:List qk} {n m:Nat} {d:qbv} {xs tt:List qd} {H:List qk} (hk:KOK ws) (hw:WF ws) (ha:qC w = true) (h1:qDn ws w n d m) (hl:xs.length < 8) (hx:∀u ∈ xs,Shp 3 u) (S:PS ws w h n xs tt H) :
  ∃E H',qg h.length Wd qhJ ⟨tt,H,false⟩ = some (.nor,⟨E,H',false⟩)/\PS ws w h m (xs ++ [d.enc]) E H':=by
 obtain ⟨hb,a7,hm,_,(⟨h,_⟩ | ⟨n1,r0,(⟨h,_⟩ | ⟨n2,r1,(⟨h,_⟩ | ⟨n3,r2,r3,_⟩)⟩)⟩)⟩:=h1
 ·cases h
 ·cases h
 ·cases h
 have Y:n < ws.length:=zo
 have hN:=λh=>qaO (n:=n) Y hk ha h
 rw [hb] at hN
 have wn:=qo (n:=n) (by have:=hw.len;omega)
 have a1:=qiW (qgQ d) hx zo
 have c10:((xs.length:Int) == 8) = false:=qdH hl
 obtain ⟨nm,⟨kk,ts⟩⟩:=d
 obtain ⟨ht,e0,e1,e2,e8,e9,b8,tk⟩:=S
 have a6:=qc b8
 simp only [qa2,qbv.enc] at r2 a1
 have U:=qbb (z:=[.str [],.int .i64 0,.lst [] .full]) (k:=3) (a:=[.str nm,.int .i64 kk,.lst (qcs ts) (fl ts.isEmpty)]) rfl zo rfl (by simp [qd.storable]) zo
 generalize he:qg h.length Wd qhJ _ = R
 by_cases I:xs = []
 all_goals
  first
  | (subst I;rw [qgL] at e9;simp only [jz] at c10)
  | rw [qhk I] at e9
  simp only [sA.1,qhJ,seval,ht,e0,e1,e2,e8,e9,b8,hN,r0,r1,r2,r3,wn,c10,a6,qav,qp,qQ,U,a1] at he
  subst he
  exact ⟨_,_,rfl,Y0,Y3,Y4,Y2,y5,by rw [qkm];simp only [sB.1,seval,ht,qbv.enc,qa2],qL b8 _,qaz tk zo _⟩
theorem qwr {h:List qk} {n:Nat} {p e:Int} {xs tt:List qd} {H:List qk} (hk:KOK ws) (hw:WF ws) (ha:qC w = true) (hb:isW ws n w = true) (E:n < ws.length) (he:(e == 0) = false) {d:qbv} {k:Nat} {j:Int} (h1:Po ws n d k j p e) (hl:xs.length < 8) (S:PS ws w h n xs tt H) :
  ∃s,qg h.length Wd qhJ ⟨tt,H,false⟩ = some (.ret,s)/\qbS c34.results h (some (.ret,s)) = some (.ret (.tup [.lst [] .full,.int .i64 j,.agg [.int .i64 p,.int .i64 e]]),h,false):=by
 have hN:=λh=>qaO (n:=n) E hk ha h
 rw [hb] at hN
 have wn:=qo (n:=n) (by have:=hw.len;omega)
 have c10:((xs.length:Int) == 8) = false:=qdH hl
 obtain ⟨nm,⟨kk,ts⟩⟩:=d
 obtain ⟨ht,e0,e1,e2,e8,e9,b8,tk⟩:=S
 have I:=qc b8
 simp only [Po,qa2] at h1
 generalize hx:qg h.length Wd qhJ _ = R
 rcases h1 with ⟨_,s,r0⟩ | ⟨n1,r0,(⟨_,r1⟩ | ⟨n2,r1,(⟨_,r2⟩ | ⟨n3,r2,r3,_⟩)⟩)⟩
 all_goals
  simp only [sB.1,qhJ,bne,seval,qav,qac,qp,qQ, *] at hx
  subst hx
  refine ⟨_,rfl,?_⟩
  simp only [sB.1,c34,seval,ht,e8,I]
  exact congrArg some (qw (qaz (qz tk zo _) (by simp;omega) _) rfl)
theorem qtA {h:List qk} {n:Nat} {xs tt:List qd} {H:List qk} (hk:KOK ws) (ha:qC w = true) (hb:isW ws n w = true) (E:n < ws.length) (hl:xs.length = 8) (S:PS ws w h n xs tt H) :
  ∃s,qg h.length Wd qhJ ⟨tt,H,false⟩ = some (.ret,s)/\qbS c34.results h (some (.ret,s)) = some (.ret (.tup [.lst [] .full,.int .i64 (n:Nat),.agg [.int .i64 (word ws n).pos,.int .i64 8]]),h,false):=by
 have hN:=λh=>qaO (n:=n) E hk ha h
 rw [hb] at hN
 have c10:((xs.length:Int) == 8) = true:=by rw [hl];rfl
 have hT:=qae E
 obtain ⟨ht,e0,e1,e2,e8,e9,b8,tk⟩:=S
 have I:=qc b8
 generalize hx:qg h.length Wd qhJ _ = R
 simp only [sB.1,qhJ,bne,seval,ht,e0,e1,e2,e8,e9,b8,hN,hT,c10,qr,qac,qp] at hx
 subst hx
 refine ⟨_,rfl,?_⟩
 simp only [sB.1,c34,seval,ht,e8,I]
 exact congrArg some (qw (qz tk zo _) rfl)
abbrev qxU (ws:List Tok) (n:Nat) (w:Str):List qd:=[Wv ws,.int .i64 (n:Nat),.str w]
theorem qkr (hw:WF ws) (hk:KOK ws) (w:Str) (ha:qC w = true) {n:Nat} (hn:n < ws.length) :
  (∃(ds:List qbv) (m:Nat),n <= m/\m < ws.length/\(ds.length <= 8/\∀d ∈ ds,d.t.sm = true)/\(∀(h:List qk) (i:Nat),h[i]? = some (PB ws n)->Wd (.fn 48 [] []) [.ptr i 0,.int .i64 8,.str w,.fn 49 [.ptr i 0] []] h = some (.ret (lV (ds.map qbv.enc)),h.set i (PB ws m),false))/\RY ws 34 n [.str w] (lV (ds.map qbv.enc)) (m:Nat) 0 0)\/
  ∃(p e:Int) (n':Nat) (j:Int),n' < ws.length/\Flt ws p e/\(e == 0) = false/\(∀(h:List qk) (i:Nat),h[i]? = some (PB ws n)->Wd (.fn 48 [] []) [.ptr i 0,.int .i64 8,.str w,.fn 49 [.ptr i 0] []] h = some (.pan (qbK p e),h.set i (PB ws n'),false))/\RY ws 34 n [.str w] (.lst [] .full) j p e:=by
 have A0:=AtC.start (F:=34) (aS:=qxU ws n w) rfl (show T.get 34 = some c34 by kernel_rfl)
 have A1:=A0.go 2 (S':=λh tt H=>PS ws w h n [] tt H) (λh tt H ⟨ht,hH⟩=>by
  subst ht hH
  generalize hx:qg H.length Wd _ _ = R
  simp only [sB.1,c34,qas,qau,qxU,Wv,seval] at hx
  subst hx
  exact ⟨_,_,rfl,Y1,Y1,Y1,Y1,Y1,by simp only [sB.1,seval];rfl,by simp,by simp⟩)
 obtain ⟨ds,m,l1,h1,q1,c1,b1,_,w1,k1⟩ | ⟨p,e,m',ds,m,E,hp,he,hm,q1,c1,b1,x1,k1⟩:=qpN hw hk w hn
 all_goals have A2:=A1.loop (S:=λh n xs tt H=>PS ws w h n xs tt H) (body:=qhJ) (id:=0) rfl qgQ (qpO hk hw ha) c1 q1
 ·have hN:=λh=>qaO (n:=m) h1 hk ha h
  rw [show isW ws m w = false from b1] at hN
  have A3:=A2.exit (S':=λh tt H=>PS ws w h m (ds.map qbv.enc) tt H) (λh tt H S=>by
   obtain ⟨ht,e0,e1,e2,e8,e9,b8,tk⟩:=S
   generalize hx:qg h.length Wd _ _ = R
   simp only [sB.1,qhJ,seval,ht,e0,e1,e2,hN] at hx
   subst hx
   exact ⟨_,_,rfl,Y0,Y3,y11,Y2,y5,z8,b8,tk⟩)
  exact .inl ⟨ds,m,l1,h1,⟨q1,c1.all λ_ _ _ h=>h.2.2.2.1⟩,k1,A3.out 3 (λh tt H S=>by
   obtain ⟨ht,e0,e1,e2,e8,e9,b8,tk⟩:=S
   have I:=qc b8
   have wl:=λk=>qI (qad qgQ ds) k
   generalize hx:qg h.length Wd _ _ = R
   simp only [sB.1,c34,qas,qau,seval,ht,e1,e8,e9,b8,qr,qac,qB] at hx
   subst hx
   refine ⟨_,rfl,?_⟩
   simp only [sB.1,c34,seval,ht,e8,I,qp]
   exact congrArg some (qw (qz tk zo _) (by simp only [qd.lower,qj,wl];rfl)))⟩
 ·rcases x1 with ⟨q2,rfl,rfl⟩ | ⟨q2,_,d,k,j,hr⟩
  ·exact .inr ⟨_,_,m',m,E,hp,he,k1,A2.out (λh tt H S=>qtA hk ha b1 hm (by simpa using q2) S)⟩
  ·exact .inr ⟨p,e,m',j,E,hp,he,k1,A2.out (λh tt H S=>qwr hk hw ha b1 hm he hr (by simpa using q2) S)⟩
end
end Go.Proofs.YtkehdpkcdnofaaaGreatDoor.AE
