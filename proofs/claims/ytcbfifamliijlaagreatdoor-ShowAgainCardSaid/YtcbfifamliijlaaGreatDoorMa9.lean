/- A part of the proof. No condition. -/
import Derived.Test.YtcbfifamliijlaaGreatDoorMa8
import Derived.Test.YtcbfifamliijlaaGreatDoorMa2
import Derived.Test.YtcbfifamliijlaaGreatDoorMa7
open Int renaming reduceNatCast'→rN
set_option maxRecDepth 100000
set_option maxHeartbeats 0
open List renaming length_map→jQ,map_append→jW,mem_append→jH,mem_singleton→jX,length_cons→jy,length_nil→jz
open Bool renaming and_eq_true→jk
open Nat renaming le_refl→jm
namespace Go.Proofs.YtcbfifamliijlaaGreatDoor.AE
open Go.AE
section
variable {ws:List Tok} {n:Nat} {h:List qj} {i:Nat}
def qap (s:Str):Bool:=s == [105,102] || s == [110,111,116] || s == [116,114,117,101] || s == [102,97,108,115,101] || s == [101,108,97,112,115,101,100] || s == [99,111,117,110,116] || s == [104,97,115] || s == [115,117,109] || s == [108,101,97,115,116]
def qaY (ws:List Tok) (n:Nat):Bool:=(word ws n).kind == 1 || ((word ws n).kind == 2 || (qU ws n || (((word ws n).kind == 3 && ((word ws n).s == [40] || (word ws n).s == [45])) || ((word ws n).kind == 0 && qap (word ws n).s))))
theorem qll (hw:WF ws) (hn:n < ws.length) (hi:h[i]? = some (PB ws n)):Wd (.fn 223 [] []) [.ptr i 0] h = some (.pan (qbc (word ws n).pos (bif qaY ws n then 8 else 6)),h,false):=by
 have E:=qf hi
 rw [PBi] at hi
 rw [qm 223 qfN]
 have I:∀l:List qj,Wd (.fn 44 [] []) [.ptr i 0] (h ++ l) = some (.pan (qbc (word ws n).pos 6),h ++ l,false):=λl=>qcR hw hn (by rw [qcT E,hi,PBi])
 cases k1:((word ws n).kind == 1) with
 | true=>
  simp only [qfN,sT.1,sC.1,qg,qH,reduceCtorEq,Nat.reduceAdd,Nat.reduceSub,Nat.reduceLT,Nat.reduceEqDiff,qX hw hn,Tok.enc,PBi,qax,qe,qaY,qap,hi,k1]
 | false=>
  cases k2:((word ws n).kind == 2) with
  | true=>
   simp only [qfN,sT.1,sC.1,qg,qH,reduceCtorEq,Nat.reduceAdd,Nat.reduceSub,Nat.reduceLT,Nat.reduceEqDiff,qX hw hn,Tok.enc,PBi,qax,qe,qaY,qap,hi,k1,k2]
  | false=>
   cases nm:qU ws n with
   | true=>
    simp only [qfN,sT.1,sC.1,qg,qH,reduceCtorEq,Nat.reduceAdd,Nat.reduceSub,Nat.reduceLT,Nat.reduceEqDiff,qX hw hn,Tok.enc,E,PBi,qax,qT hw hn,qe,qaY,qap,hi,k1,k2,nm]
   | false=>
    cases k3:((word ws n).kind == 3) with
    | true=>
     cases p:((word ws n).s == [40]) with
     | true=>
      simp only [qfN,sT.1,sC.1,qg,qH,reduceCtorEq,Nat.reduceAdd,Nat.reduceSub,Nat.reduceLT,Nat.reduceEqDiff,qX hw hn,Tok.enc,E,PBi,qax,qT hw hn,qe,qaY,qap,hi,k1,k2,nm,k3,p]
     | false=>
      cases d:((word ws n).s == [45]) with
      | true=>
       simp only [qfN,sT.1,sC.1,qg,qH,reduceCtorEq,Nat.reduceAdd,Nat.reduceSub,Nat.reduceLT,Nat.reduceEqDiff,qX hw hn,Tok.enc,E,PBi,qax,qT hw hn,qe,qaY,qap,hi,k1,k2,nm,k3,p,d]
      | false=>
       cases k0:((word ws n).kind == 0) with
       | true=>
        cases b0:((word ws n).s == [105,102]) with
        | true=>
         simp only [qfN,sT.1,sC.1,qg,qH,reduceCtorEq,Nat.reduceAdd,Nat.reduceSub,Nat.reduceLT,Nat.reduceEqDiff,qX hw hn,Tok.enc,E,PBi,qax,qT hw hn,qe,qaY,qap,hi,k1,k2,nm,k3,p,d,k0,b0]
        | false=>
         cases b1:((word ws n).s == [110,111,116]) with
         | true=>
          simp only [qfN,sT.1,sC.1,qg,qH,reduceCtorEq,Nat.reduceAdd,Nat.reduceSub,Nat.reduceLT,Nat.reduceEqDiff,qX hw hn,Tok.enc,E,PBi,qax,qT hw hn,qe,qaY,qap,hi,k1,k2,nm,k3,p,d,k0,b0,b1]
         | false=>
          cases b2:((word ws n).s == [116,114,117,101]) with
          | true=>
           simp only [qfN,sT.1,sC.1,qg,qH,reduceCtorEq,Nat.reduceAdd,Nat.reduceSub,Nat.reduceLT,Nat.reduceEqDiff,qX hw hn,Tok.enc,E,PBi,qax,qT hw hn,qe,qaY,qap,hi,k1,k2,nm,k3,p,d,k0,b0,b1,b2]
          | false=>
           cases b3:((word ws n).s == [102,97,108,115,101]) with
           | true=>
            simp only [qfN,sT.1,sC.1,qg,qH,reduceCtorEq,Nat.reduceAdd,Nat.reduceSub,Nat.reduceLT,Nat.reduceEqDiff,qX hw hn,Tok.enc,E,PBi,qax,qT hw hn,qe,qaY,qap,hi,k1,k2,nm,k3,p,d,k0,b0,b1,b2,b3]
           | false=>
            cases b4:((word ws n).s == [101,108,97,112,115,101,100]) with
            | true=>
             simp only [qfN,sT.1,sC.1,qg,qH,reduceCtorEq,Nat.reduceAdd,Nat.reduceSub,Nat.reduceLT,Nat.reduceEqDiff,qX hw hn,Tok.enc,E,PBi,qax,qT hw hn,qe,qaY,qap,hi,k1,k2,nm,k3,p,d,k0,b0,b1,b2,b3,b4]
            | false=>
             cases b5:((word ws n).s == [99,111,117,110,116]) with
             | true=>
              simp only [qfN,sT.1,sC.1,qg,qH,reduceCtorEq,Nat.reduceAdd,Nat.reduceSub,Nat.reduceLT,Nat.reduceEqDiff,qX hw hn,Tok.enc,E,PBi,qax,qT hw hn,qe,qaY,qap,hi,k1,k2,nm,k3,p,d,k0,b0,b1,b2,b3,b4,b5]
             | false=>
              cases b6:((word ws n).s == [104,97,115]) with
              | true=>
               simp only [qfN,sT.1,sC.1,qg,qH,reduceCtorEq,Nat.reduceAdd,Nat.reduceSub,Nat.reduceLT,Nat.reduceEqDiff,qX hw hn,Tok.enc,E,PBi,qax,qT hw hn,qe,qaY,qap,hi,k1,k2,nm,k3,p,d,k0,b0,b1,b2,b3,b4,b5,b6]
              | false=>
               cases b7:((word ws n).s == [115,117,109]) with
               | true=>
                simp only [qfN,sT.1,sC.1,qg,qH,reduceCtorEq,Nat.reduceAdd,Nat.reduceSub,Nat.reduceLT,Nat.reduceEqDiff,qX hw hn,Tok.enc,E,PBi,qax,qT hw hn,qe,qaY,qap,hi,k1,k2,nm,k3,p,d,k0,b0,b1,b2,b3,b4,b5,b6,b7]
               | false=>
                cases b8:((word ws n).s == [108,101,97,115,116]) with
                | true=>
                 simp only [qfN,sT.1,sC.1,qg,qH,reduceCtorEq,Nat.reduceAdd,Nat.reduceSub,Nat.reduceLT,Nat.reduceEqDiff,qX hw hn,Tok.enc,E,PBi,qax,qT hw hn,qe,qaY,qap,hi,k1,k2,nm,k3,p,d,k0,b0,b1,b2,b3,b4,b5,b6,b7,b8]
                | false=>
                 simp only [qfN,sT.1,sC.1,qg,qH,reduceCtorEq,Nat.reduceAdd,Nat.reduceSub,Nat.reduceLT,Nat.reduceEqDiff,qX hw hn,Tok.enc,E,PBi,qax,qT hw hn,qcR hw hn,qe,qaY,qap,hi,k1,k2,nm,k3,p,d,k0,b0,b1,b2,b3,b4,b5,b6,b7,b8]
       | false=>
        simp only [qfN,sT.1,sC.1,qg,qH,reduceCtorEq,Nat.reduceAdd,Nat.reduceSub,Nat.reduceLT,Nat.reduceEqDiff,qX hw hn,Tok.enc,E,PBi,qax,qT hw hn,qcR hw hn,qe,qaY,qap,hi,k1,k2,nm,k3,p,d,k0]
    | false=>
     cases k0:((word ws n).kind == 0) with
     | true=>
      cases b0:((word ws n).s == [105,102]) with
      | true=>
       simp only [qfN,sT.1,sC.1,qg,qH,reduceCtorEq,Nat.reduceAdd,Nat.reduceSub,Nat.reduceLT,Nat.reduceEqDiff,qX hw hn,Tok.enc,E,PBi,qax,qT hw hn,qe,qaY,qap,hi,k1,k2,nm,k3,k0,b0]
      | false=>
       cases b1:((word ws n).s == [110,111,116]) with
       | true=>
        simp only [qfN,sT.1,sC.1,qg,qH,reduceCtorEq,Nat.reduceAdd,Nat.reduceSub,Nat.reduceLT,Nat.reduceEqDiff,qX hw hn,Tok.enc,E,PBi,qax,qT hw hn,qe,qaY,qap,hi,k1,k2,nm,k3,k0,b0,b1]
       | false=>
        cases b2:((word ws n).s == [116,114,117,101]) with
        | true=>
         simp only [qfN,sT.1,sC.1,qg,qH,reduceCtorEq,Nat.reduceAdd,Nat.reduceSub,Nat.reduceLT,Nat.reduceEqDiff,qX hw hn,Tok.enc,E,PBi,qax,qT hw hn,qe,qaY,qap,hi,k1,k2,nm,k3,k0,b0,b1,b2]
        | false=>
         cases b3:((word ws n).s == [102,97,108,115,101]) with
         | true=>
          simp only [qfN,sT.1,sC.1,qg,qH,reduceCtorEq,Nat.reduceAdd,Nat.reduceSub,Nat.reduceLT,Nat.reduceEqDiff,qX hw hn,Tok.enc,E,PBi,qax,qT hw hn,qe,qaY,qap,hi,k1,k2,nm,k3,k0,b0,b1,b2,b3]
         | false=>
          cases b4:((word ws n).s == [101,108,97,112,115,101,100]) with
          | true=>
           simp only [qfN,sT.1,sC.1,qg,qH,reduceCtorEq,Nat.reduceAdd,Nat.reduceSub,Nat.reduceLT,Nat.reduceEqDiff,qX hw hn,Tok.enc,E,PBi,qax,qT hw hn,qe,qaY,qap,hi,k1,k2,nm,k3,k0,b0,b1,b2,b3,b4]
          | false=>
           cases b5:((word ws n).s == [99,111,117,110,116]) with
           | true=>
            simp only [qfN,sT.1,sC.1,qg,qH,reduceCtorEq,Nat.reduceAdd,Nat.reduceSub,Nat.reduceLT,Nat.reduceEqDiff,qX hw hn,Tok.enc,E,PBi,qax,qT hw hn,qe,qaY,qap,hi,k1,k2,nm,k3,k0,b0,b1,b2,b3,b4,b5]
           | false=>
            cases b6:((word ws n).s == [104,97,115]) with
            | true=>
             simp only [qfN,sT.1,sC.1,qg,qH,reduceCtorEq,Nat.reduceAdd,Nat.reduceSub,Nat.reduceLT,Nat.reduceEqDiff,qX hw hn,Tok.enc,E,PBi,qax,qT hw hn,qe,qaY,qap,hi,k1,k2,nm,k3,k0,b0,b1,b2,b3,b4,b5,b6]
            | false=>
             cases b7:((word ws n).s == [115,117,109]) with
             | true=>
              simp only [qfN,sT.1,sC.1,qg,qH,reduceCtorEq,Nat.reduceAdd,Nat.reduceSub,Nat.reduceLT,Nat.reduceEqDiff,qX hw hn,Tok.enc,E,PBi,qax,qT hw hn,qe,qaY,qap,hi,k1,k2,nm,k3,k0,b0,b1,b2,b3,b4,b5,b6,b7]
             | false=>
              cases b8:((word ws n).s == [108,101,97,115,116]) with
              | true=>
               simp only [qfN,sT.1,sC.1,qg,qH,reduceCtorEq,Nat.reduceAdd,Nat.reduceSub,Nat.reduceLT,Nat.reduceEqDiff,qX hw hn,Tok.enc,E,PBi,qax,qT hw hn,qe,qaY,qap,hi,k1,k2,nm,k3,k0,b0,b1,b2,b3,b4,b5,b6,b7,b8]
              | false=>
               simp only [qfN,sT.1,sC.1,qg,qH,reduceCtorEq,Nat.reduceAdd,Nat.reduceSub,Nat.reduceLT,Nat.reduceEqDiff,qX hw hn,Tok.enc,E,PBi,qax,qT hw hn,qcR hw hn,qe,qaY,qap,hi,k1,k2,nm,k3,k0,b0,b1,b2,b3,b4,b5,b6,b7,b8]
     | false=>
      simp only [qfN,sT.1,sC.1,qg,qH,reduceCtorEq,Nat.reduceAdd,Nat.reduceSub,Nat.reduceLT,Nat.reduceEqDiff,qX hw hn,Tok.enc,E,PBi,qax,qT hw hn,qcR hw hn,qe,qaY,qap,hi,k1,k2,nm,k3,k0]
theorem qr7 (hw:WF ws) (hn:n < ws.length) (hi:h[i]? = some (PB ws n)) (hk:(word ws n).kind = 4):Wd (.fn 49 [] []) [.ptr i 0] h = some (.ret (.tup []),h,false):=by
 have k4:((word ws n).kind == 4) = true:=by simpa using hk
 rw [qm 49 c49]
 simp only [c49,sT.1,sC.1,qg,reduceCtorEq,Nat.reduceAdd,Nat.reduceSub,Nat.reduceLT,qX hw hn hi,Tok.enc,k4]
theorem qC2 (hw:WF ws) (hn:n < ws.length) (hi:h[i]? = some (PB ws n)) (hk:(word ws n).kind ≠ 4):Wd (.fn 49 [] []) [.ptr i 0] h = some (.pan (qbc (word ws n).pos 6),h,false):=by
 have k4:((word ws n).kind == 4) = false:=by simpa using hk
 rw [qm 49 c49]
 simp only [c49,sT.1,sC.1,qg,reduceCtorEq,Nat.reduceAdd,Nat.reduceSub,Nat.reduceLT,qX hw hn hi,Tok.enc,k4,qcR hw hn hi,qe]
end
inductive qdl (ws:List Tok) (sub:Nat->Out->Prop) (pos:Int):List Exp->Nat->Out->Prop
 | many {args m}:args.length = 4->qdl ws sub pos args m (.no (word ws m).pos (bif qaY ws m then 8 else 6) m)
 | bad {args m p err k}:args.length < 4->sub m (.no p err k)->qdl ws sub pos args m (.no p err k)
 | next {args m y m1 o}:args.length < 4->sub m (.ok y m1)->isW ws m1 [44] = true->qdl ws sub pos (args ++ [y]) (m1 + 1) o->qdl ws sub pos args m o
 | unshut {args m y m1}:args.length < 4->sub m (.ok y m1)->isW ws m1 [44] = false->isW ws m1 [41] = false->qdl ws sub pos args m (.no (word ws m1).pos 6 m1)
 | deep {args m y m1}:args.length < 4->sub m (.ok y m1)->isW ws m1 [44] = false->isW ws m1 [41] = true->¬ (Exp.mk 6 0 [] [] (args ++ [y])).depth <= 20->qdl ws sub pos args m (.no pos 7 (m1 + 1))
 | shut {args m y m1}:args.length < 4->sub m (.ok y m1)->isW ws m1 [44] = false->isW ws m1 [41] = true->(Exp.mk 6 0 [] [] (args ++ [y])).depth <= 20->qdl ws sub pos args m (.ok (.mk 6 0 [] [] (args ++ [y])) (m1 + 1))
section
variable {ws:List Tok} {h:List qj}
theorem qjJ (parts:List Nd) (y:Nd) (hl:parts.length <= 1000):qdx 7 (parts.map Nd.enc) [y.enc] = true:=by
 simp only [qdx,jk,decide_eq_true_eq]
 refine ⟨⟨?_,?_⟩,?_⟩
 ·simp only [jQ,jy,jz,qk];omega
 ·simp [Nd.cellsE,Nd.len]
  simpa using y.stor
 ·cases parts with
  | nil=>rfl
  | cons x xs=>simp [Nd.cellsE,Nd.len]
structure qiF (h:List qj) (i:Nat) (ws:List Tok) (n:Nat) (H:List qj):Prop where
 lt:i < h.length
 len:h.length < H.length
 par:H[i]? = some (PB ws n)
 res:H[h.length]? = some qvq
 old:H.take h.length = h.set i (PB ws n)
theorem qiF.next {i n n':Nat} {H:List qj} (hl:qiF h i ws n H):qiF h i ws n' (H.set i (PB ws n')):=by
 have h1:=hl.lt
 have h2:=hl.len
 refine ⟨hl.lt,by simpa using h2,qeA zo,?_,?_⟩
 ·rw [qcd zo,hl.res]
 ·rw [List.take_set,hl.old,qgo]
def qff (parts:List Nd):qgV:=bif parts.length == 1 then .full else .own 7
theorem qiY {parts:List Nd} {y:Nd} (h:1 <= parts.length):qff (parts ++ [y]) = .own 7:=by
 have:((parts ++ [y]).length == 1) = false:=by simp only [List.length_append,jy,jz,beq_eq_false_iff_ne];omega
 rw [qff,this]
 rfl
def qzs (h:List qj) (i:Nat) (ws:List Tok) (pos:Int) (r:Option (Ex×St)) (o:Out):Prop:=
 (∃p err n,o = .no p err n/\n < ws.length/\∃tt H,r = some (.pan (qbc p err),⟨tt,H,false⟩)/\H.take h.length = h.set i (PB ws n))\/
 (∃(parts:List Nd) (n:Nat) (tt H:List _),r = some (.exit 0,⟨tt,H,false⟩)/\n < ws.length/\tt.length = 44/\lkp tt 0 = .ptr i 0/\lkp tt 2 = .ptr h.length 0/\lkp tt 3 = .int .i64 pos/\lkp tt 5 = .lst (parts.map Nd.enc) (.own 7)/\qiF h i ws n H/\parts.length <= 4/\(∀x ∈ parts,x.e.depth <= 20)/\
  ((isW ws n [41] = false/\o = .no (word ws n).pos 6 n)\/(isW ws n [41] = true/\¬ (Exp.mk 6 0 [] [] (parts.map Nd.e)).depth <= 20/\o = .no pos 7 (n + 1))\/(isW ws n [41] = true/\(Exp.mk 6 0 [] [] (parts.map Nd.e)).depth <= 20/\o = .ok (.mk 6 0 [] [] (parts.map Nd.e)) (n + 1))))
theorem qkM (hw:WF ws) (i:Nat) (pos:Int) (args:List Exp) (n:Nat) (o:Out) (hT:qdl ws (qag 65 ws) pos args n o):∀(parts:List Nd) (tt:List qd) (H:List qj),parts.map Nd.e = args->1 <= parts.length->(∀x ∈ parts,x.e.depth <= 20)->n < ws.length->tt.length = 44->lkp tt 0 = .ptr i 0->lkp tt 2 = .ptr h.length 0->lkp tt 3 = .int .i64 pos->lkp tt 5 = .lst (parts.map Nd.enc) (qff parts)->qiF h i ws n H->
  qzs h i ws pos (qv h.length Wd (.loop qbl) ⟨tt,H,false⟩) o:=by
 induction hT with
 | @many args m hl=>
  intro parts tt H hp h1 a7 hn ht e0 e2 e3 e5 hL
  have a1:i < H.length:=by have:=hL.lt;have:=hL.len;omega
  have E:=hL.par
  rw [PBi] at E
  have a8:parts.length = 4:=by rw [<-hl,<-hp,jQ]
  have aa:qff parts = .own 7:=by simp [qff,a8]
  rw [aa] at e5
  have h4:(((parts.map Nd.enc).length:Int) == 4) = true:=by simp [a8]
  rw [qn]
  generalize he:qv h.length Wd qbl _ = r
  simp only [qbl,sT.1,sC.1,qg,seval,-rN,ht,e0,e5,h4,qll hw hn,E,PBi] at he
  subst he
  exact .inl ⟨_,_,_,rfl,hn,_,_,rfl,hL.old⟩
 | @bad args m p err k hl hx=>
  intro parts tt H hp h1 a7 hn ht e0 e2 e3 e5 hL
  have a1:i < H.length:=by have:=hL.lt;have:=hL.len;omega
  have E:=hL.par
  rw [PBi] at E
  have a8:parts.length < 4:=by rw [<-hp,jQ] at hl;exact hl
  have h4:(((parts.map Nd.enc).length:Int) == 4) = false:=by simp;omega
  obtain ⟨x1,x2⟩:=hx
  have ab:∀f:qgV,(qd.lst (parts.map Nd.enc) f).dim.dim = (qd.lst (parts.map Nd.enc) f).dim:=λf=>qkV _
  cases hf:(parts.length == 1) with
  | true=>
   simp only [qff,hf,cond_true] at e5
   rw [qn]
   generalize he:qv h.length Wd qbl _ = r
   simp only [qbl,sT.1,sC.1,sTA.1,sCA.1,qg,qd4,qd5,Src.isTmp,qbW,Src.hangs,qB.isT,bne,seval,-rN,ht,e0,e5,h4,E,PBi,x2] at he
   subst he
   exact .inl ⟨_,_,_,rfl,x1,_,_,rfl,hL.next.old⟩
  | false=>
   simp only [qff,hf,cond_false] at e5
   rw [qn]
   generalize he:qv h.length Wd qbl _ = r
   simp only [qbl,sT.1,sC.1,sTA.1,sCA.1,qg,qd4,qd5,Src.isTmp,qbW,Src.hangs,qB.isT,bne,seval,-rN,ht,e0,e5,h4,E,PBi,x2] at he
   subst he
   exact .inl ⟨_,_,_,rfl,x1,_,_,rfl,hL.next.old⟩
 | @next args m y m1 o hl hx hc hT ih=>
  intro parts tt H hp h1 a7 hn ht e0 e2 e3 e5 hL
  have a1:i < H.length:=by have:=hL.lt;have:=hL.len;omega
  have E:=hL.par
  rw [PBi] at E
  have a8:parts.length < 4:=by rw [<-hp,jQ] at hl;exact hl
  have h4:(((parts.map Nd.enc).length:Int) == 4) = false:=by simp;omega
  obtain ⟨x1,x2,x3,x4⟩:=hx
  have a6:qdx 7 (parts.map Nd.enc) [(⟨y,(word ws m).pos⟩ :Nd).enc] = true:=qjJ _ _ zo
  have Y:∀x ∈ parts ++ [(⟨y,(word ws m).pos⟩ :Nd)],x.e.depth <= 20:=by
   intro x hx
   rcases jH.1 hx with hx | hx
   ·exact a7 x hx
   ·rw [jX.1 hx];exact x3
  have I:(parts ++ [(⟨y,(word ws m).pos⟩ :Nd)]).map Nd.e = args ++ [y]:=by rw [jW,hp];rfl
  cases hf:(parts.length == 1) with
  | true=>
   simp only [qff,hf,cond_true] at e5
   rw [qn]
   generalize he:qv h.length Wd qbl _ = r
   simp only [qbl,sT.1,sC.1,sTA.1,sCA.1,qg,qd4,qd5,Src.isTmp,qbW,Src.hangs,qB.isT,qeP,bne,seval,-rN,ht,e0,e5,h4,E,PBi,a1,Nd.dimE,qb4,a6,x4,qo hw x2,hc] at he
   subst he
   refine ih (parts ++ [⟨y,(word ws m).pos⟩]) _ _ I (by simp) Y (ql hw x2 hc) Y1 Y2 Y3 Y4 ?_ hL.next
   simp only [sT.1,sC.1,seval,-rN,ht,jW,qiY h1]
  | false=>
   simp only [qff,hf,cond_false] at e5
   rw [qn]
   generalize he:qv h.length Wd qbl _ = r
   simp only [qbl,sT.1,sC.1,sTA.1,sCA.1,qg,qd4,qd5,Src.isTmp,qbW,Src.hangs,qB.isT,qeP,bne,seval,-rN,ht,e0,e5,h4,E,PBi,a1,Nd.dimE,qb4,a6,x4,qo hw x2,hc] at he
   subst he
   refine ih (parts ++ [⟨y,(word ws m).pos⟩]) _ _ I (by simp) Y (ql hw x2 hc) Y1 Y2 Y3 Y4 ?_ hL.next
   simp only [sT.1,sC.1,seval,-rN,ht,jW,qiY h1]
 | @unshut args m y m1 hl hx hc hs=>
  intro parts tt H hp h1 a7 hn ht e0 e2 e3 e5 hL
  have a1:i < H.length:=by have:=hL.lt;have:=hL.len;omega
  have E:=hL.par
  rw [PBi] at E
  have a8:parts.length < 4:=by rw [<-hp,jQ] at hl;exact hl
  have h4:(((parts.map Nd.enc).length:Int) == 4) = false:=by simp;omega
  obtain ⟨x1,x2,x3,x4⟩:=hx
  have a6:qdx 7 (parts.map Nd.enc) [(⟨y,(word ws m).pos⟩ :Nd).enc] = true:=qjJ _ _ zo
  have Y:∀x ∈ parts ++ [(⟨y,(word ws m).pos⟩ :Nd)],x.e.depth <= 20:=by
   intro x hx
   rcases jH.1 hx with hx | hx
   ·exact a7 x hx
   ·rw [jX.1 hx];exact x3
  have I:(parts ++ [(⟨y,(word ws m).pos⟩ :Nd)]).map Nd.e = args ++ [y]:=by rw [jW,hp];rfl
  cases hf:(parts.length == 1) with
  | true=>
   simp only [qff,hf,cond_true] at e5
   rw [qn]
   generalize he:qv h.length Wd qbl _ = r
   simp only [qbl,sT.1,sC.1,sTA.1,sCA.1,qg,qd4,qd5,Src.isTmp,qbW,Src.hangs,qB.isT,qeP,bne,seval,-rN,ht,e0,e5,h4,E,PBi,a1,Nd.dimE,qb4,a6,x4,qu hw x2,hc] at he
   subst he
   refine .inr ⟨parts ++ [⟨y,(word ws m).pos⟩],m1,_,_,rfl,x2,Y1,Y2,Y3,Y4,?_,hL.next,by simp;omega,Y,?_⟩
   ·simp only [sT.1,sC.1,seval,-rN,ht,jW]
   ·rw [I];exact .inl ⟨hs,rfl⟩
  | false=>
   simp only [qff,hf,cond_false] at e5
   rw [qn]
   generalize he:qv h.length Wd qbl _ = r
   simp only [qbl,sT.1,sC.1,sTA.1,sCA.1,qg,qd4,qd5,Src.isTmp,qbW,Src.hangs,qB.isT,qeP,bne,seval,-rN,ht,e0,e5,h4,E,PBi,a1,Nd.dimE,qb4,a6,x4,qu hw x2,hc] at he
   subst he
   refine .inr ⟨parts ++ [⟨y,(word ws m).pos⟩],m1,_,_,rfl,x2,Y1,Y2,Y3,Y4,?_,hL.next,by simp;omega,Y,?_⟩
   ·simp only [sT.1,sC.1,seval,-rN,ht,jW]
   ·rw [I];exact .inl ⟨hs,rfl⟩
 | @deep args m y m1 hl hx hc hs hd=>
  intro parts tt H hp h1 a7 hn ht e0 e2 e3 e5 hL
  have a1:i < H.length:=by have:=hL.lt;have:=hL.len;omega
  have E:=hL.par
  rw [PBi] at E
  have a8:parts.length < 4:=by rw [<-hp,jQ] at hl;exact hl
  have h4:(((parts.map Nd.enc).length:Int) == 4) = false:=by simp;omega
  obtain ⟨x1,x2,x3,x4⟩:=hx
  have a6:qdx 7 (parts.map Nd.enc) [(⟨y,(word ws m).pos⟩ :Nd).enc] = true:=qjJ _ _ zo
  have Y:∀x ∈ parts ++ [(⟨y,(word ws m).pos⟩ :Nd)],x.e.depth <= 20:=by
   intro x hx
   rcases jH.1 hx with hx | hx
   ·exact a7 x hx
   ·rw [jX.1 hx];exact x3
  have I:(parts ++ [(⟨y,(word ws m).pos⟩ :Nd)]).map Nd.e = args ++ [y]:=by rw [jW,hp];rfl
  cases hf:(parts.length == 1) with
  | true=>
   simp only [qff,hf,cond_true] at e5
   rw [qn]
   generalize he:qv h.length Wd qbl _ = r
   simp only [qbl,sT.1,sC.1,sTA.1,sCA.1,qg,qd4,qd5,Src.isTmp,qbW,Src.hangs,qB.isT,qeP,bne,seval,-rN,ht,e0,e5,h4,E,PBi,a1,Nd.dimE,qb4,a6,x4,qu hw x2,hc] at he
   subst he
   refine .inr ⟨parts ++ [⟨y,(word ws m).pos⟩],m1,_,_,rfl,x2,Y1,Y2,Y3,Y4,?_,hL.next,by simp;omega,Y,?_⟩
   ·simp only [sT.1,sC.1,seval,-rN,ht,jW]
   ·rw [I];exact .inr (.inl ⟨hs,hd,rfl⟩)
  | false=>
   simp only [qff,hf,cond_false] at e5
   rw [qn]
   generalize he:qv h.length Wd qbl _ = r
   simp only [qbl,sT.1,sC.1,sTA.1,sCA.1,qg,qd4,qd5,Src.isTmp,qbW,Src.hangs,qB.isT,qeP,bne,seval,-rN,ht,e0,e5,h4,E,PBi,a1,Nd.dimE,qb4,a6,x4,qu hw x2,hc] at he
   subst he
   refine .inr ⟨parts ++ [⟨y,(word ws m).pos⟩],m1,_,_,rfl,x2,Y1,Y2,Y3,Y4,?_,hL.next,by simp;omega,Y,?_⟩
   ·simp only [sT.1,sC.1,seval,-rN,ht,jW]
   ·rw [I];exact .inr (.inl ⟨hs,hd,rfl⟩)
 | @shut args m y m1 hl hx hc hs hd=>
  intro parts tt H hp h1 a7 hn ht e0 e2 e3 e5 hL
  have a1:i < H.length:=by have:=hL.lt;have:=hL.len;omega
  have E:=hL.par
  rw [PBi] at E
  have a8:parts.length < 4:=by rw [<-hp,jQ] at hl;exact hl
  have h4:(((parts.map Nd.enc).length:Int) == 4) = false:=by simp;omega
  obtain ⟨x1,x2,x3,x4⟩:=hx
  have a6:qdx 7 (parts.map Nd.enc) [(⟨y,(word ws m).pos⟩ :Nd).enc] = true:=qjJ _ _ zo
  have Y:∀x ∈ parts ++ [(⟨y,(word ws m).pos⟩ :Nd)],x.e.depth <= 20:=by
   intro x hx
   rcases jH.1 hx with hx | hx
   ·exact a7 x hx
   ·rw [jX.1 hx];exact x3
  have I:(parts ++ [(⟨y,(word ws m).pos⟩ :Nd)]).map Nd.e = args ++ [y]:=by rw [jW,hp];rfl
  cases hf:(parts.length == 1) with
  | true=>
   simp only [qff,hf,cond_true] at e5
   rw [qn]
   generalize he:qv h.length Wd qbl _ = r
   simp only [qbl,sT.1,sC.1,sTA.1,sCA.1,qg,qd4,qd5,Src.isTmp,qbW,Src.hangs,qB.isT,qeP,bne,seval,-rN,ht,e0,e5,h4,E,PBi,a1,Nd.dimE,qb4,a6,x4,qu hw x2,hc] at he
   subst he
   refine .inr ⟨parts ++ [⟨y,(word ws m).pos⟩],m1,_,_,rfl,x2,Y1,Y2,Y3,Y4,?_,hL.next,by simp;omega,Y,?_⟩
   ·simp only [sT.1,sC.1,seval,-rN,ht,jW]
   ·rw [I];exact .inr (.inr ⟨hs,hd,rfl⟩)
  | false=>
   simp only [qff,hf,cond_false] at e5
   rw [qn]
   generalize he:qv h.length Wd qbl _ = r
   simp only [qbl,sT.1,sC.1,sTA.1,sCA.1,qg,qd4,qd5,Src.isTmp,qbW,Src.hangs,qB.isT,qeP,bne,seval,-rN,ht,e0,e5,h4,E,PBi,a1,Nd.dimE,qb4,a6,x4,qu hw x2,hc] at he
   subst he
   refine .inr ⟨parts ++ [⟨y,(word ws m).pos⟩],m1,_,_,rfl,x2,Y1,Y2,Y3,Y4,?_,hL.next,by simp;omega,Y,?_⟩
   ·simp only [sT.1,sC.1,seval,-rN,ht,jW]
   ·rw [I];exact .inr (.inr ⟨hs,hd,rfl⟩)
end
section
variable {ws:List Tok} {n:Nat}
theorem qD3 {h:List qj} (p:qd) (pos op k:Int) (name sub:Str) (parts:List Nd) (hp:parts.length <= 4) (hd:∀x ∈ parts,x.e.depth <= 20):Wd (.fn 101 [] []) [p,.int .i64 pos,.agg [.int .i64 op,.int .i64 k,.str name,.str sub,.lst [] .full],.lst (parts.map Nd.enc) .no] h =
  if (Exp.mk op k name sub (parts.map Nd.e)).depth <= 20 then some (.ret (Nd.enc ⟨.mk op k name sub (parts.map Nd.e),pos⟩),h,false) else some (.pan (qbc pos 7),h,false):=
 qid (h:=h) p pos op k name sub parts false hp hd
theorem br1 (hw:WF ws) (hn:n < ws.length) (hs:isW ws n [40] = true) {p err:Int} {m:Nat} (h1:qag 65 ws (n + 1) (.no p err m)):qag 221 ws n (.no p err m):=by
 obtain ⟨x1,x2⟩:=h1
 refine ⟨x1,λh i hi=>?_⟩
 have E:=qf hi
 rw [PBi] at hi
 rw [qm 221 qnt]
 simp only [qnt,sT.1,sC.1,qg,seval,-rN,qaE hw hn,qE hw hn,hs,hi,E,PBi,x2,qe]
theorem br2 (hw:WF ws) (hn:n < ws.length) (hs:isW ws n [40] = true) {x:Exp} {n1:Nat} (h1:qag 65 ws (n + 1) (.ok x n1)) (h2:isW ws n1 [41] = true):qag 221 ws n (.ok x (n1 + 1)):=by
 obtain ⟨x1,x2,x3,x4⟩:=h1
 refine ⟨zo,ql hw x2 h2,x3,λh i hi=>?_⟩
 have E:=qf hi
 rw [PBi] at hi
 rw [qm 221 qnt]
 have s6:List.take 6 (⟨x,(word ws (n + 1)).pos⟩ :Nd).cs ++ [qd.int .i64 (word ws n).pos] = (⟨x,(word ws n).pos⟩ :Nd).cs:=by
  obtain ⟨op,k,name,sub,args⟩:=x
  exact Eq.trans rfl rfl
 simp only [qnt,sT.1,sC.1,qg,seval,-rN,qaE hw hn,qE hw hn,hs,hi,E,PBi,x4,qo hw x2,h2,qN,Nd.dimE,Nd.cellsE,Nd.cutE,Nd.dims,Nd.len,Nd.stor,Nd.lower,Nd.drainE,Nd.drop7,s6]
theorem br3 (hw:WF ws) (hn:n < ws.length) (hs:isW ws n [40] = true) {x:Exp} {n1:Nat} (h1:qag 65 ws (n + 1) (.ok x n1)) (h2:isW ws n1 [41] = false) (h3:isW ws n1 [44] = false):qag 221 ws n (.no (word ws n1).pos 6 n1):=by
 obtain ⟨x1,x2,x3,x4⟩:=h1
 refine ⟨x2,λh i hi=>?_⟩
 have E:=qf hi
 rw [PBi] at hi
 rw [qm 221 qnt]
 simp only [qnt,sT.1,sC.1,qg,seval,-rN,qaE hw hn,qE hw hn,hs,hi,E,PBi,x4,qu hw x2,h2,qb5 hw x2,h3,qN,Nd.dimE,Nd.cellsE,Nd.dims,Nd.len,Nd.stor,Nd.drainE,Nd.drop7,qe]
theorem br4 (hw:WF ws) (hn:n < ws.length) (hs:isW ws n [40] = true) {x:Exp} {n1:Nat} (h1:qag 65 ws (n + 1) (.ok x n1)) (h2:isW ws n1 [41] = false) (h3:isW ws n1 [44] = true) (h4:isW ws (n1 + 1) [41] = true) (hd:(Exp.mk 6 0 [] [] [x]).depth <= 20):qag 221 ws n (.ok (.mk 6 0 [] [] [x]) (n1 + 1 + 1)):=by
 obtain ⟨x1,x2,x3,x4⟩:=h1
 have n2:=ql hw x2 h3
 refine ⟨zo,ql hw n2 h4,hd,λh i hi=>?_⟩
 have E:=qf hi
 rw [PBi] at hi
 rw [qm 221 qnt]
 simp only [qnt,sT.1,sC.1,qg,seval,-rN,qaE hw hn,qE hw hn,hs,hi,E,PBi,x4,x3,qu hw x2,h2,qE hw x2,h3,qo hw n2,h4,qN,Nd.dimE,Nd.cellsE,Nd.cutE,Nd.dims,Nd.len,Nd.stor,Nd.lower,Nd.drainE,Nd.drop7,qb4,qz,qiP,hd]
theorem br5 (hw:WF ws) (hn:n < ws.length) (hs:isW ws n [40] = true) {x:Exp} {n1:Nat} (h1:qag 65 ws (n + 1) (.ok x n1)) (h2:isW ws n1 [41] = false) (h3:isW ws n1 [44] = true) (h4:isW ws (n1 + 1) [41] = true) (hd:¬ (Exp.mk 6 0 [] [] [x]).depth <= 20):qag 221 ws n (.no (word ws n).pos 7 (n1 + 1 + 1)):=by
 obtain ⟨x1,x2,x3,x4⟩:=h1
 have n2:=ql hw x2 h3
 refine ⟨ql hw n2 h4,λh i hi=>?_⟩
 have E:=qf hi
 rw [PBi] at hi
 rw [qm 221 qnt]
 simp only [qnt,sT.1,sC.1,qg,seval,-rN,qaE hw hn,qE hw hn,hs,hi,E,PBi,x4,x3,qu hw x2,h2,qE hw x2,h3,qo hw n2,h4,qN,Nd.dimE,Nd.cellsE,Nd.cutE,Nd.dims,Nd.len,Nd.stor,Nd.drainE,Nd.drop7,qb4,qz,qiP,hd,qe]
theorem qdl.mono {pos:Int} {args:List Exp} {m:Nat} {o:Out} (h:qdl ws (qag 65 ws) pos args m o):∀e' n',o = .ok e' n'->m < n':=by
 induction h with
 | many _=>intro e' n' h;cases h
 | bad _ _=>intro e' n' h;cases h
 | next _ h1 _ _ ih=>intro e' n' h;have:=ih e' n' h;have:=h1.1;omega
 | unshut _ _ _ _=>intro e' n' h;cases h
 | deep _ _ _ _ _=>intro e' n' h;cases h
 | shut _ h1 _ _ _=>intro e' n' h;cases h;have:=h1.1;omega
theorem qiF.start {i n:Nat} {h:List qj} {x:Nd} (hi:i < h.length):qiF h i ws n (h.set i (PB ws n) ++ [qvq,NB x]):=by
 refine ⟨hi,by simp,?_,?_,?_⟩
 ·rw [qcT (by simpa using hi),qeA hi]
 ·rw [qcy (by simp)];rfl
 ·rw [List.take_append_of_le_length (by simp),List.take_of_length_le (by simp)]
theorem qiF.answer {i n:Nat} {h:List qj} {x:Nd} {H:List qj} (hl:qiF h i ws n H):leave h.length (.ret x.enc) (H.set h.length (NB x)) false = (.ret x.enc,h.set i (PB ws n),false):=
 qbm (by rw [List.take_set_of_le zo,hl.old]) (x.lower _)
def qmb:qF:=.seq (.reg [ao 39 (.mov (.t 0)),ao 40 (.mov (.t 3)),ao 41 (.build [(.int .i64 0),(.int .i64 0),(.str []),(.str []),(.lst [] .full)] [(0,1,(.c (.int .i64 6)))]),ao 42 (.mov (.t 5)),ao 43 (.call (.c (.fn 101 [] [])) [(.t 39),(.t 40),(.t 41),(.t 42)]),an (.st (some 7) (.t 2) (.t 43))]) .ret
def qhJ:qF:=.reg [ao 37 (.mov (.t 0)),ao 38 (.call (.c (.fn 47 [] [])) [(.t 37),(.c (.str [41]))])]
theorem qns (hw:WF ws) {h:List qj} {i:Nat} {pos:Int} {r:Option (Ex×St)} {o:Out} (hL:qzs h i ws pos r o):match (motive:=Out->Prop) o with
  | .ok e n=>n < ws.length/\e.depth <= 20/\qfO [.cell 2 (some 7)] h (qb8 (qv h.length Wd qmb) (qb8 (qv h.length Wd qhJ) (qc8 0 r))) = some (.ret (Nd.enc ⟨e,pos⟩),h.set i (PB ws n),false)
  | .no p err n=>n < ws.length/\qfO [.cell 2 (some 7)] h (qb8 (qv h.length Wd qmb) (qb8 (qv h.length Wd qhJ) (qc8 0 r))) = some (.pan (qbc p err),h.set i (PB ws n),false):=by
 obtain ⟨p,err,n,rfl,hn,tt,H,rfl,q⟩ | ⟨parts,n,tt,H,rfl,hn,ht,e0,e2,e3,e5,hl,hp,hd,hc⟩:=hL
 ·refine ⟨hn,?_⟩
  simp only [sT.1,seval,-rN]
  exact congrArg some (qa4 q (qe _ _ _))
 ·have I:=hl.par
  have a1:=hl.len
  have Y:=(hl.next (n':=n + 1)).res
  rw [qjC] at Y
  obtain ⟨hs,rfl⟩ | ⟨hs,E,rfl⟩ | ⟨hs,E,rfl⟩:=hc
  ·refine ⟨hn,?_⟩
   simp only [qmb,qhJ,sT.1,sC.1,qg,seval,-rN,ht,e0,qb5 hw hn I hs]
   exact congrArg some (qa4 hl.old (qe _ _ _))
  ·refine ⟨ql hw hn hs,?_⟩
   simp only [qmb,qhJ,sT.1,sC.1,qg,seval,-rN,ht,e0,e3,e5,qE hw hn I hs,qz,qD3 _ _ _ _ _ _ parts hp hd,E]
   exact congrArg some (qa4 hl.next.old (qe _ _ _))
  ·refine ⟨ql hw hn hs,E,?_⟩
   simp only [qmb,qhJ,sT.1,sC.1,qg,seval,-rN,ht,e0,e2,e3,e5,qE hw hn I hs,qz,qD3 _ _ _ _ _ _ parts hp hd,E,Y,a1,Nd.dimE,Nd.cellsE,Nd.cutE,Nd.dims,Nd.len,Nd.stor,Nd.drainE]
   exact congrArg some hl.next.answer
theorem br6 (hw:WF ws) (hn:n < ws.length) (hs:isW ws n [40] = true) {x:Exp} {n1:Nat} (h1:qag 65 ws (n + 1) (.ok x n1)) (h2:isW ws n1 [41] = false) (h3:isW ws n1 [44] = true) (h4:isW ws (n1 + 1) [41] = false) {o:Out} (hT:qdl ws (qag 65 ws) (word ws n).pos [x] (n1 + 1) o):qag 221 ws n o:=by
 obtain ⟨x1,x2,x3,x4⟩:=h1
 have n2:=ql hw x2 h3
 have E:=hT.mono
 have run:∀(h:List qj) (i:Nat),h[i]? = some (PB ws n)->∃r,qzs h i ws (word ws n).pos r o/\Wd (.fn 221 [] []) [.ptr i 0] h = qfO [.cell 2 (some 7)] h (qb8 (qv h.length Wd qmb) (qb8 (qv h.length Wd qhJ) (qc8 0 r))):=by
  intro h i hi
  have I:=qf hi
  rw [PBi] at hi
  generalize hr:Wd (.fn 221 [] []) [.ptr i 0] h = R
  rw [qm 221 qnt] at hr
  simp only [qnt,sT.1,sC.1,qg,seval,-rN,qaE hw hn,qE hw hn,hs,hi,I,PBi,x4,qu hw x2,h2,qE hw x2,h3,qu hw n2,h4,qN,Nd.dimE,Nd.cellsE,Nd.cutE,Nd.dims,Nd.len,Nd.stor,Nd.drainE,Nd.drop7,qb4] at hr
  generalize hq:qv h.length Wd (.loop qbl) _ = r at hr
  refine ⟨r,?_,?_⟩
  ·rw [<-hq]
   refine qkM hw i _ [x] _ o hT [⟨x,(word ws (n + 1)).pos⟩] _ _ (Eq.trans rfl rfl) (jm _) (by simpa using x3) n2 Y0 Y0 Y0 Y0 ?_ (qiF.start I)
   simp only [sT.1,sC.1,seval,-rN,qff]
  ·rw [<-hr]
   simp only [qmb,qhJ,ao,an]
 cases o with
 | ok e' n'=>
  obtain ⟨r,q1,q2⟩:=run (List.replicate 1 (PB ws n)) 0 rfl
  have f0:=qns hw q1
  refine ⟨by have:=E _ _ rfl;omega,f0.1,f0.2.1,λh i hi=>?_⟩
  obtain ⟨r,q1,q2⟩:=run h i hi
  have f1:=qns hw q1
  exact q2.trans f1.2.2
 | no pos err n'=>
  obtain ⟨r,q1,q2⟩:=run (List.replicate 1 (PB ws n)) 0 rfl
  have f0:=qns hw q1
  refine ⟨f0.1,λh i hi=>?_⟩
  obtain ⟨r,q1,q2⟩:=run h i hi
  have f1:=qns hw q1
  exact q2.trans f1.2
end
section
variable {ws:List Tok} {n:Nat} {h:List qj} {i:Nat}
theorem Exp.lower (φ:Int->Nat->Bool) (e:Exp) (n:Nat):(e.enc φ).lower n = true:=by
 simp [Exp.enc,qd.lower,qnu]
theorem Exp.dimE (φ:Int->Nat->Bool) (e:Exp):(e.enc φ).dim = e.enc φ:=Eq.trans rfl rfl
theorem Exp.cellsE (φ:Int->Nat->Bool) (e:Exp):(e.enc φ).cells = e.cs φ:=Eq.trans rfl rfl
theorem Exp.drainE (φ:Int->Nat->Bool) (e:Exp) (j:Nat) (t:List qd):qbL (e.enc φ) j t = t:=rfl
theorem Exp.dims (φ:Int->Nat->Bool) (e:Exp):(e.cs φ).map qd.dim = e.cs φ:=by
 obtain ⟨op,k,name,sub,args⟩:=e
 simp [Exp.cs,qd.dim,fl]
 cases φ op args.length <;> rfl
theorem Exp.cut (φ:Int->Nat->Bool) (e:Exp):cut (e.cs φ) 0 (some 5) = some (e.enc φ):=by
 rw [qeX (by rw [Exp.cs_len];omega),List.drop_zero,List.take_of_length_le (by rw [Exp.cs_len];omega),Exp.dims]
 rfl
theorem Exp.stor (φ:Int->Nat->Bool) (e:Exp):(e.cs φ).all qd.storable = true:=qrx φ e
def qkB (s:Str) (ws:List Tok):Prop:=∀h,Wd (.fn 40 [] []) [.str s] h = some (.ret (.tup [.lst (ws.map Tok.enc) .no,.int .i64 0,.int .i64 0]),h,false)
def qyF (s:Str) (p e:Int):Prop:=∀h,∃w,Wd (.fn 40 [] []) [.str s] h = some (.ret (.tup [w,.int .i64 p,.int .i64 e]),h,false)
end
section
variable {ws:List Tok}
theorem qDp {n:Nat} {s:Str} (h:isW ws n s = true) (s':Str):isW ws n s' = (s == s'):=by
 simp only [isW,jk,beq_iff_eq] at h
 simp only [isW,h.1,h.2,Bool.true_and]
def qlM:List (Str×Nat×Int):=[([111,114],1,24),([97,110,100],2,23),([61],4,20),([60],4,21),([60,61],4,22),([43],5,15),([45],5,16),([42],6,17),([47],6,18),([37],6,19)]
def qjq (is:Str->Bool):List (Str×Nat×Int)->Nat×Int
 | []=>(0,0)
 | x :: xs=>bif is x.1 then x.2 else qjq is xs
def qbG (ws:List Tok) (n:Nat):Nat×Int:=qjq (isW ws n) qlM
theorem qgM (is:Str->Bool):∀xs,qjq is xs = (0,0)\/∃x ∈ xs,is x.1 = true/\qjq is xs = x.2
 | []=>.inl rfl
 | x :: xs=>by
  rw [qjq]
  cases h:is x.1 with
  | true=>exact .inr ⟨x,by simp,h,rfl⟩
  | false=>
   rcases qgM is xs with h2 | ⟨y,h2,h3,h4⟩
   ·exact .inl h2
   ·exact .inr ⟨y,by simp [h2],h3,h4⟩
theorem qBt (n:Nat):(qbG ws n).1 <= 6:=by
 rcases qgM (isW ws n) qlM with h | ⟨x,h1,_,h3⟩
 ·rw [qbG,h];omega
 ·rw [qbG,h3]
  have:qlM.all (λx=>decide (x.2.1 <= 6)) = true:=zk
  simpa using List.all_eq_true.1 this x h1
theorem qeM (hw:WF ws) {n:Nat} (hn:n < ws.length) (h:(qbG ws n).1 ≠ 0):n + 1 < ws.length:=by
 rcases qgM (isW ws n) qlM with h0 | ⟨x,h1,h2,h3⟩
 ·rw [qbG,h0] at h;exact absurd rfl h
 ·exact ql hw hn h2
theorem qil {n:Nat} {s:Str} (h:isW ws n s = true):qbG ws n = qjq (s == ·) qlM:=by
 rw [qbG,show isW ws n = (s == ·) from funext (qDp h)]
inductive qhe (ws:List Tok) (cl:Nat->Nat->Out->Prop) (pos:Int) (least:Nat):Nat->Exp->Nat->Out->Prop
 | stop {most e n}:(qbG ws n).1 = 0\/(qbG ws n).1 < least\/most < (qbG ws n).1->qhe ws cl pos least most e n (.ok e n)
 | bad {most e n p err m}:(qbG ws n).1 ≠ 0->least <= (qbG ws n).1->(qbG ws n).1 <= most->cl (n + 1) ((qbG ws n).1 + 1) (.no p err m)->qhe ws cl pos least most e n (.no p err m)
 | deep {most e n x n1}:(qbG ws n).1 ≠ 0->least <= (qbG ws n).1->(qbG ws n).1 <= most->cl (n + 1) ((qbG ws n).1 + 1) (.ok x n1)->¬ (Exp.mk (qbG ws n).2 0 [] [] [e,x]).depth <= 20->qhe ws cl pos least most e n (.no pos 7 n1)
 | go {most e n x n1 o}:(qbG ws n).1 ≠ 0->least <= (qbG ws n).1->(qbG ws n).1 <= most->cl (n + 1) ((qbG ws n).1 + 1) (.ok x n1)->(Exp.mk (qbG ws n).2 0 [] [] [e,x]).depth <= 20->qhe ws cl pos least (if (qbG ws n).1 = 4 then 2 else (qbG ws n).1) (.mk (qbG ws n).2 0 [] [] [e,x]) n1 o->qhe ws cl pos least most e n o
variable {cl:Nat->Nat->Out->Prop} {pos:Int}
theorem qhe.comp0 {lo hi:Nat} (I:lo <= hi) (h4:hi ≠ 4) {most:Nat} {e:Exp} {n:Nat} {o':Out} (h:qhe ws cl pos hi most e n o'):∀e1 n1 o,o' = .ok e1 n1->hi - 1 <= most->1 <= hi->qhe ws cl pos lo (hi - 1) e1 n1 o->qhe ws cl pos lo most e n o:=by
 induction h with
 | @stop most e n hs=>
  intro e1 n1 o ho hm h1 h2
  cases ho
  cases h2 with
  | stop E=>exact .stop zo
  | bad a b c d=>exact .bad a b zo d
  | deep a b c d f=>exact .deep a b zo d f
  | go a b c d f g=>exact .go a b zo d f g
 | bad _ _ _ _=>intro e1 n1 o ho;cases ho
 | deep _ _ _ _ _=>intro e1 n1 o ho;cases ho
 | go a b c d f _ ih=>
  intro e1 n1 o ho hm h1 h2
  refine .go a zo c d f (ih e1 n1 o ho ?_ h1 h2)
  split <;> omega
theorem qhe.comp {lo hi most:Nat} (E:lo <= hi) (h4:hi ≠ 4) (h1:1 <= hi) (hm:hi - 1 <= most) {e:Exp} {n:Nat} {e1:Exp} {n1:Nat} (h:qhe ws cl pos hi most e n (.ok e1 n1)) {o:Out} (h2:qhe ws cl pos lo (hi - 1) e1 n1 o):qhe ws cl pos lo most e n o:=
 h.comp0 E h4 e1 n1 o rfl hm h1 h2
theorem qhe.no0 {lo hi:Nat} (E:lo <= hi) {most:Nat} {e:Exp} {n:Nat} {o:Out} (h:qhe ws cl pos hi most e n o):∀p err m,o = .no p err m->qhe ws cl pos lo most e n o:=by
 induction h with
 | stop _=>intro p err m ho;cases ho
 | bad a b c d=>intro p err m ho;exact .bad a zo c d
 | deep a b c d f=>intro p err m ho;exact .deep a zo c d f
 | go a b c d f _ ih=>intro p err m ho;exact .go a zo c d f (ih p err m ho)
theorem qhe.no {lo hi most:Nat} (E:lo <= hi) {e:Exp} {n:Nat} {p err:Int} {m:Nat} (h:qhe ws cl pos hi most e n (.no p err m)):qhe ws cl pos lo most e n (.no p err m):=h.no0 E p err m rfl
theorem qdw.more {op:Nat->Option Int} {sub:Nat->Out->Prop} {L:Nat} (h1:L ≠ 0) (h4:L ≠ 4) (hop:∀n k,op n = some k->qbG ws n = (L,k)) (I:∀n,op n = none->(qbG ws n).1 ≠ L) (E:∀n o,sub n o->cl n (L + 1) o)
  {e:Exp} {n:Nat} {o:Out} (h:qdw op sub pos e n o):qhe ws cl pos L L e n o:=by
 induction h with
 | @stop e n hs=>exact .stop (by have:=I n hs;omega)
 | @bad e n k p err m hs hx=>
  have r:=hop n k hs
  refine .bad ?_ ?_ ?_ ?_
  ·rw [r];exact h1
  ·rw [r];exact jm _
  ·rw [r];exact jm _
  ·rw [r];exact E _ _ hx
 | @deep e n k x n1 hs hx hd=>
  have r:=hop n k hs
  refine .deep (x:=x) ?_ ?_ ?_ ?_ ?_
  ·rw [r];exact h1
  ·rw [r];exact jm _
  ·rw [r];exact jm _
  ·rw [r];exact E _ _ hx
  ·rw [r];exact hd
 | @go e n k x n1 o hs hx hd _ ih=>
  have r:=hop n k hs
  refine .go (x:=x) (n1:=n1) ?_ ?_ ?_ ?_ ?_ ?_
  ·rw [r];exact h1
  ·rw [r];exact jm _
  ·rw [r];exact jm _
  ·rw [r];exact E _ _ hx
  ·rw [r];exact hd
  ·rw [r]
   simp only
   rw [if_neg h4]
   exact ih
theorem qmZ (n:Nat) (k:Int) (h:qct ws n = some k):qbG ws n = (6,k):=by
 rcases qc2 h with ⟨a,rfl⟩ | ⟨_,a,rfl⟩ | ⟨_,_,a,rfl⟩ <;> (rw [qil a];rfl)
theorem qqo (n:Nat) (k:Int) (h:qdH ws n = some k):qbG ws n = (5,k):=by
 rcases qdI h with ⟨a,rfl⟩ | ⟨_,a,rfl⟩ <;> (rw [qil a];rfl)
theorem qm8 (n:Nat) (k:Int) (h:qcv ws n = some k):qbG ws n = (4,k):=by
 rcases qc3 h with ⟨a,rfl⟩ | ⟨_,a,rfl⟩ | ⟨_,_,a,rfl⟩ <;> (rw [qil a];rfl)
theorem qoA (n:Nat) (k:Int) (h:qhG ws n = some k):qbG ws n = (2,k):=by
 obtain ⟨a,rfl⟩:=qiV h
 rw [qil a];rfl
theorem qt0 (n:Nat) (k:Int) (h:qtZ ws n = some k):qbG ws n = (1,k):=by
 obtain ⟨a,rfl⟩:=qlx h
 rw [qil a];rfl
inductive HN (ws:List Tok) (neg:Nat->Out->Prop) (cl:Nat->Nat->Out->Prop) (L n:Nat):Out->Prop
 | bad {p err m}:neg n (.no p err m)->HN ws neg cl L n (.no p err m)
 | go {e n1 o}:neg n (.ok e n1)->qhe ws cl (word ws n).pos L 6 e n1 o->HN ws neg cl L n o
inductive HT (ws:List Tok) (cl:Nat->Nat->Out->Prop) (L n:Nat):Out->Prop
 | bad {p err m}:cl (n + 1) 3 (.no p err m)->HT ws cl L n (.no p err m)
 | deep {x n1}:cl (n + 1) 3 (.ok x n1)->¬ (Exp.mk 14 0 [] [] [x]).depth <= 20->HT ws cl L n (.no (word ws n).pos 7 n1)
 | go {x n1 o}:cl (n + 1) 3 (.ok x n1)->(Exp.mk 14 0 [] [] [x]).depth <= 20->qhe ws cl (word ws n).pos L 2 (.mk 14 0 [] [] [x]) n1 o->HT ws cl L n o
def HC (ws:List Tok) (neg:Nat->Out->Prop) (cl:Nat->Nat->Out->Prop) (L n:Nat) (o:Out):Prop:=
 (isW ws n [110,111,116] = true/\HT ws cl L n o)\/(isW ws n [110,111,116] = false/\HN ws neg cl L n o)
variable {neg:Nat->Out->Prop}
theorem HN.on {lo hi n:Nat} (E:lo <= hi) (h4:hi ≠ 4) (h1:1 <= hi) (h6:hi <= 7) {e:Exp} {n1:Nat} (h:HN ws neg cl hi n (.ok e n1)) {o:Out} (h2:qhe ws cl (word ws n).pos lo (hi - 1) e n1 o):HN ws neg cl lo n o:=by
 cases h with
 | go a b=>exact .go a (b.comp E h4 h1 zo h2)
theorem HN.no {lo hi n:Nat} (E:lo <= hi) {p err:Int} {m:Nat} (h:HN ws neg cl hi n (.no p err m)):HN ws neg cl lo n (.no p err m):=by
 cases h with
 | bad a=>exact .bad a
 | go a b=>exact .go a (b.no E)
theorem HT.on {lo hi n:Nat} (E:lo <= hi) (h1:1 <= hi) (h3:hi <= 3) {e:Exp} {n1:Nat} (h:HT ws cl hi n (.ok e n1)) {o:Out} (h2:qhe ws cl (word ws n).pos lo (hi - 1) e n1 o):HT ws cl lo n o:=by
 cases h with
 | go a b c=>exact .go a b (c.comp E zo h1 zo h2)
theorem HT.no {lo hi n:Nat} (E:lo <= hi) {p err:Int} {m:Nat} (h:HT ws cl hi n (.no p err m)):HT ws cl lo n (.no p err m):=by
 cases h with
 | bad a=>exact .bad a
 | deep a b=>exact .deep a b
 | go a b c=>exact .go a b (c.no E)
theorem HC.on {lo hi n:Nat} (E:lo <= hi) (h1:1 <= hi) (h3:hi <= 3) {e:Exp} {n1:Nat} (h:HC ws neg cl hi n (.ok e n1)) {o:Out} (h2:qhe ws cl (word ws n).pos lo (hi - 1) e n1 o):HC ws neg cl lo n o:=by
 rcases h with ⟨a,b⟩ | ⟨a,b⟩
 ·exact .inl ⟨a,b.on E h1 h3 h2⟩
 ·exact .inr ⟨a,b.on E zo h1 zo h2⟩
theorem HC.no {lo hi n:Nat} (E:lo <= hi) {p err:Int} {m:Nat} (h:HC ws neg cl hi n (.no p err m)):HC ws neg cl lo n (.no p err m):=by
 rcases h with ⟨a,b⟩ | ⟨a,b⟩
 ·exact .inl ⟨a,b.no E⟩
 ·exact .inr ⟨a,b.no E⟩
theorem HN.base {n:Nat} {o:Out} (h:neg n o):HN ws neg cl 7 n o:=by
 cases o with
 | ok e n1=>exact .go h (.stop (by have:=qBt (ws:=ws) n1;omega))
 | no p err m=>exact .bad h
end
end Go.Proofs.YtcbfifamliijlaaGreatDoor.AE
namespace Go.AE
section
variable {k:Nat} {vs:List (List qd)}
theorem qxg {cs:List qd} (hd:∀c ∈ cs,c.dim = c):cs.map qd.dim = cs:=by
 induction cs with
 | nil=>rfl
 | cons c cs ih=>rw [List.map_cons,hd c List.mem_cons_self,ih λx hx=>hd x (List.mem_cons_of_mem _ hx)]
end
def qiI (cs:List qd):Prop:=∀c ∈ cs,c.dim = c/\c.storable = true
theorem qiI.dims {cs:List qd} (h:qiI cs):cs.map qd.dim = cs:=qxg λc hc=>(h c hc).1
theorem qiI.all {cs:List qd} (h:qiI cs):cs.all qd.storable = true:=List.all_eq_true.2 λc hc=>(h c hc).2
section
variable {base k n id id2:Nat} {h:List qj} {row cs:List qd}
theorem qut (h2:h[id2]? = some (.cells row)) (hk:row.length = k) (hs:qiI row):qdE k h (.sl id2 0 1 1 0) = some (row,1):=by
 have:row.take k = row:=List.take_of_length_le zo
 simp [qdE,h2,hk,this,hs.dims]
theorem qqX (h2:h[id2]? = some (.cells row)) (hk:row.length = k) (hs:qiI row):hop base (.app k) [.lst [] .full,.sl id2 0 1 1 0] h = some (.sl h.length 0 1 1 k,h ++ [.cells row],false):=by
 have e:qdE k h (.lst [] .full) = some ([],0):=rfl
 simp [hop,qf8,qut h2 hk hs,hs.all,e,qk]
theorem qvJ (h1:h[id]? = some (.cells cs)) (h2:h[id2]? = some (.cells row)) (hk:row.length = k) (hc:cs.length = n * k) (hs:qiI row) (E:qiI cs) (hn:n <= 100000) (Y:k ≠ 0):hop base (.app k) [.sl id 0 n n k,.sl id2 0 1 1 0] h = some (.sl h.length 0 (n + 1) (n + 1) k,h.set id .dead ++ [.cells (cs ++ row)],false):=by
 have e:qdE k h (.sl id 0 n n k) = some (cs,n):=by
  have:cs.take (n * k) = cs:=List.take_of_length_le zo
  simp [qdE,h1,hc,this,E.dims]
 have hl:n + 1 <= qk:=by simp only [qk];omega
 have I:¬ n + 1 <= n:=zo
 simp only [hop,qf8,qut h2 hk hs,hs.all,e,h1,Bool.not_true,Bool.false_eq_true,if_false,Nat.succ_ne_zero,hl,I,if_true]
 simp [Y,hc]
end
end Go.AE
namespace Go.Proofs.YtcbfifamliijlaaGreatDoor.AE
open Go.AE
def Cov (H:Nat->Option qj) (g:List qj):Prop:=∀i x,H i = some x->g[i]? = some x
theorem Cov.lt {H:Nat->Option qj} {g:List qj} (h:Cov H g) {i:Nat} {x:qj} (hi:H i = some x):i < g.length:=(List.getElem?_eq_some_iff.1 (h i x hi)).1
theorem Cov.more {H:Nat->Option qj} {g:List qj} (h:Cov H g) (l:List qj):Cov H (g ++ l):=λi x hi=>by
 rw [List.getElem?_append_left (h.lt hi)]
 exact h i x hi
theorem Cov.set {H:Nat->Option qj} {g:List qj} (h:Cov H g) {j:Nat} (hj:H j = none) (b:qj):Cov H (g.set j b):=λi x hi=>by
 have:j ≠ i:=λe=>by subst e;rw [hj] at hi;cases hi
 rw [List.getElem?_set_ne this]
 exact h i x hi
section
variable {base:Nat} {call:AE.Call} {dsts:List Nat} {s:St} {pend:List (Nat×Chk)}
end
inductive Exl where
 | mk (op n:Int) (nm sb:Str) (aS:List Exl)
def Exl.enc:Exl->List qd
 | .mk op n nm sb aS=>[.int .i64 op,.int .i64 n,.str nm,.str sb,.lst (aS.map λe=>.agg e.enc) .no]
def exV (e:Exl):qd:=.agg e.enc
theorem qfs (op n:Int) (nm sb:Str) (aS:List Exl):(Exl.mk op n nm sb aS).enc = [.int .i64 op,.int .i64 n,.str nm,.str sb,.lst (aS.map exV) .no]:=by rw [Exl.enc];rfl
theorem qac (op n:Int) (nm sb:Str) (aS:List Exl):exV (.mk op n nm sb aS) = .agg [.int .i64 op,.int .i64 n,.str nm,.str sb,.lst (aS.map exV) .no]:=by rw [exV,qfs]
def Fit:Nat->Exl->Prop
 | 0,_=>False
 | d + 1,.mk _ _ _ _ aS=>aS.length <= 20/\∀a ∈ aS,Fit d a
theorem cc1:((1:Nat):Int) = 1:=Eq.trans rfl rfl
theorem cc0:((0:Nat):Int) = 0:=Eq.trans rfl rfl
theorem w1:IntKind.i64.wrap 1 = 1:=zk
def sz:Nat->Exl->Nat
 | 0,_=>0
 | d + 1,.mk _ _ _ _ aS=>1 + (aS.map (sz d)).sum
def fB (nb mb sb:Bool) (lo hi n:Int) (nm sub:Str) (k:Nat):Bool:=(nb || n == 0) && ((mb || nm == []) && ((sb || sub == []) && (ile lo (k:Int) && ile (k:Int) hi)))
section
variable {h:List qj}
theorem qhq (op n:Int) (nm sub:Str) (aS:List qd) (nb mb sb:Bool) (lo hi:Int) :
  Wd (.fn 149 [] []) [.agg [.int .i64 op,.int .i64 n,.str nm,.str sub,.lst aS .no],.bool nb,.bool mb,.bool sb,.int .i64 lo,.int .i64 hi] h = some (.ret (.bool (fB nb mb sb lo hi n nm sub aS.length)),h,false):=by
 rw [qm 149 qzZ]
 by_cases a1:nb = true\/(nb = false/\(n == 0) = true)
 ·by_cases a2:mb = true\/(mb = false/\(nm == []) = true)
  ·by_cases a3:sb = true\/(sb = false/\(sub == []) = true)
   ·cases c1:ile lo (aS.length:Int) <;>
    rcases a1 with rfl | ⟨rfl,b1⟩ <;> rcases a2 with rfl | ⟨rfl,b2⟩ <;> rcases a3 with rfl | ⟨rfl,b3⟩ <;> simp only [qzZ,sT.1,sC.1,qg,qH,seval,-rN,fB, *]
   ·have e3:sb = false:=by cases sb <;> simp_all
    subst e3
    have b3:(sub == []) = false:=by cases hq:(sub == []) <;> simp_all
    rcases a1 with rfl | ⟨rfl,b1⟩ <;> rcases a2 with rfl | ⟨rfl,b2⟩ <;> simp only [qzZ,sT.1,sC.1,qg,qH,seval,-rN,fB, *]
  ·have e3:mb = false:=by cases mb <;> simp_all
   subst e3
   have b3:(nm == []) = false:=by cases hq:(nm == []) <;> simp_all
   rcases a1 with rfl | ⟨rfl,b1⟩ <;> simp only [qzZ,sT.1,sC.1,qg,qH,seval,-rN,fB, *]
 ·have e3:nb = false:=by cases nb <;> simp_all
  subst e3
  have b3:(n == 0) = false:=by cases hq:(n == 0) <;> simp_all
  simp only [qzZ,sT.1,sC.1,qg,qH,seval,-rN,fB, *]
end
def qb7 (op n:Int) (nm sub:Str) (k:Nat):Bool:=
 bif op == 0 then fB true false false 0 0 n nm sub k && ile 0 n else
 bif op == 1 || (op == 2 || op == 11) then fB false false false 0 0 n nm sub k else
 bif op == 3 then fB false true false 0 0 n nm sub k && qcw nm else
 bif op == 4 || (op == 7 || (op == 8 || op == 9)) then fB false true false 0 0 n nm sub k && qI nm else
 bif op == 5 then fB false true true 0 0 n nm sub k && (qI nm && qI sub) else
 bif op == 6 then fB false false false 1 4 n nm sub k else
 bif op == 10 then fB false true false 1 1 n nm sub k && qI nm else
 bif op == 12 then (fB true false false 1 1 n nm sub k && ile 0 n) && ilt n 4 else
 bif op == 13 || op == 14 then fB false false false 1 1 n nm sub k else
 bif op == 25 then fB false false false 3 3 n nm sub k else
 bif ile 15 op && ile op 24 then fB false false false 2 2 n nm sub k else false
inductive qet {α:Type}:Int->Int->Str->Str->List α->Prop
 | int {n:Int}:0 <= n->qet 0 n [] [] []
 | word {op:Int}:op = 1\/op = 2\/op = 11->qet op 0 [] [] []
 | sym {nm:Str}:qcw nm = true->qet 3 0 nm [] []
 | var {op:Int} {nm:Str}:op = 4\/op = 7\/op = 8\/op = 9->qI nm = true->qet op 0 nm [] []
 | of {nm sb:Str}:qI nm = true->qI sb = true->qet 5 0 nm sb []
 | tup {l:List α}:1 <= l.length->l.length <= 4->qet 6 0 [] [] l
 | least {nm:Str} {a:α}:qI nm = true->qet 10 0 nm [] [a]
 | item {n:Int} {a:α}:0 <= n->n < 4->qet 12 n [] [] [a]
 | un {op:Int} {a:α}:op = 13\/op = 14->qet op 0 [] [] [a]
 | bin {op:Int} {a b:α}:15 <= op->op <= 24->qet op 0 [] [] [a,b]
 | cond {a b c:α}:qet 25 0 [] [] [a,b,c]
theorem qew {nb mb sb:Bool} {lo hi n:Int} {nm sub:Str} {k:Nat} (h:fB nb mb sb lo hi n nm sub k = true):(nb = false->n = 0)/\(mb = false->nm = [])/\(sb = false->sub = [])/\lo <= (k:Int)/\(k:Int) <= hi:=by
 simp only [fB,jk,Bool.or_eq_true,beq_iff_eq,qaD,decide_eq_true_eq] at h
 obtain ⟨h1,h2,h3,h4,h5⟩:=h
 refine ⟨?_,?_,?_,h4,h5⟩ <;> rintro rfl
 ·exact h1.resolve_left (by simp)
 ·exact h2.resolve_left (by simp)
 ·exact h3.resolve_left (by simp)
theorem qtS {α:Type} {l:List α} (h:l.length = 1):∃a,l = [a]:=by
 match l,h with
 | [a],_=>exact ⟨a,rfl⟩
theorem qER {α:Type} {l:List α} (h:l.length = 2):∃a b,l = [a,b]:=by
 match l,h with
 | [a,b],_=>exact ⟨a,b,rfl⟩
theorem qyq {α:Type} {l:List α} (h:l.length = 3):∃a b c,l = [a,b,c]:=by
 match l,h with
 | [a,b,c],_=>exact ⟨a,b,c,rfl⟩
theorem qlt {α:Type} {op n:Int} {nm sb:Str} {aS:List α} (h:qb7 op n nm sb aS.length = true):qet op n nm sb aS:=by
 have nil:(aS.length:Int) <= 0->aS = []:=λh=>List.length_eq_zero_iff.1 zo
 have an:∀{a b:Bool},(a && b) = true->a = true/\b = true:=λh=>(jk _ _).mp h
 unfold qb7 at h
 cases c0:op == 0 with
 | true=>
  rw [c0] at h
  obtain ⟨h1,h2⟩:=an h
  obtain ⟨_,e2,e3,_,e5⟩:=qew h1
  rw [eq_of_beq c0,e2 rfl,e3 rfl,nil e5]
  rw [qaD] at h2
  exact .int (of_decide_eq_true h2)
 | false=>
 rw [c0,cond_false] at h
 cases c1:op == 1 || (op == 2 || op == 11) with
 | true=>
  rw [c1] at h
  obtain ⟨e1,e2,e3,_,e5⟩:=qew h
  rw [e1 rfl,e2 rfl,e3 rfl,nil e5]
  exact .word (by simpa using c1)
 | false=>
 rw [c1,cond_false] at h
 cases c2:op == 3 with
 | true=>
  rw [c2] at h
  obtain ⟨h1,h2⟩:=an h
  obtain ⟨e1,_,e3,_,e5⟩:=qew h1
  rw [eq_of_beq c2,e1 rfl,e3 rfl,nil e5]
  exact .sym h2
 | false=>
 rw [c2,cond_false] at h
 cases c3:op == 4 || (op == 7 || (op == 8 || op == 9)) with
 | true=>
  rw [c3] at h
  obtain ⟨h1,h2⟩:=an h
  obtain ⟨e1,_,e3,_,e5⟩:=qew h1
  rw [e1 rfl,e3 rfl,nil e5]
  exact .var (by simpa using c3) h2
 | false=>
 rw [c3,cond_false] at h
 cases c4:op == 5 with
 | true=>
  rw [c4] at h
  obtain ⟨h1,h2⟩:=an h
  obtain ⟨e1,_,_,_,e5⟩:=qew h1
  rw [eq_of_beq c4,e1 rfl,nil e5]
  exact .of (an h2).1 (an h2).2
 | false=>
 rw [c4,cond_false] at h
 cases c5:op == 6 with
 | true=>
  rw [c5] at h
  obtain ⟨e1,e2,e3,e4,e5⟩:=qew h
  rw [eq_of_beq c5,e1 rfl,e2 rfl,e3 rfl]
  exact .tup zo zo
 | false=>
 rw [c5,cond_false] at h
 cases c6:op == 10 with
 | true=>
  rw [c6] at h
  obtain ⟨h1,h2⟩:=an h
  obtain ⟨e1,_,e3,e4,e5⟩:=qew h1
  obtain ⟨a,rfl⟩:=qtS (l:=aS) zo
  rw [eq_of_beq c6,e1 rfl,e3 rfl]
  exact .least h2
 | false=>
 rw [c6,cond_false] at h
 cases c7:op == 12 with
 | true=>
  rw [c7] at h
  obtain ⟨h1,h3⟩:=an h
  obtain ⟨h1,h2⟩:=an h1
  obtain ⟨_,e2,e3,e4,e5⟩:=qew h1
  obtain ⟨a,rfl⟩:=qtS (l:=aS) zo
  rw [eq_of_beq c7,e2 rfl,e3 rfl]
  rw [qaD] at h2
  rw [qaj] at h3
  exact .item (of_decide_eq_true h2) (of_decide_eq_true h3)
 | false=>
 rw [c7,cond_false] at h
 cases c8:op == 13 || op == 14 with
 | true=>
  rw [c8] at h
  obtain ⟨e1,e2,e3,e4,e5⟩:=qew h
  obtain ⟨a,rfl⟩:=qtS (l:=aS) zo
  rw [e1 rfl,e2 rfl,e3 rfl]
  exact .un (by simpa using c8)
 | false=>
 rw [c8,cond_false] at h
 cases c9:op == 25 with
 | true=>
  rw [c9] at h
  obtain ⟨e1,e2,e3,e4,e5⟩:=qew h
  obtain ⟨a,b,c,rfl⟩:=qyq (l:=aS) zo
  rw [eq_of_beq c9,e1 rfl,e2 rfl,e3 rfl]
  exact .cond
 | false=>
 rw [c9,cond_false] at h
 cases c10:ile 15 op && ile op 24 with
 | true=>
  rw [c10] at h
  obtain ⟨e1,e2,e3,e4,e5⟩:=qew h
  obtain ⟨a,b,rfl⟩:=qER (l:=aS) zo
  rw [e1 rfl,e2 rfl,e3 rfl]
  simp only [jk,qaD,decide_eq_true_eq] at c10
  exact .bin c10.1 c10.2
 | false=>rw [c10] at h;cases h
theorem qig {op n:Int} {nm sb:Str} {k:Nat} (h:qb7 op n nm sb k = true):0 <= op/\op <= 25/\k <= 4:=by
 have hc:qet op n nm sb (List.replicate k ()):=qlt (by simpa using h)
 have e:(List.replicate k ()).length = k:=by simp
 generalize List.replicate k () = l at *
 subst e
 cases hc <;> simp <;> omega
section
variable {h:List qj}
theorem qLz {op:Int} (ho:¬ (0 <= op/\op <= 25)):(op == 0) = false/\(op == 1) = false/\(op == 2) = false/\(op == 3) = false/\(op == 4) = false/\(op == 5) = false/\(op == 6) = false/\(op == 7) = false/\(op == 8) = false/\(op == 9) = false/\(op == 10) = false/\(op == 11) = false/\(op == 12) = false/\(op == 13) = false/\(op == 14) = false/\(op == 15) = false/\(op == 16) = false/\(op == 17) = false/\(op == 18) = false/\(op == 19) = false/\(op == 20) = false/\(op == 21) = false/\(op == 22) = false/\(op == 23) = false/\(op == 24) = false/\(op == 25) = false:=by
 refine ⟨?_,?_,?_,?_,?_,?_,?_,?_,?_,?_,?_,?_,?_,?_,?_,?_,?_,?_,?_,?_,?_,?_,?_,?_,?_,?_⟩ <;> rw [beq_eq_false_iff_ne] <;> omega
theorem qBd {op:Int} (ho:¬ (0 <= op/\op <= 25)) (n:Int) (nm sub:Str) (aS:List qd):Wd (.fn 102 [] []) [.agg [.int .i64 op,.int .i64 n,.str nm,.str sub,.lst aS .no]] h = some (.ret (.bool false),h,false):=by
 rw [qm 102 qqA]
 simp only [qqA,sT.1,sC.1,qg,seval,-rN,qLz ho]
theorem qD8 (op n:Int) (nm sub:Str) (aS:List qd):Wd (.fn 102 [] []) [.agg [.int .i64 op,.int .i64 n,.str nm,.str sub,.lst aS .no]] h = some (.ret (.bool (qb7 op n nm sub aS.length)),h,false):=by
 by_cases ho:0 <= op/\op <= 25
 ·rcases (show (op = 3\/op = 4\/op = 7\/op = 8\/op = 9)\/op = 5\/op = 10\/op = 0\/op = 1\/op = 2\/op = 6\/op = 11\/op = 12\/op = 13\/op = 14\/op = 15\/op = 16\/op = 17\/op = 18\/op = 19\/op = 20\/op = 21\/op = 22\/op = 23\/op = 24\/op = 25 by omega) with h3 | rfl | rfl | ho
  ·cases hF:fB false true false 0 0 n nm sub aS.length <;> rcases h3 with rfl | rfl | rfl | rfl | rfl <;> (rw [qm 102 qqA];simp only [qqA,sT.1,sC.1,qg,qH,seval,-rN,qhq,qb7,qor,qa2,qaD,qaj,decide_true,hF])
  ·cases hF:fB false true true 0 0 n nm sub aS.length <;> cases hN:qI nm <;> (rw [qm 102 qqA];simp only [qqA,sT.1,sC.1,qg,qH,seval,-rN,qhq,qb7,qa2,qaD,qaj,decide_true,hF,hN])
  ·cases hF:fB false true false 1 1 n nm sub aS.length <;> (rw [qm 102 qqA];simp only [qqA,sT.1,sC.1,qg,qH,seval,-rN,qhq,qb7,qa2,qaD,qaj,decide_true,hF])
  ·rcases ho with rfl | rfl | rfl | rfl | rfl | rfl | rfl | rfl | rfl | rfl | rfl | rfl | rfl | rfl | rfl | rfl | rfl | rfl | rfl <;> (rw [qm 102 qqA];simp only [qqA,sT.1,sC.1,qg,qH,seval,-rN,qhq,qb7,qaD,qaj,decide_true])
 ·have hn:qb7 op n nm sub aS.length = false:=by
   cases hq:qb7 op n nm sub aS.length with
   | false=>rfl
   | true=>have:=qig hq;exact absurd ⟨this.1,this.2.1⟩ ho
  rw [hn]
  exact qBd ho n nm sub aS
end
end Go.Proofs.YtcbfifamliijlaaGreatDoor.AE
