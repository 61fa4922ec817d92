/- A part of the proof. No condition. -/
import Derived.Test.YtcbfifamliijlaaGreatDoorMb8
import Derived.Test.YtcbfifamliijlaaGreatDoorMb2
import Derived.Test.YtcbfifamliijlaaGreatDoorMb7
open Int renaming reduceNatCast'→rN
set_option maxRecDepth 100000
set_option maxHeartbeats 0
open List renaming take_append_of_le_length→jS,drop_eq_getElem_cons→jU,getElem?_eq_getElem→jh,length_map→jQ,map_append→jX,mem_append→jH,getElem?_map→jr,mem_singleton→jY,length_cons→jy,length_nil→jz,all_cons→jB,all_nil→jC
open Bool renaming and_eq_true→jk,true_and→jZ,false_and→jL
namespace Go.Proofs.YtcbfifamliijlaaGreatDoor.AE
open Go.AE
inductive qg1 (ws:List Tok) (sub:Nat->Out->Prop) (pos:Int):List Exp->Nat->Out->Prop
 | many {args m}:args.length = 4->qg1 ws sub pos args m (.no (word ws m).pos (bif qa1 ws m then 8 else 6) m)
 | bad {args m p err k}:args.length < 4->sub m (.no p err k)->qg1 ws sub pos args m (.no p err k)
 | next {args m y m1 o}:args.length < 4->sub m (.ok y m1)->isW ws m1 [44] = true->qg1 ws sub pos (args ++ [y]) (m1 + 1) o->qg1 ws sub pos args m o
 | unshut {args m y m1}:args.length < 4->sub m (.ok y m1)->isW ws m1 [44] = false->isW ws m1 [41] = false->qg1 ws sub pos args m (.no (word ws m1).pos 6 m1)
 | qcz {args m y m1}:args.length < 4->sub m (.ok y m1)->isW ws m1 [44] = false->isW ws m1 [41] = true->¬ (Exp.mk 6 0 [] [] (args ++ [y])).depth <= 20->qg1 ws sub pos args m (.no pos 7 (m1 + 1))
 | shut {args m y m1}:args.length < 4->sub m (.ok y m1)->isW ws m1 [44] = false->isW ws m1 [41] = true->(Exp.mk 6 0 [] [] (args ++ [y])).depth <= 20->qg1 ws sub pos args m (.ok (.mk 6 0 [] [] (args ++ [y])) (m1 + 1))
section
variable {ws:List Tok} {h:List qh}
theorem qjn (parts:List Nd) (y:Nd) (hl:parts.length <= 1000):qdr 7 (parts.map Nd.enc) [y.enc] = true:=by
 simp only [qdr,jk,decide_eq_true_eq]
 refine ⟨⟨?_,?_⟩,?_⟩
 ·simp only [jQ,jy,jz,qi];omega
 ·simp [Nd.cellsE,Nd.len]
  simpa using y.stor
 ·cases parts with
  | nil=>rfl
  | cons x xs=>simp [Nd.cellsE,Nd.len]
structure qil (h:List qh) (i:Nat) (ws:List Tok) (n:Nat) (H:List qh):Prop where
 lt:i < h.length
 len:h.length < H.length
 par:H[i]? = some (PB ws n)
 res:H[h.length]? = some quN
 old:H.take h.length = h.set i (PB ws n)
theorem qil.next {i n n':Nat} {H:List qh} (hl:qil h i ws n H):qil h i ws n' (H.set i (PB ws n')):=by
 have h1:=hl.lt
 have h2:=hl.len
 refine ⟨hl.lt,by simpa using h2,qes zo,?_,?_⟩
 ·rw [qb9 zo,hl.res]
 ·rw [List.take_set,hl.old,qge]
def qfa (parts:List Nd):qgH:=bif parts.length == 1 then .full else .own 7
theorem qiE {parts:List Nd} {y:Nd} (h:1 <= parts.length):qfa (parts ++ [y]) = .own 7:=by
 have:((parts ++ [y]).length == 1) = false:=by simp only [List.length_append,jy,jz,beq_eq_false_iff_ne];omega
 rw [qfa,this]
 rfl
def qyE (h:List qh) (i:Nat) (ws:List Tok) (pos:Int) (r:Option (Ex×St)) (o:Out):Prop:=
 (∃p err n,o = .no p err n/\n < ws.length/\∃tt H,r = some (.pan (qea p err),⟨tt,H,false⟩)/\H.take h.length = h.set i (PB ws n))\/
 (∃(parts:List Nd) (n:Nat) (tt H:List _),r = some (.exit 0,⟨tt,H,false⟩)/\n < ws.length/\tt.length = 44/\lkp tt 0 = .ptr i 0/\lkp tt 2 = .ptr h.length 0/\lkp tt 3 = .int .i64 pos/\lkp tt 5 = .lst (parts.map Nd.enc) (.own 7)/\qil h i ws n H/\parts.length <= 4/\(∀x ∈ parts,x.e.depth <= 20)/\
  ((isW ws n [41] = false/\o = .no (word ws n).pos 6 n)\/(isW ws n [41] = true/\¬ (Exp.mk 6 0 [] [] (parts.map Nd.e)).depth <= 20/\o = .no pos 7 (n + 1))\/(isW ws n [41] = true/\(Exp.mk 6 0 [] [] (parts.map Nd.e)).depth <= 20/\o = .ok (.mk 6 0 [] [] (parts.map Nd.e)) (n + 1))))
theorem qkl (hw:WF ws) (i:Nat) (pos:Int) (args:List Exp) (n:Nat) (o:Out) (hT:qg1 ws (qbf 65 ws) pos args n o):∀(parts:List Nd) (tt:List qd) (H:List qh),parts.map Nd.e = args->1 <= parts.length->(∀x ∈ parts,x.e.depth <= 20)->n < ws.length->tt.length = 44->lkp tt 0 = .ptr i 0->lkp tt 2 = .ptr h.length 0->lkp tt 3 = .int .i64 pos->lkp tt 5 = .lst (parts.map Nd.enc) (qfa parts)->qil h i ws n H->
  qyE h i ws pos (qp h.length Wd (.loop qbj) ⟨tt,H,false⟩) o:=by
 induction hT with
 | @many args m hl=>
  intro parts tt H hp h1 a6 hn ht e0 e2 e3 e5 hL
  have Y:i < H.length:=by have:=hL.lt;have:=hL.len;omega
  have E:=hL.par
  rw [PBi] at E
  have a7:parts.length = 4:=by rw [<-hl,<-hp,jQ]
  have a8:qfa parts = .own 7:=by simp [qfa,a7]
  rw [a8] at e5
  have h4:(((parts.map Nd.enc).length:Int) == 4) = true:=by simp [a7]
  rw [qr]
  generalize he:qp h.length Wd qbj _ = r
  simp only [qbj,sT.1,sC.1,qe,seval,-rN,ht,e0,e5,h4,qkT hw hn,E,PBi] at he
  subst he
  exact .inl ⟨_,_,_,rfl,hn,_,_,rfl,hL.old⟩
 | @bad args m p err k hl hx=>
  intro parts tt H hp h1 a6 hn ht e0 e2 e3 e5 hL
  have Y:i < H.length:=by have:=hL.lt;have:=hL.len;omega
  have E:=hL.par
  rw [PBi] at E
  have a7:parts.length < 4:=by rw [<-hp,jQ] at hl;exact hl
  have h4:(((parts.map Nd.enc).length:Int) == 4) = false:=by simp;omega
  obtain ⟨x1,x2⟩:=hx
  have aa:∀f:qgH,(qd.lst (parts.map Nd.enc) f).dim.dim = (qd.lst (parts.map Nd.enc) f).dim:=λf=>qku _
  cases hf:(parts.length == 1) with
  | true=>
   simp only [qfa,hf,cond_true] at e5
   rw [qr]
   generalize he:qp h.length Wd qbj _ = r
   simp only [qbj,sT.1,sC.1,sTA.1,sCA.1,qe,qef,qeg,Src.isTmp,qb0,Src.hangs,qB.isT,bne,seval,-rN,ht,e0,e5,h4,E,PBi,x2] at he
   subst he
   exact .inl ⟨_,_,_,rfl,x1,_,_,rfl,hL.next.old⟩
  | false=>
   simp only [qfa,hf,cond_false] at e5
   rw [qr]
   generalize he:qp h.length Wd qbj _ = r
   simp only [qbj,sT.1,sC.1,sTA.1,sCA.1,qe,qef,qeg,Src.isTmp,qb0,Src.hangs,qB.isT,bne,seval,-rN,ht,e0,e5,h4,E,PBi,x2] at he
   subst he
   exact .inl ⟨_,_,_,rfl,x1,_,_,rfl,hL.next.old⟩
 | @next args m y m1 o hl hx hc hT ih=>
  intro parts tt H hp h1 a6 hn ht e0 e2 e3 e5 hL
  have Y:i < H.length:=by have:=hL.lt;have:=hL.len;omega
  have E:=hL.par
  rw [PBi] at E
  have a7:parts.length < 4:=by rw [<-hp,jQ] at hl;exact hl
  have h4:(((parts.map Nd.enc).length:Int) == 4) = false:=by simp;omega
  obtain ⟨x1,x2,x3,x4⟩:=hx
  have a1:qdr 7 (parts.map Nd.enc) [(⟨y,(word ws m).pos⟩ :Nd).enc] = true:=qjn _ _ zo
  have U:∀x ∈ parts ++ [(⟨y,(word ws m).pos⟩ :Nd)],x.e.depth <= 20:=by
   intro x hx
   rcases jH.1 hx with hx | hx
   ·exact a6 x hx
   ·rw [jY.1 hx];exact x3
  have I:(parts ++ [(⟨y,(word ws m).pos⟩ :Nd)]).map Nd.e = args ++ [y]:=by rw [jX,hp];rfl
  cases hf:(parts.length == 1) with
  | true=>
   simp only [qfa,hf,cond_true] at e5
   rw [qr]
   generalize he:qp h.length Wd qbj _ = r
   simp only [qbj,sT.1,sC.1,sTA.1,sCA.1,qe,qef,qeg,Src.isTmp,qb0,Src.hangs,qB.isT,qeI,bne,seval,-rN,ht,e0,e5,h4,E,PBi,Y,Nd.dimE,qcT,a1,x4,qI hw x2,hc] at he
   subst he
   refine ih (parts ++ [⟨y,(word ws m).pos⟩]) _ _ I (by simp) U (qU hw x2 hc) Y1 u4 Y3 Y2 ?_ hL.next
   simp only [sT.1,sC.1,seval,-rN,ht,jX,qiE h1]
  | false=>
   simp only [qfa,hf,cond_false] at e5
   rw [qr]
   generalize he:qp h.length Wd qbj _ = r
   simp only [qbj,sT.1,sC.1,sTA.1,sCA.1,qe,qef,qeg,Src.isTmp,qb0,Src.hangs,qB.isT,qeI,bne,seval,-rN,ht,e0,e5,h4,E,PBi,Y,Nd.dimE,qcT,a1,x4,qI hw x2,hc] at he
   subst he
   refine ih (parts ++ [⟨y,(word ws m).pos⟩]) _ _ I (by simp) U (qU hw x2 hc) Y1 u4 Y3 Y2 ?_ hL.next
   simp only [sT.1,sC.1,seval,-rN,ht,jX,qiE h1]
 | @unshut args m y m1 hl hx hc hs=>
  intro parts tt H hp h1 a6 hn ht e0 e2 e3 e5 hL
  have Y:i < H.length:=by have:=hL.lt;have:=hL.len;omega
  have E:=hL.par
  rw [PBi] at E
  have a7:parts.length < 4:=by rw [<-hp,jQ] at hl;exact hl
  have h4:(((parts.map Nd.enc).length:Int) == 4) = false:=by simp;omega
  obtain ⟨x1,x2,x3,x4⟩:=hx
  have a1:qdr 7 (parts.map Nd.enc) [(⟨y,(word ws m).pos⟩ :Nd).enc] = true:=qjn _ _ zo
  have U:∀x ∈ parts ++ [(⟨y,(word ws m).pos⟩ :Nd)],x.e.depth <= 20:=by
   intro x hx
   rcases jH.1 hx with hx | hx
   ·exact a6 x hx
   ·rw [jY.1 hx];exact x3
  have I:(parts ++ [(⟨y,(word ws m).pos⟩ :Nd)]).map Nd.e = args ++ [y]:=by rw [jX,hp];rfl
  cases hf:(parts.length == 1) with
  | true=>
   simp only [qfa,hf,cond_true] at e5
   rw [qr]
   generalize he:qp h.length Wd qbj _ = r
   simp only [qbj,sT.1,sC.1,sTA.1,sCA.1,qe,qef,qeg,Src.isTmp,qb0,Src.hangs,qB.isT,qeI,bne,seval,-rN,ht,e0,e5,h4,E,PBi,Y,Nd.dimE,qcT,a1,x4,qaa hw x2,hc] at he
   subst he
   refine .inr ⟨parts ++ [⟨y,(word ws m).pos⟩],m1,_,_,rfl,x2,Y1,u4,Y3,Y2,?_,hL.next,by simp;omega,U,?_⟩
   ·simp only [sT.1,sC.1,seval,-rN,ht,jX]
   ·rw [I];exact .inl ⟨hs,rfl⟩
  | false=>
   simp only [qfa,hf,cond_false] at e5
   rw [qr]
   generalize he:qp h.length Wd qbj _ = r
   simp only [qbj,sT.1,sC.1,sTA.1,sCA.1,qe,qef,qeg,Src.isTmp,qb0,Src.hangs,qB.isT,qeI,bne,seval,-rN,ht,e0,e5,h4,E,PBi,Y,Nd.dimE,qcT,a1,x4,qaa hw x2,hc] at he
   subst he
   refine .inr ⟨parts ++ [⟨y,(word ws m).pos⟩],m1,_,_,rfl,x2,Y1,u4,Y3,Y2,?_,hL.next,by simp;omega,U,?_⟩
   ·simp only [sT.1,sC.1,seval,-rN,ht,jX]
   ·rw [I];exact .inl ⟨hs,rfl⟩
 | @qcz args m y m1 hl hx hc hs hd=>
  intro parts tt H hp h1 a6 hn ht e0 e2 e3 e5 hL
  have Y:i < H.length:=by have:=hL.lt;have:=hL.len;omega
  have E:=hL.par
  rw [PBi] at E
  have a7:parts.length < 4:=by rw [<-hp,jQ] at hl;exact hl
  have h4:(((parts.map Nd.enc).length:Int) == 4) = false:=by simp;omega
  obtain ⟨x1,x2,x3,x4⟩:=hx
  have a1:qdr 7 (parts.map Nd.enc) [(⟨y,(word ws m).pos⟩ :Nd).enc] = true:=qjn _ _ zo
  have U:∀x ∈ parts ++ [(⟨y,(word ws m).pos⟩ :Nd)],x.e.depth <= 20:=by
   intro x hx
   rcases jH.1 hx with hx | hx
   ·exact a6 x hx
   ·rw [jY.1 hx];exact x3
  have I:(parts ++ [(⟨y,(word ws m).pos⟩ :Nd)]).map Nd.e = args ++ [y]:=by rw [jX,hp];rfl
  cases hf:(parts.length == 1) with
  | true=>
   simp only [qfa,hf,cond_true] at e5
   rw [qr]
   generalize he:qp h.length Wd qbj _ = r
   simp only [qbj,sT.1,sC.1,sTA.1,sCA.1,qe,qef,qeg,Src.isTmp,qb0,Src.hangs,qB.isT,qeI,bne,seval,-rN,ht,e0,e5,h4,E,PBi,Y,Nd.dimE,qcT,a1,x4,qaa hw x2,hc] at he
   subst he
   refine .inr ⟨parts ++ [⟨y,(word ws m).pos⟩],m1,_,_,rfl,x2,Y1,u4,Y3,Y2,?_,hL.next,by simp;omega,U,?_⟩
   ·simp only [sT.1,sC.1,seval,-rN,ht,jX]
   ·rw [I];exact .inr (.inl ⟨hs,hd,rfl⟩)
  | false=>
   simp only [qfa,hf,cond_false] at e5
   rw [qr]
   generalize he:qp h.length Wd qbj _ = r
   simp only [qbj,sT.1,sC.1,sTA.1,sCA.1,qe,qef,qeg,Src.isTmp,qb0,Src.hangs,qB.isT,qeI,bne,seval,-rN,ht,e0,e5,h4,E,PBi,Y,Nd.dimE,qcT,a1,x4,qaa hw x2,hc] at he
   subst he
   refine .inr ⟨parts ++ [⟨y,(word ws m).pos⟩],m1,_,_,rfl,x2,Y1,u4,Y3,Y2,?_,hL.next,by simp;omega,U,?_⟩
   ·simp only [sT.1,sC.1,seval,-rN,ht,jX]
   ·rw [I];exact .inr (.inl ⟨hs,hd,rfl⟩)
 | @shut args m y m1 hl hx hc hs hd=>
  intro parts tt H hp h1 a6 hn ht e0 e2 e3 e5 hL
  have Y:i < H.length:=by have:=hL.lt;have:=hL.len;omega
  have E:=hL.par
  rw [PBi] at E
  have a7:parts.length < 4:=by rw [<-hp,jQ] at hl;exact hl
  have h4:(((parts.map Nd.enc).length:Int) == 4) = false:=by simp;omega
  obtain ⟨x1,x2,x3,x4⟩:=hx
  have a1:qdr 7 (parts.map Nd.enc) [(⟨y,(word ws m).pos⟩ :Nd).enc] = true:=qjn _ _ zo
  have U:∀x ∈ parts ++ [(⟨y,(word ws m).pos⟩ :Nd)],x.e.depth <= 20:=by
   intro x hx
   rcases jH.1 hx with hx | hx
   ·exact a6 x hx
   ·rw [jY.1 hx];exact x3
  have I:(parts ++ [(⟨y,(word ws m).pos⟩ :Nd)]).map Nd.e = args ++ [y]:=by rw [jX,hp];rfl
  cases hf:(parts.length == 1) with
  | true=>
   simp only [qfa,hf,cond_true] at e5
   rw [qr]
   generalize he:qp h.length Wd qbj _ = r
   simp only [qbj,sT.1,sC.1,sTA.1,sCA.1,qe,qef,qeg,Src.isTmp,qb0,Src.hangs,qB.isT,qeI,bne,seval,-rN,ht,e0,e5,h4,E,PBi,Y,Nd.dimE,qcT,a1,x4,qaa hw x2,hc] at he
   subst he
   refine .inr ⟨parts ++ [⟨y,(word ws m).pos⟩],m1,_,_,rfl,x2,Y1,u4,Y3,Y2,?_,hL.next,by simp;omega,U,?_⟩
   ·simp only [sT.1,sC.1,seval,-rN,ht,jX]
   ·rw [I];exact .inr (.inr ⟨hs,hd,rfl⟩)
  | false=>
   simp only [qfa,hf,cond_false] at e5
   rw [qr]
   generalize he:qp h.length Wd qbj _ = r
   simp only [qbj,sT.1,sC.1,sTA.1,sCA.1,qe,qef,qeg,Src.isTmp,qb0,Src.hangs,qB.isT,qeI,bne,seval,-rN,ht,e0,e5,h4,E,PBi,Y,Nd.dimE,qcT,a1,x4,qaa hw x2,hc] at he
   subst he
   refine .inr ⟨parts ++ [⟨y,(word ws m).pos⟩],m1,_,_,rfl,x2,Y1,u4,Y3,Y2,?_,hL.next,by simp;omega,U,?_⟩
   ·simp only [sT.1,sC.1,seval,-rN,ht,jX]
   ·rw [I];exact .inr (.inr ⟨hs,hd,rfl⟩)
end
section
variable {ws:List Tok} {n:Nat}
theorem qCY {h:List qh} (p:qd) (pos op k:Int) (name sub:Str) (parts:List Nd) (hp:parts.length <= 4) (hd:∀x ∈ parts,x.e.depth <= 20):Wd (.fn 101 [] []) [p,.int .i64 pos,.agg [.int .i64 op,.int .i64 k,.str name,.str sub,.lst [] .full],.lst (parts.map Nd.enc) .no] h =
  if (Exp.mk op k name sub (parts.map Nd.e)).depth <= 20 then some (.ret (Nd.enc ⟨.mk op k name sub (parts.map Nd.e),pos⟩),h,false) else some (.pan (qea pos 7),h,false):=
 qh0 (h:=h) p pos op k name sub parts false hp hd
theorem br2 (hw:WF ws) (hn:n < ws.length) (hs:isW ws n [40] = true) {x:Exp} {n1:Nat} (h1:qbf 65 ws (n + 1) (.ok x n1)) (h2:isW ws n1 [41] = true):qbf 221 ws n (.ok x (n1 + 1)):=by
 obtain ⟨x1,x2,x3,x4⟩:=h1
 refine ⟨zo,qU hw x2 h2,x3,λh i hi=>?_⟩
 have E:=qo hi
 have I:Nat.ble h.length (h.length + 1) = true:=qj zo
 rw [PBi] at hi
 rw [ql 221 qxW]
 have s6:List.take 6 (⟨x,(word ws (n + 1)).pos⟩ :Nd).cs ++ [qd.int .i64 (word ws n).pos] = (⟨x,(word ws n).pos⟩ :Nd).cs:=by
  obtain ⟨op,k,name,sub,args⟩:=x
  exact Eq.trans rfl rfl
 simp only [qxW,sT.1,sC.1,qe,seval,-rN,qcN hw hn,qa8 hw hn,hs,hi,E,PBi,x4,qI hw x2,h2,I,Nd.dimE,Nd.cellsE,Nd.cutE,Nd.dims,Nd.len,Nd.stor,Nd.lower,Nd.drainE,Nd.drop7,s6]
theorem br4 (hw:WF ws) (hn:n < ws.length) (hs:isW ws n [40] = true) {x:Exp} {n1:Nat} (h1:qbf 65 ws (n + 1) (.ok x n1)) (h2:isW ws n1 [41] = false) (h3:isW ws n1 [44] = true) (h4:isW ws (n1 + 1) [41] = true) (hd:(Exp.mk 6 0 [] [] [x]).depth <= 20):qbf 221 ws n (.ok (.mk 6 0 [] [] [x]) (n1 + 1 + 1)):=by
 obtain ⟨x1,x2,x3,x4⟩:=h1
 have n2:=qU hw x2 h3
 refine ⟨zo,qU hw n2 h4,hd,λh i hi=>?_⟩
 have E:=qo hi
 have I:Nat.ble h.length (h.length + 1) = true:=qj zo
 rw [PBi] at hi
 rw [ql 221 qxW]
 simp only [qxW,sT.1,sC.1,qe,seval,-rN,qcN hw hn,qa8 hw hn,hs,hi,E,PBi,x4,x3,qaa hw x2,h2,qa8 hw x2,h3,qI hw n2,h4,I,Nd.dimE,Nd.cellsE,Nd.cutE,Nd.dims,Nd.len,Nd.stor,Nd.lower,Nd.drainE,Nd.drop7,qcT,qJ,qpo,hd]
theorem qg1.mono {pos:Int} {args:List Exp} {m:Nat} {o:Out} (h:qg1 ws (qbf 65 ws) pos args m o):∀e' n',o = .ok e' n'->m < n':=by
 induction h with
 | many _=>intro e' n' h;cases h
 | bad _ _=>intro e' n' h;cases h
 | next _ h1 _ _ ih=>intro e' n' h;have:=ih e' n' h;have:=h1.1;omega
 | unshut _ _ _ _=>intro e' n' h;cases h
 | qcz _ _ _ _ _=>intro e' n' h;cases h
 | shut _ h1 _ _ _=>intro e' n' h;cases h;have:=h1.1;omega
theorem qil.start {i n:Nat} {h:List qh} {x:Nd} (hi:i < h.length):qil h i ws n (h.set i (PB ws n) ++ [quN,NB x]):=by
 refine ⟨hi,by simp,?_,?_,?_⟩
 ·rw [qcP (by simpa using hi),qes hi]
 ·rw [qdn (by simp)];rfl
 ·rw [jS (by simp),List.take_of_length_le (by simp)]
theorem qil.answer {i n:Nat} {h:List qh} {x:Nd} {H:List qh} (hl:qil h i ws n H):leave h.length (.ret x.enc) (H.set h.length (NB x)) false = (.ret x.enc,h.set i (PB ws n),false):=
 qbb (by rw [List.take_set_of_le zo,hl.old]) (x.lower _)
def qlL:qD:=.seq (.reg [ao 39 (.mov (.t 0)),ao 40 (.mov (.t 3)),ao 41 (.build [(.int .i64 0),(.int .i64 0),(.str []),(.str []),(.lst [] .full)] [(0,1,(.c (.int .i64 6)))]),ao 42 (.mov (.t 5)),ao 43 (.call (.c (.fn 101 [] [])) [(.t 39),(.t 40),(.t 41),(.t 42)]),an (.st (some 7) (.t 2) (.t 43))]) .ret
def qhx:qD:=.reg [ao 37 (.mov (.t 0)),ao 38 (.call (.c (.fn 47 [] [])) [(.t 37),(.c (.str [41]))])]
theorem qm3 (hw:WF ws) {h:List qh} {i:Nat} {pos:Int} {r:Option (Ex×St)} {o:Out} (hL:qyE h i ws pos r o):match (motive:=Out->Prop) o with
  | .ok e n=>n < ws.length/\e.depth <= 20/\qfG [.cell 2 (some 7)] h (qb1 (qp h.length Wd qlL) (qb1 (qp h.length Wd qhx) (qcO 0 r))) = some (.ret (Nd.enc ⟨e,pos⟩),h.set i (PB ws n),false)
  | .no p err n=>n < ws.length/\qfG [.cell 2 (some 7)] h (qb1 (qp h.length Wd qlL) (qb1 (qp h.length Wd qhx) (qcO 0 r))) = some (.pan (qea p err),h.set i (PB ws n),false):=by
 obtain ⟨p,err,n,rfl,hn,tt,H,rfl,q⟩ | ⟨parts,n,tt,H,rfl,hn,ht,e0,e2,e3,e5,hl,hp,hd,hc⟩:=hL
 ·refine ⟨hn,?_⟩
  simp only [sT.1,seval,-rN]
  exact congrArg some (qaR q (qu _ _ _))
 ·have I:=hl.par
  have Y:=hl.len
  have U:=(hl.next (n':=n + 1)).res
  rw [qbE] at U
  obtain ⟨hs,rfl⟩ | ⟨hs,E,rfl⟩ | ⟨hs,E,rfl⟩:=hc
  ·refine ⟨hn,?_⟩
   simp only [qlL,qhx,sT.1,sC.1,qe,seval,-rN,ht,e0,qAm hw hn I hs]
   exact congrArg some (qaR hl.old (qu _ _ _))
  ·refine ⟨qU hw hn hs,?_⟩
   simp only [qlL,qhx,sT.1,sC.1,qe,seval,-rN,ht,e0,e3,e5,qa8 hw hn I hs,qJ,qCY _ _ _ _ _ _ parts hp hd,E]
   exact congrArg some (qaR hl.next.old (qu _ _ _))
  ·refine ⟨qU hw hn hs,E,?_⟩
   simp only [qlL,qhx,sT.1,sC.1,qe,seval,-rN,ht,e0,e2,e3,e5,qa8 hw hn I hs,qJ,qCY _ _ _ _ _ _ parts hp hd,E,U,Y,Nd.dimE,Nd.cellsE,Nd.cutE,Nd.dims,Nd.len,Nd.stor,Nd.drainE]
   exact congrArg some hl.next.answer
theorem br6 (hw:WF ws) (hn:n < ws.length) (hs:isW ws n [40] = true) {x:Exp} {n1:Nat} (h1:qbf 65 ws (n + 1) (.ok x n1)) (h2:isW ws n1 [41] = false) (h3:isW ws n1 [44] = true) (h4:isW ws (n1 + 1) [41] = false) {o:Out} (hT:qg1 ws (qbf 65 ws) (word ws n).pos [x] (n1 + 1) o):qbf 221 ws n o:=by
 obtain ⟨x1,x2,x3,x4⟩:=h1
 have n2:=qU hw x2 h3
 have E:=hT.mono
 have run:∀(h:List qh) (i:Nat),h[i]? = some (PB ws n)->∃r,qyE h i ws (word ws n).pos r o/\Wd (.fn 221 [] []) [.ptr i 0] h = qfG [.cell 2 (some 7)] h (qb1 (qp h.length Wd qlL) (qb1 (qp h.length Wd qhx) (qcO 0 r))):=by
  intro h i hi
  have I:=qo hi
  have U:Nat.ble h.length (h.length + 1) = true:=qj zo
  rw [PBi] at hi
  generalize hr:Wd (.fn 221 [] []) [.ptr i 0] h = R
  rw [ql 221 qxW] at hr
  simp only [qxW,sT.1,sC.1,qe,seval,-rN,qcN hw hn,qa8 hw hn,hs,hi,I,PBi,x4,qaa hw x2,h2,qa8 hw x2,h3,qaa hw n2,h4,U,Nd.dimE,Nd.cellsE,Nd.cutE,Nd.dims,Nd.len,Nd.stor,Nd.drainE,Nd.drop7,qcT] at hr
  generalize hq:qp h.length Wd (.loop qbj) _ = r at hr
  refine ⟨r,?_,?_⟩
  ·rw [<-hq]
   refine qkl hw i _ [x] _ o hT [⟨x,(word ws (n + 1)).pos⟩] _ _ (Eq.trans rfl rfl) (Nat.le_refl _) (by simpa using x3) n2 Y0 Y0 Y0 Y0 ?_ (qil.start I)
   simp only [sT.1,sC.1,seval,-rN,qfa]
  ·rw [<-hr]
   simp only [qlL,qhx,ao,an]
 cases o with
 | ok e' n'=>
  obtain ⟨r,q1,q2⟩:=run (List.replicate 1 (PB ws n)) 0 rfl
  have f0:=qm3 hw q1
  refine ⟨by have:=E _ _ rfl;omega,f0.1,f0.2.1,λh i hi=>?_⟩
  obtain ⟨r,q1,q2⟩:=run h i hi
  have f1:=qm3 hw q1
  exact q2.trans f1.2.2
 | no pos err n'=>
  obtain ⟨r,q1,q2⟩:=run (List.replicate 1 (PB ws n)) 0 rfl
  have f0:=qm3 hw q1
  refine ⟨f0.1,λh i hi=>?_⟩
  obtain ⟨r,q1,q2⟩:=run h i hi
  have f1:=qm3 hw q1
  exact q2.trans f1.2
end
section
variable {ws:List Tok} {n:Nat} {h:List qh} {i:Nat}
theorem Exp.lower (φ:Int->Nat->Bool) (e:Exp) (n:Nat):(e.enc φ).lower n = true:=by
 simp [Exp.enc,qd.lower,qm5]
theorem Exp.dimE (φ:Int->Nat->Bool) (e:Exp):(e.enc φ).dim = e.enc φ:=Eq.trans rfl rfl
theorem Exp.cellsE (φ:Int->Nat->Bool) (e:Exp):(e.enc φ).cells = e.cs φ:=Eq.trans rfl rfl
theorem Exp.drainE (φ:Int->Nat->Bool) (e:Exp) (j:Nat) (t:List qd):qbH (e.enc φ) j t = t:=rfl
theorem Exp.dims (φ:Int->Nat->Bool) (e:Exp):(e.cs φ).map qd.dim = e.cs φ:=by
 obtain ⟨op,k,name,sub,args⟩:=e
 simp [Exp.cs,qd.dim,fl]
 cases φ op args.length <;> rfl
theorem Exp.cut (φ:Int->Nat->Bool) (e:Exp):cut (e.cs φ) 0 (some 5) = some (e.enc φ):=by
 rw [qeR (by rw [Exp.cs_len];omega),List.drop_zero,List.take_of_length_le (by rw [Exp.cs_len];omega),Exp.dims]
 rfl
theorem Exp.stor (φ:Int->Nat->Bool) (e:Exp):(e.cs φ).all qd.storable = true:=qqZ φ e
def qqh (s:Str) (ws:List Tok):Prop:=∀h,Wd (.fn 40 [] []) [.str s] h = some (.ret (.tup [.lst (ws.map Tok.enc) .no,.int .i64 0,.int .i64 0]),h,false)
end
end Go.Proofs.YtcbfifamliijlaaGreatDoor.AE
namespace Go.AE
section
variable {k:Nat} {vs:List (List qd)}
theorem qwt {cs:List qd} (hd:∀c ∈ cs,c.dim = c):cs.map qd.dim = cs:=by
 induction cs with
 | nil=>rfl
 | cons c cs ih=>rw [List.map_cons,hd c List.mem_cons_self,ih λx hx=>hd x (List.mem_cons_of_mem _ hx)]
end
def qio (cs:List qd):Prop:=∀c ∈ cs,c.dim = c/\c.storable = true
theorem qio.dims {cs:List qd} (h:qio cs):cs.map qd.dim = cs:=qwt λc hc=>(h c hc).1
theorem qio.all {cs:List qd} (h:qio cs):cs.all qd.storable = true:=List.all_eq_true.2 λc hc=>(h c hc).2
section
variable {base k n id id2:Nat} {h:List qh} {row cs:List qd}
theorem qtR (h2:h[id2]? = some (.cells row)) (hk:row.length = k) (hs:qio row):qdx k h (.sl id2 0 1 1 0) = some (row,1):=by
 have:row.take k = row:=List.take_of_length_le zo
 simp [qdx,h2,hk,this,hs.dims]
theorem qqo (h2:h[id2]? = some (.cells row)) (hk:row.length = k) (hs:qio row):hop base (.app k) [.lst [] .full,.sl id2 0 1 1 0] h = some (.sl h.length 0 1 1 k,h ++ [.cells row],false):=by
 have e:qdx k h (.lst [] .full) = some ([],0):=rfl
 simp [hop,qfZ,qtR h2 hk hs,hs.all,e,qi]
theorem qu6 (h1:h[id]? = some (.cells cs)) (h2:h[id2]? = some (.cells row)) (hk:row.length = k) (hc:cs.length = n * k) (hs:qio row) (E:qio cs) (hn:n <= 100000) (U:k ≠ 0):hop base (.app k) [.sl id 0 n n k,.sl id2 0 1 1 0] h = some (.sl h.length 0 (n + 1) (n + 1) k,h.set id .dead ++ [.cells (cs ++ row)],false):=by
 have e:qdx k h (.sl id 0 n n k) = some (cs,n):=by
  have:cs.take (n * k) = cs:=List.take_of_length_le zo
  simp [qdx,h1,hc,this,E.dims]
 have hl:n + 1 <= qi:=by simp only [qi];omega
 have I:¬ n + 1 <= n:=zo
 simp only [hop,qfZ,qtR h2 hk hs,hs.all,e,h1,Bool.not_true,Bool.false_eq_true,if_false,Nat.succ_ne_zero,hl,I,if_true]
 simp [U,hc]
end
end Go.AE
namespace Go.Proofs.YtcbfifamliijlaaGreatDoor.AE
open Go.AE
def Cov (H:Nat->Option qh) (g:List qh):Prop:=∀i x,H i = some x->g[i]? = some x
theorem Cov.lt {H:Nat->Option qh} {g:List qh} (h:Cov H g) {i:Nat} {x:qh} (hi:H i = some x):i < g.length:=(List.getElem?_eq_some_iff.1 (h i x hi)).1
theorem Cov.more {H:Nat->Option qh} {g:List qh} (h:Cov H g) (l:List qh):Cov H (g ++ l):=λi x hi=>by
 rw [List.getElem?_append_left (h.lt hi)]
 exact h i x hi
theorem Cov.set {H:Nat->Option qh} {g:List qh} (h:Cov H g) {j:Nat} (hj:H j = none) (b:qh):Cov H (g.set j b):=λi x hi=>by
 have:j ≠ i:=λe=>by subst e;rw [hj] at hi;cases hi
 rw [List.getElem?_set_ne this]
 exact h i x hi
section
variable {base:Nat} {call:AE.Call} {dsts:List Nat} {s:St} {pend:List (Nat×Chk)}
end
inductive Exl where
 | mk (op n:Int) (nm sb:Str) (aS:List Exl)
def Exl.enc:Exl->List qd
 | .mk op n nm sb aS=>[.int .i64 op,.int .i64 n,.str nm,.str sb,.lst (aS.map λe=>.agg e.enc) .no]
def exV (e:Exl):qd:=.agg e.enc
theorem qbI (op n:Int) (nm sb:Str) (aS:List Exl):(Exl.mk op n nm sb aS).enc = [.int .i64 op,.int .i64 n,.str nm,.str sb,.lst (aS.map exV) .no]:=by rw [Exl.enc];rfl
theorem qt (op n:Int) (nm sb:Str) (aS:List Exl):exV (.mk op n nm sb aS) = .agg [.int .i64 op,.int .i64 n,.str nm,.str sb,.lst (aS.map exV) .no]:=by rw [exV,qbI]
def Fit:Nat->Exl->Prop
 | 0,_=>False
 | d + 1,.mk _ _ _ _ aS=>aS.length <= 20/\∀a ∈ aS,Fit d a
theorem cc1:((1:Nat):Int) = 1:=Eq.trans rfl rfl
theorem cc0:((0:Nat):Int) = 0:=Eq.trans rfl rfl
theorem w1:IntKind.i64.wrap 1 = 1:=zk
def sz:Nat->Exl->Nat
 | 0,_=>0
 | d + 1,.mk _ _ _ _ aS=>1 + (aS.map (sz d)).sum
def fB (nb mb sb:Bool) (lo hi n:Int) (nm sub:Str) (k:Nat):Bool:=(nb || n == 0) && ((mb || nm == []) && ((sb || sub == []) && (ile lo (k:Int) && ile (k:Int) hi)))
section
variable {h:List qh}
theorem qaq (op n:Int) (nm sub:Str) (aS:List qd) (nb mb sb:Bool) (lo hi:Int) :
  Wd (.fn 149 [] []) [.agg [.int .i64 op,.int .i64 n,.str nm,.str sub,.lst aS .no],.bool nb,.bool mb,.bool sb,.int .i64 lo,.int .i64 hi] h = some (.ret (.bool (fB nb mb sb lo hi n nm sub aS.length)),h,false):=by
 rw [ql 149 qzb]
 by_cases a1:nb = true\/(nb = false/\(n == 0) = true)
 ·by_cases a2:mb = true\/(mb = false/\(nm == []) = true)
  ·by_cases a3:sb = true\/(sb = false/\(sub == []) = true)
   ·cases c1:ile lo (aS.length:Int) <;>
    rcases a1 with rfl | ⟨rfl,b1⟩ <;> rcases a2 with rfl | ⟨rfl,b2⟩ <;> rcases a3 with rfl | ⟨rfl,b3⟩ <;> simp only [qzb,sT.1,sC.1,qe,qw,seval,-rN,fB, *]
   ·have e3:sb = false:=by cases sb <;> simp_all
    subst e3
    have b3:(sub == []) = false:=by cases hq:(sub == []) <;> simp_all
    rcases a1 with rfl | ⟨rfl,b1⟩ <;> rcases a2 with rfl | ⟨rfl,b2⟩ <;> simp only [qzb,sT.1,sC.1,qe,qw,seval,-rN,fB, *]
  ·have e3:mb = false:=by cases mb <;> simp_all
   subst e3
   have b3:(nm == []) = false:=by cases hq:(nm == []) <;> simp_all
   rcases a1 with rfl | ⟨rfl,b1⟩ <;> simp only [qzb,sT.1,sC.1,qe,qw,seval,-rN,fB, *]
 ·have e3:nb = false:=by cases nb <;> simp_all
  subst e3
  have b3:(n == 0) = false:=by cases hq:(n == 0) <;> simp_all
  simp only [qzb,sT.1,sC.1,qe,qw,seval,-rN,fB, *]
def nB0 (n:Int) (nm sub:Str) (k:Nat):Bool:=fB true false false 0 0 n nm sub k && ile 0 n
def nB1 (n:Int) (nm sub:Str) (k:Nat):Bool:=fB false false false 0 0 n nm sub k
def nB2 (n:Int) (nm sub:Str) (k:Nat):Bool:=fB false false false 0 0 n nm sub k
def nB3 (n:Int) (nm sub:Str) (k:Nat):Bool:=fB false true false 0 0 n nm sub k && qcx nm
def nB4 (n:Int) (nm sub:Str) (k:Nat):Bool:=fB false true false 0 0 n nm sub k && qy nm
def nB5 (n:Int) (nm sub:Str) (k:Nat):Bool:=fB false true true 0 0 n nm sub k && (qy nm && qy sub)
def nB6 (n:Int) (nm sub:Str) (k:Nat):Bool:=fB false false false 1 4 n nm sub k
def nB7 (n:Int) (nm sub:Str) (k:Nat):Bool:=fB false true false 0 0 n nm sub k && qy nm
def nB8 (n:Int) (nm sub:Str) (k:Nat):Bool:=fB false true false 0 0 n nm sub k && qy nm
def nB9 (n:Int) (nm sub:Str) (k:Nat):Bool:=fB false true false 0 0 n nm sub k && qy nm
def qHj (n:Int) (nm sub:Str) (k:Nat):Bool:=fB false true false 1 1 n nm sub k && qy nm
def qHk (n:Int) (nm sub:Str) (k:Nat):Bool:=fB false false false 0 0 n nm sub k
def qHl (n:Int) (nm sub:Str) (k:Nat):Bool:=fB true false false 1 1 n nm sub k && (ile 0 n && ilt n 4)
def qHm (n:Int) (nm sub:Str) (k:Nat):Bool:=fB false false false 1 1 n nm sub k
def qHn (n:Int) (nm sub:Str) (k:Nat):Bool:=fB false false false 1 1 n nm sub k
def qHo (n:Int) (nm sub:Str) (k:Nat):Bool:=fB false false false 2 2 n nm sub k
def qHp (n:Int) (nm sub:Str) (k:Nat):Bool:=fB false false false 2 2 n nm sub k
def qHq (n:Int) (nm sub:Str) (k:Nat):Bool:=fB false false false 2 2 n nm sub k
def qHr (n:Int) (nm sub:Str) (k:Nat):Bool:=fB false false false 2 2 n nm sub k
def qHs (n:Int) (nm sub:Str) (k:Nat):Bool:=fB false false false 2 2 n nm sub k
def qHt (n:Int) (nm sub:Str) (k:Nat):Bool:=fB false false false 2 2 n nm sub k
def qHu (n:Int) (nm sub:Str) (k:Nat):Bool:=fB false false false 2 2 n nm sub k
def qHv (n:Int) (nm sub:Str) (k:Nat):Bool:=fB false false false 2 2 n nm sub k
def qHw (n:Int) (nm sub:Str) (k:Nat):Bool:=fB false false false 2 2 n nm sub k
def qHx (n:Int) (nm sub:Str) (k:Nat):Bool:=fB false false false 2 2 n nm sub k
def qHy (n:Int) (nm sub:Str) (k:Nat):Bool:=fB false false false 3 3 n nm sub k
def qiv (op n:Int) (nm sub:Str) (k:Nat):Bool:=
 bif op == 0 then nB0 n nm sub k else 
 bif op == 1 then nB1 n nm sub k else 
 bif op == 2 then nB2 n nm sub k else 
 bif op == 3 then nB3 n nm sub k else 
 bif op == 4 then nB4 n nm sub k else 
 bif op == 5 then nB5 n nm sub k else 
 bif op == 6 then nB6 n nm sub k else 
 bif op == 7 then nB7 n nm sub k else 
 bif op == 8 then nB8 n nm sub k else 
 bif op == 9 then nB9 n nm sub k else 
 bif op == 10 then qHj n nm sub k else 
 bif op == 11 then qHk n nm sub k else 
 bif op == 12 then qHl n nm sub k else 
 bif op == 13 then qHm n nm sub k else 
 bif op == 14 then qHn n nm sub k else 
 bif op == 15 then qHo n nm sub k else 
 bif op == 16 then qHp n nm sub k else 
 bif op == 17 then qHq n nm sub k else 
 bif op == 18 then qHr n nm sub k else 
 bif op == 19 then qHs n nm sub k else 
 bif op == 20 then qHt n nm sub k else 
 bif op == 21 then qHu n nm sub k else 
 bif op == 22 then qHv n nm sub k else 
 bif op == 23 then qHw n nm sub k else 
 bif op == 24 then qHx n nm sub k else 
 bif op == 25 then qHy n nm sub k else false
def ND (h:List qh) (op:Int) (B:Int->Str->Str->Nat->Bool):Prop:=∀(n:Int) (nm sub:Str) (aS:List qd),Wd (.fn 102 [] []) [.agg [.int .i64 op,.int .i64 n,.str nm,.str sub,.lst aS .no]] h = some (.ret (.bool (B n nm sub aS.length)),h,false)
theorem qC2:ND h 0 nB0:=by
 intro n nm sub aS
 have hf:=λ(h:List qh)=>qaq (h:=h) 0 n nm sub aS true false false 0 0
 rw [ql 102 qb4]
 cases hF:fB true false false 0 0 n nm sub aS.length <;> simp only [qb4,sT.1,sC.1,qe,qw,seval,-rN,hf,hF,nB0]
theorem qC3:ND h 1 nB1:=by
 intro n nm sub aS
 have hf:=λ(h:List qh)=>qaq (h:=h) 1 n nm sub aS false false false 0 0
 rw [ql 102 qb4]
 cases hF:fB false false false 0 0 n nm sub aS.length <;> simp only [qb4,sT.1,sC.1,qe,seval,-rN,hf,hF,nB1]
theorem qC4:ND h 2 nB2:=by
 intro n nm sub aS
 have hf:=λ(h:List qh)=>qaq (h:=h) 2 n nm sub aS false false false 0 0
 rw [ql 102 qb4]
 cases hF:fB false false false 0 0 n nm sub aS.length <;> simp only [qb4,sT.1,sC.1,qe,seval,-rN,hf,hF,nB2]
theorem qC5:ND h 3 nB3:=by
 intro n nm sub aS
 have hf:=λ(h:List qh)=>qaq (h:=h) 3 n nm sub aS false true false 0 0
 rw [ql 102 qb4]
 cases hF:fB false true false 0 0 n nm sub aS.length <;> simp only [qb4,sT.1,sC.1,qe,qw,seval,-rN,hf,hF,nB3,qe7,qaz]
theorem qC6:ND h 4 nB4:=by
 intro n nm sub aS
 have hf:=λ(h:List qh)=>qaq (h:=h) 4 n nm sub aS false true false 0 0
 rw [ql 102 qb4]
 cases hF:fB false true false 0 0 n nm sub aS.length <;> simp only [qb4,sT.1,sC.1,qe,qw,seval,-rN,hf,hF,nB4,qe7,qaz]
theorem qC7:ND h 5 nB5:=by
 intro n nm sub aS
 have hf:=λ(h:List qh)=>qaq (h:=h) 5 n nm sub aS false true true 0 0
 rw [ql 102 qb4]
 cases hF:fB false true true 0 0 n nm sub aS.length <;> cases h1:qy nm <;> simp only [qb4,sT.1,sC.1,qe,qw,seval,-rN,hf,hF,nB5,qaz,h1]
theorem qC8:ND h 6 nB6:=by
 intro n nm sub aS
 have hf:=λ(h:List qh)=>qaq (h:=h) 6 n nm sub aS false false false 1 4
 rw [ql 102 qb4]
 cases hF:fB false false false 1 4 n nm sub aS.length <;> simp only [qb4,sT.1,sC.1,qe,seval,-rN,hf,hF,nB6]
theorem qC9:ND h 7 nB7:=by
 intro n nm sub aS
 have hf:=λ(h:List qh)=>qaq (h:=h) 7 n nm sub aS false true false 0 0
 rw [ql 102 qb4]
 cases hF:fB false true false 0 0 n nm sub aS.length <;> simp only [qb4,sT.1,sC.1,qe,qw,seval,-rN,hf,hF,nB7,qe7,qaz]
theorem qDa:ND h 8 nB8:=by
 intro n nm sub aS
 have hf:=λ(h:List qh)=>qaq (h:=h) 8 n nm sub aS false true false 0 0
 rw [ql 102 qb4]
 cases hF:fB false true false 0 0 n nm sub aS.length <;> simp only [qb4,sT.1,sC.1,qe,qw,seval,-rN,hf,hF,nB8,qe7,qaz]
theorem qDb:ND h 9 nB9:=by
 intro n nm sub aS
 have hf:=λ(h:List qh)=>qaq (h:=h) 9 n nm sub aS false true false 0 0
 rw [ql 102 qb4]
 cases hF:fB false true false 0 0 n nm sub aS.length <;> simp only [qb4,sT.1,sC.1,qe,qw,seval,-rN,hf,hF,nB9,qe7,qaz]
theorem qAq:ND h 10 qHj:=by
 intro n nm sub aS
 have hf:=λ(h:List qh)=>qaq (h:=h) 10 n nm sub aS false true false 1 1
 rw [ql 102 qb4]
 cases hF:fB false true false 1 1 n nm sub aS.length <;> simp only [qb4,sT.1,sC.1,qe,qw,seval,-rN,hf,hF,qHj,qaz]
theorem qAr:ND h 11 qHk:=by
 intro n nm sub aS
 have hf:=λ(h:List qh)=>qaq (h:=h) 11 n nm sub aS false false false 0 0
 rw [ql 102 qb4]
 cases hF:fB false false false 0 0 n nm sub aS.length <;> simp only [qb4,sT.1,sC.1,qe,seval,-rN,hf,hF,qHk]
theorem qAs:ND h 12 qHl:=by
 intro n nm sub aS
 have hf:=λ(h:List qh)=>qaq (h:=h) 12 n nm sub aS true false false 1 1
 rw [ql 102 qb4]
 cases hF:fB true false false 1 1 n nm sub aS.length <;> cases h1:ile 0 n <;> simp only [qb4,sT.1,sC.1,qe,qw,seval,-rN,hf,hF,qHl,h1]
theorem qAt:ND h 13 qHm:=by
 intro n nm sub aS
 have hf:=λ(h:List qh)=>qaq (h:=h) 13 n nm sub aS false false false 1 1
 rw [ql 102 qb4]
 cases hF:fB false false false 1 1 n nm sub aS.length <;> simp only [qb4,sT.1,sC.1,qe,seval,-rN,hf,hF,qHm]
theorem qAu:ND h 14 qHn:=by
 intro n nm sub aS
 have hf:=λ(h:List qh)=>qaq (h:=h) 14 n nm sub aS false false false 1 1
 rw [ql 102 qb4]
 cases hF:fB false false false 1 1 n nm sub aS.length <;> simp only [qb4,sT.1,sC.1,qe,seval,-rN,hf,hF,qHn]
theorem qAv:ND h 15 qHo:=by
 intro n nm sub aS
 have hf:=λ(h:List qh)=>qaq (h:=h) 15 n nm sub aS false false false 2 2
 rw [ql 102 qb4]
 cases hF:fB false false false 2 2 n nm sub aS.length <;> simp only [qb4,sT.1,sC.1,qe,seval,-rN,hf,hF,qHo]
theorem qAw:ND h 16 qHp:=by
 intro n nm sub aS
 have hf:=λ(h:List qh)=>qaq (h:=h) 16 n nm sub aS false false false 2 2
 rw [ql 102 qb4]
 cases hF:fB false false false 2 2 n nm sub aS.length <;> simp only [qb4,sT.1,sC.1,qe,seval,-rN,hf,hF,qHp]
theorem qAx:ND h 17 qHq:=by
 intro n nm sub aS
 have hf:=λ(h:List qh)=>qaq (h:=h) 17 n nm sub aS false false false 2 2
 rw [ql 102 qb4]
 cases hF:fB false false false 2 2 n nm sub aS.length <;> simp only [qb4,sT.1,sC.1,qe,seval,-rN,hf,hF,qHq]
theorem qAy:ND h 18 qHr:=by
 intro n nm sub aS
 have hf:=λ(h:List qh)=>qaq (h:=h) 18 n nm sub aS false false false 2 2
 rw [ql 102 qb4]
 cases hF:fB false false false 2 2 n nm sub aS.length <;> simp only [qb4,sT.1,sC.1,qe,seval,-rN,hf,hF,qHr]
theorem qAz:ND h 19 qHs:=by
 intro n nm sub aS
 have hf:=λ(h:List qh)=>qaq (h:=h) 19 n nm sub aS false false false 2 2
 rw [ql 102 qb4]
 cases hF:fB false false false 2 2 n nm sub aS.length <;> simp only [qb4,sT.1,sC.1,qe,seval,-rN,hf,hF,qHs]
theorem qAA:ND h 20 qHt:=by
 intro n nm sub aS
 have hf:=λ(h:List qh)=>qaq (h:=h) 20 n nm sub aS false false false 2 2
 rw [ql 102 qb4]
 cases hF:fB false false false 2 2 n nm sub aS.length <;> simp only [qb4,sT.1,sC.1,qe,seval,-rN,hf,hF,qHt]
theorem qAB:ND h 21 qHu:=by
 intro n nm sub aS
 have hf:=λ(h:List qh)=>qaq (h:=h) 21 n nm sub aS false false false 2 2
 rw [ql 102 qb4]
 cases hF:fB false false false 2 2 n nm sub aS.length <;> simp only [qb4,sT.1,sC.1,qe,seval,-rN,hf,hF,qHu]
theorem qAC:ND h 22 qHv:=by
 intro n nm sub aS
 have hf:=λ(h:List qh)=>qaq (h:=h) 22 n nm sub aS false false false 2 2
 rw [ql 102 qb4]
 cases hF:fB false false false 2 2 n nm sub aS.length <;> simp only [qb4,sT.1,sC.1,qe,seval,-rN,hf,hF,qHv]
theorem qAD:ND h 23 qHw:=by
 intro n nm sub aS
 have hf:=λ(h:List qh)=>qaq (h:=h) 23 n nm sub aS false false false 2 2
 rw [ql 102 qb4]
 cases hF:fB false false false 2 2 n nm sub aS.length <;> simp only [qb4,sT.1,sC.1,qe,seval,-rN,hf,hF,qHw]
theorem qAE:ND h 24 qHx:=by
 intro n nm sub aS
 have hf:=λ(h:List qh)=>qaq (h:=h) 24 n nm sub aS false false false 2 2
 rw [ql 102 qb4]
 cases hF:fB false false false 2 2 n nm sub aS.length <;> simp only [qb4,sT.1,sC.1,qe,seval,-rN,hf,hF,qHx]
theorem qAF:ND h 25 qHy:=by
 intro n nm sub aS
 have hf:=λ(h:List qh)=>qaq (h:=h) 25 n nm sub aS false false false 3 3
 rw [ql 102 qb4]
 cases hF:fB false false false 3 3 n nm sub aS.length <;> simp only [qb4,sT.1,sC.1,qe,seval,-rN,hf,hF,qHy]
theorem qIT {op:Int} (ho:¬ (0 <= op/\op <= 25)):(op == 0) = false/\(op == 1) = false/\(op == 2) = false/\(op == 3) = false/\(op == 4) = false/\(op == 5) = false/\(op == 6) = false/\(op == 7) = false/\(op == 8) = false/\(op == 9) = false/\(op == 10) = false/\(op == 11) = false/\(op == 12) = false/\(op == 13) = false/\(op == 14) = false/\(op == 15) = false/\(op == 16) = false/\(op == 17) = false/\(op == 18) = false/\(op == 19) = false/\(op == 20) = false/\(op == 21) = false/\(op == 22) = false/\(op == 23) = false/\(op == 24) = false/\(op == 25) = false:=by
 refine ⟨?_,?_,?_,?_,?_,?_,?_,?_,?_,?_,?_,?_,?_,?_,?_,?_,?_,?_,?_,?_,?_,?_,?_,?_,?_,?_⟩ <;> rw [beq_eq_false_iff_ne] <;> omega
theorem qdW {op:Int} (ho:¬ (0 <= op/\op <= 25)) (n:Int) (nm sub:Str) (k:Nat):qiv op n nm sub k = false:=by
 simp only [qiv,qIT ho,cond_false]
theorem qAH {op:Int} (ho:¬ (0 <= op/\op <= 25)) (n:Int) (nm sub:Str) (aS:List qd):Wd (.fn 102 [] []) [.agg [.int .i64 op,.int .i64 n,.str nm,.str sub,.lst aS .no]] h = some (.ret (.bool false),h,false):=by
 rw [ql 102 qb4]
 simp only [qb4,sT.1,sC.1,qe,seval,-rN,qIT ho]
theorem qDd (op n:Int) (nm sub:Str) (aS:List qd):Wd (.fn 102 [] []) [.agg [.int .i64 op,.int .i64 n,.str nm,.str sub,.lst aS .no]] h = some (.ret (.bool (qiv op n nm sub aS.length)),h,false):=by
 by_cases ho:0 <= op/\op <= 25
 ·have:op = 0\/op = 1\/op = 2\/op = 3\/op = 4\/op = 5\/op = 6\/op = 7\/op = 8\/op = 9\/op = 10\/op = 11\/op = 12\/op = 13\/op = 14\/op = 15\/op = 16\/op = 17\/op = 18\/op = 19\/op = 20\/op = 21\/op = 22\/op = 23\/op = 24\/op = 25:=zo
  rcases this with rfl | rfl | rfl | rfl | rfl | rfl | rfl | rfl | rfl | rfl | rfl | rfl | rfl | rfl | rfl | rfl | rfl | rfl | rfl | rfl | rfl | rfl | rfl | rfl | rfl | rfl
  ·exact qC2 n nm sub aS
  ·exact qC3 n nm sub aS
  ·exact qC4 n nm sub aS
  ·exact qC5 n nm sub aS
  ·exact qC6 n nm sub aS
  ·exact qC7 n nm sub aS
  ·exact qC8 n nm sub aS
  ·exact qC9 n nm sub aS
  ·exact qDa n nm sub aS
  ·exact qDb n nm sub aS
  ·exact qAq n nm sub aS
  ·exact qAr n nm sub aS
  ·exact qAs n nm sub aS
  ·exact qAt n nm sub aS
  ·exact qAu n nm sub aS
  ·exact qAv n nm sub aS
  ·exact qAw n nm sub aS
  ·exact qAx n nm sub aS
  ·exact qAy n nm sub aS
  ·exact qAz n nm sub aS
  ·exact qAA n nm sub aS
  ·exact qAB n nm sub aS
  ·exact qAC n nm sub aS
  ·exact qAD n nm sub aS
  ·exact qAE n nm sub aS
  ·exact qAF n nm sub aS
 ·rw [qdW ho]
  exact qAH ho n nm sub aS
end
def right:Nat->Exl->Bool
 | 0,_=>false
 | d + 1,.mk op n nm sub aS=>qiv op n nm sub aS.length && aS.all (right d)
theorem qiK {a b:Int} (h:a < b):ilt a b = true:=by rw [qX];exact decide_eq_true h
theorem qis {a b:Int} (h:¬ a < b):ilt a b = false:=by rw [qX];exact decide_eq_false h
theorem qv1 {a b:Int} (h:a <= b):ile a b = true:=by rw [qav];exact decide_eq_true h
theorem quQ {a b:Int} (h:¬ a <= b):ile a b = false:=by rw [qav];exact decide_eq_false h
def dOK:Nat->Exl->Bool
 | 0,_=>false
 | m + 1,.mk _ _ _ _ aS=>aS.all (dOK m)
theorem qi4:∀(d:Nat) (e:Exl),right d e = true->dOK d e = true
 | 0,_,h=>by rw [right] at h;cases h
 | d + 1,.mk op n nm sub aS,h=>by
  rw [right,jk,List.all_eq_true] at h
  rw [dOK,List.all_eq_true]
  exact λa ha=>qi4 d a (h.2 a ha)
theorem qKP:∀(m:Nat),m <= 100->∀(e:Exl) (h:List qh),(∃k,Fit k e)->∃v:Nat,Wd (.fn 66 [] []) [exV e,.int .i64 (m:Nat)] h = some (.ret (.int .i64 (v:Nat)),h,false)/\1 <= v/\v <= m + 1/\decide (v <= m) = dOK m e:=by
 intro m
 induction m with
 | zero=>
  rintro _ ⟨op,n,nm,sub,aS⟩ h _
  have z0:ile ((0:Nat):Int) 0 = true:=zk
  have w0:IntKind.i64.wrap (((0:Nat):Int) + 1) = ((1:Nat):Int):=zk
  refine ⟨1,?_,zo,zo,by rw [dOK];rfl⟩
  rw [qt,ql 66 c66]
  simp only [c66,sT.1,sC.1,qe,seval,-rN,z0,w0]
 | succ m ih=>
  rintro hm ⟨op,n,nm,sub,aS⟩ h ⟨k,hk⟩
  have ih:=ih zo
  obtain ⟨k,rfl⟩ :∃k',k = k' + 1:=by cases k with | zero=>exact hk.elim | succ k=>exact ⟨k,rfl⟩
  have hl:aS.length <= 20:=hk.1
  have hf:∀a ∈ aS,∃k,Fit k a:=λa ha=>⟨k,hk.2 a ha⟩
  have z0:ile ((m + 1:Nat):Int) 0 = false:=quQ zo
  have z1:IntKind.i64.wrap (((m + 1:Nat):Int) - 1) = ((m:Nat):Int):=by rw [qbi zo zo];omega
  rw [dOK,qt]
  have loop:∀q st,(∃(tt:List qd) (G:List qh) (i qcz:Nat),st = ⟨tt,G,false⟩/\tt.length = 32/\G.take h.length = h/\h.length <= G.length/\lkp tt 1 = .int .i64 (m + 1:Nat)/\lkp tt 5 = .int .i64 (qcz:Nat)/\lkp tt 13 = .lst (aS.map exV) .no/\lkp tt 14 = .int .i64 (aS.length:Nat)/\lkp tt 15 = .int .i64 (i:Nat)/\i + q = aS.length/\1 <= qcz/\qcz <= m + 1/\(aS.drop i).all (dOK m) = aS.all (dOK m))->
    ∃x E,qp h.length Wd (.loop qmh) st = some (x,E)/\(∃(tt:List qd) (G:List qh),E = ⟨tt,G,false⟩/\tt.length = 32/\G.take h.length = h/\((x = .exit 0/\aS.all (dOK m) = true/\∃qcz:Nat,lkp tt 5 = .int .i64 (qcz:Nat)/\1 <= qcz/\qcz <= m + 1)\/(x = .ret/\aS.all (dOK m) = false/\lkp tt 4 = .int .i64 (m + 2:Nat)))):=by
   refine qao _ (λx E=>∃(tt:List qd) (G:List qh),E = ⟨tt,G,false⟩/\tt.length = 32/\G.take h.length = h/\((x = .exit 0/\aS.all (dOK m) = true/\∃qcz:Nat,lkp tt 5 = .int .i64 (qcz:Nat)/\1 <= qcz/\qcz <= m + 1)\/(x = .ret/\aS.all (dOK m) = false/\lkp tt 4 = .int .i64 (m + 2:Nat)))) ?_
   rintro q st ⟨tt,G,i,qcz,rfl,ht,a1,Y,e1,e5,a7,U,a6,ak,ai,af,hR⟩
   generalize he:qp h.length Wd qmh _ = r
   rcases Nat.lt_or_ge i aS.length with hi | hi
   ·have c1:ilt (i:Int) (aS.length:Int) = true:=qiK zo
    have w:=qC (n:=i) zo
    obtain ⟨v,hv,v1,v2,v3⟩:=ih aS[i] (G ++ [.cells (aS[i]).enc]) (hf _ (List.getElem_mem hi))
    have hg:(aS.map exV)[i]? = some (exV aS[i]):=by rw [jr,jh hi];rfl
    rw [jU hi,jB,<-v3] at hR
    generalize aS[i] = y at hv hg
    obtain ⟨ab,n',ac,aa,aj⟩:=y
    rw [qt] at hg
    rw [qt,qbI] at hv
    have hx:qfH 5 (.lst (aS.map exV) .no) (.int .i64 (i:Nat)) = some (.iptr [.int .i64 ab,.int .i64 n',.str ac,.str aa,.lst (aj.map exV) .no] 0):=qar hg rfl
    have a8:Nat.ble h.length G.length = true:=qj Y
    have w1:IntKind.i64.wrap (1 + (v:Int)) = ((v + 1:Nat):Int):=by rw [qbi zo zo];omega
    have mx:(if ((v + 1:Nat):Int) > (qcz:Int) then ((v + 1:Nat):Int) else (qcz:Int)) = ((max qcz (v + 1):Nat):Int):=by split <;> omega
    cases hb:decide (v <= m) with
    | true=>
     have ad:v <= m:=of_decide_eq_true hb
     rw [hb,jZ] at hR
     have c2:ilt ((m + 1:Nat):Int) ((max qcz (v + 1):Nat):Int) = false:=qis zo
     simp only [qmh,sT.1,sC.1,qe,seval,-rN,ht,e1,e5,a7,U,a6,c1,hx,a8,hv,z1,w1,c2,w] at he
     subst he
     refine .inl ⟨_,q - 1,rfl,zo,_,_,i + 1,max qcz (v + 1),rfl,Y1,by rw [jS Y,a1],by simp;omega,?_,?_,?_,?_,?_,zo,zo,zo,hR⟩
     ·simp only [sT.1,sC.1,seval,-rN,e1]
     ·simp only [sT.1,sC.1,seval,-rN,ht]
     ·simp only [sT.1,sC.1,seval,-rN,a7]
     ·simp only [sT.1,sC.1,seval,-rN,U]
     ·simp only [sT.1,seval,-rN,ht]
    | false=>
     have ad:¬ v <= m:=of_decide_eq_false hb
     rw [hb,jL] at hR
     have ae:max qcz (v + 1) = m + 2:=zo
     have c2:ilt ((m + 1:Nat):Int) ((max qcz (v + 1):Nat):Int) = true:=qiK zo
     simp only [qmh,sT.1,sC.1,qe,seval,-rN,ht,e1,e5,a7,U,a6,c1,hx,a8,hv,z1,w1,c2] at he
     subst he
     refine .inr ⟨_,_,rfl,by simp,_,_,rfl,?_,?_,.inr ⟨rfl,hR.symm,?_⟩⟩
     ·simp only [qcq,ht]
     ·rw [jS Y,a1]
     ·simp only [sT.1,seval,-rN,ht,ae]
   ·have c1:ilt (i:Int) (aS.length:Int) = false:=qis zo
    rw [List.drop_eq_nil_of_le hi,jC] at hR
    simp only [qmh,sT.1,sC.1,qe,seval,-rN,ht,U,a6,c1] at he
    subst he
    exact .inr ⟨_,_,rfl,by simp,_,_,rfl,Y1,a1,.inl ⟨rfl,hR.symm,qcz,x8,ai,af⟩⟩
  generalize hw:Wd _ _ h = w
  rw [ql 66 c66] at hw
  simp only [c66,sT.1,sC.1,qe,seval,-rN,z0,jQ] at hw
  generalize hr:qp h.length Wd (.loop qmh) _ = r at hw
  obtain ⟨x,E,rfl,tt,G,rfl,ht,hG,hq⟩:=qc0 hr (loop aS.length _ ⟨_,_,0,1,rfl,Y0,by simp,by simp,Y0,by simp only [sT.1,sC.1,seval,-rN];rfl,Y0,Y0,v5,zo,zo,zo,rfl⟩)
  rcases hq with ⟨rfl,I,qcz,e5,b1,b2⟩ | ⟨rfl,I,e4⟩
  ·simp only [sT.1,sC.1,qe,seval,-rN,ht,e5] at hw
   subst hw
   refine ⟨qcz,congrArg some (qbb hG rfl),b1,zo,?_⟩
   rw [I]
   exact decide_eq_true zo
  ·simp only [sT.1,seval,-rN,e4] at hw
   subst hw
   refine ⟨m + 2,congrArg some (qbb hG rfl),zo,zo,?_⟩
   rw [I]
   exact decide_eq_false zo
def qBL (d:Nat):Prop:=∀(e:Exl) (h:List qh),(∃k,Fit k e)->dOK d e = true->Wd (.fn 67 [] []) [exV e] h = some (.ret (.bool (right d e)),h,false)
theorem qI6 {d:Nat} (hn:qBL d) (aS:List Exl) (hl:aS.length <= 20) (hf:∀a ∈ aS,∃k,Fit k a) (hD:∀a ∈ aS,dOK d a = true) (h:List qh) :
  Wd (.fn 84 [] []) [.lst (aS.map exV) .no,.fn 67 [] []] h = some (.ret (.bool (aS.all (right d))),h,false):=by
 have loop:∀q st,(∃(tt:List qd) (G:List qh) (i:Nat),st = ⟨tt,G,false⟩/\tt.length = 18/\G.take h.length = h/\h.length <= G.length/\lkp tt 1 = .fn 67 [] []/\lkp tt 7 = .lst (aS.map exV) .no/\lkp tt 8 = .int .i64 (aS.length:Nat)/\lkp tt 9 = .int .i64 (i:Nat)/\i + q = aS.length/\(aS.drop i).all (right d) = aS.all (right d))->
   ∃x E,qp h.length Wd (.loop qmi) st = some (x,E)/\(∃(tt:List qd) (G:List qh),E = ⟨tt,G,false⟩/\tt.length = 18/\G.take h.length = h/\((x = .exit 0/\aS.all (right d) = true)\/(x = .ret/\aS.all (right d) = false/\lkp tt 4 = .bool false))):=by
  refine qao _ (λx E=>∃(tt:List qd) (G:List qh),E = ⟨tt,G,false⟩/\tt.length = 18/\G.take h.length = h/\((x = .exit 0/\aS.all (right d) = true)\/(x = .ret/\aS.all (right d) = false/\lkp tt 4 = .bool false))) ?_
  rintro q st ⟨tt,G,i,rfl,ht,Y,U,e1,e7,e8,e9,ab,hR⟩
  generalize he:qp h.length Wd qmi _ = r
  rcases Nat.lt_or_ge i aS.length with hi | hi
  ·have c1:ilt (i:Int) (aS.length:Int) = true:=qiK zo
   have w:=qC (n:=i) zo
   have hv:=hn aS[i] (G ++ [.cells (aS[i]).enc]) (hf _ (List.getElem_mem hi)) (hD _ (List.getElem_mem hi))
   have hg:(aS.map exV)[i]? = some (exV aS[i]):=by rw [jr,jh hi];rfl
   rw [jU hi,jB] at hR
   generalize aS[i] = y at hv hg hR
   obtain ⟨a6,n',a7,a1,aa⟩:=y
   rw [qt] at hg
   rw [qt,qbI] at hv
   have hx:qfH 5 (.lst (aS.map exV) .no) (.int .i64 (i:Nat)) = some (.iptr [.int .i64 a6,.int .i64 n',.str a7,.str a1,.lst (aa.map exV) .no] 0):=qar hg rfl
   have a8:Nat.ble h.length G.length = true:=qj U
   cases hb:right d (.mk a6 n' a7 a1 aa) with
   | true=>
    rw [hb,jZ] at hR
    rw [hb] at hv
    simp only [qmi,sT.1,sC.1,qe,seval,-rN,ht,e1,e7,e8,e9,c1,hx,a8,hv,w] at he
    subst he
    refine .inl ⟨_,q - 1,rfl,zo,_,_,i + 1,rfl,Y1,by rw [jS U,Y],by simp;omega,?_,?_,?_,?_,zo,hR⟩
    ·simp only [sT.1,sC.1,seval,-rN,e1]
    ·simp only [sT.1,sC.1,seval,-rN,e7]
    ·simp only [sT.1,sC.1,seval,-rN,e8]
    ·simp only [sT.1,seval,-rN,ht]
   | false=>
    rw [hb,jL] at hR
    rw [hb] at hv
    simp only [qmi,sT.1,sC.1,qe,seval,-rN,ht,e1,e7,e8,e9,c1,hx,a8,hv] at he
    subst he
    refine .inr ⟨_,_,rfl,by simp,_,_,rfl,?_,?_,.inr ⟨rfl,hR.symm,?_⟩⟩
    ·simp only [qcq,ht]
    ·rw [jS U,Y]
    ·simp only [sT.1,seval,-rN,ht]
  ·have c1:ilt (i:Int) (aS.length:Int) = false:=qis zo
   rw [List.drop_eq_nil_of_le hi,jC] at hR
   simp only [qmi,sT.1,sC.1,qe,seval,-rN,ht,e8,e9,c1] at he
   subst he
   exact .inr ⟨_,_,rfl,by simp,_,_,rfl,Y1,Y,.inl ⟨rfl,hR.symm⟩⟩
 generalize hw:Wd _ _ h = w
 rw [ql 84 c84] at hw
 simp only [c84,sT.1,sC.1,qe,seval,-rN,jQ] at hw
 generalize hr:qp h.length Wd (.loop qmi) _ = r at hw
 obtain ⟨x,E,rfl,tt,G,rfl,ht,hG,hq⟩:=qc0 hr (loop aS.length _ ⟨_,_,0,rfl,Y0,by simp,by simp,Y0,Y0,Y0,v5,zo,rfl⟩)
 rcases hq with ⟨rfl,I⟩ | ⟨rfl,I,e4⟩
 ·simp only [sT.1,sC.1,qe,seval,-rN,ht] at hw
  subst hw
  rw [I]
  exact congrArg some (qbb hG rfl)
 ·simp only [sT.1,seval,-rN,e4] at hw
  subst hw
  rw [I]
  exact congrArg some (qbb hG rfl)
theorem qHB:∀d,qBL d:=by
 intro d
 induction d with
 | zero=>
  rintro e h _ hd
  rw [dOK] at hd
  cases hd
 | succ d ih=>
  rintro ⟨op,n,nm,sub,aS⟩ h ⟨k,hk⟩ hd
  obtain ⟨k,rfl⟩ :∃k',k = k' + 1:=by cases k with | zero=>exact hk.elim | succ k=>exact ⟨k,rfl⟩
  have hf:∀a ∈ aS,∃k,Fit k a:=λa ha=>⟨k,hk.2 a ha⟩
  rw [dOK,List.all_eq_true] at hd
  have ha:=λg=>qI6 ih aS hk.1 hf hd g
  have hn:=λg=>qDd (h:=g) op n nm sub (aS.map exV)
  rw [jQ] at hn
  rw [qt,right,ql 67 c67]
  cases hb:qiv op n nm sub aS.length with
  | false=>simp only [c67,sT.1,sC.1,qe,qw,seval,-rN,hn,hb]
  | true=>simp only [c67,sT.1,sC.1,qe,qw,seval,-rN,hn,hb,ha]
theorem qvS (e:Exl) (h:List qh) (hk:∃k,Fit k e):Wd (.fn 27 [] []) [exV e] h = some (.ret (.bool (right 20 e)),h,false):=by
 obtain ⟨v,hv,v1,v2,v3⟩:=qKP 20 zo e (h ++ [.cells e.enc]) hk
 have hn:=λhd g=>qHB 20 e g hk hd
 have c20:((20:Nat):Int) = 20:=Eq.trans rfl rfl
 rw [c20] at hv
 cases hd:dOK 20 e with
 | false=>
  rw [hd] at v3
  have hr:right 20 e = false:=by
   cases hr:right 20 e with
   | false=>rfl
   | true=>rw [qi4 _ _ hr] at hd;cases hd
  have c1:ile (v:Int) 20 = false:=by have:=of_decide_eq_false v3;exact quQ zo
  rw [hr]
  obtain ⟨op,n,nm,sub,aS⟩:=e
  rw [qt,qbI] at hv
  rw [qt,ql 27 c27]
  simp only [c27,sT.1,sC.1,qe,qw,seval,-rN,hv,c1]
 | true=>
  have hn:=hn hd
  rw [hd] at v3
  have c1:ile (v:Int) 20 = true:=by have:=of_decide_eq_true v3;exact qv1 zo
  obtain ⟨op,n,nm,sub,aS⟩:=e
  rw [qt,qbI] at hv
  rw [qt] at hn
  rw [qt,ql 27 c27]
  simp only [c27,sT.1,sC.1,qe,qw,seval,-rN,hv,c1,hn]
end Go.Proofs.YtcbfifamliijlaaGreatDoor.AE
