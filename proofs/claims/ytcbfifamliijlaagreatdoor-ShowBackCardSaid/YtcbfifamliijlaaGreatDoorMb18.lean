/- A part of the proof. No condition. -/
import Derived.Test.YtcbfifamliijlaaGreatDoorMb17
import Derived.Test.YtcbfifamliijlaaGreatDoorMb7
import Derived.Test.YtcbfifamliijlaaGreatDoorMb11
open Int renaming reduceNatCast'→rN
set_option maxRecDepth 100000
open List renaming getElem?_append_left→ja,getElem?_eq_some_iff→jd,take_append_of_le_length→jS,take_set_of_le→jT,getElem?_set_ne→jf,getElem?_set_self→jg,drop_eq_getElem_cons→jU,getElem?_eq_getElem→jh,length_append→ji,length_map→jQ,append_assoc→jp,append_nil→jF,map_append→jX,getElem?_eq_none→jq,mem_singleton→jY,cons_append→jw,length_cons→jy
open Bool renaming and_eq_true→jk,false_eq_true→jl,eq_false_iff→j8
open Nat renaming le_refl→jm,add_assoc→jt
namespace Go.Proofs.YtcbfifamliijlaaGreatDoor.AE
open Go.AE
def qmY (s:Str) (j:Nat) (t:Tok) (to:Nat) (e:Int):Prop:=∀h,Wd (.fn 130 [] []) [.str s,.int .i64 (j:Nat)] h = some (.ret (.tup [qbL t.kind t.s t.n t.pos,.int .i64 (to:Nat),.int .i64 e]),h,false)
inductive qhu (s:Str):Nat->List Tok->Option (Int×Int)->Prop
 | last {i j t to}:qin s i j->qmY s j t to 0->(t.kind == 4) = true->qhu s i [t] none
 | err {i j t to e}:qin s i j->qmY s j t to e->(e == 0) = false->qhu s i [] (some (t.pos,e))
 | next {i j t to ts o}:qin s i j->qmY s j t to 0->(t.kind == 4) = false->qhu s to ts o->qhu s i (t :: ts) o
section
variable {s:Str} {base a b q l:Nat} {tab:List qd}
structure qjj (s:Str) (a q b l:Nat) (tab:List qd) (xs:List Tok) (H:List qh):Prop where
 r0:H[a]? = some (.cells [.lst [] .full])
 r1:H[a + 1]? = some (.cells [.int .i64 0])
 r2:H[a + 1 + 1]? = some (.cells [.int .i64 0])
 lst:∃f,((f = .full/\xs = [])\/f = .own 4)/\H[q]? = some (.cells [.lst (xs.map Tok.enc) f])
 txt:H[b]? = some (.cells [.str s])
 box:H[l]? = some (.loop tab [10,11] qbs qdM .ready none)
 ord:a + 1 + 1 < q/\q < b/\b < l
theorem qlm (xs:List Tok):∀x ∈ xs.map Tok.enc,x.cells.length = 4:=by
 intro x hx
 obtain ⟨t,_,rfl⟩:=List.mem_map.1 hx
 rfl
theorem qeL (m:Nat):∀xs:List Tok,qv m (xs.map Tok.enc) = true
 | []=>rfl
 | t :: xs=>by rw [List.map_cons,qdS,qeL m xs];rfl
def qdi (a q l:Nat) (tab:List qd) (H H':List qh) (xs:List Tok):Option (Int×Int)->Prop
 | none=>H'.take (l + 1) = (H.set q (.cells [.lst (xs.map Tok.enc) (.own 4)])).take (l + 1)
 | some (p,e)=>∃c,H'.take (l + 1) = (((((H.set q c).set a (.cells [.lst [] .full])).set (a + 1) (.cells [.int .i64 p])).set (a + 1 + 1) (.cells [.int .i64 e])).set l (.loop tab [10,11] qbs qdM .done (some .ret))).take (l + 1)
theorem qjj.next {xs:List Tok} {H:List qh} (hl:qjj s a q b l tab xs H) (t:Tok) (c:qh):qjj s a q b l tab (xs ++ [t]) ((H ++ [c]).set q (.cells [.lst ((xs ++ [t]).map Tok.enc) (.own 4)])):=by
 obtain ⟨h0,h1,h2,⟨f,_,h3⟩,h4,h5,o⟩:=hl
 have E:l < H.length:=(jd.1 h5).1
 refine ⟨?_,?_,?_,⟨_,.inr rfl,?_⟩,?_,?_,o⟩
 ·rw [jf zo,ja zo,h0]
 ·rw [jf zo,ja zo,h1]
 ·rw [jf zo,ja zo,h2]
 ·rw [jg (by simp;omega)]
 ·rw [jf zo,ja zo,h4]
 ·rw [jf zo,ja zo,h5]
theorem qjj.grow {xs:List Tok} {H:List qh} (hl:qjj s a q b l tab xs H) (c:qh):qjj s a q b l tab xs (H ++ [c]):=by
 obtain ⟨h0,h1,h2,⟨f,hf,h3⟩,h4,h5,o⟩:=hl
 have E:l < H.length:=(jd.1 h5).1
 refine ⟨?_,?_,?_,⟨f,hf,?_⟩,?_,?_,o⟩
 all_goals rw [ja zo]
 ·exact h0
 ·exact h1
 ·exact h2
 ·exact h3
 ·exact h4
 ·exact h5
theorem qu2 (hx:qdh) (hs:s.length <= 100000) (t22:tab.length = 22) (p2:lkp tab 2 = .ptr a 0) (p3:lkp tab 3 = .ptr (a + 1) 0) (p4:lkp tab 4 = .ptr (a + 1 + 1) 0) (p5:lkp tab 5 = .ptr q 0) {i:Nat} {ts:List Tok} {o:Option (Int×Int)} (hW:qhu s i ts o) :
  ∀(xs:List Tok) (H:List qh) (tt:List qd),qjj s a q b l tab xs H->xs.length + ts.length <= 100000->base <= H.length->tt.length = 37->lkp tt 0 = .yld l->lkp tt 1 = .ptr b 0->lkp tt 3 = .int .i64 (i:Nat)->
   ∃I H',qp base Wd (.loop qf3) ⟨tt,H,false⟩ = some (.ret,⟨I,H',false⟩)/\qdi a q l tab H H' (xs ++ ts) o:=by
 induction hW with
 | @last i j t to hk hw h4=>
  intro xs H tt hL hn E ht e0 e1 e3
  have Y:l < H.length:=(jd.1 hL.box).1
  obtain ⟨f,hf,hq⟩:=(hL.grow (.cells [.int .i64 t.kind,.str t.s,.int .i64 t.n,.int .i64 t.pos])).lst
  have U:=hL.ord
  have hy:=qja (hf.imp (λg=>⟨g.1,by rw [g.2];rfl⟩) id) t22 p5 hq (hL.grow _).box zo (qlm xs) (by simp;omega) (λm=>qeL m xs) t.kind t.s t.n t.pos
  obtain ⟨I,he⟩:=qyT (base:=base) hx hs hk ht e0 e1 e3 hL.txt E hw hy (by rw [jf zo,qdn rfl];rfl) h4
  rw [qr,he]
  refine ⟨_,_,rfl,?_⟩
  rw [qdi,jX,List.set_append_left _ _ zo,jS (by simp;omega)]
  rfl
 | @err i j t to e hk hw a6=>
  intro xs H tt hL hn E ht e0 e1 e3
  have Y:l < H.length:=(jd.1 hL.box).1
  have hg:=hL.grow (.cells [.int .i64 t.kind,.str t.s,.int .i64 t.n,.int .i64 t.pos])
  obtain ⟨f,hf,hq⟩:=hL.lst
  have U:=hL.ord
  have hy:=qt0 t22 p2 p3 p4 hg.r0 hg.r1 hg.r2 hg.box zo t.kind t.s t.n t.pos e a6
  obtain ⟨I,he⟩:=qu3 (base:=base) hx hs hk ht e0 e1 e3 hL.txt E hw hy (by
   rw [jf zo,jf zo,jf zo,jf zo,qdn rfl];rfl)
  rw [qr,he]
  refine ⟨_,_,rfl,.cells [.lst (xs.map Tok.enc) f],?_⟩
  rw [List.set_append_left _ _ zo,List.set_append_left _ _ (by simp;omega),List.set_append_left _ _ (by simp;omega),List.set_append_left _ _ (by simp;omega),jS (by simp;omega)]
  rw [show H.set q (.cells [.lst (xs.map Tok.enc) f]) = H from by
   apply List.ext_getElem?
   intro j
   by_cases hj:q = j
   ·subst hj;rw [hq,jg zo]
   ·rw [jf hj]]
 | @next i j t to ts o hk hw h4 _ ih=>
  intro xs H tt hL hn E ht e0 e1 e3
  have Y:l < H.length:=(jd.1 hL.box).1
  obtain ⟨f,hf,hq⟩:=(hL.grow (.cells [.int .i64 t.kind,.str t.s,.int .i64 t.n,.int .i64 t.pos])).lst
  have U:=hL.ord
  have hy:=qja (hf.imp (λg=>⟨g.1,by rw [g.2];rfl⟩) id) t22 p5 hq (hL.grow _).box zo (qlm xs) (by simp at hn ⊢;omega) (λm=>qeL m xs) t.kind t.s t.n t.pos
  obtain ⟨I,he,g1,g2,g3,g4⟩:=qBQ (base:=base) hx hs hk ht e0 e1 e3 hL.txt E hw hy (by rw [jf zo,qdn rfl];rfl) h4
  have a7:=hL.next t (.cells [.int .i64 t.kind,.str t.s,.int .i64 t.n,.int .i64 t.pos])
  obtain ⟨a1,H2,r1,r2⟩:=ih (xs ++ [t]) _ I a7 (by simp at hn ⊢;omega) (by simp;omega) g1 g2 g3 g4
  rw [qr,he,qll]
  refine ⟨a1,H2,?_,?_⟩
  ·rw [<-r1,jX];rfl
  ·rw [jp] at r2
   cases o with
   | none=>
    rw [qdi,List.set_set,List.set_append_left _ _ zo,jS (by simp;omega)] at r2
    exact r2
   | some pe=>
    obtain ⟨c,r2⟩:=r2
    refine ⟨c,?_⟩
    rw [r2,List.set_set,List.set_append_left _ _ zo,List.set_append_left _ _ (by simp;omega),List.set_append_left _ _ (by simp;omega),List.set_append_left _ _ (by simp;omega),List.set_append_left _ _ (by simp;omega),jS (by simp;omega)]
end
section
variable {s:Str} {a b q l:Nat} {tab:List qd}
theorem qdi.cut {H H':List qh} {xs:List Tok} {o:Option (Int×Int)} (h:qdi a q l tab H H' xs o):qdi a q l tab H (H'.take (l + 1)) xs o:=by
 cases o with
 | none=>rw [qdi,List.take_take,Nat.min_self];exact h
 | some pe=>
  obtain ⟨c,h⟩:=h
  exact ⟨c,by rw [List.take_take,Nat.min_self];exact h⟩
theorem qyS (hx:qdh) (hs:s.length <= 16384) (t22:tab.length = 22) (p2:lkp tab 2 = .ptr a 0) (p3:lkp tab 3 = .ptr (a + 1) 0) (p4:lkp tab 4 = .ptr (a + 1 + 1) 0) (p5:lkp tab 5 = .ptr q 0) {ts:List Tok} {o:Option (Int×Int)} (hW:qhu s 0 ts o) {H:List qh} (hL:qjj s a q b l tab [] H) (hn:ts.length <= 100000) (hl:H.length = l + 1) :
  ∃R,Wd (.fn 129 [] [.ptr b 0]) [.yld l] H = some (.ret (.tup []),R,false)/\qdi a q l tab H R ts o:=by
 have I:=hL.txt
 have U:b < H.length:=(jd.1 I).1
 have c1:ilt 16384 (s.length:Int) = false:=by rw [qX];simp;omega
 rw [ql 129 qEa]
 generalize hR:qfG _ H _ = R
 simp only [qEa,sT.1,sC.1,qe,seval,-rN,I,c1] at hR
 generalize hr:qp H.length Wd (.loop qf3) _ = r at hR
 obtain ⟨E,H',rfl,hE⟩ :∃E H',r = some (.ret,⟨E,H',false⟩)/\qdi a q l tab H H' ([] ++ ts) o:=by
  rw [<-hr]
  refine qu2 hx zo t22 p2 p3 p4 p5 hW [] H _ hL (by simpa using hn) (jm _) ?_ ?_ ?_ ?_
  all_goals simp only [sT.1,sC.1,seval,-rN,Int.natCast_zero]
 simp only [sT.1,seval,-rN] at hR
 subst hR
 refine ⟨_,rfl,?_⟩
 rw [hl]
 exact hE.cut
end
end Go.Proofs.YtcbfifamliijlaaGreatDoor.AE
namespace Go.AE
theorem qw6 {base:Nat} {call:Call} {f:qB} {ps:List Nat} {asg body:qD} {s:St} {g:FuncId} {first cap:List qd} {v:qd} {h:List qh} {e:Bool} {t:List qd} {U:List Nat} {I E:qD}
  (hf:ev s.t f = .fn g first cap) (hc:call (.fn g first cap) [.yld s.h.length] (s.h ++ [.loop (s.t.map qd.dim) ps asg body .ready none]) = some (.ret v,h,e)) (hl:h[s.h.length]? = some (.loop t U I E .ready none)) :
  qp base call (.rfun f ps asg body) s = some (.nor,{ s with h:=h.set s.h.length (.loop t U I E .exhausted none),e:=s.e || e}):=by
 rw [qoF]
 simp only [qaX,hf,hc,hl]
 rfl
end Go.AE
namespace Go.Proofs.YtcbfifamliijlaaGreatDoor.AE
open Go.AE
section
variable {s:Str} {h:List qh}
theorem qBP (h:List qh):Wd (.fn 87 [] []) [.str s] h = some (.ret (.fn 129 [] [.ptr h.length 0]),h ++ [.cells [.str s]],false):=by
 have hb:Nat.ble (h.length + 1) h.length = false:=by rw [j8];intro q;have:=Nat.le_of_ble_eq_true q;omega
 rw [ql 87 c87]
 simp only [c87,sT.1,sC.1,qe,Nat.reduceAdd,Nat.reduceSub,Nat.reduceLT,Nat.reduceEqDiff]
 simp [leave,qd.lower,qv]
theorem qA1 (hx:qdh) (hs:s.length <= 16384) {ts:List Tok} (hW:qhu s 0 ts none) (hn:ts.length <= 100000):Wd (.fn 40 [] []) [.str s] h = some (.ret (.tup [.lst (ts.map Tok.enc) .no,.int .i64 0,.int .i64 0]),h,false):=by
 rw [ql 40 c40]
 generalize hR:qfG _ h _ = R
 simp only [c40,sT.1,sC.1,qe,reduceCtorEq,Nat.reduceAdd,Nat.reduceSub,Nat.reduceLT,qBP] at hR
 generalize hr:qp h.length Wd (.rfun _ _ _ _) _ = r at hR
 obtain ⟨tt,H',rfl,ht,e2,e3,e4,e5,hE⟩ :∃tt H',r = some (.nor,⟨tt,H',false⟩)/\tt.length = 22/\lkp tt 2 = .ptr h.length 0/\lkp tt 3 = .ptr (h.length + 1) 0/\lkp tt 4 = .ptr (h.length + 1 + 1) 0/\lkp tt 5 = .ptr (h.length + 3) 0/\H'.take (h.length + 4) = h ++ [.cells [.lst [] .full],.cells [.int .i64 0],.cells [.int .i64 0],.cells [.lst (ts.map Tok.enc) (.own 4)]]:=by
  rw [<-hr]
  clear hr hR
  generalize hT:up (up (up (up (up (up (qd.str s :: List.replicate 21 (.tup [])) 2 (.ptr h.length 0)) 3 (.ptr (h.length + 1) 0)) 4 (.ptr (h.length + 2) 0)) 5 (.ptr (h.length + 3) 0)) 8 (.str s)) 9 (.fn 129 [] [.ptr (h.length + 4) 0]) = T0
  have I:T0.length = 22:=by rw [<-hT];simp only [sT.1,sC.1,Nat.reduceAdd]
  have d2:lkp T0 2 = .ptr h.length 0:=by rw [<-hT];simp only [sT.1,sC.1,Nat.reduceAdd,Nat.reduceLT,Nat.reduceEqDiff]
  have d3:lkp T0 3 = .ptr (h.length + 1) 0:=by rw [<-hT];simp only [sT.1,sC.1,Nat.reduceAdd,Nat.reduceLT,Nat.reduceEqDiff]
  have d4:lkp T0 4 = .ptr (h.length + 1 + 1) 0:=by rw [<-hT];simp only [sT.1,sC.1,Nat.reduceAdd,Nat.reduceLT,Nat.reduceEqDiff]
  have d5:lkp T0 5 = .ptr (h.length + 3) 0:=by rw [<-hT];simp only [sT.1,sC.1,Nat.reduceAdd,Nat.reduceLT,Nat.reduceEqDiff]
  have d9:ev T0 (.t 9) = .fn 129 [] [.ptr (h.length + 4) 0]:=by rw [<-hT];simp only [sT.1,sC.1,Nat.reduceAdd,Nat.reduceLT]
  have dm:T0.map qd.dim = T0:=by rw [<-hT];simp only [up,List.replicate,List.set_cons_succ,List.set_cons_zero,List.map_cons,List.map_nil,qrd,qre,qrc,qx4]
  have E:(h ++ [qh.cells [.lst [] .full],.cells [.int .i64 0],.cells [.int .i64 0],.cells [.lst [] .full],.cells [.str s]]).length = h.length + 5:=by simp
  have hL:qjj s h.length (h.length + 3) (h.length + 4) (h.length + 5) T0 [] ((h ++ [qh.cells [.lst [] .full],.cells [.int .i64 0],.cells [.int .i64 0],.cells [.lst [] .full],.cells [.str s]]) ++ [.loop T0 [10,11] qbs qdM .ready none]):=by
   rw [jp]
   refine ⟨?_,?_,?_,⟨_,.inl ⟨rfl,rfl⟩,?_⟩,?_,?_,zo⟩
   ·rw [qdn rfl];rfl
   ·rw [qbm];rfl
   ·rw [jt,qbm];rfl
   ·rw [qbm];rfl
   ·rw [qbm];rfl
   ·rw [qbm];rfl
  obtain ⟨R,hc,hE⟩:=qyS hx hs I d2 d3 d4 d5 hW hL hn (by simp)
  rw [qdi] at hE
  have a1:h.length + 5 < R.length:=by
   have:=congrArg List.length hE
   rw [List.length_take,List.length_take] at this
   simp at this
   omega
  have g5:R[h.length + 5]? = some (.loop T0 [10,11] qbs qdM .ready none):=by
   have:=congrArg (λx=>x[h.length + 5]?) hE
   simp only [List.getElem?_take_of_lt (Nat.lt_succ_self (h.length + 5))] at this
   rw [this,jf zo]
   exact hL.box
  refine ⟨T0,_,qw6 (v:=.tup []) d9 (by rw [dm,E];exact hc) (by rw [E];exact g5),I,d2,d3,d4,d5,?_⟩
  rw [E,jT zo]
  have:=congrArg (List.take (h.length + 4)) hE
  rw [List.take_take,List.take_take,Nat.min_eq_left zo] at this
  rw [this,jp,List.set_append_right _ _ zo,List.take_append]
  simp
  exact List.take_of_length_le zo
 have Y:h.length + 4 <= H'.length:=by
  have:=congrArg List.length hE
  rw [List.length_take] at this
  simp at this
  omega
 have gk:∀k,k < h.length + 4->H'[k]? = (h ++ [.cells [.lst [] .full],.cells [.int .i64 0],.cells [.int .i64 0],.cells [.lst (ts.map Tok.enc) (.own 4)]])[k]?:=λk hk=>by rw [<-hE,List.getElem?_take_of_lt hk]
 have r0:H'[h.length]? = some (.cells [.lst [] .full]):=by rw [gk _ zo,qdn rfl];rfl
 have r1:H'[h.length + 1]? = some (.cells [.int .i64 0]):=by rw [gk _ zo,qbm];rfl
 have r2:H'[h.length + 1 + 1]? = some (.cells [.int .i64 0]):=by rw [jt,gk _ zo,qbm];rfl
 have r3:H'[h.length + 3]? = some (.cells [.lst (ts.map Tok.enc) (.own 4)]):=by rw [gk _ zo,qbm];rfl
 have U:=qeL (h.length + 1) ts
 have l0:h.length < H'.length:=zo
 have l1:h.length + 1 < H'.length:=zo
 have l2:h.length + 1 + 1 < H'.length:=zo
 have l3:h.length + 3 < H'.length:=zo
 have m1:¬ (h.length = h.length + 1):=zo
 have m2:¬ (h.length = h.length + 1 + 1):=zo
 have m3:¬ (h.length + 1 = h.length + 1 + 1):=zo
 have m4:¬ (h.length + 1 = h.length):=zo
 have m5:¬ (h.length + 1 + 1 = h.length):=zo
 have m6:¬ (h.length + 1 + 1 = h.length + 1):=zo
 rw [<-hR]
 simp only [sT.1,sC.1,qe,Nat.reduceLT,Nat.reduceEqDiff,ht,e2,e3,e4,e5,r0,r1,r2,r3,l0,l1,l2,m1,m2,m3,m4,m5,m6]
 refine congrArg some (qbb ?_ ?_)
 ·rw [jT zo,jT zo,jT zo]
  have:=congrArg (List.take h.length) hE
  rw [List.take_take,Nat.min_eq_left zo] at this
  rw [this,jS (jm _),List.take_length]
 ·simp [qd.lower,qv,qeL]
end
def qee (d:Str):Nat:=d.foldl (λa c=>a * 10 + (c.toNat - 48)) 0
def qdw:Nat:=9223372036854775807
def qqc:Prop:=∀d:Str,d ≠ []->d.length <= 100000->d.all qag = true->(qee d <= qdw->qiA d (qee d:Nat))/\(qdw < qee d->qmQ d)
def qmp (at_:Nat):Tok:=⟨0,[],0,at_⟩
def qaH (s:Str) (kind:Int) (at_ i:Nat):Tok×Nat×Int:=
 match s[i]? with
 | none=>(qmp at_,at_,5)
 | some c=>if qaZ c = true then (if qan qaO s i - i <= 16 then (⟨kind,(s.drop i).take (qan qaO s i - i),0,at_⟩,qan qaO s i,0) else (qmp at_,at_,9)) else (qmp at_,at_,5)
def qbY (s:Str) (i:Nat):Str:=(s.drop i).take (qan qag s i - i)
def qf6 (s:Str) (i:Nat) (c:UInt8):Tok×Nat×Int:=
 if c = 48/\1 < qan qag s i - i then (qmp i,i,6)
 else if qee (qbY s i) <= qdw then (⟨1,[],(qee (qbY s i):Nat),i⟩,qan qag s i,0) else (qmp i,i,2)
def qgt (s:Str) (i:Nat):Option Str->Tok×Nat×Int
 | some m=>(⟨3,m,0,i⟩,i + m.length,0)
 | none=>(qmp i,i,5)
def lex (s:Str) (j:Nat):Tok×Nat×Int:=
 match s[j]? with
 | none=>(⟨4,[],0,j⟩,j,0)
 | some c=>
  if qaZ c = true then qaH s 0 j j
  else if c = 39 then qaH s 2 j (j + 1)
  else if qag c = true then qf6 s j c
  else qgt s j (qeB (s.drop j))
theorem qns:qaZ 39 = false:=zk
theorem qgj (p:UInt8->Bool):∀l:Str,(∀a ∈ l,p a = true)->l.takeWhile p = l
 | [],_=>rfl
 | a :: l,h=>by rw [List.takeWhile_cons_of_pos (h a (by simp)),qgj p l λb hb=>h b (by simp [hb])]
theorem qeH (p:UInt8->Bool) (s:Str) (i:Nat):(s.drop i).take (qan p s i - i) = (s.drop i).takeWhile p:=by
 rw [qan,Nat.add_sub_cancel_left]
 generalize s.drop i = l
 induction l with
 | nil=>rfl
 | cons c l ih=>
  rw [List.takeWhile_cons]
  split
  ·rw [jy,List.take_succ_cons,ih]
  ·rfl
theorem qoq (s:Str) (i:Nat):(qbY s i).all qag = true:=by
 rw [qbY,qeH]
 exact List.all_takeWhile
theorem qho {p:UInt8->Bool} {s:Str} {i:Nat} (hi:i < s.length) (hp:p s[i] = true):i < qan p s i:=by
 rw [qhn hi hp]
 have:=qdd p s (i + 1)
 omega
theorem qlU {s:Str} {i:Nat} (hi:i < s.length) (hp:qag s[i] = true):qbY s i ≠ []:=by
 rw [qbY]
 have h1:=qho hi hp
 intro h
 have:=congrArg List.length h
 rw [List.length_take,List.length_drop,List.length_nil] at this
 omega
theorem qks (s:Str) (i:Nat):(qbY s i).length <= s.length:=by
 rw [qbY,List.length_take,List.length_drop]
 omega
theorem qiR {s:Str} (hs:s.length <= 100000) (kind:Int) (at_ i:Nat) (hi:i <= s.length) (h:List qh):Wd (.fn 158 [] []) [.str s,.int .i64 kind,.int .i64 (at_:Nat),.int .i64 (i:Nat)] h =
  some (.ret (.tup [qbL (qaH s kind at_ i).1.kind (qaH s kind at_ i).1.s (qaH s kind at_ i).1.n (qaH s kind at_ i).1.pos,.int .i64 ((qaH s kind at_ i).2.1:Nat),.int .i64 (qaH s kind at_ i).2.2]),h,false):=by
 rcases Nat.lt_or_ge i s.length with h1 | h1
 ·cases hl:qaZ s[i] with
  | true=>
   rw [quv s hs kind at_ i h1 hl]
   simp only [qaH,jh h1,hl,if_true]
   split
   ·rfl
   ·rfl
  | false=>
   rw [qnZ s kind at_ i hi λ_=>hl]
   simp only [qaH,jh h1,hl,jl,if_false]
   rfl
 ·rw [qnZ s kind at_ i hi λh=>absurd h zo]
  simp only [qaH,jq h1]
  rfl
theorem qj8 (U:qqc) {s:Str} (hs:s.length <= 100000) {j:Nat} (hj:j <= s.length):qmY s j (lex s j).1 (lex s j).2.1 (lex s j).2.2:=by
 intro h
 rcases Nat.lt_or_ge j s.length with h1 | h1
 ·have hx:=jh h1
  cases hl:qaZ s[j] with
  | true=>
   have e:lex s j = qaH s 0 j j:=by simp only [lex,hx,hl,if_true]
   rw [e]
   exact quL h1 hl λh=>qiR hs 0 j j hj h
  | false=>
   cases E:(s[j] == 39) with
   | true=>
    have e:lex s j = qaH s 2 j (j + 1):=by simp only [lex,hx,jl,if_false,beq_iff_eq.1 E,if_true,qns]
    rw [e]
    exact qxH h1 hl E hs λh=>qiR hs 2 j (j + 1) h1 h
   | false=>
    have I:s[j] ≠ 39:=by simpa using E
    cases hd:qag s[j] with
    | true=>
     have e:lex s j = qf6 s j s[j]:=by simp only [lex,hx,hl,jl,if_false,I,hd,if_true]
     rw [e]
     obtain ⟨a1,a2⟩:=U (qbY s j) (qlU h1 hd) (Nat.le_trans (qks s j) hs) (qoq s j)
     refine qxG h1 hl E hd λh=>?_
     by_cases q1:s[j] = 48/\1 < qan qag s j - j
     ·rw [qmq s hs j h1 (by simp [qsD,q1.1,q1.2]),qf6,if_pos q1]
      rfl
     ·have q2:qsD s j h1 = false:=by
       rw [j8]
       intro q
       simp only [qsD,jk,beq_iff_eq,decide_eq_true_eq] at q
       exact q1 q
      by_cases q3:qee (qbY s j) <= qdw
      ·rw [qtj s hs j h1 q2 (a1 q3),qf6,if_neg q1,if_pos q3]
      ·rw [qkZ s hs j h1 q2 (a2 zo),qf6,if_neg q1,if_neg q3]
       rfl
    | false=>
     have e:lex s j = qgt s j (qeB (s.drop j)):=by simp only [lex,hx,hl,jl,if_false,I,hd]
     rw [e,quK h1 hl E hd hs]
     cases qeB (s.drop j) <;> rfl
 ·obtain rfl:j = s.length:=zo
  have e:lex s s.length = (⟨4,[],0,s.length⟩,s.length,0):=by simp only [lex,jq (jm _)]
  rw [e]
  exact qxF s
theorem qwu:∀m ∈ marks,0 < m.length:=by
 have:marks.all (λm=>decide (0 < m.length)) = true:=zk
 intro m hm
 simpa using List.all_eq_true.1 this m hm
theorem qpp {r m:Str} (h:qeB r = some m):m ∈ marks/\m.length <= r.length:=by
 rw [qeB] at h
 refine ⟨List.mem_of_find?_eq_some h,?_⟩
 have:=List.find?_some h
 rw [qkJ,beq_iff_eq] at this
 have:=congrArg List.length this
 rw [List.length_take] at this
 omega
structure qyJ (s:Str) (t:Tok):Prop where
 kind:t.kind = 0\/t.kind = 1\/t.kind = 2\/t.kind = 3\/t.kind = 4
 name:t.kind = 0\/t.kind = 2->∃c r,t.s = c :: r/\qaZ c = true/\r.all qaO = true/\r.length <= 15
 mark:t.kind = 3->t.s ∈ marks
 int:t.kind = 1->0 <= t.n/\t.n <= 9223372036854775807
 pos:0 <= t.pos/\t.pos <= s.length
theorem qiS {s:Str} {kind:Int} {at_ i:Nat} (hk:kind = 0\/kind = 2) (U:at_ <= i) (hi:i <= s.length) (h0:(qaH s kind at_ i).2.2 = 0) :
  i < (qaH s kind at_ i).2.1/\(qaH s kind at_ i).2.1 <= s.length/\(qaH s kind at_ i).1.kind = kind/\qyJ s (qaH s kind at_ i).1:=by
 rcases Nat.lt_or_ge i s.length with h1 | h1
 ·cases hl:qaZ s[i] with
  | true=>
   simp only [qaH,jh h1,hl,if_true] at h0 ⊢
   split at h0
   ·rename_i I
    rw [if_pos I]
    have E:qaO s[i] = true:=by rw [qaO,hl];rfl
    refine ⟨qho h1 E,qcI _ _ hi,rfl,⟨by rcases hk with rfl | rfl <;> simp,λ_=>?_,λh=>?_,λh=>?_,by simp;omega⟩⟩
    ·simp only
     rw [qeH,jU h1,List.takeWhile_cons_of_pos E]
     refine ⟨_,_,rfl,hl,List.all_takeWhile,?_⟩
     rw [qan,jU h1,List.takeWhile_cons_of_pos E,jy] at I
     omega
    ·simp only at h;omega
    ·simp only at h;omega
   ·cases h0
  | false=>
   simp only [qaH,jh h1,hl,jl,if_false] at h0
   cases h0
 ·simp only [qaH,jq h1] at h0
  cases h0
theorem qnt {s:Str} {i:Nat} (h1:i < s.length) (h0:(lex s i).2.2 = 0):i < (lex s i).2.1/\(lex s i).2.1 <= s.length/\(lex s i).1.kind ≠ 4/\qyJ s (lex s i).1:=by
 have hx:=jh h1
 cases hl:qaZ s[i] with
 | true=>
  have e:lex s i = qaH s 0 i i:=by simp only [lex,hx,hl,if_true]
  rw [e] at h0 ⊢
  obtain ⟨a,b,c,d⟩:=qiS (.inl rfl) (jm _) (Nat.le_of_lt h1) h0
  exact ⟨a,b,by rw [c];decide,d⟩
 | false=>
  by_cases E:s[i] = 39
  ·have e:lex s i = qaH s 2 i (i + 1):=by simp only [lex,hx,jl,if_false,E,if_true,qns]
   rw [e] at h0 ⊢
   obtain ⟨a,b,c,d⟩:=qiS (i:=i + 1) (.inr rfl) (Nat.le_succ _) h1 h0
   exact ⟨zo,b,by rw [c];decide,d⟩
  ·cases hd:qag s[i] with
   | true=>
    have e:lex s i = qf6 s i s[i]:=by simp only [lex,hx,hl,jl,if_false,E,hd,if_true]
    rw [e,qf6] at h0 ⊢
    split at h0
    ·cases h0
    ·rename_i q1
     rw [if_neg q1]
     split at h0
     ·rename_i q2
      rw [if_pos q2]
      refine ⟨qho h1 hd,qcI _ _ (Nat.le_of_lt h1),by simp,⟨by simp,λh=>by simp at h,λh=>by simp at h,λ_=>?_,by simp;omega⟩⟩
      simp only [qdw] at q2 ⊢
      omega
     ·cases h0
   | false=>
    have e:lex s i = qgt s i (qeB (s.drop i)):=by simp only [lex,hx,hl,jl,if_false,E,hd]
    rw [e] at h0 ⊢
    cases hm:qeB (s.drop i) with
    | none=>rw [hm] at h0;cases h0
    | some m=>
     obtain ⟨I,U⟩:=qpp hm
     have:=qwu m I
     rw [List.length_drop] at U
     simp only [qgt]
     exact ⟨zo,zo,by simp,⟨by simp,λh=>by simp at h,λ_=>I,λh=>by simp at h,by simp;omega⟩⟩
def nl (c:UInt8):Bool:=!((c.toNat:Int) == 10)
inductive RW (s:Str):Nat->List Tok->Option (Int×Int)->Prop
 | fin:RW s s.length [⟨4,[],0,s.length⟩] none
 | blank {i ts o} (hi:i < s.length):AE.blank s[i] = true->RW s (i + 1) ts o->RW s i ts o
 | sharp {i ts o} (hi:i < s.length):AE.blank s[i] = false->AE.sharp s[i] = true->RW s (qan nl s i) ts o->RW s i ts o
 | word {i ts o} (hi:i < s.length):AE.blank s[i] = false->AE.sharp s[i] = false->(lex s i).2.2 = 0->RW s (lex s i).2.1 ts o->RW s i ((lex s i).1 :: ts) o
 | err {i} (hi:i < s.length):AE.blank s[i] = false->AE.sharp s[i] = false->(lex s i).2.2 ≠ 0->RW s i [] (some ((i:Int),(lex s i).2.2))
theorem RW.ex (s:Str):∀(n i:Nat),s.length - i <= n->i <= s.length->∃ts o,RW s i ts o:=by
 intro n
 induction n with
 | zero=>
  intro i h1 h2
  obtain rfl:i = s.length:=zo
  exact ⟨_,_,.fin⟩
 | succ n ih=>
  intro i h1 h2
  rcases Nat.lt_or_ge i s.length with hi | hi
  ·cases hb:AE.blank s[i] with
   | true=>
    obtain ⟨ts,o,h⟩:=ih (i + 1) zo zo
    exact ⟨ts,o,.blank hi hb h⟩
   | false=>
    cases hs:AE.sharp s[i] with
    | true=>
     have hn:nl s[i] = true:=by
      simp only [AE.sharp,beq_iff_eq] at hs
      simp [nl,hs]
     obtain ⟨ts,o,h⟩:=ih (qan nl s i) (by have:=qho hi hn;omega) (qcI _ _ h2)
     exact ⟨ts,o,.sharp hi hb hs h⟩
    | false=>
     by_cases h0:(lex s i).2.2 = 0
     ·obtain ⟨g1,g2,_⟩:=qnt hi h0
      obtain ⟨ts,o,h⟩:=ih (lex s i).2.1 zo g2
      exact ⟨_,o,.word hi hb hs h0 h⟩
     ·exact ⟨_,_,.err hi hb hs h0⟩
  ·obtain rfl:i = s.length:=zo
   exact ⟨_,_,.fin⟩
theorem RW.le {s:Str} {i:Nat} {ts:List Tok} {o:Option (Int×Int)} (h:RW s i ts o):i <= s.length/\ts.length + i <= s.length + 1/\(∀t ∈ ts,qyJ s t):=by
 induction h with
 | fin=>exact ⟨jm _,by simp;omega,λt ht=>by
   rw [jY] at ht
   subst ht
   exact ⟨by simp,λh=>by simp at h,λh=>by simp at h,λh=>by simp at h,by simp⟩⟩
 | blank hi _ _ ih=>exact ⟨zo,zo,ih.2.2⟩
 | @sharp i ts o hi hb hs _ ih=>have:=qdd nl s i;exact ⟨zo,zo,ih.2.2⟩
 | word hi _ _ h0 _ ih=>
  obtain ⟨g1,g2,_,g4⟩:=qnt hi h0
  refine ⟨zo,by rw [jy];omega,λt ht=>?_⟩
  rcases List.mem_cons.1 ht with rfl | ht
  ·exact g4
  ·exact ih.2.2 t ht
 | err hi _ _ _=>exact ⟨zo,by simp;omega,λt ht=>by cases ht⟩
theorem RW.last {s:Str} {i:Nat} {ts:List Tok} {o:Option (Int×Int)} (h:RW s i ts o) (ho:o = none):∃ws,ts = ws ++ [⟨4,[],0,s.length⟩]/\∀t ∈ ws,t.kind ≠ 4:=by
 induction h with
 | fin=>exact ⟨[],rfl,λ_ h=>by cases h⟩
 | blank hi _ _ ih=>exact ih ho
 | sharp hi _ _ _ ih=>exact ih ho
 | word hi _ _ h0 _ ih=>
  obtain ⟨ws,rfl,hw⟩:=ih ho
  refine ⟨_ :: ws,rfl,λt ht=>?_⟩
  rcases List.mem_cons.1 ht with rfl | ht
  ·exact (qnt hi h0).2.2.1
  ·exact hw t ht
 | err hi _ _ _=>cases ho
theorem RW.wf {s:Str} (hs:s.length <= 16384) {ts:List Tok} (h:RW s 0 ts none):WF ts/\0 < ts.length:=by
 have hl:=h.le
 obtain ⟨ws,rfl,hw⟩:=h.last rfl
 refine ⟨⟨zo,λn w hn hk=>?_⟩,by simp⟩
 rcases Nat.lt_or_ge n ws.length with h1 | h1
 ·simp;omega
 ·rw [List.getElem?_append_right h1] at hn
  obtain ⟨h2,h3⟩:=jd.1 hn
  simp at h2
  have:n - ws.length = 0:=zo
  simp only [this,List.getElem_cons_zero] at h3
  subst h3
  exact absurd rfl hk
theorem qhu.skip {s:Str} {i i':Nat} {ts:List Tok} {o:Option (Int×Int)} (h:qhu s i' ts o) (hf:∀j,qin s i' j->qin s i j):qhu s i ts o:=by
 cases h with
 | last h1 h2 h3=>exact .last (hf _ h1) h2 h3
 | err h1 h2 h3=>exact .err (hf _ h1) h2 h3
 | next h1 h2 h3 h4=>exact .next (hf _ h1) h2 h3 h4
theorem qkP {s:Str} {i k:Nat} (h:qcw (s.drop i) = some k):qan nl s i = i + k/\∃hk:i + k < s.length,AE.blank s[i + k] = true:=by
 rw [qcw,List.findIdx?_eq_some_iff_getElem] at h
 obtain ⟨h1,h2,h3⟩:=h
 rw [List.length_drop] at h1
 have e:((s.drop i).takeWhile nl).length = k:=by
  rw [List.takeWhile_eq_take_findIdx_not,List.length_take,List.length_drop]
  have:List.findIdx (λa=>!nl a) (s.drop i) = k:=by
   rw [List.findIdx_eq (by rw [List.length_drop];omega)]
   refine ⟨?_,λj hj=>?_⟩
   ·simp only [beq_iff_eq] at h2
    simp [nl,h2]
   ·have:=h3 j hj
    simp only [nl,Bool.not_not]
    rw [j8]
    intro q
    rw [beq_iff_eq] at q
    refine this ?_
    rw [beq_iff_eq]
    apply UInt8.toNat_inj.1
    show _ = 10
    omega
  rw [this]
  omega
 refine ⟨by rw [qan,e],zo,?_⟩
 rw [List.getElem_drop] at h2
 simp only [beq_iff_eq] at h2
 simp [AE.blank,h2]
theorem qkO {s:Str} {i:Nat} (hi:i <= s.length) (h:qcw (s.drop i) = none):qan nl s i = s.length:=by
 rw [qcw,List.findIdx?_eq_none_iff] at h
 rw [qan,qgj nl _ ?_,List.length_drop]
 ·omega
 ·intro a ha
  have:=h a ha
  rw [beq_eq_false_iff_ne] at this
  simp only [nl,Bool.not_eq_true',beq_eq_false_iff_ne,ne_eq]
  intro q
  refine this ?_
  apply UInt8.toNat_inj.1
  show _ = 10
  omega
theorem RW.words (I:qqc) {s:Str} (hs:s.length <= 100000) {i:Nat} {ts:List Tok} {o:Option (Int×Int)} (h:RW s i ts o):qhu s i ts o:=by
 induction h with
 | fin=>
  have e:lex s s.length = (⟨4,[],0,s.length⟩,s.length,0):=by simp only [lex,jq (jm _)]
  have:=qj8 I hs (jm s.length)
  rw [e] at this
  exact .last .done this rfl
 | blank hi hb _ ih=>exact ih.skip λj hj=>.blank hi hb hj
 | @sharp i ts o hi hb hh _ ih=>
  cases hl:qcw (s.drop i) with
  | none=>
   rw [qkO (Nat.le_of_lt hi) hl] at ih
   refine ih.skip λj hj=>?_
   have U:j = s.length:=by have:=hj.le;omega
   subst U
   exact .last hi hb hh hl
  | some k=>
   obtain ⟨e,hk,E⟩:=qkP hl
   rw [e] at ih
   refine ih.skip λj hj=>?_
   refine .line hi hb hh hl ?_
   generalize hq:i + k = q at hj hk E
   cases hj with
   | done=>omega
   | blank _ _ h=>exact h
   | line _ h0 _ _ _=>rw [h0] at E;cases E
   | last _ h0 _ _=>rw [h0] at E;cases E
   | word _ h0 _=>rw [h0] at E;cases E
 | @word i ts o hi hb hh h0 _ ih=>
  have hw:=qj8 I hs (Nat.le_of_lt hi)
  rw [h0] at hw
  exact .next (.word hi hb hh) hw (by simpa using (qnt hi h0).2.2.1) ih
 | @err i hi hb hh h0=>
  have hw:=qj8 I hs (Nat.le_of_lt hi)
  have hp:(lex s i).1.pos = i:=by
   simp only [lex,qaH,qf6,qgt,qmp]
   repeat' split
   all_goals rfl
  rw [<-hp]
  exact .err (.word hi hb hh) hw (by simpa using h0)
def tri (t:Tok):PT:=(t.kind,t.s,t.n)
def L (Q:Str->Prop) (u:Str) (ks:List PT):Prop:=∀(p r:Str) (ts:List Tok) (o:Option (Int×Int)),Q r->RW (p ++ (u ++ r)) (p.length + u.length) ts o->∃us,us.map tri = ks/\RW (p ++ (u ++ r)) p.length (us ++ ts) o
def Tr (_:Str):Prop:=True
def Nl (r:Str):Prop:=∀c ∈ r.head?,qaO c = false
theorem L.app {Q R:Str->Prop} {u v:Str} {a b:List PT} (hu:L Q u a) (hv:L R v b) (hq:∀r,R r->Q (v ++ r)):L R (u ++ v) (a ++ b):=by
 intro p r ts o hr h
 have e1:p ++ (u ++ v ++ r) = p ++ u ++ (v ++ r):=by simp
 have e2:p.length + (u ++ v).length = (p ++ u).length + v.length:=by simp;omega
 rw [e1,e2] at h
 obtain ⟨us,h1,h2⟩:=hv (p ++ u) r ts o hr h
 have e3:p ++ u ++ (v ++ r) = p ++ (u ++ (v ++ r)):=by simp
 rw [e3,ji] at h2
 obtain ⟨vs,h3,h4⟩:=hu p (v ++ r) _ o (hq r hr) h2
 exact ⟨vs ++ us,by rw [jX,h3,h1],by rw [e1,e3,jp];exact h4⟩
theorem L.tr {Q:Str->Prop} {u:Str} {a:List PT} (h:L Tr u a):L Q u a:=λp r ts o _=>h p r ts o trivial
theorem L.a0 {R:Str->Prop} {u v:Str} {a b:List PT} (hu:L Tr u a) (hv:L R v b):L R (u ++ v) (a ++ b):=hu.app hv λ_ _=>trivial
theorem L.an {R:Str->Prop} {u v:Str} {x:UInt8} {a b:List PT} (hu:L Nl u a) (hv:L R (x :: v) b) (hx:qaO x = false):L R (u ++ (x :: v)) (a ++ b):=hu.app hv λ_ _ c hc=>by
 simp at hc
 subst hc
 exact hx
theorem L.blank:L Tr [32] []:=by
 intro p r ts o _ h
 exact ⟨[],rfl,.blank (by simp) (by simp [AE.blank]) h⟩
theorem L.of {Q:Str->Prop} {x:UInt8} {u:Str} {k:PT} (hb:AE.blank x = false) (hs:AE.sharp x = false) (hl:∀p r,Q r->∃t,tri t = k/\lex (p ++ (x :: u ++ r)) p.length = (t,p.length + (x :: u).length,0)):L Q (x :: u) [k]:=by
 intro p r ts o hr h
 obtain ⟨t,h1,h2⟩:=hl p r hr
 refine ⟨[t],by rw [<-h1];rfl,?_⟩
 have:=RW.word (s:=p ++ (x :: u ++ r)) (i:=p.length) (ts:=ts) (o:=o) (by simp) (by simpa using hb) (by simpa using hs) (by rw [h2]) (by rw [h2];exact h)
 rw [h2] at this
 exact this
theorem at_ {p r:Str} {x:UInt8}:(p ++ (x :: r))[p.length]? = some x:=by simp
theorem qvB {p r:Str}:(p ++ r).drop p.length = r:=by simp
theorem L.mark {Q:Str->Prop} {x:UInt8} {u:Str} (hb:AE.blank x = false) (hs:AE.sharp x = false) (hl:qaZ x = false) (hd:qag x = false) (E:x ≠ 39) (hm:∀r,Q r->qeB (x :: u ++ r) = some (x :: u)):L Q (x :: u) [mk3 (x :: u)]:=
 .of hb hs λp r hr=>⟨⟨3,x :: u,0,p.length⟩,rfl,by
  rw [lex,jw,at_]
  simp only [hl,hd,E,if_false,jl]
  rw [qvB,<-jw,hm r hr,qgt]⟩
theorem L40:L Tr [40] [mk3 [40]]:=.mark (by rfl) (by rfl) (by rfl) (by rfl) (by decide) λ_ _=>rfl
theorem L41:L Tr [41] [mk3 [41]]:=.mark (by rfl) (by rfl) (by rfl) (by rfl) (by decide) λ_ _=>rfl
theorem L44:L Tr [44] [mk3 [44]]:=.mark (by rfl) (by rfl) (by rfl) (by rfl) (by decide) λ_ _=>rfl
theorem L46:L Tr [46] [mk3 [46]]:=.mark (by rfl) (by rfl) (by rfl) (by rfl) (by decide) λ_ _=>rfl
theorem L61:L Tr [61] [mk3 [61]]:=.mark (by rfl) (by rfl) (by rfl) (by rfl) (by decide) λ_ _=>rfl
theorem L43:L Tr [43] [mk3 [43]]:=.mark (by rfl) (by rfl) (by rfl) (by rfl) (by decide) λ_ _=>rfl
theorem L42:L Tr [42] [mk3 [42]]:=.mark (by rfl) (by rfl) (by rfl) (by rfl) (by decide) λ_ _=>rfl
theorem L47:L Tr [47] [mk3 [47]]:=.mark (by rfl) (by rfl) (by rfl) (by rfl) (by decide) λ_ _=>rfl
theorem L37:L Tr [37] [mk3 [37]]:=.mark (by rfl) (by rfl) (by rfl) (by rfl) (by decide) λ_ _=>rfl
theorem qED:L Tr [60,61] [mk3 [60,61]]:=.mark (by rfl) (by rfl) (by rfl) (by rfl) (by decide) λ_ _=>rfl
def Hd (u:Str):Prop:=∃c t,u = c :: t/\c ≠ 62
theorem Hd.app {u v:Str} (h:Hd u):Hd (u ++ v):=by
 obtain ⟨c,t,rfl,h⟩:=h
 exact ⟨c,t ++ v,rfl,h⟩
theorem L45:L Hd [45] [mk3 [45]]:=.mark (by rfl) (by rfl) (by rfl) (by rfl) (by decide) λr hr=>by
 obtain ⟨c,t,rfl,h⟩:=hr
 have:((c :: t.take 0) == [62]) = false:=by
  rw [beq_eq_false_iff_ne]
  intro q
  injection q with q
  exact h q
 have e:qkJ (45 :: c :: t) [45,62] = false:=this
 show List.find? (qkJ (45 :: c :: t)) ([45,62] :: _) = _
 rw [List.find?_cons,e]
 rfl
theorem qI1:L Tr [45,32] [mk3 [45]]:=L45.app L.blank λ_ _=>⟨32,_,rfl,by decide⟩
theorem qI2:L Tr [60,32] [mk3 [60]]:=(L.mark (Q:=λr=>∃t,r = 32 :: t) (x:=60) (u:=[]) (by rfl) (by rfl) (by rfl) (by rfl) (by decide) λr hr=>by
 obtain ⟨t,rfl⟩:=hr
 rfl).app L.blank λr _=>⟨r,rfl⟩
theorem qnU {q:UInt8->Bool} {p u r:Str} (hu:∀c ∈ u,q c = true) (hr:∀c ∈ r.head?,q c = false):qan q (p ++ (u ++ r)) p.length = p.length + u.length:=by
 rw [qan,qvB,List.takeWhile_append_of_pos hu]
 have:r.takeWhile q = []:=by
  cases r with
  | nil=>rfl
  | cons c t=>rw [List.takeWhile_cons_of_neg (by rw [hr c rfl];simp)]
 rw [this,jF]
theorem qhW:∀(i:Nat) (u:Str),qaB i u = true->∀c ∈ u,qaO c = true
 | _,[],_,_,h=>by cases h
 | i,x :: u,h,c,hc=>by
  rw [qaB] at h
  cases hx:(!qaZ x && (i == 0 || !qag x)) with
  | true=>rw [hx] at h;cases h
  | false=>
   rw [hx,cond_false] at h
   rcases List.mem_cons.1 hc with rfl | hc
   ·rw [qaO]
    cases h1:qaZ c with
    | true=>rfl
    | false=>
     rw [h1] at hx
     cases h2:qag c with
     | true=>rfl
     | false=>rw [h2] at hx;simp at hx
   ·exact qhW (i + 1) u h c hc
theorem qgE {u:Str} (h:qcx u = true):∃x t,u = x :: t/\qaZ x = true/\u.length <= 16/\∀c ∈ u,qaO c = true:=by
 simp only [qcx,jk,decide_eq_true_eq] at h
 cases u with
 | nil=>simp at h
 | cons x t=>
  refine ⟨x,t,rfl,?_,h.1.2,qhW 0 _ h.2⟩
  have h2:=h.2
  rw [qaB] at h2
  cases hx:qaZ x with
  | true=>rfl
  | false=>rw [hx] at h2;simp at h2
theorem qiQ {kind:Int} {a:Nat} {p u r:Str} (hu:qcx u = true) (hr:Nl r):qaH (p ++ (u ++ r)) kind a p.length = (⟨kind,u,0,a⟩,p.length + u.length,0):=by
 obtain ⟨x,t,hx,hl,E,ha⟩:=qgE hu
 have e:=qnU (q:=qaO) (p:=p) ha hr
 have g:(p ++ (u ++ r))[p.length]? = some x:=by rw [hx];simp
 rw [qaH,g]
 simp only [hl,if_true,e,qvB]
 rw [Nat.add_sub_cancel_left,if_pos E,List.take_left']
 rfl
theorem qkN {x:UInt8} (h:qaZ x = true):AE.blank x = false/\AE.sharp x = false/\x ≠ 62:=by
 simp only [qaZ,jk,qav,decide_eq_true_eq] at h
 refine ⟨?_,?_,?_⟩
 ·simp only [AE.blank,Bool.or_eq_false_iff,beq_eq_false_iff_ne];omega
 ·simp only [AE.sharp,beq_eq_false_iff_ne];omega
 ·rintro rfl;simp at h
theorem L.name {u:Str} (h:qcx u = true):L Nl u [nm0 u]:=by
 obtain ⟨x,t,rfl,hl,E,ha⟩:=qgE h
 obtain ⟨h1,h2,_⟩:=qkN hl
 refine .of h1 h2 λp r hr=>⟨⟨0,x :: t,0,p.length⟩,rfl,?_⟩
 rw [lex,jw,at_]
 simp only [hl,if_true]
 exact qiQ (p:=p) (u:=x :: t) h hr
theorem Hd.name {u:Str} (h:qcx u = true):Hd u:=by
 obtain ⟨x,t,rfl,hl,_⟩:=qgE h
 exact ⟨x,t,rfl,(qkN hl).2.2⟩
theorem L.sym {u:Str} (h:qcx u = true):L Nl (39 :: u) [sy2 u]:=by
 refine .of (by rfl) (by rfl) λp r hr=>⟨⟨2,u,0,p.length⟩,rfl,?_⟩
 rw [lex,jw,at_]
 simp only [show qaZ 39 = false from rfl,jl,if_false,if_true]
 have:=qiQ (kind:=2) (a:=p.length) (p:=p ++ [39]) h hr
 rw [jp,ji] at this
 rw [show (39 :: (u ++ r)) = [39] ++ (u ++ r) from rfl]
 refine this.trans ?_
 simp
 omega
theorem qx3 {k:Nat} (h:k < 10):(UInt8.ofNat (48 + k)).toNat = 48 + k:=by
 rw [UInt8.toNat_ofNat']
 omega
theorem qzl (u:Nat):qee (Lib.decDigits u) = u:=by
 induction u using Nat.strongRecOn with
 | _ u ih=>
  rw [Lib.decDigits]
  split
  ·rename_i h
   simp [qee]
   omega
  ·rename_i h
   have:=ih (u / 10) zo
   rw [qee] at this ⊢
   rw [List.foldl_append,this]
   simp []
   omega
theorem qq1 (u:Nat):∀c ∈ Lib.decDigits u,qag c = true:=by
 have d:∀k,k < 10->qag (UInt8.ofNat (48 + k)) = true:=λk hk=>by
  simp only [qag,qx3 hk,jk,qav,decide_eq_true_eq]
  omega
 induction u using Nat.strongRecOn with
 | _ u ih=>
  intro c hc
  rw [Lib.decDigits] at hc
  split at hc
  ·rename_i h
   rw [jY] at hc
   subst hc
   exact d u h
  ·rename_i h
   rcases List.mem_append.1 hc with hc | hc
   ·exact ih (u / 10) zo c hc
   ·rw [jY] at hc
    subst hc
    exact d _ (Nat.mod_lt u zo)
theorem qm7 (u:Nat):∃c t,Lib.decDigits u = c :: t/\(c = 48->u = 0):=by
 induction u using Nat.strongRecOn with
 | _ u ih=>
  rw [Lib.decDigits]
  split
  ·rename_i h
   refine ⟨_,[],rfl,λq=>?_⟩
   have:=congrArg UInt8.toNat q
   rw [qx3 h] at this
   simpa using this
  ·rename_i h
   obtain ⟨c,t,e,hc⟩:=ih (u / 10) zo
   exact ⟨c,t ++ _,by rw [e];rfl,λq=>by have:=hc q;omega⟩
theorem qm8 {x:UInt8} (h:qag x = true):AE.blank x = false/\AE.sharp x = false/\qaZ x = false/\x ≠ 39/\x ≠ 62:=by
 simp only [qag,jk,qav,decide_eq_true_eq] at h
 refine ⟨?_,?_,?_,?_,?_⟩
 ·simp only [AE.blank,Bool.or_eq_false_iff,beq_eq_false_iff_ne];omega
 ·simp only [AE.sharp,beq_eq_false_iff_ne];omega
 ·simp only [qaZ,Bool.and_eq_false_iff,qav,decide_eq_false_iff_not];omega
 ·rintro rfl;simp at h
 ·rintro rfl;simp at h
theorem L.num {n:Int} (h0:0 <= n) (h1:n <= 9223372036854775807):L Nl (Lib.itoa n) [in1 n]:=by
 obtain ⟨u,rfl⟩ :∃u:Nat,n = u:=⟨n.toNat,zo⟩
 have hu:u <= qdw:=by unfold qdw;omega
 rw [show Lib.itoa (u:Int) = Lib.decDigits u by rw [Lib.itoa,if_neg zo];rfl]
 have hd:=qq1 u
 have hn:=qzl u
 obtain ⟨x,t,e,hx⟩:=qm7 u
 have U:x = 48->(x :: t).length = 1:=λq=>by rw [<-e,hx q,Lib.decDigits];rfl
 rw [e] at hd hn ⊢
 have E:=hd x (by simp)
 obtain ⟨g1,g2,g3,g4,_⟩:=qm8 E
 refine .of g1 g2 λp r hr=>⟨⟨1,[],u,p.length⟩,rfl,?_⟩
 have I:∀c ∈ r.head?,qag c = false:=λc hc=>by
  have:=hr c hc
  rw [qaO,Bool.or_eq_false_iff] at this
  exact this.2
 have er:=qnU (q:=qag) (p:=p) (u:=x :: t) (r:=r) hd I
 rw [lex,show x :: t ++ r = x :: (t ++ r) from rfl,at_]
 simp only [g3,g4,E,jl,if_false,if_true]
 rw [qf6,qbY,show x :: (t ++ r) = x :: t ++ r from rfl,er,qvB,Nat.add_sub_cancel_left,List.take_left',hn,if_neg,if_pos hu]
 ·rintro ⟨q,q2⟩
  have:=U q
  omega
 ·rfl
theorem Hd.num {n:Int} (h0:0 <= n):Hd (Lib.itoa n):=by
 rw [show Lib.itoa n = Lib.decDigits n.toNat by rw [Lib.itoa,if_neg zo]]
 have hd:=qq1 n.toNat
 obtain ⟨x,t,e,_⟩:=qm7 n.toNat
 rw [e] at hd ⊢
 exact ⟨x,t,rfl,(qm8 (hd x (by simp))).2.2.2.2⟩
def LA (u:Str) (ks:List PT):Prop:=L Nl u ks/\Hd u
theorem LA.inn {u:Str} {ks:List PT} (h:LA u ks) (k op:Int):LA (inn k (op,u)) (itk k (op,ks)):=by
 rw [AE.inn,itk]
 cases ile k (rk op) with
 | true=>exact h
 | false=>exact ⟨(L40.a0 (h.1.an L41 rfl)).tr,⟨40,_,rfl,by decide⟩⟩
theorem L.go {u v:Str} {a b:List PT} (hu:LA u a) (hv:L Tr v b) (hh:∀c ∈ v.head?,qaO c = false) (E:v ≠ []):L Tr (u ++ v) (a ++ b):=
 hu.1.app hv λr _ c hc=>by
  cases v with
  | nil=>exact absurd rfl E
  | cons x v=>simp at hc;subst hc;exact hh x rfl
theorem LA.two {u v w:Str} {a b k:List PT} (hu:LA u a) (hw:L Tr w k) (hv:LA v b) (hh:∀c ∈ w.head?,qaO c = false) (E:w ≠ []):LA (u ++ (w ++ v)) (a ++ (k ++ b)):=
 ⟨hu.1.app (hw.a0 hv.1) λr _ c hc=>by
  cases w with
  | nil=>exact absurd rfl E
  | cons x w=>simp at hc;subst hc;exact hh x rfl,hu.2.app⟩
theorem LA.join:∀(ps:List (Int×Str)) (qs:List (Int×List PT)),(∀(i:Nat) (p:Int×Str),ps[i]? = some p->∃q,qs[i]? = some q/\LA (AE.inn 0 p) (itk 0 q))->ps.length = qs.length->ps ≠ []->LA (qbV (ps.map (AE.inn 0))) (qbh (qs.map (itk 0)))
 | [],_,_,_,h=>absurd rfl h
 | p :: ps,[],_,hl,_=>by cases hl
 | p :: ps,q :: qs,h,hl,_=>by
  obtain ⟨q',e,h0⟩:=h 0 p rfl
  cases e
  rw [List.map_cons,List.map_cons]
  cases ps with
  | nil=>
   cases qs with
   | cons _ _=>cases hl
   | nil=>
    simp only [List.map_nil,qbV,qbh,List.flatten_nil,jF]
    exact h0
  | cons p2 ps=>
   cases qs with
   | nil=>cases hl
   | cons q2 qs=>
    have ih:=LA.join (p2 :: ps) (q2 :: qs) (λi p hp=>h (i + 1) p hp) (by simpa using hl) (by simp)
    rw [show qbV (AE.inn 0 p :: (p2 :: ps).map (AE.inn 0)) = AE.inn 0 p ++ ([44,32] ++ qbV ((p2 :: ps).map (AE.inn 0))) by simp [qbV],show qbh (itk 0 q :: (q2 :: qs).map (itk 0)) = itk 0 q ++ ([mk3 [44]] ++ qbh ((q2 :: qs).map (itk 0))) by simp [qbh]]
    exact h0.two (L44.a0 L.blank) ih (by simp;rfl) (by simp)
theorem LA.tup {aS:List Exl} {f:Exl->Str} {g:Exl->List PT} (h:∀a ∈ aS,LA (f a) (g a)) (E:aS ≠ []):LA (quw (aS.map λa=>(a.op,f a))) (qDN (aS.map λa=>(a.op,g a))):=by
 have hj:=LA.join (aS.map λa=>(a.op,f a)) (aS.map λa=>(a.op,g a)) (λi p hp=>by
  rw [List.getElem?_map] at hp ⊢
  cases ha:aS[i]? with
  | none=>rw [ha] at hp;cases hp
  | some a=>
   rw [ha] at hp
   cases hp
   exact ⟨_,rfl,(h a (List.mem_of_getElem? ha)).inn 0 a.op⟩) (by simp) (by simpa using E)
 rw [quw,qDN,jQ,jQ]
 generalize qbV _ = J at *
 generalize qbh _ = K at *
 have e:L Tr (bif aS.length == 1 then [44,41] else [41]) (bif aS.length == 1 then [mk3 [44],mk3 [41]] else [mk3 [41]]):=by
  cases aS.length == 1 with
  | true=>exact L44.a0 L41
  | false=>exact L41
 exact ⟨(L40.a0 (L.go hj e (by cases aS.length == 1 <;> (simp;rfl)) (by cases aS.length == 1 <;> simp))).tr,⟨40,_,rfl,by decide⟩⟩
theorem LA.cut {nm:Str} {w:Str} {k:List PT} (hw:L Tr (w ++ [40]) k) (hh:Hd (w ++ [40])) (hn:qcx nm = true):LA ((w ++ [40]) ++ (nm ++ [41])) (k ++ [nm0 nm,mk3 [41]]):=
 ⟨(hw.a0 ((L.name hn).an L41 rfl)).tr,hh.app⟩
theorem qaQ {nm:Str} (h:qy nm = true):qcx nm = true:=by
 rw [qy,jk] at h
 exact h.1
theorem qDc {op n:Int} {nm sb:Str} {aS:List Exl} {f:Exl->Str} {g:Exl->List PT} (hb:qiv op n nm sb aS.length = true) (hn:n <= 9223372036854775807) (h:∀a ∈ aS,LA (f a) (g a)):LA (ntx op n nm sb (aS.map λa=>(a.op,f a))) (ntk op n nm sb (aS.map λa=>(a.op,g a))):=by
 have ho:0 <= op/\op <= 25:=Decidable.byContradiction λhc=>by rw [qdW hc] at hb;cases hb
 have an:∀{a b:Bool},(a && b) = true->a = true/\b = true:=λh=>(jk _ _).mp h
 have:op = 0\/op = 1\/op = 2\/op = 3\/op = 4\/op = 5\/op = 6\/op = 7\/op = 8\/op = 9\/op = 10\/op = 11\/op = 12\/op = 13\/op = 14\/op = 15\/op = 16\/op = 17\/op = 18\/op = 19\/op = 20\/op = 21\/op = 22\/op = 23\/op = 24\/op = 25:=zo
 have kw:∀{w:Str},qcx w = true->LA w [nm0 w]:=λh=>⟨.name h,.name h⟩
 rcases this with rfl | rfl | rfl | rfl | rfl | rfl | rfl | rfl | rfl | rfl | rfl | rfl | rfl | rfl | rfl | rfl | rfl | rfl | rfl | rfl | rfl | rfl | rfl | rfl | rfl | rfl
 ·obtain ⟨h1,h2⟩:=an (show (fB true false false 0 0 n nm sb aS.length && ile 0 n) = true from hb)
  rw [qav] at h2
  have h2:=of_decide_eq_true h2
  exact ⟨.num h2 hn,.num h2⟩
 ·have h1:fB false false false 0 0 n nm sb aS.length = true:=hb
  exact kw rfl
 ·have h1:fB false false false 0 0 n nm sb aS.length = true:=hb
  exact kw rfl
 ·obtain ⟨h1,h2⟩:=an (show (fB false true false 0 0 n nm sb aS.length && qcx nm) = true from hb)
  exact ⟨.sym h2,⟨39,_,rfl,by decide⟩⟩
 ·obtain ⟨h1,h2⟩:=an (show (fB false true false 0 0 n nm sb aS.length && qy nm) = true from hb)
  exact kw (qaQ h2)
 ·obtain ⟨h1,h2⟩:=an (show (fB false true true 0 0 n nm sb aS.length && (qy nm && qy sb)) = true from hb)
  exact (kw (qaQ (an h2).1)).two L46 (kw (qaQ (an h2).2)) (by simp;rfl) (by simp)
 ·have h1:fB false false false 1 4 n nm sb aS.length = true:=hb
  exact LA.tup h (by rintro rfl;have:=qG h1;simp at this)
 ·obtain ⟨h1,h2⟩:=an (show (fB false true false 0 0 n nm sb aS.length && qy nm) = true from hb)
  exact LA.cut (w:=[99,111,117,110,116]) (L.go (kw rfl) L40 (by simp;rfl) (by simp)) ((Hd.name rfl).app) (qaQ h2)
 ·obtain ⟨h1,h2⟩:=an (show (fB false true false 0 0 n nm sb aS.length && qy nm) = true from hb)
  exact LA.cut (w:=[104,97,115]) (L.go (kw rfl) L40 (by simp;rfl) (by simp)) ((Hd.name rfl).app) (qaQ h2)
 ·obtain ⟨h1,h2⟩:=an (show (fB false true false 0 0 n nm sb aS.length && qy nm) = true from hb)
  exact LA.cut (w:=[115,117,109]) (L.go (kw rfl) L40 (by simp;rfl) (by simp)) ((Hd.name rfl).app) (qaQ h2)
 ·obtain ⟨h1,h2⟩:=an (show (fB false true false 1 1 n nm sb aS.length && qy nm) = true from hb)
  obtain ⟨a,rfl⟩:=qcA (l:=aS) (by have:=qG h1;omega)
  have ha:=λk=>(h a (by simp)).inn k a.op
  have h0:L Tr ([108,101,97,115,116] ++ [40]) _:=L.go (kw rfl) L40 (by simp;rfl) (by simp)
  have h3:=h0.a0 ((kw (qaQ h2)).1.an (L44.a0 (L.blank.a0 (L.go (ha 0) L41 (by simp;rfl) (by simp)))) rfl)
  exact ⟨h3.tr,⟨_,_,rfl,by decide⟩⟩
 ·have h1:fB false false false 0 0 n nm sb aS.length = true:=hb
  exact kw rfl
 ·obtain ⟨h1,h2⟩:=an (show (fB true false false 1 1 n nm sb aS.length && (ile 0 n && ilt n 4)) = true from hb)
  obtain ⟨a,rfl⟩:=qcA (l:=aS) (by have:=qG h1;omega)
  have ha:=λk=>(h a (by simp)).inn k a.op
  have hx:=(an h2).1
  rw [qav] at hx
  have hx:=of_decide_eq_true hx
  exact (ha _).two L46 ⟨.num hx hn,.num hx⟩ (by simp;rfl) (by simp)
 ·have h1:fB false false false 1 1 n nm sb aS.length = true:=hb
  obtain ⟨a,rfl⟩:=qcA (l:=aS) (by have:=qG h1;omega)
  have ha:=λk=>(h a (by simp)).inn k a.op
  exact ⟨L45.app (ha 7).1 λr _=>(ha 7).2.app,⟨45,_,rfl,by decide⟩⟩
 ·have h1:fB false false false 1 1 n nm sb aS.length = true:=hb
  obtain ⟨a,rfl⟩:=qcA (l:=aS) (by have:=qG h1;omega)
  have ha:=λk=>(h a (by simp)).inn k a.op
  have h0:L Tr ([110,111,116] ++ [32]) _:=L.go (kw rfl) L.blank (by simp;rfl) (by simp)
  exact ⟨h0.a0 (ha 3).1,⟨_,_,rfl,by decide⟩⟩
 ·have h1:fB false false false 2 2 n nm sb aS.length = true:=hb
  obtain ⟨a,b,rfl⟩:=qaW (l:=aS) (by have:=qG h1;omega)
  have ha:=λk=>(h a (by simp)).inn k a.op
  have hb:=λk=>(h b (by simp)).inn k b.op
  exact (ha _).two (L.blank.a0 (L43.a0 L.blank)) (hb _) (by simp [];rfl) (by simp)
 ·have h1:fB false false false 2 2 n nm sb aS.length = true:=hb
  obtain ⟨a,b,rfl⟩:=qaW (l:=aS) (by have:=qG h1;omega)
  have ha:=λk=>(h a (by simp)).inn k a.op
  have hb:=λk=>(h b (by simp)).inn k b.op
  exact (ha _).two (L.blank.a0 (qI1)) (hb _) (by simp [];rfl) (by simp)
 ·have h1:fB false false false 2 2 n nm sb aS.length = true:=hb
  obtain ⟨a,b,rfl⟩:=qaW (l:=aS) (by have:=qG h1;omega)
  have ha:=λk=>(h a (by simp)).inn k a.op
  have hb:=λk=>(h b (by simp)).inn k b.op
  exact (ha _).two (L.blank.a0 (L42.a0 L.blank)) (hb _) (by simp [];rfl) (by simp)
 ·have h1:fB false false false 2 2 n nm sb aS.length = true:=hb
  obtain ⟨a,b,rfl⟩:=qaW (l:=aS) (by have:=qG h1;omega)
  have ha:=λk=>(h a (by simp)).inn k a.op
  have hb:=λk=>(h b (by simp)).inn k b.op
  exact (ha _).two (L.blank.a0 (L47.a0 L.blank)) (hb _) (by simp [];rfl) (by simp)
 ·have h1:fB false false false 2 2 n nm sb aS.length = true:=hb
  obtain ⟨a,b,rfl⟩:=qaW (l:=aS) (by have:=qG h1;omega)
  have ha:=λk=>(h a (by simp)).inn k a.op
  have hb:=λk=>(h b (by simp)).inn k b.op
  exact (ha _).two (L.blank.a0 (L37.a0 L.blank)) (hb _) (by simp [];rfl) (by simp)
 ·have h1:fB false false false 2 2 n nm sb aS.length = true:=hb
  obtain ⟨a,b,rfl⟩:=qaW (l:=aS) (by have:=qG h1;omega)
  have ha:=λk=>(h a (by simp)).inn k a.op
  have hb:=λk=>(h b (by simp)).inn k b.op
  exact (ha _).two (L.blank.a0 (L61.a0 L.blank)) (hb _) (by simp [];rfl) (by simp)
 ·have h1:fB false false false 2 2 n nm sb aS.length = true:=hb
  obtain ⟨a,b,rfl⟩:=qaW (l:=aS) (by have:=qG h1;omega)
  have ha:=λk=>(h a (by simp)).inn k a.op
  have hb:=λk=>(h b (by simp)).inn k b.op
  exact (ha _).two (L.blank.a0 (qI2)) (hb _) (by simp [];rfl) (by simp)
 ·have h1:fB false false false 2 2 n nm sb aS.length = true:=hb
  obtain ⟨a,b,rfl⟩:=qaW (l:=aS) (by have:=qG h1;omega)
  have ha:=λk=>(h a (by simp)).inn k a.op
  have hb:=λk=>(h b (by simp)).inn k b.op
  exact (ha _).two (L.blank.a0 (qED.a0 L.blank)) (hb _) (by simp [];rfl) (by simp)
 ·have h1:fB false false false 2 2 n nm sb aS.length = true:=hb
  obtain ⟨a,b,rfl⟩:=qaW (l:=aS) (by have:=qG h1;omega)
  have ha:=λk=>(h a (by simp)).inn k a.op
  have hb:=λk=>(h b (by simp)).inn k b.op
  exact (ha _).two (L.blank.a0 (L.go (kw (w:=[97,110,100]) rfl) L.blank (by simp;rfl) (by simp))) (hb _) (by simp [];rfl) (by simp)
 ·have h1:fB false false false 2 2 n nm sb aS.length = true:=hb
  obtain ⟨a,b,rfl⟩:=qaW (l:=aS) (by have:=qG h1;omega)
  have ha:=λk=>(h a (by simp)).inn k a.op
  have hb:=λk=>(h b (by simp)).inn k b.op
  exact (ha _).two (L.blank.a0 (L.go (kw (w:=[111,114]) rfl) L.blank (by simp;rfl) (by simp))) (hb _) (by simp [];rfl) (by simp)
 ·have h1:fB false false false 3 3 n nm sb aS.length = true:=hb
  obtain ⟨a,b,c,rfl⟩:=qhp (l:=aS) (by have:=qG h1;omega)
  have ha:=λk=>(h a (by simp)).inn k a.op
  have hb:=λk=>(h b (by simp)).inn k b.op
  have hc:=λk=>(h c (by simp)).inn k c.op
  have h0:L Tr ([105,102] ++ [32]) _:=L.go (kw rfl) L.blank (by simp;rfl) (by simp)
  have t0:L Tr ([32] ++ ([116,104,101,110] ++ [32])) _:=L.blank.a0 (L.go (kw rfl) L.blank (by simp;rfl) (by simp))
  have e0:L Tr ([32] ++ ([101,108,115,101] ++ [32])) _:=L.blank.a0 (L.go (kw rfl) L.blank (by simp;rfl) (by simp))
  exact ⟨h0.a0 ((ha 0).two t0 ((hb 0).two e0 (hc 0) (by simp;rfl) (by simp)) (by simp;rfl) (by simp)).1,⟨_,_,rfl,by decide⟩⟩
theorem qBF:∀(d:Nat) (e:Exl),right d e = true->OkN e->LA (tx d e) (tk d e)
 | 0,_,h,_=>by rw [right] at h;cases h
 | d + 1,.mk op n nm sb aS,h,hn=>by
  rw [right,jk,List.all_eq_true] at h
  rw [OkN] at hn
  exact qDc h.1 hn.1 λa ha=>qBF d a (h.2 a ha) (hn.2 a ha)
end Go.Proofs.YtcbfifamliijlaaGreatDoor.AE
