/- A part of the proof. No condition. -/
import Derived.Test.YtkehdpkcdnofaaaGreatDoorMr10
import Derived.Test.YtkehdpkcdnofaaaGreatDoorMr7
import Derived.Test.YtkehdpkcdnofaaaGreatDoorMr2
set_option maxRecDepth 100000
set_option maxHeartbeats 0
open List renaming getElem?_append_left→ja,getElem?_eq_some_iff→jd,take_append_of_le_length→jS,take_set_of_le→jT,getElem?_set_ne→jf,getElem?_set_self→jg,drop_eq_getElem_cons→jU,getElem?_eq_getElem→jh,append_assoc→jp,map_append→jX,getElem?_eq_none→jq,length_cons→jy,set_cons_zero→j4,set_cons_succ→j5,take_append→j6,take_length→jD
open Bool renaming and_eq_true→jk,false_eq_true→jl,true_and→j0,false_and→jL,and_true→jv,false_or→jN,eq_false_iff→j3
open Nat renaming le_refl→jm,add_assoc→jt,lt_succ_self→j7
namespace Go.Proofs.YtkehdpkcdnofaaaGreatDoor.AE
open Go.AE
def qnr (s:Str) (j:Nat) (t:Tok) (to:Nat) (e:Int):Prop:=∀h,Wd (.fn 67 [] []) [.str s,.int .i64 (j:Nat)] h = some (.ret (.tup [qcn t.kind t.s t.n t.pos,.int .i64 (to:Nat),.int .i64 e]),h,false)
inductive qhG (s:Str):Nat->List Tok->Option (Int×Int)->Prop
 | last {i j t to}:qiV s i j->qnr s j t to 0->(t.kind == 4) = true->qhG s i [t] none
 | err {i j t to e}:qiV s i j->qnr s j t to e->(e == 0) = false->qhG s i [] (some (t.pos,e))
 | next {i j t to ts o}:qiV s i j->qnr s j t to 0->(t.kind == 4) = false->qhG s to ts o->qhG s i (t :: ts) o
section
variable {s:Str} {base a b q l:Nat} {tab:List qd}
structure qhZ (s:Str) (a q b l:Nat) (tab:List qd) (xs:List Tok) (H:List qk):Prop where
 r0:H[a]? = some (.cells [.lst [] .full])
 r1:H[a + 1]? = some (.cells [.int .i64 0])
 r2:H[a + 1 + 1]? = some (.cells [.int .i64 0])
 lst:∃f,((f = .full/\xs = [])\/f = .own 4)/\H[q]? = some (.cells [.lst (xs.map Tok.enc) f])
 txt:H[b]? = some (.cells [.str s])
 box:H[l]? = some (.loop tab [10,11] qbP qd8 .ready none)
 ord:a + 1 + 1 < q/\q < b/\b < l
theorem qiN (xs:List Tok):∀x ∈ xs.map Tok.enc,x.cells.length = 4:=by
 intro x hx
 obtain ⟨t,_,rfl⟩:=List.mem_map.1 hx
 rfl
theorem qdR (m:Nat):∀xs:List Tok,qj m (xs.map Tok.enc) = true
 | []=>rfl
 | t :: xs=>by rw [List.map_cons,qez,qdR m xs];rfl
def qdy (a q l:Nat) (tab:List qd) (H H':List qk) (xs:List Tok):Option (Int×Int)->Prop
 | none=>H'.take (l + 1) = (H.set q (.cells [.lst (xs.map Tok.enc) (.own 4)])).take (l + 1)
 | some (p,e)=>∃c,H'.take (l + 1) = (((((H.set q c).set a (.cells [.lst [] .full])).set (a + 1) (.cells [.int .i64 p])).set (a + 1 + 1) (.cells [.int .i64 e])).set l (.loop tab [10,11] qbP qd8 .done (some .ret))).take (l + 1)
theorem qhZ.next {xs:List Tok} {H:List qk} (hl:qhZ s a q b l tab xs H) (t:Tok) (c:qk):qhZ s a q b l tab (xs ++ [t]) ((H ++ [c]).set q (.cells [.lst ((xs ++ [t]).map Tok.enc) (.own 4)])):=by
 obtain ⟨h0,h1,h2,⟨f,_,h3⟩,h4,h5,o⟩:=hl
 have E:l < H.length:=(jd.1 h5).1
 refine ⟨?_,?_,?_,⟨_,.inr rfl,?_⟩,?_,?_,o⟩
 ·rw [jf zo,ja zo,h0]
 ·rw [jf zo,ja zo,h1]
 ·rw [jf zo,ja zo,h2]
 ·rw [jg (by simp;omega)]
 ·rw [jf zo,ja zo,h4]
 ·rw [jf zo,ja zo,h5]
theorem qhZ.grow {xs:List Tok} {H:List qk} (hl:qhZ s a q b l tab xs H) (c:qk):qhZ s a q b l tab xs (H ++ [c]):=by
 obtain ⟨h0,h1,h2,⟨f,hf,h3⟩,h4,h5,o⟩:=hl
 have E:l < H.length:=(jd.1 h5).1
 refine ⟨?_,?_,?_,⟨f,hf,?_⟩,?_,?_,o⟩
 all_goals rw [ja zo]
 ·exact h0
 ·exact h1
 ·exact h2
 ·exact h3
 ·exact h4
 ·exact h5
theorem quQ (hx:qcT) (hs:s.length <= 100000) (t22:tab.length = 22) (p2:lkp tab 2 = .ptr a 0) (p3:lkp tab 3 = .ptr (a + 1) 0) (p4:lkp tab 4 = .ptr (a + 1 + 1) 0) (p5:lkp tab 5 = .ptr q 0) {i:Nat} {ts:List Tok} {o:Option (Int×Int)} (hW:qhG s i ts o) :
  ∀(xs:List Tok) (H:List qk) (tt:List qd),qhZ s a q b l tab xs H->xs.length + ts.length <= 100000->base <= H.length->tt.length = 37->lkp tt 0 = .yld l->lkp tt 1 = .ptr b 0->lkp tt 3 = .int .i64 (i:Nat)->
   ∃I H',qg base Wd (.loop qka) ⟨tt,H,false⟩ = some (.ret,⟨I,H',false⟩)/\qdy a q l tab H H' (xs ++ ts) o:=by
 induction hW with
 | @last i j t to hk hw h4=>
  intro xs H tt hL hn E ht e0 e1 e3
  have Y:l < H.length:=(jd.1 hL.box).1
  obtain ⟨f,hf,hq⟩:=(hL.grow (.cells [.int .i64 t.kind,.str t.s,.int .i64 t.n,.int .i64 t.pos])).lst
  have U:=hL.ord
  have hy:=qjH (hf.imp (λg=>⟨g.1,by rw [g.2];rfl⟩) id) t22 p5 hq (hL.grow _).box zo (qiN xs) (by simp;omega) (λm=>qdR m xs) t.kind t.s t.n t.pos
  obtain ⟨I,he⟩:=qx6 (base:=base) hx hs hk ht e0 e1 e3 hL.txt E hw hy (by rw [jf zo,qd6 rfl];rfl) h4
  rw [qh,he]
  refine ⟨_,_,rfl,?_⟩
  rw [qdy,jX,List.set_append_left _ _ zo,jS (by simp;omega)]
  rfl
 | @err i j t to e hk hw a6=>
  intro xs H tt hL hn E ht e0 e1 e3
  have Y:l < H.length:=(jd.1 hL.box).1
  have hg:=hL.grow (.cells [.int .i64 t.kind,.str t.s,.int .i64 t.n,.int .i64 t.pos])
  obtain ⟨f,hf,hq⟩:=hL.lst
  have U:=hL.ord
  have hy:=qt7 t22 p2 p3 p4 hg.r0 hg.r1 hg.r2 hg.box zo t.kind t.s t.n t.pos e a6
  obtain ⟨I,he⟩:=quR (base:=base) hx hs hk ht e0 e1 e3 hL.txt E hw hy (by
   rw [jf zo,jf zo,jf zo,jf zo,qd6 rfl];rfl)
  rw [qh,he]
  refine ⟨_,_,rfl,.cells [.lst (xs.map Tok.enc) f],?_⟩
  rw [List.set_append_left _ _ zo,List.set_append_left _ _ (by simp;omega),List.set_append_left _ _ (by simp;omega),List.set_append_left _ _ (by simp;omega),jS (by simp;omega)]
  rw [show H.set q (.cells [.lst (xs.map Tok.enc) f]) = H from by
   apply List.ext_getElem?
   intro j
   by_cases hj:q = j
   ·subst hj;rw [hq,jg zo]
   ·rw [jf hj]]
 | @next i j t to ts o hk hw h4 _ ih=>
  intro xs H tt hL hn E ht e0 e1 e3
  have Y:l < H.length:=(jd.1 hL.box).1
  obtain ⟨f,hf,hq⟩:=(hL.grow (.cells [.int .i64 t.kind,.str t.s,.int .i64 t.n,.int .i64 t.pos])).lst
  have U:=hL.ord
  have hy:=qjH (hf.imp (λg=>⟨g.1,by rw [g.2];rfl⟩) id) t22 p5 hq (hL.grow _).box zo (qiN xs) (by simp at hn ⊢;omega) (λm=>qdR m xs) t.kind t.s t.n t.pos
  obtain ⟨I,he,g1,g2,g3,g4⟩:=qAF (base:=base) hx hs hk ht e0 e1 e3 hL.txt E hw hy (by rw [jf zo,qd6 rfl];rfl) h4
  have a7:=hL.next t (.cells [.int .i64 t.kind,.str t.s,.int .i64 t.n,.int .i64 t.pos])
  obtain ⟨a1,H2,r1,r2⟩:=ih (xs ++ [t]) _ I a7 (by simp at hn ⊢;omega) (by simp;omega) g1 g2 g3 g4
  rw [qh,he,qaT]
  refine ⟨a1,H2,?_,?_⟩
  ·rw [<-r1,jX];rfl
  ·rw [jp] at r2
   cases o with
   | none=>
    rw [qdy,List.set_set,List.set_append_left _ _ zo,jS (by simp;omega)] at r2
    exact r2
   | some pe=>
    obtain ⟨c,r2⟩:=r2
    refine ⟨c,?_⟩
    rw [r2,List.set_set,List.set_append_left _ _ zo,List.set_append_left _ _ (by simp;omega),List.set_append_left _ _ (by simp;omega),List.set_append_left _ _ (by simp;omega),List.set_append_left _ _ (by simp;omega),jS (by simp;omega)]
end
section
variable {s:Str} {a b q l:Nat} {tab:List qd}
theorem qdy.cut {H H':List qk} {xs:List Tok} {o:Option (Int×Int)} (h:qdy a q l tab H H' xs o):qdy a q l tab H (H'.take (l + 1)) xs o:=by
 cases o with
 | none=>rw [qdy,List.take_take,Nat.min_self];exact h
 | some pe=>
  obtain ⟨c,h⟩:=h
  exact ⟨c,by rw [List.take_take,Nat.min_self];exact h⟩
theorem qqJ (hx:qcT) (hs:s.length <= 16384) (t22:tab.length = 22) (p2:lkp tab 2 = .ptr a 0) (p3:lkp tab 3 = .ptr (a + 1) 0) (p4:lkp tab 4 = .ptr (a + 1 + 1) 0) (p5:lkp tab 5 = .ptr q 0) {ts:List Tok} {o:Option (Int×Int)} (hW:qhG s 0 ts o) {H:List qk} (hL:qhZ s a q b l tab [] H) (hn:ts.length <= 100000) (hl:H.length = l + 1) :
  ∃R,Wd (.fn 66 [] [.ptr b 0]) [.yld l] H = some (.ret (.tup []),R,false)/\qdy a q l tab H R ts o:=by
 have I:=hL.txt
 have U:b < H.length:=(jd.1 I).1
 have c1:ilt 16384 (s.length:Int) = false:=by rw [qD];simp;omega
 rw [qu 66 c66]
 generalize hR:qbS _ H _ = R
 simp only [sB.1,c66,seval,I,c1] at hR
 generalize hr:qg H.length Wd (.loop qka) _ = r at hR
 obtain ⟨E,H',rfl,hE⟩ :∃E H',r = some (.ret,⟨E,H',false⟩)/\qdy a q l tab H H' ([] ++ ts) o:=by
  rw [<-hr]
  refine quQ hx zo t22 p2 p3 p4 p5 hW [] H _ hL (by simpa using hn) (jm _) ?_ ?_ ?_ ?_
  all_goals simp only [sB.1,seval,Int.natCast_zero]
 simp only [sB.1,seval] at hR
 subst hR
 refine ⟨_,rfl,?_⟩
 rw [hl]
 exact hE.cut
end
end Go.Proofs.YtkehdpkcdnofaaaGreatDoor.AE
namespace Go.AE
theorem qwR {base:Nat} {call:Call} {f:qP} {ps:List Nat} {asg body:qK} {s:St} {g:FuncId} {first cap:List qd} {v:qd} {h:List qk} {e:Bool} {t:List qd} {U:List Nat} {I E:qK}
  (hf:ev s.t f = .fn g first cap) (hc:call (.fn g first cap) [.yld s.h.length] (s.h ++ [.loop (s.t.map qd.dim) ps asg body .ready none]) = some (.ret v,h,e)) (hl:h[s.h.length]? = some (.loop t U I E .ready none)) :
  qg base call (.rfun f ps asg body) s = some (.nor,{ s with h:=h.set s.h.length (.loop t U I E .exhausted none),e:=s.e || e}):=by
 rw [qjf]
 simp only [qbL,hf,hc,hl]
 rfl
theorem qwS {base:Nat} {call:Call} {f:qP} {ps:List Nat} {asg body:qK} {s:St} {g:FuncId} {first cap:List qd} {v:qd} {h:List qk} {e:Bool} {t:List qd} {U:List Nat} {I E:qK}
  (hf:ev s.t f = .fn g first cap) (hc:call (.fn g first cap) [.yld s.h.length] (s.h ++ [.loop (s.t.map qd.dim) ps asg body .ready none]) = some (.ret v,h,e)) (hl:h[s.h.length]? = some (.loop t U I E .done (some .ret))) :
  qg base call (.rfun f ps asg body) s = some (.ret,{ s with h:=h.set s.h.length (.loop t U I E .exhausted (some .ret)),e:=s.e || e}):=by
 rw [qjf]
 simp only [qbL,hf,hc,hl]
 rfl
end Go.AE
namespace Go.Proofs.YtkehdpkcdnofaaaGreatDoor.AE
open Go.AE
section
variable {s:Str} {h:List qk}
theorem qxw (h:List qk):Wd (.fn 44 [] []) [.str s] h = some (.ret (.fn 66 [] [.ptr h.length 0]),h ++ [.cells [.str s]],false):=by
 have hb:Nat.ble (h.length + 1) h.length = false:=by rw [j3];intro q;have:=Nat.le_of_ble_eq_true q;omega
 rw [qu 44 c44]
 simp only [sB.1,c44,Nat.reduceAdd,Nat.reduceSub,Nat.reduceLT,Nat.reduceEqDiff]
 simp [qbD,qd.lower,qj]
theorem qzV (hx:qcT) (hs:s.length <= 16384) {ts:List Tok} (hW:qhG s 0 ts none) (hn:ts.length <= 100000):Wd (.fn 20 [] []) [.str s] h = some (.ret (.tup [.lst (ts.map Tok.enc) .no,.int .i64 0,.int .i64 0]),h,false):=by
 rw [qu 20 c20]
 generalize hR:qbS _ h _ = R
 simp only [sB.1,c20,reduceCtorEq,Nat.reduceAdd,Nat.reduceSub,Nat.reduceLT,qxw] at hR
 generalize hr:qg h.length Wd (.rfun _ _ _ _) _ = r at hR
 obtain ⟨tt,H',rfl,ht,e2,e3,e4,e5,hE⟩ :∃tt H',r = some (.nor,⟨tt,H',false⟩)/\tt.length = 22/\lkp tt 2 = .ptr h.length 0/\lkp tt 3 = .ptr (h.length + 1) 0/\lkp tt 4 = .ptr (h.length + 1 + 1) 0/\lkp tt 5 = .ptr (h.length + 3) 0/\H'.take (h.length + 4) = h ++ [.cells [.lst [] .full],.cells [.int .i64 0],.cells [.int .i64 0],.cells [.lst (ts.map Tok.enc) (.own 4)]]:=by
  rw [<-hr]
  clear hr hR
  generalize hT:up (up (up (up (up (up (qd.str s :: List.replicate 21 (.tup [])) 2 (.ptr h.length 0)) 3 (.ptr (h.length + 1) 0)) 4 (.ptr (h.length + 2) 0)) 5 (.ptr (h.length + 3) 0)) 8 (.str s)) 9 (.fn 66 [] [.ptr (h.length + 4) 0]) = T0
  have I:T0.length = 22:=by rw [<-hT];simp only [sB.1,Nat.reduceAdd]
  have d2:lkp T0 2 = .ptr h.length 0:=by rw [<-hT];simp only [sB.1,Nat.reduceAdd,Nat.reduceLT,Nat.reduceEqDiff]
  have d3:lkp T0 3 = .ptr (h.length + 1) 0:=by rw [<-hT];simp only [sB.1,Nat.reduceAdd,Nat.reduceLT,Nat.reduceEqDiff]
  have d4:lkp T0 4 = .ptr (h.length + 1 + 1) 0:=by rw [<-hT];simp only [sB.1,Nat.reduceAdd,Nat.reduceLT,Nat.reduceEqDiff]
  have d5:lkp T0 5 = .ptr (h.length + 3) 0:=by rw [<-hT];simp only [sB.1,Nat.reduceAdd,Nat.reduceLT,Nat.reduceEqDiff]
  have d9:ev T0 (.t 9) = .fn 66 [] [.ptr (h.length + 4) 0]:=by rw [<-hT];simp only [sB.1,Nat.reduceAdd,Nat.reduceLT]
  have dm:T0.map qd.dim = T0:=by rw [<-hT];simp only [up,List.replicate,j5,j4,List.map_cons,List.map_nil,qmr,qms,qmq,qrp]
  have E:(h ++ [qk.cells [.lst [] .full],.cells [.int .i64 0],.cells [.int .i64 0],.cells [.lst [] .full],.cells [.str s]]).length = h.length + 5:=by simp
  have hL:qhZ s h.length (h.length + 3) (h.length + 4) (h.length + 5) T0 [] ((h ++ [qk.cells [.lst [] .full],.cells [.int .i64 0],.cells [.int .i64 0],.cells [.lst [] .full],.cells [.str s]]) ++ [.loop T0 [10,11] qbP qd8 .ready none]):=by
   rw [jp]
   refine ⟨?_,?_,?_,⟨_,.inl ⟨rfl,rfl⟩,?_⟩,?_,?_,zo⟩
   ·rw [qd6 rfl];rfl
   ·rw [qaP];rfl
   ·rw [jt,qaP];rfl
   ·rw [qaP];rfl
   ·rw [qaP];rfl
   ·rw [qaP];rfl
  obtain ⟨R,hc,hE⟩:=qqJ hx hs I d2 d3 d4 d5 hW hL hn (by simp)
  rw [qdy] at hE
  have a1:h.length + 5 < R.length:=by
   have:=congrArg List.length hE
   rw [List.length_take,List.length_take] at this
   simp at this
   omega
  have g5:R[h.length + 5]? = some (.loop T0 [10,11] qbP qd8 .ready none):=by
   have:=congrArg (λx=>x[h.length + 5]?) hE
   simp only [List.getElem?_take_of_lt (j7 (h.length + 5))] at this
   rw [this,jf zo]
   exact hL.box
  refine ⟨T0,_,qwR (v:=.tup []) d9 (by rw [dm,E];exact hc) (by rw [E];exact g5),I,d2,d3,d4,d5,?_⟩
  rw [E,jT zo]
  have:=congrArg (List.take (h.length + 4)) hE
  rw [List.take_take,List.take_take,Nat.min_eq_left zo] at this
  rw [this,jp,List.set_append_right _ _ zo,j6]
  simp
  exact List.take_of_length_le zo
 have Y:h.length + 4 <= H'.length:=by
  have:=congrArg List.length hE
  rw [List.length_take] at this
  simp at this
  omega
 have gk:∀k,k < h.length + 4->H'[k]? = (h ++ [.cells [.lst [] .full],.cells [.int .i64 0],.cells [.int .i64 0],.cells [.lst (ts.map Tok.enc) (.own 4)]])[k]?:=λk hk=>by rw [<-hE,List.getElem?_take_of_lt hk]
 have r0:H'[h.length]? = some (.cells [.lst [] .full]):=by rw [gk _ zo,qd6 rfl];rfl
 have r1:H'[h.length + 1]? = some (.cells [.int .i64 0]):=by rw [gk _ zo,qaP];rfl
 have r2:H'[h.length + 1 + 1]? = some (.cells [.int .i64 0]):=by rw [jt,gk _ zo,qaP];rfl
 have r3:H'[h.length + 3]? = some (.cells [.lst (ts.map Tok.enc) (.own 4)]):=by rw [gk _ zo,qaP];rfl
 have U:=qdR (h.length + 1) ts
 have l0:h.length < H'.length:=zo
 have l1:h.length + 1 < H'.length:=zo
 have l2:h.length + 1 + 1 < H'.length:=zo
 have l3:h.length + 3 < H'.length:=zo
 have m1:¬ (h.length = h.length + 1):=zo
 have m2:¬ (h.length = h.length + 1 + 1):=zo
 have m3:¬ (h.length + 1 = h.length + 1 + 1):=zo
 have m4:¬ (h.length + 1 = h.length):=zo
 have m5:¬ (h.length + 1 + 1 = h.length):=zo
 have m6:¬ (h.length + 1 + 1 = h.length + 1):=zo
 rw [<-hR]
 simp only [sB.1,Nat.reduceLT,Nat.reduceEqDiff,ht,e2,e3,e4,e5,r0,r1,r2,r3,l0,l1,l2,m1,m2,m3,m4,m5,m6]
 refine congrArg some (qw ?_ ?_)
 ·rw [jT zo,jT zo,jT zo]
  have:=congrArg (List.take h.length) hE
  rw [List.take_take,Nat.min_eq_left zo] at this
  rw [this,jS (jm _),jD]
 ·simp [qd.lower,qj,qdR]
theorem qp1 {ts:List Tok} {p e:Int} (hA:∀(a b q l:Nat) (tab:List qd) (H:List qk),tab.length = 22->lkp tab 2 = .ptr a 0->lkp tab 3 = .ptr (a + 1) 0->lkp tab 4 = .ptr (a + 1 + 1) 0->lkp tab 5 = .ptr q 0->qhZ s a q b l tab [] H->H.length = l + 1->∃R,Wd (.fn 66 [] [.ptr b 0]) [.yld l] H = some (.ret (.tup []),R,false)/\qdy a q l tab H R ts (some (p,e))):Wd (.fn 20 [] []) [.str s] h = some (.ret (.tup [.lst [] .full,.int .i64 p,.int .i64 e]),h,false):=by
 rw [qu 20 c20]
 generalize hR:qbS _ h _ = R
 simp only [sB.1,c20,reduceCtorEq,Nat.reduceAdd,Nat.reduceSub,Nat.reduceLT,qxw] at hR
 generalize hr:qg h.length Wd (.rfun _ _ _ _) _ = r at hR
 obtain ⟨tt,H',rfl,ht,e2,e3,e4,hE⟩ :∃tt H',r = some (.ret,⟨tt,H',false⟩)/\tt.length = 22/\lkp tt 2 = .ptr h.length 0/\lkp tt 3 = .ptr (h.length + 1) 0/\lkp tt 4 = .ptr (h.length + 1 + 1) 0/\H'.take (h.length + 3) = h ++ [.cells [.lst [] .full],.cells [.int .i64 p],.cells [.int .i64 e]]:=by
  rw [<-hr]
  clear hr hR
  generalize hT:up (up (up (up (up (up (qd.str s :: List.replicate 21 (.tup [])) 2 (.ptr h.length 0)) 3 (.ptr (h.length + 1) 0)) 4 (.ptr (h.length + 2) 0)) 5 (.ptr (h.length + 3) 0)) 8 (.str s)) 9 (.fn 66 [] [.ptr (h.length + 4) 0]) = T0
  have I:T0.length = 22:=by rw [<-hT];simp only [sB.1,Nat.reduceAdd]
  have d2:lkp T0 2 = .ptr h.length 0:=by rw [<-hT];simp only [sB.1,Nat.reduceAdd,Nat.reduceLT,Nat.reduceEqDiff]
  have d3:lkp T0 3 = .ptr (h.length + 1) 0:=by rw [<-hT];simp only [sB.1,Nat.reduceAdd,Nat.reduceLT,Nat.reduceEqDiff]
  have d4:lkp T0 4 = .ptr (h.length + 1 + 1) 0:=by rw [<-hT];simp only [sB.1,Nat.reduceAdd,Nat.reduceLT,Nat.reduceEqDiff]
  have d5:lkp T0 5 = .ptr (h.length + 3) 0:=by rw [<-hT];simp only [sB.1,Nat.reduceAdd,Nat.reduceLT,Nat.reduceEqDiff]
  have d9:ev T0 (.t 9) = .fn 66 [] [.ptr (h.length + 4) 0]:=by rw [<-hT];simp only [sB.1,Nat.reduceAdd,Nat.reduceLT]
  have dm:T0.map qd.dim = T0:=by rw [<-hT];simp only [up,List.replicate,j5,j4,List.map_cons,List.map_nil,qmr,qms,qmq,qrp]
  have E:(h ++ [qk.cells [.lst [] .full],.cells [.int .i64 0],.cells [.int .i64 0],.cells [.lst [] .full],.cells [.str s]]).length = h.length + 5:=by simp
  have hL:qhZ s h.length (h.length + 3) (h.length + 4) (h.length + 5) T0 [] ((h ++ [qk.cells [.lst [] .full],.cells [.int .i64 0],.cells [.int .i64 0],.cells [.lst [] .full],.cells [.str s]]) ++ [.loop T0 [10,11] qbP qd8 .ready none]):=by
   rw [jp]
   refine ⟨?_,?_,?_,⟨_,.inl ⟨rfl,rfl⟩,?_⟩,?_,?_,zo⟩
   ·rw [qd6 rfl];rfl
   ·rw [qaP];rfl
   ·rw [jt,qaP];rfl
   ·rw [qaP];rfl
   ·rw [qaP];rfl
   ·rw [qaP];rfl
  obtain ⟨R,hc,hE⟩:=hA _ _ _ _ _ _ I d2 d3 d4 d5 hL (by simp)
  obtain ⟨c,hE⟩:=hE
  have Y:h.length + 5 < R.length:=by
   have:=congrArg List.length hE
   rw [List.length_take,List.length_take] at this
   simp at this
   omega
  have g5:R[h.length + 5]? = some (.loop T0 [10,11] qbP qd8 .done (some .ret)):=by
   have:=congrArg (λx=>x[h.length + 5]?) hE
   simp only [List.getElem?_take_of_lt (j7 (h.length + 5))] at this
   rw [this,jg (by simp)]
  refine ⟨T0,_,qwS (v:=.tup []) d9 (by rw [dm,E];exact hc) (by rw [E];exact g5),I,d2,d3,d4,?_⟩
  rw [E,jT zo]
  have:=congrArg (List.take (h.length + 3)) hE
  rw [List.take_take,List.take_take,Nat.min_eq_left zo,jT zo] at this
  rw [this,jp,List.set_append_right _ _ zo,List.set_append_right _ _ zo,List.set_append_right _ _ zo,List.set_append_right _ _ zo,j6]
  have z1:h.length + 1 + 1 - h.length = 2:=zo
  simp [z1]
  exact List.take_of_length_le zo
 have U:h.length + 3 <= H'.length:=by
  have:=congrArg List.length hE
  rw [List.length_take] at this
  simp at this
  omega
 have gk:∀k,k < h.length + 3->H'[k]? = (h ++ [.cells [.lst [] .full],.cells [.int .i64 p],.cells [.int .i64 e]])[k]?:=λk hk=>by rw [<-hE,List.getElem?_take_of_lt hk]
 have r0:H'[h.length]? = some (.cells [.lst [] .full]):=by rw [gk _ zo,qd6 rfl];rfl
 have r1:H'[h.length + 1]? = some (.cells [.int .i64 p]):=by rw [gk _ zo,qaP];rfl
 have r2:H'[h.length + 1 + 1]? = some (.cells [.int .i64 e]):=by rw [jt,gk _ zo,qaP];rfl
 have l0:h.length < H'.length:=zo
 have l1:h.length + 1 < H'.length:=zo
 have l2:h.length + 1 + 1 < H'.length:=zo
 have m1:¬ (h.length = h.length + 1):=zo
 have m2:¬ (h.length = h.length + 1 + 1):=zo
 have m3:¬ (h.length + 1 = h.length + 1 + 1):=zo
 have m4:¬ (h.length + 1 = h.length):=zo
 have m5:¬ (h.length + 1 + 1 = h.length):=zo
 have m6:¬ (h.length + 1 + 1 = h.length + 1):=zo
 rw [<-hR]
 simp only [sB.1,e2,e3,e4,r0,r1,r2]
 refine congrArg some (qw ?_ ?_)
 ·have:=congrArg (List.take h.length) hE
  rw [List.take_take,Nat.min_eq_left zo] at this
  rw [this,jS (jm _),jD]
 ·simp [qd.lower,qj]
theorem qzU (hx:qcT) (hs:s.length <= 16384) {ts:List Tok} {p e:Int} (hW:qhG s 0 ts (some (p,e))) (hn:ts.length <= 100000):Wd (.fn 20 [] []) [.str s] h = some (.ret (.tup [.lst [] .full,.int .i64 p,.int .i64 e]),h,false):=
 qp1 λ_ _ _ _ _ _ t22 p2 p3 p4 p5 hL hl=>qqJ hx hs t22 p2 p3 p4 p5 hW hL hn hl
end
def qfO (d:Str):Nat:=d.foldl (λa c=>a * 10 + (c.toNat - 48)) 0
def qcP:Nat:=9223372036854775807
def qkQ:Prop:=∀d:Str,d ≠ []->d.length <= 100000->d.all qaq = true->(qfO d <= qcP->qi6 d (qfO d:Nat))/\(qcP < qfO d->qnp d)
def qfb (at_:Nat):Tok:=⟨0,[],0,at_⟩
def qaK (s:Str) (kind:Int) (at_ i:Nat):Tok×Nat×Int:=
 match s[i]? with
 | none=>(qfb at_,at_,5)
 | some c=>if qba c = true then (if qaa qaF s i - i <= 16 then (⟨kind,(s.drop i).take (qaa qaF s i - i),0,at_⟩,qaa qaF s i,0) else (qfb at_,at_,9)) else (qfb at_,at_,5)
def qcp (s:Str) (i:Nat):Str:=(s.drop i).take (qaa qaq s i - i)
def qei (s:Str) (i:Nat) (c:UInt8):Tok×Nat×Int:=
 if c = 48/\1 < qaa qaq s i - i then (qfb i,i,6)
 else if qfO (qcp s i) <= qcP then (⟨1,[],(qfO (qcp s i):Nat),i⟩,qaa qaq s i,0) else (qfb i,i,2)
def qe5 (s:Str) (i:Nat):Option Str->Tok×Nat×Int
 | some m=>(⟨3,m,0,i⟩,i + m.length,0)
 | none=>(qfb i,i,5)
def lex (s:Str) (j:Nat):Tok×Nat×Int:=
 match s[j]? with
 | none=>(⟨4,[],0,j⟩,j,0)
 | some c=>
  if qba c = true then qaK s 0 j j
  else if c = 39 then qaK s 2 j (j + 1)
  else if qaq c = true then qei s j c
  else qe5 s j (qdK (s.drop j))
theorem qgD:qba 39 = false:=zk
theorem qg5 (p:UInt8->Bool):∀l:Str,(∀a ∈ l,p a = true)->l.takeWhile p = l
 | [],_=>rfl
 | a :: l,h=>by rw [List.takeWhile_cons_of_pos (h a (by simp)),qg5 p l λb hb=>h b (by simp [hb])]
theorem qdO (p:UInt8->Bool) (s:Str) (i:Nat):(s.drop i).take (qaa p s i - i) = (s.drop i).takeWhile p:=by
 rw [qaa,Nat.add_sub_cancel_left]
 generalize s.drop i = l
 induction l with
 | nil=>rfl
 | cons c l ih=>
  rw [List.takeWhile_cons]
  split
  ·rw [jy,List.take_succ_cons,ih]
  ·rfl
theorem qox (s:Str) (i:Nat):(qcp s i).all qaq = true:=by
 rw [qcp,qdO]
 exact List.all_takeWhile
theorem qhT {p:UInt8->Bool} {s:Str} {i:Nat} (hi:i < s.length) (hp:p s[i] = true):i < qaa p s i:=by
 rw [qd2 hi hp]
 have:=qcL p s (i + 1)
 omega
theorem qmo {s:Str} {i:Nat} (hi:i < s.length) (hp:qaq s[i] = true):qcp s i ≠ []:=by
 rw [qcp]
 have h1:=qhT hi hp
 intro h
 have:=congrArg List.length h
 rw [List.length_take,List.length_drop,List.length_nil] at this
 omega
theorem qk5 (s:Str) (i:Nat):(qcp s i).length <= s.length:=by
 rw [qcp,List.length_take,List.length_drop]
 omega
theorem qjq {s:Str} (hs:s.length <= 100000) (kind:Int) (at_ i:Nat) (hi:i <= s.length) (h:List qk):Wd (.fn 92 [] []) [.str s,.int .i64 kind,.int .i64 (at_:Nat),.int .i64 (i:Nat)] h =
  some (.ret (.tup [qcn (qaK s kind at_ i).1.kind (qaK s kind at_ i).1.s (qaK s kind at_ i).1.n (qaK s kind at_ i).1.pos,.int .i64 ((qaK s kind at_ i).2.1:Nat),.int .i64 (qaK s kind at_ i).2.2]),h,false):=by
 rcases Nat.lt_or_ge i s.length with h1 | h1
 ·cases hl:qba s[i] with
  | true=>
   rw [quq s hs kind at_ i h1 hl]
   simp only [qaK,jh h1,hl,if_true]
   split
   ·rfl
   ·rfl
  | false=>
   rw [qn5 s kind at_ i hi λ_=>hl]
   simp only [qaK,jh h1,hl,jl,if_false]
   rfl
 ·rw [qn5 s kind at_ i hi λh=>absurd h zo]
  simp only [qaK,jq h1]
  rfl
theorem qkH (U:qkQ) {s:Str} (hs:s.length <= 100000) {j:Nat} (hj:j <= s.length):qnr s j (lex s j).1 (lex s j).2.1 (lex s j).2.2:=by
 intro h
 rcases Nat.lt_or_ge j s.length with h1 | h1
 ·have hx:=jh h1
  cases hl:qba s[j] with
  | true=>
   have e:lex s j = qaK s 0 j j:=by simp only [lex,hx,hl,if_true]
   rw [e]
   exact quA h1 hl λh=>qjq hs 0 j j hj h
  | false=>
   cases E:(s[j] == 39) with
   | true=>
    have e:lex s j = qaK s 2 j (j + 1):=by simp only [lex,hx,jl,if_false,beq_iff_eq.1 E,if_true,qgD]
    rw [e]
    exact qxs h1 hl E hs λh=>qjq hs 2 j (j + 1) h1 h
   | false=>
    have I:s[j] ≠ 39:=by simpa using E
    cases hd:qaq s[j] with
    | true=>
     have e:lex s j = qei s j s[j]:=by simp only [lex,hx,hl,jl,if_false,I,hd,if_true]
     rw [e]
     obtain ⟨a1,a2⟩:=U (qcp s j) (qmo h1 hd) (Nat.le_trans (qk5 s j) hs) (qox s j)
     refine qxr h1 hl E hd λh=>?_
     by_cases q1:s[j] = 48/\1 < qaa qaq s j - j
     ·rw [qmZ s hs j h1 (by simp [qsH,q1.1,q1.2]),qei,if_pos q1]
      rfl
     ·have q2:qsH s j h1 = false:=by
       rw [j3]
       intro q
       simp only [qsH,jk,beq_iff_eq,decide_eq_true_eq] at q
       exact q1 q
      by_cases q3:qfO (qcp s j) <= qcP
      ·rw [qtj s hs j h1 q2 (a1 q3),qei,if_neg q1,if_pos q3]
      ·rw [qlC s hs j h1 q2 (a2 zo),qei,if_neg q1,if_neg q3]
       rfl
    | false=>
     have e:lex s j = qe5 s j (qdK (s.drop j)):=by simp only [lex,hx,hl,jl,if_false,I,hd]
     rw [e,quz h1 hl E hd hs]
     cases qdK (s.drop j) <;> rfl
 ·obtain rfl:j = s.length:=zo
  have e:lex s s.length = (⟨4,[],0,s.length⟩,s.length,0):=by simp only [lex,jq (jm _)]
  rw [e]
  exact qxq s
theorem qv7:∀m ∈ marks,0 < m.length:=by
 have:marks.all (λm=>decide (0 < m.length)) = true:=zk
 intro m hm
 simpa using List.all_eq_true.1 this m hm
theorem qps {r m:Str} (h:qdK r = some m):m ∈ marks/\m.length <= r.length:=by
 rw [qdK] at h
 refine ⟨List.mem_of_find?_eq_some h,?_⟩
 have:=List.find?_some h
 rw [qgv,beq_iff_eq] at this
 have:=congrArg List.length this
 rw [List.length_take] at this
 omega
structure qx4 (s:Str) (t:Tok):Prop where
 kind:t.kind = 0\/t.kind = 1\/t.kind = 2\/t.kind = 3\/t.kind = 4
 name:t.kind = 0\/t.kind = 2->∃c r,t.s = c :: r/\qba c = true/\r.all qaF = true/\r.length <= 15
 mark:t.kind = 3->t.s ∈ marks
 int:t.kind = 1->0 <= t.n/\t.n <= 9223372036854775807
 pos:0 <= t.pos/\t.pos <= s.length
theorem qjr {s:Str} {kind:Int} {at_ i:Nat} (hk:kind = 0\/kind = 2) (U:at_ <= i) (hi:i <= s.length) (h0:(qaK s kind at_ i).2.2 = 0) :
  i < (qaK s kind at_ i).2.1/\(qaK s kind at_ i).2.1 <= s.length/\(qaK s kind at_ i).1.kind = kind/\qx4 s (qaK s kind at_ i).1:=by
 rcases Nat.lt_or_ge i s.length with h1 | h1
 ·cases hl:qba s[i] with
  | true=>
   simp only [qaK,jh h1,hl,if_true] at h0 ⊢
   split at h0
   ·rename_i I
    rw [if_pos I]
    have E:qaF s[i] = true:=by rw [qaF,hl];rfl
    refine ⟨qhT h1 E,qcr _ _ hi,rfl,⟨by rcases hk with rfl | rfl <;> simp,λ_=>?_,λh=>?_,λh=>?_,by simp;omega⟩⟩
    ·simp only
     rw [qdO,jU h1,List.takeWhile_cons_of_pos E]
     refine ⟨_,_,rfl,hl,List.all_takeWhile,?_⟩
     rw [qaa,jU h1,List.takeWhile_cons_of_pos E,jy] at I
     omega
    ·simp only at h;omega
    ·simp only at h;omega
   ·cases h0
  | false=>
   simp only [qaK,jh h1,hl,jl,if_false] at h0
   cases h0
 ·simp only [qaK,jq h1] at h0
  cases h0
theorem qnR {s:Str} {i:Nat} (h1:i < s.length) (h0:(lex s i).2.2 = 0):i < (lex s i).2.1/\(lex s i).2.1 <= s.length/\(lex s i).1.kind ≠ 4/\qx4 s (lex s i).1:=by
 have hx:=jh h1
 cases hl:qba s[i] with
 | true=>
  have e:lex s i = qaK s 0 i i:=by simp only [lex,hx,hl,if_true]
  rw [e] at h0 ⊢
  obtain ⟨a,b,c,d⟩:=qjr (.inl rfl) (jm _) (Nat.le_of_lt h1) h0
  exact ⟨a,b,by rw [c];decide,d⟩
 | false=>
  by_cases E:s[i] = 39
  ·have e:lex s i = qaK s 2 i (i + 1):=by simp only [lex,hx,jl,if_false,E,if_true,qgD]
   rw [e] at h0 ⊢
   obtain ⟨a,b,c,d⟩:=qjr (i:=i + 1) (.inr rfl) (Nat.le_succ _) h1 h0
   exact ⟨zo,b,by rw [c];decide,d⟩
  ·cases hd:qaq s[i] with
   | true=>
    have e:lex s i = qei s i s[i]:=by simp only [lex,hx,hl,jl,if_false,E,hd,if_true]
    rw [e,qei] at h0 ⊢
    split at h0
    ·cases h0
    ·rename_i q1
     rw [if_neg q1]
     split at h0
     ·rename_i q2
      rw [if_pos q2]
      refine ⟨qhT h1 hd,qcr _ _ (Nat.le_of_lt h1),by simp,⟨by simp,λh=>by simp at h,λh=>by simp at h,λ_=>?_,by simp;omega⟩⟩
      simp only [qcP] at q2 ⊢
      omega
     ·cases h0
   | false=>
    have e:lex s i = qe5 s i (qdK (s.drop i)):=by simp only [lex,hx,hl,jl,if_false,E,hd]
    rw [e] at h0 ⊢
    cases hm:qdK (s.drop i) with
    | none=>rw [hm] at h0;cases h0
    | some m=>
     obtain ⟨I,U⟩:=qps hm
     have:=qv7 m I
     rw [List.length_drop] at U
     simp only [qe5]
     exact ⟨zo,zo,by simp,⟨by simp,λh=>by simp at h,λ_=>I,λh=>by simp at h,by simp;omega⟩⟩
def nl (c:UInt8):Bool:=!((c.toNat:Int) == 10)
inductive RW (s:Str):Nat->List Tok->Option (Int×Int)->Prop
 | fin:RW s s.length [⟨4,[],0,s.length⟩] none
 | blank {i ts o} (hi:i < s.length):AE.blank s[i] = true->RW s (i + 1) ts o->RW s i ts o
 | sharp {i ts o} (hi:i < s.length):AE.blank s[i] = false->AE.sharp s[i] = true->RW s (qaa nl s i) ts o->RW s i ts o
 | word {i ts o} (hi:i < s.length):AE.blank s[i] = false->AE.sharp s[i] = false->(lex s i).2.2 = 0->RW s (lex s i).2.1 ts o->RW s i ((lex s i).1 :: ts) o
 | err {i} (hi:i < s.length):AE.blank s[i] = false->AE.sharp s[i] = false->(lex s i).2.2 ≠ 0->RW s i [] (some ((i:Int),(lex s i).2.2))
theorem RW.ex (s:Str):∀(n i:Nat),s.length - i <= n->i <= s.length->∃ts o,RW s i ts o:=by
 intro n
 induction n with
 | zero=>
  intro i h1 h2
  obtain rfl:i = s.length:=zo
  exact ⟨_,_,.fin⟩
 | succ n ih=>
  intro i h1 h2
  rcases Nat.lt_or_ge i s.length with hi | hi
  ·cases hb:AE.blank s[i] with
   | true=>
    obtain ⟨ts,o,h⟩:=ih (i + 1) zo zo
    exact ⟨ts,o,.blank hi hb h⟩
   | false=>
    cases hs:AE.sharp s[i] with
    | true=>
     have hn:nl s[i] = true:=by
      simp only [AE.sharp,beq_iff_eq] at hs
      simp [nl,hs]
     obtain ⟨ts,o,h⟩:=ih (qaa nl s i) (by have:=qhT hi hn;omega) (qcr _ _ h2)
     exact ⟨ts,o,.sharp hi hb hs h⟩
    | false=>
     by_cases h0:(lex s i).2.2 = 0
     ·obtain ⟨g1,g2,_⟩:=qnR hi h0
      obtain ⟨ts,o,h⟩:=ih (lex s i).2.1 zo g2
      exact ⟨_,o,.word hi hb hs h0 h⟩
     ·exact ⟨_,_,.err hi hb hs h0⟩
  ·obtain rfl:i = s.length:=zo
   exact ⟨_,_,.fin⟩
theorem RW.le {s:Str} {i:Nat} {ts:List Tok} {o:Option (Int×Int)} (h:RW s i ts o):i <= s.length/\ts.length + i <= s.length + 1/\(∀t ∈ ts,qx4 s t):=by
 induction h with
 | fin=>exact ⟨jm _,by simp;omega,λt ht=>by
   rw [List.mem_singleton] at ht
   subst ht
   exact ⟨by simp,λh=>by simp at h,λh=>by simp at h,λh=>by simp at h,by simp⟩⟩
 | blank hi _ _ ih=>exact ⟨zo,zo,ih.2.2⟩
 | @sharp i ts o hi hb hs _ ih=>have:=qcL nl s i;exact ⟨zo,zo,ih.2.2⟩
 | word hi _ _ h0 _ ih=>
  obtain ⟨g1,g2,_,g4⟩:=qnR hi h0
  refine ⟨zo,by rw [jy];omega,λt ht=>?_⟩
  rcases List.mem_cons.1 ht with rfl | ht
  ·exact g4
  ·exact ih.2.2 t ht
 | err hi _ _ _=>exact ⟨zo,by simp;omega,λt ht=>by cases ht⟩
theorem RW.last {s:Str} {i:Nat} {ts:List Tok} {o:Option (Int×Int)} (h:RW s i ts o) (ho:o = none):∃ws,ts = ws ++ [⟨4,[],0,s.length⟩]/\∀t ∈ ws,t.kind ≠ 4:=by
 induction h with
 | fin=>exact ⟨[],rfl,λ_ h=>by cases h⟩
 | blank hi _ _ ih=>exact ih ho
 | sharp hi _ _ _ ih=>exact ih ho
 | word hi _ _ h0 _ ih=>
  obtain ⟨ws,rfl,hw⟩:=ih ho
  refine ⟨_ :: ws,rfl,λt ht=>?_⟩
  rcases List.mem_cons.1 ht with rfl | ht
  ·exact (qnR hi h0).2.2.1
  ·exact hw t ht
 | err hi _ _ _=>cases ho
theorem RW.wf {s:Str} (hs:s.length <= 16384) {ts:List Tok} (h:RW s 0 ts none):WF ts/\0 < ts.length:=by
 have hl:=h.le
 obtain ⟨ws,rfl,hw⟩:=h.last rfl
 refine ⟨⟨zo,λn w hn hk=>?_⟩,by simp⟩
 rcases Nat.lt_or_ge n ws.length with h1 | h1
 ·simp;omega
 ·rw [List.getElem?_append_right h1] at hn
  obtain ⟨h2,h3⟩:=jd.1 hn
  simp at h2
  have:n - ws.length = 0:=zo
  simp only [this,List.getElem_cons_zero] at h3
  subst h3
  exact absurd rfl hk
theorem qhG.skip {s:Str} {i i':Nat} {ts:List Tok} {o:Option (Int×Int)} (h:qhG s i' ts o) (hf:∀j,qiV s i' j->qiV s i j):qhG s i ts o:=by
 cases h with
 | last h1 h2 h3=>exact .last (hf _ h1) h2 h3
 | err h1 h2 h3=>exact .err (hf _ h1) h2 h3
 | next h1 h2 h3 h4=>exact .next (hf _ h1) h2 h3 h4
theorem qlv {s:Str} {i k:Nat} (h:qdf (s.drop i) = some k):qaa nl s i = i + k/\∃hk:i + k < s.length,AE.blank s[i + k] = true:=by
 rw [qdf,List.findIdx?_eq_some_iff_getElem] at h
 obtain ⟨h1,h2,h3⟩:=h
 rw [List.length_drop] at h1
 have e:((s.drop i).takeWhile nl).length = k:=by
  rw [List.takeWhile_eq_take_findIdx_not,List.length_take,List.length_drop]
  have:List.findIdx (λa=>!nl a) (s.drop i) = k:=by
   rw [List.findIdx_eq (by rw [List.length_drop];omega)]
   refine ⟨?_,λj hj=>?_⟩
   ·simp only [beq_iff_eq] at h2
    simp [nl,h2]
   ·have:=h3 j hj
    simp only [nl,Bool.not_not]
    rw [j3]
    intro q
    rw [beq_iff_eq] at q
    refine this ?_
    rw [beq_iff_eq]
    apply UInt8.toNat_inj.1
    show _ = 10
    omega
  rw [this]
  omega
 refine ⟨by rw [qaa,e],zo,?_⟩
 rw [List.getElem_drop] at h2
 simp only [beq_iff_eq] at h2
 simp [AE.blank,h2]
theorem qlu {s:Str} {i:Nat} (hi:i <= s.length) (h:qdf (s.drop i) = none):qaa nl s i = s.length:=by
 rw [qdf,List.findIdx?_eq_none_iff] at h
 rw [qaa,qg5 nl _ ?_,List.length_drop]
 ·omega
 ·intro a ha
  have:=h a ha
  rw [beq_eq_false_iff_ne] at this
  simp only [nl,Bool.not_eq_true',beq_eq_false_iff_ne,ne_eq]
  intro q
  refine this ?_
  apply UInt8.toNat_inj.1
  show _ = 10
  omega
theorem RW.words (I:qkQ) {s:Str} (hs:s.length <= 100000) {i:Nat} {ts:List Tok} {o:Option (Int×Int)} (h:RW s i ts o):qhG s i ts o:=by
 induction h with
 | fin=>
  have e:lex s s.length = (⟨4,[],0,s.length⟩,s.length,0):=by simp only [lex,jq (jm _)]
  have:=qkH I hs (jm s.length)
  rw [e] at this
  exact .last .done this rfl
 | blank hi hb _ ih=>exact ih.skip λj hj=>.blank hi hb hj
 | @sharp i ts o hi hb hh _ ih=>
  cases hl:qdf (s.drop i) with
  | none=>
   rw [qlu (Nat.le_of_lt hi) hl] at ih
   refine ih.skip λj hj=>?_
   have U:j = s.length:=by have:=hj.le;omega
   subst U
   exact .last hi hb hh hl
  | some k=>
   obtain ⟨e,hk,E⟩:=qlv hl
   rw [e] at ih
   refine ih.skip λj hj=>?_
   refine .line hi hb hh hl ?_
   generalize hq:i + k = q at hj hk E
   cases hj with
   | done=>omega
   | blank _ _ h=>exact h
   | line _ h0 _ _ _=>rw [h0] at E;cases E
   | last _ h0 _ _=>rw [h0] at E;cases E
   | word _ h0 _=>rw [h0] at E;cases E
 | @word i ts o hi hb hh h0 _ ih=>
  have hw:=qkH I hs (Nat.le_of_lt hi)
  rw [h0] at hw
  exact .next (.word hi hb hh) hw (by simpa using (qnR hi h0).2.2.1) ih
 | @err i hi hb hh h0=>
  have hw:=qkH I hs (Nat.le_of_lt hi)
  have hp:(lex s i).1.pos = i:=by
   simp only [lex,qaK,qei,qe5,qfb]
   repeat' split
   all_goals rfl
  rw [<-hp]
  exact .err (.word hi hb hh) hw (by simpa using h0)
def qf2:List (Nat×Str):=[(5,[97,116,111,109,105,99]),(6,[99,111,117,112,108,101,100]),(7,[114,111,111,116]),(8,[105,110]),(9,[111,117,116]),(10,[118,97,114]),(11,[116,97]),(12,[101,109,105,116]),(13,[105,110,116]),(14,[98,111,111,108]),(15,[115,121,109]),(16,[101,120,116]),(17,[99,111,110]),(18,[112,97,114,116]),(19,[108,105,110,107]),(20,[114,117,108,101]),(21,[97,100,100]),(22,[100,114,111,112]),(23,[116,105,101]),(24,[99,117,116]),(25,[105,102]),(26,[116,104,101,110]),(27,[101,108,115,101]),(28,[97,110,100]),(29,[111,114]),(30,[110,111,116]),(31,[116,114,117,101]),(32,[102,97,108,115,101]),(33,[99,111,117,110,116]),(34,[104,97,115]),(35,[115,117,109]),(36,[108,101,97,115,116]),(37,[101,108,97,112,115,101,100])]
def qmi:List (Nat×Str)->qK
 | []=>.skip
 | [x]=>.reg [ao x.1 (.bin .eql (.t 3) (.c (.str x.2))),ao 4 (.asg (.t x.1))]
 | x :: y :: r=>.seq (.reg [ao x.1 (.bin .eql (.t 3) (.c (.str x.2))),ao 4 (.asg (.t x.1))]) (.cond (.t 4) .skip (qmi (y :: r)))
def qtT:qK:=.seq (.reg [ao 2 (.asg (.c (.bool false)))]) (.seq (.seq (.reg [ao 3 (.mov (.t 0))]) (.block 0 (.seq (qmi qf2) (.cond (.t 4) (.seq (.reg [ao 2 (.asg (.c (.bool true)))]) .ret) .skip)))) (.seq (.reg [ao 2 (.asg (.c (.bool false)))]) .ret))
theorem qwP:(⟨38,[.tmp 2],qtT⟩ :qA) = c33:=zk
theorem qnB {b:Nat} {h:List qk} {s:Str}:∀(l:List (Nat×Str)),l ≠ []->(∀x ∈ l,5 <= x.1/\x.1 < 38)->∀tt:List qd,tt.length = 38->lkp tt 3 = .str s->
  ∃E,qg b Wd (qmi l) ⟨tt,h,false⟩ = some (.nor,⟨E,h,false⟩)/\E.length = 38/\lkp E 4 = .bool (l.any λx=>s == x.2)
 | [],h0,_,_,_,_=>absurd rfl h0
 | [(k,w)],_,hk,tt,ht,e3=>by
  obtain ⟨k5,I⟩:=hk (k,w) (by simp)
  have a1:¬ (k = 3):=by simp only at k5;omega
  have a2:¬ (k = 4):=by simp only at k5;omega
  have a3:k < 38:=I
  simp only [sB.1,qmi,seval,ht,e3,a3]
  refine ⟨_,rfl,Y0,?_⟩
  simp only [sB.1,seval,ht,List.any_cons,List.any_nil]
 | (k,w) :: y :: r,_,hk,tt,ht,e3=>by
  obtain ⟨k5,I⟩:=hk (k,w) (by simp)
  have a1:¬ (k = 3):=by simp only at k5;omega
  have a2:¬ (k = 4):=by simp only at k5;omega
  have a3:k < 38:=I
  generalize he:qg b Wd _ _ = R
  cases hb:(s == w) with
  | true=>
   simp only [sB.1,qmi,seval,ht,e3,a3,hb] at he
   subst he
   refine ⟨_,rfl,Y0,?_⟩
   simp only [sB.1,seval,ht,List.any_cons,hb]
  | false=>
   obtain ⟨E,g1,g2,g3⟩:=qnB (b:=b) (h:=h) (s:=s) (y :: r) (by simp) (λx hx=>hk x (List.mem_cons_of_mem _ hx)) (up (up tt k (.bool false)) 4 (.bool false)) Y0 (by simp only [sB.1,seval,e3,a1])
   simp only [sB.1,qmi,seval,ht,e3,a3,hb,g1] at he
   subst he
   refine ⟨E,rfl,g2,?_⟩
   rw [g3,List.any_cons (a:=(k,w)),hb,jN]
theorem qzN:(qf2.all λx=>words.contains x.2) = true:=zk
theorem qzj:(words.all λw=>qf2.any λx=>w == x.2) = true:=zk
theorem qwQ (s:Str):(qf2.any λx=>s == x.2) = qbO s:=by
 rw [Bool.eq_iff_iff,qbO,List.any_eq_true,List.any_eq_true]
 constructor
 ·rintro ⟨x,hx,h⟩
  have:=List.all_eq_true.1 qzN x hx
  refine ⟨x.2,by simpa using this,?_⟩
  rw [beq_iff_eq] at h
  rw [h,beq_self_eq_true]
 ·rintro ⟨w,hw,h⟩
  have:=List.all_eq_true.1 qzj w hw
  rw [List.any_eq_true] at this
  obtain ⟨x,hx,h2⟩:=this
  rw [beq_iff_eq] at h
  subst h
  exact ⟨x,hx,h2⟩
theorem qzM:∀x ∈ qf2,5 <= x.1/\x.1 < 38:=by
 have:(qf2.all λx=>decide (5 <= x.1) && decide (x.1 < 38)) = true:=zk
 intro x hx
 simpa using List.all_eq_true.1 this x hx
theorem qjB (s:Str) (h:List qk):Wd (.fn 33 [] []) [.str s] h = some (.ret (.bool (qbO s)),h,false):=by
 rw [qu 33 c33,<-qwP]
 generalize hR:qbS _ h _ = R
 simp only [sB.1,qtT,seval] at hR
 generalize hr:qg h.length Wd (qmi qf2) _ = r at hR
 obtain ⟨tt,rfl,ht,e4⟩ :∃tt,r = some (.nor,⟨tt,h,false⟩)/\tt.length = 38/\lkp tt 4 = .bool (qf2.any λx=>s == x.2):=by
  rw [<-hr]
  refine qnB qf2 (by simp [qf2]) qzM _ ?_ ?_
  all_goals simp only [sB.1,seval]
 rw [qwQ] at e4
 rw [<-hR]
 cases hb:qbO s with
 | true=>
  rw [hb] at e4
  simp only [sB.1,seval,ht,e4]
 | false=>
  rw [hb] at e4
  simp only [sB.1,seval,ht,e4]
theorem qwJ (s:Str) (h:List qk):Wd (.fn 89 [] []) [.str s] h = some (.ret (.bool (qge s)),h,false):=by
 have loop:∀k st,(∃tt i,st = ⟨tt,h,false⟩/\tt.length = 50/\lkp tt 0 = .str s/\lkp tt 3 = .int .i64 (i:Nat)/\i + k = s.length/\qaY i (s.drop i) = qaY 0 s/\s.length <= 16)->
   ∃x U,qg h.length Wd (.loop qlq) st = some (x,U)/\((x = .exit 0/\qaY 0 s = true/\∃tt,U = ⟨tt,h,false⟩/\tt.length = 50)\/(x = .ret/\qaY 0 s = false/\∃tt,U = ⟨tt,h,false⟩/\tt.length = 50/\lkp tt 2 = .bool false)):=by
  refine qgG _ _ ?_
  rintro k st ⟨tt,i,rfl,ht,e0,e3,a1,hR,hl⟩
  generalize he:qg h.length Wd qlq _ = r
  rcases Nat.lt_or_ge i s.length with hi | hi
  ·have c1:ilt (i:Int) (s.length:Int) = true:=by rw [qD];simp;omega
   have hx:=qbU hi
   have w:=qo (n:=i) zo
   rw [jU hi,qaY] at hR
   have hz:((i:Int) == 0) = (i == 0):=by rw [Bool.eq_iff_iff];simp
   cases I:qba s[i] with
   | true=>
    have q:(ile 97 (s[i].toNat:Int) && ile (s[i].toNat:Int) 122) = true:=I
    simp only [jk] at q
    cases hd:ile 48 (s[i].toNat:Int) <;> cases E:ile (s[i].toNat:Int) 57
    all_goals
     simp only [sB.1,qlq,seval,ht,e0,e3,c1,hx,w,q.1,q.2,hd,E] at he
     subst he
     refine .inl ⟨_,k - 1,rfl,zo,_,i + 1,rfl,Y0,?_,?_,zo,by rw [I] at hR;simpa using hR,hl⟩
     ·simp only [sB.1,seval,e0]
     ·simp only [sB.1,seval,ht]
   | false=>
    have q:(ile 97 (s[i].toNat:Int) && ile (s[i].toNat:Int) 122) = false:=I
    have hq:∀a b,ile 97 (s[i].toNat:Int) = a->ile (s[i].toNat:Int) 122 = b->(a && b) = false:=λa b ha hb=>by rw [<-ha,<-hb];exact q
    cases Y:(i == 0) with
    | true=>
     rw [I,Y] at hR
     cases ha:ile 97 (s[i].toNat:Int) <;> cases hb:ile (s[i].toNat:Int) 122 <;> cases hd:ile 48 (s[i].toNat:Int) <;> cases E:ile (s[i].toNat:Int) 57
     all_goals first | (have:=hq _ _ ha hb;cases this;done) | skip
     all_goals
      simp only [sB.1,qlq,seval,ht,e0,e3,c1,hx,hz,ha,hb,hd,E,Y] at he
      subst he
      refine .inr ⟨_,_,rfl,by simp,.inr ⟨rfl,by simpa using hR.symm,_,rfl,Y0,?_⟩⟩
      simp only [sB.1,seval,ht]
    | false=>
     rw [I,Y] at hR
     simp only [Bool.not_false,j0,jN,qaq] at hR
     cases ha:ile 97 (s[i].toNat:Int) <;> cases hb:ile (s[i].toNat:Int) 122 <;> cases hd:ile 48 (s[i].toNat:Int) <;> cases E:ile (s[i].toNat:Int) 57
     all_goals first | (have:=hq _ _ ha hb;cases this;done) | skip
     all_goals rw [hd,E] at hR
     all_goals simp only [sB.1,qlq,seval,ht,e0,e3,c1,hx,w,hz,ha,hb,hd,E,Y] at he
     all_goals subst he
     all_goals first
      | (refine .inr ⟨_,_,rfl,by simp,.inr ⟨rfl,by simpa using hR.symm,_,rfl,Y0,?_⟩⟩
         simp only [sB.1,seval,ht]
         done)
      | (refine .inl ⟨_,k - 1,rfl,zo,_,i + 1,rfl,Y0,?_,?_,zo,by simpa using hR,hl⟩
         ·simp only [sB.1,seval,e0]
         ·simp only [sB.1,seval,ht])
  ·have c1:ilt (i:Int) (s.length:Int) = false:=by rw [qD];simp;omega
   simp only [sB.1,qlq,seval,ht,e0,e3,c1] at he
   subst he
   rw [List.drop_eq_nil_of_le hi,qaY] at hR
   exact .inr ⟨_,_,rfl,by simp,.inl ⟨rfl,hR.symm,_,rfl,Y0⟩⟩
 rw [qu 89 c89]
 by_cases g1:1 <= s.length
 ·have d1:ilt (s.length:Int) 1 = false:=by rw [qD];simp;omega
  by_cases g2:s.length <= 16
  ·have d2:ilt 16 (s.length:Int) = false:=by rw [qD];simp;omega
   simp only [sB.1,c89,seval,d1,d2]
   generalize hr:qg h.length Wd (.loop qlq) _ = r
   obtain ⟨x,U,rfl,hq⟩:=qvQ hr (loop s.length _ ⟨_,0,rfl,Y1,Y1,z10,zo,rfl,g2⟩)
   rcases hq with ⟨rfl,hv,tt,rfl,ht⟩ | ⟨rfl,hv,tt,rfl,ht,e2⟩
   ·simp only [sB.1,seval,ht]
    simp [qge,g1,g2,hv]
   ·simp only [sB.1,seval,e2]
    simp [qge,g1,g2,hv]
  ·have d2:ilt 16 (s.length:Int) = true:=by rw [qD];simp;omega
   simp only [sB.1,c89,seval,d1,d2]
   simp [qge,g2]
 ·have d1:ilt (s.length:Int) 1 = true:=by rw [qD];simp;omega
  simp only [sB.1,c89,seval,d1]
  simp [qge,g1]
theorem qwK (s:Str) (h:List qk):Wd (.fn 62 [] []) [.str s] h = some (.ret (.bool (qfZ s)),h,false):=by
 rw [qu 62 c62]
 cases hv:qge s <;> cases hr:qbO s <;> (simp only [sB.1,c62,seval,qwJ,qjB,hv,hr];simp [qfZ,hv,hr])
def KOK (ws:List Tok):Prop:=∀t ∈ ws,(t.kind = 0->∃c r,t.s = c :: r/\qba c = true)/\(t.kind = 3->t.s ∈ marks)
theorem RW.kok {s:Str} {i:Nat} {ts:List Tok} {o:Option (Int×Int)} (h:RW s i ts o):KOK ts:=λt ht=>by
 have:=h.le.2.2 t ht
 refine ⟨λh0=>?_,this.mark⟩
 obtain ⟨c,r,h1,h2,_⟩:=this.name (.inl h0)
 exact ⟨c,r,h1,h2⟩
def qC (s:Str):Bool:=qbO s || marks.contains s
def qgP:Str->Bool
 | c :: _=>!qba c
 | []=>false
theorem qju:∀m ∈ marks,qgP m = true:=by
 have:marks.all qgP = true:=zk
 exact List.all_eq_true.1 this
def isR (ws:List Tok) (n:Nat) (s:Str):Bool:=(word ws n).s == s && ((word ws n).kind == 3 || ((word ws n).kind == 0 && qbO s))
theorem qhX {ws:List Tok} {n:Nat} (hn:n < ws.length):word ws n ∈ ws:=List.mem_of_getElem? (qhW hn)
theorem qBL {ws:List Tok} (hk:KOK ws) {n:Nat} (hn:n < ws.length) {s:Str} (ha:qC s = true):isR ws n s = isW ws n s:=by
 rw [isR,isW,Bool.and_comm]
 cases hs:((word ws n).s == s) with
 | false=>rw [Bool.and_false,Bool.and_false]
 | true=>
  rw [jv,jv]
  cases hr:qbO s with
  | true=>rw [jv]
  | false=>
   rw [qC,hr,jN,List.contains_iff_mem] at ha
   cases h0:((word ws n).kind == 0) with
   | false=>rfl
   | true=>
    obtain ⟨c,r,h1,h2⟩:=(hk _ (qhX hn)).1 (by simpa using h0)
    rw [beq_iff_eq] at hs
    have:=qju s ha
    rw [<-hs,h1,qgP,h2] at this
    cases this
def WsV (ws:List Tok):qd:=.lst (ws.map Tok.enc) .no
def qby (p e:Int):qd:=.agg [.int .i64 p,.int .i64 e]
theorem qbk (p e:Int):qby p e = .agg [.int .i64 p,.int .i64 e]:=Eq.trans rfl rfl
section
variable {ws:List Tok} {n:Nat} (hn:n < ws.length)
include hn
theorem qCR:qeQ 4 (WsV ws) (.int .i64 (n:Nat)) = some (.iptr [.int .i64 (word ws n).kind,.str (word ws n).s,.int .i64 (word ws n).n,.int .i64 (word ws n).pos] 0):=qbG (x:=(word ws n).enc) (by rw [List.getElem?_map,qhW hn];rfl) rfl
theorem qae:qeQ 4 (.lst (ws.map Tok.enc) .no) (.int .i64 (n:Nat)) = some (.iptr [.int .i64 (word ws n).kind,.str (word ws n).s,.int .i64 (word ws n).n,.int .i64 (word ws n).pos] 0):=qCR hn
theorem qFd (s:Str) (h:List qk):Wd (.fn 12 [] []) [.lst (ws.map Tok.enc) .no,.int .i64 (n:Nat),.str s] h = some (.ret (.bool (isR ws n s)),h,false):=by
 have hx:=qae hn
 rw [qu 12 c12]
 cases h1:((word ws n).s == s) <;> cases h2:((word ws n).kind == 3) <;> cases h3:((word ws n).kind == 0) <;> (simp only [sB.1,c12,seval,hx,h1,h2,h3,qjB];simp only [isR,h1,h2,h3,j0,jL,Bool.true_or,jN])
theorem qaO (hk:KOK ws) {s:Str} (ha:qC s = true) (h:List qk):Wd (.fn 12 [] []) [.lst (ws.map Tok.enc) .no,.int .i64 (n:Nat),.str s] h = some (.ret (.bool (isW ws n s)),h,false):=by
 rw [qFd hn,qBL hk hn ha]
theorem qgb (h:List qk):Wd (.fn 37 [] []) [.lst (ws.map Tok.enc) .no,.int .i64 (n:Nat)] h = some (.ret (.bool (qM ws n)),h,false):=by
 have hx:=qae hn
 rw [qu 37 c37]
 cases h1:((word ws n).kind == 0) <;> (simp only [sB.1,c37,seval,hx,h1,qwK];simp only [qM,h1,j0,jL])
theorem qdh (h:List qk):Wd (.fn 14 [] []) [.lst (ws.map Tok.enc) .no,.int .i64 (n:Nat)] h = some (.ret (qby (word ws n).pos 6),h,false):=by
 have hx:=qae hn
 rw [qu 14 c14]
 simp only [sB.1,c14,seval,hx,qr,qbk]
theorem qbh (hw:WF ws) (hs:qM ws n = true) (h:List qk):Wd (.fn 16 [] []) [.lst (ws.map Tok.enc) .no,.int .i64 (n:Nat)] h = some (.ret (.tup [.str (word ws n).s,.int .i64 (n + 1:Nat),qby 0 0]),h,false):=by
 have hx:=qae hn
 have w:=qo (n:=n) (by have:=hw.len;omega)
 rw [qu 16 c16]
 simp only [sB.1,c16,seval,hx,qgb hn,hs,w,qr,qbk]
theorem qfe (hs:qM ws n = false) (h:List qk):Wd (.fn 16 [] []) [.lst (ws.map Tok.enc) .no,.int .i64 (n:Nat)] h = some (.ret (.tup [.str [],.int .i64 (n:Nat),qby (word ws n).pos 6]),h,false):=by
 rw [qu 16 c16]
 simp only [sB.1,c16,seval,qgb hn,hs,qdh hn,qbk]
end
end Go.Proofs.YtkehdpkcdnofaaaGreatDoor.AE
