/- A part of the proof. No condition. -/
import Derived.Test.YtkehdpkcdnofaaaGreatDoorMr23
set_option maxRecDepth 100000
set_option maxHeartbeats 0
open List renaming length_map→jQ,append_nil→jF,nil_append→jW,all_cons→jB
open Bool renaming and_eq_true→jk
open Nat renaming le_trans→jn
namespace Go.Proofs.YtkehdpkcdnofaaaGreatDoor.AE
open Go.AE
def qab.all (x:qab):qeR:=match x.body with
 | .atom a=>⟨x.name,false,x.ins,x.outs,a.vars,[a.ta],a.emits,a.int,a.ext,a.con,a.own,[],[],[]⟩
 | .coup c=>⟨x.name,true,x.ins,x.outs,[],[],[],[],[],0,[],c.parts,c.links,c.rules⟩
theorem qqK (φ:Int->Nat->Bool) (x:qab):x.enc φ = .agg (x.all.row φ):=by
 obtain ⟨nm,ins,outs,a | c⟩:=x <;> rfl
theorem qgK {D:Type} {Q:D->Prop}:([]:List D).length <= 100000/\∀d ∈ ([]:List D),Q d:=⟨Nat.zero_le _,λ_ h=>by cases h⟩
theorem qAG {x:qab} (h:x.good):x.all.ok:=by
 obtain ⟨nm,ins,outs,a | c⟩:=x
 ·obtain ⟨⟨h1,h2⟩,⟨h3,h4⟩,g1,g2,g3,g4,g5,g6,g7,g8,g9,g10,g11⟩:=h
  simp only at h1 h3
  exact ⟨⟨by simp only [qab.all];omega,h2⟩,⟨by simp only [qab.all];omega,h4⟩,⟨by simp only [qab.all];omega,λd hd=>(g7 d hd).1⟩,⟨by simp [qab.all],λd hd=>by rw [List.mem_singleton.1 hd];exact g6.1⟩,⟨by simp only [qab.all];omega,g8⟩,⟨by simp only [qab.all];omega,λd hd=>(g9 d hd).1⟩,⟨by simp only [qab.all];omega,λd hd=>(g10 d hd).1⟩,⟨by simp only [qab.all];omega,λd hd=>(g11 d hd).1⟩,qgK,qgK,qgK⟩
 ·obtain ⟨⟨h1,h2⟩,⟨h3,h4⟩,g1,g2,g3,g4,g5,g6⟩:=h
  simp only at h1 h3
  exact ⟨⟨by simp only [qab.all];omega,h2⟩,⟨by simp only [qab.all];omega,h4⟩,qgK,qgK,qgK,qgK,qgK,qgK,⟨by simp only [qab.all];omega,g4⟩,⟨by simp only [qab.all];omega,g5⟩,⟨by simp only [qab.all];omega,g6⟩⟩
section
variable {φ ψ:Int->Nat->Bool}
theorem qlS {x:qhF} (hg:x.good) (h:List qk):Wd (.fn 7 [] []) [x.enc φ,x.enc ψ] h = some (.ret (.bool true),h,false):=by
 obtain ⟨ms,rt⟩:=x
 obtain ⟨hl,hm⟩:=hg
 simp only at hl hm
 generalize hR:Wd _ _ h = R
 rw [qu 7 c7] at hR
 have c5:=qf0 (show (ms.map (qab.enc φ)).length = (ms.map (qab.enc ψ)).length by simp only [jQ])
 simp only [sB.1,c7,seval,qhF.enc,lV,qp,c5] at hR
 generalize hq:qg h.length Wd (.loop qzb) _ = r at hR
 have S0:=λ(tt:List qd) (H:List qk) (hq:qg h.length Wd (.loop qzb) ⟨tt,H,false⟩ = r) (s:tt.length = 39/\lkp tt 2 = .ptr h.length 0/\lkp tt 3 = .ptr (h.length + 1) 0/\lkp tt 5 = .int .i64 (0:Nat)/\H = h ++ [.cells [.lst (ms.map (qab.enc φ)) (fl (ms.map (qab.enc φ)).isEmpty),.str rt],.cells [.lst (ms.map (qab.enc ψ)) (fl (ms.map (qab.enc ψ)).isEmpty),.str rt]])=>
  qcx (base:=h.length) (body:=qzb) (S:=λi tt H=>tt.length = 39/\lkp tt 2 = .ptr h.length 0/\lkp tt 3 = .ptr (h.length + 1) 0/\lkp tt 5 = .int .i64 (i:Nat)/\H = h ++ [.cells [.lst (ms.map (qab.enc φ)) (fl (ms.map (qab.enc φ)).isEmpty),.str rt],.cells [.lst (ms.map (qab.enc ψ)) (fl (ms.map (qab.enc ψ)).isEmpty),.str rt]]) (N:=ms.length) (fun {i tt H} hi ⟨ht,e2,e3,e5,hH⟩=>by
   subst hH
   have c1:ilt (i:Int) ((ms.map (qab.enc φ)).length:Int) = true:=qiZ (by rw [jQ];exact hi)
   have w2:=qo (n:=i) zo
   have hd:=List.getElem_mem hi
   obtain ⟨d,E⟩ :∃d,ms[i] = d:=⟨_,rfl⟩
   rw [E] at hd
   have hx:=λf=>qb1 (k:=14) (f:=f) (enc:=qab.enc φ) hi ((congrArg (qab.enc φ) E).trans (qqK φ d)) rfl
   have hy:=λf=>qb1 (k:=14) (f:=f) (enc:=qab.enc ψ) hi ((congrArg (qab.enc ψ) E).trans (qqK ψ d)) rfl
   have hc:=qwV (φ:=φ) (ψ:=ψ) (qAG (hm d hd))
   simp only [qeR.row,lV] at hx hy hc
   generalize he:qg h.length Wd qzb _ = R
   simp only [sB.1,qzb,seval,ht,e2,e3,e5,qp,c1,hx,hy,hc,w2] at he
   subst he
   refine ⟨_,_,rfl,?_,?_,?_,?_,rfl⟩
   all_goals simp only [sB.1,seval,ht,e2,e3]) ms.length 0 (Nat.zero_add _) s
 obtain ⟨t2,H2,⟨ht,e2,e3,e5,hH⟩,I⟩:=S0 _ _ hq ⟨Y1,Y1,Y1,z10,rfl⟩
 subst hH
 have c1:ilt (ms.length:Int) ((ms.map (qab.enc φ)).length:Int) = false:=qiY (by rw [jQ];exact Nat.le_refl _)
 rw [I,qh] at hq
 simp only [sB.1,qzb,seval,ht,e2,e5,qp,c1] at hq
 subst hq
 rw [<-hR]
 simp only [sB.1,seval,ht]
end
section
variable {h:List qk}
theorem qzQ {s:Str} (hs:s.length <= 16384) {ts:List Tok} {p e:Int} (hW:RW s 0 ts (some (p,e))) (he:(e == 0) = false):Wd (.fn 6 [] []) [.str s] h = some (.ret (.tup [.agg zP,qby p e]),h,false):=by
 have E:=λh=>qt1 (h:=h) hs hW
 rw [qu 6 c6]
 simp only [sB.1,c6,seval,exB.1,qr,E,he]
def qFS (s:Str):Prop:=
 (∃x:qhF,x.good/\(∀h,Wd (.fn 5 [] []) [.str s] h = some (.ret (.tup [x.enc φP,.int .i64 0,.int .i64 0]),h,false))/\∀h,Wd (.fn 6 [] []) [.str s] h = some (.ret (.tup [x.enc φR,qby 0 0]),h,false))\/
 (∃p err:Int,0 <= p/\p <= 100000/\1 <= err/\(∀h,Wd (.fn 5 [] []) [.str s] h = some (.ret (.tup [.agg zP,.int .i64 p,.int .i64 err]),h,false))/\∀h,Wd (.fn 6 [] []) [.str s] h = some (.ret (.tup [.agg zP,qby p err]),h,false))
theorem qzc (s:Str) (i:Nat) (h:(lex s i).2.2 ≠ 0):1 <= (lex s i).2.2:=by
 revert h
 simp only [lex,qaK,qei,qe5,qfb]
 repeat' split
 all_goals simp
theorem RW.err_pos {s:Str} {i:Nat} {ts:List Tok} {o:Option (Int×Int)} (h:RW s i ts o):∀p e,o = some (p,e)->0 <= p/\p <= s.length/\1 <= e:=by
 induction h with
 | fin=>intro p e h;cases h
 | blank _ _ _ ih=>exact ih
 | sharp _ _ _ _ ih=>exact ih
 | word _ _ _ _ _ ih=>exact ih
 | @err i hi _ _ h0=>intro p e h;cases h;exact ⟨zo,zo,qzc s i h0⟩
theorem qu1 (E:qcT) (a6:qkQ) {s:Str} (hs:s.length <= 16384):qFS s:=by
 obtain ⟨ts,o,hW⟩:=RW.ex s s.length 0 zo zo
 have I:=hW.words a6 zo
 have Y:=hW.le
 have l0:∀n,qj n [] = true:=λ_=>rfl
 cases o with
 | some pe=>
  obtain ⟨p,e⟩:=pe
  obtain ⟨g1,g2,g3⟩:=hW.err_pos p e rfl
  have he:(e == 0) = false:=by simp;omega
  refine .inr ⟨p,e,g1,zo,g3,λh=>?_,λh=>qzQ hs hW he⟩
  exact qm4 l0 λh=>qtF zo (λh=>⟨_,qzU E hs I zo⟩) _
 | none=>
  obtain ⟨hw,h0⟩:=hW.wf hs
  have hk:=hW.kok
  have hS:qqC s ts:=λh=>qzV E hs I zo
  have U:∀k,k < ts.length->0 <= (word ts k).pos/\(word ts k).pos <= s.length:=λk hk=>(Y.2.2 _ (qhX hk)).pos
  rcases qtE hs hW hw hk h0 with ⟨x,m,hg,hp,hr⟩ | ⟨p,e,m,⟨⟨k,a1,rfl⟩,h1⟩,he,hp,hr⟩
  ·exact .inl ⟨x,hg,λh=>qm4 (λk=>qbZ φP k x.models) λh=>qzE hS (λk=>qbZ φP k x.models) hp,hr⟩
  ·obtain ⟨g1,g2⟩:=U k a1
   exact .inr ⟨_,e,g1,zo,h1,λh=>qm4 l0 λh=>qzD hS hp,hr⟩
theorem qBX (U:qcT) (Y:qkQ) (E:Wd (.fn 4 [] []) [] [] = some (.ret (.bool true),[],false)) (s:Str):Wd (.fn 3 [] []) [.str s] [] = some (.ret (.bool true),[],false):=by
 rw [qu 3 c3]
 rcases Nat.lt_or_ge 8000 s.length with hl | hl
 ·have c1:ilt 8000 (s.length:Int) = true:=by rw [qD];simp;omega
  simp only [sB.1,c3,seval,E,c1]
 ·have c1:ilt 8000 (s.length:Int) = false:=by rw [qD];simp;omega
  rcases qu1 U Y (s:=s) zo with ⟨x,hg,h1,h2⟩ | ⟨p,err,p1,p2,p3,h1,h2⟩
  ·have hq:=qlS (φ:=φP) (ψ:=φR) hg
   have w0:IntKind.i64.wrap (0 * if (1:Int) < 0 then 1 else 0) = 0:=zk
   have I:IntKind.i64.wrap 0 = 0:=zk
   have m1:=λk=>qbZ φP k x.models
   have m2:=λk=>qbZ φR k x.models
   simp only [qhF.enc,lV] at hq h1 h2
   simp only [sB.1,c3,seval,exB.1,E,c1,h1,h2,I,hq,qp,m1,m2]
   exact congrArg some (qw (h:=[]) rfl rfl)
  ·have hq:=qlS (φ:=φP) (ψ:=φR) (x:=⟨[],[]⟩) ⟨Nat.zero_le _,λ_ h=>by cases h⟩
   have m0:(if (1:Int) < err then 1 else err) = 1:=by split <;> omega
   have w1:IntKind.i64.wrap (p * if (1:Int) < err then 1 else err) = p:=by rw [m0,qcb zo zo];omega
   simp only [qhF.enc,lV,List.map_nil,List.isEmpty_nil,qkP] at hq
   simp only [sB.1,c3,seval,exB.1,E,c1,h1,h2,w1,hq,zP]
   exact congrArg some (qw (h:=[]) rfl rfl)
end
theorem qjl:∀s:Str,Lib.indexByte s 10 = qey s
 | []=>rfl
 | c :: s=>by
  have ih:=qjl s
  rw [Lib.indexByte]
  simp only [qey,qdf,List.findIdx?_cons] at ih ⊢
  cases hb:(c == 10) with
  | true=>simp
  | false=>
   simp only [Bool.false_eq_true,if_false]
   rw [ih]
   cases hf:List.findIdx? (λx=>x == 10) s with
   | none=>simp
   | some k=>simp
theorem qy8:qcT:=by
 intro s h
 rw [show Wd = W T.get X from rfl,quN qiQ (show X 96 = some qjk from rfl)]
 show some (qfJ.ret (qd.int .i64 (Lib.indexByte s ((10:Int).toNat.toUInt8))),h,false) = _
 rw [show ((10:Int).toNat.toUInt8) = 10 from rfl,qjl]
theorem qhB:∀(l:Str) (acc:Nat),l.all qaq = true->acc < 18446744073709551616->
  (Lib.parseUint10 acc l = .ok (l.foldl (λa c=>a * 10 + (c.toNat - 48)) acc)/\l.foldl (λa c=>a * 10 + (c.toNat - 48)) acc < 18446744073709551616)\/
  (Lib.parseUint10 acc l = .range/\18446744073709551616 <= l.foldl (λa c=>a * 10 + (c.toNat - 48)) acc)
 | [],acc,_,h=>.inl ⟨rfl,h⟩
 | c :: l,acc,hd,h=>by
  rw [jB,jk] at hd
  obtain ⟨d1,d2⟩:=qmn hd.1
  have mono:∀(l:Str) (a b:Nat),a <= b->l.foldl (λa c=>a * 10 + (c.toNat - 48)) a <= l.foldl (λa c=>a * 10 + (c.toNat - 48)) b:=by
   intro l
   induction l with
   | nil=>intro a b h;exact h
   | cons c l ih=>intro a b h;exact ih _ _ (by show a * 10 + _ <= b * 10 + _;omega)
  have grow:∀(l:Str) (a:Nat),a <= l.foldl (λa c=>a * 10 + (c.toNat - 48)) a:=by
   intro l
   induction l with
   | nil=>intro a;exact Nat.le_refl _
   | cons c l ih=>intro a;exact jn (by show a <= a * 10 + _;omega) (ih _)
  rw [Lib.parseUint10,if_pos ⟨d1,d2⟩,List.foldl_cons]
  by_cases h1:1844674407370955162 <= acc
  ·rw [if_pos h1]
   exact .inr ⟨rfl,jn zo (grow l _)⟩
  ·rw [if_neg h1]
   by_cases h2:18446744073709551616 <= acc * 10 + (c.toNat - 48)
   ·rw [if_pos h2]
    exact .inr ⟨rfl,jn h2 (grow l _)⟩
   ·rw [if_neg h2]
    exact qhB l _ hd.2 zo
theorem qmc {d:Str} (E:d ≠ []) (hd:d.all qaq = true):Lib.atoiAll d = if qfO d <= qcP then .ok (qfO d:Nat) else .range:=by
 cases d with
 | nil=>exact absurd rfl E
 | cons c r=>
  have hc:=hd
  rw [jB,jk] at hc
  obtain ⟨d1,d2⟩:=qmn hc.1
  have U:¬ (c.toNat = 43):=zo
  have I:¬ (c.toNat = 45):=zo
  rw [Lib.atoiAll]
  simp only [U,Lib.parseMag,reduceCtorEq,if_false,I,or_self,not_false_eq_true,true_and,false_and]
  rcases qhB (c :: r) 0 hd zo with ⟨p1,p2⟩ | ⟨p1,p2⟩
  ·rw [p1]
   by_cases hq:qfO (c :: r) <= qcP
   ·rw [if_pos hq]
    show (if 9223372036854775808 <= qfO (c :: r) then Lib.NumEnd.range else Lib.NumEnd.ok (qfO (c :: r):Int)) = _
    rw [if_neg (by simp only [qcP] at hq;omega)]
   ·rw [if_neg hq]
    show (if 9223372036854775808 <= qfO (c :: r) then Lib.NumEnd.range else Lib.NumEnd.ok (qfO (c :: r):Int)) = _
    rw [if_pos (by simp only [qcP] at hq;omega)]
  ·rw [p1,if_neg]
   show ¬ qfO (c :: r) <= qcP
   have Y:18446744073709551616 <= qfO (c :: r):=p2
   simp only [qcP]
   omega
theorem qBn:qkQ:=by
 intro d E hl hd
 have ha:=qmc E hd
 have hb:Nat.ble d.length 100000 = true:=Nat.ble_eq_true_of_le hl
 refine ⟨λh=>?_,λh=>?_⟩
 ·rw [if_pos h] at ha
  intro hp
  obtain ⟨t,ht⟩ :∃t,X 123 = some (qjV t):=⟨_,rfl⟩
  rw [show Wd = W T.get X from rfl,quN qiQ ht]
  simp only [qjV,jW,jF,hb,cond_true,ha]
 ·rw [if_neg zo] at ha
  intro hp
  obtain ⟨t,ht⟩ :∃t,X 123 = some (qjV t):=⟨_,rfl⟩
  refine ⟨Lib.atoiSat d,t,.undef,[],?_⟩
  rw [show Wd = W T.get X from rfl,quN qiQ ht]
  simp only [qjV,jW,jF,hb,cond_true,ha]
end Go.Proofs.YtkehdpkcdnofaaaGreatDoor.AE
