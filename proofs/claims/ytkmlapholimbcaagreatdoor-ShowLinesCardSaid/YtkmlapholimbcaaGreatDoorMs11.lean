/- A part of the proof: the abstract executor and what goes through it (part 11). No condition. -/
import Derived.Test.YtkmlapholimbcaaGreatDoorMs10
set_option maxRecDepth 100000
namespace Go.Proofs.YtkmlapholimbcaaGreatDoor.AE
open Go.AE
theorem zipsU (t:List AVal) (p:Nat) (ps:List Nat) (a:AVal) (aS:List AVal):zips t (p :: ps) (a :: aS) = zips (up t p a) ps aS:=Eq.trans rfl rfl
theorem zips0 (t aS:List AVal):zips t [] aS = t:=by cases aS <;> exact Eq.trans rfl rfl
def catL (l:List Str):Str:=(l.map fun s=>s ++ [10]).flatten
theorem catL_app (a b:List Str):catL (a ++ b) = catL a ++ catL b:=by simp [catL]
theorem catL_one (s:Str):catL [s] = s ++ [10]:=by simp [catL]
def slAsg:ACode:=.reg [ao 9 (.asg (.t 25))]
abbrev slLoop (tab:List AVal) (s:LSt) (p:Option Jump):ABox:=.loop tab [25] slAsg l5_0 s p
structure LsS (L:List Str) (stop:Int) (h:List ABox) (A:Nat) (tab:List AVal) (n:Nat) (F:List ABox):Prop where
 b1:F[h.length + 1]? = some (.cells [.int .u8 stop])
 b2:F[h.length + 2]? = some (.cells [.bool false])
 b3:F[h.length + 3]? = some (.cells [.str (catL L)])
 b4:F[h.length + 4]? = some (.cells [.str (catL (L.take n))])
 b5:F[h.length + 5]? = some (.cells [.int .i64 (n:Nat)])
 bL:F[A]? = some (slLoop tab .ready none)
 ord:h.length + 6 ≤ A
section
variable {h:List ABox}
def subT (x i:AVal):Option AVal:=
 match x,i with
 | .str u,.int _ n=>if 0 ≤ n∧n.toNat ≤ u.length then some (.str (u.take n.toNat)) else none
 | _,_=>none
theorem op_subT {base:Nat} {call:AE.Call} {p:Prov} {s:St} (d:Option Nat) (x i:AOpd):runOp base call p d (.subS x none (some i)) s = putV d s (subT (ev s.t x) (ev s.t i)):=by
 rw [op_pure _ _ rfl (by simp) (by simp) (by simp)]
 have e:pureV s.t (.subS x none (some i)) = subT (ev s.t x) (ev s.t i):=by
  simp only [pureV,bound]
  cases ev s.t x with
  | str u=>
   cases ev s.t i with
   | int j n=>by_cases h0:0 ≤ n <;> by_cases h1:n.toNat ≤ u.length <;> simp [subT,h0,h1]
   | _=>rfl
  | _=>rfl
 rw [e]
theorem subT_pre (a b:Str):subT (.str (a ++ b)) (.int .i64 (a.length:Nat)) = some (.str a):=by
 simp only [subT]
 rw [if_pos ⟨by omega,by simp⟩]
 simp
set_option maxHeartbeats 4000000 in
theorem ls_body {L:List Str} {stop:Int} {A n:Nat} {tab:List AVal} {F:List ABox} (S:LsS L stop h A tab n F) (hn:n < L.length) (hL:L.length ≤ 100000) (hc:(catL L).length ≤ limit) (h0:0 ≤ stop) (h1:stop ≤ 255)
  (ht:tab.length = 56) (e3:lkp tab 3 = .ptr (h.length + 1) 0) (e4:lkp tab 4 = .ptr (h.length + 2) 0) (e5:lkp tab 5 = .ptr (h.length + 3) 0) (e7:lkp tab 7 = .ptr (h.length + 4) 0) (e8:lkp tab 8 = .ptr (h.length + 5) 0) :
  ∃tt x F',execW F.length Wd l5_0 ⟨up (up tab 25 (.str L[n])) 9 (.str L[n]),F.set A (slLoop tab .busy none),false⟩ = some (x,⟨tt,F',false⟩)∧
   ((x = Ex.nor∧F' = ((F.set A (slLoop tab .busy none)).set (h.length + 4) (.cells [.str (catL (L.take (n + 1)))])).set (h.length + 5) (.cells [.int .i64 (n + 1:Nat)]))∨
    (x = Ex.ret∧F' = (((F.set A (slLoop tab .busy none)).set (h.length + 4) (.cells [.str (catL (L.take (n + 1)))])).set (h.length + 5) (.cells [.int .i64 (n + 1:Nat)])).set (h.length + 2) (.cells [.bool true]))):=by
 obtain ⟨b1,b2,b3,b4,b5,bL,o⟩:=S
 have hAl:A < F.length:=(List.getElem?_eq_some_iff.1 bL).1
 obtain ⟨X,hX⟩ :∃X,X = F.set A (slLoop tab .busy none):=⟨_,rfl⟩
 have hXl:X.length = F.length:=by rw [hX];simp
 have x1:∀i,i ≠ A→X[i]? = F[i]?:=fun i hi=>by rw [hX,List.getElem?_set_ne (by omega)]
 rw [←hX]
 have c1:=x1 (h.length + 1) (by omega)
 have c2:=x1 (h.length + 2) (by omega)
 have c3:=x1 (h.length + 3) (by omega)
 have c4:=x1 (h.length + 4) (by omega)
 have c5:=x1 (h.length + 5) (by omega)
 rw [b1] at c1
 rw [b2] at c2
 rw [b3] at c3
 rw [b4] at c4
 rw [b5] at c5
 have l1:h.length + 1 < X.length:=by omega
 have l2:h.length + 2 < X.length:=by omega
 have l3:h.length + 3 < X.length:=by omega
 have l4:h.length + 4 < X.length:=by omega
 have l5:h.length + 5 < X.length:=by omega
 have htk:catL (L.take (n + 1)) = catL (L.take n) ++ (L[n] ++ [10]):=by rw [List.take_succ_eq_append_getElem hn,catL_app,catL_one]
 have hwh:catL L = catL (L.take (n + 1)) ++ catL (L.drop (n + 1)):=by rw [←catL_app,List.take_append_drop]
 have hlen:=congrArg List.length hwh
 rw [htk] at hlen ⊢
 rw [htk] at hwh
 rw [hwh] at c3
 clear htk hwh b1 b2 b3 b4 b5
 generalize catL (L.take n) = t at *
 generalize catL (L.drop (n + 1)) = u at *
 generalize L[n] = v at *
 simp only [List.length_append,List.length_cons,List.length_nil] at hlen
 have q1:t.length + v.length ≤ limit:=by omega
 have q2:t.length + v.length + 1 ≤ limit:=by omega
 have q3:t.length + (v.length + 1) ≤ limit:=by omega
 have q4:ile ((t.length + (v.length + 1):Nat):Int) ((t.length + (v.length + (u.length + 1)):Nat):Int) = true:=ileT (by omega)
 have w:=wrap_succ (n:=n) (by omega)
 have ws:IntKind.i64.wrap stop = stop:=wrap_id (by omega) (by omega)
 simp only [List.append_assoc,List.cons_append,List.nil_append] at c3
 have g5:∀c,(X.set (h.length + 4) c)[h.length + 5]? = some (.cells [.int .i64 (n:Nat)]):=fun c=>by rw [List.getElem?_set_ne (by omega)];exact c5
 have y1:∀c d:ABox,((X.set (h.length + 4) c).set (h.length + 5) d)[h.length + 1]? = some (.cells [.int .u8 stop]):=fun c d=>by rw [List.getElem?_set_ne (by omega),List.getElem?_set_ne (by omega)];exact c1
 have y3:∀c d:ABox,((X.set (h.length + 4) c).set (h.length + 5) d)[h.length + 3]? = some (.cells [.str (t ++ (v ++ 10 :: u))]):=fun c d=>by rw [List.getElem?_set_ne (by omega),List.getElem?_set_ne (by omega)];exact c3
 have y4:∀c d:ABox,((X.set (h.length + 4) c).set (h.length + 5) d)[h.length + 4]? = some c:=fun c d=>by rw [List.getElem?_set_ne (by omega),List.getElem?_set_self l4]
 have y5:∀c d:ABox,((X.set (h.length + 4) c).set (h.length + 5) d)[h.length + 5]? = some d:=fun c d=>by rw [List.getElem?_set_self (by rw [List.length_set];exact l5)]
 have y2:∀c d:ABox,((X.set (h.length + 4) c).set (h.length + 5) d)[h.length + 2]? = some (.cells [.bool false]):=fun c d=>by rw [List.getElem?_set_ne (by omega),List.getElem?_set_ne (by omega)];exact c2
 generalize he:execW F.length Wd l5_0 _ = r
 cases hs:ile stop ((n + 1:Nat):Int) && ilt 0 stop with
 | false=>
  simp only [l5_0,sT.1,sC.1,sTA.1,sCA.1,noApp,provA,provE,Src.isTmp,provOf,Src.hangs,AOpd.isT,srcOf,lookV,Nat.testBit,bne,simprocAttr,-Int.reduceNatCast',draw_on,ht,e3,e4,e5,e7,e8,c1,c3,c4,c5,l1,l2,l3,l4,l5,q1,q2,q3,q4,w,ws,hs,g5,y1,y3,y4,y5,List.length_set,if_true] at he
  subst he
  exact ⟨_,_,_,rfl,.inl ⟨rfl,rfl⟩⟩
 | true=>
  have hsub:subT (.str (t ++ (v ++ 10 :: u))) (.int .i64 ((t.length + (v.length + 1):Nat):Int)) = some (.str (t ++ (v ++ [10]))):=by
   have:=subT_pre (t ++ (v ++ [10])) u
   simpa using this
  simp only [l5_0,sT.1,sC.1,sTA.1,sCA.1,noApp,provA,provE,Src.isTmp,provOf,Src.hangs,AOpd.isT,srcOf,lookV,Nat.testBit,bne,simprocAttr,-Int.reduceNatCast',draw_on,op_subT,hsub,y2,ht,e3,e4,e5,e7,e8,c1,c3,c4,c5,l1,l2,l3,l4,l5,q1,q2,q3,q4,w,ws,hs,g5,y1,y3,y4,y5,List.length_set,if_true] at he
  subst he
  exact ⟨_,_,_,rfl,.inr ⟨rfl,rfl⟩⟩
theorem ls_round {L:List Str} {stop:Int} {A n:Nat} {tab:List AVal} {F:List ABox} (S:LsS L stop h A tab n F) (hn:n < L.length) (hL:L.length ≤ 100000) (hc:(catL L).length ≤ limit) (h0:0 ≤ stop) (h1:stop ≤ 255)
  (ht:tab.length = 56) (e3:lkp tab 3 = .ptr (h.length + 1) 0) (e4:lkp tab 4 = .ptr (h.length + 2) 0) (e5:lkp tab 5 = .ptr (h.length + 3) 0) (e7:lkp tab 7 = .ptr (h.length + 4) 0) (e8:lkp tab 8 = .ptr (h.length + 5) 0) :
  Wd (.yld A) [.str L[n]] F = some (.ret (.bool true),(F.set (h.length + 4) (.cells [.str (catL (L.take (n + 1)))])).set (h.length + 5) (.cells [.int .i64 (n + 1:Nat)]),false)∨Wd (.yld A) [.str L[n]] F = some (.ret (.bool false),(((F.set (h.length + 4) (.cells [.str (catL (L.take (n + 1)))])).set (h.length + 5) (.cells [.int .i64 (n + 1:Nat)])).set (h.length + 2) (.cells [.bool true])).set A (slLoop tab .done (some .ret)),false):=by
 obtain ⟨tt,x,F',B,hB⟩:=ls_body S hn hL hc h0 h1 ht e3 e4 e5 e7 e8
 have bL:=S.bL
 have hord:=S.ord
 have hLl:A < F.length:=(List.getElem?_eq_some_iff.1 bL).1
 have AA:execW F.length Wd slAsg ⟨zips tab [25] ([.str L[n]].map AVal.dim),F,false⟩ = some (.nor,⟨up (up tab 25 (.str L[n])) 9 (.str L[n]),F,false⟩):=by
  simp only [slAsg,zipsU,zips0,sT.1,sC.1,sTA.1,sCA.1,noApp,provA,provE,Src.isTmp,provOf,Src.hangs,AOpd.isT,srcOf,lookV,Nat.testBit,bne,simprocAttr,-Int.reduceNatCast',ht]
 rw [show ∀aS,Wd (.yld A) aS F = roundW Wd A aS F from fun aS=>W_yld xfine]
 have h4:F'[A]? = some (slLoop tab .busy none):=by
  rcases hB with ⟨_,rfl⟩ | ⟨_,rfl⟩
  ·rw [List.getElem?_set_ne (by omega),List.getElem?_set_ne (by omega),List.getElem?_set_self hLl]
  ·rw [List.getElem?_set_ne (by omega),List.getElem?_set_ne (by omega),List.getElem?_set_ne (by omega),List.getElem?_set_self hLl]
 have self:F.set A (slLoop tab .ready none) = F:=by
  apply List.ext_getElem?
  intro j
  by_cases hj:A = j
  ·subst hj;rw [bL,List.getElem?_set_self hLl]
  ·rw [List.getElem?_set_ne hj]
 rcases hB with ⟨rfl,rfl⟩ | ⟨rfl,rfl⟩
 ·refine .inl (roundW_of (call:=Wd) bL rfl AA bL B h4 ?_)
  rw [roundEnd]
  refine congrArg some (leave_cut ?_ rfl)
  rw [List.set_comm _ _ (show h.length + 5 ≠ A by omega),List.set_comm _ _ (show h.length + 4 ≠ A by omega),List.set_set,self]
  exact List.take_of_length_le (by simp)
 ·refine .inr (roundW_of (call:=Wd) bL rfl AA bL B h4 ?_)
  rw [roundEnd]
  refine congrArg some (leave_cut ?_ rfl)
  rw [List.set_comm (l:=F) _ _ (show A ≠ h.length + 4 by omega),List.set_comm _ _ (show A ≠ h.length + 5 by omega),List.set_comm _ _ (show A ≠ h.length + 2 by omega),List.set_set]
  exact List.take_of_length_le (by simp)
theorem LsS.next {L:List Str} {stop:Int} {A n:Nat} {tab:List AVal} {F:List ABox} (S:LsS L stop h A tab n F):LsS L stop h A tab (n + 1) ((F.set (h.length + 4) (.cells [.str (catL (L.take (n + 1)))])).set (h.length + 5) (.cells [.int .i64 (n + 1:Nat)])):=by
 obtain ⟨b1,b2,b3,b4,b5,bL,o⟩:=S
 have l5:=(List.getElem?_eq_some_iff.1 b5).1
 refine ⟨?_,?_,?_,?_,?_,?_,o⟩
 ·rw [List.getElem?_set_ne (by omega),List.getElem?_set_ne (by omega)];exact b1
 ·rw [List.getElem?_set_ne (by omega),List.getElem?_set_ne (by omega)];exact b2
 ·rw [List.getElem?_set_ne (by omega),List.getElem?_set_ne (by omega)];exact b3
 ·rw [List.getElem?_set_ne (by omega),List.getElem?_set_self (by omega)]
 ·rw [List.getElem?_set_self (by simpa using l5)]
 ·rw [List.getElem?_set_ne (by omega),List.getElem?_set_ne (by omega)];exact bL
end
end Go.Proofs.YtkmlapholimbcaaGreatDoor.AE
namespace Go.AE
theorem rfun_nor {base:Nat} {call:Call} {f:AOpd} {ps:List Nat} {asg body:ACode} {s:St} {g:FuncId} {first cap:List AVal} {v:AVal} {h:List ABox} {e:Bool} {t:List AVal} {ps':List Nat} {asg' body':ACode}
  (hf:ev s.t f = .fn g first cap) (hc:call (.fn g first cap) [.yld s.h.length] (s.h ++ [.loop (s.t.map AVal.dim) ps asg body .ready none]) = some (.ret v,h,e)) (hl:h[s.h.length]? = some (.loop t ps' asg' body' .ready none)) :
  execW base call (.rfun f ps asg body) s = some (.nor,{ s with h:=h.set s.h.length (.loop t ps' asg' body' .exhausted none),e:=s.e || e}):=by
 rw [execW_rfun]
 simp only [exec,hf,hc,hl]
 rfl
theorem rfun_ret {base:Nat} {call:Call} {f:AOpd} {ps:List Nat} {asg body:ACode} {s:St} {g:FuncId} {first cap:List AVal} {v:AVal} {h:List ABox} {e:Bool} {t:List AVal} {ps':List Nat} {asg' body':ACode}
  (hf:ev s.t f = .fn g first cap) (hc:call (.fn g first cap) [.yld s.h.length] (s.h ++ [.loop (s.t.map AVal.dim) ps asg body .ready none]) = some (.ret v,h,e)) (hl:h[s.h.length]? = some (.loop t ps' asg' body' .done (some .ret))) :
  execW base call (.rfun f ps asg body) s = some (.ret,{ s with h:=h.set s.h.length (.loop t ps' asg' body' .exhausted (some .ret)),e:=s.e || e}):=by
 rw [execW_rfun]
 simp only [exec,hf,hc,hl]
 rfl
theorem lkp_dim (t:List AVal) (i:Nat):lkp (t.map AVal.dim) i = (lkp t i).dim:=by
 simp only [lkp,List.getD_eq_getElem?_getD,List.getElem?_map]
 cases t[i]? <;> rfl
end Go.AE
namespace Go.Proofs.YtkmlapholimbcaaGreatDoor.AE
open Go.AE
section
variable {h:List ABox}
theorem SL.set {G:List ABox} {L:List Str} {V:AVal} (hS:SL G L V) {i:Nat} (hi:idOf V ≠ some i) (c:ABox):SL (G.set i c) L V:=
 hS.keep fun id hid=>List.getElem?_set_ne (fun e=>hi (by rw [e];exact hid))
theorem ls_turns {L:List Str} {stop:Int} {A:Nat} {tab:List AVal} {V:AVal} (hL:L.length ≤ 100000) (hc:(catL L).length ≤ limit) (h0:0 ≤ stop) (h1:stop ≤ 255)
  (ht:tab.length = 56) (e3:lkp tab 3 = .ptr (h.length + 1) 0) (e4:lkp tab 4 = .ptr (h.length + 2) 0) (e5:lkp tab 5 = .ptr (h.length + 3) 0) (e7:lkp tab 7 = .ptr (h.length + 4) 0) (e8:lkp tab 8 = .ptr (h.length + 5) 0) (hV:∀id,idOf V = some id→h.length + 6 ≤ id) :
  ∀(d n:Nat) (F:List ABox) (tt:List AVal),n + d = L.length→LsS L stop h A tab n F→SL F L V→F.length = A + 1→tt.length = 16→lkp tt 0 = .yld A→lkp tt 5 = V→lkp tt 6 = .int .i64 (L.length:Nat)→lkp tt 7 = .int .i64 (n:Nat)→
   ∃x tt' F',execW (A + 1) Wd (.loop l34_0) ⟨tt,F,false⟩ = some (x,⟨tt',F',false⟩)∧tt'.length = 16∧F'.length = A + 1∧((x = .exit 0∧LsS L stop h A tab L.length F')∨(x = .ret∧F'[h.length + 2]? = some (.cells [.bool true])∧F'[A]? = some (slLoop tab .done (some .ret))))
 | 0,n,F,tt,hnd,S,hS,hF,htt,f0,f5,f6,f7=>by
  have c1:ilt (n:Int) (L.length:Int) = false:=iltF (by omega)
  rw [execW_loop]
  generalize he:execW (A + 1) Wd l34_0 _ = r
  simp only [l34_0,sT.1,sC.1,sTA.1,sCA.1,noApp,provA,provE,Src.isTmp,provOf,Src.hangs,AOpd.isT,srcOf,lookV,Nat.testBit,bne,simprocAttr,-Int.reduceNatCast',htt,f6,f7,c1] at he
  subst he
  have e:n = L.length:=by omega
  subst e
  exact ⟨.exit 0,_,_,rfl,by simp only [length_up,htt],hF,.inl ⟨rfl,S⟩⟩
 | d + 1,n,F,tt,hnd,S,hS,hF,htt,f0,f5,f6,f7=>by
  have c1:ilt (n:Int) (L.length:Int) = true:=iltT (by omega)
  have hn:n < L.length:=by omega
  have w:=wrap_succ (n:=n) (by omega)
  obtain ⟨id,rfl,hne,hid⟩ :∃id,V = .sl id 0 L.length L.length 1∧L ≠ []∧F[id]? = some (.cells (L.map AVal.str)):=by
   rcases hS with ⟨rfl,_⟩ | hS
   ·simp at hn
   ·exact hS
  have hx:ixaV 1 (.sl id 0 L.length L.length 1) (.int .i64 (n:Nat)) = some (.ptr id n):=by
   rw [ixaV_sl,if_pos ⟨by omega,by omega⟩];simp
  have hil:=(List.getElem?_eq_some_iff.1 hid).1
  have hg:(L.map AVal.str)[n]? = some (.str L[n]):=by rw [List.getElem?_map,List.getElem?_eq_getElem hn];rfl
  have hy:=ls_round S hn hL hc h0 h1 ht e3 e4 e5 e7 e8
  have hidn:=hV id rfl
  have hord:=S.ord
  rw [execW_loop]
  rcases hy with hy | hy
  ·generalize he:execW (A + 1) Wd l34_0 _ = r
   simp only [l34_0,sT.1,sC.1,sTA.1,sCA.1,noApp,provA,provE,Src.isTmp,provOf,Src.hangs,AOpd.isT,srcOf,lookV,Nat.testBit,bne,simprocAttr,-Int.reduceNatCast',dim_sl,drain_sl,htt,f0,f5,f6,f7,c1,hx,hid,hil,hg,hy,w] at he
   subst he
   rw [thenW_nor]
   refine ls_turns hL hc h0 h1 ht e3 e4 e5 e7 e8 hV d (n + 1) _ _ (by omega) S.next ?_ (by simpa using hF) ?_ ?_ ?_ ?_ ?_
   ·exact (hS.set (fun e=>by cases e;omega) _).set (fun e=>by cases e;omega) _
   all_goals simp only [sT.1,sC.1,sTA.1,sCA.1,noApp,provA,provE,Src.isTmp,provOf,Src.hangs,AOpd.isT,srcOf,lookV,Nat.testBit,bne,simprocAttr,-Int.reduceNatCast',dim_sl,htt,f0,f5,f6]
  ·generalize he:execW (A + 1) Wd l34_0 _ = r
   simp only [l34_0,sT.1,sC.1,sTA.1,sCA.1,noApp,provA,provE,Src.isTmp,provOf,Src.hangs,AOpd.isT,srcOf,lookV,Nat.testBit,bne,simprocAttr,-Int.reduceNatCast',dim_sl,drain_sl,htt,f0,f5,f6,f7,c1,hx,hid,hil,hg,hy,w] at he
   subst he
   refine ⟨.ret,_,_,rfl,by simp only [length_up,htt],by simpa using hF,.inr ⟨rfl,?_,?_⟩⟩
   ·rw [List.getElem?_set_ne (by omega),List.getElem?_set_self (by simp;omega)]
   ·rw [List.getElem?_set_self (by simp;omega)]
theorem ls_all {L:List Str} {stop:Int} {A B:Nat} {tab:List AVal} {V:AVal} (hL:L.length ≤ 100000) (hc:(catL L).length ≤ limit) (h0:0 ≤ stop) (h1:stop ≤ 255)
  (ht:tab.length = 56) (e3:lkp tab 3 = .ptr (h.length + 1) 0) (e4:lkp tab 4 = .ptr (h.length + 2) 0) (e5:lkp tab 5 = .ptr (h.length + 3) 0) (e7:lkp tab 7 = .ptr (h.length + 4) 0) (e8:lkp tab 8 = .ptr (h.length + 5) 0) (hV:∀id,idOf V = some id→h.length + 6 ≤ id)
  {F:List ABox} (S:LsS L stop h A tab 0 F) (hS:SL F L V) (hF:F.length = A + 1) (hB:F[B]? = some (.cells [V])) :
  ∃F',Wd (.fn 34 [] [.ptr B 0]) [.yld A] F = some (.ret (.tup []),F',false)∧F'.length = A + 1∧(LsS L stop h A tab L.length F'∨(F'[h.length + 2]? = some (.cells [.bool true])∧F'[A]? = some (slLoop tab .done (some .ret)))):=by
 have hBl:=(List.getElem?_eq_some_iff.1 hB).1
 obtain ⟨d,dw,_,l⟩:=hS.facts
 generalize hw:Wd _ _ F = w
 rw [Wd_fn rfl (show T.get 34 = some c34 by kernel_rfl)] at hw
 simp only [c34,sT.1,sC.1,sTA.1,sCA.1,noApp,provA,provE,Src.isTmp,provOf,Src.hangs,AOpd.isT,srcOf,lookV,Nat.testBit,bne,simprocAttr,-Int.reduceNatCast',hB,hBl,d,dw,l] at hw
 rw [hF] at hw
 generalize hr:execW (A + 1) Wd (.loop l34_0) _ = r at hw
 have key:=ls_turns hL hc h0 h1 ht e3 e4 e5 e7 e8 hV L.length 0 F (up (up (up (AVal.yld A :: .ptr B 0 :: List.replicate 14 (.tup [])) 5 V) 6 (.int .i64 (L.length:Nat))) 7 (.int .i64 0)) (by omega) S hS hF (by simp only [length_up,List.length_cons,List.length_replicate]) (by simp only [sT.1,sC.1,sTA.1,sCA.1,noApp,provA,provE,Src.isTmp,provOf,Src.hangs,AOpd.isT,srcOf,lookV,Nat.testBit,bne,simprocAttr,-Int.reduceNatCast',List.replicate]) (by simp only [sT.1,sC.1,sTA.1,sCA.1,noApp,provA,provE,Src.isTmp,provOf,Src.hangs,AOpd.isT,srcOf,lookV,Nat.testBit,bne,simprocAttr,-Int.reduceNatCast',List.replicate,d]) (by simp only [sT.1,sC.1,sTA.1,sCA.1,noApp,provA,provE,Src.isTmp,provOf,Src.hangs,AOpd.isT,srcOf,lookV,Nat.testBit,bne,simprocAttr,-Int.reduceNatCast',List.replicate]) (by simp only [sT.1,sC.1,sTA.1,sCA.1,noApp,provA,provE,Src.isTmp,provOf,Src.hangs,AOpd.isT,srcOf,lookV,Nat.testBit,bne,simprocAttr,-Int.reduceNatCast',List.replicate,Int.natCast_zero])
 obtain ⟨x,tt',F',e,htt,hF',h2⟩:=key
 obtain rfl:r = some (x,⟨tt',F',false⟩):=hr.symm.trans e
 rcases h2 with ⟨rfl,h2⟩ | ⟨rfl,h2⟩
 ·simp only [sT.1,sC.1,sTA.1,sCA.1,noApp,provA,provE,Src.isTmp,provOf,Src.hangs,AOpd.isT,srcOf,lookV,Nat.testBit,bne,simprocAttr,-Int.reduceNatCast',htt] at hw
  subst hw
  exact ⟨F'.take (A + 1),congrArg some (leave_cut (by rw [hF]) rfl),by simp;omega,.inl (by rw [List.take_of_length_le (by omega)];exact h2)⟩
 ·simp only [sT.1,sC.1,sTA.1,sCA.1,noApp,provA,provE,Src.isTmp,provOf,Src.hangs,AOpd.isT,srcOf,lookV,Nat.testBit,bne,simprocAttr,-Int.reduceNatCast',htt] at hw
  subst hw
  exact ⟨F'.take (A + 1),congrArg some (leave_cut (by rw [hF]) rfl),by simp;omega,.inr (by rw [List.take_of_length_le (by omega)];exact h2)⟩
theorem catL_len {L:List Str} {b:Nat} (hb:∀s ∈ L,s.length ≤ b):(catL L).length ≤ L.length * (b + 1):=by
 induction L with
 | nil=>simp [catL]
 | cons a l ih=>
  have h1:=hb a (by simp)
  have h2:=ih fun s hs=>hb s (by simp [hs])
  rw [List.length_cons,Nat.succ_mul]
  simp only [catL,List.map_cons,List.flatten_cons,List.length_append,List.length_cons,List.length_nil] at h2 ⊢
  omega
theorem join_cat {L:List Str} (h:L ≠ []):Lib.join L [10] ++ [10] = catL L:=by
 induction L with
 | nil=>exact absurd rfl h
 | cons a l ih=>
  cases l with
  | nil=>rw [Lib.join_one,catL_one]
  | cons b l=>
   have:=ih (by simp)
   rw [Lib.join_cons] at this ⊢
   have e:Lib.joinTail [10] (b :: l) = [10] ++ (b ++ Lib.joinTail [10] l):=by simp [Lib.joinTail]
   have e2:catL (a :: b :: l) = (a ++ [10]) ++ catL (b :: l):=by simp [catL]
   rw [e,e2,←this]
   simp
theorem prog_cat {p:ProgD} (hp:ProgOk p):(catL (progL p)).length ≤ 900000000:=by
 have h1:=catL_len (prog_few hp)
 have h2:=progL_len hp
 have h3:(progL p).length * (100000 + 1) ≤ 8689 * (100000 + 1):=Nat.mul_le_mul_right _ h2
 omega
def progT (b:Bool) (p:ProgD):List Str:=bif b then progL p else []
theorem Program_ok {p:ProgD} {b:Bool} (hR:∀G,Wd (.fn 29 [] []) [p.enc] G = some (.ret (.bool b),G,false)) (hp:b = true→ProgOk p) (G:List ABox):Wd (.fn 14 [] []) [p.enc] G = some (.ret (.tup [.str (catL (progT b p)),.int .i64 (bif b then 0 else 1)]),G,false):=by
 have hR:=hR
 rw [progT]
 cases b with
 | false=>
  obtain ⟨l,r⟩:=p
  rw [ProgD.enc,ProgD.cs] at *
  simp only at *
  rw [Wd_fn rfl (show T.get 14 = some c14 by kernel_rfl)]
  simp only [c14,sT.1,sC.1,sTA.1,sCA.1,noApp,provA,provE,Src.isTmp,provOf,Src.hangs,AOpd.isT,srcOf,lookV,Nat.testBit,bne,simprocAttr,-Int.reduceNatCast',hR,cond_false,catL,List.flatten_nil]
 | true=>
  have hp:=hp rfl
  obtain ⟨G',V,hP,hS,hl,hk,_⟩:=prog_ok hp (G ++ [.cells p.cs])
  have hne:progL p ≠ []:=by unfold progL;simp
  have hcl:=prog_cat hp
  have hjc:=join_cat hne
  obtain ⟨d,w,_,_⟩:=hS.facts
  have hjl:=congrArg List.length hjc
  simp only [List.length_append,List.length_cons,List.length_nil] at hjl
  have hJ:Wd (.fn 30 [] []) [V,.str [10]] G' = some (.ret (.str (Lib.join (progL p) [10])),G',false):=by
   rcases hS with ⟨e,_⟩ | ⟨id,rfl,_,hid⟩
   ·exact absurd e hne
   ·have hx:jnX Wd [.sl id 0 (progL p).length (progL p).length 1,.str [10]] G' = some (.ret (.str (Lib.join (progL p) [10])),G',false):=by
     have a:Nat.ble (Lib.join (progL p) [10]).length limit = true:=ble_true (by unfold limit;omega)
     have b:Nat.ble (progL p).length limit = true:=ble_true (by have:=progL_len hp;unfold limit;omega)
     have c:((progL p).map AVal.str).take (progL p).length = (progL p).map AVal.str:=List.take_of_length_le (by simp)
     have d:Nat.beq (progL p).length (progL p).length = true:=Nat.beq_refl _
     simp only [jnX,hid,c,strsOf_map,a,b,d,Bool.and_self,cond_true]
    exact (W_ext xfine (show X 30 = some jnX by kernel_rfl)).trans hx
  have htk:G'.take G.length = G:=by
   apply List.ext_getElem?
   intro j
   by_cases hj:j < G.length
   ·rw [List.getElem?_take_of_lt hj,hk j (by simp;omega),List.getElem?_append_left hj]
   ·rw [List.getElem?_eq_none (by simp;omega),List.getElem?_eq_none (by omega)]
  have q1:(Lib.join (progL p) [10]).length + 1 ≤ limit:=by unfold limit;omega
  have hR:=hR
  rw [cond_true,←hjc]
  generalize Lib.join (progL p) [10] = u at *
  clear hS hp hjc hcl hne hk
  obtain ⟨l,r⟩:=p
  rw [ProgD.enc,ProgD.cs] at *
  simp only at *
  rw [Wd_fn rfl (show T.get 14 = some c14 by kernel_rfl)]
  simp only [c14,sT.1,sC.1,sTA.1,sCA.1,noApp,provA,provE,Src.isTmp,provOf,Src.hangs,AOpd.isT,srcOf,lookV,Nat.testBit,bne,simprocAttr,-Int.reduceNatCast',hR,hP,hJ,d,w,q1,if_true,cond_true]
  exact congrArg some (leave_cut htk rfl)
end
end Go.Proofs.YtkmlapholimbcaaGreatDoor.AE
namespace Go.Proofs.YtkmlapholimbcaaGreatDoor.AE
open Go.AE
theorem Lines_ok {p:ProgD} {b:Bool} (hR:∀G,Wd (.fn 29 [] []) [p.enc] G = some (.ret (.bool b),G,false)) (hp:b = true→ProgOk p) (G:List ABox) :
  ∃B V G',Wd (.fn 17 [] []) [p.enc] G = some (.ret (.fn 34 [] [.ptr B 0]),G',false)∧G'[B]? = some (.cells [V])∧SL G' (progT b p) V∧(∀i,i < G.length→G'[i]? = G[i]?)∧G.length ≤ G'.length∧∀id,idOf V = some id→G.length ≤ id:=by
 have hB:Nat.blt (G.length + 1) G.length = false:=by
  cases hb:Nat.blt (G.length + 1) G.length with
  | false=>rfl
  | true=>exact absurd (Nat.blt_eq▸hb) (by omega)
 rw [progT]
 generalize hw:Wd _ _ G = w
 rw [Wd_fn rfl (show T.get 17 = some c17 by kernel_rfl)] at hw
 cases b with
 | false=>
  obtain ⟨l,r⟩:=p
  rw [ProgD.enc,ProgD.cs] at *
  simp only [c17,sT.1,sC.1,sTA.1,sCA.1,noApp,provA,provE,Src.isTmp,provOf,Src.hangs,AOpd.isT,srcOf,lookV,Nat.testBit,bne,simprocAttr,-Int.reduceNatCast',mkF_lookB,hR,leave_h',hB,cond_false] at hw
  subst hw
  refine ⟨G.length + 1,.lst [] .full,_,rfl,by rw [get_past];rfl,.inl ⟨rfl,rfl⟩,fun i hi=>by rw [List.getElem?_append_left hi],by simp,fun id hid=>by cases hid⟩
 | true=>
  obtain ⟨G',V,hP,hS,hl,hk,hid⟩:=prog_ok (hp rfl) (G ++ [.cells p.cs,.cells [.lst [] .full]])
  obtain ⟨d,dw,ds,_⟩:=hS.facts
  have hB1:Nat.ble G.length (G.length + 1) = true:=ble_true (by omega)
  have hl1:G.length + 1 < G'.length:=by simp at hl;omega
  have g0:G'[G.length]? = some (.cells p.cs):=by rw [hk _ (by simp),get_at];rfl
  have g1:G'[G.length + 1]? = some (.cells [.lst [] .full]):=by rw [hk _ (by simp),get_past];rfl
  obtain ⟨l,r⟩:=p
  rw [ProgD.enc,ProgD.cs] at *
  simp only [c17,sT.1,sC.1,sTA.1,sCA.1,noApp,provA,provE,Src.isTmp,provOf,Src.hangs,AOpd.isT,srcOf,lookV,Nat.testBit,bne,simprocAttr,-Int.reduceNatCast',mkF_lookB,hR,hP,d,dw,ds,hl1,g1,hB1,Bool.true_or,Bool.not_true,leave_h',hB,cond_false] at hw
  subst hw
  have hV:∀id,idOf V = some id→G.length + 2 ≤ id:=fun id h=>by have:=hid id h;simpa using this
  refine ⟨G.length + 1,V,_,rfl,by rw [List.getElem?_set_self hl1],hS.set (fun e=>by have:=hV _ e;omega) _,fun i hi=>?_,by simp;omega,fun id h=>by have:=hV id h;omega⟩
  rw [List.getElem?_set_ne (by omega),hk i (by simp;omega),List.getElem?_append_left hi]
theorem sl_range {L:List Str} {stop:Int} {B:Nat} {V:AVal} {h g:List ABox} (hL:L.length ≤ 100000) (hc:(catL L).length ≤ limit) (h0:0 ≤ stop) (h1:stop ≤ 255) (hg:h.length + 6 ≤ g.length)
  (b1:g[h.length + 1]? = some (.cells [.int .u8 stop])) (b2:g[h.length + 2]? = some (.cells [.bool false])) (b3:g[h.length + 3]? = some (.cells [.str (catL L)])) (b4:g[h.length + 4]? = some (.cells [.str []])) (b5:g[h.length + 5]? = some (.cells [.int .i64 0]))
  (gB:g[B]? = some (.cells [V])) (hS:SL g L V) (hV:∀id,idOf V = some id→h.length + 6 ≤ id) (T:List AVal)
  (ht:T.length = 56) (e3:lkp T 3 = .ptr (h.length + 1) 0) (e4:lkp T 4 = .ptr (h.length + 2) 0) (e5:lkp T 5 = .ptr (h.length + 3) 0) (e7:lkp T 7 = .ptr (h.length + 4) 0) (e8:lkp T 8 = .ptr (h.length + 5) 0) (e24:lkp T 24 = .fn 34 [] [.ptr B 0]) :
  ∃x st',execW h.length Wd (.rfun (.t 24) [25] slAsg l5_0) ⟨T,g,false⟩ = some (x,st')∧∃F,st' = ⟨T,F,false⟩∧h.length + 6 ≤ F.length∧((x = .nor∧F[h.length + 2]? = some (.cells [.bool false])∧F[h.length + 3]? = some (.cells [.str (catL L)])∧F[h.length + 4]? = some (.cells [.str (catL L)]))∨(x = .ret∧F[h.length + 2]? = some (.cells [.bool true]))):=by
 have up':∀{i:Nat} {x y:ABox},g[i]? = some x→(g ++ [y])[i]? = some x:=fun {i x y} hx=>by rw [List.getElem?_append_left (List.getElem?_eq_some_iff.1 hx).1];exact hx
 have S:LsS L stop h g.length (T.map AVal.dim) 0 (g ++ [slLoop (T.map AVal.dim) .ready none]):=⟨up' b1,up' b2,up' b3,by rw [List.take_zero];exact up' b4,by rw [Int.natCast_zero];exact up' b5,by rw [get_at];rfl,hg⟩
 obtain ⟨F',hcall,hl',hF⟩:=ls_all hL hc h0 h1 (by simpa using ht) (by rw [lkp_dim,e3];rfl) (by rw [lkp_dim,e4];rfl) (by rw [lkp_dim,e5];rfl) (by rw [lkp_dim,e7];rfl) (by rw [lkp_dim,e8];rfl) hV S (hS.more _) (by simp) (up' gB)
 have e24':ev T (.t 24) = .fn 34 [] [.ptr B 0]:=by simp only [sT.1,sC.1,sTA.1,sCA.1,noApp,provA,provE,Src.isTmp,provOf,Src.hangs,AOpd.isT,srcOf,lookV,Nat.testBit,bne,simprocAttr,-Int.reduceNatCast',e24]
 rcases hF with S' | ⟨f2,fL⟩
 ·have r1:=rfun_nor (base:=h.length) (s:=⟨T,g,false⟩) (v:=.tup []) e24' hcall S'.bL
  simp only [Bool.or_false] at r1
  refine ⟨_,_,r1,_,rfl,by simp;omega,.inl ⟨rfl,?_,?_,?_⟩⟩
  ·rw [List.getElem?_set_ne (by omega)];exact S'.b2
  ·rw [List.getElem?_set_ne (by omega)];exact S'.b3
  ·have:=S'.b4
   rw [List.take_length] at this
   rw [List.getElem?_set_ne (by omega)];exact this
 ·have r1:=rfun_ret (base:=h.length) (s:=⟨T,g,false⟩) (v:=.tup []) e24' hcall fL
  simp only [Bool.or_false] at r1
  refine ⟨_,_,r1,_,rfl,by simp;omega,.inr ⟨rfl,?_⟩⟩
  rw [List.getElem?_set_ne (by omega)];exact f2
theorem leave_any (n:Nat) (v:AVal) (H:List ABox) (e:Bool):∃g e',some (leave n (.ret v) H e) = some (.ret v,g,e'):=by
 simp only [leave]
 cases ((!e || n == 0) && v.lower n) <;> exact ⟨_,_,rfl⟩
theorem sl_law {p:ProgD} {b:Bool} {sm stop:Int} (haw:∀G,Wd (.fn 6 [] []) [] G = some (.ret (.bool true),G,false)) (h:List ABox) (hsm:Wd (.fn 13 [] []) [p.enc] (h ++ [.cells p.cs,.cells [.int .u8 stop],.cells [.bool false]]) = some (.ret (.int .i64 sm),h ++ [.cells p.cs,.cells [.int .u8 stop],.cells [.bool false]],false)) (hR:sm ≠ 0→∀G,Wd (.fn 29 [] []) [p.enc] G = some (.ret (.bool b),G,false)) (hp:sm ≠ 0→b = true→ProgOk p) (h0:0 ≤ stop) (h1:stop ≤ 255) :
  ∃g e,Wd (.fn 5 [] []) [p.enc,.int .u8 stop] h = some (.ret (.bool true),g,e):=by
 have hB2:Nat.ble h.length (h.length + 2) = true:=ble_true (by omega)
 generalize hw:Wd _ _ h = w
 rw [Wd_fn rfl (show T.get 5 = some c5 by kernel_rfl)] at hw
 cases c0:sm == 0 with
 | true=>
  obtain ⟨l,r⟩:=p
  rw [ProgD.enc,ProgD.cs] at *
  simp only [c5,sT.1,sC.1,sTA.1,sCA.1,noApp,provA,provE,Src.isTmp,provOf,Src.hangs,AOpd.isT,srcOf,lookV,Nat.testBit,bne,simprocAttr,-Int.reduceNatCast',haw,hsm,c0,hB2,Bool.true_or] at hw
  subst hw
  exact ⟨_,_,rfl⟩
 | false=>
  have hne:sm ≠ 0:=beq_eq_false_iff_ne.1 c0
  have hR:=hR hne
  have hp:=hp hne
  have hT:=fun G=>Program_ok hR hp G
  obtain ⟨s,hs⟩ :∃s,s = catL (progT b p):=⟨_,rfl⟩
  obtain ⟨B,V,G',hL,gB,hS,hk,hl,hV⟩:=Lines_ok hR hp (h ++ [.cells p.cs,.cells [.int .u8 stop],.cells [.bool false],.cells [.str s],.cells [.str []],.cells [.int .i64 0]])
  have hLn:(progT b p).length ≤ 100000:=by
   unfold progT
   cases b with
   | false=>simp
   | true=>have:=progL_len (hp rfl);simp only [cond_true];omega
  have hC:(catL (progT b p)).length ≤ limit:=by
   unfold progT
   cases b with
   | false=>simp [catL]
   | true=>have:=prog_cat (hp rfl);simp only [cond_true];unfold limit;omega
  rw [←hs] at hT hC
  obtain ⟨l,r⟩:=p
  rw [ProgD.enc,ProgD.cs] at *
  simp only [c5,sT.1,sC.1,sTA.1,sCA.1,noApp,provA,provE,Src.isTmp,provOf,Src.hangs,AOpd.isT,srcOf,lookV,Nat.testBit,bne,simprocAttr,-Int.reduceNatCast',haw,hsm,c0,hB2,hT,hL,Bool.true_or] at hw
  generalize hr:execW h.length Wd (.rfun _ _ _ _) _ = r at hw
  have at':∀i,i < 6→G'[h.length + i]? = _:=fun i hi=>(hk (h.length + i) (by simp;omega)).trans (get_past _ _ _)
  subst hs
  obtain ⟨x,st',rfl,F,rfl,hFl,hF⟩:=known hr (sl_range (h:=h) (g:=G') hLn hC h0 h1 (by simpa using hl) (at' 1 (by omega)) (at' 2 (by omega)) (at' 3 (by omega)) (at' 4 (by omega)) (at' 5 (by omega)) gB hS (fun id hid=>by simpa using hV id hid) _ (by simp only [length_up,List.length_cons,List.length_nil]) (by simp only [sT.1,sC.1,sTA.1,sCA.1,noApp,provA,provE,Src.isTmp,provOf,Src.hangs,AOpd.isT,srcOf,lookV,Nat.testBit,bne,simprocAttr,-Int.reduceNatCast']) (by simp only [sT.1,sC.1,sTA.1,sCA.1,noApp,provA,provE,Src.isTmp,provOf,Src.hangs,AOpd.isT,srcOf,lookV,Nat.testBit,bne,simprocAttr,-Int.reduceNatCast']) (by simp only [sT.1,sC.1,sTA.1,sCA.1,noApp,provA,provE,Src.isTmp,provOf,Src.hangs,AOpd.isT,srcOf,lookV,Nat.testBit,bne,simprocAttr,-Int.reduceNatCast']) (by simp only [sT.1,sC.1,sTA.1,sCA.1,noApp,provA,provE,Src.isTmp,provOf,Src.hangs,AOpd.isT,srcOf,lookV,Nat.testBit,bne,simprocAttr,-Int.reduceNatCast']) (by simp only [sT.1,sC.1,sTA.1,sCA.1,noApp,provA,provE,Src.isTmp,provOf,Src.hangs,AOpd.isT,srcOf,lookV,Nat.testBit,bne,simprocAttr,-Int.reduceNatCast']) (by simp only [sT.1,sC.1,sTA.1,sCA.1,noApp,provA,provE,Src.isTmp,provOf,Src.hangs,AOpd.isT,srcOf,lookV,Nat.testBit,bne,simprocAttr,-Int.reduceNatCast']))
  have k2:h.length + 2 < F.length:=by omega
  have k3:h.length + 3 < F.length:=by omega
  have k4:h.length + 4 < F.length:=by omega
  generalize catL (progT b ⟨l,r⟩) = s at *
  have ss:(s == s) = true:=by simp
  have g2:∀c,(F.set (h.length + 2) c)[h.length + 2]? = some c:=fun c=>List.getElem?_set_self k2
  rcases hF with ⟨rfl,f2,f3,f4⟩ | ⟨rfl,f2⟩
  ·simp only [sT.1,sC.1,sTA.1,sCA.1,noApp,provA,provE,Src.isTmp,provOf,Src.hangs,AOpd.isT,srcOf,lookV,Nat.testBit,bne,simprocAttr,-Int.reduceNatCast',f2,f3,f4,k2,k3,k4,ss,g2,hB2,List.length_set,Bool.true_or] at hw
   subst hw
   exact leave_any _ _ _ _
  ·simp only [sT.1,sC.1,sTA.1,sCA.1,noApp,provA,provE,Src.isTmp,provOf,Src.hangs,AOpd.isT,srcOf,lookV,Nat.testBit,bne,simprocAttr,-Int.reduceNatCast',f2,k2] at hw
   subst hw
   exact leave_any _ _ _ _
end Go.Proofs.YtkmlapholimbcaaGreatDoor.AE
namespace Go.Proofs.YtkmlapholimbcaaGreatDoor.AE
open Go.AE
def allBody (k:Nat) (z:List AVal):ACode:=
 (.seq (.reg [ao 10 (.bin .lss (.t 9) (.t 8))]) (.seq (.cond (.t 10) (.skip) (.exit 0)) (.seq (.block 1 (.seq (.reg [ao 11 (.ixaL k (.t 7) (.t 9)),ao 12 (.ld (some k) (.t 11)),ao 6 (.new z),an (.st (some k) (.t 6) (.t 12))])
 (.seq (.reg [ao 13 (.mov (.t 1)),ao 14 (.ld (some k) (.t 6)),ao 15 (.call (.t 13) [(.t 14)]),ao 16 (.un .not (.t 15))]) (.cond (.t 16) (.seq (.reg [ao 4 (.asg (.c (.bool false)))]) (.ret)) (.skip)))))
 (.reg [ao 17 (.bin .add (.t 9) (.c (.int .i64 1))),ao 9 (.mov (.t 17))]))))
def allF (k:Nat) (z:List AVal):AFunc:=⟨18,[.tmp 4],(.seq (.reg [ao 4 (.asg (.c (.bool false)))]) (.seq (.seq (.reg [ao 7 (.mov (.t 0)),ao 8 (.len false (.t 7)),ao 9 (.mov (.c (.int .i64 0)))]) (.block 0 (.loop (allBody k z)))) (.seq (.reg [ao 4 (.asg (.c (.bool true)))]) (.ret))))⟩
section
variable {α:Type} {k:Nat} {z:List AVal} {l:List α} {en:α→AVal} {g F:FuncId} {bf:α→Bool}
theorem asks_loop (hz:z.length = k) (hzd:z.map AVal.dim = z) (hs:∀v ∈ l,Shp k (en v)) (hl:l.length ≤ 100000) (hg:∀v ∈ l,∀h,Wd (.fn g [] []) [en v] h = some (.ret (.bool (bf v)),h,false)) (H:List ABox) :
  ∀d st,(∃(tt:List AVal) (i:Nat) (m:List ABox),st = ⟨tt,H ++ m,false⟩∧tt.length = 18∧lkp tt 1 = .fn g [] []∧lkp tt 7 = .lst (l.map en) .no∧lkp tt 8 = .int .i64 (l.length:Nat)∧lkp tt 9 = .int .i64 (i:Nat)∧i + d = l.length∧l.all bf = (l.drop i).all bf)→
   ∃x st',execW H.length Wd (.loop (allBody k z)) st = some (x,st')∧(∃(tt:List AVal) (m:List ABox),st' = ⟨tt,H ++ m,false⟩∧tt.length = 18∧((x = .exit 0∧l.all bf = true)∨(x = .ret∧lkp tt 4 = .bool false∧l.all bf = false))):=by
 refine loop_rule _ (fun x st'=>∃(tt:List AVal) (m:List ABox),st' = ⟨tt,H ++ m,false⟩∧tt.length = 18∧((x = .exit 0∧l.all bf = true)∨(x = .ret∧lkp tt 4 = .bool false∧l.all bf = false))) ?_
 rintro d st ⟨tt,i,m,rfl,ht,e1,e7,e8,e9,hid,hall⟩
 generalize he:execW H.length Wd (allBody k z) _ = r
 rcases Nat.lt_or_ge i l.length with hi | hi
 ·have c1:ilt (i:Int) (l.length:Int) = true:=iltT (by omega)
  have w:=wrap_succ (n:=i) (by omega)
  obtain ⟨cs,ec,s1,s2,s4⟩:=hs l[i] (List.getElem_mem hi)
  have hq:=hg l[i] (List.getElem_mem hi)
  rw [List.drop_eq_getElem_cons hi,List.all_cons] at hall
  rw [ec] at hq
  have hx:ixaV k (.lst (l.map en) .no) (.int .i64 (i:Nat)) = some (.iptr cs 0):=by
   have:=ixaV_get (k:=k) (f:=.no) (j:=.i64) (show (l.map en)[i]? = some (AVal.agg cs) by rw [List.getElem?_map,List.getElem?_eq_getElem hi,Option.map_some,ec]) (by simpa [AVal.cells] using s1)
   simpa [AVal.cells] using this
  have hd:z.drop k = []:=List.drop_eq_nil_of_le (by omega)
  have hc:Go.AE.cut cs 0 (some k) = some (.agg cs):=by
   rw [cut_some (by omega),List.drop_zero,List.take_of_length_le (by omega),s4]
  have hln:(H ++ m).length = H.length + m.length:=by simp
  have hB:Nat.ble H.length (H.length + m.length) = true:=ble_true (by omega)
  cases hb:bf l[i] with
  | true=>
   rw [hb,Bool.true_and] at hall
   rw [hb] at hq
   simp only [allBody,sT.1,sC.1,sTA.1,sCA.1,noApp,provA,provE,Src.isTmp,provOf,Src.hangs,AOpd.isT,srcOf,lookV,Nat.testBit,bne,simprocAttr,-Int.reduceNatCast',ht,e1,e7,e8,e9,c1,hx,hzd,hc,s1,s2,s4,hd,hz,hln,hB,hq,w,List.append_assoc] at he
   subst he
   refine .inl ⟨_,d - 1,rfl,by omega,_,i + 1,m ++ [.cells cs],rfl,by simp only [length_up,ht],?_,?_,?_,?_,by omega,hall⟩
   all_goals simp only [sT.1,sC.1,sTA.1,sCA.1,noApp,provA,provE,Src.isTmp,provOf,Src.hangs,AOpd.isT,srcOf,lookV,Nat.testBit,bne,simprocAttr,-Int.reduceNatCast',ht,e1,e7,e8]
  | false=>
   rw [hb,Bool.false_and] at hall
   rw [hb] at hq
   simp only [allBody,sT.1,sC.1,sTA.1,sCA.1,noApp,provA,provE,Src.isTmp,provOf,Src.hangs,AOpd.isT,srcOf,lookV,Nat.testBit,bne,simprocAttr,-Int.reduceNatCast',ht,e1,e7,e8,e9,c1,hx,hzd,hc,s1,s2,s4,hd,hz,hln,hB,hq,w,List.append_assoc] at he
   subst he
   refine .inr ⟨_,_,rfl,by simp,_,m ++ [.cells cs],rfl,by simp only [length_up,ht],.inr ⟨rfl,?_,hall⟩⟩
   simp only [sT.1,sC.1,sTA.1,sCA.1,noApp,provA,provE,Src.isTmp,provOf,Src.hangs,AOpd.isT,srcOf,lookV,Nat.testBit,bne,simprocAttr,-Int.reduceNatCast',ht]
 ·have c1:ilt (i:Int) (l.length:Int) = false:=iltF (by omega)
  simp only [allBody,sT.1,sC.1,sTA.1,sCA.1,noApp,provA,provE,Src.isTmp,provOf,Src.hangs,AOpd.isT,srcOf,lookV,Nat.testBit,bne,simprocAttr,-Int.reduceNatCast',ht,e8,e9,c1] at he
  subst he
  rw [List.drop_eq_nil_of_le hi] at hall
  exact .inr ⟨_,_,rfl,by simp,_,m,rfl,by simp only [length_up,ht],.inl ⟨rfl,hall⟩⟩
theorem all_ok (hX:X F = none) (hF:T.get F = some (allF k z)) (hz:z.length = k) (hzd:z.map AVal.dim = z) (hs:∀v ∈ l,Shp k (en v)) (hl:l.length ≤ 100000) (hg:∀v ∈ l,∀h,Wd (.fn g [] []) [en v] h = some (.ret (.bool (bf v)),h,false)) (h:List ABox) :
  Wd (.fn F [] []) [.lst (l.map en) .no,.fn g [] []] h = some (.ret (.bool (l.all bf)),h,false):=by
 generalize hw:Wd _ _ h = w
 rw [Wd_fn hX hF] at hw
 simp only [allF,sT.1,sC.1,sTA.1,sCA.1,noApp,provA,provE,Src.isTmp,provOf,Src.hangs,AOpd.isT,srcOf,lookV,Nat.testBit,bne,simprocAttr,-Int.reduceNatCast',List.length_map] at hw
 generalize hr:execW h.length Wd (.loop (allBody k z)) _ = r at hw
 obtain ⟨x,st',rfl,tt,m,rfl,ht,⟨rfl,ha⟩ | ⟨rfl,e4,ha⟩⟩:=known hr (asks_loop hz hzd hs hl hg h l.length _ ⟨_,0,[],by rw [List.append_nil],by simp only [sT.1,sC.1,sTA.1,sCA.1,noApp,provA,provE,Src.isTmp,provOf,Src.hangs,AOpd.isT,srcOf,lookV,Nat.testBit,bne,simprocAttr,-Int.reduceNatCast'],by simp only [sT.1,sC.1,sTA.1,sCA.1,noApp,provA,provE,Src.isTmp,provOf,Src.hangs,AOpd.isT,srcOf,lookV,Nat.testBit,bne,simprocAttr,-Int.reduceNatCast'],by simp only [sT.1,sC.1,sTA.1,sCA.1,noApp,provA,provE,Src.isTmp,provOf,Src.hangs,AOpd.isT,srcOf,lookV,Nat.testBit,bne,simprocAttr,-Int.reduceNatCast'],by simp only [sT.1,sC.1,sTA.1,sCA.1,noApp,provA,provE,Src.isTmp,provOf,Src.hangs,AOpd.isT,srcOf,lookV,Nat.testBit,bne,simprocAttr,-Int.reduceNatCast'],by simp only [sT.1,sC.1,sTA.1,sCA.1,noApp,provA,provE,Src.isTmp,provOf,Src.hangs,AOpd.isT,srcOf,lookV,Nat.testBit,bne,simprocAttr,-Int.reduceNatCast',Int.natCast_zero],by omega,rfl⟩)
 ·simp only [sT.1,sC.1,sTA.1,sCA.1,noApp,provA,provE,Src.isTmp,provOf,Src.hangs,AOpd.isT,srcOf,lookV,Nat.testBit,bne,simprocAttr,-Int.reduceNatCast',ht] at hw
  rw [ha]
  exact hw.symm
 ·simp only [sT.1,sC.1,sTA.1,sCA.1,noApp,provA,provE,Src.isTmp,provOf,Src.hangs,AOpd.isT,srcOf,lookV,Nat.testBit,bne,simprocAttr,-Int.reduceNatCast',ht,e4] at hw
  rw [ha]
  exact hw.symm
end
def ExF (e:Exl):Prop:=∃k,Fit k e
def setB (s:SetD):Bool:=isName s.name && right 20 s.e
def portB (p:PortD):Bool:=isName p.name && tyB 3 p.t
def emitB (x:EmitD):Bool:=((isName x.port && ile (x.ifs.length:Nat) 1) && right 20 x.e) && x.ifs.all (right 20)
def partB (p:PartD):Bool:=isName p.name && isName p.model
def endB (e:EndD):Bool:=isName e.port && (e.part == [] || isName e.part)
def linkB (l:LinkD):Bool:=endB l.frm && endB l.to
def noneB (l:LinkD):Bool:=l.frm.part == [] && (l.frm.port == [] && (l.to.part == [] && l.to.port == []))
def actB (a:ActD):Bool:=bif a.kind == 0 then (isName a.name && isName a.model) && noneB a.link else bif a.kind == 1 then (isName a.name && a.model == []) && noneB a.link else (a.kind == 2 || a.kind == 3) && ((a.name == [] && a.model == []) && linkB a.link)
def ruleB (r:RuleD):Bool:=(ile (r.acts.length:Nat) 5 && right 20 r.e) && r.acts.all actB
section
variable {h:List ABox}
theorem setB_ok {s:SetD} (hf:ExF s.e) (h:List ABox):Wd (.fn 108 [] []) [s.enc] h = some (.ret (.bool (setB s)),h,false):=by
 obtain ⟨nm,e⟩:=s
 have hE:=fun h=>exprs e h hf
 rw [setB]
 simp only at *
 generalize right 20 e = b at *
 rw [SetD.enc]
 obtain ⟨op,n,m2,sb,aS⟩:=e
 rw [exV_mk] at hE
 rw [exC,Wd_fn rfl (show T.get 108 = some c108 by kernel_rfl)]
 cases hn:isName nm <;> simp only [c108,sT.1,sC.1,sTA.1,sCA.1,noApp,provA,provE,Src.isTmp,provOf,Src.hangs,AOpd.isT,srcOf,lookV,Nat.testBit,bne,simprocAttr,-Int.reduceNatCast',isName_ok,hn,hE,Bool.true_and,Bool.false_and]
theorem portB_ok (p:PortD) (h:List ABox):Wd (.fn 78 [] []) [p.enc] h = some (.ret (.bool (portB p)),h,false):=by
 obtain ⟨nm,v⟩:=p
 have hE:=fun h=>TypeRight_ok v h
 rw [portB]
 simp only at *
 generalize tyB 3 v = b at *
 obtain ⟨k,l⟩:=v
 rw [tpV_mk] at hE
 rw [PortD.enc,Tp.enc,show (l.map fun v=>AVal.agg v.enc) = l.map tpV from rfl,Wd_fn rfl (show T.get 78 = some c78 by kernel_rfl)]
 cases hn:isName nm <;> simp only [c78,sT.1,sC.1,sTA.1,sCA.1,noApp,provA,provE,Src.isTmp,provOf,Src.hangs,AOpd.isT,srcOf,lookV,Nat.testBit,bne,simprocAttr,-Int.reduceNatCast',isName_ok,hn,hE,Bool.true_and,Bool.false_and]
theorem exs_ok {l:List Exl} (hl:l.length ≤ 100000) (hf:∀e ∈ l,ExF e) (h:List ABox):Wd (.fn 60 [] []) [.lst (l.map exV) .no,.fn 18 [] []] h = some (.ret (.bool (l.all (right 20))),h,false):=
 all_ok (k:=5) (z:=[.int .i64 0,.int .i64 0,.str [],.str [],.lst [] .full]) rfl (show T.get 60 = _ by kernel_rfl) rfl rfl (fun s _=>ex_shp s) hl (fun s hs h=>exprs s h (hf s hs)) h
theorem emitB_ok {x:EmitD} (hf:ExF x.e) (hl:x.ifs.length ≤ 100000) (hi:∀e ∈ x.ifs,ExF e) (h:List ABox):Wd (.fn 110 [] []) [x.enc] h = some (.ret (.bool (emitB x)),h,false):=by
 obtain ⟨nm,e,l⟩:=x
 have hE:=fun h=>exprs e h hf
 have hA:=fun h=>exs_ok hl hi h
 rw [emitB]
 simp only at *
 generalize right 20 e = b at *
 generalize l.all (right 20) = b2 at *
 rw [EmitD.enc]
 obtain ⟨op,n,m2,sb,aS⟩:=e
 rw [exV_mk] at hE
 rw [exC,Wd_fn rfl (show T.get 110 = some c110 by kernel_rfl)]
 cases hn:isName nm <;> cases hc:ile (l.length:Nat) 1 <;> cases b <;> simp only [c110,sT.1,sC.1,sTA.1,sCA.1,noApp,provA,provE,Src.isTmp,provOf,Src.hangs,AOpd.isT,srcOf,lookV,Nat.testBit,bne,simprocAttr,-Int.reduceNatCast',isName_ok,hn,hc,hE,hA,List.length_map,Bool.true_and,Bool.false_and]
theorem partB_ok (p:PartD) (h:List ABox):Wd (.fn 102 [] []) [p.enc] h = some (.ret (.bool (partB p)),h,false):=by
 rw [partB,PartD.enc,Wd_fn rfl (show T.get 102 = some c102 by kernel_rfl)]
 cases hn:isName p.name <;> simp only [c102,sT.1,sC.1,sTA.1,sCA.1,noApp,provA,provE,Src.isTmp,provOf,Src.hangs,AOpd.isT,srcOf,lookV,Nat.testBit,bne,simprocAttr,-Int.reduceNatCast',isName_ok,hn,Bool.true_and,Bool.false_and]
theorem endB_ok (p:EndD) (h:List ABox):Wd (.fn 136 [] []) [p.enc] h = some (.ret (.bool (endB p)),h,false):=by
 rw [endB,EndD.enc,Wd_fn rfl (show T.get 136 = some c136 by kernel_rfl)]
 cases hn:isName p.port <;> cases hc:p.part == [] <;> simp only [c136,sT.1,sC.1,sTA.1,sCA.1,noApp,provA,provE,Src.isTmp,provOf,Src.hangs,AOpd.isT,srcOf,lookV,Nat.testBit,bne,simprocAttr,-Int.reduceNatCast',isName_ok,hn,hc,Bool.true_and,Bool.false_and,Bool.true_or,Bool.false_or]
theorem linkB_ok (l:LinkD) (h:List ABox):Wd (.fn 104 [] []) [l.enc] h = some (.ret (.bool (linkB l)),h,false):=by
 have h1:=fun h=>endB_ok l.frm h
 have h2:=fun h=>endB_ok l.to h
 rw [linkB,LinkD.enc,Wd_fn rfl (show T.get 104 = some c104 by kernel_rfl)]
 rw [EndD.enc] at h1 h2
 cases hn:endB l.frm <;> rw [hn] at h1 <;> simp only [c104,sT.1,sC.1,sTA.1,sCA.1,noApp,provA,provE,Src.isTmp,provOf,Src.hangs,AOpd.isT,srcOf,lookV,Nat.testBit,bne,simprocAttr,-Int.reduceNatCast',h1,h2,Bool.true_and,Bool.false_and]
end
end Go.Proofs.YtkmlapholimbcaaGreatDoor.AE
namespace Go.Proofs.YtkmlapholimbcaaGreatDoor.AE
open Go.AE
theorem pureV_eqs {base:Nat} {call:AE.Call} {p:Prov} {s:St} (d:Option Nat) (sh:Shape) (n:Bool) (x y:AOpd):runOp base call p d (.eqs sh n x y) s = putV d s ((eqSh sh (ev s.t x) (ev s.t y)).map fun r=>.bool (r != n)):=op_pure _ _ rfl (by simp) (by simp) (by simp)
theorem plain_eqs (sh:Shape) (n:Bool) (x y:AOpd):(AOp.eqs sh n x y).plain = true:=Eq.trans rfl rfl
theorem effs_eqs (sh:Shape) (n:Bool) (x y:AOpd):(AOp.eqs sh n x y).effs = false:=Eq.trans rfl rfl
theorem isApp_eqs (sh:Shape) (n:Bool) (x y:AOpd):(AOp.eqs sh n x y).isApp = false:=Eq.trans rfl rfl
def StrS (s:Str):Prop:=s.length ≤ 9223372036854775807
structure ActS (a:ActD):Prop where
 s1:StrS a.link.frm.part
 s2:StrS a.link.frm.port
 s3:StrS a.link.to.part
 s4:StrS a.link.to.port
theorem eq_link {a b c d:Str} (ha:StrS a) (hb:StrS b) (hc:StrS c) (hd:StrS d):eqSh ⟨true,4,[(0,.s),(1,.s),(2,.s),(3,.s)]⟩ (.agg [.str a,.str b,.str c,.str d]) (.agg [.str [],.str [],.str [],.str []]) = some (a == [] && (b == [] && (c == [] && d == []))):=by
 have h0:Nat.ble 0 9223372036854775807 = true:=rfl
 unfold eqSh
 rw [if_pos]
 ·refine congrArg some ?_
  simp only [AVal.cells,eqCells,List.getElem?_cons_zero,List.getElem?_cons_succ,cellEq]
  cases a == [] <;> cases b == [] <;> cases c == [] <;> cases d == [] <;> rfl
 ·simp only [fitKey,fitSh,List.all_cons,List.all_nil,fitSK,List.getElem?_cons_zero,List.getElem?_cons_succ,ble_true ha,ble_true hb,ble_true hc,ble_true hd,h0,List.length_nil,List.length_cons,Bool.and_self,Bool.and_true]
  rfl
section
variable {h:List ABox}
set_option maxHeartbeats 4000000 in
theorem actB_ok {a:ActD} (hs:ActS a) (h:List ABox):Wd (.fn 138 [] []) [a.enc] h = some (.ret (.bool (actB a)),h,false):=by
 obtain ⟨k,nm,md,l⟩:=a
 have hl:=fun h=>linkB_ok l h
 have he:=eq_link hs.s1 hs.s2 hs.s3 hs.s4
 simp only at he
 rw [actB,ActD.enc,Wd_fn rfl (show T.get 138 = some c138 by kernel_rfl)]
 rw [LinkD.enc] at hl
 rw [noneB]
 simp only
 cases k0:k == 0 with
 | true=>
  cases h1:isName nm <;> cases h2:isName md <;> simp only [c138,sT.1,sC.1,sTA.1,sCA.1,noApp,provA,provE,Src.isTmp,provOf,Src.hangs,AOpd.isT,srcOf,lookV,Nat.testBit,bne,simprocAttr,-Int.reduceNatCast',fillS,plain_eqs,effs_eqs,isApp_eqs,pureV_eqs,he,Option.map_some,Bool.bne_false,Bool.not_not,isName_ok,k0,h1,h2,Bool.true_and,Bool.false_and,cond_true,cond_false]
 | false=>
  cases k1:k == 1 with
  | true=>
   cases h1:isName nm <;> cases h2:md == [] <;> simp only [c138,sT.1,sC.1,sTA.1,sCA.1,noApp,provA,provE,Src.isTmp,provOf,Src.hangs,AOpd.isT,srcOf,lookV,Nat.testBit,bne,simprocAttr,-Int.reduceNatCast',fillS,plain_eqs,effs_eqs,isApp_eqs,pureV_eqs,he,Option.map_some,Bool.bne_false,Bool.not_not,isName_ok,k0,k1,h1,h2,Bool.true_and,Bool.false_and,cond_true,cond_false]
  | false=>
   cases k2:k == 2 with
   | true=>cases h1:nm == [] <;> cases h2:md == [] <;> simp only [c138,sT.1,sC.1,sTA.1,sCA.1,noApp,provA,provE,Src.isTmp,provOf,Src.hangs,AOpd.isT,srcOf,lookV,Nat.testBit,bne,simprocAttr,-Int.reduceNatCast',fillS,plain_eqs,effs_eqs,isApp_eqs,pureV_eqs,he,Option.map_some,Bool.bne_false,Bool.not_not,hl,k0,k1,k2,h1,h2,Bool.true_and,Bool.false_and,Bool.true_or,Bool.or_true,Bool.or_false,Bool.and_false,cond_true,cond_false]
   | false=>
    cases k3:k == 3 with
    | true=>cases h1:nm == [] <;> cases h2:md == [] <;> simp only [c138,sT.1,sC.1,sTA.1,sCA.1,noApp,provA,provE,Src.isTmp,provOf,Src.hangs,AOpd.isT,srcOf,lookV,Nat.testBit,bne,simprocAttr,-Int.reduceNatCast',fillS,plain_eqs,effs_eqs,isApp_eqs,pureV_eqs,he,Option.map_some,Bool.bne_false,Bool.not_not,hl,k0,k1,k2,k3,h1,h2,Bool.true_and,Bool.false_and,Bool.true_or,Bool.or_true,Bool.or_false,Bool.and_false,cond_true,cond_false]
    | false=>simp only [c138,sT.1,sC.1,sTA.1,sCA.1,noApp,provA,provE,Src.isTmp,provOf,Src.hangs,AOpd.isT,srcOf,lookV,Nat.testBit,bne,simprocAttr,-Int.reduceNatCast',fillS,plain_eqs,effs_eqs,isApp_eqs,pureV_eqs,he,Option.map_some,Bool.bne_false,Bool.not_not,hl,k0,k1,k2,k3,Bool.true_and,Bool.false_and,Bool.true_or,Bool.or_true,Bool.or_false,Bool.and_false,cond_true,cond_false]
structure RuleS (r:RuleD):Prop where
 e:ExF r.e
 n:r.acts.length ≤ 100000
 a:∀a ∈ r.acts,ActS a
theorem ruleB_ok {r:RuleD} (hs:RuleS r) (h:List ABox):Wd (.fn 106 [] []) [r.enc] h = some (.ret (.bool (ruleB r)),h,false):=by
 obtain ⟨e,l⟩:=r
 have hE:=fun h=>exprs e h hs.e
 have hA:=fun h=>all_ok (k:=7) (bf:=actB) (F:=137) (g:=138) (z:=[.int .i64 0,.str [],.str [],.str [],.str [],.str [],.str []]) rfl (by kernel_rfl) rfl rfl (fun s _=>act_shp s) hs.n (fun s hm h=>actB_ok (hs.a s hm) h) h
 rw [ruleB]
 simp only at *
 generalize right 20 e = b at *
 generalize l.all actB = b2 at *
 clear hs
 rw [RuleD.enc]
 obtain ⟨op,n,m2,sb,aS⟩:=e
 rw [exV_mk] at hE
 rw [exC,Wd_fn rfl (show T.get 106 = some c106 by kernel_rfl)]
 cases hc:ile (l.length:Nat) 5 <;> cases b <;> simp only [c106,sT.1,sC.1,sTA.1,sCA.1,noApp,provA,provE,Src.isTmp,provOf,Src.hangs,AOpd.isT,srcOf,lookV,Nat.testBit,bne,simprocAttr,-Int.reduceNatCast',hc,hE,hA,List.length_map,Bool.true_and,Bool.false_and]
end
end Go.Proofs.YtkmlapholimbcaaGreatDoor.AE
namespace Go.Proofs.YtkmlapholimbcaaGreatDoor.AE
open Go.AE
def okL (l:List SetD):Bool:=!ilt 10 (l.length:Nat) && l.all setB
def atomB (m:ModelD):Bool:=
 !(ilt 0 (m.parts.length:Nat) || (ilt 0 (m.links.length:Nat) || (ilt 0 (m.rules.length:Nat) || (ilt m.con 0 || ilt 2 m.con)))) && (!(ilt 0 (m.own.length:Nat) && !(m.con == 2)) && (okL m.vars && (okL m.int && (okL m.ext && (okL m.own && ((((m.ta.length:Nat):Int) == 1) && (m.ta.all (right 20) && (ile (m.emits.length:Nat) 8 && m.emits.all emitB))))))))
def coupB (m:ModelD):Bool:=
 !(ilt 0 (m.vars.length:Nat) || (ilt 0 (m.ta.length:Nat) || (ilt 0 (m.emits.length:Nat) || !(m.con == 0)))) && (!(ilt 0 (m.int.length:Nat) || (ilt 0 (m.ext.length:Nat) || ilt 0 (m.own.length:Nat))) && (ile (m.parts.length:Nat) 32 && (m.parts.all partB && (ile (m.links.length:Nat) 200 && (m.links.all linkB && (ile (m.rules.length:Nat) 4 && m.rules.all ruleB))))))
def modelB (m:ModelD):Bool:=!(!isName m.name || (ilt 8 (m.ins.length:Nat) || ilt 8 (m.outs.length:Nat))) && ((m.ins.all portB && m.outs.all portB) && bif m.coupled then coupB m else atomB m)
def progB (p:ProgD):Bool:=ile 1 (p.models.length:Nat) && (ile (p.models.length:Nat) 24 && (isName p.root && p.models.all modelB))
structure EmitS (x:EmitD):Prop where
 e:ExF x.e
 n:x.ifs.length ≤ 100000
 i:∀e ∈ x.ifs,ExF e
structure ModelS (m:ModelD):Prop where
 ins:m.ins.length ≤ 100000
 outs:m.outs.length ≤ 100000
 vars:m.vars.length ≤ 100000∧∀s ∈ m.vars,ExF s.e
 ta:m.ta.length ≤ 100000∧∀e ∈ m.ta,ExF e
 emits:m.emits.length ≤ 100000∧∀s ∈ m.emits,EmitS s
 int:m.int.length ≤ 100000∧∀s ∈ m.int,ExF s.e
 ext:m.ext.length ≤ 100000∧∀s ∈ m.ext,ExF s.e
 own:m.own.length ≤ 100000∧∀s ∈ m.own,ExF s.e
 parts:m.parts.length ≤ 100000
 links:m.links.length ≤ 100000
 rules:m.rules.length ≤ 100000∧∀s ∈ m.rules,RuleS s
theorem list4 (a b c d:List AVal):listV 1 [.lst [] .full] 4 [(0,.lst a .no),(1,.lst b .no),(2,.lst c .no),(3,.lst d .no)] = some (.lst [.lst a .no,.lst b .no,.lst c .no,.lst d .no] .full):=by
 simp [listV,fillS,AVal.cells,AVal.storable,splice,elems,List.range,List.range.loop]
section
variable {h:List ABox}
theorem sets_ok {l:List SetD} (hl:l.length ≤ 100000∧∀s ∈ l,ExF s.e) (h:List ABox):Wd (.fn 107 [] []) [.lst (l.map SetD.enc) .no,.fn 108 [] []] h = some (.ret (.bool (l.all setB)),h,false):=
 all_ok (k:=6) (z:=[.str [],.int .i64 0,.int .i64 0,.str [],.str [],.lst [] .full]) rfl (by kernel_rfl) rfl rfl (fun s _=>set_shp s) hl.1 (fun s hs h=>setB_ok (hl.2 s hs) h) h
theorem ports_ok {l:List PortD} (hl:l.length ≤ 100000) (h:List ABox):Wd (.fn 77 [] []) [.lst (l.map PortD.enc) .no,.fn 78 [] []] h = some (.ret (.bool (l.all portB)),h,false):=
 all_ok (k:=3) (z:=[.str [],.int .i64 0,.lst [] .full]) rfl (by kernel_rfl) rfl rfl (fun s _=>port_shp s) hl (fun s _ h=>portB_ok s h) h
theorem emits_ok {l:List EmitD} (hl:l.length ≤ 100000∧∀s ∈ l,EmitS s) (h:List ABox):Wd (.fn 109 [] []) [.lst (l.map EmitD.enc) .no,.fn 110 [] []] h = some (.ret (.bool (l.all emitB)),h,false):=
 all_ok (k:=7) (z:=[.str [],.int .i64 0,.int .i64 0,.str [],.str [],.lst [] .full,.lst [] .full]) rfl (by kernel_rfl) rfl rfl (fun s _=>emit_shp s) hl.1 (fun s hs h=>emitB_ok (hl.2 s hs).e (hl.2 s hs).n (hl.2 s hs).i h) h
theorem parts_ok {l:List PartD} (hl:l.length ≤ 100000) (h:List ABox):Wd (.fn 101 [] []) [.lst (l.map PartD.enc) .no,.fn 102 [] []] h = some (.ret (.bool (l.all partB)),h,false):=
 all_ok (k:=2) (z:=[.str [],.str []]) rfl (by kernel_rfl) rfl rfl (fun s _=>part_shp s) hl (fun s _ h=>partB_ok s h) h
theorem links_ok {l:List LinkD} (hl:l.length ≤ 100000) (h:List ABox):Wd (.fn 103 [] []) [.lst (l.map LinkD.enc) .no,.fn 104 [] []] h = some (.ret (.bool (l.all linkB)),h,false):=
 all_ok (k:=4) (z:=[.str [],.str [],.str [],.str []]) rfl (by kernel_rfl) rfl rfl (fun s _=>link_shp s) hl (fun s _ h=>linkB_ok s h) h
theorem rules_ok {l:List RuleD} (hl:l.length ≤ 100000∧∀s ∈ l,RuleS s) (h:List ABox):Wd (.fn 105 [] []) [.lst (l.map RuleD.enc) .no,.fn 106 [] []] h = some (.ret (.bool (l.all ruleB)),h,false):=
 all_ok (k:=6) (z:=[.int .i64 0,.int .i64 0,.str [],.str [],.lst [] .full,.lst [] .full]) rfl (by kernel_rfl) rfl rfl (fun s _=>rule_shp s) hl.1 (fun s hs h=>ruleB_ok (hl.2 s hs) h) h
set_option maxHeartbeats 4000000 in
theorem coupB_ok {m:ModelD} (hm:ModelS m) (h:List ABox):Wd (.fn 79 [] []) [m.enc] h = some (.ret (.bool (coupB m)),h,false):=by
 have a1:=fun h=>parts_ok hm.parts h
 have a2:=fun h=>links_ok hm.links h
 have a3:=fun h=>rules_ok hm.rules h
 clear hm
 obtain ⟨nm,cp,ins,outs,vars,ta,emits,int,ext,con,own,parts,links,rules⟩:=m
 rw [coupB,ModelD.enc,ModelD.cs,Wd_fn rfl (show T.get 79 = some c79 by kernel_rfl)]
 simp only at *
 cases c1:(ilt 0 (vars.length:Nat) || (ilt 0 (ta.length:Nat) || (ilt 0 (emits.length:Nat) || !(con == 0)))) with
 | true=>simp only [c79,sT.1,sC.1,sTA.1,sCA.1,noApp,provA,provE,Src.isTmp,provOf,Src.hangs,AOpd.isT,srcOf,lookV,Nat.testBit,bne,simprocAttr,-Int.reduceNatCast',List.length_map,Bool.or_assoc,c1,Bool.not_true,Bool.false_and]
 | false=>
  cases c2:(ilt 0 (int.length:Nat) || (ilt 0 (ext.length:Nat) || ilt 0 (own.length:Nat))) with
  | true=>simp only [c79,sT.1,sC.1,sTA.1,sCA.1,noApp,provA,provE,Src.isTmp,provOf,Src.hangs,AOpd.isT,srcOf,lookV,Nat.testBit,bne,simprocAttr,-Int.reduceNatCast',List.length_map,Bool.or_assoc,c1,c2,Bool.not_true,Bool.not_false,Bool.false_and,Bool.true_and]
  | false=>
   cases d1:ile (parts.length:Nat) 32 <;> cases d2:parts.all partB <;> cases d3:ile (links.length:Nat) 200 <;> cases d4:links.all linkB <;> cases d5:ile (rules.length:Nat) 4 <;> rw [d2] at a1 <;> rw [d4] at a2 <;> simp only [c79,sT.1,sC.1,sTA.1,sCA.1,noApp,provA,provE,Src.isTmp,provOf,Src.hangs,AOpd.isT,srcOf,lookV,Nat.testBit,bne,simprocAttr,-Int.reduceNatCast',List.length_map,Bool.or_assoc,c1,c2,d1,d3,d5,a1,a2,a3,Bool.not_true,Bool.not_false,Bool.false_and,Bool.true_and]
set_option maxHeartbeats 8000000 in
theorem atomB_ok {m:ModelD} (hm:ModelS m) (h:List ABox):Wd (.fn 80 [] []) [m.enc] h = some (.ret (.bool (atomB m)),h,false):=by
 have a1:=fun h=>sets_ok hm.vars h
 have a2:=fun h=>sets_ok hm.int h
 have a3:=fun h=>sets_ok hm.ext h
 have a4:=fun h=>sets_ok hm.own h
 have aT:=fun h=>exs_ok hm.ta.1 hm.ta.2 h
 have aE:=fun h=>emits_ok hm.emits h
 clear hm
 obtain ⟨nm,cp,ins,outs,vars,ta,emits,int,ext,con,own,parts,links,rules⟩:=m
 rw [atomB,okL,okL,okL,okL,ModelD.enc,ModelD.cs,Wd_fn rfl (show T.get 80 = some c80 by kernel_rfl)]
 simp only at *
 have i0:=ixaV_get (k:=1) (f:=.full) (j:=.i64) (n:=0) (xs:=[.lst (vars.map SetD.enc) .no,.lst (int.map SetD.enc) .no,.lst (ext.map SetD.enc) .no,.lst (own.map SetD.enc) .no]) rfl rfl
 have i1:=ixaV_get (k:=1) (f:=.full) (j:=.i64) (n:=1) (xs:=[.lst (vars.map SetD.enc) .no,.lst (int.map SetD.enc) .no,.lst (ext.map SetD.enc) .no,.lst (own.map SetD.enc) .no]) rfl rfl
 have i2:=ixaV_get (k:=1) (f:=.full) (j:=.i64) (n:=2) (xs:=[.lst (vars.map SetD.enc) .no,.lst (int.map SetD.enc) .no,.lst (ext.map SetD.enc) .no,.lst (own.map SetD.enc) .no]) rfl rfl
 have i3:=ixaV_get (k:=1) (f:=.full) (j:=.i64) (n:=3) (xs:=[.lst (vars.map SetD.enc) .no,.lst (int.map SetD.enc) .no,.lst (ext.map SetD.enc) .no,.lst (own.map SetD.enc) .no]) rfl rfl
 have n0:((0:Nat):Int) = 0:=rfl
 have n1:((1:Nat):Int) = 1:=rfl
 have n2:((2:Nat):Int) = 2:=rfl
 have n3:((3:Nat):Int) = 3:=rfl
 have n4:((4:Nat):Int) = 4:=rfl
 rw [n0] at i0
 rw [n1] at i1
 rw [n2] at i2
 rw [n3] at i3
 have l0:ilt 0 4 = true:=by kernel_rfl
 have l1:ilt 1 4 = true:=by kernel_rfl
 have l2:ilt 2 4 = true:=by kernel_rfl
 have l3:ilt 3 4 = true:=by kernel_rfl
 have l4:ilt 4 4 = false:=by kernel_rfl
 have w0:IntKind.i64.wrap 1 = 1:=by kernel_rfl
 have w1:IntKind.i64.wrap 2 = 2:=by kernel_rfl
 have w2:IntKind.i64.wrap 3 = 3:=by kernel_rfl
 have w3:IntKind.i64.wrap 4 = 4:=by kernel_rfl
 cases c1:(ilt 0 (parts.length:Nat) || (ilt 0 (links.length:Nat) || (ilt 0 (rules.length:Nat) || (ilt con 0 || ilt 2 con)))) with
 | true=>simp only [c80,sT.1,sC.1,sTA.1,sCA.1,noApp,provA,provE,Src.isTmp,provOf,Src.hangs,AOpd.isT,srcOf,lookV,Nat.testBit,bne,simprocAttr,-Int.reduceNatCast',List.length_map,Bool.or_assoc,c1,Bool.not_true,Bool.false_and]
 | false=>
  cases c2:(ilt 0 (own.length:Nat) && !(con == 2)) with
  | true=>simp only [c80,sT.1,sC.1,sTA.1,sCA.1,noApp,provA,provE,Src.isTmp,provOf,Src.hangs,AOpd.isT,srcOf,lookV,Nat.testBit,bne,simprocAttr,-Int.reduceNatCast',List.length_map,Bool.or_assoc,c1,c2,Bool.not_true,Bool.not_false,Bool.false_and,Bool.true_and]
  | false=>
   cases b1:ilt 10 (vars.length:Nat) <;> cases v1:vars.all setB <;> rw [v1] at a1 <;> try (simp only [c80,l80_0,sT.1,sC.1,sTA.1,sCA.1,noApp,provA,provE,Src.isTmp,provOf,Src.hangs,AOpd.isT,srcOf,lookV,Nat.testBit,bne,simprocAttr,-Int.reduceNatCast',execW_loop,list4,List.length_map,Bool.or_assoc,c1,c2,b1,a1,i0,n0,n1,n2,n3,n4,l0,l1,l2,l3,l4,w0,w1,w2,w3,Bool.not_true,Bool.not_false,Bool.false_and,Bool.true_and,Bool.and_false];done)
   cases b2:ilt 10 (int.length:Nat) <;> cases v2:int.all setB <;> rw [v2] at a2 <;> try (simp only [c80,l80_0,sT.1,sC.1,sTA.1,sCA.1,noApp,provA,provE,Src.isTmp,provOf,Src.hangs,AOpd.isT,srcOf,lookV,Nat.testBit,bne,simprocAttr,-Int.reduceNatCast',execW_loop,list4,List.length_map,Bool.or_assoc,c1,c2,b1,a1,b2,a2,i0,i1,n0,n1,n2,n3,n4,l0,l1,l2,l3,l4,w0,w1,w2,w3,Bool.not_true,Bool.not_false,Bool.false_and,Bool.true_and,Bool.and_false];done)
   cases b3:ilt 10 (ext.length:Nat) <;> cases v3:ext.all setB <;> rw [v3] at a3 <;> try (simp only [c80,l80_0,sT.1,sC.1,sTA.1,sCA.1,noApp,provA,provE,Src.isTmp,provOf,Src.hangs,AOpd.isT,srcOf,lookV,Nat.testBit,bne,simprocAttr,-Int.reduceNatCast',execW_loop,list4,List.length_map,Bool.or_assoc,c1,c2,b1,a1,b2,a2,b3,a3,i0,i1,i2,n0,n1,n2,n3,n4,l0,l1,l2,l3,l4,w0,w1,w2,w3,Bool.not_true,Bool.not_false,Bool.false_and,Bool.true_and,Bool.and_false];done)
   cases b4:ilt 10 (own.length:Nat) <;> cases v4:own.all setB <;> rw [v4] at a4 <;> try (simp only [c80,l80_0,sT.1,sC.1,sTA.1,sCA.1,noApp,provA,provE,Src.isTmp,provOf,Src.hangs,AOpd.isT,srcOf,lookV,Nat.testBit,bne,simprocAttr,-Int.reduceNatCast',execW_loop,list4,List.length_map,Bool.or_assoc,c1,c2,b1,a1,b2,a2,b3,a3,b4,a4,i0,i1,i2,i3,n0,n1,n2,n3,n4,l0,l1,l2,l3,l4,w0,w1,w2,w3,Bool.not_true,Bool.not_false,Bool.false_and,Bool.true_and,Bool.and_false];done)
   cases d1:((ta.length:Nat):Int) == 1 <;> cases d2:ta.all (right 20) <;> cases d3:ile (emits.length:Nat) 8 <;> rw [d2] at aT <;> simp only [c80,l80_0,sT.1,sC.1,sTA.1,sCA.1,noApp,provA,provE,Src.isTmp,provOf,Src.hangs,AOpd.isT,srcOf,lookV,Nat.testBit,bne,simprocAttr,-Int.reduceNatCast',execW_loop,list4,List.length_map,Bool.or_assoc,c1,c2,b1,a1,b2,a2,b3,a3,b4,a4,aT,aE,d1,d3,i0,i1,i2,i3,n0,n1,n2,n3,n4,l0,l1,l2,l3,l4,w0,w1,w2,w3,Bool.not_true,Bool.not_false,Bool.false_and,Bool.true_and,Bool.and_false]
set_option maxHeartbeats 4000000 in
theorem modelB_ok {m:ModelD} (hm:ModelS m) (h:List ABox):Wd (.fn 48 [] []) [m.enc] h = some (.ret (.bool (modelB m)),h,false):=by
 have a1:=fun h=>ports_ok hm.ins h
 have a2:=fun h=>ports_ok hm.outs h
 have a3:=fun h=>coupB_ok hm h
 have a4:=fun h=>atomB_ok hm h
 clear hm
 rw [modelB]
 generalize coupB m = bc at *
 generalize atomB m = ba at *
 obtain ⟨nm,cp,ins,outs,vars,ta,emits,int,ext,con,own,parts,links,rules⟩:=m
 rw [ModelD.enc,ModelD.cs] at *
 rw [Wd_fn rfl (show T.get 48 = some c48 by kernel_rfl)]
 simp only at *
 cases c1:(!isName nm || (ilt 8 (ins.length:Nat) || ilt 8 (outs.length:Nat))) with
 | true=>simp only [c48,sT.1,sC.1,sTA.1,sCA.1,noApp,provA,provE,Src.isTmp,provOf,Src.hangs,AOpd.isT,srcOf,lookV,Nat.testBit,bne,simprocAttr,-Int.reduceNatCast',isName_ok,List.length_map,Bool.or_assoc,c1,Bool.not_true,Bool.false_and]
 | false=>
  cases v1:ins.all portB <;> rw [v1] at a1 <;> cases v2:outs.all portB <;> rw [v2] at a2 <;> cases cp <;> simp only [c48,sT.1,sC.1,sTA.1,sCA.1,noApp,provA,provE,Src.isTmp,provOf,Src.hangs,AOpd.isT,srcOf,lookV,Nat.testBit,bne,simprocAttr,-Int.reduceNatCast',isName_ok,List.length_map,Bool.or_assoc,c1,a1,a2,a3,a4,Bool.not_true,Bool.not_false,Bool.false_and,Bool.true_and,Bool.and_false,cond_true,cond_false]
theorem progB_ok {p:ProgD} (hl:p.models.length ≤ 100000) (hm:∀m ∈ p.models,ModelS m) (h:List ABox):Wd (.fn 29 [] []) [p.enc] h = some (.ret (.bool (progB p)),h,false):=by
 have a1:=fun h=>all_ok (k:=14) (en:=ModelD.enc) (l:=p.models) (bf:=modelB) (F:=47) (g:=48) (z:=[.str [],.bool false,.lst [] .full,.lst [] .full,.lst [] .full,.lst [] .full,.lst [] .full,.lst [] .full,.lst [] .full,.int .i64 0,.lst [] .full,.lst [] .full,.lst [] .full,.lst [] .full]) rfl (by kernel_rfl) rfl rfl (fun s _=>shp_cs rfl rfl rfl) hl (fun s hs h=>modelB_ok (hm s hs) h) h
 rw [progB]
 obtain ⟨l,r⟩:=p
 rw [ProgD.enc,ProgD.cs]
 simp only at *
 generalize l.all modelB = b at *
 rw [Wd_fn rfl (show T.get 29 = some c29 by kernel_rfl)]
 cases c1:ile 1 (l.length:Nat) <;> cases c2:ile (l.length:Nat) 24 <;> cases c3:isName r <;> simp only [c29,sT.1,sC.1,sTA.1,sCA.1,noApp,provA,provE,Src.isTmp,provOf,Src.hangs,AOpd.isT,srcOf,lookV,Nat.testBit,bne,simprocAttr,-Int.reduceNatCast',isName_ok,List.length_map,c1,c2,c3,a1,Bool.not_true,Bool.not_false,Bool.false_and,Bool.true_and,Bool.and_false]
end
end Go.Proofs.YtkmlapholimbcaaGreatDoor.AE
