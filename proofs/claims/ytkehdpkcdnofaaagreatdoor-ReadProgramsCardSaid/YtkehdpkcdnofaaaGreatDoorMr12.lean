/- A part of the proof. No condition. -/
import Derived.Test.YtkehdpkcdnofaaaGreatDoorMr11
set_option maxRecDepth 100000
set_option maxHeartbeats 0
open List renaming take_append_of_le_length→jS,take_set_of_le→jT,drop_eq_getElem_cons→jU,getElem?_eq_getElem→jh,length_map→jQ,getElem?_map→jr
open Int renaming natCast_zero→jR
open Nat renaming le_trans→jn
open Bool renaming true_and→j0,false_and→jL,or_false→jM,false_or→jN
namespace Go.Proofs.YtkehdpkcdnofaaaGreatDoor.AE
open Go.AE
theorem qDt:qC [97,116,111,109,105,99] = true:=zk
theorem qDu:qC [99,111,117,112,108,101,100] = true:=zk
theorem qDv:qC [114,111,111,116] = true:=zk
theorem qDw:qC [105,110] = true:=zk
theorem qDx:qC [111,117,116] = true:=zk
theorem qDy:qC [118,97,114] = true:=zk
theorem qDz:qC [116,97] = true:=zk
theorem qDA:qC [101,109,105,116] = true:=zk
theorem qDB:qC [105,110,116] = true:=zk
theorem qDC:qC [98,111,111,108] = true:=zk
theorem qAJ:qC [115,121,109] = true:=zk
theorem qAK:qC [101,120,116] = true:=zk
theorem qAL:qC [99,111,110] = true:=zk
theorem qAM:qC [112,97,114,116] = true:=zk
theorem qAN:qC [108,105,110,107] = true:=zk
theorem qAO:qC [114,117,108,101] = true:=zk
theorem qAP:qC [97,100,100] = true:=zk
theorem qAQ:qC [100,114,111,112] = true:=zk
theorem qAR:qC [116,105,101] = true:=zk
theorem qAS:qC [99,117,116] = true:=zk
theorem qAT:qC [105,102] = true:=zk
theorem qAU:qC [116,104,101,110] = true:=zk
theorem qAV:qC [101,108,115,101] = true:=zk
theorem qAW:qC [97,110,100] = true:=zk
theorem qAX:qC [111,114] = true:=zk
theorem qAY:qC [110,111,116] = true:=zk
theorem qAZ:qC [116,114,117,101] = true:=zk
theorem qA0:qC [102,97,108,115,101] = true:=zk
theorem qA1:qC [99,111,117,110,116] = true:=zk
theorem qA2:qC [104,97,115] = true:=zk
theorem qA3:qC [115,117,109] = true:=zk
theorem qA4:qC [108,101,97,115,116] = true:=zk
theorem qA5:qC [101,108,97,112,115,101,100] = true:=zk
theorem qA6:qC [45,62] = true:=zk
theorem qA7:qC [60,61] = true:=zk
theorem qA8:qC [123] = true:=zk
theorem qA9:qC [125] = true:=zk
theorem qBa:qC [40] = true:=zk
theorem qBb:qC [41] = true:=zk
theorem qBc:qC [44] = true:=zk
theorem qBd:qC [59] = true:=zk
theorem qBe:qC [58] = true:=zk
theorem qBf:qC [46] = true:=zk
theorem qBg:qC [61] = true:=zk
theorem qBh:qC [60] = true:=zk
theorem qBi:qC [43] = true:=zk
theorem qBj:qC [45] = true:=zk
theorem qBk:qC [42] = true:=zk
theorem qBl:qC [47] = true:=zk
theorem qBm:qC [37] = true:=zk
def qcE:=PLift.up (qq (qq (qq (qq (qq qDt (qq qDu qDv)) (qq qDw (qq qDx qDy))) (qq (qq qDz (qq qDA qDB)) (qq qDC (qq qAJ qAK)))) (qq (qq (qq qAL (qq qAM qAN)) (qq qAO (qq qAP qAQ))) (qq (qq qAR (qq qAS qAT)) (qq (qq qAU qAV) (qq qAW qAX))))) (qq (qq (qq (qq qAY (qq qAZ qA0)) (qq qA1 (qq qA2 qA3))) (qq (qq qA4 (qq qA5 qA6)) (qq qA7 (qq qA8 qA9)))) (qq (qq (qq qBa (qq qBb qBc)) (qq qBd (qq qBe qBf))) (qq (qq qBg (qq qBh qBi)) (qq (qq qBj qBk) (qq qBl qBm))))))
def qfm (ws:List Tok):Nat->List Str->Nat×Bool
 | n,[]=>(n,true)
 | n,s :: r=>bif isW ws n s then qfm ws (n + 1) r else (n,false)
def qkI:qk:=.cells [.int .i64 0,.int .i64 0]
theorem qcR:qkI = .cells [.int .i64 0,.int .i64 0]:=Eq.trans rfl rfl
section
variable {ws:List Tok}
def qqE (h:List qk) (ws:List Tok) (w:Nat×Bool) (R:Option (Ex×St)):Prop:=
 (w.2 = true/\∃tt,R = some (.exit 0,⟨tt,h ++ [qkI],false⟩)/\tt.length = 31/\lkp tt 1 = .int .i64 (w.1:Nat)/\lkp tt 7 = .ptr h.length 0)\/
 (w.2 = false/\∃tt,R = some (.ret,⟨tt,h ++ [.cells [.int .i64 (word ws w.1).pos,.int .i64 6]],false⟩)/\tt.length = 31/\lkp tt 6 = .int .i64 (w.1:Nat)/\lkp tt 7 = .ptr h.length 0)
theorem quy (hw:WF ws) (hk:KOK ws) {h:List qk} {all:List Str} (hl:all.length <= 1000):∀(r:List Str) (i n:Nat) (tt:List qd),all.drop i = r->(∀s ∈ r,qC s = true)->n < ws.length->tt.length = 31->lkp tt 0 = .lst (ws.map Tok.enc) .no->lkp tt 1 = .int .i64 (n:Nat)->lkp tt 2 = .lst (all.map qd.str) .full->lkp tt 7 = .ptr h.length 0->lkp tt 8 = .int .i64 (i:Nat)->
  qqE h ws (qfm ws n r) (qg h.length Wd (.loop qmI) ⟨tt,h ++ [qkI],false⟩):=by
 intro r
 induction r with
 | nil=>
  intro i n tt hd ha hn ht e0 e1 e2 e7 e8
  have hi:all.length <= i:=List.drop_eq_nil_iff.1 hd
  have c1:ilt (i:Int) ((all.map qd.str).length:Int) = false:=by rw [qD];simp;omega
  rw [qh]
  simp only [sB.1,qmI,seval,ht,e2,e8,c1]
  refine .inl ⟨rfl,_,rfl,Y0,?_,?_⟩
  ·simp only [sB.1,seval,e1,qfm]
  ·simp only [sB.1,seval,e7]
 | cons s r ih=>
  intro i n tt hd ha hn ht e0 e1 e2 e7 e8
  have hi:i < all.length:=by
   rcases Nat.lt_or_ge i all.length with h | h
   ·exact h
   ·rw [List.drop_eq_nil_of_le h] at hd;cases hd
  have hs:all[i] = s:=by rw [jU hi] at hd;injection hd
  have hr:all.drop (i + 1) = r:=by rw [jU hi] at hd;injection hd
  have c1:ilt (i:Int) ((all.map qd.str).length:Int) = true:=by rw [qD];simp;omega
  have hx:qeQ 1 (.lst (all.map qd.str) .full) (.int .i64 (i:Nat)) = some (.iptr [.str s] 0):=qbG (x:=.str s) (by rw [jr,jh hi,hs];rfl) rfl
  have has:=ha s (by simp)
  have w1:=qo (n:=n) (by have:=hw.len;omega)
  have w2:=qo (n:=i) zo
  rw [qh]
  generalize he:qg h.length Wd qmI _ = R
  cases hb:isW ws n s with
  | true=>
   have n1:=qi hw hn hb
   simp only [sB.1,qmI,seval,ht,e0,e1,e2,e8,c1,hx,qaO hn hk has,hb,w1,w2] at he
   subst he
   rw [qfm,hb,cond_true]
   refine ih (i + 1) (n + 1) _ hr (λx hx=>ha x (List.mem_cons_of_mem _ hx)) n1 ?_ ?_ ?_ ?_ ?_ ?_
   all_goals simp only [sB.1,seval,ht,e0,e2,e7]
  | false=>
   simp only [sB.1,qmI,seval,ht,e0,e1,e2,e7,e8,c1,hx,qaO hn hk has,hb,qdh hn,qcR,qbk] at he
   subst he
   rw [qfm,hb,cond_false]
   refine .inr ⟨rfl,_,rfl,Y0,?_,?_⟩
   ·simp only [sB.1,seval,ht]
   ·simp only [sB.1,seval,e7]
theorem qhD (hw:WF ws) (hk:KOK ws) {n:Nat} (hn:n < ws.length) {all:List Str} (hl:all.length <= 1000) (ha:∀s ∈ all,qC s = true) (h:List qk):Wd (.fn 15 [] []) [.lst (ws.map Tok.enc) .no,.int .i64 (n:Nat),.lst (all.map qd.str) .full] h =
  some (.ret (.tup [.int .i64 ((qfm ws n all).1:Nat),bif (qfm ws n all).2 then qby 0 0 else qby (word ws (qfm ws n all).1).pos 6]),h,false):=by
 rw [qu 15 c15]
 generalize hR:qbS _ h _ = R
 simp only [sB.1,c15,seval] at hR
 generalize hr:qg h.length Wd (.loop qmI) _ = r at hR
 have q:qqE h ws (qfm ws n all) r:=by
  rw [<-hr]
  refine quy hw hk hl all 0 n _ rfl ha hn ?_ ?_ ?_ ?_ ?_ ?_
  all_goals simp only [sB.1,seval,jR]
 rw [<-hR]
 rcases q with ⟨q,tt,rfl,ht,e1,e7⟩ | ⟨q,tt,rfl,ht,e6,e7⟩
 ·simp only [sB.1,seval,ht,e1,e7,qcR,qr,q,qbk]
 ·simp only [sB.1,seval,e6,e7,q,qbk]
theorem qaB (hw:WF ws) (hk:KOK ws) {n:Nat} (hn:n < ws.length) {s:Str} (ha:qC s = true) (hs:isW ws n s = true) (h:List qk):Wd (.fn 15 [] []) [.lst (ws.map Tok.enc) .no,.int .i64 (n:Nat),.lst [.str s] .full] h = some (.ret (.tup [.int .i64 (n + 1:Nat),qby 0 0]),h,false):=by
 have:=qhD hw hk hn (all:=[s]) (by simp) (by simpa using ha) h
 simpa only [List.map_cons,List.map_nil,qfm,hs,cond_true] using this
theorem qdN (hw:WF ws) (hk:KOK ws) {n:Nat} (hn:n < ws.length) {s:Str} (ha:qC s = true) (hs:isW ws n s = false) (h:List qk):Wd (.fn 15 [] []) [.lst (ws.map Tok.enc) .no,.int .i64 (n:Nat),.lst [.str s] .full] h = some (.ret (.tup [.int .i64 (n:Nat),qby (word ws n).pos 6]),h,false):=by
 have:=qhD hw hk hn (all:=[s]) (by simp) (by simpa using ha) h
 simpa only [List.map_cons,List.map_nil,qfm,hs,cond_false] using this
end
theorem qgo {d:Nat}:∀{es:List Exp},qaD es <= d->∀e ∈ es,e.depth <= d
 | [],_,e,he=>by cases he
 | x :: es,h,e,he=>by
  simp only [qaD] at h
  rcases List.mem_cons.1 he with rfl | he
  ·omega
  ·exact qgo zo e he
theorem qtg {φ:Int->Nat->Bool} {h:List qk} {op n:Int} {name sub:Str} {args:List Exp} {b:Bool} {room:Nat} (hr:1 <= room) (Y:room <= 1000) (hl:args.length <= 100000) (hd:qaD args <= 1000)
  (ih:∀e ∈ args,∀h,Wd (.fn 128 [] []) [e.enc φ,.int .i64 ((room - 1:Nat):Int)] h = some (.ret (.int .i64 (e.depth:Nat)),h,false)) :
  ∀(k i:Nat) (tt:List qd),i + k = args.length->tt.length = 33->lkp tt 1 = .int .i64 (room:Nat)->lkp tt 2 = .ptr h.length 0->lkp tt 5 = .int .i64 (qaD (args.take i):Nat)->lkp tt 6 = .int .i64 (i:Nat)->
  ∃E,qg h.length Wd (.loop qin) ⟨tt,h ++ [.cells [.int .i64 op,.int .i64 n,.str name,.str sub,.lst (qaE φ args) (fl b)]],false⟩ = some (.exit 0,⟨E,h ++ [.cells [.int .i64 op,.int .i64 n,.str name,.str sub,.lst (qaE φ args) (fl b)]],false⟩)/\E.length = 33/\lkp E 5 = .int .i64 (qaD args:Nat):=by
 intro k
 induction k with
 | zero=>
  intro i tt hk ht e1 e2 e5 e6
  have c1:ilt (i:Int) ((qaE φ args).length:Int) = false:=by rw [qD,qbw];simp;omega
  rw [List.take_of_length_le zo] at e5
  rw [qh]
  simp only [sB.1,qin,seval,ht,e2,e6,qp,c1]
  exact ⟨_,rfl,Y0,by simp only [sB.1,seval,e5]⟩
 | succ k I=>
  intro i tt hk ht e1 e2 e5 e6
  have hi:i < args.length:=zo
  have c1:ilt (i:Int) ((qaE φ args).length:Int) = true:=by rw [qD,qbw];simp;omega
  have hx:qeQ 5 (.lst (qaE φ args) (fl b)) (.int .i64 (i:Nat)) = some (.iptr (args[i].cs φ) 0):=qbG (x:=args[i].enc φ) (by rw [qdB,jr,jh hi];rfl) (Exp.cs_len φ _)
  have w1:IntKind.i64.wrap ((room:Int) - 1) = ((room - 1:Nat):Int):=by rw [qcb zo zo];omega
  have w2:=qo (n:=i) zo
  have hc:=ih args[i] (List.getElem_mem hi)
  have U:qaD (args.take (i + 1)) = max (qaD (args.take i)) args[i].depth:=by
   rw [List.take_add_one,jh hi,Option.toList_some,qes]
   simp [qaD]
  rw [qh]
  generalize he:qg h.length Wd qin _ = R
  cases c3:ilt (qaD (args.take i):Int) (args[i].depth:Int) with
  | true=>
   have:max (qaD (args.take i)) args[i].depth = args[i].depth:=by rw [qD,decide_eq_true_eq] at c3;omega
   simp only [sB.1,qin,seval,ht,e1,e2,e5,e6,qp,c1,hx,Exp.cut,Exp.dimE,hc,w1,w2,c3] at he
   subst he
   refine I (i + 1) _ zo ?_ ?_ ?_ ?_ ?_
   all_goals simp only [sB.1,seval,ht,e1,e2,U,this]
  | false=>
   have:max (qaD (args.take i)) args[i].depth = qaD (args.take i):=by rw [qD,decide_eq_false_iff_not] at c3;omega
   simp only [sB.1,qin,seval,ht,e1,e2,e5,e6,qp,c1,hx,Exp.cut,Exp.dimE,hc,w1,w2,c3] at he
   subst he
   refine I (i + 1) _ zo ?_ ?_ ?_ ?_ ?_
   all_goals simp only [sB.1,seval,ht,e1,e2,e5,U,this]
def Exp.small:Exp->Prop
 | .mk _ _ _ _ args=>args.length <= 100000/\smalls args
 where smalls:List Exp->Prop
 | []=>True
 | e :: es=>e.small/\smalls es
theorem qhn:∀{es:List Exp},Exp.small.smalls es->∀e ∈ es,e.small
 | [],_,e,he=>by cases he
 | x :: es,h,e,he=>by
  rw [Exp.small.smalls] at h
  rcases List.mem_cons.1 he with rfl | he
  ·exact h.1
  ·exact qhn h.2 e he
theorem qzn {φ:Int->Nat->Bool}:∀(d:Nat) (e:Exp),e.depth <= d->e.small->∀(room:Nat),e.depth <= room->room <= 1000->∀h,Wd (.fn 128 [] []) [e.enc φ,.int .i64 (room:Nat)] h = some (.ret (.int .i64 (e.depth:Nat)),h,false):=by
 intro d
 induction d with
 | zero=>rintro ⟨op,n,name,sub,args⟩ hd;simp [Exp.depth] at hd
 | succ d ih=>
  rintro ⟨op,n,name,sub,args⟩ hd hs room hr E h
  simp only [Exp.depth] at hd hr
  rw [Exp.small] at hs
  have c1:((room:Int) == 0) = false:=by simp;omega
  have hm:∀e ∈ args,∀h,Wd (.fn 128 [] []) [e.enc φ,.int .i64 ((room - 1:Nat):Int)] h = some (.ret (.int .i64 (e.depth:Nat)),h,false):=λe he h=>by
   have h1:=qgo (d:=d) (es:=args) zo e he
   have h2:=qgo (d:=room - 1) (es:=args) zo e he
   exact ih e h1 (qhn hs.2 e he) (room - 1) h2 zo h
  have c2:ile 1001 (qaD args:Int) = false:=by rw [qdF];simp;omega
  have w1:=qo (n:=qaD args) zo
  rw [qu 128 qC9]
  generalize hR:qbS _ h _ = R
  simp only [sB.1,qC9,seval,Exp.enc,Exp.cs,qp,c1] at hR
  generalize hq:qg h.length Wd (.loop qin) _ = r at hR
  obtain ⟨tt,rfl,ht,e5⟩ :∃tt,r = some (.exit 0,⟨tt,h ++ [.cells [.int .i64 op,.int .i64 n,.str name,.str sub,.lst (qaE φ args) (fl (φ op args.length))]],false⟩)/\tt.length = 33/\lkp tt 5 = .int .i64 (qaD args:Nat):=by
   rw [<-hq]
   refine qtg zo E hs.1 zo hm args.length 0 _ zo ?_ ?_ ?_ ?_ ?_
   all_goals simp only [sB.1,seval,qaD,jR]
  rw [<-hR]
  simp only [sB.1,seval,ht,e5,c2,w1,Exp.depth]
theorem qxV {φ:Int->Nat->Bool} {e:Exp} (hd:e.depth <= 1000) (hs:e.small) (h:List qk):Wd (.fn 121 [] []) [e.enc φ] h = some (.ret (.int .i64 (e.depth:Nat)),h,false):=by
 have hn:=qzn (φ:=φ) _ e (Nat.le_refl _) hs 1000 hd (Nat.le_refl _)
 rw [show ((1000:Nat):Int) = 1000 from rfl] at hn
 rw [qu 121 qC7]
 simp only [sB.1,qC7,seval,Exp.dimE,Exp.cellsE,Exp.dims,Exp.cs_len,Exp.stor,Exp.cut,hn]
def φR:Int->Nat->Bool:=λop _=>!(op == 6 || op == 25)
def noE:Exp:=.mk 0 0 [] [] []
theorem qu0 (n k:Nat):Nat.ble n (n + k) = true:=qE zo
theorem qzq:noE.enc φR = .agg [.int .i64 0,.int .i64 0,.str [],.str [],.lst [] .full]:=Eq.trans rfl rfl
def exB:=PLift.up (qq (qq (qq @Exp.dimE (qq @Exp.cellsE @Exp.dims)) (qq (qq @Exp.cs_len @Exp.stor) (qq @Exp.cut @Exp.drainE))) (qq (qq @Exp.drop5 (qq @Exp.lower @qcH)) (qq @qu0 (qq @qbk qzq))))
theorem qn1 {e:Exp} (hd:e.depth <= 1000) (hs:e.small) (at_ i:Int) (h:List qk):Wd (.fn 88 [] []) [.int .i64 at_,e.enc φR,.int .i64 i] h =
  if e.depth <= 20 then some (.ret (.tup [e.enc φR,.int .i64 i,qby 0 0]),h,false) else some (.ret (.tup [noE.enc φR,.int .i64 i,qby at_ 7]),h,false):=by
 rw [qu 88 c88]
 by_cases hq:e.depth <= 20
 ·have c1:ilt 20 (e.depth:Int) = false:=by rw [qD];simp;omega
  rw [if_pos hq]
  simp only [sB.1,c88,seval,exB.1,qr,qxV hd hs,c1]
 ·have c1:ilt 20 (e.depth:Int) = true:=by rw [qD];simp;omega
  rw [if_neg hq]
  simp only [sB.1,c88,seval,exB.1,qr,qxV hd hs,c1]
theorem qzY:qcV 1 [.str []] 10 [(0,(.str [111,114])),(1,(.str [97,110,100])),(2,(.str [61])),(3,(.str [60])),(4,(.str [60,61])),(5,(.str [43])),(6,(.str [45])),(7,(.str [42])),(8,(.str [47])),(9,(.str [37]))] = some (.lst [(.str [111,114]),(.str [97,110,100]),(.str [61]),(.str [60]),(.str [60,61]),(.str [43]),(.str [45]),(.str [42]),(.str [47]),(.str [37])] .full):=zk
theorem qzJ:qcV 1 [.int .i64 0] 10 [(0,(.int .i64 1)),(1,(.int .i64 2)),(2,(.int .i64 4)),(3,(.int .i64 4)),(4,(.int .i64 4)),(5,(.int .i64 5)),(6,(.int .i64 5)),(7,(.int .i64 6)),(8,(.int .i64 6)),(9,(.int .i64 6))] = some (.lst [(.int .i64 1),(.int .i64 2),(.int .i64 4),(.int .i64 4),(.int .i64 4),(.int .i64 5),(.int .i64 5),(.int .i64 6),(.int .i64 6),(.int .i64 6)] .full):=zk
theorem qES:qcV 1 [.int .i64 0] 10 [(0,(.int .i64 24)),(1,(.int .i64 23)),(2,(.int .i64 20)),(3,(.int .i64 21)),(4,(.int .i64 22)),(5,(.int .i64 15)),(6,(.int .i64 16)),(7,(.int .i64 17)),(8,(.int .i64 18)),(9,(.int .i64 19))] = some (.lst [(.int .i64 24),(.int .i64 23),(.int .i64 20),(.int .i64 21),(.int .i64 22),(.int .i64 15),(.int .i64 16),(.int .i64 17),(.int .i64 18),(.int .i64 19)] .full):=zk
theorem qzZ:(qa1.map λx=>qd.str x.1) = [(.str [111,114]),(.str [97,110,100]),(.str [61]),(.str [60]),(.str [60,61]),(.str [43]),(.str [45]),(.str [42]),(.str [47]),(.str [37])]:=zk
theorem qzK:(qa1.map λx=>qd.int .i64 (x.2.1:Nat)) = [(.int .i64 1),(.int .i64 2),(.int .i64 4),(.int .i64 4),(.int .i64 4),(.int .i64 5),(.int .i64 5),(.int .i64 6),(.int .i64 6),(.int .i64 6)]:=zk
theorem qET:(qa1.map λx=>qd.int .i64 x.2.2) = [(.int .i64 24),(.int .i64 23),(.int .i64 20),(.int .i64 21),(.int .i64 22),(.int .i64 15),(.int .i64 16),(.int .i64 17),(.int .i64 18),(.int .i64 19)]:=zk
theorem qub:∀x ∈ qa1,qC x.1 = true:=by
 have:(qa1.all λx=>qC x.1) = true:=zk
 exact List.all_eq_true.1 this
theorem qg2:qa1.length = 10:=rfl
section
variable {ws:List Tok} {n:Nat}
def qqB (h:List qk) (R:Option (Ex×St)) (w:Nat×Int):Prop:=
 (w = (0,0)/\∃tt,R = some (.exit 0,⟨tt,h,false⟩)/\tt.length = 34)\/∃tt,R = some (.ret,⟨tt,h,false⟩)/\tt.length = 34/\lkp tt 4 = .int .i64 (w.1:Nat)/\lkp tt 5 = .int .i64 w.2
theorem qtS (hk:KOK ws) (hn:n < ws.length) {h:List qk}:∀(k i:Nat) (tt:List qd),i + k = 10->tt.length = 34->lkp tt 0 = .lst (ws.map Tok.enc) .no->lkp tt 1 = .int .i64 (n:Nat)->lkp tt 6 = .lst (qa1.map λx=>qd.str x.1) .full->lkp tt 7 = .lst (qa1.map λx=>qd.int .i64 (x.2.1:Nat)) .full->lkp tt 8 = .lst (qa1.map λx=>qd.int .i64 x.2.2) .full->lkp tt 9 = .int .i64 (i:Nat)->
  qqB h (qg h.length Wd (.loop qim) ⟨tt,h,false⟩) (qgS (isW ws n) (qa1.drop i)):=by
 intro k
 induction k with
 | zero=>
  intro i tt hi ht e0 e1 e6 e7 e8 e9
  have c1:ilt (i:Int) ((qa1.map λx=>qd.str x.1).length:Int) = false:=by rw [qD,jQ,qg2];simp;omega
  rw [List.drop_eq_nil_of_le (by rw [qg2];omega),qgS,qh]
  simp only [sB.1,qim,seval,ht,e6,e9,c1]
  exact .inl ⟨rfl,_,rfl,Y0⟩
 | succ k ih=>
  intro i tt hi ht e0 e1 e6 e7 e8 e9
  have E:i < qa1.length:=by rw [qg2];omega
  have c1:ilt (i:Int) ((qa1.map λx=>qd.str x.1).length:Int) = true:=by rw [qD,jQ,qg2];simp;omega
  have x1:qeQ 1 (.lst (qa1.map λx=>qd.str x.1) .full) (.int .i64 (i:Nat)) = some (.iptr [.str qa1[i].1] 0):=qbG (x:=.str qa1[i].1) (by rw [jr,jh E];rfl) rfl
  have x2:qeQ 1 (.lst (qa1.map λx=>qd.int .i64 (x.2.1:Nat)) .full) (.int .i64 (i:Nat)) = some (.iptr [.int .i64 (qa1[i].2.1:Nat)] 0):=qbG (x:=.int .i64 (qa1[i].2.1:Nat)) (by rw [jr,jh E];rfl) rfl
  have x3:qeQ 1 (.lst (qa1.map λx=>qd.int .i64 x.2.2) .full) (.int .i64 (i:Nat)) = some (.iptr [.int .i64 qa1[i].2.2] 0):=qbG (x:=.int .i64 qa1[i].2.2) (by rw [jr,jh E];rfl) rfl
  have has:=qub _ (List.getElem_mem E)
  have w:=qo (n:=i) zo
  rw [jU E,qgS,qh]
  generalize he:qg h.length Wd qim _ = R
  cases hb:isW ws n qa1[i].1 with
  | true=>
   simp only [sB.1,qim,seval,ht,e0,e1,e6,e7,e8,e9,c1,x1,x2,x3,qaO hn hk has,hb] at he
   subst he
   refine .inr ⟨_,rfl,Y0,?_,?_⟩
   all_goals simp only [sB.1,seval,ht]
  | false=>
   simp only [sB.1,qim,seval,ht,e0,e1,e6,e7,e9,c1,x1,qaO hn hk has,hb,w] at he
   subst he
   rw [cond_false]
   refine ih (i + 1) _ zo ?_ ?_ ?_ ?_ ?_ ?_ ?_
   all_goals simp only [sB.1,seval,ht,e0,e1,e6,e7,e8]
theorem qlK (hk:KOK ws) (hn:n < ws.length) (h:List qk):Wd (.fn 126 [] []) [.lst (ws.map Tok.enc) .no,.int .i64 (n:Nat)] h = some (.ret (.tup [.int .i64 ((qar ws n).1:Nat),.int .i64 (qar ws n).2]),h,false):=by
 rw [qu 126 qC8]
 generalize hR:qbS _ h _ = R
 simp only [sB.1,qC8,seval,qzY,qzJ,qES] at hR
 generalize hr:qg h.length Wd (.loop qim) _ = r at hR
 have q:qqB h r (qar ws n):=by
  rw [<-hr,<-qzZ,<-qzK,<-qET]
  refine qtS hk hn 10 0 _ zo ?_ ?_ ?_ ?_ ?_ ?_ ?_
  all_goals simp only [sB.1,seval,jR]
 rw [<-hR]
 rcases q with ⟨q,tt,rfl,ht⟩ | ⟨tt,rfl,ht,e4,e5⟩
 ·rw [q]
  simp only [sB.1,seval,ht]
 ·simp only [sB.1,seval,e4,e5]
def qkM:List Str:=[[40],[105,102],[110,111,116],[45],[116,114,117,101],[102,97,108,115,101],[101,108,97,112,115,101,100],[99,111,117,110,116],[104,97,115],[115,117,109],[108,101,97,115,116]]
theorem qDE:qcV 1 [.str []] 11 [(0,(.str [40])),(1,(.str [105,102])),(2,(.str [110,111,116])),(3,(.str [45])),(4,(.str [116,114,117,101])),(5,(.str [102,97,108,115,101])),(6,(.str [101,108,97,112,115,101,100])),(7,(.str [99,111,117,110,116])),(8,(.str [104,97,115])),(9,(.str [115,117,109])),(10,(.str [108,101,97,115,116]))] = some (.lst [(.str [40]),(.str [105,102]),(.str [110,111,116]),(.str [45]),(.str [116,114,117,101]),(.str [102,97,108,115,101]),(.str [101,108,97,112,115,101,100]),(.str [99,111,117,110,116]),(.str [104,97,115]),(.str [115,117,109]),(.str [108,101,97,115,116])] .full):=zk
theorem qDF:qkM.map qd.str = [(.str [40]),(.str [105,102]),(.str [110,111,116]),(.str [45]),(.str [116,114,117,101]),(.str [102,97,108,115,101]),(.str [101,108,97,112,115,101,100]),(.str [99,111,117,110,116]),(.str [104,97,115]),(.str [115,117,109]),(.str [108,101,97,115,116])]:=zk
theorem qyd:∀x ∈ qkM,qC x = true:=by
 have:(qkM.all λx=>qC x) = true:=zk
 exact List.all_eq_true.1 this
theorem qjW:qkM.length = 11:=rfl
def qxv (h:List qk) (R:Option (Ex×St)) (w:Bool):Prop:=
 (w = false/\∃tt,R = some (.exit 0,⟨tt,h,false⟩)/\tt.length = 40)\/(w = true/\∃tt,R = some (.ret,⟨tt,h,false⟩)/\tt.length = 40/\lkp tt 4 = .bool true)
theorem quY (hk:KOK ws) (hn:n < ws.length) {h:List qk}:∀(k i:Nat) (tt:List qd),i + k = 11->tt.length = 40->lkp tt 0 = .lst (ws.map Tok.enc) .no->lkp tt 1 = .int .i64 (n:Nat)->lkp tt 5 = .lst (qkM.map qd.str) .full->lkp tt 6 = .int .i64 (i:Nat)->
  qxv h (qg h.length Wd (.loop qio) ⟨tt,h,false⟩) ((qkM.drop i).any (isW ws n)):=by
 intro k
 induction k with
 | zero=>
  intro i tt hi ht e0 e1 e5 e6
  have c1:ilt (i:Int) ((qkM.map qd.str).length:Int) = false:=by rw [qD,jQ,qjW];simp;omega
  rw [List.drop_eq_nil_of_le (by rw [qjW];omega),List.any_nil,qh]
  simp only [sB.1,qio,seval,ht,e5,e6,c1]
  exact .inl ⟨rfl,_,rfl,Y0⟩
 | succ k ih=>
  intro i tt hi ht e0 e1 e5 e6
  have E:i < qkM.length:=by rw [qjW];omega
  have c1:ilt (i:Int) ((qkM.map qd.str).length:Int) = true:=by rw [qD,jQ,qjW];simp;omega
  have x1:qeQ 1 (.lst (qkM.map qd.str) .full) (.int .i64 (i:Nat)) = some (.iptr [.str qkM[i]] 0):=qbG (x:=.str qkM[i]) (by rw [jr,jh E];rfl) rfl
  have has:=qyd _ (List.getElem_mem E)
  have w:=qo (n:=i) zo
  rw [jU E,List.any_cons,qh]
  generalize he:qg h.length Wd qio _ = R
  cases hb:isW ws n qkM[i] with
  | true=>
   simp only [sB.1,qio,seval,ht,e0,e1,e5,e6,c1,x1,qaO hn hk has,hb] at he
   subst he
   refine .inr ⟨rfl,_,rfl,Y0,?_⟩
   simp only [sB.1,seval,ht]
  | false=>
   simp only [sB.1,qio,seval,ht,e0,e1,e5,e6,c1,x1,qaO hn hk has,hb,w] at he
   subst he
   rw [jN]
   refine ih (i + 1) _ zo ?_ ?_ ?_ ?_ ?_
   all_goals simp only [sB.1,seval,ht,e0,e1,e5]
theorem qvR:∀m ∈ marks,qan m = false:=by
 have:(marks.all λm=>!qan m) = true:=zk
 intro m hm
 simpa using List.all_eq_true.1 this m hm
theorem qqR (hk:KOK ws) (hn:n < ws.length):qa6 ws n = ((word ws n).kind == 1 || ((word ws n).kind == 2 || (qM ws n || qkM.any (isW ws n)))):=by
 obtain ⟨k0,k3⟩:=hk _ (qhX hn)
 rw [qa6]
 congr 3
 cases h3:((word ws n).kind == 3) with
 | true=>
  have E:((word ws n).kind == 0) = false:=by rw [beq_iff_eq] at h3;rw [h3];rfl
  have:=qvR _ (k3 (by simpa using h3))
  simp only [qan,Bool.or_eq_false_iff] at this
  simp only [qkM,List.any_cons,List.any_nil,isW,h3,E,j0,jL,jM,this]
  cases ((word ws n).s == [40]) <;> simp
 | false=>
  cases h0:((word ws n).kind == 0) with
  | false=>simp [qkM,isW,h3,h0]
  | true=>
   obtain ⟨c,r,h1,h2⟩:=k0 (by simpa using h0)
   have a1:((word ws n).s == [40]) = false:=by
    rw [h1,beq_eq_false_iff_ne];intro h;injection h with h _;subst h;cases h2
   have a2:((word ws n).s == [45]) = false:=by
    rw [h1,beq_eq_false_iff_ne];intro h;injection h with h _;subst h;cases h2
   simp only [qkM,List.any_cons,List.any_nil,isW,h3,h0,a1,a2,qan,j0,jL,jM,jN,Bool.or_true]
   simp only [Bool.or_assoc]
theorem qn0 (hk:KOK ws) (hn:n < ws.length) (h:List qk):Wd (.fn 140 [] []) [.lst (ws.map Tok.enc) .no,.int .i64 (n:Nat)] h = some (.ret (.bool (qa6 ws n)),h,false):=by
 have hx:=qae hn
 rw [qqR hk hn]
 rw [qu 140 qyv]
 cases h1:((word ws n).kind == 1) with
 | true=>simp only [sB.1,qyv,seval,hx,h1]
 | false=>
  cases h2:((word ws n).kind == 2) with
  | true=>simp only [sB.1,qyv,seval,hx,h1,h2]
  | false=>
   cases h3:qM ws n with
   | true=>simp only [sB.1,qyv,seval,hx,h1,h2,qgb hn,h3]
   | false=>
    generalize hR:qbS _ h _ = R
    simp only [sB.1,qyv,seval,hx,h1,h2,qgb hn,h3,qDE] at hR
    generalize hr:qg h.length Wd (.loop qio) _ = r at hR
    have q:qxv h r (qkM.any (isW ws n)):=by
     rw [<-hr,<-qDF]
     refine quY hk hn 11 0 _ zo ?_ ?_ ?_ ?_ ?_
     all_goals simp only [sB.1,seval,jR]
    rw [<-hR]
    rcases q with ⟨q,tt,rfl,ht⟩ | ⟨q,tt,rfl,ht,e4⟩
    ·rw [q]
     simp only [sB.1,seval,ht]
    ·rw [q]
     simp only [sB.1,seval,e4]
end
def qAl (ws:List Tok) (f:FuncId) (args:List qd):Out->Prop
 | .ok e n=>e.small/\e.depth <= 20/\n < ws.length/\∀h,Wd (.fn f [] []) args h = some (.ret (.tup [e.enc φR,.int .i64 (n:Nat),qby 0 0]),h,false)
 | .no p err _=>(err == 0) = false/\∃(x:Exp) (m:Int),∀h,Wd (.fn f [] []) args h = some (.ret (.tup [x.enc φR,.int .i64 m,qby p err]),h,false)
def qbp (ws:List Tok) (n:Nat) (o:Out):Prop:=qAl ws 57 [.lst (ws.map Tok.enc) .no,.int .i64 (n:Nat)] o
def RCl (ws:List Tok) (n L:Nat) (o:Out):Prop:=qAl ws 87 [.lst (ws.map Tok.enc) .no,.int .i64 (n:Nat),.int .i64 (L:Nat)] o
def qkR (ws:List Tok) (n:Nat) (o:Out):Prop:=qAl ws 120 [.lst (ws.map Tok.enc) .no,.int .i64 (n:Nat)] o
def qeJ (ws:List Tok) (n:Nat) (o:Out):Prop:=qAl ws 127 [.lst (ws.map Tok.enc) .no,.int .i64 (n:Nat)] o
def RBr (ws:List Tok) (n:Nat) (o:Out):Prop:=qAl ws 133 [.lst (ws.map Tok.enc) .no,.int .i64 (word ws n).pos,.int .i64 (n + 1:Nat)] o
def qDo (ws:List Tok) (pos:Int) (least most:Nat) (e:Exp) (n:Nat) (o:Out):Prop:=qAl ws 119 [.lst (ws.map Tok.enc) .no,.int .i64 pos,e.enc φR,.int .i64 (n:Nat),.int .i64 (least:Nat),.int .i64 (most:Nat)] o
theorem Exp.enc_mk (φ:Int->Nat->Bool) (op n:Int) (name sub:Str) (args:List Exp):(Exp.mk op n name sub args).enc φ = .agg [.int .i64 op,.int .i64 n,.str name,.str sub,.lst (qaE φ args) (fl (φ op args.length))]:=Eq.trans rfl rfl
theorem qcj {op n:Int} {name sub:Str} {args:List Exp} (hl:args.length <= 100000) (h:∀e ∈ args,e.small):(Exp.mk op n name sub args).small:=by
 rw [Exp.small]
 refine ⟨hl,?_⟩
 clear hl
 induction args with
 | nil=>trivial
 | cons e es ih=>exact ⟨h e (by simp),ih λx hx=>h x (by simp [hx])⟩
theorem qj0 {op n:Int} {name sub:Str} {args:List Exp} {d:Nat} (h:∀e ∈ args,e.depth <= d):(Exp.mk op n name sub args).depth <= d + 1:=by
 rw [Exp.depth]
 have:qaD args <= d:=by
  induction args with
  | nil=>simp [qaD]
  | cons e es ih=>
   rw [qaD]
   have h1:=h e (by simp)
   have h2:=ih λx hx=>h x (by simp [hx])
   omega
 omega
section
variable {ws:List Tok} {n:Nat}
theorem qff {op k:Int} {name sub:Str} {x:Exp} (hop:φR op 1 = true) (hd:x.depth <= 20) (hs:x.small) (at_ i:Int) (h:List qk):Wd (.fn 88 [] []) [.int .i64 at_,.agg [.int .i64 op,.int .i64 k,.str name,.str sub,.lst [x.enc φR] .full],.int .i64 i] h =
  if (Exp.mk op k name sub [x]).depth <= 20 then some (.ret (.tup [(Exp.mk op k name sub [x]).enc φR,.int .i64 i,qby 0 0]),h,false) else some (.ret (.tup [noE.enc φR,.int .i64 i,qby at_ 7]),h,false):=by
 rw [show qd.agg [.int .i64 op,.int .i64 k,.str name,.str sub,.lst [x.enc φR] .full] = (Exp.mk op k name sub [x]).enc φR from by rw [Exp.enc_mk,show ([x].length:Nat) = 1 from rfl,hop];rfl]
 exact qn1 (e:=.mk op k name sub [x]) (jn (qj0 (d:=20) (by simpa using hd)) zo) (qcj (by simp) (by simpa using hs)) at_ i h
theorem qtL {op k:Int} {name sub:Str} {x y:Exp} (hop:φR op 2 = true) (hd:x.depth <= 20) (hs:x.small) (I:y.depth <= 20) (E:y.small) (at_ i:Int) (h:List qk):Wd (.fn 88 [] []) [.int .i64 at_,.agg [.int .i64 op,.int .i64 k,.str name,.str sub,.lst [x.enc φR,y.enc φR] .full],.int .i64 i] h =
  if (Exp.mk op k name sub [x,y]).depth <= 20 then some (.ret (.tup [(Exp.mk op k name sub [x,y]).enc φR,.int .i64 i,qby 0 0]),h,false) else some (.ret (.tup [noE.enc φR,.int .i64 i,qby at_ 7]),h,false):=by
 rw [show qd.agg [.int .i64 op,.int .i64 k,.str name,.str sub,.lst [x.enc φR,y.enc φR] .full] = (Exp.mk op k name sub [x,y]).enc φR from by rw [Exp.enc_mk,show ([x,y].length:Nat) = 2 from rfl,hop];rfl]
 exact qn1 (e:=.mk op k name sub [x,y]) (jn (qj0 (d:=20) (by simpa using ⟨hd,I⟩)) zo) (qcj (by simp) (by simpa using ⟨hs,E⟩)) at_ i h
theorem qkv {op k:Int} {name sub:Str} {xs:List Exp} (hop:φR op xs.length = false) (hl:xs.length <= 1000) (hd:∀x ∈ xs,x.depth <= 20) (hs:∀x ∈ xs,x.small) (at_ i:Int) (h:List qk):Wd (.fn 88 [] []) [.int .i64 at_,.agg [.int .i64 op,.int .i64 k,.str name,.str sub,.lst (qaE φR xs) .no],.int .i64 i] h =
  if (Exp.mk op k name sub xs).depth <= 20 then some (.ret (.tup [(Exp.mk op k name sub xs).enc φR,.int .i64 i,qby 0 0]),h,false) else some (.ret (.tup [noE.enc φR,.int .i64 i,qby at_ 7]),h,false):=by
 rw [show qd.agg [.int .i64 op,.int .i64 k,.str name,.str sub,.lst (qaE φR xs) .no] = (Exp.mk op k name sub xs).enc φR from by rw [Exp.enc_mk,hop];rfl]
 exact qn1 (e:=.mk op k name sub xs) (jn (qj0 (d:=20) hd) zo) (qcj zo hs) at_ i h
theorem qck (x:Exp):qcV 5 [.int .i64 0,.int .i64 0,.str [],.str [],.lst [] .full] 1 [(0,x.enc φR)] = some (.lst [x.enc φR] .full):=qbb rfl zo (Exp.cs_len φR x) (Exp.stor φR x) zo
theorem qsT (x y:Exp):qcV 5 [.int .i64 0,.int .i64 0,.str [],.str [],.lst [] .full] 2 [(0,x.enc φR),(1,y.enc φR)] = some (.lst [x.enc φR,y.enc φR] .full):=qlw rfl zo (Exp.cs_len φR x) (Exp.stor φR x) (Exp.cs_len φR y) (Exp.stor φR y) zo
theorem opR {k:Nat} {n:Nat} {op:Int} (h:qar ws n = (k,op)) (hk:k ≠ 0):φR op 2 = true:=by
 rcases qek (isW ws n) qa1 with h0 | ⟨x,h1,_,h3⟩
 ·rw [qar,h0] at h;injection h with h _;exact absurd h.symm hk
 ·rw [qar,h3] at h
  have:(qa1.all λx=>φR x.2.2 2) = true:=zk
  have:=List.all_eq_true.1 this x h1
  rw [h] at this
  exact this
def qkJ:qk:=.cells [.int .i64 0,.int .i64 0,.str [],.str [],.lst [] .full]
theorem qdn:qkJ = .cells [.int .i64 0,.int .i64 0,.str [],.str [],.lst [] .full]:=Eq.trans rfl rfl
structure quJ (h:List qk) (e:Exp) (H:List qk):Prop where
 len:h.length + 2 < H.length
 exp:H[h.length]? = some (.cells (e.cs φR))
 res:H[h.length + 1]? = some qkJ
 err:H[h.length + 2]? = some qkI
 old:H.take h.length = h
theorem quJ.next {h H:List qk} {e:Exp} (hl:quJ h e H) (e':Exp) (l:List qk):quJ h e' (H.set h.length (.cells (e'.cs φR)) ++ l):=by
 have h2:=hl.len
 refine ⟨by simp;omega,?_,?_,?_,?_⟩
 ·rw [qah (by simp;omega),qY zo]
 ·rw [qah (by simp;omega),qN zo,hl.res]
 ·rw [qah (by simp;omega),qN zo,hl.err]
 ·rw [jS (by simp;omega),jT zo,hl.old]
def qqx (ws:List Tok) (x:Exp) (m:Int) (h:List qk) (R:Option (Ex×St)):Out->Prop
 | .ok e n=>e.small/\e.depth <= 20/\n < ws.length/\∃tt H,R = some (.ret,⟨tt,H,false⟩)/\tt.length = 78/\lkp tt 12 = .ptr (h.length + 1) 0/\lkp tt 13 = .int .i64 (n:Nat)/\lkp tt 14 = .ptr (h.length + 2) 0/\H.take h.length = h/\H[h.length + 1]? = some (.cells (e.cs φR))/\H[h.length + 2]? = some (.cells [.int .i64 0,.int .i64 0])
 | .no p err _=>(err == 0) = false/\∃(tt:List qd) (H:List qk),R = some (.ret,⟨tt,H,false⟩)/\tt.length = 78/\lkp tt 12 = .ptr (h.length + 1) 0/\lkp tt 13 = .int .i64 m/\lkp tt 14 = .ptr (h.length + 2) 0/\H.take h.length = h/\H[h.length + 1]? = some (.cells (x.cs φR))/\H[h.length + 2]? = some (.cells [.int .i64 p,.int .i64 err])
theorem qte (hw:WF ws) (hk:KOK ws) {pos:Int} {least:Nat} (ak:least <= 7) {most:Nat} {e:Exp} {n:Nat} {o:Out} (hM:qg7 ws (RCl ws) pos least most e n o):∃(x:Exp) (m:Int),∀(h:List qk) (tt:List qd) (H:List qk),most <= 6->n < ws.length->e.depth <= 20->e.small->quJ h e H->tt.length = 78->lkp tt 0 = .lst (ws.map Tok.enc) .no->lkp tt 1 = .int .i64 pos->lkp tt 3 = .int .i64 (n:Nat)->lkp tt 4 = .int .i64 (least:Nat)->lkp tt 5 = .int .i64 (most:Nat)->lkp tt 8 = .ptr h.length 0->lkp tt 12 = .ptr (h.length + 1) 0->lkp tt 14 = .ptr (h.length + 2) 0->
  qqx ws x m h (qg h.length Wd (.loop qeL) ⟨tt,H,false⟩) o:=by
 induction hM with
 | @stop most e n hs=>
  refine ⟨noE,0,?_⟩
  intro h tt H hm hn hd a7 hL ht e0 e1 e3 e4 e5 e8 a1 Y
  have I:=hL.exp
  have E:=hL.res
  have U:=hL.err
  have ab:=hL.len
  rw [qdn] at E
  rw [qcR] at U
  have l1:h.length + 1 < H.length:=zo
  have l2:h.length + 2 < H.length:=zo
  have a6:¬ (h.length + 1 = h.length + 2):=zo
  have c:(((qar ws n).1:Int) == 0 || ilt ((qar ws n).1:Int) (least:Int) || ilt (most:Int) ((qar ws n).1:Int)) = true:=by
   rw [qD,qD];simp;omega
  rw [qh]
  generalize he:qg h.length Wd qeL _ = R
  rcases hq:(((qar ws n).1:Int) == 0) with _ | _ <;> rcases ae:ilt ((qar ws n).1:Int) (least:Int) with _ | _ <;> rcases ad:ilt (most:Int) ((qar ws n).1:Int) with _ | _
  all_goals first | (rw [hq,ae,ad] at c;cases c;done) | skip
  all_goals
   simp only [sB.1,qeL,seval,exB.1,qr,ht,e0,e3,e4,e5,e8,a1,Y,qlK hk hn,hq,ae,ad,I,E,U,a6] at he
   subst he
   refine ⟨a7,hd,hn,_,_,rfl,Y0,by simp only [sB.1,seval,a1],Y4,by simp only [sB.1,seval,Y],?_,?_,?_⟩
   ·rw [jT zo,jT zo,hL.old]
   ·rw [qN zo,qY zo]
   ·rw [qY (by simpa using l2)]
 | @bad most e n p err m h0 ah af hx=>
  obtain ⟨q1,x,m',q2⟩:=hx
  refine ⟨x,m',?_⟩
  intro h tt H hm hn hd a7 hL ht e0 e1 e3 e4 e5 e8 a1 Y
  have I:=hL.exp
  have E:=hL.res
  have U:=hL.err
  have ab:=hL.len
  rw [qdn] at E
  rw [qcR] at U
  have l1:h.length + 1 < H.length:=zo
  have l2:h.length + 2 < H.length:=zo
  have b1:Nat.ble h.length H.length = true:=qE zo
  have b2:Nat.ble h.length (H.length + 1) = true:=qE zo
  have a6:¬ (h.length + 1 = h.length + 2):=zo
  have c1:(((qar ws n).1:Int) == 0) = false:=by simpa using h0
  have c2:ilt ((qar ws n).1:Int) (least:Int) = false:=by rw [qD];simp;omega
  have c3:ilt (most:Int) ((qar ws n).1:Int) = false:=by rw [qD];simp;omega
  have w1:=qo (n:=n) (by have:=hw.len;omega)
  have w2:=qo (n:=(qar ws n).1) (by have:=qkx (ws:=ws) n;omega)
  rw [qh]
  generalize he:qg h.length Wd qeL _ = R
  simp only [sB.1,qeL,seval,exB.1,qr,ht,e0,e3,e4,e5,e8,a1,Y,qlK hk hn,c1,c2,c3,w1,w2,q1,q2,I,E,U,l1,l2,b1,b2,a6] at he
  subst he
  refine ⟨q1,_,_,rfl,Y0,by simp only [sB.1,seval,a1],Y4,by simp only [sB.1,seval,Y],?_,?_,?_⟩
  ·rw [jS (by simp;omega),jT zo,jT zo,hL.old]
  ·rw [qah (by simpa using l1),qN zo,qY zo]
  ·rw [qah (by simpa using l2),qY (by simpa using l2)]
 | @deep most e n x n1 h0 ah af hx aa=>
  refine ⟨noE,n1,?_⟩
  intro h tt H hm hn hd a7 hL ht e0 e1 e3 e4 e5 e8 a1 Y
  obtain ⟨xs,xd,xn,q2⟩:=hx
  have I:=hL.exp
  have E:=hL.res
  have U:=hL.err
  have ab:=hL.len
  rw [qdn] at E
  rw [qcR] at U
  have hop:=opR (ws:=ws) (n:=n) rfl h0
  have l0:h.length < H.length:=zo
  have l1:h.length + 1 < H.length:=zo
  have l2:h.length + 2 < H.length:=zo
  have b1:Nat.ble h.length H.length = true:=qE zo
  have b2:Nat.ble h.length (H.length + 1) = true:=qE zo
  have a6:¬ (h.length + 1 = h.length + 2):=zo
  have aj:¬ (h.length = h.length + 1):=zo
  have ai:¬ (h.length = h.length + 2):=zo
  have c1:(((qar ws n).1:Int) == 0) = false:=by simpa using h0
  have c2:ilt ((qar ws n).1:Int) (least:Int) = false:=by rw [qD];simp;omega
  have c3:ilt (most:Int) ((qar ws n).1:Int) = false:=by rw [qD];simp;omega
  have w1:=qo (n:=n) (by have:=hw.len;omega)
  have w2:=qo (n:=(qar ws n).1) (by have:=qkx (ws:=ws) n;omega)
  have a8:=qtL (op:=(qar ws n).2) (k:=0) (name:=[]) (sub:=[]) hop hd a7 xd xs pos (n1:Nat)
  simp only [if_neg aa] at a8
  have c7:((7:Int) == 0) = false:=by rfl
  rw [qh]
  generalize he:qg h.length Wd qeL _ = R
  simp only [sB.1,qeL,seval,exB.1,qr,ht,e0,e1,e3,e4,e5,e8,a1,Y,qlK hk hn,c1,c2,c3,w1,w2,q2,qsT,a8,c7,I,E,U,l0,l1,l2,b1,b2,a6,aj,ai] at he
  subst he
  refine ⟨rfl,_,_,rfl,Y0,by simp only [sB.1,seval,a1],Y4,by simp only [sB.1,seval,Y],?_,?_,?_⟩
  ·rw [jS (by simp;omega),jT zo,jT zo,jT zo,hL.old]
  ·rw [qah (by simpa using l1),qN zo,qY (by simpa using l1)]
   rfl
  ·rw [qah (by simpa using l2),qY (by simpa using l2)]
 | @go most e n x n1 o h0 ah af hx aa hM ih=>
  obtain ⟨x',m',ih⟩:=ih
  refine ⟨x',m',?_⟩
  intro h tt H hm hn hd a7 hL ht e0 e1 e3 e4 e5 e8 a1 Y
  obtain ⟨xs,xd,xn,q2⟩:=hx
  have I:=hL.exp
  have ab:=hL.len
  have hop:=opR (ws:=ws) (n:=n) rfl h0
  have l0:h.length < H.length:=zo
  have b1:Nat.ble h.length H.length = true:=qE zo
  have b2:Nat.ble h.length (H.length + 1) = true:=qE zo
  have c1:(((qar ws n).1:Int) == 0) = false:=by simpa using h0
  have c2:ilt ((qar ws n).1:Int) (least:Int) = false:=by rw [qD];simp;omega
  have c3:ilt (most:Int) ((qar ws n).1:Int) = false:=by rw [qD];simp;omega
  have w1:=qo (n:=n) (by have:=hw.len;omega)
  have w2:=qo (n:=(qar ws n).1) (by have:=qkx (ws:=ws) n;omega)
  have a8:=qtL (op:=(qar ws n).2) (k:=0) (name:=[]) (sub:=[]) hop hd a7 xd xs pos (n1:Nat)
  simp only [if_pos aa] at a8
  have ac:(Exp.mk (qar ws n).2 0 [] [] [e,x]).small:=qcj (by simp) (by simpa using ⟨a7,xs⟩)
  rw [qh]
  generalize he:qg h.length Wd qeL _ = R
  by_cases q4:(qar ws n).1 = 4
  ·have c4:(((qar ws n).1:Int) == 4) = true:=by rw [q4];rfl
   simp only [sB.1,qeL,seval,exB.1,qr,ht,e0,e1,e3,e4,e5,e8,qlK hk hn,c1,c2,c3,c4,w1,w2,q2,qsT,a8,I,l0,b1,b2] at he
   subst he
   rw [if_pos q4] at ih
   refine ih h _ _ zo xn aa ac (hL.next _ _) ?_ ?_ ?_ ?_ ?_ ?_ ?_ ?_ ?_
   all_goals simp only [sB.1,seval,ht,e0,e1,e4,e8,a1,Y]
   all_goals rfl
  ·have c4:(((qar ws n).1:Int) == 4) = false:=by simp;omega
   simp only [sB.1,qeL,seval,exB.1,qr,ht,e0,e1,e3,e4,e5,e8,qlK hk hn,c1,c2,c3,c4,w1,w2,q2,qsT,a8,I,l0,b1,b2] at he
   subst he
   rw [if_neg q4] at ih
   refine ih h _ _ zo xn aa ac (hL.next _ _) ?_ ?_ ?_ ?_ ?_ ?_ ?_ ?_ ?_
   all_goals simp only [sB.1,seval,ht,e0,e1,e4,e8,a1,Y]
theorem qtM (hw:WF ws) (hk:KOK ws) {pos:Int} {least most:Nat} (E:least <= 7) (a1:most <= 6) {e:Exp} {n:Nat} {o:Out} (hn:n < ws.length) (hd:e.depth <= 20) (hs:e.small) (hM:qg7 ws (RCl ws) pos least most e n o):qDo ws pos least most e n o:=by
 obtain ⟨x0,m0,a6⟩:=qte hw hk E hM
 have run:∀h:List qk,∃r,qqx ws x0 m0 h r o/\Wd (.fn 119 [] []) [.lst (ws.map Tok.enc) .no,.int .i64 pos,e.enc φR,.int .i64 (n:Nat),.int .i64 (least:Nat),.int .i64 (most:Nat)] h = qbS [.cell 12 (some 5),.tmp 13,.cell 14 (some 2)] h (qbj 0 r):=by
  intro h
  generalize hR:Wd (.fn 119 [] []) _ h = R
  rw [qu 119 qC6] at hR
  simp only [sB.1,qC6,seval,exB.1] at hR
  generalize hq:qg h.length Wd (.loop qeL) _ = r at hR
  refine ⟨r,?_,hR.symm⟩
  rw [<-hq]
  refine a6 h _ _ a1 hn hd hs ⟨by simp,?_,?_,?_,?_⟩ ?_ ?_ ?_ ?_ ?_ ?_ ?_ ?_ ?_
  ·rw [qjh];rfl
  ·rw [qaP];rfl
  ·rw [qaP];rfl
  ·simp
  all_goals simp only [sB.1,seval]
 cases o with
 | ok e' n'=>
  obtain ⟨r,hE,_⟩:=run []
  refine ⟨hE.1,hE.2.1,hE.2.2.1,λh=>?_⟩
  obtain ⟨r,⟨_,_,_,tt,H,rfl,ht,Y,U,I,ho,g1,g2⟩,hr⟩:=run h
  rw [hr]
  simp only [sB.1,seval,exB.1,Y,U,I,g1,g2]
  exact congrArg some (qw ho (by simp [qd.lower,qj,Exp.enc,qcH]))
 | no p err m=>
  obtain ⟨r,hE,_⟩:=run []
  refine ⟨hE.1,x0,m0,λh=>?_⟩
  obtain ⟨r,⟨_,tt,H,rfl,ht,Y,U,I,ho,g1,g2⟩,hr⟩:=run h
  rw [hr]
  simp only [sB.1,seval,exB.1,Y,U,I,g1,g2]
  exact congrArg some (qw ho (by simp [qd.lower,qj,Exp.enc,qcH]))
end
end Go.Proofs.YtkehdpkcdnofaaaGreatDoor.AE
