/- A part of the proof. No condition. -/
import Derived.Test.YtcbfifamliijlaaGreatDoorMb6
import Derived.Test.YtcbfifamliijlaaGreatDoorMb2
import Derived.KernelRfl
import Derived.Laws.BitsLemmas
open Int renaming reduceNatCast'→rN
set_option maxRecDepth 100000
open List renaming take_append_of_le_length→jS,take_set_of_le→jT,drop_eq_getElem_cons→jU,getElem?_eq_getElem→jh,length_append→ji,length_map→jQ,length_set→jV,getElem?_map→jr,nil_append→jW,cons_append→jw,length_cons→jy,length_nil→jz
open Bool renaming and_eq_true→jk
namespace Go.Proofs.YtcbfifamliijlaaGreatDoor.AE
open Go.AE
theorem qei:qn7 X where
 mono f g h:=by
  unfold X at h
  split at h
  all_goals first
   | (cases h;with_reducible exact λc d hc aS h=>qoI hc)
   | (cases h;exact λc d hc aS h=>qoN hc (Nat.le_refl _))
   | (cases h;exact λc d hc aS h x hx=>hx)
   | cases h
 cont f g h:=by
  unfold X at h
  split at h
  all_goals first
   | (cases h;with_reducible exact λc hc aS h x hx=>qoH hc hx)
   | (cases h;exact λc hc aS h x hx=>qoM hc hx)
   | (cases h;exact λc hc aS h x hx=>⟨0,hx⟩)
   | cases h
noncomputable def Wd:AE.Call:=W T.get X
theorem ql (f:FuncId) (fn:qn) {first args cap:List qd} {h:List qh} (h1:X f = none:=by rfl) (h2:T.get f = some fn:=by kernel_rfl) :
  Wd (.fn f first cap) args h = qfG fn.results h (qp h.length Wd fn.code ⟨(first ++ args ++ cap).map qd.dim ++ List.replicate (fn.ntmps - ((first ++ args ++ cap).map qd.dim).length) (.tup []),h,false⟩):=qI5 qei h1 h2
theorem qbi {n:Int} (h1:-9223372036854775808 <= n) (h2:n <= 9223372036854775807):IntKind.i64.wrap n = n:=by
 rw [IntKind.wrap_i64]
 omega
theorem qC {n:Nat} (h:n < 9223372036854775807):IntKind.i64.wrap ((n:Int) + 1) = ((n + 1:Nat):Int):=by
 rw [qbi zo zo]
 rfl
abbrev Str:=List UInt8
def qaZ (c:UInt8):Bool:=ile 97 (c.toNat:Int) && ile (c.toNat:Int) 122
def qag (c:UInt8):Bool:=ile 48 (c.toNat:Int) && ile (c.toNat:Int) 57
def qaB:Nat->Str->Bool
 | _,[]=>true
 | i,c :: s=>bif !qaZ c && (i == 0 || !qag c) then false else qaB (i + 1) s
def qcx (s:Str):Bool:=decide (1 <= s.length) && decide (s.length <= 16) && qaB 0 s
theorem qe7 (s:Str) (h:List qh):Wd (.fn 34 [] []) [.str s] h = some (.ret (.bool (qcx s)),h,false):=by
 have loop:∀k st,(∃tt i,st = ⟨tt,h,false⟩/\tt.length = 50/\lkp tt 0 = .str s/\lkp tt 15 = .int .i64 (s.length:Nat)/\lkp tt 16 = .int .i64 (i:Nat)/\i + k = s.length/\qaB i (s.drop i) = qaB 0 s/\s.length <= 16)->
   ∃x E,qp h.length Wd (.loop qo8) st = some (x,E)/\((x = .exit 0/\qaB 0 s = true/\∃tt,E = ⟨tt,h,false⟩/\tt.length = 50)\/(x = .ret/\qaB 0 s = false/\∃tt,E = ⟨tt,h,false⟩/\tt.length = 50/\lkp tt 2 = .bool false)):=by
  refine qao _ (λx E=>(x = .exit 0/\qaB 0 s = true/\∃tt,E = ⟨tt,h,false⟩/\tt.length = 50)\/(x = .ret/\qaB 0 s = false/\∃tt,E = ⟨tt,h,false⟩/\tt.length = 50/\lkp tt 2 = .bool false)) ?_
  rintro k st ⟨tt,i,rfl,ht,e0,U,I,Y,hR,hl⟩
  generalize he:qp h.length Wd qo8 _ = r
  rcases Nat.lt_or_ge i s.length with hi | hi
  ·have c1:ilt (i:Int) (s.length:Int) = true:=by rw [qX];simp;omega
   have hx:qgT (.str s) (.int .i64 (i:Nat)) = some (.int .u8 (s[i].toNat:Nat)):=qaY (jh hi)
   have w:=qC (n:=i) zo
   rw [jU hi,qaB] at hR
   simp only [qaZ,qag] at hR
   have hz:((i:Int) == 0) = (i == 0):=by rw [Bool.eq_iff_iff];simp
   simp only [qo8,sT.1,sC.1,qe,qw,seval,-rN,ht,e0,U,I,c1,hx,hz] at he
   cases hb:(!(ile 97 (s[i].toNat:Int) && ile (s[i].toNat:Int) 122) && (i == 0 || !(ile 48 (s[i].toNat:Int) && ile (s[i].toNat:Int) 57))) with
   | true=>
    rw [hb] at hR
    simp only [hb,sT.1,seval,-rN] at he
    subst he
    refine .inr ⟨_,_,rfl,by simp,.inr ⟨rfl,by simpa using hR.symm,_,rfl,Y1,?_⟩⟩
    simp only [sT.1,seval,-rN,ht]
   | false=>
    rw [hb] at hR
    simp only [hb,sT.1,sC.1,qe,seval,-rN,ht,I,w] at he
    subst he
    refine .inl ⟨_,k - 1,rfl,zo,_,i + 1,rfl,Y1,?_,?_,?_,zo,by simpa using hR,hl⟩
    ·simp only [sT.1,sC.1,seval,-rN,e0]
    ·simp only [sT.1,sC.1,seval,-rN,U]
    ·simp only [sT.1,seval,-rN,ht]
  ·have c1:ilt (i:Int) (s.length:Int) = false:=by rw [qX];simp;omega
   simp only [qo8,sT.1,sC.1,qe,seval,-rN,ht,U,I,c1] at he
   subst he
   rw [List.drop_eq_nil_of_le hi,qaB] at hR
   exact .inr ⟨_,_,rfl,by simp,.inl ⟨rfl,hR.symm,_,rfl,Y1⟩⟩
 rw [ql 34 c34]
 by_cases g1:1 <= s.length
 ·have d1:ilt (s.length:Int) 1 = false:=by rw [qX];simp;omega
  by_cases g2:s.length <= 16
  ·have d2:ilt 16 (s.length:Int) = false:=by rw [qX];simp;omega
   simp only [c34,sT.1,sC.1,qe,qw,seval,-rN,d1,d2]
   generalize hr:qp h.length Wd (.loop qo8) _ = r
   obtain ⟨x,E,rfl,hq⟩:=qc0 hr (loop s.length _ ⟨_,0,rfl,Y0,Y0,Y0,v5,zo,rfl,g2⟩)
   rcases hq with ⟨rfl,hv,tt,rfl,ht⟩ | ⟨rfl,hv,tt,rfl,ht,e2⟩
   ·simp only [sT.1,sC.1,qe,seval,-rN,ht]
    simp [qcx,g1,g2,hv]
   ·simp only [sT.1,seval,-rN,e2]
    simp [qcx,g1,g2,hv]
  ·have d2:ilt 16 (s.length:Int) = true:=by rw [qX];simp;omega
   simp only [c34,sT.1,sC.1,qe,qw,seval,-rN,d1,d2]
   simp [qcx,g2]
 ·have d1:ilt (s.length:Int) 1 = true:=by rw [qX];simp;omega
  simp only [c34,sT.1,sC.1,qe,qw,seval,-rN,d1]
  simp [qcx,g1]
def qDU:qd->Str
 | .str s=>s
 | _=>[]
def words:List Str:=g0.map qDU
theorem qxI:g0 = words.map qd.str:=zk
theorem quM:words.length = 33:=zk
def qdb (s:Str):Bool:=words.any (· == s)
theorem qmy (s:Str) (h:List qh):Wd (.fn 35 [] []) [.str s] h = some (.ret (.bool (qdb s)),h,false):=by
 have loop:∀k st,(∃tt i,st = ⟨tt,h,false⟩/\tt.length = 13/\lkp tt 0 = .str s/\lkp tt 5 = .agg g0/\lkp tt 6 = .int .i64 (i:Nat)/\i + k = 33/\(words.drop i).any (· == s) = qdb s)->
   ∃x E,qp h.length Wd (.loop qmg) st = some (x,E)/\((x = .exit 0/\qdb s = false/\∃tt,E = ⟨tt,h,false⟩/\tt.length = 13)\/(x = .ret/\qdb s = true/\∃tt,E = ⟨tt,h,false⟩/\tt.length = 13/\lkp tt 2 = .bool true)):=by
  refine qao _ (λx E=>(x = .exit 0/\qdb s = false/\∃tt,E = ⟨tt,h,false⟩/\tt.length = 13)\/(x = .ret/\qdb s = true/\∃tt,E = ⟨tt,h,false⟩/\tt.length = 13/\lkp tt 2 = .bool true)) ?_
  rintro k st ⟨tt,i,rfl,ht,e0,e5,e6,U,hR⟩
  generalize he:qp h.length Wd qmg _ = r
  have I:=quM
  rcases Nat.lt_or_ge i 33 with hi | hi
  ·have c1:ilt (i:Int) 33 = true:=by rw [qX];simp;omega
   have hx:qBC 33 none (.agg g0) (.int .i64 (i:Nat)) = some (.str (words[i]' zo)):=by
    rw [qno (v:=.str (words[i]' zo)) hi (by rw [qxI,jr,jh zo];rfl)]
    rfl
   have w:=qC (n:=i) zo
   rw [jU zo,List.any_cons] at hR
   cases hb:((words[i]' zo) == s) with
   | true=>
    rw [hb] at hR
    simp only [qmg,sT.1,sC.1,qe,seval,-rN,ht,e0,e5,e6,c1,hx,hb] at he
    subst he
    refine .inr ⟨_,_,rfl,by simp,.inr ⟨rfl,by simpa using hR.symm,_,rfl,Y1,?_⟩⟩
    simp only [sT.1,seval,-rN,ht]
   | false=>
    rw [hb] at hR
    simp only [qmg,sT.1,sC.1,qe,seval,-rN,ht,e0,e5,e6,c1,hx,hb,w] at he
    subst he
    refine .inl ⟨_,k - 1,rfl,zo,_,i + 1,rfl,Y1,?_,?_,?_,zo,by simpa using hR⟩
    ·simp only [sT.1,sC.1,seval,-rN,e0]
    ·simp only [sT.1,sC.1,seval,-rN,e5]
    ·simp only [sT.1,seval,-rN,ht]
  ·have c1:ilt (i:Int) 33 = false:=by rw [qX];simp;omega
   simp only [qmg,sT.1,sC.1,qe,seval,-rN,ht,e6,c1] at he
   subst he
   rw [List.drop_eq_nil_of_le zo,List.any_nil] at hR
   exact .inr ⟨_,_,rfl,by simp,.inl ⟨rfl,hR.symm,_,rfl,Y1⟩⟩
 have hg:cut g0 0 (some 33) = some (.agg g0):=zk
 rw [ql 35 c35]
 simp only [c35,sT.1,sC.1,qe,seval,-rN,hg]
 generalize hr:qp h.length Wd (.loop qmg) _ = r
 obtain ⟨x,E,rfl,hq⟩:=qc0 hr (loop 33 _ ⟨_,0,rfl,Y0,Y0,Y0,v5,zo,rfl⟩)
 rcases hq with ⟨rfl,hv,tt,rfl,ht⟩ | ⟨rfl,hv,tt,rfl,ht,e2⟩
 ·simp only [sT.1,sC.1,qe,seval,-rN,ht,hv]
 ·simp only [sT.1,seval,-rN,e2,hv]
def qy (s:Str):Bool:=qcx s && !qdb s
theorem qaz (s:Str) (h:List qh):Wd (.fn 18 [] []) [.str s] h = some (.ret (.bool (qy s)),h,false):=by
 rw [ql 18 c18]
 cases hv:qcx s <;> cases hr:qdb s <;> (simp only [c18,sT.1,sC.1,qe,qw,seval,-rN,qe7,qmy,hv,hr];simp [qy,hv,hr])
structure Tok where
 kind:Int
 s:Str
 n:Int
 pos:Int
def Tok.enc (t:Tok):qd:=.agg [.int .i64 t.kind,.str t.s,.int .i64 t.n,.int .i64 t.pos]
def PB (ws:List Tok) (n:Nat):qh:=.cells [.lst (ws.map Tok.enc) .no,.int .i64 (n:Int)]
structure WF (ws:List Tok):Prop where
 len:ws.length < 100000
 last:∀n w,ws[n]? = some w->w.kind ≠ 4->n + 1 < ws.length
def word (ws:List Tok) (n:Nat):Tok:=ws.getD n ⟨4,[],0,0⟩
theorem qj7 {ws:List Tok} {n:Nat} (hn:n < ws.length):ws[n]? = some (word ws n):=by
 simp [word,List.getD,jh hn]
theorem WF.next {ws:List Tok} (hw:WF ws) {n:Nat} (hn:n < ws.length) (h:(word ws n).kind ≠ 4):n + 1 < ws.length:=hw.last n _ (qj7 hn) h
section
variable {h:List qh} {i:Nat} {ws:List Tok} {n:Nat}
theorem qo {b:qh} (hi:h[i]? = some b):i < h.length:=(List.getElem?_eq_some_iff.1 hi).1
theorem qS (hw:WF ws) (hn:n < ws.length) (hi:h[i]? = some (PB ws n)):Wd (.fn 88 [] []) [.ptr i 0] h = some (.ret (word ws n).enc,h,false):=by
 have hl:ilt (n:Int) ((ws.map Tok.enc).length:Int) = true:=by
  rw [qX];simp;omega
 have hx:qfH 4 (.lst (ws.map Tok.enc) .no) (.int .i64 (n:Nat)) = some (.iptr (word ws n).enc.cells 0):=qar (by rw [jr,qj7 hn];rfl) rfl
 have E:=qo hi
 rw [ql 88 c88]
 simp only [c88,sT.1,sC.1,qe,Nat.testBit,seval,-rN,PB,hi,hl,hx,E,Tok.enc]
theorem qcN (hw:WF ws) (hn:n < ws.length) (hi:h[i]? = some (PB ws n)):Wd (.fn 90 [] []) [.ptr i 0] h = some (.ret (.int .i64 (word ws n).pos),h,false):=by
 rw [ql 90 c90]
 simp only [c90,sT.1,sC.1,qe,seval,-rN,qS hw hn hi,Tok.enc]
def qya:TypeId:=98
def qea (pos e:Int):qd:=.iface qya (.agg [.int .i64 pos,.int .i64 e])
theorem qu (pos e:Int) (n:Nat):(qea pos e).lower n = true:=by simp [qea,qd.lower,qv]
theorem qay (pos e:Int) (p:qd):Wd (.fn 89 [] []) [p,.int .i64 pos,.int .i64 e] h = some (.pan (qea pos e),h,false):=by
 rw [ql 89 c89]
 simp only [c89,sT.1,sC.1,qe,seval,-rN,qJ,qea,qya]
theorem qhw (hw:WF ws) (hn:n < ws.length) (hi:h[i]? = some (PB ws n)):Wd (.fn 44 [] []) [.ptr i 0] h = some (.pan (qea (word ws n).pos 6),h,false):=by
 rw [ql 44 c44]
 simp only [c44,sT.1,sC.1,qe,seval,-rN,qcN hw hn hi,qay,qu]
def isW (ws:List Tok) (n:Nat) (s:Str):Bool:=((word ws n).kind == 3 || (word ws n).kind == 0) && (word ws n).s == s
theorem qgs (hw:WF ws) (hn:n < ws.length) (hi:h[i]? = some (PB ws n)) (s:Str):Wd (.fn 43 [] []) [.ptr i 0,.str s] h = some (.ret (.bool (isW ws n s)),h,false):=by
 rw [ql 43 c43]
 simp only [c43,sT.1,sC.1,qe,qw,seval,-rN,qS hw hn hi,Tok.enc,isW]
theorem qU (hw:WF ws) (hn:n < ws.length) {s:Str} (hs:isW ws n s = true):n + 1 < ws.length:=by
 refine hw.next hn λh4=>?_
 simp [isW,h4] at hs
theorem qaa (hw:WF ws) (hn:n < ws.length) (hi:h[i]? = some (PB ws n)) {s:Str} (hs:isW ws n s = false):Wd (.fn 95 [] []) [.ptr i 0,.str s] h = some (.ret (.bool false),h,false):=by
 rw [ql 95 c95]
 simp only [c95,sT.1,sC.1,qe,seval,-rN,qgs hw hn hi,hs]
theorem qqg (hi:h[i]? = some (PB ws n)):h.set i (PB ws n) = h:=by
 apply List.ext_getElem?
 intro j
 by_cases hj:i = j
 ·subst hj;rw [hi,List.getElem?_set_self (qo hi)]
 ·rw [List.getElem?_set_ne hj]
theorem qI (hw:WF ws) (hn:n < ws.length) (hi:h[i]? = some (PB ws n)) {s:Str} (hs:isW ws n s = true):Wd (.fn 95 [] []) [.ptr i 0,.str s] h = some (.ret (.bool true),h.set i (PB ws (n + 1)),false):=by
 have I:=qo hi
 have hl:=hw.len
 have w:=qC (n:=n) zo
 have E:h[i]? = some (.cells [.lst (ws.map Tok.enc) .no,.int .i64 (n:Int)]):=hi
 rw [ql 95 c95]
 simp only [c95,sT.1,sC.1,qe,seval,-rN,qgs hw hn hi,hs,E,w]
 rfl
theorem qa8 (hw:WF ws) (hn:n < ws.length) (hi:h[i]? = some (PB ws n)) {s:Str} (hs:isW ws n s = true):Wd (.fn 47 [] []) [.ptr i 0,.str s] h = some (.ret (.tup []),h.set i (PB ws (n + 1)),false):=by
 rw [ql 47 c47]
 simp only [c47,sT.1,sC.1,qe,seval,-rN,qI hw hn hi hs]
theorem qAm (hw:WF ws) (hn:n < ws.length) (hi:h[i]? = some (PB ws n)) {s:Str} (hs:isW ws n s = false):Wd (.fn 47 [] []) [.ptr i 0,.str s] h = some (.pan (qea (word ws n).pos 6),h,false):=by
 rw [ql 47 c47]
 simp only [c47,sT.1,sC.1,qe,seval,-rN,qaa hw hn hi hs,qhw hw hn hi,qu]
def qaT (ws:List Tok) (n:Nat):Bool:=(word ws n).kind == 0 && qy (word ws n).s
theorem qaN (hw:WF ws) (hn:n < ws.length) (hs:qaT ws n = true):n + 1 < ws.length:=by
 refine hw.next hn λh4=>?_
 simp [qaT,h4] at hs
theorem qR (hw:WF ws) (hn:n < ws.length) (hi:h[i]? = some (PB ws n)):Wd (.fn 96 [] []) [.ptr i 0] h = some (.ret (.bool (qaT ws n)),h,false):=by
 rw [ql 96 c96]
 cases hk:(word ws n).kind == 0 <;> simp only [c96,sT.1,sC.1,qe,qw,seval,-rN,qS hw hn hi,Tok.enc,qaz,qaT,hk]
theorem qdV (hw:WF ws) (hn:n < ws.length) (hi:h[i]? = some (PB ws n)) (hs:qaT ws n = true):Wd (.fn 48 [] []) [.ptr i 0] h = some (.ret (.str (word ws n).s),h.set i (PB ws (n + 1)),false):=by
 have I:=qo hi
 have hl:=hw.len
 have w:=qC (n:=n) zo
 have E:h[i]? = some (.cells [.lst (ws.map Tok.enc) .no,.int .i64 (n:Int)]):=hi
 rw [ql 48 c48]
 simp only [c48,sT.1,sC.1,qe,seval,-rN,qR hw hn hi,hs,qS hw hn hi,Tok.enc,E,w]
 rfl
end
def fl (b:Bool):qgH:=bif b then .full else .no
theorem qa9 (xs:List qd) (b:Bool):(qd.lst xs (fl b)).dim = .lst xs (fl b):=by cases b <;> rfl
theorem qbZ (xs:List qd) (b:Bool) (i:Nat) (t:List qd):qbH (.lst xs (fl b)) i t = t:=by cases b <;> rfl
inductive Exp where
 | mk (op n:Int) (name sub:Str) (args:List Exp)
mutual
def Exp.cs (φ:Int->Nat->Bool):Exp->List qd
 | .mk op n name sub args=>[.int .i64 op,.int .i64 n,.str name,.str sub,.lst (qcE φ args) (fl (φ op args.length))]
def qcE (φ:Int->Nat->Bool):List Exp->List qd
 | []=>[]
 | e :: es=>.agg (e.cs φ) :: qcE φ es
end
def Exp.enc (φ:Int->Nat->Bool) (e:Exp):qd:=.agg (e.cs φ)
theorem qeo (φ:Int->Nat->Bool):∀es:List Exp,qcE φ es = es.map (Exp.enc φ)
 | []=>rfl
 | e :: es=>by simp [qcE,qeo φ es,Exp.enc]
theorem Exp.cs_len (φ:Int->Nat->Bool):∀e:Exp,(e.cs φ).length = 5
 | .mk ..=>rfl
mutual
def Exp.depth:Exp->Nat
 | .mk _ _ _ _ args=>qa5 args + 1
def qa5:List Exp->Nat
 | []=>0
 | e :: es=>max e.depth (qa5 es)
end
def φP:Int->Nat->Bool:=λ_ n=>n == 0
structure Nd where
 e:Exp
 pos:Int
def Nd.cs (x:Nd):List qd:=x.e.cs φP ++ [.int .i64 (x.e.depth:Nat),.int .i64 x.pos]
def Nd.enc (x:Nd):qd:=.agg x.cs
theorem qfQ:∀(a b:List Exp),qa5 (a ++ b) = max (qa5 a) (qa5 b)
 | [],b=>by simp [qa5]
 | e :: a,b=>by simp [qa5,qfQ a b,Nat.max_assoc]
section
variable {h:List qh}
mutual
theorem qm5 (φ:Int->Nat->Bool) (n:Nat):∀e:Exp,qv n (e.cs φ) = true
 | .mk op k name sub args=>by simp [Exp.cs,qv,qd.lower,qbl φ n args]
theorem qbl (φ:Int->Nat->Bool) (n:Nat):∀es:List Exp,qv n (qcE φ es) = true
 | []=>rfl
 | e :: es=>by simp [qcE,qv,qd.lower,qm5 φ n e,qbl φ n es]
end
theorem Nd.lower (x:Nd) (n:Nat):x.enc.lower n = true:=by
 obtain ⟨⟨op,k,name,sub,args⟩,pos⟩:=x
 simp [Nd.enc,Nd.cs,Exp.cs,qd.lower,qv,qbl]
theorem qvP {es:List Exp} (φ:Int->Nat->Bool):∀x ∈ qcE φ es,x.cells.length = 5:=by
 intro x hx
 rw [qeo] at hx
 obtain ⟨e,_,rfl⟩:=List.mem_map.1 hx
 exact e.cs_len φ
theorem qqZ (φ:Int->Nat->Bool):∀e:Exp,(e.cs φ).all qd.storable = true
 | .mk ..=>rfl
theorem qrw (φ:Int->Nat->Bool) (es:List Exp):(qcE φ es).length = es.length:=by rw [qeo,jQ]
theorem qxQ {es:List Exp} (e:Exp) (φ:Int->Nat->Bool) (hl:es.length <= 1000):qdr 5 (qcE φ es) [.agg (e.cs φ)] = true:=by
 simp only [qdr,jk,decide_eq_true_eq]
 refine ⟨⟨?_,?_⟩,?_⟩
 ·rw [qrw]
  simp only [jy,jz,qi]
  omega
 ·simp [qd.cells,e.cs_len φ]
  simpa using qqZ φ e
 ·cases hh:(qcE φ es).head? with
  | none=>rfl
  | some x=>simp [qvP φ x (List.mem_of_mem_head? hh)]
theorem qky (φ:Int->Nat->Bool) (a b:List Exp):qcE φ (a ++ b) = qcE φ a ++ qcE φ b:=by simp [qeo]
def qgv (op n:Int) (name sub:Str) (pos:Int) (done:List Exp):qh:=
 .cells [.int .i64 op,.int .i64 n,.str name,.str sub,.lst (qcE φP done) (bif done.isEmpty then .full else .own 5),.int .i64 ((qa5 done + 1:Nat):Int),.int .i64 pos]
def qlz (h:List qh) (p:qd) (pos op n:Int) (name sub:Str) (parts:List Nd) (f:Bool) (i:Nat) (st:St):Prop:=
 ∃tt H,st = ⟨tt,H,false⟩/\tt.length = 45/\lkp tt 0 = p.dim/\lkp tt 1 = .int .i64 pos/\lkp tt 8 = .ptr (h.length + 1) 0/\lkp tt 9 = .ptr (h.length + 2) 0/\lkp tt 15 = .lst (parts.map Nd.enc) (fl f)/\lkp tt 16 = .int .i64 (parts.length:Nat)/\lkp tt 17 = .int .i64 (i:Nat)/\
  h.length + 2 < H.length/\H[h.length + 2]? = some (qgv op n name sub pos ((parts.take i).map Nd.e))/\H[h.length + 1]? = some (.cells [.int .i64 0,.int .i64 0,.str [],.str [],.lst [] .full,.int .i64 0,.int .i64 0])/\H.take h.length = h
theorem qs1 (p:qd) (pos op n:Int) (name sub:Str) (parts:List Nd) (f:Bool) (hp:parts.length <= 4) (hd:∀x ∈ parts,x.e.depth <= 20) :
  ∀k st,(∃i,i + k = parts.length/\qlz h p pos op n name sub parts f i st)->∃x a7,qp h.length Wd (.loop qhP) st = some (x,a7)/\(x = .exit 0/\qlz h p pos op n name sub parts f parts.length a7):=by
 refine qao _ (λx a7=>x = .exit 0/\qlz h p pos op n name sub parts f parts.length a7) ?_
 rintro k st ⟨i,ap,tt,H,rfl,ht,e0,e1,e8,e9,a6,a1,a8,hH,g2,g1,gt⟩
 generalize he:qp h.length Wd qhP _ = r
 rcases Nat.lt_or_ge i parts.length with hi | hi
 ·have c1:ilt (i:Int) (parts.length:Int) = true:=by rw [qX];simp;omega
  have w:=qC (n:=i) zo
  have hx:qfH 7 (.lst (parts.map Nd.enc) (fl f)) (.int .i64 (i:Nat)) = some (.iptr (parts[i]).cs 0):=qar (x:=(parts[i]).enc) (by rw [jr,jh hi];rfl) (by simp [Nd.enc,qd.cells,Nd.cs,Exp.cs_len])
  have ac:=hd _ (List.getElem_mem hi)
  have aa:parts.take (i + 1) = parts.take i ++ [parts[i]]:=by rw [List.take_add_one,jh hi];rfl
  rcases ai:parts[i] with ⟨⟨Y,n',I,U,E⟩,pos'⟩
  rw [ai] at hx ac aa
  simp only [Nd.cs,Exp.cs,jw,jW] at hx
  have aj:(parts.take i).length = i:=by simp;omega
  have wd:IntKind.i64.wrap (((Exp.mk Y n' I U E).depth:Int) + 1) = (((Exp.mk Y n' I U E).depth + 1:Nat):Int):=qC (by simp only at ac;omega)
  have ad:Nat.ble h.length (h.length + 2) = true:=qj zo
  have ae:Nat.ble h.length H.length = true:=qj zo
  rcases Nat.eq_zero_or_pos i with h0 | h0
  ·subst h0
   simp only [List.take_zero,List.map_nil,qgv,List.isEmpty_nil,cond_true,qcE,qa5] at g2
   have ab:qdr 5 [] [.agg [.int .i64 Y,.int .i64 n',.str I,.str U,.lst (qcE φP E) (fl (φP Y E.length))]] = true:=qxQ (es:=[]) (.mk Y n' I U E) φP (by simp)
   simp only [qhP,sT.1,sC.1,sTA.1,sCA.1,qe,qef,qeg,Src.isTmp,qb0,Src.hangs,qB.isT,qeI,bne,seval,-rN,qa9,ht,e9,a6,a1,a8,c1,hx,w,hH,g2,ab,qdv,wd,ad,ae] at he
   subst he
   refine .inl ⟨_,k - 1,rfl,zo,1,zo,_,_,rfl,Y1,?_,?_,?_,?_,?_,?_,?_,?_,?_,?_,?_⟩
   ·simp only [sT.1,sC.1,seval,-rN,e0]
   ·simp only [sT.1,sC.1,seval,-rN,e1]
   ·simp only [sT.1,sC.1,seval,-rN,e8]
   ·simp only [sT.1,sC.1,seval,-rN,e9]
   ·simp only [sT.1,sC.1,seval,-rN,a6]
   ·simp only [sT.1,sC.1,seval,-rN,a1]
   ·simp only [sT.1,seval,-rN,ht]
   ·simp only [ji,jV,jy,jz];omega
   ·rw [qcP (by rw [jV];exact hH),qes hH,aa]
    simp [qgv,qcE,Exp.cs,qa5]
   ·rw [qcP (by rw [jV];omega),qb9 zo,g1]
   ·rw [jS (by rw [jV];omega),jT zo,gt]
  ·have ak:(parts.take i).map Nd.e ≠ []:=by
    intro af
    have:=congrArg List.length af
    rw [jQ,aj] at this
    simp at this
    omega
   have am:((parts.take i).map Nd.e).isEmpty = false:=by cases hq:(parts.take i).map Nd.e with | nil=>exact absurd hq ak | cons=>rfl
   simp only [qgv,am,cond_false] at g2
   have ab:qdr 5 (qcE φP ((parts.take i).map Nd.e)) [.agg [.int .i64 Y,.int .i64 n',.str I,.str U,.lst (qcE φP E) (fl (φP Y E.length))]] = true:=qxQ (.mk Y n' I U E) φP (by rw [jQ];omega)
   simp only [qhP,sT.1,sC.1,sTA.1,sCA.1,qe,qef,qeg,Src.isTmp,qb0,Src.hangs,qB.isT,qeI,bne,seval,-rN,qa9,ht,e9,a6,a1,a8,c1,hx,w,hH,g2,ab,qdv,wd,ad,ae] at he
   subst he
   refine .inl ⟨_,k - 1,rfl,zo,i + 1,zo,_,_,rfl,Y1,?_,?_,?_,?_,?_,?_,?_,?_,?_,?_,?_⟩
   ·simp only [sT.1,sC.1,seval,-rN,e0]
   ·simp only [sT.1,sC.1,seval,-rN,e1]
   ·simp only [sT.1,sC.1,seval,-rN,e8]
   ·simp only [sT.1,sC.1,seval,-rN,e9]
   ·simp only [sT.1,sC.1,seval,-rN,a6]
   ·simp only [sT.1,sC.1,seval,-rN,a1]
   ·simp only [sT.1,seval,-rN,ht]
   ·simp only [ji,jV,jy,jz];omega
   ·rw [qcP (by rw [jV];exact hH),qes hH,aa]
    simp [qgv,qcE,Exp.cs,qa5,qky,qfQ]
    cases List.take i (List.map Nd.e parts) <;> rfl
   ·rw [qcP (by rw [jV];omega),qb9 zo,g1]
   ·rw [jS (by rw [jV];omega),jT zo,gt]
 ·have c1:ilt (i:Int) (parts.length:Int) = false:=by rw [qX];simp;omega
  have al:i = parts.length:=zo
  subst al
  simp only [qhP,sT.1,sC.1,qe,seval,-rN,ht,a1,a8,c1] at he
  subst he
  refine .inr ⟨_,_,rfl,by simp,rfl,_,_,rfl,Y1,?_,?_,?_,?_,?_,?_,?_,hH,g2,g1,gt⟩
  ·simp only [sT.1,sC.1,seval,-rN,e0]
  ·simp only [sT.1,sC.1,seval,-rN,e1]
  ·simp only [sT.1,sC.1,seval,-rN,e8]
  ·simp only [sT.1,sC.1,seval,-rN,e9]
  ·simp only [sT.1,sC.1,seval,-rN,a6]
  ·simp only [sT.1,sC.1,seval,-rN,a1]
  ·simp only [sT.1,sC.1,seval,-rN,a8]
def mkE (op n:Int) (name sub:Str) (parts:List Nd):Exp:=.mk op n name sub (parts.map Nd.e)
theorem qh0 (p:qd) (pos op n:Int) (name sub:Str) (parts:List Nd) (f:Bool) (hp:parts.length <= 4) (hd:∀x ∈ parts,x.e.depth <= 20) :
  Wd (.fn 101 [] []) [p,.int .i64 pos,.agg [.int .i64 op,.int .i64 n,.str name,.str sub,.lst [] .full],.lst (parts.map Nd.enc) (fl f)] h =
   if (mkE op n name sub parts).depth <= 20 then some (.ret (Nd.enc ⟨mkE op n name sub parts,pos⟩),h,false) else some (.pan (qea pos 7),h,false):=by
 have a1:Nat.ble h.length (h.length + 2) = true:=qj zo
 have U:Nat.ble h.length (h.length + 1) = true:=qj zo
 rw [ql 101 qDZ]
 simp only [qDZ,sT.1,sC.1,qe,seval,-rN,qa9,qJ,a1]
 generalize hr:qp h.length Wd (.loop qhP) _ = r
 obtain ⟨x,a7,rfl,rfl,tt,H,rfl,ht,e0,e1,e8,e9,ac,ab,aa,hH,g2,g1,gt⟩:=qc0 hr (qs1 (h:=h) p pos op n name sub parts f hp hd parts.length _ ⟨0,zo,_,_,rfl,Y0,Y0,Y0,Y0,Y0,Y0,by simp only [sT.1,sC.1,seval,-rN,jQ],v5,by simp only [sC.1,seval,-rN];omega,by simp only [sT.1,sC.1,seval,-rN];rfl,Y0,by simp⟩)
 rw [List.take_length] at g2
 simp only [qgv] at g2
 have E:(mkE op n name sub parts).depth = qa5 (parts.map Nd.e) + 1:=rfl
 have a8:h.length + 2 ≠ h.length + 1:=zo
 have Y:(qd.lst (qcE φP (parts.map Nd.e)) (bif (parts.map Nd.e).isEmpty then .full else .own 5)).dim = .lst (qcE φP (parts.map Nd.e)) (fl (φP op (parts.map Nd.e).length)):=by cases parts <;> rfl
 by_cases hq:(mkE op n name sub parts).depth <= 20
 ·have d1:ilt 20 ((qa5 (parts.map Nd.e) + 1:Nat):Int) = false:=by rw [qX];rw [E] at hq;simp;omega
  simp only [sT.1,sC.1,qe,seval,-rN,ht,e8,e9,g2,g1,d1,U,Y,qa9]
  have a6:h.length + 1 < H.length:=zo
  have I:(H.set (h.length + 1) (.cells (Nd.cs ⟨mkE op n name sub parts,pos⟩))).take h.length = h:=by rw [jT zo,gt]
  simp only [Nd.cs,Exp.cs,mkE,jw,jW] at I
  simp only [sT.1,sC.1,seval,-rN,a6,qa9]
  rw [if_pos hq]
  exact congrArg some (qbb I (Nd.lower ⟨mkE op n name sub parts,pos⟩ _))
 ·have d1:ilt 20 ((qa5 (parts.map Nd.e) + 1:Nat):Int) = true:=by rw [qX];rw [E] at hq;simp;omega
  simp only [sT.1,sC.1,qe,seval,-rN,ht,e0,e1,e9,g2,d1,qku,qay]
  rw [qaR gt (qu _ _ _),if_neg hq]
end
section
variable {h:List qh} {i:Nat} {ws:List Tok} {n:Nat}
theorem qdU (p:qd) (pos op k:Int) (name sub:Str):Wd (.fn 101 [] []) [p,.int .i64 pos,.agg [.int .i64 op,.int .i64 k,.str name,.str sub,.lst [] .full],.lst [] .full] h = some (.ret (Nd.enc ⟨.mk op k name sub [],pos⟩),h,false):=by
 have:=qh0 (h:=h) p pos op k name sub [] true (by simp) (by simp)
 rw [if_pos (by simp [mkE,Exp.depth,qa5])] at this
 exact this
theorem qpo (p:qd) (pos op k:Int) (name sub:Str) (x:Nd) (hx:x.e.depth <= 20):Wd (.fn 101 [] []) [p,.int .i64 pos,.agg [.int .i64 op,.int .i64 k,.str name,.str sub,.lst [] .full],.lst [x.enc] .full] h =
  if (Exp.mk op k name sub [x.e]).depth <= 20 then some (.ret (Nd.enc ⟨.mk op k name sub [x.e],pos⟩),h,false) else some (.pan (qea pos 7),h,false):=
 qh0 (h:=h) p pos op k name sub [x] true (by simp) (by simpa using hx)
theorem qez (p:qd) (pos op k:Int) (name sub:Str) (x y:Nd) (hx:x.e.depth <= 20) (hy:y.e.depth <= 20):Wd (.fn 101 [] []) [p,.int .i64 pos,.agg [.int .i64 op,.int .i64 k,.str name,.str sub,.lst [] .full],.lst [x.enc,y.enc] .full] h =
  if (Exp.mk op k name sub [x.e,y.e]).depth <= 20 then some (.ret (Nd.enc ⟨.mk op k name sub [x.e,y.e],pos⟩),h,false) else some (.pan (qea pos 7),h,false):=
 qh0 (h:=h) p pos op k name sub [x,y] true (by simp) (by simpa using ⟨hx,hy⟩)
theorem qHi (p:qd) (pos op k:Int) (name sub:Str) (x y z:Nd) (hx:x.e.depth <= 20) (hy:y.e.depth <= 20) (hz:z.e.depth <= 20):Wd (.fn 101 [] []) [p,.int .i64 pos,.agg [.int .i64 op,.int .i64 k,.str name,.str sub,.lst [] .full],.lst [x.enc,y.enc,z.enc] .full] h =
  if (Exp.mk op k name sub [x.e,y.e,z.e]).depth <= 20 then some (.ret (Nd.enc ⟨.mk op k name sub [x.e,y.e,z.e],pos⟩),h,false) else some (.pan (qea pos 7),h,false):=
 qh0 (h:=h) p pos op k name sub [x,y,z] true (by simp) (by simpa using ⟨hx,hy,hz⟩)
theorem PBi (ws:List Tok) (n:Nat):PB ws n = .cells [.lst (ws.map Tok.enc) .no,.int .i64 (n:Int)]:=Eq.trans rfl rfl
theorem Nd.stor (x:Nd):x.cs.all qd.storable = true:=by
 obtain ⟨⟨op,k,name,sub,args⟩,pos⟩:=x
 rfl
theorem Nd.dims (x:Nd):x.cs.map qd.dim = x.cs:=by
 obtain ⟨⟨op,k,name,sub,args⟩,pos⟩:=x
 simp [Nd.cs,Exp.cs,qd.dim,fl]
 cases φP op args.length <;> rfl
theorem Nd.len (x:Nd):x.cs.length = 7:=by
 obtain ⟨⟨op,k,name,sub,args⟩,pos⟩:=x
 rfl
theorem Nd.dimE (x:Nd):x.enc.dim = x.enc:=rfl
theorem Nd.cellsE (x:Nd):x.enc.cells = x.cs:=rfl
theorem Nd.cutE (x:Nd):cut x.cs 0 (some 7) = some x.enc:=by
 rw [qeR (by rw [Nd.len];omega),List.drop_zero,List.take_of_length_le (by rw [Nd.len];omega),Nd.dims]
 rfl
theorem Nd.drainE (x:Nd) (j:Nat) (t:List qd):qbH x.enc j t = t:=rfl
theorem qmO (hw:WF ws) (hn:n < ws.length) (hi:h[i]? = some (PB ws n)) (h1:qaT ws n = true) (h2:isW ws (n + 1) [46] = true) (h3:qaT ws (n + 1 + 1) = true) :
  Wd (.fn 220 [] []) [.ptr i 0] h = some (.ret (Nd.enc ⟨.mk 5 0 (word ws n).s (word ws (n + 1 + 1)).s [],(word ws n).pos⟩),h.set i (PB ws (n + 1 + 1 + 1)),false):=by
 have E:=qo hi
 have hl:=hw.len
 have n1:=qaN hw hn h1
 have n2:=qU hw n1 h2
 have n3:=qaN hw n2 h3
 have w:=qC (n:=n + 1) zo
 rw [PBi] at hi
 rw [ql 220 qzd]
 simp only [qzd,sT.1,sC.1,qe,seval,-rN,qcN hw hn,qdV hw hn,hi,h1,qgs hw n1,h2,E,PBi,w,qR hw n2,h3,qdV hw n2,qJ,qdU,Nd.dimE,Nd.cellsE,Nd.cutE,Nd.dims,Nd.len,Nd.stor,Nd.lower,Nd.drainE]
theorem qiz (hw:WF ws) (hn:n < ws.length) (hi:h[i]? = some (PB ws n)) (h1:qaT ws n = true) (h2:isW ws (n + 1) [46] = true->qaT ws (n + 1 + 1) = false) :
  Wd (.fn 220 [] []) [.ptr i 0] h = some (.ret (Nd.enc ⟨.mk 4 0 (word ws n).s [] [],(word ws n).pos⟩),h.set i (PB ws (n + 1)),false):=by
 have E:=qo hi
 have hl:=hw.len
 have n1:=qaN hw hn h1
 rw [PBi] at hi
 rw [ql 220 qzd]
 cases h3:isW ws (n + 1) [46] with
 | false=>simp only [qzd,sT.1,sC.1,qe,seval,-rN,qcN hw hn,qdV hw hn,hi,h1,qgs hw n1,h3,E,PBi,qJ,qdU,Nd.dimE,Nd.cellsE,Nd.cutE,Nd.dims,Nd.len,Nd.stor,Nd.lower,Nd.drainE]
 | true=>
  have h4:=h2 h3
  have n2:=qU hw n1 h3
  have w:=qC (n:=n + 1) zo
  have w':IntKind.i64.wrap (((n + 1 + 1:Nat):Int) - 1) = ((n + 1:Nat):Int):=by rw [qbi zo zo];omega
  simp only [qzd,sT.1,sC.1,qe,seval,-rN,qcN hw hn,qdV hw hn,hi,h1,qgs hw n1,h3,E,PBi,w,w',qR hw n2,h4,qJ,qdU,Nd.dimE,Nd.cellsE,Nd.cutE,Nd.dims,Nd.len,Nd.stor,Nd.lower,Nd.drainE]
theorem qgw (hw:WF ws) (hn:n < ws.length) (hi:h[i]? = some (PB ws n)) (pos op:Int) (h1:isW ws n [40] = true) (h2:qaT ws (n + 1) = true) (h3:isW ws (n + 1 + 1) [41] = true) :
  Wd (.fn 224 [] []) [.ptr i 0,.int .i64 pos,.int .i64 op] h = some (.ret (Nd.enc ⟨.mk op 0 (word ws (n + 1)).s [] [],pos⟩),h.set i (PB ws (n + 1 + 1 + 1)),false):=by
 have E:=qo hi
 have n1:=qU hw hn h1
 have n2:=qaN hw n1 h2
 rw [PBi] at hi
 rw [ql 224 qEr]
 simp only [qEr,sT.1,sC.1,qe,seval,-rN,qa8 hw hn,qa8 hw n2,qdV hw n1,hi,h1,h2,h3,E,PBi,qJ,qdU,Nd.dimE,Nd.cellsE,Nd.cutE,Nd.dims,Nd.len,Nd.stor,Nd.lower,Nd.drainE]
end
inductive Out where
 | ok (e:Exp) (n:Nat)
 | no (pos err:Int) (n:Nat)
def qbf (f:FuncId) (ws:List Tok) (n:Nat):Out->Prop
 | .ok e n'=>n < n'/\n' < ws.length/\e.depth <= 20/\∀(h:List qh) (i:Nat),h[i]? = some (PB ws n)->Wd (.fn f [] []) [.ptr i 0] h = some (.ret (Nd.enc ⟨e,(word ws n).pos⟩),h.set i (PB ws n'),false)
 | .no pos err n'=>n' < ws.length/\∀(h:List qh) (i:Nat),h[i]? = some (PB ws n)->Wd (.fn f [] []) [.ptr i 0] h = some (.pan (qea pos err),h.set i (PB ws n'),false)
section
variable {ws:List Tok} {n:Nat}
theorem qau {s s':Str} (h:isW ws n s = true) (hs:s ≠ s'):isW ws n s' = false:=by
 simp only [isW,jk,beq_iff_eq] at h
 simp only [isW,Bool.and_eq_false_iff]
 right
 rw [h.2]
 simpa using hs
theorem qob (hw:WF ws) (hn:n < ws.length) (hs:isW ws n [116,114,117,101] = true):qbf 222 ws n (.ok (.mk 1 0 [] [] []) (n + 1)):=by
 refine ⟨zo,qU hw hn hs,by simp [Exp.depth,qa5],λh i hi=>?_⟩
 have E:=qo hi
 rw [PBi] at hi
 rw [ql 222 qlx]
 simp only [qlx,sT.1,sC.1,qe,seval,-rN,qcN hw hn,qI hw hn,hi,hs,E,PBi,qJ,qdU,Nd.dimE,Nd.cellsE,Nd.cutE,Nd.dims,Nd.len,Nd.stor,Nd.lower,Nd.drainE]
theorem qlI (hw:WF ws) (hn:n < ws.length) (hs:isW ws n [102,97,108,115,101] = true):qbf 222 ws n (.ok (.mk 2 0 [] [] []) (n + 1)):=by
 refine ⟨zo,qU hw hn hs,by simp [Exp.depth,qa5],λh i hi=>?_⟩
 have q0:isW ws n [116,114,117,101] = false:=qau hs (by decide)
 have E:=qo hi
 rw [PBi] at hi
 rw [ql 222 qlx]
 simp only [qlx,sT.1,sC.1,qe,seval,-rN,qcN hw hn,qI hw hn,qaa hw hn,hi,hs,q0,E,PBi,qJ,qdU,Nd.dimE,Nd.cellsE,Nd.cutE,Nd.dims,Nd.len,Nd.stor,Nd.lower,Nd.drainE]
theorem qjo (hw:WF ws) (hn:n < ws.length) (hs:isW ws n [101,108,97,112,115,101,100] = true):qbf 222 ws n (.ok (.mk 11 0 [] [] []) (n + 1)):=by
 refine ⟨zo,qU hw hn hs,by simp [Exp.depth,qa5],λh i hi=>?_⟩
 have q0:isW ws n [116,114,117,101] = false:=qau hs (by decide)
 have q1:isW ws n [102,97,108,115,101] = false:=qau hs (by decide)
 have E:=qo hi
 rw [PBi] at hi
 rw [ql 222 qlx]
 simp only [qlx,sT.1,sC.1,qe,seval,-rN,qcN hw hn,qI hw hn,qaa hw hn,hi,hs,q0,q1,E,PBi,qJ,qdU,Nd.dimE,Nd.cellsE,Nd.cutE,Nd.dims,Nd.len,Nd.stor,Nd.lower,Nd.drainE]
theorem qlH (hw:WF ws) (hn:n < ws.length) (hs:isW ws n [99,111,117,110,116] = true) (h1:isW ws (n + 1) [40] = true) (h2:qaT ws (n + 1 + 1) = true) (h3:isW ws (n + 1 + 1 + 1) [41] = true):qbf 222 ws n (.ok (.mk 7 0 (word ws (n + 1 + 1)).s [] []) (n + 1 + 1 + 1 + 1)):=by
 have n1:=qU hw hn hs
 have n2:=qU hw n1 h1
 have n3:=qaN hw n2 h2
 refine ⟨zo,qU hw n3 h3,by simp [Exp.depth,qa5],λh i hi=>?_⟩
 have q0:isW ws n [116,114,117,101] = false:=qau hs (by decide)
 have q1:isW ws n [102,97,108,115,101] = false:=qau hs (by decide)
 have q2:isW ws n [101,108,97,112,115,101,100] = false:=qau hs (by decide)
 have E:=qo hi
 rw [PBi] at hi
 rw [ql 222 qlx]
 simp only [qlx,sT.1,sC.1,qe,seval,-rN,qcN hw hn,qI hw hn,qaa hw hn,hi,hs,q0,q1,q2,E,PBi,qgw hw n1,h1,h2,h3,qJ,qdU,Nd.dimE,Nd.cellsE,Nd.cutE,Nd.dims,Nd.len,Nd.stor,Nd.lower,Nd.drainE]
theorem qqp (hw:WF ws) (hn:n < ws.length) (hs:isW ws n [104,97,115] = true) (h1:isW ws (n + 1) [40] = true) (h2:qaT ws (n + 1 + 1) = true) (h3:isW ws (n + 1 + 1 + 1) [41] = true):qbf 222 ws n (.ok (.mk 8 0 (word ws (n + 1 + 1)).s [] []) (n + 1 + 1 + 1 + 1)):=by
 have n1:=qU hw hn hs
 have n2:=qU hw n1 h1
 have n3:=qaN hw n2 h2
 refine ⟨zo,qU hw n3 h3,by simp [Exp.depth,qa5],λh i hi=>?_⟩
 have q0:isW ws n [116,114,117,101] = false:=qau hs (by decide)
 have q1:isW ws n [102,97,108,115,101] = false:=qau hs (by decide)
 have q2:isW ws n [101,108,97,112,115,101,100] = false:=qau hs (by decide)
 have q3:isW ws n [99,111,117,110,116] = false:=qau hs (by decide)
 have E:=qo hi
 rw [PBi] at hi
 rw [ql 222 qlx]
 simp only [qlx,sT.1,sC.1,qe,seval,-rN,qcN hw hn,qI hw hn,qaa hw hn,hi,hs,q0,q1,q2,q3,E,PBi,qgw hw n1,h1,h2,h3,qJ,qdU,Nd.dimE,Nd.cellsE,Nd.cutE,Nd.dims,Nd.len,Nd.stor,Nd.lower,Nd.drainE]
theorem qqq (hw:WF ws) (hn:n < ws.length) (hs:isW ws n [115,117,109] = true) (h1:isW ws (n + 1) [40] = true) (h2:qaT ws (n + 1 + 1) = true) (h3:isW ws (n + 1 + 1 + 1) [41] = true):qbf 222 ws n (.ok (.mk 9 0 (word ws (n + 1 + 1)).s [] []) (n + 1 + 1 + 1 + 1)):=by
 have n1:=qU hw hn hs
 have n2:=qU hw n1 h1
 have n3:=qaN hw n2 h2
 refine ⟨zo,qU hw n3 h3,by simp [Exp.depth,qa5],λh i hi=>?_⟩
 have q0:isW ws n [116,114,117,101] = false:=qau hs (by decide)
 have q1:isW ws n [102,97,108,115,101] = false:=qau hs (by decide)
 have q2:isW ws n [101,108,97,112,115,101,100] = false:=qau hs (by decide)
 have q3:isW ws n [99,111,117,110,116] = false:=qau hs (by decide)
 have q4:isW ws n [104,97,115] = false:=qau hs (by decide)
 have E:=qo hi
 rw [PBi] at hi
 rw [ql 222 qlx]
 simp only [qlx,sT.1,sC.1,qe,seval,-rN,qcN hw hn,qI hw hn,qaa hw hn,hi,hs,q0,q1,q2,q3,q4,E,PBi,qgw hw n1,h1,h2,h3,qJ,qdU,Nd.dimE,Nd.cellsE,Nd.cutE,Nd.dims,Nd.len,Nd.stor,Nd.lower,Nd.drainE]
end
theorem qcT {z:List qd} (x:Nd) (hz:z.length = 7):qfz 7 z 1 [(0,x.enc)] = some (.lst [x.enc] .full):=qdv hz zo x.len x.stor zo
theorem qcr {z:List qd} (x y:Nd) (hz:z.length = 7):qfz 7 z 2 [(0,x.enc),(1,y.enc)] = some (.lst [x.enc,y.enc] .full):=qsS hz zo x.len x.stor y.len y.stor zo
theorem qCW {z:List qd} (x y w:Nd) (hz:z.length = 7):qfz 7 z 3 [(0,x.enc),(1,y.enc),(2,w.enc)] = some (.lst [x.enc,y.enc,w.enc] .full):=qsT hz zo x.len x.stor y.len y.stor w.len w.stor zo
def quN:qh:=.cells [.int .i64 0,.int .i64 0,.str [],.str [],.lst [] .full,.int .i64 0,.int .i64 0]
def NB (x:Nd):qh:=.cells x.cs
theorem NBi (x:Nd):NB x = .cells x.cs:=Eq.trans rfl rfl
theorem qbE:quN = .cells [.int .i64 0,.int .i64 0,.str [],.str [],.lst [] .full,.int .i64 0,.int .i64 0]:=Eq.trans rfl rfl
theorem Nd.drop7 (x:Nd):x.cs.drop 7 = []:=List.drop_eq_nil_of_le (by rw [Nd.len];omega)
theorem Nd.cut6 (x:Nd):x.cs[6]? = some (.int .i64 x.pos):=by
 obtain ⟨⟨op,k,name,sub,args⟩,pos⟩:=x
 rfl
section
variable {ws:List Tok} {h:List qh}
structure qgI (h:List qh) (i:Nat) (ws:List Tok) (n:Nat) (x:Nd) (H:List qh):Prop where
 lt:i < h.length
 len:h.length + 1 < H.length
 par:H[i]? = some (PB ws n)
 res:H[h.length]? = some quN
 nod:H[h.length + 1]? = some (NB x)
 old:H.take h.length = h.set i (PB ws n)
theorem qgI.next {i n n':Nat} {x x':Nd} {H:List qh} (hl:qgI h i ws n x H) (l:List qh):qgI h i ws n' x' ((H.set i (PB ws n')).set (h.length + 1) (NB x') ++ l):=by
 have h1:=hl.lt
 have h2:=hl.len
 refine ⟨hl.lt,by simp;omega,?_,?_,?_,?_⟩
 ·rw [qcP (by simp;omega),qb9 zo,qes zo]
 ·rw [qcP (by simp;omega),qb9 zo,qb9 zo,hl.res]
 ·rw [qcP (by simp;omega),qes (by simp;omega)]
 ·rw [jS (by simp;omega),jT zo,List.take_set,hl.old,qge]
inductive qg2 (ws:List Tok) (pos:Int):Exp->Nat->Out->Prop
 | stop {e n}:isW ws n [46] = false->qg2 ws pos e n (.ok e n)
 | bad {e n}:isW ws n [46] = true->(word ws (n + 1)).kind ≠ 1->qg2 ws pos e n (.no (word ws (n + 1)).pos 6 (n + 1))
 | many {e n}:isW ws n [46] = true->(word ws (n + 1)).kind = 1->4 <= (word ws (n + 1)).n->qg2 ws pos e n (.no (word ws (n + 1)).pos 8 (n + 1))
 | qcz {e n}:isW ws n [46] = true->(word ws (n + 1)).kind = 1->(word ws (n + 1)).n < 4->¬ (Exp.mk 12 (word ws (n + 1)).n [] [] [e]).depth <= 20->qg2 ws pos e n (.no pos 7 (n + 1 + 1))
 | go {e n o}:isW ws n [46] = true->(word ws (n + 1)).kind = 1->(word ws (n + 1)).n < 4->(Exp.mk 12 (word ws (n + 1)).n [] [] [e]).depth <= 20->qg2 ws pos (.mk 12 (word ws (n + 1)).n [] [] [e]) (n + 1 + 1) o->qg2 ws pos e n o
def qn3 (h:List qh) (i:Nat) (ws:List Tok) (pos:Int) (len:Nat) (r:Option (Ex×St)):Out->Prop
 | .ok e n=>n < ws.length/\e.depth <= 20/\∃tt H,r = some (.exit 0,⟨tt,H,false⟩)/\tt.length = len/\lkp tt 2 = .ptr h.length 0/\lkp tt 3 = .ptr (h.length + 1) 0/\qgI h i ws n ⟨e,pos⟩ H
 | .no p err n=>n < ws.length/\∃tt H,r = some (.pan (qea p err),⟨tt,H,false⟩)/\H.take h.length = h.set i (PB ws n)
theorem qgI.cut {i n n':Nat} {x:Nd} {H:List qh} (hl:qgI h i ws n x H) (l:List qh):(H.set i (PB ws n') ++ l).take h.length = h.set i (PB ws n'):=by
 have h1:=hl.lt
 have h2:=hl.len
 rw [jS (by simp;omega),List.take_set,hl.old,qge]
theorem qsu (hw:WF ws) (i:Nat) (pos:Int) (e:Exp) (n:Nat) (o:Out) (hI:qg2 ws pos e n o):∀(tt:List qd) (H:List qh),n < ws.length->e.depth <= 20->tt.length = 40->lkp tt 0 = .ptr i 0->lkp tt 2 = .ptr h.length 0->lkp tt 3 = .ptr (h.length + 1) 0->qgI h i ws n ⟨e,pos⟩ H->
  qn3 h i ws pos 40 (qp h.length Wd (.loop qdu) ⟨tt,H,false⟩) o:=by
 induction hI with
 | @stop e n hs=>
  intro tt H hn hd ht e0 e2 e3 hL
  have E:i < H.length:=by have:=hL.lt;have:=hL.len;omega
  have hp:=hL.par
  rw [PBi] at hp
  rw [qr]
  generalize he:qp h.length Wd qdu _ = r
  simp only [qdu,sT.1,sC.1,qe,seval,-rN,ht,e0,qaa hw hn,hp,hs,PBi] at he
  subst he
  exact ⟨hn,hd,_,_,rfl,Y1,Y3,Y2,hL⟩
 | @bad e n hs hk=>
  intro tt H hn hd ht e0 e2 e3 hL
  have n1:=qU hw hn hs
  have E:i < H.length:=by have:=hL.lt;have:=hL.len;omega
  have Y:Nat.ble h.length H.length = true:=qj (by have:=hL.len;omega)
  have hp:=hL.par
  rw [PBi] at hp
  have U:((word ws (n + 1)).kind == 1) = false:=by simpa using hk
  rw [qr]
  generalize he:qp h.length Wd qdu _ = r
  simp only [qdu,sT.1,sC.1,qe,seval,-rN,ht,e0,qI hw hn,hp,hs,PBi,qS hw n1,E,Tok.enc,U,qhw hw n1,Y] at he
  subst he
  exact ⟨n1,_,_,rfl,hL.cut _⟩
 | @many e n hs hk hm=>
  intro tt H hn hd ht e0 e2 e3 hL
  have n1:=qU hw hn hs
  have E:i < H.length:=by have:=hL.lt;have:=hL.len;omega
  have Y:Nat.ble h.length H.length = true:=qj (by have:=hL.len;omega)
  have hp:=hL.par
  rw [PBi] at hp
  have U:((word ws (n + 1)).kind == 1) = true:=by simpa using hk
  have a1:ile 4 (word ws (n + 1)).n = true:=by rw [qav];simpa using hm
  rw [qr]
  generalize he:qp h.length Wd qdu _ = r
  simp only [qdu,sT.1,sC.1,qe,seval,-rN,ht,e0,qI hw hn,hp,hs,PBi,qS hw n1,E,Tok.enc,U,a1,qay,Y] at he
  subst he
  exact ⟨n1,_,_,rfl,hL.cut _⟩
 | @qcz e n hs hk hm a6=>
  intro tt H hn hd ht e0 e2 e3 hL
  have n1:=qU hw hn hs
  have n2:=hw.next n1 zo
  have E:i < H.length:=by have:=hL.lt;have:=hL.len;omega
  have a7:h.length + 1 < H.length:=hL.len
  have a8:i ≠ h.length + 1:=by have:=hL.lt;omega
  have Y:Nat.ble h.length H.length = true:=qj (by have:=hL.len;omega)
  have hp:=hL.par
  have I:=hL.nod
  rw [NBi] at I
  rw [PBi] at hp
  have U:((word ws (n + 1)).kind == 1) = true:=by simpa using hk
  have a1:ile 4 (word ws (n + 1)).n = false:=by rw [qav];simpa using hm
  have w:=qC (n:=n + 1) (by have:=hw.len;omega)
  rw [qr]
  generalize he:qp h.length Wd qdu _ = r
  simp only [qdu,sT.1,sC.1,qe,seval,-rN,ht,e0,e3,qI hw hn,hp,hs,PBi,qS hw n1,E,Tok.enc,U,a1,Y,a7,a8,I,w,Nd.cut6,Nd.cutE,Nd.dimE,qJ,qcT,qpo,hd,a6] at he
  subst he
  exact ⟨n2,_,_,rfl,hL.cut _⟩
 | @go e n o hs hk hm a6 hI ih=>
  intro tt H hn hd ht e0 e2 e3 hL
  have n1:=qU hw hn hs
  have n2:=hw.next n1 zo
  have E:i < H.length:=by have:=hL.lt;have:=hL.len;omega
  have a7:h.length + 1 < H.length:=hL.len
  have a8:i ≠ h.length + 1:=by have:=hL.lt;omega
  have Y:Nat.ble h.length H.length = true:=qj (by have:=hL.len;omega)
  have aa:Nat.ble h.length (h.length + 1) = true:=qj zo
  have hp:=hL.par
  have I:=hL.nod
  rw [NBi] at I
  rw [PBi] at hp
  have U:((word ws (n + 1)).kind == 1) = true:=by simpa using hk
  have a1:ile 4 (word ws (n + 1)).n = false:=by rw [qav];simpa using hm
  have w:=qC (n:=n + 1) (by have:=hw.len;omega)
  rw [qr]
  generalize he:qp h.length Wd qdu _ = r
  simp only [qdu,sT.1,sC.1,qe,seval,-rN,ht,e0,e3,qI hw hn,hp,hs,PBi,qS hw n1,E,Tok.enc,U,a1,Y,a7,a8,I,w,Nd.cut6,Nd.cutE,Nd.dimE,Nd.cellsE,Nd.dims,Nd.len,Nd.stor,Nd.drainE,Nd.drop7,qJ,qcT,qpo,hd,a6,aa] at he
  subst he
  exact ih _ _ n2 a6 Y1 u4 Y3 Y2 (hL.next _)
theorem qgI.start {i n:Nat} {x:Nd} (hi:i < h.length):qgI h i ws n x (h.set i (PB ws n) ++ [quN,NB x]):=by
 refine ⟨hi,by simp,?_,?_,?_,?_⟩
 ·rw [qcP (by simpa using hi),qes hi]
 ·rw [qdn (by simp)];rfl
 ·rw [List.getElem?_append_right (by simp)];simp
 ·rw [jS (by simp),List.take_of_length_le (by simp)]
theorem qgI.answer {i n:Nat} {x:Nd} {H:List qh} (hl:qgI h i ws n x H):leave h.length (.ret x.enc) (H.set h.length (NB x)) false = (.ret x.enc,h.set i (PB ws n),false):=
 qbb (by rw [jT zo,hl.old]) (x.lower _)
theorem qwc (hw:WF ws) {n:Nat} (hn:n < ws.length) {e:Exp} {n1:Nat} {o:Out} (h1:qbf 219 ws n (.ok e n1)) (hI:qg2 ws (word ws n).pos e n1 o) (U:∀e' n',o = .ok e' n'->n1 <= n'):qbf 218 ws n o:=by
 obtain ⟨g1,g2,g3,g4⟩:=h1
 have run:∀(h:List qh) (i:Nat),h[i]? = some (PB ws n)->∃r,qn3 h i ws (word ws n).pos 40 r o/\Wd (.fn 218 [] []) [.ptr i 0] h = qfG [.cell 2 (some 7)] h (qb1 (qp h.length Wd (.seq (.reg [ao 39 (.ld (some 7) (.t 3)),an (.st (some 7) (.t 2) (.t 39))]) .ret)) (qcO 0 r)):=by
  intro h i hi
  have a1:=qo hi
  rw [PBi] at hi
  generalize hr:Wd (.fn 218 [] []) [.ptr i 0] h = R
  rw [ql 218 qEq] at hr
  have a6:Nat.ble h.length (h.length + 1) = true:=qj zo
  simp only [qEq,sT.1,sC.1,qe,seval,-rN,g4,hi,a1,PBi,Nd.dimE,Nd.cellsE,Nd.dims,Nd.len,Nd.stor,Nd.drainE,a6] at hr
  generalize hq:qp h.length Wd (.loop qdu) _ = r at hr
  refine ⟨r,?_,?_⟩
  ·rw [<-hq]
   exact qsu hw i _ e n1 o hI _ _ g2 g3 Y0 Y0 Y0 Y0 (qgI.start a1)
  ·rw [<-hr]
   simp only [sC.1,seval,-rN]
 cases o with
 | ok e' n'=>
  have hm:=U e' n' rfl
  obtain ⟨r,hL,_⟩:=run (List.replicate 1 (PB ws n)) 0 rfl
  refine ⟨zo,hL.1,hL.2.1,λh i hi=>?_⟩
  obtain ⟨r,⟨q1,q2,tt,H,rfl,ht,e2,e3,hL⟩,hr⟩:=run h i hi
  have I:=hL.nod
  have E:=hL.res
  have a7:=hL.len
  have Y:h.length < H.length:=zo
  rw [NBi] at I
  rw [qbE] at E
  rw [hr]
  simp only [sT.1,sC.1,qe,seval,-rN,ht,e2,e3,I,E,Y,Nd.dimE,Nd.cellsE,Nd.cutE,Nd.dims,Nd.len,Nd.stor,Nd.drainE]
  exact congrArg some hL.answer
 | no pos err n'=>
  obtain ⟨r,hL,_⟩:=run (List.replicate 1 (PB ws n)) 0 rfl
  refine ⟨hL.1,λh i hi=>?_⟩
  obtain ⟨r,⟨q1,tt,H,rfl,q3⟩,hr⟩:=run h i hi
  rw [hr]
  simp only [sT.1,sC.1,seval,-rN]
  exact congrArg some (qaR q3 (qu _ _ _))
end
end Go.Proofs.YtcbfifamliijlaaGreatDoor.AE
