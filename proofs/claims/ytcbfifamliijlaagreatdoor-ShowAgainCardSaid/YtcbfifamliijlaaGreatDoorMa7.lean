/- A part of the proof. No condition. -/
import Derived.Test.YtcbfifamliijlaaGreatDoorMa6
import Derived.Test.YtcbfifamliijlaaGreatDoorMa2
import Derived.KernelRfl
import Derived.Laws.BitsLemmas
open Int renaming reduceNatCast'→rN
set_option maxRecDepth 100000
open List renaming take_append_of_le_length→jR,take_set_of_le→jS,drop_eq_getElem_cons→jT,getElem?_eq_getElem→jh,length_append→ji,length_map→jQ,length_set→jU,getElem?_map→jr,nil_append→jV,cons_append→jw,length_cons→jy,length_nil→jz
open Bool renaming and_eq_true→jk
namespace Go.Proofs.YtcbfifamliijlaaGreatDoor.AE
open Go.AE
theorem qeq:qoy X where
 mono f g h:=by
  unfold X at h
  split at h
  all_goals first
   | (cases h;with_reducible exact λc d hc aS h=>qpa hc)
   | (cases h;exact λc d hc aS h=>qpf hc (Nat.le_refl _))
   | (cases h;exact λc d hc aS h x hx=>hx)
   | cases h
 cont f g h:=by
  unfold X at h
  split at h
  all_goals first
   | (cases h;with_reducible exact λc hc aS h x hx=>qo9 hc hx)
   | (cases h;exact λc hc aS h x hx=>qpe hc hx)
   | (cases h;exact λc hc aS h x hx=>⟨0,hx⟩)
   | cases h
noncomputable def Wd:AE.Call:=W T.get X
theorem qm (f:FuncId) (fn:qt) {first args cap:List qd} {h:List qj} (h1:X f = none:=by rfl) (h2:T.get f = some fn:=by kernel_rfl) :
  Wd (.fn f first cap) args h = qfO fn.results h (qv h.length Wd fn.code ⟨(first ++ args ++ cap).map qd.dim ++ List.replicate (fn.ntmps - ((first ++ args ++ cap).map qd.dim).length) (.tup []),h,false⟩):=qJQ qeq h1 h2
theorem qN (h:List qj) (k:Nat):Nat.ble h.length (h.length + k) = true:=qx (Nat.le_add_right _ _)
theorem qbU {n:Int} (h1:-9223372036854775808 <= n) (h2:n <= 9223372036854775807):IntKind.i64.wrap n = n:=by
 rw [IntKind.wrap_i64]
 omega
theorem qJ {n:Nat} (h:n < 9223372036854775807):IntKind.i64.wrap ((n:Int) + 1) = ((n + 1:Nat):Int):=by
 rw [qbU zo zo]
 rfl
abbrev Str:=List UInt8
def qaS (c:UInt8):Bool:=ile 97 (c.toNat:Int) && ile (c.toNat:Int) 122
def qao (c:UInt8):Bool:=ile 48 (c.toNat:Int) && ile (c.toNat:Int) 57
def qar:Nat->Str->Bool
 | _,[]=>true
 | i,c :: s=>bif !qaS c && (i == 0 || !qao c) then false else qar (i + 1) s
def qcw (s:Str):Bool:=decide (1 <= s.length) && decide (s.length <= 16) && qar 0 s
theorem qor (s:Str) (h:List qj):Wd (.fn 34 [] []) [.str s] h = some (.ret (.bool (qcw s)),h,false):=by
 have loop:∀k st,(∃tt i,st = ⟨tt,h,false⟩/\tt.length = 50/\lkp tt 0 = .str s/\lkp tt 15 = .int .i64 (s.length:Nat)/\lkp tt 16 = .int .i64 (i:Nat)/\i + k = s.length/\qar i (s.drop i) = qar 0 s/\s.length <= 16)->
   ∃x E,qv h.length Wd (.loop qpB) st = some (x,E)/\((x = .exit 0/\qar 0 s = true/\∃tt,E = ⟨tt,h,false⟩/\tt.length = 50)\/(x = .ret/\qar 0 s = false/\∃tt,E = ⟨tt,h,false⟩/\tt.length = 50/\lkp tt 2 = .bool false)):=by
  refine qba _ (λx E=>(x = .exit 0/\qar 0 s = true/\∃tt,E = ⟨tt,h,false⟩/\tt.length = 50)\/(x = .ret/\qar 0 s = false/\∃tt,E = ⟨tt,h,false⟩/\tt.length = 50/\lkp tt 2 = .bool false)) ?_
  rintro k st ⟨tt,i,rfl,ht,e0,Y,I,a1,hR,hl⟩
  generalize he:qv h.length Wd qpB _ = r
  rcases Nat.lt_or_ge i s.length with hi | hi
  ·have c1:ilt (i:Int) (s.length:Int) = true:=by rw [qaj];simp;omega
   have hx:qg6 (.str s) (.int .i64 (i:Nat)) = some (.int .u8 (s[i].toNat:Nat)):=qaX (jh hi)
   have w:=qJ (n:=i) zo
   rw [jT hi,qar] at hR
   simp only [qaS,qao] at hR
   have hz:((i:Int) == 0) = (i == 0):=by rw [Bool.eq_iff_iff];simp
   simp only [qpB,sT.1,sC.1,qg,qH,seval,-rN,ht,e0,Y,I,c1,hx,hz] at he
   cases hb:(!(ile 97 (s[i].toNat:Int) && ile (s[i].toNat:Int) 122) && (i == 0 || !(ile 48 (s[i].toNat:Int) && ile (s[i].toNat:Int) 57))) with
   | true=>
    rw [hb] at hR
    simp only [hb,sT.1,seval,-rN] at he
    subst he
    refine .inr ⟨_,_,rfl,by simp,.inr ⟨rfl,by simpa using hR.symm,_,rfl,Y1,?_⟩⟩
    simp only [sT.1,seval,-rN,ht]
   | false=>
    rw [hb] at hR
    simp only [hb,sT.1,sC.1,qg,seval,-rN,ht,I,w] at he
    subst he
    refine .inl ⟨_,k - 1,rfl,zo,_,i + 1,rfl,Y1,?_,?_,?_,zo,by simpa using hR,hl⟩
    ·simp only [sT.1,sC.1,seval,-rN,e0]
    ·simp only [sT.1,sC.1,seval,-rN,Y]
    ·simp only [sT.1,seval,-rN,ht]
  ·have c1:ilt (i:Int) (s.length:Int) = false:=by rw [qaj];simp;omega
   simp only [qpB,sT.1,sC.1,qg,seval,-rN,ht,Y,I,c1] at he
   subst he
   rw [List.drop_eq_nil_of_le hi,qar] at hR
   exact .inr ⟨_,_,rfl,by simp,.inl ⟨rfl,hR.symm,_,rfl,Y1⟩⟩
 rw [qm 34 c34]
 by_cases g1:1 <= s.length
 ·have d1:ilt (s.length:Int) 1 = false:=by rw [qaj];simp;omega
  by_cases g2:s.length <= 16
  ·have d2:ilt 16 (s.length:Int) = false:=by rw [qaj];simp;omega
   simp only [c34,sT.1,sC.1,qg,qH,seval,-rN,d1,d2]
   generalize hr:qv h.length Wd (.loop qpB) _ = r
   obtain ⟨x,E,rfl,hq⟩:=qgA hr (loop s.length _ ⟨_,0,rfl,Y0,Y0,Y0,y5,zo,rfl,g2⟩)
   rcases hq with ⟨rfl,hv,tt,rfl,ht⟩ | ⟨rfl,hv,tt,rfl,ht,e2⟩
   ·simp only [sT.1,sC.1,qg,seval,-rN,ht]
    simp [qcw,g1,g2,hv]
   ·simp only [sT.1,seval,-rN,e2]
    simp [qcw,g1,g2,hv]
  ·have d2:ilt 16 (s.length:Int) = true:=by rw [qaj];simp;omega
   simp only [c34,sT.1,sC.1,qg,qH,seval,-rN,d1,d2]
   simp [qcw,g2]
 ·have d1:ilt (s.length:Int) 1 = true:=by rw [qaj];simp;omega
  simp only [c34,sT.1,sC.1,qg,qH,seval,-rN,d1]
  simp [qcw,g1]
def qE0:qd->Str
 | .str s=>s
 | _=>[]
def words:List Str:=g0.map qE0
theorem qyA:g0 = words.map qd.str:=zk
theorem qvo:words.length = 33:=zk
def qdh (s:Str):Bool:=words.any (· == s)
theorem qm3 (s:Str) (h:List qj):Wd (.fn 35 [] []) [.str s] h = some (.ret (.bool (qdh s)),h,false):=by
 have loop:∀k st,(∃tt i,st = ⟨tt,h,false⟩/\tt.length = 13/\lkp tt 0 = .str s/\lkp tt 5 = .agg g0/\lkp tt 6 = .int .i64 (i:Nat)/\i + k = 33/\(words.drop i).any (· == s) = qdh s)->
   ∃x E,qv h.length Wd (.loop qmJ) st = some (x,E)/\((x = .exit 0/\qdh s = false/\∃tt,E = ⟨tt,h,false⟩/\tt.length = 13)\/(x = .ret/\qdh s = true/\∃tt,E = ⟨tt,h,false⟩/\tt.length = 13/\lkp tt 2 = .bool true)):=by
  refine qba _ (λx E=>(x = .exit 0/\qdh s = false/\∃tt,E = ⟨tt,h,false⟩/\tt.length = 13)\/(x = .ret/\qdh s = true/\∃tt,E = ⟨tt,h,false⟩/\tt.length = 13/\lkp tt 2 = .bool true)) ?_
  rintro k st ⟨tt,i,rfl,ht,e0,e5,e6,Y,hR⟩
  generalize he:qv h.length Wd qmJ _ = r
  have I:=qvo
  rcases Nat.lt_or_ge i 33 with hi | hi
  ·have c1:ilt (i:Int) 33 = true:=by rw [qaj];simp;omega
   have hx:qCh 33 none (.agg g0) (.int .i64 (i:Nat)) = some (.str (words[i]' zo)):=by
    rw [qnL (v:=.str (words[i]' zo)) hi (by rw [qyA,jr,jh zo];rfl)]
    rfl
   have w:=qJ (n:=i) zo
   rw [jT zo,List.any_cons] at hR
   cases hb:((words[i]' zo) == s) with
   | true=>
    rw [hb] at hR
    simp only [qmJ,sT.1,sC.1,qg,seval,-rN,ht,e0,e5,e6,c1,hx,hb] at he
    subst he
    refine .inr ⟨_,_,rfl,by simp,.inr ⟨rfl,by simpa using hR.symm,_,rfl,Y1,?_⟩⟩
    simp only [sT.1,seval,-rN,ht]
   | false=>
    rw [hb] at hR
    simp only [qmJ,sT.1,sC.1,qg,seval,-rN,ht,e0,e5,e6,c1,hx,hb,w] at he
    subst he
    refine .inl ⟨_,k - 1,rfl,zo,_,i + 1,rfl,Y1,?_,?_,?_,zo,by simpa using hR⟩
    ·simp only [sT.1,sC.1,seval,-rN,e0]
    ·simp only [sT.1,sC.1,seval,-rN,e5]
    ·simp only [sT.1,seval,-rN,ht]
  ·have c1:ilt (i:Int) 33 = false:=by rw [qaj];simp;omega
   simp only [qmJ,sT.1,sC.1,qg,seval,-rN,ht,e6,c1] at he
   subst he
   rw [List.drop_eq_nil_of_le zo,List.any_nil] at hR
   exact .inr ⟨_,_,rfl,by simp,.inl ⟨rfl,hR.symm,_,rfl,Y1⟩⟩
 have hg:cut g0 0 (some 33) = some (.agg g0):=zk
 rw [qm 35 c35]
 simp only [c35,sT.1,sC.1,qg,seval,-rN,hg]
 generalize hr:qv h.length Wd (.loop qmJ) _ = r
 obtain ⟨x,E,rfl,hq⟩:=qgA hr (loop 33 _ ⟨_,0,rfl,Y0,Y0,Y0,y5,zo,rfl⟩)
 rcases hq with ⟨rfl,hv,tt,rfl,ht⟩ | ⟨rfl,hv,tt,rfl,ht,e2⟩
 ·simp only [sT.1,sC.1,qg,seval,-rN,ht,hv]
 ·simp only [sT.1,seval,-rN,e2,hv]
def qI (s:Str):Bool:=qcw s && !qdh s
theorem qa2 (s:Str) (h:List qj):Wd (.fn 18 [] []) [.str s] h = some (.ret (.bool (qI s)),h,false):=by
 rw [qm 18 c18]
 cases hv:qcw s <;> cases hr:qdh s <;> (simp only [c18,sT.1,sC.1,qg,qH,seval,-rN,qor,qm3,hv,hr];simp [qI,hv,hr])
structure Tok where
 kind:Int
 s:Str
 n:Int
 pos:Int
def Tok.enc (t:Tok):qd:=.agg [.int .i64 t.kind,.str t.s,.int .i64 t.n,.int .i64 t.pos]
def PB (ws:List Tok) (n:Nat):qj:=.cells [.lst (ws.map Tok.enc) .no,.int .i64 (n:Int)]
structure WF (ws:List Tok):Prop where
 len:ws.length < 100000
 last:∀n w,ws[n]? = some w->w.kind ≠ 4->n + 1 < ws.length
def word (ws:List Tok) (n:Nat):Tok:=ws.getD n ⟨4,[],0,0⟩
theorem qhA {ws:List Tok} {n:Nat} (hn:n < ws.length):ws[n]? = some (word ws n):=by
 simp [word,List.getD,jh hn]
theorem WF.next {ws:List Tok} (hw:WF ws) {n:Nat} (hn:n < ws.length) (h:(word ws n).kind ≠ 4):n + 1 < ws.length:=hw.last n _ (qhA hn) h
section
variable {h:List qj} {i:Nat} {ws:List Tok} {n:Nat}
theorem qf {b:qj} (hi:h[i]? = some b):i < h.length:=(List.getElem?_eq_some_iff.1 hi).1
theorem qX (hw:WF ws) (hn:n < ws.length) (hi:h[i]? = some (PB ws n)):Wd (.fn 88 [] []) [.ptr i 0] h = some (.ret (word ws n).enc,h,false):=by
 have hl:ilt (n:Int) ((ws.map Tok.enc).length:Int) = true:=by
  rw [qaj];simp;omega
 have hx:qi9 4 (.lst (ws.map Tok.enc) .no) (.int .i64 (n:Nat)) = some (.iptr (word ws n).enc.cells 0):=qa3 (by rw [jr,qhA hn];rfl) rfl
 have E:=qf hi
 rw [qm 88 c88]
 simp only [c88,sT.1,sC.1,qg,Nat.testBit,seval,-rN,PB,hi,hl,hx,E,Tok.enc]
theorem qaE (hw:WF ws) (hn:n < ws.length) (hi:h[i]? = some (PB ws n)):Wd (.fn 90 [] []) [.ptr i 0] h = some (.ret (.int .i64 (word ws n).pos),h,false):=by
 rw [qm 90 c90]
 simp only [c90,sT.1,sC.1,qg,seval,-rN,qX hw hn hi,Tok.enc]
def qse:TypeId:=98
def qbc (pos e:Int):qd:=.iface qse (.agg [.int .i64 pos,.int .i64 e])
theorem qe (pos e:Int) (n:Nat):(qbc pos e).lower n = true:=by simp [qbc,qd.lower,qw]
theorem qax (pos e:Int) (p:qd):Wd (.fn 89 [] []) [p,.int .i64 pos,.int .i64 e] h = some (.pan (qbc pos e),h,false):=by
 rw [qm 89 c89]
 simp only [c89,sT.1,sC.1,qg,seval,-rN,qz,qbc,qse]
theorem qcR (hw:WF ws) (hn:n < ws.length) (hi:h[i]? = some (PB ws n)):Wd (.fn 44 [] []) [.ptr i 0] h = some (.pan (qbc (word ws n).pos 6),h,false):=by
 rw [qm 44 c44]
 simp only [c44,sT.1,sC.1,qg,seval,-rN,qaE hw hn hi,qax,qe]
def isW (ws:List Tok) (n:Nat) (s:Str):Bool:=((word ws n).kind == 3 || (word ws n).kind == 0) && (word ws n).s == s
theorem qbu (hw:WF ws) (hn:n < ws.length) (hi:h[i]? = some (PB ws n)) (s:Str):Wd (.fn 43 [] []) [.ptr i 0,.str s] h = some (.ret (.bool (isW ws n s)),h,false):=by
 rw [qm 43 c43]
 simp only [c43,sT.1,sC.1,qg,qH,seval,-rN,qX hw hn hi,Tok.enc,isW]
theorem ql (hw:WF ws) (hn:n < ws.length) {s:Str} (hs:isW ws n s = true):n + 1 < ws.length:=by
 refine hw.next hn λh4=>?_
 simp [isW,h4] at hs
theorem qu (hw:WF ws) (hn:n < ws.length) (hi:h[i]? = some (PB ws n)) {s:Str} (hs:isW ws n s = false):Wd (.fn 95 [] []) [.ptr i 0,.str s] h = some (.ret (.bool false),h,false):=by
 rw [qm 95 c95]
 simp only [c95,sT.1,sC.1,qg,seval,-rN,qbu hw hn hi,hs]
theorem qaG (hi:h[i]? = some (PB ws n)):h.set i (PB ws n) = h:=by
 apply List.ext_getElem?
 intro j
 by_cases hj:i = j
 ·subst hj;rw [hi,List.getElem?_set_self (qf hi)]
 ·rw [List.getElem?_set_ne hj]
theorem qo (hw:WF ws) (hn:n < ws.length) (hi:h[i]? = some (PB ws n)) {s:Str} (hs:isW ws n s = true):Wd (.fn 95 [] []) [.ptr i 0,.str s] h = some (.ret (.bool true),h.set i (PB ws (n + 1)),false):=by
 have I:=qf hi
 have hl:=hw.len
 have w:=qJ (n:=n) zo
 have E:h[i]? = some (.cells [.lst (ws.map Tok.enc) .no,.int .i64 (n:Int)]):=hi
 rw [qm 95 c95]
 simp only [c95,sT.1,sC.1,qg,seval,-rN,qbu hw hn hi,hs,E,w]
 rfl
theorem qE (hw:WF ws) (hn:n < ws.length) (hi:h[i]? = some (PB ws n)) {s:Str} (hs:isW ws n s = true):Wd (.fn 47 [] []) [.ptr i 0,.str s] h = some (.ret (.tup []),h.set i (PB ws (n + 1)),false):=by
 rw [qm 47 c47]
 simp only [c47,sT.1,sC.1,qg,seval,-rN,qo hw hn hi hs]
theorem qb5 (hw:WF ws) (hn:n < ws.length) (hi:h[i]? = some (PB ws n)) {s:Str} (hs:isW ws n s = false):Wd (.fn 47 [] []) [.ptr i 0,.str s] h = some (.pan (qbc (word ws n).pos 6),h,false):=by
 rw [qm 47 c47]
 simp only [c47,sT.1,sC.1,qg,seval,-rN,qu hw hn hi hs,qcR hw hn hi,qe]
def qU (ws:List Tok) (n:Nat):Bool:=(word ws n).kind == 0 && qI (word ws n).s
theorem qL (hw:WF ws) (hn:n < ws.length) (hs:qU ws n = true):n + 1 < ws.length:=by
 refine hw.next hn λh4=>?_
 simp [qU,h4] at hs
theorem qT (hw:WF ws) (hn:n < ws.length) (hi:h[i]? = some (PB ws n)):Wd (.fn 96 [] []) [.ptr i 0] h = some (.ret (.bool (qU ws n)),h,false):=by
 rw [qm 96 c96]
 cases hk:(word ws n).kind == 0 <;> simp only [c96,sT.1,sC.1,qg,qH,seval,-rN,qX hw hn hi,Tok.enc,qa2,qU,hk]
theorem qbE (hw:WF ws) (hn:n < ws.length) (hi:h[i]? = some (PB ws n)) (hs:qU ws n = true):Wd (.fn 48 [] []) [.ptr i 0] h = some (.ret (.str (word ws n).s),h.set i (PB ws (n + 1)),false):=by
 have I:=qf hi
 have hl:=hw.len
 have w:=qJ (n:=n) zo
 have E:h[i]? = some (.cells [.lst (ws.map Tok.enc) .no,.int .i64 (n:Int)]):=hi
 rw [qm 48 c48]
 simp only [c48,sT.1,sC.1,qg,seval,-rN,qT hw hn hi,hs,qX hw hn hi,Tok.enc,E,w]
 rfl
theorem qmS (hw:WF ws) (hn:n < ws.length) (hi:h[i]? = some (PB ws n)) (hs:qU ws n = false):Wd (.fn 48 [] []) [.ptr i 0] h = some (.pan (qbc (word ws n).pos 6),h,false):=by
 rw [qm 48 c48]
 simp only [c48,sT.1,sC.1,qg,seval,-rN,qT hw hn hi,hs,qcR hw hn hi,qe]
end
def fl (b:Bool):qgV:=bif b then .full else .no
theorem qY (xs:List qd) (b:Bool):(qd.lst xs (fl b)).dim = .lst xs (fl b):=by cases b <;> rfl
theorem qaa (xs:List qd) (b:Bool) (i:Nat) (t:List qd):qbL (.lst xs (fl b)) i t = t:=by cases b <;> rfl
inductive Exp where
 | mk (op n:Int) (name sub:Str) (args:List Exp)
mutual
def Exp.cs (φ:Int->Nat->Bool):Exp->List qd
 | .mk op n name sub args=>[.int .i64 op,.int .i64 n,.str name,.str sub,.lst (qcF φ args) (fl (φ op args.length))]
def qcF (φ:Int->Nat->Bool):List Exp->List qd
 | []=>[]
 | e :: es=>.agg (e.cs φ) :: qcF φ es
end
def Exp.enc (φ:Int->Nat->Bool) (e:Exp):qd:=.agg (e.cs φ)
theorem qev (φ:Int->Nat->Bool):∀es:List Exp,qcF φ es = es.map (Exp.enc φ)
 | []=>rfl
 | e :: es=>by simp [qcF,qev φ es,Exp.enc]
theorem Exp.cs_len (φ:Int->Nat->Bool):∀e:Exp,(e.cs φ).length = 5
 | .mk ..=>rfl
mutual
def Exp.depth:Exp->Nat
 | .mk _ _ _ _ args=>qaR args + 1
def qaR:List Exp->Nat
 | []=>0
 | e :: es=>max e.depth (qaR es)
end
def φP:Int->Nat->Bool:=λ_ n=>n == 0
structure Nd where
 e:Exp
 pos:Int
def Nd.cs (x:Nd):List qd:=x.e.cs φP ++ [.int .i64 (x.e.depth:Nat),.int .i64 x.pos]
def Nd.enc (x:Nd):qd:=.agg x.cs
theorem qf0:∀(a b:List Exp),qaR (a ++ b) = max (qaR a) (qaR b)
 | [],b=>by simp [qaR]
 | e :: a,b=>by simp [qaR,qf0 a b,Nat.max_assoc]
section
variable {h:List qj}
mutual
theorem qnu (φ:Int->Nat->Bool) (n:Nat):∀e:Exp,qw n (e.cs φ) = true
 | .mk op k name sub args=>by simp [Exp.cs,qw,qd.lower,qal φ n args]
theorem qal (φ:Int->Nat->Bool) (n:Nat):∀es:List Exp,qw n (qcF φ es) = true
 | []=>rfl
 | e :: es=>by simp [qcF,qw,qd.lower,qnu φ n e,qal φ n es]
end
theorem Nd.lower (x:Nd) (n:Nat):x.enc.lower n = true:=by
 obtain ⟨⟨op,k,name,sub,args⟩,pos⟩:=x
 simp [Nd.enc,Nd.cs,Exp.cs,qd.lower,qw,qal]
theorem qwx {es:List Exp} (φ:Int->Nat->Bool):∀x ∈ qcF φ es,x.cells.length = 5:=by
 intro x hx
 rw [qev] at hx
 obtain ⟨e,_,rfl⟩:=List.mem_map.1 hx
 exact e.cs_len φ
theorem qrx (φ:Int->Nat->Bool):∀e:Exp,(e.cs φ).all qd.storable = true
 | .mk ..=>rfl
theorem qr0 (φ:Int->Nat->Bool) (es:List Exp):(qcF φ es).length = es.length:=by rw [qev,jQ]
theorem qyH {es:List Exp} (e:Exp) (φ:Int->Nat->Bool) (hl:es.length <= 1000):qdx 5 (qcF φ es) [.agg (e.cs φ)] = true:=by
 simp only [qdx,jk,decide_eq_true_eq]
 refine ⟨⟨?_,?_⟩,?_⟩
 ·rw [qr0]
  simp only [jy,jz,qk]
  omega
 ·simp [qd.cells,e.cs_len φ]
  simpa using qrx φ e
 ·cases hh:(qcF φ es).head? with
  | none=>rfl
  | some x=>simp [qwx φ x (List.mem_of_mem_head? hh)]
theorem qkY (φ:Int->Nat->Bool) (a b:List Exp):qcF φ (a ++ b) = qcF φ a ++ qcF φ b:=by simp [qev]
def qgD (op n:Int) (name sub:Str) (pos:Int) (done:List Exp):qj:=
 .cells [.int .i64 op,.int .i64 n,.str name,.str sub,.lst (qcF φP done) (bif done.isEmpty then .full else .own 5),.int .i64 ((qaR done + 1:Nat):Int),.int .i64 pos]
def ql0 (h:List qj) (p:qd) (pos op n:Int) (name sub:Str) (parts:List Nd) (f:Bool) (i:Nat) (st:St):Prop:=
 ∃tt H,st = ⟨tt,H,false⟩/\tt.length = 45/\lkp tt 0 = p.dim/\lkp tt 1 = .int .i64 pos/\lkp tt 8 = .ptr (h.length + 1) 0/\lkp tt 9 = .ptr (h.length + 2) 0/\lkp tt 15 = .lst (parts.map Nd.enc) (fl f)/\lkp tt 16 = .int .i64 (parts.length:Nat)/\lkp tt 17 = .int .i64 (i:Nat)/\
  h.length + 2 < H.length/\H[h.length + 2]? = some (qgD op n name sub pos ((parts.take i).map Nd.e))/\H[h.length + 1]? = some (.cells [.int .i64 0,.int .i64 0,.str [],.str [],.lst [] .full,.int .i64 0,.int .i64 0])/\H.take h.length = h
theorem qtv (p:qd) (pos op n:Int) (name sub:Str) (parts:List Nd) (f:Bool) (hp:parts.length <= 4) (hd:∀x ∈ parts,x.e.depth <= 20) :
  ∀k st,(∃i,i + k = parts.length/\ql0 h p pos op n name sub parts f i st)->∃x a8,qv h.length Wd (.loop qh2) st = some (x,a8)/\(x = .exit 0/\ql0 h p pos op n name sub parts f parts.length a8):=by
 refine qba _ (λx a8=>x = .exit 0/\ql0 h p pos op n name sub parts f parts.length a8) ?_
 rintro k st ⟨i,ar,tt,H,rfl,ht,e0,e1,e8,e9,a7,a6,aa,hH,g2,g1,gt⟩
 generalize he:qv h.length Wd qh2 _ = r
 rcases Nat.lt_or_ge i parts.length with hi | hi
 ·have c1:ilt (i:Int) (parts.length:Int) = true:=by rw [qaj];simp;omega
  have w:=qJ (n:=i) zo
  have hx:qi9 7 (.lst (parts.map Nd.enc) (fl f)) (.int .i64 (i:Nat)) = some (.iptr (parts[i]).cs 0):=qa3 (x:=(parts[i]).enc) (by rw [jr,jh hi];rfl) (by simp [Nd.enc,qd.cells,Nd.cs,Exp.cs_len])
  have ad:=hd _ (List.getElem_mem hi)
  have ab:parts.take (i + 1) = parts.take i ++ [parts[i]]:=by rw [List.take_add_one,jh hi];rfl
  rcases aj:parts[i] with ⟨⟨a1,n',I,Y,E⟩,pos'⟩
  rw [aj] at hx ad ab
  simp only [Nd.cs,Exp.cs,jw,jV] at hx
  have ak:(parts.take i).length = i:=by simp;omega
  have wd:IntKind.i64.wrap (((Exp.mk a1 n' I Y E).depth:Int) + 1) = (((Exp.mk a1 n' I Y E).depth + 1:Nat):Int):=qJ (by simp only at ad;omega)
  have ae:Nat.ble h.length (h.length + 2) = true:=qx zo
  have af:Nat.ble h.length H.length = true:=qx zo
  rcases Nat.eq_zero_or_pos i with h0 | h0
  ·subst h0
   simp only [List.take_zero,List.map_nil,qgD,List.isEmpty_nil,cond_true,qcF,qaR] at g2
   have ac:qdx 5 [] [.agg [.int .i64 a1,.int .i64 n',.str I,.str Y,.lst (qcF φP E) (fl (φP a1 E.length))]] = true:=qyH (es:=[]) (.mk a1 n' I Y E) φP (by simp)
   simp only [qh2,sT.1,sC.1,sTA.1,sCA.1,qg,qd4,qd5,Src.isTmp,qbW,Src.hangs,qB.isT,qeP,bne,seval,-rN,qY,ht,e9,a7,a6,aa,c1,hx,w,hH,g2,ac,qdB,wd,ae,af] at he
   subst he
   refine .inl ⟨_,k - 1,rfl,zo,1,zo,_,_,rfl,Y1,?_,?_,?_,?_,?_,?_,?_,?_,?_,?_,?_⟩
   ·simp only [sT.1,sC.1,seval,-rN,e0]
   ·simp only [sT.1,sC.1,seval,-rN,e1]
   ·simp only [sT.1,sC.1,seval,-rN,e8]
   ·simp only [sT.1,sC.1,seval,-rN,e9]
   ·simp only [sT.1,sC.1,seval,-rN,a7]
   ·simp only [sT.1,sC.1,seval,-rN,a6]
   ·simp only [sT.1,seval,-rN,ht]
   ·simp only [ji,jU,jy,jz];omega
   ·rw [qcT (by rw [jU];exact hH),qeA hH,ab]
    simp [qgD,qcF,Exp.cs,qaR]
   ·rw [qcT (by rw [jU];omega),qcd zo,g1]
   ·rw [jR (by rw [jU];omega),jS zo,gt]
  ·have al:(parts.take i).map Nd.e ≠ []:=by
    intro ai
    have:=congrArg List.length ai
    rw [jQ,ak] at this
    simp at this
    omega
   have ap:((parts.take i).map Nd.e).isEmpty = false:=by cases hq:(parts.take i).map Nd.e with | nil=>exact absurd hq al | cons=>rfl
   simp only [qgD,ap,cond_false] at g2
   have ac:qdx 5 (qcF φP ((parts.take i).map Nd.e)) [.agg [.int .i64 a1,.int .i64 n',.str I,.str Y,.lst (qcF φP E) (fl (φP a1 E.length))]] = true:=qyH (.mk a1 n' I Y E) φP (by rw [jQ];omega)
   simp only [qh2,sT.1,sC.1,sTA.1,sCA.1,qg,qd4,qd5,Src.isTmp,qbW,Src.hangs,qB.isT,qeP,bne,seval,-rN,qY,ht,e9,a7,a6,aa,c1,hx,w,hH,g2,ac,qdB,wd,ae,af] at he
   subst he
   refine .inl ⟨_,k - 1,rfl,zo,i + 1,zo,_,_,rfl,Y1,?_,?_,?_,?_,?_,?_,?_,?_,?_,?_,?_⟩
   ·simp only [sT.1,sC.1,seval,-rN,e0]
   ·simp only [sT.1,sC.1,seval,-rN,e1]
   ·simp only [sT.1,sC.1,seval,-rN,e8]
   ·simp only [sT.1,sC.1,seval,-rN,e9]
   ·simp only [sT.1,sC.1,seval,-rN,a7]
   ·simp only [sT.1,sC.1,seval,-rN,a6]
   ·simp only [sT.1,seval,-rN,ht]
   ·simp only [ji,jU,jy,jz];omega
   ·rw [qcT (by rw [jU];exact hH),qeA hH,ab]
    simp [qgD,qcF,Exp.cs,qaR,qkY,qf0]
    cases List.take i (List.map Nd.e parts) <;> rfl
   ·rw [qcT (by rw [jU];omega),qcd zo,g1]
   ·rw [jR (by rw [jU];omega),jS zo,gt]
 ·have c1:ilt (i:Int) (parts.length:Int) = false:=by rw [qaj];simp;omega
  have am:i = parts.length:=zo
  subst am
  simp only [qh2,sT.1,sC.1,qg,seval,-rN,ht,a6,aa,c1] at he
  subst he
  refine .inr ⟨_,_,rfl,by simp,rfl,_,_,rfl,Y1,?_,?_,?_,?_,?_,?_,?_,hH,g2,g1,gt⟩
  ·simp only [sT.1,sC.1,seval,-rN,e0]
  ·simp only [sT.1,sC.1,seval,-rN,e1]
  ·simp only [sT.1,sC.1,seval,-rN,e8]
  ·simp only [sT.1,sC.1,seval,-rN,e9]
  ·simp only [sT.1,sC.1,seval,-rN,a7]
  ·simp only [sT.1,sC.1,seval,-rN,a6]
  ·simp only [sT.1,sC.1,seval,-rN,aa]
def mkE (op n:Int) (name sub:Str) (parts:List Nd):Exp:=.mk op n name sub (parts.map Nd.e)
theorem qid (p:qd) (pos op n:Int) (name sub:Str) (parts:List Nd) (f:Bool) (hp:parts.length <= 4) (hd:∀x ∈ parts,x.e.depth <= 20) :
  Wd (.fn 101 [] []) [p,.int .i64 pos,.agg [.int .i64 op,.int .i64 n,.str name,.str sub,.lst [] .full],.lst (parts.map Nd.enc) (fl f)] h =
   if (mkE op n name sub parts).depth <= 20 then some (.ret (Nd.enc ⟨mkE op n name sub parts,pos⟩),h,false) else some (.pan (qbc pos 7),h,false):=by
 have a1:Nat.ble h.length (h.length + 2) = true:=qx zo
 rw [qm 101 qFc]
 simp only [qFc,sT.1,sC.1,qg,seval,-rN,qY,qz,a1]
 generalize hr:qv h.length Wd (.loop qh2) _ = r
 obtain ⟨x,a7,rfl,rfl,tt,H,rfl,ht,e0,e1,e8,e9,ac,ab,aa,hH,g2,g1,gt⟩:=qgA hr (qtv (h:=h) p pos op n name sub parts f hp hd parts.length _ ⟨0,zo,_,_,rfl,Y0,Y0,Y0,Y0,Y0,Y0,by simp only [sT.1,sC.1,seval,-rN,jQ],y5,by simp only [sC.1,seval,-rN];omega,by simp only [sT.1,sC.1,seval,-rN];rfl,Y0,by simp⟩)
 rw [List.take_length] at g2
 simp only [qgD] at g2
 have E:(mkE op n name sub parts).depth = qaR (parts.map Nd.e) + 1:=rfl
 have a8:h.length + 2 ≠ h.length + 1:=zo
 have Y:(qd.lst (qcF φP (parts.map Nd.e)) (bif (parts.map Nd.e).isEmpty then .full else .own 5)).dim = .lst (qcF φP (parts.map Nd.e)) (fl (φP op (parts.map Nd.e).length)):=by cases parts <;> rfl
 by_cases hq:(mkE op n name sub parts).depth <= 20
 ·have d1:ilt 20 ((qaR (parts.map Nd.e) + 1:Nat):Int) = false:=by rw [qaj];rw [E] at hq;simp;omega
  simp only [sT.1,sC.1,qg,seval,-rN,ht,e8,e9,g2,g1,d1,qN,Y,qY]
  have a6:h.length + 1 < H.length:=zo
  have I:(H.set (h.length + 1) (.cells (Nd.cs ⟨mkE op n name sub parts,pos⟩))).take h.length = h:=by rw [jS zo,gt]
  simp only [Nd.cs,Exp.cs,mkE,jw,jV] at I
  simp only [sT.1,sC.1,seval,-rN,a6,qY]
  rw [if_pos hq]
  exact congrArg some (qbm I (Nd.lower ⟨mkE op n name sub parts,pos⟩ _))
 ·have d1:ilt 20 ((qaR (parts.map Nd.e) + 1:Nat):Int) = true:=by rw [qaj];rw [E] at hq;simp;omega
  simp only [sT.1,sC.1,qg,seval,-rN,ht,e0,e1,e9,g2,d1,qkV,qax]
  rw [qa4 gt (qe _ _ _),if_neg hq]
end
section
variable {h:List qj} {i:Nat} {ws:List Tok} {n:Nat}
theorem qcA (p:qd) (pos op k:Int) (name sub:Str):Wd (.fn 101 [] []) [p,.int .i64 pos,.agg [.int .i64 op,.int .i64 k,.str name,.str sub,.lst [] .full],.lst [] .full] h = some (.ret (Nd.enc ⟨.mk op k name sub [],pos⟩),h,false):=by
 have:=qid (h:=h) p pos op k name sub [] true (by simp) (by simp)
 rw [if_pos (by simp [mkE,Exp.depth,qaR])] at this
 exact this
theorem qiP (p:qd) (pos op k:Int) (name sub:Str) (x:Nd) (hx:x.e.depth <= 20):Wd (.fn 101 [] []) [p,.int .i64 pos,.agg [.int .i64 op,.int .i64 k,.str name,.str sub,.lst [] .full],.lst [x.enc] .full] h =
  if (Exp.mk op k name sub [x.e]).depth <= 20 then some (.ret (Nd.enc ⟨.mk op k name sub [x.e],pos⟩),h,false) else some (.pan (qbc pos 7),h,false):=
 qid (h:=h) p pos op k name sub [x] true (by simp) (by simpa using hx)
theorem qem (p:qd) (pos op k:Int) (name sub:Str) (x y:Nd) (hx:x.e.depth <= 20) (hy:y.e.depth <= 20):Wd (.fn 101 [] []) [p,.int .i64 pos,.agg [.int .i64 op,.int .i64 k,.str name,.str sub,.lst [] .full],.lst [x.enc,y.enc] .full] h =
  if (Exp.mk op k name sub [x.e,y.e]).depth <= 20 then some (.ret (Nd.enc ⟨.mk op k name sub [x.e,y.e],pos⟩),h,false) else some (.pan (qbc pos 7),h,false):=
 qid (h:=h) p pos op k name sub [x,y] true (by simp) (by simpa using ⟨hx,hy⟩)
theorem qD2 (p:qd) (pos op k:Int) (name sub:Str) (x y z:Nd) (hx:x.e.depth <= 20) (hy:y.e.depth <= 20) (hz:z.e.depth <= 20):Wd (.fn 101 [] []) [p,.int .i64 pos,.agg [.int .i64 op,.int .i64 k,.str name,.str sub,.lst [] .full],.lst [x.enc,y.enc,z.enc] .full] h =
  if (Exp.mk op k name sub [x.e,y.e,z.e]).depth <= 20 then some (.ret (Nd.enc ⟨.mk op k name sub [x.e,y.e,z.e],pos⟩),h,false) else some (.pan (qbc pos 7),h,false):=
 qid (h:=h) p pos op k name sub [x,y,z] true (by simp) (by simpa using ⟨hx,hy,hz⟩)
theorem PBi (ws:List Tok) (n:Nat):PB ws n = .cells [.lst (ws.map Tok.enc) .no,.int .i64 (n:Int)]:=Eq.trans rfl rfl
theorem Nd.stor (x:Nd):x.cs.all qd.storable = true:=by
 obtain ⟨⟨op,k,name,sub,args⟩,pos⟩:=x
 rfl
theorem Nd.dims (x:Nd):x.cs.map qd.dim = x.cs:=by
 obtain ⟨⟨op,k,name,sub,args⟩,pos⟩:=x
 simp [Nd.cs,Exp.cs,qd.dim,fl]
 cases φP op args.length <;> rfl
theorem Nd.len (x:Nd):x.cs.length = 7:=by
 obtain ⟨⟨op,k,name,sub,args⟩,pos⟩:=x
 rfl
theorem Nd.dimE (x:Nd):x.enc.dim = x.enc:=rfl
theorem Nd.cellsE (x:Nd):x.enc.cells = x.cs:=rfl
theorem Nd.cutE (x:Nd):cut x.cs 0 (some 7) = some x.enc:=by
 rw [qeX (by rw [Nd.len];omega),List.drop_zero,List.take_of_length_le (by rw [Nd.len];omega),Nd.dims]
 rfl
theorem Nd.drainE (x:Nd) (j:Nat) (t:List qd):qbL x.enc j t = t:=rfl
theorem qiC (hw:WF ws) (hn:n < ws.length) (hi:h[i]? = some (PB ws n)) (h1:qU ws n = true) (h2:isW ws (n + 1) [46] = true) (h3:qU ws (n + 1 + 1) = true) :
  Wd (.fn 220 [] []) [.ptr i 0] h = some (.ret (Nd.enc ⟨.mk 5 0 (word ws n).s (word ws (n + 1 + 1)).s [],(word ws n).pos⟩),h.set i (PB ws (n + 1 + 1 + 1)),false):=by
 have E:=qf hi
 have hl:=hw.len
 have n1:=qL hw hn h1
 have n2:=ql hw n1 h2
 have n3:=qL hw n2 h3
 have w:=qJ (n:=n + 1) zo
 rw [PBi] at hi
 rw [qm 220 qz1]
 simp only [qz1,sT.1,sC.1,qg,seval,-rN,qaE hw hn,qbE hw hn,hi,h1,qbu hw n1,h2,E,PBi,w,qT hw n2,h3,qbE hw n2,qz,qcA,Nd.dimE,Nd.cellsE,Nd.cutE,Nd.dims,Nd.len,Nd.stor,Nd.lower,Nd.drainE]
theorem qfx (hw:WF ws) (hn:n < ws.length) (hi:h[i]? = some (PB ws n)) (h1:qU ws n = true) (h2:isW ws (n + 1) [46] = true->qU ws (n + 1 + 1) = false) :
  Wd (.fn 220 [] []) [.ptr i 0] h = some (.ret (Nd.enc ⟨.mk 4 0 (word ws n).s [] [],(word ws n).pos⟩),h.set i (PB ws (n + 1)),false):=by
 have E:=qf hi
 have hl:=hw.len
 have n1:=qL hw hn h1
 rw [PBi] at hi
 rw [qm 220 qz1]
 cases h3:isW ws (n + 1) [46] with
 | false=>simp only [qz1,sT.1,sC.1,qg,seval,-rN,qaE hw hn,qbE hw hn,hi,h1,qbu hw n1,h3,E,PBi,qz,qcA,Nd.dimE,Nd.cellsE,Nd.cutE,Nd.dims,Nd.len,Nd.stor,Nd.lower,Nd.drainE]
 | true=>
  have h4:=h2 h3
  have n2:=ql hw n1 h3
  have w:=qJ (n:=n + 1) zo
  have w':IntKind.i64.wrap (((n + 1 + 1:Nat):Int) - 1) = ((n + 1:Nat):Int):=by rw [qbU zo zo];omega
  simp only [qz1,sT.1,sC.1,qg,seval,-rN,qaE hw hn,qbE hw hn,hi,h1,qbu hw n1,h3,E,PBi,w,w',qT hw n2,h4,qz,qcA,Nd.dimE,Nd.cellsE,Nd.cutE,Nd.dims,Nd.len,Nd.stor,Nd.lower,Nd.drainE]
theorem qgI (hw:WF ws) (hn:n < ws.length) (hi:h[i]? = some (PB ws n)) (pos op:Int) (h1:isW ws n [40] = true) (h2:qU ws (n + 1) = true) (h3:isW ws (n + 1 + 1) [41] = true) :
  Wd (.fn 224 [] []) [.ptr i 0,.int .i64 pos,.int .i64 op] h = some (.ret (Nd.enc ⟨.mk op 0 (word ws (n + 1)).s [] [],pos⟩),h.set i (PB ws (n + 1 + 1 + 1)),false):=by
 have E:=qf hi
 have n1:=ql hw hn h1
 have n2:=qL hw n1 h2
 rw [PBi] at hi
 rw [qm 224 qvr]
 simp only [qvr,sT.1,sC.1,qg,seval,-rN,qE hw hn,qE hw n2,qbE hw n1,hi,h1,h2,h3,E,PBi,qz,qcA,Nd.dimE,Nd.cellsE,Nd.cutE,Nd.dims,Nd.len,Nd.stor,Nd.lower,Nd.drainE]
theorem qgF (hw:WF ws) (hn:n < ws.length) (hi:h[i]? = some (PB ws n)) (pos op:Int) (h1:isW ws n [40] = false) :
  Wd (.fn 224 [] []) [.ptr i 0,.int .i64 pos,.int .i64 op] h = some (.pan (qbc (word ws n).pos 6),h,false):=by
 have E:=qf hi
 rw [PBi] at hi
 rw [qm 224 qvr]
 simp only [qvr,sT.1,sC.1,qg,seval,-rN,qb5 hw hn,hi,h1,E,PBi,qe]
theorem qgG (hw:WF ws) (hn:n < ws.length) (hi:h[i]? = some (PB ws n)) (pos op:Int) (h1:isW ws n [40] = true) (h2:qU ws (n + 1) = false) :
  Wd (.fn 224 [] []) [.ptr i 0,.int .i64 pos,.int .i64 op] h = some (.pan (qbc (word ws (n + 1)).pos 6),h.set i (PB ws (n + 1)),false):=by
 have E:=qf hi
 have n1:=ql hw hn h1
 rw [PBi] at hi
 rw [qm 224 qvr]
 simp only [qvr,sT.1,sC.1,qg,seval,-rN,qE hw hn,qmS hw n1,hi,h1,h2,E,PBi,qe]
theorem qgH (hw:WF ws) (hn:n < ws.length) (hi:h[i]? = some (PB ws n)) (pos op:Int) (h1:isW ws n [40] = true) (h2:qU ws (n + 1) = true) (h3:isW ws (n + 1 + 1) [41] = false) :
  Wd (.fn 224 [] []) [.ptr i 0,.int .i64 pos,.int .i64 op] h = some (.pan (qbc (word ws (n + 1 + 1)).pos 6),h.set i (PB ws (n + 1 + 1)),false):=by
 have E:=qf hi
 have n1:=ql hw hn h1
 have n2:=qL hw n1 h2
 rw [PBi] at hi
 rw [qm 224 qvr]
 simp only [qvr,sT.1,sC.1,qg,seval,-rN,qE hw hn,qb5 hw n2,qbE hw n1,hi,h1,h2,h3,E,PBi,qe]
end
inductive Out where
 | ok (e:Exp) (n:Nat)
 | no (pos err:Int) (n:Nat)
def qag (f:FuncId) (ws:List Tok) (n:Nat):Out->Prop
 | .ok e n'=>n < n'/\n' < ws.length/\e.depth <= 20/\∀(h:List qj) (i:Nat),h[i]? = some (PB ws n)->Wd (.fn f [] []) [.ptr i 0] h = some (.ret (Nd.enc ⟨e,(word ws n).pos⟩),h.set i (PB ws n'),false)
 | .no pos err n'=>n' < ws.length/\∀(h:List qj) (i:Nat),h[i]? = some (PB ws n)->Wd (.fn f [] []) [.ptr i 0] h = some (.pan (qbc pos err),h.set i (PB ws n'),false)
section
variable {ws:List Tok} {n:Nat}
theorem qbk {s s':Str} (h:isW ws n s = true) (hs:s ≠ s'):isW ws n s' = false:=by
 simp only [isW,jk,beq_iff_eq] at h
 simp only [isW,Bool.and_eq_false_iff]
 right
 rw [h.2]
 simpa using hs
theorem qgL {s:Str} (hs:isW ws n s = true) (d:s ≠ [116,114,117,101]/\s ≠ [102,97,108,115,101]/\s ≠ [101,108,97,112,115,101,100]:=by decide):isW ws n [116,114,117,101] = false/\isW ws n [102,97,108,115,101] = false/\isW ws n [101,108,97,112,115,101,100] = false:=⟨qbk hs d.1,qbk hs d.2.1,qbk hs d.2.2⟩
theorem qxR {s:Str} (hs:isW ws n s = true) (e:s ≠ [116,114,117,101]/\s ≠ [102,97,108,115,101]/\s ≠ [101,108,97,112,115,101,100]:=by decide) (d3:s ≠ [99,111,117,110,116]:=by decide):isW ws n [116,114,117,101] = false/\isW ws n [102,97,108,115,101] = false/\isW ws n [101,108,97,112,115,101,100] = false/\isW ws n [99,111,117,110,116] = false:=⟨(qgL hs e).1,(qgL hs e).2.1,(qgL hs e).2.2,qbk hs d3⟩
theorem qxS {s:Str} (hs:isW ws n s = true) (e:s ≠ [116,114,117,101]/\s ≠ [102,97,108,115,101]/\s ≠ [101,108,97,112,115,101,100]:=by decide) (d3:s ≠ [99,111,117,110,116]:=by decide) (d4:s ≠ [104,97,115]:=by decide):isW ws n [116,114,117,101] = false/\isW ws n [102,97,108,115,101] = false/\isW ws n [101,108,97,112,115,101,100] = false/\isW ws n [99,111,117,110,116] = false/\isW ws n [104,97,115] = false:=⟨(qgL hs e).1,(qgL hs e).2.1,(qgL hs e).2.2,qbk hs d3,qbk hs d4⟩
theorem qm2 {s:Str} (hs:isW ws n s = true) (e:s ≠ [116,114,117,101]/\s ≠ [102,97,108,115,101]/\s ≠ [101,108,97,112,115,101,100]:=by decide) (d3:s ≠ [99,111,117,110,116]:=by decide) (d4:s ≠ [104,97,115]:=by decide) (d5:s ≠ [115,117,109]:=by decide):isW ws n [116,114,117,101] = false/\isW ws n [102,97,108,115,101] = false/\isW ws n [101,108,97,112,115,101,100] = false/\isW ws n [99,111,117,110,116] = false/\isW ws n [104,97,115] = false/\isW ws n [115,117,109] = false:=⟨(qgL hs e).1,(qgL hs e).2.1,(qgL hs e).2.2,qbk hs d3,qbk hs d4,qbk hs d5⟩
theorem qiW (hw:WF ws) (hn:n < ws.length) (hs:isW ws n [116,114,117,101] = true):qag 222 ws n (.ok (.mk 1 0 [] [] []) (n + 1)):=by
 refine ⟨zo,ql hw hn hs,by simp [Exp.depth,qaR],λh i hi=>?_⟩
 have E:=qf hi
 rw [PBi] at hi
 rw [qm 222 qcJ]
 simp only [qcJ,sT.1,sC.1,qg,seval,-rN,qaE hw hn,qo hw hn,hi,hs,E,PBi,qz,qcA,Nd.dimE,Nd.cellsE,Nd.cutE,Nd.dims,Nd.len,Nd.stor,Nd.lower,Nd.drainE]
theorem qhI (hw:WF ws) (hn:n < ws.length) (hs:isW ws n [102,97,108,115,101] = true):qag 222 ws n (.ok (.mk 2 0 [] [] []) (n + 1)):=by
 refine ⟨zo,ql hw hn hs,by simp [Exp.depth,qaR],λh i hi=>?_⟩
 have q0:isW ws n [116,114,117,101] = false:=qbk hs (by decide)
 have E:=qf hi
 rw [PBi] at hi
 rw [qm 222 qcJ]
 simp only [qcJ,sT.1,sC.1,qg,seval,-rN,qaE hw hn,qo hw hn,qu hw hn,hi,hs,q0,E,PBi,qz,qcA,Nd.dimE,Nd.cellsE,Nd.cutE,Nd.dims,Nd.len,Nd.stor,Nd.lower,Nd.drainE]
theorem qfS (hw:WF ws) (hn:n < ws.length) (hs:isW ws n [101,108,97,112,115,101,100] = true):qag 222 ws n (.ok (.mk 11 0 [] [] []) (n + 1)):=by
 refine ⟨zo,ql hw hn hs,by simp [Exp.depth,qaR],λh i hi=>?_⟩
 have q0:isW ws n [116,114,117,101] = false:=qbk hs (by decide)
 have q1:isW ws n [102,97,108,115,101] = false:=qbk hs (by decide)
 have E:=qf hi
 rw [PBi] at hi
 rw [qm 222 qcJ]
 simp only [qcJ,sT.1,sC.1,qg,seval,-rN,qaE hw hn,qo hw hn,qu hw hn,hi,hs,q0,q1,E,PBi,qz,qcA,Nd.dimE,Nd.cellsE,Nd.cutE,Nd.dims,Nd.len,Nd.stor,Nd.lower,Nd.drainE]
theorem qhH (hw:WF ws) (hn:n < ws.length) (hs:isW ws n [99,111,117,110,116] = true) (h1:isW ws (n + 1) [40] = true) (h2:qU ws (n + 1 + 1) = true) (h3:isW ws (n + 1 + 1 + 1) [41] = true):qag 222 ws n (.ok (.mk 7 0 (word ws (n + 1 + 1)).s [] []) (n + 1 + 1 + 1 + 1)):=by
 have n1:=ql hw hn hs
 have n2:=ql hw n1 h1
 have n3:=qL hw n2 h2
 refine ⟨zo,ql hw n3 h3,by simp [Exp.depth,qaR],λh i hi=>?_⟩
 obtain ⟨q0,q1,q2⟩:=qgL hs
 have E:=qf hi
 rw [PBi] at hi
 rw [qm 222 qcJ]
 simp only [qcJ,sT.1,sC.1,qg,seval,-rN,qaE hw hn,qo hw hn,qu hw hn,hi,hs,q0,q1,q2,E,PBi,qgI hw n1,h1,h2,h3,qz,qcA,Nd.dimE,Nd.cellsE,Nd.cutE,Nd.dims,Nd.len,Nd.stor,Nd.lower,Nd.drainE]
theorem qkG (hw:WF ws) (hn:n < ws.length) (hs:isW ws n [99,111,117,110,116] = true) (h1:isW ws (n + 1) [40] = false):qag 222 ws n (.no (word ws (n + 1)).pos 6 (n + 1)):=by
 have n1:=ql hw hn hs
 refine ⟨n1,λh i hi=>?_⟩
 obtain ⟨q0,q1,q2⟩:=qgL hs
 have E:=qf hi
 rw [PBi] at hi
 rw [qm 222 qcJ]
 simp only [qcJ,sT.1,sC.1,qg,seval,-rN,qaE hw hn,qo hw hn,qu hw hn,hi,hs,q0,q1,q2,E,PBi,qgF hw n1,h1,qe]
theorem qkH (hw:WF ws) (hn:n < ws.length) (hs:isW ws n [99,111,117,110,116] = true) (h1:isW ws (n + 1) [40] = true) (h2:qU ws (n + 1 + 1) = false):qag 222 ws n (.no (word ws (n + 1 + 1)).pos 6 (n + 1 + 1)):=by
 have n1:=ql hw hn hs
 have n2:=ql hw n1 h1
 refine ⟨n2,λh i hi=>?_⟩
 obtain ⟨q0,q1,q2⟩:=qgL hs
 have E:=qf hi
 rw [PBi] at hi
 rw [qm 222 qcJ]
 simp only [qcJ,sT.1,sC.1,qg,seval,-rN,qaE hw hn,qo hw hn,qu hw hn,hi,hs,q0,q1,q2,E,PBi,qgG hw n1,h1,h2,qe]
theorem qkI (hw:WF ws) (hn:n < ws.length) (hs:isW ws n [99,111,117,110,116] = true) (h1:isW ws (n + 1) [40] = true) (h2:qU ws (n + 1 + 1) = true) (h3:isW ws (n + 1 + 1 + 1) [41] = false):qag 222 ws n (.no (word ws (n + 1 + 1 + 1)).pos 6 (n + 1 + 1 + 1)):=by
 have n1:=ql hw hn hs
 have n2:=ql hw n1 h1
 have n3:=qL hw n2 h2
 refine ⟨n3,λh i hi=>?_⟩
 obtain ⟨q0,q1,q2⟩:=qgL hs
 have E:=qf hi
 rw [PBi] at hi
 rw [qm 222 qcJ]
 simp only [qcJ,sT.1,sC.1,qg,seval,-rN,qaE hw hn,qo hw hn,qu hw hn,hi,hs,q0,q1,q2,E,PBi,qgH hw n1,h1,h2,h3,qe]
theorem qkJ (hw:WF ws) (hn:n < ws.length) (hs:isW ws n [104,97,115] = true) (h1:isW ws (n + 1) [40] = true) (h2:qU ws (n + 1 + 1) = true) (h3:isW ws (n + 1 + 1 + 1) [41] = true):qag 222 ws n (.ok (.mk 8 0 (word ws (n + 1 + 1)).s [] []) (n + 1 + 1 + 1 + 1)):=by
 have n1:=ql hw hn hs
 have n2:=ql hw n1 h1
 have n3:=qL hw n2 h2
 refine ⟨zo,ql hw n3 h3,by simp [Exp.depth,qaR],λh i hi=>?_⟩
 obtain ⟨q0,q1,q2,q3⟩:=qxR hs
 have E:=qf hi
 rw [PBi] at hi
 rw [qm 222 qcJ]
 simp only [qcJ,sT.1,sC.1,qg,seval,-rN,qaE hw hn,qo hw hn,qu hw hn,hi,hs,q0,q1,q2,q3,E,PBi,qgI hw n1,h1,h2,h3,qz,qcA,Nd.dimE,Nd.cellsE,Nd.cutE,Nd.dims,Nd.len,Nd.stor,Nd.lower,Nd.drainE]
theorem qoC (hw:WF ws) (hn:n < ws.length) (hs:isW ws n [104,97,115] = true) (h1:isW ws (n + 1) [40] = false):qag 222 ws n (.no (word ws (n + 1)).pos 6 (n + 1)):=by
 have n1:=ql hw hn hs
 refine ⟨n1,λh i hi=>?_⟩
 obtain ⟨q0,q1,q2,q3⟩:=qxR hs
 have E:=qf hi
 rw [PBi] at hi
 rw [qm 222 qcJ]
 simp only [qcJ,sT.1,sC.1,qg,seval,-rN,qaE hw hn,qo hw hn,qu hw hn,hi,hs,q0,q1,q2,q3,E,PBi,qgF hw n1,h1,qe]
theorem qoD (hw:WF ws) (hn:n < ws.length) (hs:isW ws n [104,97,115] = true) (h1:isW ws (n + 1) [40] = true) (h2:qU ws (n + 1 + 1) = false):qag 222 ws n (.no (word ws (n + 1 + 1)).pos 6 (n + 1 + 1)):=by
 have n1:=ql hw hn hs
 have n2:=ql hw n1 h1
 refine ⟨n2,λh i hi=>?_⟩
 obtain ⟨q0,q1,q2,q3⟩:=qxR hs
 have E:=qf hi
 rw [PBi] at hi
 rw [qm 222 qcJ]
 simp only [qcJ,sT.1,sC.1,qg,seval,-rN,qaE hw hn,qo hw hn,qu hw hn,hi,hs,q0,q1,q2,q3,E,PBi,qgG hw n1,h1,h2,qe]
theorem qoE (hw:WF ws) (hn:n < ws.length) (hs:isW ws n [104,97,115] = true) (h1:isW ws (n + 1) [40] = true) (h2:qU ws (n + 1 + 1) = true) (h3:isW ws (n + 1 + 1 + 1) [41] = false):qag 222 ws n (.no (word ws (n + 1 + 1 + 1)).pos 6 (n + 1 + 1 + 1)):=by
 have n1:=ql hw hn hs
 have n2:=ql hw n1 h1
 have n3:=qL hw n2 h2
 refine ⟨n3,λh i hi=>?_⟩
 obtain ⟨q0,q1,q2,q3⟩:=qxR hs
 have E:=qf hi
 rw [PBi] at hi
 rw [qm 222 qcJ]
 simp only [qcJ,sT.1,sC.1,qg,seval,-rN,qaE hw hn,qo hw hn,qu hw hn,hi,hs,q0,q1,q2,q3,E,PBi,qgH hw n1,h1,h2,h3,qe]
theorem qkK (hw:WF ws) (hn:n < ws.length) (hs:isW ws n [115,117,109] = true) (h1:isW ws (n + 1) [40] = true) (h2:qU ws (n + 1 + 1) = true) (h3:isW ws (n + 1 + 1 + 1) [41] = true):qag 222 ws n (.ok (.mk 9 0 (word ws (n + 1 + 1)).s [] []) (n + 1 + 1 + 1 + 1)):=by
 have n1:=ql hw hn hs
 have n2:=ql hw n1 h1
 have n3:=qL hw n2 h2
 refine ⟨zo,ql hw n3 h3,by simp [Exp.depth,qaR],λh i hi=>?_⟩
 obtain ⟨q0,q1,q2,q3,q4⟩:=qxS hs
 have E:=qf hi
 rw [PBi] at hi
 rw [qm 222 qcJ]
 simp only [qcJ,sT.1,sC.1,qg,seval,-rN,qaE hw hn,qo hw hn,qu hw hn,hi,hs,q0,q1,q2,q3,q4,E,PBi,qgI hw n1,h1,h2,h3,qz,qcA,Nd.dimE,Nd.cellsE,Nd.cutE,Nd.dims,Nd.len,Nd.stor,Nd.lower,Nd.drainE]
theorem qoG (hw:WF ws) (hn:n < ws.length) (hs:isW ws n [115,117,109] = true) (h1:isW ws (n + 1) [40] = false):qag 222 ws n (.no (word ws (n + 1)).pos 6 (n + 1)):=by
 have n1:=ql hw hn hs
 refine ⟨n1,λh i hi=>?_⟩
 obtain ⟨q0,q1,q2,q3,q4⟩:=qxS hs
 have E:=qf hi
 rw [PBi] at hi
 rw [qm 222 qcJ]
 simp only [qcJ,sT.1,sC.1,qg,seval,-rN,qaE hw hn,qo hw hn,qu hw hn,hi,hs,q0,q1,q2,q3,q4,E,PBi,qgF hw n1,h1,qe]
theorem qoH (hw:WF ws) (hn:n < ws.length) (hs:isW ws n [115,117,109] = true) (h1:isW ws (n + 1) [40] = true) (h2:qU ws (n + 1 + 1) = false):qag 222 ws n (.no (word ws (n + 1 + 1)).pos 6 (n + 1 + 1)):=by
 have n1:=ql hw hn hs
 have n2:=ql hw n1 h1
 refine ⟨n2,λh i hi=>?_⟩
 obtain ⟨q0,q1,q2,q3,q4⟩:=qxS hs
 have E:=qf hi
 rw [PBi] at hi
 rw [qm 222 qcJ]
 simp only [qcJ,sT.1,sC.1,qg,seval,-rN,qaE hw hn,qo hw hn,qu hw hn,hi,hs,q0,q1,q2,q3,q4,E,PBi,qgG hw n1,h1,h2,qe]
theorem qoI (hw:WF ws) (hn:n < ws.length) (hs:isW ws n [115,117,109] = true) (h1:isW ws (n + 1) [40] = true) (h2:qU ws (n + 1 + 1) = true) (h3:isW ws (n + 1 + 1 + 1) [41] = false):qag 222 ws n (.no (word ws (n + 1 + 1 + 1)).pos 6 (n + 1 + 1 + 1)):=by
 have n1:=ql hw hn hs
 have n2:=ql hw n1 h1
 have n3:=qL hw n2 h2
 refine ⟨n3,λh i hi=>?_⟩
 obtain ⟨q0,q1,q2,q3,q4⟩:=qxS hs
 have E:=qf hi
 rw [PBi] at hi
 rw [qm 222 qcJ]
 simp only [qcJ,sT.1,sC.1,qg,seval,-rN,qaE hw hn,qo hw hn,qu hw hn,hi,hs,q0,q1,q2,q3,q4,E,PBi,qgH hw n1,h1,h2,h3,qe]
theorem qoF (hw:WF ws) (hn:n < ws.length) (q0:isW ws n [116,114,117,101] = false) (q1:isW ws n [102,97,108,115,101] = false) (q2:isW ws n [101,108,97,112,115,101,100] = false) (q3:isW ws n [99,111,117,110,116] = false) (q4:isW ws n [104,97,115] = false) (q5:isW ws n [115,117,109] = false) (q6:isW ws n [108,101,97,115,116] = false):qag 222 ws n (.no (word ws n).pos 6 n):=by
 refine ⟨hn,λh i hi=>?_⟩
 have I:=qcR hw hn hi
 have E:=qf hi
 rw [PBi] at hi
 rw [qm 222 qcJ]
 simp only [qcJ,sT.1,sC.1,qg,seval,-rN,qaE hw hn,qu hw hn,qcR hw hn,hi,q0,q1,q2,q3,q4,q5,q6,E,PBi,qe]
 exact congrArg (λx=>some (_,x,false)) (qaG (by rw [PBi];exact hi)).symm
end
theorem qb4 {z:List qd} (x:Nd) (hz:z.length = 7):qfI 7 z 1 [(0,x.enc)] = some (.lst [x.enc] .full):=qdB hz zo x.len x.stor zo
theorem qb9 {z:List qd} (x y:Nd) (hz:z.length = 7):qfI 7 z 2 [(0,x.enc),(1,y.enc)] = some (.lst [x.enc,y.enc] .full):=qtm hz zo x.len x.stor y.len y.stor zo
theorem qy1 {z:List qd} (x y w:Nd) (hz:z.length = 7):qfI 7 z 3 [(0,x.enc),(1,y.enc),(2,w.enc)] = some (.lst [x.enc,y.enc,w.enc] .full):=qtn hz zo x.len x.stor y.len y.stor w.len w.stor zo
def qvq:qj:=.cells [.int .i64 0,.int .i64 0,.str [],.str [],.lst [] .full,.int .i64 0,.int .i64 0]
def NB (x:Nd):qj:=.cells x.cs
theorem NBi (x:Nd):NB x = .cells x.cs:=Eq.trans rfl rfl
theorem qjC:qvq = .cells [.int .i64 0,.int .i64 0,.str [],.str [],.lst [] .full,.int .i64 0,.int .i64 0]:=Eq.trans rfl rfl
theorem Nd.drop7 (x:Nd):x.cs.drop 7 = []:=List.drop_eq_nil_of_le (by rw [Nd.len];omega)
theorem Nd.cut6 (x:Nd):x.cs[6]? = some (.int .i64 x.pos):=by
 obtain ⟨⟨op,k,name,sub,args⟩,pos⟩:=x
 rfl
section
variable {ws:List Tok} {h:List qj}
structure qgW (h:List qj) (i:Nat) (ws:List Tok) (n:Nat) (x:Nd) (H:List qj):Prop where
 lt:i < h.length
 len:h.length + 1 < H.length
 par:H[i]? = some (PB ws n)
 res:H[h.length]? = some qvq
 nod:H[h.length + 1]? = some (NB x)
 old:H.take h.length = h.set i (PB ws n)
theorem qgW.next {i n n':Nat} {x x':Nd} {H:List qj} (hl:qgW h i ws n x H) (l:List qj):qgW h i ws n' x' ((H.set i (PB ws n')).set (h.length + 1) (NB x') ++ l):=by
 have h1:=hl.lt
 have h2:=hl.len
 refine ⟨hl.lt,by simp;omega,?_,?_,?_,?_⟩
 ·rw [qcT (by simp;omega),qcd zo,qeA zo]
 ·rw [qcT (by simp;omega),qcd zo,qcd zo,hl.res]
 ·rw [qcT (by simp;omega),qeA (by simp;omega)]
 ·rw [jR (by simp;omega),jS zo,List.take_set,hl.old,qgo]
inductive qeh (ws:List Tok) (pos:Int):Exp->Nat->Out->Prop
 | stop {e n}:isW ws n [46] = false->qeh ws pos e n (.ok e n)
 | bad {e n}:isW ws n [46] = true->(word ws (n + 1)).kind ≠ 1->qeh ws pos e n (.no (word ws (n + 1)).pos 6 (n + 1))
 | many {e n}:isW ws n [46] = true->(word ws (n + 1)).kind = 1->4 <= (word ws (n + 1)).n->qeh ws pos e n (.no (word ws (n + 1)).pos 8 (n + 1))
 | deep {e n}:isW ws n [46] = true->(word ws (n + 1)).kind = 1->(word ws (n + 1)).n < 4->¬ (Exp.mk 12 (word ws (n + 1)).n [] [] [e]).depth <= 20->qeh ws pos e n (.no pos 7 (n + 1 + 1))
 | go {e n o}:isW ws n [46] = true->(word ws (n + 1)).kind = 1->(word ws (n + 1)).n < 4->(Exp.mk 12 (word ws (n + 1)).n [] [] [e]).depth <= 20->qeh ws pos (.mk 12 (word ws (n + 1)).n [] [] [e]) (n + 1 + 1) o->qeh ws pos e n o
def qvB (h:List qj) (i:Nat) (ws:List Tok) (pos:Int) (len:Nat) (r:Option (Ex×St)):Out->Prop
 | .ok e n=>n < ws.length/\e.depth <= 20/\∃tt H,r = some (.exit 0,⟨tt,H,false⟩)/\tt.length = len/\lkp tt 2 = .ptr h.length 0/\lkp tt 3 = .ptr (h.length + 1) 0/\qgW h i ws n ⟨e,pos⟩ H
 | .no p err n=>n < ws.length/\∃tt H,r = some (.pan (qbc p err),⟨tt,H,false⟩)/\H.take h.length = h.set i (PB ws n)
theorem qgW.cut {i n n':Nat} {x:Nd} {H:List qj} (hl:qgW h i ws n x H) (l:List qj):(H.set i (PB ws n') ++ l).take h.length = h.set i (PB ws n'):=by
 have h1:=hl.lt
 have h2:=hl.len
 rw [jR (by simp;omega),List.take_set,hl.old,qgo]
theorem qs0 (hw:WF ws) (i:Nat) (pos:Int) (e:Exp) (n:Nat) (o:Out) (hI:qeh ws pos e n o):∀(tt:List qd) (H:List qj),n < ws.length->e.depth <= 20->tt.length = 40->lkp tt 0 = .ptr i 0->lkp tt 2 = .ptr h.length 0->lkp tt 3 = .ptr (h.length + 1) 0->qgW h i ws n ⟨e,pos⟩ H->
  qvB h i ws pos 40 (qv h.length Wd (.loop qdA) ⟨tt,H,false⟩) o:=by
 induction hI with
 | @stop e n hs=>
  intro tt H hn hd ht e0 e2 e3 hL
  have E:i < H.length:=by have:=hL.lt;have:=hL.len;omega
  have hp:=hL.par
  rw [PBi] at hp
  rw [qn]
  generalize he:qv h.length Wd qdA _ = r
  simp only [qdA,sT.1,sC.1,qg,seval,-rN,ht,e0,qu hw hn,hp,hs,PBi] at he
  subst he
  exact ⟨hn,hd,_,_,rfl,Y1,Y3,Y4,hL⟩
 | @bad e n hs hk=>
  intro tt H hn hd ht e0 e2 e3 hL
  have n1:=ql hw hn hs
  have E:i < H.length:=by have:=hL.lt;have:=hL.len;omega
  have a1:Nat.ble h.length H.length = true:=qx (by have:=hL.len;omega)
  have hp:=hL.par
  rw [PBi] at hp
  have Y:((word ws (n + 1)).kind == 1) = false:=by simpa using hk
  rw [qn]
  generalize he:qv h.length Wd qdA _ = r
  simp only [qdA,sT.1,sC.1,qg,seval,-rN,ht,e0,qo hw hn,hp,hs,PBi,qX hw n1,E,Tok.enc,Y,qcR hw n1,a1] at he
  subst he
  exact ⟨n1,_,_,rfl,hL.cut _⟩
 | @many e n hs hk hm=>
  intro tt H hn hd ht e0 e2 e3 hL
  have n1:=ql hw hn hs
  have E:i < H.length:=by have:=hL.lt;have:=hL.len;omega
  have a1:Nat.ble h.length H.length = true:=qx (by have:=hL.len;omega)
  have hp:=hL.par
  rw [PBi] at hp
  have Y:((word ws (n + 1)).kind == 1) = true:=by simpa using hk
  have a6:ile 4 (word ws (n + 1)).n = true:=by rw [qaD];simpa using hm
  rw [qn]
  generalize he:qv h.length Wd qdA _ = r
  simp only [qdA,sT.1,sC.1,qg,seval,-rN,ht,e0,qo hw hn,hp,hs,PBi,qX hw n1,E,Tok.enc,Y,a6,qax,a1] at he
  subst he
  exact ⟨n1,_,_,rfl,hL.cut _⟩
 | @deep e n hs hk hm a7=>
  intro tt H hn hd ht e0 e2 e3 hL
  have n1:=ql hw hn hs
  have n2:=hw.next n1 zo
  have E:i < H.length:=by have:=hL.lt;have:=hL.len;omega
  have a8:h.length + 1 < H.length:=hL.len
  have aa:i ≠ h.length + 1:=by have:=hL.lt;omega
  have a1:Nat.ble h.length H.length = true:=qx (by have:=hL.len;omega)
  have hp:=hL.par
  have I:=hL.nod
  rw [NBi] at I
  rw [PBi] at hp
  have Y:((word ws (n + 1)).kind == 1) = true:=by simpa using hk
  have a6:ile 4 (word ws (n + 1)).n = false:=by rw [qaD];simpa using hm
  have w:=qJ (n:=n + 1) (by have:=hw.len;omega)
  rw [qn]
  generalize he:qv h.length Wd qdA _ = r
  simp only [qdA,sT.1,sC.1,qg,seval,-rN,ht,e0,e3,qo hw hn,hp,hs,PBi,qX hw n1,E,Tok.enc,Y,a6,a1,a8,aa,I,w,Nd.cut6,Nd.cutE,Nd.dimE,qz,qb4,qiP,hd,a7] at he
  subst he
  exact ⟨n2,_,_,rfl,hL.cut _⟩
 | @go e n o hs hk hm a7 hI ih=>
  intro tt H hn hd ht e0 e2 e3 hL
  have n1:=ql hw hn hs
  have n2:=hw.next n1 zo
  have E:i < H.length:=by have:=hL.lt;have:=hL.len;omega
  have a8:h.length + 1 < H.length:=hL.len
  have aa:i ≠ h.length + 1:=by have:=hL.lt;omega
  have a1:Nat.ble h.length H.length = true:=qx (by have:=hL.len;omega)
  have hp:=hL.par
  have I:=hL.nod
  rw [NBi] at I
  rw [PBi] at hp
  have Y:((word ws (n + 1)).kind == 1) = true:=by simpa using hk
  have a6:ile 4 (word ws (n + 1)).n = false:=by rw [qaD];simpa using hm
  have w:=qJ (n:=n + 1) (by have:=hw.len;omega)
  rw [qn]
  generalize he:qv h.length Wd qdA _ = r
  simp only [qdA,sT.1,sC.1,qg,seval,-rN,ht,e0,e3,qo hw hn,hp,hs,PBi,qX hw n1,E,Tok.enc,Y,a6,a1,a8,aa,I,w,Nd.cut6,Nd.cutE,Nd.dimE,Nd.cellsE,Nd.dims,Nd.len,Nd.stor,Nd.drainE,Nd.drop7,qz,qb4,qiP,hd,a7,qN] at he
  subst he
  exact ih _ _ n2 a7 Y1 Y2 Y3 Y4 (hL.next _)
theorem qgW.start {i n:Nat} {x:Nd} (hi:i < h.length):qgW h i ws n x (h.set i (PB ws n) ++ [qvq,NB x]):=by
 refine ⟨hi,by simp,?_,?_,?_,?_⟩
 ·rw [qcT (by simpa using hi),qeA hi]
 ·rw [qcy (by simp)];rfl
 ·rw [List.getElem?_append_right (by simp)];simp
 ·rw [jR (by simp),List.take_of_length_le (by simp)]
theorem qgW.answer {i n:Nat} {x:Nd} {H:List qj} (hl:qgW h i ws n x H):leave h.length (.ret x.enc) (H.set h.length (NB x)) false = (.ret x.enc,h.set i (PB ws n),false):=
 qbm (by rw [jS zo,hl.old]) (x.lower _)
theorem qnK (hw:WF ws) {n:Nat} (hn:n < ws.length) {e:Exp} {n1:Nat} {o:Out} (h1:qag 219 ws n (.ok e n1)) (hI:qeh ws (word ws n).pos e n1 o) (Y:∀e' n',o = .ok e' n'->n1 <= n'):qag 218 ws n o:=by
 obtain ⟨g1,g2,g3,g4⟩:=h1
 have run:∀(h:List qj) (i:Nat),h[i]? = some (PB ws n)->∃r,qvB h i ws (word ws n).pos 40 r o/\Wd (.fn 218 [] []) [.ptr i 0] h = qfO [.cell 2 (some 7)] h (qb8 (qv h.length Wd (.seq (.reg [ao 39 (.ld (some 7) (.t 3)),an (.st (some 7) (.t 2) (.t 39))]) .ret)) (qc8 0 r)):=by
  intro h i hi
  have a6:=qf hi
  rw [PBi] at hi
  generalize hr:Wd (.fn 218 [] []) [.ptr i 0] h = R
  rw [qm 218 qCe] at hr
  simp only [qCe,sT.1,sC.1,qg,seval,-rN,g4,hi,a6,PBi,Nd.dimE,Nd.cellsE,Nd.dims,Nd.len,Nd.stor,Nd.drainE,qN] at hr
  generalize hq:qv h.length Wd (.loop qdA) _ = r at hr
  refine ⟨r,?_,?_⟩
  ·rw [<-hq]
   exact qs0 hw i _ e n1 o hI _ _ g2 g3 Y0 Y0 Y0 Y0 (qgW.start a6)
  ·rw [<-hr]
   simp only [sC.1,seval,-rN]
 cases o with
 | ok e' n'=>
  have hm:=Y e' n' rfl
  obtain ⟨r,hL,_⟩:=run (List.replicate 1 (PB ws n)) 0 rfl
  refine ⟨zo,hL.1,hL.2.1,λh i hi=>?_⟩
  obtain ⟨r,⟨q1,q2,tt,H,rfl,ht,e2,e3,hL⟩,hr⟩:=run h i hi
  have I:=hL.nod
  have E:=hL.res
  have a7:=hL.len
  have a1:h.length < H.length:=zo
  rw [NBi] at I
  rw [qjC] at E
  rw [hr]
  simp only [sT.1,sC.1,qg,seval,-rN,ht,e2,e3,I,E,a1,Nd.dimE,Nd.cellsE,Nd.cutE,Nd.dims,Nd.len,Nd.stor,Nd.drainE]
  exact congrArg some hL.answer
 | no pos err n'=>
  obtain ⟨r,hL,_⟩:=run (List.replicate 1 (PB ws n)) 0 rfl
  refine ⟨hL.1,λh i hi=>?_⟩
  obtain ⟨r,⟨q1,tt,H,rfl,q3⟩,hr⟩:=run h i hi
  rw [hr]
  simp only [sT.1,sC.1,seval,-rN]
  exact congrArg some (qa4 q3 (qe _ _ _))
end
end Go.Proofs.YtcbfifamliijlaaGreatDoor.AE
