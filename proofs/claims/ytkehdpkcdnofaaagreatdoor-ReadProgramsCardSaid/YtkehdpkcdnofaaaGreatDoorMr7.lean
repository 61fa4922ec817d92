/- A part of the proof. No condition. -/
import Derived.Test.YtkehdpkcdnofaaaGreatDoorMr6
import Derived.Test.YtkehdpkcdnofaaaGreatDoorMr2
import Derived.KernelRfl
import Derived.Laws.BitsLemmas
set_option maxRecDepth 100000
set_option maxHeartbeats 0
open List renaming take_append_of_le_length→jS,take_set_of_le→jT,drop_eq_getElem_cons→jU,getElem?_eq_getElem→jh,length_append→ji,length_map→jQ,length_set→jV,getElem?_map→jr,nil_append→jW,cons_append→jw,length_cons→jy,length_nil→jz
open Bool renaming and_eq_true→jk
namespace Go.Proofs.YtkehdpkcdnofaaaGreatDoor.AE
open Go.AE
theorem qbU {s:List UInt8} {i:Nat} (hi:i < s.length):qln (.str s) (.int .i64 (i:Nat)) = some (.int .u8 (s[i].toNat:Nat)):=qdp (jh hi)
theorem blA (h:List qk) (k:Nat):Nat.ble h.length (h.length + k) = true:=Nat.ble_eq_true_of_le (Nat.le_add_right _ _)
theorem bl0 (h:List qk):Nat.ble h.length h.length = true:=Nat.ble_eq_true_of_le (Nat.le_refl _)
theorem qiQ:qoc X where
 mono f g h:=by
  unfold X at h
  split at h
  all_goals first
   | (cases h;exact λc d hc aS h=>qoQ hc (Nat.le_refl _))
   | (cases h;exact λc d hc aS h x hx=>hx)
   | cases h
 cont f g h:=by
  unfold X at h
  split at h
  all_goals first
   | (cases h;exact λc hc aS h x hx=>qoP hc hx)
   | (cases h;exact λc hc aS h x hx=>⟨0,hx⟩)
   | cases h
noncomputable def Wd:AE.Call:=W T.get X
theorem qu (f:FuncId) (fn:qA) {first args cap:List qd} {h:List qk} (h1:X f = none:=by rfl) (h2:T.get f = some fn:=by kernel_rfl) :
  Wd (.fn f first cap) args h = qbS fn.results h (qg h.length Wd fn.code ⟨(first ++ args ++ cap).map qd.dim ++ List.replicate (fn.ntmps - ((first ++ args ++ cap).map qd.dim).length) (.tup []),h,false⟩):=qFV qiQ h1 h2
theorem qcb {n:Int} (h1:-9223372036854775808 <= n) (h2:n <= 9223372036854775807):IntKind.i64.wrap n = n:=by
 rw [IntKind.wrap_i64]
 omega
theorem qo {n:Nat} (h:n < 9223372036854775807):IntKind.i64.wrap ((n:Int) + 1) = ((n + 1:Nat):Int):=by
 rw [qcb zo zo]
 rfl
abbrev Str:=List UInt8
def qba (c:UInt8):Bool:=ile 97 (c.toNat:Int) && ile (c.toNat:Int) 122
def qaq (c:UInt8):Bool:=ile 48 (c.toNat:Int) && ile (c.toNat:Int) 57
def qaY:Nat->Str->Bool
 | _,[]=>true
 | i,c :: s=>bif !qba c && (i == 0 || !qaq c) then false else qaY (i + 1) s
def qge (s:Str):Bool:=decide (1 <= s.length) && decide (s.length <= 16) && qaY 0 s
theorem qxn (s:Str) (h:List qk):Wd (.fn 117 [] []) [.str s] h = some (.ret (.bool (qge s)),h,false):=by
 have loop:∀k st,(∃tt i,st = ⟨tt,h,false⟩/\tt.length = 50/\lkp tt 0 = .str s/\lkp tt 15 = .int .i64 (s.length:Nat)/\lkp tt 16 = .int .i64 (i:Nat)/\i + k = s.length/\qaY i (s.drop i) = qaY 0 s/\s.length <= 16)->
   ∃x E,qg h.length Wd (.loop qjp) st = some (x,E)/\((x = .exit 0/\qaY 0 s = true/\∃tt,E = ⟨tt,h,false⟩/\tt.length = 50)\/(x = .ret/\qaY 0 s = false/\∃tt,E = ⟨tt,h,false⟩/\tt.length = 50/\lkp tt 2 = .bool false)):=by
  refine qgG _ _ ?_
  rintro k st ⟨tt,i,rfl,ht,e0,U,I,Y,hR,hl⟩
  generalize he:qg h.length Wd qjp _ = r
  rcases Nat.lt_or_ge i s.length with hi | hi
  ·have c1:ilt (i:Int) (s.length:Int) = true:=by rw [qD];simp;omega
   have hx:=qbU hi
   have w:=qo (n:=i) zo
   rw [jU hi,qaY] at hR
   simp only [qba,qaq] at hR
   have hz:((i:Int) == 0) = (i == 0):=by rw [Bool.eq_iff_iff];simp
   simp only [sB.1,qjp,seval,ht,e0,U,I,c1,hx,hz] at he
   cases hb:(!(ile 97 (s[i].toNat:Int) && ile (s[i].toNat:Int) 122) && (i == 0 || !(ile 48 (s[i].toNat:Int) && ile (s[i].toNat:Int) 57))) with
   | true=>
    rw [hb] at hR
    simp only [sB.1,hb,seval] at he
    subst he
    refine .inr ⟨_,_,rfl,by simp,.inr ⟨rfl,by simpa using hR.symm,_,rfl,Y0,?_⟩⟩
    simp only [sB.1,seval,ht]
   | false=>
    rw [hb] at hR
    simp only [sB.1,hb,seval,ht,I,w] at he
    subst he
    refine .inl ⟨_,k - 1,rfl,zo,_,i + 1,rfl,Y0,?_,?_,?_,zo,by simpa using hR,hl⟩
    ·simp only [sB.1,seval,e0]
    ·simp only [sB.1,seval,U]
    ·simp only [sB.1,seval,ht]
  ·have c1:ilt (i:Int) (s.length:Int) = false:=by rw [qD];simp;omega
   simp only [sB.1,qjp,seval,ht,U,I,c1] at he
   subst he
   rw [List.drop_eq_nil_of_le hi,qaY] at hR
   exact .inr ⟨_,_,rfl,by simp,.inl ⟨rfl,hR.symm,_,rfl,Y0⟩⟩
 rw [qu 117 qAo]
 by_cases g1:1 <= s.length
 ·have d1:ilt (s.length:Int) 1 = false:=by rw [qD];simp;omega
  by_cases g2:s.length <= 16
  ·have d2:ilt 16 (s.length:Int) = false:=by rw [qD];simp;omega
   simp only [sB.1,qAo,seval,d1,d2]
   generalize hr:qg h.length Wd (.loop qjp) _ = r
   obtain ⟨x,E,rfl,hq⟩:=qvQ hr (loop s.length _ ⟨_,0,rfl,Y1,Y1,Y1,z10,zo,rfl,g2⟩)
   rcases hq with ⟨rfl,hv,tt,rfl,ht⟩ | ⟨rfl,hv,tt,rfl,ht,e2⟩
   ·simp only [sB.1,seval,ht]
    simp [qge,g1,g2,hv]
   ·simp only [sB.1,seval,e2]
    simp [qge,g1,g2,hv]
  ·have d2:ilt 16 (s.length:Int) = true:=by rw [qD];simp;omega
   simp only [sB.1,qAo,seval,d1,d2]
   simp [qge,g2]
 ·have d1:ilt (s.length:Int) 1 = true:=by rw [qD];simp;omega
  simp only [sB.1,qAo,seval,d1]
  simp [qge,g1]
def qCX:qd->Str
 | .str s=>s
 | _=>[]
def words:List Str:=g1.map qCX
theorem qxt:g1 = words.map qd.str:=zk
theorem quB:words.length = 33:=zk
def qbO (s:Str):Bool:=words.any (· == s)
theorem qnc (s:Str) (h:List qk):Wd (.fn 118 [] []) [.str s] h = some (.ret (.bool (qbO s)),h,false):=by
 have loop:∀k st,(∃tt i,st = ⟨tt,h,false⟩/\tt.length = 13/\lkp tt 0 = .str s/\lkp tt 5 = .agg g1/\lkp tt 6 = .int .i64 (i:Nat)/\i + k = 33/\(words.drop i).any (· == s) = qbO s)->
   ∃x E,qg h.length Wd (.loop qil) st = some (x,E)/\((x = .exit 0/\qbO s = false/\∃tt,E = ⟨tt,h,false⟩/\tt.length = 13)\/(x = .ret/\qbO s = true/\∃tt,E = ⟨tt,h,false⟩/\tt.length = 13/\lkp tt 2 = .bool true)):=by
  refine qgG _ _ ?_
  rintro k st ⟨tt,i,rfl,ht,e0,e5,e6,U,hR⟩
  generalize he:qg h.length Wd qil _ = r
  have I:=quB
  rcases Nat.lt_or_ge i 33 with hi | hi
  ·have c1:ilt (i:Int) 33 = true:=by rw [qD];simp;omega
   have hx:qAu 33 none (.agg g1) (.int .i64 (i:Nat)) = some (.str (words[i]' zo)):=by
    rw [qnP (v:=.str (words[i]' zo)) hi (by rw [qxt,jr,jh zo];rfl)]
    rfl
   have w:=qo (n:=i) zo
   rw [jU zo,List.any_cons] at hR
   cases hb:((words[i]' zo) == s) with
   | true=>
    rw [hb] at hR
    simp only [sB.1,qil,seval,ht,e0,e5,e6,c1,hx,hb] at he
    subst he
    refine .inr ⟨_,_,rfl,by simp,.inr ⟨rfl,by simpa using hR.symm,_,rfl,Y0,?_⟩⟩
    simp only [sB.1,seval,ht]
   | false=>
    rw [hb] at hR
    simp only [sB.1,qil,seval,ht,e0,e5,e6,c1,hx,hb,w] at he
    subst he
    refine .inl ⟨_,k - 1,rfl,zo,_,i + 1,rfl,Y0,?_,?_,?_,zo,by simpa using hR⟩
    ·simp only [sB.1,seval,e0]
    ·simp only [sB.1,seval,e5]
    ·simp only [sB.1,seval,ht]
  ·have c1:ilt (i:Int) 33 = false:=by rw [qD];simp;omega
   simp only [sB.1,qil,seval,ht,e6,c1] at he
   subst he
   rw [List.drop_eq_nil_of_le zo,List.any_nil] at hR
   exact .inr ⟨_,_,rfl,by simp,.inl ⟨rfl,hR.symm,_,rfl,Y0⟩⟩
 have hg:cut g1 0 (some 33) = some (.agg g1):=zk
 rw [qu 118 qC5]
 simp only [sB.1,qC5,seval,hg]
 generalize hr:qg h.length Wd (.loop qil) _ = r
 obtain ⟨x,E,rfl,hq⟩:=qvQ hr (loop 33 _ ⟨_,0,rfl,Y1,Y1,Y1,z10,zo,rfl⟩)
 rcases hq with ⟨rfl,hv,tt,rfl,ht⟩ | ⟨rfl,hv,tt,rfl,ht,e2⟩
 ·simp only [sB.1,seval,ht,hv]
 ·simp only [sB.1,seval,e2,hv]
def qfZ (s:Str):Bool:=qge s && !qbO s
theorem qsC (s:Str) (h:List qk):Wd (.fn 84 [] []) [.str s] h = some (.ret (.bool (qfZ s)),h,false):=by
 rw [qu 84 c84]
 cases hv:qge s <;> cases hr:qbO s <;> (simp only [sB.1,c84,seval,qxn,qnc,hv,hr];simp [qfZ,hv,hr])
structure Tok where
 kind:Int
 s:Str
 n:Int
 pos:Int
def Tok.enc (t:Tok):qd:=.agg [.int .i64 t.kind,.str t.s,.int .i64 t.n,.int .i64 t.pos]
def PB (ws:List Tok) (n:Nat):qk:=.cells [.lst (ws.map Tok.enc) .no,.int .i64 (n:Int)]
structure WF (ws:List Tok):Prop where
 len:ws.length < 100000
 last:∀n w,ws[n]? = some w->w.kind ≠ 4->n + 1 < ws.length
def word (ws:List Tok) (n:Nat):Tok:=ws.getD n ⟨4,[],0,0⟩
theorem qhW {ws:List Tok} {n:Nat} (hn:n < ws.length):ws[n]? = some (word ws n):=by
 simp [word,List.getD,jh hn]
theorem WF.next {ws:List Tok} (hw:WF ws) {n:Nat} (hn:n < ws.length) (h:(word ws n).kind ≠ 4):n + 1 < ws.length:=hw.last n _ (qhW hn) h
section
variable {h:List qk} {i:Nat} {ws:List Tok} {n:Nat}
theorem qc {b:qk} (hi:h[i]? = some b):i < h.length:=(List.getElem?_eq_some_iff.1 hi).1
theorem qag (hw:WF ws) (hn:n < ws.length) (hi:h[i]? = some (PB ws n)):Wd (.fn 45 [] []) [.ptr i 0] h = some (.ret (word ws n).enc,h,false):=by
 have hl:ilt (n:Int) ((ws.map Tok.enc).length:Int) = true:=by
  rw [qD];simp;omega
 have hx:qeQ 4 (.lst (ws.map Tok.enc) .no) (.int .i64 (n:Nat)) = some (.iptr (word ws n).enc.cells 0):=qbG (by rw [jr,qhW hn];rfl) rfl
 have E:=qc hi
 rw [qu 45 c45]
 simp only [sB.1,c45,seval,PB,hi,hl,hx,E,Tok.enc]
theorem qa4 (hw:WF ws) (hn:n < ws.length) (hi:h[i]? = some (PB ws n)):Wd (.fn 47 [] []) [.ptr i 0] h = some (.ret (.int .i64 (word ws n).pos),h,false):=by
 rw [qu 47 c47]
 simp only [sB.1,c47,seval,qag hw hn hi,Tok.enc]
def qrP:TypeId:=74
def qbK (pos e:Int):qd:=.iface qrP (.agg [.int .i64 pos,.int .i64 e])
theorem qe (pos e:Int) (n:Nat):(qbK pos e).lower n = true:=by simp [qbK,qd.lower,qj]
theorem qaJ (pos e:Int) (p:qd):Wd (.fn 46 [] []) [p,.int .i64 pos,.int .i64 e] h = some (.pan (qbK pos e),h,false):=by
 rw [qu 46 c46]
 simp only [sB.1,c46,seval,qr,qbK,qrP]
theorem qeb (hw:WF ws) (hn:n < ws.length) (hi:h[i]? = some (PB ws n)):Wd (.fn 24 [] []) [.ptr i 0] h = some (.pan (qbK (word ws n).pos 6),h,false):=by
 rw [qu 24 c24]
 simp only [sB.1,c24,seval,qa4 hw hn hi,qaJ,qe]
def isW (ws:List Tok) (n:Nat) (s:Str):Bool:=((word ws n).kind == 3 || (word ws n).kind == 0) && (word ws n).s == s
theorem qcJ (hw:WF ws) (hn:n < ws.length) (hi:h[i]? = some (PB ws n)) (s:Str):Wd (.fn 23 [] []) [.ptr i 0,.str s] h = some (.ret (.bool (isW ws n s)),h,false):=by
 rw [qu 23 c23]
 simp only [sB.1,c23,seval,qag hw hn hi,Tok.enc,isW]
theorem qi (hw:WF ws) (hn:n < ws.length) {s:Str} (hs:isW ws n s = true):n + 1 < ws.length:=by
 refine hw.next hn λh4=>?_
 simp [isW,h4] at hs
theorem qy (hw:WF ws) (hn:n < ws.length) (hi:h[i]? = some (PB ws n)) {s:Str} (hs:isW ws n s = false):Wd (.fn 52 [] []) [.ptr i 0,.str s] h = some (.ret (.bool false),h,false):=by
 rw [qu 52 c52]
 simp only [sB.1,c52,seval,qcJ hw hn hi,hs]
theorem qcO (hi:h[i]? = some (PB ws n)):h.set i (PB ws n) = h:=by
 apply List.ext_getElem?
 intro j
 by_cases hj:i = j
 ·subst hj;rw [hi,List.getElem?_set_self (qc hi)]
 ·rw [List.getElem?_set_ne hj]
theorem qt (hw:WF ws) (hn:n < ws.length) (hi:h[i]? = some (PB ws n)) {s:Str} (hs:isW ws n s = true):Wd (.fn 52 [] []) [.ptr i 0,.str s] h = some (.ret (.bool true),h.set i (PB ws (n + 1)),false):=by
 have I:=qc hi
 have hl:=hw.len
 have w:=qo (n:=n) zo
 have E:h[i]? = some (.cells [.lst (ws.map Tok.enc) .no,.int .i64 (n:Int)]):=hi
 rw [qu 52 c52]
 simp only [sB.1,c52,seval,qcJ hw hn hi,hs,E,w]
 rfl
theorem qH (hw:WF ws) (hn:n < ws.length) (hi:h[i]? = some (PB ws n)) {s:Str} (hs:isW ws n s = true):Wd (.fn 27 [] []) [.ptr i 0,.str s] h = some (.ret (.tup []),h.set i (PB ws (n + 1)),false):=by
 rw [qu 27 c27]
 simp only [sB.1,c27,seval,qt hw hn hi hs]
theorem qb3 (hw:WF ws) (hn:n < ws.length) (hi:h[i]? = some (PB ws n)) {s:Str} (hs:isW ws n s = false):Wd (.fn 27 [] []) [.ptr i 0,.str s] h = some (.pan (qbK (word ws n).pos 6),h,false):=by
 rw [qu 27 c27]
 simp only [sB.1,c27,seval,qy hw hn hi hs,qeb hw hn hi,qe]
def qM (ws:List Tok) (n:Nat):Bool:=(word ws n).kind == 0 && qfZ (word ws n).s
theorem qF (hw:WF ws) (hn:n < ws.length) (hs:qM ws n = true):n + 1 < ws.length:=by
 refine hw.next hn λh4=>?_
 simp [qM,h4] at hs
theorem qaf (hw:WF ws) (hn:n < ws.length) (hi:h[i]? = some (PB ws n)):Wd (.fn 53 [] []) [.ptr i 0] h = some (.ret (.bool (qM ws n)),h,false):=by
 rw [qu 53 c53]
 cases hk:(word ws n).kind == 0 <;> simp only [sB.1,c53,seval,qag hw hn hi,Tok.enc,qsC,qM,hk]
theorem qcq (hw:WF ws) (hn:n < ws.length) (hi:h[i]? = some (PB ws n)) (hs:qM ws n = true):Wd (.fn 28 [] []) [.ptr i 0] h = some (.ret (.str (word ws n).s),h.set i (PB ws (n + 1)),false):=by
 have I:=qc hi
 have hl:=hw.len
 have w:=qo (n:=n) zo
 have E:h[i]? = some (.cells [.lst (ws.map Tok.enc) .no,.int .i64 (n:Int)]):=hi
 rw [qu 28 c28]
 simp only [sB.1,c28,seval,qaf hw hn hi,hs,qag hw hn hi,Tok.enc,E,w]
 rfl
theorem qmX (hw:WF ws) (hn:n < ws.length) (hi:h[i]? = some (PB ws n)) (hs:qM ws n = false):Wd (.fn 28 [] []) [.ptr i 0] h = some (.pan (qbK (word ws n).pos 6),h,false):=by
 rw [qu 28 c28]
 simp only [sB.1,c28,seval,qaf hw hn hi,hs,qeb hw hn hi,qe]
end
def fl (b:Bool):qha:=bif b then .full else .no
theorem qp (xs:List qd) (b:Bool):(qd.lst xs (fl b)).dim = .lst xs (fl b):=by cases b <;> rfl
theorem qB (xs:List qd) (b:Bool) (i:Nat) (t:List qd):qcy (.lst xs (fl b)) i t = t:=by cases b <;> rfl
inductive Exp where
 | mk (op n:Int) (name sub:Str) (args:List Exp)
mutual
def Exp.cs (φ:Int->Nat->Bool):Exp->List qd
 | .mk op n name sub args=>[.int .i64 op,.int .i64 n,.str name,.str sub,.lst (qaE φ args) (fl (φ op args.length))]
def qaE (φ:Int->Nat->Bool):List Exp->List qd
 | []=>[]
 | e :: es=>.agg (e.cs φ) :: qaE φ es
end
def Exp.enc (φ:Int->Nat->Bool) (e:Exp):qd:=.agg (e.cs φ)
theorem qdB (φ:Int->Nat->Bool):∀es:List Exp,qaE φ es = es.map (Exp.enc φ)
 | []=>rfl
 | e :: es=>by simp [qaE,qdB φ es,Exp.enc]
theorem Exp.cs_len (φ:Int->Nat->Bool):∀e:Exp,(e.cs φ).length = 5
 | .mk ..=>rfl
mutual
def Exp.depth:Exp->Nat
 | .mk _ _ _ _ args=>qaD args + 1
def qaD:List Exp->Nat
 | []=>0
 | e :: es=>max e.depth (qaD es)
end
def φP:Int->Nat->Bool:=λ_ n=>n == 0
structure Nd where
 e:Exp
 pos:Int
def Nd.cs (x:Nd):List qd:=x.e.cs φP ++ [.int .i64 (x.e.depth:Nat),.int .i64 x.pos]
def Nd.enc (x:Nd):qd:=.agg x.cs
theorem qes:∀(a b:List Exp),qaD (a ++ b) = max (qaD a) (qaD b)
 | [],b=>by simp [qaD]
 | e :: a,b=>by simp [qaD,qes a b,Nat.max_assoc]
section
variable {h:List qk}
mutual
theorem qcH (φ:Int->Nat->Bool) (n:Nat):∀e:Exp,qj n (e.cs φ) = true
 | .mk op k name sub args=>by simp [Exp.cs,qj,qd.lower,qx φ n args]
theorem qx (φ:Int->Nat->Bool) (n:Nat):∀es:List Exp,qj n (qaE φ es) = true
 | []=>rfl
 | e :: es=>by simp [qaE,qj,qd.lower,qcH φ n e,qx φ n es]
end
theorem Nd.lower (x:Nd) (n:Nat):x.enc.lower n = true:=by
 obtain ⟨⟨op,k,name,sub,args⟩,pos⟩:=x
 simp [Nd.enc,Nd.cs,Exp.cs,qd.lower,qj,qx]
theorem qvx {es:List Exp} (φ:Int->Nat->Bool):∀x ∈ qaE φ es,x.cells.length = 5:=by
 intro x hx
 rw [qdB] at hx
 obtain ⟨e,_,rfl⟩:=List.mem_map.1 hx
 exact e.cs_len φ
theorem qrh (φ:Int->Nat->Bool):∀e:Exp,(e.cs φ).all qd.storable = true
 | .mk ..=>rfl
theorem qbw (φ:Int->Nat->Bool) (es:List Exp):(qaE φ es).length = es.length:=by rw [qdB,jQ]
theorem qhq {es:List Exp} (e:Exp) (φ:Int->Nat->Bool) (hl:es.length <= 1000):qbE 5 (qaE φ es) [.agg (e.cs φ)] = true:=by
 simp only [qbE,jk,decide_eq_true_eq]
 refine ⟨⟨?_,?_⟩,?_⟩
 ·rw [qbw]
  simp only [jy,jz,qe6]
  omega
 ·simp [qd.cells,e.cs_len φ]
  simpa using qrh φ e
 ·cases hh:(qaE φ es).head? with
  | none=>rfl
  | some x=>simp [qvx φ x (List.mem_of_mem_head? hh)]
theorem qhw (φ:Int->Nat->Bool) (a b:List Exp):qaE φ (a ++ b) = qaE φ a ++ qaE φ b:=by simp [qdB]
def qhf (op n:Int) (name sub:Str) (pos:Int) (done:List Exp):qk:=
 .cells [.int .i64 op,.int .i64 n,.str name,.str sub,.lst (qaE φP done) (bif done.isEmpty then .full else .own 5),.int .i64 ((qaD done + 1:Nat):Int),.int .i64 pos]
def qqv (h:List qk) (p:qd) (pos op n:Int) (name sub:Str) (parts:List Nd) (f:Bool) (i:Nat) (st:St):Prop:=
 ∃tt H,st = ⟨tt,H,false⟩/\tt.length = 45/\lkp tt 0 = p.dim/\lkp tt 1 = .int .i64 pos/\lkp tt 8 = .ptr (h.length + 1) 0/\lkp tt 9 = .ptr (h.length + 2) 0/\lkp tt 15 = .lst (parts.map Nd.enc) (fl f)/\lkp tt 16 = .int .i64 (parts.length:Nat)/\lkp tt 17 = .int .i64 (i:Nat)/\
  h.length + 2 < H.length/\H[h.length + 2]? = some (qhf op n name sub pos ((parts.take i).map Nd.e))/\H[h.length + 1]? = some (.cells [.int .i64 0,.int .i64 0,.str [],.str [],.lst [] .full,.int .i64 0,.int .i64 0])/\H.take h.length = h
theorem qs3 (p:qd) (pos op n:Int) (name sub:Str) (parts:List Nd) (f:Bool) (hp:parts.length <= 4) (hd:∀x ∈ parts,x.e.depth <= 20) :
  ∀k st,(∃i,i + k = parts.length/\qqv h p pos op n name sub parts f i st)->∃x ab,qg h.length Wd (.loop qmO) st = some (x,ab)/\(x = .exit 0/\qqv h p pos op n name sub parts f parts.length ab):=by
 refine qgG _ _ ?_
 rintro k st ⟨i,am,tt,H,rfl,ht,e0,e1,e8,e9,a6,a1,a7,hH,g2,g1,gt⟩
 generalize he:qg h.length Wd qmO _ = r
 rcases Nat.lt_or_ge i parts.length with hi | hi
 ·have c1:ilt (i:Int) (parts.length:Int) = true:=by rw [qD];simp;omega
  have w:=qo (n:=i) zo
  have hx:qeQ 7 (.lst (parts.map Nd.enc) (fl f)) (.int .i64 (i:Nat)) = some (.iptr (parts[i]).cs 0):=qbG (x:=(parts[i]).enc) (by rw [jr,jh hi];rfl) (by simp [Nd.enc,qd.cells,Nd.cs,Exp.cs_len])
  have ac:=hd _ (List.getElem_mem hi)
  have a8:parts.take (i + 1) = parts.take i ++ [parts[i]]:=by rw [List.take_add_one,jh hi];rfl
  rcases ah:parts[i] with ⟨⟨Y,n',I,U,E⟩,pos'⟩
  rw [ah] at hx ac a8
  simp only [Nd.cs,Exp.cs,jw,jW] at hx
  have ai:(parts.take i).length = i:=by simp;omega
  have wd:IntKind.i64.wrap (((Exp.mk Y n' I U E).depth:Int) + 1) = (((Exp.mk Y n' I U E).depth + 1:Nat):Int):=qo (by simp only at ac;omega)
  have ad:=blA h 2
  have ae:Nat.ble h.length H.length = true:=qE zo
  rcases Nat.eq_zero_or_pos i with h0 | h0
  ·subst h0
   simp only [List.take_zero,List.map_nil,qhf,List.isEmpty_nil,cond_true,qaE,qaD] at g2
   have aa:qbE 5 [] [.agg [.int .i64 Y,.int .i64 n',.str I,.str U,.lst (qaE φP E) (fl (φP Y E.length))]] = true:=qhq (es:=[]) (.mk Y n' I U E) φP (by simp)
   simp only [sA.1,qmO,seval,-Int.reduceNatCast',qp,ht,e9,a6,a1,a7,c1,hx,w,hH,g2,aa,qbb,wd,ad,ae] at he
   subst he
   refine .inl ⟨_,k - 1,rfl,zo,1,zo,_,_,rfl,Y0,?_,?_,?_,?_,?_,?_,?_,?_,?_,?_,?_⟩
   ·simp only [sB.1,seval,e0]
   ·simp only [sB.1,seval,e1]
   ·simp only [sB.1,seval,e8]
   ·simp only [sB.1,seval,e9]
   ·simp only [sB.1,seval,a6]
   ·simp only [sB.1,seval,a1]
   ·simp only [sB.1,seval,ht]
   ·simp only [ji,jV,jy,jz];omega
   ·rw [qah (by rw [jV];exact hH),qY hH,a8]
    simp [qhf,qaE,Exp.cs,qaD]
   ·rw [qah (by rw [jV];omega),qN zo,g1]
   ·rw [jS (by rw [jV];omega),jT zo,gt]
  ·have aj:(parts.take i).map Nd.e ≠ []:=by
    intro af
    have:=congrArg List.length af
    rw [jQ,ai] at this
    simp at this
    omega
   have al:((parts.take i).map Nd.e).isEmpty = false:=by cases hq:(parts.take i).map Nd.e with | nil=>exact absurd hq aj | cons=>rfl
   simp only [qhf,al,cond_false] at g2
   have aa:qbE 5 (qaE φP ((parts.take i).map Nd.e)) [.agg [.int .i64 Y,.int .i64 n',.str I,.str U,.lst (qaE φP E) (fl (φP Y E.length))]] = true:=qhq (.mk Y n' I U E) φP (by rw [jQ];omega)
   simp only [sA.1,qmO,seval,qp,ht,e9,a6,a1,a7,c1,hx,w,hH,g2,aa,qbb,wd,ad,ae] at he
   subst he
   refine .inl ⟨_,k - 1,rfl,zo,i + 1,zo,_,_,rfl,Y0,?_,?_,?_,?_,?_,?_,?_,?_,?_,?_,?_⟩
   ·simp only [sB.1,seval,e0]
   ·simp only [sB.1,seval,e1]
   ·simp only [sB.1,seval,e8]
   ·simp only [sB.1,seval,e9]
   ·simp only [sB.1,seval,a6]
   ·simp only [sB.1,seval,a1]
   ·simp only [sB.1,seval,ht]
   ·simp only [ji,jV,jy,jz];omega
   ·rw [qah (by rw [jV];exact hH),qY hH,a8]
    simp [qhf,qaE,Exp.cs,qaD,qhw,qes]
    cases List.take i (List.map Nd.e parts) <;> rfl
   ·rw [qah (by rw [jV];omega),qN zo,g1]
   ·rw [jS (by rw [jV];omega),jT zo,gt]
 ·have c1:ilt (i:Int) (parts.length:Int) = false:=by rw [qD];simp;omega
  have ak:i = parts.length:=zo
  subst ak
  simp only [sB.1,qmO,seval,ht,a1,a7,c1] at he
  subst he
  refine .inr ⟨_,_,rfl,by simp,rfl,_,_,rfl,Y0,?_,?_,?_,?_,?_,?_,?_,hH,g2,g1,gt⟩
  ·simp only [sB.1,seval,e0]
  ·simp only [sB.1,seval,e1]
  ·simp only [sB.1,seval,e8]
  ·simp only [sB.1,seval,e9]
  ·simp only [sB.1,seval,a6]
  ·simp only [sB.1,seval,a1]
  ·simp only [sB.1,seval,a7]
def mkE (op n:Int) (name sub:Str) (parts:List Nd):Exp:=.mk op n name sub (parts.map Nd.e)
theorem qix (p:qd) (pos op n:Int) (name sub:Str) (parts:List Nd) (f:Bool) (hp:parts.length <= 4) (hd:∀x ∈ parts,x.e.depth <= 20) :
  Wd (.fn 65 [] []) [p,.int .i64 pos,.agg [.int .i64 op,.int .i64 n,.str name,.str sub,.lst [] .full],.lst (parts.map Nd.enc) (fl f)] h =
   if (mkE op n name sub parts).depth <= 20 then some (.ret (Nd.enc ⟨mkE op n name sub parts,pos⟩),h,false) else some (.pan (qbK pos 7),h,false):=by
 have a1:=blA h 2
 have U:=blA h 1
 rw [qu 65 c65]
 simp only [sB.1,c65,seval,qp,qr,a1]
 generalize hr:qg h.length Wd (.loop qmO) _ = r
 obtain ⟨x,a7,rfl,rfl,tt,H,rfl,ht,e0,e1,e8,e9,ac,ab,aa,hH,g2,g1,gt⟩:=qvQ hr (qs3 (h:=h) p pos op n name sub parts f hp hd parts.length _ ⟨0,zo,_,_,rfl,Y1,Y1,Y1,Y1,Y1,Y1,by simp only [sB.1,seval,jQ],z10,by simp only [sC.1,seval];omega,by simp only [sB.1,seval];rfl,Y1,by simp⟩)
 rw [List.take_length] at g2
 simp only [qhf] at g2
 have E:(mkE op n name sub parts).depth = qaD (parts.map Nd.e) + 1:=rfl
 have a8:h.length + 2 ≠ h.length + 1:=zo
 have Y:(qd.lst (qaE φP (parts.map Nd.e)) (bif (parts.map Nd.e).isEmpty then .full else .own 5)).dim = .lst (qaE φP (parts.map Nd.e)) (fl (φP op (parts.map Nd.e).length)):=by cases parts <;> rfl
 by_cases hq:(mkE op n name sub parts).depth <= 20
 ·have d1:ilt 20 ((qaD (parts.map Nd.e) + 1:Nat):Int) = false:=by rw [qD];rw [E] at hq;simp;omega
  simp only [sB.1,seval,ht,e8,e9,g2,g1,d1,U,Y,qp]
  have a6:h.length + 1 < H.length:=zo
  have I:(H.set (h.length + 1) (.cells (Nd.cs ⟨mkE op n name sub parts,pos⟩))).take h.length = h:=by rw [jT zo,gt]
  simp only [Nd.cs,Exp.cs,mkE,jw,jW] at I
  simp only [sB.1,seval,a6,qp]
  rw [if_pos hq]
  exact congrArg some (qw I (Nd.lower ⟨mkE op n name sub parts,pos⟩ _))
 ·have d1:ilt 20 ((qaD (parts.map Nd.e) + 1:Nat):Int) = true:=by rw [qD];rw [E] at hq;simp;omega
  simp only [sB.1,seval,ht,e0,e1,e9,g2,d1,qk7,qaJ]
  rw [qbe gt (qe _ _ _),if_neg hq]
end
section
variable {h:List qk} {i:Nat} {ws:List Tok} {n:Nat}
theorem qdg (p:qd) (pos op k:Int) (name sub:Str):Wd (.fn 65 [] []) [p,.int .i64 pos,.agg [.int .i64 op,.int .i64 k,.str name,.str sub,.lst [] .full],.lst [] .full] h = some (.ret (Nd.enc ⟨.mk op k name sub [],pos⟩),h,false):=by
 have:=qix (h:=h) p pos op k name sub [] true (by simp) (by simp)
 rw [if_pos (by simp [mkE,Exp.depth,qaD])] at this
 exact this
theorem qi2 (p:qd) (pos op k:Int) (name sub:Str) (x:Nd) (hx:x.e.depth <= 20):Wd (.fn 65 [] []) [p,.int .i64 pos,.agg [.int .i64 op,.int .i64 k,.str name,.str sub,.lst [] .full],.lst [x.enc] .full] h =
  if (Exp.mk op k name sub [x.e]).depth <= 20 then some (.ret (Nd.enc ⟨.mk op k name sub [x.e],pos⟩),h,false) else some (.pan (qbK pos 7),h,false):=
 qix (h:=h) p pos op k name sub [x] true (by simp) (by simpa using hx)
theorem qej (p:qd) (pos op k:Int) (name sub:Str) (x y:Nd) (hx:x.e.depth <= 20) (hy:y.e.depth <= 20):Wd (.fn 65 [] []) [p,.int .i64 pos,.agg [.int .i64 op,.int .i64 k,.str name,.str sub,.lst [] .full],.lst [x.enc,y.enc] .full] h =
  if (Exp.mk op k name sub [x.e,y.e]).depth <= 20 then some (.ret (Nd.enc ⟨.mk op k name sub [x.e,y.e],pos⟩),h,false) else some (.pan (qbK pos 7),h,false):=
 qix (h:=h) p pos op k name sub [x,y] true (by simp) (by simpa using ⟨hx,hy⟩)
theorem qB6 (p:qd) (pos op k:Int) (name sub:Str) (x y z:Nd) (hx:x.e.depth <= 20) (hy:y.e.depth <= 20) (hz:z.e.depth <= 20):Wd (.fn 65 [] []) [p,.int .i64 pos,.agg [.int .i64 op,.int .i64 k,.str name,.str sub,.lst [] .full],.lst [x.enc,y.enc,z.enc] .full] h =
  if (Exp.mk op k name sub [x.e,y.e,z.e]).depth <= 20 then some (.ret (Nd.enc ⟨.mk op k name sub [x.e,y.e,z.e],pos⟩),h,false) else some (.pan (qbK pos 7),h,false):=
 qix (h:=h) p pos op k name sub [x,y,z] true (by simp) (by simpa using ⟨hx,hy,hz⟩)
theorem PBi (ws:List Tok) (n:Nat):PB ws n = .cells [.lst (ws.map Tok.enc) .no,.int .i64 (n:Int)]:=Eq.trans rfl rfl
theorem Nd.stor (x:Nd):x.cs.all qd.storable = true:=by
 obtain ⟨⟨op,k,name,sub,args⟩,pos⟩:=x
 rfl
theorem Nd.dims (x:Nd):x.cs.map qd.dim = x.cs:=by
 obtain ⟨⟨op,k,name,sub,args⟩,pos⟩:=x
 simp [Nd.cs,Exp.cs,qd.dim,fl]
 cases φP op args.length <;> rfl
theorem Nd.len (x:Nd):x.cs.length = 7:=by
 obtain ⟨⟨op,k,name,sub,args⟩,pos⟩:=x
 rfl
theorem Nd.dimE (x:Nd):x.enc.dim = x.enc:=rfl
theorem Nd.cellsE (x:Nd):x.enc.cells = x.cs:=rfl
theorem Nd.cutE (x:Nd):cut x.cs 0 (some 7) = some x.enc:=by
 rw [qcI (by rw [Nd.len];omega),List.drop_zero,List.take_of_length_le (by rw [Nd.len];omega),Nd.dims]
 rfl
theorem Nd.drainE (x:Nd) (j:Nat) (t:List qd):qcy x.enc j t = t:=rfl
theorem qno (hw:WF ws) (hn:n < ws.length) (hi:h[i]? = some (PB ws n)) (h1:qM ws n = true) (h2:isW ws (n + 1) [46] = true) (h3:qM ws (n + 1 + 1) = true) :
  Wd (.fn 157 [] []) [.ptr i 0] h = some (.ret (Nd.enc ⟨.mk 5 0 (word ws n).s (word ws (n + 1 + 1)).s [],(word ws n).pos⟩),h.set i (PB ws (n + 1 + 1 + 1)),false):=by
 have E:=qc hi
 have hl:=hw.len
 have n1:=qF hw hn h1
 have n2:=qi hw n1 h2
 have n3:=qF hw n2 h3
 have w:=qo (n:=n + 1) zo
 rw [PBi] at hi
 rw [qu 157 qyw]
 simp only [sB.1,qyw,seval,qa4 hw hn,qcq hw hn,hi,h1,qcJ hw n1,h2,E,PBi,w,qaf hw n2,h3,qcq hw n2,qr,qdg,Nd.dimE,Nd.cellsE,Nd.cutE,Nd.dims,Nd.len,Nd.stor,Nd.lower,Nd.drainE]
theorem qi5 (hw:WF ws) (hn:n < ws.length) (hi:h[i]? = some (PB ws n)) (h1:qM ws n = true) (h2:isW ws (n + 1) [46] = true->qM ws (n + 1 + 1) = false) :
  Wd (.fn 157 [] []) [.ptr i 0] h = some (.ret (Nd.enc ⟨.mk 4 0 (word ws n).s [] [],(word ws n).pos⟩),h.set i (PB ws (n + 1)),false):=by
 have E:=qc hi
 have hl:=hw.len
 have n1:=qF hw hn h1
 rw [PBi] at hi
 rw [qu 157 qyw]
 cases h3:isW ws (n + 1) [46] with
 | false=>simp only [sB.1,qyw,seval,qa4 hw hn,qcq hw hn,hi,h1,qcJ hw n1,h3,E,PBi,qr,qdg,Nd.dimE,Nd.cellsE,Nd.cutE,Nd.dims,Nd.len,Nd.stor,Nd.lower,Nd.drainE]
 | true=>
  have h4:=h2 h3
  have n2:=qi hw n1 h3
  have w:=qo (n:=n + 1) zo
  have w':IntKind.i64.wrap (((n + 1 + 1:Nat):Int) - 1) = ((n + 1:Nat):Int):=by rw [qcb zo zo];omega
  simp only [sB.1,qyw,seval,qa4 hw hn,qcq hw hn,hi,h1,qcJ hw n1,h3,E,PBi,w,w',qaf hw n2,h4,qr,qdg,Nd.dimE,Nd.cellsE,Nd.cutE,Nd.dims,Nd.len,Nd.stor,Nd.lower,Nd.drainE]
theorem qhj (hw:WF ws) (hn:n < ws.length) (hi:h[i]? = some (PB ws n)) (pos op:Int) (h1:isW ws n [40] = true) (h2:qM ws (n + 1) = true) (h3:isW ws (n + 1 + 1) [41] = true) :
  Wd (.fn 166 [] []) [.ptr i 0,.int .i64 pos,.int .i64 op] h = some (.ret (Nd.enc ⟨.mk op 0 (word ws (n + 1)).s [] [],pos⟩),h.set i (PB ws (n + 1 + 1 + 1)),false):=by
 have E:=qc hi
 have n1:=qi hw hn h1
 have n2:=qF hw n1 h2
 rw [PBi] at hi
 rw [qu 166 quE]
 simp only [sB.1,quE,seval,qH hw hn,qH hw n2,qcq hw n1,hi,h1,h2,h3,E,PBi,qr,qdg,Nd.dimE,Nd.cellsE,Nd.cutE,Nd.dims,Nd.len,Nd.stor,Nd.lower,Nd.drainE]
theorem qhg (hw:WF ws) (hn:n < ws.length) (hi:h[i]? = some (PB ws n)) (pos op:Int) (h1:isW ws n [40] = false) :
  Wd (.fn 166 [] []) [.ptr i 0,.int .i64 pos,.int .i64 op] h = some (.pan (qbK (word ws n).pos 6),h,false):=by
 have E:=qc hi
 rw [PBi] at hi
 rw [qu 166 quE]
 simp only [sB.1,quE,seval,qb3 hw hn,hi,h1,E,PBi,qe]
theorem qhh (hw:WF ws) (hn:n < ws.length) (hi:h[i]? = some (PB ws n)) (pos op:Int) (h1:isW ws n [40] = true) (h2:qM ws (n + 1) = false) :
  Wd (.fn 166 [] []) [.ptr i 0,.int .i64 pos,.int .i64 op] h = some (.pan (qbK (word ws (n + 1)).pos 6),h.set i (PB ws (n + 1)),false):=by
 have E:=qc hi
 have n1:=qi hw hn h1
 rw [PBi] at hi
 rw [qu 166 quE]
 simp only [sB.1,quE,seval,qH hw hn,qmX hw n1,hi,h1,h2,E,PBi,qe]
theorem qhi (hw:WF ws) (hn:n < ws.length) (hi:h[i]? = some (PB ws n)) (pos op:Int) (h1:isW ws n [40] = true) (h2:qM ws (n + 1) = true) (h3:isW ws (n + 1 + 1) [41] = false) :
  Wd (.fn 166 [] []) [.ptr i 0,.int .i64 pos,.int .i64 op] h = some (.pan (qbK (word ws (n + 1 + 1)).pos 6),h.set i (PB ws (n + 1 + 1)),false):=by
 have E:=qc hi
 have n1:=qi hw hn h1
 have n2:=qF hw n1 h2
 rw [PBi] at hi
 rw [qu 166 quE]
 simp only [sB.1,quE,seval,qH hw hn,qb3 hw n2,qcq hw n1,hi,h1,h2,h3,E,PBi,qe]
end
inductive Out where
 | ok (e:Exp) (n:Nat)
 | no (pos err:Int) (n:Nat)
def qaA (f:FuncId) (ws:List Tok) (n:Nat):Out->Prop
 | .ok e n'=>n < n'/\n' < ws.length/\e.depth <= 20/\∀(h:List qk) (i:Nat),h[i]? = some (PB ws n)->Wd (.fn f [] []) [.ptr i 0] h = some (.ret (Nd.enc ⟨e,(word ws n).pos⟩),h.set i (PB ws n'),false)
 | .no pos err n'=>n' < ws.length/\∀(h:List qk) (i:Nat),h[i]? = some (PB ws n)->Wd (.fn f [] []) [.ptr i 0] h = some (.pan (qbK pos err),h.set i (PB ws n'),false)
section
variable {ws:List Tok} {n:Nat}
theorem qm {s s':Str} (h:isW ws n s = true) (hs:s ≠ s'):isW ws n s' = false:=by
 simp only [isW,jk,beq_iff_eq] at h
 simp only [isW,Bool.and_eq_false_iff]
 right
 rw [h.2]
 simpa using hs
theorem qok (hw:WF ws) (hn:n < ws.length) (hs:isW ws n [116,114,117,101] = true):qaA 159 ws n (.ok (.mk 1 0 [] [] []) (n + 1)):=by
 refine ⟨zo,qi hw hn hs,by simp [Exp.depth,qaD],λh i hi=>?_⟩
 have E:=qc hi
 rw [PBi] at hi
 rw [qu 159 qdu]
 simp only [sB.1,qdu,seval,qa4 hw hn,qt hw hn,hi,hs,E,PBi,qr,qdg,Nd.dimE,Nd.cellsE,Nd.cutE,Nd.dims,Nd.len,Nd.stor,Nd.lower,Nd.drainE]
theorem qmb (hw:WF ws) (hn:n < ws.length) (hs:isW ws n [102,97,108,115,101] = true):qaA 159 ws n (.ok (.mk 2 0 [] [] []) (n + 1)):=by
 refine ⟨zo,qi hw hn hs,by simp [Exp.depth,qaD],λh i hi=>?_⟩
 have q0:isW ws n [116,114,117,101] = false:=qm hs (by decide)
 have E:=qc hi
 rw [PBi] at hi
 rw [qu 159 qdu]
 simp only [sB.1,qdu,seval,qa4 hw hn,qt hw hn,qy hw hn,hi,hs,q0,E,PBi,qr,qdg,Nd.dimE,Nd.cellsE,Nd.cutE,Nd.dims,Nd.len,Nd.stor,Nd.lower,Nd.drainE]
theorem qjU (hw:WF ws) (hn:n < ws.length) (hs:isW ws n [101,108,97,112,115,101,100] = true):qaA 159 ws n (.ok (.mk 11 0 [] [] []) (n + 1)):=by
 refine ⟨zo,qi hw hn hs,by simp [Exp.depth,qaD],λh i hi=>?_⟩
 have q0:isW ws n [116,114,117,101] = false:=qm hs (by decide)
 have q1:isW ws n [102,97,108,115,101] = false:=qm hs (by decide)
 have E:=qc hi
 rw [PBi] at hi
 rw [qu 159 qdu]
 simp only [sB.1,qdu,seval,qa4 hw hn,qt hw hn,qy hw hn,hi,hs,q0,q1,E,PBi,qr,qdg,Nd.dimE,Nd.cellsE,Nd.cutE,Nd.dims,Nd.len,Nd.stor,Nd.lower,Nd.drainE]
theorem qma (hw:WF ws) (hn:n < ws.length) (hs:isW ws n [99,111,117,110,116] = true) (h1:isW ws (n + 1) [40] = true) (h2:qM ws (n + 1 + 1) = true) (h3:isW ws (n + 1 + 1 + 1) [41] = true):qaA 159 ws n (.ok (.mk 7 0 (word ws (n + 1 + 1)).s [] []) (n + 1 + 1 + 1 + 1)):=by
 have n1:=qi hw hn hs
 have n2:=qi hw n1 h1
 have n3:=qF hw n2 h2
 refine ⟨zo,qi hw n3 h3,by simp [Exp.depth,qaD],λh i hi=>?_⟩
 have q0:isW ws n [116,114,117,101] = false:=qm hs (by decide)
 have q1:isW ws n [102,97,108,115,101] = false:=qm hs (by decide)
 have q2:isW ws n [101,108,97,112,115,101,100] = false:=qm hs (by decide)
 have E:=qc hi
 rw [PBi] at hi
 rw [qu 159 qdu]
 simp only [sB.1,qdu,seval,qa4 hw hn,qt hw hn,qy hw hn,hi,hs,q0,q1,q2,E,PBi,qhj hw n1,h1,h2,h3,qr,qdg,Nd.dimE,Nd.cellsE,Nd.cutE,Nd.dims,Nd.len,Nd.stor,Nd.lower,Nd.drainE]
theorem qkV (hw:WF ws) (hn:n < ws.length) (hs:isW ws n [99,111,117,110,116] = true) (h1:isW ws (n + 1) [40] = false):qaA 159 ws n (.no (word ws (n + 1)).pos 6 (n + 1)):=by
 have n1:=qi hw hn hs
 refine ⟨n1,λh i hi=>?_⟩
 have q0:isW ws n [116,114,117,101] = false:=qm hs (by decide)
 have q1:isW ws n [102,97,108,115,101] = false:=qm hs (by decide)
 have q2:isW ws n [101,108,97,112,115,101,100] = false:=qm hs (by decide)
 have E:=qc hi
 rw [PBi] at hi
 rw [qu 159 qdu]
 simp only [sB.1,qdu,seval,qa4 hw hn,qt hw hn,qy hw hn,hi,hs,q0,q1,q2,E,PBi,qhg hw n1,h1,qe]
theorem qkW (hw:WF ws) (hn:n < ws.length) (hs:isW ws n [99,111,117,110,116] = true) (h1:isW ws (n + 1) [40] = true) (h2:qM ws (n + 1 + 1) = false):qaA 159 ws n (.no (word ws (n + 1 + 1)).pos 6 (n + 1 + 1)):=by
 have n1:=qi hw hn hs
 have n2:=qi hw n1 h1
 refine ⟨n2,λh i hi=>?_⟩
 have q0:isW ws n [116,114,117,101] = false:=qm hs (by decide)
 have q1:isW ws n [102,97,108,115,101] = false:=qm hs (by decide)
 have q2:isW ws n [101,108,97,112,115,101,100] = false:=qm hs (by decide)
 have E:=qc hi
 rw [PBi] at hi
 rw [qu 159 qdu]
 simp only [sB.1,qdu,seval,qa4 hw hn,qt hw hn,qy hw hn,hi,hs,q0,q1,q2,E,PBi,qhh hw n1,h1,h2,qe]
theorem qkX (hw:WF ws) (hn:n < ws.length) (hs:isW ws n [99,111,117,110,116] = true) (h1:isW ws (n + 1) [40] = true) (h2:qM ws (n + 1 + 1) = true) (h3:isW ws (n + 1 + 1 + 1) [41] = false):qaA 159 ws n (.no (word ws (n + 1 + 1 + 1)).pos 6 (n + 1 + 1 + 1)):=by
 have n1:=qi hw hn hs
 have n2:=qi hw n1 h1
 have n3:=qF hw n2 h2
 refine ⟨n3,λh i hi=>?_⟩
 have q0:isW ws n [116,114,117,101] = false:=qm hs (by decide)
 have q1:isW ws n [102,97,108,115,101] = false:=qm hs (by decide)
 have q2:isW ws n [101,108,97,112,115,101,100] = false:=qm hs (by decide)
 have E:=qc hi
 rw [PBi] at hi
 rw [qu 159 qdu]
 simp only [sB.1,qdu,seval,qa4 hw hn,qt hw hn,qy hw hn,hi,hs,q0,q1,q2,E,PBi,qhi hw n1,h1,h2,h3,qe]
theorem qqO (hw:WF ws) (hn:n < ws.length) (hs:isW ws n [104,97,115] = true) (h1:isW ws (n + 1) [40] = true) (h2:qM ws (n + 1 + 1) = true) (h3:isW ws (n + 1 + 1 + 1) [41] = true):qaA 159 ws n (.ok (.mk 8 0 (word ws (n + 1 + 1)).s [] []) (n + 1 + 1 + 1 + 1)):=by
 have n1:=qi hw hn hs
 have n2:=qi hw n1 h1
 have n3:=qF hw n2 h2
 refine ⟨zo,qi hw n3 h3,by simp [Exp.depth,qaD],λh i hi=>?_⟩
 have q0:isW ws n [116,114,117,101] = false:=qm hs (by decide)
 have q1:isW ws n [102,97,108,115,101] = false:=qm hs (by decide)
 have q2:isW ws n [101,108,97,112,115,101,100] = false:=qm hs (by decide)
 have q3:isW ws n [99,111,117,110,116] = false:=qm hs (by decide)
 have E:=qc hi
 rw [PBi] at hi
 rw [qu 159 qdu]
 simp only [sB.1,qdu,seval,qa4 hw hn,qt hw hn,qy hw hn,hi,hs,q0,q1,q2,q3,E,PBi,qhj hw n1,h1,h2,h3,qr,qdg,Nd.dimE,Nd.cellsE,Nd.cutE,Nd.dims,Nd.len,Nd.stor,Nd.lower,Nd.drainE]
theorem qod (hw:WF ws) (hn:n < ws.length) (hs:isW ws n [104,97,115] = true) (h1:isW ws (n + 1) [40] = false):qaA 159 ws n (.no (word ws (n + 1)).pos 6 (n + 1)):=by
 have n1:=qi hw hn hs
 refine ⟨n1,λh i hi=>?_⟩
 have q0:isW ws n [116,114,117,101] = false:=qm hs (by decide)
 have q1:isW ws n [102,97,108,115,101] = false:=qm hs (by decide)
 have q2:isW ws n [101,108,97,112,115,101,100] = false:=qm hs (by decide)
 have q3:isW ws n [99,111,117,110,116] = false:=qm hs (by decide)
 have E:=qc hi
 rw [PBi] at hi
 rw [qu 159 qdu]
 simp only [sB.1,qdu,seval,qa4 hw hn,qt hw hn,qy hw hn,hi,hs,q0,q1,q2,q3,E,PBi,qhg hw n1,h1,qe]
theorem qoe (hw:WF ws) (hn:n < ws.length) (hs:isW ws n [104,97,115] = true) (h1:isW ws (n + 1) [40] = true) (h2:qM ws (n + 1 + 1) = false):qaA 159 ws n (.no (word ws (n + 1 + 1)).pos 6 (n + 1 + 1)):=by
 have n1:=qi hw hn hs
 have n2:=qi hw n1 h1
 refine ⟨n2,λh i hi=>?_⟩
 have q0:isW ws n [116,114,117,101] = false:=qm hs (by decide)
 have q1:isW ws n [102,97,108,115,101] = false:=qm hs (by decide)
 have q2:isW ws n [101,108,97,112,115,101,100] = false:=qm hs (by decide)
 have q3:isW ws n [99,111,117,110,116] = false:=qm hs (by decide)
 have E:=qc hi
 rw [PBi] at hi
 rw [qu 159 qdu]
 simp only [sB.1,qdu,seval,qa4 hw hn,qt hw hn,qy hw hn,hi,hs,q0,q1,q2,q3,E,PBi,qhh hw n1,h1,h2,qe]
theorem qof (hw:WF ws) (hn:n < ws.length) (hs:isW ws n [104,97,115] = true) (h1:isW ws (n + 1) [40] = true) (h2:qM ws (n + 1 + 1) = true) (h3:isW ws (n + 1 + 1 + 1) [41] = false):qaA 159 ws n (.no (word ws (n + 1 + 1 + 1)).pos 6 (n + 1 + 1 + 1)):=by
 have n1:=qi hw hn hs
 have n2:=qi hw n1 h1
 have n3:=qF hw n2 h2
 refine ⟨n3,λh i hi=>?_⟩
 have q0:isW ws n [116,114,117,101] = false:=qm hs (by decide)
 have q1:isW ws n [102,97,108,115,101] = false:=qm hs (by decide)
 have q2:isW ws n [101,108,97,112,115,101,100] = false:=qm hs (by decide)
 have q3:isW ws n [99,111,117,110,116] = false:=qm hs (by decide)
 have E:=qc hi
 rw [PBi] at hi
 rw [qu 159 qdu]
 simp only [sB.1,qdu,seval,qa4 hw hn,qt hw hn,qy hw hn,hi,hs,q0,q1,q2,q3,E,PBi,qhi hw n1,h1,h2,h3,qe]
theorem qqP (hw:WF ws) (hn:n < ws.length) (hs:isW ws n [115,117,109] = true) (h1:isW ws (n + 1) [40] = true) (h2:qM ws (n + 1 + 1) = true) (h3:isW ws (n + 1 + 1 + 1) [41] = true):qaA 159 ws n (.ok (.mk 9 0 (word ws (n + 1 + 1)).s [] []) (n + 1 + 1 + 1 + 1)):=by
 have n1:=qi hw hn hs
 have n2:=qi hw n1 h1
 have n3:=qF hw n2 h2
 refine ⟨zo,qi hw n3 h3,by simp [Exp.depth,qaD],λh i hi=>?_⟩
 have q0:isW ws n [116,114,117,101] = false:=qm hs (by decide)
 have q1:isW ws n [102,97,108,115,101] = false:=qm hs (by decide)
 have q2:isW ws n [101,108,97,112,115,101,100] = false:=qm hs (by decide)
 have q3:isW ws n [99,111,117,110,116] = false:=qm hs (by decide)
 have q4:isW ws n [104,97,115] = false:=qm hs (by decide)
 have E:=qc hi
 rw [PBi] at hi
 rw [qu 159 qdu]
 simp only [sB.1,qdu,seval,qa4 hw hn,qt hw hn,qy hw hn,hi,hs,q0,q1,q2,q3,q4,E,PBi,qhj hw n1,h1,h2,h3,qr,qdg,Nd.dimE,Nd.cellsE,Nd.cutE,Nd.dims,Nd.len,Nd.stor,Nd.lower,Nd.drainE]
theorem qoh (hw:WF ws) (hn:n < ws.length) (hs:isW ws n [115,117,109] = true) (h1:isW ws (n + 1) [40] = false):qaA 159 ws n (.no (word ws (n + 1)).pos 6 (n + 1)):=by
 have n1:=qi hw hn hs
 refine ⟨n1,λh i hi=>?_⟩
 have q0:isW ws n [116,114,117,101] = false:=qm hs (by decide)
 have q1:isW ws n [102,97,108,115,101] = false:=qm hs (by decide)
 have q2:isW ws n [101,108,97,112,115,101,100] = false:=qm hs (by decide)
 have q3:isW ws n [99,111,117,110,116] = false:=qm hs (by decide)
 have q4:isW ws n [104,97,115] = false:=qm hs (by decide)
 have E:=qc hi
 rw [PBi] at hi
 rw [qu 159 qdu]
 simp only [sB.1,qdu,seval,qa4 hw hn,qt hw hn,qy hw hn,hi,hs,q0,q1,q2,q3,q4,E,PBi,qhg hw n1,h1,qe]
theorem qoi (hw:WF ws) (hn:n < ws.length) (hs:isW ws n [115,117,109] = true) (h1:isW ws (n + 1) [40] = true) (h2:qM ws (n + 1 + 1) = false):qaA 159 ws n (.no (word ws (n + 1 + 1)).pos 6 (n + 1 + 1)):=by
 have n1:=qi hw hn hs
 have n2:=qi hw n1 h1
 refine ⟨n2,λh i hi=>?_⟩
 have q0:isW ws n [116,114,117,101] = false:=qm hs (by decide)
 have q1:isW ws n [102,97,108,115,101] = false:=qm hs (by decide)
 have q2:isW ws n [101,108,97,112,115,101,100] = false:=qm hs (by decide)
 have q3:isW ws n [99,111,117,110,116] = false:=qm hs (by decide)
 have q4:isW ws n [104,97,115] = false:=qm hs (by decide)
 have E:=qc hi
 rw [PBi] at hi
 rw [qu 159 qdu]
 simp only [sB.1,qdu,seval,qa4 hw hn,qt hw hn,qy hw hn,hi,hs,q0,q1,q2,q3,q4,E,PBi,qhh hw n1,h1,h2,qe]
theorem qoj (hw:WF ws) (hn:n < ws.length) (hs:isW ws n [115,117,109] = true) (h1:isW ws (n + 1) [40] = true) (h2:qM ws (n + 1 + 1) = true) (h3:isW ws (n + 1 + 1 + 1) [41] = false):qaA 159 ws n (.no (word ws (n + 1 + 1 + 1)).pos 6 (n + 1 + 1 + 1)):=by
 have n1:=qi hw hn hs
 have n2:=qi hw n1 h1
 have n3:=qF hw n2 h2
 refine ⟨n3,λh i hi=>?_⟩
 have q0:isW ws n [116,114,117,101] = false:=qm hs (by decide)
 have q1:isW ws n [102,97,108,115,101] = false:=qm hs (by decide)
 have q2:isW ws n [101,108,97,112,115,101,100] = false:=qm hs (by decide)
 have q3:isW ws n [99,111,117,110,116] = false:=qm hs (by decide)
 have q4:isW ws n [104,97,115] = false:=qm hs (by decide)
 have E:=qc hi
 rw [PBi] at hi
 rw [qu 159 qdu]
 simp only [sB.1,qdu,seval,qa4 hw hn,qt hw hn,qy hw hn,hi,hs,q0,q1,q2,q3,q4,E,PBi,qhi hw n1,h1,h2,h3,qe]
theorem qog (hw:WF ws) (hn:n < ws.length) (q0:isW ws n [116,114,117,101] = false) (q1:isW ws n [102,97,108,115,101] = false) (q2:isW ws n [101,108,97,112,115,101,100] = false) (q3:isW ws n [99,111,117,110,116] = false) (q4:isW ws n [104,97,115] = false) (q5:isW ws n [115,117,109] = false) (q6:isW ws n [108,101,97,115,116] = false):qaA 159 ws n (.no (word ws n).pos 6 n):=by
 refine ⟨hn,λh i hi=>?_⟩
 have E:=qc hi
 rw [PBi] at hi
 rw [qu 159 qdu]
 simp only [sB.1,qdu,seval,qa4 hw hn,qy hw hn,qeb hw hn,hi,q0,q1,q2,q3,q4,q5,q6,E,PBi,qe]
 exact congrArg (λx=>some (_,x,false)) (qcO (by rw [PBi];exact hi)).symm
end
theorem qcK {z:List qd} (x:Nd) (hz:z.length = 7):qcV 7 z 1 [(0,x.enc)] = some (.lst [x.enc] .full):=qbb hz zo x.len x.stor zo
theorem qcz {z:List qd} (x y:Nd) (hz:z.length = 7):qcV 7 z 2 [(0,x.enc),(1,y.enc)] = some (.lst [x.enc,y.enc] .full):=qlw hz zo x.len x.stor y.len y.stor zo
theorem qxI {z:List qd} (x y w:Nd) (hz:z.length = 7):qcV 7 z 3 [(0,x.enc),(1,y.enc),(2,w.enc)] = some (.lst [x.enc,y.enc,w.enc] .full):=qsU hz zo x.len x.stor y.len y.stor w.len w.stor zo
def quC:qk:=.cells [.int .i64 0,.int .i64 0,.str [],.str [],.lst [] .full,.int .i64 0,.int .i64 0]
def NB (x:Nd):qk:=.cells x.cs
theorem NBi (x:Nd):NB x = .cells x.cs:=Eq.trans rfl rfl
theorem qcl:quC = .cells [.int .i64 0,.int .i64 0,.str [],.str [],.lst [] .full,.int .i64 0,.int .i64 0]:=Eq.trans rfl rfl
theorem Nd.drop7 (x:Nd):x.cs.drop 7 = []:=List.drop_eq_nil_of_le (by rw [Nd.len];omega)
theorem Nd.cut6 (x:Nd):x.cs[6]? = some (.int .i64 x.pos):=by
 obtain ⟨⟨op,k,name,sub,args⟩,pos⟩:=x
 rfl
section
variable {ws:List Tok} {h:List qk}
structure qhp (h:List qk) (i:Nat) (ws:List Tok) (n:Nat) (x:Nd) (H:List qk):Prop where
 lt:i < h.length
 len:h.length + 1 < H.length
 par:H[i]? = some (PB ws n)
 res:H[h.length]? = some quC
 nod:H[h.length + 1]? = some (NB x)
 old:H.take h.length = h.set i (PB ws n)
theorem qhp.next {i n n':Nat} {x x':Nd} {H:List qk} (hl:qhp h i ws n x H) (l:List qk):qhp h i ws n' x' ((H.set i (PB ws n')).set (h.length + 1) (NB x') ++ l):=by
 have h1:=hl.lt
 have h2:=hl.len
 refine ⟨hl.lt,by simp;omega,?_,?_,?_,?_⟩
 ·rw [qah (by simp;omega),qN zo,qY zo]
 ·rw [qah (by simp;omega),qN zo,qN zo,hl.res]
 ·rw [qah (by simp;omega),qY (by simp;omega)]
 ·rw [jS (by simp;omega),jT zo,List.take_set,hl.old,qg1]
inductive qeo (ws:List Tok) (pos:Int):Exp->Nat->Out->Prop
 | stop {e n}:isW ws n [46] = false->qeo ws pos e n (.ok e n)
 | bad {e n}:isW ws n [46] = true->(word ws (n + 1)).kind ≠ 1->qeo ws pos e n (.no (word ws (n + 1)).pos 6 (n + 1))
 | many {e n}:isW ws n [46] = true->(word ws (n + 1)).kind = 1->4 <= (word ws (n + 1)).n->qeo ws pos e n (.no (word ws (n + 1)).pos 8 (n + 1))
 | deep {e n}:isW ws n [46] = true->(word ws (n + 1)).kind = 1->(word ws (n + 1)).n < 4->¬ (Exp.mk 12 (word ws (n + 1)).n [] [] [e]).depth <= 20->qeo ws pos e n (.no pos 7 (n + 1 + 1))
 | go {e n o}:isW ws n [46] = true->(word ws (n + 1)).kind = 1->(word ws (n + 1)).n < 4->(Exp.mk 12 (word ws (n + 1)).n [] [] [e]).depth <= 20->qeo ws pos (.mk 12 (word ws (n + 1)).n [] [] [e]) (n + 1 + 1) o->qeo ws pos e n o
def qoa (h:List qk) (i:Nat) (ws:List Tok) (pos:Int) (len:Nat) (r:Option (Ex×St)):Out->Prop
 | .ok e n=>n < ws.length/\e.depth <= 20/\∃tt H,r = some (.exit 0,⟨tt,H,false⟩)/\tt.length = len/\lkp tt 2 = .ptr h.length 0/\lkp tt 3 = .ptr (h.length + 1) 0/\qhp h i ws n ⟨e,pos⟩ H
 | .no p err n=>n < ws.length/\∃tt H,r = some (.pan (qbK p err),⟨tt,H,false⟩)/\H.take h.length = h.set i (PB ws n)
theorem qhp.cut {i n n':Nat} {x:Nd} {H:List qk} (hl:qhp h i ws n x H) (l:List qk):(H.set i (PB ws n') ++ l).take h.length = h.set i (PB ws n'):=by
 have h1:=hl.lt
 have h2:=hl.len
 rw [jS (by simp;omega),List.take_set,hl.old,qg1]
theorem qsD (hw:WF ws) (i:Nat) (pos:Int) (e:Exp) (n:Nat) (o:Out) (hI:qeo ws pos e n o):∀(tt:List qd) (H:List qk),n < ws.length->e.depth <= 20->tt.length = 40->lkp tt 0 = .ptr i 0->lkp tt 2 = .ptr h.length 0->lkp tt 3 = .ptr (h.length + 1) 0->qhp h i ws n ⟨e,pos⟩ H->
  qoa h i ws pos 40 (qg h.length Wd (.loop qeg) ⟨tt,H,false⟩) o:=by
 induction hI with
 | @stop e n hs=>
  intro tt H hn hd ht e0 e2 e3 hL
  have E:i < H.length:=by have:=hL.lt;have:=hL.len;omega
  have hp:=hL.par
  rw [PBi] at hp
  rw [qh]
  generalize he:qg h.length Wd qeg _ = r
  simp only [sB.1,qeg,seval,ht,e0,qy hw hn,hp,hs,PBi] at he
  subst he
  exact ⟨hn,hd,_,_,rfl,Y0,Y2,y7,hL⟩
 | @bad e n hs hk=>
  intro tt H hn hd ht e0 e2 e3 hL
  have n1:=qi hw hn hs
  have E:i < H.length:=by have:=hL.lt;have:=hL.len;omega
  have Y:Nat.ble h.length H.length = true:=qE (by have:=hL.len;omega)
  have hp:=hL.par
  rw [PBi] at hp
  have U:((word ws (n + 1)).kind == 1) = false:=by simpa using hk
  rw [qh]
  generalize he:qg h.length Wd qeg _ = r
  simp only [sB.1,qeg,seval,ht,e0,qt hw hn,hp,hs,PBi,qag hw n1,E,Tok.enc,U,qeb hw n1,Y] at he
  subst he
  exact ⟨n1,_,_,rfl,hL.cut _⟩
 | @many e n hs hk hm=>
  intro tt H hn hd ht e0 e2 e3 hL
  have n1:=qi hw hn hs
  have E:i < H.length:=by have:=hL.lt;have:=hL.len;omega
  have Y:Nat.ble h.length H.length = true:=qE (by have:=hL.len;omega)
  have hp:=hL.par
  rw [PBi] at hp
  have U:((word ws (n + 1)).kind == 1) = true:=by simpa using hk
  have a1:ile 4 (word ws (n + 1)).n = true:=by rw [qdF];simpa using hm
  rw [qh]
  generalize he:qg h.length Wd qeg _ = r
  simp only [sB.1,qeg,seval,ht,e0,qt hw hn,hp,hs,PBi,qag hw n1,E,Tok.enc,U,a1,qaJ,Y] at he
  subst he
  exact ⟨n1,_,_,rfl,hL.cut _⟩
 | @deep e n hs hk hm a6=>
  intro tt H hn hd ht e0 e2 e3 hL
  have n1:=qi hw hn hs
  have n2:=hw.next n1 zo
  have E:i < H.length:=by have:=hL.lt;have:=hL.len;omega
  have a7:h.length + 1 < H.length:=hL.len
  have a8:i ≠ h.length + 1:=by have:=hL.lt;omega
  have Y:Nat.ble h.length H.length = true:=qE (by have:=hL.len;omega)
  have hp:=hL.par
  have I:=hL.nod
  rw [NBi] at I
  rw [PBi] at hp
  have U:((word ws (n + 1)).kind == 1) = true:=by simpa using hk
  have a1:ile 4 (word ws (n + 1)).n = false:=by rw [qdF];simpa using hm
  have w:=qo (n:=n + 1) (by have:=hw.len;omega)
  rw [qh]
  generalize he:qg h.length Wd qeg _ = r
  simp only [sB.1,qeg,seval,ht,e0,e3,qt hw hn,hp,hs,PBi,qag hw n1,E,Tok.enc,U,a1,Y,a7,a8,I,w,Nd.cut6,Nd.cutE,Nd.dimE,qr,qcK,qi2,hd,a6] at he
  subst he
  exact ⟨n2,_,_,rfl,hL.cut _⟩
 | @go e n o hs hk hm a6 hI ih=>
  intro tt H hn hd ht e0 e2 e3 hL
  have n1:=qi hw hn hs
  have n2:=hw.next n1 zo
  have E:i < H.length:=by have:=hL.lt;have:=hL.len;omega
  have a7:h.length + 1 < H.length:=hL.len
  have a8:i ≠ h.length + 1:=by have:=hL.lt;omega
  have Y:Nat.ble h.length H.length = true:=qE (by have:=hL.len;omega)
  have aa:=blA h 1
  have hp:=hL.par
  have I:=hL.nod
  rw [NBi] at I
  rw [PBi] at hp
  have U:((word ws (n + 1)).kind == 1) = true:=by simpa using hk
  have a1:ile 4 (word ws (n + 1)).n = false:=by rw [qdF];simpa using hm
  have w:=qo (n:=n + 1) (by have:=hw.len;omega)
  rw [qh]
  generalize he:qg h.length Wd qeg _ = r
  simp only [sB.1,qeg,seval,ht,e0,e3,qt hw hn,hp,hs,PBi,qag hw n1,E,Tok.enc,U,a1,Y,a7,a8,I,w,Nd.cut6,Nd.cutE,Nd.dimE,Nd.cellsE,Nd.dims,Nd.len,Nd.stor,Nd.drainE,Nd.drop7,qr,qcK,qi2,hd,a6,aa] at he
  subst he
  exact ih _ _ n2 a6 Y0 Y3 Y2 y7 (hL.next _)
theorem qhp.start {i n:Nat} {x:Nd} (hi:i < h.length):qhp h i ws n x (h.set i (PB ws n) ++ [quC,NB x]):=by
 refine ⟨hi,by simp,?_,?_,?_,?_⟩
 ·rw [qah (by simpa using hi),qY hi]
 ·rw [qd6 (by simp)];rfl
 ·rw [List.getElem?_append_right (by simp)];simp
 ·rw [jS (by simp),List.take_of_length_le (by simp)]
theorem qhp.answer {i n:Nat} {x:Nd} {H:List qk} (hl:qhp h i ws n x H):qbD h.length (.ret x.enc) (H.set h.length (NB x)) false = (.ret x.enc,h.set i (PB ws n),false):=
 qw (by rw [jT zo,hl.old]) (x.lower _)
theorem qnO (hw:WF ws) {n:Nat} (hn:n < ws.length) {e:Exp} {n1:Nat} {o:Out} (h1:qaA 152 ws n (.ok e n1)) (hI:qeo ws (word ws n).pos e n1 o) (U:∀e' n',o = .ok e' n'->n1 <= n'):qaA 150 ws n o:=by
 obtain ⟨g1,g2,g3,g4⟩:=h1
 have run:∀(h:List qk) (i:Nat),h[i]? = some (PB ws n)->∃r,qoa h i ws (word ws n).pos 40 r o/\Wd (.fn 150 [] []) [.ptr i 0] h = qbS [.cell 2 (some 7)] h (qbr (qg h.length Wd (.seq (.reg [ao 39 (.ld (some 7) (.t 3)),an (.st (some 7) (.t 2) (.t 39))]) .ret)) (qbj 0 r)):=by
  intro h i hi
  have a1:=qc hi
  rw [PBi] at hi
  generalize hr:Wd (.fn 150 [] []) [.ptr i 0] h = R
  rw [qu 150 qAr] at hr
  have a6:=blA h 1
  simp only [sB.1,qAr,seval,g4,hi,a1,PBi,Nd.dimE,Nd.cellsE,Nd.dims,Nd.len,Nd.stor,Nd.drainE,a6] at hr
  generalize hq:qg h.length Wd (.loop qeg) _ = r at hr
  refine ⟨r,?_,?_⟩
  ·rw [<-hq]
   exact qsD hw i _ e n1 o hI _ _ g2 g3 Y1 Y1 Y1 Y1 (qhp.start a1)
  ·rw [<-hr]
   simp only [sC.1,seval]
 cases o with
 | ok e' n'=>
  have hm:=U e' n' rfl
  obtain ⟨r,hL,_⟩:=run (List.replicate 1 (PB ws n)) 0 rfl
  refine ⟨zo,hL.1,hL.2.1,λh i hi=>?_⟩
  obtain ⟨r,⟨q1,q2,tt,H,rfl,ht,e2,e3,hL⟩,hr⟩:=run h i hi
  have I:=hL.nod
  have E:=hL.res
  have a7:=hL.len
  have Y:h.length < H.length:=zo
  rw [NBi] at I
  rw [qcl] at E
  rw [hr]
  simp only [sB.1,seval,ht,e2,e3,I,E,Y,Nd.dimE,Nd.cellsE,Nd.cutE,Nd.dims,Nd.len,Nd.stor,Nd.drainE]
  exact congrArg some hL.answer
 | no pos err n'=>
  obtain ⟨r,hL,_⟩:=run (List.replicate 1 (PB ws n)) 0 rfl
  refine ⟨hL.1,λh i hi=>?_⟩
  obtain ⟨r,⟨q1,tt,H,rfl,q3⟩,hr⟩:=run h i hi
  rw [hr]
  simp only [sB.1,seval]
  exact congrArg some (qbe q3 (qe _ _ _))
end
end Go.Proofs.YtkehdpkcdnofaaaGreatDoor.AE
