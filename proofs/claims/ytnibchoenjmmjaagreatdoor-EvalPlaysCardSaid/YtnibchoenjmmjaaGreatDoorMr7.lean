/- A part of the proof: the abstract executor and what goes through it (part 7). No condition. -/
import Derived.Test.YtnibchoenjmmjaaGreatDoorMr6
import Derived.Test.YtnibchoenjmmjaaGreatDoorMr2
import Derived.KernelRfl
import Derived.Laws.BitsLemmas
set_option maxRecDepth 100000
set_option maxHeartbeats 0
open List renaming take_append_of_le_length→jU,drop_eq_getElem_cons→jV,getElem?_eq_getElem→jh,length_map→jW,getElem?_map→jr,all_cons→jE,all_nil→jF
open Bool renaming and_eq_true→jk,true_and→jX,false_and→jN,false_or→jP
namespace Go.Proofs.YtnibchoenjmmjaaGreatDoor.AE
open Go.AE
theorem qFS:(qr2 T.get X0 400 (.fn 6 [] []) [] []).map (λr=>(r.1,r.2.1)) = some (.ret (.bool true),[]):=xk
theorem qAl:∃e,run T.get X0 400 (.fn 6 [] []) [] [] = some (.ret (.bool true),[],e):=by
 have h:=qFS
 rw [qkD] at h
 obtain ⟨⟨r,hh,e⟩,h1,h2⟩:=Option.map_eq_some_iff.1 h
 simp only [Prod.mk.injEq] at h2
 obtain ⟨rfl,rfl⟩:=h2
 exact ⟨e,h1⟩
theorem qsG:qoc X where
 mono f g h:=by
  unfold X at h
  split at h
  all_goals first
   | (cases h;exact λc d hc aS h=>qmi hc (Nat.le_refl _))
   | (cases h;exact λc d hc aS h x hx=>hx)
   | cases h
 cont f g h:=by
  unfold X at h
  split at h
  all_goals first
   | (cases h;exact λc hc aS h x hx=>qmh hc hx)
   | (cases h;exact λc hc aS h x hx=>⟨0,hx⟩)
   | cases h
noncomputable def Wd:AE.Call:=W T.get X
theorem qm (f:FuncId) (fn:qv) {first args cap:List qa} {h:List qb} (h1:X f = none:=by rfl) (h2:T.get f = some fn:=by kernel_rfl) :
  Wd (.fn f first cap) args h = qdQ fn.results h (qj h.length Wd fn.code ⟨(first ++ args ++ cap).map qa.dim ++ List.replicate (fn.ntmps - ((first ++ args ++ cap).map qa.dim).length) (.tup []),h,false⟩):=qFO qsG h1 h2
theorem qbj {n:Int} (h1:-9223372036854775808 <= n) (h2:n <= 9223372036854775807):IntKind.i64.wrap n = n:=by
 rw [IntKind.wrap_i64]
 omega
theorem qaf {n:Nat} (h:n < 9223372036854775807):IntKind.i64.wrap ((n:Int) + 1) = ((n + 1:Nat):Int):=by
 rw [qbj zo zo]
 rfl
abbrev Str:=List UInt8
def qqE (c:UInt8):Bool:=ile 97 (c.toNat:Int) && ile (c.toNat:Int) 122
def qxp (c:UInt8):Bool:=ile 48 (c.toNat:Int) && ile (c.toNat:Int) 57
def qau:Nat->Str->Bool
 | _,[]=>true
 | i,c :: s=>bif !qqE c && (i == 0 || !qxp c) then false else qau (i + 1) s
def qcX (s:Str):Bool:=decide (1 <= s.length) && decide (s.length <= 16) && qau 0 s
theorem q9 (s:Str) (h:List qb):Wd (.fn 114 [] []) [.str s] h = some (.ret (.bool (qcX s)),h,false):=by
 have loop:∀k st,(∃tt i,st = ⟨tt,h,false⟩/\tt.length = 50/\lkp tt 0 = .str s/\lkp tt 15 = .int .i64 (s.length:Nat)/\lkp tt 16 = .int .i64 (i:Nat)/\i + k = s.length/\qau i (s.drop i) = qau 0 s/\s.length <= 16)->
   ∃x B,qj h.length Wd (.loop qhd) st = some (x,B)/\((x = .exit 0/\qau 0 s = true/\∃tt,B = ⟨tt,h,false⟩/\tt.length = 50)\/(x = .ret/\qau 0 s = false/\∃tt,B = ⟨tt,h,false⟩/\tt.length = 50/\lkp tt 2 = .bool false)):=by
  refine qx _ _ ?_
  rintro k st ⟨tt,i,rfl,ht,e0,I,E,J,hR,hl⟩
  generalize he:qj h.length Wd qhd _ = r
  rcases Nat.lt_or_ge i s.length with hi | hi
  ·have c1:ilt (i:Int) (s.length:Int) = true:=by rw [qe];simp;omega
   have hx:qh6 (.str s) (.int .i64 (i:Nat)) = some (.int .u8 (s[i].toNat:Nat)):=qlf (jh hi)
   have w:=qaf (n:=i) zo
   rw [jV hi,qau] at hR
   simp only [qqE,qxp] at hR
   have hz:((i:Int) == 0) = (i == 0):=by rw [Bool.eq_iff_iff];simp
   simp only [sB.1,qhd,seval,ht,e0,I,E,c1,hx,w,hz] at he
   cases hb:(!(ile 97 (s[i].toNat:Int) && ile (s[i].toNat:Int) 122) && (i == 0 || !(ile 48 (s[i].toNat:Int) && ile (s[i].toNat:Int) 57))) with
   | true=>
    rw [hb] at hR
    simp only [sB.1,hb,seval,ht] at he
    subst he
    refine .inr ⟨_,_,rfl,by simp,.inr ⟨rfl,by simpa using hR.symm,_,rfl,Y0,?_⟩⟩
    simp only [sB.1,seval,ht]
   | false=>
    rw [hb] at hR
    simp only [sB.1,hb,seval,ht,E,w] at he
    subst he
    refine .inl ⟨_,k - 1,rfl,zo,_,i + 1,rfl,Y0,?_,?_,?_,zo,by simpa using hR,hl⟩
    ·simp only [sB.1,seval,ht,e0]
    ·simp only [sB.1,seval,ht,I]
    ·simp only [sB.1,seval,ht]
  ·have c1:ilt (i:Int) (s.length:Int) = false:=by rw [qe];simp;omega
   simp only [sB.1,qhd,seval,ht,e0,I,E,c1] at he
   subst he
   rw [List.drop_eq_nil_of_le hi,qau] at hR
   exact .inr ⟨_,_,rfl,by simp,.inl ⟨rfl,hR.symm,_,rfl,Y0⟩⟩
 rw [qm 114 qzU]
 by_cases g1:1 <= s.length
 ·have d1:ilt (s.length:Int) 1 = false:=by rw [qe];simp;omega
  by_cases g2:s.length <= 16
  ·have d2:ilt 16 (s.length:Int) = false:=by rw [qe];simp;omega
   simp only [sB.1,qzU,seval,d1,d2]
   generalize hr:qj h.length Wd (.loop qhd) _ = r
   obtain ⟨x,B,rfl,hq⟩:=qaH hr (loop s.length _ ⟨_,0,rfl,Y1,Y1,Y1,u4,zo,rfl,g2⟩)
   rcases hq with ⟨rfl,hv,tt,rfl,ht⟩ | ⟨rfl,hv,tt,rfl,ht,e2⟩
   ·simp only [sB.1,seval,ht]
    simp [qcX,g1,g2,hv]
   ·simp only [sB.1,seval,ht,e2]
    simp [qcX,g1,g2,hv]
  ·have d2:ilt 16 (s.length:Int) = true:=by rw [qe];simp;omega
   simp only [sB.1,qzU,seval,d1,d2]
   simp [qcX,g2]
 ·have d1:ilt (s.length:Int) 1 = true:=by rw [qe];simp;omega
  simp only [sB.1,qzU,seval,d1]
  simp [qcX,g1]
def qE8:qa->Str
 | .str s=>s
 | _=>[]
def words:List Str:=g2.map qE8
theorem qvI:g2 = words.map qa.str:=xk
theorem qsF:words.length = 33:=xk
def qbF (s:Str):Bool:=words.any (· == s)
theorem qkA (s:Str) (h:List qb):Wd (.fn 130 [] []) [.str s] h = some (.ret (.bool (qbF s)),h,false):=by
 have loop:∀k st,(∃tt i,st = ⟨tt,h,false⟩/\tt.length = 13/\lkp tt 0 = .str s/\lkp tt 5 = .agg g2/\lkp tt 6 = .int .i64 (i:Nat)/\i + k = 33/\(words.drop i).any (· == s) = qbF s)->
   ∃x B,qj h.length Wd (.loop qgt) st = some (x,B)/\((x = .exit 0/\qbF s = false/\∃tt,B = ⟨tt,h,false⟩/\tt.length = 13)\/(x = .ret/\qbF s = true/\∃tt,B = ⟨tt,h,false⟩/\tt.length = 13/\lkp tt 2 = .bool true)):=by
  refine qx _ _ ?_
  rintro k st ⟨tt,i,rfl,ht,e0,e5,e6,I,hR⟩
  generalize he:qj h.length Wd qgt _ = r
  have E:=qsF
  rcases Nat.lt_or_ge i 33 with hi | hi
  ·have c1:ilt (i:Int) 33 = true:=by rw [qe];simp;omega
   have hx:qiH 33 none (.agg g2) (.int .i64 (i:Nat)) = some (.str (words[i]' zo)):=by
    rw [quw (v:=.str (words[i]' zo)) hi (by rw [qvI,jr,jh zo];rfl)]
    rfl
   have w:=qaf (n:=i) zo
   rw [jV zo,List.any_cons] at hR
   cases hb:((words[i]' zo) == s) with
   | true=>
    rw [hb] at hR
    simp only [sB.1,qgt,seval,ht,e0,e5,e6,c1,hx,hb] at he
    subst he
    refine .inr ⟨_,_,rfl,by simp,.inr ⟨rfl,by simpa using hR.symm,_,rfl,Y0,?_⟩⟩
    simp only [sB.1,seval,ht]
   | false=>
    rw [hb] at hR
    simp only [sB.1,qgt,seval,ht,e0,e5,e6,c1,hx,hb,w] at he
    subst he
    refine .inl ⟨_,k - 1,rfl,zo,_,i + 1,rfl,Y0,?_,?_,?_,zo,by simpa using hR⟩
    ·simp only [sB.1,seval,ht,e0]
    ·simp only [sB.1,seval,ht,e5]
    ·simp only [sB.1,seval,ht]
  ·have c1:ilt (i:Int) 33 = false:=by rw [qe];simp;omega
   simp only [sB.1,qgt,seval,ht,e0,e5,e6,c1] at he
   subst he
   rw [List.drop_eq_nil_of_le zo,List.any_nil] at hR
   exact .inr ⟨_,_,rfl,by simp,.inl ⟨rfl,hR.symm,_,rfl,Y0⟩⟩
 have hg:cut g2 0 (some 33) = some (.agg g2):=xk
 rw [qm 130 qCk]
 simp only [sB.1,qCk,seval,hg]
 generalize hr:qj h.length Wd (.loop qgt) _ = r
 obtain ⟨x,B,rfl,hq⟩:=qaH hr (loop 33 _ ⟨_,0,rfl,Y1,Y1,Y1,u4,zo,rfl⟩)
 rcases hq with ⟨rfl,hv,tt,rfl,ht⟩ | ⟨rfl,hv,tt,rfl,ht,e2⟩
 ·simp only [sB.1,seval,ht,hv]
 ·simp only [sB.1,seval,ht,e2,hv]
def qbp (s:Str):Bool:=qcX s && !qbF s
theorem qW (s:Str) (h:List qb):Wd (.fn 115 [] []) [.str s] h = some (.ret (.bool (qbp s)),h,false):=by
 rw [qm 115 qCg]
 cases hv:qcX s <;> cases hr:qbF s <;> (simp only [sB.1,qCg,seval,q9,qkA,hv,hr];simp [qbp,hv,hr])
def qd3:List (Nat×Str):=[(5,[97,116,111,109,105,99]),(6,[99,111,117,112,108,101,100]),(7,[114,111,111,116]),(8,[105,110]),(9,[111,117,116]),(10,[118,97,114]),(11,[116,97]),(12,[101,109,105,116]),(13,[105,110,116]),(14,[98,111,111,108]),(15,[115,121,109]),(16,[101,120,116]),(17,[99,111,110]),(18,[112,97,114,116]),(19,[108,105,110,107]),(20,[114,117,108,101]),(21,[97,100,100]),(22,[100,114,111,112]),(23,[116,105,101]),(24,[99,117,116]),(25,[105,102]),(26,[116,104,101,110]),(27,[101,108,115,101]),(28,[97,110,100]),(29,[111,114]),(30,[110,111,116]),(31,[116,114,117,101]),(32,[102,97,108,115,101]),(33,[99,111,117,110,116]),(34,[104,97,115]),(35,[115,117,109]),(36,[108,101,97,115,116]),(37,[101,108,97,112,115,101,100])]
def qjC:List (Nat×Str)->qE
 | []=>.skip
 | [x]=>.reg [ao x.1 (.bin .eql (.t 3) (.c (.str x.2))),ao 4 (.asg (.t x.1))]
 | x :: y :: r=>.seq (.reg [ao x.1 (.bin .eql (.t 3) (.c (.str x.2))),ao 4 (.asg (.t x.1))]) (.cond (.t 4) .skip (qjC (y :: r)))
def qrT:qE:=.seq (.reg [ao 2 (.asg (.c (.bool false)))]) (.seq (.seq (.reg [ao 3 (.mov (.t 0))]) (.block 0 (.seq (qjC qd3) (.cond (.t 4) (.seq (.reg [ao 2 (.asg (.c (.bool true)))]) .ret) .skip)))) (.seq (.reg [ao 2 (.asg (.c (.bool false)))]) .ret))
theorem qvg:(⟨38,[.tmp 2],qrT⟩ :qv) = qCb:=xk
theorem qk2 {b:Nat} {h:List qb} {s:Str}:∀(l:List (Nat×Str)),l ≠ []->(∀x ∈ l,5 <= x.1/\x.1 < 38)->∀tt:List qa,tt.length = 38->lkp tt 3 = .str s->
  ∃B,qj b Wd (qjC l) ⟨tt,h,false⟩ = some (.nor,⟨B,h,false⟩)/\B.length = 38/\lkp B 4 = .bool (l.any λx=>s == x.2)
 | [],h0,_,_,_,_=>absurd rfl h0
 | [(k,w)],_,hk,tt,ht,e3=>by
  obtain ⟨k5,E⟩:=hk (k,w) (by simp)
  have a1:¬ (k = 3):=by simp only at k5;omega
  have a2:¬ (k = 4):=by simp only at k5;omega
  have a3:k < 38:=E
  simp only [sB.1,qjC,seval,ht,e3,a1,a2,a3]
  refine ⟨_,rfl,Y0,?_⟩
  simp only [sB.1,seval,ht,List.any_cons,List.any_nil]
 | (k,w) :: y :: r,_,hk,tt,ht,e3=>by
  obtain ⟨k5,E⟩:=hk (k,w) (by simp)
  have a1:¬ (k = 3):=by simp only at k5;omega
  have a2:¬ (k = 4):=by simp only at k5;omega
  have a3:k < 38:=E
  generalize he:qj b Wd _ _ = R
  cases hb:(s == w) with
  | true=>
   simp only [sB.1,qjC,seval,ht,e3,a1,a2,a3,hb] at he
   subst he
   refine ⟨_,rfl,Y0,?_⟩
   simp only [sB.1,seval,ht,List.any_cons,hb]
  | false=>
   obtain ⟨B,g1,g2,g3⟩:=qk2 (b:=b) (h:=h) (s:=s) (y :: r) (by simp) (λx hx=>hk x (List.mem_cons_of_mem _ hx)) (up (up tt k (.bool false)) 4 (.bool false)) Y0 (by simp only [sB.1,seval,ht,e3,a1])
   simp only [sB.1,qjC,seval,ht,e3,a1,a2,a3,hb,g1] at he
   subst he
   refine ⟨B,rfl,g2,?_⟩
   rw [g3,List.any_cons (a:=(k,w)),hb,jP]
theorem qzl:(qd3.all λx=>words.contains x.2) = true:=xk
theorem qyt:(words.all λw=>qd3.any λx=>w == x.2) = true:=xk
theorem qvh (s:Str):(qd3.any λx=>s == x.2) = qbF s:=by
 rw [Bool.eq_iff_iff,qbF,List.any_eq_true,List.any_eq_true]
 constructor
 ·rintro ⟨x,hx,h⟩
  have:=List.all_eq_true.1 qzl x hx
  refine ⟨x.2,by simpa using this,?_⟩
  rw [beq_iff_eq] at h
  rw [h,beq_self_eq_true]
 ·rintro ⟨w,hw,h⟩
  have:=List.all_eq_true.1 qyt w hw
  rw [List.any_eq_true] at this
  obtain ⟨x,hx,h2⟩:=this
  rw [beq_iff_eq] at h
  subst h
  exact ⟨x,hx,h2⟩
theorem qzk:∀x ∈ qd3,5 <= x.1/\x.1 < 38:=by
 have:(qd3.all λx=>decide (5 <= x.1) && decide (x.1 < 38)) = true:=xk
 intro x hx
 simpa using List.all_eq_true.1 this x hx
theorem qnu (s:Str) (h:List qb):Wd (.fn 105 [] []) [.str s] h = some (.ret (.bool (qbF s)),h,false):=by
 rw [qm 105 qCb,<-qvg]
 generalize hR:qdQ _ h _ = R
 simp only [sB.1,qrT,seval] at hR
 generalize hr:qj h.length Wd (qjC qd3) _ = r at hR
 obtain ⟨tt,rfl,ht,e4⟩ :∃tt,r = some (.nor,⟨tt,h,false⟩)/\tt.length = 38/\lkp tt 4 = .bool (qd3.any λx=>s == x.2):=by
  rw [<-hr]
  refine qk2 qd3 (by simp [qd3]) qzk _ ?_ ?_
  all_goals simp only [sB.1,seval]
 rw [qvh] at e4
 rw [<-hR]
 cases hb:qbF s with
 | true=>
  rw [hb] at e4
  simp only [sB.1,seval,ht,e4]
 | false=>
  rw [hb] at e4
  simp only [sB.1,seval,ht,e4]
theorem q8 (s:Str) (h:List qb):Wd (.fn 69 [] []) [.str s] h = some (.ret (.bool (qcX s)),h,false):=by
 have loop:∀k st,(∃tt i,st = ⟨tt,h,false⟩/\tt.length = 50/\lkp tt 0 = .str s/\lkp tt 3 = .int .i64 (i:Nat)/\i + k = s.length/\qau i (s.drop i) = qau 0 s/\s.length <= 16)->
   ∃x E,qj h.length Wd (.loop qiP) st = some (x,E)/\((x = .exit 0/\qau 0 s = true/\∃tt,E = ⟨tt,h,false⟩/\tt.length = 50)\/(x = .ret/\qau 0 s = false/\∃tt,E = ⟨tt,h,false⟩/\tt.length = 50/\lkp tt 2 = .bool false)):=by
  refine qx _ _ ?_
  rintro k st ⟨tt,i,rfl,ht,e0,e3,J,hR,hl⟩
  generalize he:qj h.length Wd qiP _ = r
  rcases Nat.lt_or_ge i s.length with hi | hi
  ·have c1:ilt (i:Int) (s.length:Int) = true:=by rw [qe];simp;omega
   have hx:qh6 (.str s) (.int .i64 (i:Nat)) = some (.int .u8 (s[i].toNat:Nat)):=qlf (jh hi)
   have w:=qaf (n:=i) zo
   rw [jV hi,qau] at hR
   have hz:((i:Int) == 0) = (i == 0):=by rw [Bool.eq_iff_iff];simp
   cases hlt:qqE s[i] with
   | true=>
    have q:(ile 97 (s[i].toNat:Int) && ile (s[i].toNat:Int) 122) = true:=hlt
    simp only [jk] at q
    cases hd:ile 48 (s[i].toNat:Int) <;> cases B:ile (s[i].toNat:Int) 57
    all_goals
     simp only [sB.1,qiP,seval,ht,e0,e3,c1,hx,w,hz,q.1,q.2,hd,B] at he
     subst he
     refine .inl ⟨_,k - 1,rfl,zo,_,i + 1,rfl,Y0,?_,?_,zo,by rw [hlt] at hR;simpa using hR,hl⟩
     ·simp only [sB.1,seval,ht,e0]
     ·simp only [sB.1,seval,ht]
   | false=>
    have q:(ile 97 (s[i].toNat:Int) && ile (s[i].toNat:Int) 122) = false:=hlt
    have hq:∀a b,ile 97 (s[i].toNat:Int) = a->ile (s[i].toNat:Int) 122 = b->(a && b) = false:=λa b ha hb=>by rw [<-ha,<-hb];exact q
    cases I:(i == 0) with
    | true=>
     rw [hlt,I] at hR
     cases ha:ile 97 (s[i].toNat:Int) <;> cases hb:ile (s[i].toNat:Int) 122 <;> cases hd:ile 48 (s[i].toNat:Int) <;> cases B:ile (s[i].toNat:Int) 57
     all_goals first | (have:=hq _ _ ha hb;cases this;done) | skip
     all_goals
      simp only [sB.1,qiP,seval,ht,e0,e3,c1,hx,w,hz,ha,hb,hd,B,I] at he
      subst he
      refine .inr ⟨_,_,rfl,by simp,.inr ⟨rfl,by simpa using hR.symm,_,rfl,Y0,?_⟩⟩
      simp only [sB.1,seval,ht]
    | false=>
     rw [hlt,I] at hR
     simp only [Bool.not_false,jX,jP,qxp] at hR
     cases ha:ile 97 (s[i].toNat:Int) <;> cases hb:ile (s[i].toNat:Int) 122 <;> cases hd:ile 48 (s[i].toNat:Int) <;> cases B:ile (s[i].toNat:Int) 57
     all_goals first | (have:=hq _ _ ha hb;cases this;done) | skip
     all_goals rw [hd,B] at hR
     all_goals simp only [sB.1,qiP,seval,ht,e0,e3,c1,hx,w,hz,ha,hb,hd,B,I] at he
     all_goals subst he
     all_goals first
      | (refine .inr ⟨_,_,rfl,by simp,.inr ⟨rfl,by simpa using hR.symm,_,rfl,Y0,?_⟩⟩
         simp only [sB.1,seval,ht]
         done)
      | (refine .inl ⟨_,k - 1,rfl,zo,_,i + 1,rfl,Y0,?_,?_,zo,by simpa using hR,hl⟩
         ·simp only [sB.1,seval,ht,e0]
         ·simp only [sB.1,seval,ht])
  ·have c1:ilt (i:Int) (s.length:Int) = false:=by rw [qe];simp;omega
   simp only [sB.1,qiP,seval,ht,e0,e3,c1] at he
   subst he
   rw [List.drop_eq_nil_of_le hi,qau] at hR
   exact .inr ⟨_,_,rfl,by simp,.inl ⟨rfl,hR.symm,_,rfl,Y0⟩⟩
 rw [qm 69 c69]
 by_cases g1:1 <= s.length
 ·have d1:ilt (s.length:Int) 1 = false:=by rw [qe];simp;omega
  by_cases g2:s.length <= 16
  ·have d2:ilt 16 (s.length:Int) = false:=by rw [qe];simp;omega
   simp only [sB.1,c69,seval,d1,d2]
   generalize hr:qj h.length Wd (.loop qiP) _ = r
   obtain ⟨x,E,rfl,hq⟩:=qaH hr (loop s.length _ ⟨_,0,rfl,Y1,Y1,u4,zo,rfl,g2⟩)
   rcases hq with ⟨rfl,hv,tt,rfl,ht⟩ | ⟨rfl,hv,tt,rfl,ht,e2⟩
   ·simp only [sB.1,seval,ht]
    simp [qcX,g1,g2,hv]
   ·simp only [sB.1,seval,ht,e2]
    simp [qcX,g1,g2,hv]
  ·have d2:ilt 16 (s.length:Int) = true:=by rw [qe];simp;omega
   simp only [sB.1,c69,seval,d1,d2]
   simp [qcX,g2]
 ·have d1:ilt (s.length:Int) 1 = true:=by rw [qe];simp;omega
  simp only [sB.1,c69,seval,d1]
  simp [qcX,g1]
theorem qaj (s:Str) (h:List qb):Wd (.fn 77 [] []) [.str s] h = some (.ret (.bool (qbp s)),h,false):=by
 rw [qm 77 c77]
 cases hv:qcX s <;> cases hr:qbF s <;> (simp only [sB.1,c77,seval,q8,qnu,hv,hr];simp [qbp,hv,hr])
section
variable {base:Nat} {call:AE.Call} {dsts:List Nat} {s:St} {pend:List (Nat×Chk)}
theorem qCQ {d:Option Nat} {o:AOp} {ix cl j:Nat} {b:Bool} {ds:List qH} (h:lkp s.t j = .bool b):qw base call dsts (⟨⟨d,o,some (j,b)⟩,ix,cl⟩ :: ds) pend s = qw base call dsts (⟨⟨d,o,none⟩,ix,cl⟩ :: ds) pend s:=by
 have e:s.t.getD j .undef = .bool b:=h
 simp only [qw,wanted,e,beq_self_eq_true]
end
inductive Exl where
 | mk (op n:Int) (nm sb:Str) (aS:List Exl)
def Exl.enc:Exl->List qa
 | .mk op n nm sb aS=>[.int .i64 op,.int .i64 n,.str nm,.str sb,.lst (aS.map λe=>.agg e.enc) .no]
def exV (e:Exl):qa:=.agg e.enc
theorem qb3 (op n:Int) (nm sb:Str) (aS:List Exl):(Exl.mk op n nm sb aS).enc = [.int .i64 op,.int .i64 n,.str nm,.str sb,.lst (aS.map exV) .no]:=by rw [Exl.enc];rfl
theorem qD (op n:Int) (nm sb:Str) (aS:List Exl):exV (.mk op n nm sb aS) = .agg [.int .i64 op,.int .i64 n,.str nm,.str sb,.lst (aS.map exV) .no]:=by rw [exV,qb3]
def Fit:Nat->Exl->Prop
 | 0,_=>False
 | d + 1,.mk _ _ _ _ aS=>aS.length <= 20/\∀a ∈ aS,Fit d a
theorem z00:ilt 0 0 = false:=Eq.trans rfl rfl
theorem z01:ilt 0 1 = true:=Eq.trans rfl rfl
theorem z11:ilt 1 1 = false:=Eq.trans rfl rfl
theorem cc1:((1:Nat):Int) = 1:=Eq.trans rfl rfl
theorem cc0:((0:Nat):Int) = 0:=Eq.trans rfl rfl
theorem w01:IntKind.i64.wrap (0 + 1) = 1:=xk
theorem w1:IntKind.i64.wrap 1 = 1:=xk
theorem qBj:([]:List qa).length = 0:=rfl
theorem qrK (r:Int) (h:List qb):Wd (.fn 42 [] []) [.lst [] .full,.int .i64 r] h = some (.ret (.int .i64 r),h,false):=by
 rw [qm 42 c42]
 simp only [sB.1,c42,qBh,qaq,seval,qBj,cc0,z00]
theorem qvl (r:Int) (h:List qb):Wd (.fn 43 [] []) [.lst [] .full,.int .i64 r] h = some (.ret (.int .i64 r),h,false):=by
 rw [qm 43 c43]
 simp only [sB.1,c43,qBi,qaq,seval,qBj,cc0,z00]
def qEt (e:Exl):qa:=.agg [.str [],.bool false,.lst [] .full,.lst [] .full,.lst [] .full,.lst [exV e] .full,.lst [] .full,.lst [] .full,.lst [] .full,.int .i64 0,.lst [] .full,.lst [] .full,.lst [] .full,.lst [] .full]
def fB (nb mb sb:Bool) (lo hi n:Int) (nm sub:Str) (k:Nat):Bool:=(nb || n == 0) && ((mb || nm == []) && ((sb || sub == []) && (ile lo (k:Int) && ile (k:Int) hi)))
section
variable {h:List qb}
theorem qai (op n:Int) (nm sub:Str) (aS:List qa) (nb mb sb:Bool) (lo hi:Int) :
  Wd (.fn 113 [] []) [.agg [.int .i64 op,.int .i64 n,.str nm,.str sub,.lst aS .no],.bool nb,.bool mb,.bool sb,.int .i64 lo,.int .i64 hi] h = some (.ret (.bool (fB nb mb sb lo hi n nm sub aS.length)),h,false):=by
 rw [qm 113 qw8]
 by_cases a1:nb = true\/(nb = false/\(n == 0) = true)
 ·by_cases a2:mb = true\/(mb = false/\(nm == []) = true)
  ·by_cases a3:sb = true\/(sb = false/\(sub == []) = true)
   ·cases B:ile lo (aS.length:Int) <;>
    rcases a1 with rfl | ⟨rfl,b1⟩ <;> rcases a2 with rfl | ⟨rfl,b2⟩ <;> rcases a3 with rfl | ⟨rfl,b3⟩ <;> simp only [sB.1,qw8,seval,fB, *]
   ·have e3:sb = false:=by cases sb <;> simp_all
    subst e3
    have b3:(sub == []) = false:=by cases hq:(sub == []) <;> simp_all
    rcases a1 with rfl | ⟨rfl,b1⟩ <;> rcases a2 with rfl | ⟨rfl,b2⟩ <;> simp only [sB.1,qw8,seval,fB, *]
  ·have e3:mb = false:=by cases mb <;> simp_all
   subst e3
   have b3:(nm == []) = false:=by cases hq:(nm == []) <;> simp_all
   rcases a1 with rfl | ⟨rfl,b1⟩ <;> simp only [sB.1,qw8,seval,fB, *]
 ·have e3:nb = false:=by cases nb <;> simp_all
  subst e3
  have b3:(n == 0) = false:=by cases hq:(n == 0) <;> simp_all
  simp only [sB.1,qw8,seval,fB, *]
def nB0 (n:Int) (nm sub:Str) (k:Nat):Bool:=fB true false false 0 0 n nm sub k && ile 0 n
def nB1 (n:Int) (nm sub:Str) (k:Nat):Bool:=fB false false false 0 0 n nm sub k
def nB2 (n:Int) (nm sub:Str) (k:Nat):Bool:=fB false false false 0 0 n nm sub k
def nB3 (n:Int) (nm sub:Str) (k:Nat):Bool:=fB false true false 0 0 n nm sub k && qcX nm
def nB4 (n:Int) (nm sub:Str) (k:Nat):Bool:=fB false true false 0 0 n nm sub k && qbp nm
def nB5 (n:Int) (nm sub:Str) (k:Nat):Bool:=fB false true true 0 0 n nm sub k && (qbp nm && qbp sub)
def nB6 (n:Int) (nm sub:Str) (k:Nat):Bool:=fB false false false 1 4 n nm sub k
def nB7 (n:Int) (nm sub:Str) (k:Nat):Bool:=fB false true false 0 0 n nm sub k && qbp nm
def nB8 (n:Int) (nm sub:Str) (k:Nat):Bool:=fB false true false 0 0 n nm sub k && qbp nm
def nB9 (n:Int) (nm sub:Str) (k:Nat):Bool:=fB false true false 0 0 n nm sub k && qbp nm
def qyv (n:Int) (nm sub:Str) (k:Nat):Bool:=fB false true false 1 1 n nm sub k && qbp nm
def qyw (n:Int) (nm sub:Str) (k:Nat):Bool:=fB false false false 0 0 n nm sub k
def qyx (n:Int) (nm sub:Str) (k:Nat):Bool:=fB true false false 1 1 n nm sub k && (ile 0 n && ilt n 4)
def qyy (n:Int) (nm sub:Str) (k:Nat):Bool:=fB false false false 1 1 n nm sub k
def qyz (n:Int) (nm sub:Str) (k:Nat):Bool:=fB false false false 1 1 n nm sub k
def qyA (n:Int) (nm sub:Str) (k:Nat):Bool:=fB false false false 2 2 n nm sub k
def qyB (n:Int) (nm sub:Str) (k:Nat):Bool:=fB false false false 2 2 n nm sub k
def qyC (n:Int) (nm sub:Str) (k:Nat):Bool:=fB false false false 2 2 n nm sub k
def qyD (n:Int) (nm sub:Str) (k:Nat):Bool:=fB false false false 2 2 n nm sub k
def qyE (n:Int) (nm sub:Str) (k:Nat):Bool:=fB false false false 2 2 n nm sub k
def qyF (n:Int) (nm sub:Str) (k:Nat):Bool:=fB false false false 2 2 n nm sub k
def qyG (n:Int) (nm sub:Str) (k:Nat):Bool:=fB false false false 2 2 n nm sub k
def qyH (n:Int) (nm sub:Str) (k:Nat):Bool:=fB false false false 2 2 n nm sub k
def qyI (n:Int) (nm sub:Str) (k:Nat):Bool:=fB false false false 2 2 n nm sub k
def qyJ (n:Int) (nm sub:Str) (k:Nat):Bool:=fB false false false 2 2 n nm sub k
def qyK (n:Int) (nm sub:Str) (k:Nat):Bool:=fB false false false 3 3 n nm sub k
def qfC (op n:Int) (nm sub:Str) (k:Nat):Bool:=
 bif op == 0 then nB0 n nm sub k else 
 bif op == 1 then nB1 n nm sub k else 
 bif op == 2 then nB2 n nm sub k else 
 bif op == 3 then nB3 n nm sub k else 
 bif op == 4 then nB4 n nm sub k else 
 bif op == 5 then nB5 n nm sub k else 
 bif op == 6 then nB6 n nm sub k else 
 bif op == 7 then nB7 n nm sub k else 
 bif op == 8 then nB8 n nm sub k else 
 bif op == 9 then nB9 n nm sub k else 
 bif op == 10 then qyv n nm sub k else 
 bif op == 11 then qyw n nm sub k else 
 bif op == 12 then qyx n nm sub k else 
 bif op == 13 then qyy n nm sub k else 
 bif op == 14 then qyz n nm sub k else 
 bif op == 15 then qyA n nm sub k else 
 bif op == 16 then qyB n nm sub k else 
 bif op == 17 then qyC n nm sub k else 
 bif op == 18 then qyD n nm sub k else 
 bif op == 19 then qyE n nm sub k else 
 bif op == 20 then qyF n nm sub k else 
 bif op == 21 then qyG n nm sub k else 
 bif op == 22 then qyH n nm sub k else 
 bif op == 23 then qyI n nm sub k else 
 bif op == 24 then qyJ n nm sub k else 
 bif op == 25 then qyK n nm sub k else false
def ND (h:List qb) (op:Int) (B:Int->Str->Str->Nat->Bool):Prop:=∀(n:Int) (nm sub:Str) (aS:List qa),Wd (.fn 83 [] []) [.agg [.int .i64 op,.int .i64 n,.str nm,.str sub,.lst aS .no]] h = some (.ret (.bool (B n nm sub aS.length)),h,false)
theorem qBt:ND h 0 nB0:=by
 intro n nm sub aS
 have hf:=λ(h:List qb)=>qai (h:=h) 0 n nm sub aS true false false 0 0
 rw [qm 83 c83]
 cases hF:fB true false false 0 0 n nm sub aS.length <;> simp only [sB.1,c83,seval,hf,hF,nB0,q9,qW]
theorem qBu:ND h 1 nB1:=by
 intro n nm sub aS
 have hf:=λ(h:List qb)=>qai (h:=h) 1 n nm sub aS false false false 0 0
 rw [qm 83 c83]
 cases hF:fB false false false 0 0 n nm sub aS.length <;> simp only [sB.1,c83,seval,hf,hF,nB1,q9,qW]
theorem qBv:ND h 2 nB2:=by
 intro n nm sub aS
 have hf:=λ(h:List qb)=>qai (h:=h) 2 n nm sub aS false false false 0 0
 rw [qm 83 c83]
 cases hF:fB false false false 0 0 n nm sub aS.length <;> simp only [sB.1,c83,seval,hf,hF,nB2,q9,qW]
theorem qBw:ND h 3 nB3:=by
 intro n nm sub aS
 have hf:=λ(h:List qb)=>qai (h:=h) 3 n nm sub aS false true false 0 0
 rw [qm 83 c83]
 cases hF:fB false true false 0 0 n nm sub aS.length <;> simp only [sB.1,c83,seval,hf,hF,nB3,q9,qW]
theorem qBx:ND h 4 nB4:=by
 intro n nm sub aS
 have hf:=λ(h:List qb)=>qai (h:=h) 4 n nm sub aS false true false 0 0
 rw [qm 83 c83]
 cases hF:fB false true false 0 0 n nm sub aS.length <;> simp only [sB.1,c83,seval,hf,hF,nB4,q9,qW]
theorem qBy:ND h 5 nB5:=by
 intro n nm sub aS
 have hf:=λ(h:List qb)=>qai (h:=h) 5 n nm sub aS false true true 0 0
 rw [qm 83 c83]
 cases hF:fB false true true 0 0 n nm sub aS.length <;> cases h1:qbp nm <;> simp only [sB.1,c83,seval,hf,hF,nB5,q9,qW,h1]
theorem qBz:ND h 6 nB6:=by
 intro n nm sub aS
 have hf:=λ(h:List qb)=>qai (h:=h) 6 n nm sub aS false false false 1 4
 rw [qm 83 c83]
 cases hF:fB false false false 1 4 n nm sub aS.length <;> simp only [sB.1,c83,seval,hf,hF,nB6,q9,qW]
theorem qBA:ND h 7 nB7:=by
 intro n nm sub aS
 have hf:=λ(h:List qb)=>qai (h:=h) 7 n nm sub aS false true false 0 0
 rw [qm 83 c83]
 cases hF:fB false true false 0 0 n nm sub aS.length <;> simp only [sB.1,c83,seval,hf,hF,nB7,q9,qW]
theorem qBB:ND h 8 nB8:=by
 intro n nm sub aS
 have hf:=λ(h:List qb)=>qai (h:=h) 8 n nm sub aS false true false 0 0
 rw [qm 83 c83]
 cases hF:fB false true false 0 0 n nm sub aS.length <;> simp only [sB.1,c83,seval,hf,hF,nB8,q9,qW]
theorem qBC:ND h 9 nB9:=by
 intro n nm sub aS
 have hf:=λ(h:List qb)=>qai (h:=h) 9 n nm sub aS false true false 0 0
 rw [qm 83 c83]
 cases hF:fB false true false 0 0 n nm sub aS.length <;> simp only [sB.1,c83,seval,hf,hF,nB9,q9,qW]
theorem qyQ:ND h 10 qyv:=by
 intro n nm sub aS
 have hf:=λ(h:List qb)=>qai (h:=h) 10 n nm sub aS false true false 1 1
 rw [qm 83 c83]
 cases hF:fB false true false 1 1 n nm sub aS.length <;> simp only [sB.1,c83,seval,hf,hF,qyv,q9,qW]
theorem qyR:ND h 11 qyw:=by
 intro n nm sub aS
 have hf:=λ(h:List qb)=>qai (h:=h) 11 n nm sub aS false false false 0 0
 rw [qm 83 c83]
 cases hF:fB false false false 0 0 n nm sub aS.length <;> simp only [sB.1,c83,seval,hf,hF,qyw,q9,qW]
theorem qyS:ND h 12 qyx:=by
 intro n nm sub aS
 have hf:=λ(h:List qb)=>qai (h:=h) 12 n nm sub aS true false false 1 1
 rw [qm 83 c83]
 cases hF:fB true false false 1 1 n nm sub aS.length <;> cases h1:ile 0 n <;> simp only [sB.1,c83,seval,hf,hF,qyx,q9,qW,h1]
theorem qyT:ND h 13 qyy:=by
 intro n nm sub aS
 have hf:=λ(h:List qb)=>qai (h:=h) 13 n nm sub aS false false false 1 1
 rw [qm 83 c83]
 cases hF:fB false false false 1 1 n nm sub aS.length <;> simp only [sB.1,c83,seval,hf,hF,qyy,q9,qW]
theorem qyU:ND h 14 qyz:=by
 intro n nm sub aS
 have hf:=λ(h:List qb)=>qai (h:=h) 14 n nm sub aS false false false 1 1
 rw [qm 83 c83]
 cases hF:fB false false false 1 1 n nm sub aS.length <;> simp only [sB.1,c83,seval,hf,hF,qyz,q9,qW]
theorem qyV:ND h 15 qyA:=by
 intro n nm sub aS
 have hf:=λ(h:List qb)=>qai (h:=h) 15 n nm sub aS false false false 2 2
 rw [qm 83 c83]
 cases hF:fB false false false 2 2 n nm sub aS.length <;> simp only [sB.1,c83,seval,hf,hF,qyA,q9,qW]
theorem qyW:ND h 16 qyB:=by
 intro n nm sub aS
 have hf:=λ(h:List qb)=>qai (h:=h) 16 n nm sub aS false false false 2 2
 rw [qm 83 c83]
 cases hF:fB false false false 2 2 n nm sub aS.length <;> simp only [sB.1,c83,seval,hf,hF,qyB,q9,qW]
theorem qyX:ND h 17 qyC:=by
 intro n nm sub aS
 have hf:=λ(h:List qb)=>qai (h:=h) 17 n nm sub aS false false false 2 2
 rw [qm 83 c83]
 cases hF:fB false false false 2 2 n nm sub aS.length <;> simp only [sB.1,c83,seval,hf,hF,qyC,q9,qW]
theorem qyY:ND h 18 qyD:=by
 intro n nm sub aS
 have hf:=λ(h:List qb)=>qai (h:=h) 18 n nm sub aS false false false 2 2
 rw [qm 83 c83]
 cases hF:fB false false false 2 2 n nm sub aS.length <;> simp only [sB.1,c83,seval,hf,hF,qyD,q9,qW]
theorem qyZ:ND h 19 qyE:=by
 intro n nm sub aS
 have hf:=λ(h:List qb)=>qai (h:=h) 19 n nm sub aS false false false 2 2
 rw [qm 83 c83]
 cases hF:fB false false false 2 2 n nm sub aS.length <;> simp only [sB.1,c83,seval,hf,hF,qyE,q9,qW]
theorem qy0:ND h 20 qyF:=by
 intro n nm sub aS
 have hf:=λ(h:List qb)=>qai (h:=h) 20 n nm sub aS false false false 2 2
 rw [qm 83 c83]
 cases hF:fB false false false 2 2 n nm sub aS.length <;> simp only [sB.1,c83,seval,hf,hF,qyF,q9,qW]
theorem qy1:ND h 21 qyG:=by
 intro n nm sub aS
 have hf:=λ(h:List qb)=>qai (h:=h) 21 n nm sub aS false false false 2 2
 rw [qm 83 c83]
 cases hF:fB false false false 2 2 n nm sub aS.length <;> simp only [sB.1,c83,seval,hf,hF,qyG,q9,qW]
theorem qy2:ND h 22 qyH:=by
 intro n nm sub aS
 have hf:=λ(h:List qb)=>qai (h:=h) 22 n nm sub aS false false false 2 2
 rw [qm 83 c83]
 cases hF:fB false false false 2 2 n nm sub aS.length <;> simp only [sB.1,c83,seval,hf,hF,qyH,q9,qW]
theorem qy3:ND h 23 qyI:=by
 intro n nm sub aS
 have hf:=λ(h:List qb)=>qai (h:=h) 23 n nm sub aS false false false 2 2
 rw [qm 83 c83]
 cases hF:fB false false false 2 2 n nm sub aS.length <;> simp only [sB.1,c83,seval,hf,hF,qyI,q9,qW]
theorem qy4:ND h 24 qyJ:=by
 intro n nm sub aS
 have hf:=λ(h:List qb)=>qai (h:=h) 24 n nm sub aS false false false 2 2
 rw [qm 83 c83]
 cases hF:fB false false false 2 2 n nm sub aS.length <;> simp only [sB.1,c83,seval,hf,hF,qyJ,q9,qW]
theorem qy5:ND h 25 qyK:=by
 intro n nm sub aS
 have hf:=λ(h:List qb)=>qai (h:=h) 25 n nm sub aS false false false 3 3
 rw [qm 83 c83]
 cases hF:fB false false false 3 3 n nm sub aS.length <;> simp only [sB.1,c83,seval,hf,hF,qyK,q9,qW]
theorem qFK {op:Int} (ho:¬ (0 <= op/\op <= 25)):(op == 0) = false/\(op == 1) = false/\(op == 2) = false/\(op == 3) = false/\(op == 4) = false/\(op == 5) = false/\(op == 6) = false/\(op == 7) = false/\(op == 8) = false/\(op == 9) = false/\(op == 10) = false/\(op == 11) = false/\(op == 12) = false/\(op == 13) = false/\(op == 14) = false/\(op == 15) = false/\(op == 16) = false/\(op == 17) = false/\(op == 18) = false/\(op == 19) = false/\(op == 20) = false/\(op == 21) = false/\(op == 22) = false/\(op == 23) = false/\(op == 24) = false/\(op == 25) = false:=by
 refine ⟨?_,?_,?_,?_,?_,?_,?_,?_,?_,?_,?_,?_,?_,?_,?_,?_,?_,?_,?_,?_,?_,?_,?_,?_,?_,?_⟩ <;> rw [beq_eq_false_iff_ne] <;> omega
theorem qhR {op:Int} (ho:¬ (0 <= op/\op <= 25)) (n:Int) (nm sub:Str) (k:Nat):qfC op n nm sub k = false:=by
 simp only [qfC,qFK ho,cond_false]
theorem qy6 {op:Int} (ho:¬ (0 <= op/\op <= 25)) (n:Int) (nm sub:Str) (aS:List qa):Wd (.fn 83 [] []) [.agg [.int .i64 op,.int .i64 n,.str nm,.str sub,.lst aS .no]] h = some (.ret (.bool false),h,false):=by
 rw [qm 83 c83]
 simp only [sB.1,c83,seval,qFK ho]
theorem qBD (op n:Int) (nm sub:Str) (aS:List qa):Wd (.fn 83 [] []) [.agg [.int .i64 op,.int .i64 n,.str nm,.str sub,.lst aS .no]] h = some (.ret (.bool (qfC op n nm sub aS.length)),h,false):=by
 by_cases ho:0 <= op/\op <= 25
 ·have:op = 0\/op = 1\/op = 2\/op = 3\/op = 4\/op = 5\/op = 6\/op = 7\/op = 8\/op = 9\/op = 10\/op = 11\/op = 12\/op = 13\/op = 14\/op = 15\/op = 16\/op = 17\/op = 18\/op = 19\/op = 20\/op = 21\/op = 22\/op = 23\/op = 24\/op = 25:=zo
  rcases this with rfl | rfl | rfl | rfl | rfl | rfl | rfl | rfl | rfl | rfl | rfl | rfl | rfl | rfl | rfl | rfl | rfl | rfl | rfl | rfl | rfl | rfl | rfl | rfl | rfl | rfl
  ·exact qBt n nm sub aS
  ·exact qBu n nm sub aS
  ·exact qBv n nm sub aS
  ·exact qBw n nm sub aS
  ·exact qBx n nm sub aS
  ·exact qBy n nm sub aS
  ·exact qBz n nm sub aS
  ·exact qBA n nm sub aS
  ·exact qBB n nm sub aS
  ·exact qBC n nm sub aS
  ·exact qyQ n nm sub aS
  ·exact qyR n nm sub aS
  ·exact qyS n nm sub aS
  ·exact qyT n nm sub aS
  ·exact qyU n nm sub aS
  ·exact qyV n nm sub aS
  ·exact qyW n nm sub aS
  ·exact qyX n nm sub aS
  ·exact qyY n nm sub aS
  ·exact qyZ n nm sub aS
  ·exact qy0 n nm sub aS
  ·exact qy1 n nm sub aS
  ·exact qy2 n nm sub aS
  ·exact qy3 n nm sub aS
  ·exact qy4 n nm sub aS
  ·exact qy5 n nm sub aS
 ·rw [qhR ho]
  exact qy6 ho n nm sub aS
end
def right:Nat->Exl->Bool
 | 0,_=>false
 | d + 1,.mk op n nm sub aS=>qfC op n nm sub aS.length && aS.all (right d)
theorem qpV (a b:Int):ilt a b = !(ile b a):=by
 rw [qe,qaI]
 by_cases h:a < b
 ·rw [decide_eq_true h,decide_eq_false zo];rfl
 ·rw [decide_eq_false h,decide_eq_true zo];rfl
theorem qF7 (n:Int):ilt n 4 = ile n 3:=by
 rw [qe,qaI]
 by_cases h:n < 4
 ·rw [decide_eq_true h,decide_eq_true zo]
 ·rw [decide_eq_false h,decide_eq_false zo]
def qej (d:Nat):Prop:=∀(e:Exl) (h:List qb),(∃k,Fit k e)->Wd (.fn 45 [] []) [exV e,.int .i64 (d:Nat)] h = some (.ret (.bool (right d e)),h,false)
section
variable {d:Nat} {h:List qb}
theorem qxK (hd:d < 100) (ih:qej d) {n:Int} {op:Int} {nm sub:Str} {aS:List Exl} (hl:aS.length < 1000000000) (hf:∀a ∈ aS,∃k,Fit k a):∀k st,(∃tt i,st = ⟨tt,h ++ [.cells [.int .i64 op,.int .i64 n,.str nm,.str sub,.lst (aS.map exV) .no]],false⟩/\tt.length = 126/\lkp tt 1 = .int .i64 (d + 1:Nat)/\lkp tt 2 = .ptr h.length 0/\lkp tt 10 = .int .i64 (i:Nat)/\i + k = aS.length/\(aS.drop i).all (right d) = aS.all (right d))->
  ∃x I,qj h.length Wd (.loop qiM) st = some (x,I)/\(∃tt,I = ⟨tt,h ++ [.cells [.int .i64 op,.int .i64 n,.str nm,.str sub,.lst (aS.map exV) .no]],false⟩/\tt.length = 126/\((x = .exit 1/\aS.all (right d) = true)\/(x = .ret/\aS.all (right d) = false/\lkp tt 4 = .bool false))):=by
 obtain ⟨G,hG⟩ :∃G,G = h ++ [qb.cells [.int .i64 op,.int .i64 n,.str nm,.str sub,.lst (aS.map exV) .no]]:=⟨_,rfl⟩
 have E:G[h.length]? = some (.cells [.int .i64 op,.int .i64 n,.str nm,.str sub,.lst (aS.map exV) .no]):=by rw [hG,qY];rfl
 rw [<-hG]
 refine qx _ _ ?_
 rintro k st ⟨tt,i,rfl,ht,e1,e2,e10,U,hR⟩
 generalize he:qj h.length Wd qiM _ = r
 rcases Nat.lt_or_ge i aS.length with hi | hi
 ·have c1:ilt (i:Int) (aS.length:Int) = true:=by rw [qe];simp;omega
  have w:=qaf (n:=i) zo
  have wd:IntKind.i64.wrap (((d + 1:Nat):Int) - 1) = ((d:Nat):Int):=by rw [qbj zo zo];omega
  have B:=ih aS[i] G (hf _ (List.getElem_mem hi))
  have hg:(aS.map exV)[i]? = some (exV aS[i]):=by rw [jr,jh hi];rfl
  rw [jV hi,jE] at hR
  generalize aS[i] = y at B hg hR
  obtain ⟨M,n',O,J,S⟩:=y
  rw [qD] at B hg
  have hx:qar 5 (.lst (aS.map exV) .no) (.int .i64 (i:Nat)) = some (.iptr [.int .i64 M,.int .i64 n',.str O,.str J,.lst (S.map exV) .no] 0):=qa4 hg rfl
  cases hb:right d (.mk M n' O J S) with
  | true=>
   rw [hb,jX] at hR
   rw [hb] at B
   simp only [sB.1,qiM,seval,ht,e1,e2,e10,c1,w,wd,hx,E,B,jW] at he
   subst he
   refine .inl ⟨_,k - 1,rfl,zo,_,i + 1,rfl,Y0,?_,?_,?_,zo,hR⟩
   ·simp only [sB.1,seval,ht,e1]
   ·simp only [sB.1,seval,ht,e2]
   ·simp only [sB.1,seval,ht]
  | false=>
   rw [hb,jN] at hR
   rw [hb] at B
   simp only [sB.1,qiM,seval,ht,e1,e2,e10,c1,w,wd,hx,E,B,jW] at he
   subst he
   exact .inr ⟨_,_,rfl,by simp,_,rfl,Y0,.inr ⟨rfl,hR.symm,z12⟩⟩
 ·have c1:ilt (i:Int) (aS.length:Int) = false:=by rw [qe];simp;omega
  rw [List.drop_eq_nil_of_le hi,jF] at hR
  simp only [sB.1,qiM,seval,ht,e1,e2,e10,c1,E,jW] at he
  subst he
  exact .inr ⟨_,_,rfl,by simp,_,rfl,Y0,.inl ⟨rfl,hR.symm⟩⟩
end
theorem qzX {a b:Int} (h:a < b):ilt a b = true:=by rw [qe];exact decide_eq_true h
theorem qzW {a b:Int} (h:¬ a < b):ilt a b = false:=by rw [qe];exact decide_eq_false h
theorem qF8 {a b:Int} (h:a <= b):ile a b = true:=by rw [qaI];exact decide_eq_true h
theorem qFG {a b:Int} (h:¬ a <= b):ile a b = false:=by rw [qaI];exact decide_eq_false h
def dOK:Nat->Exl->Bool
 | 0,_=>false
 | m + 1,.mk _ _ _ _ aS=>aS.all (dOK m)
theorem qfg:∀(d:Nat) (e:Exl),right d e = true->dOK d e = true
 | 0,_,h=>by rw [right] at h;cases h
 | d + 1,.mk op n nm sub aS,h=>by
  rw [right,jk,List.all_eq_true] at h
  rw [dOK,List.all_eq_true]
  exact λa ha=>qfg d a (h.2 a ha)
theorem qHl:∀(m:Nat),m <= 100->∀(e:Exl) (h:List qb),(∃k,Fit k e)->∃v:Nat,Wd (.fn 60 [] []) [exV e,.int .i64 (m:Nat)] h = some (.ret (.int .i64 (v:Nat)),h,false)/\1 <= v/\v <= m + 1/\decide (v <= m) = dOK m e:=by
 intro m
 induction m with
 | zero=>
  rintro _ ⟨op,n,nm,sub,aS⟩ h _
  have z0:ile ((0:Nat):Int) 0 = true:=xk
  have w0:IntKind.i64.wrap (((0:Nat):Int) + 1) = ((1:Nat):Int):=xk
  refine ⟨1,?_,zo,zo,by rw [dOK];rfl⟩
  rw [qD,qm 60 c60]
  simp only [sB.1,c60,seval,-Int.reduceNatCast',z0,w0]
 | succ m ih=>
  rintro hm ⟨op,n,nm,sub,aS⟩ h ⟨k,hk⟩
  have ih:=ih zo
  obtain ⟨k,rfl⟩ :∃k',k = k' + 1:=by cases k with | zero=>exact hk.elim | succ k=>exact ⟨k,rfl⟩
  have hl:aS.length <= 20:=hk.1
  have hf:∀a ∈ aS,∃k,Fit k a:=λa ha=>⟨k,hk.2 a ha⟩
  have z0:ile ((m + 1:Nat):Int) 0 = false:=qFG zo
  have z1:IntKind.i64.wrap (((m + 1:Nat):Int) - 1) = ((m:Nat):Int):=by rw [qbj zo zo];omega
  rw [dOK,qD]
  have loop:∀q st,(∃(tt:List qa) (G:List qb) (i qhz:Nat),st = ⟨tt,G,false⟩/\tt.length = 32/\G.take h.length = h/\h.length <= G.length/\lkp tt 1 = .int .i64 (m + 1:Nat)/\lkp tt 5 = .int .i64 (qhz:Nat)/\lkp tt 13 = .lst (aS.map exV) .no/\lkp tt 14 = .int .i64 (aS.length:Nat)/\lkp tt 15 = .int .i64 (i:Nat)/\i + q = aS.length/\1 <= qhz/\qhz <= m + 1/\(aS.drop i).all (dOK m) = aS.all (dOK m))->
    ∃x J,qj h.length Wd (.loop qkc) st = some (x,J)/\(∃(tt:List qa) (G:List qb),J = ⟨tt,G,false⟩/\tt.length = 32/\G.take h.length = h/\((x = .exit 0/\aS.all (dOK m) = true/\∃qhz:Nat,lkp tt 5 = .int .i64 (qhz:Nat)/\1 <= qhz/\qhz <= m + 1)\/(x = .ret/\aS.all (dOK m) = false/\lkp tt 4 = .int .i64 (m + 2:Nat)))):=by
   refine qx _ _ ?_
   rintro q st ⟨tt,G,i,qhz,rfl,ht,O,M,e1,e5,I,E,S,ae,ac,ab,hR⟩
   generalize he:qj h.length Wd qkc _ = r
   rcases Nat.lt_or_ge i aS.length with hi | hi
   ·have c1:ilt (i:Int) (aS.length:Int) = true:=qzX zo
    have w:=qaf (n:=i) zo
    obtain ⟨v,hv,v1,v2,v3⟩:=ih aS[i] (G ++ [.cells (aS[i]).enc]) (hf _ (List.getElem_mem hi))
    have hg:(aS.map exV)[i]? = some (exV aS[i]):=by rw [jr,jh hi];rfl
    rw [jV hi,jE,<-v3] at hR
    generalize aS[i] = y at hv hg
    obtain ⟨a6,n',a7,a1,ad⟩:=y
    rw [qD] at hg
    rw [qD,qb3] at hv
    have hx:qar 5 (.lst (aS.map exV) .no) (.int .i64 (i:Nat)) = some (.iptr [.int .i64 a6,.int .i64 n',.str a7,.str a1,.lst (ad.map exV) .no] 0):=qa4 hg rfl
    have U:Nat.ble h.length G.length = true:=qf M
    have w1:IntKind.i64.wrap (1 + (v:Int)) = ((v + 1:Nat):Int):=by rw [qbj zo zo];omega
    have mx:(if ((v + 1:Nat):Int) > (qhz:Int) then ((v + 1:Nat):Int) else (qhz:Int)) = ((max qhz (v + 1):Nat):Int):=by split <;> omega
    cases hb:decide (v <= m) with
    | true=>
     have a8:v <= m:=of_decide_eq_true hb
     rw [hb,jX] at hR
     have c2:ilt ((m + 1:Nat):Int) ((max qhz (v + 1):Nat):Int) = false:=qzW zo
     simp only [sB.1,qkc,seval,ht,e1,e5,I,E,S,c1,hx,U,hv,z1,w1,mx,qq8,c2,w] at he
     subst he
     refine .inl ⟨_,q - 1,rfl,zo,_,_,i + 1,max qhz (v + 1),rfl,Y0,by rw [jU M,O],by simp;omega,?_,?_,?_,?_,?_,zo,zo,zo,hR⟩
     ·simp only [sB.1,seval,ht,e1]
     ·simp only [sB.1,seval,ht]
     ·simp only [sB.1,seval,ht,I]
     ·simp only [sB.1,seval,ht,E]
     ·simp only [sB.1,seval,ht]
    | false=>
     have a8:¬ v <= m:=of_decide_eq_false hb
     rw [hb,jN] at hR
     have aa:max qhz (v + 1) = m + 2:=zo
     have c2:ilt ((m + 1:Nat):Int) ((max qhz (v + 1):Nat):Int) = true:=qzX zo
     simp only [sB.1,qkc,seval,ht,e1,e5,I,E,S,c1,hx,U,hv,z1,w1,mx,qq8,c2,w] at he
     subst he
     refine .inr ⟨_,_,rfl,by simp,_,_,rfl,?_,?_,.inr ⟨rfl,hR.symm,?_⟩⟩
     ·simp only [qaX,ht]
     ·rw [jU M,O]
     ·simp only [sB.1,seval,ht,aa]
   ·have c1:ilt (i:Int) (aS.length:Int) = false:=qzW zo
    rw [List.drop_eq_nil_of_le hi,jF] at hR
    simp only [sB.1,qkc,seval,ht,e1,e5,I,E,S,c1] at he
    subst he
    exact .inr ⟨_,_,rfl,by simp,_,_,rfl,Y0,O,.inl ⟨rfl,hR.symm,qhz,by simp only [sB.1,seval,ht,e5],ac,ab⟩⟩
  generalize hw:Wd _ _ h = w
  rw [qm 60 c60] at hw
  simp only [sB.1,c60,seval,z0,jW] at hw
  generalize hr:qj h.length Wd (.loop qkc) _ = r at hw
  obtain ⟨x,J,rfl,tt,G,rfl,ht,hG,hq⟩:=qaH hr (loop aS.length _ ⟨_,_,0,1,rfl,Y1,by simp,by simp,Y1,by simp only [sB.1,seval,-Int.reduceNatCast'];rfl,Y1,Y1,u4,zo,zo,zo,rfl⟩)
  rcases hq with ⟨rfl,B,qhz,e5,b1,b2⟩ | ⟨rfl,B,e4⟩
  ·simp only [sB.1,seval,ht,e5] at hw
   subst hw
   refine ⟨qhz,congrArg some (qS hG rfl),b1,zo,?_⟩
   rw [B]
   exact decide_eq_true zo
  ·simp only [sB.1,seval,ht,e4] at hw
   subst hw
   refine ⟨m + 2,congrArg some (qS hG rfl),zo,zo,?_⟩
   rw [B]
   exact decide_eq_false zo
def qz6 (d:Nat):Prop:=∀(e:Exl) (h:List qb),(∃k,Fit k e)->dOK d e = true->Wd (.fn 61 [] []) [exV e] h = some (.ret (.bool (right d e)),h,false)
theorem qFQ {d:Nat} (hn:qz6 d) (aS:List Exl) (hl:aS.length <= 20) (hf:∀a ∈ aS,∃k,Fit k a) (hD:∀a ∈ aS,dOK d a = true) (h:List qb) :
  Wd (.fn 84 [] []) [.lst (aS.map exV) .no,.fn 61 [] []] h = some (.ret (.bool (aS.all (right d))),h,false):=by
 have loop:∀q st,(∃(tt:List qa) (G:List qb) (i:Nat),st = ⟨tt,G,false⟩/\tt.length = 18/\G.take h.length = h/\h.length <= G.length/\lkp tt 1 = .fn 61 [] []/\lkp tt 7 = .lst (aS.map exV) .no/\lkp tt 8 = .int .i64 (aS.length:Nat)/\lkp tt 9 = .int .i64 (i:Nat)/\i + q = aS.length/\(aS.drop i).all (right d) = aS.all (right d))->
   ∃x E,qj h.length Wd (.loop qkf) st = some (x,E)/\(∃(tt:List qa) (G:List qb),E = ⟨tt,G,false⟩/\tt.length = 18/\G.take h.length = h/\((x = .exit 0/\aS.all (right d) = true)\/(x = .ret/\aS.all (right d) = false/\lkp tt 4 = .bool false))):=by
  refine qx _ _ ?_
  rintro q st ⟨tt,G,i,rfl,ht,J,I,e1,e7,e8,e9,a6,hR⟩
  generalize he:qj h.length Wd qkf _ = r
  rcases Nat.lt_or_ge i aS.length with hi | hi
  ·have c1:ilt (i:Int) (aS.length:Int) = true:=qzX zo
   have w:=qaf (n:=i) zo
   have hv:=hn aS[i] (G ++ [.cells (aS[i]).enc]) (hf _ (List.getElem_mem hi)) (hD _ (List.getElem_mem hi))
   have hg:(aS.map exV)[i]? = some (exV aS[i]):=by rw [jr,jh hi];rfl
   rw [jV hi,jE] at hR
   generalize aS[i] = y at hv hg hR
   obtain ⟨O,n',S,M,a1⟩:=y
   rw [qD] at hg
   rw [qD,qb3] at hv
   have hx:qar 5 (.lst (aS.map exV) .no) (.int .i64 (i:Nat)) = some (.iptr [.int .i64 O,.int .i64 n',.str S,.str M,.lst (a1.map exV) .no] 0):=qa4 hg rfl
   have U:Nat.ble h.length G.length = true:=qf I
   cases hb:right d (.mk O n' S M a1) with
   | true=>
    rw [hb,jX] at hR
    rw [hb] at hv
    simp only [sB.1,qkf,seval,ht,e1,e7,e8,e9,c1,hx,U,hv,w] at he
    subst he
    refine .inl ⟨_,q - 1,rfl,zo,_,_,i + 1,rfl,Y0,by rw [jU I,J],by simp;omega,?_,?_,?_,?_,zo,hR⟩
    ·simp only [sB.1,seval,ht,e1]
    ·simp only [sB.1,seval,ht,e7]
    ·simp only [sB.1,seval,ht,e8]
    ·simp only [sB.1,seval,ht]
   | false=>
    rw [hb,jN] at hR
    rw [hb] at hv
    simp only [sB.1,qkf,seval,ht,e1,e7,e8,e9,c1,hx,U,hv,w] at he
    subst he
    refine .inr ⟨_,_,rfl,by simp,_,_,rfl,?_,?_,.inr ⟨rfl,hR.symm,?_⟩⟩
    ·simp only [qaX,ht]
    ·rw [jU I,J]
    ·simp only [sB.1,seval,ht]
  ·have c1:ilt (i:Int) (aS.length:Int) = false:=qzW zo
   rw [List.drop_eq_nil_of_le hi,jF] at hR
   simp only [sB.1,qkf,seval,ht,e1,e7,e8,e9,c1] at he
   subst he
   exact .inr ⟨_,_,rfl,by simp,_,_,rfl,Y0,J,.inl ⟨rfl,hR.symm⟩⟩
 generalize hw:Wd _ _ h = w
 rw [qm 84 c84] at hw
 simp only [sB.1,c84,seval,jW] at hw
 generalize hr:qj h.length Wd (.loop qkf) _ = r at hw
 obtain ⟨x,E,rfl,tt,G,rfl,ht,hG,hq⟩:=qaH hr (loop aS.length _ ⟨_,_,0,rfl,Y1,by simp,by simp,Y1,Y1,Y1,u4,zo,rfl⟩)
 rcases hq with ⟨rfl,B⟩ | ⟨rfl,B,e4⟩
 ·simp only [sB.1,seval,ht] at hw
  subst hw
  rw [B]
  exact congrArg some (qS hG rfl)
 ·simp only [sB.1,seval,ht,e4] at hw
  subst hw
  rw [B]
  exact congrArg some (qS hG rfl)
theorem qEy:∀d,qz6 d:=by
 intro d
 induction d with
 | zero=>
  rintro e h _ hd
  rw [dOK] at hd
  cases hd
 | succ d ih=>
  rintro ⟨op,n,nm,sub,aS⟩ h ⟨k,hk⟩ hd
  obtain ⟨k,rfl⟩ :∃k',k = k' + 1:=by cases k with | zero=>exact hk.elim | succ k=>exact ⟨k,rfl⟩
  have hf:∀a ∈ aS,∃k,Fit k a:=λa ha=>⟨k,hk.2 a ha⟩
  rw [dOK,List.all_eq_true] at hd
  have ha:=λg=>qFQ ih aS hk.1 hf hd g
  have hn:=λg=>qBD (h:=g) op n nm sub (aS.map exV)
  rw [jW] at hn
  rw [qD,right,qm 61 c61]
  cases hb:qfC op n nm sub aS.length with
  | false=>simp only [sB.1,c61,seval,hn,hb]
  | true=>simp only [sB.1,c61,seval,hn,hb,ha]
theorem qDk (e:Exl) (h:List qb) (hk:∃k,Fit k e):Wd (.fn 33 [] []) [exV e] h = some (.ret (.bool (right 20 e)),h,false):=by
 obtain ⟨v,hv,v1,v2,v3⟩:=qHl 20 zo e (h ++ [.cells e.enc]) hk
 have hn:=λhd g=>qEy 20 e g hk hd
 have c20:((20:Nat):Int) = 20:=Eq.trans rfl rfl
 rw [c20] at hv
 cases hd:dOK 20 e with
 | false=>
  rw [hd] at v3
  have hr:right 20 e = false:=by
   cases hr:right 20 e with
   | false=>rfl
   | true=>rw [qfg _ _ hr] at hd;cases hd
  have c1:ile (v:Int) 20 = false:=by have:=of_decide_eq_false v3;exact qFG zo
  rw [hr]
  obtain ⟨op,n,nm,sub,aS⟩:=e
  rw [qD,qb3] at hv
  rw [qD,qm 33 c33]
  simp only [sB.1,c33,seval,hv,c1]
 | true=>
  have hn:=hn hd
  rw [hd] at v3
  have c1:ile (v:Int) 20 = true:=by have:=of_decide_eq_true v3;exact qF8 zo
  obtain ⟨op,n,nm,sub,aS⟩:=e
  rw [qD,qb3] at hv
  rw [qD] at hn
  rw [qD,qm 33 c33]
  simp only [sB.1,c33,seval,hv,c1,hn]
end Go.Proofs.YtnibchoenjmmjaaGreatDoor.AE
