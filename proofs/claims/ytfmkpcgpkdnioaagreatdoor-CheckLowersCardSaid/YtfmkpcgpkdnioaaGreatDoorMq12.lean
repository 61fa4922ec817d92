/- A part of the proof: the abstract executor and what goes through it (part 12). No condition. -/
import Derived.Test.YtfmkpcgpkdnioaaGreatDoorMq6
import Derived.Test.YtfmkpcgpkdnioaaGreatDoorMq3
import Derived.KernelRfl
import Derived.Laws.BitsLemmas
set_option maxRecDepth 100000
namespace Go.Proofs.YtfmkpcgpkdnioaaGreatDoor.AE
open Go.AE
theorem xfine:XFine X where
 mono f g h:=by
  unfold X at h
  split at h
  all_goals first
   | (cases h;exact fun c d hc aS h=>gcall_mono hc (Nat.le_refl _))
   | (cases h;exact fun c d hc aS h x hx=>hx)
   | cases h
 cont f g h:=by
  unfold X at h
  split at h
  all_goals first
   | (cases h;exact fun c hc aS h x hx=>gcall_cont hc hx)
   | (cases h;exact fun c hc aS h x hx=>⟨0,hx⟩)
   | cases h
noncomputable def Wd:AE.Call:=W T.get X
theorem Wd_fn {f:FuncId} {first args cap:List AVal} {h:List ABox} {fn:AFunc} (h1:X f = none) (h2:T.get f = some fn) :
  Wd (.fn f first cap) args h = endR fn.results h (execW h.length Wd fn.code ⟨(first ++ args ++ cap).map AVal.dim ++ List.replicate (fn.ntmps - ((first ++ args ++ cap).map AVal.dim).length) (.tup []),h,false⟩):=W_go xfine h1 h2
theorem wrap_id {n:Int} (h1:-9223372036854775808 ≤ n) (h2:n ≤ 9223372036854775807):IntKind.i64.wrap n = n:=by
 rw [IntKind.wrap_i64]
 omega
theorem wrap_succ {n:Nat} (h:n < 9223372036854775807):IntKind.i64.wrap ((n:Int) + 1) = ((n + 1:Nat):Int):=by
 rw [wrap_id (by omega) (by omega)]
 rfl
abbrev Str:=List UInt8
def letter (c:UInt8):Bool:=ile 97 (c.toNat:Int) && ile (c.toNat:Int) 122
def digit (c:UInt8):Bool:=ile 48 (c.toNat:Int) && ile (c.toNat:Int) 57
def lettersFrom:Nat→Str→Bool
 | _,[]=>true
 | i,c :: s=>bif !letter c && (i == 0 || !digit c) then false else lettersFrom (i + 1) s
def vName (s:Str):Bool:=decide (1 ≤ s.length) && decide (s.length ≤ 16) && lettersFrom 0 s
theorem vName_ok (s:Str) (h:List ABox):Wd (.fn 80 [] []) [.str s] h = some (.ret (.bool (vName s)),h,false):=by
 have loop:∀k st,(∃tt i,st = ⟨tt,h,false⟩∧tt.length = 50∧lkp tt 0 = .str s∧lkp tt 15 = .int .i64 (s.length:Nat)∧lkp tt 16 = .int .i64 (i:Nat)∧i + k = s.length∧lettersFrom i (s.drop i) = lettersFrom 0 s∧s.length ≤ 16)→
   ∃x st',execW h.length Wd (.loop l80_0) st = some (x,st')∧((x = .exit 0∧lettersFrom 0 s = true∧∃tt,st' = ⟨tt,h,false⟩∧tt.length = 50)∨(x = .ret∧lettersFrom 0 s = false∧∃tt,st' = ⟨tt,h,false⟩∧tt.length = 50∧lkp tt 2 = .bool false)):=by
  refine loop_rule _ (fun x st'=>(x = .exit 0∧lettersFrom 0 s = true∧∃tt,st' = ⟨tt,h,false⟩∧tt.length = 50)∨(x = .ret∧lettersFrom 0 s = false∧∃tt,st' = ⟨tt,h,false⟩∧tt.length = 50∧lkp tt 2 = .bool false)) ?_
  rintro k st ⟨tt,i,rfl,ht,e0,e15,e16,hik,hR,hl⟩
  generalize he:execW h.length Wd l80_0 _ = r
  rcases Nat.lt_or_ge i s.length with hi | hi
  ·have c1:ilt (i:Int) (s.length:Int) = true:=by rw [ilt_eq];simp;omega
   have hx:ixSV (.str s) (.int .i64 (i:Nat)) = some (.int .u8 (s[i].toNat:Nat)):=ixSV_get (List.getElem?_eq_getElem hi)
   have w:=wrap_succ (n:=i) (by omega)
   rw [List.drop_eq_getElem_cons hi,lettersFrom] at hR
   simp only [letter,digit] at hR
   have hz:((i:Int) == 0) = (i == 0):=by rw [Bool.eq_iff_iff];simp
   simp only [l80_0,sT.1,sC.1,noApp,lookV,Nat.testBit,simprocAttr,-Int.reduceNatCast',ht,e0,e15,e16,c1,hx,w,hz] at he
   cases hb:(!(ile 97 (s[i].toNat:Int) && ile (s[i].toNat:Int) 122) && (i == 0 || !(ile 48 (s[i].toNat:Int) && ile (s[i].toNat:Int) 57))) with
   | true=>
    rw [hb] at hR
    simp only [hb,sT.1,sC.1,noApp,lookV,Nat.testBit,simprocAttr,-Int.reduceNatCast',ht] at he
    subst he
    refine .inr ⟨_,_,rfl,by simp,.inr ⟨rfl,by simpa using hR.symm,_,rfl,by simp only [length_up,ht],?_⟩⟩
    simp only [sT.1,sC.1,noApp,lookV,Nat.testBit,simprocAttr,-Int.reduceNatCast',ht]
   | false=>
    rw [hb] at hR
    simp only [hb,sT.1,sC.1,noApp,lookV,Nat.testBit,simprocAttr,-Int.reduceNatCast',ht,e16,w] at he
    subst he
    refine .inl ⟨_,k - 1,rfl,by omega,_,i + 1,rfl,by simp only [length_up,ht],?_,?_,?_,by omega,by simpa using hR,hl⟩
    ·simp only [sT.1,sC.1,noApp,lookV,Nat.testBit,simprocAttr,-Int.reduceNatCast',ht,e0]
    ·simp only [sT.1,sC.1,noApp,lookV,Nat.testBit,simprocAttr,-Int.reduceNatCast',ht,e15]
    ·simp only [sT.1,sC.1,noApp,lookV,Nat.testBit,simprocAttr,-Int.reduceNatCast',ht]
  ·have c1:ilt (i:Int) (s.length:Int) = false:=by rw [ilt_eq];simp;omega
   simp only [l80_0,sT.1,sC.1,noApp,lookV,Nat.testBit,simprocAttr,-Int.reduceNatCast',ht,e0,e15,e16,c1] at he
   subst he
   rw [List.drop_eq_nil_of_le hi,lettersFrom] at hR
   exact .inr ⟨_,_,rfl,by simp,.inl ⟨rfl,hR.symm,_,rfl,by simp only [length_up,ht]⟩⟩
 rw [Wd_fn rfl (show T.get 80 = some c80 by kernel_rfl)]
 by_cases g1:1 ≤ s.length
 ·have d1:ilt (s.length:Int) 1 = false:=by rw [ilt_eq];simp;omega
  by_cases g2:s.length ≤ 16
  ·have d2:ilt 16 (s.length:Int) = false:=by rw [ilt_eq];simp;omega
   simp only [c80,sT.1,sC.1,noApp,lookV,Nat.testBit,simprocAttr,-Int.reduceNatCast',d1,d2]
   generalize hr:execW h.length Wd (.loop l80_0) _ = r
   obtain ⟨x,st',rfl,hq⟩:=known hr (loop s.length _ ⟨_,0,rfl,by simp only [sT.1,sC.1,noApp,lookV,Nat.testBit,simprocAttr,-Int.reduceNatCast'],by simp only [sT.1,sC.1,noApp,lookV,Nat.testBit,simprocAttr,-Int.reduceNatCast'],by simp only [sT.1,sC.1,noApp,lookV,Nat.testBit,simprocAttr,-Int.reduceNatCast'],by simp only [sT.1,sC.1,noApp,lookV,Nat.testBit,simprocAttr,-Int.reduceNatCast',Int.natCast_zero],by omega,rfl,g2⟩)
   rcases hq with ⟨rfl,hv,tt,rfl,ht⟩ | ⟨rfl,hv,tt,rfl,ht,e2⟩
   ·simp only [sT.1,sC.1,noApp,lookV,Nat.testBit,simprocAttr,-Int.reduceNatCast',ht]
    simp [vName,g1,g2,hv]
   ·simp only [sT.1,sC.1,noApp,lookV,Nat.testBit,simprocAttr,-Int.reduceNatCast',ht,e2]
    simp [vName,g1,g2,hv]
  ·have d2:ilt 16 (s.length:Int) = true:=by rw [ilt_eq];simp;omega
   simp only [c80,sT.1,sC.1,noApp,lookV,Nat.testBit,simprocAttr,-Int.reduceNatCast',d1,d2]
   simp [vName,g2]
 ·have d1:ilt (s.length:Int) 1 = true:=by rw [ilt_eq];simp;omega
  simp only [c80,sT.1,sC.1,noApp,lookV,Nat.testBit,simprocAttr,-Int.reduceNatCast',d1]
  simp [vName,g1]
def wordsV:List AVal:=g0
def wordS:AVal→Str
 | .str s=>s
 | _=>[]
def words:List Str:=g0.map wordS
theorem words_eq:g0 = words.map AVal.str:=by kernel_rfl
theorem words_len:words.length = 33:=by kernel_rfl
def reserved (s:Str):Bool:=words.any (· == s)
theorem reserved_ok (s:Str) (h:List ABox):Wd (.fn 81 [] []) [.str s] h = some (.ret (.bool (reserved s)),h,false):=by
 have loop:∀k st,(∃tt i,st = ⟨tt,h,false⟩∧tt.length = 13∧lkp tt 0 = .str s∧lkp tt 5 = .agg g0∧lkp tt 6 = .int .i64 (i:Nat)∧i + k = 33∧(words.drop i).any (· == s) = reserved s)→
   ∃x st',execW h.length Wd (.loop l81_0) st = some (x,st')∧((x = .exit 0∧reserved s = false∧∃tt,st' = ⟨tt,h,false⟩∧tt.length = 13)∨(x = .ret∧reserved s = true∧∃tt,st' = ⟨tt,h,false⟩∧tt.length = 13∧lkp tt 2 = .bool true)):=by
  refine loop_rule _ (fun x st'=>(x = .exit 0∧reserved s = false∧∃tt,st' = ⟨tt,h,false⟩∧tt.length = 13)∨(x = .ret∧reserved s = true∧∃tt,st' = ⟨tt,h,false⟩∧tt.length = 13∧lkp tt 2 = .bool true)) ?_
  rintro k st ⟨tt,i,rfl,ht,e0,e5,e6,hik,hR⟩
  generalize he:execW h.length Wd l81_0 _ = r
  have hlen:=words_len
  rcases Nat.lt_or_ge i 33 with hi | hi
  ·have c1:ilt (i:Int) 33 = true:=by rw [ilt_eq];simp;omega
   have hx:ixAV 33 none (.agg g0) (.int .i64 (i:Nat)) = some (.str (words[i]'(by omega))):=by
    rw [ixAV_get (v:=.str (words[i]'(by omega))) hi (by rw [words_eq,List.getElem?_map,List.getElem?_eq_getElem (by omega)];rfl)]
    rfl
   have w:=wrap_succ (n:=i) (by omega)
   rw [List.drop_eq_getElem_cons (by omega),List.any_cons] at hR
   cases hb:((words[i]'(by omega)) == s) with
   | true=>
    rw [hb] at hR
    simp only [l81_0,sT.1,sC.1,noApp,lookV,Nat.testBit,simprocAttr,-Int.reduceNatCast',ht,e0,e5,e6,c1,hx,hb] at he
    subst he
    refine .inr ⟨_,_,rfl,by simp,.inr ⟨rfl,by simpa using hR.symm,_,rfl,by simp only [length_up,ht],?_⟩⟩
    simp only [sT.1,sC.1,noApp,lookV,Nat.testBit,simprocAttr,-Int.reduceNatCast',ht]
   | false=>
    rw [hb] at hR
    simp only [l81_0,sT.1,sC.1,noApp,lookV,Nat.testBit,simprocAttr,-Int.reduceNatCast',ht,e0,e5,e6,c1,hx,hb,w] at he
    subst he
    refine .inl ⟨_,k - 1,rfl,by omega,_,i + 1,rfl,by simp only [length_up,ht],?_,?_,?_,by omega,by simpa using hR⟩
    ·simp only [sT.1,sC.1,noApp,lookV,Nat.testBit,simprocAttr,-Int.reduceNatCast',ht,e0]
    ·simp only [sT.1,sC.1,noApp,lookV,Nat.testBit,simprocAttr,-Int.reduceNatCast',ht,e5]
    ·simp only [sT.1,sC.1,noApp,lookV,Nat.testBit,simprocAttr,-Int.reduceNatCast',ht]
  ·have c1:ilt (i:Int) 33 = false:=by rw [ilt_eq];simp;omega
   simp only [l81_0,sT.1,sC.1,noApp,lookV,Nat.testBit,simprocAttr,-Int.reduceNatCast',ht,e0,e5,e6,c1] at he
   subst he
   rw [List.drop_eq_nil_of_le (by omega),List.any_nil] at hR
   exact .inr ⟨_,_,rfl,by simp,.inl ⟨rfl,hR.symm,_,rfl,by simp only [length_up,ht]⟩⟩
 have hg:cut g0 0 (some 33) = some (.agg g0):=by kernel_rfl
 rw [Wd_fn rfl (show T.get 81 = some c81 by kernel_rfl)]
 simp only [c81,sT.1,sC.1,noApp,lookV,Nat.testBit,simprocAttr,-Int.reduceNatCast',hg]
 generalize hr:execW h.length Wd (.loop l81_0) _ = r
 obtain ⟨x,st',rfl,hq⟩:=known hr (loop 33 _ ⟨_,0,rfl,by simp only [sT.1,sC.1,noApp,lookV,Nat.testBit,simprocAttr,-Int.reduceNatCast'],by simp only [sT.1,sC.1,noApp,lookV,Nat.testBit,simprocAttr,-Int.reduceNatCast'],by simp only [sT.1,sC.1,noApp,lookV,Nat.testBit,simprocAttr,-Int.reduceNatCast'],by simp only [sT.1,sC.1,noApp,lookV,Nat.testBit,simprocAttr,-Int.reduceNatCast',Int.natCast_zero],by omega,rfl⟩)
 rcases hq with ⟨rfl,hv,tt,rfl,ht⟩ | ⟨rfl,hv,tt,rfl,ht,e2⟩
 ·simp only [sT.1,sC.1,noApp,lookV,Nat.testBit,simprocAttr,-Int.reduceNatCast',ht,hv]
 ·simp only [sT.1,sC.1,noApp,lookV,Nat.testBit,simprocAttr,-Int.reduceNatCast',ht,e2,hv]
def isName (s:Str):Bool:=vName s && !reserved s
theorem isName_ok (s:Str) (h:List ABox):Wd (.fn 51 [] []) [.str s] h = some (.ret (.bool (isName s)),h,false):=by
 rw [Wd_fn rfl (show T.get 51 = some c51 by kernel_rfl)]
 cases hv:vName s <;> cases hr:reserved s <;> (simp only [c51,sT.1,sC.1,noApp,lookV,Nat.testBit,simprocAttr,-Int.reduceNatCast',vName_ok,reserved_ok,hv,hr];simp [isName,hv,hr])
end Go.Proofs.YtfmkpcgpkdnioaaGreatDoor.AE
