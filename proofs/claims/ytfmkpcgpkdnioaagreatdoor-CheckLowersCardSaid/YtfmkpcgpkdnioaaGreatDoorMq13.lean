/- A part of the proof: the abstract executor and what goes through it (part 13). No condition. -/
import Derived.Test.YtfmkpcgpkdnioaaGreatDoorMq12
import Derived.Test.YtfmkpcgpkdnioaaGreatDoorMq2
set_option maxRecDepth 100000
namespace Go.Proofs.YtfmkpcgpkdnioaaGreatDoor.AE
open Go.AE
def resTab:List (Nat×Str):=[(5,[97,116,111,109,105,99]),(6,[99,111,117,112,108,101,100]),(7,[114,111,111,116]),(8,[105,110]),(9,[111,117,116]),(10,[118,97,114]),(11,[116,97]),(12,[101,109,105,116]),(13,[105,110,116]),(14,[98,111,111,108]),(15,[115,121,109]),(16,[101,120,116]),(17,[99,111,110]),(18,[112,97,114,116]),(19,[108,105,110,107]),(20,[114,117,108,101]),(21,[97,100,100]),(22,[100,114,111,112]),(23,[116,105,101]),(24,[99,117,116]),(25,[105,102]),(26,[116,104,101,110]),(27,[101,108,115,101]),(28,[97,110,100]),(29,[111,114]),(30,[110,111,116]),(31,[116,114,117,101]),(32,[102,97,108,115,101]),(33,[99,111,117,110,116]),(34,[104,97,115]),(35,[115,117,109]),(36,[108,101,97,115,116]),(37,[101,108,97,112,115,101,100])]
def chain:List (Nat×Str)→ACode
 | []=>.skip
 | [x]=>.reg [ao x.1 (.bin .eql (.t 3) (.c (.str x.2))),ao 4 (.asg (.t x.1))]
 | x :: y :: r=>.seq (.reg [ao x.1 (.bin .eql (.t 3) (.c (.str x.2))),ao 4 (.asg (.t x.1))]) (.cond (.t 4) .skip (chain (y :: r)))
def resCode:ACode:=.seq (.reg [ao 2 (.asg (.c (.bool false)))]) (.seq (.seq (.reg [ao 3 (.mov (.t 0))]) (.block 0 (.seq (chain resTab) (.cond (.t 4) (.seq (.reg [ao 2 (.asg (.c (.bool true)))]) .ret) .skip)))) (.seq (.reg [ao 2 (.asg (.c (.bool false)))]) .ret))
theorem res_code:(⟨38,[.tmp 2],resCode⟩ :AFunc) = c38:=by kernel_rfl
theorem chain_ok {b:Nat} {h:List ABox} {s:Str}:∀(l:List (Nat×Str)),l ≠ []→(∀x ∈ l,5 ≤ x.1∧x.1 < 38)→∀tt:List AVal,tt.length = 38→lkp tt 3 = .str s→
  ∃tt',execW b Wd (chain l) ⟨tt,h,false⟩ = some (.nor,⟨tt',h,false⟩)∧tt'.length = 38∧lkp tt' 4 = .bool (l.any fun x=>s == x.2)
 | [],h0,_,_,_,_=>absurd rfl h0
 | [(k,w)],_,hk,tt,ht,e3=>by
  obtain ⟨k5,k38⟩:=hk (k,w) (by simp)
  have a1:¬ (k = 3):=by simp only at k5;omega
  have a2:¬ (k = 4):=by simp only at k5;omega
  have a3:k < 38:=k38
  simp only [chain,sT.1,sC.1,noApp,lookV,Nat.testBit,simprocAttr,-Int.reduceNatCast',ht,e3,a1,a2,a3]
  refine ⟨_,rfl,by simp only [length_up,ht],?_⟩
  simp only [sT.1,sC.1,noApp,lookV,Nat.testBit,simprocAttr,-Int.reduceNatCast',ht,List.any_cons,List.any_nil]
 | (k,w) :: y :: r,_,hk,tt,ht,e3=>by
  obtain ⟨k5,k38⟩:=hk (k,w) (by simp)
  have a1:¬ (k = 3):=by simp only at k5;omega
  have a2:¬ (k = 4):=by simp only at k5;omega
  have a3:k < 38:=k38
  generalize he:execW b Wd _ _ = R
  cases hb:(s == w) with
  | true=>
   simp only [chain,sT.1,sC.1,noApp,lookV,Nat.testBit,simprocAttr,-Int.reduceNatCast',ht,e3,a1,a2,a3,hb] at he
   subst he
   refine ⟨_,rfl,by simp only [length_up,ht],?_⟩
   simp only [sT.1,sC.1,noApp,lookV,Nat.testBit,simprocAttr,-Int.reduceNatCast',ht,List.any_cons,hb]
  | false=>
   obtain ⟨tt',g1,g2,g3⟩:=chain_ok (b:=b) (h:=h) (s:=s) (y :: r) (by simp) (fun x hx=>hk x (List.mem_cons_of_mem _ hx)) (up (up tt k (.bool false)) 4 (.bool false)) (by simp only [length_up,ht]) (by simp only [sT.1,sC.1,noApp,lookV,Nat.testBit,simprocAttr,-Int.reduceNatCast',ht,e3,a1])
   simp only [chain,sT.1,sC.1,noApp,lookV,Nat.testBit,simprocAttr,-Int.reduceNatCast',ht,e3,a1,a2,a3,hb,g1] at he
   subst he
   refine ⟨tt',rfl,g2,?_⟩
   rw [g3,List.any_cons (a:=(k,w)),hb,Bool.false_or]
theorem res_mem:(resTab.all fun x=>words.contains x.2) = true:=by kernel_rfl
theorem mem_res:(words.all fun w=>resTab.any fun x=>w == x.2) = true:=by kernel_rfl
theorem res_same (s:Str):(resTab.any fun x=>s == x.2) = reserved s:=by
 rw [Bool.eq_iff_iff,reserved,List.any_eq_true,List.any_eq_true]
 constructor
 ·rintro ⟨x,hx,h⟩
  have:=List.all_eq_true.1 res_mem x hx
  refine ⟨x.2,by simpa using this,?_⟩
  rw [beq_iff_eq] at h
  rw [h,beq_self_eq_true]
 ·rintro ⟨w,hw,h⟩
  have:=List.all_eq_true.1 mem_res w hw
  rw [List.any_eq_true] at this
  obtain ⟨x,hx,h2⟩:=this
  rw [beq_iff_eq] at h
  subst h
  exact ⟨x,hx,h2⟩
theorem res_idx:∀x ∈ resTab,5 ≤ x.1∧x.1 < 38:=by
 have:(resTab.all fun x=>decide (5 ≤ x.1) && decide (x.1 < 38)) = true:=by kernel_rfl
 intro x hx
 simpa using List.all_eq_true.1 this x hx
theorem r_reserved (s:Str) (h:List ABox):Wd (.fn 38 [] []) [.str s] h = some (.ret (.bool (reserved s)),h,false):=by
 rw [Wd_fn rfl (show T.get 38 = some c38 by kernel_rfl),←res_code]
 generalize hR:endR _ h _ = R
 simp only [resCode,sT.1,sC.1,noApp,lookV,Nat.testBit,simprocAttr,-Int.reduceNatCast'] at hR
 generalize hr:execW h.length Wd (chain resTab) _ = r at hR
 obtain ⟨tt,rfl,ht,e4⟩ :∃tt,r = some (.nor,⟨tt,h,false⟩)∧tt.length = 38∧lkp tt 4 = .bool (resTab.any fun x=>s == x.2):=by
  rw [←hr]
  refine chain_ok resTab (by simp [resTab]) res_idx _ ?_ ?_
  all_goals simp only [sT.1,sC.1,noApp,lookV,Nat.testBit,simprocAttr,-Int.reduceNatCast']
 rw [res_same] at e4
 rw [←hR]
 cases hb:reserved s with
 | true=>
  rw [hb] at e4
  simp only [sT.1,sC.1,noApp,lookV,Nat.testBit,simprocAttr,-Int.reduceNatCast',ht,e4]
 | false=>
  rw [hb] at e4
  simp only [sT.1,sC.1,noApp,lookV,Nat.testBit,simprocAttr,-Int.reduceNatCast',ht,e4]
theorem r_name02 (s:Str) (h:List ABox):Wd (.fn 20 [] []) [.str s] h = some (.ret (.bool (vName s)),h,false):=by
 have loop:∀k st,(∃tt i,st = ⟨tt,h,false⟩∧tt.length = 50∧lkp tt 0 = .str s∧lkp tt 3 = .int .i64 (i:Nat)∧i + k = s.length∧lettersFrom i (s.drop i) = lettersFrom 0 s∧s.length ≤ 16)→
   ∃x st',execW h.length Wd (.loop l20_0) st = some (x,st')∧((x = .exit 0∧lettersFrom 0 s = true∧∃tt,st' = ⟨tt,h,false⟩∧tt.length = 50)∨(x = .ret∧lettersFrom 0 s = false∧∃tt,st' = ⟨tt,h,false⟩∧tt.length = 50∧lkp tt 2 = .bool false)):=by
  refine loop_rule _ (fun x st'=>(x = .exit 0∧lettersFrom 0 s = true∧∃tt,st' = ⟨tt,h,false⟩∧tt.length = 50)∨(x = .ret∧lettersFrom 0 s = false∧∃tt,st' = ⟨tt,h,false⟩∧tt.length = 50∧lkp tt 2 = .bool false)) ?_
  rintro k st ⟨tt,i,rfl,ht,e0,e3,hik,hR,hl⟩
  generalize he:execW h.length Wd l20_0 _ = r
  rcases Nat.lt_or_ge i s.length with hi | hi
  ·have c1:ilt (i:Int) (s.length:Int) = true:=by rw [ilt_eq];simp;omega
   have hx:ixSV (.str s) (.int .i64 (i:Nat)) = some (.int .u8 (s[i].toNat:Nat)):=ixSV_get (List.getElem?_eq_getElem hi)
   have w:=wrap_succ (n:=i) (by omega)
   rw [List.drop_eq_getElem_cons hi,lettersFrom] at hR
   have hz:((i:Int) == 0) = (i == 0):=by rw [Bool.eq_iff_iff];simp
   cases hlt:letter s[i] with
   | true=>
    have q:(ile 97 (s[i].toNat:Int) && ile (s[i].toNat:Int) 122) = true:=hlt
    simp only [Bool.and_eq_true] at q
    cases hd:ile 48 (s[i].toNat:Int) <;> cases hd2:ile (s[i].toNat:Int) 57
    all_goals
     simp only [l20_0,sT.1,sC.1,noApp,lookV,Nat.testBit,simprocAttr,-Int.reduceNatCast',ht,e0,e3,c1,hx,w,hz,q.1,q.2,hd,hd2] at he
     subst he
     refine .inl ⟨_,k - 1,rfl,by omega,_,i + 1,rfl,by simp only [length_up,ht],?_,?_,by omega,by rw [hlt] at hR;simpa using hR,hl⟩
     ·simp only [sT.1,sC.1,noApp,lookV,Nat.testBit,simprocAttr,-Int.reduceNatCast',ht,e0]
     ·simp only [sT.1,sC.1,noApp,lookV,Nat.testBit,simprocAttr,-Int.reduceNatCast',ht]
   | false=>
    have q:(ile 97 (s[i].toNat:Int) && ile (s[i].toNat:Int) 122) = false:=hlt
    have hq:∀a b,ile 97 (s[i].toNat:Int) = a→ile (s[i].toNat:Int) 122 = b→(a && b) = false:=fun a b ha hb=>by rw [←ha,←hb];exact q
    cases hi0:(i == 0) with
    | true=>
     rw [hlt,hi0] at hR
     cases ha:ile 97 (s[i].toNat:Int) <;> cases hb:ile (s[i].toNat:Int) 122 <;> cases hd:ile 48 (s[i].toNat:Int) <;> cases hd2:ile (s[i].toNat:Int) 57
     all_goals first | (have:=hq _ _ ha hb;cases this;done) | skip
     all_goals
      simp only [l20_0,sT.1,sC.1,noApp,lookV,Nat.testBit,simprocAttr,-Int.reduceNatCast',ht,e0,e3,c1,hx,w,hz,ha,hb,hd,hd2,hi0] at he
      subst he
      refine .inr ⟨_,_,rfl,by simp,.inr ⟨rfl,by simpa using hR.symm,_,rfl,by simp only [length_up,ht],?_⟩⟩
      simp only [sT.1,sC.1,noApp,lookV,Nat.testBit,simprocAttr,-Int.reduceNatCast',ht]
    | false=>
     rw [hlt,hi0] at hR
     simp only [Bool.not_false,Bool.true_and,Bool.false_or,digit] at hR
     cases ha:ile 97 (s[i].toNat:Int) <;> cases hb:ile (s[i].toNat:Int) 122 <;> cases hd:ile 48 (s[i].toNat:Int) <;> cases hd2:ile (s[i].toNat:Int) 57
     all_goals first | (have:=hq _ _ ha hb;cases this;done) | skip
     all_goals rw [hd,hd2] at hR
     all_goals simp only [l20_0,sT.1,sC.1,noApp,lookV,Nat.testBit,simprocAttr,-Int.reduceNatCast',ht,e0,e3,c1,hx,w,hz,ha,hb,hd,hd2,hi0] at he
     all_goals subst he
     all_goals first
      | (refine .inr ⟨_,_,rfl,by simp,.inr ⟨rfl,by simpa using hR.symm,_,rfl,by simp only [length_up,ht],?_⟩⟩
         simp only [sT.1,sC.1,noApp,lookV,Nat.testBit,simprocAttr,-Int.reduceNatCast',ht]
         done)
      | (refine .inl ⟨_,k - 1,rfl,by omega,_,i + 1,rfl,by simp only [length_up,ht],?_,?_,by omega,by simpa using hR,hl⟩
         ·simp only [sT.1,sC.1,noApp,lookV,Nat.testBit,simprocAttr,-Int.reduceNatCast',ht,e0]
         ·simp only [sT.1,sC.1,noApp,lookV,Nat.testBit,simprocAttr,-Int.reduceNatCast',ht])
  ·have c1:ilt (i:Int) (s.length:Int) = false:=by rw [ilt_eq];simp;omega
   simp only [l20_0,sT.1,sC.1,noApp,lookV,Nat.testBit,simprocAttr,-Int.reduceNatCast',ht,e0,e3,c1] at he
   subst he
   rw [List.drop_eq_nil_of_le hi,lettersFrom] at hR
   exact .inr ⟨_,_,rfl,by simp,.inl ⟨rfl,hR.symm,_,rfl,by simp only [length_up,ht]⟩⟩
 rw [Wd_fn rfl (show T.get 20 = some c20 by kernel_rfl)]
 by_cases g1:1 ≤ s.length
 ·have d1:ilt (s.length:Int) 1 = false:=by rw [ilt_eq];simp;omega
  by_cases g2:s.length ≤ 16
  ·have d2:ilt 16 (s.length:Int) = false:=by rw [ilt_eq];simp;omega
   simp only [c20,sT.1,sC.1,noApp,lookV,Nat.testBit,simprocAttr,-Int.reduceNatCast',d1,d2]
   generalize hr:execW h.length Wd (.loop l20_0) _ = r
   obtain ⟨x,st',rfl,hq⟩:=known hr (loop s.length _ ⟨_,0,rfl,by simp only [sT.1,sC.1,noApp,lookV,Nat.testBit,simprocAttr,-Int.reduceNatCast'],by simp only [sT.1,sC.1,noApp,lookV,Nat.testBit,simprocAttr,-Int.reduceNatCast'],by simp only [sT.1,sC.1,noApp,lookV,Nat.testBit,simprocAttr,-Int.reduceNatCast',Int.natCast_zero],by omega,rfl,g2⟩)
   rcases hq with ⟨rfl,hv,tt,rfl,ht⟩ | ⟨rfl,hv,tt,rfl,ht,e2⟩
   ·simp only [sT.1,sC.1,noApp,lookV,Nat.testBit,simprocAttr,-Int.reduceNatCast',ht]
    simp [vName,g1,g2,hv]
   ·simp only [sT.1,sC.1,noApp,lookV,Nat.testBit,simprocAttr,-Int.reduceNatCast',ht,e2]
    simp [vName,g1,g2,hv]
  ·have d2:ilt 16 (s.length:Int) = true:=by rw [ilt_eq];simp;omega
   simp only [c20,sT.1,sC.1,noApp,lookV,Nat.testBit,simprocAttr,-Int.reduceNatCast',d1,d2]
   simp [vName,g2]
 ·have d1:ilt (s.length:Int) 1 = true:=by rw [ilt_eq];simp;omega
  simp only [c20,sT.1,sC.1,noApp,lookV,Nat.testBit,simprocAttr,-Int.reduceNatCast',d1]
  simp [vName,g1]
theorem r_name09 (s:Str) (h:List ABox):Wd (.fn 21 [] []) [.str s] h = some (.ret (.bool (isName s)),h,false):=by
 rw [Wd_fn rfl (show T.get 21 = some c21 by kernel_rfl)]
 cases hv:vName s <;> cases hr:reserved s <;> (simp only [c21,sT.1,sC.1,noApp,lookV,Nat.testBit,simprocAttr,-Int.reduceNatCast',r_name02,r_reserved,hv,hr];simp [isName,hv,hr])
end Go.Proofs.YtfmkpcgpkdnioaaGreatDoor.AE
