/- A part of the proof: the abstract executor and what goes through it (part 14). No condition. -/
import Derived.Test.YtkmlapholimbcaaGreatDoorMp13
import Derived.Test.YtkmlapholimbcaaGreatDoorMp7
import Derived.Test.YtkmlapholimbcaaGreatDoorMp2
import Derived.Test.YtkmlapholimbcaaGreatDoorMp12
set_option maxRecDepth 100000
namespace Go.Proofs.YtkmlapholimbcaaGreatDoor.AE
open Go.AE
structure qmN (m:qy):Prop where
 ok:qbB m
 kind:m.coupled = true→qmO m
 ta:m.coupled = false→m.ta.length = 1
theorem qmN.txt {m:qy} (hm:qmN m) (h:List qq):Wd (.fn 33 [] []) [m.enc] h = some (.ret (.str (qa4 (qbE m))),h,false):=by
 cases hc:m.coupled with
 | false=>exact qrG hm.ok hc (hm.ta hc) h
 | true=>exact qrP hm.ok hc (hm.kind hc) h
set_option maxHeartbeats 8000000 in
theorem qml {p:qaP} (hp:qe2 p) (hd:∀m ∈ p.models,qmN m) (h:List qq):Wd (.fn 16 [] []) [p.enc] h = some (.ret (.str (qa4 (qb3 p))),h,false):=by
 have hN:=qkj hp
 have hr:=hp.root
 have hl:=hp.models.1
 clear hp
 obtain ⟨l,r⟩:=p
 simp only at hr hl hd
 rw [qb3,qb2] at *
 simp only at hN ⊢
 have hR:qa4 (l.map qbE).flatten = (l.map fun m=>qa4 (qbE m)).flatten:=by
  clear hN hd hl
  induction l with
  | nil=>rfl
  | cons r l ih=>rw [List.map_cons,List.flatten_cons,qbb,ih,List.map_cons,List.flatten_cons]
 rw [qbb,hR,qa5,qqH] at hN ⊢
 clear hR
 generalize hg:(fun m=>qa4 (qbE m)) = g at *
 have hgx:∀m,g m = qa4 (qbE m):=fun m=>by rw [←hg]
 simp only [List.length_append,List.length_cons,List.length_nil] at hN
 rw [qaP.enc,qaP.cs]
 simp only
 have loop:∀q st,(∃tt G i,st = ⟨tt,G,false⟩∧G[h.length]? = some (.cells [.lst (l.map qy.enc) .no,.str r])∧h.length < G.length∧G.take h.length = h∧tt.length = 40∧lkp tt 1 = .ptr h.length 0∧lkp tt 3 = .str ([] ++ ((l.take i).map g).flatten)∧lkp tt 4 = .int .i64 (i:Nat)∧i + q = l.length)→
   ∃x st',qx h.length Wd (.loop qiW) st = some (x,st')∧(∃tt G,st' = ⟨tt,G,false⟩∧G[h.length]? = some (.cells [.lst (l.map qy.enc) .no,.str r])∧G.take h.length = h∧tt.length = 40∧lkp tt 1 = .ptr h.length 0∧lkp tt 3 = .str ([] ++ (l.map g).flatten)∧x = .exit 0):=by
  refine qD _ (fun x st'=>∃tt G,st' = ⟨tt,G,false⟩∧G[h.length]? = some (.cells [.lst (l.map qy.enc) .no,.str r])∧G.take h.length = h∧tt.length = 40∧lkp tt 1 = .ptr h.length 0∧lkp tt 3 = .str ([] ++ (l.map g).flatten)∧x = .exit 0) ?_
  rintro q st ⟨tt,G,i,rfl,hbx,hlt,htk,ht,e1,e3,e4,hiq⟩
  generalize he:qx h.length Wd qiW _ = R
  have hbl:Nat.ble h.length G.length = true:=qas (by omega)
  rcases Nat.lt_or_ge i l.length with hi | hi
  ·have c1:ilt (i:Int) (l.length:Int) = true:=qcK (by omega)
   have w:=qE (n:=i) (by omega)
   have hm:=hd _ (List.getElem_mem hi)
   have hT:=fun h=>hm.txt h
   have hta:=hm.ta
   have hk:(l.map qy.enc)[i]? = some (qy.enc l[i]):=by rw [List.getElem?_map,List.getElem?_eq_getElem hi];rfl
   have hS:=qd0 (g:=g) hi []
   have hq1:=qhA l g (i + 1)
   have hSl:=congrArg List.length hS
   rw [List.nil_append] at hSl
   have hW:([] ++ ((l.take i).map g).flatten).length + (g l[i]).length ≤ qo:=by
    rw [←List.length_append,←hSl]
    unfold qo
    omega
   have nb:∀X:List qq,(G ++ X)[h.length]? = some (.cells [.lst (l.map qy.enc) .no,.str r]):=fun X=>by rw [List.getElem?_append_left hlt];exact hbx
   have nt:∀X:List qq,(G ++ X).take h.length = h:=fun X=>by rw [List.take_append_of_le_length (by omega)];exact htk
   clear hm hSl hq1
   rw [hgx] at hS hW
   generalize [] ++ ((l.take i).map g).flatten = W at *
   generalize l[i] = y at hT hk hS hta hW
   generalize qa4 (qbE y) = M at *
   obtain ⟨a1,cp,a3,a4,a5,ta,a7,a8,a9,a10,a11,a12,a13,a14⟩:=y
   rw [qy.enc,qy.cs] at hT hk
   simp only at hT hk hta
   have hx:qa3 14 (.lst (l.map qy.enc) .no) (.int .i64 (i:Nat)) = some (.iptr _ 0):=qu hk rfl
   simp only [qf.cells] at hx
   cases cp with
   | true=>
    simp only [qiW,sT.1,sC.1,sTA.1,sCA.1,qe,qj,qk,Src.isTmp,qg,Src.hangs,qn.isT,qi,qd,Nat.testBit,bne,simprocAttr,-Int.reduceNatCast',ht,e1,e3,e4,c1,w,hbx,hbl,hx,hT,hW,if_true,List.length_map] at he
    subst he
    refine .inl ⟨_,q - 1,rfl,by omega,_,_,i + 1,rfl,nb _,by simp;omega,nt _,by simp only [qh,ht],?_,?_,?_,by omega⟩
    ·simp only [sT.1,sC.1,sTA.1,sCA.1,qe,qj,qk,Src.isTmp,qg,Src.hangs,qn.isT,qi,qd,Nat.testBit,bne,simprocAttr,-Int.reduceNatCast',ht,e1]
    ·rw [hS];simp only [sT.1,sC.1,sTA.1,sCA.1,qe,qj,qk,Src.isTmp,qg,Src.hangs,qn.isT,qi,qd,Nat.testBit,bne,simprocAttr,-Int.reduceNatCast',ht]
    ·simp only [sT.1,sC.1,sTA.1,sCA.1,qe,qj,qk,Src.isTmp,qg,Src.hangs,qn.isT,qi,qd,Nat.testBit,bne,simprocAttr,-Int.reduceNatCast',ht,w]
   | false=>
    have t1:=hta rfl
    have z1:((ta.length:Int) == 0) = false:=by rw [beq_eq_false_iff_ne];omega
    simp only [qiW,sT.1,sC.1,sTA.1,sCA.1,qe,qj,qk,Src.isTmp,qg,Src.hangs,qn.isT,qi,qd,Nat.testBit,bne,simprocAttr,-Int.reduceNatCast',ht,e1,e3,e4,c1,w,hbx,hbl,hx,hT,hW,z1,if_true,List.length_map] at he
    subst he
    refine .inl ⟨_,q - 1,rfl,by omega,_,_,i + 1,rfl,nb _,by simp;omega,nt _,by simp only [qh,ht],?_,?_,?_,by omega⟩
    ·simp only [sT.1,sC.1,sTA.1,sCA.1,qe,qj,qk,Src.isTmp,qg,Src.hangs,qn.isT,qi,qd,Nat.testBit,bne,simprocAttr,-Int.reduceNatCast',ht,e1]
    ·rw [hS];simp only [sT.1,sC.1,sTA.1,sCA.1,qe,qj,qk,Src.isTmp,qg,Src.hangs,qn.isT,qi,qd,Nat.testBit,bne,simprocAttr,-Int.reduceNatCast',ht]
    ·simp only [sT.1,sC.1,sTA.1,sCA.1,qe,qj,qk,Src.isTmp,qg,Src.hangs,qn.isT,qi,qd,Nat.testBit,bne,simprocAttr,-Int.reduceNatCast',ht,w]
  ·have c1:ilt (i:Int) (l.length:Int) = false:=qcJ (by omega)
   rw [List.take_of_length_le hi] at e3
   simp only [qiW,sT.1,sC.1,sTA.1,sCA.1,qe,qj,qk,Src.isTmp,qg,Src.hangs,qn.isT,qi,qd,Nat.testBit,bne,simprocAttr,-Int.reduceNatCast',ht,e1,e3,e4,c1,hbx,List.length_map] at he
   subst he
   refine .inr ⟨_,_,rfl,by simp,_,G,rfl,hbx,htk,by simp only [qh,ht],?_,?_,rfl⟩
   all_goals simp only [sT.1,sC.1,sTA.1,sCA.1,qe,qj,qk,Src.isTmp,qg,Src.hangs,qn.isT,qi,qd,Nat.testBit,bne,simprocAttr,-Int.reduceNatCast',ht,e1,e3]
 generalize hw:Wd _ _ h = w
 rw [qt rfl (show T.get 16 = some c16 by kernel_rfl)] at hw
 simp only [c16,sT.1,sC.1,sTA.1,sCA.1,qe,qj,qk,Src.isTmp,qg,Src.hangs,qn.isT,qi,qd,Nat.testBit,bne,simprocAttr,-Int.reduceNatCast'] at hw
 generalize hr1:qx h.length Wd (.loop qiW) _ = R at hw
 obtain ⟨x,st',rfl,tt,G,rfl,hbx,htk,ht,e1,e3,rfl⟩:=qaT hr1 (loop l.length _ ⟨_,_,0,rfl,by rw [qbD];rfl,by simp,by rw [List.take_left],by simp only [sT.1,sC.1,sTA.1,sCA.1,qe,qj,qk,Src.isTmp,qg,Src.hangs,qn.isT,qi,qd,Nat.testBit,bne,simprocAttr,-Int.reduceNatCast'],by simp only [sT.1,sC.1,sTA.1,sCA.1,qe,qj,qk,Src.isTmp,qg,Src.hangs,qn.isT,qi,qd,Nat.testBit,bne,simprocAttr,-Int.reduceNatCast'],by simp only [sT.1,sC.1,sTA.1,sCA.1,qe,qj,qk,Src.isTmp,qg,Src.hangs,qn.isT,qi,qd,Nat.testBit,bne,simprocAttr,-Int.reduceNatCast',List.take_zero,List.map_nil,List.flatten_nil],by simp only [sT.1,sC.1,sTA.1,sCA.1,qe,qj,qk,Src.isTmp,qg,Src.hangs,qn.isT,qi,qd,Nat.testBit,bne,simprocAttr,-Int.reduceNatCast',Int.natCast_zero],by omega⟩)
 rw [List.nil_append] at e3
 generalize (l.map g).flatten = W at *
 have q1:∀k,k ≤ 100→W.length + k ≤ qo:=fun k hk=>by unfold qo;omega
 have q2:W.length + (r.length + 5) ≤ qo:=by unfold qo;omega
 have q4:W.length + 5 + r.length ≤ qo:=by unfold qo;omega
 have q5:W.length + (5 + r.length) ≤ qo:=by unfold qo;omega
 have q3:W.length + (r.length + 5) + 2 ≤ qo:=by unfold qo;omega
 simp only [sT.1,sC.1,sTA.1,sCA.1,qe,qj,qk,Src.isTmp,qg,Src.hangs,qn.isT,qi,qd,Nat.testBit,bne,simprocAttr,-Int.reduceNatCast',ht,e1,e3,hbx,q1,q2,q3,q4,q5,if_true,List.append_assoc,List.cons_append,List.nil_append] at hw
 subst hw
 refine (congrArg some (qac htk rfl)).trans ?_
 simp only [List.append_assoc,List.cons_append,List.nil_append]
end Go.Proofs.YtkmlapholimbcaaGreatDoor.AE
namespace Go.Proofs.YtkmlapholimbcaaGreatDoor.AE
open Go.AE
def qdM:List (Nat×Str):=[(5,[97,116,111,109,105,99]),(6,[99,111,117,112,108,101,100]),(7,[114,111,111,116]),(8,[105,110]),(9,[111,117,116]),(10,[118,97,114]),(11,[116,97]),(12,[101,109,105,116]),(13,[105,110,116]),(14,[98,111,111,108]),(15,[115,121,109]),(16,[101,120,116]),(17,[99,111,110]),(18,[112,97,114,116]),(19,[108,105,110,107]),(20,[114,117,108,101]),(21,[97,100,100]),(22,[100,114,111,112]),(23,[116,105,101]),(24,[99,117,116]),(25,[105,102]),(26,[116,104,101,110]),(27,[101,108,115,101]),(28,[97,110,100]),(29,[111,114]),(30,[110,111,116]),(31,[116,114,117,101]),(32,[102,97,108,115,101]),(33,[99,111,117,110,116]),(34,[104,97,115]),(35,[115,117,109]),(36,[108,101,97,115,116]),(37,[101,108,97,112,115,101,100])]
def qiv:List (Nat×Str)→qF
 | []=>.skip
 | [x]=>.reg [ao x.1 (.bin .eql (.t 3) (.c (.str x.2))),ao 4 (.asg (.t x.1))]
 | x :: y :: r=>.seq (.reg [ao x.1 (.bin .eql (.t 3) (.c (.str x.2))),ao 4 (.asg (.t x.1))]) (.cond (.t 4) .skip (qiv (y :: r)))
def qqG:qF:=.seq (.reg [ao 2 (.asg (.c (.bool false)))]) (.seq (.seq (.reg [ao 3 (.mov (.t 0))]) (.block 0 (.seq (qiv qdM) (.cond (.t 4) (.seq (.reg [ao 2 (.asg (.c (.bool true)))]) .ret) .skip)))) (.seq (.reg [ao 2 (.asg (.c (.bool false)))]) .ret))
theorem qt2:(⟨38,[.tmp 2],qqG⟩ :qw) = c39:=by kernel_rfl
theorem qjK {b:Nat} {h:List qq} {s:Str}:∀(l:List (Nat×Str)),l ≠ []→(∀x ∈ l,5 ≤ x.1∧x.1 < 38)→∀tt:List qf,tt.length = 38→lkp tt 3 = .str s→
  ∃tt',qx b Wd (qiv l) ⟨tt,h,false⟩ = some (.nor,⟨tt',h,false⟩)∧tt'.length = 38∧lkp tt' 4 = .bool (l.any fun x=>s == x.2)
 | [],h0,_,_,_,_=>absurd rfl h0
 | [(k,w)],_,hk,tt,ht,e3=>by
  obtain ⟨k5,k38⟩:=hk (k,w) (by simp)
  have a1:¬ (k = 3):=by simp only at k5;omega
  have a2:¬ (k = 4):=by simp only at k5;omega
  have a3:k < 38:=k38
  simp only [qiv,sT.1,sC.1,qe,qd,Nat.testBit,simprocAttr,-Int.reduceNatCast',ht,e3,a1,a2,a3]
  refine ⟨_,rfl,by simp only [qh,ht],?_⟩
  simp only [sT.1,sC.1,qe,qd,Nat.testBit,simprocAttr,-Int.reduceNatCast',ht,List.any_cons,List.any_nil]
 | (k,w) :: y :: r,_,hk,tt,ht,e3=>by
  obtain ⟨k5,k38⟩:=hk (k,w) (by simp)
  have a1:¬ (k = 3):=by simp only at k5;omega
  have a2:¬ (k = 4):=by simp only at k5;omega
  have a3:k < 38:=k38
  generalize he:qx b Wd _ _ = R
  cases hb:(s == w) with
  | true=>
   simp only [qiv,sT.1,sC.1,qe,qd,Nat.testBit,simprocAttr,-Int.reduceNatCast',ht,e3,a1,a2,a3,hb] at he
   subst he
   refine ⟨_,rfl,by simp only [qh,ht],?_⟩
   simp only [sT.1,sC.1,qe,qd,Nat.testBit,simprocAttr,-Int.reduceNatCast',ht,List.any_cons,hb]
  | false=>
   obtain ⟨tt',g1,g2,g3⟩:=qjK (b:=b) (h:=h) (s:=s) (y :: r) (by simp) (fun x hx=>hk x (List.mem_cons_of_mem _ hx)) (up (up tt k (.bool false)) 4 (.bool false)) (by simp only [qh,ht]) (by simp only [sT.1,sC.1,qe,qd,Nat.testBit,simprocAttr,-Int.reduceNatCast',ht,e3,a1])
   simp only [qiv,sT.1,sC.1,qe,qd,Nat.testBit,simprocAttr,-Int.reduceNatCast',ht,e3,a1,a2,a3,hb,g1] at he
   subst he
   refine ⟨tt',rfl,g2,?_⟩
   rw [g3,List.any_cons (a:=(k,w)),hb,Bool.false_or]
theorem qxI:(qdM.all fun x=>words.contains x.2) = true:=by kernel_rfl
theorem qwR:(words.all fun w=>qdM.any fun x=>w == x.2) = true:=by kernel_rfl
theorem qt3 (s:Str):(qdM.any fun x=>s == x.2) = qbg s:=by
 rw [Bool.eq_iff_iff,qbg,List.any_eq_true,List.any_eq_true]
 constructor
 ·rintro ⟨x,hx,h⟩
  have:=List.all_eq_true.1 qxI x hx
  refine ⟨x.2,by simpa using this,?_⟩
  rw [beq_iff_eq] at h
  rw [h,beq_self_eq_true]
 ·rintro ⟨w,hw,h⟩
  have:=List.all_eq_true.1 qwR w hw
  rw [List.any_eq_true] at this
  obtain ⟨x,hx,h2⟩:=this
  rw [beq_iff_eq] at h
  subst h
  exact ⟨x,hx,h2⟩
theorem qxH:∀x ∈ qdM,5 ≤ x.1∧x.1 < 38:=by
 have:(qdM.all fun x=>decide (5 ≤ x.1) && decide (x.1 < 38)) = true:=by kernel_rfl
 intro x hx
 simpa using List.all_eq_true.1 this x hx
theorem qmm (s:Str) (h:List qq):Wd (.fn 39 [] []) [.str s] h = some (.ret (.bool (qbg s)),h,false):=by
 rw [qt rfl (show T.get 39 = some c39 by kernel_rfl),←qt2]
 generalize hR:qsy _ h _ = R
 simp only [qqG,sT.1,sC.1,qe,qd,Nat.testBit,simprocAttr,-Int.reduceNatCast'] at hR
 generalize hr:qx h.length Wd (qiv qdM) _ = r at hR
 obtain ⟨tt,rfl,ht,e4⟩ :∃tt,r = some (.nor,⟨tt,h,false⟩)∧tt.length = 38∧lkp tt 4 = .bool (qdM.any fun x=>s == x.2):=by
  rw [←hr]
  refine qjK qdM (by simp [qdM]) qxH _ ?_ ?_
  all_goals simp only [sT.1,sC.1,qe,qd,Nat.testBit,simprocAttr,-Int.reduceNatCast']
 rw [qt3] at e4
 rw [←hR]
 cases hb:qbg s with
 | true=>
  rw [hb] at e4
  simp only [sT.1,sC.1,qe,qd,Nat.testBit,simprocAttr,-Int.reduceNatCast',ht,e4]
 | false=>
  rw [hb] at e4
  simp only [sT.1,sC.1,qe,qd,Nat.testBit,simprocAttr,-Int.reduceNatCast',ht,e4]
theorem qap (s:Str) (h:List qq):Wd (.fn 20 [] []) [.str s] h = some (.ret (.bool (qcs s)),h,false):=by
 have loop:∀k st,(∃tt i,st = ⟨tt,h,false⟩∧tt.length = 50∧lkp tt 0 = .str s∧lkp tt 3 = .int .i64 (i:Nat)∧i + k = s.length∧qai i (s.drop i) = qai 0 s∧s.length ≤ 16)→
   ∃x st',qx h.length Wd (.loop qhN) st = some (x,st')∧((x = .exit 0∧qai 0 s = true∧∃tt,st' = ⟨tt,h,false⟩∧tt.length = 50)∨(x = .ret∧qai 0 s = false∧∃tt,st' = ⟨tt,h,false⟩∧tt.length = 50∧lkp tt 2 = .bool false)):=by
  refine qD _ (fun x st'=>(x = .exit 0∧qai 0 s = true∧∃tt,st' = ⟨tt,h,false⟩∧tt.length = 50)∨(x = .ret∧qai 0 s = false∧∃tt,st' = ⟨tt,h,false⟩∧tt.length = 50∧lkp tt 2 = .bool false)) ?_
  rintro k st ⟨tt,i,rfl,ht,e0,e3,hik,hR,hl⟩
  generalize he:qx h.length Wd qhN _ = r
  rcases Nat.lt_or_ge i s.length with hi | hi
  ·have c1:ilt (i:Int) (s.length:Int) = true:=by rw [qaj];simp;omega
   have hx:qha (.str s) (.int .i64 (i:Nat)) = some (.int .u8 (s[i].toNat:Nat)):=qjX (List.getElem?_eq_getElem hi)
   have w:=qE (n:=i) (by omega)
   rw [List.drop_eq_getElem_cons hi,qai] at hR
   have hz:((i:Int) == 0) = (i == 0):=by rw [Bool.eq_iff_iff];simp
   cases hlt:qpq s[i] with
   | true=>
    have q:(ile 97 (s[i].toNat:Int) && ile (s[i].toNat:Int) 122) = true:=hlt
    simp only [Bool.and_eq_true] at q
    cases hd:ile 48 (s[i].toNat:Int) <;> cases hd2:ile (s[i].toNat:Int) 57
    all_goals
     simp only [qhN,sT.1,sC.1,qe,qd,Nat.testBit,simprocAttr,-Int.reduceNatCast',ht,e0,e3,c1,hx,w,hz,q.1,q.2,hd,hd2] at he
     subst he
     refine .inl ⟨_,k - 1,rfl,by omega,_,i + 1,rfl,by simp only [qh,ht],?_,?_,by omega,by rw [hlt] at hR;simpa using hR,hl⟩
     ·simp only [sT.1,sC.1,qe,qd,Nat.testBit,simprocAttr,-Int.reduceNatCast',ht,e0]
     ·simp only [sT.1,sC.1,qe,qd,Nat.testBit,simprocAttr,-Int.reduceNatCast',ht]
   | false=>
    have q:(ile 97 (s[i].toNat:Int) && ile (s[i].toNat:Int) 122) = false:=hlt
    have hq:∀a b,ile 97 (s[i].toNat:Int) = a→ile (s[i].toNat:Int) 122 = b→(a && b) = false:=fun a b ha hb=>by rw [←ha,←hb];exact q
    cases hi0:(i == 0) with
    | true=>
     rw [hlt,hi0] at hR
     cases ha:ile 97 (s[i].toNat:Int) <;> cases hb:ile (s[i].toNat:Int) 122 <;> cases hd:ile 48 (s[i].toNat:Int) <;> cases hd2:ile (s[i].toNat:Int) 57
     all_goals first | (have:=hq _ _ ha hb;cases this;done) | skip
     all_goals
      simp only [qhN,sT.1,sC.1,qe,qd,Nat.testBit,simprocAttr,-Int.reduceNatCast',ht,e0,e3,c1,hx,w,hz,ha,hb,hd,hd2,hi0] at he
      subst he
      refine .inr ⟨_,_,rfl,by simp,.inr ⟨rfl,by simpa using hR.symm,_,rfl,by simp only [qh,ht],?_⟩⟩
      simp only [sT.1,sC.1,qe,qd,Nat.testBit,simprocAttr,-Int.reduceNatCast',ht]
    | false=>
     rw [hlt,hi0] at hR
     simp only [Bool.not_false,Bool.true_and,Bool.false_or,qv0] at hR
     cases ha:ile 97 (s[i].toNat:Int) <;> cases hb:ile (s[i].toNat:Int) 122 <;> cases hd:ile 48 (s[i].toNat:Int) <;> cases hd2:ile (s[i].toNat:Int) 57
     all_goals first | (have:=hq _ _ ha hb;cases this;done) | skip
     all_goals rw [hd,hd2] at hR
     all_goals simp only [qhN,sT.1,sC.1,qe,qd,Nat.testBit,simprocAttr,-Int.reduceNatCast',ht,e0,e3,c1,hx,w,hz,ha,hb,hd,hd2,hi0] at he
     all_goals subst he
     all_goals first
      | (refine .inr ⟨_,_,rfl,by simp,.inr ⟨rfl,by simpa using hR.symm,_,rfl,by simp only [qh,ht],?_⟩⟩
         simp only [sT.1,sC.1,qe,qd,Nat.testBit,simprocAttr,-Int.reduceNatCast',ht]
         done)
      | (refine .inl ⟨_,k - 1,rfl,by omega,_,i + 1,rfl,by simp only [qh,ht],?_,?_,by omega,by simpa using hR,hl⟩
         ·simp only [sT.1,sC.1,qe,qd,Nat.testBit,simprocAttr,-Int.reduceNatCast',ht,e0]
         ·simp only [sT.1,sC.1,qe,qd,Nat.testBit,simprocAttr,-Int.reduceNatCast',ht])
  ·have c1:ilt (i:Int) (s.length:Int) = false:=by rw [qaj];simp;omega
   simp only [qhN,sT.1,sC.1,qe,qd,Nat.testBit,simprocAttr,-Int.reduceNatCast',ht,e0,e3,c1] at he
   subst he
   rw [List.drop_eq_nil_of_le hi,qai] at hR
   exact .inr ⟨_,_,rfl,by simp,.inl ⟨rfl,hR.symm,_,rfl,by simp only [qh,ht]⟩⟩
 rw [qt rfl (show T.get 20 = some c20 by kernel_rfl)]
 by_cases g1:1 ≤ s.length
 ·have d1:ilt (s.length:Int) 1 = false:=by rw [qaj];simp;omega
  by_cases g2:s.length ≤ 16
  ·have d2:ilt 16 (s.length:Int) = false:=by rw [qaj];simp;omega
   simp only [c20,sT.1,sC.1,qe,qd,Nat.testBit,simprocAttr,-Int.reduceNatCast',d1,d2]
   generalize hr:qx h.length Wd (.loop qhN) _ = r
   obtain ⟨x,st',rfl,hq⟩:=qaT hr (loop s.length _ ⟨_,0,rfl,by simp only [sT.1,sC.1,qe,qd,Nat.testBit,simprocAttr,-Int.reduceNatCast'],by simp only [sT.1,sC.1,qe,qd,Nat.testBit,simprocAttr,-Int.reduceNatCast'],by simp only [sT.1,sC.1,qe,qd,Nat.testBit,simprocAttr,-Int.reduceNatCast',Int.natCast_zero],by omega,rfl,g2⟩)
   rcases hq with ⟨rfl,hv,tt,rfl,ht⟩ | ⟨rfl,hv,tt,rfl,ht,e2⟩
   ·simp only [sT.1,sC.1,qe,qd,Nat.testBit,simprocAttr,-Int.reduceNatCast',ht]
    simp [qcs,g1,g2,hv]
   ·simp only [sT.1,sC.1,qe,qd,Nat.testBit,simprocAttr,-Int.reduceNatCast',ht,e2]
    simp [qcs,g1,g2,hv]
  ·have d2:ilt 16 (s.length:Int) = true:=by rw [qaj];simp;omega
   simp only [c20,sT.1,sC.1,qe,qd,Nat.testBit,simprocAttr,-Int.reduceNatCast',d1,d2]
   simp [qcs,g2]
 ·have d1:ilt (s.length:Int) 1 = true:=by rw [qaj];simp;omega
  simp only [c20,sT.1,sC.1,qe,qd,Nat.testBit,simprocAttr,-Int.reduceNatCast',d1]
  simp [qcs,g1]
theorem qH (s:Str) (h:List qq):Wd (.fn 21 [] []) [.str s] h = some (.ret (.bool (qG s)),h,false):=by
 rw [qt rfl (show T.get 21 = some c21 by kernel_rfl)]
 cases hv:qcs s <;> cases hr:qbg s <;> (simp only [c21,sT.1,sC.1,qe,qd,Nat.testBit,simprocAttr,-Int.reduceNatCast',qap,qmm,hv,hr];simp [qG,hv,hr])
end Go.Proofs.YtkmlapholimbcaaGreatDoor.AE
namespace Go.Proofs.YtkmlapholimbcaaGreatDoor.AE
open Go.AE
def qd7 (d:Nat):Prop:=∀(e:Exl) (h:List qq),(∃k,Fit k e)→Wd (.fn 9 [] []) [exV e,.int .i64 (d:Nat)] h = some (.ret (.bool (right d e)),h,false)
section
variable {d:Nat} {h:List qq}
theorem qwi (hd:d < 100) (ih:qd7 d) {n:Int} {op:Int} {nm sub:Str} {aS:List Exl} (hl:aS.length < 1000000000) (hf:∀a ∈ aS,∃k,Fit k a):∀k st,(∃tt i,st = ⟨tt,h ++ [.cells [.int .i64 op,.int .i64 n,.str nm,.str sub,.lst (aS.map exV) .no]],false⟩∧tt.length = 126∧lkp tt 1 = .int .i64 (d + 1:Nat)∧lkp tt 2 = .ptr h.length 0∧lkp tt 10 = .int .i64 (i:Nat)∧i + k = aS.length∧(aS.drop i).all (right d) = aS.all (right d))→
  ∃x st',qx h.length Wd (.loop quP) st = some (x,st')∧(∃tt,st' = ⟨tt,h ++ [.cells [.int .i64 op,.int .i64 n,.str nm,.str sub,.lst (aS.map exV) .no]],false⟩∧tt.length = 126∧((x = .exit 1∧aS.all (right d) = true)∨(x = .ret∧aS.all (right d) = false∧lkp tt 4 = .bool false))):=by
 obtain ⟨G,hG⟩ :∃G,G = h ++ [qq.cells [.int .i64 op,.int .i64 n,.str nm,.str sub,.lst (aS.map exV) .no]]:=⟨_,rfl⟩
 have hbx:G[h.length]? = some (.cells [.int .i64 op,.int .i64 n,.str nm,.str sub,.lst (aS.map exV) .no]):=by rw [hG,qbD];rfl
 rw [←hG]
 refine qD _ (fun x st'=>∃tt,st' = ⟨tt,G,false⟩∧tt.length = 126∧((x = .exit 1∧aS.all (right d) = true)∨(x = .ret∧aS.all (right d) = false∧lkp tt 4 = .bool false))) ?_
 rintro k st ⟨tt,i,rfl,ht,e1,e2,e10,hik,hR⟩
 generalize he:qx h.length Wd quP _ = r
 rcases Nat.lt_or_ge i aS.length with hi | hi
 ·have c1:ilt (i:Int) (aS.length:Int) = true:=by rw [qaj];simp;omega
  have w:=qE (n:=i) (by omega)
  have wd:IntKind.i64.wrap (((d + 1:Nat):Int) - 1) = ((d:Nat):Int):=by rw [qbG (by omega) (by omega)];omega
  have hr':=ih aS[i] G (hf _ (List.getElem_mem hi))
  have hg:(aS.map exV)[i]? = some (exV aS[i]):=by rw [List.getElem?_map,List.getElem?_eq_getElem hi];rfl
  rw [List.drop_eq_getElem_cons hi,List.all_cons] at hR
  generalize aS[i] = y at hr' hg hR
  obtain ⟨op',n',nm',sb',as'⟩:=y
  rw [ql] at hr' hg
  have hx:qa3 5 (.lst (aS.map exV) .no) (.int .i64 (i:Nat)) = some (.iptr [.int .i64 op',.int .i64 n',.str nm',.str sb',.lst (as'.map exV) .no] 0):=qu hg rfl
  cases hb:right d (.mk op' n' nm' sb' as') with
  | true=>
   rw [hb,Bool.true_and] at hR
   rw [hb] at hr'
   simp only [quP,sT.1,sC.1,qe,qd,Nat.testBit,simprocAttr,-Int.reduceNatCast',ht,e1,e2,e10,c1,w,wd,hx,hbx,hr',List.length_map] at he
   subst he
   refine .inl ⟨_,k - 1,rfl,by omega,_,i + 1,rfl,by simp only [qh,ht],?_,?_,?_,by omega,hR⟩
   ·simp only [sT.1,sC.1,qe,qd,Nat.testBit,simprocAttr,-Int.reduceNatCast',ht,e1]
   ·simp only [sT.1,sC.1,qe,qd,Nat.testBit,simprocAttr,-Int.reduceNatCast',ht,e2]
   ·simp only [sT.1,sC.1,qe,qd,Nat.testBit,simprocAttr,-Int.reduceNatCast',ht]
  | false=>
   rw [hb,Bool.false_and] at hR
   rw [hb] at hr'
   simp only [quP,sT.1,sC.1,qe,qd,Nat.testBit,simprocAttr,-Int.reduceNatCast',ht,e1,e2,e10,c1,w,wd,hx,hbx,hr',List.length_map] at he
   subst he
   exact .inr ⟨_,_,rfl,by simp,_,rfl,by simp only [qh,ht],.inr ⟨rfl,hR.symm,by simp only [sT.1,sC.1,qe,qd,Nat.testBit,simprocAttr,-Int.reduceNatCast',ht]⟩⟩
 ·have c1:ilt (i:Int) (aS.length:Int) = false:=by rw [qaj];simp;omega
  rw [List.drop_eq_nil_of_le hi,List.all_nil] at hR
  simp only [quP,sT.1,sC.1,qe,qd,Nat.testBit,simprocAttr,-Int.reduceNatCast',ht,e1,e2,e10,c1,hbx,List.length_map] at he
  subst he
  exact .inr ⟨_,_,rfl,by simp,_,rfl,by simp only [qh,ht],.inl ⟨rfl,hR.symm⟩⟩
end
end Go.Proofs.YtkmlapholimbcaaGreatDoor.AE
namespace Go.Proofs.YtkmlapholimbcaaGreatDoor.AE
open Go.AE
theorem qb1 (n:Int) (nm sub:Str) (k:Nat):((!ile 0 n || !(nm == []) || !(sub == []) || ilt (k:Int) 0 || ilt 0 (k:Int)) = !(nB0 n nm sub k))∧((!(n == 0) || !(nm == []) || !(sub == []) || ilt (k:Int) 0 || ilt 0 (k:Int)) = !(nB1 n nm sub k))∧((!(n == 0) || !(nm == []) || !(sub == []) || ilt (k:Int) 0 || ilt 0 (k:Int)) = !(nB2 n nm sub k))∧((!(n == 0) || !qcs nm || !(sub == []) || ilt (k:Int) 0 || ilt 0 (k:Int)) = !(nB3 n nm sub k))∧((!(n == 0) || !qG nm || !(sub == []) || ilt (k:Int) 0 || ilt 0 (k:Int)) = !(nB4 n nm sub k))∧((!(n == 0) || !qG nm || !qG sub || ilt (k:Int) 0 || ilt 0 (k:Int)) = !(nB5 n nm sub k))∧((!(n == 0) || !(nm == []) || !(sub == []) || ilt (k:Int) 1 || ilt 4 (k:Int)) = !(nB6 n nm sub k))∧((!(n == 0) || !qG nm || !(sub == []) || ilt (k:Int) 0 || ilt 0 (k:Int)) = !(nB7 n nm sub k))∧((!(n == 0) || !qG nm || !(sub == []) || ilt (k:Int) 0 || ilt 0 (k:Int)) = !(nB8 n nm sub k))∧((!(n == 0) || !qG nm || !(sub == []) || ilt (k:Int) 0 || ilt 0 (k:Int)) = !(nB9 n nm sub k))∧((!(n == 0) || !qG nm || !(sub == []) || ilt (k:Int) 1 || ilt 1 (k:Int)) = !(qwW n nm sub k))∧((!(n == 0) || !(nm == []) || !(sub == []) || ilt (k:Int) 0 || ilt 0 (k:Int)) = !(qwX n nm sub k))∧((!(ile 0 n && ile n 3) || !(nm == []) || !(sub == []) || ilt (k:Int) 1 || ilt 1 (k:Int)) = !(qwY n nm sub k))∧((!(n == 0) || !(nm == []) || !(sub == []) || ilt (k:Int) 1 || ilt 1 (k:Int)) = !(qwZ n nm sub k))∧((!(n == 0) || !(nm == []) || !(sub == []) || ilt (k:Int) 1 || ilt 1 (k:Int)) = !(qw0 n nm sub k))∧((!(n == 0) || !(nm == []) || !(sub == []) || ilt (k:Int) 2 || ilt 2 (k:Int)) = !(qw1 n nm sub k))∧((!(n == 0) || !(nm == []) || !(sub == []) || ilt (k:Int) 2 || ilt 2 (k:Int)) = !(qw2 n nm sub k))∧((!(n == 0) || !(nm == []) || !(sub == []) || ilt (k:Int) 2 || ilt 2 (k:Int)) = !(qw3 n nm sub k))∧((!(n == 0) || !(nm == []) || !(sub == []) || ilt (k:Int) 2 || ilt 2 (k:Int)) = !(qw4 n nm sub k))∧((!(n == 0) || !(nm == []) || !(sub == []) || ilt (k:Int) 2 || ilt 2 (k:Int)) = !(qw5 n nm sub k))∧((!(n == 0) || !(nm == []) || !(sub == []) || ilt (k:Int) 2 || ilt 2 (k:Int)) = !(qw6 n nm sub k))∧((!(n == 0) || !(nm == []) || !(sub == []) || ilt (k:Int) 2 || ilt 2 (k:Int)) = !(qw7 n nm sub k))∧((!(n == 0) || !(nm == []) || !(sub == []) || ilt (k:Int) 2 || ilt 2 (k:Int)) = !(qw8 n nm sub k))∧((!(n == 0) || !(nm == []) || !(sub == []) || ilt (k:Int) 2 || ilt 2 (k:Int)) = !(qw9 n nm sub k))∧((!(n == 0) || !(nm == []) || !(sub == []) || ilt (k:Int) 2 || ilt 2 (k:Int)) = !(qxa n nm sub k))∧((!(n == 0) || !(nm == []) || !(sub == []) || ilt (k:Int) 3 || ilt 3 (k:Int)) = !(qxb n nm sub k)):=by
 refine ⟨?_,?_,?_,?_,?_,?_,?_,?_,?_,?_,?_,?_,?_,?_,?_,?_,?_,?_,?_,?_,?_,?_,?_,?_,?_,?_⟩ <;> (
  simp only [nB0,nB1,nB2,nB3,nB4,nB5,nB6,nB7,nB8,nB9,qwW,qwX,qwY,qwZ,qw0,qw1,qw2,qw3,qw4,qw5,qw6,qw7,qw8,qw9,qxa,qxb,fB,qEI]
  rw [qeQ,qeQ]
  generalize ile _ (k:Int) = a1
  generalize ile (k:Int) _ = a2
  generalize (n == 0) = a3
  generalize (nm == []) = a4
  generalize (sub == []) = a5
  generalize ile 0 n = a6
  generalize ile n 3 = a7
  generalize qcs nm = a8
  generalize qG nm = a9
  generalize qG sub = b1
  revert a1 a2 a3 a4 a5 a6 a7 a8 a9 b1
  decide)
section
variable {d:Nat} {h:List qq}
def EXP (d:Nat) (h:List qq) (op:Int) (B:Int→Str→Str→Nat→Bool):Prop:=∀(n:Int) (nm sub:Str) (aS:List Exl),aS.length < 1000000000→(∀a ∈ aS,∃k,Fit k a)→Wd (.fn 9 [] []) [exV (.mk op n nm sub aS),.int .i64 (d + 1:Nat)] h = some (.ret (.bool (B n nm sub aS.length && aS.all (right d))),h,false)
theorem qfc (d:Nat):(((d + 1:Nat):Int) == 0) = false:=by rw [beq_eq_false_iff_ne];omega
theorem qaZ (hd:d < 100) (ih:qd7 d) {op n:Int} {nm sub:Str} {aS:List Exl} (hl:aS.length < 1000000000) (hf:∀a ∈ aS,∃k,Fit k a) {T:List qf} (t0:T.length = 126) (t1:lkp T 1 = .int .i64 (d + 1:Nat)) (t2:lkp T 2 = .ptr h.length 0) (t10:lkp T 10 = .int .i64 0):qsy [.tmp 4] h (qcP (qx h.length Wd ((qF.reg [⟨some 4,.asg (.c (.bool true)),none⟩]).seq .ret)) (qe4 1 (qx h.length Wd (.loop quP) ⟨T,h ++ [.cells [.int .i64 op,.int .i64 n,.str nm,.str sub,.lst (aS.map exV) .no]],false⟩))) = some (.ret (.bool (aS.all (right d))),h,false):=by
 generalize hw:qsy _ h _ = w
 generalize hr:qx h.length Wd (.loop quP) _ = r at hw
 obtain ⟨x,st',rfl,tt,rfl,ht,hq⟩:=qaT hr (qwi hd ih hl hf aS.length _ ⟨_,0,rfl,t0,t1,t2,by rw [t10];rfl,by omega,rfl⟩)
 rcases hq with ⟨rfl,hall⟩ | ⟨rfl,hall,e4⟩
 ·simp only [sT.1,sC.1,qe,qd,Nat.testBit,simprocAttr,-Int.reduceNatCast',ht] at hw
  rw [hall]
  exact hw.symm
 ·simp only [sT.1,sC.1,qe,qd,Nat.testBit,simprocAttr,-Int.reduceNatCast',ht,e4] at hw
  rw [hall]
  exact hw.symm
set_option maxHeartbeats 1000000 in
theorem qEw (hd:d < 100) (ih:qd7 d):EXP d h 0 nB0:=by
 intro n nm sub aS hl hf
 have q:=(qb1 n nm sub aS.length).1
 have z:ilt 0 0 = false∧ilt 25 0 = false:=⟨by kernel_rfl,by kernel_rfl⟩
 rw [ql,qt rfl (show T.get 9 = some c9 by kernel_rfl)]
 cases hb:nB0 n nm sub aS.length <;> rw [hb] at q <;> simp only [c9,sT.1,sC.1,qe,qd,Nat.testBit,simprocAttr,-Int.reduceNatCast',qfc,z,List.length_map,qap,qH,q,Bool.not_true,Bool.not_false,Bool.true_and,Bool.false_and]
 apply qaZ hd ih hl hf <;> simp only [sT.1,sC.1,qe,qd,Nat.testBit,simprocAttr,-Int.reduceNatCast']
set_option maxHeartbeats 1000000 in
theorem qEx (hd:d < 100) (ih:qd7 d):EXP d h 1 nB1:=by
 intro n nm sub aS hl hf
 have q:=(qb1 n nm sub aS.length).2.1
 have z:ilt 1 0 = false∧ilt 25 1 = false:=⟨by kernel_rfl,by kernel_rfl⟩
 rw [ql,qt rfl (show T.get 9 = some c9 by kernel_rfl)]
 cases hb:nB1 n nm sub aS.length <;> rw [hb] at q <;> simp only [c9,sT.1,sC.1,qe,qd,Nat.testBit,simprocAttr,-Int.reduceNatCast',qfc,z,List.length_map,qap,qH,q,Bool.not_true,Bool.not_false,Bool.true_and,Bool.false_and]
 apply qaZ hd ih hl hf <;> simp only [sT.1,sC.1,qe,qd,Nat.testBit,simprocAttr,-Int.reduceNatCast']
set_option maxHeartbeats 1000000 in
theorem qEy (hd:d < 100) (ih:qd7 d):EXP d h 2 nB2:=by
 intro n nm sub aS hl hf
 have q:=(qb1 n nm sub aS.length).2.2.1
 have z:ilt 2 0 = false∧ilt 25 2 = false:=⟨by kernel_rfl,by kernel_rfl⟩
 rw [ql,qt rfl (show T.get 9 = some c9 by kernel_rfl)]
 cases hb:nB2 n nm sub aS.length <;> rw [hb] at q <;> simp only [c9,sT.1,sC.1,qe,qd,Nat.testBit,simprocAttr,-Int.reduceNatCast',qfc,z,List.length_map,qap,qH,q,Bool.not_true,Bool.not_false,Bool.true_and,Bool.false_and]
 apply qaZ hd ih hl hf <;> simp only [sT.1,sC.1,qe,qd,Nat.testBit,simprocAttr,-Int.reduceNatCast']
set_option maxHeartbeats 1000000 in
theorem qEz (hd:d < 100) (ih:qd7 d):EXP d h 3 nB3:=by
 intro n nm sub aS hl hf
 have q:=(qb1 n nm sub aS.length).2.2.2.1
 have z:ilt 3 0 = false∧ilt 25 3 = false:=⟨by kernel_rfl,by kernel_rfl⟩
 rw [ql,qt rfl (show T.get 9 = some c9 by kernel_rfl)]
 cases hb:nB3 n nm sub aS.length <;> rw [hb] at q <;> simp only [c9,sT.1,sC.1,qe,qd,Nat.testBit,simprocAttr,-Int.reduceNatCast',qfc,z,List.length_map,qap,qH,q,Bool.not_true,Bool.not_false,Bool.true_and,Bool.false_and]
 apply qaZ hd ih hl hf <;> simp only [sT.1,sC.1,qe,qd,Nat.testBit,simprocAttr,-Int.reduceNatCast']
set_option maxHeartbeats 1000000 in
theorem qEA (hd:d < 100) (ih:qd7 d):EXP d h 4 nB4:=by
 intro n nm sub aS hl hf
 have q:=(qb1 n nm sub aS.length).2.2.2.2.1
 have z:ilt 4 0 = false∧ilt 25 4 = false:=⟨by kernel_rfl,by kernel_rfl⟩
 rw [ql,qt rfl (show T.get 9 = some c9 by kernel_rfl)]
 cases hb:nB4 n nm sub aS.length <;> rw [hb] at q <;> simp only [c9,sT.1,sC.1,qe,qd,Nat.testBit,simprocAttr,-Int.reduceNatCast',qfc,z,List.length_map,qap,qH,q,Bool.not_true,Bool.not_false,Bool.true_and,Bool.false_and]
 apply qaZ hd ih hl hf <;> simp only [sT.1,sC.1,qe,qd,Nat.testBit,simprocAttr,-Int.reduceNatCast']
set_option maxHeartbeats 1000000 in
theorem qEB (hd:d < 100) (ih:qd7 d):EXP d h 5 nB5:=by
 intro n nm sub aS hl hf
 have q:=(qb1 n nm sub aS.length).2.2.2.2.2.1
 have z:ilt 5 0 = false∧ilt 25 5 = false:=⟨by kernel_rfl,by kernel_rfl⟩
 rw [ql,qt rfl (show T.get 9 = some c9 by kernel_rfl)]
 cases hb:nB5 n nm sub aS.length <;> rw [hb] at q <;> simp only [c9,sT.1,sC.1,qe,qd,Nat.testBit,simprocAttr,-Int.reduceNatCast',qfc,z,List.length_map,qap,qH,q,Bool.not_true,Bool.not_false,Bool.true_and,Bool.false_and]
 apply qaZ hd ih hl hf <;> simp only [sT.1,sC.1,qe,qd,Nat.testBit,simprocAttr,-Int.reduceNatCast']
set_option maxHeartbeats 1000000 in
theorem qEC (hd:d < 100) (ih:qd7 d):EXP d h 6 nB6:=by
 intro n nm sub aS hl hf
 have q:=(qb1 n nm sub aS.length).2.2.2.2.2.2.1
 have z:ilt 6 0 = false∧ilt 25 6 = false:=⟨by kernel_rfl,by kernel_rfl⟩
 rw [ql,qt rfl (show T.get 9 = some c9 by kernel_rfl)]
 cases hb:nB6 n nm sub aS.length <;> rw [hb] at q <;> simp only [c9,sT.1,sC.1,qe,qd,Nat.testBit,simprocAttr,-Int.reduceNatCast',qfc,z,List.length_map,qap,qH,q,Bool.not_true,Bool.not_false,Bool.true_and,Bool.false_and]
 apply qaZ hd ih hl hf <;> simp only [sT.1,sC.1,qe,qd,Nat.testBit,simprocAttr,-Int.reduceNatCast']
set_option maxHeartbeats 1000000 in
theorem qED (hd:d < 100) (ih:qd7 d):EXP d h 7 nB7:=by
 intro n nm sub aS hl hf
 have q:=(qb1 n nm sub aS.length).2.2.2.2.2.2.2.1
 have z:ilt 7 0 = false∧ilt 25 7 = false:=⟨by kernel_rfl,by kernel_rfl⟩
 rw [ql,qt rfl (show T.get 9 = some c9 by kernel_rfl)]
 cases hb:nB7 n nm sub aS.length <;> rw [hb] at q <;> simp only [c9,sT.1,sC.1,qe,qd,Nat.testBit,simprocAttr,-Int.reduceNatCast',qfc,z,List.length_map,qap,qH,q,Bool.not_true,Bool.not_false,Bool.true_and,Bool.false_and]
 apply qaZ hd ih hl hf <;> simp only [sT.1,sC.1,qe,qd,Nat.testBit,simprocAttr,-Int.reduceNatCast']
set_option maxHeartbeats 1000000 in
theorem qEE (hd:d < 100) (ih:qd7 d):EXP d h 8 nB8:=by
 intro n nm sub aS hl hf
 have q:=(qb1 n nm sub aS.length).2.2.2.2.2.2.2.2.1
 have z:ilt 8 0 = false∧ilt 25 8 = false:=⟨by kernel_rfl,by kernel_rfl⟩
 rw [ql,qt rfl (show T.get 9 = some c9 by kernel_rfl)]
 cases hb:nB8 n nm sub aS.length <;> rw [hb] at q <;> simp only [c9,sT.1,sC.1,qe,qd,Nat.testBit,simprocAttr,-Int.reduceNatCast',qfc,z,List.length_map,qap,qH,q,Bool.not_true,Bool.not_false,Bool.true_and,Bool.false_and]
 apply qaZ hd ih hl hf <;> simp only [sT.1,sC.1,qe,qd,Nat.testBit,simprocAttr,-Int.reduceNatCast']
end
end Go.Proofs.YtkmlapholimbcaaGreatDoor.AE
namespace Go.Proofs.YtkmlapholimbcaaGreatDoor.AE
open Go.AE
section
variable {d:Nat} {h:List qq}
set_option maxHeartbeats 1000000 in
theorem qEF (hd:d < 100) (ih:qd7 d):EXP d h 9 nB9:=by
 intro n nm sub aS hl hf
 have q:=(qb1 n nm sub aS.length).2.2.2.2.2.2.2.2.2.1
 have z:ilt 9 0 = false∧ilt 25 9 = false:=⟨by kernel_rfl,by kernel_rfl⟩
 rw [ql,qt rfl (show T.get 9 = some c9 by kernel_rfl)]
 cases hb:nB9 n nm sub aS.length <;> rw [hb] at q <;> simp only [c9,sT.1,sC.1,qe,qd,Nat.testBit,simprocAttr,-Int.reduceNatCast',qfc,z,List.length_map,qap,qH,q,Bool.not_true,Bool.not_false,Bool.true_and,Bool.false_and]
 apply qaZ hd ih hl hf <;> simp only [sT.1,sC.1,qe,qd,Nat.testBit,simprocAttr,-Int.reduceNatCast']
set_option maxHeartbeats 1000000 in
theorem qAX (hd:d < 100) (ih:qd7 d):EXP d h 10 qwW:=by
 intro n nm sub aS hl hf
 have q:=(qb1 n nm sub aS.length).2.2.2.2.2.2.2.2.2.2.1
 have z:ilt 10 0 = false∧ilt 25 10 = false:=⟨by kernel_rfl,by kernel_rfl⟩
 rw [ql,qt rfl (show T.get 9 = some c9 by kernel_rfl)]
 cases hb:qwW n nm sub aS.length <;> rw [hb] at q <;> simp only [c9,sT.1,sC.1,qe,qd,Nat.testBit,simprocAttr,-Int.reduceNatCast',qfc,z,List.length_map,qap,qH,q,Bool.not_true,Bool.not_false,Bool.true_and,Bool.false_and]
 apply qaZ hd ih hl hf <;> simp only [sT.1,sC.1,qe,qd,Nat.testBit,simprocAttr,-Int.reduceNatCast']
set_option maxHeartbeats 1000000 in
theorem qAY (hd:d < 100) (ih:qd7 d):EXP d h 11 qwX:=by
 intro n nm sub aS hl hf
 have q:=(qb1 n nm sub aS.length).2.2.2.2.2.2.2.2.2.2.2.1
 have z:ilt 11 0 = false∧ilt 25 11 = false:=⟨by kernel_rfl,by kernel_rfl⟩
 rw [ql,qt rfl (show T.get 9 = some c9 by kernel_rfl)]
 cases hb:qwX n nm sub aS.length <;> rw [hb] at q <;> simp only [c9,sT.1,sC.1,qe,qd,Nat.testBit,simprocAttr,-Int.reduceNatCast',qfc,z,List.length_map,qap,qH,q,Bool.not_true,Bool.not_false,Bool.true_and,Bool.false_and]
 apply qaZ hd ih hl hf <;> simp only [sT.1,sC.1,qe,qd,Nat.testBit,simprocAttr,-Int.reduceNatCast']
set_option maxHeartbeats 1000000 in
theorem qAZ (hd:d < 100) (ih:qd7 d):EXP d h 12 qwY:=by
 intro n nm sub aS hl hf
 have q:=(qb1 n nm sub aS.length).2.2.2.2.2.2.2.2.2.2.2.2.1
 have z:ilt 12 0 = false∧ilt 25 12 = false:=⟨by kernel_rfl,by kernel_rfl⟩
 rw [ql,qt rfl (show T.get 9 = some c9 by kernel_rfl)]
 cases hb:qwY n nm sub aS.length <;> rw [hb] at q <;> simp only [c9,sT.1,sC.1,qe,qd,Nat.testBit,simprocAttr,-Int.reduceNatCast',qfc,z,List.length_map,qap,qH,q,Bool.not_true,Bool.not_false,Bool.true_and,Bool.false_and]
 apply qaZ hd ih hl hf <;> simp only [sT.1,sC.1,qe,qd,Nat.testBit,simprocAttr,-Int.reduceNatCast']
set_option maxHeartbeats 1000000 in
theorem qA0 (hd:d < 100) (ih:qd7 d):EXP d h 13 qwZ:=by
 intro n nm sub aS hl hf
 have q:=(qb1 n nm sub aS.length).2.2.2.2.2.2.2.2.2.2.2.2.2.1
 have z:ilt 13 0 = false∧ilt 25 13 = false:=⟨by kernel_rfl,by kernel_rfl⟩
 rw [ql,qt rfl (show T.get 9 = some c9 by kernel_rfl)]
 cases hb:qwZ n nm sub aS.length <;> rw [hb] at q <;> simp only [c9,sT.1,sC.1,qe,qd,Nat.testBit,simprocAttr,-Int.reduceNatCast',qfc,z,List.length_map,qap,qH,q,Bool.not_true,Bool.not_false,Bool.true_and,Bool.false_and]
 apply qaZ hd ih hl hf <;> simp only [sT.1,sC.1,qe,qd,Nat.testBit,simprocAttr,-Int.reduceNatCast']
set_option maxHeartbeats 1000000 in
theorem qA1 (hd:d < 100) (ih:qd7 d):EXP d h 14 qw0:=by
 intro n nm sub aS hl hf
 have q:=(qb1 n nm sub aS.length).2.2.2.2.2.2.2.2.2.2.2.2.2.2.1
 have z:ilt 14 0 = false∧ilt 25 14 = false:=⟨by kernel_rfl,by kernel_rfl⟩
 rw [ql,qt rfl (show T.get 9 = some c9 by kernel_rfl)]
 cases hb:qw0 n nm sub aS.length <;> rw [hb] at q <;> simp only [c9,sT.1,sC.1,qe,qd,Nat.testBit,simprocAttr,-Int.reduceNatCast',qfc,z,List.length_map,qap,qH,q,Bool.not_true,Bool.not_false,Bool.true_and,Bool.false_and]
 apply qaZ hd ih hl hf <;> simp only [sT.1,sC.1,qe,qd,Nat.testBit,simprocAttr,-Int.reduceNatCast']
set_option maxHeartbeats 1000000 in
theorem qA2 (hd:d < 100) (ih:qd7 d):EXP d h 15 qw1:=by
 intro n nm sub aS hl hf
 have q:=(qb1 n nm sub aS.length).2.2.2.2.2.2.2.2.2.2.2.2.2.2.2.1
 have z:ilt 15 0 = false∧ilt 25 15 = false:=⟨by kernel_rfl,by kernel_rfl⟩
 rw [ql,qt rfl (show T.get 9 = some c9 by kernel_rfl)]
 cases hb:qw1 n nm sub aS.length <;> rw [hb] at q <;> simp only [c9,sT.1,sC.1,qe,qd,Nat.testBit,simprocAttr,-Int.reduceNatCast',qfc,z,List.length_map,qap,qH,q,Bool.not_true,Bool.not_false,Bool.true_and,Bool.false_and]
 apply qaZ hd ih hl hf <;> simp only [sT.1,sC.1,qe,qd,Nat.testBit,simprocAttr,-Int.reduceNatCast']
set_option maxHeartbeats 1000000 in
theorem qA3 (hd:d < 100) (ih:qd7 d):EXP d h 16 qw2:=by
 intro n nm sub aS hl hf
 have q:=(qb1 n nm sub aS.length).2.2.2.2.2.2.2.2.2.2.2.2.2.2.2.2.1
 have z:ilt 16 0 = false∧ilt 25 16 = false:=⟨by kernel_rfl,by kernel_rfl⟩
 rw [ql,qt rfl (show T.get 9 = some c9 by kernel_rfl)]
 cases hb:qw2 n nm sub aS.length <;> rw [hb] at q <;> simp only [c9,sT.1,sC.1,qe,qd,Nat.testBit,simprocAttr,-Int.reduceNatCast',qfc,z,List.length_map,qap,qH,q,Bool.not_true,Bool.not_false,Bool.true_and,Bool.false_and]
 apply qaZ hd ih hl hf <;> simp only [sT.1,sC.1,qe,qd,Nat.testBit,simprocAttr,-Int.reduceNatCast']
set_option maxHeartbeats 1000000 in
theorem qA4 (hd:d < 100) (ih:qd7 d):EXP d h 17 qw3:=by
 intro n nm sub aS hl hf
 have q:=(qb1 n nm sub aS.length).2.2.2.2.2.2.2.2.2.2.2.2.2.2.2.2.2.1
 have z:ilt 17 0 = false∧ilt 25 17 = false:=⟨by kernel_rfl,by kernel_rfl⟩
 rw [ql,qt rfl (show T.get 9 = some c9 by kernel_rfl)]
 cases hb:qw3 n nm sub aS.length <;> rw [hb] at q <;> simp only [c9,sT.1,sC.1,qe,qd,Nat.testBit,simprocAttr,-Int.reduceNatCast',qfc,z,List.length_map,qap,qH,q,Bool.not_true,Bool.not_false,Bool.true_and,Bool.false_and]
 apply qaZ hd ih hl hf <;> simp only [sT.1,sC.1,qe,qd,Nat.testBit,simprocAttr,-Int.reduceNatCast']
end
end Go.Proofs.YtkmlapholimbcaaGreatDoor.AE
namespace Go.Proofs.YtkmlapholimbcaaGreatDoor.AE
open Go.AE
section
variable {d:Nat} {h:List qq}
set_option maxHeartbeats 1000000 in
theorem qA5 (hd:d < 100) (ih:qd7 d):EXP d h 18 qw4:=by
 intro n nm sub aS hl hf
 have q:=(qb1 n nm sub aS.length).2.2.2.2.2.2.2.2.2.2.2.2.2.2.2.2.2.2.1
 have z:ilt 18 0 = false∧ilt 25 18 = false:=⟨by kernel_rfl,by kernel_rfl⟩
 rw [ql,qt rfl (show T.get 9 = some c9 by kernel_rfl)]
 cases hb:qw4 n nm sub aS.length <;> rw [hb] at q <;> simp only [c9,sT.1,sC.1,qe,qd,Nat.testBit,simprocAttr,-Int.reduceNatCast',qfc,z,List.length_map,qap,qH,q,Bool.not_true,Bool.not_false,Bool.true_and,Bool.false_and]
 apply qaZ hd ih hl hf <;> simp only [sT.1,sC.1,qe,qd,Nat.testBit,simprocAttr,-Int.reduceNatCast']
set_option maxHeartbeats 1000000 in
theorem qA6 (hd:d < 100) (ih:qd7 d):EXP d h 19 qw5:=by
 intro n nm sub aS hl hf
 have q:=(qb1 n nm sub aS.length).2.2.2.2.2.2.2.2.2.2.2.2.2.2.2.2.2.2.2.1
 have z:ilt 19 0 = false∧ilt 25 19 = false:=⟨by kernel_rfl,by kernel_rfl⟩
 rw [ql,qt rfl (show T.get 9 = some c9 by kernel_rfl)]
 cases hb:qw5 n nm sub aS.length <;> rw [hb] at q <;> simp only [c9,sT.1,sC.1,qe,qd,Nat.testBit,simprocAttr,-Int.reduceNatCast',qfc,z,List.length_map,qap,qH,q,Bool.not_true,Bool.not_false,Bool.true_and,Bool.false_and]
 apply qaZ hd ih hl hf <;> simp only [sT.1,sC.1,qe,qd,Nat.testBit,simprocAttr,-Int.reduceNatCast']
set_option maxHeartbeats 1000000 in
theorem qA7 (hd:d < 100) (ih:qd7 d):EXP d h 20 qw6:=by
 intro n nm sub aS hl hf
 have q:=(qb1 n nm sub aS.length).2.2.2.2.2.2.2.2.2.2.2.2.2.2.2.2.2.2.2.2.1
 have z:ilt 20 0 = false∧ilt 25 20 = false:=⟨by kernel_rfl,by kernel_rfl⟩
 rw [ql,qt rfl (show T.get 9 = some c9 by kernel_rfl)]
 cases hb:qw6 n nm sub aS.length <;> rw [hb] at q <;> simp only [c9,sT.1,sC.1,qe,qd,Nat.testBit,simprocAttr,-Int.reduceNatCast',qfc,z,List.length_map,qap,qH,q,Bool.not_true,Bool.not_false,Bool.true_and,Bool.false_and]
 apply qaZ hd ih hl hf <;> simp only [sT.1,sC.1,qe,qd,Nat.testBit,simprocAttr,-Int.reduceNatCast']
set_option maxHeartbeats 1000000 in
theorem qA8 (hd:d < 100) (ih:qd7 d):EXP d h 21 qw7:=by
 intro n nm sub aS hl hf
 have q:=(qb1 n nm sub aS.length).2.2.2.2.2.2.2.2.2.2.2.2.2.2.2.2.2.2.2.2.2.1
 have z:ilt 21 0 = false∧ilt 25 21 = false:=⟨by kernel_rfl,by kernel_rfl⟩
 rw [ql,qt rfl (show T.get 9 = some c9 by kernel_rfl)]
 cases hb:qw7 n nm sub aS.length <;> rw [hb] at q <;> simp only [c9,sT.1,sC.1,qe,qd,Nat.testBit,simprocAttr,-Int.reduceNatCast',qfc,z,List.length_map,qap,qH,q,Bool.not_true,Bool.not_false,Bool.true_and,Bool.false_and]
 apply qaZ hd ih hl hf <;> simp only [sT.1,sC.1,qe,qd,Nat.testBit,simprocAttr,-Int.reduceNatCast']
set_option maxHeartbeats 1000000 in
theorem qA9 (hd:d < 100) (ih:qd7 d):EXP d h 22 qw8:=by
 intro n nm sub aS hl hf
 have q:=(qb1 n nm sub aS.length).2.2.2.2.2.2.2.2.2.2.2.2.2.2.2.2.2.2.2.2.2.2.1
 have z:ilt 22 0 = false∧ilt 25 22 = false:=⟨by kernel_rfl,by kernel_rfl⟩
 rw [ql,qt rfl (show T.get 9 = some c9 by kernel_rfl)]
 cases hb:qw8 n nm sub aS.length <;> rw [hb] at q <;> simp only [c9,sT.1,sC.1,qe,qd,Nat.testBit,simprocAttr,-Int.reduceNatCast',qfc,z,List.length_map,qap,qH,q,Bool.not_true,Bool.not_false,Bool.true_and,Bool.false_and]
 apply qaZ hd ih hl hf <;> simp only [sT.1,sC.1,qe,qd,Nat.testBit,simprocAttr,-Int.reduceNatCast']
set_option maxHeartbeats 1000000 in
theorem qBa (hd:d < 100) (ih:qd7 d):EXP d h 23 qw9:=by
 intro n nm sub aS hl hf
 have q:=(qb1 n nm sub aS.length).2.2.2.2.2.2.2.2.2.2.2.2.2.2.2.2.2.2.2.2.2.2.2.1
 have z:ilt 23 0 = false∧ilt 25 23 = false:=⟨by kernel_rfl,by kernel_rfl⟩
 rw [ql,qt rfl (show T.get 9 = some c9 by kernel_rfl)]
 cases hb:qw9 n nm sub aS.length <;> rw [hb] at q <;> simp only [c9,sT.1,sC.1,qe,qd,Nat.testBit,simprocAttr,-Int.reduceNatCast',qfc,z,List.length_map,qap,qH,q,Bool.not_true,Bool.not_false,Bool.true_and,Bool.false_and]
 apply qaZ hd ih hl hf <;> simp only [sT.1,sC.1,qe,qd,Nat.testBit,simprocAttr,-Int.reduceNatCast']
set_option maxHeartbeats 1000000 in
theorem qBb (hd:d < 100) (ih:qd7 d):EXP d h 24 qxa:=by
 intro n nm sub aS hl hf
 have q:=(qb1 n nm sub aS.length).2.2.2.2.2.2.2.2.2.2.2.2.2.2.2.2.2.2.2.2.2.2.2.2.1
 have z:ilt 24 0 = false∧ilt 25 24 = false:=⟨by kernel_rfl,by kernel_rfl⟩
 rw [ql,qt rfl (show T.get 9 = some c9 by kernel_rfl)]
 cases hb:qxa n nm sub aS.length <;> rw [hb] at q <;> simp only [c9,sT.1,sC.1,qe,qd,Nat.testBit,simprocAttr,-Int.reduceNatCast',qfc,z,List.length_map,qap,qH,q,Bool.not_true,Bool.not_false,Bool.true_and,Bool.false_and]
 apply qaZ hd ih hl hf <;> simp only [sT.1,sC.1,qe,qd,Nat.testBit,simprocAttr,-Int.reduceNatCast']
set_option maxHeartbeats 1000000 in
theorem qBc (hd:d < 100) (ih:qd7 d):EXP d h 25 qxb:=by
 intro n nm sub aS hl hf
 have q:=(qb1 n nm sub aS.length).2.2.2.2.2.2.2.2.2.2.2.2.2.2.2.2.2.2.2.2.2.2.2.2.2
 have z:ilt 25 0 = false∧ilt 25 25 = false:=⟨by kernel_rfl,by kernel_rfl⟩
 rw [ql,qt rfl (show T.get 9 = some c9 by kernel_rfl)]
 cases hb:qxb n nm sub aS.length <;> rw [hb] at q <;> simp only [c9,sT.1,sC.1,qe,qd,Nat.testBit,simprocAttr,-Int.reduceNatCast',qfc,z,List.length_map,qap,qH,q,Bool.not_true,Bool.not_false,Bool.true_and,Bool.false_and]
 apply qaZ hd ih hl hf <;> simp only [sT.1,sC.1,qe,qd,Nat.testBit,simprocAttr,-Int.reduceNatCast']
end
set_option maxHeartbeats 1000000 in
theorem qBd {d:Nat} {h:List qq} {op:Int} (ho:¬ (0 ≤ op∧op ≤ 25)) (n:Int) (nm sub:Str) (aS:List Exl):Wd (.fn 9 [] []) [exV (.mk op n nm sub aS),.int .i64 (d + 1:Nat)] h = some (.ret (.bool false),h,false):=by
 have z0:(((d + 1:Nat):Int) == 0) = false:=by rw [beq_eq_false_iff_ne];omega
 rw [ql,qt rfl (show T.get 9 = some c9 by kernel_rfl)]
 by_cases h1:op < 0
 ·have z1:ilt op 0 = true:=by rw [qaj];simpa using h1
  simp only [c9,sT.1,sC.1,qe,qd,Nat.testBit,simprocAttr,-Int.reduceNatCast',z0,z1]
 ·have z1:ilt op 0 = false:=by rw [qaj];simpa using h1
  have z2:ilt 25 op = true:=by rw [qaj];simp;omega
  simp only [c9,sT.1,sC.1,qe,qd,Nat.testBit,simprocAttr,-Int.reduceNatCast',z0,z1,z2]
theorem qEg:∀d,d ≤ 100→qd7 d:=by
 intro d
 induction d with
 | zero=>
  rintro _ ⟨op,n,nm,sub,aS⟩ h _
  have z0:(((0:Nat):Int) == 0) = true:=by kernel_rfl
  rw [ql,qt rfl (show T.get 9 = some c9 by kernel_rfl),right]
  simp only [c9,sT.1,sC.1,qe,qd,Nat.testBit,simprocAttr,-Int.reduceNatCast',z0]
 | succ d ih=>
  rintro hd ⟨op,n,nm,sub,aS⟩ h ⟨k,hk⟩
  have ih:=ih (by omega)
  have hd:d < 100:=by omega
  obtain ⟨k,rfl⟩ :∃k',k = k' + 1:=by cases k with | zero=>exact hk.elim | succ k=>exact ⟨k,rfl⟩
  have hl:aS.length < 1000000000:=by have:=hk.1;omega
  have hf:∀a ∈ aS,∃k,Fit k a:=fun a ha=>⟨k,hk.2 a ha⟩
  rw [right]
  by_cases ho:0 ≤ op∧op ≤ 25
  ·have:op = 0∨op = 1∨op = 2∨op = 3∨op = 4∨op = 5∨op = 6∨op = 7∨op = 8∨op = 9∨op = 10∨op = 11∨op = 12∨op = 13∨op = 14∨op = 15∨op = 16∨op = 17∨op = 18∨op = 19∨op = 20∨op = 21∨op = 22∨op = 23∨op = 24∨op = 25:=by omega
   rcases this with rfl | rfl | rfl | rfl | rfl | rfl | rfl | rfl | rfl | rfl | rfl | rfl | rfl | rfl | rfl | rfl | rfl | rfl | rfl | rfl | rfl | rfl | rfl | rfl | rfl | rfl
   ·exact qEw hd ih n nm sub aS hl hf
   ·exact qEx hd ih n nm sub aS hl hf
   ·exact qEy hd ih n nm sub aS hl hf
   ·exact qEz hd ih n nm sub aS hl hf
   ·exact qEA hd ih n nm sub aS hl hf
   ·exact qEB hd ih n nm sub aS hl hf
   ·exact qEC hd ih n nm sub aS hl hf
   ·exact qED hd ih n nm sub aS hl hf
   ·exact qEE hd ih n nm sub aS hl hf
   ·exact qEF hd ih n nm sub aS hl hf
   ·exact qAX hd ih n nm sub aS hl hf
   ·exact qAY hd ih n nm sub aS hl hf
   ·exact qAZ hd ih n nm sub aS hl hf
   ·exact qA0 hd ih n nm sub aS hl hf
   ·exact qA1 hd ih n nm sub aS hl hf
   ·exact qA2 hd ih n nm sub aS hl hf
   ·exact qA3 hd ih n nm sub aS hl hf
   ·exact qA4 hd ih n nm sub aS hl hf
   ·exact qA5 hd ih n nm sub aS hl hf
   ·exact qA6 hd ih n nm sub aS hl hf
   ·exact qA7 hd ih n nm sub aS hl hf
   ·exact qA8 hd ih n nm sub aS hl hf
   ·exact qA9 hd ih n nm sub aS hl hf
   ·exact qBa hd ih n nm sub aS hl hf
   ·exact qBb hd ih n nm sub aS hl hf
   ·exact qBc hd ih n nm sub aS hl hf
  ·rw [qex ho,Bool.false_and]
   exact qBd ho n nm sub aS
end Go.Proofs.YtkmlapholimbcaaGreatDoor.AE
namespace Go.Proofs.YtkmlapholimbcaaGreatDoor.AE
open Go.AE
end Go.Proofs.YtkmlapholimbcaaGreatDoor.AE
namespace Go.Proofs.YtkmlapholimbcaaGreatDoor.AE
open Go.AE
def qdP (k:Nat) (z:List qf):qF:=
 (.seq (.reg [ao 10 (.bin .lss (.t 9) (.t 8))]) (.seq (.cond (.t 10) (.skip) (.exit 0)) (.seq (.block 1 (.seq (.reg [ao 11 (.ixaL k (.t 7) (.t 9)),ao 12 (.ld (some k) (.t 11)),ao 6 (.new z),an (.st (some k) (.t 6) (.t 12))])
 (.seq (.reg [ao 13 (.mov (.t 1)),ao 14 (.ld (some k) (.t 6)),ao 15 (.call (.t 13) [(.t 14)]),ao 16 (.un .not (.t 15))]) (.cond (.t 16) (.seq (.reg [ao 4 (.asg (.c (.bool false)))]) (.ret)) (.skip)))))
 (.reg [ao 17 (.bin .add (.t 9) (.c (.int .i64 1))),ao 9 (.mov (.t 17))]))))
def qDl (k:Nat) (z:List qf):qw:=⟨18,[.tmp 4],(.seq (.reg [ao 4 (.asg (.c (.bool false)))]) (.seq (.seq (.reg [ao 7 (.mov (.t 0)),ao 8 (.len false (.t 7)),ao 9 (.mov (.c (.int .i64 0)))]) (.block 0 (.loop (qdP k z)))) (.seq (.reg [ao 4 (.asg (.c (.bool true)))]) (.ret))))⟩
section
variable {α:Type} {k:Nat} {z:List qf} {l:List α} {en:α→qf} {g F:FuncId} {bf:α→Bool}
theorem qmY (hz:z.length = k) (hzd:z.map qf.dim = z) (hs:∀v ∈ l,Shp k (en v)) (hl:l.length ≤ 100000) (hg:∀v ∈ l,∀h,Wd (.fn g [] []) [en v] h = some (.ret (.bool (bf v)),h,false)) (H:List qq) :
  ∀d st,(∃(tt:List qf) (i:Nat) (m:List qq),st = ⟨tt,H ++ m,false⟩∧tt.length = 18∧lkp tt 1 = .fn g [] []∧lkp tt 7 = .lst (l.map en) .no∧lkp tt 8 = .int .i64 (l.length:Nat)∧lkp tt 9 = .int .i64 (i:Nat)∧i + d = l.length∧l.all bf = (l.drop i).all bf)→
   ∃x st',qx H.length Wd (.loop (qdP k z)) st = some (x,st')∧(∃(tt:List qf) (m:List qq),st' = ⟨tt,H ++ m,false⟩∧tt.length = 18∧((x = .exit 0∧l.all bf = true)∨(x = .ret∧lkp tt 4 = .bool false∧l.all bf = false))):=by
 refine qD _ (fun x st'=>∃(tt:List qf) (m:List qq),st' = ⟨tt,H ++ m,false⟩∧tt.length = 18∧((x = .exit 0∧l.all bf = true)∨(x = .ret∧lkp tt 4 = .bool false∧l.all bf = false))) ?_
 rintro d st ⟨tt,i,m,rfl,ht,e1,e7,e8,e9,hid,hall⟩
 generalize he:qx H.length Wd (qdP k z) _ = r
 rcases Nat.lt_or_ge i l.length with hi | hi
 ·have c1:ilt (i:Int) (l.length:Int) = true:=qcK (by omega)
  have w:=qE (n:=i) (by omega)
  obtain ⟨cs,ec,s1,s2,s4⟩:=hs l[i] (List.getElem_mem hi)
  have hq:=hg l[i] (List.getElem_mem hi)
  rw [List.drop_eq_getElem_cons hi,List.all_cons] at hall
  rw [ec] at hq
  have hx:qa3 k (.lst (l.map en) .no) (.int .i64 (i:Nat)) = some (.iptr cs 0):=by
   have:=qu (k:=k) (f:=.no) (j:=.i64) (show (l.map en)[i]? = some (qf.agg cs) by rw [List.getElem?_map,List.getElem?_eq_getElem hi,Option.map_some,ec]) (by simpa [qf.cells] using s1)
   simpa [qf.cells] using this
  have hd:z.drop k = []:=List.drop_eq_nil_of_le (by omega)
  have hc:Go.AE.cut cs 0 (some k) = some (.agg cs):=by
   rw [qjM (by omega),List.drop_zero,List.take_of_length_le (by omega),s4]
  have hln:(H ++ m).length = H.length + m.length:=by simp
  have hB:Nat.ble H.length (H.length + m.length) = true:=qas (by omega)
  cases hb:bf l[i] with
  | true=>
   rw [hb,Bool.true_and] at hall
   rw [hb] at hq
   simp only [qdP,sT.1,sC.1,sTA.1,sCA.1,qe,qj,qk,Src.isTmp,qg,Src.hangs,qn.isT,qi,qd,Nat.testBit,bne,simprocAttr,-Int.reduceNatCast',ht,e1,e7,e8,e9,c1,hx,hzd,hc,s1,s2,s4,hd,hz,hln,hB,hq,w,List.append_assoc] at he
   subst he
   refine .inl ⟨_,d - 1,rfl,by omega,_,i + 1,m ++ [.cells cs],rfl,by simp only [qh,ht],?_,?_,?_,?_,by omega,hall⟩
   all_goals simp only [sT.1,sC.1,sTA.1,sCA.1,qe,qj,qk,Src.isTmp,qg,Src.hangs,qn.isT,qi,qd,Nat.testBit,bne,simprocAttr,-Int.reduceNatCast',ht,e1,e7,e8]
  | false=>
   rw [hb,Bool.false_and] at hall
   rw [hb] at hq
   simp only [qdP,sT.1,sC.1,sTA.1,sCA.1,qe,qj,qk,Src.isTmp,qg,Src.hangs,qn.isT,qi,qd,Nat.testBit,bne,simprocAttr,-Int.reduceNatCast',ht,e1,e7,e8,e9,c1,hx,hzd,hc,s1,s2,s4,hd,hz,hln,hB,hq,w,List.append_assoc] at he
   subst he
   refine .inr ⟨_,_,rfl,by simp,_,m ++ [.cells cs],rfl,by simp only [qh,ht],.inr ⟨rfl,?_,hall⟩⟩
   simp only [sT.1,sC.1,sTA.1,sCA.1,qe,qj,qk,Src.isTmp,qg,Src.hangs,qn.isT,qi,qd,Nat.testBit,bne,simprocAttr,-Int.reduceNatCast',ht]
 ·have c1:ilt (i:Int) (l.length:Int) = false:=qcJ (by omega)
  simp only [qdP,sT.1,sC.1,sTA.1,sCA.1,qe,qj,qk,Src.isTmp,qg,Src.hangs,qn.isT,qi,qd,Nat.testBit,bne,simprocAttr,-Int.reduceNatCast',ht,e8,e9,c1] at he
  subst he
  rw [List.drop_eq_nil_of_le hi] at hall
  exact .inr ⟨_,_,rfl,by simp,_,m,rfl,by simp only [qh,ht],.inl ⟨rfl,hall⟩⟩
theorem qea (hX:X F = none) (hF:T.get F = some (qDl k z)) (hz:z.length = k) (hzd:z.map qf.dim = z) (hs:∀v ∈ l,Shp k (en v)) (hl:l.length ≤ 100000) (hg:∀v ∈ l,∀h,Wd (.fn g [] []) [en v] h = some (.ret (.bool (bf v)),h,false)) (h:List qq) :
  Wd (.fn F [] []) [.lst (l.map en) .no,.fn g [] []] h = some (.ret (.bool (l.all bf)),h,false):=by
 generalize hw:Wd _ _ h = w
 rw [qt hX hF] at hw
 simp only [qDl,sT.1,sC.1,sTA.1,sCA.1,qe,qj,qk,Src.isTmp,qg,Src.hangs,qn.isT,qi,qd,Nat.testBit,bne,simprocAttr,-Int.reduceNatCast',List.length_map] at hw
 generalize hr:qx h.length Wd (.loop (qdP k z)) _ = r at hw
 obtain ⟨x,st',rfl,tt,m,rfl,ht,⟨rfl,ha⟩ | ⟨rfl,e4,ha⟩⟩:=qaT hr (qmY hz hzd hs hl hg h l.length _ ⟨_,0,[],by rw [List.append_nil],by simp only [sT.1,sC.1,sTA.1,sCA.1,qe,qj,qk,Src.isTmp,qg,Src.hangs,qn.isT,qi,qd,Nat.testBit,bne,simprocAttr,-Int.reduceNatCast'],by simp only [sT.1,sC.1,sTA.1,sCA.1,qe,qj,qk,Src.isTmp,qg,Src.hangs,qn.isT,qi,qd,Nat.testBit,bne,simprocAttr,-Int.reduceNatCast'],by simp only [sT.1,sC.1,sTA.1,sCA.1,qe,qj,qk,Src.isTmp,qg,Src.hangs,qn.isT,qi,qd,Nat.testBit,bne,simprocAttr,-Int.reduceNatCast'],by simp only [sT.1,sC.1,sTA.1,sCA.1,qe,qj,qk,Src.isTmp,qg,Src.hangs,qn.isT,qi,qd,Nat.testBit,bne,simprocAttr,-Int.reduceNatCast'],by simp only [sT.1,sC.1,sTA.1,sCA.1,qe,qj,qk,Src.isTmp,qg,Src.hangs,qn.isT,qi,qd,Nat.testBit,bne,simprocAttr,-Int.reduceNatCast',Int.natCast_zero],by omega,rfl⟩)
 ·simp only [sT.1,sC.1,sTA.1,sCA.1,qe,qj,qk,Src.isTmp,qg,Src.hangs,qn.isT,qi,qd,Nat.testBit,bne,simprocAttr,-Int.reduceNatCast',ht] at hw
  rw [ha]
  exact hw.symm
 ·simp only [sT.1,sC.1,sTA.1,sCA.1,qe,qj,qk,Src.isTmp,qg,Src.hangs,qn.isT,qi,qd,Nat.testBit,bne,simprocAttr,-Int.reduceNatCast',ht,e4] at hw
  rw [ha]
  exact hw.symm
end
def ExF (e:Exl):Prop:=∃k,Fit k e
def qia (s:qM):Bool:=qG s.name && right 20 s.e
def qcr (p:qJ):Bool:=qG p.name && tyB 3 p.t
def qde (x:qam):Bool:=((qG x.port && ile (x.ifs.length:Nat) 1) && right 20 x.e) && x.ifs.all (right 20)
def qd2 (p:qaw):Bool:=qG p.name && qG p.model
def qro (e:qdN):Bool:=qG e.port && (e.part == [] || qG e.part)
def qc7 (l:qZ):Bool:=qro l.frm && qro l.to
def qtC (l:qZ):Bool:=l.frm.part == [] && (l.frm.port == [] && (l.to.part == [] && l.to.port == []))
def qhk (a:qbW):Bool:=bif a.kind == 0 then (qG a.name && qG a.model) && qtC a.link else bif a.kind == 1 then (qG a.name && a.model == []) && qtC a.link else (a.kind == 2 || a.kind == 3) && ((a.name == [] && a.model == []) && qc7 a.link)
def qd5 (r:qab):Bool:=(ile (r.acts.length:Nat) 5 && right 20 r.e) && r.acts.all qhk
section
variable {h:List qq}
theorem qxN {s:qM} (hf:ExF s.e) (h:List qq):Wd (.fn 108 [] []) [s.enc] h = some (.ret (.bool (qia s)),h,false):=by
 obtain ⟨nm,e⟩:=s
 have hE:=fun h=>qsD e h hf
 rw [qia]
 simp only at *
 generalize right 20 e = b at *
 rw [qM.enc]
 obtain ⟨op,n,m2,sb,aS⟩:=e
 rw [ql] at hE
 rw [exC,qt rfl (show T.get 108 = some qAb by kernel_rfl)]
 cases hn:qG nm <;> simp only [qAb,sT.1,sC.1,sTA.1,sCA.1,qe,qj,qk,Src.isTmp,qg,Src.hangs,qn.isT,qi,qd,Nat.testBit,bne,simprocAttr,-Int.reduceNatCast',qK,hn,hE,Bool.true_and,Bool.false_and]
theorem qtQ (p:qJ) (h:List qq):Wd (.fn 78 [] []) [p.enc] h = some (.ret (.bool (qcr p)),h,false):=by
 obtain ⟨nm,v⟩:=p
 have hE:=fun h=>qe3 v h
 rw [qcr]
 simp only at *
 generalize tyB 3 v = b at *
 obtain ⟨k,l⟩:=v
 rw [qa9] at hE
 rw [qJ.enc,Tp.enc,show (l.map fun v=>qf.agg v.enc) = l.map tpV from rfl,qt rfl (show T.get 78 = some c78 by kernel_rfl)]
 cases hn:qG nm <;> simp only [c78,sT.1,sC.1,sTA.1,sCA.1,qe,qj,qk,Src.isTmp,qg,Src.hangs,qn.isT,qi,qd,Nat.testBit,bne,simprocAttr,-Int.reduceNatCast',qK,hn,hE,Bool.true_and,Bool.false_and]
theorem quH {l:List Exl} (hl:l.length ≤ 100000) (hf:∀e ∈ l,ExF e) (h:List qq):Wd (.fn 60 [] []) [.lst (l.map exV) .no,.fn 18 [] []] h = some (.ret (.bool (l.all (right 20))),h,false):=
 qea (k:=5) (z:=[.int .i64 0,.int .i64 0,.str [],.str [],.lst [] .full]) rfl (show T.get 60 = _ by kernel_rfl) rfl rfl (fun s _=>quG s) hl (fun s hs h=>qsD s h (hf s hs)) h
theorem qsu {x:qam} (hf:ExF x.e) (hl:x.ifs.length ≤ 100000) (hi:∀e ∈ x.ifs,ExF e) (h:List qq):Wd (.fn 110 [] []) [x.enc] h = some (.ret (.bool (qde x)),h,false):=by
 obtain ⟨nm,e,l⟩:=x
 have hE:=fun h=>qsD e h hf
 have hA:=fun h=>quH hl hi h
 rw [qde]
 simp only at *
 generalize right 20 e = b at *
 generalize l.all (right 20) = b2 at *
 rw [qam.enc]
 obtain ⟨op,n,m2,sb,aS⟩:=e
 rw [ql] at hE
 rw [exC,qt rfl (show T.get 110 = some qAc by kernel_rfl)]
 cases hn:qG nm <;> cases hc:ile (l.length:Nat) 1 <;> cases b <;> simp only [qAc,sT.1,sC.1,sTA.1,sCA.1,qe,qj,qk,Src.isTmp,qg,Src.hangs,qn.isT,qi,qd,Nat.testBit,bne,simprocAttr,-Int.reduceNatCast',qK,hn,hc,hE,hA,List.length_map,Bool.true_and,Bool.false_and]
theorem qtG (p:qaw) (h:List qq):Wd (.fn 102 [] []) [p.enc] h = some (.ret (.bool (qd2 p)),h,false):=by
 rw [qd2,qaw.enc,qt rfl (show T.get 102 = some qz8 by kernel_rfl)]
 cases hn:qG p.name <;> simp only [qz8,sT.1,sC.1,sTA.1,sCA.1,qe,qj,qk,Src.isTmp,qg,Src.hangs,qn.isT,qi,qd,Nat.testBit,bne,simprocAttr,-Int.reduceNatCast',qK,hn,Bool.true_and,Bool.false_and]
theorem qn1 (p:qdN) (h:List qq):Wd (.fn 136 [] []) [p.enc] h = some (.ret (.bool (qro p)),h,false):=by
 rw [qro,qdN.enc,qt rfl (show T.get 136 = some qAj by kernel_rfl)]
 cases hn:qG p.port <;> cases hc:p.part == [] <;> simp only [qAj,sT.1,sC.1,sTA.1,sCA.1,qe,qj,qk,Src.isTmp,qg,Src.hangs,qn.isT,qi,qd,Nat.testBit,bne,simprocAttr,-Int.reduceNatCast',qK,hn,hc,Bool.true_and,Bool.false_and,Bool.true_or,Bool.false_or]
theorem qj1 (l:qZ) (h:List qq):Wd (.fn 104 [] []) [l.enc] h = some (.ret (.bool (qc7 l)),h,false):=by
 have h1:=fun h=>qn1 l.frm h
 have h2:=fun h=>qn1 l.to h
 rw [qc7,qZ.enc,qt rfl (show T.get 104 = some qz9 by kernel_rfl)]
 rw [qdN.enc] at h1 h2
 cases hn:qro l.frm <;> rw [hn] at h1 <;> simp only [qz9,sT.1,sC.1,sTA.1,sCA.1,qe,qj,qk,Src.isTmp,qg,Src.hangs,qn.isT,qi,qd,Nat.testBit,bne,simprocAttr,-Int.reduceNatCast',h1,h2,Bool.true_and,Bool.false_and]
end
end Go.Proofs.YtkmlapholimbcaaGreatDoor.AE
