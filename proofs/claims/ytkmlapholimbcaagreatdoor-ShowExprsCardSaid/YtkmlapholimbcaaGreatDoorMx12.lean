/- A part of the proof: the abstract executor and what goes through it (part 12). No condition. -/
import Derived.Test.YtkmlapholimbcaaGreatDoorMx11
import Derived.Test.YtkmlapholimbcaaGreatDoorMx10
set_option maxRecDepth 100000
namespace Go.Proofs.YtkmlapholimbcaaGreatDoor.AE
open Go.AE
def qdu (d:Str):Nat:=d.foldl (fun a c=>a * 10 + (c.toNat - 48)) 0
def qc2:Nat:=9223372036854775807
def qni:Prop:=∀d:Str,d ≠ []→d.length ≤ 100000→d.all q9 = true→(qdu d ≤ qc2→qg0 d (qdu d:Nat))∧(qc2 < qdu d→qkC d)
def qkb (at_:Nat):Tok:=⟨0,[],0,at_⟩
def qaH (s:Str) (kind:Int) (at_ i:Nat):Tok×Nat×Int:=
 match s[i]? with
 | none=>(qkb at_,at_,5)
 | some c=>if qaR c = true then (if qah qaU s i - i ≤ 16 then (⟨kind,(s.drop i).take (qah qaU s i - i),0,at_⟩,qah qaU s i,0) else (qkb at_,at_,9)) else (qkb at_,at_,5)
def qbP (s:Str) (i:Nat):Str:=(s.drop i).take (qah q9 s i - i)
def qeS (s:Str) (i:Nat) (c:UInt8):Tok×Nat×Int:=
 if c = 48∧1 < qah q9 s i - i then (qkb i,i,6)
 else if qdu (qbP s i) ≤ qc2 then (⟨1,[],(qdu (qbP s i):Nat),i⟩,qah q9 s i,0) else (qkb i,i,2)
def qfh (s:Str) (i:Nat):Option Str→Tok×Nat×Int
 | some m=>(⟨3,m,0,i⟩,i + m.length,0)
 | none=>(qkb i,i,5)
def lex (s:Str) (j:Nat):Tok×Nat×Int:=
 match s[j]? with
 | none=>(⟨4,[],0,j⟩,j,0)
 | some c=>
  if qaR c = true then qaH s 0 j j
  else if c = 39 then qaH s 2 j (j + 1)
  else if q9 c = true then qeS s j c
  else qfh s j (qdK (s.drop j))
theorem qk1:qaR 39 = false:=by kernel_rfl
theorem qe3 (p:UInt8→Bool):∀l:Str,(∀a ∈ l,p a = true)→l.takeWhile p = l
 | [],_=>rfl
 | a :: l,h=>by rw [List.takeWhile_cons_of_pos (h a (by simp)),qe3 p l fun b hb=>h b (by simp [hb])]
theorem qdP (p:UInt8→Bool) (s:Str) (i:Nat):(s.drop i).take (qah p s i - i) = (s.drop i).takeWhile p:=by
 rw [qah,Nat.add_sub_cancel_left]
 generalize s.drop i = l
 induction l with
 | nil=>rfl
 | cons c l ih=>
  rw [List.takeWhile_cons]
  split
  ·rw [List.length_cons,List.take_succ_cons,ih]
  ·rfl
theorem qlA (s:Str) (i:Nat):(qbP s i).all q9 = true:=by
 rw [qbP,qdP]
 exact List.all_takeWhile
theorem qf1 {p:UInt8→Bool} {s:Str} {i:Nat} (hi:i < s.length) (hp:p s[i] = true):i < qah p s i:=by
 rw [qf0 hi hp]
 have:=qcO p s (i + 1)
 omega
theorem qjC {s:Str} {i:Nat} (hi:i < s.length) (hp:q9 s[i] = true):qbP s i ≠ []:=by
 rw [qbP]
 have h1:=qf1 hi hp
 intro h
 have:=congrArg List.length h
 rw [List.length_take,List.length_drop,List.length_nil] at this
 omega
theorem qir (s:Str) (i:Nat):(qbP s i).length ≤ s.length:=by
 rw [qbP,List.length_take,List.length_drop]
 omega
theorem qg9 {s:Str} (hs:s.length ≤ 100000) (kind:Int) (at_ i:Nat) (hi:i ≤ s.length) (h:List qf):Wd (.fn 129 [] []) [.str s,.int .i64 kind,.int .i64 (at_:Nat),.int .i64 (i:Nat)] h =
  some (.ret (.tup [qbC (qaH s kind at_ i).1.kind (qaH s kind at_ i).1.s (qaH s kind at_ i).1.n (qaH s kind at_ i).1.pos,.int .i64 ((qaH s kind at_ i).2.1:Nat),.int .i64 (qaH s kind at_ i).2.2]),h,false):=by
 rcases Nat.lt_or_ge i s.length with h1 | h1
 ·cases hl:qaR s[i] with
  | true=>
   rw [qrK s hs kind at_ i h1 hl]
   simp only [qaH,List.getElem?_eq_getElem h1,hl,if_true]
   split
   ·rfl
   ·rfl
  | false=>
   rw [qlk s kind at_ i hi fun _=>hl]
   simp only [qaH,List.getElem?_eq_getElem h1,hl,Bool.false_eq_true,if_false]
   rfl
 ·rw [qlk s kind at_ i hi fun h=>absurd h (by omega)]
  simp only [qaH,List.getElem?_eq_none h1]
  rfl
theorem qh8 (hat:qni) {s:Str} (hs:s.length ≤ 100000) {j:Nat} (hj:j ≤ s.length):qkE s j (lex s j).1 (lex s j).2.1 (lex s j).2.2:=by
 intro h
 rcases Nat.lt_or_ge j s.length with h1 | h1
 ·have hx:=List.getElem?_eq_getElem h1
  cases hl:qaR s[j] with
  | true=>
   have e:lex s j = qaH s 0 j j:=by simp only [lex,hx,hl,if_true]
   rw [e]
   exact qrQ h1 hl fun h=>qg9 hs 0 j j hj h
  | false=>
   cases h39:(s[j] == 39) with
   | true=>
    have e:lex s j = qaH s 2 j (j + 1):=by simp only [lex,hx,hl,Bool.false_eq_true,if_false,beq_iff_eq.1 h39,if_true,qk1]
    rw [e]
    exact quK h1 hl h39 hs fun h=>qg9 hs 2 j (j + 1) h1 h
   | false=>
    have h39':s[j] ≠ 39:=by simpa using h39
    cases hd:q9 s[j] with
    | true=>
     have e:lex s j = qeS s j s[j]:=by simp only [lex,hx,hl,Bool.false_eq_true,if_false,h39',hd,if_true]
     rw [e]
     obtain ⟨a1,a2⟩:=hat (qbP s j) (qjC h1 hd) (Nat.le_trans (qir s j) hs) (qlA s j)
     refine quJ h1 hl h39 hd fun h=>?_
     by_cases q1:s[j] = 48∧1 < qah q9 s j - j
     ·rw [qkc s hs j h1 (by simp [qpQ,q1.1,q1.2]),qeS,if_pos q1]
      rfl
     ·have q2:qpQ s j h1 = false:=by
       rw [Bool.eq_false_iff]
       intro q
       simp only [qpQ,Bool.and_eq_true,beq_iff_eq,decide_eq_true_eq] at q
       exact q1 q
      by_cases q3:qdu (qbP s j) ≤ qc2
      ·rw [qqx s hs j h1 q2 (a1 q3),qeS,if_neg q1,if_pos q3]
      ·rw [qiV s hs j h1 q2 (a2 (by omega)),qeS,if_neg q1,if_neg q3]
       rfl
    | false=>
     have e:lex s j = qfh s j (qdK (s.drop j)):=by simp only [lex,hx,hl,Bool.false_eq_true,if_false,h39',hd]
     rw [e,qrP h1 hl h39 hd hs]
     cases qdK (s.drop j) <;> rfl
 ·obtain rfl:j = s.length:=by omega
  have e:lex s s.length = (⟨4,[],0,s.length⟩,s.length,0):=by simp only [lex,List.getElem?_eq_none (Nat.le_refl _)]
  rw [e]
  exact quI s
theorem qtP:∀m ∈ marks,0 < m.length:=by
 have:marks.all (fun m=>decide (0 < m.length)) = true:=by kernel_rfl
 intro m hm
 simpa using List.all_eq_true.1 this m hm
theorem qmy {r m:Str} (h:qdK r = some m):m ∈ marks∧m.length ≤ r.length:=by
 rw [qdK] at h
 refine ⟨List.mem_of_find?_eq_some h,?_⟩
 have:=List.find?_some h
 rw [qiH,beq_iff_eq] at this
 have:=congrArg List.length this
 rw [List.length_take] at this
 omega
structure qvz (s:Str) (t:Tok):Prop where
 kind:t.kind = 0∨t.kind = 1∨t.kind = 2∨t.kind = 3∨t.kind = 4
 name:t.kind = 0∨t.kind = 2→∃c r,t.s = c :: r∧qaR c = true∧r.all qaU = true∧r.length ≤ 15
 mark:t.kind = 3→t.s ∈ marks
 int:t.kind = 1→0 ≤ t.n∧t.n ≤ 9223372036854775807
 pos:0 ≤ t.pos∧t.pos ≤ s.length
theorem qha {s:Str} {kind:Int} {at_ i:Nat} (hk:kind = 0∨kind = 2) (hai:at_ ≤ i) (hi:i ≤ s.length) (h0:(qaH s kind at_ i).2.2 = 0) :
  i < (qaH s kind at_ i).2.1∧(qaH s kind at_ i).2.1 ≤ s.length∧(qaH s kind at_ i).1.kind = kind∧qvz s (qaH s kind at_ i).1:=by
 rcases Nat.lt_or_ge i s.length with h1 | h1
 ·cases hl:qaR s[i] with
  | true=>
   simp only [qaH,List.getElem?_eq_getElem h1,hl,if_true] at h0 ⊢
   split at h0
   ·rename_i h16
    rw [if_pos h16]
    have hl2:qaU s[i] = true:=by rw [qaU,hl];rfl
    refine ⟨qf1 h1 hl2,qcn _ _ hi,rfl,⟨by rcases hk with rfl | rfl <;> simp,fun _=>?_,fun h=>?_,fun h=>?_,by simp;omega⟩⟩
    ·simp only
     rw [qdP,List.drop_eq_getElem_cons h1,List.takeWhile_cons_of_pos hl2]
     refine ⟨_,_,rfl,hl,List.all_takeWhile,?_⟩
     rw [qah,List.drop_eq_getElem_cons h1,List.takeWhile_cons_of_pos hl2,List.length_cons] at h16
     omega
    ·simp only at h;omega
    ·simp only at h;omega
   ·cases h0
  | false=>
   simp only [qaH,List.getElem?_eq_getElem h1,hl,Bool.false_eq_true,if_false] at h0
   cases h0
 ·simp only [qaH,List.getElem?_eq_none h1] at h0
  cases h0
theorem qk2 {s:Str} {i:Nat} (h1:i < s.length) (h0:(lex s i).2.2 = 0):i < (lex s i).2.1∧(lex s i).2.1 ≤ s.length∧(lex s i).1.kind ≠ 4∧qvz s (lex s i).1:=by
 have hx:=List.getElem?_eq_getElem h1
 cases hl:qaR s[i] with
 | true=>
  have e:lex s i = qaH s 0 i i:=by simp only [lex,hx,hl,if_true]
  rw [e] at h0 ⊢
  obtain ⟨a,b,c,d⟩:=qha (.inl rfl) (Nat.le_refl _) (Nat.le_of_lt h1) h0
  exact ⟨a,b,by rw [c];decide,d⟩
 | false=>
  by_cases h39:s[i] = 39
  ·have e:lex s i = qaH s 2 i (i + 1):=by simp only [lex,hx,hl,Bool.false_eq_true,if_false,h39,if_true,qk1]
   rw [e] at h0 ⊢
   obtain ⟨a,b,c,d⟩:=qha (i:=i + 1) (.inr rfl) (Nat.le_succ _) h1 h0
   exact ⟨by omega,b,by rw [c];decide,d⟩
  ·cases hd:q9 s[i] with
   | true=>
    have e:lex s i = qeS s i s[i]:=by simp only [lex,hx,hl,Bool.false_eq_true,if_false,h39,hd,if_true]
    rw [e,qeS] at h0 ⊢
    split at h0
    ·cases h0
    ·rename_i q1
     rw [if_neg q1]
     split at h0
     ·rename_i q2
      rw [if_pos q2]
      refine ⟨qf1 h1 hd,qcn _ _ (Nat.le_of_lt h1),by simp,⟨by simp,fun h=>by simp at h,fun h=>by simp at h,fun _=>?_,by simp;omega⟩⟩
      simp only [qc2] at q2 ⊢
      omega
     ·cases h0
   | false=>
    have e:lex s i = qfh s i (qdK (s.drop i)):=by simp only [lex,hx,hl,Bool.false_eq_true,if_false,h39,hd]
    rw [e] at h0 ⊢
    cases hm:qdK (s.drop i) with
    | none=>rw [hm] at h0;cases h0
    | some m=>
     obtain ⟨hm1,hm2⟩:=qmy hm
     have:=qtP m hm1
     rw [List.length_drop] at hm2
     simp only [qfh]
     exact ⟨by omega,by omega,by simp,⟨by simp,fun h=>by simp at h,fun _=>hm1,fun h=>by simp at h,by simp;omega⟩⟩
def nl (c:UInt8):Bool:=!((c.toNat:Int) == 10)
inductive RW (s:Str):Nat→List Tok→Option (Int×Int)→Prop
 | fin:RW s s.length [⟨4,[],0,s.length⟩] none
 | blank {i ts o} (hi:i < s.length):AE.blank s[i] = true→RW s (i + 1) ts o→RW s i ts o
 | sharp {i ts o} (hi:i < s.length):AE.blank s[i] = false→AE.sharp s[i] = true→RW s (qah nl s i) ts o→RW s i ts o
 | word {i ts o} (hi:i < s.length):AE.blank s[i] = false→AE.sharp s[i] = false→(lex s i).2.2 = 0→RW s (lex s i).2.1 ts o→RW s i ((lex s i).1 :: ts) o
 | err {i} (hi:i < s.length):AE.blank s[i] = false→AE.sharp s[i] = false→(lex s i).2.2 ≠ 0→RW s i [] (some ((i:Int),(lex s i).2.2))
theorem RW.ex (s:Str):∀(n i:Nat),s.length - i ≤ n→i ≤ s.length→∃ts o,RW s i ts o:=by
 intro n
 induction n with
 | zero=>
  intro i h1 h2
  obtain rfl:i = s.length:=by omega
  exact ⟨_,_,.fin⟩
 | succ n ih=>
  intro i h1 h2
  rcases Nat.lt_or_ge i s.length with hi | hi
  ·cases hb:AE.blank s[i] with
   | true=>
    obtain ⟨ts,o,h⟩:=ih (i + 1) (by omega) (by omega)
    exact ⟨ts,o,.blank hi hb h⟩
   | false=>
    cases hs:AE.sharp s[i] with
    | true=>
     have hn:nl s[i] = true:=by
      simp only [AE.sharp,beq_iff_eq] at hs
      simp [nl,hs]
     obtain ⟨ts,o,h⟩:=ih (qah nl s i) (by have:=qf1 hi hn;omega) (qcn _ _ h2)
     exact ⟨ts,o,.sharp hi hb hs h⟩
    | false=>
     by_cases h0:(lex s i).2.2 = 0
     ·obtain ⟨g1,g2,_⟩:=qk2 hi h0
      obtain ⟨ts,o,h⟩:=ih (lex s i).2.1 (by omega) g2
      exact ⟨_,o,.word hi hb hs h0 h⟩
     ·exact ⟨_,_,.err hi hb hs h0⟩
  ·obtain rfl:i = s.length:=by omega
   exact ⟨_,_,.fin⟩
theorem RW.le {s:Str} {i:Nat} {ts:List Tok} {o:Option (Int×Int)} (h:RW s i ts o):i ≤ s.length∧ts.length + i ≤ s.length + 1∧(∀t ∈ ts,qvz s t):=by
 induction h with
 | fin=>exact ⟨Nat.le_refl _,by simp;omega,fun t ht=>by
   rw [List.mem_singleton] at ht
   subst ht
   exact ⟨by simp,fun h=>by simp at h,fun h=>by simp at h,fun h=>by simp at h,by simp⟩⟩
 | blank hi _ _ ih=>exact ⟨by omega,by omega,ih.2.2⟩
 | @sharp i ts o hi hb hs _ ih=>have:=qcO nl s i;exact ⟨by omega,by omega,ih.2.2⟩
 | word hi _ _ h0 _ ih=>
  obtain ⟨g1,g2,_,g4⟩:=qk2 hi h0
  refine ⟨by omega,by rw [List.length_cons];omega,fun t ht=>?_⟩
  rcases List.mem_cons.1 ht with rfl | ht
  ·exact g4
  ·exact ih.2.2 t ht
 | err hi _ _ _=>exact ⟨by omega,by simp;omega,fun t ht=>by cases ht⟩
theorem RW.last {s:Str} {i:Nat} {ts:List Tok} {o:Option (Int×Int)} (h:RW s i ts o) (ho:o = none):∃ws,ts = ws ++ [⟨4,[],0,s.length⟩]∧∀t ∈ ws,t.kind ≠ 4:=by
 induction h with
 | fin=>exact ⟨[],rfl,fun _ h=>by cases h⟩
 | blank hi _ _ ih=>exact ih ho
 | sharp hi _ _ _ ih=>exact ih ho
 | word hi _ _ h0 _ ih=>
  obtain ⟨ws,rfl,hw⟩:=ih ho
  refine ⟨_ :: ws,rfl,fun t ht=>?_⟩
  rcases List.mem_cons.1 ht with rfl | ht
  ·exact (qk2 hi h0).2.2.1
  ·exact hw t ht
 | err hi _ _ _=>cases ho
theorem RW.wf {s:Str} (hs:s.length ≤ 16384) {ts:List Tok} (h:RW s 0 ts none):WF ts∧0 < ts.length:=by
 have hl:=h.le
 obtain ⟨ws,rfl,hw⟩:=h.last rfl
 refine ⟨⟨by omega,fun n w hn hk=>?_⟩,by simp⟩
 rcases Nat.lt_or_ge n ws.length with h1 | h1
 ·simp;omega
 ·rw [List.getElem?_append_right h1] at hn
  obtain ⟨h2,h3⟩:=List.getElem?_eq_some_iff.1 hn
  simp at h2
  have:n - ws.length = 0:=by omega
  simp only [this,List.getElem_cons_zero] at h3
  subst h3
  exact absurd rfl hk
theorem qf6.skip {s:Str} {i i':Nat} {ts:List Tok} {o:Option (Int×Int)} (h:qf6 s i' ts o) (hf:∀j,qgS s i' j→qgS s i j):qf6 s i ts o:=by
 cases h with
 | last h1 h2 h3=>exact .last (hf _ h1) h2 h3
 | err h1 h2 h3=>exact .err (hf _ h1) h2 h3
 | next h1 h2 h3 h4=>exact .next (hf _ h1) h2 h3 h4
theorem qiO {s:Str} {i k:Nat} (h:qcd (s.drop i) = some k):qah nl s i = i + k∧∃hk:i + k < s.length,AE.blank s[i + k] = true:=by
 rw [qcd,List.findIdx?_eq_some_iff_getElem] at h
 obtain ⟨h1,h2,h3⟩:=h
 rw [List.length_drop] at h1
 have e:((s.drop i).takeWhile nl).length = k:=by
  rw [List.takeWhile_eq_take_findIdx_not,List.length_take,List.length_drop]
  have:List.findIdx (fun a=>!nl a) (s.drop i) = k:=by
   rw [List.findIdx_eq (by rw [List.length_drop];omega)]
   refine ⟨?_,fun j hj=>?_⟩
   ·simp only [beq_iff_eq] at h2
    simp [nl,h2]
   ·have:=h3 j hj
    simp only [nl,Bool.not_not]
    rw [Bool.eq_false_iff]
    intro q
    rw [beq_iff_eq] at q
    refine this ?_
    rw [beq_iff_eq]
    apply UInt8.toNat_inj.1
    show _ = 10
    omega
  rw [this]
  omega
 refine ⟨by rw [qah,e],by omega,?_⟩
 rw [List.getElem_drop] at h2
 simp only [beq_iff_eq] at h2
 simp [AE.blank,h2]
theorem qiN {s:Str} {i:Nat} (hi:i ≤ s.length) (h:qcd (s.drop i) = none):qah nl s i = s.length:=by
 rw [qcd,List.findIdx?_eq_none_iff] at h
 rw [qah,qe3 nl _ ?_,List.length_drop]
 ·omega
 ·intro a ha
  have:=h a ha
  rw [beq_eq_false_iff_ne] at this
  simp only [nl,Bool.not_eq_true',beq_eq_false_iff_ne,ne_eq]
  intro q
  refine this ?_
  apply UInt8.toNat_inj.1
  show _ = 10
  omega
theorem RW.words (hat:qni) {s:Str} (hs:s.length ≤ 100000) {i:Nat} {ts:List Tok} {o:Option (Int×Int)} (h:RW s i ts o):qf6 s i ts o:=by
 induction h with
 | fin=>
  have e:lex s s.length = (⟨4,[],0,s.length⟩,s.length,0):=by simp only [lex,List.getElem?_eq_none (Nat.le_refl _)]
  have:=qh8 hat hs (Nat.le_refl s.length)
  rw [e] at this
  exact .last .done this rfl
 | blank hi hb _ ih=>exact ih.skip fun j hj=>.blank hi hb hj
 | @sharp i ts o hi hb hh _ ih=>
  cases hl:qcd (s.drop i) with
  | none=>
   rw [qiN (Nat.le_of_lt hi) hl] at ih
   refine ih.skip fun j hj=>?_
   have hj2:j = s.length:=by have:=hj.le;omega
   subst hj2
   exact .last hi hb hh hl
  | some k=>
   obtain ⟨e,hk,hb2⟩:=qiO hl
   rw [e] at ih
   refine ih.skip fun j hj=>?_
   refine .line hi hb hh hl ?_
   generalize hq:i + k = q at hj hk hb2
   cases hj with
   | done=>omega
   | blank _ _ h=>exact h
   | line _ h0 _ _ _=>rw [h0] at hb2;cases hb2
   | last _ h0 _ _=>rw [h0] at hb2;cases hb2
   | word _ h0 _=>rw [h0] at hb2;cases hb2
 | @word i ts o hi hb hh h0 _ ih=>
  have hw:=qh8 hat hs (Nat.le_of_lt hi)
  rw [h0] at hw
  exact .next (.word hi hb hh) hw (by simpa using (qk2 hi h0).2.2.1) ih
 | @err i hi hb hh h0=>
  have hw:=qh8 hat hs (Nat.le_of_lt hi)
  have hp:(lex s i).1.pos = i:=by
   simp only [lex,qaH,qeS,qfh,qkb]
   repeat' split
   all_goals rfl
  rw [←hp]
  exact .err (.word hi hb hh) hw (by simpa using h0)
end Go.Proofs.YtkmlapholimbcaaGreatDoor.AE
namespace Go.Proofs.YtkmlapholimbcaaGreatDoor.AE
open Go.AE
def tri (t:Tok):PT:=(t.kind,t.s,t.n)
def L (Q:Str→Prop) (u:Str) (ks:List PT):Prop:=∀(p r:Str) (ts:List Tok) (o:Option (Int×Int)),Q r→RW (p ++ (u ++ r)) (p.length + u.length) ts o→∃us,us.map tri = ks∧RW (p ++ (u ++ r)) p.length (us ++ ts) o
def Tr (_:Str):Prop:=True
def Nl (r:Str):Prop:=∀c ∈ r.head?,qaU c = false
theorem L.app {Q R:Str→Prop} {u v:Str} {a b:List PT} (hu:L Q u a) (hv:L R v b) (hq:∀r,R r→Q (v ++ r)):L R (u ++ v) (a ++ b):=by
 intro p r ts o hr h
 have e1:p ++ (u ++ v ++ r) = p ++ u ++ (v ++ r):=by simp
 have e2:p.length + (u ++ v).length = (p ++ u).length + v.length:=by simp;omega
 rw [e1,e2] at h
 obtain ⟨us,h1,h2⟩:=hv (p ++ u) r ts o hr h
 have e3:p ++ u ++ (v ++ r) = p ++ (u ++ (v ++ r)):=by simp
 rw [e3,List.length_append] at h2
 obtain ⟨vs,h3,h4⟩:=hu p (v ++ r) _ o (hq r hr) h2
 exact ⟨vs ++ us,by rw [List.map_append,h3,h1],by rw [e1,e3,List.append_assoc];exact h4⟩
theorem L.tr {Q:Str→Prop} {u:Str} {a:List PT} (h:L Tr u a):L Q u a:=fun p r ts o _=>h p r ts o trivial
theorem L.a0 {R:Str→Prop} {u v:Str} {a b:List PT} (hu:L Tr u a) (hv:L R v b):L R (u ++ v) (a ++ b):=hu.app hv fun _ _=>trivial
theorem L.an {R:Str→Prop} {u v:Str} {x:UInt8} {a b:List PT} (hu:L Nl u a) (hv:L R (x :: v) b) (hx:qaU x = false):L R (u ++ (x :: v)) (a ++ b):=hu.app hv fun _ _ c hc=>by
 simp at hc
 subst hc
 exact hx
theorem L.blank:L Tr [32] []:=by
 intro p r ts o _ h
 exact ⟨[],rfl,.blank (by simp) (by simp [AE.blank]) h⟩
theorem L.of {Q:Str→Prop} {x:UInt8} {u:Str} {k:PT} (hb:AE.blank x = false) (hs:AE.sharp x = false) (hl:∀p r,Q r→∃t,tri t = k∧lex (p ++ (x :: u ++ r)) p.length = (t,p.length + (x :: u).length,0)):L Q (x :: u) [k]:=by
 intro p r ts o hr h
 obtain ⟨t,h1,h2⟩:=hl p r hr
 refine ⟨[t],by rw [←h1];rfl,?_⟩
 have:=RW.word (s:=p ++ (x :: u ++ r)) (i:=p.length) (ts:=ts) (o:=o) (by simp) (by simpa using hb) (by simpa using hs) (by rw [h2]) (by rw [h2];exact h)
 rw [h2] at this
 exact this
theorem at_ {p r:Str} {x:UInt8}:(p ++ (x :: r))[p.length]? = some x:=by simp
theorem qsD {p r:Str}:(p ++ r).drop p.length = r:=by simp
theorem L.mark {Q:Str→Prop} {x:UInt8} {u:Str} (hb:AE.blank x = false) (hs:AE.sharp x = false) (hl:qaR x = false) (hd:q9 x = false) (h39:x ≠ 39) (hm:∀r,Q r→qdK (x :: u ++ r) = some (x :: u)):L Q (x :: u) [mk3 (x :: u)]:=
 .of hb hs fun p r hr=>⟨⟨3,x :: u,0,p.length⟩,rfl,by
  rw [lex,List.cons_append,at_]
  simp only [hl,hd,h39,if_false,Bool.false_eq_true]
  rw [qsD,←List.cons_append,hm r hr,qfh]⟩
theorem L40:L Tr [40] [mk3 [40]]:=.mark (by rfl) (by rfl) (by rfl) (by rfl) (by decide) fun _ _=>rfl
theorem L41:L Tr [41] [mk3 [41]]:=.mark (by rfl) (by rfl) (by rfl) (by rfl) (by decide) fun _ _=>rfl
theorem L44:L Tr [44] [mk3 [44]]:=.mark (by rfl) (by rfl) (by rfl) (by rfl) (by decide) fun _ _=>rfl
theorem L46:L Tr [46] [mk3 [46]]:=.mark (by rfl) (by rfl) (by rfl) (by rfl) (by decide) fun _ _=>rfl
theorem L61:L Tr [61] [mk3 [61]]:=.mark (by rfl) (by rfl) (by rfl) (by rfl) (by decide) fun _ _=>rfl
theorem L43:L Tr [43] [mk3 [43]]:=.mark (by rfl) (by rfl) (by rfl) (by rfl) (by decide) fun _ _=>rfl
theorem L42:L Tr [42] [mk3 [42]]:=.mark (by rfl) (by rfl) (by rfl) (by rfl) (by decide) fun _ _=>rfl
theorem L47:L Tr [47] [mk3 [47]]:=.mark (by rfl) (by rfl) (by rfl) (by rfl) (by decide) fun _ _=>rfl
theorem L37:L Tr [37] [mk3 [37]]:=.mark (by rfl) (by rfl) (by rfl) (by rfl) (by decide) fun _ _=>rfl
theorem qAG:L Tr [60,61] [mk3 [60,61]]:=.mark (by rfl) (by rfl) (by rfl) (by rfl) (by decide) fun _ _=>rfl
def Hd (u:Str):Prop:=∃c t,u = c :: t∧c ≠ 62
theorem Hd.app {u v:Str} (h:Hd u):Hd (u ++ v):=by
 obtain ⟨c,t,rfl,h⟩:=h
 exact ⟨c,t ++ v,rfl,h⟩
theorem L45:L Hd [45] [mk3 [45]]:=.mark (by rfl) (by rfl) (by rfl) (by rfl) (by decide) fun r hr=>by
 obtain ⟨c,t,rfl,h⟩:=hr
 have:((c :: t.take 0) == [62]) = false:=by
  rw [beq_eq_false_iff_ne]
  intro q
  injection q with q
  exact h q
 have e:qiH (45 :: c :: t) [45,62] = false:=this
 show List.find? (qiH (45 :: c :: t)) ([45,62] :: _) = _
 rw [List.find?_cons,e]
 rfl
theorem qDg:L Tr [45,32] [mk3 [45]]:=L45.app L.blank fun _ _=>⟨32,_,rfl,by decide⟩
theorem qDh:L Tr [60,32] [mk3 [60]]:=(L.mark (Q:=fun r=>∃t,r = 32 :: t) (x:=60) (u:=[]) (by rfl) (by rfl) (by rfl) (by rfl) (by decide) fun r hr=>by
 obtain ⟨t,rfl⟩:=hr
 rfl).app L.blank fun r _=>⟨r,rfl⟩
theorem qlg {q:UInt8→Bool} {p u r:Str} (hu:∀c ∈ u,q c = true) (hr:∀c ∈ r.head?,q c = false):qah q (p ++ (u ++ r)) p.length = p.length + u.length:=by
 rw [qah,qsD,List.takeWhile_append_of_pos hu]
 have:r.takeWhile q = []:=by
  cases r with
  | nil=>rfl
  | cons c t=>rw [List.takeWhile_cons_of_neg (by rw [hr c rfl];simp)]
 rw [this,List.append_nil]
theorem qgv:∀(i:Nat) (u:Str),qS i u = true→∀c ∈ u,qaU c = true
 | _,[],_,_,h=>by cases h
 | i,x :: u,h,c,hc=>by
  rw [qS] at h
  cases hx:(!qaR x && (i == 0 || !q9 x)) with
  | true=>rw [hx] at h;cases h
  | false=>
   rw [hx,cond_false] at h
   rcases List.mem_cons.1 hc with rfl | hc
   ·rw [qaU]
    cases h1:qaR c with
    | true=>rfl
    | false=>
     rw [h1] at hx
     cases h2:q9 c with
     | true=>rfl
     | false=>rw [h2] at hx;simp at hx
   ·exact qgv (i + 1) u h c hc
theorem qfo {u:Str} (h:qbD u = true):∃x t,u = x :: t∧qaR x = true∧u.length ≤ 16∧∀c ∈ u,qaU c = true:=by
 simp only [qbD,Bool.and_eq_true,decide_eq_true_eq] at h
 cases u with
 | nil=>simp at h
 | cons x t=>
  refine ⟨x,t,rfl,?_,h.1.2,qgv 0 _ h.2⟩
  have h2:=h.2
  rw [qS] at h2
  cases hx:qaR x with
  | true=>rfl
  | false=>rw [hx] at h2;simp at h2
theorem qg8 {kind:Int} {a:Nat} {p u r:Str} (hu:qbD u = true) (hr:Nl r):qaH (p ++ (u ++ r)) kind a p.length = (⟨kind,u,0,a⟩,p.length + u.length,0):=by
 obtain ⟨x,t,hx,hl,h16,ha⟩:=qfo hu
 have e:=qlg (q:=qaU) (p:=p) ha hr
 have g:(p ++ (u ++ r))[p.length]? = some x:=by rw [hx];simp
 rw [qaH,g]
 simp only [hl,if_true,e,qsD]
 rw [Nat.add_sub_cancel_left,if_pos h16,List.take_left']
 rfl
theorem qiM {x:UInt8} (h:qaR x = true):AE.blank x = false∧AE.sharp x = false∧x ≠ 62:=by
 simp only [qaR,Bool.and_eq_true,qay,decide_eq_true_eq] at h
 refine ⟨?_,?_,?_⟩
 ·simp only [AE.blank,Bool.or_eq_false_iff,beq_eq_false_iff_ne];omega
 ·simp only [AE.sharp,beq_eq_false_iff_ne];omega
 ·rintro rfl;simp at h
theorem L.name {u:Str} (h:qbD u = true):L Nl u [nm0 u]:=by
 obtain ⟨x,t,rfl,hl,h16,ha⟩:=qfo h
 obtain ⟨h1,h2,_⟩:=qiM hl
 refine .of h1 h2 fun p r hr=>⟨⟨0,x :: t,0,p.length⟩,rfl,?_⟩
 rw [lex,List.cons_append,at_]
 simp only [hl,if_true]
 exact qg8 (p:=p) (u:=x :: t) h hr
theorem Hd.name {u:Str} (h:qbD u = true):Hd u:=by
 obtain ⟨x,t,rfl,hl,_⟩:=qfo h
 exact ⟨x,t,rfl,(qiM hl).2.2⟩
theorem L.sym {u:Str} (h:qbD u = true):L Nl (39 :: u) [sy2 u]:=by
 refine .of (by rfl) (by rfl) fun p r hr=>⟨⟨2,u,0,p.length⟩,rfl,?_⟩
 rw [lex,List.cons_append,at_]
 simp only [show qaR 39 = false from rfl,Bool.false_eq_true,if_false,if_true]
 have:=qg8 (kind:=2) (a:=p.length) (p:=p ++ [39]) h hr
 rw [List.append_assoc,List.length_append] at this
 rw [show (39 :: (u ++ r)) = [39] ++ (u ++ r) from rfl]
 refine this.trans ?_
 simp
 omega
theorem qn8 {k:Nat} (h:k < 10):(UInt8.ofNat (48 + k)).toNat = 48 + k:=by
 rw [UInt8.toNat_ofNat']
 omega
theorem qwc (u:Nat):qdu (Lib.decDigits u) = u:=by
 induction u using Nat.strongRecOn with
 | _ u ih=>
  rw [Lib.decDigits]
  split
  ·rename_i h
   simp [qdu]
   omega
  ·rename_i h
   have:=ih (u / 10) (by omega)
   rw [qdu] at this ⊢
   rw [List.foldl_append,this]
   simp [qn8 (Nat.mod_lt u (by omega:10 > 0))]
   omega
theorem qnZ (u:Nat):∀c ∈ Lib.decDigits u,q9 c = true:=by
 have d:∀k,k < 10→q9 (UInt8.ofNat (48 + k)) = true:=fun k hk=>by
  simp only [q9,qn8 hk,Bool.and_eq_true,qay,decide_eq_true_eq]
  omega
 induction u using Nat.strongRecOn with
 | _ u ih=>
  intro c hc
  rw [Lib.decDigits] at hc
  split at hc
  ·rename_i h
   rw [List.mem_singleton] at hc
   subst hc
   exact d u h
  ·rename_i h
   rcases List.mem_append.1 hc with hc | hc
   ·exact ih (u / 10) (by omega) c hc
   ·rw [List.mem_singleton] at hc
    subst hc
    exact d _ (Nat.mod_lt u (by omega))
theorem qkM (u:Nat):∃c t,Lib.decDigits u = c :: t∧(c = 48→u = 0):=by
 induction u using Nat.strongRecOn with
 | _ u ih=>
  rw [Lib.decDigits]
  split
  ·rename_i h
   refine ⟨_,[],rfl,fun q=>?_⟩
   have:=congrArg UInt8.toNat q
   rw [qn8 h] at this
   simpa using this
  ·rename_i h
   obtain ⟨c,t,e,hc⟩:=ih (u / 10) (by omega)
   exact ⟨c,t ++ _,by rw [e];rfl,fun q=>by have:=hc q;omega⟩
theorem qkO {x:UInt8} (h:q9 x = true):AE.blank x = false∧AE.sharp x = false∧qaR x = false∧x ≠ 39∧x ≠ 62:=by
 simp only [q9,Bool.and_eq_true,qay,decide_eq_true_eq] at h
 refine ⟨?_,?_,?_,?_,?_⟩
 ·simp only [AE.blank,Bool.or_eq_false_iff,beq_eq_false_iff_ne];omega
 ·simp only [AE.sharp,beq_eq_false_iff_ne];omega
 ·simp only [qaR,Bool.and_eq_false_iff,qay,decide_eq_false_iff_not];omega
 ·rintro rfl;simp at h
 ·rintro rfl;simp at h
theorem L.num {n:Int} (h0:0 ≤ n) (h1:n ≤ 9223372036854775807):L Nl (Lib.itoa n) [in1 n]:=by
 obtain ⟨u,rfl⟩ :∃u:Nat,n = u:=⟨n.toNat,by omega⟩
 have hu:u ≤ qc2:=by unfold qc2;omega
 rw [show Lib.itoa (u:Int) = Lib.decDigits u by rw [Lib.itoa,if_neg (by omega)];rfl]
 have hd:=qnZ u
 have hn:=qwc u
 obtain ⟨x,t,e,hx⟩:=qkM u
 have hl1:x = 48→(x :: t).length = 1:=fun q=>by rw [←e,hx q,Lib.decDigits];rfl
 rw [e] at hd hn ⊢
 have hdx:=hd x (by simp)
 obtain ⟨g1,g2,g3,g4,_⟩:=qkO hdx
 refine .of g1 g2 fun p r hr=>⟨⟨1,[],u,p.length⟩,rfl,?_⟩
 have hr2:∀c ∈ r.head?,q9 c = false:=fun c hc=>by
  have:=hr c hc
  rw [qaU,Bool.or_eq_false_iff] at this
  exact this.2
 have er:=qlg (q:=q9) (p:=p) (u:=x :: t) (r:=r) hd hr2
 rw [lex,show x :: t ++ r = x :: (t ++ r) from rfl,at_]
 simp only [g3,g4,hdx,Bool.false_eq_true,if_false,if_true]
 rw [qeS,qbP,show x :: (t ++ r) = x :: t ++ r from rfl,er,qsD,Nat.add_sub_cancel_left,List.take_left',hn,if_neg,if_pos hu]
 ·rintro ⟨q,q2⟩
  have:=hl1 q
  omega
 ·rfl
theorem Hd.num {n:Int} (h0:0 ≤ n):Hd (Lib.itoa n):=by
 rw [show Lib.itoa n = Lib.decDigits n.toNat by rw [Lib.itoa,if_neg (by omega)]]
 have hd:=qnZ n.toNat
 obtain ⟨x,t,e,_⟩:=qkM n.toNat
 rw [e] at hd ⊢
 exact ⟨x,t,rfl,(qkO (hd x (by simp))).2.2.2.2⟩
def LA (u:Str) (ks:List PT):Prop:=L Nl u ks∧Hd u
theorem LA.inn {u:Str} {ks:List PT} (h:LA u ks) (k op:Int):LA (inn k (op,u)) (itk k (op,ks)):=by
 rw [AE.inn,itk]
 cases ile k (rk op) with
 | true=>exact h
 | false=>exact ⟨(L40.a0 (h.1.an L41 rfl)).tr,⟨40,_,rfl,by decide⟩⟩
theorem L.go {u v:Str} {a b:List PT} (hu:LA u a) (hv:L Tr v b) (hh:∀c ∈ v.head?,qaU c = false) (hne:v ≠ []):L Tr (u ++ v) (a ++ b):=
 hu.1.app hv fun r _ c hc=>by
  cases v with
  | nil=>exact absurd rfl hne
  | cons x v=>simp at hc;subst hc;exact hh x rfl
theorem LA.two {u v w:Str} {a b k:List PT} (hu:LA u a) (hw:L Tr w k) (hv:LA v b) (hh:∀c ∈ w.head?,qaU c = false) (hne:w ≠ []):LA (u ++ (w ++ v)) (a ++ (k ++ b)):=
 ⟨hu.1.app (hw.a0 hv.1) fun r _ c hc=>by
  cases w with
  | nil=>exact absurd rfl hne
  | cons x w=>simp at hc;subst hc;exact hh x rfl,hu.2.app⟩
theorem LA.join:∀(ps:List (Int×Str)) (qs:List (Int×List PT)),(∀(i:Nat) (p:Int×Str),ps[i]? = some p→∃q,qs[i]? = some q∧LA (AE.inn 0 p) (itk 0 q))→ps.length = qs.length→ps ≠ []→LA (qbz (ps.map (AE.inn 0))) (qcE (qs.map (itk 0)))
 | [],_,_,_,h=>absurd rfl h
 | p :: ps,[],_,hl,_=>by cases hl
 | p :: ps,q :: qs,h,hl,_=>by
  obtain ⟨q',e,h0⟩:=h 0 p rfl
  cases e
  rw [List.map_cons,List.map_cons]
  cases ps with
  | nil=>
   cases qs with
   | cons _ _=>cases hl
   | nil=>
    simp only [List.map_nil,qbz,qcE,List.flatten_nil,List.append_nil]
    exact h0
  | cons p2 ps=>
   cases qs with
   | nil=>cases hl
   | cons q2 qs=>
    have ih:=LA.join (p2 :: ps) (q2 :: qs) (fun i p hp=>h (i + 1) p hp) (by simpa using hl) (by simp)
    rw [show qbz (AE.inn 0 p :: (p2 :: ps).map (AE.inn 0)) = AE.inn 0 p ++ ([44,32] ++ qbz ((p2 :: ps).map (AE.inn 0))) by simp [qbz],show qcE (itk 0 q :: (q2 :: qs).map (itk 0)) = itk 0 q ++ ([mk3 [44]] ++ qcE ((q2 :: qs).map (itk 0))) by simp [qcE]]
    exact h0.two (L44.a0 L.blank) ih (by simp;rfl) (by simp)
theorem LA.tup {aS:List Exl} {f:Exl→Str} {g:Exl→List PT} (h:∀a ∈ aS,LA (f a) (g a)) (hne:aS ≠ []):LA (qkz (aS.map fun a=>(a.op,f a))) (qAl (aS.map fun a=>(a.op,g a))):=by
 have hj:=LA.join (aS.map fun a=>(a.op,f a)) (aS.map fun a=>(a.op,g a)) (fun i p hp=>by
  rw [List.getElem?_map] at hp ⊢
  cases ha:aS[i]? with
  | none=>rw [ha] at hp;cases hp
  | some a=>
   rw [ha] at hp
   cases hp
   exact ⟨_,rfl,(h a (List.mem_of_getElem? ha)).inn 0 a.op⟩) (by simp) (by simpa using hne)
 rw [qkz,qAl,List.length_map,List.length_map]
 generalize qbz _ = J at *
 generalize qcE _ = K at *
 have e:L Tr (bif aS.length == 1 then [44,41] else [41]) (bif aS.length == 1 then [mk3 [44],mk3 [41]] else [mk3 [41]]):=by
  cases aS.length == 1 with
  | true=>exact L44.a0 L41
  | false=>exact L41
 exact ⟨(L40.a0 (L.go hj e (by cases aS.length == 1 <;> (simp;rfl)) (by cases aS.length == 1 <;> simp))).tr,⟨40,_,rfl,by decide⟩⟩
theorem LA.cut {nm:Str} {w:Str} {k:List PT} (hw:L Tr (w ++ [40]) k) (hh:Hd (w ++ [40])) (hn:qbD nm = true):LA ((w ++ [40]) ++ (nm ++ [41])) (k ++ [nm0 nm,mk3 [41]]):=
 ⟨(hw.a0 ((L.name hn).an L41 rfl)).tr,hh.app⟩
theorem qdf {nm:Str} (h:qA nm = true):qbD nm = true:=by
 rw [qA,Bool.and_eq_true] at h
 exact h.1
theorem qzW {op n:Int} {nm sb:Str} {aS:List Exl} {f:Exl→Str} {g:Exl→List PT} (hb:qgA op n nm sb aS.length = true) (hn:n ≤ 9223372036854775807) (h:∀a ∈ aS,LA (f a) (g a)):LA (ntx op n nm sb (aS.map fun a=>(a.op,f a))) (ntk op n nm sb (aS.map fun a=>(a.op,g a))):=by
 have ho:0 ≤ op∧op ≤ 25:=Decidable.byContradiction fun hc=>by rw [qcl hc] at hb;cases hb
 have an:∀{a b:Bool},(a && b) = true→a = true∧b = true:=fun h=>(Bool.and_eq_true _ _).mp h
 have:op = 0∨op = 1∨op = 2∨op = 3∨op = 4∨op = 5∨op = 6∨op = 7∨op = 8∨op = 9∨op = 10∨op = 11∨op = 12∨op = 13∨op = 14∨op = 15∨op = 16∨op = 17∨op = 18∨op = 19∨op = 20∨op = 21∨op = 22∨op = 23∨op = 24∨op = 25:=by omega
 have kw:∀{w:Str},qbD w = true→LA w [nm0 w]:=fun h=>⟨.name h,.name h⟩
 rcases this with rfl | rfl | rfl | rfl | rfl | rfl | rfl | rfl | rfl | rfl | rfl | rfl | rfl | rfl | rfl | rfl | rfl | rfl | rfl | rfl | rfl | rfl | rfl | rfl | rfl | rfl
 ·obtain ⟨h1,h2⟩:=an (show (fB true false false 0 0 n nm sb aS.length && ile 0 n) = true from hb)
  rw [qay] at h2
  have h2:=of_decide_eq_true h2
  exact ⟨.num h2 hn,.num h2⟩
 ·have h1:fB false false false 0 0 n nm sb aS.length = true:=hb
  exact kw rfl
 ·have h1:fB false false false 0 0 n nm sb aS.length = true:=hb
  exact kw rfl
 ·obtain ⟨h1,h2⟩:=an (show (fB false true false 0 0 n nm sb aS.length && qbD nm) = true from hb)
  exact ⟨.sym h2,⟨39,_,rfl,by decide⟩⟩
 ·obtain ⟨h1,h2⟩:=an (show (fB false true false 0 0 n nm sb aS.length && qA nm) = true from hb)
  exact kw (qdf h2)
 ·obtain ⟨h1,h2⟩:=an (show (fB false true true 0 0 n nm sb aS.length && (qA nm && qA sb)) = true from hb)
  exact (kw (qdf (an h2).1)).two L46 (kw (qdf (an h2).2)) (by simp;rfl) (by simp)
 ·have h1:fB false false false 1 4 n nm sb aS.length = true:=hb
  exact LA.tup h (by rintro rfl;have:=qp h1;simp at this)
 ·obtain ⟨h1,h2⟩:=an (show (fB false true false 0 0 n nm sb aS.length && qA nm) = true from hb)
  exact LA.cut (w:=[99,111,117,110,116]) (L.go (kw rfl) L40 (by simp;rfl) (by simp)) ((Hd.name rfl).app) (qdf h2)
 ·obtain ⟨h1,h2⟩:=an (show (fB false true false 0 0 n nm sb aS.length && qA nm) = true from hb)
  exact LA.cut (w:=[104,97,115]) (L.go (kw rfl) L40 (by simp;rfl) (by simp)) ((Hd.name rfl).app) (qdf h2)
 ·obtain ⟨h1,h2⟩:=an (show (fB false true false 0 0 n nm sb aS.length && qA nm) = true from hb)
  exact LA.cut (w:=[115,117,109]) (L.go (kw rfl) L40 (by simp;rfl) (by simp)) ((Hd.name rfl).app) (qdf h2)
 ·obtain ⟨h1,h2⟩:=an (show (fB false true false 1 1 n nm sb aS.length && qA nm) = true from hb)
  obtain ⟨a,rfl⟩:=qbJ (l:=aS) (by have:=qp h1;omega)
  have ha:=fun k=>(h a (by simp)).inn k a.op
  have h0:L Tr ([108,101,97,115,116] ++ [40]) _:=L.go (kw rfl) L40 (by simp;rfl) (by simp)
  have h3:=h0.a0 ((kw (qdf h2)).1.an (L44.a0 (L.blank.a0 (L.go (ha 0) L41 (by simp;rfl) (by simp)))) rfl)
  exact ⟨h3.tr,⟨_,_,rfl,by decide⟩⟩
 ·have h1:fB false false false 0 0 n nm sb aS.length = true:=hb
  exact kw rfl
 ·obtain ⟨h1,h2⟩:=an (show (fB true false false 1 1 n nm sb aS.length && (ile 0 n && ilt n 4)) = true from hb)
  obtain ⟨a,rfl⟩:=qbJ (l:=aS) (by have:=qp h1;omega)
  have ha:=fun k=>(h a (by simp)).inn k a.op
  have hx:=(an h2).1
  rw [qay] at hx
  have hx:=of_decide_eq_true hx
  exact (ha _).two L46 ⟨.num hx hn,.num hx⟩ (by simp;rfl) (by simp)
 ·have h1:fB false false false 1 1 n nm sb aS.length = true:=hb
  obtain ⟨a,rfl⟩:=qbJ (l:=aS) (by have:=qp h1;omega)
  have ha:=fun k=>(h a (by simp)).inn k a.op
  exact ⟨L45.app (ha 7).1 fun r _=>(ha 7).2.app,⟨45,_,rfl,by decide⟩⟩
 ·have h1:fB false false false 1 1 n nm sb aS.length = true:=hb
  obtain ⟨a,rfl⟩:=qbJ (l:=aS) (by have:=qp h1;omega)
  have ha:=fun k=>(h a (by simp)).inn k a.op
  have h0:L Tr ([110,111,116] ++ [32]) _:=L.go (kw rfl) L.blank (by simp;rfl) (by simp)
  exact ⟨h0.a0 (ha 3).1,⟨_,_,rfl,by decide⟩⟩
 ·have h1:fB false false false 2 2 n nm sb aS.length = true:=hb
  obtain ⟨a,b,rfl⟩:=qaw (l:=aS) (by have:=qp h1;omega)
  have ha:=fun k=>(h a (by simp)).inn k a.op
  have hb:=fun k=>(h b (by simp)).inn k b.op
  exact (ha _).two (L.blank.a0 (L43.a0 L.blank)) (hb _) (by simp [ntx,sgn];rfl) (by simp)
 ·have h1:fB false false false 2 2 n nm sb aS.length = true:=hb
  obtain ⟨a,b,rfl⟩:=qaw (l:=aS) (by have:=qp h1;omega)
  have ha:=fun k=>(h a (by simp)).inn k a.op
  have hb:=fun k=>(h b (by simp)).inn k b.op
  exact (ha _).two (L.blank.a0 (qDg)) (hb _) (by simp [ntx,sgn];rfl) (by simp)
 ·have h1:fB false false false 2 2 n nm sb aS.length = true:=hb
  obtain ⟨a,b,rfl⟩:=qaw (l:=aS) (by have:=qp h1;omega)
  have ha:=fun k=>(h a (by simp)).inn k a.op
  have hb:=fun k=>(h b (by simp)).inn k b.op
  exact (ha _).two (L.blank.a0 (L42.a0 L.blank)) (hb _) (by simp [ntx,sgn];rfl) (by simp)
 ·have h1:fB false false false 2 2 n nm sb aS.length = true:=hb
  obtain ⟨a,b,rfl⟩:=qaw (l:=aS) (by have:=qp h1;omega)
  have ha:=fun k=>(h a (by simp)).inn k a.op
  have hb:=fun k=>(h b (by simp)).inn k b.op
  exact (ha _).two (L.blank.a0 (L47.a0 L.blank)) (hb _) (by simp [ntx,sgn];rfl) (by simp)
 ·have h1:fB false false false 2 2 n nm sb aS.length = true:=hb
  obtain ⟨a,b,rfl⟩:=qaw (l:=aS) (by have:=qp h1;omega)
  have ha:=fun k=>(h a (by simp)).inn k a.op
  have hb:=fun k=>(h b (by simp)).inn k b.op
  exact (ha _).two (L.blank.a0 (L37.a0 L.blank)) (hb _) (by simp [ntx,sgn];rfl) (by simp)
 ·have h1:fB false false false 2 2 n nm sb aS.length = true:=hb
  obtain ⟨a,b,rfl⟩:=qaw (l:=aS) (by have:=qp h1;omega)
  have ha:=fun k=>(h a (by simp)).inn k a.op
  have hb:=fun k=>(h b (by simp)).inn k b.op
  exact (ha _).two (L.blank.a0 (L61.a0 L.blank)) (hb _) (by simp [ntx,sgn];rfl) (by simp)
 ·have h1:fB false false false 2 2 n nm sb aS.length = true:=hb
  obtain ⟨a,b,rfl⟩:=qaw (l:=aS) (by have:=qp h1;omega)
  have ha:=fun k=>(h a (by simp)).inn k a.op
  have hb:=fun k=>(h b (by simp)).inn k b.op
  exact (ha _).two (L.blank.a0 (qDh)) (hb _) (by simp [ntx,sgn];rfl) (by simp)
 ·have h1:fB false false false 2 2 n nm sb aS.length = true:=hb
  obtain ⟨a,b,rfl⟩:=qaw (l:=aS) (by have:=qp h1;omega)
  have ha:=fun k=>(h a (by simp)).inn k a.op
  have hb:=fun k=>(h b (by simp)).inn k b.op
  exact (ha _).two (L.blank.a0 (qAG.a0 L.blank)) (hb _) (by simp [ntx,sgn];rfl) (by simp)
 ·have h1:fB false false false 2 2 n nm sb aS.length = true:=hb
  obtain ⟨a,b,rfl⟩:=qaw (l:=aS) (by have:=qp h1;omega)
  have ha:=fun k=>(h a (by simp)).inn k a.op
  have hb:=fun k=>(h b (by simp)).inn k b.op
  exact (ha _).two (L.blank.a0 (L.go (kw (w:=[97,110,100]) rfl) L.blank (by simp;rfl) (by simp))) (hb _) (by simp [ntx,sgn];rfl) (by simp)
 ·have h1:fB false false false 2 2 n nm sb aS.length = true:=hb
  obtain ⟨a,b,rfl⟩:=qaw (l:=aS) (by have:=qp h1;omega)
  have ha:=fun k=>(h a (by simp)).inn k a.op
  have hb:=fun k=>(h b (by simp)).inn k b.op
  exact (ha _).two (L.blank.a0 (L.go (kw (w:=[111,114]) rfl) L.blank (by simp;rfl) (by simp))) (hb _) (by simp [ntx,sgn];rfl) (by simp)
 ·have h1:fB false false false 3 3 n nm sb aS.length = true:=hb
  obtain ⟨a,b,c,rfl⟩:=qe4 (l:=aS) (by have:=qp h1;omega)
  have ha:=fun k=>(h a (by simp)).inn k a.op
  have hb:=fun k=>(h b (by simp)).inn k b.op
  have hc:=fun k=>(h c (by simp)).inn k c.op
  have h0:L Tr ([105,102] ++ [32]) _:=L.go (kw rfl) L.blank (by simp;rfl) (by simp)
  have t0:L Tr ([32] ++ ([116,104,101,110] ++ [32])) _:=L.blank.a0 (L.go (kw rfl) L.blank (by simp;rfl) (by simp))
  have e0:L Tr ([32] ++ ([101,108,115,101] ++ [32])) _:=L.blank.a0 (L.go (kw rfl) L.blank (by simp;rfl) (by simp))
  exact ⟨h0.a0 ((ha 0).two t0 ((hb 0).two e0 (hc 0) (by simp;rfl) (by simp)) (by simp;rfl) (by simp)).1,⟨_,_,rfl,by decide⟩⟩
theorem qDd:∀(d:Nat) (e:Exl),right d e = true→OkN e→LA (tx d e) (tk d e)
 | 0,_,h,_=>by rw [right] at h;cases h
 | d + 1,.mk op n nm sb aS,h,hn=>by
  rw [right,Bool.and_eq_true,List.all_eq_true] at h
  rw [OkN] at hn
  exact qzW h.1 hn.1 fun a ha=>qDd d a (h.2 a ha) (hn.2 a ha)
theorem quG {e:Exl} (h:right 20 e = true) (hn:OkN e):∃us,us.map tri = tk 20 e∧RW (tx 20 e) 0 (us ++ [⟨4,[],0,(tx 20 e).length⟩]) none:=by
 obtain ⟨us,h1,h2⟩:=(qDd 20 e h hn).1 [] [] [⟨4,[],0,(tx 20 e).length⟩] none (fun c hc=>by cases hc) (by
  have:=RW.fin (s:=tx 20 e)
  simpa using this)
 exact ⟨us,h1,by simpa using h2⟩
end Go.Proofs.YtkmlapholimbcaaGreatDoor.AE
namespace Go.Proofs.YtkmlapholimbcaaGreatDoor.AE
open Go.AE
theorem qn9 {c:UInt8} (hd:q9 c = true):48 ≤ c.toNat∧c.toNat ≤ 57:=by
 simp only [q9,qay,Bool.and_eq_true,decide_eq_true_eq] at hd
 omega
theorem qg5:∀s:Str,Lib.indexByte s 10 = qdi s
 | []=>rfl
 | c :: s=>by
  have ih:=qg5 s
  rw [Lib.indexByte]
  simp only [qdi,qcd,List.findIdx?_cons] at ih ⊢
  cases hb:(c == 10) with
  | true=>simp
  | false=>
   simp only [Bool.false_eq_true,if_false]
   rw [ih]
   cases hf:List.findIdx? (fun x=>x == 10) s with
   | none=>simp
   | some k=>simp
theorem qw0:qcR:=by
 intro s h
 rw [show Wd = W T.get X from rfl,qhx qfp (show X 133 = some qgp from rfl)]
 show some (qcD.ret (qa.int .i64 (Lib.indexByte s ((10:Int).toNat.toUInt8))),h,false) = _
 rw [show ((10:Int).toNat.toUInt8) = 10 from rfl,qg5]
theorem qfH:∀(l:Str) (acc:Nat),l.all q9 = true→acc < 18446744073709551616→
  (Lib.parseUint10 acc l = .ok (l.foldl (fun a c=>a * 10 + (c.toNat - 48)) acc)∧l.foldl (fun a c=>a * 10 + (c.toNat - 48)) acc < 18446744073709551616)∨
  (Lib.parseUint10 acc l = .range∧18446744073709551616 ≤ l.foldl (fun a c=>a * 10 + (c.toNat - 48)) acc)
 | [],acc,_,h=>.inl ⟨rfl,h⟩
 | c :: l,acc,hd,h=>by
  rw [List.all_cons,Bool.and_eq_true] at hd
  obtain ⟨d1,d2⟩:=qn9 hd.1
  have mono:∀(l:Str) (a b:Nat),a ≤ b→l.foldl (fun a c=>a * 10 + (c.toNat - 48)) a ≤ l.foldl (fun a c=>a * 10 + (c.toNat - 48)) b:=by
   intro l
   induction l with
   | nil=>intro a b h;exact h
   | cons c l ih=>intro a b h;exact ih _ _ (by show a * 10 + _ ≤ b * 10 + _;omega)
  have grow:∀(l:Str) (a:Nat),a ≤ l.foldl (fun a c=>a * 10 + (c.toNat - 48)) a:=by
   intro l
   induction l with
   | nil=>intro a;exact Nat.le_refl _
   | cons c l ih=>intro a;exact Nat.le_trans (by show a ≤ a * 10 + _;omega) (ih _)
  rw [Lib.parseUint10,if_pos ⟨d1,d2⟩,List.foldl_cons]
  by_cases h1:1844674407370955162 ≤ acc
  ·rw [if_pos h1]
   exact .inr ⟨rfl,Nat.le_trans (by omega) (grow l _)⟩
  ·rw [if_neg h1]
   by_cases h2:18446744073709551616 ≤ acc * 10 + (c.toNat - 48)
   ·rw [if_pos h2]
    exact .inr ⟨rfl,Nat.le_trans h2 (grow l _)⟩
   ·rw [if_neg h2]
    exact qfH l _ hd.2 (by omega)
theorem qjp {d:Str} (hne:d ≠ []) (hd:d.all q9 = true):Lib.atoiAll d = if qdu d ≤ qc2 then .ok (qdu d:Nat) else .range:=by
 cases d with
 | nil=>exact absurd rfl hne
 | cons c r=>
  have hc:=hd
  rw [List.all_cons,Bool.and_eq_true] at hc
  obtain ⟨d1,d2⟩:=qn9 hc.1
  have h43:¬ (c.toNat = 43):=by omega
  have h45:¬ (c.toNat = 45):=by omega
  rw [Lib.atoiAll]
  simp only [h43,Lib.parseMag,reduceCtorEq,if_false,h45,or_self,not_false_eq_true,true_and,false_and]
  rcases qfH (c :: r) 0 hd (by omega) with ⟨p1,p2⟩ | ⟨p1,p2⟩
  ·rw [p1]
   by_cases hq:qdu (c :: r) ≤ qc2
   ·rw [if_pos hq]
    show (if 9223372036854775808 ≤ qdu (c :: r) then Lib.NumEnd.range else Lib.NumEnd.ok (qdu (c :: r):Int)) = _
    rw [if_neg (by simp only [qc2] at hq;omega)]
   ·rw [if_neg hq]
    show (if 9223372036854775808 ≤ qdu (c :: r) then Lib.NumEnd.range else Lib.NumEnd.ok (qdu (c :: r):Int)) = _
    rw [if_pos (by simp only [qc2] at hq;omega)]
  ·rw [p1,if_neg]
   show ¬ qdu (c :: r) ≤ qc2
   have p2':18446744073709551616 ≤ qdu (c :: r):=p2
   simp only [qc2]
   omega
theorem qy0:qni:=by
 intro d hne hl hd
 have ha:=qjp hne hd
 have hb:Nat.ble d.length 100000 = true:=Nat.ble_eq_true_of_le hl
 refine ⟨fun h=>?_,fun h=>?_⟩
 ·rw [if_pos h] at ha
  intro hp
  obtain ⟨t,ht⟩ :∃t,X 146 = some (qgT t):=⟨_,rfl⟩
  rw [show Wd = W T.get X from rfl,qhx qfp ht]
  simp only [qgT,List.nil_append,List.append_nil,hb,cond_true,ha]
 ·rw [if_neg (by omega)] at ha
  intro hp
  obtain ⟨t,ht⟩ :∃t,X 146 = some (qgT t):=⟨_,rfl⟩
  refine ⟨Lib.atoiSat d,t,.undef,[],?_⟩
  rw [show Wd = W T.get X from rfl,qhx qfp ht]
  simp only [qgT,List.nil_append,List.append_nil,hb,cond_true,ha]
end Go.Proofs.YtkmlapholimbcaaGreatDoor.AE
namespace Go.Proofs.YtkmlapholimbcaaGreatDoor.AE
open Go.AE
def ψ0:Int→Nat→Bool:=fun _ _=>false
theorem qy8:∀e:Exl,e.cv.cs ψ0 = e.enc
 | .mk op n nm sb aS=>by
  rw [qsj,Exp.cs,qa6,qcu,List.map_map]
  have:aS.map (Exp.enc ψ0 ∘ Exl.cv) = aS.map exV:=List.map_congr_left fun a ha=>by
   show Exp.enc ψ0 a.cv = exV a
   rw [Exp.enc,exV,qy8 a]
  rw [this]
  rfl
theorem qy9 (e:Exl):e.cv.enc ψ0 = exV e:=by rw [Exp.enc,exV,qy8]
def SX (φ ψ:Int→Nat→Bool) (e:Exp):Prop:=∀h,Wd (.fn 12 [] []) [e.enc φ,e.enc ψ] h = some (.ret (.bool true),h,false)
theorem qrk {φ ψ:Int→Nat→Bool} {h:List qf} {op n:Int} {name sub:Str} {args:List Exp} {b c:Bool} (hl:args.length ≤ 100000) (ih:∀e ∈ args,SX φ ψ e) :
  ∀(k i:Nat) (tt:List qa),i + k = args.length→tt.length = 60→lkp tt 2 = .ptr h.length 0→lkp tt 3 = .ptr (h.length + 1) 0→lkp tt 5 = .int .i64 (i:Nat)→
  ∃tt',qo h.length Wd (.loop qmh) ⟨tt,h ++ [.cells [.int .i64 op,.int .i64 n,.str name,.str sub,.lst (qbp φ args) (fl b)],.cells [.int .i64 op,.int .i64 n,.str name,.str sub,.lst (qbp ψ args) (fl c)]],false⟩ = some (.exit 0,⟨tt',h ++ [.cells [.int .i64 op,.int .i64 n,.str name,.str sub,.lst (qbp φ args) (fl b)],.cells [.int .i64 op,.int .i64 n,.str name,.str sub,.lst (qbp ψ args) (fl c)]],false⟩)∧tt'.length = 60:=by
 intro k
 induction k with
 | zero=>
  intro i tt hk ht e2 e3 e5
  have c1:ilt (i:Int) ((qbp φ args).length:Int) = false:=by rw [qM,qdD];simp;omega
  rw [qm]
  simp only [qmh,sT.1,sC.1,qc,qb,Nat.testBit,simprocAttr,-Int.reduceNatCast',ht,e2,e5,qfx,c1]
  exact ⟨_,rfl,by simp only [qj,ht]⟩
 | succ k ihk=>
  intro i tt hk ht e2 e3 e5
  have hi:i < args.length:=by omega
  have c1:ilt (i:Int) ((qbp φ args).length:Int) = true:=by rw [qM,qdD];simp;omega
  have hx:qc7 5 (.lst (qbp φ args) (fl b)) (.int .i64 (i:Nat)) = some (.iptr (args[i].cs φ) 0):=qF (x:=args[i].enc φ) (by rw [qcu,List.getElem?_map,List.getElem?_eq_getElem hi];rfl) (Exp.cs_len φ _)
  have hy:qc7 5 (.lst (qbp ψ args) (fl c)) (.int .i64 (i:Nat)) = some (.iptr (args[i].cs ψ) 0):=qF (x:=args[i].enc ψ) (by rw [qcu,List.getElem?_map,List.getElem?_eq_getElem hi];rfl) (Exp.cs_len ψ _)
  have w2:=qX (n:=i) (by omega)
  have hc:=ih args[i] (List.getElem_mem hi)
  unfold SX at hc
  rw [qm]
  generalize he:qo h.length Wd qmh _ = R
  simp only [qmh,sT.1,sC.1,qc,qb,Nat.testBit,simprocAttr,-Int.reduceNatCast',ht,e2,e3,e5,qfx,c1,hx,hy,Exp.cut,Exp.dimE,Exp.drainE,hc,w2] at he
  subst he
  refine ihk (i + 1) _ (by omega) ?_ ?_ ?_ ?_
  all_goals simp only [sT.1,sC.1,qc,qb,Nat.testBit,simprocAttr,-Int.reduceNatCast',ht,e2,e3]
theorem qyc {φ ψ:Int→Nat→Bool} {op n:Int} {name sub:Str} {args:List Exp} (hl:args.length ≤ 100000) (hm:∀e ∈ args,SX φ ψ e):SX φ ψ (.mk op n name sub args):=by
 intro h
 have c5:(((qbp φ args).length:Int) == ((qbp ψ args).length:Int)) = true:=by rw [qdD,qdD];simp
 rw [qi rfl (show T.get 12 = some c12 by kernel_rfl)]
 generalize hR:qeo _ h _ = R
 simp only [c12,sT.1,sC.1,qc,qb,Nat.testBit,simprocAttr,-Int.reduceNatCast',Exp.enc,Exp.cs,qfx,c5] at hR
 generalize hq:qo h.length Wd (.loop qmh) _ = r at hR
 obtain ⟨tt,rfl,ht⟩ :∃tt,r = some (.exit 0,⟨tt,h ++ [.cells [.int .i64 op,.int .i64 n,.str name,.str sub,.lst (qbp φ args) (fl (φ op args.length))],.cells [.int .i64 op,.int .i64 n,.str name,.str sub,.lst (qbp ψ args) (fl (ψ op args.length))]],false⟩)∧tt.length = 60:=by
  rw [←hq]
  refine qrk hl hm args.length 0 _ (by omega) ?_ ?_ ?_ ?_
  all_goals simp only [sT.1,sC.1,qc,qb,Nat.testBit,simprocAttr,-Int.reduceNatCast',Int.natCast_zero]
 rw [←hR]
 simp only [sT.1,sC.1,qc,qb,Nat.testBit,simprocAttr,-Int.reduceNatCast',ht]
theorem qtV {op n:Int} {nm sb:Str} {k:Nat} (h:qgA op n nm sb k = true):k ≤ 4:=by
 have ho:0 ≤ op∧op ≤ 25:=Decidable.byContradiction fun hc=>by rw [qcl hc] at h;cases h
 have an:∀{a b:Bool},(a && b) = true→a = true:=fun h=>((Bool.and_eq_true _ _).mp h).1
 have:op = 0∨op = 1∨op = 2∨op = 3∨op = 4∨op = 5∨op = 6∨op = 7∨op = 8∨op = 9∨op = 10∨op = 11∨op = 12∨op = 13∨op = 14∨op = 15∨op = 16∨op = 17∨op = 18∨op = 19∨op = 20∨op = 21∨op = 22∨op = 23∨op = 24∨op = 25:=by omega
 have g:∀{a b c:Bool} {lo hi:Int},hi ≤ 4→fB a b c lo hi n nm sb k = true→k ≤ 4:=fun h4 h=>by have:=(qp h).2;omega
 rcases this with rfl | rfl | rfl | rfl | rfl | rfl | rfl | rfl | rfl | rfl | rfl | rfl | rfl | rfl | rfl | rfl | rfl | rfl | rfl | rfl | rfl | rfl | rfl | rfl | rfl | rfl
 all_goals first
  | exact g (by decide) (show fB _ _ _ _ _ n nm sb k = true from h)
  | exact g (by decide) (an (show (fB _ _ _ _ _ n nm sb k && _) = true from h))
theorem qvt {φ ψ:Int→Nat→Bool}:∀(d:Nat) (e:Exl),right d e = true→SX φ ψ e.cv
 | 0,_,h=>by rw [right] at h;cases h
 | d + 1,.mk op n nm sb aS,h=>by
  rw [right,Bool.and_eq_true,List.all_eq_true] at h
  rw [qsj]
  refine qyc (by rw [List.length_map];have:=qtV h.1;omega) fun x hx=>?_
  obtain ⟨a,ha,rfl⟩:=List.mem_map.1 hx
  exact qvt d a (h.2 a ha)
theorem qrl {e:Exl} (h:right 20 e = true) (G:List qf):Wd (.fn 12 [] []) [e.cv.enc φP,exV e] G = some (.ret (.bool true),G,false):=by
 have:=qvt (φ:=φP) (ψ:=ψ0) 20 e h G
 rwa [qy9] at this
theorem qAi {ws:List Tok} {ks:List PT} (h:ws.map tri = ks):See ws 0 ks:=by
 subst h
 intro i t ht
 rw [List.getElem?_map] at ht
 have hi:i < ws.length:=Decidable.byContradiction fun hc=>by rw [List.getElem?_eq_none (by omega)] at ht;cases ht
 rw [qh7 hi] at ht
 cases ht
 rw [Nat.zero_add]
 exact ⟨hi,rfl⟩
theorem qrc {e:Exl} (h:right 20 e = true) (hn:OkN e) (hl:(tx 20 e).length ≤ 16384) (G:List qf):Wd (.fn 11 [] []) [.str (tx 20 e)] G = some (.ret (.tup [e.cv.enc φP,.int .i64 0,.int .i64 0]),G,false):=by
 obtain ⟨us,h1,hW⟩:=quG h hn
 have hWd:=hW.words qy0 (by omega)
 have hle:=hW.le
 obtain ⟨hw,h0⟩:=hW.wf hl
 have hS:quP (tx 20 e) (us ++ [⟨4,[],0,(tx 20 e).length⟩]):=fun h=>qyd qw0 hl hWd (by omega)
 have hsee:See (us ++ [⟨4,[],0,(tx 20 e).length⟩]) 0 (tk 20 e ++ [(4,[],0)]):=qAi (by rw [List.map_append,h1];rfl)
 exact qwB ⟨e.cv,rfl⟩ fun G=>qAh hS fun G i hi=>qjq hw h hsee hi
end Go.Proofs.YtkmlapholimbcaaGreatDoor.AE
namespace Go.Proofs.YtkmlapholimbcaaGreatDoor.AE
open Go.AE
theorem qqc (c:Int):qer 1 [.int .u8 0] 1 [(0,.int .u8 c)] = some (.lst [.int .u8 c] .full):=by kernel_rfl
theorem qDc (m:Nat):((m:Nat):Int).tmod 10 = ((m % 10:Nat):Int):=by
 rw [Int.tmod_eq_emod_of_nonneg (by omega)];rfl
theorem qDb (m:Nat):((m:Nat):Int).tdiv 10 = ((m / 10:Nat):Int):=by
 rw [Int.tdiv_eq_ediv_of_nonneg (by omega)];rfl
theorem qDf (m:Nat):IntKind.i64.wrap (48 + ((m % 10:Nat):Int)) = ((48 + m % 10:Nat):Int):=by rw [qbf (by omega) (by omega)];omega
theorem qDe (m:Nat):IntKind.u8.wrap ((48 + m % 10:Nat):Int) = ((48 + m % 10:Nat):Int):=by
 have h:m % 10 < 10:=Nat.mod_lt _ (by omega)
 generalize m % 10 = k at *
 have:k = 0∨k = 1∨k = 2∨k = 3∨k = 4∨k = 5∨k = 6∨k = 7∨k = 8∨k = 9:=by omega
 rcases this with rfl | rfl | rfl | rfl | rfl | rfl | rfl | rfl | rfl | rfl <;> rfl
theorem qkN (m:Nat):Lib.decDigits m = (bif ilt 0 ((m / 10:Nat):Int) then Lib.decDigits (m / 10) else []) ++ [UInt8.ofNat (48 + m % 10)]:=by
 rw [Lib.decDigits]
 split
 ·rename_i h
  rw [qM,decide_eq_false (by omega),cond_false,List.nil_append,Nat.mod_eq_of_lt h]
 ·rw [qM,decide_eq_true (by omega),cond_true]
section
variable {G:List qf}
theorem qnj {n:Int} (h0:0 ≤ n) (h1:n ≤ 9223372036854775807):Wd (.fn 40 [] []) [.int .i64 n] G = some (.ret (.str (Lib.itoa n)),G,false):=by
 obtain ⟨m,rfl⟩ :∃m:Nat,n = m:=⟨n.toNat,by omega⟩
 have hT:(Lib.decDigits m).length ≤ 19:=(qjy 18 m (by omega)).2
 have ht0:Lib.itoa (m:Int) = Lib.decDigits m:=by rw [Lib.itoa,if_neg (by omega)];rfl
 rw [ht0]
 generalize hD:Lib.decDigits m = U at hT
 have loop:∀k st,(∃(tt:List qa) (q:Nat) (s:Str),st = ⟨tt,G,false⟩∧tt.length = 25∧lkp tt 0 = .int .i64 (q:Nat)∧lkp tt 3 = .str s∧q ≤ k∧q ≤ 9223372036854775807∧U = (bif ilt 0 (q:Int) then Lib.decDigits q else []) ++ s)→
   ∃x st',qo G.length Wd (.loop qmi) st = some (x,st')∧(∃tt:List qa,st' = ⟨tt,G,false⟩∧tt.length = 25∧lkp tt 3 = .str U∧x = .exit 0):=by
  refine qbj _ (fun x st'=>∃tt:List qa,st' = ⟨tt,G,false⟩∧tt.length = 25∧lkp tt 3 = .str U∧x = .exit 0) ?_
  rintro k st ⟨tt,q,s,rfl,ht,e0,e3,hk,hq,hs⟩
  generalize he:qo G.length Wd qmi _ = r
  cases c:ilt 0 (q:Int) with
  | false=>
   rw [c,cond_false,List.nil_append] at hs
   simp only [qmi,sT.1,sC.1,qc,qb,Nat.testBit,simprocAttr,-Int.reduceNatCast',ht,e0,e3,c] at he
   subst he
   refine .inr ⟨_,_,rfl,by simp,_,rfl,by simp only [qj,ht],?_,rfl⟩
   simp only [sT.1,sC.1,qc,qb,Nat.testBit,simprocAttr,-Int.reduceNatCast',ht,e3,hs]
  | true=>
   have cq:0 < q:=by rw [qM] at c;have:=of_decide_eq_true c;omega
   rw [c,cond_true,qkN,List.append_assoc] at hs
   have hl:s.length ≤ 19:=by have:=congrArg List.length hs;simp at this;omega
   have q1:1 + s.length ≤ qu:=by unfold qu;omega
   have wq:IntKind.i64.wrap ((q / 10:Nat):Int) = ((q / 10:Nat):Int):=qbf (by omega) (by omega)
   have tn:((48 + q % 10:Nat):Int).toNat = 48 + q % 10:=Int.toNat_natCast _
   simp only [qmi,sT.1,sC.1,qc,qb,Nat.testBit,simprocAttr,-Int.reduceNatCast',ht,e0,e3,c,qDc,qDb,qDf,qDe,qqc,tn,wq,q1,if_true] at he
   subst he
   refine .inl ⟨_,q / 10,rfl,by omega,_,q / 10,UInt8.ofNat (48 + q % 10) :: s,rfl,by simp only [qj,ht],?_,?_,by omega,by omega,hs⟩
   all_goals simp only [sT.1,sC.1,qc,qb,Nat.testBit,simprocAttr,-Int.reduceNatCast',ht,e0,e3]
 rw [qkN] at hD
 have wq:IntKind.i64.wrap ((m / 10:Nat):Int) = ((m / 10:Nat):Int):=qbf (by omega) (by omega)
 have tn:((48 + m % 10:Nat):Int).toNat = 48 + m % 10:=Int.toNat_natCast _
 generalize hw:Wd _ _ G = w
 rw [qi rfl (show T.get 40 = some c40 by kernel_rfl)] at hw
 simp only [c40,sT.1,sC.1,qc,qb,Nat.testBit,simprocAttr,-Int.reduceNatCast',qDc,qDb,qDf,qDe,qqc,tn,wq] at hw
 generalize hr:qo G.length Wd (.loop qmi) _ = r at hw
 obtain ⟨x,st',rfl,tt,rfl,ht,e3,rfl⟩:=qgr hr (loop (m / 10) _ ⟨_,m / 10,_,rfl,by simp only [sT.1,sC.1,qc,qb,Nat.testBit,simprocAttr,-Int.reduceNatCast'],by simp only [sT.1,sC.1,qc,qb,Nat.testBit,simprocAttr,-Int.reduceNatCast'],by simp only [sT.1,sC.1,qc,qb,Nat.testBit,simprocAttr,-Int.reduceNatCast'],by omega,by omega,hD.symm⟩)
 simp only [sT.1,sC.1,qc,qb,Nat.testBit,simprocAttr,-Int.reduceNatCast',ht,e3] at hw
 subst hw
 rfl
theorem qbk {op:Int} (h0:0 ≤ op) (h1:op ≤ 25):Wd (.fn 23 [] []) [.int .i64 op] G = some (.ret (.int .i64 (rk op)),G,false):=by
 obtain ⟨k,rfl⟩ :∃k:Nat,op = k:=⟨op.toNat,by omega⟩
 have hx:qc7 1 (.lst (ranks.map (qa.int .i64)) .full) (.int .i64 (k:Nat)) = some (.iptr [.int .i64 (rk (k:Nat))] 0):=by
  have hk:k < ranks.length:=by show k < 26;omega
  have:=qF (k:=1) (xs:=ranks.map (qa.int .i64)) (f:=.full) (j:=.i64) (x:=.int .i64 (ranks[k]'hk)) (by rw [List.getElem?_map,List.getElem?_eq_getElem hk];rfl) rfl
  rw [this,rk]
  simp [qa.cells,hk]
 have hL:qer 1 [.int .i64 0] 26 [(0,.int .i64 9),(1,.int .i64 9),(2,.int .i64 9),(3,.int .i64 9),(4,.int .i64 9),(5,.int .i64 9),(6,.int .i64 9),(7,.int .i64 9),(8,.int .i64 9),(9,.int .i64 9),(10,.int .i64 9),(11,.int .i64 9),(12,.int .i64 8),(13,.int .i64 7),(14,.int .i64 3),(15,.int .i64 5),(16,.int .i64 5),(17,.int .i64 6),(18,.int .i64 6),(19,.int .i64 6),(20,.int .i64 4),(21,.int .i64 4),(22,.int .i64 4),(23,.int .i64 2),(24,.int .i64 1),(25,.int .i64 0)] = some (.lst (ranks.map (qa.int .i64)) .full):=by kernel_rfl
 rw [qi rfl (show T.get 23 = some c23 by kernel_rfl)]
 generalize ranks.map (qa.int .i64) = L at *
 simp only [c23,sT.1,sC.1,qc,qb,Nat.testBit,simprocAttr,-Int.reduceNatCast',hL,hx]
end
end Go.Proofs.YtkmlapholimbcaaGreatDoor.AE
namespace Go.Proofs.YtkmlapholimbcaaGreatDoor.AE
open Go.AE
def qdT (a:Exl) (t:Str):Prop:=(0 ≤ a.op∧a.op ≤ 25)∧t.length ≤ 50000∧∀G:List qf,Wd (.fn 22 [] []) [exV a] G = some (.ret (.str t),G,false)
theorem qid {a:Exl} {t:Str} (h:qdT a t) (k:Int) (G:List qf):Wd (.fn 10 [] []) [exV a,.int .i64 k] G = some (.ret (.str (inn k (a.op,t))),G,false):=by
 obtain ⟨⟨h0,h1⟩,hl,hB⟩:=h
 have hr:=fun G=>qbk (G:=G) h0 h1
 have e:ilt (rk a.op) k = !ile k (rk a.op):=qjU _ _
 have q1:1 + t.length ≤ qu:=by unfold qu;omega
 have q2:t.length + 1 + 1 ≤ qu:=by unfold qu;omega
 have q3:1 + t.length + 1 ≤ qu:=by unfold qu;omega
 rw [inn]
 simp only
 obtain ⟨op,n,nm,sb,aS⟩:=a
 simp only [Exl.op] at *
 rw [qe] at *
 rw [qi rfl (show T.get 10 = some c10 by kernel_rfl)]
 cases c:ile k (rk op) <;> simp only [c10,sT.1,sC.1,qc,qb,Nat.testBit,simprocAttr,-Int.reduceNatCast',hB,hr,e,c,q1,q2,q3,if_true,Bool.not_true,Bool.not_false,cond_true,cond_false,List.cons_append,List.nil_append]
theorem qff (b:Nat) (h:List qf):hop b (.lit 1 [.str []] 10 [0,1,2,3,4,5,6,7,8,9]) [.str [32,43,32],.str [32,45,32],.str [32,42,32],.str [32,47,32],.str [32,37,32],.str [32,61,32],.str [32,60,32],.str [32,60,61,32],.str [32,97,110,100,32],.str [32,111,114,32]] h = some (.sl h.length 0 10 10 0,h ++ [.cells [.str [32,43,32],.str [32,45,32],.str [32,42,32],.str [32,47,32],.str [32,37,32],.str [32,61,32],.str [32,60,32],.str [32,60,61,32],.str [32,97,110,100,32],.str [32,111,114,32]]],false):=by kernel_rfl
section
variable {G:List qf} {n:Int} {nm sb:Str}
set_option maxHeartbeats 4000000 in
theorem qDp (hn0:0 ≤ n) (hn1:n ≤ 9223372036854775807):Wd (.fn 22 [] []) [exV (.mk 0 n nm sb [])] G = some (.ret (.str (Lib.itoa n)),G,false):=by
 have c15:ile 15 (0:Int) = false:=Eq.trans rfl rfl
 have hD:=fun G=>qnj (G:=G) hn0 hn1
 rw [qe,qi rfl (show T.get 22 = some c22 by kernel_rfl)]
 simp only [c22,sT.1,sC.1,sTA.1,sCA.1,qc,qak,qal,Src.isTmp,qD,Src.hangs,qk.isT,qai,qb,Nat.testBit,bne,simprocAttr,-Int.reduceNatCast',qbU,qab,qaf,qaz,qad,qff,if_true,c15,hD,List.append_assoc,List.cons_append,List.nil_append]
set_option maxHeartbeats 4000000 in
theorem qDq :Wd (.fn 22 [] []) [exV (.mk 1 n nm sb [])] G = some (.ret (.str ([116,114,117,101])),G,false):=by
 have c15:ile 15 (1:Int) = false:=Eq.trans rfl rfl
 rw [qe,qi rfl (show T.get 22 = some c22 by kernel_rfl)]
 simp only [c22,sT.1,sC.1,sTA.1,sCA.1,qc,qak,qal,Src.isTmp,qD,Src.hangs,qk.isT,qai,qb,Nat.testBit,bne,simprocAttr,-Int.reduceNatCast',qbU,qab,qaf,qaz,qad,qff,if_true,c15,List.append_assoc,List.cons_append,List.nil_append]
set_option maxHeartbeats 4000000 in
theorem qDr :Wd (.fn 22 [] []) [exV (.mk 2 n nm sb [])] G = some (.ret (.str ([102,97,108,115,101])),G,false):=by
 have c15:ile 15 (2:Int) = false:=Eq.trans rfl rfl
 rw [qe,qi rfl (show T.get 22 = some c22 by kernel_rfl)]
 simp only [c22,sT.1,sC.1,sTA.1,sCA.1,qc,qak,qal,Src.isTmp,qD,Src.hangs,qk.isT,qai,qb,Nat.testBit,bne,simprocAttr,-Int.reduceNatCast',qbU,qab,qaf,qaz,qad,qff,if_true,c15,List.append_assoc,List.cons_append,List.nil_append]
set_option maxHeartbeats 4000000 in
theorem qAS :Wd (.fn 22 [] []) [exV (.mk 11 n nm sb [])] G = some (.ret (.str ([101,108,97,112,115,101,100])),G,false):=by
 have c15:ile 15 (11:Int) = false:=Eq.trans rfl rfl
 rw [qe,qi rfl (show T.get 22 = some c22 by kernel_rfl)]
 simp only [c22,sT.1,sC.1,sTA.1,sCA.1,qc,qak,qal,Src.isTmp,qD,Src.hangs,qk.isT,qai,qb,Nat.testBit,bne,simprocAttr,-Int.reduceNatCast',qbU,qab,qaf,qaz,qad,qff,if_true,c15,List.append_assoc,List.cons_append,List.nil_append]
set_option maxHeartbeats 4000000 in
theorem qDs (hn:nm.length ≤ 16):Wd (.fn 22 [] []) [exV (.mk 3 n nm sb [])] G = some (.ret (.str (39 :: nm)),G,false):=by
 have c15:ile 15 (3:Int) = false:=Eq.trans rfl rfl
 have q1:∀k,k ≤ 200→k + nm.length ≤ qu:=fun k hk=>by unfold qu;omega
 have q2:∀k,k ≤ 200→nm.length + k ≤ qu:=fun k hk=>by unfold qu;omega
 have q3:∀k j,k ≤ 200→j ≤ 200→k + nm.length + j ≤ qu:=fun k j hk hj=>by unfold qu;omega
 rw [qe,qi rfl (show T.get 22 = some c22 by kernel_rfl)]
 simp only [c22,sT.1,sC.1,sTA.1,sCA.1,qc,qak,qal,Src.isTmp,qD,Src.hangs,qk.isT,qai,qb,Nat.testBit,bne,simprocAttr,-Int.reduceNatCast',qbU,qab,qaf,qaz,qad,qff,if_true,c15,q1,q2,List.append_assoc,List.cons_append,List.nil_append]
set_option maxHeartbeats 4000000 in
theorem qDt :Wd (.fn 22 [] []) [exV (.mk 4 n nm sb [])] G = some (.ret (.str (nm)),G,false):=by
 have c15:ile 15 (4:Int) = false:=Eq.trans rfl rfl
 rw [qe,qi rfl (show T.get 22 = some c22 by kernel_rfl)]
 simp only [c22,sT.1,sC.1,sTA.1,sCA.1,qc,qak,qal,Src.isTmp,qD,Src.hangs,qk.isT,qai,qb,Nat.testBit,bne,simprocAttr,-Int.reduceNatCast',qbU,qab,qaf,qaz,qad,qff,if_true,c15,List.append_assoc,List.cons_append,List.nil_append]
set_option maxHeartbeats 4000000 in
theorem qDu (hn:nm.length ≤ 16) (hs:sb.length ≤ 16):Wd (.fn 22 [] []) [exV (.mk 5 n nm sb [])] G = some (.ret (.str (nm ++ (46 :: sb))),G,false):=by
 have c15:ile 15 (5:Int) = false:=Eq.trans rfl rfl
 have q1:∀k,k ≤ 200→k + nm.length ≤ qu:=fun k hk=>by unfold qu;omega
 have q2:∀k,k ≤ 200→nm.length + k ≤ qu:=fun k hk=>by unfold qu;omega
 have q3:∀k j,k ≤ 200→j ≤ 200→k + nm.length + j ≤ qu:=fun k j hk hj=>by unfold qu;omega
 have s0:nm.length + (1 + sb.length) ≤ qu:=by unfold qu;omega
 have s1:nm.length + (sb.length + 1) ≤ qu:=by unfold qu;omega
 have s2:nm.length + 1 + sb.length ≤ qu:=by unfold qu;omega
 rw [qe,qi rfl (show T.get 22 = some c22 by kernel_rfl)]
 simp only [c22,sT.1,sC.1,sTA.1,sCA.1,qc,qak,qal,Src.isTmp,qD,Src.hangs,qk.isT,qai,qb,Nat.testBit,bne,simprocAttr,-Int.reduceNatCast',qbU,qab,qaf,qaz,qad,qff,if_true,c15,q1,q2,s0,s1,s2,List.append_assoc,List.cons_append,List.nil_append]
set_option maxHeartbeats 4000000 in
theorem qDw (hn:nm.length ≤ 16):Wd (.fn 22 [] []) [exV (.mk 7 n nm sb [])] G = some (.ret (.str ([99,111,117,110,116,40] ++ (nm ++ [41]))),G,false):=by
 have c15:ile 15 (7:Int) = false:=Eq.trans rfl rfl
 have q1:∀k,k ≤ 200→k + nm.length ≤ qu:=fun k hk=>by unfold qu;omega
 have q2:∀k,k ≤ 200→nm.length + k ≤ qu:=fun k hk=>by unfold qu;omega
 have q3:∀k j,k ≤ 200→j ≤ 200→k + nm.length + j ≤ qu:=fun k j hk hj=>by unfold qu;omega
 rw [qe,qi rfl (show T.get 22 = some c22 by kernel_rfl)]
 simp only [c22,sT.1,sC.1,sTA.1,sCA.1,qc,qak,qal,Src.isTmp,qD,Src.hangs,qk.isT,qai,qb,Nat.testBit,bne,simprocAttr,-Int.reduceNatCast',qbU,qab,qaf,qaz,qad,qff,if_true,c15,q1,q2,q3,List.append_assoc,List.cons_append,List.nil_append]
set_option maxHeartbeats 4000000 in
theorem qDx (hn:nm.length ≤ 16):Wd (.fn 22 [] []) [exV (.mk 8 n nm sb [])] G = some (.ret (.str ([104,97,115,40] ++ (nm ++ [41]))),G,false):=by
 have c15:ile 15 (8:Int) = false:=Eq.trans rfl rfl
 have q1:∀k,k ≤ 200→k + nm.length ≤ qu:=fun k hk=>by unfold qu;omega
 have q2:∀k,k ≤ 200→nm.length + k ≤ qu:=fun k hk=>by unfold qu;omega
 have q3:∀k j,k ≤ 200→j ≤ 200→k + nm.length + j ≤ qu:=fun k j hk hj=>by unfold qu;omega
 rw [qe,qi rfl (show T.get 22 = some c22 by kernel_rfl)]
 simp only [c22,sT.1,sC.1,sTA.1,sCA.1,qc,qak,qal,Src.isTmp,qD,Src.hangs,qk.isT,qai,qb,Nat.testBit,bne,simprocAttr,-Int.reduceNatCast',qbU,qab,qaf,qaz,qad,qff,if_true,c15,q1,q2,q3,List.append_assoc,List.cons_append,List.nil_append]
set_option maxHeartbeats 4000000 in
theorem qDy (hn:nm.length ≤ 16):Wd (.fn 22 [] []) [exV (.mk 9 n nm sb [])] G = some (.ret (.str ([115,117,109,40] ++ (nm ++ [41]))),G,false):=by
 have c15:ile 15 (9:Int) = false:=Eq.trans rfl rfl
 have q1:∀k,k ≤ 200→k + nm.length ≤ qu:=fun k hk=>by unfold qu;omega
 have q2:∀k,k ≤ 200→nm.length + k ≤ qu:=fun k hk=>by unfold qu;omega
 have q3:∀k j,k ≤ 200→j ≤ 200→k + nm.length + j ≤ qu:=fun k j hk hj=>by unfold qu;omega
 rw [qe,qi rfl (show T.get 22 = some c22 by kernel_rfl)]
 simp only [c22,sT.1,sC.1,sTA.1,sCA.1,qc,qak,qal,Src.isTmp,qD,Src.hangs,qk.isT,qai,qb,Nat.testBit,bne,simprocAttr,-Int.reduceNatCast',qbU,qab,qaf,qaz,qad,qff,if_true,c15,q1,q2,q3,List.append_assoc,List.cons_append,List.nil_append]
end
end Go.Proofs.YtkmlapholimbcaaGreatDoor.AE
