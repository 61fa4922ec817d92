/- A part of the proof: the abstract executor and what goes through it (part 10). No condition. -/
import Derived.Test.YtkmlapholimbcaaGreatDoorMs9
set_option maxRecDepth 100000
namespace Go.Proofs.YtkmlapholimbcaaGreatDoor.AE
open Go.AE
structure PortD where (name:Str) (t:Tp)
structure SetD where (name:Str) (e:Exl)
structure EmitD where (port:Str) (e:Exl) (ifs:List Exl)
structure PartD where (name model:Str)
structure EndD where (part port:Str)
structure LinkD where (frm to:EndD)
structure ActD where (kind:Int) (name model:Str) (link:LinkD)
structure RuleD where (e:Exl) (acts:List ActD)
def exC:Exl→List AVal
 | .mk op n nm sb aS=>[.int .i64 op,.int .i64 n,.str nm,.str sb,.lst (aS.map exV) .no]
theorem exV_C (e:Exl):exV e = .agg (exC e):=by cases e;rw [exV_mk];rfl
def PortD.enc (p:PortD):AVal:=.agg (.str p.name :: p.t.enc)
def SetD.enc (s:SetD):AVal:=.agg (.str s.name :: exC s.e)
def EmitD.enc (x:EmitD):AVal:=.agg (.str x.port :: (exC x.e ++ [.lst (x.ifs.map exV) .no]))
def PartD.enc (p:PartD):AVal:=.agg [.str p.name,.str p.model]
def EndD.enc (p:EndD):AVal:=.agg [.str p.part,.str p.port]
def LinkD.enc (l:LinkD):AVal:=.agg [.str l.frm.part,.str l.frm.port,.str l.to.part,.str l.to.port]
def ActD.enc (a:ActD):AVal:=.agg [.int .i64 a.kind,.str a.name,.str a.model,.str a.link.frm.part,.str a.link.frm.port,.str a.link.to.part,.str a.link.to.port]
def RuleD.enc (r:RuleD):AVal:=.agg (exC r.e ++ [.lst (r.acts.map ActD.enc) .no])
def ExOk (e:Exl):Prop:=right 20 e = true∧OkN e∧sz 20 e ≤ 1000
def eT (e:Exl):Str:=tx 20 e
theorem eT_ok {e:Exl} (h:ExOk e) (G:List ABox):Wd (.fn 19 [] []) [exV e] G = some (.ret (.str (eT e)),G,false):=exprText_ok h.1 h.2.1 h.2.2 G
theorem eT_len {e:Exl} (h:ExOk e):(eT e).length ≤ 44000:=by
 have:=(tx_len 20 e h.1 h.2.1).2
 have:=h.2.2
 unfold eT
 omega
def PortD.txt (p:PortD):Str:=p.name ++ ([58,32] ++ (ttx 3 p.t ++ [59]))
def SetD.txt (s:SetD):Str:=s.name ++ ([32,61,32] ++ (eT s.e ++ [59]))
def taT (e:Exl):Str:=[116,97,32] ++ (eT e ++ [59])
def ifsT (l:List Exl):Str:=(l.map fun e=>[32,105,102,32] ++ eT e).flatten
def EmitD.txt (x:EmitD):Str:=[101,109,105,116,32] ++ (x.port ++ ([32] ++ (eT x.e ++ (ifsT x.ifs ++ [59]))))
def PartD.txt (p:PartD):Str:=p.name ++ ([32,61,32] ++ (p.model ++ [59]))
def EndD.txt (p:EndD):Str:=bif p.part.isEmpty then p.port else p.part ++ ([46] ++ p.port)
def LinkD.txt (l:LinkD):Str:=l.frm.txt ++ ([32,45,62,32] ++ (l.to.txt ++ [59]))
def ActD.txt (a:ActD):Str:=bif a.kind == 0 then [97,100,100,32] ++ (a.name ++ ([32,61,32] ++ (a.model ++ [59]))) else bif a.kind == 1 then [100,114,111,112,32] ++ (a.name ++ [59]) else bif a.kind == 2 then [116,105,101,32] ++ a.link.txt else [99,117,116,32] ++ a.link.txt
section
variable {G:List ABox}
theorem setT_ok {s:SetD} (hn:s.name.length ≤ 16) (he:ExOk s.e):Wd (.fn 121 [] []) [s.enc] G = some (.ret (.str s.txt),G,false):=by
 obtain ⟨nm,e⟩:=s
 have hT:=fun G=>eT_ok he G
 have hl:=eT_len he
 rw [SetD.txt,SetD.enc]
 generalize eT e = u at *
 simp only at hn
 have q1:nm.length + 3 ≤ limit:=by unfold limit;omega
 have q2:nm.length + (u.length + 3) ≤ limit:=by unfold limit;omega
 have q3:nm.length + 3 + u.length ≤ limit:=by unfold limit;omega
 have q4:nm.length + (3 + u.length) ≤ limit:=by unfold limit;omega
 have q5:nm.length + 3 + u.length + 1 ≤ limit:=by unfold limit;omega
 have q6:nm.length + (u.length + 1 + 1 + 1) ≤ limit:=by unfold limit;omega
 have q7:nm.length + (u.length + 1 + 1 + 1) + 1 ≤ limit:=by unfold limit;omega
 obtain ⟨op,n,m2,sb,aS⟩:=e
 rw [exV_mk] at hT
 rw [exC,Wd_fn rfl (show T.get 121 = some c121 by kernel_rfl)]
 simp only [c121,sT.1,sC.1,sTA.1,sCA.1,noApp,provA,provE,Src.isTmp,provOf,Src.hangs,AOpd.isT,srcOf,lookV,Nat.testBit,bne,simprocAttr,-Int.reduceNatCast',hT,q1,q2,q3,q4,q5,q6,q7,if_true,List.append_assoc]
theorem portT_ok {p:PortD} (hn:p.name.length ≤ 16) (ht:tyB 3 p.t = true):Wd (.fn 84 [] []) [p.enc] G = some (.ret (.str p.txt),G,false):=by
 obtain ⟨nm,v⟩:=p
 have hT:=fun G=>TypeText_ok ht G
 have hl:=(tt_ok 3 (by omega) v ht).2
 rw [PortD.txt,PortD.enc]
 generalize ttx 3 v = u at *
 simp only at hn ht
 have q1:nm.length + 2 ≤ limit:=by unfold limit;omega
 have q2:nm.length + (u.length + 2) ≤ limit:=by unfold limit;omega
 have q4:nm.length + (2 + u.length) ≤ limit:=by unfold limit;omega
 have q6:nm.length + (u.length + 1 + 1) ≤ limit:=by unfold limit;omega
 have q7:nm.length + (u.length + 1 + 1) + 1 ≤ limit:=by unfold limit;omega
 have q8:nm.length + 2 + u.length ≤ limit:=by unfold limit;omega
 clear ht
 obtain ⟨k,l⟩:=v
 rw [tpV_mk] at hT
 rw [Tp.enc,show (l.map fun v=>AVal.agg v.enc) = l.map tpV from rfl,Wd_fn rfl (show T.get 84 = some c84 by kernel_rfl)]
 simp only [c84,sT.1,sC.1,sTA.1,sCA.1,noApp,provA,provE,Src.isTmp,provOf,Src.hangs,AOpd.isT,srcOf,lookV,Nat.testBit,bne,simprocAttr,-Int.reduceNatCast',hT,q1,q2,q4,q6,q7,q8,if_true,List.append_assoc]
theorem taT_ok {e:Exl} (he:ExOk e):Wd (.fn 123 [] []) [exV e] G = some (.ret (.str (taT e)),G,false):=by
 have hT:=fun G=>eT_ok he G
 have hl:=eT_len he
 rw [taT]
 generalize eT e = u at *
 have q1:3 + u.length ≤ limit:=by unfold limit;omega
 have q2:u.length + 3 ≤ limit:=by unfold limit;omega
 have q3:u.length + 3 + 1 ≤ limit:=by unfold limit;omega
 have q4:u.length + 1 + 1 + 1 ≤ limit:=by unfold limit;omega
 have q5:u.length + 1 + 1 + 1 + 1 ≤ limit:=by unfold limit;omega
 obtain ⟨op,n,m2,sb,aS⟩:=e
 rw [exV_mk] at *
 rw [Wd_fn rfl (show T.get 123 = some c123 by kernel_rfl)]
 simp only [c123,sT.1,sC.1,sTA.1,sCA.1,noApp,provA,provE,Src.isTmp,provOf,Src.hangs,AOpd.isT,srcOf,lookV,Nat.testBit,bne,simprocAttr,-Int.reduceNatCast',hT,q1,q2,q3,q4,q5,if_true,List.append_assoc]
theorem partT_ok {p:PartD} (h1:p.name.length ≤ 16) (h2:p.model.length ≤ 16):Wd (.fn 115 [] []) [p.enc] G = some (.ret (.str p.txt),G,false):=by
 obtain ⟨a,b⟩:=p
 simp only at h1 h2
 have q1:a.length + 3 ≤ limit:=by unfold limit;omega
 have q2:a.length + 3 + b.length ≤ limit:=by unfold limit;omega
 have q3:a.length + (b.length + 1 + 1 + 1) ≤ limit:=by unfold limit;omega
 have q4:a.length + (b.length + 1 + 1 + 1) + 1 ≤ limit:=by unfold limit;omega
 have q5:a.length + (3 + b.length) ≤ limit:=by unfold limit;omega
 rw [PartD.txt,PartD.enc,Wd_fn rfl (show T.get 115 = some c115 by kernel_rfl)]
 simp only [c115,sT.1,sC.1,sTA.1,sCA.1,noApp,provA,provE,Src.isTmp,provOf,Src.hangs,AOpd.isT,srcOf,lookV,Nat.testBit,bne,simprocAttr,-Int.reduceNatCast',q1,q2,q3,q4,q5,if_true,List.append_assoc]
theorem beq_nil (s:Str):(s == []) = s.isEmpty:=by cases s <;> rfl
theorem endT_ok {p:EndD} (h1:p.part.length ≤ 16) (h2:p.port.length ≤ 16):Wd (.fn 140 [] []) [p.enc] G = some (.ret (.str p.txt),G,false):=by
 obtain ⟨a,b⟩:=p
 simp only at h1 h2
 have q1:a.length + 1 ≤ limit:=by unfold limit;omega
 have q2:a.length + 1 + b.length ≤ limit:=by unfold limit;omega
 have q3:a.length + (b.length + 1) ≤ limit:=by unfold limit;omega
 have q5:a.length + (1 + b.length) ≤ limit:=by unfold limit;omega
 rw [EndD.txt,EndD.enc,Wd_fn rfl (show T.get 140 = some c140 by kernel_rfl)]
 cases hc:a.isEmpty <;> simp only [c140,sT.1,sC.1,sTA.1,sCA.1,noApp,provA,provE,Src.isTmp,provOf,Src.hangs,AOpd.isT,srcOf,lookV,Nat.testBit,bne,simprocAttr,-Int.reduceNatCast',beq_nil,hc,q1,q2,q3,q5,if_true,cond_true,cond_false,List.append_assoc]
def EndD.short (p:EndD):Prop:=p.part.length ≤ 16∧p.port.length ≤ 16
theorem EndD.short.txt {p:EndD} (h:p.short):p.txt.length ≤ 40:=by
 have:=h.1
 have:=h.2
 unfold EndD.txt
 cases p.part.isEmpty <;> simp <;> omega
theorem linkT_ok {l:LinkD} (h1:l.frm.short) (h2:l.to.short):Wd (.fn 117 [] []) [l.enc] G = some (.ret (.str l.txt),G,false):=by
 obtain ⟨⟨a,b⟩,⟨c,d⟩⟩:=l
 have f1:=fun G=>endT_ok (G:=G) h1.1 h1.2
 have f2:=fun G=>endT_ok (G:=G) h2.1 h2.2
 have l1:=h1.txt
 have l2:=h2.txt
 rw [LinkD.txt,LinkD.enc]
 rw [EndD.enc] at f1 f2
 simp only at *
 generalize EndD.txt ⟨a,b⟩ = u at *
 generalize EndD.txt ⟨c,d⟩ = v at *
 have q1:u.length + 4 ≤ limit:=by unfold limit;omega
 have q2:u.length + 4 + v.length ≤ limit:=by unfold limit;omega
 have q3:u.length + (v.length + 1 + 1 + 1 + 1) ≤ limit:=by unfold limit;omega
 have q4:u.length + (v.length + 1 + 1 + 1 + 1) + 1 ≤ limit:=by unfold limit;omega
 have q5:u.length + (4 + v.length) ≤ limit:=by unfold limit;omega
 rw [Wd_fn rfl (show T.get 117 = some c117 by kernel_rfl)]
 simp only [c117,sT.1,sC.1,sTA.1,sCA.1,noApp,provA,provE,Src.isTmp,provOf,Src.hangs,AOpd.isT,srcOf,lookV,Nat.testBit,bne,simprocAttr,-Int.reduceNatCast',f1,f2,q1,q2,q3,q4,q5,if_true,List.append_assoc]
def ActD.short (a:ActD):Prop:=a.name.length ≤ 16∧a.model.length ≤ 16∧(a.kind ≠ 0→a.kind ≠ 1→a.link.frm.short∧a.link.to.short)
theorem LinkD.len {l:LinkD} (h1:l.frm.short) (h2:l.to.short):l.txt.length ≤ 90:=by
 have:=h1.txt
 have:=h2.txt
 unfold LinkD.txt
 simp
 omega
theorem actT_ok {a:ActD} (h:a.short):Wd (.fn 119 [] []) [a.enc] G = some (.ret (.str a.txt),G,false):=by
 obtain ⟨k,a,b,l⟩:=a
 obtain ⟨h1,h2,h3⟩:=h
 simp only at h1 h2 h3
 have q1:a.length + 1 + 1 + 1 + 1 + 3 ≤ limit:=by unfold limit;omega
 have q2:4 + a.length ≤ limit:=by unfold limit;omega
 have q3:a.length + 4 ≤ limit:=by unfold limit;omega
 have q4:a.length + 3 + 1 + 1 + 1 + 1 ≤ limit:=by unfold limit;omega
 have q5:a.length + (b.length + 1 + 1 + 1) + 1 + 1 + 1 + 1 ≤ limit:=by unfold limit;omega
 have q6:a.length + (b.length + 1 + 1 + 1) + 1 + 1 + 1 + 1 + 1 ≤ limit:=by unfold limit;omega
 have q7:a.length + 3 + 1 + 1 + 1 + 1 + b.length ≤ limit:=by unfold limit;omega
 have q8:a.length + 1 + 1 + 1 + 1 + 1 ≤ limit:=by unfold limit;omega
 have q9:a.length + 1 + 1 + 1 + 1 + 1 + 1 ≤ limit:=by unfold limit;omega
 have qa:5 + a.length ≤ limit:=by unfold limit;omega
 have qb:a.length + 1 + 1 + 1 + 1 ≤ limit:=by unfold limit;omega
 have qc:a.length + 5 ≤ limit:=by unfold limit;omega
 rw [ActD.txt,ActD.enc,Wd_fn rfl (show T.get 119 = some c119 by kernel_rfl)]
 simp only
 cases h0:(k == 0) with
 | true=>simp only [c119,sT.1,sC.1,sTA.1,sCA.1,noApp,provA,provE,Src.isTmp,provOf,Src.hangs,AOpd.isT,srcOf,lookV,Nat.testBit,bne,simprocAttr,-Int.reduceNatCast',h0,q1,q2,q3,q4,q5,q6,q7,q8,q9,qa,qb,qc,if_true,cond_true,cond_false,List.append_assoc]
 | false=>
  cases h1:(k == 1) with
  | true=>simp only [c119,sT.1,sC.1,sTA.1,sCA.1,noApp,provA,provE,Src.isTmp,provOf,Src.hangs,AOpd.isT,srcOf,lookV,Nat.testBit,bne,simprocAttr,-Int.reduceNatCast',h0,h1,q1,q2,q3,q4,q5,q6,q7,q8,q9,qa,qb,qc,if_true,cond_true,cond_false,List.append_assoc]
  | false=>
   obtain ⟨s1,s2⟩:=h3 (beq_eq_false_iff_ne.1 h0) (beq_eq_false_iff_ne.1 h1)
   have f:=fun G=>linkT_ok (G:=G) s1 s2
   have hl:=LinkD.len s1 s2
   rw [LinkD.enc] at f
   generalize LinkD.txt l = u at *
   have p1:4 + u.length ≤ limit:=by unfold limit;omega
   have p2:u.length + 4 ≤ limit:=by unfold limit;omega
   cases h2:(k == 2) <;> simp only [c119,sT.1,sC.1,sTA.1,sCA.1,noApp,provA,provE,Src.isTmp,provOf,Src.hangs,AOpd.isT,srcOf,lookV,Nat.testBit,bne,simprocAttr,-Int.reduceNatCast',h0,h1,h2,f,p1,p2,if_true,cond_true,cond_false,List.append_assoc]
end
end Go.Proofs.YtkmlapholimbcaaGreatDoor.AE
namespace Go.Proofs.YtkmlapholimbcaaGreatDoor.AE
open Go.AE
theorem ifsT_len {l:List Exl} (h:∀e ∈ l,ExOk e):(ifsT l).length ≤ 50000 * l.length:=by
 induction l with
 | nil=>simp [ifsT]
 | cons a l ih=>
  have h1:=eT_len (h a (by simp))
  have h2:=ih fun e he=>h e (by simp [he])
  simp only [ifsT,List.map_cons,List.flatten_cons,List.length_append,List.length_cons,List.length_nil] at h2 ⊢
  omega
set_option maxHeartbeats 1000000 in
theorem emitT_ok {x:EmitD} (hn:x.port.length ≤ 16) (he:ExOk x.e) (hi:x.ifs.length ≤ 100) (hI:∀e ∈ x.ifs,ExOk e) (G:List ABox):Wd (.fn 125 [] []) [x.enc] G = some (.ret (.str x.txt),G,false):=by
 obtain ⟨pt,e,l⟩:=x
 simp only at hn he hi hI
 have hT:=fun G=>eT_ok he G
 have hl:=eT_len he
 rw [EmitD.txt,EmitD.enc]
 simp only
 generalize eT e = u at *
 obtain ⟨op,n,m2,sb,aS⟩:=e
 rw [exV_mk] at hT
 rw [exC]
 obtain ⟨S,hS⟩ :∃S:Str,S = 101 :: 109 :: 105 :: 116 :: 32 :: (pt ++ 32 :: u):=⟨_,rfl⟩
 have hSl:S.length ≤ 44100:=by rw [hS];simp;omega
 have loop:∀k st,(∃(tt:List AVal) (i:Nat) (junk:List ABox),st = ⟨tt,G ++ junk,false⟩∧tt.length = 29∧lkp tt 3 = .str (S ++ ifsT (l.take i))∧lkp tt 15 = .lst (l.map exV) .no∧lkp tt 16 = .int .i64 (l.length:Nat)∧lkp tt 17 = .int .i64 (i:Nat)∧i + k = l.length)→
   ∃y st',execW G.length Wd (.loop l125_0) st = some (y,st')∧(∃(tt:List AVal) (junk:List ABox),st' = ⟨tt,G ++ junk,false⟩∧tt.length = 29∧lkp tt 3 = .str (S ++ ifsT l)∧y = .exit 0):=by
  refine loop_rule _ (fun y st'=>∃(tt:List AVal) (junk:List ABox),st' = ⟨tt,G ++ junk,false⟩∧tt.length = 29∧lkp tt 3 = .str (S ++ ifsT l)∧y = .exit 0) ?_
  rintro k st ⟨tt,i,junk,rfl,ht,e3,e15,e16,e17,hik⟩
  generalize hr:execW G.length Wd l125_0 _ = r
  rcases Nat.lt_or_ge i l.length with hil | hil
  ·have c1:ilt (i:Int) (l.length:Int) = true:=iltT (by omega)
   have w:=wrap_succ (n:=i) (by omega)
   have hTi:=fun G=>eT_ok (hI l[i] (List.getElem_mem hil)) G
   have hli:=eT_len (hI l[i] (List.getElem_mem hil))
   have htk:ifsT (l.take (i + 1)) = ifsT (l.take i) ++ 32 :: 105 :: 102 :: 32 :: eT l[i]:=by rw [List.take_succ_eq_append_getElem hil,ifsT,List.map_append,List.flatten_append];simp [ifsT]
   have hlt:=ifsT_len (l:=l.take i) fun e he=>hI e (List.mem_of_mem_take he)
   have htl:(l.take i).length ≤ 100:=by simp;omega
   have hg:(l.map exV)[i]? = some (exV l[i]):=by rw [List.getElem?_map,List.getElem?_eq_getElem hil];rfl
   generalize eT l[i] = w2 at *
   generalize ifsT (l.take i) = I at *
   generalize l[i] = v at hTi hg
   obtain ⟨op',n',m',sb',as'⟩:=v
   rw [exV_mk] at hTi hg
   have hx:ixaV 5 (.lst (l.map exV) .no) (.int .i64 (i:Nat)) = some (.iptr [.int .i64 op',.int .i64 n',.str m',.str sb',.lst (as'.map exV) .no] 0):=ixaV_get hg rfl
   have hlen:(G ++ junk).length = G.length + junk.length:=by simp
   have hb1:Nat.ble G.length (G.length + junk.length) = true:=ble_true (by omega)
   have q1:4 + w2.length ≤ limit:=by unfold limit;omega
   have q2:w2.length + 4 ≤ limit:=by unfold limit;omega
   have q3:S.length + I.length + (w2.length + 4) ≤ limit:=by unfold limit;omega
   have q4:S.length + I.length + (w2.length + 1 + 1 + 1 + 1) ≤ limit:=by unfold limit;omega
   have q5:S.length + (I.length + (w2.length + 1 + 1 + 1 + 1)) ≤ limit:=by unfold limit;omega
   simp only [l125_0,sT.1,sC.1,sTA.1,sCA.1,noApp,provA,provE,Src.isTmp,provOf,Src.hangs,AOpd.isT,srcOf,lookV,Nat.testBit,bne,simprocAttr,-Int.reduceNatCast',ht,e3,e15,e16,e17,c1,w,hx,hlen,hb1,hTi,q1,q2,q3,q4,q5,if_true,Bool.true_or,List.append_assoc] at hr
   subst hr
   refine .inl ⟨_,k - 1,rfl,by omega,_,i + 1,junk ++ [.cells [.int .i64 op',.int .i64 n',.str m',.str sb',.lst (as'.map exV) .no]],rfl,by simp only [length_up,ht],?_,?_,?_,?_,by omega⟩
   ·simp only [sT.1,sC.1,sTA.1,sCA.1,noApp,provA,provE,Src.isTmp,provOf,Src.hangs,AOpd.isT,srcOf,lookV,Nat.testBit,bne,simprocAttr,-Int.reduceNatCast',ht,htk]
   ·simp only [sT.1,sC.1,sTA.1,sCA.1,noApp,provA,provE,Src.isTmp,provOf,Src.hangs,AOpd.isT,srcOf,lookV,Nat.testBit,bne,simprocAttr,-Int.reduceNatCast',ht,e15]
   ·simp only [sT.1,sC.1,sTA.1,sCA.1,noApp,provA,provE,Src.isTmp,provOf,Src.hangs,AOpd.isT,srcOf,lookV,Nat.testBit,bne,simprocAttr,-Int.reduceNatCast',ht,e16]
   ·simp only [sT.1,sC.1,sTA.1,sCA.1,noApp,provA,provE,Src.isTmp,provOf,Src.hangs,AOpd.isT,srcOf,lookV,Nat.testBit,bne,simprocAttr,-Int.reduceNatCast',ht]
  ·have c1:ilt (i:Int) (l.length:Int) = false:=iltF (by omega)
   rw [List.take_of_length_le hil] at e3
   simp only [l125_0,sT.1,sC.1,sTA.1,sCA.1,noApp,provA,provE,Src.isTmp,provOf,Src.hangs,AOpd.isT,srcOf,lookV,Nat.testBit,bne,simprocAttr,-Int.reduceNatCast',ht,e16,e17,c1] at hr
   subst hr
   exact .inr ⟨_,_,rfl,by simp,_,junk,rfl,by simp only [length_up,ht],by simp only [sT.1,sC.1,sTA.1,sCA.1,noApp,provA,provE,Src.isTmp,provOf,Src.hangs,AOpd.isT,srcOf,lookV,Nat.testBit,bne,simprocAttr,-Int.reduceNatCast',ht,e3],rfl⟩
 have q1:pt.length + 5 ≤ limit:=by unfold limit;omega
 have q2:5 + pt.length ≤ limit:=by unfold limit;omega
 have q3:pt.length + 1 + 1 + 1 + 1 + 1 + 1 ≤ limit:=by unfold limit;omega
 have q4:pt.length + 1 + 1 + 1 + 1 + 1 + 1 + u.length ≤ limit:=by unfold limit;omega
 have q5:pt.length + (u.length + 1) + 1 + 1 + 1 + 1 + 1 ≤ limit:=by unfold limit;omega
 have q6:pt.length + 1 + 1 + 1 + 1 + 1 ≤ limit:=by unfold limit;omega
 have q7:pt.length + (1 + u.length) + 1 + 1 + 1 + 1 + 1 ≤ limit:=by unfold limit;omega
 have hfl:=ifsT_len hI
 generalize hw:Wd _ _ G = w
 rw [Wd_fn rfl (show T.get 125 = some c125 by kernel_rfl)] at hw
 simp only [c125,sT.1,sC.1,sTA.1,sCA.1,noApp,provA,provE,Src.isTmp,provOf,Src.hangs,AOpd.isT,srcOf,lookV,Nat.testBit,bne,simprocAttr,-Int.reduceNatCast',hT,q1,q2,q3,q4,q5,q6,q7,if_true,List.append_assoc,List.length_map] at hw
 generalize hr:execW G.length Wd (.loop l125_0) _ = r at hw
 obtain ⟨y,st',rfl,tt,junk,rfl,ht,e3,rfl⟩:=known hr (loop l.length _ ⟨_,0,[_],rfl,by simp only [sT.1,sC.1,sTA.1,sCA.1,noApp,provA,provE,Src.isTmp,provOf,Src.hangs,AOpd.isT,srcOf,lookV,Nat.testBit,bne,simprocAttr,-Int.reduceNatCast'],by simp only [sT.1,sC.1,sTA.1,sCA.1,noApp,provA,provE,Src.isTmp,provOf,Src.hangs,AOpd.isT,srcOf,lookV,Nat.testBit,bne,simprocAttr,-Int.reduceNatCast',hS,List.take_zero,ifsT,List.flatten_nil,List.append_assoc],by simp only [sT.1,sC.1,sTA.1,sCA.1,noApp,provA,provE,Src.isTmp,provOf,Src.hangs,AOpd.isT,srcOf,lookV,Nat.testBit,bne,simprocAttr,-Int.reduceNatCast'],by simp only [sT.1,sC.1,sTA.1,sCA.1,noApp,provA,provE,Src.isTmp,provOf,Src.hangs,AOpd.isT,srcOf,lookV,Nat.testBit,bne,simprocAttr,-Int.reduceNatCast'],by simp only [sT.1,sC.1,sTA.1,sCA.1,noApp,provA,provE,Src.isTmp,provOf,Src.hangs,AOpd.isT,srcOf,lookV,Nat.testBit,bne,simprocAttr,-Int.reduceNatCast',Int.natCast_zero],by omega⟩)
 have q8:S.length + (ifsT l).length + 1 ≤ limit:=by unfold limit;omega
 have q9:S.length + ((ifsT l).length + 1) ≤ limit:=by unfold limit;omega
 simp only [sT.1,sC.1,sTA.1,sCA.1,noApp,provA,provE,Src.isTmp,provOf,Src.hangs,AOpd.isT,srcOf,lookV,Nat.testBit,bne,simprocAttr,-Int.reduceNatCast',ht,e3,q8,q9,if_true] at hw
 subst hw
 rw [hS]
 simp
theorem SL.row {G:List ABox} {M:List Str} {W:AVal} (h:SL G M W) (hne:M ≠ []):rowOf 1 G W = some (M.map .str,M.length):=by
 rcases h with ⟨rfl,_⟩ | ⟨id,rfl,_,hid⟩
 ·exact absurd rfl hne
 ·have:(M.map AVal.str).take M.length = M.map AVal.str:=List.take_of_length_le (by simp)
  simp only [rowOf,hid,List.length_map,Nat.zero_add,Nat.mul_one,Nat.le_refl,if_true,List.drop_zero,this,(strs_still M).dims]
theorem SL.cat {G:List ABox} {L M:List Str} {V W:AVal} (h:SL G L V) (hw:SL G M W) (hne:M ≠ []) (hl:L.length + M.length ≤ 100000) (b:Nat) :
  ∃G',hop b (.app 1) [V,W] G = some (.sl G.length 0 (L.length + M.length) (L.length + M.length) 1,G',false)∧SL G' (L ++ M) (.sl G.length 0 (L.length + M.length) (L.length + M.length) 1)∧G'.length = G.length + 1∧∀i,i < G.length→idOf V ≠ some i→G'[i]? = G[i]?:=by
 have e2:=hw.row hne
 have hm:M.length ≠ 0:=fun h=>hne (List.length_eq_zero_iff.1 h)
 have hlim:L.length + M.length ≤ limit:=by unfold limit;omega
 rcases h with ⟨rfl,rfl⟩ | ⟨id,rfl,hL,hid⟩
 ·have e:rowOf 1 G (.lst [] .full) = some ([],0):=rfl
  have q0:0 + M.length ≤ limit:=by unfold limit;omega
  refine ⟨G ++ [.cells (M.map .str)],by simp only [hop,hopApp,e2,(strs_still M).all,e,hm,q0,List.length_nil,Bool.not_true,Bool.false_eq_true,if_false,if_true,List.nil_append],.inr ⟨G.length,by simp,by simp [hne],?_⟩,by simp,fun i hi _=>by rw [List.getElem?_append_left hi]⟩
  rw [get_at];simp
 ·have e:rowOf 1 G (.sl id 0 L.length L.length 1) = some (L.map .str,L.length):=SL.row (.inr ⟨id,rfl,hL,hid⟩) hL
  have hl2:¬ L.length + M.length ≤ L.length:=by omega
  refine ⟨G.set id .dead ++ [.cells (L.map .str ++ M.map .str)],?_,.inr ⟨G.length,by simp,by simp [hL],?_⟩,by simp,fun i hi hn=>?_⟩
  ·simp only [hop,hopApp,e2,(strs_still M).all,e,hm,hlim,hl2,hid,Bool.not_true,Bool.false_eq_true,if_false,if_true]
   simp
  ·rw [get_at2 (by simp)];simp
  ·have:id ≠ i:=fun e=>hn (by rw [e];rfl)
   rw [List.getElem?_append_left (by simp;omega),List.getElem?_set_ne this]
end Go.Proofs.YtkmlapholimbcaaGreatDoor.AE
namespace Go.Proofs.YtkmlapholimbcaaGreatDoor.AE
open Go.AE
structure ModelD where (name:Str) (coupled:Bool) (ins outs:List PortD) (vars:List SetD) (ta:List Exl) (emits:List EmitD) (int ext:List SetD) (con:Int) (own:List SetD) (parts:List PartD) (links:List LinkD) (rules:List RuleD)
def ModelD.cs (m:ModelD):List AVal:=[.str m.name,.bool m.coupled,.lst (m.ins.map PortD.enc) .no,.lst (m.outs.map PortD.enc) .no,.lst (m.vars.map SetD.enc) .no,.lst (m.ta.map exV) .no,.lst (m.emits.map EmitD.enc) .no,.lst (m.int.map SetD.enc) .no,.lst (m.ext.map SetD.enc) .no,.int .i64 m.con,.lst (m.own.map SetD.enc) .no,.lst (m.parts.map PartD.enc) .no,.lst (m.links.map LinkD.enc) .no,.lst (m.rules.map RuleD.enc) .no]
def ModelD.enc (m:ModelD):AVal:=.agg m.cs
def SetOk (s:SetD):Prop:=s.name.length ≤ 16∧ExOk s.e
def PortOk (p:PortD):Prop:=p.name.length ≤ 16∧tyB 3 p.t = true
def EmitOk (x:EmitD):Prop:=x.port.length ≤ 16∧ExOk x.e∧x.ifs.length ≤ 1∧∀e ∈ x.ifs,ExOk e
def PartOk (p:PartD):Prop:=p.name.length ≤ 16∧p.model.length ≤ 16
def LinkOk (l:LinkD):Prop:=l.frm.short∧l.to.short
def RuleOk (r:RuleD):Prop:=ExOk r.e∧r.acts.length ≤ 1000∧∀a ∈ r.acts,a.short
theorem shp_cs {k:Nat} {cs:List AVal} (h:cs.length = k) (h2:cs.all AVal.storable = true) (h3:cs.map AVal.dim = cs):Shp k (.agg cs):=⟨cs,rfl,h,h2,h3⟩
theorem ex_shp (e:Exl):Shp 5 (exV e):=by cases e;rw [exV_mk];exact shp_cs rfl rfl rfl
theorem set_shp (s:SetD):Shp 6 s.enc:=by obtain ⟨_,e⟩:=s;cases e;exact shp_cs rfl rfl rfl
theorem port_shp (s:PortD):Shp 3 s.enc:=by obtain ⟨_,e⟩:=s;cases e;rw [PortD.enc,Tp.enc];exact shp_cs rfl rfl rfl
theorem emit_shp (s:EmitD):Shp 7 s.enc:=by obtain ⟨_,e,_⟩:=s;cases e;exact shp_cs rfl rfl rfl
theorem part_shp (s:PartD):Shp 2 s.enc:=shp_cs rfl rfl rfl
theorem link_shp (s:LinkD):Shp 4 s.enc:=shp_cs rfl rfl rfl
theorem act_shp (s:ActD):Shp 7 s.enc:=shp_cs rfl rfl rfl
theorem rule_shp (s:RuleD):Shp 6 s.enc:=by obtain ⟨e,_⟩:=s;cases e;exact shp_cs rfl rfl rfl
def Mid (h:List ABox) (V:AVal) (x:ABox) (G:List ABox) (W:AVal) (L:List Str):Prop:=
 SL G L W∧h.length < G.length∧G[h.length]? = some x∧(∀i,i < h.length→idOf V ≠ some i→G[i]? = h[i]?)∧(W = V∨∀id,idOf W = some id→h.length < id)
section
variable {h G:List ABox} {V W:AVal} {x:ABox} {L L':List Str}
theorem Mid.start (hS:SL h L V):Mid h V x (h ++ [x]) V L:=⟨hS.more _,by simp,by rw [get_at];rfl,fun i hi _=>by rw [List.getElem?_append_left hi],.inl rfl⟩
theorem Mid.own (hm:Mid h V x G W L) (hV:∀id,idOf V = some id→id < h.length) {i:Nat} (hi:i ≤ h.length) (hn:idOf V ≠ some i):idOf W ≠ some i:=fun e=>by
 rcases hm.2.2.2.2 with rfl | hW
 ·exact hn e
 ·have:=hW i e;omega
theorem Mid.step (hm:Mid h V x G W L) (hV:∀id,idOf V = some id→id < h.length) {r:Option (CRes×List ABox×Bool)} (hr:Ln G W L' r):∃G' W',r = some (.ret W',G',false)∧Mid h V x G' W' L':=by
 obtain ⟨G',W',rfl,hS,hl,hk,hW'⟩:=hr
 have hn:idOf V ≠ some h.length:=fun e=>by have:=hV _ e;omega
 refine ⟨G',W',rfl,hS,by have:=hm.2.1;omega,?_,fun i hi hi2=>?_,?_⟩
 ·rw [hk _ hm.2.1 (hm.own hV (Nat.le_refl _) hn)];exact hm.2.2.1
 ·rw [hk i (by have:=hm.2.1;omega) (hm.own hV (by omega) hi2)];exact hm.2.2.2.1 i hi hi2
 ·rcases hW' with rfl | hW'
  ·exact hm.2.2.2.2
  ·exact .inr fun id hid=>by have:=hW' id hid;have:=hm.2.1;omega
theorem Mid.leave (hm:Mid h V x G W L):Ln h V L (some (Go.AE.leave h.length (.ret W) G false)):=
 Ln.leave hm.1 (Nat.le_of_lt hm.2.1) hm.2.2.2.1 (hm.2.2.2.2.imp id fun hW id hid=>Nat.le_of_lt (hW id hid))
theorem app_Ln (hS:SL G L W) (hl:L.length ≤ 100000) (b:Nat) (u:Str):∃G' W',hop b (.lit 1 [.str []] 1 [0]) [.str u] G = some (.sl G.length 0 1 1 0,G ++ [.cells [.str u]],false)∧hop b (.app 1) [W,.sl G.length 0 1 1 0] (G ++ [.cells [.str u]]) = some (W',G',false)∧Ln G W (L ++ [u]) (some (.ret W',G',false)):=by
 obtain ⟨G',h1,h2,h3,h4⟩:=hS.app hl b u
 exact ⟨G',_,litS b u G,h1,G',_,rfl,h2,by omega,h4,.inr fun id hid=>by cases hid;omega⟩
end
section
variable {h:List ABox} {V:AVal} {L:List Str} (hS:SL h L V) (hL:L.length ≤ 40000)
include hS hL
theorem sets_each {l:List SetD} (hl:l.length ≤ 1000) (ho:∀s ∈ l,SetOk s) (ah:Str) (ha:ah.length ≤ 100):Ln h V (L ++ l.map fun s=>ah ++ s.txt) (Wd (.fn 120 [] []) [V,.str ah,.lst (l.map SetD.enc) .no,.fn 121 [] []] h):=
 each_ok (k:=6) (z:=[.str [],.int .i64 0,.int .i64 0,.str [],.str [],.lst [] .full]) rfl (show T.get 120 = _ by kernel_rfl) rfl rfl (fun s _=>set_shp s) hl (fun s hs h=>setT_ok (ho s hs).1 (ho s hs).2) (fun s hs=>by have:=eT_len (ho s hs).2;have:=(ho s hs).1;unfold SetD.txt limit;simp;omega) (by omega) hS
theorem tas_each {l:List Exl} (hl:l.length ≤ 1000) (ho:∀s ∈ l,ExOk s) (ah:Str) (ha:ah.length ≤ 100):Ln h V (L ++ l.map fun s=>ah ++ taT s) (Wd (.fn 122 [] []) [V,.str ah,.lst (l.map exV) .no,.fn 123 [] []] h):=
 each_ok (k:=5) (z:=[.int .i64 0,.int .i64 0,.str [],.str [],.lst [] .full]) rfl (show T.get 122 = _ by kernel_rfl) rfl rfl (fun s _=>ex_shp s) hl (fun s hs h=>taT_ok (ho s hs)) (fun s hs=>by have:=eT_len (ho s hs);unfold taT limit;simp;omega) (by omega) hS
theorem emits_each {l:List EmitD} (hl:l.length ≤ 1000) (ho:∀s ∈ l,EmitOk s) (ah:Str) (ha:ah.length ≤ 100):Ln h V (L ++ l.map fun s=>ah ++ s.txt) (Wd (.fn 124 [] []) [V,.str ah,.lst (l.map EmitD.enc) .no,.fn 125 [] []] h):=
 each_ok (k:=7) (z:=[.str [],.int .i64 0,.int .i64 0,.str [],.str [],.lst [] .full,.lst [] .full]) rfl (show T.get 124 = _ by kernel_rfl) rfl rfl (fun s _=>emit_shp s) hl (fun s hs h=>emitT_ok (ho s hs).1 (ho s hs).2.1 (Nat.le_trans (ho s hs).2.2.1 (by omega)) (ho s hs).2.2.2 h) (fun s hs=>by have:=eT_len (ho s hs).2.1;have:=(ho s hs).1;have:=ifsT_len (ho s hs).2.2.2;have:=(ho s hs).2.2.1;unfold EmitD.txt limit;simp;omega) (by omega) hS
theorem parts_each {l:List PartD} (hl:l.length ≤ 1000) (ho:∀s ∈ l,PartOk s) (ah:Str) (ha:ah.length ≤ 100):Ln h V (L ++ l.map fun s=>ah ++ s.txt) (Wd (.fn 114 [] []) [V,.str ah,.lst (l.map PartD.enc) .no,.fn 115 [] []] h):=
 each_ok (k:=2) (z:=[.str [],.str []]) rfl (show T.get 114 = _ by kernel_rfl) rfl rfl (fun s _=>part_shp s) hl (fun s hs h=>partT_ok (ho s hs).1 (ho s hs).2) (fun s hs=>by have:=(ho s hs).1;have:=(ho s hs).2;unfold PartD.txt limit;simp;omega) (by omega) hS
theorem links_each {l:List LinkD} (hl:l.length ≤ 1000) (ho:∀s ∈ l,LinkOk s) (ah:Str) (ha:ah.length ≤ 100):Ln h V (L ++ l.map fun s=>ah ++ s.txt) (Wd (.fn 116 [] []) [V,.str ah,.lst (l.map LinkD.enc) .no,.fn 117 [] []] h):=
 each_ok (k:=4) (z:=[.str [],.str [],.str [],.str []]) rfl (show T.get 116 = _ by kernel_rfl) rfl rfl (fun s _=>link_shp s) hl (fun s hs h=>linkT_ok (ho s hs).1 (ho s hs).2) (fun s hs=>by have:=LinkD.len (ho s hs).1 (ho s hs).2;unfold limit;omega) (by omega) hS
theorem ports_each {l:List PortD} (hl:l.length ≤ 1000) (ho:∀s ∈ l,PortOk s) (ah:Str) (ha:ah.length ≤ 100):Ln h V (L ++ l.map fun s=>ah ++ s.txt) (Wd (.fn 83 [] []) [V,.str ah,.lst (l.map PortD.enc) .no,.fn 84 [] []] h):=
 each_ok (k:=3) (z:=[.str [],.int .i64 0,.lst [] .full]) rfl (show T.get 83 = _ by kernel_rfl) rfl rfl (fun s _=>port_shp s) hl (fun s hs h=>portT_ok (ho s hs).1 (ho s hs).2) (fun s hs=>by have:=(tt_ok 3 (by omega) s.t (ho s hs).2).2;have:=(ho s hs).1;unfold PortD.txt limit;simp;omega) (by omega) hS
theorem sets_block {l:List SetD} (hl:l.length ≤ 1000) (ho:∀s ∈ l,SetOk s) (ah hd:Str) (ha:ah.length ≤ 100) (hh:hd.length ≤ 100):Ln h V (L ++ blockL ah hd (l.map SetD.txt)) (Wd (.fn 126 [] []) [V,.str ah,.str hd,.lst (l.map SetD.enc) .no,.fn 121 [] []] h):=
 block_ok (k:=6) (z:=[.str [],.int .i64 0,.int .i64 0,.str [],.str [],.lst [] .full]) (F:=120) rfl (show T.get 126 = _ by kernel_rfl) rfl (show T.get 120 = _ by kernel_rfl) rfl rfl (fun s _=>set_shp s) hl (fun s hs h=>setT_ok (ho s hs).1 (ho s hs).2) (fun s hs=>by have:=eT_len (ho s hs).2;have:=(ho s hs).1;unfold SetD.txt;simp;omega) (by omega) hL hS
theorem acts_block {l:List ActD} (hl:l.length ≤ 1000) (ho:∀s ∈ l,s.short) (ah hd:Str) (ha:ah.length ≤ 100) (hh:hd.length ≤ 100000):Ln h V (L ++ blockL ah hd (l.map ActD.txt)) (Wd (.fn 118 [] []) [V,.str ah,.str hd,.lst (l.map ActD.enc) .no,.fn 119 [] []] h):=
 block_ok (k:=7) (z:=[.int .i64 0,.str [],.str [],.str [],.str [],.str [],.str []]) (F:=141) rfl (show T.get 118 = _ by kernel_rfl) rfl (show T.get 141 = _ by kernel_rfl) rfl rfl (fun s _=>act_shp s) hl (fun s hs h=>actT_ok (ho s hs)) (fun s hs=>by
  obtain ⟨h1,h2,h3⟩:=ho s hs
  unfold ActD.txt
  cases c0:s.kind == 0 with
  | true=>simp;omega
  | false=>
   cases c1:s.kind == 1 with
   | true=>simp;omega
   | false=>
    have h4:=h3 (beq_eq_false_iff_ne.1 c0) (beq_eq_false_iff_ne.1 c1)
    have:=LinkD.len h4.1 h4.2
    cases s.kind == 2 <;> simp <;> omega) (by omega) hL hS
end
end Go.Proofs.YtkmlapholimbcaaGreatDoor.AE
namespace Go.Proofs.YtkmlapholimbcaaGreatDoor.AE
open Go.AE
structure ModelOk (m:ModelD):Prop where
 name:m.name.length ≤ 16
 ins:m.ins.length ≤ 1000∧∀s ∈ m.ins,PortOk s
 outs:m.outs.length ≤ 1000∧∀s ∈ m.outs,PortOk s
 vars:m.vars.length ≤ 1000∧∀s ∈ m.vars,SetOk s
 ta:m.ta.length ≤ 1000∧∀s ∈ m.ta,ExOk s
 emits:m.emits.length ≤ 1000∧∀s ∈ m.emits,EmitOk s
 int:m.int.length ≤ 1000∧∀s ∈ m.int,SetOk s
 ext:m.ext.length ≤ 1000∧∀s ∈ m.ext,SetOk s
 own:m.own.length ≤ 1000∧∀s ∈ m.own,SetOk s
 parts:m.parts.length ≤ 1000∧∀s ∈ m.parts,PartOk s
 links:m.links.length ≤ 1000∧∀s ∈ m.links,LinkOk s
 rules:m.rules.length ≤ 20∧∀s ∈ m.rules,RuleOk s
 few:m.ins.length + m.outs.length + m.vars.length + m.ta.length + m.emits.length + m.int.length + m.ext.length + m.own.length + m.parts.length + m.links.length + (m.rules.map fun r=>r.acts.length + 2).sum ≤ 350
def conL (con:Int) (own:List SetD):List Str:=bif con == 1 then [[32,32,99,111,110,32,101,120,116,32,105,110,116,59]] else bif con == 2 then blockL [32,32] [99,111,110] (own.map SetD.txt) else []
def atomL (m:ModelD):List Str:=(m.vars.map fun s=>[32,32,118,97,114,32] ++ s.txt) ++ ((m.ta.map fun s=>[32,32] ++ taT s) ++ ((m.emits.map fun s=>[32,32] ++ s.txt) ++ (blockL [32,32] [105,110,116] (m.int.map SetD.txt) ++ (blockL [32,32] [101,120,116] (m.ext.map SetD.txt) ++ conL m.con m.own))))
theorem blockL_len (ah hd:Str) (l:List Str):(blockL ah hd l).length ≤ l.length + 2:=by
 unfold blockL
 cases l.isEmpty <;> simp
section
variable {h:List ABox} {V:AVal} {L:List Str}
set_option maxHeartbeats 2000000 in
theorem atomic_ok {m:ModelD} (hm:ModelOk m) (hS:SL h L V) (hL:L.length ≤ 30000):Ln h V (L ++ atomL m) (Wd (.fn 86 [] []) [V,m.enc] h):=by
 have hV:∀id,idOf V = some id→id < h.length:=fun id hi=>hS.lt hi
 have s0:=Mid.start (x:=.cells m.cs) hS
 have n1:=hm.vars.1
 have n2:=hm.ta.1
 have n3:=hm.emits.1
 have n4:=blockL_len [32,32] [105,110,116] (m.int.map SetD.txt)
 have n5:=blockL_len [32,32] [101,120,116] (m.ext.map SetD.txt)
 have n6:=hm.int.1
 have n7:=hm.ext.1
 simp only [List.length_map] at n4 n5
 obtain ⟨G1,W1,r1,s1⟩:=s0.step hV (sets_each s0.1 (by omega) hm.vars.1 hm.vars.2 [32,32,118,97,114,32] (by simp))
 obtain ⟨G2,W2,r2,s2⟩:=s1.step hV (tas_each s1.1 (by simp;omega) hm.ta.1 hm.ta.2 [32,32] (by simp))
 obtain ⟨G3,W3,r3,s3⟩:=s2.step hV (emits_each s2.1 (by simp;omega) hm.emits.1 hm.emits.2 [32,32] (by simp))
 obtain ⟨G4,W4,r4,s4⟩:=s3.step hV (sets_block s3.1 (by simp;omega) hm.int.1 hm.int.2 [32,32] [105,110,116] (by simp) (by simp))
 obtain ⟨G5,W5,r5,s5⟩:=s4.step hV (sets_block s4.1 (by simp;omega) hm.ext.1 hm.ext.2 [32,32] [101,120,116] (by simp) (by simp))
 obtain ⟨G6,W6,r6,s6⟩:=s5.step hV (sets_block s5.1 (by simp;omega) hm.own.1 hm.own.2 [32,32] [99,111,110] (by simp) (by simp))
 obtain ⟨G7,W7,ra,rb,l7⟩:=app_Ln s5.1 (by simp;omega) h.length [32,32,99,111,110,32,101,120,116,32,105,110,116,59]
 obtain ⟨_,_,e7,s7⟩:=s5.step hV l7
 cases e7
 obtain ⟨d0,w0,_,_⟩:=hS.facts
 obtain ⟨d1,w1,_,_⟩:=s1.1.facts
 obtain ⟨d2,w2,_,_⟩:=s2.1.facts
 obtain ⟨d3,w3,_,_⟩:=s3.1.facts
 obtain ⟨d4,w4,_,_⟩:=s4.1.facts
 obtain ⟨d5,w5,_,_⟩:=s5.1.facts
 obtain ⟨d6,w6,_,_⟩:=s6.1.facts
 obtain ⟨d7,w7,_,_⟩:=s7.1.facts
 have b1:=s1.2.2.1
 have b2:=s2.2.2.1
 have b3:=s3.2.2.1
 have b4:=s4.2.2.1
 have b5:=s5.2.2.1
 have g1:=s1.2.1
 have g2:=s2.2.1
 have g3:=s3.2.1
 have g4:=s4.2.1
 have g5:=s5.2.1
 have a6:=s6.leave
 have a7:=s7.leave
 have a5:=s5.leave
 clear s0 s1 s2 s3 s4 s5 s6 s7 hm n1 n2 n3 n4 n5 n6 n7 l7
 obtain ⟨nm,cp,ins,outs,vars,ta,emits,int,ext,con,own,parts,links,rules⟩:=m
 simp only [ModelD.cs] at *
 generalize hw:Wd _ _ h = w
 rw [Wd_fn rfl (show T.get 86 = some c86 by kernel_rfl)] at hw
 rw [ModelD.enc,ModelD.cs] at hw
 rw [atomL,conL]
 simp only
 cases c1:(con == 1) with
 | true=>
  simp only [c86,sT.1,sC.1,sTA.1,sCA.1,noApp,provA,provE,Src.isTmp,provOf,Src.hangs,AOpd.isT,srcOf,lookV,Nat.testBit,bne,simprocAttr,-Int.reduceNatCast',op_hx,hxW_some,plain_hx,effs_hx,isApp_hx,dim_sl,drain_sl,r1,r2,r3,r4,r5,ra,rb,d0,w0,d1,w1,d2,w2,d3,w3,d4,w4,d5,w5,d7,w7,b1,b2,b3,b4,b5,g1,g2,g3,g4,g5,c1] at hw
  subst hw
  simpa using a7
 | false=>
  cases c2:(con == 2) with
  | true=>
   simp only [c86,sT.1,sC.1,sTA.1,sCA.1,noApp,provA,provE,Src.isTmp,provOf,Src.hangs,AOpd.isT,srcOf,lookV,Nat.testBit,bne,simprocAttr,-Int.reduceNatCast',r1,r2,r3,r4,r5,r6,d0,w0,d1,w1,d2,w2,d3,w3,d4,w4,d5,w5,d6,w6,b1,b2,b3,b4,b5,g1,g2,g3,g4,g5,c1,c2] at hw
   subst hw
   simpa using a6
  | false=>
   simp only [c86,sT.1,sC.1,sTA.1,sCA.1,noApp,provA,provE,Src.isTmp,provOf,Src.hangs,AOpd.isT,srcOf,lookV,Nat.testBit,bne,simprocAttr,-Int.reduceNatCast',r1,r2,r3,r4,r5,d0,w0,d1,w1,d2,w2,d3,w3,d4,w4,d5,w5,b1,b2,b3,b4,b5,g1,g2,g3,g4,g5,c1,c2] at hw
   subst hw
   simpa using a5
theorem Mid.more {x:ABox} {G:List ABox} {W:AVal} (hm:Mid h V x G W L) (c:ABox):Mid h V x (G ++ [c]) W L:=
 ⟨hm.1.more _,by have:=hm.2.1;simp;omega,by rw [List.getElem?_append_left hm.2.1];exact hm.2.2.1,fun i hi hn=>by rw [List.getElem?_append_left (by have:=hm.2.1;omega)];exact hm.2.2.2.1 i hi hn,hm.2.2.2.2⟩
def RuleD.lines (r:RuleD):List Str:=blockL [32,32] ([114,117,108,101,32] ++ eT r.e) (r.acts.map ActD.txt)
def coupL (m:ModelD):List Str:=(m.parts.map fun s=>[32,32,112,97,114,116,32] ++ s.txt) ++ ((m.links.map fun s=>[32,32,108,105,110,107,32] ++ s.txt) ++ (m.rules.map RuleD.lines).flatten)
theorem lines_len {l:List RuleD} (ho:∀r ∈ l,RuleOk r):((l.map RuleD.lines).flatten).length ≤ l.length * 1002:=by
 induction l with
 | nil=>simp
 | cons r l ih=>
  have h1:=ih fun r hr=>ho r (by simp [hr])
  have h2:=blockL_len [32,32] ([114,117,108,101,32] ++ eT r.e) (r.acts.map ActD.txt)
  have h3:=(ho r (by simp)).2.1
  rw [List.length_map] at h2
  simp only [List.map_cons,List.flatten_cons,List.length_append,List.length_cons,RuleD.lines] at h1 ⊢
  omega
set_option maxHeartbeats 2000000 in
theorem coupled_ok {m:ModelD} (hm:ModelOk m) (hS:SL h L V) (hL:L.length ≤ 10000):Ln h V (L ++ coupL m) (Wd (.fn 85 [] []) [V,m.enc] h):=by
 have hV:∀id,idOf V = some id→id < h.length:=fun id hi=>hS.lt hi
 have s0:=Mid.start (x:=.cells m.cs) hS
 have n1:=hm.parts.1
 have n2:=hm.links.1
 obtain ⟨G1,W1,r1,s1⟩:=s0.step hV (parts_each s0.1 (by omega) hm.parts.1 hm.parts.2 [32,32,112,97,114,116,32] (by simp))
 obtain ⟨G2,W2,r2,s2⟩:=s1.step hV (links_each s1.1 (by simp;omega) hm.links.1 hm.links.2 [32,32,108,105,110,107,32] (by simp))
 obtain ⟨L2,hL2⟩ :∃L2,L2 = (L ++ m.parts.map fun s=>[32,32,112,97,114,116,32] ++ s.txt) ++ m.links.map fun s=>[32,32,108,105,110,107,32] ++ s.txt:=⟨_,rfl⟩
 have hl2:L2.length ≤ 12000:=by rw [hL2];simp;omega
 rw [←hL2] at s2
 have loop:∀k st,(∃(tt:List AVal) (i:Nat) (G:List ABox) (W:AVal),st = ⟨tt,G,false⟩∧tt.length = 32∧lkp tt 0 = W∧lkp tt 16 = .lst (m.rules.map RuleD.enc) .no∧lkp tt 17 = .int .i64 (m.rules.length:Nat)∧lkp tt 18 = .int .i64 (i:Nat)∧i + k = m.rules.length∧Mid h V (.cells m.cs) G W (L2 ++ ((m.rules.take i).map RuleD.lines).flatten))→
   ∃y st',execW h.length Wd (.loop l85_0) st = some (y,st')∧(∃(tt:List AVal) (G:List ABox) (W:AVal),st' = ⟨tt,G,false⟩∧tt.length = 32∧lkp tt 0 = W∧Mid h V (.cells m.cs) G W (L2 ++ (m.rules.map RuleD.lines).flatten)∧y = .exit 0):=by
  refine loop_rule _ (fun y st'=>∃(tt:List AVal) (G:List ABox) (W:AVal),st' = ⟨tt,G,false⟩∧tt.length = 32∧lkp tt 0 = W∧Mid h V (.cells m.cs) G W (L2 ++ (m.rules.map RuleD.lines).flatten)∧y = .exit 0) ?_
  rintro k st ⟨tt,i,G,W,rfl,ht,e0,e16,e17,e18,hik,hM⟩
  generalize hr:execW h.length Wd l85_0 _ = r
  have hR:=hm.rules
  generalize m.rules = l at *
  rcases Nat.lt_or_ge i l.length with hil | hil
  ·have c1:ilt (i:Int) (l.length:Int) = true:=iltT (by omega)
   have w:=wrap_succ (n:=i) (by omega)
   have ho:=hR.2 l[i] (List.getElem_mem hil)
   have hll:=lines_len (l:=l.take i) fun r hr=>hR.2 r (List.mem_of_mem_take hr)
   have htl:(l.take i).length ≤ 20:=by have:=hR.1;simp;omega
   have htk:((l.take (i + 1)).map RuleD.lines).flatten = ((l.take i).map RuleD.lines).flatten ++ l[i].lines:=by rw [List.take_succ_eq_append_getElem hil,List.map_append,List.flatten_append];simp
   have hmul:(l.take i).length * 1002 ≤ 20 * 1002:=Nat.mul_le_mul_right _ htl
   have hg:(l.map RuleD.enc)[i]? = some l[i].enc:=by rw [List.getElem?_map,List.getElem?_eq_getElem hil];rfl
   generalize l[i] = v at ho hg htk
   obtain ⟨e,acts⟩:=v
   have hT:=fun G=>eT_ok ho.1 G
   have hel:=eT_len ho.1
   rw [RuleD.enc] at hg
   have hv:RuleD.lines ⟨e,acts⟩ = blockL [32,32] ([114,117,108,101,32] ++ eT e) (acts.map ActD.txt):=rfl
   rw [hv] at htk
   simp only at hg hT hel
   have hM1:=hM.more (.cells (exC e ++ [.lst (acts.map ActD.enc) .no]))
   obtain ⟨G',W',rb,hM2⟩:=hM1.step hV (acts_block hM1.1 (by rw [List.length_append];omega) ho.2.1 ho.2.2 [32,32] ([114,117,108,101,32] ++ eT e) (by simp) (by simp;omega))
   simp only at rb
   generalize eT e = u at *
   clear ho
   obtain ⟨op,n,m2,sb,aS⟩:=e
   rw [exV_mk] at hT
   rw [exC] at hg rb
   have hx:ixaV 6 (.lst (l.map RuleD.enc) .no) (.int .i64 (i:Nat)) = some (.iptr [.int .i64 op,.int .i64 n,.str m2,.str sb,.lst (aS.map exV) .no,.lst (acts.map ActD.enc) .no] 0):=ixaV_get hg rfl
   obtain ⟨d0,w0,_,_⟩:=hM.1.facts
   obtain ⟨d1,w1,_,_⟩:=hM2.1.facts
   have hb1:Nat.ble h.length G.length = true:=ble_true (Nat.le_of_lt hM.2.1)
   have q1:5 + u.length ≤ limit:=by unfold limit;omega
   have q2:u.length + 5 ≤ limit:=by unfold limit;omega
   have q3:u.length + 1 + 1 + 1 + 1 + 1 ≤ limit:=by unfold limit;omega
   simp only [List.cons_append,List.nil_append] at rb
   simp only [l85_0,sT.1,sC.1,sTA.1,sCA.1,noApp,provA,provE,Src.isTmp,provOf,Src.hangs,AOpd.isT,srcOf,lookV,Nat.testBit,bne,simprocAttr,-Int.reduceNatCast',ht,e0,e16,e17,e18,c1,w,hx,hb1,hT,rb,d0,w0,d1,w1,q1,q2,q3,if_true,Bool.true_or,List.append_assoc] at hr
   subst hr
   refine .inl ⟨_,k - 1,rfl,by omega,_,i + 1,G',W',rfl,by simp only [length_up,ht],?_,?_,?_,?_,by omega,?_⟩
   ·simp only [sT.1,sC.1,sTA.1,sCA.1,noApp,provA,provE,Src.isTmp,provOf,Src.hangs,AOpd.isT,srcOf,lookV,Nat.testBit,bne,simprocAttr,-Int.reduceNatCast',ht,d1]
   ·simp only [sT.1,sC.1,sTA.1,sCA.1,noApp,provA,provE,Src.isTmp,provOf,Src.hangs,AOpd.isT,srcOf,lookV,Nat.testBit,bne,simprocAttr,-Int.reduceNatCast',ht,e16]
   ·simp only [sT.1,sC.1,sTA.1,sCA.1,noApp,provA,provE,Src.isTmp,provOf,Src.hangs,AOpd.isT,srcOf,lookV,Nat.testBit,bne,simprocAttr,-Int.reduceNatCast',ht,e17]
   ·simp only [sT.1,sC.1,sTA.1,sCA.1,noApp,provA,provE,Src.isTmp,provOf,Src.hangs,AOpd.isT,srcOf,lookV,Nat.testBit,bne,simprocAttr,-Int.reduceNatCast',ht]
   ·rw [htk];simpa using hM2
  ·have c1:ilt (i:Int) (l.length:Int) = false:=iltF (by omega)
   rw [List.take_of_length_le hil] at hM
   simp only [l85_0,sT.1,sC.1,sTA.1,sCA.1,noApp,provA,provE,Src.isTmp,provOf,Src.hangs,AOpd.isT,srcOf,lookV,Nat.testBit,bne,simprocAttr,-Int.reduceNatCast',ht,e17,e18,c1] at hr
   subst hr
   exact .inr ⟨_,_,rfl,by simp,_,G,W,rfl,by simp only [length_up,ht],by simp only [sT.1,sC.1,sTA.1,sCA.1,noApp,provA,provE,Src.isTmp,provOf,Src.hangs,AOpd.isT,srcOf,lookV,Nat.testBit,bne,simprocAttr,-Int.reduceNatCast',ht,e0],hM,rfl⟩
 obtain ⟨d0,w0,_,_⟩:=hS.facts
 obtain ⟨d1,w1,_,_⟩:=s1.1.facts
 obtain ⟨d2,w2,_,_⟩:=s2.1.facts
 have b1:=s1.2.2.1
 have b2:=s2.2.2.1
 have g1:=s1.2.1
 have g2:=s2.2.1
 clear s0 s1 hm n1 n2
 obtain ⟨nm,cp,ins,outs,vars,ta,emits,int,ext,con,own,parts,links,rules⟩:=m
 simp only [ModelD.cs] at *
 generalize hw:Wd _ _ h = w
 rw [Wd_fn rfl (show T.get 85 = some c85 by kernel_rfl)] at hw
 rw [ModelD.enc,ModelD.cs] at hw
 rw [coupL]
 simp only
 simp only [c85,sT.1,sC.1,sTA.1,sCA.1,noApp,provA,provE,Src.isTmp,provOf,Src.hangs,AOpd.isT,srcOf,lookV,Nat.testBit,bne,simprocAttr,-Int.reduceNatCast',List.length_map,r1,r2,d0,w0,d1,w1,d2,w2,b1,b2,g1,g2] at hw
 generalize hr:execW h.length Wd (.loop l85_0) _ = r at hw
 obtain ⟨y,st',rfl,tt,G3,W3,rfl,ht,e0,s3,rfl⟩:=known hr (loop rules.length _ ⟨_,0,G2,W2,rfl,by simp only [sT.1,sC.1,sTA.1,sCA.1,noApp,provA,provE,Src.isTmp,provOf,Src.hangs,AOpd.isT,srcOf,lookV,Nat.testBit,bne,simprocAttr,-Int.reduceNatCast'],by simp only [sT.1,sC.1,sTA.1,sCA.1,noApp,provA,provE,Src.isTmp,provOf,Src.hangs,AOpd.isT,srcOf,lookV,Nat.testBit,bne,simprocAttr,-Int.reduceNatCast',d2],by simp only [sT.1,sC.1,sTA.1,sCA.1,noApp,provA,provE,Src.isTmp,provOf,Src.hangs,AOpd.isT,srcOf,lookV,Nat.testBit,bne,simprocAttr,-Int.reduceNatCast'],by simp only [sT.1,sC.1,sTA.1,sCA.1,noApp,provA,provE,Src.isTmp,provOf,Src.hangs,AOpd.isT,srcOf,lookV,Nat.testBit,bne,simprocAttr,-Int.reduceNatCast'],by simp only [sT.1,sC.1,sTA.1,sCA.1,noApp,provA,provE,Src.isTmp,provOf,Src.hangs,AOpd.isT,srcOf,lookV,Nat.testBit,bne,simprocAttr,-Int.reduceNatCast',Int.natCast_zero],by omega,by simpa using s2⟩)
 obtain ⟨d3,w3,_,_⟩:=s3.1.facts
 simp only [sT.1,sC.1,sTA.1,sCA.1,noApp,provA,provE,Src.isTmp,provOf,Src.hangs,AOpd.isT,srcOf,lookV,Nat.testBit,bne,simprocAttr,-Int.reduceNatCast',ht,e0,d3,w3] at hw
 subst hw
 have:=s3.leave
 rw [hL2] at this
 simpa using this
end
end Go.Proofs.YtkmlapholimbcaaGreatDoor.AE
namespace Go.Proofs.YtkmlapholimbcaaGreatDoor.AE
open Go.AE
def headT (m:ModelD):Str:=(bif m.coupled then [99,111,117,112,108,101,100,32] else [97,116,111,109,105,99,32]) ++ m.name
def inL (m:ModelD):List Str:=(m.ins.map fun s=>[32,32,105,110,32] ++ s.txt) ++ ((m.outs.map fun s=>[32,32,111,117,116,32] ++ s.txt) ++ (bif m.coupled then coupL m else atomL m))
def modelL (m:ModelD):List Str:=bif (inL m).isEmpty then [headT m ++ [32,123,125]] else (headT m ++ [32,123]) :: (inL m ++ [[125]])
theorem rules_len (l:List RuleD):((l.map RuleD.lines).flatten).length ≤ (l.map fun r=>r.acts.length + 2).sum:=by
 induction l with
 | nil=>simp
 | cons r l ih=>
  have h2:=blockL_len [32,32] ([114,117,108,101,32] ++ eT r.e) (r.acts.map ActD.txt)
  rw [List.length_map] at h2
  simp only [List.map_cons,List.flatten_cons,List.length_append,List.sum_cons,RuleD.lines] at ih h2 ⊢
  omega
theorem inL_len {m:ModelD} (hm:ModelOk m):(inL m).length ≤ 360:=by
 have h:=hm.few
 have h1:=blockL_len [32,32] [105,110,116] (m.int.map SetD.txt)
 have h2:=blockL_len [32,32] [101,120,116] (m.ext.map SetD.txt)
 have h3:=blockL_len [32,32] [99,111,110] (m.own.map SetD.txt)
 have h4:=rules_len m.rules
 have h5:(conL m.con m.own).length ≤ m.own.length + 2:=by
  unfold conL
  rw [List.length_map] at h3
  cases m.con == 1 <;> cases m.con == 2 <;> simp only [cond_true,cond_false,List.length_cons,List.length_nil] <;> omega
 rw [List.length_map] at h1 h2
 unfold inL coupL atomL
 cases m.coupled <;> simp only [cond_true,cond_false,List.length_append,List.length_map] <;> omega
theorem modelL_len {m:ModelD} (hm:ModelOk m):(modelL m).length ≤ 362:=by
 have:=inL_len hm
 unfold modelL
 cases (inL m).isEmpty <;> simp <;> omega
section
variable {h:List ABox} {V:AVal} {L:List Str}
theorem cat_Ln {G:List ABox} {W W2:AVal} {M:List Str} (hS:SL G L W) (hw:SL G M W2) (hne:M ≠ []) (hl:L.length + M.length ≤ 100000) (b:Nat):∃G' W',hop b (.app 1) [W,W2] G = some (W',G',false)∧Ln G W (L ++ M) (some (.ret W',G',false)):=by
 obtain ⟨G',h1,h2,h3,h4⟩:=hS.cat hw hne hl b
 exact ⟨G',_,h1,G',_,rfl,h2,by omega,h4,.inr fun id hid=>by cases hid;omega⟩
theorem Ln.get {W W':AVal} {G G':List ABox} {L':List Str} (h:Ln G W L' (some (.ret W',G',false))):SL G' L' W'∧G.length ≤ G'.length∧(∀i,i < G.length→idOf W ≠ some i→G'[i]? = G[i]?)∧(W' = W∨∀id,idOf W' = some id→G.length ≤ id):=by
 obtain ⟨_,_,e,h1,h2,h3,h4⟩:=h
 cases e
 exact ⟨h1,h2,h3,h4⟩
set_option maxHeartbeats 4000000 in
theorem model_ok {m:ModelD} (hm:ModelOk m) (hS:SL h L V) (hL:L.length ≤ 9000):Ln h V (L ++ modelL m) (Wd (.fn 51 [] []) [V,m.enc] h):=by
 obtain ⟨x,hx⟩ :∃x,x = ABox.cells m.cs:=⟨_,rfl⟩
 obtain ⟨E,hE⟩ :∃E,E = AVal.lst [] .full:=⟨_,rfl⟩
 have hVE:∀id,idOf E = some id→id < h.length:=fun id hi=>by rw [hE] at hi;cases hi
 have hEn:∀i,idOf E ≠ some i:=fun i hi=>by rw [hE] at hi;cases hi
 have s0:Mid h E x (h ++ [x]) E []:=Mid.start (.inl ⟨rfl,hE⟩)
 have hil:=inL_len hm
 have n1:=hm.ins.1
 have n2:=hm.outs.1
 obtain ⟨G1,W1,r1,s1⟩:=s0.step hVE (ports_each s0.1 (by simp) hm.ins.1 hm.ins.2 [32,32,105,110,32] (by simp))
 obtain ⟨G2,W2,r2,s2⟩:=s1.step hVE (ports_each s1.1 (by simp;omega) hm.outs.1 hm.outs.2 [32,32,111,117,116,32] (by simp))
 obtain ⟨G3,W3,r3,s3⟩ :∃G3 W3,(bif m.coupled then Wd (.fn 85 [] []) [W2,m.enc] G2 else Wd (.fn 86 [] []) [W2,m.enc] G2) = some (.ret W3,G3,false)∧Mid h E x G3 W3 (inL m):=by
  unfold inL
  cases m.coupled with
  | true=>
   obtain ⟨G3,W3,r3,s3⟩:=s2.step hVE (coupled_ok hm s2.1 (by simp;omega))
   exact ⟨G3,W3,r3,by simpa using s3⟩
  | false=>
   obtain ⟨G3,W3,r3,s3⟩:=s2.step hVE (atomic_ok hm s2.1 (by simp;omega))
   exact ⟨G3,W3,r3,by simpa using s3⟩
 obtain ⟨_,_,_,q3⟩:=s3.1.facts
 have hV:∀id,idOf V = some id→id < h.length:=fun id hi=>hS.lt hi
 have t3:Mid h V x G3 V L:=⟨hS.keep fun id hi=>s3.2.2.2.1 id (hS.lt hi) (hEn id),s3.2.1,s3.2.2.1,fun i hi _=>s3.2.2.2.1 i hi (hEn i),.inl rfl⟩
 have hh:(headT m).length ≤ 30:=by
  have:=hm.name
  unfold headT
  cases m.coupled <;> simp <;> omega
 rw [modelL]
 obtain ⟨G9,W9,ra,rb,l9⟩:=app_Ln t3.1 (by omega) h.length (headT m ++ [32,123,125])
 obtain ⟨_,_,e9,t9⟩:=t3.step hV l9
 cases e9
 have a9:=t9.leave
 obtain ⟨G4,W4,rc,rd,l4⟩:=app_Ln t3.1 (by omega) h.length (headT m ++ [32,123])
 obtain ⟨_,_,e4,t4⟩:=t3.step hV l4
 cases e4
 have k4:=l4.get
 have w4:SL G4 (inL m) W3:=s3.1.keep fun id hid=>k4.2.2.1 id (s3.1.lt hid) fun hv=>by
  have:=hV id hv
  rcases s3.2.2.2.2 with e | e
  ·rw [e] at hid;exact hEn id hid
  ·have:=e id hid;omega
 have fin:inL m ≠ []→∃G5 W5 G6 W6,hop h.length (.app 1) [W4,W3] G4 = some (W5,G5,false)∧hop h.length (.lit 1 [.str []] 1 [0]) [.str [125]] G5 = some (.sl G5.length 0 1 1 0,G5 ++ [.cells [.str [125]]],false)∧hop h.length (.app 1) [W5,.sl G5.length 0 1 1 0] (G5 ++ [.cells [.str [125]]]) = some (W6,G6,false)∧Mid h V x G5 W5 ((L ++ [headT m ++ [32,123]]) ++ inL m)∧Mid h V x G6 W6 (((L ++ [headT m ++ [32,123]]) ++ inL m) ++ [[125]]):=fun hne=>by
  obtain ⟨G5,W5,re,l5⟩:=cat_Ln t4.1 w4 hne (by simp;omega) h.length
  obtain ⟨_,_,e5,t5⟩:=t4.step hV l5
  cases e5
  obtain ⟨G6,W6,rf,rg,l6⟩:=app_Ln t5.1 (by simp;omega) h.length [125]
  obtain ⟨_,_,e6,t6⟩:=t5.step hV l6
  cases e6
  exact ⟨G5,W5,G6,W6,re,rf,rg,t5,t6⟩
 obtain ⟨dV,wV,_,_⟩:=hS.facts
 obtain ⟨d1,w1,_,_⟩:=s1.1.facts
 obtain ⟨d2,w2,_,_⟩:=s2.1.facts
 obtain ⟨d3,w3,_,_⟩:=s3.1.facts
 obtain ⟨d4,w4',_,_⟩:=t4.1.facts
 obtain ⟨d9,w9,_,_⟩:=t9.1.facts
 have b1:=s1.2.2.1
 have b2:=s2.2.2.1
 have b3:=s3.2.2.1
 have g1:=s1.2.1
 have g2:=s2.2.1
 have g3:=s3.2.1
 clear s0 s1 s2 s3 t3 t4 t9 l9 l4 k4 w4 n1 n2 hil
 have hn:=hm.name
 clear hm
 subst hx hE
 rw [headT] at *
 generalize inL m = M at *
 obtain ⟨nm,cp,ins,outs,vars,ta,emits,int,ext,con,own,parts,links,rules⟩:=m
 simp only [ModelD.cs,ModelD.enc] at *
 have q1:8 + nm.length ≤ limit:=by unfold limit;omega
 have q2:7 + nm.length ≤ limit:=by unfold limit;omega
 have p7:∀k,k ≤ 20→nm.length + 1 + 1 + 1 + 1 + 1 + 1 + 1 + k ≤ limit:=fun k hk=>by unfold limit;omega
 have p8:∀k,k ≤ 20→nm.length + 1 + 1 + 1 + 1 + 1 + 1 + 1 + 1 + k ≤ limit:=fun k hk=>by unfold limit;omega
 have p9:∀k,k ≤ 20→nm.length + k ≤ limit:=fun k hk=>by unfold limit;omega
 have pa:=p7 0 (by omega)
 have pb:=p8 0 (by omega)
 rw [Nat.add_zero] at pa pb
 generalize hw:Wd _ _ h = w
 rw [Wd_fn rfl (show T.get 51 = some c51 by kernel_rfl)] at hw
 cases hM:M.isEmpty with
 | true=>
  cases cp <;> simp only [cond_true,cond_false,List.cons_append,List.nil_append] at r3 ra rb a9 hw ⊢ <;> simp only [c51,sT.1,sC.1,sTA.1,sCA.1,noApp,provA,provE,Src.isTmp,provOf,Src.hangs,AOpd.isT,srcOf,lookV,Nat.testBit,bne,simprocAttr,-Int.reduceNatCast',op_hx,hxW_some,plain_hx,effs_hx,isApp_hx,dim_sl,drain_sl,lenE,hM,q3,r1,r2,r3,ra,rb,dV,wV,d1,w1,d2,w2,d3,w3,d9,w9,b1,b2,b3,g1,g2,g3,q1,q2,p7,p8,p9,pa,pb,if_true,List.append_assoc] at hw <;> subst hw <;> exact a9
 | false=>
  obtain ⟨G5,W5,G6,W6,re,rf,rg,t5,t6⟩:=fin (by rintro rfl;cases hM)
  obtain ⟨d5,w5,_,_⟩:=t5.1.facts
  obtain ⟨d6,w6,_,_⟩:=t6.1.facts
  have a6:=t6.leave
  cases cp <;> simp only [cond_true,cond_false,List.cons_append,List.nil_append] at r3 rc rd a6 hw ⊢ <;> simp only [c51,sT.1,sC.1,sTA.1,sCA.1,noApp,provA,provE,Src.isTmp,provOf,Src.hangs,AOpd.isT,srcOf,lookV,Nat.testBit,bne,simprocAttr,-Int.reduceNatCast',op_hx,hxW_some,plain_hx,effs_hx,isApp_hx,dim_sl,drain_sl,lenE,hM,q3,r1,r2,r3,rc,rd,re,rf,rg,dV,wV,d1,w1,d2,w2,d3,w3,d4,w4',d5,w5,d6,w6,b1,b2,b3,g1,g2,g3,q1,q2,p7,p8,p9,pa,pb,if_true,List.append_assoc] at hw <;> subst hw <;> simpa using a6
end
end Go.Proofs.YtkmlapholimbcaaGreatDoor.AE
namespace Go.Proofs.YtkmlapholimbcaaGreatDoor.AE
open Go.AE
structure ProgD where (models:List ModelD) (root:Str)
def ProgD.cs (p:ProgD):List AVal:=[.lst (p.models.map ModelD.enc) .no,.str p.root]
def ProgD.enc (p:ProgD):AVal:=.agg p.cs
structure ProgOk (p:ProgD):Prop where
 models:p.models.length ≤ 24∧∀m ∈ p.models,ModelOk m
 root:p.root.length ≤ 16
def rootL (r:Str):Str:=[114,111,111,116,32] ++ (r ++ [59])
def modelsL (l:List ModelD):List Str:=(l.map modelL).flatten
def progL (p:ProgD):List Str:=modelsL p.models ++ [rootL p.root]
def Few (l:List Str):Prop:=∀s ∈ l,s.length ≤ 100000
theorem Few.app {a b:List Str} (ha:Few a) (hb:Few b):Few (a ++ b):=fun s hs=>(List.mem_append.1 hs).elim (ha s) (hb s)
theorem few_map {α:Type} {l:List α} {f:α→Str} (h:∀x ∈ l,(f x).length ≤ 95000) (a:Str) (ha:a.length ≤ 100):Few (l.map fun x=>a ++ f x):=fun s hs=>by
 obtain ⟨x,hx,rfl⟩:=List.mem_map.1 hs
 have:=h x hx
 simp
 omega
theorem few_block {l:List Str} {ah hd:Str} (ha:ah.length ≤ 100) (hh:hd.length ≤ 90000) (h:∀s ∈ l,s.length ≤ 95000):Few (blockL ah hd l):=by
 intro s hs
 unfold blockL at hs
 cases he:l.isEmpty with
 | true=>rw [he] at hs;simp at hs;subst hs;simp;omega
 | false=>
  rw [he] at hs
  simp only [cond_false,List.mem_cons,List.mem_append,List.mem_map,List.mem_singleton] at hs
  rcases hs with rfl | ⟨x,hx,rfl⟩ | hs
  ·simp;omega
  ·have:=h x hx;simp;omega
  ·have hs:s = ah ++ [125]:=by simpa using hs
   subst hs;simp;omega
theorem set_len {s:SetD} (h:SetOk s):s.txt.length ≤ 95000:=by have:=eT_len h.2;have:=h.1;unfold SetD.txt;simp;omega
theorem port_len {s:PortD} (h:PortOk s):s.txt.length ≤ 95000:=by have:=(tt_ok 3 (by omega) s.t h.2).2;have:=h.1;unfold PortD.txt;simp;omega
theorem ta_len {s:Exl} (h:ExOk s):(taT s).length ≤ 95000:=by have:=eT_len h;unfold taT;simp;omega
theorem emit_len {s:EmitD} (h:EmitOk s):s.txt.length ≤ 95000:=by have:=eT_len h.2.1;have:=ifsT_len h.2.2.2;have:=h.1;have:=h.2.2.1;unfold EmitD.txt;simp;omega
theorem part_len {s:PartD} (h:PartOk s):s.txt.length ≤ 95000:=by have:=h.1;have:=h.2;unfold PartD.txt;simp;omega
theorem link_len {s:LinkD} (h:LinkOk s):s.txt.length ≤ 95000:=by have:=LinkD.len h.1 h.2;omega
theorem act_len {s:ActD} (h:s.short):s.txt.length ≤ 95000:=by
 obtain ⟨h1,h2,h3⟩:=h
 unfold ActD.txt
 cases c0:s.kind == 0 with
 | true=>simp;omega
 | false=>
  cases c1:s.kind == 1 with
  | true=>simp;omega
  | false=>
   have h4:=h3 (beq_eq_false_iff_ne.1 c0) (beq_eq_false_iff_ne.1 c1)
   have:=LinkD.len h4.1 h4.2
   cases s.kind == 2 <;> simp <;> omega
theorem few_rules {l:List RuleD} (h:∀r ∈ l,RuleOk r):Few (l.map RuleD.lines).flatten:=fun s hs=>by
 obtain ⟨L,hL,hs⟩:=List.mem_flatten.1 hs
 obtain ⟨r,hr,rfl⟩:=List.mem_map.1 hL
 have:=eT_len (h r hr).1
 refine few_block (by simp) (by simp;omega) (fun s hs=>?_) s hs
 obtain ⟨a,ha,rfl⟩:=List.mem_map.1 hs
 exact act_len ((h r hr).2.2 a ha)
theorem few_sets {l:List SetD} (h:∀s ∈ l,SetOk s):∀s ∈ l.map SetD.txt,s.length ≤ 95000:=fun s hs=>by
 obtain ⟨a,ha,rfl⟩:=List.mem_map.1 hs
 exact set_len (h a ha)
theorem few_con {con:Int} {l:List SetD} (h:∀s ∈ l,SetOk s):Few (conL con l):=by
 unfold conL
 cases con == 1 with
 | true=>intro s hs;simp at hs;subst hs;simp
 | false=>
  cases con == 2 with
  | true=>exact few_block (by simp) (by simp) (few_sets h)
  | false=>intro s hs;simp at hs
theorem model_few {m:ModelD} (hm:ModelOk m):Few (modelL m):=by
 have hn:=hm.name
 have hh:(headT m).length ≤ 30:=by
  unfold headT
  cases m.coupled <;> simp <;> omega
 have hi:Few (inL m):=by
  unfold inL
  refine (few_map (fun x hx=>port_len (hm.ins.2 x hx)) _ (by simp)).app ((few_map (fun x hx=>port_len (hm.outs.2 x hx)) _ (by simp)).app ?_)
  cases m.coupled with
  | true=>exact (few_map (fun x hx=>part_len (hm.parts.2 x hx)) _ (by simp)).app ((few_map (fun x hx=>link_len (hm.links.2 x hx)) _ (by simp)).app (few_rules hm.rules.2))
  | false=>exact (few_map (fun x hx=>set_len (hm.vars.2 x hx)) _ (by simp)).app ((few_map (fun x hx=>ta_len (hm.ta.2 x hx)) _ (by simp)).app ((few_map (fun x hx=>emit_len (hm.emits.2 x hx)) _ (by simp)).app ((few_block (by simp) (by simp) (few_sets hm.int.2)).app ((few_block (by simp) (by simp) (few_sets hm.ext.2)).app (few_con hm.own.2)))))
 unfold modelL
 cases (inL m).isEmpty with
 | true=>intro s hs;simp at hs;subst hs;simp;omega
 | false=>
  intro s hs
  simp only [cond_false,List.mem_cons,List.mem_append] at hs
  rcases hs with rfl | hs | hs | hs
  ·simp;omega
  ·exact hi s hs
  ·subst hs;simp
  ·cases hs
theorem prog_few {p:ProgD} (hp:ProgOk p):Few (progL p):=by
 refine Few.app (fun s hs=>?_) fun s hs=>?_
 ·obtain ⟨L,hL,hs⟩:=List.mem_flatten.1 hs
  obtain ⟨m,hm,rfl⟩:=List.mem_map.1 hL
  exact model_few (hp.models.2 m hm) s hs
 ·have:=hp.root
  simp at hs;subst hs;unfold rootL;simp;omega
theorem modelsL_len {l:List ModelD} (h:∀m ∈ l,ModelOk m):(modelsL l).length ≤ l.length * 362:=by
 induction l with
 | nil=>simp [modelsL]
 | cons m l ih=>
  have h1:=modelL_len (h m (by simp))
  have h2:=ih fun x hx=>h x (by simp [hx])
  simp only [modelsL,List.map_cons,List.flatten_cons,List.length_append,List.length_cons] at h2 ⊢
  omega
theorem progL_len {p:ProgD} (hp:ProgOk p):(progL p).length ≤ 8689:=by
 have h:=modelsL_len hp.models.2
 have h1:p.models.length * 362 ≤ 24 * 362:=Nat.mul_le_mul_right _ hp.models.1
 unfold progL
 simp
 omega
set_option maxHeartbeats 2000000 in
theorem prog_ok {p:ProgD} (hp:ProgOk p) (h:List ABox):∃G' V',Wd (.fn 31 [] []) [p.enc] h = some (.ret V',G',false)∧SL G' (progL p) V'∧h.length ≤ G'.length∧(∀i,i < h.length→G'[i]? = h[i]?)∧∀id,idOf V' = some id→h.length ≤ id:=by
 obtain ⟨E,hE⟩ :∃E,E = AVal.lst [] .full:=⟨_,rfl⟩
 have hV:∀id,idOf E = some id→id < h.length:=fun id hi=>by rw [hE] at hi;cases hi
 have hEn:∀i,idOf E ≠ some i:=fun i hi=>by rw [hE] at hi;cases hi
 obtain ⟨l,root⟩:=p
 have hm:=hp.models
 have hr:=hp.root
 simp only at hm hr
 have s0:Mid h E (.cells (ProgD.cs ⟨l,root⟩)) (h ++ [.cells (ProgD.cs ⟨l,root⟩)]) E []:=Mid.start (.inl ⟨rfl,hE⟩)
 have loop:∀k st,(∃(tt:List AVal) (i:Nat) (G:List ABox) (W:AVal),st = ⟨tt,G,false⟩∧tt.length = 24∧lkp tt 1 = .ptr h.length 0∧lkp tt 3 = W∧lkp tt 7 = .lst (l.map ModelD.enc) .no∧lkp tt 8 = .int .i64 (l.length:Nat)∧lkp tt 9 = .int .i64 (i:Nat)∧i + k = l.length∧Mid h E (.cells (ProgD.cs ⟨l,root⟩)) G W (modelsL (l.take i)))→
   ∃y st',execW h.length Wd (.loop l31_0) st = some (y,st')∧(∃(tt:List AVal) (G:List ABox) (W:AVal),st' = ⟨tt,G,false⟩∧tt.length = 24∧lkp tt 1 = .ptr h.length 0∧lkp tt 3 = W∧Mid h E (.cells (ProgD.cs ⟨l,root⟩)) G W (modelsL l)∧y = .exit 0):=by
  refine loop_rule _ (fun y st'=>∃(tt:List AVal) (G:List ABox) (W:AVal),st' = ⟨tt,G,false⟩∧tt.length = 24∧lkp tt 1 = .ptr h.length 0∧lkp tt 3 = W∧Mid h E (.cells (ProgD.cs ⟨l,root⟩)) G W (modelsL l)∧y = .exit 0) ?_
  rintro k st ⟨tt,i,G,W,rfl,ht,e1,e3,e7,e8,e9,hik,hM⟩
  generalize hr:execW h.length Wd l31_0 _ = r
  rcases Nat.lt_or_ge i l.length with hil | hil
  ·have c1:ilt (i:Int) (l.length:Int) = true:=iltT (by omega)
   have w:=wrap_succ (n:=i) (by omega)
   have ho:=hm.2 l[i] (List.getElem_mem hil)
   have hll:=modelsL_len (l:=l.take i) fun r hr=>hm.2 r (List.mem_of_mem_take hr)
   have htl:(l.take i).length * 362 ≤ 24 * 362:=Nat.mul_le_mul_right _ (by simp;omega)
   have htk:modelsL (l.take (i + 1)) = modelsL (l.take i) ++ modelL l[i]:=by rw [List.take_succ_eq_append_getElem hil,modelsL,List.map_append,List.flatten_append];simp [modelsL]
   have hg:(l.map ModelD.enc)[i]? = some l[i].enc:=by rw [List.getElem?_map,List.getElem?_eq_getElem hil];rfl
   have hM1:=hM.more (.cells l[i].cs)
   obtain ⟨G',W',rb,hM2⟩:=hM1.step hV (model_ok ho hM1.1 (by omega))
   rw [←htk] at hM2
   clear htk ho
   generalize l[i] = m at hg rb
   obtain ⟨nm,cp,ins,outs,vars,ta,emits,int,ext,con,own,parts,links,rules⟩:=m
   simp only [ModelD.enc,ModelD.cs] at hg rb
   have hx:=ixaV_get (k:=14) (f:=.no) (j:=.i64) hg rfl
   obtain ⟨d0,w0,_,_⟩:=hM.1.facts
   obtain ⟨d1,w1,_,_⟩:=hM2.1.facts
   have hb1:Nat.ble h.length G.length = true:=ble_true (Nat.le_of_lt hM.2.1)
   change ixaV 14 (.lst (l.map ModelD.enc) .no) _ = _ at hx
   simp only [l31_0,sT.1,sC.1,sTA.1,sCA.1,noApp,provA,provE,Src.isTmp,provOf,Src.hangs,AOpd.isT,srcOf,lookV,Nat.testBit,bne,simprocAttr,-Int.reduceNatCast',ht,e1,e3,e7,e8,e9,c1,w,hx,hb1,rb,d0,w0,d1,w1,if_true,Bool.true_or,AVal.cells] at hr
   subst hr
   refine .inl ⟨_,k - 1,rfl,by omega,_,i + 1,G',W',rfl,by simp only [length_up,ht],?_,?_,?_,?_,?_,by omega,hM2⟩
   ·simp only [sT.1,sC.1,sTA.1,sCA.1,noApp,provA,provE,Src.isTmp,provOf,Src.hangs,AOpd.isT,srcOf,lookV,Nat.testBit,bne,simprocAttr,-Int.reduceNatCast',ht,e1]
   ·simp only [sT.1,sC.1,sTA.1,sCA.1,noApp,provA,provE,Src.isTmp,provOf,Src.hangs,AOpd.isT,srcOf,lookV,Nat.testBit,bne,simprocAttr,-Int.reduceNatCast',ht,d1]
   ·simp only [sT.1,sC.1,sTA.1,sCA.1,noApp,provA,provE,Src.isTmp,provOf,Src.hangs,AOpd.isT,srcOf,lookV,Nat.testBit,bne,simprocAttr,-Int.reduceNatCast',ht,e7]
   ·simp only [sT.1,sC.1,sTA.1,sCA.1,noApp,provA,provE,Src.isTmp,provOf,Src.hangs,AOpd.isT,srcOf,lookV,Nat.testBit,bne,simprocAttr,-Int.reduceNatCast',ht,e8]
   ·simp only [sT.1,sC.1,sTA.1,sCA.1,noApp,provA,provE,Src.isTmp,provOf,Src.hangs,AOpd.isT,srcOf,lookV,Nat.testBit,bne,simprocAttr,-Int.reduceNatCast',ht]
  ·have c1:ilt (i:Int) (l.length:Int) = false:=iltF (by omega)
   rw [List.take_of_length_le hil] at hM
   simp only [l31_0,sT.1,sC.1,sTA.1,sCA.1,noApp,provA,provE,Src.isTmp,provOf,Src.hangs,AOpd.isT,srcOf,lookV,Nat.testBit,bne,simprocAttr,-Int.reduceNatCast',ht,e8,e9,c1] at hr
   subst hr
   exact .inr ⟨_,_,rfl,by simp,_,G,W,rfl,by simp only [length_up,ht],by simp only [sT.1,sC.1,sTA.1,sCA.1,noApp,provA,provE,Src.isTmp,provOf,Src.hangs,AOpd.isT,srcOf,lookV,Nat.testBit,bne,simprocAttr,-Int.reduceNatCast',ht,e1],by simp only [sT.1,sC.1,sTA.1,sCA.1,noApp,provA,provE,Src.isTmp,provOf,Src.hangs,AOpd.isT,srcOf,lookV,Nat.testBit,bne,simprocAttr,-Int.reduceNatCast',ht,e3],hM,rfl⟩
 generalize hw:Wd _ _ h = w
 rw [Wd_fn rfl (show T.get 31 = some c31 by kernel_rfl)] at hw
 rw [ProgD.enc,ProgD.cs] at hw
 rw [ProgD.cs] at s0
 simp only [ProgD.cs] at loop
 simp only [c31,sT.1,sC.1,sTA.1,sCA.1,noApp,provA,provE,Src.isTmp,provOf,Src.hangs,AOpd.isT,srcOf,lookV,Nat.testBit,bne,simprocAttr,-Int.reduceNatCast',List.length_map] at hw
 generalize hr2:execW h.length Wd (.loop l31_0) _ = r at hw
 obtain ⟨y,st',rfl,tt,G3,W3,rfl,ht,e1,e3,s3,rfl⟩:=known hr2 (loop l.length _ ⟨_,0,_,E,rfl,by simp only [sT.1,sC.1,sTA.1,sCA.1,noApp,provA,provE,Src.isTmp,provOf,Src.hangs,AOpd.isT,srcOf,lookV,Nat.testBit,bne,simprocAttr,-Int.reduceNatCast'],by simp only [sT.1,sC.1,sTA.1,sCA.1,noApp,provA,provE,Src.isTmp,provOf,Src.hangs,AOpd.isT,srcOf,lookV,Nat.testBit,bne,simprocAttr,-Int.reduceNatCast'],by simp only [sT.1,sC.1,sTA.1,sCA.1,noApp,provA,provE,Src.isTmp,provOf,Src.hangs,AOpd.isT,srcOf,lookV,Nat.testBit,bne,simprocAttr,-Int.reduceNatCast',hE],by simp only [sT.1,sC.1,sTA.1,sCA.1,noApp,provA,provE,Src.isTmp,provOf,Src.hangs,AOpd.isT,srcOf,lookV,Nat.testBit,bne,simprocAttr,-Int.reduceNatCast'],by simp only [sT.1,sC.1,sTA.1,sCA.1,noApp,provA,provE,Src.isTmp,provOf,Src.hangs,AOpd.isT,srcOf,lookV,Nat.testBit,bne,simprocAttr,-Int.reduceNatCast'],by simp only [sT.1,sC.1,sTA.1,sCA.1,noApp,provA,provE,Src.isTmp,provOf,Src.hangs,AOpd.isT,srcOf,lookV,Nat.testBit,bne,simprocAttr,-Int.reduceNatCast',Int.natCast_zero],by omega,s0⟩)
 have hll:=modelsL_len hm.2
 have h1:l.length * 362 ≤ 24 * 362:=Nat.mul_le_mul_right _ hm.1
 obtain ⟨d3,w3,_,_⟩:=s3.1.facts
 obtain ⟨G4,W4,ra,rb,l4⟩:=app_Ln s3.1 (by omega) h.length (rootL root)
 obtain ⟨_,_,e4,s4⟩:=s3.step hV l4
 cases e4
 obtain ⟨d4,w4,_,_⟩:=s4.1.facts
 have a4:=s4.leave
 have b3:=s3.2.2.1
 have g3:=s3.2.1
 have q1:5 + root.length ≤ limit:=by unfold limit;omega
 have q2:root.length + 5 ≤ limit:=by unfold limit;omega
 have q3:root.length + 1 + 1 + 1 + 1 + 1 ≤ limit:=by unfold limit;omega
 have q4:root.length + 1 + 1 + 1 + 1 + 1 + 1 ≤ limit:=by unfold limit;omega
 have hre:rootL root = 114 :: 111 :: 111 :: 116 :: 32 :: (root ++ [59]):=rfl
 rw [hre] at ra rb
 simp only [sT.1,sC.1,sTA.1,sCA.1,noApp,provA,provE,Src.isTmp,provOf,Src.hangs,AOpd.isT,srcOf,lookV,Nat.testBit,bne,simprocAttr,-Int.reduceNatCast',op_hx,hxW_some,plain_hx,effs_hx,isApp_hx,dim_sl,drain_sl,ht,e1,e3,d3,w3,d4,w4,b3,g3,ra,rb,q1,q2,q3,q4,if_true,List.append_assoc] at hw
 subst hw
 obtain ⟨G',V',e,x1,x2,x3,x4⟩:=a4
 exact ⟨G',V',e,x1,x2,fun i hi=>x3 i hi (hEn i),fun id hid=>x4.elim (fun e=>absurd (e▸hid) (hEn id)) fun f=>f id hid⟩
end Go.Proofs.YtkmlapholimbcaaGreatDoor.AE
