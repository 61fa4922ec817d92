/- A part of the proof: the abstract executor and what goes through it (part 27). No condition. -/
import Derived.Test.YtnlhdflceelacaaGreatDoorMq26
set_option maxRecDepth 100000
namespace Go.Proofs.YtnlhdflceelacaaGreatDoor.AE
open Go.AE
def LP (H:Nat→Option qg) (l:List Val) (L:qa):Prop:=(l = []∧L = .lst [] .full)∨∃(id:Nat) (ess:List (List qa)),L = .sl id 0 l.length l.length 0∧H id = some (.cells ess.flatten)∧ess.length = l.length∧∀(i:Nat) (h:i < l.length) (h':i < ess.length),VR H l[i] ess[i]
theorem VR.lp {H:Nat→Option qg} {k n:Int} {s:Str} {l:List Val} {cs:List qa} (h:VR H (.mk k n s l) cs):∃L,cs = [.int .i64 k,.int .i64 n,.str s,L]∧LP H l L:=by
 cases h with
 | leaf=>exact ⟨_,rfl,.inl ⟨rfl,rfl⟩⟩
 | node _ _ _ _ id ess h1 h2 h3 h4=>exact ⟨_,rfl,.inr ⟨id,ess,rfl,h2,h3,h4⟩⟩
theorem LP.facts {H:Nat→Option qg} {l:List Val} {L:qa} (h:LP H l L):L.dim = L∧L.storable = true∧(∀i t,qau L i t = t)∧qis false L = some (.int .i64 (l.length:Nat)):=by
 rcases h with ⟨rfl,rfl⟩ | ⟨id,ess,rfl,_⟩ <;> exact ⟨rfl,rfl,fun _ _=>rfl,rfl⟩
theorem LP.item {H:Nat→Option qg} {l:List Val} {L:qa} (h:LP H l L) {i:Nat} (hi:i < l.length) {g:List qg} (hg:Cov H g):∃id row cs,qbr 4 L (.int .i64 (i:Nat)) = some (.ptr id (i * 4))∧g[id]? = some (.cells row)∧cut row (i * 4) (some 4) = some (.agg cs)∧VR H l[i] cs:=by
 rcases h with ⟨rfl,rfl⟩ | ⟨id,ess,rfl,h2,h3,h4⟩
 ·simp at hi
 ·have hi':i < ess.length:=by omega
  exact ⟨id,_,ess[i],qb4 hi,hg _ _ h2,(VR.elem h3 h4).2 i hi',h4 i hi hi'⟩
theorem OK.items {d:Nat} {k n:Int} {s:Str} {l:List Val} (h:OK d (.mk k n s l)):l.length ≤ 4∧∀x ∈ l,∃d',OK d' x:=by
 have leaf:qln k n s l→l.length ≤ 4∧∀x ∈ l,∃d',OK d' x:=fun h0=>by
  have hl:l = []:=by rcases h0 with ⟨_,_,h⟩ | ⟨_,_,h,_⟩ | ⟨_,_,_,h⟩ <;> exact h
  subst hl
  exact ⟨by simp,fun x hx=>by cases hx⟩
 cases d with
 | zero=>exact leaf h
 | succ d=>
  rcases h with h | ⟨_,_,_,_,h4,hall⟩
  ·exact leaf h
  ·exact ⟨h4,fun x hx=>⟨d,hall x hx⟩⟩
def Ord (H:Nat→Option qg) (v:Val):Prop:=∀w cs ds g,(∃d,OK d w)→VR H v cs→VR H w ds→Cov H g→Wd (.fn 57 [] []) [.agg cs,.agg ds] g = some (.ret (.int .i64 (qdc v w)),g,false)
theorem qgX {l l':List Val} {i:Nat} (h1:i < l.length) (h2:i < l'.length):qbc (l.drop i) (l'.drop i) = orI (qdc l[i] l'[i]) (qbc (l.drop (i + 1)) (l'.drop (i + 1))):=by
 rw [List.drop_eq_getElem_cons h1,List.drop_eq_getElem_cons h2,qbc]
theorem qpH {l l':List Val} {i:Nat} (h:i = min l.length l'.length):qbc (l.drop i) (l'.drop i) = qcq l.length l'.length:=by
 unfold qcq
 rcases Nat.lt_trichotomy l.length l'.length with hl | hl | hl
 ·have e:l.drop i = []:=List.drop_eq_nil_of_le (by omega)
  rw [e,List.drop_eq_getElem_cons (show i < l'.length by omega),qbc,if_pos (by omega)]
 ·have e:l.drop i = []:=List.drop_eq_nil_of_le (by omega)
  have e':l'.drop i = []:=List.drop_eq_nil_of_le (by omega)
  rw [e,e',qbc,if_neg (by omega),if_neg (by omega)]
 ·have e:l'.drop i = []:=List.drop_eq_nil_of_le (by omega)
  rw [e,List.drop_eq_getElem_cons (show i < l.length by omega),qbc,if_neg (by omega),if_pos (by omega)]
set_option maxHeartbeats 2000000 in
theorem qog {H:Nat→Option qg} {l l':List Val} {L L':qa} (hl:l.length ≤ 100) (hL:LP H l L) (hL':LP H l' L') (ho:∀x ∈ l,Ord H x) (hl':l'.length ≤ 100) (hok:∀x ∈ l',∃d,OK d x) (h:List qg) (hg:Cov H h) :
  Wd (.fn 109 [] []) [L,L',.fn 57 [] []] h = some (.ret (.int .i64 (qbc l l')),h,false):=by
 obtain ⟨d1,s1,w1,n1⟩:=hL.facts
 obtain ⟨d2,s2,w2,n2⟩:=hL'.facts
 have hmin:(if ((l'.length:Nat):Int) < ((l.length:Nat):Int) then ((l'.length:Nat):Int) else ((l.length:Nat):Int)) = ((min l.length l'.length:Nat):Int):=by
  split <;> omega
 have loop:∀k st,(∃(tt:List qa) (i:Nat),st = ⟨tt,h,false⟩∧tt.length = 36∧lkp tt 0 = L∧lkp tt 1 = L'∧lkp tt 2 = .fn 57 [] []∧lkp tt 13 = .int .i64 (min l.length l'.length:Nat)∧lkp tt 14 = .int .i64 (i:Nat)∧i + k = min l.length l'.length∧qbc l l' = qbc (l.drop i) (l'.drop i))→
   ∃x st',qy h.length Wd (.loop qeX) st = some (x,st')∧(∃tt:List qa,st' = ⟨tt,h,false⟩∧tt.length = 36∧lkp tt 0 = L∧lkp tt 1 = L'∧((x = .exit 0∧qbc l l' = qcq l.length l'.length)∨(x = .ret∧lkp tt 6 = .int .i64 (qbc l l')))):=by
  refine qK _ (fun x st'=>∃tt:List qa,st' = ⟨tt,h,false⟩∧tt.length = 36∧lkp tt 0 = L∧lkp tt 1 = L'∧((x = .exit 0∧qbc l l' = qcq l.length l'.length)∨(x = .ret∧lkp tt 6 = .int .i64 (qbc l l')))) ?_
  rintro k st ⟨tt,i,rfl,ht,e0,e1,e2,e13,e14,hik,hf⟩
  generalize he:qy h.length Wd qeX _ = r
  rcases Nat.lt_or_ge i (min l.length l'.length) with hi | hi
  ·have hi1:i < l.length:=by omega
   have hi2:i < l'.length:=by omega
   have c1:ilt (i:Int) ((min l.length l'.length:Nat):Int) = true:=by rw [qr];simp;omega
   have w:=qP (n:=i) (by omega)
   obtain ⟨id,row,cs,x1,x2,x3,x4⟩:=hL.item hi1 hg
   obtain ⟨id',row',cs',y1,y2,y3,y4⟩:=hL'.item hi2 hg
   have hor:=ho _ (List.getElem_mem hi1) _ _ _ h (hok _ (List.getElem_mem hi2)) x4 y4 hg
   rw [qgX hi1 hi2] at hf
   cases hz:(qdc l[i] l'[i] == 0) with
   | true=>
    have hz':qdc l[i] l'[i] = 0:=by simpa using hz
    rw [hz'] at hf hor
    have z0:(((0:Int)) == 0) = true:=by kernel_rfl
    simp only [qeX,sT.1,sC.1,qd,qc,Nat.testBit,simprocAttr,-Int.reduceNatCast',ht,e0,e1,e2,e13,e14,c1,w,d1,d2,w1,w2,x1,x2,x3,y1,y2,y3,hor,z0] at he
    subst he
    refine .inl ⟨_,k - 1,rfl,by omega,_,i + 1,rfl,by simp only [qi,ht],?_,?_,?_,?_,?_,by omega,?_⟩
    ·simp only [sT.1,sC.1,qd,qc,Nat.testBit,simprocAttr,-Int.reduceNatCast',ht,e0]
    ·simp only [sT.1,sC.1,qd,qc,Nat.testBit,simprocAttr,-Int.reduceNatCast',ht,e1]
    ·simp only [sT.1,sC.1,qd,qc,Nat.testBit,simprocAttr,-Int.reduceNatCast',ht,e2]
    ·simp only [sT.1,sC.1,qd,qc,Nat.testBit,simprocAttr,-Int.reduceNatCast',ht,e13]
    ·simp only [sT.1,sC.1,qd,qc,Nat.testBit,simprocAttr,-Int.reduceNatCast',ht]
    ·rw [hf];rfl
   | false=>
    have hz':¬ qdc l[i] l'[i] = 0:=by simpa using hz
    have hf':qbc l l' = qdc l[i] l'[i]:=by rw [hf,orI,if_neg hz']
    simp only [qeX,sT.1,sC.1,qd,qc,Nat.testBit,simprocAttr,-Int.reduceNatCast',ht,e0,e1,e2,e13,e14,c1,w,d1,d2,w1,w2,x1,x2,x3,y1,y2,y3,hor,hz] at he
    subst he
    refine .inr ⟨_,_,rfl,by simp,_,rfl,by simp only [qi,ht],?_,?_,.inr ⟨rfl,?_⟩⟩
    ·simp only [sT.1,sC.1,qd,qc,Nat.testBit,simprocAttr,-Int.reduceNatCast',ht,e0]
    ·simp only [sT.1,sC.1,qd,qc,Nat.testBit,simprocAttr,-Int.reduceNatCast',ht,e1]
    ·simp only [sT.1,sC.1,qd,qc,Nat.testBit,simprocAttr,-Int.reduceNatCast',ht,hf']
  ·have c1:ilt (i:Int) ((min l.length l'.length:Nat):Int) = false:=by rw [qr];simp;omega
   simp only [qeX,sT.1,sC.1,qd,qc,Nat.testBit,simprocAttr,-Int.reduceNatCast',ht,e13,e14,c1] at he
   subst he
   refine .inr ⟨_,_,rfl,by simp,_,rfl,by simp only [qi,ht],?_,?_,.inl ⟨rfl,?_⟩⟩
   ·simp only [sT.1,sC.1,qd,qc,Nat.testBit,simprocAttr,-Int.reduceNatCast',ht,e0]
   ·simp only [sT.1,sC.1,qd,qc,Nat.testBit,simprocAttr,-Int.reduceNatCast',ht,e1]
   ·rw [hf,qpH (by omega)]
 have hci:=qlM (g:=h) (l.length:Nat) (l'.length:Nat)
 generalize hw:Wd _ _ h = w
 rw [qab rfl (show T.get 109 = some qxJ by kernel_rfl)] at hw
 simp only [qxJ,sT.1,sC.1,qd,qc,Nat.testBit,simprocAttr,-Int.reduceNatCast',d1,d2,w1,w2,n1,n2,hmin] at hw
 generalize hr':qy h.length Wd (.loop qeX) _ = r at hw
 obtain ⟨x,st',rfl,tt,rfl,ht,e0,e1,⟨rfl,hf⟩ | ⟨rfl,e6⟩⟩:=qbU hr' (loop (min l.length l'.length) _ ⟨_,0,rfl,by simp only [sT.1,sC.1,qd,qc,Nat.testBit,simprocAttr,-Int.reduceNatCast'],by simp only [sT.1,sC.1,qd,qc,Nat.testBit,simprocAttr,-Int.reduceNatCast'],by simp only [sT.1,sC.1,qd,qc,Nat.testBit,simprocAttr,-Int.reduceNatCast'],by simp only [sT.1,sC.1,qd,qc,Nat.testBit,simprocAttr,-Int.reduceNatCast'],by simp only [sT.1,sC.1,qd,qc,Nat.testBit,simprocAttr,-Int.reduceNatCast'],by simp only [sT.1,sC.1,qd,qc,Nat.testBit,simprocAttr,-Int.reduceNatCast',Int.natCast_zero],by omega,rfl⟩)
 ·simp only [sT.1,sC.1,qd,qc,Nat.testBit,simprocAttr,-Int.reduceNatCast',ht,e0,e1,d1,d2,n1,n2,hci] at hw
  rw [hf]
  exact hw.symm
 ·simp only [sT.1,sC.1,qd,qc,Nat.testBit,simprocAttr,-Int.reduceNatCast',ht,e6] at hw
  exact hw.symm
theorem qHt (base:Nat) (a b c d:Int) (h:List qg):hop base (.lit 1 [.int .i64 0] 4 [0,1,2,3]) [.int .i64 a,.int .i64 b,.int .i64 c,.int .i64 d] h = some (.sl h.length 0 4 4 0,h ++ [.cells [.int .i64 a,.int .i64 b,.int .i64 c,.int .i64 d]],false):=by kernel_rfl
theorem qHs (base:Nat) (a b:Int) (h:List qg):hop base (.lit 1 [.int .i64 0] 2 [0,1]) [.int .i64 a,.int .i64 b] h = some (.sl h.length 0 2 2 0,h ++ [.cells [.int .i64 a,.int .i64 b]],false):=by kernel_rfl
theorem qxt (x:Int):orI x 0 = x:=by
 unfold orI
 split <;> omega
theorem or4 (a b c d:Int) (h:List qg) (R:Nat) (hr:h[R]? = some (.cells [.int .i64 a,.int .i64 b,.int .i64 c,.int .i64 d])):Wd (.fn 23 [] []) [.sl R 0 4 4 0] h = some (.ret (.int .i64 (orI a (orI b (orI c d)))),h,false):=by
 have:=qxu [a,b,c,d] (by simp) h R hr
 simpa [qbF,qxt] using this
theorem or2 (a b:Int) (h:List qg) (R:Nat) (hr:h[R]? = some (.cells [.int .i64 a,.int .i64 b])):Wd (.fn 23 [] []) [.sl R 0 2 2 0] h = some (.ret (.int .i64 (orI a b)),h,false):=by
 have:=qxu [a,b] (by simp) h R hr
 simpa [qbF,qxt] using this
set_option maxHeartbeats 2000000 in
theorem qgx {H:Nat→Option qg} {k n:Int} {s:Str} {l:List Val} (hl:l.length ≤ 4) (ho:∀x ∈ l,Ord H x):Ord H (.mk k n s l):=by
 rintro ⟨k',n',s',l'⟩ cs ds g ⟨d,hok⟩ hv hv' hg
 obtain ⟨hl',hit⟩:=hok.items
 obtain ⟨L,rfl,hL⟩:=hv.lp
 obtain ⟨L',rfl,hL'⟩:=hv'.lp
 obtain ⟨d1,s1,w1,n1⟩:=hL.facts
 obtain ⟨d2,s2,w2,n2⟩:=hL'.facts
 have hol:=qog (by omega) hL hL' ho (by omega) hit (g ++ [.cells [.int .i64 k,.int .i64 n,.str s,L],.cells [.int .i64 k',.int .i64 n',.str s',L']]) hg.app
 have h1:=fun (g:List qg) a b=>qlM (g:=g) a b
 have h2:=fun (g:List qg) a b=>quw (g:=g) a b
 have h4:=or4 (qcq k k') (qcq n n') (qci s s') (qbc l l') (g ++ [.cells [.int .i64 k,.int .i64 n,.str s,L],.cells [.int .i64 k',.int .i64 n',.str s',L'],.cells [.int .i64 (qcq k k'),.int .i64 (qcq n n'),.int .i64 (qci s s'),.int .i64 (qbc l l')]]) (g.length + 2) (by rw [qbh];rfl)
 generalize hw:Wd _ _ g = w
 rw [qab rfl (show T.get 57 = some c57 by kernel_rfl)] at hw
 simp only [c57,sT.1,sC.1,sTA.1,sCA.1,qd,qaZ,qa0,Src.isTmp,qad,Src.hangs,ql.isT,qaW,qc,Nat.testBit,bne,simprocAttr,-Int.reduceNatCast',qe4,qaP,qaV,qbu,qaQ,qA,qo,d1,d2,s1,s2,w1,w2,h1,h2,hol,qHt,h4] at hw
 subst hw
 rw [qdc]
theorem qrg:∀d,∀{H:Nat→Option qg} {v:Val},OK d v→Ord H v:=by
 intro d
 induction d with
 | zero=>
  rintro H ⟨k,n,s,l⟩ h0
  have hl:l = []:=by rcases h0 with ⟨_,_,h⟩ | ⟨_,_,h,_⟩ | ⟨_,_,_,h⟩ <;> exact h
  subst hl
  exact qgx (by simp) fun x hx=>by cases hx
 | succ d ih=>
  rintro H ⟨k,n,s,l⟩ h0
  rcases h0 with h0 | ⟨_,_,_,_,h4,hall⟩
  ·have hl:l = []:=by rcases h0 with ⟨_,_,h⟩ | ⟨_,_,h,_⟩ | ⟨_,_,_,h⟩ <;> exact h
   subst hl
   exact qgx (by simp) fun x hx=>by cases hx
  ·exact qgx h4 fun x hx=>ih (hall x hx)
theorem quV {H:Nat→Option qg} {v w:Val} {cs ds:List qa} (h0:OK 3 v) (h1:OK 3 w) (hv:VR H v cs) (hw:VR H w ds) (g:List qg) (hg:Cov H g):Wd (.fn 25 [] []) [.agg cs,.agg ds] g = some (.ret (.int .i64 (qdc v w)),g,false):=by
 have r1:=qiZ h0 hv (g ++ [.cells cs,.cells ds]) hg.app
 have r2:=qiZ h1 hw (g ++ [.cells cs,.cells ds]) hg.app
 have r3:=qrg 3 h0 w cs ds (g ++ [.cells cs,.cells ds]) ⟨3,h1⟩ hv hw hg.app
 obtain ⟨k,n,s,l,L,rfl,rfl,hLd,hLs,hLw,_⟩:=hv.cells
 obtain ⟨k',n',s',l',L',rfl,rfl,hLd',hLs',hLw',_⟩:=hw.cells
 rw [qab rfl (show T.get 25 = some c25 by kernel_rfl)]
 simp only [c25,sT.1,sC.1,qd,qc,Nat.testBit,simprocAttr,-Int.reduceNatCast',hLd,hLs,hLw,hLd',hLs',hLw',r1,r2,r3]
def MR (H:Nat→Option qg) (m:Msg) (cs:List qa):Prop:=∃es,cs = .str m.p :: es∧VR H m.v es∧OK 3 m.v
theorem qgo {H:Nat→Option qg} {a b:Msg} {cs ds:List qa} (ha:MR H a cs) (hb:MR H b ds) (g:List qg) (hg:Cov H g):Wd (.fn 22 [] []) [.agg cs,.agg ds] g = some (.ret (.int .i64 (qbP a b)),g,false):=by
 obtain ⟨p,v⟩:=a
 obtain ⟨q,w⟩:=b
 obtain ⟨es,rfl,hv,h0⟩:=ha
 obtain ⟨es',rfl,hw,h1⟩:=hb
 simp only at hv h0 hw h1
 have r1:=fun (g:List qg)=>qsQ (g:=g) p q
 have r2:=quV h0 h1 hv hw (g ++ [.cells (.str p :: es),.cells (.str q :: es')]) hg.app
 have h2:=or2 (qci p q) (qdc v w) (g ++ [.cells (.str p :: es),.cells (.str q :: es'),.cells [.int .i64 (qci p q),.int .i64 (qdc v w)]]) (g.length + 2) (by rw [qbh];rfl)
 obtain ⟨k,n,s,l,L,rfl,rfl,hLd,hLs,hLw,_⟩:=hv.cells
 obtain ⟨k',n',s',l',L',rfl,rfl,hLd',hLs',hLw',_⟩:=hw.cells
 rw [qab rfl (show T.get 22 = some c22 by kernel_rfl)]
 simp only [c22,sT.1,sC.1,sTA.1,sCA.1,qd,qaZ,qa0,Src.isTmp,qad,Src.hangs,ql.isT,qaW,qc,Nat.testBit,bne,simprocAttr,-Int.reduceNatCast',qe4,qaP,qaV,qbu,qaQ,qA,qo,hLd,hLs,hLw,hLd',hLs',hLw',r1,r2,qHs,h2]
 rfl
end Go.Proofs.YtnlhdflceelacaaGreatDoor.AE
