/- A part of the proof. No condition. -/
import Derived.Test.YtkehdpkcdnofaaaGreatDoorMr13
set_option maxRecDepth 100000
set_option maxHeartbeats 0
set_option maxHeartbeats 800000
open List renaming getElem?_eq_getElem→jh,getElem?_map→jr
open Int renaming natCast_zero→jR
open Bool renaming and_eq_true→jk,eq_false_iff→j3
namespace Go.Proofs.YtkehdpkcdnofaaaGreatDoor.AE
open Go.AE
def qeO:List Str:=[[99,111,117,110,116],[104,97,115],[115,117,109],[108,101,97,115,116]]
def ql2:List Int:=[7,8,9,10]
theorem qkT:qcV 1 [.str []] 4 [(0,(.str [99,111,117,110,116])),(1,(.str [104,97,115])),(2,(.str [115,117,109])),(3,(.str [108,101,97,115,116]))] = some (.lst (qeO.map qd.str) .full):=zk
theorem qkU:qcV 1 [.int .i64 0] 4 [(0,(.int .i64 7)),(1,(.int .i64 8)),(2,(.int .i64 9)),(3,(.int .i64 10))] = some (.lst (ql2.map (qd.int .i64)) .full):=zk
theorem qjT:qeO.length = 4:=rfl
theorem quV:ql2.length = 4:=rfl
theorem qdz:∀x ∈ qeO,qC x = true:=by
 have:(qeO.all λx=>qC x) = true:=zk
 exact List.all_eq_true.1 this
theorem qbn (s:Str):qcV 1 [.str []] 1 [(0,.str s)] = some (.lst [.str s] .full):=by
 simp [qcV,qr,qd.cells,splice,qd.storable]
section
variable {ws:List Tok} {n:Nat}
theorem qcg (hs:qM ws n = true):(word ws n).kind = 0:=by
 simp only [qM,jk,beq_iff_eq] at hs
 exact hs.1
theorem qaj (hs:qM ws n = true) {s:Str} (hr:qbO s = true):isW ws n s = false:=by
 rw [j3]
 intro h
 simp only [isW,jk,beq_iff_eq] at h
 simp only [qM,qfZ,jk,h.2,hr,Bool.not_true] at hs
 exact Bool.noConfusion hs.2.2
theorem qo9 (hk:KOK ws) (hn:n < ws.length) (h0:(word ws n).kind = 0) {s:Str} (hm:marks.contains s = true):isW ws n s = false:=by
 rw [j3]
 intro h
 simp only [isW,jk,beq_iff_eq] at h
 obtain ⟨c,r,h1,h2⟩:=(hk _ (qhX hn)).1 h0
 have:=qju s (by simpa using hm)
 rw [<-h.2,h1,qgP,h2] at this
 cases this
theorem qfC (hk:KOK ws) (hn:n < ws.length) (hs:qM ws n = true) {s:Str} (hm:marks.contains s = true):isW ws n s = false:=qo9 hk hn (qcg hs) hm
theorem qjm {s:Str} (h:isW ws n s = true):((word ws n).kind == 1) = false:=by
 simp only [isW,jk,Bool.or_eq_true,beq_iff_eq] at h
 rcases h.1 with h | h <;> rw [h] <;> rfl
theorem qjn {s:Str} (h:isW ws n s = true):((word ws n).kind == 2) = false:=by
 simp only [isW,jk,Bool.or_eq_true,beq_iff_eq] at h
 rcases h.1 with h | h <;> rw [h] <;> rfl
theorem qzI {op k:Int} {name sub:Str} (hop:φR op 0 = true) (at_ i:Int) (h:List qk):Wd (.fn 88 [] []) [.int .i64 at_,.agg [.int .i64 op,.int .i64 k,.str name,.str sub,.lst [] .full],.int .i64 i] h = some (.ret (.tup [(Exp.mk op k name sub []).enc φR,.int .i64 i,qby 0 0]),h,false):=by
 rw [show qd.agg [.int .i64 op,.int .i64 k,.str name,.str sub,.lst [] .full] = (Exp.mk op k name sub []).enc φR from by rw [Exp.enc_mk,show ([]:List Exp).length = 0 from rfl,hop];rfl]
 rw [qn1 (by simp [Exp.depth,qaD]) (qcj (by simp) (by simp)),if_pos (by simp [Exp.depth,qaD])]
theorem qcd (op k:Int) (name sub:Str):(Exp.mk op k name sub []).depth <= 20:=by simp [Exp.depth,qaD]
theorem qce (op k:Int) (name sub:Str):(Exp.mk op k name sub []).small:=qcj (by simp) (by simp)
theorem qdr {op k:Int} {name sub:Str} (hop:φR op 0 = true):(Exp.mk op k name sub []).enc φR = .agg [.int .i64 op,.int .i64 k,.str name,.str sub,.lst [] .full]:=by
 rw [Exp.enc_mk,show ([]:List Exp).length = 0 from rfl,hop];rfl
theorem qtO (hw:WF ws) (hk:KOK ws) (hn:n < ws.length) (k1:(word ws n).kind = 1):qeJ ws n (.ok (.mk 0 (word ws n).n [] [] []) (n + 1)):=by
 have I:=qae hn
 have w:=qo (n:=n) (by have:=hw.len;omega)
 have E:((word ws n).kind == 1) = true:=by simpa using k1
 refine ⟨qce _ _ _ _,qcd _ _ _ _,hw.next hn zo,λh=>?_⟩
 rw [qu 127 qgk,qdr (by rfl)]
 simp only [sB.1,qgk,reduceCtorEq,Nat.reduceAdd,Nat.reduceSub,Nat.reduceLT,Nat.reduceEqDiff,Nat.reduceLeDiff,exB.1,qr,I,E,w]
theorem qtQ (hw:WF ws) (hk:KOK ws) (hn:n < ws.length) (k2:(word ws n).kind = 2):qeJ ws n (.ok (.mk 3 0 (word ws n).s [] []) (n + 1)):=by
 have U:=qae hn
 have w:=qo (n:=n) (by have:=hw.len;omega)
 have I:((word ws n).kind == 1) = false:=by rw [k2];rfl
 have E:((word ws n).kind == 2) = true:=by simpa using k2
 refine ⟨qce _ _ _ _,qcd _ _ _ _,hw.next hn zo,λh=>?_⟩
 rw [qu 127 qgk,qdr (by rfl)]
 simp only [sB.1,qgk,reduceCtorEq,Nat.reduceAdd,Nat.reduceSub,Nat.reduceLT,Nat.reduceEqDiff,Nat.reduceLeDiff,exB.1,qr,U,I,E,w]
theorem qpU (hw:WF ws) (hk:KOK ws) (hn:n < ws.length) (hs:isW ws n [116,114,117,101] = true):qeJ ws n (.ok (.mk 1 0 [] [] []) (n + 1)):=by
 have U:=qae hn
 have w:=qo (n:=n) (by have:=hw.len;omega)
 have I:=qjm hs
 have E:=qjn hs
 refine ⟨qce _ _ _ _,qcd _ _ _ _,qi hw hn hs,λh=>?_⟩
 rw [qu 127 qgk,qdr (by rfl)]
 simp only [sB.1,qgk,reduceCtorEq,Nat.reduceAdd,Nat.reduceSub,Nat.reduceLT,Nat.reduceEqDiff,Nat.reduceLeDiff,exB.1,qr,qcE.1,U,qaO hn hk,I,E,hs,w]
theorem qm7 (hw:WF ws) (hk:KOK ws) (hn:n < ws.length) (hs:isW ws n [102,97,108,115,101] = true):qeJ ws n (.ok (.mk 2 0 [] [] []) (n + 1)):=by
 have U:=qae hn
 have w:=qo (n:=n) (by have:=hw.len;omega)
 have I:=qjm hs
 have E:=qjn hs
 have q0:isW ws n [116,114,117,101] = false:=qm hs (by decide)
 refine ⟨qce _ _ _ _,qcd _ _ _ _,qi hw hn hs,λh=>?_⟩
 rw [qu 127 qgk,qdr (by rfl)]
 simp only [sB.1,qgk,reduceCtorEq,Nat.reduceAdd,Nat.reduceSub,Nat.reduceLT,Nat.reduceEqDiff,Nat.reduceLeDiff,exB.1,qr,qcE.1,U,qaO hn hk,I,E,hs,q0,w]
theorem qkw (hw:WF ws) (hk:KOK ws) (hn:n < ws.length) (hs:isW ws n [101,108,97,112,115,101,100] = true):qeJ ws n (.ok (.mk 11 0 [] [] []) (n + 1)):=by
 have U:=qae hn
 have w:=qo (n:=n) (by have:=hw.len;omega)
 have I:=qjm hs
 have E:=qjn hs
 have q0:isW ws n [116,114,117,101] = false:=qm hs (by decide)
 have q1:isW ws n [102,97,108,115,101] = false:=qm hs (by decide)
 refine ⟨qce _ _ _ _,qcd _ _ _ _,qi hw hn hs,λh=>?_⟩
 rw [qu 127 qgk,qdr (by rfl)]
 simp only [sB.1,qgk,reduceCtorEq,Nat.reduceAdd,Nat.reduceSub,Nat.reduceLT,Nat.reduceEqDiff,Nat.reduceLeDiff,exB.1,qr,qcE.1,U,qaO hn hk,I,E,hs,q0,q1,w]
structure qiR (ws:List Tok) (n:Nat) (h:List qk) (tt:List qd) (i:Nat):Prop where
 len:tt.length = 233
 e0:lkp tt 0 = .lst (ws.map Tok.enc) .no
 e1:lkp tt 1 = .int .i64 (n:Nat)
 e4:lkp tt 4 = .ptr h.length 0
 e6:lkp tt 6 = .ptr (h.length + 1) 0
 e7:lkp tt 7 = .ptr (h.length + 2) 0
 e8:lkp tt 8 = .int .i64 (word ws n).pos
 e9:lkp tt 9 = .lst (qeO.map qd.str) .full
 e10:lkp tt 10 = .lst (ql2.map (qd.int .i64)) .full
 e11:lkp tt 11 = .int .i64 (i:Nat)
theorem qeK {i:Nat} (hi:i < 4):qeQ 1 (.lst (qeO.map qd.str) .full) (.int .i64 (i:Nat)) = some (.iptr [.str (qeO[i]'hi)] 0):=qbG (x:=.str (qeO[i]'hi)) (by rw [jr,jh hi];rfl) rfl
theorem qeW {i:Nat} (hi:i < 4):qeQ 1 (.lst (ql2.map (qd.int .i64)) .full) (.int .i64 (i:Nat)) = some (.iptr [.int .i64 (ql2[i]'hi)] 0):=qbG (x:=.int .i64 (ql2[i]'hi)) (by rw [jr,jh hi];rfl) rfl
theorem quW (hk:KOK ws) (hn:n < ws.length) {h H:List qk} {tt:List qd} {i:Nat} (hA:qiR ws n h tt i) (hi:i < 4) (hs:isW ws n (qeO[i]'hi) = false):∃E,qg h.length Wd (.loop qaN) ⟨tt,H,false⟩ = qg h.length Wd (.loop qaN) ⟨E,H,false⟩/\qiR ws n h E (i + 1):=by
 obtain ⟨ht,e0,e1,e4,e6,e7,e8,e9,e10,e11⟩:=hA
 have c1:ilt (i:Int) 4 = true:=by rw [qD];simp;omega
 have hx:=qeK hi
 have has:=qdz _ (List.getElem_mem hi)
 have w:=qo (n:=i) zo
 rw [qh]
 generalize he:qg h.length Wd qaN _ = R
 simp only [sB.1,qaN,reduceCtorEq,Nat.reduceLT,Nat.reduceEqDiff,ht,e0,e1,e9,e11,c1,hx,qaO hn hk has,hs,w] at he
 subst he
 refine ⟨_,qaC _ _,?_,?_,?_,?_,?_,?_,?_,?_,?_,?_⟩
 all_goals simp only [sB.1,reduceCtorEq,Nat.reduceLT,Nat.reduceEqDiff,ht,e0,e1,e4,e6,e7,e8,e9,e10]
theorem qxx (hk:KOK ws) (hn:n < ws.length) {h H:List qk} {k:Nat} (Y:k <= 4) (hs:∀i (hi:i < 4),i < k->isW ws n (qeO[i]'hi) = false):∀(j i:Nat) (tt:List qd),i + j = k->qiR ws n h tt i->∃E,qg h.length Wd (.loop qaN) ⟨tt,H,false⟩ = qg h.length Wd (.loop qaN) ⟨E,H,false⟩/\qiR ws n h E k:=by
 intro j
 induction j with
 | zero=>intro i tt hi hA;obtain rfl:i = k:=zo
         exact ⟨tt,rfl,hA⟩
 | succ j ih=>
  intro i tt hi hA
  obtain ⟨t1,h1,U⟩:=quW (H:=H) hk hn hA zo (hs i zo zo)
  obtain ⟨t2,h2,I⟩:=ih (i + 1) t1 zo U
  exact ⟨t2,h1.trans h2,I⟩
theorem qyb {h H:List qk} {tt:List qd} (hA:qiR ws n h tt 4):∃E,qg h.length Wd (.loop qaN) ⟨tt,H,false⟩ = some (.exit 0,⟨E,H,false⟩)/\qiR ws n h E 4:=by
 obtain ⟨ht,e0,e1,e4,e6,e7,e8,e9,e10,e11⟩:=hA
 have t4:((4:Nat):Int) = 4:=Eq.trans rfl rfl
 rw [t4] at e11
 have c1:ilt 4 4 = false:=zk
 rw [qh]
 generalize he:qg h.length Wd qaN _ = R
 simp only [sB.1,qaN,Nat.reduceLT,ht,e11,c1] at he
 subst he
 refine ⟨_,qbi _ _ _,?_,?_,?_,?_,?_,?_,?_,?_,?_,?_⟩
 all_goals simp only [sB.1,reduceCtorEq,Nat.reduceEqDiff,ht,e0,e1,e4,e6,e7,e8,e9,e10,e11,t4]
def H3 (h:List qk):List qk:=h ++ [qkJ,qkI,qkJ]
theorem H3i (h:List qk):H3 h = h ++ [.cells [.int .i64 0,.int .i64 0,.str [],.str [],.lst [] .full],.cells [.int .i64 0,.int .i64 0],.cells [.int .i64 0,.int .i64 0,.str [],.str [],.lst [] .full]]:=Eq.trans rfl rfl
theorem qwi (hk:KOK ws) (hn:n < ws.length) (k1:((word ws n).kind == 1) = false) (k2:((word ws n).kind == 2) = false) (q0:isW ws n [116,114,117,101] = false) (q1:isW ws n [102,97,108,115,101] = false) (q2:isW ws n [101,108,97,112,115,101,100] = false) (h:List qk) :
  ∃(K:St->Option (Ex×St)) (tt:List qd),qiR ws n h tt 0/\Wd (.fn 127 [] []) [.lst (ws.map Tok.enc) .no,.int .i64 (n:Nat)] h = qbS [.cell 4 (some 5),.tmp 5,.cell 6 (some 2)] h (qbr K (qbj 0 (qg h.length Wd (.loop qaN) ⟨tt,H3 h,false⟩))):=by
 have E:=qae hn
 generalize hR:Wd (.fn 127 [] []) _ h = R
 rw [qu 127 qgk] at hR
 simp only [sB.1,qgk,reduceCtorEq,Nat.reduceAdd,Nat.reduceSub,Nat.reduceLT,Nat.reduceEqDiff,Nat.reduceLeDiff,exB.1,qr,qcE.1,E,qaO hn hk,k1,k2,q0,q1,q2,qkT,qkU] at hR
 refine ⟨_,_,?_,hR.symm⟩
 refine ⟨?_,?_,?_,?_,?_,?_,?_,?_,?_,?_⟩
 all_goals simp only [sB.1,reduceCtorEq,Nat.reduceAdd,Nat.reduceLT,Nat.reduceEqDiff,jR]
theorem qfc (hk:KOK ws) (hn:n < ws.length) {i:Nat} (hi:i < 4) (hs:isW ws n (qeO[i]'hi) = true) (h:List qk) :
  ∃(K:St->Option (Ex×St)) (tt:List qd),qiR ws n h tt i/\Wd (.fn 127 [] []) [.lst (ws.map Tok.enc) .no,.int .i64 (n:Nat)] h = qbS [.cell 4 (some 5),.tmp 5,.cell 6 (some 2)] h (qbr K (qbj 0 (qbr (qg h.length Wd (.loop qaN)) (qg h.length Wd qaN ⟨tt,H3 h,false⟩)))):=by
 have E:∀s,(qeO[i]'hi) ≠ s->isW ws n s = false:=λs h=>qm hs h
 have d0:∀x ∈ qeO,x ≠ [116,114,117,101]/\x ≠ [102,97,108,115,101]/\x ≠ [101,108,97,112,115,101,100]:=by decide
 have dd:∀a (ha:a < 4) b (hb:b < 4),a < b->(qeO[b]'hb) ≠ (qeO[a]'ha):=by decide
 obtain ⟨x0,x1,x2⟩:=d0 _ (List.getElem_mem hi)
 obtain ⟨K,tt,hA,hW⟩:=qwi hk hn (qjm hs) (qjn hs) (E _ x0) (E _ x1) (E _ x2) h
 obtain ⟨I,h1,Y⟩:=qxx (H:=H3 h) hk hn zo (λj hj U=>E _ (dd j hj i hi U)) i 0 tt zo hA
 refine ⟨K,I,Y,?_⟩
 rw [hW,h1,qh]
theorem qm8 (hw:WF ws) (hk:KOK ws) (hn:n < ws.length) {i:Nat} (hi:i < 3) (hs:isW ws n (qeO[i]'(by rw [qjT];omega)) = true) (g1:isW ws (n + 1) [40] = false):qeJ ws n (.no (word ws (n + 1)).pos 6 (n + 1)):=by
 have c1:ilt (i:Int) 4 = true:=by rw [qD];simp;omega
 have c3:((i:Int) == 3) = false:=by simp;omega
 have E:=qeK (show i < 4 by omega)
 have I:=qeW (show i < 4 by omega)
 have has:qC (qeO[i]'(show i < 4 by omega)) = true:=qdz _ (List.getElem_mem (show i < 4 by omega))
 have hs:isW ws n (qeO[i]'(show i < 4 by omega)) = true:=hs
 have w:=qo (n:=n) (by have:=hw.len;omega)
 have n1:=qi hw hn hs
 refine ⟨rfl,noE,(n + 1:Nat),λh=>?_⟩
 obtain ⟨K,tt,⟨ht,e0,e1,e4,e6,e7,e8,e9,e10,e11⟩,hW⟩:=qfc hk hn (show i < 4 by omega) hs h
 rw [hW,H3i]
 generalize he:qg h.length Wd qaN _ = R
 simp only [sB.1,qaN,reduceCtorEq,Nat.reduceAdd,Nat.reduceLT,Nat.reduceEqDiff,Nat.reduceShiftRight,Nat.reduceAnd,Nat.reduceBneDiff,exB.1,qcE.1,ht,e0,e1,e4,e6,e7,e9,e11,c1,E,qaO hn hk has,hs,w,qbn,qdN hw hk n1,g1,z6] at he
 subst he
 simp only [sB.1,Nat.reduceAdd,Nat.reduceLT,Nat.reduceEqDiff,exB.1,ht,e4,e6]
theorem qm9 (hw:WF ws) (hk:KOK ws) (hn:n < ws.length) {i:Nat} (hi:i < 3) (hs:isW ws n (qeO[i]'(by rw [qjT];omega)) = true) (g1:isW ws (n + 1) [40] = true) (g2:qM ws (n + 1 + 1) = false):qeJ ws n (.no (word ws (n + 1 + 1)).pos 6 (n + 1 + 1)):=by
 have c1:ilt (i:Int) 4 = true:=by rw [qD];simp;omega
 have c3:((i:Int) == 3) = false:=by simp;omega
 have E:=qeK (show i < 4 by omega)
 have I:=qeW (show i < 4 by omega)
 have has:qC (qeO[i]'(show i < 4 by omega)) = true:=qdz _ (List.getElem_mem (show i < 4 by omega))
 have hs:isW ws n (qeO[i]'(show i < 4 by omega)) = true:=hs
 have w:=qo (n:=n) (by have:=hw.len;omega)
 have n1:=qi hw hn hs
 have n2:=qi hw n1 g1
 refine ⟨rfl,noE,(n + 1 + 1:Nat),λh=>?_⟩
 obtain ⟨K,tt,⟨ht,e0,e1,e4,e6,e7,e8,e9,e10,e11⟩,hW⟩:=qfc hk hn (show i < 4 by omega) hs h
 rw [hW,H3i]
 generalize he:qg h.length Wd qaN _ = R
 simp only [sB.1,qaN,reduceCtorEq,Nat.reduceAdd,Nat.reduceLT,Nat.reduceEqDiff,Nat.reduceShiftRight,Nat.reduceAnd,Nat.reduceBneDiff,exB.1,qcE.1,ht,e0,e1,e4,e6,e7,e9,e11,c1,E,qaO hn hk has,hs,w,qbn,qaB hw hk n1,g1,qfe n2,g2,z6] at he
 subst he
 simp only [sB.1,Nat.reduceAdd,Nat.reduceLT,Nat.reduceEqDiff,exB.1,ht,e4,e6]
theorem qna (hw:WF ws) (hk:KOK ws) (hn:n < ws.length) {i:Nat} (hi:i < 3) (hs:isW ws n (qeO[i]'(by rw [qjT];omega)) = true) (g1:isW ws (n + 1) [40] = true) (g2:qM ws (n + 1 + 1) = true) (g3:isW ws (n + 1 + 1 + 1) [41] = false):qeJ ws n (.no (word ws (n + 1 + 1 + 1)).pos 6 (n + 1 + 1 + 1)):=by
 have c1:ilt (i:Int) 4 = true:=by rw [qD];simp;omega
 have c3:((i:Int) == 3) = false:=by simp;omega
 have I:=qeK (show i < 4 by omega)
 have E:=qeW (show i < 4 by omega)
 have has:qC (qeO[i]'(show i < 4 by omega)) = true:=qdz _ (List.getElem_mem (show i < 4 by omega))
 have hs:isW ws n (qeO[i]'(show i < 4 by omega)) = true:=hs
 have w:=qo (n:=n) (by have:=hw.len;omega)
 have n1:=qi hw hn hs
 have n2:=qi hw n1 g1
 have n3:=qF hw n2 g2
 refine ⟨rfl,noE,(n + 1 + 1 + 1:Nat),λh=>?_⟩
 obtain ⟨K,tt,⟨ht,e0,e1,e4,e6,e7,e8,e9,e10,e11⟩,hW⟩:=qfc hk hn (show i < 4 by omega) hs h
 rw [hW,H3i]
 generalize he:qg h.length Wd qaN _ = R
 simp only [sB.1,qaN,reduceCtorEq,Nat.reduceAdd,Nat.reduceLT,Nat.reduceEqDiff,Nat.reduceLeDiff,Nat.reduceShiftRight,Nat.reduceAnd,Nat.reduceBneDiff,exB.1,qr,qcE.1,ht,e0,e1,e4,e6,e7,e9,e10,e11,c1,I,E,qaO hn hk has,hs,w,qbn,qaB hw hk n1,g1,qbh n2 hw,g2,qdN hw hk n3,g3,c3,z6] at he
 subst he
 simp only [sB.1,Nat.reduceAdd,Nat.reduceLT,Nat.reduceEqDiff,exB.1,ht,e4,e6]
theorem qnb (hw:WF ws) (hk:KOK ws) (hn:n < ws.length) {i:Nat} (hi:i < 3) (hs:isW ws n (qeO[i]'(by rw [qjT];omega)) = true) (g1:isW ws (n + 1) [40] = true) (g2:qM ws (n + 1 + 1) = true) (g3:isW ws (n + 1 + 1 + 1) [41] = true):qeJ ws n (.ok (.mk (ql2[i]'(by rw [quV];omega)) 0 (word ws (n + 1 + 1)).s [] []) (n + 1 + 1 + 1 + 1)):=by
 have c1:ilt (i:Int) 4 = true:=by rw [qD];simp;omega
 have c3:((i:Int) == 3) = false:=by simp;omega
 have I:=qeK (show i < 4 by omega)
 have E:=qeW (show i < 4 by omega)
 have has:qC (qeO[i]'(show i < 4 by omega)) = true:=qdz _ (List.getElem_mem (show i < 4 by omega))
 have hs:isW ws n (qeO[i]'(show i < 4 by omega)) = true:=hs
 have w:=qo (n:=n) (by have:=hw.len;omega)
 have n1:=qi hw hn hs
 have n2:=qi hw n1 g1
 have n3:=qF hw n2 g2
 have hop:φR (ql2[i]'(show i < 4 by omega)) 0 = true:=by
  have:(ql2.all λx=>φR x 0) = true:=zk
  exact List.all_eq_true.1 this _ (List.getElem_mem (show i < 4 by omega))
 refine ⟨qce _ _ _ _,qcd _ _ _ _,qi hw n3 g3,λh=>?_⟩
 obtain ⟨K,tt,⟨ht,e0,e1,e4,e6,e7,e8,e9,e10,e11⟩,hW⟩:=qfc hk hn (show i < 4 by omega) hs h
 rw [hW,H3i]
 generalize he:qg h.length Wd qaN _ = R
 simp only [sB.1,qaN,reduceCtorEq,Nat.reduceAdd,Nat.reduceLT,Nat.reduceEqDiff,Nat.reduceLeDiff,Nat.reduceShiftRight,Nat.reduceAnd,Nat.reduceBneDiff,exB.1,qr,qcE.1,ht,e0,e1,e4,e6,e7,e8,e9,e10,e11,c1,I,E,qaO hn hk has,hs,w,qbn,qaB hw hk n1,g1,qbh n2 hw,g2,qaB hw hk n3,g3,c3,qzI hop] at he
 subst he
 simp only [sB.1,Nat.reduceAdd,Nat.reduceLT,Nat.reduceEqDiff,exB.1,ht,e4,e6]
 rfl
theorem qwz (hw:WF ws) (hk:KOK ws) (hn:n < ws.length) (hs:isW ws n [99,111,117,110,116] = true) (g1:isW ws (n + 1) [40] = false):qeJ ws n (.no (word ws (n + 1)).pos 6 (n + 1)):=qm8 (i:=0) hw hk hn zo hs g1
theorem qwA (hw:WF ws) (hk:KOK ws) (hn:n < ws.length) (hs:isW ws n [99,111,117,110,116] = true) (g1:isW ws (n + 1) [40] = true) (g2:qM ws (n + 1 + 1) = false):qeJ ws n (.no (word ws (n + 1 + 1)).pos 6 (n + 1 + 1)):=qm9 (i:=0) hw hk hn zo hs g1 g2
theorem qwB (hw:WF ws) (hk:KOK ws) (hn:n < ws.length) (hs:isW ws n [99,111,117,110,116] = true) (g1:isW ws (n + 1) [40] = true) (g2:qM ws (n + 1 + 1) = true) (g3:isW ws (n + 1 + 1 + 1) [41] = false):qeJ ws n (.no (word ws (n + 1 + 1 + 1)).pos 6 (n + 1 + 1 + 1)):=qna (i:=0) hw hk hn zo hs g1 g2 g3
theorem qzH (hw:WF ws) (hk:KOK ws) (hn:n < ws.length) (hs:isW ws n [99,111,117,110,116] = true) (g1:isW ws (n + 1) [40] = true) (g2:qM ws (n + 1 + 1) = true) (g3:isW ws (n + 1 + 1 + 1) [41] = true):qeJ ws n (.ok (.mk 7 0 (word ws (n + 1 + 1)).s [] []) (n + 1 + 1 + 1 + 1)):=qnb (i:=0) hw hk hn zo hs g1 g2 g3
theorem qCA (hw:WF ws) (hk:KOK ws) (hn:n < ws.length) (hs:isW ws n [104,97,115] = true) (g1:isW ws (n + 1) [40] = false):qeJ ws n (.no (word ws (n + 1)).pos 6 (n + 1)):=qm8 (i:=1) hw hk hn zo hs g1
theorem qCB (hw:WF ws) (hk:KOK ws) (hn:n < ws.length) (hs:isW ws n [104,97,115] = true) (g1:isW ws (n + 1) [40] = true) (g2:qM ws (n + 1 + 1) = false):qeJ ws n (.no (word ws (n + 1 + 1)).pos 6 (n + 1 + 1)):=qm9 (i:=1) hw hk hn zo hs g1 g2
theorem qCC (hw:WF ws) (hk:KOK ws) (hn:n < ws.length) (hs:isW ws n [104,97,115] = true) (g1:isW ws (n + 1) [40] = true) (g2:qM ws (n + 1 + 1) = true) (g3:isW ws (n + 1 + 1 + 1) [41] = false):qeJ ws n (.no (word ws (n + 1 + 1 + 1)).pos 6 (n + 1 + 1 + 1)):=qna (i:=1) hw hk hn zo hs g1 g2 g3
theorem qE5 (hw:WF ws) (hk:KOK ws) (hn:n < ws.length) (hs:isW ws n [104,97,115] = true) (g1:isW ws (n + 1) [40] = true) (g2:qM ws (n + 1 + 1) = true) (g3:isW ws (n + 1 + 1 + 1) [41] = true):qeJ ws n (.ok (.mk 8 0 (word ws (n + 1 + 1)).s [] []) (n + 1 + 1 + 1 + 1)):=qnb (i:=1) hw hk hn zo hs g1 g2 g3
theorem qCD (hw:WF ws) (hk:KOK ws) (hn:n < ws.length) (hs:isW ws n [115,117,109] = true) (g1:isW ws (n + 1) [40] = false):qeJ ws n (.no (word ws (n + 1)).pos 6 (n + 1)):=qm8 (i:=2) hw hk hn zo hs g1
theorem qCE (hw:WF ws) (hk:KOK ws) (hn:n < ws.length) (hs:isW ws n [115,117,109] = true) (g1:isW ws (n + 1) [40] = true) (g2:qM ws (n + 1 + 1) = false):qeJ ws n (.no (word ws (n + 1 + 1)).pos 6 (n + 1 + 1)):=qm9 (i:=2) hw hk hn zo hs g1 g2
theorem qCF (hw:WF ws) (hk:KOK ws) (hn:n < ws.length) (hs:isW ws n [115,117,109] = true) (g1:isW ws (n + 1) [40] = true) (g2:qM ws (n + 1 + 1) = true) (g3:isW ws (n + 1 + 1 + 1) [41] = false):qeJ ws n (.no (word ws (n + 1 + 1 + 1)).pos 6 (n + 1 + 1 + 1)):=qna (i:=2) hw hk hn zo hs g1 g2 g3
theorem qFe (hw:WF ws) (hk:KOK ws) (hn:n < ws.length) (hs:isW ws n [115,117,109] = true) (g1:isW ws (n + 1) [40] = true) (g2:qM ws (n + 1 + 1) = true) (g3:isW ws (n + 1 + 1 + 1) [41] = true):qeJ ws n (.ok (.mk 9 0 (word ws (n + 1 + 1)).s [] []) (n + 1 + 1 + 1 + 1)):=qnb (i:=2) hw hk hn zo hs g1 g2 g3
theorem qwC (hw:WF ws) (hk:KOK ws) (hn:n < ws.length) (hs:isW ws n [108,101,97,115,116] = true) (g1:isW ws (n + 1) [40] = false):qeJ ws n (.no (word ws (n + 1)).pos 6 (n + 1)):=by
 have c1:ilt ((3:Nat):Int) 4 = true:=zk
 have c3:(((3:Nat):Int) == 3) = true:=zk
 have E:qeQ 1 (.lst (qeO.map qd.str) .full) (.int .i64 ((3:Nat):Int)) = some (.iptr [.str [108,101,97,115,116]] 0):=qeK (i:=3) zo
 have I:qeQ 1 (.lst (ql2.map (qd.int .i64)) .full) (.int .i64 ((3:Nat):Int)) = some (.iptr [.int .i64 10] 0):=qeW (i:=3) zo
 have w:=qo (n:=n) (by have:=hw.len;omega)
 have n1:=qi hw hn hs
 refine ⟨rfl,noE,(n + 1:Nat),λh=>?_⟩
 obtain ⟨K,tt,⟨ht,e0,e1,e4,e6,e7,e8,e9,e10,e11⟩,hW⟩:=qfc (i:=3) hk hn zo hs h
 rw [hW,H3i]
 generalize he:qg h.length Wd qaN _ = R
 simp only [sB.1,qaN,reduceCtorEq,Nat.reduceAdd,Nat.reduceLT,Nat.reduceEqDiff,Nat.reduceShiftRight,Nat.reduceAnd,Nat.reduceBneDiff,exB.1,qcE.1,ht,e0,e1,e4,e6,e7,e9,e11,c1,E,qaO hn hk,hs,w,qbn,qdN hw hk n1,g1,z6] at he
 subst he
 simp only [sB.1,Nat.reduceAdd,Nat.reduceLT,Nat.reduceEqDiff,exB.1,ht,e4,e6]
theorem qwD (hw:WF ws) (hk:KOK ws) (hn:n < ws.length) (hs:isW ws n [108,101,97,115,116] = true) (g1:isW ws (n + 1) [40] = true) (g2:qM ws (n + 1 + 1) = false):qeJ ws n (.no (word ws (n + 1 + 1)).pos 6 (n + 1 + 1)):=by
 have c1:ilt ((3:Nat):Int) 4 = true:=zk
 have c3:(((3:Nat):Int) == 3) = true:=zk
 have E:qeQ 1 (.lst (qeO.map qd.str) .full) (.int .i64 ((3:Nat):Int)) = some (.iptr [.str [108,101,97,115,116]] 0):=qeK (i:=3) zo
 have I:qeQ 1 (.lst (ql2.map (qd.int .i64)) .full) (.int .i64 ((3:Nat):Int)) = some (.iptr [.int .i64 10] 0):=qeW (i:=3) zo
 have w:=qo (n:=n) (by have:=hw.len;omega)
 have n1:=qi hw hn hs
 have n2:=qi hw n1 g1
 refine ⟨rfl,noE,(n + 1 + 1:Nat),λh=>?_⟩
 obtain ⟨K,tt,⟨ht,e0,e1,e4,e6,e7,e8,e9,e10,e11⟩,hW⟩:=qfc (i:=3) hk hn zo hs h
 rw [hW,H3i]
 generalize he:qg h.length Wd qaN _ = R
 simp only [sB.1,qaN,reduceCtorEq,Nat.reduceAdd,Nat.reduceLT,Nat.reduceEqDiff,Nat.reduceShiftRight,Nat.reduceAnd,Nat.reduceBneDiff,exB.1,qcE.1,ht,e0,e1,e4,e6,e7,e9,e11,c1,E,qaO hn hk,hs,w,qbn,qaB hw hk n1,g1,qfe n2,g2,z6] at he
 subst he
 simp only [sB.1,Nat.reduceAdd,Nat.reduceLT,Nat.reduceEqDiff,exB.1,ht,e4,e6]
theorem qwE (hw:WF ws) (hk:KOK ws) (hn:n < ws.length) (hs:isW ws n [108,101,97,115,116] = true) (g1:isW ws (n + 1) [40] = true) (g2:qM ws (n + 1 + 1) = true) (g3:isW ws (n + 1 + 1 + 1) [44] = false):qeJ ws n (.no (word ws (n + 1 + 1 + 1)).pos 6 (n + 1 + 1 + 1)):=by
 have c1:ilt ((3:Nat):Int) 4 = true:=zk
 have c3:(((3:Nat):Int) == 3) = true:=zk
 have I:qeQ 1 (.lst (qeO.map qd.str) .full) (.int .i64 ((3:Nat):Int)) = some (.iptr [.str [108,101,97,115,116]] 0):=qeK (i:=3) zo
 have E:qeQ 1 (.lst (ql2.map (qd.int .i64)) .full) (.int .i64 ((3:Nat):Int)) = some (.iptr [.int .i64 10] 0):=qeW (i:=3) zo
 have w:=qo (n:=n) (by have:=hw.len;omega)
 have n1:=qi hw hn hs
 have n2:=qi hw n1 g1
 have n3:=qF hw n2 g2
 refine ⟨rfl,noE,(n + 1 + 1 + 1:Nat),λh=>?_⟩
 obtain ⟨K,tt,⟨ht,e0,e1,e4,e6,e7,e8,e9,e10,e11⟩,hW⟩:=qfc (i:=3) hk hn zo hs h
 rw [hW,H3i]
 generalize he:qg h.length Wd qaN _ = R
 simp only [sB.1,qaN,reduceCtorEq,Nat.reduceAdd,Nat.reduceLT,Nat.reduceEqDiff,Nat.reduceLeDiff,Nat.reduceShiftRight,Nat.reduceAnd,Nat.reduceBneDiff,exB.1,qr,qcE.1,ht,e0,e1,e4,e6,e7,e9,e10,e11,c1,I,E,qaO hn hk,hs,w,qbn,qaB hw hk n1,g1,qbh n2 hw,g2,c3,qdN hw hk n3,g3,z6] at he
 subst he
 simp only [sB.1,Nat.reduceAdd,Nat.reduceLT,Nat.reduceEqDiff,exB.1,ht,e4,e6]
theorem qwF (hw:WF ws) (hk:KOK ws) (hn:n < ws.length) (hs:isW ws n [108,101,97,115,116] = true) (g1:isW ws (n + 1) [40] = true) (g2:qM ws (n + 1 + 1) = true) (g3:isW ws (n + 1 + 1 + 1) [44] = true) {p err:Int} {m:Nat} (h4:qbp ws (n + 1 + 1 + 1 + 1) (.no p err m)):qeJ ws n (.no p err m):=by
 have c1:ilt ((3:Nat):Int) 4 = true:=zk
 have c3:(((3:Nat):Int) == 3) = true:=zk
 have I:qeQ 1 (.lst (qeO.map qd.str) .full) (.int .i64 ((3:Nat):Int)) = some (.iptr [.str [108,101,97,115,116]] 0):=qeK (i:=3) zo
 have E:qeQ 1 (.lst (ql2.map (qd.int .i64)) .full) (.int .i64 ((3:Nat):Int)) = some (.iptr [.int .i64 10] 0):=qeW (i:=3) zo
 have w:=qo (n:=n) (by have:=hw.len;omega)
 have n1:=qi hw hn hs
 have n2:=qi hw n1 g1
 have n3:=qF hw n2 g2
 have n4:=qi hw n3 g3
 obtain ⟨q1,x,m',q2⟩:=h4
 refine ⟨q1,noE,m',λh=>?_⟩
 obtain ⟨K,tt,⟨ht,e0,e1,e4,e6,e7,e8,e9,e10,e11⟩,hW⟩:=qfc (i:=3) hk hn zo hs h
 rw [hW,H3i]
 generalize he:qg h.length Wd qaN _ = R
 simp only [sB.1,qaN,reduceCtorEq,Nat.reduceAdd,Nat.reduceLT,Nat.reduceEqDiff,Nat.reduceLeDiff,Nat.reduceShiftRight,Nat.reduceAnd,Nat.reduceBneDiff,exB.1,qr,qcE.1,ht,e0,e1,e4,e6,e7,e9,e10,e11,c1,I,E,qaO hn hk,hs,w,qbn,qaB hw hk n1,g1,qbh n2 hw,g2,c3,qaB hw hk n3,g3,q1,q2] at he
 subst he
 simp only [sB.1,Nat.reduceAdd,Nat.reduceLT,Nat.reduceEqDiff,exB.1,ht,e4,e6]
theorem qwG (hw:WF ws) (hk:KOK ws) (hn:n < ws.length) (hs:isW ws n [108,101,97,115,116] = true) (g1:isW ws (n + 1) [40] = true) (g2:qM ws (n + 1 + 1) = true) (g3:isW ws (n + 1 + 1 + 1) [44] = true) {x:Exp} {m:Nat} (h4:qbp ws (n + 1 + 1 + 1 + 1) (.ok x m)) (g5:isW ws m [41] = false):qeJ ws n (.no (word ws m).pos 6 m):=by
 have c1:ilt ((3:Nat):Int) 4 = true:=zk
 have c3:(((3:Nat):Int) == 3) = true:=zk
 have I:qeQ 1 (.lst (qeO.map qd.str) .full) (.int .i64 ((3:Nat):Int)) = some (.iptr [.str [108,101,97,115,116]] 0):=qeK (i:=3) zo
 have E:qeQ 1 (.lst (ql2.map (qd.int .i64)) .full) (.int .i64 ((3:Nat):Int)) = some (.iptr [.int .i64 10] 0):=qeW (i:=3) zo
 have w:=qo (n:=n) (by have:=hw.len;omega)
 have n1:=qi hw hn hs
 have n2:=qi hw n1 g1
 have n3:=qF hw n2 g2
 have n4:=qi hw n3 g3
 obtain ⟨xs,xd,xn,q2⟩:=h4
 refine ⟨rfl,noE,m,λh=>?_⟩
 obtain ⟨K,tt,⟨ht,e0,e1,e4,e6,e7,e8,e9,e10,e11⟩,hW⟩:=qfc (i:=3) hk hn zo hs h
 rw [hW,H3i]
 generalize he:qg h.length Wd qaN _ = R
 simp only [sB.1,qaN,reduceCtorEq,Nat.reduceAdd,Nat.reduceLT,Nat.reduceEqDiff,Nat.reduceLeDiff,Nat.reduceShiftRight,Nat.reduceAnd,Nat.reduceBneDiff,exB.1,qr,qcE.1,ht,e0,e1,e4,e6,e7,e9,e10,e11,c1,I,E,qaO hn hk,hs,w,qbn,qaB hw hk n1,g1,qbh n2 hw,g2,c3,qaB hw hk n3,g3,q2,qck,qdN hw hk xn,g5,z6] at he
 subst he
 simp only [sB.1,Nat.reduceAdd,Nat.reduceLT,Nat.reduceEqDiff,exB.1,ht,e4,e6]
theorem qwH (hw:WF ws) (hk:KOK ws) (hn:n < ws.length) (hs:isW ws n [108,101,97,115,116] = true) (g1:isW ws (n + 1) [40] = true) (g2:qM ws (n + 1 + 1) = true) (g3:isW ws (n + 1 + 1 + 1) [44] = true) {x:Exp} {m:Nat} (h4:qbp ws (n + 1 + 1 + 1 + 1) (.ok x m)) (g5:isW ws m [41] = true) (hd:¬ (Exp.mk 10 0 (word ws (n + 1 + 1)).s [] [x]).depth <= 20):qeJ ws n (.no (word ws n).pos 7 (m + 1)):=by
 have c1:ilt ((3:Nat):Int) 4 = true:=zk
 have c3:(((3:Nat):Int) == 3) = true:=zk
 have U:qeQ 1 (.lst (qeO.map qd.str) .full) (.int .i64 ((3:Nat):Int)) = some (.iptr [.str [108,101,97,115,116]] 0):=qeK (i:=3) zo
 have I:qeQ 1 (.lst (ql2.map (qd.int .i64)) .full) (.int .i64 ((3:Nat):Int)) = some (.iptr [.int .i64 10] 0):=qeW (i:=3) zo
 have w:=qo (n:=n) (by have:=hw.len;omega)
 have n1:=qi hw hn hs
 have n2:=qi hw n1 g1
 have n3:=qF hw n2 g2
 have n4:=qi hw n3 g3
 obtain ⟨xs,xd,xn,q2⟩:=h4
 have E:=qff (op:=10) (k:=0) (name:=(word ws (n + 1 + 1)).s) (sub:=[]) qCf xd xs (word ws n).pos (m + 1:Nat)
 simp only [if_neg hd] at E
 refine ⟨rfl,noE,(m + 1:Nat),λh=>?_⟩
 obtain ⟨K,tt,⟨ht,e0,e1,e4,e6,e7,e8,e9,e10,e11⟩,hW⟩:=qfc (i:=3) hk hn zo hs h
 rw [hW,H3i]
 generalize he:qg h.length Wd qaN _ = R
 simp only [sB.1,qaN,reduceCtorEq,Nat.reduceAdd,Nat.reduceLT,Nat.reduceEqDiff,Nat.reduceLeDiff,Nat.reduceShiftRight,Nat.reduceAnd,Nat.reduceBneDiff,exB.1,qr,qcE.1,ht,e0,e1,e4,e6,e7,e8,e9,e10,e11,c1,U,I,qaO hn hk,hs,w,qbn,qaB hw hk n1,g1,qbh n2 hw,g2,c3,qaB hw hk n3,g3,q2,qck,qaB hw hk xn,g5,E] at he
 subst he
 simp only [sB.1,Nat.reduceAdd,Nat.reduceLT,Nat.reduceEqDiff,exB.1,ht,e4,e6]
theorem qwI (hw:WF ws) (hk:KOK ws) (hn:n < ws.length) (hs:isW ws n [108,101,97,115,116] = true) (g1:isW ws (n + 1) [40] = true) (g2:qM ws (n + 1 + 1) = true) (g3:isW ws (n + 1 + 1 + 1) [44] = true) {x:Exp} {m:Nat} (h4:qbp ws (n + 1 + 1 + 1 + 1) (.ok x m)) (g5:isW ws m [41] = true) (hd:(Exp.mk 10 0 (word ws (n + 1 + 1)).s [] [x]).depth <= 20):qeJ ws n (.ok (.mk 10 0 (word ws (n + 1 + 1)).s [] [x]) (m + 1)):=by
 have c1:ilt ((3:Nat):Int) 4 = true:=zk
 have c3:(((3:Nat):Int) == 3) = true:=zk
 have U:qeQ 1 (.lst (qeO.map qd.str) .full) (.int .i64 ((3:Nat):Int)) = some (.iptr [.str [108,101,97,115,116]] 0):=qeK (i:=3) zo
 have I:qeQ 1 (.lst (ql2.map (qd.int .i64)) .full) (.int .i64 ((3:Nat):Int)) = some (.iptr [.int .i64 10] 0):=qeW (i:=3) zo
 have w:=qo (n:=n) (by have:=hw.len;omega)
 have n1:=qi hw hn hs
 have n2:=qi hw n1 g1
 have n3:=qF hw n2 g2
 have n4:=qi hw n3 g3
 obtain ⟨xs,xd,xn,q2⟩:=h4
 have E:=qff (op:=10) (k:=0) (name:=(word ws (n + 1 + 1)).s) (sub:=[]) qCf xd xs (word ws n).pos (m + 1:Nat)
 simp only [if_pos hd] at E
 refine ⟨qcj (by simp) (by simpa using xs),hd,qi hw xn g5,λh=>?_⟩
 obtain ⟨K,tt,⟨ht,e0,e1,e4,e6,e7,e8,e9,e10,e11⟩,hW⟩:=qfc (i:=3) hk hn zo hs h
 rw [hW,H3i]
 generalize he:qg h.length Wd qaN _ = R
 simp only [sB.1,qaN,reduceCtorEq,Nat.reduceAdd,Nat.reduceLT,Nat.reduceEqDiff,Nat.reduceLeDiff,Nat.reduceShiftRight,Nat.reduceAnd,Nat.reduceBneDiff,exB.1,qr,qcE.1,ht,e0,e1,e4,e6,e7,e8,e9,e10,e11,c1,U,I,qaO hn hk,hs,w,qbn,qaB hw hk n1,g1,qbh n2 hw,g2,c3,qaB hw hk n3,g3,q2,qck,qaB hw hk xn,g5,E] at he
 subst he
 simp only [sB.1,Nat.reduceAdd,Nat.reduceLT,Nat.reduceEqDiff,exB.1,ht,e4,e6]
theorem qeC (hk:KOK ws) (hn:n < ws.length) (k1:((word ws n).kind == 1) = false) (k2:((word ws n).kind == 2) = false) (q0:isW ws n [116,114,117,101] = false) (q1:isW ws n [102,97,108,115,101] = false) (q2:isW ws n [101,108,97,112,115,101,100] = false) (q3:isW ws n [99,111,117,110,116] = false) (q4:isW ws n [104,97,115] = false) (q5:isW ws n [115,117,109] = false) (q6:isW ws n [108,101,97,115,116] = false) {h:List qk} {tt:List qd} {R:Option (Ex×St)} (hA:qiR ws n h tt 0) (he:qg h.length Wd (.loop qaN) ⟨tt,H3 h,false⟩ = R) :
  ∃E,R = some (.exit 0,⟨E,H3 h,false⟩)/\qiR ws n h E 4:=by
 have I:∀i (hi:i < 4),i < 4->isW ws n (qeO[i]'hi) = false:=λi hi _=>by
  have:∀x ∈ qeO,isW ws n x = false:=by simp [qeO,q3,q4,q5,q6]
  exact this _ (List.getElem_mem hi)
 obtain ⟨t1,h1,Y⟩:=qxx (H:=H3 h) hk hn (Nat.le_refl 4) I 4 0 tt zo hA
 obtain ⟨t2,h2,U⟩:=qyb (H:=H3 h) Y
 exact ⟨t2,by rw [<-he,h1,h2],U⟩
theorem qtR (hw:WF ws) (hk:KOK ws) (hn:n < ws.length) (hs:qM ws n = true) (hp:isW ws (n + 1) [46] = false):qeJ ws n (.ok (.mk 4 0 (word ws n).s [] []) (n + 1)):=by
 have E:=qae hn
 have k1:((word ws n).kind == 1) = false:=by rw [qcg hs];rfl
 have k2:((word ws n).kind == 2) = false:=by rw [qcg hs];rfl
 have q0:isW ws n [116,114,117,101] = false:=qaj hs zk
 have q1:isW ws n [102,97,108,115,101] = false:=qaj hs zk
 have q2:isW ws n [101,108,97,112,115,101,100] = false:=qaj hs zk
 have q3:isW ws n [99,111,117,110,116] = false:=qaj hs zk
 have q4:isW ws n [104,97,115] = false:=qaj hs zk
 have q5:isW ws n [115,117,109] = false:=qaj hs zk
 have q6:isW ws n [108,101,97,115,116] = false:=qaj hs zk
 have qb:isW ws n [40] = false:=qfC hk hn hs zk
 have n1:=qF hw hn hs
 refine ⟨qce _ _ _ _,qcd _ _ _ _,n1,λh=>?_⟩
 rw [qdr (by rfl)]
 generalize hR:Wd (.fn 127 [] []) _ h = R
 rw [qu 127 qgk] at hR
 simp only [sB.1,qgk,reduceCtorEq,Nat.reduceAdd,Nat.reduceSub,Nat.reduceLT,Nat.reduceEqDiff,Nat.reduceLeDiff,exB.1,qr,qcE.1,E,qaO hn hk,k1,k2,q0,q1,q2,qkT,qkU] at hR
 generalize he:qg h.length Wd (.loop qaN) _ = r at hR
 obtain ⟨tt,rfl,ht,e0,e1,e4,e6,e7,e8,e9,e10,e11⟩:=qeC (h:=h) hk hn k1 k2 q0 q1 q2 q3 q4 q5 q6 (by
  refine ⟨?_,?_,?_,?_,?_,?_,?_,?_,?_,?_⟩
  all_goals simp only [sB.1,reduceCtorEq,Nat.reduceAdd,Nat.reduceLT,Nat.reduceEqDiff,jR]) he
 rw [<-hR,H3i]
 simp only [sB.1,reduceCtorEq,Nat.reduceAdd,Nat.reduceLT,Nat.reduceEqDiff,Nat.reduceLeDiff,Nat.reduceShiftRight,Nat.reduceAnd,Nat.reduceBneDiff,exB.1,qr,qcE.1,ht,e0,e1,e4,e6,e7,e8,qaO hn hk,qb,qbh hn hw,hs,qaO n1 hk,hp]
theorem qpS (hw:WF ws) (hk:KOK ws) (hn:n < ws.length) (hs:qM ws n = true) (hp:isW ws (n + 1) [46] = true) (k3:(word ws (n + 1 + 1)).kind = 1):qeJ ws n (.ok (.mk 4 0 (word ws n).s [] []) (n + 1)):=by
 have I:=qae hn
 have k1:((word ws n).kind == 1) = false:=by rw [qcg hs];rfl
 have k2:((word ws n).kind == 2) = false:=by rw [qcg hs];rfl
 have q0:isW ws n [116,114,117,101] = false:=qaj hs zk
 have q1:isW ws n [102,97,108,115,101] = false:=qaj hs zk
 have q2:isW ws n [101,108,97,112,115,101,100] = false:=qaj hs zk
 have q3:isW ws n [99,111,117,110,116] = false:=qaj hs zk
 have q4:isW ws n [104,97,115] = false:=qaj hs zk
 have q5:isW ws n [115,117,109] = false:=qaj hs zk
 have q6:isW ws n [108,101,97,115,116] = false:=qaj hs zk
 have qb:isW ws n [40] = false:=qfC hk hn hs zk
 have n1:=qF hw hn hs
 have w1:=qo (n:=n + 1) (by have:=hw.len;omega)
 have n2:=qi hw n1 hp
 have E:=qae n2
 have k3:((word ws (n + 1 + 1)).kind == 1) = true:=by rw [k3];rfl
 refine ⟨qce _ _ _ _,qcd _ _ _ _,n1,λh=>?_⟩
 rw [qdr (by rfl)]
 generalize hR:Wd (.fn 127 [] []) _ h = R
 rw [qu 127 qgk] at hR
 simp only [sB.1,qgk,reduceCtorEq,Nat.reduceAdd,Nat.reduceSub,Nat.reduceLT,Nat.reduceEqDiff,Nat.reduceLeDiff,exB.1,qr,qcE.1,I,qaO hn hk,k1,k2,q0,q1,q2,qkT,qkU] at hR
 generalize he:qg h.length Wd (.loop qaN) _ = r at hR
 obtain ⟨tt,rfl,ht,e0,e1,e4,e6,e7,e8,e9,e10,e11⟩:=qeC (h:=h) hk hn k1 k2 q0 q1 q2 q3 q4 q5 q6 (by
  refine ⟨?_,?_,?_,?_,?_,?_,?_,?_,?_,?_⟩
  all_goals simp only [sB.1,reduceCtorEq,Nat.reduceAdd,Nat.reduceLT,Nat.reduceEqDiff,jR]) he
 rw [<-hR,H3i]
 simp only [sB.1,reduceCtorEq,Nat.reduceAdd,Nat.reduceLT,Nat.reduceEqDiff,Nat.reduceLeDiff,Nat.reduceShiftRight,Nat.reduceAnd,Nat.reduceBneDiff,exB.1,qr,qcE.1,ht,e0,e1,e4,e6,e7,e8,qaO hn hk,qb,qbh hn hw,hs,qaO n1 hk,hp,w1,E,k3]
theorem qwM (hw:WF ws) (hk:KOK ws) (hn:n < ws.length) (hs:qM ws n = true) (hp:isW ws (n + 1) [46] = true) (k3:(word ws (n + 1 + 1)).kind ≠ 1) (hq:qM ws (n + 1 + 1) = true):qeJ ws n (.ok (.mk 5 0 (word ws n).s (word ws (n + 1 + 1)).s []) (n + 1 + 1 + 1)):=by
 have I:=qae hn
 have k1:((word ws n).kind == 1) = false:=by rw [qcg hs];rfl
 have k2:((word ws n).kind == 2) = false:=by rw [qcg hs];rfl
 have q0:isW ws n [116,114,117,101] = false:=qaj hs zk
 have q1:isW ws n [102,97,108,115,101] = false:=qaj hs zk
 have q2:isW ws n [101,108,97,112,115,101,100] = false:=qaj hs zk
 have q3:isW ws n [99,111,117,110,116] = false:=qaj hs zk
 have q4:isW ws n [104,97,115] = false:=qaj hs zk
 have q5:isW ws n [115,117,109] = false:=qaj hs zk
 have q6:isW ws n [108,101,97,115,116] = false:=qaj hs zk
 have qb:isW ws n [40] = false:=qfC hk hn hs zk
 have n1:=qF hw hn hs
 have w1:=qo (n:=n + 1) (by have:=hw.len;omega)
 have n2:=qi hw n1 hp
 have E:=qae n2
 have k3:((word ws (n + 1 + 1)).kind == 1) = false:=by simpa using k3
 refine ⟨qce _ _ _ _,qcd _ _ _ _,qF hw n2 hq,λh=>?_⟩
 rw [qdr (by rfl)]
 generalize hR:Wd (.fn 127 [] []) _ h = R
 rw [qu 127 qgk] at hR
 simp only [sB.1,qgk,reduceCtorEq,Nat.reduceAdd,Nat.reduceSub,Nat.reduceLT,Nat.reduceEqDiff,Nat.reduceLeDiff,exB.1,qr,qcE.1,I,qaO hn hk,k1,k2,q0,q1,q2,qkT,qkU] at hR
 generalize he:qg h.length Wd (.loop qaN) _ = r at hR
 obtain ⟨tt,rfl,ht,e0,e1,e4,e6,e7,e8,e9,e10,e11⟩:=qeC (h:=h) hk hn k1 k2 q0 q1 q2 q3 q4 q5 q6 (by
  refine ⟨?_,?_,?_,?_,?_,?_,?_,?_,?_,?_⟩
  all_goals simp only [sB.1,reduceCtorEq,Nat.reduceAdd,Nat.reduceLT,Nat.reduceEqDiff,jR]) he
 rw [<-hR,H3i]
 simp only [sB.1,reduceCtorEq,Nat.reduceAdd,Nat.reduceLT,Nat.reduceEqDiff,Nat.reduceLeDiff,Nat.reduceShiftRight,Nat.reduceAnd,Nat.reduceBneDiff,exB.1,qr,qcE.1,ht,e0,e1,e4,e6,e7,e8,qaO hn hk,qb,qbh hn hw,hs,qaO n1 hk,hp,w1,E,k3,qbh n2 hw,hq]
theorem qtP (hw:WF ws) (hk:KOK ws) (hn:n < ws.length) (hs:qM ws n = true) (hp:isW ws (n + 1) [46] = true) (k3:(word ws (n + 1 + 1)).kind ≠ 1) (hq:qM ws (n + 1 + 1) = false):qeJ ws n (.no (word ws (n + 1 + 1)).pos 6 (n + 1 + 1)):=by
 have I:=qae hn
 have k1:((word ws n).kind == 1) = false:=by rw [qcg hs];rfl
 have k2:((word ws n).kind == 2) = false:=by rw [qcg hs];rfl
 have q0:isW ws n [116,114,117,101] = false:=qaj hs zk
 have q1:isW ws n [102,97,108,115,101] = false:=qaj hs zk
 have q2:isW ws n [101,108,97,112,115,101,100] = false:=qaj hs zk
 have q3:isW ws n [99,111,117,110,116] = false:=qaj hs zk
 have q4:isW ws n [104,97,115] = false:=qaj hs zk
 have q5:isW ws n [115,117,109] = false:=qaj hs zk
 have q6:isW ws n [108,101,97,115,116] = false:=qaj hs zk
 have qb:isW ws n [40] = false:=qfC hk hn hs zk
 have n1:=qF hw hn hs
 have w1:=qo (n:=n + 1) (by have:=hw.len;omega)
 have n2:=qi hw n1 hp
 have E:=qae n2
 have k3:((word ws (n + 1 + 1)).kind == 1) = false:=by simpa using k3
 refine ⟨rfl,.mk 5 0 (word ws n).s [] [],(n + 1 + 1:Nat),λh=>?_⟩
 rw [qdr (by rfl)]
 generalize hR:Wd (.fn 127 [] []) _ h = R
 rw [qu 127 qgk] at hR
 simp only [sB.1,qgk,reduceCtorEq,Nat.reduceAdd,Nat.reduceSub,Nat.reduceLT,Nat.reduceEqDiff,Nat.reduceLeDiff,exB.1,qr,qcE.1,I,qaO hn hk,k1,k2,q0,q1,q2,qkT,qkU] at hR
 generalize he:qg h.length Wd (.loop qaN) _ = r at hR
 obtain ⟨tt,rfl,ht,e0,e1,e4,e6,e7,e8,e9,e10,e11⟩:=qeC (h:=h) hk hn k1 k2 q0 q1 q2 q3 q4 q5 q6 (by
  refine ⟨?_,?_,?_,?_,?_,?_,?_,?_,?_,?_⟩
  all_goals simp only [sB.1,reduceCtorEq,Nat.reduceAdd,Nat.reduceLT,Nat.reduceEqDiff,jR]) he
 rw [<-hR,H3i]
 simp only [sB.1,reduceCtorEq,Nat.reduceAdd,Nat.reduceLT,Nat.reduceEqDiff,Nat.reduceLeDiff,Nat.reduceShiftRight,Nat.reduceAnd,Nat.reduceBneDiff,exB.1,qr,qcE.1,ht,e0,e1,e4,e6,e7,e8,qaO hn hk,qb,qbh hn hw,hs,qaO n1 hk,hp,w1,E,k3,qfe n2,hq]
theorem qpT (hw:WF ws) (hk:KOK ws) (hn:n < ws.length) (k1:(word ws n).kind ≠ 1) (k2:(word ws n).kind ≠ 2) (hs:qM ws n = false) (hb:isW ws n [40] = false) (q0:isW ws n [116,114,117,101] = false) (q1:isW ws n [102,97,108,115,101] = false) (q2:isW ws n [101,108,97,112,115,101,100] = false) (q3:isW ws n [99,111,117,110,116] = false) (q4:isW ws n [104,97,115] = false) (q5:isW ws n [115,117,109] = false) (q6:isW ws n [108,101,97,115,116] = false):qeJ ws n (.no (word ws n).pos 6 n):=by
 have E:=qae hn
 have k1:((word ws n).kind == 1) = false:=by simpa using k1
 have k2:((word ws n).kind == 2) = false:=by simpa using k2
 refine ⟨rfl,noE,n,λh=>?_⟩
 generalize hR:Wd (.fn 127 [] []) _ h = R
 rw [qu 127 qgk] at hR
 simp only [sB.1,qgk,reduceCtorEq,Nat.reduceAdd,Nat.reduceSub,Nat.reduceLT,Nat.reduceEqDiff,Nat.reduceLeDiff,exB.1,qr,qcE.1,E,qaO hn hk,k1,k2,q0,q1,q2,qkT,qkU] at hR
 generalize he:qg h.length Wd (.loop qaN) _ = r at hR
 obtain ⟨tt,rfl,ht,e0,e1,e4,e6,e7,e8,e9,e10,e11⟩:=qeC (h:=h) hk hn k1 k2 q0 q1 q2 q3 q4 q5 q6 (by
  refine ⟨?_,?_,?_,?_,?_,?_,?_,?_,?_,?_⟩
  all_goals simp only [sB.1,reduceCtorEq,Nat.reduceAdd,Nat.reduceLT,Nat.reduceEqDiff,jR]) he
 rw [<-hR,H3i]
 simp only [sB.1,reduceCtorEq,Nat.reduceAdd,Nat.reduceLT,Nat.reduceEqDiff,Nat.reduceShiftRight,Nat.reduceAnd,Nat.reduceBneDiff,exB.1,qcE.1,ht,e0,e1,e4,e6,e7,e8,qaO hn hk,hb,qfe hn,hs,z6]
theorem qwL (hw:WF ws) (hk:KOK ws) (hn:n < ws.length) (hb:isW ws n [40] = true) {o:Out} (h1:RBr ws n o):qeJ ws n o:=by
 cases o with
 | ok e n1=>
  obtain ⟨g1,g2,g3,g4⟩:=h1
  have E:=qae hn
  have k1:=qjm hb
  have k2:=qjn hb
  have q0:isW ws n [116,114,117,101] = false:=qm hb (by decide)
  have q1:isW ws n [102,97,108,115,101] = false:=qm hb (by decide)
  have q2:isW ws n [101,108,97,112,115,101,100] = false:=qm hb (by decide)
  have q3:isW ws n [99,111,117,110,116] = false:=qm hb (by decide)
  have q4:isW ws n [104,97,115] = false:=qm hb (by decide)
  have q5:isW ws n [115,117,109] = false:=qm hb (by decide)
  have q6:isW ws n [108,101,97,115,116] = false:=qm hb (by decide)
  have w:=qo (n:=n) (by have:=hw.len;omega)
  refine ⟨g1,g2,g3,λh=>?_⟩
  generalize hR:Wd (.fn 127 [] []) _ h = R
  rw [qu 127 qgk] at hR
  simp only [sB.1,qgk,reduceCtorEq,Nat.reduceAdd,Nat.reduceSub,Nat.reduceLT,Nat.reduceEqDiff,Nat.reduceLeDiff,exB.1,qr,qcE.1,E,qaO hn hk,k1,k2,q0,q1,q2,qkT,qkU] at hR
  generalize he:qg h.length Wd (.loop qaN) _ = r at hR
  obtain ⟨tt,rfl,ht,e0,e1,e4,e6,e7,e8,e9,e10,e11⟩:=qeC (h:=h) hk hn k1 k2 q0 q1 q2 q3 q4 q5 q6 (by
   refine ⟨?_,?_,?_,?_,?_,?_,?_,?_,?_,?_⟩
   all_goals simp only [sB.1,reduceCtorEq,Nat.reduceAdd,Nat.reduceLT,Nat.reduceEqDiff,jR]) he
  rw [<-hR,H3i]
  simp only [sB.1,reduceCtorEq,Nat.reduceAdd,Nat.reduceLT,Nat.reduceEqDiff,exB.1,qcE.1,ht,e0,e1,e4,e6,e8,qaO hn hk,hb,w,g4]
 | no p err m=>
  obtain ⟨g1,x,m',g2⟩:=h1
  have E:=qae hn
  have k1:=qjm hb
  have k2:=qjn hb
  have q0:isW ws n [116,114,117,101] = false:=qm hb (by decide)
  have q1:isW ws n [102,97,108,115,101] = false:=qm hb (by decide)
  have q2:isW ws n [101,108,97,112,115,101,100] = false:=qm hb (by decide)
  have q3:isW ws n [99,111,117,110,116] = false:=qm hb (by decide)
  have q4:isW ws n [104,97,115] = false:=qm hb (by decide)
  have q5:isW ws n [115,117,109] = false:=qm hb (by decide)
  have q6:isW ws n [108,101,97,115,116] = false:=qm hb (by decide)
  have w:=qo (n:=n) (by have:=hw.len;omega)
  refine ⟨g1,x,m',λh=>?_⟩
  generalize hR:Wd (.fn 127 [] []) _ h = R
  rw [qu 127 qgk] at hR
  simp only [sB.1,qgk,reduceCtorEq,Nat.reduceAdd,Nat.reduceSub,Nat.reduceLT,Nat.reduceEqDiff,Nat.reduceLeDiff,exB.1,qr,qcE.1,E,qaO hn hk,k1,k2,q0,q1,q2,qkT,qkU] at hR
  generalize he:qg h.length Wd (.loop qaN) _ = r at hR
  obtain ⟨tt,rfl,ht,e0,e1,e4,e6,e7,e8,e9,e10,e11⟩:=qeC (h:=h) hk hn k1 k2 q0 q1 q2 q3 q4 q5 q6 (by
   refine ⟨?_,?_,?_,?_,?_,?_,?_,?_,?_,?_⟩
   all_goals simp only [sB.1,reduceCtorEq,Nat.reduceAdd,Nat.reduceLT,Nat.reduceEqDiff,jR]) he
  rw [<-hR,H3i]
  simp only [sB.1,reduceCtorEq,Nat.reduceAdd,Nat.reduceLT,Nat.reduceEqDiff,exB.1,qcE.1,ht,e0,e1,e4,e6,e8,qaO hn hk,hb,w,g2]
end
end Go.Proofs.YtkehdpkcdnofaaaGreatDoor.AE
