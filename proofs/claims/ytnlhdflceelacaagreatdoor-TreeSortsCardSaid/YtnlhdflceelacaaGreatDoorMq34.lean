/- A part of the proof: the abstract executor and what goes through it (part 34). No condition. -/
import Derived.Test.YtnlhdflceelacaaGreatDoorMq33
set_option maxRecDepth 100000
namespace Go.Proofs.YtnlhdflceelacaaGreatDoor.AE
open Go.AE
theorem qiz {x y z:Msg} (h1:leM x y) (h2:qbP y z < 0):qbP x z < 0:=by
 refine Decidable.byContradiction fun h=>?_
 have h3:leM z x:=qaH h
 have h4:leM z y:=qaz h3 h1
 have:=qjh (show leM y z by show qbP y z ≤ 0;omega) h4
 subst this
 have:=qdw y y
 omega
theorem qgn {x y:Msg} (h:qbP x y < 0):leM x y:=by show qbP x y ≤ 0;omega
theorem qel {x y:Msg} (h:leM x y):¬ qbP y x < 0:=fun h2=>by
 have:=qdw x y
 have h3:qbP x y ≤ 0:=h
 omega
section
variable {P U V R:List El}
theorem E_U {i:Nat} (hi:i < U.length):E (P ++ (U ++ (V ++ R))) (P.length + i) = U[i].1:=by
 rw [qgK (by simp;omega),List.getElem_append_right (by omega)]
 simp only [Nat.add_sub_cancel_left]
 rw [List.getElem_append_left hi]
theorem E_V {i:Nat} (hi:i < V.length):E (P ++ (U ++ (V ++ R))) (P.length + U.length + i) = V[i].1:=by
 rw [qgK (by simp;omega),List.getElem_append_right (by omega)]
 simp only [show P.length + U.length + i - P.length = U.length + i by omega]
 rw [List.getElem_append_right (by omega)]
 simp only [Nat.add_sub_cancel_left]
 rw [List.getElem_append_left hi]
end
theorem qaB {U:List El} (h:U.Pairwise leE) {i j:Nat} (hij:i ≤ j) (hj:j < U.length):leM U[i].1 U[j].1:=by
 rcases Nat.lt_or_ge i j with hlt | hge
 ·exact List.pairwise_iff_getElem.1 h i j (by omega) hj hlt
 ·have:i = j:=by omega
  subst this
  have:=qdw U[i].1 U[i].1
  show qbP _ _ ≤ 0
  omega
theorem qyd {U V:List El} (hU:U.Pairwise leE) (hV:V.Pairwise leE) {i j:Nat} (hi:i ≤ U.length) (hj:j ≤ V.length) (hA:i = 0∨j = V.length∨∃(h1:i - 1 < U.length) (h2:j < V.length),leM U[i - 1].1 V[j].1) (hB:j = 0∨i = U.length∨∃(h1:j - 1 < V.length) (h2:i < U.length),leM V[j - 1].1 U[i].1) :
  ∀x ∈ U.take i ++ V.take j,∀y ∈ U.drop i ++ V.drop j,leE x y:=by
 intro x hx y hy
 have tk:∀{W:List El} {q:Nat} {z:El},z ∈ W.take q→∃(a:Nat) (h:a < W.length),a < q∧z = W[a]:=fun {W q z} hz=>by
  obtain ⟨a,ha,e⟩:=List.getElem_of_mem hz
  rw [List.length_take] at ha
  exact ⟨a,by omega,by omega,by rw [←e,List.getElem_take]⟩
 have dr:∀{W:List El} {q:Nat} {z:El},z ∈ W.drop q→∃(a:Nat) (h:a < W.length),q ≤ a∧z = W[a]:=fun {W q z} hz=>by
  obtain ⟨a,ha,e⟩:=List.getElem_of_mem hz
  rw [List.length_drop] at ha
  exact ⟨q + a,by omega,by omega,by rw [←e,List.getElem_drop]⟩
 rcases List.mem_append.1 hx with hx | hx <;> rcases List.mem_append.1 hy with hy | hy <;> obtain ⟨a,ha,ha',rfl⟩:=tk hx <;> obtain ⟨b,hb,hb',rfl⟩:=dr hy
 ·exact qaB hU (by omega) hb
 ·rcases hA with h | h | ⟨h1,h2,h3⟩
  ·omega
  ·omega
  ·exact qaz (qaB hU (by omega) h1) (qaz h3 (qaB hV hb' hb))
 ·rcases hB with h | h | ⟨h1,h2,h3⟩
  ·omega
  ·omega
  ·exact qaz (qaB hV (by omega) h1) (qaz h3 (qaB hU hb' hb))
 ·exact qaB hV (by omega) hb
def qjB (H:Nat→Option qg) (id k:Nat):Prop:=∀(P U V R:List El) (N a m b:Nat) (h:List qg),U.length + V.length ≤ k→U ≠ []→V ≠ []→U.Pairwise leE→V.Pairwise leE→N = (P ++ (U ++ (V ++ R))).length→N ≤ 100→a = P.length→m = P.length + U.length→b = P.length + U.length + V.length→qeo H id (P ++ (U ++ (V ++ R))) h→
 ∃M',Wd (.fn 105 [] []) [.sl id 0 N N 5,.int .i64 (a:Nat),.int .i64 (m:Nat),.int .i64 (b:Nat),qa1] h = some (.ret (.tup []),h.set id (.cells (row (P ++ (M' ++ R)))),false)∧M'.Pairwise leE∧M'.Perm (U ++ V)
def skC:Nat→qj→qj
 | 0,c=>c
 | n + 1,.seq _ b=>skC n b
 | _,c=>c
def hdC:qj→qj
 | .seq a _=>a
 | c=>c
structure qsk (id N a m b mid t en:Nat) (tt:List qa):Prop where
 len:tt.length = 220
 r0:lkp tt 0 = .sl id 0 N N 5
 r1:lkp tt 1 = .int .i64 (a:Nat)
 r2:lkp tt 2 = .int .i64 (m:Nat)
 r3:lkp tt 3 = .int .i64 (b:Nat)
 r4:lkp tt 4 = qa1
 r18:lkp tt 18 = .int .i64 (mid:Nat)
 r20:lkp tt 20 = .int .i64 (t:Nat)
 r24:lkp tt 24 = .int .i64 (en:Nat)
theorem qfW {M:List El} {A B:List El} (h:A = []∨B = []) (hA:A.Pairwise leE) (hB:B.Pairwise leE):(A ++ B).Pairwise leE:=by
 rcases h with rfl | rfl
 ·simpa using hB
 ·simpa using hA
set_option maxHeartbeats 2000000 in
theorem qru {H:Nat→Option qg} {id N a m b mid t en hb:Nat} {P U2 V1 R:List El} {h:List qg} (hN:N = (P ++ (U2 ++ (V1 ++ R))).length) (h100:N ≤ 100) (ht:t = P.length) (hm:m = P.length + U2.length) (hen:en = P.length + U2.length + V1.length) (hl:qeo H id (P ++ (U2 ++ (V1 ++ R))) h) {tt:List qa} (hr:qsk id N a m b mid t en tt) :
  ∃tt',qy hb Wd (hdC (skC 9 qcl.code)) ⟨tt,h,false⟩ = some (.nor,⟨tt',h.set id (.cells (row (P ++ (V1 ++ (U2 ++ R))))),false⟩)∧qsk id N a m b mid t en tt':=by
 obtain ⟨hlen,r0,r1,r2,r3,r4,r18,r20,r24⟩:=hr
 by_cases hc:U2 ≠ []∧V1 ≠ []
 ·have l1:=List.length_pos_iff.2 hc.1
  have l2:=List.length_pos_iff.2 hc.2
  have c1:ilt (t:Int) (m:Int) = true:=by rw [qr];simp;omega
  have c2:ilt (m:Int) (en:Int) = true:=by rw [qr];simp;omega
  have hrot:=qoO rfl hc.1 hc.2 (by omega) hN ht hm hen hl
  simp only [hdC,skC,qcl,sT.1,sC.1,qd,qc,Nat.testBit,simprocAttr,-Int.reduceNatCast',qA,qo,hlen,r0,r1,r2,r3,r4,r18,r20,r24,c1,c2,hrot]
  exact ⟨_,rfl,by simp only [qi,hlen],by simp only [sT.1,sC.1,qd,qc,Nat.testBit,simprocAttr,-Int.reduceNatCast',hlen,r0],by simp only [sT.1,sC.1,qd,qc,Nat.testBit,simprocAttr,-Int.reduceNatCast',hlen,r1],by simp only [sT.1,sC.1,qd,qc,Nat.testBit,simprocAttr,-Int.reduceNatCast',hlen,r2],by simp only [sT.1,sC.1,qd,qc,Nat.testBit,simprocAttr,-Int.reduceNatCast',hlen,r3],by simp only [sT.1,sC.1,qd,qc,Nat.testBit,simprocAttr,-Int.reduceNatCast',hlen,r4],by simp only [sT.1,sC.1,qd,qc,Nat.testBit,simprocAttr,-Int.reduceNatCast',hlen,r18],by simp only [sT.1,sC.1,qd,qc,Nat.testBit,simprocAttr,-Int.reduceNatCast',hlen,r20],by simp only [sT.1,sC.1,qd,qc,Nat.testBit,simprocAttr,-Int.reduceNatCast',hlen,r24]⟩
 ·have e:U2 = []∨V1 = []:=by
   by_cases h1:U2 = []
   ·exact .inl h1
   ·exact .inr (Decidable.byContradiction fun h2=>hc ⟨h1,h2⟩)
  have c:(ilt (t:Int) (m:Int) && ilt (m:Int) (en:Int)) = false:=by
   rw [qr,qr]
   rcases e with rfl | rfl <;> simp at * <;> omega
  have es:P ++ (V1 ++ (U2 ++ R)) = P ++ (U2 ++ (V1 ++ R)):=by rcases e with rfl | rfl <;> simp
  rw [es,qbm hl.box]
  simp only [hdC,skC,qcl,sT.1,sC.1,qd,qc,Nat.testBit,simprocAttr,-Int.reduceNatCast',qA,qo,hlen,r0,r1,r2,r3,r4,r18,r20,r24,c]
  exact ⟨_,rfl,by simp only [qi,hlen],by simp only [sT.1,sC.1,qd,qc,Nat.testBit,simprocAttr,-Int.reduceNatCast',hlen,r0],by simp only [sT.1,sC.1,qd,qc,Nat.testBit,simprocAttr,-Int.reduceNatCast',hlen,r1],by simp only [sT.1,sC.1,qd,qc,Nat.testBit,simprocAttr,-Int.reduceNatCast',hlen,r2],by simp only [sT.1,sC.1,qd,qc,Nat.testBit,simprocAttr,-Int.reduceNatCast',hlen,r3],by simp only [sT.1,sC.1,qd,qc,Nat.testBit,simprocAttr,-Int.reduceNatCast',hlen,r4],by simp only [sT.1,sC.1,qd,qc,Nat.testBit,simprocAttr,-Int.reduceNatCast',hlen,r18],by simp only [sT.1,sC.1,qd,qc,Nat.testBit,simprocAttr,-Int.reduceNatCast',hlen,r20],by simp only [sT.1,sC.1,qd,qc,Nat.testBit,simprocAttr,-Int.reduceNatCast',hlen,r24]⟩
set_option maxHeartbeats 2000000 in
theorem qnD {H:Nat→Option qg} {id N a m b mid t en hb k:Nat} {P A B R:List El} {h:List qg} (ih:qjB H id k) (hk:A.length + B.length ≤ k) (hA:A.Pairwise leE) (hB:B.Pairwise leE) (hN:N = (P ++ (A ++ (B ++ R))).length) (h100:N ≤ 100) (h1:a = P.length) (h2:t = P.length + A.length) (h3:mid = P.length + A.length + B.length) (hl:qeo H id (P ++ (A ++ (B ++ R))) h) {tt:List qa} (hr:qsk id N a m b mid t en tt) :
  ∃tt' M',qy hb Wd (hdC (skC 10 qcl.code)) ⟨tt,h,false⟩ = some (.nor,⟨tt',h.set id (.cells (row (P ++ (M' ++ R)))),false⟩)∧qsk id N a m b mid t en tt'∧M'.Pairwise leE∧M'.Perm (A ++ B):=by
 obtain ⟨hlen,r0,r1,r2,r3,r4,r18,r20,r24⟩:=hr
 by_cases hc:A ≠ []∧B ≠ []
 ·have l1:=List.length_pos_iff.2 hc.1
  have l2:=List.length_pos_iff.2 hc.2
  have c1:ilt (a:Int) (t:Int) = true:=by rw [qr];simp;omega
  have c2:ilt (t:Int) (mid:Int) = true:=by rw [qr];simp;omega
  obtain ⟨M',hm,hs,hp⟩:=ih P A B R N a t mid h hk hc.1 hc.2 hA hB hN h100 h1 h2 h3 hl
  simp only [hdC,skC,qcl,sT.1,sC.1,qd,qc,Nat.testBit,simprocAttr,-Int.reduceNatCast',qA,qo,hlen,r0,r1,r2,r3,r4,r18,r20,r24,c1,c2,hm]
  exact ⟨_,M',rfl,⟨by simp only [qi,hlen],by simp only [sT.1,sC.1,qd,qc,Nat.testBit,simprocAttr,-Int.reduceNatCast',hlen,r0],by simp only [sT.1,sC.1,qd,qc,Nat.testBit,simprocAttr,-Int.reduceNatCast',hlen,r1],by simp only [sT.1,sC.1,qd,qc,Nat.testBit,simprocAttr,-Int.reduceNatCast',hlen,r2],by simp only [sT.1,sC.1,qd,qc,Nat.testBit,simprocAttr,-Int.reduceNatCast',hlen,r3],by simp only [sT.1,sC.1,qd,qc,Nat.testBit,simprocAttr,-Int.reduceNatCast',hlen,r4],by simp only [sT.1,sC.1,qd,qc,Nat.testBit,simprocAttr,-Int.reduceNatCast',hlen,r18],by simp only [sT.1,sC.1,qd,qc,Nat.testBit,simprocAttr,-Int.reduceNatCast',hlen,r20],by simp only [sT.1,sC.1,qd,qc,Nat.testBit,simprocAttr,-Int.reduceNatCast',hlen,r24]⟩,hs,hp⟩
 ·have e:A = []∨B = []:=by
   by_cases h1:A = []
   ·exact .inl h1
   ·exact .inr (Decidable.byContradiction fun h2=>hc ⟨h1,h2⟩)
  have c:(ilt (a:Int) (t:Int) && ilt (t:Int) (mid:Int)) = false:=by
   rw [qr,qr]
   rcases e with rfl | rfl <;> simp at * <;> omega
  have es:P ++ ((A ++ B) ++ R) = P ++ (A ++ (B ++ R)):=by simp
  simp only [hdC,skC,qcl,sT.1,sC.1,qd,qc,Nat.testBit,simprocAttr,-Int.reduceNatCast',qA,qo,hlen,r0,r1,r2,r3,r4,r18,r20,r24,c]
  exact ⟨_,A ++ B,by rw [es,qbm hl.box],⟨by simp only [qi,hlen],by simp only [sT.1,sC.1,qd,qc,Nat.testBit,simprocAttr,-Int.reduceNatCast',hlen,r0],by simp only [sT.1,sC.1,qd,qc,Nat.testBit,simprocAttr,-Int.reduceNatCast',hlen,r1],by simp only [sT.1,sC.1,qd,qc,Nat.testBit,simprocAttr,-Int.reduceNatCast',hlen,r2],by simp only [sT.1,sC.1,qd,qc,Nat.testBit,simprocAttr,-Int.reduceNatCast',hlen,r3],by simp only [sT.1,sC.1,qd,qc,Nat.testBit,simprocAttr,-Int.reduceNatCast',hlen,r4],by simp only [sT.1,sC.1,qd,qc,Nat.testBit,simprocAttr,-Int.reduceNatCast',hlen,r18],by simp only [sT.1,sC.1,qd,qc,Nat.testBit,simprocAttr,-Int.reduceNatCast',hlen,r20],by simp only [sT.1,sC.1,qd,qc,Nat.testBit,simprocAttr,-Int.reduceNatCast',hlen,r24]⟩,qfW (M:=[]) e hA hB,List.Perm.refl _⟩
set_option maxHeartbeats 2000000 in
theorem qk3 {H:Nat→Option qg} {id N a m b mid t en hb k:Nat} {P A B R:List El} {h:List qg} (ih:qjB H id k) (hk:A.length + B.length ≤ k) (hA:A.Pairwise leE) (hB:B.Pairwise leE) (hN:N = (P ++ (A ++ (B ++ R))).length) (h100:N ≤ 100) (h1:mid = P.length) (h2:en = P.length + A.length) (h3:b = P.length + A.length + B.length) (hl:qeo H id (P ++ (A ++ (B ++ R))) h) {tt:List qa} (hr:qsk id N a m b mid t en tt) :
  ∃tt' M',qy hb Wd (skC 11 qcl.code) ⟨tt,h,false⟩ = some (.nor,⟨tt',h.set id (.cells (row (P ++ (M' ++ R)))),false⟩)∧qsk id N a m b mid t en tt'∧M'.Pairwise leE∧M'.Perm (A ++ B):=by
 obtain ⟨hlen,r0,r1,r2,r3,r4,r18,r20,r24⟩:=hr
 by_cases hc:A ≠ []∧B ≠ []
 ·have l1:=List.length_pos_iff.2 hc.1
  have l2:=List.length_pos_iff.2 hc.2
  have c1:ilt (mid:Int) (en:Int) = true:=by rw [qr];simp;omega
  have c2:ilt (en:Int) (b:Int) = true:=by rw [qr];simp;omega
  obtain ⟨M',hm,hs,hp⟩:=ih P A B R N mid en b h hk hc.1 hc.2 hA hB hN h100 h1 h2 h3 hl
  simp only [skC,qcl,sT.1,sC.1,qd,qc,Nat.testBit,simprocAttr,-Int.reduceNatCast',qA,qo,hlen,r0,r1,r2,r3,r4,r18,r20,r24,c1,c2,hm]
  exact ⟨_,M',rfl,⟨by simp only [qi,hlen],by simp only [sT.1,sC.1,qd,qc,Nat.testBit,simprocAttr,-Int.reduceNatCast',hlen,r0],by simp only [sT.1,sC.1,qd,qc,Nat.testBit,simprocAttr,-Int.reduceNatCast',hlen,r1],by simp only [sT.1,sC.1,qd,qc,Nat.testBit,simprocAttr,-Int.reduceNatCast',hlen,r2],by simp only [sT.1,sC.1,qd,qc,Nat.testBit,simprocAttr,-Int.reduceNatCast',hlen,r3],by simp only [sT.1,sC.1,qd,qc,Nat.testBit,simprocAttr,-Int.reduceNatCast',hlen,r4],by simp only [sT.1,sC.1,qd,qc,Nat.testBit,simprocAttr,-Int.reduceNatCast',hlen,r18],by simp only [sT.1,sC.1,qd,qc,Nat.testBit,simprocAttr,-Int.reduceNatCast',hlen,r20],by simp only [sT.1,sC.1,qd,qc,Nat.testBit,simprocAttr,-Int.reduceNatCast',hlen,r24]⟩,hs,hp⟩
 ·have e:A = []∨B = []:=by
   by_cases h1:A = []
   ·exact .inl h1
   ·exact .inr (Decidable.byContradiction fun h2=>hc ⟨h1,h2⟩)
  have c:(ilt (mid:Int) (en:Int) && ilt (en:Int) (b:Int)) = false:=by
   rw [qr,qr]
   rcases e with rfl | rfl <;> simp at * <;> omega
  have es:P ++ ((A ++ B) ++ R) = P ++ (A ++ (B ++ R)):=by simp
  simp only [skC,qcl,sT.1,sC.1,qd,qc,Nat.testBit,simprocAttr,-Int.reduceNatCast',qA,qo,hlen,r0,r1,r2,r3,r4,r18,r20,r24,c]
  exact ⟨_,A ++ B,by rw [es,qbm hl.box],⟨by simp only [qi,hlen],by simp only [sT.1,sC.1,qd,qc,Nat.testBit,simprocAttr,-Int.reduceNatCast',hlen,r0],by simp only [sT.1,sC.1,qd,qc,Nat.testBit,simprocAttr,-Int.reduceNatCast',hlen,r1],by simp only [sT.1,sC.1,qd,qc,Nat.testBit,simprocAttr,-Int.reduceNatCast',hlen,r2],by simp only [sT.1,sC.1,qd,qc,Nat.testBit,simprocAttr,-Int.reduceNatCast',hlen,r3],by simp only [sT.1,sC.1,qd,qc,Nat.testBit,simprocAttr,-Int.reduceNatCast',hlen,r4],by simp only [sT.1,sC.1,qd,qc,Nat.testBit,simprocAttr,-Int.reduceNatCast',hlen,r18],by simp only [sT.1,sC.1,qd,qc,Nat.testBit,simprocAttr,-Int.reduceNatCast',hlen,r20],by simp only [sT.1,sC.1,qd,qc,Nat.testBit,simprocAttr,-Int.reduceNatCast',hlen,r24]⟩,qfW (M:=[]) e hA hB,List.Perm.refl _⟩
end Go.Proofs.YtnlhdflceelacaaGreatDoor.AE
