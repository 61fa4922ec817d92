/- A part of the proof: the abstract executor and what goes through it (part 36). No condition. -/
import Derived.Test.YtnlhdflceelacaaGreatDoorMq35
set_option maxRecDepth 100000
namespace Go.Proofs.YtnlhdflceelacaaGreatDoor.AE
open Go.AE
set_option maxHeartbeats 2000000 in
theorem qo7 {H:Nat→Option qg} {id N a m b mid n t en hb k:Nat} {P U1 U2 V1 V2 R:List El} {h:List qg} (ih:qjB H id k) (hk1:U1.length + V1.length ≤ k) (hk2:U2.length + V2.length ≤ k) (h1:U1.Pairwise leE) (h2:V1.Pairwise leE) (h3:U2.Pairwise leE) (h4:V2.Pairwise leE) (hx:∀x ∈ U1 ++ V1,∀y ∈ U2 ++ V2,leE x y)
  (hN:N = (P ++ (U1 ++ (U2 ++ (V1 ++ (V2 ++ R))))).length) (h100:N ≤ 100) (ha:a = P.length) (ht:t = a + U1.length) (hm:m = t + U2.length) (hen:en = m + V1.length) (hmid:mid = t + V1.length) (hb':b = en + V2.length) (hn:n = mid + m) (hl:qeo H id (P ++ (U1 ++ (U2 ++ (V1 ++ (V2 ++ R))))) h)
  {tt:List qa} (hlen:tt.length = 220) (r0:lkp tt 0 = .sl id 0 N N 5) (r1:lkp tt 1 = .int .i64 (a:Nat)) (r2:lkp tt 2 = .int .i64 (m:Nat)) (r3:lkp tt 3 = .int .i64 (b:Nat)) (r4:lkp tt 4 = qa1) (r18:lkp tt 18 = .int .i64 (mid:Nat)) (r19:lkp tt 19 = .int .i64 (n:Nat)) (r20:lkp tt 20 = .int .i64 (t:Nat)) :
  ∃tt' M',qy hb Wd (skC 8 qcl.code) ⟨tt,h,false⟩ = some (.nor,⟨tt',h.set id (.cells (row (P ++ (M' ++ R)))),false⟩)∧M'.Pairwise leE∧M'.Perm ((U1 ++ U2) ++ (V1 ++ V2)):=by
 have hNl:P.length + (U1.length + (U2.length + (V1.length + (V2.length + R.length)))) = N:=by rw [hN];simp
 have wen:IntKind.i64.wrap ((n:Int) - (t:Int)) = (en:Int):=by rw [qM (by omega) (by omega)];omega
 have e1:qy hb Wd (hdC (skC 8 qcl.code)) ⟨tt,h,false⟩ = some (.nor,⟨up (up (up (up tt 175 (.int .i64 (n:Nat))) 176 (.int .i64 (t:Nat))) 177 (.int .i64 (en:Nat))) 24 (.int .i64 (en:Nat)),h,false⟩):=by
  simp only [hdC,skC,qcl,sT.1,sC.1,qd,qc,Nat.testBit,simprocAttr,-Int.reduceNatCast',hlen,r19,r20,wen]
 have hr:qsk id N a m b mid t en (up (up (up (up tt 175 (.int .i64 (n:Nat))) 176 (.int .i64 (t:Nat))) 177 (.int .i64 (en:Nat))) 24 (.int .i64 (en:Nat))):=
  ⟨by simp only [qi,hlen],by simp only [sT.1,sC.1,qd,qc,Nat.testBit,simprocAttr,-Int.reduceNatCast',hlen,r0],by simp only [sT.1,sC.1,qd,qc,Nat.testBit,simprocAttr,-Int.reduceNatCast',hlen,r1],by simp only [sT.1,sC.1,qd,qc,Nat.testBit,simprocAttr,-Int.reduceNatCast',hlen,r2],by simp only [sT.1,sC.1,qd,qc,Nat.testBit,simprocAttr,-Int.reduceNatCast',hlen,r3],by simp only [sT.1,sC.1,qd,qc,Nat.testBit,simprocAttr,-Int.reduceNatCast',hlen,r4],by simp only [sT.1,sC.1,qd,qc,Nat.testBit,simprocAttr,-Int.reduceNatCast',hlen,r18],by simp only [sT.1,sC.1,qd,qc,Nat.testBit,simprocAttr,-Int.reduceNatCast',hlen,r20],by simp only [sT.1,sC.1,qd,qc,Nat.testBit,simprocAttr,-Int.reduceNatCast',hlen]⟩
 have es1:P ++ (U1 ++ (U2 ++ (V1 ++ (V2 ++ R)))) = (P ++ U1) ++ (U2 ++ (V1 ++ (V2 ++ R))):=by simp
 rw [es1] at hl hN
 obtain ⟨tt1,e2,hr1⟩:=qru (hb:=hb) hN h100 (by simp;omega) (by simp;omega) (by simp;omega) hl hr
 have es2:(P ++ U1) ++ (V1 ++ (U2 ++ (V2 ++ R))) = P ++ (U1 ++ (V1 ++ (U2 ++ (V2 ++ R)))):=by simp
 have hl1:=hl.put (es':=P ++ (U1 ++ (V1 ++ (U2 ++ (V2 ++ R))))) (hl.good.perm fun e he=>by
  simp only [List.mem_append] at he ⊢
  rcases he with h | h | h | h | h | h <;> simp [h])
 rw [es2] at e2
 obtain ⟨tt2,L',e3,hr2,hs2,hp2⟩:=qnD (hb:=hb) ih hk1 h1 h2 (by rw [←hNl];simp;omega) h100 ha (by omega) (by omega) hl1 hr1
 rw [qaj] at e3
 have hLl:=hp2.length_eq
 rw [List.length_append] at hLl
 have es3:P ++ (L' ++ (U2 ++ (V2 ++ R))) = (P ++ L') ++ (U2 ++ (V2 ++ R)):=by simp
 have hl2:=hl.put (es':=(P ++ L') ++ (U2 ++ (V2 ++ R))) (hl.good.perm fun e he=>by
  simp only [List.mem_append] at he ⊢
  rcases he with (h | h) | h | h | h
  ·simp [h]
  ·have:=hp2.subset h
   simp only [List.mem_append] at this
   rcases this with h | h <;> simp [h]
  ·simp [h]
  ·simp [h]
  ·simp [h])
 rw [es3] at e3
 obtain ⟨tt3,R',e4,hr3,hs3,hp3⟩:=qk3 (hb:=hb) ih hk2 h3 h4 (by rw [←hNl];simp;omega) h100 (by simp;omega) (by simp;omega) (by simp;omega) hl2 hr2
 rw [qaj] at e4
 refine ⟨tt3,L' ++ R',?_,?_,?_⟩
 ·have es4:P ++ ((L' ++ R') ++ R) = (P ++ L') ++ (R' ++ R):=by simp
  rw [es4,←e4]
  have c8:skC 8 qcl.code = .seq (hdC (skC 8 qcl.code)) (.seq (hdC (skC 9 qcl.code)) (.seq (hdC (skC 10 qcl.code)) (skC 11 qcl.code))):=by kernel_rfl
  rw [c8,qdB,e1,qfj,qdB,e2,qfj,qdB,e3,qfj]
 ·refine List.pairwise_append.2 ⟨hs2,hs3,fun x hxL y hyR=>hx x (hp2.subset hxL) y (hp3.subset hyR)⟩
 ·refine (hp2.append hp3).trans ?_
  rw [List.append_assoc,List.append_assoc]
  refine List.Perm.append_left _ ?_
  rw [←List.append_assoc,←List.append_assoc]
  exact List.Perm.append_right _ List.perm_append_comm
theorem qe0 (n:Nat) (h:List qg) (hn:h.length = n):q6 n (.ret (.tup [])) h false = (.ret (.tup []),h,false):=by
 rw [qeZ]
 subst hn
 simp
set_option maxHeartbeats 4000000 in
theorem qrG {H:Nat→Option qg} {id k:Nat} (ih:qjB H id k):qjB H id (k + 1):=by
 intro P U V R N a m b h hk hU hV hsU hsV hN h100 ha hm hb hl
 have lU:=List.length_pos_iff.2 hU
 have lV:=List.length_pos_iff.2 hV
 have hNl:P.length + (U.length + (V.length + R.length)) = N:=by rw [hN];simp
 rcases Nat.lt_or_ge U.length 2 with hu | hu
 ·obtain ⟨u,rfl⟩:=List.length_eq_one_iff.1 (show U.length = 1 by omega)
  exact qrF hV hsV hN h100 ha (by simpa using hm) (by simpa using hb) hl
 rcases Nat.lt_or_ge V.length 2 with hv | hv
 ·obtain ⟨v,rfl⟩:=List.length_eq_one_iff.1 (show V.length = 1 by omega)
  exact qo6 hu hsU hN h100 ha hm (by simpa using hb) hl
 obtain ⟨mid,hmid⟩ :∃mid,mid = (a + b) / 2:=⟨_,rfl⟩
 obtain ⟨lo,hlo⟩ :∃lo,lo = if mid < m then mid + m - b else a:=⟨_,rfl⟩
 obtain ⟨hi,hhi⟩ :∃hi,hi = if mid < m then mid else m:=⟨_,rfl⟩
 have hrange:a ≤ lo∧lo ≤ hi∧hi ≤ m∧hi ≤ mid∧mid + m - b ≤ lo:=by
  rw [hlo,hhi]
  split <;> omega
 have hmidr:a < mid∧mid < b:=by omega
 have hEU:∀q (hq:q < U.length),E (P ++ (U ++ (V ++ R))) (a + q) = U[q].1:=fun q hq=>by rw [ha];exact E_U hq
 have hEV:∀q (hq:q < V.length),E (P ++ (U ++ (V ++ R))) (m + q) = V[q].1:=fun q hq=>by rw [hm];exact E_V hq
 obtain ⟨t,t1,t2,t3⟩:=qi4 (fun x=>¬ qbP (E (P ++ (U ++ (V ++ R))) (mid + m - 1 - x)) (E (P ++ (U ++ (V ++ R))) x) < 0) (hi - lo) lo hi (by omega) fun x y h1 h2 h3 hp=>by
  obtain ⟨q,rfl⟩ :∃q,x = a + q:=⟨x - a,by omega⟩
  obtain ⟨q',rfl⟩ :∃q,y = a + q:=⟨y - a,by omega⟩
  obtain ⟨z,hz⟩ :∃z,mid + m - 1 - (a + q) = m + z:=⟨mid + m - 1 - (a + q) - m,by omega⟩
  obtain ⟨z',hz'⟩ :∃z,mid + m - 1 - (a + q') = m + z:=⟨mid + m - 1 - (a + q') - m,by omega⟩
  rw [hz,hEU q (by omega),hEV z (by omega)]
  rw [hz',hEU q' (by omega),hEV z' (by omega)] at hp
  exact qel (qaz (qaB hsU (by omega) (by omega)) (qaz (qaH hp) (qaB hsV (by omega) (by omega))))
 have hS:=quk (hb:=h.length) hN h100 hl (a:=a) (m:=m) (b:=b) (mid:=mid) (n:=mid + m) (p:=mid + m - 1) (t:=t) (lo:=lo) (hi:=hi) (by omega) (by omega) (fun x h1 h2=>by omega) t3
 have hxx:=qyd hsU hsV (i:=t - a) (j:=mid - t) (by omega) (by omega)
  (by
   by_cases h0:t = lo
   ·by_cases hc:mid < m
    ·rw [if_pos hc] at hlo
     exact .inr (.inl (by omega))
    ·rw [if_neg hc] at hlo
     exact .inl (by omega)
   ·refine .inr (.inr ⟨by omega,by omega,?_⟩)
    have h3:=(t3 (t - 1) (by omega) (by omega)).2 (by omega)
    rw [show mid + m - 1 - (t - 1) = m + (mid - t) by omega,show t - 1 = a + (t - a - 1) by omega,hEU _ (by omega),hEV _ (by omega)] at h3
    exact qaH h3)
  (by
   by_cases h0:t = hi
   ·by_cases hc:mid < m
    ·rw [if_pos hc] at hhi
     exact .inl (by omega)
    ·rw [if_neg hc] at hhi
     exact .inr (.inl (by omega))
   ·refine .inr (.inr ⟨by omega,by omega,?_⟩)
    have h3:=t3 t (by omega) (by omega)
    rw [show mid + m - 1 - t = m + (mid - t - 1) by omega,show E (P ++ (U ++ (V ++ R))) t = U[t - a].1 by rw [←hEU (t - a) (by omega)];congr 1;omega,hEV _ (by omega)] at h3
    refine qgn (Decidable.byContradiction fun hh=>?_)
    have:=h3.1 hh
    omega)
 have hU12:U.take (t - a) ++ U.drop (t - a) = U:=List.take_append_drop ..
 have hV12:V.take (mid - t) ++ V.drop (mid - t) = V:=List.take_append_drop ..
 have lU1:(U.take (t - a)).length = t - a:=by rw [List.length_take];omega
 have lU2:(U.drop (t - a)).length = m - t:=by rw [List.length_drop];omega
 have lV1:(V.take (mid - t)).length = mid - t:=by rw [List.length_take];omega
 have lV2:(V.drop (mid - t)).length = b - (mid + m - t):=by rw [List.length_drop];omega
 have es:P ++ (U ++ (V ++ R)) = P ++ (U.take (t - a) ++ (U.drop (t - a) ++ (V.take (mid - t) ++ (V.drop (mid - t) ++ R)))):=by
  rw [←List.append_assoc (V.take (mid - t)),hV12,←List.append_assoc (U.take (t - a)),hU12]
 have sU:=hsU
 rw [←hU12,List.pairwise_append] at sU
 have sV:=hsV
 rw [←hV12,List.pairwise_append] at sV
 have hT:∀tt:List qa,tt.length = 220→lkp tt 0 = .sl id 0 N N 5→lkp tt 1 = .int .i64 (a:Nat)→lkp tt 2 = .int .i64 (m:Nat)→lkp tt 3 = .int .i64 (b:Nat)→lkp tt 4 = qa1→lkp tt 18 = .int .i64 (mid:Nat)→lkp tt 19 = .int .i64 (mid + m:Nat)→lkp tt 20 = .int .i64 (t:Nat)→
   ∃tt' M',qy h.length Wd (skC 8 qcl.code) ⟨tt,h,false⟩ = some (.nor,⟨tt',h.set id (.cells (row (P ++ (M' ++ R)))),false⟩)∧M'.Pairwise leE∧M'.Perm (U ++ V):=fun tt hlen r0 r1 r2 r3 r4 r18 r19 r20=>by
  have:=qo7 (hb:=h.length) (en:=mid + m - t) ih (U1:=U.take (t - a)) (U2:=U.drop (t - a)) (V1:=V.take (mid - t)) (V2:=V.drop (mid - t)) (by omega) (by omega) sU.1 sV.1 sU.2.1 sV.2.1 hxx (by rw [←es];exact hN) h100 ha (by omega) (by omega) (by omega) (by omega) (by omega) rfl (by rw [←es];exact hl) hlen r0 r1 r2 r3 r4 r18 r19 r20
  rw [hU12,hV12] at this
  exact this
 have hend:∀tt' M',qtg [] h (some (.nor,(⟨tt',h.set id (.cells (row (P ++ (M' ++ R)))),false⟩ :St))) = some (.ret (.tup []),h.set id (.cells (row (P ++ (M' ++ R)))),false):=fun tt' M'=>by
  rw [qi6]
  show some (q6 h.length (.ret (.tup [])) _ false) = _
  rw [qe0 _ _ (by simp)]
 have wA:IntKind.i64.wrap ((m:Int) - (a:Int)) = (U.length:Int):=by rw [qM (by omega) (by omega)];omega
 have oA:((U.length:Int) == 1) = false:=by rw [beq_eq_false_iff_ne];omega
 have wB:IntKind.i64.wrap ((b:Int) - (m:Int)) = (V.length:Int):=by rw [qM (by omega) (by omega)];omega
 have oB:((V.length:Int) == 1) = false:=by rw [beq_eq_false_iff_ne];omega
 have wC:IntKind.i64.wrap ((a:Int) + (b:Int)) = ((a + b:Nat):Int):=by rw [qM (by omega) (by omega)];omega
 have wD:=qjy (s:=a + b) (by omega)
 have sh:=qxV (a + b)
 rw [←hmid] at sh
 have wE:IntKind.i64.wrap (mid:Int) = (mid:Int):=qM (by omega) (by omega)
 have wF:IntKind.i64.wrap ((mid:Int) + (m:Int)) = ((mid + m:Nat):Int):=by rw [qM (by omega) (by omega)];omega
 have wG:IntKind.i64.wrap (((mid + m:Nat):Int) - (b:Int)) = ((mid + m - b:Nat):Int)∨¬ mid < m:=by
  by_cases hc:mid < m
  ·exact .inl (by rw [qM (by omega) (by omega)];omega)
  ·exact .inr hc
 have wH:IntKind.i64.wrap (((mid + m:Nat):Int) - 1) = ((mid + m - 1:Nat):Int):=by rw [qM (by omega) (by omega)];omega
 generalize hw:Wd _ _ h = w
 rw [qab rfl (show T.get 105 = some qcl by kernel_rfl)] at hw
 have c0:qcl.code = .seq (hdC qcl.code) (.seq (hdC (skC 1 qcl.code)) (.seq (hdC (skC 2 qcl.code)) (.seq (hdC (skC 3 qcl.code)) (.seq (hdC (skC 4 qcl.code)) (.seq (hdC (skC 5 qcl.code)) (.seq (hdC (skC 6 qcl.code)) (.seq (.block 8 (.loop qeh)) (skC 8 qcl.code)))))))):=by kernel_rfl
 rw [c0] at hw
 generalize hrest:skC 8 qcl.code = rest at hw hT
 generalize hL4:(qj.loop qeh) = L4 at hS hw
 by_cases hc:mid < m
 ·rw [if_pos hc] at hlo hhi
  have wG':IntKind.i64.wrap (((mid + m:Nat):Int) - (b:Int)) = ((mid + m - b:Nat):Int):=wG.resolve_right (fun h=>h hc)
  have cM:ilt (mid:Int) (m:Int) = true:=by rw [qr];simp;omega
  simp only [hdC,skC,qcl,sT.1,sC.1,qd,qc,Nat.testBit,simprocAttr,-Int.reduceNatCast',qA,qo,wA,oA,wB,oB,wC,wD,sh,wE,wF,wG',wH,cM] at hw
  generalize hr:qy h.length Wd L4 _ = r at hw
  obtain ⟨x,st',rfl,rfl,tt,rfl,ht,e0,e1,e2,e3,e4,e18,e19,e22,e20⟩:=qbU hr (hS (hi - lo) _ ⟨_,lo,hi,rfl,by simp only [sT.1,sC.1,qd,qc,Nat.testBit,simprocAttr,-Int.reduceNatCast'],by simp only [sT.1,sC.1,qd,qc,Nat.testBit,simprocAttr,-Int.reduceNatCast'],by simp only [sT.1,sC.1,qd,qc,Nat.testBit,simprocAttr,-Int.reduceNatCast'],by simp only [sT.1,sC.1,qd,qc,Nat.testBit,simprocAttr,-Int.reduceNatCast'],by simp only [sT.1,sC.1,qd,qc,Nat.testBit,simprocAttr,-Int.reduceNatCast'],by simp only [sT.1,sC.1,qd,qc,Nat.testBit,simprocAttr,-Int.reduceNatCast'],by simp only [sT.1,sC.1,qd,qc,Nat.testBit,simprocAttr,-Int.reduceNatCast'],by simp only [sT.1,sC.1,qd,qc,Nat.testBit,simprocAttr,-Int.reduceNatCast'],by simp only [sT.1,sC.1,qd,qc,Nat.testBit,simprocAttr,-Int.reduceNatCast'],by simp only [sT.1,sC.1,qd,qc,Nat.testBit,simprocAttr,-Int.reduceNatCast',hlo],by simp only [sT.1,sC.1,qd,qc,Nat.testBit,simprocAttr,-Int.reduceNatCast',hhi],Nat.le_refl _,t1,t2,Nat.le_refl _,rfl⟩)
  obtain ⟨tt',M',h1,h2,h3⟩:=hT tt ht e0 e1 e2 e3 e4 e18 e19 e20
  simp only [sT.1,sC.1,qd,qc,Nat.testBit,simprocAttr,-Int.reduceNatCast',h1,hend] at hw
  subst hw
  exact ⟨M',rfl,h2,h3⟩
 ·rw [if_neg hc] at hlo hhi
  have cM:ilt (mid:Int) (m:Int) = false:=by rw [qr];simp;omega
  simp only [hdC,skC,qcl,sT.1,sC.1,qd,qc,Nat.testBit,simprocAttr,-Int.reduceNatCast',qA,qo,wA,oA,wB,oB,wC,wD,sh,wE,wF,wH,cM] at hw
  generalize hr:qy h.length Wd L4 _ = r at hw
  obtain ⟨x,st',rfl,rfl,tt,rfl,ht,e0,e1,e2,e3,e4,e18,e19,e22,e20⟩:=qbU hr (hS (hi - lo) _ ⟨_,lo,hi,rfl,by simp only [sT.1,sC.1,qd,qc,Nat.testBit,simprocAttr,-Int.reduceNatCast'],by simp only [sT.1,sC.1,qd,qc,Nat.testBit,simprocAttr,-Int.reduceNatCast'],by simp only [sT.1,sC.1,qd,qc,Nat.testBit,simprocAttr,-Int.reduceNatCast'],by simp only [sT.1,sC.1,qd,qc,Nat.testBit,simprocAttr,-Int.reduceNatCast'],by simp only [sT.1,sC.1,qd,qc,Nat.testBit,simprocAttr,-Int.reduceNatCast'],by simp only [sT.1,sC.1,qd,qc,Nat.testBit,simprocAttr,-Int.reduceNatCast'],by simp only [sT.1,sC.1,qd,qc,Nat.testBit,simprocAttr,-Int.reduceNatCast'],by simp only [sT.1,sC.1,qd,qc,Nat.testBit,simprocAttr,-Int.reduceNatCast'],by simp only [sT.1,sC.1,qd,qc,Nat.testBit,simprocAttr,-Int.reduceNatCast'],by simp only [sT.1,sC.1,qd,qc,Nat.testBit,simprocAttr,-Int.reduceNatCast',hlo],by simp only [sT.1,sC.1,qd,qc,Nat.testBit,simprocAttr,-Int.reduceNatCast',hhi],Nat.le_refl _,t1,t2,Nat.le_refl _,rfl⟩)
  obtain ⟨tt',M',h1,h2,h3⟩:=hT tt ht e0 e1 e2 e3 e4 e18 e19 e20
  simp only [sT.1,sC.1,qd,qc,Nat.testBit,simprocAttr,-Int.reduceNatCast',h1,hend] at hw
  subst hw
  exact ⟨M',rfl,h2,h3⟩
theorem qsg {H:Nat→Option qg} {id:Nat}:∀k,qjB H id k
 | 0=>fun P U V R N a m b h hk hU=>absurd (List.length_eq_zero_iff.1 (show U.length = 0 by omega)) hU
 | k + 1=>qrG (qsg k)
end Go.Proofs.YtnlhdflceelacaaGreatDoor.AE
