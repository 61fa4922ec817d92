/- A part of the proof: the abstract executor and what goes through it (part 20). No condition. -/
import Derived.Test.YtnibchoenjmmjaaGreatDoorMq19
import Derived.Test.YtnibchoenjmmjaaGreatDoorMq11
import Derived.Test.YtnibchoenjmmjaaGreatDoorMq14
import Derived.Test.YtnibchoenjmmjaaGreatDoorMq15
import Derived.Test.YtnibchoenjmmjaaGreatDoorMq7
set_option maxRecDepth 100000
set_option maxHeartbeats 0
namespace Go.Proofs.YtnibchoenjmmjaaGreatDoor.AE
open Go.AE
structure qdP (W:Wl):Prop where
 fit:Fit 40 W.e
 siz:sz 40 W.e ≤ 600
 vl:W.N.vars.length ≤ 50
 pl:W.N.ports.length ≤ 50
 ol:W.N.oth.length ≤ 50
 ve:W.vals.length = W.N.vars.length
 be:W.bag.length = W.N.ports.length
 oe:W.ofv.length = W.N.oth.length
 ed:1 ≤ W.ed
 en:0 ≤ W.en
 vs:∀j (hj:j < W.vals.length) (hj':j < W.N.vars.length),tyB 3 W.N.vars[j].2.2 = true∧qdL W.vals[j] W.N.vars[j].2.2 = true
 os:∀j (hj:j < W.ofv.length) (hj':j < W.N.oth.length),tyB 3 W.N.oth[j].2.2 = true∧qdL W.ofv[j] W.N.oth[j].2.2 = true
 bs:∀j (hj:j < W.bag.length) (hj':j < W.N.ports.length),W.bag[j].length ≤ 100∧tyB 3 W.N.ports[j].2 = true∧∀v ∈ W.bag[j],qdL v W.N.ports[j].2 = true
 ty:(qiy W.N W.e).2 = 0
theorem qzV {W:Wl} (ve:W.vals.length = W.N.vars.length) (be:W.bag.length = W.N.ports.length) (oe:W.ofv.length = W.N.oth.length) (vl:W.N.vars.length ≤ 50) (pl:W.N.ports.length ≤ 50) (ol:W.N.oth.length ≤ 50)
  (vs:∀j (hj:j < W.vals.length) (hj':j < W.N.vars.length),tyB 3 W.N.vars[j].2.2 = true∧qdL W.vals[j] W.N.vars[j].2.2 = true)
  (os:∀j (hj:j < W.ofv.length) (hj':j < W.N.oth.length),tyB 3 W.N.oth[j].2.2 = true∧qdL W.ofv[j] W.N.oth[j].2.2 = true)
  (bs:∀j (hj:j < W.bag.length) (hj':j < W.N.ports.length),W.bag[j].length ≤ 100∧tyB 3 W.N.ports[j].2 = true∧∀v ∈ W.bag[j],qdL v W.N.ports[j].2 = true):qys W.N:=by
 refine ⟨fun x hx=>?_,fun x hx=>?_,fun x hx=>?_,by omega,by omega,by omega⟩
 ·obtain ⟨j,hj,rfl⟩:=List.getElem_of_mem hx
  exact qut (vs j (by omega) hj).1
 ·obtain ⟨j,hj,rfl⟩:=List.getElem_of_mem hx
  exact qut (bs j (by omega) hj).2.1
 ·obtain ⟨j,hj,rfl⟩:=List.getElem_of_mem hx
  exact qut (os j (by omega) hj).1
theorem qgg (op n:Int) (nm sb:Str) (L:List qa):qh4 5 [.int .i64 0,.int .i64 0,.str [],.str [],.lst [] .full] 1 [(0,.agg [.int .i64 op,.int .i64 n,.str nm,.str sb,.lst L .no])] = some (.lst [.agg [.int .i64 op,.int .i64 n,.str nm,.str sb,.lst L .no]] .full):=by kernel_rfl
theorem qdt (L:List qa):qh4 14 [.str [],.bool false,.lst [] .full,.lst [] .full,.lst [] .full,.lst [] .full,.lst [] .full,.lst [] .full,.lst [] .full,.int .i64 0,.lst [] .full,.lst [] .full,.lst [] .full,.lst [] .full] 1 [(0,.agg [.str [],.bool false,.lst [] .full,.lst [] .full,.lst [] .full,.lst L .full,.lst [] .full,.lst [] .full,.lst [] .full,.int .i64 0,.lst [] .full,.lst [] .full,.lst [] .full,.lst [] .full])] = some (.lst [.agg [.str [],.bool false,.lst [] .full,.lst [] .full,.lst [] .full,.lst L .full,.lst [] .full,.lst [] .full,.lst [] .full,.int .i64 0,.lst [] .full,.lst [] .full,.lst [] .full,.lst [] .full]] .full):=by kernel_rfl
section
variable {h:List qb}
theorem qmF (W:Wl):∃b,Wd (.fn 7 [] []) [wV W] h = some (.ret (.bool b),h,false)∧(b = true→qdP W):=by
 obtain ⟨⟨op,n,nm,sb,aS⟩,N,vals,bag,en,ed,ofv⟩:=W
 obtain ⟨r,hsm,hr01⟩:=qt9 (.mk op n nm sb aS) (h ++ [.cells [.int .i64 op,.int .i64 n,.str nm,.str sb,.lst (aS.map exV) .no,.lst (N.vars.map nvV) .no,.lst (N.ports.map npV) .no,.bool N.bagq,.lst (N.oth.map nvV) .no,.lst (vals.map qa7) .no,qal bag,.int .i64 en,.int .i64 ed,.lst (ofv.map qa7) .no]])
 have bl:qbb false (qal bag) = some (.int .i64 (bag.length:Nat)):=by rw [qal,qbb];simp
 have bd:(qal bag).dim = qal bag:=rfl
 have bw:∀i t,qx (qal bag) i t = t:=fun i t=>by rw [qal];rfl
 have bs:(qal bag).storable = true:=by rw [qal];kernel_rfl
 rw [qCX,qN] at hsm
 generalize hw:Wd _ _ h = w
 rw [wV,qel] at hw
 rw [qr rfl (show T.get 7 = some c7 by kernel_rfl)] at hw
 cases y0:(r == 0) with
 | true=>
  simp only [sA.1,c7,simprocAttr,-Int.reduceNatCast',qgg,qdt,hsm,bl,bd,bw,bs,y0] at hw
  subst hw
  exact ⟨false,rfl,fun h=>by cases h⟩
 | false=>
 cases y1:(ilt 50 (N.vars.length:Int)) with
 | true=>
  simp only [sA.1,c7,simprocAttr,-Int.reduceNatCast',qgg,qdt,hsm,bl,bd,bw,bs,y0,y1] at hw
  subst hw
  exact ⟨false,rfl,fun h=>by cases h⟩
 | false=>
 cases y2:(ilt 50 (N.ports.length:Int)) with
 | true=>
  simp only [sA.1,c7,simprocAttr,-Int.reduceNatCast',qgg,qdt,hsm,bl,bd,bw,bs,y0,y1,y2] at hw
  subst hw
  exact ⟨false,rfl,fun h=>by cases h⟩
 | false=>
 cases y3:(ilt 50 (N.oth.length:Int)) with
 | true=>
  simp only [sA.1,c7,simprocAttr,-Int.reduceNatCast',qgg,qdt,hsm,bl,bd,bw,bs,y0,y1,y2,y3] at hw
  subst hw
  exact ⟨false,rfl,fun h=>by cases h⟩
 | false=>
 cases y4:((vals.length:Int) == (N.vars.length:Int)) with
 | false=>
  simp only [sA.1,c7,simprocAttr,-Int.reduceNatCast',qgg,qdt,hsm,bl,bd,bw,bs,y0,y1,y2,y3,y4] at hw
  subst hw
  exact ⟨false,rfl,fun h=>by cases h⟩
 | true=>
 cases y5:((bag.length:Int) == (N.ports.length:Int)) with
 | false=>
  simp only [sA.1,c7,simprocAttr,-Int.reduceNatCast',qgg,qdt,hsm,bl,bd,bw,bs,y0,y1,y2,y3,y4,y5] at hw
  subst hw
  exact ⟨false,rfl,fun h=>by cases h⟩
 | true=>
 cases y6:((ofv.length:Int) == (N.oth.length:Int)) with
 | false=>
  simp only [sA.1,c7,simprocAttr,-Int.reduceNatCast',qgg,qdt,hsm,bl,bd,bw,bs,y0,y1,y2,y3,y4,y5,y6] at hw
  subst hw
  exact ⟨false,rfl,fun h=>by cases h⟩
 | true=>
 cases y7:(ilt ed 1) with
 | true=>
  simp only [sA.1,c7,simprocAttr,-Int.reduceNatCast',qgg,qdt,hsm,bl,bd,bw,bs,y0,y1,y2,y3,y4,y5,y6,y7] at hw
  subst hw
  exact ⟨false,rfl,fun h=>by cases h⟩
 | false=>
 cases y8:(ilt en 0) with
 | true=>
  simp only [sA.1,c7,simprocAttr,-Int.reduceNatCast',qgg,qdt,hsm,bl,bd,bw,bs,y0,y1,y2,y3,y4,y5,y6,y7,y8] at hw
  subst hw
  exact ⟨false,rfl,fun h=>by cases h⟩
 | false=>
 have hr1:Fit 40 (.mk op n nm sb aS)∧sz 40 (.mk op n nm sb aS) ≤ 600:=by
  rcases hr01 with rfl | ⟨_,h1,h2⟩
  ·cases y0
  ·exact ⟨h1,h2⟩
 have d1:N.vars.length ≤ 50:=by rw [qf] at y1;simp at y1;omega
 have d2:N.ports.length ≤ 50:=by rw [qf] at y2;simp at y2;omega
 have d3:N.oth.length ≤ 50:=by rw [qf] at y3;simp at y3;omega
 have d4:vals.length = N.vars.length:=by have:=beq_iff_eq.1 y4;omega
 have d5:bag.length = N.ports.length:=by have:=beq_iff_eq.1 y5;omega
 have d6:ofv.length = N.oth.length:=by have:=beq_iff_eq.1 y6;omega
 have d7:1 ≤ ed:=by rw [qf] at y7;simpa using y7
 have d8:0 ≤ en:=by rw [qf] at y8;simpa using y8
 simp only [sA.1,c7,simprocAttr,-Int.reduceNatCast',qgg,qdt,hsm,bl,bd,bw,bs,y0,y1,y2,y3,y4,y5,y6,y7,y8] at hw
 generalize hr:qm h.length Wd (.loop quT) _ = r at hw
 obtain ⟨x,st',rfl,tt,rfl,ht,e1,⟨rfl,hv⟩ | ⟨rfl,e2⟩⟩:=qaB hr (qmG (h:=h) op n nm sb aS N vals bag en ed ofv d4 (by omega) _ rfl vals.length _ ⟨_,0,rfl,by simp only [sA.1,simprocAttr,-Int.reduceNatCast'],by simp only [sA.1,simprocAttr,-Int.reduceNatCast'],by simp only [sA.1,simprocAttr,-Int.reduceNatCast',Int.natCast_zero],by omega,fun j _ _ h=>by omega⟩)
 ·simp only [sA.1,simprocAttr,-Int.reduceNatCast',ht,e1] at hw
  generalize hr:qm h.length Wd (.loop quU) _ = r at hw
  obtain ⟨x,st',rfl,tt,rfl,ht,e1,⟨rfl,ho⟩ | ⟨rfl,e2⟩⟩:=qaB hr (qqR (h:=h) op n nm sb aS N vals bag en ed ofv d6 (by omega) _ rfl ofv.length _ ⟨_,0,rfl,by simp only [sA.1,simprocAttr,-Int.reduceNatCast',ht],by simp only [sA.1,simprocAttr,-Int.reduceNatCast',ht,e1],by simp only [sA.1,simprocAttr,-Int.reduceNatCast',ht,Int.natCast_zero],by omega,fun j _ _ h=>by omega⟩)
  ·simp only [sA.1,simprocAttr,-Int.reduceNatCast',ht,e1] at hw
   generalize hr:qm h.length Wd (.loop quV) _ = r at hw
   obtain ⟨x,st',rfl,tt,rfl,ht,e1,⟨rfl,hb⟩ | ⟨rfl,e2⟩⟩:=qaB hr (qqQ (h:=h) op n nm sb aS N vals bag en ed ofv d5 (by omega) _ rfl bag.length _ ⟨_,0,rfl,by simp only [sA.1,simprocAttr,-Int.reduceNatCast',ht],by simp only [sA.1,simprocAttr,-Int.reduceNatCast',ht,e1],by simp only [sA.1,simprocAttr,-Int.reduceNatCast',ht,Int.natCast_zero],by omega,fun j _ _ h=>by omega⟩)
   ·have hN:qys N:=qzV (W:=⟨.mk op n nm sb aS,N,vals,bag,en,ed,ofv⟩) d4 d5 d6 d1 d2 d3 hv ho hb
    obtain ⟨rs,m,hty,hta⟩:=qvh N hN (.mk op n nm sb aS) ⟨40,hr1.1⟩ (h ++ [.cells [.int .i64 op,.int .i64 n,.str nm,.str sb,.lst (aS.map exV) .no,.lst (N.vars.map nvV) .no,.lst (N.ports.map npV) .no,.bool N.bagq,.lst (N.oth.map nvV) .no,.lst (vals.map qa7) .no,qal bag,.int .i64 en,.int .i64 ed,.lst (ofv.map qa7) .no]])
    obtain ⟨kk,LL,rfl,ld,lsb,lw⟩:=hta.two
    rw [qN,qfb] at hty
    have hB:Nat.ble h.length (h.length + (m.length + 1)) = true:=qi (by omega)
    have fin:(qiy N (.mk op n nm sb aS)).2 = 0→qdP ⟨.mk op n nm sb aS,N,vals,bag,en,ed,ofv⟩:=fun hz=>⟨hr1.1,hr1.2,d1,d2,d3,d4,d5,d6,d7,d8,hv,ho,hb,hz⟩
    generalize (qiy N (.mk op n nm sb aS)).2 = f at *
    simp only [sA.1,simprocAttr,-Int.reduceNatCast',ht,e1,hty,ld,lsb,lw,hB] at hw
    subst hw
    exact ⟨f == 0,rfl,fun hf=>fin (by simpa using hf)⟩
   ·simp only [sA.1,simprocAttr,-Int.reduceNatCast',ht,e2] at hw
    subst hw
    exact ⟨false,rfl,fun h=>by cases h⟩
  ·simp only [sA.1,simprocAttr,-Int.reduceNatCast',ht,e2] at hw
   subst hw
   exact ⟨false,rfl,fun h=>by cases h⟩
 ·simp only [sA.1,simprocAttr,-Int.reduceNatCast',ht,e2] at hw
  subst hw
  exact ⟨false,rfl,fun h=>by cases h⟩
end
def SlR (h:List qb) (b k:Nat) (rows:List (List qa)) (V:qa):Prop:=(rows = []∧V = .lst [] .full)∨∃id,V = .sl id 0 rows.length rows.length k∧b ≤ id∧rows ≠ []∧h[id]? = some (.cells rows.flatten)
theorem SlR.facts {h:List qb} {b k:Nat} {rows:List (List qa)} {V:qa} (hV:SlR h b k rows V):V.dim = V∧V.storable = true∧(∀i t,qx V i t = t)∧qbb false V = some (.int .i64 (rows.length:Nat))∧V.cells = [V]:=by
 rcases hV with ⟨rfl,rfl⟩ | ⟨id,rfl,_⟩ <;> exact ⟨rfl,rfl,fun _ _=>rfl,rfl,rfl⟩
theorem SlR.keep {h h':List qb} {b k:Nat} {rows:List (List qa)} {V:qa} (hV:SlR h b k rows V) (hg:∀i,b ≤ i→i < h.length→h'[i]? = h[i]?):SlR h' b k rows V:=by
 rcases hV with h1 | ⟨id,rfl,h1,h2,h3⟩
 ·exact .inl h1
 ·exact .inr ⟨id,rfl,h1,h2,by rw [hg id h1 (List.getElem?_eq_some_iff.1 h3).1];exact h3⟩
theorem SlR.next {h:List qb} {b k base:Nat} {rows:List (List qa)} {V:qa} (hV:SlR h b k rows V) (hb:b ≤ h.length) (hl:rows.length ≤ 100000) (hk:k ≠ 0) (hr:∀r ∈ rows,r.length = k∧qbl r) {row:List qa} (h1:row.length = k) (h2:qbl row) :
  ∃V' h',hop base (.app k) [V,.sl h.length 0 1 1 0] (h ++ [.cells row]) = some (V',h',false)∧SlR h' b k (rows ++ [row]) V'∧h'.length = h.length + 2∧∀i,i < h.length→(∀id a c d e,V = .sl id a c d e→i ≠ id)→h'[i]? = h[i]?:=by
 have g2:(h ++ [qb.cells row])[h.length]? = some (.cells row):=by rw [qQ];rfl
 have hlen:(h ++ [qb.cells row]).length = h.length + 1:=by simp
 rcases hV with ⟨rfl,rfl⟩ | ⟨id,rfl,hid,hne,hi⟩
 ·refine ⟨_,_,qbx g2 h1 h2,.inr ⟨_,rfl,by omega,by simp,?_⟩,by simp,fun i hi _=>?_⟩
  ·rw [qQ];simp
  ·rw [List.append_assoc,List.getElem?_append_left hi]
 ·have hlt:id < h.length:=(List.getElem?_eq_some_iff.1 hi).1
  have hi2:(h ++ [qb.cells row])[id]? = some (.cells rows.flatten):=by rw [List.getElem?_append_left hlt];exact hi
  have hc:rows.flatten.length = rows.length * k:=qbG fun v hv=>(hr v hv).1
  have hst:qbl rows.flatten:=fun c hcx=>by
   obtain ⟨r,hr',hcr⟩:=List.mem_flatten.1 hcx
   exact (hr r hr').2 c hcr
  refine ⟨_,_,qbY hi2 g2 h1 hc h2 hst hl hk,.inr ⟨(h ++ [qb.cells row]).length,by simp,by omega,by simp,?_⟩,by simp,fun i hi hne'=>?_⟩
  ·rw [show (h ++ [qb.cells row]).length = ((h ++ [qb.cells row]).set id .dead).length by simp,qQ]
   simp
  ·rw [List.getElem?_append_left (by simp;omega),List.getElem?_set_ne (by have:=hne' _ _ _ _ _ rfl;omega),List.getElem?_append_left hi]
def qm4 (x:Str×Str×Tp):Vr:=⟨[],x.2.1,qas x.2.2,(qds x.2.2).map tpV⟩
def qAT (x:Str×Tp):Pt:=⟨x.1,qas x.2,(qds x.2).map tpV⟩
theorem qtV (l:List (Str×Tp)):l.map npV = (l.map qAT).map ptV:=by
 rw [List.map_map]
 refine List.map_congr_left fun x _=>?_
 obtain ⟨s,k,l'⟩:=x
 simp [npV,qai,ptV,qAT,qas,qds]
section
variable {h:List qb}
theorem qCV (base:Nat) (b:Str) (k:Int) (L:List qa) (h:List qb):hop base (.lit 4 [.str [],.str [],.int .i64 0,.lst [] .full] 1 [0]) [.agg [.str [],.str b,.int .i64 k,.lst L .no]] h = some (.sl h.length 0 1 1 0,h ++ [.cells [.str [],.str b,.int .i64 k,.lst L .no]],false):=qFB base [] b k L h
theorem qmR (W:Wl) (hl:W.N.vars.length ≤ 50) :
  ∀k st,(∃(tt:List qa) (G:List qb) (i:Nat) (V:qa),st = ⟨tt,G,false⟩∧tt.length = 38∧lkp tt 1 = .ptr h.length 0∧lkp tt 3 = V∧lkp tt 4 = .int .i64 (i:Nat)∧i + k = W.N.vars.length∧(∀j,j < h.length + 1→G[j]? = (h ++ [.cells (wC W)])[j]?)∧h.length + 1 ≤ G.length∧SlR G (h.length + 1) 4 (((W.N.vars.take i).map qm4).map vrR) V)→
   ∃x st',qm h.length Wd (.loop qyA) st = some (x,st')∧(∃(tt:List qa) (G:List qb) (V:qa),st' = ⟨tt,G,false⟩∧tt.length = 38∧lkp tt 1 = .ptr h.length 0∧lkp tt 3 = V∧(∀j,j < h.length + 1→G[j]? = (h ++ [.cells (wC W)])[j]?)∧h.length + 1 ≤ G.length∧SlR G (h.length + 1) 4 ((W.N.vars.map qm4).map vrR) V∧x = .exit 0):=by
 obtain ⟨⟨op,n,nm,sb,aS⟩,N,vals,bag,en,ed,ofv⟩:=W
 refine qD _ _ ?_
 rintro k st ⟨tt,G,i,V,rfl,ht,e1,e3,e4,hik,hG,hGl,hV⟩
 generalize he:qm h.length Wd qyA _ = r
 obtain ⟨vd,vs,vw,_,vc⟩:=hV.facts
 have b0:G[h.length]? = some (.cells (wC ⟨.mk op n nm sb aS,N,vals,bag,en,ed,ofv⟩)):=by rw [hG _ (by omega),qQ];rfl
 rw [qel] at b0
 have l0:h.length < G.length:=by omega
 simp only at hik hl
 rcases Nat.lt_or_ge i N.vars.length with hi | hi
 ·have cq1:ilt (i:Int) (N.vars.length:Int) = true:=by rw [qf];simp;omega
  have w:=q9 (n:=i) (by omega)
  have x1:=qlT hi
  have hx:qm4 N.vars[i] = qm4 N.vars[i]:=rfl
  obtain ⟨V',G',hap,hV2,hG'l,hold⟩:=hV.next (base:=h.length) (row:=vrR (qm4 N.vars[i])) hGl (by simp;omega) (by omega) (fun r hr=>by
   obtain ⟨v,_,rfl⟩:=List.mem_map.1 hr
   exact ⟨rfl,qcn v⟩) rfl (qcn _)
  have htake:((N.vars.take i).map qm4).map vrR ++ [vrR (qm4 N.vars[i])] = ((N.vars.take (i + 1)).map qm4).map vrR:=by
   rw [List.take_succ_eq_append_getElem hi,List.map_append,List.map_append]
   rfl
  rw [htake] at hV2
  obtain ⟨vd',vs',vw',_,vc'⟩:=hV2.facts
  generalize N.vars[i] = q at *
  obtain ⟨qp,qn,qk,ql⟩:=q
  rw [qai] at x1
  simp only [qm4,vrR,qas,qds] at hap
  simp only [sA.1,qyA,simprocAttr,-Int.reduceNatCast',ht,e1,e3,e4,cq1,b0,l0,x1,vd,vs,vw,qCV,hap,vd',vw',w] at he
  subst he
  refine .inl ⟨_,k - 1,rfl,by omega,_,G',i + 1,V',rfl,by simp only [qc,ht],?_,?_,?_,by show i + 1 + (k - 1) = N.vars.length;omega,fun j hj=>?_,by omega,hV2⟩
  ·simp only [sA.1,simprocAttr,-Int.reduceNatCast',ht,e1]
  ·simp only [sA.1,simprocAttr,-Int.reduceNatCast',ht,vd']
  ·simp only [sA.1,simprocAttr,-Int.reduceNatCast',ht]
  ·rw [hold j (by omega) fun id a c d e' ev=>?_,hG j hj]
   rcases hV with ⟨_,hV⟩ | ⟨id',hV,h1,_⟩
   ·rw [hV] at ev;cases ev
   ·rw [hV] at ev;cases ev;omega
 ·have cq1:ilt (i:Int) (N.vars.length:Int) = false:=by rw [qf];simp;omega
  rw [List.take_of_length_le hi] at hV
  simp only [sA.1,qyA,simprocAttr,-Int.reduceNatCast',ht,e1,e4,cq1,b0,l0] at he
  subst he
  exact .inr ⟨_,_,rfl,by simp,_,G,V,rfl,by simp only [qc,ht],by simp only [sA.1,simprocAttr,-Int.reduceNatCast',ht,e1],by simp only [sA.1,simprocAttr,-Int.reduceNatCast',ht,e3],hG,hGl,hV,rfl⟩
theorem qme {vs:List Vr} {ps:List Pt} {V:qa} (b:Nat) (hb:b ≤ h.length) (hVb:∀id a c d e,V = .sl id a c d e→b ≤ id) (e:Exl) (hk:∃k,Fit k e) (hV:qho h vs V) (hr:right 20 e = true) (h0:0 < h.length) (hs:sz 20 e ≤ 10000) (hvl:vs.length ≤ 100000) (hpl:ps.length ≤ 100000) :
  ∃H' g' t' Tb',Wd (.fn 19 [] []) [exV e,V,.lst (ps.map ptV) .no] h = some (.ret Tb',g',true)∧Tab H' g' t' (low (vs.map (·.nm)) (ps.map (·.nm)) 20 0 e) Tb'∧h.length ≤ g'.length∧(∀i,i < h.length→g'[i]? = h[i]?)∧(∀i x,H' i = some x→b ≤ i)∧h.length ≤ t':=by
 have hx:=qBE e (h ++ [.cells e.enc]) hk
 have hVd:V.dim = V:=by rcases hV with ⟨_,rfl⟩ | ⟨id,rfl,_⟩ <;> rfl
 have hVs:V.storable = true:=by rcases hV with ⟨_,rfl⟩ | ⟨id,rfl,_⟩ <;> rfl
 have hVw:∀i t,qx V i t = t:=by rcases hV with ⟨_,rfl⟩ | ⟨id,rfl,_⟩ <;> exact fun _ _=>rfl
 have hVc:V.cells = [V]:=by rcases hV with ⟨_,rfl⟩ | ⟨id,rfl,_⟩ <;> rfl
 rw [hr] at hx
 have hd:=qeG _ _ hr
 obtain ⟨H,hH⟩ :∃H:Nat→Option qb,H = fun i=>if b ≤ i∧i < h.length then h[i]? else none:=⟨_,rfl⟩
 have hH1:∀i,b ≤ i→i < h.length→H i = h[i]?:=fun i hbi hi=>by rw [hH];exact if_pos ⟨hbi,hi⟩
 have hH3:∀i,i < b→H i = none:=fun i hi=>by rw [hH];exact if_neg (by omega)
 have hH2:∀i,h.length ≤ i→H i = none:=fun i hi=>by rw [hH];exact if_neg (by omega)
 have hcov:Cov H h:=fun i x hx=>by
  by_cases hi:i < h.length
  ·by_cases hbi:b ≤ i
   ·rw [←hH1 i hbi hi]
    exact hx
   ·rw [hH3 i (by omega)] at hx
    cases hx
  ·rw [hH2 i (by omega)] at hx
   cases hx
 have hVH:qgM H vs V:=by
  rcases hV with hV | ⟨id,e,hi⟩
  ·exact .inl hV
  ·exact .inr ⟨id,e,by rw [hH1 id (hVb _ _ _ _ _ e) (List.getElem?_eq_some_iff.1 hi).1];exact hi⟩
 have pre:Pre vs V (.lst (ps.map ptV) .no) (h.length + 1) H (h ++ [.cells e.enc,.cells [.lst [] .full,V,.lst (ps.map ptV) .no]]) h.length [] (.lst [] .full):=by
  refine ⟨⟨hcov.more _,hH2 _ (Nat.le_refl _),.inl ⟨rfl,rfl⟩⟩,?_,hH2 _ (by omega),by omega,by simp,hVH⟩
  rw [List.getElem?_append_right (by omega),show h.length + 1 - h.length = 1 by omega]
  rfl
 obtain ⟨H',g',t',Tb',ha,post⟩:=qEc vs ps V (h.length + 1) hvl hpl 20 e hk hd H _ h.length [] (.lst [] .full) (by simpa using hs) pre
 generalize (((([]:List Nd).length + (low (vs.map (·.nm)) (ps.map (·.nm)) 20 ([]:List Nd).length e).length:Nat):Int) - 1) = z at ha
 obtain ⟨hTd,hTs,hTw,_⟩:=post.pre.tab.facts
 have hbx:=post.pre.box
 have hk1:∀i,i < h.length→g'[i]? = h[i]?:=fun i hi=>by
  rw [post.keep i (by simp only [List.length_append,List.length_cons,List.length_nil];omega) (by omega) (by omega),List.getElem?_append_left hi]
 have hm:=post.more
 simp only [List.length_append,List.length_cons,List.length_nil] at hm
 have hbs:∀i x,H' i = some x→b ≤ i:=fun i x hx=>by
  by_cases hi:i < h.length + 2
  ·rw [post.told i (by simpa using hi)] at hx
   by_cases hbi:b ≤ i
   ·exact hbi
   ·rw [hH3 i (by omega)] at hx
    cases hx
  ·omega
 have hyo:=post.young
 simp only [List.length_append,List.length_cons,List.length_nil] at hyo
 refine ⟨H',g',t',Tb',?_,by simpa using post.pre.tab,by omega,hk1,hbs,by omega⟩
 obtain ⟨op,n,nm,sub,aS⟩:=e
 rw [qN,qci] at hx
 rw [qN,qci] at ha
 generalize hw:Wd _ _ h = w
 rw [qN,qr rfl (show T.get 19 = some c19 by kernel_rfl)] at hw
 simp only [sA.1,c19,simprocAttr,-Int.reduceNatCast',qaP,hx,ha,hbx,hVd,hVs,hVw,hVc,hTd,hTs,hTw,Bool.or_true] at hw
 subst hw
 exact congrArg some (qcc (n:=h.length) (by omega) _ _)
def wNs (W:Wl):List Nd:=low (W.N.vars.map (·.2.1)) (W.N.ports.map (·.1)) 20 0 W.e
theorem quj (W:Wl) (hR:qdP W) (h0:0 < h.length):∃g' Tb,Wd (.fn 9 [] []) [wV W] h = some (.ret Tb,g',true)∧(wNs W ≠ []→qcJ (qbV h.length g') (wNs W) Tb)∧h.length ≤ g'.length∧∀i,i < h.length→g'[i]? = h[i]?:=by
 have loop:=qmR (h:=h) W hR.vl
 have hfit:∃k,Fit k W.e:=⟨40,hR.fit⟩
 have hr20:right 20 W.e = true:=by
  have:=hR.ty
  rw [qiy] at this
  cases hq:right 20 W.e with
  | true=>rfl
  | false=>rw [hq] at this;cases this
 have hsz:sz 20 W.e ≤ 10000:=by
  have h1:sz 20 W.e ≤ sz 40 W.e:=qjY 20 W.e 20
  have:=hR.siz
  omega
 have hvn:(W.N.vars.map qm4).map (·.nm) = W.N.vars.map (·.2.1):=by rw [List.map_map];rfl
 have hpn:(W.N.ports.map qAT).map (·.nm) = W.N.ports.map (·.1):=by rw [List.map_map];rfl
 have hvl:=hR.vl
 have hpl:=hR.pl
 unfold wNs
 obtain ⟨⟨op,n,nm,sb,aS⟩,N,vals,bag,en,ed,ofv⟩:=W
 simp only at *
 simp only [qel] at loop
 generalize hw:Wd _ _ h = w
 rw [wV,qel] at hw
 rw [qr rfl (show T.get 9 = some c9 by kernel_rfl)] at hw
 have bs:(qal bag).storable = true:=by rw [qal];kernel_rfl
 have bd:(qal bag).dim = qal bag:=rfl
 simp only [sA.1,c9,simprocAttr,-Int.reduceNatCast',bs,bd] at hw
 generalize hr:qm h.length Wd (.loop qyA) _ = r at hw
 obtain ⟨x,st',rfl,tt,G,V,rfl,ht,e1,e3,hG,hGl,hV,rfl⟩:=qaB hr (loop N.vars.length _ ⟨_,_,0,.lst [] .full,rfl,by simp only [sA.1,simprocAttr,-Int.reduceNatCast'],by simp only [sA.1,simprocAttr,-Int.reduceNatCast'],by simp only [sA.1,simprocAttr,-Int.reduceNatCast'],by simp only [sA.1,simprocAttr,-Int.reduceNatCast',Int.natCast_zero],by omega,fun _ _=>rfl,by simp,.inl ⟨rfl,rfl⟩⟩)
 obtain ⟨vd,vs,vw,_,vc⟩:=hV.facts
 have b0:=hG h.length (by omega)
 rw [qQ] at b0
 simp only [List.getElem?_cons_zero] at b0
 have l0:h.length < G.length:=by omega
 have hVA:qho G (N.vars.map qm4) V:=by
  rcases hV with ⟨e,rfl⟩ | ⟨id,rfl,h1,h2,h3⟩
  ·exact .inl ⟨by simpa using e,rfl⟩
  ·exact .inr ⟨id,by simp,h3⟩
 have hVb:∀id a c d e,V = .sl id a c d e→h.length + 1 ≤ id:=fun id a c d e ev=>by
  rcases hV with ⟨_,hV⟩ | ⟨id',hV,h1,_⟩
  ·rw [hV] at ev;cases ev
  ·rw [hV] at ev;cases ev;exact h1
 obtain ⟨H',g',t',Tb,hlo,hTab,hg1,hg2,hbs,hyo⟩:=qme (h:=G) (h.length + 1) hGl hVb (vs:=N.vars.map qm4) (ps:=N.ports.map qAT) (V:=V) (.mk op n nm sb aS) hfit hVA hr20 (by omega) hsz (by simp;omega) (by simp;omega)
 rw [hvn,hpn] at hTab
 rw [←qtV,qN] at hlo
 obtain ⟨tbd,tbs,tbw,_⟩:=hTab.facts
 simp only [sA.1,simprocAttr,-Int.reduceNatCast',ht,e1,e3,b0,l0,vd,vw,hlo,tbd,tbw] at hw
 subst hw
 refine ⟨g',Tb,?_,fun hne=>?_,by omega,fun i hi=>by rw [hg2 i (by omega),hG i (by omega),List.getElem?_append_left hi]⟩
 ·rw [qcc (by omega)]
 ·rcases hTab with ⟨hcv,_,⟨e,_⟩ | ⟨rs,rfl,_,h3,h4⟩⟩
  ·exact absurd e hne
  ·exact ⟨t',rs,rfl,by rw [qY (by omega)];exact h3,h4.mono fun i x hx=>by rw [qY (by have:=hbs i x hx;omega)];exact hcv i x hx⟩
end
def wE (W:Wl):qcp:=⟨W.vals,W.bag,W.en,W.ed,(W.N.oth.zip W.ofv).map fun x=>(x.1.1,x.1.2.1,x.2)⟩
def qmo (x:Str×Str×Val):List qa:=.str x.1 :: .str x.2.1 :: x.2.2.enc
theorem qeC (x:Str×Str×Val):(qmo x).length = 6∧qbl (qmo x):=by
 obtain ⟨a,b,k,n,s,l⟩:=x
 rw [qmo,qch]
 refine ⟨rfl,fun c hc=>?_⟩
 simp only [List.mem_cons,List.not_mem_nil,or_false] at hc
 rcases hc with rfl | rfl | rfl | rfl | rfl | rfl <;> exact ⟨rfl,rfl⟩
theorem SlR.oth {g:List qb} {b:Nat} {l:List (Str×Str×Val)} {V:qa} (h:SlR g b 6 (l.map qmo) V) {H:Nat→Option qb} (hH:∀i,b ≤ i→i < g.length→H i = g[i]?):qcr H l V:=by
 refine ⟨l.map qmo,by simp,fun i h1 h2=>?_,?_⟩
 ·exact ⟨l[i].2.2.enc,by simp [qmo],At.arg _⟩
 ·rcases h with ⟨e,rfl⟩ | ⟨id,rfl,h1,_,h3⟩
  ·exact .inl ⟨by simpa using e,rfl⟩
  ·exact .inr ⟨id,6,by simp,by rw [hH id h1 (List.getElem?_eq_some_iff.1 h3).1];exact h3⟩
section
variable {h:List qb}
theorem qzQ (base:Nat) (a b:Str) (k n:Int) (s:Str) (L:List qa) (h:List qb):hop base (.lit 6 [.str [],.str [],.int .i64 0,.int .i64 0,.str [],.lst [] .full] 1 [0]) [.agg [.str a,.str b,.int .i64 k,.int .i64 n,.str s,.lst L .no]] h = some (.sl h.length 0 1 1 0,h ++ [.cells [.str a,.str b,.int .i64 k,.int .i64 n,.str s,.lst L .no]],false):=by kernel_rfl
theorem qcM (b:List (List Val)):(qal b).dim = qal b∧(qal b).storable = true∧(∀i t,qx (qal b) i t = t)∧qbb false (qal b) = some (.int .i64 (b.length:Nat))∧(qal b).cells = [qal b]:=⟨rfl,by rw [qal];kernel_rfl,fun i t=>by rw [qal];rfl,by rw [qal,qbb];simp,rfl⟩
theorem qsL (op n:Int) (nm sb:Str) (aS:List Exl) (N:Nms) (vals:List Val) (bag:List (List Val)) (en ed:Int) (ofv:List Val) (hl:ofv.length = N.oth.length) (hs:N.oth.length ≤ 50) (b1:qb) :
  ∀k st,(∃(tt:List qa) (G:List qb) (i:Nat) (V:qa),st = ⟨tt,G,false⟩∧tt.length = 45∧lkp tt 1 = .ptr h.length 0∧lkp tt 2 = .ptr (h.length + 1) 0∧lkp tt 3 = .ptr (h.length + 2) 0∧lkp tt 4 = .int .i64 (i:Nat)∧i + k = ofv.length∧(∀j,j < h.length + 2→G[j]? = (h ++ [.cells (wC ⟨.mk op n nm sb aS,N,vals,bag,en,ed,ofv⟩),b1])[j]?)∧G[h.length + 2]? = some (.cells [.lst (vals.map qa7) .no,qal bag,.int .i64 en,.int .i64 ed,V])∧h.length + 3 ≤ G.length∧SlR G (h.length + 3) 6 ((((N.oth.zip ofv).take i).map fun x=>(x.1.1,x.1.2.1,x.2)).map qmo) V)→
   ∃x st',qm h.length Wd (.loop qlV) st = some (x,st')∧(∃(tt:List qa) (G:List qb) (V:qa),st' = ⟨tt,G,false⟩∧tt.length = 45∧lkp tt 2 = .ptr (h.length + 1) 0∧lkp tt 3 = .ptr (h.length + 2) 0∧(∀j,j < h.length + 2→G[j]? = (h ++ [.cells (wC ⟨.mk op n nm sb aS,N,vals,bag,en,ed,ofv⟩),b1])[j]?)∧G[h.length + 2]? = some (.cells [.lst (vals.map qa7) .no,qal bag,.int .i64 en,.int .i64 ed,V])∧h.length + 3 ≤ G.length∧SlR G (h.length + 3) 6 (((N.oth.zip ofv).map fun x=>(x.1.1,x.1.2.1,x.2)).map qmo) V∧x = .exit 0):=by
 refine qD _ _ ?_
 rintro k st ⟨tt,G,i,V,rfl,ht,e1,e2,e3,e4,hik,hG,g2,hGl,hV⟩
 generalize he:qm h.length Wd qlV _ = r
 obtain ⟨vd,vs,vw,_,vc⟩:=hV.facts
 obtain ⟨bd,bs,bw,bl,bc⟩:=qcM bag
 have b0:=hG h.length (by omega)
 rw [qQ] at b0
 simp only [List.getElem?_cons_zero,qel] at b0
 have l0:h.length < G.length:=by omega
 have l2:h.length + 2 < G.length:=by omega
 have hB:Nat.ble h.length (h.length + 2) = true:=qi (by omega)
 have hzl:(N.oth.zip ofv).length = ofv.length:=by simp;omega
 rcases Nat.lt_or_ge i ofv.length with hi | hi
 ·have cq1:ilt (i:Int) (ofv.length:Int) = true:=by rw [qf];simp;omega
  have w:=q9 (n:=i) (by omega)
  have hi2:i < N.oth.length:=by omega
  have x1:=qlT hi2
  have x2:=qzy hi
  obtain ⟨V',G',hap,hV2,hG'l,hold⟩:=hV.next (base:=h.length) (row:=qmo (N.oth[i].1,N.oth[i].2.1,ofv[i])) hGl (by simp;omega) (by omega) (fun r hr=>by
   obtain ⟨v,_,rfl⟩:=List.mem_map.1 hr
   exact qeC v) (qeC _).1 (qeC _).2
  have htake:(((N.oth.zip ofv).take i).map fun x=>(x.1.1,x.1.2.1,x.2)).map qmo ++ [qmo (N.oth[i].1,N.oth[i].2.1,ofv[i])] = (((N.oth.zip ofv).take (i + 1)).map fun x=>(x.1.1,x.1.2.1,x.2)).map qmo:=by
   rw [List.take_succ_eq_append_getElem (by omega),List.map_append,List.map_append]
   simp
  rw [htake] at hV2
  obtain ⟨vd',vs',vw',_,vc'⟩:=hV2.facts
  have hne:∀j,j < h.length + 3→∀id a c d e,V = .sl id a c d e→j ≠ id:=fun j hj id a c d e' ev=>by
   rcases hV with ⟨_,hV⟩ | ⟨id',hV,h1,_⟩
   ·rw [hV] at ev;cases ev
   ·rw [hV] at ev;cases ev;omega
  have g2':G'[h.length + 2]? = some (.cells [.lst (vals.map qa7) .no,qal bag,.int .i64 en,.int .i64 ed,V]):=by rw [hold _ (by omega) (hne _ (by omega))];exact g2
  have l2':h.length + 2 < G'.length:=by omega
  generalize N.oth[i] = q at *
  generalize ofv[i] = v at *
  obtain ⟨qp,qn,qk,ql⟩:=q
  obtain ⟨vk,vn,vz,vl⟩:=v
  rw [qai] at x1
  rw [qch] at x2
  simp only [qmo,qch] at hap
  simp only [sA.1,qlV,simprocAttr,-Int.reduceNatCast',ht,e1,e3,e4,cq1,b0,l0,g2,l2,x1,x2,vd,vs,vw,vc,bd,bs,bw,bc,qzQ,hap,g2',l2',vd',vs',vw',hB,w] at he
  subst he
  have P1:∀(X:qb) j,j ≠ h.length + 2→(G'.set (h.length + 2) X)[j]? = G'[j]?:=fun X j hj=>by rw [List.getElem?_set_ne (by omega)]
  refine .inl ⟨_,k - 1,rfl,by omega,_,_,i + 1,V',rfl,by simp only [qc,ht],?_,?_,?_,?_,by omega,fun j hj=>?_,?_,?_,?_⟩
  ·simp only [sA.1,simprocAttr,-Int.reduceNatCast',ht,e1]
  ·simp only [sA.1,simprocAttr,-Int.reduceNatCast',ht,e2]
  ·simp only [sA.1,simprocAttr,-Int.reduceNatCast',ht,e3]
  ·simp only [sA.1,simprocAttr,-Int.reduceNatCast',ht]
  ·rw [P1 _ j (by omega),hold j (by omega) (hne j (by omega)),hG j hj]
  ·rw [List.getElem?_set_self l2']
  ·simp;omega
  ·exact hV2.keep fun j h1 h2=>P1 _ j (by omega)
 ·have cq1:ilt (i:Int) (ofv.length:Int) = false:=by rw [qf];simp;omega
  rw [List.take_of_length_le (by omega)] at hV
  simp only [sA.1,qlV,simprocAttr,-Int.reduceNatCast',ht,e1,e4,cq1,b0,l0] at he
  subst he
  refine .inr ⟨_,_,rfl,by simp,_,G,V,rfl,by simp only [qc,ht],?_,?_,hG,g2,hGl,hV,rfl⟩
  all_goals simp only [sA.1,simprocAttr,-Int.reduceNatCast',ht,e2,e3]
theorem qzc (W:Wl) (hl:W.ofv.length = W.N.oth.length) (hs:W.N.oth.length ≤ 50):∃OL m,Wd (.fn 10 [] []) [wV W] h = some (.ret (.agg [.lst (W.vals.map qa7) .no,qal W.bag,.int .i64 W.en,.int .i64 W.ed,OL]),h ++ m,false)∧qcr (qbV h.length (h ++ m)) (wE W).oth OL:=by
 obtain ⟨⟨op,n,nm,sb,aS⟩,N,vals,bag,en,ed,ofv⟩:=W
 simp only [wE] at *
 obtain ⟨bd,bs,bw,bl,bc⟩:=qcM bag
 have loop:=qsL (h:=h) op n nm sb aS N vals bag en ed ofv hl hs (.cells [.lst [] .full,.lst [] .full,.int .i64 0,.int .i64 0,.lst [] .full])
 simp only [qel] at loop
 generalize hw:Wd _ _ h = w
 rw [wV,qel] at hw
 rw [qr rfl (show T.get 10 = some c10 by kernel_rfl)] at hw
 have hB2:Nat.ble h.length (h.length + 2) = true:=qi (by omega)
 simp only [sA.1,c10,simprocAttr,-Int.reduceNatCast',bd,bs,bw,bc,hB2] at hw
 generalize hr:qm h.length Wd (.loop qlV) _ = r at hw
 obtain ⟨x,st',rfl,tt,G,V,rfl,ht,e2,e3,hG,g2,hGl,hV,rfl⟩:=qaB hr (loop ofv.length _ ⟨_,_,0,.lst [] .full,rfl,by simp only [sA.1,simprocAttr,-Int.reduceNatCast'],by simp only [sA.1,simprocAttr,-Int.reduceNatCast'],by simp only [sA.1,simprocAttr,-Int.reduceNatCast'],by simp only [sA.1,simprocAttr,-Int.reduceNatCast'],by simp only [sA.1,simprocAttr,-Int.reduceNatCast',Int.natCast_zero],by omega,fun j hj=>by
  rcases Nat.lt_or_ge j h.length with h1 | h1
  ·rw [List.getElem?_append_left h1,List.getElem?_append_left h1]
  ·obtain ⟨q,rfl⟩ :∃q,j = h.length + q:=⟨j - h.length,by omega⟩
   rw [List.getElem?_append_right (by omega),List.getElem?_append_right (by omega),Nat.add_sub_cancel_left]
   have:q = 0∨q = 1:=by omega
   rcases this with rfl | rfl <;> rfl,by
  rw [List.getElem?_append_right (by omega),Nat.add_sub_cancel_left]
  rfl,by simp,.inl ⟨rfl,rfl⟩⟩)
 case _=>
  obtain ⟨vd,vs,vw,_,vc⟩:=hV.facts
  have hB:Nat.ble h.length (h.length + 1) = true:=qi (by omega)
  have b1:=hG (h.length + 1) (by omega)
  rw [List.getElem?_append_right (by omega),Nat.add_sub_cancel_left] at b1
  simp only [List.getElem?_cons_succ,List.getElem?_cons_zero] at b1
  have l1:h.length + 1 < G.length:=by omega
  have l2:h.length + 2 < G.length:=by omega
  simp only [sA.1,simprocAttr,-Int.reduceNatCast',ht,e2,e3,b1,g2,l1,l2,vd,vs,vw,vc,bd,bs,bw,bc,hB] at hw
  subst hw
  have tk:G.take h.length = h:=by
   apply List.ext_getElem?
   intro i
   rw [List.getElem?_take]
   split
   ·rw [hG i (by omega),List.getElem?_append_left ‹_›]
   ·rw [List.getElem?_eq_none (by omega)]
  obtain ⟨m,hm,hm2⟩:=qK (v:=.agg [.lst (vals.map qa7) .no,qal bag,.int .i64 en,.int .i64 ed,V]) (g:=h) (G:=G.set (h.length + 1) (.cells [.lst (vals.map qa7) .no,qal bag,.int .i64 en,.int .i64 ed,V])) (by rw [List.take_set_of_le (by omega),tk])
  refine ⟨V,m,congrArg some hm,?_⟩
  rcases hV with ⟨e,rfl⟩ | ⟨id,rfl,h1,h2,h3⟩
  ·exact SlR.oth (g:=[]) (b:=0) (.inl ⟨e,rfl⟩) fun i _ h=>by simp at h
  ·have hgm:=hm2 (by
    simp only [qa.lower,qv,qcN (show h.length ≤ id by omega),Bool.false_and,Bool.and_false])
   exact SlR.oth (g:=G) (b:=h.length + 3) (.inr ⟨id,rfl,h1,h2,h3⟩) fun i hi hi2=>by
    rw [qY (by omega),hgm,List.getElem?_set_ne (by omega)]
end
def okX:Nat→Exl→Prop
 | 0,_=>True
 | d + 1,.mk _ n _ _ aS=>I64 n∧∀a ∈ aS,okX d a
def NdP (b j:Nat) (nd:Nd):Prop:=(Cho nd.op nd.ins∨qiI nd.op nd.ins.length)∧(∀x ∈ nd.ins,(b:Int) ≤ x∧x < (b + j:Nat))∧I64 nd.n
def qm5 (b:Nat) (ns:List Nd):Prop:=∀j (h:j < ns.length),NdP b j ns[j]
theorem qzg {vn pn:List Str} (op n:Int) (nm sb:Str) (ins:List Int):(fin vn pn op n nm sb ins).op = op∧(fin vn pn op n nm sb ins).n = n∧(fin vn pn op n nm sb ins).ins = ins:=by
 unfold fin
 cases op == 3 <;> cases op == 4 <;> cases op == 5 <;> cases op == 7 <;> cases op == 8 <;> cases op == 9 <;> cases op == 10 <;> exact ⟨rfl,rfl,rfl⟩
theorem qm5.app {b:Nat} {out l:List Nd} (h:qm5 b out) (hl:qm5 (b + out.length) l):qm5 b (out ++ l):=fun j hj=>by
 by_cases h1:j < out.length
 ·rw [List.getElem_append_left h1];exact h j h1
 ·rw [List.getElem_append_right (by omega)]
  simp at hj
  obtain ⟨q1,q2,q3⟩:=hl (j - out.length) (by omega)
  exact ⟨q1,fun x hx=>by have:=q2 x hx;omega,q3⟩
theorem qm5.snoc {b:Nat} {out:List Nd} {nd:Nd} (h:qm5 b out) (hn:NdP b out.length nd):qm5 b (out ++ [nd]):=fun j hj=>by
 by_cases h1:j < out.length
 ·rw [List.getElem_append_left h1];exact h j h1
 ·have:j = out.length:=by simp at hj;omega
  subst this
  rw [List.getElem_append_right (by omega)]
  simpa using hn
theorem qko {f:Nat→Exl→List Nd} (b:Nat):∀(aS:List Exl) (out:List Nd) (ins:List Int),(∀a ∈ aS,∀c,qm5 c (f c a)∧0 < (f c a).length)→qm5 b out→(∀x ∈ ins,(b:Int) ≤ x∧x < (b + out.length:Nat))→
  qm5 b (qbz f b aS out ins).1∧(∀x ∈ (qbz f b aS out ins).2,(b:Int) ≤ x∧x < (b + (qbz f b aS out ins).1.length:Nat))∧(qbz f b aS out ins).2.length = ins.length + aS.length
 | [],out,ins,_,ho,hi=>by rw [qbz];exact ⟨ho,hi,by simp⟩
 | a :: aS,out,ins,ha,ho,hi=>by
  obtain ⟨h1,h2⟩:=ha a (List.mem_cons_self ..) (b + out.length)
  rw [qbz]
  obtain ⟨r1,r2,r3⟩:=qko b aS (out ++ f (b + out.length) a) (ins ++ [((b + (out ++ f (b + out.length) a).length:Nat):Int) - 1]) (fun x hx=>ha x (List.mem_cons_of_mem _ hx)) (ho.app h1) (fun x hx=>by
   rw [List.length_append]
   rcases List.mem_append.1 hx with hx | hx
   ·have:=hi x hx;omega
   ·rw [List.mem_singleton.1 hx,List.length_append];omega)
  exact ⟨r1,r2,by rw [r3];simp;omega⟩
theorem qyH {op:Int} {ins:List Int} (h:KA op ins.length):Cho op ins∨qiI op ins.length:=by
 rcases h with ⟨rfl,h⟩ | ⟨rfl,h⟩ | ⟨rfl,h⟩ | h
 ·match ins,h with
  | [a,b,c],_=>exact .inl (.inl ⟨rfl,a,b,c,rfl⟩)
 ·match ins,h with
  | [a,b],_=>exact .inl (.inr (.inl ⟨rfl,a,b,rfl⟩))
 ·match ins,h with
  | [a,b],_=>exact .inl (.inr (.inr ⟨rfl,a,b,rfl⟩))
 ·exact .inr h
theorem qzR {vn pn:List Str}:∀(d:Nat) (e:Exl),right d e = true→okX d e→∀b,qm5 b (low vn pn d b e)∧0 < (low vn pn d b e).length
 | 0,e,h,_,_=>by rw [right] at h;cases h
 | d + 1,.mk op n nm sb aS,h,hx,b=>by
  rw [right,Bool.and_eq_true,List.all_eq_true] at h
  obtain ⟨g1,g2,g3⟩:=qko (f:=low vn pn d) b aS [] [] (fun a ha c=>qzR d a (h.2 a ha) (hx.2 a ha) c) (fun j hj=>by simp at hj) (fun x hx=>by cases hx)
  rw [low]
  generalize qbz (low vn pn d) b aS [] [] = gg at *
  obtain ⟨out,ins⟩:=gg
  simp only at *
  obtain ⟨f1,f2,f3⟩:=qzg (vn:=vn) (pn:=pn) op n nm sb ins
  refine ⟨g1.snoc ⟨?_,?_,?_⟩,by simp⟩
  ·rw [f1,f3]
   exact qyH (by rw [g3];simpa using (qjE h.1).1)
  ·rw [f3]
   exact g2
  ·rw [f2];exact hx.1
structure OkW (W:Wl):Prop where
 x:okX 20 W.e
 v:∀v ∈ W.vals,okV v
 b:∀l ∈ W.bag,∀v ∈ l,okV v
 o:∀v ∈ W.ofv,okV v
 t:I64 W.en∧I64 W.ed
theorem qdP.r20 {W:Wl} (h:qdP W):right 20 W.e = true:=by
 have:=h.ty
 rw [qiy] at this
 cases hq:right 20 W.e with
 | true=>rfl
 | false=>rw [hq] at this;cases this
theorem qiD {W:Wl} (h:qdP W) (ho:OkW W):qcz (wNs W)∧(∀nd ∈ wNs W,I64 nd.n)∧(wNs W).length ≤ 90000:=by
 obtain ⟨h1,h2⟩:=qzR (vn:=W.N.vars.map (·.2.1)) (pn:=W.N.ports.map (·.1)) 20 W.e h.r20 ho.x 0
 refine ⟨⟨List.length_pos_iff.1 h2,fun i hi=>?_⟩,fun nd hnd=>?_,?_⟩
 ·obtain ⟨a,b,_⟩:=h1 i hi
  exact ⟨a,fun x hx=>by have:=b x hx;omega⟩
 ·obtain ⟨i,hi,rfl⟩:=List.getElem_of_mem hnd
  exact (h1 i hi).2.2
 ·have e1:sz 20 W.e ≤ sz 40 W.e:=qjY 20 W.e 20
  have e2:=h.siz
  rw [wNs,qjz]
  omega
theorem quv {W:Wl} (h:qdP W) (ho:OkW W):qgH (wE W):=by
 refine ⟨⟨by show W.vals.length ≤ 1000;have:=h.vl;have:=h.ve;omega,by show W.bag.length ≤ 1000;have:=h.pl;have:=h.be;omega,by show ((W.N.oth.zip W.ofv).map _).length ≤ 1000;have:=h.ol;simp;omega,fun l hl=>?_⟩,ho.v,ho.b,fun x hx=>?_,ho.t⟩
 ·obtain ⟨j,hj,rfl⟩:=List.getElem_of_mem hl
  have hj:j < W.bag.length:=hj
  obtain ⟨b1,_,b3⟩:=h.bs j hj (by have:=h.be;omega)
  refine ⟨by show (W.bag[j]).length ≤ 200;omega,fun n hn=>?_,fun v hv=>(qi9 (b3 v hv)).1⟩
  obtain ⟨v,hv,rfl⟩:=List.mem_map.1 hn
  exact qfP (ho.b _ (List.getElem_mem hj) v hv)
 ·obtain ⟨y,hy,rfl⟩:=List.mem_map.1 hx
  exact ho.o _ (List.of_mem_zip hy).2
theorem SlR.nextN {h:List qb} {b k base:Nat} {rows:List (List qa)} {V:qa} (hV:SlR h b k rows V) (hb:b ≤ h.length) (hl:rows.length ≤ 100000) (hk:k ≠ 0) (hr:∀r ∈ rows,r.length = k∧qbl r) {row:List qa} (h1:row.length = k) (h2:qbl row) :
  ∃V' h',hop base (.app k) [V,.sl h.length 0 1 1 0] (h ++ [.cells row]) = some (V',h',false)∧SlR h' b k (rows ++ [row]) V'∧h'.length = h.length + 2∧(∀i,i < h.length→(∀id a c d e,V = .sl id a c d e→i ≠ id)→h'[i]? = h[i]?)∧∃a c d e,V' = .sl (h.length + 1) a c d e:=by
 have g2:(h ++ [qb.cells row])[h.length]? = some (.cells row):=by rw [qQ];rfl
 have hlen:(h ++ [qb.cells row]).length = h.length + 1:=by simp
 rcases hV with ⟨rfl,rfl⟩ | ⟨id,rfl,hid,hne,hi⟩
 ·refine ⟨_,_,qbx g2 h1 h2,.inr ⟨_,rfl,by omega,by simp,?_⟩,by simp,fun i hi _=>?_,?_⟩
  ·rw [qQ];simp
  ·rw [List.append_assoc,List.getElem?_append_left hi]
  ·rw [hlen];exact ⟨_,_,_,_,rfl⟩
 ·have hlt:id < h.length:=(List.getElem?_eq_some_iff.1 hi).1
  have hi2:(h ++ [qb.cells row])[id]? = some (.cells rows.flatten):=by rw [List.getElem?_append_left hlt];exact hi
  have hc:rows.flatten.length = rows.length * k:=qbG fun v hv=>(hr v hv).1
  have hst:qbl rows.flatten:=fun c hcx=>by
   obtain ⟨r,hr',hcr⟩:=List.mem_flatten.1 hcx
   exact (hr r hr').2 c hcr
  refine ⟨_,_,qbY hi2 g2 h1 hc h2 hst hl hk,.inr ⟨(h ++ [qb.cells row]).length,by simp,by omega,by simp,?_⟩,by simp,fun i hi hne'=>?_,?_⟩
  ·rw [show (h ++ [qb.cells row]).length = ((h ++ [qb.cells row]).set id .dead).length by simp,qQ]
   simp
  ·rw [List.getElem?_append_left (by simp;omega),List.getElem?_set_ne (by have:=hne' _ _ _ _ _ rfl;omega),List.getElem?_append_left hi]
  ·rw [hlen];exact ⟨_,_,_,_,rfl⟩
theorem qFD (base:Nat) (tb:qa) (hd:tb.dim = tb) (hs:tb.storable = true) (hc:tb.cells = [tb]) (h:List qb):hop base (.lit 1 [.lst [] .full] 1 [0]) [tb] h = some (.sl h.length 0 1 1 0,h ++ [.cells [tb]],false):=by
 simp [hop,qaK,splice,hs,hd,hc]
theorem qzz {l:List Wl} {i:Nat} (hi:i < l.length):qav 14 (.lst (l.map wV) .no) (.int .i64 (i:Nat)) = some (.iptr (wC l[i]) 0):=
 qaM (k:=14) (x:=wV l[i]) (by rw [List.getElem?_map,List.getElem?_eq_getElem hi];rfl) (by obtain ⟨⟨op,n,nm,sb,aS⟩,N,vals,bag,en,ed,ofv⟩:=l[i];rw [wV,qel];rfl)
structure Tbs (l:List Wl) (h:List qb) (i:Nat) (H:Nat→Option qb) (G:List qb) (rows:List (List qa)) (V:qa):Prop where
 cov:Cov H G
 bse:∀j x,H j = some x→h.length + 4 ≤ j
 own:∀id a c d e,V = .sl id a c d e→H id = none∧h.length + 4 ≤ id
 len:rows.length = i
 sl:SlR G (h.length + 4) 1 rows V
 row:∀(j:Nat) (h1:j < rows.length) (h2:j < l.length),qdP l[j]∧∃tb,rows[j] = [tb]∧tb.dim = tb∧tb.storable = true∧qcJ H (wNs l[j]) tb
def lb (l:List Wl) (stop:Int):List qb:=[.cells [.lst (l.map wV) .no],.cells [.int .u8 stop],.cells [.bool false]]
section
variable {h:List qb}
theorem qjZ {H:Nat→Option qb} {ns:List Nd} {V:qa} (h:qcJ H ns V):V.dim = V∧V.storable = true∧(∀i t,qx V i t = t)∧V.cells = [V]:=by
 obtain ⟨_,_,rfl,_⟩:=h
 exact ⟨rfl,rfl,fun _ _=>rfl,rfl⟩
theorem quq (l:List Wl) (stop:Int) (hl:l.length ≤ 10) (ho:∀W ∈ l,OkW W) :
  ∀k st,(∃(tt:List qa) (G:List qb) (i:Nat) (H:Nat→Option qb) (rows:List (List qa)) (V:qa) (e:Bool),st = ⟨tt,G,e⟩∧tt.length = 87∧lkp tt 2 = .ptr h.length 0∧lkp tt 3 = .ptr (h.length + 1) 0∧lkp tt 4 = .ptr (h.length + 2) 0∧lkp tt 5 = .ptr (h.length + 3) 0∧lkp tt 6 = .int .i64 (i:Nat)∧i + k = l.length∧h.length + 4 ≤ G.length∧(∀j,j < h.length + 3→G[j]? = (h ++ lb l stop)[j]?)∧G[h.length + 3]? = some (.cells [V])∧Tbs l h i H G rows V)→
   ∃x st',qm h.length Wd (.loop qw1) st = some (x,st')∧(∃(tt:List qa) (G:List qb) (e:Bool),st' = ⟨tt,G,e⟩∧tt.length = 87∧lkp tt 2 = .ptr h.length 0∧lkp tt 3 = .ptr (h.length + 1) 0∧lkp tt 4 = .ptr (h.length + 2) 0∧lkp tt 5 = .ptr (h.length + 3) 0∧h.length + 4 ≤ G.length∧((x = .exit 0∧∃H rows V,(∀j,j < h.length + 3→G[j]? = (h ++ lb l stop)[j]?)∧G[h.length + 3]? = some (.cells [V])∧Tbs l h l.length H G rows V)∨(x = .ret∧G[h.length + 2]? = some (.cells [.bool true])))):=by
 refine qD _ _ ?_
 rintro k st ⟨tt,G,i,H,rows,V,e0,rfl,ht,e2,e3,e4,e5,e6,hik,hGl,hG,gV,S⟩
 generalize he:qm h.length Wd qw1 _ = r
 obtain ⟨Vd,Vs,Vw,_,Vc⟩:=S.sl.facts
 have at':∀q,q < 3→G[h.length + q]? = (lb l stop)[q]?:=fun q hq=>by rw [hG _ (by omega),List.getElem?_append_right (by omega),Nat.add_sub_cancel_left]
 have b0:G[h.length]? = some (.cells [.lst (l.map wV) .no]):=at' 0 (by omega)
 have b2:G[h.length + 2]? = some (.cells [.bool false]):=at' 2 (by omega)
 have l0:h.length < G.length:=by omega
 have l2:h.length + 2 < G.length:=by omega
 have l3:h.length + 3 < G.length:=by omega
 have hB:Nat.ble h.length (h.length + 2) = true:=qi (by omega)
 have hB3:Nat.ble h.length (h.length + 3) = true:=qi (by omega)
 rcases Nat.lt_or_ge i l.length with hi | hi
 ·have cq1:ilt (i:Int) (l.length:Int) = true:=by rw [qf];simp;omega
  have w:=q9 (n:=i) (by omega)
  have x1:=qzz hi
  obtain ⟨rb,hrt,hrw⟩:=qmF (h:=G) l[i]
  have hok:=ho _ (List.getElem_mem hi)
  cases rb with
  | false=>
   obtain ⟨W,hW⟩ :∃W,W = l[i]:=⟨_,rfl⟩
   rw [←hW] at x1 hrt
   obtain ⟨⟨op,n,nm,sb,aS⟩,N,vals,bag,en,ed,ofv⟩:=W
   obtain ⟨bd,bs,bw,bl,bc⟩:=qcM bag
   rw [qel] at x1
   rw [wV,qel] at hrt
   simp only [sA.1,qw1,simprocAttr,-Int.reduceNatCast',ht,e2,e4,e6,cq1,b0,l0,x1,bd,bs,bw,bc,hrt,b2,l2,hB] at he
   subst he
   refine .inr ⟨_,_,rfl,by simp,_,_,_,rfl,by simp only [qc,ht],?_,?_,?_,?_,by simp;omega,.inr ⟨rfl,by rw [List.getElem?_set_self l2]⟩⟩
   all_goals simp only [sA.1,simprocAttr,-Int.reduceNatCast',ht,e2,e3,e4,e5]
  | true=>
   have hR:=hrw rfl
   obtain ⟨hS,_,_⟩:=qiD hR hok
   obtain ⟨g',Tb,htb,hta,hgl,hold⟩:=quj (h:=G) l[i] hR (by omega)
   have hta:=hta hS.1
   obtain ⟨td,ts,tw,tc⟩:=qjZ hta
   have hV1:SlR g' (h.length + 4) 1 rows V:=S.sl.keep fun j _ hj=>hold j hj
   have hrr:∀r ∈ rows,r.length = 1∧qbl r:=fun r hr=>by
    obtain ⟨j,hj,rfl⟩:=List.getElem_of_mem hr
    obtain ⟨_,tb,e,d1,d2,_⟩:=S.row j hj (by have:=S.len;omega)
    rw [e]
    exact ⟨rfl,fun c hc=>by rw [List.mem_singleton.1 hc];exact ⟨d1,d2⟩⟩
   obtain ⟨V',h',hap,hV2,hl',hold2,va,vb,vc,ve,hV'⟩:=hV1.nextN (base:=h.length) (row:=[Tb]) (by omega) (by have:=S.len;omega) (by omega) hrr rfl (fun c hc=>by rw [List.mem_singleton.1 hc];exact ⟨td,ts⟩)
   have hlit:=fun g=>qFD h.length Tb td ts tc g
   have hVf:V'.dim = V'∧V'.storable = true∧(∀i t,qx V' i t = t):=by rw [hV'];exact ⟨rfl,rfl,fun _ _=>rfl⟩
   obtain ⟨vd',vs',vw'⟩:=hVf
   have hlow:∀j,j < h.length + 4→h'[j]? = G[j]?:=fun j hj=>by
    rw [hold2 j (by omega) fun id a c d e ev=>by have:=(S.own id a c d e ev).2;omega,hold j (by omega)]
   have gV':h'[h.length + 3]? = some (.cells [V]):=by rw [hlow _ (by omega)];exact gV
   have l3':h.length + 3 < h'.length:=by omega
   have key:∃H2,Tbs l h (i + 1) H2 (h'.set (h.length + 3) (.cells [V'])) (rows ++ [[Tb]]) V':=by
    refine ⟨fun j=>if j < G.length then H j else qbV G.length g' j,?_,?_,?_,by simp [S.len],?_,?_⟩
    ·intro j x hx
     have hx:(if j < G.length then H j else qbV G.length g' j) = some x:=hx
     by_cases hj:j < G.length
     ·rw [if_pos hj] at hx
      have:=S.bse j x hx
      have hne:∀id a c d e,V = .sl id a c d e→j ≠ id:=fun id a c d e ev hjj=>by
       subst hjj
       rw [(S.own _ a c d e ev).1] at hx
       cases hx
      rw [List.getElem?_set_ne (by omega),hold2 j (by omega) hne,hold j hj]
      exact S.cov j x hx
     ·rw [if_neg hj,qY (by omega)] at hx
      have hjl:j < g'.length:=(List.getElem?_eq_some_iff.1 hx).1
      have hne:∀id a c d e,V = .sl id a c d e→j ≠ id:=fun id a c d e ev hjj=>by
       subst hjj
       rcases S.sl with ⟨_,e'⟩ | ⟨id',e',_,_,h3⟩
       ·rw [e'] at ev;cases ev
       ·rw [e'] at ev;cases ev
        have:=(List.getElem?_eq_some_iff.1 h3).1
        omega
      rw [List.getElem?_set_ne (by omega),hold2 j hjl hne]
      exact hx
    ·intro j x hx
     have hx:(if j < G.length then H j else qbV G.length g' j) = some x:=hx
     by_cases hj:j < G.length
     ·rw [if_pos hj] at hx
      exact S.bse j x hx
     ·omega
    ·intro id a c d e ev
     rw [hV'] at ev
     cases ev
     refine ⟨?_,by omega⟩
     show (if g'.length + 1 < G.length then H (g'.length + 1) else qbV G.length g' (g'.length + 1)) = none
     rw [if_neg (by omega),qY (by omega),List.getElem?_eq_none (by omega)]
    ·exact hV2.keep fun j h1 _=>by rw [List.getElem?_set_ne (by omega)]
    ·intro j h1 h2
     rcases Nat.lt_or_ge j rows.length with hj | hj
     ·obtain ⟨q1,tb,q2,q3,q4,q5⟩:=S.row j hj h2
      refine ⟨q1,tb,by rw [List.getElem_append_left hj,q2],q3,q4,?_⟩
      obtain ⟨tid,rs,e,t1,t2⟩:=q5
      have hs:Sub H (fun j=>if j < G.length then H j else qbV G.length g' j):=fun a x hx=>by
       show (if a < G.length then H a else qbV G.length g' a) = some x
       rw [if_pos (S.cov.lt hx)]
       exact hx
      exact ⟨tid,rs,e,hs _ _ t1,t2.mono hs⟩
     ·have hj2:j = i:=by simp at h1;have:=S.len;omega
      subst hj2
      refine ⟨hR,Tb,by rw [List.getElem_append_right hj];simp,td,ts,?_⟩
      obtain ⟨tid,rs,e,t1,t2⟩:=hta
      have hs:Sub (qbV G.length g') (fun j=>if j < G.length then H j else qbV G.length g' j):=fun a x hx=>by
       show (if a < G.length then H a else qbV G.length g' a) = some x
       by_cases ha:G.length ≤ a
       ·rw [if_neg (by omega)]
        exact hx
       ·rw [qaq ha] at hx
        cases hx
      exact ⟨tid,rs,e,hs _ _ t1,t2.mono hs⟩
   obtain ⟨H2,key⟩:=key
   have gg1:g'[h.length + 3]? = some (.cells [V]):=by rw [hold _ (by omega)];exact gV
   have gg2:(g' ++ [qb.cells [Tb]])[h.length + 3]? = some (.cells [V]):=by rw [List.getElem?_append_left (by omega)];exact gg1
   obtain ⟨W,hW⟩ :∃W,W = l[i]:=⟨_,rfl⟩
   rw [←hW] at x1 hrt htb
   clear hta hS hR hrw hok
   obtain ⟨⟨op,n,nm,sb,aS⟩,N,vals,bag,en,ed,ofv⟩:=W
   obtain ⟨bd,bs,bw,bl,bc⟩:=qcM bag
   rw [qel] at x1
   rw [wV,qel] at hrt htb
   simp only [sA.1,qw1,simprocAttr,-Int.reduceNatCast',ht,e2,e4,e5,e6,cq1,b0,l0,x1,bd,bs,bw,bc,hrt,htb,gV,l3,Vd,Vs,Vw,Vc,td,ts,tw,tc,hlit,hap,vd',vs',vw',gV',l3',hB3,w,gg1,gg2,qhq,Bool.or_true] at he
   subst he
   refine .inl ⟨_,k - 1,rfl,by omega,_,_,i + 1,H2,_,V',_,rfl,by simp only [qc,ht],?_,?_,?_,?_,?_,by omega,by simp;omega,fun j hj=>?_,by rw [List.getElem?_set_self l3'],key⟩
   ·simp only [sA.1,simprocAttr,-Int.reduceNatCast',ht,e2]
   ·simp only [sA.1,simprocAttr,-Int.reduceNatCast',ht,e3]
   ·simp only [sA.1,simprocAttr,-Int.reduceNatCast',ht,e4]
   ·simp only [sA.1,simprocAttr,-Int.reduceNatCast',ht,e5]
   ·simp only [sA.1,simprocAttr,-Int.reduceNatCast',ht]
   ·rw [List.getElem?_set_ne (by omega),hlow j (by omega),hG j hj]
 ·have cq1:ilt (i:Int) (l.length:Int) = false:=by rw [qf];simp;omega
  have hil:i = l.length:=by omega
  subst hil
  simp only [sA.1,qw1,simprocAttr,-Int.reduceNatCast',ht,e2,e6,cq1,b0,l0] at he
  subst he
  refine .inr ⟨_,_,rfl,by simp,_,_,_,rfl,by simp only [qc,ht],?_,?_,?_,?_,hGl,.inl ⟨rfl,H,rows,V,hG,gV,S⟩⟩
  all_goals simp only [sA.1,simprocAttr,-Int.reduceNatCast',ht,e2,e3,e4,e5]
end
theorem qyX (h:List qb):Wd (.fn 6 [] []) [] h = some (.ret (.bool true),h,false):=by
 rw [show Wd = W T.get X from rfl,qvi qj6 (show X 6 = some qdz from rfl)]
 rfl
end Go.Proofs.YtnibchoenjmmjaaGreatDoor.AE
