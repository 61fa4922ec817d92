/- A part of the proof: the abstract executor and what goes through it (part 9). No condition. -/
import Derived.Test.YtnibchoenjmmjaaGreatDoorMq8
import Derived.Test.YtnibchoenjmmjaaGreatDoorMq7
import Derived.KernelRfl
import Derived.Laws.BitsLemmas
import Derived.Laws.Bits64
import Derived.Lib.Mul64
set_option maxRecDepth 100000
set_option maxHeartbeats 0
namespace Go.Proofs.YtnibchoenjmmjaaGreatDoor.AE
open Go.AE
def ext (H:Nat→Option qb) (G m:List qb):Nat→Option qb:=fun i=>if i < G.length then H i else (G ++ m)[i]?
section
variable {H:Nat→Option qb} {G m:List qb}
theorem qeu {i:Nat} (hi:i < G.length):ext H G m i = H i:=if_pos hi
theorem qft {i:Nat} (hi:G.length ≤ i):ext H G m i = (G ++ m)[i]?:=if_neg (by omega)
theorem qev (hc:Cov H G):Sub H (ext H G m):=fun i x hx=>by rw [qeu (hc.lt hx)];exact hx
theorem qkk:Sub (qbV G.length (G ++ m)) (ext H G m):=fun i x hx=>by
 by_cases hi:G.length ≤ i
 ·rw [qY hi] at hx
  rw [qft hi]
  exact hx
 ·rw [qaq hi] at hx
  cases hx
theorem qon (hc:Cov H G):Cov (ext H G m) (G ++ m):=fun i x hx=>by
 by_cases hi:i < G.length
 ·rw [qeu hi] at hx
  exact hc.more m i x hx
 ·rw [qft (by omega)] at hx
  exact hx
theorem quN {b:Nat} (hH:∀i x,H i = some x→b ≤ i) (hb:b ≤ G.length):∀i x,ext H G m i = some x→b ≤ i:=fun i x hx=>by
 by_cases hi:i < G.length
 ·rw [qeu hi] at hx
  exact hH i x hx
 ·omega
end
theorem Ta.stor {H:Nat→Option qb} {t:Tp} {cs:List qa} (h:Ta H t cs):qbl cs:=h.still
def TSl (H:Nat→Option qb) (G:List qb) (b:Nat) (ts:List Tp) (V:qa):Prop:=(ts = []∧V = .lst [] .full)∨∃(id:Nat) (rs:List (List qa)),V = .sl id 0 ts.length ts.length 2∧b ≤ id∧ts ≠ []∧G[id]? = some (.cells rs.flatten)∧H id = none∧rs.length = ts.length∧∀(i:Nat) (h:i < ts.length) (h':i < rs.length),Ta H ts[i] rs[i]
theorem TSl.facts {H:Nat→Option qb} {G:List qb} {b:Nat} {ts:List Tp} {V:qa} (h:TSl H G b ts V):V.dim = V∧V.storable = true∧(∀i t,qx V i t = t)∧qbb false V = some (.int .i64 (ts.length:Nat)):=by
 rcases h with ⟨rfl,rfl⟩ | ⟨id,rs,rfl,_⟩ <;> exact ⟨rfl,rfl,fun _ _=>rfl,rfl⟩
theorem TSl.keep {H H':Nat→Option qb} {G G':List qb} {b:Nat} {ts:List Tp} {V:qa} (h:TSl H G b ts V) (hs:Sub H H') (hn:∀i,i < G.length→H i = none→H' i = none) (hg:∀i,b ≤ i→i < G.length→G'[i]? = G[i]?):TSl H' G' b ts V:=by
 rcases h with h | ⟨id,rs,e,h1,h2,h3,h4,h5,h6⟩
 ·exact .inl h
 ·have hlt:id < G.length:=(List.getElem?_eq_some_iff.1 h3).1
  exact .inr ⟨id,rs,e,h1,h2,by rw [hg id h1 hlt];exact h3,hn id hlt h4,h5,fun i a c=>(h6 i a c).mono hs⟩
theorem TSl.next {H:Nat→Option qb} {G:List qb} {b base:Nat} {ts:List Tp} {V:qa} (h:TSl H G b ts V) (hc:Cov H G) (hb:b ≤ G.length) (hl:ts.length ≤ 100000) {t:Tp} {row:List qa} (ht:Ta H t row) :
  ∃G',hop base (.app 2) [V,.sl G.length 0 1 1 0] (G ++ [.cells row]) = some (.sl (G.length + 1) 0 (ts.length + 1) (ts.length + 1) 2,G',false)∧TSl H G' b (ts ++ [t]) (.sl (G.length + 1) 0 (ts.length + 1) (ts.length + 1) 2)∧Cov H G'∧G'.length = G.length + 2∧∀i,i < b→G'[i]? = G[i]?:=by
 have h2:(G ++ [qb.cells row])[G.length]? = some (.cells row):=by rw [qQ];rfl
 have hlen:(G ++ [qb.cells row]).length = G.length + 1:=by simp
 have hnone:H (G.length + 1) = none:=hc.late (by omega)
 have tl:(ts ++ [t]).length = ts.length + 1:=by simp
 rcases h with ⟨rfl,rfl⟩ | ⟨id,rs,rfl,h1,hne,h3,h4,h5,h6⟩
 ·refine ⟨_,by rw [qbx h2 ht.length ht.still,hlen];rfl,.inr ⟨G.length + 1,[row],rfl,by omega,by simp,?_,hnone,rfl,fun i a c=>?_⟩,(hc.more _).more _,by simp,fun i hi=>?_⟩
  ·rw [←hlen,qQ]
   simp
  ·have:i = 0:=by simp at c;omega
   subst this
   exact ht
  ·rw [List.append_assoc,List.getElem?_append_left (by omega)]
 ·have hlt:id < G.length:=(List.getElem?_eq_some_iff.1 h3).1
  have hi2:(G ++ [qb.cells row])[id]? = some (.cells rs.flatten):=by rw [List.getElem?_append_left hlt];exact h3
  have hr2:=(Ta.elem h5 h6).1
  have hst:qbl rs.flatten:=fun c hcx=>by
   obtain ⟨r,hr,hcr⟩:=List.mem_flatten.1 hcx
   obtain ⟨i,hi,rfl⟩:=List.getElem_of_mem hr
   exact (h6 i (by omega) hi).still c hcr
  have hce:rs.flatten.length = ts.length * 2:=by rw [qbG hr2,h5]
  refine ⟨_,by rw [qbY hi2 h2 ht.length hce ht.still hst (by omega) (by omega),hlen],.inr ⟨G.length + 1,rs ++ [row],by rw [tl],by omega,by simp,?_,hnone,by simp [h5],fun i a c=>?_⟩,((hc.more _).set h4 _).more _,by simp,fun i hi=>?_⟩
  ·rw [show G.length + 1 = ((G ++ [qb.cells row]).set id .dead).length by simp,qQ]
   simp
  ·by_cases hi:i < ts.length
   ·rw [List.getElem_append_left hi,List.getElem_append_left (by omega)]
    exact h6 i hi (by omega)
   ·have:i = ts.length:=by simp at a;omega
    subst this
    rw [List.getElem_append_right (by omega),List.getElem_append_right (by omega)]
    simp only [h5,Nat.sub_self,List.getElem_cons_zero]
    exact ht
  ·rw [List.getElem?_append_left (by simp;omega),List.getElem?_set_ne (by omega),List.getElem?_append_left (by omega)]
theorem TSl.ta {H H':Nat→Option qb} {G:List qb} {b:Nat} {ts:List Tp} {V:qa} (h:TSl H G b ts V) (hs:Sub H H') (hg:∀i,b ≤ i→i < G.length→H i = none→H' i = G[i]?) (k:Int):Ta H' (.mk k ts) [.int .i64 k,V]:=by
 rcases h with ⟨rfl,rfl⟩ | ⟨id,rs,rfl,h1,h2,h3,h4,h5,h6⟩
 ·exact .lst k [] [] .full (.inr rfl) rfl fun i h=>by simp at h
 ·exact .sl k ts rs id 2 (by rw [hg id h1 (List.getElem?_eq_some_iff.1 h3).1 h4];exact h3) h5 fun i a c=>(h6 i a c).mono hs
theorem qD6 (base:Nat) (k:Int) (L:qa) (hd:L.dim = L) (hs:L.storable = true) (h:List qb):hop base (.lit 2 [.int .i64 0,.lst [] .full] 1 [0]) [.agg [.int .i64 k,L]] h = some (.sl h.length 0 1 1 0,h ++ [.cells [.int .i64 k,L]],false):=by
 have s1:∀(j:IntKind) (x:Int),(qa.int j x).storable = true:=fun _ _=>rfl
 have d1:∀(j:IntKind) (x:Int),(qa.int j x).dim = .int j x:=fun _ _=>rfl
 simp [hop,qaK,qa.cells,splice,hs,hd,s1,d1]
def TO (v:Val):Prop:=∀(H:Nat→Option qb) cs h,At H v cs→Cov H h→∃ts m,Wd (.fn 38 [] []) [.agg cs] h = some (.ret (.agg ts),h ++ m,false)∧Ta (qbV h.length (h ++ m)) (qcC v) ts
theorem Ta.two {H:Nat→Option qb} {t:Tp} {cs:List qa} (h:Ta H t cs):∃k L,cs = [.int .i64 k,L]∧L.dim = L∧L.storable = true∧(∀i t,qx L i t = t):=by
 obtain ⟨k,l,L,_,e,a,b,c,_⟩:=h.cells
 exact ⟨k,L,e,a,b,c⟩
theorem qf3 {k n:Int} {s:Str} {l:List Val} (hl:l.length ≤ 4) (ho:∀x ∈ l,TO x):TO (.mk k n s l):=by
 intro H cs h hv hg
 obtain ⟨L,rfl,hL⟩:=hv.lp
 obtain ⟨d1,s1,w1,n1⟩:=hL.facts
 have loop:∀q st,(∃(tt:List qa) (G:List qb) (i:Nat) (K:Nat→Option qb) (V:qa),st = ⟨tt,G,false⟩∧tt.length = 27∧lkp tt 1 = .ptr h.length 0∧lkp tt 2 = .ptr (h.length + 1) 0∧lkp tt 3 = .ptr (h.length + 2) 0∧lkp tt 4 = .int .i64 (i:Nat)∧i + q = l.length∧
    G.take h.length = h∧h.length + 3 ≤ G.length∧G[h.length]? = some (.cells [.int .i64 k,.int .i64 n,.str s,L])∧G[h.length + 1]? = some (.cells [.int .i64 0,.lst [] .full])∧G[h.length + 2]? = some (.cells [.int .i64 k,V])∧Cov K G∧(∀j x,K j = some x→h.length + 3 ≤ j)∧TSl K G (h.length + 3) (qaE (l.take i)) V)→
   ∃x st',qm h.length Wd (.loop ql0) st = some (x,st')∧(x = .exit 0∧∃(tt:List qa) (G:List qb) (K:Nat→Option qb) (V:qa),st' = ⟨tt,G,false⟩∧tt.length = 27∧lkp tt 2 = .ptr (h.length + 1) 0∧lkp tt 3 = .ptr (h.length + 2) 0∧
    G.take h.length = h∧h.length + 3 ≤ G.length∧G[h.length + 1]? = some (.cells [.int .i64 0,.lst [] .full])∧G[h.length + 2]? = some (.cells [.int .i64 k,V])∧(∀j x,K j = some x→h.length + 3 ≤ j)∧Cov K G∧TSl K G (h.length + 3) (qaE l) V):=by
  refine qD _ (fun x st'=>x = .exit 0∧∃(tt:List qa) (G:List qb) (K:Nat→Option qb) (V:qa),st' = ⟨tt,G,false⟩∧tt.length = 27∧lkp tt 2 = .ptr (h.length + 1) 0∧lkp tt 3 = .ptr (h.length + 2) 0∧
    G.take h.length = h∧h.length + 3 ≤ G.length∧G[h.length + 1]? = some (.cells [.int .i64 0,.lst [] .full])∧G[h.length + 2]? = some (.cells [.int .i64 k,V])∧(∀j x,K j = some x→h.length + 3 ≤ j)∧Cov K G∧TSl K G (h.length + 3) (qaE l) V) ?_
  rintro q st ⟨tt,G,i,K,V,rfl,ht,e1,e2,e3,e4,hik,hG,hGl,b0,b1,b2,hK,hKb,hV⟩
  generalize he:qm h.length Wd ql0 _ = r
  have hgG:Cov H G:=fun j x hx=>by
   have h1:=hg j x hx
   have h2:(G.take h.length)[j]? = some x:=by rw [hG];exact h1
   rw [List.getElem?_take] at h2
   split at h2
   ·exact h2
   ·cases h2
  rcases Nat.lt_or_ge i l.length with hi | hi
  ·have c1:ilt (i:Int) (l.length:Int) = true:=by rw [qf];simp;omega
   have w:=qab (n:=i) (by omega)
   obtain ⟨vd,vs,vw,_⟩:=hV.facts
   obtain ⟨pp,cs,x1,x2,_,x3,x4⟩:=hL.item hi hgG
   have x5:∀i t,qx pp i t = t:=fun i t=>by rw [←x2];exact qaf _ _ _
   obtain ⟨ts,m,hcall,hts⟩:=ho _ (List.getElem_mem hi) H cs G x4 hgG
   have hK2:Cov (ext K G m) (G ++ m):=qon hK
   have hta:Ta (ext K G m) (qcC l[i]) ts:=hts.mono qkk
   have hV2:TSl (ext K G m) (G ++ m) (h.length + 3) (qaE (l.take i)) V:=hV.keep (qev hK) (fun j hj hn=>by rw [qeu hj];exact hn) fun j _ hj=>by rw [List.getElem?_append_left hj]
   have htl:(qaE (l.take i)).length = i:=by rw [qbU,List.length_map,List.length_take];omega
   obtain ⟨G',hap,hV3,hK3,hlen,hold⟩:=hV2.next (base:=h.length) hK2 (by simp;omega) (by omega) hta
   have hty:qaE (l.take i) ++ [qcC l[i]] = qaE (l.take (i + 1)):=by rw [List.take_succ_eq_append_getElem hi,qbU,qbU,List.map_append];rfl
   rw [hty] at hV3
   obtain ⟨kk,LL,rfl,ld,lsb,lw⟩:=hta.two
   have hlit:=fun (g:List qb)=>qD6 h.length kk LL ld lsb g
   have B0:(G ++ m)[h.length]? = some (.cells [.int .i64 k,.int .i64 n,.str s,L]):=by rw [List.getElem?_append_left (by omega)];exact b0
   have B2:(G ++ m)[h.length + 2]? = some (.cells [.int .i64 k,V]):=by rw [List.getElem?_append_left (by omega)];exact b2
   have D2:∀X,(G ++ m ++ [X])[h.length + 2]? = some (.cells [.int .i64 k,V]):=fun X=>by rw [List.getElem?_append_left (by simp;omega)];exact B2
   have C2:G'[h.length + 2]? = some (.cells [.int .i64 k,V]):=by rw [hold _ (by omega)];exact B2
   have x3':=(hL.item hi hgG)
   have hbl:Nat.ble h.length (h.length + 2) = true:=qi (by omega)
   have hnew:((qaE (l.take i)).length + 1) = i + 1:=by omega
   have hxm:qbQ (G ++ m) pp (some 4) = some (.agg cs):=by
    obtain ⟨pp',cs',y1,_,y3,_⟩:=hL.item hi hgG
    rw [x1] at y1
    cases y1
    have y4:=y3 []
    rw [List.append_nil,x3] at y4
    cases y4
    exact y3 m
   generalize hgm:G ++ m = GM at *
   simp only [sA.1,ql0,simprocAttr,-Int.reduceNatCast',ht,e1,e2,e3,e4,c1,w,b0,b1,b2,B0,B2,C2,D2,d1,w1,n1,vd,vs,vw,x1,x2,x3,x5,hxm,hcall,hlit,hap,hbl,ld,lsb,lw,Bool.or_true,Bool.or_false] at he
   subst he
   have P1:∀(X:qb) j,j ≠ h.length + 2→(G'.set (h.length + 2) X)[j]? = G'[j]?:=fun X j hj=>by rw [List.getElem?_set_ne (by omega)]
   refine .inl ⟨_,q - 1,rfl,by omega,_,_,i + 1,ext K G m,.sl (GM.length + 1) 0 ((qaE (l.take i)).length + 1) ((qaE (l.take i)).length + 1) 2,rfl,by simp only [qc,ht],?_,?_,?_,?_,by omega,?_,?_,?_,?_,?_,?_,?_,?_⟩
   ·simp only [sB.1,simprocAttr,-Int.reduceNatCast',ht,e1]
   ·simp only [sB.1,simprocAttr,-Int.reduceNatCast',ht,e2]
   ·simp only [sB.1,simprocAttr,-Int.reduceNatCast',ht,e3]
   ·simp only [sB.1,simprocAttr,-Int.reduceNatCast',ht]
   ·rw [List.take_set_of_le (by omega)]
    apply List.ext_getElem?
    intro j
    rw [List.getElem?_take]
    by_cases hj:j < h.length
    ·rw [if_pos hj,hold _ (by omega),←hgm,List.getElem?_append_left (by omega)]
     have:(G.take h.length)[j]? = h[j]?:=by rw [hG]
     rw [List.getElem?_take,if_pos hj] at this
     exact this
    ·rw [if_neg hj,List.getElem?_eq_none (by omega)]
   ·rw [List.length_set,hlen,←hgm]
    simp
    omega
   ·rw [P1 _ _ (by omega),hold _ (by omega)]
    exact B0
   ·rw [P1 _ _ (by omega),hold _ (by omega),←hgm,List.getElem?_append_left (by omega)]
    exact b1
   ·rw [List.getElem?_set_self (by rw [hlen,←hgm];simp;omega)]
   ·exact hK3.set (by
     cases hx:ext K G m (h.length + 2) with
     | none=>rfl
     | some y=>have:=quN hKb (by omega) _ _ hx;omega) _
   ·exact quN hKb (by omega)
   ·exact hV3.keep (fun _ _ h=>h) (fun _ _ h=>h) fun j hj _=>P1 _ _ (by omega)
  ·have c1:ilt (i:Int) (l.length:Int) = false:=by rw [qf];simp;omega
   simp only [sB.1,ql0,simprocAttr,-Int.reduceNatCast',ht,e1,e2,e3,e4,c1,b0,d1,w1,n1] at he
   subst he
   rw [List.take_of_length_le hi] at hV
   refine .inr ⟨_,_,rfl,by simp,rfl,_,G,K,V,rfl,by simp only [qc,ht],?_,?_,hG,hGl,b1,b2,hKb,hK,hV⟩
   ·simp only [sB.1,simprocAttr,-Int.reduceNatCast',ht,e2]
   ·simp only [sB.1,simprocAttr,-Int.reduceNatCast',ht,e3]
 generalize hw:Wd _ _ h = w
 rw [qr rfl (show T.get 38 = some c38 by kernel_rfl)] at hw
 simp only [sB.1,c38,simprocAttr,-Int.reduceNatCast',qaK,d1,s1,w1] at hw
 generalize hr:qm h.length Wd (.loop ql0) _ = r at hw
 obtain ⟨x,st',rfl,rfl,tt,G,K,V,rfl,ht,e2,e3,hG,hGl,b1,b2,hKb,hK,hV⟩:=qaB hr (loop l.length _ ⟨_,_,0,fun _=>none,.lst [] .full,rfl,by simp only [sB.1,simprocAttr,-Int.reduceNatCast'],by simp only [sB.1,simprocAttr,-Int.reduceNatCast'],by simp only [sB.1,simprocAttr,-Int.reduceNatCast'],by simp only [sB.1,simprocAttr,-Int.reduceNatCast'],by simp only [sB.1,simprocAttr,-Int.reduceNatCast',Int.natCast_zero],by omega,by simp,by simp,by rw [qQ];rfl,by rw [qaL];rfl,by rw [qaL];rfl,(fun j x h=>by cases h),(fun j x h=>by cases h),.inl ⟨rfl,rfl⟩⟩)
 obtain ⟨vd,vs,vw,_⟩:=hV.facts
 have hbl:Nat.ble h.length (h.length + 1) = true:=qi (by omega)
 have hS:∀X,(G.set (h.length + 1) X)[h.length + 1]? = some X:=fun X=>List.getElem?_set_self (by omega)
 simp only [sB.1,simprocAttr,-Int.reduceNatCast',ht,e2,e3,b1,b2,vd,vs,vw,hbl,hS,Bool.true_or] at hw
 subst hw
 rw [qcC]
 rcases hV with ⟨hn,rfl⟩ | ⟨id,rs,rfl,h1,hne,h3,h4,h5,h6⟩
 ·refine ⟨[.int .i64 k,.lst [] .full],[],?_,?_⟩
  ·rw [List.append_nil,qez]
   have:(qa.agg [.int .i64 k,.lst [] .full]).lower h.length = true:=rfl
   simp only [splice,List.take_zero,List.nil_append,List.length_cons,List.length_nil,List.drop_succ_cons,List.drop_nil,List.append_nil,this,cond_true,List.take_set_of_le (show h.length ≤ h.length + 1 by omega),hG]
  ·rw [hn]
   exact .lst k [] [] .full (.inr rfl) rfl fun i h=>by simp at h
 ·have hpre:∀(X:qb),(G.set (h.length + 1) X) = h ++ (G.set (h.length + 1) X).drop h.length:=fun X=>by
   conv=>lhs;rw [←List.take_append_drop h.length (G.set (h.length + 1) X)]
   rw [List.take_set_of_le (by omega),hG]
  refine ⟨[.int .i64 k,.sl id 0 (qaE l).length (qaE l).length 2],(G.set (h.length + 1) (.cells [.int .i64 k,.sl id 0 (qaE l).length (qaE l).length 2])).drop h.length,?_,?_⟩
  ·rw [←hpre,qez]
   have:(qa.agg [.int .i64 k,.sl id 0 (qaE l).length (qaE l).length 2]).lower h.length = false:=by
    simp only [qa.lower,qv,qcN (show h.length ≤ id by omega),Bool.false_and,Bool.and_false]
   simp only [this,cond_false,splice,List.take_zero,List.nil_append,List.length_cons,List.length_nil,List.drop_succ_cons,List.drop_nil,List.append_nil]
  ·rw [←hpre]
   have hset:∀(X:qb) j,h.length + 3 ≤ j→(G.set (h.length + 1) X)[j]? = G[j]?:=fun X j hj=>by rw [List.getElem?_set_ne (by omega)]
   refine .sl k (qaE l) rs id 2 ?_ h5 fun i a c=>(h6 i a c).mono fun j x hx=>?_
   ·rw [qY (by omega),hset _ _ h1]
    exact h3
   ·rw [qY (by have:=hKb j x hx;omega),hset _ _ (hKb j x hx)]
    exact hK j x hx
theorem qrs:∀d v,qE d v = true→TO v:=by
 intro d
 induction d with
 | zero=>
  rintro ⟨k,n,s,l⟩ h0
  have hl:=qaG h0
  subst hl
  exact qf3 (by simp) fun x hx=>by cases hx
 | succ d ih=>
  rintro ⟨k,n,s,l⟩ h0
  rw [qE] at h0
  cases h3:(k == 3) with
  | true=>
   rw [h3,cond_true] at h0
   simp only [Bool.and_eq_true,decide_eq_true_eq,List.all_eq_true] at h0
   exact qf3 h0.1.2.2 fun x hx=>ih x (h0.2 x hx)
  | false=>
   rw [h3,cond_false] at h0
   have hl:=qaG h0
   subst hl
   exact qf3 (by simp) fun x hx=>by cases hx
def Sm (H:Nat→Option qb) (v:Val):Prop:=∀cs ds g,At H v cs→At H v ds→Cov H g→Wd (.fn 13 [] []) [.agg cs,.agg ds] g = some (.ret (.bool true),g,false)
theorem qjT {H:Nat→Option qb} {k n:Int} {s:Str} {l:List Val} (hl:l.length ≤ 4) (ho:∀x ∈ l,Sm H x):Sm H (.mk k n s l):=by
 intro cs ds h hv hv' hg
 obtain ⟨L,rfl,hL⟩:=hv.lp
 obtain ⟨L',rfl,hL'⟩:=hv'.lp
 obtain ⟨d1,s1,w1,n1⟩:=hL.facts
 obtain ⟨d2,s2,w2,n2⟩:=hL'.facts
 obtain ⟨G,hG⟩ :∃G,G = h ++ [qb.cells [.int .i64 k,.int .i64 n,.str s,L],.cells [.int .i64 k,.int .i64 n,.str s,L']]:=⟨_,rfl⟩
 have hb1:G[h.length]? = some (.cells [.int .i64 k,.int .i64 n,.str s,L]):=by rw [hG,qQ];rfl
 have hb2:G[h.length + 1]? = some (.cells [.int .i64 k,.int .i64 n,.str s,L']):=by rw [hG,qaL];rfl
 have hgG:Cov H G:=by rw [hG];exact hg.more _
 have htk:G.take h.length = h:=by rw [hG];simp
 have loop:∀q st,(∃(tt:List qa) (i:Nat),st = ⟨tt,G,false⟩∧tt.length = 53∧lkp tt 2 = .ptr h.length 0∧lkp tt 3 = .ptr (h.length + 1) 0∧lkp tt 5 = .int .i64 (i:Nat)∧i + q = l.length)→
   ∃x st',qm h.length Wd (.loop qlW) st = some (x,st')∧(x = .exit 0∧∃tt:List qa,st' = ⟨tt,G,false⟩∧tt.length = 53):=by
  refine qD _ _ ?_
  rintro q st ⟨tt,i,rfl,ht,e2,e3,e5,hik⟩
  generalize he:qm h.length Wd qlW _ = r
  rcases Nat.lt_or_ge i l.length with hi | hi
  ·have c1:ilt (i:Int) (l.length:Int) = true:=by rw [qf];simp;omega
   have w:=qab (n:=i) (by omega)
   obtain ⟨pp,cs,x1,x2,_,x3,x4⟩:=hL.item hi hgG
   obtain ⟨qq,ds,y1,y2,_,y3,y4⟩:=hL'.item hi hgG
   have x5:∀i t,qx pp i t = t:=fun i t=>by rw [←x2];exact qaf _ _ _
   have y5:∀i t,qx qq i t = t:=fun i t=>by rw [←y2];exact qaf _ _ _
   have hs:=ho _ (List.getElem_mem hi) cs ds G x4 y4 hgG
   simp only [sB.1,qlW,simprocAttr,-Int.reduceNatCast',ht,e2,e3,e5,c1,w,hb1,hb2,d1,d2,w1,w2,n1,n2,x1,x2,x3,x5,y1,y2,y3,y5,hs] at he
   subst he
   refine .inl ⟨_,q - 1,rfl,by omega,_,i + 1,rfl,by simp only [qc,ht],?_,?_,?_,by omega⟩
   ·simp only [sB.1,simprocAttr,-Int.reduceNatCast',ht,e2]
   ·simp only [sB.1,simprocAttr,-Int.reduceNatCast',ht,e3]
   ·simp only [sB.1,simprocAttr,-Int.reduceNatCast',ht]
  ·have c1:ilt (i:Int) (l.length:Int) = false:=by rw [qf];simp;omega
   simp only [sB.1,qlW,simprocAttr,-Int.reduceNatCast',ht,e2,e3,e5,c1,hb1,d1,w1,n1] at he
   subst he
   exact .inr ⟨_,_,rfl,by simp,rfl,_,rfl,by simp only [qc,ht]⟩
 generalize hw:Wd _ _ h = w
 rw [qr rfl (show T.get 13 = some c13 by kernel_rfl)] at hw
 simp only [sB.1,c13,simprocAttr,-Int.reduceNatCast',d1,d2,s1,s2,w1,w2,n1,n2,bne_self_eq_false,beq_self_eq_true,Bool.not_true] at hw
 generalize hr:qm h.length Wd (.loop qlW) _ = r at hw
 obtain ⟨x,st',rfl,rfl,tt,rfl,ht⟩:=qaB hr (loop l.length _ ⟨_,0,by rw [hG],by simp only [sB.1,simprocAttr,-Int.reduceNatCast'],by simp only [sB.1,simprocAttr,-Int.reduceNatCast'],by simp only [sB.1,simprocAttr,-Int.reduceNatCast'],by simp only [sB.1,simprocAttr,-Int.reduceNatCast',Int.natCast_zero],by omega⟩)
 simp only [sB.1,simprocAttr,-Int.reduceNatCast',ht] at hw
 subst hw
 exact congrArg some (qH htk rfl)
theorem qqY:∀d,∀{H:Nat→Option qb} {v:Val},qE d v = true→Sm H v:=by
 intro d
 induction d with
 | zero=>
  rintro H ⟨k,n,s,l⟩ h0
  have hl:=qaG h0
  subst hl
  exact qjT (by simp) fun x hx=>by cases hx
 | succ d ih=>
  rintro H ⟨k,n,s,l⟩ h0
  rw [qE] at h0
  cases h3:(k == 3) with
  | true=>
   rw [h3,cond_true] at h0
   simp only [Bool.and_eq_true,decide_eq_true_eq,List.all_eq_true] at h0
   exact qjT h0.1.2.2 fun x hx=>ih (h0.2 x hx)
  | false=>
   rw [h3,cond_false] at h0
   have hl:=qaG h0
   subst hl
   exact qjT (by simp) fun x hx=>by cases hx
theorem qkx (n:Int) (s:Str) (z:Bool):((((s == []) && z) && ile 0 n) && ile n 1) = (((n == 0 || n == 1) && (s == [])) && z):=by
 have h:(ile 0 n && ile n 1) = (n == 0 || n == 1):=by
  rw [Bool.eq_iff_iff]
  simp only [Bool.and_eq_true,Bool.or_eq_true,qaw,decide_eq_true_eq,beq_iff_eq]
  omega
 rw [←h]
 cases (s == []) <;> cases z <;> cases ile 0 n <;> cases ile n 1 <;> rfl
def Rr (H:Nat→Option qb) (d:Nat) (v:Val):Prop:=∀cs g,At H v cs→Cov H g→Wd (.fn 36 [] []) [.agg cs,.int .i64 (d:Nat)] g = some (.ret (.bool (qE d v)),g,false)
theorem qDd:∀d,d ≤ 3→∀{H:Nat→Option qb} (v:Val),Rr H d v:=by
 have a3:∀x:Int,(x == 3) = true→((x == 0) = false∧(x == 1) = false∧(x == 2) = false):=fun x h=>by
  simp only [beq_iff_eq,beq_eq_false_iff_ne] at *
  omega
 intro d
 induction d with
 | zero=>
  rintro _ H ⟨k,n,s,l⟩ cs g hv hg
  obtain ⟨L,rfl,hL⟩:=hv.lp
  obtain ⟨hLd,hLs,hLw,hLl⟩:=hL.facts
  have hnm:=fun g=>qW s g
  have z0:(((0:Nat):Int) == 0) = true:=by kernel_rfl
  have l1:=qkx n s ((l.length:Int) == 0)
  rw [qE]
  unfold qgf
  rw [qr rfl (show T.get 36 = some c36 by kernel_rfl)]
  cases h0:(k == 0) with
  | true=>simp only [sB.1,c36,simprocAttr,-Int.reduceNatCast',hLd,hLs,hLw,hLl,h0,cond_true]
  | false=>
   cases h1:(k == 1) with
   | true=>simp only [sB.1,c36,simprocAttr,-Int.reduceNatCast',hLd,hLs,hLw,hLl,h0,h1,l1,cond_true,cond_false]
   | false=>
    cases h2:(k == 2) with
    | true=>simp only [sB.1,c36,simprocAttr,-Int.reduceNatCast',hLd,hLs,hLw,hLl,h0,h1,h2,hnm,cond_true,cond_false]
    | false=>simp only [sB.1,c36,simprocAttr,-Int.reduceNatCast',hLd,hLs,hLw,hLl,h0,h1,h2,z0,cond_false,Bool.or_true,Bool.true_or]
 | succ d ih=>
  rintro hd H ⟨k,n,s,l⟩ cs h hv hg
  obtain ⟨L,rfl,hL⟩:=hv.lp
  obtain ⟨hLd,hLs,hLw,hLl⟩:=hL.facts
  have hnm:=fun g=>qW s g
  have z0:(((d + 1:Nat):Int) == 0) = false:=by rw [beq_eq_false_iff_ne];omega
  have l1:=qkx n s ((l.length:Int) == 0)
  rw [qE]
  unfold qgf
  generalize hw:Wd _ _ h = w
  rw [qr rfl (show T.get 36 = some c36 by kernel_rfl)] at hw
  cases h3:(k == 3) with
  | false=>
   cases h0:(k == 0) with
   | true=>
    simp only [sB.1,c36,simprocAttr,-Int.reduceNatCast',hLd,hLs,hLw,hLl,h0] at hw
    simp only [cond_true,cond_false]
    exact hw.symm
   | false=>
    cases h1:(k == 1) with
    | true=>
     simp only [sB.1,c36,simprocAttr,-Int.reduceNatCast',hLd,hLs,hLw,hLl,h0,h1,l1] at hw
     simp only [cond_true,cond_false]
     exact hw.symm
    | false=>
     cases h2:(k == 2) with
     | true=>
      simp only [sB.1,c36,simprocAttr,-Int.reduceNatCast',hLd,hLs,hLw,hLl,h0,h1,h2,hnm] at hw
      simp only [cond_true,cond_false]
      exact hw.symm
     | false=>
      simp only [sB.1,c36,simprocAttr,-Int.reduceNatCast',hLd,hLs,hLw,hLl,h0,h1,h2,h3,Bool.not_false,Bool.true_or] at hw
      simp only [cond_false]
      exact hw.symm
  | true=>
   obtain ⟨h0,h1,h2⟩:=a3 k h3
   cases hc:(!(n == 0) || !(s == []) || ilt (l.length:Int) 1 || ilt 4 (l.length:Int)) with
   | true=>
    have e:(((n == 0) && (s == [])) && (decide (1 ≤ l.length) && decide (l.length ≤ 4))) = false:=by
     simp only [Bool.or_eq_true,Bool.not_eq_true',qf,decide_eq_true_eq] at hc
     rcases hc with ((hc | hc) | hc) | hc
     ·rw [hc];simp
     ·rw [hc];simp
     ·rw [decide_eq_false (show ¬ 1 ≤ l.length by omega)];simp
     ·rw [decide_eq_false (show ¬ l.length ≤ 4 by omega)];simp
    have hc2:(!true || !(n == 0) || !(s == []) || false || ilt (l.length:Int) 1 || ilt 4 (l.length:Int)) = true:=by simpa using hc
    simp only [sB.1,c36,simprocAttr,-Int.reduceNatCast',hLd,hLs,hLw,hLl,h0,h1,h2,h3,z0,hc2] at hw
    rw [cond_true,e,Bool.false_and]
    first | exact hw.symm | (simp only [sB.1,Bool.or_false,Bool.false_or,Bool.not_true,hc,simprocAttr,-Int.reduceNatCast'] at hw;exact hw.symm)
   | false=>
    have hc2:(!true || !(n == 0) || !(s == []) || false || ilt (l.length:Int) 1 || ilt 4 (l.length:Int)) = false:=by simpa using hc
    simp only [Bool.or_eq_false_iff,Bool.not_eq_false',qf,decide_eq_false_iff_not] at hc
    obtain ⟨⟨⟨hn,hs⟩,g1⟩,g2⟩:=hc
    obtain ⟨G,hG⟩ :∃G,G = h ++ [qb.cells [.int .i64 k,.int .i64 n,.str s,L]]:=⟨_,rfl⟩
    have hbx:G[h.length]? = some (.cells [.int .i64 k,.int .i64 n,.str s,L]):=by rw [hG,qQ];rfl
    have hgG:Cov H G:=by rw [hG];exact hg.more _
    have htk:G.take h.length = h:=by rw [hG];simp
    have loop:∀m st,(∃(tt:List qa) (i:Nat),st = ⟨tt,G,false⟩∧tt.length = 102∧lkp tt 1 = .int .i64 (d + 1:Nat)∧lkp tt 2 = .ptr h.length 0∧lkp tt 5 = .int .i64 (i:Nat)∧i + m = l.length∧l.all (qE d) = (l.drop i).all (qE d))→
      ∃x st',qm h.length Wd (.loop qjm) st = some (x,st')∧(∃tt:List qa,st' = ⟨tt,G,false⟩∧tt.length = 102∧((x = .exit 0∧l.all (qE d) = true)∨(x = .ret∧lkp tt 4 = .bool false∧l.all (qE d) = false))):=by
     refine qD _ _ ?_
     rintro m st ⟨tt,i,rfl,ht,e1,e2,e5,him,hall⟩
     generalize he:qm h.length Wd qjm _ = r
     rcases Nat.lt_or_ge i l.length with hi | hi
     ·have c1:ilt (i:Int) (l.length:Int) = true:=by rw [qf];simp;omega
      have w:=qab (n:=i) (by omega)
      have w1:IntKind.i64.wrap (((d + 1:Nat):Int) - 1) = ((d:Nat):Int):=by rw [qaX (by omega) (by omega)];omega
      obtain ⟨pp,cs,x1,x2,_,x3,x4⟩:=hL.item hi hgG
      have x5:∀i t,qx pp i t = t:=fun i t=>by rw [←x2];exact qaf _ _ _
      have hq:=ih (by omega) l[i] cs G x4 hgG
      rw [List.drop_eq_getElem_cons hi,List.all_cons] at hall
      cases hb:qE d l[i] with
      | true=>
       rw [hb] at hq hall
       simp only [sB.1,qjm,simprocAttr,-Int.reduceNatCast',ht,e1,e2,e5,c1,w,w1,hbx,hLd,hLw,hLl,x1,x2,x3,x5,hq] at he
       subst he
       refine .inl ⟨_,m - 1,rfl,by omega,_,i + 1,rfl,by simp only [qc,ht],?_,?_,?_,by omega,by rw [hall,Bool.true_and]⟩
       ·simp only [sB.1,simprocAttr,-Int.reduceNatCast',ht,e1]
       ·simp only [sB.1,simprocAttr,-Int.reduceNatCast',ht,e2]
       ·simp only [sB.1,simprocAttr,-Int.reduceNatCast',ht]
      | false=>
       rw [hb] at hq hall
       simp only [sB.1,qjm,simprocAttr,-Int.reduceNatCast',ht,e1,e2,e5,c1,w,w1,hbx,hLd,hLw,hLl,x1,x2,x3,x5,hq] at he
       subst he
       refine .inr ⟨_,_,rfl,by simp,_,rfl,by simp only [qc,ht],.inr ⟨rfl,?_,by rw [hall,Bool.false_and]⟩⟩
       simp only [sB.1,simprocAttr,-Int.reduceNatCast',ht]
     ·have c1:ilt (i:Int) (l.length:Int) = false:=by rw [qf];simp;omega
      simp only [sB.1,qjm,simprocAttr,-Int.reduceNatCast',ht,e1,e2,e5,c1,hbx,hLd,hLw,hLl] at he
      subst he
      rw [List.drop_eq_nil_of_le hi] at hall
      exact .inr ⟨_,_,rfl,by simp,_,rfl,by simp only [qc,ht],.inl ⟨rfl,hall⟩⟩
    have y1:ilt (l.length:Int) 1 = false:=by rw [qf];simpa using g1
    have y2:ilt 4 (l.length:Int) = false:=by rw [qf];simpa using g2
    simp only [sB.1,c36,simprocAttr,-Int.reduceNatCast',hLd,hLs,hLw,hLl,h0,h1,h2,h3,hn,hs,y1,y2,z0] at hw
    generalize hr:qm h.length Wd (.loop qjm) _ = r at hw
    obtain ⟨x,st',rfl,tt,rfl,ht,⟨rfl,ha⟩ | ⟨rfl,e4,ha⟩⟩:=qaB hr (loop l.length _ ⟨_,0,by rw [hG],by simp only [sB.1,simprocAttr,-Int.reduceNatCast'],by simp only [sB.1,simprocAttr,-Int.reduceNatCast'],by simp only [sB.1,simprocAttr,-Int.reduceNatCast'],by simp only [sB.1,simprocAttr,-Int.reduceNatCast',Int.natCast_zero],by omega,rfl⟩)
    ·simp only [sB.1,simprocAttr,-Int.reduceNatCast',ht] at hw
     subst hw
     rw [cond_true,ha,hn,hs,decide_eq_true (show 1 ≤ l.length by omega),decide_eq_true (show l.length ≤ 4 by omega)]
     exact congrArg some (qH htk rfl)
    ·simp only [sB.1,simprocAttr,-Int.reduceNatCast',ht,e4] at hw
     subst hw
     rw [cond_true,ha,Bool.and_false]
     exact congrArg some (qH htk rfl)
section
variable {base:Nat} {call:AE.Call} {dsts:List Nat} {s:St} {pend:List (Nat×Chk)}
theorem qn2 {d:Option Nat} {o:AOp} {ix cl j:Nat} {b c:Bool} {ds:List qG} (h:lkp s.t j = .bool c) (hc:(c == b) = false):qw base call dsts (⟨⟨d,o,some (j,b)⟩,ix,cl⟩ :: ds) pend s = qw base call dsts ds pend { s with t:=put d (.tup []) s.t}:=by
 have e:s.t.getD j .undef = .bool c:=h
 simp only [qw,wanted,e,hc]
theorem qAO {d:Option Nat} {o:AOp} {ix cl j:Nat} {ds:List qG} (h:lkp s.t j = .bool false):qw base call dsts (⟨⟨d,o,some (j,true)⟩,ix,cl⟩ :: ds) pend s = qw base call dsts ds pend { s with t:=put d (.tup []) s.t}:=qn2 h rfl
theorem qAN {d:Option Nat} {o:AOp} {ix cl j:Nat} {ds:List qG} (h:lkp s.t j = .bool true):qw base call dsts (⟨⟨d,o,some (j,false)⟩,ix,cl⟩ :: ds) pend s = qw base call dsts ds pend { s with t:=put d (.tup []) s.t}:=qn2 h rfl
end
def qdL (v:Val) (t:Tp):Bool:=match v with
 | .mk _ _ s l=>((ilt (s.length:Int) 100 && ilt (l.length:Int) 20) && qE 3 v) && qaV (qcC v) t
theorem qi9 {v:Val} {t:Tp} (h:qdL v t = true):qE 3 v = true∧qcC v = t:=by
 obtain ⟨k,n,s,l⟩:=v
 simp only [qdL,Bool.and_eq_true] at h
 exact ⟨h.1.2,qkM h.2⟩
theorem qkV:∀(d:Nat) (v:Val),qE d v = true→tpS d (qcC v)
 | 0,.mk k n s l,h=>by
  have:=qaG h
  subst this
  rw [qcC]
  rfl
 | d + 1,.mk k n s l,h=>by
  rw [qE] at h
  rw [qcC,qbU]
  cases h3:(k == 3) with
  | true=>
   rw [h3,cond_true] at h
   simp only [Bool.and_eq_true,decide_eq_true_eq,List.all_eq_true] at h
   refine ⟨by simp;omega,fun x hx=>?_⟩
   obtain ⟨y,hy,rfl⟩:=List.mem_map.1 hx
   exact qkV d y (h.2 y hy)
  | false=>
   rw [h3,cond_false] at h
   have:=qaG h
   subst this
   exact ⟨by simp,fun x hx=>by cases hx⟩
theorem qoq {H:Nat→Option qb} (v:Val) (t:Tp) (cs ds:List qa) (h:List qb) (hv:At H v cs) (ht:Ta H t ds) (hg:Cov H h):Wd (.fn 17 [] []) [.agg cs,.agg ds] h = some (.ret (.bool (qdL v t)),h,false):=by
 obtain ⟨G,hG⟩ :∃G,G = h ++ [qb.cells cs,.cells ds]:=⟨_,rfl⟩
 have hgG:Cov H G:=by rw [hG];exact hg.more _
 have htk:G.take h.length = h:=by rw [hG];simp
 have r1:=qDd 3 (by omega) v cs G hv hgG
 have c3:((3:Nat):Int) = 3:=by kernel_rfl
 rw [c3] at r1
 have r2:=fun (hr:qE 3 v = true)=>qrs 3 v hr H cs G hv hgG
 have r3:=fun (hr:qE 3 v = true) (m:List qb)=>qfe 3 (H:=ext H G m) (qkV 3 v hr)
 have b1:G[h.length]? = some (.cells cs):=by rw [hG,qQ];rfl
 have b2:G[h.length + 1]? = some (.cells ds):=by rw [hG,qaL];rfl
 have hGl:G.length = h.length + 2:=by rw [hG];simp
 obtain ⟨kk,LL,rfl,ld,lsb,lw⟩:=ht.two
 obtain ⟨k,n,s,l⟩:=v
 obtain ⟨L,rfl,hL⟩:=hv.lp
 obtain ⟨d1,s1,w1,n1⟩:=hL.facts
 generalize hw:Wd _ _ h = w
 rw [qr rfl (show T.get 17 = some c17 by kernel_rfl)] at hw
 rw [hG] at r1 b1 b2
 unfold qdL
 cases f1:ilt (s.length:Int) 100 with
 | false=>
  simp only [sA.1,c17,simprocAttr,-Int.reduceNatCast',d1,s1,w1,n1,ld,lsb,lw,f1] at hw
  simp only [f1,Bool.false_and]
  exact hw.symm
 | true=>
  cases f2:ilt (l.length:Int) 20 with
  | false=>
   simp only [sA.1,c17,simprocAttr,-Int.reduceNatCast',d1,s1,w1,n1,ld,lsb,lw,f1,f2] at hw
   simp only [f1,f2,Bool.false_and,Bool.and_false]
   exact hw.symm
  | true=>
   cases f3:qE 3 (.mk k n s l) with
   | false=>
    rw [f3] at r1
    simp only [sA.1,c17,simprocAttr,-Int.reduceNatCast',d1,s1,w1,n1,ld,lsb,lw,f1,f2,r1] at hw
    simp only [f1,f2,f3,Bool.false_and,Bool.and_false]
    exact hw.symm
   | true=>
    rw [f3] at r1
    obtain ⟨ts,m,hto,hts⟩:=r2 f3
    have hst:=r3 f3 m t ts [.int .i64 kk,LL] (G ++ m) (hts.mono qkk) (ht.mono (qev hgG)) (qon hgG)
    obtain ⟨kt,LT,rfl,ld2,lsb2,lw2⟩:=hts.two
    have B2:(G ++ m)[h.length + 1]? = some (.cells [.int .i64 kk,LL]):=by rw [List.getElem?_append_left (by omega),hG];exact b2
    have htk2:(G ++ m).take h.length = h:=by rw [List.take_append_of_le_length (by omega),htk]
    rw [hG] at hto
    rw [hG] at hst B2 htk2
    generalize hq:qaV (qcC (.mk k n s l)) t = q at *
    generalize hGm:h ++ [qb.cells [.int .i64 k,.int .i64 n,.str s,L],.cells [.int .i64 kk,LL]] ++ m = GM at *
    simp only [sA.1,c17,simprocAttr,-Int.reduceNatCast',d1,s1,w1,n1,ld,lsb,lw,ld2,lsb2,lw2,f1,f2,r1,hto,hst,B2] at hw
    subst hw
    simp only [f1,f2,f3,hq,Bool.true_and]
    exact congrArg some (qH htk2 rfl)
theorem btf:(true != false) = true:=Eq.trans rfl rfl
theorem bff:(false != false) = false:=Eq.trans rfl rfl
theorem c2E:((2:Nat):Int) = 2:=Eq.trans rfl rfl
theorem c1E:((1:Nat):Int) = 1:=Eq.trans rfl rfl
theorem k02:ilt 0 2 = true:=Eq.trans rfl rfl
theorem k12:ilt 1 2 = true:=Eq.trans rfl rfl
theorem k22:ilt 2 2 = false:=Eq.trans rfl rfl
theorem w1E:IntKind.i64.wrap 1 = 1:=by kernel_rfl
theorem w2E:IntKind.i64.wrap 2 = 2:=by kernel_rfl
def rI (n e:Int):qa:=.agg [.int .i64 0,.int .i64 n,.str [],.lst [] .full,.int .i64 e]
section
variable {h:List qb}
theorem qaC (n:Int):Wd (.fn 50 [] []) [.int .i64 n] h = some (.ret (rI n 0),h,false):=by
 rw [qr rfl (show T.get 50 = some c50 by kernel_rfl)]
 simp only [sB.1,c50,simprocAttr,-Int.reduceNatCast',qaK,rI]
theorem qan (e:Int):Wd (.fn 55 [] []) [.int .i64 e] h = some (.ret (rI 0 e),h,false):=by
 rw [qr rfl (show T.get 55 = some c55 by kernel_rfl)]
 simp only [sB.1,c55,simprocAttr,-Int.reduceNatCast',qaK,rI]
theorem qrS (x:Nat):qbm .and (.int .u64 (x:Int)) (.int .u64 4294967295) = some (.int .u64 ((x % 4294967296:Nat):Int)):=by
 have h:(BitVec.ofInt 64 (x:Int) &&& BitVec.ofInt 64 4294967295).toNat = x % 4294967296:=by
  have e:(BitVec.ofInt 64 4294967295).toNat = 2 ^ 32 - 1:=by decide
  rw [BitVec.toNat_and,e,Nat.and_two_pow_sub_one_eq_mod]
  simp [BitVec.toNat_ofInt]
 have h2:IntKind.u64.wrap ((x % 4294967296:Nat):Int) = ((x % 4294967296:Nat):Int):=by
  rw [IntKind.wrap_u64];omega
 have e:qbm .and (.int .u64 (x:Int)) (.int .u64 4294967295) = some (.int .u64 (IntKind.u64.wrap (((BitVec.ofInt 64 (x:Int) &&& BitVec.ofInt 64 4294967295).toNat:Nat):Int))):=by
  simp only [qbm,qbh,if_true,IntKind.bits]
  rfl
 rw [e,h,h2]
theorem qrU (x:Nat):qbm .shr (.int .u64 (x:Int)) (.int .u64 32) = some (.int .u64 ((x / 4294967296:Nat):Int)):=by
 have h:((x:Int)).fdiv (2 ^ (min 32 64)) = ((x / 4294967296:Nat):Int):=by
  rw [Int.fdiv_eq_ediv_of_nonneg _ (by decide)]
  simp
 simp only [qbm,qbh,IntKind.bits]
 rw [if_neg (by decide)]
 exact congrArg (fun z=>some (qa.int .u64 z)) h
theorem qAV {a b:Nat} (h:a * b < 18446744073709551616):IntKind.u64.wrap ((a:Int) * (b:Int)) = ((a * b:Nat):Int):=by
 rw [IntKind.wrap_u64,←Int.natCast_mul];omega
theorem qAU {a b:Nat} (h:a + b < 18446744073709551616):IntKind.u64.wrap ((a:Int) + (b:Int)) = ((a + b:Nat):Int):=by
 rw [IntKind.wrap_u64];omega
theorem qtI {x y:Nat} (hx:x < 18446744073709551616) (hy:y < 18446744073709551616):Wd (.fn 112 [] []) [.int .u64 (x:Int),.int .u64 (y:Int)] h = some (.ret (.tup [.int .u64 ((x * y / 18446744073709551616:Nat):Int),.int .u64 (IntKind.u64.wrap ((x:Int) * (y:Int)))]),h,false):=by
 obtain ⟨h1,h2,h3,h4⟩:=Lib.mul64_hi x y hx hy
 have ha:=Lib.half_mul_le (a:=x / 4294967296) (b:=y % 4294967296) (by omega) (by omega)
 have hb:=Lib.half_mul_le (a:=x % 4294967296) (b:=y / 4294967296) (by omega) (by omega)
 have hc:=Lib.half_mul_le (a:=x / 4294967296) (b:=y / 4294967296) (by omega) (by omega)
 have m2:x / 4294967296 * (y % 4294967296) < 18446744073709551616:=by omega
 have m3:x % 4294967296 * (y / 4294967296) < 18446744073709551616:=by omega
 have m4:x / 4294967296 * (y / 4294967296) < 18446744073709551616:=by omega
 have m5:x / 4294967296 * (y / 4294967296) + (x / 4294967296 * (y % 4294967296) + x % 4294967296 * (y % 4294967296) / 4294967296) / 4294967296 < 18446744073709551616:=by omega
 have m6:x * y / 18446744073709551616 < 18446744073709551616:=by
  rw [←h4];omega
 rw [←h4] at m6
 rw [qr rfl (show T.get 112 = some qAH by kernel_rfl),←h4]
 simp only [sB.1,qAH,simprocAttr,-Int.reduceNatCast',qrS,qrU,qAV h1,qAV m2,qAV m3,qAV m4,qAU h2,qAU h3,qAU m5,qAU m6]
theorem qrT (n:Int):qbm .shr (.int .i64 n) (.int .u64 63) = some (.int .i64 (n.fdiv 9223372036854775808)):=by
 simp [qbm,qbh,IntKind.bits]
def hiV (sa sb:Bool) (H x y:Int):Int:=bif sb then IntKind.u64.wrap ((bif sa then IntKind.u64.wrap (H - y) else H) - x) else (bif sa then IntKind.u64.wrap (H - y) else H)
theorem qij {a b:Int} {x y:Nat} {sa sb q:Bool} (hx:IntKind.u64.wrap a = (x:Int)) (hy:IntKind.u64.wrap b = (y:Int)) (hxl:x < 18446744073709551616) (hyl:y < 18446744073709551616) (hsa:ilt a 0 = sa) (hsb:ilt b 0 = sb)
  (hq:(hiV sa sb ((x * y / 18446744073709551616:Nat):Int) x y == IntKind.u64.wrap ((IntKind.i64.wrap (IntKind.u64.wrap ((x:Int) * (y:Int)))).fdiv 9223372036854775808)) = q) :
  Wd (.fn 82 [] []) [.int .i64 a,.int .i64 b] h = some (.ret (bif q then rI (IntKind.i64.wrap (IntKind.u64.wrap ((x:Int) * (y:Int)))) 0 else rI 0 2),h,false):=by
 rw [qr rfl (show T.get 82 = some c82 by kernel_rfl)]
 cases sa <;> cases sb <;> simp only [hiV,cond_true,cond_false] at hq <;> cases q <;> simp only [sB.1,c82,simprocAttr,-Int.reduceNatCast',qaK,hx,hy,hsa,hsb,hq,qrT,qtI hxl hyl,qaC,qan,rI]
end
def I64 (a:Int):Prop:=-9223372036854775808 ≤ a∧a ≤ 9223372036854775807
def qiK (r:Int):Bool:=ile (-9223372036854775808) r && ile r 9223372036854775807
theorem qaY {r:Int}:qiK r = true↔I64 r:=by simp [qiK,qaw,I64]
def qqd (r:Int):Int:=bif qiK r then r else 0
def qtN (r:Int):Int:=bif qiK r then 0 else 2
def qdS (op a b:Int):Int×Int:=
 if op = 15 then (qqd (a + b),qtN (a + b)) else if op = 16 then (qqd (a - b),qtN (a - b)) else if op = 17 then (qqd (a * b),qtN (a * b))
 else if b = 0 then (0,3) else if op = 18 then (qqd (a.tdiv b),qtN (a.tdiv b)) else (a.tmod b,0)
theorem qem {r:Int} (h:I64 r):IntKind.i64.wrap r = r:=by
 obtain ⟨h1,h2⟩:=h
 rw [IntKind.wrap_i64]
 omega
theorem qig {r w:Int} {q:Bool} (hq:q = qiK r) (hw:q = true→w = r):(bif q then rI w 0 else rI 0 2) = rI (qqd r) (qtN r):=by
 subst hq
 cases h:qiK r with
 | true=>rw [hw h];simp [qqd,qtN,h]
 | false=>simp [qqd,qtN,h]
section
variable {h:List qb} {a b:Int}
theorem qA3 (ha:I64 a) (hb:I64 b):(ilt a (IntKind.i64.wrap (a + b)) == ilt 0 b) = qiK (a + b):=by
 obtain ⟨a1,a2⟩:=ha
 obtain ⟨b1,b2⟩:=hb
 rw [Bool.eq_iff_iff,beq_iff_eq,qaY,IntKind.wrap_i64,qf,qf,decide_eq_decide,I64]
 omega
theorem qAq (ha:I64 a) (hb:I64 b):(ilt (IntKind.i64.wrap (a - b)) a == ilt 0 b) = qiK (a - b):=by
 obtain ⟨a1,a2⟩:=ha
 obtain ⟨b1,b2⟩:=hb
 rw [Bool.eq_iff_iff,beq_iff_eq,qaY,IntKind.wrap_i64,qf,qf,decide_eq_decide,I64]
 omega
theorem qna (ha:I64 a) (hb:I64 b):-85070591730234615865843651857942052864 ≤ a * b∧a * b ≤ 85070591730234615865843651857942052864:=by
 obtain ⟨a1,a2⟩:=ha
 obtain ⟨b1,b2⟩:=hb
 have:(a * b).natAbs ≤ 9223372036854775808 * 9223372036854775808:=by
  rw [Int.natAbs_mul]
  exact Nat.mul_le_mul (by omega) (by omega)
 omega
theorem qqD {x y:Nat} (ha:I64 a) (hb:I64 b) (hx:IntKind.u64.wrap a = (x:Int)) (hy:IntKind.u64.wrap b = (y:Int)) :
  ((x * y:Nat):Int) = a * b + (bif ilt a 0 then 18446744073709551616 * b else 0) + (bif ilt b 0 then 18446744073709551616 * a else 0) + (bif ilt a 0 && ilt b 0 then 18446744073709551616 * 18446744073709551616 else 0):=by
 obtain ⟨a1,a2⟩:=ha
 obtain ⟨b1,b2⟩:=hb
 rw [IntKind.wrap_u64] at hx hy
 rw [Int.natCast_mul,←hx,←hy,qf,qf]
 rcases Int.lt_or_le a 0 with la | la <;> rcases Int.lt_or_le b 0 with lb | lb
 ·have e1:a % 18446744073709551616 = a + 18446744073709551616:=by omega
  have e2:b % 18446744073709551616 = b + 18446744073709551616:=by omega
  rw [e1,e2,decide_eq_true la,decide_eq_true lb,Int.add_mul,Int.mul_add,Int.mul_add]
  simp only [Bool.and_true,cond_true]
  omega
 ·have e1:a % 18446744073709551616 = a + 18446744073709551616:=by omega
  have e2:b % 18446744073709551616 = b:=by omega
  rw [e1,e2,decide_eq_true la,decide_eq_false (by omega),Int.add_mul]
  simp
 ·have e1:a % 18446744073709551616 = a:=by omega
  have e2:b % 18446744073709551616 = b + 18446744073709551616:=by omega
  rw [e1,e2,decide_eq_false (by omega),decide_eq_true lb,Int.mul_add]
  simp only [Bool.false_and,cond_true,cond_false]
  omega
 ·have e1:a % 18446744073709551616 = a:=by omega
  have e2:b % 18446744073709551616 = b:=by omega
  rw [e1,e2,decide_eq_false (by omega),decide_eq_false (by omega)]
  simp
theorem qxS {x y:Nat} (ha:I64 a) (hb:I64 b) (hx:IntKind.u64.wrap a = (x:Int)) (hy:IntKind.u64.wrap b = (y:Int)) :
  hiV (ilt a 0) (ilt b 0) ((x * y / 18446744073709551616:Nat):Int) x y = IntKind.u64.wrap (a * b / 18446744073709551616):=by
 have e:=qqD ha hb hx hy
 have hm:=qna ha hb
 obtain ⟨a1,a2⟩:=ha
 obtain ⟨b1,b2⟩:=hb
 rw [IntKind.wrap_u64] at hx hy
 generalize a * b = p at *
 generalize x * y = n at *
 have key:((n / 18446744073709551616:Nat):Int) = (n:Int) / 18446744073709551616:=by omega
 rw [key]
 rw [qf,qf] at e ⊢
 rcases Int.lt_or_le a 0 with la | la <;> rcases Int.lt_or_le b 0 with lb | lb
 ·rw [decide_eq_true la,decide_eq_true lb] at e ⊢
  simp only [hiV,Bool.and_true,cond_true,IntKind.wrap_u64] at e ⊢
  have hxa:(x:Int) = a + 18446744073709551616:=by omega
  have hyb:(y:Int) = b + 18446744073709551616:=by omega
  have hd:(n:Int) / 18446744073709551616 = p / 18446744073709551616 + b + a + 18446744073709551616:=by omega
  rw [hd,hxa,hyb]
  omega
 ·rw [decide_eq_true la,decide_eq_false (p:=b < 0) (by omega)] at e ⊢
  simp only [hiV,Bool.and_false,cond_true,cond_false,IntKind.wrap_u64] at e ⊢
  have hyb:(y:Int) = b:=by omega
  have hd:(n:Int) / 18446744073709551616 = p / 18446744073709551616 + b:=by omega
  rw [hd,hyb]
  omega
 ·rw [decide_eq_false (p:=a < 0) (by omega),decide_eq_true lb] at e ⊢
  simp only [hiV,Bool.false_and,cond_true,cond_false,IntKind.wrap_u64] at e ⊢
  have hxa:(x:Int) = a:=by omega
  have hd:(n:Int) / 18446744073709551616 = p / 18446744073709551616 + a:=by omega
  rw [hd,hxa]
  omega
 ·have l1:0 ≤ p:=by
   rw [decide_eq_false (p:=a < 0) (by omega),decide_eq_false (p:=b < 0) (by omega)] at e
   simp only [Bool.false_and,cond_false] at e
   omega
  rw [decide_eq_false (p:=a < 0) (by omega),decide_eq_false (p:=b < 0) (by omega)] at e ⊢
  simp only [hiV,Bool.false_and,cond_false,IntKind.wrap_u64] at e ⊢
  have hd:(n:Int) = p:=by omega
  rw [hd]
  omega
theorem qxT {x y:Nat} (ha:I64 a) (hb:I64 b) (hx:IntKind.u64.wrap a = (x:Int)) (hy:IntKind.u64.wrap b = (y:Int)) :
  IntKind.i64.wrap (IntKind.u64.wrap ((x:Int) * (y:Int))) = IntKind.i64.wrap (a * b):=by
 have e:=qqD ha hb hx hy
 rw [←Int.natCast_mul]
 generalize a * b = p at *
 generalize x * y = n at *
 rw [IntKind.wrap_u64,IntKind.wrap_i64,IntKind.wrap_i64]
 generalize ilt a 0 = sa at e
 generalize ilt b 0 = sb at e
 cases sa <;> cases sb <;> simp only [Bool.and_true,Bool.and_false,Bool.false_and,cond_true,cond_false] at e <;> omega
theorem qmB (ha:I64 a) (hb:I64 b):Wd (.fn 82 [] []) [.int .i64 a,.int .i64 b] h = some (.ret (rI (qqd (a * b)) (qtN (a * b))),h,false):=by
 have hx:IntKind.u64.wrap a = ((IntKind.u64.wrap a).toNat:Int):=by rw [IntKind.wrap_u64];omega
 have hy:IntKind.u64.wrap b = ((IntKind.u64.wrap b).toNat:Int):=by rw [IntKind.wrap_u64];omega
 have hxl:(IntKind.u64.wrap a).toNat < 18446744073709551616:=by rw [IntKind.wrap_u64];omega
 have hyl:(IntKind.u64.wrap b).toNat < 18446744073709551616:=by rw [IntKind.wrap_u64];omega
 have hm:=qna ha hb
 rw [qij hx hy hxl hyl rfl rfl rfl,qxS ha hb hx hy,qxT ha hb hx hy]
 have hq:(IntKind.u64.wrap (a * b / 18446744073709551616) == IntKind.u64.wrap ((IntKind.i64.wrap (a * b)).fdiv 9223372036854775808)) = qiK (a * b):=by
  generalize a * b = p at *
  rw [Bool.eq_iff_iff,beq_iff_eq,qaY,Int.fdiv_eq_ediv_of_nonneg _ (by decide),IntKind.wrap_u64,IntKind.wrap_u64,IntKind.wrap_i64,I64]
  omega
 rw [qig hq fun hf=>qem (qaY.1 (hq▸hf))]
theorem qBj (ha:I64 a) (hb:I64 b) (h0:b ≠ 0):(!(a == -9223372036854775808) || !(b == -1)) = qiK (a.tdiv b):=by
 obtain ⟨a1,a2⟩:=ha
 have hab:=Int.natAbs_tdiv a b
 rw [Bool.eq_iff_iff,qaY,I64]
 simp only [Bool.or_eq_true,Bool.not_eq_true',beq_eq_false_iff_ne,ne_eq]
 by_cases h1:b = -1
 ·subst h1
  rw [Int.tdiv_neg,Int.tdiv_one]
  omega
 ·by_cases h2:b = 1
  ·subst h2
   rw [Int.tdiv_one]
   omega
  ·have h3:a.natAbs / b.natAbs ≤ a.natAbs / 2:=Nat.div_le_div_left (by omega) (by omega)
   generalize a.tdiv b = t at *
   have h4:t.natAbs ≤ a.natAbs / 2:=by rw [hab];exact h3
   omega
theorem qhr (h0:b ≠ 0):(b == 0) = false∧(b = 0) = False:=⟨by simpa using h0,by simp [h0]⟩
end
theorem quy {n:Int} (h1:-9223372036854775808 ≤ n) (h2:n ≤ 9223372036854775807):IntKind.i64.wrap n = n:=by
 rw [IntKind.wrap_i64]
 omega
theorem q9 {n:Nat} (h:n < 9223372036854775807):IntKind.i64.wrap ((n:Int) + 1) = ((n + 1:Nat):Int):=by
 rw [quy (by omega) (by omega)]
 rfl
section
variable {h:List qb}
def cy (S n:Int):Int:=(S % 18446744073709551616 + n % 18446744073709551616) / 18446744073709551616
def loS (S:Int):Int:=S % 18446744073709551616
def hiS (S:Int):Int:=(S / 18446744073709551616) % 18446744073709551616
theorem qrI (x y c:Int):Wd (.fn 107 [] []) [.int .u64 x,.int .u64 y,.int .u64 c] h = qdR Wd [.int .u64 x,.int .u64 y,.int .u64 c] h:=by
 rw [show Wd = W T.get X from rfl,qvi qj6 (show X 107 = some qdR from rfl)]
 rfl
theorem qka {x y c:Int} (h1:0 ≤ x) (h2:0 ≤ y) (h3:0 ≤ c) (h4:c ≤ 1):Wd (.fn 107 [] []) [.int .u64 x,.int .u64 y,.int .u64 c] h = some (.ret (.tup [.int .u64 ((x + y + c) % 18446744073709551616),.int .u64 ((x + y + c) / 18446744073709551616)]),h,false):=by
 rw [qrI]
 unfold qdR
 simp only [qaw,decide_eq_true h1,decide_eq_true h2,decide_eq_true h3,decide_eq_true h4,Bool.and_true,cond_true]
theorem qw5 (S n:Int):Wd (.fn 107 [] []) [.int .u64 (loS S),.int .u64 (IntKind.u64.wrap n),.int .u64 0] h = some (.ret (.tup [.int .u64 (loS (S + n)),.int .u64 (cy S n)]),h,false):=by
 rw [IntKind.wrap_u64,qka (by unfold loS;omega) (by omega) (by omega) (by omega)]
 unfold loS cy
 have e:(S % 18446744073709551616 + n % 18446744073709551616 + 0) % 18446744073709551616 = (S + n) % 18446744073709551616:=by omega
 rw [e,Int.add_zero]
theorem qwD (S:Int) {n:Int} (hn:I64 n):∃c,Wd (.fn 107 [] []) [.int .u64 (hiS S),.int .u64 (IntKind.u64.wrap (n / 9223372036854775808)),.int .u64 (cy S n)] h = some (.ret (.tup [.int .u64 (hiS (S + n)),.int .u64 c]),h,false):=by
 obtain ⟨n1,n2⟩:=hn
 refine ⟨(hiS S + n / 9223372036854775808 % 18446744073709551616 + cy S n) / 18446744073709551616,?_⟩
 rw [IntKind.wrap_u64,qka (by unfold hiS;omega) (by omega) (by unfold cy;omega) (by unfold cy;omega)]
 have e:(hiS S + n / 9223372036854775808 % 18446744073709551616 + cy S n) % 18446744073709551616 = hiS (S + n):=by
  have e1:(S + n) / 18446744073709551616 = S / 18446744073709551616 + n / 9223372036854775808 + cy S n:=by
   unfold cy
   omega
  unfold hiS
  rw [e1]
  generalize S / 18446744073709551616 = a
  generalize n / 9223372036854775808 = b
  generalize cy S n = c
  omega
 rw [e]
theorem qiR (n:Int):qbm .shr (.int .i64 n) (.int .u64 63) = some (.int .i64 (n / 9223372036854775808)):=by
 have h:n.fdiv (2 ^ (min 63 64)) = n / 9223372036854775808:=by
  rw [Int.fdiv_eq_ediv_of_nonneg _ (by decide)]
  simp
 simp only [qbm,qbh,IntKind.bits]
 rw [if_neg (by decide)]
 exact congrArg (fun z=>some (qa.int .i64 z)) h
def qiv:List Int→Int
 | []=>0
 | n :: l=>n + qiv l
def qq2 (l:List Int):Prop:=∀n ∈ l,I64 n
theorem qiw:∀{l:List Int},qq2 l→-9223372036854775808 * (l.length:Int) ≤ qiv l∧qiv l ≤ 9223372036854775808 * (l.length:Int)
 | [],_=>by simp [qiv]
 | n :: l,hs=>by
  obtain ⟨h1,h2⟩:=qiw (l:=l) (fun x hx=>hs x (by simp [hx]))
  obtain ⟨n1,n2⟩:=hs n (by simp)
  simp only [qiv,List.length_cons,Int.natCast_add]
  omega
theorem qug {T:Int} (hT:-9223372036854775808 * 200 ≤ T∧T ≤ 9223372036854775808 * 200):(hiS T == IntKind.u64.wrap (IntKind.i64.wrap (loS T) / 9223372036854775808)) = qiK T∧(qiK T = true→IntKind.i64.wrap (loS T) = T):=by
 obtain ⟨q,o,e,o1,o2⟩ :∃q o:Int,T = 18446744073709551616 * q + o∧0 ≤ o∧o < 18446744073709551616:=⟨T / 18446744073709551616,T % 18446744073709551616,by omega,by omega,by omega⟩
 have eL:loS T = o:=by unfold loS;omega
 have eH:T / 18446744073709551616 = q:=by omega
 have q1:-200 ≤ q∧q ≤ 200:=by omega
 unfold hiS
 rw [eL,eH]
 rcases Int.lt_or_le o 9223372036854775808 with ho | ho
 ·have ew:IntKind.i64.wrap o = o:=by rw [IntKind.wrap_i64];omega
  rw [ew,show o / 9223372036854775808 = 0 by omega,show IntKind.u64.wrap 0 = 0 by kernel_rfl,Bool.eq_iff_iff,beq_iff_eq,qaY,I64]
  omega
 ·have ew:IntKind.i64.wrap o = o - 18446744073709551616:=by rw [IntKind.wrap_i64];omega
  rw [ew,show (o - 18446744073709551616) / 9223372036854775808 = -1 by omega,show IntKind.u64.wrap (-1) = 18446744073709551615 by kernel_rfl,Bool.eq_iff_iff,beq_iff_eq,qaY,I64]
  omega
end
section
variable (h:List qb)
theorem tm (n:Int):(n.tmod 4294967296 < 0→n.tmod 4294967296 + 4294967296 = n % 4294967296)∧(0 ≤ n.tmod 4294967296→n.tmod 4294967296 = n % 4294967296)∧-4294967296 < n.tmod 4294967296:=by
 rcases Int.le_total 0 n with h | h
 ·rw [Int.tmod_eq_emod_of_nonneg h]
  omega
 ·have e:n.tmod 4294967296 = -((-n) % 4294967296):=by rw [←Int.tmod_eq_emod_of_nonneg (by omega),Int.neg_tmod,Int.neg_neg]
  omega
theorem td (n:Int):(n - n % 4294967296).tdiv 4294967296 = n / 4294967296:=by
 rw [show n - n % 4294967296 = n / 4294967296 * 4294967296 by omega,Int.mul_tdiv_cancel _ (by decide)]
end
end Go.Proofs.YtnibchoenjmmjaaGreatDoor.AE
