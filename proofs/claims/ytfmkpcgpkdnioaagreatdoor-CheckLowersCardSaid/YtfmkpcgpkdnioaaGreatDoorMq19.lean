/- A part of the proof: the abstract executor and what goes through it (part 19). No condition. -/
import Derived.Test.YtfmkpcgpkdnioaaGreatDoorMq18
set_option maxRecDepth 100000
namespace Go.Proofs.YtfmkpcgpkdnioaaGreatDoor.AE
open Go.AE
structure Vr where
 ta:Str
 nm:Str
 k:Int
 L:List AVal
structure Pt where
 nm:Str
 k:Int
 L:List AVal
def vrR (v:Vr):List AVal:=[.str v.ta,.str v.nm,.int .i64 v.k,.lst v.L .no]
def vrV (v:Vr):AVal:=.agg [.str v.ta,.str v.nm,.int .i64 v.k,.lst v.L .no]
def ptV (p:Pt):AVal:=.agg [.str p.nm,.int .i64 p.k,.lst p.L .no]
def pos:List Str→Str→Nat→Int
 | [],_,_=>-1
 | x :: l,s,i=>bif x == s then (i:Int) else pos l s (i + 1)
theorem vrR_still (v:Vr):Still (vrR v):=by
 intro c hc
 simp only [vrR,List.mem_cons,List.not_mem_nil,or_false] at hc
 rcases hc with rfl | rfl | rfl | rfl <;> exact ⟨rfl,rfl⟩
theorem rows_still:∀vs:List Vr,Still (vs.map vrR).flatten:=by
 intro vs c hc
 obtain ⟨l,hl,hc⟩:=List.mem_flatten.1 hc
 obtain ⟨v,_,rfl⟩:=List.mem_map.1 hl
 exact vrR_still v c hc
theorem rows_four (vs:List Vr):∀v ∈ vs.map vrR,v.length = 4:=fun v hv=>by
 obtain ⟨x,_,rfl⟩:=List.mem_map.1 hv
 rfl
def VarsAt (h:List ABox) (vs:List Vr) (V:AVal):Prop:=(vs = []∧V = .lst [] .full)∨∃id,V = .sl id 0 vs.length vs.length 4∧h[id]? = some (.cells (vs.map vrR).flatten)
section
variable {h:List ABox}
theorem refVr_ok (vs:List Vr) (s:Str) (hl:vs.length ≤ 100000):Wd (.fn 22 [] []) [.lst (vs.map vrV) .no,.str s] h = some (.ret (.int .i64 (pos (vs.map (·.nm)) s 0)),h,false):=by
 have loop:∀q st,(∃(tt:List AVal) (i:Nat),st = ⟨tt,h,false⟩∧tt.length = 20∧lkp tt 0 = .lst (vs.map vrV) .no∧lkp tt 1 = .str s∧lkp tt 5 = .int .i64 (i:Nat)∧i + q = vs.length∧pos ((vs.map (·.nm)).drop i) s i = pos (vs.map (·.nm)) s 0)→
   ∃x st',execW h.length Wd (.loop l22_0) st = some (x,st')∧(∃tt:List AVal,st' = ⟨tt,h,false⟩∧tt.length = 20∧((x = .exit 0∧pos (vs.map (·.nm)) s 0 = -1)∨(x = .ret∧lkp tt 4 = .int .i64 (pos (vs.map (·.nm)) s 0)))):=by
  refine loop_rule _ (fun x st'=>∃tt:List AVal,st' = ⟨tt,h,false⟩∧tt.length = 20∧((x = .exit 0∧pos (vs.map (·.nm)) s 0 = -1)∨(x = .ret∧lkp tt 4 = .int .i64 (pos (vs.map (·.nm)) s 0)))) ?_
  rintro q st ⟨tt,i,rfl,ht,e0,e1,e5,hiq,hR⟩
  generalize he:execW h.length Wd l22_0 _ = r
  rcases Nat.lt_or_ge i vs.length with hi | hi
  ·have c1:ilt (i:Int) (vs.length:Int) = true:=iltT (by omega)
   have w:=wrap_succ (n:=i) (by omega)
   have hi':i < (vs.map (·.nm)).length:=by simpa using hi
   have hg:(vs.map vrV)[i]? = some (vrV vs[i]):=by rw [List.getElem?_map,List.getElem?_eq_getElem hi];rfl
   rw [List.drop_eq_getElem_cons hi',pos,List.getElem_map] at hR
   generalize vs[i] = y at hg hR
   have hx:ixaV 4 (.lst (vs.map vrV) .no) (.int .i64 (i:Nat)) = some (.iptr [.str y.ta,.str y.nm,.int .i64 y.k,.lst y.L .no] 0):=ixaV_get hg rfl
   cases hb:(y.nm == s) with
   | true=>
    rw [hb,cond_true] at hR
    simp only [l22_0,sT.1,sC.1,noApp,lookV,Nat.testBit,simprocAttr,-Int.reduceNatCast',ht,e0,e1,e5,c1,hx,w,hb,List.length_map] at he
    subst he
    refine .inr ⟨_,_,rfl,by simp,_,rfl,by simp only [length_up,ht],.inr ⟨rfl,?_⟩⟩
    rw [←hR]
    simp only [sT.1,sC.1,noApp,lookV,Nat.testBit,simprocAttr,-Int.reduceNatCast',ht]
   | false=>
    rw [hb,cond_false] at hR
    simp only [l22_0,sT.1,sC.1,noApp,lookV,Nat.testBit,simprocAttr,-Int.reduceNatCast',ht,e0,e1,e5,c1,hx,w,hb,List.length_map] at he
    subst he
    refine .inl ⟨_,q - 1,rfl,by omega,_,i + 1,rfl,by simp only [length_up,ht],?_,?_,?_,by omega,hR⟩
    ·simp only [sT.1,sC.1,noApp,lookV,Nat.testBit,simprocAttr,-Int.reduceNatCast',ht,e0]
    ·simp only [sT.1,sC.1,noApp,lookV,Nat.testBit,simprocAttr,-Int.reduceNatCast',ht,e1]
    ·simp only [sT.1,sC.1,noApp,lookV,Nat.testBit,simprocAttr,-Int.reduceNatCast',ht]
  ·have c1:ilt (i:Int) (vs.length:Int) = false:=iltF (by omega)
   rw [List.drop_eq_nil_of_le (by simpa using hi),pos] at hR
   simp only [l22_0,sT.1,sC.1,noApp,lookV,Nat.testBit,simprocAttr,-Int.reduceNatCast',ht,e0,e1,e5,c1,List.length_map] at he
   subst he
   exact .inr ⟨_,_,rfl,by simp,_,rfl,by simp only [length_up,ht],.inl ⟨rfl,hR.symm⟩⟩
 generalize hw:Wd _ _ h = w
 rw [Wd_fn rfl (show T.get 22 = some c22 by kernel_rfl)] at hw
 simp only [c22,sT.1,sC.1,noApp,lookV,Nat.testBit,simprocAttr,-Int.reduceNatCast'] at hw
 generalize hr:execW h.length Wd (.loop l22_0) _ = r at hw
 obtain ⟨x,st',rfl,tt,rfl,ht,hq⟩:=known hr (loop vs.length _ ⟨_,0,rfl,by simp only [sT.1,sC.1,noApp,lookV,Nat.testBit,simprocAttr,-Int.reduceNatCast'],by simp only [sT.1,sC.1,noApp,lookV,Nat.testBit,simprocAttr,-Int.reduceNatCast'],by simp only [sT.1,sC.1,noApp,lookV,Nat.testBit,simprocAttr,-Int.reduceNatCast'],by simp only [sT.1,sC.1,noApp,lookV,Nat.testBit,simprocAttr,-Int.reduceNatCast',Int.natCast_zero],by omega,rfl⟩)
 rcases hq with ⟨rfl,hp⟩ | ⟨rfl,e4⟩
 ·simp only [sT.1,sC.1,noApp,lookV,Nat.testBit,simprocAttr,-Int.reduceNatCast',ht] at hw
  rw [hp]
  exact hw.symm
 ·simp only [sT.1,sC.1,noApp,lookV,Nat.testBit,simprocAttr,-Int.reduceNatCast',ht,e4] at hw
  exact hw.symm
theorem refPt_ok (vs:List Pt) (s:Str) (hl:vs.length ≤ 100000):Wd (.fn 23 [] []) [.lst (vs.map ptV) .no,.str s] h = some (.ret (.int .i64 (pos (vs.map (·.nm)) s 0)),h,false):=by
 have loop:∀q st,(∃(tt:List AVal) (i:Nat),st = ⟨tt,h,false⟩∧tt.length = 20∧lkp tt 0 = .lst (vs.map ptV) .no∧lkp tt 1 = .str s∧lkp tt 5 = .int .i64 (i:Nat)∧i + q = vs.length∧pos ((vs.map (·.nm)).drop i) s i = pos (vs.map (·.nm)) s 0)→
   ∃x st',execW h.length Wd (.loop l23_0) st = some (x,st')∧(∃tt:List AVal,st' = ⟨tt,h,false⟩∧tt.length = 20∧((x = .exit 0∧pos (vs.map (·.nm)) s 0 = -1)∨(x = .ret∧lkp tt 4 = .int .i64 (pos (vs.map (·.nm)) s 0)))):=by
  refine loop_rule _ (fun x st'=>∃tt:List AVal,st' = ⟨tt,h,false⟩∧tt.length = 20∧((x = .exit 0∧pos (vs.map (·.nm)) s 0 = -1)∨(x = .ret∧lkp tt 4 = .int .i64 (pos (vs.map (·.nm)) s 0)))) ?_
  rintro q st ⟨tt,i,rfl,ht,e0,e1,e5,hiq,hR⟩
  generalize he:execW h.length Wd l23_0 _ = r
  rcases Nat.lt_or_ge i vs.length with hi | hi
  ·have c1:ilt (i:Int) (vs.length:Int) = true:=iltT (by omega)
   have w:=wrap_succ (n:=i) (by omega)
   have hi':i < (vs.map (·.nm)).length:=by simpa using hi
   have hg:(vs.map ptV)[i]? = some (ptV vs[i]):=by rw [List.getElem?_map,List.getElem?_eq_getElem hi];rfl
   rw [List.drop_eq_getElem_cons hi',pos,List.getElem_map] at hR
   generalize vs[i] = y at hg hR
   have hx:ixaV 3 (.lst (vs.map ptV) .no) (.int .i64 (i:Nat)) = some (.iptr [.str y.nm,.int .i64 y.k,.lst y.L .no] 0):=ixaV_get hg rfl
   cases hb:(y.nm == s) with
   | true=>
    rw [hb,cond_true] at hR
    simp only [l23_0,sT.1,sC.1,noApp,lookV,Nat.testBit,simprocAttr,-Int.reduceNatCast',ht,e0,e1,e5,c1,hx,w,hb,List.length_map] at he
    subst he
    refine .inr ⟨_,_,rfl,by simp,_,rfl,by simp only [length_up,ht],.inr ⟨rfl,?_⟩⟩
    rw [←hR]
    simp only [sT.1,sC.1,noApp,lookV,Nat.testBit,simprocAttr,-Int.reduceNatCast',ht]
   | false=>
    rw [hb,cond_false] at hR
    simp only [l23_0,sT.1,sC.1,noApp,lookV,Nat.testBit,simprocAttr,-Int.reduceNatCast',ht,e0,e1,e5,c1,hx,w,hb,List.length_map] at he
    subst he
    refine .inl ⟨_,q - 1,rfl,by omega,_,i + 1,rfl,by simp only [length_up,ht],?_,?_,?_,by omega,hR⟩
    ·simp only [sT.1,sC.1,noApp,lookV,Nat.testBit,simprocAttr,-Int.reduceNatCast',ht,e0]
    ·simp only [sT.1,sC.1,noApp,lookV,Nat.testBit,simprocAttr,-Int.reduceNatCast',ht,e1]
    ·simp only [sT.1,sC.1,noApp,lookV,Nat.testBit,simprocAttr,-Int.reduceNatCast',ht]
  ·have c1:ilt (i:Int) (vs.length:Int) = false:=iltF (by omega)
   rw [List.drop_eq_nil_of_le (by simpa using hi),pos] at hR
   simp only [l23_0,sT.1,sC.1,noApp,lookV,Nat.testBit,simprocAttr,-Int.reduceNatCast',ht,e0,e1,e5,c1,List.length_map] at he
   subst he
   exact .inr ⟨_,_,rfl,by simp,_,rfl,by simp only [length_up,ht],.inl ⟨rfl,hR.symm⟩⟩
 generalize hw:Wd _ _ h = w
 rw [Wd_fn rfl (show T.get 23 = some c23 by kernel_rfl)] at hw
 simp only [c23,sT.1,sC.1,noApp,lookV,Nat.testBit,simprocAttr,-Int.reduceNatCast'] at hw
 generalize hr:execW h.length Wd (.loop l23_0) _ = r at hw
 obtain ⟨x,st',rfl,tt,rfl,ht,hq⟩:=known hr (loop vs.length _ ⟨_,0,rfl,by simp only [sT.1,sC.1,noApp,lookV,Nat.testBit,simprocAttr,-Int.reduceNatCast'],by simp only [sT.1,sC.1,noApp,lookV,Nat.testBit,simprocAttr,-Int.reduceNatCast'],by simp only [sT.1,sC.1,noApp,lookV,Nat.testBit,simprocAttr,-Int.reduceNatCast'],by simp only [sT.1,sC.1,noApp,lookV,Nat.testBit,simprocAttr,-Int.reduceNatCast',Int.natCast_zero],by omega,rfl⟩)
 rcases hq with ⟨rfl,hp⟩ | ⟨rfl,e4⟩
 ·simp only [sT.1,sC.1,noApp,lookV,Nat.testBit,simprocAttr,-Int.reduceNatCast',ht] at hw
  rw [hp]
  exact hw.symm
 ·simp only [sT.1,sC.1,noApp,lookV,Nat.testBit,simprocAttr,-Int.reduceNatCast',ht,e4] at hw
  exact hw.symm
theorem mkF_look (t:List AVal) (f:FuncId) (a b:List AOpd):pureV t (.mkF f a b) = some (.fn f (a.map (ev t)) (b.map (ev t))):=rfl
theorem varPlace1_ok (y:Vr) {b:Nat} {s:Str} {H:List ABox} (hb:H[b]? = some (.cells [.str s])):Wd (.fn 65 [] [.ptr b 0]) [.agg [.str y.ta,.str y.nm,.int .i64 y.k,.lst y.L .no]] H = some (.ret (.bool (y.nm == s)),H,false):=by
 have hb2:∀X,(H ++ X)[b]? = some (.cells [.str s]):=fun X=>by rw [List.getElem?_append_left (List.getElem?_eq_some_iff.1 hb).1];exact hb
 rw [Wd_fn rfl (show T.get 65 = some c65 by kernel_rfl)]
 simp only [c65,sT.1,sC.1,noApp,lookV,Nat.testBit,simprocAttr,-Int.reduceNatCast',hb2]
theorem varPlace0_ok (vs:List Vr) (V:AVal) (hV:VarsAt h vs V) (s:Str) (hl:vs.length ≤ 100000) {b:Nat} (hb:h[b]? = some (.cells [.str s])):Wd (.fn 64 [] []) [V,.fn 65 [] [.ptr b 0]] h = some (.ret (.int .i64 (pos (vs.map (·.nm)) s 0)),h,false):=by
 have hVd:V.dim = V:=by rcases hV with ⟨_,rfl⟩ | ⟨id,rfl,_⟩ <;> rfl
 have hVw:∀i t,drainW V i t = t:=by rcases hV with ⟨_,rfl⟩ | ⟨id,rfl,_⟩ <;> exact fun _ _=>rfl
 have hVl:lenV false V = some (.int .i64 (vs.length:Nat)):=by rcases hV with ⟨rfl,rfl⟩ | ⟨id,rfl,_⟩ <;> rfl
 have loop:∀q st,(∃(tt:List AVal) (G:List ABox) (i:Nat),st = ⟨tt,G,false⟩∧tt.length = 19∧G.take h.length = h∧h.length ≤ G.length∧lkp tt 1 = .fn 65 [] [.ptr b 0]∧lkp tt 7 = V∧lkp tt 8 = .int .i64 (vs.length:Nat)∧lkp tt 9 = .int .i64 (i:Nat)∧i + q = vs.length∧pos ((vs.map (·.nm)).drop i) s i = pos (vs.map (·.nm)) s 0)→
   ∃x st',execW h.length Wd (.loop l64_0) st = some (x,st')∧(∃(tt:List AVal) (G:List ABox),st' = ⟨tt,G,false⟩∧tt.length = 19∧G.take h.length = h∧((x = .exit 0∧pos (vs.map (·.nm)) s 0 = -1)∨(x = .ret∧lkp tt 4 = .int .i64 (pos (vs.map (·.nm)) s 0)))):=by
  refine loop_rule _ (fun x st'=>∃(tt:List AVal) (G:List ABox),st' = ⟨tt,G,false⟩∧tt.length = 19∧G.take h.length = h∧((x = .exit 0∧pos (vs.map (·.nm)) s 0 = -1)∨(x = .ret∧lkp tt 4 = .int .i64 (pos (vs.map (·.nm)) s 0)))) ?_
  rintro q st ⟨tt,G,i,rfl,ht,hG1,hG2,e1,e7,e8,e9,hiq,hR⟩
  generalize he:execW h.length Wd l64_0 _ = r
  rcases Nat.lt_or_ge i vs.length with hi | hi
  ·have c1:ilt (i:Int) (vs.length:Int) = true:=iltT (by omega)
   have w:=wrap_succ (n:=i) (by omega)
   have hi':i < (vs.map (·.nm)).length:=by simpa using hi
   obtain ⟨id,ho,hx,hcut⟩ :∃id,G[id]? = some (.cells (vs.map vrR).flatten)∧ixaV 4 V (.int .i64 (i:Nat)) = some (.ptr id (i * 4))∧Go.AE.cut (vs.map vrR).flatten (i * 4) (some 4) = some (.agg (vrR vs[i])):=by
    rcases hV with ⟨rfl,_⟩ | ⟨id,rfl,hid⟩
    ·simp at hi
    ·refine ⟨id,?_,sl_at hi,?_⟩
     ·rw [←hG1,List.getElem?_take] at hid
      split at hid
      ·exact hid
      ·cases hid
     ·rw [cut_flat (rows_four vs) (by simpa using hi) (by rw [List.getElem_map];exact fun c hc=>(vrR_still _ c hc).1),List.getElem_map]
   have hbG:G[b]? = some (.cells [.str s]):=by
    rw [←hG1,List.getElem?_take] at hb
    split at hb
    ·exact hb
    ·cases hb
   rw [List.drop_eq_getElem_cons hi',pos,List.getElem_map] at hR
   generalize vs[i] = y at hx hR hcut
   have hp:=varPlace1_ok y (H:=G ++ [.cells [.str y.ta,.str y.nm,.int .i64 y.k,.lst y.L .no]]) (b:=b) (s:=s) (by rw [List.getElem?_append_left (List.getElem?_eq_some_iff.1 hbG).1];exact hbG)
   have hbl:Nat.ble h.length G.length = true:=ble_true hG2
   rw [vrR] at hcut
   cases hb':(y.nm == s) with
   | true=>
    rw [hb',cond_true] at hR
    rw [hb'] at hp
    simp only [l64_0,sT.1,sC.1,noApp,lookV,Nat.testBit,simprocAttr,-Int.reduceNatCast',ht,e1,e7,e8,e9,c1,hx,w,hp,hbl,hVd,hVw,hVl,ho,hcut] at he
    subst he
    refine .inr ⟨_,_,rfl,by simp,_,_,rfl,?_,?_,.inr ⟨rfl,?_⟩⟩
    ·simp only [length_up,ht]
    ·rw [List.take_append_of_le_length hG2,hG1]
    ·rw [←hR]
     simp only [sT.1,sC.1,noApp,lookV,Nat.testBit,simprocAttr,-Int.reduceNatCast',ht]
   | false=>
    rw [hb',cond_false] at hR
    rw [hb'] at hp
    simp only [l64_0,sT.1,sC.1,noApp,lookV,Nat.testBit,simprocAttr,-Int.reduceNatCast',ht,e1,e7,e8,e9,c1,hx,w,hp,hbl,hVd,hVw,hVl,ho,hcut] at he
    subst he
    refine .inl ⟨_,q - 1,rfl,by omega,_,_,i + 1,rfl,?_,?_,?_,?_,?_,?_,?_,by omega,hR⟩
    ·simp only [length_up,ht]
    ·rw [List.take_append_of_le_length hG2,hG1]
    ·simp;omega
    ·simp only [sT.1,sC.1,noApp,lookV,Nat.testBit,simprocAttr,-Int.reduceNatCast',ht,e1]
    ·simp only [sT.1,sC.1,noApp,lookV,Nat.testBit,simprocAttr,-Int.reduceNatCast',ht,e7]
    ·simp only [sT.1,sC.1,noApp,lookV,Nat.testBit,simprocAttr,-Int.reduceNatCast',ht,e8]
    ·simp only [sT.1,sC.1,noApp,lookV,Nat.testBit,simprocAttr,-Int.reduceNatCast',ht]
  ·have c1:ilt (i:Int) (vs.length:Int) = false:=iltF (by omega)
   rw [List.drop_eq_nil_of_le (by simpa using hi),pos] at hR
   simp only [l64_0,sT.1,sC.1,noApp,lookV,Nat.testBit,simprocAttr,-Int.reduceNatCast',ht,e1,e7,e8,e9,c1] at he
   subst he
   exact .inr ⟨_,_,rfl,by simp,_,_,rfl,by simp only [length_up,ht],hG1,.inl ⟨rfl,hR.symm⟩⟩
 generalize hw:Wd _ _ h = w
 rw [Wd_fn rfl (show T.get 64 = some c64 by kernel_rfl)] at hw
 simp only [c64,sT.1,sC.1,noApp,lookV,Nat.testBit,simprocAttr,-Int.reduceNatCast',hVd,hVw,hVl] at hw
 generalize hr:execW h.length Wd (.loop l64_0) _ = r at hw
 obtain ⟨x,st',rfl,tt,G,rfl,ht,hG,hq⟩:=known hr (loop vs.length _ ⟨_,_,0,rfl,by simp only [sT.1,sC.1,noApp,lookV,Nat.testBit,simprocAttr,-Int.reduceNatCast'],by simp,by simp,by simp only [sT.1,sC.1,noApp,lookV,Nat.testBit,simprocAttr,-Int.reduceNatCast'],by simp only [sT.1,sC.1,noApp,lookV,Nat.testBit,simprocAttr,-Int.reduceNatCast',hVd,hVw,hVl],by simp only [sT.1,sC.1,noApp,lookV,Nat.testBit,simprocAttr,-Int.reduceNatCast'],by simp only [sT.1,sC.1,noApp,lookV,Nat.testBit,simprocAttr,-Int.reduceNatCast',Int.natCast_zero],by omega,rfl⟩)
 rcases hq with ⟨rfl,hp⟩ | ⟨rfl,e4⟩
 ·simp only [sT.1,sC.1,noApp,lookV,Nat.testBit,simprocAttr,-Int.reduceNatCast',ht] at hw
  subst hw
  rw [hp]
  exact congrArg some (leave_cut hG rfl)
 ·simp only [sT.1,sC.1,noApp,lookV,Nat.testBit,simprocAttr,-Int.reduceNatCast',ht,e4] at hw
  subst hw
  exact congrArg some (leave_cut hG rfl)
theorem varPlace_ok (vs:List Vr) (V:AVal) (hV:VarsAt h vs V) (s:Str) (hl:vs.length ≤ 100000):Wd (.fn 36 [] []) [V,.str s] h = some (.ret (.int .i64 (pos (vs.map (·.nm)) s 0)),h,false):=by
 have hVd:V.dim = V:=by rcases hV with ⟨_,rfl⟩ | ⟨id,rfl,_⟩ <;> rfl
 have hVw:∀i t,drainW V i t = t:=by rcases hV with ⟨_,rfl⟩ | ⟨id,rfl,_⟩ <;> exact fun _ _=>rfl
 have hVl:lenV false V = some (.int .i64 (vs.length:Nat)):=by rcases hV with ⟨rfl,rfl⟩ | ⟨id,rfl,_⟩ <;> rfl
 have hp:=varPlace0_ok vs V (h:=h ++ [.cells [.str s]]) (by rcases hV with hV | ⟨id,e,hid⟩;exact .inl hV;exact .inr ⟨id,e,by rw [List.getElem?_append_left (List.getElem?_eq_some_iff.1 hid).1];exact hid⟩) s hl (b:=h.length) (by rw [get_at];rfl)
 rw [Wd_fn rfl (show T.get 36 = some c36 by kernel_rfl)]
 simp only [c36,sT.1,sC.1,noApp,lookV,Nat.testBit,simprocAttr,-Int.reduceNatCast',mkF_look,hp,hVd,hVw]
theorem portPlace1_ok (y:Pt) {b:Nat} {s:Str} {H:List ABox} (hb:H[b]? = some (.cells [.str s])):Wd (.fn 67 [] [.ptr b 0]) [.agg [.str y.nm,.int .i64 y.k,.lst y.L .no]] H = some (.ret (.bool (y.nm == s)),H,false):=by
 have hb2:∀X,(H ++ X)[b]? = some (.cells [.str s]):=fun X=>by rw [List.getElem?_append_left (List.getElem?_eq_some_iff.1 hb).1];exact hb
 rw [Wd_fn rfl (show T.get 67 = some c67 by kernel_rfl)]
 simp only [c67,sT.1,sC.1,noApp,lookV,Nat.testBit,simprocAttr,-Int.reduceNatCast',hb2]
theorem portPlace0_ok (vs:List Pt) (s:Str) (hl:vs.length ≤ 100000) {b:Nat} (hb:h[b]? = some (.cells [.str s])):Wd (.fn 66 [] []) [(.lst (vs.map ptV) .no),.fn 67 [] [.ptr b 0]] h = some (.ret (.int .i64 (pos (vs.map (·.nm)) s 0)),h,false):=by
 have loop:∀q st,(∃(tt:List AVal) (G:List ABox) (i:Nat),st = ⟨tt,G,false⟩∧tt.length = 19∧G.take h.length = h∧h.length ≤ G.length∧lkp tt 1 = .fn 67 [] [.ptr b 0]∧lkp tt 7 = (.lst (vs.map ptV) .no)∧lkp tt 8 = .int .i64 (vs.length:Nat)∧lkp tt 9 = .int .i64 (i:Nat)∧i + q = vs.length∧pos ((vs.map (·.nm)).drop i) s i = pos (vs.map (·.nm)) s 0)→
   ∃x st',execW h.length Wd (.loop l66_0) st = some (x,st')∧(∃(tt:List AVal) (G:List ABox),st' = ⟨tt,G,false⟩∧tt.length = 19∧G.take h.length = h∧((x = .exit 0∧pos (vs.map (·.nm)) s 0 = -1)∨(x = .ret∧lkp tt 4 = .int .i64 (pos (vs.map (·.nm)) s 0)))):=by
  refine loop_rule _ (fun x st'=>∃(tt:List AVal) (G:List ABox),st' = ⟨tt,G,false⟩∧tt.length = 19∧G.take h.length = h∧((x = .exit 0∧pos (vs.map (·.nm)) s 0 = -1)∨(x = .ret∧lkp tt 4 = .int .i64 (pos (vs.map (·.nm)) s 0)))) ?_
  rintro q st ⟨tt,G,i,rfl,ht,hG1,hG2,e1,e7,e8,e9,hiq,hR⟩
  generalize he:execW h.length Wd l66_0 _ = r
  rcases Nat.lt_or_ge i vs.length with hi | hi
  ·have c1:ilt (i:Int) (vs.length:Int) = true:=iltT (by omega)
   have w:=wrap_succ (n:=i) (by omega)
   have hi':i < (vs.map (·.nm)).length:=by simpa using hi
   have hg:(vs.map ptV)[i]? = some (ptV vs[i]):=by rw [List.getElem?_map,List.getElem?_eq_getElem hi];rfl
   have hx:ixaV 3 (.lst (vs.map ptV) .no) (.int .i64 (i:Nat)) = some (.iptr [.str vs[i].nm,.int .i64 vs[i].k,.lst vs[i].L .no] 0):=ixaV_get hg rfl
   have hbG:G[b]? = some (.cells [.str s]):=by
    rw [←hG1,List.getElem?_take] at hb
    split at hb
    ·exact hb
    ·cases hb
   rw [List.drop_eq_getElem_cons hi',pos,List.getElem_map] at hR
   generalize vs[i] = y at hx hR hg
   have hp:=portPlace1_ok y (H:=G ++ [.cells [.str y.nm,.int .i64 y.k,.lst y.L .no]]) (b:=b) (s:=s) (by rw [List.getElem?_append_left (List.getElem?_eq_some_iff.1 hbG).1];exact hbG)
   have hbl:Nat.ble h.length G.length = true:=ble_true hG2
   skip
   cases hb':(y.nm == s) with
   | true=>
    rw [hb',cond_true] at hR
    rw [hb'] at hp
    simp only [l66_0,sT.1,sC.1,noApp,lookV,Nat.testBit,simprocAttr,-Int.reduceNatCast',ht,e1,e7,e8,e9,c1,hx,w,hp,hbl,List.length_map] at he
    subst he
    refine .inr ⟨_,_,rfl,by simp,_,_,rfl,?_,?_,.inr ⟨rfl,?_⟩⟩
    ·simp only [length_up,ht]
    ·rw [List.take_append_of_le_length hG2,hG1]
    ·rw [←hR]
     simp only [sT.1,sC.1,noApp,lookV,Nat.testBit,simprocAttr,-Int.reduceNatCast',ht]
   | false=>
    rw [hb',cond_false] at hR
    rw [hb'] at hp
    simp only [l66_0,sT.1,sC.1,noApp,lookV,Nat.testBit,simprocAttr,-Int.reduceNatCast',ht,e1,e7,e8,e9,c1,hx,w,hp,hbl,List.length_map] at he
    subst he
    refine .inl ⟨_,q - 1,rfl,by omega,_,_,i + 1,rfl,?_,?_,?_,?_,?_,?_,?_,by omega,hR⟩
    ·simp only [length_up,ht]
    ·rw [List.take_append_of_le_length hG2,hG1]
    ·simp;omega
    ·simp only [sT.1,sC.1,noApp,lookV,Nat.testBit,simprocAttr,-Int.reduceNatCast',ht,e1]
    ·simp only [sT.1,sC.1,noApp,lookV,Nat.testBit,simprocAttr,-Int.reduceNatCast',ht,e7]
    ·simp only [sT.1,sC.1,noApp,lookV,Nat.testBit,simprocAttr,-Int.reduceNatCast',ht,e8]
    ·simp only [sT.1,sC.1,noApp,lookV,Nat.testBit,simprocAttr,-Int.reduceNatCast',ht]
  ·have c1:ilt (i:Int) (vs.length:Int) = false:=iltF (by omega)
   rw [List.drop_eq_nil_of_le (by simpa using hi),pos] at hR
   simp only [l66_0,sT.1,sC.1,noApp,lookV,Nat.testBit,simprocAttr,-Int.reduceNatCast',ht,e1,e7,e8,e9,c1] at he
   subst he
   exact .inr ⟨_,_,rfl,by simp,_,_,rfl,by simp only [length_up,ht],hG1,.inl ⟨rfl,hR.symm⟩⟩
 generalize hw:Wd _ _ h = w
 rw [Wd_fn rfl (show T.get 66 = some c66 by kernel_rfl)] at hw
 simp only [c66,sT.1,sC.1,noApp,lookV,Nat.testBit,simprocAttr,-Int.reduceNatCast',List.length_map] at hw
 generalize hr:execW h.length Wd (.loop l66_0) _ = r at hw
 obtain ⟨x,st',rfl,tt,G,rfl,ht,hG,hq⟩:=known hr (loop vs.length _ ⟨_,_,0,rfl,by simp only [sT.1,sC.1,noApp,lookV,Nat.testBit,simprocAttr,-Int.reduceNatCast'],by simp,by simp,by simp only [sT.1,sC.1,noApp,lookV,Nat.testBit,simprocAttr,-Int.reduceNatCast'],by simp only [sT.1,sC.1,noApp,lookV,Nat.testBit,simprocAttr,-Int.reduceNatCast',List.length_map],by simp only [sT.1,sC.1,noApp,lookV,Nat.testBit,simprocAttr,-Int.reduceNatCast'],by simp only [sT.1,sC.1,noApp,lookV,Nat.testBit,simprocAttr,-Int.reduceNatCast',Int.natCast_zero],by omega,rfl⟩)
 rcases hq with ⟨rfl,hp⟩ | ⟨rfl,e4⟩
 ·simp only [sT.1,sC.1,noApp,lookV,Nat.testBit,simprocAttr,-Int.reduceNatCast',ht] at hw
  subst hw
  rw [hp]
  exact congrArg some (leave_cut hG rfl)
 ·simp only [sT.1,sC.1,noApp,lookV,Nat.testBit,simprocAttr,-Int.reduceNatCast',ht,e4] at hw
  subst hw
  exact congrArg some (leave_cut hG rfl)
theorem portPlace_ok (vs:List Pt) (s:Str) (hl:vs.length ≤ 100000):Wd (.fn 37 [] []) [(.lst (vs.map ptV) .no),.str s] h = some (.ret (.int .i64 (pos (vs.map (·.nm)) s 0)),h,false):=by
 have hp:=portPlace0_ok vs (h:=h ++ [.cells [.str s]]) s hl (b:=h.length) (by rw [get_at];rfl)
 rw [Wd_fn rfl (show T.get 37 = some c37 by kernel_rfl)]
 simp only [c37,sT.1,sC.1,noApp,lookV,Nat.testBit,simprocAttr,-Int.reduceNatCast',mkF_look,hp]
end
end Go.Proofs.YtfmkpcgpkdnioaaGreatDoor.AE
