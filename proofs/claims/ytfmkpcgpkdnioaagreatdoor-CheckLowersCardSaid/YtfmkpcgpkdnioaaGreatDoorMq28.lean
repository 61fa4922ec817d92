/- A part of the proof: the abstract executor and what goes through it (part 28). No condition. -/
import Derived.Test.YtfmkpcgpkdnioaaGreatDoorMq27
set_option maxRecDepth 100000
namespace Go.Proofs.YtfmkpcgpkdnioaaGreatDoor.AE
open Go.AE
section
variable {vs:List Vr} {ps:List Pt} {V:AVal} {h:List ABox}
theorem lower_no (e:Exl) (hk:∃k,Fit k e) (hV:VarsAt h vs V) (hr:right 20 e = false):Wd (.fn 6 [] []) [exV e,V,.lst (ps.map ptV) .no] h = some (.ret (.lst [] .full),h,false):=by
 have hx:=exprs e (h ++ [.cells e.enc]) hk
 have hVd:V.dim = V:=by rcases hV with ⟨_,rfl⟩ | ⟨id,rfl,_⟩ <;> rfl
 have hVw:∀i t,drainW V i t = t:=by rcases hV with ⟨_,rfl⟩ | ⟨id,rfl,_⟩ <;> exact fun _ _=>rfl
 rw [hr] at hx
 obtain ⟨op,n,nm,sub,aS⟩:=e
 rw [exV_mk,enc_mk] at hx
 rw [exV_mk,Wd_fn rfl (show T.get 6 = some c6 by kernel_rfl)]
 simp only [c6,sT.1,sC.1,noApp,lookV,Nat.testBit,simprocAttr,-Int.reduceNatCast',hx,hVd,hVw]
set_option maxHeartbeats 2000000 in
theorem lower_yes (e:Exl) (hk:∃k,Fit k e) (hV:VarsAt h vs V) (hr:right 20 e = true) (h0:0 < h.length) (hs:sz 20 e ≤ 10000) (hvl:vs.length ≤ 100000) (hpl:ps.length ≤ 100000) :
  ∃H' g' t' Tb',Wd (.fn 6 [] []) [exV e,V,.lst (ps.map ptV) .no] h = some (.ret Tb',g',true)∧Tab H' g' t' (low (vs.map (·.nm)) (ps.map (·.nm)) 20 0 e) Tb'∧h.length ≤ g'.length∧∀i,i < h.length→g'[i]? = h[i]?:=by
 have hx:=exprs e (h ++ [.cells e.enc]) hk
 have hVd:V.dim = V:=by rcases hV with ⟨_,rfl⟩ | ⟨id,rfl,_⟩ <;> rfl
 have hVs:V.storable = true:=by rcases hV with ⟨_,rfl⟩ | ⟨id,rfl,_⟩ <;> rfl
 have hVw:∀i t,drainW V i t = t:=by rcases hV with ⟨_,rfl⟩ | ⟨id,rfl,_⟩ <;> exact fun _ _=>rfl
 have hVc:V.cells = [V]:=by rcases hV with ⟨_,rfl⟩ | ⟨id,rfl,_⟩ <;> rfl
 rw [hr] at hx
 have hd:=right_deep _ _ hr
 obtain ⟨H,hH⟩ :∃H:Nat→Option ABox,H = fun i=>if i < h.length then h[i]? else none:=⟨_,rfl⟩
 have hH1:∀i,i < h.length→H i = h[i]?:=fun i hi=>by rw [hH];exact if_pos hi
 have hH2:∀i,h.length ≤ i→H i = none:=fun i hi=>by rw [hH];exact if_neg (by omega)
 have hcov:Cov H h:=fun i x hx=>by
  by_cases hi:i < h.length
  ·rw [←hH1 i hi]
   exact hx
  ·rw [hH2 i (by omega)] at hx
   cases hx
 have hVH:VarsH H vs V:=by
  rcases hV with hV | ⟨id,e,hi⟩
  ·exact .inl hV
  ·exact .inr ⟨id,e,by rw [hH1 id (List.getElem?_eq_some_iff.1 hi).1];exact hi⟩
 have pre:Pre vs V (.lst (ps.map ptV) .no) (h.length + 1) H (h ++ [.cells e.enc,.cells [.lst [] .full,V,.lst (ps.map ptV) .no]]) h.length [] (.lst [] .full):=by
  refine ⟨⟨hcov.more _,hH2 _ (Nat.le_refl _),.inl ⟨rfl,rfl⟩⟩,?_,hH2 _ (by omega),by omega,by simp,hVH⟩
  rw [List.getElem?_append_right (by omega),show h.length + 1 - h.length = 1 by omega]
  rfl
 obtain ⟨H',g',t',Tb',ha,post⟩:=adds vs ps V (h.length + 1) hvl hpl 20 e hk hd H _ h.length [] (.lst [] .full) (by simpa using hs) pre
 generalize (((([]:List Nd).length + (low (vs.map (·.nm)) (ps.map (·.nm)) 20 ([]:List Nd).length e).length:Nat):Int) - 1) = z at ha
 obtain ⟨hTd,hTs,hTw,_⟩:=post.pre.tab.facts
 have hbx:=post.pre.box
 have hk1:∀i,i < h.length→g'[i]? = h[i]?:=fun i hi=>by
  rw [post.keep i (by simp only [List.length_append,List.length_cons,List.length_nil];omega) (by omega) (by omega),List.getElem?_append_left hi]
 have hm:=post.more
 simp only [List.length_append,List.length_cons,List.length_nil] at hm
 refine ⟨H',g',t',Tb',?_,by simpa using post.pre.tab,by omega,hk1⟩
 obtain ⟨op,n,nm,sub,aS⟩:=e
 rw [exV_mk,enc_mk] at hx
 rw [exV_mk,enc_mk] at ha
 generalize hw:Wd _ _ h = w
 rw [exV_mk,Wd_fn rfl (show T.get 6 = some c6 by kernel_rfl)] at hw
 simp only [c6,sT.1,sC.1,sTA.1,sCA.1,noApp,provA,provE,Src.isTmp,provOf,Src.hangs,AOpd.isT,srcOf,lookV,Nat.testBit,bne,simprocAttr,-Int.reduceNatCast',op_hx,hxW_some,plain_hx,effs_hx,isApp_hx,dim_sl,drain_sl,build_look,fillS,hx,ha,hbx,hVd,hVs,hVw,hVc,hTd,hTs,hTw,Bool.or_true,Bool.true_or] at hw
 subst hw
 exact congrArg some (leave_e (n:=h.length) (by omega) _ _)
end
theorem rows_get {H:Nat→Option ABox} {ns:List Nd} {rs:List (List AVal)} (h:Rows H ns rs) {i:Nat} (hi:i < ns.length):∃I,rs[i]? = some [.int .i64 ns[i].op,.int .i64 ns[i].n,.str ns[i].nm,.str ns[i].sb,.int .i64 ns[i].pl,I]∧Ins H ns[i].ins I:=by
 have hl:i < rs.length:=by rw [h.length];exact hi
 obtain ⟨I,e,hI⟩:=h.get i hi hl
 exact ⟨I,by rw [List.getElem?_eq_getElem hl,e],hI⟩
set_option maxHeartbeats 2000000 in
theorem same_ok {H1 H2:Nat→Option ABox} {g:List ABox} {t:Nat} {ns:List Nd} {Tb:AVal} {rs:List (List AVal)} (hT:Tab H1 g t ns Tb) (hc:Cov H2 g) (hR:Rows H2 ns rs) (hl:ns.length ≤ 100000) (hil:∀x ∈ ns,x.ins.length ≤ 100000) :
  Wd (.fn 9 [] []) [Tb,.lst (rs.map .agg) .no] g = some (.ret (.bool true),g,false):=by
 obtain ⟨hTd,_,hTw,hTl⟩:=hT.facts
 have hrl:=hR.length
 have inner:∀(G:List ABox) (p1 p2:Nat) (I1 I2:AVal) (a1 a2 b1 b2:Int) (c1 c2 d1 d2:Str) (f1 f2:Int) (ins:List Int) (i:Nat),Cov H1 G→Cov H2 G→Ins H1 ins I1→Ins H2 ins I2→G[p1]? = some (.cells [.int .i64 a1,.int .i64 b1,.str c1,.str d1,.int .i64 f1,I1])→G[p2]? = some (.cells [.int .i64 a2,.int .i64 b2,.str c2,.str d2,.int .i64 f2,I2])→ins.length ≤ 100000→
   ∀q st,(∃(tt:List AVal) (k:Nat),st = ⟨tt,G,false⟩∧tt.length = 88∧lkp tt 0 = Tb∧lkp tt 1 = .lst (rs.map .agg) .no∧lkp tt 5 = .int .i64 (i:Nat)∧lkp tt 6 = .ptr p1 0∧lkp tt 7 = .ptr p2 0∧lkp tt 8 = .int .i64 (k:Nat)∧k + q = ins.length)→
    ∃x st',execW g.length Wd (.loop l9_0) st = some (x,st')∧(x = .exit 2∧∃(tt:List AVal),st' = ⟨tt,G,false⟩∧tt.length = 88∧lkp tt 0 = Tb∧lkp tt 1 = .lst (rs.map .agg) .no∧lkp tt 5 = .int .i64 (i:Nat)):=by
  intro G p1 p2 I1 I2 a1 a2 b1 b2 c1 c2 d1 d2 f1 f2 ins i hC1 hC2 hI1 hI2 hp1 hp2 hil
  obtain ⟨hd1,hs1,hw1,hl1⟩:=hI1.facts
  obtain ⟨hd2,hs2,hw2,hl2⟩:=hI2.facts
  refine loop_rule _ (fun x st'=>x = .exit 2∧∃(tt:List AVal),st' = ⟨tt,G,false⟩∧tt.length = 88∧lkp tt 0 = Tb∧lkp tt 1 = .lst (rs.map .agg) .no∧lkp tt 5 = .int .i64 (i:Nat)) ?_
  rintro q st ⟨tt,k,rfl,ht,e0,e1,e5,e6,e7,e8,hkq⟩
  generalize he:execW g.length Wd l9_0 _ = r
  rcases Nat.lt_or_ge k ins.length with hk | hk
  ·have z1:ilt (k:Int) (ins.length:Int) = true:=iltT (by omega)
   have w:=wrap_succ (n:=k) (by omega)
   obtain ⟨id1,x1,h1⟩ :∃id,ixaV 1 I1 (.int .i64 (k:Nat)) = some (.ptr id k)∧G[id]? = some (.cells (ins.map (.int .i64))):=by
    rcases hI1 with ⟨rfl,_⟩ | ⟨id,rfl,hid⟩
    ·simp at hk
    ·exact ⟨id,by rw [sl_at hk,Nat.mul_one],hC1 _ _ hid⟩
   obtain ⟨id2,x2,h2⟩ :∃id,ixaV 1 I2 (.int .i64 (k:Nat)) = some (.ptr id k)∧G[id]? = some (.cells (ins.map (.int .i64))):=by
    rcases hI2 with ⟨rfl,_⟩ | ⟨id,rfl,hid⟩
    ·simp at hk
    ·exact ⟨id,by rw [sl_at hk,Nat.mul_one],hC2 _ _ hid⟩
   have hc:(ins.map (AVal.int .i64))[k]? = some (.int .i64 ins[k]):=by rw [List.getElem?_map,List.getElem?_eq_getElem hk];rfl
   generalize ins[k] = z at hc
   simp only [l9_0,sT.1,sC.1,sTA.1,sCA.1,noApp,provA,provE,Src.isTmp,provOf,Src.hangs,AOpd.isT,srcOf,lookV,Nat.testBit,bne,simprocAttr,-Int.reduceNatCast',ht,e0,e1,e5,e6,e7,e8,z1,w,hp1,hp2,hd1,hd2,hw1,hw2,hs1,hs2,hl1,hl2,x1,x2,h1,h2,hc,bne_self_eq_false,beq_self_eq_true,Bool.not_true,draw_on] at he
   subst he
   refine .inl ⟨_,q - 1,rfl,by omega,_,k + 1,rfl,?_,?_,?_,?_,?_,?_,?_,by omega⟩
   ·simp only [length_up,ht]
   ·simp only [sT.1,sC.1,noApp,lookV,Nat.testBit,simprocAttr,-Int.reduceNatCast',ht,e0]
   ·simp only [sT.1,sC.1,noApp,lookV,Nat.testBit,simprocAttr,-Int.reduceNatCast',ht,e1]
   ·simp only [sT.1,sC.1,noApp,lookV,Nat.testBit,simprocAttr,-Int.reduceNatCast',ht,e5]
   ·simp only [sT.1,sC.1,noApp,lookV,Nat.testBit,simprocAttr,-Int.reduceNatCast',ht,e6]
   ·simp only [sT.1,sC.1,noApp,lookV,Nat.testBit,simprocAttr,-Int.reduceNatCast',ht,e7]
   ·simp only [sT.1,sC.1,noApp,lookV,Nat.testBit,simprocAttr,-Int.reduceNatCast',ht]
  ·have z1:ilt (k:Int) (ins.length:Int) = false:=iltF (by omega)
   simp only [l9_0,sT.1,sC.1,noApp,lookV,Nat.testBit,simprocAttr,-Int.reduceNatCast',ht,e6,e8,z1,hp1,hd1,hw1,hl1] at he
   subst he
   refine .inr ⟨_,_,rfl,by simp,rfl,_,rfl,?_,?_,?_,?_⟩
   ·simp only [length_up,ht]
   ·simp only [sT.1,sC.1,noApp,lookV,Nat.testBit,simprocAttr,-Int.reduceNatCast',ht,e0]
   ·simp only [sT.1,sC.1,noApp,lookV,Nat.testBit,simprocAttr,-Int.reduceNatCast',ht,e1]
   ·simp only [sT.1,sC.1,noApp,lookV,Nat.testBit,simprocAttr,-Int.reduceNatCast',ht,e5]
 have outer:∀q st,(∃(tt:List AVal) (G:List ABox) (i:Nat),st = ⟨tt,G,false⟩∧tt.length = 88∧G.take g.length = g∧g.length ≤ G.length∧lkp tt 0 = Tb∧lkp tt 1 = .lst (rs.map .agg) .no∧lkp tt 5 = .int .i64 (i:Nat)∧i + q = ns.length)→
   ∃x st',execW g.length Wd (.loop l9_1) st = some (x,st')∧(x = .exit 0∧∃(tt:List AVal) (G:List ABox),st' = ⟨tt,G,false⟩∧tt.length = 88∧G.take g.length = g):=by
  refine loop_rule _ (fun x st'=>x = .exit 0∧∃(tt:List AVal) (G:List ABox),st' = ⟨tt,G,false⟩∧tt.length = 88∧G.take g.length = g) ?_
  rintro q st ⟨tt,G,i,rfl,ht,hG1,hG2,e0,e1,e5,hiq⟩
  generalize he:execW g.length Wd l9_1 _ = r
  rcases Nat.lt_or_ge i ns.length with hi | hi
  ·have z1:ilt (i:Int) (ns.length:Int) = true:=iltT (by omega)
   have w:=wrap_succ (n:=i) (by omega)
   have hold:∀j x,g[j]? = some x→G[j]? = some x:=fun j x hj=>by
    rw [←hG1,List.getElem?_take] at hj
    split at hj
    ·exact hj
    ·cases hj
   obtain ⟨hC1,_,hT2⟩:=hT
   obtain ⟨rs1,hTe,_,hg1,hR1⟩ :∃rs1,Tb = .sl t 0 ns.length ns.length 6∧ns ≠ []∧g[t]? = some (.cells rs1.flatten)∧Rows H1 ns rs1:=by
    rcases hT2 with ⟨rfl,_⟩ | h
    ·simp at hi
    ·exact h
   have hgt:=hold _ _ hg1
   obtain ⟨I1,hr1,hI1⟩:=rows_get hR1 hi
   obtain ⟨I2,hr2,hI2⟩:=rows_get hR hi
   have hi1:i < rs1.length:=by rw [hR1.length];exact hi
   have hx1:ixaV 6 Tb (.int .i64 (i:Nat)) = some (.ptr t (i * 6)):=by rw [hTe];exact sl_at hi
   have hcut:Go.AE.cut rs1.flatten (i * 6) (some 6) = some (.agg [.int .i64 ns[i].op,.int .i64 ns[i].n,.str ns[i].nm,.str ns[i].sb,.int .i64 ns[i].pl,I1]):=by
    rw [cut_flat (fun r hr=>(hR1.six r hr).1) hi1 (fun c hc=>((hR1.six _ (List.getElem_mem hi1)).2 c hc).1)]
    rw [List.getElem?_eq_getElem hi1] at hr1
    exact congrArg (fun x=>some (AVal.agg x)) (Option.some.inj hr1)
   have hx2:ixaV 6 (.lst (rs.map .agg) .no) (.int .i64 (i:Nat)) = some (.iptr [.int .i64 ns[i].op,.int .i64 ns[i].n,.str ns[i].nm,.str ns[i].sb,.int .i64 ns[i].pl,I2] 0):=by
    have hgg:(rs.map AVal.agg)[i]? = some (.agg [.int .i64 ns[i].op,.int .i64 ns[i].n,.str ns[i].nm,.str ns[i].sb,.int .i64 ns[i].pl,I2]):=by rw [List.getElem?_map,hr2];rfl
    exact ixaV_get hgg rfl
   have hlen:=hil _ (List.getElem_mem hi)
   generalize ns[i] = x at hI1 hI2 hcut hx2 hlen
   obtain ⟨hd1,hs1,hw1,hl1⟩:=hI1.facts
   obtain ⟨hd2,hs2,hw2,hl2⟩:=hI2.facts
   have hb1:Nat.ble g.length G.length = true:=ble_true hG2
   have hb2:Nat.ble g.length (G.length + 1) = true:=ble_true (by omega)
   have hCG1:Cov H1 G:=fun j y hj=>hold _ _ (hC1 j y hj)
   have hCG2:Cov H2 G:=fun j y hj=>hold _ _ (hc j y hj)
   simp only [l9_1,sT.1,sC.1,sTA.1,sCA.1,noApp,provA,provE,Src.isTmp,provOf,Src.hangs,AOpd.isT,srcOf,lookV,Nat.testBit,bne,simprocAttr,-Int.reduceNatCast',ht,e0,e1,e5,z1,w,hTd,hTw,hTl,hx1,hx2,hgt,hcut,hb1,hb2,hd1,hd2,hw1,hw2,hs1,hs2,hl1,hl2,bne_self_eq_false,beq_self_eq_true,Bool.not_true,draw_on] at he
   generalize hr:execW g.length Wd (.loop l9_0) _ = r2 at he
   obtain ⟨x',st',rfl,rfl,tt',rfl,ht',e0',e1',e5'⟩:=known hr (inner (G ++ [.cells [.int .i64 x.op,.int .i64 x.n,.str x.nm,.str x.sb,.int .i64 x.pl,I1],.cells [.int .i64 x.op,.int .i64 x.n,.str x.nm,.str x.sb,.int .i64 x.pl,I2]]) G.length (G.length + 1) I1 I2 _ _ _ _ _ _ _ _ _ _ x.ins i (hCG1.more _) (hCG2.more _) hI1 hI2 (by rw [get_at];rfl) (by rw [List.getElem?_append_right (by omega),show G.length + 1 - G.length = 1 by omega];rfl) hlen x.ins.length _ ⟨_,0,rfl,by simp only [sT.1,sC.1,noApp,lookV,Nat.testBit,simprocAttr,-Int.reduceNatCast',ht],by simp only [sT.1,sC.1,noApp,lookV,Nat.testBit,simprocAttr,-Int.reduceNatCast',ht,e0],by simp only [sT.1,sC.1,noApp,lookV,Nat.testBit,simprocAttr,-Int.reduceNatCast',ht,e1],by simp only [sT.1,sC.1,noApp,lookV,Nat.testBit,simprocAttr,-Int.reduceNatCast',ht,e5],by simp only [sT.1,sC.1,noApp,lookV,Nat.testBit,simprocAttr,-Int.reduceNatCast',ht],by simp only [sT.1,sC.1,noApp,lookV,Nat.testBit,simprocAttr,-Int.reduceNatCast',ht],by simp only [sT.1,sC.1,noApp,lookV,Nat.testBit,simprocAttr,-Int.reduceNatCast',ht,Int.natCast_zero],by omega⟩)
   simp only [sT.1,sC.1,noApp,lookV,Nat.testBit,simprocAttr,-Int.reduceNatCast',ht',e0',e1',e5',w] at he
   subst he
   refine .inl ⟨_,q - 1,rfl,by omega,_,_,i + 1,rfl,?_,?_,?_,?_,?_,?_,by omega⟩
   ·simp only [length_up,ht']
   ·rw [List.take_append_of_le_length hG2,hG1]
   ·simp only [List.length_append]
    omega
   ·simp only [sT.1,sC.1,noApp,lookV,Nat.testBit,simprocAttr,-Int.reduceNatCast',ht',e0']
   ·simp only [sT.1,sC.1,noApp,lookV,Nat.testBit,simprocAttr,-Int.reduceNatCast',ht',e1']
   ·simp only [sT.1,sC.1,noApp,lookV,Nat.testBit,simprocAttr,-Int.reduceNatCast',ht']
  ·have z1:ilt (i:Int) (ns.length:Int) = false:=iltF (by omega)
   simp only [l9_1,sT.1,sC.1,noApp,lookV,Nat.testBit,simprocAttr,-Int.reduceNatCast',ht,e0,e5,z1,hTd,hTw,hTl] at he
   subst he
   exact .inr ⟨_,_,rfl,by simp,rfl,_,_,rfl,by simp only [length_up,ht],hG1⟩
 generalize hw:Wd _ _ g = w
 rw [Wd_fn rfl (show T.get 9 = some c9 by kernel_rfl)] at hw
 simp only [c9,sT.1,sC.1,noApp,lookV,Nat.testBit,simprocAttr,-Int.reduceNatCast',hTd,hTw,hTl,List.length_map,hrl,bne_self_eq_false,beq_self_eq_true,Bool.not_true] at hw
 generalize hr:execW g.length Wd (.loop l9_1) _ = r at hw
 obtain ⟨x,st',rfl,rfl,tt,G,rfl,ht,hG⟩:=known hr (outer ns.length _ ⟨_,_,0,rfl,by simp only [sT.1,sC.1,noApp,lookV,Nat.testBit,simprocAttr,-Int.reduceNatCast'],by simp,by simp,by simp only [sT.1,sC.1,noApp,lookV,Nat.testBit,simprocAttr,-Int.reduceNatCast',hTd,hTw],by simp only [sT.1,sC.1,noApp,lookV,Nat.testBit,simprocAttr,-Int.reduceNatCast'],by simp only [sT.1,sC.1,noApp,lookV,Nat.testBit,simprocAttr,-Int.reduceNatCast',Int.natCast_zero],by omega⟩)
 simp only [sT.1,sC.1,noApp,lookV,Nat.testBit,simprocAttr,-Int.reduceNatCast',ht] at hw
 subst hw
 exact congrArg some (leave_cut hG rfl)
end Go.Proofs.YtfmkpcgpkdnioaaGreatDoor.AE
