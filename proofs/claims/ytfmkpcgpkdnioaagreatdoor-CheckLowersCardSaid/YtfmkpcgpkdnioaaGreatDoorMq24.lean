/- A part of the proof: the abstract executor and what goes through it (part 24). No condition. -/
import Derived.Test.YtfmkpcgpkdnioaaGreatDoorMq23
set_option maxRecDepth 100000
namespace Go.Proofs.YtfmkpcgpkdnioaaGreatDoor.AE
open Go.AE
set_option maxHeartbeats 4000000 in
theorem adds (vs:List Vr) (ps:List Pt) (V:AVal) (L:Nat) (hvl:vs.length ≤ 100000) (hpl:ps.length ≤ 100000):∀d,Adds vs ps V L d:=by
 intro d
 induction d with
 | zero=>
  intro e _ hd
  rw [dOK] at hd
  cases hd
 | succ d ih=>
  rintro ⟨op,n,nm,sb,aS⟩ ⟨k,hk⟩ hd H g t0 ns Tb0 hlen pre0
  obtain ⟨k,rfl⟩ :∃k',k = k' + 1:=by cases k with | zero=>exact hk.elim | succ k=>exact ⟨k,rfl⟩
  have hf:∀a ∈ aS,∃k,Fit k a:=fun a ha=>⟨k,hk.2 a ha⟩
  rw [dOK,List.all_eq_true] at hd
  rw [sz] at hlen
  have hL:L < g.length:=(List.getElem?_eq_some_iff.1 pre0.box).1
  have hvars:=pre0.vars
  obtain ⟨hVd,hVs,hVw⟩:=hvars.facts
  have lp0:Lp vs ps V L d op n nm sb aS ns g t0 H 0 H (g ++ [.cells [.int .i64 op,.int .i64 n,.str nm,.str sb,.lst (aS.map exV) .no],.cells [.int .i64 op,.int .i64 n,.str [],.str [],.int .i64 0,.lst [] .full]]) t0 [] [] (.lst [] .full) 0 Tb0:=by
   refine ⟨by rw [List.append_nil];exact pre0.more _,by simp,by rw [get_at];rfl,?_,.inl ⟨rfl,rfl⟩,.inl pre0.lt,pre0.tab.1.late (by omega),fun i hi _ _=>List.getElem?_append_left hi,fun _ _=>rfl,.inl rfl,rfl,rfl,?_⟩
   ·rw [List.getElem?_append_right (by omega),show g.length + 1 - g.length = 1 by omega]
    rfl
   ·simp
    omega
  generalize hw:Wd _ _ g = w
  rw [exV_mk,Wd_fn rfl (show T.get 19 = some c19 by kernel_rfl)] at hw
  simp only [c19,sT.1,sC.1,sTA.1,sCA.1,noApp,provA,provE,Src.isTmp,provOf,Src.hangs,AOpd.isT,srcOf,lookV,Nat.testBit,bne,simprocAttr,-Int.reduceNatCast',op_hx,hxW_some,plain_hx,effs_hx,isApp_hx,dim_sl,drain_sl,stor_sl,cells_sl,lower_sl,lenV_sl,draw_on,build_look,fillS,List.length_map] at hw
  generalize hr:execW g.length Wd (.loop l19_0) _ = r at hw
  obtain ⟨x,st',rfl,rfl,tt,ef,H,G,t,out,ins,I,j,Tb,rfl,ht,e0,e3,e5,lp⟩:=known hr (add_loop ih hL hk.1 hf hd aS.length _ ⟨_,_,0,H,_,t0,[],[],.lst [] .full,0,Tb0,rfl,by simp only [sT.1,sC.1,noApp,lookV,Nat.testBit,simprocAttr,-Int.reduceNatCast'],by simp only [sT.1,sC.1,noApp,lookV,Nat.testBit,simprocAttr,-Int.reduceNatCast'],by simp only [sT.1,sC.1,noApp,lookV,Nat.testBit,simprocAttr,-Int.reduceNatCast'],by simp only [sT.1,sC.1,noApp,lookV,Nat.testBit,simprocAttr,-Int.reduceNatCast'],by simp only [sT.1,sC.1,noApp,lookV,Nat.testBit,simprocAttr,-Int.reduceNatCast'],by simp only [sT.1,sC.1,noApp,lookV,Nat.testBit,simprocAttr,-Int.reduceNatCast'],by simp only [sT.1,sC.1,noApp,lookV,Nat.testBit,simprocAttr,-Int.reduceNatCast',Int.natCast_zero],by omega,lp0⟩)
  obtain ⟨hId,hIs,hIw⟩:=lp.facts
  have hlit:=fun b a1 a2 a3 a4 a5 h=>lit6 b a1 a2 a3 a4 a5 I hId hIs h
  have bB:=lp.bB
  have bN:=lp.bN
  have box:=lp.pre.box
  have b2:=lp.b2
  obtain ⟨hTd,hTs,hTw,_⟩:=lp.pre.tab.facts
  have hVA:=lp.pre.vars.at lp.pre.tab.1
  have hvp:=fun s=>varPlace_ok (h:=G) vs V hVA s hvl
  have hpp:=fun s=>portPlace_ok (h:=G) ps s hpl
  have q1:Nat.ble g.length L = false:=ble_gt hL
  have q2:Nat.blt (G.length + 1) (L + 1) = false:=blt_ge (by omega)
  have q3:Nat.ble g.length (g.length + 1) = true:=ble_true (by omega)
  have hss:∀X Y:ABox,(G.set (g.length + 1) X).set (g.length + 1) Y = G.set (g.length + 1) Y:=fun X Y=>List.set_set ..
  have g0:g.length ≠ 0:=by omega
  have gat:=lp.gat
  rw [List.drop_eq_nil_of_le (Nat.le_refl _),gather] at gat
  have hlow:low (vs.map (·.nm)) (ps.map (·.nm)) (d + 1) ns.length (.mk op n nm sb aS) = out ++ [fin (vs.map (·.nm)) (ps.map (·.nm)) op n nm sb ins]:=by rw [low,←gat]
  rw [hlow]
  have olen:=lp.len
  by_cases h3:op = 3
  ·subst h3
   have hfin:fin (vs.map (·.nm)) (ps.map (·.nm)) 3 n nm sb ins = ⟨3,n,nm,[],0,ins⟩:=rfl
   rw [hfin]
   obtain ⟨H',G6,hap,f1,f2,f3,f4,f5,n6,l6,f7,post⟩:=add_end lp hL (⟨3,n,nm,[],0,ins⟩ :Nd) rfl
   have hN:(ns ++ out ++ [(⟨3,n,nm,[],0,ins⟩ :Nd)]).length = ns.length + (out ++ [(⟨3,n,nm,[],0,ins⟩ :Nd)]).length:=by simp only [List.length_append,List.length_cons,List.length_nil];omega
   have wN:IntKind.i64.wrap (((ns.length + (out ++ [(⟨3,n,nm,[],0,ins⟩ :Nd)]).length:Nat):Int) - 1) = ((ns.length + (out ++ [(⟨3,n,nm,[],0,ins⟩ :Nd)]).length:Nat):Int) - 1:=wrap_id (by simp only [List.length_append,List.length_cons,List.length_nil];omega) (by simp only [List.length_append,List.length_cons,List.length_nil];omega)
   rw [hN] at hap post
   generalize ns.length + (out ++ [(⟨3,n,nm,[],0,ins⟩ :Nd)]).length = N at hap post wN ⊢
   simp only [sT.1,sC.1,sTA.1,sCA.1,noApp,provA,provE,Src.isTmp,provOf,Src.hangs,AOpd.isT,srcOf,lookV,Nat.testBit,bne,simprocAttr,-Int.reduceNatCast',op_hx,hxW_some,plain_hx,effs_hx,isApp_hx,dim_sl,drain_sl,stor_sl,cells_sl,lower_sl,lenV_sl,draw_on,build_look,fillS,ht,e0,e3,e5,bB,bN,box,hId,hIs,hIw,hVd,hVs,hVw,hTd,hTs,hTw,hlit,f1,f2,f3,f4,f5,hap,n6,l6,f7,q1,q2,q3,wN,hss,hvp,hpp,Bool.or_true,Bool.true_or,Bool.or_false,Bool.or_self,Bool.not_false] at hw
   subst hw
   exact ⟨H',_,_,_,congrArg some (leave_e g0 _ _),post⟩
  by_cases h4:op = 4
  ·subst h4
   have hfin:fin (vs.map (·.nm)) (ps.map (·.nm)) 4 n nm sb ins = ⟨4,n,[],[],pos (vs.map (·.nm)) nm 0,ins⟩:=rfl
   rw [hfin]
   obtain ⟨H',G6,hap,f1,f2,f3,f4,f5,n6,l6,f7,post⟩:=add_end lp hL (⟨4,n,[],[],pos (vs.map (·.nm)) nm 0,ins⟩ :Nd) rfl
   have hN:(ns ++ out ++ [(⟨4,n,[],[],pos (vs.map (·.nm)) nm 0,ins⟩ :Nd)]).length = ns.length + (out ++ [(⟨4,n,[],[],pos (vs.map (·.nm)) nm 0,ins⟩ :Nd)]).length:=by simp only [List.length_append,List.length_cons,List.length_nil];omega
   have wN:IntKind.i64.wrap (((ns.length + (out ++ [(⟨4,n,[],[],pos (vs.map (·.nm)) nm 0,ins⟩ :Nd)]).length:Nat):Int) - 1) = ((ns.length + (out ++ [(⟨4,n,[],[],pos (vs.map (·.nm)) nm 0,ins⟩ :Nd)]).length:Nat):Int) - 1:=wrap_id (by simp only [List.length_append,List.length_cons,List.length_nil];omega) (by simp only [List.length_append,List.length_cons,List.length_nil];omega)
   rw [hN] at hap post
   generalize ns.length + (out ++ [(⟨4,n,[],[],pos (vs.map (·.nm)) nm 0,ins⟩ :Nd)]).length = N at hap post wN ⊢
   simp only [sT.1,sC.1,sTA.1,sCA.1,noApp,provA,provE,Src.isTmp,provOf,Src.hangs,AOpd.isT,srcOf,lookV,Nat.testBit,bne,simprocAttr,-Int.reduceNatCast',op_hx,hxW_some,plain_hx,effs_hx,isApp_hx,dim_sl,drain_sl,stor_sl,cells_sl,lower_sl,lenV_sl,draw_on,build_look,fillS,ht,e0,e3,e5,bB,bN,box,hId,hIs,hIw,hVd,hVs,hVw,hTd,hTs,hTw,hlit,f1,f2,f3,f4,f5,hap,n6,l6,f7,q1,q2,q3,wN,hss,hvp,hpp,Bool.or_true,Bool.true_or,Bool.or_false,Bool.or_self,Bool.not_false] at hw
   subst hw
   exact ⟨H',_,_,_,congrArg some (leave_e g0 _ _),post⟩
  by_cases h5:op = 5
  ·subst h5
   have hfin:fin (vs.map (·.nm)) (ps.map (·.nm)) 5 n nm sb ins = ⟨5,n,nm,sb,0,ins⟩:=rfl
   rw [hfin]
   obtain ⟨H',G6,hap,f1,f2,f3,f4,f5,n6,l6,f7,post⟩:=add_end lp hL (⟨5,n,nm,sb,0,ins⟩ :Nd) rfl
   have hN:(ns ++ out ++ [(⟨5,n,nm,sb,0,ins⟩ :Nd)]).length = ns.length + (out ++ [(⟨5,n,nm,sb,0,ins⟩ :Nd)]).length:=by simp only [List.length_append,List.length_cons,List.length_nil];omega
   have wN:IntKind.i64.wrap (((ns.length + (out ++ [(⟨5,n,nm,sb,0,ins⟩ :Nd)]).length:Nat):Int) - 1) = ((ns.length + (out ++ [(⟨5,n,nm,sb,0,ins⟩ :Nd)]).length:Nat):Int) - 1:=wrap_id (by simp only [List.length_append,List.length_cons,List.length_nil];omega) (by simp only [List.length_append,List.length_cons,List.length_nil];omega)
   rw [hN] at hap post
   generalize ns.length + (out ++ [(⟨5,n,nm,sb,0,ins⟩ :Nd)]).length = N at hap post wN ⊢
   simp only [sT.1,sC.1,sTA.1,sCA.1,noApp,provA,provE,Src.isTmp,provOf,Src.hangs,AOpd.isT,srcOf,lookV,Nat.testBit,bne,simprocAttr,-Int.reduceNatCast',op_hx,hxW_some,plain_hx,effs_hx,isApp_hx,dim_sl,drain_sl,stor_sl,cells_sl,lower_sl,lenV_sl,draw_on,build_look,fillS,ht,e0,e3,e5,bB,bN,box,hId,hIs,hIw,hVd,hVs,hVw,hTd,hTs,hTw,hlit,f1,f2,f3,f4,f5,hap,n6,l6,f7,q1,q2,q3,wN,hss,hvp,hpp,Bool.or_true,Bool.true_or,Bool.or_false,Bool.or_self,Bool.not_false] at hw
   subst hw
   exact ⟨H',_,_,_,congrArg some (leave_e g0 _ _),post⟩
  by_cases h7:op = 7
  ·subst h7
   have hfin:fin (vs.map (·.nm)) (ps.map (·.nm)) 7 n nm sb ins = ⟨7,n,[],[],pos (ps.map (·.nm)) nm 0,ins⟩:=rfl
   rw [hfin]
   obtain ⟨H',G6,hap,f1,f2,f3,f4,f5,n6,l6,f7,post⟩:=add_end lp hL (⟨7,n,[],[],pos (ps.map (·.nm)) nm 0,ins⟩ :Nd) rfl
   have hN:(ns ++ out ++ [(⟨7,n,[],[],pos (ps.map (·.nm)) nm 0,ins⟩ :Nd)]).length = ns.length + (out ++ [(⟨7,n,[],[],pos (ps.map (·.nm)) nm 0,ins⟩ :Nd)]).length:=by simp only [List.length_append,List.length_cons,List.length_nil];omega
   have wN:IntKind.i64.wrap (((ns.length + (out ++ [(⟨7,n,[],[],pos (ps.map (·.nm)) nm 0,ins⟩ :Nd)]).length:Nat):Int) - 1) = ((ns.length + (out ++ [(⟨7,n,[],[],pos (ps.map (·.nm)) nm 0,ins⟩ :Nd)]).length:Nat):Int) - 1:=wrap_id (by simp only [List.length_append,List.length_cons,List.length_nil];omega) (by simp only [List.length_append,List.length_cons,List.length_nil];omega)
   rw [hN] at hap post
   generalize ns.length + (out ++ [(⟨7,n,[],[],pos (ps.map (·.nm)) nm 0,ins⟩ :Nd)]).length = N at hap post wN ⊢
   simp only [sT.1,sC.1,sTA.1,sCA.1,noApp,provA,provE,Src.isTmp,provOf,Src.hangs,AOpd.isT,srcOf,lookV,Nat.testBit,bne,simprocAttr,-Int.reduceNatCast',op_hx,hxW_some,plain_hx,effs_hx,isApp_hx,dim_sl,drain_sl,stor_sl,cells_sl,lower_sl,lenV_sl,draw_on,build_look,fillS,ht,e0,e3,e5,bB,bN,box,hId,hIs,hIw,hVd,hVs,hVw,hTd,hTs,hTw,hlit,f1,f2,f3,f4,f5,hap,n6,l6,f7,q1,q2,q3,wN,hss,hvp,hpp,Bool.or_true,Bool.true_or,Bool.or_false,Bool.or_self,Bool.not_false] at hw
   subst hw
   exact ⟨H',_,_,_,congrArg some (leave_e g0 _ _),post⟩
  by_cases h8:op = 8
  ·subst h8
   have hfin:fin (vs.map (·.nm)) (ps.map (·.nm)) 8 n nm sb ins = ⟨8,n,[],[],pos (ps.map (·.nm)) nm 0,ins⟩:=rfl
   rw [hfin]
   obtain ⟨H',G6,hap,f1,f2,f3,f4,f5,n6,l6,f7,post⟩:=add_end lp hL (⟨8,n,[],[],pos (ps.map (·.nm)) nm 0,ins⟩ :Nd) rfl
   have hN:(ns ++ out ++ [(⟨8,n,[],[],pos (ps.map (·.nm)) nm 0,ins⟩ :Nd)]).length = ns.length + (out ++ [(⟨8,n,[],[],pos (ps.map (·.nm)) nm 0,ins⟩ :Nd)]).length:=by simp only [List.length_append,List.length_cons,List.length_nil];omega
   have wN:IntKind.i64.wrap (((ns.length + (out ++ [(⟨8,n,[],[],pos (ps.map (·.nm)) nm 0,ins⟩ :Nd)]).length:Nat):Int) - 1) = ((ns.length + (out ++ [(⟨8,n,[],[],pos (ps.map (·.nm)) nm 0,ins⟩ :Nd)]).length:Nat):Int) - 1:=wrap_id (by simp only [List.length_append,List.length_cons,List.length_nil];omega) (by simp only [List.length_append,List.length_cons,List.length_nil];omega)
   rw [hN] at hap post
   generalize ns.length + (out ++ [(⟨8,n,[],[],pos (ps.map (·.nm)) nm 0,ins⟩ :Nd)]).length = N at hap post wN ⊢
   simp only [sT.1,sC.1,sTA.1,sCA.1,noApp,provA,provE,Src.isTmp,provOf,Src.hangs,AOpd.isT,srcOf,lookV,Nat.testBit,bne,simprocAttr,-Int.reduceNatCast',op_hx,hxW_some,plain_hx,effs_hx,isApp_hx,dim_sl,drain_sl,stor_sl,cells_sl,lower_sl,lenV_sl,draw_on,build_look,fillS,ht,e0,e3,e5,bB,bN,box,hId,hIs,hIw,hVd,hVs,hVw,hTd,hTs,hTw,hlit,f1,f2,f3,f4,f5,hap,n6,l6,f7,q1,q2,q3,wN,hss,hvp,hpp,Bool.or_true,Bool.true_or,Bool.or_false,Bool.or_self,Bool.not_false] at hw
   subst hw
   exact ⟨H',_,_,_,congrArg some (leave_e g0 _ _),post⟩
  by_cases h9:op = 9
  ·subst h9
   have hfin:fin (vs.map (·.nm)) (ps.map (·.nm)) 9 n nm sb ins = ⟨9,n,[],[],pos (ps.map (·.nm)) nm 0,ins⟩:=rfl
   rw [hfin]
   obtain ⟨H',G6,hap,f1,f2,f3,f4,f5,n6,l6,f7,post⟩:=add_end lp hL (⟨9,n,[],[],pos (ps.map (·.nm)) nm 0,ins⟩ :Nd) rfl
   have hN:(ns ++ out ++ [(⟨9,n,[],[],pos (ps.map (·.nm)) nm 0,ins⟩ :Nd)]).length = ns.length + (out ++ [(⟨9,n,[],[],pos (ps.map (·.nm)) nm 0,ins⟩ :Nd)]).length:=by simp only [List.length_append,List.length_cons,List.length_nil];omega
   have wN:IntKind.i64.wrap (((ns.length + (out ++ [(⟨9,n,[],[],pos (ps.map (·.nm)) nm 0,ins⟩ :Nd)]).length:Nat):Int) - 1) = ((ns.length + (out ++ [(⟨9,n,[],[],pos (ps.map (·.nm)) nm 0,ins⟩ :Nd)]).length:Nat):Int) - 1:=wrap_id (by simp only [List.length_append,List.length_cons,List.length_nil];omega) (by simp only [List.length_append,List.length_cons,List.length_nil];omega)
   rw [hN] at hap post
   generalize ns.length + (out ++ [(⟨9,n,[],[],pos (ps.map (·.nm)) nm 0,ins⟩ :Nd)]).length = N at hap post wN ⊢
   simp only [sT.1,sC.1,sTA.1,sCA.1,noApp,provA,provE,Src.isTmp,provOf,Src.hangs,AOpd.isT,srcOf,lookV,Nat.testBit,bne,simprocAttr,-Int.reduceNatCast',op_hx,hxW_some,plain_hx,effs_hx,isApp_hx,dim_sl,drain_sl,stor_sl,cells_sl,lower_sl,lenV_sl,draw_on,build_look,fillS,ht,e0,e3,e5,bB,bN,box,hId,hIs,hIw,hVd,hVs,hVw,hTd,hTs,hTw,hlit,f1,f2,f3,f4,f5,hap,n6,l6,f7,q1,q2,q3,wN,hss,hvp,hpp,Bool.or_true,Bool.true_or,Bool.or_false,Bool.or_self,Bool.not_false] at hw
   subst hw
   exact ⟨H',_,_,_,congrArg some (leave_e g0 _ _),post⟩
  by_cases h10:op = 10
  ·subst h10
   have hfin:fin (vs.map (·.nm)) (ps.map (·.nm)) 10 n nm sb ins = ⟨10,n,[],[],pos (ps.map (·.nm)) nm 0,ins⟩:=rfl
   rw [hfin]
   obtain ⟨H',G6,hap,f1,f2,f3,f4,f5,n6,l6,f7,post⟩:=add_end lp hL (⟨10,n,[],[],pos (ps.map (·.nm)) nm 0,ins⟩ :Nd) rfl
   have hN:(ns ++ out ++ [(⟨10,n,[],[],pos (ps.map (·.nm)) nm 0,ins⟩ :Nd)]).length = ns.length + (out ++ [(⟨10,n,[],[],pos (ps.map (·.nm)) nm 0,ins⟩ :Nd)]).length:=by simp only [List.length_append,List.length_cons,List.length_nil];omega
   have wN:IntKind.i64.wrap (((ns.length + (out ++ [(⟨10,n,[],[],pos (ps.map (·.nm)) nm 0,ins⟩ :Nd)]).length:Nat):Int) - 1) = ((ns.length + (out ++ [(⟨10,n,[],[],pos (ps.map (·.nm)) nm 0,ins⟩ :Nd)]).length:Nat):Int) - 1:=wrap_id (by simp only [List.length_append,List.length_cons,List.length_nil];omega) (by simp only [List.length_append,List.length_cons,List.length_nil];omega)
   rw [hN] at hap post
   generalize ns.length + (out ++ [(⟨10,n,[],[],pos (ps.map (·.nm)) nm 0,ins⟩ :Nd)]).length = N at hap post wN ⊢
   simp only [sT.1,sC.1,sTA.1,sCA.1,noApp,provA,provE,Src.isTmp,provOf,Src.hangs,AOpd.isT,srcOf,lookV,Nat.testBit,bne,simprocAttr,-Int.reduceNatCast',op_hx,hxW_some,plain_hx,effs_hx,isApp_hx,dim_sl,drain_sl,stor_sl,cells_sl,lower_sl,lenV_sl,draw_on,build_look,fillS,ht,e0,e3,e5,bB,bN,box,hId,hIs,hIw,hVd,hVs,hVw,hTd,hTs,hTw,hlit,f1,f2,f3,f4,f5,hap,n6,l6,f7,q1,q2,q3,wN,hss,hvp,hpp,Bool.or_true,Bool.true_or,Bool.or_false,Bool.or_self,Bool.not_false] at hw
   subst hw
   exact ⟨H',_,_,_,congrArg some (leave_e g0 _ _),post⟩
  have z3:(op == 3) = false:=beq_eq_false_iff_ne.2 h3
  have z4:(op == 4) = false:=beq_eq_false_iff_ne.2 h4
  have z5:(op == 5) = false:=beq_eq_false_iff_ne.2 h5
  have z7:(op == 7) = false:=beq_eq_false_iff_ne.2 h7
  have z8:(op == 8) = false:=beq_eq_false_iff_ne.2 h8
  have z9:(op == 9) = false:=beq_eq_false_iff_ne.2 h9
  have z10:(op == 10) = false:=beq_eq_false_iff_ne.2 h10
  have hfin:fin (vs.map (·.nm)) (ps.map (·.nm)) op n nm sb ins = ⟨op,n,[],[],0,ins⟩:=by simp only [fin,z3,z4,z5,z7,z8,z9,z10,cond_false]
  rw [hfin]
  obtain ⟨H',G6,hap,f1,f2,f3,f4,f5,n6,l6,f7,post⟩:=add_end lp hL (⟨op,n,[],[],0,ins⟩ :Nd) rfl
  have hGs:G.set (g.length + 1) (.cells [.int .i64 op,.int .i64 n,.str [],.str [],.int .i64 0,I]) = G:=by
   apply List.ext_getElem?
   intro i
   by_cases e:g.length + 1 = i
   ·subst e
    rw [f1]
    exact bN.symm
   ·rw [List.getElem?_set_ne e]
  have f4:=fun Y=>f4 (.cells [.int .i64 op,.int .i64 n,.str [],.str [],.int .i64 0,I]) Y
  have f5:=fun Y=>f5 (.cells [.int .i64 op,.int .i64 n,.str [],.str [],.int .i64 0,I]) Y
  simp only [hGs] at hap f4 f5
  have hN:(ns ++ out ++ [(⟨op,n,[],[],0,ins⟩ :Nd)]).length = ns.length + (out ++ [(⟨op,n,[],[],0,ins⟩ :Nd)]).length:=by simp only [List.length_append,List.length_cons,List.length_nil];omega
  have wN:IntKind.i64.wrap (((ns.length + (out ++ [(⟨op,n,[],[],0,ins⟩ :Nd)]).length:Nat):Int) - 1) = ((ns.length + (out ++ [(⟨op,n,[],[],0,ins⟩ :Nd)]).length:Nat):Int) - 1:=wrap_id (by simp only [List.length_append,List.length_cons,List.length_nil];omega) (by simp only [List.length_append,List.length_cons,List.length_nil];omega)
  rw [hN] at hap post
  generalize ns.length + (out ++ [(⟨op,n,[],[],0,ins⟩ :Nd)]).length = N at hap post wN ⊢
  simp only [sT.1,sC.1,sTA.1,sCA.1,noApp,provA,provE,Src.isTmp,provOf,Src.hangs,AOpd.isT,srcOf,lookV,Nat.testBit,bne,simprocAttr,-Int.reduceNatCast',op_hx,hxW_some,plain_hx,effs_hx,isApp_hx,dim_sl,drain_sl,stor_sl,cells_sl,lower_sl,lenV_sl,draw_on,build_look,fillS,ht,e0,e3,e5,bB,bN,box,hId,hIs,hIw,hVd,hVs,hVw,hTd,hTs,hTw,hlit,f1,f2,f3,f4,f5,hap,n6,l6,f7,q1,q2,q3,wN,hss,hvp,hpp,Bool.or_true,Bool.true_or,Bool.or_false,Bool.or_self,Bool.not_false,z3,z4,z5,z7,z8,z9,z10] at hw
  subst hw
  exact ⟨H',_,_,_,congrArg some (leave_e g0 _ _),post⟩
end Go.Proofs.YtfmkpcgpkdnioaaGreatDoor.AE
