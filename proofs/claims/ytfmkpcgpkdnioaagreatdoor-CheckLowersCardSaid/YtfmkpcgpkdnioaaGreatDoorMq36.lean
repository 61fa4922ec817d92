/- A part of the proof: the abstract executor and what goes through it (part 36). No condition. -/
import Derived.Test.YtfmkpcgpkdnioaaGreatDoorMq29
import Derived.Test.YtfmkpcgpkdnioaaGreatDoorMq31
import Derived.Test.YtfmkpcgpkdnioaaGreatDoorMq32
import Derived.Test.YtfmkpcgpkdnioaaGreatDoorMq35
set_option maxRecDepth 100000
namespace Go.Proofs.YtfmkpcgpkdnioaaGreatDoor.AE
open Go.AE
theorem Wd_iff {fv:AVal} {aS:List AVal} {h:List ABox} (x:CRes×List ABox×Bool):Wd fv aS h = some x↔∃n,run T.get X n fv aS h = some x:=W_iff xfine x
theorem awake_W (b:ABox):∃R e H2 e2,Wd (.fn 4 [] []) [] [b] = some (.ret (.bool true),b :: R,e)∧Wd (.fn 4 [] []) [] (b :: R) = some (.ret (.bool true),H2,e2):=by
 have h1:runF T.get X 400 (.fn 4 [] []) [] [b] = some (.ret (.bool true),b :: aR,true):=aw1 fun _=>b
 have h2:(runF T.get X 400 (.fn 4 [] []) [] (b :: aR)).map (·.1) = some (.ret (.bool true)):=aw2 fun _=>b
 obtain ⟨⟨r,hh,e⟩,h3,h4⟩:=Option.map_eq_some_iff.1 h2
 cases h4
 rw [runF_eq] at h1 h3
 exact ⟨aR,true,hh,e,(W_iff xfine _).2 ⟨400,h1⟩,(W_iff xfine _).2 ⟨400,h3⟩⟩
theorem fin_ins (vn pn:List Str) (op n:Int) (nm sb:Str) (ins:List Int):(fin vn pn op n nm sb ins).ins = ins:=by
 unfold fin
 cases op == 3 <;> cases op == 4 <;> cases op == 5 <;> cases op == 7 <;> cases op == 8 <;> cases op == 9 <;> cases op == 10 <;> rfl
theorem gather_ins (f:Nat→Exl→List Nd) (b:Nat):∀(aS:List Exl) (out:List Nd) (ins:List Int),(gather f b aS out ins).2.length = ins.length + aS.length∧∀x ∈ (gather f b aS out ins).1,x ∈ out∨∃a ∈ aS,∃c,x ∈ f c a
 | [],out,ins=>⟨rfl,fun x hx=>.inl hx⟩
 | a :: aS,out,ins=>by
  obtain ⟨h1,h2⟩:=gather_ins f b aS (out ++ f (b + out.length) a) (ins ++ [((b + (out ++ f (b + out.length) a).length:Nat):Int) - 1])
  rw [gather]
  refine ⟨by rw [h1];simp;omega,fun x hx=>?_⟩
  rcases h2 x hx with h | ⟨a',ha,c,h⟩
  ·rcases List.mem_append.1 h with h | h
   ·exact .inl h
   ·exact .inr ⟨a,List.mem_cons_self,_,h⟩
  ·exact .inr ⟨a',List.mem_cons_of_mem _ ha,c,h⟩
theorem low_ins (vn pn:List Str):∀(d b:Nat) (e:Exl),(∃k,Fit k e)→∀x ∈ low vn pn d b e,x.ins.length ≤ 20
 | 0,_,_,_,x,hx=>by rw [low] at hx;cases hx
 | d + 1,b,.mk op n nm sb aS,⟨k,hk⟩,x,hx=>by
  obtain ⟨k,rfl⟩ :∃k',k = k' + 1:=by cases k with | zero=>exact hk.elim | succ k=>exact ⟨k,rfl⟩
  obtain ⟨h1,h2⟩:=gather_ins (low vn pn d) b aS [] []
  rw [low] at hx
  rcases List.mem_append.1 hx with h | h
  ·rcases h2 x h with h | ⟨a,ha,c,h⟩
   ·cases h
   ·exact low_ins vn pn d c a ⟨k,hk.2 a ha⟩ x h
  ·rw [List.mem_singleton] at h
   rw [h,fin_ins,h1]
   have:=hk.1
   simp
   omega
theorem list_look (t z:List AVal) (k n:Nat) (ps:List (Nat×AOpd)):pureV t (.list k z n ps) = listV k z n (ps.map fun (i,x)=>(i,ev t x)):=by
 simp only [pureV,listV,List.map_map]
 rfl
theorem leave_0 (b:Bool) (H:List ABox) (e:Bool):leave 0 (.ret (.bool b)) H e = (.ret (.bool b),[],e):=by simp [leave,AVal.lower]
theorem list5 (op n:Int) (nm sb:Str) (xs:List AVal):listV 5 [.int .i64 0,.int .i64 0,.str [],.str [],.lst [] .full] 1 [(0,.agg [.int .i64 op,.int .i64 n,.str nm,.str sb,.lst xs .no])] = some (.lst [.agg [.int .i64 op,.int .i64 n,.str nm,.str sb,.lst xs .no]] .full):=list_agg1 rfl (by decide) rfl rfl (by decide)
theorem list14 (xs:List AVal):listV 14 [.str [],.bool false,.lst [] .full,.lst [] .full,.lst [] .full,.lst [] .full,.lst [] .full,.lst [] .full,.lst [] .full,.int .i64 0,.lst [] .full,.lst [] .full,.lst [] .full,.lst [] .full] 1 [(0,.agg [.str [],.bool false,.lst [] .full,.lst [] .full,.lst [] .full,.lst xs .full,.lst [] .full,.lst [] .full,.lst [] .full,.int .i64 0,.lst [] .full,.lst [] .full,.lst [] .full,.lst [] .full])] = some (.lst [.agg [.str [],.bool false,.lst [] .full,.lst [] .full,.lst [] .full,.lst xs .full,.lst [] .full,.lst [] .full,.lst [] .full,.int .i64 0,.lst [] .full,.lst [] .full,.lst [] .full,.lst [] .full]] .full):=list_agg1 rfl (by decide) rfl rfl (by decide)
set_option maxHeartbeats 4000000 in
theorem law_ok (e:Exl) (vs:List Vr) (ps:List Pt):∃h' e',Wd (.fn 3 [] []) [exV e,.lst (vs.map vrV) .no,.lst (ps.map ptV) .no] [] = some (.ret (.bool true),h',e'):=by
 obtain ⟨R,ea,H2,e2,hA,hA2⟩:=awake_W (.cells e.enc)
 obtain ⟨r,hr,hr2⟩:=small_sz e (.cells e.enc :: R)
 generalize hw:Wd _ _ [] = w
 have leaves:∀(H:List ABox) (b:Bool),some (leave 0 (.ret (.bool true)) H b) = w→∃h' e',w = some (.ret (.bool true),h',e'):=fun H b h=>⟨_,_,by rw [←h,leave_0]⟩
 have c20:((20:Nat):Int) = 20:=Eq.trans rfl rfl
 have hf:Fit 40 e→∃k,Fit k e:=fun h=>⟨40,h⟩
 have main:vs.length ≤ 100→ps.length ≤ 100→Fit 40 e→sz 40 e ≤ 600→∃V g1,Wd (.fn 7 [] []) [.lst (vs.map vrV) .no] (.cells e.enc :: R) = some (.ret V,g1,false)∧V.dim = V∧(∀i t,drainW V i t = t)∧g1[0]? = some (.cells e.enc)∧0 < g1.length∧
   ((right 20 e = false∧Wd (.fn 6 [] []) [exV e,V,.lst (ps.map ptV) .no] g1 = some (.ret (.lst [] .full),g1,false)∧Wd (.fn 8 [] []) [exV e,.int .i64 20] g1 = some (.ret (.bool false),g1,false))∨
    ∃(g2:List ABox) (Tb:AVal) (g3:List ABox) (rs:List (List AVal)),Wd (.fn 6 [] []) [exV e,V,.lst (ps.map ptV) .no] g1 = some (.ret Tb,g2,true)∧Tb.dim = Tb∧(∀i t,drainW Tb i t = t)∧g2[0]? = some (.cells e.enc)∧Wd (.fn 8 [] []) [exV e,.int .i64 20] g2 = some (.ret (.bool true),g2,false)∧Wd (.fn 10 [] []) [exV e,.lst (vs.map vrV) .no,.lst (ps.map ptV) .no,.int .i64 0] g2 = some (.ret (.lst (rs.map .agg) .no),g3,false)∧Wd (.fn 9 [] []) [Tb,.lst (rs.map .agg) .no] g3 = some (.ret (.bool true),g3,false)):=by
  intro hvl hpl hfit hsz
  obtain ⟨V,g1,hv,hg1,hgl,hVA⟩:=vars_ok vs (by omega) (.cells e.enc :: R)
  have hk:=hf hfit
  have h0:g1[0]? = some (.cells e.enc):=by
   have:(g1.take (ABox.cells e.enc :: R).length)[0]? = some (.cells e.enc):=by rw [hg1];rfl
   rw [List.getElem?_take] at this
   split at this
   ·exact this
   ·cases this
  have hlen:0 < g1.length:=(List.getElem?_eq_some_iff.1 h0).1
  have hVd:V.dim = V:=by rcases hVA with ⟨_,rfl⟩ | ⟨id,rfl,_⟩ <;> rfl
  have hVw:∀i t,drainW V i t = t:=by rcases hVA with ⟨_,rfl⟩ | ⟨id,rfl,_⟩ <;> exact fun _ _=>rfl
  refine ⟨V,g1,hv,hVd,hVw,h0,hlen,?_⟩
  have hq:=fun g=>asks 20 (by omega) e g hk
  rw [c20] at hq
  cases h20:right 20 e with
  | false=>
   rw [h20] at hq
   exact .inl ⟨rfl,lower_no e hk hVA h20,hq g1⟩
  | true=>
   rw [h20] at hq
   have hs20:sz 20 e ≤ 600:=Nat.le_trans (sz_more 20 e 20) hsz
   obtain ⟨H',g2,t',Tb,hL,hT,hm,hkeep⟩:=lower_yes (ps:=ps) e hk hVA h20 hlen (by omega) (by omega) (by omega)
   obtain ⟨H3,g3,rs,hrf,hm3,hk3,_,hC3,hR3⟩:=refs vs ps (by omega) (by omega) 20 e hk (right_deep _ _ h20) (fun _=>none) g2 0 (by omega) (fun _ _ h=>nomatch h)
   have hT3:Tab H' g3 t' (low (vs.map (·.nm)) (ps.map (·.nm)) 20 0 e) Tb:=by
    obtain ⟨a,b,c⟩:=hT
    refine ⟨fun i x hi=>by rw [hk3 i (a.lt hi)];exact a i x hi,b,?_⟩
    rcases c with c | ⟨rs',c1,c2,c3,c4⟩
    ·exact .inl c
    ·exact .inr ⟨rs',c1,c2,by rw [hk3 t' (List.getElem?_eq_some_iff.1 c3).1];exact c3,c4⟩
   obtain ⟨hTd,_,hTw,_⟩:=hT.facts
   rw [Int.natCast_zero] at hrf
   exact .inr ⟨g2,Tb,g3,rs,hL,hTd,hTw,by rw [hkeep 0 hlen];exact h0,hq g2,hrf,same_ok hT3 hC3 hR3 (by rw [low_len];omega) fun x hx=>Nat.le_trans (low_ins _ _ 20 0 e hk x hx) (by omega)⟩
 obtain ⟨op,n,nm,sb,aS⟩:=e
 rw [exV_mk] at hw
 rw [modV,exV_mk] at hr
 rw [enc_mk] at hr hA hA2
 simp only [exV_mk,enc_mk] at main
 rw [Wd_fn rfl (show T.get 3 = some c3 by kernel_rfl)] at hw
 rcases hr2 with rfl | ⟨rfl,hfit,hsz⟩
 ·have z0:((0:Int) == 0) = true:=by kernel_rfl
  simp only [c3,sT.1,sC.1,sTA.1,sCA.1,noApp,provA,provE,Src.isTmp,provOf,Src.hangs,AOpd.isT,srcOf,lookV,Nat.testBit,bne,simprocAttr,-Int.reduceNatCast',fillS,build_look,list_look,guardQ_true,list5,list14,hr,z0,hA,hA2] at hw
  exact leaves _ _ hw
 ·have z1:((1:Int) == 0) = false:=by kernel_rfl
  by_cases hvl:vs.length ≤ 100
  ·have zv:ilt 100 (vs.length:Int) = false:=iltF (by omega)
   by_cases hpl:ps.length ≤ 100
   ·have zp:ilt 100 (ps.length:Int) = false:=iltF (by omega)
    obtain ⟨V,g1,hv,hVd,hVw,h0,hlen,hq⟩:=main hvl hpl hfit hsz
    rcases hq with ⟨_,hL,hE⟩ | ⟨g2,Tb,g3,rs,hL,hTd,hTw,h02,hE,hF,hS⟩
    ·have z0:((0:Int) == 0) = true:=by kernel_rfl
     have hl0:lenV false (.lst [] .full) = some (.int .i64 0):=rfl
     simp only [c3,sT.1,sC.1,sTA.1,sCA.1,noApp,provA,provE,Src.isTmp,provOf,Src.hangs,AOpd.isT,srcOf,lookV,Nat.testBit,bne,simprocAttr,-Int.reduceNatCast',fillS,build_look,list_look,guardQ_true,list5,list14,hr,z1,z0,zv,zp,hA,hv,hVd,hVw,h0,hL,hE,hl0,List.length_map,List.length_nil,Int.natCast_zero] at hw
     exact leaves _ _ hw
    ·simp only [c3,sT.1,sC.1,sTA.1,sCA.1,noApp,provA,provE,Src.isTmp,provOf,Src.hangs,AOpd.isT,srcOf,lookV,Nat.testBit,bne,simprocAttr,-Int.reduceNatCast',fillS,build_look,list_look,guardQ_true,list5,list14,hr,z1,zv,zp,hA,hv,hVd,hVw,h0,hL,hTd,hTw,h02,hE,hF,hS,List.length_map] at hw
     exact leaves _ _ hw
   ·have zp:ilt 100 (ps.length:Int) = true:=iltT (by omega)
    simp only [c3,sT.1,sC.1,sTA.1,sCA.1,noApp,provA,provE,Src.isTmp,provOf,Src.hangs,AOpd.isT,srcOf,lookV,Nat.testBit,bne,simprocAttr,-Int.reduceNatCast',fillS,build_look,list_look,guardQ_true,list5,list14,hr,z1,zv,zp,hA,hA2,List.length_map] at hw
    exact leaves _ _ hw
  ·have zv:ilt 100 (vs.length:Int) = true:=iltT (by omega)
   simp only [c3,sT.1,sC.1,sTA.1,sCA.1,noApp,provA,provE,Src.isTmp,provOf,Src.hangs,AOpd.isT,srcOf,lookV,Nat.testBit,bne,simprocAttr,-Int.reduceNatCast',fillS,build_look,list_look,guardQ_true,list5,list14,hr,z1,zv,hA,hA2,List.length_map] at hw
   exact leaves _ _ hw
end Go.Proofs.YtfmkpcgpkdnioaaGreatDoor.AE
