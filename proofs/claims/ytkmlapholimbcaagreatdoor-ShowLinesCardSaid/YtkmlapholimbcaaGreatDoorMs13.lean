/- A part of the proof: the abstract executor and what goes through it (part 13). No condition. -/
import Derived.Test.YtkmlapholimbcaaGreatDoorMs12
import Derived.Test.YtkmlapholimbcaaGreatDoorMs3
import Derived.Test.YtkmlapholimbcaaGreatDoorProg
import Derived.KernelRfl
set_option maxRecDepth 100000
namespace Go.Proofs.YtkmlapholimbcaaGreatDoor.AE
open Go.AE
theorem Small_ok {p:ProgD} (hN:∀m ∈ p.models,NumM m) (h:List ABox):∃r:Int,Wd (.fn 13 [] []) [p.enc] h = some (.ret (.int .i64 r),h,false)∧(r ≠ 0→p.models.length ≤ 60∧∀m ∈ p.models,MG m):=by
 obtain ⟨l,root⟩:=p
 simp only at hN
 rw [ProgD.enc,ProgD.cs]
 simp only
 generalize hw:Wd _ _ h = w
 rw [Wd_fn rfl (show T.get 13 = some c13 by kernel_rfl)] at hw
 cases c1:ilt 60 (l.length:Nat) with
 | true=>
  simp only [c13,sT.1,sC.1,sTA.1,sCA.1,noApp,provA,provE,Src.isTmp,provOf,Src.hangs,AOpd.isT,srcOf,lookV,Nat.testBit,bne,simprocAttr,-Int.reduceNatCast',List.length_map,c1] at hw
  subst hw
  exact ⟨0,rfl,fun e=>absurd rfl e⟩
 | false=>
  have h60:=ilt_ge c1
  simp only [c13,sT.1,sC.1,sTA.1,sCA.1,noApp,provA,provE,Src.isTmp,provOf,Src.hangs,AOpd.isT,srcOf,lookV,Nat.testBit,bne,simprocAttr,-Int.reduceNatCast',List.length_map,c1] at hw
  generalize hr:execW h.length Wd (.loop l13_4) _ = r at hw
  obtain ⟨x,st',rfl,tt,junk,rfl,ht,⟨rfl,rm,e3,hf⟩ | ⟨rfl,e2⟩⟩:=known hr (small_loop (h:=h) (root:=root) (by omega) hN l.length _ ⟨_,0,600,[],rfl,by simp only [sT.1,sC.1,sTA.1,sCA.1,noApp,provA,provE,Src.isTmp,provOf,Src.hangs,AOpd.isT,srcOf,lookV,Nat.testBit,bne,simprocAttr,-Int.reduceNatCast'],by simp only [sT.1,sC.1,sTA.1,sCA.1,noApp,provA,provE,Src.isTmp,provOf,Src.hangs,AOpd.isT,srcOf,lookV,Nat.testBit,bne,simprocAttr,-Int.reduceNatCast'],by simp only [sT.1,sC.1,sTA.1,sCA.1,noApp,provA,provE,Src.isTmp,provOf,Src.hangs,AOpd.isT,srcOf,lookV,Nat.testBit,bne,simprocAttr,-Int.reduceNatCast'],by simp only [sT.1,sC.1,sTA.1,sCA.1,noApp,provA,provE,Src.isTmp,provOf,Src.hangs,AOpd.isT,srcOf,lookV,Nat.testBit,bne,simprocAttr,-Int.reduceNatCast',Int.natCast_zero],by omega,by omega,by omega,fun _=>by simp⟩)
  ·cases c2:ilt rm 0 with
   | true=>
    simp only [sT.1,sC.1,sTA.1,sCA.1,noApp,provA,provE,Src.isTmp,provOf,Src.hangs,AOpd.isT,srcOf,lookV,Nat.testBit,bne,simprocAttr,-Int.reduceNatCast',ht,e3,c2] at hw
    subst hw
    exact ⟨0,rfl,fun e=>absurd rfl e⟩
   | false=>
    simp only [sT.1,sC.1,sTA.1,sCA.1,noApp,provA,provE,Src.isTmp,provOf,Src.hangs,AOpd.isT,srcOf,lookV,Nat.testBit,bne,simprocAttr,-Int.reduceNatCast',ht,e3,c2] at hw
    subst hw
    exact ⟨1,rfl,fun _=>⟨by omega,hf (ilt_ge c2)⟩⟩
  ·simp only [sT.1,sC.1,sTA.1,sCA.1,noApp,provA,provE,Src.isTmp,provOf,Src.hangs,AOpd.isT,srcOf,lookV,Nat.testBit,bne,simprocAttr,-Int.reduceNatCast',ht,e2] at hw
   subst hw
   exact ⟨0,rfl,fun e=>absurd rfl e⟩
structure ArgM (m:ModelD):Prop where
 num:NumM m
 ints:ExprsM OkN m
 acts:ActsM m
theorem exG {m:ModelD} (h1:ExprsM Go1 m) (h2:ExprsM OkN m):ExprsM ExG m:=
 ⟨fun s h=>⟨h1.vars s h,h2.vars s h⟩,fun s h=>⟨h1.ta s h,h2.ta s h⟩,fun s h=>⟨⟨(h1.emits s h).1,(h2.emits s h).1⟩,fun e he=>⟨(h1.emits s h).2 e he,(h2.emits s h).2 e he⟩⟩,fun s h=>⟨h1.int s h,h2.int s h⟩,fun s h=>⟨h1.ext s h,h2.ext s h⟩,fun s h=>⟨h1.own s h,h2.own s h⟩,fun s h=>⟨h1.rules s h,h2.rules s h⟩⟩
theorem ShowLines_law {p:ProgD} {stop:Int} (haw:∀G,Wd (.fn 6 [] []) [] G = some (.ret (.bool true),G,false)) (hA:∀m ∈ p.models,ArgM m) (h0:0 ≤ stop) (h1:stop ≤ 255) (h:List ABox) :
  ∃g e,Wd (.fn 5 [] []) [p.enc,.int .u8 stop] h = some (.ret (.bool true),g,e):=by
 obtain ⟨sm,hsm,hS⟩:=Small_ok (fun m hm=>(hA m hm).num) (h ++ [.cells p.cs,.cells [.int .u8 stop],.cells [.bool false]])
 have hG:sm ≠ 0→∀m ∈ p.models,ExprsM ExG m:=fun hs m hm=>exG ((hS hs).2 m hm).2 (hA m hm).ints
 exact sl_law (b:=progB p) haw h hsm (fun hs G=>progB_ok (by have:=(hS hs).1;omega) (fun m hm=>modelS_of ((hS hs).2 m hm).1 (hG hs m hm) (hA m hm).acts) G) (fun hs hb=>progB_of hb (hG hs)) h0 h1
end Go.Proofs.YtkmlapholimbcaaGreatDoor.AE
namespace Go.Proofs.YtkmlapholimbcaaGreatDoor.AE
open Go.AE
theorem aw_ok (h:List ABox):Wd (.fn 6 [] []) [] h = some (.ret (.bool true),h,false):=by
 rw [show Wd = W T.get X from rfl,W_ext xfine (show X 6 = some closedX from rfl)]
 rfl
theorem ShowLines_ok {p:ProgD} {stop:Int} (hA:∀m ∈ p.models,ArgM m) (h0:0 ≤ stop) (h1:stop ≤ 255) (h:List ABox) :
  ∃g e,Wd (.fn 5 [] []) [p.enc,.int .u8 stop] h = some (.ret (.bool true),g,e):=ShowLines_law aw_ok hA h0 h1 h
end Go.Proofs.YtkmlapholimbcaaGreatDoor.AE
namespace Go.Proofs.YtkmlapholimbcaaGreatDoor
theorem mxl {n:Nat} (h:n ≤ Go.maxLen):n ≤ 9223372036854775807:=h
theorem fits_i {n:Nat} {ws:List Go.AE.AVal} (h:Go.AE.Fits Tryz.prog n 3 ws):∃z,ws = [.int .i64 z]∧z ≤ 9223372036854775807:=by
 cases n with
 | zero=>exact h.elim
 | succ n=>
  simp only [Go.AE.Fits,Tryz.underlying3] at h
  obtain ⟨z,rfl,hz⟩:=h
  simp [Lit.wf,IntKind.min,IntKind.max,IntKind.bits,IntKind.signed] at hz
  exact ⟨z,rfl,by omega⟩
theorem fits_u {n:Nat} {ws:List Go.AE.AVal} (h:Go.AE.Fits Tryz.prog n 5 ws):∃z,ws = [.int .u8 z]∧0 ≤ z∧z ≤ 255:=by
 cases n with
 | zero=>exact h.elim
 | succ n=>
  simp only [Go.AE.Fits,Tryz.underlying5] at h
  obtain ⟨z,rfl,hz⟩:=h
  simp [Lit.wf,IntKind.min,IntKind.max,IntKind.bits,IntKind.signed] at hz
  exact ⟨z,rfl,by omega,by omega⟩
theorem fits_struct {P:Program} {n:Nat} {t:TypeId} {ws:List Go.AE.AVal} {fs:Array Field} (h:Go.AE.Fits P n t ws) (hu:P.underlying t = some (.struct fs)):∃m ass,n = m + 1∧ws = List.flatten ass∧Go.AE.FitsAll (Go.AE.Fits P m) (fs.toList.map (·.type)) ass:=by
 cases n with
 | zero=>exact h.elim
 | succ n=>
  simp only [Go.AE.Fits,hu] at h
  obtain ⟨ass,h1,h2⟩:=h
  exact ⟨n,ass,rfl,h1,h2⟩
theorem fits_str {P:Program} {n:Nat} {t:TypeId} {ws:List Go.AE.AVal} (h:Go.AE.Fits P n t ws) (hu:P.underlying t = some .string):∃s,ws = [.str s]∧AE.StrS s:=by
 cases n with
 | zero=>exact h.elim
 | succ n=>
  simp only [Go.AE.Fits,hu] at h
  exact ⟨_,h.choose_spec.1,mxl h.choose_spec.2⟩
theorem fits_bool {P:Program} {n:Nat} {t:TypeId} {ws:List Go.AE.AVal} (h:Go.AE.Fits P n t ws) (hu:P.underlying t = some .bool):∃b,ws = [.bool b]:=by
 cases n with
 | zero=>exact h.elim
 | succ n=>
  simp only [Go.AE.Fits,hu] at h
  exact h
theorem el_agg {P:Program} {e:TypeId} (h:Go.AE.isStruct P e = true) (x:List Go.AE.AVal):Go.AE.el P e x = .agg x:=by
 unfold Go.AE.el
 rw [h]
 rfl
theorem map_of {α β γ:Type} {f:α→β} {g:γ→β} {Q:γ→Prop}:∀xs:List α,(∀x ∈ xs,∃y,f x = g y∧Q y)→∃ys:List γ,xs.map f = ys.map g∧∀y ∈ ys,Q y
 | [],_=>⟨[],rfl,fun _ h=>by cases h⟩
 | x :: xs,h=>by
  obtain ⟨y,h1,h2⟩:=h x List.mem_cons_self
  obtain ⟨ys,h3,h4⟩:=map_of xs fun z hz=>h z (List.mem_cons_of_mem _ hz)
  refine ⟨y :: ys,by rw [List.map_cons,List.map_cons,h1,h3],fun z hz=>?_⟩
  rcases List.mem_cons.1 hz with rfl | hz
  ·exact h2
  ·exact h4 z hz
theorem list_of {n:Nat} {t e:TypeId} {ws:List Go.AE.AVal} {γ:Type} {g:γ→Go.AE.AVal} {Q:γ→Prop} (h:Go.AE.Fits Tryz.prog n t ws) (hu:Tryz.prog.underlying t = some (.slice e)) (hs:Go.AE.isStruct Tryz.prog e = true) (hk:∀m,m < n→∀x,Go.AE.Fits Tryz.prog m e x→∃y,Go.AE.AVal.agg x = g y∧Q y):∃ys:List γ,ws = [.lst (ys.map g) .no]∧AE.StrN ys∧∀y ∈ ys,Q y:=by
 cases n with
 | zero=>exact h.elim
 | succ m=>
  simp only [Go.AE.Fits,hu] at h
  obtain ⟨xs,rfl,hl,hx⟩:=h
  obtain ⟨ys,h1,h2⟩:=map_of (f:=Go.AE.el Tryz.prog e) (g:=g) (Q:=Q) xs fun x hxs=>by
   rw [el_agg hs]
   exact hk m (by omega) x (hx x hxs)
  have:xs.length = ys.length:=by have:=congrArg List.length h1;simpa using this
  exact ⟨ys,by rw [h1],mxl (this▸hl),h2⟩
theorem expr_fits (n:Nat):∀ws:List Go.AE.AVal,Go.AE.Fits Tryz.prog n 24 ws→∃e:AE.Exl,ws = AE.exC e∧AE.OkN e:=by
 induction n using Nat.strongRecOn with
 | ind n ih=>
  intro ws h
  obtain ⟨m,ass,rfl,rfl,h1⟩:=fits_struct h Tryz.underlying24
  match ass,h1 with
  | [p,q,r,r2,l],⟨h2,h3,h4,h4',h5,_⟩=>
   obtain ⟨z1,rfl,_⟩:=fits_i h2
   obtain ⟨z2,rfl,hz⟩:=fits_i h3
   obtain ⟨s,rfl,_⟩:=fits_str h4 Tryz.underlying9
   obtain ⟨s2,rfl,_⟩:=fits_str h4' Tryz.underlying9
   obtain ⟨ys,rfl,_,hy⟩:=list_of (g:=AE.exV) (Q:=AE.OkN) h5 Tryz.underlying22 (by kernel_rfl) fun k hk x hx=>by
    obtain ⟨e,rfl,h6⟩:=ih k (by omega) x hx
    exact ⟨e,(AE.exV_C e).symm,h6⟩
   refine ⟨.mk z1 z2 s s2 ys,rfl,?_⟩
   rw [AE.OkN]
   exact ⟨hz,hy⟩
theorem type_fits (n:Nat):∀ws:List Go.AE.AVal,Go.AE.Fits Tryz.prog n 98 ws→∃t:AE.Tp,ws = t.enc:=by
 induction n using Nat.strongRecOn with
 | ind n ih=>
  intro ws h
  obtain ⟨m,ass,rfl,rfl,h1⟩:=fits_struct h Tryz.underlying98
  match ass,h1 with
  | [p,l],⟨h2,h5,_⟩=>
   obtain ⟨z1,rfl,_⟩:=fits_i h2
   obtain ⟨ys,rfl,_⟩:=list_of (g:=AE.tpV) (Q:=fun _=>True) h5 Tryz.underlying96 (by kernel_rfl) fun k hk x hx=>by
    obtain ⟨e,rfl⟩:=ih k (by omega) x hx
    exact ⟨e,rfl,trivial⟩
   exact ⟨.mk z1 ys,by rw [AE.Tp.enc];rfl⟩
section
variable {n:Nat} {ws:List Go.AE.AVal}
theorem exprs_fits (h:Go.AE.Fits Tryz.prog n 22 ws):∃l:List AE.Exl,ws = [.lst (l.map AE.exV) .no]∧AE.StrN l∧∀y ∈ l,AE.OkN y:=
 list_of h Tryz.underlying22 (by kernel_rfl) fun k hk x hx=>by
  obtain ⟨e,rfl,h6⟩:=expr_fits k x hx
  exact ⟨e,(AE.exV_C e).symm,h6⟩
theorem ports_fits (h:Go.AE.Fits Tryz.prog n 47 ws):∃l:List AE.PortD,ws = [.lst (l.map AE.PortD.enc) .no]∧AE.StrN l∧∀y ∈ l,True:=
 list_of h Tryz.underlying47 (by kernel_rfl) fun k hk x hx=>by
  obtain ⟨m,ass,rfl,rfl,h1⟩:=fits_struct hx Tryz.underlying100
  match ass,h1 with
  | [p,t],⟨h2,h3,_⟩=>
   obtain ⟨s,rfl,_⟩:=fits_str h2 Tryz.underlying9
   obtain ⟨t,rfl⟩:=type_fits _ _ h3
   exact ⟨⟨s,t⟩,by simp [AE.PortD.enc],trivial⟩
theorem sets_fits (h:Go.AE.Fits Tryz.prog n 48 ws):∃l:List AE.SetD,ws = [.lst (l.map AE.SetD.enc) .no]∧AE.StrN l∧∀y ∈ l,AE.OkN y.e:=
 list_of h Tryz.underlying48 (by kernel_rfl) fun k hk x hx=>by
  obtain ⟨m,ass,rfl,rfl,h1⟩:=fits_struct hx Tryz.underlying102
  match ass,h1 with
  | [p,t],⟨h2,h3,_⟩=>
   obtain ⟨s,rfl,_⟩:=fits_str h2 Tryz.underlying9
   obtain ⟨t,rfl,ho⟩:=expr_fits _ _ h3
   exact ⟨⟨s,t⟩,by simp [AE.SetD.enc],ho⟩
theorem emits_fits (h:Go.AE.Fits Tryz.prog n 49 ws):∃l:List AE.EmitD,ws = [.lst (l.map AE.EmitD.enc) .no]∧AE.StrN l∧∀y ∈ l,AE.StrN y.ifs∧AE.OkN y.e∧∀e ∈ y.ifs,AE.OkN e:=
 list_of h Tryz.underlying49 (by kernel_rfl) fun k hk x hx=>by
  obtain ⟨m,ass,rfl,rfl,h1⟩:=fits_struct hx Tryz.underlying66
  match ass,h1 with
  | [p,t,u],⟨h2,h3,h4,_⟩=>
   obtain ⟨s,rfl,_⟩:=fits_str h2 Tryz.underlying9
   obtain ⟨t,rfl,ho⟩:=expr_fits _ _ h3
   obtain ⟨l,rfl,hn,hl⟩:=exprs_fits h4
   exact ⟨⟨s,t,l⟩,by simp [AE.EmitD.enc],hn,ho,hl⟩
theorem parts_fits (h:Go.AE.Fits Tryz.prog n 50 ws):∃l:List AE.PartD,ws = [.lst (l.map AE.PartD.enc) .no]∧AE.StrN l∧∀y ∈ l,True:=
 list_of h Tryz.underlying50 (by kernel_rfl) fun k hk x hx=>by
  obtain ⟨m,ass,rfl,rfl,h1⟩:=fits_struct hx Tryz.underlying113
  match ass,h1 with
  | [p,t],⟨h2,h3,_⟩=>
   obtain ⟨s,rfl,_⟩:=fits_str h2 Tryz.underlying9
   obtain ⟨t,rfl,_⟩:=fits_str h3 Tryz.underlying9
   exact ⟨⟨s,t⟩,rfl,trivial⟩
theorem end_fits (h:Go.AE.Fits Tryz.prog n 116 ws):∃l:AE.EndD,ws = [.str l.part,.str l.port]∧AE.StrS l.part∧AE.StrS l.port:=by
 obtain ⟨m,ass,rfl,rfl,h1⟩:=fits_struct h Tryz.underlying116
 match ass,h1 with
 | [p,t],⟨h2,h3,_⟩=>
  obtain ⟨s,rfl,hs⟩:=fits_str h2 Tryz.underlying9
  obtain ⟨t,rfl,ht⟩:=fits_str h3 Tryz.underlying9
  exact ⟨⟨s,t⟩,rfl,hs,ht⟩
theorem link_fits (h:Go.AE.Fits Tryz.prog n 118 ws):∃l:AE.LinkD,ws = [.str l.frm.part,.str l.frm.port,.str l.to.part,.str l.to.port]∧(AE.StrS l.frm.part∧AE.StrS l.frm.port)∧AE.StrS l.to.part∧AE.StrS l.to.port:=by
 obtain ⟨m,ass,rfl,rfl,h1⟩:=fits_struct h Tryz.underlying118
 match ass,h1 with
 | [p,t],⟨h2,h3,_⟩=>
  obtain ⟨s,rfl,hs⟩:=end_fits h2
  obtain ⟨t,rfl,ht⟩:=end_fits h3
  exact ⟨⟨s,t⟩,rfl,hs,ht⟩
theorem links_fits (h:Go.AE.Fits Tryz.prog n 51 ws):∃l:List AE.LinkD,ws = [.lst (l.map AE.LinkD.enc) .no]∧AE.StrN l∧∀y ∈ l,True:=
 list_of h Tryz.underlying51 (by kernel_rfl) fun k hk x hx=>by
  obtain ⟨l,rfl,_⟩:=link_fits hx
  exact ⟨l,rfl,trivial⟩
theorem acts_fits (h:Go.AE.Fits Tryz.prog n 67 ws):∃l:List AE.ActD,ws = [.lst (l.map AE.ActD.enc) .no]∧AE.StrN l∧∀y ∈ l,AE.ActS y:=
 list_of h Tryz.underlying67 (by kernel_rfl) fun k hk x hx=>by
  obtain ⟨m,ass,rfl,rfl,h1⟩:=fits_struct hx Tryz.underlying121
  match ass,h1 with
  | [p,q,t,u],⟨h2,h3,h4,h5,_⟩=>
   obtain ⟨z,rfl,_⟩:=fits_i h2
   obtain ⟨s,rfl,_⟩:=fits_str h3 Tryz.underlying9
   obtain ⟨t,rfl,_⟩:=fits_str h4 Tryz.underlying9
   obtain ⟨l,rfl,⟨a,b⟩,c,d⟩:=link_fits h5
   exact ⟨⟨z,s,t,l⟩,rfl,⟨a,b,c,d⟩⟩
theorem rules_fits (h:Go.AE.Fits Tryz.prog n 52 ws):∃l:List AE.RuleD,ws = [.lst (l.map AE.RuleD.enc) .no]∧AE.StrN l∧∀y ∈ l,AE.OkN y.e∧∀a ∈ y.acts,AE.ActS a:=
 list_of h Tryz.underlying52 (by kernel_rfl) fun k hk x hx=>by
  obtain ⟨m,ass,rfl,rfl,h1⟩:=fits_struct hx Tryz.underlying69
  match ass,h1 with
  | [p,t],⟨h2,h3,_⟩=>
   obtain ⟨s,rfl,ho⟩:=expr_fits _ _ h2
   obtain ⟨t,rfl,_,ht⟩:=acts_fits h3
   exact ⟨⟨s,t⟩,by simp [AE.RuleD.enc],ho,ht⟩
theorem model_fits (h:Go.AE.Fits Tryz.prog n 54 ws):∃m:AE.ModelD,Go.AE.AVal.agg ws = m.enc∧AE.ArgM m:=by
 obtain ⟨m,ass,rfl,rfl,h1⟩:=fits_struct h Tryz.underlying54
 match ass,h1 with
 | [a,b,c,d,e,f,g,i,j,k,l,p,q,r],⟨ha,hb,hc,hd,he,hf,hg,hi,hj,hk,hl,hp,hq,hr,_⟩=>
  obtain ⟨nm,rfl,_⟩:=fits_str ha Tryz.underlying9
  obtain ⟨cb,rfl⟩:=fits_bool hb Tryz.underlying4
  obtain ⟨ins,rfl,n1,_⟩:=ports_fits hc
  obtain ⟨outs,rfl,n2,_⟩:=ports_fits hd
  obtain ⟨vars,rfl,n3,o3⟩:=sets_fits he
  obtain ⟨ta,rfl,n4,o4⟩:=exprs_fits hf
  obtain ⟨ems,rfl,n5,o5⟩:=emits_fits hg
  obtain ⟨int,rfl,n6,o6⟩:=sets_fits hi
  obtain ⟨ext,rfl,n7,o7⟩:=sets_fits hj
  obtain ⟨con,rfl,_⟩:=fits_i hk
  obtain ⟨own,rfl,n8,o8⟩:=sets_fits hl
  obtain ⟨pas,rfl,_,_⟩:=parts_fits hp
  obtain ⟨lks,rfl,_,_⟩:=links_fits hq
  obtain ⟨rus,rfl,n9,o9⟩:=rules_fits hr
  exact ⟨⟨nm,cb,ins,outs,vars,ta,ems,int,ext,con,own,pas,lks,rus⟩,rfl,⟨n1,n2,n3,n4,⟨n5,fun x hx=>(o5 x hx).1⟩,n6,n7,n8,n9⟩,⟨o3,o4,fun x hx=>(o5 x hx).2,o6,o7,o8,fun r hr=>(o9 r hr).1⟩,fun r hr=>(o9 r hr).2⟩
theorem prog_fits (h:Go.AE.Fits Tryz.prog n 38 ws):∃p:AE.ProgD,Go.AE.AVal.agg ws = p.enc∧∀m ∈ p.models,AE.ArgM m:=by
 obtain ⟨m,ass,rfl,rfl,h1⟩:=fits_struct h Tryz.underlying38
 match ass,h1 with
 | [a,b],⟨ha,hb,_⟩=>
  obtain ⟨ms,rfl,_,hm⟩:=list_of (g:=AE.ModelD.enc) (Q:=AE.ArgM) ha Tryz.underlying36 (by kernel_rfl) fun k hk x hx=>model_fits hx
  obtain ⟨s,rfl,_⟩:=fits_str hb Tryz.underlying9
  exact ⟨⟨ms,s⟩,rfl,hm⟩
end
end Go.Proofs.YtkmlapholimbcaaGreatDoor
