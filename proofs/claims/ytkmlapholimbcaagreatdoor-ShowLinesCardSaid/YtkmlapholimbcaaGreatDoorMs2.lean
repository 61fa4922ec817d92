/- A part of the proof: the abstract executor and what goes through it (part 2). No condition. -/
import Derived.Test.YtkmlapholimbcaaGreatDoorMs1
import Derived.RangeFuncRecord
import Derived.LoopNIn
import Derived.Test.YtkmlapholimbcaaGreatDoorMs0
import Derived.RecoverIn
import Derived.OpenShut
import Derived.LaidLaws
import Derived.ChangeArms
import Derived.Lib.AtoiAll
import Derived.Lib.Bytealg
import Derived.Lib.ItoaNum
import Derived.Lib.Join
set_option maxRecDepth 100000
namespace Go.AE
section
variable {P:Program} {gl:Nat→Option (List AVal)} {ops:Array Oper} {xx:Nat×Nat} {all:List DOper} {alts:List (List DOper)} {cl:List Nat} {n:Nat} {listed:Array Bool} {a:Act} {G G':Ghost} {w w':World}
 {pre ds:List DOper} {U:List (DOper×Option Nat)} {pend:List (Nat×Chk)} {s:St}
theorem mem_edges {o:Oper} {e:Nat}:e ∈ edges o↔∃x ∈ o.after,Region.binds .any x = true∧x.on = e:=by
 simp only [edges,List.mem_map,List.mem_filter,Array.mem_toList_iff,and_assoc]
theorem getD_lt {i:Nat} (h:listed.getD i false = true):i < listed.size:=by
 rcases Nat.lt_or_ge i listed.size with h' | h'
 ·exact h'
 ·simp [Array.getElem?_eq_none h'] at h
theorem getD_tf {i:Nat} (h:listed.getD i true = false):listed.getD i false = false:=by
 rcases Nat.lt_or_ge i listed.size with h' | h'
 ·simpa [h'] using h
 ·simp [Array.getElem?_eq_none h'] at h
theorem getD_ft {i:Nat} (hl:i < listed.size) (h:listed.getD i false ≠ true):listed.getD i true = false:=by
 simpa [hl] using h
theorem getD_set_self {i:Nat} (hl:i < listed.size) (b:Bool):(listed.setIfInBounds i true).getD i b = true:=by
 simp [hl]
theorem Inv.cl_listed (hst:Stat P gl ops cl xx all) (hi:Inv P gl ops xx all n listed a G w pre alts U pend s) {d:DOper} (hd:d ∈ all) (hr:d.ix ∈ Region.ready .any ops listed) {j:Nat} (hj:d.cl.testBit j = true):listed.getD j false = true:=by
 obtain ⟨_,o,ho,hall⟩:=mem_ready.1 hr
 obtain ⟨o',ho',_,_,hcl⟩:=hst.comp d hd
 rw [ho] at ho'
 cases ho'
 have hes:∀e ∈ edges o,listed.getD e false = true:=fun e he=>by
  obtain ⟨x,h1,h2,rfl⟩:=mem_edges.1 he
  exact hall x h1 h2
 rw [hcl] at hj
 rcases joinE_bit hj with h | h | ⟨e,h1,h2⟩
 ·simp at h
 ·exact hes j h
 ·have hl:=hes e h1
  obtain ⟨d',hd',he⟩:=hst.cover e (by rw [←hi.size];exact getD_lt hl)
  subst he
  obtain ⟨_,_,_,hc,_⟩:=hst.comp d' hd'
  exact hi.closed d' hd' hl j (by rw [hc];exact h2)
theorem all_listed (hst:Stat P gl ops cl xx all) (hsz:listed.size = ops.size) (hr:Region.ready .any ops listed = []):∀(ds pre:List DOper),(∀d ∈ ds,d ∈ all)→ordOK xx (ops.toList.map edges) pre ds = true→
  (∀x ∈ pre,listed.getD x.ix false = true)→∀d ∈ ds,listed.getD d.ix false = true
 | [],_,_,_,_,d,hd=>by cases hd
 | y :: ds,pre,hsub,ho,hp,d,hd=>by
  obtain ⟨h1,_,_,h4⟩:=ordOK_cons ho
  have hy:listed.getD y.ix false = true:=by
   refine Classical.byContradiction fun hn=>?_
   obtain ⟨o,hoo,_⟩:=hst.comp y (hsub y (List.mem_cons_self ..))
   have hlt:y.ix < ops.size:=(Array.getElem?_eq_some_iff.1 hoo).1
   have:y.ix ∈ Region.ready .any ops listed:=by
    refine mem_ready.2 ⟨getD_ft (by rw [hsz];exact hlt) hn,o,hoo,fun e he hb=>?_⟩
    have hess:(ops.toList.map edges).getD y.ix [] = edges o:=by
     rw [List.getD_eq_getElem?_getD,List.getElem?_map,Array.getElem?_toList,hoo]
     rfl
    obtain ⟨x,hx,hxe⟩:=h1 e.on (by rw [hess];exact mem_edges.2 ⟨e,he,hb,rfl⟩)
    rw [←hxe]
    exact hp x hx
   rw [hr] at this
   cases this
  rcases List.mem_cons.1 hd with rfl | hd
  ·exact hy
  ·exact all_listed hst hsz hr ds (y :: pre) (fun d hd=>hsub d (List.mem_cons_of_mem _ hd)) h4 (fun x hx=>by
    rcases List.mem_cons.1 hx with rfl | hx
    ·exact hy
    ·exact hp x hx) d hd
theorem Inv.finished (hst:Stat P gl ops cl xx all) (hi:Inv P gl ops xx all n listed a G w pre alts U pend s) (hr:Region.ready .any ops listed = []):U = []∧∀ds ∈ alts,ds = []:=by
 have hall:=all_listed hst hi.size hr all [] (fun _ h=>h) hst.order (fun _ h=>by cases h)
 obtain ⟨ds0,hds0⟩:=hi.ne
 constructor
 ·cases U with
  | nil=>rfl
  | cons x U=>
   have h1:=hi.l2 x (List.mem_cons_self ..)
   have h2:=hall x.1 ((hi.mem _ hds0 x.1).2 (.inl (hi.inPre x (List.mem_cons_self ..))))
   rw [getD_tf h1] at h2
   cases h2
 ·intro ds hds
  cases ds with
  | nil=>rfl
  | cons d ds=>
   have h1:=hi.l3 _ hds d (List.mem_cons_self ..)
   have h2:=hall d ((hi.mem _ hds d).2 (.inr (List.mem_cons_self ..)))
   rw [getD_tf h1] at h2
   cases h2
theorem Inv.closed' (hst:Stat P gl ops cl xx all) (hi:Inv P gl ops xx all n listed a G w pre alts U pend s) {d:DOper} (hd:d ∈ all) (hr:d.ix ∈ Region.ready .any ops listed) :
  ∀e ∈ all,(listed.setIfInBounds d.ix true).getD e.ix false = true→∀j,e.cl.testBit j = true→(listed.setIfInBounds d.ix true).getD j false = true:=by
 intro e he hl j hj
 by_cases heq:d.ix = e.ix
 ·have hc:e.cl = d.cl:=by
   obtain ⟨_,_,_,h1,_⟩:=hst.comp e he
   obtain ⟨_,_,_,h2,_⟩:=hst.comp d hd
   rw [h1,h2,heq]
  rw [hc] at hj
  exact getD_set_true (hi.cl_listed hst hd hr hj)
 ·rw [getD_set_ne false heq] at hl
  exact getD_set_true (hi.closed e he hl j hj)
theorem Inv.caught (hst:Stat P gl ops cl xx all) (hi:Inv P gl ops xx all n listed a G w pre alts U pend s) {x:DOper×Option Nat} (hx:x ∈ U) (hr:x.1.ix ∈ Region.ready .any ops listed) {a':Act}
  (hcfg:Cfg P gl G' s.h (mask (msk (U.filter fun y=>y.1.ix != x.1.ix)) s.t) a' w')
  (hγ:∀y ∈ U,y ≠ x→∀id,y.2 = some id→G.γ id = none→G'.γ id = none) :
  Inv P gl ops xx all n (listed.setIfInBounds x.1.ix true) a' G' w' pre alts (U.filter fun y=>y.1.ix != x.1.ix) pend s∧(U.filter fun y=>y.1.ix != x.1.ix).length < U.length:=by
 have hU:∀y,y ∈ (U.filter fun y=>y.1.ix != x.1.ix)↔y ∈ U∧y.1.ix ≠ x.1.ix:=by simp [List.mem_filter]
 obtain ⟨ds0,hds0⟩:=hi.ne
 have hxall:x.1 ∈ all:=(hi.mem _ hds0 x.1).2 (.inl (hi.inPre x hx))
 have hlt:x.1.ix < listed.size:=by
  obtain ⟨o,ho,_⟩:=hst.comp x.1 hxall
  rw [hi.size]
  exact (Array.getElem?_eq_some_iff.1 ho).1
 refine ⟨⟨hcfg,fun y hy=>?_,fun y hy z hz=>hi.free y ((hU y).1 hy).1 z ((hU z).1 hz).1,fun y hy z hz=>hi.uniq y ((hU y).1 hy).1 z ((hU z).1 hz).1,fun y hy z hz=>hi.ids y ((hU y).1 hy).1 z ((hU z).1 hz).1,
  fun y hy=>hi.inPre y ((hU y).1 hy).1,hi.ord,hi.mem,hi.ne,fun d hd=>?_,fun y hy=>?_,fun ds hds d hd=>?_,by simpa using hi.size,hi.closed' hst hxall hr,hi.hlen⟩,?_⟩
 ·obtain ⟨h1,h2⟩:=(hU y).1 hy
  exact (hi.lag y h1).keep (fun _ _=>rfl) (fun _ _=>rfl) (fun c hc hh=>⟨hc,hh⟩) (fun id hid hlt hg=>⟨hlt,hγ y h1 (fun e=>h2 (by rw [e])) id hid hg⟩)
 ·by_cases he:x.1.ix = d.ix
  ·refine .inl ?_
   rw [←he]
   exact getD_set_self hlt false
  ·rcases hi.l1 d hd with h1 | ⟨y,h1,rfl⟩
   ·exact .inl (getD_set_true h1)
   ·exact .inr ⟨y,(hU y).2 ⟨h1,fun e=>he e.symm⟩,rfl⟩
 ·obtain ⟨h1,h2⟩:=(hU y).1 hy
  rw [getD_set_ne true (fun e=>h2 e.symm)]
  exact hi.l2 y h1
 ·by_cases he:x.1.ix = d.ix
  ·exact absurd he (pair_ne (ordOK_pair (hi.ord _ hds) (hi.inPre x hx) d hd))
  ·rw [getD_set_ne true he]
   exact hi.l3 _ hds d hd
 ·rcases Nat.lt_or_ge (U.filter fun y=>y.1.ix != x.1.ix).length U.length with h | h
  ·exact h
  ·have h2:(U.filter fun y=>y.1.ix != x.1.ix).length = U.length:=Nat.le_antisymm (List.length_filter_le _ _) h
   have:=List.length_filter_eq_length_iff.1 h2 x hx
   simp at this
theorem Inv.acted (hst:Stat P gl ops cl xx all) {d:DOper} {rests:List (List DOper)} (hi:Inv P gl ops xx all n listed a G w pre alts U pend s) (hsub:∀r ∈ rests,(d :: r) ∈ alts) (hne:∃r,r ∈ rests) (hr:d.ix ∈ Region.ready .any ops listed) {a':Act} {s1:St} {pend':List (Nat×Chk)}
  (hcfg:Cfg P gl G' s1.h (mask (msk U) s1.t) a' w') (hslots:∀k,d.o.dst ≠ some k→(s1.t.getD k .undef).dim = (s.t.getD k .undef).dim∧(k ∉ d.o.looks→s1.t[k]? = s.t[k]?))
  (hpend:∀c,c ∈ pend→d.cl.testBit c.1 = false→c.2.Holds s.h→c ∈ pend'∧c.2.Holds s1.h) (hlen:s.h.length ≤ s1.h.length) (hγ:∀id,id < s.h.length→G.γ id = none→G'.γ id = none) :
  Inv P gl ops xx all n (listed.setIfInBounds d.ix true) a' G' w' (d :: pre) rests U pend' s1:=by
 obtain ⟨r0,hr0⟩:=hne
 have hd0:=hsub _ hr0
 have hdall:d ∈ all:=(hi.mem _ hd0 d).2 (.inr (List.mem_cons_self ..))
 obtain ⟨_,ho2,_,_⟩:=ordOK_cons (hi.ord _ hd0)
 have hlt:d.ix < listed.size:=by
  obtain ⟨o,ho,_⟩:=hst.comp d hdall
  rw [hi.size]
  exact (Array.getElem?_eq_some_iff.1 ho).1
 have hncl:∀x ∈ U,d.cl.testBit x.1.ix = false:=fun x hx=>by
  cases hb:d.cl.testBit x.1.ix with
  | false=>rfl
  | true=>
   have h1:=hi.cl_listed hst hdall hr hb
   rw [getD_tf (hi.l2 x hx)] at h1
   cases h1
 have hpo:=fun x hx=>pairOK_eff (pair_quiet (ho2 _ (hi.inPre x hx)) (hi.lag x hx).quiet) (hncl x hx)
 have hne:∀x ∈ U,d.ix ≠ x.1.ix:=fun x hx e=>pair_ne (ho2 _ (hi.inPre x hx)) e.symm
 refine ⟨hcfg,fun x hx=>?_,hi.free,hi.uniq,hi.ids,fun x hx=>List.mem_cons_of_mem _ (hi.inPre x hx),fun r hr=>(ordOK_cons (hi.ord _ (hsub r hr))).2.2.2,fun r hr e=>?_,⟨r0,hr0⟩,fun e he=>?_,fun x hx=>?_,fun r hr e he=>?_,by simpa using hi.size,hi.closed' hst hdall hr,by have:=hi.hlen;omega⟩
 ·refine (hi.lag x hx).keep (fun i hl=>?_) (fun k hk=>?_) (fun c hc hh=>?_) (fun id _ hlt hg=>⟨by omega,hγ id hlt hg⟩)
  ·exact ((hslots i fun e=>((hpo x hx).2 i e).1 hl).1).symm
  ·exact (hslots k fun e=>((hpo x hx).2 k e).2 hk).2 ((hpo x hx).1 k hk)
  ·exact hpend _ hc (hncl x hx) hh
 ·rw [hi.mem _ (hsub r hr) e,List.mem_cons,List.mem_cons]
  constructor
  ·rintro (h1 | h1 | h1)
   ·exact .inl (.inr h1)
   ·exact .inl (.inl h1)
   ·exact .inr h1
  ·rintro ((h1 | h1) | h1)
   ·exact .inr (.inl h1)
   ·exact .inl h1
   ·exact .inr (.inr h1)
 ·rcases List.mem_cons.1 he with rfl | he
  ·exact .inl (getD_set_self hlt false)
  ·rcases hi.l1 e he with h1 | h1
   ·exact .inl (getD_set_true h1)
   ·exact .inr h1
 ·rw [getD_set_ne true (hne x hx)]
  exact hi.l2 x hx
 ·have hne':d.ix ≠ e.ix:=pair_ne (ordOK_pair (ordOK_cons (hi.ord _ (hsub r hr))).2.2.2 (List.mem_cons_self ..) e he)
  rw [getD_set_ne true hne']
  exact hi.l3 _ (hsub r hr) e (List.mem_cons_of_mem _ he)
theorem Stat.inj (hst:Stat P gl ops cl xx all) {d e:DOper} (hd:d ∈ all) (he:e ∈ all) (h:d.ix = e.ix):d = e:=by
 obtain ⟨o,h1,h2,h3,_⟩:=hst.comp d hd
 obtain ⟨o',k1,k2,k3,_⟩:=hst.comp e he
 rw [h,k1] at h1
 cases h1
 rw [k2] at h2
 obtain ⟨d1,d2,d3⟩:=d
 obtain ⟨e1,e2,e3⟩:=e
 simp only at h h2 h3 k3
 subst h
 cases h2
 rw [h3,k3]
def Tails (xx:Nat×Nat) (pre:List DOper) (tails:List (List DOper)):Prop:=
 (tails = [[]]∧(xx.1 = xx.2∨∃p ∈ pre,p.ix = xx.1∨p.ix = xx.2))∨
 ∃A r1 B r2,tails = [A :: r1,B :: r2]∧A.ix = xx.1∧B.ix = xx.2∧A.o.op.effs = true∧B.o.op.effs = true∧∀d ∈ r1,d.ix = B.ix∨d.cl.testBit A.ix = true∨d.cl.testBit B.ix = true
theorem Tails.mono {pre pre':List DOper} {tails:List (List DOper)} (h:Tails xx pre tails) (hp:∀d ∈ pre,d ∈ pre'):Tails xx pre' tails:=by
 rcases h with ⟨h1,h2⟩ | h
 ·refine .inl ⟨h1,?_⟩
  rcases h2 with h2 | ⟨p,h2,h3⟩
  ·exact .inl h2
  ·exact .inr ⟨p,hp _ h2,h3⟩
 ·exact .inr h
theorem exc_ix {a b:DOper} (h:excOK xx a b = true):a.ix ≠ b.ix∧((xx.1 = a.ix∧xx.2 = b.ix)∨(xx.1 = b.ix∧xx.2 = a.ix)):=by
 simp only [excOK,Bool.and_eq_true,Bool.or_eq_true,beq_iff_eq,bne_iff_ne,ne_eq] at h
 exact ⟨h.1,h.2.2⟩
theorem Tails.forced {d0 d:DOper} {c:List DOper} {tails:List (List DOper)} (hT:Tails xx pre tails) (hi:Inv P gl ops xx all n listed a G w pre (tails.map ((d0 :: c) ++ ·)) U pend s) {t:List DOper} (ht:t ∈ tails) (hd:d ∈ c ++ t):pairOK d0 d = true:=by
 have halt:∀t ∈ tails,(d0 :: (c ++ t)) ∈ tails.map ((d0 :: c) ++ ·):=fun t ht=>List.mem_map.2 ⟨t,ht,rfl⟩
 have ho:=fun t ht=>(ordOK_cons (hi.ord _ (halt t ht)))
 have hp:=ordOK_pair (ho t ht).2.2.2 (List.mem_cons_self ..) d hd
 simp only [pairX,Bool.or_eq_true] at hp
 rcases hp with hp | hp
 ·exact hp
 exfalso
 obtain ⟨hne,hx⟩:=exc_ix hp
 rcases hT with ⟨rfl,h2⟩ | ⟨A,r1,B,r2,rfl,hA,hB,_⟩
 ·rcases h2 with h2 | ⟨p,hpp,h2⟩
  ·rcases hx with ⟨e1,e2⟩ | ⟨e1,e2⟩
   ·exact hne (by rw [←e1,←e2,h2])
   ·exact hne (by rw [←e1,←e2,h2])
  ·have n1:p.ix ≠ d0.ix:=pair_ne ((ho t ht).2.1 p hpp)
   have n2:p.ix ≠ d.ix:=pair_ne (ordOK_pair (ho t ht).2.2.2 (List.mem_cons_of_mem _ hpp) d hd)
   rcases hx with ⟨e1,e2⟩ | ⟨e1,e2⟩ <;> rcases h2 with h2 | h2
   ·exact n1 (by rw [h2,e1])
   ·exact n2 (by rw [h2,e2])
   ·exact n2 (by rw [h2,e1])
   ·exact n1 (by rw [h2,e2])
 ·have m1:d0.ix ≠ A.ix:=pair_ne (ordOK_pair (ho _ (List.mem_cons_self ..)).2.2.2 (List.mem_cons_self ..) A (by simp))
  have m2:d0.ix ≠ B.ix:=pair_ne (ordOK_pair (ho _ (List.mem_cons_of_mem _ (List.mem_cons_self ..))).2.2.2 (List.mem_cons_self ..) B (by simp))
  rcases hx with ⟨e1,e2⟩ | ⟨e1,e2⟩
  ·exact m1 (by rw [hA,e1])
  ·exact m2 (by rw [hB,e2])
theorem draw_any {base:Nat} {call:AE.Call} {dsts:List Nat} (hdsts:∀d ∈ all,∀k,d.o.dst = some k→k ∈ dsts) (hcall:CallOK P gl call) (hk:CallKeeps call) (hst:Stat P gl ops cl xx all) {ro:Option Nat} {m:Nat} {x:Ex} {s':St} {Q:Exit→Act→World→Prop} :
  ∀(fuel:Nat) (listed:Array Bool) (a:Act) (w:World) (G:Ghost) (pre c:List DOper) (tails:List (List DOper)) (U:List (DOper×Option Nat)) (pend:List (Nat×Chk)) (s:St),Tails xx pre tails→Inv P gl ops xx all n listed a G w pre (tails.map (c ++ ·)) U pend s→base ≤ s.h.length→
   (∀t ∈ tails,runDraw base call dsts (c ++ t) pend s = some (x,s'))→(∀d rest,c = d :: rest→d.o.op.effs = true)→(∀t ∈ tails,U.length + (c ++ t).length ≤ fuel)→(∀e a' w',Fin P gl n G w a.defers x s' e a' w'→Q e a' w')→
   wpAnyIn (FR ro) m P .any ops Q fuel listed a w:=by
 intro fuel
 induction fuel with
 | zero=>
  intro listed a w G pre c tails U pend s hT hi hb hr hhead hfuel hQ
  obtain ⟨_,hds⟩:=hi.ne
  obtain ⟨t0,ht0,rfl⟩:=List.mem_map.1 hds
  have hf0:=hfuel t0 ht0
  obtain ⟨rfl,hnil⟩ :U = []∧c ++ t0 = []:=⟨List.length_eq_zero_iff.1 (by omega),List.length_eq_zero_iff.1 (by omega)⟩
  have hr0:=hr t0 ht0
  rw [hnil] at hr0 hds
  simp only [runDraw] at hr0
  cases hr0
  have hcfg:=hi.cfg
  simp only [msk,List.filterMap_nil,mask_nil] at hcfg
  refine ⟨?_,hQ _ _ _ ⟨G,Ext.refl _ G w,rfl,rfl,hcfg⟩⟩
  cases hrd:Region.ready .any ops listed with
  | nil=>rfl
  | cons i is=>
   have hmem:i ∈ Region.ready .any ops listed:=by rw [hrd];exact List.mem_cons_self ..
   obtain ⟨h1,o,ho,_⟩:=mem_ready.1 hmem
   obtain ⟨d,hd,rfl⟩:=hst.cover i (Array.getElem?_eq_some_iff.1 ho).1
   rcases (hi.mem _ hds d).1 hd with h2 | h2
   ·rcases hi.l1 d h2 with h3 | ⟨y,h3,_⟩
    ·rw [getD_tf h1] at h3;cases h3
    ·cases h3
   ·cases h2
 | succ fuel ih=>
  intro listed a w G pre c tails U pend s hT hi hb hr hhead hfuel hQ
  obtain ⟨_,hds⟩:=hi.ne
  obtain ⟨t0,ht0,rfl⟩:=List.mem_map.1 hds
  have halt:∀t ∈ tails,(c ++ t) ∈ tails.map (c ++ ·):=fun t ht=>List.mem_map.2 ⟨t,ht,rfl⟩
  refine ⟨fun hnil=>?_,fun i hri=>?_⟩
  ·obtain ⟨rfl,hnils⟩:=hi.finished hst hnil
   have hr0:=hr t0 ht0
   rw [hnils _ hds] at hr0
   simp only [runDraw] at hr0
   cases hr0
   have hcfg:=hi.cfg
   simp only [msk,List.filterMap_nil,mask_nil] at hcfg
   exact hQ _ _ _ ⟨G,Ext.refl _ G w,rfl,rfl,hcfg⟩
  ·obtain ⟨hun,o,ho,_⟩:=mem_ready.1 hri
   obtain ⟨d,hd,rfl⟩:=hst.cover i (Array.getElem?_eq_some_iff.1 ho).1
   obtain ⟨o',ho',hco,_,_⟩:=hst.comp d hd
   rw [ho] at ho'
   cases ho'
   have hpres:d ∈ pre→∃y ∈ U,y.1 = d:=fun h=>by
    rcases hi.l1 d h with h3 | h3
    ·rw [getD_tf hun] at h3;cases h3
    ·exact h3
   unfold wpOpIn
   simp only [ho]
   by_cases h2:d ∈ pre
   ·
    obtain ⟨y,hy,rfl⟩:=hpres h2
    have hlag:=hi.lag y hy
    have hself:=self_free (hst.selfs _ hd) hlag.quiet
    have hmask:∀k ∈ y.1.o.looks,k ∉ msk U:=fun k hkl hkm=>by
     obtain ⟨z,hz,hzd⟩:=mem_msk.1 hkm
     by_cases he:z.1.ix = y.1.ix
     ·rw [hi.uniq y hy z hz he] at hzd
      exact hself k hzd hkl
     ·have hf:=hi.free z hz y hy (fun e=>he e.symm)
      have hb:=hf.1 k hzd hkl
      have h1:=hi.cl_listed hst hd hri hb
      rw [getD_tf (hi.l2 z hz)] at h1
      cases h1
    obtain ⟨hg,hl⟩:=AOper.want_looks (same_mask (t:=s.t) hmask)
    have hout:∀v,(∀k z,y.1.o.dst = some k→s.t[k]? = some z→z = v)→AE.put y.1.o.dst v (mask (msk U) s.t) = mask (msk (U.filter fun z=>z.1.ix != y.1.ix)) s.t:=fun v hv=>
     put_mask_out (fun z=>by simp [List.mem_filter]) hy (fun z hz he=>hi.uniq y hy z hz he) (fun z hz hne=>hi.free y hy z hz hne) hv
    have next:∀{u:Value} {w':World} {G':Ghost},Ext n G w G' w'→Cfg P gl G' s.h (mask (msk (U.filter fun z=>z.1.ix != y.1.ix)) s.t) (a.put o.dst u) w'→
      (∀z ∈ U,z ≠ y→∀id,z.2 = some id→G.γ id = none→G'.γ id = none)→wpAnyIn (FR ro) m P .any ops Q fuel (listed.setIfInBounds y.1.ix true) (a.put o.dst u) w':=by
     intro u w' G' he hcfg hγ
     obtain ⟨hi',hlt⟩:=hi.caught hst hy hri hcfg hγ
     refine ih _ _ _ _ _ _ _ _ _ _ hT hi' hb hr hhead (fun t ht=>by have:=hfuel t ht;omega) fun e a' w'' hf=>hQ _ _ _ ?_
     rw [put_defers] at hf
     exact Fin.of_ext (Nat.le_refl _) he hf
    have hold:∀{w':World} {G':Ghost},Ext s.h.length G w G' w'→∀z ∈ U,z ≠ y→∀id,z.2 = some id→G.γ id = none→G'.γ id = none:=by
     intro w' G' he z hz _ id hid hg
     cases hg':G'.γ id with
     | none=>rfl
     | some b=>
      rcases he.gn id b hg' with h | ⟨h,_⟩
      ·rw [hg] at h;cases h
      ·have:=((hi.lag z hz).young id hid).2.1;omega
    rcases hlag.does with ⟨d1,d2,d3⟩ | ⟨d1,v,d2,d3⟩
    ·obtain ⟨hcomp,hdst,hwant⟩:=wanted_rel hi.cfg.tr hco (hg.trans d1)
     rw [if_neg (by rw [hwant];simp)]
     refine ⟨fun _ _=>trivial,?_⟩
     have:=unwanted_put hi.cfg y.1.o.dst
     rw [hout _ d3] at this
     exact next (Ext.refl n G w) (by rw [←hdst];exact this) (fun _ _ _ _ _ h=>h)
    ·obtain ⟨hcomp,hdst,hwant⟩:=wanted_rel hi.cfg.tr hco (hg.trans d1)
     rw [if_pos hwant]
     have plain:runOp base call [] o.dst y.1.o.op ⟨mask (msk U) s.t,s.h,s.e⟩ = some (.nor,⟨AE.put o.dst v (mask (msk U) s.t),s.h,s.e⟩)→
       o.wpIn (FR ro) m P a w (wpAnyIn (FR ro) m P .any ops Q fuel (listed.setIfInBounds y.1.ix true)) Q:=by
      intro hrun
      refine op_sound hcall hk hi.cfg ProvOK.nil hcomp hrun (fun _ u w' G' he hc' _ _ _=>?_) (fun pv h=>by cases h)
      simp only [←hdst] at hc'
      rw [hout v d2] at hc'
      rw [hdst] at hc'
      exact next (he.weaken hi.hlen) hc' (hold he)
     rcases d3 with ⟨e1,e2⟩ | ⟨e0,k,q,e1,e2,e3⟩ | ⟨e0,sh,z,ok,m,key,e1,e2,e3⟩ | ⟨id,cs,e1,e2,e3,e4,e5⟩
     ·exact plain (runOp_pure (s:=⟨mask (msk U) s.t,s.h,s.e⟩) (by rw [hl.pureV];exact e2))
     ·refine plain ?_
      have hq:ev (mask (msk U) s.t) q = ev s.t q:=by rw [e1] at hl;exact Same.ev hl
      simp only [e1,runOp,hq,e3,Option.map_some]
     ·refine plain ?_
      have hm':ev (mask (msk U) s.t) m = ev s.t m:=by rw [e1] at hl;exact Same.ev hl.left
      have hk':ev (mask (msk U) s.t) key = ev s.t key:=by rw [e1] at hl;exact Same.ev hl.right
      simp only [e1,runOp,hm',hk',e3,Option.map_some]
     ·obtain ⟨g1,g2,g3⟩:=hlag.young id e1
      have hnew:NewOf (mask (msk U) s.t) y.1.o.op cs:=by
       rcases e3 with e3 | ⟨k,q,f1,f2,f3⟩
       ·exact .inl e3
       ·have hq:ev (mask (msk U) s.t) q = ev s.t q:=by rw [f1] at hl;exact Same.ev hl
        exact .inr ⟨k,q,f1,by rw [hq];exact f2,f3⟩
      obtain ⟨u,w',h1,h2,h3⟩:=late_box hi.cfg hcomp hnew e5 g3 g1
      refine ⟨fun _ _=>trivial,?_⟩
      rw [Oper.semAt_eq _ _ _ (comp_not_defer hcomp),h1,Oper.uponIn_value]
      rw [←hdst,←e2,hout v d2,hdst] at h3
      refine next h2 h3 fun z hz hne id' hid' hg'=>?_
      simp only [Ghost.withBox]
      rw [if_neg]
      ·exact hg'
      ·rintro rfl
       exact hne (hi.ids y hy z hz id' e1 hid')
   ·
    have act:∀(c':List DOper) (tails':List (List DOper)),(∀t ∈ tails',(d :: (c' ++ t)) ∈ tails.map (c ++ ·))→(∃t,t ∈ tails')→(∀t ∈ tails',runDraw base call dsts (d :: (c' ++ t)) pend s = some (x,s'))→Tails xx (d :: pre) tails'→(∀t ∈ tails',U.length + (c' ++ t).length ≤ fuel)→d.o.op.effs = true→
      (if Region.wanted o (yielded ops a.tmps) then o.wpIn (FR ro) m P a w (wpAnyIn (FR ro) m P .any ops Q fuel (listed.setIfInBounds d.ix true)) Q else (∀f,o.about P w a.eval = some f→(FR ro).fn f)∧wpAnyIn (FR ro) m P .any ops Q fuel (listed.setIfInBounds d.ix true) (a.put o.dst undef) w):=by
     intro c' tails' hsub hne' hra hT' hfuel' heff
     obtain ⟨t1,ht1⟩:=hne'
     have hr:=hra t1 ht1
     obtain ⟨_,ho2,_,_⟩:=ordOK_cons (hi.ord _ (hsub t1 ht1))
     have hncl:∀x ∈ U,d.cl.testBit x.1.ix = false:=fun x hx=>by
      cases hb:d.cl.testBit x.1.ix with
      | false=>rfl
      | true=>
       have h1:=hi.cl_listed hst hd hri hb
       rw [getD_tf (hi.l2 x hx)] at h1
       cases h1
     have hpo:=fun x hx=>pairOK_eff (pair_quiet (ho2 _ (hi.inPre x hx)) (hi.lag x hx).quiet) (hncl x hx)
     have hmask:∀k ∈ d.o.looks,k ∉ msk U:=fun k hkl hkm=>by
      obtain ⟨z,hz,hzd⟩:=mem_msk.1 hkm
      exact (hpo z hz).1 k hzd hkl
     have hdm:∀k,d.o.dst = some k→k ∉ msk U:=fun k hkd hkm=>by
      obtain ⟨z,hz,hzd⟩:=mem_msk.1 hkm
      exact ((hpo z hz).2 k hkd).2 hzd
     obtain ⟨hg,hl⟩:=AOper.want_looks (same_mask (t:=s.t) hmask)
     have hlm:∀k ∈ d.o.op.looks,k ∉ msk U:=fun k hk0=>hmask k (by unfold AOper.looks;split <;> simp [hk0])
     have next:∀{u:Value} {w':World} {G':Ghost} {s1:St} {pend':List (Nat×Chk)},Ext n G w G' w'→Inv P gl ops xx all n (listed.setIfInBounds d.ix true) (a.put o.dst u) G' w' (d :: pre) (tails'.map (c' ++ ·)) U pend' s1→base ≤ s1.h.length→
       (∀t ∈ tails',runDraw base call dsts (c' ++ t) pend' s1 = some (x,s'))→wpAnyIn (FR ro) m P .any ops Q fuel (listed.setIfInBounds d.ix true) (a.put o.dst u) w':=by
      intro u w' G' s1 pend' he hi' hb' hr'
      obtain ⟨pre2,ds2,U2,pend2,s2,hi2,hb2,hr2,hhead2,hlen2,hpre2⟩:=advance c' (d :: pre) U pend' s1 hi' hb' hr'
      refine ih _ _ _ _ _ _ _ _ _ _ (hT'.mono hpre2) hi2 hb2 hr2 hhead2 (fun t ht=>by have:=hfuel' t ht;simp only [List.length_append] at this ⊢;omega) fun e a' w'' hf=>hQ _ _ _ ?_
      rw [put_defers] at hf
      exact Fin.of_ext (Nat.le_refl _) he hf
     have hsub':∀r ∈ tails'.map (c' ++ ·),(d :: r) ∈ tails.map (c ++ ·):=fun r hr=>by
      obtain ⟨t,ht,rfl⟩:=List.mem_map.1 hr
      exact hsub t ht
     have hne2:∃r,r ∈ tails'.map (c' ++ ·):=⟨_,List.mem_map.2 ⟨t1,ht1,rfl⟩⟩
     simp only [runDraw,heff,if_true] at hr hra
     split at hr
     ·rename_i hw
      obtain ⟨hcomp,hdst,hwant⟩:=wanted_rel hi.cfg.tr hco (hg.trans hw)
      rw [if_pos hwant]
      simp only [hw] at hra
      split at hr
      ·rename_i s1 hop
       simp only [hop] at hra
       split at hr
       ·rename_i hpend
        simp only [hpend,if_true] at hra
        have hkeep:=(runOp_keeps (base:=base) hk hb hop).1
        have hrun:runOp base call [] o.dst d.o.op ⟨mask (msk U) s.t,s.h,s.e⟩ = some (.nor,{ s1 with t:=mask (msk U) s1.t}):=by
         have:=runOp_mask (base:=base) (call:=call) (dst:=d.o.dst) (t:=s.t) (h:=s.h) (e:=s.e) heff hlm hdm
         rw [←hdst,this,hop]
         rfl
        refine op_sound hcall hk hi.cfg ProvOK.nil hcomp hrun (fun _ u w' G' he hc' _ _ _=>?_) (fun pv h=>by cases h)
        refine next (he.weaken hi.hlen) (hi.acted hst hsub' hne2 hri (s1:=s1) hc' (fun k hkd=>⟨((runOp_slots hop).2 k hkd).1,fun hk0=>((runOp_slots hop).2 k hkd).2 fun hin=>hk0 (by unfold AOper.looks;split <;> simp [hin])⟩) (fun c hc hcl _=>?_) hkeep (fun id hid hg'=>?_)) (by omega) hra
        ·have hm:c ∈ pend.filter fun c=>!d.cl.testBit c.1:=List.mem_filter.2 ⟨hc,by simp [hcl]⟩
         exact ⟨hm,Chk.holds_of_ok (List.all_eq_true.1 hpend c hm)⟩
        ·cases hg2:G'.γ id with
         | none=>rfl
         | some b=>
          rcases he.gn id b hg2 with h | ⟨h,_⟩
          ·rw [hg'] at h;cases h
          ·omega
       ·cases hr
      ·rename_i v s1 hop
       cases hr
       have hrun:runOp base call [] o.dst d.o.op ⟨mask (msk U) s.t,s.h,s.e⟩ = some (.pan v,{ s1 with t:=mask (msk U) s1.t}):=by
        have:=runOp_mask (base:=base) (call:=call) (dst:=d.o.dst) (t:=s.t) (h:=s.h) (e:=s.e) heff hlm hdm
        rw [←hdst,this,hop]
        rfl
       refine op_sound hcall hk hi.cfg ProvOK.nil hcomp hrun (fun h=>by cases h) (fun pv hpv u w' G' he hc' hv=>?_)
       cases hpv
       refine hQ _ _ _ ⟨G',he.weaken hi.hlen,rfl,u,rfl,⟨hc'.rel,hc'.tr.poison (by rw [mask_length,mask_length]) fun i y hy=>?_⟩,hv⟩
       simp only [mask_get] at hy ⊢
       by_cases hi1:dsts.contains i = true
       ·rw [Option.map_eq_some_iff] at hy
        obtain ⟨z,_,hz⟩:=hy
        rw [if_pos hi1] at hz
        exact .inr hz.symm
       ·have hi2:¬(msk U).contains i = true:=fun e=>hi1 (by
         simp only [List.contains_iff_mem,mem_msk] at e ⊢
         obtain ⟨z,h1,h2⟩:=e
         exact hdsts z.1 ((hi.mem _ hds z.1).2 (.inl (hi.inPre z h1))) i h2)
        simp only [hi1,hi2,Bool.false_eq_true,if_false] at hy ⊢
        exact .inl hy
      ·cases hr
     ·rename_i hw
      obtain ⟨hcomp,hdst,hwant⟩:=wanted_rel hi.cfg.tr hco (hg.trans hw)
      simp only [hw] at hra
      rw [if_neg (by rw [hwant];simp)]
      refine ⟨fun _ _=>trivial,?_⟩
      have hc':=unwanted_put hi.cfg d.o.dst
      rw [put_mask hdm] at hc'
      have hc2:Cfg P gl G s.h (mask (msk U) (AE.put d.o.dst (.tup []) s.t)) (a.put o.dst undef) w:=by rw [←hdst];exact hc'
      exact next (Ext.refl n G w) (hi.acted hst hsub' hne2 hri (s1:={ s with t:=AE.put d.o.dst (.tup []) s.t}) hc2 (fun k hkd=>⟨by rw [getD_of_get (put_get_ne hkd)],fun _=>put_get_ne hkd⟩)
       (fun c hc _ hh=>⟨hc,hh⟩) (Nat.le_refl _) (fun _ _ h=>h)) hb hra
     ·cases hr
    have hin:∀t ∈ tails,d ∈ c ++ t:=fun t ht=>((hi.mem _ (halt t ht) d).1 hd).resolve_left h2
    cases c with
    | cons d0 c'=>
     have heff0:=hhead d0 c' rfl
     have hd0:d = d0:=by
      rcases List.mem_cons.1 (hin t0 ht0) with h3 | h3
      ·exact h3
      ·have hpk:=hT.forced hi ht0 h3
       simp only [pairOK,heff0,Bool.not_true,Bool.false_and,Bool.or_false,Bool.and_eq_true] at hpk
       have h1:=hi.cl_listed hst hd hri hpk.1.2
       rw [getD_tf (hi.l3 _ hds d0 (List.mem_cons_self ..))] at h1
       cases h1
     subst hd0
     exact act c' tails (fun t ht=>halt t ht) ⟨t0,ht0⟩ hr (hT.mono fun _ h=>List.mem_cons_of_mem _ h) (fun t ht=>by have:=hfuel t ht;simp only [List.cons_append,List.length_cons] at this;omega) heff0
    | nil=>
     rcases hT with ⟨rfl,_⟩ | ⟨A,r1,B,r2,rfl,hA,hB,eA,eB,hr1⟩
     ·have:=hin [] (List.mem_cons_self ..)
      cases this
     ·have mA:(A :: r1) ∈ [A :: r1,B :: r2]:=List.mem_cons_self ..
      have mB:(B :: r2) ∈ [A :: r1,B :: r2]:=List.mem_cons_of_mem _ (List.mem_cons_self ..)
      have caseA:d = A→_:=fun e=>act r1 [[]] (fun t ht=>by simp at ht;subst ht;subst e;simp) ⟨[],List.mem_cons_self ..⟩ (fun t ht=>by simp at ht;subst ht;subst e;simpa using hr _ mA) (.inl ⟨rfl,.inr ⟨d,List.mem_cons_self ..,.inl (by rw [e];exact hA)⟩⟩) (fun t ht=>by simp at ht;subst ht;have:=hfuel _ mA;simp at this ⊢;omega) (by rw [e];exact eA)
      have caseB:d = B→_:=fun e=>act r2 [[]] (fun t ht=>by simp at ht;subst ht;subst e;simp) ⟨[],List.mem_cons_self ..⟩ (fun t ht=>by simp at ht;subst ht;subst e;simpa using hr _ mB) (.inl ⟨rfl,.inr ⟨d,List.mem_cons_self ..,.inr (by rw [e];exact hB)⟩⟩) (fun t ht=>by simp at ht;subst ht;have:=hfuel _ mB;simp at this ⊢;omega) (by rw [e];exact eB)
      rcases List.mem_cons.1 (hin _ mA) with h3 | h3
      ·exact caseA h3
      ·have hBall:B ∈ all:=(hi.mem _ (halt _ mB) B).2 (.inr (List.mem_cons_self ..))
       rcases hr1 d h3 with h4 | h4 | h4
       ·exact caseB (hst.inj hd hBall h4)
       ·have h1:=hi.cl_listed hst hd hri h4
        rw [getD_tf (hi.l3 _ (halt _ mA) A (List.mem_cons_self ..))] at h1
        cases h1
       ·have h1:=hi.cl_listed hst hd hri h4
        rw [getD_tf (hi.l3 _ (halt _ mB) B (List.mem_cons_self ..))] at h1
        cases h1
end
end Go.AE
namespace Go.AE
section
variable {P:Program} {gl:Nat→Option (List AVal)} {ops:Array Oper} {G G':Ghost} {w w':World} {h:List ABox} {t:List AVal} {a:Act} {n:Nat}
theorem mapM_get {α β:Type} {f:α→Option β}:∀{l:List α} {r:List β},l.mapM f = some r→∀(i:Nat) (b:β),r[i]? = some b→∃x,l[i]? = some x∧f x = some b
 | [],r,h,i,b,hb=>by simp at h;subst h;simp at hb
 | x :: l,r,h,i,b,hb=>by
  simp only [List.mapM_cons,Option.pure_def,Option.bind_eq_bind,Option.bind_eq_some_iff] at h
  obtain ⟨y,hy,ys,hys,h⟩:=h
  cases h
  cases i with
  | zero=>simp at hb;subst hb;exact ⟨x,rfl,hy⟩
  | succ i=>simp at hb;simpa using mapM_get hys i b hb
theorem lays_of_mapM:∀(l:List Oper) (k:Nat) (os:List AOper),(∀j,l[j]? = ops[k + j]?)→l.mapM (compOper P gl ops) = some os→Lays P gl ops (List.range' k l.length) os
 | [],k,os,_,h=>by simp at h;subst h;trivial
 | x :: l,k,os,hl,h=>by
  simp only [List.mapM_cons,Option.pure_def,Option.bind_eq_bind,Option.bind_eq_some_iff] at h
  obtain ⟨y,hy,ys,hys,h⟩:=h
  cases h
  refine ⟨⟨x,by have:=hl 0;simpa using this.symm,hy⟩,?_⟩
  exact lays_of_mapM l (k + 1) ys (fun j=>by have:=hl (j + 1);simp at this;rw [this];congr 1;omega) hys
theorem mem_orderD {aS:List AOper} {cl l:List Nat} {d:DOper} (h:d ∈ orderD aS cl l):∃i ao,aS[i]? = some ao∧d = ⟨ao,i,cl.getD i 0⟩:=by
 simp only [orderD,List.mem_filterMap,Option.map_eq_some_iff] at h
 obtain ⟨i,_,ao,hao,rfl⟩:=h
 exact ⟨i,ao,hao,rfl⟩
theorem stat_of {aS:List AOper} (has:ops.toList.mapM (compOper P gl ops) = some aS) {cl:List Nat} {xx:Nat×Nat} {ds:List DOper} (hm:∀d ∈ ds,∃i ao,aS[i]? = some ao∧d = ⟨ao,i,cl.getD i 0⟩)
  (hc1:∀i,i < ops.size→∃d ∈ ds,d.ix = i) (hc2:∀d ∈ ds,d.cl = joinE cl ((ops.toList.map edges).getD d.ix [])) (hc3:ordOK xx (ops.toList.map edges) [] ds = true):Stat P gl ops cl xx ds:=by
 refine ⟨fun d hd=>?_,hc1,hc3,ordOK_self hc3⟩
 obtain ⟨i,ao,hao,rfl⟩:=hm d hd
 obtain ⟨o,ho,hco⟩:=mapM_get has i ao hao
 have ho':ops[i]? = some o:=by simpa using ho
 refine ⟨o,ho',hco,rfl,?_⟩
 have:=hc2 _ hd
 simp only at this
 rw [this,List.getD_eq_getElem?_getD,List.getElem?_map,ho]
 rfl
theorem compDraw_stat {ds:List DOper} (h:compDraw P gl ops = some ds):∃cl,Stat P gl ops cl (0,0) ds:=by
 simp only [compDraw,Option.pure_def,Option.bind_eq_bind,Option.bind_eq_some_iff] at h
 obtain ⟨aS,has,h⟩:=h
 split at h
 ·rename_i hc
  simp only [Bool.and_eq_true,List.all_eq_true,List.mem_range,List.any_eq_true,beq_iff_eq] at hc
  obtain ⟨⟨hc1,hc2⟩,hc3⟩:=hc
  have hds:=Option.some.inj h
  rw [hds] at hc1 hc2 hc3
  exact ⟨closure (ops.toList.map edges),stat_of has (fun d hd=>mem_orderD (by rw [hds];exact hd)) hc1 hc2 hc3⟩
 ·cases h
theorem compDraw2_stat {p:List DOper×DOper×DOper×List DOper} (h:compDraw2 P gl ops = some p):∃cl,Stat P gl ops cl (p.2.1.ix,p.2.2.1.ix) (p.1 ++ p.2.1 :: p.2.2.1 :: p.2.2.2)∧Stat P gl ops cl (p.2.1.ix,p.2.2.1.ix) (p.1 ++ p.2.2.1 :: p.2.1 :: p.2.2.2)∧p.2.1.o.op.effs = true∧p.2.2.1.o.op.effs = true∧
  ∀d ∈ p.2.2.2,d.cl.testBit p.2.1.ix = true∨d.cl.testBit p.2.2.1.ix = true:=by
 simp only [compDraw2,Option.pure_def,Option.bind_eq_bind,Option.bind_eq_some_iff] at h
 obtain ⟨aS,has,⟨i,j⟩,_,a,ha,b,hb,h⟩:=h
 split at h
 ·rename_i hc
  simp only [Bool.and_eq_true,fitsD,List.all_eq_true,List.mem_range,List.any_eq_true,beq_iff_eq,Bool.or_eq_true] at hc
  obtain ⟨⟨⟨⟨⟨⟨f1,f2⟩,hai⟩,hbj⟩,ea⟩,eb⟩,hr⟩:=hc
  cases h
  subst hai
  subst hbj
  have ma:=List.mem_of_mem_head? ha
  have mb:=List.mem_of_mem_head? hb
  have mem1:∀{y z:DOper} {c l m r:List Nat},y ∈ orderD aS (closure (ops.toList.map edges)) l→z ∈ orderD aS (closure (ops.toList.map edges)) m→∀d ∈ orderD aS (closure (ops.toList.map edges)) c ++ y :: z :: orderD aS (closure (ops.toList.map edges)) r,∃i ao,aS[i]? = some ao∧d = ⟨ao,i,(closure (ops.toList.map edges)).getD i 0⟩:=by
   intro y z c l m r hy hz d hd
   rcases List.mem_append.1 hd with hd | hd
   ·exact mem_orderD hd
   ·rcases List.mem_cons.1 hd with rfl | hd
    ·exact mem_orderD hy
    ·rcases List.mem_cons.1 hd with rfl | hd
     ·exact mem_orderD hz
     ·exact mem_orderD hd
  exact ⟨closure (ops.toList.map edges),stat_of has (mem1 ma mb) f1.1.1 f1.1.2 f1.2,stat_of has (mem1 mb ma) f2.1.1 f2.1.2 f2.2,ea,eb,hr⟩
 ·cases h
theorem Cfg.of_drew (hc:Cfg P gl G h t a w) (d:Nat):Cfg P gl G h t a { w with drawn:=d}:=⟨hc.rel.of_drew d,hc.tr.of_drew d⟩
theorem Stat.len {cl:List Nat} {xx:Nat×Nat} {ds:List DOper} (hst:Stat P gl ops cl xx ds):ds.length ≤ ops.size:=by
 have hnd:(ds.map (·.ix)).Nodup:=by
  have key:∀(l pre:List DOper),ordOK xx (ops.toList.map edges) pre l = true→(l.map (·.ix)).Nodup:=by
   intro l
   induction l with
   | nil=>intro _ _;simp
   | cons d l ih=>
    intro pre ho
    obtain ⟨_,_,_,h4⟩:=ordOK_cons ho
    rw [List.map_cons,List.nodup_cons]
    refine ⟨fun hmem=>?_,ih _ h4⟩
    obtain ⟨y,hy,hye⟩:=List.mem_map.1 hmem
    exact pair_ne (ordOK_pair h4 (List.mem_cons_self ..) y hy) hye.symm
  exact key ds [] hst.order
 have hsub:∀i ∈ ds.map (·.ix),i ∈ List.range ops.size:=by
  intro i hi
  obtain ⟨d,hd,rfl⟩:=List.mem_map.1 hi
  obtain ⟨o,ho,_⟩:=hst.comp d hd
  exact List.mem_range.2 (Array.getElem?_eq_some_iff.1 ho).1
 have hle:=hnd.length_le_of_subset hsub
 simpa using hle
theorem Stat.same {cl:List Nat} {xx:Nat×Nat} {ds es:List DOper} (h1:Stat P gl ops cl xx ds) (h2:Stat P gl ops cl xx es) {d:DOper} (hd:d ∈ ds):d ∈ es:=by
 obtain ⟨o,k1,k2,k3,_⟩:=h1.comp d hd
 obtain ⟨e,he,hix⟩:=h2.cover d.ix (Array.getElem?_eq_some_iff.1 k1).1
 obtain ⟨o',l1,l2,l3,_⟩:=h2.comp e he
 rw [hix,k1] at l1
 cases l1
 rw [k2] at l2
 obtain ⟨d1,d2,d3⟩:=d
 obtain ⟨e1,e2,e3⟩:=e
 simp only at hix l2 l3 k3
 subst hix
 cases l2
 rw [k3,←l3]
 exact he
theorem inv_start {cl:List Nat} {xx:Nat×Nat} {all:List DOper} {alts:List (List DOper)} {s:St} (hst:Stat P gl ops cl xx all) (halts:∀ds ∈ alts,Stat P gl ops cl xx ds) (hne:∃ds,ds ∈ alts) (hc:Cfg P gl G s.h s.t a w) :
  Inv P gl ops xx all s.h.length (Array.replicate ops.size false) a G w [] alts [] [] s:=by
 refine ⟨by rw [msk,List.filterMap_nil,mask_nil];exact hc,(fun _ h=>by cases h),(fun _ h=>by cases h),(fun _ h=>by cases h),(fun _ h=>by cases h),(fun _ h=>by cases h),fun ds hd=>(halts ds hd).order,
  fun ds hd d=>⟨fun h=>.inr (hst.same (halts ds hd) h),fun h=>?_⟩,hne,(fun _ h=>by cases h),(fun _ h=>by cases h),fun ds hds d hd=>?_,by simp,fun d hd hl=>?_,Nat.le_refl _⟩
 ·rcases h with h | h
  ·cases h
  ·exact (halts ds hd).same hst h
 ·obtain ⟨o,ho,_⟩:=(halts ds hds).comp d hd
  have:=(Array.getElem?_eq_some_iff.1 ho).1
  simp [this]
 ·have:=getD_lt hl
  simp at this
  simp [this] at hl
theorem draw_sound (hm:P.follows .mixedOrders = true) {call:AE.Call} (hcall:CallOK P gl call) (hk:CallKeeps call) {ds:List DOper} (hcomp:compDraw P gl ops = some ds) {base:Nat} {ro:Option Nat} {m:Nat} {s:St} {x:Ex} {s':St}
  (hc:Cfg P gl G s.h s.t a w) (hb:base ≤ s.h.length) (hrun:runDraw base call (ds.filterMap (·.o.dst)) ds [] s = some (x,s')) {id:Nat}:(Code.region id ops true).wpIn (FR ro) m P (Fin P gl s.h.length G w a.defers x s') a w:=by
 obtain ⟨cl,hst⟩:=compDraw_stat hcomp
 refine wpIn_region_any hm ?_
 have hc':=hc.of_drew (w.drawn + 1)
 have hinv:Inv P gl ops (0,0) ds s.h.length (Array.replicate ops.size false) a G { w with drawn:=w.drawn + 1} [] ([[]].map (ds ++ ·)) [] [] s:=
  inv_start hst (fun es hes=>by simp at hes;rw [hes];exact hst) ⟨_,List.mem_cons_self ..⟩ hc'
 obtain ⟨pre,ds',U,pend,s1,h1,h2,h3,h4,h5,h6⟩:=advance (tails:=[[]]) ds [] [] [] s hinv hb (fun t ht=>by simp at ht;subst ht;simpa using hrun)
 refine draw_any (fun d hd k hk=>List.mem_filterMap.2 ⟨d,hd,hk⟩) hcall hk hst ops.size _ _ _ _ _ _ _ _ _ _ (.inl ⟨rfl,.inl rfl⟩) h1 h2 h3 h4 (fun t ht=>?_) fun e a' w' hf=>?_
 ·simp at ht
  subst ht
  have:=hst.len
  simp at h5 ⊢
  omega
 ·exact Fin.of_ext (Nat.le_refl _) ((Ext.refl _ G w).drew _) hf
theorem draw2_sound (hm:P.follows .mixedOrders = true) {call:AE.Call} (hcall:CallOK P gl call) (hk:CallKeeps call) {p:List DOper×DOper×DOper×List DOper} (hcomp:compDraw2 P gl ops = some p) {base:Nat} {ro:Option Nat} {m:Nat} {s:St} {x:Ex} {s':St}
  (hc:Cfg P gl G s.h s.t a w) (hb:base ≤ s.h.length) {dsts:List Nat} (hd:dsts = (p.1 ++ p.2.1 :: p.2.2.1 :: p.2.2.2).filterMap (·.o.dst)) (hrun:both p.2.1 p.2.2.1 (runDraw base call dsts (p.1 ++ [p.2.1,p.2.2.1]) [] s) (runDraw base call dsts (p.1 ++ p.2.1 :: p.2.2.1 :: p.2.2.2) [] s) (runDraw base call dsts (p.1 ++ p.2.2.1 :: p.2.1 :: p.2.2.2) [] s) = some (x,s')) {id:Nat} :
  (Code.region id ops true).wpIn (FR ro) m P (Fin P gl s.h.length G w a.defers x s') a w:=by
 obtain ⟨c,A,B,r⟩:=p
 obtain ⟨cl,hst,hst2,eA,eB,hr⟩:=compDraw2_stat hcomp
 obtain ⟨rfl,hx,hy⟩:=both_nor hrun
 simp only at hst hst2 eA eB hx hy hr hd
 refine wpIn_region_any hm ?_
 have hc':=hc.of_drew (w.drawn + 1)
 have hinv:Inv P gl ops (A.ix,B.ix) (c ++ A :: B :: r) s.h.length (Array.replicate ops.size false) a G { w with drawn:=w.drawn + 1} [] ([A :: B :: r,B :: A :: r].map (c ++ ·)) [] [] s:=
  inv_start hst (fun es hes=>by
   simp at hes
   rcases hes with rfl | rfl
   ·exact hst
   ·exact hst2) ⟨_,List.mem_cons_self ..⟩ hc'
 obtain ⟨pre,ds',U,pend,s1,h1,h2,h3,h4,h5,h6⟩:=advance (tails:=[A :: B :: r,B :: A :: r]) c [] [] [] s hinv hb (fun t ht=>by
  simp at ht
  rcases ht with rfl | rfl
  ·exact hx
  ·exact hy)
 refine draw_any (fun d hd' k hk=>by rw [hd];exact List.mem_filterMap.2 ⟨d,hd',hk⟩) hcall hk hst ops.size _ _ _ _ _ _ _ _ _ _ (.inr ⟨A,B :: r,B,A :: r,rfl,rfl,rfl,eA,eB,fun d hd=>by
  rcases List.mem_cons.1 hd with rfl | hd
  ·exact .inl rfl
  ·exact .inr (hr d hd)⟩) h1 h2 h3 h4 (fun t ht=>?_) fun e a' w' hf=>?_
 ·have e1:=hst.len
  have e2:=hst2.len
  simp at h5 ht e1 e2
  rcases ht with rfl | rfl <;> (simp;omega)
 ·exact Fin.of_ext (Nat.le_refl _) ((Ext.refl _ G w).drew _) hf
theorem Rel.putLoop (hr:Rel P gl G h w) {i b:Nat} (hi:G.γ i = some b) {t0:List AVal} {ps0:List Nat} {asg0 body0:ACode} {st0:LSt} {pend0:Option Jump} (hx:h[i]? = some (.loop t0 ps0 asg0 body0 st0 pend0))
  {t:List AVal} {ps:List Nat} {asg body:ACode} {st:LSt} {pend:Option Jump} {L':Loop} (hL:LoopRel P gl G t ps asg body st pend L') :
  Rel P gl G (h.set i (.loop t ps asg body st pend)) (w.putObj b (.loop L')):=
 hr.putBox hi hx (by simp) (fun c e hce=>by obtain ⟨L,h1,_⟩:=hr.box i b _ hi hx;rw [h1] at hce;cases hce) ⟨L',World.putObj_heap_same (hr.γlt i b hi).2,hL⟩
theorem TRel.putLoop (hr:Rel P gl G h w) {ts:Array Value} (ht:TRel G w t ts) {i b:Nat} (hi:G.γ i = some b) (o:Obj):TRel G (w.putObj b o) t ts:=
 ⟨ht.rel,fun j xs k v hx hv=>(ht.own j xs k v hx hv).keep (fun _ h=>h) (fun y hy=>World.putObj_heap_other fun e=>(hr.ow y _ hy).2 i (by rw [hi,e])) (fun _ _ _ h=>h)⟩
theorem Ext.putLoop (n:Nat) {i b:Nat} (hi:G.γ i = some b) {L L':Loop} (hL:w.heap[b]? = some (.loop L)) (he:L'.fn = L.fn∧L'.tmps = L.tmps∧L'.params = L.params∧L'.assign = L.assign∧L'.body = L.body∧L'.defers = L.defers) :
  Ext n G w G (w.putObj b (.loop L')):=by
 refine ⟨fun _ _ h=>h,fun _ _ h=>.inl h,fun _ _ _ h=>h,fun _ _ _ h=>.inl h,fun _ h=>.inl h,by simp,fun b' _ hf=>World.putObj_heap_other (fun e=>hf.1 i (by rw [hi,e])),fun b' M hM=>?_,rfl,rfl,rfl⟩
 by_cases e:b' = b
 ·subst e
  rw [hL] at hM
  cases hM
  exact ⟨L',World.putObj_heap_same (Array.getElem?_eq_some_iff.1 hL).1,he⟩
 ·exact ⟨M,by rw [World.putObj_heap_other e];exact hM,rfl,rfl,rfl,rfl,rfl,rfl⟩
theorem Rel.putFar (hr:Rel P gl G h w) {r:Nat} {o:Obj} (hf:Foreign G r) (hc:∀k,w.cell? ⟨r,k,none⟩ = none):Rel P gl G h (w.putObj r o):=by
 refine ⟨fun j b' hj=>by simpa using hr.γlt j b' hj,hr.inj,fun j b' bx hj hx=>?_,fun b' k v hv hm=>?_,hr.immγ,fun b' k hv=>?_,fun b' ℓ hb'=>⟨by simpa using (hr.ow b' ℓ hb').1,(hr.ow b' ℓ hb').2⟩,hr.glob⟩
 ·have h0:=hr.box j b' bx hj hx
  obtain ⟨n,hn⟩:=ABox.lower_ex bx
  exact h0.keep hn (fun _ _ _ h=>h) (fun _ _ _ h=>h) (World.putObj_heap_other fun e'=>hf.1 j (by rw [hj,e'])) (fun _ _ h=>h)
   (fun b'' o hb''=>World.putObj_heap_other fun e'=>by rw [e',hf.2] at hb'';cases hb'') (fun _ _ _ _ h=>h)
 ·obtain ⟨h1,h2⟩:=hr.imm b' k v hv hm
  refine ⟨?_,by simpa using h2⟩
  rw [cell_congr (w:=w) (World.putObj_heap_other fun e'=>?_)]
  ·exact h1
  ·subst e'
   rw [hc] at h1
   cases h1
 ·obtain ⟨h0,c,e,h1,h2⟩:=hr.immK b' k hv
  refine ⟨h0,c,e,?_,h2⟩
  rw [World.putObj_heap_other fun e'=>?_]
  ·exact h1
  ·subst e'
   have:=hc 0
   simp only [World.cell?,h1] at this
   have h3:c[0]? = none:=this
   have:=Array.getElem?_eq_none_iff.1 h3
   omega
theorem TRel.putFar {ts:Array Value} (ht:TRel G w t ts) {r:Nat} {o:Obj} (hf:Foreign G r):TRel G (w.putObj r o) t ts:=
 ⟨ht.rel,fun j xs k v hx hv=>(ht.own j xs k v hx hv).keep (fun _ h=>h) (fun y hy=>World.putObj_heap_other fun e=>by rw [e,hf.2] at hy;cases hy) (fun _ _ _ h=>h)⟩
theorem Ext.putFar {w0:World} {G0:Ghost} (he:Ext n G0 w0 G w) {r:Nat} (hr:w0.heap.size ≤ r) (o:Obj):Ext n G0 w0 G (w.putObj r o):=by
 refine ⟨he.gk,he.gn,he.ik,he.inew,he.on,by simpa using he.size,fun b hb hf=>?_,fun b L hL=>?_,he.os,he.tape,he.output⟩
 ·rw [World.putObj_heap_other (by omega)]
  exact he.heap b hb hf
 ·obtain ⟨L',h1,h2⟩:=he.loops b L hL
  have hb:=(Array.getElem?_eq_some_iff.1 hL).1
  exact ⟨L',by rw [World.putObj_heap_other (by omega)];exact h1,h2⟩
structure Marks (G:Ghost) (w:World) (lo:Nat) (ds:List Deferred):Prop where
 nodup:ds.Nodup
 all:∀d ∈ ds,∃r,d = { target:=.collected r,args:=#[]}∧lo ≤ r∧w.heap[r]? = some (.deferred (some []))∧Foreign G r
theorem Foreign.ext {r:Nat} (hf:Foreign G r) (hr:r < w.heap.size) (he:Ext n G w G' w'):Foreign G' r:=by
 refine ⟨fun i hi=>?_,?_⟩
 ·rcases he.gn i r hi with h1 | ⟨_,h1 | ⟨j,h1⟩⟩
  ·exact hf.1 i h1
  ·omega
  ·exact hf.1 j h1
 ·cases ho:G'.ow r with
  | none=>rfl
  | some ℓ=>
   rcases he.on r (by simp [ho]) with h1 | h1
   ·exact absurd hf.2 h1
   ·omega
theorem Marks.ext {lo:Nat} {ds:List Deferred} (hm:Marks G w lo ds) (he:Ext n G w G' w'):Marks G' w' lo ds:=
 ⟨hm.nodup,fun d hd=>by
  obtain ⟨r,h1,h2,h3,h4⟩:=hm.all d hd
  have hr:=(Array.getElem?_eq_some_iff.1 h3).1
  exact ⟨r,h1,h2,by rw [he.heap r hr h4];exact h3,h4.ext hr he⟩⟩
def MarksF (G:Ghost) (w:World) (lo:Nat) (rf:Bool) (fx ds:List Deferred):Prop:=∃ms,ds = ms ++ fx∧Marks G w lo ms∧(rf = true→ms = [])
theorem MarksF.ext {lo:Nat} {rf:Bool} {fx ds:List Deferred} (hm:MarksF G w lo rf fx ds) (he:Ext n G w G' w'):MarksF G' w' lo rf fx ds:=
 let ⟨ms,h1,h2,h3⟩:=hm
 ⟨ms,h1,h2.ext he,h3⟩
def RoundIs (ro:Option Nat) (w:World):Prop:=∀l,ro = some l→∃L,w.heap[l]? = some (.loop L)
theorem RoundIs.ext {ro:Option Nat} (hr:RoundIs ro w) (he:Ext n G w G' w'):RoundIs ro w':=fun l hl=>by
 obtain ⟨L,h1⟩:=hr l hl
 obtain ⟨L',h2,_⟩:=he.loops l L h1
 exact ⟨L',h2⟩
def Fin2 (P:Program) (gl:Nat→Option (List AVal)) (n:Nat) (G:Ghost) (w:World) (lo:Nat) (rf:Bool) (fx:List Deferred) (x:Ex) (s':St) (e:Exit) (a':Act) (w':World):Prop:=
 ∃G',Ext n G w G' w'∧MarksF G' w' lo rf fx a'.defers∧match x with
  | .nor=>e = .normal∧Cfg P gl G' s'.h s'.t a' w'
  | .exit id=>e = .exit id∧Cfg P gl G' s'.h s'.t a' w'
  | .ret=>e = .ret∧Cfg P gl G' s'.h s'.t a' w'
  | .pan pv=>∃v,e = .panic [{ v,recovered:=false}]∧Cfg P gl G' s'.h s'.t a' w'∧G'.V pv v
theorem Fin.to2 {lo:Nat} {rf:Bool} {fx ds:List Deferred} {x:Ex} {s':St} {e:Exit} {a':Act} (hm:MarksF G w lo rf fx ds) (hf:Fin P gl n G w ds x s' e a' w'):Fin2 P gl n G w lo rf fx x s' e a' w':=by
 obtain ⟨G',h1,h2,h3⟩:=hf
 exact ⟨G',h1,by rw [h2];exact hm.ext h1,h3⟩
theorem Fin2.of_ext {m lo:Nat} {rf:Bool} {fx:List Deferred} {x:Ex} {s':St} {e:Exit} {a':Act} {w'':World} (hnm:n ≤ m) (he:Ext n G w G' w') (hf:Fin2 P gl m G' w' lo rf fx x s' e a' w''):Fin2 P gl n G w lo rf fx x s' e a' w'':=
 let ⟨G'',h1,h2⟩:=hf
 ⟨G'',he.trans hnm h1,h2⟩
end
end Go.AE
namespace Go.AE
section
variable {P:Program} {gl:Nat→Option (List AVal)}
theorem run_enterLoop_inner' {w:World} {l₀:Nat} {r₀:Loop} (h:w.heap[l₀]? = some (.loop r₀)) (fn:FuncId) (tmps:Array Value) (ps:Array Tmp) (assign body:Code) :
  (Instr.enterLoop fn tmps ps assign body (some l₀)).run P w =
   .ok (w.heap.size,[]) (w.alloc (.loop { state:=.ready,pending:=none,fn,tmps,params:=ps,assign,body,defers:=r₀.defers})):=by
 unfold Instr.enterLoop
 simp only [Sem.run_bind,run_getLoop h,run_newObj_alloc,Result.andThen,Sem.run_pure]
theorem enter_sound {ro:Option Nat} {G:Ghost} {w:World} {h:List ABox} {t:List AVal} {a:Act} (hc:Cfg P gl G h t a w) (hro:RoundIs ro w) {lo:Nat} (hlo:lo ≤ w.heap.size) {ms:List Deferred} (hm:Marks G w lo ms) (fn:FuncId) {ps:Array Tmp} {assign body:Code} {asg bd:ACode}
  (ha:comp P gl assign = some asg) (hb:comp P gl body = some bd) :
  ∃l mark w1 G1,(Instr.enterLoop fn a.tmps ps assign body ro).run P w = .ok (l,mark) w1∧Ext h.length G w G1 w1∧Rel P gl G1 (h ++ [.loop (t.map AVal.dim) ps.toList asg bd .ready none]) w1∧G1.γ h.length = some l∧G1.ow = G.ow∧w.heap.size ≤ l∧
   Marks G1 w1 lo (mark ++ ms)∧(∀d ∈ mark,∃r,d = { target:=.collected r,args:=#[]}∧w.heap.size ≤ r):=by
 have hi:G.γ h.length = none:=by
  cases hg:G.γ h.length with
  | none=>rfl
  | some b=>have:=(hc.rel.γlt _ b hg).1;omega
 have hnew:∀{w0:World} {L:Loop},Rel P gl G h w0→G.VL (t.map AVal.dim) L.tmps.toList→L.params = ps→L.assign = assign→L.body = body→L.state = .ready→L.pending = none→
   Rel P gl (G.withBox h.length w0.heap.size) (h ++ [.loop (t.map AVal.dim) ps.toList asg bd .ready none]) (w0.alloc (.loop L))∧Ext h.length G w0 (G.withBox h.length w0.heap.size) (w0.alloc (.loop L)):=by
  intro w0 L hr h1 h2 h3 h4 h5 h6
  have hext:Ext h.length G w0 (G.withBox h.length w0.heap.size) (w0.alloc (.loop L)):=Ext.newBox hi (Nat.le_refl _) _
  refine ⟨hr.newBox (o:=.loop L) (bx:=.loop (t.map AVal.dim) ps.toList asg bd .ready none) hi (by simp) (by simp) (fun j hj b hb=>by rw [List.getElem?_append_left (hr.γlt j b hb).1]) (by simp) ⟨L,alloc_heap_size w0 _,?_⟩,hext⟩
  exact ⟨hext.VL h1,fun x hx=>by obtain ⟨y,_,rfl⟩:=List.mem_map.1 hx;exact dim_dim y,by rw [h2],by rw [h3];exact ha,by rw [h4];exact hb,by rw [h5];trivial,by rw [h6];trivial⟩
 cases ro with
 | none=>
  have hr1:=hc.rel.alloc (.deferred (some []))
  obtain ⟨h1,h2⟩:=hnew (w0:=w.alloc (.deferred (some []))) (L:={ state:=.ready,pending:=none,fn,tmps:=a.tmps,params:=ps,assign,body,defers:=w.heap.size}) hr1 hc.tr.rel.dims rfl rfl rfl rfl rfl
  have hE:Ext h.length G w (G.withBox h.length (w.alloc (.deferred (some []))).heap.size) ((w.alloc (.deferred (some []))).alloc (.loop { state:=.ready,pending:=none,fn,tmps:=a.tmps,params:=ps,assign,body,defers:=w.heap.size})):=
   (Ext.alloc h.length G w (.deferred (some []))).trans (Nat.le_refl _) h2
  have hfor:Foreign G w.heap.size:=⟨fun i hi=>by have:=(hc.rel.γlt i _ hi).2;omega,by
   cases ho:G.ow w.heap.size with
   | none=>rfl
   | some ℓ=>have:=(hc.rel.ow _ _ ho).1;omega⟩
  refine ⟨_,_,_,_,run_enterLoop_outer fn a.tmps ps assign body,hE,h1,by simp [Ghost.withBox],rfl,by omega,⟨?_,fun d hd=>?_⟩,fun d hd=>⟨w.heap.size,by simpa using hd,Nat.le_refl _⟩⟩
  ·rw [List.singleton_append,List.nodup_cons]
   refine ⟨fun hmem=>?_,hm.nodup⟩
   obtain ⟨r,h3,_,h5,_⟩:=hm.all _ hmem
   have hlt:=(Array.getElem?_eq_some_iff.1 h5).1
   injection h3 with h3
   injection h3 with h3
   omega
  ·rw [List.singleton_append] at hd
   rcases List.mem_cons.1 hd with rfl | hd
   ·refine ⟨w.heap.size,rfl,hlo,?_,?_⟩
    ·rw [alloc_heap_lt _ _ (by simp)]
     exact alloc_heap_size w _
    ·exact hfor.ext (w:=w.alloc (.deferred (some []))) (by simp) h2
   ·exact (hm.ext hE).all d hd
 | some l₀=>
  obtain ⟨L0,hL0⟩:=hro l₀ rfl
  obtain ⟨h1,h2⟩:=hnew (w0:=w) (L:={ state:=.ready,pending:=none,fn,tmps:=a.tmps,params:=ps,assign,body,defers:=L0.defers}) hc.rel hc.tr.rel.dims rfl rfl rfl rfl rfl
  refine ⟨_,_,_,_,run_enterLoop_inner' hL0 fn a.tmps ps assign body,h2,h1,by simp [Ghost.withBox],rfl,Nat.le_refl _,?_,fun _ h=>by cases h⟩
  rw [List.nil_append]
  exact hm.ext h2
theorem st_busy {st:LSt} {S:LoopState} (h:stRel st S) (hb:st ≠ .busy):S ≠ .busy:=by
 cases st <;> cases S <;> simp_all [stRel]
theorem exec_sound (hmx:P.follows .mixedOrders = true) {call:AE.Call} (hcall:CallOK P gl call) (hk:CallKeeps call) {N base lo:Nat} {rf:Bool} {fx:List Deferred} {ro:Option Nat} {m:Nat} :
  ∀(c:Code) (ac:ACode),comp P gl c = some ac→(rf = true→ac.noRf = true)→∀(G:Ghost) (w:World) (s:St) (a:Act) (x:Ex) (s':St),Cfg P gl G s.h s.t a w→base ≤ s.h.length→RoundIs ro w→MarksF G w lo rf fx a.defers→lo ≤ w.heap.size→
   exec N base call ac s = some (x,s')→c.wpIn (FR ro) m P (Fin2 P gl s.h.length G w lo rf fx x s') a w:=by
 intro c
 induction c with
 | skip=>
  intro ac hcomp hrf G w s a x s' hc hb hro hm hlo hrun
  simp only [comp] at hcomp
  cases hcomp
  simp only [exec] at hrun
  cases hrun
  exact wpIn_skip ⟨G,Ext.refl _ G w,hm,rfl,hc⟩
 | region id ops draw=>
  intro ac hcomp hrf G w s a x s' hc hb hro hm hlo hrun
  cases draw with
  | false=>
   simp only [comp] at hcomp
   obtain ⟨os,hos,rfl⟩:=mapO hcomp
   simp only [exec] at hrun
   have hl:=lays_of_mapM ops.toList 0 os (by simp) hos
   rw [Array.length_toList,←List.range_eq_range'] at hl
   exact wpIn_region (ops_sound hcall hk _ os hl G w s.h s.t s.e a [] hc ProvOK.nil hb hrun _ fun e a' w' hf=>hf.to2 hm)
  | true=>
   simp only [comp] at hcomp
   split at hcomp
   ·rename_i ds hds
    cases hcomp
    simp only [exec] at hrun
    exact wpIn_mono (draw_sound hmx hcall hk hds hc hb hrun) fun e a' w' hf=>hf.to2 hm
   ·obtain ⟨p,hp,rfl⟩:=mapO hcomp
    simp only [exec] at hrun
    exact wpIn_mono (draw2_sound hmx hcall hk hp hc hb rfl hrun) fun e a' w' hf=>hf.to2 hm
 | seq c1 c2 ih1 ih2=>
  intro ac hcomp hrf G w s a x s' hc hb hro hm hlo hrun
  simp only [comp] at hcomp
  split at hcomp
  ·rename_i b1 b2 e1 e2
   cases hcomp
   simp only [exec] at hrun
   split at hrun
   ·rename_i s1 h1
    have hkeep:=(exec_keeps (base:=base) hk N b1 s s1 _ hb h1).1
    refine wpIn_seq (wpIn_mono (ih1 b1 e1 (fun h=>by have:=hrf h;simp only [ACode.noRf,Bool.and_eq_true] at this;exact this.1) G w s a _ s1 hc hb hro hm hlo h1) fun e a' w' hf=>?_)
    obtain ⟨G',g1,g2,rfl,g4⟩:=hf
    exact wpIn_mono (ih2 b2 e2 (fun h=>by have:=hrf h;simp only [ACode.noRf,Bool.and_eq_true] at this;exact this.2) G' w' s1 a' x s' g4 (Nat.le_trans hb hkeep) (hro.ext g1) g2 (Nat.le_trans hlo g1.size) hrun) fun e a'' w'' hf=>hf.of_ext hkeep g1
   ·rename_i r h1
    refine wpIn_seq (wpIn_mono (ih1 b1 e1 (fun h=>by have:=hrf h;simp only [ACode.noRf,Bool.and_eq_true] at this;exact this.1) G w s a x s' hc hb hro hm hlo hrun) fun e a' w' hf=>?_)
    obtain ⟨G',g1,g2,g3⟩:=hf
    cases x with
    | nor=>exact absurd hrun (h1 s')
    | exit id=>obtain ⟨rfl,g3⟩:=g3;exact ⟨G',g1,g2,rfl,g3⟩
    | ret=>obtain ⟨rfl,g3⟩:=g3;exact ⟨G',g1,g2,rfl,g3⟩
    | pan v=>obtain ⟨u,rfl,g3⟩:=g3;exact ⟨G',g1,g2,u,rfl,g3⟩
  ·cases hcomp
 | cond o c1 c2 ih1 ih2=>
  intro ac hcomp hrf G w s a x s' hc hb hro hm hlo hrun
  simp only [comp] at hcomp
  split at hcomp
  ·rename_i z b1 b2 ez e1 e2
   cases hcomp
   have hv:=ev_rel hc.rel hc.tr ez
   simp only [exec] at hrun
   split at hrun
   ·rename_i hz
    rw [hz] at hv
    simp only [Ghost.V,VRel] at hv
    exact wpIn_cond_true hv (ih1 b1 e1 (fun h=>by have:=hrf h;simp only [ACode.noRf,Bool.and_eq_true] at this;exact this.1) G w s a x s' hc hb hro hm hlo hrun)
   ·rename_i hz
    rw [hz] at hv
    simp only [Ghost.V,VRel] at hv
    exact wpIn_cond_false hv (ih2 b2 e2 (fun h=>by have:=hrf h;simp only [ACode.noRf,Bool.and_eq_true] at this;exact this.2) G w s a x s' hc hb hro hm hlo hrun)
   ·cases hrun
  ·cases hcomp
 | block id c ih=>
  intro ac hcomp hrf G w s a x s' hc hb hro hm hlo hrun
  simp only [comp] at hcomp
  obtain ⟨b,hb1,rfl⟩:=mapO hcomp
  simp only [exec] at hrun
  refine wpIn_block ?_
  split at hrun
  ·rename_i j s1 h1
   refine wpIn_mono (ih b hb1 (fun h=>hrf h) G w s a _ s1 hc hb hro hm hlo h1) fun e a' w' hf=>?_
   obtain ⟨G',g1,g2,rfl,g4⟩:=hf
   simp only [Exit.inBlock]
   split at hrun
   ·rename_i hj
    cases hrun
    rw [if_pos hj]
    exact ⟨G',g1,g2,rfl,g4⟩
   ·rename_i hj
    cases hrun
    rw [if_neg hj]
    exact ⟨G',g1,g2,rfl,g4⟩
  ·rename_i r h1
   refine wpIn_mono (ih b hb1 (fun h=>hrf h) G w s a x s' hc hb hro hm hlo hrun) fun e a' w' hf=>?_
   obtain ⟨G',g1,g2,g3⟩:=hf
   cases x with
   | nor=>obtain ⟨rfl,g3⟩:=g3;exact ⟨G',g1,g2,rfl,g3⟩
   | exit id=>exact absurd hrun (h1 id s')
   | ret=>obtain ⟨rfl,g3⟩:=g3;exact ⟨G',g1,g2,rfl,g3⟩
   | pan v=>obtain ⟨u,rfl,g3⟩:=g3;exact ⟨G',g1,g2,u,rfl,g3⟩
 | loop c ih=>
  intro ac hcomp hrf G w s a x s' hc hb hro hm hlo hrun
  simp only [comp] at hcomp
  obtain ⟨b,hb1,rfl⟩:=mapO hcomp
  simp only [exec] at hrun
  refine wpIn_loop_rounds N ?_
  have key:∀(k:Nat) (G:Ghost) (w:World) (s:St) (a:Act),Cfg P gl G s.h s.t a w→base ≤ s.h.length→RoundIs ro w→MarksF G w lo rf fx a.defers→lo ≤ w.heap.size→iter (exec N base call b) k s = some (x,s')→
    Code.roundsIn (FR ro) m P c (Fin2 P gl s.h.length G w lo rf fx x s') k a w:=by
   intro k
   induction k with
   | zero=>intro G w s a _ _ _ _ _ hit;simp [iter] at hit
   | succ k ihk=>
    intro G w s a hc hb hro hm hlo hit
    rw [roundsIn_succ]
    simp only [iter] at hit
    split at hit
    ·rename_i s1 h1
     have hkeep:=(exec_keeps (base:=base) hk N b s s1 _ hb h1).1
     refine wpIn_mono (ih b hb1 (fun h=>hrf h) G w s a _ s1 hc hb hro hm hlo h1) fun e a' w' hf=>?_
     obtain ⟨G',g1,g2,rfl,g4⟩:=hf
     have:=ihk G' w' s1 a' g4 (Nat.le_trans hb hkeep) (hro.ext g1) g2 (Nat.le_trans hlo g1.size) hit
     have mono:∀(k:Nat) (Q Q':Exit→Act→World→Prop),(∀e a w,Q e a w→Q' e a w)→∀a w,Code.roundsIn (FR ro) m P c Q k a w→Code.roundsIn (FR ro) m P c Q' k a w:=by
      intro k Q Q' hq
      induction k with
      | zero=>exact fun a w h=>h
      | succ k ihk=>exact fun a w h=>wpIn_mono h fun e a w he=>by cases e <;> first | exact ihk a w he | exact hq _ _ _ he
     exact mono k _ _ (fun e a'' w'' hf=>hf.of_ext hkeep g1) _ _ this
    ·rename_i r h1
     refine wpIn_mono (ih b hb1 (fun h=>hrf h) G w s a x s' hc hb hro hm hlo hit) fun e a' w' hf=>?_
     obtain ⟨G',g1,g2,g3⟩:=hf
     cases x with
     | nor=>exact absurd hit (h1 s')
     | exit id=>obtain ⟨rfl,g3⟩:=g3;exact ⟨G',g1,g2,rfl,g3⟩
     | ret=>obtain ⟨rfl,g3⟩:=g3;exact ⟨G',g1,g2,rfl,g3⟩
     | pan v=>obtain ⟨u,rfl,g3⟩:=g3;exact ⟨G',g1,g2,u,rfl,g3⟩
  exact key N G w s a hc hb hro hm hlo hrun
 | rangeFunc g ps assign body iha ihb=>
  intro ac hcomp hrf G w s a x s' hc hb hro hm hlo hrun
  simp only [comp] at hcomp
  split at hcomp
  ·rename_i z asg bd ez ea eb
   cases hcomp
   simp only [exec] at hrun
   split at hrun
   ·rename_i g0 first cap hz
    obtain ⟨ms,hds,hm,hms0⟩:=hm
    have hrf:rf = false:=by
     cases rf with
     | false=>rfl
     | true=>have:=hrf rfl;simp [ACode.noRf] at this
    refine wpIn_rangeFunc fun fn _=>?_
    obtain ⟨hr0,hn0⟩:=hc.rel.cellsOnly
    have hc0:Cfg P gl G s.h s.t a w:=hc
    have hcO:Cfg P gl G.cellsOnly s.h (s.t.map AVal.dim) a w:=⟨hr0,⟨hc.tr.rel.dims,fun i xs k v hx _=>(no_own hx).elim⟩⟩
    have hmO:Marks G.cellsOnly w lo ms:=⟨hm.nodup,fun d hd=>by
     obtain ⟨r,h1,h2,h3,h4⟩:=hm.all d hd
     exact ⟨r,h1,h2,h3,h4.1,by simp [Ghost.cellsOnly,h4.2]⟩⟩
    obtain ⟨l,mark,w1,G1,e1,e2,e3,e4,e5,e6,e7,e8⟩:=enter_sound hcO hro hlo hmO fn (ps:=ps) ea eb
    have hmm:(s.t.map AVal.dim).map AVal.dim = s.t.map AVal.dim:=by rw [List.map_map];exact List.map_congr_left fun y _=>dim_dim y
    rw [hmm] at e3
    have hn1:NoTmp G1:=fun b i=>by rw [e5];exact hn0 b i
    have hfv:G1.V (.fn g0 first cap) (a.eval g):=by
     have:=ev_rel hc.rel hc.tr ez
     rw [hz] at this
     exact e2.V this
    have hav:G1.VL [.yld s.h.length] (#[.func (.yield l) #[] #[]]:Array Value).toList:=by
     simp only [Ghost.VL,VRelL,VRel]
     exact ⟨_,_,rfl,⟨l,e4,rfl⟩,rfl⟩
    have hlen1:(s.h ++ [ABox.loop (s.t.map AVal.dim) ps.toList asg bd .ready none]).length = s.h.length + 1:=by simp
    have after:∀{G2:Ghost} {w3:World} {h3:List ABox} {n2:Nat},Ext s.h.length G.cellsOnly w G2 w3→Ext n2 G1 w1 G2 w3→Rel P gl G2 h3 w3→
      Ext s.h.length G w (G2.with G) w3∧Rel P gl (G2.with G) h3 w3∧TRel (G2.with G) w3 s.t a.tmps∧MarksF (G2.with G) w3 lo rf fx (mark ++ a.defers):=by
     intro G2 w3 h3 n2 x1 x2 x3
     obtain ⟨b1,b2,b3⟩:=call_back hc0 x1 x3
     refine ⟨b1,b2,b3,mark ++ ms,by rw [hds,List.append_assoc],?_,fun h=>by rw [hrf] at h;cases h⟩
     have h5:=e7.ext x2
     refine ⟨h5.nodup,fun d hd=>?_⟩
     obtain ⟨r,g1,g2,g3,g4⟩:=h5.all d hd
     refine ⟨r,g1,g2,g3,g4.1,?_⟩
     cases hgo:G.ow r with
     | none=>simp [Ghost.with,hgo,g4.2]
     | some ℓ=>
      cases ℓ with
      | cell i o=>simp [Ghost.with,hgo,g4.2]
      | tmp i=>
       exfalso
       have hsz:=(hc.rel.ow r _ hgo).1
       rcases List.mem_append.1 hd with hd | hd
       ·obtain ⟨r',q1,q2⟩:=e8 d hd
        rw [g1] at q1
        injection q1 with q1
        injection q1 with q1
        omega
       ·obtain ⟨r',q1,q2,q3,q4⟩:=hm.all d hd
        rw [g1] at q1
        injection q1 with q1
        injection q1 with q1
        rw [q1,q4.2] at hgo
        cases hgo
    have back:∀{r:CRes} {h':List ABox} {e':Bool},call (.fn g0 first cap) [.yld s.h.length] (s.h ++ [.loop (s.t.map AVal.dim) ps.toList asg bd .ready none]) = some (r,h',e')→
      (∀w3 v,Back P gl (s.h.length + 1) G1 w1 r h' (.returned v) w3→rangePost (FR ro) m P l (Fin2 P gl s.h.length G w lo rf fx x s') { a with defers:=mark ++ a.defers} (.returned v) w3)→
      (∀w3 ch,Back P gl (s.h.length + 1) G1 w1 r h' (.panicked ch) w3→rangePost (FR ro) m P l (Fin2 P gl s.h.length G w lo rf fx x s') { a with defers:=mark ++ a.defers} (.panicked ch) w3)→
      ∃(l:Nat) (mark:List Deferred) (w₁:World) (d:Deferred) (w₁':World) (f:FuncId) (args:Array Value) (w₂:World),
       (Instr.enterLoop fn a.tmps ps assign body (FR ro).round).run P w = .ok (l,mark) w₁∧
       (resolve a.eval (rangeCall g l) 0).run P w₁ = .ok d w₁'∧
       (∀f',Target.leads P w₁' d.target d.args = some f'→(FR ro).fn f')∧
       (invoke d.target d.args).run P w₁' = .ok (.enter f args) w₂∧
       ((FR ro).depth.isSome = true→1 ≤ m)∧
       CallsIn (FR ro) (m - 1) P f args w₂ (rangePost (FR ro) m P l (Fin2 P gl s.h.length G w lo rf fx x s') { a with defers:=mark ++ a.defers}):=by
     intro r h' e' hcl hret hpan
     rcases hcall _ _ _ _ _ _ hcl G1 w1 (a.eval g) #[.func (.yield l) #[] #[]] e3 hn1 hfv hav with ⟨f,aS,h1,h2⟩ | ⟨i,b,f,tmps,asg',body',hyl,_⟩ | ⟨v,w',hna,_⟩
     ·have hfv':=hfv
      simp only [Ghost.V,VRel] at hfv'
      obtain ⟨xs,ys,hfe,_,_⟩:=hfv'
      have hres:(Deferred.ofValue (a.eval g) #[.func (.yield l) #[] #[]]).run P w1 = .ok { target:=.fn (.func g0) ys,args:=xs ++ #[.func (.yield l) #[] #[]]} w1:=by rw [hfe];rfl
      have hinv:(invoke (.fn (.func g0) ys) (xs ++ #[.func (.yield l) #[] #[]])).run P w1 = .ok (.enter f aS) w1:=by
       have:=h1
       simp only [callS,Sem.run_bind,hres,Result.andThen] at this
       exact this
      refine ⟨l,mark,w1,{ target:=.fn (.func g0) ys,args:=xs ++ #[.func (.yield l) #[] #[]]},w1,f,aS,w1,e1,?_,fun _ _=>trivial,hinv,FR_depth,?_⟩
      ·simp only [resolve,List.map_toArray,List.map_cons,List.map_nil]
       exact hres
      ·refine CallsIn.mono (h2 ro (m - 1)) fun e w3 hb3=>?_
       rw [hlen1] at hb3
       cases e with
       | returned v=>exact hret w3 v hb3
       | panicked ch=>exact hpan w3 ch hb3
       | outgrown=>exact hb3.elim
     ·cases hyl
     ·exact absurd rfl (hna s.h.length)
    split at hrun
    ·rename_i rv h' e' hcl
     refine back hcl (fun w3 v hb3=>?_) (fun w3 ch hb3=>?_)
     ·obtain ⟨rv',G2,hrv,k1,k2,k3,k4⟩:=hb3
      have hγ2:=k1.gk _ _ e4
      split at hrun
      ·rename_i t2 ps2 asg2 bd2 st2 pend2 hbx
       split at hrun
       ·cases hrun
       ·rename_i hnb
        obtain ⟨L2,hL2,hLR⟩:=k2.box _ _ _ hγ2 hbx
        have hpend:=hLR.pend
        have hend:=run_endLoop (P:=P) hL2 (st_busy hLR.st hnb)
        have hLR':LoopRel P gl G2 t2 ps2 asg2 bd2 .exhausted pend2 { L2 with state:=.exhausted}:={ hLR with st:=trivial}
        have hrel4:=k2.putLoop hγ2 hbx hLR'
        have hext4:Ext s.h.length G.cellsOnly w G2 (w3.putObj l (.loop { L2 with state:=.exhausted})):=
         (e2.trans (Nat.le_succ _) k1).trans (Nat.le_refl _) (Ext.putLoop _ hγ2 hL2 ⟨rfl,rfl,rfl,rfl,rfl,rfl⟩)
        obtain ⟨b1,b2,b3,hm4⟩:=after hext4 (k1.trans (Nat.le_refl _) (Ext.putLoop _ hγ2 hL2 ⟨rfl,rfl,rfl,rfl,rfl,rfl⟩)) hrel4
        have hcfg4:Cfg P gl (G2.with G) (h'.set s.h.length (.loop t2 ps2 asg2 bd2 .exhausted pend2)) s.t { a with defers:=mark ++ a.defers} (w3.putObj l (.loop { L2 with state:=.exhausted})):=⟨b2,b3⟩
        suffices hs:∀j,j = L2.pending→(match j with
          | none=>Fin2 P gl s.h.length G w lo rf fx x s' .normal { a with defers:=mark ++ a.defers} (w3.putObj l (.loop { L2 with state:=.exhausted}))
          | some c=>c.wpIn (FR ro) m P (Fin2 P gl s.h.length G w lo rf fx x s') { a with defers:=mark ++ a.defers} (w3.putObj l (.loop { L2 with state:=.exhausted}))) from ⟨_,_,hend,hs _ rfl⟩
        intro j hj
        cases hp:pend2 with
        | none=>
         rw [hp] at hrun hpend
         simp only at hrun
         cases hrun
         have:L2.pending = none:=by cases hq:L2.pending <;> rw [hq] at hpend <;> first | rfl | exact hpend.elim
         cases hj.trans this
         exact ⟨_,b1,hm4,rfl,by rw [←hp];exact hcfg4⟩
        | some j2=>
         rw [hp] at hrun hpend
         cases j2 with
         | ret=>
          simp only at hrun
          cases hrun
          have:L2.pending = some .ret:=by
           cases hq:L2.pending with
           | none=>rw [hq] at hpend;exact hpend.elim
           | some c=>rw [hq] at hpend;cases c <;> first | rfl | exact hpend.elim
          cases hj.trans this
          exact wpIn_ret ⟨_,b1,hm4,rfl,by rw [←hp];exact hcfg4⟩
         | exit id=>
          simp only at hrun
          cases hrun
          have:L2.pending = some (.exit id):=by
           cases hq:L2.pending with
           | none=>rw [hq] at hpend;exact hpend.elim
           | some c=>
            rw [hq] at hpend
            cases c <;> first | (simp only [pendRel] at hpend;rw [hpend];done) | exact hpend.elim
          cases hj.trans this
          exact wpIn_exit ⟨_,b1,hm4,rfl,by rw [←hp];exact hcfg4⟩
      ·cases hrun
     ·obtain ⟨pv,v,G2,hpv,_⟩:=hb3
      cases hpv
    ·rename_i pv h' e' hcl
     cases hrun
     refine back hcl (fun w3 v hb3=>?_) (fun w3 ch hb3=>?_)
     ·obtain ⟨rv',G2,hrv,_⟩:=hb3
      cases hrv
     ·obtain ⟨pv',v,G2,hpv,rfl,k1,k2,k3,k4⟩:=hb3
      cases hpv
      obtain ⟨b1,b2,b3,hm4⟩:=after (e2.trans (Nat.le_succ _) k1) k1 k2
      exact ⟨_,b1,hm4,v,rfl,⟨b2,b3⟩,k4⟩
    ·cases hrun
   ·cases hrun
  ·cases hcomp
 | exit id=>
  intro ac hcomp hrf G w s a x s' hc hb hro hm hlo hrun
  simp only [comp] at hcomp
  cases hcomp
  simp only [exec] at hrun
  cases hrun
  exact wpIn_exit ⟨G,Ext.refl _ G w,hm,rfl,hc⟩
 | scope c ih=>intro ac hcomp;simp [comp] at hcomp
 | label l=>intro ac hcomp;simp [comp] at hcomp
 | goto l=>intro ac hcomp;simp [comp] at hcomp
 | ret=>
  intro ac hcomp hrf G w s a x s' hc hb hro hm hlo hrun
  simp only [comp] at hcomp
  cases hcomp
  simp only [exec] at hrun
  cases hrun
  exact wpIn_ret ⟨G,Ext.refl _ G w,hm,rfl,hc⟩
 | refuse why=>intro ac hcomp;simp [comp] at hcomp
end
end Go.AE
namespace Go.AE
section
variable {P:Program} {gl:Nat→Option (List AVal)} {G G' G0:Ghost} {w w' w0:World} {h:List ABox} {t:List AVal} {ts:Array Value} {n:Nat}
mutual
theorem V_lower {γ:Nat→Option Nat} {imm:Nat→Nat→Option Value} {n:Nat} (hγ:∀i b,γ i = some b→i < n):∀(a:AVal) (v:Value),VRel γ imm a v→a.lower n = true
 | .undef,_,_=>rfl
 | .bool _,_,_=>rfl
 | .int _ _,_,_=>rfl
 | .str _,_,_=>rfl
 | .nilptr,_,_=>rfl
 | .ptr i o,v,h=>by simp only [VRel] at h;obtain ⟨b,hb,_⟩:=h;simpa [AVal.lower] using hγ i b hb
 | .iptr cs o,v,h=>by simp only [VRel] at h;obtain ⟨b,p,_,hc⟩:=h;simp only [AVal.lower];exact IC_lower hγ cs b p hc
 | .lst xs f,v,h=>by
  simp only [VRel] at h
  obtain ⟨a,len,cap,_,_,_,_,_,_,h5⟩:=h
  simp only [AVal.lower]
  rcases h5 with rfl | ⟨b,p,_,he⟩
  ·rfl
  ·exact IE_lower hγ xs b p he
 | .nilfunc,_,_=>rfl
 | .fn f aS bs,v,h=>by
  simp only [VRel] at h
  obtain ⟨x,y,_,h1,h2⟩:=h
  simp only [AVal.lower,Bool.and_eq_true]
  exact ⟨VL_lower hγ aS _ h1,VL_lower hγ bs _ h2⟩
 | .yld i,v,h=>by simp only [VRel] at h;obtain ⟨b,hb,_⟩:=h;simpa [AVal.lower] using hγ i b hb
 | .niliface,_,_=>rfl
 | .iface t a,v,h=>by simp only [VRel] at h;obtain ⟨x,_,h1⟩:=h;simp only [AVal.lower];exact V_lower hγ a x h1
 | .agg cs,v,h=>by simp only [VRel] at h;obtain ⟨x,_,h1⟩:=h;simp only [AVal.lower];exact VL_lower hγ cs _ h1
 | .tup cs,v,h=>by simp only [VRel] at h;obtain ⟨x,_,h1⟩:=h;simp only [AVal.lower];exact VL_lower hγ cs _ h1
 | .sl i _ _ _ _,v,h=>by simp only [VRel] at h;obtain ⟨b,c,hb,_⟩:=h;simpa [AVal.lower] using hγ i b hb
 | .mp i,v,h=>by simp only [VRel] at h;obtain ⟨b,hb,_⟩:=h;simpa [AVal.lower] using hγ i b hb
 | .nilmap,_,_=>rfl
 | .nils,_,_=>rfl
 | .empt,_,_=>rfl
theorem VL_lower {γ:Nat→Option Nat} {imm:Nat→Nat→Option Value} {n:Nat} (hγ:∀i b,γ i = some b→i < n):∀(aS:List AVal) (vs:List Value),VRelL γ imm aS vs→lowerL n aS = true
 | [],_,_=>rfl
 | a :: aS,vs,h=>by
  simp only [VRelL] at h
  obtain ⟨v,rest,_,h1,h2⟩:=h
  simp only [lowerL,Bool.and_eq_true]
  exact ⟨V_lower hγ a v h1,VL_lower hγ aS rest h2⟩
theorem IC_lower {γ:Nat→Option Nat} {imm:Nat→Nat→Option Value} {n:Nat} (hγ:∀i b,γ i = some b→i < n):∀(cs:List AVal) (b p:Nat),ICells γ imm cs b p→lowerL n cs = true
 | [],_,_,_=>rfl
 | c :: cs,b,p,h=>by
  simp only [ICells] at h
  obtain ⟨⟨v,_,h1⟩,h2⟩:=h
  simp only [lowerL,Bool.and_eq_true]
  exact ⟨V_lower hγ c v h1,IC_lower hγ cs b (p + 1) h2⟩
theorem IE_lower {γ:Nat→Option Nat} {imm:Nat→Nat→Option Value} {n:Nat} (hγ:∀i b,γ i = some b→i < n):∀(xs:List AVal) (b p:Nat),IElems γ imm xs b p→lowerL n xs = true
 | [],_,_,_=>rfl
 | x :: xs,b,p,h=>by
  obtain ⟨h1,h2⟩:=h.uncons
  simp only [lowerL,Bool.and_eq_true]
  refine ⟨?_,IE_lower hγ xs b _ h2⟩
  cases x with
  | agg cs=>simp only [AVal.cells] at h1;simp only [AVal.lower];exact IC_lower hγ cs b p h1
  | _=>
   simp only [AVal.cells,ICells] at h1
   obtain ⟨⟨v,_,h3⟩,_⟩:=h1
   exact V_lower hγ _ v h3
end
theorem M_lower {n:Nat} (hγ:∀i b,G.γ i = some b→i < n):∀(es:List (Nat×AVal×AVal)) (me:List MapEntry),MapRel G es me→lowerM n es = true
 | [],_,_=>rfl
 | x :: xs,me,h=>by
  simp only [MapRel] at h
  obtain ⟨e,rest,_,_,h2,h3,h4⟩:=h
  simp only [lowerM,Bool.and_eq_true]
  exact ⟨⟨V_lower hγ _ _ h2,V_lower hγ _ _ h3⟩,M_lower hγ xs rest h4⟩
theorem box_lower (hr:Rel P gl G h w) {i b:Nat} {bx:ABox} (hi:G.γ i = some b) (hx:h[i]? = some bx):bx.lower h.length = true:=by
 have hγ:∀i b,G.γ i = some b→i < h.length:=fun i b hb=>(hr.γlt i b hb).1
 have h0:=hr.box i b bx hi hx
 cases bx with
 | cells cs=>obtain ⟨c,e,_,h1,_⟩:=h0;exact VL_lower hγ cs _ h1
 | loop t ps asg body st pend=>obtain ⟨L,_,h1⟩:=h0;exact VL_lower hγ t _ h1.tmps
 | map es _=>obtain ⟨me,_,h1⟩:=h0;exact M_lower hγ es _ h1
 | iter m _ _ _=>obtain ⟨mm,_,h1⟩:=h0;exact V_lower hγ m _ h1
 | bld _ _ _=>rfl
 | dead=>rfl
def Ghost.below (G:Ghost) (n:Nat):Ghost:={ G with γ:=fun i=>if i < n then G.γ i else none}
theorem below_γ {n i b:Nat} (h:(G.below n).γ i = some b):i < n∧G.γ i = some b:=by
 simp only [Ghost.below] at h
 split at h
 ·exact ⟨‹_›,h⟩
 ·cases h
theorem below_V {n:Nat} {a:AVal} {v:Value} (hl:a.lower n = true) (hv:G.V a v):(G.below n).V a v:=
 VRel.mono (fun _ _ _ h=>h) n (fun i b hi hb=>by simp [Ghost.below,hi,hb]) a v hl hv
theorem left (hr0:Rel P gl G0 h w0) {h':List ABox} (he:Ext h.length G0 w0 G w) (hr:Rel P gl G h' w) (hk1:h.length ≤ h'.length) (hlow:∀i b bx,G0.γ i = some b→h'[i]? = some bx→bx.lower h.length = true):Ext h.length G0 w0 (G.below h.length) w∧Rel P gl (G.below h.length) (h'.take h.length) w:=by
 have hlen:(h'.take h.length).length = h.length:=by simp [hk1]
 refine ⟨⟨fun i b hi=>?_,fun i b hi=>?_,he.ik,he.inew,he.on,he.size,he.heap,he.loops,he.os,he.tape,he.output⟩,⟨fun i b hi=>?_,fun i j b hi hj=>?_,fun i b bx hi hx=>?_,hr.imm,fun b o v i hv hm hi=>?_,hr.immK,fun b ℓ hb=>⟨(hr.ow b ℓ hb).1,fun i hi=>?_⟩,fun g cs hg=>?_⟩⟩
 ·simp [Ghost.below,(hr0.γlt i b hi).1,he.gk i b hi]
 ·obtain ⟨h1,h2⟩:=below_γ hi
  rcases he.gn i b h2 with h3 | ⟨h3,_⟩
  ·exact .inl h3
  ·omega
 ·obtain ⟨h1,h2⟩:=below_γ hi
  exact ⟨by rw [hlen];exact h1,(hr.γlt i b h2).2⟩
 ·rw [List.getElem?_take_of_lt (below_γ hi).1,List.getElem?_take_of_lt (below_γ hj).1]
  exact hr.inj i j b (below_γ hi).2 (below_γ hj).2
 ·obtain ⟨h1,h2⟩:=below_γ hi
  rw [List.getElem?_take_of_lt h1] at hx
  have hi0:G0.γ i = some b:=by
   rcases he.gn i b h2 with h3 | ⟨h3,_⟩
   ·exact h3
   ·omega
  exact (hr.box i b bx h2 hx).keep (hlow i b bx hi0 hx) (fun _ _ _ h=>h) (fun j c hj hc=>by simp [Ghost.below,hj,hc]) rfl (fun _ _ h=>h) (fun _ _ _=>rfl) (fun _ _ _ _ h=>h)
 ·obtain ⟨h1,h2⟩:=below_γ hi
  rw [List.getElem?_take_of_lt h1]
  exact hr.immγ b o v i hv hm h2
 ·exact (hr.ow b ℓ hb).2 i (below_γ hi).2
 ·obtain ⟨h1,h2⟩:=hr.glob g cs hg
  exact ⟨GCells.mono (fun _ _ _ h=>h) cs g h2 h1,h2⟩
theorem nilTmp (hn:NoTmp G) (k:Nat):NoTmp (G.below k):=hn
theorem leave_back (hr0:Rel P gl G0 h w0) {s:St} (he:Ext h.length G0 w0 G w) (hr:Rel P gl G s.h w) (hk:h.length ≤ s.h.length∧(s.e = false→Keeps h.length h s.h)) {r0 r:CRes} {h':List ABox} {e':Bool}
  (hl:leave h.length r0 s.h s.e = (r,h',e')):r = r0∧∃G',Ext h.length G0 w0 G' w∧Rel P gl G' h' w∧NoTmp G'∧(∀a v,(r0 = .ret a∨r0 = .pan a)→G.V a v→G'.V a v):=by
 obtain ⟨hc1,hc2⟩:=hr.cellsOnly
 have hec:Ext h.length G0 w0 G.cellsOnly w:=⟨he.gk,he.gn,he.ik,he.inew,fun b hb=>he.on b fun e=>hb (by simp [Ghost.cellsOnly,e]),he.size,he.heap,he.loops,he.os,he.tape,he.output⟩
 cases r0 <;> unfold leave at hl <;> simp only at hl <;> split at hl
 all_goals first
  | (rename_i hcond
     simp only [Bool.and_eq_true,Bool.or_eq_true,Bool.not_eq_true'] at hcond
     cases hl
     obtain ⟨k1,k2⟩:=left hr0 hec hc1 hk.1 (fun i b bx hi hx=>by
      have h1:=(hr0.γlt i b hi).1
      rcases hcond.1 with he0 | hlb
      ·obtain ⟨bx',h3,h4⟩:=(hk.2 he0).2 i h.length h[i] h1 (Nat.le_refl _) (List.getElem?_eq_getElem h1) (box_lower hr0 hi (List.getElem?_eq_getElem h1))
       rw [hx] at h3
       cases h3
       exact h4
      ·simp only [beq_iff_eq] at hlb
       omega)
     refine ⟨rfl,_,k1,k2,nilTmp hc2 _,fun a v ha hv=>below_V (G:=G.cellsOnly) ?_ hv⟩
     rcases ha with ha | ha <;> cases ha <;> exact hcond.2)
  | (cases hl
     exact ⟨rfl,_,hec,hc1,hc2,fun a v _ hv=>hv⟩)
def resF (tmps:Array Value):ResultVar→Sem Value
 | .tmp t=>pure (tmps.getD t undef)
 | .cell a t=>do loadVar t (←asAddr (tmps.getD a undef))
theorem results_eq (fn:Func) (tmps:Array Value):results fn tmps = (do
  let vs ←fn.results.mapM (resF tmps)
  pure (if h:vs.size = 1 then vs[0] else .tuple vs)):=rfl
theorem results_list {s:St} {a:Act} (hc:Cfg P gl G s.h s.t a w):∀(l:List ResultVar) (rs:List ARes) (vs:List AVal),l.mapM (compRes P) = some rs→readRes s rs = some vs→
  ∃us:List Value,(l.mapM (resF a.tmps)).run P w = .ok us w∧G.VL vs us
 | [],rs,vs,h,hv=>by simp at h;subst h;simp only [readRes] at hv;cases hv;exact ⟨[],by simp,by simp [Ghost.VL,VRelL]⟩
 | x :: l,rs,vs,h,hv=>by
  simp only [List.mapM_cons,Option.pure_def,Option.bind_eq_bind,Option.bind_eq_some_iff] at h
  obtain ⟨y,hy,ys,hys,h⟩:=h
  cases h
  cases x with
  | tmp i=>
   simp only [compRes,Option.some.injEq] at hy
   subst hy
   simp only [readRes] at hv
   split at hv
   ·rename_i vs' hvs'
    cases hv
    obtain ⟨us,h1,h2⟩:=results_list hc l ys vs' hys hvs'
    refine ⟨a.tmps.getD i undef :: us,?_,by simp only [Ghost.VL,VRelL];exact ⟨_,us,rfl,dim_rel (hc.tr.get i),h2⟩⟩
    rw [List.mapM_cons]
    simp only [resF,Sem.run_bind,Sem.run_pure,Result.andThen_ok]
    rw [h1]
    rfl
   ·cases hv
  | cell i ty=>
   simp only [compRes,Option.map_eq_some_iff] at hy
   obtain ⟨k,hk,rfl⟩:=hy
   simp only [readRes] at hv
   split at hv
   ·rename_i v vs' hld hvs'
    cases hv
    obtain ⟨us,h1,h2⟩:=results_list hc l ys vs' hys hvs'
    have hp:=hc.tr.get i
    obtain ⟨u,h3,h4,_⟩:=ld_run hc.rel hk hp hld
    have hptr:∃ad,a.tmps.getD i undef = .pointer (some ad):=by
     revert hp
     revert hld
     generalize s.t.getD i .undef = p
     intro hld hp
     cases p <;> simp only [ldAt] at hld <;> first | (cases hld;done) | skip
     ·simp only [Ghost.V,VRel] at hp;obtain ⟨b,_,e⟩:=hp;exact ⟨_,e⟩
     ·simp only [Ghost.V,VRel] at hp;obtain ⟨b,p,e,_⟩:=hp;exact ⟨_,e⟩
    obtain ⟨ad,had⟩:=hptr
    refine ⟨u :: us,?_,by simp only [Ghost.VL,VRelL];exact ⟨_,us,rfl,h4,h2⟩⟩
    rw [List.mapM_cons]
    have h5:(resF a.tmps (.cell i ty)).run P w = .ok u w:=by
     simp only [resF]
     rw [had] at h3 ⊢
     exact h3
    rw [Sem.run_bind,h5,Result.andThen_ok,Sem.run_bind,h1]
    rfl
   ·cases hv
theorem results_sound {s:St} {a:Act} (hc:Cfg P gl G s.h s.t a w) {fn:Func} {rs:List ARes} {vs:List AVal} (h1:fn.results.toList.mapM (compRes P) = some rs) (h2:readRes s rs = some vs) :
  ∃u,(results fn a.tmps).run P w = .ok u w∧G.V (oneRes vs) u:=by
 obtain ⟨us,h3,h4⟩:=results_list hc _ rs vs h1 h2
 have hlen:=h4.length
 have hrun:(results fn a.tmps).run P w = .ok (if h:us.toArray.size = 1 then us.toArray[0] else .tuple us.toArray) w:=by
  rw [results_eq,Array.mapM_eq_mapM_toList]
  simp only [Sem.run_bind,map_eq_pure_bind]
  rw [h3]
  rfl
 refine ⟨_,hrun,?_⟩
 match vs,us,h4,hlen with
 | [],[],h4,_=>simp [oneRes,Ghost.V,VRel,VRelL]
 | [v],[u],h4,_=>
  simp only [Ghost.VL,VRelL] at h4
  obtain ⟨_,_,e,h5,_⟩:=h4
  cases e
  simpa [oneRes] using h5
 | v :: v' :: vs,u :: u' :: us,h4,_=>
  simp only [oneRes,Ghost.V,VRel]
  refine ⟨_,?_,h4⟩
  simp
theorem leaves_marks {fn:Func} {a:Act} {R:Ending→World→Prop} {F:Fence} {m:Nat} {u:FrameMode} (hu:u ≠ .run):∀(ds:List Deferred) (w':World),Marks G' w' w0.heap.size ds→Ext n G0 w0 G' w'→Rel P gl G' h w'→TRel G' w' t a.tmps→
  (∀w'',Ext n G0 w0 G' w''→Rel P gl G' h w''→TRel G' w'' t a.tmps→LeavesIn F m P fn a.tmps R [] u w'')→LeavesInM F m P fn a.tmps R ds u w'
 | [],w',_,he,hr,ht,hR=>hR w' he hr ht
 | d :: ds,w',hm,he,hr,ht,hR=>by
  obtain ⟨r,rfl,h1,h2,h3⟩:=hm.all d (List.mem_cons_self ..)
  refine ⟨hu,.inl ⟨r,w'.putObj r (.deferred none),rfl,run_takeDeferred h2,?_⟩⟩
  have hnd:=List.nodup_cons.1 hm.nodup
  refine leaves_marks hu ds _ ⟨hnd.2,fun d hd=>?_⟩ (he.putFar h1 _) (hr.putFar h3 fun k=>by simp [World.cell?,h2]) (ht.putFar h3) hR
  obtain ⟨r',g1,g2,g3,g4⟩:=hm.all d (List.mem_cons_of_mem _ hd)
  refine ⟨r',g1,g2,?_,g4⟩
  rw [World.putObj_heap_other]
  ·exact g3
  ·rintro rfl
   rw [g1] at hd
   exact hnd.1 hd
theorem leaves_marks' {fn:Func} {ts:Array Value} {R:Ending→World→Prop} {F:Fence} {m:Nat} {u:FrameMode} (hu:u ≠ .run):∀(ds:List Deferred) (w':World),Marks G' w' w0.heap.size ds→Ext n G0 w0 G' w'→Rel P gl G' h w'→
  (∀w'',Ext n G0 w0 G' w''→Rel P gl G' h w''→LeavesIn F m P fn ts R [] u w'')→LeavesInM F m P fn ts R ds u w'
 | [],w',_,he,hr,hR=>hR w' he hr
 | d :: ds,w',hm,he,hr,hR=>by
  obtain ⟨r,rfl,h1,h2,h3⟩:=hm.all d (List.mem_cons_self ..)
  refine ⟨hu,.inl ⟨r,w'.putObj r (.deferred none),rfl,run_takeDeferred h2,?_⟩⟩
  have hnd:=List.nodup_cons.1 hm.nodup
  refine leaves_marks' hu ds _ ⟨hnd.2,fun d hd=>?_⟩ (he.putFar h1 _) (hr.putFar h3 fun k=>by simp [World.cell?,h2]) hR
  obtain ⟨r',g1,g2,g3,g4⟩:=hm.all d (List.mem_cons_of_mem _ hd)
  refine ⟨r',g1,g2,?_,g4⟩
  rw [World.putObj_heap_other]
  ·exact g3
  ·rintro rfl
   rw [g1] at hd
   exact hnd.1 hd
end
end Go.AE
namespace Go.AE
section
variable {P:Program} {gl:Nat→Option (List AVal)}
def ProgOK (P:Program) (gl:Nat→Option (List AVal)) (F:FuncId→Option AFunc):Prop:=
 ∀ f fn, F f = some fn → ∃ pf c, P.funcs[f]? = some pf ∧ (pf.name == "runtime.NumGoroutine") = false ∧ pf.body = some c ∧ comp P gl c = some fn.code ∧ pf.results.toList.mapM (compRes P) = some fn.results ∧ pf.ntmps = fn.ntmps
def ExtOK (P:Program) (gl:Nat→Option (List AVal)) (f:FuncId) (g:AE.Call→List AVal→List ABox→Option (CRes×List ABox×Bool)):Prop:=
 ∀call,CallOK P gl call→CallKeeps call→∀aS h r h' e',g call aS h = some (r,h',e')→∀(G:Ghost) (w:World) (vs:Array Value),Rel P gl G h w→NoTmp G→G.VL aS vs.toList→
  ((callFunc f vs).run P w = .ok (.enter f vs) w∧∀(ro:Option Nat) (n:Nat),CallsIn (FR ro) n P f vs w (Back P gl h.length G w r h'))∨
  ((∀i,.yld i ∉ aS)∧∃v w',(callFunc f vs).run P w = .ok (.value v) w'∧Back P gl h.length G w r h' (.returned v) w')
theorem callFunc_enter {f : FuncId} {pf : Func} {c : Code} (h1 : P.funcs[f]? = some pf) (h2 : (pf.name == "runtime.NumGoroutine") = false) (h3 : pf.body = some c) (vs : Array Value) (w : World) : (callFunc f vs).run P w = .ok (.enter f vs) w := by
 have h2' : pf.name ≠ "runtime.NumGoroutine" := by simpa using h2
 simp [callFunc,Sem.run_bind,program,Sem.run,h1,h2',h3,Result.andThen]
theorem callS_fn {f:FuncId} {x y vs:Array Value} {w:World}:(callS (.func (.func f) x y) vs).run P w = (callFunc f ((x ++ vs) ++ y)).run P w:=by
 simp [callS,Deferred.ofValue,invoke,Sem.run_bind,Result.andThen]
theorem callS_yield {b:Nat} {x y vs:Array Value} {w:World}:(callS (.func (.yield b) x y) vs).run P w = (Instr.yield b (x ++ vs)).run P w:=by
 simp [callS,Deferred.ofValue,invoke,Sem.run_bind,Result.andThen]
theorem TRel.start {G:Ghost} {w:World} {aS:List AVal} {ts:Array Value} (h:G.VL aS ts.toList) (hd:∀a ∈ aS,a.dim = a):TRel G w aS ts:=
 ⟨h,fun i xs k v hx _=>by
  have:=hd _ (List.mem_iff_getElem?.2 ⟨i,hx⟩)
  simp [AVal.dim] at this⟩
theorem zips_rel {G:Ghost}:∀(ps:List Nat) (aS:List AVal) (vs:List Value) (t:List AVal) (ts:Array Value),G.VL aS vs→ps.length = aS.length→G.VL t ts.toList→
  G.VL (zips t ps aS) (((ps.zip vs).foldl (fun (tmps:Array Value) (x:Nat×Value)=>tmps.setIfInBounds x.1 x.2) ts)).toList
 | [],aS,vs,t,ts,_,_,ht=>by simpa [zips] using ht
 | p :: ps,[],vs,t,ts,_,hl,_=>by simp at hl
 | p :: ps,a :: aS,vs,t,ts,ha,hl,ht=>by
  simp only [Ghost.VL,VRelL] at ha
  obtain ⟨v,rest,rfl,h1,h2⟩:=ha
  simp only [zips,List.zip_cons_cons,List.foldl_cons]
  exact zips_rel ps aS rest _ _ h2 (by simpa using hl) (by simpa using VRelL.set p ht h1)
theorem zips_dims:∀(ps:List Nat) (aS:List AVal) (t:List AVal),(∀a ∈ aS,a.dim = a)→(∀a ∈ t,a.dim = a)→∀a ∈ zips t ps aS,a.dim = a
 | [],_,t,_,ht=>by simpa [zips] using ht
 | p :: ps,[],t,_,ht=>by simpa [zips] using ht
 | p :: ps,a :: aS,t,ha,ht=>by
  simp only [zips]
  refine zips_dims ps aS _ (fun x hx=>ha x (List.mem_cons_of_mem _ hx)) fun x hx=>?_
  rcases List.mem_or_eq_of_mem_set hx with hx | rfl
  ·exact ht x hx
  ·exact ha _ (List.mem_cons_self ..)
theorem marks_nil {G:Ghost} {w:World} {lo:Nat} {rf:Bool}:MarksF G w lo rf [] []:=⟨[],rfl,⟨List.nodup_nil,fun _ h=>by cases h⟩,fun _=>rfl⟩
theorem round_sound (hmx:P.follows .mixedOrders = true) {call:AE.Call} (hcall:CallOK P gl call) (hk:CallKeeps call) {N:Nat} {l:Nat} {args:List AVal} {h:List ABox} {r:CRes} {h':List ABox} {e':Bool} (hrun:round N call l args h = some (r,h',e'))
  {G:Ghost} {w:World} {b:Nat} {vs:Array Value} (hr:Rel P gl G h w) (hn:NoTmp G) (hb:G.γ l = some b) (ha:G.VL args vs.toList) :
  ∃f tmps asg body,(Instr.yield b vs).run P w = .ok (.round b f tmps asg body) w∧∀(ro:Option Nat) (n:Nat),RoundIn (FR ro) n P b f tmps asg body w (Back P gl h.length G w r h'):=by
 unfold round at hrun
 split at hrun
 ·rename_i t ps asg body st0 pend0 hl
  split at hrun
  ·cases hrun
  ·rename_i hlen
   have hlen:args.length = ps.length:=Classical.not_not.1 hlen
   simp only at hrun
   obtain ⟨L,hL,hLR⟩:=hr.box l b _ hb hl
   have hsz:vs.size = L.params.size:=by
    have h1:=ha.length
    have h2:=congrArg List.length hLR.ps
    simp at h1 h2
    omega
   refine ⟨_,_,_,_,run_yield hL hsz,fun ro n=>?_⟩
   refine roundIn_of_wpIn (F:=FR ro) trivial ?_
   split at hrun
   ·rename_i s1 hx1
    have k1:=exec_keeps (base:=h.length) hk N asg _ s1 _ (Nat.le_refl _) hx1
    split at hrun
    ·rename_i t1 ps1 asg1 body1 pend1 hl1
     split at hrun
     ·rename_i x s2 hx2
      have kk:StKeeps h.length s1 { s1 with h:=s1.h.set l (.loop t1 ps1 asg1 body1 .busy pend1)}:=⟨by simp,fun he=>⟨he,Keeps.set hl1 fun B _ _ hlow=>hlow⟩⟩
      have k2:=exec_keeps (base:=h.length) hk N body _ s2 _ (by simpa using k1.1) hx2
      have k12:=k1.trans (kk.trans k2)
      split at hrun
      ·rename_i t2 ps2 asg2 body2 st2 pend2 hl2
       have htr:TRel G w (zips t ps (args.map AVal.dim)) ((L.params.zip vs).foldl (fun (tmps:Array Value) (x:Nat×Value)=>tmps.setIfInBounds x.1 x.2) L.tmps):=by
        refine TRel.start ?_ (zips_dims _ _ _ (fun x hx=>by obtain ⟨y,_,rfl⟩:=List.mem_map.1 hx;exact dim_dim y) hLR.dims)
        have:=zips_rel (G:=G) ps (args.map AVal.dim) vs.toList t L.tmps ha.dims (by simpa using hlen.symm) hLR.tmps
        rw [←hLR.ps] at this ⊢
        rw [←Array.toList_zip,Array.foldl_toList] at this
        exact this
       have hW1:=exec_sound hmx hcall hk (N:=N) (base:=h.length) (lo:=w.heap.size) (rf:=false) (fx:=[]) (ro:=some b) (m:=n) L.assign asg hLR.asg (fun h=>by cases h) G w ⟨zips t ps (args.map AVal.dim),h,false⟩
        { tmps:=(L.params.zip vs).foldl (fun (tmps:Array Value) (x:Nat×Value)=>tmps.setIfInBounds x.1 x.2) L.tmps,defers:=[]} _ s1 ⟨hr,htr⟩ (Nat.le_refl _) (fun _ hq=>by cases hq;exact ⟨L,hL⟩) marks_nil (Nat.le_refl _) hx1
       refine wpIn_mono hW1 fun e a1 w1 hf1=>?_
       obtain ⟨G1,f1,f2,rfl,f4⟩:=hf1
       have hγ1:=f1.gk _ _ hb
       obtain ⟨L1,hL1,hLR1⟩:=f4.rel.box l b _ hγ1 hl1
       have hst1:L1.state = .ready:=by
        have:=hLR1.st
        cases hs:L1.state <;> rw [hs] at this <;> first | rfl | exact this.elim
       have hLRb:LoopRel P gl G1 t1 ps1 asg1 body1 .busy pend1 { L1 with state:=.busy}:={ hLR1 with st:=trivial}
       have c1:Cfg P gl G1 (s1.h.set l (.loop t1 ps1 asg1 body1 .busy pend1)) s1.t a1 (w1.putObj b (.loop { L1 with state:=.busy})):=⟨f4.rel.putLoop hγ1 hl1 hLRb,f4.tr.putLoop f4.rel hγ1 _⟩
       have x1:Ext h.length G w G1 (w1.putObj b (.loop { L1 with state:=.busy})):=f1.trans (Nat.le_refl _) (Ext.putLoop _ hγ1 hL1 ⟨rfl,rfl,rfl,rfl,rfl,rfl⟩)
       refine ⟨_,run_beginRound hL1 hst1,?_⟩
       have hro1:RoundIs (some b) (w1.putObj b (.loop { L1 with state:=.busy})):=fun _ hq=>by cases hq;exact ⟨_,World.putObj_heap_same (Array.getElem?_eq_some_iff.1 hL1).1⟩
       have hW2:=exec_sound hmx hcall hk (N:=N) (base:=h.length) (lo:=w.heap.size) (rf:=false) (fx:=[]) (ro:=some b) (m:=n) L.body body hLR.body (fun h=>by cases h) G1 _ { s1 with h:=s1.h.set l (.loop t1 ps1 asg1 body1 .busy pend1)} a1 x s2 c1
        (by simpa using k1.1) hro1 (f2.ext (Ext.putLoop h.length hγ1 hL1 ⟨rfl,rfl,rfl,rfl,rfl,rfl⟩)) x1.size hx2
       refine wpIn_mono hW2 fun e a2 w2 hf2=>?_
       obtain ⟨G2,g1,g2,g3⟩:=hf2
       have x2:Ext h.length G w G2 w2:=x1.trans (by simpa using k1.1) g1
       have hγ2:=x2.gk _ _ hb
       have fin:∀{st:LSt} {pend:Option Jump} {jump:Option Code} {bv:Bool},Cfg P gl G2 s2.h s2.t a2 w2→stRel st (if jump.isNone then .ready else .done)→pendRel pend jump→bv = jump.isNone→
         some (leave h.length (.ret (.bool bv)) (s2.h.set l (.loop t2 ps2 asg2 body2 st pend)) s2.e) = some (r,h',e')→∃v w',(Instr.endRound b jump).run P w2 = .ok v w'∧Back P gl h.length G w r h' (.returned v) w':=by
        intro st pend jump bv hc2 hst hpd hbv hlv
        obtain ⟨L2,hL2,hLR2⟩:=hc2.rel.box l b _ hγ2 hl2
        have hLRe:LoopRel P gl G2 t2 ps2 asg2 body2 st pend { L2 with state:=if jump.isNone then .ready else .done,pending:=jump}:={ hLR2 with st:=hst,pend:=hpd}
        have hrel:=hc2.rel.putLoop hγ2 hl2 hLRe
        have x3:=x2.trans (Nat.le_refl _) (Ext.putLoop _ hγ2 hL2 (L':={ L2 with state:=if jump.isNone then .ready else .done,pending:=jump}) ⟨rfl,rfl,rfl,rfl,rfl,rfl⟩)
        obtain ⟨rfl,G',y1,y2,y3,y4⟩:=leave_back (s:={ s2 with h:=s2.h.set l (.loop t2 ps2 asg2 body2 st pend)}) hr x3 hrel ⟨by simpa using k12.1,fun he=>(k12.2 he).2.trans (Keeps.set hl2 fun B _ _ hlow=>hlow)⟩ (Option.some.inj hlv)
        exact ⟨_,_,run_endRound jump hL2,_,G',rfl,y1,y2,y3,by subst hbv;exact y4 (.bool jump.isNone) (.bool jump.isNone) (.inl rfl) (by simp [Ghost.V,VRel])⟩
       split at hrun
       ·obtain ⟨rfl,g3⟩:=g3
        exact fin (st:=.ready) (pend:=none) (jump:=none) g3 (by simp [stRel]) trivial rfl hrun
       ·obtain ⟨rfl,g3⟩:=g3
        exact fin (st:=.done) (pend:=some .ret) (jump:=some .ret) g3 (by simp [stRel]) trivial rfl hrun
       ·rename_i id
        obtain ⟨rfl,g3⟩:=g3
        exact fin (st:=.done) (pend:=some (.exit id)) (jump:=some (.exit id)) g3 (by simp [stRel]) rfl rfl hrun
       ·cases hrun
      ·cases hrun
     ·cases hrun
    ·cases hrun
   ·cases hrun
 ·cases hrun
theorem run_sound (hmx:P.follows .mixedOrders = true) {F:FuncId→Option AFunc} {X:Exts} (hF:ProgOK P gl F) (hX:∀f g,X f = some g→ExtOK P gl f g)
  (hXk:∀f g,X f = some g→∀call,CallKeeps call→CallKeeps fun _ aS h=>g call aS h):∀n,CallOK P gl (run F X n)
 | 0=>fun fv args h r h' e' hr=>by simp [run] at hr
 | n + 1=>fun fv args h r h' e' hrun G w fvv vs hr hn hf ha=>by
  have ih:=run_sound hmx hF hX hXk n
  have hk:=run_keeps (F:=F) (X:=X) hXk n
  simp only [run] at hrun
  split at hrun
  ·rename_i f first cap
   have hf':=hf
   simp only [Ghost.V,VRel] at hf'
   obtain ⟨x,y,rfl,hx,hy⟩:=hf'
   have hall:G.VL (first ++ args ++ cap) ((x ++ vs) ++ y).toList:=by
    simp only [Array.toList_append]
    exact (VRelL.append hx ha).append hy
   rw [callS_fn]
   split at hrun
   ·rename_i g hg
    rcases hX f g hg _ ih hk _ _ _ _ _ hrun G w _ hr hn hall with ⟨h1,h2⟩ | ⟨h1,v,w',h2,h3⟩
    ·exact .inl ⟨f,_,h1,h2⟩
    ·exact .inr (.inr ⟨v,w',fun i hi=>h1 i (by rw [hi];simp),h2,h3⟩)
   ·split at hrun
    ·cases hrun
    ·rename_i fn hfn
     obtain ⟨pf,c,p1,p2,p3,p4,p5,p6⟩:=hF f fn hfn
     refine .inl ⟨f,_,callFunc_enter p1 p2 p3 _ w,fun ro m=>?_⟩
     generalize hvs:(x ++ vs) ++ y = vv at hall ⊢
     have hsize:vv.size = (first ++ args ++ cap).length:=by have:=hall.length;simp at this ⊢;omega
     let t0:List AVal:=(first ++ args ++ cap).map AVal.dim ++ List.replicate (fn.ntmps - ((first ++ args ++ cap).map AVal.dim).length) (.tup [])
     let a0:Act:={ tmps:=vv ++ Array.replicate (pf.ntmps - vv.size) undef,defers:=[]}
     have hc0:Cfg P gl G h t0 a0 w:=by
      refine ⟨hr,TRel.start ?_ fun z hz=>?_⟩
      ·simp only [t0,a0,Array.toList_append,Array.toList_replicate]
       refine VRelL.append hall.dims ?_
       rw [p6,hsize]
       simp only [List.length_map]
       exact VRelL.replicate _ (by simp [VRel,VRelL,undef])
      ·simp only [t0] at hz
       rcases List.mem_append.1 hz with hz | hz
       ·obtain ⟨q,_,rfl⟩:=List.mem_map.1 hz;exact dim_dim q
       ·rw [(List.mem_replicate.1 hz).2];rfl
     have hW:∀x s,exec n h.length (run F X n) fn.code ⟨t0,h,false⟩ = some (x,s)→c.wpIn (FR none) m P (Fin2 P gl h.length G w w.heap.size false [] x s) a0 w:=fun x s hx=>
      exec_sound hmx ih hk (N:=n) (base:=h.length) (lo:=w.heap.size) (rf:=false) (fx:=[]) (ro:=none) (m:=m) c fn.code p4 (fun h=>by cases h) G w ⟨t0,h,false⟩ a0 x s hc0 (Nat.le_refl _) (fun _ hq=>by cases hq) marks_nil (Nat.le_refl _) hx
     have hret:∀x s vs',exec n h.length (run F X n) fn.code ⟨t0,h,false⟩ = some (x,s)→(x = .nor∨x = .ret)→readRes s fn.results = some vs'→leave h.length (.ret (oneRes vs')) s.h s.e = (r,h',e')→CallsIn (FR ro) m P f vv w (Back P gl h.length G w r h'):=by
      intro x s vs' hx hxx hres hlv
      have k:=exec_keeps (base:=h.length) hk n fn.code _ s _ (Nat.le_refl _) hx
      refine FR_calls (m:=m) (callsIn_of_wp_marks (F:=FR none) p1 p3 trivial (wpIn_mono (hW x s hx) fun e a' w' hfin=>?_) rfl)
      obtain ⟨G',g1,⟨ms,hms,g2,_⟩,g3⟩:=hfin
      rw [List.append_nil] at hms
      rw [←hms] at g2
      have key:Cfg P gl G' s.h s.t a' w'→LeavesInM (FR none) m P pf a'.tmps (Back P gl h.length G w r h') a'.defers .returning w':=by
       intro hc
       refine leaves_marks (by simp) a'.defers w' g2 g1 hc.rel hc.tr fun w'' q1 q2 q3=>?_
       obtain ⟨u,r1,r2⟩:=results_sound (a:=a') ⟨q2,q3⟩ p5 hres
       obtain ⟨rfl,G'',y1,y2,y3,y4⟩:=leave_back hr q1 q2 ⟨k.1,fun he=>(k.2 he).2⟩ hlv
       exact ⟨u,r1,_,G'',rfl,y1,y2,y3,y4 _ u (.inl rfl) r2⟩
      rcases hxx with rfl | rfl
      ·obtain ⟨rfl,g3⟩:=g3;exact key g3
      ·obtain ⟨rfl,g3⟩:=g3;exact key g3
     split at hrun
     ·rename_i s hx
      split at hrun
      ·rename_i vs' hres
       exact hret _ s vs' hx (.inl rfl) hres (Option.some.inj hrun)
      ·cases hrun
     ·rename_i s hx
      split at hrun
      ·rename_i vs' hres
       exact hret _ s vs' hx (.inr rfl) hres (Option.some.inj hrun)
      ·cases hrun
     ·rename_i v s hx
      have k:=exec_keeps (base:=h.length) hk n fn.code _ s _ (Nat.le_refl _) hx
      refine FR_calls (m:=m) (callsIn_of_wp_marks (F:=FR none) p1 p3 trivial (wpIn_mono (hW _ s hx) fun e a' w' hfin=>?_) rfl)
      obtain ⟨G',g1,⟨ms,hms,g2,_⟩,u,rfl,g3,g4⟩:=hfin
      rw [List.append_nil] at hms
      rw [←hms] at g2
      refine leaves_marks' (by simp) a'.defers w' g2 g1 g3.rel fun w'' q1 q2=>?_
      obtain ⟨rfl,G'',y1,y2,y3,y4⟩:=leave_back hr q1 q2 ⟨k.1,fun he=>(k.2 he).2⟩ (Option.some.inj hrun)
      exact ⟨v,u,G'',rfl,rfl,y1,y2,y3,y4 _ u (.inr rfl) g4⟩
     ·cases hrun
  ·rename_i l
   have hf':=hf
   simp only [Ghost.V,VRel] at hf'
   obtain ⟨b,hb,rfl⟩:=hf'
   rw [callS_yield]
   obtain ⟨f,tmps,asg,body,h1,h2⟩:=round_sound hmx ih hk hrun hr hn hb ha (vs:=vs)
   exact .inr (.inl ⟨l,b,f,tmps,asg,body,rfl,by simpa using h1,h2⟩)
  ·cases hrun
end
end Go.AE
namespace Go.AE
inductive GBody where
 | pre (a:ACode) (r:GBody)
 | dfr (f:FuncId) (caps:List AOpd) (slot:Nat) (rest:ACode)
 deriving Inhabited
structure DFunc where
 ntmps:Nat
 k:Nat
 ops:List AOper
 code:ACode
 deriving Inhabited
structure GFunc where
 ntmps:Nat
 results:List ARes
 body:GBody
 d:DFunc
 deriving Inhabited
def GBody.fid:GBody→FuncId
 | .pre _ r=>r.fid
 | .dfr f _ _ _=>f
def dexec (n:Nat) (call:Call) (d:DFunc) (v:AVal) (cv:List AVal) (s:St):Option (Ex×St):=
 match runOps s.h.length call [] d.ops ⟨put (some d.k) v.dim (cv.map AVal.dim ++ List.replicate (d.ntmps - cv.length) (.tup [])),s.h,false⟩ with
 | some (.nor,s1)=>
  match exec n s.h.length call d.code s1 with
  | some (.nor,s2) | some (.ret,s2)=>some (.ret,{ s with h:=s2.h,e:=s.e || s2.e})
  | _=>none
 | _=>none
def gexec (n base:Nat) (call:Call) (d:DFunc):GBody→St→Option (Ex×St)
 | .pre a r,s=>match exec n base call a s with
  | some (.nor,s)=>gexec n base call d r s
  | some (.exit _,_)=>none
  | r=>r
 | .dfr f caps slot rest,s=>
  match ev (put (some slot) (.fn f [] (caps.map (ev s.t))) s.t) (.t slot) with
  | .fn g [] cv=>
   if g = f then
    match exec n base call rest { s with t:=put (some slot) (.fn f [] (caps.map (ev s.t))) s.t} with
    | some (.nor,s1) | some (.ret,s1)=>dexec n call d .niliface cv s1
    | some (.pan v,s1)=>dexec n call d v cv s1
    | _=>none
   else none
  | _=>none
def gcall (n:Nat) (g:GFunc) (call:Call) (aS:List AVal) (h:List ABox):Option (CRes×List ABox×Bool):=
 match gexec n h.length call g.d g.body ⟨aS.map AVal.dim ++ List.replicate (g.ntmps - aS.length) (.tup []),h,false⟩ with
 | some (.nor,s) | some (.ret,s)=>
  match readRes s g.results with
  | some vs=>some (leave h.length (.ret (oneRes vs)) s.h s.e)
  | none=>none
 | some (.pan v,s)=>some (leave h.length (.pan v) s.h s.e)
 | _=>none
section
variable (P:Program) (gl:Nat→Option (List AVal))
def dfrPair (o0 o1:Oper):Option (FuncId×List AOpd×Nat):=
 match o0.op with
 | .makeFunc (.func f) a caps=>
  match o1.op with
  | .defer c=>
   match c.callee with
   | .value (.tmp t)=>if o0.dst = some t∧o0.guard = none∧o1.dst = none∧o1.guard = none∧a = #[]∧c.args = #[] then (opds gl caps).map fun cs=>(f,cs,t) else none
   | _=>none
  | _=>none
 | _=>none
def dfrCode:Code→Option (FuncId×List AOpd×Nat)
 | .region _ ops false=>
  match ops.toList with
  | [o0,o1]=>dfrPair gl o0 o1
  | _=>none
 | _=>none
def compG:Code→Option GBody
 | .seq a b=>
  match dfrCode gl a with
  | some (f,caps,t)=>(comp P gl b).map (.dfr f caps t)
  | none=>
   match comp P gl a,compG b with
   | some x,some r=>if x.noRf then some (.pre x r) else none
   | _,_=>none
 | _=>none
def recOf (o:Oper):Option Nat:=
 match o.op with
 | .call c=>
  match c.callee with
  | .builtin .recover=>if o.guard = none∧c.args = #[] then o.dst else none
  | _=>none
 | _=>none
def compD (f:Func):Option DFunc:=
 match f.body with
 | some (.seq (.region _ ops false) c)=>
  match ops.toList with
  | o0 :: os=>
   match recOf o0,os.mapM (compOper P gl ops),comp P gl c with
   | some k,some aos,some ac=>if aos.all (fun o=>!o.op.calls) && ac.noRf && f.results.isEmpty then some ⟨f.ntmps,k,aos,ac⟩ else none
   | _,_,_=>none
  | _=>none
 | _=>none
def compGuard (f d:Func):Option GFunc:=
 match f.body with
 | some c=>
  match compG P gl c,f.results.toList.mapM (compRes P),compD P gl d with
  | some b,some rs,some d=>some ⟨f.ntmps,rs,b,d⟩
  | _,_,_=>none
 | none=>none
end
end Go.AE
namespace Go.AE
inductive FTree where
 | nil
 | node (k:Nat) (v:AFunc) (l r:FTree)
 deriving Inhabited
def FTree.get:FTree→Nat→Option AFunc
 | .nil,_=>none
 | .node k v l r,i=>bif Nat.beq i k then some v else bif Nat.blt i k then l.get i else r.get i
def FTree.All (p:Nat→AFunc→Prop):FTree→Prop
 | .nil=>True
 | .node k v l r=>p k v∧l.All p∧r.All p
theorem FTree.get_all {p:Nat→AFunc→Prop}:∀{t:FTree} {i:Nat} {v:AFunc},t.All p→t.get i = some v→p i v
 | .nil,_,_,_,h=>by cases h
 | .node k w l r,i,v,ha,h=>by
  simp only [FTree.get] at h
  cases hb:Nat.beq i k with
  | true=>
   rw [hb] at h
   have hik:i = k:=Nat.eq_of_beq_eq_true hb
   subst hik
   cases h
   exact ha.1
  | false=>
   rw [hb] at h
   cases hc:Nat.blt i k with
   | true=>rw [hc] at h;exact FTree.get_all ha.2.1 h
   | false=>rw [hc] at h;exact FTree.get_all ha.2.2 h
end Go.AE
namespace Go.AE
def endOf (fn:AFunc) (h:List ABox):Option (Ex×St)→Option (CRes×List ABox×Bool)
 | some (.nor,s) | some (.ret,s)=>
  match readRes s fn.results with
  | some vs=>some (leave h.length (.ret (oneRes vs)) s.h s.e)
  | none=>none
 | some (.pan v,s)=>some (leave h.length (.pan v) s.h s.e)
 | _=>none
theorem run_fn {F:FuncId→Option AFunc} {X:Exts} {n:Nat} {f:FuncId} {first args cap:List AVal} {h:List ABox} {fn:AFunc} (hX:X f = none) (hF:F f = some fn) :
  run F X (n + 1) (.fn f first cap) args h = endOf fn h (exec n h.length (run F X n) fn.code ⟨(first ++ args ++ cap).map AVal.dim ++ List.replicate (fn.ntmps - ((first ++ args ++ cap).map AVal.dim).length) (.tup []),h,false⟩):=by
 simp only [run,hX,hF]
 rfl
theorem run_ext {F:FuncId→Option AFunc} {X:Exts} {n:Nat} {f:FuncId} {first args cap:List AVal} {h:List ABox} {g:Call→List AVal→List ABox→Option (CRes×List ABox×Bool)} (hX:X f = some g) :
  run F X (n + 1) (.fn f first cap) args h = g (run F X n) (first ++ args ++ cap) h:=by
 simp only [run,hX]
end Go.AE
namespace Go.AE
section
variable {P:Program} {gl:Nat→Option (List AVal)}
theorem dexec_keeps {call:AE.Call} (hk:CallKeeps call) {n base:Nat} {d:DFunc} {v:AVal} {cv:List AVal} {s s':St} {x:Ex} (hb:base ≤ s.h.length) (h:dexec n call d v cv s = some (x,s')):StKeeps base s s':=by
 unfold dexec at h
 split at h
 ·rename_i s1 h1
  have k1:=runOps_keeps (base:=s.h.length) hk d.ops [] ⟨_,s.h,false⟩ s1 _ (Nat.le_refl _) h1
  have key:∀x2 s2,exec n s.h.length call d.code s1 = some (x2,s2)→StKeeps base s { s with h:=s2.h,e:=s.e || s2.e}:=by
   intro x2 s2 h2
   have k2:=exec_keeps (base:=s.h.length) hk n d.code s1 s2 _ k1.1 h2
   have k:=k1.trans k2
   refine ⟨k.1,fun he=>?_⟩
   simp only [Bool.or_eq_false_iff] at he
   exact ⟨he.1,(k.2 he.2).2.lower hb⟩
  split at h
  ·rename_i s2 h2;cases h;exact key _ _ h2
  ·rename_i s2 h2;cases h;exact key _ _ h2
  ·cases h
 ·cases h
theorem gexec_keeps {call:AE.Call} (hk:CallKeeps call) {n base:Nat} {d:DFunc}:∀(b:GBody) (s s':St) (x:Ex),base ≤ s.h.length→gexec n base call d b s = some (x,s')→StKeeps base s s'
 | .pre a r,s,s',x,hb,h=>by
  simp only [gexec] at h
  split at h
  ·rename_i s1 h1
   have k1:=exec_keeps (base:=base) hk n a s s1 _ hb h1
   exact k1.trans (gexec_keeps hk r s1 s' x (Nat.le_trans hb k1.1) h)
  ·cases h
  ·exact exec_keeps (base:=base) hk n a s s' x hb h
 | .dfr f caps slot rest,s,s',x,hb,h=>by
  simp only [gexec] at h
  split at h
  ·rename_i g cv hev
   split at h
   ·have k0:StKeeps base s { s with t:=put (some slot) (.fn f [] (caps.map (ev s.t))) s.t}:=⟨Nat.le_refl _,fun h=>⟨h,Keeps.refl _ _⟩⟩
    have key:∀x1 s1,exec n base call rest { s with t:=put (some slot) (.fn f [] (caps.map (ev s.t))) s.t} = some (x1,s1)→∀v,dexec n call d v cv s1 = some (x,s')→StKeeps base s s':=by
     intro x1 s1 h1 v h2
     have k1:=exec_keeps (base:=base) hk n rest { s with t:=put (some slot) (.fn f [] (caps.map (ev s.t))) s.t} s1 _ hb h1
     exact k0.trans (k1.trans (dexec_keeps hk (Nat.le_trans hb k1.1) h2))
    split at h
    ·rename_i s1 h1;exact key _ _ h1 _ h
    ·rename_i s1 h1;exact key _ _ h1 _ h
    ·rename_i s1 h1;exact key _ _ h1 _ h
    ·cases h
   ·cases h
  ·cases h
theorem gcall_keeps {n:Nat} {g:GFunc} {call:AE.Call} (hk:CallKeeps call):CallKeeps fun _ aS h=>gcall n g call aS h:=by
 intro fv aS h r h' e' hr
 simp only [gcall] at hr
 split at hr
 ·rename_i s h1
  have k:=gexec_keeps (base:=h.length) hk g.body ⟨_,h,false⟩ s _ (Nat.le_refl _) h1
  split at hr
  ·rename_i vs hvs
   have:=leave_keeps (r:=.ret (oneRes vs)) (h:=h) ⟨k.1,fun he=>(k.2 he).2⟩
   rw [Option.some.inj hr] at this
   exact this
  ·cases hr
 ·rename_i s h1
  have k:=gexec_keeps (base:=h.length) hk g.body ⟨_,h,false⟩ s _ (Nat.le_refl _) h1
  split at hr
  ·rename_i vs hvs
   have:=leave_keeps (r:=.ret (oneRes vs)) (h:=h) ⟨k.1,fun he=>(k.2 he).2⟩
   rw [Option.some.inj hr] at this
   exact this
  ·cases hr
 ·rename_i v s h1
  have k:=gexec_keeps (base:=h.length) hk g.body ⟨_,h,false⟩ s _ (Nat.le_refl _) h1
  have:=leave_keeps (r:=.pan v) (h:=h) ⟨k.1,fun he=>(k.2 he).2⟩
  rw [Option.some.inj hr] at this
  exact this
 ·cases hr
theorem dfr_was {a:Code} {f:FuncId} {caps:List AOpd} {t:Nat} (h:dfrCode gl a = some (f,caps,t)) :
  ∃id ops o0 o1 a0 cs c,a = .region id ops false∧ops = #[o0,o1]∧o0.op = .makeFunc (.func f) a0 cs∧a0 = #[]∧o0.dst = some t∧o0.guard = none∧o1.op = .defer c∧c.callee = .value (.tmp t)∧c.args = #[]∧o1.dst = none∧o1.guard = none∧opds gl cs = some caps:=by
 unfold dfrCode at h
 split at h
 ·rename_i id ops
  split at h
  ·rename_i o0 o1 hops
   unfold dfrPair at h
   split at h
   ·rename_i f' a0 cs ho0
    split at h
    ·rename_i c ho1
     split at h
     ·rename_i t' hcal
      split at h
      ·rename_i hc
       obtain ⟨c1,c2,c3,c4,c5,c6⟩:=hc
       obtain ⟨cs',hcs',he⟩:=mapO h
       cases he
       exact ⟨id,ops,o0,o1,a0,cs,c,rfl,by apply Array.ext';simpa using hops,ho0,c5,c1,c2,ho1,hcal,c6,c3,c4,hcs'⟩
      ·cases h
     ·cases h
    ·cases h
   ·cases h
  ·cases h
 ·cases h
structure DWas (P:Program) (gl:Nat→Option (List AVal)) (df:Func) (d:DFunc):Prop where
 ex:∃id ops o0 os c,df.body = some (.seq (.region id ops false) c)∧ops.toList = o0 :: os∧(∃cl,o0.op = .call cl∧cl.callee = .builtin .recover∧cl.args = #[])∧o0.dst = some d.k∧o0.guard = none∧os.mapM (compOper P gl ops) = some d.ops∧
  comp P gl c = some d.code∧(∀o ∈ d.ops,o.op.calls = false)∧d.code.noRf = true∧df.results = #[]∧df.ntmps = d.ntmps
theorem compD_was {df:Func} {d:DFunc} (h:compD P gl df = some d):DWas P gl df d:=by
 unfold compD at h
 split at h
 ·rename_i id ops c hb
  split at h
  ·rename_i o0 os hops
   split at h
   ·rename_i k aos ac hk hos hac
    split at h
    ·rename_i hc
     simp only [Bool.and_eq_true,List.all_eq_true,Bool.not_eq_true',Array.isEmpty_iff] at hc
     cases h
     unfold recOf at hk
     split at hk
     ·rename_i cl ho
      split at hk
      ·rename_i hcal
       split at hk
       ·rename_i hg
        exact ⟨id,ops,o0,os,c,hb,hops,⟨cl,ho,hcal,hg.2⟩,hk,hg.1,hos,hac,hc.1.1,hc.1.2,hc.2,rfl⟩
       ·cases hk
      ·cases hk
     ·cases hk
    ·cases h
   ·cases h
  ·cases h
 ·cases h
theorem did_mov {o:Oper} {ao:AOp} {a:Act} {w w':World} {nx:Next} {u:Value} (hcomp:compOp P gl o = some ao) {i:Nat} (hmv:ao = .mov (.t i)) (h1:(execOp a.eval o).run P w = .ok nx w') (h2:Nx nx u):u = a.tmps.getD i undef:=by
 subst hmv
 have ho:=(comp_was hcomp).1 i rfl
 have:(execOp a.eval o).run P w = .ok (.value (a.eval (.tmp i))) w:=by simp [execOp,ho]
 rw [this] at h1
 cases h1
 rcases h2 with h2 | ⟨h2,_⟩
 ·cases h2;rfl
 ·cases h2
theorem did_ld_src {G:Ghost} {w w':World} {h:List ABox} {t:List AVal} {a:Act} (hc:Cfg P gl G h t a w) {o:Oper} {ao:AOp} {nx:Next} {u:Value} (hcomp:compOp P gl o = some ao) {q:AOpd} {id off:Nat} (hld:ao = .ld none q) (hq:ev t q = .ptr id off)
  {base:Nat} {call:AE.Call} {p:Prov} {dst:Option Nat} {e:Bool} {x:Ex} {s':St} (hrun:runOp base call p dst ao ⟨t,h,e⟩ = some (x,s')) (h1:(execOp a.eval o).run P w = .ok nx w') (h2:Nx nx u) :
  ∃b,G.γ id = some b∧w.cell? ⟨b,off,none⟩ = some u:=by
 subst hld
 obtain ⟨ty,y,ho,hy,hk⟩:=(comp_was hcomp).2.1 q rfl
 have hv:=ev_rel hc.rel hc.tr hy
 rw [hq] at hv
 simp only [Ghost.V,VRel] at hv
 obtain ⟨b,hb,he⟩:=hv
 refine ⟨b,hb,?_⟩
 obtain ⟨g1,_⟩:=tyk_isAgg hk w
 simp only [runOp] at hrun
 obtain ⟨v,hv,_⟩:=mapO hrun
 rw [hq] at hv
 simp only [ldAt] at hv
 split at hv
 ·rename_i cs hcs
  obtain ⟨c,te,hw,hcr,_⟩:=hc.rel.box id b _ hb hcs
  simp only [cut] at hv
  obtain ⟨av,hav,_⟩:=mapO hv
  obtain ⟨uv,huv,_⟩:=front_get hcr hav
  have hcell:w.cell? ⟨b,off,none⟩ = some uv:=by
   simp only [Array.getElem?_toList] at huv
   simp [World.cell?,hw,huv]
  have:(execOp a.eval o).run P w = .ok (.value uv) w:=by
   simp only [execOp,ho]
   refine run_v ?_
   simp only [Instr.loadAt,he,Instr.sureAddr,Sem.run_bind,Sem.run_pure,Result.andThen_ok,loadVar,g1,Option.isSome_none,Bool.false_eq_true,if_false,run_load,hcell]
  rw [this] at h1
  cases h1
  rcases h2 with h2 | ⟨h2,_⟩
  ·cases h2;exact hcell
  ·cases h2
 ·cases hv
theorem opsS_sound {ops:Array Oper} {base:Nat} {call:AE.Call} {cs:List Frame} {m:Nat} {x:Ex} {s':St}:∀(l:List Nat) (os:List AOper),Lays P gl ops l os→(∀o ∈ os,o.op.calls = false)→
  ∀(G:Ghost) (w:World) (h:List ABox) (t:List AVal) (e:Bool) (a:Act) (p:Prov),Cfg P gl G h t a w→ProvOK G w t a p→runOps base call p os ⟨t,h,e⟩ = some (x,s')→
   x = .nor∧h.length ≤ s'.h.length∧∀(Q:Exit→Act→List Frame→World→Prop),(∀a' w' G',Ext h.length G w G' w'→Cfg P gl G' s'.h s'.t a' w'→a'.defers = a.defers→Q .normal a' cs w')→wpOpsSIn (FR none) m P ops Q l a cs w:=by
 intro l
 induction l with
 | nil=>
  intro os hl _ G w h t e a p hc hp hrun
  cases os with
  | cons _ _=>exact hl.elim
  | nil=>
   simp only [runOps] at hrun
   cases hrun
   exact ⟨rfl,Nat.le_refl _,fun Q hQ=>hQ a w G (Ext.refl _ G w) hc rfl⟩
 | cons i l ih=>
  intro os hl hnc G w h t e a p hc hp hrun
  cases os with
  | nil=>exact hl.elim
  | cons ao os=>
   obtain ⟨⟨o,ho,hco⟩,hl⟩:=hl
   simp only [runOps] at hrun
   split at hrun
   ·rename_i hw
    obtain ⟨hcomp,hdst,hwant⟩:=wanted_rel hc.tr hco hw
    simp only [hdst] at hrun
    cases hop:runOp base call p o.dst ao.op ⟨t,h,e⟩ with
    | none=>rw [hop] at hrun;cases hrun
    | some r=>
     obtain ⟨x1,s1⟩:=r
     have hcl:ao.op.calls = false:=hnc ao (List.mem_cons_self ..)
     obtain ⟨rfl,hd,hlen⟩:=did_op hc hp hcomp hcl hop
     rw [hop] at hrun
     simp only at hrun
     obtain ⟨nx,u,w',G',h1,h2,hst,h3,h4⟩:=hd
     have hnext:ProvOK G' w' s1.t (a.put o.dst u) (provNext p ao):=by
      have hq:ao.op.effs = false→ao.op.acts = false:=by cases ao.op <;> simp [AOp.effs,AOp.acts]
      have hstill:ao.op.effs = false→∀b,b < w.heap.size→w'.heap[b]? = w.heap[b]?:=fun hac=>hst (fun hop'=>by
       have:=(comp_was hcomp).2.2.1 hop'
       rw [hq hac] at this
       cases this) (fun hop'=>by
       have:=hx_acts hcomp hop'
       rw [hq hac] at this
       cases this)
      rw [←hdst]
      by_cases hac:ao.op.effs = false
      ·obtain ⟨_,v,hv,_⟩:=runOp_quiet hac hop
       refine hp.next (v:=v) (fun _=>by rw [hdst];exact hv) h3.gk hstill ?_ ?_
       ·intro i hmv
        exact did_mov hcomp hmv h1 h2
       ·intro q id off hld hq'
        exact did_ld_src hc hcomp hld hq' hop h1 h2
      ·exact hp.next (v:=.undef) (fun h=>absurd h hac) h3.gk (fun h=>absurd h hac) (fun i hmv=>by rw [hmv] at hac;exact absurd rfl hac) (fun q _ _ hld _=>by rw [hld] at hac;exact absurd rfl hac)
     obtain ⟨r1,r2,r3⟩:=ih os hl (fun o ho=>hnc o (List.mem_cons_of_mem _ ho)) G' w' s1.h s1.t s1.e (a.put o.dst u) (provNext p ao) h4 hnext hrun
     refine ⟨r1,Nat.le_trans hlen r2,fun Q hQ=>?_⟩
     have hrest:=r3 Q fun a' w'' G'' he hc' hd'=>hQ a' w'' G'' (h3.trans hlen he) hc' (by rw [hd',put_defers])
     simp only [wpOpsSIn,ho]
     refine ⟨fun _ _=>trivial,?_⟩
     rw [if_pos hwant,h1]
     rcases h2 with rfl | ⟨rfl,rfl⟩
     ·exact hrest
     ·exact hrest
   ·rename_i hw
    obtain ⟨hcomp,hdst,hwant⟩:=wanted_rel hc.tr hco hw
    simp only [hdst] at hrun
    have hnext:ProvOK G w (AE.put o.dst (.tup []) t) (a.put o.dst undef) (provNext p { ao with op:=.pick (.c .undef) (.c .undef) (.c .undef)}):=by
     rw [←hdst]
     exact hp.next (o:={ ao with op:=.pick (.c .undef) (.c .undef) (.c .undef)}) (v:=.tup []) (fun _=>rfl) (fun _ _ h=>h) (fun _ _ _=>rfl) (fun _ h=>by cases h) (fun _ _ _ h=>by cases h)
    obtain ⟨r1,r2,r3⟩:=ih os hl (fun o ho=>hnc o (List.mem_cons_of_mem _ ho)) G w h _ e _ _ (unwanted_put hc o.dst) (by simpa only [hdst] using hnext) (by simpa only [hdst] using hrun)
    refine ⟨r1,r2,fun Q hQ=>?_⟩
    simp only [wpOpsSIn,ho]
    refine ⟨fun _ _=>trivial,?_⟩
    rw [if_neg (by rw [hwant];simp)]
    exact r3 Q fun a' w'' G'' he hc' hd'=>hQ a' w'' G'' he hc' (by rw [hd',put_defers])
   ·cases hrun
theorem Ext.cellsOnly {n:Nat} {G G':Ghost} {w w':World} (he:Ext n G w G' w'):Ext n G w G'.cellsOnly w':=
 ⟨he.gk,he.gn,he.ik,he.inew,fun b hb=>he.on b fun e=>hb (by simp [Ghost.cellsOnly,e]),he.size,he.heap,he.loops,he.os,he.tape,he.output⟩
def Mode (G:Ghost) (u:FrameMode) (v:AVal):Prop:=(u = .returning∧v = .niliface)∨∃vv,u = .panicking [{ v:=vv,recovered:=false}]∧G.V v vv
theorem dcall_sound (hmx:P.follows .mixedOrders = true) {call:AE.Call} (hcall:CallOK P gl call) (hk:CallKeeps call) {f:FuncId} {df:Func} {d:DFunc} (hf:P.funcs[f]? = some df) (hd:DWas P gl df d) {n:Nat} {v:AVal} {cv:List AVal} {s s':St} {x:Ex}
  (h:dexec n call d v cv s = some (x,s')) {G:Ghost} {w:World} {a:Act} (hc:Cfg P gl G s.h s.t a w) {vs:Array Value} (hcv:G.VL cv vs.toList) {u:FrameMode} (hu:Mode G u v) {m:Nat} {R:Ending→FrameMode→World→Prop}
  (hR:∀r u' G' w',settle u' = .returning→Ext s.h.length G w G' w'→Cfg P gl G' s'.h s'.t a w'→R (.returned r) u' w'):x = .ret∧s'.t = s.t∧CallsDIn (FR none) m P f vs u w R:=by
 obtain ⟨id,ops,o0,os,c,hbody,hops,⟨cl,hcl1,hcl2,hcl3⟩,hdst,hgd,hos,hcc,hncl,hrf,hres,hnt⟩:=hd.ex
 unfold dexec at h
 split at h
 ·rename_i s1 hx1
  have hlen:cv.length = vs.size:=by simpa using hcv.length
  obtain ⟨hr0,hn0⟩:=hc.rel.cellsOnly
  let a0:Act:={ tmps:=vs ++ Array.replicate (df.ntmps - vs.size) undef,defers:=[]}
  have hc0:Cfg P gl G.cellsOnly s.h (cv.map AVal.dim ++ List.replicate (d.ntmps - cv.length) (.tup [])) a0 w:=by
   refine ⟨hr0,TRel.start ?_ fun z hz=>?_⟩
   ·simp only [a0,Array.toList_append,Array.toList_replicate]
    refine VRelL.append hcv.dims ?_
    rw [hnt,hlen]
    exact VRelL.replicate _ (by simp [VRel,VRelL,undef])
   ·rcases List.mem_append.1 hz with hz | hz
    ·obtain ⟨q,_,rfl⟩:=List.mem_map.1 hz;exact dim_dim q
    ·rw [(List.mem_replicate.1 hz).2];rfl
  have body:∀(cs':List Frame) (vv:Value) (c₀:Frame) (cs:List Frame) (u':FrameMode),G.V v vv→cs' = { c₀ with mode:=u'} :: cs→settle u' = .returning→
    x = .ret∧s'.t = s.t∧wpOpsSIn (FR none) m P ops (Exit.thenS (c.wpSIn (FR none) m P (bodyPostS P df c₀ cs R)) (bodyPostS P df c₀ cs R)) (List.range' 1 os.length) (a0.put (some d.k) vv) cs' w:=by
   intro cs' vv c₀ cs u' hvv hcs hset
   have hc1:=hc0.put (some d.k) (x:=v.dim) (v:=vv) (dim_rel hvv) (dim_dim v)
   have hl:=lays_of_mapM os 1 d.ops (fun j=>by
    have:ops[1 + j]? = ops.toList[1 + j]?:=by simp
    rw [this,hops,Nat.add_comm]
    simp) hos
   obtain ⟨_,r2,r3⟩:=opsS_sound (cs:=cs') (m:=m) _ d.ops hl hncl G.cellsOnly w s.h _ false (a0.put (some d.k) vv) [] hc1 ProvOK.nil hx1
   have key:∀x2 s2,exec n s.h.length call d.code s1 = some (x2,s2)→(x2 = .nor∨x2 = .ret)→some (Ex.ret,({ s with h:=s2.h,e:=s.e || s2.e}:St)) = some (x,s')→
     x = .ret∧s'.t = s.t∧wpOpsSIn (FR none) m P ops (Exit.thenS (c.wpSIn (FR none) m P (bodyPostS P df c₀ cs R)) (bodyPostS P df c₀ cs R)) (List.range' 1 os.length) (a0.put (some d.k) vv) cs' w:=by
    intro x2 s2 hx2 hxx he
    cases he
    refine ⟨rfl,rfl,r3 _ fun a1 w1 G1 e1 c1 d1=>?_⟩
    have hd1:a1.defers = []:=by rw [d1,put_defers]
    refine wpSIn_of_wpIn rfl (wpIn_mono (exec_sound hmx hcall hk (N:=n) (base:=s.h.length) (lo:=w.heap.size) (rf:=true) (fx:=[]) (ro:=none) (m:=m) c d.code hcc (fun _=>hrf) G1 w1 s1 a1 x2 s2 c1 r2 (fun _ hq=>by cases hq)
     ⟨[],by rw [hd1];rfl,⟨List.nodup_nil,fun _ h=>by cases h⟩,fun _=>rfl⟩ e1.size hx2) fun e a2 w2 hfin=>?_)
    obtain ⟨G2,g1,⟨ms,hms,_,hms0⟩,g3⟩:=hfin
    have hdf:a2.defers = []:=by rw [hms,hms0 rfl];rfl
    have fin:Cfg P gl G2 s2.h s2.t a2 w2→a2.defers = []∧∃u',cs' = { c₀ with mode:=u'} :: cs∧∃r,(results df a2.tmps).run P w2 = .ok r w2∧R (.returned r) u' w2:=by
     intro c2
     have hext:Ext s.h.length G.cellsOnly w G2.cellsOnly w2:=(e1.trans r2 g1).cellsOnly
     obtain ⟨b1,b2,b3⟩:=call_back hc hext c2.rel.cellsOnly.1
     refine ⟨hdf,u',hcs,.tuple #[],?_,hR _ _ _ _ hset b1 ⟨b2,b3⟩⟩
     unfold results
     rw [hres]
     simp
    rcases hxx with rfl | rfl
    ·obtain ⟨rfl,g3⟩:=g3;exact fin g3
    ·obtain ⟨rfl,g3⟩:=g3;exact fin g3
   split at h
   ·rename_i s2 hx2;exact key _ s2 hx2 (.inl rfl) h
   ·rename_i s2 hx2;exact key _ s2 hx2 (.inr rfl) h
   ·cases h
  have hrange:List.range ops.size = 0 :: List.range' 1 os.length:=by
   have:ops.size = os.length + 1:=by rw [←Array.length_toList,hops];rfl
   rw [this,List.range_eq_range',List.range'_succ]
  have ho0:ops[0]? = some o0:=by
   have:ops[0]? = ops.toList[0]?:=by simp
   rw [this,hops]
   rfl
  have hrec:(execOp a0.eval o0).run P w = .ok .recover w:=by
   simp [execOp,hcl1,resolve,hcl2,hcl3,invoke,builtin]
  have main:∀(c₀:Frame) (cs:List Frame),c₀.mode = u→x = .ret∧s'.t = s.t∧(Code.seq (.region id ops false) c).wpSIn (FR none) m P (bodyPostS P df c₀ cs R) a0 (c₀ :: cs) w:=by
   intro c₀ cs hmode
   have fin:∀(cs':List Frame) (vv:Value),(match recoverD (c₀ :: cs) with | some (v,cs')=>(v,cs') | none=>(.nilIface,c₀ :: cs)) = (vv,cs')→
     wpOpsSIn (FR none) m P ops (Exit.thenS (c.wpSIn (FR none) m P (bodyPostS P df c₀ cs R)) (bodyPostS P df c₀ cs R)) (List.range' 1 os.length) (a0.put (some d.k) vv) cs' w→
     (Code.seq (.region id ops false) c).wpSIn (FR none) m P (bodyPostS P df c₀ cs R) a0 (c₀ :: cs) w:=by
    intro cs' vv hre hW
    refine wpSIn_seq (wpSIn_region ?_)
    rw [hrange]
    simp only [wpOpsSIn,ho0]
    refine ⟨fun _ _=>trivial,?_⟩
    rw [if_pos (by simp [Region.wanted,hgd]),hrec]
    simp only
    rw [hdst]
    cases hrd:recoverD (c₀ :: cs) with
    | none=>rw [hrd] at hre;cases hre;exact hW
    | some p=>obtain ⟨p1,p2⟩:=p;rw [hrd] at hre;cases hre;exact hW
   rcases hu with ⟨rfl,rfl⟩ | ⟨vv,rfl,hvv⟩
   ·obtain ⟨q1,q2,q3⟩:=body (c₀ :: cs) .nilIface c₀ cs .returning (by simp [Ghost.V,VRel]) (by rw [←hmode]) rfl
    exact ⟨q1,q2,fin _ _ (by simp [recoverD,hmode]) q3⟩
   ·obtain ⟨q1,q2,q3⟩:=body ({ c₀ with mode:=.panicking [{ v:=vv,recovered:=true}]} :: cs) vv c₀ cs (.panicking [{ v:=vv,recovered:=true}]) hvv rfl rfl
    exact ⟨q1,q2,fin _ _ (by simp [recoverD,hmode]) q3⟩
  have m0:=main { (default:Frame) with mode:=u} [] rfl
  exact ⟨m0.1,m0.2.1,callsDIn_of_wpSIn hf hbody trivial fun c₀ cs hmode=>(main c₀ cs hmode).2.2⟩
 ·cases h
end
end Go.AE
namespace Go.AE
section
variable {P:Program} {gl:Nat→Option (List AVal)}
theorem leaves_marksF {G' G0:Ghost} {w0:World} {h:List ABox} {t:List AVal} {n:Nat} {fn:Func} {ts:Array Value} {R:Ending→World→Prop} {F:Fence} {m:Nat} {u:FrameMode} (hu:u ≠ .run) {fx:List Deferred}:∀(ds:List Deferred) (w':World),
  Marks G' w' w0.heap.size ds→Ext n G0 w0 G' w'→Rel P gl G' h w'→TRel G' w' t ts→(∀w'',Ext n G0 w0 G' w''→Rel P gl G' h w''→TRel G' w'' t ts→LeavesInM F m P fn ts R fx u w'')→LeavesInM F m P fn ts R (ds ++ fx) u w'
 | [],w',_,he,hr,ht,hR=>hR w' he hr ht
 | d :: ds,w',hm,he,hr,ht,hR=>by
  obtain ⟨r,rfl,h1,h2,h3⟩:=hm.all d (List.mem_cons_self ..)
  refine ⟨hu,.inl ⟨r,w'.putObj r (.deferred none),rfl,run_takeDeferred h2,?_⟩⟩
  have hnd:=List.nodup_cons.1 hm.nodup
  refine leaves_marksF hu ds _ ⟨hnd.2,fun d hd=>?_⟩ (he.putFar h1 _) (hr.putFar h3 fun k=>by simp [World.cell?,h2]) (ht.putFar h3) hR
  obtain ⟨r',g1,g2,g3,g4⟩:=hm.all d (List.mem_cons_of_mem _ hd)
  refine ⟨r',g1,g2,?_,g4⟩
  rw [World.putObj_heap_other]
  ·exact g3
  ·rintro rfl
   rw [g1] at hd
   exact hnd.1 hd
theorem gbody_sound (hmx:P.follows .mixedOrders = true) {call:AE.Call} (hcall:CallOK P gl call) (hk:CallKeeps call) {df pf:Func} {d:DFunc} (hd:DWas P gl df d) {N base n0 m:Nat} {G0:Ghost} {w0:World} {R:Ending→World→Prop} {x:Ex} {s':St} :
  ∀ (gb : GBody) (c : Code), compG P gl c = some gb → P.funcs[gb.fid]? = some df → (df.name == "runtime.NumGoroutine") = false → ∀ (G : Ghost) (w : World) (s : St) (a : Act), Cfg P gl G s.h s.t a w → base ≤ s.h.length → a.defers = [] → w0.heap.size ≤ w.heap.size → n0 ≤ s.h.length → Ext n0 G0 w0 G w →
   gexec N base call d gb s = some (x,s')→
   (∀G' w' a',(x = .nor∨x = .ret)→Ext n0 G0 w0 G' w'→Cfg P gl G' s'.h s'.t a' w'→LeavesIn (FR none) m P pf a'.tmps R [] .returning w')→
   (∀pv v G' w' a',x = .pan pv→Ext n0 G0 w0 G' w'→Cfg P gl G' s'.h s'.t a' w'→G'.V pv v→R (.panicked [{ v,recovered:=false}]) w')→
   c.wpIn (FR none) m P (bodyPostM (FR none) m P pf R) a w:=by
 intro gb
 induction gb with
 | pre ac r ih=>
  intro c hcomp hf hname G w s a hc hb hdf hlo hn he hrun hret hpan
  cases c <;> simp only [compG,reduceCtorEq] at hcomp
  rename_i a1 b1
  split at hcomp
  ·rename_i f caps t hdc
   obtain ⟨z,_,hz⟩:=mapO hcomp
   cases hz
  ·split at hcomp
   ·rename_i x1 r1 hx1 hr1
    split at hcomp
    ·rename_i hrf
     cases hcomp
     have hW:=fun x2 s2 hx2=>exec_sound hmx hcall hk (N:=N) (base:=base) (lo:=w0.heap.size) (rf:=true) (fx:=[]) (ro:=none) (m:=m) a1 ac hx1 (fun _=>hrf) G w s a x2 s2 hc hb (fun _ hq=>by cases hq)
      ⟨[],by rw [hdf];rfl,⟨List.nodup_nil,fun _ h=>by cases h⟩,fun _=>rfl⟩ hlo hx2
     simp only [gexec] at hrun
     split at hrun
     ·rename_i s1 hs1
      have hkeep:=(exec_keeps (base:=base) hk N ac s s1 _ hb hs1).1
      refine wpIn_seq (wpIn_mono (hW _ s1 hs1) fun e a' w' hfin=>?_)
      obtain ⟨G',g1,⟨ms,hms,_,hms0⟩,rfl,g4⟩:=hfin
      have hd0:a'.defers = []:=by rw [hms,hms0 rfl];rfl
      exact ih b1 hr1 hf hname G' w' s1 a' g4 (Nat.le_trans hb hkeep) hd0 (Nat.le_trans hlo g1.size) (Nat.le_trans hn hkeep) (he.trans hn g1) hrun hret hpan
     ·cases hrun
     ·rename_i r2 h1 h2
      refine wpIn_seq (wpIn_mono (hW x s' hrun) fun e a' w' hfin=>?_)
      obtain ⟨G',g1,⟨ms,hms,_,hms0⟩,g3⟩:=hfin
      have hd0:a'.defers = []:=by rw [hms,hms0 rfl];rfl
      cases x with
      | nor=>exact absurd hrun (h1 s')
      | exit id=>exact absurd hrun (h2 id s')
      | ret=>
       obtain ⟨rfl,g3⟩:=g3
       show LeavesInM _ _ _ _ _ _ _ _ _
       rw [hd0]
       exact hret G' w' a' (.inr rfl) (he.trans hn g1) g3
      | pan pv=>
       obtain ⟨v,rfl,g3,g4⟩:=g3
       show LeavesInM _ _ _ _ _ _ _ _ _
       rw [hd0]
       exact hpan pv v G' w' a' rfl (he.trans hn g1) g3 g4
    ·cases hcomp
   ·cases hcomp
 | dfr f caps slot rest=>
  intro c hcomp hf hname G w s a hc hb hdf hlo hn he hrun hret hpan
  change P.funcs[f]? = some df at hf
  cases c <;> simp only [compG,reduceCtorEq] at hcomp
  rename_i a1 b1
  split at hcomp
  ·rename_i f' caps' t hdc
   obtain ⟨z,hz,hze⟩:=mapO hcomp
   cases hze
   obtain ⟨id,ops,o0,o1,a0,cs,cl,rfl,rfl,k1,rfl,k3,k4,k5,k6,k7,k8,k9,k10⟩:=dfr_was hdc
   refine wpIn_seq (wpIn_region ?_)
   have hrange:List.range (#[o0,o1]:Array Oper).size = [0,1]:=rfl
   rw [hrange]
   simp only [wpOpsIn,List.getElem?_toArray,List.getElem?_cons_zero,List.getElem?_cons_succ]
   rw [if_pos (by simp [Region.wanted,k4])]
   have hcomp0:compOp P gl o0 = some (.mkF f [] caps):=by
    simp only [compOp,compHx,compOp0,k1,k10]
    rfl
   have hrun0:runOp base call [] o0.dst (.mkF f [] caps) s = some (.nor,{ s with t:=put (some slot) (.fn f [] (caps.map (ev s.t))) s.t}):=by
    simp [runOp,pureV,k3]
   refine op_sound hcall hk hc ProvOK.nil hcomp0 hrun0 (fun _ u1 w1 G1 e1 c1 _ _ _=>?_) (fun pv h=>by cases h)
   rw [k3] at c1 ⊢
   rw [if_pos (by simp [Region.wanted,k9])]
   simp only [gexec] at hrun
   split at hrun
   ·rename_i g cv hev
    split at hrun
    ·rename_i hgf
     subst hgf
     have hv:=ev_rel c1.rel c1.tr (x:=.tmp slot) (ax:=.t slot) rfl
     rw [hev] at hv
     simp only [Ghost.V,VRel,VRelL] at hv
     obtain ⟨x0,y0,hval,hx0,hy0⟩:=hv
     have hx0':x0 = #[]:=by apply Array.ext';simpa using hx0
     subst hx0'
     let dd:Deferred:={ target:=.fn (.func g) y0,args:=#[]}
     refine ⟨fun _ _=>trivial,?_⟩
     have hsem:(o1.semAt (FR none).round (a.put (some slot) u1).eval).run P w1 = .ok (.defer dd) w1:=by
      show (Oper.semAt none _ _).run P w1 = _
      rw [Oper.semAt_none]
      simp only [execOp,k5,resolve,k6,k7,hval]
      simp [Deferred.ofValue,Sem.run_bind,Result.andThen,dd]
     rw [hsem,Oper.uponIn_defer,k8]
     show (Code.wpIn (FR none) m P b1 (bodyPostM (FR none) m P pf R)) { tmps:=(a.put (some slot) u1).tmps,defers:=dd :: a.defers} w1
     rw [hdf]
     have hlen1:n0 ≤ ({ s with t:=put (some slot) (.fn g [] (caps.map (ev s.t))) s.t}:St).h.length:=hn
     have he1:Ext n0 G0 w0 G1 w1:=he.trans hn e1
     have c2:Cfg P gl G1 s.h (put (some slot) (.fn g [] (caps.map (ev s.t))) s.t) { tmps:=(a.put (some slot) u1).tmps,defers:=[] ++ [dd]} w1:=⟨c1.rel,c1.tr⟩
     have hW:=fun x2 s2 hx2=>exec_sound hmx hcall hk (N:=N) (base:=base) (lo:=w0.heap.size) (rf:=false) (fx:=[dd]) (ro:=none) (m:=m) b1 rest hz (fun h=>by cases h) G1 w1 { s with t:=put (some slot) (.fn g [] (caps.map (ev s.t))) s.t}
      { tmps:=(a.put (some slot) u1).tmps,defers:=[] ++ [dd]} x2 s2 c2 hb (fun _ hq=>by cases hq) ⟨[],rfl,⟨List.nodup_nil,fun _ h=>by cases h⟩,fun h=>by cases h⟩ he1.size hx2
     have tail:∀(s2:St) (v:AVal) (u:FrameMode) (G2:Ghost) (w2:World) (a2:Act),s.h.length ≤ s2.h.length→Ext s.h.length G1 w1 G2 w2→MarksF G2 w2 w0.heap.size false [dd] a2.defers→Cfg P gl G2 s2.h s2.t a2 w2→u ≠ .run→Mode G2 u v→
       dexec N call d v cv s2 = some (x,s')→LeavesInM (FR none) m P pf a2.tmps R a2.defers u w2:=by
      intro s2 v u G2 w2 a2 hkeep he2 hmk c3 hur hmode hdx
      obtain ⟨ms,hms,hmk,_⟩:=hmk
      rw [hms]
      refine leaves_marksF (G0:=G0) (w0:=w0) (n:=n0) hur ms w2 hmk (he1.trans hn he2) c3.rel c3.tr fun w3 q1 q2 q3=>?_
      have hcv:G2.VL cv y0.toList:=he2.VL hy0
      refine ⟨hur,.inr ⟨FR_depth,.func g,y0,g,y0,rfl,?_,fun _ _=>trivial,?_⟩⟩
      ·simp only [dd,invoke]
       have:=hd.ex
       obtain ⟨id',ops',o0',os',c',hbody',_⟩:=this
       have:=callFunc_enter (vs:=#[] ++ y0) (w:=w3) hf hname hbody'
       simpa using this
      ·have c4:Cfg P gl G2 s2.h s2.t { a2 with defers:=[]} w3:=⟨q2,q3⟩
       refine (dcall_sound hmx hcall hk hf hd hdx c4 hcv hmode fun r u' G3 w4 r1 r2 r3=>?_).2.2
       obtain ⟨hxr,hst,_⟩:=dcall_sound (m:=m) (R:=fun _ _ _=>True) hmx hcall hk hf hd hdx c4 hcv hmode fun _ _ _ _ _ _ _=>trivial
       show LeavesInM _ _ _ _ _ _ _ _ _
       rw [r1]
       exact hret G3 w4 { a2 with defers:=[]} (.inr hxr) (q1.trans (Nat.le_trans hn hkeep) r2) r3
     split at hrun
     ·rename_i s2 hx2
      have hkeep:=(exec_keeps (base:=base) hk N rest { s with t:=put (some slot) (.fn g [] (caps.map (ev s.t))) s.t} s2 _ hb hx2).1
      refine wpIn_mono (hW _ s2 hx2) fun e a2 w2 hfin=>?_
      obtain ⟨G2,g1,g2,rfl,g3⟩:=hfin
      exact tail s2 _ .returning G2 w2 a2 hkeep g1 g2 g3 (by simp) (.inl ⟨rfl,rfl⟩) hrun
     ·rename_i s2 hx2
      have hkeep:=(exec_keeps (base:=base) hk N rest { s with t:=put (some slot) (.fn g [] (caps.map (ev s.t))) s.t} s2 _ hb hx2).1
      refine wpIn_mono (hW _ s2 hx2) fun e a2 w2 hfin=>?_
      obtain ⟨G2,g1,g2,rfl,g3⟩:=hfin
      exact tail s2 _ .returning G2 w2 a2 hkeep g1 g2 g3 (by simp) (.inl ⟨rfl,rfl⟩) hrun
     ·rename_i v s2 hx2
      have hkeep:=(exec_keeps (base:=base) hk N rest { s with t:=put (some slot) (.fn g [] (caps.map (ev s.t))) s.t} s2 _ hb hx2).1
      refine wpIn_mono (hW _ s2 hx2) fun e a2 w2 hfin=>?_
      obtain ⟨G2,g1,g2,vv,rfl,g3,g4⟩:=hfin
      exact tail s2 v (.panicking [{ v:=vv,recovered:=false}]) G2 w2 a2 hkeep g1 g2 g3 (by simp) (.inr ⟨vv,rfl,g4⟩) hrun
     ·cases hrun
    ·cases hrun
   ·cases hrun
  ·split at hcomp
   ·split at hcomp
    ·cases hcomp
    ·cases hcomp
   ·cases hcomp
theorem gcall_ok (hmx : P.follows .mixedOrders = true) {f : FuncId} {pf df : Func} {g : GFunc} (hf : P.funcs[f]? = some pf) (hname : (pf.name == "runtime.NumGoroutine") = false) (hcomp : compGuard P gl pf df = some g) (hdf : P.funcs[g.body.fid]? = some df)
  (hdname : (df.name == "runtime.NumGoroutine") = false) (N : Nat) : ExtOK P gl f (gcall N g) := by
 intro call hcall hk aS h r h' e' hrun G w vs hr hn hall
 unfold compGuard at hcomp
 split at hcomp
 ·rename_i c hbody
  split at hcomp
  ·rename_i b rs d hb hrs hd
   cases hcomp
   simp only at hdf
   refine .inl ⟨callFunc_enter hf hname hbody vs w,fun ro m=>FR_calls (m:=m) ?_⟩
   have hsize:vs.size = aS.length:=by have:=hall.length;simp at this ⊢;omega
   have hc0:Cfg P gl G h (aS.map AVal.dim ++ List.replicate (pf.ntmps - aS.length) (.tup [])) { tmps:=vs ++ Array.replicate (pf.ntmps - vs.size) undef,defers:=[]} w:=by
    refine ⟨hr,TRel.start ?_ fun z hz=>?_⟩
    ·simp only [Array.toList_append,Array.toList_replicate]
     refine VRelL.append hall.dims ?_
     rw [hsize]
     exact VRelL.replicate _ (by simp [VRel,VRelL,undef])
    ·rcases List.mem_append.1 hz with hz | hz
     ·obtain ⟨q,_,rfl⟩:=List.mem_map.1 hz;exact dim_dim q
     ·rw [(List.mem_replicate.1 hz).2];rfl
   refine callsIn_of_wp_marks (F:=FR none) hf hbody trivial ?_ rfl
   simp only [gcall] at hrun
   have main:∀x s,gexec N h.length call d b ⟨aS.map AVal.dim ++ List.replicate (pf.ntmps - aS.length) (.tup []),h,false⟩ = some (x,s)→
     ((x = .nor∨x = .ret)→∃vs',readRes s rs = some vs'∧leave h.length (.ret (oneRes vs')) s.h s.e = (r,h',e'))→(∀pv,x = .pan pv→leave h.length (.pan pv) s.h s.e = (r,h',e'))→
     c.wpIn (FR none) m P (bodyPostM (FR none) m P pf (Back P gl h.length G w r h')) { tmps:=vs ++ Array.replicate (pf.ntmps - vs.size) undef,defers:=[]} w:=by
    intro x s hx h1 h2
    have k:=gexec_keeps (base:=h.length) hk b ⟨_,h,false⟩ s _ (Nat.le_refl _) hx
    refine gbody_sound hmx hcall hk (compD_was hd) (n0:=h.length) (G0:=G) (w0:=w) b c hb hdf hdname G w ⟨_,h,false⟩ _ hc0 (Nat.le_refl _) rfl (Nat.le_refl _) (Nat.le_refl _) (Ext.refl _ G w) hx (fun G' w' a' hxx g1 g2=>?_) (fun pv v G' w' a' hxx g1 g2 g3=>?_)
    ·obtain ⟨vs',hres,hlv⟩:=h1 hxx
     obtain ⟨u,r1,r2⟩:=results_sound g2 hrs hres
     obtain ⟨rfl,G'',y1,y2,y3,y4⟩:=leave_back hr g1 g2.rel ⟨k.1,fun he=>(k.2 he).2⟩ hlv
     exact ⟨u,r1,_,G'',rfl,y1,y2,y3,y4 _ u (.inl rfl) r2⟩
    ·obtain ⟨rfl,G'',y1,y2,y3,y4⟩:=leave_back hr g1 g2.rel ⟨k.1,fun he=>(k.2 he).2⟩ (h2 pv hxx)
     exact ⟨pv,v,G'',rfl,rfl,y1,y2,y3,y4 _ v (.inr rfl) g3⟩
   split at hrun
   ·rename_i s hx
    split at hrun
    ·rename_i vs' hres
     exact main _ s hx (fun _=>⟨vs',hres,Option.some.inj hrun⟩) (fun _ h=>by cases h)
    ·cases hrun
   ·rename_i s hx
    split at hrun
    ·rename_i vs' hres
     exact main _ s hx (fun _=>⟨vs',hres,Option.some.inj hrun⟩) (fun _ h=>by cases h)
    ·cases hrun
   ·rename_i v s hx
    exact main _ s hx (fun h=>by rcases h with h | h <;> cases h) (fun pv h=>by cases h;exact Option.some.inj hrun)
   ·cases hrun
  ·cases hcomp
 ·cases hcomp
end
end Go.AE
namespace Go.AE
section
variable {P:Program} {gl:Nat→Option (List AVal)}
noncomputable def Ghost.start (gl:Nat→Option (List AVal)) (W:World):Ghost:={ γ:=fun _=>none,imm:=fun b o=>match gl b with | some cs=>if 0 < cs.length∧o = cs.length then some mark else clean (W.cell? ⟨b,o,none⟩) | none=>none,ow:=fun _=>none}
def Told (gl:Nat→Option (List AVal)) (W:World):Prop:=∀g cs,gl g = some cs→lowerL 0 cs = true∧∃vs:List Value,VRelL (fun _=>none) (fun _ _=>none) cs vs∧(∀(j:Nat) (v:Value),vs[j]? = some v→W.cell? ⟨g,j,none⟩ = some v)∧(0 < cs.length→∃c e,W.heap[g]? = some (.cells c e (0,0))∧cs.length = c.size)
theorem tab_is {G:Ghost} {h:List ABox} {w:World} (hr:Rel P gl G h w) {name:String} {g:Nat} (hg:P.globalNamed name = some g) {k:IntKind} {zs:List Int} (hgl:gl g = some (zs.map fun z=>.int k z)) (h0:0 < zs.length) :
  w.var? P name = some (zs.map fun z=>Value.int k z).toArray:=by
 obtain ⟨⟨h1,h2⟩,_⟩:=hr.glob g _ hgl
 obtain ⟨_,c,e,h3,h4⟩:=hr.immK g _ (h2 (by simpa using h0))
 have:c = (zs.map fun z=>Value.int k z).toArray:=by
  apply Array.ext'
  apply List.ext_getElem?
  intro i
  rw [List.length_map] at h4
  rcases Nat.lt_or_ge i zs.length with hi | hi
  ·obtain ⟨v,k1,k2⟩:=h1.get (i:=i) (c:=.int k zs[i]) (by simp [hi])
   simp only [VRel] at k2
   subst k2
   have:=(hr.imm _ _ _ k1 (by simp [mark])).1
   rw [Nat.zero_add] at this
   simp only [World.cell?,h3] at this
   simpa [hi] using this
  ·simp [Array.getElem?_eq_none (show c.size ≤ i by omega),hi]
 subst this
 simp [World.var?,hg,h3]
def litV {H:Type}:DataW H→Option AVal
 | .lit (.int k z)=>some (.int k z)
 | .lit (.string s)=>some (.str s)
 | .lit (.bool b)=>some (.bool b)
 | _=>none
theorem lit_trod {H:Type} {enc:TypeId×Value→H} {w:World} {base:Nat} {sp:Nat→Bool} {held:Bool} {fuel:Nat} {e:TypeId} {cs:List Value} {x:DataW H×List MemPlace} {a:AVal}
  (he:(∃k,P.underlying e = some (.int k))∨P.underlying e = some .string) (h:DataW.trod enc P w base sp held fuel e cs = some x) (ha:litV x.1 = some a):∃v,cs = [v]∧VRel (fun _=>none) (fun _ _=>none) a v:=by
 rcases he with ⟨k,he⟩ | he
 ·obtain ⟨n,rfl,rfl,_⟩:=DataW.trod_int he h
  simp only [litV,Option.some.injEq] at ha
  subst ha
  exact ⟨_,rfl,by simp [VRel]⟩
 ·obtain ⟨s,rfl,rfl,_⟩:=DataW.trod_string he h
  simp only [litV,Option.some.injEq] at ha
  subst ha
  exact ⟨_,rfl,by simp only [VRel];exact ⟨s,rfl,rfl⟩⟩
theorem mapM_len {α β:Type} {f:α→Option β}:∀{l:List α} {r:List β},l.mapM f = some r→r.length = l.length
 | [],r,h=>by simp at h;subst h;rfl
 | x :: l,r,h=>by
  simp only [List.mapM_cons,Option.bind_eq_bind,Option.bind_eq_some_iff,Option.pure_def,Option.some.injEq] at h
  obtain ⟨b,_,r',hr',rfl⟩:=h
  simp [mapM_len hr']
theorem told_array {laid:List (String×DataW Unit)} {W:World} (hL:laidMet P laid W) {name:String} {ds:List (DataW Unit)} (hm:(name,DataW.agg ds) ∈ laid) {g:Nat} (hg:P.globalNamed name = some g) {t e:TypeId} {n:Nat} (ht:(P.globals[g]?).map (·.type) = some t)
  (hu:P.underlying t = some (.array n e)) (he:(∃k,P.underlying e = some (.int k))∨P.underlying e = some .string) (hc:P.cellsOf e = 1) (hct:P.cellsOf t = n) {aS:List AVal} (has:ds.mapM litV = some aS) :
  lowerL 0 aS = true∧∃vs:List Value,VRelL (fun _=>none) (fun _ _=>none) aS vs∧(∀(j:Nat) (v:Value),vs[j]? = some v→W.cell? ⟨g,j,none⟩ = some v)∧(0 < aS.length→∃c e,W.heap[g]? = some (.cells c e (0,0))∧aS.length = c.size):=by
 obtain ⟨ps,hv,hnd,hrest⟩:=hL
 clear hnd
 replace hrest:=fun b off h=>(hrest b off h).1
 induction laid generalizing ps with
 | nil=>cases hm
 | cons x laid ih=>
  obtain ⟨nx,dx⟩:=x
  obtain ⟨g',t',cs,fuel,p,q,hg',ht',hvar,hd,hq,hps⟩:=hv
  rcases List.mem_cons.1 hm with hm | hm
  ·cases hm
   obtain rfl:=Option.some.inj (hg.symm.trans hg')
   obtain rfl:=Option.some.inj (ht.symm.trans ht')
   obtain ⟨xs,m,_,hx,hcl,hxl,hel⟩:=DataW.trod_array hu hd
   have hds:xs.map (·.1) = ds:=(DataW.agg.inj (Prod.mk.inj hx).1).symm
   have key:∀(i:Nat) (a:AVal),aS[i]? = some a→∃v,cs[i]? = some v∧VRel (fun _=>none) (fun _ _=>none) a v:=by
    intro i a ha
    obtain ⟨d,hd1,hd2⟩:=mapM_get has i a ha
    rw [←hds,List.getElem?_map,Option.map_eq_some_iff] at hd1
    obtain ⟨y,hy,rfl⟩:=hd1
    have hi:i < n:=by rw [←hxl];exact (List.getElem?_eq_some_iff.1 hy).1
    have h1:=hel i hi
    rw [hy,hc,Nat.mul_one] at h1
    obtain ⟨v,hv1,hv2⟩:=lit_trod he h1 hd2
    have h0:((cs.toList.drop i).take 1)[0]? = some v:=by rw [hv1];rfl
    exact ⟨v,by simpa using h0,hv2⟩
   refine ⟨lowerL_of fun a ha=>?_,aS.mapIdx (fun i _=>cs.getD i undef),VRelL.of_get (by simp) fun i a v ha hv=>?_,fun j v hv=>?_,fun h0=>?_⟩
   ·obtain ⟨i,hi⟩:=List.getElem?_of_mem ha
    obtain ⟨v,_,hr⟩:=key i a hi
    exact V_lower (n:=0) (fun _ _ h=>by cases h) a v hr
   ·obtain ⟨u,hu1,hu2⟩:=key i a ha
    rw [List.getElem?_mapIdx,ha] at hv
    simp only [Option.map_some,Option.some.injEq] at hv
    rw [Array.getD_eq_getD_getElem?,hu1] at hv
    simp only [Option.getD_some] at hv
    rw [←hv]
    exact hu2
   ·rw [World.var?_cell hg hvar j]
    rw [List.getElem?_mapIdx] at hv
    cases ha:aS[j]? with
    | none=>rw [ha] at hv;cases hv
    | some a=>
     obtain ⟨u,hu1,_⟩:=key j a ha
     rw [ha] at hv
     simp only [Option.map_some,Option.some.injEq] at hv
     rw [Array.getD_eq_getD_getElem?,hu1] at hv
     simp only [Option.getD_some] at hv
     rw [←hv]
     exact hu1
   ·have hal:aS.length = n:=by
     rw [mapM_len has,←hds,List.length_map,hxl]
    rw [hct,Array.length_toList] at hcl
    obtain ⟨c,e',hh⟩:=hrest g 0 (by
     rw [hps]
     refine List.mem_append_left _ (List.mem_append_left _ ?_)
     exact MemPlace.mem_row.2 ⟨0,by omega,rfl⟩)
    refine ⟨c,e',hh,?_⟩
    have:c = cs:=by
     have q:=hvar
     simp only [World.var?,hg,Option.bind_some,hh,Option.some.injEq] at q
     exact q
    rw [this]
    omega
  ·exact ih hm q hq fun b off h=>hrest b off (by rw [hps];exact List.mem_append_right _ h)
end
end Go.AE
namespace Go.AE
section
variable {P:Program} {gl:Nat→Option (List AVal)}
theorem progOK_of {T : FTree} (hT : T.All fun i v => ∃ pf, P.funcs[i]? = some pf ∧ compFunc P gl pf = some v ∧ (pf.name == "runtime.NumGoroutine") = false) : ProgOK P gl T.get := fun f fn h => by
 obtain ⟨pf,h1,h2,h3⟩:=FTree.get_all hT h
 unfold compFunc at h2
 split at h2
 ·cases h2
 ·rename_i c hb
  split at h2
  ·rename_i code rs e1 e2
   cases h2
   exact ⟨pf,c,h1,h3,hb,e1,e2,rfl⟩
  ·cases h2
theorem told_nil {W:World} {g:Nat}:lowerL 0 [] = true∧∃vs:List Value,VRelL (fun _=>none) (fun _ _=>none) [] vs∧(∀(j:Nat) (v:Value),vs[j]? = some v→W.cell? ⟨g,j,none⟩ = some v)∧(0 < ([]:List AVal).length→∃c e,W.heap[g]? = some (.cells c e (0,0))∧([]:List AVal).length = c.size):=
 ⟨rfl,[],by simp [VRelL],fun j v h=>by simp at h,fun h=>by simp at h⟩
end
end Go.AE
namespace Go.AE
def closedX:Call→List AVal→List ABox→Option (CRes×List ABox×Bool):=fun _ aS h=>
 match aS with
 | []=>some (.ret (.bool true),h,false)
 | _=>none
def wbX (T E:Nat):Call→List AVal→List ABox→Option (CRes×List ABox×Bool):=fun _ aS h=>
 match aS with
 | [.ptr id 0,.int .u8 c]=>match h[id]? with
  | some (.bld t e s)=>bif (Nat.beq t T && Nat.beq e E) && ((ile 0 c && ile c 255) && Nat.ble s.length limit) then some (.ret .niliface,h.set id (.bld t e (s ++ [c.toNat.toUInt8])),false) else none
  | _=>none
 | _=>none
def wsX (T E:Nat):Call→List AVal→List ABox→Option (CRes×List ABox×Bool):=fun _ aS h=>
 match aS with
 | [.ptr id 0,.str u]=>match h[id]? with
  | some (.bld t e s)=>bif (Nat.beq t T && Nat.beq e E) && Nat.ble (s.length + u.length) limit then some (.ret (.tup [.int .i64 (u.length:Nat),.niliface]),h.set id (.bld t e (s ++ u)),false) else none
  | _=>none
 | _=>none
def stX (T E:Nat):Call→List AVal→List ABox→Option (CRes×List ABox×Bool):=fun _ aS h=>
 match aS with
 | [.ptr id 0]=>match h[id]? with
  | some (.bld t e s)=>bif (Nat.beq t T && Nat.beq e E) && !s.isEmpty then some (.ret (.str s),h,false) else none
  | _=>none
 | _=>none
def itX:Call→List AVal→List ABox→Option (CRes×List ABox×Bool):=fun _ aS h=>
 match aS with
 | [.int .i64 n]=>bif ile (-9223372036854775808) n && ile n 9223372036854775807 then some (.ret (.str (Lib.itoa n)),h,false) else none
 | _=>none
def strsOf:List AVal→Option (List (List UInt8))
 | []=>some []
 | .str s :: xs=>(strsOf xs).map (s :: ·)
 | _=>none
def jnX:Call→List AVal→List ABox→Option (CRes×List ABox×Bool):=fun _ aS h=>
 match aS with
 | [.lst (x :: xs) _,.str sep]=>match strsOf (x :: xs) with
  | some l=>bif Nat.ble (Lib.join l sep).length limit && Nat.ble l.length limit then some (.ret (.str (Lib.join l sep)),h,false) else none
  | none=>none
 | [.sl id 0 len _ _,.str sep]=>match h[id]? with
  | some (.cells cs)=>match strsOf (cs.take len) with
   | some l=>bif Nat.ble (Lib.join l sep).length limit && (Nat.beq l.length len && Nat.ble len limit) then some (.ret (.str (Lib.join l sep)),h,false) else none
   | none=>none
  | _=>none
 | _=>none
end Go.AE
namespace Go.AE
noncomputable def getA (t:List AVal):Nat→AVal:=List.rec (motive:=fun _=>Nat→AVal) (fun _=>.undef) (fun a _ ih n=>Nat.rec (motive:=fun _=>AVal) a (fun m _=>ih m) n) t
noncomputable def setA (v:AVal) (t:List AVal):Nat→List AVal:=List.rec (motive:=fun _=>Nat→List AVal) (fun _=>[]) (fun a aS ih n=>Nat.rec (motive:=fun _=>List AVal) (v :: aS) (fun m _=>a :: ih m) n) t
theorem getA_eq:∀(t:List AVal) (i:Nat),getA t i = t.getD i .undef
 | [],_=>rfl
 | _ :: _,0=>rfl
 | _ :: t,i + 1=>getA_eq t i
theorem setA_eq (v:AVal):∀(t:List AVal) (i:Nat),setA v t i = t.set i v
 | [],_=>rfl
 | _ :: _,0=>rfl
 | a :: t,i + 1=>congrArg (a :: ·) (setA_eq v t i)
noncomputable def forceI (k:IntKind) (n:Int):AVal:=
 Int.rec (motive:=fun _=>AVal) (fun m=>Nat.rec (motive:=fun _=>AVal) (.int k (.ofNat 0)) (fun p _=>.int k (.ofNat (p + 1))) m) (fun m=>.int k (.negSucc m)) n
noncomputable def forceB (b:Bool):AVal:=Bool.rec (motive:=fun _=>AVal) (.bool false) (.bool true) b
noncomputable def dimF (v:AVal):AVal:=
 AVal.casesOn (motive_1:=fun _=>AVal) v .undef .bool .int .str .nilptr .ptr .iptr (fun xs f=>Flag.casesOn (motive:=fun _=>AVal) f (.lst xs .no) (.lst xs .full) (fun _=>.lst xs .no)) .nilfunc .fn .yld .niliface .iface .agg .tup .sl .mp .nilmap .nils .empt
noncomputable def forceV (v:AVal):AVal:=
 AVal.casesOn (motive_1:=fun _=>AVal) v .undef forceB forceI .str .nilptr .ptr .iptr .lst .nilfunc .fn .yld .niliface .iface .agg .tup .sl .mp .nilmap .nils .empt
theorem forceB_eq (b:Bool):forceB b = .bool b:=by cases b <;> rfl
theorem forceI_eq (k:IntKind) (n:Int):forceI k n = .int k n:=by
 cases n with
 | ofNat m=>cases m <;> rfl
 | negSucc m=>rfl
theorem dimF_eq:dimF = AVal.dim:=by
 funext v
 cases v <;> try rfl
 rename_i xs f
 cases f <;> rfl
theorem forceV_eq (v:AVal):forceV v = v:=by cases v <;> first | rfl | exact forceB_eq _ | exact forceI_eq _ _
noncomputable def setF (d:Nat) (v:AVal) (t:List AVal):List AVal:=
 AVal.casesOn (motive_1:=fun _=>List AVal) (forceV v) (setA .undef t d) (fun b=>setA (.bool b) t d) (fun k n=>setA (.int k n) t d) (fun x=>setA (.str x) t d) (setA .nilptr t d) (fun a b=>setA (.ptr a b) t d) (fun a b=>setA (.iptr a b) t d) (fun a b=>setA (.lst a b) t d)
  (setA .nilfunc t d) (fun a b c=>setA (.fn a b c) t d) (fun a=>setA (.yld a) t d) (setA .niliface t d) (fun a b=>setA (.iface a b) t d) (fun a=>setA (.agg a) t d) (fun a=>setA (.tup a) t d) (fun a b c e f=>setA (.sl a b c e f) t d) (fun a=>setA (.mp a) t d) (setA .nilmap t d) (setA .nils t d) (setA .empt t d)
theorem setF_eq (d:Nat) (v:AVal) (t:List AVal):setF d v t = t.set d v:=by
 unfold setF
 rw [forceV_eq]
 cases v <;> exact setA_eq _ _ _
noncomputable def rawF (t:List AVal):AOpd→AVal
 | .t i=>getA t i
 | .c v=>v
noncomputable def evF (t:List AVal) (x:AOpd):AVal:=dimF (rawF t x)
noncomputable def putF (dst:Option Nat) (v:AVal) (t:List AVal):List AVal:=
 match dst with
 | some d=>setF d v t
 | none=>t
noncomputable def drainedF (t:List AVal) (x:AOpd):List AVal:=
 match x with
 | .t i=>match getA t i with
  | .lst xs (.own _)=>t.set i (.lst xs .no)
  | _=>t
 | .c _=>t
theorem rawF_eq:rawF = raw:=by
 funext t x
 cases x
 ·exact getA_eq _ _
 ·rfl
theorem evF_eq:evF = ev:=by
 funext t x
 simp only [evF,ev,rawF_eq,dimF_eq]
theorem putF_eq:putF = put:=by
 funext d v t
 cases d
 ·rfl
 ·exact setF_eq _ _ _
theorem drainedF_eq:drainedF = drained:=by
 funext t x
 cases x
 ·simp only [drainedF,drained,getA_eq]
  rfl
 ·rfl
noncomputable def boundF (t:List AVal) (x:Option AOpd) (d:Nat):Option Nat:=
 match x with
 | none=>some d
 | some x=>match evF t x with
  | .int _ n=>if 0 ≤ n then some n.toNat else none
  | _=>none
noncomputable def pureVF (t:List AVal) (o:AOp):Option AVal:=
 match o with
 | .mov x=>some (evF t x)
 | .pick c a b=>match evF t c with
  | .bool true=>some (evF t a)
  | .bool false=>some (evF t b)
  | _=>none
 | .build zero parts=>(fillS zero (parts.map fun (o,s,x)=>(o,s,evF t x))).map .agg
 | .list k zero len parts=>
  if zero.length = k∧len * k ≤ 2 ^ 24 then
   match fillS ((List.replicate len zero).flatten) (parts.map fun (i,x)=>(i * k,k,evF t x)) with
   | some cs=>if cs.all AVal.storable then some (.lst ((List.range len).map fun i=>if k = 1 then (cs.getD i .undef) else .agg ((cs.drop (i * k)).take k)) .full) else none
   | none=>none
  else none
 | .nilc x=>match evF t x with
  | .ptr i o=>some (.ptr i o)
  | .iptr cs o=>some (.iptr cs o)
  | .fn f a b=>some (.fn f a b)
  | .yld l=>some (.yld l)
  | .iface u v=>some (.iface u v)
  | _=>none
 | .bin op x y=>binV op (evF t x) (evF t y)
 | .eqb neg x y=>match evF t x,evF t y with
  | .bool a,.bool b=>some (.bool ((a == b) != neg))
  | _,_=>none
 | .eqi k neg x y=>(nilV k (evF t x) (evF t y)).map fun b=>.bool (b != neg)
 | .eqa neg x y=>match evF t x,evF t y with
  | .agg a,.agg b=>(cellsEq a b).map fun r=>.bool (r != neg)
  | _,_=>none
 | .eqs sh neg x y=>(eqSh sh (evF t x) (evF t y)).map fun r=>.bool (r != neg)
 | .un op x=>unV op (evF t x)
 | .nls neg x=>match evF t x with
  | .sl ..=>some (.bool (false != neg))
  | .lst (_ :: _) _=>some (.bool (false != neg))
  | .nils=>some (.bool (true != neg))
  | .empt=>some (.bool (false != neg))
  | _=>none
 | .cvi k x=>match evF t x with
  | .int _ n=>some (.int k (k.wrap n))
  | _=>none
 | .cvs x=>match evF t x with
  | .str s=>some (.str s)
  | _=>none
 | .cvb x=>match evF t x with
  | .str s=>some (.lst (ints s) .no)
  | _=>none
 | .mkI ty x=>match evF t x with
  | .undef=>none
  | v=>some (.iface ty v)
 | .mkF f a b=>some (.fn f (a.map (evF t)) (b.map (evF t)))
 | .subS x lo hi=>match evF t x with
  | .str s=>match boundF t hi s.length with
   | some h=>match boundF t lo 0 with
    | some l=>if l ≤ h∧h ≤ s.length then some (.str ((s.drop l).take (h - l))) else none
    | none=>none
   | none=>none
  | _=>none
 | .subL k x lo hi=>match evF t x with
  | .lst xs f=>match boundF t hi xs.length with
   | some h=>match boundF t lo 0 with
    | some l=>
     if l ≤ h∧h ≤ xs.length then
      if xs.head?.all (fun y=>y.cells.length == k) then some (.lst ((xs.drop l).take (h - l)) (if h = xs.length then f else .no)) else none
     else none
    | none=>none
   | none=>none
  | .sl id o len cap more=>match boundF t hi len with
   | some h=>match boundF t lo 0 with
    | some l=>
     if l ≤ h∧h ≤ cap then
      if cap = l then (if more = 0 then some (.lst [] .full) else none) else (if more = 0∨more = k then some (.sl id (o + l * k) (h - l) (cap - l) more) else none)
     else none
    | none=>none
   | none=>none
  | _=>none
 | .fa off a=>match evF t a with
  | .ptr i o=>some (.ptr i (o + off))
  | .iptr cs o=>some (.iptr cs (o + off))
  | _=>none
 | .ixaL k s i=>match evF t s,evF t i with
  | .lst xs _,.int _ n=>
   if 0 ≤ n∧n < xs.length then
    match xs[n.toNat]? with
    | some x=>if x.cells.length = k then some (.iptr x.cells 0) else none
    | none=>none
   else none
  | .sl id o len _ _,.int _ n=>if 0 ≤ n∧n < len then some (.ptr id (o + n.toNat * k)) else none
  | _,_=>none
 | .ixaA len k a i=>match evF t a,evF t i with
  | .ptr b o,.int _ n=>if 0 ≤ n∧n < (len:Int) then some (.ptr b (o + n.toNat * k)) else none
  | .iptr cs o,.int _ n=>if 0 ≤ n∧n < (len:Int) then some (.iptr cs (o + n.toNat * k)) else none
  | _,_=>none
 | .ixS s i=>match evF t s,evF t i with
  | .str l,.int _ n=>if 0 ≤ n then (l[n.toNat]?).map fun b=>.int .u8 b.toNat else none
  | _,_=>none
 | .ixA len k a i=>match evF t a,evF t i with
  | .agg cs,.int _ n=>if 0 ≤ n∧n < (len:Int) then cut cs (n.toNat * k.getD 1) k else none
  | _,_=>none
 | .fld off k x=>match evF t x with
  | .agg cs=>cut cs off k
  | _=>none
 | .ext x i=>match evF t x with
  | .tup vs=>(vs[i]?).map AVal.dim
  | _=>none
 | .len true x=>match evF t x with
  | .str s=>some (.int .i64 s.length)
  | _=>none
 | .len false x=>match evF t x with
  | .lst xs _=>some (.int .i64 xs.length)
  | .sl _ _ len _ _=>some (.int .i64 len)
  | .nils=>some (.int .i64 0)
  | .empt=>some (.int .i64 0)
  | _=>none
 | .mm isMax x y=>match evF t x,evF t y with
  | .int k a,.int _ b=>some (.int k (if isMax then (if b > a then b else a) else (if b < a then b else a)))
  | _,_=>none
 | .tas ty zero x=>match evF t x with
  | .niliface=>some (.tup [zero,.bool false])
  | .iface u v=>if u = ty then some (.tup [v,.bool true]) else some (.tup [zero,.bool false])
  | _=>none
 | _=>none
noncomputable def takenF (k:Nat) (p:Prov) (x:AOpd) (s:St):Option (List AVal×St):=
 match x with
 | .c _=>none
 | .t i=>
  match rawF s.t (.t i) with
  | .lst xs (.own j)=>if j = k then some (xs,{ s with t:=s.t.set i (.lst xs .no)}) else none
  | _=>
   match p.find? (·.1 == i) with
   | some (_,.tmp b)=>
    match rawF s.t (.t b) with
    | .lst xs (.own j)=>if j = k then some (xs,{ s with t:=s.t.set b (.lst xs .no)}) else none
    | _=>none
   | some (_,.cell a)=>
    match evF s.t a with
    | .ptr id o=>
     match s.h[id]? with
     | some (.cells cs)=>
      match cs[o]? with
      | some (.lst xs (.own j))=>if j = k then some (xs,{ s with h:=s.h.set id (.cells (cs.set o (.lst xs .no)))}) else none
      | _=>none
     | _=>none
    | _=>none
   | none=>none
noncomputable def runOpF (base:Nat) (call:Call) (p:Prov) (dst:Option Nat) (o:AOp) (s:St):Option (Ex×St):=
 match o with
 | .asg x=>some (.nor,{ s with t:=putF dst (rawF s.t x) (drainedF s.t x)})
 | .new cs=>some (.nor,{ s with t:=putF dst (.ptr s.h.length 0) s.t,h:=s.h ++ [.cells (cs.map AVal.dim)]})
 | .box k x=>
  let vs:=(evF s.t x).cells.map AVal.dim
  if vs.length = k∧vs.all AVal.storable then some (.nor,{ s with t:=putF dst (.ptr s.h.length 0) s.t,h:=s.h ++ [.cells vs]}) else none
 | .ld k a=>(ldAt s.h (evF s.t a) k).map fun v=>(.nor,{ s with t:=putF dst v s.t})
 | .st k a x=>
  match evF s.t a with
  | .ptr id o=>
   match s.h[id]? with
   | some (.cells cs)=>
    let v:=rawF s.t x
    let vs:=match k with | none=>[v] | some _=>v.dim.cells.map AVal.dim
    if vs.length = k.getD 1∧o + vs.length ≤ cs.length∧vs.all AVal.storable then
     some (.nor,{ t:=putF dst .undef (drainedF s.t x),h:=s.h.set id (.cells (splice cs o vs)),e:=s.e || !(Nat.ble base id || lowerL (id + 1) vs)})
    else none
   | _=>none
  | _=>none
 | .call f args=>
  match call (evF s.t f) (args.map (evF s.t)) s.h with
  | some (.ret v,h,e)=>some (.nor,{ t:=putF dst v.dim s.t,h,e:=s.e || e})
  | some (.pan v,h,e)=>some (.pan v,{ s with h,e:=s.e || e})
  | none=>none
 | .app k x y=>
  match rawF s.t x,tail (evF s.t y) with
  | .lst xs f,some ys=>
   if ys.isEmpty then some (.nor,{ s with t:=putF dst (AVal.lst xs f).dim s.t})
   else if xs.length + ys.length ≤ limit∧ys.all (fun y=>y.cells.length == k && y.cells.all AVal.storable)∧xs.head?.all (fun y=>y.cells.length == k) then
    match f with
    | .full=>some (.nor,{ s with t:=putF dst (.lst (xs ++ ys) (.own k)) s.t})
    | _=>
     match takenF k p x s with
     | some (xs,s)=>if xs.head?.all (fun y=>y.cells.length == k) then some (.nor,{ s with t:=putF dst (.lst (xs ++ ys) (.own k)) s.t}) else none
     | none=>none
   else none
  | _,_=>none
 | .pan x=>match evF s.t x with
  | .iface u v=>some (.pan (.iface u v),s)
  | _=>none
 | .lk sh z ok m key=>(lkAt s.h sh z ok (evF s.t m) (evF s.t key)).map fun v=>(.nor,{ s with t:=putF dst v s.t})
 | .hx o aS=>(hop base o (aS.map (evF s.t)) s.h).map fun r=>(.nor,{ t:=putF dst r.1.dim s.t,h:=r.2.1,e:=s.e || r.2.2})
 | o=>(pureVF s.t o).map fun v=>(.nor,{ s with t:=putF dst v s.t})
noncomputable def wantedF (t:List AVal) (g:Option (Nat×Bool)):Option Bool:=
 match g with
 | none=>some true
 | some (j,b)=>match rawF t (.t j) with
  | .bool c=>some (c == b)
  | .tup []=>some false
  | _=>none
noncomputable def runOpsF (base:Nat) (call:Call):Prov→List AOper→St→Option (Ex×St)
 | _,[],s=>some (.nor,s)
 | p,o :: os,s=>
  match wantedF s.t o.guard with
  | some true=>
   match runOpF base call p o.dst o.op s with
   | some (.nor,s)=>runOpsF base call (provNext p o) os s
   | r=>r
  | some false=>runOpsF base call (provNext p { o with op:=.pick (.c .undef) (.c .undef) (.c .undef)}) os { s with t:=putF o.dst (.tup []) s.t}
  | none=>none
noncomputable def chkOfF (s:St) (o:AOp):Option Chk:=
 match o with
 | .ld k a=>(ldAt s.h (evF s.t a) k).map (.ld (evF s.t a) k)
 | .lk sh z ok m key=>(lkAt s.h sh z ok (evF s.t m) (evF s.t key)).map (.lk sh z ok (evF s.t m) (evF s.t key))
 | .new cs=>some (.box s.h.length (cs.map AVal.dim))
 | .box _ x=>some (.box s.h.length ((evF s.t x).cells.map AVal.dim))
 | _=>none
noncomputable def runDrawF (base:Nat) (call:Call) (dsts:List Nat):List DOper→List (Nat×Chk)→St→Option (Ex×St)
 | [],_,s=>some (.nor,s)
 | d :: ds,pend,s=>
  match wantedF s.t d.o.guard with
  | some true=>
   match runOpF base call [] d.o.dst d.o.op s with
   | some (.nor,s')=>
    if d.o.op.effs then
     let pend':=pend.filter fun c=>!d.cl.testBit c.1
     if pend'.all (fun c=>c.2.ok s'.h) then runDrawF base call dsts ds pend' s' else none
    else
     match chkOfF s d.o.op with
     | some c=>runDrawF base call dsts ds ((d.ix,c) :: pend) s'
     | none=>runDrawF base call dsts ds pend s'
   | some (.pan v,s')=>if d.o.op.effs then some (.pan v,{ s' with t:=mask dsts s'.t}) else none
   | _=>none
  | some false=>runDrawF base call dsts ds pend { s with t:=putF d.o.dst (.tup []) s.t}
  | none=>none
noncomputable def execF (n base:Nat) (call:Call):ACode→St→Option (Ex×St)
 | .skip,s=>some (.nor,s)
 | .reg ops,s=>runOpsF base call [] ops s
 | .draw ops,s=>runDrawF base call (ops.filterMap (·.o.dst)) ops [] s
 | .draw2 c a b r,s=>both a b (runDrawF base call ((c ++ a :: b :: r).filterMap (·.o.dst)) (c ++ [a,b]) [] s) (runDrawF base call ((c ++ a :: b :: r).filterMap (·.o.dst)) (c ++ a :: b :: r) [] s) (runDrawF base call ((c ++ a :: b :: r).filterMap (·.o.dst)) (c ++ b :: a :: r) [] s)
 | .seq a b,s=>match execF n base call a s with
  | some (.nor,s)=>execF n base call b s
  | r=>r
 | .cond c a b,s=>match evF s.t c with
  | .bool true=>execF n base call a s
  | .bool false=>execF n base call b s
  | _=>none
 | .block id b,s=>match execF n base call b s with
  | some (.exit j,s)=>if j = id then some (.nor,s) else some (.exit j,s)
  | r=>r
 | .loop b,s=>iter (execF n base call b) n s
 | .exit id,s=>some (.exit id,s)
 | .ret,s=>some (.ret,s)
 | .rfun f ps asg body,s=>
  match evF s.t f with
  | .fn g first cap=>
   match call (.fn g first cap) [.yld s.h.length] (s.h ++ [.loop (s.t.map AVal.dim) ps asg body .ready none]) with
   | some (.ret _,h,e)=>
    match h[s.h.length]? with
    | some (.loop t ps' asg' body' st pend)=>
     if st = .busy then none else
     let s':St:={ s with h:=h.set s.h.length (.loop t ps' asg' body' .exhausted pend),e:=s.e || e}
     match pend with
     | none=>some (.nor,s')
     | some .ret=>some (.ret,s')
     | some (.exit id)=>some (.exit id,s')
    | _=>none
   | some (.pan v,h,e)=>some (.pan v,{ s with h,e:=s.e || e})
   | none=>none
  | _=>none
noncomputable def readResF (s:St):List ARes→Option (List AVal)
 | []=>some []
 | .tmp i :: rs=>match readResF s rs with
  | some vs=>some (dimF (rawF s.t (.t i)) :: vs)
  | none=>none
 | .cell a k :: rs=>
  match ldAt s.h (rawF s.t (.t a)) k,readResF s rs with
  | some v,some vs=>some (v :: vs)
  | _,_=>none
noncomputable def roundF (n:Nat) (call:Call) (l:Nat) (args:List AVal) (h:List ABox):Option (CRes×List ABox×Bool):=
 match h[l]? with
 | some (.loop t ps asg body _ _)=>
  if args.length ≠ ps.length then none else
  let base:=h.length
  match execF n base call asg ⟨zips t ps (args.map AVal.dim),h,false⟩ with
  | some (.nor,s)=>
   match s.h[l]? with
   | some (.loop t1 ps1 asg1 body1 .ready pend)=>
    match execF n base call body { s with h:=s.h.set l (.loop t1 ps1 asg1 body1 .busy pend)} with
    | some (x,s)=>
     match s.h[l]? with
     | some (.loop t2 ps2 asg2 body2 _ _)=>
      match x with
      | .nor=>some (leave base (.ret (.bool true)) (s.h.set l (.loop t2 ps2 asg2 body2 .ready none)) s.e)
      | .ret=>some (leave base (.ret (.bool false)) (s.h.set l (.loop t2 ps2 asg2 body2 .done (some .ret))) s.e)
      | .exit id=>some (leave base (.ret (.bool false)) (s.h.set l (.loop t2 ps2 asg2 body2 .done (some (.exit id)))) s.e)
      | .pan _=>none
     | _=>none
    | none=>none
   | _=>none
  | _=>none
 | _=>none
noncomputable def runF (F:FuncId→Option AFunc) (X:Exts):Nat→Call
 | 0=>fun _ _ _=>none
 | n + 1=>fun fv args h=>
  match fv with
  | .fn f first cap=>
   match X f with
   | some g=>g (runF F X n) (first ++ args ++ cap) h
   | none=>
    match F f with
    | none=>none
    | some fn=>
     let aS:=(first ++ args ++ cap).map AVal.dim
     match execF n h.length (runF F X n) fn.code ⟨aS ++ List.replicate (fn.ntmps - aS.length) (.tup []),h,false⟩ with
     | some (.nor,s) | some (.ret,s)=>
      match readResF s fn.results with
      | some vs=>some (leave h.length (.ret (oneRes vs)) s.h s.e)
      | none=>none
     | some (.pan v,s)=>some (leave h.length (.pan v) s.h s.e)
     | _=>none
  | .yld l=>roundF n (runF F X n) l args h
  | _=>none
theorem boundF_eq:boundF = bound:=by
 funext t x d
 cases x <;> simp only [boundF,bound,evF_eq] <;> rfl
theorem pureVF_eq:pureVF = pureV:=by
 funext t o
 cases o <;> simp only [pureVF,pureV,evF_eq,boundF_eq] <;> first | rfl | (cases ‹Bool› <;> rfl)
theorem raw_tQ (t:List AVal) (i:Nat):raw t (.t i) = t.getD i .undef:=rfl
theorem takenF_eq:takenF = taken:=by
 funext k p x s
 cases x <;> simp only [takenF,taken,rawF_eq,raw_tQ,evF_eq] <;> rfl
theorem runOpF_eq:runOpF = runOp:=by
 funext base call p dst o s
 cases o <;> simp only [runOpF,runOp,rawF_eq,evF_eq,putF_eq,drainedF_eq,takenF_eq,pureVF_eq] <;> rfl
theorem wantedF_eq:wantedF = wanted:=by
 funext t g
 cases g <;> simp only [wantedF,wanted,rawF_eq,raw_tQ] <;> rfl
theorem runOpsF_eq (base:Nat) (call:Call):∀(os:List AOper) (p:Prov) (s:St),runOpsF base call p os s = runOps base call p os s
 | [],_,_=>rfl
 | o :: os,p,s=>by
  simp only [runOpsF,runOps,wantedF_eq,runOpF_eq,putF_eq,runOpsF_eq base call os]
  rfl
theorem chkOfF_eq:chkOfF = chkOf:=by
 funext s o
 cases o <;> simp only [chkOfF,chkOf,evF_eq] <;> rfl
theorem runDrawF_eq (base:Nat) (call:Call) (dsts:List Nat):∀(ds:List DOper) (pend:List (Nat×Chk)) (s:St),runDrawF base call dsts ds pend s = runDraw base call dsts ds pend s
 | [],_,_=>rfl
 | d :: ds,pend,s=>by
  simp only [runDrawF,runDraw,wantedF_eq,runOpF_eq,putF_eq,chkOfF_eq,runDrawF_eq base call dsts ds]
  rfl
theorem execF_eq (n base:Nat) (call:Call):∀(c:ACode),execF n base call c = exec n base call c
 | .skip=>by funext s;simp only [execF,exec] <;> rfl
 | .reg ops=>by funext s;simp only [execF,exec,runOpsF_eq] <;> rfl
 | .draw ops=>by funext s;simp only [execF,exec,runDrawF_eq] <;> rfl
 | .draw2 c a b r=>by funext s;simp only [execF,exec,runDrawF_eq] <;> rfl
 | .seq a b=>by funext s;simp only [execF,exec,execF_eq n base call a,execF_eq n base call b] <;> rfl
 | .cond c a b=>by funext s;simp only [execF,exec,evF_eq,execF_eq n base call a,execF_eq n base call b] <;> rfl
 | .block id b=>by funext s;simp only [execF,exec,execF_eq n base call b] <;> rfl
 | .loop b=>by funext s;simp only [execF,exec,execF_eq n base call b] <;> rfl
 | .rfun f ps asg body=>by funext s;simp only [execF,exec,evF_eq] <;> rfl
 | .exit id=>by funext s;simp only [execF,exec] <;> rfl
 | .ret=>by funext s;simp only [execF,exec] <;> rfl
theorem readResF_eq (s:St):∀rs:List ARes,readResF s rs = readRes s rs
 | []=>rfl
 | .tmp i :: rs=>by simp only [readResF,readRes,readResF_eq s rs,rawF_eq,raw_tQ,dimF_eq] <;> rfl
 | .cell a k :: rs=>by simp only [readResF,readRes,readResF_eq s rs,rawF_eq,raw_tQ] <;> rfl
theorem roundF_eq (n:Nat) (call:Call):roundF n call = round n call:=by
 funext l args h
 simp only [roundF,round,execF_eq] <;> rfl
theorem runF_eq (F:FuncId→Option AFunc) (X:Exts):∀n:Nat,runF F X n = run F X n
 | 0=>rfl
 | n + 1=>by
  funext fv args h
  simp only [runF,run,runF_eq F X n,execF_eq,readResF_eq,roundF_eq] <;> rfl
end Go.AE
namespace Go.AE
def memo (k:Nat) (as0:List AVal) (h0:List ABox) (r0:CRes) (h1:List ABox) (e1:Bool) (_:Call) (aS:List AVal) (h:List ABox):Option (CRes×List ABox×Bool):=
 if Nat.ble k h.length && (beqL aS as0 && beqH (h.drop k) h0) then some (r0,h.take k ++ h1,e1) else none
theorem memo_eq {k:Nat} {as0 aS:List AVal} {h0 h h1:List ABox} {r0:CRes} {e1:Bool} {r:CRes×List ABox×Bool} {call:Call} (hm:memo k as0 h0 r0 h1 e1 call aS h = some r):aS = as0∧(∃H,H.length = k∧h = H ++ h0∧r = (r0,H ++ h1,e1)):=by
 unfold memo at hm
 split at hm
 ·rename_i hh
  simp only [Bool.and_eq_true,Nat.ble_eq] at hh
  cases hm
  refine ⟨beqL_eq _ _ hh.2.1,h.take k,by simp;omega,?_,rfl⟩
  rw [←beqH_eq hh.2.2,List.take_append_drop]
 ·cases hm
def withX (X:Exts) (f:FuncId) (g:Call→List AVal→List ABox→Option (CRes×List ABox×Bool)):Exts:=fun i=>if i == f then some g else X i
theorem withX_at {X:Exts} {f i:FuncId} {g g':Call→List AVal→List ABox→Option (CRes×List ABox×Bool)} (h:withX X f g i = some g'):(i = f∧g' = g)∨X i = some g':=by
 unfold withX at h
 cases e:i == f with
 | true=>rw [e] at h;exact .inl ⟨by simpa using e,(Option.some.inj h).symm⟩
 | false=>rw [e] at h;exact .inr h
abbrev withMemo (X:Exts) (f:FuncId) (k:Nat) (as0:List AVal) (h0:List ABox) (r0:CRes) (h1:List ABox) (e1:Bool):Exts:=withX X f (memo k as0 h0 r0 h1 e1)
section
variable {P:Program} {gl:Nat→Option (List AVal)} {F:FuncId→Option AFunc} {X:Exts} {f:FuncId} {fn:AFunc} {n k:Nat} {as0:List AVal} {h0 h1:List ABox} {r0:CRes} {e1:Bool}
theorem ext_of {g:Call→List AVal→List ABox→Option (CRes×List ABox×Bool)} (hP:ProgOK P gl F) (hF:F f = some fn) (hcall:CallOK P gl (run F X n)) (hg:∀call aS h r,g call aS h = some r→run F X n (.fn f [] []) aS h = some r):ExtOK P gl f g:=by
 intro call _ _ aS h r h' e' hr0 G w vs hr hn ha
 have hrun:=hg _ _ _ _ hr0
 obtain ⟨pf,c,p1,p2,p3,_⟩:=hP f fn hF
 have hent:=callFunc_enter (P:=P) p1 p2 p3 vs w
 have hfv:G.V (.fn f [] []) (.func (.func f) #[] #[]):=by simp [Ghost.V,VRel,VRelL]
 have hcs:(callS (.func (.func f) #[] #[]) vs).run P w = (callFunc f vs).run P w:=by rw [callS_fn];simp
 rcases hcall _ _ _ _ _ _ hrun G w _ vs hr hn hfv ha with ⟨f',as',k1,k2⟩ | ⟨_,_,_,_,_,_,hy,_⟩ | ⟨v,w',_,k1,_⟩
 ·rw [hcs,hent] at k1
  cases k1
  exact .inl ⟨hent,k2⟩
 ·cases hy
 ·rw [hcs,hent] at k1
  cases k1
structure Ext1 (P:Program) (gl:Nat→Option (List AVal)) (F:FuncId→Option AFunc) (X:Exts):Prop where
 ok:∀f g,X f = some g→ExtOK P gl f g
 keeps:∀f g,X f = some g→∀call,CallKeeps call→CallKeeps fun _ xs h=>g call xs h
theorem Ext1.call (hmx:P.follows .mixedOrders = true) (hP:ProgOK P gl F) (hX:Ext1 P gl F X) (n:Nat):CallOK P gl (run F X n):=run_sound hmx hP hX.ok hX.keeps n
theorem Ext1.put {Y:Exts} {g:Call→List AVal→List ABox→Option (CRes×List ABox×Bool)} (hmx:P.follows .mixedOrders = true) (hP:ProgOK P gl F) (hX:Ext1 P gl F X) (hY:Ext1 P gl F Y) (hF:F f = some fn) (hg:∀call aS h r,g call aS h = some r→runF F X n (.fn f [] []) aS h = some r):Ext1 P gl F (withX Y f g):=by
 rw [runF_eq] at hg
 constructor
 ·intro i g' hi
  rcases withX_at hi with ⟨rfl,rfl⟩ | hi
  ·exact ext_of hP hF (hX.call hmx hP n) hg
  ·exact hY.ok i g' hi
 ·intro i g' hi call hk
  rcases withX_at hi with ⟨rfl,rfl⟩ | hi
  ·intro fv aS h r h' e' hr
   exact run_keeps hX.keeps n _ _ _ _ _ _ (hg _ _ _ _ hr)
  ·exact hY.keeps i g' hi call hk
theorem Ext1.memo (hmx:P.follows .mixedOrders = true) (hP:ProgOK P gl F) {Y:Exts} (hX:Ext1 P gl F X) (hY:Ext1 P gl F Y) (hF:F f = some fn) (hrun:∀H:List ABox,H.length = k→runF F X n (.fn f [] []) as0 (H ++ h0) = some (r0,H ++ h1,e1)) :
  Ext1 P gl F (withMemo Y f k as0 h0 r0 h1 e1):=
 hX.put (n:=n) hmx hP hY hF fun call aS h r hr=>by
  obtain ⟨e1,H,hH,e2,e3⟩:=memo_eq hr
  rw [e1,e2,e3]
  exact hrun H hH
def splitX (g:List AVal→List ABox→Option (CRes×List ABox×Bool)) (_:Call) (aS:List AVal) (h:List ABox):Option (CRes×List ABox×Bool):=
 match aS with
 | [.lst [] .full]=>some (.ret (.lst [] .full),h,false)
 | aS=>g aS h
theorem Ext1.split {Y:Exts} (hmx:P.follows .mixedOrders = true) (hP:ProgOK P gl F) (hX:Ext1 P gl F X) (hY:Ext1 P gl F Y) (hF:F f = some fn)
  (h1:∀H,run F X n (.fn f [] []) [.nils] H = some (.ret (.lst [] .full),H,false)) (h2:∀H,run F X n (.fn f [] []) [.empt] H = some (.ret (.lst [] .full),H,false)):Ext1 P gl F (withX Y f (splitX (run F X n (.fn f [] [])))):=by
 have base:=ext_of (g:=fun _ aS h=>run F X n (.fn f [] []) aS h) hP hF (hX.call hmx hP n) (fun _ _ _ _ h=>h)
 constructor
 ·intro i g' hi
  rcases withX_at hi with ⟨rfl,rfl⟩ | hi
  ·intro call hc hk aS h r h' e' hr0 G w vs hr hn ha
   unfold splitX at hr0
   split at hr0
   ·cases hr0
    have ha':=ha
    simp only [Ghost.VL,VRelL,VRel] at ha'
    obtain ⟨v,rest,e,⟨a,len,cap,rfl,g1,g2,g3,g4,_⟩,rfl⟩:=ha'
    simp only [List.length_nil] at g1
    subst g1
    have g3:=g3 trivial
    subst g3
    cases a with
    | none=>exact (base call hc hk _ _ _ _ _ (h1 h) G w vs hr hn (by rw [e];simp [Ghost.VL,VRelL,VRel])).imp (fun x=>x) fun x=>⟨by simp,x.2⟩
    | some b=>exact (base call hc hk _ _ _ _ _ (h2 h) G w vs hr hn (by rw [e];simp [Ghost.VL,VRelL,VRel])).imp (fun x=>x) fun x=>⟨by simp,x.2⟩
   ·exact base call hc hk _ _ _ _ _ hr0 G w vs hr hn ha
  ·exact hY.ok i g' hi
 ·intro i g' hi call hk
  rcases withX_at hi with ⟨rfl,rfl⟩ | hi
  ·intro fv aS h r h' e' hr0
   have hr:splitX (run F X n (.fn i [] [])) call aS h = some (r,h',e'):=hr0
   unfold splitX at hr
   split at hr
   ·cases hr;exact ⟨Nat.le_refl _,fun _=>Keeps.refl _ _⟩
   ·exact run_keeps hX.keeps n _ _ _ _ _ _ hr
  ·exact hY.keeps i g' hi call hk
def memoR (k:Nat) (as0:List AVal) (h0:List ABox) (r0:CRes) (h1:List ABox) (e1:Bool) (g:List AVal→List ABox→Option (CRes×List ABox×Bool)) (c:Call) (aS:List AVal) (h:List ABox):Option (CRes×List ABox×Bool):=
 match memo k as0 h0 r0 h1 e1 c aS h with
 | some r=>some r
 | none=>g aS h
theorem Ext1.memoR {Y:Exts} (hmx:P.follows .mixedOrders = true) (hP:ProgOK P gl F) (hX:Ext1 P gl F X) (hY:Ext1 P gl F Y) (hF:F f = some fn) (hrun:∀H:List ABox,H.length = k→runF F X n (.fn f [] []) as0 (H ++ h0) = some (r0,H ++ h1,e1)) :
  Ext1 P gl F (withX Y f (AE.memoR k as0 h0 r0 h1 e1 (runF F X n (.fn f [] [])))):=
 hX.put (n:=n) hmx hP hY hF fun call aS h r hr=>by
  unfold AE.memoR at hr
  split at hr
  ·rename_i r' hm
   cases hr
   obtain ⟨q1,H,hH,q2,q3⟩:=memo_eq hm
   rw [q1,q2,q3]
   exact hrun H hH
  ·exact hr
def memoT (d:Nat) (s0:List UInt8) (tab:List (Nat×Nat×CRes)) (_:Call) (aS:List AVal) (h:List ABox):Option (CRes×List ABox×Bool):=
 match aS with
 | [.str s,.int .i64 (.ofNat n)]=>match tab.find? fun e=>Nat.beq e.1 n with
  | some e=>if Nat.beq h.length (e.2.1 + d) && s == s0 then some (e.2.2,h,false) else none
  | none=>none
 | _=>none
theorem memoT_eq {d:Nat} {s0:List UInt8} {tab:List (Nat×Nat×CRes)} {call:Call} {aS:List AVal} {h:List ABox} {r:CRes×List ABox×Bool} (hm:memoT d s0 tab call aS h = some r) :
  ∃e ∈ tab,aS = [.str s0,.int .i64 (.ofNat e.1)]∧h.length = e.2.1 + d∧r = (e.2.2,h,false):=by
 unfold memoT at hm
 split at hm
 ·split at hm
  ·rename_i e he
   split at hm
   ·rename_i hh
    simp only [Bool.and_eq_true,Nat.beq_eq,beq_iff_eq] at hh
    have h1:=List.find?_some he
    simp only [Nat.beq_eq] at h1
    refine ⟨e,List.mem_of_find?_eq_some he,?_,hh.1,(Option.some.inj hm).symm⟩
    rw [h1,hh.2]
   ·cases hm
  ·cases hm
 ·cases hm
theorem Ext1.memoT (hmx:P.follows .mixedOrders = true) (hP:ProgOK P gl F) {Y:Exts} {d:Nat} {s0:List UInt8} {tab:List (Nat×Nat×CRes)} (hX:Ext1 P gl F X) (hY:Ext1 P gl F Y) (hF:F f = some fn)
  (hrun:∀e ∈ tab,∀H:List ABox,H.length = e.2.1 + d→runF F X n (.fn f [] []) [.str s0,.int .i64 (.ofNat e.1)] H = some (e.2.2,H,false)):Ext1 P gl F (withX Y f (AE.memoT d s0 tab)):=
 hX.put (n:=n) hmx hP hY hF fun call aS h r hr=>by
  obtain ⟨e,he,e1,hk,e2⟩:=memoT_eq hr
  rw [e1,e2]
  exact hrun e he h hk
def bx (f:Nat→ABox) (k:Nat):List ABox:=(List.range k).map f
theorem len0 {p:List ABox→Prop} (h:p []):∀H:List ABox,H.length = 0→p H:=fun H hH=>by
 rw [List.eq_nil_of_length_eq_zero hH];exact h
end
end Go.AE
namespace Go.AE
def Le {α:Type} (a b:Option α):Prop:=∀x,a = some x→b = some x
theorem Le.refl {α:Type} (a:Option α):Le a a:=fun _ h=>h
def CLe (c d:Call):Prop:=∀fv aS h,Le (c fv aS h) (d fv aS h)
theorem CLe.refl (c:Call):CLe c c:=fun _ _ _ _ h=>h
def Chain {α:Type} (g:Nat→Option α):Prop:=∀n m,n ≤ m→Le (g n) (g m)
def CChain (c:Nat→Call):Prop:=∀n m,n ≤ m→CLe (c n) (c m)
open Classical in
noncomputable def lim {α:Type} (g:Nat→Option α):Option α:=if h:∃n x,g n = some x then g h.choose else none
theorem lim_iff {α:Type} {g:Nat→Option α} (hg:Chain g) (x:α):lim g = some x↔∃n,g n = some x:=by
 unfold lim
 constructor
 ·intro h
  split at h
  ·exact ⟨_,h⟩
  ·cases h
 ·rintro ⟨n,hn⟩
  have h:∃n x,g n = some x:=⟨n,x,hn⟩
  rw [dif_pos h]
  obtain ⟨y,hy⟩:=h.choose_spec
  have h1:=hg _ (max n h.choose) (Nat.le_max_right ..) _ hy
  have h2:=hg _ (max n h.choose) (Nat.le_max_left ..) _ hn
  rw [hy,←h1,h2]
theorem lim_const {α:Type} (a:Option α):lim (fun _=>a) = a:=by
 apply Option.ext
 intro x
 rw [lim_iff (fun _ _ _=>Le.refl _)]
 exact ⟨fun ⟨_,h⟩=>h,fun h=>⟨0,h⟩⟩
noncomputable def limc (c:Nat→Call):Call:=fun fv aS h=>lim fun n=>c n fv aS h
theorem limc_iff {c:Nat→Call} (hc:CChain c) {fv:AVal} {aS:List AVal} {h:List ABox} (x:CRes×List ABox×Bool):limc c fv aS h = some x↔∃n,c n fv aS h = some x:=
 lim_iff (fun n m hnm=>hc n m hnm fv aS h) x
theorem le_limc {c:Nat→Call} (hc:CChain c) (n:Nat):CLe (c n) (limc c):=fun _ _ _ x hx=>(limc_iff hc x).2 ⟨n,hx⟩
section
variable {c d:Call} {base:Nat}
theorem runOp_mono (hc:CLe c d) {p:Prov} {dst:Option Nat} {o:AOp} {s:St}:Le (runOp base c p dst o s) (runOp base d p dst o s):=by
 cases o
 case call f args=>
  intro x hx
  simp only [runOp] at hx ⊢
  split at hx
  ·rename_i heq;rw [hc _ _ _ _ heq];exact hx
  ·rename_i heq;rw [hc _ _ _ _ heq];exact hx
  ·cases hx
 all_goals exact fun x hx=>hx
theorem runOps_mono (hc:CLe c d):∀(ops:List AOper) (p:Prov) (s:St),Le (runOps base c p ops s) (runOps base d p ops s)
 | [],p,s=>fun x hx=>hx
 | o :: os,p,s=>fun x hx=>by
  simp only [runOps] at hx ⊢
  split at hx
  ·split at hx
   ·rename_i heq;rw [runOp_mono hc _ heq];exact runOps_mono hc os _ _ _ hx
   ·rename_i hne
    have h1:=runOp_mono hc _ hx
    rw [h1]
    split
    ·rename_i heq;cases heq;exact absurd hx (hne _)
    ·rfl
  ·exact runOps_mono hc os _ _ _ hx
  ·cases hx
theorem runDraw_mono (hc:CLe c d) (dsts:List Nat):∀(ops:List DOper) (pend:List (Nat×Chk)) (s:St),Le (runDraw base c dsts ops pend s) (runDraw base d dsts ops pend s)
 | [],p,s=>fun x hx=>hx
 | o :: os,p,s=>fun x hx=>by
  simp only [runDraw] at hx ⊢
  split at hx
  ·split at hx
   ·rename_i heq
    rw [runOp_mono hc _ heq]
    simp only
    split at hx
    ·rename_i he
     rw [if_pos he]
     split at hx
     ·rename_i hp;rw [if_pos hp];exact runDraw_mono hc dsts os _ _ _ hx
     ·cases hx
    ·rename_i he
     rw [if_neg he]
     split at hx
     ·exact runDraw_mono hc dsts os _ _ _ hx
     ·exact runDraw_mono hc dsts os _ _ _ hx
   ·rename_i heq;rw [runOp_mono hc _ heq];exact hx
   ·cases hx
  ·exact runDraw_mono hc dsts os _ _ _ hx
  ·cases hx
theorem iter_mono {f g:St→Option (Ex×St)} (hf:∀s,Le (f s) (g s)):∀(n m:Nat),n ≤ m→∀s,Le (iter f n s) (iter g m s)
 | 0,_,_,s=>fun x hx=>by cases hx
 | n + 1,0,h,s=>by omega
 | n + 1,m + 1,h,s=>fun x hx=>by
  simp only [iter] at hx ⊢
  split at hx
  ·rename_i heq;rw [hf _ _ heq];exact iter_mono hf n m (by omega) _ _ hx
  ·rename_i hne
   rw [hf _ _ hx]
   split
   ·rename_i heq;cases heq;exact absurd hx (hne _)
   ·rfl
theorem both_mono {p q:DOper} {a b e a' b' e':Option (Ex×St)} (h1:Le a a') (h2:Le b b') (h3:Le e e'):Le (both p q a b e) (both p q a' b' e'):=fun x hx=>by
 unfold both at hx
 split at hx
 ·rename_i s0 s1 s2
  rw [h1 _ rfl,h2 _ rfl,h3 _ rfl]
  exact hx
 ·cases hx
theorem exec_mono (hc:CLe c d) {n m:Nat} (hnm:n ≤ m):∀(a:ACode) (s:St),Le (exec n base c a s) (exec m base d a s)
 | .skip,s=>fun x hx=>hx
 | .reg ops,s=>runOps_mono hc ops _ s
 | .draw ops,s=>runDraw_mono hc _ ops _ s
 | .draw2 c a b r,s=>both_mono (runDraw_mono hc _ _ _ s) (runDraw_mono hc _ _ _ s) (runDraw_mono hc _ _ _ s)
 | .seq a b,s=>fun x hx=>by
  simp only [exec] at hx ⊢
  split at hx
  ·rename_i heq;rw [exec_mono hc hnm a _ _ heq];exact exec_mono hc hnm b _ _ hx
  ·rename_i hne
   rw [exec_mono hc hnm a _ _ hx]
   split
   ·rename_i heq;cases heq;exact absurd hx (hne _)
   ·rfl
 | .cond q a b,s=>fun x hx=>by
  simp only [exec] at hx ⊢
  split at hx
  ·exact exec_mono hc hnm a _ _ hx
  ·exact exec_mono hc hnm b _ _ hx
  ·cases hx
 | .block id b,s=>fun x hx=>by
  simp only [exec] at hx ⊢
  split at hx
  ·rename_i heq;rw [exec_mono hc hnm b _ _ heq];exact hx
  ·rename_i hne
   rw [exec_mono hc hnm b _ _ hx]
   split
   ·rename_i heq;cases heq;exact absurd hx (hne _ _)
   ·rfl
 | .loop b,s=>fun x hx=>by
  simp only [exec] at hx ⊢
  exact iter_mono (fun s=>exec_mono hc hnm b s) n m hnm s x hx
 | .exit id,s=>fun x hx=>hx
 | .ret,s=>fun x hx=>hx
 | .rfun f ps asg body,s=>fun x hx=>by
  simp only [exec] at hx ⊢
  split at hx
  ·split at hx
   ·rename_i heq;rw [hc _ _ _ _ heq];exact hx
   ·rename_i heq;rw [hc _ _ _ _ heq];exact hx
   ·cases hx
  ·cases hx
theorem round_mono (hc:CLe c d) {n m:Nat} (hnm:n ≤ m) {l:Nat} {args:List AVal} {h:List ABox}:Le (round n c l args h) (round m d l args h):=fun x hx=>by
 simp only [round] at hx ⊢
 split at hx
 ·split at hx
  ·cases hx
  ·rename_i hl
   rw [if_neg hl]
   split at hx
   ·rename_i heq
    rw [exec_mono hc hnm _ _ _ heq]
    simp only
    split at hx
    ·split at hx
     ·rename_i heq2
      rw [exec_mono hc hnm _ _ _ heq2]
      exact hx
     ·cases hx
    ·cases hx
   ·cases hx
 ·cases hx
theorem dexec_mono (hc:CLe c d) {n m:Nat} (hnm:n ≤ m) {df:DFunc} {v:AVal} {cv:List AVal} {s:St}:Le (dexec n c df v cv s) (dexec m d df v cv s):=fun x hx=>by
 simp only [dexec] at hx ⊢
 split at hx
 ·rename_i heq
  rw [runOps_mono hc _ _ _ _ heq]
  dsimp only
  split at hx
  ·rename_i heq2;rw [exec_mono hc hnm _ _ _ heq2];exact hx
  ·rename_i heq2;rw [exec_mono hc hnm _ _ _ heq2];exact hx
  ·cases hx
 ·cases hx
theorem gexec_mono (hc:CLe c d) {n m:Nat} (hnm:n ≤ m) {df:DFunc}:∀(b:GBody) (s:St),Le (gexec n base c df b s) (gexec m base d df b s)
 | .pre a r,s=>fun x hx=>by
  simp only [gexec] at hx ⊢
  split at hx
  ·rename_i heq;rw [exec_mono hc hnm _ _ _ heq];exact gexec_mono hc hnm r _ _ hx
  ·cases hx
  ·rename_i h1 h2
   rw [exec_mono hc hnm _ _ _ hx]
   split
   ·rename_i heq;cases heq;exact absurd hx (h1 _)
   ·rename_i heq;cases heq;exact absurd hx (h2 _ _)
   ·rfl
 | .dfr f caps slot rest,s=>fun x hx=>by
  simp only [gexec] at hx ⊢
  split at hx
  ·split at hx
   ·rename_i hg
    rw [if_pos hg]
    split at hx
    ·rename_i heq;rw [exec_mono hc hnm _ _ _ heq];exact dexec_mono hc hnm _ hx
    ·rename_i heq;rw [exec_mono hc hnm _ _ _ heq];exact dexec_mono hc hnm _ hx
    ·rename_i heq;rw [exec_mono hc hnm _ _ _ heq];exact dexec_mono hc hnm _ hx
    ·cases hx
   ·cases hx
  ·cases hx
theorem gcall_mono (hc:CLe c d) {n m:Nat} (hnm:n ≤ m) {g:GFunc} {aS:List AVal} {h:List ABox}:Le (gcall n g c aS h) (gcall m g d aS h):=fun x hx=>by
 simp only [gcall] at hx ⊢
 split at hx
 ·rename_i heq;rw [gexec_mono hc hnm _ _ _ heq];exact hx
 ·rename_i heq;rw [gexec_mono hc hnm _ _ _ heq];exact hx
 ·rename_i heq;rw [gexec_mono hc hnm _ _ _ heq];exact hx
 ·cases hx
end
def XMono (X:Exts):Prop:=∀f g,X f = some g→∀c d,CLe c d→∀aS h,Le (g c aS h) (g d aS h)
theorem run_step {F:FuncId→Option AFunc} {X:Exts} (hX:XMono X) {n m:Nat} (hnm:n ≤ m) (hc:CLe (run F X n) (run F X m)):CLe (run F X (n + 1)) (run F X (m + 1)):=fun fv aS h x hx=>by
 simp only [run] at hx ⊢
 split at hx
 ·split at hx
  ·rename_i hg
   exact hX _ _ hg _ _ hc _ _ _ hx
  ·split at hx
   ·cases hx
   ·split at hx
    ·rename_i heq;rw [exec_mono hc hnm _ _ _ heq];exact hx
    ·rename_i heq;rw [exec_mono hc hnm _ _ _ heq];exact hx
    ·rename_i heq;rw [exec_mono hc hnm _ _ _ heq];exact hx
    ·cases hx
 ·exact round_mono hc hnm _ hx
 ·cases hx
theorem run_mono {F:FuncId→Option AFunc} {X:Exts} (hX:XMono X):∀n m:Nat,n ≤ m→CLe (run F X n) (run F X m)
 | 0,_,_=>fun _ _ _ x hx=>by cases hx
 | n + 1,0,h=>by omega
 | n + 1,m + 1,h=>run_step hX (by omega) (run_mono hX n m (by omega))
section
variable {c:Nat→Call} {base:Nat}
theorem runOp_cont (hc:CChain c) {p:Prov} {dst:Option Nat} {o:AOp} {s:St} {x:Ex×St} (hx:runOp base (limc c) p dst o s = some x):∃k,runOp base (c k) p dst o s = some x:=by
 cases o
 case call f args=>
  simp only [runOp] at hx ⊢
  split at hx
  ·rename_i heq;obtain ⟨k,hk⟩:=(limc_iff hc _).1 heq;exact ⟨k,by rw [hk];exact hx⟩
  ·rename_i heq;obtain ⟨k,hk⟩:=(limc_iff hc _).1 heq;exact ⟨k,by rw [hk];exact hx⟩
  ·cases hx
 all_goals exact ⟨0,hx⟩
theorem runOps_cont (hc:CChain c):∀(ops:List AOper) (p:Prov) (s:St) (x:Ex×St),runOps base (limc c) p ops s = some x→∃k,runOps base (c k) p ops s = some x
 | [],p,s,x,hx=>⟨0,hx⟩
 | o :: os,p,s,x,hx=>by
  simp only [runOps] at hx ⊢
  split at hx
  ·split at hx
   ·rename_i heq
    obtain ⟨k1,h1⟩:=runOp_cont hc heq
    obtain ⟨k2,h2⟩:=runOps_cont hc os _ _ _ hx
    refine ⟨max k1 k2,?_⟩
    rw [runOp_mono (hc k1 _ (Nat.le_max_left ..)) _ h1]
    exact runOps_mono (hc k2 _ (Nat.le_max_right ..)) _ _ _ _ h2
   ·rename_i hne
    obtain ⟨k1,h1⟩:=runOp_cont hc hx
    refine ⟨k1,?_⟩
    rw [h1]
    split
    ·rename_i heq;cases heq;exact absurd hx (hne _)
    ·rfl
  ·exact runOps_cont hc os _ _ _ hx
  ·cases hx
theorem runDraw_cont (hc:CChain c) (dsts:List Nat):∀(ops:List DOper) (pend:List (Nat×Chk)) (s:St) (x:Ex×St),runDraw base (limc c) dsts ops pend s = some x→∃k,runDraw base (c k) dsts ops pend s = some x
 | [],p,s,x,hx=>⟨0,hx⟩
 | o :: os,p,s,x,hx=>by
  simp only [runDraw] at hx ⊢
  split at hx
  ·split at hx
   ·rename_i heq
    obtain ⟨k1,h1⟩:=runOp_cont hc heq
    split at hx
    ·rename_i he
     split at hx
     ·rename_i hp
      obtain ⟨k2,h2⟩:=runDraw_cont hc dsts os _ _ _ hx
      refine ⟨max k1 k2,?_⟩
      rw [runOp_mono (hc k1 _ (Nat.le_max_left ..)) _ h1]
      simp only
      rw [if_pos he,if_pos hp]
      exact runDraw_mono (hc k2 _ (Nat.le_max_right ..)) dsts _ _ _ _ h2
     ·cases hx
    ·rename_i he
     split at hx
     ·obtain ⟨k2,h2⟩:=runDraw_cont hc dsts os _ _ _ hx
      rename_i hk
      refine ⟨max k1 k2,?_⟩
      rw [runOp_mono (hc k1 _ (Nat.le_max_left ..)) _ h1]
      simp only
      rw [if_neg he]
      exact runDraw_mono (hc k2 _ (Nat.le_max_right ..)) dsts _ _ _ _ h2
     ·obtain ⟨k2,h2⟩:=runDraw_cont hc dsts os _ _ _ hx
      refine ⟨max k1 k2,?_⟩
      rw [runOp_mono (hc k1 _ (Nat.le_max_left ..)) _ h1]
      simp only
      rw [if_neg he]
      exact runDraw_mono (hc k2 _ (Nat.le_max_right ..)) dsts _ _ _ _ h2
   ·rename_i heq;obtain ⟨k1,h1⟩:=runOp_cont hc heq;exact ⟨k1,by rw [h1];exact hx⟩
   ·cases hx
  ·exact runDraw_cont hc dsts os _ _ _ hx
  ·cases hx
theorem iter_cont {f:St→Option (Ex×St)} {g:Nat→St→Option (Ex×St)} (hg:∀n m,n ≤ m→∀s,Le (g n s) (g m s)) (hf:∀s x,f s = some x→∃k,g k s = some x):∀(n:Nat) (s:St) (x:Ex×St),iter f n s = some x→∃k,iter (g k) n s = some x
 | 0,s,x,hx=>by cases hx
 | n + 1,s,x,hx=>by
  simp only [iter] at hx ⊢
  split at hx
  ·rename_i heq
   obtain ⟨k1,h1⟩:=hf _ _ heq
   obtain ⟨k2,h2⟩:=iter_cont hg hf n _ _ hx
   refine ⟨max k1 k2,?_⟩
   rw [hg k1 _ (Nat.le_max_left ..) _ _ h1]
   exact iter_mono (hg k2 _ (Nat.le_max_right ..)) n n (Nat.le_refl _) _ _ h2
  ·rename_i hne
   obtain ⟨k1,h1⟩:=hf _ _ hx
   refine ⟨k1,?_⟩
   rw [h1]
   split
   ·rename_i heq;cases heq;exact absurd hx (hne _)
   ·rfl
theorem exec_cont (hc:CChain c) {n:Nat}:∀(a:ACode) (s:St) (x:Ex×St),exec n base (limc c) a s = some x→∃k,exec n base (c k) a s = some x
 | .skip,s,x,hx=>⟨0,hx⟩
 | .reg ops,s,x,hx=>runOps_cont hc ops _ s x hx
 | .draw ops,s,x,hx=>runDraw_cont hc _ ops _ s x hx
 | .draw2 c0 a0 b0 r0,s,x,hx=>by
  simp only [exec] at hx ⊢
  unfold both at hx
  split at hx
  ·rename_i s0 s1 s2 e0 e1 e2
   obtain ⟨k0,h0⟩:=runDraw_cont hc _ _ _ s _ e0
   obtain ⟨k1,h1⟩:=runDraw_cont hc _ _ _ s _ e1
   obtain ⟨k2,h2⟩:=runDraw_cont hc _ _ _ s _ e2
   refine ⟨max k0 (max k1 k2),?_⟩
   rw [runDraw_mono (hc k0 _ (Nat.le_max_left ..)) _ _ _ s _ h0,runDraw_mono (hc k1 _ (Nat.le_trans (Nat.le_max_left ..) (Nat.le_max_right ..))) _ _ _ s _ h1,runDraw_mono (hc k2 _ (Nat.le_trans (Nat.le_max_right ..) (Nat.le_max_right ..))) _ _ _ s _ h2]
   exact hx
  ·cases hx
 | .seq a b,s,x,hx=>by
  simp only [exec] at hx ⊢
  split at hx
  ·rename_i heq
   obtain ⟨k1,h1⟩:=exec_cont hc a _ _ heq
   obtain ⟨k2,h2⟩:=exec_cont hc b _ _ hx
   refine ⟨max k1 k2,?_⟩
   rw [exec_mono (hc k1 _ (Nat.le_max_left ..)) (Nat.le_refl _) _ _ _ h1]
   exact exec_mono (hc k2 _ (Nat.le_max_right ..)) (Nat.le_refl _) _ _ _ h2
  ·rename_i hne
   obtain ⟨k1,h1⟩:=exec_cont hc a _ _ hx
   refine ⟨k1,?_⟩
   rw [h1]
   split
   ·rename_i heq;cases heq;exact absurd hx (hne _)
   ·rfl
 | .cond q a b,s,x,hx=>by
  simp only [exec] at hx ⊢
  split at hx
  ·exact exec_cont hc a _ _ hx
  ·exact exec_cont hc b _ _ hx
  ·cases hx
 | .block id b,s,x,hx=>by
  simp only [exec] at hx ⊢
  split at hx
  ·rename_i heq
   obtain ⟨k1,h1⟩:=exec_cont hc b _ _ heq
   exact ⟨k1,by rw [h1];exact hx⟩
  ·rename_i hne
   obtain ⟨k1,h1⟩:=exec_cont hc b _ _ hx
   refine ⟨k1,?_⟩
   rw [h1]
   split
   ·rename_i heq;cases heq;exact absurd hx (hne _ _)
   ·rfl
 | .loop b,s,x,hx=>by
  simp only [exec] at hx ⊢
  exact iter_cont (g:=fun k=>exec n base (c k) b) (fun i j hij s=>exec_mono (hc i j hij) (Nat.le_refl _) b s) (fun s x h=>exec_cont hc b s x h) n s x hx
 | .exit id,s,x,hx=>⟨0,hx⟩
 | .ret,s,x,hx=>⟨0,hx⟩
 | .rfun f ps asg body,s,x,hx=>by
  simp only [exec] at hx ⊢
  split at hx
  ·split at hx
   ·rename_i heq;obtain ⟨k,hk⟩:=(limc_iff hc _).1 heq;exact ⟨k,by rw [hk];exact hx⟩
   ·rename_i heq;obtain ⟨k,hk⟩:=(limc_iff hc _).1 heq;exact ⟨k,by rw [hk];exact hx⟩
   ·cases hx
  ·cases hx
theorem round_cont (hc:CChain c) {n:Nat} {l:Nat} {args:List AVal} {h:List ABox} {x:CRes×List ABox×Bool} (hx:round n (limc c) l args h = some x):∃k,round n (c k) l args h = some x:=by
 simp only [round] at hx ⊢
 split at hx
 ·split at hx
  ·cases hx
  ·rename_i hl
   split at hx
   ·rename_i heq
    obtain ⟨k1,h1⟩:=exec_cont hc _ _ _ heq
    split at hx
    ·rename_i hb
     split at hx
     ·rename_i heq2
      obtain ⟨k2,h2⟩:=exec_cont hc _ _ _ heq2
      refine ⟨max k1 k2,?_⟩
      rw [if_neg hl,exec_mono (hc k1 _ (Nat.le_max_left ..)) (Nat.le_refl _) _ _ _ h1]
      simp only [hb]
      rw [exec_mono (hc k2 _ (Nat.le_max_right ..)) (Nat.le_refl _) _ _ _ h2]
      exact hx
     ·cases hx
    ·cases hx
   ·cases hx
 ·cases hx
theorem dexec_cont (hc:CChain c) {n:Nat} {df:DFunc} {v:AVal} {cv:List AVal} {s:St} {x:Ex×St} (hx:dexec n (limc c) df v cv s = some x):∃k,dexec n (c k) df v cv s = some x:=by
 simp only [dexec] at hx ⊢
 split at hx
 ·rename_i heq
  obtain ⟨k1,h1⟩:=runOps_cont hc _ _ _ _ heq
  split at hx
  ·rename_i heq2
   obtain ⟨k2,h2⟩:=exec_cont hc _ _ _ heq2
   refine ⟨max k1 k2,?_⟩
   rw [runOps_mono (hc k1 _ (Nat.le_max_left ..)) _ _ _ _ h1]
   simp only
   rw [exec_mono (hc k2 _ (Nat.le_max_right ..)) (Nat.le_refl _) _ _ _ h2]
   exact hx
  ·rename_i heq2
   obtain ⟨k2,h2⟩:=exec_cont hc _ _ _ heq2
   refine ⟨max k1 k2,?_⟩
   rw [runOps_mono (hc k1 _ (Nat.le_max_left ..)) _ _ _ _ h1]
   simp only
   rw [exec_mono (hc k2 _ (Nat.le_max_right ..)) (Nat.le_refl _) _ _ _ h2]
   exact hx
  ·cases hx
 ·cases hx
theorem gexec_cont (hc:CChain c) {n:Nat} {df:DFunc}:∀(b:GBody) (s:St) (x:Ex×St),gexec n base (limc c) df b s = some x→∃k,gexec n base (c k) df b s = some x
 | .pre a r,s,x,hx=>by
  simp only [gexec] at hx ⊢
  split at hx
  ·rename_i heq
   obtain ⟨k1,h1⟩:=exec_cont hc _ _ _ heq
   obtain ⟨k2,h2⟩:=gexec_cont hc r _ _ hx
   refine ⟨max k1 k2,?_⟩
   rw [exec_mono (hc k1 _ (Nat.le_max_left ..)) (Nat.le_refl _) _ _ _ h1]
   exact gexec_mono (hc k2 _ (Nat.le_max_right ..)) (Nat.le_refl _) _ _ _ h2
  ·cases hx
  ·rename_i h1 h2
   obtain ⟨k1,h3⟩:=exec_cont hc _ _ _ hx
   refine ⟨k1,?_⟩
   rw [h3]
   split
   ·rename_i heq;cases heq;exact absurd hx (h1 _)
   ·rename_i heq;cases heq;exact absurd hx (h2 _ _)
   ·rfl
 | .dfr f caps slot rest,s,x,hx=>by
  simp only [gexec] at hx ⊢
  split at hx
  ·split at hx
   ·rename_i hg
    simp only [if_pos hg]
    split at hx
    ·rename_i heq
     obtain ⟨k1,h1⟩:=exec_cont hc _ _ _ heq
     obtain ⟨k2,h2⟩:=dexec_cont hc hx
     refine ⟨max k1 k2,?_⟩
     rw [exec_mono (hc k1 _ (Nat.le_max_left ..)) (Nat.le_refl _) _ _ _ h1]
     exact dexec_mono (hc k2 _ (Nat.le_max_right ..)) (Nat.le_refl _) _ h2
    ·rename_i heq
     obtain ⟨k1,h1⟩:=exec_cont hc _ _ _ heq
     obtain ⟨k2,h2⟩:=dexec_cont hc hx
     refine ⟨max k1 k2,?_⟩
     rw [exec_mono (hc k1 _ (Nat.le_max_left ..)) (Nat.le_refl _) _ _ _ h1]
     exact dexec_mono (hc k2 _ (Nat.le_max_right ..)) (Nat.le_refl _) _ h2
    ·rename_i heq
     obtain ⟨k1,h1⟩:=exec_cont hc _ _ _ heq
     obtain ⟨k2,h2⟩:=dexec_cont hc hx
     refine ⟨max k1 k2,?_⟩
     rw [exec_mono (hc k1 _ (Nat.le_max_left ..)) (Nat.le_refl _) _ _ _ h1]
     exact dexec_mono (hc k2 _ (Nat.le_max_right ..)) (Nat.le_refl _) _ h2
    ·cases hx
   ·cases hx
  ·cases hx
theorem gcall_cont (hc:CChain c) {n:Nat} {g:GFunc} {aS:List AVal} {h:List ABox} {x:CRes×List ABox×Bool} (hx:gcall n g (limc c) aS h = some x):∃k,gcall n g (c k) aS h = some x:=by
 simp only [gcall] at hx ⊢
 split at hx
 ·rename_i heq;obtain ⟨k1,h1⟩:=gexec_cont hc _ _ _ heq;exact ⟨k1,by rw [h1];exact hx⟩
 ·rename_i heq;obtain ⟨k1,h1⟩:=gexec_cont hc _ _ _ heq;exact ⟨k1,by rw [h1];exact hx⟩
 ·rename_i heq;obtain ⟨k1,h1⟩:=gexec_cont hc _ _ _ heq;exact ⟨k1,by rw [h1];exact hx⟩
 ·cases hx
end
noncomputable def execW (base:Nat) (call:Call) (a:ACode) (s:St):Option (Ex×St):=lim fun n=>exec n base call a s
noncomputable def roundW (call:Call) (l:Nat) (args:List AVal) (h:List ABox):Option (CRes×List ABox×Bool):=lim fun n=>round n call l args h
section
variable {base:Nat} {call:Call}
theorem execW_iff {a:ACode} {s:St} (x:Ex×St):execW base call a s = some x↔∃n,exec n base call a s = some x:=
 lim_iff (fun n m hnm=>exec_mono (CLe.refl _) hnm a s) x
theorem execW_skip (s:St):execW base call .skip s = some (.nor,s):=lim_const _
theorem execW_reg (ops:List AOper) (s:St):execW base call (.reg ops) s = runOps base call [] ops s:=lim_const _
theorem execW_draw (ops:List DOper) (s:St):execW base call (.draw ops) s = runDraw base call (ops.filterMap (·.o.dst)) ops [] s:=lim_const _
theorem execW_exit (id:Nat) (s:St):execW base call (.exit id) s = some (.exit id,s):=lim_const _
theorem execW_ret (s:St):execW base call .ret s = some (.ret,s):=lim_const _
def thenW (f:St→Option (Ex×St)):Option (Ex×St)→Option (Ex×St)
 | some (.nor,s)=>f s
 | r=>r
theorem execW_seq (a b:ACode) (s:St):execW base call (.seq a b) s = thenW (execW base call b) (execW base call a s):=by
 apply Option.ext
 intro x
 rw [execW_iff]
 constructor
 ·rintro ⟨n,h⟩
  simp only [exec] at h
  split at h
  ·rename_i heq
   rw [(execW_iff _).2 ⟨n,heq⟩]
   exact (execW_iff _).2 ⟨n,h⟩
  ·rename_i hne
   rw [(execW_iff _).2 ⟨n,h⟩]
   unfold thenW
   split
   ·rename_i heq;cases heq;exact absurd h (hne _)
   ·rfl
 ·intro h
  unfold thenW at h
  split at h
  ·rename_i heq
   obtain ⟨n1,h1⟩:=(execW_iff _).1 heq
   obtain ⟨n2,h2⟩:=(execW_iff _).1 h
   refine ⟨max n1 n2,?_⟩
   simp only [exec]
   rw [exec_mono (CLe.refl _) (Nat.le_max_left n1 n2) _ _ _ h1]
   exact exec_mono (CLe.refl _) (Nat.le_max_right n1 n2) _ _ _ h2
  ·rename_i hne
   obtain ⟨n1,h1⟩:=(execW_iff _).1 h
   refine ⟨n1,?_⟩
   simp only [exec]
   rw [h1]
   split
   ·rename_i heq;cases heq;exact absurd h (hne _)
   ·rfl
theorem execW_cond (q:AOpd) (a b:ACode) (s:St):execW base call (.cond q a b) s = match ev s.t q with
  | .bool true=>execW base call a s
  | .bool false=>execW base call b s
  | _=>none:=by
 simp only [execW,exec]
 generalize ev s.t q = v
 cases v with
 | bool b=>cases b <;> rfl
 | _=>exact lim_const _
def blockW (id:Nat):Option (Ex×St)→Option (Ex×St)
 | some (.exit j,s)=>if j = id then some (.nor,s) else some (.exit j,s)
 | r=>r
theorem execW_block (id:Nat) (b:ACode) (s:St):execW base call (.block id b) s = blockW id (execW base call b s):=by
 apply Option.ext
 intro x
 rw [execW_iff]
 constructor
 ·rintro ⟨n,h⟩
  simp only [exec] at h
  split at h
  ·rename_i heq
   rw [(execW_iff _).2 ⟨n,heq⟩]
   exact h
  ·rename_i hne
   rw [(execW_iff _).2 ⟨n,h⟩]
   unfold blockW
   split
   ·rename_i heq;cases heq;exact absurd h (hne _ _)
   ·rfl
 ·intro h
  unfold blockW at h
  split at h
  ·rename_i heq
   obtain ⟨n1,h1⟩:=(execW_iff _).1 heq
   refine ⟨n1,?_⟩
   simp only [exec]
   rw [h1]
   exact h
  ·rename_i hne
   obtain ⟨n1,h1⟩:=(execW_iff _).1 h
   refine ⟨n1,?_⟩
   simp only [exec]
   rw [h1]
   split
   ·rename_i heq;cases heq;exact absurd h (hne _ _)
   ·rfl
theorem execW_loop (b:ACode) (s:St):execW base call (.loop b) s = thenW (execW base call (.loop b)) (execW base call b s):=by
 apply Option.ext
 intro x
 rw [execW_iff]
 constructor
 ·rintro ⟨n,h⟩
  simp only [exec] at h
  cases n with
  | zero=>cases h
  | succ n=>
   simp only [iter] at h
   split at h
   ·rename_i heq
    rw [(execW_iff _).2 ⟨n + 1,heq⟩]
    exact (execW_iff _).2 ⟨n + 1,iter_mono (fun s=>Le.refl _) n (n + 1) (by omega) _ _ h⟩
   ·rename_i hne
    rw [(execW_iff _).2 ⟨n + 1,h⟩]
    unfold thenW
    split
    ·rename_i heq;cases heq;exact absurd h (hne _)
    ·rfl
 ·intro h
  unfold thenW at h
  split at h
  ·rename_i heq
   obtain ⟨n1,h1⟩:=(execW_iff _).1 heq
   obtain ⟨n2,h2⟩:=(execW_iff _).1 h
   refine ⟨max n1 n2 + 1,?_⟩
   simp only [exec,iter] at h2 ⊢
   rw [exec_mono (CLe.refl _) (show n1 ≤ max n1 n2 + 1 by omega) _ _ _ h1]
   exact iter_mono (fun s=>exec_mono (CLe.refl _) (show n2 ≤ max n1 n2 + 1 by omega) b s) n2 (max n1 n2) (by omega) _ _ h2
  ·rename_i hne
   obtain ⟨n1,h1⟩:=(execW_iff _).1 h
   refine ⟨n1 + 1,?_⟩
   simp only [exec,iter]
   rw [exec_mono (CLe.refl _) (Nat.le_succ n1) _ _ _ h1]
   split
   ·rename_i heq;cases heq;exact absurd h (hne _)
   ·rfl
theorem execW_rfun (f:AOpd) (ps:List Nat) (asg body:ACode) (s:St):execW base call (.rfun f ps asg body) s = exec 0 base call (.rfun f ps asg body) s:=by
 rw [execW]
 exact lim_const _
theorem roundW_iff {l:Nat} {args:List AVal} {h:List ABox} (x:CRes×List ABox×Bool):roundW call l args h = some x↔∃n,round n call l args h = some x:=
 lim_iff (fun n m hnm=>round_mono (CLe.refl _) hnm) x
def roundEnd (base l:Nat) (t:List AVal) (ps:List Nat) (asg body:ACode) (s:St):Ex→Option (CRes×List ABox×Bool)
 | .nor=>some (leave base (.ret (.bool true)) (s.h.set l (.loop t ps asg body .ready none)) s.e)
 | .ret=>some (leave base (.ret (.bool false)) (s.h.set l (.loop t ps asg body .done (some .ret))) s.e)
 | .exit id=>some (leave base (.ret (.bool false)) (s.h.set l (.loop t ps asg body .done (some (.exit id)))) s.e)
 | .pan _=>none
theorem roundW_of {l:Nat} {args:List AVal} {h:List ABox} {t:List AVal} {ps:List Nat} {asg body:ACode} {st:LSt} {pend:Option Jump} {s:St} {t1:List AVal} {ps1:List Nat} {asg1 body1:ACode} {pend1:Option Jump} {x:Ex} {s2:St} {t2:List AVal} {ps2:List Nat} {asg2 body2:ACode} {st2:LSt} {pend2:Option Jump} {r:CRes×List ABox×Bool}
  (h0:h[l]? = some (.loop t ps asg body st pend)) (hl:args.length = ps.length) (h1:execW h.length call asg ⟨zips t ps (args.map AVal.dim),h,false⟩ = some (.nor,s))
  (h2:s.h[l]? = some (.loop t1 ps1 asg1 body1 .ready pend1)) (h3:execW h.length call body { s with h:=s.h.set l (.loop t1 ps1 asg1 body1 .busy pend1)} = some (x,s2))
  (h4:s2.h[l]? = some (.loop t2 ps2 asg2 body2 st2 pend2))
  (h5:roundEnd h.length l t2 ps2 asg2 body2 s2 x = some r):roundW call l args h = some r:=by
 obtain ⟨n1,e1⟩:=(execW_iff _).1 h1
 obtain ⟨n2,e2⟩:=(execW_iff _).1 h3
 refine (roundW_iff _).2 ⟨max n1 n2,?_⟩
 simp only [round,h0]
 rw [if_neg (by simp [hl]),exec_mono (CLe.refl _) (Nat.le_max_left n1 n2) _ _ _ e1]
 simp only [h2]
 rw [exec_mono (CLe.refl _) (Nat.le_max_right n1 n2) _ _ _ e2]
 simp only [h4]
 cases x <;> exact h5
end
section
variable {F:FuncId→Option AFunc} {X:Exts}
noncomputable def W (F:FuncId→Option AFunc) (X:Exts):Call:=limc (run F X)
structure XFine (X:Exts):Prop where
 mono:XMono X
 cont:∀f g,X f = some g→∀c,CChain c→∀aS h x,g (limc c) aS h = some x→∃k,g (c k) aS h = some x
theorem W_iff (hX:XFine X) {fv:AVal} {aS:List AVal} {h:List ABox} (x:CRes×List ABox×Bool):W F X fv aS h = some x↔∃n,run F X n fv aS h = some x:=
 limc_iff (run_mono hX.mono) x
theorem W_fn (hX:XFine X) {f:FuncId} {first args cap:List AVal} {h:List ABox} {fn:AFunc} (h1:X f = none) (h2:F f = some fn) :
  W F X (.fn f first cap) args h = endOf fn h (execW h.length (W F X) fn.code ⟨(first ++ args ++ cap).map AVal.dim ++ List.replicate (fn.ntmps - ((first ++ args ++ cap).map AVal.dim).length) (.tup []),h,false⟩):=by
 have hch:=run_mono (F:=F) hX.mono
 apply Option.ext
 intro x
 rw [W_iff hX]
 constructor
 ·rintro ⟨n,hn⟩
  cases n with
  | zero=>cases hn
  | succ n=>
   rw [run_fn h1 h2] at hn
   cases hq:exec n h.length (run F X n) fn.code ⟨(first ++ args ++ cap).map AVal.dim ++ List.replicate (fn.ntmps - ((first ++ args ++ cap).map AVal.dim).length) (.tup []),h,false⟩ with
   | none=>rw [hq] at hn;cases hn
   | some y=>
    rw [hq] at hn
    have e:=(execW_iff y).2 ⟨n,exec_mono (le_limc hch n) (Nat.le_refl _) _ _ _ hq⟩
    rw [W,e]
    exact hn
 ·intro hn
  cases hq:execW h.length (W F X) fn.code ⟨(first ++ args ++ cap).map AVal.dim ++ List.replicate (fn.ntmps - ((first ++ args ++ cap).map AVal.dim).length) (.tup []),h,false⟩ with
  | none=>rw [hq] at hn;cases hn
  | some y=>
   rw [hq] at hn
   obtain ⟨k,hk⟩:=(execW_iff y).1 hq
   obtain ⟨m,hm⟩:=exec_cont hch _ _ _ hk
   refine ⟨max k m + 1,?_⟩
   rw [run_fn h1 h2,exec_mono (hch m _ (Nat.le_max_right k m)) (Nat.le_max_left k m) _ _ _ hm]
   exact hn
theorem W_ext (hX:XFine X) {f:FuncId} {first args cap:List AVal} {h:List ABox} {g:Call→List AVal→List ABox→Option (CRes×List ABox×Bool)} (h1:X f = some g) :
  W F X (.fn f first cap) args h = g (W F X) (first ++ args ++ cap) h:=by
 have hch:=run_mono (F:=F) hX.mono
 apply Option.ext
 intro x
 rw [W_iff hX]
 constructor
 ·rintro ⟨n,hn⟩
  cases n with
  | zero=>cases hn
  | succ n=>
   rw [run_ext h1] at hn
   exact hX.mono f g h1 _ _ (le_limc hch n) _ _ _ hn
 ·intro hn
  obtain ⟨k,hk⟩:=hX.cont f g h1 _ hch _ _ _ hn
  exact ⟨k + 1,by rw [run_ext h1];exact hk⟩
theorem W_yld (hX:XFine X) {l:Nat} {args:List AVal} {h:List ABox}:W F X (.yld l) args h = roundW (W F X) l args h:=by
 have hch:=run_mono (F:=F) hX.mono
 apply Option.ext
 intro x
 rw [W_iff hX,roundW_iff]
 constructor
 ·rintro ⟨n,hn⟩
  cases n with
  | zero=>cases hn
  | succ n=>exact ⟨n,round_mono (le_limc hch n) (Nat.le_refl _) _ hn⟩
 ·rintro ⟨k,hk⟩
  obtain ⟨m,hm⟩:=round_cont hch hk
  exact ⟨max k m + 1,round_mono (hch m _ (Nat.le_max_right k m)) (Nat.le_max_left k m) _ hm⟩
end
end Go.AE
