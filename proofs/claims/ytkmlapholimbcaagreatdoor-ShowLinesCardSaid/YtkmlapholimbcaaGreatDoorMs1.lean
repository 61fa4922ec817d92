/- A part of the proof: the abstract executor and what goes through it (part 1). No condition. -/
import Derived.Test.YtkmlapholimbcaaGreatDoorMs0
import Derived.DeepKeys3
import Derived.MapKept
import Derived.Laws.MakeOwn
set_option maxRecDepth 100000
namespace Go.AE
open Go.MapKept (run_findKey run_getObj_map run_setObj_map)
section
variable {P:Program} {γ:Nat→Option Nat} {imm:Nat→Nat→Option Value}
def litOf:AVal→Lit
 | .bool b=>.bool b
 | .int k n=>.int k n
 | .str s=>.string s
 | _=>.nil
def litAt (cs:List AVal) (p:Nat×SK):Lit:=litOf ((cs[p.1]?).getD .undef)
theorem fit_get {k:SK} {cs:List AVal} {vs:List Value} {o:Nat} (h:VRelL γ imm cs vs) (hf:fitSK k cs[o]? = true) :
  (k = .b∧∃b,cs[o]? = some (.bool b)∧vs[o]? = some (.bool b))∨(∃q n,k = .i q∧cs[o]? = some (.int q n)∧vs[o]? = some (.int q n)∧(Lit.int q n).wf = true)∨
   (k = .s∧∃(s:List UInt8) (b:ByteArray),cs[o]? = some (.str s)∧vs[o]? = some (.string b)∧b.data.toList = s∧s.length ≤ 9223372036854775807):=by
 unfold fitSK at hf
 split at hf
 ·rename_i b hc
  obtain ⟨v,hv,hr⟩:=h.get hc
  simp only [VRel] at hr
  subst hr
  exact .inl ⟨rfl,b,hc,hv⟩
 ·rename_i q j n hc
  obtain ⟨v,hv,hr⟩:=h.get hc
  simp only [VRel] at hr
  subst hr
  simp only [Bool.and_eq_true,beq_iff_eq,ile_eq,decide_eq_true_eq] at hf
  obtain ⟨rfl,h1,h2⟩:=hf
  exact .inr (.inl ⟨q,n,rfl,hc,hv,by simp [Lit.wf,h1,h2]⟩)
 ·rename_i s hc
  obtain ⟨v,hv,hr⟩:=h.get hc
  simp only [VRel] at hr
  obtain ⟨b,rfl,hb⟩:=hr
  exact .inr (.inr ⟨rfl,s,b,hc,hv,hb,by simpa using hf⟩)
 ·cases hf
theorem one_cell {vs:List Value} {o:Nat} {v:Value} (h:vs[o]? = some v):(vs.drop o).take 1 = [v]:=by
 obtain ⟨h1,h2⟩:=List.getElem?_eq_some_iff.1 h
 rw [List.drop_eq_getElem_cons h1]
 simp [h2]
theorem leaves_lits:∀(d:Nat) (t:TypeId) (off:Nat) (ls:List (Nat×SK)),leaves P d t off = some ls→∀(cs:List AVal) (vs:List Value),VRelL γ imm cs vs→fitSh ls cs = true→off + P.cellsOf t ≤ vs.length→
  P.keyLits d t ((vs.drop off).take (P.cellsOf t)) = some (ls.map (litAt cs))
 | 0,_,_,_,h=>by simp [leaves] at h
 | d + 1,t,off,ls,h=>by
  intro cs vs hv hf hle
  unfold leaves at h
  unfold Program.keyLits
  split at h
  ·rename_i hu
   split at h
   ·rename_i h1
    cases h
    simp only [fitSh,List.all_cons,List.all_nil,Bool.and_true] at hf
    rcases fit_get hv hf with ⟨_,b,e1,e2⟩ | ⟨q,n,e0,_⟩ | ⟨e0,_⟩
    ·rw [h1,one_cell e2]
     simp [hu,litAt,e1,litOf]
    ·cases e0
    ·cases e0
   ·cases h
  ·rename_i q hu
   split at h
   ·rename_i h1
    cases h
    simp only [fitSh,List.all_cons,List.all_nil,Bool.and_true] at hf
    rcases fit_get hv hf with ⟨e0,_⟩ | ⟨q,n,e0,e1,e2,e3⟩ | ⟨e0,_⟩
    ·cases e0
    ·cases e0
     rw [h1,one_cell e2]
     simp [hu,litAt,e1,litOf,e3]
    ·cases e0
   ·cases h
  ·rename_i hu
   split at h
   ·rename_i h1
    cases h
    simp only [fitSh,List.all_cons,List.all_nil,Bool.and_true] at hf
    rcases fit_get hv hf with ⟨e0,_⟩ | ⟨q,n,e0,_⟩ | ⟨_,s,b,e1,e2,e3,e4⟩
    ·cases e0
    ·cases e0
    ·rw [h1,one_cell e2]
     have:b.size ≤ maxLen:=by
      have:b.size = s.length:=by rw [←e3];rfl
      rw [this]
      simp only [maxLen]
      omega
     simp [hu,litAt,e1,litOf,this,e3]
   ·cases h
  ·rename_i fs hu
   split at h
   ·rename_i hall
    simp only [Option.map_eq_some_iff] at h
    obtain ⟨lss,hm,rfl⟩:=h
    have hlen:((vs.drop off).take (P.cellsOf t)).length = P.cellsOf t:=by simp;omega
    have hall' : ∀ f ∈ fs.toList, f.name ≠ "_" ∧ f.offset + P.cellsOf f.type ≤ P.cellsOf t := fun f hf' => by
     rw [Array.all_eq_true_iff_forall_mem] at hall
     have:=hall f (by simpa using hf')
     simpa using this
    have key:∀(L:List Field) (lss:List (List (Nat×SK))),(∀f ∈ L,f.offset + P.cellsOf f.type ≤ P.cellsOf t)→(L.mapM fun f=>leaves P d f.type (off + f.offset)) = some lss→fitSh lss.flatten cs = true→
      (L.mapM fun f=>P.keyLits d f.type ((((vs.drop off).take (P.cellsOf t)).drop f.offset).take (P.cellsOf f.type))) = some (lss.map fun ls=>ls.map (litAt cs)):=by
     intro L
     induction L with
     | nil=>intro lss _ h1 _;simp at h1;subst h1;rfl
     | cons f L ih=>
      intro lss hb h1 h2
      simp only [List.mapM_cons,Option.pure_def,Option.bind_eq_bind,Option.bind_eq_some_iff] at h1
      obtain ⟨l0,h3,ls',h4,h5⟩:=h1
      cases h5
      simp only [List.flatten_cons,fitSh,List.all_append,Bool.and_eq_true] at h2
      have hbf:=hb f (by simp)
      have h6:=leaves_lits d f.type (off + f.offset) l0 h3 cs vs hv h2.1 (by omega)
      have h7:=ih ls' (fun g hg=>hb g (by simp [hg])) h4 h2.2
      have h8:(((vs.drop off).take (P.cellsOf t)).drop f.offset).take (P.cellsOf f.type) = (vs.drop (off + f.offset)).take (P.cellsOf f.type):=by
       rw [List.drop_take,List.take_take,List.drop_drop,Nat.min_eq_left (by omega)]
      simp only [List.mapM_cons,Option.pure_def,Option.bind_eq_bind,h8,h6,h7,Option.bind_some,List.map_cons]
    have hk:=key fs.toList lss (fun f hf'=>(hall' f hf').2) hm hf
    have hnm : fs.all (fun f => f.name != "_") = true := by
     rw [Array.all_eq_true_iff_forall_mem]
     intro f hf'
     have:=(hall' f (by simpa using hf')).1
     simpa using this
    simp only [hu]
    rw [if_pos ⟨hlen,hnm⟩,hk]
    simp [List.map_flatten]
   ·cases h
  ·cases h
theorem cell_lit {k:SK} {a b:AVal} (ha:fitSK k (some a) = true) (hb:fitSK k (some b) = true):∃c,cellEq a b = some c∧(c = true↔litOf a = litOf b):=by
 cases k
 ·cases a <;> simp only [fitSK,Bool.false_eq_true] at ha
  cases b <;> simp only [fitSK,Bool.false_eq_true] at hb
  exact ⟨_,rfl,by simp [litOf]⟩
 ·cases a <;> simp only [fitSK,Bool.false_eq_true] at ha
  cases b <;> simp only [fitSK,Bool.false_eq_true] at hb
  simp only [Bool.and_eq_true,beq_iff_eq] at ha hb
  obtain ⟨rfl,_⟩:=ha
  obtain ⟨rfl,_⟩:=hb
  exact ⟨_,if_pos rfl,by simp [litOf]⟩
 ·cases a <;> simp only [fitSK,Bool.false_eq_true] at ha
  cases b <;> simp only [fitSK,Bool.false_eq_true] at hb
  exact ⟨_,rfl,by simp [litOf]⟩
theorem eqCells_iff {x y:List AVal}:∀{ls:List (Nat×SK)},fitSh ls x = true→fitSh ls y = true→(eqCells x y ls = true↔ls.map (litAt x) = ls.map (litAt y))
 | [],_,_=>by simp [eqCells]
 | p :: ls,hx,hy=>by
  simp only [fitSh,List.all_cons,Bool.and_eq_true] at hx hy
  have ih:=eqCells_iff (ls:=ls) hx.2 hy.2
  obtain ⟨o,k⟩:=p
  obtain ⟨hx1,_⟩:=hx
  obtain ⟨hy1,_⟩:=hy
  simp only at hx1 hy1
  cases hxo:x[o]? with
  | none=>rw [hxo] at hx1;cases k <;> simp [fitSK] at hx1
  | some a=>
   cases hyo:y[o]? with
   | none=>rw [hyo] at hy1;cases k <;> simp [fitSK] at hy1
   | some b=>
    rw [hxo] at hx1
    rw [hyo] at hy1
    obtain ⟨c,h1,h2⟩:=cell_lit hx1 hy1
    simp only [eqCells,hxo,hyo,h1,List.map_cons,List.cons.injEq,litAt,Option.getD_some,←h2]
    cases c
    ·simp
    ·simpa using ih
theorem fitKey_spec {kt:TypeId} {sh:Shape} (hs:shapeOf P kt = some sh) {x:AVal} {v:Value} (hv:VRel γ imm x v) (hf:fitKey sh x = true) :
  P.keyTypeAt deep kt = true∧P.tiled deep kt = true∧fitSh sh.ls x.cells = true∧v.formed P kt = true∧P.keyLits deep kt v.cells.toList = some (sh.ls.map (litAt x.cells))∧
   (sh.agg = true→∃c,v = .agg c)∧(sh.agg = isStructT (P.underlying kt))∧(sh.agg = false→x.storable = true):=by
 unfold shapeOf at hs
 split at hs
 ·rename_i hk
  simp only [Bool.and_eq_true] at hk
  simp only [Option.map_eq_some_iff] at hs
  obtain ⟨ls,hl,rfl⟩:=hs
  have fin:fitSh ls x.cells = true→VRelL γ imm x.cells v.cells.toList→v.cells.toList.length = P.cellsOf kt→P.keyLits deep kt v.cells.toList = some (ls.map (litAt x.cells)):=fun h1 h2 h3=>by
   have:=leaves_lits deep kt 0 ls hl x.cells v.cells.toList h2 h1 (by omega)
   rwa [List.drop_zero,←h3,List.take_length] at this
  unfold fitKey at hf
  split at hf
  ·rename_i cs
   simp only [Bool.and_eq_true,beq_iff_eq] at hf
   obtain ⟨⟨h1,h2⟩,h3⟩:=hf
   simp only [VRel] at hv
   obtain ⟨c,rfl,hc⟩:=hv
   have hlen:c.toList.length = P.cellsOf kt:=by rw [←hc.length];exact h2
   refine ⟨hk.1,hk.2,h3,?_,fin h3 (by simpa [AVal.cells,Value.cells] using hc) (by simpa [Value.cells] using hlen),fun _=>⟨c,rfl⟩,rfl,fun h=>by rw [h1] at h;cases h⟩
   unfold isStructT at h1
   split at h1
   ·rename_i fs hu
    simp only [Value.formed,hu]
    simpa using hlen
   ·cases h1
  ·rename_i hna
   simp only [Bool.and_eq_true,Bool.not_eq_true'] at hf
   obtain ⟨h1,h2⟩:=hf
   have hsc:∃k,ls = [(0,k)]∧P.cellsOf kt = 1∧(∀fs,P.underlying kt ≠ some (.struct fs))∧∀n e,P.underlying kt ≠ some (.array n e):=by
    unfold deep leaves at hl
    split at hl
    ·rename_i hu;split at hl
     ·cases hl;exact ⟨_,rfl,‹_›,by simp [hu],by simp [hu]⟩
     ·cases hl
    ·rename_i hu;split at hl
     ·cases hl;exact ⟨_,rfl,‹_›,by simp [hu],by simp [hu]⟩
     ·cases hl
    ·rename_i hu;split at hl
     ·cases hl;exact ⟨_,rfl,‹_›,by simp [hu],by simp [hu]⟩
     ·cases hl
    ·rename_i fs hu
     simp [isStructT,hu] at h1
    ·cases hl
   obtain ⟨k,rfl,hc1,hns,hnar⟩:=hsc
   have hst:x.storable = true:=by
    simp only [fitSh,List.all_cons,List.all_nil,Bool.and_true] at h2
    unfold fitSK at h2
    split at h2 <;> first | (rename_i e;simp at e;subst e;rfl) | cases h2
   have hxc:x.cells = [x]:=storable_cells hst
   obtain ⟨hr1,hr2⟩:=cells_rel hv (by rw [hxc];simp [hst])
   refine ⟨hk.1,hk.2,by rw [hxc];exact h2,?_,fin (by rw [hxc];exact h2) hr1 (by rw [←hr1.length,hxc,hc1];rfl),(fun h=>absurd (show isStructT (P.underlying kt) = true from h) (by rw [h1];simp)),rfl,fun _=>hst⟩
   cases v <;> simp only [Value.formed] <;> first
    | (cases hu:P.underlying kt with
       | none=>rfl
       | some kd=>cases kd <;> first | rfl | exact absurd hu (hns _) | exact absurd hu (hnar _ _))
    | (exfalso
       cases x <;> simp only [VRel] at hv <;> first
        | (cases hv;done)
        | (simp [AVal.storable] at hst;done)
        | (obtain ⟨_,hv⟩:=hv;cases hv;done)
        | (obtain ⟨_,hv,_⟩:=hv;cases hv;done)
        | (obtain ⟨_,_,hv⟩:=hv;cases hv;done)
        | (obtain ⟨_,_,hv,_⟩:=hv;cases hv;done)
        | (obtain ⟨_,_,_,hv,_⟩:=hv;cases hv;done))
 ·cases hs
theorem eqSh_spec {sh:Shape} {x y:AVal} {r:Bool} (h:eqSh sh x y = some r):fitKey sh x = true∧fitKey sh y = true∧r = eqCells x.cells y.cells sh.ls:=by
 unfold eqSh at h
 split at h
 ·rename_i hh
  simp only [Bool.and_eq_true] at hh
  cases h
  exact ⟨hh.1,hh.2,rfl⟩
 ·cases h
theorem key_eq {kt:TypeId} {sh:Shape} (hs:shapeOf P kt = some sh) {x y:AVal} {vx vy:Value} (hx:VRel γ imm x vx) (hy:VRel γ imm y vy) {r:Bool} (he:eqSh sh x y = some r) (w:World) :
  (Op.equal kt vx vy).run P w = .ok r w∧(r = true→vx = vy):=by
 obtain ⟨fx,fy,hr⟩:=eqSh_spec he
 obtain ⟨k1,k2,x1,x2,x3,x4,x5,x6⟩:=fitKey_spec hs hx fx
 obtain ⟨_,_,y1,y2,y3,y4,_,y6⟩:=fitKey_spec hs hy fy
 obtain ⟨r',h1,h2⟩:=run_equalIn_deep (10000 - deep) deep kt k1 w _ _ vx vy _ _ x2 y2 x3 y3
 have e0:10000 - deep + deep = 10000:=rfl
 rw [e0] at h1
 have hrr:r = r':=by
  rw [Bool.eq_iff_iff,hr,eqCells_iff x1 y1,h2]
 subst hrr
 refine ⟨h1,fun ht=>?_⟩
 have hl:=h2.1 ht
 have c1:=cells_of_lits deep kt k2 _ _ _ x3
 have c2:=cells_of_lits deep kt k2 _ _ _ y3
 have hc:vx.cells.toList = vy.cells.toList:=by rw [c1,c2,hl]
 cases hagg:sh.agg with
 | true=>
  obtain ⟨a,rfl⟩:=x4 hagg
  obtain ⟨b,rfl⟩:=y4 hagg
  simp only [Value.cells] at hc
  rw [Array.toList_inj.1 hc]
 | false=>
  have one:∀{z:AVal} {v:Value},VRel γ imm z v→z.storable = true→v.cells = #[v]:=fun {z v} hz hst=>by
   have:=(cells_rel hz (by rw [storable_cells hst];simp [hst])).1
   rw [storable_cells hst] at this
   cases v <;> first | rfl | skip
   all_goals
    exfalso
    cases z <;> simp only [VRel] at hz <;> first
     | (cases hz;done)
     | (simp [AVal.storable] at hst;done)
     | (obtain ⟨_,hz⟩:=hz;cases hz;done)
     | (obtain ⟨_,hz,_⟩:=hz;cases hz;done)
     | (obtain ⟨_,_,hz⟩:=hz;cases hz;done)
     | (obtain ⟨_,_,hz,_⟩:=hz;cases hz;done)
     | (obtain ⟨_,_,_,hz,_⟩:=hz;cases hz;done)
  rw [one hx (x6 hagg),one hy (y6 hagg)] at hc
  simpa using hc
theorem key_check {kt:TypeId} {sh:Shape} (hs:shapeOf P kt = some sh) {x:AVal} {vx:Value} (hx:VRel γ imm x vx) (hf:fitKey sh x = true) (em:Bool) (w:World):(Instr.checkKey em 10000 kt vx).run P w = .ok () w:=by
 obtain ⟨k1,k2,x1,x2,x3,x4,x5,x6⟩:=fitKey_spec hs hx hf
 have h:=run_checkKey_deep em (10000 - deep) deep kt k1 w _ vx _ x2 x3
 have e0:10000 - deep + deep = 10000:=rfl
 rwa [e0] at h
theorem key_same {kt:TypeId} {sh:Shape} (hs:shapeOf P kt = some sh) {x:AVal} {vx:Value} (hx:VRel γ imm x vx) (hf:fitKey sh x = true):Instr.sameBits 10000 vx vx = true:=by
 obtain ⟨k1,k2,x1,x2,x3,x4,x5,x6⟩:=fitKey_spec hs hx hf
 have c1:=cells_of_lits deep kt k2 _ _ _ x3
 have hw:=keyLits_wf x3
 have cell:∀u ∈ vx.cells.toList,∀m,Instr.sameBits m u u = true:=fun u hu m=>by
  rw [c1] at hu
  obtain ⟨l,hl,rfl⟩:=List.mem_map.1 hu
  exact sameBits_toCell (hw l hl) m
 cases vx with
 | agg a=>
  simp only [Value.cells] at cell
  simp only [Instr.sameBits,BEq.rfl,Bool.true_and,List.all_eq_true]
  intro p hp
  obtain ⟨i,hi⟩:=List.getElem?_of_mem hp
  rw [List.getElem?_zip_eq_some] at hi
  obtain ⟨h1,h2⟩:=hi
  rw [h1] at h2
  cases p
  simp only at h1 h2
  cases h2
  exact cell _ (List.mem_of_getElem? h1) _
 | _=>exact cell _ (by simp [Value.cells]) _
theorem MapRel.get {G:Ghost}:∀{es:List (Nat×AVal×AVal)} {me:List MapEntry} {i:Nat} {x:Nat×AVal×AVal},MapRel G es me→es[i]? = some x→∃e,me[i]? = some e∧e.born = x.1∧G.V x.2.1 e.key∧G.V x.2.2 e.val
 | [],_,i,x,_,h=>by simp at h
 | y :: es,me,i,x,hm,h=>by
  simp only [MapRel] at hm
  obtain ⟨e,rest,rfl,h1,h2,h3,h4⟩:=hm
  cases i with
  | zero=>simp at h;subst h;exact ⟨e,rfl,h1,h2,h3⟩
  | succ i=>simpa using MapRel.get h4 (by simpa using h)
theorem MapRel.length {G:Ghost}:∀{es:List (Nat×AVal×AVal)} {me:List MapEntry},MapRel G es me→me.length = es.length
 | [],_,h=>by simp only [MapRel] at h;subst h;rfl
 | y :: es,me,hm=>by
  simp only [MapRel] at hm
  obtain ⟨e,rest,rfl,h1,h2,h3,h4⟩:=hm
  simp [MapRel.length h4]
theorem MapRel.modify {G:Ghost} {f:Nat×AVal×AVal→Nat×AVal×AVal} {g:MapEntry→MapEntry} (hfg:∀x e,e.born = x.1→G.V x.2.1 e.key→G.V x.2.2 e.val→(g e).born = (f x).1∧G.V (f x).2.1 (g e).key∧G.V (f x).2.2 (g e).val) :
  ∀{es:List (Nat×AVal×AVal)} {me:List MapEntry} (i:Nat),MapRel G es me→MapRel G (es.modify i f) (me.modify i g)
 | [],_,i,h=>by simp only [MapRel] at h;subst h;simp [MapRel]
 | y :: es,me,i,hm=>by
  simp only [MapRel] at hm
  obtain ⟨e,rest,rfl,h1,h2,h3,h4⟩:=hm
  cases i with
  | zero=>
   simp only [List.modify_zero_cons,MapRel]
   obtain ⟨q1,q2,q3⟩:=hfg y e h1 h2 h3
   exact ⟨_,_,rfl,q1,q2,q3,h4⟩
  | succ i=>
   simp only [List.modify_succ_cons,MapRel]
   exact ⟨e,_,rfl,h1,h2,h3,MapRel.modify hfg i h4⟩
theorem MapRel.append {G:Ghost} {x:Nat×AVal×AVal} {e:MapEntry} (h1:e.born = x.1) (h2:G.V x.2.1 e.key) (h3:G.V x.2.2 e.val):∀{es:List (Nat×AVal×AVal)} {me:List MapEntry},MapRel G es me→MapRel G (es ++ [x]) (me ++ [e])
 | [],_,h=>by simp only [MapRel] at h;subst h;simp only [List.nil_append,MapRel];exact ⟨e,[],rfl,h1,h2,h3,rfl⟩
 | y :: es,me,hm=>by
  simp only [MapRel] at hm
  obtain ⟨e',rest,rfl,g1,g2,g3,g4⟩:=hm
  simp only [List.cons_append,MapRel]
  exact ⟨e',_,rfl,g1,g2,g3,MapRel.append h1 h2 h3 g4⟩
def Found (G:Ghost) (vx:Value) (es:List (Nat×AVal×AVal)) (me:List MapEntry) (i:Nat) (r:Option (Nat×AVal)) (q:Option (Nat×Value)):Prop:=
 match r with
 | none=>q = none
 | some (j,v)=>∃m ent ae,j = i + m∧me[m]? = some ent∧es[m]? = some ae∧ae.2.2 = v∧q = some (j,ent.val)∧G.V v ent.val∧ent.key = vx∧ent.born = ae.1
theorem ask_run {G:Ghost} {kt:TypeId} {sh:Shape} (hs:shapeOf P kt = some sh) {x:AVal} {vx:Value} (hx:G.V x vx) (w:World):∀(es:List (Nat×AVal×AVal)) (me:List MapEntry) (i:Nat) (r:Option (Nat×AVal)),MapRel G es me→findE sh x es i = some r→
  ∃q,(Instr.findAsking kt vx me i).run P w = .ok q w∧Found G vx es me i r q
 | [],me,i,r,hm,hf=>by
  simp only [MapRel] at hm
  subst hm
  simp only [findE] at hf
  split at hf
  ·cases hf
   exact ⟨none,by simp [Instr.findAsking],rfl⟩
  ·cases hf
 | y :: es,me,i,r,hm,hf=>by
  simp only [MapRel] at hm
  obtain ⟨e,rest,rfl,h1,h2,h3,h4⟩:=hm
  simp only [findE] at hf
  split at hf
  ·rename_i he
   cases hf
   obtain ⟨g1,g2⟩:=key_eq hs hx h2 he w
   exact ⟨some (i,e.val),by simp [Instr.findAsking,g1],0,e,y,rfl,rfl,rfl,rfl,rfl,h3,(g2 rfl).symm,h1⟩
  ·rename_i he
   obtain ⟨g1,_⟩:=key_eq hs hx h2 he w
   obtain ⟨q,q1,q2⟩:=ask_run hs hx w es rest (i + 1) r h4 hf
   refine ⟨q,by simp [Instr.findAsking,g1,q1],?_⟩
   unfold Found at q2 ⊢
   split
   ·exact q2
   ·simp only at q2
    obtain ⟨m,ent,ae,rfl,k1,k2,k3⟩:=q2
    exact ⟨m + 1,ent,ae,by omega,by simpa using k1,by simpa using k2,k3⟩
  ·cases hf
theorem fit_scalar {sh:Shape} (ha:sh.agg = false) {k:SK} (hl:sh.ls = [(0,k)]) {x:AVal} (h:fitKey sh x = true):fitSK k (some x) = true∧x.cells = [x]:=by
 unfold fitKey at h
 split at h
 ·simp [ha] at h
 ·rename_i hna
  simp only [ha,hl,fitSh,List.all_cons,List.all_nil,Bool.and_true,Bool.not_false,Bool.true_and] at h
  refine ⟨by simpa using h,?_⟩
  cases x <;> first | rfl | exact absurd rfl (hna _)
theorem same_bool (c:Bool):some c = some (match some c with | some true=>true | _=>false):=by cases c <;> rfl
theorem now_same {kt:TypeId} {kd:TypeDesc} {sh:Shape} (hs:shapeOf P kt = some sh) (hu:P.underlying kt = some kd) (hagg:sh.agg = false) {x y:AVal} {vx vy:Value} (hx:VRel γ imm x vx) (hy:VRel γ imm y vy) {r:Bool} (he:eqSh sh x y = some r) :
  Instr.sameNow kd vx vy = some r:=by
 obtain ⟨fx,fy,hr⟩:=eqSh_spec he
 have hls:(kd = .bool∧sh.ls = [(0,.b)])∨(∃q,kd = .int q∧sh.ls = [(0,.i q)])∨(kd = .string∧sh.ls = [(0,.s)]):=by
  unfold shapeOf at hs
  split at hs
  ·simp only [Option.map_eq_some_iff] at hs
   obtain ⟨ls,hl,rfl⟩:=hs
   unfold deep leaves at hl
   rw [hu] at hl
   cases kd <;> simp only at hl <;> first
    | (cases hl;done)
    | (split at hl
       ·cases hl;first | exact .inl ⟨rfl,rfl⟩ | exact .inr (.inl ⟨_,rfl,rfl⟩) | exact .inr (.inr ⟨rfl,rfl⟩)
       ·cases hl)
    | (simp [hu,isStructT] at hagg;done)
  ·cases hs
 rcases hls with ⟨rfl,hl⟩ | ⟨q,rfl,hl⟩ | ⟨rfl,hl⟩
 ·obtain ⟨f1,c1⟩:=fit_scalar hagg hl fx
  obtain ⟨f2,c2⟩:=fit_scalar hagg hl fy
  rw [c1,c2,hl] at hr
  cases x <;> simp only [fitSK,Bool.false_eq_true] at f1
  cases y <;> simp only [fitSK,Bool.false_eq_true] at f2
  simp only [VRel] at hx hy
  subst hx hy
  rename_i p q
  rw [hr]
  cases p <;> cases q <;> rfl
 ·obtain ⟨f1,c1⟩:=fit_scalar hagg hl fx
  obtain ⟨f2,c2⟩:=fit_scalar hagg hl fy
  rw [c1,c2,hl] at hr
  cases x <;> simp only [fitSK,Bool.false_eq_true] at f1
  cases y <;> simp only [fitSK,Bool.false_eq_true] at f2
  simp only [Bool.and_eq_true,beq_iff_eq] at f1 f2
  obtain ⟨rfl,_⟩:=f1
  obtain ⟨rfl,_⟩:=f2
  simp only [VRel] at hx hy
  subst hx hy
  rw [hr]
  simp only [Instr.sameNow,if_true,eqCells,List.getElem?_cons_zero,cellEq]
  exact same_bool _
 ·obtain ⟨f1,c1⟩:=fit_scalar hagg hl fx
  obtain ⟨f2,c2⟩:=fit_scalar hagg hl fy
  rw [c1,c2,hl] at hr
  cases x <;> simp only [fitSK,Bool.false_eq_true] at f1
  cases y <;> simp only [fitSK,Bool.false_eq_true] at f2
  simp only [VRel] at hx hy
  obtain ⟨b1,rfl,e1⟩:=hx
  obtain ⟨b2,rfl,e2⟩:=hy
  rw [hr]
  rename_i m n
  have hbb:(b1 == b2) = (m == n):=by
   rw [Bool.eq_iff_iff,Go.MapKept.bytes_beq,beq_iff_eq,←e1,←e2]
   constructor
   ·rintro rfl;rfl
   ·intro h;exact ByteArray.ext (Array.toList_inj.1 h)
  simp only [Instr.sameNow,eqCells,List.getElem?_cons_zero,cellEq,hbb]
  exact same_bool _
theorem now_run {G:Ghost} {kt:TypeId} {kd:TypeDesc} {sh:Shape} (hs:shapeOf P kt = some sh) (hu:P.underlying kt = some kd) (hagg:sh.agg = false) {x:AVal} {vx:Value} (hx:G.V x vx):∀(es:List (Nat×AVal×AVal)) (me:List MapEntry) (i:Nat) (r:Option (Nat×AVal)),MapRel G es me→findE sh x es i = some r→
  ∃q,Instr.findNow kd vx me i = some q∧Found G vx es me i r q
 | [],me,i,r,hm,hf=>by
  simp only [MapRel] at hm
  subst hm
  simp only [findE] at hf
  split at hf
  ·cases hf
   exact ⟨none,by simp [Instr.findNow],rfl⟩
  ·cases hf
 | y :: es,me,i,r,hm,hf=>by
  simp only [MapRel] at hm
  obtain ⟨e,rest,rfl,h1,h2,h3,h4⟩:=hm
  have now:∀r',eqSh sh x y.2.1 = some r'→Instr.sameNow kd vx e.key = some r'∧(r' = true→vx = e.key):=fun r' he=>
   ⟨now_same hs hu hagg hx h2 he,(key_eq hs hx h2 he default).2⟩
  simp only [findE] at hf
  split at hf
  ·rename_i he
   cases hf
   obtain ⟨g1,g2⟩:=now _ he
   exact ⟨some (i,e.val),by simp [Instr.findNow,g1],0,e,y,rfl,rfl,rfl,rfl,rfl,h3,(g2 rfl).symm,h1⟩
  ·rename_i he
   obtain ⟨g1,_⟩:=now _ he
   obtain ⟨q,q1,q2⟩:=now_run hs hu hagg hx es rest (i + 1) r h4 hf
   refine ⟨q,by simp [Instr.findNow,g1,q1],?_⟩
   unfold Found at q2 ⊢
   split
   ·exact q2
   ·simp only at q2
    obtain ⟨m,ent,ae,rfl,k1,k2,k3⟩:=q2
    exact ⟨m + 1,ent,ae,by omega,by simpa using k1,by simpa using k2,k3⟩
  ·cases hf
theorem find_run {G:Ghost} {kt:TypeId} {sh:Shape} (hs:shapeOf P kt = some sh) {x:AVal} {vx:Value} (hx:G.V x vx) (hfx:fitKey sh x = true) (w:World) {es:List (Nat×AVal×AVal)} {me:List MapEntry} {r:Option (Nat×AVal)} (hm:MapRel G es me) (hf:findE sh x es 0 = some r) :
  ∃q,(Instr.findKey kt vx me).run P w = .ok q w∧Found G vx es me 0 r q:=by
 obtain ⟨_,_,_,_,_,_,h5,_⟩:=fitKey_spec hs hx hfx
 cases hagg:sh.agg with
 | true=>
  rw [hagg] at h5
  rw [run_findKey_eq w (by
   unfold isStructT at h5
   split at h5
   ·rename_i fs hu;simp [hu]
   ·cases h5)]
  exact ask_run hs hx w es me 0 r hm hf
 | false=>
  cases hu:P.underlying kt with
  | none=>
   exfalso
   unfold shapeOf at hs
   split at hs
   ·rename_i hk
    simp [deep,Program.keyTypeAt,hu] at hk
   ·cases hs
  | some kd=>
   obtain ⟨q,q1,q2⟩:=now_run hs hu hagg hx es me 0 r hm hf
   exact ⟨q,run_findKey hu q1,q2⟩
theorem find_fit {sh:Shape} {x:AVal}:∀{es:List (Nat×AVal×AVal)} {i:Nat} {r:Option (Nat×AVal)},findE sh x es i = some r→fitKey sh x = true
 | [],_,_,h=>by
  simp only [findE] at h
  split at h
  ·assumption
  ·cases h
 | y :: es,i,r,h=>by
  simp only [findE] at h
  split at h
  ·rename_i he;exact (eqSh_spec he).1
  ·rename_i he;exact (eqSh_spec he).1
  ·cases h
end
end Go.AE
namespace Go.AE
section
variable {P:Program} {gl:Nat→Option (List AVal)} {G G':Ghost} {w w':World} {h:List ABox} {t:List AVal} {a:Act} {n:Nat}
theorem elemOK_spec {e:TypeId} {k:Nat} {z:List AVal} (he:elemOK P e = some (k,z)):∃i zz zv,P.info? e = some i∧i.zero = some zv∧i.size = k∧k ≠ 0∧i.bytes ≤ 65536∧zeroOf P e = some zz∧zz.cells = z∧z.length = k∧
  (∀γ imm,VRelL γ imm z zv.cells.toList):=by
 unfold elemOK at he
 split at he
 ·rename_i i zz hi hz
  split at he
  ·cases he
  ·rename_i hh
   cases he
   have hz':=hz
   unfold zeroOf at hz'
   rw [hi] at hz'
   simp only at hz'
   obtain ⟨zv,hz1,hz2⟩:=bindO (by simpa [Option.bind_eq_bind] using hz')
   exact ⟨i,zz,zv,hi,hz1,rfl,by omega,by omega,hz,rfl,by omega,fun γ imm=>zcells_rel hz2⟩
 ·cases he
theorem zeroVal_run {ty:TypeId} {z:AVal} (hz:zeroOf P ty = some z) (w:World):∃u,(zeroValue ty).run P w = .ok u w∧(∀γ imm,VRel γ imm z u):=by
 unfold zeroOf at hz
 split at hz
 ·rename_i i hi
  obtain ⟨v,h1,h2⟩:=bindO (by simpa [Option.bind_eq_bind] using hz)
  exact ⟨v,by simp [zeroValue,typeInfo,hi,h1],fun γ imm=>(const_rel h2).1⟩
 ·cases hz
theorem zeroLk_run {ty:TypeId} {z:AVal} (hz:zeroLk P ty = some z) (w:World):∃u,(zeroValue ty).run P w = .ok u w∧(∀γ imm,VRel γ imm z u):=by
 unfold zeroLk at hz
 split at hz
 ·rename_i i hi
  split at hz
  ·rename_i h1
   cases hz
   exact ⟨.slice none 0 0,by simp [zeroValue,typeInfo,hi,h1],fun γ imm=>by simp [VRel]⟩
  ·obtain ⟨v,h1,h2⟩:=bindO (by simpa [Option.bind_eq_bind] using hz)
   exact ⟨v,by simp [zeroValue,typeInfo,hi,h1],fun γ imm=>(const_rel h2).1⟩
 ·cases hz
theorem hx_mk (hc:Cfg P gl G h t a w) {o:Oper} (hO:OpHx P gl o) {ty e:TypeId} {l c:Operand} {al ac:AOpd} {k:Nat} {z:List AVal} (ho:o.op = .makeSlice ty l c) (hu:P.underlying ty = some (.slice e)) (he:elemOK P e = some (k,z))
  (hl:opd gl l = some al) (hcc:opd gl c = some ac) {base:Nat} {r:AVal×List ABox×Bool} (hrun:hop base (.mk k z) [ev t al,ev t ac] h = some r):Did P gl G w a o h.length r.2.1 (AE.put o.dst r.1.dim t)∧h.length ≤ r.2.1.length:=by
 obtain ⟨i,zz,zv,hi,hz1,hk,hk0,hby,hz,hzc,hzl,hzr⟩:=elemOK_spec he
 have hvl:=ev_rel hc.rel hc.tr hl
 have hvc:=ev_rel hc.rel hc.tr hcc
 generalize hl':ev t al = xl at hrun hvl
 generalize hc':ev t ac = xc at hrun hvc
 unfold hop at hrun
 split at hrun <;> (try (rename_i hq _;cases hq;done)) <;> (try (rename_i hq;cases hq;done)) <;> (try (cases hrun;done))
 rename_i k' z' k1 n1 k2 n2 hq hq2
 cases hq
 simp only [List.cons.injEq,and_true] at hq2
 obtain ⟨rfl,rfl⟩:=hq2
 split at hrun
 ·rename_i hh
  obtain ⟨g1,g2,g3,g4⟩:=hh
  cases hrun
  simp only [Ghost.V,VRel] at hvl hvc
  subst hk
  have hb:(i.bytes:Int) * n2 ≤ 281474976710656:=by
   have h1:(i.bytes:Int) * n2 ≤ 65536 * 2 ^ 24:=Int.mul_le_mul (by omega) g3 (by omega) (by omega)
   omega
  have hr:=run_make (P:=P) w ty e i zv hu hi hz1 k1 k2 n1 n2 g1 g2 hb (by omega)
  refine ⟨did_fresh hc hO (ob:=.cells (madeCells zv.cells (n2.toNat * i.size)) e) (u:=.slice (some ⟨w.heap.size,0,none⟩) n1.toNat n2.toNat) ?_ (fun G' hx=>?_) (fun G' hg=>?_) rfl,by simp⟩
  ·simp only [execOp,ho]
   exact run_v (by rw [hvl,hvc];exact hr)
  ·refine ⟨_,e,alloc_heap_size w _,front_all ?_,fun o xs k v ho _=>(no_own ho).elim⟩
   exact (rep_cells (hzr _ _) i.size n2.toNat hzl hk0).dims
  ·simp only [Ghost.V,VRel]
   exact ⟨_,n2.toNat,hg,rfl,by omega,Nat.le_refl _,fun _=>rfl,fun hh=>absurd rfl hh⟩
 ·cases hrun
theorem zip_parts (t:List AVal):∀qs:List (Nat×AOpd),((qs.map (·.1)).zip ((qs.map (·.2)).map (ev t))) = qs.map fun q=>(q.1,ev t q.2)
 | []=>rfl
 | q :: qs=>by simp only [List.map_cons,List.zip_cons_cons,zip_parts t qs]
theorem hx_lit (hc:Cfg P gl G h t a w) {o:Oper} (hO:OpHx P gl o) {ty e:TypeId} {ps:Array (Nat×Operand)} {qs:List (Nat×AOpd)} {len k:Nat} {z:List AVal} (ho:o.op = .buildSlice ty len ps) (hu:P.underlying ty = some (.slice e)) (he:elemOK P e = some (k,z))
  (hps:partsL gl ps.toList = some qs) {base:Nat} {r:AVal×List ABox×Bool} (hrun:hop base (.lit k z len (qs.map (·.1))) ((qs.map (·.2)).map (ev t)) h = some r):Did P gl G w a o h.length r.2.1 (AE.put o.dst r.1.dim t)∧h.length ≤ r.2.1.length:=by
 obtain ⟨i,zz,zv,hi,hz1,hk,hk0,hby,hz,hzc,hzl,hzr⟩:=elemOK_spec he
 have hsz:szOf P e = some k:=by simp [szOf,hi,hk]
 have hzu:(zeroValue e).run P w = .ok zv w:=by simp [zeroValue,typeInfo,hi,hz1]
 simp only [hop] at hrun
 split at hrun
 ·rename_i hcond
  split at hrun
  ·rename_i cs hcs
   cases hrun
   obtain ⟨h1,h2⟩:=partsL_spec hc.rel hc.tr k hps
   have hcs':fillS ((List.replicate len z).flatten) (qs.map fun (i,x)=>(i * k,k,ev t x)) = some cs:=by
    rw [←hcs,zip_parts,List.map_map]
    rfl
   have hu0:zv.cells.size = k:=by have:=(hzr G.γ G.imm).length;simp at this;omega
   obtain ⟨c',e1,e2⟩:=fill_run (γ:=G.γ) (imm:=G.imm) (fun i=>some (i * k,k)) (ps.toList.map fun (i,x)=>(i,a.eval x)) (qs.map fun (i,x)=>(i * k,k,ev t x)) _ _ cs (rep_cells (hzr _ _) k len hzl hk0) (by simpa using h1)
    (fun n i v off size x hn hn'=>by
     simp only [List.getElem?_map,Option.map_eq_some_iff] at hn hn'
     obtain ⟨⟨i',x'⟩,hn1,hn2⟩:=hn
     obtain ⟨⟨off',ax'⟩,hn3,hn4⟩:=hn'
     simp only [Prod.mk.injEq] at hn2 hn4
     obtain ⟨rfl,rfl⟩:=hn2
     obtain ⟨rfl,rfl,rfl⟩:=hn4
     obtain ⟨rfl,q2⟩:=h2 n _ _ _ _ hn1 hn3
     exact ⟨rfl,q2⟩) hcs'
   refine ⟨did_fresh hc hO (ob:=.cells c' e) (u:=.slice (some ⟨w.heap.size,0,none⟩) len len) ?_ (fun G' hx=>⟨c',e,alloc_heap_size w _,front_all (hx.VL e2).dims,fun o xs k v ho _=>(no_own ho).elim⟩) (fun G' hg=>?_) rfl,by simp⟩
   ·simp only [execOp,ho]
    refine run_v ?_
    have hlim:¬ (len * k > 2 ^ 24):=by omega
    have e4:(ps.map fun (i,x)=>(i,a.eval x)).toList = ps.toList.map fun (i,x)=>(i,a.eval x):=by simp
    by_cases hz0:len * k = 0
    ·have hl0:len = 0:=by rcases Nat.mul_eq_zero.1 hz0 with h | h;exact h;exact absurd h hk0
     subst hl0
     simp only [Nat.zero_mul] at e1
     have e1':Instr.fill (fun i=>some (i * k,k)) ((Array.range 0).map ((#[]:Array Value)[· % (#[]:Array Value).size]!)) (ps.toList.map fun (i,x)=>(i,a.eval x)) = some c':=by
      have e0:∀f:Nat→Value,(Array.range 0).map f = #[]:=fun f=>by apply Array.ext';simp
      rw [e0] at e1 ⊢
      exact e1
     simp only [Instr.buildSlice,Sem.run_bind,run_underlying hu,Result.andThen_ok,szOf_run hsz,Nat.zero_mul,gt_iff_lt,Nat.not_lt_zero,if_false,Sem.run_pure,if_true,e4,e1']
     simp [newRow]
    ·simp only [Instr.buildSlice,Sem.run_bind,run_underlying hu,Result.andThen_ok,szOf_run hsz,if_neg hlim,if_neg hz0,Sem.run_pure,hzu,e4,e1]
     simp [newRow]
   ·simp only [Ghost.V,VRel]
    exact ⟨_,len,hg,rfl,Nat.le_refl _,Nat.le_refl _,fun _=>rfl,fun hh=>absurd rfl hh⟩
  ·cases hrun
 ·cases hrun
theorem hx_mkm (hc:Cfg P gl G h t a w) {o:Oper} (hO:OpHx P gl o) {ty:TypeId} (ho:o.op = .makeMap ty none) {base:Nat} {r:AVal×List ABox×Bool} (hrun:hop base .mkm [] h = some r) :
  Did P gl G w a o h.length r.2.1 (AE.put o.dst r.1.dim t)∧h.length ≤ r.2.1.length:=by
 simp only [hop,Option.some.injEq] at hrun
 subst hrun
 refine ⟨did_fresh hc hO (ob:=.map #[] 0) (u:=.map (some w.heap.size)) ?_ (fun G' hx=>⟨#[],alloc_heap_size w _,by simp [MapRel]⟩) (fun G' hg=>?_) rfl,by simp⟩
 ·simp only [execOp,ho]
  exact run_v rfl
 ·simp only [Ghost.V,VRel]
  exact ⟨_,hg,rfl⟩
theorem bldZ_spec {t:TypeId} {e:Nat} (h:bldZ P gl t = some e) (w:World):(zeroValue t).run P w = .ok (.agg #[.pointer none,.slice none 0 0]) w:=by
 unfold bldZ at h
 split at h
 ·rename_i i _ hi
  split at h
  ·rename_i a hz
   split at h
   ·rename_i ha
    have:a = #[.pointer none,.slice none 0 0]:=by rw [←Array.toArray_toList (xs:=a),ha]
    subst this
    simp [zeroValue,typeInfo,Sem.run,hi,hz]
   ·cases h
  ·cases h
 ·cases h
theorem hx_bld (hc:Cfg P gl G h t a w) {o:Oper} (hO:OpHx P gl o) {ty:TypeId} {e:Nat} (ho:o.op = .alloc ty) (hz:bldZ P gl ty = some e) {base:Nat} {r:AVal×List ABox×Bool} (hrun:hop base (.bld ty e) [] h = some r) :
  Did P gl G w a o h.length r.2.1 (AE.put o.dst r.1.dim t)∧h.length ≤ r.2.1.length:=by
 simp only [hop,Option.some.injEq] at hrun
 subst hrun
 refine ⟨did_fresh hc hO (ob:=.cells #[.pointer none,.slice none 0 0] ty (0,0)) (u:=.pointer (some ⟨w.heap.size,0,none⟩)) ?_ (fun G' hx=>⟨_,_,alloc_heap_size w _,.inl rfl,World.ownsRowF_nil _ _ _ _,fun g hg=>by simp [Value.ownBlock] at hg⟩) (fun G' hg=>?_) rfl,by simp⟩
 ·simp only [execOp,ho]
  refine run_v ?_
  simp [Instr.alloc,bldZ_spec hz,newVar,newRow,Value.cells]
 ·simp only [Ghost.V,VRel]
  exact ⟨_,hg,rfl⟩
theorem get_map {r:Nat} {es:Array MapEntry} {clock:Nat} (hb:w.heap[r]? = some (.map es clock)):(getObj r).run P w = .ok (.map es clock) w:=by
 simp [getObj,Sem.run,hb]
theorem set_map {r:Nat} {es:Array MapEntry} {clock:Nat} (o:Obj) (hb:w.heap[r]? = some (.map es clock)):(setObj r o).run P w = .ok () (w.putObj r o):=by
 simp [setObj,Sem.run,hb,World.putObj]
theorem map_there (hc:Cfg P gl G h t a w) {id:Nat} {v:Value} {es:List (Nat×AVal×AVal)} {c:Nat} (hv:G.V (.mp id) v) (hid:h[id]? = some (.map es c)):∃b me,v = .map (some b)∧G.γ id = some b∧w.heap[b]? = some (.map me c)∧MapRel G es me.toList:=by
 simp only [Ghost.V,VRel] at hv
 obtain ⟨b,hb,rfl⟩:=hv
 obtain ⟨me,h1,h2⟩:=hc.rel.box id b _ hb hid
 exact ⟨b,me,rfl,hb,h1,h2⟩
theorem hx_mlen (hc:Cfg P gl G h t a w) {o:Oper} {c:Go.Call} {x:Operand} {ty kt et:TypeId} {ax:AOpd} (ho:o.op = .call c) (hcal:c.callee = .builtin .len) (hargs:c.args.toList = [x]) (hty:c.argTypes.toList = [ty]) (hx:opd gl x = some ax)
  (hu:P.underlying ty = some (.map kt et)) {base:Nat} {r:AVal×List ABox×Bool} (hrun:hop base .mlen [ev t ax] h = some r):Did P gl G w a o h.length r.2.1 (AE.put o.dst r.1.dim t)∧h.length ≤ r.2.1.length:=by
 have hv:=ev_rel hc.rel hc.tr hx
 have ea:c.args = #[x]:=by rw [←Array.toArray_toList (xs:=c.args),hargs]
 have et':c.argTypes = #[ty]:=by rw [←Array.toArray_toList (xs:=c.argTypes),hty]
 simp only [hop] at hrun
 split at hrun
 ·rename_i e
  rw [e] at hv
  simp only [Ghost.V,VRel] at hv
  cases hrun
  exact ⟨did_same hc (u:=goInt 0) (by simp [execOp,ho,hcal,ea,et',resolve,invoke,builtin,Builtin.len_,run_underlying hu,hv]) (by simp [Ghost.V,VRel,goInt,AVal.dim]) rfl _,Nat.le_refl _⟩
 ·rename_i id e
  rw [e] at hv
  split at hrun
  ·rename_i es cl hid
   cases hrun
   obtain ⟨b,me,e1,e2,e3,e4⟩:=map_there hc hv hid
   have hl:me.size = es.length:=by simpa using e4.length
   exact ⟨did_same hc (u:=goInt me.size) (by simp [execOp,ho,hcal,ea,et',resolve,invoke,builtin,Builtin.len_,run_underlying hu,e1,get_map e3]) (by simp [Ghost.V,VRel,goInt,hl,AVal.dim]) rfl _,Nat.le_refl _⟩
  ·cases hrun
 ·cases hrun
theorem hx_lk (hc:Cfg P gl G h t a w) {o:Oper} {ty kt et:TypeId} {x i:Operand} {ax ai:AOpd} {ok:Bool} {sh:Shape} {z:AVal} (ho:o.op = .lookup ty x i ok) (hu:P.underlying ty = some (.map kt et)) (hs:shapeOf P kt = some sh) (hz:zeroLk P et = some z)
  (hx:opd gl x = some ax) (hi:opd gl i = some ai) {r:AVal} (hrun:lkAt h sh z ok (ev t ax) (ev t ai) = some r):Did P gl G w a o h.length h (AE.put o.dst r t):=by
 have hv:=ev_rel hc.rel hc.tr hx
 have hk:=ev_rel hc.rel hc.tr hi
 obtain ⟨zv,hzv,hzr⟩:=zeroLk_run hz w
 simp only [lkAt] at hrun
 have fin:∀(es:List (Nat×AVal×AVal)) (me:List MapEntry) (em:Bool),MapRel G es me→
   (∀(q:Option (Nat×Value)),(Instr.findKey kt (a.eval i) me).run P w = .ok q w→(Instr.checkKey em 10000 kt (a.eval i)).run P w = .ok () w→
    (Instr.lookup ty (a.eval x) (a.eval i) ok).run P w = .ok (match q with | some (_,v)=>(if ok then .tuple #[v,.bool true] else v) | none=>(if ok then .tuple #[zv,.bool false] else zv)) w)→
   (match findE sh (ev t ai) es 0 with
    | some (some (_,v))=>some (if ok then AVal.tup [v.dim,.bool true] else v.dim)
    | some none=>some (if ok then AVal.tup [z.dim,.bool false] else z.dim)
    | none=>none) = some r→Did P gl G w a o h.length h (AE.put o.dst r t):=by
  intro es me em hm hlook hrr
  split at hrr
  ·rename_i j v hf
   cases hrr
   have hfit:=find_fit hf
   obtain ⟨q,q1,q2⟩:=find_run hs hk hfit w hm hf
   obtain ⟨m,ent,ae,g1,g2,g3,g4,rfl,g6,g7,g8⟩:=q2
   have hl:=hlook _ q1 (key_check hs hk hfit em w)
   refine did_same hc (u:=if ok then .tuple #[ent.val,.bool true] else ent.val) (by simp only [execOp,ho];exact run_v hl) ?_ (by cases ok;exact dim_dim _;rfl) _
   cases ok
   ·exact dim_rel g6
   ·simp only [if_true,Ghost.V,VRel,VRelL]
    exact ⟨_,rfl,_,_,rfl,dim_rel g6,_,_,rfl,rfl,rfl⟩
  ·rename_i hf
   cases hrr
   have hfit:=find_fit hf
   obtain ⟨q,q1,q2⟩:=find_run hs hk hfit w hm hf
   simp only [Found] at q2
   subst q2
   have hl:=hlook _ q1 (key_check hs hk hfit em w)
   refine did_same hc (u:=if ok then .tuple #[zv,.bool false] else zv) (by simp only [execOp,ho];exact run_v hl) ?_ (by cases ok;exact dim_dim _;rfl) _
   cases ok
   ·exact dim_rel (hzr _ _)
   ·simp only [if_true,Ghost.V,VRel,VRelL]
    exact ⟨_,rfl,_,_,rfl,dim_rel (hzr _ _),_,_,rfl,rfl,rfl⟩
  ·cases hrr
 split at hrun
 ·rename_i es hes
  unfold entsOf at hes
  split at hes
  ·rename_i e
   rw [e] at hv
   simp only [Ghost.V,VRel] at hv
   cases hes
   refine fin [] [] true rfl (fun q h1 h2=>?_) hrun
   simp only [Instr.lookup,Sem.run_bind,run_underlying hu,Result.andThen_ok,hv,Sem.run_pure]
   simp only [show (#[]:Array MapEntry).isEmpty = true from rfl,h2,Result.andThen_ok,h1]
   cases q with
   | none=>cases ok <;> simp [hzv]
   | some q=>cases ok <;> simp
  ·rename_i id e
   rw [e] at hv
   split at hes
   ·rename_i es' cl hid
    cases hes
    obtain ⟨b,me,e1,e2,e3,e4⟩:=map_there hc hv hid
    refine fin _ me.toList me.isEmpty e4 (fun q h1 h2=>?_) hrun
    simp only [Instr.lookup,Sem.run_bind,run_underlying hu,Result.andThen_ok,e1,get_map e3,Sem.run_pure,h2,h1]
    cases q with
    | none=>cases ok <;> simp [hzv]
    | some q=>cases ok <;> simp
   ·cases hes
  ·cases hes
 ·cases hrun
theorem keep_run {old new:Value} (h:old = new) (hs:Instr.sameBits 10000 new new = true) (w:World):(Instr.keyThatStays old new).run P w = .ok new w:=by
 subst h
 simp [Instr.keyThatStays,hs]
theorem hx_mup (hc:Cfg P gl G h t a w) {o:Oper} (hO:OpHx P gl o) {ty kt et:TypeId} {m i v:Operand} {am ai av:AOpd} {sh:Shape} (ho:o.op = .mapUpdate ty m i v) (hu:P.underlying ty = some (.map kt et)) (hs:shapeOf P kt = some sh)
  (hm:opd gl m = some am) (hi:opd gl i = some ai) (hv:opd gl v = some av) {base:Nat} {r:AVal×List ABox×Bool} (hrun:hop base (.mup sh) [ev t am,ev t ai,ev t av] h = some r):Did P gl G w a o h.length r.2.1 (AE.put o.dst r.1.dim t)∧h.length ≤ r.2.1.length:=by
 have hmv:=ev_rel hc.rel hc.tr hm
 have hk:=ev_rel hc.rel hc.tr hi
 have hvv:=ev_rel hc.rel hc.tr hv
 generalize hme:ev t am = xm at hrun hmv
 unfold hop at hrun
 split at hrun <;> (try (rename_i hq _;cases hq;done)) <;> (try (rename_i hq;cases hq;done)) <;> (try (cases hrun;done))
 rename_i sh' id key v' hq hq2
 cases hq
 simp only [List.cons.injEq,and_true] at hq2
 obtain ⟨rfl,rfl,rfl⟩:=hq2
 split at hrun
 ·rename_i es c hid
  obtain ⟨b,me,e1,e2,e3,e4⟩:=map_there hc hmv hid
  split at hrun
  ·rename_i j old hf
   cases hrun
   have hfit:=find_fit hf
   obtain ⟨q,q1,q2⟩:=find_run hs hk hfit w e4 hf
   obtain ⟨m',ent,ae,g1,g2,g3,g4,rfl,g6,g7,g8⟩:=q2
   have hj:j = m':=by omega
   subst hj
   have g2':me[j]? = some ent:=by simpa using g2
   refine ⟨did_turn hc hO e2 hid e3 (es':=es.modify j fun e=>(e.1,ev t ai,ev t av)) (c':=c) (me':=me.modify j fun e=>{ e with key:=a.eval i,val:=a.eval v}) (nx:=.skip) (u:=undef) ?_ (.inr ⟨rfl,rfl⟩) ?_ (by simp [Ghost.V,VRel,VRelL,undef,AVal.dim]) rfl _,by simp⟩
   ·simp only [execOp,ho,e1]
    simp only [Instr.mapUpdate,Sem.run_bind,run_underlying hu,Result.andThen_ok,get_map e3,key_check hs hk hfit false w,q1,g2',Option.map_some,Option.getD_some,keep_run g7 (key_same hs hk hfit) w,set_map _ e3,Sem.run_pure]
    try rfl
   ·rw [Array.toList_modify]
    refine MapRel.modify ?_ j e4
    intro x e h1 h2 h3
    exact ⟨h1,hk,hvv⟩
  ·rename_i hf
   cases hrun
   have hfit:=find_fit hf
   obtain ⟨q,q1,q2⟩:=find_run hs hk hfit w e4 hf
   simp only [Found] at q2
   subst q2
   refine ⟨did_turn hc hO e2 hid e3 (es':=es ++ [(c,ev t ai,ev t av)]) (c':=c + 1) (me':=me.push { key:=a.eval i,val:=a.eval v,born:=c}) (nx:=.skip) (u:=undef) ?_ (.inr ⟨rfl,rfl⟩) ?_ (by simp [Ghost.V,VRel,VRelL,undef,AVal.dim]) rfl _,by simp⟩
   ·simp only [execOp,ho,e1]
    simp only [Instr.mapUpdate,Sem.run_bind,run_underlying hu,Result.andThen_ok,get_map e3,key_check hs hk hfit false w,q1,set_map _ e3,Sem.run_pure]
    try rfl
   ·rw [Array.toList_push]
    exact MapRel.append rfl hk hvv e4
  ·cases hrun
 ·cases hrun
theorem hx_ment (hc:Cfg P gl G h t a w) {o:Oper} (hO:OpHx P gl o) {ty kt et:TypeId} {m i:Operand} {am ai:AOpd} {sh:Shape} {z:AVal} (ho:o.op = .mapEntry ty m i) (hu:P.underlying ty = some (.map kt et)) (hs:shapeOf P kt = some sh) (hz:zeroOf P et = some z)
  (hm:opd gl m = some am) (hi:opd gl i = some ai) {base:Nat} {r:AVal×List ABox×Bool} (hrun:hop base (.ment sh z) [ev t am,ev t ai] h = some r):Did P gl G w a o h.length r.2.1 (AE.put o.dst r.1.dim t)∧h.length ≤ r.2.1.length:=by
 have hmv:=ev_rel hc.rel hc.tr hm
 have hk:=ev_rel hc.rel hc.tr hi
 obtain ⟨zv,hzv,hzr⟩:=zeroVal_run hz w
 generalize hme:ev t am = xm at hrun hmv
 unfold hop at hrun
 split at hrun <;> (try (rename_i hq _;cases hq;done)) <;> (try (rename_i hq;cases hq;done)) <;> (try (cases hrun;done))
 rename_i sh' z' id key hq hq2
 cases hq
 simp only [List.cons.injEq,and_true] at hq2
 obtain ⟨rfl,rfl⟩:=hq2
 split at hrun
 ·rename_i es c hid
  obtain ⟨b,me,e1,e2,e3,e4⟩:=map_there hc hmv hid
  split at hrun
  ·rename_i j old hf
   split at hrun
   ·rename_i ae' hae
    cases hrun
    have hfit:=find_fit hf
    obtain ⟨q,q1,q2⟩:=find_run hs hk hfit w e4 hf
    obtain ⟨m',ent,ae,g1,g2,g3,g4,rfl,g6,g7,g8⟩:=q2
    have hj:j = m':=by omega
    subst hj
    rw [hae] at g3;cases g3
    have g2':me[j]? = some ent:=by simpa using g2
    refine ⟨did_turn hc hO e2 hid e3 (es':=es.modify j fun e=>(e.1,ev t ai,e.2.2)) (c':=c) (me':=me.modify j fun e=>{ e with key:=a.eval i}) (nx:=.value (.tuple #[ent.val,goInt ent.born])) (u:=.tuple #[ent.val,goInt ent.born]) ?_ (.inl rfl) ?_ ?_ (dim_dim _) _,by simp⟩
    ·simp only [execOp,ho,e1]
     refine run_v ?_
     simp only [Instr.mapEntry,Sem.run_bind,run_underlying hu,Result.andThen_ok,get_map e3,key_check hs hk hfit false w,q1,g2',Option.map_some,Option.getD_some,keep_run g7 (key_same hs hk hfit) w,set_map _ e3,Sem.run_pure]
     try rfl
    ·rw [Array.toList_modify]
     refine MapRel.modify ?_ j e4
     intro x e h1 h2 h3
     exact ⟨h1,hk,h3⟩
    ·refine dim_rel ?_
     simp only [Ghost.V,VRel,VRelL]
     exact ⟨_,rfl,_,_,rfl,dim_rel g6,_,_,rfl,by simp [goInt,g8],rfl⟩
   ·cases hrun
  ·rename_i hf
   cases hrun
   have hfit:=find_fit hf
   obtain ⟨q,q1,q2⟩:=find_run hs hk hfit w e4 hf
   simp only [Found] at q2
   subst q2
   refine ⟨did_turn hc hO e2 hid e3 (es':=es ++ [(c,ev t ai,z.dim)]) (c':=c + 1) (me':=me.push { key:=a.eval i,val:=zv,born:=c}) (nx:=.value (.tuple #[zv,goInt c])) (u:=.tuple #[zv,goInt c]) ?_ (.inl rfl) ?_ ?_ (dim_dim _) _,by simp⟩
   ·simp only [execOp,ho,e1]
    refine run_v ?_
    simp only [Instr.mapEntry,Sem.run_bind,run_underlying hu,Result.andThen_ok,get_map e3,key_check hs hk hfit false w,q1,hzv,set_map _ e3,Sem.run_pure]
    try rfl
   ·rw [Array.toList_push]
    exact MapRel.append rfl hk (dim_rel (hzr _ _)) e4
   ·refine dim_rel ?_
    simp only [Ghost.V,VRel,VRelL]
    exact ⟨_,rfl,_,_,rfl,dim_rel (hzr _ _),_,_,rfl,by simp [goInt],rfl⟩
  ·cases hrun
 ·cases hrun
theorem find_born {G:Ghost} {n:Int}:∀{es:List (Nat×AVal×AVal)} {me:List MapEntry},MapRel G es me→me.findIdx? (fun e=>(e.born:Int) == n) = es.findIdx? (fun e=>(e.1:Int) == n)
 | [],_,h=>by simp only [MapRel] at h;subst h;rfl
 | y :: es,me,hm=>by
  simp only [MapRel] at hm
  obtain ⟨e,rest,rfl,g1,g2,g3,g4⟩:=hm
  simp only [List.findIdx?_cons,g1,find_born g4]
theorem hx_mst (hc:Cfg P gl G h t a w) {o:Oper} (hO:OpHx P gl o) {ty:TypeId} {m i v:Operand} {am ai av:AOpd} (ho:o.op = .entryStore ty m i v)
  (hm:opd gl m = some am) (hi:opd gl i = some ai) (hv:opd gl v = some av) {base:Nat} {r:AVal×List ABox×Bool} (hrun:hop base .mst [ev t am,ev t ai,ev t av] h = some r):Did P gl G w a o h.length r.2.1 (AE.put o.dst r.1.dim t)∧h.length ≤ r.2.1.length:=by
 have hmv:=ev_rel hc.rel hc.tr hm
 have hk:=ev_rel hc.rel hc.tr hi
 have hvv:=ev_rel hc.rel hc.tr hv
 generalize hme:ev t am = xm at hrun hmv
 generalize hie:ev t ai = xi at hrun hk
 unfold hop at hrun
 split at hrun <;> (try (rename_i hq _;cases hq;done)) <;> (try (rename_i hq;cases hq;done)) <;> (try (cases hrun;done))
 rename_i id k1 n1 v' hq hq2
 simp only [List.cons.injEq,and_true] at hq2
 obtain ⟨rfl,rfl,rfl⟩:=hq2
 split at hrun
 ·rename_i es c hid
  obtain ⟨b,me,e1,e2,e3,e4⟩:=map_there hc hmv hid
  simp only [Ghost.V,VRel] at hk
  split at hrun
  ·rename_i j hf
   cases hrun
   have hfb:=find_born (n:=n1) e4
   rw [hf] at hfb
   have hfb:me.findIdx? (fun e=>(e.born:Int) == n1) = some j:=by
    rw [←hfb]
    conv=>lhs;rw [←Array.toArray_toList (xs:=me)]
    exact List.findIdx?_toArray ..
   refine ⟨did_turn hc hO e2 hid e3 (es':=es.modify j fun e=>(e.1,e.2.1,ev t av)) (c':=c) (me':=me.modify j fun e=>{ e with val:=a.eval v}) (nx:=.skip) (u:=undef) ?_ (.inr ⟨rfl,rfl⟩) ?_ (by simp [Ghost.V,VRel,VRelL,undef,AVal.dim]) rfl _,by simp⟩
   ·simp only [execOp,ho,e1]
    simp only [Instr.entryStore,Sem.run_bind,get_map e3,Result.andThen_ok,hk,asInt,asIntOf,Sem.run_pure,hfb,set_map _ e3]
    try rfl
   ·rw [Array.toList_modify]
    refine MapRel.modify ?_ j e4
    intro x e h1 h2 h3
    exact ⟨h1,h2,hvv⟩
  ·cases hrun
 ·cases hrun
theorem flat_ints:∀s:List UInt8,flat (ints s) = ints s
 | []=>rfl
 | c :: s=>by
  have:=flat_ints s
  simp only [flat,ints,List.map_cons,List.flatMap_cons,AVal.cells,List.singleton_append] at this ⊢
  rw [this]
theorem ints_dim (s:List UInt8):∀y ∈ ints s,y.dim = y:=by
 intro y hy
 simp only [ints,List.mem_map] at hy
 obtain ⟨c,_,rfl⟩:=hy
 rfl
theorem map_dim (cs:List AVal):∀y ∈ cs.map AVal.dim,y.dim = y:=by
 intro y hy
 obtain ⟨x,_,rfl⟩:=List.mem_map.1 hy
 exact dim_dim x
theorem row_run (hr:Rel P gl G h w) {v:AVal} {val:Value} (hv:G.V v val) {k m:Nat} {ys:List AVal} (hrow:rowOf k h v = some (ys,m)):(∀y ∈ ys,y.dim = y)∧ys.length = m * k∧∃nv:List Value,G.VL ys nv∧
  (∀w1:World,(∀q,w1.cell? q = w.cell? q)→(Builtin.firstCells k m val).run P w1 = .ok nv.toArray w1)∧(Builtin.lenOf val).run P w = .ok m w:=by
 unfold rowOf at hrow
 split at hrow
 ·rename_i xs f
  split at hrow
  ·rename_i hk
   cases hrow
   have hk':∀x ∈ xs,x.cells.length = k:=fun x hx=>by
    rw [List.all_eq_true] at hk
    simpa using hk x hx
   obtain ⟨vs,h1,h2,h3⟩:=first_run (P:=P) hr hv hk'
   exact ⟨map_dim _,by simp [flat_length hk'],vs,VRelL.dims h1,h2,h3⟩
  ·cases hrow
 ·rename_i s
  split at hrow
  ·rename_i hk
   cases hrow
   obtain ⟨vs,h1,h2,h3⟩:=firstS_run (P:=P) (w:=w) hv
   rw [flat_ints] at h1
   exact ⟨ints_dim s,by simp [ints,hk],vs,h1,fun w1 _=>h2 k w1,h3⟩
  ·cases hrow
 ·rename_i id o len cap more
  split at hrow
  ·rename_i cs hid
   split at hrow
   ·rename_i hfit
    cases hrow
    simp only [Ghost.V,VRel] at hv
    obtain ⟨b,c,hb,rfl,h1,h2,_⟩:=hv
    obtain ⟨cc,e,g1,g2,_⟩:=hr.box id b _ hb hid
    have hle:=front_le g2
    have hlen:(((cc.toList.take cs.length).drop o).take (m * k)).length = m * k:=by simp at hle ⊢;omega
    refine ⟨map_dim _,by simp;omega,((cc.toList.take cs.length).drop o).take (m * k),VRelL.dims (VRelL.take _ (VRelL.drop _ g2)),fun w1 hw1=>?_,by simp [Builtin.lenOf]⟩
    have:=run_loadCells_list (P:=P) w1 ⟨b,o,none⟩ (((cc.toList.take cs.length).drop o).take (m * k)) (fun j v hj=>by
     have hjl:=(List.getElem?_eq_some_iff.1 hj).1
     rw [hlen] at hjl
     rw [List.getElem?_take_of_lt hjl,List.getElem?_drop,List.getElem?_take_of_lt (by omega)] at hj
     rw [addr_add,hw1]
     simp only [World.cell?,g1]
     simpa using hj)
    rw [hlen] at this
    simp [Builtin.firstCells,this]
   ·cases hrow
  ·cases hrow
 ·cases hrow
  simp only [Ghost.V,VRel] at hv
  subst hv
  exact ⟨by simp,by simp,[],by simp [Ghost.VL,VRelL],fun w1 _=>by simp [Builtin.firstCells],by simp [Builtin.lenOf]⟩
 ·cases hrow
  simp only [Ghost.V,VRel] at hv
  obtain ⟨b,rfl⟩:=hv
  exact ⟨by simp,by simp,[],by simp [Ghost.VL,VRelL],fun w1 _=>by simp [Builtin.firstCells,loadCells,loadCellsFrom],by simp [Builtin.lenOf]⟩
 ·cases hrow
theorem ones {γ:Nat→Option Nat} {imm:Nat→Nat→Option Value} {ys:List AVal} {nv:List Value} (h:VRelL γ imm ys nv) (hs:ys.all AVal.storable = true):∀v ∈ nv,v.oneCell' = true:=by
 have:VRel γ imm (.agg ys) (.agg nv.toArray):=by simp only [VRel];exact ⟨_,rfl,by simpa using h⟩
 have:=(cells_rel this hs).2
 simpa [Value.cells] using this
theorem hx_app (hc:Cfg P gl G h t a w) {o:Oper} (hO:OpHx P gl o) {c:Go.Call} {x y:Operand} {sT xT e:TypeId} {ux:TypeDesc} {ax ay:AOpd} {k:Nat} {z:List AVal} (ho:o.op = .call c) (hcal:c.callee = .builtin .append)
  (hargs:c.args.toList = [x,y]) (hty:c.argTypes.toList = [sT,xT]) (hu:P.underlying sT = some (.slice e)) (hux:P.underlying xT = some ux) (hux':(∃e',ux = .slice e')∨ux = .string) (he:elemOK P e = some (k,z))
  (hx:opd gl x = some ax) (hy:opd gl y = some ay) {base:Nat} {r:AVal×List ABox×Bool} (hrun:hop base (.app k) [ev t ax,ev t ay] h = some r):Did P gl G w a o h.length r.2.1 (AE.put o.dst r.1.dim t)∧h.length ≤ r.2.1.length:=by
 obtain ⟨i,zz,zv,hi,hz1,hk,hk0,hby,hz,hzc,hzl,hzr⟩:=elemOK_spec he
 have ea:c.args = #[x,y]:=by rw [←Array.toArray_toList (xs:=c.args),hargs]
 have et:c.argTypes = #[sT,xT]:=by rw [←Array.toArray_toList (xs:=c.argTypes),hty]
 have hxv:=ev_rel hc.rel hc.tr hx
 have hyv:=ev_rel hc.rel hc.tr hy
 have hxdim:=ev_dim t ax
 have hu0:∀w1:World,(zeroValue e).run P w1 = .ok zv w1:=fun w1=>by simp [zeroValue,typeInfo,hi,hz1]
 have hu0r:zv.cells.size = i.size:=by have:=(hzr G.γ G.imm).length;simp at this;omega
 have hrunE:∀{v:Value} {w1:World} {bs:Option Addr} {len cap:Nat},a.eval x = .slice bs len cap→(Builtin.append_ #[sT,xT] o.type #[.slice bs len cap,a.eval y]).run P w = .ok v w1→(execOp a.eval o).run P w = .ok (.value v) w1:=by
  intro v w1 bs len cap hval hr
  simp [execOp,ho,hcal,ea,et,resolve,invoke,builtin,hval,hr]
 simp only [hop,hopApp] at hrun
 split at hrun
 ·cases hrun
 rename_i ys m hrow
 split at hrun
 ·cases hrun
 rename_i hst
 have hst:ys.all AVal.storable = true:=by simpa using hst
 obtain ⟨d1,d2,nv,n1,n2,n3⟩:=row_run (P:=P) hc.rel hyv hrow
 have n4:=ones n1 hst
 subst hk
 have hnl:nv.length = m * i.size:=by rw [←n1.length];exact d2
 have none0:∀{bs:Option Addr} {len cap:Nat},a.eval x = .slice bs len cap→len ≤ cap→m = 0→Did P gl G w a o h.length h (AE.put o.dst (ev t ax).dim t):=by
  intro bs len cap hval hle hm
  subst hm
  have hnv:nv = []:=List.eq_nil_of_length_eq_zero (by omega)
  subst hnv
  have hf0:=n2 w (fun _=>rfl)
  have hsz:(sizeOf e).run P w = .ok i.size w:=by simp [sizeOf,typeInfo,hi]
  have hap:(Builtin.append_ #[sT,xT] o.type #[.slice bs len cap,a.eval y]).run P w = .ok (.slice bs len cap) w:=by
   rcases hux' with ⟨e',rfl⟩ | rfl <;> cases bs <;> simp [Builtin.append_,run_underlying hu,run_underlying hux,hsz,n3,hle,hf0,storeCells]
  exact did_same hc (hrunE hval hap) (by rw [←hval];exact dim_rel hxv) (dim_dim _) _
 have fresh:∀{h0:List ABox} (_:Cfg P gl G h0 t a w) {bs:Option Addr} {len cap:Nat} {os:List AVal} {ov:List Value},h0.length = h.length→a.eval x = .slice bs len cap→G.VL os ov→(∀q ∈ os,q.dim = q)→os.length = len * i.size→
   (∀w1:World,(∀q,w1.cell? q = w.cell? q)→(Builtin.firstCells i.size len (.slice bs len cap)).run P w1 = .ok ov.toArray w1)→len + m ≤ limit→m ≠ 0→cap < len + m→
   Did P gl G w a o h.length (h0 ++ [.cells (os ++ ys)]) (AE.put o.dst (AVal.sl h.length 0 (len + m) (len + m) i.size).dim t):=by
  intro h0 hc0 bs len cap os ov hl0 hval ho1 ho2 ho3 ho4 hlim hm hcap
  have hol:ov.length = len * i.size:=by rw [←ho1.length];exact ho3
  obtain ⟨hA,_,_⟩:=append_run (P:=P) (w:=w) hu hux hux' hi n3 o.type ov nv n2 ho4 hlim hby hu0 hu0r hol hnl
  obtain ⟨newCap,d,cc,g1,g2,g3,g4⟩:=hA hcap
  have:=did_grow hc0 hO (hrunE hval g2) (cs:=os ++ ys) (us:=ov ++ nv) (VRelL.append ho1 n1) g4 g3 hk0 g1 (by omega) (fun q hq=>by
   rcases List.mem_append.1 hq with hq | hq
   ·exact ho2 q hq
   ·exact d1 q hq)
  rw [hl0] at this
  exact this
 split at hrun
 ·
  rename_i xs hxe
  have hxv':=hxv
  rw [hxe] at hxv'
  simp only [Ghost.V,VRel] at hxv'
  obtain ⟨bs,len,cap,hval,q1,q2,q3,q4,_,_⟩:=hxv'
  split at hrun
  ·rename_i hm
   cases hrun
   refine ⟨?_,Nat.le_refl _⟩
   exact none0 hval q2 hm
  ·rename_i hm
   split at hrun
   ·rename_i os n hro
    split at hrun
    ·rename_i hlim
     cases hrun
     obtain ⟨e1,e2,ov,o1,o2,o3⟩:=row_run (P:=P) hc.rel hxv hro
     rw [hval] at o2 o3
     have hn:n = len:=by simpa [Builtin.lenOf] using o3.symm
     subst hn
     exact ⟨fresh hc rfl hval o1 e1 e2 o2 hlim hm (by have:=q3 trivial;omega),by simp⟩
    ·cases hrun
   ·cases hrun
 ·
  rename_i id p0 len cap more hxe
  have hxv':=hxv
  rw [hxe] at hxv'
  simp only [Ghost.V,VRel] at hxv'
  obtain ⟨b,cp,hb,hval,q1,q2,q3,q4⟩:=hxv'
  split at hrun
  ·rename_i hm
   cases hrun
   refine ⟨?_,Nat.le_refl _⟩
   exact none0 hval (by omega) hm
  ·rename_i hm
   split at hrun
   ·rename_i hlim
    split at hrun
    ·
     rename_i hcap
     split at hrun
     ·rename_i h' e' hput
      cases hrun
      unfold putCells at hput
      split at hput
      ·rename_i cs hid
       split at hput
       ·rename_i hfit
        cases hput
        obtain ⟨cc,te,g1,g2,_⟩:=hc.rel.box id b _ hb hid
        have hle:=front_le g2
        have hro:rowOf i.size h (ev t ax) = some (((cs.drop p0).take (len * i.size)).map AVal.dim,len):=by
         rw [hxe]
         simp only [rowOf,hid]
         rw [if_pos (by omega)]
        obtain ⟨e1,e2,ov,o1,o2,o3⟩:=row_run (P:=P) hc.rel hxv hro
        rw [hval] at o2
        have hol:ov.length = len * i.size:=by rw [←o1.length];exact e2
        obtain ⟨_,hB,_⟩:=append_run (P:=P) (w:=w) hu hux hux' hi n3 o.type ov nv n2 o2 hlim hby hu0 hu0r hol hnl
        have hfz:p0 + (len + m) * i.size ≤ cc.size:=by
         rw [Nat.add_mul]
         simp at hle
         omega
        have hr:=hB (by omega) b p0 rfl cc te g1 hfz n4
        refine ⟨did_cells hc hO hb hid hfit.1 d1 g1 n1 (hrunE hval hr) (.inl rfl) ?_ rfl _,by simp⟩
        simp only [Ghost.V,VRel,AVal.dim]
        exact ⟨b,cp,hb,rfl,hcap,q2,q3,q4⟩
       ·cases hput
      ·cases hput
     ·cases hrun
    ·rename_i hcap
     split at hrun
     ·rename_i os n ds hro hid
      obtain ⟨e1,e2,ov,o1,o2,o3⟩:=row_run (P:=P) hc.rel hxv hro
      rw [hval] at o2 o3
      have hn:n = len:=by simpa [Builtin.lenOf] using o3.symm
      subst hn
      split at hrun
      ·rename_i hm0
       cases hrun
       exact ⟨fresh hc rfl hval o1 e1 e2 o2 hlim hm (by have:=q3 hm0;omega),by simp⟩
      ·rename_i hm0
       split at hrun
       ·rename_i hcond
        obtain ⟨rfl,rfl,hcd⟩:=hcond
        cases hrun
        have hck:Cfg P gl G (h.set id .dead) t a w:=⟨hc.rel.kill id,hc.tr⟩
        by_cases hcp:n + m ≤ cp
        ·
         have hmk:=q4 hm0
         obtain ⟨k0,cc,te,g1,g2⟩:=hc.rel.immK b _ hmk
         have hol:ov.length = n * i.size:=by rw [←o1.length];exact e2
         obtain ⟨_,hB,_⟩:=append_run (P:=P) (w:=w) hu hux hux' hi n3 o.type ov nv n2 o2 hlim hby hu0 hu0r hol hnl
         have hfz:0 + (n + m) * i.size ≤ cc.size:=by
          have:=Nat.mul_le_mul_right i.size hcp
          omega
         have hr:=hB hcp b 0 rfl cc te g1 hfz n4
         have hfit:0 + n * i.size + nv.length ≤ cc.toList.length:=by
          rw [hnl,Nat.add_assoc,←Nat.add_mul]
          simpa using hfz
         have hov:∀(j:Nat) (v:Value),ov[j]? = some v→cc[j]? = some v:=fun j v hj=>by
          obtain ⟨cc',te',g1',g2',_⟩:=hc.rel.box id b _ hb hid
          rw [g1] at g1'
          cases g1'
          have hj':=(List.getElem?_eq_some_iff.1 hj).1
          have h1:=o2 w (fun _=>rfl)
          have h2:=run_loadCells_list (P:=P) w ⟨b,0,none⟩ (cc.toList.take (n * i.size)) (fun j v hj=>by
           have hjl:=(List.getElem?_eq_some_iff.1 hj).1
           rw [List.getElem?_take_of_lt (by simp at hjl;omega)] at hj
           rw [addr_add]
           simp only [World.cell?,g1,Nat.zero_add]
           simpa using hj)
          have h3:(cc.toList.take (n * i.size)).length = n * i.size:=by simp at hfit ⊢;omega
          rw [h3] at h2
          simp only [Builtin.firstCells] at h1
          rw [h2] at h1
          simp only [Result.ok.injEq,and_true] at h1
          have h4:ov = cc.toList.take (n * i.size):=by
           have:=congrArg Array.toList h1
           simpa using this.symm
          rw [h4,List.getElem?_take_of_lt (by omega)] at hj
          simpa using hj
         have:=did_alias hck hO (id:=id) (cs:=os ++ ys) (us:=ov ++ nv) (k:=i.size) (len:=n + m) (cap:=cp) (p:=0 + n * i.size) hb (fun j hj=>by
           rcases hc.rel.inj j id b hj hb with h1 | h1 | h1
           ·subst h1;exact List.getElem?_set_self (List.getElem?_eq_some_iff.1 hid).1
           ·exact dead_set hid (by simp) h1
           ·rw [hid] at h1;cases h1) (fun o v hv=>Classical.byContradiction fun hm=>by have:=hc.rel.immγ _ o v id hv hm hb;rw [hid] at this;cases this) g1 (by simpa using hfit) (hrunE hval hr) (VRelL.append o1 n1) (fun j v hj=>by
           by_cases hjn:j < ov.length
           ·rw [List.getElem?_append_left hjn] at hj
            rw [(vsplice_get (cs:=cc.toList) (vs:=nv) (o:=0 + n * i.size) (i:=j) hfit).1 (.inl (by omega))]
            simpa using hov j v hj
           ·rw [List.getElem?_append_right (by omega)] at hj
            have hjl:=(List.getElem?_eq_some_iff.1 hj).1
            rw [(vsplice_get (cs:=cc.toList) (vs:=nv) (o:=0 + n * i.size) (i:=j) hfit).2 (by omega) (by omega)]
            rw [show j - (0 + n * i.size) = j - ov.length by omega]
            exact hj) hmk hk0 hcp (fun q hq=>by
           rcases List.mem_append.1 hq with hq | hq
           ·exact e1 q hq
           ·exact d1 q hq)
         rw [List.length_set] at this
         exact ⟨this,by simp⟩
        ·exact ⟨fresh hck (by simp) hval o1 e1 e2 o2 hlim hm (by omega),by simp⟩
       ·cases hrun
     ·cases hrun
   ·cases hrun
 ·rename_i hxe
  have hxv':=hxv
  rw [hxe] at hxv'
  simp only [Ghost.V,VRel] at hxv'
  split at hrun
  ·rename_i hm
   cases hrun
   exact ⟨none0 hxv' (Nat.le_refl _) hm,Nat.le_refl _⟩
  ·rename_i hm
   split at hrun
   ·rename_i hlim
    cases hrun
    have:=fresh hc rfl hxv' (os:=[]) (ov:=[]) (by simp [Ghost.VL,VRelL]) (by simp) (by simp) (fun w1 _=>by simp [Builtin.firstCells]) (by omega) hm (by omega)
    exact ⟨by simpa using this,by simp⟩
   ·cases hrun
 ·cases hrun
theorem hx_sub3 (hc:Cfg P gl G h t a w) {o:Oper} {ty e:TypeId} {x hi mx:Operand} {lo:Option Operand} {ax al ah am:AOpd} {k:Nat} (ho:o.op = .slice ty x lo (some hi) (some mx)) (hu:P.underlying ty = some (.slice e)) (hk:szOf P e = some k)
  (hx:opd gl x = some ax) (hlo:loOpd gl lo = some al) (hhi:opd gl hi = some ah) (hmx:opd gl mx = some am) {base:Nat} {r:AVal×List ABox×Bool}
  (hrun:hop base (.sub3 k) [ev t ax,ev t al,ev t ah,ev t am] h = some r):Did P gl G w a o h.length r.2.1 (AE.put o.dst r.1.dim t)∧h.length ≤ r.2.1.length:=by
 have hxv:=ev_rel hc.rel hc.tr hx
 have hhv:=ev_rel hc.rel hc.tr hhi
 have hmv:=ev_rel hc.rel hc.tr hmx
 have hlv:∀k1 n1,ev t al = .int k1 n1→(lo = none∧n1 = 0)∨∃l,lo = some l∧a.eval l = .int k1 n1:=by
  intro k1 n1 hl
  cases lo with
  | none=>
   simp only [loOpd,Option.some.injEq] at hlo
   subst hlo
   simp only [ev,raw,AVal.dim,AVal.int.injEq] at hl
   exact .inl ⟨rfl,hl.2.symm⟩
  | some l=>
   have:=ev_rel hc.rel hc.tr hlo
   rw [hl] at this
   exact .inr ⟨l,rfl,by simpa [Ghost.V,VRel] using this⟩
 unfold hop at hrun
 split at hrun <;> (try (rename_i hq _;cases hq;done)) <;> (try (rename_i hq;cases hq;done)) <;> (try (cases hrun;done))
 rename_i k' x' k1 n1 k2 n2 k3 n3 hq hq2
 cases hq
 simp only [List.cons.injEq,and_true] at hq2
 obtain ⟨rfl,q1,q2,q3⟩:=hq2
 rw [q2] at hhv
 rw [q3] at hmv
 have hlv2:=hlv _ _ q1
 simp only [Ghost.V,VRel] at hhv hmv
 split at hrun
 rotate_left
 ·cases hrun
 rename_i hle
 have run3:∀bs len cap,a.eval x = .slice bs len cap→n3.toNat ≤ cap→(execOp a.eval o).run P w = .ok (.value (.slice (if n3.toNat = n1.toNat then bs else bs.map (·.add (n1.toNat * k))) (n2.toNat - n1.toNat) (n3.toNat - n1.toNat))) w:=by
  intro bs len cap hval hcap
  have b3:0 ≤ n3∧n3 ≤ (cap:Int):=⟨by omega,by omega⟩
  have b2:0 ≤ n2∧n2 ≤ max n3 0:=⟨by omega,by omega⟩
  have b1:0 ≤ n1∧n1 ≤ max n2 0:=⟨by omega,by omega⟩
  simp only [execOp,ho]
  refine run_v ?_
  rcases hlv2 with ⟨rfl,rfl⟩ | ⟨l,rfl,hl2⟩
  ·simp [Instr.sliceAt,Instr.slice,run_underlying hu,hval,Instr.sliceBounds,Instr.sliceBound,hhv,hmv,asIntOf,b3,b2,szOf_run hk]
  ·simp [Instr.sliceAt,Instr.slice,run_underlying hu,hval,Instr.sliceBounds,Instr.sliceBound,hhv,hmv,hl2,asIntOf,b3,b2,b1,szOf_run hk]
 split at hrun
 ·rename_i xs f hxe
  rw [hxe] at hxv
  simp only [Ghost.V,VRel] at hxv
  obtain ⟨bs,len,cap,hval,g1,g2,g3,g4,g6,g5⟩:=hxv
  split at hrun
  ·rename_i hm
   have hr:=run3 bs len cap hval (by omega)
   split at hrun
   ·rename_i heq
    cases hrun
    refine ⟨did_same hc hr ?_ (dim_dim _) _,Nat.le_refl _⟩
    refine dim_rel ?_
    simp only [Ghost.V,VRel]
    exact ⟨_,_,_,rfl,by simp;omega,by omega,fun _=>by omega,fun _=>by omega,⟨0,by simp⟩,.inl trivial⟩
   ·rename_i hne
    split at hrun
    ·rename_i hh
     obtain ⟨rfl,rfl,h3⟩:=hh
     cases hrun
     refine ⟨did_same hc hr ?_ (dim_dim _) _,Nat.le_refl _⟩
     refine dim_rel ?_
     have hbs:(if n2.toNat = (0:Int).toNat then bs else bs.map (·.add ((0:Int).toNat * k))) = bs:=by
      rw [if_neg (by simp;omega)]
      cases bs with
      | none=>rfl
      | some b0=>
       have:b0.add 0 = b0:=by unfold Addr.add;split <;> simp_all
       simp [this]
     rw [hbs]
     simp only [Ghost.V,VRel]
     exact ⟨bs,_,_,rfl,by simp;omega,by omega,fun _=>by omega,fun hn=>by have:=g4 hn;simp;omega,g6,g5⟩
    ·cases hrun
  ·cases hrun
 ·rename_i id p0 len cap more hxe
  rw [hxe] at hxv
  simp only [Ghost.V,VRel] at hxv
  obtain ⟨b,c,hb,hval,g1,g2,g3,g4⟩:=hxv
  split at hrun
  ·rename_i hm
   have hr:=run3 _ len c hval (by omega)
   split at hrun
   ·rename_i heq
    cases hrun
    refine ⟨did_same hc hr ?_ (dim_dim _) _,Nat.le_refl _⟩
    refine dim_rel ?_
    simp only [Ghost.V,VRel]
    exact ⟨_,_,_,rfl,by simp;omega,by omega,fun _=>by omega,fun _=>by omega,⟨0,by simp⟩,.inl trivial⟩
   ·rename_i hne
    cases hrun
    refine ⟨did_same hc hr ?_ (dim_dim _) _,Nat.le_refl _⟩
    refine dim_rel ?_
    rw [if_neg (by omega)]
    simp only [Ghost.V,VRel,Option.map_some,addr_add]
    exact ⟨b,_,hb,rfl,by omega,Nat.le_refl _,fun _=>rfl,fun hh=>absurd rfl hh⟩
  ·cases hrun
 ·cases hrun
theorem gives_eqs (hc:Cfg P gl G h t a w) {o:Oper} {op:BinOp} {ty yt:TypeId} {x y:Operand} {ax ay:AOpd} {sh:Shape} {v:AVal} (ho:o.op = .binOp op ty x y yt) (hx:opd gl x = some ax) (hy:opd gl y = some ay)
  (hop:op = .eql∨op = .neq) (hst:isStructT (P.underlying ty) = true) (hg:P.eqGuardType P.depth ty = false) (hs:shapeOf P ty = some sh) (hp:pureV t (.eqs sh (isNeq op) ax ay) = some v):Gives P G w a o v:=by
 have hvx:=ev_rel hc.rel hc.tr hx
 have hvy:=ev_rel hc.rel hc.tr hy
 simp only [pureV] at hp
 obtain ⟨r,hr,rfl⟩:=mapO hp
 obtain ⟨h1,_⟩:=key_eq hs hvx hvy hr w
 obtain ⟨fx,fy,_⟩:=eqSh_spec hr
 obtain ⟨_,_,_,_,_,x4,x5,_⟩:=fitKey_spec hs hvx fx
 obtain ⟨_,_,_,_,_,y4,_,_⟩:=fitKey_spec hs hvy fy
 rw [hst] at x5
 obtain ⟨cx,ex⟩:=x4 x5
 obtain ⟨cy,ey⟩:=y4 x5
 rw [ex,ey] at h1
 have hb:=binOp_eq op hop ty (.agg cx) (.agg cy) _ w h1 (by simp) (by simp) (by simp) (by simp)
 have hgd:(eqGuard op ty x y (.agg cx) (.agg cy)).run P w = .ok () w:=by
  have hpr:∀w1:World,(Sem.program Sem.pure).run P w1 = .ok P w1:=fun _=>rfl
  rcases hop with rfl | rfl <;> simp [eqGuard,program,hpr,hg]
 exact ⟨_,by simp [execOp,ho,ex,ey,hgd,hb];rfl,by simp [Ghost.V,VRel],rfl⟩
theorem gives_nls (hc:Cfg P gl G h t a w) {o:Oper} {op:BinOp} {ty yt e:TypeId} {x y:Operand} {ax:AOpd} {v:AVal} (ho:o.op = .binOp op ty x y yt) (hx:opd gl x = some ax) (hop:op = .eql∨op = .neq) (hy:isNilS y = true)
  (hu:P.underlying ty = some (.slice e)) (hp:pureV t (.nls (isNeq op) ax) = some v):Gives P G w a o v:=by
 have hvx:=ev_rel hc.rel hc.tr hx
 have hye:a.eval y = .slice none 0 0:=by
  unfold isNilS at hy
  split at hy
  ·rfl
  ·cases hy
 have key:∀b len cap,a.eval x = .slice (some b) len cap→(execOp a.eval o).run P w = .ok (.value (.bool (false != isNeq op))) w:=by
  intro b len cap hval
  have he:(Op.equal ty (.slice (some b) len cap) (.slice none 0 0)).run P w = .ok false w:=by
   have key:∀d,(Op.equalIn (d + 1) ty (.slice (some b) len cap) (.slice none 0 0)).run P w = .ok false w:=fun d=>by simp [Op.equalIn,run_underlying hu]
   exact key 9999
  have hb:=binOp_eq op hop ty _ _ _ w he (by simp) (by simp) (by simp) (by simp)
  have hgd:(eqGuard op ty x y (.slice (some b) len cap) (.slice none 0 0)).run P w = .ok () w:=by
   rcases hop with rfl | rfl <;> simp [eqGuard]
  simp [execOp,ho,hval,hye,hgd,hb]
 simp only [pureV] at hp
 split at hp
 ·rename_i id off len cap more e1
  rw [e1] at hvx
  simp only [Ghost.V,VRel] at hvx
  obtain ⟨b,c,hb,hval,_⟩:=hvx
  cases hp
  exact ⟨_,key _ _ _ hval,by simp [Ghost.V,VRel],rfl⟩
 ·rename_i z zs f e1
  rw [e1] at hvx
  simp only [Ghost.V,VRel] at hvx
  obtain ⟨bs,len,cap,hval,_,_,_,_,_,h5⟩:=hvx
  cases hp
  rcases h5 with h5 | ⟨b,p,rfl,_⟩
  ·cases h5
  ·exact ⟨_,key _ _ _ hval,by simp [Ghost.V,VRel],rfl⟩
 ·rename_i e1
  rw [e1] at hvx
  simp only [Ghost.V,VRel] at hvx
  cases hp
  have he:(Op.equal ty (.slice none 0 0) (.slice none 0 0)).run P w = .ok true w:=by
   have key:∀d,(Op.equalIn (d + 1) ty (.slice none 0 0) (.slice none 0 0)).run P w = .ok true w:=fun d=>by simp [Op.equalIn,run_underlying hu]
   exact key 9999
  have hb:=binOp_eq op hop ty _ _ _ w he (by simp) (by simp) (by simp) (by simp)
  have hgd:(eqGuard op ty x y (.slice none 0 0) (.slice none 0 0)).run P w = .ok () w:=by
   rcases hop with rfl | rfl <;> simp [eqGuard]
  exact ⟨.bool (true != isNeq op),by simp [execOp,ho,hvx,hye,hgd,hb],by simp [Ghost.V,VRel],rfl⟩
 ·rename_i e1
  rw [e1] at hvx
  simp only [Ghost.V,VRel] at hvx
  obtain ⟨b,hval⟩:=hvx
  cases hp
  exact ⟨_,key _ _ _ hval,by simp [Ghost.V,VRel],rfl⟩
 ·cases hp
theorem hx_mkm2 (hc:Cfg P gl G h t a w) {o:Oper} (hO:OpHx P gl o) {ty kt et:TypeId} {x:Operand} {ax:AOpd} (ho:o.op = .makeMap ty (some x)) (hu:P.underlying ty = some (.map kt et)) (hx:opd gl x = some ax) {base:Nat} {r:AVal×List ABox×Bool}
  (hrun:hop base .mkm [ev t ax] h = some r):Did P gl G w a o h.length r.2.1 (AE.put o.dst r.1.dim t)∧h.length ≤ r.2.1.length:=by
 have hxv:=ev_rel hc.rel hc.tr hx
 unfold hop at hrun
 split at hrun <;> (try (rename_i hq _;cases hq;done)) <;> (try (rename_i hq;cases hq;done)) <;> (try (cases hrun;done))
 rename_i k n hq hq2
 simp only [List.cons.injEq,and_true] at hq2
 rw [hq2] at hxv
 simp only [Ghost.V,VRel] at hxv
 cases hrun
 refine ⟨did_fresh hc hO (ob:=.map #[] 0) (u:=.map (some w.heap.size)) ?_ (fun G' hx=>⟨#[],alloc_heap_size w _,by simp [MapRel]⟩) (fun G' hg=>?_) rfl,by simp⟩
 ·simp only [execOp,ho]
  refine run_v ?_
  simp only [Option.map_some,hxv,Instr.makeMap,Sem.run_bind,run_underlying hu,Result.andThen_ok,asInt,asIntOf,Sem.run_pure]
  rfl
 ·simp only [Ghost.V,VRel]
  exact ⟨_,hg,rfl⟩
theorem MapRel.erase {G:Ghost}:∀{es:List (Nat×AVal×AVal)} {me:List MapEntry} (i:Nat),MapRel G es me→MapRel G (es.eraseIdx i) (me.eraseIdx i)
 | [],me,i,h=>by simp only [MapRel] at h;subst h;simp [MapRel]
 | x :: es,me,i,h=>by
  simp only [MapRel] at h
  obtain ⟨e,rest,rfl,h1,h2,h3,h4⟩:=h
  cases i with
  | zero=>exact h4
  | succ i=>
   simp only [List.eraseIdx_cons_succ,MapRel]
   exact ⟨e,_,rfl,h1,h2,h3,MapRel.erase i h4⟩
theorem MapRel.filter {G:Ghost} (q:Nat→Bool):∀{es:List (Nat×AVal×AVal)} {me:List MapEntry},MapRel G es me→MapRel G (es.filter fun e=>q e.1) (me.filter fun e=>q e.born)
 | [],me,h=>by simp only [MapRel] at h;subst h;simp [MapRel]
 | x :: es,me,h=>by
  simp only [MapRel] at h
  obtain ⟨e,rest,rfl,h1,h2,h3,h4⟩:=h
  have ih:=MapRel.filter q h4
  simp only [List.filter_cons,h1]
  cases q x.1 with
  | false=>simpa using ih
  | true=>simp only [if_true,MapRel];exact ⟨e,_,rfl,h1,h2,h3,ih⟩
theorem MapRel.all {G:Ghost} (q:Nat→Bool):∀{es:List (Nat×AVal×AVal)} {me:List MapEntry},MapRel G es me→me.all (fun e=>q e.born) = es.all fun e=>q e.1
 | [],me,h=>by simp only [MapRel] at h;subst h;rfl
 | x :: es,me,h=>by
  simp only [MapRel] at h
  obtain ⟨e,rest,rfl,h1,h2,h3,h4⟩:=h
  simp only [List.all_cons,h1,MapRel.all q h4]
theorem MapRel.find {G:Ghost} (q:Nat→Bool):∀{es:List (Nat×AVal×AVal)} {me:List MapEntry} {x:Nat×AVal×AVal},MapRel G es me→es.find? (fun e=>q e.1) = some x→∃e,me.find? (fun e=>q e.born) = some e∧G.V x.2.1 e.key∧G.V x.2.2 e.val
 | [],me,x,h,hf=>by simp at hf
 | y :: es,me,x,h,hf=>by
  simp only [MapRel] at h
  obtain ⟨e,rest,rfl,h1,h2,h3,h4⟩:=h
  simp only [List.find?_cons] at hf ⊢
  rw [h1]
  cases hq:q y.1 with
  | true=>rw [hq] at hf;cases hf;exact ⟨e,rfl,h2,h3⟩
  | false=>rw [hq] at hf;exact MapRel.find q h4 hf
theorem hx_del (hc:Cfg P gl G h t a w) {o:Oper} (hO:OpHx P gl o) {c:Go.Call} {m i:Operand} {ty ty2 kt et:TypeId} {am ai:AOpd} {sh:Shape} (ho:o.op = .call c) (hcal:c.callee = .builtin .delete) (hargs:c.args.toList = [m,i]) (hty:c.argTypes.toList = [ty,ty2])
  (hu:P.underlying ty = some (.map kt et)) (hs:shapeOf P kt = some sh) (hm:opd gl m = some am) (hi:opd gl i = some ai) {base:Nat} {r:AVal×List ABox×Bool} (hrun:hop base (.del sh) [ev t am,ev t ai] h = some r) :
  Did P gl G w a o h.length r.2.1 (AE.put o.dst r.1.dim t)∧h.length ≤ r.2.1.length:=by
 have ea:c.args = #[m,i]:=by rw [←Array.toArray_toList (xs:=c.args),hargs]
 have et':c.argTypes = #[ty,ty2]:=by rw [←Array.toArray_toList (xs:=c.argTypes),hty]
 have hmv:=ev_rel hc.rel hc.tr hm
 have hk:=ev_rel hc.rel hc.tr hi
 generalize hme:ev t am = xm at hrun hmv
 have run:∀{w1:World},(Builtin.delete_ #[ty,ty2] o.type #[a.eval m,a.eval i]).run P w = .ok (.tuple #[]) w1→(execOp a.eval o).run P w = .ok (.value (.tuple #[])) w1:=by
  intro w1 hr
  simp [execOp,ho,hcal,ea,et',resolve,invoke,builtin,hr]
 simp only [hop] at hrun
 split at hrun
 ·split at hrun
  ·rename_i hfit
   cases hrun
   simp only [Ghost.V,VRel] at hmv
   refine ⟨did_same hc (u:=.tuple #[]) (run ?_) (by simp [Ghost.V,VRel,VRelL,AVal.dim]) rfl _,Nat.le_refl _⟩
   simp [Builtin.delete_,run_underlying hu,hmv,key_check hs hk hfit true w]
  ·cases hrun
 ·rename_i id
  split at hrun
  ·rename_i es c' hid
   obtain ⟨b,me,e1,e2,e3,e4⟩:=map_there hc hmv hid
   split at hrun
   ·rename_i j old hf
    cases hrun
    have hfit:=find_fit hf
    obtain ⟨q,q1,q2⟩:=find_run hs hk hfit w e4 hf
    obtain ⟨m',ent,ae,g1,g2,g3,g4,rfl,g6,g7,g8⟩:=q2
    have hj:j = m':=by omega
    subst hj
    refine ⟨did_turn hc hO e2 hid e3 (es':=es.eraseIdx j) (c':=c') (me':=me.eraseIdxIfInBounds j) (nx:=.value (.tuple #[])) (u:=.tuple #[]) (run ?_) (.inl rfl) ?_ (by simp [Ghost.V,VRel,VRelL,AVal.dim]) rfl _,by simp⟩
    ·simp [Builtin.delete_,run_underlying hu,e1,get_map e3,key_check hs hk hfit me.isEmpty w,q1,set_map _ e3]
    ·have:(me.eraseIdxIfInBounds j).toList = me.toList.eraseIdx j:=by
      unfold Array.eraseIdxIfInBounds
      split
      ·simp
      ·rename_i hh;simp at hh;rw [List.eraseIdx_of_length_le (by simpa using hh)]
     rw [this]
     exact e4.erase j
   ·rename_i hf
    cases hrun
    have hfit:=find_fit hf
    obtain ⟨q,q1,q2⟩:=find_run hs hk hfit w e4 hf
    simp only [Found] at q2
    subst q2
    refine ⟨did_turn hc hO e2 hid e3 (es':=es) (c':=c') (me':=me) (nx:=.value (.tuple #[])) (u:=.tuple #[]) (run ?_) (.inl rfl) e4 (by simp [Ghost.V,VRel,VRelL,AVal.dim]) rfl _,by simp⟩
    simp [Builtin.delete_,run_underlying hu,e1,get_map e3,key_check hs hk hfit me.isEmpty w,q1,set_map _ e3]
   ·cases hrun
  ·cases hrun
 ·cases hrun
theorem hx_rng (hc:Cfg P gl G h t a w) {o:Oper} (hO:OpHx P gl o) {ty kt et:TypeId} {x:Operand} {ax:AOpd} (ho:o.op = .range ty x) (hu:P.underlying ty = some (.map kt et)) (hx:opd gl x = some ax) {base:Nat} {r:AVal×List ABox×Bool}
  (hrun:hop base .rng [ev t ax] h = some r):Did P gl G w a o h.length r.2.1 (AE.put o.dst r.1.dim t)∧h.length ≤ r.2.1.length:=by
 have hxv:=ev_rel hc.rel hc.tr hx
 generalize hxe:ev t ax = xm at hrun hxv
 simp only [hop] at hrun
 split at hrun
 ·cases hrun
  simp only [Ghost.V,VRel] at hxv
  refine ⟨did_fresh hc hO (ob:=.mapIter none 0 #[] 0) (u:=.pointer (some ⟨w.heap.size,0,none⟩)) ?_ (fun G' hx=>⟨none,alloc_heap_size w _,by simp [VRel]⟩) (fun G' hg=>?_) rfl,by simp⟩
  ·simp only [execOp,ho]
   refine run_v ?_
   simp [Instr.range,run_underlying hu,hxv]
  ·simp only [Ghost.V,VRel,AVal.dim]
   exact ⟨_,hg,rfl⟩
 ·rename_i id
  split at hrun
  ·rename_i es c hid
   cases hrun
   obtain ⟨b,me,e1,e2,e3,e4⟩:=map_there hc hxv hid
   refine ⟨did_fresh hc hO (ob:=.mapIter (some b) c #[] c) (u:=.pointer (some ⟨w.heap.size,0,none⟩)) ?_ (fun G' hx=>⟨some b,alloc_heap_size w _,?_⟩) (fun G' hg=>?_) rfl,by simp⟩
   ·simp only [execOp,ho]
    refine run_v ?_
    simp [Instr.range,run_underlying hu,e1,get_map e3]
   ·simp only [Ghost.V,VRel]
    exact ⟨b,hx.gk _ _ e2,rfl⟩
   ·simp only [Ghost.V,VRel,AVal.dim]
    exact ⟨_,hg,rfl⟩
  ·cases hrun
 ·cases hrun
theorem get_iter {r:Nat} {m:Option Nat} {s l:Nat} {seen:Array Nat} (hb:w.heap[r]? = some (.mapIter m s seen l)):(getObj r).run P w = .ok (.mapIter m s seen l) w:=by
 simp [getObj,Sem.run,hb]
theorem set_iter {r:Nat} {m:Option Nat} {s l:Nat} {seen:Array Nat} (o:Obj) (hb:w.heap[r]? = some (.mapIter m s seen l)):(setObj r o).run P w = .ok () (w.putObj r o):=by
 simp [setObj,Sem.run,hb,World.putObj]
theorem did_iter (hc:Cfg P gl G h t a w) {o:Oper} (hop:OpHx P gl o) {id b:Nat} (hb:G.γ id = some b) {m:AVal} {since last last':Nat} {seen seen':List Nat} {mm:Option Nat} (hid:h[id]? = some (.iter m since seen last))
  (hM:w.heap[b]? = some (.mapIter mm since seen.toArray last)) (hm:G.V m (.map mm)) {u:Value} {x:AVal} (h1:(execOp a.eval o).run P w = .ok (.value u) (w.putObj b (.mapIter mm since seen'.toArray last'))) (hx:G.V x u) (hd:x.dim = x) (n:Nat) :
  Did P gl G w a o n (h.set id (.iter m since seen' last')) (AE.put o.dst x t):=by
 have hb':BoxRel P gl G (w.putObj b (.mapIter mm since seen'.toArray last')) id (.iter m since seen' last') b:=⟨mm,World.putObj_heap_same (Array.getElem?_eq_some_iff.1 hM).1,hm⟩
 have hext:Ext n G w G (w.putObj b (.mapIter mm since seen'.toArray last')):=by
  refine ⟨fun _ _ h=>h,fun _ _ h=>.inl h,fun _ _ _ h=>h,fun _ _ _ h=>.inl h,fun _ h=>.inl h,by simp,fun b' _ hf=>World.putObj_heap_other (fun e=>hf.1 id (by rw [hb,e])),fun b' L hL=>?_,rfl,rfl,rfl⟩
  have:b' ≠ b:=fun e=>by subst e;rw [hM] at hL;cases hL
  exact ⟨L,by rw [World.putObj_heap_other this];exact hL,rfl,rfl,rfl,rfl,rfl,rfl⟩
 exact ⟨_,u,_,G,h1,.inl rfl,fun _ hq=>absurd hop hq,hext,(Cfg.mk (hc.rel.putBox hb hid (by simp) (fun c e hce=>by rw [hM] at hce;cases hce) hb') (hc.tr.putBox hc.rel hb _)).put o.dst hx hd⟩
theorem map_one {G:Ghost} {x:Nat×AVal×AVal} {me:List MapEntry} (h:MapRel G [x] me):∃e,me = [e]∧e.born = x.1∧G.V x.2.1 e.key∧G.V x.2.2 e.val:=by
 simp only [MapRel] at h
 obtain ⟨e,rest,rfl,h1,h2,h3,rfl⟩:=h
 exact ⟨e,rfl,h1,h2,h3⟩
theorem hx_nxt (hc:Cfg P gl G h t a w) {o:Oper} (hO:OpHx P gl o) {x:Operand} {ax:AOpd} (ho:o.op = .next x false) (hx:opd gl x = some ax) {base:Nat} {r:AVal×List ABox×Bool}
  (hrun:hop base .nxt [ev t ax] h = some r):Did P gl G w a o h.length r.2.1 (AE.put o.dst r.1.dim t)∧h.length ≤ r.2.1.length:=by
 have hxv:=ev_rel hc.rel hc.tr hx
 generalize hxe:ev t ax = xm at hrun hxv
 unfold hop at hrun
 split at hrun <;> (try (rename_i hq _;cases hq;done)) <;> (try (rename_i hq;cases hq;done)) <;> (try (cases hrun;done))
 rename_i it hq hq2
 simp only [List.cons.injEq,and_true] at hq2
 subst hq2
 simp only [Ghost.V,VRel] at hxv
 obtain ⟨b,hb,hval⟩:=hxv
 have over:G.V (AVal.tup [.bool false]) (.tuple #[.bool false]):=by simp [Ghost.V,VRel,VRelL]
 split at hrun
 ·rename_i since seen last hid
  cases hrun
  obtain ⟨mm,h1,h2⟩:=hc.rel.box it b _ hb hid
  simp only [Ghost.V,VRel,Value.map.injEq] at h2
  subst h2
  refine ⟨did_same hc (u:=.tuple #[.bool false]) ?_ over rfl _,Nat.le_refl _⟩
  simp only [execOp,ho]
  refine run_v ?_
  simp [Instr.next,hval,get_iter h1]
 ·rename_i id since seen last hid
  obtain ⟨mm,h1,h2⟩:=hc.rel.box it b _ hb hid
  split at hrun
  ·rename_i es c hid2
   obtain ⟨mb,me,e1,e2,e3,e4⟩:=map_there hc h2 hid2
   simp only [Value.map.injEq] at e1
   subst e1
   split at hrun
   ·cases hrun
   rename_i hgone
   have hgone':(!seen.toArray.isEmpty && !me.isEmpty && me.all (fun e=>decide (e.born ≥ last))) = false:=by
    have h3:=e4.all (fun n=>Nat.ble last n)
    have h4:me.all (fun e=>decide (e.born ≥ last)) = me.toList.all (fun e=>Nat.ble last e.born):=by
     rw [←Array.all_toList]
     congr 1
     funext e
     rw [Bool.eq_iff_iff];simp
    have h5:me.isEmpty = es.isEmpty:=by
     have:=e4.length
     rw [Bool.eq_iff_iff]
     simp only [Array.isEmpty_iff_size_eq_zero,List.isEmpty_iff_length_eq_zero]
     simp at this
     omega
    rw [h4,h3,h5]
    simpa using hgone
   have hfl:=e4.filter (fun n=>!seen.contains n)
   have hleft:me.filter (fun e=>!seen.toArray.contains e.born) = (me.toList.filter fun e=>!seen.contains e.born).toArray:=by
    apply Array.ext'
    simp
   split at hrun
   ·rename_i hnil
    cases hrun
    rw [hnil] at hfl
    simp only [MapRel] at hfl
    refine ⟨did_same hc (u:=.tuple #[.bool false]) ?_ over rfl _,Nat.le_refl _⟩
    simp only [execOp,ho]
    refine run_v ?_
    simp only [Instr.next,hval,Sem.run_bind,get_iter h1,get_map e3,Result.andThen_ok,hgone',hleft,hfl]
    simp [choose,Sem.run,Question.forced]
   ·rename_i e hone
    split at hrun
    ·rename_i hold
     cases hrun
     rw [hone] at hfl
     obtain ⟨e',g1,g2,g3,g4⟩:=map_one hfl
     have hold':e'.born < since:=by rw [g2];exact Eq.mp Nat.blt_eq hold
     refine ⟨did_iter hc hO hb hid h1 h2 (u:=.tuple #[.bool true,e'.key,e'.val]) (seen':=seen ++ [e.1]) (last':=c) ?_ ?_ rfl _,by simp⟩
     ·simp only [execOp,ho]
      refine run_v ?_
      have hf1:(#[e']:Array MapEntry).filter (fun x=>decide (x.born < since)) = #[e']:=by simp [hold']
      have hf2:(#[e']:Array MapEntry).filter (fun x=>decide (x.born ≥ since)) = #[]:=by simp;omega
      simp only [Instr.next,hval,Sem.run_bind,get_iter h1,get_map e3,Result.andThen_ok,hgone',hleft,g1,hf1,hf2]
      simp [choose,Sem.run,Question.forced,set_iter _ h1,g2]
     ·simp only [Ghost.V,VRel,VRelL,AVal.dim]
      exact ⟨_,rfl,_,_,rfl,rfl,_,_,rfl,dim_rel g3,_,_,rfl,dim_rel g4,rfl⟩
    ·cases hrun
   ·cases hrun
  ·cases hrun
 ·cases hrun
theorem hx_ent (hc:Cfg P gl G h t a w) {o:Oper} {x:Operand} {ax:AOpd} (ho:o.op = .entry x) (hx:opd gl x = some ax) {base:Nat} {r:AVal×List ABox×Bool}
  (hrun:hop base .ent [ev t ax] h = some r):Did P gl G w a o h.length r.2.1 (AE.put o.dst r.1.dim t)∧h.length ≤ r.2.1.length:=by
 have hxv:=ev_rel hc.rel hc.tr hx
 generalize hxe:ev t ax = xm at hrun hxv
 unfold hop at hrun
 split at hrun <;> (try (rename_i hq _;cases hq;done)) <;> (try (rename_i hq;cases hq;done)) <;> (try (cases hrun;done))
 rename_i it hq hq2
 simp only [List.cons.injEq,and_true] at hq2
 subst hq2
 simp only [Ghost.V,VRel] at hxv
 obtain ⟨b,hb,hval⟩:=hxv
 split at hrun
 ·rename_i id since seen last hid
  obtain ⟨mm,h1,h2⟩:=hc.rel.box it b _ hb hid
  split at hrun
  ·rename_i es c born hid2 hlast
   obtain ⟨mb,me,e1,e2,e3,e4⟩:=map_there hc h2 hid2
   simp only [Value.map.injEq] at e1
   subst e1
   split at hrun
   ·rename_i hcl
    subst hcl
    split at hrun
    ·rename_i e hf
     cases hrun
     obtain ⟨e',g1,g2,g3⟩:=e4.find (fun n=>n == born) hf
     have hback:seen.toArray.back? = some born:=by simpa using hlast
     have hfind:me.find? (fun e=>e.born == born) = some e':=by rw [←Array.find?_toList];exact g1
     refine ⟨did_same hc (u:=.tuple #[e'.key,e'.val]) ?_ ?_ rfl _,Nat.le_refl _⟩
     ·simp only [execOp,ho]
      refine run_v ?_
      simp only [Instr.entry,hval,Sem.run_bind,get_iter h1,get_map e3,Result.andThen_ok,hback,hfind]
      simp
     ·simp only [Ghost.V,VRel,VRelL,AVal.dim]
      exact ⟨_,rfl,_,_,rfl,dim_rel g2,_,_,rfl,dim_rel g3,rfl⟩
    ·cases hrun
   ·cases hrun
  ·cases hrun
 ·cases hrun
theorem frz_cfg (hr:Rel P gl G h w) (ht:TRel G w t a.tmps) {x:AVal} {v:Value} {r:AVal×List ABox} (hv:G.V x v) (hf:frz h x = some r) (n:Nat) :
  ∃G',Rel P gl G' r.2 w∧TRel G' w t a.tmps∧Ext n G w G' w∧G'.V r.1 v∧r.2.length = h.length:=by
 unfold frz at hf
 split at hf
 ·rename_i id o len cap more
  split at hf
  ·rename_i ds hid
   split at hf
   ·rename_i hcond
    obtain ⟨rfl,hlen,hst⟩:=hcond
    cases hf
    simp only [Ghost.V,VRel] at hv
    obtain ⟨b,c0,hb,rfl,h1,h2,_,_⟩:=hv
    obtain ⟨c,e,hw,hcs,_⟩:=hr.box id b _ hb hid
    have hle:ds.length ≤ c.size:=by have:=front_le hcs;simpa using this
    obtain ⟨g1,g2,g3⟩:=frozen_cfg (a:=a) hr ht hb hid hw hle n
    have hcs':VRelL (G.frozen b c ds.length).γ (G.frozen b c ds.length).imm (ds.map AVal.dim) (c.toList.take ds.length):=VRelL.dims (g3.VL hcs)
    obtain ⟨k1,k2,k3⟩:=elems_spec (b:=b) (p:=0) (k:=ds.length / cap) (len:=len) hcs' (by simpa using hlen) hst (fun o u ho hm=>by
     have hlt:o < ds.length:=by have:=(List.getElem?_eq_some_iff.1 ho).1;simp at this;omega
     rw [List.getElem?_take_of_lt hlt] at ho
     simp only [Ghost.frozen]
     rw [if_pos ⟨trivial,by omega⟩]
     exact clean_iff.2 ⟨by simpa using ho,hm⟩)
    refine ⟨_,g1,g2,g3,?_,by simp⟩
    simp only [Ghost.V,VRel]
    exact ⟨_,_,_,rfl,k3.symm,by omega,by simp,by simp,⟨_,k1⟩,.inr ⟨b,0,rfl,k2⟩⟩
   ·cases hf
  ·cases hf
 ·cases hf
theorem frzL_cfg:∀(cs:List AVal) {G:Ghost} {h:List ABox} {vs:List Value} (_:Rel P gl G h w) (_:TRel G w t a.tmps) (_:G.VL cs vs) (n:Nat),
  ∃G',Rel P gl G' (frzL cs h).2 w∧TRel G' w t a.tmps∧Ext n G w G' w∧G'.VL (frzL cs h).1 vs∧(frzL cs h).2.length = h.length
 | [],G,h,vs,hr,ht,hv,n=>⟨G,hr,ht,Ext.refl n G w,hv,rfl⟩
 | x :: xs,G,h,vs,hr,ht,hv,n=>by
  simp only [Ghost.VL,VRelL] at hv
  obtain ⟨v,rest,rfl,h1,h2⟩:=hv
  unfold frzL
  split
  ·rename_i y h' hf
   obtain ⟨G1,g1,g2,g3,g4,g5⟩:=frz_cfg (a:=a) hr ht h1 hf n
   obtain ⟨G2,k1,k2,k3,k4,k5⟩:=frzL_cfg xs g1 g2 (g3.VL h2) n
   refine ⟨G2,k1,k2,g3.trans (Nat.le_refl _) k3,?_,k5.trans g5⟩
   simp only [Ghost.VL,VRelL]
   exact ⟨_,_,rfl,k3.V g4,k4⟩
  ·obtain ⟨G2,k1,k2,k3,k4,k5⟩:=frzL_cfg xs hr ht h2 n
   refine ⟨G2,k1,k2,k3,?_,k5⟩
   simp only [Ghost.VL,VRelL]
   exact ⟨_,_,rfl,k3.V h1,k4⟩
theorem hx_ldz (hc:Cfg P gl G h t a w) {o:Oper} (hO:OpHx P gl o) {ty:TypeId} {x:Operand} {ax:AOpd} {k:Option Nat} (ho:o.op = .load ty x) (hk:tyk P ty = some k) (hx:opd gl x = some ax) {base:Nat} {r:AVal×List ABox×Bool}
  (hrun:hop base (.ldz k) [ev t ax] h = some r):Did P gl G w a o h.length r.2.1 (AE.put o.dst r.1.dim t)∧h.length ≤ r.2.1.length:=by
 have hrun':(ldAt h (ev t ax) k).map (frzA h) = some r:=hrun
 obtain ⟨v,hl,rfl⟩:=mapO hrun'
 obtain ⟨u,h1,h2,h3⟩:=ld_run hc.rel hk (ev_rel hc.rel hc.tr hx) hl
 have h1':(execOp a.eval o).run P w = .ok (.value u) w:=by simp only [execOp,ho];exact run_v h1
 unfold frzA
 split
 ·rename_i cs
  simp only [Ghost.V,VRel] at h2
  obtain ⟨y,rfl,h2⟩:=h2
  obtain ⟨G',k1,k2,k3,k4,k5⟩:=frzL_cfg (a:=a) cs hc.rel hc.tr h2 h.length
  refine ⟨⟨_,_,w,G',h1',.inl rfl,fun _ hq=>absurd hO hq,k3,(Cfg.mk k1 k2).put o.dst (dim_rel ?_) (dim_dim _)⟩,by simp only;omega⟩
  simp only [Ghost.V,VRel]
  exact ⟨y,rfl,k4⟩
 ·exact ⟨⟨_,u,w,G,h1',.inl rfl,fun _ _ _ _=>rfl,Ext.refl _ G w,hc.put o.dst (dim_rel h2) (dim_dim _)⟩,Nat.le_refl _⟩
theorem did_hx (hc:Cfg P gl G h t a w) {o:Oper} {ao:AOp} (hcomp:compHx P gl o = some ao) {p:Prov} {base:Nat} {call:AE.Call} {e:Bool} {x:Ex} {s':St}
  (hrun:runOp base call p o.dst ao ⟨t,h,e⟩ = some (x,s')):x = .nor∧Did P gl G w a o h.length s'.h s'.t∧h.length ≤ s'.h.length:=by
 have hO:∀k as,ao = .hx k as→OpHx P gl o:=fun k as e=>⟨k,as,e▸hcomp⟩
 have fin:∀{k:HOp} {as:List AOpd},ao = .hx k as→(∀r,hop base k (as.map (ev t)) h = some r→Did P gl G w a o h.length r.2.1 (AE.put o.dst r.1.dim t)∧h.length ≤ r.2.1.length)→
   x = .nor∧Did P gl G w a o h.length s'.h s'.t∧h.length ≤ s'.h.length:=by
  intro k as e1 hd
  subst e1
  simp only [runOp] at hrun
  obtain ⟨r,hr,he⟩:=mapO hrun
  cases he
  obtain ⟨h1,h2⟩:=hd r hr
  exact ⟨rfl,h1,h2⟩
 unfold compHx at hcomp
 split at hcomp
 ·
  rename_i ty ho
  split at hcomp
  ·rename_i e hz
   cases hcomp
   exact fin rfl fun r hr=>hx_bld hc (hO _ _ rfl) ho hz hr
  ·cases hcomp
 ·
  rename_i ty l c ho
  split at hcomp
  ·rename_i et hu
   obtain ⟨⟨k,z⟩,he,hcomp⟩:=bindO hcomp
   obtain ⟨al,hl,hcomp⟩:=bindO hcomp
   obtain ⟨ac,hcc,hcomp⟩:=bindO hcomp
   cases hcomp
   exact fin rfl fun r hr=>hx_mk hc (hO _ _ rfl) ho hu he hl hcc hr
  ·cases hcomp
 ·
  rename_i ty n ps ho
  split at hcomp
  ·split at hcomp
   ·rename_i et hu
    obtain ⟨⟨k,z⟩,he,hcomp⟩:=bindO hcomp
    obtain ⟨qs,hq,hcomp⟩:=bindO hcomp
    cases hcomp
    exact fin rfl fun r hr=>hx_lit hc (hO _ _ rfl) ho hu he hq hr
   ·cases hcomp
  ·cases hcomp
 ·
  rename_i ty y lo hi mx ho
  split at hcomp
  ·rename_i et hu
   obtain ⟨k,hk,hcomp⟩:=bindO hcomp
   obtain ⟨ax,hx,hcomp⟩:=bindO hcomp
   obtain ⟨al,hl,hcomp⟩:=bindO hcomp
   obtain ⟨ah,hh,hcomp⟩:=bindO hcomp
   obtain ⟨am,hm,hcomp⟩:=bindO hcomp
   cases hcomp
   exact fin rfl fun r hr=>hx_sub3 hc ho hu hk hx hl hh hm hr
  ·cases hcomp
 ·
  rename_i ty ho
  cases hcomp
  exact fin rfl fun r hr=>hx_mkm hc (hO _ _ rfl) ho hr
 ·
  rename_i ty y i ok ho
  split at hcomp
  ·rename_i kt et hu
   obtain ⟨sh,hs,hcomp⟩:=bindO hcomp
   obtain ⟨z,hz,hcomp⟩:=bindO hcomp
   obtain ⟨ax,hx,hcomp⟩:=bindO hcomp
   obtain ⟨ai,hi,hcomp⟩:=bindO hcomp
   cases hcomp
   simp only [runOp] at hrun
   obtain ⟨r,hr,he⟩:=mapO hrun
   cases he
   exact ⟨rfl,hx_lk hc ho hu hs hz hx hi hr,Nat.le_refl _⟩
  ·cases hcomp
 ·
  rename_i ty m i v ho
  split at hcomp
  ·rename_i kt et hu
   obtain ⟨sh,hs,hcomp⟩:=bindO hcomp
   obtain ⟨am,hm,hcomp⟩:=bindO hcomp
   obtain ⟨ai,hi,hcomp⟩:=bindO hcomp
   obtain ⟨av,hv,hcomp⟩:=bindO hcomp
   cases hcomp
   exact fin rfl fun r hr=>hx_mup hc (hO _ _ rfl) ho hu hs hm hi hv hr
  ·cases hcomp
 ·
  rename_i ty m i ho
  split at hcomp
  ·rename_i kt et hu
   obtain ⟨sh,hs,hcomp⟩:=bindO hcomp
   obtain ⟨z,hz,hcomp⟩:=bindO hcomp
   obtain ⟨am,hm,hcomp⟩:=bindO hcomp
   obtain ⟨ai,hi,hcomp⟩:=bindO hcomp
   cases hcomp
   exact fin rfl fun r hr=>hx_ment hc (hO _ _ rfl) ho hu hs hz hm hi hr
  ·cases hcomp
 ·
  rename_i ty m i v ho
  obtain ⟨am,hm,hcomp⟩:=bindO hcomp
  obtain ⟨ai,hi,hcomp⟩:=bindO hcomp
  obtain ⟨av,hv,hcomp⟩:=bindO hcomp
  cases hcomp
  exact fin rfl fun r hr=>hx_mst hc (hO _ _ rfl) ho hm hi hv hr
 ·
  rename_i ty x ho
  split at hcomp
  ·rename_i kt et hu
   obtain ⟨ax,hx,hcomp⟩:=bindO hcomp
   cases hcomp
   exact fin rfl fun r hr=>hx_mkm2 hc (hO _ _ rfl) ho hu hx hr
  ·cases hcomp
 ·
  rename_i ty x ho
  split at hcomp
  ·rename_i kt et hu
   obtain ⟨ax,hx,hcomp⟩:=bindO hcomp
   cases hcomp
   exact fin rfl fun r hr=>hx_rng hc (hO _ _ rfl) ho hu hx hr
  ·cases hcomp
 ·
  rename_i x ho
  obtain ⟨ax,hx,hcomp⟩:=bindO hcomp
  cases hcomp
  exact fin rfl fun r hr=>hx_nxt hc (hO _ _ rfl) ho hx hr
 ·
  rename_i x ho
  obtain ⟨ax,hx,hcomp⟩:=bindO hcomp
  cases hcomp
  exact fin rfl fun r hr=>hx_ent hc ho hx hr
 ·
  rename_i ty x ho
  split at hcomp
  ·obtain ⟨k,hk,hcomp⟩:=bindO hcomp
   obtain ⟨ax,hx,hcomp⟩:=bindO hcomp
   cases hcomp
   exact fin rfl fun r hr=>hx_ldz hc (hO _ _ rfl) ho hk hx hr
  ·cases hcomp
 ·
  rename_i op ty y z yt ho
  split at hcomp
  ·rename_i hcond
   simp only [Bool.and_eq_true] at hcond
   split at hcomp
   ·rename_i et hu
    obtain ⟨ay,hay,rfl⟩:=mapO hcomp
    have hop':op = .eql∨op = .neq:=by have h1:=hcond.1;cases op <;> simp [isEq] at h1 <;> simp
    simp only [runOp] at hrun
    obtain ⟨v,hv,he⟩:=mapO hrun
    cases he
    exact ⟨rfl,did_gives hc (gives_nls hc ho hay hop' hcond.2 hu hv) _,Nat.le_refl _⟩
   ·cases hcomp
  rename_i hcond0
  split at hcomp
  ·rename_i hcond
   simp only [Bool.and_eq_true,Bool.not_eq_true'] at hcond
   obtain ⟨⟨h1,h2⟩,h3⟩:=hcond
   obtain ⟨sh,hs,hcomp⟩:=bindO hcomp
   obtain ⟨ay,hay,hcomp⟩:=bindO hcomp
   obtain ⟨az,haz,hcomp⟩:=bindO hcomp
   cases hcomp
   have hop':op = .eql∨op = .neq:=by cases op <;> simp [isEq] at h1 <;> simp
   simp only [runOp] at hrun
   obtain ⟨v,hv,he⟩:=mapO hrun
   cases he
   exact ⟨rfl,did_gives hc (gives_eqs hc ho hay haz hop' h2 h3 hs hv) _,Nat.le_refl _⟩
  ·cases hcomp
 ·
  rename_i c ho
  split at hcomp
  ·rename_i b hcal
   split at hcomp
   ·rename_i y ty hargs hty
    split at hcomp
    ·rename_i kt et hu
     obtain ⟨ax,hx,hcomp⟩:=bindO hcomp
     cases hcomp
     exact fin rfl fun r hr=>hx_mlen hc ho hcal hargs hty hx hu hr
    ·cases hcomp
   ·rename_i y z sT xT hargs hty
    split at hcomp
    ·split at hcomp
     ·rename_i et ux hu hux
      split at hcomp
      ·cases hcomp
      ·rename_i hm
       obtain ⟨⟨k,zz⟩,he,hcomp⟩:=bindO hcomp
       obtain ⟨ax,hx,hcomp⟩:=bindO hcomp
       obtain ⟨ay,hy,hcomp⟩:=bindO hcomp
       cases hcomp
       have hux':(∃e',ux = .slice e')∨ux = .string:=by
        cases ux <;> first | (exact .inl ⟨_,rfl⟩) | exact .inr rfl | (exfalso;exact hm rfl)
       exact fin rfl fun r hr=>hx_app hc (hO _ _ rfl) ho hcal hargs hty hu hux hux' he hx hy hr
     ·cases hcomp
    ·cases hcomp
   ·rename_i y z sT xT hargs hty
    split at hcomp
    ·rename_i kt et hu
     obtain ⟨sh,hs,hcomp⟩:=bindO hcomp
     obtain ⟨ax,hx,hcomp⟩:=bindO hcomp
     obtain ⟨ay,hy,hcomp⟩:=bindO hcomp
     cases hcomp
     exact fin rfl fun r hr=>hx_del hc (hO _ _ rfl) ho hcal hargs hty hu hs hx hy hr
    ·cases hcomp
   ·cases hcomp
  ·cases hcomp
 ·cases hcomp
theorem hx_form {o:Oper} {ao:AOp} (hcomp:compHx P gl o = some ao):(∃k as,ao = .hx k as)∨(∃sh z ok m key ty p q r,ao = .lk sh z ok m key∧o.op = .lookup ty p q r)∨∃op ty p q r,((∃sh n x y,ao = .eqs sh n x y)∨∃n x,ao = .nls n x)∧o.op = .binOp op ty p q r:=by
 unfold compHx at hcomp
 split at hcomp
 ·split at hcomp
  ·cases hcomp;exact .inl ⟨_,_,rfl⟩
  ·cases hcomp
 ·split at hcomp
  ·obtain ⟨⟨k,z⟩,he,hcomp⟩:=bindO hcomp
   obtain ⟨al,hl,hcomp⟩:=bindO hcomp
   obtain ⟨ac,hcc,hcomp⟩:=bindO hcomp
   cases hcomp;exact .inl ⟨_,_,rfl⟩
  ·cases hcomp
 ·split at hcomp
  ·split at hcomp
   ·obtain ⟨⟨k,z⟩,he,hcomp⟩:=bindO hcomp
    obtain ⟨qs,hq,hcomp⟩:=bindO hcomp
    cases hcomp;exact .inl ⟨_,_,rfl⟩
   ·cases hcomp
  ·cases hcomp
 ·split at hcomp
  ·obtain ⟨k,hk,hcomp⟩:=bindO hcomp
   obtain ⟨ax,hx,hcomp⟩:=bindO hcomp
   obtain ⟨al,hl,hcomp⟩:=bindO hcomp
   obtain ⟨ah,hh,hcomp⟩:=bindO hcomp
   obtain ⟨am,hm,hcomp⟩:=bindO hcomp
   cases hcomp;exact .inl ⟨_,_,rfl⟩
  ·cases hcomp
 ·cases hcomp;exact .inl ⟨_,_,rfl⟩
 ·rename_i ho
  split at hcomp
  ·obtain ⟨sh,hs,hcomp⟩:=bindO hcomp
   obtain ⟨z,hz,hcomp⟩:=bindO hcomp
   obtain ⟨ax,hx,hcomp⟩:=bindO hcomp
   obtain ⟨ai,hi,hcomp⟩:=bindO hcomp
   cases hcomp;exact .inr (.inl ⟨_,_,_,_,_,_,_,_,_,rfl,ho⟩)
  ·cases hcomp
 ·split at hcomp
  ·obtain ⟨sh,hs,hcomp⟩:=bindO hcomp
   obtain ⟨am,hm,hcomp⟩:=bindO hcomp
   obtain ⟨ai,hi,hcomp⟩:=bindO hcomp
   obtain ⟨av,hv,hcomp⟩:=bindO hcomp
   cases hcomp;exact .inl ⟨_,_,rfl⟩
  ·cases hcomp
 ·split at hcomp
  ·obtain ⟨sh,hs,hcomp⟩:=bindO hcomp
   obtain ⟨z,hz,hcomp⟩:=bindO hcomp
   obtain ⟨am,hm,hcomp⟩:=bindO hcomp
   obtain ⟨ai,hi,hcomp⟩:=bindO hcomp
   cases hcomp;exact .inl ⟨_,_,rfl⟩
  ·cases hcomp
 ·obtain ⟨am,hm,hcomp⟩:=bindO hcomp
  obtain ⟨ai,hi,hcomp⟩:=bindO hcomp
  obtain ⟨av,hv,hcomp⟩:=bindO hcomp
  cases hcomp;exact .inl ⟨_,_,rfl⟩
 ·split at hcomp
  ·obtain ⟨ax,hx,hcomp⟩:=bindO hcomp
   cases hcomp;exact .inl ⟨_,_,rfl⟩
  ·cases hcomp
 ·split at hcomp
  ·obtain ⟨ax,hx,hcomp⟩:=bindO hcomp
   cases hcomp;exact .inl ⟨_,_,rfl⟩
  ·cases hcomp
 ·obtain ⟨ax,hx,hcomp⟩:=bindO hcomp
  cases hcomp;exact .inl ⟨_,_,rfl⟩
 ·obtain ⟨ax,hx,hcomp⟩:=bindO hcomp
  cases hcomp;exact .inl ⟨_,_,rfl⟩
 ·split at hcomp
  ·obtain ⟨k,hk,hcomp⟩:=bindO hcomp
   obtain ⟨ax,hx,hcomp⟩:=bindO hcomp
   cases hcomp;exact .inl ⟨_,_,rfl⟩
  ·cases hcomp
 ·rename_i op ty y z yt ho
  split at hcomp
  ·split at hcomp
   ·obtain ⟨ay,hay,rfl⟩:=mapO hcomp
    exact .inr (.inr ⟨_,_,_,_,_,.inr ⟨_,_,rfl⟩,ho⟩)
   ·cases hcomp
  split at hcomp
  ·obtain ⟨sh,hs,hcomp⟩:=bindO hcomp
   obtain ⟨ay,hay,hcomp⟩:=bindO hcomp
   obtain ⟨az,haz,hcomp⟩:=bindO hcomp
   cases hcomp;exact .inr (.inr ⟨_,_,_,_,_,.inl ⟨_,_,_,_,rfl⟩,ho⟩)
  ·cases hcomp
 ·split at hcomp
  ·split at hcomp
   ·split at hcomp
    ·obtain ⟨ax,hx,hcomp⟩:=bindO hcomp
     cases hcomp;exact .inl ⟨_,_,rfl⟩
    ·cases hcomp
   ·split at hcomp
    ·split at hcomp
     ·split at hcomp
      ·cases hcomp
      ·obtain ⟨⟨k,zz⟩,he,hcomp⟩:=bindO hcomp
       obtain ⟨ax,hx,hcomp⟩:=bindO hcomp
       obtain ⟨ay,hy,hcomp⟩:=bindO hcomp
       cases hcomp;exact .inl ⟨_,_,rfl⟩
     ·cases hcomp
    ·cases hcomp
   ·split at hcomp
    ·obtain ⟨sh,hs,hcomp⟩:=bindO hcomp
     obtain ⟨ax,hx,hcomp⟩:=bindO hcomp
     obtain ⟨ay,hy,hcomp⟩:=bindO hcomp
     cases hcomp;exact .inl ⟨_,_,rfl⟩
    ·cases hcomp
   ·cases hcomp
  ·cases hcomp
 ·cases hcomp
end
end Go.AE
namespace Go.AE
section
variable {P:Program} {gl:Nat→Option (List AVal)} {G:Ghost} {w:World} {h:List ABox} {t:List AVal} {a:Act}
set_option maxHeartbeats 1000000 in
theorem did_op0 (hc:Cfg P gl G h t a w) {p:Prov} (hp:ProvOK G w t a p) {o:Oper} {ao:AOp} (hcomp:compOp0 P gl o = some ao) (hnc:ao.calls = false) {base:Nat} {call:AE.Call} {e:Bool} {x:Ex} {s':St}
  (hrun:runOp base call p o.dst ao ⟨t,h,e⟩ = some (x,s')):x = .nor∧Did P gl G w a o h.length s'.h s'.t∧h.length ≤ s'.h.length:=by
 have hpure:∀{q:AOp},(∀v,pureV t q = some v→Gives P G w a o v)→(pureV t q).map (fun v=>(Ex.nor,({ t:=put o.dst v t,h:=h,e:=e}:St))) = some (x,s')→
   x = .nor∧Did P gl G w a o h.length s'.h s'.t∧h.length ≤ s'.h.length:=by
  intro q hg hm
  obtain ⟨v,hv,he⟩:=mapO hm
  cases he
  exact ⟨rfl,did_gives hc (hg v hv) _,Nat.le_refl _⟩
 have hr:=hc.rel
 have ht:=hc.tr
 unfold compOp0 at hcomp
 split at hcomp
 ·
  rename_i y ho
  obtain ⟨ay,hy,rfl⟩:=mapO hcomp
  simp only [runOp] at hrun
  exact hpure (fun v hv=>by simp only [pureV,Option.some.injEq] at hv;subst hv;exact gives_move hr ht ho hy) hrun
 ·
  rename_i y ho
  obtain ⟨ay,hy,rfl⟩:=mapO hcomp
  simp only [runOp] at hrun
  cases hrun
  exact ⟨rfl,did_asg hc ho hy _,Nat.le_refl _⟩
 ·
  rename_i c y z ho
  obtain ⟨ac,hac,hcomp⟩:=bindO hcomp
  obtain ⟨ay,hay,hcomp⟩:=bindO hcomp
  obtain ⟨az,haz,hcomp⟩:=bindO hcomp
  cases hcomp
  simp only [runOp] at hrun
  exact hpure (fun v hv=>gives_pick hr ht ho hac hay haz hv) hrun
 ·
  rename_i et ho
  obtain ⟨z,hz,hcomp⟩:=bindO hcomp
  cases hcomp
  simp only [runOp] at hrun
  cases hrun
  exact ⟨rfl,did_new hc ho hz,by simp⟩
 ·
  rename_i et y ho
  obtain ⟨k,hk,hcomp⟩:=bindO hcomp
  obtain ⟨ay,hay,hcomp⟩:=bindO hcomp
  cases hcomp
  simp only [runOp] at hrun
  split at hrun
  ·rename_i hh
   cases hrun
   exact ⟨rfl,did_boxed hc ho hay hh.2,by simp⟩
  ·cases hrun
 ·
  rename_i ty ps ho
  obtain ⟨z,hz,hcomp⟩:=bindO hcomp
  split at hcomp
  ·rename_i fs hu
   split at hcomp
   ·rename_i hall
    obtain ⟨aps,haps,hcomp⟩:=bindO hcomp
    cases hcomp
    simp only [runOp] at hrun
    exact hpure (fun v hv=>gives_buildS hr ht ho hu hall hz haps hv) hrun
   ·cases hcomp
  ·rename_i n et hu
   obtain ⟨k,hk,hcomp⟩:=bindO hcomp
   obtain ⟨aps,haps,hcomp⟩:=bindO hcomp
   cases hcomp
   simp only [runOp] at hrun
   exact hpure (fun v hv=>gives_buildA hr ht ho hu hk hz haps hv) hrun
  ·cases hcomp
 ·
  rename_i ty n ps ho
  split at hcomp
  ·rename_i et hu
   obtain ⟨k,hk,hcomp⟩:=bindO hcomp
   obtain ⟨z,hz,hcomp⟩:=bindO hcomp
   split at hcomp
   ·cases hcomp
   ·rename_i hk0
    obtain ⟨aps,haps,hcomp⟩:=bindO hcomp
    cases hcomp
    simp only [runOp] at hrun
    obtain ⟨v,hv,he⟩:=mapO hrun
    cases he
    obtain ⟨c,u,h1,h2,h3⟩:=list_run hr ht ho hu hk hk0 hz haps hv
    exact ⟨rfl,did_list hc h1 h2 h3 _,Nat.le_refl _⟩
  ·cases hcomp
 ·
  rename_i ty y ho
  obtain ⟨k,hk,hcomp⟩:=bindO hcomp
  obtain ⟨ay,hay,hcomp⟩:=bindO hcomp
  cases hcomp
  simp only [runOp] at hrun
  obtain ⟨v,hv,he⟩:=mapO hrun
  cases he
  exact ⟨rfl,did_ld hc ho hk hay hv _,Nat.le_refl _⟩
 ·
  rename_i ty y z ho
  obtain ⟨k,hk,hcomp⟩:=bindO hcomp
  split at hcomp
  ·rename_i hsz
   obtain ⟨ay,hay,hcomp⟩:=bindO hcomp
   obtain ⟨az,haz,hcomp⟩:=bindO hcomp
   cases hcomp
   simp only [runOp] at hrun
   split at hrun
   ·rename_i id q hq
    split at hrun
    ·rename_i cs hcs
     cases k with
     | none=>
      simp only at hrun
      split at hrun
      ·rename_i hh
       cases hrun
       exact ⟨rfl,did_st (k:=none) hc ho hsz hay haz hq hcs hh.1 hh.2.1 hh.2.2 h.length,by simp⟩
      ·cases hrun
     | some k=>
      simp only at hrun
      split at hrun
      ·rename_i hh
       cases hrun
       exact ⟨rfl,did_st (k:=some k) hc ho hsz hay haz hq hcs hh.1 hh.2.1 hh.2.2 h.length,by simp⟩
      ·cases hrun
    ·cases hrun
   ·cases hrun
  ·cases hcomp
 ·
  rename_i y ho
  obtain ⟨ay,hy,rfl⟩:=mapO hcomp
  simp only [runOp] at hrun
  exact hpure (fun v hv=>gives_nilc hr ht ho hy hv) hrun
 ·
  rename_i op ty y z yt ho
  split at hcomp
  ·rename_i ay az hay haz
   split at hcomp
   ·rename_i hop
    have hop':op = .eql∨op = .neq:=by cases op <;> simp [isEq] at hop <;> simp
    split at hcomp
    ·rename_i hu
     cases hcomp
     simp only [runOp] at hrun
     exact hpure (fun v hv=>gives_eqb hr ht ho hay haz hop' hu hv) hrun
    ·cases hcomp
     simp only [runOp] at hrun
     exact hpure (q:=.bin op ay az) (fun v hv=>gives_bin hr ht ho hay haz (by simpa only [pureV] using hv)) hrun
    ·cases hcomp
     simp only [runOp] at hrun
     exact hpure (q:=.bin op ay az) (fun v hv=>gives_bin hr ht ho hay haz (by simpa only [pureV] using hv)) hrun
    ·rename_i et hu
     split at hcomp
     ·cases hcomp
     ·rename_i hs0
      cases hcomp
      simp only [runOp] at hrun
      refine hpure (fun v hv=>gives_eqi hr ht ho hay haz hop' (fun _=>⟨et,hu,?_⟩) (by simp) (by simp) (by simp) hv) hrun
      cases hs:szOf P et with
      | none=>simp [hs] at hs0
      | some n=>exact ⟨n,rfl,by simpa [hs] using hs0⟩
    ·rename_i ms hu
     split at hcomp
     ·rename_i hcc
      cases hcomp
      simp only [runOp] at hrun
      exact hpure (fun v hv=>gives_eqi hr ht ho hay haz hop' (by simp) (fun _=>⟨⟨ms,hu⟩,by simpa using hcc⟩) (by simp) (by simp) hv) hrun
     ·cases hcomp
    ·rename_i p1 p2 p3 hu
     cases hcomp
     simp only [runOp] at hrun
     exact hpure (fun v hv=>gives_eqi hr ht ho hay haz hop' (by simp) (by simp) (fun _=>⟨p1,p2,p3,hu⟩) (by simp) hv) hrun
    ·rename_i p1 p2 hu
     cases hcomp
     simp only [runOp] at hrun
     exact hpure (fun v hv=>gives_eqi hr ht ho hay haz hop' (by simp) (by simp) (by simp) (fun _=>⟨p1,p2,hu⟩) hv) hrun
    ·cases hcomp
   ·cases hcomp
    simp only [runOp] at hrun
    exact hpure (q:=.bin op ay az) (fun v hv=>gives_bin hr ht ho hay haz (by simpa only [pureV] using hv)) hrun
  ·cases hcomp
 ·
  rename_i op ty y ho
  obtain ⟨ay,hy,rfl⟩:=mapO hcomp
  simp only [runOp] at hrun
  exact hpure (fun v hv=>gives_un hr ht ho hy hv) hrun
 ·
  rename_i s d y ho
  obtain ⟨ay,hay,hcomp⟩:=bindO hcomp
  split at hcomp
  ·rename_i j k hs hd
   cases hcomp
   simp only [runOp] at hrun
   exact hpure (fun v hv=>gives_cvi hr ht ho hay hs hd hv) hrun
  ·rename_i hs hd
   cases hcomp
   simp only [runOp] at hrun
   exact hpure (fun v hv=>gives_cvs hr ht ho hay hs hd hv) hrun
  ·rename_i e0 hs hd
   split at hcomp
   ·rename_i hu8
    cases hcomp
    simp only [runOp] at hrun
    obtain ⟨v,hv,he⟩:=mapO hrun
    cases he
    exact ⟨rfl,did_bytes hc ho hay hs hd hu8 hv _,Nat.le_refl _⟩
   ·cases hcomp
  ·cases hcomp
 ·
  rename_i ty y ho
  split at hcomp
  ·cases hcomp
  ·cases hcomp
  ·rename_i n1 n2
   obtain ⟨ay,hy,rfl⟩:=mapO hcomp
   simp only [runOp] at hrun
   cases hu:P.underlying ty with
   | none=>exact absurd hu n2
   | some d=>exact hpure (fun v hv=>gives_mkI hr ht ho hy hu (fun ms hms=>n1 ms (by rw [hu,hms])) hv) hrun
 ·
  rename_i f y z ho
  obtain ⟨ay,hay,hcomp⟩:=bindO hcomp
  obtain ⟨az,haz,hcomp⟩:=bindO hcomp
  cases hcomp
  simp only [runOp] at hrun
  exact hpure (fun v hv=>gives_mkF hr ht ho hay haz hv) hrun
 ·
  rename_i ty y lo hi ho
  split at hcomp
  ·rename_i hu
   obtain ⟨ay,hay,hcomp⟩:=bindO hcomp
   obtain ⟨alo,halo,hcomp⟩:=bindO hcomp
   obtain ⟨ahi,hahi,hcomp⟩:=bindO hcomp
   cases hcomp
   simp only [runOp] at hrun
   exact hpure (fun v hv=>gives_subS hr ht ho hay halo hahi hu hv) hrun
  ·rename_i et hu
   obtain ⟨k,hk,hcomp⟩:=bindO hcomp
   obtain ⟨ay,hay,hcomp⟩:=bindO hcomp
   obtain ⟨alo,halo,hcomp⟩:=bindO hcomp
   obtain ⟨ahi,hahi,hcomp⟩:=bindO hcomp
   cases hcomp
   simp only [runOp] at hrun
   exact hpure (fun v hv=>gives_subL hr ht ho hay halo hahi hu hk hv) hrun
  ·cases hcomp
 ·
  rename_i s y i ho
  split at hcomp
  ·rename_i fs hu
   split at hcomp
   ·rename_i f hf
    split at hcomp
    ·cases hcomp
    ·rename_i hs0
     obtain ⟨ay,hy,rfl⟩:=mapO hcomp
     simp only [runOp] at hrun
     cases hs:szOf P f.type with
     | none=>simp [hs] at hs0
     | some n=>exact hpure (fun v hv=>gives_fa hr ht ho hy hu hf hs (by simpa [hs] using hs0) hv) hrun
   ·cases hcomp
  ·cases hcomp
 ·
  rename_i s y i ho
  split at hcomp
  ·rename_i fs hu
   split at hcomp
   ·rename_i f hf
    obtain ⟨k,hk,hcomp⟩:=bindO hcomp
    obtain ⟨ay,hay,hcomp⟩:=bindO hcomp
    cases hcomp
    simp only [runOp] at hrun
    exact hpure (fun v hv=>gives_fld hr ht ho hay hu hf hk hv) hrun
   ·cases hcomp
  ·cases hcomp
 ·
  rename_i ty y i ho
  split at hcomp
  ·rename_i et hu
   obtain ⟨k,hk,hcomp⟩:=bindO hcomp
   obtain ⟨ay,hay,hcomp⟩:=bindO hcomp
   obtain ⟨ai,hai,hcomp⟩:=bindO hcomp
   cases hcomp
   simp only [runOp] at hrun
   exact hpure (fun v hv=>gives_ixaL hr ht ho hay hai hu hk hv) hrun
  ·rename_i n et hu
   obtain ⟨k,hk,hcomp⟩:=bindO hcomp
   obtain ⟨ay,hay,hcomp⟩:=bindO hcomp
   obtain ⟨ai,hai,hcomp⟩:=bindO hcomp
   cases hcomp
   simp only [runOp] at hrun
   exact hpure (fun v hv=>gives_ixaA hr ht ho hay hai hu hk hv) hrun
  ·cases hcomp
 ·
  rename_i ty y i ho
  split at hcomp
  ·rename_i hu
   obtain ⟨ay,hay,hcomp⟩:=bindO hcomp
   obtain ⟨ai,hai,hcomp⟩:=bindO hcomp
   cases hcomp
   simp only [runOp] at hrun
   exact hpure (fun v hv=>gives_ixS hr ht ho hay hai hu hv) hrun
  ·rename_i n et hu
   obtain ⟨k,hk,hcomp⟩:=bindO hcomp
   split at hcomp
   ·rename_i hsz
    obtain ⟨ay,hay,hcomp⟩:=bindO hcomp
    obtain ⟨ai,hai,hcomp⟩:=bindO hcomp
    cases hcomp
    simp only [runOp] at hrun
    exact hpure (fun v hv=>gives_ixA hr ht ho hay hai hu hk hsz rfl hv) hrun
   ·cases hcomp
  ·cases hcomp
 ·
  rename_i y xt ty ho
  split at hcomp
  ·cases hcomp
  ·cases hcomp
  ·rename_i n1 n2
   obtain ⟨z,hz,hcomp⟩:=bindO hcomp
   obtain ⟨ay,hay,hcomp⟩:=bindO hcomp
   cases hcomp
   simp only [runOp] at hrun
   cases hu:P.underlying ty with
   | none=>exact absurd hu n2
   | some d=>exact hpure (fun v hv=>gives_tas hr ht ho hay hu (fun ms hms=>n1 ms (by rw [hu,hms])) hz hv) hrun
 ·
  rename_i y i ho
  obtain ⟨ay,hay,hcomp⟩:=bindO hcomp
  cases hcomp
  simp only [runOp] at hrun
  exact hpure (fun v hv=>gives_ext hr ht ho hay hv) hrun
 ·
  rename_i c ho
  split at hcomp
  ·obtain ⟨af,haf,hcomp⟩:=bindO hcomp
   obtain ⟨as,has,hcomp⟩:=bindO hcomp
   cases hcomp
   simp [AOp.calls] at hnc
  ·cases hcomp
  ·rename_i b hcal
   split at hcomp
   ·rename_i y ty hargs hty
    split at hcomp
    ·rename_i hu
     obtain ⟨ay,hy,rfl⟩:=mapO hcomp
     simp only [runOp] at hrun
     exact hpure (fun v hv=>gives_lenS hr ht ho hcal hargs hty hy hu hv) hrun
    ·rename_i et hu
     obtain ⟨ay,hy,rfl⟩:=mapO hcomp
     simp only [runOp] at hrun
     exact hpure (fun v hv=>gives_lenL hr ht ho hcal hargs hty hy hu hv) hrun
    ·rename_i n et hu
     cases hcomp
     simp only [runOp] at hrun
     exact hpure (fun v hv=>by
      simp only [pureV,ev,raw,AVal.dim,Option.some.injEq] at hv
      subst hv
      exact gives_lenA ho hcal hargs hty hu) hrun
    ·cases hcomp
   ·rename_i y z sT xT hargs hty
    split at hcomp
    ·rename_i et ux hu hux
     split at hcomp
     ·cases hcomp
     ·rename_i hm
      obtain ⟨i,hi,hcomp⟩:=bindO hcomp
      obtain ⟨zz,hz,hcomp⟩:=bindO hcomp
      split at hcomp
      ·cases hcomp
      ·rename_i hn
       obtain ⟨ay,hay,hcomp⟩:=bindO hcomp
       obtain ⟨az,haz,hcomp⟩:=bindO hcomp
       cases hcomp
       have hux':(∃e',ux = .slice e')∨ux = .string:=by
        cases ux <;> first | (exact .inl ⟨_,rfl⟩) | exact .inr rfl | (exfalso;exact hm rfl)
       have hok:AppOK P gl o i.size ay az:=⟨c,y,z,sT,xT,et,i,ux,zz,ho,hcal,hargs,hty,hu,hux,hux',hi,rfl,by omega,by omega,hz,by omega,hay,haz⟩
       have hx:x = .nor:=by
        simp only [runOp] at hrun
        repeat' (split at hrun)
        all_goals first | (cases hrun;rfl) | cases hrun
       subst hx
       obtain ⟨h1,h2,h3⟩:=did_app hc hp hok hrun h.length (Nat.le_refl _)
       exact ⟨rfl,h1,by omega⟩
    ·cases hcomp
   ·rename_i y z tys hargs
    obtain ⟨ay,hay,hcomp⟩:=bindO hcomp
    obtain ⟨az,haz,hcomp⟩:=bindO hcomp
    cases hcomp
    simp only [runOp] at hrun
    exact hpure (fun v hv=>gives_mm (isMax:=true) hr ht ho hcal hargs hay haz hv) hrun
   ·rename_i y z tys hargs
    obtain ⟨ay,hay,hcomp⟩:=bindO hcomp
    obtain ⟨az,haz,hcomp⟩:=bindO hcomp
    cases hcomp
    simp only [runOp] at hrun
    exact hpure (fun v hv=>gives_mm (isMax:=false) hr ht ho hcal hargs hay haz hv) hrun
   ·cases hcomp
 ·
  obtain ⟨ay,hy,rfl⟩:=mapO hcomp
  simp [AOp.calls] at hnc
 ·cases hcomp
theorem did_op (hc:Cfg P gl G h t a w) {p:Prov} (hp:ProvOK G w t a p) {o:Oper} {ao:AOp} (hcomp:compOp P gl o = some ao) (hnc:ao.calls = false) {base:Nat} {call:AE.Call} {e:Bool} {x:Ex} {s':St}
  (hrun:runOp base call p o.dst ao ⟨t,h,e⟩ = some (x,s')):x = .nor∧Did P gl G w a o h.length s'.h s'.t∧h.length ≤ s'.h.length:=by
 unfold compOp at hcomp
 split at hcomp
 ·rename_i y hy
  cases hcomp
  exact did_hx hc hy hrun
 ·exact did_op0 hc hp hcomp hnc hrun
end
end Go.AE
namespace Go.AE
def Keeps (base:Nat) (h h':List ABox):Prop:=
 h.length ≤ h'.length∧∀(i B:Nat) (bx:ABox),i < B→B ≤ base→h[i]? = some bx→bx.lower B = true→∃bx',h'[i]? = some bx'∧bx'.lower B = true
theorem Keeps.refl (base:Nat) (h:List ABox):Keeps base h h:=⟨Nat.le_refl _,fun i B bx _ _ h1 h2=>⟨bx,h1,h2⟩⟩
theorem Keeps.trans {base:Nat} {h h' h'':List ABox} (k:Keeps base h h') (k':Keeps base h' h''):Keeps base h h'':=
 ⟨Nat.le_trans k.1 k'.1,fun i B bx hi hB h1 h2=>by
  obtain ⟨bx',h3,h4⟩:=k.2 i B bx hi hB h1 h2
  exact k'.2 i B bx' hi hB h3 h4⟩
theorem Keeps.append (base:Nat) (h g:List ABox):Keeps base h (h ++ g):=
 ⟨by simp,fun i B bx _ _ h1 h2=>⟨bx,by rw [List.getElem?_append_left (List.getElem?_eq_some_iff.1 h1).1];exact h1,h2⟩⟩
theorem Keeps.set {base id:Nat} {h:List ABox} {bx0 bx1:ABox} (h0:h[id]? = some bx0) (hl:∀B,id < B→B ≤ base→bx0.lower B = true→bx1.lower B = true):Keeps base h (h.set id bx1):=by
 refine ⟨by simp,fun i B bx hi hB h1 h2=>?_⟩
 by_cases e:id = i
 ·subst e
  rw [h0] at h1;cases h1
  exact ⟨bx1,List.getElem?_set_self (List.getElem?_eq_some_iff.1 h0).1,hl B hi hB h2⟩
 ·exact ⟨bx,by rw [List.getElem?_set_ne e];exact h1,h2⟩
theorem Keeps.lower {base b:Nat} {h h':List ABox} (k:Keeps base h h') (hb:b ≤ base):Keeps b h h':=
 ⟨k.1,fun i B bx hi hB=>k.2 i B bx hi (Nat.le_trans hB hb)⟩
def StKeeps (base:Nat) (s s':St):Prop:=s.h.length ≤ s'.h.length∧(s'.e = false→s.e = false∧Keeps base s.h s'.h)
theorem StKeeps.refl (base:Nat) (s:St):StKeeps base s s:=⟨Nat.le_refl _,fun h=>⟨h,Keeps.refl _ _⟩⟩
theorem StKeeps.trans {base:Nat} {s s' s'':St} (k:StKeeps base s s') (k':StKeeps base s' s''):StKeeps base s s'':=
 ⟨Nat.le_trans k.1 k'.1,fun h=>by
  obtain ⟨h1,h2⟩:=k'.2 h
  obtain ⟨h3,h4⟩:=k.2 h1
  exact ⟨h3,h4.trans h2⟩⟩
def CallKeeps (call:Call):Prop:=∀fv args h r h' e',call fv args h = some (r,h',e')→h.length ≤ h'.length∧(e' = false→Keeps h.length h h')
theorem lowerL_get {n:Nat}:∀{as:List AVal} {i:Nat} {a:AVal},lowerL n as = true→as[i]? = some a→a.lower n = true
 | [],i,a,_,h=>by simp at h
 | x :: as,i,a,hl,h=>by
  simp only [lowerL,Bool.and_eq_true] at hl
  cases i with
  | zero=>simp at h;subst h;exact hl.1
  | succ i=>exact lowerL_get hl.2 (by simpa using h)
theorem lowerL_of {n:Nat}:∀{as:List AVal},(∀a ∈ as,a.lower n = true)→lowerL n as = true
 | [],_=>rfl
 | x :: as,h=>by simp only [lowerL,Bool.and_eq_true];exact ⟨h x (by simp),lowerL_of fun a ha=>h a (by simp [ha])⟩
theorem lowerL_mem {n:Nat} {as:List AVal} (h:lowerL n as = true):∀a ∈ as,a.lower n = true:=by
 intro a ha
 obtain ⟨i,hi⟩:=List.getElem?_of_mem ha
 exact lowerL_get h hi
theorem lowerL_splice {n o:Nat} {cs vs:List AVal} (h:lowerL n cs = true) (k:lowerL n vs = true):lowerL n (splice cs o vs) = true:=by
 refine lowerL_of fun a ha=>?_
 unfold splice at ha
 rcases List.mem_append.1 ha with ha | ha
 ·rcases List.mem_append.1 ha with ha | ha
  ·exact lowerL_mem h a (List.mem_of_mem_take ha)
  ·exact lowerL_mem k a ha
 ·exact lowerL_mem h a (List.mem_of_mem_drop ha)
theorem lowerL_set {n o:Nat} {cs:List AVal} {v:AVal} (h:lowerL n cs = true) (k:v.lower n = true):lowerL n (cs.set o v) = true:=by
 refine lowerL_of fun a ha=>?_
 rcases List.mem_or_eq_of_mem_set ha with ha | ha
 ·exact lowerL_mem h a ha
 ·subst ha;exact k
theorem lowerM_modify {n:Nat} {f:Nat×AVal×AVal→Nat×AVal×AVal} (hf:∀x,x.2.1.lower n = true→x.2.2.lower n = true→(f x).2.1.lower n = true∧(f x).2.2.lower n = true):∀{es:List (Nat×AVal×AVal)} (i:Nat),lowerM n es = true→lowerM n (es.modify i f) = true
 | [],i,h=>by simpa using h
 | y :: es,i,h=>by
  simp only [lowerM,Bool.and_eq_true] at h
  cases i with
  | zero=>
   simp only [List.modify_zero_cons,lowerM,Bool.and_eq_true]
   exact ⟨hf y h.1.1 h.1.2,h.2⟩
  | succ i=>
   simp only [List.modify_succ_cons,lowerM,Bool.and_eq_true]
   exact ⟨h.1,lowerM_modify hf i h.2⟩
theorem lowerM_append {n:Nat} {x:Nat×AVal×AVal} (h1:x.2.1.lower n = true) (h2:x.2.2.lower n = true):∀{es:List (Nat×AVal×AVal)},lowerM n es = true→lowerM n (es ++ [x]) = true
 | [],_=>by simp [lowerM,h1,h2]
 | y :: es,h=>by
  simp only [lowerM,Bool.and_eq_true] at h
  simp only [List.cons_append,lowerM,Bool.and_eq_true]
  exact ⟨h.1,lowerM_append h1 h2 h.2⟩
theorem lowerM_erase {n:Nat}:∀{es:List (Nat×AVal×AVal)} (i:Nat),lowerM n es = true→lowerM n (es.eraseIdx i) = true
 | [],i,h=>by simpa using h
 | y :: es,i,h=>by
  simp only [lowerM,Bool.and_eq_true] at h
  cases i with
  | zero=>exact h.2
  | succ i=>
   simp only [List.eraseIdx_cons_succ,lowerM,Bool.and_eq_true]
   exact ⟨h.1,lowerM_erase i h.2⟩
theorem young_low {base id B:Nat} {vs:List AVal} (h:young base id vs = false) (h1:id < B) (h2:B ≤ base):lowerL B vs = true:=by
 simp only [young,Bool.not_eq_false',Bool.or_eq_true,Nat.ble_eq] at h
 rcases h with h | h
 ·omega
 ·exact lowerL_mono (by omega) vs h
theorem put_keeps {base id o:Nat} {h h':List ABox} {vs:List AVal} {e:Bool} (hp:putCells base h id o vs = some (h',e)):h.length ≤ h'.length∧(e = false→Keeps base h h'):=by
 unfold putCells at hp
 split at hp
 ·rename_i cs hid
  split at hp
  ·cases hp
   refine ⟨by simp,fun he=>Keeps.set hid fun B hB hBb hl=>?_⟩
   simp only [ABox.lower] at hl ⊢
   exact lowerL_splice hl (young_low he hB hBb)
  ·cases hp
 ·cases hp
theorem hopApp_keeps {base k:Nat} {x y:AVal} {h:List ABox} {r:AVal×List ABox×Bool} (hr:hopApp base k x y h = some r):h.length ≤ r.2.1.length∧(r.2.2 = false→Keeps base h r.2.1):=by
 unfold hopApp at hr
 split at hr
 ·cases hr
 ·split at hr
  ·cases hr
  ·split at hr
   ·split at hr
    ·cases hr;exact ⟨Nat.le_refl _,fun _=>Keeps.refl _ _⟩
    ·split at hr
     ·split at hr
      ·cases hr;exact ⟨by simp,fun _=>Keeps.append _ _ _⟩
      ·cases hr
     ·cases hr
   ·split at hr
    ·cases hr;exact ⟨Nat.le_refl _,fun _=>Keeps.refl _ _⟩
    ·split at hr
     ·split at hr
      ·split at hr
       ·rename_i hp
        cases hr
        exact put_keeps hp
       ·cases hr
      ·split at hr
       ·rename_i hid
        split at hr
        ·cases hr;exact ⟨by simp,fun _=>Keeps.append _ _ _⟩
        ·split at hr
         ·cases hr
          exact ⟨by simp,fun _=>(Keeps.set hid fun _ _ _ _=>rfl).trans (Keeps.append _ _ _)⟩
         ·cases hr
       ·cases hr
     ·cases hr
   ·split at hr
    ·cases hr;exact ⟨Nat.le_refl _,fun _=>Keeps.refl _ _⟩
    ·split at hr
     ·cases hr;exact ⟨by simp,fun _=>Keeps.append _ _ _⟩
     ·cases hr
   ·cases hr
theorem frz_keeps {base:Nat} {h:List ABox} {x:AVal} {r:AVal×List ABox} (hr:frz h x = some r):Keeps base h r.2:=by
 unfold frz at hr
 split at hr
 ·split at hr
  ·rename_i hid
   split at hr
   ·cases hr;exact Keeps.set hid fun _ _ _ _=>rfl
   ·cases hr
  ·cases hr
 ·cases hr
theorem frzL_keeps {base:Nat}:∀(cs:List AVal) (h:List ABox),Keeps base h (frzL cs h).2
 | [],h=>Keeps.refl _ _
 | x :: xs,h=>by
  unfold frzL
  split
  ·rename_i hf
   exact (frz_keeps hf).trans (frzL_keeps xs _)
  ·exact frzL_keeps xs h
theorem hop_keeps {base:Nat} {o:HOp} {as:List AVal} {h:List ABox} {r:AVal×List ABox×Bool} (hr:hop base o as h = some r):h.length ≤ r.2.1.length∧(r.2.2 = false→Keeps base h r.2.1):=by
 have map:∀{id:Nat} {es es':List (Nat×AVal×AVal)} {c c':Nat} {vs:List AVal},h[id]? = some (.map es c)→(∀B,lowerL B vs = true→lowerM B es = true→lowerM B es' = true)→
   h.length ≤ (h.set id (.map es' c')).length∧(young base id vs = false→Keeps base h (h.set id (.map es' c'))):=by
  intro id es es' c c' vs hid hl
  refine ⟨by simp,fun he=>Keeps.set hid fun B hB hBb hlow=>?_⟩
  simp only [ABox.lower] at hlow ⊢
  exact hl B (young_low he hB hBb) hlow
 unfold hop at hr
 split at hr
 ·split at hr
  ·cases hr;exact ⟨by simp,fun _=>Keeps.append _ _ _⟩
  ·cases hr
 ·split at hr
  ·split at hr
   ·cases hr;exact ⟨by simp,fun _=>Keeps.append _ _ _⟩
   ·cases hr
  ·cases hr
 ·exact hopApp_keeps hr
 ·split at hr
  ·split at hr
   ·split at hr
    ·split at hr
     ·cases hr;exact ⟨Nat.le_refl _,fun _=>Keeps.refl _ _⟩
     ·split at hr
      ·cases hr;exact ⟨Nat.le_refl _,fun _=>Keeps.refl _ _⟩
      ·cases hr
    ·cases hr
   ·split at hr
    ·split at hr
     ·cases hr;exact ⟨Nat.le_refl _,fun _=>Keeps.refl _ _⟩
     ·cases hr;exact ⟨Nat.le_refl _,fun _=>Keeps.refl _ _⟩
    ·cases hr
   ·cases hr
  ·cases hr
 ·cases hr;exact ⟨by simp,fun _=>Keeps.append _ _ _⟩
 ·split at hr
  ·rename_i hid
   split at hr
   ·cases hr
    refine map hid fun B hB hl=>lowerM_modify (fun x _ _=>?_) _ hl
    simpa [lowerL] using hB
   ·cases hr
    refine map hid fun B hB hl=>?_
    simp only [lowerL,Bool.and_eq_true,and_true] at hB
    exact lowerM_append hB.1 hB.2 hl
   ·cases hr
  ·cases hr
 ·split at hr
  ·rename_i hid
   split at hr
   ·split at hr
    ·cases hr
     refine map hid fun B hB hl=>lowerM_modify (fun x _ h2=>?_) _ hl
     simp only [lowerL,Bool.and_eq_true,and_true] at hB
     exact ⟨hB,h2⟩
    ·cases hr
   ·cases hr
    refine map hid fun B hB hl=>?_
    simp only [lowerL,Bool.and_eq_true,and_true] at hB
    exact lowerM_append hB.1 hB.2 hl
   ·cases hr
  ·cases hr
 ·split at hr
  ·rename_i hid
   split at hr
   ·cases hr
    refine map hid fun B hB hl=>lowerM_modify (fun x h1 _=>?_) _ hl
    simp only [lowerL,Bool.and_eq_true,and_true] at hB
    exact ⟨h1,hB⟩
   ·cases hr
  ·cases hr
 ·split at hr
  ·cases hr;exact ⟨Nat.le_refl _,fun _=>Keeps.refl _ _⟩
  ·split at hr
   ·cases hr;exact ⟨Nat.le_refl _,fun _=>Keeps.refl _ _⟩
   ·cases hr
  ·cases hr
 ·cases hr;exact ⟨by simp,fun _=>Keeps.append _ _ _⟩
 ·split at hr
  ·split at hr
   ·cases hr;exact ⟨Nat.le_refl _,fun _=>Keeps.refl _ _⟩
   ·cases hr
  ·split at hr
   ·rename_i hid
    split at hr
    ·cases hr
     refine ⟨by simp,fun _=>Keeps.set hid fun B _ _ hl=>?_⟩
     simp only [ABox.lower] at hl ⊢
     exact lowerM_erase _ hl
    ·cases hr
     exact ⟨by simp,fun _=>Keeps.set hid fun B _ _ hl=>hl⟩
    ·cases hr
   ·cases hr
  ·cases hr
 ·split at hr
  ·cases hr;exact ⟨by simp,fun _=>Keeps.append _ _ _⟩
  ·split at hr
   ·cases hr;exact ⟨by simp,fun _=>Keeps.append _ _ _⟩
   ·cases hr
  ·cases hr
 ·split at hr
  ·cases hr;exact ⟨Nat.le_refl _,fun _=>Keeps.refl _ _⟩
  ·rename_i hit
   split at hr
   ·split at hr
    ·cases hr
    ·split at hr
     ·cases hr;exact ⟨Nat.le_refl _,fun _=>Keeps.refl _ _⟩
     ·split at hr
      ·cases hr
       exact ⟨by simp,fun _=>Keeps.set hit fun B _ _ hl=>hl⟩
      ·cases hr
     ·cases hr
   ·cases hr
  ·cases hr
 ·split at hr
  ·split at hr
   ·split at hr
    ·split at hr
     ·cases hr;exact ⟨Nat.le_refl _,fun _=>Keeps.refl _ _⟩
     ·cases hr
    ·cases hr
   ·cases hr
  ·cases hr
 ·obtain ⟨v,_,hv⟩:=mapO hr
  cases hv
  unfold frzA
  split
  ·exact ⟨(frzL_keeps (base:=base) _ _).1,fun _=>frzL_keeps _ _⟩
  ·exact ⟨Nat.le_refl _,fun _=>Keeps.refl _ _⟩
 ·cases hr;exact ⟨by simp,fun _=>Keeps.append _ _ _⟩
 ·cases hr
section
variable {base:Nat} {call:Call}
theorem taken_keeps {k:Nat} {p:Prov} {x:AOpd} {s s':St} {xs:List AVal} (h:taken k p x s = some (xs,s')):StKeeps base s s':=by
 unfold taken at h
 split at h
 ·cases h
 ·split at h
  ·split at h
   ·cases h;exact ⟨Nat.le_refl _,fun h=>⟨h,Keeps.refl _ _⟩⟩
   ·cases h
  ·split at h
   ·split at h
    ·split at h
     ·cases h;exact ⟨Nat.le_refl _,fun h=>⟨h,Keeps.refl _ _⟩⟩
     ·cases h
    ·cases h
   ·split at h
    ·split at h
     ·rename_i cs hid
      split at h
      ·rename_i ys j ho
       split at h
       ·cases h
        refine ⟨by simp,fun he=>⟨he,Keeps.set hid fun B _ _ hl=>?_⟩⟩
        simp only [ABox.lower] at hl ⊢
        have:=lowerL_get hl ho
        simp only [AVal.lower] at this
        exact lowerL_set hl (by simpa [AVal.lower] using this)
       ·cases h
      ·cases h
     ·cases h
    ·cases h
   ·cases h
theorem runOp_keeps (hc:CallKeeps call) {p:Prov} {dst:Option Nat} {o:AOp} {s s':St} {x:Ex} (hb:base ≤ s.h.length) (h:runOp base call p dst o s = some (x,s')):StKeeps base s s':=by
 have hpure:∀{q:Option AVal},q.map (fun v=>(Ex.nor,({ s with t:=put dst v s.t}:St))) = some (x,s')→StKeeps base s s':=by
  intro q hm
  obtain ⟨v,_,he⟩:=mapO hm
  cases he
  exact ⟨Nat.le_refl _,fun h=>⟨h,Keeps.refl _ _⟩⟩
 cases o <;> simp only [runOp] at h <;> first
  | exact hpure h
  | skip
 case asg y=>cases h;exact ⟨Nat.le_refl _,fun h=>⟨h,Keeps.refl _ _⟩⟩
 case new cs=>cases h;exact ⟨by simp,fun h=>⟨h,Keeps.append _ _ _⟩⟩
 case box k y=>
  split at h
  ·cases h;exact ⟨by simp,fun h=>⟨h,Keeps.append _ _ _⟩⟩
  ·cases h
 case st k y z=>
  split at h
  ·rename_i id q hq
   split at h
   ·rename_i cs hcs
    have key:∀(vs:List AVal) (s1:St),s1.h = s.h.set id (.cells (splice cs q vs))→s1.e = (s.e || !(Nat.ble base id || lowerL (id + 1) vs))→StKeeps base s s1:=by
     intro vs s1 e1 e2
     refine ⟨by rw [e1];simp,fun he=>?_⟩
     rw [e2] at he
     simp only [Bool.or_eq_false_iff,Bool.not_eq_false',Bool.or_eq_true,Nat.ble_eq] at he
     refine ⟨he.1,?_⟩
     rw [e1]
     refine Keeps.set hcs fun B hB hBb hl=>?_
     simp only [ABox.lower] at hl ⊢
     rcases he.2 with h1 | h1
     ·omega
     ·exact lowerL_splice hl (lowerL_mono (by omega) vs h1)
    cases k with
    | none=>
     simp only at h
     split at h
     ·cases h;exact key _ _ rfl rfl
     ·cases h
    | some k=>
     simp only at h
     split at h
     ·cases h;exact key _ _ rfl rfl
     ·cases h
   ·cases h
  ·cases h
 case call f args=>
  split at h
  ·rename_i v hh e he
   cases h
   obtain ⟨h1,h2⟩:=hc _ _ _ _ _ _ he
   refine ⟨h1,fun hf=>?_⟩
   simp only [Bool.or_eq_false_iff] at hf
   exact ⟨hf.1,(h2 hf.2).lower hb⟩
  ·rename_i v hh e he
   cases h
   obtain ⟨h1,h2⟩:=hc _ _ _ _ _ _ he
   refine ⟨h1,fun hf=>?_⟩
   simp only [Bool.or_eq_false_iff] at hf
   exact ⟨hf.1,(h2 hf.2).lower hb⟩
  ·cases h
 case app k y z=>
  split at h
  ·split at h
   ·cases h;exact ⟨Nat.le_refl _,fun h=>⟨h,Keeps.refl _ _⟩⟩
   ·split at h
    ·split at h
     ·cases h;exact ⟨Nat.le_refl _,fun h=>⟨h,Keeps.refl _ _⟩⟩
     ·split at h
      ·rename_i xs2 s2 htk
       split at h
       ·cases h
        have:=taken_keeps (base:=base) htk
        exact ⟨this.1,this.2⟩
       ·cases h
      ·cases h
    ·cases h
  ·cases h
 case pan y=>
  split at h
  ·cases h;exact StKeeps.refl _ _
  ·cases h
 case hx o as=>
  obtain ⟨r,hr,he⟩:=mapO h
  cases he
  obtain ⟨h1,h2⟩:=hop_keeps hr
  refine ⟨h1,fun hf=>?_⟩
  simp only [Bool.or_eq_false_iff] at hf
  exact ⟨hf.1,h2 hf.2⟩
theorem runOps_keeps (hc:CallKeeps call):∀(ops:List AOper) (p:Prov) (s s':St) (x:Ex),base ≤ s.h.length→runOps base call p ops s = some (x,s')→StKeeps base s s'
 | [],p,s,s',x,_,h=>by simp only [runOps] at h;cases h;exact StKeeps.refl _ _
 | o :: os,p,s,s',x,hb,h=>by
  simp only [runOps] at h
  split at h
  ·split at h
   ·rename_i s1 h1
    have k1:=runOp_keeps (base:=base) hc hb h1
    exact k1.trans (runOps_keeps hc os _ s1 s' x (Nat.le_trans hb k1.1) h)
   ·exact runOp_keeps hc hb h
  ·have k1:StKeeps base s { s with t:=put o.dst (.tup []) s.t}:=⟨Nat.le_refl _,fun h=>⟨h,Keeps.refl _ _⟩⟩
   exact k1.trans (runOps_keeps hc os _ _ s' x hb h)
  ·cases h
theorem runDraw_keeps (hc:CallKeeps call) (dsts:List Nat):∀(ops:List DOper) (pend:List (Nat×Chk)) (s s':St) (x:Ex),base ≤ s.h.length→runDraw base call dsts ops pend s = some (x,s')→StKeeps base s s'
 | [],pend,s,s',x,_,h=>by simp only [runDraw] at h;cases h;exact StKeeps.refl _ _
 | d :: ds,pend,s,s',x,hb,h=>by
  simp only [runDraw] at h
  split at h
  ·split at h
   ·rename_i s1 h1
    have k1:=runOp_keeps (base:=base) hc hb h1
    split at h
    ·split at h
     ·exact k1.trans (runDraw_keeps hc dsts ds _ s1 s' x (Nat.le_trans hb k1.1) h)
     ·cases h
    ·split at h
     ·exact k1.trans (runDraw_keeps hc dsts ds _ s1 s' x (Nat.le_trans hb k1.1) h)
     ·exact k1.trans (runDraw_keeps hc dsts ds _ s1 s' x (Nat.le_trans hb k1.1) h)
   ·rename_i v s1 h1
    have k1:=runOp_keeps (base:=base) hc hb h1
    split at h
    ·cases h;exact ⟨k1.1,k1.2⟩
    ·cases h
   ·cases h
  ·have k1:StKeeps base s { s with t:=put d.o.dst (.tup []) s.t}:=⟨Nat.le_refl _,fun h=>⟨h,Keeps.refl _ _⟩⟩
   exact k1.trans (runDraw_keeps hc dsts ds _ _ s' x hb h)
  ·cases h
theorem iter_keeps {f:St→Option (Ex×St)} (hf:∀s s' x,base ≤ s.h.length→f s = some (x,s')→StKeeps base s s'):∀(n:Nat) (s s':St) (x:Ex),base ≤ s.h.length→iter f n s = some (x,s')→StKeeps base s s'
 | 0,s,s',x,_,h=>by simp [iter] at h
 | n + 1,s,s',x,hb,h=>by
  simp only [iter] at h
  split at h
  ·rename_i s1 h1
   have k1:=hf s s1 _ hb h1
   exact k1.trans (iter_keeps hf n s1 s' x (Nat.le_trans hb k1.1) h)
  ·exact hf s s' x hb h
theorem exec_keeps (hc:CallKeeps call) (n:Nat):∀(c:ACode) (s s':St) (x:Ex),base ≤ s.h.length→exec n base call c s = some (x,s')→StKeeps base s s'
 | .skip,s,s',x,_,h=>by simp only [exec] at h;cases h;exact StKeeps.refl _ _
 | .reg ops,s,s',x,hb,h=>runOps_keeps hc ops _ s s' x hb (by simpa only [exec] using h)
 | .draw ops,s,s',x,hb,h=>runDraw_keeps hc _ ops _ s s' x hb (by simpa only [exec] using h)
 | .draw2 c a b r,s,s',x,hb,h=>by
  simp only [exec] at h
  obtain ⟨_,h1,_⟩:=both_some h
  exact runDraw_keeps hc _ _ _ s s' _ hb h1
 | .seq a b,s,s',x,hb,h=>by
  simp only [exec] at h
  split at h
  ·rename_i s1 h1
   have k1:=exec_keeps hc n a s s1 _ hb h1
   exact k1.trans (exec_keeps hc n b s1 s' x (Nat.le_trans hb k1.1) h)
  ·exact exec_keeps hc n a s s' x hb h
 | .cond c a b,s,s',x,hb,h=>by
  simp only [exec] at h
  split at h
  ·exact exec_keeps hc n a s s' x hb h
  ·exact exec_keeps hc n b s s' x hb h
  ·cases h
 | .block id b,s,s',x,hb,h=>by
  simp only [exec] at h
  split at h
  ·rename_i j s1 h1
   have k1:=exec_keeps hc n b s s1 _ hb h1
   split at h
   ·cases h;exact k1
   ·cases h;exact k1
  ·exact exec_keeps hc n b s s' x hb h
 | .loop b,s,s',x,hb,h=>iter_keeps (fun s s' x hb h=>exec_keeps hc n b s s' x hb h) n s s' x hb (by simpa only [exec] using h)
 | .exit id,s,s',x,_,h=>by simp only [exec] at h;cases h;exact StKeeps.refl _ _
 | .ret,s,s',x,_,h=>by simp only [exec] at h;cases h;exact StKeeps.refl _ _
 | .rfun f ps asg body,s,s',x,hb,h=>by
  simp only [exec] at h
  split at h
  ·rename_i g first cap hf
   split at h
   ·rename_i v hh e he
    obtain ⟨h1,h2⟩:=hc _ _ _ _ _ _ he
    split at h
    ·rename_i t ps' asg' body' st pend hl
     split at h
     ·cases h
     ·have key:∀s1:St,s1.h = hh.set s.h.length (.loop t ps' asg' body' .exhausted pend)→s1.e = (s.e || e)→StKeeps base s s1:=by
       intro s1 e1 e2
       refine ⟨by rw [e1];simp at h1 ⊢;omega,fun hf=>?_⟩
       rw [e2] at hf
       simp only [Bool.or_eq_false_iff] at hf
       refine ⟨hf.1,?_⟩
       rw [e1]
       refine ((Keeps.append base s.h _).trans ((h2 hf.2).lower (by simp;omega))).trans (Keeps.set hl fun B _ _ hlow=>?_)
       exact hlow
      split at h
      ·cases h;exact key _ rfl rfl
      ·cases h;exact key _ rfl rfl
      ·cases h;exact key _ rfl rfl
    ·cases h
   ·rename_i v hh e he
    obtain ⟨h1,h2⟩:=hc _ _ _ _ _ _ he
    cases h
    refine ⟨by simp at h1 ⊢;omega,fun hf=>?_⟩
    simp only [Bool.or_eq_false_iff] at hf
    exact ⟨hf.1,(Keeps.append base s.h _).trans ((h2 hf.2).lower (by simp;omega))⟩
   ·cases h
  ·cases h
theorem leave_keeps {r:CRes} {h h':List ABox} {e:Bool} (hk:h.length ≤ h'.length∧(e = false→Keeps h.length h h')) :
  h.length ≤ (leave h.length r h' e).2.1.length∧((leave h.length r h' e).2.2 = false→Keeps h.length h (leave h.length r h' e).2.1):=by
 cases r <;> unfold leave <;> simp only <;> split
 all_goals first
  | exact hk
  | skip
 all_goals
  rename_i hh
  refine ⟨by simp;omega,fun he=>⟨by simp;omega,fun i B bx hi hB h1 h2=>?_⟩⟩
  obtain ⟨bx',h3,h4⟩:=(hk.2 he).2 i B bx hi hB h1 h2
  exact ⟨bx',by simp only;rw [List.getElem?_take_of_lt (by omega)];exact h3,h4⟩
end
theorem round_keeps {n:Nat} {call:Call} (hc:CallKeeps call) {l:Nat} {args:List AVal} {h:List ABox} {r:CRes} {h':List ABox} {e':Bool} (hr:round n call l args h = some (r,h',e')) :
  h.length ≤ h'.length∧(e' = false→Keeps h.length h h'):=by
 unfold round at hr
 split at hr
 ·rename_i t ps asg body _ _ hl
  split at hr
  ·cases hr
  ·simp only at hr
   split at hr
   ·rename_i s1 h1
    have k1:=exec_keeps (base:=h.length) hc n asg _ s1 _ (Nat.le_refl _) h1
    split at hr
    ·rename_i t1 ps1 asg1 body1 pend hl1
     have kk:StKeeps h.length s1 { s1 with h:=s1.h.set l (.loop t1 ps1 asg1 body1 .busy pend)}:=⟨by simp,fun he=>⟨he,Keeps.set hl1 fun B _ _ hlow=>hlow⟩⟩
     split at hr
     ·rename_i x s2 h2
      have k2:=exec_keeps (base:=h.length) hc n body _ s2 _ (by simpa using k1.1) h2
      have k12:=k1.trans (kk.trans k2)
      split at hr
      ·rename_i t2 ps2 asg2 body2 st2 pend2 hl2
       have key:∀st pend r0,leave h.length r0 (s2.h.set l (.loop t2 ps2 asg2 body2 st pend)) s2.e = (r,h',e')→h.length ≤ h'.length∧(e' = false→Keeps h.length h h'):=by
        intro st pend r0 hq
        have:=leave_keeps (r:=r0) (h:=h) (h':=s2.h.set l (.loop t2 ps2 asg2 body2 st pend)) (e:=s2.e)
         ⟨by simpa using k12.1,fun he=>(k12.2 he).2.trans (Keeps.set hl2 fun B _ _ hlow=>hlow)⟩
        rw [hq] at this
        exact this
       split at hr
       ·exact key _ _ _ (Option.some.inj hr)
       ·exact key _ _ _ (Option.some.inj hr)
       ·exact key _ _ _ (Option.some.inj hr)
       ·cases hr
      ·cases hr
     ·cases hr
    ·cases hr
   ·cases hr
 ·cases hr
theorem run_keeps {F:FuncId→Option AFunc} {X:Exts} (hX:∀f g,X f = some g→∀call,CallKeeps call→CallKeeps fun _ as h=>g call as h):∀n,CallKeeps (run F X n)
 | 0=>fun fv args h r h' e' hr=>by simp [run] at hr
 | n + 1=>fun fv args h r h' e' hr=>by
  have ih:=run_keeps (F:=F) hX n
  simp only [run] at hr
  split at hr
  ·rename_i f first cap
   split at hr
   ·rename_i g hg
    exact hX f g hg _ ih (.fn f first cap) _ h r h' e' hr
   ·split at hr
    ·cases hr
    ·rename_i fn hfn
     split at hr
     ·rename_i s h1
      have k:=exec_keeps (base:=h.length) ih n fn.code _ s _ (Nat.le_refl _) h1
      split at hr
      ·rename_i vs hvs
       have:=leave_keeps (r:=.ret (oneRes vs)) (h:=h) ⟨k.1,fun he=>(k.2 he).2⟩
       rw [Option.some.inj hr] at this
       exact this
      ·cases hr
     ·rename_i s h1
      have k:=exec_keeps (base:=h.length) ih n fn.code _ s _ (Nat.le_refl _) h1
      split at hr
      ·rename_i vs hvs
       have:=leave_keeps (r:=.ret (oneRes vs)) (h:=h) ⟨k.1,fun he=>(k.2 he).2⟩
       rw [Option.some.inj hr] at this
       exact this
      ·cases hr
     ·rename_i v s h1
      have k:=exec_keeps (base:=h.length) ih n fn.code _ s _ (Nat.le_refl _) h1
      have:=leave_keeps (r:=.pan v) (h:=h) ⟨k.1,fun he=>(k.2 he).2⟩
      rw [Option.some.inj hr] at this
      exact this
     ·cases hr
  ·exact round_keeps ih hr
  ·cases hr
end Go.AE
namespace Go.AE
section
variable {P:Program} {gl:Nat→Option (List AVal)}
def Was (P:Program) (gl:Nat→Option (List AVal)) (o:Oper) (ao:AOp):Prop:=
 (∀i,ao = .mov (.t i)→o.op = .move (.tmp i))∧(∀q,ao = .ld none q→∃ty y,o.op = .load ty y∧opd gl y = some q∧tyk P ty = some none)∧(OpActs o→ao.acts = true)∧
 (∀f as,ao = .call f as→∃c fo,o.op = .call c∧c.callee = .value fo∧opd gl fo = some f∧opds gl c.args = some as)∧(∀x,ao = .pan x→∃xo,o.op = .panic xo∧opd gl xo = some x)∧
 (∀cs,ao = .new cs→∃e z,o.op = .alloc e∧zeroOf P e = some z∧cs = z.cells)∧(∀k y,ao = .box k y→∃e x,o.op = .box e x∧opd gl x = some y)
set_option maxHeartbeats 1000000 in
theorem comp_was0 {o:Oper} {ao:AOp} (hcomp:compOp0 P gl o = some ao):Was P gl o ao:=by
 unfold compOp0 at hcomp
 split at hcomp
 ·
  rename_i y ho
  obtain ⟨ay,hy,rfl⟩:=mapO hcomp
  refine ⟨fun i hh=>?_,fun q hh=>?_,fun hh=>?_,fun f as hh=>?_,fun x hh=>?_,fun cs hh=>?_,fun k y hh=>?_⟩
  ·first | (cases hh;done) | (cases hh;rw [ho,opd_tmp hy])
  ·first | (cases hh;done) | (cases hh;exact ⟨_,_,ho,hay,hk⟩)
  ·first
   | rfl
   | (rcases hh with ⟨_,_,_,hh⟩ | ⟨_,hh,hh2⟩ <;> rw [ho] at hh <;> cases hh;done)
   | (rcases hh with ⟨_,_,_,hh⟩ | ⟨_,hh,hh2⟩
      ·rw [ho] at hh;cases hh
      ·rw [ho] at hh;cases hh;rw [hcal] at hh2;cases hh2)
  ·first | (cases hh;done) | (cases hh;exact ⟨_,_,ho,‹_›,haf,has⟩)
  ·first | (cases hh;done) | (cases hh;exact ⟨_,ho,hy⟩)
  ·first | (cases hh;done) | (cases hh;exact ⟨_,_,ho,hz,rfl⟩)
  ·first | (cases hh;done) | (cases hh;exact ⟨_,_,ho,hay⟩)
 ·
  rename_i y ho
  obtain ⟨ay,hy,rfl⟩:=mapO hcomp
  refine ⟨fun i hh=>?_,fun q hh=>?_,fun hh=>?_,fun f as hh=>?_,fun x hh=>?_,fun cs hh=>?_,fun k y hh=>?_⟩
  ·first | (cases hh;done) | (cases hh;rw [ho,opd_tmp hy])
  ·first | (cases hh;done) | (cases hh;exact ⟨_,_,ho,hay,hk⟩)
  ·first
   | rfl
   | (rcases hh with ⟨_,_,_,hh⟩ | ⟨_,hh,hh2⟩ <;> rw [ho] at hh <;> cases hh;done)
   | (rcases hh with ⟨_,_,_,hh⟩ | ⟨_,hh,hh2⟩
      ·rw [ho] at hh;cases hh
      ·rw [ho] at hh;cases hh;rw [hcal] at hh2;cases hh2)
  ·first | (cases hh;done) | (cases hh;exact ⟨_,_,ho,‹_›,haf,has⟩)
  ·first | (cases hh;done) | (cases hh;exact ⟨_,ho,hy⟩)
  ·first | (cases hh;done) | (cases hh;exact ⟨_,_,ho,hz,rfl⟩)
  ·first | (cases hh;done) | (cases hh;exact ⟨_,_,ho,hay⟩)
 ·
  rename_i c y z ho
  obtain ⟨ac,hac,hcomp⟩:=bindO hcomp
  obtain ⟨ay,hay,hcomp⟩:=bindO hcomp
  obtain ⟨az,haz,hcomp⟩:=bindO hcomp
  cases hcomp
  refine ⟨fun i hh=>?_,fun q hh=>?_,fun hh=>?_,fun f as hh=>?_,fun x hh=>?_,fun cs hh=>?_,fun k y hh=>?_⟩
  ·first | (cases hh;done) | (cases hh;rw [ho,opd_tmp hy])
  ·first | (cases hh;done) | (cases hh;exact ⟨_,_,ho,hay,hk⟩)
  ·first
   | rfl
   | (rcases hh with ⟨_,_,_,hh⟩ | ⟨_,hh,hh2⟩ <;> rw [ho] at hh <;> cases hh;done)
   | (rcases hh with ⟨_,_,_,hh⟩ | ⟨_,hh,hh2⟩
      ·rw [ho] at hh;cases hh
      ·rw [ho] at hh;cases hh;rw [hcal] at hh2;cases hh2)
  ·first | (cases hh;done) | (cases hh;exact ⟨_,_,ho,‹_›,haf,has⟩)
  ·first | (cases hh;done) | (cases hh;exact ⟨_,ho,hy⟩)
  ·first | (cases hh;done) | (cases hh;exact ⟨_,_,ho,hz,rfl⟩)
  ·first | (cases hh;done) | (cases hh;exact ⟨_,_,ho,hay⟩)
 ·
  rename_i et ho
  obtain ⟨z,hz,hcomp⟩:=bindO hcomp
  cases hcomp
  refine ⟨fun i hh=>?_,fun q hh=>?_,fun hh=>?_,fun f as hh=>?_,fun x hh=>?_,fun cs hh=>?_,fun k y hh=>?_⟩
  ·first | (cases hh;done) | (cases hh;rw [ho,opd_tmp hy])
  ·first | (cases hh;done) | (cases hh;exact ⟨_,_,ho,hay,hk⟩)
  ·first
   | rfl
   | (rcases hh with ⟨_,_,_,hh⟩ | ⟨_,hh,hh2⟩ <;> rw [ho] at hh <;> cases hh;done)
   | (rcases hh with ⟨_,_,_,hh⟩ | ⟨_,hh,hh2⟩
      ·rw [ho] at hh;cases hh
      ·rw [ho] at hh;cases hh;rw [hcal] at hh2;cases hh2)
  ·first | (cases hh;done) | (cases hh;exact ⟨_,_,ho,‹_›,haf,has⟩)
  ·first | (cases hh;done) | (cases hh;exact ⟨_,ho,hy⟩)
  ·first | (cases hh;done) | (cases hh;exact ⟨_,_,ho,hz,rfl⟩)
  ·first | (cases hh;done) | (cases hh;exact ⟨_,_,ho,hay⟩)
 ·
  rename_i et y ho
  obtain ⟨k,hk,hcomp⟩:=bindO hcomp
  obtain ⟨ay,hay,hcomp⟩:=bindO hcomp
  cases hcomp
  refine ⟨fun i hh=>?_,fun q hh=>?_,fun hh=>?_,fun f as hh=>?_,fun x hh=>?_,fun cs hh=>?_,fun k y hh=>?_⟩
  ·first | (cases hh;done) | (cases hh;rw [ho,opd_tmp hy])
  ·first | (cases hh;done) | (cases hh;exact ⟨_,_,ho,hay,hk⟩)
  ·first
   | rfl
   | (rcases hh with ⟨_,_,_,hh⟩ | ⟨_,hh,hh2⟩ <;> rw [ho] at hh <;> cases hh;done)
   | (rcases hh with ⟨_,_,_,hh⟩ | ⟨_,hh,hh2⟩
      ·rw [ho] at hh;cases hh
      ·rw [ho] at hh;cases hh;rw [hcal] at hh2;cases hh2)
  ·first | (cases hh;done) | (cases hh;exact ⟨_,_,ho,‹_›,haf,has⟩)
  ·first | (cases hh;done) | (cases hh;exact ⟨_,ho,hy⟩)
  ·first | (cases hh;done) | (cases hh;exact ⟨_,_,ho,hz,rfl⟩)
  ·first | (cases hh;done) | (cases hh;exact ⟨_,_,ho,hay⟩)
 ·
  rename_i ty ps ho
  obtain ⟨z,hz,hcomp⟩:=bindO hcomp
  split at hcomp
  ·rename_i fs hu
   split at hcomp
   ·rename_i hall
    obtain ⟨aps,haps,hcomp⟩:=bindO hcomp
    cases hcomp
    refine ⟨fun i hh=>?_,fun q hh=>?_,fun hh=>?_,fun f as hh=>?_,fun x hh=>?_,fun cs hh=>?_,fun k y hh=>?_⟩
    ·first | (cases hh;done) | (cases hh;rw [ho,opd_tmp hy])
    ·first | (cases hh;done) | (cases hh;exact ⟨_,_,ho,hay,hk⟩)
    ·first
     | rfl
     | (rcases hh with ⟨_,_,_,hh⟩ | ⟨_,hh,hh2⟩ <;> rw [ho] at hh <;> cases hh;done)
     | (rcases hh with ⟨_,_,_,hh⟩ | ⟨_,hh,hh2⟩
        ·rw [ho] at hh;cases hh
        ·rw [ho] at hh;cases hh;rw [hcal] at hh2;cases hh2)
    ·first | (cases hh;done) | (cases hh;exact ⟨_,_,ho,‹_›,haf,has⟩)
    ·first | (cases hh;done) | (cases hh;exact ⟨_,ho,hy⟩)
    ·first | (cases hh;done) | (cases hh;exact ⟨_,_,ho,hz,rfl⟩)
    ·first | (cases hh;done) | (cases hh;exact ⟨_,_,ho,hay⟩)
   ·cases hcomp
  ·rename_i n et hu
   obtain ⟨k,hk,hcomp⟩:=bindO hcomp
   obtain ⟨aps,haps,hcomp⟩:=bindO hcomp
   cases hcomp
   refine ⟨fun i hh=>?_,fun q hh=>?_,fun hh=>?_,fun f as hh=>?_,fun x hh=>?_,fun cs hh=>?_,fun k y hh=>?_⟩
   ·first | (cases hh;done) | (cases hh;rw [ho,opd_tmp hy])
   ·first | (cases hh;done) | (cases hh;exact ⟨_,_,ho,hay,hk⟩)
   ·first
    | rfl
    | (rcases hh with ⟨_,_,_,hh⟩ | ⟨_,hh,hh2⟩ <;> rw [ho] at hh <;> cases hh;done)
    | (rcases hh with ⟨_,_,_,hh⟩ | ⟨_,hh,hh2⟩
       ·rw [ho] at hh;cases hh
       ·rw [ho] at hh;cases hh;rw [hcal] at hh2;cases hh2)
   ·first | (cases hh;done) | (cases hh;exact ⟨_,_,ho,‹_›,haf,has⟩)
   ·first | (cases hh;done) | (cases hh;exact ⟨_,ho,hy⟩)
   ·first | (cases hh;done) | (cases hh;exact ⟨_,_,ho,hz,rfl⟩)
   ·first | (cases hh;done) | (cases hh;exact ⟨_,_,ho,hay⟩)
  ·cases hcomp
 ·
  rename_i ty n ps ho
  split at hcomp
  ·rename_i et hu
   obtain ⟨k,hk,hcomp⟩:=bindO hcomp
   obtain ⟨z,hz,hcomp⟩:=bindO hcomp
   split at hcomp
   ·cases hcomp
   ·rename_i hk0
    obtain ⟨aps,haps,hcomp⟩:=bindO hcomp
    cases hcomp
    refine ⟨fun i hh=>?_,fun q hh=>?_,fun hh=>?_,fun f as hh=>?_,fun x hh=>?_,fun cs hh=>?_,fun k y hh=>?_⟩
    ·first | (cases hh;done) | (cases hh;rw [ho,opd_tmp hy])
    ·first | (cases hh;done) | (cases hh;exact ⟨_,_,ho,hay,hk⟩)
    ·first
     | rfl
     | (rcases hh with ⟨_,_,_,hh⟩ | ⟨_,hh,hh2⟩ <;> rw [ho] at hh <;> cases hh;done)
     | (rcases hh with ⟨_,_,_,hh⟩ | ⟨_,hh,hh2⟩
        ·rw [ho] at hh;cases hh
        ·rw [ho] at hh;cases hh;rw [hcal] at hh2;cases hh2)
    ·first | (cases hh;done) | (cases hh;exact ⟨_,_,ho,‹_›,haf,has⟩)
    ·first | (cases hh;done) | (cases hh;exact ⟨_,ho,hy⟩)
    ·first | (cases hh;done) | (cases hh;exact ⟨_,_,ho,hz,rfl⟩)
    ·first | (cases hh;done) | (cases hh;exact ⟨_,_,ho,hay⟩)
  ·cases hcomp
 ·
  rename_i ty y ho
  obtain ⟨k,hk,hcomp⟩:=bindO hcomp
  obtain ⟨ay,hay,hcomp⟩:=bindO hcomp
  cases hcomp
  refine ⟨fun i hh=>?_,fun q hh=>?_,fun hh=>?_,fun f as hh=>?_,fun x hh=>?_,fun cs hh=>?_,fun k y hh=>?_⟩
  ·first | (cases hh;done) | (cases hh;rw [ho,opd_tmp hy])
  ·first | (cases hh;done) | (cases hh;exact ⟨_,_,ho,hay,hk⟩)
  ·first
   | rfl
   | (rcases hh with ⟨_,_,_,hh⟩ | ⟨_,hh,hh2⟩ <;> rw [ho] at hh <;> cases hh;done)
   | (rcases hh with ⟨_,_,_,hh⟩ | ⟨_,hh,hh2⟩
      ·rw [ho] at hh;cases hh
      ·rw [ho] at hh;cases hh;rw [hcal] at hh2;cases hh2)
  ·first | (cases hh;done) | (cases hh;exact ⟨_,_,ho,‹_›,haf,has⟩)
  ·first | (cases hh;done) | (cases hh;exact ⟨_,ho,hy⟩)
  ·first | (cases hh;done) | (cases hh;exact ⟨_,_,ho,hz,rfl⟩)
  ·first | (cases hh;done) | (cases hh;exact ⟨_,_,ho,hay⟩)
 ·
  rename_i ty y z ho
  obtain ⟨k,hk,hcomp⟩:=bindO hcomp
  split at hcomp
  ·rename_i hsz
   obtain ⟨ay,hay,hcomp⟩:=bindO hcomp
   obtain ⟨az,haz,hcomp⟩:=bindO hcomp
   cases hcomp
   refine ⟨fun i hh=>?_,fun q hh=>?_,fun hh=>?_,fun f as hh=>?_,fun x hh=>?_,fun cs hh=>?_,fun k y hh=>?_⟩
   ·first | (cases hh;done) | (cases hh;rw [ho,opd_tmp hy])
   ·first | (cases hh;done) | (cases hh;exact ⟨_,_,ho,hay,hk⟩)
   ·first
    | rfl
    | (rcases hh with ⟨_,_,_,hh⟩ | ⟨_,hh,hh2⟩ <;> rw [ho] at hh <;> cases hh;done)
    | (rcases hh with ⟨_,_,_,hh⟩ | ⟨_,hh,hh2⟩
       ·rw [ho] at hh;cases hh
       ·rw [ho] at hh;cases hh;rw [hcal] at hh2;cases hh2)
   ·first | (cases hh;done) | (cases hh;exact ⟨_,_,ho,‹_›,haf,has⟩)
   ·first | (cases hh;done) | (cases hh;exact ⟨_,ho,hy⟩)
   ·first | (cases hh;done) | (cases hh;exact ⟨_,_,ho,hz,rfl⟩)
   ·first | (cases hh;done) | (cases hh;exact ⟨_,_,ho,hay⟩)
  ·cases hcomp
 ·
  rename_i y ho
  obtain ⟨ay,hy,rfl⟩:=mapO hcomp
  refine ⟨fun i hh=>?_,fun q hh=>?_,fun hh=>?_,fun f as hh=>?_,fun x hh=>?_,fun cs hh=>?_,fun k y hh=>?_⟩
  ·first | (cases hh;done) | (cases hh;rw [ho,opd_tmp hy])
  ·first | (cases hh;done) | (cases hh;exact ⟨_,_,ho,hay,hk⟩)
  ·first
   | rfl
   | (rcases hh with ⟨_,_,_,hh⟩ | ⟨_,hh,hh2⟩ <;> rw [ho] at hh <;> cases hh;done)
   | (rcases hh with ⟨_,_,_,hh⟩ | ⟨_,hh,hh2⟩
      ·rw [ho] at hh;cases hh
      ·rw [ho] at hh;cases hh;rw [hcal] at hh2;cases hh2)
  ·first | (cases hh;done) | (cases hh;exact ⟨_,_,ho,‹_›,haf,has⟩)
  ·first | (cases hh;done) | (cases hh;exact ⟨_,ho,hy⟩)
  ·first | (cases hh;done) | (cases hh;exact ⟨_,_,ho,hz,rfl⟩)
  ·first | (cases hh;done) | (cases hh;exact ⟨_,_,ho,hay⟩)
 ·
  rename_i op ty y z yt ho
  split at hcomp
  ·rename_i ay az hay haz
   split at hcomp
   ·rename_i hop
    have hop':op = .eql∨op = .neq:=by cases op <;> simp [isEq] at hop <;> simp
    split at hcomp
    ·rename_i hu
     cases hcomp
     refine ⟨fun i hh=>?_,fun q hh=>?_,fun hh=>?_,fun f as hh=>?_,fun x hh=>?_,fun cs hh=>?_,fun k y hh=>?_⟩
     ·first | (cases hh;done) | (cases hh;rw [ho,opd_tmp hy])
     ·first | (cases hh;done) | (cases hh;exact ⟨_,_,ho,hay,hk⟩)
     ·first
      | rfl
      | (rcases hh with ⟨_,_,_,hh⟩ | ⟨_,hh,hh2⟩ <;> rw [ho] at hh <;> cases hh;done)
      | (rcases hh with ⟨_,_,_,hh⟩ | ⟨_,hh,hh2⟩
         ·rw [ho] at hh;cases hh
         ·rw [ho] at hh;cases hh;rw [hcal] at hh2;cases hh2)
     ·first | (cases hh;done) | (cases hh;exact ⟨_,_,ho,‹_›,haf,has⟩)
     ·first | (cases hh;done) | (cases hh;exact ⟨_,ho,hy⟩)
     ·first | (cases hh;done) | (cases hh;exact ⟨_,_,ho,hz,rfl⟩)
     ·first | (cases hh;done) | (cases hh;exact ⟨_,_,ho,hay⟩)
    ·cases hcomp
     refine ⟨fun i hh=>?_,fun q hh=>?_,fun hh=>?_,fun f as hh=>?_,fun x hh=>?_,fun cs hh=>?_,fun k y hh=>?_⟩
     ·first | (cases hh;done) | (cases hh;rw [ho,opd_tmp hy])
     ·first | (cases hh;done) | (cases hh;exact ⟨_,_,ho,hay,hk⟩)
     ·first
      | rfl
      | (rcases hh with ⟨_,_,_,hh⟩ | ⟨_,hh,hh2⟩ <;> rw [ho] at hh <;> cases hh;done)
      | (rcases hh with ⟨_,_,_,hh⟩ | ⟨_,hh,hh2⟩
         ·rw [ho] at hh;cases hh
         ·rw [ho] at hh;cases hh;rw [hcal] at hh2;cases hh2)
     ·first | (cases hh;done) | (cases hh;exact ⟨_,_,ho,‹_›,haf,has⟩)
     ·first | (cases hh;done) | (cases hh;exact ⟨_,ho,hy⟩)
     ·first | (cases hh;done) | (cases hh;exact ⟨_,_,ho,hz,rfl⟩)
     ·first | (cases hh;done) | (cases hh;exact ⟨_,_,ho,hay⟩)
    ·cases hcomp
     refine ⟨fun i hh=>?_,fun q hh=>?_,fun hh=>?_,fun f as hh=>?_,fun x hh=>?_,fun cs hh=>?_,fun k y hh=>?_⟩
     ·first | (cases hh;done) | (cases hh;rw [ho,opd_tmp hy])
     ·first | (cases hh;done) | (cases hh;exact ⟨_,_,ho,hay,hk⟩)
     ·first
      | rfl
      | (rcases hh with ⟨_,_,_,hh⟩ | ⟨_,hh,hh2⟩ <;> rw [ho] at hh <;> cases hh;done)
      | (rcases hh with ⟨_,_,_,hh⟩ | ⟨_,hh,hh2⟩
         ·rw [ho] at hh;cases hh
         ·rw [ho] at hh;cases hh;rw [hcal] at hh2;cases hh2)
     ·first | (cases hh;done) | (cases hh;exact ⟨_,_,ho,‹_›,haf,has⟩)
     ·first | (cases hh;done) | (cases hh;exact ⟨_,ho,hy⟩)
     ·first | (cases hh;done) | (cases hh;exact ⟨_,_,ho,hz,rfl⟩)
     ·first | (cases hh;done) | (cases hh;exact ⟨_,_,ho,hay⟩)
    ·rename_i et hu
     split at hcomp
     ·cases hcomp
     ·rename_i hs0
      cases hcomp
      refine ⟨fun i hh=>?_,fun q hh=>?_,fun hh=>?_,fun f as hh=>?_,fun x hh=>?_,fun cs hh=>?_,fun k y hh=>?_⟩
      ·first | (cases hh;done) | (cases hh;rw [ho,opd_tmp hy])
      ·first | (cases hh;done) | (cases hh;exact ⟨_,_,ho,hay,hk⟩)
      ·first
       | rfl
       | (rcases hh with ⟨_,_,_,hh⟩ | ⟨_,hh,hh2⟩ <;> rw [ho] at hh <;> cases hh;done)
       | (rcases hh with ⟨_,_,_,hh⟩ | ⟨_,hh,hh2⟩
          ·rw [ho] at hh;cases hh
          ·rw [ho] at hh;cases hh;rw [hcal] at hh2;cases hh2)
      ·first | (cases hh;done) | (cases hh;exact ⟨_,_,ho,‹_›,haf,has⟩)
      ·first | (cases hh;done) | (cases hh;exact ⟨_,ho,hy⟩)
      ·first | (cases hh;done) | (cases hh;exact ⟨_,_,ho,hz,rfl⟩)
      ·first | (cases hh;done) | (cases hh;exact ⟨_,_,ho,hay⟩)
    ·rename_i ms hu
     split at hcomp
     ·rename_i hcc
      cases hcomp
      refine ⟨fun i hh=>?_,fun q hh=>?_,fun hh=>?_,fun f as hh=>?_,fun x hh=>?_,fun cs hh=>?_,fun k y hh=>?_⟩
      ·first | (cases hh;done) | (cases hh;rw [ho,opd_tmp hy])
      ·first | (cases hh;done) | (cases hh;exact ⟨_,_,ho,hay,hk⟩)
      ·first
       | rfl
       | (rcases hh with ⟨_,_,_,hh⟩ | ⟨_,hh,hh2⟩ <;> rw [ho] at hh <;> cases hh;done)
       | (rcases hh with ⟨_,_,_,hh⟩ | ⟨_,hh,hh2⟩
          ·rw [ho] at hh;cases hh
          ·rw [ho] at hh;cases hh;rw [hcal] at hh2;cases hh2)
      ·first | (cases hh;done) | (cases hh;exact ⟨_,_,ho,‹_›,haf,has⟩)
      ·first | (cases hh;done) | (cases hh;exact ⟨_,ho,hy⟩)
      ·first | (cases hh;done) | (cases hh;exact ⟨_,_,ho,hz,rfl⟩)
      ·first | (cases hh;done) | (cases hh;exact ⟨_,_,ho,hay⟩)
     ·cases hcomp
    ·rename_i p1 p2 p3 hu
     cases hcomp
     refine ⟨fun i hh=>?_,fun q hh=>?_,fun hh=>?_,fun f as hh=>?_,fun x hh=>?_,fun cs hh=>?_,fun k y hh=>?_⟩
     ·first | (cases hh;done) | (cases hh;rw [ho,opd_tmp hy])
     ·first | (cases hh;done) | (cases hh;exact ⟨_,_,ho,hay,hk⟩)
     ·first
      | rfl
      | (rcases hh with ⟨_,_,_,hh⟩ | ⟨_,hh,hh2⟩ <;> rw [ho] at hh <;> cases hh;done)
      | (rcases hh with ⟨_,_,_,hh⟩ | ⟨_,hh,hh2⟩
         ·rw [ho] at hh;cases hh
         ·rw [ho] at hh;cases hh;rw [hcal] at hh2;cases hh2)
     ·first | (cases hh;done) | (cases hh;exact ⟨_,_,ho,‹_›,haf,has⟩)
     ·first | (cases hh;done) | (cases hh;exact ⟨_,ho,hy⟩)
     ·first | (cases hh;done) | (cases hh;exact ⟨_,_,ho,hz,rfl⟩)
     ·first | (cases hh;done) | (cases hh;exact ⟨_,_,ho,hay⟩)
    ·rename_i p1 p2 hu
     cases hcomp
     refine ⟨fun i hh=>?_,fun q hh=>?_,fun hh=>?_,fun f as hh=>?_,fun x hh=>?_,fun cs hh=>?_,fun k y hh=>?_⟩
     ·first | (cases hh;done) | (cases hh;rw [ho,opd_tmp hy])
     ·first | (cases hh;done) | (cases hh;exact ⟨_,_,ho,hay,hk⟩)
     ·first
      | rfl
      | (rcases hh with ⟨_,_,_,hh⟩ | ⟨_,hh,hh2⟩ <;> rw [ho] at hh <;> cases hh;done)
      | (rcases hh with ⟨_,_,_,hh⟩ | ⟨_,hh,hh2⟩
         ·rw [ho] at hh;cases hh
         ·rw [ho] at hh;cases hh;rw [hcal] at hh2;cases hh2)
     ·first | (cases hh;done) | (cases hh;exact ⟨_,_,ho,‹_›,haf,has⟩)
     ·first | (cases hh;done) | (cases hh;exact ⟨_,ho,hy⟩)
     ·first | (cases hh;done) | (cases hh;exact ⟨_,_,ho,hz,rfl⟩)
     ·first | (cases hh;done) | (cases hh;exact ⟨_,_,ho,hay⟩)
    ·cases hcomp
   ·cases hcomp
    refine ⟨fun i hh=>?_,fun q hh=>?_,fun hh=>?_,fun f as hh=>?_,fun x hh=>?_,fun cs hh=>?_,fun k y hh=>?_⟩
    ·first | (cases hh;done) | (cases hh;rw [ho,opd_tmp hy])
    ·first | (cases hh;done) | (cases hh;exact ⟨_,_,ho,hay,hk⟩)
    ·first
     | rfl
     | (rcases hh with ⟨_,_,_,hh⟩ | ⟨_,hh,hh2⟩ <;> rw [ho] at hh <;> cases hh;done)
     | (rcases hh with ⟨_,_,_,hh⟩ | ⟨_,hh,hh2⟩
        ·rw [ho] at hh;cases hh
        ·rw [ho] at hh;cases hh;rw [hcal] at hh2;cases hh2)
    ·first | (cases hh;done) | (cases hh;exact ⟨_,_,ho,‹_›,haf,has⟩)
    ·first | (cases hh;done) | (cases hh;exact ⟨_,ho,hy⟩)
    ·first | (cases hh;done) | (cases hh;exact ⟨_,_,ho,hz,rfl⟩)
    ·first | (cases hh;done) | (cases hh;exact ⟨_,_,ho,hay⟩)
  ·cases hcomp
 ·
  rename_i op ty y ho
  obtain ⟨ay,hy,rfl⟩:=mapO hcomp
  refine ⟨fun i hh=>?_,fun q hh=>?_,fun hh=>?_,fun f as hh=>?_,fun x hh=>?_,fun cs hh=>?_,fun k y hh=>?_⟩
  ·first | (cases hh;done) | (cases hh;rw [ho,opd_tmp hy])
  ·first | (cases hh;done) | (cases hh;exact ⟨_,_,ho,hay,hk⟩)
  ·first
   | rfl
   | (rcases hh with ⟨_,_,_,hh⟩ | ⟨_,hh,hh2⟩ <;> rw [ho] at hh <;> cases hh;done)
   | (rcases hh with ⟨_,_,_,hh⟩ | ⟨_,hh,hh2⟩
      ·rw [ho] at hh;cases hh
      ·rw [ho] at hh;cases hh;rw [hcal] at hh2;cases hh2)
  ·first | (cases hh;done) | (cases hh;exact ⟨_,_,ho,‹_›,haf,has⟩)
  ·first | (cases hh;done) | (cases hh;exact ⟨_,ho,hy⟩)
  ·first | (cases hh;done) | (cases hh;exact ⟨_,_,ho,hz,rfl⟩)
  ·first | (cases hh;done) | (cases hh;exact ⟨_,_,ho,hay⟩)
 ·
  rename_i s d y ho
  obtain ⟨ay,hay,hcomp⟩:=bindO hcomp
  split at hcomp
  ·rename_i j k hs hd
   cases hcomp
   refine ⟨fun i hh=>?_,fun q hh=>?_,fun hh=>?_,fun f as hh=>?_,fun x hh=>?_,fun cs hh=>?_,fun k y hh=>?_⟩
   ·first | (cases hh;done) | (cases hh;rw [ho,opd_tmp hy])
   ·first | (cases hh;done) | (cases hh;exact ⟨_,_,ho,hay,hk⟩)
   ·first
    | rfl
    | (rcases hh with ⟨_,_,_,hh⟩ | ⟨_,hh,hh2⟩ <;> rw [ho] at hh <;> cases hh;done)
    | (rcases hh with ⟨_,_,_,hh⟩ | ⟨_,hh,hh2⟩
       ·rw [ho] at hh;cases hh
       ·rw [ho] at hh;cases hh;rw [hcal] at hh2;cases hh2)
   ·first | (cases hh;done) | (cases hh;exact ⟨_,_,ho,‹_›,haf,has⟩)
   ·first | (cases hh;done) | (cases hh;exact ⟨_,ho,hy⟩)
   ·first | (cases hh;done) | (cases hh;exact ⟨_,_,ho,hz,rfl⟩)
   ·first | (cases hh;done) | (cases hh;exact ⟨_,_,ho,hay⟩)
  ·rename_i hs hd
   cases hcomp
   refine ⟨fun i hh=>?_,fun q hh=>?_,fun hh=>?_,fun f as hh=>?_,fun x hh=>?_,fun cs hh=>?_,fun k y hh=>?_⟩
   ·first | (cases hh;done) | (cases hh;rw [ho,opd_tmp hy])
   ·first | (cases hh;done) | (cases hh;exact ⟨_,_,ho,hay,hk⟩)
   ·first
    | rfl
    | (rcases hh with ⟨_,_,_,hh⟩ | ⟨_,hh,hh2⟩ <;> rw [ho] at hh <;> cases hh;done)
    | (rcases hh with ⟨_,_,_,hh⟩ | ⟨_,hh,hh2⟩
       ·rw [ho] at hh;cases hh
       ·rw [ho] at hh;cases hh;rw [hcal] at hh2;cases hh2)
   ·first | (cases hh;done) | (cases hh;exact ⟨_,_,ho,‹_›,haf,has⟩)
   ·first | (cases hh;done) | (cases hh;exact ⟨_,ho,hy⟩)
   ·first | (cases hh;done) | (cases hh;exact ⟨_,_,ho,hz,rfl⟩)
   ·first | (cases hh;done) | (cases hh;exact ⟨_,_,ho,hay⟩)
  ·rename_i e0 hs hd
   split at hcomp
   ·rename_i hu8
    cases hcomp
    refine ⟨fun i hh=>?_,fun q hh=>?_,fun hh=>?_,fun f as hh=>?_,fun x hh=>?_,fun cs hh=>?_,fun k y hh=>?_⟩
    ·first | (cases hh;done) | (cases hh;rw [ho,opd_tmp hy])
    ·first | (cases hh;done) | (cases hh;exact ⟨_,_,ho,hay,hk⟩)
    ·first
     | rfl
     | (rcases hh with ⟨_,_,_,hh⟩ | ⟨_,hh,hh2⟩ <;> rw [ho] at hh <;> cases hh;done)
     | (rcases hh with ⟨_,_,_,hh⟩ | ⟨_,hh,hh2⟩
        ·rw [ho] at hh;cases hh
        ·rw [ho] at hh;cases hh;rw [hcal] at hh2;cases hh2)
    ·first | (cases hh;done) | (cases hh;exact ⟨_,_,ho,‹_›,haf,has⟩)
    ·first | (cases hh;done) | (cases hh;exact ⟨_,ho,hy⟩)
    ·first | (cases hh;done) | (cases hh;exact ⟨_,_,ho,hz,rfl⟩)
    ·first | (cases hh;done) | (cases hh;exact ⟨_,_,ho,hay⟩)
   ·cases hcomp
  ·cases hcomp
 ·
  rename_i ty y ho
  split at hcomp
  ·cases hcomp
  ·cases hcomp
  ·rename_i n1 n2
   obtain ⟨ay,hy,rfl⟩:=mapO hcomp
   refine ⟨fun i hh=>?_,fun q hh=>?_,fun hh=>?_,fun f as hh=>?_,fun x hh=>?_,fun cs hh=>?_,fun k y hh=>?_⟩
   ·first | (cases hh;done) | (cases hh;rw [ho,opd_tmp hy])
   ·first | (cases hh;done) | (cases hh;exact ⟨_,_,ho,hay,hk⟩)
   ·first
    | rfl
    | (rcases hh with ⟨_,_,_,hh⟩ | ⟨_,hh,hh2⟩ <;> rw [ho] at hh <;> cases hh;done)
    | (rcases hh with ⟨_,_,_,hh⟩ | ⟨_,hh,hh2⟩
       ·rw [ho] at hh;cases hh
       ·rw [ho] at hh;cases hh;rw [hcal] at hh2;cases hh2)
   ·first | (cases hh;done) | (cases hh;exact ⟨_,_,ho,‹_›,haf,has⟩)
   ·first | (cases hh;done) | (cases hh;exact ⟨_,ho,hy⟩)
   ·first | (cases hh;done) | (cases hh;exact ⟨_,_,ho,hz,rfl⟩)
   ·first | (cases hh;done) | (cases hh;exact ⟨_,_,ho,hay⟩)
 ·
  rename_i f y z ho
  obtain ⟨ay,hay,hcomp⟩:=bindO hcomp
  obtain ⟨az,haz,hcomp⟩:=bindO hcomp
  cases hcomp
  refine ⟨fun i hh=>?_,fun q hh=>?_,fun hh=>?_,fun f as hh=>?_,fun x hh=>?_,fun cs hh=>?_,fun k y hh=>?_⟩
  ·first | (cases hh;done) | (cases hh;rw [ho,opd_tmp hy])
  ·first | (cases hh;done) | (cases hh;exact ⟨_,_,ho,hay,hk⟩)
  ·first
   | rfl
   | (rcases hh with ⟨_,_,_,hh⟩ | ⟨_,hh,hh2⟩ <;> rw [ho] at hh <;> cases hh;done)
   | (rcases hh with ⟨_,_,_,hh⟩ | ⟨_,hh,hh2⟩
      ·rw [ho] at hh;cases hh
      ·rw [ho] at hh;cases hh;rw [hcal] at hh2;cases hh2)
  ·first | (cases hh;done) | (cases hh;exact ⟨_,_,ho,‹_›,haf,has⟩)
  ·first | (cases hh;done) | (cases hh;exact ⟨_,ho,hy⟩)
  ·first | (cases hh;done) | (cases hh;exact ⟨_,_,ho,hz,rfl⟩)
  ·first | (cases hh;done) | (cases hh;exact ⟨_,_,ho,hay⟩)
 ·
  rename_i ty y lo hi ho
  split at hcomp
  ·rename_i hu
   obtain ⟨ay,hay,hcomp⟩:=bindO hcomp
   obtain ⟨alo,halo,hcomp⟩:=bindO hcomp
   obtain ⟨ahi,hahi,hcomp⟩:=bindO hcomp
   cases hcomp
   refine ⟨fun i hh=>?_,fun q hh=>?_,fun hh=>?_,fun f as hh=>?_,fun x hh=>?_,fun cs hh=>?_,fun k y hh=>?_⟩
   ·first | (cases hh;done) | (cases hh;rw [ho,opd_tmp hy])
   ·first | (cases hh;done) | (cases hh;exact ⟨_,_,ho,hay,hk⟩)
   ·first
    | rfl
    | (rcases hh with ⟨_,_,_,hh⟩ | ⟨_,hh,hh2⟩ <;> rw [ho] at hh <;> cases hh;done)
    | (rcases hh with ⟨_,_,_,hh⟩ | ⟨_,hh,hh2⟩
       ·rw [ho] at hh;cases hh
       ·rw [ho] at hh;cases hh;rw [hcal] at hh2;cases hh2)
   ·first | (cases hh;done) | (cases hh;exact ⟨_,_,ho,‹_›,haf,has⟩)
   ·first | (cases hh;done) | (cases hh;exact ⟨_,ho,hy⟩)
   ·first | (cases hh;done) | (cases hh;exact ⟨_,_,ho,hz,rfl⟩)
   ·first | (cases hh;done) | (cases hh;exact ⟨_,_,ho,hay⟩)
  ·rename_i et hu
   obtain ⟨k,hk,hcomp⟩:=bindO hcomp
   obtain ⟨ay,hay,hcomp⟩:=bindO hcomp
   obtain ⟨alo,halo,hcomp⟩:=bindO hcomp
   obtain ⟨ahi,hahi,hcomp⟩:=bindO hcomp
   cases hcomp
   refine ⟨fun i hh=>?_,fun q hh=>?_,fun hh=>?_,fun f as hh=>?_,fun x hh=>?_,fun cs hh=>?_,fun k y hh=>?_⟩
   ·first | (cases hh;done) | (cases hh;rw [ho,opd_tmp hy])
   ·first | (cases hh;done) | (cases hh;exact ⟨_,_,ho,hay,hk⟩)
   ·first
    | rfl
    | (rcases hh with ⟨_,_,_,hh⟩ | ⟨_,hh,hh2⟩ <;> rw [ho] at hh <;> cases hh;done)
    | (rcases hh with ⟨_,_,_,hh⟩ | ⟨_,hh,hh2⟩
       ·rw [ho] at hh;cases hh
       ·rw [ho] at hh;cases hh;rw [hcal] at hh2;cases hh2)
   ·first | (cases hh;done) | (cases hh;exact ⟨_,_,ho,‹_›,haf,has⟩)
   ·first | (cases hh;done) | (cases hh;exact ⟨_,ho,hy⟩)
   ·first | (cases hh;done) | (cases hh;exact ⟨_,_,ho,hz,rfl⟩)
   ·first | (cases hh;done) | (cases hh;exact ⟨_,_,ho,hay⟩)
  ·cases hcomp
 ·
  rename_i s y i ho
  split at hcomp
  ·rename_i fs hu
   split at hcomp
   ·rename_i f hf
    split at hcomp
    ·cases hcomp
    ·rename_i hs0
     obtain ⟨ay,hy,rfl⟩:=mapO hcomp
     refine ⟨fun i hh=>?_,fun q hh=>?_,fun hh=>?_,fun f as hh=>?_,fun x hh=>?_,fun cs hh=>?_,fun k y hh=>?_⟩
     ·first | (cases hh;done) | (cases hh;rw [ho,opd_tmp hy])
     ·first | (cases hh;done) | (cases hh;exact ⟨_,_,ho,hay,hk⟩)
     ·first
      | rfl
      | (rcases hh with ⟨_,_,_,hh⟩ | ⟨_,hh,hh2⟩ <;> rw [ho] at hh <;> cases hh;done)
      | (rcases hh with ⟨_,_,_,hh⟩ | ⟨_,hh,hh2⟩
         ·rw [ho] at hh;cases hh
         ·rw [ho] at hh;cases hh;rw [hcal] at hh2;cases hh2)
     ·first | (cases hh;done) | (cases hh;exact ⟨_,_,ho,‹_›,haf,has⟩)
     ·first | (cases hh;done) | (cases hh;exact ⟨_,ho,hy⟩)
     ·first | (cases hh;done) | (cases hh;exact ⟨_,_,ho,hz,rfl⟩)
     ·first | (cases hh;done) | (cases hh;exact ⟨_,_,ho,hay⟩)
   ·cases hcomp
  ·cases hcomp
 ·
  rename_i s y i ho
  split at hcomp
  ·rename_i fs hu
   split at hcomp
   ·rename_i f hf
    obtain ⟨k,hk,hcomp⟩:=bindO hcomp
    obtain ⟨ay,hay,hcomp⟩:=bindO hcomp
    cases hcomp
    refine ⟨fun i hh=>?_,fun q hh=>?_,fun hh=>?_,fun f as hh=>?_,fun x hh=>?_,fun cs hh=>?_,fun k y hh=>?_⟩
    ·first | (cases hh;done) | (cases hh;rw [ho,opd_tmp hy])
    ·first | (cases hh;done) | (cases hh;exact ⟨_,_,ho,hay,hk⟩)
    ·first
     | rfl
     | (rcases hh with ⟨_,_,_,hh⟩ | ⟨_,hh,hh2⟩ <;> rw [ho] at hh <;> cases hh;done)
     | (rcases hh with ⟨_,_,_,hh⟩ | ⟨_,hh,hh2⟩
        ·rw [ho] at hh;cases hh
        ·rw [ho] at hh;cases hh;rw [hcal] at hh2;cases hh2)
    ·first | (cases hh;done) | (cases hh;exact ⟨_,_,ho,‹_›,haf,has⟩)
    ·first | (cases hh;done) | (cases hh;exact ⟨_,ho,hy⟩)
    ·first | (cases hh;done) | (cases hh;exact ⟨_,_,ho,hz,rfl⟩)
    ·first | (cases hh;done) | (cases hh;exact ⟨_,_,ho,hay⟩)
   ·cases hcomp
  ·cases hcomp
 ·
  rename_i ty y i ho
  split at hcomp
  ·rename_i et hu
   obtain ⟨k,hk,hcomp⟩:=bindO hcomp
   obtain ⟨ay,hay,hcomp⟩:=bindO hcomp
   obtain ⟨ai,hai,hcomp⟩:=bindO hcomp
   cases hcomp
   refine ⟨fun i hh=>?_,fun q hh=>?_,fun hh=>?_,fun f as hh=>?_,fun x hh=>?_,fun cs hh=>?_,fun k y hh=>?_⟩
   ·first | (cases hh;done) | (cases hh;rw [ho,opd_tmp hy])
   ·first | (cases hh;done) | (cases hh;exact ⟨_,_,ho,hay,hk⟩)
   ·first
    | rfl
    | (rcases hh with ⟨_,_,_,hh⟩ | ⟨_,hh,hh2⟩ <;> rw [ho] at hh <;> cases hh;done)
    | (rcases hh with ⟨_,_,_,hh⟩ | ⟨_,hh,hh2⟩
       ·rw [ho] at hh;cases hh
       ·rw [ho] at hh;cases hh;rw [hcal] at hh2;cases hh2)
   ·first | (cases hh;done) | (cases hh;exact ⟨_,_,ho,‹_›,haf,has⟩)
   ·first | (cases hh;done) | (cases hh;exact ⟨_,ho,hy⟩)
   ·first | (cases hh;done) | (cases hh;exact ⟨_,_,ho,hz,rfl⟩)
   ·first | (cases hh;done) | (cases hh;exact ⟨_,_,ho,hay⟩)
  ·rename_i n et hu
   obtain ⟨k,hk,hcomp⟩:=bindO hcomp
   obtain ⟨ay,hay,hcomp⟩:=bindO hcomp
   obtain ⟨ai,hai,hcomp⟩:=bindO hcomp
   cases hcomp
   refine ⟨fun i hh=>?_,fun q hh=>?_,fun hh=>?_,fun f as hh=>?_,fun x hh=>?_,fun cs hh=>?_,fun k y hh=>?_⟩
   ·first | (cases hh;done) | (cases hh;rw [ho,opd_tmp hy])
   ·first | (cases hh;done) | (cases hh;exact ⟨_,_,ho,hay,hk⟩)
   ·first
    | rfl
    | (rcases hh with ⟨_,_,_,hh⟩ | ⟨_,hh,hh2⟩ <;> rw [ho] at hh <;> cases hh;done)
    | (rcases hh with ⟨_,_,_,hh⟩ | ⟨_,hh,hh2⟩
       ·rw [ho] at hh;cases hh
       ·rw [ho] at hh;cases hh;rw [hcal] at hh2;cases hh2)
   ·first | (cases hh;done) | (cases hh;exact ⟨_,_,ho,‹_›,haf,has⟩)
   ·first | (cases hh;done) | (cases hh;exact ⟨_,ho,hy⟩)
   ·first | (cases hh;done) | (cases hh;exact ⟨_,_,ho,hz,rfl⟩)
   ·first | (cases hh;done) | (cases hh;exact ⟨_,_,ho,hay⟩)
  ·cases hcomp
 ·
  rename_i ty y i ho
  split at hcomp
  ·rename_i hu
   obtain ⟨ay,hay,hcomp⟩:=bindO hcomp
   obtain ⟨ai,hai,hcomp⟩:=bindO hcomp
   cases hcomp
   refine ⟨fun i hh=>?_,fun q hh=>?_,fun hh=>?_,fun f as hh=>?_,fun x hh=>?_,fun cs hh=>?_,fun k y hh=>?_⟩
   ·first | (cases hh;done) | (cases hh;rw [ho,opd_tmp hy])
   ·first | (cases hh;done) | (cases hh;exact ⟨_,_,ho,hay,hk⟩)
   ·first
    | rfl
    | (rcases hh with ⟨_,_,_,hh⟩ | ⟨_,hh,hh2⟩ <;> rw [ho] at hh <;> cases hh;done)
    | (rcases hh with ⟨_,_,_,hh⟩ | ⟨_,hh,hh2⟩
       ·rw [ho] at hh;cases hh
       ·rw [ho] at hh;cases hh;rw [hcal] at hh2;cases hh2)
   ·first | (cases hh;done) | (cases hh;exact ⟨_,_,ho,‹_›,haf,has⟩)
   ·first | (cases hh;done) | (cases hh;exact ⟨_,ho,hy⟩)
   ·first | (cases hh;done) | (cases hh;exact ⟨_,_,ho,hz,rfl⟩)
   ·first | (cases hh;done) | (cases hh;exact ⟨_,_,ho,hay⟩)
  ·rename_i n et hu
   obtain ⟨k,hk,hcomp⟩:=bindO hcomp
   split at hcomp
   ·rename_i hsz
    obtain ⟨ay,hay,hcomp⟩:=bindO hcomp
    obtain ⟨ai,hai,hcomp⟩:=bindO hcomp
    cases hcomp
    refine ⟨fun i hh=>?_,fun q hh=>?_,fun hh=>?_,fun f as hh=>?_,fun x hh=>?_,fun cs hh=>?_,fun k y hh=>?_⟩
    ·first | (cases hh;done) | (cases hh;rw [ho,opd_tmp hy])
    ·first | (cases hh;done) | (cases hh;exact ⟨_,_,ho,hay,hk⟩)
    ·first
     | rfl
     | (rcases hh with ⟨_,_,_,hh⟩ | ⟨_,hh,hh2⟩ <;> rw [ho] at hh <;> cases hh;done)
     | (rcases hh with ⟨_,_,_,hh⟩ | ⟨_,hh,hh2⟩
        ·rw [ho] at hh;cases hh
        ·rw [ho] at hh;cases hh;rw [hcal] at hh2;cases hh2)
    ·first | (cases hh;done) | (cases hh;exact ⟨_,_,ho,‹_›,haf,has⟩)
    ·first | (cases hh;done) | (cases hh;exact ⟨_,ho,hy⟩)
    ·first | (cases hh;done) | (cases hh;exact ⟨_,_,ho,hz,rfl⟩)
    ·first | (cases hh;done) | (cases hh;exact ⟨_,_,ho,hay⟩)
   ·cases hcomp
  ·cases hcomp
 ·
  rename_i y xt ty ho
  split at hcomp
  ·cases hcomp
  ·cases hcomp
  ·rename_i n1 n2
   obtain ⟨z,hz,hcomp⟩:=bindO hcomp
   obtain ⟨ay,hay,hcomp⟩:=bindO hcomp
   cases hcomp
   refine ⟨fun i hh=>?_,fun q hh=>?_,fun hh=>?_,fun f as hh=>?_,fun x hh=>?_,fun cs hh=>?_,fun k y hh=>?_⟩
   ·first | (cases hh;done) | (cases hh;rw [ho,opd_tmp hy])
   ·first | (cases hh;done) | (cases hh;exact ⟨_,_,ho,hay,hk⟩)
   ·first
    | rfl
    | (rcases hh with ⟨_,_,_,hh⟩ | ⟨_,hh,hh2⟩ <;> rw [ho] at hh <;> cases hh;done)
    | (rcases hh with ⟨_,_,_,hh⟩ | ⟨_,hh,hh2⟩
       ·rw [ho] at hh;cases hh
       ·rw [ho] at hh;cases hh;rw [hcal] at hh2;cases hh2)
   ·first | (cases hh;done) | (cases hh;exact ⟨_,_,ho,‹_›,haf,has⟩)
   ·first | (cases hh;done) | (cases hh;exact ⟨_,ho,hy⟩)
   ·first | (cases hh;done) | (cases hh;exact ⟨_,_,ho,hz,rfl⟩)
   ·first | (cases hh;done) | (cases hh;exact ⟨_,_,ho,hay⟩)
 ·
  rename_i y i ho
  obtain ⟨ay,hay,hcomp⟩:=bindO hcomp
  cases hcomp
  refine ⟨fun i hh=>?_,fun q hh=>?_,fun hh=>?_,fun f as hh=>?_,fun x hh=>?_,fun cs hh=>?_,fun k y hh=>?_⟩
  ·first | (cases hh;done) | (cases hh;rw [ho,opd_tmp hy])
  ·first | (cases hh;done) | (cases hh;exact ⟨_,_,ho,hay,hk⟩)
  ·first
   | rfl
   | (rcases hh with ⟨_,_,_,hh⟩ | ⟨_,hh,hh2⟩ <;> rw [ho] at hh <;> cases hh;done)
   | (rcases hh with ⟨_,_,_,hh⟩ | ⟨_,hh,hh2⟩
      ·rw [ho] at hh;cases hh
      ·rw [ho] at hh;cases hh;rw [hcal] at hh2;cases hh2)
  ·first | (cases hh;done) | (cases hh;exact ⟨_,_,ho,‹_›,haf,has⟩)
  ·first | (cases hh;done) | (cases hh;exact ⟨_,ho,hy⟩)
  ·first | (cases hh;done) | (cases hh;exact ⟨_,_,ho,hz,rfl⟩)
  ·first | (cases hh;done) | (cases hh;exact ⟨_,_,ho,hay⟩)
 ·
  rename_i c ho
  split at hcomp
  ·obtain ⟨af,haf,hcomp⟩:=bindO hcomp
   obtain ⟨as,has,hcomp⟩:=bindO hcomp
   cases hcomp
   refine ⟨fun i hh=>?_,fun q hh=>?_,fun hh=>?_,fun f as hh=>?_,fun x hh=>?_,fun cs hh=>?_,fun k y hh=>?_⟩
   ·first | (cases hh;done) | (cases hh;rw [ho,opd_tmp hy])
   ·first | (cases hh;done) | (cases hh;exact ⟨_,_,ho,hay,hk⟩)
   ·first
    | rfl
    | (rcases hh with ⟨_,_,_,hh⟩ | ⟨_,hh,hh2⟩ <;> rw [ho] at hh <;> cases hh;done)
    | (rcases hh with ⟨_,_,_,hh⟩ | ⟨_,hh,hh2⟩
       ·rw [ho] at hh;cases hh
       ·rw [ho] at hh;cases hh;rw [hcal] at hh2;cases hh2)
   ·first | (cases hh;done) | (cases hh;exact ⟨_,_,ho,‹_›,haf,has⟩)
   ·first | (cases hh;done) | (cases hh;exact ⟨_,ho,hy⟩)
   ·first | (cases hh;done) | (cases hh;exact ⟨_,_,ho,hz,rfl⟩)
   ·first | (cases hh;done) | (cases hh;exact ⟨_,_,ho,hay⟩)
  ·cases hcomp
  ·rename_i b hcal
   split at hcomp
   ·rename_i y ty hargs hty
    split at hcomp
    ·rename_i hu
     obtain ⟨ay,hy,rfl⟩:=mapO hcomp
     refine ⟨fun i hh=>?_,fun q hh=>?_,fun hh=>?_,fun f as hh=>?_,fun x hh=>?_,fun cs hh=>?_,fun k y hh=>?_⟩
     ·first | (cases hh;done) | (cases hh;rw [ho,opd_tmp hy])
     ·first | (cases hh;done) | (cases hh;exact ⟨_,_,ho,hay,hk⟩)
     ·first
      | rfl
      | (rcases hh with ⟨_,_,_,hh⟩ | ⟨_,hh,hh2⟩ <;> rw [ho] at hh <;> cases hh;done)
      | (rcases hh with ⟨_,_,_,hh⟩ | ⟨_,hh,hh2⟩
         ·rw [ho] at hh;cases hh
         ·rw [ho] at hh;cases hh;rw [hcal] at hh2;cases hh2)
     ·first | (cases hh;done) | (cases hh;exact ⟨_,_,ho,‹_›,haf,has⟩)
     ·first | (cases hh;done) | (cases hh;exact ⟨_,ho,hy⟩)
     ·first | (cases hh;done) | (cases hh;exact ⟨_,_,ho,hz,rfl⟩)
     ·first | (cases hh;done) | (cases hh;exact ⟨_,_,ho,hay⟩)
    ·rename_i et hu
     obtain ⟨ay,hy,rfl⟩:=mapO hcomp
     refine ⟨fun i hh=>?_,fun q hh=>?_,fun hh=>?_,fun f as hh=>?_,fun x hh=>?_,fun cs hh=>?_,fun k y hh=>?_⟩
     ·first | (cases hh;done) | (cases hh;rw [ho,opd_tmp hy])
     ·first | (cases hh;done) | (cases hh;exact ⟨_,_,ho,hay,hk⟩)
     ·first
      | rfl
      | (rcases hh with ⟨_,_,_,hh⟩ | ⟨_,hh,hh2⟩ <;> rw [ho] at hh <;> cases hh;done)
      | (rcases hh with ⟨_,_,_,hh⟩ | ⟨_,hh,hh2⟩
         ·rw [ho] at hh;cases hh
         ·rw [ho] at hh;cases hh;rw [hcal] at hh2;cases hh2)
     ·first | (cases hh;done) | (cases hh;exact ⟨_,_,ho,‹_›,haf,has⟩)
     ·first | (cases hh;done) | (cases hh;exact ⟨_,ho,hy⟩)
     ·first | (cases hh;done) | (cases hh;exact ⟨_,_,ho,hz,rfl⟩)
     ·first | (cases hh;done) | (cases hh;exact ⟨_,_,ho,hay⟩)
    ·rename_i n et hu
     cases hcomp
     refine ⟨fun i hh=>?_,fun q hh=>?_,fun hh=>?_,fun f as hh=>?_,fun x hh=>?_,fun cs hh=>?_,fun k y hh=>?_⟩
     ·first | (cases hh;done) | (cases hh;rw [ho,opd_tmp hy])
     ·first | (cases hh;done) | (cases hh;exact ⟨_,_,ho,hay,hk⟩)
     ·first
      | rfl
      | (rcases hh with ⟨_,_,_,hh⟩ | ⟨_,hh,hh2⟩ <;> rw [ho] at hh <;> cases hh;done)
      | (rcases hh with ⟨_,_,_,hh⟩ | ⟨_,hh,hh2⟩
         ·rw [ho] at hh;cases hh
         ·rw [ho] at hh;cases hh;rw [hcal] at hh2;cases hh2)
     ·first | (cases hh;done) | (cases hh;exact ⟨_,_,ho,‹_›,haf,has⟩)
     ·first | (cases hh;done) | (cases hh;exact ⟨_,ho,hy⟩)
     ·first | (cases hh;done) | (cases hh;exact ⟨_,_,ho,hz,rfl⟩)
     ·first | (cases hh;done) | (cases hh;exact ⟨_,_,ho,hay⟩)
    ·cases hcomp
   ·rename_i y z sT xT hargs hty
    split at hcomp
    ·rename_i et ux hu hux
     split at hcomp
     ·cases hcomp
     ·rename_i hm
      obtain ⟨i,hi,hcomp⟩:=bindO hcomp
      obtain ⟨zz,hz,hcomp⟩:=bindO hcomp
      split at hcomp
      ·cases hcomp
      ·rename_i hn
       obtain ⟨ay,hay,hcomp⟩:=bindO hcomp
       obtain ⟨az,haz,hcomp⟩:=bindO hcomp
       cases hcomp
       refine ⟨fun i hh=>?_,fun q hh=>?_,fun hh=>?_,fun f as hh=>?_,fun x hh=>?_,fun cs hh=>?_,fun k y hh=>?_⟩
       ·first | (cases hh;done) | (cases hh;rw [ho,opd_tmp hy])
       ·first | (cases hh;done) | (cases hh;exact ⟨_,_,ho,hay,hk⟩)
       ·first
        | rfl
        | (rcases hh with ⟨_,_,_,hh⟩ | ⟨_,hh,hh2⟩ <;> rw [ho] at hh <;> cases hh;done)
        | (rcases hh with ⟨_,_,_,hh⟩ | ⟨_,hh,hh2⟩
           ·rw [ho] at hh;cases hh
           ·rw [ho] at hh;cases hh;rw [hcal] at hh2;cases hh2)
       ·first | (cases hh;done) | (cases hh;exact ⟨_,_,ho,‹_›,haf,has⟩)
       ·first | (cases hh;done) | (cases hh;exact ⟨_,ho,hy⟩)
       ·first | (cases hh;done) | (cases hh;exact ⟨_,_,ho,hz,rfl⟩)
       ·first | (cases hh;done) | (cases hh;exact ⟨_,_,ho,hay⟩)
    ·cases hcomp
   ·rename_i y z tys hargs
    obtain ⟨ay,hay,hcomp⟩:=bindO hcomp
    obtain ⟨az,haz,hcomp⟩:=bindO hcomp
    cases hcomp
    refine ⟨fun i hh=>?_,fun q hh=>?_,fun hh=>?_,fun f as hh=>?_,fun x hh=>?_,fun cs hh=>?_,fun k y hh=>?_⟩
    ·first | (cases hh;done) | (cases hh;rw [ho,opd_tmp hy])
    ·first | (cases hh;done) | (cases hh;exact ⟨_,_,ho,hay,hk⟩)
    ·first
     | rfl
     | (rcases hh with ⟨_,_,_,hh⟩ | ⟨_,hh,hh2⟩ <;> rw [ho] at hh <;> cases hh;done)
     | (rcases hh with ⟨_,_,_,hh⟩ | ⟨_,hh,hh2⟩
        ·rw [ho] at hh;cases hh
        ·rw [ho] at hh;cases hh;rw [hcal] at hh2;cases hh2)
    ·first | (cases hh;done) | (cases hh;exact ⟨_,_,ho,‹_›,haf,has⟩)
    ·first | (cases hh;done) | (cases hh;exact ⟨_,ho,hy⟩)
    ·first | (cases hh;done) | (cases hh;exact ⟨_,_,ho,hz,rfl⟩)
    ·first | (cases hh;done) | (cases hh;exact ⟨_,_,ho,hay⟩)
   ·rename_i y z tys hargs
    obtain ⟨ay,hay,hcomp⟩:=bindO hcomp
    obtain ⟨az,haz,hcomp⟩:=bindO hcomp
    cases hcomp
    refine ⟨fun i hh=>?_,fun q hh=>?_,fun hh=>?_,fun f as hh=>?_,fun x hh=>?_,fun cs hh=>?_,fun k y hh=>?_⟩
    ·first | (cases hh;done) | (cases hh;rw [ho,opd_tmp hy])
    ·first | (cases hh;done) | (cases hh;exact ⟨_,_,ho,hay,hk⟩)
    ·first
     | rfl
     | (rcases hh with ⟨_,_,_,hh⟩ | ⟨_,hh,hh2⟩ <;> rw [ho] at hh <;> cases hh;done)
     | (rcases hh with ⟨_,_,_,hh⟩ | ⟨_,hh,hh2⟩
        ·rw [ho] at hh;cases hh
        ·rw [ho] at hh;cases hh;rw [hcal] at hh2;cases hh2)
    ·first | (cases hh;done) | (cases hh;exact ⟨_,_,ho,‹_›,haf,has⟩)
    ·first | (cases hh;done) | (cases hh;exact ⟨_,ho,hy⟩)
    ·first | (cases hh;done) | (cases hh;exact ⟨_,_,ho,hz,rfl⟩)
    ·first | (cases hh;done) | (cases hh;exact ⟨_,_,ho,hay⟩)
   ·cases hcomp
 ·
  rename_i y ho
  obtain ⟨ay,hy,rfl⟩:=mapO hcomp
  refine ⟨fun i hh=>?_,fun q hh=>?_,fun hh=>?_,fun f as hh=>?_,fun x hh=>?_,fun cs hh=>?_,fun k y hh=>?_⟩
  ·first | (cases hh;done) | (cases hh;rw [ho,opd_tmp hy])
  ·first | (cases hh;done) | (cases hh;exact ⟨_,_,ho,hay,hk⟩)
  ·first
   | rfl
   | (rcases hh with ⟨_,_,_,hh⟩ | ⟨_,hh,hh2⟩ <;> rw [ho] at hh <;> cases hh;done)
   | (rcases hh with ⟨_,_,_,hh⟩ | ⟨_,hh,hh2⟩
      ·rw [ho] at hh;cases hh
      ·rw [ho] at hh;cases hh;rw [hcal] at hh2;cases hh2)
  ·first | (cases hh;done) | (cases hh;exact ⟨_,_,ho,‹_›,haf,has⟩)
  ·first | (cases hh;done) | (cases hh;exact ⟨_,ho,hy⟩)
  ·first | (cases hh;done) | (cases hh;exact ⟨_,_,ho,hz,rfl⟩)
  ·first | (cases hh;done) | (cases hh;exact ⟨_,_,ho,hay⟩)
 ·cases hcomp
theorem comp_was {o:Oper} {ao:AOp} (hcomp:compOp P gl o = some ao):Was P gl o ao:=by
 unfold compOp at hcomp
 split at hcomp
 ·rename_i y hy
  cases hcomp
  rcases hx_form hy with ⟨k,as,rfl⟩ | ⟨sh,z,ok,m,key,ty,p,q,r,rfl,ho⟩ | ⟨op,ty,p,q,r,⟨sh,n,x,y,rfl⟩ | ⟨n,x,rfl⟩,ho⟩
  ·refine ⟨fun _ h=>?_,fun _ h=>?_,fun _=>rfl,fun _ _ h=>?_,fun _ h=>?_,fun _ h=>?_,fun _ _ h=>?_⟩ <;> cases h
  ·refine ⟨fun _ h=>?_,fun _ h=>?_,fun hh=>?_,fun _ _ h=>?_,fun _ h=>?_,fun _ h=>?_,fun _ _ h=>?_⟩
   ·cases h
   ·cases h
   ·rcases hh with ⟨_,_,_,hh⟩ | ⟨_,hh,_⟩ <;> rw [ho] at hh <;> cases hh
   ·cases h
   ·cases h
   ·cases h
   ·cases h
  ·refine ⟨fun _ h=>?_,fun _ h=>?_,fun hh=>?_,fun _ _ h=>?_,fun _ h=>?_,fun _ h=>?_,fun _ _ h=>?_⟩
   ·cases h
   ·cases h
   ·rcases hh with ⟨_,_,_,hh⟩ | ⟨_,hh,_⟩ <;> rw [ho] at hh <;> cases hh
   ·cases h
   ·cases h
   ·cases h
   ·cases h
  ·refine ⟨fun _ h=>?_,fun _ h=>?_,fun hh=>?_,fun _ _ h=>?_,fun _ h=>?_,fun _ h=>?_,fun _ _ h=>?_⟩
   ·cases h
   ·cases h
   ·rcases hh with ⟨_,_,_,hh⟩ | ⟨_,hh,_⟩ <;> rw [ho] at hh <;> cases hh
   ·cases h
   ·cases h
   ·cases h
   ·cases h
 ·exact comp_was0 hcomp
theorem hx_acts {o:Oper} {ao:AOp} (hcomp:compOp P gl o = some ao) (hO:OpHx P gl o):ao.acts = true:=by
 obtain ⟨k,as,hk⟩:=hO
 unfold compOp at hcomp
 rw [hk] at hcomp
 cases hcomp
 rfl
end
end Go.AE
namespace Go.AE
def FR (ro:Option Nat):Fence:={ Fence.wide with round:=ro}
theorem FR_calls {ro:Option Nat} {n m:Nat} {P:Program} {f:FuncId} {args:Array Value} {w:World} {R:Ending→World→Prop} (h:CallsIn Fence.wide m P f args w R):CallsIn (FR ro) n P f args w R:=
 ⟨trivial,fun cs _=>h.2 cs (room_wide _)⟩
def callS (f:Value) (args:Array Value):Sem Next:=do let d ←Deferred.ofValue f args;invoke d.target d.args
def NoTmp (G:Ghost):Prop:=∀b i,G.ow b ≠ some (.tmp i)
def Back (P:Program) (gl:Nat→Option (List AVal)) (n:Nat) (G:Ghost) (w:World) (r:CRes) (h':List ABox):Ending→World→Prop
 | .returned v,w'=>∃rv G',r = .ret rv∧Ext n G w G' w'∧Rel P gl G' h' w'∧NoTmp G'∧G'.V rv v
 | .panicked ch,w'=>∃pv v G',r = .pan pv∧ch = [{ v,recovered:=false}]∧Ext n G w G' w'∧Rel P gl G' h' w'∧NoTmp G'∧G'.V pv v
 | .outgrown,_=>False
def CallOK (P:Program) (gl:Nat→Option (List AVal)) (call:AE.Call):Prop:=
 ∀fv args h r h' e',call fv args h = some (r,h',e')→∀(G:Ghost) (w:World) (fvv:Value) (vs:Array Value),Rel P gl G h w→NoTmp G→G.V fv fvv→G.VL args vs.toList→
  (∃f as,(callS fvv vs).run P w = .ok (.enter f as) w∧∀(ro:Option Nat) (n:Nat),CallsIn (FR ro) n P f as w (Back P gl h.length G w r h'))∨
  (∃i b f tmps asg body,fv = .yld i∧(callS fvv vs).run P w = .ok (.round b f tmps asg body) w∧∀(ro:Option Nat) (n:Nat),RoundIn (FR ro) n P b f tmps asg body w (Back P gl h.length G w r h'))∨
  (∃v w',(∀i,args ≠ [.yld i])∧(callS fvv vs).run P w = .ok (.value v) w'∧Back P gl h.length G w r h' (.returned v) w')
theorem FR_depth {ro:Option Nat} {m:Nat}:(FR ro).depth.isSome = true→1 ≤ m:=fun h=>by cases h
theorem call_upon {P:Program} {gl:Nat→Option (List AVal)} {call:AE.Call} (hcall:CallOK P gl call) {fv:AVal} {args:List AVal} {h:List ABox} {r:CRes} {h':List ABox} {e':Bool} (hc:call fv args h = some (r,h',e'))
  {G:Ghost} {w:World} {fvv:Value} {vs:Array Value} (hr:Rel P gl G h w) (hn:NoTmp G) (hf:G.V fv fvv) (ha:G.VL args vs.toList)
  (ro:Option Nat) (n:Nat) (o:Oper) (a:Act) (K:Act→World→Prop) (Q:Exit→Act→World→Prop)
  (hret:∀rv v w' G',r = .ret rv→Ext h.length G w G' w'→Rel P gl G' h' w'→NoTmp G'→G'.V rv v→K (a.put o.dst v) w')
  (hpan:∀pv v w' G',r = .pan pv→Ext h.length G w G' w'→Rel P gl G' h' w'→NoTmp G'→G'.V pv v→Q (.panic [{ v,recovered:=false}]) a w') :
  o.uponIn (FR ro) n P a K Q ((callS fvv vs).run P w):=by
 rcases hcall _ _ _ _ _ _ hc G w fvv vs hr hn hf ha with ⟨f,as,h1,h2⟩ | ⟨_,b,f,tmps,asg,body,_,h1,h2⟩ | ⟨v,w',_,h1,rv,G',h2,h3,h4,h5,h6⟩
 ·rw [h1,Oper.uponIn_enter]
  refine ⟨FR_depth,CallsIn.mono (h2 ro (n - 1)) fun e w'' hb=>?_⟩
  cases e with
  | returned v=>obtain ⟨rv,G',g1,g2,g3,g4,g5⟩:=hb;exact hret rv v w'' G' g1 g2 g3 g4 g5
  | panicked ch=>obtain ⟨pv,v,G',g1,rfl,g2,g3,g4,g5⟩:=hb;exact hpan pv v w'' G' g1 g2 g3 g4 g5
  | outgrown=>exact hb.elim
 ·rw [h1,Oper.uponIn_round]
  refine ⟨FR_depth,RoundIn.mono (h2 ro (n - 1)) fun e w'' hb=>?_⟩
  cases e with
  | returned v=>obtain ⟨rv,G',g1,g2,g3,g4,g5⟩:=hb;exact hret rv v w'' G' g1 g2 g3 g4 g5
  | panicked ch=>obtain ⟨pv,v,G',g1,rfl,g2,g3,g4,g5⟩:=hb;exact hpan pv v w'' G' g1 g2 g3 g4 g5
  | outgrown=>exact hb.elim
 ·rw [h1,Oper.uponIn_value]
  exact hret rv v w' G' h2 h3 h4 h5 h6
def Ghost.cellsOnly (G:Ghost):Ghost:={ γ:=G.γ,imm:=G.imm,ow:=fun b=>match G.ow b with | some (.cell i o)=>some (.cell i o) | _=>none}
def Ghost.with (G' G:Ghost):Ghost:={ γ:=G'.γ,imm:=G'.imm,ow:=fun b=>match G.ow b with | some (.tmp i)=>some (.tmp i) | _=>G'.ow b}
section
variable {P:Program} {gl:Nat→Option (List AVal)} {G G':Ghost} {w w':World} {h h':List ABox} {t:List AVal} {a:Act} {n:Nat}
theorem cellsOnly_ow {b:Nat} {ℓ:Loc} (h:G.cellsOnly.ow b = some ℓ):G.ow b = some ℓ∧∃i o,ℓ = .cell i o:=by
 simp only [Ghost.cellsOnly] at h
 split at h
 ·rename_i i o e;cases h;exact ⟨e,i,o,rfl⟩
 ·cases h
theorem cellsOnly_cell {b i o:Nat} (h:G.ow b = some (.cell i o)):G.cellsOnly.ow b = some (.cell i o):=by simp [Ghost.cellsOnly,h]
theorem Rel.cellsOnly (hr:Rel P gl G h w):Rel P gl G.cellsOnly h w∧NoTmp G.cellsOnly:=by
 refine ⟨⟨hr.γlt,hr.inj,fun i b bx hb hx=>?_,hr.imm,hr.immγ,hr.immK,fun b ℓ hb=>hr.ow b ℓ (cellsOnly_ow hb).1,hr.glob⟩,fun b i hb=>?_⟩
 ·have h0:=hr.box i b bx hb hx
  cases bx with
  | cells cs=>
   obtain ⟨c,e,h1,h2,h3⟩:=h0
   exact ⟨c,e,h1,h2,fun o xs k v ho hv=>(h3 o xs k v ho hv).keep (fun y hy=>cellsOnly_cell hy) (fun _ _=>rfl) (fun _ _ _ h=>h)⟩
  | loop _ _ _ _ _ _=>
   obtain ⟨L,h1,h2⟩:=h0
   exact ⟨L,h1,{ h2 with tmps:=h2.tmps}⟩
  | map es _=>obtain ⟨me,h1,h2⟩:=h0;obtain ⟨m,hm⟩:=lowerM_ex es;exact ⟨me,h1,MapRel.mono (G:=G) (G':=G.cellsOnly) (fun _ _ _ h=>h) m (fun _ _ _ h=>h) hm h2⟩
  | iter _ _ _ _=>obtain ⟨mm,h1,h2⟩:=h0;exact ⟨mm,h1,h2⟩
  | bld _ _ _=>exact BldR.keep h0 rfl (fun y hy=>cellsOnly_cell hy) (fun _ _=>rfl) (fun _ _ _ h=>h)
  | dead=>trivial
 ·obtain ⟨_,i',o',e⟩:=cellsOnly_ow hb
  cases e
theorem call_back (hc:Cfg P gl G h t a w) (he:Ext n G.cellsOnly w G' w') (hr:Rel P gl G' h' w'):Ext n G w (G'.with G) w'∧Rel P gl (G'.with G) h' w'∧TRel (G'.with G) w' t a.tmps:=by
 have hforeign:∀b i,G.ow b = some (.tmp i)→Foreign G.cellsOnly b:=fun b i hb=>⟨(hc.rel.ow b _ hb).2,by simp [Ghost.cellsOnly,hb]⟩
 have hG':∀b i,G.ow b = some (.tmp i)→G'.ow b = none:=fun b i hb=>by
  cases ho:G'.ow b with
  | none=>rfl
  | some ℓ=>
   rcases he.on b (by simp [ho]) with h1 | h1
   ·exact absurd (hforeign b i hb).2 h1
   ·have:=(hc.rel.ow b _ hb).1;omega
 have hwo:∀b,(∀i,G.ow b ≠ some (.tmp i))→(G'.with G).ow b = G'.ow b:=fun b hb=>by
  cases hg:G.ow b with
  | none=>simp [Ghost.with,hg]
  | some ℓ=>cases ℓ with
   | tmp i=>exact absurd hg (hb i)
   | cell i o=>simp [Ghost.with,hg]
 have hwt:∀b i,G.ow b = some (.tmp i)→(G'.with G).ow b = some (.tmp i):=fun b i hb=>by simp [Ghost.with,hb]
 refine ⟨⟨he.gk,he.gn,he.ik,fun b o v hv=>?_,fun b hb=>?_,he.size,fun b hb hf=>?_,he.loops,he.os,he.tape,he.output⟩,⟨hr.γlt,hr.inj,fun i b bx hb hx=>?_,hr.imm,hr.immγ,hr.immK,fun b ℓ hb=>?_,hr.glob⟩,?_⟩
 ·rcases he.inew b o v hv with h1 | h1 | h1 | ⟨i,h1⟩
  ·exact .inl h1
  ·exact .inr (.inl h1)
  rotate_left
  ·exact .inr (.inr (.inr ⟨i,h1⟩))
  ·refine .inr (.inr (.inl fun e=>?_))
   simp [Ghost.cellsOnly,e] at h1
 ·by_cases hh:∃i,G.ow b = some (.tmp i)
  ·obtain ⟨i,hi⟩:=hh;exact .inl (by simp [hi])
  ·rw [hwo b (fun i hi=>hh ⟨i,hi⟩)] at hb
   rcases he.on b hb with h1 | h1
   ·refine .inl fun e=>?_
    simp [Ghost.cellsOnly,e] at h1
   ·exact .inr h1
 ·exact he.heap b hb ⟨hf.1,by simp [Ghost.cellsOnly,hf.2]⟩
 ·have h0:=hr.box i b bx hb hx
  cases bx with
  | cells cs=>
   obtain ⟨c,e,h1,h2,h3⟩:=h0
   refine ⟨c,e,h1,h2,fun o xs k v ho hv=>(h3 o xs k v ho hv).keep (fun y hy=>?_) (fun _ _=>rfl) (fun _ _ _ h=>h)⟩
   rw [hwo y (fun j hj=>by rw [hG' y j hj] at hy;cases hy)]
   exact hy
  | loop _ _ _ _ _ _=>
   obtain ⟨L,h1,h2⟩:=h0
   exact ⟨L,h1,{ h2 with tmps:=h2.tmps}⟩
  | map es _=>obtain ⟨me,h1,h2⟩:=h0;obtain ⟨m,hm⟩:=lowerM_ex es;exact ⟨me,h1,MapRel.mono (G:=G') (G':=G'.with G) (fun _ _ _ h=>h) m (fun _ _ _ h=>h) hm h2⟩
  | iter _ _ _ _=>obtain ⟨mm,h1,h2⟩:=h0;exact ⟨mm,h1,h2⟩
  | bld _ _ _=>
   refine BldR.keep h0 rfl (fun y hy=>?_) (fun _ _=>rfl) (fun _ _ _ h=>h)
   rw [hwo y (fun j hj=>by rw [hG' y j hj] at hy;cases hy)]
   exact hy
  | dead=>trivial
 ·by_cases hh:∃i,G.ow b = some (.tmp i)
  ·obtain ⟨i,hi⟩:=hh
   obtain ⟨h1,h2⟩:=hc.rel.ow b _ hi
   refine ⟨Nat.lt_of_lt_of_le h1 he.size,fun j hj=>?_⟩
   rcases he.gn j b hj with h3 | ⟨_,h3 | ⟨j',h3⟩⟩
   ·exact h2 j h3
   ·omega
   ·exact h2 j' h3
  ·rw [hwo b (fun i hi=>hh ⟨i,hi⟩)] at hb
   exact hr.ow b ℓ hb
 ·have hVL:=he.VL hc.tr.rel
  refine ⟨hVL,fun i xs k v hx hv=>(hc.tr.own i xs k v hx hv).keep (fun y hy=>hwt y i hy) (fun y hy=>he.heap y (hc.rel.ow y _ hy).1 (hforeign y i hy)) (fun y j hy hj=>?_)⟩
  cases hv':(G'.with G).imm y j with
  | none=>rfl
  | some u=>
   rcases he.inew y j u hv' with h1 | h1 | h1 | ⟨i',h1⟩
   rotate_right
   ·exact absurd h1 ((hc.rel.ow y _ hy).2 i')
   ·rw [show G.cellsOnly.imm y j = G.imm y j from rfl,hj] at h1;cases h1
   ·have:=(hc.rel.ow y _ hy).1;omega
   ·exact absurd (hforeign y i hy).2 h1
theorem comp_not_defer {o:Oper} {ao:AOp} (hc:compOp P gl o = some ao):∀c,o.op ≠ .defer c:=by
 intro c h
 unfold compOp at hc
 split at hc
 ·rename_i y hy
  unfold compHx at hy
  rw [h] at hy
  cases hy
 ·unfold compOp0 at hc
  rw [h] at hc
  cases hc
theorem Cfg.putDim (hc:Cfg P gl G h t a w) (dst:Option Nat) {x:AVal} {v:Value} (hv:G.V x v):Cfg P gl G h (AE.put dst x.dim t) (a.put dst v) w:=hc.put dst (dim_rel hv) (dim_dim x)
theorem put_defers (a:Act) (d:Option Tmp) (v:Value):(a.put d v).defers = a.defers:=by cases d <;> rfl
theorem op_sound {call:AE.Call} (hcall:CallOK P gl call) (hk:CallKeeps call) (hc:Cfg P gl G h t a w) {p:Prov} (hp:ProvOK G w t a p) {o:Oper} {ao:AOp} (hcomp:compOp P gl o = some ao) {base:Nat} {e:Bool} {x:Ex} {s':St}
  (hrun:runOp base call p o.dst ao ⟨t,h,e⟩ = some (x,s')) {ro:Option Nat} {m:Nat} {K:Act→World→Prop} {Q:Exit→Act→World→Prop}
  (hnor:x = .nor→∀u w' G',Ext h.length G w G' w'→Cfg P gl G' s'.h s'.t (a.put o.dst u) w'→(ao.acts = false→∀b,b < w.heap.size→w'.heap[b]? = w.heap[b]?)→(∀i,ao = .mov (.t i)→u = a.tmps.getD i undef)→
   (∀q id off,ao = .ld none q→ev t q = .ptr id off→∃b,G.γ id = some b∧w.cell? ⟨b,off,none⟩ = some u)→K (a.put o.dst u) w')
  (hpan:∀pv,x = .pan pv→∀v w' G',Ext h.length G w G' w'→Cfg P gl G' s'.h s'.t a w'→G'.V pv v→Q (.panic [{ v,recovered:=false}]) a w') :
  o.wpIn (FR ro) m P a w K Q:=by
 refine ⟨fun _ _=>trivial,?_⟩
 rw [Oper.semAt_eq _ _ _ (comp_not_defer hcomp)]
 cases hcl:ao.calls with
 | false=>
  obtain ⟨rfl,hd,_⟩:=did_op hc hp hcomp hcl hrun
  obtain ⟨nx,u,w',G',h1,h2,hst,h3,h4⟩:=hd
  have h5:ao.acts = false→∀b,b < w.heap.size→w'.heap[b]? = w.heap[b]?:=by
   intro hac
   exact hst (fun hop=>by rw [(comp_was hcomp).2.2.1 hop] at hac;cases hac) (fun hop=>by rw [hx_acts hcomp hop] at hac;cases hac)
  have h6:∀i,ao = .mov (.t i)→u = a.tmps.getD i undef:=by
   rintro i rfl
   have ho:=(comp_was hcomp).1 i rfl
   have:(execOp a.eval o).run P w = .ok (.value (a.eval (.tmp i))) w:=by simp [execOp,ho]
   rw [this] at h1
   cases h1
   rcases h2 with h2 | ⟨h2,_⟩
   ·cases h2;rfl
   ·cases h2
  have h7:∀q id off,ao = .ld none q→ev t q = .ptr id off→∃b,G.γ id = some b∧w.cell? ⟨b,off,none⟩ = some u:=by
   rintro q id off rfl hq
   obtain ⟨ty,y,ho,hy,hk⟩:=(comp_was hcomp).2.1 q rfl
   have hv:=ev_rel hc.rel hc.tr hy
   rw [hq] at hv
   simp only [Ghost.V,VRel] at hv
   obtain ⟨b,hb,he⟩:=hv
   refine ⟨b,hb,?_⟩
   obtain ⟨g1,_⟩:=tyk_isAgg hk w
   simp only [runOp] at hrun
   obtain ⟨v,hv,_⟩:=mapO hrun
   rw [hq] at hv
   simp only [ldAt] at hv
   split at hv
   ·rename_i cs hcs
    obtain ⟨c,te,hw,hcr,_⟩:=hc.rel.box id b _ hb hcs
    simp only [cut] at hv
    obtain ⟨av,hav,_⟩:=mapO hv
    obtain ⟨uv,huv,_⟩:=front_get hcr hav
    have hcell:w.cell? ⟨b,off,none⟩ = some uv:=by
     simp only [Array.getElem?_toList] at huv
     simp [World.cell?,hw,huv]
    have:(execOp a.eval o).run P w = .ok (.value uv) w:=by
     simp only [execOp,ho]
     refine run_v ?_
     simp only [Instr.loadAt,he,Instr.sureAddr,Sem.run_bind,Sem.run_pure,Result.andThen_ok,loadVar,g1,Option.isSome_none,Bool.false_eq_true,if_false,run_load,hcell]
    rw [this] at h1
    cases h1
    rcases h2 with h2 | ⟨h2,_⟩
    ·cases h2;exact hcell
    ·cases h2
   ·cases hv
  have:=hnor rfl u w' G' h3 h4 h5 h6 h7
  rw [h1]
  rcases h2 with rfl | ⟨rfl,rfl⟩
  ·rw [Oper.uponIn_value];exact this
  ·rw [Oper.uponIn_skip];exact this
 | true=>
  cases ao <;> simp [AOp.calls] at hcl
  case call f as=>
   obtain ⟨c,fo,ho,hcal,hf,has⟩:=(comp_was hcomp).2.2.2.1 f as rfl
   have hfv:=ev_rel hc.rel hc.tr hf
   have hav:=opds_rel hc.rel hc.tr has
   obtain ⟨hr0,hn0⟩:=hc.rel.cellsOnly
   have hex:(execOp a.eval o).run P w = (callS (a.eval fo) (c.args.map a.eval)).run P w:=by
    simp only [execOp,ho,resolve,hcal,callS]
   rw [hex]
   simp only [runOp] at hrun
   split at hrun
   ·rename_i v h1 e1 hcl1
    cases hrun
    refine call_upon hcall hcl1 hr0 hn0 hfv hav ro m o a K Q (fun rv u w' G' hrv he hr' hn' hv=>?_) (fun pv u w' G' hpv=>by cases hpv)
    cases hrv
    obtain ⟨k1,k2,k3⟩:=call_back hc he hr'
    have hc':Cfg P gl (G'.with G) h1 t a w':=⟨k2,k3⟩
    refine hnor rfl u w' (G'.with G) k1 (hc'.putDim o.dst hv) (by simp [AOp.acts]) (by simp) (by simp)
   ·rename_i v h1 e1 hcl1
    cases hrun
    refine call_upon hcall hcl1 hr0 hn0 hfv hav ro m o a K Q (fun rv u w' G' hrv=>by cases hrv) (fun pv u w' G' hpv he hr' hn' hv=>?_)
    cases hpv
    obtain ⟨k1,k2,k3⟩:=call_back hc he hr'
    exact hpan _ rfl u w' (G'.with G) k1 ⟨k2,k3⟩ hv
   ·cases hrun
  case pan y=>
   obtain ⟨xo,ho,hx⟩:=(comp_was hcomp).2.2.2.2.1 y rfl
   have hv:=ev_rel hc.rel hc.tr hx
   simp only [runOp] at hrun
   split at hrun
   ·rename_i u v hy
    cases hrun
    rw [hy] at hv
    have hv':=hv
    simp only [Ghost.V,VRel] at hv'
    obtain ⟨x',he,_⟩:=hv'
    have hex:(execOp a.eval o).run P w = .halt (.panic (a.eval xo)) w:=by
     simp [execOp,ho,he,Instr.panic]
    rw [hex,Oper.uponIn_panic]
    exact hpan _ rfl _ w G (Ext.refl _ G w) hc hv
   ·cases hrun
theorem Act.put_get_ne {a:Act} {dst:Option Nat} {u:Value} {i:Nat} (h:dst ≠ some i):(a.put dst u).tmps[i]? = a.tmps[i]?:=by
 cases dst with
 | none=>rfl
 | some d=>
  have:d ≠ i:=fun e=>h (by rw [e])
  simp [Act.put,Array.getElem?_setIfInBounds,this]
theorem raw_put_ne {dst:Option Nat} {v:AVal} {x:AOpd} (h:∀d,dst = some d→x.isT d = false):raw (AE.put dst v t) x = raw t x:=by
 cases dst with
 | none=>rfl
 | some d=>
  cases x with
  | c _=>rfl
  | t i=>
   have:=h d rfl
   simp only [AOpd.isT,beq_eq_false_iff_ne,ne_eq] at this
   simp only [raw,AE.put,List.getD_eq_getElem?_getD]
   rw [List.getElem?_set_ne (fun e=>this e.symm)]
theorem ev_put_ne {dst:Option Nat} {v:AVal} {x:AOpd} (h:∀d,dst = some d→x.isT d = false):ev (AE.put dst v t) x = ev t x:=by
 simp only [ev,raw_put_ne h]
theorem ProvOK.next {p:Prov} (hp:ProvOK G w t a p) {o:AOper} {u:Value} {v:AVal} {t':List AVal} (ht:o.op.effs = false→t' = AE.put o.dst v t)
  (hγ:∀i b,G.γ i = some b→G'.γ i = some b) (hh:o.op.effs = false→∀b,b < w.heap.size→w'.heap[b]? = w.heap[b]?)
  (hmov:∀i,o.op = .mov (.t i)→u = a.tmps.getD i undef) (hld:∀q id off,o.op = .ld none q→ev t q = .ptr id off→∃b,G.γ id = some b∧w.cell? ⟨b,off,none⟩ = some u) :
  ProvOK G' w' t' (a.put o.dst u) (provNext p o):=by
 unfold provNext
 cases hac:o.op.effs with
 | true=>
  simp only [if_true]
  have one:∀d i,(d,Src.tmp i) ∈ p→o.dst ≠ some d→(∀k,o.dst = some k→(Src.tmp i).hangs k = false)→∀u',(a.put o.dst u).tmps[d]? = some u'→(a.put o.dst u).tmps.getD i undef = u':=by
   intro d i hm h1 h2 u' hu'
   rw [Act.put_get_ne h1] at hu'
   have h3:=hp d _ hm u' hu'
   simp only at h3
   rw [Array.getD_eq_getD_getElem?] at h3 ⊢
   rw [Act.put_get_ne (fun e=>by have:=h2 i e;simp [Src.hangs] at this)]
   exact h3
  cases hdst:o.dst with
  | none=>
   simp only [hdst] at one
   intro d s hm u' hu'
   simp only [List.mem_filter] at hm
   obtain ⟨h1,h2⟩:=hm
   cases s with
   | tmp i=>exact one d i h1 (by simp) (by simp) u' hu'
   | cell x=>cases h2
  | some k=>
   simp only [hdst] at one
   intro d s hm u' hu'
   simp only [List.mem_filter,Bool.and_eq_true,bne_iff_ne,ne_eq,Bool.not_eq_true'] at hm
   obtain ⟨h1,h2,h3,h4⟩:=hm
   cases s with
   | tmp i=>exact one d i h1 (by simpa using fun e=>h3 e.symm) (fun j hj=>by cases hj;exact h4) u' hu'
   | cell x=>cases h2
 | false=>
  simp only [Bool.false_eq_true,if_false]
  have hh:=hh hac
  have ht:=ht hac
  subst ht
  have hcell:∀b off v,w.cell? ⟨b,off,none⟩ = some v→w'.cell? ⟨b,off,none⟩ = some v:=by
   intro b off v hv
   have hb:b < w.heap.size:=by
    rcases Nat.lt_or_ge b w.heap.size with hb | hb
    ·exact hb
    ·simp [World.cell?,Array.getElem?_eq_none hb] at hv
   rw [cell_congr (w:=w) (w':=w') (hh b hb)]
   exact hv
  have hold:∀d s,(d,s) ∈ p→o.dst ≠ some d→(∀k,o.dst = some k→s.hangs k = false)→∀u',(a.put o.dst u).tmps[d]? = some u'→match s with
    | .tmp i=>(a.put o.dst u).tmps.getD i undef = u'
    | .cell x=>∀id o',ev (AE.put o.dst v t) x = .ptr id o'→∃b,G'.γ id = some b∧w'.cell? ⟨b,o',none⟩ = some u':=by
   intro d s hm h1 h2 u' hu'
   rw [Act.put_get_ne h1] at hu'
   have h3:=hp d s hm u' hu'
   cases s with
   | tmp i=>
    simp only at h3 ⊢
    rw [Array.getD_eq_getD_getElem?] at h3 ⊢
    rw [Act.put_get_ne (fun e=>by have:=h2 i e;simp [Src.hangs] at this)]
    exact h3
   | cell x=>
    simp only at h3 ⊢
    intro id o' he
    rw [ev_put_ne (fun d hd=>by have:=h2 d hd;simpa [Src.hangs] using this)] at he
    obtain ⟨b,g1,g2⟩:=h3 id o' he
    exact ⟨b,hγ id b g1,hcell b o' u' g2⟩
  cases hdst:o.dst with
  | none=>
   simp only [hdst] at hold
   intro d s hm u' hu'
   exact hold d s hm (by simp) (by simp) u' hu'
  | some k=>
   simp only [hdst] at hold ⊢
   have hq:ProvOK G' w' (AE.put (some k) v t) (a.put (some k) u) (p.filter fun x=>x.1 != k && !x.2.hangs k):=by
    intro d s hm u' hu'
    simp only [List.mem_filter,Bool.and_eq_true,bne_iff_ne,ne_eq,Bool.not_eq_true'] at hm
    obtain ⟨h1,h2,h3⟩:=hm
    exact hold d s h1 (by simpa using fun e=>h2 e.symm) (fun j hj=>by cases hj;exact h3) u' hu'
   split
   ·rename_i s0 hs
    split
    ·exact hq
    ·rename_i hhang
     intro d s hm u' hu'
     rcases List.mem_cons.1 hm with hm | hm
     ·cases hm
      have hu:u' = u:=by
       simp only [Act.put,Array.getElem?_setIfInBounds] at hu'
       split at hu'
       ·split at hu' <;> cases hu';rfl
       ·rename_i hh;exact absurd trivial hh
      subst hu
      unfold provOf at hs
      split at hs
      ·rename_i i ho
       cases hs
       have:=hmov i ho
       simp only
       rw [Array.getD_eq_getD_getElem?] at this ⊢
       rw [Act.put_get_ne (fun e=>by cases e;simp [Src.hangs] at hhang)]
       exact this.symm
      ·rename_i q ho
       cases hs
       simp only
       intro id o' he
       rw [ev_put_ne (fun d hd=>by cases hd;simpa [Src.hangs] using hhang)] at he
       obtain ⟨b,g1,g2⟩:=hld q id o' ho he
       exact ⟨b,hγ id b g1,hcell b o' _ g2⟩
      ·cases hs
     ·exact hq d s hm u' hu'
   ·exact hq
theorem runOp_quiet {base:Nat} {call:AE.Call} {p:Prov} {dst:Option Nat} {o:AOp} {s s':St} {x:Ex} (hac:o.effs = false) (hrun:runOp base call p dst o s = some (x,s')) :
  x = .nor∧∃v,s'.t = AE.put dst v s.t∧s'.e = s.e∧((s'.h = s.h∧(pureV s.t o = some v∨(∃k q,o = .ld k q∧ldAt s.h (ev s.t q) k = some v)∨∃sh z ok m key,o = .lk sh z ok m key∧lkAt s.h sh z ok (ev s.t m) (ev s.t key) = some v))∨
   (∃cs,s'.h = s.h ++ [.cells cs]∧v = .ptr s.h.length 0∧chkOf s o = some (.box s.h.length cs))):=by
 cases o <;> simp only [AOp.effs,Bool.true_eq_false] at hac <;> simp only [runOp] at hrun
 all_goals first
  | (obtain ⟨v,hv,he⟩:=mapO hrun
     cases he
     exact ⟨rfl,v,rfl,rfl,.inl ⟨rfl,.inl hv⟩⟩)
  | (obtain ⟨v,hv,he⟩:=mapO hrun
     cases he
     exact ⟨rfl,v,rfl,rfl,.inl ⟨rfl,.inr (.inl ⟨_,_,rfl,hv⟩)⟩⟩)
  | (obtain ⟨v,hv,he⟩:=mapO hrun
     cases he
     exact ⟨rfl,v,rfl,rfl,.inl ⟨rfl,.inr (.inr ⟨_,_,_,_,_,rfl,hv⟩)⟩⟩)
  | (cases hrun
     exact ⟨rfl,_,rfl,rfl,.inr ⟨_,rfl,rfl,rfl⟩⟩)
  | (split at hrun
     ·cases hrun
      exact ⟨rfl,_,rfl,rfl,.inr ⟨_,rfl,rfl,rfl⟩⟩
     ·cases hrun)
def Fin (P:Program) (gl:Nat→Option (List AVal)) (n:Nat) (G:Ghost) (w:World) (ds:List Deferred) (x:Ex) (s':St) (e:Exit) (a':Act) (w':World):Prop:=
 ∃G',Ext n G w G' w'∧a'.defers = ds∧match x with
  | .nor=>e = .normal∧Cfg P gl G' s'.h s'.t a' w'
  | .exit id=>e = .exit id∧Cfg P gl G' s'.h s'.t a' w'
  | .ret=>e = .ret∧Cfg P gl G' s'.h s'.t a' w'
  | .pan pv=>∃v,e = .panic [{ v,recovered:=false}]∧Cfg P gl G' s'.h s'.t a' w'∧G'.V pv v
theorem Fin.of_ext {n m:Nat} {ds:List Deferred} {x:Ex} {s':St} {e:Exit} {a':Act} (hnm:n ≤ m) (he:Ext n G w G' w') {w'':World} (hf:Fin P gl m G' w' ds x s' e a' w''):Fin P gl n G w ds x s' e a' w'':=
 let ⟨G'',h1,h2⟩:=hf
 ⟨G'',he.trans hnm h1,h2⟩
theorem wanted_rel {ops:Array Oper} {o:Oper} {ao:AOper} (ht:TRel G w t a.tmps) (hcomp:compOper P gl ops o = some ao) {b:Bool} (hw:wanted t ao.guard = some b) :
  compOp P gl o = some ao.op∧ao.dst = o.dst∧Region.wanted o (yielded ops a.tmps) = b:=by
 simp only [compOper] at hcomp
 obtain ⟨op,hop,hcomp⟩:=bindO hcomp
 cases hg:o.guard with
 | none=>
  simp only [hg] at hcomp
  cases hcomp
  simp only [wanted,Option.some.injEq] at hw
  exact ⟨hop,rfl,by simp [Region.wanted,hg,hw]⟩
 | some jb=>
  obtain ⟨j,want⟩:=jb
  simp only [hg] at hcomp
  obtain ⟨d,hd,hcomp⟩:=bindO hcomp
  cases hcomp
  refine ⟨hop,rfl,?_⟩
  simp only [wanted] at hw
  have hv:=ht.get d
  simp only [Region.wanted,hg,yielded,hd,Option.bind_some]
  have hlen:=ht.length
  split at hw
  ·rename_i c hc
   rw [hc] at hv
   simp only [Ghost.V,VRel] at hv
   cases hw
   have hdl:d < a.tmps.size:=by
    rcases Nat.lt_or_ge d a.tmps.size with h | h
    ·exact h
    ·rw [Array.getD_eq_getD_getElem?,Array.getElem?_eq_none h] at hv;simp [undef] at hv
   rw [Array.getD_eq_getD_getElem?,Array.getElem?_eq_getElem hdl,Option.getD_some] at hv
   rw [Array.getElem?_eq_getElem hdl,hv]
   rfl
  ·rename_i hc
   rw [hc] at hv
   simp only [Ghost.V,VRel,VRelL] at hv
   obtain ⟨x,hv,_⟩:=hv
   cases hw
   rw [Array.getD_eq_getD_getElem?] at hv
   cases hx:a.tmps[d]? with
   | none=>rfl
   | some y=>rw [hx] at hv;simp at hv;subst hv;rfl
  ·cases hw
def Lays (P:Program) (gl:Nat→Option (List AVal)) (ops:Array Oper):List Nat→List AOper→Prop
 | [],[]=>True
 | i :: l,ao :: os=>(∃o,ops[i]? = some o∧compOper P gl ops o = some ao)∧Lays P gl ops l os
 | _,_=>False
theorem unwanted_put (hc:Cfg P gl G h t a w) (dst:Option Nat):Cfg P gl G h (AE.put dst (.tup []) t) (a.put dst undef) w:=
 hc.put dst (by simp [Ghost.V,VRel,VRelL,undef]) rfl
theorem ops_sound {call:AE.Call} (hcall:CallOK P gl call) (hk:CallKeeps call) {ops:Array Oper} {base:Nat} {ro:Option Nat} {m:Nat} {x:Ex} {s':St} :
  ∀(l:List Nat) (os:List AOper),Lays P gl ops l os→∀(G:Ghost) (w:World) (h:List ABox) (t:List AVal) (e:Bool) (a:Act) (p:Prov),Cfg P gl G h t a w→ProvOK G w t a p→base ≤ h.length→
   runOps base call p os ⟨t,h,e⟩ = some (x,s')→∀(Q:Exit→Act→World→Prop),(∀ex a' w',Fin P gl h.length G w a.defers x s' ex a' w'→Q ex a' w')→wpOpsIn (FR ro) m P ops Q l a w:=by
 intro l
 induction l with
 | nil=>
  intro os hl G w h t e a p hc hp hb hrun Q hQ
  cases os with
  | cons _ _=>exact hl.elim
  | nil=>
   simp only [runOps] at hrun
   cases hrun
   exact hQ _ _ _ ⟨G,Ext.refl _ G w,rfl,rfl,hc⟩
 | cons i l ih=>
  intro os hl G w h t e a p hc hp hb hrun Q hQ
  cases os with
  | nil=>exact hl.elim
  | cons ao os=>
   obtain ⟨⟨o,ho,hco⟩,hl⟩:=hl
   simp only [wpOpsIn,ho]
   simp only [runOps] at hrun
   split at hrun
   ·rename_i hw
    obtain ⟨hcomp,hdst,hwant⟩:=wanted_rel hc.tr hco hw
    rw [if_pos hwant]
    simp only [hdst] at hrun
    cases hop:runOp base call p o.dst ao.op ⟨t,h,e⟩ with
    | none=>rw [hop] at hrun;cases hrun
    | some r=>
     obtain ⟨x1,s1⟩:=r
     have hkeep:h.length ≤ s1.h.length:=(runOp_keeps (base:=base) hk hb hop).1
     refine op_sound hcall hk hc hp hcomp hop (fun hx u w' G' he hc' hst hmv hld=>?_) (fun pv hx v w' G' he hr' hv=>?_)
     ·subst hx
      rw [hop] at hrun
      simp only at hrun
      have hnext:ProvOK G' w' s1.t (a.put o.dst u) (provNext p ao):=by
       have hq:ao.op.effs = false→ao.op.acts = false:=by cases ao.op <;> simp [AOp.effs,AOp.acts]
       rw [←hdst]
       by_cases hac:ao.op.effs = false
       ·obtain ⟨_,v,hv,_⟩:=runOp_quiet hac hop
        exact hp.next (v:=v) (fun _=>by rw [hdst];exact hv) he.gk (fun h=>hst (hq h)) hmv hld
       ·exact hp.next (v:=.undef) (fun h=>absurd h hac) he.gk (fun h=>absurd h hac) hmv hld
      refine ih os hl G' w' s1.h s1.t s1.e (a.put o.dst u) (provNext p ao) hc' hnext (Nat.le_trans hb hkeep) hrun Q fun ex a'' w'' hf=>hQ _ _ _ ?_
      rw [put_defers] at hf
      exact Fin.of_ext hkeep he hf
     ·subst hx
      rw [hop] at hrun
      simp only at hrun
      cases hrun
      exact hQ _ _ _ ⟨G',he,rfl,v,rfl,hr',hv⟩
   ·rename_i hw
    obtain ⟨hcomp,hdst,hwant⟩:=wanted_rel hc.tr hco hw
    rw [if_neg (by rw [hwant];simp)]
    refine ⟨fun _ _=>trivial,?_⟩
    simp only [hdst] at hrun
    have hnext:ProvOK G w (AE.put o.dst (.tup []) t) (a.put o.dst undef) (provNext p { ao with op:=.pick (.c .undef) (.c .undef) (.c .undef)}):=by
     rw [←hdst]
     exact hp.next (o:={ ao with op:=.pick (.c .undef) (.c .undef) (.c .undef)}) (v:=.tup []) (fun _=>rfl) (fun _ _ h=>h) (fun _ _ _=>rfl) (fun _ h=>by cases h) (fun _ _ _ h=>by cases h)
    refine ih os hl G w h _ e _ _ (unwanted_put hc o.dst) (by simpa only [hdst] using hnext) hb (by simpa only [hdst] using hrun) Q fun ex a'' w'' hf=>hQ _ _ _ ?_
    rwa [put_defers] at hf
   ·cases hrun
end
end Go.AE
namespace Go.AE
mutual
theorem beq_eq:∀(a b:AVal),AVal.beq a b = true→a = b
 | .undef,b,h=>by cases b <;> simp_all [AVal.beq]
 | .bool _,b,h=>by cases b <;> simp_all [AVal.beq]
 | .int _ _,b,h=>by cases b <;> simp_all [AVal.beq]
 | .str _,b,h=>by cases b <;> simp_all [AVal.beq]
 | .nilptr,b,h=>by cases b <;> simp_all [AVal.beq]
 | .ptr _ _,b,h=>by cases b <;> simp_all [AVal.beq]
 | .iptr x o,b,h=>by
  cases b <;> simp only [AVal.beq,Bool.and_eq_true,beq_iff_eq,Bool.false_eq_true] at h
  obtain ⟨h1,h2⟩:=h
  rw [h1,beqL_eq _ _ h2]
 | .lst x f,b,h=>by
  cases b <;> simp only [AVal.beq,Bool.and_eq_true,beq_iff_eq,Bool.false_eq_true] at h
  obtain ⟨h1,h2⟩:=h
  rw [h1,beqL_eq _ _ h2]
 | .nilfunc,b,h=>by cases b <;> simp_all [AVal.beq]
 | .fn f x y,b,h=>by
  cases b <;> simp only [AVal.beq,Bool.and_eq_true,beq_iff_eq,Bool.false_eq_true] at h
  obtain ⟨⟨h1,h2⟩,h3⟩:=h
  rw [h1,beqL_eq _ _ h2,beqL_eq _ _ h3]
 | .yld _,b,h=>by cases b <;> simp_all [AVal.beq]
 | .niliface,b,h=>by cases b <;> simp_all [AVal.beq]
 | .iface t x,b,h=>by
  cases b <;> simp only [AVal.beq,Bool.and_eq_true,beq_iff_eq,Bool.false_eq_true] at h
  obtain ⟨h1,h2⟩:=h
  rw [h1,beq_eq _ _ h2]
 | .agg x,b,h=>by
  cases b <;> simp only [AVal.beq,Bool.false_eq_true] at h
  rw [beqL_eq _ _ h]
 | .tup x,b,h=>by
  cases b <;> simp only [AVal.beq,Bool.false_eq_true] at h
  rw [beqL_eq _ _ h]
 | .sl _ _ _ _ _,b,h=>by
  cases b <;> simp only [AVal.beq,Bool.and_eq_true,beq_iff_eq,Bool.false_eq_true] at h
  obtain ⟨⟨⟨⟨rfl,rfl⟩,rfl⟩,rfl⟩,rfl⟩:=h
  rfl
 | .mp _,b,h=>by cases b <;> simp_all [AVal.beq]
 | .nilmap,b,h=>by cases b <;> simp_all [AVal.beq]
 | .nils,b,h=>by cases b <;> simp_all [AVal.beq]
 | .empt,b,h=>by cases b <;> simp_all [AVal.beq]
theorem beqL_eq:∀(as bs:List AVal),beqL as bs = true→as = bs
 | [],bs,h=>by cases bs <;> simp_all [beqL]
 | a :: as,bs,h=>by
  cases bs with
  | nil=>simp [beqL] at h
  | cons b bs=>
   simp only [beqL,Bool.and_eq_true] at h
   rw [beq_eq _ _ h.1,beqL_eq _ _ h.2]
end
theorem beqM_eq:∀{a b:List (Nat×AVal×AVal)},beqM a b = true→a = b
 | [],b,h=>by cases b <;> simp_all [beqM]
 | x :: xs,b,h=>by
  cases b with
  | nil=>simp [beqM] at h
  | cons y ys=>
   simp only [beqM,Bool.and_eq_true,beq_iff_eq] at h
   obtain ⟨⟨⟨h1,h2⟩,h3⟩,h4⟩:=h
   obtain ⟨x1,x2,x3⟩:=x
   obtain ⟨y1,y2,y3⟩:=y
   simp only at h1 h2 h3
   rw [h1,beq_eq _ _ h2,beq_eq _ _ h3,beqM_eq h4]
theorem ABox.beq_eq {a b:ABox} (h:a.beq b = true):a = b:=by
 cases a <;> cases b <;> simp only [ABox.beq,Bool.and_eq_true,beq_iff_eq,Bool.false_eq_true] at h
 ·rw [beqL_eq _ _ h]
 ·rw [h.1,beqM_eq h.2]
 ·obtain ⟨⟨⟨h1,rfl⟩,rfl⟩,rfl⟩:=h
  rw [AE.beq_eq _ _ h1]
 ·rw [Nat.eq_of_beq_eq_true h.1,Nat.eq_of_beq_eq_true h.2.1,h.2.2]
 ·rfl
theorem beqH_eq:∀{a b:List ABox},beqH a b = true→a = b
 | [],b,h=>by cases b <;> simp_all [beqH]
 | x :: xs,b,h=>by
  cases b with
  | nil=>simp [beqH] at h
  | cons y ys=>
   simp only [beqH,Bool.and_eq_true] at h
   rw [ABox.beq_eq h.1,beqH_eq h.2]
def Chk.Holds (h:List ABox):Chk→Prop
 | .ld a k v=>ldAt h a k = some v
 | .box id cs=>h[id]? = some (.cells cs)
 | .lk sh z ok m key v=>lkAt h sh z ok m key = some v
theorem Chk.holds_of_ok {h:List ABox} {c:Chk} (hc:c.ok h = true):c.Holds h:=by
 cases c with
 | ld a k v=>
  simp only [Chk.ok] at hc
  split at hc
  ·rename_i w hw
   simp only [Chk.Holds,hw,beq_eq _ _ hc]
  ·cases hc
 | box id cs=>
  simp only [Chk.ok] at hc
  split at hc
  ·rename_i ds hd
   simp only [Chk.Holds,hd,beqL_eq _ _ hc]
  ·cases hc
 | lk sh z ok m key v=>
  simp only [Chk.ok] at hc
  split at hc
  ·rename_i w hw
   simp only [Chk.Holds,hw,beq_eq _ _ hc]
  ·cases hc
theorem ldAt_append {h g:List ABox} {a:AVal} {k:Option Nat} {v:AVal} (hl:ldAt h a k = some v):ldAt (h ++ g) a k = some v:=by
 unfold ldAt at hl ⊢
 split at hl
 ·rename_i i o
  split at hl
  ·rename_i cs hcs
   rw [List.getElem?_append_left (List.getElem?_eq_some_iff.1 hcs).1,hcs]
   exact hl
  ·cases hl
 ·exact hl
 ·cases hl
theorem entsOf_append {h g:List ABox} {m:AVal} {es:List (Nat×AVal×AVal)} (he:entsOf h m = some es):entsOf (h ++ g) m = some es:=by
 unfold entsOf at he ⊢
 split at he
 ·exact he
 ·split at he
  ·rename_i hid
   simp only [List.getElem?_append_left (List.getElem?_eq_some_iff.1 hid).1,hid]
   exact he
  ·cases he
 ·cases he
theorem lkAt_append {h g:List ABox} {sh:Shape} {z:AVal} {ok:Bool} {m key v:AVal} (hl:lkAt h sh z ok m key = some v):lkAt (h ++ g) sh z ok m key = some v:=by
 unfold lkAt at hl ⊢
 split at hl
 ·rename_i es he
  rw [entsOf_append he]
  exact hl
 ·cases hl
theorem Chk.Holds.append {h g:List ABox} {c:Chk} (hc:c.Holds h):c.Holds (h ++ g):=by
 cases c with
 | ld a k v=>exact ldAt_append hc
 | box id cs=>
  simp only [Chk.Holds] at hc ⊢
  rw [List.getElem?_append_left (List.getElem?_eq_some_iff.1 hc).1,hc]
 | lk sh z ok m key v=>exact lkAt_append hc
section
variable {t t':List AVal}
def Same (t t':List AVal) (l:List Nat):Prop:=∀i ∈ l,(t.getD i .undef).dim = (t'.getD i .undef).dim
theorem Same.left {l m:List Nat} (h:Same t t' (l ++ m)):Same t t' l:=fun i hi=>h i (List.mem_append_left _ hi)
theorem Same.right {l m:List Nat} (h:Same t t' (l ++ m)):Same t t' m:=fun i hi=>h i (List.mem_append_right _ hi)
theorem Same.ev {x:AOpd} (h:Same t t' x.slot):ev t x = ev t' x:=by
 cases x with
 | c _=>rfl
 | t i=>exact h i (by simp [AOpd.slot])
theorem Same.evs:∀{xs:List AOpd},Same t t' (slotL xs)→xs.map (AE.ev t) = xs.map (AE.ev t')
 | [],_=>rfl
 | x :: xs,h=>by
  simp only [slotL] at h
  rw [List.map_cons,List.map_cons,h.left.ev,Same.evs h.right]
theorem Same.bound {x:Option AOpd} {d:Nat} (h:Same t t' (slotO x)):bound t x d = bound t' x d:=by
 cases x with
 | none=>rfl
 | some x=>simp only [AE.bound,Same.ev (x:=x) h]
theorem Same.parts3 {ps:List (Nat×Nat×AOpd)} (h:Same t t' (slotL (ps.map (·.2.2)))):(ps.map fun (o,s,x)=>(o,s,AE.ev t x)) = ps.map fun (o,s,x)=>(o,s,AE.ev t' x):=by
 induction ps with
 | nil=>rfl
 | cons p ps ih=>
  simp only [List.map_cons,slotL] at h
  simp only [List.map_cons]
  rw [ih h.right,Same.ev h.left]
theorem Same.parts2 {k:Nat} {ps:List (Nat×AOpd)} (h:Same t t' (slotL (ps.map (·.2)))):(ps.map fun (i,x)=>(i * k,k,AE.ev t x)) = ps.map fun (i,x)=>(i * k,k,AE.ev t' x):=by
 induction ps with
 | nil=>rfl
 | cons p ps ih=>
  simp only [List.map_cons,slotL] at h
  simp only [List.map_cons]
  rw [ih h.right,Same.ev h.left]
theorem Same.pureV {o:AOp} (h:Same t t' o.looks):pureV t o = pureV t' o:=by
 cases o <;> simp only [AOp.looks] at h <;> simp only [AE.pureV]
 case pick=>rw [h.left.left.ev,h.left.right.ev,h.right.ev]
 case build=>rw [h.parts3]
 case list=>rw [h.parts2]
 case mkF=>rw [h.left.evs,h.right.evs]
 case subS=>rw [h.left.left.ev,h.left.right.bound];simp only [h.right.bound]
 case subL=>rw [h.left.left.ev,h.left.right.bound];simp only [h.right.bound]
 case len b x=>cases b <;> simp only [h.ev]
 all_goals first
  | rfl
  | rw [h.ev]
  | rw [h.left.ev,h.right.ev]
theorem Same.wanted {j:Nat} {b:Bool} (h:Same t t' [j]):wanted t (some (j,b)) = wanted t' (some (j,b)):=by
 have h:=h j (by simp)
 have key:∀v:AVal,(match v with | .bool c=>some (c == b) | .tup []=>some false | _=>none) = (match v.dim with | .bool c=>some (c == b) | .tup []=>some false | _=>none):=by
  intro v
  cases v <;> try rfl
  rename_i xs f
  cases f <;> rfl
 simp only [AE.wanted]
 exact (key (t.getD j .undef)).trans (by rw [h];exact (key _).symm)
theorem AOper.want_looks {o:AOper} (h:Same t t' o.looks):AE.wanted t o.guard = AE.wanted t' o.guard∧Same t t' o.op.looks:=by
 unfold AOper.looks at h
 split at h
 ·rename_i j b hg
  rw [hg]
  exact ⟨Same.wanted (fun i hi=>h i (by simp at hi;simp [hi])),fun i hi=>h i (List.mem_cons_of_mem _ hi)⟩
 ·rename_i hg
  rw [hg]
  exact ⟨rfl,h⟩
end
section
variable {ms:List Nat} {t:List AVal}
theorem mask_get (i:Nat):(mask ms t)[i]? = (t[i]?).map fun x=>if ms.contains i then AVal.undef else x:=by simp [mask]
theorem mask_length:(mask ms t).length = t.length:=by simp [mask]
theorem mask_nil:mask [] t = t:=by
 apply List.ext_getElem?
 intro i
 rw [mask_get]
 simp
theorem mask_getD {i:Nat} (hi:i ∉ ms):(mask ms t).getD i .undef = t.getD i .undef:=by
 rw [List.getD_eq_getElem?_getD,List.getD_eq_getElem?_getD,mask_get]
 simp [hi]
theorem mask_set {i:Nat} {v:AVal} (hi:i ∉ ms):(mask ms t).set i v = mask ms (t.set i v):=by
 have hc:ms.contains i = false:=by simpa using hi
 apply List.ext_getElem?
 intro j
 rw [mask_get,List.getElem?_set,List.getElem?_set,mask_get,mask_length]
 by_cases e:i = j
 ·subst e
  by_cases hl:i < t.length <;> simp [hl,hi]
 ·simp [e]
theorem raw_mask {x:AOpd} (h:∀i ∈ x.slot,i ∉ ms):raw (mask ms t) x = raw t x:=by
 cases x with
 | c _=>rfl
 | t i=>exact mask_getD (h i (by simp [AOpd.slot]))
theorem ev_mask {x:AOpd} (h:∀i ∈ x.slot,i ∉ ms):ev (mask ms t) x = ev t x:=by simp only [ev,raw_mask h]
theorem put_mask {dst:Option Nat} {v:AVal} (h:∀d,dst = some d→d ∉ ms):AE.put dst v (mask ms t) = mask ms (AE.put dst v t):=by
 cases dst with
 | none=>rfl
 | some d=>exact mask_set (h d rfl)
theorem drained_mask {x:AOpd} (h:∀i ∈ x.slot,i ∉ ms):drained (mask ms t) x = mask ms (drained t x):=by
 cases x with
 | c _=>rfl
 | t i=>
  have hi:=h i (by simp [AOpd.slot])
  simp only [drained,mask_getD hi]
  split
  ·exact mask_set hi
  ·rfl
theorem same_mask {l:List Nat} (h:∀i ∈ l,i ∉ ms):Same (mask ms t) t l:=fun i hi=>by rw [mask_getD (h i hi)]
theorem taken_mask {k:Nat} {x:AOpd} {h:List ABox} {e:Bool} (hx:∀i ∈ x.slot,i ∉ ms):taken k [] x ⟨mask ms t,h,e⟩ = (taken k [] x ⟨t,h,e⟩).map fun r=>(r.1,{ r.2 with t:=mask ms r.2.t}):=by
 cases x with
 | c _=>rfl
 | t i=>
  have hi:=hx i (by simp [AOpd.slot])
  simp only [taken,mask_getD hi]
  split
  ·split
   ·simp only [Option.map_some,mask_set hi]
   ·rfl
  ·rfl
theorem runOp_mask {base:Nat} {call:AE.Call} {dst:Option Nat} {o:AOp} {h:List ABox} {e:Bool} (hac:o.effs = true) (hl:∀i ∈ o.looks,i ∉ ms) (hd:∀d,dst = some d→d ∉ ms) :
  runOp base call [] dst o ⟨mask ms t,h,e⟩ = (runOp base call [] dst o ⟨t,h,e⟩).map fun r=>(r.1,{ r.2 with t:=mask ms r.2.t}):=by
 cases o <;> simp only [AOp.effs,Bool.false_eq_true] at hac <;> simp only [AOp.looks] at hl <;> simp only [runOp]
 case asg x=>
  simp only [Option.map_some,raw_mask hl,drained_mask hl,put_mask hd]
 case st k a x=>
  have h1:∀i ∈ a.slot,i ∉ ms:=fun i hi=>hl i (List.mem_append_left _ hi)
  have h2:∀i ∈ x.slot,i ∉ ms:=fun i hi=>hl i (List.mem_append_right _ hi)
  rw [ev_mask h1,raw_mask h2,drained_mask h2,put_mask hd]
  split
  ·split
   ·cases k <;> simp only <;> split <;> rfl
   ·rfl
  ·rfl
 case call f as=>
  have h1:∀i ∈ f.slot,i ∉ ms:=fun i hi=>hl i (List.mem_append_left _ hi)
  have h2:∀i ∈ slotL as,i ∉ ms:=fun i hi=>hl i (List.mem_append_right _ hi)
  rw [ev_mask h1,(same_mask h2).evs]
  split <;> simp only [Option.map_some,put_mask hd,Option.map_none]
 case app k x y=>
  have h1:∀i ∈ x.slot,i ∉ ms:=fun i hi=>hl i (List.mem_append_left _ hi)
  have h2:∀i ∈ y.slot,i ∉ ms:=fun i hi=>hl i (List.mem_append_right _ hi)
  rw [ev_mask h2,raw_mask h1]
  split
  ·split
   ·simp only [Option.map_some,put_mask hd]
   ·split
    ·split
     ·simp only [Option.map_some,put_mask hd]
     ·rw [taken_mask h1]
      cases ht:taken k [] x ⟨t,h,e⟩ with
      | none=>rfl
      | some r=>
       obtain ⟨xs,s⟩:=r
       simp only [Option.map_some]
       split
       ·simp only [Option.map_some,put_mask hd]
       ·rfl
    ·rfl
  ·rfl
 case pan x=>
  rw [ev_mask hl]
  split <;> rfl
 case hx k as=>
  rw [(same_mask hl).evs]
  cases hop base k (as.map (ev t)) h with
  | none=>rfl
  | some r=>simp only [Option.map_some,put_mask hd]
theorem set_no_getD {i k:Nat} {xs:List AVal} {j:Nat} (h:t.getD i .undef = .lst xs (.own j)):((t.set i (.lst xs .no)).getD k .undef).dim = (t.getD k .undef).dim:=by
 by_cases e:i = k
 ·subst e
  have hi:i < t.length:=by
   rcases Nat.lt_or_ge i t.length with h' | h'
   ·exact h'
   ·rw [List.getD_eq_getElem?_getD,List.getElem?_eq_none h'] at h;cases h
  rw [h,List.getD_eq_getElem?_getD,List.getElem?_set_self hi]
  rfl
 ·rw [List.getD_eq_getElem?_getD,List.getElem?_set_ne e,←List.getD_eq_getElem?_getD]
theorem drained_getD {x:AOpd} {k:Nat}:((drained t x).getD k .undef).dim = (t.getD k .undef).dim:=by
 cases x with
 | c _=>rfl
 | t i=>
  simp only [drained]
  split
  ·rename_i xs j hx
   exact set_no_getD hx
  ·rfl
theorem drained_get_ne {x:AOpd} {k:Nat} (hk:k ∉ x.slot):(drained t x)[k]? = t[k]?:=by
 cases x with
 | c _=>rfl
 | t i=>
  have:i ≠ k:=fun e=>hk (by simp [AOpd.slot,e])
  simp only [drained]
  split
  ·rw [List.getElem?_set_ne this]
  ·rfl
theorem drained_length {x:AOpd}:(drained t x).length = t.length:=by
 cases x with
 | c _=>rfl
 | t i=>simp only [drained];split <;> simp
theorem put_get_ne {dst:Option Nat} {v:AVal} {k:Nat} (h:dst ≠ some k):(AE.put dst v t)[k]? = t[k]?:=by
 cases dst with
 | none=>rfl
 | some d=>
  have:d ≠ k:=fun e=>h (by rw [e])
  simp [AE.put,List.getElem?_set_ne this]
theorem put_length {dst:Option Nat} {v:AVal}:(AE.put dst v t).length = t.length:=by cases dst <;> simp [AE.put]
theorem taken_slots {k:Nat} {x:AOpd} {s s':St} {xs:List AVal} (h:taken k [] x s = some (xs,s')):(∃i,x = .t i∧∃j,s.t.getD i .undef = .lst xs (.own j)∧s'.t = s.t.set i (.lst xs .no))∧s'.h = s.h∧s'.e = s.e:=by
 cases x with
 | c _=>cases h
 | t i=>
  simp only [taken] at h
  split at h
  ·rename_i ys j hy
   split at h
   ·cases h;exact ⟨⟨i,rfl,j,hy,rfl⟩,rfl,rfl⟩
   ·cases h
  ·cases h
theorem getD_of_get {t t':List AVal} {k:Nat} (h:t'[k]? = t[k]?):t'.getD k .undef = t.getD k .undef:=by
 rw [List.getD_eq_getElem?_getD,List.getD_eq_getElem?_getD,h]
theorem runOp_slots {base:Nat} {call:AE.Call} {dst:Option Nat} {o:AOp} {s s':St} (h:runOp base call [] dst o s = some (.nor,s')) :
  s'.t.length = s.t.length∧∀k,dst ≠ some k→(s'.t.getD k .undef).dim = (s.t.getD k .undef).dim∧(k ∉ o.looks→s'.t[k]? = s.t[k]?):=by
 cases hac:o.effs with
 | false=>
  obtain ⟨_,v,hv,_⟩:=runOp_quiet hac h
  rw [hv]
  exact ⟨put_length,fun k hk=>⟨by rw [getD_of_get (put_get_ne hk)],fun _=>put_get_ne hk⟩⟩
 | true=>
  cases o <;> simp only [AOp.effs,Bool.false_eq_true] at hac <;> simp only [runOp] at h
  case asg x=>
   cases h
   refine ⟨by rw [put_length,drained_length],fun k hk=>⟨by rw [getD_of_get (put_get_ne hk),drained_getD],fun hl=>?_⟩⟩
   rw [put_get_ne hk,drained_get_ne hl]
  case st k0 a x=>
   split at h
   ·split at h
    ·have key:s'.t = AE.put dst .undef (drained s.t x):=by
      cases k0 <;> simp only at h <;> split at h <;> first | (cases h;done) | (cases h;rfl)
     rw [key]
     refine ⟨by rw [put_length,drained_length],fun k hk=>⟨by rw [getD_of_get (put_get_ne hk),drained_getD],fun hl=>?_⟩⟩
     rw [put_get_ne hk,drained_get_ne (fun hx=>hl (by simp only [AOp.looks];exact List.mem_append_right _ hx))]
    ·cases h
   ·cases h
  case call f as=>
   split at h
   ·cases h
    exact ⟨put_length,fun k hk=>⟨by rw [getD_of_get (put_get_ne hk)],fun _=>put_get_ne hk⟩⟩
   ·cases h
   ·cases h
  case app k0 x y=>
   split at h
   ·split at h
    ·cases h
     exact ⟨put_length,fun k hk=>⟨by rw [getD_of_get (put_get_ne hk)],fun _=>put_get_ne hk⟩⟩
    ·split at h
     ·split at h
      ·cases h
       exact ⟨put_length,fun k hk=>⟨by rw [getD_of_get (put_get_ne hk)],fun _=>put_get_ne hk⟩⟩
      ·split at h
       ·rename_i xs s1 hs1
        split at h
        ·cases h
         obtain ⟨⟨i,rfl,j,h1,h2⟩,_⟩:=taken_slots hs1
         refine ⟨by simp [put_length,h2],fun k hk=>⟨by rw [getD_of_get (put_get_ne hk)];simp only [h2];exact set_no_getD h1,fun hl=>?_⟩⟩
         rw [put_get_ne hk]
         simp only [h2]
         rw [List.getElem?_set_ne]
         rintro rfl
         exact hl (by simp [AOp.looks,AOpd.slot])
        ·cases h
       ·cases h
     ·cases h
   ·cases h
  case pan x=>
   split at h
   ·cases h
   ·cases h
  case hx k0 as=>
   obtain ⟨r,_,he⟩:=mapO h
   cases he
   exact ⟨put_length,fun k hk=>⟨by rw [getD_of_get (put_get_ne hk)],fun _=>put_get_ne hk⟩⟩
theorem runDraw_go {base:Nat} {call:AE.Call} {dsts:List Nat}:∀(c:List DOper) (pend:List (Nat×Chk)) (s:St) (t:List DOper) (s':St),runDraw base call dsts (c ++ t) pend s = some (.nor,s')→∃pend0 s0,∀t',runDraw base call dsts (c ++ t') pend s = runDraw base call dsts t' pend0 s0
 | [],pend,s,_,_,_=>⟨pend,s,fun _=>rfl⟩
 | d :: c,pend,s,t,s',h=>by
  simp only [List.cons_append,runDraw] at h
  split at h
  ·rename_i hw
   split at h
   ·rename_i s1 hop
    split at h
    ·rename_i he
     split at h
     ·rename_i hp
      obtain ⟨p0,s0,hgo⟩:=runDraw_go c _ _ t s' h
      exact ⟨p0,s0,fun t'=>by simp only [List.cons_append,runDraw,hw,hop,he,hp,if_true];exact hgo t'⟩
     ·cases h
    ·rename_i he
     cases hc:chkOf s d.o.op with
     | none=>
      simp only [hc] at h
      obtain ⟨p0,s0,hgo⟩:=runDraw_go c _ _ t s' h
      exact ⟨p0,s0,fun t'=>by simp only [List.cons_append,runDraw,hw,hop,he,hc];exact hgo t'⟩
     | some k=>
      simp only [hc] at h
      obtain ⟨p0,s0,hgo⟩:=runDraw_go c _ _ t s' h
      exact ⟨p0,s0,fun t'=>by simp only [List.cons_append,runDraw,hw,hop,he,hc];exact hgo t'⟩
   ·split at h <;> cases h
   ·cases h
  ·rename_i hw
   obtain ⟨p0,s0,hgo⟩:=runDraw_go c _ _ t s' h
   exact ⟨p0,s0,fun t'=>by simp only [List.cons_append,runDraw,hw];exact hgo t'⟩
  ·cases h
theorem draw_one {base:Nat} {call:AE.Call} {dsts:List Nat} {d:DOper} {ds:List DOper} {pend:List (Nat×Chk)} {s s':St} {k:Option Nat} {p x:AOpd} (hg:d.o.guard = none) (hd:d.o.dst = none) (ho:d.o.op = .st k p x) (h:runDraw base call dsts (d :: ds) pend s = some (.nor,s')) :
  ∃s1,runOp base call [] none (.st k p x) s = some (.nor,s1)∧runDraw base call dsts ds (pend.filter fun c=>!d.cl.testBit c.1) s1 = some (.nor,s'):=by
 simp only [runDraw,hg,wanted,hd,ho,AOp.effs,if_true] at h
 split at h
 ·rename_i s1 hop
  split at h
  ·exact ⟨s1,hop,h⟩
  ·cases h
 ·cases h
 ·cases h
def laysV (k:Option Nat) (v:AVal):List AVal:=
 match k with
 | none=>[v]
 | some _=>v.dim.cells.map AVal.dim
theorem st_out {base:Nat} {call:AE.Call} {k:Option Nat} {p x:AOpd} {s s1:St} (h:runOp base call [] none (.st k p x) s = some (.nor,s1)) :
  ∃id o cs vs,ev s.t p = .ptr id o∧s.h[id]? = some (.cells cs)∧vs = laysV k (raw s.t x)∧s1 = ⟨drained s.t x,s.h.set id (.cells (splice cs o vs)),s.e || !(Nat.ble base id || lowerL (id + 1) vs)⟩:=by
 simp only [runOp] at h
 split at h
 ·rename_i id o hp
  split at h
  ·rename_i cs hcs
   cases k with
   | none=>
    simp only at h
    split at h
    ·cases h;exact ⟨id,o,cs,_,hp,hcs,rfl,rfl⟩
    ·cases h
   | some kk=>
    simp only at h
    split at h
    ·cases h;exact ⟨id,o,cs,_,hp,hcs,rfl,rfl⟩
    ·cases h
  ·cases h
 ·cases h
theorem ev_drained {x p:AOpd}:ev (drained t x) p = ev t p:=by
 cases p with
 | c _=>rfl
 | t i=>exact drained_getD
theorem raw_drained {x y:AOpd} (h:x.slot.all (fun i=>!y.slot.contains i) = true):raw (drained t x) y = raw t y:=by
 cases y with
 | c _=>rfl
 | t i=>
  have:i ∉ x.slot:=fun hi=>by
   have:=List.all_eq_true.1 h i hi
   simp [AOpd.slot] at this
  exact getD_of_get (drained_get_ne this)
theorem drained_comm {x y:AOpd} (h:x.slot.all (fun i=>!y.slot.contains i) = true):drained (drained t x) y = drained (drained t y) x:=by
 cases x with
 | c _=>rfl
 | t i=>
  cases y with
  | c _=>rfl
  | t j=>
   have hij:i ≠ j:=by simpa [AOpd.slot] using h
   have e1:(drained t (.t i)).getD j .undef = t.getD j .undef:=getD_of_get (drained_get_ne (by simp [AOpd.slot,Ne.symm hij]))
   have e2:(drained t (.t j)).getD i .undef = t.getD i .undef:=getD_of_get (drained_get_ne (by simp [AOpd.slot,hij]))
   have d1:∀u:List AVal,∀m,drained u (.t m) = match u.getD m .undef with | .lst xs (.own _)=>u.set m (.lst xs .no) | _=>u:=fun _ _=>rfl
   rw [d1 (drained t (.t i)) j,e1,d1 (drained t (.t j)) i,e2,d1 t i,d1 t j]
   split <;> split <;> first | rfl | exact List.set_comm _ _ hij
theorem both_nor {base:Nat} {call:AE.Call} {dsts:List Nat} {c:List DOper} {a b:DOper} {r:List DOper} {s:St} {x:Ex} {s':St} (h:both a b (runDraw base call dsts (c ++ [a,b]) [] s) (runDraw base call dsts (c ++ a :: b :: r) [] s) (runDraw base call dsts (c ++ b :: a :: r) [] s) = some (x,s')) :
  x = .nor∧runDraw base call dsts (c ++ a :: b :: r) [] s = some (.nor,s')∧runDraw base call dsts (c ++ b :: a :: r) [] s = some (.nor,s'):=by
 obtain ⟨rfl,h1,⟨s2,h2⟩,sx,hx,hap⟩:=both_some h
 refine ⟨rfl,h1,?_⟩
 obtain ⟨pend0,s0,hgo⟩:=runDraw_go c [] s _ _ h1
 rw [hgo] at h1 h2 hx ⊢
 unfold apart at hap
 simp only [Bool.and_eq_true,Option.isNone_iff_eq_none] at hap
 obtain ⟨⟨⟨⟨g1,g2⟩,d1⟩,d2⟩,hap⟩:=hap
 split at hap
 ·rename_i ka p x kb q y oa ob
  simp only [Bool.and_eq_true] at hap
  obtain ⟨hs,hap⟩:=hap
  obtain ⟨sa,ra,h1⟩:=draw_one g1 d1 oa h1
  obtain ⟨sb,rb,h1⟩:=draw_one g2 d2 ob h1
  obtain ⟨su,ru,hx⟩:=draw_one g1 d1 oa hx
  obtain ⟨sv,rv,hx⟩:=draw_one g2 d2 ob hx
  simp only [runDraw] at hx
  rw [ra] at ru
  cases ru
  rw [rb] at rv
  cases rv
  cases hx
  rw [h2]
  obtain ⟨sc,rc,h2⟩:=draw_one g2 d2 ob h2
  obtain ⟨sd,rd,h2⟩:=draw_one g1 d1 oa h2
  obtain ⟨i1,o1,cs1,vs1,e1,e2,e3,rfl⟩:=st_out ra
  obtain ⟨i2,o2,cs2,vs2,f1,f2,f3,rfl⟩:=st_out rb
  obtain ⟨i3,o3,cs3,vs3,g1,g2,g3,rfl⟩:=st_out rc
  obtain ⟨i4,o4,cs4,vs4,k1,k2,k3,rfl⟩:=st_out rd
  have hs':y.slot.all (fun i=>!x.slot.contains i) = true:=by
   rw [List.all_eq_true] at hs ⊢
   intro i hi
   simp only [Bool.not_eq_true',List.contains_eq_mem,decide_eq_false_iff_not]
   intro hi'
   have:=hs i hi'
   simp [hi] at this
  simp only [ev_drained] at hap f1 k1
  rw [g1] at f1
  rw [e1] at k1
  cases f1
  cases k1
  rw [e1,g1] at hap
  have hne:i1 ≠ i2:=by
   intro e
   subst e
   simp at hap
  simp only at f2 k2 f3 k3 g2 g3
  rw [List.getElem?_set_ne hne,g2] at f2
  rw [List.getElem?_set_ne (Ne.symm hne),e2] at k2
  cases f2
  cases k2
  rw [raw_drained hs] at f3
  rw [raw_drained hs'] at k3
  rw [←g3] at f3
  rw [←e3] at k3
  subst f3
  subst k3
  have sw:∀u v w:Bool,(u || v || w) = (u || w || v):=by decide
  simp only at h1 h2
  have hf:(pend0.filter fun c=>!b.cl.testBit c.1).filter (fun c=>!a.cl.testBit c.1) = (pend0.filter fun c=>!a.cl.testBit c.1).filter (fun c=>!b.cl.testBit c.1):=by
   rw [List.filter_filter,List.filter_filter]
   congr 1
   funext c
   exact Bool.and_comm _ _
  rw [drained_comm hs',List.set_comm _ _ (Ne.symm hne),sw,hf,h1] at h2
  exact h2.symm
 ·cases hap
end
end Go.AE
namespace Go.AE
section
variable {P:Program} {gl:Nat→Option (List AVal)} {G G':Ghost} {w w':World} {h:List ABox} {t t':List AVal} {a:Act} {n:Nat}
theorem TRel.poison {ts:Array Value} (hr:TRel G w t ts) (hl:t'.length = t.length) (h:∀(i:Nat) (y:AVal),t'[i]? = some y→t[i]? = some y∨y = .undef):TRel G w t' ts:=by
 refine ⟨VRelL.of_get (by rw [hl];exact hr.rel.length) fun i x v hx hv=>?_,fun i xs k v hx hv=>?_⟩
 ·rcases h i x hx with h1 | rfl
  ·obtain ⟨u,hu,hr'⟩:=hr.rel.get h1
   rw [hv] at hu
   cases hu
   exact hr'
  ·obtain ⟨y,_,hr'⟩:=hr.rel.get' hv
   exact undef_rel hr'
 ·rcases h i _ hx with h1 | h1
  ·exact hr.own i xs k v h1 hv
  ·cases h1
theorem Rel.grow (hr:Rel P gl G h w) (g:List ABox):Rel P gl G (h ++ g) w where
 γlt i b hb:=⟨Nat.lt_of_lt_of_le (hr.γlt i b hb).1 (by simp),(hr.γlt i b hb).2⟩
 inj i j b hi hj:=by
  rw [List.getElem?_append_left (hr.γlt i b hi).1,List.getElem?_append_left (hr.γlt j b hj).1]
  exact hr.inj i j b hi hj
 box i b bx hb hx:=hr.box i b bx hb (by rwa [List.getElem?_append_left (hr.γlt i b hb).1] at hx)
 imm:=hr.imm
 immγ b o v i hv hm hg:=by rw [List.getElem?_append_left (hr.γlt i b hg).1];exact hr.immγ b o v i hv hm hg
 immK:=hr.immK
 ow:=hr.ow
 glob:=hr.glob
def msk (U:List (DOper×Option Nat)):List Nat:=U.filterMap (·.1.o.dst)
theorem mem_msk {U:List (DOper×Option Nat)} {k:Nat}:k ∈ msk U↔∃x ∈ U,x.1.o.dst = some k:=by simp [msk,List.mem_filterMap]
def NewOf (t:List AVal) (o:AOp) (cs:List AVal):Prop:=
 (∃z,o = .new z∧cs = z.map AVal.dim)∨∃k y,o = .box k y∧cs = (ev t y).cells.map AVal.dim∧cs.all AVal.storable = true
structure Lag (G:Ghost) (n:Nat) (pend:List (Nat×Chk)) (s:St) (x:DOper×Option Nat):Prop where
 quiet:x.1.o.op.effs = false
 does:(wanted s.t x.1.o.guard = some false∧x.2 = none∧∀k y,x.1.o.dst = some k→s.t[k]? = some y→y = .tup [])∨
  (wanted s.t x.1.o.guard = some true∧∃v,(∀k y,x.1.o.dst = some k→s.t[k]? = some y→y = v)∧
   ((x.2 = none∧pureV s.t x.1.o.op = some v)∨
    (x.2 = none∧∃k q,x.1.o.op = .ld k q∧(x.1.ix,Chk.ld (ev s.t q) k v) ∈ pend∧ldAt s.h (ev s.t q) k = some v)∨
    (x.2 = none∧∃sh z ok m key,x.1.o.op = .lk sh z ok m key∧(x.1.ix,Chk.lk sh z ok (ev s.t m) (ev s.t key) v) ∈ pend∧lkAt s.h sh z ok (ev s.t m) (ev s.t key) = some v)∨
    (∃id cs,x.2 = some id∧v = .ptr id 0∧NewOf s.t x.1.o.op cs∧(x.1.ix,Chk.box id cs) ∈ pend∧s.h[id]? = some (.cells cs))))
 young:∀id,x.2 = some id→n ≤ id∧id < s.h.length∧G.γ id = none
theorem Lag.keep {pend pend':List (Nat×Chk)} {s s':St} {x:DOper×Option Nat} (hx:Lag G n pend s x) (h1:Same s.t s'.t x.1.o.looks) (h2:∀k,x.1.o.dst = some k→s'.t[k]? = s.t[k]?)
  (h3:∀c,(x.1.ix,c) ∈ pend→c.Holds s.h→(x.1.ix,c) ∈ pend'∧c.Holds s'.h) (h4:∀id,x.2 = some id→id < s.h.length→G.γ id = none→id < s'.h.length∧G'.γ id = none):Lag G' n pend' s' x:=by
 obtain ⟨hg,hl⟩:=AOper.want_looks h1
 refine ⟨hx.quiet,?_,fun id hid=>?_⟩
 ·rcases hx.does with ⟨d1,d2,d3⟩ | ⟨d1,v,d2,d3⟩
  ·exact .inl ⟨by rw [←hg];exact d1,d2,fun k y hk hy=>d3 k y hk (by rw [←h2 k hk];exact hy)⟩
  ·refine .inr ⟨by rw [←hg];exact d1,v,fun k y hk hy=>d2 k y hk (by rw [←h2 k hk];exact hy),?_⟩
   rcases d3 with ⟨e1,e2⟩ | ⟨e0,k,q,e1,e2,e3⟩ | ⟨e0,sh,z,ok,m,key,e1,e2,e3⟩ | ⟨id,cs,e1,e2,e3,e4,e5⟩
   ·exact .inl ⟨e1,by rw [←hl.pureV];exact e2⟩
   ·have hq:ev s.t q = ev s'.t q:=by rw [e1] at hl;exact Same.ev hl
    obtain ⟨g1,g2⟩:=h3 _ e2 e3
    rw [hq] at g1 g2
    exact .inr (.inl ⟨e0,k,q,e1,g1,g2⟩)
   ·have hm:ev s.t m = ev s'.t m:=by rw [e1] at hl;exact Same.ev hl.left
    have hk:ev s.t key = ev s'.t key:=by rw [e1] at hl;exact Same.ev hl.right
    obtain ⟨g1,g2⟩:=h3 _ e2 e3
    rw [hm,hk] at g1 g2
    exact .inr (.inr (.inl ⟨e0,sh,z,ok,m,key,e1,g1,g2⟩))
   ·obtain ⟨g1,g2⟩:=h3 _ e4 e5
    refine .inr (.inr (.inr ⟨id,cs,e1,e2,?_,g1,g2⟩))
    rcases e3 with e3 | ⟨k,y,f1,f2,f3⟩
    ·exact .inl e3
    ·have hq:ev s.t y = ev s'.t y:=by rw [f1] at hl;exact Same.ev hl
     exact .inr ⟨k,y,f1,by rw [←hq];exact f2,f3⟩
 ·obtain ⟨g1,g2,g3⟩:=hx.young id hid
  exact ⟨g1,h4 id hid g2 g3⟩
def Free (x y:DOper):Prop:=(∀d,y.o.dst = some d→d ∈ x.o.looks→x.cl.testBit y.ix = true)∧(∀d,y.o.dst = some d→x.o.dst ≠ some d)
theorem pairOK_free {x y:DOper} (h:pairOK x y = true) (hx:x.o.op.effs = false) (hy:y.o.op.effs = false):Free x y∧Free y x∧x.ix ≠ y.ix:=by
 simp only [pairOK,Bool.and_eq_true,bne_iff_ne,ne_eq,Bool.or_eq_true,hx,hy,Bool.not_false,Bool.true_and,Bool.false_and,Bool.false_eq_true,false_or] at h
 obtain ⟨⟨h1,h2⟩,h3⟩:=h
 refine ⟨⟨fun d hd hl=>?_,fun d hd he=>?_⟩,⟨fun d hd hl=>?_,fun d hd he=>?_⟩,h1⟩
 ·rw [hd] at h3;simp at h3;exact absurd hl h3.1
 ·rw [hd] at h3;simp at h3;exact absurd he h3.2
 ·rw [hd] at h2
  rcases h2 with h2 | h2
  ·exact h2
  ·simp at h2;exact absurd hl h2
 ·rw [he] at h3;simp at h3;exact absurd hd h3.2
theorem pairOK_eff {x y:DOper} (h:pairOK x y = true) (hn:y.cl.testBit x.ix = false):(∀d,x.o.dst = some d→d ∉ y.o.looks)∧(∀d,y.o.dst = some d→d ∉ x.o.looks∧x.o.dst ≠ some d):=by
 simp only [pairOK,Bool.and_eq_true,bne_iff_ne,ne_eq,Bool.or_eq_true,hn,Bool.false_eq_true,false_or,and_false,Bool.not_eq_true'] at h
 obtain ⟨⟨h1,h2,h2'⟩,h3⟩:=h
 refine ⟨fun d hd=>?_,fun d hd=>?_⟩
 ·rw [hd] at h2';simpa using h2'
 ·rw [hd] at h3;simpa using h3
theorem put_mask_out {U U':List (DOper×Option Nat)} {x:DOper×Option Nat} {v:AVal} (hU:∀y,y ∈ U'↔y ∈ U∧y.1.ix ≠ x.1.ix) (hx:x ∈ U) (huniq:∀y ∈ U,y.1.ix = x.1.ix→y = x)
  (hfree:∀y ∈ U,y.1.ix ≠ x.1.ix→Free y.1 x.1) (hv:∀k y,x.1.o.dst = some k→t[k]? = some y→y = v):AE.put x.1.o.dst v (mask (msk U) t) = mask (msk U') t:=by
 have hother:∀k,x.1.o.dst ≠ some k→((msk U).contains k = (msk U').contains k):=by
  intro k hk
  rw [Bool.eq_iff_iff]
  simp only [List.contains_iff_mem,mem_msk]
  constructor
  ·rintro ⟨y,hy,hd⟩
   refine ⟨y,(hU y).2 ⟨hy,fun e=>?_⟩,hd⟩
   rw [huniq y hy e] at hd
   exact hk hd
  ·rintro ⟨y,hy,hd⟩
   exact ⟨y,((hU y).1 hy).1,hd⟩
 apply List.ext_getElem?
 intro k
 by_cases hd:x.1.o.dst = some k
 ·rw [hd]
  simp only [AE.put]
  rw [List.getElem?_set,if_pos rfl,mask_length,mask_get]
  have hc:(msk U').contains k = false:=by
   rw [Bool.eq_false_iff]
   intro hc
   simp only [List.contains_iff_mem,mem_msk] at hc
   obtain ⟨y,hy,hyd⟩:=hc
   obtain ⟨h1,h2⟩:=(hU y).1 hy
   exact (hfree y h1 h2).2 k hd hyd
  rw [hc]
  by_cases hl:k < t.length
  ·rw [if_pos hl,List.getElem?_eq_getElem hl]
   simp only [Option.map_some,Bool.false_eq_true,if_false]
   rw [hv k _ hd (List.getElem?_eq_getElem hl)]
  ·rw [if_neg hl,List.getElem?_eq_none (Nat.le_of_not_lt hl)]
   rfl
 ·rw [put_get_ne hd,mask_get,mask_get,hother k hd]
theorem mask_in {U:List (DOper×Option Nat)} {x:DOper×Option Nat} {v:AVal} {i:Nat} {y:AVal} (hy:(mask (msk (x :: U)) (AE.put x.1.o.dst v t))[i]? = some y):(mask (msk U) t)[i]? = some y∨y = .undef:=by
 rw [mask_get] at hy ⊢
 by_cases hc:(msk (x :: U)).contains i = true
 ·rw [Option.map_eq_some_iff] at hy
  obtain ⟨z,_,hz⟩:=hy
  rw [if_pos hc] at hz
  exact .inr hz.symm
 ·have hd:x.1.o.dst ≠ some i:=fun e=>hc (by simp only [List.contains_iff_mem,mem_msk];exact ⟨x,List.mem_cons_self ..,e⟩)
  have hc':¬(msk U).contains i = true:=fun e=>hc (by
   simp only [List.contains_iff_mem,mem_msk] at e ⊢
   obtain ⟨z,h1,h2⟩:=e
   exact ⟨z,List.mem_cons_of_mem _ h1,h2⟩)
  rw [put_get_ne hd] at hy
  simp only [hc,hc',Bool.false_eq_true,if_false] at hy ⊢
  exact .inl hy
theorem late_box (hc:Cfg P gl G h t a w) {o:Oper} {ao:AOp} (hcomp:compOp P gl o = some ao) {cs:List AVal} (hnew:NewOf t ao cs) {id:Nat} (hid:h[id]? = some (.cells cs)) (hγ:G.γ id = none) (hn:n ≤ id) :
  ∃u w',(execOp a.eval o).run P w = .ok (.value u) w'∧Ext n G w (G.withBox id w.heap.size) w'∧Cfg P gl (G.withBox id w.heap.size) h (AE.put o.dst (.ptr id 0) t) (a.put o.dst u) w':=by
 have key:∀{cs0:List AVal} {c:Array Value} {e:TypeId},G.VL cs0 c.toList→cs = cs0.map AVal.dim→(execOp a.eval o).run P w = .ok (.value (.pointer (some ⟨w.heap.size,0,none⟩))) (w.alloc (.cells c e))→
   ∃u w',(execOp a.eval o).run P w = .ok (.value u) w'∧Ext n G w (G.withBox id w.heap.size) w'∧Cfg P gl (G.withBox id w.heap.size) h (AE.put o.dst (.ptr id 0) t) (a.put o.dst u) w':=by
  rintro cs0 c e hcs rfl h1
  have hext:Ext n G w (G.withBox id w.heap.size) (w.alloc (.cells c e)):=Ext.newBox hγ hn _
  have hrel:=hc.rel.newBox (o:=.cells c e) (bx:=.cells (cs0.map AVal.dim)) (h':=h) hγ (Nat.le_refl _) (List.getElem?_eq_some_iff.1 hid).1 (fun _ _ _ _=>rfl) hid
   ⟨c,e,alloc_heap_size w _,front_all (hext.VL hcs).dims,fun o xs k v ho _=>(no_own ho).elim⟩
  obtain ⟨m,hm⟩:=lowerL_ex t
  have htr:TRel (G.withBox id w.heap.size) (w.alloc (.cells c e)) t a.tmps:=
   hc.tr.keep hm hext.ik (fun i b _=>hext.gk i b) (fun _ _ h=>h) (fun b i hb=>alloc_heap_lt w _ (hc.rel.ow b _ hb).1) (fun _ _ _ _ h=>h)
  refine ⟨_,_,h1,hext,(Cfg.mk hrel htr).put o.dst ?_ rfl⟩
  simp only [Ghost.V,VRel,Ghost.withBox,if_true]
  exact ⟨_,rfl,rfl⟩
 rcases hnew with ⟨z,rfl,hz⟩ | ⟨k,y,rfl,hy,hs⟩
 ·obtain ⟨e,z',ho,hzz,rfl⟩:=(comp_was hcomp).2.2.2.2.2.1 z rfl
  obtain ⟨u,hu,hr⟩:=zeroOf_run hzz w
  refine key (hr _ _) hz (c:=u.cells) (e:=e) ?_
  simp only [execOp,ho]
  refine run_v ?_
  simp [Instr.alloc,hu,newVar,newRow]
 ·obtain ⟨e,x,ho,hx⟩:=(comp_was hcomp).2.2.2.2.2.2 k y rfl
  have hv:=ev_rel hc.rel hc.tr hx
  have hs':(ev t y).cells.all AVal.storable = true:=by
   rw [hy,List.all_map] at hs
   rw [List.all_eq_true] at hs ⊢
   intro z hz
   have:=hs z hz
   cases z <;> first | exact this | rfl
  refine key (cells_rel hv hs').1 hy (e:=e) ?_
  simp only [execOp,ho]
  refine run_v ?_
  simp [Instr.box,newVar,newRow]
theorem runOp_pure {base:Nat} {call:AE.Call} {p:Prov} {dst:Option Nat} {o:AOp} {s:St} {v:AVal} (h:pureV s.t o = some v):runOp base call p dst o s = some (.nor,{ s with t:=AE.put dst v s.t}):=by
 cases o <;> first
  | (simp only [runOp,h,Option.map_some];done)
  | (simp [pureV] at h;done)
theorem pure_chk {o:AOp} {s:St} {v:AVal} (h:pureV s.t o = some v):chkOf s o = none:=by
 cases o <;> first
  | rfl
  | (simp [pureV] at h;done)
theorem joinE_bit {cl:List Nat} {j:Nat}:∀{es:List Nat} {m:Nat},(es.foldl (fun m e=>m ||| 1 <<< e ||| cl.getD e 0) m).testBit j = true→m.testBit j = true∨j ∈ es∨∃e ∈ es,(cl.getD e 0).testBit j = true
 | [],m,h=>.inl h
 | e :: es,m,h=>by
  simp only [List.foldl_cons] at h
  rcases joinE_bit h with h | h | ⟨e',h1,h2⟩
  ·simp only [Nat.testBit_or,Bool.or_eq_true] at h
   rcases h with (h | h) | h
   ·exact .inl h
   ·refine .inr (.inl ?_)
    rw [Nat.one_shiftLeft,Nat.testBit_two_pow] at h
    simp at h
    simp [h]
   ·exact .inr (.inr ⟨e,by simp,h⟩)
  ·exact .inr (.inl (List.mem_cons_of_mem _ h))
  ·exact .inr (.inr ⟨e',List.mem_cons_of_mem _ h1,h2⟩)
end
end Go.AE
namespace Go.AE
structure Stat (P:Program) (gl:Nat→Option (List AVal)) (ops:Array Oper) (cl:List Nat) (xx:Nat×Nat) (all:List DOper):Prop where
 comp:∀d ∈ all,∃o,ops[d.ix]? = some o∧compOper P gl ops o = some d.o∧d.cl = cl.getD d.ix 0∧d.cl = joinE cl (edges o)
 cover:∀i,i < ops.size→∃d ∈ all,d.ix = i
 order:ordOK xx (ops.toList.map edges) [] all = true
 selfs:∀d ∈ all,selfOK d = true
structure Inv (P:Program) (gl:Nat→Option (List AVal)) (ops:Array Oper) (xx:Nat×Nat) (all:List DOper) (n:Nat) (listed:Array Bool) (a:Act) (G:Ghost) (w:World)
  (pre:List DOper) (alts:List (List DOper)) (U:List (DOper×Option Nat)) (pend:List (Nat×Chk)) (s:St):Prop where
 cfg:Cfg P gl G s.h (mask (msk U) s.t) a w
 lag:∀x ∈ U,Lag G n pend s x
 free:∀x ∈ U,∀y ∈ U,y.1.ix ≠ x.1.ix→Free y.1 x.1
 uniq:∀x ∈ U,∀y ∈ U,y.1.ix = x.1.ix→y = x
 ids:∀x ∈ U,∀y ∈ U,∀id,x.2 = some id→y.2 = some id→y = x
 inPre:∀x ∈ U,x.1 ∈ pre
 ord:∀ds ∈ alts,ordOK xx (ops.toList.map edges) pre ds = true
 mem:∀ds ∈ alts,∀d,d ∈ all↔(d ∈ pre∨d ∈ ds)
 ne:∃ds,ds ∈ alts
 l1:∀d ∈ pre,listed.getD d.ix false = true∨∃x ∈ U,x.1 = d
 l2:∀x ∈ U,listed.getD x.1.ix true = false
 l3:∀ds ∈ alts,∀d ∈ ds,listed.getD d.ix true = false
 size:listed.size = ops.size
 closed:∀d ∈ all,listed.getD d.ix false = true→∀j,d.cl.testBit j = true→listed.getD j false = true
 hlen:n ≤ s.h.length
section
variable {P:Program} {gl:Nat→Option (List AVal)} {ops:Array Oper} {xx:Nat×Nat} {all:List DOper} {alts:List (List DOper)} {cl:List Nat} {n:Nat} {listed:Array Bool} {a:Act} {G G':Ghost} {w w':World}
 {pre ds:List DOper} {U:List (DOper×Option Nat)} {pend:List (Nat×Chk)} {s:St}
def pairX (xx:Nat×Nat) (a b:DOper):Bool:=pairOK a b || excOK xx a b
theorem pair_quiet {a b:DOper} (h:pairX xx a b = true) (ha:a.o.op.effs = false):pairOK a b = true:=by
 simp only [pairX,excOK,ha,Bool.false_and,Bool.and_false,Bool.or_false] at h
 exact h
theorem pair_ne {a b:DOper} (h:pairX xx a b = true):a.ix ≠ b.ix:=by
 intro e
 simp [pairX,pairOK,excOK,e] at h
theorem ordOK_cons {ess:List (List Nat)} {d:DOper} (h:ordOK xx ess pre (d :: ds) = true):(∀e ∈ ess.getD d.ix [],∃x ∈ pre,x.ix = e)∧(∀x ∈ pre,pairX xx x d = true)∧selfOK d = true∧ordOK xx ess (d :: pre) ds = true:=by
 simp only [ordOK,Bool.and_eq_true,List.all_eq_true,List.any_eq_true,beq_iff_eq] at h
 exact ⟨h.1.1.1,h.1.1.2,h.1.2,h.2⟩
theorem ordOK_self {ess:List (List Nat)}:∀{ds pre:List DOper},ordOK xx ess pre ds = true→∀d ∈ ds,selfOK d = true
 | [],_,_,d,hd=>by cases hd
 | x :: ds,pre,h,d,hd=>by
  obtain ⟨_,_,h3,h4⟩:=ordOK_cons h
  rcases List.mem_cons.1 hd with rfl | hd
  ·exact h3
  ·exact ordOK_self h4 d hd
theorem ordOK_pair {ess:List (List Nat)}:∀{ds pre:List DOper} {x:DOper},ordOK xx ess pre ds = true→x ∈ pre→∀d ∈ ds,pairX xx x d = true
 | [],_,_,_,_,d,hd=>by cases hd
 | y :: ds,pre,x,h,hx,d,hd=>by
  obtain ⟨_,h2,_,h4⟩:=ordOK_cons h
  rcases List.mem_cons.1 hd with rfl | hd
  ·exact h2 x hx
  ·exact ordOK_pair h4 (List.mem_cons_of_mem _ hx) d hd
theorem Inv.push {d:DOper} {rests:List (List DOper)} (hi:Inv P gl ops xx all n listed a G w pre (rests.map (d :: ·)) U pend s) (hq:d.o.op.effs = false) {s1:St} {v:AVal} {g:List ABox} {pend':List (Nat×Chk)} {oid:Option Nat}
  (ht:s1.t = AE.put d.o.dst v s.t) (hh:s1.h = s.h ++ g) (hp:∀c,c ∈ pend→c ∈ pend') (hoid:∀id,oid = some id→s.h.length ≤ id) (hlag:Lag G n pend' s1 (d,oid)) :
  Inv P gl ops xx all n listed a G w (d :: pre) rests ((d,oid) :: U) pend' s1:=by
 obtain ⟨_,hds⟩:=hi.ne
 obtain ⟨rest,hrest,rfl⟩:=List.mem_map.1 hds
 have put:∀{r},r ∈ rests→(d :: r) ∈ rests.map (d :: ·):=fun hr=>List.mem_map_of_mem hr
 obtain ⟨ho1,ho2x,ho3,_⟩:=ordOK_cons (hi.ord _ hds)
 have ho2:∀x ∈ U,pairOK x.1 d = true:=fun x hx=>pair_quiet (ho2x _ (hi.inPre x hx)) (hi.lag x hx).quiet
 have hfr:∀x ∈ U,Free x.1 d∧Free d x.1∧x.1.ix ≠ d.ix:=fun x hx=>pairOK_free (ho2 x hx) (hi.lag x hx).quiet hq
 have hfd:∀x ∈ U,∀k,d.o.dst = some k→k ∉ x.1.o.looks:=fun x hx k hk hl=>by
  have hpk:=ho2 x hx
  simp only [pairOK,hk,hq,Bool.and_eq_true,Bool.false_and,Bool.false_or] at hpk
  have:=hpk.2.1
  simp at this
  exact this hl
 refine ⟨⟨by rw [hh];exact hi.cfg.rel.grow g,?_⟩,?_,?_,?_,?_,?_,fun ds hd=>(ordOK_cons (hi.ord _ (put hd))).2.2.2,?_,⟨rest,hrest⟩,?_,?_,?_,hi.size,hi.closed,by rw [hh];simp;have:=hi.hlen;omega⟩
 ·refine hi.cfg.tr.poison (by rw [mask_length,mask_length,ht,put_length]) fun i y hy=>?_
  rw [ht] at hy
  exact mask_in (x:=(d,oid)) hy
 ·intro x hx
  rcases List.mem_cons.1 hx with rfl | hx
  ·exact hlag
  ·refine (hi.lag x hx).keep (fun i hl=>?_) (fun k hk=>?_) (fun c hc hho=>⟨hp _ hc,?_⟩) (fun id _ hlt hγ=>⟨by rw [hh];simp;omega,hγ⟩)
   ·rw [ht,getD_of_get (put_get_ne fun e=>hfd x hx i e hl)]
   ·rw [ht,put_get_ne fun e=>(hfr x hx).1.2 k e hk]
   ·rw [hh];exact hho.append
 ·intro x hx y hy hne
  rcases List.mem_cons.1 hx with rfl | hx <;> rcases List.mem_cons.1 hy with rfl | hy
  ·exact absurd rfl hne
  ·exact (hfr y hy).1
  ·exact (hfr x hx).2.1
  ·exact hi.free x hx y hy hne
 ·intro x hx y hy he
  rcases List.mem_cons.1 hx with rfl | hx <;> rcases List.mem_cons.1 hy with rfl | hy
  ·rfl
  ·exact absurd he (hfr y hy).2.2
  ·exact absurd he.symm (hfr x hx).2.2
  ·exact hi.uniq x hx y hy he
 ·intro x hx y hy id h1 h2
  rcases List.mem_cons.1 hx with rfl | hx <;> rcases List.mem_cons.1 hy with rfl | hy
  ·rfl
  ·have:=(hi.lag y hy).young id h2
   have:=hoid id h1
   omega
  ·have:=(hi.lag x hx).young id h1
   have:=hoid id h2
   omega
  ·exact hi.ids x hx y hy id h1 h2
 ·intro x hx
  rcases List.mem_cons.1 hx with rfl | hx
  ·exact List.mem_cons_self ..
  ·exact List.mem_cons_of_mem _ (hi.inPre x hx)
 ·intro ds hd e
  rw [hi.mem _ (put hd) e,List.mem_cons,List.mem_cons]
  constructor
  ·rintro (h1 | h1 | h1)
   ·exact .inl (.inr h1)
   ·exact .inl (.inl h1)
   ·exact .inr h1
  ·rintro ((h1 | h1) | h1)
   ·exact .inr (.inl h1)
   ·exact .inl h1
   ·exact .inr (.inr h1)
 ·intro e he
  rcases List.mem_cons.1 he with rfl | he
  ·exact .inr ⟨(e,oid),List.mem_cons_self ..,rfl⟩
  ·rcases hi.l1 e he with h1 | ⟨x,h1,h2⟩
   ·exact .inl h1
   ·exact .inr ⟨x,List.mem_cons_of_mem _ h1,h2⟩
 ·intro x hx
  rcases List.mem_cons.1 hx with rfl | hx
  ·exact hi.l3 _ hds d (List.mem_cons_self ..)
  ·exact hi.l2 x hx
 ·exact fun ds hd e he=>hi.l3 _ (put hd) e (List.mem_cons_of_mem _ he)
theorem self_free {d:DOper} (hs:selfOK d = true) (hq:d.o.op.effs = false):∀k,d.o.dst = some k→k ∉ d.o.looks:=by
 intro k hk
 simp only [selfOK,hq,hk,Bool.false_or,Bool.not_eq_true',List.contains_eq_mem,decide_eq_false_iff_not] at hs
 exact hs
theorem put_same {d:DOper} (hs:selfOK d = true) (hq:d.o.op.effs = false) (v:AVal) (t:List AVal):Same t (AE.put d.o.dst v t) d.o.looks:=fun i hi=>by
 rw [getD_of_get (put_get_ne fun e=>self_free hs hq i e hi)]
theorem put_self {dst:Option Nat} {v:AVal} {t:List AVal} {k:Nat} {y:AVal} (hk:dst = some k) (hy:(AE.put dst v t)[k]? = some y):y = v:=by
 subst hk
 simp only [AE.put,List.getElem?_set] at hy
 split at hy
 ·split at hy
  ·cases hy;rfl
  ·cases hy
 ·rename_i hh;exact absurd trivial hh
theorem advance {base:Nat} {call:AE.Call} {dsts:List Nat} {x:Ex} {s':St} {tails:List (List DOper)}:∀(c pre:List DOper) (U:List (DOper×Option Nat)) (pend:List (Nat×Chk)) (s:St),Inv P gl ops xx all n listed a G w pre (tails.map (c ++ ·)) U pend s→base ≤ s.h.length→
  (∀t ∈ tails,runDraw base call dsts (c ++ t) pend s = some (x,s'))→∃pre' c' U' pend' s1,Inv P gl ops xx all n listed a G w pre' (tails.map (c' ++ ·)) U' pend' s1∧base ≤ s1.h.length∧(∀t ∈ tails,runDraw base call dsts (c' ++ t) pend' s1 = some (x,s'))∧
   (∀d rest,c' = d :: rest→d.o.op.effs = true)∧U'.length + c'.length = U.length + c.length∧(∀d ∈ pre,d ∈ pre')
 | [],pre,U,pend,s,hi,hb,hr=>⟨pre,[],U,pend,s,hi,hb,hr,fun _ _ h=>(by cases h),rfl,fun _ h=>h⟩
 | d :: rest,pre,U,pend,s,hi,hb,hr=>by
  cases hq:d.o.op.effs with
  | true=>exact ⟨pre,d :: rest,U,pend,s,hi,hb,hr,fun _ _ h=>by cases h;exact hq,rfl,fun _ h=>h⟩
  | false=>
   have halts:tails.map ((d :: rest) ++ ·) = (tails.map (rest ++ ·)).map (d :: ·):=by simp
   obtain ⟨_,hds⟩:=hi.ne
   obtain ⟨t0,ht0,rfl⟩:=List.mem_map.1 hds
   obtain ⟨_,_,hself,_⟩:=ordOK_cons (hi.ord _ hds)
   have hra:=hr
   replace hr:=hr t0 ht0
   rw [halts] at hi
   simp only [List.cons_append,runDraw,hq,Bool.false_eq_true,if_false] at hr hra
   have fin:∀{s1:St} {pend':List (Nat×Chk)} {oid:Option Nat},Inv P gl ops xx all n listed a G w (d :: pre) (tails.map (rest ++ ·)) ((d,oid) :: U) pend' s1→base ≤ s1.h.length→(∀t ∈ tails,runDraw base call dsts (rest ++ t) pend' s1 = some (x,s'))→
     ∃pre' c' U' pend' s1,Inv P gl ops xx all n listed a G w pre' (tails.map (c' ++ ·)) U' pend' s1∧base ≤ s1.h.length∧(∀t ∈ tails,runDraw base call dsts (c' ++ t) pend' s1 = some (x,s'))∧
      (∀d rest,c' = d :: rest→d.o.op.effs = true)∧U'.length + c'.length = U.length + (d :: rest).length∧(∀d ∈ pre,d ∈ pre'):=by
    intro s1 pend' oid hi' hb' hr'
    obtain ⟨pre'',ds'',U'',pend'',s2,h1,h2,h3,h4,h5,h6⟩:=advance rest _ _ _ _ hi' hb' hr'
    exact ⟨pre'',ds'',U'',pend'',s2,h1,h2,h3,h4,by rw [h5];simp;omega,fun e he=>h6 e (List.mem_cons_of_mem _ he)⟩
   split at hr
   ·rename_i hw
    split at hr
    ·rename_i s1 hop
     simp only [hw,hop] at hra
     obtain ⟨_,v,hv,hve,hcase⟩:=runOp_quiet hq hop
     have hsame:Same s.t s1.t d.o.looks:=by rw [hv];exact put_same hself hq v s.t
     obtain ⟨hg,hl⟩:=AOper.want_looks hsame
     have hdst:∀k y,d.o.dst = some k→s1.t[k]? = some y→y = v:=fun k y hk hy=>by rw [hv] at hy;exact put_self hk hy
     rcases hcase with ⟨hh,hpure | ⟨k,q,hop',hld⟩ | ⟨sh,z,ok,m,key,hop',hld⟩⟩ | ⟨cs,hh,hvv,hchk⟩
     ·simp only [pure_chk hpure] at hra
      refine fin (hi.push (oid:=none) (g:=[]) hq hv (by simp [hh]) (fun _ h=>h) (fun _ h=>by cases h) ⟨hq,.inr ⟨by rw [←hg];exact hw,v,hdst,.inl ⟨rfl,by rw [←hl.pureV];exact hpure⟩⟩,fun _ h=>by cases h⟩) (by rw [hh];exact hb) hra
     ·have hchk:chkOf s d.o.op = some (.ld (ev s.t q) k v):=by simp only [hop',chkOf,hld,Option.map_some]
      simp only [hchk] at hra
      have hq':ev s.t q = ev s1.t q:=by rw [hop'] at hl;exact Same.ev hl
      refine fin (hi.push (oid:=none) (g:=[]) hq hv (by simp [hh]) (fun _ h=>List.mem_cons_of_mem _ h) (fun _ h=>by cases h)
       ⟨hq,.inr ⟨by rw [←hg];exact hw,v,hdst,.inr (.inl ⟨rfl,k,q,hop',by rw [←hq'];exact List.mem_cons_self ..,by rw [←hq',hh];exact hld⟩)⟩,fun _ h=>by cases h⟩) (by rw [hh];exact hb) hra
     ·have hchk:chkOf s d.o.op = some (.lk sh z ok (ev s.t m) (ev s.t key) v):=by simp only [hop',chkOf,hld,Option.map_some]
      simp only [hchk] at hra
      have hm':ev s.t m = ev s1.t m:=by rw [hop'] at hl;exact Same.ev hl.left
      have hk':ev s.t key = ev s1.t key:=by rw [hop'] at hl;exact Same.ev hl.right
      refine fin (hi.push (oid:=none) (g:=[]) hq hv (by simp [hh]) (fun _ h=>List.mem_cons_of_mem _ h) (fun _ h=>by cases h)
       ⟨hq,.inr ⟨by rw [←hg];exact hw,v,hdst,.inr (.inr (.inl ⟨rfl,sh,z,ok,m,key,hop',by rw [←hm',←hk'];exact List.mem_cons_self ..,by rw [←hm',←hk',hh];exact hld⟩))⟩,fun _ h=>by cases h⟩) (by rw [hh];exact hb) hra
     ·simp only [hchk] at hra
      have hnew:NewOf s1.t d.o.op cs:=by
       cases hopc:d.o.op <;> rw [hopc] at hchk <;> simp only [chkOf,Option.some.injEq,Chk.box.injEq,true_and,Option.map_eq_some_iff,reduceCtorEq,and_false,exists_false] at hchk
       case new z=>exact .inl ⟨z,rfl,hchk.symm⟩
       case box k y=>
        rw [hopc] at hl hop
        have hq':ev s.t y = ev s1.t y:=Same.ev hl
        simp only [runOp] at hop
        split at hop
        ·rename_i hcond
         exact .inr ⟨k,y,rfl,by rw [←hq'];exact hchk.symm,by rw [←hchk];exact hcond.2⟩
        ·cases hop
      have hget:s1.h[s.h.length]? = some (.cells cs):=by rw [hh];simp
      refine fin (hi.push (oid:=some s.h.length) (g:=[.cells cs]) hq hv hh (fun _ h=>List.mem_cons_of_mem _ h) (fun _ h=>by cases h;exact Nat.le_refl _)
       ⟨hq,.inr ⟨by rw [←hg];exact hw,v,hdst,.inr (.inr (.inr ⟨s.h.length,cs,rfl,hvv,hnew,List.mem_cons_self ..,hget⟩))⟩,fun id h=>by
        cases h
        refine ⟨hi.hlen,by rw [hh];simp,?_⟩
        cases hg:G.γ s.h.length with
        | none=>rfl
        | some b=>have:=(hi.cfg.rel.γlt _ b hg).1;omega⟩) (by rw [hh];simp;omega) hra
    ·cases hr
    ·cases hr
   ·rename_i hw
    simp only [hw] at hra
    have hsame:Same s.t (AE.put d.o.dst (.tup []) s.t) d.o.looks:=put_same hself hq _ s.t
    obtain ⟨hg,hl⟩:=AOper.want_looks hsame
    refine fin (hi.push (s1:={ s with t:=AE.put d.o.dst (.tup []) s.t}) (oid:=none) (g:=[]) hq rfl (by simp) (fun _ h=>h) (fun _ h=>by cases h)
     ⟨hq,.inl ⟨by rw [←hg];exact hw,rfl,fun k y hk hy=>put_self hk hy⟩,fun _ h=>by cases h⟩) hb hra
   ·cases hr
end
end Go.AE
