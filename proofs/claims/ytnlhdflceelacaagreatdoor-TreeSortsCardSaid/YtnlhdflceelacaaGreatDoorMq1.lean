/- A part of the proof: the abstract executor and what goes through it (part 1). No condition. -/
import Derived.Test.YtnlhdflceelacaaGreatDoorMq0
import Derived.DeepKeys3
import Derived.MapKept
import Derived.Laws.MakeOwn
set_option maxRecDepth 100000
namespace Go.AE
open Go.MapKept (run_findKey run_getObj_map run_setObj_map)
section
variable {P:Program} {γ:Nat→Option Nat} {imm:Nat→Nat→Option Value}
def qgp:qa→Lit
 | .bool b=>.bool b
 | .int k n=>.int k n
 | .str s=>.string s
 | _=>.nil
def qfu (cs:List qa) (p:Nat×SK):Lit:=qgp ((cs[p.1]?).getD .undef)
theorem qid {k:SK} {cs:List qa} {vs:List Value} {o:Nat} (h:qh γ imm cs vs) (hf:qbS k cs[o]? = true) :
  (k = .b∧∃b,cs[o]? = some (.bool b)∧vs[o]? = some (.bool b))∨(∃q n,k = .i q∧cs[o]? = some (.int q n)∧vs[o]? = some (.int q n)∧(Lit.int q n).wf = true)∨
   (k = .s∧∃(s:List UInt8) (b:ByteArray),cs[o]? = some (.str s)∧vs[o]? = some (.string b)∧b.data.toList = s∧s.length ≤ qcB):=by
 unfold qbS at hf
 split at hf
 ·rename_i b hc
  obtain ⟨v,hv,hr⟩:=h.get hc
  simp only [qn] at hr
  subst hr
  exact .inl ⟨rfl,b,hc,hv⟩
 ·rename_i q j n hc
  obtain ⟨v,hv,hr⟩:=h.get hc
  simp only [qn] at hr
  subst hr
  simp only [Bool.and_eq_true,beq_iff_eq,qbH,decide_eq_true_eq] at hf
  obtain ⟨rfl,h1,h2⟩:=hf
  exact .inr (.inl ⟨q,n,rfl,hc,hv,by simp [Lit.wf,h1,h2]⟩)
 ·rename_i s hc
  obtain ⟨v,hv,hr⟩:=h.get hc
  simp only [qn] at hr
  obtain ⟨b,rfl,hb⟩:=hr
  exact .inr (.inr ⟨rfl,s,b,hc,hv,hb,by simpa using hf⟩)
 ·cases hf
theorem qgv {vs:List Value} {o:Nat} {v:Value} (h:vs[o]? = some v):(vs.drop o).take 1 = [v]:=by
 obtain ⟨h1,h2⟩:=List.getElem?_eq_some_iff.1 h
 rw [List.drop_eq_getElem_cons h1]
 simp [h2]
theorem qe1:∀(d:Nat) (t:TypeId) (off:Nat) (ls:List (Nat×SK)),qei P d t off = some ls→∀(cs:List qa) (vs:List Value),qh γ imm cs vs→qdi ls cs = true→off + P.cellsOf t ≤ vs.length→
  P.keyLits d t ((vs.drop off).take (P.cellsOf t)) = some (ls.map (qfu cs))
 | 0,_,_,_,h=>by simp [qei] at h
 | d + 1,t,off,ls,h=>by
  intro cs vs hv hf hle
  unfold qei at h
  unfold Program.keyLits
  split at h
  ·rename_i hu
   split at h
   ·rename_i h1
    cases h
    simp only [qdi,List.all_cons,List.all_nil,Bool.and_true] at hf
    rcases qid hv hf with ⟨_,b,e1,e2⟩ | ⟨q,n,e0,_⟩ | ⟨e0,_⟩
    ·rw [h1,qgv e2]
     simp [hu,qfu,e1,qgp]
    ·cases e0
    ·cases e0
   ·cases h
  ·rename_i q hu
   split at h
   ·rename_i h1
    cases h
    simp only [qdi,List.all_cons,List.all_nil,Bool.and_true] at hf
    rcases qid hv hf with ⟨e0,_⟩ | ⟨q,n,e0,e1,e2,e3⟩ | ⟨e0,_⟩
    ·cases e0
    ·cases e0
     rw [h1,qgv e2]
     simp [hu,qfu,e1,qgp,e3]
    ·cases e0
   ·cases h
  ·rename_i hu
   split at h
   ·rename_i h1
    cases h
    simp only [qdi,List.all_cons,List.all_nil,Bool.and_true] at hf
    rcases qid hv hf with ⟨e0,_⟩ | ⟨q,n,e0,_⟩ | ⟨_,s,b,e1,e2,e3,e4⟩
    ·cases e0
    ·cases e0
    ·rw [h1,qgv e2]
     have:b.size ≤ maxLen:=by
      have:b.size = s.length:=by rw [←e3];rfl
      rw [this]
      simp only [qcB] at e4
      simp only [maxLen]
      omega
     simp [hu,qfu,e1,qgp,this,e3]
   ·cases h
  ·rename_i fs hu
   split at h
   ·rename_i hall
    simp only [Option.map_eq_some_iff] at h
    obtain ⟨lss,hm,rfl⟩:=h
    have hlen:((vs.drop off).take (P.cellsOf t)).length = P.cellsOf t:=by simp;omega
    have hall' : ∀ f ∈ fs.toList, f.name ≠ "_" ∧ f.offset + P.cellsOf f.type ≤ P.cellsOf t := fun f hf' => by
     rw [Array.all_eq_true_iff_forall_mem] at hall
     have:=hall f (by simpa using hf')
     simpa using this
    have key:∀(L:List Field) (lss:List (List (Nat×SK))),(∀f ∈ L,f.offset + P.cellsOf f.type ≤ P.cellsOf t)→(L.mapM fun f=>qei P d f.type (off + f.offset)) = some lss→qdi lss.flatten cs = true→
      (L.mapM fun f=>P.keyLits d f.type ((((vs.drop off).take (P.cellsOf t)).drop f.offset).take (P.cellsOf f.type))) = some (lss.map fun ls=>ls.map (qfu cs)):=by
     intro L
     induction L with
     | nil=>intro lss _ h1 _;simp at h1;subst h1;rfl
     | cons f L ih=>
      intro lss hb h1 h2
      simp only [List.mapM_cons,Option.pure_def,Option.bind_eq_bind,Option.bind_eq_some_iff] at h1
      obtain ⟨l0,h3,ls',h4,h5⟩:=h1
      cases h5
      simp only [List.flatten_cons,qdi,List.all_append,Bool.and_eq_true] at h2
      have hbf:=hb f (by simp)
      have h6:=qe1 d f.type (off + f.offset) l0 h3 cs vs hv h2.1 (by omega)
      have h7:=ih ls' (fun g hg=>hb g (by simp [hg])) h4 h2.2
      have h8:(((vs.drop off).take (P.cellsOf t)).drop f.offset).take (P.cellsOf f.type) = (vs.drop (off + f.offset)).take (P.cellsOf f.type):=by
       rw [List.drop_take,List.take_take,List.drop_drop,Nat.min_eq_left (by omega)]
      simp only [List.mapM_cons,Option.pure_def,Option.bind_eq_bind,h8,h6,h7,Option.bind_some,List.map_cons]
    have hk:=key fs.toList lss (fun f hf'=>(hall' f hf').2) hm hf
    have hnm : fs.all (fun f => f.name != "_") = true := by
     rw [Array.all_eq_true_iff_forall_mem]
     intro f hf'
     have:=(hall' f (by simpa using hf')).1
     simpa using this
    simp only [hu]
    rw [if_pos ⟨hlen,hnm⟩,hk]
    simp [List.map_flatten]
   ·cases h
  ·cases h
theorem qpC {k:SK} {a b:qa} (ha:qbS k (some a) = true) (hb:qbS k (some b) = true):∃c,qgV a b = some c∧(c = true↔qgp a = qgp b):=by
 cases k
 ·cases a <;> simp only [qbS,Bool.false_eq_true] at ha
  cases b <;> simp only [qbS,Bool.false_eq_true] at hb
  exact ⟨_,rfl,by simp [qgp]⟩
 ·cases a <;> simp only [qbS,Bool.false_eq_true] at ha
  cases b <;> simp only [qbS,Bool.false_eq_true] at hb
  simp only [Bool.and_eq_true,beq_iff_eq] at ha hb
  obtain ⟨rfl,_⟩:=ha
  obtain ⟨rfl,_⟩:=hb
  exact ⟨_,if_pos rfl,by simp [qgp]⟩
 ·cases a <;> simp only [qbS,Bool.false_eq_true] at ha
  cases b <;> simp only [qbS,Bool.false_eq_true] at hb
  exact ⟨_,rfl,by simp [qgp]⟩
theorem qeH {x y:List qa}:∀{ls:List (Nat×SK)},qdi ls x = true→qdi ls y = true→(qcu x y ls = true↔ls.map (qfu x) = ls.map (qfu y))
 | [],_,_=>by simp [qcu]
 | p :: ls,hx,hy=>by
  simp only [qdi,List.all_cons,Bool.and_eq_true] at hx hy
  have ih:=qeH (ls:=ls) hx.2 hy.2
  obtain ⟨o,k⟩:=p
  obtain ⟨hx1,_⟩:=hx
  obtain ⟨hy1,_⟩:=hy
  simp only at hx1 hy1
  cases hxo:x[o]? with
  | none=>rw [hxo] at hx1;cases k <;> simp [qbS] at hx1
  | some a=>
   cases hyo:y[o]? with
   | none=>rw [hyo] at hy1;cases k <;> simp [qbS] at hy1
   | some b=>
    rw [hxo] at hx1
    rw [hyo] at hy1
    obtain ⟨c,h1,h2⟩:=qpC hx1 hy1
    simp only [qcu,hxo,hyo,h1,List.map_cons,List.cons.injEq,qfu,Option.getD_some,←h2]
    cases c
    ·simp
    ·simpa using ih
theorem qaE {kt:TypeId} {sh:qaX} (hs:qaf P kt = some sh) {x:qa} {v:Value} (hv:qn γ imm x v) (hf:qbG sh x = true) :
  P.keyTypeAt qfk kt = true∧P.tiled qfk kt = true∧qdi sh.ls x.cells = true∧v.formed P kt = true∧P.keyLits qfk kt v.cells.toList = some (sh.ls.map (qfu x.cells))∧
   (sh.agg = true→∃c,v = .agg c)∧(sh.agg = qaR (P.underlying kt))∧(sh.agg = false→x.storable = true):=by
 unfold qaf at hs
 split at hs
 ·rename_i hk
  simp only [Bool.and_eq_true] at hk
  simp only [Option.map_eq_some_iff] at hs
  obtain ⟨ls,hl,rfl⟩:=hs
  have fin:qdi ls x.cells = true→qh γ imm x.cells v.cells.toList→v.cells.toList.length = P.cellsOf kt→P.keyLits qfk kt v.cells.toList = some (ls.map (qfu x.cells)):=fun h1 h2 h3=>by
   have:=qe1 qfk kt 0 ls hl x.cells v.cells.toList h2 h1 (by omega)
   rwa [List.drop_zero,←h3,List.take_length] at this
  unfold qbG at hf
  split at hf
  ·rename_i cs
   simp only [Bool.and_eq_true,beq_iff_eq] at hf
   obtain ⟨⟨h1,h2⟩,h3⟩:=hf
   simp only [qn] at hv
   obtain ⟨c,rfl,hc⟩:=hv
   have hlen:c.toList.length = P.cellsOf kt:=by rw [←hc.length];exact h2
   refine ⟨hk.1,hk.2,h3,?_,fin h3 (by simpa [qa.cells,Value.cells] using hc) (by simpa [Value.cells] using hlen),fun _=>⟨c,rfl⟩,rfl,fun h=>by rw [h1] at h;cases h⟩
   unfold qaR at h1
   split at h1
   ·rename_i fs hu
    simp only [Value.formed,hu]
    simpa using hlen
   ·cases h1
  ·rename_i hna
   simp only [Bool.and_eq_true,Bool.not_eq_true'] at hf
   obtain ⟨h1,h2⟩:=hf
   have hsc:∃k,ls = [(0,k)]∧P.cellsOf kt = 1∧(∀fs,P.underlying kt ≠ some (.struct fs))∧∀n e,P.underlying kt ≠ some (.array n e):=by
    unfold qfk qei at hl
    split at hl
    ·rename_i hu;split at hl
     ·cases hl;exact ⟨_,rfl,‹_›,by simp [hu],by simp [hu]⟩
     ·cases hl
    ·rename_i hu;split at hl
     ·cases hl;exact ⟨_,rfl,‹_›,by simp [hu],by simp [hu]⟩
     ·cases hl
    ·rename_i hu;split at hl
     ·cases hl;exact ⟨_,rfl,‹_›,by simp [hu],by simp [hu]⟩
     ·cases hl
    ·rename_i fs hu
     simp [qaR,hu] at h1
    ·cases hl
   obtain ⟨k,rfl,hc1,hns,hnar⟩:=hsc
   have hst:x.storable = true:=by
    simp only [qdi,List.all_cons,List.all_nil,Bool.and_true] at h2
    unfold qbS at h2
    split at h2 <;> first | (rename_i e;simp at e;subst e;rfl) | cases h2
   have hxc:x.cells = [x]:=qX hst
   obtain ⟨hr1,hr2⟩:=qaN hv (by rw [hxc];simp [hst])
   refine ⟨hk.1,hk.2,by rw [hxc];exact h2,?_,fin (by rw [hxc];exact h2) hr1 (by rw [←hr1.length,hxc,hc1];rfl),(fun h=>absurd (show qaR (P.underlying kt) = true from h) (by rw [h1];simp)),rfl,fun _=>hst⟩
   cases v <;> simp only [Value.formed] <;> first
    | (cases hu:P.underlying kt with
       | none=>rfl
       | some kd=>cases kd <;> first | rfl | exact absurd hu (hns _) | exact absurd hu (hnar _ _))
    | (exfalso
       cases x <;> simp only [qn] at hv <;> first
        | (cases hv;done)
        | (simp [qa.storable] at hst;done)
        | (obtain ⟨_,hv⟩:=hv;cases hv;done)
        | (obtain ⟨_,hv,_⟩:=hv;cases hv;done)
        | (obtain ⟨_,_,hv⟩:=hv;cases hv;done)
        | (obtain ⟨_,_,hv,_⟩:=hv;cases hv;done)
        | (obtain ⟨_,_,_,hv,_⟩:=hv;cases hv;done))
 ·cases hs
theorem qcv {sh:qaX} {x y:qa} {r:Bool} (h:qrW sh x y = some r):qbG sh x = true∧qbG sh y = true∧r = qcu x.cells y.cells sh.ls:=by
 unfold qrW at h
 split at h
 ·rename_i hh
  simp only [Bool.and_eq_true] at hh
  cases h
  exact ⟨hh.1,hh.2,rfl⟩
 ·cases h
theorem qjf {kt:TypeId} {sh:qaX} (hs:qaf P kt = some sh) {x y:qa} {vx vy:Value} (hx:qn γ imm x vx) (hy:qn γ imm y vy) {r:Bool} (he:qrW sh x y = some r) (w:World) :
  (Op.equal kt vx vy).run P w = .ok r w∧(r = true→vx = vy):=by
 obtain ⟨fx,fy,hr⟩:=qcv he
 obtain ⟨k1,k2,x1,x2,x3,x4,x5,x6⟩:=qaE hs hx fx
 obtain ⟨_,_,y1,y2,y3,y4,_,y6⟩:=qaE hs hy fy
 obtain ⟨r',h1,h2⟩:=run_equalIn_deep (10000 - qfk) qfk kt k1 w _ _ vx vy _ _ x2 y2 x3 y3
 have e0:10000 - qfk + qfk = 10000:=rfl
 rw [e0] at h1
 have hrr:r = r':=by
  rw [Bool.eq_iff_iff,hr,qeH x1 y1,h2]
 subst hrr
 refine ⟨h1,fun ht=>?_⟩
 have hl:=h2.1 ht
 have c1:=cells_of_lits qfk kt k2 _ _ _ x3
 have c2:=cells_of_lits qfk kt k2 _ _ _ y3
 have hc:vx.cells.toList = vy.cells.toList:=by rw [c1,c2,hl]
 cases hagg:sh.agg with
 | true=>
  obtain ⟨a,rfl⟩:=x4 hagg
  obtain ⟨b,rfl⟩:=y4 hagg
  simp only [Value.cells] at hc
  rw [Array.toList_inj.1 hc]
 | false=>
  have one:∀{z:qa} {v:Value},qn γ imm z v→z.storable = true→v.cells = #[v]:=fun {z v} hz hst=>by
   have:=(qaN hz (by rw [qX hst];simp [hst])).1
   rw [qX hst] at this
   cases v <;> first | rfl | skip
   all_goals
    exfalso
    cases z <;> simp only [qn] at hz <;> first
     | (cases hz;done)
     | (simp [qa.storable] at hst;done)
     | (obtain ⟨_,hz⟩:=hz;cases hz;done)
     | (obtain ⟨_,hz,_⟩:=hz;cases hz;done)
     | (obtain ⟨_,_,hz⟩:=hz;cases hz;done)
     | (obtain ⟨_,_,hz,_⟩:=hz;cases hz;done)
     | (obtain ⟨_,_,_,hz,_⟩:=hz;cases hz;done)
  rw [one hx (x6 hagg),one hy (y6 hagg)] at hc
  simpa using hc
theorem qaS {kt:TypeId} {sh:qaX} (hs:qaf P kt = some sh) {x:qa} {vx:Value} (hx:qn γ imm x vx) (hf:qbG sh x = true) (em:Bool) (w:World):(Instr.checkKey em 10000 kt vx).run P w = .ok () w:=by
 obtain ⟨k1,k2,x1,x2,x3,x4,x5,x6⟩:=qaE hs hx hf
 have h:=run_checkKey_deep em (10000 - qfk) qfk kt k1 w _ vx _ x2 x3
 have e0:10000 - qfk + qfk = 10000:=rfl
 rwa [e0] at h
theorem qjg {kt:TypeId} {sh:qaX} (hs:qaf P kt = some sh) {x:qa} {vx:Value} (hx:qn γ imm x vx) (hf:qbG sh x = true):Instr.sameBits 10000 vx vx = true:=by
 obtain ⟨k1,k2,x1,x2,x3,x4,x5,x6⟩:=qaE hs hx hf
 have c1:=cells_of_lits qfk kt k2 _ _ _ x3
 have hw:=keyLits_wf x3
 have cell:∀u ∈ vx.cells.toList,∀m,Instr.sameBits m u u = true:=fun u hu m=>by
  rw [c1] at hu
  obtain ⟨l,hl,rfl⟩:=List.mem_map.1 hu
  exact sameBits_toCell (hw l hl) m
 cases vx with
 | agg a=>
  simp only [Value.cells] at cell
  simp only [Instr.sameBits,BEq.rfl,Bool.true_and,List.all_eq_true]
  intro p hp
  obtain ⟨i,hi⟩:=List.getElem?_of_mem hp
  rw [List.getElem?_zip_eq_some] at hi
  obtain ⟨h1,h2⟩:=hi
  rw [h1] at h2
  cases p
  simp only at h1 h2
  cases h2
  exact cell _ (List.mem_of_getElem? h1) _
 | _=>exact cell _ (by simp [Value.cells]) _
theorem qt.get {G:qe}:∀{es:List (Nat×qa×qa)} {me:List MapEntry} {i:Nat} {x:Nat×qa×qa},qt G es me→es[i]? = some x→∃e,me[i]? = some e∧e.born = x.1∧G.V x.2.1 e.key∧G.V x.2.2 e.val
 | [],_,i,x,_,h=>by simp at h
 | y :: es,me,i,x,hm,h=>by
  simp only [qt] at hm
  obtain ⟨e,rest,rfl,h1,h2,h3,h4⟩:=hm
  cases i with
  | zero=>simp at h;subst h;exact ⟨e,rfl,h1,h2,h3⟩
  | succ i=>simpa using qt.get h4 (by simpa using h)
theorem qt.length {G:qe}:∀{es:List (Nat×qa×qa)} {me:List MapEntry},qt G es me→me.length = es.length
 | [],_,h=>by simp only [qt] at h;subst h;rfl
 | y :: es,me,hm=>by
  simp only [qt] at hm
  obtain ⟨e,rest,rfl,h1,h2,h3,h4⟩:=hm
  simp [qt.length h4]
theorem qt.modify {G:qe} {f:Nat×qa×qa→Nat×qa×qa} {g:MapEntry→MapEntry} (hfg:∀x e,e.born = x.1→G.V x.2.1 e.key→G.V x.2.2 e.val→(g e).born = (f x).1∧G.V (f x).2.1 (g e).key∧G.V (f x).2.2 (g e).val) :
  ∀{es:List (Nat×qa×qa)} {me:List MapEntry} (i:Nat),qt G es me→qt G (es.modify i f) (me.modify i g)
 | [],_,i,h=>by simp only [qt] at h;subst h;simp [qt]
 | y :: es,me,i,hm=>by
  simp only [qt] at hm
  obtain ⟨e,rest,rfl,h1,h2,h3,h4⟩:=hm
  cases i with
  | zero=>
   simp only [List.modify_zero_cons,qt]
   obtain ⟨q1,q2,q3⟩:=hfg y e h1 h2 h3
   exact ⟨_,_,rfl,q1,q2,q3,h4⟩
  | succ i=>
   simp only [List.modify_succ_cons,qt]
   exact ⟨e,_,rfl,h1,h2,h3,qt.modify hfg i h4⟩
theorem qt.append {G:qe} {x:Nat×qa×qa} {e:MapEntry} (h1:e.born = x.1) (h2:G.V x.2.1 e.key) (h3:G.V x.2.2 e.val):∀{es:List (Nat×qa×qa)} {me:List MapEntry},qt G es me→qt G (es ++ [x]) (me ++ [e])
 | [],_,h=>by simp only [qt] at h;subst h;simp only [List.nil_append,qt];exact ⟨e,[],rfl,h1,h2,h3,rfl⟩
 | y :: es,me,hm=>by
  simp only [qt] at hm
  obtain ⟨e',rest,rfl,g1,g2,g3,g4⟩:=hm
  simp only [List.cons_append,qt]
  exact ⟨e',_,rfl,g1,g2,g3,qt.append h1 h2 h3 g4⟩
def qf5 (G:qe) (vx:Value) (es:List (Nat×qa×qa)) (me:List MapEntry) (i:Nat) (r:Option (Nat×qa)) (q:Option (Nat×Value)):Prop:=
 match r with
 | none=>q = none
 | some (j,v)=>∃m ent ae,j = i + m∧me[m]? = some ent∧es[m]? = some ae∧ae.2.2 = v∧q = some (j,ent.val)∧G.V v ent.val∧ent.key = vx∧ent.born = ae.1
theorem qls {G:qe} {kt:TypeId} {sh:qaX} (hs:qaf P kt = some sh) {x:qa} {vx:Value} (hx:G.V x vx) (w:World):∀(es:List (Nat×qa×qa)) (me:List MapEntry) (i:Nat) (r:Option (Nat×qa)),qt G es me→qc2 sh x es i = some r→
  ∃q,(Instr.findAsking kt vx me i).run P w = .ok q w∧qf5 G vx es me i r q
 | [],me,i,r,hm,hf=>by
  simp only [qt] at hm
  subst hm
  simp only [qc2] at hf
  split at hf
  ·cases hf
   exact ⟨none,by simp [Instr.findAsking],rfl⟩
  ·cases hf
 | y :: es,me,i,r,hm,hf=>by
  simp only [qt] at hm
  obtain ⟨e,rest,rfl,h1,h2,h3,h4⟩:=hm
  simp only [qc2] at hf
  split at hf
  ·rename_i he
   cases hf
   obtain ⟨g1,g2⟩:=qjf hs hx h2 he w
   exact ⟨some (i,e.val),by simp [Instr.findAsking,g1],0,e,y,rfl,rfl,rfl,rfl,rfl,h3,(g2 rfl).symm,h1⟩
  ·rename_i he
   obtain ⟨g1,_⟩:=qjf hs hx h2 he w
   obtain ⟨q,q1,q2⟩:=qls hs hx w es rest (i + 1) r h4 hf
   refine ⟨q,by simp [Instr.findAsking,g1,q1],?_⟩
   unfold qf5 at q2 ⊢
   split
   ·exact q2
   ·simp only at q2
    obtain ⟨m,ent,ae,rfl,k1,k2,k3⟩:=q2
    exact ⟨m + 1,ent,ae,by omega,by simpa using k1,by simpa using k2,k3⟩
  ·cases hf
theorem qbq {sh:qaX} (ha:sh.agg = false) {k:SK} (hl:sh.ls = [(0,k)]) {x:qa} (h:qbG sh x = true):qbS k (some x) = true∧x.cells = [x]:=by
 unfold qbG at h
 split at h
 ·simp [ha] at h
 ·rename_i hna
  simp only [ha,hl,qdi,List.all_cons,List.all_nil,Bool.and_true,Bool.not_false,Bool.true_and] at h
  refine ⟨by simpa using h,?_⟩
  cases x <;> first | rfl | exact absurd rfl (hna _)
theorem qhG (c:Bool):some c = some (match some c with | some true=>true | _=>false):=by cases c <;> rfl
theorem qrc {kt:TypeId} {kd:TypeDesc} {sh:qaX} (hs:qaf P kt = some sh) (hu:P.underlying kt = some kd) (hagg:sh.agg = false) {x y:qa} {vx vy:Value} (hx:qn γ imm x vx) (hy:qn γ imm y vy) {r:Bool} (he:qrW sh x y = some r) :
  Instr.sameNow kd vx vy = some r:=by
 obtain ⟨fx,fy,hr⟩:=qcv he
 have hls:(kd = .bool∧sh.ls = [(0,.b)])∨(∃q,kd = .int q∧sh.ls = [(0,.i q)])∨(kd = .string∧sh.ls = [(0,.s)]):=by
  unfold qaf at hs
  split at hs
  ·simp only [Option.map_eq_some_iff] at hs
   obtain ⟨ls,hl,rfl⟩:=hs
   unfold qfk qei at hl
   rw [hu] at hl
   cases kd <;> simp only at hl <;> first
    | (cases hl;done)
    | (split at hl
       ·cases hl;first | exact .inl ⟨rfl,rfl⟩ | exact .inr (.inl ⟨_,rfl,rfl⟩) | exact .inr (.inr ⟨rfl,rfl⟩)
       ·cases hl)
    | (simp [hu,qaR] at hagg;done)
  ·cases hs
 rcases hls with ⟨rfl,hl⟩ | ⟨q,rfl,hl⟩ | ⟨rfl,hl⟩
 ·obtain ⟨f1,c1⟩:=qbq hagg hl fx
  obtain ⟨f2,c2⟩:=qbq hagg hl fy
  rw [c1,c2,hl] at hr
  cases x <;> simp only [qbS,Bool.false_eq_true] at f1
  cases y <;> simp only [qbS,Bool.false_eq_true] at f2
  simp only [qn] at hx hy
  subst hx hy
  rename_i p q
  rw [hr]
  cases p <;> cases q <;> rfl
 ·obtain ⟨f1,c1⟩:=qbq hagg hl fx
  obtain ⟨f2,c2⟩:=qbq hagg hl fy
  rw [c1,c2,hl] at hr
  cases x <;> simp only [qbS,Bool.false_eq_true] at f1
  cases y <;> simp only [qbS,Bool.false_eq_true] at f2
  simp only [Bool.and_eq_true,beq_iff_eq] at f1 f2
  obtain ⟨rfl,_⟩:=f1
  obtain ⟨rfl,_⟩:=f2
  simp only [qn] at hx hy
  subst hx hy
  rw [hr]
  simp only [Instr.sameNow,if_true,qcu,List.getElem?_cons_zero,qgV]
  exact qhG _
 ·obtain ⟨f1,c1⟩:=qbq hagg hl fx
  obtain ⟨f2,c2⟩:=qbq hagg hl fy
  rw [c1,c2,hl] at hr
  cases x <;> simp only [qbS,Bool.false_eq_true] at f1
  cases y <;> simp only [qbS,Bool.false_eq_true] at f2
  simp only [qn] at hx hy
  obtain ⟨b1,rfl,e1⟩:=hx
  obtain ⟨b2,rfl,e2⟩:=hy
  rw [hr]
  rename_i m n
  have hbb:(b1 == b2) = (m == n):=by
   rw [Bool.eq_iff_iff,Go.MapKept.bytes_beq,beq_iff_eq,←e1,←e2]
   constructor
   ·rintro rfl;rfl
   ·intro h;exact ByteArray.ext (Array.toList_inj.1 h)
  simp only [Instr.sameNow,qcu,List.getElem?_cons_zero,qgV,hbb]
  exact qhG _
theorem qob {G:qe} {kt:TypeId} {kd:TypeDesc} {sh:qaX} (hs:qaf P kt = some sh) (hu:P.underlying kt = some kd) (hagg:sh.agg = false) {x:qa} {vx:Value} (hx:G.V x vx):∀(es:List (Nat×qa×qa)) (me:List MapEntry) (i:Nat) (r:Option (Nat×qa)),qt G es me→qc2 sh x es i = some r→
  ∃q,Instr.findNow kd vx me i = some q∧qf5 G vx es me i r q
 | [],me,i,r,hm,hf=>by
  simp only [qt] at hm
  subst hm
  simp only [qc2] at hf
  split at hf
  ·cases hf
   exact ⟨none,by simp [Instr.findNow],rfl⟩
  ·cases hf
 | y :: es,me,i,r,hm,hf=>by
  simp only [qt] at hm
  obtain ⟨e,rest,rfl,h1,h2,h3,h4⟩:=hm
  have now:∀r',qrW sh x y.2.1 = some r'→Instr.sameNow kd vx e.key = some r'∧(r' = true→vx = e.key):=fun r' he=>
   ⟨qrc hs hu hagg hx h2 he,(qjf hs hx h2 he default).2⟩
  simp only [qc2] at hf
  split at hf
  ·rename_i he
   cases hf
   obtain ⟨g1,g2⟩:=now _ he
   exact ⟨some (i,e.val),by simp [Instr.findNow,g1],0,e,y,rfl,rfl,rfl,rfl,rfl,h3,(g2 rfl).symm,h1⟩
  ·rename_i he
   obtain ⟨g1,_⟩:=now _ he
   obtain ⟨q,q1,q2⟩:=qob hs hu hagg hx es rest (i + 1) r h4 hf
   refine ⟨q,by simp [Instr.findNow,g1,q1],?_⟩
   unfold qf5 at q2 ⊢
   split
   ·exact q2
   ·simp only at q2
    obtain ⟨m,ent,ae,rfl,k1,k2,k3⟩:=q2
    exact ⟨m + 1,ent,ae,by omega,by simpa using k1,by simpa using k2,k3⟩
  ·cases hf
theorem qbE {G:qe} {kt:TypeId} {sh:qaX} (hs:qaf P kt = some sh) {x:qa} {vx:Value} (hx:G.V x vx) (hfx:qbG sh x = true) (w:World) {es:List (Nat×qa×qa)} {me:List MapEntry} {r:Option (Nat×qa)} (hm:qt G es me) (hf:qc2 sh x es 0 = some r) :
  ∃q,(Instr.findKey kt vx me).run P w = .ok q w∧qf5 G vx es me 0 r q:=by
 obtain ⟨_,_,_,_,_,_,h5,_⟩:=qaE hs hx hfx
 cases hagg:sh.agg with
 | true=>
  rw [hagg] at h5
  rw [run_findKey_eq w (by
   unfold qaR at h5
   split at h5
   ·rename_i fs hu;simp [hu]
   ·cases h5)]
  exact qls hs hx w es me 0 r hm hf
 | false=>
  cases hu:P.underlying kt with
  | none=>
   exfalso
   unfold qaf at hs
   split at hs
   ·rename_i hk
    simp [qfk,Program.keyTypeAt,hu] at hk
   ·cases hs
  | some kd=>
   obtain ⟨q,q1,q2⟩:=qob hs hu hagg hx es me 0 r hm hf
   exact ⟨q,run_findKey hu q1,q2⟩
theorem qbD {sh:qaX} {x:qa}:∀{es:List (Nat×qa×qa)} {i:Nat} {r:Option (Nat×qa)},qc2 sh x es i = some r→qbG sh x = true
 | [],_,_,h=>by
  simp only [qc2] at h
  split at h
  ·assumption
  ·cases h
 | y :: es,i,r,h=>by
  simp only [qc2] at h
  split at h
  ·rename_i he;exact (qcv he).1
  ·rename_i he;exact (qcv he).1
  ·cases h
end
section
variable {P:Program} {gl:Nat→Option (List qa)} {G G':qe} {w w':World} {h:List qg} {t:List qa} {a:Act} {n:Nat}
theorem qdg {e:TypeId} {k:Nat} {z:List qa} (he:qee P e = some (k,z)):∃i zz zv,P.info? e = some i∧i.zero = some zv∧i.size = k∧k ≠ 0∧i.bytes ≤ 65536∧qak P e = some zz∧zz.cells = z∧z.length = k∧
  (∀γ imm,qh γ imm z zv.cells.toList):=by
 unfold qee at he
 split at he
 ·rename_i i zz hi hz
  split at he
  ·cases he
  ·rename_i hh
   cases he
   have hz':=hz
   unfold qak at hz'
   rw [hi] at hz'
   simp only at hz'
   obtain ⟨zv,hz1,hz2⟩:=qk (by simpa [Option.bind_eq_bind] using hz')
   exact ⟨i,zz,zv,hi,hz1,rfl,by omega,by omega,hz,rfl,by omega,fun γ imm=>qd9 hz2⟩
 ·cases he
theorem qiW {ty:TypeId} {z:qa} (hz:qak P ty = some z) (w:World):∃u,(zeroValue ty).run P w = .ok u w∧(∀γ imm,qn γ imm z u):=by
 unfold qak at hz
 split at hz
 ·rename_i i hi
  obtain ⟨v,h1,h2⟩:=qk (by simpa [Option.bind_eq_bind] using hz)
  exact ⟨v,by simp [zeroValue,typeInfo,hi,h1],fun γ imm=>(qcr h2).1⟩
 ·cases hz
theorem qlg {ty:TypeId} {z:qa} (hz:qjz P ty = some z) (w:World):∃u,(zeroValue ty).run P w = .ok u w∧(∀γ imm,qn γ imm z u):=by
 unfold qjz at hz
 split at hz
 ·rename_i i hi
  split at hz
  ·rename_i h1
   cases hz
   exact ⟨.slice none 0 0,by simp [zeroValue,typeInfo,hi,h1],fun γ imm=>by simp [qn]⟩
  ·obtain ⟨v,h1,h2⟩:=qk (by simpa [Option.bind_eq_bind] using hz)
   exact ⟨v,by simp [zeroValue,typeInfo,hi,h1],fun γ imm=>(qcr h2).1⟩
 ·cases hz
theorem qyw (hc:Cfg P gl G h t a w) {o:Oper} (hO:qfp P gl o) {ty e:TypeId} {l c:Operand} {al ac:ql} {k:Nat} {z:List qa} (ho:o.op = .makeSlice ty l c) (hu:P.underlying ty = some (.slice e)) (he:qee P e = some (k,z))
  (hl:opd gl l = some al) (hcc:opd gl c = some ac) {base:Nat} {r:qa×List qg×Bool} (hrun:hop base (.mk k z) [ev t al,ev t ac] h = some r):Did P gl G w a o h.length r.2.1 (AE.put o.dst r.1.dim t)∧h.length ≤ r.2.1.length:=by
 obtain ⟨i,zz,zv,hi,hz1,hk,hk0,hby,hz,hzc,hzl,hzr⟩:=qdg he
 have hvl:=qv hc.rel hc.tr hl
 have hvc:=qv hc.rel hc.tr hcc
 generalize hl':ev t al = xl at hrun hvl
 generalize hc':ev t ac = xc at hrun hvc
 unfold hop at hrun
 split at hrun <;> (try (rename_i hq _;cases hq;done)) <;> (try (rename_i hq;cases hq;done)) <;> (try (cases hrun;done))
 rename_i k' z' k1 n1 k2 n2 hq hq2
 cases hq
 simp only [List.cons.injEq,and_true] at hq2
 obtain ⟨rfl,rfl⟩:=hq2
 split at hrun
 ·rename_i hh
  obtain ⟨g1,g2,g3,g4⟩:=hh
  cases hrun
  simp only [qe.V,qn] at hvl hvc
  subst hk
  have hb:(i.bytes:Int) * n2 ≤ 281474976710656:=by
   have h1:(i.bytes:Int) * n2 ≤ 65536 * 2 ^ 24:=Int.mul_le_mul (by omega) g3 (by omega) (by omega)
   omega
  have hr:=run_make (P:=P) w ty e i zv hu hi hz1 k1 k2 n1 n2 g1 g2 hb (by omega)
  refine ⟨qbY hc hO (ob:=.cells (madeCells zv.cells (n2.toNat * i.size)) e) (u:=.slice (some ⟨w.heap.size,0,none⟩) n1.toNat n2.toNat) ?_ (fun G' hx=>?_) (fun G' hg=>?_) rfl,by simp⟩
  ·simp only [execOp,ho]
   exact qaA (by rw [hvl,hvc];exact hr)
  ·refine ⟨_,e,qD w _,qdD ?_,fun o xs k v ho _=>(qhu ho).elim⟩
   exact (qfa (hzr _ _) i.size n2.toNat hzl hk0).dims
  ·simp only [qe.V,qn]
   exact ⟨_,n2.toNat,hg,rfl,by omega,Nat.le_refl _,fun _=>rfl,fun hh=>absurd rfl hh⟩
 ·cases hrun
theorem qhM (t:List qa):∀qs:List (Nat×ql),((qs.map (·.1)).zip ((qs.map (·.2)).map (ev t))) = qs.map fun q=>(q.1,ev t q.2)
 | []=>rfl
 | q :: qs=>by simp only [List.map_cons,List.zip_cons_cons,qhM t qs]
theorem qg9:∀(parts:List (Nat×Nat×qa)) (xs ys:List qa),qaY xs parts = some ys→ys.length = xs.length
 | [],xs,ys,hf=>by simp only [qaY,Option.some.injEq] at hf;rw [hf]
 | (off,size,x) :: ps,xs,ys,hf=>by
  simp only [qaY] at hf
  split at hf
  ·rename_i hh
   rw [qg9 ps _ _ hf]
   simp only [splice,List.length_append,List.length_take,List.length_drop]
   omega
  ·cases hf
theorem qvn (hc:Cfg P gl G h t a w) {o:Oper} (hO:qfp P gl o) {ty e:TypeId} {ps:Array (Nat×Operand)} {qs:List (Nat×ql)} {len k:Nat} {z:List qa} (ho:o.op = .buildSlice ty len ps) (hu:P.underlying ty = some (.slice e)) (he:qee P e = some (k,z))
  (hps:qem gl ps.toList = some qs) {base:Nat} {r:qa×List qg×Bool} (hrun:hop base (.lit k z len (qs.map (·.1))) ((qs.map (·.2)).map (ev t)) h = some r):Did P gl G w a o h.length r.2.1 (AE.put o.dst r.1.dim t)∧h.length ≤ r.2.1.length:=by
 obtain ⟨i,zz,zv,hi,hz1,hk,hk0,hby,hz,hzc,hzl,hzr⟩:=qdg he
 have hsz:qck P e = some k:=by simp [qck,hi,hk]
 have hzu:(zeroValue e).run P w = .ok zv w:=by simp [zeroValue,typeInfo,hi,hz1]
 simp only [hop] at hrun
 split at hrun
 ·rename_i hcond
  split at hrun
  ·rename_i cs hcs
   cases hrun
   obtain ⟨h1,h2⟩:=qdk hc.rel hc.tr k hps
   have hcs':qaY ((List.replicate len z).flatten) (qs.map fun (i,x)=>(i * k,k,ev t x)) = some cs:=by
    rw [←hcs,qhM,List.map_map]
    rfl
   have hu0:zv.cells.size = k:=by have:=(hzr G.γ G.imm).length;simp at this;omega
   obtain ⟨c',e1,e2⟩:=qdC (γ:=G.γ) (imm:=G.imm) (fun i=>some (i * k,k)) (ps.toList.map fun (i,x)=>(i,a.eval x)) (qs.map fun (i,x)=>(i * k,k,ev t x)) _ _ cs (qfa (hzr _ _) k len hzl hk0) (by simpa using h1)
    (fun n i v off size x hn hn'=>by
     simp only [List.getElem?_map,Option.map_eq_some_iff] at hn hn'
     obtain ⟨⟨i',x'⟩,hn1,hn2⟩:=hn
     obtain ⟨⟨off',ax'⟩,hn3,hn4⟩:=hn'
     simp only [Prod.mk.injEq] at hn2 hn4
     obtain ⟨rfl,rfl⟩:=hn2
     obtain ⟨rfl,rfl,rfl⟩:=hn4
     obtain ⟨rfl,q2⟩:=h2 n _ _ _ _ hn1 hn3
     exact ⟨rfl,q2⟩) hcs'
   refine ⟨qbY hc hO (ob:=.cells c' e) (u:=.slice (some ⟨w.heap.size,0,none⟩) len len) ?_ (fun G' hx=>⟨c',e,qD w _,qdD (hx.VL e2).dims,fun o xs k v ho _=>(qhu ho).elim⟩) (fun G' hg=>?_) rfl,by simp⟩
   ·simp only [execOp,ho]
    refine qaA ?_
    have hlim:¬ (len * k > 2 ^ 24):=by omega
    have e4:(ps.map fun (i,x)=>(i,a.eval x)).toList = ps.toList.map fun (i,x)=>(i,a.eval x):=by simp
    by_cases hz0:len * k = 0
    ·have hl0:len = 0:=by rcases Nat.mul_eq_zero.1 hz0 with h | h;exact h;exact absurd h hk0
     subst hl0
     simp only [Nat.zero_mul] at e1
     have e1':Instr.fill (fun i=>some (i * k,k)) ((Array.range 0).map ((#[]:Array Value)[· % (#[]:Array Value).size]!)) (ps.toList.map fun (i,x)=>(i,a.eval x)) = some c':=by
      have e0:∀f:Nat→Value,(Array.range 0).map f = #[]:=fun f=>by apply Array.ext';simp
      rw [e0] at e1 ⊢
      exact e1
     simp only [Instr.buildSlice,Sem.run_bind,run_underlying hu,Result.andThen_ok,qae hsz,Nat.zero_mul,gt_iff_lt,Nat.not_lt_zero,if_false,Sem.run_pure,if_true,e4,e1']
     simp [newRow]
    ·simp only [Instr.buildSlice,Sem.run_bind,run_underlying hu,Result.andThen_ok,qae hsz,if_neg hlim,if_neg hz0,Sem.run_pure,hzu,e4,e1]
     simp [newRow]
   ·simp only [qe.V,qn]
    exact ⟨_,len,hg,rfl,Nat.le_refl _,Nat.le_refl _,fun _=>rfl,fun hh=>absurd rfl hh⟩
  ·cases hrun
 ·cases hrun
theorem qvo (hc:Cfg P gl G h t a w) {o:Oper} (hO:qfp P gl o) {ty:TypeId} (ho:o.op = .makeMap ty none) {base:Nat} {r:qa×List qg×Bool} (hrun:hop base .mkm [] h = some r) :
  Did P gl G w a o h.length r.2.1 (AE.put o.dst r.1.dim t)∧h.length ≤ r.2.1.length:=by
 simp only [hop,Option.some.injEq] at hrun
 subst hrun
 refine ⟨qbY hc hO (ob:=.map #[] 0) (u:=.map (some w.heap.size)) ?_ (fun G' hx=>⟨#[],qD w _,by simp [qt]⟩) (fun G' hg=>?_) rfl,by simp⟩
 ·simp only [execOp,ho]
  exact qaA rfl
 ·simp only [qe.V,qn]
  exact ⟨_,hg,rfl⟩
theorem qa3 {r:Nat} {es:Array MapEntry} {clock:Nat} (hb:w.heap[r]? = some (.map es clock)):(getObj r).run P w = .ok (.map es clock) w:=by
 simp [getObj,Sem.run,hb]
theorem qdo {r:Nat} {es:Array MapEntry} {clock:Nat} (o:Obj) (hb:w.heap[r]? = some (.map es clock)):(setObj r o).run P w = .ok () (w.putObj r o):=by
 simp [setObj,Sem.run,hb,World.putObj]
theorem qaT (hc:Cfg P gl G h t a w) {id:Nat} {v:Value} {es:List (Nat×qa×qa)} {c:Nat} (hv:G.V (.mp id) v) (hid:h[id]? = some (.map es c)):∃b me,v = .map (some b)∧G.γ id = some b∧w.heap[b]? = some (.map me c)∧qt G es me.toList:=by
 simp only [qe.V,qn] at hv
 obtain ⟨b,hb,rfl⟩:=hv
 obtain ⟨me,h1,h2⟩:=hc.rel.box id b _ hb hid
 exact ⟨b,me,rfl,hb,h1,h2⟩
theorem qtz (hc:Cfg P gl G h t a w) {o:Oper} {c:Go.Call} {x:Operand} {ty kt et:TypeId} {ax:ql} (ho:o.op = .call c) (hcal:c.callee = .builtin .len) (hargs:c.args.toList = [x]) (hty:c.argTypes.toList = [ty]) (hx:opd gl x = some ax)
  (hu:P.underlying ty = some (.map kt et)) {base:Nat} {r:qa×List qg×Bool} (hrun:hop base .mlen [ev t ax] h = some r):Did P gl G w a o h.length r.2.1 (AE.put o.dst r.1.dim t)∧h.length ≤ r.2.1.length:=by
 have hv:=qv hc.rel hc.tr hx
 have ea:c.args = #[x]:=by rw [←Array.toArray_toList (xs:=c.args),hargs]
 have et':c.argTypes = #[ty]:=by rw [←Array.toArray_toList (xs:=c.argTypes),hty]
 simp only [hop] at hrun
 split at hrun
 ·rename_i e
  rw [e] at hv
  simp only [qe.V,qn] at hv
  cases hrun
  exact ⟨qaq hc (u:=goInt 0) (by simp [execOp,ho,hcal,ea,et',resolve,invoke,builtin,Builtin.len_,run_underlying hu,hv]) (by simp [qe.V,qn,goInt,qa.dim]) rfl _,Nat.le_refl _⟩
 ·rename_i id e
  rw [e] at hv
  split at hrun
  ·rename_i es cl hid
   cases hrun
   obtain ⟨b,me,e1,e2,e3,e4⟩:=qaT hc hv hid
   have hl:me.size = es.length:=by simpa using e4.length
   exact ⟨qaq hc (u:=goInt me.size) (by simp [execOp,ho,hcal,ea,et',resolve,invoke,builtin,Builtin.len_,run_underlying hu,e1,qa3 e3]) (by simp [qe.V,qn,goInt,hl,qa.dim]) rfl _,Nat.le_refl _⟩
  ·cases hrun
 ·cases hrun
theorem qyv (hc:Cfg P gl G h t a w) {o:Oper} {ty kt et:TypeId} {x i:Operand} {ax ai:ql} {ok:Bool} {sh:qaX} {z:qa} (ho:o.op = .lookup ty x i ok) (hu:P.underlying ty = some (.map kt et)) (hs:qaf P kt = some sh) (hz:qjz P et = some z)
  (hx:opd gl x = some ax) (hi:opd gl i = some ai) {r:qa} (hrun:qhO h sh z ok (ev t ax) (ev t ai) = some r):Did P gl G w a o h.length h (AE.put o.dst r t):=by
 have hv:=qv hc.rel hc.tr hx
 have hk:=qv hc.rel hc.tr hi
 obtain ⟨zv,hzv,hzr⟩:=qlg hz w
 simp only [qhO] at hrun
 have fin:∀(es:List (Nat×qa×qa)) (me:List MapEntry) (em:Bool),qt G es me→
   (∀(q:Option (Nat×Value)),(Instr.findKey kt (a.eval i) me).run P w = .ok q w→(Instr.checkKey em 10000 kt (a.eval i)).run P w = .ok () w→
    (Instr.lookup ty (a.eval x) (a.eval i) ok).run P w = .ok (match q with | some (_,v)=>(if ok then .tuple #[v,.bool true] else v) | none=>(if ok then .tuple #[zv,.bool false] else zv)) w)→
   (match qc2 sh (ev t ai) es 0 with
    | some (some (_,v))=>some (if ok then qa.tup [v.dim,.bool true] else v.dim)
    | some none=>some (if ok then qa.tup [z.dim,.bool false] else z.dim)
    | none=>none) = some r→Did P gl G w a o h.length h (AE.put o.dst r t):=by
  intro es me em hm hlook hrr
  split at hrr
  ·rename_i j v hf
   cases hrr
   have hfit:=qbD hf
   obtain ⟨q,q1,q2⟩:=qbE hs hk hfit w hm hf
   obtain ⟨m,ent,ae,g1,g2,g3,g4,rfl,g6,g7,g8⟩:=q2
   have hl:=hlook _ q1 (qaS hs hk hfit em w)
   refine qaq hc (u:=if ok then .tuple #[ent.val,.bool true] else ent.val) (by simp only [execOp,ho];exact qaA hl) ?_ (by cases ok;exact qY _;rfl) _
   cases ok
   ·exact qS g6
   ·simp only [if_true,qe.V,qn,qh]
    exact ⟨_,rfl,_,_,rfl,qS g6,_,_,rfl,rfl,rfl⟩
  ·rename_i hf
   cases hrr
   have hfit:=qbD hf
   obtain ⟨q,q1,q2⟩:=qbE hs hk hfit w hm hf
   simp only [qf5] at q2
   subst q2
   have hl:=hlook _ q1 (qaS hs hk hfit em w)
   refine qaq hc (u:=if ok then .tuple #[zv,.bool false] else zv) (by simp only [execOp,ho];exact qaA hl) ?_ (by cases ok;exact qY _;rfl) _
   cases ok
   ·exact qS (hzr _ _)
   ·simp only [if_true,qe.V,qn,qh]
    exact ⟨_,rfl,_,_,rfl,qS (hzr _ _),_,_,rfl,rfl,rfl⟩
  ·cases hrr
 split at hrun
 ·rename_i es hes
  unfold qg5 at hes
  split at hes
  ·rename_i e
   rw [e] at hv
   simp only [qe.V,qn] at hv
   cases hes
   refine fin [] [] true rfl (fun q h1 h2=>?_) hrun
   simp only [Instr.lookup,Sem.run_bind,run_underlying hu,Result.andThen_ok,hv,Sem.run_pure]
   simp only [show (#[]:Array MapEntry).isEmpty = true from rfl,h2,Result.andThen_ok,h1]
   cases q with
   | none=>cases ok <;> simp [hzv]
   | some q=>cases ok <;> simp
  ·rename_i id e
   rw [e] at hv
   split at hes
   ·rename_i es' cl hid
    cases hes
    obtain ⟨b,me,e1,e2,e3,e4⟩:=qaT hc hv hid
    refine fin _ me.toList me.isEmpty e4 (fun q h1 h2=>?_) hrun
    simp only [Instr.lookup,Sem.run_bind,run_underlying hu,Result.andThen_ok,e1,qa3 e3,Sem.run_pure,h2,h1]
    cases q with
    | none=>cases ok <;> simp [hzv]
    | some q=>cases ok <;> simp
   ·cases hes
  ·cases hes
 ·cases hrun
theorem qje {old new:Value} (h:old = new) (hs:Instr.sameBits 10000 new new = true) (w:World):(Instr.keyThatStays old new).run P w = .ok new w:=by
 subst h
 simp [Instr.keyThatStays,hs]
theorem qvq (hc:Cfg P gl G h t a w) {o:Oper} (hO:qfp P gl o) {ty kt et:TypeId} {m i v:Operand} {am ai av:ql} {sh:qaX} (ho:o.op = .mapUpdate ty m i v) (hu:P.underlying ty = some (.map kt et)) (hs:qaf P kt = some sh)
  (hm:opd gl m = some am) (hi:opd gl i = some ai) (hv:opd gl v = some av) {base:Nat} {r:qa×List qg×Bool} (hrun:hop base (.mup sh) [ev t am,ev t ai,ev t av] h = some r):Did P gl G w a o h.length r.2.1 (AE.put o.dst r.1.dim t)∧h.length ≤ r.2.1.length:=by
 have hmv:=qv hc.rel hc.tr hm
 have hk:=qv hc.rel hc.tr hi
 have hvv:=qv hc.rel hc.tr hv
 generalize hme:ev t am = xm at hrun hmv
 unfold hop at hrun
 split at hrun <;> (try (rename_i hq _;cases hq;done)) <;> (try (rename_i hq;cases hq;done)) <;> (try (cases hrun;done))
 rename_i sh' id key v' hq hq2
 cases hq
 simp only [List.cons.injEq,and_true] at hq2
 obtain ⟨rfl,rfl,rfl⟩:=hq2
 split at hrun
 ·rename_i es c hid
  obtain ⟨b,me,e1,e2,e3,e4⟩:=qaT hc hmv hid
  split at hrun
  ·rename_i j old hf
   cases hrun
   have hfit:=qbD hf
   obtain ⟨q,q1,q2⟩:=qbE hs hk hfit w e4 hf
   obtain ⟨m',ent,ae,g1,g2,g3,g4,rfl,g6,g7,g8⟩:=q2
   have hj:j = m':=by omega
   subst hj
   have g2':me[j]? = some ent:=by simpa using g2
   refine ⟨qcd hc hO e2 hid e3 (es':=es.modify j fun e=>(e.1,ev t ai,ev t av)) (c':=c) (me':=me.modify j fun e=>{ e with key:=a.eval i,val:=a.eval v}) (nx:=.skip) (u:=undef) ?_ (.inr ⟨rfl,rfl⟩) ?_ (by simp [qe.V,qn,qh,undef,qa.dim]) rfl _,by simp⟩
   ·simp only [execOp,ho,e1]
    simp only [Instr.mapUpdate,Sem.run_bind,run_underlying hu,Result.andThen_ok,qa3 e3,qaS hs hk hfit false w,q1,g2',Option.map_some,Option.getD_some,qje g7 (qjg hs hk hfit) w,qdo _ e3,Sem.run_pure]
    try rfl
   ·rw [Array.toList_modify]
    refine qt.modify ?_ j e4
    intro x e h1 h2 h3
    exact ⟨h1,hk,hvv⟩
  ·rename_i hf
   cases hrun
   have hfit:=qbD hf
   obtain ⟨q,q1,q2⟩:=qbE hs hk hfit w e4 hf
   simp only [qf5] at q2
   subst q2
   refine ⟨qcd hc hO e2 hid e3 (es':=es ++ [(c,ev t ai,ev t av)]) (c':=c + 1) (me':=me.push { key:=a.eval i,val:=a.eval v,born:=c}) (nx:=.skip) (u:=undef) ?_ (.inr ⟨rfl,rfl⟩) ?_ (by simp [qe.V,qn,qh,undef,qa.dim]) rfl _,by simp⟩
   ·simp only [execOp,ho,e1]
    simp only [Instr.mapUpdate,Sem.run_bind,run_underlying hu,Result.andThen_ok,qa3 e3,qaS hs hk hfit false w,q1,qdo _ e3,Sem.run_pure]
    try rfl
   ·rw [Array.toList_push]
    exact qt.append rfl hk hvv e4
  ·cases hrun
 ·cases hrun
theorem qtx (hc:Cfg P gl G h t a w) {o:Oper} (hO:qfp P gl o) {ty kt et:TypeId} {m i:Operand} {am ai:ql} {sh:qaX} {z:qa} (ho:o.op = .mapEntry ty m i) (hu:P.underlying ty = some (.map kt et)) (hs:qaf P kt = some sh) (hz:qak P et = some z)
  (hm:opd gl m = some am) (hi:opd gl i = some ai) {base:Nat} {r:qa×List qg×Bool} (hrun:hop base (.ment sh z) [ev t am,ev t ai] h = some r):Did P gl G w a o h.length r.2.1 (AE.put o.dst r.1.dim t)∧h.length ≤ r.2.1.length:=by
 have hmv:=qv hc.rel hc.tr hm
 have hk:=qv hc.rel hc.tr hi
 obtain ⟨zv,hzv,hzr⟩:=qiW hz w
 generalize hme:ev t am = xm at hrun hmv
 unfold hop at hrun
 split at hrun <;> (try (rename_i hq _;cases hq;done)) <;> (try (rename_i hq;cases hq;done)) <;> (try (cases hrun;done))
 rename_i sh' z' id key hq hq2
 cases hq
 simp only [List.cons.injEq,and_true] at hq2
 obtain ⟨rfl,rfl⟩:=hq2
 split at hrun
 ·rename_i es c hid
  obtain ⟨b,me,e1,e2,e3,e4⟩:=qaT hc hmv hid
  split at hrun
  ·rename_i j old hf
   split at hrun
   ·rename_i ae' hae
    cases hrun
    have hfit:=qbD hf
    obtain ⟨q,q1,q2⟩:=qbE hs hk hfit w e4 hf
    obtain ⟨m',ent,ae,g1,g2,g3,g4,rfl,g6,g7,g8⟩:=q2
    have hj:j = m':=by omega
    subst hj
    rw [hae] at g3;cases g3
    have g2':me[j]? = some ent:=by simpa using g2
    refine ⟨qcd hc hO e2 hid e3 (es':=es.modify j fun e=>(e.1,ev t ai,e.2.2)) (c':=c) (me':=me.modify j fun e=>{ e with key:=a.eval i}) (nx:=.value (.tuple #[ent.val,goInt ent.born])) (u:=.tuple #[ent.val,goInt ent.born]) ?_ (.inl rfl) ?_ ?_ (qY _) _,by simp⟩
    ·simp only [execOp,ho,e1]
     refine qaA ?_
     simp only [Instr.mapEntry,Sem.run_bind,run_underlying hu,Result.andThen_ok,qa3 e3,qaS hs hk hfit false w,q1,g2',Option.map_some,Option.getD_some,qje g7 (qjg hs hk hfit) w,qdo _ e3,Sem.run_pure]
     try rfl
    ·rw [Array.toList_modify]
     refine qt.modify ?_ j e4
     intro x e h1 h2 h3
     exact ⟨h1,hk,h3⟩
    ·refine qS ?_
     simp only [qe.V,qn,qh]
     exact ⟨_,rfl,_,_,rfl,qS g6,_,_,rfl,by simp [goInt,g8],rfl⟩
   ·cases hrun
  ·rename_i hf
   cases hrun
   have hfit:=qbD hf
   obtain ⟨q,q1,q2⟩:=qbE hs hk hfit w e4 hf
   simp only [qf5] at q2
   subst q2
   refine ⟨qcd hc hO e2 hid e3 (es':=es ++ [(c,ev t ai,z.dim)]) (c':=c + 1) (me':=me.push { key:=a.eval i,val:=zv,born:=c}) (nx:=.value (.tuple #[zv,goInt c])) (u:=.tuple #[zv,goInt c]) ?_ (.inl rfl) ?_ ?_ (qY _) _,by simp⟩
   ·simp only [execOp,ho,e1]
    refine qaA ?_
    simp only [Instr.mapEntry,Sem.run_bind,run_underlying hu,Result.andThen_ok,qa3 e3,qaS hs hk hfit false w,q1,hzv,qdo _ e3,Sem.run_pure]
    try rfl
   ·rw [Array.toList_push]
    exact qt.append rfl hk (qS (hzr _ _)) e4
   ·refine qS ?_
    simp only [qe.V,qn,qh]
    exact ⟨_,rfl,_,_,rfl,qS (hzr _ _),_,_,rfl,by simp [goInt],rfl⟩
  ·cases hrun
 ·cases hrun
theorem qhb {G:qe} {n:Int}:∀{es:List (Nat×qa×qa)} {me:List MapEntry},qt G es me→me.findIdx? (fun e=>(e.born:Int) == n) = es.findIdx? (fun e=>(e.1:Int) == n)
 | [],_,h=>by simp only [qt] at h;subst h;rfl
 | y :: es,me,hm=>by
  simp only [qt] at hm
  obtain ⟨e,rest,rfl,g1,g2,g3,g4⟩:=hm
  simp only [List.findIdx?_cons,g1,qhb g4]
theorem qvp (hc:Cfg P gl G h t a w) {o:Oper} (hO:qfp P gl o) {ty:TypeId} {m i v:Operand} {am ai av:ql} (ho:o.op = .entryStore ty m i v)
  (hm:opd gl m = some am) (hi:opd gl i = some ai) (hv:opd gl v = some av) {base:Nat} {r:qa×List qg×Bool} (hrun:hop base .mst [ev t am,ev t ai,ev t av] h = some r):Did P gl G w a o h.length r.2.1 (AE.put o.dst r.1.dim t)∧h.length ≤ r.2.1.length:=by
 have hmv:=qv hc.rel hc.tr hm
 have hk:=qv hc.rel hc.tr hi
 have hvv:=qv hc.rel hc.tr hv
 generalize hme:ev t am = xm at hrun hmv
 generalize hie:ev t ai = xi at hrun hk
 unfold hop at hrun
 split at hrun <;> (try (rename_i hq _;cases hq;done)) <;> (try (rename_i hq;cases hq;done)) <;> (try (cases hrun;done))
 rename_i id k1 n1 v' hq hq2
 simp only [List.cons.injEq,and_true] at hq2
 obtain ⟨rfl,rfl,rfl⟩:=hq2
 split at hrun
 ·rename_i es c hid
  obtain ⟨b,me,e1,e2,e3,e4⟩:=qaT hc hmv hid
  simp only [qe.V,qn] at hk
  split at hrun
  ·rename_i j hf
   cases hrun
   have hfb:=qhb (n:=n1) e4
   rw [hf] at hfb
   have hfb:me.findIdx? (fun e=>(e.born:Int) == n1) = some j:=by
    rw [←hfb]
    conv=>lhs;rw [←Array.toArray_toList (xs:=me)]
    exact List.findIdx?_toArray ..
   refine ⟨qcd hc hO e2 hid e3 (es':=es.modify j fun e=>(e.1,e.2.1,ev t av)) (c':=c) (me':=me.modify j fun e=>{ e with val:=a.eval v}) (nx:=.skip) (u:=undef) ?_ (.inr ⟨rfl,rfl⟩) ?_ (by simp [qe.V,qn,qh,undef,qa.dim]) rfl _,by simp⟩
   ·simp only [execOp,ho,e1]
    simp only [Instr.entryStore,Sem.run_bind,qa3 e3,Result.andThen_ok,hk,asInt,asIntOf,Sem.run_pure,hfb,qdo _ e3]
    try rfl
   ·rw [Array.toList_modify]
    refine qt.modify ?_ j e4
    intro x e h1 h2 h3
    exact ⟨h1,h2,hvv⟩
  ·cases hrun
 ·cases hrun
theorem qhc:∀s:List UInt8,qdp (qgl s) = qgl s
 | []=>rfl
 | c :: s=>by
  have:=qhc s
  simp only [qdp,qgl,List.map_cons,List.flatMap_cons,qa.cells,List.singleton_append] at this ⊢
  rw [this]
theorem qqN (s:List UInt8):∀y ∈ qgl s,y.dim = y:=by
 intro y hy
 simp only [qgl,List.mem_map] at hy
 obtain ⟨c,_,rfl⟩:=hy
 rfl
theorem qn3 (cs:List qa):∀y ∈ cs.map qa.dim,y.dim = y:=by
 intro y hy
 obtain ⟨x,_,rfl⟩:=List.mem_map.1 hy
 exact qY x
theorem qgA (hr:Rel P gl G h w) {v:qa} {val:Value} (hv:G.V v val) {k m:Nat} {ys:List qa} (hrow:qfx k h v = some (ys,m)):(∀y ∈ ys,y.dim = y)∧ys.length = m * k∧∃nv:List Value,G.VL ys nv∧
  (∀w1:World,(∀q,w1.cell? q = w.cell? q)→(Builtin.firstCells k m val).run P w1 = .ok nv.toArray w1)∧(Builtin.lenOf val).run P w = .ok m w:=by
 unfold qfx at hrow
 split at hrow
 ·rename_i xs f
  split at hrow
  ·rename_i hk
   cases hrow
   have hk':∀x ∈ xs,x.cells.length = k:=fun x hx=>by
    rw [List.all_eq_true] at hk
    simpa using hk x hx
   obtain ⟨vs,h1,h2,h3⟩:=qeK (P:=P) hr hv hk'
   exact ⟨qn3 _,by simp [qce hk'],vs,qh.dims h1,h2,h3⟩
  ·cases hrow
 ·rename_i s
  split at hrow
  ·rename_i hk
   cases hrow
   obtain ⟨vs,h1,h2,h3⟩:=qfF (P:=P) (w:=w) hv
   rw [qhc] at h1
   exact ⟨qqN s,by simp [qgl,hk],vs,h1,fun w1 _=>h2 k w1,h3⟩
  ·cases hrow
 ·rename_i id o len cap more
  split at hrow
  ·rename_i cs hid
   split at hrow
   ·rename_i hfit
    cases hrow
    simp only [qe.V,qn] at hv
    obtain ⟨b,c,hb,rfl,h1,h2,_⟩:=hv
    obtain ⟨cc,e,g1,g2,_⟩:=hr.box id b _ hb hid
    have hle:=qcP g2
    have hlen:(((cc.toList.take cs.length).drop o).take (m * k)).length = m * k:=by simp at hle ⊢;omega
    refine ⟨qn3 _,by simp;omega,((cc.toList.take cs.length).drop o).take (m * k),qh.dims (qh.take _ (qh.drop _ g2)),fun w1 hw1=>?_,by simp [Builtin.lenOf]⟩
    have:=run_loadCells_list (P:=P) w1 ⟨b,o,none⟩ (((cc.toList.take cs.length).drop o).take (m * k)) (fun j v hj=>by
     have hjl:=(List.getElem?_eq_some_iff.1 hj).1
     rw [hlen] at hjl
     rw [List.getElem?_take_of_lt hjl,List.getElem?_drop,List.getElem?_take_of_lt (by omega)] at hj
     rw [qaC,hw1]
     simp only [World.cell?,g1]
     simpa using hj)
    rw [hlen] at this
    simp [Builtin.firstCells,this]
   ·cases hrow
  ·cases hrow
 ·cases hrow
  simp only [qe.V,qn] at hv
  subst hv
  exact ⟨by simp,by simp,[],by simp [qe.VL,qh],fun w1 _=>by simp [Builtin.firstCells],by simp [Builtin.lenOf]⟩
 ·cases hrow
  simp only [qe.V,qn] at hv
  obtain ⟨b,rfl⟩:=hv
  exact ⟨by simp,by simp,[],by simp [qe.VL,qh],fun w1 _=>by simp [Builtin.firstCells,loadCells,loadCellsFrom],by simp [Builtin.lenOf]⟩
 ·cases hrow
theorem qHw {γ:Nat→Option Nat} {imm:Nat→Nat→Option Value} {ys:List qa} {nv:List Value} (h:qh γ imm ys nv) (hs:ys.all qa.storable = true):∀v ∈ nv,v.oneCell' = true:=by
 have:qn γ imm (.agg ys) (.agg nv.toArray):=by simp only [qn];exact ⟨_,rfl,by simpa using h⟩
 have:=(qaN this hs).2
 simpa [Value.cells] using this
theorem qvj (hc:Cfg P gl G h t a w) {o:Oper} (hO:qfp P gl o) {c:Go.Call} {x y:Operand} {sT xT e:TypeId} {ux:TypeDesc} {ax ay:ql} {k:Nat} {z:List qa} (ho:o.op = .call c) (hcal:c.callee = .builtin .append)
  (hargs:c.args.toList = [x,y]) (hty:c.argTypes.toList = [sT,xT]) (hu:P.underlying sT = some (.slice e)) (hux:P.underlying xT = some ux) (hux':(∃e',ux = .slice e')∨ux = .string) (he:qee P e = some (k,z))
  (hx:opd gl x = some ax) (hy:opd gl y = some ay) {base:Nat} {r:qa×List qg×Bool} (hrun:hop base (.app k) [ev t ax,ev t ay] h = some r):Did P gl G w a o h.length r.2.1 (AE.put o.dst r.1.dim t)∧h.length ≤ r.2.1.length:=by
 obtain ⟨i,zz,zv,hi,hz1,hk,hk0,hby,hz,hzc,hzl,hzr⟩:=qdg he
 have ea:c.args = #[x,y]:=by rw [←Array.toArray_toList (xs:=c.args),hargs]
 have et:c.argTypes = #[sT,xT]:=by rw [←Array.toArray_toList (xs:=c.argTypes),hty]
 have hxv:=qv hc.rel hc.tr hx
 have hyv:=qv hc.rel hc.tr hy
 have hxdim:=qg6 t ax
 have hu0:∀w1:World,(zeroValue e).run P w1 = .ok zv w1:=fun w1=>by simp [zeroValue,typeInfo,hi,hz1]
 have hu0r:zv.cells.size = i.size:=by have:=(hzr G.γ G.imm).length;simp at this;omega
 have hrunE:∀{v:Value} {w1:World} {bs:Option Addr} {len cap:Nat},a.eval x = .slice bs len cap→(Builtin.append_ #[sT,xT] o.type #[.slice bs len cap,a.eval y]).run P w = .ok v w1→(execOp a.eval o).run P w = .ok (.value v) w1:=by
  intro v w1 bs len cap hval hr
  simp [execOp,ho,hcal,ea,et,resolve,invoke,builtin,hval,hr]
 simp only [hop,qfG] at hrun
 split at hrun
 ·cases hrun
 rename_i ys m hrow
 split at hrun
 ·cases hrun
 rename_i hst
 have hst:ys.all qa.storable = true:=by simpa using hst
 obtain ⟨d1,d2,nv,n1,n2,n3⟩:=qgA (P:=P) hc.rel hyv hrow
 have n4:=qHw n1 hst
 subst hk
 have hnl:nv.length = m * i.size:=by rw [←n1.length];exact d2
 have none0:∀{bs:Option Addr} {len cap:Nat},a.eval x = .slice bs len cap→len ≤ cap→m = 0→Did P gl G w a o h.length h (AE.put o.dst (ev t ax).dim t):=by
  intro bs len cap hval hle hm
  subst hm
  have hnv:nv = []:=List.eq_nil_of_length_eq_zero (by omega)
  subst hnv
  have hf0:=n2 w (fun _=>rfl)
  have hsz:(sizeOf e).run P w = .ok i.size w:=by simp [sizeOf,typeInfo,hi]
  have hap:(Builtin.append_ #[sT,xT] o.type #[.slice bs len cap,a.eval y]).run P w = .ok (.slice bs len cap) w:=by
   rcases hux' with ⟨e',rfl⟩ | rfl <;> cases bs <;> simp [Builtin.append_,run_underlying hu,run_underlying hux,hsz,n3,hle,hf0,storeCells]
  exact qaq hc (hrunE hval hap) (by rw [←hval];exact qS hxv) (qY _) _
 have fresh:∀{h0:List qg} (_:Cfg P gl G h0 t a w) {bs:Option Addr} {len cap:Nat} {os:List qa} {ov:List Value},h0.length = h.length→a.eval x = .slice bs len cap→G.VL os ov→(∀q ∈ os,q.dim = q)→os.length = len * i.size→
   (∀w1:World,(∀q,w1.cell? q = w.cell? q)→(Builtin.firstCells i.size len (.slice bs len cap)).run P w1 = .ok ov.toArray w1)→len + m ≤ qcB→m ≠ 0→cap < len + m→
   Did P gl G w a o h.length (h0 ++ [.cells (os ++ ys)]) (AE.put o.dst (qa.sl h.length 0 (len + m) (len + m) i.size).dim t):=by
  intro h0 hc0 bs len cap os ov hl0 hval ho1 ho2 ho3 ho4 hlim hm hcap
  have hol:ov.length = len * i.size:=by rw [←ho1.length];exact ho3
  obtain ⟨hA,_,_⟩:=qcK (P:=P) (w:=w) hu hux hux' hi n3 o.type ov nv n2 ho4 hlim hby hu0 hu0r hol hnl
  obtain ⟨newCap,d,cc,g1,g2,g3,g4⟩:=hA hcap
  have:=qpM hc0 hO (hrunE hval g2) (cs:=os ++ ys) (us:=ov ++ nv) (qh.append ho1 n1) g4 g3 hk0 g1 (by omega) (fun q hq=>by
   rcases List.mem_append.1 hq with hq | hq
   ·exact ho2 q hq
   ·exact d1 q hq)
  rw [hl0] at this
  exact this
 split at hrun
 ·
  rename_i xs hxe
  have hxv':=hxv
  rw [hxe] at hxv'
  simp only [qe.V,qn] at hxv'
  obtain ⟨bs,len,cap,hval,q1,q2,q3,q4,_,_⟩:=hxv'
  split at hrun
  ·rename_i hm
   cases hrun
   refine ⟨?_,Nat.le_refl _⟩
   exact none0 hval q2 hm
  ·rename_i hm
   split at hrun
   ·rename_i os n hro
    split at hrun
    ·rename_i hlim
     cases hrun
     obtain ⟨e1,e2,ov,o1,o2,o3⟩:=qgA (P:=P) hc.rel hxv hro
     rw [hval] at o2 o3
     have hn:n = len:=by simpa [Builtin.lenOf] using o3.symm
     subst hn
     exact ⟨fresh hc rfl hval o1 e1 e2 o2 hlim hm (by have:=q3 trivial;omega),by simp⟩
    ·cases hrun
   ·cases hrun
 ·
  rename_i id p0 len cap more hxe
  have hxv':=hxv
  rw [hxe] at hxv'
  simp only [qe.V,qn] at hxv'
  obtain ⟨b,cp,hb,hval,q1,q2,q3,q4⟩:=hxv'
  split at hrun
  ·rename_i hm
   cases hrun
   refine ⟨?_,Nat.le_refl _⟩
   exact none0 hval (by omega) hm
  ·rename_i hm
   split at hrun
   ·rename_i hlim
    split at hrun
    ·
     rename_i hcap
     split at hrun
     ·rename_i h' e' hput
      cases hrun
      unfold qew at hput
      split at hput
      ·rename_i cs hid
       split at hput
       ·rename_i hfit
        cases hput
        obtain ⟨cc,te,g1,g2,_⟩:=hc.rel.box id b _ hb hid
        have hle:=qcP g2
        have hro:qfx i.size h (ev t ax) = some (((cs.drop p0).take (len * i.size)).map qa.dim,len):=by
         rw [hxe]
         simp only [qfx,hid]
         rw [if_pos (by omega)]
        obtain ⟨e1,e2,ov,o1,o2,o3⟩:=qgA (P:=P) hc.rel hxv hro
        rw [hval] at o2
        have hol:ov.length = len * i.size:=by rw [←o1.length];exact e2
        obtain ⟨_,hB,_⟩:=qcK (P:=P) (w:=w) hu hux hux' hi n3 o.type ov nv n2 o2 hlim hby hu0 hu0r hol hnl
        have hfz:p0 + (len + m) * i.size ≤ cc.size:=by
         rw [Nat.add_mul]
         simp at hle
         omega
        have hr:=hB (by omega) b p0 rfl cc te g1 hfz n4
        refine ⟨ql4 hc hO hb hid hfit.1 d1 g1 n1 (hrunE hval hr) (.inl rfl) ?_ rfl _,by simp⟩
        simp only [qe.V,qn,qa.dim]
        exact ⟨b,cp,hb,rfl,hcap,q2,q3,q4⟩
       ·cases hput
      ·cases hput
     ·cases hrun
    ·rename_i hcap
     split at hrun
     ·rename_i os n ds hro hid
      obtain ⟨e1,e2,ov,o1,o2,o3⟩:=qgA (P:=P) hc.rel hxv hro
      rw [hval] at o2 o3
      have hn:n = len:=by simpa [Builtin.lenOf] using o3.symm
      subst hn
      split at hrun
      ·rename_i hm0
       cases hrun
       exact ⟨fresh hc rfl hval o1 e1 e2 o2 hlim hm (by have:=q3 hm0;omega),by simp⟩
      ·rename_i hm0
       split at hrun
       ·rename_i hcond
        obtain ⟨rfl,rfl,hcd⟩:=hcond
        cases hrun
        have hck:Cfg P gl G (h.set id .dead) t a w:=⟨hc.rel.kill id,hc.tr⟩
        by_cases hcp:n + m ≤ cp
        ·
         have hmk:=q4 hm0
         obtain ⟨k0,cc,te,g1,g2⟩:=hc.rel.immK b _ hmk
         have hol:ov.length = n * i.size:=by rw [←o1.length];exact e2
         obtain ⟨_,hB,_⟩:=qcK (P:=P) (w:=w) hu hux hux' hi n3 o.type ov nv n2 o2 hlim hby hu0 hu0r hol hnl
         have hfz:0 + (n + m) * i.size ≤ cc.size:=by
          have:=Nat.mul_le_mul_right i.size hcp
          omega
         have hr:=hB hcp b 0 rfl cc te g1 hfz n4
         have hfit:0 + n * i.size + nv.length ≤ cc.toList.length:=by
          rw [hnl,Nat.add_assoc,←Nat.add_mul]
          simpa using hfz
         have hov:∀(j:Nat) (v:Value),ov[j]? = some v→cc[j]? = some v:=fun j v hj=>by
          obtain ⟨cc',te',g1',g2',_⟩:=hc.rel.box id b _ hb hid
          rw [g1] at g1'
          cases g1'
          have hj':=(List.getElem?_eq_some_iff.1 hj).1
          have h1:=o2 w (fun _=>rfl)
          have h2:=run_loadCells_list (P:=P) w ⟨b,0,none⟩ (cc.toList.take (n * i.size)) (fun j v hj=>by
           have hjl:=(List.getElem?_eq_some_iff.1 hj).1
           rw [List.getElem?_take_of_lt (by simp at hjl;omega)] at hj
           rw [qaC]
           simp only [World.cell?,g1,Nat.zero_add]
           simpa using hj)
          have h3:(cc.toList.take (n * i.size)).length = n * i.size:=by simp at hfit ⊢;omega
          rw [h3] at h2
          simp only [Builtin.firstCells] at h1
          rw [h2] at h1
          simp only [Result.ok.injEq,and_true] at h1
          have h4:ov = cc.toList.take (n * i.size):=by
           have:=congrArg Array.toList h1
           simpa using this.symm
          rw [h4,List.getElem?_take_of_lt (by omega)] at hj
          simpa using hj
         have:=ql0 hck hO (id:=id) (cs:=os ++ ys) (us:=ov ++ nv) (k:=i.size) (len:=n + m) (cap:=cp) (p:=0 + n * i.size) hb (fun j hj=>by
           rcases hc.rel.inj j id b hj hb with h1 | h1 | h1
           ·subst h1;exact List.getElem?_set_self (List.getElem?_eq_some_iff.1 hid).1
           ·exact qcN hid (by simp) h1
           ·rw [hid] at h1;cases h1) (fun o v hv=>Classical.byContradiction fun hm=>by have:=hc.rel.immγ _ o v id hv hm hb;rw [hid] at this;cases this) g1 (by simpa using hfit) (hrunE hval hr) (qh.append o1 n1) (fun j v hj=>by
           by_cases hjn:j < ov.length
           ·rw [List.getElem?_append_left hjn] at hj
            rw [(qap (cs:=cc.toList) (vs:=nv) (o:=0 + n * i.size) (i:=j) hfit).1 (.inl (by omega))]
            simpa using hov j v hj
           ·rw [List.getElem?_append_right (by omega)] at hj
            have hjl:=(List.getElem?_eq_some_iff.1 hj).1
            rw [(qap (cs:=cc.toList) (vs:=nv) (o:=0 + n * i.size) (i:=j) hfit).2 (by omega) (by omega)]
            rw [show j - (0 + n * i.size) = j - ov.length by omega]
            exact hj) hmk hk0 hcp (fun q hq=>by
           rcases List.mem_append.1 hq with hq | hq
           ·exact e1 q hq
           ·exact d1 q hq)
         rw [List.length_set] at this
         exact ⟨this,by simp⟩
        ·exact ⟨fresh hck (by simp) hval o1 e1 e2 o2 hlim hm (by omega),by simp⟩
       ·cases hrun
     ·cases hrun
   ·cases hrun
 ·rename_i hxe
  have hxv':=hxv
  rw [hxe] at hxv'
  simp only [qe.V,qn] at hxv'
  split at hrun
  ·rename_i hm
   cases hrun
   exact ⟨none0 hxv' (Nat.le_refl _) hm,Nat.le_refl _⟩
  ·rename_i hm
   split at hrun
   ·rename_i hlim
    cases hrun
    have:=fresh hc rfl hxv' (os:=[]) (ov:=[]) (by simp [qe.VL,qh]) (by simp) (by simp) (fun w1 _=>by simp [Builtin.firstCells]) (by omega) hm (by omega)
    exact ⟨by simpa using this,by simp⟩
   ·cases hrun
 ·cases hrun
theorem qtA (hc:Cfg P gl G h t a w) {o:Oper} {ty e:TypeId} {x hi mx:Operand} {lo:Option Operand} {ax al ah am:ql} {k:Nat} (ho:o.op = .slice ty x lo (some hi) (some mx)) (hu:P.underlying ty = some (.slice e)) (hk:qck P e = some k)
  (hx:opd gl x = some ax) (hlo:qtU gl lo = some al) (hhi:opd gl hi = some ah) (hmx:opd gl mx = some am) {base:Nat} {r:qa×List qg×Bool}
  (hrun:hop base (.sub3 k) [ev t ax,ev t al,ev t ah,ev t am] h = some r):Did P gl G w a o h.length r.2.1 (AE.put o.dst r.1.dim t)∧h.length ≤ r.2.1.length:=by
 have hxv:=qv hc.rel hc.tr hx
 have hhv:=qv hc.rel hc.tr hhi
 have hmv:=qv hc.rel hc.tr hmx
 have hlv:∀k1 n1,ev t al = .int k1 n1→(lo = none∧n1 = 0)∨∃l,lo = some l∧a.eval l = .int k1 n1:=by
  intro k1 n1 hl
  cases lo with
  | none=>
   simp only [qtU,Option.some.injEq] at hlo
   subst hlo
   simp only [ev,raw,qa.dim,qa.int.injEq] at hl
   exact .inl ⟨rfl,hl.2.symm⟩
  | some l=>
   have:=qv hc.rel hc.tr hlo
   rw [hl] at this
   exact .inr ⟨l,rfl,by simpa [qe.V,qn] using this⟩
 unfold hop at hrun
 split at hrun <;> (try (rename_i hq _;cases hq;done)) <;> (try (rename_i hq;cases hq;done)) <;> (try (cases hrun;done))
 rename_i k' x' k1 n1 k2 n2 k3 n3 hq hq2
 cases hq
 simp only [List.cons.injEq,and_true] at hq2
 obtain ⟨rfl,q1,q2,q3⟩:=hq2
 rw [q2] at hhv
 rw [q3] at hmv
 have hlv2:=hlv _ _ q1
 simp only [qe.V,qn] at hhv hmv
 split at hrun
 rotate_left
 ·cases hrun
 rename_i hle
 have run3:∀bs len cap,a.eval x = .slice bs len cap→n3.toNat ≤ cap→(execOp a.eval o).run P w = .ok (.value (.slice (if n3.toNat = n1.toNat then bs else bs.map (·.add (n1.toNat * k))) (n2.toNat - n1.toNat) (n3.toNat - n1.toNat))) w:=by
  intro bs len cap hval hcap
  have b3:0 ≤ n3∧n3 ≤ (cap:Int):=⟨by omega,by omega⟩
  have b2:0 ≤ n2∧n2 ≤ max n3 0:=⟨by omega,by omega⟩
  have b1:0 ≤ n1∧n1 ≤ max n2 0:=⟨by omega,by omega⟩
  simp only [execOp,ho]
  refine qaA ?_
  rcases hlv2 with ⟨rfl,rfl⟩ | ⟨l,rfl,hl2⟩
  ·simp [Instr.sliceAt,Instr.slice,run_underlying hu,hval,Instr.sliceBounds,Instr.sliceBound,hhv,hmv,asIntOf,b3,b2,qae hk]
  ·simp [Instr.sliceAt,Instr.slice,run_underlying hu,hval,Instr.sliceBounds,Instr.sliceBound,hhv,hmv,hl2,asIntOf,b3,b2,b1,qae hk]
 split at hrun
 ·rename_i xs f hxe
  rw [hxe] at hxv
  simp only [qe.V,qn] at hxv
  obtain ⟨bs,len,cap,hval,g1,g2,g3,g4,g6,g5⟩:=hxv
  split at hrun
  ·rename_i hm
   have hr:=run3 bs len cap hval (by omega)
   split at hrun
   ·rename_i heq
    cases hrun
    refine ⟨qaq hc hr ?_ (qY _) _,Nat.le_refl _⟩
    refine qS ?_
    simp only [qe.V,qn]
    exact ⟨_,_,_,rfl,by simp;omega,by omega,fun _=>by omega,fun _=>by omega,⟨0,by simp⟩,.inl trivial⟩
   ·rename_i hne
    split at hrun
    ·rename_i hh
     obtain ⟨rfl,rfl,h3⟩:=hh
     cases hrun
     refine ⟨qaq hc hr ?_ (qY _) _,Nat.le_refl _⟩
     refine qS ?_
     have hbs:(if n2.toNat = (0:Int).toNat then bs else bs.map (·.add ((0:Int).toNat * k))) = bs:=by
      rw [if_neg (by simp;omega)]
      cases bs with
      | none=>rfl
      | some b0=>
       have:b0.add 0 = b0:=by unfold Addr.add;split <;> simp_all
       simp [this]
     rw [hbs]
     simp only [qe.V,qn]
     exact ⟨bs,_,_,rfl,by simp;omega,by omega,fun _=>by omega,fun hn=>by have:=g4 hn;simp;omega,g6,g5⟩
    ·cases hrun
  ·cases hrun
 ·rename_i id p0 len cap more hxe
  rw [hxe] at hxv
  simp only [qe.V,qn] at hxv
  obtain ⟨b,c,hb,hval,g1,g2,g3,g4⟩:=hxv
  split at hrun
  ·rename_i hm
   have hr:=run3 _ len c hval (by omega)
   split at hrun
   ·rename_i heq
    cases hrun
    refine ⟨qaq hc hr ?_ (qY _) _,Nat.le_refl _⟩
    refine qS ?_
    simp only [qe.V,qn]
    exact ⟨_,_,_,rfl,by simp;omega,by omega,fun _=>by omega,fun _=>by omega,⟨0,by simp⟩,.inl trivial⟩
   ·rename_i hne
    cases hrun
    refine ⟨qaq hc hr ?_ (qY _) _,Nat.le_refl _⟩
    refine qS ?_
    rw [if_neg (by omega)]
    simp only [qe.V,qn,Option.map_some,qaC]
    exact ⟨b,_,hb,rfl,by omega,Nat.le_refl _,fun _=>rfl,fun hh=>absurd rfl hh⟩
  ·cases hrun
 ·cases hrun
theorem qmI (hc:Cfg P gl G h t a w) {o:Oper} {op:BinOp} {ty yt:TypeId} {x y:Operand} {ax ay:ql} {sh:qaX} {v:qa} (ho:o.op = .binOp op ty x y yt) (hx:opd gl x = some ax) (hy:opd gl y = some ay)
  (hop:op = .eql∨op = .neq) (hst:qaR (P.underlying ty) = true) (hg:P.eqGuardType P.depth ty = false) (hs:qaf P ty = some sh) (hp:pureV t (.eqs sh (qc3 op) ax ay) = some v):qav P G w a o v:=by
 have hvx:=qv hc.rel hc.tr hx
 have hvy:=qv hc.rel hc.tr hy
 simp only [pureV] at hp
 obtain ⟨r,hr,rfl⟩:=qaM hp
 obtain ⟨h1,_⟩:=qjf hs hvx hvy hr w
 obtain ⟨fx,fy,_⟩:=qcv hr
 obtain ⟨_,_,_,_,_,x4,x5,_⟩:=qaE hs hvx fx
 obtain ⟨_,_,_,_,_,y4,_,_⟩:=qaE hs hvy fy
 rw [hst] at x5
 obtain ⟨cx,ex⟩:=x4 x5
 obtain ⟨cy,ey⟩:=y4 x5
 rw [ex,ey] at h1
 have hb:=qdt op hop ty (.agg cx) (.agg cy) _ w h1 (by simp) (by simp) (by simp) (by simp)
 have hgd:(eqGuard op ty x y (.agg cx) (.agg cy)).run P w = .ok () w:=by
  have hpr:∀w1:World,(Sem.program Sem.pure).run P w1 = .ok P w1:=fun _=>rfl
  rcases hop with rfl | rfl <;> simp [eqGuard,program,hpr,hg]
 exact ⟨_,by simp [execOp,ho,ex,ey,hgd,hb];rfl,by simp [qe.V,qn],rfl⟩
theorem qmP (hc:Cfg P gl G h t a w) {o:Oper} {op:BinOp} {ty yt e:TypeId} {x y:Operand} {ax:ql} {v:qa} (ho:o.op = .binOp op ty x y yt) (hx:opd gl x = some ax) (hop:op = .eql∨op = .neq) (hy:qnp y = true)
  (hu:P.underlying ty = some (.slice e)) (hp:pureV t (.nls (qc3 op) ax) = some v):qav P G w a o v:=by
 have hvx:=qv hc.rel hc.tr hx
 have hye:a.eval y = .slice none 0 0:=by
  unfold qnp at hy
  split at hy
  ·rfl
  ·cases hy
 have key:∀b len cap,a.eval x = .slice (some b) len cap→(execOp a.eval o).run P w = .ok (.value (.bool (false != qc3 op))) w:=by
  intro b len cap hval
  have he:(Op.equal ty (.slice (some b) len cap) (.slice none 0 0)).run P w = .ok false w:=by
   have key:∀d,(Op.equalIn (d + 1) ty (.slice (some b) len cap) (.slice none 0 0)).run P w = .ok false w:=fun d=>by simp [Op.equalIn,run_underlying hu]
   exact key 9999
  have hb:=qdt op hop ty _ _ _ w he (by simp) (by simp) (by simp) (by simp)
  have hgd:(eqGuard op ty x y (.slice (some b) len cap) (.slice none 0 0)).run P w = .ok () w:=by
   rcases hop with rfl | rfl <;> simp [eqGuard]
  simp [execOp,ho,hval,hye,hgd,hb]
 simp only [pureV] at hp
 split at hp
 ·rename_i id off len cap more e1
  rw [e1] at hvx
  simp only [qe.V,qn] at hvx
  obtain ⟨b,c,hb,hval,_⟩:=hvx
  cases hp
  exact ⟨_,key _ _ _ hval,by simp [qe.V,qn],rfl⟩
 ·rename_i z zs f e1
  rw [e1] at hvx
  simp only [qe.V,qn] at hvx
  obtain ⟨bs,len,cap,hval,_,_,_,_,_,h5⟩:=hvx
  cases hp
  rcases h5 with h5 | ⟨b,p,rfl,_⟩
  ·cases h5
  ·exact ⟨_,key _ _ _ hval,by simp [qe.V,qn],rfl⟩
 ·rename_i e1
  rw [e1] at hvx
  simp only [qe.V,qn] at hvx
  cases hp
  have he:(Op.equal ty (.slice none 0 0) (.slice none 0 0)).run P w = .ok true w:=by
   have key:∀d,(Op.equalIn (d + 1) ty (.slice none 0 0) (.slice none 0 0)).run P w = .ok true w:=fun d=>by simp [Op.equalIn,run_underlying hu]
   exact key 9999
  have hb:=qdt op hop ty _ _ _ w he (by simp) (by simp) (by simp) (by simp)
  have hgd:(eqGuard op ty x y (.slice none 0 0) (.slice none 0 0)).run P w = .ok () w:=by
   rcases hop with rfl | rfl <;> simp [eqGuard]
  exact ⟨.bool (true != qc3 op),by simp [execOp,ho,hvx,hye,hgd,hb],by simp [qe.V,qn],rfl⟩
 ·rename_i e1
  rw [e1] at hvx
  simp only [qe.V,qn] at hvx
  obtain ⟨b,hval⟩:=hvx
  cases hp
  exact ⟨_,key _ _ _ hval,by simp [qe.V,qn],rfl⟩
 ·cases hp
theorem qty (hc:Cfg P gl G h t a w) {o:Oper} (hO:qfp P gl o) {ty kt et:TypeId} {x:Operand} {ax:ql} (ho:o.op = .makeMap ty (some x)) (hu:P.underlying ty = some (.map kt et)) (hx:opd gl x = some ax) {base:Nat} {r:qa×List qg×Bool}
  (hrun:hop base .mkm [ev t ax] h = some r):Did P gl G w a o h.length r.2.1 (AE.put o.dst r.1.dim t)∧h.length ≤ r.2.1.length:=by
 have hxv:=qv hc.rel hc.tr hx
 unfold hop at hrun
 split at hrun <;> (try (rename_i hq _;cases hq;done)) <;> (try (rename_i hq;cases hq;done)) <;> (try (cases hrun;done))
 rename_i k n hq hq2
 simp only [List.cons.injEq,and_true] at hq2
 rw [hq2] at hxv
 simp only [qe.V,qn] at hxv
 cases hrun
 refine ⟨qbY hc hO (ob:=.map #[] 0) (u:=.map (some w.heap.size)) ?_ (fun G' hx=>⟨#[],qD w _,by simp [qt]⟩) (fun G' hg=>?_) rfl,by simp⟩
 ·simp only [execOp,ho]
  refine qaA ?_
  simp only [Option.map_some,hxv,Instr.makeMap,Sem.run_bind,run_underlying hu,Result.andThen_ok,asInt,asIntOf,Sem.run_pure]
  rfl
 ·simp only [qe.V,qn]
  exact ⟨_,hg,rfl⟩
theorem qt.erase {G:qe}:∀{es:List (Nat×qa×qa)} {me:List MapEntry} (i:Nat),qt G es me→qt G (es.eraseIdx i) (me.eraseIdx i)
 | [],me,i,h=>by simp only [qt] at h;subst h;simp [qt]
 | x :: es,me,i,h=>by
  simp only [qt] at h
  obtain ⟨e,rest,rfl,h1,h2,h3,h4⟩:=h
  cases i with
  | zero=>exact h4
  | succ i=>
   simp only [List.eraseIdx_cons_succ,qt]
   exact ⟨e,_,rfl,h1,h2,h3,qt.erase i h4⟩
theorem qt.filter {G:qe} (q:Nat→Bool):∀{es:List (Nat×qa×qa)} {me:List MapEntry},qt G es me→qt G (es.filter fun e=>q e.1) (me.filter fun e=>q e.born)
 | [],me,h=>by simp only [qt] at h;subst h;simp [qt]
 | x :: es,me,h=>by
  simp only [qt] at h
  obtain ⟨e,rest,rfl,h1,h2,h3,h4⟩:=h
  have ih:=qt.filter q h4
  simp only [List.filter_cons,h1]
  cases q x.1 with
  | false=>simpa using ih
  | true=>simp only [if_true,qt];exact ⟨e,_,rfl,h1,h2,h3,ih⟩
theorem qt.all {G:qe} (q:Nat→Bool):∀{es:List (Nat×qa×qa)} {me:List MapEntry},qt G es me→me.all (fun e=>q e.born) = es.all fun e=>q e.1
 | [],me,h=>by simp only [qt] at h;subst h;rfl
 | x :: es,me,h=>by
  simp only [qt] at h
  obtain ⟨e,rest,rfl,h1,h2,h3,h4⟩:=h
  simp only [List.all_cons,h1,qt.all q h4]
theorem qt.find {G:qe} (q:Nat→Bool):∀{es:List (Nat×qa×qa)} {me:List MapEntry} {x:Nat×qa×qa},qt G es me→es.find? (fun e=>q e.1) = some x→∃e,me.find? (fun e=>q e.born) = some e∧G.V x.2.1 e.key∧G.V x.2.2 e.val
 | [],me,x,h,hf=>by simp at hf
 | y :: es,me,x,h,hf=>by
  simp only [qt] at h
  obtain ⟨e,rest,rfl,h1,h2,h3,h4⟩:=h
  simp only [List.find?_cons] at hf ⊢
  rw [h1]
  cases hq:q y.1 with
  | true=>rw [hq] at hf;cases hf;exact ⟨e,rfl,h2,h3⟩
  | false=>rw [hq] at hf;exact qt.find q h4 hf
theorem qvk (hc:Cfg P gl G h t a w) {o:Oper} (hO:qfp P gl o) {c:Go.Call} {m i:Operand} {ty ty2 kt et:TypeId} {am ai:ql} {sh:qaX} (ho:o.op = .call c) (hcal:c.callee = .builtin .delete) (hargs:c.args.toList = [m,i]) (hty:c.argTypes.toList = [ty,ty2])
  (hu:P.underlying ty = some (.map kt et)) (hs:qaf P kt = some sh) (hm:opd gl m = some am) (hi:opd gl i = some ai) {base:Nat} {r:qa×List qg×Bool} (hrun:hop base (.del sh) [ev t am,ev t ai] h = some r) :
  Did P gl G w a o h.length r.2.1 (AE.put o.dst r.1.dim t)∧h.length ≤ r.2.1.length:=by
 have ea:c.args = #[m,i]:=by rw [←Array.toArray_toList (xs:=c.args),hargs]
 have et':c.argTypes = #[ty,ty2]:=by rw [←Array.toArray_toList (xs:=c.argTypes),hty]
 have hmv:=qv hc.rel hc.tr hm
 have hk:=qv hc.rel hc.tr hi
 generalize hme:ev t am = xm at hrun hmv
 have run:∀{w1:World},(Builtin.delete_ #[ty,ty2] o.type #[a.eval m,a.eval i]).run P w = .ok (.tuple #[]) w1→(execOp a.eval o).run P w = .ok (.value (.tuple #[])) w1:=by
  intro w1 hr
  simp [execOp,ho,hcal,ea,et',resolve,invoke,builtin,hr]
 simp only [hop] at hrun
 split at hrun
 ·split at hrun
  ·rename_i hfit
   cases hrun
   simp only [qe.V,qn] at hmv
   refine ⟨qaq hc (u:=.tuple #[]) (run ?_) (by simp [qe.V,qn,qh,qa.dim]) rfl _,Nat.le_refl _⟩
   simp [Builtin.delete_,run_underlying hu,hmv,qaS hs hk hfit true w]
  ·cases hrun
 ·rename_i id
  split at hrun
  ·rename_i es c' hid
   obtain ⟨b,me,e1,e2,e3,e4⟩:=qaT hc hmv hid
   split at hrun
   ·rename_i j old hf
    cases hrun
    have hfit:=qbD hf
    obtain ⟨q,q1,q2⟩:=qbE hs hk hfit w e4 hf
    obtain ⟨m',ent,ae,g1,g2,g3,g4,rfl,g6,g7,g8⟩:=q2
    have hj:j = m':=by omega
    subst hj
    refine ⟨qcd hc hO e2 hid e3 (es':=es.eraseIdx j) (c':=c') (me':=me.eraseIdxIfInBounds j) (nx:=.value (.tuple #[])) (u:=.tuple #[]) (run ?_) (.inl rfl) ?_ (by simp [qe.V,qn,qh,qa.dim]) rfl _,by simp⟩
    ·simp [Builtin.delete_,run_underlying hu,e1,qa3 e3,qaS hs hk hfit me.isEmpty w,q1,qdo _ e3]
    ·have:(me.eraseIdxIfInBounds j).toList = me.toList.eraseIdx j:=by
      unfold Array.eraseIdxIfInBounds
      split
      ·simp
      ·rename_i hh;simp at hh;rw [List.eraseIdx_of_length_le (by simpa using hh)]
     rw [this]
     exact e4.erase j
   ·rename_i hf
    cases hrun
    have hfit:=qbD hf
    obtain ⟨q,q1,q2⟩:=qbE hs hk hfit w e4 hf
    simp only [qf5] at q2
    subst q2
    refine ⟨qcd hc hO e2 hid e3 (es':=es) (c':=c') (me':=me) (nx:=.value (.tuple #[])) (u:=.tuple #[]) (run ?_) (.inl rfl) e4 (by simp [qe.V,qn,qh,qa.dim]) rfl _,by simp⟩
    simp [Builtin.delete_,run_underlying hu,e1,qa3 e3,qaS hs hk hfit me.isEmpty w,q1,qdo _ e3]
   ·cases hrun
  ·cases hrun
 ·cases hrun
theorem qvs (hc:Cfg P gl G h t a w) {o:Oper} (hO:qfp P gl o) {ty kt et:TypeId} {x:Operand} {ax:ql} (ho:o.op = .range ty x) (hu:P.underlying ty = some (.map kt et)) (hx:opd gl x = some ax) {base:Nat} {r:qa×List qg×Bool}
  (hrun:hop base .rng [ev t ax] h = some r):Did P gl G w a o h.length r.2.1 (AE.put o.dst r.1.dim t)∧h.length ≤ r.2.1.length:=by
 have hxv:=qv hc.rel hc.tr hx
 generalize hxe:ev t ax = xm at hrun hxv
 simp only [hop] at hrun
 split at hrun
 ·cases hrun
  simp only [qe.V,qn] at hxv
  refine ⟨qbY hc hO (ob:=.mapIter none 0 #[] 0) (u:=.pointer (some ⟨w.heap.size,0,none⟩)) ?_ (fun G' hx=>⟨none,qD w _,by simp [qn]⟩) (fun G' hg=>?_) rfl,by simp⟩
  ·simp only [execOp,ho]
   refine qaA ?_
   simp [Instr.range,run_underlying hu,hxv]
  ·simp only [qe.V,qn,qa.dim]
   exact ⟨_,hg,rfl⟩
 ·rename_i id
  split at hrun
  ·rename_i es c hid
   cases hrun
   obtain ⟨b,me,e1,e2,e3,e4⟩:=qaT hc hxv hid
   refine ⟨qbY hc hO (ob:=.mapIter (some b) c #[] c) (u:=.pointer (some ⟨w.heap.size,0,none⟩)) ?_ (fun G' hx=>⟨some b,qD w _,?_⟩) (fun G' hg=>?_) rfl,by simp⟩
   ·simp only [execOp,ho]
    refine qaA ?_
    simp [Instr.range,run_underlying hu,e1,qa3 e3]
   ·simp only [qe.V,qn]
    exact ⟨b,hx.gk _ _ e2,rfl⟩
   ·simp only [qe.V,qn,qa.dim]
    exact ⟨_,hg,rfl⟩
  ·cases hrun
 ·cases hrun
theorem qet {r:Nat} {m:Option Nat} {s l:Nat} {seen:Array Nat} (hb:w.heap[r]? = some (.mapIter m s seen l)):(getObj r).run P w = .ok (.mapIter m s seen l) w:=by
 simp [getObj,Sem.run,hb]
theorem qrw {r:Nat} {m:Option Nat} {s l:Nat} {seen:Array Nat} (o:Obj) (hb:w.heap[r]? = some (.mapIter m s seen l)):(setObj r o).run P w = .ok () (w.putObj r o):=by
 simp [setObj,Sem.run,hb,World.putObj]
theorem qpN (hc:Cfg P gl G h t a w) {o:Oper} (hop:qfp P gl o) {id b:Nat} (hb:G.γ id = some b) {m:qa} {since last last':Nat} {seen seen':List Nat} {mm:Option Nat} (hid:h[id]? = some (.iter m since seen last))
  (hM:w.heap[b]? = some (.mapIter mm since seen.toArray last)) (hm:G.V m (.map mm)) {u:Value} {x:qa} (h1:(execOp a.eval o).run P w = .ok (.value u) (w.putObj b (.mapIter mm since seen'.toArray last'))) (hx:G.V x u) (hd:x.dim = x) (n:Nat) :
  Did P gl G w a o n (h.set id (.iter m since seen' last')) (AE.put o.dst x t):=by
 have hb':qdq P gl G (w.putObj b (.mapIter mm since seen'.toArray last')) id (.iter m since seen' last') b:=⟨mm,World.putObj_heap_same (Array.getElem?_eq_some_iff.1 hM).1,hm⟩
 have hext:Ext n G w G (w.putObj b (.mapIter mm since seen'.toArray last')):=by
  refine ⟨fun _ _ h=>h,fun _ _ h=>.inl h,fun _ _ _ h=>h,fun _ _ _ h=>.inl h,fun _ h=>.inl h,by simp,fun b' _ hf=>World.putObj_heap_other (fun e=>hf.1 id (by rw [hb,e])),fun b' L hL=>?_,rfl,rfl,rfl⟩
  have:b' ≠ b:=fun e=>by subst e;rw [hM] at hL;cases hL
  exact ⟨L,by rw [World.putObj_heap_other this];exact hL,rfl,rfl,rfl,rfl,rfl,rfl⟩
 exact ⟨_,u,_,G,h1,.inl rfl,fun _ hq=>absurd hop hq,hext,(Cfg.mk (hc.rel.putBox hb hid (by simp) (fun c e hce=>by rw [hM] at hce;cases hce) hb') (hc.tr.putBox hc.rel hb _)).put o.dst hx hd⟩
theorem qtX {G:qe} {x:Nat×qa×qa} {me:List MapEntry} (h:qt G [x] me):∃e,me = [e]∧e.born = x.1∧G.V x.2.1 e.key∧G.V x.2.2 e.val:=by
 simp only [qt] at h
 obtain ⟨e,rest,rfl,h1,h2,h3,rfl⟩:=h
 exact ⟨e,rfl,h1,h2,h3⟩
theorem qvr (hc:Cfg P gl G h t a w) {o:Oper} (hO:qfp P gl o) {x:Operand} {ax:ql} (ho:o.op = .next x false) (hx:opd gl x = some ax) {base:Nat} {r:qa×List qg×Bool}
  (hrun:hop base .nxt [ev t ax] h = some r):Did P gl G w a o h.length r.2.1 (AE.put o.dst r.1.dim t)∧h.length ≤ r.2.1.length:=by
 have hxv:=qv hc.rel hc.tr hx
 generalize hxe:ev t ax = xm at hrun hxv
 unfold hop at hrun
 split at hrun <;> (try (rename_i hq _;cases hq;done)) <;> (try (rename_i hq;cases hq;done)) <;> (try (cases hrun;done))
 rename_i it hq hq2
 simp only [List.cons.injEq,and_true] at hq2
 subst hq2
 simp only [qe.V,qn] at hxv
 obtain ⟨b,hb,hval⟩:=hxv
 have over:G.V (qa.tup [.bool false]) (.tuple #[.bool false]):=by simp [qe.V,qn,qh]
 split at hrun
 ·rename_i since seen last hid
  cases hrun
  obtain ⟨mm,h1,h2⟩:=hc.rel.box it b _ hb hid
  simp only [qe.V,qn,Value.map.injEq] at h2
  subst h2
  refine ⟨qaq hc (u:=.tuple #[.bool false]) ?_ over rfl _,Nat.le_refl _⟩
  simp only [execOp,ho]
  refine qaA ?_
  simp [Instr.next,hval,qet h1]
 ·rename_i id since seen last hid
  obtain ⟨mm,h1,h2⟩:=hc.rel.box it b _ hb hid
  split at hrun
  ·rename_i es c hid2
   obtain ⟨mb,me,e1,e2,e3,e4⟩:=qaT hc h2 hid2
   simp only [Value.map.injEq] at e1
   subst e1
   split at hrun
   ·cases hrun
   rename_i hgone
   have hgone':(!seen.toArray.isEmpty && !me.isEmpty && me.all (fun e=>decide (e.born ≥ last))) = false:=by
    have h3:=e4.all (fun n=>Nat.ble last n)
    have h4:me.all (fun e=>decide (e.born ≥ last)) = me.toList.all (fun e=>Nat.ble last e.born):=by
     rw [←Array.all_toList]
     congr 1
     funext e
     rw [Bool.eq_iff_iff];simp
    have h5:me.isEmpty = es.isEmpty:=by
     have:=e4.length
     rw [Bool.eq_iff_iff]
     simp only [Array.isEmpty_iff_size_eq_zero,List.isEmpty_iff_length_eq_zero]
     simp at this
     omega
    rw [h4,h3,h5]
    simpa using hgone
   have hfl:=e4.filter (fun n=>!seen.contains n)
   have hleft:me.filter (fun e=>!seen.toArray.contains e.born) = (me.toList.filter fun e=>!seen.contains e.born).toArray:=by
    apply Array.ext'
    simp
   split at hrun
   ·rename_i hnil
    cases hrun
    rw [hnil] at hfl
    simp only [qt] at hfl
    refine ⟨qaq hc (u:=.tuple #[.bool false]) ?_ over rfl _,Nat.le_refl _⟩
    simp only [execOp,ho]
    refine qaA ?_
    simp only [Instr.next,hval,Sem.run_bind,qet h1,qa3 e3,Result.andThen_ok,hgone',hleft,hfl]
    simp [choose,Sem.run,Question.forced]
   ·rename_i e hone
    split at hrun
    ·rename_i hold
     cases hrun
     rw [hone] at hfl
     obtain ⟨e',g1,g2,g3,g4⟩:=qtX hfl
     have hold':e'.born < since:=by rw [g2];exact Eq.mp Nat.blt_eq hold
     refine ⟨qpN hc hO hb hid h1 h2 (u:=.tuple #[.bool true,e'.key,e'.val]) (seen':=seen ++ [e.1]) (last':=c) ?_ ?_ rfl _,by simp⟩
     ·simp only [execOp,ho]
      refine qaA ?_
      have hf1:(#[e']:Array MapEntry).filter (fun x=>decide (x.born < since)) = #[e']:=by simp [hold']
      have hf2:(#[e']:Array MapEntry).filter (fun x=>decide (x.born ≥ since)) = #[]:=by simp;omega
      simp only [Instr.next,hval,Sem.run_bind,qet h1,qa3 e3,Result.andThen_ok,hgone',hleft,g1,hf1,hf2]
      simp [choose,Sem.run,Question.forced,qrw _ h1,g2]
     ·simp only [qe.V,qn,qh,qa.dim]
      exact ⟨_,rfl,_,_,rfl,rfl,_,_,rfl,qS g3,_,_,rfl,qS g4,rfl⟩
    ·cases hrun
   ·cases hrun
  ·cases hrun
 ·cases hrun
theorem qvl (hc:Cfg P gl G h t a w) {o:Oper} {x:Operand} {ax:ql} (ho:o.op = .entry x) (hx:opd gl x = some ax) {base:Nat} {r:qa×List qg×Bool}
  (hrun:hop base .ent [ev t ax] h = some r):Did P gl G w a o h.length r.2.1 (AE.put o.dst r.1.dim t)∧h.length ≤ r.2.1.length:=by
 have hxv:=qv hc.rel hc.tr hx
 generalize hxe:ev t ax = xm at hrun hxv
 unfold hop at hrun
 split at hrun <;> (try (rename_i hq _;cases hq;done)) <;> (try (rename_i hq;cases hq;done)) <;> (try (cases hrun;done))
 rename_i it hq hq2
 simp only [List.cons.injEq,and_true] at hq2
 subst hq2
 simp only [qe.V,qn] at hxv
 obtain ⟨b,hb,hval⟩:=hxv
 split at hrun
 ·rename_i id since seen last hid
  obtain ⟨mm,h1,h2⟩:=hc.rel.box it b _ hb hid
  split at hrun
  ·rename_i es c born hid2 hlast
   obtain ⟨mb,me,e1,e2,e3,e4⟩:=qaT hc h2 hid2
   simp only [Value.map.injEq] at e1
   subst e1
   split at hrun
   ·rename_i hcl
    subst hcl
    split at hrun
    ·rename_i e hf
     cases hrun
     obtain ⟨e',g1,g2,g3⟩:=e4.find (fun n=>n == born) hf
     have hback:seen.toArray.back? = some born:=by simpa using hlast
     have hfind:me.find? (fun e=>e.born == born) = some e':=by rw [←Array.find?_toList];exact g1
     refine ⟨qaq hc (u:=.tuple #[e'.key,e'.val]) ?_ ?_ rfl _,Nat.le_refl _⟩
     ·simp only [execOp,ho]
      refine qaA ?_
      simp only [Instr.entry,hval,Sem.run_bind,qet h1,qa3 e3,Result.andThen_ok,hback,hfind]
      simp
     ·simp only [qe.V,qn,qh,qa.dim]
      exact ⟨_,rfl,_,_,rfl,qS g2,_,_,rfl,qS g3,rfl⟩
    ·cases hrun
   ·cases hrun
  ·cases hrun
 ·cases hrun
theorem qtr (hr:Rel P gl G h w) (ht:qW G w t a.tmps) {x:qa} {v:Value} {r:qa×List qg} (hv:G.V x v) (hf:frz h x = some r) (n:Nat) :
  ∃G',Rel P gl G' r.2 w∧qW G' w t a.tmps∧Ext n G w G' w∧G'.V r.1 v∧r.2.length = h.length:=by
 unfold frz at hf
 split at hf
 ·rename_i id o len cap more
  split at hf
  ·rename_i ds hid
   split at hf
   ·rename_i hcond
    obtain ⟨rfl,hlen,hst⟩:=hcond
    cases hf
    simp only [qe.V,qn] at hv
    obtain ⟨b,c0,hb,rfl,h1,h2,_,_⟩:=hv
    obtain ⟨c,e,hw,hcs,_⟩:=hr.box id b _ hb hid
    have hle:ds.length ≤ c.size:=by have:=qcP hcs;simpa using this
    obtain ⟨g1,g2,g3⟩:=qjZ (a:=a) hr ht hb hid hw hle n
    have hcs':qh (G.frozen b c ds.length).γ (G.frozen b c ds.length).imm (ds.map qa.dim) (c.toList.take ds.length):=qh.dims (g3.VL hcs)
    obtain ⟨k1,k2,k3⟩:=qfD (b:=b) (p:=0) (k:=ds.length / cap) (len:=len) hcs' (by simpa using hlen) hst (fun o u ho hm=>by
     have hlt:o < ds.length:=by have:=(List.getElem?_eq_some_iff.1 ho).1;simp at this;omega
     rw [List.getElem?_take_of_lt hlt] at ho
     simp only [qe.frozen]
     rw [if_pos ⟨trivial,by omega⟩]
     exact qaa.2 ⟨by simpa using ho,hm⟩)
    refine ⟨_,g1,g2,g3,?_,by simp⟩
    simp only [qe.V,qn]
    exact ⟨_,_,_,rfl,k3.symm,by omega,by simp,by simp,⟨_,k1⟩,.inr ⟨b,0,rfl,k2⟩⟩
   ·cases hf
  ·cases hf
 ·cases hf
theorem qgi:∀(cs:List qa) {G:qe} {h:List qg} {vs:List Value} (_:Rel P gl G h w) (_:qW G w t a.tmps) (_:G.VL cs vs) (n:Nat),
  ∃G',Rel P gl G' (qlj cs h).2 w∧qW G' w t a.tmps∧Ext n G w G' w∧G'.VL (qlj cs h).1 vs∧(qlj cs h).2.length = h.length
 | [],G,h,vs,hr,ht,hv,n=>⟨G,hr,ht,Ext.refl n G w,hv,rfl⟩
 | x :: xs,G,h,vs,hr,ht,hv,n=>by
  simp only [qe.VL,qh] at hv
  obtain ⟨v,rest,rfl,h1,h2⟩:=hv
  unfold qlj
  split
  ·rename_i y h' hf
   obtain ⟨G1,g1,g2,g3,g4,g5⟩:=qtr (a:=a) hr ht h1 hf n
   obtain ⟨G2,k1,k2,k3,k4,k5⟩:=qgi xs g1 g2 (g3.VL h2) n
   refine ⟨G2,k1,k2,g3.trans (Nat.le_refl _) k3,?_,k5.trans g5⟩
   simp only [qe.VL,qh]
   exact ⟨_,_,rfl,k3.V g4,k4⟩
  ·obtain ⟨G2,k1,k2,k3,k4,k5⟩:=qgi xs hr ht h2 n
   refine ⟨G2,k1,k2,k3,?_,k5⟩
   simp only [qe.VL,qh]
   exact ⟨_,_,rfl,k3.V h1,k4⟩
theorem qvm (hc:Cfg P gl G h t a w) {o:Oper} (hO:qfp P gl o) {ty:TypeId} {x:Operand} {ax:ql} {k:Option Nat} (ho:o.op = .load ty x) (hk:tyk P ty = some k) (hx:opd gl x = some ax) {base:Nat} {r:qa×List qg×Bool}
  (hrun:hop base (.ldz k) [ev t ax] h = some r):Did P gl G w a o h.length r.2.1 (AE.put o.dst r.1.dim t)∧h.length ≤ r.2.1.length:=by
 have hrun':(qb8 h (ev t ax) k).map (qxR h) = some r:=hrun
 obtain ⟨v,hl,rfl⟩:=qaM hrun'
 obtain ⟨u,h1,h2,h3⟩:=qnx hc.rel hk (qv hc.rel hc.tr hx) hl
 have h1':(execOp a.eval o).run P w = .ok (.value u) w:=by simp only [execOp,ho];exact qaA h1
 unfold qxR
 split
 ·rename_i cs
  simp only [qe.V,qn] at h2
  obtain ⟨y,rfl,h2⟩:=h2
  obtain ⟨G',k1,k2,k3,k4,k5⟩:=qgi (a:=a) cs hc.rel hc.tr h2 h.length
  refine ⟨⟨_,_,w,G',h1',.inl rfl,fun _ hq=>absurd hO hq,k3,(Cfg.mk k1 k2).put o.dst (qS ?_) (qY _)⟩,by simp only;omega⟩
  simp only [qe.V,qn]
  exact ⟨y,rfl,k4⟩
 ·exact ⟨⟨_,u,w,G,h1',.inl rfl,fun _ _ _ _=>rfl,Ext.refl _ G w,hc.put o.dst (qS h2) (qY _)⟩,Nat.le_refl _⟩
theorem qvd (hc:Cfg P gl G h t a w) {o:Oper} {ao:AOp} (hcomp:qec P gl o = some ao) {p:qby} {base:Nat} {call:AE.Call} {e:Bool} {x:Ex} {s':St}
  (hrun:qq base call p o.dst ao ⟨t,h,e⟩ = some (x,s')):x = .nor∧Did P gl G w a o h.length s'.h s'.t∧h.length ≤ s'.h.length:=by
 have hO:∀k as,ao = .hx k as→qfp P gl o:=fun k as e=>⟨k,as,e▸hcomp⟩
 have fin:∀{k:HOp} {as:List ql},ao = .hx k as→(∀r,hop base k (as.map (ev t)) h = some r→Did P gl G w a o h.length r.2.1 (AE.put o.dst r.1.dim t)∧h.length ≤ r.2.1.length)→
   x = .nor∧Did P gl G w a o h.length s'.h s'.t∧h.length ≤ s'.h.length:=by
  intro k as e1 hd
  subst e1
  simp only [qq] at hrun
  obtain ⟨r,hr,he⟩:=qaM hrun
  cases he
  obtain ⟨h1,h2⟩:=hd r hr
  exact ⟨rfl,h1,h2⟩
 unfold qec at hcomp
 split at hcomp
 ·
  rename_i ty l c ho
  split at hcomp
  ·rename_i et hu
   obtain ⟨⟨k,z⟩,he,hcomp⟩:=qk hcomp
   obtain ⟨al,hl,hcomp⟩:=qk hcomp
   obtain ⟨ac,hcc,hcomp⟩:=qk hcomp
   cases hcomp
   exact fin rfl fun r hr=>qyw hc (hO _ _ rfl) ho hu he hl hcc hr
  ·cases hcomp
 ·
  rename_i ty n ps ho
  split at hcomp
  ·split at hcomp
   ·rename_i et hu
    obtain ⟨⟨k,z⟩,he,hcomp⟩:=qk hcomp
    obtain ⟨qs,hq,hcomp⟩:=qk hcomp
    cases hcomp
    exact fin rfl fun r hr=>qvn hc (hO _ _ rfl) ho hu he hq hr
   ·cases hcomp
  ·cases hcomp
 ·
  rename_i ty y lo hi mx ho
  split at hcomp
  ·rename_i et hu
   obtain ⟨k,hk,hcomp⟩:=qk hcomp
   obtain ⟨ax,hx,hcomp⟩:=qk hcomp
   obtain ⟨al,hl,hcomp⟩:=qk hcomp
   obtain ⟨ah,hh,hcomp⟩:=qk hcomp
   obtain ⟨am,hm,hcomp⟩:=qk hcomp
   cases hcomp
   exact fin rfl fun r hr=>qtA hc ho hu hk hx hl hh hm hr
  ·cases hcomp
 ·
  rename_i ty ho
  cases hcomp
  exact fin rfl fun r hr=>qvo hc (hO _ _ rfl) ho hr
 ·
  rename_i ty y i ok ho
  split at hcomp
  ·rename_i kt et hu
   obtain ⟨sh,hs,hcomp⟩:=qk hcomp
   obtain ⟨z,hz,hcomp⟩:=qk hcomp
   obtain ⟨ax,hx,hcomp⟩:=qk hcomp
   obtain ⟨ai,hi,hcomp⟩:=qk hcomp
   cases hcomp
   simp only [qq] at hrun
   obtain ⟨r,hr,he⟩:=qaM hrun
   cases he
   exact ⟨rfl,qyv hc ho hu hs hz hx hi hr,Nat.le_refl _⟩
  ·cases hcomp
 ·
  rename_i ty m i v ho
  split at hcomp
  ·rename_i kt et hu
   obtain ⟨sh,hs,hcomp⟩:=qk hcomp
   obtain ⟨am,hm,hcomp⟩:=qk hcomp
   obtain ⟨ai,hi,hcomp⟩:=qk hcomp
   obtain ⟨av,hv,hcomp⟩:=qk hcomp
   cases hcomp
   exact fin rfl fun r hr=>qvq hc (hO _ _ rfl) ho hu hs hm hi hv hr
  ·cases hcomp
 ·
  rename_i ty m i ho
  split at hcomp
  ·rename_i kt et hu
   obtain ⟨sh,hs,hcomp⟩:=qk hcomp
   obtain ⟨z,hz,hcomp⟩:=qk hcomp
   obtain ⟨am,hm,hcomp⟩:=qk hcomp
   obtain ⟨ai,hi,hcomp⟩:=qk hcomp
   cases hcomp
   exact fin rfl fun r hr=>qtx hc (hO _ _ rfl) ho hu hs hz hm hi hr
  ·cases hcomp
 ·
  rename_i ty m i v ho
  obtain ⟨am,hm,hcomp⟩:=qk hcomp
  obtain ⟨ai,hi,hcomp⟩:=qk hcomp
  obtain ⟨av,hv,hcomp⟩:=qk hcomp
  cases hcomp
  exact fin rfl fun r hr=>qvp hc (hO _ _ rfl) ho hm hi hv hr
 ·
  rename_i ty x ho
  split at hcomp
  ·rename_i kt et hu
   obtain ⟨ax,hx,hcomp⟩:=qk hcomp
   cases hcomp
   exact fin rfl fun r hr=>qty hc (hO _ _ rfl) ho hu hx hr
  ·cases hcomp
 ·
  rename_i ty x ho
  split at hcomp
  ·rename_i kt et hu
   obtain ⟨ax,hx,hcomp⟩:=qk hcomp
   cases hcomp
   exact fin rfl fun r hr=>qvs hc (hO _ _ rfl) ho hu hx hr
  ·cases hcomp
 ·
  rename_i x ho
  obtain ⟨ax,hx,hcomp⟩:=qk hcomp
  cases hcomp
  exact fin rfl fun r hr=>qvr hc (hO _ _ rfl) ho hx hr
 ·
  rename_i x ho
  obtain ⟨ax,hx,hcomp⟩:=qk hcomp
  cases hcomp
  exact fin rfl fun r hr=>qvl hc ho hx hr
 ·
  rename_i ty x ho
  split at hcomp
  ·obtain ⟨k,hk,hcomp⟩:=qk hcomp
   obtain ⟨ax,hx,hcomp⟩:=qk hcomp
   cases hcomp
   exact fin rfl fun r hr=>qvm hc (hO _ _ rfl) ho hk hx hr
  ·cases hcomp
 ·
  rename_i op ty y z yt ho
  split at hcomp
  ·rename_i hcond
   simp only [Bool.and_eq_true] at hcond
   split at hcomp
   ·rename_i et hu
    obtain ⟨ay,hay,rfl⟩:=qaM hcomp
    have hop':op = .eql∨op = .neq:=by have h1:=hcond.1;cases op <;> simp [qtO] at h1 <;> simp
    simp only [qq] at hrun
    obtain ⟨v,hv,he⟩:=qaM hrun
    cases he
    exact ⟨rfl,qcs hc (qmP hc ho hay hop' hcond.2 hu hv) _,Nat.le_refl _⟩
   ·cases hcomp
  rename_i hcond0
  split at hcomp
  ·rename_i hcond
   simp only [Bool.and_eq_true,Bool.not_eq_true'] at hcond
   obtain ⟨⟨h1,h2⟩,h3⟩:=hcond
   obtain ⟨sh,hs,hcomp⟩:=qk hcomp
   obtain ⟨ay,hay,hcomp⟩:=qk hcomp
   obtain ⟨az,haz,hcomp⟩:=qk hcomp
   cases hcomp
   have hop':op = .eql∨op = .neq:=by cases op <;> simp [qtO] at h1 <;> simp
   simp only [qq] at hrun
   obtain ⟨v,hv,he⟩:=qaM hrun
   cases he
   exact ⟨rfl,qcs hc (qmI hc ho hay haz hop' h2 h3 hs hv) _,Nat.le_refl _⟩
  ·cases hcomp
 ·
  rename_i c ho
  split at hcomp
  ·rename_i b hcal
   split at hcomp
   ·rename_i y ty hargs hty
    split at hcomp
    ·rename_i kt et hu
     obtain ⟨ax,hx,hcomp⟩:=qk hcomp
     cases hcomp
     exact fin rfl fun r hr=>qtz hc ho hcal hargs hty hx hu hr
    ·cases hcomp
   ·rename_i y z sT xT hargs hty
    split at hcomp
    ·split at hcomp
     ·rename_i et ux hu hux
      split at hcomp
      ·cases hcomp
      ·rename_i hm
       obtain ⟨⟨k,zz⟩,he,hcomp⟩:=qk hcomp
       obtain ⟨ax,hx,hcomp⟩:=qk hcomp
       obtain ⟨ay,hy,hcomp⟩:=qk hcomp
       cases hcomp
       have hux':(∃e',ux = .slice e')∨ux = .string:=by
        cases ux <;> first | (exact .inl ⟨_,rfl⟩) | exact .inr rfl | (exfalso;exact hm rfl)
       exact fin rfl fun r hr=>qvj hc (hO _ _ rfl) ho hcal hargs hty hu hux hux' he hx hy hr
     ·cases hcomp
    ·cases hcomp
   ·rename_i y z sT xT hargs hty
    split at hcomp
    ·rename_i kt et hu
     obtain ⟨sh,hs,hcomp⟩:=qk hcomp
     obtain ⟨ax,hx,hcomp⟩:=qk hcomp
     obtain ⟨ay,hy,hcomp⟩:=qk hcomp
     cases hcomp
     exact fin rfl fun r hr=>qvk hc (hO _ _ rfl) ho hcal hargs hty hu hs hx hy hr
    ·cases hcomp
   ·cases hcomp
  ·cases hcomp
 ·cases hcomp
theorem qtw {o:Oper} {ao:AOp} (hcomp:qec P gl o = some ao):(∃k as,ao = .hx k as)∨(∃sh z ok m key ty p q r,ao = .lk sh z ok m key∧o.op = .lookup ty p q r)∨∃op ty p q r,((∃sh n x y,ao = .eqs sh n x y)∨∃n x,ao = .nls n x)∧o.op = .binOp op ty p q r:=by
 unfold qec at hcomp
 split at hcomp
 ·split at hcomp
  ·obtain ⟨⟨k,z⟩,he,hcomp⟩:=qk hcomp
   obtain ⟨al,hl,hcomp⟩:=qk hcomp
   obtain ⟨ac,hcc,hcomp⟩:=qk hcomp
   cases hcomp;exact .inl ⟨_,_,rfl⟩
  ·cases hcomp
 ·split at hcomp
  ·split at hcomp
   ·obtain ⟨⟨k,z⟩,he,hcomp⟩:=qk hcomp
    obtain ⟨qs,hq,hcomp⟩:=qk hcomp
    cases hcomp;exact .inl ⟨_,_,rfl⟩
   ·cases hcomp
  ·cases hcomp
 ·split at hcomp
  ·obtain ⟨k,hk,hcomp⟩:=qk hcomp
   obtain ⟨ax,hx,hcomp⟩:=qk hcomp
   obtain ⟨al,hl,hcomp⟩:=qk hcomp
   obtain ⟨ah,hh,hcomp⟩:=qk hcomp
   obtain ⟨am,hm,hcomp⟩:=qk hcomp
   cases hcomp;exact .inl ⟨_,_,rfl⟩
  ·cases hcomp
 ·cases hcomp;exact .inl ⟨_,_,rfl⟩
 ·rename_i ho
  split at hcomp
  ·obtain ⟨sh,hs,hcomp⟩:=qk hcomp
   obtain ⟨z,hz,hcomp⟩:=qk hcomp
   obtain ⟨ax,hx,hcomp⟩:=qk hcomp
   obtain ⟨ai,hi,hcomp⟩:=qk hcomp
   cases hcomp;exact .inr (.inl ⟨_,_,_,_,_,_,_,_,_,rfl,ho⟩)
  ·cases hcomp
 ·split at hcomp
  ·obtain ⟨sh,hs,hcomp⟩:=qk hcomp
   obtain ⟨am,hm,hcomp⟩:=qk hcomp
   obtain ⟨ai,hi,hcomp⟩:=qk hcomp
   obtain ⟨av,hv,hcomp⟩:=qk hcomp
   cases hcomp;exact .inl ⟨_,_,rfl⟩
  ·cases hcomp
 ·split at hcomp
  ·obtain ⟨sh,hs,hcomp⟩:=qk hcomp
   obtain ⟨z,hz,hcomp⟩:=qk hcomp
   obtain ⟨am,hm,hcomp⟩:=qk hcomp
   obtain ⟨ai,hi,hcomp⟩:=qk hcomp
   cases hcomp;exact .inl ⟨_,_,rfl⟩
  ·cases hcomp
 ·obtain ⟨am,hm,hcomp⟩:=qk hcomp
  obtain ⟨ai,hi,hcomp⟩:=qk hcomp
  obtain ⟨av,hv,hcomp⟩:=qk hcomp
  cases hcomp;exact .inl ⟨_,_,rfl⟩
 ·split at hcomp
  ·obtain ⟨ax,hx,hcomp⟩:=qk hcomp
   cases hcomp;exact .inl ⟨_,_,rfl⟩
  ·cases hcomp
 ·split at hcomp
  ·obtain ⟨ax,hx,hcomp⟩:=qk hcomp
   cases hcomp;exact .inl ⟨_,_,rfl⟩
  ·cases hcomp
 ·obtain ⟨ax,hx,hcomp⟩:=qk hcomp
  cases hcomp;exact .inl ⟨_,_,rfl⟩
 ·obtain ⟨ax,hx,hcomp⟩:=qk hcomp
  cases hcomp;exact .inl ⟨_,_,rfl⟩
 ·split at hcomp
  ·obtain ⟨k,hk,hcomp⟩:=qk hcomp
   obtain ⟨ax,hx,hcomp⟩:=qk hcomp
   cases hcomp;exact .inl ⟨_,_,rfl⟩
  ·cases hcomp
 ·rename_i op ty y z yt ho
  split at hcomp
  ·split at hcomp
   ·obtain ⟨ay,hay,rfl⟩:=qaM hcomp
    exact .inr (.inr ⟨_,_,_,_,_,.inr ⟨_,_,rfl⟩,ho⟩)
   ·cases hcomp
  split at hcomp
  ·obtain ⟨sh,hs,hcomp⟩:=qk hcomp
   obtain ⟨ay,hay,hcomp⟩:=qk hcomp
   obtain ⟨az,haz,hcomp⟩:=qk hcomp
   cases hcomp;exact .inr (.inr ⟨_,_,_,_,_,.inl ⟨_,_,_,_,rfl⟩,ho⟩)
  ·cases hcomp
 ·split at hcomp
  ·split at hcomp
   ·split at hcomp
    ·obtain ⟨ax,hx,hcomp⟩:=qk hcomp
     cases hcomp;exact .inl ⟨_,_,rfl⟩
    ·cases hcomp
   ·split at hcomp
    ·split at hcomp
     ·split at hcomp
      ·cases hcomp
      ·obtain ⟨⟨k,zz⟩,he,hcomp⟩:=qk hcomp
       obtain ⟨ax,hx,hcomp⟩:=qk hcomp
       obtain ⟨ay,hy,hcomp⟩:=qk hcomp
       cases hcomp;exact .inl ⟨_,_,rfl⟩
     ·cases hcomp
    ·cases hcomp
   ·split at hcomp
    ·obtain ⟨sh,hs,hcomp⟩:=qk hcomp
     obtain ⟨ax,hx,hcomp⟩:=qk hcomp
     obtain ⟨ay,hy,hcomp⟩:=qk hcomp
     cases hcomp;exact .inl ⟨_,_,rfl⟩
    ·cases hcomp
   ·cases hcomp
  ·cases hcomp
 ·cases hcomp
end
section
variable {P:Program} {gl:Nat→Option (List qa)} {G:qe} {w:World} {h:List qg} {t:List qa} {a:Act}
set_option maxHeartbeats 1000000 in
theorem qs0 (hc:Cfg P gl G h t a w) {p:qby} (hp:qan G w t a p) {o:Oper} {ao:AOp} (hcomp:qdd P gl o = some ao) (hnc:ao.calls = false) {base:Nat} {call:AE.Call} {e:Bool} {x:Ex} {s':St}
  (hrun:qq base call p o.dst ao ⟨t,h,e⟩ = some (x,s')):x = .nor∧Did P gl G w a o h.length s'.h s'.t∧h.length ≤ s'.h.length:=by
 have hpure:∀{q:AOp},(∀v,pureV t q = some v→qav P G w a o v)→(pureV t q).map (fun v=>(Ex.nor,({ t:=put o.dst v t,h:=h,e:=e}:St))) = some (x,s')→
   x = .nor∧Did P gl G w a o h.length s'.h s'.t∧h.length ≤ s'.h.length:=by
  intro q hg hm
  obtain ⟨v,hv,he⟩:=qaM hm
  cases he
  exact ⟨rfl,qcs hc (hg v hv) _,Nat.le_refl _⟩
 have hr:=hc.rel
 have ht:=hc.tr
 unfold qdd at hcomp
 split at hcomp
 ·
  rename_i y ho
  obtain ⟨ay,hy,rfl⟩:=qaM hcomp
  simp only [qq] at hrun
  exact hpure (fun v hv=>by simp only [pureV,Option.some.injEq] at hv;subst hv;exact qj9 hr ht ho hy) hrun
 ·
  rename_i y ho
  obtain ⟨ay,hy,rfl⟩:=qaM hcomp
  simp only [qq] at hrun
  cases hrun
  exact ⟨rfl,qsX hc ho hy _,Nat.le_refl _⟩
 ·
  rename_i c y z ho
  obtain ⟨ac,hac,hcomp⟩:=qk hcomp
  obtain ⟨ay,hay,hcomp⟩:=qk hcomp
  obtain ⟨az,haz,hcomp⟩:=qk hcomp
  cases hcomp
  simp only [qq] at hrun
  exact hpure (fun v hv=>qkb hr ht ho hac hay haz hv) hrun
 ·
  rename_i et ho
  obtain ⟨z,hz,hcomp⟩:=qk hcomp
  cases hcomp
  simp only [qq] at hrun
  cases hrun
  exact ⟨rfl,qsZ hc ho hz,by simp⟩
 ·
  rename_i et y ho
  obtain ⟨k,hk,hcomp⟩:=qk hcomp
  obtain ⟨ay,hay,hcomp⟩:=qk hcomp
  cases hcomp
  simp only [qq] at hrun
  split at hrun
  ·rename_i hh
   cases hrun
   exact ⟨rfl,ql2 hc ho hay hh.2,by simp⟩
  ·cases hrun
 ·
  rename_i ty ps ho
  obtain ⟨z,hz,hcomp⟩:=qk hcomp
  split at hcomp
  ·rename_i fs hu
   split at hcomp
   ·rename_i hall
    obtain ⟨aps,haps,hcomp⟩:=qk hcomp
    cases hcomp
    simp only [qq] at hrun
    exact hpure (fun v hv=>qhf hr ht ho hu hall hz haps hv) hrun
   ·cases hcomp
  ·rename_i n et hu
   obtain ⟨k,hk,hcomp⟩:=qk hcomp
   obtain ⟨aps,haps,hcomp⟩:=qk hcomp
   cases hcomp
   simp only [qq] at hrun
   exact hpure (fun v hv=>qhe hr ht ho hu hk hz haps hv) hrun
  ·cases hcomp
 ·
  rename_i ty n ps ho
  split at hcomp
  ·rename_i et hu
   obtain ⟨k,hk,hcomp⟩:=qk hcomp
   obtain ⟨z,hz,hcomp⟩:=qk hcomp
   split at hcomp
   ·cases hcomp
   ·rename_i hk0
    obtain ⟨aps,haps,hcomp⟩:=qk hcomp
    cases hcomp
    simp only [qq] at hrun
    obtain ⟨v,hv,he⟩:=qaM hrun
    cases he
    obtain ⟨c,u,h1,h2,h3⟩:=qq4 hr ht ho hu hk hk0 hz haps hv
    exact ⟨rfl,qpO hc h1 h2 h3 _,Nat.le_refl _⟩
  ·cases hcomp
 ·
  rename_i ty y ho
  obtain ⟨k,hk,hcomp⟩:=qk hcomp
  obtain ⟨ay,hay,hcomp⟩:=qk hcomp
  cases hcomp
  simp only [qq] at hrun
  obtain ⟨v,hv,he⟩:=qaM hrun
  cases he
  exact ⟨rfl,qve hc ho hk hay hv _,Nat.le_refl _⟩
 ·
  rename_i ty y z ho
  obtain ⟨k,hk,hcomp⟩:=qk hcomp
  split at hcomp
  ·rename_i hsz
   obtain ⟨ay,hay,hcomp⟩:=qk hcomp
   obtain ⟨az,haz,hcomp⟩:=qk hcomp
   cases hcomp
   simp only [qq] at hrun
   split at hrun
   ·rename_i id q hq
    split at hrun
    ·rename_i cs hcs
     cases k with
     | none=>
      simp only at hrun
      split at hrun
      ·rename_i hh
       cases hrun
       exact ⟨rfl,qrV (k:=none) hc ho hsz hay haz hq hcs hh.1 hh.2.1 hh.2.2 h.length,by simp⟩
      ·cases hrun
     | some k=>
      simp only at hrun
      split at hrun
      ·rename_i hh
       cases hrun
       exact ⟨rfl,qrV (k:=some k) hc ho hsz hay haz hq hcs hh.1 hh.2.1 hh.2.2 h.length,by simp⟩
      ·cases hrun
    ·cases hrun
   ·cases hrun
  ·cases hcomp
 ·
  rename_i y ho
  obtain ⟨ay,hy,rfl⟩:=qaM hcomp
  simp only [qq] at hrun
  exact hpure (fun v hv=>qka hr ht ho hy hv) hrun
 ·
  rename_i op ty y z yt ho
  split at hcomp
  ·rename_i ay az hay haz
   split at hcomp
   ·rename_i hop
    have hop':op = .eql∨op = .neq:=by cases op <;> simp [qtO] at hop <;> simp
    split at hcomp
    ·rename_i hu
     cases hcomp
     simp only [qq] at hrun
     exact hpure (fun v hv=>qmH hr ht ho hay haz hop' hu hv) hrun
    ·cases hcomp
     simp only [qq] at hrun
     exact hpure (q:=.bin op ay az) (fun v hv=>qeP hr ht ho hay haz (by simpa only [pureV] using hv)) hrun
    ·cases hcomp
     simp only [qq] at hrun
     exact hpure (q:=.bin op ay az) (fun v hv=>qeP hr ht ho hay haz (by simpa only [pureV] using hv)) hrun
    ·rename_i et hu
     split at hcomp
     ·cases hcomp
     ·rename_i hs0
      cases hcomp
      simp only [qq] at hrun
      refine hpure (fun v hv=>qdG hr ht ho hay haz hop' (fun _=>⟨et,hu,?_⟩) (by simp) (by simp) (by simp) hv) hrun
      cases hs:qck P et with
      | none=>simp [hs] at hs0
      | some n=>exact ⟨n,rfl,by simpa [hs] using hs0⟩
    ·rename_i ms hu
     split at hcomp
     ·rename_i hcc
      cases hcomp
      simp only [qq] at hrun
      exact hpure (fun v hv=>qdG hr ht ho hay haz hop' (by simp) (fun _=>⟨⟨ms,hu⟩,by simpa using hcc⟩) (by simp) (by simp) hv) hrun
     ·cases hcomp
    ·rename_i p1 p2 p3 hu
     cases hcomp
     simp only [qq] at hrun
     exact hpure (fun v hv=>qdG hr ht ho hay haz hop' (by simp) (by simp) (fun _=>⟨p1,p2,p3,hu⟩) (by simp) hv) hrun
    ·rename_i p1 p2 hu
     cases hcomp
     simp only [qq] at hrun
     exact hpure (fun v hv=>qdG hr ht ho hay haz hop' (by simp) (by simp) (by simp) (fun _=>⟨p1,p2,hu⟩) hv) hrun
    ·cases hcomp
   ·cases hcomp
    simp only [qq] at hrun
    exact hpure (q:=.bin op ay az) (fun v hv=>qeP hr ht ho hay haz (by simpa only [pureV] using hv)) hrun
  ·cases hcomp
 ·
  rename_i op ty y ho
  obtain ⟨ay,hy,rfl⟩:=qaM hcomp
  simp only [qq] at hrun
  exact hpure (fun v hv=>qqw hr ht ho hy hv) hrun
 ·
  rename_i s d y ho
  obtain ⟨ay,hay,hcomp⟩:=qk hcomp
  split at hcomp
  ·rename_i j k hs hd
   cases hcomp
   simp only [qq] at hrun
   exact hpure (fun v hv=>qmF hr ht ho hay hs hd hv) hrun
  ·rename_i hs hd
   cases hcomp
   simp only [qq] at hrun
   exact hpure (fun v hv=>qmG hr ht ho hay hs hd hv) hrun
  ·rename_i e0 hs hd
   split at hcomp
   ·rename_i hu8
    cases hcomp
    simp only [qq] at hrun
    obtain ⟨v,hv,he⟩:=qaM hrun
    cases he
    exact ⟨rfl,ql3 hc ho hay hs hd hu8 hv _,Nat.le_refl _⟩
   ·cases hcomp
  ·cases hcomp
 ·
  rename_i ty y ho
  split at hcomp
  ·cases hcomp
  ·cases hcomp
  ·rename_i n1 n2
   obtain ⟨ay,hy,rfl⟩:=qaM hcomp
   simp only [qq] at hrun
   cases hu:P.underlying ty with
   | none=>exact absurd hu n2
   | some d=>exact hpure (fun v hv=>qmO hr ht ho hy hu (fun ms hms=>n1 ms (by rw [hu,hms])) hv) hrun
 ·
  rename_i f y z ho
  obtain ⟨ay,hay,hcomp⟩:=qk hcomp
  obtain ⟨az,haz,hcomp⟩:=qk hcomp
  cases hcomp
  simp only [qq] at hrun
  exact hpure (fun v hv=>qmN hr ht ho hay haz hv) hrun
 ·
  rename_i ty y lo hi ho
  split at hcomp
  ·rename_i hu
   obtain ⟨ay,hay,hcomp⟩:=qk hcomp
   obtain ⟨alo,halo,hcomp⟩:=qk hcomp
   obtain ⟨ahi,hahi,hcomp⟩:=qk hcomp
   cases hcomp
   simp only [qq] at hrun
   exact hpure (fun v hv=>qkd hr ht ho hay halo hahi hu hv) hrun
  ·rename_i et hu
   obtain ⟨k,hk,hcomp⟩:=qk hcomp
   obtain ⟨ay,hay,hcomp⟩:=qk hcomp
   obtain ⟨alo,halo,hcomp⟩:=qk hcomp
   obtain ⟨ahi,hahi,hcomp⟩:=qk hcomp
   cases hcomp
   simp only [qq] at hrun
   exact hpure (fun v hv=>qkc hr ht ho hay halo hahi hu hk hv) hrun
  ·cases hcomp
 ·
  rename_i s y i ho
  split at hcomp
  ·rename_i fs hu
   split at hcomp
   ·rename_i f hf
    split at hcomp
    ·cases hcomp
    ·rename_i hs0
     obtain ⟨ay,hy,rfl⟩:=qaM hcomp
     simp only [qq] at hrun
     cases hs:qck P f.type with
     | none=>simp [hs] at hs0
     | some n=>exact hpure (fun v hv=>qqv hr ht ho hy hu hf hs (by simpa [hs] using hs0) hv) hrun
   ·cases hcomp
  ·cases hcomp
 ·
  rename_i s y i ho
  split at hcomp
  ·rename_i fs hu
   split at hcomp
   ·rename_i f hf
    obtain ⟨k,hk,hcomp⟩:=qk hcomp
    obtain ⟨ay,hay,hcomp⟩:=qk hcomp
    cases hcomp
    simp only [qq] at hrun
    exact hpure (fun v hv=>qmK hr ht ho hay hu hf hk hv) hrun
   ·cases hcomp
  ·cases hcomp
 ·
  rename_i ty y i ho
  split at hcomp
  ·rename_i et hu
   obtain ⟨k,hk,hcomp⟩:=qk hcomp
   obtain ⟨ay,hay,hcomp⟩:=qk hcomp
   obtain ⟨ai,hai,hcomp⟩:=qk hcomp
   cases hcomp
   simp only [qq] at hrun
   exact hpure (fun v hv=>qj5 hr ht ho hay hai hu hk hv) hrun
  ·rename_i n et hu
   obtain ⟨k,hk,hcomp⟩:=qk hcomp
   obtain ⟨ay,hay,hcomp⟩:=qk hcomp
   obtain ⟨ai,hai,hcomp⟩:=qk hcomp
   cases hcomp
   simp only [qq] at hrun
   exact hpure (fun v hv=>qj4 hr ht ho hay hai hu hk hv) hrun
  ·cases hcomp
 ·
  rename_i ty y i ho
  split at hcomp
  ·rename_i hu
   obtain ⟨ay,hay,hcomp⟩:=qk hcomp
   obtain ⟨ai,hai,hcomp⟩:=qk hcomp
   cases hcomp
   simp only [qq] at hrun
   exact hpure (fun v hv=>qmM hr ht ho hay hai hu hv) hrun
  ·rename_i n et hu
   obtain ⟨k,hk,hcomp⟩:=qk hcomp
   split at hcomp
   ·rename_i hsz
    obtain ⟨ay,hay,hcomp⟩:=qk hcomp
    obtain ⟨ai,hai,hcomp⟩:=qk hcomp
    cases hcomp
    simp only [qq] at hrun
    exact hpure (fun v hv=>qmL hr ht ho hay hai hu hk hsz rfl hv) hrun
   ·cases hcomp
  ·cases hcomp
 ·
  rename_i y xt ty ho
  split at hcomp
  ·cases hcomp
  ·cases hcomp
  ·rename_i n1 n2
   obtain ⟨z,hz,hcomp⟩:=qk hcomp
   obtain ⟨ay,hay,hcomp⟩:=qk hcomp
   cases hcomp
   simp only [qq] at hrun
   cases hu:P.underlying ty with
   | none=>exact absurd hu n2
   | some d=>exact hpure (fun v hv=>qmQ hr ht ho hay hu (fun ms hms=>n1 ms (by rw [hu,hms])) hz hv) hrun
 ·
  rename_i y i ho
  obtain ⟨ay,hay,hcomp⟩:=qk hcomp
  cases hcomp
  simp only [qq] at hrun
  exact hpure (fun v hv=>qmJ hr ht ho hay hv) hrun
 ·
  rename_i c ho
  split at hcomp
  ·obtain ⟨af,haf,hcomp⟩:=qk hcomp
   obtain ⟨as,has,hcomp⟩:=qk hcomp
   cases hcomp
   simp [AOp.calls] at hnc
  ·cases hcomp
  ·rename_i b hcal
   split at hcomp
   ·rename_i y ty hargs hty
    split at hcomp
    ·rename_i hu
     obtain ⟨ay,hy,rfl⟩:=qaM hcomp
     simp only [qq] at hrun
     exact hpure (fun v hv=>qj8 hr ht ho hcal hargs hty hy hu hv) hrun
    ·rename_i et hu
     obtain ⟨ay,hy,rfl⟩:=qaM hcomp
     simp only [qq] at hrun
     exact hpure (fun v hv=>qj7 hr ht ho hcal hargs hty hy hu hv) hrun
    ·rename_i n et hu
     cases hcomp
     simp only [qq] at hrun
     exact hpure (fun v hv=>by
      simp only [pureV,ev,raw,qa.dim,Option.some.injEq] at hv
      subst hv
      exact qj6 ho hcal hargs hty hu) hrun
    ·cases hcomp
   ·rename_i y z sT xT hargs hty
    split at hcomp
    ·rename_i et ux hu hux
     split at hcomp
     ·cases hcomp
     ·rename_i hm
      obtain ⟨i,hi,hcomp⟩:=qk hcomp
      obtain ⟨zz,hz,hcomp⟩:=qk hcomp
      split at hcomp
      ·cases hcomp
      ·rename_i hn
       obtain ⟨ay,hay,hcomp⟩:=qk hcomp
       obtain ⟨az,haz,hcomp⟩:=qk hcomp
       cases hcomp
       have hux':(∃e',ux = .slice e')∨ux = .string:=by
        cases ux <;> first | (exact .inl ⟨_,rfl⟩) | exact .inr rfl | (exfalso;exact hm rfl)
       have hok:quU P gl o i.size ay az:=⟨c,y,z,sT,xT,et,i,ux,zz,ho,hcal,hargs,hty,hu,hux,hux',hi,rfl,by omega,by omega,hz,by omega,hay,haz⟩
       have hx:x = .nor:=by
        simp only [qq] at hrun
        repeat' (split at hrun)
        all_goals first | (cases hrun;rfl) | cases hrun
       subst hx
       obtain ⟨h1,h2,h3⟩:=qsW hc hp hok hrun h.length (Nat.le_refl _)
       exact ⟨rfl,h1,by omega⟩
    ·cases hcomp
   ·rename_i y z tys hargs
    obtain ⟨ay,hay,hcomp⟩:=qk hcomp
    obtain ⟨az,haz,hcomp⟩:=qk hcomp
    cases hcomp
    simp only [qq] at hrun
    exact hpure (fun v hv=>qja (isMax:=true) hr ht ho hcal hargs hay haz hv) hrun
   ·rename_i y z tys hargs
    obtain ⟨ay,hay,hcomp⟩:=qk hcomp
    obtain ⟨az,haz,hcomp⟩:=qk hcomp
    cases hcomp
    simp only [qq] at hrun
    exact hpure (fun v hv=>qja (isMax:=false) hr ht ho hcal hargs hay haz hv) hrun
   ·cases hcomp
 ·
  obtain ⟨ay,hy,rfl⟩:=qaM hcomp
  simp [AOp.calls] at hnc
 ·cases hcomp
theorem qrU (hc:Cfg P gl G h t a w) {p:qby} (hp:qan G w t a p) {o:Oper} {ao:AOp} (hcomp:qbe P gl o = some ao) (hnc:ao.calls = false) {base:Nat} {call:AE.Call} {e:Bool} {x:Ex} {s':St}
  (hrun:qq base call p o.dst ao ⟨t,h,e⟩ = some (x,s')):x = .nor∧Did P gl G w a o h.length s'.h s'.t∧h.length ≤ s'.h.length:=by
 unfold qbe at hcomp
 split at hcomp
 ·rename_i y hy
  cases hcomp
  exact qvd hc hy hrun
 ·exact qs0 hc hp hcomp hnc hrun
end
def qH (base:Nat) (h h':List qg):Prop:=
 h.length ≤ h'.length∧∀(i B:Nat) (bx:qg),i < B→B ≤ base→h[i]? = some bx→bx.lower B = true→∃bx',h'[i]? = some bx'∧bx'.lower B = true
theorem qH.refl (base:Nat) (h:List qg):qH base h h:=⟨Nat.le_refl _,fun i B bx _ _ h1 h2=>⟨bx,h1,h2⟩⟩
theorem qH.trans {base:Nat} {h h' h'':List qg} (k:qH base h h') (k':qH base h' h''):qH base h h'':=
 ⟨Nat.le_trans k.1 k'.1,fun i B bx hi hB h1 h2=>by
  obtain ⟨bx',h3,h4⟩:=k.2 i B bx hi hB h1 h2
  exact k'.2 i B bx' hi hB h3 h4⟩
theorem qH.append (base:Nat) (h g:List qg):qH base h (h ++ g):=
 ⟨by simp,fun i B bx _ _ h1 h2=>⟨bx,by rw [List.getElem?_append_left (List.getElem?_eq_some_iff.1 h1).1];exact h1,h2⟩⟩
theorem qH.set {base id:Nat} {h:List qg} {bx0 bx1:qg} (h0:h[id]? = some bx0) (hl:∀B,id < B→B ≤ base→bx0.lower B = true→bx1.lower B = true):qH base h (h.set id bx1):=by
 refine ⟨by simp,fun i B bx hi hB h1 h2=>?_⟩
 by_cases e:id = i
 ·subst e
  rw [h0] at h1;cases h1
  exact ⟨bx1,List.getElem?_set_self (List.getElem?_eq_some_iff.1 h0).1,hl B hi hB h2⟩
 ·exact ⟨bx,by rw [List.getElem?_set_ne e];exact h1,h2⟩
theorem qH.lower {base b:Nat} {h h':List qg} (k:qH base h h') (hb:b ≤ base):qH b h h':=
 ⟨k.1,fun i B bx hi hB=>k.2 i B bx hi (Nat.le_trans hB hb)⟩
def qQ (base:Nat) (s s':St):Prop:=s.h.length ≤ s'.h.length∧(s'.e = false→s.e = false∧qH base s.h s'.h)
theorem qQ.refl (base:Nat) (s:St):qQ base s s:=⟨Nat.le_refl _,fun h=>⟨h,qH.refl _ _⟩⟩
theorem qQ.trans {base:Nat} {s s' s'':St} (k:qQ base s s') (k':qQ base s' s''):qQ base s s'':=
 ⟨Nat.le_trans k.1 k'.1,fun h=>by
  obtain ⟨h1,h2⟩:=k'.2 h
  obtain ⟨h3,h4⟩:=k.2 h1
  exact ⟨h3,h4.trans h2⟩⟩
def qF (call:Call):Prop:=∀fv args h r h' e',call fv args h = some (r,h',e')→h.length ≤ h'.length∧(e' = false→qH h.length h h')
theorem qcT {n:Nat}:∀{as:List qa} {i:Nat} {a:qa},qz n as = true→as[i]? = some a→a.lower n = true
 | [],i,a,_,h=>by simp at h
 | x :: as,i,a,hl,h=>by
  simp only [qz,Bool.and_eq_true] at hl
  cases i with
  | zero=>simp at h;subst h;exact hl.1
  | succ i=>exact qcT hl.2 (by simpa using h)
theorem qdL {n:Nat}:∀{as:List qa},(∀a ∈ as,a.lower n = true)→qz n as = true
 | [],_=>rfl
 | x :: as,h=>by simp only [qz,Bool.and_eq_true];exact ⟨h x (by simp),qdL fun a ha=>h a (by simp [ha])⟩
theorem qcU {n:Nat} {as:List qa} (h:qz n as = true):∀a ∈ as,a.lower n = true:=by
 intro a ha
 obtain ⟨i,hi⟩:=List.getElem?_of_mem ha
 exact qcT h hi
theorem qdM {n o:Nat} {cs vs:List qa} (h:qz n cs = true) (k:qz n vs = true):qz n (splice cs o vs) = true:=by
 refine qdL fun a ha=>?_
 unfold splice at ha
 rcases List.mem_append.1 ha with ha | ha
 ·rcases List.mem_append.1 ha with ha | ha
  ·exact qcU h a (List.mem_of_mem_take ha)
  ·exact qcU k a ha
 ·exact qcU h a (List.mem_of_mem_drop ha)
theorem qkF {n o:Nat} {cs:List qa} {v:qa} (h:qz n cs = true) (k:v.lower n = true):qz n (cs.set o v) = true:=by
 refine qdL fun a ha=>?_
 rcases List.mem_or_eq_of_mem_set ha with ha | ha
 ·exact qcU h a ha
 ·subst ha;exact k
theorem qbj {n:Nat} {f:Nat×qa×qa→Nat×qa×qa} (hf:∀x,x.2.1.lower n = true→x.2.2.lower n = true→(f x).2.1.lower n = true∧(f x).2.2.lower n = true):∀{es:List (Nat×qa×qa)} (i:Nat),qah n es = true→qah n (es.modify i f) = true
 | [],i,h=>by simpa using h
 | y :: es,i,h=>by
  simp only [qah,Bool.and_eq_true] at h
  cases i with
  | zero=>
   simp only [List.modify_zero_cons,qah,Bool.and_eq_true]
   exact ⟨hf y h.1.1 h.1.2,h.2⟩
  | succ i=>
   simp only [List.modify_succ_cons,qah,Bool.and_eq_true]
   exact ⟨h.1,qbj hf i h.2⟩
theorem qcf {n:Nat} {x:Nat×qa×qa} (h1:x.2.1.lower n = true) (h2:x.2.2.lower n = true):∀{es:List (Nat×qa×qa)},qah n es = true→qah n (es ++ [x]) = true
 | [],_=>by simp [qah,h1,h2]
 | y :: es,h=>by
  simp only [qah,Bool.and_eq_true] at h
  simp only [List.cons_append,qah,Bool.and_eq_true]
  exact ⟨h.1,qcf h1 h2 h.2⟩
theorem qek {n:Nat}:∀{es:List (Nat×qa×qa)} (i:Nat),qah n es = true→qah n (es.eraseIdx i) = true
 | [],i,h=>by simpa using h
 | y :: es,i,h=>by
  simp only [qah,Bool.and_eq_true] at h
  cases i with
  | zero=>exact h.2
  | succ i=>
   simp only [List.eraseIdx_cons_succ,qah,Bool.and_eq_true]
   exact ⟨h.1,qek i h.2⟩
theorem qhL {base id B:Nat} {vs:List qa} (h:young base id vs = false) (h1:id < B) (h2:B ≤ base):qz B vs = true:=by
 simp only [young,Bool.not_eq_false',Bool.or_eq_true,Nat.ble_eq] at h
 rcases h with h | h
 ·omega
 ·exact q7 (by omega) vs h
theorem qoK {base id o:Nat} {h h':List qg} {vs:List qa} {e:Bool} (hp:qew base h id o vs = some (h',e)):h.length ≤ h'.length∧(e = false→qH base h h'):=by
 unfold qew at hp
 split at hp
 ·rename_i cs hid
  split at hp
  ·cases hp
   refine ⟨by simp,fun he=>qH.set hid fun B hB hBb hl=>?_⟩
   simp only [qg.lower] at hl ⊢
   exact qdM hl (qhL he hB hBb)
  ·cases hp
 ·cases hp
theorem qhi {base k:Nat} {x y:qa} {h:List qg} {r:qa×List qg×Bool} (hr:qfG base k x y h = some r):h.length ≤ r.2.1.length∧(r.2.2 = false→qH base h r.2.1):=by
 unfold qfG at hr
 split at hr
 ·cases hr
 ·split at hr
  ·cases hr
  ·split at hr
   ·split at hr
    ·cases hr;exact ⟨Nat.le_refl _,fun _=>qH.refl _ _⟩
    ·split at hr
     ·split at hr
      ·cases hr;exact ⟨by simp,fun _=>qH.append _ _ _⟩
      ·cases hr
     ·cases hr
   ·split at hr
    ·cases hr;exact ⟨Nat.le_refl _,fun _=>qH.refl _ _⟩
    ·split at hr
     ·split at hr
      ·split at hr
       ·rename_i hp
        cases hr
        exact qoK hp
       ·cases hr
      ·split at hr
       ·rename_i hid
        split at hr
        ·cases hr;exact ⟨by simp,fun _=>qH.append _ _ _⟩
        ·split at hr
         ·cases hr
          exact ⟨by simp,fun _=>(qH.set hid fun _ _ _ _=>rfl).trans (qH.append _ _ _)⟩
         ·cases hr
       ·cases hr
     ·cases hr
   ·split at hr
    ·cases hr;exact ⟨Nat.le_refl _,fun _=>qH.refl _ _⟩
    ·split at hr
     ·cases hr;exact ⟨by simp,fun _=>qH.append _ _ _⟩
     ·cases hr
   ·cases hr
theorem qmB {base:Nat} {h:List qg} {x:qa} {r:qa×List qg} (hr:frz h x = some r):qH base h r.2:=by
 unfold frz at hr
 split at hr
 ·split at hr
  ·rename_i hid
   split at hr
   ·cases hr;exact qH.set hid fun _ _ _ _=>rfl
   ·cases hr
  ·cases hr
 ·cases hr
theorem qcQ {base:Nat}:∀(cs:List qa) (h:List qg),qH base h (qlj cs h).2
 | [],h=>qH.refl _ _
 | x :: xs,h=>by
  unfold qlj
  split
  ·rename_i hf
   exact (qmB hf).trans (qcQ xs _)
  ·exact qcQ xs h
theorem qmT {base:Nat} {o:HOp} {as:List qa} {h:List qg} {r:qa×List qg×Bool} (hr:hop base o as h = some r):h.length ≤ r.2.1.length∧(r.2.2 = false→qH base h r.2.1):=by
 have map:∀{id:Nat} {es es':List (Nat×qa×qa)} {c c':Nat} {vs:List qa},h[id]? = some (.map es c)→(∀B,qz B vs = true→qah B es = true→qah B es' = true)→
   h.length ≤ (h.set id (.map es' c')).length∧(young base id vs = false→qH base h (h.set id (.map es' c'))):=by
  intro id es es' c c' vs hid hl
  refine ⟨by simp,fun he=>qH.set hid fun B hB hBb hlow=>?_⟩
  simp only [qg.lower] at hlow ⊢
  exact hl B (qhL he hB hBb) hlow
 unfold hop at hr
 split at hr
 ·split at hr
  ·cases hr;exact ⟨by simp,fun _=>qH.append _ _ _⟩
  ·cases hr
 ·split at hr
  ·split at hr
   ·cases hr;exact ⟨by simp,fun _=>qH.append _ _ _⟩
   ·cases hr
  ·cases hr
 ·exact qhi hr
 ·split at hr
  ·split at hr
   ·split at hr
    ·split at hr
     ·cases hr;exact ⟨Nat.le_refl _,fun _=>qH.refl _ _⟩
     ·split at hr
      ·cases hr;exact ⟨Nat.le_refl _,fun _=>qH.refl _ _⟩
      ·cases hr
    ·cases hr
   ·split at hr
    ·split at hr
     ·cases hr;exact ⟨Nat.le_refl _,fun _=>qH.refl _ _⟩
     ·cases hr;exact ⟨Nat.le_refl _,fun _=>qH.refl _ _⟩
    ·cases hr
   ·cases hr
  ·cases hr
 ·cases hr;exact ⟨by simp,fun _=>qH.append _ _ _⟩
 ·split at hr
  ·rename_i hid
   split at hr
   ·cases hr
    refine map hid fun B hB hl=>qbj (fun x _ _=>?_) _ hl
    simpa [qz] using hB
   ·cases hr
    refine map hid fun B hB hl=>?_
    simp only [qz,Bool.and_eq_true,and_true] at hB
    exact qcf hB.1 hB.2 hl
   ·cases hr
  ·cases hr
 ·split at hr
  ·rename_i hid
   split at hr
   ·split at hr
    ·cases hr
     refine map hid fun B hB hl=>qbj (fun x _ h2=>?_) _ hl
     simp only [qz,Bool.and_eq_true,and_true] at hB
     exact ⟨hB,h2⟩
    ·cases hr
   ·cases hr
    refine map hid fun B hB hl=>?_
    simp only [qz,Bool.and_eq_true,and_true] at hB
    exact qcf hB.1 hB.2 hl
   ·cases hr
  ·cases hr
 ·split at hr
  ·rename_i hid
   split at hr
   ·cases hr
    refine map hid fun B hB hl=>qbj (fun x h1 _=>?_) _ hl
    simp only [qz,Bool.and_eq_true,and_true] at hB
    exact ⟨h1,hB⟩
   ·cases hr
  ·cases hr
 ·split at hr
  ·cases hr;exact ⟨Nat.le_refl _,fun _=>qH.refl _ _⟩
  ·split at hr
   ·cases hr;exact ⟨Nat.le_refl _,fun _=>qH.refl _ _⟩
   ·cases hr
  ·cases hr
 ·cases hr;exact ⟨by simp,fun _=>qH.append _ _ _⟩
 ·split at hr
  ·split at hr
   ·cases hr;exact ⟨Nat.le_refl _,fun _=>qH.refl _ _⟩
   ·cases hr
  ·split at hr
   ·rename_i hid
    split at hr
    ·cases hr
     refine ⟨by simp,fun _=>qH.set hid fun B _ _ hl=>?_⟩
     simp only [qg.lower] at hl ⊢
     exact qek _ hl
    ·cases hr
     exact ⟨by simp,fun _=>qH.set hid fun B _ _ hl=>hl⟩
    ·cases hr
   ·cases hr
  ·cases hr
 ·split at hr
  ·cases hr;exact ⟨by simp,fun _=>qH.append _ _ _⟩
  ·split at hr
   ·cases hr;exact ⟨by simp,fun _=>qH.append _ _ _⟩
   ·cases hr
  ·cases hr
 ·split at hr
  ·cases hr;exact ⟨Nat.le_refl _,fun _=>qH.refl _ _⟩
  ·rename_i hit
   split at hr
   ·split at hr
    ·cases hr
    ·split at hr
     ·cases hr;exact ⟨Nat.le_refl _,fun _=>qH.refl _ _⟩
     ·split at hr
      ·cases hr
       exact ⟨by simp,fun _=>qH.set hit fun B _ _ hl=>hl⟩
      ·cases hr
     ·cases hr
   ·cases hr
  ·cases hr
 ·split at hr
  ·split at hr
   ·split at hr
    ·split at hr
     ·cases hr;exact ⟨Nat.le_refl _,fun _=>qH.refl _ _⟩
     ·cases hr
    ·cases hr
   ·cases hr
  ·cases hr
 ·obtain ⟨v,_,hv⟩:=qaM hr
  cases hv
  unfold qxR
  split
  ·exact ⟨(qcQ (base:=base) _ _).1,fun _=>qcQ _ _⟩
  ·exact ⟨Nat.le_refl _,fun _=>qH.refl _ _⟩
 ·cases hr
section
variable {base:Nat} {call:Call}
theorem qiU {k:Nat} {p:qby} {x:ql} {s s':St} {xs:List qa} (h:qcH k p x s = some (xs,s')):qQ base s s':=by
 unfold qcH at h
 split at h
 ·cases h
 ·split at h
  ·split at h
   ·cases h;exact ⟨Nat.le_refl _,fun h=>⟨h,qH.refl _ _⟩⟩
   ·cases h
  ·split at h
   ·split at h
    ·split at h
     ·cases h;exact ⟨Nat.le_refl _,fun h=>⟨h,qH.refl _ _⟩⟩
     ·cases h
    ·cases h
   ·split at h
    ·split at h
     ·rename_i cs hid
      split at h
      ·rename_i ys j ho
       split at h
       ·cases h
        refine ⟨by simp,fun he=>⟨he,qH.set hid fun B _ _ hl=>?_⟩⟩
        simp only [qg.lower] at hl ⊢
        have:=qcT hl ho
        simp only [qa.lower] at this
        exact qkF hl (by simpa [qa.lower] using this)
       ·cases h
      ·cases h
     ·cases h
    ·cases h
   ·cases h
theorem qa7 (hc:qF call) {p:qby} {dst:Option Nat} {o:AOp} {s s':St} {x:Ex} (hb:base ≤ s.h.length) (h:qq base call p dst o s = some (x,s')):qQ base s s':=by
 have hpure:∀{q:Option qa},q.map (fun v=>(Ex.nor,({ s with t:=put dst v s.t}:St))) = some (x,s')→qQ base s s':=by
  intro q hm
  obtain ⟨v,_,he⟩:=qaM hm
  cases he
  exact ⟨Nat.le_refl _,fun h=>⟨h,qH.refl _ _⟩⟩
 cases o <;> simp only [qq] at h <;> first
  | exact hpure h
  | skip
 case asg y=>cases h;exact ⟨Nat.le_refl _,fun h=>⟨h,qH.refl _ _⟩⟩
 case new cs=>cases h;exact ⟨by simp,fun h=>⟨h,qH.append _ _ _⟩⟩
 case box k y=>
  split at h
  ·cases h;exact ⟨by simp,fun h=>⟨h,qH.append _ _ _⟩⟩
  ·cases h
 case st k y z=>
  split at h
  ·rename_i id q hq
   split at h
   ·rename_i cs hcs
    have key:∀(vs:List qa) (s1:St),s1.h = s.h.set id (.cells (splice cs q vs))→s1.e = (s.e || !(Nat.ble base id || qz (id + 1) vs))→qQ base s s1:=by
     intro vs s1 e1 e2
     refine ⟨by rw [e1];simp,fun he=>?_⟩
     rw [e2] at he
     simp only [Bool.or_eq_false_iff,Bool.not_eq_false',Bool.or_eq_true,Nat.ble_eq] at he
     refine ⟨he.1,?_⟩
     rw [e1]
     refine qH.set hcs fun B hB hBb hl=>?_
     simp only [qg.lower] at hl ⊢
     rcases he.2 with h1 | h1
     ·omega
     ·exact qdM hl (q7 (by omega) vs h1)
    cases k with
    | none=>
     simp only at h
     split at h
     ·cases h;exact key _ _ rfl rfl
     ·cases h
    | some k=>
     simp only at h
     split at h
     ·cases h;exact key _ _ rfl rfl
     ·cases h
   ·cases h
  ·cases h
 case call f args=>
  split at h
  ·rename_i v hh e he
   cases h
   obtain ⟨h1,h2⟩:=hc _ _ _ _ _ _ he
   refine ⟨h1,fun hf=>?_⟩
   simp only [Bool.or_eq_false_iff] at hf
   exact ⟨hf.1,(h2 hf.2).lower hb⟩
  ·rename_i v hh e he
   cases h
   obtain ⟨h1,h2⟩:=hc _ _ _ _ _ _ he
   refine ⟨h1,fun hf=>?_⟩
   simp only [Bool.or_eq_false_iff] at hf
   exact ⟨hf.1,(h2 hf.2).lower hb⟩
  ·cases h
 case app k y z=>
  split at h
  ·split at h
   ·cases h;exact ⟨Nat.le_refl _,fun h=>⟨h,qH.refl _ _⟩⟩
   ·split at h
    ·split at h
     ·cases h;exact ⟨Nat.le_refl _,fun h=>⟨h,qH.refl _ _⟩⟩
     ·split at h
      ·rename_i xs2 s2 htk
       split at h
       ·cases h
        have:=qiU (base:=base) htk
        exact ⟨this.1,this.2⟩
       ·cases h
      ·cases h
    ·cases h
  ·cases h
 case pan y=>
  split at h
  ·cases h;exact qQ.refl _ _
  ·cases h
 case hx o as=>
  obtain ⟨r,hr,he⟩:=qaM h
  cases he
  obtain ⟨h1,h2⟩:=qmT hr
  refine ⟨h1,fun hf=>?_⟩
  simp only [Bool.or_eq_false_iff] at hf
  exact ⟨hf.1,h2 hf.2⟩
theorem qbL (hc:qF call):∀(ops:List qU) (p:qby) (s s':St) (x:Ex),base ≤ s.h.length→q9 base call p ops s = some (x,s')→qQ base s s'
 | [],p,s,s',x,_,h=>by simp only [q9] at h;cases h;exact qQ.refl _ _
 | o :: os,p,s,s',x,hb,h=>by
  simp only [q9] at h
  split at h
  ·split at h
   ·rename_i s1 h1
    have k1:=qa7 (base:=base) hc hb h1
    exact k1.trans (qbL hc os _ s1 s' x (Nat.le_trans hb k1.1) h)
   ·exact qa7 hc hb h
  ·have k1:qQ base s { s with t:=put o.dst (.tup []) s.t}:=⟨Nat.le_refl _,fun h=>⟨h,qH.refl _ _⟩⟩
   exact k1.trans (qbL hc os _ _ s' x hb h)
  ·cases h
theorem qat (hc:qF call) (dsts:List Nat):∀(ops:List qw) (pend:List (Nat×Chk)) (s s':St) (x:Ex),base ≤ s.h.length→qp base call dsts ops pend s = some (x,s')→qQ base s s'
 | [],pend,s,s',x,_,h=>by simp only [qp] at h;cases h;exact qQ.refl _ _
 | d :: ds,pend,s,s',x,hb,h=>by
  simp only [qp] at h
  split at h
  ·split at h
   ·rename_i s1 h1
    have k1:=qa7 (base:=base) hc hb h1
    split at h
    ·split at h
     ·exact k1.trans (qat hc dsts ds _ s1 s' x (Nat.le_trans hb k1.1) h)
     ·cases h
    ·split at h
     ·exact k1.trans (qat hc dsts ds _ s1 s' x (Nat.le_trans hb k1.1) h)
     ·exact k1.trans (qat hc dsts ds _ s1 s' x (Nat.le_trans hb k1.1) h)
   ·rename_i v s1 h1
    have k1:=qa7 (base:=base) hc hb h1
    split at h
    ·cases h;exact ⟨k1.1,k1.2⟩
    ·cases h
   ·cases h
  ·have k1:qQ base s { s with t:=put d.o.dst (.tup []) s.t}:=⟨Nat.le_refl _,fun h=>⟨h,qH.refl _ _⟩⟩
   exact k1.trans (qat hc dsts ds _ _ s' x hb h)
  ·cases h
theorem qfI {f:St→Option (Ex×St)} (hf:∀s s' x,base ≤ s.h.length→f s = some (x,s')→qQ base s s'):∀(n:Nat) (s s':St) (x:Ex),base ≤ s.h.length→iter f n s = some (x,s')→qQ base s s'
 | 0,s,s',x,_,h=>by simp [iter] at h
 | n + 1,s,s',x,hb,h=>by
  simp only [iter] at h
  split at h
  ·rename_i s1 h1
   have k1:=hf s s1 _ hb h1
   exact k1.trans (qfI hf n s1 s' x (Nat.le_trans hb k1.1) h)
  ·exact hf s s' x hb h
theorem qB (hc:qF call) (n:Nat):∀(c:qj) (s s':St) (x:Ex),base ≤ s.h.length→qag n base call c s = some (x,s')→qQ base s s'
 | .skip,s,s',x,_,h=>by simp only [qag] at h;cases h;exact qQ.refl _ _
 | .reg ops,s,s',x,hb,h=>qbL hc ops _ s s' x hb (by simpa only [qag] using h)
 | .draw ops,s,s',x,hb,h=>qat hc _ ops _ s s' x hb (by simpa only [qag] using h)
 | .draw2 c a b r,s,s',x,hb,h=>by
  simp only [qag] at h
  obtain ⟨_,h1,_⟩:=qgR h
  exact qat hc _ _ _ s s' _ hb h1
 | .seq a b,s,s',x,hb,h=>by
  simp only [qag] at h
  split at h
  ·rename_i s1 h1
   have k1:=qB hc n a s s1 _ hb h1
   exact k1.trans (qB hc n b s1 s' x (Nat.le_trans hb k1.1) h)
  ·exact qB hc n a s s' x hb h
 | .cond c a b,s,s',x,hb,h=>by
  simp only [qag] at h
  split at h
  ·exact qB hc n a s s' x hb h
  ·exact qB hc n b s s' x hb h
  ·cases h
 | .block id b,s,s',x,hb,h=>by
  simp only [qag] at h
  split at h
  ·rename_i j s1 h1
   have k1:=qB hc n b s s1 _ hb h1
   split at h
   ·cases h;exact k1
   ·cases h;exact k1
  ·exact qB hc n b s s' x hb h
 | .loop b,s,s',x,hb,h=>qfI (fun s s' x hb h=>qB hc n b s s' x hb h) n s s' x hb (by simpa only [qag] using h)
 | .exit id,s,s',x,_,h=>by simp only [qag] at h;cases h;exact qQ.refl _ _
 | .ret,s,s',x,_,h=>by simp only [qag] at h;cases h;exact qQ.refl _ _
 | .rfun f ps asg body,s,s',x,hb,h=>by
  simp only [qag] at h
  split at h
  ·rename_i g first cap hf
   split at h
   ·rename_i v hh e he
    obtain ⟨h1,h2⟩:=hc _ _ _ _ _ _ he
    split at h
    ·rename_i t ps' asg' body' st pend hl
     split at h
     ·cases h
     ·have key:∀s1:St,s1.h = hh.set s.h.length (.loop t ps' asg' body' .exhausted pend)→s1.e = (s.e || e)→qQ base s s1:=by
       intro s1 e1 e2
       refine ⟨by rw [e1];simp at h1 ⊢;omega,fun hf=>?_⟩
       rw [e2] at hf
       simp only [Bool.or_eq_false_iff] at hf
       refine ⟨hf.1,?_⟩
       rw [e1]
       refine ((qH.append base s.h _).trans ((h2 hf.2).lower (by simp;omega))).trans (qH.set hl fun B _ _ hlow=>?_)
       exact hlow
      split at h
      ·cases h;exact key _ rfl rfl
      ·cases h;exact key _ rfl rfl
      ·cases h;exact key _ rfl rfl
    ·cases h
   ·rename_i v hh e he
    obtain ⟨h1,h2⟩:=hc _ _ _ _ _ _ he
    cases h
    refine ⟨by simp at h1 ⊢;omega,fun hf=>?_⟩
    simp only [Bool.or_eq_false_iff] at hf
    exact ⟨hf.1,(qH.append base s.h _).trans ((h2 hf.2).lower (by simp;omega))⟩
   ·cases h
  ·cases h
theorem qaF {r:qaL} {h h':List qg} {e:Bool} (hk:h.length ≤ h'.length∧(e = false→qH h.length h h')) :
  h.length ≤ (q6 h.length r h' e).2.1.length∧((q6 h.length r h' e).2.2 = false→qH h.length h (q6 h.length r h' e).2.1):=by
 cases r <;> unfold q6 <;> simp only <;> split
 all_goals first
  | exact hk
  | skip
 all_goals
  rename_i hh
  refine ⟨by simp;omega,fun he=>⟨by simp;omega,fun i B bx hi hB h1 h2=>?_⟩⟩
  obtain ⟨bx',h3,h4⟩:=(hk.2 he).2 i B bx hi hB h1 h2
  exact ⟨bx',by simp only;rw [List.getElem?_take_of_lt (by omega)];exact h3,h4⟩
end
theorem qiK {n:Nat} {call:Call} (hc:qF call) {l:Nat} {args:List qa} {h:List qg} {r:qaL} {h':List qg} {e':Bool} (hr:round n call l args h = some (r,h',e')) :
  h.length ≤ h'.length∧(e' = false→qH h.length h h'):=by
 unfold round at hr
 split at hr
 ·rename_i t ps asg body _ _ hl
  split at hr
  ·cases hr
  ·simp only at hr
   split at hr
   ·rename_i s1 h1
    have k1:=qB (base:=h.length) hc n asg _ s1 _ (Nat.le_refl _) h1
    split at hr
    ·rename_i t1 ps1 asg1 body1 pend hl1
     have kk:qQ h.length s1 { s1 with h:=s1.h.set l (.loop t1 ps1 asg1 body1 .busy pend)}:=⟨by simp,fun he=>⟨he,qH.set hl1 fun B _ _ hlow=>hlow⟩⟩
     split at hr
     ·rename_i x s2 h2
      have k2:=qB (base:=h.length) hc n body _ s2 _ (by simpa using k1.1) h2
      have k12:=k1.trans (kk.trans k2)
      split at hr
      ·rename_i t2 ps2 asg2 body2 st2 pend2 hl2
       have key:∀st pend r0,q6 h.length r0 (s2.h.set l (.loop t2 ps2 asg2 body2 st pend)) s2.e = (r,h',e')→h.length ≤ h'.length∧(e' = false→qH h.length h h'):=by
        intro st pend r0 hq
        have:=qaF (r:=r0) (h:=h) (h':=s2.h.set l (.loop t2 ps2 asg2 body2 st pend)) (e:=s2.e)
         ⟨by simpa using k12.1,fun he=>(k12.2 he).2.trans (qH.set hl2 fun B _ _ hlow=>hlow)⟩
        rw [hq] at this
        exact this
       split at hr
       ·exact key _ _ _ (Option.some.inj hr)
       ·exact key _ _ _ (Option.some.inj hr)
       ·exact key _ _ _ (Option.some.inj hr)
       ·cases hr
      ·cases hr
     ·cases hr
    ·cases hr
   ·cases hr
 ·cases hr
theorem qdR {F:FuncId→Option qf} {X:qcJ} (hX:∀f g,X f = some g→∀call,qF call→qF fun _ as h=>g call as h):∀n,qF (run F X n)
 | 0=>fun fv args h r h' e' hr=>by simp [run] at hr
 | n + 1=>fun fv args h r h' e' hr=>by
  have ih:=qdR (F:=F) hX n
  simp only [run] at hr
  split at hr
  ·rename_i f first cap
   split at hr
   ·rename_i g hg
    exact hX f g hg _ ih (.fn f first cap) _ h r h' e' hr
   ·split at hr
    ·cases hr
    ·rename_i fn hfn
     split at hr
     ·rename_i s h1
      have k:=qB (base:=h.length) ih n fn.code _ s _ (Nat.le_refl _) h1
      split at hr
      ·rename_i vs hvs
       have:=qaF (r:=.ret (qaU vs)) (h:=h) ⟨k.1,fun he=>(k.2 he).2⟩
       rw [Option.some.inj hr] at this
       exact this
      ·cases hr
     ·rename_i s h1
      have k:=qB (base:=h.length) ih n fn.code _ s _ (Nat.le_refl _) h1
      split at hr
      ·rename_i vs hvs
       have:=qaF (r:=.ret (qaU vs)) (h:=h) ⟨k.1,fun he=>(k.2 he).2⟩
       rw [Option.some.inj hr] at this
       exact this
      ·cases hr
     ·rename_i v s h1
      have k:=qB (base:=h.length) ih n fn.code _ s _ (Nat.le_refl _) h1
      have:=qaF (r:=.pan v) (h:=h) ⟨k.1,fun he=>(k.2 he).2⟩
      rw [Option.some.inj hr] at this
      exact this
     ·cases hr
  ·exact qiK ih hr
  ·cases hr
section
variable {P:Program} {gl:Nat→Option (List qa)}
def Was (P:Program) (gl:Nat→Option (List qa)) (o:Oper) (ao:AOp):Prop:=
 (∀i,ao = .mov (.t i)→o.op = .move (.tmp i))∧(∀q,ao = .ld none q→∃ty y,o.op = .load ty y∧opd gl y = some q∧tyk P ty = some none)∧(qrQ o→ao.acts = true)∧
 (∀f as,ao = .call f as→∃c fo,o.op = .call c∧c.callee = .value fo∧opd gl fo = some f∧qre gl c.args = some as)∧(∀x,ao = .pan x→∃xo,o.op = .panic xo∧opd gl xo = some x)∧
 (∀cs,ao = .new cs→∃e z,o.op = .alloc e∧qak P e = some z∧cs = z.cells)∧(∀k y,ao = .box k y→∃e x,o.op = .box e x∧opd gl x = some y)
set_option maxHeartbeats 1000000 in
theorem qlW {o:Oper} {ao:AOp} (hcomp:qdd P gl o = some ao):Was P gl o ao:=by
 unfold qdd at hcomp
 split at hcomp
 ·
  rename_i y ho
  obtain ⟨ay,hy,rfl⟩:=qaM hcomp
  refine ⟨fun i hh=>?_,fun q hh=>?_,fun hh=>?_,fun f as hh=>?_,fun x hh=>?_,fun cs hh=>?_,fun k y hh=>?_⟩
  ·first | (cases hh;done) | (cases hh;rw [ho,qE hy])
  ·first | (cases hh;done) | (cases hh;exact ⟨_,_,ho,hay,hk⟩)
  ·first
   | rfl
   | (rcases hh with ⟨_,_,_,hh⟩ | ⟨_,hh,hh2⟩ <;> rw [ho] at hh <;> cases hh;done)
   | (rcases hh with ⟨_,_,_,hh⟩ | ⟨_,hh,hh2⟩
      ·rw [ho] at hh;cases hh
      ·rw [ho] at hh;cases hh;rw [hcal] at hh2;cases hh2)
  ·first | (cases hh;done) | (cases hh;exact ⟨_,_,ho,‹_›,haf,has⟩)
  ·first | (cases hh;done) | (cases hh;exact ⟨_,ho,hy⟩)
  ·first | (cases hh;done) | (cases hh;exact ⟨_,_,ho,hz,rfl⟩)
  ·first | (cases hh;done) | (cases hh;exact ⟨_,_,ho,hay⟩)
 ·
  rename_i y ho
  obtain ⟨ay,hy,rfl⟩:=qaM hcomp
  refine ⟨fun i hh=>?_,fun q hh=>?_,fun hh=>?_,fun f as hh=>?_,fun x hh=>?_,fun cs hh=>?_,fun k y hh=>?_⟩
  ·first | (cases hh;done) | (cases hh;rw [ho,qE hy])
  ·first | (cases hh;done) | (cases hh;exact ⟨_,_,ho,hay,hk⟩)
  ·first
   | rfl
   | (rcases hh with ⟨_,_,_,hh⟩ | ⟨_,hh,hh2⟩ <;> rw [ho] at hh <;> cases hh;done)
   | (rcases hh with ⟨_,_,_,hh⟩ | ⟨_,hh,hh2⟩
      ·rw [ho] at hh;cases hh
      ·rw [ho] at hh;cases hh;rw [hcal] at hh2;cases hh2)
  ·first | (cases hh;done) | (cases hh;exact ⟨_,_,ho,‹_›,haf,has⟩)
  ·first | (cases hh;done) | (cases hh;exact ⟨_,ho,hy⟩)
  ·first | (cases hh;done) | (cases hh;exact ⟨_,_,ho,hz,rfl⟩)
  ·first | (cases hh;done) | (cases hh;exact ⟨_,_,ho,hay⟩)
 ·
  rename_i c y z ho
  obtain ⟨ac,hac,hcomp⟩:=qk hcomp
  obtain ⟨ay,hay,hcomp⟩:=qk hcomp
  obtain ⟨az,haz,hcomp⟩:=qk hcomp
  cases hcomp
  refine ⟨fun i hh=>?_,fun q hh=>?_,fun hh=>?_,fun f as hh=>?_,fun x hh=>?_,fun cs hh=>?_,fun k y hh=>?_⟩
  ·first | (cases hh;done) | (cases hh;rw [ho,qE hy])
  ·first | (cases hh;done) | (cases hh;exact ⟨_,_,ho,hay,hk⟩)
  ·first
   | rfl
   | (rcases hh with ⟨_,_,_,hh⟩ | ⟨_,hh,hh2⟩ <;> rw [ho] at hh <;> cases hh;done)
   | (rcases hh with ⟨_,_,_,hh⟩ | ⟨_,hh,hh2⟩
      ·rw [ho] at hh;cases hh
      ·rw [ho] at hh;cases hh;rw [hcal] at hh2;cases hh2)
  ·first | (cases hh;done) | (cases hh;exact ⟨_,_,ho,‹_›,haf,has⟩)
  ·first | (cases hh;done) | (cases hh;exact ⟨_,ho,hy⟩)
  ·first | (cases hh;done) | (cases hh;exact ⟨_,_,ho,hz,rfl⟩)
  ·first | (cases hh;done) | (cases hh;exact ⟨_,_,ho,hay⟩)
 ·
  rename_i et ho
  obtain ⟨z,hz,hcomp⟩:=qk hcomp
  cases hcomp
  refine ⟨fun i hh=>?_,fun q hh=>?_,fun hh=>?_,fun f as hh=>?_,fun x hh=>?_,fun cs hh=>?_,fun k y hh=>?_⟩
  ·first | (cases hh;done) | (cases hh;rw [ho,qE hy])
  ·first | (cases hh;done) | (cases hh;exact ⟨_,_,ho,hay,hk⟩)
  ·first
   | rfl
   | (rcases hh with ⟨_,_,_,hh⟩ | ⟨_,hh,hh2⟩ <;> rw [ho] at hh <;> cases hh;done)
   | (rcases hh with ⟨_,_,_,hh⟩ | ⟨_,hh,hh2⟩
      ·rw [ho] at hh;cases hh
      ·rw [ho] at hh;cases hh;rw [hcal] at hh2;cases hh2)
  ·first | (cases hh;done) | (cases hh;exact ⟨_,_,ho,‹_›,haf,has⟩)
  ·first | (cases hh;done) | (cases hh;exact ⟨_,ho,hy⟩)
  ·first | (cases hh;done) | (cases hh;exact ⟨_,_,ho,hz,rfl⟩)
  ·first | (cases hh;done) | (cases hh;exact ⟨_,_,ho,hay⟩)
 ·
  rename_i et y ho
  obtain ⟨k,hk,hcomp⟩:=qk hcomp
  obtain ⟨ay,hay,hcomp⟩:=qk hcomp
  cases hcomp
  refine ⟨fun i hh=>?_,fun q hh=>?_,fun hh=>?_,fun f as hh=>?_,fun x hh=>?_,fun cs hh=>?_,fun k y hh=>?_⟩
  ·first | (cases hh;done) | (cases hh;rw [ho,qE hy])
  ·first | (cases hh;done) | (cases hh;exact ⟨_,_,ho,hay,hk⟩)
  ·first
   | rfl
   | (rcases hh with ⟨_,_,_,hh⟩ | ⟨_,hh,hh2⟩ <;> rw [ho] at hh <;> cases hh;done)
   | (rcases hh with ⟨_,_,_,hh⟩ | ⟨_,hh,hh2⟩
      ·rw [ho] at hh;cases hh
      ·rw [ho] at hh;cases hh;rw [hcal] at hh2;cases hh2)
  ·first | (cases hh;done) | (cases hh;exact ⟨_,_,ho,‹_›,haf,has⟩)
  ·first | (cases hh;done) | (cases hh;exact ⟨_,ho,hy⟩)
  ·first | (cases hh;done) | (cases hh;exact ⟨_,_,ho,hz,rfl⟩)
  ·first | (cases hh;done) | (cases hh;exact ⟨_,_,ho,hay⟩)
 ·
  rename_i ty ps ho
  obtain ⟨z,hz,hcomp⟩:=qk hcomp
  split at hcomp
  ·rename_i fs hu
   split at hcomp
   ·rename_i hall
    obtain ⟨aps,haps,hcomp⟩:=qk hcomp
    cases hcomp
    refine ⟨fun i hh=>?_,fun q hh=>?_,fun hh=>?_,fun f as hh=>?_,fun x hh=>?_,fun cs hh=>?_,fun k y hh=>?_⟩
    ·first | (cases hh;done) | (cases hh;rw [ho,qE hy])
    ·first | (cases hh;done) | (cases hh;exact ⟨_,_,ho,hay,hk⟩)
    ·first
     | rfl
     | (rcases hh with ⟨_,_,_,hh⟩ | ⟨_,hh,hh2⟩ <;> rw [ho] at hh <;> cases hh;done)
     | (rcases hh with ⟨_,_,_,hh⟩ | ⟨_,hh,hh2⟩
        ·rw [ho] at hh;cases hh
        ·rw [ho] at hh;cases hh;rw [hcal] at hh2;cases hh2)
    ·first | (cases hh;done) | (cases hh;exact ⟨_,_,ho,‹_›,haf,has⟩)
    ·first | (cases hh;done) | (cases hh;exact ⟨_,ho,hy⟩)
    ·first | (cases hh;done) | (cases hh;exact ⟨_,_,ho,hz,rfl⟩)
    ·first | (cases hh;done) | (cases hh;exact ⟨_,_,ho,hay⟩)
   ·cases hcomp
  ·rename_i n et hu
   obtain ⟨k,hk,hcomp⟩:=qk hcomp
   obtain ⟨aps,haps,hcomp⟩:=qk hcomp
   cases hcomp
   refine ⟨fun i hh=>?_,fun q hh=>?_,fun hh=>?_,fun f as hh=>?_,fun x hh=>?_,fun cs hh=>?_,fun k y hh=>?_⟩
   ·first | (cases hh;done) | (cases hh;rw [ho,qE hy])
   ·first | (cases hh;done) | (cases hh;exact ⟨_,_,ho,hay,hk⟩)
   ·first
    | rfl
    | (rcases hh with ⟨_,_,_,hh⟩ | ⟨_,hh,hh2⟩ <;> rw [ho] at hh <;> cases hh;done)
    | (rcases hh with ⟨_,_,_,hh⟩ | ⟨_,hh,hh2⟩
       ·rw [ho] at hh;cases hh
       ·rw [ho] at hh;cases hh;rw [hcal] at hh2;cases hh2)
   ·first | (cases hh;done) | (cases hh;exact ⟨_,_,ho,‹_›,haf,has⟩)
   ·first | (cases hh;done) | (cases hh;exact ⟨_,ho,hy⟩)
   ·first | (cases hh;done) | (cases hh;exact ⟨_,_,ho,hz,rfl⟩)
   ·first | (cases hh;done) | (cases hh;exact ⟨_,_,ho,hay⟩)
  ·cases hcomp
 ·
  rename_i ty n ps ho
  split at hcomp
  ·rename_i et hu
   obtain ⟨k,hk,hcomp⟩:=qk hcomp
   obtain ⟨z,hz,hcomp⟩:=qk hcomp
   split at hcomp
   ·cases hcomp
   ·rename_i hk0
    obtain ⟨aps,haps,hcomp⟩:=qk hcomp
    cases hcomp
    refine ⟨fun i hh=>?_,fun q hh=>?_,fun hh=>?_,fun f as hh=>?_,fun x hh=>?_,fun cs hh=>?_,fun k y hh=>?_⟩
    ·first | (cases hh;done) | (cases hh;rw [ho,qE hy])
    ·first | (cases hh;done) | (cases hh;exact ⟨_,_,ho,hay,hk⟩)
    ·first
     | rfl
     | (rcases hh with ⟨_,_,_,hh⟩ | ⟨_,hh,hh2⟩ <;> rw [ho] at hh <;> cases hh;done)
     | (rcases hh with ⟨_,_,_,hh⟩ | ⟨_,hh,hh2⟩
        ·rw [ho] at hh;cases hh
        ·rw [ho] at hh;cases hh;rw [hcal] at hh2;cases hh2)
    ·first | (cases hh;done) | (cases hh;exact ⟨_,_,ho,‹_›,haf,has⟩)
    ·first | (cases hh;done) | (cases hh;exact ⟨_,ho,hy⟩)
    ·first | (cases hh;done) | (cases hh;exact ⟨_,_,ho,hz,rfl⟩)
    ·first | (cases hh;done) | (cases hh;exact ⟨_,_,ho,hay⟩)
  ·cases hcomp
 ·
  rename_i ty y ho
  obtain ⟨k,hk,hcomp⟩:=qk hcomp
  obtain ⟨ay,hay,hcomp⟩:=qk hcomp
  cases hcomp
  refine ⟨fun i hh=>?_,fun q hh=>?_,fun hh=>?_,fun f as hh=>?_,fun x hh=>?_,fun cs hh=>?_,fun k y hh=>?_⟩
  ·first | (cases hh;done) | (cases hh;rw [ho,qE hy])
  ·first | (cases hh;done) | (cases hh;exact ⟨_,_,ho,hay,hk⟩)
  ·first
   | rfl
   | (rcases hh with ⟨_,_,_,hh⟩ | ⟨_,hh,hh2⟩ <;> rw [ho] at hh <;> cases hh;done)
   | (rcases hh with ⟨_,_,_,hh⟩ | ⟨_,hh,hh2⟩
      ·rw [ho] at hh;cases hh
      ·rw [ho] at hh;cases hh;rw [hcal] at hh2;cases hh2)
  ·first | (cases hh;done) | (cases hh;exact ⟨_,_,ho,‹_›,haf,has⟩)
  ·first | (cases hh;done) | (cases hh;exact ⟨_,ho,hy⟩)
  ·first | (cases hh;done) | (cases hh;exact ⟨_,_,ho,hz,rfl⟩)
  ·first | (cases hh;done) | (cases hh;exact ⟨_,_,ho,hay⟩)
 ·
  rename_i ty y z ho
  obtain ⟨k,hk,hcomp⟩:=qk hcomp
  split at hcomp
  ·rename_i hsz
   obtain ⟨ay,hay,hcomp⟩:=qk hcomp
   obtain ⟨az,haz,hcomp⟩:=qk hcomp
   cases hcomp
   refine ⟨fun i hh=>?_,fun q hh=>?_,fun hh=>?_,fun f as hh=>?_,fun x hh=>?_,fun cs hh=>?_,fun k y hh=>?_⟩
   ·first | (cases hh;done) | (cases hh;rw [ho,qE hy])
   ·first | (cases hh;done) | (cases hh;exact ⟨_,_,ho,hay,hk⟩)
   ·first
    | rfl
    | (rcases hh with ⟨_,_,_,hh⟩ | ⟨_,hh,hh2⟩ <;> rw [ho] at hh <;> cases hh;done)
    | (rcases hh with ⟨_,_,_,hh⟩ | ⟨_,hh,hh2⟩
       ·rw [ho] at hh;cases hh
       ·rw [ho] at hh;cases hh;rw [hcal] at hh2;cases hh2)
   ·first | (cases hh;done) | (cases hh;exact ⟨_,_,ho,‹_›,haf,has⟩)
   ·first | (cases hh;done) | (cases hh;exact ⟨_,ho,hy⟩)
   ·first | (cases hh;done) | (cases hh;exact ⟨_,_,ho,hz,rfl⟩)
   ·first | (cases hh;done) | (cases hh;exact ⟨_,_,ho,hay⟩)
  ·cases hcomp
 ·
  rename_i y ho
  obtain ⟨ay,hy,rfl⟩:=qaM hcomp
  refine ⟨fun i hh=>?_,fun q hh=>?_,fun hh=>?_,fun f as hh=>?_,fun x hh=>?_,fun cs hh=>?_,fun k y hh=>?_⟩
  ·first | (cases hh;done) | (cases hh;rw [ho,qE hy])
  ·first | (cases hh;done) | (cases hh;exact ⟨_,_,ho,hay,hk⟩)
  ·first
   | rfl
   | (rcases hh with ⟨_,_,_,hh⟩ | ⟨_,hh,hh2⟩ <;> rw [ho] at hh <;> cases hh;done)
   | (rcases hh with ⟨_,_,_,hh⟩ | ⟨_,hh,hh2⟩
      ·rw [ho] at hh;cases hh
      ·rw [ho] at hh;cases hh;rw [hcal] at hh2;cases hh2)
  ·first | (cases hh;done) | (cases hh;exact ⟨_,_,ho,‹_›,haf,has⟩)
  ·first | (cases hh;done) | (cases hh;exact ⟨_,ho,hy⟩)
  ·first | (cases hh;done) | (cases hh;exact ⟨_,_,ho,hz,rfl⟩)
  ·first | (cases hh;done) | (cases hh;exact ⟨_,_,ho,hay⟩)
 ·
  rename_i op ty y z yt ho
  split at hcomp
  ·rename_i ay az hay haz
   split at hcomp
   ·rename_i hop
    have hop':op = .eql∨op = .neq:=by cases op <;> simp [qtO] at hop <;> simp
    split at hcomp
    ·rename_i hu
     cases hcomp
     refine ⟨fun i hh=>?_,fun q hh=>?_,fun hh=>?_,fun f as hh=>?_,fun x hh=>?_,fun cs hh=>?_,fun k y hh=>?_⟩
     ·first | (cases hh;done) | (cases hh;rw [ho,qE hy])
     ·first | (cases hh;done) | (cases hh;exact ⟨_,_,ho,hay,hk⟩)
     ·first
      | rfl
      | (rcases hh with ⟨_,_,_,hh⟩ | ⟨_,hh,hh2⟩ <;> rw [ho] at hh <;> cases hh;done)
      | (rcases hh with ⟨_,_,_,hh⟩ | ⟨_,hh,hh2⟩
         ·rw [ho] at hh;cases hh
         ·rw [ho] at hh;cases hh;rw [hcal] at hh2;cases hh2)
     ·first | (cases hh;done) | (cases hh;exact ⟨_,_,ho,‹_›,haf,has⟩)
     ·first | (cases hh;done) | (cases hh;exact ⟨_,ho,hy⟩)
     ·first | (cases hh;done) | (cases hh;exact ⟨_,_,ho,hz,rfl⟩)
     ·first | (cases hh;done) | (cases hh;exact ⟨_,_,ho,hay⟩)
    ·cases hcomp
     refine ⟨fun i hh=>?_,fun q hh=>?_,fun hh=>?_,fun f as hh=>?_,fun x hh=>?_,fun cs hh=>?_,fun k y hh=>?_⟩
     ·first | (cases hh;done) | (cases hh;rw [ho,qE hy])
     ·first | (cases hh;done) | (cases hh;exact ⟨_,_,ho,hay,hk⟩)
     ·first
      | rfl
      | (rcases hh with ⟨_,_,_,hh⟩ | ⟨_,hh,hh2⟩ <;> rw [ho] at hh <;> cases hh;done)
      | (rcases hh with ⟨_,_,_,hh⟩ | ⟨_,hh,hh2⟩
         ·rw [ho] at hh;cases hh
         ·rw [ho] at hh;cases hh;rw [hcal] at hh2;cases hh2)
     ·first | (cases hh;done) | (cases hh;exact ⟨_,_,ho,‹_›,haf,has⟩)
     ·first | (cases hh;done) | (cases hh;exact ⟨_,ho,hy⟩)
     ·first | (cases hh;done) | (cases hh;exact ⟨_,_,ho,hz,rfl⟩)
     ·first | (cases hh;done) | (cases hh;exact ⟨_,_,ho,hay⟩)
    ·cases hcomp
     refine ⟨fun i hh=>?_,fun q hh=>?_,fun hh=>?_,fun f as hh=>?_,fun x hh=>?_,fun cs hh=>?_,fun k y hh=>?_⟩
     ·first | (cases hh;done) | (cases hh;rw [ho,qE hy])
     ·first | (cases hh;done) | (cases hh;exact ⟨_,_,ho,hay,hk⟩)
     ·first
      | rfl
      | (rcases hh with ⟨_,_,_,hh⟩ | ⟨_,hh,hh2⟩ <;> rw [ho] at hh <;> cases hh;done)
      | (rcases hh with ⟨_,_,_,hh⟩ | ⟨_,hh,hh2⟩
         ·rw [ho] at hh;cases hh
         ·rw [ho] at hh;cases hh;rw [hcal] at hh2;cases hh2)
     ·first | (cases hh;done) | (cases hh;exact ⟨_,_,ho,‹_›,haf,has⟩)
     ·first | (cases hh;done) | (cases hh;exact ⟨_,ho,hy⟩)
     ·first | (cases hh;done) | (cases hh;exact ⟨_,_,ho,hz,rfl⟩)
     ·first | (cases hh;done) | (cases hh;exact ⟨_,_,ho,hay⟩)
    ·rename_i et hu
     split at hcomp
     ·cases hcomp
     ·rename_i hs0
      cases hcomp
      refine ⟨fun i hh=>?_,fun q hh=>?_,fun hh=>?_,fun f as hh=>?_,fun x hh=>?_,fun cs hh=>?_,fun k y hh=>?_⟩
      ·first | (cases hh;done) | (cases hh;rw [ho,qE hy])
      ·first | (cases hh;done) | (cases hh;exact ⟨_,_,ho,hay,hk⟩)
      ·first
       | rfl
       | (rcases hh with ⟨_,_,_,hh⟩ | ⟨_,hh,hh2⟩ <;> rw [ho] at hh <;> cases hh;done)
       | (rcases hh with ⟨_,_,_,hh⟩ | ⟨_,hh,hh2⟩
          ·rw [ho] at hh;cases hh
          ·rw [ho] at hh;cases hh;rw [hcal] at hh2;cases hh2)
      ·first | (cases hh;done) | (cases hh;exact ⟨_,_,ho,‹_›,haf,has⟩)
      ·first | (cases hh;done) | (cases hh;exact ⟨_,ho,hy⟩)
      ·first | (cases hh;done) | (cases hh;exact ⟨_,_,ho,hz,rfl⟩)
      ·first | (cases hh;done) | (cases hh;exact ⟨_,_,ho,hay⟩)
    ·rename_i ms hu
     split at hcomp
     ·rename_i hcc
      cases hcomp
      refine ⟨fun i hh=>?_,fun q hh=>?_,fun hh=>?_,fun f as hh=>?_,fun x hh=>?_,fun cs hh=>?_,fun k y hh=>?_⟩
      ·first | (cases hh;done) | (cases hh;rw [ho,qE hy])
      ·first | (cases hh;done) | (cases hh;exact ⟨_,_,ho,hay,hk⟩)
      ·first
       | rfl
       | (rcases hh with ⟨_,_,_,hh⟩ | ⟨_,hh,hh2⟩ <;> rw [ho] at hh <;> cases hh;done)
       | (rcases hh with ⟨_,_,_,hh⟩ | ⟨_,hh,hh2⟩
          ·rw [ho] at hh;cases hh
          ·rw [ho] at hh;cases hh;rw [hcal] at hh2;cases hh2)
      ·first | (cases hh;done) | (cases hh;exact ⟨_,_,ho,‹_›,haf,has⟩)
      ·first | (cases hh;done) | (cases hh;exact ⟨_,ho,hy⟩)
      ·first | (cases hh;done) | (cases hh;exact ⟨_,_,ho,hz,rfl⟩)
      ·first | (cases hh;done) | (cases hh;exact ⟨_,_,ho,hay⟩)
     ·cases hcomp
    ·rename_i p1 p2 p3 hu
     cases hcomp
     refine ⟨fun i hh=>?_,fun q hh=>?_,fun hh=>?_,fun f as hh=>?_,fun x hh=>?_,fun cs hh=>?_,fun k y hh=>?_⟩
     ·first | (cases hh;done) | (cases hh;rw [ho,qE hy])
     ·first | (cases hh;done) | (cases hh;exact ⟨_,_,ho,hay,hk⟩)
     ·first
      | rfl
      | (rcases hh with ⟨_,_,_,hh⟩ | ⟨_,hh,hh2⟩ <;> rw [ho] at hh <;> cases hh;done)
      | (rcases hh with ⟨_,_,_,hh⟩ | ⟨_,hh,hh2⟩
         ·rw [ho] at hh;cases hh
         ·rw [ho] at hh;cases hh;rw [hcal] at hh2;cases hh2)
     ·first | (cases hh;done) | (cases hh;exact ⟨_,_,ho,‹_›,haf,has⟩)
     ·first | (cases hh;done) | (cases hh;exact ⟨_,ho,hy⟩)
     ·first | (cases hh;done) | (cases hh;exact ⟨_,_,ho,hz,rfl⟩)
     ·first | (cases hh;done) | (cases hh;exact ⟨_,_,ho,hay⟩)
    ·rename_i p1 p2 hu
     cases hcomp
     refine ⟨fun i hh=>?_,fun q hh=>?_,fun hh=>?_,fun f as hh=>?_,fun x hh=>?_,fun cs hh=>?_,fun k y hh=>?_⟩
     ·first | (cases hh;done) | (cases hh;rw [ho,qE hy])
     ·first | (cases hh;done) | (cases hh;exact ⟨_,_,ho,hay,hk⟩)
     ·first
      | rfl
      | (rcases hh with ⟨_,_,_,hh⟩ | ⟨_,hh,hh2⟩ <;> rw [ho] at hh <;> cases hh;done)
      | (rcases hh with ⟨_,_,_,hh⟩ | ⟨_,hh,hh2⟩
         ·rw [ho] at hh;cases hh
         ·rw [ho] at hh;cases hh;rw [hcal] at hh2;cases hh2)
     ·first | (cases hh;done) | (cases hh;exact ⟨_,_,ho,‹_›,haf,has⟩)
     ·first | (cases hh;done) | (cases hh;exact ⟨_,ho,hy⟩)
     ·first | (cases hh;done) | (cases hh;exact ⟨_,_,ho,hz,rfl⟩)
     ·first | (cases hh;done) | (cases hh;exact ⟨_,_,ho,hay⟩)
    ·cases hcomp
   ·cases hcomp
    refine ⟨fun i hh=>?_,fun q hh=>?_,fun hh=>?_,fun f as hh=>?_,fun x hh=>?_,fun cs hh=>?_,fun k y hh=>?_⟩
    ·first | (cases hh;done) | (cases hh;rw [ho,qE hy])
    ·first | (cases hh;done) | (cases hh;exact ⟨_,_,ho,hay,hk⟩)
    ·first
     | rfl
     | (rcases hh with ⟨_,_,_,hh⟩ | ⟨_,hh,hh2⟩ <;> rw [ho] at hh <;> cases hh;done)
     | (rcases hh with ⟨_,_,_,hh⟩ | ⟨_,hh,hh2⟩
        ·rw [ho] at hh;cases hh
        ·rw [ho] at hh;cases hh;rw [hcal] at hh2;cases hh2)
    ·first | (cases hh;done) | (cases hh;exact ⟨_,_,ho,‹_›,haf,has⟩)
    ·first | (cases hh;done) | (cases hh;exact ⟨_,ho,hy⟩)
    ·first | (cases hh;done) | (cases hh;exact ⟨_,_,ho,hz,rfl⟩)
    ·first | (cases hh;done) | (cases hh;exact ⟨_,_,ho,hay⟩)
  ·cases hcomp
 ·
  rename_i op ty y ho
  obtain ⟨ay,hy,rfl⟩:=qaM hcomp
  refine ⟨fun i hh=>?_,fun q hh=>?_,fun hh=>?_,fun f as hh=>?_,fun x hh=>?_,fun cs hh=>?_,fun k y hh=>?_⟩
  ·first | (cases hh;done) | (cases hh;rw [ho,qE hy])
  ·first | (cases hh;done) | (cases hh;exact ⟨_,_,ho,hay,hk⟩)
  ·first
   | rfl
   | (rcases hh with ⟨_,_,_,hh⟩ | ⟨_,hh,hh2⟩ <;> rw [ho] at hh <;> cases hh;done)
   | (rcases hh with ⟨_,_,_,hh⟩ | ⟨_,hh,hh2⟩
      ·rw [ho] at hh;cases hh
      ·rw [ho] at hh;cases hh;rw [hcal] at hh2;cases hh2)
  ·first | (cases hh;done) | (cases hh;exact ⟨_,_,ho,‹_›,haf,has⟩)
  ·first | (cases hh;done) | (cases hh;exact ⟨_,ho,hy⟩)
  ·first | (cases hh;done) | (cases hh;exact ⟨_,_,ho,hz,rfl⟩)
  ·first | (cases hh;done) | (cases hh;exact ⟨_,_,ho,hay⟩)
 ·
  rename_i s d y ho
  obtain ⟨ay,hay,hcomp⟩:=qk hcomp
  split at hcomp
  ·rename_i j k hs hd
   cases hcomp
   refine ⟨fun i hh=>?_,fun q hh=>?_,fun hh=>?_,fun f as hh=>?_,fun x hh=>?_,fun cs hh=>?_,fun k y hh=>?_⟩
   ·first | (cases hh;done) | (cases hh;rw [ho,qE hy])
   ·first | (cases hh;done) | (cases hh;exact ⟨_,_,ho,hay,hk⟩)
   ·first
    | rfl
    | (rcases hh with ⟨_,_,_,hh⟩ | ⟨_,hh,hh2⟩ <;> rw [ho] at hh <;> cases hh;done)
    | (rcases hh with ⟨_,_,_,hh⟩ | ⟨_,hh,hh2⟩
       ·rw [ho] at hh;cases hh
       ·rw [ho] at hh;cases hh;rw [hcal] at hh2;cases hh2)
   ·first | (cases hh;done) | (cases hh;exact ⟨_,_,ho,‹_›,haf,has⟩)
   ·first | (cases hh;done) | (cases hh;exact ⟨_,ho,hy⟩)
   ·first | (cases hh;done) | (cases hh;exact ⟨_,_,ho,hz,rfl⟩)
   ·first | (cases hh;done) | (cases hh;exact ⟨_,_,ho,hay⟩)
  ·rename_i hs hd
   cases hcomp
   refine ⟨fun i hh=>?_,fun q hh=>?_,fun hh=>?_,fun f as hh=>?_,fun x hh=>?_,fun cs hh=>?_,fun k y hh=>?_⟩
   ·first | (cases hh;done) | (cases hh;rw [ho,qE hy])
   ·first | (cases hh;done) | (cases hh;exact ⟨_,_,ho,hay,hk⟩)
   ·first
    | rfl
    | (rcases hh with ⟨_,_,_,hh⟩ | ⟨_,hh,hh2⟩ <;> rw [ho] at hh <;> cases hh;done)
    | (rcases hh with ⟨_,_,_,hh⟩ | ⟨_,hh,hh2⟩
       ·rw [ho] at hh;cases hh
       ·rw [ho] at hh;cases hh;rw [hcal] at hh2;cases hh2)
   ·first | (cases hh;done) | (cases hh;exact ⟨_,_,ho,‹_›,haf,has⟩)
   ·first | (cases hh;done) | (cases hh;exact ⟨_,ho,hy⟩)
   ·first | (cases hh;done) | (cases hh;exact ⟨_,_,ho,hz,rfl⟩)
   ·first | (cases hh;done) | (cases hh;exact ⟨_,_,ho,hay⟩)
  ·rename_i e0 hs hd
   split at hcomp
   ·rename_i hu8
    cases hcomp
    refine ⟨fun i hh=>?_,fun q hh=>?_,fun hh=>?_,fun f as hh=>?_,fun x hh=>?_,fun cs hh=>?_,fun k y hh=>?_⟩
    ·first | (cases hh;done) | (cases hh;rw [ho,qE hy])
    ·first | (cases hh;done) | (cases hh;exact ⟨_,_,ho,hay,hk⟩)
    ·first
     | rfl
     | (rcases hh with ⟨_,_,_,hh⟩ | ⟨_,hh,hh2⟩ <;> rw [ho] at hh <;> cases hh;done)
     | (rcases hh with ⟨_,_,_,hh⟩ | ⟨_,hh,hh2⟩
        ·rw [ho] at hh;cases hh
        ·rw [ho] at hh;cases hh;rw [hcal] at hh2;cases hh2)
    ·first | (cases hh;done) | (cases hh;exact ⟨_,_,ho,‹_›,haf,has⟩)
    ·first | (cases hh;done) | (cases hh;exact ⟨_,ho,hy⟩)
    ·first | (cases hh;done) | (cases hh;exact ⟨_,_,ho,hz,rfl⟩)
    ·first | (cases hh;done) | (cases hh;exact ⟨_,_,ho,hay⟩)
   ·cases hcomp
  ·cases hcomp
 ·
  rename_i ty y ho
  split at hcomp
  ·cases hcomp
  ·cases hcomp
  ·rename_i n1 n2
   obtain ⟨ay,hy,rfl⟩:=qaM hcomp
   refine ⟨fun i hh=>?_,fun q hh=>?_,fun hh=>?_,fun f as hh=>?_,fun x hh=>?_,fun cs hh=>?_,fun k y hh=>?_⟩
   ·first | (cases hh;done) | (cases hh;rw [ho,qE hy])
   ·first | (cases hh;done) | (cases hh;exact ⟨_,_,ho,hay,hk⟩)
   ·first
    | rfl
    | (rcases hh with ⟨_,_,_,hh⟩ | ⟨_,hh,hh2⟩ <;> rw [ho] at hh <;> cases hh;done)
    | (rcases hh with ⟨_,_,_,hh⟩ | ⟨_,hh,hh2⟩
       ·rw [ho] at hh;cases hh
       ·rw [ho] at hh;cases hh;rw [hcal] at hh2;cases hh2)
   ·first | (cases hh;done) | (cases hh;exact ⟨_,_,ho,‹_›,haf,has⟩)
   ·first | (cases hh;done) | (cases hh;exact ⟨_,ho,hy⟩)
   ·first | (cases hh;done) | (cases hh;exact ⟨_,_,ho,hz,rfl⟩)
   ·first | (cases hh;done) | (cases hh;exact ⟨_,_,ho,hay⟩)
 ·
  rename_i f y z ho
  obtain ⟨ay,hay,hcomp⟩:=qk hcomp
  obtain ⟨az,haz,hcomp⟩:=qk hcomp
  cases hcomp
  refine ⟨fun i hh=>?_,fun q hh=>?_,fun hh=>?_,fun f as hh=>?_,fun x hh=>?_,fun cs hh=>?_,fun k y hh=>?_⟩
  ·first | (cases hh;done) | (cases hh;rw [ho,qE hy])
  ·first | (cases hh;done) | (cases hh;exact ⟨_,_,ho,hay,hk⟩)
  ·first
   | rfl
   | (rcases hh with ⟨_,_,_,hh⟩ | ⟨_,hh,hh2⟩ <;> rw [ho] at hh <;> cases hh;done)
   | (rcases hh with ⟨_,_,_,hh⟩ | ⟨_,hh,hh2⟩
      ·rw [ho] at hh;cases hh
      ·rw [ho] at hh;cases hh;rw [hcal] at hh2;cases hh2)
  ·first | (cases hh;done) | (cases hh;exact ⟨_,_,ho,‹_›,haf,has⟩)
  ·first | (cases hh;done) | (cases hh;exact ⟨_,ho,hy⟩)
  ·first | (cases hh;done) | (cases hh;exact ⟨_,_,ho,hz,rfl⟩)
  ·first | (cases hh;done) | (cases hh;exact ⟨_,_,ho,hay⟩)
 ·
  rename_i ty y lo hi ho
  split at hcomp
  ·rename_i hu
   obtain ⟨ay,hay,hcomp⟩:=qk hcomp
   obtain ⟨alo,halo,hcomp⟩:=qk hcomp
   obtain ⟨ahi,hahi,hcomp⟩:=qk hcomp
   cases hcomp
   refine ⟨fun i hh=>?_,fun q hh=>?_,fun hh=>?_,fun f as hh=>?_,fun x hh=>?_,fun cs hh=>?_,fun k y hh=>?_⟩
   ·first | (cases hh;done) | (cases hh;rw [ho,qE hy])
   ·first | (cases hh;done) | (cases hh;exact ⟨_,_,ho,hay,hk⟩)
   ·first
    | rfl
    | (rcases hh with ⟨_,_,_,hh⟩ | ⟨_,hh,hh2⟩ <;> rw [ho] at hh <;> cases hh;done)
    | (rcases hh with ⟨_,_,_,hh⟩ | ⟨_,hh,hh2⟩
       ·rw [ho] at hh;cases hh
       ·rw [ho] at hh;cases hh;rw [hcal] at hh2;cases hh2)
   ·first | (cases hh;done) | (cases hh;exact ⟨_,_,ho,‹_›,haf,has⟩)
   ·first | (cases hh;done) | (cases hh;exact ⟨_,ho,hy⟩)
   ·first | (cases hh;done) | (cases hh;exact ⟨_,_,ho,hz,rfl⟩)
   ·first | (cases hh;done) | (cases hh;exact ⟨_,_,ho,hay⟩)
  ·rename_i et hu
   obtain ⟨k,hk,hcomp⟩:=qk hcomp
   obtain ⟨ay,hay,hcomp⟩:=qk hcomp
   obtain ⟨alo,halo,hcomp⟩:=qk hcomp
   obtain ⟨ahi,hahi,hcomp⟩:=qk hcomp
   cases hcomp
   refine ⟨fun i hh=>?_,fun q hh=>?_,fun hh=>?_,fun f as hh=>?_,fun x hh=>?_,fun cs hh=>?_,fun k y hh=>?_⟩
   ·first | (cases hh;done) | (cases hh;rw [ho,qE hy])
   ·first | (cases hh;done) | (cases hh;exact ⟨_,_,ho,hay,hk⟩)
   ·first
    | rfl
    | (rcases hh with ⟨_,_,_,hh⟩ | ⟨_,hh,hh2⟩ <;> rw [ho] at hh <;> cases hh;done)
    | (rcases hh with ⟨_,_,_,hh⟩ | ⟨_,hh,hh2⟩
       ·rw [ho] at hh;cases hh
       ·rw [ho] at hh;cases hh;rw [hcal] at hh2;cases hh2)
   ·first | (cases hh;done) | (cases hh;exact ⟨_,_,ho,‹_›,haf,has⟩)
   ·first | (cases hh;done) | (cases hh;exact ⟨_,ho,hy⟩)
   ·first | (cases hh;done) | (cases hh;exact ⟨_,_,ho,hz,rfl⟩)
   ·first | (cases hh;done) | (cases hh;exact ⟨_,_,ho,hay⟩)
  ·cases hcomp
 ·
  rename_i s y i ho
  split at hcomp
  ·rename_i fs hu
   split at hcomp
   ·rename_i f hf
    split at hcomp
    ·cases hcomp
    ·rename_i hs0
     obtain ⟨ay,hy,rfl⟩:=qaM hcomp
     refine ⟨fun i hh=>?_,fun q hh=>?_,fun hh=>?_,fun f as hh=>?_,fun x hh=>?_,fun cs hh=>?_,fun k y hh=>?_⟩
     ·first | (cases hh;done) | (cases hh;rw [ho,qE hy])
     ·first | (cases hh;done) | (cases hh;exact ⟨_,_,ho,hay,hk⟩)
     ·first
      | rfl
      | (rcases hh with ⟨_,_,_,hh⟩ | ⟨_,hh,hh2⟩ <;> rw [ho] at hh <;> cases hh;done)
      | (rcases hh with ⟨_,_,_,hh⟩ | ⟨_,hh,hh2⟩
         ·rw [ho] at hh;cases hh
         ·rw [ho] at hh;cases hh;rw [hcal] at hh2;cases hh2)
     ·first | (cases hh;done) | (cases hh;exact ⟨_,_,ho,‹_›,haf,has⟩)
     ·first | (cases hh;done) | (cases hh;exact ⟨_,ho,hy⟩)
     ·first | (cases hh;done) | (cases hh;exact ⟨_,_,ho,hz,rfl⟩)
     ·first | (cases hh;done) | (cases hh;exact ⟨_,_,ho,hay⟩)
   ·cases hcomp
  ·cases hcomp
 ·
  rename_i s y i ho
  split at hcomp
  ·rename_i fs hu
   split at hcomp
   ·rename_i f hf
    obtain ⟨k,hk,hcomp⟩:=qk hcomp
    obtain ⟨ay,hay,hcomp⟩:=qk hcomp
    cases hcomp
    refine ⟨fun i hh=>?_,fun q hh=>?_,fun hh=>?_,fun f as hh=>?_,fun x hh=>?_,fun cs hh=>?_,fun k y hh=>?_⟩
    ·first | (cases hh;done) | (cases hh;rw [ho,qE hy])
    ·first | (cases hh;done) | (cases hh;exact ⟨_,_,ho,hay,hk⟩)
    ·first
     | rfl
     | (rcases hh with ⟨_,_,_,hh⟩ | ⟨_,hh,hh2⟩ <;> rw [ho] at hh <;> cases hh;done)
     | (rcases hh with ⟨_,_,_,hh⟩ | ⟨_,hh,hh2⟩
        ·rw [ho] at hh;cases hh
        ·rw [ho] at hh;cases hh;rw [hcal] at hh2;cases hh2)
    ·first | (cases hh;done) | (cases hh;exact ⟨_,_,ho,‹_›,haf,has⟩)
    ·first | (cases hh;done) | (cases hh;exact ⟨_,ho,hy⟩)
    ·first | (cases hh;done) | (cases hh;exact ⟨_,_,ho,hz,rfl⟩)
    ·first | (cases hh;done) | (cases hh;exact ⟨_,_,ho,hay⟩)
   ·cases hcomp
  ·cases hcomp
 ·
  rename_i ty y i ho
  split at hcomp
  ·rename_i et hu
   obtain ⟨k,hk,hcomp⟩:=qk hcomp
   obtain ⟨ay,hay,hcomp⟩:=qk hcomp
   obtain ⟨ai,hai,hcomp⟩:=qk hcomp
   cases hcomp
   refine ⟨fun i hh=>?_,fun q hh=>?_,fun hh=>?_,fun f as hh=>?_,fun x hh=>?_,fun cs hh=>?_,fun k y hh=>?_⟩
   ·first | (cases hh;done) | (cases hh;rw [ho,qE hy])
   ·first | (cases hh;done) | (cases hh;exact ⟨_,_,ho,hay,hk⟩)
   ·first
    | rfl
    | (rcases hh with ⟨_,_,_,hh⟩ | ⟨_,hh,hh2⟩ <;> rw [ho] at hh <;> cases hh;done)
    | (rcases hh with ⟨_,_,_,hh⟩ | ⟨_,hh,hh2⟩
       ·rw [ho] at hh;cases hh
       ·rw [ho] at hh;cases hh;rw [hcal] at hh2;cases hh2)
   ·first | (cases hh;done) | (cases hh;exact ⟨_,_,ho,‹_›,haf,has⟩)
   ·first | (cases hh;done) | (cases hh;exact ⟨_,ho,hy⟩)
   ·first | (cases hh;done) | (cases hh;exact ⟨_,_,ho,hz,rfl⟩)
   ·first | (cases hh;done) | (cases hh;exact ⟨_,_,ho,hay⟩)
  ·rename_i n et hu
   obtain ⟨k,hk,hcomp⟩:=qk hcomp
   obtain ⟨ay,hay,hcomp⟩:=qk hcomp
   obtain ⟨ai,hai,hcomp⟩:=qk hcomp
   cases hcomp
   refine ⟨fun i hh=>?_,fun q hh=>?_,fun hh=>?_,fun f as hh=>?_,fun x hh=>?_,fun cs hh=>?_,fun k y hh=>?_⟩
   ·first | (cases hh;done) | (cases hh;rw [ho,qE hy])
   ·first | (cases hh;done) | (cases hh;exact ⟨_,_,ho,hay,hk⟩)
   ·first
    | rfl
    | (rcases hh with ⟨_,_,_,hh⟩ | ⟨_,hh,hh2⟩ <;> rw [ho] at hh <;> cases hh;done)
    | (rcases hh with ⟨_,_,_,hh⟩ | ⟨_,hh,hh2⟩
       ·rw [ho] at hh;cases hh
       ·rw [ho] at hh;cases hh;rw [hcal] at hh2;cases hh2)
   ·first | (cases hh;done) | (cases hh;exact ⟨_,_,ho,‹_›,haf,has⟩)
   ·first | (cases hh;done) | (cases hh;exact ⟨_,ho,hy⟩)
   ·first | (cases hh;done) | (cases hh;exact ⟨_,_,ho,hz,rfl⟩)
   ·first | (cases hh;done) | (cases hh;exact ⟨_,_,ho,hay⟩)
  ·cases hcomp
 ·
  rename_i ty y i ho
  split at hcomp
  ·rename_i hu
   obtain ⟨ay,hay,hcomp⟩:=qk hcomp
   obtain ⟨ai,hai,hcomp⟩:=qk hcomp
   cases hcomp
   refine ⟨fun i hh=>?_,fun q hh=>?_,fun hh=>?_,fun f as hh=>?_,fun x hh=>?_,fun cs hh=>?_,fun k y hh=>?_⟩
   ·first | (cases hh;done) | (cases hh;rw [ho,qE hy])
   ·first | (cases hh;done) | (cases hh;exact ⟨_,_,ho,hay,hk⟩)
   ·first
    | rfl
    | (rcases hh with ⟨_,_,_,hh⟩ | ⟨_,hh,hh2⟩ <;> rw [ho] at hh <;> cases hh;done)
    | (rcases hh with ⟨_,_,_,hh⟩ | ⟨_,hh,hh2⟩
       ·rw [ho] at hh;cases hh
       ·rw [ho] at hh;cases hh;rw [hcal] at hh2;cases hh2)
   ·first | (cases hh;done) | (cases hh;exact ⟨_,_,ho,‹_›,haf,has⟩)
   ·first | (cases hh;done) | (cases hh;exact ⟨_,ho,hy⟩)
   ·first | (cases hh;done) | (cases hh;exact ⟨_,_,ho,hz,rfl⟩)
   ·first | (cases hh;done) | (cases hh;exact ⟨_,_,ho,hay⟩)
  ·rename_i n et hu
   obtain ⟨k,hk,hcomp⟩:=qk hcomp
   split at hcomp
   ·rename_i hsz
    obtain ⟨ay,hay,hcomp⟩:=qk hcomp
    obtain ⟨ai,hai,hcomp⟩:=qk hcomp
    cases hcomp
    refine ⟨fun i hh=>?_,fun q hh=>?_,fun hh=>?_,fun f as hh=>?_,fun x hh=>?_,fun cs hh=>?_,fun k y hh=>?_⟩
    ·first | (cases hh;done) | (cases hh;rw [ho,qE hy])
    ·first | (cases hh;done) | (cases hh;exact ⟨_,_,ho,hay,hk⟩)
    ·first
     | rfl
     | (rcases hh with ⟨_,_,_,hh⟩ | ⟨_,hh,hh2⟩ <;> rw [ho] at hh <;> cases hh;done)
     | (rcases hh with ⟨_,_,_,hh⟩ | ⟨_,hh,hh2⟩
        ·rw [ho] at hh;cases hh
        ·rw [ho] at hh;cases hh;rw [hcal] at hh2;cases hh2)
    ·first | (cases hh;done) | (cases hh;exact ⟨_,_,ho,‹_›,haf,has⟩)
    ·first | (cases hh;done) | (cases hh;exact ⟨_,ho,hy⟩)
    ·first | (cases hh;done) | (cases hh;exact ⟨_,_,ho,hz,rfl⟩)
    ·first | (cases hh;done) | (cases hh;exact ⟨_,_,ho,hay⟩)
   ·cases hcomp
  ·cases hcomp
 ·
  rename_i y xt ty ho
  split at hcomp
  ·cases hcomp
  ·cases hcomp
  ·rename_i n1 n2
   obtain ⟨z,hz,hcomp⟩:=qk hcomp
   obtain ⟨ay,hay,hcomp⟩:=qk hcomp
   cases hcomp
   refine ⟨fun i hh=>?_,fun q hh=>?_,fun hh=>?_,fun f as hh=>?_,fun x hh=>?_,fun cs hh=>?_,fun k y hh=>?_⟩
   ·first | (cases hh;done) | (cases hh;rw [ho,qE hy])
   ·first | (cases hh;done) | (cases hh;exact ⟨_,_,ho,hay,hk⟩)
   ·first
    | rfl
    | (rcases hh with ⟨_,_,_,hh⟩ | ⟨_,hh,hh2⟩ <;> rw [ho] at hh <;> cases hh;done)
    | (rcases hh with ⟨_,_,_,hh⟩ | ⟨_,hh,hh2⟩
       ·rw [ho] at hh;cases hh
       ·rw [ho] at hh;cases hh;rw [hcal] at hh2;cases hh2)
   ·first | (cases hh;done) | (cases hh;exact ⟨_,_,ho,‹_›,haf,has⟩)
   ·first | (cases hh;done) | (cases hh;exact ⟨_,ho,hy⟩)
   ·first | (cases hh;done) | (cases hh;exact ⟨_,_,ho,hz,rfl⟩)
   ·first | (cases hh;done) | (cases hh;exact ⟨_,_,ho,hay⟩)
 ·
  rename_i y i ho
  obtain ⟨ay,hay,hcomp⟩:=qk hcomp
  cases hcomp
  refine ⟨fun i hh=>?_,fun q hh=>?_,fun hh=>?_,fun f as hh=>?_,fun x hh=>?_,fun cs hh=>?_,fun k y hh=>?_⟩
  ·first | (cases hh;done) | (cases hh;rw [ho,qE hy])
  ·first | (cases hh;done) | (cases hh;exact ⟨_,_,ho,hay,hk⟩)
  ·first
   | rfl
   | (rcases hh with ⟨_,_,_,hh⟩ | ⟨_,hh,hh2⟩ <;> rw [ho] at hh <;> cases hh;done)
   | (rcases hh with ⟨_,_,_,hh⟩ | ⟨_,hh,hh2⟩
      ·rw [ho] at hh;cases hh
      ·rw [ho] at hh;cases hh;rw [hcal] at hh2;cases hh2)
  ·first | (cases hh;done) | (cases hh;exact ⟨_,_,ho,‹_›,haf,has⟩)
  ·first | (cases hh;done) | (cases hh;exact ⟨_,ho,hy⟩)
  ·first | (cases hh;done) | (cases hh;exact ⟨_,_,ho,hz,rfl⟩)
  ·first | (cases hh;done) | (cases hh;exact ⟨_,_,ho,hay⟩)
 ·
  rename_i c ho
  split at hcomp
  ·obtain ⟨af,haf,hcomp⟩:=qk hcomp
   obtain ⟨as,has,hcomp⟩:=qk hcomp
   cases hcomp
   refine ⟨fun i hh=>?_,fun q hh=>?_,fun hh=>?_,fun f as hh=>?_,fun x hh=>?_,fun cs hh=>?_,fun k y hh=>?_⟩
   ·first | (cases hh;done) | (cases hh;rw [ho,qE hy])
   ·first | (cases hh;done) | (cases hh;exact ⟨_,_,ho,hay,hk⟩)
   ·first
    | rfl
    | (rcases hh with ⟨_,_,_,hh⟩ | ⟨_,hh,hh2⟩ <;> rw [ho] at hh <;> cases hh;done)
    | (rcases hh with ⟨_,_,_,hh⟩ | ⟨_,hh,hh2⟩
       ·rw [ho] at hh;cases hh
       ·rw [ho] at hh;cases hh;rw [hcal] at hh2;cases hh2)
   ·first | (cases hh;done) | (cases hh;exact ⟨_,_,ho,‹_›,haf,has⟩)
   ·first | (cases hh;done) | (cases hh;exact ⟨_,ho,hy⟩)
   ·first | (cases hh;done) | (cases hh;exact ⟨_,_,ho,hz,rfl⟩)
   ·first | (cases hh;done) | (cases hh;exact ⟨_,_,ho,hay⟩)
  ·cases hcomp
  ·rename_i b hcal
   split at hcomp
   ·rename_i y ty hargs hty
    split at hcomp
    ·rename_i hu
     obtain ⟨ay,hy,rfl⟩:=qaM hcomp
     refine ⟨fun i hh=>?_,fun q hh=>?_,fun hh=>?_,fun f as hh=>?_,fun x hh=>?_,fun cs hh=>?_,fun k y hh=>?_⟩
     ·first | (cases hh;done) | (cases hh;rw [ho,qE hy])
     ·first | (cases hh;done) | (cases hh;exact ⟨_,_,ho,hay,hk⟩)
     ·first
      | rfl
      | (rcases hh with ⟨_,_,_,hh⟩ | ⟨_,hh,hh2⟩ <;> rw [ho] at hh <;> cases hh;done)
      | (rcases hh with ⟨_,_,_,hh⟩ | ⟨_,hh,hh2⟩
         ·rw [ho] at hh;cases hh
         ·rw [ho] at hh;cases hh;rw [hcal] at hh2;cases hh2)
     ·first | (cases hh;done) | (cases hh;exact ⟨_,_,ho,‹_›,haf,has⟩)
     ·first | (cases hh;done) | (cases hh;exact ⟨_,ho,hy⟩)
     ·first | (cases hh;done) | (cases hh;exact ⟨_,_,ho,hz,rfl⟩)
     ·first | (cases hh;done) | (cases hh;exact ⟨_,_,ho,hay⟩)
    ·rename_i et hu
     obtain ⟨ay,hy,rfl⟩:=qaM hcomp
     refine ⟨fun i hh=>?_,fun q hh=>?_,fun hh=>?_,fun f as hh=>?_,fun x hh=>?_,fun cs hh=>?_,fun k y hh=>?_⟩
     ·first | (cases hh;done) | (cases hh;rw [ho,qE hy])
     ·first | (cases hh;done) | (cases hh;exact ⟨_,_,ho,hay,hk⟩)
     ·first
      | rfl
      | (rcases hh with ⟨_,_,_,hh⟩ | ⟨_,hh,hh2⟩ <;> rw [ho] at hh <;> cases hh;done)
      | (rcases hh with ⟨_,_,_,hh⟩ | ⟨_,hh,hh2⟩
         ·rw [ho] at hh;cases hh
         ·rw [ho] at hh;cases hh;rw [hcal] at hh2;cases hh2)
     ·first | (cases hh;done) | (cases hh;exact ⟨_,_,ho,‹_›,haf,has⟩)
     ·first | (cases hh;done) | (cases hh;exact ⟨_,ho,hy⟩)
     ·first | (cases hh;done) | (cases hh;exact ⟨_,_,ho,hz,rfl⟩)
     ·first | (cases hh;done) | (cases hh;exact ⟨_,_,ho,hay⟩)
    ·rename_i n et hu
     cases hcomp
     refine ⟨fun i hh=>?_,fun q hh=>?_,fun hh=>?_,fun f as hh=>?_,fun x hh=>?_,fun cs hh=>?_,fun k y hh=>?_⟩
     ·first | (cases hh;done) | (cases hh;rw [ho,qE hy])
     ·first | (cases hh;done) | (cases hh;exact ⟨_,_,ho,hay,hk⟩)
     ·first
      | rfl
      | (rcases hh with ⟨_,_,_,hh⟩ | ⟨_,hh,hh2⟩ <;> rw [ho] at hh <;> cases hh;done)
      | (rcases hh with ⟨_,_,_,hh⟩ | ⟨_,hh,hh2⟩
         ·rw [ho] at hh;cases hh
         ·rw [ho] at hh;cases hh;rw [hcal] at hh2;cases hh2)
     ·first | (cases hh;done) | (cases hh;exact ⟨_,_,ho,‹_›,haf,has⟩)
     ·first | (cases hh;done) | (cases hh;exact ⟨_,ho,hy⟩)
     ·first | (cases hh;done) | (cases hh;exact ⟨_,_,ho,hz,rfl⟩)
     ·first | (cases hh;done) | (cases hh;exact ⟨_,_,ho,hay⟩)
    ·cases hcomp
   ·rename_i y z sT xT hargs hty
    split at hcomp
    ·rename_i et ux hu hux
     split at hcomp
     ·cases hcomp
     ·rename_i hm
      obtain ⟨i,hi,hcomp⟩:=qk hcomp
      obtain ⟨zz,hz,hcomp⟩:=qk hcomp
      split at hcomp
      ·cases hcomp
      ·rename_i hn
       obtain ⟨ay,hay,hcomp⟩:=qk hcomp
       obtain ⟨az,haz,hcomp⟩:=qk hcomp
       cases hcomp
       refine ⟨fun i hh=>?_,fun q hh=>?_,fun hh=>?_,fun f as hh=>?_,fun x hh=>?_,fun cs hh=>?_,fun k y hh=>?_⟩
       ·first | (cases hh;done) | (cases hh;rw [ho,qE hy])
       ·first | (cases hh;done) | (cases hh;exact ⟨_,_,ho,hay,hk⟩)
       ·first
        | rfl
        | (rcases hh with ⟨_,_,_,hh⟩ | ⟨_,hh,hh2⟩ <;> rw [ho] at hh <;> cases hh;done)
        | (rcases hh with ⟨_,_,_,hh⟩ | ⟨_,hh,hh2⟩
           ·rw [ho] at hh;cases hh
           ·rw [ho] at hh;cases hh;rw [hcal] at hh2;cases hh2)
       ·first | (cases hh;done) | (cases hh;exact ⟨_,_,ho,‹_›,haf,has⟩)
       ·first | (cases hh;done) | (cases hh;exact ⟨_,ho,hy⟩)
       ·first | (cases hh;done) | (cases hh;exact ⟨_,_,ho,hz,rfl⟩)
       ·first | (cases hh;done) | (cases hh;exact ⟨_,_,ho,hay⟩)
    ·cases hcomp
   ·rename_i y z tys hargs
    obtain ⟨ay,hay,hcomp⟩:=qk hcomp
    obtain ⟨az,haz,hcomp⟩:=qk hcomp
    cases hcomp
    refine ⟨fun i hh=>?_,fun q hh=>?_,fun hh=>?_,fun f as hh=>?_,fun x hh=>?_,fun cs hh=>?_,fun k y hh=>?_⟩
    ·first | (cases hh;done) | (cases hh;rw [ho,qE hy])
    ·first | (cases hh;done) | (cases hh;exact ⟨_,_,ho,hay,hk⟩)
    ·first
     | rfl
     | (rcases hh with ⟨_,_,_,hh⟩ | ⟨_,hh,hh2⟩ <;> rw [ho] at hh <;> cases hh;done)
     | (rcases hh with ⟨_,_,_,hh⟩ | ⟨_,hh,hh2⟩
        ·rw [ho] at hh;cases hh
        ·rw [ho] at hh;cases hh;rw [hcal] at hh2;cases hh2)
    ·first | (cases hh;done) | (cases hh;exact ⟨_,_,ho,‹_›,haf,has⟩)
    ·first | (cases hh;done) | (cases hh;exact ⟨_,ho,hy⟩)
    ·first | (cases hh;done) | (cases hh;exact ⟨_,_,ho,hz,rfl⟩)
    ·first | (cases hh;done) | (cases hh;exact ⟨_,_,ho,hay⟩)
   ·rename_i y z tys hargs
    obtain ⟨ay,hay,hcomp⟩:=qk hcomp
    obtain ⟨az,haz,hcomp⟩:=qk hcomp
    cases hcomp
    refine ⟨fun i hh=>?_,fun q hh=>?_,fun hh=>?_,fun f as hh=>?_,fun x hh=>?_,fun cs hh=>?_,fun k y hh=>?_⟩
    ·first | (cases hh;done) | (cases hh;rw [ho,qE hy])
    ·first | (cases hh;done) | (cases hh;exact ⟨_,_,ho,hay,hk⟩)
    ·first
     | rfl
     | (rcases hh with ⟨_,_,_,hh⟩ | ⟨_,hh,hh2⟩ <;> rw [ho] at hh <;> cases hh;done)
     | (rcases hh with ⟨_,_,_,hh⟩ | ⟨_,hh,hh2⟩
        ·rw [ho] at hh;cases hh
        ·rw [ho] at hh;cases hh;rw [hcal] at hh2;cases hh2)
    ·first | (cases hh;done) | (cases hh;exact ⟨_,_,ho,‹_›,haf,has⟩)
    ·first | (cases hh;done) | (cases hh;exact ⟨_,ho,hy⟩)
    ·first | (cases hh;done) | (cases hh;exact ⟨_,_,ho,hz,rfl⟩)
    ·first | (cases hh;done) | (cases hh;exact ⟨_,_,ho,hay⟩)
   ·cases hcomp
 ·
  rename_i y ho
  obtain ⟨ay,hy,rfl⟩:=qaM hcomp
  refine ⟨fun i hh=>?_,fun q hh=>?_,fun hh=>?_,fun f as hh=>?_,fun x hh=>?_,fun cs hh=>?_,fun k y hh=>?_⟩
  ·first | (cases hh;done) | (cases hh;rw [ho,qE hy])
  ·first | (cases hh;done) | (cases hh;exact ⟨_,_,ho,hay,hk⟩)
  ·first
   | rfl
   | (rcases hh with ⟨_,_,_,hh⟩ | ⟨_,hh,hh2⟩ <;> rw [ho] at hh <;> cases hh;done)
   | (rcases hh with ⟨_,_,_,hh⟩ | ⟨_,hh,hh2⟩
      ·rw [ho] at hh;cases hh
      ·rw [ho] at hh;cases hh;rw [hcal] at hh2;cases hh2)
  ·first | (cases hh;done) | (cases hh;exact ⟨_,_,ho,‹_›,haf,has⟩)
  ·first | (cases hh;done) | (cases hh;exact ⟨_,ho,hy⟩)
  ·first | (cases hh;done) | (cases hh;exact ⟨_,_,ho,hz,rfl⟩)
  ·first | (cases hh;done) | (cases hh;exact ⟨_,_,ho,hay⟩)
 ·cases hcomp
theorem qa8 {o:Oper} {ao:AOp} (hcomp:qbe P gl o = some ao):Was P gl o ao:=by
 unfold qbe at hcomp
 split at hcomp
 ·rename_i y hy
  cases hcomp
  rcases qtw hy with ⟨k,as,rfl⟩ | ⟨sh,z,ok,m,key,ty,p,q,r,rfl,ho⟩ | ⟨op,ty,p,q,r,⟨sh,n,x,y,rfl⟩ | ⟨n,x,rfl⟩,ho⟩
  ·refine ⟨fun _ h=>?_,fun _ h=>?_,fun _=>rfl,fun _ _ h=>?_,fun _ h=>?_,fun _ h=>?_,fun _ _ h=>?_⟩ <;> cases h
  ·refine ⟨fun _ h=>?_,fun _ h=>?_,fun hh=>?_,fun _ _ h=>?_,fun _ h=>?_,fun _ h=>?_,fun _ _ h=>?_⟩
   ·cases h
   ·cases h
   ·rcases hh with ⟨_,_,_,hh⟩ | ⟨_,hh,_⟩ <;> rw [ho] at hh <;> cases hh
   ·cases h
   ·cases h
   ·cases h
   ·cases h
  ·refine ⟨fun _ h=>?_,fun _ h=>?_,fun hh=>?_,fun _ _ h=>?_,fun _ h=>?_,fun _ h=>?_,fun _ _ h=>?_⟩
   ·cases h
   ·cases h
   ·rcases hh with ⟨_,_,_,hh⟩ | ⟨_,hh,_⟩ <;> rw [ho] at hh <;> cases hh
   ·cases h
   ·cases h
   ·cases h
   ·cases h
  ·refine ⟨fun _ h=>?_,fun _ h=>?_,fun hh=>?_,fun _ _ h=>?_,fun _ h=>?_,fun _ h=>?_,fun _ _ h=>?_⟩
   ·cases h
   ·cases h
   ·rcases hh with ⟨_,_,_,hh⟩ | ⟨_,hh,_⟩ <;> rw [ho] at hh <;> cases hh
   ·cases h
   ·cases h
   ·cases h
   ·cases h
 ·exact qlW hcomp
theorem qmU {o:Oper} {ao:AOp} (hcomp:qbe P gl o = some ao) (hO:qfp P gl o):ao.acts = true:=by
 obtain ⟨k,as,hk⟩:=hO
 unfold qbe at hcomp
 rw [hk] at hcomp
 cases hcomp
 rfl
end
def FR (ro:Option Nat):Fence:={ Fence.wide with round:=ro}
theorem qf2 {ro:Option Nat} {n m:Nat} {P:Program} {f:FuncId} {args:Array Value} {w:World} {R:Ending→World→Prop} (h:CallsIn Fence.wide m P f args w R):CallsIn (FR ro) n P f args w R:=
 ⟨trivial,fun cs _=>h.2 cs (room_wide _)⟩
def qdZ (f:Value) (args:Array Value):Sem Next:=do let d ←Deferred.ofValue f args;invoke d.target d.args
def qds (G:qe):Prop:=∀b i,G.ow b ≠ some (.tmp i)
def qlh (P:Program) (gl:Nat→Option (List qa)) (n:Nat) (G:qe) (w:World) (r:qaL) (h':List qg):Ending→World→Prop
 | .returned v,w'=>∃rv G',r = .ret rv∧Ext n G w G' w'∧Rel P gl G' h' w'∧qds G'∧G'.V rv v
 | .panicked ch,w'=>∃pv v G',r = .pan pv∧ch = [{ v,recovered:=false}]∧Ext n G w G' w'∧Rel P gl G' h' w'∧qds G'∧G'.V pv v
 | .outgrown,_=>False
def qbd (P:Program) (gl:Nat→Option (List qa)) (call:AE.Call):Prop:=
 ∀fv args h r h' e',call fv args h = some (r,h',e')→∀(G:qe) (w:World) (fvv:Value) (vs:Array Value),Rel P gl G h w→qds G→G.V fv fvv→G.VL args vs.toList→
  (∃f as,(qdZ fvv vs).run P w = .ok (.enter f as) w∧∀(ro:Option Nat) (n:Nat),CallsIn (FR ro) n P f as w (qlh P gl h.length G w r h'))∨
  (∃i b f tmps asg body,fv = .yld i∧(qdZ fvv vs).run P w = .ok (.round b f tmps asg body) w∧∀(ro:Option Nat) (n:Nat),RoundIn (FR ro) n P b f tmps asg body w (qlh P gl h.length G w r h'))∨
  (∃v w',(∀i,args ≠ [.yld i])∧(qdZ fvv vs).run P w = .ok (.value v) w'∧qlh P gl h.length G w r h' (.returned v) w')
theorem qeq {ro:Option Nat} {m:Nat}:(FR ro).depth.isSome = true→1 ≤ m:=fun h=>by cases h
theorem qgU {P:Program} {gl:Nat→Option (List qa)} {call:AE.Call} (hcall:qbd P gl call) {fv:qa} {args:List qa} {h:List qg} {r:qaL} {h':List qg} {e':Bool} (hc:call fv args h = some (r,h',e'))
  {G:qe} {w:World} {fvv:Value} {vs:Array Value} (hr:Rel P gl G h w) (hn:qds G) (hf:G.V fv fvv) (ha:G.VL args vs.toList)
  (ro:Option Nat) (n:Nat) (o:Oper) (a:Act) (K:Act→World→Prop) (Q:Exit→Act→World→Prop)
  (hret:∀rv v w' G',r = .ret rv→Ext h.length G w G' w'→Rel P gl G' h' w'→qds G'→G'.V rv v→K (a.put o.dst v) w')
  (hpan:∀pv v w' G',r = .pan pv→Ext h.length G w G' w'→Rel P gl G' h' w'→qds G'→G'.V pv v→Q (.panic [{ v,recovered:=false}]) a w') :
  o.uponIn (FR ro) n P a K Q ((qdZ fvv vs).run P w):=by
 rcases hcall _ _ _ _ _ _ hc G w fvv vs hr hn hf ha with ⟨f,as,h1,h2⟩ | ⟨_,b,f,tmps,asg,body,_,h1,h2⟩ | ⟨v,w',_,h1,rv,G',h2,h3,h4,h5,h6⟩
 ·rw [h1,Oper.uponIn_enter]
  refine ⟨qeq,CallsIn.mono (h2 ro (n - 1)) fun e w'' hb=>?_⟩
  cases e with
  | returned v=>obtain ⟨rv,G',g1,g2,g3,g4,g5⟩:=hb;exact hret rv v w'' G' g1 g2 g3 g4 g5
  | panicked ch=>obtain ⟨pv,v,G',g1,rfl,g2,g3,g4,g5⟩:=hb;exact hpan pv v w'' G' g1 g2 g3 g4 g5
  | outgrown=>exact hb.elim
 ·rw [h1,Oper.uponIn_round]
  refine ⟨qeq,RoundIn.mono (h2 ro (n - 1)) fun e w'' hb=>?_⟩
  cases e with
  | returned v=>obtain ⟨rv,G',g1,g2,g3,g4,g5⟩:=hb;exact hret rv v w'' G' g1 g2 g3 g4 g5
  | panicked ch=>obtain ⟨pv,v,G',g1,rfl,g2,g3,g4,g5⟩:=hb;exact hpan pv v w'' G' g1 g2 g3 g4 g5
  | outgrown=>exact hb.elim
 ·rw [h1,Oper.uponIn_value]
  exact hret rv v w' G' h2 h3 h4 h5 h6
def qe.cellsOnly (G:qe):qe:={ γ:=G.γ,imm:=G.imm,ow:=fun b=>match G.ow b with | some (.cell i o)=>some (.cell i o) | _=>none}
def qe.with (G' G:qe):qe:={ γ:=G'.γ,imm:=G'.imm,ow:=fun b=>match G.ow b with | some (.tmp i)=>some (.tmp i) | _=>G'.ow b}
section
variable {P:Program} {gl:Nat→Option (List qa)} {G G':qe} {w w':World} {h h':List qg} {t:List qa} {a:Act} {n:Nat}
theorem qeb {b:Nat} {ℓ:Loc} (h:G.cellsOnly.ow b = some ℓ):G.ow b = some ℓ∧∃i o,ℓ = .cell i o:=by
 simp only [qe.cellsOnly] at h
 split at h
 ·rename_i i o e;cases h;exact ⟨e,i,o,rfl⟩
 ·cases h
theorem qfr {b i o:Nat} (h:G.ow b = some (.cell i o)):G.cellsOnly.ow b = some (.cell i o):=by simp [qe.cellsOnly,h]
theorem Rel.cellsOnly (hr:Rel P gl G h w):Rel P gl G.cellsOnly h w∧qds G.cellsOnly:=by
 refine ⟨⟨hr.γlt,hr.inj,fun i b bx hb hx=>?_,hr.imm,hr.immγ,hr.immK,fun b ℓ hb=>hr.ow b ℓ (qeb hb).1,hr.glob⟩,fun b i hb=>?_⟩
 ·have h0:=hr.box i b bx hb hx
  cases bx with
  | cells cs=>
   obtain ⟨c,e,h1,h2,h3⟩:=h0
   exact ⟨c,e,h1,h2,fun o xs k v ho hv=>(h3 o xs k v ho hv).keep (fun y hy=>qfr hy) (fun _ _=>rfl) (fun _ _ _ h=>h)⟩
  | loop _ _ _ _ _ _=>
   obtain ⟨L,h1,h2⟩:=h0
   exact ⟨L,h1,{ h2 with tmps:=h2.tmps}⟩
  | map es _=>obtain ⟨me,h1,h2⟩:=h0;obtain ⟨m,hm⟩:=qbx es;exact ⟨me,h1,qt.mono (G:=G) (G':=G.cellsOnly) (fun _ _ _ h=>h) m (fun _ _ _ h=>h) hm h2⟩
  | iter _ _ _ _=>obtain ⟨mm,h1,h2⟩:=h0;exact ⟨mm,h1,h2⟩
  | dead=>trivial
 ·obtain ⟨_,i',o',e⟩:=qeb hb
  cases e
theorem qdu (hc:Cfg P gl G h t a w) (he:Ext n G.cellsOnly w G' w') (hr:Rel P gl G' h' w'):Ext n G w (G'.with G) w'∧Rel P gl (G'.with G) h' w'∧qW (G'.with G) w' t a.tmps:=by
 have hforeign:∀b i,G.ow b = some (.tmp i)→qbN G.cellsOnly b:=fun b i hb=>⟨(hc.rel.ow b _ hb).2,by simp [qe.cellsOnly,hb]⟩
 have hG':∀b i,G.ow b = some (.tmp i)→G'.ow b = none:=fun b i hb=>by
  cases ho:G'.ow b with
  | none=>rfl
  | some ℓ=>
   rcases he.on b (by simp [ho]) with h1 | h1
   ·exact absurd (hforeign b i hb).2 h1
   ·have:=(hc.rel.ow b _ hb).1;omega
 have hwo:∀b,(∀i,G.ow b ≠ some (.tmp i))→(G'.with G).ow b = G'.ow b:=fun b hb=>by
  cases hg:G.ow b with
  | none=>simp [qe.with,hg]
  | some ℓ=>cases ℓ with
   | tmp i=>exact absurd hg (hb i)
   | cell i o=>simp [qe.with,hg]
 have hwt:∀b i,G.ow b = some (.tmp i)→(G'.with G).ow b = some (.tmp i):=fun b i hb=>by simp [qe.with,hb]
 refine ⟨⟨he.gk,he.gn,he.ik,fun b o v hv=>?_,fun b hb=>?_,he.size,fun b hb hf=>?_,he.loops,he.os,he.tape,he.output⟩,⟨hr.γlt,hr.inj,fun i b bx hb hx=>?_,hr.imm,hr.immγ,hr.immK,fun b ℓ hb=>?_,hr.glob⟩,?_⟩
 ·rcases he.inew b o v hv with h1 | h1 | h1 | ⟨i,h1⟩
  ·exact .inl h1
  ·exact .inr (.inl h1)
  rotate_left
  ·exact .inr (.inr (.inr ⟨i,h1⟩))
  ·refine .inr (.inr (.inl fun e=>?_))
   simp [qe.cellsOnly,e] at h1
 ·by_cases hh:∃i,G.ow b = some (.tmp i)
  ·obtain ⟨i,hi⟩:=hh;exact .inl (by simp [hi])
  ·rw [hwo b (fun i hi=>hh ⟨i,hi⟩)] at hb
   rcases he.on b hb with h1 | h1
   ·refine .inl fun e=>?_
    simp [qe.cellsOnly,e] at h1
   ·exact .inr h1
 ·exact he.heap b hb ⟨hf.1,by simp [qe.cellsOnly,hf.2]⟩
 ·have h0:=hr.box i b bx hb hx
  cases bx with
  | cells cs=>
   obtain ⟨c,e,h1,h2,h3⟩:=h0
   refine ⟨c,e,h1,h2,fun o xs k v ho hv=>(h3 o xs k v ho hv).keep (fun y hy=>?_) (fun _ _=>rfl) (fun _ _ _ h=>h)⟩
   rw [hwo y (fun j hj=>by rw [hG' y j hj] at hy;cases hy)]
   exact hy
  | loop _ _ _ _ _ _=>
   obtain ⟨L,h1,h2⟩:=h0
   exact ⟨L,h1,{ h2 with tmps:=h2.tmps}⟩
  | map es _=>obtain ⟨me,h1,h2⟩:=h0;obtain ⟨m,hm⟩:=qbx es;exact ⟨me,h1,qt.mono (G:=G') (G':=G'.with G) (fun _ _ _ h=>h) m (fun _ _ _ h=>h) hm h2⟩
  | iter _ _ _ _=>obtain ⟨mm,h1,h2⟩:=h0;exact ⟨mm,h1,h2⟩
  | dead=>trivial
 ·by_cases hh:∃i,G.ow b = some (.tmp i)
  ·obtain ⟨i,hi⟩:=hh
   obtain ⟨h1,h2⟩:=hc.rel.ow b _ hi
   refine ⟨Nat.lt_of_lt_of_le h1 he.size,fun j hj=>?_⟩
   rcases he.gn j b hj with h3 | ⟨_,h3 | ⟨j',h3⟩⟩
   ·exact h2 j h3
   ·omega
   ·exact h2 j' h3
  ·rw [hwo b (fun i hi=>hh ⟨i,hi⟩)] at hb
   exact hr.ow b ℓ hb
 ·have hVL:=he.VL hc.tr.rel
  refine ⟨hVL,fun i xs k v hx hv=>(hc.tr.own i xs k v hx hv).keep (fun y hy=>hwt y i hy) (fun y hy=>he.heap y (hc.rel.ow y _ hy).1 (hforeign y i hy)) (fun y j hy hj=>?_)⟩
  cases hv':(G'.with G).imm y j with
  | none=>rfl
  | some u=>
   rcases he.inew y j u hv' with h1 | h1 | h1 | ⟨i',h1⟩
   rotate_right
   ·exact absurd h1 ((hc.rel.ow y _ hy).2 i')
   ·rw [show G.cellsOnly.imm y j = G.imm y j from rfl,hj] at h1;cases h1
   ·have:=(hc.rel.ow y _ hy).1;omega
   ·exact absurd (hforeign y i hy).2 h1
theorem qc8 {o:Oper} {ao:AOp} (hc:qbe P gl o = some ao):∀c,o.op ≠ .defer c:=by
 intro c h
 unfold qbe at hc
 split at hc
 ·rename_i y hy
  unfold qec at hy
  rw [h] at hy
  cases hy
 ·unfold qdd at hc
  rw [h] at hc
  cases hc
theorem Cfg.putDim (hc:Cfg P gl G h t a w) (dst:Option Nat) {x:qa} {v:Value} (hv:G.V x v):Cfg P gl G h (AE.put dst x.dim t) (a.put dst v) w:=hc.put dst (qS hv) (qY x)
theorem qa6 (a:Act) (d:Option Tmp) (v:Value):(a.put d v).defers = a.defers:=by cases d <;> rfl
theorem qdP {call:AE.Call} (hcall:qbd P gl call) (hk:qF call) (hc:Cfg P gl G h t a w) {p:qby} (hp:qan G w t a p) {o:Oper} {ao:AOp} (hcomp:qbe P gl o = some ao) {base:Nat} {e:Bool} {x:Ex} {s':St}
  (hrun:qq base call p o.dst ao ⟨t,h,e⟩ = some (x,s')) {ro:Option Nat} {m:Nat} {K:Act→World→Prop} {Q:Exit→Act→World→Prop}
  (hnor:x = .nor→∀u w' G',Ext h.length G w G' w'→Cfg P gl G' s'.h s'.t (a.put o.dst u) w'→(ao.acts = false→∀b,b < w.heap.size→w'.heap[b]? = w.heap[b]?)→(∀i,ao = .mov (.t i)→u = a.tmps.getD i undef)→
   (∀q id off,ao = .ld none q→ev t q = .ptr id off→∃b,G.γ id = some b∧w.cell? ⟨b,off,none⟩ = some u)→K (a.put o.dst u) w')
  (hpan:∀pv,x = .pan pv→∀v w' G',Ext h.length G w G' w'→Cfg P gl G' s'.h s'.t a w'→G'.V pv v→Q (.panic [{ v,recovered:=false}]) a w') :
  o.wpIn (FR ro) m P a w K Q:=by
 refine ⟨fun _ _=>trivial,?_⟩
 rw [Oper.semAt_eq _ _ _ (qc8 hcomp)]
 cases hcl:ao.calls with
 | false=>
  obtain ⟨rfl,hd,_⟩:=qrU hc hp hcomp hcl hrun
  obtain ⟨nx,u,w',G',h1,h2,hst,h3,h4⟩:=hd
  have h5:ao.acts = false→∀b,b < w.heap.size→w'.heap[b]? = w.heap[b]?:=by
   intro hac
   exact hst (fun hop=>by rw [(qa8 hcomp).2.2.1 hop] at hac;cases hac) (fun hop=>by rw [qmU hcomp hop] at hac;cases hac)
  have h6:∀i,ao = .mov (.t i)→u = a.tmps.getD i undef:=by
   rintro i rfl
   have ho:=(qa8 hcomp).1 i rfl
   have:(execOp a.eval o).run P w = .ok (.value (a.eval (.tmp i))) w:=by simp [execOp,ho]
   rw [this] at h1
   cases h1
   rcases h2 with h2 | ⟨h2,_⟩
   ·cases h2;rfl
   ·cases h2
  have h7:∀q id off,ao = .ld none q→ev t q = .ptr id off→∃b,G.γ id = some b∧w.cell? ⟨b,off,none⟩ = some u:=by
   rintro q id off rfl hq
   obtain ⟨ty,y,ho,hy,hk⟩:=(qa8 hcomp).2.1 q rfl
   have hv:=qv hc.rel hc.tr hy
   rw [hq] at hv
   simp only [qe.V,qn] at hv
   obtain ⟨b,hb,he⟩:=hv
   refine ⟨b,hb,?_⟩
   obtain ⟨g1,_⟩:=qdV hk w
   simp only [qq] at hrun
   obtain ⟨v,hv,_⟩:=qaM hrun
   rw [hq] at hv
   simp only [qb8] at hv
   split at hv
   ·rename_i cs hcs
    obtain ⟨c,te,hw,hcr,_⟩:=hc.rel.box id b _ hb hcs
    simp only [cut] at hv
    obtain ⟨av,hav,_⟩:=qaM hv
    obtain ⟨uv,huv,_⟩:=qdE hcr hav
    have hcell:w.cell? ⟨b,off,none⟩ = some uv:=by
     simp only [Array.getElem?_toList] at huv
     simp [World.cell?,hw,huv]
    have:(execOp a.eval o).run P w = .ok (.value uv) w:=by
     simp only [execOp,ho]
     refine qaA ?_
     simp only [Instr.loadAt,he,Instr.sureAddr,Sem.run_bind,Sem.run_pure,Result.andThen_ok,loadVar,g1,Option.isSome_none,Bool.false_eq_true,if_false,run_load,hcell]
    rw [this] at h1
    cases h1
    rcases h2 with h2 | ⟨h2,_⟩
    ·cases h2;exact hcell
    ·cases h2
   ·cases hv
  have:=hnor rfl u w' G' h3 h4 h5 h6 h7
  rw [h1]
  rcases h2 with rfl | ⟨rfl,rfl⟩
  ·rw [Oper.uponIn_value];exact this
  ·rw [Oper.uponIn_skip];exact this
 | true=>
  cases ao <;> simp [AOp.calls] at hcl
  case call f as=>
   obtain ⟨c,fo,ho,hcal,hf,has⟩:=(qa8 hcomp).2.2.2.1 f as rfl
   have hfv:=qv hc.rel hc.tr hf
   have hav:=qgw hc.rel hc.tr has
   obtain ⟨hr0,hn0⟩:=hc.rel.cellsOnly
   have hex:(execOp a.eval o).run P w = (qdZ (a.eval fo) (c.args.map a.eval)).run P w:=by
    simp only [execOp,ho,resolve,hcal,qdZ]
   rw [hex]
   simp only [qq] at hrun
   split at hrun
   ·rename_i v h1 e1 hcl1
    cases hrun
    refine qgU hcall hcl1 hr0 hn0 hfv hav ro m o a K Q (fun rv u w' G' hrv he hr' hn' hv=>?_) (fun pv u w' G' hpv=>by cases hpv)
    cases hrv
    obtain ⟨k1,k2,k3⟩:=qdu hc he hr'
    have hc':Cfg P gl (G'.with G) h1 t a w':=⟨k2,k3⟩
    refine hnor rfl u w' (G'.with G) k1 (hc'.putDim o.dst hv) (by simp [AOp.acts]) (by simp) (by simp)
   ·rename_i v h1 e1 hcl1
    cases hrun
    refine qgU hcall hcl1 hr0 hn0 hfv hav ro m o a K Q (fun rv u w' G' hrv=>by cases hrv) (fun pv u w' G' hpv he hr' hn' hv=>?_)
    cases hpv
    obtain ⟨k1,k2,k3⟩:=qdu hc he hr'
    exact hpan _ rfl u w' (G'.with G) k1 ⟨k2,k3⟩ hv
   ·cases hrun
  case pan y=>
   obtain ⟨xo,ho,hx⟩:=(qa8 hcomp).2.2.2.2.1 y rfl
   have hv:=qv hc.rel hc.tr hx
   simp only [qq] at hrun
   split at hrun
   ·rename_i u v hy
    cases hrun
    rw [hy] at hv
    have hv':=hv
    simp only [qe.V,qn] at hv'
    obtain ⟨x',he,_⟩:=hv'
    have hex:(execOp a.eval o).run P w = .halt (.panic (a.eval xo)) w:=by
     simp [execOp,ho,he,Instr.panic]
    rw [hex,Oper.uponIn_panic]
    exact hpan _ rfl _ w G (Ext.refl _ G w) hc hv
   ·cases hrun
theorem Act.put_get_ne {a:Act} {dst:Option Nat} {u:Value} {i:Nat} (h:dst ≠ some i):(a.put dst u).tmps[i]? = a.tmps[i]?:=by
 cases dst with
 | none=>rfl
 | some d=>
  have:d ≠ i:=fun e=>h (by rw [e])
  simp [Act.put,Array.getElem?_setIfInBounds,this]
theorem qk0 {dst:Option Nat} {v:qa} {x:ql} (h:∀d,dst = some d→x.isT d = false):raw (AE.put dst v t) x = raw t x:=by
 cases dst with
 | none=>rfl
 | some d=>
  cases x with
  | c _=>rfl
  | t i=>
   have:=h d rfl
   simp only [ql.isT,beq_eq_false_iff_ne,ne_eq] at this
   simp only [raw,AE.put,List.getD_eq_getElem?_getD]
   rw [List.getElem?_set_ne (fun e=>this e.symm)]
theorem qg7 {dst:Option Nat} {v:qa} {x:ql} (h:∀d,dst = some d→x.isT d = false):ev (AE.put dst v t) x = ev t x:=by
 simp only [ev,qk0 h]
theorem qan.next {p:qby} (hp:qan G w t a p) {o:qU} {u:Value} {v:qa} {t':List qa} (ht:o.op.effs = false→t' = AE.put o.dst v t)
  (hγ:∀i b,G.γ i = some b→G'.γ i = some b) (hh:o.op.effs = false→∀b,b < w.heap.size→w'.heap[b]? = w.heap[b]?)
  (hmov:∀i,o.op = .mov (.t i)→u = a.tmps.getD i undef) (hld:∀q id off,o.op = .ld none q→ev t q = .ptr id off→∃b,G.γ id = some b∧w.cell? ⟨b,off,none⟩ = some u) :
  qan G' w' t' (a.put o.dst u) (qZ p o):=by
 unfold qZ
 cases hac:o.op.effs with
 | true=>
  simp only [if_true]
  have one:∀d i,(d,Src.tmp i) ∈ p→o.dst ≠ some d→(∀k,o.dst = some k→(Src.tmp i).hangs k = false)→∀u',(a.put o.dst u).tmps[d]? = some u'→(a.put o.dst u).tmps.getD i undef = u':=by
   intro d i hm h1 h2 u' hu'
   rw [Act.put_get_ne h1] at hu'
   have h3:=hp d _ hm u' hu'
   simp only at h3
   rw [Array.getD_eq_getD_getElem?] at h3 ⊢
   rw [Act.put_get_ne (fun e=>by have:=h2 i e;simp [Src.hangs] at this)]
   exact h3
  cases hdst:o.dst with
  | none=>
   simp only [hdst] at one
   intro d s hm u' hu'
   simp only [List.mem_filter] at hm
   obtain ⟨h1,h2⟩:=hm
   cases s with
   | tmp i=>exact one d i h1 (by simp) (by simp) u' hu'
   | cell x=>cases h2
  | some k=>
   simp only [hdst] at one
   intro d s hm u' hu'
   simp only [List.mem_filter,Bool.and_eq_true,bne_iff_ne,ne_eq,Bool.not_eq_true'] at hm
   obtain ⟨h1,h2,h3,h4⟩:=hm
   cases s with
   | tmp i=>exact one d i h1 (by simpa using fun e=>h3 e.symm) (fun j hj=>by cases hj;exact h4) u' hu'
   | cell x=>cases h2
 | false=>
  simp only [Bool.false_eq_true,if_false]
  have hh:=hh hac
  have ht:=ht hac
  subst ht
  have hcell:∀b off v,w.cell? ⟨b,off,none⟩ = some v→w'.cell? ⟨b,off,none⟩ = some v:=by
   intro b off v hv
   have hb:b < w.heap.size:=by
    rcases Nat.lt_or_ge b w.heap.size with hb | hb
    ·exact hb
    ·simp [World.cell?,Array.getElem?_eq_none hb] at hv
   rw [qa2 (w:=w) (w':=w') (hh b hb)]
   exact hv
  have hold:∀d s,(d,s) ∈ p→o.dst ≠ some d→(∀k,o.dst = some k→s.hangs k = false)→∀u',(a.put o.dst u).tmps[d]? = some u'→match s with
    | .tmp i=>(a.put o.dst u).tmps.getD i undef = u'
    | .cell x=>∀id o',ev (AE.put o.dst v t) x = .ptr id o'→∃b,G'.γ id = some b∧w'.cell? ⟨b,o',none⟩ = some u':=by
   intro d s hm h1 h2 u' hu'
   rw [Act.put_get_ne h1] at hu'
   have h3:=hp d s hm u' hu'
   cases s with
   | tmp i=>
    simp only at h3 ⊢
    rw [Array.getD_eq_getD_getElem?] at h3 ⊢
    rw [Act.put_get_ne (fun e=>by have:=h2 i e;simp [Src.hangs] at this)]
    exact h3
   | cell x=>
    simp only at h3 ⊢
    intro id o' he
    rw [qg7 (fun d hd=>by have:=h2 d hd;simpa [Src.hangs] using this)] at he
    obtain ⟨b,g1,g2⟩:=h3 id o' he
    exact ⟨b,hγ id b g1,hcell b o' u' g2⟩
  cases hdst:o.dst with
  | none=>
   simp only [hdst] at hold
   intro d s hm u' hu'
   exact hold d s hm (by simp) (by simp) u' hu'
  | some k=>
   simp only [hdst] at hold ⊢
   have hq:qan G' w' (AE.put (some k) v t) (a.put (some k) u) (p.filter fun x=>x.1 != k && !x.2.hangs k):=by
    intro d s hm u' hu'
    simp only [List.mem_filter,Bool.and_eq_true,bne_iff_ne,ne_eq,Bool.not_eq_true'] at hm
    obtain ⟨h1,h2,h3⟩:=hm
    exact hold d s h1 (by simpa using fun e=>h2 e.symm) (fun j hj=>by cases hj;exact h3) u' hu'
   split
   ·rename_i s0 hs
    split
    ·exact hq
    ·rename_i hhang
     intro d s hm u' hu'
     rcases List.mem_cons.1 hm with hm | hm
     ·cases hm
      have hu:u' = u:=by
       simp only [Act.put,Array.getElem?_setIfInBounds] at hu'
       split at hu'
       ·split at hu' <;> cases hu';rfl
       ·rename_i hh;exact absurd trivial hh
      subst hu
      unfold qad at hs
      split at hs
      ·rename_i i ho
       cases hs
       have:=hmov i ho
       simp only
       rw [Array.getD_eq_getD_getElem?] at this ⊢
       rw [Act.put_get_ne (fun e=>by cases e;simp [Src.hangs] at hhang)]
       exact this.symm
      ·rename_i q ho
       cases hs
       simp only
       intro id o' he
       rw [qg7 (fun d hd=>by cases hd;simpa [Src.hangs] using hhang)] at he
       obtain ⟨b,g1,g2⟩:=hld q id o' ho he
       exact ⟨b,hγ id b g1,hcell b o' _ g2⟩
      ·cases hs
     ·exact hq d s hm u' hu'
   ·exact hq
theorem qcg {base:Nat} {call:AE.Call} {p:qby} {dst:Option Nat} {o:AOp} {s s':St} {x:Ex} (hac:o.effs = false) (hrun:qq base call p dst o s = some (x,s')) :
  x = .nor∧∃v,s'.t = AE.put dst v s.t∧s'.e = s.e∧((s'.h = s.h∧(pureV s.t o = some v∨(∃k q,o = .ld k q∧qb8 s.h (ev s.t q) k = some v)∨∃sh z ok m key,o = .lk sh z ok m key∧qhO s.h sh z ok (ev s.t m) (ev s.t key) = some v))∨
   (∃cs,s'.h = s.h ++ [.cells cs]∧v = .ptr s.h.length 0∧qcp s o = some (.box s.h.length cs))):=by
 cases o <;> simp only [AOp.effs,Bool.true_eq_false] at hac <;> simp only [qq] at hrun
 all_goals first
  | (obtain ⟨v,hv,he⟩:=qaM hrun
     cases he
     exact ⟨rfl,v,rfl,rfl,.inl ⟨rfl,.inl hv⟩⟩)
  | (obtain ⟨v,hv,he⟩:=qaM hrun
     cases he
     exact ⟨rfl,v,rfl,rfl,.inl ⟨rfl,.inr (.inl ⟨_,_,rfl,hv⟩)⟩⟩)
  | (obtain ⟨v,hv,he⟩:=qaM hrun
     cases he
     exact ⟨rfl,v,rfl,rfl,.inl ⟨rfl,.inr (.inr ⟨_,_,_,_,_,rfl,hv⟩)⟩⟩)
  | (cases hrun
     exact ⟨rfl,_,rfl,rfl,.inr ⟨_,rfl,rfl,rfl⟩⟩)
  | (split at hrun
     ·cases hrun
      exact ⟨rfl,_,rfl,rfl,.inr ⟨_,rfl,rfl,rfl⟩⟩
     ·cases hrun)
def Fin (P:Program) (gl:Nat→Option (List qa)) (n:Nat) (G:qe) (w:World) (ds:List Deferred) (x:Ex) (s':St) (e:Exit) (a':Act) (w':World):Prop:=
 ∃G',Ext n G w G' w'∧a'.defers = ds∧match x with
  | .nor=>e = .normal∧Cfg P gl G' s'.h s'.t a' w'
  | .exit id=>e = .exit id∧Cfg P gl G' s'.h s'.t a' w'
  | .ret=>e = .ret∧Cfg P gl G' s'.h s'.t a' w'
  | .pan pv=>∃v,e = .panic [{ v,recovered:=false}]∧Cfg P gl G' s'.h s'.t a' w'∧G'.V pv v
theorem Fin.of_ext {n m:Nat} {ds:List Deferred} {x:Ex} {s':St} {e:Exit} {a':Act} (hnm:n ≤ m) (he:Ext n G w G' w') {w'':World} (hf:Fin P gl m G' w' ds x s' e a' w''):Fin P gl n G w ds x s' e a' w'':=
 let ⟨G'',h1,h2⟩:=hf
 ⟨G'',he.trans hnm h1,h2⟩
theorem qaK {ops:Array Oper} {o:Oper} {ao:qU} (ht:qW G w t a.tmps) (hcomp:qaO P gl ops o = some ao) {b:Bool} (hw:wanted t ao.guard = some b) :
  qbe P gl o = some ao.op∧ao.dst = o.dst∧Region.wanted o (yielded ops a.tmps) = b:=by
 simp only [qaO] at hcomp
 obtain ⟨op,hop,hcomp⟩:=qk hcomp
 cases hg:o.guard with
 | none=>
  simp only [hg] at hcomp
  cases hcomp
  simp only [wanted,Option.some.injEq] at hw
  exact ⟨hop,rfl,by simp [Region.wanted,hg,hw]⟩
 | some jb=>
  obtain ⟨j,want⟩:=jb
  simp only [hg] at hcomp
  obtain ⟨d,hd,hcomp⟩:=qk hcomp
  cases hcomp
  refine ⟨hop,rfl,?_⟩
  simp only [wanted] at hw
  have hv:=ht.get d
  simp only [Region.wanted,hg,yielded,hd,Option.bind_some]
  have hlen:=ht.length
  split at hw
  ·rename_i c hc
   rw [hc] at hv
   simp only [qe.V,qn] at hv
   cases hw
   have hdl:d < a.tmps.size:=by
    rcases Nat.lt_or_ge d a.tmps.size with h | h
    ·exact h
    ·rw [Array.getD_eq_getD_getElem?,Array.getElem?_eq_none h] at hv;simp [undef] at hv
   rw [Array.getD_eq_getD_getElem?,Array.getElem?_eq_getElem hdl,Option.getD_some] at hv
   rw [Array.getElem?_eq_getElem hdl,hv]
   rfl
  ·rename_i hc
   rw [hc] at hv
   simp only [qe.V,qn,qh] at hv
   obtain ⟨x,hv,_⟩:=hv
   cases hw
   rw [Array.getD_eq_getD_getElem?] at hv
   cases hx:a.tmps[d]? with
   | none=>rfl
   | some y=>rw [hx] at hv;simp at hv;subst hv;rfl
  ·cases hw
def qxE (P:Program) (gl:Nat→Option (List qa)) (ops:Array Oper):List Nat→List qU→Prop
 | [],[]=>True
 | i :: l,ao :: os=>(∃o,ops[i]? = some o∧qaO P gl ops o = some ao)∧qxE P gl ops l os
 | _,_=>False
theorem qbM (hc:Cfg P gl G h t a w) (dst:Option Nat):Cfg P gl G h (AE.put dst (.tup []) t) (a.put dst undef) w:=
 hc.put dst (by simp [qe.V,qn,qh,undef]) rfl
theorem qof {call:AE.Call} (hcall:qbd P gl call) (hk:qF call) {ops:Array Oper} {base:Nat} {ro:Option Nat} {m:Nat} {x:Ex} {s':St} :
  ∀(l:List Nat) (os:List qU),qxE P gl ops l os→∀(G:qe) (w:World) (h:List qg) (t:List qa) (e:Bool) (a:Act) (p:qby),Cfg P gl G h t a w→qan G w t a p→base ≤ h.length→
   q9 base call p os ⟨t,h,e⟩ = some (x,s')→∀(Q:Exit→Act→World→Prop),(∀ex a' w',Fin P gl h.length G w a.defers x s' ex a' w'→Q ex a' w')→wpOpsIn (FR ro) m P ops Q l a w:=by
 intro l
 induction l with
 | nil=>
  intro os hl G w h t e a p hc hp hb hrun Q hQ
  cases os with
  | cons _ _=>exact hl.elim
  | nil=>
   simp only [q9] at hrun
   cases hrun
   exact hQ _ _ _ ⟨G,Ext.refl _ G w,rfl,rfl,hc⟩
 | cons i l ih=>
  intro os hl G w h t e a p hc hp hb hrun Q hQ
  cases os with
  | nil=>exact hl.elim
  | cons ao os=>
   obtain ⟨⟨o,ho,hco⟩,hl⟩:=hl
   simp only [wpOpsIn,ho]
   simp only [q9] at hrun
   split at hrun
   ·rename_i hw
    obtain ⟨hcomp,hdst,hwant⟩:=qaK hc.tr hco hw
    rw [if_pos hwant]
    simp only [hdst] at hrun
    cases hop:qq base call p o.dst ao.op ⟨t,h,e⟩ with
    | none=>rw [hop] at hrun;cases hrun
    | some r=>
     obtain ⟨x1,s1⟩:=r
     have hkeep:h.length ≤ s1.h.length:=(qa7 (base:=base) hk hb hop).1
     refine qdP hcall hk hc hp hcomp hop (fun hx u w' G' he hc' hst hmv hld=>?_) (fun pv hx v w' G' he hr' hv=>?_)
     ·subst hx
      rw [hop] at hrun
      simp only at hrun
      have hnext:qan G' w' s1.t (a.put o.dst u) (qZ p ao):=by
       have hq:ao.op.effs = false→ao.op.acts = false:=by cases ao.op <;> simp [AOp.effs,AOp.acts]
       rw [←hdst]
       by_cases hac:ao.op.effs = false
       ·obtain ⟨_,v,hv,_⟩:=qcg hac hop
        exact hp.next (v:=v) (fun _=>by rw [hdst];exact hv) he.gk (fun h=>hst (hq h)) hmv hld
       ·exact hp.next (v:=.undef) (fun h=>absurd h hac) he.gk (fun h=>absurd h hac) hmv hld
      refine ih os hl G' w' s1.h s1.t s1.e (a.put o.dst u) (qZ p ao) hc' hnext (Nat.le_trans hb hkeep) hrun Q fun ex a'' w'' hf=>hQ _ _ _ ?_
      rw [qa6] at hf
      exact Fin.of_ext hkeep he hf
     ·subst hx
      rw [hop] at hrun
      simp only at hrun
      cases hrun
      exact hQ _ _ _ ⟨G',he,rfl,v,rfl,hr',hv⟩
   ·rename_i hw
    obtain ⟨hcomp,hdst,hwant⟩:=qaK hc.tr hco hw
    rw [if_neg (by rw [hwant];simp)]
    refine ⟨fun _ _=>trivial,?_⟩
    simp only [hdst] at hrun
    have hnext:qan G w (AE.put o.dst (.tup []) t) (a.put o.dst undef) (qZ p { ao with op:=.pick (.c .undef) (.c .undef) (.c .undef)}):=by
     rw [←hdst]
     exact hp.next (o:={ ao with op:=.pick (.c .undef) (.c .undef) (.c .undef)}) (v:=.tup []) (fun _=>rfl) (fun _ _ h=>h) (fun _ _ _=>rfl) (fun _ h=>by cases h) (fun _ _ _ h=>by cases h)
    refine ih os hl G w h _ e _ _ (qbM hc o.dst) (by simpa only [hdst] using hnext) hb (by simpa only [hdst] using hrun) Q fun ex a'' w'' hf=>hQ _ _ _ ?_
    rwa [qa6] at hf
   ·cases hrun
end
mutual
theorem beq_eq:∀(a b:qa),qa.beq a b = true→a = b
 | .undef,b,h=>by cases b <;> simp_all [qa.beq]
 | .bool _,b,h=>by cases b <;> simp_all [qa.beq]
 | .int _ _,b,h=>by cases b <;> simp_all [qa.beq]
 | .str _,b,h=>by cases b <;> simp_all [qa.beq]
 | .nilptr,b,h=>by cases b <;> simp_all [qa.beq]
 | .ptr _ _,b,h=>by cases b <;> simp_all [qa.beq]
 | .iptr x o,b,h=>by
  cases b <;> simp only [qa.beq,Bool.and_eq_true,beq_iff_eq,Bool.false_eq_true] at h
  obtain ⟨h1,h2⟩:=h
  rw [h1,qbO _ _ h2]
 | .lst x f,b,h=>by
  cases b <;> simp only [qa.beq,Bool.and_eq_true,beq_iff_eq,Bool.false_eq_true] at h
  obtain ⟨h1,h2⟩:=h
  rw [h1,qbO _ _ h2]
 | .nilfunc,b,h=>by cases b <;> simp_all [qa.beq]
 | .fn f x y,b,h=>by
  cases b <;> simp only [qa.beq,Bool.and_eq_true,beq_iff_eq,Bool.false_eq_true] at h
  obtain ⟨⟨h1,h2⟩,h3⟩:=h
  rw [h1,qbO _ _ h2,qbO _ _ h3]
 | .yld _,b,h=>by cases b <;> simp_all [qa.beq]
 | .niliface,b,h=>by cases b <;> simp_all [qa.beq]
 | .iface t x,b,h=>by
  cases b <;> simp only [qa.beq,Bool.and_eq_true,beq_iff_eq,Bool.false_eq_true] at h
  obtain ⟨h1,h2⟩:=h
  rw [h1,beq_eq _ _ h2]
 | .agg x,b,h=>by
  cases b <;> simp only [qa.beq,Bool.false_eq_true] at h
  rw [qbO _ _ h]
 | .tup x,b,h=>by
  cases b <;> simp only [qa.beq,Bool.false_eq_true] at h
  rw [qbO _ _ h]
 | .sl _ _ _ _ _,b,h=>by
  cases b <;> simp only [qa.beq,Bool.and_eq_true,beq_iff_eq,Bool.false_eq_true] at h
  obtain ⟨⟨⟨⟨rfl,rfl⟩,rfl⟩,rfl⟩,rfl⟩:=h
  rfl
 | .mp _,b,h=>by cases b <;> simp_all [qa.beq]
 | .nilmap,b,h=>by cases b <;> simp_all [qa.beq]
 | .nils,b,h=>by cases b <;> simp_all [qa.beq]
 | .empt,b,h=>by cases b <;> simp_all [qa.beq]
theorem qbO:∀(as bs:List qa),qgQ as bs = true→as = bs
 | [],bs,h=>by cases bs <;> simp_all [qgQ]
 | a :: as,bs,h=>by
  cases bs with
  | nil=>simp [qgQ] at h
  | cons b bs=>
   simp only [qgQ,Bool.and_eq_true] at h
   rw [beq_eq _ _ h.1,qbO _ _ h.2]
end
theorem qlw:∀{a b:List (Nat×qa×qa)},quK a b = true→a = b
 | [],b,h=>by cases b <;> simp_all [quK]
 | x :: xs,b,h=>by
  cases b with
  | nil=>simp [quK] at h
  | cons y ys=>
   simp only [quK,Bool.and_eq_true,beq_iff_eq] at h
   obtain ⟨⟨⟨h1,h2⟩,h3⟩,h4⟩:=h
   obtain ⟨x1,x2,x3⟩:=x
   obtain ⟨y1,y2,y3⟩:=y
   simp only at h1 h2 h3
   rw [h1,beq_eq _ _ h2,beq_eq _ _ h3,qlw h4]
theorem qg.beq_eq {a b:qg} (h:a.beq b = true):a = b:=by
 cases a <;> cases b <;> simp only [qg.beq,Bool.and_eq_true,beq_iff_eq,Bool.false_eq_true] at h
 ·rw [qbO _ _ h]
 ·rw [h.1,qlw h.2]
 ·obtain ⟨⟨⟨h1,rfl⟩,rfl⟩,rfl⟩:=h
  rw [AE.beq_eq _ _ h1]
 ·rfl
theorem qlv:∀{a b:List qg},quJ a b = true→a = b
 | [],b,h=>by cases b <;> simp_all [quJ]
 | x :: xs,b,h=>by
  cases b with
  | nil=>simp [quJ] at h
  | cons y ys=>
   simp only [quJ,Bool.and_eq_true] at h
   rw [qg.beq_eq h.1,qlv h.2]
def Chk.Holds (h:List qg):Chk→Prop
 | .ld a k v=>qb8 h a k = some v
 | .box id cs=>h[id]? = some (.cells cs)
 | .lk sh z ok m key v=>qhO h sh z ok m key = some v
theorem Chk.holds_of_ok {h:List qg} {c:Chk} (hc:c.ok h = true):c.Holds h:=by
 cases c with
 | ld a k v=>
  simp only [Chk.ok] at hc
  split at hc
  ·rename_i w hw
   simp only [Chk.Holds,hw,beq_eq _ _ hc]
  ·cases hc
 | box id cs=>
  simp only [Chk.ok] at hc
  split at hc
  ·rename_i ds hd
   simp only [Chk.Holds,hd,qbO _ _ hc]
  ·cases hc
 | lk sh z ok m key v=>
  simp only [Chk.ok] at hc
  split at hc
  ·rename_i w hw
   simp only [Chk.Holds,hw,beq_eq _ _ hc]
  ·cases hc
theorem qir {h g:List qg} {a:qa} {k:Option Nat} {v:qa} (hl:qb8 h a k = some v):qb8 (h ++ g) a k = some v:=by
 unfold qb8 at hl ⊢
 split at hl
 ·rename_i i o
  split at hl
  ·rename_i cs hcs
   rw [List.getElem?_append_left (List.getElem?_eq_some_iff.1 hcs).1,hcs]
   exact hl
  ·cases hl
 ·exact hl
 ·cases hl
theorem qge {h g:List qg} {m:qa} {es:List (Nat×qa×qa)} (he:qg5 h m = some es):qg5 (h ++ g) m = some es:=by
 unfold qg5 at he ⊢
 split at he
 ·exact he
 ·split at he
  ·rename_i hid
   simp only [List.getElem?_append_left (List.getElem?_eq_some_iff.1 hid).1,hid]
   exact he
  ·cases he
 ·cases he
theorem qiw {h g:List qg} {sh:qaX} {z:qa} {ok:Bool} {m key v:qa} (hl:qhO h sh z ok m key = some v):qhO (h ++ g) sh z ok m key = some v:=by
 unfold qhO at hl ⊢
 split at hl
 ·rename_i es he
  rw [qge he]
  exact hl
 ·cases hl
theorem Chk.Holds.append {h g:List qg} {c:Chk} (hc:c.Holds h):c.Holds (h ++ g):=by
 cases c with
 | ld a k v=>exact qir hc
 | box id cs=>
  simp only [Chk.Holds] at hc ⊢
  rw [List.getElem?_append_left (List.getElem?_eq_some_iff.1 hc).1,hc]
 | lk sh z ok m key v=>exact qiw hc
section
variable {t t':List qa}
def qbA (t t':List qa) (l:List Nat):Prop:=∀i ∈ l,(t.getD i .undef).dim = (t'.getD i .undef).dim
theorem qbA.left {l m:List Nat} (h:qbA t t' (l ++ m)):qbA t t' l:=fun i hi=>h i (List.mem_append_left _ hi)
theorem qbA.right {l m:List Nat} (h:qbA t t' (l ++ m)):qbA t t' m:=fun i hi=>h i (List.mem_append_right _ hi)
theorem qbA.ev {x:ql} (h:qbA t t' x.slot):ev t x = ev t' x:=by
 cases x with
 | c _=>rfl
 | t i=>exact h i (by simp [ql.slot])
theorem qbA.evs:∀{xs:List ql},qbA t t' (qdT xs)→xs.map (AE.ev t) = xs.map (AE.ev t')
 | [],_=>rfl
 | x :: xs,h=>by
  simp only [qdT] at h
  rw [List.map_cons,List.map_cons,h.left.ev,qbA.evs h.right]
theorem qbA.bound {x:Option ql} {d:Nat} (h:qbA t t' (quq x)):bound t x d = bound t' x d:=by
 cases x with
 | none=>rfl
 | some x=>simp only [AE.bound,qbA.ev (x:=x) h]
theorem qbA.parts3 {ps:List (Nat×Nat×ql)} (h:qbA t t' (qdT (ps.map (·.2.2)))):(ps.map fun (o,s,x)=>(o,s,AE.ev t x)) = ps.map fun (o,s,x)=>(o,s,AE.ev t' x):=by
 induction ps with
 | nil=>rfl
 | cons p ps ih=>
  simp only [List.map_cons,qdT] at h
  simp only [List.map_cons]
  rw [ih h.right,qbA.ev h.left]
theorem qbA.parts2 {k:Nat} {ps:List (Nat×ql)} (h:qbA t t' (qdT (ps.map (·.2)))):(ps.map fun (i,x)=>(i * k,k,AE.ev t x)) = ps.map fun (i,x)=>(i * k,k,AE.ev t' x):=by
 induction ps with
 | nil=>rfl
 | cons p ps ih=>
  simp only [List.map_cons,qdT] at h
  simp only [List.map_cons]
  rw [ih h.right,qbA.ev h.left]
theorem qbA.pureV {o:AOp} (h:qbA t t' o.looks):pureV t o = pureV t' o:=by
 cases o <;> simp only [AOp.looks] at h <;> simp only [AE.pureV]
 case pick=>rw [h.left.left.ev,h.left.right.ev,h.right.ev]
 case build=>rw [h.parts3]
 case list=>rw [h.parts2]
 case mkF=>rw [h.left.evs,h.right.evs]
 case subS=>rw [h.left.left.ev,h.left.right.bound];simp only [h.right.bound]
 case subL=>rw [h.left.left.ev,h.left.right.bound];simp only [h.right.bound]
 case len b x=>cases b <;> simp only [h.ev]
 all_goals first
  | rfl
  | rw [h.ev]
  | rw [h.left.ev,h.right.ev]
theorem qbA.wanted {j:Nat} {b:Bool} (h:qbA t t' [j]):wanted t (some (j,b)) = wanted t' (some (j,b)):=by
 have h:=h j (by simp)
 have key:∀v:qa,(match v with | .bool c=>some (c == b) | .tup []=>some false | _=>none) = (match v.dim with | .bool c=>some (c == b) | .tup []=>some false | _=>none):=by
  intro v
  cases v <;> try rfl
  rename_i xs f
  cases f <;> rfl
 simp only [AE.wanted]
 exact (key (t.getD j .undef)).trans (by rw [h];exact (key _).symm)
theorem qU.want_looks {o:qU} (h:qbA t t' o.looks):AE.wanted t o.guard = AE.wanted t' o.guard∧qbA t t' o.op.looks:=by
 unfold qU.looks at h
 split at h
 ·rename_i j b hg
  rw [hg]
  exact ⟨qbA.wanted (fun i hi=>h i (by simp at hi;simp [hi])),fun i hi=>h i (List.mem_cons_of_mem _ hi)⟩
 ·rename_i hg
  rw [hg]
  exact ⟨rfl,h⟩
end
section
variable {ms:List Nat} {t:List qa}
theorem qbk (i:Nat):(qbf ms t)[i]? = (t[i]?).map fun x=>if ms.contains i then qa.undef else x:=by simp [qbf]
theorem qa5:(qbf ms t).length = t.length:=by simp [qbf]
theorem qgt:qbf [] t = t:=by
 apply List.ext_getElem?
 intro i
 rw [qbk]
 simp
theorem qdN {i:Nat} (hi:i ∉ ms):(qbf ms t).getD i .undef = t.getD i .undef:=by
 rw [List.getD_eq_getElem?_getD,List.getD_eq_getElem?_getD,qbk]
 simp [hi]
theorem qgu {i:Nat} {v:qa} (hi:i ∉ ms):(qbf ms t).set i v = qbf ms (t.set i v):=by
 have hc:ms.contains i = false:=by simpa using hi
 apply List.ext_getElem?
 intro j
 rw [qbk,List.getElem?_set,List.getElem?_set,qbk,qa5]
 by_cases e:i = j
 ·subst e
  by_cases hl:i < t.length <;> simp [hl,hi]
 ·simp [e]
theorem qex {x:ql} (h:∀i ∈ x.slot,i ∉ ms):raw (qbf ms t) x = raw t x:=by
 cases x with
 | c _=>rfl
 | t i=>exact qdN (h i (by simp [ql.slot]))
theorem qgf {x:ql} (h:∀i ∈ x.slot,i ∉ ms):ev (qbf ms t) x = ev t x:=by simp only [ev,qex h]
theorem qbK {dst:Option Nat} {v:qa} (h:∀d,dst = some d→d ∉ ms):AE.put dst v (qbf ms t) = qbf ms (AE.put dst v t):=by
 cases dst with
 | none=>rfl
 | some d=>exact qgu (h d rfl)
theorem qed {x:ql} (h:∀i ∈ x.slot,i ∉ ms):qI (qbf ms t) x = qbf ms (qI t x):=by
 cases x with
 | c _=>rfl
 | t i=>
  have hi:=h i (by simp [ql.slot])
  simp only [qI,qdN hi]
  split
  ·exact qgu hi
  ·rfl
theorem qdS {l:List Nat} (h:∀i ∈ l,i ∉ ms):qbA (qbf ms t) t l:=fun i hi=>by rw [qdN (h i hi)]
theorem qla {k:Nat} {x:ql} {h:List qg} {e:Bool} (hx:∀i ∈ x.slot,i ∉ ms):qcH k [] x ⟨qbf ms t,h,e⟩ = (qcH k [] x ⟨t,h,e⟩).map fun r=>(r.1,{ r.2 with t:=qbf ms r.2.t}):=by
 cases x with
 | c _=>rfl
 | t i=>
  have hi:=hx i (by simp [ql.slot])
  simp only [qcH,qdN hi]
  split
  ·split
   ·simp only [Option.map_some,qgu hi]
   ·rfl
  ·rfl
theorem qfT {base:Nat} {call:AE.Call} {dst:Option Nat} {o:AOp} {h:List qg} {e:Bool} (hac:o.effs = true) (hl:∀i ∈ o.looks,i ∉ ms) (hd:∀d,dst = some d→d ∉ ms) :
  qq base call [] dst o ⟨qbf ms t,h,e⟩ = (qq base call [] dst o ⟨t,h,e⟩).map fun r=>(r.1,{ r.2 with t:=qbf ms r.2.t}):=by
 cases o <;> simp only [AOp.effs,Bool.false_eq_true] at hac <;> simp only [AOp.looks] at hl <;> simp only [qq]
 case asg x=>
  simp only [Option.map_some,qex hl,qed hl,qbK hd]
 case st k a x=>
  have h1:∀i ∈ a.slot,i ∉ ms:=fun i hi=>hl i (List.mem_append_left _ hi)
  have h2:∀i ∈ x.slot,i ∉ ms:=fun i hi=>hl i (List.mem_append_right _ hi)
  rw [qgf h1,qex h2,qed h2,qbK hd]
  split
  ·split
   ·cases k <;> simp only <;> split <;> rfl
   ·rfl
  ·rfl
 case call f as=>
  have h1:∀i ∈ f.slot,i ∉ ms:=fun i hi=>hl i (List.mem_append_left _ hi)
  have h2:∀i ∈ qdT as,i ∉ ms:=fun i hi=>hl i (List.mem_append_right _ hi)
  rw [qgf h1,(qdS h2).evs]
  split <;> simp only [Option.map_some,qbK hd,Option.map_none]
 case app k x y=>
  have h1:∀i ∈ x.slot,i ∉ ms:=fun i hi=>hl i (List.mem_append_left _ hi)
  have h2:∀i ∈ y.slot,i ∉ ms:=fun i hi=>hl i (List.mem_append_right _ hi)
  rw [qgf h2,qex h1]
  split
  ·split
   ·simp only [Option.map_some,qbK hd]
   ·split
    ·split
     ·simp only [Option.map_some,qbK hd]
     ·rw [qla h1]
      cases ht:qcH k [] x ⟨t,h,e⟩ with
      | none=>rfl
      | some r=>
       obtain ⟨xs,s⟩:=r
       simp only [Option.map_some]
       split
       ·simp only [Option.map_some,qbK hd]
       ·rfl
    ·rfl
  ·rfl
 case pan x=>
  rw [qgf hl]
  split <;> rfl
 case hx k as=>
  rw [(qdS hl).evs]
  cases hop base k (as.map (ev t)) h with
  | none=>rfl
  | some r=>simp only [Option.map_some,qbK hd]
theorem qff {i k:Nat} {xs:List qa} {j:Nat} (h:t.getD i .undef = .lst xs (.own j)):((t.set i (.lst xs .no)).getD k .undef).dim = (t.getD k .undef).dim:=by
 by_cases e:i = k
 ·subst e
  have hi:i < t.length:=by
   rcases Nat.lt_or_ge i t.length with h' | h'
   ·exact h'
   ·rw [List.getD_eq_getElem?_getD,List.getElem?_eq_none h'] at h;cases h
  rw [h,List.getD_eq_getElem?_getD,List.getElem?_set_self hi]
  rfl
 ·rw [List.getD_eq_getElem?_getD,List.getElem?_set_ne e,←List.getD_eq_getElem?_getD]
theorem qct {x:ql} {k:Nat}:((qI t x).getD k .undef).dim = (t.getD k .undef).dim:=by
 cases x with
 | c _=>rfl
 | t i=>
  simp only [qI]
  split
  ·rename_i xs j hx
   exact qff hx
  ·rfl
theorem qay {x:ql} {k:Nat} (hk:k ∉ x.slot):(qI t x)[k]? = t[k]?:=by
 cases x with
 | c _=>rfl
 | t i=>
  have:i ≠ k:=fun e=>hk (by simp [ql.slot,e])
  simp only [qI]
  split
  ·rw [List.getElem?_set_ne this]
  ·rfl
theorem qc9 {x:ql}:(qI t x).length = t.length:=by
 cases x with
 | c _=>rfl
 | t i=>simp only [qI];split <;> simp
theorem put_get_ne {dst:Option Nat} {v:qa} {k:Nat} (h:dst ≠ some k):(AE.put dst v t)[k]? = t[k]?:=by
 cases dst with
 | none=>rfl
 | some d=>
  have:d ≠ k:=fun e=>h (by rw [e])
  simp [AE.put,List.getElem?_set_ne this]
theorem qas {dst:Option Nat} {v:qa}:(AE.put dst v t).length = t.length:=by cases dst <;> simp [AE.put]
theorem qiV {k:Nat} {x:ql} {s s':St} {xs:List qa} (h:qcH k [] x s = some (xs,s')):(∃i,x = .t i∧∃j,s.t.getD i .undef = .lst xs (.own j)∧s'.t = s.t.set i (.lst xs .no))∧s'.h = s.h∧s'.e = s.e:=by
 cases x with
 | c _=>cases h
 | t i=>
  simp only [qcH] at h
  split at h
  ·rename_i ys j hy
   split at h
   ·cases h;exact ⟨⟨i,rfl,j,hy,rfl⟩,rfl,rfl⟩
   ·cases h
  ·cases h
theorem qT {t t':List qa} {k:Nat} (h:t'[k]? = t[k]?):t'.getD k .undef = t.getD k .undef:=by
 rw [List.getD_eq_getElem?_getD,List.getD_eq_getElem?_getD,h]
theorem qfc {base:Nat} {call:AE.Call} {dst:Option Nat} {o:AOp} {s s':St} (h:qq base call [] dst o s = some (.nor,s')) :
  s'.t.length = s.t.length∧∀k,dst ≠ some k→(s'.t.getD k .undef).dim = (s.t.getD k .undef).dim∧(k ∉ o.looks→s'.t[k]? = s.t[k]?):=by
 cases hac:o.effs with
 | false=>
  obtain ⟨_,v,hv,_⟩:=qcg hac h
  rw [hv]
  exact ⟨qas,fun k hk=>⟨by rw [qT (put_get_ne hk)],fun _=>put_get_ne hk⟩⟩
 | true=>
  cases o <;> simp only [AOp.effs,Bool.false_eq_true] at hac <;> simp only [qq] at h
  case asg x=>
   cases h
   refine ⟨by rw [qas,qc9],fun k hk=>⟨by rw [qT (put_get_ne hk),qct],fun hl=>?_⟩⟩
   rw [put_get_ne hk,qay hl]
  case st k0 a x=>
   split at h
   ·split at h
    ·have key:s'.t = AE.put dst .undef (qI s.t x):=by
      cases k0 <;> simp only at h <;> split at h <;> first | (cases h;done) | (cases h;rfl)
     rw [key]
     refine ⟨by rw [qas,qc9],fun k hk=>⟨by rw [qT (put_get_ne hk),qct],fun hl=>?_⟩⟩
     rw [put_get_ne hk,qay (fun hx=>hl (by simp only [AOp.looks];exact List.mem_append_right _ hx))]
    ·cases h
   ·cases h
  case call f as=>
   split at h
   ·cases h
    exact ⟨qas,fun k hk=>⟨by rw [qT (put_get_ne hk)],fun _=>put_get_ne hk⟩⟩
   ·cases h
   ·cases h
  case app k0 x y=>
   split at h
   ·split at h
    ·cases h
     exact ⟨qas,fun k hk=>⟨by rw [qT (put_get_ne hk)],fun _=>put_get_ne hk⟩⟩
    ·split at h
     ·split at h
      ·cases h
       exact ⟨qas,fun k hk=>⟨by rw [qT (put_get_ne hk)],fun _=>put_get_ne hk⟩⟩
      ·split at h
       ·rename_i xs s1 hs1
        split at h
        ·cases h
         obtain ⟨⟨i,rfl,j,h1,h2⟩,_⟩:=qiV hs1
         refine ⟨by simp [qas,h2],fun k hk=>⟨by rw [qT (put_get_ne hk)];simp only [h2];exact qff h1,fun hl=>?_⟩⟩
         rw [put_get_ne hk]
         simp only [h2]
         rw [List.getElem?_set_ne]
         rintro rfl
         exact hl (by simp [AOp.looks,ql.slot])
        ·cases h
       ·cases h
     ·cases h
   ·cases h
  case pan x=>
   split at h
   ·cases h
   ·cases h
  case hx k0 as=>
   obtain ⟨r,_,he⟩:=qaM h
   cases he
   exact ⟨qas,fun k hk=>⟨by rw [qT (put_get_ne hk)],fun _=>put_get_ne hk⟩⟩
theorem qb3 {base:Nat} {call:AE.Call} {dsts:List Nat}:∀(c:List qw) (pend:List (Nat×Chk)) (s:St) (t:List qw) (s':St),qp base call dsts (c ++ t) pend s = some (.nor,s')→∃pend0 s0,∀t',qp base call dsts (c ++ t') pend s = qp base call dsts t' pend0 s0
 | [],pend,s,_,_,_=>⟨pend,s,fun _=>rfl⟩
 | d :: c,pend,s,t,s',h=>by
  simp only [List.cons_append,qp] at h
  split at h
  ·rename_i hw
   split at h
   ·rename_i s1 hop
    split at h
    ·rename_i he
     split at h
     ·rename_i hp
      obtain ⟨p0,s0,hgo⟩:=qb3 c _ _ t s' h
      exact ⟨p0,s0,fun t'=>by simp only [List.cons_append,qp,hw,hop,he,hp,if_true];exact hgo t'⟩
     ·cases h
    ·rename_i he
     cases hc:qcp s d.o.op with
     | none=>
      simp only [hc] at h
      obtain ⟨p0,s0,hgo⟩:=qb3 c _ _ t s' h
      exact ⟨p0,s0,fun t'=>by simp only [List.cons_append,qp,hw,hop,he,hc];exact hgo t'⟩
     | some k=>
      simp only [hc] at h
      obtain ⟨p0,s0,hgo⟩:=qb3 c _ _ t s' h
      exact ⟨p0,s0,fun t'=>by simp only [List.cons_append,qp,hw,hop,he,hc];exact hgo t'⟩
   ·split at h <;> cases h
   ·cases h
  ·rename_i hw
   obtain ⟨p0,s0,hgo⟩:=qb3 c _ _ t s' h
   exact ⟨p0,s0,fun t'=>by simp only [List.cons_append,qp,hw];exact hgo t'⟩
  ·cases h
theorem qcO {base:Nat} {call:AE.Call} {dsts:List Nat} {d:qw} {ds:List qw} {pend:List (Nat×Chk)} {s s':St} {k:Option Nat} {p x:ql} (hg:d.o.guard = none) (hd:d.o.dst = none) (ho:d.o.op = .st k p x) (h:qp base call dsts (d :: ds) pend s = some (.nor,s')) :
  ∃s1,qq base call [] none (.st k p x) s = some (.nor,s1)∧qp base call dsts ds (pend.filter fun c=>!d.cl.testBit c.1) s1 = some (.nor,s'):=by
 simp only [qp,hg,wanted,hd,ho,AOp.effs,if_true] at h
 split at h
 ·rename_i s1 hop
  split at h
  ·exact ⟨s1,hop,h⟩
  ·cases h
 ·cases h
 ·cases h
def qCq (k:Option Nat) (v:qa):List qa:=
 match k with
 | none=>[v]
 | some _=>v.dim.cells.map qa.dim
theorem qjv {base:Nat} {call:AE.Call} {k:Option Nat} {p x:ql} {s s1:St} (h:qq base call [] none (.st k p x) s = some (.nor,s1)) :
  ∃id o cs vs,ev s.t p = .ptr id o∧s.h[id]? = some (.cells cs)∧vs = qCq k (raw s.t x)∧s1 = ⟨qI s.t x,s.h.set id (.cells (splice cs o vs)),s.e || !(Nat.ble base id || qz (id + 1) vs)⟩:=by
 simp only [qq] at h
 split at h
 ·rename_i id o hp
  split at h
  ·rename_i cs hcs
   cases k with
   | none=>
    simp only at h
    split at h
    ·cases h;exact ⟨id,o,cs,_,hp,hcs,rfl,rfl⟩
    ·cases h
   | some kk=>
    simp only at h
    split at h
    ·cases h;exact ⟨id,o,cs,_,hp,hcs,rfl,rfl⟩
    ·cases h
  ·cases h
 ·cases h
theorem qjS {x p:ql}:ev (qI t x) p = ev t p:=by
 cases p with
 | c _=>rfl
 | t i=>exact qct
theorem qe7 {x y:ql} (h:x.slot.all (fun i=>!y.slot.contains i) = true):raw (qI t x) y = raw t y:=by
 cases y with
 | c _=>rfl
 | t i=>
  have:i ∉ x.slot:=fun hi=>by
   have:=List.all_eq_true.1 h i hi
   simp [ql.slot] at this
  exact qT (qay this)
theorem qg3 {x y:ql} (h:x.slot.all (fun i=>!y.slot.contains i) = true):qI (qI t x) y = qI (qI t y) x:=by
 cases x with
 | c _=>rfl
 | t i=>
  cases y with
  | c _=>rfl
  | t j=>
   have hij:i ≠ j:=by simpa [ql.slot] using h
   have e1:(qI t (.t i)).getD j .undef = t.getD j .undef:=qT (qay (by simp [ql.slot,Ne.symm hij]))
   have e2:(qI t (.t j)).getD i .undef = t.getD i .undef:=qT (qay (by simp [ql.slot,hij]))
   have d1:∀u:List qa,∀m,qI u (.t m) = match u.getD m .undef with | .lst xs (.own _)=>u.set m (.lst xs .no) | _=>u:=fun _ _=>rfl
   rw [d1 (qI t (.t i)) j,e1,d1 (qI t (.t j)) i,e2,d1 t i,d1 t j]
   split <;> split <;> first | rfl | exact List.set_comm _ _ hij
theorem qpB {base:Nat} {call:AE.Call} {dsts:List Nat} {c:List qw} {a b:qw} {r:List qw} {s:St} {x:Ex} {s':St} (h:qpm a b (qp base call dsts (c ++ [a,b]) [] s) (qp base call dsts (c ++ a :: b :: r) [] s) (qp base call dsts (c ++ b :: a :: r) [] s) = some (x,s')) :
  x = .nor∧qp base call dsts (c ++ a :: b :: r) [] s = some (.nor,s')∧qp base call dsts (c ++ b :: a :: r) [] s = some (.nor,s'):=by
 obtain ⟨rfl,h1,⟨s2,h2⟩,sx,hx,hap⟩:=qgR h
 refine ⟨rfl,h1,?_⟩
 obtain ⟨pend0,s0,hgo⟩:=qb3 c [] s _ _ h1
 rw [hgo] at h1 h2 hx ⊢
 unfold apart at hap
 simp only [Bool.and_eq_true,Option.isNone_iff_eq_none] at hap
 obtain ⟨⟨⟨⟨g1,g2⟩,d1⟩,d2⟩,hap⟩:=hap
 split at hap
 ·rename_i ka p x kb q y oa ob
  simp only [Bool.and_eq_true] at hap
  obtain ⟨hs,hap⟩:=hap
  obtain ⟨sa,ra,h1⟩:=qcO g1 d1 oa h1
  obtain ⟨sb,rb,h1⟩:=qcO g2 d2 ob h1
  obtain ⟨su,ru,hx⟩:=qcO g1 d1 oa hx
  obtain ⟨sv,rv,hx⟩:=qcO g2 d2 ob hx
  simp only [qp] at hx
  rw [ra] at ru
  cases ru
  rw [rb] at rv
  cases rv
  cases hx
  rw [h2]
  obtain ⟨sc,rc,h2⟩:=qcO g2 d2 ob h2
  obtain ⟨sd,rd,h2⟩:=qcO g1 d1 oa h2
  obtain ⟨i1,o1,cs1,vs1,e1,e2,e3,rfl⟩:=qjv ra
  obtain ⟨i2,o2,cs2,vs2,f1,f2,f3,rfl⟩:=qjv rb
  obtain ⟨i3,o3,cs3,vs3,g1,g2,g3,rfl⟩:=qjv rc
  obtain ⟨i4,o4,cs4,vs4,k1,k2,k3,rfl⟩:=qjv rd
  have hs':y.slot.all (fun i=>!x.slot.contains i) = true:=by
   rw [List.all_eq_true] at hs ⊢
   intro i hi
   simp only [Bool.not_eq_true',List.contains_eq_mem,decide_eq_false_iff_not]
   intro hi'
   have:=hs i hi'
   simp [hi] at this
  simp only [qjS] at hap f1 k1
  rw [g1] at f1
  rw [e1] at k1
  cases f1
  cases k1
  rw [e1,g1] at hap
  have hne:i1 ≠ i2:=by
   intro e
   subst e
   simp at hap
  simp only at f2 k2 f3 k3 g2 g3
  rw [List.getElem?_set_ne hne,g2] at f2
  rw [List.getElem?_set_ne (Ne.symm hne),e2] at k2
  cases f2
  cases k2
  rw [qe7 hs] at f3
  rw [qe7 hs'] at k3
  rw [←g3] at f3
  rw [←e3] at k3
  subst f3
  subst k3
  have sw:∀u v w:Bool,(u || v || w) = (u || w || v):=by decide
  simp only at h1 h2
  have hf:(pend0.filter fun c=>!b.cl.testBit c.1).filter (fun c=>!a.cl.testBit c.1) = (pend0.filter fun c=>!a.cl.testBit c.1).filter (fun c=>!b.cl.testBit c.1):=by
   rw [List.filter_filter,List.filter_filter]
   congr 1
   funext c
   exact Bool.and_comm _ _
  rw [qg3 hs',List.set_comm _ _ (Ne.symm hne),sw,hf,h1] at h2
  exact h2.symm
 ·cases hap
end
section
variable {P:Program} {gl:Nat→Option (List qa)} {G G':qe} {w w':World} {h:List qg} {t t':List qa} {a:Act} {n:Nat}
theorem qW.poison {ts:Array Value} (hr:qW G w t ts) (hl:t'.length = t.length) (h:∀(i:Nat) (y:qa),t'[i]? = some y→t[i]? = some y∨y = .undef):qW G w t' ts:=by
 refine ⟨qh.of_get (by rw [hl];exact hr.rel.length) fun i x v hx hv=>?_,fun i xs k v hx hv=>?_⟩
 ·rcases h i x hx with h1 | rfl
  ·obtain ⟨u,hu,hr'⟩:=hr.rel.get h1
   rw [hv] at hu
   cases hu
   exact hr'
  ·obtain ⟨y,_,hr'⟩:=hr.rel.get' hv
   exact qpi hr'
 ·rcases h i _ hx with h1 | h1
  ·exact hr.own i xs k v h1 hv
  ·cases h1
theorem Rel.grow (hr:Rel P gl G h w) (g:List qg):Rel P gl G (h ++ g) w where
 γlt i b hb:=⟨Nat.lt_of_lt_of_le (hr.γlt i b hb).1 (by simp),(hr.γlt i b hb).2⟩
 inj i j b hi hj:=by
  rw [List.getElem?_append_left (hr.γlt i b hi).1,List.getElem?_append_left (hr.γlt j b hj).1]
  exact hr.inj i j b hi hj
 box i b bx hb hx:=hr.box i b bx hb (by rwa [List.getElem?_append_left (hr.γlt i b hb).1] at hx)
 imm:=hr.imm
 immγ b o v i hv hm hg:=by rw [List.getElem?_append_left (hr.γlt i b hg).1];exact hr.immγ b o v i hv hm hg
 immK:=hr.immK
 ow:=hr.ow
 glob:=hr.glob
def msk (U:List (qw×Option Nat)):List Nat:=U.filterMap (·.1.o.dst)
theorem qcC {U:List (qw×Option Nat)} {k:Nat}:k ∈ msk U↔∃x ∈ U,x.1.o.dst = some k:=by simp [msk,List.mem_filterMap]
def qpq (t:List qa) (o:AOp) (cs:List qa):Prop:=
 (∃z,o = .new z∧cs = z.map qa.dim)∨∃k y,o = .box k y∧cs = (ev t y).cells.map qa.dim∧cs.all qa.storable = true
structure Lag (G:qe) (n:Nat) (pend:List (Nat×Chk)) (s:St) (x:qw×Option Nat):Prop where
 quiet:x.1.o.op.effs = false
 does:(wanted s.t x.1.o.guard = some false∧x.2 = none∧∀k y,x.1.o.dst = some k→s.t[k]? = some y→y = .tup [])∨
  (wanted s.t x.1.o.guard = some true∧∃v,(∀k y,x.1.o.dst = some k→s.t[k]? = some y→y = v)∧
   ((x.2 = none∧pureV s.t x.1.o.op = some v)∨
    (x.2 = none∧∃k q,x.1.o.op = .ld k q∧(x.1.ix,Chk.ld (ev s.t q) k v) ∈ pend∧qb8 s.h (ev s.t q) k = some v)∨
    (x.2 = none∧∃sh z ok m key,x.1.o.op = .lk sh z ok m key∧(x.1.ix,Chk.lk sh z ok (ev s.t m) (ev s.t key) v) ∈ pend∧qhO s.h sh z ok (ev s.t m) (ev s.t key) = some v)∨
    (∃id cs,x.2 = some id∧v = .ptr id 0∧qpq s.t x.1.o.op cs∧(x.1.ix,Chk.box id cs) ∈ pend∧s.h[id]? = some (.cells cs))))
 young:∀id,x.2 = some id→n ≤ id∧id < s.h.length∧G.γ id = none
theorem Lag.keep {pend pend':List (Nat×Chk)} {s s':St} {x:qw×Option Nat} (hx:Lag G n pend s x) (h1:qbA s.t s'.t x.1.o.looks) (h2:∀k,x.1.o.dst = some k→s'.t[k]? = s.t[k]?)
  (h3:∀c,(x.1.ix,c) ∈ pend→c.Holds s.h→(x.1.ix,c) ∈ pend'∧c.Holds s'.h) (h4:∀id,x.2 = some id→id < s.h.length→G.γ id = none→id < s'.h.length∧G'.γ id = none):Lag G' n pend' s' x:=by
 obtain ⟨hg,hl⟩:=qU.want_looks h1
 refine ⟨hx.quiet,?_,fun id hid=>?_⟩
 ·rcases hx.does with ⟨d1,d2,d3⟩ | ⟨d1,v,d2,d3⟩
  ·exact .inl ⟨by rw [←hg];exact d1,d2,fun k y hk hy=>d3 k y hk (by rw [←h2 k hk];exact hy)⟩
  ·refine .inr ⟨by rw [←hg];exact d1,v,fun k y hk hy=>d2 k y hk (by rw [←h2 k hk];exact hy),?_⟩
   rcases d3 with ⟨e1,e2⟩ | ⟨e0,k,q,e1,e2,e3⟩ | ⟨e0,sh,z,ok,m,key,e1,e2,e3⟩ | ⟨id,cs,e1,e2,e3,e4,e5⟩
   ·exact .inl ⟨e1,by rw [←hl.pureV];exact e2⟩
   ·have hq:ev s.t q = ev s'.t q:=by rw [e1] at hl;exact qbA.ev hl
    obtain ⟨g1,g2⟩:=h3 _ e2 e3
    rw [hq] at g1 g2
    exact .inr (.inl ⟨e0,k,q,e1,g1,g2⟩)
   ·have hm:ev s.t m = ev s'.t m:=by rw [e1] at hl;exact qbA.ev hl.left
    have hk:ev s.t key = ev s'.t key:=by rw [e1] at hl;exact qbA.ev hl.right
    obtain ⟨g1,g2⟩:=h3 _ e2 e3
    rw [hm,hk] at g1 g2
    exact .inr (.inr (.inl ⟨e0,sh,z,ok,m,key,e1,g1,g2⟩))
   ·obtain ⟨g1,g2⟩:=h3 _ e4 e5
    refine .inr (.inr (.inr ⟨id,cs,e1,e2,?_,g1,g2⟩))
    rcases e3 with e3 | ⟨k,y,f1,f2,f3⟩
    ·exact .inl e3
    ·have hq:ev s.t y = ev s'.t y:=by rw [f1] at hl;exact qbA.ev hl
     exact .inr ⟨k,y,f1,by rw [←hq];exact f2,f3⟩
 ·obtain ⟨g1,g2,g3⟩:=hx.young id hid
  exact ⟨g1,h4 id hid g2 g3⟩
def quH (x y:qw):Prop:=(∀d,y.o.dst = some d→d ∈ x.o.looks→x.cl.testBit y.ix = true)∧(∀d,y.o.dst = some d→x.o.dst ≠ some d)
theorem qiA {x y:qw} (h:qcj x y = true) (hx:x.o.op.effs = false) (hy:y.o.op.effs = false):quH x y∧quH y x∧x.ix ≠ y.ix:=by
 simp only [qcj,Bool.and_eq_true,bne_iff_ne,ne_eq,Bool.or_eq_true,hx,hy,Bool.not_false,Bool.true_and,Bool.false_and,Bool.false_eq_true,false_or] at h
 obtain ⟨⟨h1,h2⟩,h3⟩:=h
 refine ⟨⟨fun d hd hl=>?_,fun d hd he=>?_⟩,⟨fun d hd hl=>?_,fun d hd he=>?_⟩,h1⟩
 ·rw [hd] at h3;simp at h3;exact absurd hl h3.1
 ·rw [hd] at h3;simp at h3;exact absurd he h3.2
 ·rw [hd] at h2
  rcases h2 with h2 | h2
  ·exact h2
  ·simp at h2;exact absurd hl h2
 ·rw [he] at h3;simp at h3;exact absurd hd h3.2
theorem qfP {x y:qw} (h:qcj x y = true) (hn:y.cl.testBit x.ix = false):(∀d,x.o.dst = some d→d ∉ y.o.looks)∧(∀d,y.o.dst = some d→d ∉ x.o.looks∧x.o.dst ≠ some d):=by
 simp only [qcj,Bool.and_eq_true,bne_iff_ne,ne_eq,Bool.or_eq_true,hn,Bool.false_eq_true,false_or,and_false,Bool.not_eq_true'] at h
 obtain ⟨⟨h1,h2,h2'⟩,h3⟩:=h
 refine ⟨fun d hd=>?_,fun d hd=>?_⟩
 ·rw [hd] at h2';simpa using h2'
 ·rw [hd] at h3;simpa using h3
theorem qhA {U U':List (qw×Option Nat)} {x:qw×Option Nat} {v:qa} (hU:∀y,y ∈ U'↔y ∈ U∧y.1.ix ≠ x.1.ix) (hx:x ∈ U) (huniq:∀y ∈ U,y.1.ix = x.1.ix→y = x)
  (hfree:∀y ∈ U,y.1.ix ≠ x.1.ix→quH y.1 x.1) (hv:∀k y,x.1.o.dst = some k→t[k]? = some y→y = v):AE.put x.1.o.dst v (qbf (msk U) t) = qbf (msk U') t:=by
 have hother:∀k,x.1.o.dst ≠ some k→((msk U).contains k = (msk U').contains k):=by
  intro k hk
  rw [Bool.eq_iff_iff]
  simp only [List.contains_iff_mem,qcC]
  constructor
  ·rintro ⟨y,hy,hd⟩
   refine ⟨y,(hU y).2 ⟨hy,fun e=>?_⟩,hd⟩
   rw [huniq y hy e] at hd
   exact hk hd
  ·rintro ⟨y,hy,hd⟩
   exact ⟨y,((hU y).1 hy).1,hd⟩
 apply List.ext_getElem?
 intro k
 by_cases hd:x.1.o.dst = some k
 ·rw [hd]
  simp only [AE.put]
  rw [List.getElem?_set,if_pos rfl,qa5,qbk]
  have hc:(msk U').contains k = false:=by
   rw [Bool.eq_false_iff]
   intro hc
   simp only [List.contains_iff_mem,qcC] at hc
   obtain ⟨y,hy,hyd⟩:=hc
   obtain ⟨h1,h2⟩:=(hU y).1 hy
   exact (hfree y h1 h2).2 k hd hyd
  rw [hc]
  by_cases hl:k < t.length
  ·rw [if_pos hl,List.getElem?_eq_getElem hl]
   simp only [Option.map_some,Bool.false_eq_true,if_false]
   rw [hv k _ hd (List.getElem?_eq_getElem hl)]
  ·rw [if_neg hl,List.getElem?_eq_none (Nat.le_of_not_lt hl)]
   rfl
 ·rw [put_get_ne hd,qbk,qbk,hother k hd]
theorem qtY {U:List (qw×Option Nat)} {x:qw×Option Nat} {v:qa} {i:Nat} {y:qa} (hy:(qbf (msk (x :: U)) (AE.put x.1.o.dst v t))[i]? = some y):(qbf (msk U) t)[i]? = some y∨y = .undef:=by
 rw [qbk] at hy ⊢
 by_cases hc:(msk (x :: U)).contains i = true
 ·rw [Option.map_eq_some_iff] at hy
  obtain ⟨z,_,hz⟩:=hy
  rw [if_pos hc] at hz
  exact .inr hz.symm
 ·have hd:x.1.o.dst ≠ some i:=fun e=>hc (by simp only [List.contains_iff_mem,qcC];exact ⟨x,List.mem_cons_self ..,e⟩)
  have hc':¬(msk U).contains i = true:=fun e=>hc (by
   simp only [List.contains_iff_mem,qcC] at e ⊢
   obtain ⟨z,h1,h2⟩:=e
   exact ⟨z,List.mem_cons_of_mem _ h1,h2⟩)
  rw [put_get_ne hd] at hy
  simp only [hc,hc',Bool.false_eq_true,if_false] at hy ⊢
  exact .inl hy
theorem qqV (hc:Cfg P gl G h t a w) {o:Oper} {ao:AOp} (hcomp:qbe P gl o = some ao) {cs:List qa} (hnew:qpq t ao cs) {id:Nat} (hid:h[id]? = some (.cells cs)) (hγ:G.γ id = none) (hn:n ≤ id) :
  ∃u w',(execOp a.eval o).run P w = .ok (.value u) w'∧Ext n G w (G.withBox id w.heap.size) w'∧Cfg P gl (G.withBox id w.heap.size) h (AE.put o.dst (.ptr id 0) t) (a.put o.dst u) w':=by
 have key:∀{cs0:List qa} {c:Array Value} {e:TypeId},G.VL cs0 c.toList→cs = cs0.map qa.dim→(execOp a.eval o).run P w = .ok (.value (.pointer (some ⟨w.heap.size,0,none⟩))) (w.alloc (.cells c e))→
   ∃u w',(execOp a.eval o).run P w = .ok (.value u) w'∧Ext n G w (G.withBox id w.heap.size) w'∧Cfg P gl (G.withBox id w.heap.size) h (AE.put o.dst (.ptr id 0) t) (a.put o.dst u) w':=by
  rintro cs0 c e hcs rfl h1
  have hext:Ext n G w (G.withBox id w.heap.size) (w.alloc (.cells c e)):=Ext.newBox hγ hn _
  have hrel:=hc.rel.newBox (o:=.cells c e) (bx:=.cells (cs0.map qa.dim)) (h':=h) hγ (Nat.le_refl _) (List.getElem?_eq_some_iff.1 hid).1 (fun _ _ _ _=>rfl) hid
   ⟨c,e,qD w _,qdD (hext.VL hcs).dims,fun o xs k v ho _=>(qhu ho).elim⟩
  obtain ⟨m,hm⟩:=qL t
  have htr:qW (G.withBox id w.heap.size) (w.alloc (.cells c e)) t a.tmps:=
   hc.tr.keep hm hext.ik (fun i b _=>hext.gk i b) (fun _ _ h=>h) (fun b i hb=>qG w _ (hc.rel.ow b _ hb).1) (fun _ _ _ _ h=>h)
  refine ⟨_,_,h1,hext,(Cfg.mk hrel htr).put o.dst ?_ rfl⟩
  simp only [qe.V,qn,qe.withBox,if_true]
  exact ⟨_,rfl,rfl⟩
 rcases hnew with ⟨z,rfl,hz⟩ | ⟨k,y,rfl,hy,hs⟩
 ·obtain ⟨e,z',ho,hzz,rfl⟩:=(qa8 hcomp).2.2.2.2.2.1 z rfl
  obtain ⟨u,hu,hr⟩:=qb7 hzz w
  refine key (hr _ _) hz (c:=u.cells) (e:=e) ?_
  simp only [execOp,ho]
  refine qaA ?_
  simp [Instr.alloc,hu,newVar,newRow]
 ·obtain ⟨e,x,ho,hx⟩:=(qa8 hcomp).2.2.2.2.2.2 k y rfl
  have hv:=qv hc.rel hc.tr hx
  have hs':(ev t y).cells.all qa.storable = true:=by
   rw [hy,List.all_map] at hs
   rw [List.all_eq_true] at hs ⊢
   intro z hz
   have:=hs z hz
   cases z <;> first | exact this | rfl
  refine key (qaN hv hs').1 hy (e:=e) ?_
  simp only [execOp,ho]
  refine qaA ?_
  simp [Instr.box,newVar,newRow]
theorem qk5 {base:Nat} {call:AE.Call} {p:qby} {dst:Option Nat} {o:AOp} {s:St} {v:qa} (h:pureV s.t o = some v):qq base call p dst o s = some (.nor,{ s with t:=AE.put dst v s.t}):=by
 cases o <;> first
  | (simp only [qq,h,Option.map_some];done)
  | (simp [pureV] at h;done)
theorem qro {o:AOp} {s:St} {v:qa} (h:pureV s.t o = some v):qcp s o = none:=by
 cases o <;> first
  | rfl
  | (simp [pureV] at h;done)
theorem qhl {cl:List Nat} {j:Nat}:∀{es:List Nat} {m:Nat},(es.foldl (fun m e=>m ||| 1 <<< e ||| cl.getD e 0) m).testBit j = true→m.testBit j = true∨j ∈ es∨∃e ∈ es,(cl.getD e 0).testBit j = true
 | [],m,h=>.inl h
 | e :: es,m,h=>by
  simp only [List.foldl_cons] at h
  rcases qhl h with h | h | ⟨e',h1,h2⟩
  ·simp only [Nat.testBit_or,Bool.or_eq_true] at h
   rcases h with (h | h) | h
   ·exact .inl h
   ·refine .inr (.inl ?_)
    rw [Nat.one_shiftLeft,Nat.testBit_two_pow] at h
    simp at h
    simp [h]
   ·exact .inr (.inr ⟨e,by simp,h⟩)
  ·exact .inr (.inl (List.mem_cons_of_mem _ h))
  ·exact .inr (.inr ⟨e',List.mem_cons_of_mem _ h1,h2⟩)
end
structure qfA (P:Program) (gl:Nat→Option (List qa)) (ops:Array Oper) (cl:List Nat) (xx:Nat×Nat) (all:List qw):Prop where
 comp:∀d ∈ all,∃o,ops[d.ix]? = some o∧qaO P gl ops o = some d.o∧d.cl = cl.getD d.ix 0∧d.cl = qnq cl (qbQ o)
 cover:∀i,i < ops.size→∃d ∈ all,d.ix = i
 order:qd3 xx (ops.toList.map qbQ) [] all = true
 selfs:∀d ∈ all,qfe d = true
structure Inv (P:Program) (gl:Nat→Option (List qa)) (ops:Array Oper) (xx:Nat×Nat) (all:List qw) (n:Nat) (listed:Array Bool) (a:Act) (G:qe) (w:World)
  (pre:List qw) (alts:List (List qw)) (U:List (qw×Option Nat)) (pend:List (Nat×Chk)) (s:St):Prop where
 cfg:Cfg P gl G s.h (qbf (msk U) s.t) a w
 lag:∀x ∈ U,Lag G n pend s x
 free:∀x ∈ U,∀y ∈ U,y.1.ix ≠ x.1.ix→quH y.1 x.1
 uniq:∀x ∈ U,∀y ∈ U,y.1.ix = x.1.ix→y = x
 ids:∀x ∈ U,∀y ∈ U,∀id,x.2 = some id→y.2 = some id→y = x
 inPre:∀x ∈ U,x.1 ∈ pre
 ord:∀ds ∈ alts,qd3 xx (ops.toList.map qbQ) pre ds = true
 mem:∀ds ∈ alts,∀d,d ∈ all↔(d ∈ pre∨d ∈ ds)
 ne:∃ds,ds ∈ alts
 l1:∀d ∈ pre,listed.getD d.ix false = true∨∃x ∈ U,x.1 = d
 l2:∀x ∈ U,listed.getD x.1.ix true = false
 l3:∀ds ∈ alts,∀d ∈ ds,listed.getD d.ix true = false
 size:listed.size = ops.size
 closed:∀d ∈ all,listed.getD d.ix false = true→∀j,d.cl.testBit j = true→listed.getD j false = true
 hlen:n ≤ s.h.length
section
variable {P:Program} {gl:Nat→Option (List qa)} {ops:Array Oper} {xx:Nat×Nat} {all:List qw} {alts:List (List qw)} {cl:List Nat} {n:Nat} {listed:Array Bool} {a:Act} {G G':qe} {w w':World}
 {pre ds:List qw} {U:List (qw×Option Nat)} {pend:List (Nat×Chk)} {s:St}
def qiB (xx:Nat×Nat) (a b:qw):Bool:=qcj a b || qjT xx a b
theorem qd4 {a b:qw} (h:qiB xx a b = true) (ha:a.o.op.effs = false):qcj a b = true:=by
 simp only [qiB,qjT,ha,Bool.false_and,Bool.and_false,Bool.or_false] at h
 exact h
theorem qcF {a b:qw} (h:qiB xx a b = true):a.ix ≠ b.ix:=by
 intro e
 simp [qiB,qcj,qjT,e] at h
theorem qac {ess:List (List Nat)} {d:qw} (h:qd3 xx ess pre (d :: ds) = true):(∀e ∈ ess.getD d.ix [],∃x ∈ pre,x.ix = e)∧(∀x ∈ pre,qiB xx x d = true)∧qfe d = true∧qd3 xx ess (d :: pre) ds = true:=by
 simp only [qd3,Bool.and_eq_true,List.all_eq_true,List.any_eq_true,beq_iff_eq] at h
 exact ⟨h.1.1.1,h.1.1.2,h.1.2,h.2⟩
theorem qfO {ess:List (List Nat)}:∀{ds pre:List qw},qd3 xx ess pre ds = true→∀d ∈ ds,qfe d = true
 | [],_,_,d,hd=>by cases hd
 | x :: ds,pre,h,d,hd=>by
  obtain ⟨_,_,h3,h4⟩:=qac h
  rcases List.mem_cons.1 hd with rfl | hd
  ·exact h3
  ·exact qfO h4 d hd
theorem qaI {ess:List (List Nat)}:∀{ds pre:List qw} {x:qw},qd3 xx ess pre ds = true→x ∈ pre→∀d ∈ ds,qiB xx x d = true
 | [],_,_,_,_,d,hd=>by cases hd
 | y :: ds,pre,x,h,hx,d,hd=>by
  obtain ⟨_,h2,_,h4⟩:=qac h
  rcases List.mem_cons.1 hd with rfl | hd
  ·exact h2 x hx
  ·exact qaI h4 (List.mem_cons_of_mem _ hx) d hd
theorem Inv.push {d:qw} {rests:List (List qw)} (hi:Inv P gl ops xx all n listed a G w pre (rests.map (d :: ·)) U pend s) (hq:d.o.op.effs = false) {s1:St} {v:qa} {g:List qg} {pend':List (Nat×Chk)} {oid:Option Nat}
  (ht:s1.t = AE.put d.o.dst v s.t) (hh:s1.h = s.h ++ g) (hp:∀c,c ∈ pend→c ∈ pend') (hoid:∀id,oid = some id→s.h.length ≤ id) (hlag:Lag G n pend' s1 (d,oid)) :
  Inv P gl ops xx all n listed a G w (d :: pre) rests ((d,oid) :: U) pend' s1:=by
 obtain ⟨_,hds⟩:=hi.ne
 obtain ⟨rest,hrest,rfl⟩:=List.mem_map.1 hds
 have put:∀{r},r ∈ rests→(d :: r) ∈ rests.map (d :: ·):=fun hr=>List.mem_map_of_mem hr
 obtain ⟨ho1,ho2x,ho3,_⟩:=qac (hi.ord _ hds)
 have ho2:∀x ∈ U,qcj x.1 d = true:=fun x hx=>qd4 (ho2x _ (hi.inPre x hx)) (hi.lag x hx).quiet
 have hfr:∀x ∈ U,quH x.1 d∧quH d x.1∧x.1.ix ≠ d.ix:=fun x hx=>qiA (ho2 x hx) (hi.lag x hx).quiet hq
 have hfd:∀x ∈ U,∀k,d.o.dst = some k→k ∉ x.1.o.looks:=fun x hx k hk hl=>by
  have hpk:=ho2 x hx
  simp only [qcj,hk,hq,Bool.and_eq_true,Bool.false_and,Bool.false_or] at hpk
  have:=hpk.2.1
  simp at this
  exact this hl
 refine ⟨⟨by rw [hh];exact hi.cfg.rel.grow g,?_⟩,?_,?_,?_,?_,?_,fun ds hd=>(qac (hi.ord _ (put hd))).2.2.2,?_,⟨rest,hrest⟩,?_,?_,?_,hi.size,hi.closed,by rw [hh];simp;have:=hi.hlen;omega⟩
 ·refine hi.cfg.tr.poison (by rw [qa5,qa5,ht,qas]) fun i y hy=>?_
  rw [ht] at hy
  exact qtY (x:=(d,oid)) hy
 ·intro x hx
  rcases List.mem_cons.1 hx with rfl | hx
  ·exact hlag
  ·refine (hi.lag x hx).keep (fun i hl=>?_) (fun k hk=>?_) (fun c hc hho=>⟨hp _ hc,?_⟩) (fun id _ hlt hγ=>⟨by rw [hh];simp;omega,hγ⟩)
   ·rw [ht,qT (put_get_ne fun e=>hfd x hx i e hl)]
   ·rw [ht,put_get_ne fun e=>(hfr x hx).1.2 k e hk]
   ·rw [hh];exact hho.append
 ·intro x hx y hy hne
  rcases List.mem_cons.1 hx with rfl | hx <;> rcases List.mem_cons.1 hy with rfl | hy
  ·exact absurd rfl hne
  ·exact (hfr y hy).1
  ·exact (hfr x hx).2.1
  ·exact hi.free x hx y hy hne
 ·intro x hx y hy he
  rcases List.mem_cons.1 hx with rfl | hx <;> rcases List.mem_cons.1 hy with rfl | hy
  ·rfl
  ·exact absurd he (hfr y hy).2.2
  ·exact absurd he.symm (hfr x hx).2.2
  ·exact hi.uniq x hx y hy he
 ·intro x hx y hy id h1 h2
  rcases List.mem_cons.1 hx with rfl | hx <;> rcases List.mem_cons.1 hy with rfl | hy
  ·rfl
  ·have:=(hi.lag y hy).young id h2
   have:=hoid id h1
   omega
  ·have:=(hi.lag x hx).young id h1
   have:=hoid id h2
   omega
  ·exact hi.ids x hx y hy id h1 h2
 ·intro x hx
  rcases List.mem_cons.1 hx with rfl | hx
  ·exact List.mem_cons_self ..
  ·exact List.mem_cons_of_mem _ (hi.inPre x hx)
 ·intro ds hd e
  rw [hi.mem _ (put hd) e,List.mem_cons,List.mem_cons]
  constructor
  ·rintro (h1 | h1 | h1)
   ·exact .inl (.inr h1)
   ·exact .inl (.inl h1)
   ·exact .inr h1
  ·rintro ((h1 | h1) | h1)
   ·exact .inr (.inl h1)
   ·exact .inl h1
   ·exact .inr (.inr h1)
 ·intro e he
  rcases List.mem_cons.1 he with rfl | he
  ·exact .inr ⟨(e,oid),List.mem_cons_self ..,rfl⟩
  ·rcases hi.l1 e he with h1 | ⟨x,h1,h2⟩
   ·exact .inl h1
   ·exact .inr ⟨x,List.mem_cons_of_mem _ h1,h2⟩
 ·intro x hx
  rcases List.mem_cons.1 hx with rfl | hx
  ·exact hi.l3 _ hds d (List.mem_cons_self ..)
  ·exact hi.l2 x hx
 ·exact fun ds hd e he=>hi.l3 _ (put hd) e (List.mem_cons_of_mem _ he)
theorem qhH {d:qw} (hs:qfe d = true) (hq:d.o.op.effs = false):∀k,d.o.dst = some k→k ∉ d.o.looks:=by
 intro k hk
 simp only [qfe,hq,hk,Bool.false_or,Bool.not_eq_true',List.contains_eq_mem,decide_eq_false_iff_not] at hs
 exact hs
theorem qjn {d:qw} (hs:qfe d = true) (hq:d.o.op.effs = false) (v:qa) (t:List qa):qbA t (AE.put d.o.dst v t) d.o.looks:=fun i hi=>by
 rw [qT (put_get_ne fun e=>qhH hs hq i e hi)]
theorem qjo {dst:Option Nat} {v:qa} {t:List qa} {k:Nat} {y:qa} (hk:dst = some k) (hy:(AE.put dst v t)[k]? = some y):y = v:=by
 subst hk
 simp only [AE.put,List.getElem?_set] at hy
 split at hy
 ·split at hy
  ·cases hy;rfl
  ·cases hy
 ·rename_i hh;exact absurd trivial hh
theorem qf7 {base:Nat} {call:AE.Call} {dsts:List Nat} {x:Ex} {s':St} {tails:List (List qw)}:∀(c pre:List qw) (U:List (qw×Option Nat)) (pend:List (Nat×Chk)) (s:St),Inv P gl ops xx all n listed a G w pre (tails.map (c ++ ·)) U pend s→base ≤ s.h.length→
  (∀t ∈ tails,qp base call dsts (c ++ t) pend s = some (x,s'))→∃pre' c' U' pend' s1,Inv P gl ops xx all n listed a G w pre' (tails.map (c' ++ ·)) U' pend' s1∧base ≤ s1.h.length∧(∀t ∈ tails,qp base call dsts (c' ++ t) pend' s1 = some (x,s'))∧
   (∀d rest,c' = d :: rest→d.o.op.effs = true)∧U'.length + c'.length = U.length + c.length∧(∀d ∈ pre,d ∈ pre')
 | [],pre,U,pend,s,hi,hb,hr=>⟨pre,[],U,pend,s,hi,hb,hr,fun _ _ h=>(by cases h),rfl,fun _ h=>h⟩
 | d :: rest,pre,U,pend,s,hi,hb,hr=>by
  cases hq:d.o.op.effs with
  | true=>exact ⟨pre,d :: rest,U,pend,s,hi,hb,hr,fun _ _ h=>by cases h;exact hq,rfl,fun _ h=>h⟩
  | false=>
   have halts:tails.map ((d :: rest) ++ ·) = (tails.map (rest ++ ·)).map (d :: ·):=by simp
   obtain ⟨_,hds⟩:=hi.ne
   obtain ⟨t0,ht0,rfl⟩:=List.mem_map.1 hds
   obtain ⟨_,_,hself,_⟩:=qac (hi.ord _ hds)
   have hra:=hr
   replace hr:=hr t0 ht0
   rw [halts] at hi
   simp only [List.cons_append,qp,hq,Bool.false_eq_true,if_false] at hr hra
   have fin:∀{s1:St} {pend':List (Nat×Chk)} {oid:Option Nat},Inv P gl ops xx all n listed a G w (d :: pre) (tails.map (rest ++ ·)) ((d,oid) :: U) pend' s1→base ≤ s1.h.length→(∀t ∈ tails,qp base call dsts (rest ++ t) pend' s1 = some (x,s'))→
     ∃pre' c' U' pend' s1,Inv P gl ops xx all n listed a G w pre' (tails.map (c' ++ ·)) U' pend' s1∧base ≤ s1.h.length∧(∀t ∈ tails,qp base call dsts (c' ++ t) pend' s1 = some (x,s'))∧
      (∀d rest,c' = d :: rest→d.o.op.effs = true)∧U'.length + c'.length = U.length + (d :: rest).length∧(∀d ∈ pre,d ∈ pre'):=by
    intro s1 pend' oid hi' hb' hr'
    obtain ⟨pre'',ds'',U'',pend'',s2,h1,h2,h3,h4,h5,h6⟩:=qf7 rest _ _ _ _ hi' hb' hr'
    exact ⟨pre'',ds'',U'',pend'',s2,h1,h2,h3,h4,by rw [h5];simp;omega,fun e he=>h6 e (List.mem_cons_of_mem _ he)⟩
   split at hr
   ·rename_i hw
    split at hr
    ·rename_i s1 hop
     simp only [hw,hop] at hra
     obtain ⟨_,v,hv,hve,hcase⟩:=qcg hq hop
     have hsame:qbA s.t s1.t d.o.looks:=by rw [hv];exact qjn hself hq v s.t
     obtain ⟨hg,hl⟩:=qU.want_looks hsame
     have hdst:∀k y,d.o.dst = some k→s1.t[k]? = some y→y = v:=fun k y hk hy=>by rw [hv] at hy;exact qjo hk hy
     rcases hcase with ⟨hh,hpure | ⟨k,q,hop',hld⟩ | ⟨sh,z,ok,m,key,hop',hld⟩⟩ | ⟨cs,hh,hvv,hchk⟩
     ·simp only [qro hpure] at hra
      refine fin (hi.push (oid:=none) (g:=[]) hq hv (by simp [hh]) (fun _ h=>h) (fun _ h=>by cases h) ⟨hq,.inr ⟨by rw [←hg];exact hw,v,hdst,.inl ⟨rfl,by rw [←hl.pureV];exact hpure⟩⟩,fun _ h=>by cases h⟩) (by rw [hh];exact hb) hra
     ·have hchk:qcp s d.o.op = some (.ld (ev s.t q) k v):=by simp only [hop',qcp,hld,Option.map_some]
      simp only [hchk] at hra
      have hq':ev s.t q = ev s1.t q:=by rw [hop'] at hl;exact qbA.ev hl
      refine fin (hi.push (oid:=none) (g:=[]) hq hv (by simp [hh]) (fun _ h=>List.mem_cons_of_mem _ h) (fun _ h=>by cases h)
       ⟨hq,.inr ⟨by rw [←hg];exact hw,v,hdst,.inr (.inl ⟨rfl,k,q,hop',by rw [←hq'];exact List.mem_cons_self ..,by rw [←hq',hh];exact hld⟩)⟩,fun _ h=>by cases h⟩) (by rw [hh];exact hb) hra
     ·have hchk:qcp s d.o.op = some (.lk sh z ok (ev s.t m) (ev s.t key) v):=by simp only [hop',qcp,hld,Option.map_some]
      simp only [hchk] at hra
      have hm':ev s.t m = ev s1.t m:=by rw [hop'] at hl;exact qbA.ev hl.left
      have hk':ev s.t key = ev s1.t key:=by rw [hop'] at hl;exact qbA.ev hl.right
      refine fin (hi.push (oid:=none) (g:=[]) hq hv (by simp [hh]) (fun _ h=>List.mem_cons_of_mem _ h) (fun _ h=>by cases h)
       ⟨hq,.inr ⟨by rw [←hg];exact hw,v,hdst,.inr (.inr (.inl ⟨rfl,sh,z,ok,m,key,hop',by rw [←hm',←hk'];exact List.mem_cons_self ..,by rw [←hm',←hk',hh];exact hld⟩))⟩,fun _ h=>by cases h⟩) (by rw [hh];exact hb) hra
     ·simp only [hchk] at hra
      have hnew:qpq s1.t d.o.op cs:=by
       cases hopc:d.o.op <;> rw [hopc] at hchk <;> simp only [qcp,Option.some.injEq,Chk.box.injEq,true_and,Option.map_eq_some_iff,reduceCtorEq,and_false,exists_false] at hchk
       case new z=>exact .inl ⟨z,rfl,hchk.symm⟩
       case box k y=>
        rw [hopc] at hl hop
        have hq':ev s.t y = ev s1.t y:=qbA.ev hl
        simp only [qq] at hop
        split at hop
        ·rename_i hcond
         exact .inr ⟨k,y,rfl,by rw [←hq'];exact hchk.symm,by rw [←hchk];exact hcond.2⟩
        ·cases hop
      have hget:s1.h[s.h.length]? = some (.cells cs):=by rw [hh];simp
      refine fin (hi.push (oid:=some s.h.length) (g:=[.cells cs]) hq hv hh (fun _ h=>List.mem_cons_of_mem _ h) (fun _ h=>by cases h;exact Nat.le_refl _)
       ⟨hq,.inr ⟨by rw [←hg];exact hw,v,hdst,.inr (.inr (.inr ⟨s.h.length,cs,rfl,hvv,hnew,List.mem_cons_self ..,hget⟩))⟩,fun id h=>by
        cases h
        refine ⟨hi.hlen,by rw [hh];simp,?_⟩
        cases hg:G.γ s.h.length with
        | none=>rfl
        | some b=>have:=(hi.cfg.rel.γlt _ b hg).1;omega⟩) (by rw [hh];simp;omega) hra
    ·cases hr
    ·cases hr
   ·rename_i hw
    simp only [hw] at hra
    have hsame:qbA s.t (AE.put d.o.dst (.tup []) s.t) d.o.looks:=qjn hself hq _ s.t
    obtain ⟨hg,hl⟩:=qU.want_looks hsame
    refine fin (hi.push (s1:={ s with t:=AE.put d.o.dst (.tup []) s.t}) (oid:=none) (g:=[]) hq rfl (by simp) (fun _ h=>h) (fun _ h=>by cases h)
     ⟨hq,.inl ⟨by rw [←hg];exact hw,rfl,fun k y hk hy=>qjo hk hy⟩,fun _ h=>by cases h⟩) hb hra
   ·cases hr
end
end Go.AE
