/- A part of the proof: the abstract executor and what goes through it (part 1). No condition. -/
import Derived.Test.YtkmlapholimbcaaGreatDoorMx0
import Derived.DeepKeys3
import Derived.MapKept
import Derived.Laws.MakeOwn
import Derived.RangeFuncRecord
import Derived.LoopNIn
set_option maxRecDepth 100000
namespace Go.AE
open Go.MapKept (run_findKey run_getObj_map run_setObj_map)
section
variable {P:Program} {γ:Nat→Option Nat} {imm:Nat→Nat→Option Value}
def qhP:qa→Lit
 | .bool b=>.bool b
 | .int k n=>.int k n
 | .str s=>.string s
 | _=>.nil
def qgV (cs:List qa) (p:Nat×SK):Lit:=qhP ((cs[p.1]?).getD .undef)
theorem qjL {k:SK} {cs:List qa} {vs:List Value} {o:Nat} (h:qh γ imm cs vs) (hf:qeH k cs[o]? = true) :
  (k = .b∧∃b,cs[o]? = some (.bool b)∧vs[o]? = some (.bool b))∨(∃q n,k = .i q∧cs[o]? = some (.int q n)∧vs[o]? = some (.int q n)∧(Lit.int q n).wf = true)∨
   (k = .s∧∃(s:List UInt8) (b:ByteArray),cs[o]? = some (.str s)∧vs[o]? = some (.string b)∧b.data.toList = s∧s.length ≤ 9223372036854775807):=by
 unfold qeH at hf
 split at hf
 ·rename_i b hc
  obtain ⟨v,hv,hr⟩:=h.get hc
  simp only [qt] at hr
  subst hr
  exact .inl ⟨rfl,b,hc,hv⟩
 ·rename_i q j n hc
  obtain ⟨v,hv,hr⟩:=h.get hc
  simp only [qt] at hr
  subst hr
  simp only [Bool.and_eq_true,beq_iff_eq,qay,decide_eq_true_eq] at hf
  obtain ⟨rfl,h1,h2⟩:=hf
  exact .inr (.inl ⟨q,n,rfl,hc,hv,by simp [Lit.wf,h1,h2]⟩)
 ·rename_i s hc
  obtain ⟨v,hv,hr⟩:=h.get hc
  simp only [qt] at hr
  obtain ⟨b,rfl,hb⟩:=hr
  exact .inr (.inr ⟨rfl,s,b,hc,hv,hb,by simpa using hf⟩)
 ·cases hf
theorem qhX {vs:List Value} {o:Nat} {v:Value} (h:vs[o]? = some v):(vs.drop o).take 1 = [v]:=by
 obtain ⟨h1,h2⟩:=List.getElem?_eq_some_iff.1 h
 rw [List.drop_eq_getElem_cons h1]
 simp [h2]
theorem qgu:∀(d:Nat) (t:TypeId) (off:Nat) (ls:List (Nat×SK)),qdq P d t off = some ls→∀(cs:List qa) (vs:List Value),qh γ imm cs vs→qeI ls cs = true→off + P.cellsOf t ≤ vs.length→
  P.keyLits d t ((vs.drop off).take (P.cellsOf t)) = some (ls.map (qgV cs))
 | 0,_,_,_,h=>by simp [qdq] at h
 | d + 1,t,off,ls,h=>by
  intro cs vs hv hf hle
  unfold qdq at h
  unfold Program.keyLits
  split at h
  ·rename_i hu
   split at h
   ·rename_i h1
    cases h
    simp only [qeI,List.all_cons,List.all_nil,Bool.and_true] at hf
    rcases qjL hv hf with ⟨_,b,e1,e2⟩ | ⟨q,n,e0,_⟩ | ⟨e0,_⟩
    ·rw [h1,qhX e2]
     simp [hu,qgV,e1,qhP]
    ·cases e0
    ·cases e0
   ·cases h
  ·rename_i q hu
   split at h
   ·rename_i h1
    cases h
    simp only [qeI,List.all_cons,List.all_nil,Bool.and_true] at hf
    rcases qjL hv hf with ⟨e0,_⟩ | ⟨q,n,e0,e1,e2,e3⟩ | ⟨e0,_⟩
    ·cases e0
    ·cases e0
     rw [h1,qhX e2]
     simp [hu,qgV,e1,qhP,e3]
    ·cases e0
   ·cases h
  ·rename_i hu
   split at h
   ·rename_i h1
    cases h
    simp only [qeI,List.all_cons,List.all_nil,Bool.and_true] at hf
    rcases qjL hv hf with ⟨e0,_⟩ | ⟨q,n,e0,_⟩ | ⟨_,s,b,e1,e2,e3,e4⟩
    ·cases e0
    ·cases e0
    ·rw [h1,qhX e2]
     have:b.size ≤ maxLen:=by
      have:b.size = s.length:=by rw [←e3];rfl
      rw [this]
      simp only [maxLen]
      omega
     simp [hu,qgV,e1,qhP,this,e3]
   ·cases h
  ·rename_i fs hu
   split at h
   ·rename_i hall
    simp only [Option.map_eq_some_iff] at h
    obtain ⟨lss,hm,rfl⟩:=h
    have hlen:((vs.drop off).take (P.cellsOf t)).length = P.cellsOf t:=by simp;omega
    have hall' : ∀ f ∈ fs.toList, f.name ≠ "_" ∧ f.offset + P.cellsOf f.type ≤ P.cellsOf t := fun f hf' => by
     rw [Array.all_eq_true_iff_forall_mem] at hall
     have:=hall f (by simpa using hf')
     simpa using this
    have key:∀(L:List Field) (lss:List (List (Nat×SK))),(∀f ∈ L,f.offset + P.cellsOf f.type ≤ P.cellsOf t)→(L.mapM fun f=>qdq P d f.type (off + f.offset)) = some lss→qeI lss.flatten cs = true→
      (L.mapM fun f=>P.keyLits d f.type ((((vs.drop off).take (P.cellsOf t)).drop f.offset).take (P.cellsOf f.type))) = some (lss.map fun ls=>ls.map (qgV cs)):=by
     intro L
     induction L with
     | nil=>intro lss _ h1 _;simp at h1;subst h1;rfl
     | cons f L ih=>
      intro lss hb h1 h2
      simp only [List.mapM_cons,Option.pure_def,Option.bind_eq_bind,Option.bind_eq_some_iff] at h1
      obtain ⟨l0,h3,ls',h4,h5⟩:=h1
      cases h5
      simp only [List.flatten_cons,qeI,List.all_append,Bool.and_eq_true] at h2
      have hbf:=hb f (by simp)
      have h6:=qgu d f.type (off + f.offset) l0 h3 cs vs hv h2.1 (by omega)
      have h7:=ih ls' (fun g hg=>hb g (by simp [hg])) h4 h2.2
      have h8:(((vs.drop off).take (P.cellsOf t)).drop f.offset).take (P.cellsOf f.type) = (vs.drop (off + f.offset)).take (P.cellsOf f.type):=by
       rw [List.drop_take,List.take_take,List.drop_drop,Nat.min_eq_left (by omega)]
      simp only [List.mapM_cons,Option.pure_def,Option.bind_eq_bind,h8,h6,h7,Option.bind_some,List.map_cons]
    have hk:=key fs.toList lss (fun f hf'=>(hall' f hf').2) hm hf
    have hnm : fs.all (fun f => f.name != "_") = true := by
     rw [Array.all_eq_true_iff_forall_mem]
     intro f hf'
     have:=(hall' f (by simpa using hf')).1
     simpa using this
    simp only [hu]
    rw [if_pos ⟨hlen,hnm⟩,hk]
    simp [List.map_flatten]
   ·cases h
  ·cases h
theorem qsf {k:SK} {a b:qa} (ha:qeH k (some a) = true) (hb:qeH k (some b) = true):∃c,qnG a b = some c∧(c = true↔qhP a = qhP b):=by
 cases k
 ·cases a <;> simp only [qeH,Bool.false_eq_true] at ha
  cases b <;> simp only [qeH,Bool.false_eq_true] at hb
  exact ⟨_,rfl,by simp [qhP]⟩
 ·cases a <;> simp only [qeH,Bool.false_eq_true] at ha
  cases b <;> simp only [qeH,Bool.false_eq_true] at hb
  simp only [Bool.and_eq_true,beq_iff_eq] at ha hb
  obtain ⟨rfl,_⟩:=ha
  obtain ⟨rfl,_⟩:=hb
  exact ⟨_,if_pos rfl,by simp [qhP]⟩
 ·cases a <;> simp only [qeH,Bool.false_eq_true] at ha
  cases b <;> simp only [qeH,Bool.false_eq_true] at hb
  exact ⟨_,rfl,by simp [qhP]⟩
theorem qge {x y:List qa}:∀{ls:List (Nat×SK)},qeI ls x = true→qeI ls y = true→(qfe x y ls = true↔ls.map (qgV x) = ls.map (qgV y))
 | [],_,_=>by simp [qfe]
 | p :: ls,hx,hy=>by
  simp only [qeI,List.all_cons,Bool.and_eq_true] at hx hy
  have ih:=qge (ls:=ls) hx.2 hy.2
  obtain ⟨o,k⟩:=p
  obtain ⟨hx1,_⟩:=hx
  obtain ⟨hy1,_⟩:=hy
  simp only at hx1 hy1
  cases hxo:x[o]? with
  | none=>rw [hxo] at hx1;cases k <;> simp [qeH] at hx1
  | some a=>
   cases hyo:y[o]? with
   | none=>rw [hyo] at hy1;cases k <;> simp [qeH] at hy1
   | some b=>
    rw [hxo] at hx1
    rw [hyo] at hy1
    obtain ⟨c,h1,h2⟩:=qsf hx1 hy1
    simp only [qfe,hxo,hyo,h1,List.map_cons,List.cons.injEq,qgV,Option.getD_some,←h2]
    cases c
    ·simp
    ·simpa using ih
theorem qdd {kt:TypeId} {sh:qd6} (hs:qgL P kt = some sh) {x:qa} {v:Value} (hv:qt γ imm x v) (hf:qfC sh x = true) :
  P.keyTypeAt qcg kt = true∧P.tiled qcg kt = true∧qeI sh.ls x.cells = true∧v.formed P kt = true∧P.keyLits qcg kt v.cells.toList = some (sh.ls.map (qgV x.cells))∧
   (sh.agg = true→∃c,v = .agg c)∧(sh.agg = qcy (P.underlying kt))∧(sh.agg = false→x.storable = true):=by
 unfold qgL at hs
 split at hs
 ·rename_i hk
  simp only [Bool.and_eq_true] at hk
  simp only [Option.map_eq_some_iff] at hs
  obtain ⟨ls,hl,rfl⟩:=hs
  have fin:qeI ls x.cells = true→qh γ imm x.cells v.cells.toList→v.cells.toList.length = P.cellsOf kt→P.keyLits qcg kt v.cells.toList = some (ls.map (qgV x.cells)):=fun h1 h2 h3=>by
   have:=qgu qcg kt 0 ls hl x.cells v.cells.toList h2 h1 (by omega)
   rwa [List.drop_zero,←h3,List.take_length] at this
  unfold qfC at hf
  split at hf
  ·rename_i cs
   simp only [Bool.and_eq_true,beq_iff_eq] at hf
   obtain ⟨⟨h1,h2⟩,h3⟩:=hf
   simp only [qt] at hv
   obtain ⟨c,rfl,hc⟩:=hv
   have hlen:c.toList.length = P.cellsOf kt:=by rw [←hc.length];exact h2
   refine ⟨hk.1,hk.2,h3,?_,fin h3 (by simpa [qa.cells,Value.cells] using hc) (by simpa [Value.cells] using hlen),fun _=>⟨c,rfl⟩,rfl,fun h=>by rw [h1] at h;cases h⟩
   unfold qcy at h1
   split at h1
   ·rename_i fs hu
    simp only [Value.formed,hu]
    simpa using hlen
   ·cases h1
  ·rename_i hna
   simp only [Bool.and_eq_true,Bool.not_eq_true'] at hf
   obtain ⟨h1,h2⟩:=hf
   have hsc:∃k,ls = [(0,k)]∧P.cellsOf kt = 1∧(∀fs,P.underlying kt ≠ some (.struct fs))∧∀n e,P.underlying kt ≠ some (.array n e):=by
    unfold qcg qdq at hl
    split at hl
    ·rename_i hu;split at hl
     ·cases hl;exact ⟨_,rfl,‹_›,by simp [hu],by simp [hu]⟩
     ·cases hl
    ·rename_i hu;split at hl
     ·cases hl;exact ⟨_,rfl,‹_›,by simp [hu],by simp [hu]⟩
     ·cases hl
    ·rename_i hu;split at hl
     ·cases hl;exact ⟨_,rfl,‹_›,by simp [hu],by simp [hu]⟩
     ·cases hl
    ·rename_i fs hu
     simp [qcy,hu] at h1
    ·cases hl
   obtain ⟨k,rfl,hc1,hns,hnar⟩:=hsc
   have hst:x.storable = true:=by
    simp only [qeI,List.all_cons,List.all_nil,Bool.and_true] at h2
    unfold qeH at h2
    split at h2 <;> first | (rename_i e;simp at e;subst e;rfl) | cases h2
   have hxc:x.cells = [x]:=qaD hst
   obtain ⟨hr1,hr2⟩:=qbO hv (by rw [hxc];simp [hst])
   refine ⟨hk.1,hk.2,by rw [hxc];exact h2,?_,fin (by rw [hxc];exact h2) hr1 (by rw [←hr1.length,hxc,hc1];rfl),(fun h=>absurd (show qcy (P.underlying kt) = true from h) (by rw [h1];simp)),rfl,fun _=>hst⟩
   cases v <;> simp only [Value.formed] <;> first
    | (cases hu:P.underlying kt with
       | none=>rfl
       | some kd=>cases kd <;> first | rfl | exact absurd hu (hns _) | exact absurd hu (hnar _ _))
    | (exfalso
       cases x <;> simp only [qt] at hv <;> first
        | (cases hv;done)
        | (simp [qa.storable] at hst;done)
        | (obtain ⟨_,hv⟩:=hv;cases hv;done)
        | (obtain ⟨_,hv,_⟩:=hv;cases hv;done)
        | (obtain ⟨_,_,hv⟩:=hv;cases hv;done)
        | (obtain ⟨_,_,hv,_⟩:=hv;cases hv;done)
        | (obtain ⟨_,_,_,hv,_⟩:=hv;cases hv;done))
 ·cases hs
theorem qiw {sh:qd6} {x y:qa} {r:Bool} (h:qyC sh x y = some r):qfC sh x = true∧qfC sh y = true∧r = qfe x.cells y.cells sh.ls:=by
 unfold qyC at h
 split at h
 ·rename_i hh
  simp only [Bool.and_eq_true] at hh
  cases h
  exact ⟨hh.1,hh.2,rfl⟩
 ·cases h
theorem qzz {kt:TypeId} {sh:qd6} (hs:qgL P kt = some sh) {x y:qa} {vx vy:Value} (hx:qt γ imm x vx) (hy:qt γ imm y vy) {r:Bool} (he:qyC sh x y = some r) (w:World) :
  (Op.equal kt vx vy).run P w = .ok r w∧(r = true→vx = vy):=by
 obtain ⟨fx,fy,hr⟩:=qiw he
 obtain ⟨k1,k2,x1,x2,x3,x4,x5,x6⟩:=qdd hs hx fx
 obtain ⟨_,_,y1,y2,y3,y4,_,y6⟩:=qdd hs hy fy
 obtain ⟨r',h1,h2⟩:=run_equalIn_deep (10000 - qcg) qcg kt k1 w _ _ vx vy _ _ x2 y2 x3 y3
 have e0:10000 - qcg + qcg = 10000:=rfl
 rw [e0] at h1
 have hrr:r = r':=by
  rw [Bool.eq_iff_iff,hr,qge x1 y1,h2]
 subst hrr
 refine ⟨h1,fun ht=>?_⟩
 have hl:=h2.1 ht
 have c1:=cells_of_lits qcg kt k2 _ _ _ x3
 have c2:=cells_of_lits qcg kt k2 _ _ _ y3
 have hc:vx.cells.toList = vy.cells.toList:=by rw [c1,c2,hl]
 cases hagg:sh.agg with
 | true=>
  obtain ⟨a,rfl⟩:=x4 hagg
  obtain ⟨b,rfl⟩:=y4 hagg
  simp only [Value.cells] at hc
  rw [Array.toList_inj.1 hc]
 | false=>
  have one:∀{z:qa} {v:Value},qt γ imm z v→z.storable = true→v.cells = #[v]:=fun {z v} hz hst=>by
   have:=(qbO hz (by rw [qaD hst];simp [hst])).1
   rw [qaD hst] at this
   cases v <;> first | rfl | skip
   all_goals
    exfalso
    cases z <;> simp only [qt] at hz <;> first
     | (cases hz;done)
     | (simp [qa.storable] at hst;done)
     | (obtain ⟨_,hz⟩:=hz;cases hz;done)
     | (obtain ⟨_,hz,_⟩:=hz;cases hz;done)
     | (obtain ⟨_,_,hz⟩:=hz;cases hz;done)
     | (obtain ⟨_,_,hz,_⟩:=hz;cases hz;done)
     | (obtain ⟨_,_,_,hz,_⟩:=hz;cases hz;done)
  rw [one hx (x6 hagg),one hy (y6 hagg)] at hc
  simpa using hc
theorem qV.get {G:qd}:∀{es:List (Nat×qa×qa)} {me:List MapEntry} {i:Nat} {x:Nat×qa×qa},qV G es me→es[i]? = some x→∃e,me[i]? = some e∧e.born = x.1∧G.V x.2.1 e.key∧G.V x.2.2 e.val
 | [],_,i,x,_,h=>by simp at h
 | y :: es,me,i,x,hm,h=>by
  simp only [qV] at hm
  obtain ⟨e,rest,rfl,h1,h2,h3,h4⟩:=hm
  cases i with
  | zero=>simp at h;subst h;exact ⟨e,rfl,h1,h2,h3⟩
  | succ i=>simpa using qV.get h4 (by simpa using h)
theorem qV.length {G:qd}:∀{es:List (Nat×qa×qa)} {me:List MapEntry},qV G es me→me.length = es.length
 | [],_,h=>by simp only [qV] at h;subst h;rfl
 | y :: es,me,hm=>by
  simp only [qV] at hm
  obtain ⟨e,rest,rfl,h1,h2,h3,h4⟩:=hm
  simp [qV.length h4]
theorem qV.modify {G:qd} {f:Nat×qa×qa→Nat×qa×qa} {g:MapEntry→MapEntry} (hfg:∀x e,e.born = x.1→G.V x.2.1 e.key→G.V x.2.2 e.val→(g e).born = (f x).1∧G.V (f x).2.1 (g e).key∧G.V (f x).2.2 (g e).val) :
  ∀{es:List (Nat×qa×qa)} {me:List MapEntry} (i:Nat),qV G es me→qV G (es.modify i f) (me.modify i g)
 | [],_,i,h=>by simp only [qV] at h;subst h;simp [qV]
 | y :: es,me,i,hm=>by
  simp only [qV] at hm
  obtain ⟨e,rest,rfl,h1,h2,h3,h4⟩:=hm
  cases i with
  | zero=>
   simp only [List.modify_zero_cons,qV]
   obtain ⟨q1,q2,q3⟩:=hfg y e h1 h2 h3
   exact ⟨_,_,rfl,q1,q2,q3,h4⟩
  | succ i=>
   simp only [List.modify_succ_cons,qV]
   exact ⟨e,_,rfl,h1,h2,h3,qV.modify hfg i h4⟩
theorem qV.append {G:qd} {x:Nat×qa×qa} {e:MapEntry} (h1:e.born = x.1) (h2:G.V x.2.1 e.key) (h3:G.V x.2.2 e.val):∀{es:List (Nat×qa×qa)} {me:List MapEntry},qV G es me→qV G (es ++ [x]) (me ++ [e])
 | [],_,h=>by simp only [qV] at h;subst h;simp only [List.nil_append,qV];exact ⟨e,[],rfl,h1,h2,h3,rfl⟩
 | y :: es,me,hm=>by
  simp only [qV] at hm
  obtain ⟨e',rest,rfl,g1,g2,g3,g4⟩:=hm
  simp only [List.cons_append,qV]
  exact ⟨e',_,rfl,g1,g2,g3,qV.append h1 h2 h3 g4⟩
end
end Go.AE
namespace Go.AE
section
variable {P:Program} {gl:Nat→Option (List qa)} {G G':qd} {w w':World} {h:List qf} {t:List qa} {a:Act} {n:Nat}
theorem qen {e:TypeId} {k:Nat} {z:List qa} (he:qfA P e = some (k,z)):∃i zz zv,P.info? e = some i∧i.zero = some zv∧i.size = k∧k ≠ 0∧i.bytes ≤ 65536∧qbv P e = some zz∧zz.cells = z∧z.length = k∧
  (∀γ imm,qh γ imm z zv.cells.toList):=by
 unfold qfA at he
 split at he
 ·rename_i i zz hi hz
  split at he
  ·cases he
  ·rename_i hh
   cases he
   have hz':=hz
   unfold qbv at hz'
   rw [hi] at hz'
   simp only at hz'
   obtain ⟨zv,hz1,hz2⟩:=qv (by simpa [Option.bind_eq_bind] using hz')
   exact ⟨i,zz,zv,hi,hz1,rfl,by omega,by omega,hz,rfl,by omega,fun γ imm=>qfq hz2⟩
 ·cases he
theorem qBH (hc:Cfg P gl G h t a w) {o:Oper} (hO:qno P gl o) {ty e:TypeId} {l c:Operand} {al ac:qk} {k:Nat} {z:List qa} (ho:o.op = .makeSlice ty l c) (hu:P.underlying ty = some (.slice e)) (he:qfA P e = some (k,z))
  (hl:opd gl l = some al) (hcc:opd gl c = some ac) {base:Nat} {r:qa×List qf×Bool} (hrun:hop base (.mk k z) [ev t al,ev t ac] h = some r):Did P gl G w a o h.length r.2.1 (AE.put o.dst r.1.dim t)∧h.length ≤ r.2.1.length:=by
 obtain ⟨i,zz,zv,hi,hz1,hk,hk0,hby,hz,hzc,hzl,hzr⟩:=qen he
 have hvl:=qQ hc.rel hc.tr hl
 have hvc:=qQ hc.rel hc.tr hcc
 generalize hl':ev t al = xl at hrun hvl
 generalize hc':ev t ac = xc at hrun hvc
 unfold hop at hrun
 split at hrun <;> (try (rename_i hq _;cases hq;done)) <;> (try (rename_i hq;cases hq;done)) <;> (try (cases hrun;done))
 rename_i k' z' k1 n1 k2 n2 hq hq2
 cases hq
 simp only [List.cons.injEq,and_true] at hq2
 obtain ⟨rfl,rfl⟩:=hq2
 split at hrun
 ·rename_i hh
  obtain ⟨g1,g2,g3,g4⟩:=hh
  cases hrun
  simp only [qd.V,qt] at hvl hvc
  subst hk
  have hb:(i.bytes:Int) * n2 ≤ 281474976710656:=by
   have h1:(i.bytes:Int) * n2 ≤ 65536 * 2 ^ 24:=Int.mul_le_mul (by omega) g3 (by omega) (by omega)
   omega
  have hr:=run_make (P:=P) w ty e i zv hu hi hz1 k1 k2 n1 n2 g1 g2 hb (by omega)
  refine ⟨qgc hc hO (ob:=.cells (madeCells zv.cells (n2.toNat * i.size)) e) (u:=.slice (some ⟨w.heap.size,0,none⟩) n1.toNat n2.toNat) ?_ (fun G' hx=>?_) (fun G' hg=>?_) rfl,by simp⟩
  ·simp only [execOp,ho]
   exact qdo (by rw [hvl,hvc];exact hr)
  ·refine ⟨_,e,qZ w _,qeK ?_,fun o xs k v ho _=>(qiT ho).elim⟩
   exact (qgG (hzr _ _) i.size n2.toNat hzl hk0).dims
  ·simp only [qd.V,qt]
   exact ⟨_,n2.toNat,hg,rfl,by omega,Nat.le_refl _,fun _=>rfl,fun hh=>absurd rfl hh⟩
 ·cases hrun
theorem qje (t:List qa):∀qs:List (Nat×qk),((qs.map (·.1)).zip ((qs.map (·.2)).map (ev t))) = qs.map fun q=>(q.1,ev t q.2)
 | []=>rfl
 | q :: qs=>by simp only [List.map_cons,List.zip_cons_cons,qje t qs]
theorem qzl (hc:Cfg P gl G h t a w) {o:Oper} (hO:qno P gl o) {ty e:TypeId} {ps:Array (Nat×Operand)} {qs:List (Nat×qk)} {len k:Nat} {z:List qa} (ho:o.op = .buildSlice ty len ps) (hu:P.underlying ty = some (.slice e)) (he:qfA P e = some (k,z))
  (hps:qfI gl ps.toList = some qs) {base:Nat} {r:qa×List qf×Bool} (hrun:hop base (.lit k z len (qs.map (·.1))) ((qs.map (·.2)).map (ev t)) h = some r):Did P gl G w a o h.length r.2.1 (AE.put o.dst r.1.dim t)∧h.length ≤ r.2.1.length:=by
 obtain ⟨i,zz,zv,hi,hz1,hk,hk0,hby,hz,hzc,hzl,hzr⟩:=qen he
 have hsz:qdv P e = some k:=by simp [qdv,hi,hk]
 have hzu:(zeroValue e).run P w = .ok zv w:=by simp [zeroValue,typeInfo,hi,hz1]
 simp only [hop] at hrun
 split at hrun
 ·rename_i hcond
  split at hrun
  ·rename_i cs hcs
   cases hrun
   obtain ⟨h1,h2⟩:=qes hc.rel hc.tr k hps
   have hcs':qI ((List.replicate len z).flatten) (qs.map fun (i,x)=>(i * k,k,ev t x)) = some cs:=by
    rw [←hcs,qje,List.map_map]
    rfl
   have hu0:zv.cells.size = k:=by have:=(hzr G.γ G.imm).length;simp at this;omega
   obtain ⟨c',e1,e2⟩:=qeG (γ:=G.γ) (imm:=G.imm) (fun i=>some (i * k,k)) (ps.toList.map fun (i,x)=>(i,a.eval x)) (qs.map fun (i,x)=>(i * k,k,ev t x)) _ _ cs (qgG (hzr _ _) k len hzl hk0) (by simpa using h1)
    (fun n i v off size x hn hn'=>by
     simp only [List.getElem?_map,Option.map_eq_some_iff] at hn hn'
     obtain ⟨⟨i',x'⟩,hn1,hn2⟩:=hn
     obtain ⟨⟨off',ax'⟩,hn3,hn4⟩:=hn'
     simp only [Prod.mk.injEq] at hn2 hn4
     obtain ⟨rfl,rfl⟩:=hn2
     obtain ⟨rfl,rfl,rfl⟩:=hn4
     obtain ⟨rfl,q2⟩:=h2 n _ _ _ _ hn1 hn3
     exact ⟨rfl,q2⟩) hcs'
   refine ⟨qgc hc hO (ob:=.cells c' e) (u:=.slice (some ⟨w.heap.size,0,none⟩) len len) ?_ (fun G' hx=>⟨c',e,qZ w _,qeK (hx.VL e2).dims,fun o xs k v ho _=>(qiT ho).elim⟩) (fun G' hg=>?_) rfl,by simp⟩
   ·simp only [execOp,ho]
    refine qdo ?_
    have hlim:¬ (len * k > 2 ^ 24):=by omega
    have e4:(ps.map fun (i,x)=>(i,a.eval x)).toList = ps.toList.map fun (i,x)=>(i,a.eval x):=by simp
    by_cases hz0:len * k = 0
    ·have hl0:len = 0:=by rcases Nat.mul_eq_zero.1 hz0 with h | h;exact h;exact absurd h hk0
     subst hl0
     simp only [Nat.zero_mul] at e1
     have e1':Instr.fill (fun i=>some (i * k,k)) ((Array.range 0).map ((#[]:Array Value)[· % (#[]:Array Value).size]!)) (ps.toList.map fun (i,x)=>(i,a.eval x)) = some c':=by
      have e0:∀f:Nat→Value,(Array.range 0).map f = #[]:=fun f=>by apply Array.ext';simp
      rw [e0] at e1 ⊢
      exact e1
     simp only [Instr.buildSlice,Sem.run_bind,run_underlying hu,Result.andThen_ok,qbc hsz,Nat.zero_mul,gt_iff_lt,Nat.not_lt_zero,if_false,Sem.run_pure,if_true,e4,e1']
     simp [newRow]
    ·simp only [Instr.buildSlice,Sem.run_bind,run_underlying hu,Result.andThen_ok,qbc hsz,if_neg hlim,if_neg hz0,Sem.run_pure,hzu,e4,e1]
     simp [newRow]
   ·simp only [qd.V,qt]
    exact ⟨_,len,hg,rfl,Nat.le_refl _,Nat.le_refl _,fun _=>rfl,fun hh=>absurd rfl hh⟩
  ·cases hrun
 ·cases hrun
theorem qny {t:TypeId} {e:Nat} (h:qAr P gl t = some e) (w:World):(zeroValue t).run P w = .ok (.agg #[.pointer none,.slice none 0 0]) w:=by
 unfold qAr at h
 split at h
 ·rename_i i _ hi
  split at h
  ·rename_i a hz
   split at h
   ·rename_i ha
    have:a = #[.pointer none,.slice none 0 0]:=by rw [←Array.toArray_toList (xs:=a),ha]
    subst this
    simp [zeroValue,typeInfo,Sem.run,hi,hz]
   ·cases h
  ·cases h
 ·cases h
theorem qzk (hc:Cfg P gl G h t a w) {o:Oper} (hO:qno P gl o) {ty:TypeId} {e:Nat} (ho:o.op = .alloc ty) (hz:qAr P gl ty = some e) {base:Nat} {r:qa×List qf×Bool} (hrun:hop base (.bld ty e) [] h = some r) :
  Did P gl G w a o h.length r.2.1 (AE.put o.dst r.1.dim t)∧h.length ≤ r.2.1.length:=by
 simp only [hop,Option.some.injEq] at hrun
 subst hrun
 refine ⟨qgc hc hO (ob:=.cells #[.pointer none,.slice none 0 0] ty (0,0)) (u:=.pointer (some ⟨w.heap.size,0,none⟩)) ?_ (fun G' hx=>⟨_,_,qZ w _,.inl rfl,World.ownsRowF_nil _ _ _ _,fun g hg=>by simp [Value.ownBlock] at hg⟩) (fun G' hg=>?_) rfl,by simp⟩
 ·simp only [execOp,ho]
  refine qdo ?_
  simp [Instr.alloc,qny hz,newVar,newRow,Value.cells]
 ·simp only [qd.V,qt]
  exact ⟨_,hg,rfl⟩
theorem qiA:∀s:List UInt8,qeJ (qhL s) = qhL s
 | []=>rfl
 | c :: s=>by
  have:=qiA s
  simp only [qeJ,qhL,List.map_cons,List.flatMap_cons,qa.cells,List.singleton_append] at this ⊢
  rw [this]
theorem qtu (s:List UInt8):∀y ∈ qhL s,y.dim = y:=by
 intro y hy
 simp only [qhL,List.mem_map] at hy
 obtain ⟨c,_,rfl⟩:=hy
 rfl
theorem qqn (cs:List qa):∀y ∈ cs.map qa.dim,y.dim = y:=by
 intro y hy
 obtain ⟨x,_,rfl⟩:=List.mem_map.1 hy
 exact qbx x
theorem qh2 (hr:Rel P gl G h w) {v:qa} {val:Value} (hv:G.V v val) {k m:Nat} {ys:List qa} (hrow:qko k h v = some (ys,m)):(∀y ∈ ys,y.dim = y)∧ys.length = m * k∧∃nv:List Value,G.VL ys nv∧
  (∀w1:World,(∀q,w1.cell? q = w.cell? q)→(Builtin.firstCells k m val).run P w1 = .ok nv.toArray w1)∧(Builtin.lenOf val).run P w = .ok m w:=by
 unfold qko at hrow
 split at hrow
 ·rename_i xs f
  split at hrow
  ·rename_i hk
   cases hrow
   have hk':∀x ∈ xs,x.cells.length = k:=fun x hx=>by
    rw [List.all_eq_true] at hk
    simpa using hk x hx
   obtain ⟨vs,h1,h2,h3⟩:=qgi (P:=P) hr hv hk'
   exact ⟨qqn _,by simp [qde hk'],vs,qh.dims h1,h2,h3⟩
  ·cases hrow
 ·rename_i s
  split at hrow
  ·rename_i hk
   cases hrow
   obtain ⟨vs,h1,h2,h3⟩:=qg4 (P:=P) (w:=w) hv
   rw [qiA] at h1
   exact ⟨qtu s,by simp [qhL,hk],vs,h1,fun w1 _=>h2 k w1,h3⟩
  ·cases hrow
 ·rename_i id o len cap more
  split at hrow
  ·rename_i cs hid
   split at hrow
   ·rename_i hfit
    cases hrow
    simp only [qd.V,qt] at hv
    obtain ⟨b,c,hb,rfl,h1,h2,_⟩:=hv
    obtain ⟨cc,e,g1,g2,_⟩:=hr.box id b _ hb hid
    have hle:=qeM g2
    have hlen:(((cc.toList.take cs.length).drop o).take (m * k)).length = m * k:=by simp at hle ⊢;omega
    refine ⟨qqn _,by simp;omega,((cc.toList.take cs.length).drop o).take (m * k),qh.dims (qh.take _ (qh.drop _ g2)),fun w1 hw1=>?_,by simp [Builtin.lenOf]⟩
    have:=run_loadCells_list (P:=P) w1 ⟨b,o,none⟩ (((cc.toList.take cs.length).drop o).take (m * k)) (fun j v hj=>by
     have hjl:=(List.getElem?_eq_some_iff.1 hj).1
     rw [hlen] at hjl
     rw [List.getElem?_take_of_lt hjl,List.getElem?_drop,List.getElem?_take_of_lt (by omega)] at hj
     rw [qbE,hw1]
     simp only [World.cell?,g1]
     simpa using hj)
    rw [hlen] at this
    simp [Builtin.firstCells,this]
   ·cases hrow
  ·cases hrow
 ·cases hrow
  simp only [qd.V,qt] at hv
  subst hv
  exact ⟨by simp,by simp,[],by simp [qd.VL,qh],fun w1 _=>by simp [Builtin.firstCells],by simp [Builtin.lenOf]⟩
 ·cases hrow
  simp only [qd.V,qt] at hv
  obtain ⟨b,rfl⟩:=hv
  exact ⟨by simp,by simp,[],by simp [qd.VL,qh],fun w1 _=>by simp [Builtin.firstCells,loadCells,loadCellsFrom],by simp [Builtin.lenOf]⟩
 ·cases hrow
theorem qEU {γ:Nat→Option Nat} {imm:Nat→Nat→Option Value} {ys:List qa} {nv:List Value} (h:qh γ imm ys nv) (hs:ys.all qa.storable = true):∀v ∈ nv,v.oneCell' = true:=by
 have:qt γ imm (.agg ys) (.agg nv.toArray):=by simp only [qt];exact ⟨_,rfl,by simpa using h⟩
 have:=(qbO this hs).2
 simpa [Value.cells] using this
theorem qzj (hc:Cfg P gl G h t a w) {o:Oper} (hO:qno P gl o) {c:Go.Call} {x y:Operand} {sT xT e:TypeId} {ux:TypeDesc} {ax ay:qk} {k:Nat} {z:List qa} (ho:o.op = .call c) (hcal:c.callee = .builtin .append)
  (hargs:c.args.toList = [x,y]) (hty:c.argTypes.toList = [sT,xT]) (hu:P.underlying sT = some (.slice e)) (hux:P.underlying xT = some ux) (hux':(∃e',ux = .slice e')∨ux = .string) (he:qfA P e = some (k,z))
  (hx:opd gl x = some ax) (hy:opd gl y = some ay) {base:Nat} {r:qa×List qf×Bool} (hrun:hop base (.app k) [ev t ax,ev t ay] h = some r):Did P gl G w a o h.length r.2.1 (AE.put o.dst r.1.dim t)∧h.length ≤ r.2.1.length:=by
 obtain ⟨i,zz,zv,hi,hz1,hk,hk0,hby,hz,hzc,hzl,hzr⟩:=qen he
 have ea:c.args = #[x,y]:=by rw [←Array.toArray_toList (xs:=c.args),hargs]
 have et:c.argTypes = #[sT,xT]:=by rw [←Array.toArray_toList (xs:=c.argTypes),hty]
 have hxv:=qQ hc.rel hc.tr hx
 have hyv:=qQ hc.rel hc.tr hy
 have hxdim:=qix t ax
 have hu0:∀w1:World,(zeroValue e).run P w1 = .ok zv w1:=fun w1=>by simp [zeroValue,typeInfo,hi,hz1]
 have hu0r:zv.cells.size = i.size:=by have:=(hzr G.γ G.imm).length;simp at this;omega
 have hrunE:∀{v:Value} {w1:World} {bs:Option Addr} {len cap:Nat},a.eval x = .slice bs len cap→(Builtin.append_ #[sT,xT] o.type #[.slice bs len cap,a.eval y]).run P w = .ok v w1→(execOp a.eval o).run P w = .ok (.value v) w1:=by
  intro v w1 bs len cap hval hr
  simp [execOp,ho,hcal,ea,et,resolve,invoke,builtin,hval,hr]
 simp only [hop,qkX] at hrun
 split at hrun
 ·cases hrun
 rename_i ys m hrow
 split at hrun
 ·cases hrun
 rename_i hst
 have hst:ys.all qa.storable = true:=by simpa using hst
 obtain ⟨d1,d2,nv,n1,n2,n3⟩:=qh2 (P:=P) hc.rel hyv hrow
 have n4:=qEU n1 hst
 subst hk
 have hnl:nv.length = m * i.size:=by rw [←n1.length];exact d2
 have none0:∀{bs:Option Addr} {len cap:Nat},a.eval x = .slice bs len cap→len ≤ cap→m = 0→Did P gl G w a o h.length h (AE.put o.dst (ev t ax).dim t):=by
  intro bs len cap hval hle hm
  subst hm
  have hnv:nv = []:=List.eq_nil_of_length_eq_zero (by omega)
  subst hnv
  have hf0:=n2 w (fun _=>rfl)
  have hsz:(sizeOf e).run P w = .ok i.size w:=by simp [sizeOf,typeInfo,hi]
  have hap:(Builtin.append_ #[sT,xT] o.type #[.slice bs len cap,a.eval y]).run P w = .ok (.slice bs len cap) w:=by
   rcases hux' with ⟨e',rfl⟩ | rfl <;> cases bs <;> simp [Builtin.append_,run_underlying hu,run_underlying hux,hsz,n3,hle,hf0,storeCells]
  exact qss hc (hrunE hval hap) (by rw [←hval];exact qcT hxv) (qbx _) _
 have fresh:∀{h0:List qf} (_:Cfg P gl G h0 t a w) {bs:Option Addr} {len cap:Nat} {os:List qa} {ov:List Value},h0.length = h.length→a.eval x = .slice bs len cap→G.VL os ov→(∀q ∈ os,q.dim = q)→os.length = len * i.size→
   (∀w1:World,(∀q,w1.cell? q = w.cell? q)→(Builtin.firstCells i.size len (.slice bs len cap)).run P w1 = .ok ov.toArray w1)→len + m ≤ qu→m ≠ 0→cap < len + m→
   Did P gl G w a o h.length (h0 ++ [.cells (os ++ ys)]) (AE.put o.dst (qa.sl h.length 0 (len + m) (len + m) i.size).dim t):=by
  intro h0 hc0 bs len cap os ov hl0 hval ho1 ho2 ho3 ho4 hlim hm hcap
  have hol:ov.length = len * i.size:=by rw [←ho1.length];exact ho3
  obtain ⟨hA,_,_⟩:=qdU (P:=P) (w:=w) hu hux hux' hi n3 o.type ov nv n2 ho4 hlim hby hu0 hu0r hol hnl
  obtain ⟨newCap,d,cc,g1,g2,g3,g4⟩:=hA hcap
  have:=qsq hc0 hO (hrunE hval g2) (cs:=os ++ ys) (us:=ov ++ nv) (qh.append ho1 n1) g4 g3 hk0 g1 (by omega) (fun q hq=>by
   rcases List.mem_append.1 hq with hq | hq
   ·exact ho2 q hq
   ·exact d1 q hq)
  rw [hl0] at this
  exact this
 split at hrun
 ·
  rename_i xs hxe
  have hxv':=hxv
  rw [hxe] at hxv'
  simp only [qd.V,qt] at hxv'
  obtain ⟨bs,len,cap,hval,q1,q2,q3,q4,_,_⟩:=hxv'
  split at hrun
  ·rename_i hm
   cases hrun
   refine ⟨?_,Nat.le_refl _⟩
   exact none0 hval q2 hm
  ·rename_i hm
   split at hrun
   ·rename_i os n hro
    split at hrun
    ·rename_i hlim
     cases hrun
     obtain ⟨e1,e2,ov,o1,o2,o3⟩:=qh2 (P:=P) hc.rel hxv hro
     rw [hval] at o2 o3
     have hn:n = len:=by simpa [Builtin.lenOf] using o3.symm
     subst hn
     exact ⟨fresh hc rfl hval o1 e1 e2 o2 hlim hm (by have:=q3 trivial;omega),by simp⟩
    ·cases hrun
   ·cases hrun
 ·
  rename_i id p0 len cap more hxe
  have hxv':=hxv
  rw [hxe] at hxv'
  simp only [qd.V,qt] at hxv'
  obtain ⟨b,cp,hb,hval,q1,q2,q3,q4⟩:=hxv'
  split at hrun
  ·rename_i hm
   cases hrun
   refine ⟨?_,Nat.le_refl _⟩
   exact none0 hval (by omega) hm
  ·rename_i hm
   split at hrun
   ·rename_i hlim
    split at hrun
    ·
     rename_i hcap
     split at hrun
     ·rename_i h' e' hput
      cases hrun
      unfold qfY at hput
      split at hput
      ·rename_i cs hid
       split at hput
       ·rename_i hfit
        cases hput
        obtain ⟨cc,te,g1,g2,_⟩:=hc.rel.box id b _ hb hid
        have hle:=qeM g2
        have hro:qko i.size h (ev t ax) = some (((cs.drop p0).take (len * i.size)).map qa.dim,len):=by
         rw [hxe]
         simp only [qko,hid]
         rw [if_pos (by omega)]
        obtain ⟨e1,e2,ov,o1,o2,o3⟩:=qh2 (P:=P) hc.rel hxv hro
        rw [hval] at o2
        have hol:ov.length = len * i.size:=by rw [←o1.length];exact e2
        obtain ⟨_,hB,_⟩:=qdU (P:=P) (w:=w) hu hux hux' hi n3 o.type ov nv n2 o2 hlim hby hu0 hu0r hol hnl
        have hfz:p0 + (len + m) * i.size ≤ cc.size:=by
         rw [Nat.add_mul]
         simp at hle
         omega
        have hr:=hB (by omega) b p0 rfl cc te g1 hfz n4
        refine ⟨qn7 hc hO hb hid hfit.1 d1 g1 n1 (hrunE hval hr) (.inl rfl) ?_ rfl _,by simp⟩
        simp only [qd.V,qt,qa.dim]
        exact ⟨b,cp,hb,rfl,hcap,q2,q3,q4⟩
       ·cases hput
      ·cases hput
     ·cases hrun
    ·rename_i hcap
     split at hrun
     ·rename_i os n ds hro hid
      obtain ⟨e1,e2,ov,o1,o2,o3⟩:=qh2 (P:=P) hc.rel hxv hro
      rw [hval] at o2 o3
      have hn:n = len:=by simpa [Builtin.lenOf] using o3.symm
      subst hn
      split at hrun
      ·rename_i hm0
       cases hrun
       exact ⟨fresh hc rfl hval o1 e1 e2 o2 hlim hm (by have:=q3 hm0;omega),by simp⟩
      ·rename_i hm0
       split at hrun
       ·rename_i hcond
        obtain ⟨rfl,rfl,hcd⟩:=hcond
        cases hrun
        have hck:Cfg P gl G (h.set id .dead) t a w:=⟨hc.rel.kill id,hc.tr⟩
        by_cases hcp:n + m ≤ cp
        ·
         have hmk:=q4 hm0
         obtain ⟨k0,cc,te,g1,g2⟩:=hc.rel.immK b _ hmk
         have hol:ov.length = n * i.size:=by rw [←o1.length];exact e2
         obtain ⟨_,hB,_⟩:=qdU (P:=P) (w:=w) hu hux hux' hi n3 o.type ov nv n2 o2 hlim hby hu0 hu0r hol hnl
         have hfz:0 + (n + m) * i.size ≤ cc.size:=by
          have:=Nat.mul_le_mul_right i.size hcp
          omega
         have hr:=hB hcp b 0 rfl cc te g1 hfz n4
         have hfit:0 + n * i.size + nv.length ≤ cc.toList.length:=by
          rw [hnl,Nat.add_assoc,←Nat.add_mul]
          simpa using hfz
         have hov:∀(j:Nat) (v:Value),ov[j]? = some v→cc[j]? = some v:=fun j v hj=>by
          obtain ⟨cc',te',g1',g2',_⟩:=hc.rel.box id b _ hb hid
          rw [g1] at g1'
          cases g1'
          have hj':=(List.getElem?_eq_some_iff.1 hj).1
          have h1:=o2 w (fun _=>rfl)
          have h2:=run_loadCells_list (P:=P) w ⟨b,0,none⟩ (cc.toList.take (n * i.size)) (fun j v hj=>by
           have hjl:=(List.getElem?_eq_some_iff.1 hj).1
           rw [List.getElem?_take_of_lt (by simp at hjl;omega)] at hj
           rw [qbE]
           simp only [World.cell?,g1,Nat.zero_add]
           simpa using hj)
          have h3:(cc.toList.take (n * i.size)).length = n * i.size:=by simp at hfit ⊢;omega
          rw [h3] at h2
          simp only [Builtin.firstCells] at h1
          rw [h2] at h1
          simp only [Result.ok.injEq,and_true] at h1
          have h4:ov = cc.toList.take (n * i.size):=by
           have:=congrArg Array.toList h1
           simpa using this.symm
          rw [h4,List.getElem?_take_of_lt (by omega)] at hj
          simpa using hj
         have:=qn3 hck hO (id:=id) (cs:=os ++ ys) (us:=ov ++ nv) (k:=i.size) (len:=n + m) (cap:=cp) (p:=0 + n * i.size) hb (fun j hj=>by
           rcases hc.rel.inj j id b hj hb with h1 | h1 | h1
           ·subst h1;exact List.getElem?_set_self (List.getElem?_eq_some_iff.1 hid).1
           ·exact qdb hid (by simp) h1
           ·rw [hid] at h1;cases h1) (fun o v hv=>Classical.byContradiction fun hm=>by have:=hc.rel.immγ _ o v id hv hm hb;rw [hid] at this;cases this) g1 (by simpa using hfit) (hrunE hval hr) (qh.append o1 n1) (fun j v hj=>by
           by_cases hjn:j < ov.length
           ·rw [List.getElem?_append_left hjn] at hj
            rw [(qbn (cs:=cc.toList) (vs:=nv) (o:=0 + n * i.size) (i:=j) hfit).1 (.inl (by omega))]
            simpa using hov j v hj
           ·rw [List.getElem?_append_right (by omega)] at hj
            have hjl:=(List.getElem?_eq_some_iff.1 hj).1
            rw [(qbn (cs:=cc.toList) (vs:=nv) (o:=0 + n * i.size) (i:=j) hfit).2 (by omega) (by omega)]
            rw [show j - (0 + n * i.size) = j - ov.length by omega]
            exact hj) hmk hk0 hcp (fun q hq=>by
           rcases List.mem_append.1 hq with hq | hq
           ·exact e1 q hq
           ·exact d1 q hq)
         rw [List.length_set] at this
         exact ⟨this,by simp⟩
        ·exact ⟨fresh hck (by simp) hval o1 e1 e2 o2 hlim hm (by omega),by simp⟩
       ·cases hrun
     ·cases hrun
   ·cases hrun
 ·rename_i hxe
  have hxv':=hxv
  rw [hxe] at hxv'
  simp only [qd.V,qt] at hxv'
  split at hrun
  ·rename_i hm
   cases hrun
   exact ⟨none0 hxv' (Nat.le_refl _) hm,Nat.le_refl _⟩
  ·rename_i hm
   split at hrun
   ·rename_i hlim
    cases hrun
    have:=fresh hc rfl hxv' (os:=[]) (ov:=[]) (by simp [qd.VL,qh]) (by simp) (by simp) (fun w1 _=>by simp [Builtin.firstCells]) (by omega) hm (by omega)
    exact ⟨by simpa using this,by simp⟩
   ·cases hrun
 ·cases hrun
theorem qoY (hc:Cfg P gl G h t a w) {o:Oper} {op:BinOp} {ty yt:TypeId} {x y:Operand} {ax ay:qk} {sh:qd6} {v:qa} (ho:o.op = .binOp op ty x y yt) (hx:opd gl x = some ax) (hy:opd gl y = some ay)
  (hop:op = .eql∨op = .neq) (hst:qcy (P.underlying ty) = true) (hg:P.eqGuardType P.depth ty = false) (hs:qgL P ty = some sh) (hp:pureV t (.eqs sh (qd9 op) ax ay) = some v):qbw P G w a o v:=by
 have hvx:=qQ hc.rel hc.tr hx
 have hvy:=qQ hc.rel hc.tr hy
 simp only [pureV] at hp
 obtain ⟨r,hr,rfl⟩:=qbT hp
 obtain ⟨h1,_⟩:=qzz hs hvx hvy hr w
 obtain ⟨fx,fy,_⟩:=qiw hr
 obtain ⟨_,_,_,_,_,x4,x5,_⟩:=qdd hs hvx fx
 obtain ⟨_,_,_,_,_,y4,_,_⟩:=qdd hs hvy fy
 rw [hst] at x5
 obtain ⟨cx,ex⟩:=x4 x5
 obtain ⟨cy,ey⟩:=y4 x5
 rw [ex,ey] at h1
 have hb:=qez op hop ty (.agg cx) (.agg cy) _ w h1 (by simp) (by simp) (by simp) (by simp)
 have hgd:(eqGuard op ty x y (.agg cx) (.agg cy)).run P w = .ok () w:=by
  have hpr:∀w1:World,(Sem.program Sem.pure).run P w1 = .ok P w1:=fun _=>rfl
  rcases hop with rfl | rfl <;> simp [eqGuard,program,hpr,hg]
 exact ⟨_,by simp [execOp,ho,ex,ey,hgd,hb];rfl,by simp [qd.V,qt],rfl⟩
theorem qo5 (hc:Cfg P gl G h t a w) {o:Oper} {op:BinOp} {ty yt e:TypeId} {x y:Operand} {ax:qk} {v:qa} (ho:o.op = .binOp op ty x y yt) (hx:opd gl x = some ax) (hop:op = .eql∨op = .neq) (hy:qpH y = true)
  (hu:P.underlying ty = some (.slice e)) (hp:pureV t (.nls (qd9 op) ax) = some v):qbw P G w a o v:=by
 have hvx:=qQ hc.rel hc.tr hx
 have hye:a.eval y = .slice none 0 0:=by
  unfold qpH at hy
  split at hy
  ·rfl
  ·cases hy
 have key:∀b len cap,a.eval x = .slice (some b) len cap→(execOp a.eval o).run P w = .ok (.value (.bool (false != qd9 op))) w:=by
  intro b len cap hval
  have he:(Op.equal ty (.slice (some b) len cap) (.slice none 0 0)).run P w = .ok false w:=by
   have key:∀d,(Op.equalIn (d + 1) ty (.slice (some b) len cap) (.slice none 0 0)).run P w = .ok false w:=fun d=>by simp [Op.equalIn,run_underlying hu]
   exact key 9999
  have hb:=qez op hop ty _ _ _ w he (by simp) (by simp) (by simp) (by simp)
  have hgd:(eqGuard op ty x y (.slice (some b) len cap) (.slice none 0 0)).run P w = .ok () w:=by
   rcases hop with rfl | rfl <;> simp [eqGuard]
  simp [execOp,ho,hval,hye,hgd,hb]
 simp only [pureV] at hp
 split at hp
 ·rename_i id off len cap more e1
  rw [e1] at hvx
  simp only [qd.V,qt] at hvx
  obtain ⟨b,c,hb,hval,_⟩:=hvx
  cases hp
  exact ⟨_,key _ _ _ hval,by simp [qd.V,qt],rfl⟩
 ·rename_i z zs f e1
  rw [e1] at hvx
  simp only [qd.V,qt] at hvx
  obtain ⟨bs,len,cap,hval,_,_,_,_,_,h5⟩:=hvx
  cases hp
  rcases h5 with h5 | ⟨b,p,rfl,_⟩
  ·cases h5
  ·exact ⟨_,key _ _ _ hval,by simp [qd.V,qt],rfl⟩
 ·rename_i e1
  rw [e1] at hvx
  simp only [qd.V,qt] at hvx
  cases hp
  have he:(Op.equal ty (.slice none 0 0) (.slice none 0 0)).run P w = .ok true w:=by
   have key:∀d,(Op.equalIn (d + 1) ty (.slice none 0 0) (.slice none 0 0)).run P w = .ok true w:=fun d=>by simp [Op.equalIn,run_underlying hu]
   exact key 9999
  have hb:=qez op hop ty _ _ _ w he (by simp) (by simp) (by simp) (by simp)
  have hgd:(eqGuard op ty x y (.slice none 0 0) (.slice none 0 0)).run P w = .ok () w:=by
   rcases hop with rfl | rfl <;> simp [eqGuard]
  exact ⟨.bool (true != qd9 op),by simp [execOp,ho,hvx,hye,hgd,hb],by simp [qd.V,qt],rfl⟩
 ·rename_i e1
  rw [e1] at hvx
  simp only [qd.V,qt] at hvx
  obtain ⟨b,hval⟩:=hvx
  cases hp
  exact ⟨_,key _ _ _ hval,by simp [qd.V,qt],rfl⟩
 ·cases hp
theorem qV.filter {G:qd} (q:Nat→Bool):∀{es:List (Nat×qa×qa)} {me:List MapEntry},qV G es me→qV G (es.filter fun e=>q e.1) (me.filter fun e=>q e.born)
 | [],me,h=>by simp only [qV] at h;subst h;simp [qV]
 | x :: es,me,h=>by
  simp only [qV] at h
  obtain ⟨e,rest,rfl,h1,h2,h3,h4⟩:=h
  have ih:=qV.filter q h4
  simp only [List.filter_cons,h1]
  cases q x.1 with
  | false=>simpa using ih
  | true=>simp only [if_true,qV];exact ⟨e,_,rfl,h1,h2,h3,ih⟩
theorem qV.all {G:qd} (q:Nat→Bool):∀{es:List (Nat×qa×qa)} {me:List MapEntry},qV G es me→me.all (fun e=>q e.born) = es.all fun e=>q e.1
 | [],me,h=>by simp only [qV] at h;subst h;rfl
 | x :: es,me,h=>by
  simp only [qV] at h
  obtain ⟨e,rest,rfl,h1,h2,h3,h4⟩:=h
  simp only [List.all_cons,h1,qV.all q h4]
theorem qzb (hc:Cfg P gl G h t a w) {o:Oper} {ao:AOp} (hcomp:qfv P gl o = some ao) {p:qco} {base:Nat} {call:AE.Call} {e:Bool} {x:Ex} {s':St}
  (hrun:qq base call p o.dst ao ⟨t,h,e⟩ = some (x,s')):x = .nor∧Did P gl G w a o h.length s'.h s'.t∧h.length ≤ s'.h.length:=by
 have hO:∀k as,ao = .hx k as→qno P gl o:=fun k as e=>⟨k,as,e▸hcomp⟩
 have fin:∀{k:HOp} {as:List qk},ao = .hx k as→(∀r,hop base k (as.map (ev t)) h = some r→Did P gl G w a o h.length r.2.1 (AE.put o.dst r.1.dim t)∧h.length ≤ r.2.1.length)→
   x = .nor∧Did P gl G w a o h.length s'.h s'.t∧h.length ≤ s'.h.length:=by
  intro k as e1 hd
  subst e1
  simp only [qq] at hrun
  obtain ⟨r,hr,he⟩:=qbT hrun
  cases he
  obtain ⟨h1,h2⟩:=hd r hr
  exact ⟨rfl,h1,h2⟩
 unfold qfv at hcomp
 split at hcomp
 ·
  rename_i ty ho
  split at hcomp
  ·rename_i e hz
   cases hcomp
   exact fin rfl fun r hr=>qzk hc (hO _ _ rfl) ho hz hr
  ·cases hcomp
 ·
  rename_i ty l c ho
  split at hcomp
  ·rename_i et hu
   obtain ⟨⟨k,z⟩,he,hcomp⟩:=qv hcomp
   obtain ⟨al,hl,hcomp⟩:=qv hcomp
   obtain ⟨ac,hcc,hcomp⟩:=qv hcomp
   cases hcomp
   exact fin rfl fun r hr=>qBH hc (hO _ _ rfl) ho hu he hl hcc hr
  ·cases hcomp
 ·
  rename_i ty n ps ho
  split at hcomp
  ·split at hcomp
   ·rename_i et hu
    obtain ⟨⟨k,z⟩,he,hcomp⟩:=qv hcomp
    obtain ⟨qs,hq,hcomp⟩:=qv hcomp
    cases hcomp
    exact fin rfl fun r hr=>qzl hc (hO _ _ rfl) ho hu he hq hr
   ·cases hcomp
  ·cases hcomp
 ·
  rename_i op ty y z yt ho
  split at hcomp
  ·rename_i hcond
   simp only [Bool.and_eq_true] at hcond
   split at hcomp
   ·rename_i et hu
    obtain ⟨ay,hay,rfl⟩:=qbT hcomp
    have hop':op = .eql∨op = .neq:=by have h1:=hcond.1;cases op <;> simp [qw1] at h1 <;> simp
    simp only [qq] at hrun
    obtain ⟨v,hv,he⟩:=qbT hrun
    cases he
    exact ⟨rfl,qdC hc (qo5 hc ho hay hop' hcond.2 hu hv) _,Nat.le_refl _⟩
   ·cases hcomp
  rename_i hcond0
  split at hcomp
  ·rename_i hcond
   simp only [Bool.and_eq_true,Bool.not_eq_true'] at hcond
   obtain ⟨⟨h1,h2⟩,h3⟩:=hcond
   obtain ⟨sh,hs,hcomp⟩:=qv hcomp
   obtain ⟨ay,hay,hcomp⟩:=qv hcomp
   obtain ⟨az,haz,hcomp⟩:=qv hcomp
   cases hcomp
   have hop':op = .eql∨op = .neq:=by cases op <;> simp [qw1] at h1 <;> simp
   simp only [qq] at hrun
   obtain ⟨v,hv,he⟩:=qbT hrun
   cases he
   exact ⟨rfl,qdC hc (qoY hc ho hay haz hop' h2 h3 hs hv) _,Nat.le_refl _⟩
  ·cases hcomp
 ·
  rename_i c ho
  split at hcomp
  ·rename_i b hcal
   split at hcomp
   ·rename_i y z sT xT hargs hty
    split at hcomp
    ·split at hcomp
     ·rename_i et ux hu hux
      split at hcomp
      ·cases hcomp
      ·rename_i hm
       obtain ⟨⟨k,zz⟩,he,hcomp⟩:=qv hcomp
       obtain ⟨ax,hx,hcomp⟩:=qv hcomp
       obtain ⟨ay,hy,hcomp⟩:=qv hcomp
       cases hcomp
       have hux':(∃e',ux = .slice e')∨ux = .string:=by
        cases ux <;> first | (exact .inl ⟨_,rfl⟩) | exact .inr rfl | (exfalso;exact hm rfl)
       exact fin rfl fun r hr=>qzj hc (hO _ _ rfl) ho hcal hargs hty hu hux hux' he hx hy hr
     ·cases hcomp
    ·cases hcomp
   ·cases hcomp
  ·cases hcomp
 ·cases hcomp
theorem qwM {o:Oper} {ao:AOp} (hcomp:qfv P gl o = some ao):(∃k as,ao = .hx k as)∨(∃sh z ok m key ty p q r,ao = .lk sh z ok m key∧o.op = .lookup ty p q r)∨∃op ty p q r,((∃sh n x y,ao = .eqs sh n x y)∨∃n x,ao = .nls n x)∧o.op = .binOp op ty p q r:=by
 unfold qfv at hcomp
 split at hcomp
 ·split at hcomp
  ·cases hcomp;exact .inl ⟨_,_,rfl⟩
  ·cases hcomp
 ·split at hcomp
  ·obtain ⟨⟨k,z⟩,he,hcomp⟩:=qv hcomp
   obtain ⟨al,hl,hcomp⟩:=qv hcomp
   obtain ⟨ac,hcc,hcomp⟩:=qv hcomp
   cases hcomp;exact .inl ⟨_,_,rfl⟩
  ·cases hcomp
 ·split at hcomp
  ·split at hcomp
   ·obtain ⟨⟨k,z⟩,he,hcomp⟩:=qv hcomp
    obtain ⟨qs,hq,hcomp⟩:=qv hcomp
    cases hcomp;exact .inl ⟨_,_,rfl⟩
   ·cases hcomp
  ·cases hcomp
 ·rename_i op ty y z yt ho
  split at hcomp
  ·split at hcomp
   ·obtain ⟨ay,hay,rfl⟩:=qbT hcomp
    exact .inr (.inr ⟨_,_,_,_,_,.inr ⟨_,_,rfl⟩,ho⟩)
   ·cases hcomp
  split at hcomp
  ·obtain ⟨sh,hs,hcomp⟩:=qv hcomp
   obtain ⟨ay,hay,hcomp⟩:=qv hcomp
   obtain ⟨az,haz,hcomp⟩:=qv hcomp
   cases hcomp;exact .inr (.inr ⟨_,_,_,_,_,.inl ⟨_,_,_,_,rfl⟩,ho⟩)
  ·cases hcomp
 ·split at hcomp
  ·split at hcomp
   ·split at hcomp
    ·split at hcomp
     ·split at hcomp
      ·cases hcomp
      ·obtain ⟨⟨k,zz⟩,he,hcomp⟩:=qv hcomp
       obtain ⟨ax,hx,hcomp⟩:=qv hcomp
       obtain ⟨ay,hy,hcomp⟩:=qv hcomp
       cases hcomp;exact .inl ⟨_,_,rfl⟩
     ·cases hcomp
    ·cases hcomp
   ·cases hcomp
  ·cases hcomp
 ·cases hcomp
end
end Go.AE
namespace Go.AE
section
variable {P:Program} {gl:Nat→Option (List qa)} {G:qd} {w:World} {h:List qf} {t:List qa} {a:Act}
set_option maxHeartbeats 1000000 in
theorem qwj (hc:Cfg P gl G h t a w) {p:qco} (hp:qbh G w t a p) {o:Oper} {ao:AOp} (hcomp:qel P gl o = some ao) (hnc:ao.calls = false) {base:Nat} {call:AE.Call} {e:Bool} {x:Ex} {s':St}
  (hrun:qq base call p o.dst ao ⟨t,h,e⟩ = some (x,s')):x = .nor∧Did P gl G w a o h.length s'.h s'.t∧h.length ≤ s'.h.length:=by
 have hpure:∀{q:AOp},(∀v,pureV t q = some v→qbw P G w a o v)→(pureV t q).map (fun v=>(Ex.nor,({ t:=put o.dst v t,h:=h,e:=e}:St))) = some (x,s')→
   x = .nor∧Did P gl G w a o h.length s'.h s'.t∧h.length ≤ s'.h.length:=by
  intro q hg hm
  obtain ⟨v,hv,he⟩:=qbT hm
  cases he
  exact ⟨rfl,qdC hc (hg v hv) _,Nat.le_refl _⟩
 have hr:=hc.rel
 have ht:=hc.tr
 unfold qel at hcomp
 split at hcomp
 ·
  rename_i y ho
  obtain ⟨ay,hy,rfl⟩:=qbT hcomp
  simp only [qq] at hrun
  exact hpure (fun v hv=>by simp only [pureV,Option.some.injEq] at hv;subst hv;exact qlY hr ht ho hy) hrun
 ·
  rename_i y ho
  obtain ⟨ay,hy,rfl⟩:=qbT hcomp
  simp only [qq] at hrun
  cases hrun
  exact ⟨rfl,qwg hc ho hy _,Nat.le_refl _⟩
 ·
  rename_i c y z ho
  obtain ⟨ac,hac,hcomp⟩:=qv hcomp
  obtain ⟨ay,hay,hcomp⟩:=qv hcomp
  obtain ⟨az,haz,hcomp⟩:=qv hcomp
  cases hcomp
  simp only [qq] at hrun
  exact hpure (fun v hv=>ql0 hr ht ho hac hay haz hv) hrun
 ·
  rename_i et ho
  obtain ⟨z,hz,hcomp⟩:=qv hcomp
  cases hcomp
  simp only [qq] at hrun
  cases hrun
  exact ⟨rfl,qwi hc ho hz,by simp⟩
 ·
  rename_i et y ho
  obtain ⟨k,hk,hcomp⟩:=qv hcomp
  obtain ⟨ay,hay,hcomp⟩:=qv hcomp
  cases hcomp
  simp only [qq] at hrun
  split at hrun
  ·rename_i hh
   cases hrun
   exact ⟨rfl,qn5 hc ho hay hh.2,by simp⟩
  ·cases hrun
 ·
  rename_i ty ps ho
  obtain ⟨z,hz,hcomp⟩:=qv hcomp
  split at hcomp
  ·rename_i fs hu
   split at hcomp
   ·rename_i hall
    obtain ⟨aps,haps,hcomp⟩:=qv hcomp
    cases hcomp
    simp only [qq] at hrun
    exact hpure (fun v hv=>qiD hr ht ho hu hall hz haps hv) hrun
   ·cases hcomp
  ·rename_i n et hu
   obtain ⟨k,hk,hcomp⟩:=qv hcomp
   obtain ⟨aps,haps,hcomp⟩:=qv hcomp
   cases hcomp
   simp only [qq] at hrun
   exact hpure (fun v hv=>qiC hr ht ho hu hk hz haps hv) hrun
  ·cases hcomp
 ·
  rename_i ty n ps ho
  split at hcomp
  ·rename_i et hu
   obtain ⟨k,hk,hcomp⟩:=qv hcomp
   obtain ⟨z,hz,hcomp⟩:=qv hcomp
   split at hcomp
   ·cases hcomp
   ·rename_i hk0
    obtain ⟨aps,haps,hcomp⟩:=qv hcomp
    cases hcomp
    simp only [qq] at hrun
    obtain ⟨v,hv,he⟩:=qbT hrun
    cases he
    obtain ⟨c,u,h1,h2,h3⟩:=qtL hr ht ho hu hk hk0 hz haps hv
    exact ⟨rfl,qsr hc h1 h2 h3 _,Nat.le_refl _⟩
  ·cases hcomp
 ·
  rename_i ty y ho
  obtain ⟨k,hk,hcomp⟩:=qv hcomp
  obtain ⟨ay,hay,hcomp⟩:=qv hcomp
  cases hcomp
  simp only [qq] at hrun
  obtain ⟨v,hv,he⟩:=qbT hrun
  cases he
  exact ⟨rfl,qzc hc ho hk hay hv _,Nat.le_refl _⟩
 ·
  rename_i ty y z ho
  obtain ⟨k,hk,hcomp⟩:=qv hcomp
  split at hcomp
  ·rename_i hsz
   obtain ⟨ay,hay,hcomp⟩:=qv hcomp
   obtain ⟨az,haz,hcomp⟩:=qv hcomp
   cases hcomp
   simp only [qq] at hrun
   split at hrun
   ·rename_i id q hq
    split at hrun
    ·rename_i cs hcs
     cases k with
     | none=>
      simp only at hrun
      split at hrun
      ·rename_i hh
       cases hrun
       exact ⟨rfl,qu0 (k:=none) hc ho hsz hay haz hq hcs hh.1 hh.2.1 hh.2.2 h.length,by simp⟩
      ·cases hrun
     | some k=>
      simp only at hrun
      split at hrun
      ·rename_i hh
       cases hrun
       exact ⟨rfl,qu0 (k:=some k) hc ho hsz hay haz hq hcs hh.1 hh.2.1 hh.2.2 h.length,by simp⟩
      ·cases hrun
    ·cases hrun
   ·cases hrun
  ·cases hcomp
 ·
  rename_i y ho
  obtain ⟨ay,hy,rfl⟩:=qbT hcomp
  simp only [qq] at hrun
  exact hpure (fun v hv=>qlZ hr ht ho hy hv) hrun
 ·
  rename_i op ty y z yt ho
  split at hcomp
  ·rename_i ay az hay haz
   split at hcomp
   ·rename_i hop
    have hop':op = .eql∨op = .neq:=by cases op <;> simp [qw1] at hop <;> simp
    split at hcomp
    ·rename_i hu
     cases hcomp
     simp only [qq] at hrun
     exact hpure (fun v hv=>qoX hr ht ho hay haz hop' hu hv) hrun
    ·cases hcomp
     simp only [qq] at hrun
     exact hpure (q:=.bin op ay az) (fun v hv=>qgm hr ht ho hay haz (by simpa only [pureV] using hv)) hrun
    ·cases hcomp
     simp only [qq] at hrun
     exact hpure (q:=.bin op ay az) (fun v hv=>qgm hr ht ho hay haz (by simpa only [pureV] using hv)) hrun
    ·rename_i et hu
     split at hcomp
     ·cases hcomp
     ·rename_i hs0
      cases hcomp
      simp only [qq] at hrun
      refine hpure (fun v hv=>qeO hr ht ho hay haz hop' (fun _=>⟨et,hu,?_⟩) (by simp) (by simp) (by simp) hv) hrun
      cases hs:qdv P et with
      | none=>simp [hs] at hs0
      | some n=>exact ⟨n,rfl,by simpa [hs] using hs0⟩
    ·rename_i ms hu
     split at hcomp
     ·rename_i hcc
      cases hcomp
      simp only [qq] at hrun
      exact hpure (fun v hv=>qeO hr ht ho hay haz hop' (by simp) (fun _=>⟨⟨ms,hu⟩,by simpa using hcc⟩) (by simp) (by simp) hv) hrun
     ·cases hcomp
    ·rename_i p1 p2 p3 hu
     cases hcomp
     simp only [qq] at hrun
     exact hpure (fun v hv=>qeO hr ht ho hay haz hop' (by simp) (by simp) (fun _=>⟨p1,p2,p3,hu⟩) (by simp) hv) hrun
    ·rename_i p1 p2 hu
     cases hcomp
     simp only [qq] at hrun
     exact hpure (fun v hv=>qeO hr ht ho hay haz hop' (by simp) (by simp) (by simp) (fun _=>⟨p1,p2,hu⟩) hv) hrun
    ·cases hcomp
   ·cases hcomp
    simp only [qq] at hrun
    exact hpure (q:=.bin op ay az) (fun v hv=>qgm hr ht ho hay haz (by simpa only [pureV] using hv)) hrun
  ·cases hcomp
 ·
  rename_i op ty y ho
  obtain ⟨ay,hy,rfl⟩:=qbT hcomp
  simp only [qq] at hrun
  exact hpure (fun v hv=>qtd hr ht ho hy hv) hrun
 ·
  rename_i s d y ho
  obtain ⟨ay,hay,hcomp⟩:=qv hcomp
  split at hcomp
  ·rename_i j k hs hd
   cases hcomp
   simp only [qq] at hrun
   exact hpure (fun v hv=>qoU hr ht ho hay hs hd hv) hrun
  ·rename_i hs hd
   cases hcomp
   simp only [qq] at hrun
   exact hpure (fun v hv=>qoV hr ht ho hay hs hd hv) hrun
  ·rename_i e0 hs hd
   split at hcomp
   ·rename_i hu8
    cases hcomp
    simp only [qq] at hrun
    obtain ⟨v,hv,he⟩:=qbT hrun
    cases he
    exact ⟨rfl,qn6 hc ho hay hs hd hu8 hv _,Nat.le_refl _⟩
   ·cases hcomp
  ·rename_i e0 hs hd
   split at hcomp
   ·rename_i hu8
    cases hcomp
    simp only [qq] at hrun
    exact hpure (fun v hv=>qoW hr ht ho hay hs hd hu8 hv) hrun
   ·cases hcomp
  ·cases hcomp
 ·
  rename_i ty y ho
  split at hcomp
  ·cases hcomp
  ·cases hcomp
  ·rename_i n1 n2
   obtain ⟨ay,hy,rfl⟩:=qbT hcomp
   simp only [qq] at hrun
   cases hu:P.underlying ty with
   | none=>exact absurd hu n2
   | some d=>exact hpure (fun v hv=>qo4 hr ht ho hy hu (fun ms hms=>n1 ms (by rw [hu,hms])) hv) hrun
 ·
  rename_i f y z ho
  obtain ⟨ay,hay,hcomp⟩:=qv hcomp
  obtain ⟨az,haz,hcomp⟩:=qv hcomp
  cases hcomp
  simp only [qq] at hrun
  exact hpure (fun v hv=>qo3 hr ht ho hay haz hv) hrun
 ·
  rename_i ty y lo hi ho
  split at hcomp
  ·rename_i hu
   obtain ⟨ay,hay,hcomp⟩:=qv hcomp
   obtain ⟨alo,halo,hcomp⟩:=qv hcomp
   obtain ⟨ahi,hahi,hcomp⟩:=qv hcomp
   cases hcomp
   simp only [qq] at hrun
   exact hpure (fun v hv=>ql2 hr ht ho hay halo hahi hu hv) hrun
  ·rename_i et hu
   obtain ⟨k,hk,hcomp⟩:=qv hcomp
   obtain ⟨ay,hay,hcomp⟩:=qv hcomp
   obtain ⟨alo,halo,hcomp⟩:=qv hcomp
   obtain ⟨ahi,hahi,hcomp⟩:=qv hcomp
   cases hcomp
   simp only [qq] at hrun
   exact hpure (fun v hv=>ql1 hr ht ho hay halo hahi hu hk hv) hrun
  ·cases hcomp
 ·
  rename_i s y i ho
  split at hcomp
  ·rename_i fs hu
   split at hcomp
   ·rename_i f hf
    split at hcomp
    ·cases hcomp
    ·rename_i hs0
     obtain ⟨ay,hy,rfl⟩:=qbT hcomp
     simp only [qq] at hrun
     cases hs:qdv P f.type with
     | none=>simp [hs] at hs0
     | some n=>exact hpure (fun v hv=>qtc hr ht ho hy hu hf hs (by simpa [hs] using hs0) hv) hrun
   ·cases hcomp
  ·cases hcomp
 ·
  rename_i s y i ho
  split at hcomp
  ·rename_i fs hu
   split at hcomp
   ·rename_i f hf
    obtain ⟨k,hk,hcomp⟩:=qv hcomp
    obtain ⟨ay,hay,hcomp⟩:=qv hcomp
    cases hcomp
    simp only [qq] at hrun
    exact hpure (fun v hv=>qo0 hr ht ho hay hu hf hk hv) hrun
   ·cases hcomp
  ·cases hcomp
 ·
  rename_i ty y i ho
  split at hcomp
  ·rename_i et hu
   obtain ⟨k,hk,hcomp⟩:=qv hcomp
   obtain ⟨ay,hay,hcomp⟩:=qv hcomp
   obtain ⟨ai,hai,hcomp⟩:=qv hcomp
   cases hcomp
   simp only [qq] at hrun
   exact hpure (fun v hv=>qlU hr ht ho hay hai hu hk hv) hrun
  ·rename_i n et hu
   obtain ⟨k,hk,hcomp⟩:=qv hcomp
   obtain ⟨ay,hay,hcomp⟩:=qv hcomp
   obtain ⟨ai,hai,hcomp⟩:=qv hcomp
   cases hcomp
   simp only [qq] at hrun
   exact hpure (fun v hv=>qlT hr ht ho hay hai hu hk hv) hrun
  ·cases hcomp
 ·
  rename_i ty y i ho
  split at hcomp
  ·rename_i hu
   obtain ⟨ay,hay,hcomp⟩:=qv hcomp
   obtain ⟨ai,hai,hcomp⟩:=qv hcomp
   cases hcomp
   simp only [qq] at hrun
   exact hpure (fun v hv=>qo2 hr ht ho hay hai hu hv) hrun
  ·rename_i n et hu
   obtain ⟨k,hk,hcomp⟩:=qv hcomp
   split at hcomp
   ·rename_i hsz
    obtain ⟨ay,hay,hcomp⟩:=qv hcomp
    obtain ⟨ai,hai,hcomp⟩:=qv hcomp
    cases hcomp
    simp only [qq] at hrun
    exact hpure (fun v hv=>qo1 hr ht ho hay hai hu hk hsz rfl hv) hrun
   ·cases hcomp
  ·cases hcomp
 ·
  rename_i y xt ty ho
  split at hcomp
  ·cases hcomp
  ·cases hcomp
  ·rename_i n1 n2
   obtain ⟨z,hz,hcomp⟩:=qv hcomp
   obtain ⟨ay,hay,hcomp⟩:=qv hcomp
   cases hcomp
   simp only [qq] at hrun
   cases hu:P.underlying ty with
   | none=>exact absurd hu n2
   | some d=>exact hpure (fun v hv=>qo6 hr ht ho hay hu (fun ms hms=>n1 ms (by rw [hu,hms])) hz hv) hrun
 ·
  rename_i y i ho
  obtain ⟨ay,hay,hcomp⟩:=qv hcomp
  cases hcomp
  simp only [qq] at hrun
  exact hpure (fun v hv=>qoZ hr ht ho hay hv) hrun
 ·
  rename_i c ho
  split at hcomp
  ·obtain ⟨af,haf,hcomp⟩:=qv hcomp
   obtain ⟨as,has,hcomp⟩:=qv hcomp
   cases hcomp
   simp [AOp.calls] at hnc
  ·cases hcomp
  ·rename_i b hcal
   split at hcomp
   ·rename_i y ty hargs hty
    split at hcomp
    ·rename_i hu
     obtain ⟨ay,hy,rfl⟩:=qbT hcomp
     simp only [qq] at hrun
     exact hpure (fun v hv=>qlX hr ht ho hcal hargs hty hy hu hv) hrun
    ·rename_i et hu
     obtain ⟨ay,hy,rfl⟩:=qbT hcomp
     simp only [qq] at hrun
     exact hpure (fun v hv=>qlW hr ht ho hcal hargs hty hy hu hv) hrun
    ·rename_i n et hu
     cases hcomp
     simp only [qq] at hrun
     exact hpure (fun v hv=>by
      simp only [pureV,ev,raw,qa.dim,Option.some.injEq] at hv
      subst hv
      exact qlV ho hcal hargs hty hu) hrun
    ·cases hcomp
   ·rename_i y z sT xT hargs hty
    split at hcomp
    ·rename_i et ux hu hux
     split at hcomp
     ·cases hcomp
     ·rename_i hm
      obtain ⟨i,hi,hcomp⟩:=qv hcomp
      obtain ⟨zz,hz,hcomp⟩:=qv hcomp
      split at hcomp
      ·cases hcomp
      ·rename_i hn
       obtain ⟨ay,hay,hcomp⟩:=qv hcomp
       obtain ⟨az,haz,hcomp⟩:=qv hcomp
       cases hcomp
       have hux':(∃e',ux = .slice e')∨ux = .string:=by
        cases ux <;> first | (exact .inl ⟨_,rfl⟩) | exact .inr rfl | (exfalso;exact hm rfl)
       have hok:qyH P gl o i.size ay az:=⟨c,y,z,sT,xT,et,i,ux,zz,ho,hcal,hargs,hty,hu,hux,hux',hi,rfl,by omega,by omega,hz,by omega,hay,haz⟩
       have hx:x = .nor:=by
        simp only [qq] at hrun
        repeat' (split at hrun)
        all_goals first | (cases hrun;rfl) | cases hrun
       subst hx
       obtain ⟨h1,h2,h3⟩:=qwf hc hp hok hrun h.length (Nat.le_refl _)
       exact ⟨rfl,h1,by omega⟩
    ·cases hcomp
   ·rename_i y z tys hargs
    obtain ⟨ay,hay,hcomp⟩:=qv hcomp
    obtain ⟨az,haz,hcomp⟩:=qv hcomp
    cases hcomp
    simp only [qq] at hrun
    exact hpure (fun v hv=>qkV (isMax:=true) hr ht ho hcal hargs hay haz hv) hrun
   ·rename_i y z tys hargs
    obtain ⟨ay,hay,hcomp⟩:=qv hcomp
    obtain ⟨az,haz,hcomp⟩:=qv hcomp
    cases hcomp
    simp only [qq] at hrun
    exact hpure (fun v hv=>qkV (isMax:=false) hr ht ho hcal hargs hay haz hv) hrun
   ·cases hcomp
 ·
  obtain ⟨ay,hy,rfl⟩:=qbT hcomp
  simp [AOp.calls] at hnc
 ·cases hcomp
theorem quZ (hc:Cfg P gl G h t a w) {p:qco} (hp:qbh G w t a p) {o:Oper} {ao:AOp} (hcomp:qcf P gl o = some ao) (hnc:ao.calls = false) {base:Nat} {call:AE.Call} {e:Bool} {x:Ex} {s':St}
  (hrun:qq base call p o.dst ao ⟨t,h,e⟩ = some (x,s')):x = .nor∧Did P gl G w a o h.length s'.h s'.t∧h.length ≤ s'.h.length:=by
 unfold qcf at hcomp
 split at hcomp
 ·rename_i y hy
  cases hcomp
  exact qzb hc hy hrun
 ·exact qwj hc hp hcomp hnc hrun
end
end Go.AE
namespace Go.AE
def qT (base:Nat) (h h':List qf):Prop:=
 h.length ≤ h'.length∧∀(i B:Nat) (bx:qf),i < B→B ≤ base→h[i]? = some bx→bx.lower B = true→∃bx',h'[i]? = some bx'∧bx'.lower B = true
theorem qT.refl (base:Nat) (h:List qf):qT base h h:=⟨Nat.le_refl _,fun i B bx _ _ h1 h2=>⟨bx,h1,h2⟩⟩
theorem qT.trans {base:Nat} {h h' h'':List qf} (k:qT base h h') (k':qT base h' h''):qT base h h'':=
 ⟨Nat.le_trans k.1 k'.1,fun i B bx hi hB h1 h2=>by
  obtain ⟨bx',h3,h4⟩:=k.2 i B bx hi hB h1 h2
  exact k'.2 i B bx' hi hB h3 h4⟩
theorem qT.append (base:Nat) (h g:List qf):qT base h (h ++ g):=
 ⟨by simp,fun i B bx _ _ h1 h2=>⟨bx,by rw [List.getElem?_append_left (List.getElem?_eq_some_iff.1 h1).1];exact h1,h2⟩⟩
theorem qT.set {base id:Nat} {h:List qf} {bx0 bx1:qf} (h0:h[id]? = some bx0) (hl:∀B,id < B→B ≤ base→bx0.lower B = true→bx1.lower B = true):qT base h (h.set id bx1):=by
 refine ⟨by simp,fun i B bx hi hB h1 h2=>?_⟩
 by_cases e:id = i
 ·subst e
  rw [h0] at h1;cases h1
  exact ⟨bx1,List.getElem?_set_self (List.getElem?_eq_some_iff.1 h0).1,hl B hi hB h2⟩
 ·exact ⟨bx,by rw [List.getElem?_set_ne e];exact h1,h2⟩
theorem qT.lower {base b:Nat} {h h':List qf} (k:qT base h h') (hb:b ≤ base):qT b h h':=
 ⟨k.1,fun i B bx hi hB=>k.2 i B bx hi (Nat.le_trans hB hb)⟩
def qav (base:Nat) (s s':St):Prop:=s.h.length ≤ s'.h.length∧(s'.e = false→s.e = false∧qT base s.h s'.h)
theorem qav.refl (base:Nat) (s:St):qav base s s:=⟨Nat.le_refl _,fun h=>⟨h,qT.refl _ _⟩⟩
theorem qav.trans {base:Nat} {s s' s'':St} (k:qav base s s') (k':qav base s' s''):qav base s s'':=
 ⟨Nat.le_trans k.1 k'.1,fun h=>by
  obtain ⟨h1,h2⟩:=k'.2 h
  obtain ⟨h3,h4⟩:=k.2 h1
  exact ⟨h3,h4.trans h2⟩⟩
def qH (call:Call):Prop:=∀fv args h r h' e',call fv args h = some (r,h',e')→h.length ≤ h'.length∧(e' = false→qT h.length h h')
theorem qdZ {n:Nat}:∀{as:List qa} {i:Nat} {a:qa},qy n as = true→as[i]? = some a→a.lower n = true
 | [],i,a,_,h=>by simp at h
 | x :: as,i,a,hl,h=>by
  simp only [qy,Bool.and_eq_true] at hl
  cases i with
  | zero=>simp at h;subst h;exact hl.1
  | succ i=>exact qdZ hl.2 (by simpa using h)
theorem qeT {n:Nat}:∀{as:List qa},(∀a ∈ as,a.lower n = true)→qy n as = true
 | [],_=>rfl
 | x :: as,h=>by simp only [qy,Bool.and_eq_true];exact ⟨h x (by simp),qeT fun a ha=>h a (by simp [ha])⟩
theorem qd0 {n:Nat} {as:List qa} (h:qy n as = true):∀a ∈ as,a.lower n = true:=by
 intro a ha
 obtain ⟨i,hi⟩:=List.getElem?_of_mem ha
 exact qdZ h hi
theorem qeU {n o:Nat} {cs vs:List qa} (h:qy n cs = true) (k:qy n vs = true):qy n (splice cs o vs) = true:=by
 refine qeT fun a ha=>?_
 unfold splice at ha
 rcases List.mem_append.1 ha with ha | ha
 ·rcases List.mem_append.1 ha with ha | ha
  ·exact qd0 h a (List.mem_of_mem_take ha)
  ·exact qd0 k a ha
 ·exact qd0 h a (List.mem_of_mem_drop ha)
theorem qmu {n o:Nat} {cs:List qa} {v:qa} (h:qy n cs = true) (k:v.lower n = true):qy n (cs.set o v) = true:=by
 refine qeT fun a ha=>?_
 rcases List.mem_or_eq_of_mem_set ha with ha | ha
 ·exact qd0 h a ha
 ·subst ha;exact k
theorem qcj {n:Nat} {f:Nat×qa×qa→Nat×qa×qa} (hf:∀x,x.2.1.lower n = true→x.2.2.lower n = true→(f x).2.1.lower n = true∧(f x).2.2.lower n = true):∀{es:List (Nat×qa×qa)} (i:Nat),qa7 n es = true→qa7 n (es.modify i f) = true
 | [],i,h=>by simpa using h
 | y :: es,i,h=>by
  simp only [qa7,Bool.and_eq_true] at h
  cases i with
  | zero=>
   simp only [List.modify_zero_cons,qa7,Bool.and_eq_true]
   exact ⟨hf y h.1.1 h.1.2,h.2⟩
  | succ i=>
   simp only [List.modify_succ_cons,qa7,Bool.and_eq_true]
   exact ⟨h.1,qcj hf i h.2⟩
theorem qdk {n:Nat} {x:Nat×qa×qa} (h1:x.2.1.lower n = true) (h2:x.2.2.lower n = true):∀{es:List (Nat×qa×qa)},qa7 n es = true→qa7 n (es ++ [x]) = true
 | [],_=>by simp [qa7,h1,h2]
 | y :: es,h=>by
  simp only [qa7,Bool.and_eq_true] at h
  simp only [List.cons_append,qa7,Bool.and_eq_true]
  exact ⟨h.1,qdk h1 h2 h.2⟩
theorem qfG {n:Nat}:∀{es:List (Nat×qa×qa)} (i:Nat),qa7 n es = true→qa7 n (es.eraseIdx i) = true
 | [],i,h=>by simpa using h
 | y :: es,i,h=>by
  simp only [qa7,Bool.and_eq_true] at h
  cases i with
  | zero=>exact h.2
  | succ i=>
   simp only [List.eraseIdx_cons_succ,qa7,Bool.and_eq_true]
   exact ⟨h.1,qfG i h.2⟩
theorem qjd {base id B:Nat} {vs:List qa} (h:young base id vs = false) (h1:id < B) (h2:B ≤ base):qy B vs = true:=by
 simp only [young,Bool.not_eq_false',Bool.or_eq_true,Nat.ble_eq] at h
 rcases h with h | h
 ·omega
 ·exact qaL (by omega) vs h
theorem qrb {base id o:Nat} {h h':List qf} {vs:List qa} {e:Bool} (hp:qfY base h id o vs = some (h',e)):h.length ≤ h'.length∧(e = false→qT base h h'):=by
 unfold qfY at hp
 split at hp
 ·rename_i cs hid
  split at hp
  ·cases hp
   refine ⟨by simp,fun he=>qT.set hid fun B hB hBb hl=>?_⟩
   simp only [qf.lower] at hl ⊢
   exact qeU hl (qjd he hB hBb)
  ·cases hp
 ·cases hp
theorem qiI {base k:Nat} {x y:qa} {h:List qf} {r:qa×List qf×Bool} (hr:qkX base k x y h = some r):h.length ≤ r.2.1.length∧(r.2.2 = false→qT base h r.2.1):=by
 unfold qkX at hr
 split at hr
 ·cases hr
 ·split at hr
  ·cases hr
  ·split at hr
   ·split at hr
    ·cases hr;exact ⟨Nat.le_refl _,fun _=>qT.refl _ _⟩
    ·split at hr
     ·split at hr
      ·cases hr;exact ⟨by simp,fun _=>qT.append _ _ _⟩
      ·cases hr
     ·cases hr
   ·split at hr
    ·cases hr;exact ⟨Nat.le_refl _,fun _=>qT.refl _ _⟩
    ·split at hr
     ·split at hr
      ·split at hr
       ·rename_i hp
        cases hr
        exact qrb hp
       ·cases hr
      ·split at hr
       ·rename_i hid
        split at hr
        ·cases hr;exact ⟨by simp,fun _=>qT.append _ _ _⟩
        ·split at hr
         ·cases hr
          exact ⟨by simp,fun _=>(qT.set hid fun _ _ _ _=>rfl).trans (qT.append _ _ _)⟩
         ·cases hr
       ·cases hr
     ·cases hr
   ·split at hr
    ·cases hr;exact ⟨Nat.le_refl _,fun _=>qT.refl _ _⟩
    ·split at hr
     ·cases hr;exact ⟨by simp,fun _=>qT.append _ _ _⟩
     ·cases hr
   ·cases hr
theorem qoP {base:Nat} {h:List qf} {x:qa} {r:qa×List qf} (hr:frz h x = some r):qT base h r.2:=by
 unfold frz at hr
 split at hr
 ·split at hr
  ·rename_i hid
   split at hr
   ·cases hr;exact qT.set hid fun _ _ _ _=>rfl
   ·cases hr
  ·cases hr
 ·cases hr
theorem qdW {base:Nat}:∀(cs:List qa) (h:List qf),qT base h (qvb cs h).2
 | [],h=>qT.refl _ _
 | x :: xs,h=>by
  unfold qvb
  split
  ·rename_i hf
   exact (qoP hf).trans (qdW xs _)
  ·exact qdW xs h
theorem qo9 {base:Nat} {o:HOp} {as:List qa} {h:List qf} {r:qa×List qf×Bool} (hr:hop base o as h = some r):h.length ≤ r.2.1.length∧(r.2.2 = false→qT base h r.2.1):=by
 have map:∀{id:Nat} {es es':List (Nat×qa×qa)} {c c':Nat} {vs:List qa},h[id]? = some (.map es c)→(∀B,qy B vs = true→qa7 B es = true→qa7 B es' = true)→
   h.length ≤ (h.set id (.map es' c')).length∧(young base id vs = false→qT base h (h.set id (.map es' c'))):=by
  intro id es es' c c' vs hid hl
  refine ⟨by simp,fun he=>qT.set hid fun B hB hBb hlow=>?_⟩
  simp only [qf.lower] at hlow ⊢
  exact hl B (qjd he hB hBb) hlow
 unfold hop at hr
 split at hr
 ·split at hr
  ·cases hr;exact ⟨by simp,fun _=>qT.append _ _ _⟩
  ·cases hr
 ·split at hr
  ·split at hr
   ·cases hr;exact ⟨by simp,fun _=>qT.append _ _ _⟩
   ·cases hr
  ·cases hr
 ·exact qiI hr
 ·split at hr
  ·split at hr
   ·split at hr
    ·split at hr
     ·cases hr;exact ⟨Nat.le_refl _,fun _=>qT.refl _ _⟩
     ·split at hr
      ·cases hr;exact ⟨Nat.le_refl _,fun _=>qT.refl _ _⟩
      ·cases hr
    ·cases hr
   ·split at hr
    ·split at hr
     ·cases hr;exact ⟨Nat.le_refl _,fun _=>qT.refl _ _⟩
     ·cases hr;exact ⟨Nat.le_refl _,fun _=>qT.refl _ _⟩
    ·cases hr
   ·cases hr
  ·cases hr
 ·cases hr;exact ⟨by simp,fun _=>qT.append _ _ _⟩
 ·split at hr
  ·rename_i hid
   split at hr
   ·cases hr
    refine map hid fun B hB hl=>qcj (fun x _ _=>?_) _ hl
    simpa [qy] using hB
   ·cases hr
    refine map hid fun B hB hl=>?_
    simp only [qy,Bool.and_eq_true,and_true] at hB
    exact qdk hB.1 hB.2 hl
   ·cases hr
  ·cases hr
 ·split at hr
  ·rename_i hid
   split at hr
   ·split at hr
    ·cases hr
     refine map hid fun B hB hl=>qcj (fun x _ h2=>?_) _ hl
     simp only [qy,Bool.and_eq_true,and_true] at hB
     exact ⟨hB,h2⟩
    ·cases hr
   ·cases hr
    refine map hid fun B hB hl=>?_
    simp only [qy,Bool.and_eq_true,and_true] at hB
    exact qdk hB.1 hB.2 hl
   ·cases hr
  ·cases hr
 ·split at hr
  ·rename_i hid
   split at hr
   ·cases hr
    refine map hid fun B hB hl=>qcj (fun x h1 _=>?_) _ hl
    simp only [qy,Bool.and_eq_true,and_true] at hB
    exact ⟨h1,hB⟩
   ·cases hr
  ·cases hr
 ·split at hr
  ·cases hr;exact ⟨Nat.le_refl _,fun _=>qT.refl _ _⟩
  ·split at hr
   ·cases hr;exact ⟨Nat.le_refl _,fun _=>qT.refl _ _⟩
   ·cases hr
  ·cases hr
 ·cases hr;exact ⟨by simp,fun _=>qT.append _ _ _⟩
 ·split at hr
  ·split at hr
   ·cases hr;exact ⟨Nat.le_refl _,fun _=>qT.refl _ _⟩
   ·cases hr
  ·split at hr
   ·rename_i hid
    split at hr
    ·cases hr
     refine ⟨by simp,fun _=>qT.set hid fun B _ _ hl=>?_⟩
     simp only [qf.lower] at hl ⊢
     exact qfG _ hl
    ·cases hr
     exact ⟨by simp,fun _=>qT.set hid fun B _ _ hl=>hl⟩
    ·cases hr
   ·cases hr
  ·cases hr
 ·split at hr
  ·cases hr;exact ⟨by simp,fun _=>qT.append _ _ _⟩
  ·split at hr
   ·cases hr;exact ⟨by simp,fun _=>qT.append _ _ _⟩
   ·cases hr
  ·cases hr
 ·split at hr
  ·cases hr;exact ⟨Nat.le_refl _,fun _=>qT.refl _ _⟩
  ·rename_i hit
   split at hr
   ·split at hr
    ·cases hr
    ·split at hr
     ·cases hr;exact ⟨Nat.le_refl _,fun _=>qT.refl _ _⟩
     ·split at hr
      ·cases hr
       exact ⟨by simp,fun _=>qT.set hit fun B _ _ hl=>hl⟩
      ·cases hr
     ·cases hr
   ·cases hr
  ·cases hr
 ·split at hr
  ·split at hr
   ·split at hr
    ·split at hr
     ·cases hr;exact ⟨Nat.le_refl _,fun _=>qT.refl _ _⟩
     ·cases hr
    ·cases hr
   ·cases hr
  ·cases hr
 ·obtain ⟨v,_,hv⟩:=qbT hr
  cases hv
  unfold qC5
  split
  ·exact ⟨(qdW (base:=base) _ _).1,fun _=>qdW _ _⟩
  ·exact ⟨Nat.le_refl _,fun _=>qT.refl _ _⟩
 ·cases hr;exact ⟨by simp,fun _=>qT.append _ _ _⟩
 ·cases hr
section
variable {base:Nat} {call:Call}
theorem qkx {k:Nat} {p:qco} {x:qk} {s s':St} {xs:List qa} (h:qdR k p x s = some (xs,s')):qav base s s':=by
 unfold qdR at h
 split at h
 ·cases h
 ·split at h
  ·split at h
   ·cases h;exact ⟨Nat.le_refl _,fun h=>⟨h,qT.refl _ _⟩⟩
   ·cases h
  ·split at h
   ·split at h
    ·split at h
     ·cases h;exact ⟨Nat.le_refl _,fun h=>⟨h,qT.refl _ _⟩⟩
     ·cases h
    ·cases h
   ·split at h
    ·split at h
     ·rename_i cs hid
      split at h
      ·rename_i ys j ho
       split at h
       ·cases h
        refine ⟨by simp,fun he=>⟨he,qT.set hid fun B _ _ hl=>?_⟩⟩
        simp only [qf.lower] at hl ⊢
        have:=qdZ hl ho
        simp only [qa.lower] at this
        exact qmu hl (by simpa [qa.lower] using this)
       ·cases h
      ·cases h
     ·cases h
    ·cases h
   ·cases h
theorem qb2 (hc:qH call) {p:qco} {dst:Option Nat} {o:AOp} {s s':St} {x:Ex} (hb:base ≤ s.h.length) (h:qq base call p dst o s = some (x,s')):qav base s s':=by
 have hpure:∀{q:Option qa},q.map (fun v=>(Ex.nor,({ s with t:=put dst v s.t}:St))) = some (x,s')→qav base s s':=by
  intro q hm
  obtain ⟨v,_,he⟩:=qbT hm
  cases he
  exact ⟨Nat.le_refl _,fun h=>⟨h,qT.refl _ _⟩⟩
 cases o <;> simp only [qq] at h <;> first
  | exact hpure h
  | skip
 case asg y=>cases h;exact ⟨Nat.le_refl _,fun h=>⟨h,qT.refl _ _⟩⟩
 case new cs=>cases h;exact ⟨by simp,fun h=>⟨h,qT.append _ _ _⟩⟩
 case box k y=>
  split at h
  ·cases h;exact ⟨by simp,fun h=>⟨h,qT.append _ _ _⟩⟩
  ·cases h
 case st k y z=>
  split at h
  ·rename_i id q hq
   split at h
   ·rename_i cs hcs
    have key:∀(vs:List qa) (s1:St),s1.h = s.h.set id (.cells (splice cs q vs))→s1.e = (s.e || !(Nat.ble base id || qy (id + 1) vs))→qav base s s1:=by
     intro vs s1 e1 e2
     refine ⟨by rw [e1];simp,fun he=>?_⟩
     rw [e2] at he
     simp only [Bool.or_eq_false_iff,Bool.not_eq_false',Bool.or_eq_true,Nat.ble_eq] at he
     refine ⟨he.1,?_⟩
     rw [e1]
     refine qT.set hcs fun B hB hBb hl=>?_
     simp only [qf.lower] at hl ⊢
     rcases he.2 with h1 | h1
     ·omega
     ·exact qeU hl (qaL (by omega) vs h1)
    cases k with
    | none=>
     simp only at h
     split at h
     ·cases h;exact key _ _ rfl rfl
     ·cases h
    | some k=>
     simp only at h
     split at h
     ·cases h;exact key _ _ rfl rfl
     ·cases h
   ·cases h
  ·cases h
 case call f args=>
  split at h
  ·rename_i v hh e he
   cases h
   obtain ⟨h1,h2⟩:=hc _ _ _ _ _ _ he
   refine ⟨h1,fun hf=>?_⟩
   simp only [Bool.or_eq_false_iff] at hf
   exact ⟨hf.1,(h2 hf.2).lower hb⟩
  ·rename_i v hh e he
   cases h
   obtain ⟨h1,h2⟩:=hc _ _ _ _ _ _ he
   refine ⟨h1,fun hf=>?_⟩
   simp only [Bool.or_eq_false_iff] at hf
   exact ⟨hf.1,(h2 hf.2).lower hb⟩
  ·cases h
 case app k y z=>
  split at h
  ·split at h
   ·cases h;exact ⟨Nat.le_refl _,fun h=>⟨h,qT.refl _ _⟩⟩
   ·split at h
    ·split at h
     ·cases h;exact ⟨Nat.le_refl _,fun h=>⟨h,qT.refl _ _⟩⟩
     ·split at h
      ·rename_i xs2 s2 htk
       split at h
       ·cases h
        have:=qkx (base:=base) htk
        exact ⟨this.1,this.2⟩
       ·cases h
      ·cases h
    ·cases h
  ·cases h
 case pan y=>
  split at h
  ·cases h;exact qav.refl _ _
  ·cases h
 case hx o as=>
  obtain ⟨r,hr,he⟩:=qbT h
  cases he
  obtain ⟨h1,h2⟩:=qo9 hr
  refine ⟨h1,fun hf=>?_⟩
  simp only [Bool.or_eq_false_iff] at hf
  exact ⟨hf.1,h2 hf.2⟩
theorem qcN (hc:qH call):∀(ops:List qY) (p:qco) (s s':St) (x:Ex),base ≤ s.h.length→qaK base call p ops s = some (x,s')→qav base s s'
 | [],p,s,s',x,_,h=>by simp only [qaK] at h;cases h;exact qav.refl _ _
 | o :: os,p,s,s',x,hb,h=>by
  simp only [qaK] at h
  split at h
  ·split at h
   ·rename_i s1 h1
    have k1:=qb2 (base:=base) hc hb h1
    exact k1.trans (qcN hc os _ s1 s' x (Nat.le_trans hb k1.1) h)
   ·exact qb2 hc hb h
  ·have k1:qav base s { s with t:=put o.dst (.tup []) s.t}:=⟨Nat.le_refl _,fun h=>⟨h,qT.refl _ _⟩⟩
   exact k1.trans (qcN hc os _ _ s' x hb h)
  ·cases h
theorem qbs (hc:qH call) (dsts:List Nat):∀(ops:List qN) (pend:List (Nat×Chk)) (s s':St) (x:Ex),base ≤ s.h.length→qK base call dsts ops pend s = some (x,s')→qav base s s'
 | [],pend,s,s',x,_,h=>by simp only [qK] at h;cases h;exact qav.refl _ _
 | d :: ds,pend,s,s',x,hb,h=>by
  simp only [qK] at h
  split at h
  ·split at h
   ·rename_i s1 h1
    have k1:=qb2 (base:=base) hc hb h1
    split at h
    ·split at h
     ·exact k1.trans (qbs hc dsts ds _ s1 s' x (Nat.le_trans hb k1.1) h)
     ·cases h
    ·split at h
     ·exact k1.trans (qbs hc dsts ds _ s1 s' x (Nat.le_trans hb k1.1) h)
     ·exact k1.trans (qbs hc dsts ds _ s1 s' x (Nat.le_trans hb k1.1) h)
   ·rename_i v s1 h1
    have k1:=qb2 (base:=base) hc hb h1
    split at h
    ·cases h;exact ⟨k1.1,k1.2⟩
    ·cases h
   ·cases h
  ·have k1:qav base s { s with t:=put d.o.dst (.tup []) s.t}:=⟨Nat.le_refl _,fun h=>⟨h,qT.refl _ _⟩⟩
   exact k1.trans (qbs hc dsts ds _ _ s' x hb h)
  ·cases h
theorem qg6 {f:St→Option (Ex×St)} (hf:∀s s' x,base ≤ s.h.length→f s = some (x,s')→qav base s s'):∀(n:Nat) (s s':St) (x:Ex),base ≤ s.h.length→iter f n s = some (x,s')→qav base s s'
 | 0,s,s',x,_,h=>by simp [iter] at h
 | n + 1,s,s',x,hb,h=>by
  simp only [iter] at h
  split at h
  ·rename_i s1 h1
   have k1:=hf s s1 _ hb h1
   exact k1.trans (qg6 hf n s1 s' x (Nat.le_trans hb k1.1) h)
  ·exact hf s s' x hb h
theorem qJ (hc:qH call) (n:Nat):∀(c:qG) (s s':St) (x:Ex),base ≤ s.h.length→qaV n base call c s = some (x,s')→qav base s s'
 | .skip,s,s',x,_,h=>by simp only [qaV] at h;cases h;exact qav.refl _ _
 | .reg ops,s,s',x,hb,h=>qcN hc ops _ s s' x hb (by simpa only [qaV] using h)
 | .draw ops,s,s',x,hb,h=>qbs hc _ ops _ s s' x hb (by simpa only [qaV] using h)
 | .draw2 c a b r,s,s',x,hb,h=>by
  simp only [qaV] at h
  obtain ⟨_,h1,_⟩:=qnB h
  exact qbs hc _ _ _ s s' _ hb h1
 | .seq a b,s,s',x,hb,h=>by
  simp only [qaV] at h
  split at h
  ·rename_i s1 h1
   have k1:=qJ hc n a s s1 _ hb h1
   exact k1.trans (qJ hc n b s1 s' x (Nat.le_trans hb k1.1) h)
  ·exact qJ hc n a s s' x hb h
 | .cond c a b,s,s',x,hb,h=>by
  simp only [qaV] at h
  split at h
  ·exact qJ hc n a s s' x hb h
  ·exact qJ hc n b s s' x hb h
  ·cases h
 | .block id b,s,s',x,hb,h=>by
  simp only [qaV] at h
  split at h
  ·rename_i j s1 h1
   have k1:=qJ hc n b s s1 _ hb h1
   split at h
   ·cases h;exact k1
   ·cases h;exact k1
  ·exact qJ hc n b s s' x hb h
 | .loop b,s,s',x,hb,h=>qg6 (fun s s' x hb h=>qJ hc n b s s' x hb h) n s s' x hb (by simpa only [qaV] using h)
 | .exit id,s,s',x,_,h=>by simp only [qaV] at h;cases h;exact qav.refl _ _
 | .ret,s,s',x,_,h=>by simp only [qaV] at h;cases h;exact qav.refl _ _
 | .rfun f ps asg body,s,s',x,hb,h=>by
  simp only [qaV] at h
  split at h
  ·rename_i g first cap hf
   split at h
   ·rename_i v hh e he
    obtain ⟨h1,h2⟩:=hc _ _ _ _ _ _ he
    split at h
    ·rename_i t ps' asg' body' st pend hl
     split at h
     ·cases h
     ·have key:∀s1:St,s1.h = hh.set s.h.length (.loop t ps' asg' body' .exhausted pend)→s1.e = (s.e || e)→qav base s s1:=by
       intro s1 e1 e2
       refine ⟨by rw [e1];simp at h1 ⊢;omega,fun hf=>?_⟩
       rw [e2] at hf
       simp only [Bool.or_eq_false_iff] at hf
       refine ⟨hf.1,?_⟩
       rw [e1]
       refine ((qT.append base s.h _).trans ((h2 hf.2).lower (by simp;omega))).trans (qT.set hl fun B _ _ hlow=>?_)
       exact hlow
      split at h
      ·cases h;exact key _ rfl rfl
      ·cases h;exact key _ rfl rfl
      ·cases h;exact key _ rfl rfl
    ·cases h
   ·rename_i v hh e he
    obtain ⟨h1,h2⟩:=hc _ _ _ _ _ _ he
    cases h
    refine ⟨by simp at h1 ⊢;omega,fun hf=>?_⟩
    simp only [Bool.or_eq_false_iff] at hf
    exact ⟨hf.1,(qT.append base s.h _).trans ((h2 hf.2).lower (by simp;omega))⟩
   ·cases h
  ·cases h
theorem qbG {r:qcD} {h h':List qf} {e:Bool} (hk:h.length ≤ h'.length∧(e = false→qT h.length h h')) :
  h.length ≤ (qaQ h.length r h' e).2.1.length∧((qaQ h.length r h' e).2.2 = false→qT h.length h (qaQ h.length r h' e).2.1):=by
 cases r <;> unfold qaQ <;> simp only <;> split
 all_goals first
  | exact hk
  | skip
 all_goals
  rename_i hh
  refine ⟨by simp;omega,fun he=>⟨by simp;omega,fun i B bx hi hB h1 h2=>?_⟩⟩
  obtain ⟨bx',h3,h4⟩:=(hk.2 he).2 i B bx hi hB h1 h2
  exact ⟨bx',by simp only;rw [List.getElem?_take_of_lt (by omega)];exact h3,h4⟩
end
theorem qkm {n:Nat} {call:Call} (hc:qH call) {l:Nat} {args:List qa} {h:List qf} {r:qcD} {h':List qf} {e':Bool} (hr:round n call l args h = some (r,h',e')) :
  h.length ≤ h'.length∧(e' = false→qT h.length h h'):=by
 unfold round at hr
 split at hr
 ·rename_i t ps asg body _ _ hl
  split at hr
  ·cases hr
  ·simp only at hr
   split at hr
   ·rename_i s1 h1
    have k1:=qJ (base:=h.length) hc n asg _ s1 _ (Nat.le_refl _) h1
    split at hr
    ·rename_i t1 ps1 asg1 body1 pend hl1
     have kk:qav h.length s1 { s1 with h:=s1.h.set l (.loop t1 ps1 asg1 body1 .busy pend)}:=⟨by simp,fun he=>⟨he,qT.set hl1 fun B _ _ hlow=>hlow⟩⟩
     split at hr
     ·rename_i x s2 h2
      have k2:=qJ (base:=h.length) hc n body _ s2 _ (by simpa using k1.1) h2
      have k12:=k1.trans (kk.trans k2)
      split at hr
      ·rename_i t2 ps2 asg2 body2 st2 pend2 hl2
       have key:∀st pend r0,qaQ h.length r0 (s2.h.set l (.loop t2 ps2 asg2 body2 st pend)) s2.e = (r,h',e')→h.length ≤ h'.length∧(e' = false→qT h.length h h'):=by
        intro st pend r0 hq
        have:=qbG (r:=r0) (h:=h) (h':=s2.h.set l (.loop t2 ps2 asg2 body2 st pend)) (e:=s2.e)
         ⟨by simpa using k12.1,fun he=>(k12.2 he).2.trans (qT.set hl2 fun B _ _ hlow=>hlow)⟩
        rw [hq] at this
        exact this
       split at hr
       ·exact key _ _ _ (Option.some.inj hr)
       ·exact key _ _ _ (Option.some.inj hr)
       ·exact key _ _ _ (Option.some.inj hr)
       ·cases hr
      ·cases hr
     ·cases hr
    ·cases hr
   ·cases hr
 ·cases hr
theorem qeY {F:FuncId→Option qE} {X:qf3} (hX:∀f g,X f = some g→∀call,qH call→qH fun _ as h=>g call as h):∀n,qH (run F X n)
 | 0=>fun fv args h r h' e' hr=>by simp [run] at hr
 | n + 1=>fun fv args h r h' e' hr=>by
  have ih:=qeY (F:=F) hX n
  simp only [run] at hr
  split at hr
  ·rename_i f first cap
   split at hr
   ·rename_i g hg
    exact hX f g hg _ ih (.fn f first cap) _ h r h' e' hr
   ·split at hr
    ·cases hr
    ·rename_i fn hfn
     split at hr
     ·rename_i s h1
      have k:=qJ (base:=h.length) ih n fn.code _ s _ (Nat.le_refl _) h1
      split at hr
      ·rename_i vs hvs
       have:=qbG (r:=.ret (qbR vs)) (h:=h) ⟨k.1,fun he=>(k.2 he).2⟩
       rw [Option.some.inj hr] at this
       exact this
      ·cases hr
     ·rename_i s h1
      have k:=qJ (base:=h.length) ih n fn.code _ s _ (Nat.le_refl _) h1
      split at hr
      ·rename_i vs hvs
       have:=qbG (r:=.ret (qbR vs)) (h:=h) ⟨k.1,fun he=>(k.2 he).2⟩
       rw [Option.some.inj hr] at this
       exact this
      ·cases hr
     ·rename_i v s h1
      have k:=qJ (base:=h.length) ih n fn.code _ s _ (Nat.le_refl _) h1
      have:=qbG (r:=.pan v) (h:=h) ⟨k.1,fun he=>(k.2 he).2⟩
      rw [Option.some.inj hr] at this
      exact this
     ·cases hr
  ·exact qkm ih hr
  ·cases hr
end Go.AE
namespace Go.AE
section
variable {P:Program} {gl:Nat→Option (List qa)}
def Was (P:Program) (gl:Nat→Option (List qa)) (o:Oper) (ao:AOp):Prop:=
 (∀i,ao = .mov (.t i)→o.op = .move (.tmp i))∧(∀q,ao = .ld none q→∃ty y,o.op = .load ty y∧opd gl y = some q∧tyk P ty = some none)∧(qnn o→ao.acts = true)∧
 (∀f as,ao = .call f as→∃c fo,o.op = .call c∧c.callee = .value fo∧opd gl fo = some f∧qrV gl c.args = some as)∧(∀x,ao = .pan x→∃xo,o.op = .panic xo∧opd gl xo = some x)∧
 (∀cs,ao = .new cs→∃e z,o.op = .alloc e∧qbv P e = some z∧cs = z.cells)∧(∀k y,ao = .box k y→∃e x,o.op = .box e x∧opd gl x = some y)
theorem qB {o:Oper} {ao:AOp}
  (h1:∀i,ao = .mov (.t i)→o.op = .move (.tmp i):=by intro i hh;first | (cases hh;done) | (cases hh;rw [ho,qgB hy]))
  (h2:∀q,ao = .ld none q→∃ty y,o.op = .load ty y∧opd gl y = some q∧tyk P ty = some none:=by intro q hh;first | (cases hh;done) | (cases hh;exact ⟨_,_,ho,hay,hk⟩))
  (h3:qnn o→ao.acts = true:=by
   intro hh
   first
   | rfl
   | (rcases hh with ⟨_,_,_,hh⟩ | ⟨_,hh,hh2⟩ <;> rw [ho] at hh <;> cases hh;done)
   | (rcases hh with ⟨_,_,_,hh⟩ | ⟨_,hh,hh2⟩
      ·rw [ho] at hh;cases hh
      ·rw [ho] at hh;cases hh;rw [hcal] at hh2;cases hh2))
  (h4:∀f as,ao = .call f as→∃c fo,o.op = .call c∧c.callee = .value fo∧opd gl fo = some f∧qrV gl c.args = some as:=by intro f as hh;first | (cases hh;done) | (cases hh;exact ⟨_,_,ho,‹_›,haf,has⟩))
  (h5:∀x,ao = .pan x→∃xo,o.op = .panic xo∧opd gl xo = some x:=by intro x hh;first | (cases hh;done) | (cases hh;exact ⟨_,ho,hy⟩))
  (h6:∀cs,ao = .new cs→∃e z,o.op = .alloc e∧qbv P e = some z∧cs = z.cells:=by intro cs hh;first | (cases hh;done) | (cases hh;exact ⟨_,_,ho,hz,rfl⟩))
  (h7:∀k y,ao = .box k y→∃e x,o.op = .box e x∧opd gl x = some y:=by intro k y hh;first | (cases hh;done) | (cases hh;exact ⟨_,_,ho,hay⟩)):Was P gl o ao:=⟨h1,h2,h3,h4,h5,h6,h7⟩
set_option maxHeartbeats 1000000 in
theorem qnV {o:Oper} {ao:AOp} (hcomp:qel P gl o = some ao):Was P gl o ao:=by
 unfold qel at hcomp
 split at hcomp
 ·
  rename_i y ho
  obtain ⟨ay,hy,rfl⟩:=qbT hcomp
  exact qB
 ·
  rename_i y ho
  obtain ⟨ay,hy,rfl⟩:=qbT hcomp
  exact qB
 ·
  rename_i c y z ho
  obtain ⟨ac,hac,hcomp⟩:=qv hcomp
  obtain ⟨ay,hay,hcomp⟩:=qv hcomp
  obtain ⟨az,haz,hcomp⟩:=qv hcomp
  cases hcomp
  exact qB
 ·
  rename_i et ho
  obtain ⟨z,hz,hcomp⟩:=qv hcomp
  cases hcomp
  exact qB
 ·
  rename_i et y ho
  obtain ⟨k,hk,hcomp⟩:=qv hcomp
  obtain ⟨ay,hay,hcomp⟩:=qv hcomp
  cases hcomp
  exact qB
 ·
  rename_i ty ps ho
  obtain ⟨z,hz,hcomp⟩:=qv hcomp
  split at hcomp
  ·rename_i fs hu
   split at hcomp
   ·rename_i hall
    obtain ⟨aps,haps,hcomp⟩:=qv hcomp
    cases hcomp
    exact qB
   ·cases hcomp
  ·rename_i n et hu
   obtain ⟨k,hk,hcomp⟩:=qv hcomp
   obtain ⟨aps,haps,hcomp⟩:=qv hcomp
   cases hcomp
   exact qB
  ·cases hcomp
 ·
  rename_i ty n ps ho
  split at hcomp
  ·rename_i et hu
   obtain ⟨k,hk,hcomp⟩:=qv hcomp
   obtain ⟨z,hz,hcomp⟩:=qv hcomp
   split at hcomp
   ·cases hcomp
   ·rename_i hk0
    obtain ⟨aps,haps,hcomp⟩:=qv hcomp
    cases hcomp
    exact qB
  ·cases hcomp
 ·
  rename_i ty y ho
  obtain ⟨k,hk,hcomp⟩:=qv hcomp
  obtain ⟨ay,hay,hcomp⟩:=qv hcomp
  cases hcomp
  exact qB
 ·
  rename_i ty y z ho
  obtain ⟨k,hk,hcomp⟩:=qv hcomp
  split at hcomp
  ·rename_i hsz
   obtain ⟨ay,hay,hcomp⟩:=qv hcomp
   obtain ⟨az,haz,hcomp⟩:=qv hcomp
   cases hcomp
   exact qB
  ·cases hcomp
 ·
  rename_i y ho
  obtain ⟨ay,hy,rfl⟩:=qbT hcomp
  exact qB
 ·
  rename_i op ty y z yt ho
  split at hcomp
  ·rename_i ay az hay haz
   split at hcomp
   ·rename_i hop
    have hop':op = .eql∨op = .neq:=by cases op <;> simp [qw1] at hop <;> simp
    split at hcomp
    ·rename_i hu
     cases hcomp
     exact qB
    ·cases hcomp
     exact qB
    ·cases hcomp
     exact qB
    ·rename_i et hu
     split at hcomp
     ·cases hcomp
     ·rename_i hs0
      cases hcomp
      exact qB
    ·rename_i ms hu
     split at hcomp
     ·rename_i hcc
      cases hcomp
      exact qB
     ·cases hcomp
    ·rename_i p1 p2 p3 hu
     cases hcomp
     exact qB
    ·rename_i p1 p2 hu
     cases hcomp
     exact qB
    ·cases hcomp
   ·cases hcomp
    exact qB
  ·cases hcomp
 ·
  rename_i op ty y ho
  obtain ⟨ay,hy,rfl⟩:=qbT hcomp
  exact qB
 ·
  rename_i s d y ho
  obtain ⟨ay,hay,hcomp⟩:=qv hcomp
  split at hcomp
  ·rename_i j k hs hd
   cases hcomp
   exact qB
  ·rename_i hs hd
   cases hcomp
   exact qB
  ·rename_i e0 hs hd
   split at hcomp
   ·rename_i hu8
    cases hcomp
    exact qB
   ·cases hcomp
  ·rename_i e0 hs hd
   split at hcomp
   ·rename_i hu8
    cases hcomp
    refine ⟨fun i hh=>?_,fun q hh=>?_,fun hh=>?_,fun f as hh=>?_,fun x hh=>?_,fun cs hh=>?_,fun k y hh=>?_⟩
    ·first | (cases hh;done) | (cases hh;rw [ho,qgB hy])
    ·first | (cases hh;done) | (cases hh;exact ⟨_,_,ho,hay,hk⟩)
    ·first
     | rfl
     | (rcases hh with ⟨_,_,_,hh⟩ | ⟨_,hh,hh2⟩ <;> rw [ho] at hh <;> cases hh;done)
     | (rcases hh with ⟨_,_,_,hh⟩ | ⟨_,hh,hh2⟩
        ·rw [ho] at hh;cases hh
        ·rw [ho] at hh;cases hh;rw [hcal] at hh2;cases hh2)
    ·first | (cases hh;done) | (cases hh;exact ⟨_,_,ho,‹_›,haf,has⟩)
    ·first | (cases hh;done) | (cases hh;exact ⟨_,ho,hy⟩)
    ·first | (cases hh;done) | (cases hh;exact ⟨_,_,ho,hz,rfl⟩)
    ·first | (cases hh;done) | (cases hh;exact ⟨_,_,ho,hay⟩)
   ·cases hcomp
  ·cases hcomp
 ·
  rename_i ty y ho
  split at hcomp
  ·cases hcomp
  ·cases hcomp
  ·rename_i n1 n2
   obtain ⟨ay,hy,rfl⟩:=qbT hcomp
   exact qB
 ·
  rename_i f y z ho
  obtain ⟨ay,hay,hcomp⟩:=qv hcomp
  obtain ⟨az,haz,hcomp⟩:=qv hcomp
  cases hcomp
  exact qB
 ·
  rename_i ty y lo hi ho
  split at hcomp
  ·rename_i hu
   obtain ⟨ay,hay,hcomp⟩:=qv hcomp
   obtain ⟨alo,halo,hcomp⟩:=qv hcomp
   obtain ⟨ahi,hahi,hcomp⟩:=qv hcomp
   cases hcomp
   exact qB
  ·rename_i et hu
   obtain ⟨k,hk,hcomp⟩:=qv hcomp
   obtain ⟨ay,hay,hcomp⟩:=qv hcomp
   obtain ⟨alo,halo,hcomp⟩:=qv hcomp
   obtain ⟨ahi,hahi,hcomp⟩:=qv hcomp
   cases hcomp
   exact qB
  ·cases hcomp
 ·
  rename_i s y i ho
  split at hcomp
  ·rename_i fs hu
   split at hcomp
   ·rename_i f hf
    split at hcomp
    ·cases hcomp
    ·rename_i hs0
     obtain ⟨ay,hy,rfl⟩:=qbT hcomp
     exact qB
   ·cases hcomp
  ·cases hcomp
 ·
  rename_i s y i ho
  split at hcomp
  ·rename_i fs hu
   split at hcomp
   ·rename_i f hf
    obtain ⟨k,hk,hcomp⟩:=qv hcomp
    obtain ⟨ay,hay,hcomp⟩:=qv hcomp
    cases hcomp
    exact qB
   ·cases hcomp
  ·cases hcomp
 ·
  rename_i ty y i ho
  split at hcomp
  ·rename_i et hu
   obtain ⟨k,hk,hcomp⟩:=qv hcomp
   obtain ⟨ay,hay,hcomp⟩:=qv hcomp
   obtain ⟨ai,hai,hcomp⟩:=qv hcomp
   cases hcomp
   exact qB
  ·rename_i n et hu
   obtain ⟨k,hk,hcomp⟩:=qv hcomp
   obtain ⟨ay,hay,hcomp⟩:=qv hcomp
   obtain ⟨ai,hai,hcomp⟩:=qv hcomp
   cases hcomp
   exact qB
  ·cases hcomp
 ·
  rename_i ty y i ho
  split at hcomp
  ·rename_i hu
   obtain ⟨ay,hay,hcomp⟩:=qv hcomp
   obtain ⟨ai,hai,hcomp⟩:=qv hcomp
   cases hcomp
   exact qB
  ·rename_i n et hu
   obtain ⟨k,hk,hcomp⟩:=qv hcomp
   split at hcomp
   ·rename_i hsz
    obtain ⟨ay,hay,hcomp⟩:=qv hcomp
    obtain ⟨ai,hai,hcomp⟩:=qv hcomp
    cases hcomp
    exact qB
   ·cases hcomp
  ·cases hcomp
 ·
  rename_i y xt ty ho
  split at hcomp
  ·cases hcomp
  ·cases hcomp
  ·rename_i n1 n2
   obtain ⟨z,hz,hcomp⟩:=qv hcomp
   obtain ⟨ay,hay,hcomp⟩:=qv hcomp
   cases hcomp
   exact qB
 ·
  rename_i y i ho
  obtain ⟨ay,hay,hcomp⟩:=qv hcomp
  cases hcomp
  exact qB
 ·
  rename_i c ho
  split at hcomp
  ·obtain ⟨af,haf,hcomp⟩:=qv hcomp
   obtain ⟨as,has,hcomp⟩:=qv hcomp
   cases hcomp
   exact qB
  ·cases hcomp
  ·rename_i b hcal
   split at hcomp
   ·rename_i y ty hargs hty
    split at hcomp
    ·rename_i hu
     obtain ⟨ay,hy,rfl⟩:=qbT hcomp
     exact qB
    ·rename_i et hu
     obtain ⟨ay,hy,rfl⟩:=qbT hcomp
     exact qB
    ·rename_i n et hu
     cases hcomp
     exact qB
    ·cases hcomp
   ·rename_i y z sT xT hargs hty
    split at hcomp
    ·rename_i et ux hu hux
     split at hcomp
     ·cases hcomp
     ·rename_i hm
      obtain ⟨i,hi,hcomp⟩:=qv hcomp
      obtain ⟨zz,hz,hcomp⟩:=qv hcomp
      split at hcomp
      ·cases hcomp
      ·rename_i hn
       obtain ⟨ay,hay,hcomp⟩:=qv hcomp
       obtain ⟨az,haz,hcomp⟩:=qv hcomp
       cases hcomp
       exact qB
    ·cases hcomp
   ·rename_i y z tys hargs
    obtain ⟨ay,hay,hcomp⟩:=qv hcomp
    obtain ⟨az,haz,hcomp⟩:=qv hcomp
    cases hcomp
    exact qB
   ·rename_i y z tys hargs
    obtain ⟨ay,hay,hcomp⟩:=qv hcomp
    obtain ⟨az,haz,hcomp⟩:=qv hcomp
    cases hcomp
    exact qB
   ·cases hcomp
 ·
  rename_i y ho
  obtain ⟨ay,hy,rfl⟩:=qbT hcomp
  exact qB
 ·cases hcomp
theorem qb4 {o:Oper} {ao:AOp} (hcomp:qcf P gl o = some ao):Was P gl o ao:=by
 unfold qcf at hcomp
 split at hcomp
 ·rename_i y hy
  cases hcomp
  rcases qwM hy with ⟨k,as,rfl⟩ | ⟨sh,z,ok,m,key,ty,p,q,r,rfl,ho⟩ | ⟨op,ty,p,q,r,⟨sh,n,x,y,rfl⟩ | ⟨n,x,rfl⟩,ho⟩
  ·refine ⟨fun _ h=>?_,fun _ h=>?_,fun _=>rfl,fun _ _ h=>?_,fun _ h=>?_,fun _ h=>?_,fun _ _ h=>?_⟩ <;> cases h
  ·refine ⟨fun _ h=>?_,fun _ h=>?_,fun hh=>?_,fun _ _ h=>?_,fun _ h=>?_,fun _ h=>?_,fun _ _ h=>?_⟩
   ·cases h
   ·cases h
   ·rcases hh with ⟨_,_,_,hh⟩ | ⟨_,hh,_⟩ <;> rw [ho] at hh <;> cases hh
   ·cases h
   ·cases h
   ·cases h
   ·cases h
  ·refine ⟨fun _ h=>?_,fun _ h=>?_,fun hh=>?_,fun _ _ h=>?_,fun _ h=>?_,fun _ h=>?_,fun _ _ h=>?_⟩
   ·cases h
   ·cases h
   ·rcases hh with ⟨_,_,_,hh⟩ | ⟨_,hh,_⟩ <;> rw [ho] at hh <;> cases hh
   ·cases h
   ·cases h
   ·cases h
   ·cases h
  ·refine ⟨fun _ h=>?_,fun _ h=>?_,fun hh=>?_,fun _ _ h=>?_,fun _ h=>?_,fun _ h=>?_,fun _ _ h=>?_⟩
   ·cases h
   ·cases h
   ·rcases hh with ⟨_,_,_,hh⟩ | ⟨_,hh,_⟩ <;> rw [ho] at hh <;> cases hh
   ·cases h
   ·cases h
   ·cases h
   ·cases h
 ·exact qnV hcomp
theorem qpa {o:Oper} {ao:AOp} (hcomp:qcf P gl o = some ao) (hO:qno P gl o):ao.acts = true:=by
 obtain ⟨k,as,hk⟩:=hO
 unfold qcf at hcomp
 rw [hk] at hcomp
 cases hcomp
 rfl
end
end Go.AE
namespace Go.AE
def FR (ro:Option Nat):Fence:={ Fence.wide with round:=ro}
theorem qci {ro:Option Nat} {n m:Nat} {P:Program} {f:FuncId} {args:Array Value} {w:World} {R:Ending→World→Prop} (h:CallsIn Fence.wide m P f args w R):CallsIn (FR ro) n P f args w R:=
 ⟨trivial,fun cs _=>h.2 cs (room_wide _)⟩
def qeA (f:Value) (args:Array Value):Sem Next:=do let d ←Deferred.ofValue f args;invoke d.target d.args
def qdz (G:qd):Prop:=∀b i,G.ow b ≠ some (.tmp i)
def qnb (P:Program) (gl:Nat→Option (List qa)) (n:Nat) (G:qd) (w:World) (r:qcD) (h':List qf):Ending→World→Prop
 | .returned v,w'=>∃rv G',r = .ret rv∧Ext n G w G' w'∧Rel P gl G' h' w'∧qdz G'∧G'.V rv v
 | .panicked ch,w'=>∃pv v G',r = .pan pv∧ch = [{ v,recovered:=false}]∧Ext n G w G' w'∧Rel P gl G' h' w'∧qdz G'∧G'.V pv v
 | .outgrown,_=>False
def qb7 (P:Program) (gl:Nat→Option (List qa)) (call:AE.Call):Prop:=
 ∀fv args h r h' e',call fv args h = some (r,h',e')→∀(G:qd) (w:World) (fvv:Value) (vs:Array Value),Rel P gl G h w→qdz G→G.V fv fvv→G.VL args vs.toList→
  (∃f as,(qeA fvv vs).run P w = .ok (.enter f as) w∧∀(ro:Option Nat) (n:Nat),CallsIn (FR ro) n P f as w (qnb P gl h.length G w r h'))∨
  (∃i b f tmps asg body,fv = .yld i∧(qeA fvv vs).run P w = .ok (.round b f tmps asg body) w∧∀(ro:Option Nat) (n:Nat),RoundIn (FR ro) n P b f tmps asg body w (qnb P gl h.length G w r h'))∨
  (∃v w',(∀i,args ≠ [.yld i])∧(qeA fvv vs).run P w = .ok (.value v) w'∧qnb P gl h.length G w r h' (.returned v) w')
theorem qfP {ro:Option Nat} {m:Nat}:(FR ro).depth.isSome = true→1 ≤ m:=fun h=>by cases h
theorem qim {P:Program} {gl:Nat→Option (List qa)} {call:AE.Call} (hcall:qb7 P gl call) {fv:qa} {args:List qa} {h:List qf} {r:qcD} {h':List qf} {e':Bool} (hc:call fv args h = some (r,h',e'))
  {G:qd} {w:World} {fvv:Value} {vs:Array Value} (hr:Rel P gl G h w) (hn:qdz G) (hf:G.V fv fvv) (ha:G.VL args vs.toList)
  (ro:Option Nat) (n:Nat) (o:Oper) (a:Act) (K:Act→World→Prop) (Q:Exit→Act→World→Prop)
  (hret:∀rv v w' G',r = .ret rv→Ext h.length G w G' w'→Rel P gl G' h' w'→qdz G'→G'.V rv v→K (a.put o.dst v) w')
  (hpan:∀pv v w' G',r = .pan pv→Ext h.length G w G' w'→Rel P gl G' h' w'→qdz G'→G'.V pv v→Q (.panic [{ v,recovered:=false}]) a w') :
  o.uponIn (FR ro) n P a K Q ((qeA fvv vs).run P w):=by
 rcases hcall _ _ _ _ _ _ hc G w fvv vs hr hn hf ha with ⟨f,as,h1,h2⟩ | ⟨_,b,f,tmps,asg,body,_,h1,h2⟩ | ⟨v,w',_,h1,rv,G',h2,h3,h4,h5,h6⟩
 ·rw [h1,Oper.uponIn_enter]
  refine ⟨qfP,CallsIn.mono (h2 ro (n - 1)) fun e w'' hb=>?_⟩
  cases e with
  | returned v=>obtain ⟨rv,G',g1,g2,g3,g4,g5⟩:=hb;exact hret rv v w'' G' g1 g2 g3 g4 g5
  | panicked ch=>obtain ⟨pv,v,G',g1,rfl,g2,g3,g4,g5⟩:=hb;exact hpan pv v w'' G' g1 g2 g3 g4 g5
  | outgrown=>exact hb.elim
 ·rw [h1,Oper.uponIn_round]
  refine ⟨qfP,RoundIn.mono (h2 ro (n - 1)) fun e w'' hb=>?_⟩
  cases e with
  | returned v=>obtain ⟨rv,G',g1,g2,g3,g4,g5⟩:=hb;exact hret rv v w'' G' g1 g2 g3 g4 g5
  | panicked ch=>obtain ⟨pv,v,G',g1,rfl,g2,g3,g4,g5⟩:=hb;exact hpan pv v w'' G' g1 g2 g3 g4 g5
  | outgrown=>exact hb.elim
 ·rw [h1,Oper.uponIn_value]
  exact hret rv v w' G' h2 h3 h4 h5 h6
def qd.cellsOnly (G:qd):qd:={ γ:=G.γ,imm:=G.imm,ow:=fun b=>match G.ow b with | some (.cell i o)=>some (.cell i o) | _=>none}
def qd.with (G' G:qd):qd:={ γ:=G'.γ,imm:=G'.imm,ow:=fun b=>match G.ow b with | some (.tmp i)=>some (.tmp i) | _=>G'.ow b}
section
variable {P:Program} {gl:Nat→Option (List qa)} {G G':qd} {w w':World} {h h':List qf} {t:List qa} {a:Act} {n:Nat}
theorem qfu {b:Nat} {ℓ:Loc} (h:G.cellsOnly.ow b = some ℓ):G.ow b = some ℓ∧∃i o,ℓ = .cell i o:=by
 simp only [qd.cellsOnly] at h
 split at h
 ·rename_i i o e;cases h;exact ⟨e,i,o,rfl⟩
 ·cases h
theorem qec {b i o:Nat} (h:G.ow b = some (.cell i o)):G.cellsOnly.ow b = some (.cell i o):=by simp [qd.cellsOnly,h]
theorem Rel.cellsOnly (hr:Rel P gl G h w):Rel P gl G.cellsOnly h w∧qdz G.cellsOnly:=by
 refine ⟨⟨hr.γlt,hr.inj,fun i b bx hb hx=>?_,hr.imm,hr.immγ,hr.immK,fun b ℓ hb=>hr.ow b ℓ (qfu hb).1,hr.glob⟩,fun b i hb=>?_⟩
 ·have h0:=hr.box i b bx hb hx
  cases bx with
  | cells cs=>
   obtain ⟨c,e,h1,h2,h3⟩:=h0
   exact ⟨c,e,h1,h2,fun o xs k v ho hv=>(h3 o xs k v ho hv).keep (fun y hy=>qec hy) (fun _ _=>rfl) (fun _ _ _ h=>h)⟩
  | loop _ _ _ _ _ _=>
   obtain ⟨L,h1,h2⟩:=h0
   exact ⟨L,h1,{ h2 with tmps:=h2.tmps}⟩
  | map es _=>obtain ⟨me,h1,h2⟩:=h0;obtain ⟨m,hm⟩:=qcA es;exact ⟨me,h1,qV.mono (G:=G) (G':=G.cellsOnly) (fun _ _ _ h=>h) m (fun _ _ _ h=>h) hm h2⟩
  | iter _ _ _ _=>obtain ⟨mm,h1,h2⟩:=h0;exact ⟨mm,h1,h2⟩
  | bld _ _ _=>exact qnc.keep h0 rfl (fun y hy=>qec hy) (fun _ _=>rfl) (fun _ _ _ h=>h)
  | dead=>trivial
 ·obtain ⟨_,i',o',e⟩:=qfu hb
  cases e
theorem qeB (hc:Cfg P gl G h t a w) (he:Ext n G.cellsOnly w G' w') (hr:Rel P gl G' h' w'):Ext n G w (G'.with G) w'∧Rel P gl (G'.with G) h' w'∧qaE (G'.with G) w' t a.tmps:=by
 have hforeign:∀b i,G.ow b = some (.tmp i)→qcQ G.cellsOnly b:=fun b i hb=>⟨(hc.rel.ow b _ hb).2,by simp [qd.cellsOnly,hb]⟩
 have hG':∀b i,G.ow b = some (.tmp i)→G'.ow b = none:=fun b i hb=>by
  cases ho:G'.ow b with
  | none=>rfl
  | some ℓ=>
   rcases he.on b (by simp [ho]) with h1 | h1
   ·exact absurd (hforeign b i hb).2 h1
   ·have:=(hc.rel.ow b _ hb).1;omega
 have hwo:∀b,(∀i,G.ow b ≠ some (.tmp i))→(G'.with G).ow b = G'.ow b:=fun b hb=>by
  cases hg:G.ow b with
  | none=>simp [qd.with,hg]
  | some ℓ=>cases ℓ with
   | tmp i=>exact absurd hg (hb i)
   | cell i o=>simp [qd.with,hg]
 have hwt:∀b i,G.ow b = some (.tmp i)→(G'.with G).ow b = some (.tmp i):=fun b i hb=>by simp [qd.with,hb]
 refine ⟨⟨he.gk,he.gn,he.ik,fun b o v hv=>?_,fun b hb=>?_,he.size,fun b hb hf=>?_,he.loops,he.os,he.tape,he.output⟩,⟨hr.γlt,hr.inj,fun i b bx hb hx=>?_,hr.imm,hr.immγ,hr.immK,fun b ℓ hb=>?_,hr.glob⟩,?_⟩
 ·rcases he.inew b o v hv with h1 | h1 | h1 | ⟨i,h1⟩
  ·exact .inl h1
  ·exact .inr (.inl h1)
  rotate_left
  ·exact .inr (.inr (.inr ⟨i,h1⟩))
  ·refine .inr (.inr (.inl fun e=>?_))
   simp [qd.cellsOnly,e] at h1
 ·by_cases hh:∃i,G.ow b = some (.tmp i)
  ·obtain ⟨i,hi⟩:=hh;exact .inl (by simp [hi])
  ·rw [hwo b (fun i hi=>hh ⟨i,hi⟩)] at hb
   rcases he.on b hb with h1 | h1
   ·refine .inl fun e=>?_
    simp [qd.cellsOnly,e] at h1
   ·exact .inr h1
 ·exact he.heap b hb ⟨hf.1,by simp [qd.cellsOnly,hf.2]⟩
 ·have h0:=hr.box i b bx hb hx
  cases bx with
  | cells cs=>
   obtain ⟨c,e,h1,h2,h3⟩:=h0
   refine ⟨c,e,h1,h2,fun o xs k v ho hv=>(h3 o xs k v ho hv).keep (fun y hy=>?_) (fun _ _=>rfl) (fun _ _ _ h=>h)⟩
   rw [hwo y (fun j hj=>by rw [hG' y j hj] at hy;cases hy)]
   exact hy
  | loop _ _ _ _ _ _=>
   obtain ⟨L,h1,h2⟩:=h0
   exact ⟨L,h1,{ h2 with tmps:=h2.tmps}⟩
  | map es _=>obtain ⟨me,h1,h2⟩:=h0;obtain ⟨m,hm⟩:=qcA es;exact ⟨me,h1,qV.mono (G:=G') (G':=G'.with G) (fun _ _ _ h=>h) m (fun _ _ _ h=>h) hm h2⟩
  | iter _ _ _ _=>obtain ⟨mm,h1,h2⟩:=h0;exact ⟨mm,h1,h2⟩
  | bld _ _ _=>
   refine qnc.keep h0 rfl (fun y hy=>?_) (fun _ _=>rfl) (fun _ _ _ h=>h)
   rw [hwo y (fun j hj=>by rw [hG' y j hj] at hy;cases hy)]
   exact hy
  | dead=>trivial
 ·by_cases hh:∃i,G.ow b = some (.tmp i)
  ·obtain ⟨i,hi⟩:=hh
   obtain ⟨h1,h2⟩:=hc.rel.ow b _ hi
   refine ⟨Nat.lt_of_lt_of_le h1 he.size,fun j hj=>?_⟩
   rcases he.gn j b hj with h3 | ⟨_,h3 | ⟨j',h3⟩⟩
   ·exact h2 j h3
   ·omega
   ·exact h2 j' h3
  ·rw [hwo b (fun i hi=>hh ⟨i,hi⟩)] at hb
   exact hr.ow b ℓ hb
 ·have hVL:=he.VL hc.tr.rel
  refine ⟨hVL,fun i xs k v hx hv=>(hc.tr.own i xs k v hx hv).keep (fun y hy=>hwt y i hy) (fun y hy=>he.heap y (hc.rel.ow y _ hy).1 (hforeign y i hy)) (fun y j hy hj=>?_)⟩
  cases hv':(G'.with G).imm y j with
  | none=>rfl
  | some u=>
   rcases he.inew y j u hv' with h1 | h1 | h1 | ⟨i',h1⟩
   rotate_right
   ·exact absurd h1 ((hc.rel.ow y _ hy).2 i')
   ·rw [show G.cellsOnly.imm y j = G.imm y j from rfl,hj] at h1;cases h1
   ·have:=(hc.rel.ow y _ hy).1;omega
   ·exact absurd (hforeign y i hy).2 h1
theorem qed {o:Oper} {ao:AOp} (hc:qcf P gl o = some ao):∀c,o.op ≠ .defer c:=by
 intro c h
 unfold qcf at hc
 split at hc
 ·rename_i y hy
  unfold qfv at hy
  rw [h] at hy
  cases hy
 ·unfold qel at hc
  rw [h] at hc
  cases hc
theorem Cfg.putDim (hc:Cfg P gl G h t a w) (dst:Option Nat) {x:qa} {v:Value} (hv:G.V x v):Cfg P gl G h (AE.put dst x.dim t) (a.put dst v) w:=hc.put dst (qcT hv) (qbx x)
theorem qb1 (a:Act) (d:Option Tmp) (v:Value):(a.put d v).defers = a.defers:=by cases d <;> rfl
theorem qeW {call:AE.Call} (hcall:qb7 P gl call) (hk:qH call) (hc:Cfg P gl G h t a w) {p:qco} (hp:qbh G w t a p) {o:Oper} {ao:AOp} (hcomp:qcf P gl o = some ao) {base:Nat} {e:Bool} {x:Ex} {s':St}
  (hrun:qq base call p o.dst ao ⟨t,h,e⟩ = some (x,s')) {ro:Option Nat} {m:Nat} {K:Act→World→Prop} {Q:Exit→Act→World→Prop}
  (hnor:x = .nor→∀u w' G',Ext h.length G w G' w'→Cfg P gl G' s'.h s'.t (a.put o.dst u) w'→(ao.acts = false→∀b,b < w.heap.size→w'.heap[b]? = w.heap[b]?)→(∀i,ao = .mov (.t i)→u = a.tmps.getD i undef)→
   (∀q id off,ao = .ld none q→ev t q = .ptr id off→∃b,G.γ id = some b∧w.cell? ⟨b,off,none⟩ = some u)→K (a.put o.dst u) w')
  (hpan:∀pv,x = .pan pv→∀v w' G',Ext h.length G w G' w'→Cfg P gl G' s'.h s'.t a w'→G'.V pv v→Q (.panic [{ v,recovered:=false}]) a w') :
  o.wpIn (FR ro) m P a w K Q:=by
 refine ⟨fun _ _=>trivial,?_⟩
 rw [Oper.semAt_eq _ _ _ (qed hcomp)]
 cases hcl:ao.calls with
 | false=>
  obtain ⟨rfl,hd,_⟩:=quZ hc hp hcomp hcl hrun
  obtain ⟨nx,u,w',G',h1,h2,hst,h3,h4⟩:=hd
  have h5:ao.acts = false→∀b,b < w.heap.size→w'.heap[b]? = w.heap[b]?:=by
   intro hac
   exact hst (fun hop=>by rw [(qb4 hcomp).2.2.1 hop] at hac;cases hac) (fun hop=>by rw [qpa hcomp hop] at hac;cases hac)
  have h6:∀i,ao = .mov (.t i)→u = a.tmps.getD i undef:=by
   rintro i rfl
   have ho:=(qb4 hcomp).1 i rfl
   have:(execOp a.eval o).run P w = .ok (.value (a.eval (.tmp i))) w:=by simp [execOp,ho]
   rw [this] at h1
   cases h1
   rcases h2 with h2 | ⟨h2,_⟩
   ·cases h2;rfl
   ·cases h2
  have h7:∀q id off,ao = .ld none q→ev t q = .ptr id off→∃b,G.γ id = some b∧w.cell? ⟨b,off,none⟩ = some u:=by
   rintro q id off rfl hq
   obtain ⟨ty,y,ho,hy,hk⟩:=(qb4 hcomp).2.1 q rfl
   have hv:=qQ hc.rel hc.tr hy
   rw [hq] at hv
   simp only [qd.V,qt] at hv
   obtain ⟨b,hb,he⟩:=hv
   refine ⟨b,hb,?_⟩
   obtain ⟨g1,_⟩:=qe5 hk w
   simp only [qq] at hrun
   obtain ⟨v,hv,_⟩:=qbT hrun
   rw [hq] at hv
   simp only [qdh] at hv
   split at hv
   ·rename_i cs hcs
    obtain ⟨c,te,hw,hcr,_⟩:=hc.rel.box id b _ hb hcs
    simp only [cut] at hv
    obtain ⟨av,hav,_⟩:=qbT hv
    obtain ⟨uv,huv,_⟩:=qeL hcr hav
    have hcell:w.cell? ⟨b,off,none⟩ = some uv:=by
     simp only [Array.getElem?_toList] at huv
     simp [World.cell?,hw,huv]
    have:(execOp a.eval o).run P w = .ok (.value uv) w:=by
     simp only [execOp,ho]
     refine qdo ?_
     simp only [Instr.loadAt,he,Instr.sureAddr,Sem.run_bind,Sem.run_pure,Result.andThen_ok,loadVar,g1,Option.isSome_none,Bool.false_eq_true,if_false,run_load,hcell]
    rw [this] at h1
    cases h1
    rcases h2 with h2 | ⟨h2,_⟩
    ·cases h2;exact hcell
    ·cases h2
   ·cases hv
  have:=hnor rfl u w' G' h3 h4 h5 h6 h7
  rw [h1]
  rcases h2 with rfl | ⟨rfl,rfl⟩
  ·rw [Oper.uponIn_value];exact this
  ·rw [Oper.uponIn_skip];exact this
 | true=>
  cases ao <;> simp [AOp.calls] at hcl
  case call f as=>
   obtain ⟨c,fo,ho,hcal,hf,has⟩:=(qb4 hcomp).2.2.2.1 f as rfl
   have hfv:=qQ hc.rel hc.tr hf
   have hav:=qhY hc.rel hc.tr has
   obtain ⟨hr0,hn0⟩:=hc.rel.cellsOnly
   have hex:(execOp a.eval o).run P w = (qeA (a.eval fo) (c.args.map a.eval)).run P w:=by
    simp only [execOp,ho,resolve,hcal,qeA]
   rw [hex]
   simp only [qq] at hrun
   split at hrun
   ·rename_i v h1 e1 hcl1
    cases hrun
    refine qim hcall hcl1 hr0 hn0 hfv hav ro m o a K Q (fun rv u w' G' hrv he hr' hn' hv=>?_) (fun pv u w' G' hpv=>by cases hpv)
    cases hrv
    obtain ⟨k1,k2,k3⟩:=qeB hc he hr'
    have hc':Cfg P gl (G'.with G) h1 t a w':=⟨k2,k3⟩
    refine hnor rfl u w' (G'.with G) k1 (hc'.putDim o.dst hv) (by simp [AOp.acts]) (by simp) (by simp)
   ·rename_i v h1 e1 hcl1
    cases hrun
    refine qim hcall hcl1 hr0 hn0 hfv hav ro m o a K Q (fun rv u w' G' hrv=>by cases hrv) (fun pv u w' G' hpv he hr' hn' hv=>?_)
    cases hpv
    obtain ⟨k1,k2,k3⟩:=qeB hc he hr'
    exact hpan _ rfl u w' (G'.with G) k1 ⟨k2,k3⟩ hv
   ·cases hrun
  case pan y=>
   obtain ⟨xo,ho,hx⟩:=(qb4 hcomp).2.2.2.2.1 y rfl
   have hv:=qQ hc.rel hc.tr hx
   simp only [qq] at hrun
   split at hrun
   ·rename_i u v hy
    cases hrun
    rw [hy] at hv
    have hv':=hv
    simp only [qd.V,qt] at hv'
    obtain ⟨x',he,_⟩:=hv'
    have hex:(execOp a.eval o).run P w = .halt (.panic (a.eval xo)) w:=by
     simp [execOp,ho,he,Instr.panic]
    rw [hex,Oper.uponIn_panic]
    exact hpan _ rfl _ w G (Ext.refl _ G w) hc hv
   ·cases hrun
theorem Act.put_get_ne {a:Act} {dst:Option Nat} {u:Value} {i:Nat} (h:dst ≠ some i):(a.put dst u).tmps[i]? = a.tmps[i]?:=by
 cases dst with
 | none=>rfl
 | some d=>
  have:d ≠ i:=fun e=>h (by rw [e])
  simp [Act.put,Array.getElem?_setIfInBounds,this]
theorem qmV {dst:Option Nat} {v:qa} {x:qk} (h:∀d,dst = some d→x.isT d = false):raw (AE.put dst v t) x = raw t x:=by
 cases dst with
 | none=>rfl
 | some d=>
  cases x with
  | c _=>rfl
  | t i=>
   have:=h d rfl
   simp only [qk.isT,beq_eq_false_iff_ne,ne_eq] at this
   simp only [raw,AE.put,List.getD_eq_getElem?_getD]
   rw [List.getElem?_set_ne (fun e=>this e.symm)]
theorem qiy {dst:Option Nat} {v:qa} {x:qk} (h:∀d,dst = some d→x.isT d = false):ev (AE.put dst v t) x = ev t x:=by
 simp only [ev,qmV h]
theorem qbh.next {p:qco} (hp:qbh G w t a p) {o:qY} {u:Value} {v:qa} {t':List qa} (ht:o.op.effs = false→t' = AE.put o.dst v t)
  (hγ:∀i b,G.γ i = some b→G'.γ i = some b) (hh:o.op.effs = false→∀b,b < w.heap.size→w'.heap[b]? = w.heap[b]?)
  (hmov:∀i,o.op = .mov (.t i)→u = a.tmps.getD i undef) (hld:∀q id off,o.op = .ld none q→ev t q = .ptr id off→∃b,G.γ id = some b∧w.cell? ⟨b,off,none⟩ = some u) :
  qbh G' w' t' (a.put o.dst u) (qaJ p o):=by
 unfold qaJ
 cases hac:o.op.effs with
 | true=>
  simp only [if_true]
  have one:∀d i,(d,Src.tmp i) ∈ p→o.dst ≠ some d→(∀k,o.dst = some k→(Src.tmp i).hangs k = false)→∀u',(a.put o.dst u).tmps[d]? = some u'→(a.put o.dst u).tmps.getD i undef = u':=by
   intro d i hm h1 h2 u' hu'
   rw [Act.put_get_ne h1] at hu'
   have h3:=hp d _ hm u' hu'
   simp only at h3
   rw [Array.getD_eq_getD_getElem?] at h3 ⊢
   rw [Act.put_get_ne (fun e=>by have:=h2 i e;simp [Src.hangs] at this)]
   exact h3
  cases hdst:o.dst with
  | none=>
   simp only [hdst] at one
   intro d s hm u' hu'
   simp only [List.mem_filter] at hm
   obtain ⟨h1,h2⟩:=hm
   cases s with
   | tmp i=>exact one d i h1 (by simp) (by simp) u' hu'
   | cell x=>cases h2
  | some k=>
   simp only [hdst] at one
   intro d s hm u' hu'
   simp only [List.mem_filter,Bool.and_eq_true,bne_iff_ne,ne_eq,Bool.not_eq_true'] at hm
   obtain ⟨h1,h2,h3,h4⟩:=hm
   cases s with
   | tmp i=>exact one d i h1 (by simpa using fun e=>h3 e.symm) (fun j hj=>by cases hj;exact h4) u' hu'
   | cell x=>cases h2
 | false=>
  simp only [Bool.false_eq_true,if_false]
  have hh:=hh hac
  have ht:=ht hac
  subst ht
  have hcell:∀b off v,w.cell? ⟨b,off,none⟩ = some v→w'.cell? ⟨b,off,none⟩ = some v:=by
   intro b off v hv
   have hb:b < w.heap.size:=by
    rcases Nat.lt_or_ge b w.heap.size with hb | hb
    ·exact hb
    ·simp [World.cell?,Array.getElem?_eq_none hb] at hv
   rw [qbo (w:=w) (w':=w') (hh b hb)]
   exact hv
  have hold:∀d s,(d,s) ∈ p→o.dst ≠ some d→(∀k,o.dst = some k→s.hangs k = false)→∀u',(a.put o.dst u).tmps[d]? = some u'→match s with
    | .tmp i=>(a.put o.dst u).tmps.getD i undef = u'
    | .cell x=>∀id o',ev (AE.put o.dst v t) x = .ptr id o'→∃b,G'.γ id = some b∧w'.cell? ⟨b,o',none⟩ = some u':=by
   intro d s hm h1 h2 u' hu'
   rw [Act.put_get_ne h1] at hu'
   have h3:=hp d s hm u' hu'
   cases s with
   | tmp i=>
    simp only at h3 ⊢
    rw [Array.getD_eq_getD_getElem?] at h3 ⊢
    rw [Act.put_get_ne (fun e=>by have:=h2 i e;simp [Src.hangs] at this)]
    exact h3
   | cell x=>
    simp only at h3 ⊢
    intro id o' he
    rw [qiy (fun d hd=>by have:=h2 d hd;simpa [Src.hangs] using this)] at he
    obtain ⟨b,g1,g2⟩:=h3 id o' he
    exact ⟨b,hγ id b g1,hcell b o' u' g2⟩
  cases hdst:o.dst with
  | none=>
   simp only [hdst] at hold
   intro d s hm u' hu'
   exact hold d s hm (by simp) (by simp) u' hu'
  | some k=>
   simp only [hdst] at hold ⊢
   have hq:qbh G' w' (AE.put (some k) v t) (a.put (some k) u) (p.filter fun x=>x.1 != k && !x.2.hangs k):=by
    intro d s hm u' hu'
    simp only [List.mem_filter,Bool.and_eq_true,bne_iff_ne,ne_eq,Bool.not_eq_true'] at hm
    obtain ⟨h1,h2,h3⟩:=hm
    exact hold d s h1 (by simpa using fun e=>h2 e.symm) (fun j hj=>by cases hj;exact h3) u' hu'
   split
   ·rename_i s0 hs
    split
    ·exact hq
    ·rename_i hhang
     intro d s hm u' hu'
     rcases List.mem_cons.1 hm with hm | hm
     ·cases hm
      have hu:u' = u:=by
       simp only [Act.put,Array.getElem?_setIfInBounds] at hu'
       split at hu'
       ·split at hu' <;> cases hu';rfl
       ·rename_i hh;exact absurd trivial hh
      subst hu
      unfold qD at hs
      split at hs
      ·rename_i i ho
       cases hs
       have:=hmov i ho
       simp only
       rw [Array.getD_eq_getD_getElem?] at this ⊢
       rw [Act.put_get_ne (fun e=>by cases e;simp [Src.hangs] at hhang)]
       exact this.symm
      ·rename_i q ho
       cases hs
       simp only
       intro id o' he
       rw [qiy (fun d hd=>by cases hd;simpa [Src.hangs] using hhang)] at he
       obtain ⟨b,g1,g2⟩:=hld q id o' ho he
       exact ⟨b,hγ id b g1,hcell b o' _ g2⟩
      ·cases hs
     ·exact hq d s hm u' hu'
   ·exact hq
theorem qdm {base:Nat} {call:AE.Call} {p:qco} {dst:Option Nat} {o:AOp} {s s':St} {x:Ex} (hac:o.effs = false) (hrun:qq base call p dst o s = some (x,s')) :
  x = .nor∧∃v,s'.t = AE.put dst v s.t∧s'.e = s.e∧((s'.h = s.h∧(pureV s.t o = some v∨(∃k q,o = .ld k q∧qdh s.h (ev s.t q) k = some v)∨∃sh z ok m key,o = .lk sh z ok m key∧qk3 s.h sh z ok (ev s.t m) (ev s.t key) = some v))∨
   (∃cs,s'.h = s.h ++ [.cells cs]∧v = .ptr s.h.length 0∧qeC s o = some (.box s.h.length cs))):=by
 cases o <;> simp only [AOp.effs,Bool.true_eq_false] at hac <;> simp only [qq] at hrun
 all_goals first
  | (obtain ⟨v,hv,he⟩:=qbT hrun
     cases he
     exact ⟨rfl,v,rfl,rfl,.inl ⟨rfl,.inl hv⟩⟩)
  | (obtain ⟨v,hv,he⟩:=qbT hrun
     cases he
     exact ⟨rfl,v,rfl,rfl,.inl ⟨rfl,.inr (.inl ⟨_,_,rfl,hv⟩)⟩⟩)
  | (obtain ⟨v,hv,he⟩:=qbT hrun
     cases he
     exact ⟨rfl,v,rfl,rfl,.inl ⟨rfl,.inr (.inr ⟨_,_,_,_,_,rfl,hv⟩)⟩⟩)
  | (cases hrun
     exact ⟨rfl,_,rfl,rfl,.inr ⟨_,rfl,rfl,rfl⟩⟩)
  | (split at hrun
     ·cases hrun
      exact ⟨rfl,_,rfl,rfl,.inr ⟨_,rfl,rfl,rfl⟩⟩
     ·cases hrun)
def Fin (P:Program) (gl:Nat→Option (List qa)) (n:Nat) (G:qd) (w:World) (ds:List Deferred) (x:Ex) (s':St) (e:Exit) (a':Act) (w':World):Prop:=
 ∃G',Ext n G w G' w'∧a'.defers = ds∧match x with
  | .nor=>e = .normal∧Cfg P gl G' s'.h s'.t a' w'
  | .exit id=>e = .exit id∧Cfg P gl G' s'.h s'.t a' w'
  | .ret=>e = .ret∧Cfg P gl G' s'.h s'.t a' w'
  | .pan pv=>∃v,e = .panic [{ v,recovered:=false}]∧Cfg P gl G' s'.h s'.t a' w'∧G'.V pv v
theorem Fin.of_ext {n m:Nat} {ds:List Deferred} {x:Ex} {s':St} {e:Exit} {a':Act} (hnm:n ≤ m) (he:Ext n G w G' w') {w'':World} (hf:Fin P gl m G' w' ds x s' e a' w''):Fin P gl n G w ds x s' e a' w'':=
 let ⟨G'',h1,h2⟩:=hf
 ⟨G'',he.trans hnm h1,h2⟩
theorem qbM {ops:Array Oper} {o:Oper} {ao:qY} (ht:qaE G w t a.tmps) (hcomp:qb3 P gl ops o = some ao) {b:Bool} (hw:wanted t ao.guard = some b) :
  qcf P gl o = some ao.op∧ao.dst = o.dst∧Region.wanted o (yielded ops a.tmps) = b:=by
 simp only [qb3] at hcomp
 obtain ⟨op,hop,hcomp⟩:=qv hcomp
 cases hg:o.guard with
 | none=>
  simp only [hg] at hcomp
  cases hcomp
  simp only [wanted,Option.some.injEq] at hw
  exact ⟨hop,rfl,by simp [Region.wanted,hg,hw]⟩
 | some jb=>
  obtain ⟨j,want⟩:=jb
  simp only [hg] at hcomp
  obtain ⟨d,hd,hcomp⟩:=qv hcomp
  cases hcomp
  refine ⟨hop,rfl,?_⟩
  simp only [wanted] at hw
  have hv:=ht.get d
  simp only [Region.wanted,hg,yielded,hd,Option.bind_some]
  have hlen:=ht.length
  split at hw
  ·rename_i c hc
   rw [hc] at hv
   simp only [qd.V,qt] at hv
   cases hw
   have hdl:d < a.tmps.size:=by
    rcases Nat.lt_or_ge d a.tmps.size with h | h
    ·exact h
    ·rw [Array.getD_eq_getD_getElem?,Array.getElem?_eq_none h] at hv;simp [undef] at hv
   rw [Array.getD_eq_getD_getElem?,Array.getElem?_eq_getElem hdl,Option.getD_some] at hv
   rw [Array.getElem?_eq_getElem hdl,hv]
   rfl
  ·rename_i hc
   rw [hc] at hv
   simp only [qd.V,qt,qh] at hv
   obtain ⟨x,hv,_⟩:=hv
   cases hw
   rw [Array.getD_eq_getD_getElem?] at hv
   cases hx:a.tmps[d]? with
   | none=>rfl
   | some y=>rw [hx] at hv;simp at hv;subst hv;rfl
  ·cases hw
def Lays (P:Program) (gl:Nat→Option (List qa)) (ops:Array Oper):List Nat→List qY→Prop
 | [],[]=>True
 | i :: l,ao :: os=>(∃o,ops[i]? = some o∧qb3 P gl ops o = some ao)∧Lays P gl ops l os
 | _,_=>False
theorem qcP (hc:Cfg P gl G h t a w) (dst:Option Nat):Cfg P gl G h (AE.put dst (.tup []) t) (a.put dst undef) w:=
 hc.put dst (by simp [qd.V,qt,qh,undef]) rfl
theorem qqC {call:AE.Call} (hcall:qb7 P gl call) (hk:qH call) {ops:Array Oper} {base:Nat} {ro:Option Nat} {m:Nat} {x:Ex} {s':St} :
  ∀(l:List Nat) (os:List qY),Lays P gl ops l os→∀(G:qd) (w:World) (h:List qf) (t:List qa) (e:Bool) (a:Act) (p:qco),Cfg P gl G h t a w→qbh G w t a p→base ≤ h.length→
   qaK base call p os ⟨t,h,e⟩ = some (x,s')→∀(Q:Exit→Act→World→Prop),(∀ex a' w',Fin P gl h.length G w a.defers x s' ex a' w'→Q ex a' w')→wpOpsIn (FR ro) m P ops Q l a w:=by
 intro l
 induction l with
 | nil=>
  intro os hl G w h t e a p hc hp hb hrun Q hQ
  cases os with
  | cons _ _=>exact hl.elim
  | nil=>
   simp only [qaK] at hrun
   cases hrun
   exact hQ _ _ _ ⟨G,Ext.refl _ G w,rfl,rfl,hc⟩
 | cons i l ih=>
  intro os hl G w h t e a p hc hp hb hrun Q hQ
  cases os with
  | nil=>exact hl.elim
  | cons ao os=>
   obtain ⟨⟨o,ho,hco⟩,hl⟩:=hl
   simp only [wpOpsIn,ho]
   simp only [qaK] at hrun
   split at hrun
   ·rename_i hw
    obtain ⟨hcomp,hdst,hwant⟩:=qbM hc.tr hco hw
    rw [if_pos hwant]
    simp only [hdst] at hrun
    cases hop:qq base call p o.dst ao.op ⟨t,h,e⟩ with
    | none=>rw [hop] at hrun;cases hrun
    | some r=>
     obtain ⟨x1,s1⟩:=r
     have hkeep:h.length ≤ s1.h.length:=(qb2 (base:=base) hk hb hop).1
     refine qeW hcall hk hc hp hcomp hop (fun hx u w' G' he hc' hst hmv hld=>?_) (fun pv hx v w' G' he hr' hv=>?_)
     ·subst hx
      rw [hop] at hrun
      simp only at hrun
      have hnext:qbh G' w' s1.t (a.put o.dst u) (qaJ p ao):=by
       have hq:ao.op.effs = false→ao.op.acts = false:=by cases ao.op <;> simp [AOp.effs,AOp.acts]
       rw [←hdst]
       by_cases hac:ao.op.effs = false
       ·obtain ⟨_,v,hv,_⟩:=qdm hac hop
        exact hp.next (v:=v) (fun _=>by rw [hdst];exact hv) he.gk (fun h=>hst (hq h)) hmv hld
       ·exact hp.next (v:=.undef) (fun h=>absurd h hac) he.gk (fun h=>absurd h hac) hmv hld
      refine ih os hl G' w' s1.h s1.t s1.e (a.put o.dst u) (qaJ p ao) hc' hnext (Nat.le_trans hb hkeep) hrun Q fun ex a'' w'' hf=>hQ _ _ _ ?_
      rw [qb1] at hf
      exact Fin.of_ext hkeep he hf
     ·subst hx
      rw [hop] at hrun
      simp only at hrun
      cases hrun
      exact hQ _ _ _ ⟨G',he,rfl,v,rfl,hr',hv⟩
   ·rename_i hw
    obtain ⟨hcomp,hdst,hwant⟩:=qbM hc.tr hco hw
    rw [if_neg (by rw [hwant];simp)]
    refine ⟨fun _ _=>trivial,?_⟩
    simp only [hdst] at hrun
    have hnext:qbh G w (AE.put o.dst (.tup []) t) (a.put o.dst undef) (qaJ p { ao with op:=.pick (.c .undef) (.c .undef) (.c .undef)}):=by
     rw [←hdst]
     exact hp.next (o:={ ao with op:=.pick (.c .undef) (.c .undef) (.c .undef)}) (v:=.tup []) (fun _=>rfl) (fun _ _ h=>h) (fun _ _ _=>rfl) (fun _ h=>by cases h) (fun _ _ _ h=>by cases h)
    refine ih os hl G w h _ e _ _ (qcP hc o.dst) (by simpa only [hdst] using hnext) hb (by simpa only [hdst] using hrun) Q fun ex a'' w'' hf=>hQ _ _ _ ?_
    rwa [qb1] at hf
   ·cases hrun
end
end Go.AE
namespace Go.AE
mutual
theorem beq_eq:∀(a b:qa),qa.beq a b = true→a = b
 | .undef,b,h=>by cases b <;> simp_all [qa.beq]
 | .bool _,b,h=>by cases b <;> simp_all [qa.beq]
 | .int _ _,b,h=>by cases b <;> simp_all [qa.beq]
 | .str _,b,h=>by cases b <;> simp_all [qa.beq]
 | .nilptr,b,h=>by cases b <;> simp_all [qa.beq]
 | .ptr _ _,b,h=>by cases b <;> simp_all [qa.beq]
 | .iptr x o,b,h=>by
  cases b <;> simp only [qa.beq,Bool.and_eq_true,beq_iff_eq,Bool.false_eq_true] at h
  obtain ⟨h1,h2⟩:=h
  rw [h1,qda _ _ h2]
 | .lst x f,b,h=>by
  cases b <;> simp only [qa.beq,Bool.and_eq_true,beq_iff_eq,Bool.false_eq_true] at h
  obtain ⟨h1,h2⟩:=h
  rw [h1,qda _ _ h2]
 | .nilfunc,b,h=>by cases b <;> simp_all [qa.beq]
 | .fn f x y,b,h=>by
  cases b <;> simp only [qa.beq,Bool.and_eq_true,beq_iff_eq,Bool.false_eq_true] at h
  obtain ⟨⟨h1,h2⟩,h3⟩:=h
  rw [h1,qda _ _ h2,qda _ _ h3]
 | .yld _,b,h=>by cases b <;> simp_all [qa.beq]
 | .niliface,b,h=>by cases b <;> simp_all [qa.beq]
 | .iface t x,b,h=>by
  cases b <;> simp only [qa.beq,Bool.and_eq_true,beq_iff_eq,Bool.false_eq_true] at h
  obtain ⟨h1,h2⟩:=h
  rw [h1,beq_eq _ _ h2]
 | .agg x,b,h=>by
  cases b <;> simp only [qa.beq,Bool.false_eq_true] at h
  rw [qda _ _ h]
 | .tup x,b,h=>by
  cases b <;> simp only [qa.beq,Bool.false_eq_true] at h
  rw [qda _ _ h]
 | .sl _ _ _ _ _,b,h=>by
  cases b <;> simp only [qa.beq,Bool.and_eq_true,beq_iff_eq,Bool.false_eq_true] at h
  obtain ⟨⟨⟨⟨rfl,rfl⟩,rfl⟩,rfl⟩,rfl⟩:=h
  rfl
 | .mp _,b,h=>by cases b <;> simp_all [qa.beq]
 | .nilmap,b,h=>by cases b <;> simp_all [qa.beq]
 | .nils,b,h=>by cases b <;> simp_all [qa.beq]
 | .empt,b,h=>by cases b <;> simp_all [qa.beq]
theorem qda:∀(as bs:List qa),qjg as bs = true→as = bs
 | [],bs,h=>by cases bs <;> simp_all [qjg]
 | a :: as,bs,h=>by
  cases bs with
  | nil=>simp [qjg] at h
  | cons b bs=>
   simp only [qjg,Bool.and_eq_true] at h
   rw [beq_eq _ _ h.1,qda _ _ h.2]
end
theorem qnw:∀{a b:List (Nat×qa×qa)},qyA a b = true→a = b
 | [],b,h=>by cases b <;> simp_all [qyA]
 | x :: xs,b,h=>by
  cases b with
  | nil=>simp [qyA] at h
  | cons y ys=>
   simp only [qyA,Bool.and_eq_true,beq_iff_eq] at h
   obtain ⟨⟨⟨h1,h2⟩,h3⟩,h4⟩:=h
   obtain ⟨x1,x2,x3⟩:=x
   obtain ⟨y1,y2,y3⟩:=y
   simp only at h1 h2 h3
   rw [h1,beq_eq _ _ h2,beq_eq _ _ h3,qnw h4]
theorem qf.beq_eq {a b:qf} (h:a.beq b = true):a = b:=by
 cases a <;> cases b <;> simp only [qf.beq,Bool.and_eq_true,beq_iff_eq,Bool.false_eq_true] at h
 ·rw [qda _ _ h]
 ·rw [h.1,qnw h.2]
 ·obtain ⟨⟨⟨h1,rfl⟩,rfl⟩,rfl⟩:=h
  rw [AE.beq_eq _ _ h1]
 ·rw [Nat.eq_of_beq_eq_true h.1,Nat.eq_of_beq_eq_true h.2.1,h.2.2]
 ·rfl
def Chk.Holds (h:List qf):Chk→Prop
 | .ld a k v=>qdh h a k = some v
 | .box id cs=>h[id]? = some (.cells cs)
 | .lk sh z ok m key v=>qk3 h sh z ok m key = some v
theorem Chk.holds_of_ok {h:List qf} {c:Chk} (hc:c.ok h = true):c.Holds h:=by
 cases c with
 | ld a k v=>
  simp only [Chk.ok] at hc
  split at hc
  ·rename_i w hw
   simp only [Chk.Holds,hw,beq_eq _ _ hc]
  ·cases hc
 | box id cs=>
  simp only [Chk.ok] at hc
  split at hc
  ·rename_i ds hd
   simp only [Chk.Holds,hd,qda _ _ hc]
  ·cases hc
 | lk sh z ok m key v=>
  simp only [Chk.ok] at hc
  split at hc
  ·rename_i w hw
   simp only [Chk.Holds,hw,beq_eq _ _ hc]
  ·cases hc
theorem qj4 {h g:List qf} {a:qa} {k:Option Nat} {v:qa} (hl:qdh h a k = some v):qdh (h ++ g) a k = some v:=by
 unfold qdh at hl ⊢
 split at hl
 ·rename_i i o
  split at hl
  ·rename_i cs hcs
   rw [List.getElem?_append_left (List.getElem?_eq_some_iff.1 hcs).1,hcs]
   exact hl
  ·cases hl
 ·exact hl
 ·cases hl
theorem qhF {h g:List qf} {m:qa} {es:List (Nat×qa×qa)} (he:qkQ h m = some es):qkQ (h ++ g) m = some es:=by
 unfold qkQ at he ⊢
 split at he
 ·exact he
 ·split at he
  ·rename_i hid
   simp only [List.getElem?_append_left (List.getElem?_eq_some_iff.1 hid).1,hid]
   exact he
  ·cases he
 ·cases he
theorem qj7 {h g:List qf} {sh:qd6} {z:qa} {ok:Bool} {m key v:qa} (hl:qk3 h sh z ok m key = some v):qk3 (h ++ g) sh z ok m key = some v:=by
 unfold qk3 at hl ⊢
 split at hl
 ·rename_i es he
  rw [qhF he]
  exact hl
 ·cases hl
theorem Chk.Holds.append {h g:List qf} {c:Chk} (hc:c.Holds h):c.Holds (h ++ g):=by
 cases c with
 | ld a k v=>exact qj4 hc
 | box id cs=>
  simp only [Chk.Holds] at hc ⊢
  rw [List.getElem?_append_left (List.getElem?_eq_some_iff.1 hc).1,hc]
 | lk sh z ok m key v=>exact qj7 hc
section
variable {t t':List qa}
def qcF (t t':List qa) (l:List Nat):Prop:=∀i ∈ l,(t.getD i .undef).dim = (t'.getD i .undef).dim
theorem qcF.left {l m:List Nat} (h:qcF t t' (l ++ m)):qcF t t' l:=fun i hi=>h i (List.mem_append_left _ hi)
theorem qcF.right {l m:List Nat} (h:qcF t t' (l ++ m)):qcF t t' m:=fun i hi=>h i (List.mem_append_right _ hi)
theorem qcF.ev {x:qk} (h:qcF t t' x.slot):ev t x = ev t' x:=by
 cases x with
 | c _=>rfl
 | t i=>exact h i (by simp [qk.slot])
theorem qcF.evs:∀{xs:List qk},qcF t t' (qe2 xs)→xs.map (AE.ev t) = xs.map (AE.ev t')
 | [],_=>rfl
 | x :: xs,h=>by
  simp only [qe2] at h
  rw [List.map_cons,List.map_cons,h.left.ev,qcF.evs h.right]
theorem qcF.bound {x:Option qk} {d:Nat} (h:qcF t t' (qyh x)):bound t x d = bound t' x d:=by
 cases x with
 | none=>rfl
 | some x=>simp only [AE.bound,qcF.ev (x:=x) h]
theorem qcF.parts3 {ps:List (Nat×Nat×qk)} (h:qcF t t' (qe2 (ps.map (·.2.2)))):(ps.map fun (o,s,x)=>(o,s,AE.ev t x)) = ps.map fun (o,s,x)=>(o,s,AE.ev t' x):=by
 induction ps with
 | nil=>rfl
 | cons p ps ih=>
  simp only [List.map_cons,qe2] at h
  simp only [List.map_cons]
  rw [ih h.right,qcF.ev h.left]
theorem qcF.parts2 {k:Nat} {ps:List (Nat×qk)} (h:qcF t t' (qe2 (ps.map (·.2)))):(ps.map fun (i,x)=>(i * k,k,AE.ev t x)) = ps.map fun (i,x)=>(i * k,k,AE.ev t' x):=by
 induction ps with
 | nil=>rfl
 | cons p ps ih=>
  simp only [List.map_cons,qe2] at h
  simp only [List.map_cons]
  rw [ih h.right,qcF.ev h.left]
theorem qcF.pureV {o:AOp} (h:qcF t t' o.looks):pureV t o = pureV t' o:=by
 cases o <;> simp only [AOp.looks] at h <;> simp only [AE.pureV]
 case pick=>rw [h.left.left.ev,h.left.right.ev,h.right.ev]
 case build=>rw [h.parts3]
 case list=>rw [h.parts2]
 case mkF=>rw [h.left.evs,h.right.evs]
 case subS=>rw [h.left.left.ev,h.left.right.bound];simp only [h.right.bound]
 case subL=>rw [h.left.left.ev,h.left.right.bound];simp only [h.right.bound]
 case len b x=>cases b <;> simp only [h.ev]
 all_goals first
  | rfl
  | rw [h.ev]
  | rw [h.left.ev,h.right.ev]
theorem qcF.wanted {j:Nat} {b:Bool} (h:qcF t t' [j]):wanted t (some (j,b)) = wanted t' (some (j,b)):=by
 have h:=h j (by simp)
 have key:∀v:qa,(match v with | .bool c=>some (c == b) | .tup []=>some false | _=>none) = (match v.dim with | .bool c=>some (c == b) | .tup []=>some false | _=>none):=by
  intro v
  cases v <;> try rfl
  rename_i xs f
  cases f <;> rfl
 simp only [AE.wanted]
 exact (key (t.getD j .undef)).trans (by rw [h];exact (key _).symm)
theorem qY.want_looks {o:qY} (h:qcF t t' o.looks):AE.wanted t o.guard = AE.wanted t' o.guard∧qcF t t' o.op.looks:=by
 unfold qY.looks at h
 split at h
 ·rename_i j b hg
  rw [hg]
  exact ⟨qcF.wanted (fun i hi=>h i (by simp at hi;simp [hi])),fun i hi=>h i (List.mem_cons_of_mem _ hi)⟩
 ·rename_i hg
  rw [hg]
  exact ⟨rfl,h⟩
end
section
variable {ms:List Nat} {t:List qa}
theorem qck (i:Nat):(qcs ms t)[i]? = (t[i]?).map fun x=>if ms.contains i then qa.undef else x:=by simp [qcs]
theorem qb0:(qcs ms t).length = t.length:=by simp [qcs]
theorem qhT:qcs [] t = t:=by
 apply List.ext_getElem?
 intro i
 rw [qck]
 simp
theorem qeV {i:Nat} (hi:i ∉ ms):(qcs ms t).getD i .undef = t.getD i .undef:=by
 rw [List.getD_eq_getElem?_getD,List.getD_eq_getElem?_getD,qck]
 simp [hi]
theorem qhU {i:Nat} {v:qa} (hi:i ∉ ms):(qcs ms t).set i v = qcs ms (t.set i v):=by
 have hc:ms.contains i = false:=by simpa using hi
 apply List.ext_getElem?
 intro j
 rw [qck,List.getElem?_set,List.getElem?_set,qck,qb0]
 by_cases e:i = j
 ·subst e
  by_cases hl:i < t.length <;> simp [hl,hi]
 ·simp [e]
theorem qfZ {x:qk} (h:∀i ∈ x.slot,i ∉ ms):raw (qcs ms t) x = raw t x:=by
 cases x with
 | c _=>rfl
 | t i=>exact qeV (h i (by simp [qk.slot]))
theorem qhG {x:qk} (h:∀i ∈ x.slot,i ∉ ms):ev (qcs ms t) x = ev t x:=by simp only [ev,qfZ h]
theorem qcM {dst:Option Nat} {v:qa} (h:∀d,dst = some d→d ∉ ms):AE.put dst v (qcs ms t) = qcs ms (AE.put dst v t):=by
 cases dst with
 | none=>rfl
 | some d=>exact qhU (h d rfl)
theorem qfz {x:qk} (h:∀i ∈ x.slot,i ∉ ms):qaF (qcs ms t) x = qcs ms (qaF t x):=by
 cases x with
 | c _=>rfl
 | t i=>
  have hi:=h i (by simp [qk.slot])
  simp only [qaF,qeV hi]
  split
  ·exact qhU hi
  ·rfl
theorem qe0 {l:List Nat} (h:∀i ∈ l,i ∉ ms):qcF (qcs ms t) t l:=fun i hi=>by rw [qeV (h i hi)]
theorem qm5 {k:Nat} {x:qk} {h:List qf} {e:Bool} (hx:∀i ∈ x.slot,i ∉ ms):qdR k [] x ⟨qcs ms t,h,e⟩ = (qdR k [] x ⟨t,h,e⟩).map fun r=>(r.1,{ r.2 with t:=qcs ms r.2.t}):=by
 cases x with
 | c _=>rfl
 | t i=>
  have hi:=hx i (by simp [qk.slot])
  simp only [qdR,qeV hi]
  split
  ·split
   ·simp only [Option.map_some,qhU hi]
   ·rfl
  ·rfl
theorem qhn {base:Nat} {call:AE.Call} {dst:Option Nat} {o:AOp} {h:List qf} {e:Bool} (hac:o.effs = true) (hl:∀i ∈ o.looks,i ∉ ms) (hd:∀d,dst = some d→d ∉ ms) :
  qq base call [] dst o ⟨qcs ms t,h,e⟩ = (qq base call [] dst o ⟨t,h,e⟩).map fun r=>(r.1,{ r.2 with t:=qcs ms r.2.t}):=by
 cases o <;> simp only [AOp.effs,Bool.false_eq_true] at hac <;> simp only [AOp.looks] at hl <;> simp only [qq]
 case asg x=>
  simp only [Option.map_some,qfZ hl,qfz hl,qcM hd]
 case st k a x=>
  have h1:∀i ∈ a.slot,i ∉ ms:=fun i hi=>hl i (List.mem_append_left _ hi)
  have h2:∀i ∈ x.slot,i ∉ ms:=fun i hi=>hl i (List.mem_append_right _ hi)
  rw [qhG h1,qfZ h2,qfz h2,qcM hd]
  split
  ·split
   ·cases k <;> simp only <;> split <;> rfl
   ·rfl
  ·rfl
 case call f as=>
  have h1:∀i ∈ f.slot,i ∉ ms:=fun i hi=>hl i (List.mem_append_left _ hi)
  have h2:∀i ∈ qe2 as,i ∉ ms:=fun i hi=>hl i (List.mem_append_right _ hi)
  rw [qhG h1,(qe0 h2).evs]
  split <;> simp only [Option.map_some,qcM hd,Option.map_none]
 case app k x y=>
  have h1:∀i ∈ x.slot,i ∉ ms:=fun i hi=>hl i (List.mem_append_left _ hi)
  have h2:∀i ∈ y.slot,i ∉ ms:=fun i hi=>hl i (List.mem_append_right _ hi)
  rw [qhG h2,qfZ h1]
  split
  ·split
   ·simp only [Option.map_some,qcM hd]
   ·split
    ·split
     ·simp only [Option.map_some,qcM hd]
     ·rw [qm5 h1]
      cases ht:qdR k [] x ⟨t,h,e⟩ with
      | none=>rfl
      | some r=>
       obtain ⟨xs,s⟩:=r
       simp only [Option.map_some]
       split
       ·simp only [Option.map_some,qcM hd]
       ·rfl
    ·rfl
  ·rfl
 case pan x=>
  rw [qhG hl]
  split <;> rfl
 case hx k as=>
  rw [(qe0 hl).evs]
  cases hop base k (as.map (ev t)) h with
  | none=>rfl
  | some r=>simp only [Option.map_some,qcM hd]
theorem qgK {i k:Nat} {xs:List qa} {j:Nat} (h:t.getD i .undef = .lst xs (.own j)):((t.set i (.lst xs .no)).getD k .undef).dim = (t.getD k .undef).dim:=by
 by_cases e:i = k
 ·subst e
  have hi:i < t.length:=by
   rcases Nat.lt_or_ge i t.length with h' | h'
   ·exact h'
   ·rw [List.getD_eq_getElem?_getD,List.getElem?_eq_none h'] at h;cases h
  rw [h,List.getD_eq_getElem?_getD,List.getElem?_set_self hi]
  rfl
 ·rw [List.getD_eq_getElem?_getD,List.getElem?_set_ne e,←List.getD_eq_getElem?_getD]
theorem qfy {x:qk} {k:Nat}:((qaF t x).getD k .undef).dim = (t.getD k .undef).dim:=by
 cases x with
 | c _=>rfl
 | t i=>
  simp only [qaF]
  split
  ·rename_i xs j hx
   exact qgK hx
  ·rfl
theorem qef {x:qk} {k:Nat} (hk:k ∉ x.slot):(qaF t x)[k]? = t[k]?:=by
 cases x with
 | c _=>rfl
 | t i=>
  have:i ≠ k:=fun e=>hk (by simp [qk.slot,e])
  simp only [qaF]
  split
  ·rw [List.getElem?_set_ne this]
  ·rfl
theorem qeg {x:qk}:(qaF t x).length = t.length:=by
 cases x with
 | c _=>rfl
 | t i=>simp only [qaF];split <;> simp
theorem put_get_ne {dst:Option Nat} {v:qa} {k:Nat} (h:dst ≠ some k):(AE.put dst v t)[k]? = t[k]?:=by
 cases dst with
 | none=>rfl
 | some d=>
  have:d ≠ k:=fun e=>h (by rw [e])
  simp [AE.put,List.getElem?_set_ne this]
theorem qbq {dst:Option Nat} {v:qa}:(AE.put dst v t).length = t.length:=by cases dst <;> simp [AE.put]
theorem qky {k:Nat} {x:qk} {s s':St} {xs:List qa} (h:qdR k [] x s = some (xs,s')):(∃i,x = .t i∧∃j,s.t.getD i .undef = .lst xs (.own j)∧s'.t = s.t.set i (.lst xs .no))∧s'.h = s.h∧s'.e = s.e:=by
 cases x with
 | c _=>cases h
 | t i=>
  simp only [qdR] at h
  split at h
  ·rename_i ys j hy
   split at h
   ·cases h;exact ⟨⟨i,rfl,j,hy,rfl⟩,rfl,rfl⟩
   ·cases h
  ·cases h
theorem qaP {t t':List qa} {k:Nat} (h:t'[k]? = t[k]?):t'.getD k .undef = t.getD k .undef:=by
 rw [List.getD_eq_getElem?_getD,List.getD_eq_getElem?_getD,h]
theorem qgH {base:Nat} {call:AE.Call} {dst:Option Nat} {o:AOp} {s s':St} (h:qq base call [] dst o s = some (.nor,s')) :
  s'.t.length = s.t.length∧∀k,dst ≠ some k→(s'.t.getD k .undef).dim = (s.t.getD k .undef).dim∧(k ∉ o.looks→s'.t[k]? = s.t[k]?):=by
 cases hac:o.effs with
 | false=>
  obtain ⟨_,v,hv,_⟩:=qdm hac h
  rw [hv]
  exact ⟨qbq,fun k hk=>⟨by rw [qaP (put_get_ne hk)],fun _=>put_get_ne hk⟩⟩
 | true=>
  cases o <;> simp only [AOp.effs,Bool.false_eq_true] at hac <;> simp only [qq] at h
  case asg x=>
   cases h
   refine ⟨by rw [qbq,qeg],fun k hk=>⟨by rw [qaP (put_get_ne hk),qfy],fun hl=>?_⟩⟩
   rw [put_get_ne hk,qef hl]
  case st k0 a x=>
   split at h
   ·split at h
    ·have key:s'.t = AE.put dst .undef (qaF s.t x):=by
      cases k0 <;> simp only at h <;> split at h <;> first | (cases h;done) | (cases h;rfl)
     rw [key]
     refine ⟨by rw [qbq,qeg],fun k hk=>⟨by rw [qaP (put_get_ne hk),qfy],fun hl=>?_⟩⟩
     rw [put_get_ne hk,qef (fun hx=>hl (by simp only [AOp.looks];exact List.mem_append_right _ hx))]
    ·cases h
   ·cases h
  case call f as=>
   split at h
   ·cases h
    exact ⟨qbq,fun k hk=>⟨by rw [qaP (put_get_ne hk)],fun _=>put_get_ne hk⟩⟩
   ·cases h
   ·cases h
  case app k0 x y=>
   split at h
   ·split at h
    ·cases h
     exact ⟨qbq,fun k hk=>⟨by rw [qaP (put_get_ne hk)],fun _=>put_get_ne hk⟩⟩
    ·split at h
     ·split at h
      ·cases h
       exact ⟨qbq,fun k hk=>⟨by rw [qaP (put_get_ne hk)],fun _=>put_get_ne hk⟩⟩
      ·split at h
       ·rename_i xs s1 hs1
        split at h
        ·cases h
         obtain ⟨⟨i,rfl,j,h1,h2⟩,_⟩:=qky hs1
         refine ⟨by simp [qbq,h2],fun k hk=>⟨by rw [qaP (put_get_ne hk)];simp only [h2];exact qgK h1,fun hl=>?_⟩⟩
         rw [put_get_ne hk]
         simp only [h2]
         rw [List.getElem?_set_ne]
         rintro rfl
         exact hl (by simp [AOp.looks,qk.slot])
        ·cases h
       ·cases h
     ·cases h
   ·cases h
  case pan x=>
   split at h
   ·cases h
   ·cases h
  case hx k0 as=>
   obtain ⟨r,_,he⟩:=qbT h
   cases he
   exact ⟨qbq,fun k hk=>⟨by rw [qaP (put_get_ne hk)],fun _=>put_get_ne hk⟩⟩
end
end Go.AE
namespace Go.AE
section
variable {P:Program} {gl:Nat→Option (List qa)} {G G':qd} {w w':World} {h:List qf} {t t':List qa} {a:Act} {n:Nat}
theorem qaE.poison {ts:Array Value} (hr:qaE G w t ts) (hl:t'.length = t.length) (h:∀(i:Nat) (y:qa),t'[i]? = some y→t[i]? = some y∨y = .undef):qaE G w t' ts:=by
 refine ⟨qh.of_get (by rw [hl];exact hr.rel.length) fun i x v hx hv=>?_,fun i xs k v hx hv=>?_⟩
 ·rcases h i x hx with h1 | rfl
  ·obtain ⟨u,hu,hr'⟩:=hr.rel.get h1
   rw [hv] at hu
   cases hu
   exact hr'
  ·obtain ⟨y,_,hr'⟩:=hr.rel.get' hv
   exact qrM hr'
 ·rcases h i _ hx with h1 | h1
  ·exact hr.own i xs k v h1 hv
  ·cases h1
theorem Rel.grow (hr:Rel P gl G h w) (g:List qf):Rel P gl G (h ++ g) w where
 γlt i b hb:=⟨Nat.lt_of_lt_of_le (hr.γlt i b hb).1 (by simp),(hr.γlt i b hb).2⟩
 inj i j b hi hj:=by
  rw [List.getElem?_append_left (hr.γlt i b hi).1,List.getElem?_append_left (hr.γlt j b hj).1]
  exact hr.inj i j b hi hj
 box i b bx hb hx:=hr.box i b bx hb (by rwa [List.getElem?_append_left (hr.γlt i b hb).1] at hx)
 imm:=hr.imm
 immγ b o v i hv hm hg:=by rw [List.getElem?_append_left (hr.γlt i b hg).1];exact hr.immγ b o v i hv hm hg
 immK:=hr.immK
 ow:=hr.ow
 glob:=hr.glob
def msk (U:List (qN×Option Nat)):List Nat:=U.filterMap (·.1.o.dst)
theorem qdL {U:List (qN×Option Nat)} {k:Nat}:k ∈ msk U↔∃x ∈ U,x.1.o.dst = some k:=by simp [msk,List.mem_filterMap]
def qrZ (t:List qa) (o:AOp) (cs:List qa):Prop:=
 (∃z,o = .new z∧cs = z.map qa.dim)∨∃k y,o = .box k y∧cs = (ev t y).cells.map qa.dim∧cs.all qa.storable = true
structure Lag (G:qd) (n:Nat) (pend:List (Nat×Chk)) (s:St) (x:qN×Option Nat):Prop where
 quiet:x.1.o.op.effs = false
 does:(wanted s.t x.1.o.guard = some false∧x.2 = none∧∀k y,x.1.o.dst = some k→s.t[k]? = some y→y = .tup [])∨
  (wanted s.t x.1.o.guard = some true∧∃v,(∀k y,x.1.o.dst = some k→s.t[k]? = some y→y = v)∧
   ((x.2 = none∧pureV s.t x.1.o.op = some v)∨
    (x.2 = none∧∃k q,x.1.o.op = .ld k q∧(x.1.ix,Chk.ld (ev s.t q) k v) ∈ pend∧qdh s.h (ev s.t q) k = some v)∨
    (x.2 = none∧∃sh z ok m key,x.1.o.op = .lk sh z ok m key∧(x.1.ix,Chk.lk sh z ok (ev s.t m) (ev s.t key) v) ∈ pend∧qk3 s.h sh z ok (ev s.t m) (ev s.t key) = some v)∨
    (∃id cs,x.2 = some id∧v = .ptr id 0∧qrZ s.t x.1.o.op cs∧(x.1.ix,Chk.box id cs) ∈ pend∧s.h[id]? = some (.cells cs))))
 young:∀id,x.2 = some id→n ≤ id∧id < s.h.length∧G.γ id = none
theorem Lag.keep {pend pend':List (Nat×Chk)} {s s':St} {x:qN×Option Nat} (hx:Lag G n pend s x) (h1:qcF s.t s'.t x.1.o.looks) (h2:∀k,x.1.o.dst = some k→s'.t[k]? = s.t[k]?)
  (h3:∀c,(x.1.ix,c) ∈ pend→c.Holds s.h→(x.1.ix,c) ∈ pend'∧c.Holds s'.h) (h4:∀id,x.2 = some id→id < s.h.length→G.γ id = none→id < s'.h.length∧G'.γ id = none):Lag G' n pend' s' x:=by
 obtain ⟨hg,hl⟩:=qY.want_looks h1
 refine ⟨hx.quiet,?_,fun id hid=>?_⟩
 ·rcases hx.does with ⟨d1,d2,d3⟩ | ⟨d1,v,d2,d3⟩
  ·exact .inl ⟨by rw [←hg];exact d1,d2,fun k y hk hy=>d3 k y hk (by rw [←h2 k hk];exact hy)⟩
  ·refine .inr ⟨by rw [←hg];exact d1,v,fun k y hk hy=>d2 k y hk (by rw [←h2 k hk];exact hy),?_⟩
   rcases d3 with ⟨e1,e2⟩ | ⟨e0,k,q,e1,e2,e3⟩ | ⟨e0,sh,z,ok,m,key,e1,e2,e3⟩ | ⟨id,cs,e1,e2,e3,e4,e5⟩
   ·exact .inl ⟨e1,by rw [←hl.pureV];exact e2⟩
   ·have hq:ev s.t q = ev s'.t q:=by rw [e1] at hl;exact qcF.ev hl
    obtain ⟨g1,g2⟩:=h3 _ e2 e3
    rw [hq] at g1 g2
    exact .inr (.inl ⟨e0,k,q,e1,g1,g2⟩)
   ·have hm:ev s.t m = ev s'.t m:=by rw [e1] at hl;exact qcF.ev hl.left
    have hk:ev s.t key = ev s'.t key:=by rw [e1] at hl;exact qcF.ev hl.right
    obtain ⟨g1,g2⟩:=h3 _ e2 e3
    rw [hm,hk] at g1 g2
    exact .inr (.inr (.inl ⟨e0,sh,z,ok,m,key,e1,g1,g2⟩))
   ·obtain ⟨g1,g2⟩:=h3 _ e4 e5
    refine .inr (.inr (.inr ⟨id,cs,e1,e2,?_,g1,g2⟩))
    rcases e3 with e3 | ⟨k,y,f1,f2,f3⟩
    ·exact .inl e3
    ·have hq:ev s.t y = ev s'.t y:=by rw [f1] at hl;exact qcF.ev hl
     exact .inr ⟨k,y,f1,by rw [←hq];exact f2,f3⟩
 ·obtain ⟨g1,g2,g3⟩:=hx.young id hid
  exact ⟨g1,h4 id hid g2 g3⟩
def qyz (x y:qN):Prop:=(∀d,y.o.dst = some d→d ∈ x.o.looks→x.cl.testBit y.ix = true)∧(∀d,y.o.dst = some d→x.o.dst ≠ some d)
theorem qkd {x y:qN} (h:qdr x y = true) (hx:x.o.op.effs = false) (hy:y.o.op.effs = false):qyz x y∧qyz y x∧x.ix ≠ y.ix:=by
 simp only [qdr,Bool.and_eq_true,bne_iff_ne,ne_eq,Bool.or_eq_true,hx,hy,Bool.not_false,Bool.true_and,Bool.false_and,Bool.false_eq_true,false_or] at h
 obtain ⟨⟨h1,h2⟩,h3⟩:=h
 refine ⟨⟨fun d hd hl=>?_,fun d hd he=>?_⟩,⟨fun d hd hl=>?_,fun d hd he=>?_⟩,h1⟩
 ·rw [hd] at h3;simp at h3;exact absurd hl h3.1
 ·rw [hd] at h3;simp at h3;exact absurd he h3.2
 ·rw [hd] at h2
  rcases h2 with h2 | h2
  ·exact h2
  ·simp at h2;exact absurd hl h2
 ·rw [he] at h3;simp at h3;exact absurd hd h3.2
theorem qhh {x y:qN} (h:qdr x y = true) (hn:y.cl.testBit x.ix = false):(∀d,x.o.dst = some d→d ∉ y.o.looks)∧(∀d,y.o.dst = some d→d ∉ x.o.looks∧x.o.dst ≠ some d):=by
 simp only [qdr,Bool.and_eq_true,bne_iff_ne,ne_eq,Bool.or_eq_true,hn,Bool.false_eq_true,false_or,and_false,Bool.not_eq_true'] at h
 obtain ⟨⟨h1,h2,h2'⟩,h3⟩:=h
 refine ⟨fun d hd=>?_,fun d hd=>?_⟩
 ·rw [hd] at h2';simpa using h2'
 ·rw [hd] at h3;simpa using h3
theorem qiZ {U U':List (qN×Option Nat)} {x:qN×Option Nat} {v:qa} (hU:∀y,y ∈ U'↔y ∈ U∧y.1.ix ≠ x.1.ix) (hx:x ∈ U) (huniq:∀y ∈ U,y.1.ix = x.1.ix→y = x)
  (hfree:∀y ∈ U,y.1.ix ≠ x.1.ix→qyz y.1 x.1) (hv:∀k y,x.1.o.dst = some k→t[k]? = some y→y = v):AE.put x.1.o.dst v (qcs (msk U) t) = qcs (msk U') t:=by
 have hother:∀k,x.1.o.dst ≠ some k→((msk U).contains k = (msk U').contains k):=by
  intro k hk
  rw [Bool.eq_iff_iff]
  simp only [List.contains_iff_mem,qdL]
  constructor
  ·rintro ⟨y,hy,hd⟩
   refine ⟨y,(hU y).2 ⟨hy,fun e=>?_⟩,hd⟩
   rw [huniq y hy e] at hd
   exact hk hd
  ·rintro ⟨y,hy,hd⟩
   exact ⟨y,((hU y).1 hy).1,hd⟩
 apply List.ext_getElem?
 intro k
 by_cases hd:x.1.o.dst = some k
 ·rw [hd]
  simp only [AE.put]
  rw [List.getElem?_set,if_pos rfl,qb0,qck]
  have hc:(msk U').contains k = false:=by
   rw [Bool.eq_false_iff]
   intro hc
   simp only [List.contains_iff_mem,qdL] at hc
   obtain ⟨y,hy,hyd⟩:=hc
   obtain ⟨h1,h2⟩:=(hU y).1 hy
   exact (hfree y h1 h2).2 k hd hyd
  rw [hc]
  by_cases hl:k < t.length
  ·rw [if_pos hl,List.getElem?_eq_getElem hl]
   simp only [Option.map_some,Bool.false_eq_true,if_false]
   rw [hv k _ hd (List.getElem?_eq_getElem hl)]
  ·rw [if_neg hl,List.getElem?_eq_none (Nat.le_of_not_lt hl)]
   rfl
 ·rw [put_get_ne hd,qck,qck,hother k hd]
theorem qxe {U:List (qN×Option Nat)} {x:qN×Option Nat} {v:qa} {i:Nat} {y:qa} (hy:(qcs (msk (x :: U)) (AE.put x.1.o.dst v t))[i]? = some y):(qcs (msk U) t)[i]? = some y∨y = .undef:=by
 rw [qck] at hy ⊢
 by_cases hc:(msk (x :: U)).contains i = true
 ·rw [Option.map_eq_some_iff] at hy
  obtain ⟨z,_,hz⟩:=hy
  rw [if_pos hc] at hz
  exact .inr hz.symm
 ·have hd:x.1.o.dst ≠ some i:=fun e=>hc (by simp only [List.contains_iff_mem,qdL];exact ⟨x,List.mem_cons_self ..,e⟩)
  have hc':¬(msk U).contains i = true:=fun e=>hc (by
   simp only [List.contains_iff_mem,qdL] at e ⊢
   obtain ⟨z,h1,h2⟩:=e
   exact ⟨z,List.mem_cons_of_mem _ h1,h2⟩)
  rw [put_get_ne hd] at hy
  simp only [hc,hc',Bool.false_eq_true,if_false] at hy ⊢
  exact .inl hy
theorem qtD (hc:Cfg P gl G h t a w) {o:Oper} {ao:AOp} (hcomp:qcf P gl o = some ao) {cs:List qa} (hnew:qrZ t ao cs) {id:Nat} (hid:h[id]? = some (.cells cs)) (hγ:G.γ id = none) (hn:n ≤ id) :
  ∃u w',(execOp a.eval o).run P w = .ok (.value u) w'∧Ext n G w (G.withBox id w.heap.size) w'∧Cfg P gl (G.withBox id w.heap.size) h (AE.put o.dst (.ptr id 0) t) (a.put o.dst u) w':=by
 have key:∀{cs0:List qa} {c:Array Value} {e:TypeId},G.VL cs0 c.toList→cs = cs0.map qa.dim→(execOp a.eval o).run P w = .ok (.value (.pointer (some ⟨w.heap.size,0,none⟩))) (w.alloc (.cells c e))→
   ∃u w',(execOp a.eval o).run P w = .ok (.value u) w'∧Ext n G w (G.withBox id w.heap.size) w'∧Cfg P gl (G.withBox id w.heap.size) h (AE.put o.dst (.ptr id 0) t) (a.put o.dst u) w':=by
  rintro cs0 c e hcs rfl h1
  have hext:Ext n G w (G.withBox id w.heap.size) (w.alloc (.cells c e)):=Ext.newBox hγ hn _
  have hrel:=hc.rel.newBox (o:=.cells c e) (bx:=.cells (cs0.map qa.dim)) (h':=h) hγ (Nat.le_refl _) (List.getElem?_eq_some_iff.1 hid).1 (fun _ _ _ _=>rfl) hid
   ⟨c,e,qZ w _,qeK (hext.VL hcs).dims,fun o xs k v ho _=>(qiT ho).elim⟩
  obtain ⟨m,hm⟩:=qao t
  have htr:qaE (G.withBox id w.heap.size) (w.alloc (.cells c e)) t a.tmps:=
   hc.tr.keep hm hext.ik (fun i b _=>hext.gk i b) (fun _ _ h=>h) (fun b i hb=>qP w _ (hc.rel.ow b _ hb).1) (fun _ _ _ _ h=>h)
  refine ⟨_,_,h1,hext,(Cfg.mk hrel htr).put o.dst ?_ rfl⟩
  simp only [qd.V,qt,qd.withBox,if_true]
  exact ⟨_,rfl,rfl⟩
 rcases hnew with ⟨z,rfl,hz⟩ | ⟨k,y,rfl,hy,hs⟩
 ·obtain ⟨e,z',ho,hzz,rfl⟩:=(qb4 hcomp).2.2.2.2.2.1 z rfl
  obtain ⟨u,hu,hr⟩:=qc6 hzz w
  refine key (hr _ _) hz (c:=u.cells) (e:=e) ?_
  simp only [execOp,ho]
  refine qdo ?_
  simp [Instr.alloc,hu,newVar,newRow]
 ·obtain ⟨e,x,ho,hx⟩:=(qb4 hcomp).2.2.2.2.2.2 k y rfl
  have hv:=qQ hc.rel hc.tr hx
  have hs':(ev t y).cells.all qa.storable = true:=by
   rw [hy,List.all_map] at hs
   rw [List.all_eq_true] at hs ⊢
   intro z hz
   have:=hs z hz
   cases z <;> first | exact this | rfl
  refine key (qbO hv hs').1 hy (e:=e) ?_
  simp only [execOp,ho]
  refine qdo ?_
  simp [Instr.box,newVar,newRow]
theorem qmY {base:Nat} {call:AE.Call} {p:qco} {dst:Option Nat} {o:AOp} {s:St} {v:qa} (h:pureV s.t o = some v):qq base call p dst o s = some (.nor,{ s with t:=AE.put dst v s.t}):=by
 cases o <;> first
  | (simp only [qq,h,Option.map_some];done)
  | (simp [pureV] at h;done)
theorem qub {o:AOp} {s:St} {v:qa} (h:pureV s.t o = some v):qeC s o = none:=by
 cases o <;> first
  | rfl
  | (simp [pureV] at h;done)
theorem qiK {cl:List Nat} {j:Nat}:∀{es:List Nat} {m:Nat},(es.foldl (fun m e=>m ||| 1 <<< e ||| cl.getD e 0) m).testBit j = true→m.testBit j = true∨j ∈ es∨∃e ∈ es,(cl.getD e 0).testBit j = true
 | [],m,h=>.inl h
 | e :: es,m,h=>by
  simp only [List.foldl_cons] at h
  rcases qiK h with h | h | ⟨e',h1,h2⟩
  ·simp only [Nat.testBit_or,Bool.or_eq_true] at h
   rcases h with (h | h) | h
   ·exact .inl h
   ·refine .inr (.inl ?_)
    rw [Nat.one_shiftLeft,Nat.testBit_two_pow] at h
    simp at h
    simp [h]
   ·exact .inr (.inr ⟨e,by simp,h⟩)
  ·exact .inr (.inl (List.mem_cons_of_mem _ h))
  ·exact .inr (.inr ⟨e',List.mem_cons_of_mem _ h1,h2⟩)
end
end Go.AE
namespace Go.AE
structure qh9 (P:Program) (gl:Nat→Option (List qa)) (ops:Array Oper) (cl:List Nat) (xx:Nat×Nat) (all:List qN):Prop where
 comp:∀d ∈ all,∃o,ops[d.ix]? = some o∧qb3 P gl ops o = some d.o∧d.cl = cl.getD d.ix 0∧d.cl = qtC cl (qeF o)
 cover:∀i,i < ops.size→∃d ∈ all,d.ix = i
 order:qfO xx (ops.toList.map qeF) [] all = true
 selfs:∀d ∈ all,qgJ d = true
structure Inv (P:Program) (gl:Nat→Option (List qa)) (ops:Array Oper) (xx:Nat×Nat) (all:List qN) (n:Nat) (listed:Array Bool) (a:Act) (G:qd) (w:World)
  (pre:List qN) (alts:List (List qN)) (U:List (qN×Option Nat)) (pend:List (Nat×Chk)) (s:St):Prop where
 cfg:Cfg P gl G s.h (qcs (msk U) s.t) a w
 lag:∀x ∈ U,Lag G n pend s x
 free:∀x ∈ U,∀y ∈ U,y.1.ix ≠ x.1.ix→qyz y.1 x.1
 uniq:∀x ∈ U,∀y ∈ U,y.1.ix = x.1.ix→y = x
 ids:∀x ∈ U,∀y ∈ U,∀id,x.2 = some id→y.2 = some id→y = x
 inPre:∀x ∈ U,x.1 ∈ pre
 ord:∀ds ∈ alts,qfO xx (ops.toList.map qeF) pre ds = true
 mem:∀ds ∈ alts,∀d,d ∈ all↔(d ∈ pre∨d ∈ ds)
 ne:∃ds,ds ∈ alts
 l1:∀d ∈ pre,listed.getD d.ix false = true∨∃x ∈ U,x.1 = d
 l2:∀x ∈ U,listed.getD x.1.ix true = false
 l3:∀ds ∈ alts,∀d ∈ ds,listed.getD d.ix true = false
 size:listed.size = ops.size
 closed:∀d ∈ all,listed.getD d.ix false = true→∀j,d.cl.testBit j = true→listed.getD j false = true
 hlen:n ≤ s.h.length
section
variable {P:Program} {gl:Nat→Option (List qa)} {ops:Array Oper} {xx:Nat×Nat} {all:List qN} {alts:List (List qN)} {cl:List Nat} {n:Nat} {listed:Array Bool} {a:Act} {G G':qd} {w w':World}
 {pre ds:List qN} {U:List (qN×Option Nat)} {pend:List (Nat×Chk)} {s:St}
def qke (xx:Nat×Nat) (a b:qN):Bool:=qdr a b || qlJ xx a b
theorem qfk {a b:qN} (h:qke xx a b = true) (ha:a.o.op.effs = false):qdr a b = true:=by
 simp only [qke,qlJ,ha,Bool.false_and,Bool.and_false,Bool.or_false] at h
 exact h
theorem qdN {a b:qN} (h:qke xx a b = true):a.ix ≠ b.ix:=by
 intro e
 simp [qke,qdr,qlJ,e] at h
theorem qaW {ess:List (List Nat)} {d:qN} (h:qfO xx ess pre (d :: ds) = true):(∀e ∈ ess.getD d.ix [],∃x ∈ pre,x.ix = e)∧(∀x ∈ pre,qke xx x d = true)∧qgJ d = true∧qfO xx ess (d :: pre) ds = true:=by
 simp only [qfO,Bool.and_eq_true,List.all_eq_true,List.any_eq_true,beq_iff_eq] at h
 exact ⟨h.1.1.1,h.1.1.2,h.1.2,h.2⟩
theorem qhg {ess:List (List Nat)}:∀{ds pre:List qN},qfO xx ess pre ds = true→∀d ∈ ds,qgJ d = true
 | [],_,_,d,hd=>by cases hd
 | x :: ds,pre,h,d,hd=>by
  obtain ⟨_,_,h3,h4⟩:=qaW h
  rcases List.mem_cons.1 hd with rfl | hd
  ·exact h3
  ·exact qhg h4 d hd
theorem qbK {ess:List (List Nat)}:∀{ds pre:List qN} {x:qN},qfO xx ess pre ds = true→x ∈ pre→∀d ∈ ds,qke xx x d = true
 | [],_,_,_,_,d,hd=>by cases hd
 | y :: ds,pre,x,h,hx,d,hd=>by
  obtain ⟨_,h2,_,h4⟩:=qaW h
  rcases List.mem_cons.1 hd with rfl | hd
  ·exact h2 x hx
  ·exact qbK h4 (List.mem_cons_of_mem _ hx) d hd
theorem Inv.push {d:qN} {rests:List (List qN)} (hi:Inv P gl ops xx all n listed a G w pre (rests.map (d :: ·)) U pend s) (hq:d.o.op.effs = false) {s1:St} {v:qa} {g:List qf} {pend':List (Nat×Chk)} {oid:Option Nat}
  (ht:s1.t = AE.put d.o.dst v s.t) (hh:s1.h = s.h ++ g) (hp:∀c,c ∈ pend→c ∈ pend') (hoid:∀id,oid = some id→s.h.length ≤ id) (hlag:Lag G n pend' s1 (d,oid)) :
  Inv P gl ops xx all n listed a G w (d :: pre) rests ((d,oid) :: U) pend' s1:=by
 obtain ⟨_,hds⟩:=hi.ne
 obtain ⟨rest,hrest,rfl⟩:=List.mem_map.1 hds
 have put:∀{r},r ∈ rests→(d :: r) ∈ rests.map (d :: ·):=fun hr=>List.mem_map_of_mem hr
 obtain ⟨ho1,ho2x,ho3,_⟩:=qaW (hi.ord _ hds)
 have ho2:∀x ∈ U,qdr x.1 d = true:=fun x hx=>qfk (ho2x _ (hi.inPre x hx)) (hi.lag x hx).quiet
 have hfr:∀x ∈ U,qyz x.1 d∧qyz d x.1∧x.1.ix ≠ d.ix:=fun x hx=>qkd (ho2 x hx) (hi.lag x hx).quiet hq
 have hfd:∀x ∈ U,∀k,d.o.dst = some k→k ∉ x.1.o.looks:=fun x hx k hk hl=>by
  have hpk:=ho2 x hx
  simp only [qdr,hk,hq,Bool.and_eq_true,Bool.false_and,Bool.false_or] at hpk
  have:=hpk.2.1
  simp at this
  exact this hl
 refine ⟨⟨by rw [hh];exact hi.cfg.rel.grow g,?_⟩,?_,?_,?_,?_,?_,fun ds hd=>(qaW (hi.ord _ (put hd))).2.2.2,?_,⟨rest,hrest⟩,?_,?_,?_,hi.size,hi.closed,by rw [hh];simp;have:=hi.hlen;omega⟩
 ·refine hi.cfg.tr.poison (by rw [qb0,qb0,ht,qbq]) fun i y hy=>?_
  rw [ht] at hy
  exact qxe (x:=(d,oid)) hy
 ·intro x hx
  rcases List.mem_cons.1 hx with rfl | hx
  ·exact hlag
  ·refine (hi.lag x hx).keep (fun i hl=>?_) (fun k hk=>?_) (fun c hc hho=>⟨hp _ hc,?_⟩) (fun id _ hlt hγ=>⟨by rw [hh];simp;omega,hγ⟩)
   ·rw [ht,qaP (put_get_ne fun e=>hfd x hx i e hl)]
   ·rw [ht,put_get_ne fun e=>(hfr x hx).1.2 k e hk]
   ·rw [hh];exact hho.append
 ·intro x hx y hy hne
  rcases List.mem_cons.1 hx with rfl | hx <;> rcases List.mem_cons.1 hy with rfl | hy
  ·exact absurd rfl hne
  ·exact (hfr y hy).1
  ·exact (hfr x hx).2.1
  ·exact hi.free x hx y hy hne
 ·intro x hx y hy he
  rcases List.mem_cons.1 hx with rfl | hx <;> rcases List.mem_cons.1 hy with rfl | hy
  ·rfl
  ·exact absurd he (hfr y hy).2.2
  ·exact absurd he.symm (hfr x hx).2.2
  ·exact hi.uniq x hx y hy he
 ·intro x hx y hy id h1 h2
  rcases List.mem_cons.1 hx with rfl | hx <;> rcases List.mem_cons.1 hy with rfl | hy
  ·rfl
  ·have:=(hi.lag y hy).young id h2
   have:=hoid id h1
   omega
  ·have:=(hi.lag x hx).young id h1
   have:=hoid id h2
   omega
  ·exact hi.ids x hx y hy id h1 h2
 ·intro x hx
  rcases List.mem_cons.1 hx with rfl | hx
  ·exact List.mem_cons_self ..
  ·exact List.mem_cons_of_mem _ (hi.inPre x hx)
 ·intro ds hd e
  rw [hi.mem _ (put hd) e,List.mem_cons,List.mem_cons]
  constructor
  ·rintro (h1 | h1 | h1)
   ·exact .inl (.inr h1)
   ·exact .inl (.inl h1)
   ·exact .inr h1
  ·rintro ((h1 | h1) | h1)
   ·exact .inr (.inl h1)
   ·exact .inl h1
   ·exact .inr (.inr h1)
 ·intro e he
  rcases List.mem_cons.1 he with rfl | he
  ·exact .inr ⟨(e,oid),List.mem_cons_self ..,rfl⟩
  ·rcases hi.l1 e he with h1 | ⟨x,h1,h2⟩
   ·exact .inl h1
   ·exact .inr ⟨x,List.mem_cons_of_mem _ h1,h2⟩
 ·intro x hx
  rcases List.mem_cons.1 hx with rfl | hx
  ·exact hi.l3 _ hds d (List.mem_cons_self ..)
  ·exact hi.l2 x hx
 ·exact fun ds hd e he=>hi.l3 _ (put hd) e (List.mem_cons_of_mem _ he)
theorem qi6 {d:qN} (hs:qgJ d = true) (hq:d.o.op.effs = false):∀k,d.o.dst = some k→k ∉ d.o.looks:=by
 intro k hk
 simp only [qgJ,hq,hk,Bool.false_or,Bool.not_eq_true',List.contains_eq_mem,decide_eq_false_iff_not] at hs
 exact hs
theorem qlb {d:qN} (hs:qgJ d = true) (hq:d.o.op.effs = false) (v:qa) (t:List qa):qcF t (AE.put d.o.dst v t) d.o.looks:=fun i hi=>by
 rw [qaP (put_get_ne fun e=>qi6 hs hq i e hi)]
theorem qlc {dst:Option Nat} {v:qa} {t:List qa} {k:Nat} {y:qa} (hk:dst = some k) (hy:(AE.put dst v t)[k]? = some y):y = v:=by
 subst hk
 simp only [AE.put,List.getElem?_set] at hy
 split at hy
 ·split at hy
  ·cases hy;rfl
  ·cases hy
 ·rename_i hh;exact absurd trivial hh
theorem qjm {base:Nat} {call:AE.Call} {dsts:List Nat} {x:Ex} {s':St} {tails:List (List qN)}:∀(c pre:List qN) (U:List (qN×Option Nat)) (pend:List (Nat×Chk)) (s:St),Inv P gl ops xx all n listed a G w pre (tails.map (c ++ ·)) U pend s→base ≤ s.h.length→
  (∀t ∈ tails,qK base call dsts (c ++ t) pend s = some (x,s'))→∃pre' c' U' pend' s1,Inv P gl ops xx all n listed a G w pre' (tails.map (c' ++ ·)) U' pend' s1∧base ≤ s1.h.length∧(∀t ∈ tails,qK base call dsts (c' ++ t) pend' s1 = some (x,s'))∧
   (∀d rest,c' = d :: rest→d.o.op.effs = true)∧U'.length + c'.length = U.length + c.length∧(∀d ∈ pre,d ∈ pre')
 | [],pre,U,pend,s,hi,hb,hr=>⟨pre,[],U,pend,s,hi,hb,hr,fun _ _ h=>(by cases h),rfl,fun _ h=>h⟩
 | d :: rest,pre,U,pend,s,hi,hb,hr=>by
  cases hq:d.o.op.effs with
  | true=>exact ⟨pre,d :: rest,U,pend,s,hi,hb,hr,fun _ _ h=>by cases h;exact hq,rfl,fun _ h=>h⟩
  | false=>
   have halts:tails.map ((d :: rest) ++ ·) = (tails.map (rest ++ ·)).map (d :: ·):=by simp
   obtain ⟨_,hds⟩:=hi.ne
   obtain ⟨t0,ht0,rfl⟩:=List.mem_map.1 hds
   obtain ⟨_,_,hself,_⟩:=qaW (hi.ord _ hds)
   have hra:=hr
   replace hr:=hr t0 ht0
   rw [halts] at hi
   simp only [List.cons_append,qK,hq,Bool.false_eq_true,if_false] at hr hra
   have fin:∀{s1:St} {pend':List (Nat×Chk)} {oid:Option Nat},Inv P gl ops xx all n listed a G w (d :: pre) (tails.map (rest ++ ·)) ((d,oid) :: U) pend' s1→base ≤ s1.h.length→(∀t ∈ tails,qK base call dsts (rest ++ t) pend' s1 = some (x,s'))→
     ∃pre' c' U' pend' s1,Inv P gl ops xx all n listed a G w pre' (tails.map (c' ++ ·)) U' pend' s1∧base ≤ s1.h.length∧(∀t ∈ tails,qK base call dsts (c' ++ t) pend' s1 = some (x,s'))∧
      (∀d rest,c' = d :: rest→d.o.op.effs = true)∧U'.length + c'.length = U.length + (d :: rest).length∧(∀d ∈ pre,d ∈ pre'):=by
    intro s1 pend' oid hi' hb' hr'
    obtain ⟨pre'',ds'',U'',pend'',s2,h1,h2,h3,h4,h5,h6⟩:=qjm rest _ _ _ _ hi' hb' hr'
    exact ⟨pre'',ds'',U'',pend'',s2,h1,h2,h3,h4,by rw [h5];simp;omega,fun e he=>h6 e (List.mem_cons_of_mem _ he)⟩
   split at hr
   ·rename_i hw
    split at hr
    ·rename_i s1 hop
     simp only [hw,hop] at hra
     obtain ⟨_,v,hv,hve,hcase⟩:=qdm hq hop
     have hsame:qcF s.t s1.t d.o.looks:=by rw [hv];exact qlb hself hq v s.t
     obtain ⟨hg,hl⟩:=qY.want_looks hsame
     have hdst:∀k y,d.o.dst = some k→s1.t[k]? = some y→y = v:=fun k y hk hy=>by rw [hv] at hy;exact qlc hk hy
     rcases hcase with ⟨hh,hpure | ⟨k,q,hop',hld⟩ | ⟨sh,z,ok,m,key,hop',hld⟩⟩ | ⟨cs,hh,hvv,hchk⟩
     ·simp only [qub hpure] at hra
      refine fin (hi.push (oid:=none) (g:=[]) hq hv (by simp [hh]) (fun _ h=>h) (fun _ h=>by cases h) ⟨hq,.inr ⟨by rw [←hg];exact hw,v,hdst,.inl ⟨rfl,by rw [←hl.pureV];exact hpure⟩⟩,fun _ h=>by cases h⟩) (by rw [hh];exact hb) hra
     ·have hchk:qeC s d.o.op = some (.ld (ev s.t q) k v):=by simp only [hop',qeC,hld,Option.map_some]
      simp only [hchk] at hra
      have hq':ev s.t q = ev s1.t q:=by rw [hop'] at hl;exact qcF.ev hl
      refine fin (hi.push (oid:=none) (g:=[]) hq hv (by simp [hh]) (fun _ h=>List.mem_cons_of_mem _ h) (fun _ h=>by cases h)
       ⟨hq,.inr ⟨by rw [←hg];exact hw,v,hdst,.inr (.inl ⟨rfl,k,q,hop',by rw [←hq'];exact List.mem_cons_self ..,by rw [←hq',hh];exact hld⟩)⟩,fun _ h=>by cases h⟩) (by rw [hh];exact hb) hra
     ·have hchk:qeC s d.o.op = some (.lk sh z ok (ev s.t m) (ev s.t key) v):=by simp only [hop',qeC,hld,Option.map_some]
      simp only [hchk] at hra
      have hm':ev s.t m = ev s1.t m:=by rw [hop'] at hl;exact qcF.ev hl.left
      have hk':ev s.t key = ev s1.t key:=by rw [hop'] at hl;exact qcF.ev hl.right
      refine fin (hi.push (oid:=none) (g:=[]) hq hv (by simp [hh]) (fun _ h=>List.mem_cons_of_mem _ h) (fun _ h=>by cases h)
       ⟨hq,.inr ⟨by rw [←hg];exact hw,v,hdst,.inr (.inr (.inl ⟨rfl,sh,z,ok,m,key,hop',by rw [←hm',←hk'];exact List.mem_cons_self ..,by rw [←hm',←hk',hh];exact hld⟩))⟩,fun _ h=>by cases h⟩) (by rw [hh];exact hb) hra
     ·simp only [hchk] at hra
      have hnew:qrZ s1.t d.o.op cs:=by
       cases hopc:d.o.op <;> rw [hopc] at hchk <;> simp only [qeC,Option.some.injEq,Chk.box.injEq,true_and,Option.map_eq_some_iff,reduceCtorEq,and_false,exists_false] at hchk
       case new z=>exact .inl ⟨z,rfl,hchk.symm⟩
       case box k y=>
        rw [hopc] at hl hop
        have hq':ev s.t y = ev s1.t y:=qcF.ev hl
        simp only [qq] at hop
        split at hop
        ·rename_i hcond
         exact .inr ⟨k,y,rfl,by rw [←hq'];exact hchk.symm,by rw [←hchk];exact hcond.2⟩
        ·cases hop
      have hget:s1.h[s.h.length]? = some (.cells cs):=by rw [hh];simp
      refine fin (hi.push (oid:=some s.h.length) (g:=[.cells cs]) hq hv hh (fun _ h=>List.mem_cons_of_mem _ h) (fun _ h=>by cases h;exact Nat.le_refl _)
       ⟨hq,.inr ⟨by rw [←hg];exact hw,v,hdst,.inr (.inr (.inr ⟨s.h.length,cs,rfl,hvv,hnew,List.mem_cons_self ..,hget⟩))⟩,fun id h=>by
        cases h
        refine ⟨hi.hlen,by rw [hh];simp,?_⟩
        cases hg:G.γ s.h.length with
        | none=>rfl
        | some b=>have:=(hi.cfg.rel.γlt _ b hg).1;omega⟩) (by rw [hh];simp;omega) hra
    ·cases hr
    ·cases hr
   ·rename_i hw
    simp only [hw] at hra
    have hsame:qcF s.t (AE.put d.o.dst (.tup []) s.t) d.o.looks:=qlb hself hq _ s.t
    obtain ⟨hg,hl⟩:=qY.want_looks hsame
    refine fin (hi.push (s1:={ s with t:=AE.put d.o.dst (.tup []) s.t}) (oid:=none) (g:=[]) hq rfl (by simp) (fun _ h=>h) (fun _ h=>by cases h)
     ⟨hq,.inl ⟨by rw [←hg];exact hw,rfl,fun k y hk hy=>qlc hk hy⟩,fun _ h=>by cases h⟩) hb hra
   ·cases hr
end
end Go.AE
namespace Go.AE
section
variable {P:Program} {gl:Nat→Option (List qa)} {ops:Array Oper} {xx:Nat×Nat} {all:List qN} {alts:List (List qN)} {cl:List Nat} {n:Nat} {listed:Array Bool} {a:Act} {G G':qd} {w w':World}
 {pre ds:List qN} {U:List (qN×Option Nat)} {pend:List (Nat×Chk)} {s:St}
theorem qiS {o:Oper} {e:Nat}:e ∈ qeF o↔∃x ∈ o.after,Region.binds .any x = true∧x.on = e:=by
 simp only [qeF,List.mem_map,List.mem_filter,Array.mem_toList_iff,and_assoc]
theorem qoR {i:Nat} (h:listed.getD i false = true):i < listed.size:=by
 rcases Nat.lt_or_ge i listed.size with h' | h'
 ·exact h'
 ·simp [Array.getElem?_eq_none h'] at h
theorem qcV {i:Nat} (h:listed.getD i true = false):listed.getD i false = false:=by
 rcases Nat.lt_or_ge i listed.size with h' | h'
 ·simpa [h'] using h
 ·simp [Array.getElem?_eq_none h'] at h
theorem qwL {i:Nat} (hl:i < listed.size) (h:listed.getD i false ≠ true):listed.getD i true = false:=by
 simpa [hl] using h
theorem qeN {i:Nat} (hl:i < listed.size) (b:Bool):(listed.setIfInBounds i true).getD i b = true:=by
 simp [hl]
theorem Inv.cl_listed (hst:qh9 P gl ops cl xx all) (hi:Inv P gl ops xx all n listed a G w pre alts U pend s) {d:qN} (hd:d ∈ all) (hr:d.ix ∈ Region.ready .any ops listed) {j:Nat} (hj:d.cl.testBit j = true):listed.getD j false = true:=by
 obtain ⟨_,o,ho,hall⟩:=mem_ready.1 hr
 obtain ⟨o',ho',_,_,hcl⟩:=hst.comp d hd
 rw [ho] at ho'
 cases ho'
 have hes:∀e ∈ qeF o,listed.getD e false = true:=fun e he=>by
  obtain ⟨x,h1,h2,rfl⟩:=qiS.1 he
  exact hall x h1 h2
 rw [hcl] at hj
 rcases qiK hj with h | h | ⟨e,h1,h2⟩
 ·simp at h
 ·exact hes j h
 ·have hl:=hes e h1
  obtain ⟨d',hd',he⟩:=hst.cover e (by rw [←hi.size];exact qoR hl)
  subst he
  obtain ⟨_,_,_,hc,_⟩:=hst.comp d' hd'
  exact hi.closed d' hd' hl j (by rw [hc];exact h2)
theorem qg1 (hst:qh9 P gl ops cl xx all) (hsz:listed.size = ops.size) (hr:Region.ready .any ops listed = []):∀(ds pre:List qN),(∀d ∈ ds,d ∈ all)→qfO xx (ops.toList.map qeF) pre ds = true→
  (∀x ∈ pre,listed.getD x.ix false = true)→∀d ∈ ds,listed.getD d.ix false = true
 | [],_,_,_,_,d,hd=>by cases hd
 | y :: ds,pre,hsub,ho,hp,d,hd=>by
  obtain ⟨h1,_,_,h4⟩:=qaW ho
  have hy:listed.getD y.ix false = true:=by
   refine Classical.byContradiction fun hn=>?_
   obtain ⟨o,hoo,_⟩:=hst.comp y (hsub y (List.mem_cons_self ..))
   have hlt:y.ix < ops.size:=(Array.getElem?_eq_some_iff.1 hoo).1
   have:y.ix ∈ Region.ready .any ops listed:=by
    refine mem_ready.2 ⟨qwL (by rw [hsz];exact hlt) hn,o,hoo,fun e he hb=>?_⟩
    have hess:(ops.toList.map qeF).getD y.ix [] = qeF o:=by
     rw [List.getD_eq_getElem?_getD,List.getElem?_map,Array.getElem?_toList,hoo]
     rfl
    obtain ⟨x,hx,hxe⟩:=h1 e.on (by rw [hess];exact qiS.2 ⟨e,he,hb,rfl⟩)
    rw [←hxe]
    exact hp x hx
   rw [hr] at this
   cases this
  rcases List.mem_cons.1 hd with rfl | hd
  ·exact hy
  ·exact qg1 hst hsz hr ds (y :: pre) (fun d hd=>hsub d (List.mem_cons_of_mem _ hd)) h4 (fun x hx=>by
    rcases List.mem_cons.1 hx with rfl | hx
    ·exact hy
    ·exact hp x hx) d hd
theorem Inv.finished (hst:qh9 P gl ops cl xx all) (hi:Inv P gl ops xx all n listed a G w pre alts U pend s) (hr:Region.ready .any ops listed = []):U = []∧∀ds ∈ alts,ds = []:=by
 have hall:=qg1 hst hi.size hr all [] (fun _ h=>h) hst.order (fun _ h=>by cases h)
 obtain ⟨ds0,hds0⟩:=hi.ne
 constructor
 ·cases U with
  | nil=>rfl
  | cons x U=>
   have h1:=hi.l2 x (List.mem_cons_self ..)
   have h2:=hall x.1 ((hi.mem _ hds0 x.1).2 (.inl (hi.inPre x (List.mem_cons_self ..))))
   rw [qcV h1] at h2
   cases h2
 ·intro ds hds
  cases ds with
  | nil=>rfl
  | cons d ds=>
   have h1:=hi.l3 _ hds d (List.mem_cons_self ..)
   have h2:=hall d ((hi.mem _ hds d).2 (.inr (List.mem_cons_self ..)))
   rw [qcV h1] at h2
   cases h2
theorem Inv.closed' (hst:qh9 P gl ops cl xx all) (hi:Inv P gl ops xx all n listed a G w pre alts U pend s) {d:qN} (hd:d ∈ all) (hr:d.ix ∈ Region.ready .any ops listed) :
  ∀e ∈ all,(listed.setIfInBounds d.ix true).getD e.ix false = true→∀j,e.cl.testBit j = true→(listed.setIfInBounds d.ix true).getD j false = true:=by
 intro e he hl j hj
 by_cases heq:d.ix = e.ix
 ·have hc:e.cl = d.cl:=by
   obtain ⟨_,_,_,h1,_⟩:=hst.comp e he
   obtain ⟨_,_,_,h2,_⟩:=hst.comp d hd
   rw [h1,h2,heq]
  rw [hc] at hj
  exact getD_set_true (hi.cl_listed hst hd hr hj)
 ·rw [getD_set_ne false heq] at hl
  exact getD_set_true (hi.closed e he hl j hj)
theorem Inv.caught (hst:qh9 P gl ops cl xx all) (hi:Inv P gl ops xx all n listed a G w pre alts U pend s) {x:qN×Option Nat} (hx:x ∈ U) (hr:x.1.ix ∈ Region.ready .any ops listed) {a':Act}
  (hcfg:Cfg P gl G' s.h (qcs (msk (U.filter fun y=>y.1.ix != x.1.ix)) s.t) a' w')
  (hγ:∀y ∈ U,y ≠ x→∀id,y.2 = some id→G.γ id = none→G'.γ id = none) :
  Inv P gl ops xx all n (listed.setIfInBounds x.1.ix true) a' G' w' pre alts (U.filter fun y=>y.1.ix != x.1.ix) pend s∧(U.filter fun y=>y.1.ix != x.1.ix).length < U.length:=by
 have hU:∀y,y ∈ (U.filter fun y=>y.1.ix != x.1.ix)↔y ∈ U∧y.1.ix ≠ x.1.ix:=by simp [List.mem_filter]
 obtain ⟨ds0,hds0⟩:=hi.ne
 have hxall:x.1 ∈ all:=(hi.mem _ hds0 x.1).2 (.inl (hi.inPre x hx))
 have hlt:x.1.ix < listed.size:=by
  obtain ⟨o,ho,_⟩:=hst.comp x.1 hxall
  rw [hi.size]
  exact (Array.getElem?_eq_some_iff.1 ho).1
 refine ⟨⟨hcfg,fun y hy=>?_,fun y hy z hz=>hi.free y ((hU y).1 hy).1 z ((hU z).1 hz).1,fun y hy z hz=>hi.uniq y ((hU y).1 hy).1 z ((hU z).1 hz).1,fun y hy z hz=>hi.ids y ((hU y).1 hy).1 z ((hU z).1 hz).1,
  fun y hy=>hi.inPre y ((hU y).1 hy).1,hi.ord,hi.mem,hi.ne,fun d hd=>?_,fun y hy=>?_,fun ds hds d hd=>?_,by simpa using hi.size,hi.closed' hst hxall hr,hi.hlen⟩,?_⟩
 ·obtain ⟨h1,h2⟩:=(hU y).1 hy
  exact (hi.lag y h1).keep (fun _ _=>rfl) (fun _ _=>rfl) (fun c hc hh=>⟨hc,hh⟩) (fun id hid hlt hg=>⟨hlt,hγ y h1 (fun e=>h2 (by rw [e])) id hid hg⟩)
 ·by_cases he:x.1.ix = d.ix
  ·refine .inl ?_
   rw [←he]
   exact qeN hlt false
  ·rcases hi.l1 d hd with h1 | ⟨y,h1,rfl⟩
   ·exact .inl (getD_set_true h1)
   ·exact .inr ⟨y,(hU y).2 ⟨h1,fun e=>he e.symm⟩,rfl⟩
 ·obtain ⟨h1,h2⟩:=(hU y).1 hy
  rw [getD_set_ne true (fun e=>h2 e.symm)]
  exact hi.l2 y h1
 ·by_cases he:x.1.ix = d.ix
  ·exact absurd he (qdN (qbK (hi.ord _ hds) (hi.inPre x hx) d hd))
  ·rw [getD_set_ne true he]
   exact hi.l3 _ hds d hd
 ·rcases Nat.lt_or_ge (U.filter fun y=>y.1.ix != x.1.ix).length U.length with h | h
  ·exact h
  ·have h2:(U.filter fun y=>y.1.ix != x.1.ix).length = U.length:=Nat.le_antisymm (List.length_filter_le _ _) h
   have:=List.length_filter_eq_length_iff.1 h2 x hx
   simp at this
theorem Inv.acted (hst:qh9 P gl ops cl xx all) {d:qN} {rests:List (List qN)} (hi:Inv P gl ops xx all n listed a G w pre alts U pend s) (hsub:∀r ∈ rests,(d :: r) ∈ alts) (hne:∃r,r ∈ rests) (hr:d.ix ∈ Region.ready .any ops listed) {a':Act} {s1:St} {pend':List (Nat×Chk)}
  (hcfg:Cfg P gl G' s1.h (qcs (msk U) s1.t) a' w') (hslots:∀k,d.o.dst ≠ some k→(s1.t.getD k .undef).dim = (s.t.getD k .undef).dim∧(k ∉ d.o.looks→s1.t[k]? = s.t[k]?))
  (hpend:∀c,c ∈ pend→d.cl.testBit c.1 = false→c.2.Holds s.h→c ∈ pend'∧c.2.Holds s1.h) (hlen:s.h.length ≤ s1.h.length) (hγ:∀id,id < s.h.length→G.γ id = none→G'.γ id = none) :
  Inv P gl ops xx all n (listed.setIfInBounds d.ix true) a' G' w' (d :: pre) rests U pend' s1:=by
 obtain ⟨r0,hr0⟩:=hne
 have hd0:=hsub _ hr0
 have hdall:d ∈ all:=(hi.mem _ hd0 d).2 (.inr (List.mem_cons_self ..))
 obtain ⟨_,ho2,_,_⟩:=qaW (hi.ord _ hd0)
 have hlt:d.ix < listed.size:=by
  obtain ⟨o,ho,_⟩:=hst.comp d hdall
  rw [hi.size]
  exact (Array.getElem?_eq_some_iff.1 ho).1
 have hncl:∀x ∈ U,d.cl.testBit x.1.ix = false:=fun x hx=>by
  cases hb:d.cl.testBit x.1.ix with
  | false=>rfl
  | true=>
   have h1:=hi.cl_listed hst hdall hr hb
   rw [qcV (hi.l2 x hx)] at h1
   cases h1
 have hpo:=fun x hx=>qhh (qfk (ho2 _ (hi.inPre x hx)) (hi.lag x hx).quiet) (hncl x hx)
 have hne:∀x ∈ U,d.ix ≠ x.1.ix:=fun x hx e=>qdN (ho2 _ (hi.inPre x hx)) e.symm
 refine ⟨hcfg,fun x hx=>?_,hi.free,hi.uniq,hi.ids,fun x hx=>List.mem_cons_of_mem _ (hi.inPre x hx),fun r hr=>(qaW (hi.ord _ (hsub r hr))).2.2.2,fun r hr e=>?_,⟨r0,hr0⟩,fun e he=>?_,fun x hx=>?_,fun r hr e he=>?_,by simpa using hi.size,hi.closed' hst hdall hr,by have:=hi.hlen;omega⟩
 ·refine (hi.lag x hx).keep (fun i hl=>?_) (fun k hk=>?_) (fun c hc hh=>?_) (fun id _ hlt hg=>⟨by omega,hγ id hlt hg⟩)
  ·exact ((hslots i fun e=>((hpo x hx).2 i e).1 hl).1).symm
  ·exact (hslots k fun e=>((hpo x hx).2 k e).2 hk).2 ((hpo x hx).1 k hk)
  ·exact hpend _ hc (hncl x hx) hh
 ·rw [hi.mem _ (hsub r hr) e,List.mem_cons,List.mem_cons]
  constructor
  ·rintro (h1 | h1 | h1)
   ·exact .inl (.inr h1)
   ·exact .inl (.inl h1)
   ·exact .inr h1
  ·rintro ((h1 | h1) | h1)
   ·exact .inr (.inl h1)
   ·exact .inl h1
   ·exact .inr (.inr h1)
 ·rcases List.mem_cons.1 he with rfl | he
  ·exact .inl (qeN hlt false)
  ·rcases hi.l1 e he with h1 | h1
   ·exact .inl (getD_set_true h1)
   ·exact .inr h1
 ·rw [getD_set_ne true (hne x hx)]
  exact hi.l2 x hx
 ·have hne':d.ix ≠ e.ix:=qdN (qbK (qaW (hi.ord _ (hsub r hr))).2.2.2 (List.mem_cons_self ..) e he)
  rw [getD_set_ne true hne']
  exact hi.l3 _ (hsub r hr) e (List.mem_cons_of_mem _ he)
theorem qh9.inj (hst:qh9 P gl ops cl xx all) {d e:qN} (hd:d ∈ all) (he:e ∈ all) (h:d.ix = e.ix):d = e:=by
 obtain ⟨o,h1,h2,h3,_⟩:=hst.comp d hd
 obtain ⟨o',k1,k2,k3,_⟩:=hst.comp e he
 rw [h,k1] at h1
 cases h1
 rw [k2] at h2
 obtain ⟨d1,d2,d3⟩:=d
 obtain ⟨e1,e2,e3⟩:=e
 simp only at h h2 h3 k3
 subst h
 cases h2
 rw [h3,k3]
def qjk (xx:Nat×Nat) (pre:List qN) (tails:List (List qN)):Prop:=
 (tails = [[]]∧(xx.1 = xx.2∨∃p ∈ pre,p.ix = xx.1∨p.ix = xx.2))∨
 ∃A r1 B r2,tails = [A :: r1,B :: r2]∧A.ix = xx.1∧B.ix = xx.2∧A.o.op.effs = true∧B.o.op.effs = true∧∀d ∈ r1,d.ix = B.ix∨d.cl.testBit A.ix = true∨d.cl.testBit B.ix = true
theorem qjk.mono {pre pre':List qN} {tails:List (List qN)} (h:qjk xx pre tails) (hp:∀d ∈ pre,d ∈ pre'):qjk xx pre' tails:=by
 rcases h with ⟨h1,h2⟩ | h
 ·refine .inl ⟨h1,?_⟩
  rcases h2 with h2 | ⟨p,h2,h3⟩
  ·exact .inl h2
  ·exact .inr ⟨p,hp _ h2,h3⟩
 ·exact .inr h
theorem qzh {a b:qN} (h:qlJ xx a b = true):a.ix ≠ b.ix∧((xx.1 = a.ix∧xx.2 = b.ix)∨(xx.1 = b.ix∧xx.2 = a.ix)):=by
 simp only [qlJ,Bool.and_eq_true,Bool.or_eq_true,beq_iff_eq,bne_iff_ne,ne_eq] at h
 exact ⟨h.1,h.2.2⟩
theorem qjk.forced {d0 d:qN} {c:List qN} {tails:List (List qN)} (hT:qjk xx pre tails) (hi:Inv P gl ops xx all n listed a G w pre (tails.map ((d0 :: c) ++ ·)) U pend s) {t:List qN} (ht:t ∈ tails) (hd:d ∈ c ++ t):qdr d0 d = true:=by
 have halt:∀t ∈ tails,(d0 :: (c ++ t)) ∈ tails.map ((d0 :: c) ++ ·):=fun t ht=>List.mem_map.2 ⟨t,ht,rfl⟩
 have ho:=fun t ht=>(qaW (hi.ord _ (halt t ht)))
 have hp:=qbK (ho t ht).2.2.2 (List.mem_cons_self ..) d hd
 simp only [qke,Bool.or_eq_true] at hp
 rcases hp with hp | hp
 ·exact hp
 exfalso
 obtain ⟨hne,hx⟩:=qzh hp
 rcases hT with ⟨rfl,h2⟩ | ⟨A,r1,B,r2,rfl,hA,hB,_⟩
 ·rcases h2 with h2 | ⟨p,hpp,h2⟩
  ·rcases hx with ⟨e1,e2⟩ | ⟨e1,e2⟩
   ·exact hne (by rw [←e1,←e2,h2])
   ·exact hne (by rw [←e1,←e2,h2])
  ·have n1:p.ix ≠ d0.ix:=qdN ((ho t ht).2.1 p hpp)
   have n2:p.ix ≠ d.ix:=qdN (qbK (ho t ht).2.2.2 (List.mem_cons_of_mem _ hpp) d hd)
   rcases hx with ⟨e1,e2⟩ | ⟨e1,e2⟩ <;> rcases h2 with h2 | h2
   ·exact n1 (by rw [h2,e1])
   ·exact n2 (by rw [h2,e2])
   ·exact n2 (by rw [h2,e1])
   ·exact n1 (by rw [h2,e2])
 ·have m1:d0.ix ≠ A.ix:=qdN (qbK (ho _ (List.mem_cons_self ..)).2.2.2 (List.mem_cons_self ..) A (by simp))
  have m2:d0.ix ≠ B.ix:=qdN (qbK (ho _ (List.mem_cons_of_mem _ (List.mem_cons_self ..))).2.2.2 (List.mem_cons_self ..) B (by simp))
  rcases hx with ⟨e1,e2⟩ | ⟨e1,e2⟩
  ·exact m1 (by rw [hA,e1])
  ·exact m2 (by rw [hB,e2])
theorem qsz {base:Nat} {call:AE.Call} {dsts:List Nat} (hdsts:∀d ∈ all,∀k,d.o.dst = some k→k ∈ dsts) (hcall:qb7 P gl call) (hk:qH call) (hst:qh9 P gl ops cl xx all) {ro:Option Nat} {m:Nat} {x:Ex} {s':St} {Q:Exit→Act→World→Prop} :
  ∀(fuel:Nat) (listed:Array Bool) (a:Act) (w:World) (G:qd) (pre c:List qN) (tails:List (List qN)) (U:List (qN×Option Nat)) (pend:List (Nat×Chk)) (s:St),qjk xx pre tails→Inv P gl ops xx all n listed a G w pre (tails.map (c ++ ·)) U pend s→base ≤ s.h.length→
   (∀t ∈ tails,qK base call dsts (c ++ t) pend s = some (x,s'))→(∀d rest,c = d :: rest→d.o.op.effs = true)→(∀t ∈ tails,U.length + (c ++ t).length ≤ fuel)→(∀e a' w',Fin P gl n G w a.defers x s' e a' w'→Q e a' w')→
   wpAnyIn (FR ro) m P .any ops Q fuel listed a w:=by
 intro fuel
 induction fuel with
 | zero=>
  intro listed a w G pre c tails U pend s hT hi hb hr hhead hfuel hQ
  obtain ⟨_,hds⟩:=hi.ne
  obtain ⟨t0,ht0,rfl⟩:=List.mem_map.1 hds
  have hf0:=hfuel t0 ht0
  obtain ⟨rfl,hnil⟩ :U = []∧c ++ t0 = []:=⟨List.length_eq_zero_iff.1 (by omega),List.length_eq_zero_iff.1 (by omega)⟩
  have hr0:=hr t0 ht0
  rw [hnil] at hr0 hds
  simp only [qK] at hr0
  cases hr0
  have hcfg:=hi.cfg
  simp only [msk,List.filterMap_nil,qhT] at hcfg
  refine ⟨?_,hQ _ _ _ ⟨G,Ext.refl _ G w,rfl,rfl,hcfg⟩⟩
  cases hrd:Region.ready .any ops listed with
  | nil=>rfl
  | cons i is=>
   have hmem:i ∈ Region.ready .any ops listed:=by rw [hrd];exact List.mem_cons_self ..
   obtain ⟨h1,o,ho,_⟩:=mem_ready.1 hmem
   obtain ⟨d,hd,rfl⟩:=hst.cover i (Array.getElem?_eq_some_iff.1 ho).1
   rcases (hi.mem _ hds d).1 hd with h2 | h2
   ·rcases hi.l1 d h2 with h3 | ⟨y,h3,_⟩
    ·rw [qcV h1] at h3;cases h3
    ·cases h3
   ·cases h2
 | succ fuel ih=>
  intro listed a w G pre c tails U pend s hT hi hb hr hhead hfuel hQ
  obtain ⟨_,hds⟩:=hi.ne
  obtain ⟨t0,ht0,rfl⟩:=List.mem_map.1 hds
  have halt:∀t ∈ tails,(c ++ t) ∈ tails.map (c ++ ·):=fun t ht=>List.mem_map.2 ⟨t,ht,rfl⟩
  refine ⟨fun hnil=>?_,fun i hri=>?_⟩
  ·obtain ⟨rfl,hnils⟩:=hi.finished hst hnil
   have hr0:=hr t0 ht0
   rw [hnils _ hds] at hr0
   simp only [qK] at hr0
   cases hr0
   have hcfg:=hi.cfg
   simp only [msk,List.filterMap_nil,qhT] at hcfg
   exact hQ _ _ _ ⟨G,Ext.refl _ G w,rfl,rfl,hcfg⟩
  ·obtain ⟨hun,o,ho,_⟩:=mem_ready.1 hri
   obtain ⟨d,hd,rfl⟩:=hst.cover i (Array.getElem?_eq_some_iff.1 ho).1
   obtain ⟨o',ho',hco,_,_⟩:=hst.comp d hd
   rw [ho] at ho'
   cases ho'
   have hpres:d ∈ pre→∃y ∈ U,y.1 = d:=fun h=>by
    rcases hi.l1 d h with h3 | h3
    ·rw [qcV hun] at h3;cases h3
    ·exact h3
   unfold wpOpIn
   simp only [ho]
   by_cases h2:d ∈ pre
   ·
    obtain ⟨y,hy,rfl⟩:=hpres h2
    have hlag:=hi.lag y hy
    have hself:=qi6 (hst.selfs _ hd) hlag.quiet
    have hmask:∀k ∈ y.1.o.looks,k ∉ msk U:=fun k hkl hkm=>by
     obtain ⟨z,hz,hzd⟩:=qdL.1 hkm
     by_cases he:z.1.ix = y.1.ix
     ·rw [hi.uniq y hy z hz he] at hzd
      exact hself k hzd hkl
     ·have hf:=hi.free z hz y hy (fun e=>he e.symm)
      have hb:=hf.1 k hzd hkl
      have h1:=hi.cl_listed hst hd hri hb
      rw [qcV (hi.l2 z hz)] at h1
      cases h1
    obtain ⟨hg,hl⟩:=qY.want_looks (qe0 (t:=s.t) hmask)
    have hout:∀v,(∀k z,y.1.o.dst = some k→s.t[k]? = some z→z = v)→AE.put y.1.o.dst v (qcs (msk U) s.t) = qcs (msk (U.filter fun z=>z.1.ix != y.1.ix)) s.t:=fun v hv=>
     qiZ (fun z=>by simp [List.mem_filter]) hy (fun z hz he=>hi.uniq y hy z hz he) (fun z hz hne=>hi.free y hy z hz hne) hv
    have next:∀{u:Value} {w':World} {G':qd},Ext n G w G' w'→Cfg P gl G' s.h (qcs (msk (U.filter fun z=>z.1.ix != y.1.ix)) s.t) (a.put o.dst u) w'→
      (∀z ∈ U,z ≠ y→∀id,z.2 = some id→G.γ id = none→G'.γ id = none)→wpAnyIn (FR ro) m P .any ops Q fuel (listed.setIfInBounds y.1.ix true) (a.put o.dst u) w':=by
     intro u w' G' he hcfg hγ
     obtain ⟨hi',hlt⟩:=hi.caught hst hy hri hcfg hγ
     refine ih _ _ _ _ _ _ _ _ _ _ hT hi' hb hr hhead (fun t ht=>by have:=hfuel t ht;omega) fun e a' w'' hf=>hQ _ _ _ ?_
     rw [qb1] at hf
     exact Fin.of_ext (Nat.le_refl _) he hf
    have hold:∀{w':World} {G':qd},Ext s.h.length G w G' w'→∀z ∈ U,z ≠ y→∀id,z.2 = some id→G.γ id = none→G'.γ id = none:=by
     intro w' G' he z hz _ id hid hg
     cases hg':G'.γ id with
     | none=>rfl
     | some b=>
      rcases he.gn id b hg' with h | ⟨h,_⟩
      ·rw [hg] at h;cases h
      ·have:=((hi.lag z hz).young id hid).2.1;omega
    rcases hlag.does with ⟨d1,d2,d3⟩ | ⟨d1,v,d2,d3⟩
    ·obtain ⟨hcomp,hdst,hwant⟩:=qbM hi.cfg.tr hco (hg.trans d1)
     rw [if_neg (by rw [hwant];simp)]
     refine ⟨fun _ _=>trivial,?_⟩
     have:=qcP hi.cfg y.1.o.dst
     rw [hout _ d3] at this
     exact next (Ext.refl n G w) (by rw [←hdst];exact this) (fun _ _ _ _ _ h=>h)
    ·obtain ⟨hcomp,hdst,hwant⟩:=qbM hi.cfg.tr hco (hg.trans d1)
     rw [if_pos hwant]
     have plain:qq base call [] o.dst y.1.o.op ⟨qcs (msk U) s.t,s.h,s.e⟩ = some (.nor,⟨AE.put o.dst v (qcs (msk U) s.t),s.h,s.e⟩)→
       o.wpIn (FR ro) m P a w (wpAnyIn (FR ro) m P .any ops Q fuel (listed.setIfInBounds y.1.ix true)) Q:=by
      intro hrun
      refine qeW hcall hk hi.cfg qbh.nil hcomp hrun (fun _ u w' G' he hc' _ _ _=>?_) (fun pv h=>by cases h)
      simp only [←hdst] at hc'
      rw [hout v d2] at hc'
      rw [hdst] at hc'
      exact next (he.weaken hi.hlen) hc' (hold he)
     rcases d3 with ⟨e1,e2⟩ | ⟨e0,k,q,e1,e2,e3⟩ | ⟨e0,sh,z,ok,m,key,e1,e2,e3⟩ | ⟨id,cs,e1,e2,e3,e4,e5⟩
     ·exact plain (qmY (s:=⟨qcs (msk U) s.t,s.h,s.e⟩) (by rw [hl.pureV];exact e2))
     ·refine plain ?_
      have hq:ev (qcs (msk U) s.t) q = ev s.t q:=by rw [e1] at hl;exact qcF.ev hl
      simp only [e1,qq,hq,e3,Option.map_some]
     ·refine plain ?_
      have hm':ev (qcs (msk U) s.t) m = ev s.t m:=by rw [e1] at hl;exact qcF.ev hl.left
      have hk':ev (qcs (msk U) s.t) key = ev s.t key:=by rw [e1] at hl;exact qcF.ev hl.right
      simp only [e1,qq,hm',hk',e3,Option.map_some]
     ·obtain ⟨g1,g2,g3⟩:=hlag.young id e1
      have hnew:qrZ (qcs (msk U) s.t) y.1.o.op cs:=by
       rcases e3 with e3 | ⟨k,q,f1,f2,f3⟩
       ·exact .inl e3
       ·have hq:ev (qcs (msk U) s.t) q = ev s.t q:=by rw [f1] at hl;exact qcF.ev hl
        exact .inr ⟨k,q,f1,by rw [hq];exact f2,f3⟩
      obtain ⟨u,w',h1,h2,h3⟩:=qtD hi.cfg hcomp hnew e5 g3 g1
      refine ⟨fun _ _=>trivial,?_⟩
      rw [Oper.semAt_eq _ _ _ (qed hcomp),h1,Oper.uponIn_value]
      rw [←hdst,←e2,hout v d2,hdst] at h3
      refine next h2 h3 fun z hz hne id' hid' hg'=>?_
      simp only [qd.withBox]
      rw [if_neg]
      ·exact hg'
      ·rintro rfl
       exact hne (hi.ids y hy z hz id' e1 hid')
   ·
    have act:∀(c':List qN) (tails':List (List qN)),(∀t ∈ tails',(d :: (c' ++ t)) ∈ tails.map (c ++ ·))→(∃t,t ∈ tails')→(∀t ∈ tails',qK base call dsts (d :: (c' ++ t)) pend s = some (x,s'))→qjk xx (d :: pre) tails'→(∀t ∈ tails',U.length + (c' ++ t).length ≤ fuel)→d.o.op.effs = true→
      (if Region.wanted o (yielded ops a.tmps) then o.wpIn (FR ro) m P a w (wpAnyIn (FR ro) m P .any ops Q fuel (listed.setIfInBounds d.ix true)) Q else (∀f,o.about P w a.eval = some f→(FR ro).fn f)∧wpAnyIn (FR ro) m P .any ops Q fuel (listed.setIfInBounds d.ix true) (a.put o.dst undef) w):=by
     intro c' tails' hsub hne' hra hT' hfuel' heff
     obtain ⟨t1,ht1⟩:=hne'
     have hr:=hra t1 ht1
     obtain ⟨_,ho2,_,_⟩:=qaW (hi.ord _ (hsub t1 ht1))
     have hncl:∀x ∈ U,d.cl.testBit x.1.ix = false:=fun x hx=>by
      cases hb:d.cl.testBit x.1.ix with
      | false=>rfl
      | true=>
       have h1:=hi.cl_listed hst hd hri hb
       rw [qcV (hi.l2 x hx)] at h1
       cases h1
     have hpo:=fun x hx=>qhh (qfk (ho2 _ (hi.inPre x hx)) (hi.lag x hx).quiet) (hncl x hx)
     have hmask:∀k ∈ d.o.looks,k ∉ msk U:=fun k hkl hkm=>by
      obtain ⟨z,hz,hzd⟩:=qdL.1 hkm
      exact (hpo z hz).1 k hzd hkl
     have hdm:∀k,d.o.dst = some k→k ∉ msk U:=fun k hkd hkm=>by
      obtain ⟨z,hz,hzd⟩:=qdL.1 hkm
      exact ((hpo z hz).2 k hkd).2 hzd
     obtain ⟨hg,hl⟩:=qY.want_looks (qe0 (t:=s.t) hmask)
     have hlm:∀k ∈ d.o.op.looks,k ∉ msk U:=fun k hk0=>hmask k (by unfold qY.looks;split <;> simp [hk0])
     have next:∀{u:Value} {w':World} {G':qd} {s1:St} {pend':List (Nat×Chk)},Ext n G w G' w'→Inv P gl ops xx all n (listed.setIfInBounds d.ix true) (a.put o.dst u) G' w' (d :: pre) (tails'.map (c' ++ ·)) U pend' s1→base ≤ s1.h.length→
       (∀t ∈ tails',qK base call dsts (c' ++ t) pend' s1 = some (x,s'))→wpAnyIn (FR ro) m P .any ops Q fuel (listed.setIfInBounds d.ix true) (a.put o.dst u) w':=by
      intro u w' G' s1 pend' he hi' hb' hr'
      obtain ⟨pre2,ds2,U2,pend2,s2,hi2,hb2,hr2,hhead2,hlen2,hpre2⟩:=qjm c' (d :: pre) U pend' s1 hi' hb' hr'
      refine ih _ _ _ _ _ _ _ _ _ _ (hT'.mono hpre2) hi2 hb2 hr2 hhead2 (fun t ht=>by have:=hfuel' t ht;simp only [List.length_append] at this ⊢;omega) fun e a' w'' hf=>hQ _ _ _ ?_
      rw [qb1] at hf
      exact Fin.of_ext (Nat.le_refl _) he hf
     have hsub':∀r ∈ tails'.map (c' ++ ·),(d :: r) ∈ tails.map (c ++ ·):=fun r hr=>by
      obtain ⟨t,ht,rfl⟩:=List.mem_map.1 hr
      exact hsub t ht
     have hne2:∃r,r ∈ tails'.map (c' ++ ·):=⟨_,List.mem_map.2 ⟨t1,ht1,rfl⟩⟩
     simp only [qK,heff,if_true] at hr hra
     split at hr
     ·rename_i hw
      obtain ⟨hcomp,hdst,hwant⟩:=qbM hi.cfg.tr hco (hg.trans hw)
      rw [if_pos hwant]
      simp only [hw] at hra
      split at hr
      ·rename_i s1 hop
       simp only [hop] at hra
       split at hr
       ·rename_i hpend
        simp only [hpend,if_true] at hra
        have hkeep:=(qb2 (base:=base) hk hb hop).1
        have hrun:qq base call [] o.dst d.o.op ⟨qcs (msk U) s.t,s.h,s.e⟩ = some (.nor,{ s1 with t:=qcs (msk U) s1.t}):=by
         have:=qhn (base:=base) (call:=call) (dst:=d.o.dst) (t:=s.t) (h:=s.h) (e:=s.e) heff hlm hdm
         rw [←hdst,this,hop]
         rfl
        refine qeW hcall hk hi.cfg qbh.nil hcomp hrun (fun _ u w' G' he hc' _ _ _=>?_) (fun pv h=>by cases h)
        refine next (he.weaken hi.hlen) (hi.acted hst hsub' hne2 hri (s1:=s1) hc' (fun k hkd=>⟨((qgH hop).2 k hkd).1,fun hk0=>((qgH hop).2 k hkd).2 fun hin=>hk0 (by unfold qY.looks;split <;> simp [hin])⟩) (fun c hc hcl _=>?_) hkeep (fun id hid hg'=>?_)) (by omega) hra
        ·have hm:c ∈ pend.filter fun c=>!d.cl.testBit c.1:=List.mem_filter.2 ⟨hc,by simp [hcl]⟩
         exact ⟨hm,Chk.holds_of_ok (List.all_eq_true.1 hpend c hm)⟩
        ·cases hg2:G'.γ id with
         | none=>rfl
         | some b=>
          rcases he.gn id b hg2 with h | ⟨h,_⟩
          ·rw [hg'] at h;cases h
          ·omega
       ·cases hr
      ·rename_i v s1 hop
       cases hr
       have hrun:qq base call [] o.dst d.o.op ⟨qcs (msk U) s.t,s.h,s.e⟩ = some (.pan v,{ s1 with t:=qcs (msk U) s1.t}):=by
        have:=qhn (base:=base) (call:=call) (dst:=d.o.dst) (t:=s.t) (h:=s.h) (e:=s.e) heff hlm hdm
        rw [←hdst,this,hop]
        rfl
       refine qeW hcall hk hi.cfg qbh.nil hcomp hrun (fun h=>by cases h) (fun pv hpv u w' G' he hc' hv=>?_)
       cases hpv
       refine hQ _ _ _ ⟨G',he.weaken hi.hlen,rfl,u,rfl,⟨hc'.rel,hc'.tr.poison (by rw [qb0,qb0]) fun i y hy=>?_⟩,hv⟩
       simp only [qck] at hy ⊢
       by_cases hi1:dsts.contains i = true
       ·rw [Option.map_eq_some_iff] at hy
        obtain ⟨z,_,hz⟩:=hy
        rw [if_pos hi1] at hz
        exact .inr hz.symm
       ·have hi2:¬(msk U).contains i = true:=fun e=>hi1 (by
         simp only [List.contains_iff_mem,qdL] at e ⊢
         obtain ⟨z,h1,h2⟩:=e
         exact hdsts z.1 ((hi.mem _ hds z.1).2 (.inl (hi.inPre z h1))) i h2)
        simp only [hi1,hi2,Bool.false_eq_true,if_false] at hy ⊢
        exact .inl hy
      ·cases hr
     ·rename_i hw
      obtain ⟨hcomp,hdst,hwant⟩:=qbM hi.cfg.tr hco (hg.trans hw)
      simp only [hw] at hra
      rw [if_neg (by rw [hwant];simp)]
      refine ⟨fun _ _=>trivial,?_⟩
      have hc':=qcP hi.cfg d.o.dst
      rw [qcM hdm] at hc'
      have hc2:Cfg P gl G s.h (qcs (msk U) (AE.put d.o.dst (.tup []) s.t)) (a.put o.dst undef) w:=by rw [←hdst];exact hc'
      exact next (Ext.refl n G w) (hi.acted hst hsub' hne2 hri (s1:={ s with t:=AE.put d.o.dst (.tup []) s.t}) hc2 (fun k hkd=>⟨by rw [qaP (put_get_ne hkd)],fun _=>put_get_ne hkd⟩)
       (fun c hc _ hh=>⟨hc,hh⟩) (Nat.le_refl _) (fun _ _ h=>h)) hb hra
     ·cases hr
    have hin:∀t ∈ tails,d ∈ c ++ t:=fun t ht=>((hi.mem _ (halt t ht) d).1 hd).resolve_left h2
    cases c with
    | cons d0 c'=>
     have heff0:=hhead d0 c' rfl
     have hd0:d = d0:=by
      rcases List.mem_cons.1 (hin t0 ht0) with h3 | h3
      ·exact h3
      ·have hpk:=hT.forced hi ht0 h3
       simp only [qdr,heff0,Bool.not_true,Bool.false_and,Bool.or_false,Bool.and_eq_true] at hpk
       have h1:=hi.cl_listed hst hd hri hpk.1.2
       rw [qcV (hi.l3 _ hds d0 (List.mem_cons_self ..))] at h1
       cases h1
     subst hd0
     exact act c' tails (fun t ht=>halt t ht) ⟨t0,ht0⟩ hr (hT.mono fun _ h=>List.mem_cons_of_mem _ h) (fun t ht=>by have:=hfuel t ht;simp only [List.cons_append,List.length_cons] at this;omega) heff0
    | nil=>
     rcases hT with ⟨rfl,_⟩ | ⟨A,r1,B,r2,rfl,hA,hB,eA,eB,hr1⟩
     ·have:=hin [] (List.mem_cons_self ..)
      cases this
     ·have mA:(A :: r1) ∈ [A :: r1,B :: r2]:=List.mem_cons_self ..
      have mB:(B :: r2) ∈ [A :: r1,B :: r2]:=List.mem_cons_of_mem _ (List.mem_cons_self ..)
      have caseA:d = A→_:=fun e=>act r1 [[]] (fun t ht=>by simp at ht;subst ht;subst e;simp) ⟨[],List.mem_cons_self ..⟩ (fun t ht=>by simp at ht;subst ht;subst e;simpa using hr _ mA) (.inl ⟨rfl,.inr ⟨d,List.mem_cons_self ..,.inl (by rw [e];exact hA)⟩⟩) (fun t ht=>by simp at ht;subst ht;have:=hfuel _ mA;simp at this ⊢;omega) (by rw [e];exact eA)
      have caseB:d = B→_:=fun e=>act r2 [[]] (fun t ht=>by simp at ht;subst ht;subst e;simp) ⟨[],List.mem_cons_self ..⟩ (fun t ht=>by simp at ht;subst ht;subst e;simpa using hr _ mB) (.inl ⟨rfl,.inr ⟨d,List.mem_cons_self ..,.inr (by rw [e];exact hB)⟩⟩) (fun t ht=>by simp at ht;subst ht;have:=hfuel _ mB;simp at this ⊢;omega) (by rw [e];exact eB)
      rcases List.mem_cons.1 (hin _ mA) with h3 | h3
      ·exact caseA h3
      ·have hBall:B ∈ all:=(hi.mem _ (halt _ mB) B).2 (.inr (List.mem_cons_self ..))
       rcases hr1 d h3 with h4 | h4 | h4
       ·exact caseB (hst.inj hd hBall h4)
       ·have h1:=hi.cl_listed hst hd hri h4
        rw [qcV (hi.l3 _ (halt _ mA) A (List.mem_cons_self ..))] at h1
        cases h1
       ·have h1:=hi.cl_listed hst hd hri h4
        rw [qcV (hi.l3 _ (halt _ mB) B (List.mem_cons_self ..))] at h1
        cases h1
end
end Go.AE
namespace Go.AE
section
variable {P:Program} {gl:Nat→Option (List qa)} {ops:Array Oper} {G G':qd} {w w':World} {h:List qf} {t:List qa} {a:Act} {n:Nat}
theorem qhR {α β:Type} {f:α→Option β}:∀{l:List α} {r:List β},l.mapM f = some r→∀(i:Nat) (b:β),r[i]? = some b→∃x,l[i]? = some x∧f x = some b
 | [],r,h,i,b,hb=>by simp at h;subst h;simp at hb
 | x :: l,r,h,i,b,hb=>by
  simp only [List.mapM_cons,Option.pure_def,Option.bind_eq_bind,Option.bind_eq_some_iff] at h
  obtain ⟨y,hy,ys,hys,h⟩:=h
  cases h
  cases i with
  | zero=>simp at hb;subst hb;exact ⟨x,rfl,hy⟩
  | succ i=>simp at hb;simpa using qhR hys i b hb
theorem qdI:∀(l:List Oper) (k:Nat) (os:List qY),(∀j,l[j]? = ops[k + j]?)→l.mapM (qb3 P gl ops) = some os→Lays P gl ops (List.range' k l.length) os
 | [],k,os,_,h=>by simp at h;subst h;trivial
 | x :: l,k,os,hl,h=>by
  simp only [List.mapM_cons,Option.pure_def,Option.bind_eq_bind,Option.bind_eq_some_iff] at h
  obtain ⟨y,hy,ys,hys,h⟩:=h
  cases h
  refine ⟨⟨x,by have:=hl 0;simpa using this.symm,hy⟩,?_⟩
  exact qdI l (k + 1) ys (fun j=>by have:=hl (j + 1);simp at this;rw [this];congr 1;omega) hys
theorem qmA {as:List qY} {cl l:List Nat} {d:qN} (h:d ∈ qqE as cl l):∃i ao,as[i]? = some ao∧d = ⟨ao,i,cl.getD i 0⟩:=by
 simp only [qqE,List.mem_filterMap,Option.map_eq_some_iff] at h
 obtain ⟨i,_,ao,hao,rfl⟩:=h
 exact ⟨i,ao,hao,rfl⟩
theorem qyl {as:List qY} (has:ops.toList.mapM (qb3 P gl ops) = some as) {cl:List Nat} {xx:Nat×Nat} {ds:List qN} (hm:∀d ∈ ds,∃i ao,as[i]? = some ao∧d = ⟨ao,i,cl.getD i 0⟩)
  (hc1:∀i,i < ops.size→∃d ∈ ds,d.ix = i) (hc2:∀d ∈ ds,d.cl = qtC cl ((ops.toList.map qeF).getD d.ix [])) (hc3:qfO xx (ops.toList.map qeF) [] ds = true):qh9 P gl ops cl xx ds:=by
 refine ⟨fun d hd=>?_,hc1,hc3,qhg hc3⟩
 obtain ⟨i,ao,hao,rfl⟩:=hm d hd
 obtain ⟨o,ho,hco⟩:=qhR has i ao hao
 have ho':ops[i]? = some o:=by simpa using ho
 refine ⟨o,ho',hco,rfl,?_⟩
 have:=hc2 _ hd
 simp only at this
 rw [this,List.getD_eq_getElem?_getD,List.getElem?_map,ho]
 rfl
theorem qhC {ds:List qN} (h:qfT P gl ops = some ds):∃cl,qh9 P gl ops cl (0,0) ds:=by
 simp only [qfT,Option.pure_def,Option.bind_eq_bind,Option.bind_eq_some_iff] at h
 obtain ⟨as,has,h⟩:=h
 split at h
 ·rename_i hc
  simp only [Bool.and_eq_true,List.all_eq_true,List.mem_range,List.any_eq_true,beq_iff_eq] at hc
  obtain ⟨⟨hc1,hc2⟩,hc3⟩:=hc
  have hds:=Option.some.inj h
  rw [hds] at hc1 hc2 hc3
  exact ⟨qnR (ops.toList.map qeF),qyl has (fun d hd=>qmA (by rw [hds];exact hd)) hc1 hc2 hc3⟩
 ·cases h
theorem Cfg.of_drew (hc:Cfg P gl G h t a w) (d:Nat):Cfg P gl G h t a { w with drawn:=d}:=⟨hc.rel.of_drew d,hc.tr.of_drew d⟩
theorem qh9.len {cl:List Nat} {xx:Nat×Nat} {ds:List qN} (hst:qh9 P gl ops cl xx ds):ds.length ≤ ops.size:=by
 have hnd:(ds.map (·.ix)).Nodup:=by
  have key:∀(l pre:List qN),qfO xx (ops.toList.map qeF) pre l = true→(l.map (·.ix)).Nodup:=by
   intro l
   induction l with
   | nil=>intro _ _;simp
   | cons d l ih=>
    intro pre ho
    obtain ⟨_,_,_,h4⟩:=qaW ho
    rw [List.map_cons,List.nodup_cons]
    refine ⟨fun hmem=>?_,ih _ h4⟩
    obtain ⟨y,hy,hye⟩:=List.mem_map.1 hmem
    exact qdN (qbK h4 (List.mem_cons_self ..) y hy) hye.symm
  exact key ds [] hst.order
 have hsub:∀i ∈ ds.map (·.ix),i ∈ List.range ops.size:=by
  intro i hi
  obtain ⟨d,hd,rfl⟩:=List.mem_map.1 hi
  obtain ⟨o,ho,_⟩:=hst.comp d hd
  exact List.mem_range.2 (Array.getElem?_eq_some_iff.1 ho).1
 have hle:=hnd.length_le_of_subset hsub
 simpa using hle
theorem qh9.same {cl:List Nat} {xx:Nat×Nat} {ds es:List qN} (h1:qh9 P gl ops cl xx ds) (h2:qh9 P gl ops cl xx es) {d:qN} (hd:d ∈ ds):d ∈ es:=by
 obtain ⟨o,k1,k2,k3,_⟩:=h1.comp d hd
 obtain ⟨e,he,hix⟩:=h2.cover d.ix (Array.getElem?_eq_some_iff.1 k1).1
 obtain ⟨o',l1,l2,l3,_⟩:=h2.comp e he
 rw [hix,k1] at l1
 cases l1
 rw [k2] at l2
 obtain ⟨d1,d2,d3⟩:=d
 obtain ⟨e1,e2,e3⟩:=e
 simp only at hix l2 l3 k3
 subst hix
 cases l2
 rw [k3,←l3]
 exact he
theorem qpk {cl:List Nat} {xx:Nat×Nat} {all:List qN} {alts:List (List qN)} {s:St} (hst:qh9 P gl ops cl xx all) (halts:∀ds ∈ alts,qh9 P gl ops cl xx ds) (hne:∃ds,ds ∈ alts) (hc:Cfg P gl G s.h s.t a w) :
  Inv P gl ops xx all s.h.length (Array.replicate ops.size false) a G w [] alts [] [] s:=by
 refine ⟨by rw [msk,List.filterMap_nil,qhT];exact hc,(fun _ h=>by cases h),(fun _ h=>by cases h),(fun _ h=>by cases h),(fun _ h=>by cases h),(fun _ h=>by cases h),fun ds hd=>(halts ds hd).order,
  fun ds hd d=>⟨fun h=>.inr (hst.same (halts ds hd) h),fun h=>?_⟩,hne,(fun _ h=>by cases h),(fun _ h=>by cases h),fun ds hds d hd=>?_,by simp,fun d hd hl=>?_,Nat.le_refl _⟩
 ·rcases h with h | h
  ·cases h
  ·exact (halts ds hd).same hst h
 ·obtain ⟨o,ho,_⟩:=(halts ds hds).comp d hd
  have:=(Array.getElem?_eq_some_iff.1 ho).1
  simp [this]
 ·have:=qoR hl
  simp at this
  simp [this] at hl
theorem qlG (hm:P.follows .mixedOrders = true) {call:AE.Call} (hcall:qb7 P gl call) (hk:qH call) {ds:List qN} (hcomp:qfT P gl ops = some ds) {base:Nat} {ro:Option Nat} {m:Nat} {s:St} {x:Ex} {s':St}
  (hc:Cfg P gl G s.h s.t a w) (hb:base ≤ s.h.length) (hrun:qK base call (ds.filterMap (·.o.dst)) ds [] s = some (x,s')) {id:Nat}:(Code.region id ops true).wpIn (FR ro) m P (Fin P gl s.h.length G w a.defers x s') a w:=by
 obtain ⟨cl,hst⟩:=qhC hcomp
 refine wpIn_region_any hm ?_
 have hc':=hc.of_drew (w.drawn + 1)
 have hinv:Inv P gl ops (0,0) ds s.h.length (Array.replicate ops.size false) a G { w with drawn:=w.drawn + 1} [] ([[]].map (ds ++ ·)) [] [] s:=
  qpk hst (fun es hes=>by simp at hes;rw [hes];exact hst) ⟨_,List.mem_cons_self ..⟩ hc'
 obtain ⟨pre,ds',U,pend,s1,h1,h2,h3,h4,h5,h6⟩:=qjm (tails:=[[]]) ds [] [] [] s hinv hb (fun t ht=>by simp at ht;subst ht;simpa using hrun)
 refine qsz (fun d hd k hk=>List.mem_filterMap.2 ⟨d,hd,hk⟩) hcall hk hst ops.size _ _ _ _ _ _ _ _ _ _ (.inl ⟨rfl,.inl rfl⟩) h1 h2 h3 h4 (fun t ht=>?_) fun e a' w' hf=>?_
 ·simp at ht
  subst ht
  have:=hst.len
  simp at h5 ⊢
  omega
 ·exact Fin.of_ext (Nat.le_refl _) ((Ext.refl _ G w).drew _) hf
theorem Rel.putLoop (hr:Rel P gl G h w) {i b:Nat} (hi:G.γ i = some b) {t0:List qa} {ps0:List Nat} {asg0 body0:qG} {st0:LSt} {pend0:Option qrX} (hx:h[i]? = some (.loop t0 ps0 asg0 body0 st0 pend0))
  {t:List qa} {ps:List Nat} {asg body:qG} {st:LSt} {pend:Option qrX} {L':Loop} (hL:qf4 P gl G t ps asg body st pend L') :
  Rel P gl G (h.set i (.loop t ps asg body st pend)) (w.putObj b (.loop L')):=
 hr.putBox hi hx (by simp) (fun c e hce=>by obtain ⟨L,h1,_⟩:=hr.box i b _ hi hx;rw [h1] at hce;cases hce) ⟨L',World.putObj_heap_same (hr.γlt i b hi).2,hL⟩
theorem qaE.putLoop (hr:Rel P gl G h w) {ts:Array Value} (ht:qaE G w t ts) {i b:Nat} (hi:G.γ i = some b) (o:Obj):qaE G (w.putObj b o) t ts:=
 ⟨ht.rel,fun j xs k v hx hv=>(ht.own j xs k v hx hv).keep (fun _ h=>h) (fun y hy=>World.putObj_heap_other fun e=>(hr.ow y _ hy).2 i (by rw [hi,e])) (fun _ _ _ h=>h)⟩
theorem Ext.putLoop (n:Nat) {i b:Nat} (hi:G.γ i = some b) {L L':Loop} (hL:w.heap[b]? = some (.loop L)) (he:L'.fn = L.fn∧L'.tmps = L.tmps∧L'.params = L.params∧L'.assign = L.assign∧L'.body = L.body∧L'.defers = L.defers) :
  Ext n G w G (w.putObj b (.loop L')):=by
 refine ⟨fun _ _ h=>h,fun _ _ h=>.inl h,fun _ _ _ h=>h,fun _ _ _ h=>.inl h,fun _ h=>.inl h,by simp,fun b' _ hf=>World.putObj_heap_other (fun e=>hf.1 i (by rw [hi,e])),fun b' M hM=>?_,rfl,rfl,rfl⟩
 by_cases e:b' = b
 ·subst e
  rw [hL] at hM
  cases hM
  exact ⟨L',World.putObj_heap_same (Array.getElem?_eq_some_iff.1 hL).1,he⟩
 ·exact ⟨M,by rw [World.putObj_heap_other e];exact hM,rfl,rfl,rfl,rfl,rfl,rfl⟩
theorem Rel.putFar (hr:Rel P gl G h w) {r:Nat} {o:Obj} (hf:qcQ G r) (hc:∀k,w.cell? ⟨r,k,none⟩ = none):Rel P gl G h (w.putObj r o):=by
 refine ⟨fun j b' hj=>by simpa using hr.γlt j b' hj,hr.inj,fun j b' bx hj hx=>?_,fun b' k v hv hm=>?_,hr.immγ,fun b' k hv=>?_,fun b' ℓ hb'=>⟨by simpa using (hr.ow b' ℓ hb').1,(hr.ow b' ℓ hb').2⟩,hr.glob⟩
 ·have h0:=hr.box j b' bx hj hx
  obtain ⟨n,hn⟩:=qf.lower_ex bx
  exact h0.keep hn (fun _ _ _ h=>h) (fun _ _ _ h=>h) (World.putObj_heap_other fun e'=>hf.1 j (by rw [hj,e'])) (fun _ _ h=>h)
   (fun b'' o hb''=>World.putObj_heap_other fun e'=>by rw [e',hf.2] at hb'';cases hb'') (fun _ _ _ _ h=>h)
 ·obtain ⟨h1,h2⟩:=hr.imm b' k v hv hm
  refine ⟨?_,by simpa using h2⟩
  rw [qbo (w:=w) (World.putObj_heap_other fun e'=>?_)]
  ·exact h1
  ·subst e'
   rw [hc] at h1
   cases h1
 ·obtain ⟨h0,c,e,h1,h2⟩:=hr.immK b' k hv
  refine ⟨h0,c,e,?_,h2⟩
  rw [World.putObj_heap_other fun e'=>?_]
  ·exact h1
  ·subst e'
   have:=hc 0
   simp only [World.cell?,h1] at this
   have h3:c[0]? = none:=this
   have:=Array.getElem?_eq_none_iff.1 h3
   omega
theorem qaE.putFar {ts:Array Value} (ht:qaE G w t ts) {r:Nat} {o:Obj} (hf:qcQ G r):qaE G (w.putObj r o) t ts:=
 ⟨ht.rel,fun j xs k v hx hv=>(ht.own j xs k v hx hv).keep (fun _ h=>h) (fun y hy=>World.putObj_heap_other fun e=>by rw [e,hf.2] at hy;cases hy) (fun _ _ _ h=>h)⟩
theorem Ext.putFar {w0:World} {G0:qd} (he:Ext n G0 w0 G w) {r:Nat} (hr:w0.heap.size ≤ r) (o:Obj):Ext n G0 w0 G (w.putObj r o):=by
 refine ⟨he.gk,he.gn,he.ik,he.inew,he.on,by simpa using he.size,fun b hb hf=>?_,fun b L hL=>?_,he.os,he.tape,he.output⟩
 ·rw [World.putObj_heap_other (by omega)]
  exact he.heap b hb hf
 ·obtain ⟨L',h1,h2⟩:=he.loops b L hL
  have hb:=(Array.getElem?_eq_some_iff.1 hL).1
  exact ⟨L',by rw [World.putObj_heap_other (by omega)];exact h1,h2⟩
structure qgR (G:qd) (w:World) (lo:Nat) (ds:List Deferred):Prop where
 nodup:ds.Nodup
 all:∀d ∈ ds,∃r,d = { target:=.collected r,args:=#[]}∧lo ≤ r∧w.heap[r]? = some (.deferred (some []))∧qcQ G r
theorem qcQ.ext {r:Nat} (hf:qcQ G r) (hr:r < w.heap.size) (he:Ext n G w G' w'):qcQ G' r:=by
 refine ⟨fun i hi=>?_,?_⟩
 ·rcases he.gn i r hi with h1 | ⟨_,h1 | ⟨j,h1⟩⟩
  ·exact hf.1 i h1
  ·omega
  ·exact hf.1 j h1
 ·cases ho:G'.ow r with
  | none=>rfl
  | some ℓ=>
   rcases he.on r (by simp [ho]) with h1 | h1
   ·exact absurd hf.2 h1
   ·omega
theorem qgR.ext {lo:Nat} {ds:List Deferred} (hm:qgR G w lo ds) (he:Ext n G w G' w'):qgR G' w' lo ds:=
 ⟨hm.nodup,fun d hd=>by
  obtain ⟨r,h1,h2,h3,h4⟩:=hm.all d hd
  have hr:=(Array.getElem?_eq_some_iff.1 h3).1
  exact ⟨r,h1,h2,by rw [he.heap r hr h4];exact h3,h4.ext hr he⟩⟩
def qeb (G:qd) (w:World) (lo:Nat) (rf:Bool) (fx ds:List Deferred):Prop:=∃ms,ds = ms ++ fx∧qgR G w lo ms∧(rf = true→ms = [])
theorem qeb.ext {lo:Nat} {rf:Bool} {fx ds:List Deferred} (hm:qeb G w lo rf fx ds) (he:Ext n G w G' w'):qeb G' w' lo rf fx ds:=
 let ⟨ms,h1,h2,h3⟩:=hm
 ⟨ms,h1,h2.ext he,h3⟩
def qej (ro:Option Nat) (w:World):Prop:=∀l,ro = some l→∃L,w.heap[l]? = some (.loop L)
theorem qej.ext {ro:Option Nat} (hr:qej ro w) (he:Ext n G w G' w'):qej ro w':=fun l hl=>by
 obtain ⟨L,h1⟩:=hr l hl
 obtain ⟨L',h2,_⟩:=he.loops l L h1
 exact ⟨L',h2⟩
def qne (P:Program) (gl:Nat→Option (List qa)) (n:Nat) (G:qd) (w:World) (lo:Nat) (rf:Bool) (fx:List Deferred) (x:Ex) (s':St) (e:Exit) (a':Act) (w':World):Prop:=
 ∃G',Ext n G w G' w'∧qeb G' w' lo rf fx a'.defers∧match x with
  | .nor=>e = .normal∧Cfg P gl G' s'.h s'.t a' w'
  | .exit id=>e = .exit id∧Cfg P gl G' s'.h s'.t a' w'
  | .ret=>e = .ret∧Cfg P gl G' s'.h s'.t a' w'
  | .pan pv=>∃v,e = .panic [{ v,recovered:=false}]∧Cfg P gl G' s'.h s'.t a' w'∧G'.V pv v
theorem Fin.to2 {lo:Nat} {rf:Bool} {fx ds:List Deferred} {x:Ex} {s':St} {e:Exit} {a':Act} (hm:qeb G w lo rf fx ds) (hf:Fin P gl n G w ds x s' e a' w'):qne P gl n G w lo rf fx x s' e a' w':=by
 obtain ⟨G',h1,h2,h3⟩:=hf
 exact ⟨G',h1,by rw [h2];exact hm.ext h1,h3⟩
theorem qne.of_ext {m lo:Nat} {rf:Bool} {fx:List Deferred} {x:Ex} {s':St} {e:Exit} {a':Act} {w'':World} (hnm:n ≤ m) (he:Ext n G w G' w') (hf:qne P gl m G' w' lo rf fx x s' e a' w''):qne P gl n G w lo rf fx x s' e a' w'':=
 let ⟨G'',h1,h2⟩:=hf
 ⟨G'',he.trans hnm h1,h2⟩
end
end Go.AE
namespace Go.AE
section
variable {P:Program} {gl:Nat→Option (List qa)}
theorem qea {w:World} {l₀:Nat} {r₀:Loop} (h:w.heap[l₀]? = some (.loop r₀)) (fn:FuncId) (tmps:Array Value) (ps:Array Tmp) (assign body:Code) :
  (Instr.enterLoop fn tmps ps assign body (some l₀)).run P w =
   .ok (w.heap.size,[]) (w.alloc (.loop { state:=.ready,pending:=none,fn,tmps,params:=ps,assign,body,defers:=r₀.defers})):=by
 unfold Instr.enterLoop
 simp only [Sem.run_bind,run_getLoop h,run_newObj_alloc,Result.andThen,Sem.run_pure]
theorem qjH {ro:Option Nat} {G:qd} {w:World} {h:List qf} {t:List qa} {a:Act} (hc:Cfg P gl G h t a w) (hro:qej ro w) {lo:Nat} (hlo:lo ≤ w.heap.size) {ms:List Deferred} (hm:qgR G w lo ms) (fn:FuncId) {ps:Array Tmp} {assign body:Code} {asg bd:qG}
  (ha:comp P gl assign = some asg) (hb:comp P gl body = some bd) :
  ∃l mark w1 G1,(Instr.enterLoop fn a.tmps ps assign body ro).run P w = .ok (l,mark) w1∧Ext h.length G w G1 w1∧Rel P gl G1 (h ++ [.loop (t.map qa.dim) ps.toList asg bd .ready none]) w1∧G1.γ h.length = some l∧G1.ow = G.ow∧w.heap.size ≤ l∧
   qgR G1 w1 lo (mark ++ ms)∧(∀d ∈ mark,∃r,d = { target:=.collected r,args:=#[]}∧w.heap.size ≤ r):=by
 have hi:G.γ h.length = none:=by
  cases hg:G.γ h.length with
  | none=>rfl
  | some b=>have:=(hc.rel.γlt _ b hg).1;omega
 have hnew:∀{w0:World} {L:Loop},Rel P gl G h w0→G.VL (t.map qa.dim) L.tmps.toList→L.params = ps→L.assign = assign→L.body = body→L.state = .ready→L.pending = none→
   Rel P gl (G.withBox h.length w0.heap.size) (h ++ [.loop (t.map qa.dim) ps.toList asg bd .ready none]) (w0.alloc (.loop L))∧Ext h.length G w0 (G.withBox h.length w0.heap.size) (w0.alloc (.loop L)):=by
  intro w0 L hr h1 h2 h3 h4 h5 h6
  have hext:Ext h.length G w0 (G.withBox h.length w0.heap.size) (w0.alloc (.loop L)):=Ext.newBox hi (Nat.le_refl _) _
  refine ⟨hr.newBox (o:=.loop L) (bx:=.loop (t.map qa.dim) ps.toList asg bd .ready none) hi (by simp) (by simp) (fun j hj b hb=>by rw [List.getElem?_append_left (hr.γlt j b hb).1]) (by simp) ⟨L,qZ w0 _,?_⟩,hext⟩
  exact ⟨hext.VL h1,fun x hx=>by obtain ⟨y,_,rfl⟩:=List.mem_map.1 hx;exact qbx y,by rw [h2],by rw [h3];exact ha,by rw [h4];exact hb,by rw [h5];trivial,by rw [h6];trivial⟩
 cases ro with
 | none=>
  have hr1:=hc.rel.alloc (.deferred (some []))
  obtain ⟨h1,h2⟩:=hnew (w0:=w.alloc (.deferred (some []))) (L:={ state:=.ready,pending:=none,fn,tmps:=a.tmps,params:=ps,assign,body,defers:=w.heap.size}) hr1 hc.tr.rel.dims rfl rfl rfl rfl rfl
  have hE:Ext h.length G w (G.withBox h.length (w.alloc (.deferred (some []))).heap.size) ((w.alloc (.deferred (some []))).alloc (.loop { state:=.ready,pending:=none,fn,tmps:=a.tmps,params:=ps,assign,body,defers:=w.heap.size})):=
   (Ext.alloc h.length G w (.deferred (some []))).trans (Nat.le_refl _) h2
  have hfor:qcQ G w.heap.size:=⟨fun i hi=>by have:=(hc.rel.γlt i _ hi).2;omega,by
   cases ho:G.ow w.heap.size with
   | none=>rfl
   | some ℓ=>have:=(hc.rel.ow _ _ ho).1;omega⟩
  refine ⟨_,_,_,_,run_enterLoop_outer fn a.tmps ps assign body,hE,h1,by simp [qd.withBox],rfl,by omega,⟨?_,fun d hd=>?_⟩,fun d hd=>⟨w.heap.size,by simpa using hd,Nat.le_refl _⟩⟩
  ·rw [List.singleton_append,List.nodup_cons]
   refine ⟨fun hmem=>?_,hm.nodup⟩
   obtain ⟨r,h3,_,h5,_⟩:=hm.all _ hmem
   have hlt:=(Array.getElem?_eq_some_iff.1 h5).1
   injection h3 with h3
   injection h3 with h3
   omega
  ·rw [List.singleton_append] at hd
   rcases List.mem_cons.1 hd with rfl | hd
   ·refine ⟨w.heap.size,rfl,hlo,?_,?_⟩
    ·rw [qP _ _ (by simp)]
     exact qZ w _
    ·exact hfor.ext (w:=w.alloc (.deferred (some []))) (by simp) h2
   ·exact (hm.ext hE).all d hd
 | some l₀=>
  obtain ⟨L0,hL0⟩:=hro l₀ rfl
  obtain ⟨h1,h2⟩:=hnew (w0:=w) (L:={ state:=.ready,pending:=none,fn,tmps:=a.tmps,params:=ps,assign,body,defers:=L0.defers}) hc.rel hc.tr.rel.dims rfl rfl rfl rfl rfl
  refine ⟨_,_,_,_,qea hL0 fn a.tmps ps assign body,h2,h1,by simp [qd.withBox],rfl,Nat.le_refl _,?_,fun _ h=>by cases h⟩
  rw [List.nil_append]
  exact hm.ext h2
theorem qyk {st:LSt} {S:LoopState} (h:qku st S) (hb:st ≠ .busy):S ≠ .busy:=by
 cases st <;> cases S <;> simp_all [qku]
theorem qcr (hmx:P.follows .mixedOrders = true) {call:AE.Call} (hcall:qb7 P gl call) (hk:qH call) {N base lo:Nat} {rf:Bool} {fx:List Deferred} {ro:Option Nat} {m:Nat} :
  ∀(c:Code) (ac:qG),comp P gl c = some ac→(rf = true→ac.noRf = true)→∀(G:qd) (w:World) (s:St) (a:Act) (x:Ex) (s':St),Cfg P gl G s.h s.t a w→base ≤ s.h.length→qej ro w→qeb G w lo rf fx a.defers→lo ≤ w.heap.size→
   qaV N base call ac s = some (x,s')→c.wpIn (FR ro) m P (qne P gl s.h.length G w lo rf fx x s') a w:=by
 intro c
 induction c with
 | skip=>
  intro ac hcomp hrf G w s a x s' hc hb hro hm hlo hrun
  simp only [comp] at hcomp
  cases hcomp
  simp only [qaV] at hrun
  cases hrun
  exact wpIn_skip ⟨G,Ext.refl _ G w,hm,rfl,hc⟩
 | region id ops draw=>
  intro ac hcomp hrf G w s a x s' hc hb hro hm hlo hrun
  cases draw with
  | false=>
   simp only [comp] at hcomp
   obtain ⟨os,hos,rfl⟩:=qbT hcomp
   simp only [qaV] at hrun
   have hl:=qdI ops.toList 0 os (by simp) hos
   rw [Array.length_toList,←List.range_eq_range'] at hl
   exact wpIn_region (qqC hcall hk _ os hl G w s.h s.t s.e a [] hc qbh.nil hb hrun _ fun e a' w' hf=>hf.to2 hm)
  | true=>
   simp only [comp] at hcomp
   split at hcomp
   ·rename_i ds hds
    cases hcomp
    simp only [qaV] at hrun
    exact wpIn_mono (qlG hmx hcall hk hds hc hb hrun) fun e a' w' hf=>hf.to2 hm
   ·cases hcomp
 | seq c1 c2 ih1 ih2=>
  intro ac hcomp hrf G w s a x s' hc hb hro hm hlo hrun
  simp only [comp] at hcomp
  split at hcomp
  ·rename_i b1 b2 e1 e2
   cases hcomp
   simp only [qaV] at hrun
   split at hrun
   ·rename_i s1 h1
    have hkeep:=(qJ (base:=base) hk N b1 s s1 _ hb h1).1
    refine wpIn_seq (wpIn_mono (ih1 b1 e1 (fun h=>by have:=hrf h;simp only [qG.noRf,Bool.and_eq_true] at this;exact this.1) G w s a _ s1 hc hb hro hm hlo h1) fun e a' w' hf=>?_)
    obtain ⟨G',g1,g2,rfl,g4⟩:=hf
    exact wpIn_mono (ih2 b2 e2 (fun h=>by have:=hrf h;simp only [qG.noRf,Bool.and_eq_true] at this;exact this.2) G' w' s1 a' x s' g4 (Nat.le_trans hb hkeep) (hro.ext g1) g2 (Nat.le_trans hlo g1.size) hrun) fun e a'' w'' hf=>hf.of_ext hkeep g1
   ·rename_i r h1
    refine wpIn_seq (wpIn_mono (ih1 b1 e1 (fun h=>by have:=hrf h;simp only [qG.noRf,Bool.and_eq_true] at this;exact this.1) G w s a x s' hc hb hro hm hlo hrun) fun e a' w' hf=>?_)
    obtain ⟨G',g1,g2,g3⟩:=hf
    cases x with
    | nor=>exact absurd hrun (h1 s')
    | exit id=>obtain ⟨rfl,g3⟩:=g3;exact ⟨G',g1,g2,rfl,g3⟩
    | ret=>obtain ⟨rfl,g3⟩:=g3;exact ⟨G',g1,g2,rfl,g3⟩
    | pan v=>obtain ⟨u,rfl,g3⟩:=g3;exact ⟨G',g1,g2,u,rfl,g3⟩
  ·cases hcomp
 | cond o c1 c2 ih1 ih2=>
  intro ac hcomp hrf G w s a x s' hc hb hro hm hlo hrun
  simp only [comp] at hcomp
  split at hcomp
  ·rename_i z b1 b2 ez e1 e2
   cases hcomp
   have hv:=qQ hc.rel hc.tr ez
   simp only [qaV] at hrun
   split at hrun
   ·rename_i hz
    rw [hz] at hv
    simp only [qd.V,qt] at hv
    exact wpIn_cond_true hv (ih1 b1 e1 (fun h=>by have:=hrf h;simp only [qG.noRf,Bool.and_eq_true] at this;exact this.1) G w s a x s' hc hb hro hm hlo hrun)
   ·rename_i hz
    rw [hz] at hv
    simp only [qd.V,qt] at hv
    exact wpIn_cond_false hv (ih2 b2 e2 (fun h=>by have:=hrf h;simp only [qG.noRf,Bool.and_eq_true] at this;exact this.2) G w s a x s' hc hb hro hm hlo hrun)
   ·cases hrun
  ·cases hcomp
 | block id c ih=>
  intro ac hcomp hrf G w s a x s' hc hb hro hm hlo hrun
  simp only [comp] at hcomp
  obtain ⟨b,hb1,rfl⟩:=qbT hcomp
  simp only [qaV] at hrun
  refine wpIn_block ?_
  split at hrun
  ·rename_i j s1 h1
   refine wpIn_mono (ih b hb1 (fun h=>hrf h) G w s a _ s1 hc hb hro hm hlo h1) fun e a' w' hf=>?_
   obtain ⟨G',g1,g2,rfl,g4⟩:=hf
   simp only [Exit.inBlock]
   split at hrun
   ·rename_i hj
    cases hrun
    rw [if_pos hj]
    exact ⟨G',g1,g2,rfl,g4⟩
   ·rename_i hj
    cases hrun
    rw [if_neg hj]
    exact ⟨G',g1,g2,rfl,g4⟩
  ·rename_i r h1
   refine wpIn_mono (ih b hb1 (fun h=>hrf h) G w s a x s' hc hb hro hm hlo hrun) fun e a' w' hf=>?_
   obtain ⟨G',g1,g2,g3⟩:=hf
   cases x with
   | nor=>obtain ⟨rfl,g3⟩:=g3;exact ⟨G',g1,g2,rfl,g3⟩
   | exit id=>exact absurd hrun (h1 id s')
   | ret=>obtain ⟨rfl,g3⟩:=g3;exact ⟨G',g1,g2,rfl,g3⟩
   | pan v=>obtain ⟨u,rfl,g3⟩:=g3;exact ⟨G',g1,g2,u,rfl,g3⟩
 | loop c ih=>
  intro ac hcomp hrf G w s a x s' hc hb hro hm hlo hrun
  simp only [comp] at hcomp
  obtain ⟨b,hb1,rfl⟩:=qbT hcomp
  simp only [qaV] at hrun
  refine wpIn_loop_rounds N ?_
  have key:∀(k:Nat) (G:qd) (w:World) (s:St) (a:Act),Cfg P gl G s.h s.t a w→base ≤ s.h.length→qej ro w→qeb G w lo rf fx a.defers→lo ≤ w.heap.size→iter (qaV N base call b) k s = some (x,s')→
    Code.roundsIn (FR ro) m P c (qne P gl s.h.length G w lo rf fx x s') k a w:=by
   intro k
   induction k with
   | zero=>intro G w s a _ _ _ _ _ hit;simp [iter] at hit
   | succ k ihk=>
    intro G w s a hc hb hro hm hlo hit
    rw [roundsIn_succ]
    simp only [iter] at hit
    split at hit
    ·rename_i s1 h1
     have hkeep:=(qJ (base:=base) hk N b s s1 _ hb h1).1
     refine wpIn_mono (ih b hb1 (fun h=>hrf h) G w s a _ s1 hc hb hro hm hlo h1) fun e a' w' hf=>?_
     obtain ⟨G',g1,g2,rfl,g4⟩:=hf
     have:=ihk G' w' s1 a' g4 (Nat.le_trans hb hkeep) (hro.ext g1) g2 (Nat.le_trans hlo g1.size) hit
     have mono:∀(k:Nat) (Q Q':Exit→Act→World→Prop),(∀e a w,Q e a w→Q' e a w)→∀a w,Code.roundsIn (FR ro) m P c Q k a w→Code.roundsIn (FR ro) m P c Q' k a w:=by
      intro k Q Q' hq
      induction k with
      | zero=>exact fun a w h=>h
      | succ k ihk=>exact fun a w h=>wpIn_mono h fun e a w he=>by cases e <;> first | exact ihk a w he | exact hq _ _ _ he
     exact mono k _ _ (fun e a'' w'' hf=>hf.of_ext hkeep g1) _ _ this
    ·rename_i r h1
     refine wpIn_mono (ih b hb1 (fun h=>hrf h) G w s a x s' hc hb hro hm hlo hit) fun e a' w' hf=>?_
     obtain ⟨G',g1,g2,g3⟩:=hf
     cases x with
     | nor=>exact absurd hit (h1 s')
     | exit id=>obtain ⟨rfl,g3⟩:=g3;exact ⟨G',g1,g2,rfl,g3⟩
     | ret=>obtain ⟨rfl,g3⟩:=g3;exact ⟨G',g1,g2,rfl,g3⟩
     | pan v=>obtain ⟨u,rfl,g3⟩:=g3;exact ⟨G',g1,g2,u,rfl,g3⟩
  exact key N G w s a hc hb hro hm hlo hrun
 | rangeFunc g ps assign body iha ihb=>
  intro ac hcomp hrf G w s a x s' hc hb hro hm hlo hrun
  simp only [comp] at hcomp
  split at hcomp
  ·rename_i z asg bd ez ea eb
   cases hcomp
   simp only [qaV] at hrun
   split at hrun
   ·rename_i g0 first cap hz
    obtain ⟨ms,hds,hm,hms0⟩:=hm
    have hrf:rf = false:=by
     cases rf with
     | false=>rfl
     | true=>have:=hrf rfl;simp [qG.noRf] at this
    refine wpIn_rangeFunc fun fn _=>?_
    obtain ⟨hr0,hn0⟩:=hc.rel.cellsOnly
    have hc0:Cfg P gl G s.h s.t a w:=hc
    have hcO:Cfg P gl G.cellsOnly s.h (s.t.map qa.dim) a w:=⟨hr0,⟨hc.tr.rel.dims,fun i xs k v hx _=>(qiT hx).elim⟩⟩
    have hmO:qgR G.cellsOnly w lo ms:=⟨hm.nodup,fun d hd=>by
     obtain ⟨r,h1,h2,h3,h4⟩:=hm.all d hd
     exact ⟨r,h1,h2,h3,h4.1,by simp [qd.cellsOnly,h4.2]⟩⟩
    obtain ⟨l,mark,w1,G1,e1,e2,e3,e4,e5,e6,e7,e8⟩:=qjH hcO hro hlo hmO fn (ps:=ps) ea eb
    have hmm:(s.t.map qa.dim).map qa.dim = s.t.map qa.dim:=by rw [List.map_map];exact List.map_congr_left fun y _=>qbx y
    rw [hmm] at e3
    have hn1:qdz G1:=fun b i=>by rw [e5];exact hn0 b i
    have hfv:G1.V (.fn g0 first cap) (a.eval g):=by
     have:=qQ hc.rel hc.tr ez
     rw [hz] at this
     exact e2.V this
    have hav:G1.VL [.yld s.h.length] (#[.func (.yield l) #[] #[]]:Array Value).toList:=by
     simp only [qd.VL,qh,qt]
     exact ⟨_,_,rfl,⟨l,e4,rfl⟩,rfl⟩
    have hlen1:(s.h ++ [qf.loop (s.t.map qa.dim) ps.toList asg bd .ready none]).length = s.h.length + 1:=by simp
    have after:∀{G2:qd} {w3:World} {h3:List qf} {n2:Nat},Ext s.h.length G.cellsOnly w G2 w3→Ext n2 G1 w1 G2 w3→Rel P gl G2 h3 w3→
      Ext s.h.length G w (G2.with G) w3∧Rel P gl (G2.with G) h3 w3∧qaE (G2.with G) w3 s.t a.tmps∧qeb (G2.with G) w3 lo rf fx (mark ++ a.defers):=by
     intro G2 w3 h3 n2 x1 x2 x3
     obtain ⟨b1,b2,b3⟩:=qeB hc0 x1 x3
     refine ⟨b1,b2,b3,mark ++ ms,by rw [hds,List.append_assoc],?_,fun h=>by rw [hrf] at h;cases h⟩
     have h5:=e7.ext x2
     refine ⟨h5.nodup,fun d hd=>?_⟩
     obtain ⟨r,g1,g2,g3,g4⟩:=h5.all d hd
     refine ⟨r,g1,g2,g3,g4.1,?_⟩
     cases hgo:G.ow r with
     | none=>simp [qd.with,hgo,g4.2]
     | some ℓ=>
      cases ℓ with
      | cell i o=>simp [qd.with,hgo,g4.2]
      | tmp i=>
       exfalso
       have hsz:=(hc.rel.ow r _ hgo).1
       rcases List.mem_append.1 hd with hd | hd
       ·obtain ⟨r',q1,q2⟩:=e8 d hd
        rw [g1] at q1
        injection q1 with q1
        injection q1 with q1
        omega
       ·obtain ⟨r',q1,q2,q3,q4⟩:=hm.all d hd
        rw [g1] at q1
        injection q1 with q1
        injection q1 with q1
        rw [q1,q4.2] at hgo
        cases hgo
    have back:∀{r:qcD} {h':List qf} {e':Bool},call (.fn g0 first cap) [.yld s.h.length] (s.h ++ [.loop (s.t.map qa.dim) ps.toList asg bd .ready none]) = some (r,h',e')→
      (∀w3 v,qnb P gl (s.h.length + 1) G1 w1 r h' (.returned v) w3→rangePost (FR ro) m P l (qne P gl s.h.length G w lo rf fx x s') { a with defers:=mark ++ a.defers} (.returned v) w3)→
      (∀w3 ch,qnb P gl (s.h.length + 1) G1 w1 r h' (.panicked ch) w3→rangePost (FR ro) m P l (qne P gl s.h.length G w lo rf fx x s') { a with defers:=mark ++ a.defers} (.panicked ch) w3)→
      ∃(l:Nat) (mark:List Deferred) (w₁:World) (d:Deferred) (w₁':World) (f:FuncId) (args:Array Value) (w₂:World),
       (Instr.enterLoop fn a.tmps ps assign body (FR ro).round).run P w = .ok (l,mark) w₁∧
       (resolve a.eval (rangeCall g l) 0).run P w₁ = .ok d w₁'∧
       (∀f',Target.leads P w₁' d.target d.args = some f'→(FR ro).fn f')∧
       (invoke d.target d.args).run P w₁' = .ok (.enter f args) w₂∧
       ((FR ro).depth.isSome = true→1 ≤ m)∧
       CallsIn (FR ro) (m - 1) P f args w₂ (rangePost (FR ro) m P l (qne P gl s.h.length G w lo rf fx x s') { a with defers:=mark ++ a.defers}):=by
     intro r h' e' hcl hret hpan
     rcases hcall _ _ _ _ _ _ hcl G1 w1 (a.eval g) #[.func (.yield l) #[] #[]] e3 hn1 hfv hav with ⟨f,as,h1,h2⟩ | ⟨i,b,f,tmps,asg',body',hyl,_⟩ | ⟨v,w',hna,_⟩
     ·have hfv':=hfv
      simp only [qd.V,qt] at hfv'
      obtain ⟨xs,ys,hfe,_,_⟩:=hfv'
      have hres:(Deferred.ofValue (a.eval g) #[.func (.yield l) #[] #[]]).run P w1 = .ok { target:=.fn (.func g0) ys,args:=xs ++ #[.func (.yield l) #[] #[]]} w1:=by rw [hfe];rfl
      have hinv:(invoke (.fn (.func g0) ys) (xs ++ #[.func (.yield l) #[] #[]])).run P w1 = .ok (.enter f as) w1:=by
       have:=h1
       simp only [qeA,Sem.run_bind,hres,Result.andThen] at this
       exact this
      refine ⟨l,mark,w1,{ target:=.fn (.func g0) ys,args:=xs ++ #[.func (.yield l) #[] #[]]},w1,f,as,w1,e1,?_,fun _ _=>trivial,hinv,qfP,?_⟩
      ·simp only [resolve,List.map_toArray,List.map_cons,List.map_nil]
       exact hres
      ·refine CallsIn.mono (h2 ro (m - 1)) fun e w3 hb3=>?_
       rw [hlen1] at hb3
       cases e with
       | returned v=>exact hret w3 v hb3
       | panicked ch=>exact hpan w3 ch hb3
       | outgrown=>exact hb3.elim
     ·cases hyl
     ·exact absurd rfl (hna s.h.length)
    split at hrun
    ·rename_i rv h' e' hcl
     refine back hcl (fun w3 v hb3=>?_) (fun w3 ch hb3=>?_)
     ·obtain ⟨rv',G2,hrv,k1,k2,k3,k4⟩:=hb3
      have hγ2:=k1.gk _ _ e4
      split at hrun
      ·rename_i t2 ps2 asg2 bd2 st2 pend2 hbx
       split at hrun
       ·cases hrun
       ·rename_i hnb
        obtain ⟨L2,hL2,hLR⟩:=k2.box _ _ _ hγ2 hbx
        have hpend:=hLR.pend
        have hend:=run_endLoop (P:=P) hL2 (qyk hLR.st hnb)
        have hLR':qf4 P gl G2 t2 ps2 asg2 bd2 .exhausted pend2 { L2 with state:=.exhausted}:={ hLR with st:=trivial}
        have hrel4:=k2.putLoop hγ2 hbx hLR'
        have hext4:Ext s.h.length G.cellsOnly w G2 (w3.putObj l (.loop { L2 with state:=.exhausted})):=
         (e2.trans (Nat.le_succ _) k1).trans (Nat.le_refl _) (Ext.putLoop _ hγ2 hL2 ⟨rfl,rfl,rfl,rfl,rfl,rfl⟩)
        obtain ⟨b1,b2,b3,hm4⟩:=after hext4 (k1.trans (Nat.le_refl _) (Ext.putLoop _ hγ2 hL2 ⟨rfl,rfl,rfl,rfl,rfl,rfl⟩)) hrel4
        have hcfg4:Cfg P gl (G2.with G) (h'.set s.h.length (.loop t2 ps2 asg2 bd2 .exhausted pend2)) s.t { a with defers:=mark ++ a.defers} (w3.putObj l (.loop { L2 with state:=.exhausted})):=⟨b2,b3⟩
        suffices hs:∀j,j = L2.pending→(match j with
          | none=>qne P gl s.h.length G w lo rf fx x s' .normal { a with defers:=mark ++ a.defers} (w3.putObj l (.loop { L2 with state:=.exhausted}))
          | some c=>c.wpIn (FR ro) m P (qne P gl s.h.length G w lo rf fx x s') { a with defers:=mark ++ a.defers} (w3.putObj l (.loop { L2 with state:=.exhausted}))) from ⟨_,_,hend,hs _ rfl⟩
        intro j hj
        cases hp:pend2 with
        | none=>
         rw [hp] at hrun hpend
         simp only at hrun
         cases hrun
         have:L2.pending = none:=by cases hq:L2.pending <;> rw [hq] at hpend <;> first | rfl | exact hpend.elim
         cases hj.trans this
         exact ⟨_,b1,hm4,rfl,by rw [←hp];exact hcfg4⟩
        | some j2=>
         rw [hp] at hrun hpend
         cases j2 with
         | ret=>
          simp only at hrun
          cases hrun
          have:L2.pending = some .ret:=by
           cases hq:L2.pending with
           | none=>rw [hq] at hpend;exact hpend.elim
           | some c=>rw [hq] at hpend;cases c <;> first | rfl | exact hpend.elim
          cases hj.trans this
          exact wpIn_ret ⟨_,b1,hm4,rfl,by rw [←hp];exact hcfg4⟩
         | exit id=>
          simp only at hrun
          cases hrun
          have:L2.pending = some (.exit id):=by
           cases hq:L2.pending with
           | none=>rw [hq] at hpend;exact hpend.elim
           | some c=>
            rw [hq] at hpend
            cases c <;> first | (simp only [qkf] at hpend;rw [hpend];done) | exact hpend.elim
          cases hj.trans this
          exact wpIn_exit ⟨_,b1,hm4,rfl,by rw [←hp];exact hcfg4⟩
      ·cases hrun
     ·obtain ⟨pv,v,G2,hpv,_⟩:=hb3
      cases hpv
    ·rename_i pv h' e' hcl
     cases hrun
     refine back hcl (fun w3 v hb3=>?_) (fun w3 ch hb3=>?_)
     ·obtain ⟨rv',G2,hrv,_⟩:=hb3
      cases hrv
     ·obtain ⟨pv',v,G2,hpv,rfl,k1,k2,k3,k4⟩:=hb3
      cases hpv
      obtain ⟨b1,b2,b3,hm4⟩:=after (e2.trans (Nat.le_succ _) k1) k1 k2
      exact ⟨_,b1,hm4,v,rfl,⟨b2,b3⟩,k4⟩
    ·cases hrun
   ·cases hrun
  ·cases hcomp
 | exit id=>
  intro ac hcomp hrf G w s a x s' hc hb hro hm hlo hrun
  simp only [comp] at hcomp
  cases hcomp
  simp only [qaV] at hrun
  cases hrun
  exact wpIn_exit ⟨G,Ext.refl _ G w,hm,rfl,hc⟩
 | scope c ih=>intro ac hcomp;simp [comp] at hcomp
 | label l=>intro ac hcomp;simp [comp] at hcomp
 | goto l=>intro ac hcomp;simp [comp] at hcomp
 | ret=>
  intro ac hcomp hrf G w s a x s' hc hb hro hm hlo hrun
  simp only [comp] at hcomp
  cases hcomp
  simp only [qaV] at hrun
  cases hrun
  exact wpIn_ret ⟨G,Ext.refl _ G w,hm,rfl,hc⟩
 | refuse why=>intro ac hcomp;simp [comp] at hcomp
end
end Go.AE
namespace Go.AE
section
variable {P:Program} {gl:Nat→Option (List qa)} {G G' G0:qd} {w w' w0:World} {h:List qf} {t:List qa} {ts:Array Value} {n:Nat}
mutual
theorem qdB {γ:Nat→Option Nat} {imm:Nat→Nat→Option Value} {n:Nat} (hγ:∀i b,γ i = some b→i < n):∀(a:qa) (v:Value),qt γ imm a v→a.lower n = true
 | .undef,_,_=>rfl
 | .bool _,_,_=>rfl
 | .int _ _,_,_=>rfl
 | .str _,_,_=>rfl
 | .nilptr,_,_=>rfl
 | .ptr i o,v,h=>by simp only [qt] at h;obtain ⟨b,hb,_⟩:=h;simpa [qa.lower] using hγ i b hb
 | .iptr cs o,v,h=>by simp only [qt] at h;obtain ⟨b,p,_,hc⟩:=h;simp only [qa.lower];exact qhv hγ cs b p hc
 | .lst xs f,v,h=>by
  simp only [qt] at h
  obtain ⟨a,len,cap,_,_,_,_,_,_,h5⟩:=h
  simp only [qa.lower]
  rcases h5 with rfl | ⟨b,p,_,he⟩
  ·rfl
  ·exact qkD hγ xs b p he
 | .nilfunc,_,_=>rfl
 | .fn f as bs,v,h=>by
  simp only [qt] at h
  obtain ⟨x,y,_,h1,h2⟩:=h
  simp only [qa.lower,Bool.and_eq_true]
  exact ⟨qcG hγ as _ h1,qcG hγ bs _ h2⟩
 | .yld i,v,h=>by simp only [qt] at h;obtain ⟨b,hb,_⟩:=h;simpa [qa.lower] using hγ i b hb
 | .niliface,_,_=>rfl
 | .iface t a,v,h=>by simp only [qt] at h;obtain ⟨x,_,h1⟩:=h;simp only [qa.lower];exact qdB hγ a x h1
 | .agg cs,v,h=>by simp only [qt] at h;obtain ⟨x,_,h1⟩:=h;simp only [qa.lower];exact qcG hγ cs _ h1
 | .tup cs,v,h=>by simp only [qt] at h;obtain ⟨x,_,h1⟩:=h;simp only [qa.lower];exact qcG hγ cs _ h1
 | .sl i _ _ _ _,v,h=>by simp only [qt] at h;obtain ⟨b,c,hb,_⟩:=h;simpa [qa.lower] using hγ i b hb
 | .mp i,v,h=>by simp only [qt] at h;obtain ⟨b,hb,_⟩:=h;simpa [qa.lower] using hγ i b hb
 | .nilmap,_,_=>rfl
 | .nils,_,_=>rfl
 | .empt,_,_=>rfl
theorem qcG {γ:Nat→Option Nat} {imm:Nat→Nat→Option Value} {n:Nat} (hγ:∀i b,γ i = some b→i < n):∀(as:List qa) (vs:List Value),qh γ imm as vs→qy n as = true
 | [],_,_=>rfl
 | a :: as,vs,h=>by
  simp only [qh] at h
  obtain ⟨v,rest,_,h1,h2⟩:=h
  simp only [qy,Bool.and_eq_true]
  exact ⟨qdB hγ a v h1,qcG hγ as rest h2⟩
theorem qhv {γ:Nat→Option Nat} {imm:Nat→Nat→Option Value} {n:Nat} (hγ:∀i b,γ i = some b→i < n):∀(cs:List qa) (b p:Nat),qaj γ imm cs b p→qy n cs = true
 | [],_,_,_=>rfl
 | c :: cs,b,p,h=>by
  simp only [qaj] at h
  obtain ⟨⟨v,_,h1⟩,h2⟩:=h
  simp only [qy,Bool.and_eq_true]
  exact ⟨qdB hγ c v h1,qhv hγ cs b (p + 1) h2⟩
theorem qkD {γ:Nat→Option Nat} {imm:Nat→Nat→Option Value} {n:Nat} (hγ:∀i b,γ i = some b→i < n):∀(xs:List qa) (b p:Nat),qL γ imm xs b p→qy n xs = true
 | [],_,_,_=>rfl
 | x :: xs,b,p,h=>by
  obtain ⟨h1,h2⟩:=h.uncons
  simp only [qy,Bool.and_eq_true]
  refine ⟨?_,qkD hγ xs b _ h2⟩
  cases x with
  | agg cs=>simp only [qa.cells] at h1;simp only [qa.lower];exact qhv hγ cs b p h1
  | _=>
   simp only [qa.cells,qaj] at h1
   obtain ⟨⟨v,_,h3⟩,_⟩:=h1
   exact qdB hγ _ v h3
end
theorem qnk {n:Nat} (hγ:∀i b,G.γ i = some b→i < n):∀(es:List (Nat×qa×qa)) (me:List MapEntry),qV G es me→qa7 n es = true
 | [],_,_=>rfl
 | x :: xs,me,h=>by
  simp only [qV] at h
  obtain ⟨e,rest,_,_,h2,h3,h4⟩:=h
  simp only [qa7,Bool.and_eq_true]
  exact ⟨⟨qdB hγ _ _ h2,qdB hγ _ _ h3⟩,qnk hγ xs rest h4⟩
theorem qnD (hr:Rel P gl G h w) {i b:Nat} {bx:qf} (hi:G.γ i = some b) (hx:h[i]? = some bx):bx.lower h.length = true:=by
 have hγ:∀i b,G.γ i = some b→i < h.length:=fun i b hb=>(hr.γlt i b hb).1
 have h0:=hr.box i b bx hi hx
 cases bx with
 | cells cs=>obtain ⟨c,e,_,h1,_⟩:=h0;exact qcG hγ cs _ h1
 | loop t ps asg body st pend=>obtain ⟨L,_,h1⟩:=h0;exact qcG hγ t _ h1.tmps
 | map es _=>obtain ⟨me,_,h1⟩:=h0;exact qnk hγ es _ h1
 | iter m _ _ _=>obtain ⟨mm,_,h1⟩:=h0;exact qdB hγ m _ h1
 | bld _ _ _=>rfl
 | dead=>rfl
def qd.below (G:qd) (n:Nat):qd:={ G with γ:=fun i=>if i < n then G.γ i else none}
theorem qc9 {n i b:Nat} (h:(G.below n).γ i = some b):i < n∧G.γ i = some b:=by
 simp only [qd.below] at h
 split at h
 ·exact ⟨‹_›,h⟩
 ·cases h
theorem qvQ {n:Nat} {a:qa} {v:Value} (hl:a.lower n = true) (hv:G.V a v):(G.below n).V a v:=
 qt.mono (fun _ _ _ h=>h) n (fun i b hi hb=>by simp [qd.below,hi,hb]) a v hl hv
theorem left (hr0:Rel P gl G0 h w0) {h':List qf} (he:Ext h.length G0 w0 G w) (hr:Rel P gl G h' w) (hk1:h.length ≤ h'.length) (hlow:∀i b bx,G0.γ i = some b→h'[i]? = some bx→bx.lower h.length = true):Ext h.length G0 w0 (G.below h.length) w∧Rel P gl (G.below h.length) (h'.take h.length) w:=by
 have hlen:(h'.take h.length).length = h.length:=by simp [hk1]
 refine ⟨⟨fun i b hi=>?_,fun i b hi=>?_,he.ik,he.inew,he.on,he.size,he.heap,he.loops,he.os,he.tape,he.output⟩,⟨fun i b hi=>?_,fun i j b hi hj=>?_,fun i b bx hi hx=>?_,hr.imm,fun b o v i hv hm hi=>?_,hr.immK,fun b ℓ hb=>⟨(hr.ow b ℓ hb).1,fun i hi=>?_⟩,fun g cs hg=>?_⟩⟩
 ·simp [qd.below,(hr0.γlt i b hi).1,he.gk i b hi]
 ·obtain ⟨h1,h2⟩:=qc9 hi
  rcases he.gn i b h2 with h3 | ⟨h3,_⟩
  ·exact .inl h3
  ·omega
 ·obtain ⟨h1,h2⟩:=qc9 hi
  exact ⟨by rw [hlen];exact h1,(hr.γlt i b h2).2⟩
 ·rw [List.getElem?_take_of_lt (qc9 hi).1,List.getElem?_take_of_lt (qc9 hj).1]
  exact hr.inj i j b (qc9 hi).2 (qc9 hj).2
 ·obtain ⟨h1,h2⟩:=qc9 hi
  rw [List.getElem?_take_of_lt h1] at hx
  have hi0:G0.γ i = some b:=by
   rcases he.gn i b h2 with h3 | ⟨h3,_⟩
   ·exact h3
   ·omega
  exact (hr.box i b bx h2 hx).keep (hlow i b bx hi0 hx) (fun _ _ _ h=>h) (fun j c hj hc=>by simp [qd.below,hj,hc]) rfl (fun _ _ h=>h) (fun _ _ _=>rfl) (fun _ _ _ _ h=>h)
 ·obtain ⟨h1,h2⟩:=qc9 hi
  rw [List.getElem?_take_of_lt h1]
  exact hr.immγ b o v i hv hm h2
 ·exact (hr.ow b ℓ hb).2 i (qc9 hi).2
 ·obtain ⟨h1,h2⟩:=hr.glob g cs hg
  exact ⟨qdy.mono (fun _ _ _ h=>h) cs g h2 h1,h2⟩
theorem qzL (hn:qdz G) (k:Nat):qdz (G.below k):=hn
theorem qc0 (hr0:Rel P gl G0 h w0) {s:St} (he:Ext h.length G0 w0 G w) (hr:Rel P gl G s.h w) (hk:h.length ≤ s.h.length∧(s.e = false→qT h.length h s.h)) {r0 r:qcD} {h':List qf} {e':Bool}
  (hl:qaQ h.length r0 s.h s.e = (r,h',e')):r = r0∧∃G',Ext h.length G0 w0 G' w∧Rel P gl G' h' w∧qdz G'∧(∀a v,(r0 = .ret a∨r0 = .pan a)→G.V a v→G'.V a v):=by
 obtain ⟨hc1,hc2⟩:=hr.cellsOnly
 have hec:Ext h.length G0 w0 G.cellsOnly w:=⟨he.gk,he.gn,he.ik,he.inew,fun b hb=>he.on b fun e=>hb (by simp [qd.cellsOnly,e]),he.size,he.heap,he.loops,he.os,he.tape,he.output⟩
 cases r0 <;> unfold qaQ at hl <;> simp only at hl <;> split at hl
 all_goals first
  | (rename_i hcond
     simp only [Bool.and_eq_true,Bool.or_eq_true,Bool.not_eq_true'] at hcond
     cases hl
     obtain ⟨k1,k2⟩:=left hr0 hec hc1 hk.1 (fun i b bx hi hx=>by
      have h1:=(hr0.γlt i b hi).1
      rcases hcond.1 with he0 | hlb
      ·obtain ⟨bx',h3,h4⟩:=(hk.2 he0).2 i h.length h[i] h1 (Nat.le_refl _) (List.getElem?_eq_getElem h1) (qnD hr0 hi (List.getElem?_eq_getElem h1))
       rw [hx] at h3
       cases h3
       exact h4
      ·simp only [beq_iff_eq] at hlb
       omega)
     refine ⟨rfl,_,k1,k2,qzL hc2 _,fun a v ha hv=>qvQ (G:=G.cellsOnly) ?_ hv⟩
     rcases ha with ha | ha <;> cases ha <;> exact hcond.2)
  | (cases hl
     exact ⟨rfl,_,hec,hc1,hc2,fun a v _ hv=>hv⟩)
def qAg (tmps:Array Value):ResultVar→Sem Value
 | .tmp t=>pure (tmps.getD t undef)
 | .cell a t=>do loadVar t (←asAddr (tmps.getD a undef))
theorem qmW (fn:Func) (tmps:Array Value):results fn tmps = (do
  let vs ←fn.results.mapM (qAg tmps)
  pure (if h:vs.size = 1 then vs[0] else .tuple vs)):=rfl
theorem qdO {s:St} {a:Act} (hc:Cfg P gl G s.h s.t a w):∀(l:List ResultVar) (rs:List qkB) (vs:List qa),l.mapM (qem P) = some rs→qat s rs = some vs→
  ∃us:List Value,(l.mapM (qAg a.tmps)).run P w = .ok us w∧G.VL vs us
 | [],rs,vs,h,hv=>by simp at h;subst h;simp only [qat] at hv;cases hv;exact ⟨[],by simp,by simp [qd.VL,qh]⟩
 | x :: l,rs,vs,h,hv=>by
  simp only [List.mapM_cons,Option.pure_def,Option.bind_eq_bind,Option.bind_eq_some_iff] at h
  obtain ⟨y,hy,ys,hys,h⟩:=h
  cases h
  cases x with
  | tmp i=>
   simp only [qem,Option.some.injEq] at hy
   subst hy
   simp only [qat] at hv
   split at hv
   ·rename_i vs' hvs'
    cases hv
    obtain ⟨us,h1,h2⟩:=qdO hc l ys vs' hys hvs'
    refine ⟨a.tmps.getD i undef :: us,?_,by simp only [qd.VL,qh];exact ⟨_,us,rfl,qcT (hc.tr.get i),h2⟩⟩
    rw [List.mapM_cons]
    simp only [qAg,Sem.run_bind,Sem.run_pure,Result.andThen_ok]
    rw [h1]
    rfl
   ·cases hv
  | cell i ty=>
   simp only [qem,Option.map_eq_some_iff] at hy
   obtain ⟨k,hk,rfl⟩:=hy
   simp only [qat] at hv
   split at hv
   ·rename_i v vs' hld hvs'
    cases hv
    obtain ⟨us,h1,h2⟩:=qdO hc l ys vs' hys hvs'
    have hp:=hc.tr.get i
    obtain ⟨u,h3,h4,_⟩:=qvf hc.rel hk hp hld
    have hptr:∃ad,a.tmps.getD i undef = .pointer (some ad):=by
     revert hp
     revert hld
     generalize s.t.getD i .undef = p
     intro hld hp
     cases p <;> simp only [qdh] at hld <;> first | (cases hld;done) | skip
     ·simp only [qd.V,qt] at hp;obtain ⟨b,_,e⟩:=hp;exact ⟨_,e⟩
     ·simp only [qd.V,qt] at hp;obtain ⟨b,p,e,_⟩:=hp;exact ⟨_,e⟩
    obtain ⟨ad,had⟩:=hptr
    refine ⟨u :: us,?_,by simp only [qd.VL,qh];exact ⟨_,us,rfl,h4,h2⟩⟩
    rw [List.mapM_cons]
    have h5:(qAg a.tmps (.cell i ty)).run P w = .ok u w:=by
     simp only [qAg]
     rw [had] at h3 ⊢
     exact h3
    rw [Sem.run_bind,h5,Result.andThen_ok,Sem.run_bind,h1]
    rfl
   ·cases hv
theorem qeX {s:St} {a:Act} (hc:Cfg P gl G s.h s.t a w) {fn:Func} {rs:List qkB} {vs:List qa} (h1:fn.results.toList.mapM (qem P) = some rs) (h2:qat s rs = some vs) :
  ∃u,(results fn a.tmps).run P w = .ok u w∧G.V (qbR vs) u:=by
 obtain ⟨us,h3,h4⟩:=qdO hc _ rs vs h1 h2
 have hlen:=h4.length
 have hrun:(results fn a.tmps).run P w = .ok (if h:us.toArray.size = 1 then us.toArray[0] else .tuple us.toArray) w:=by
  rw [qmW,Array.mapM_eq_mapM_toList]
  simp only [Sem.run_bind,map_eq_pure_bind]
  rw [h3]
  rfl
 refine ⟨_,hrun,?_⟩
 match vs,us,h4,hlen with
 | [],[],h4,_=>simp [qbR,qd.V,qt,qh]
 | [v],[u],h4,_=>
  simp only [qd.VL,qh] at h4
  obtain ⟨_,_,e,h5,_⟩:=h4
  cases e
  simpa [qbR] using h5
 | v :: v' :: vs,u :: u' :: us,h4,_=>
  simp only [qbR,qd.V,qt]
  refine ⟨_,?_,h4⟩
  simp
theorem qfF {fn:Func} {a:Act} {R:Ending→World→Prop} {F:Fence} {m:Nat} {u:FrameMode} (hu:u ≠ .run):∀(ds:List Deferred) (w':World),qgR G' w' w0.heap.size ds→Ext n G0 w0 G' w'→Rel P gl G' h w'→qaE G' w' t a.tmps→
  (∀w'',Ext n G0 w0 G' w''→Rel P gl G' h w''→qaE G' w'' t a.tmps→LeavesIn F m P fn a.tmps R [] u w'')→LeavesInM F m P fn a.tmps R ds u w'
 | [],w',_,he,hr,ht,hR=>hR w' he hr ht
 | d :: ds,w',hm,he,hr,ht,hR=>by
  obtain ⟨r,rfl,h1,h2,h3⟩:=hm.all d (List.mem_cons_self ..)
  refine ⟨hu,.inl ⟨r,w'.putObj r (.deferred none),rfl,run_takeDeferred h2,?_⟩⟩
  have hnd:=List.nodup_cons.1 hm.nodup
  refine qfF hu ds _ ⟨hnd.2,fun d hd=>?_⟩ (he.putFar h1 _) (hr.putFar h3 fun k=>by simp [World.cell?,h2]) (ht.putFar h3) hR
  obtain ⟨r',g1,g2,g3,g4⟩:=hm.all d (List.mem_cons_of_mem _ hd)
  refine ⟨r',g1,g2,?_,g4⟩
  rw [World.putObj_heap_other]
  ·exact g3
  ·rintro rfl
   rw [g1] at hd
   exact hnd.1 hd
theorem qeQ {fn:Func} {ts:Array Value} {R:Ending→World→Prop} {F:Fence} {m:Nat} {u:FrameMode} (hu:u ≠ .run):∀(ds:List Deferred) (w':World),qgR G' w' w0.heap.size ds→Ext n G0 w0 G' w'→Rel P gl G' h w'→
  (∀w'',Ext n G0 w0 G' w''→Rel P gl G' h w''→LeavesIn F m P fn ts R [] u w'')→LeavesInM F m P fn ts R ds u w'
 | [],w',_,he,hr,hR=>hR w' he hr
 | d :: ds,w',hm,he,hr,hR=>by
  obtain ⟨r,rfl,h1,h2,h3⟩:=hm.all d (List.mem_cons_self ..)
  refine ⟨hu,.inl ⟨r,w'.putObj r (.deferred none),rfl,run_takeDeferred h2,?_⟩⟩
  have hnd:=List.nodup_cons.1 hm.nodup
  refine qeQ hu ds _ ⟨hnd.2,fun d hd=>?_⟩ (he.putFar h1 _) (hr.putFar h3 fun k=>by simp [World.cell?,h2]) hR
  obtain ⟨r',g1,g2,g3,g4⟩:=hm.all d (List.mem_cons_of_mem _ hd)
  refine ⟨r',g1,g2,?_,g4⟩
  rw [World.putObj_heap_other]
  ·exact g3
  ·rintro rfl
   rw [g1] at hd
   exact hnd.1 hd
end
end Go.AE
namespace Go.AE
section
variable {P:Program} {gl:Nat→Option (List qa)}
def qf5 (P:Program) (gl:Nat→Option (List qa)) (F:FuncId→Option qE):Prop:=
 ∀ f fn, F f = some fn → ∃ pf c, P.funcs[f]? = some pf ∧ (pf.name == "runtime.NumGoroutine") = false ∧ pf.body = some c ∧ comp P gl c = some fn.code ∧ pf.results.toList.mapM (qem P) = some fn.results ∧ pf.ntmps = fn.ntmps
def qey (P:Program) (gl:Nat→Option (List qa)) (f:FuncId) (g:AE.Call→List qa→List qf→Option (qcD×List qf×Bool)):Prop:=
 ∀call,qb7 P gl call→qH call→∀as h r h' e',g call as h = some (r,h',e')→∀(G:qd) (w:World) (vs:Array Value),Rel P gl G h w→qdz G→G.VL as vs.toList→
  ((callFunc f vs).run P w = .ok (.enter f vs) w∧∀(ro:Option Nat) (n:Nat),CallsIn (FR ro) n P f vs w (qnb P gl h.length G w r h'))∨
  ((∀i,.yld i ∉ as)∧∃v w',(callFunc f vs).run P w = .ok (.value v) w'∧qnb P gl h.length G w r h' (.returned v) w')
theorem q7 {f : FuncId} {pf : Func} {c : Code} (h1 : P.funcs[f]? = some pf) (h2 : (pf.name == "runtime.NumGoroutine") = false) (h3 : pf.body = some c) (vs : Array Value) (w : World) : (callFunc f vs).run P w = .ok (.enter f vs) w := by
 have h2' : pf.name ≠ "runtime.NumGoroutine" := by simpa using h2
 simp [callFunc,Sem.run_bind,program,Sem.run,h1,h2',h3,Result.andThen]
theorem qfS {f:FuncId} {x y vs:Array Value} {w:World}:(qeA (.func (.func f) x y) vs).run P w = (callFunc f ((x ++ vs) ++ y)).run P w:=by
 simp [qeA,Deferred.ofValue,invoke,Sem.run_bind,Result.andThen]
theorem qjt {b:Nat} {x y vs:Array Value} {w:World}:(qeA (.func (.yield b) x y) vs).run P w = (Instr.yield b (x ++ vs)).run P w:=by
 simp [qeA,Deferred.ofValue,invoke,Sem.run_bind,Result.andThen]
theorem qaE.start {G:qd} {w:World} {as:List qa} {ts:Array Value} (h:G.VL as ts.toList) (hd:∀a ∈ as,a.dim = a):qaE G w as ts:=
 ⟨h,fun i xs k v hx _=>by
  have:=hd _ (List.mem_iff_getElem?.2 ⟨i,hx⟩)
  simp [qa.dim] at this⟩
theorem qlm {G:qd}:∀(ps:List Nat) (as:List qa) (vs:List Value) (t:List qa) (ts:Array Value),G.VL as vs→ps.length = as.length→G.VL t ts.toList→
  G.VL (qic t ps as) (((ps.zip vs).foldl (fun (tmps:Array Value) (x:Nat×Value)=>tmps.setIfInBounds x.1 x.2) ts)).toList
 | [],as,vs,t,ts,_,_,ht=>by simpa [qic] using ht
 | p :: ps,[],vs,t,ts,_,hl,_=>by simp at hl
 | p :: ps,a :: as,vs,t,ts,ha,hl,ht=>by
  simp only [qd.VL,qh] at ha
  obtain ⟨v,rest,rfl,h1,h2⟩:=ha
  simp only [qic,List.zip_cons_cons,List.foldl_cons]
  exact qlm ps as rest _ _ h2 (by simpa using hl) (by simpa using qh.set p ht h1)
theorem qjf:∀(ps:List Nat) (as:List qa) (t:List qa),(∀a ∈ as,a.dim = a)→(∀a ∈ t,a.dim = a)→∀a ∈ qic t ps as,a.dim = a
 | [],_,t,_,ht=>by simpa [qic] using ht
 | p :: ps,[],t,_,ht=>by simpa [qic] using ht
 | p :: ps,a :: as,t,ha,ht=>by
  simp only [qic]
  refine qjf ps as _ (fun x hx=>ha x (List.mem_cons_of_mem _ hx)) fun x hx=>?_
  rcases List.mem_or_eq_of_mem_set hx with hx | rfl
  ·exact ht x hx
  ·exact ha _ (List.mem_cons_self ..)
theorem qiR {G:qd} {w:World} {lo:Nat} {rf:Bool}:qeb G w lo rf [] []:=⟨[],rfl,⟨List.nodup_nil,fun _ h=>by cases h⟩,fun _=>rfl⟩
theorem qkn (hmx:P.follows .mixedOrders = true) {call:AE.Call} (hcall:qb7 P gl call) (hk:qH call) {N:Nat} {l:Nat} {args:List qa} {h:List qf} {r:qcD} {h':List qf} {e':Bool} (hrun:round N call l args h = some (r,h',e'))
  {G:qd} {w:World} {b:Nat} {vs:Array Value} (hr:Rel P gl G h w) (hn:qdz G) (hb:G.γ l = some b) (ha:G.VL args vs.toList) :
  ∃f tmps asg body,(Instr.yield b vs).run P w = .ok (.round b f tmps asg body) w∧∀(ro:Option Nat) (n:Nat),RoundIn (FR ro) n P b f tmps asg body w (qnb P gl h.length G w r h'):=by
 unfold round at hrun
 split at hrun
 ·rename_i t ps asg body st0 pend0 hl
  split at hrun
  ·cases hrun
  ·rename_i hlen
   have hlen:args.length = ps.length:=Classical.not_not.1 hlen
   simp only at hrun
   obtain ⟨L,hL,hLR⟩:=hr.box l b _ hb hl
   have hsz:vs.size = L.params.size:=by
    have h1:=ha.length
    have h2:=congrArg List.length hLR.ps
    simp at h1 h2
    omega
   refine ⟨_,_,_,_,run_yield hL hsz,fun ro n=>?_⟩
   refine roundIn_of_wpIn (F:=FR ro) trivial ?_
   split at hrun
   ·rename_i s1 hx1
    have k1:=qJ (base:=h.length) hk N asg _ s1 _ (Nat.le_refl _) hx1
    split at hrun
    ·rename_i t1 ps1 asg1 body1 pend1 hl1
     split at hrun
     ·rename_i x s2 hx2
      have kk:qav h.length s1 { s1 with h:=s1.h.set l (.loop t1 ps1 asg1 body1 .busy pend1)}:=⟨by simp,fun he=>⟨he,qT.set hl1 fun B _ _ hlow=>hlow⟩⟩
      have k2:=qJ (base:=h.length) hk N body _ s2 _ (by simpa using k1.1) hx2
      have k12:=k1.trans (kk.trans k2)
      split at hrun
      ·rename_i t2 ps2 asg2 body2 st2 pend2 hl2
       have htr:qaE G w (qic t ps (args.map qa.dim)) ((L.params.zip vs).foldl (fun (tmps:Array Value) (x:Nat×Value)=>tmps.setIfInBounds x.1 x.2) L.tmps):=by
        refine qaE.start ?_ (qjf _ _ _ (fun x hx=>by obtain ⟨y,_,rfl⟩:=List.mem_map.1 hx;exact qbx y) hLR.dims)
        have:=qlm (G:=G) ps (args.map qa.dim) vs.toList t L.tmps ha.dims (by simpa using hlen.symm) hLR.tmps
        rw [←hLR.ps] at this ⊢
        rw [←Array.toList_zip,Array.foldl_toList] at this
        exact this
       have hW1:=qcr hmx hcall hk (N:=N) (base:=h.length) (lo:=w.heap.size) (rf:=false) (fx:=[]) (ro:=some b) (m:=n) L.assign asg hLR.asg (fun h=>by cases h) G w ⟨qic t ps (args.map qa.dim),h,false⟩
        { tmps:=(L.params.zip vs).foldl (fun (tmps:Array Value) (x:Nat×Value)=>tmps.setIfInBounds x.1 x.2) L.tmps,defers:=[]} _ s1 ⟨hr,htr⟩ (Nat.le_refl _) (fun _ hq=>by cases hq;exact ⟨L,hL⟩) qiR (Nat.le_refl _) hx1
       refine wpIn_mono hW1 fun e a1 w1 hf1=>?_
       obtain ⟨G1,f1,f2,rfl,f4⟩:=hf1
       have hγ1:=f1.gk _ _ hb
       obtain ⟨L1,hL1,hLR1⟩:=f4.rel.box l b _ hγ1 hl1
       have hst1:L1.state = .ready:=by
        have:=hLR1.st
        cases hs:L1.state <;> rw [hs] at this <;> first | rfl | exact this.elim
       have hLRb:qf4 P gl G1 t1 ps1 asg1 body1 .busy pend1 { L1 with state:=.busy}:={ hLR1 with st:=trivial}
       have c1:Cfg P gl G1 (s1.h.set l (.loop t1 ps1 asg1 body1 .busy pend1)) s1.t a1 (w1.putObj b (.loop { L1 with state:=.busy})):=⟨f4.rel.putLoop hγ1 hl1 hLRb,f4.tr.putLoop f4.rel hγ1 _⟩
       have x1:Ext h.length G w G1 (w1.putObj b (.loop { L1 with state:=.busy})):=f1.trans (Nat.le_refl _) (Ext.putLoop _ hγ1 hL1 ⟨rfl,rfl,rfl,rfl,rfl,rfl⟩)
       refine ⟨_,run_beginRound hL1 hst1,?_⟩
       have hro1:qej (some b) (w1.putObj b (.loop { L1 with state:=.busy})):=fun _ hq=>by cases hq;exact ⟨_,World.putObj_heap_same (Array.getElem?_eq_some_iff.1 hL1).1⟩
       have hW2:=qcr hmx hcall hk (N:=N) (base:=h.length) (lo:=w.heap.size) (rf:=false) (fx:=[]) (ro:=some b) (m:=n) L.body body hLR.body (fun h=>by cases h) G1 _ { s1 with h:=s1.h.set l (.loop t1 ps1 asg1 body1 .busy pend1)} a1 x s2 c1
        (by simpa using k1.1) hro1 (f2.ext (Ext.putLoop h.length hγ1 hL1 ⟨rfl,rfl,rfl,rfl,rfl,rfl⟩)) x1.size hx2
       refine wpIn_mono hW2 fun e a2 w2 hf2=>?_
       obtain ⟨G2,g1,g2,g3⟩:=hf2
       have x2:Ext h.length G w G2 w2:=x1.trans (by simpa using k1.1) g1
       have hγ2:=x2.gk _ _ hb
       have fin:∀{st:LSt} {pend:Option qrX} {jump:Option Code} {bv:Bool},Cfg P gl G2 s2.h s2.t a2 w2→qku st (if jump.isNone then .ready else .done)→qkf pend jump→bv = jump.isNone→
         some (qaQ h.length (.ret (.bool bv)) (s2.h.set l (.loop t2 ps2 asg2 body2 st pend)) s2.e) = some (r,h',e')→∃v w',(Instr.endRound b jump).run P w2 = .ok v w'∧qnb P gl h.length G w r h' (.returned v) w':=by
        intro st pend jump bv hc2 hst hpd hbv hlv
        obtain ⟨L2,hL2,hLR2⟩:=hc2.rel.box l b _ hγ2 hl2
        have hLRe:qf4 P gl G2 t2 ps2 asg2 body2 st pend { L2 with state:=if jump.isNone then .ready else .done,pending:=jump}:={ hLR2 with st:=hst,pend:=hpd}
        have hrel:=hc2.rel.putLoop hγ2 hl2 hLRe
        have x3:=x2.trans (Nat.le_refl _) (Ext.putLoop _ hγ2 hL2 (L':={ L2 with state:=if jump.isNone then .ready else .done,pending:=jump}) ⟨rfl,rfl,rfl,rfl,rfl,rfl⟩)
        obtain ⟨rfl,G',y1,y2,y3,y4⟩:=qc0 (s:={ s2 with h:=s2.h.set l (.loop t2 ps2 asg2 body2 st pend)}) hr x3 hrel ⟨by simpa using k12.1,fun he=>(k12.2 he).2.trans (qT.set hl2 fun B _ _ hlow=>hlow)⟩ (Option.some.inj hlv)
        exact ⟨_,_,run_endRound jump hL2,_,G',rfl,y1,y2,y3,by subst hbv;exact y4 (.bool jump.isNone) (.bool jump.isNone) (.inl rfl) (by simp [qd.V,qt])⟩
       split at hrun
       ·obtain ⟨rfl,g3⟩:=g3
        exact fin (st:=.ready) (pend:=none) (jump:=none) g3 (by simp [qku]) trivial rfl hrun
       ·obtain ⟨rfl,g3⟩:=g3
        exact fin (st:=.done) (pend:=some .ret) (jump:=some .ret) g3 (by simp [qku]) trivial rfl hrun
       ·rename_i id
        obtain ⟨rfl,g3⟩:=g3
        exact fin (st:=.done) (pend:=some (.exit id)) (jump:=some (.exit id)) g3 (by simp [qku]) rfl rfl hrun
       ·cases hrun
      ·cases hrun
     ·cases hrun
    ·cases hrun
   ·cases hrun
 ·cases hrun
theorem qi5 (hmx:P.follows .mixedOrders = true) {F:FuncId→Option qE} {X:qf3} (hF:qf5 P gl F) (hX:∀f g,X f = some g→qey P gl f g)
  (hXk:∀f g,X f = some g→∀call,qH call→qH fun _ as h=>g call as h):∀n,qb7 P gl (run F X n)
 | 0=>fun fv args h r h' e' hr=>by simp [run] at hr
 | n + 1=>fun fv args h r h' e' hrun G w fvv vs hr hn hf ha=>by
  have ih:=qi5 hmx hF hX hXk n
  have hk:=qeY (F:=F) (X:=X) hXk n
  simp only [run] at hrun
  split at hrun
  ·rename_i f first cap
   have hf':=hf
   simp only [qd.V,qt] at hf'
   obtain ⟨x,y,rfl,hx,hy⟩:=hf'
   have hall:G.VL (first ++ args ++ cap) ((x ++ vs) ++ y).toList:=by
    simp only [Array.toList_append]
    exact (qh.append hx ha).append hy
   rw [qfS]
   split at hrun
   ·rename_i g hg
    rcases hX f g hg _ ih hk _ _ _ _ _ hrun G w _ hr hn hall with ⟨h1,h2⟩ | ⟨h1,v,w',h2,h3⟩
    ·exact .inl ⟨f,_,h1,h2⟩
    ·exact .inr (.inr ⟨v,w',fun i hi=>h1 i (by rw [hi];simp),h2,h3⟩)
   ·split at hrun
    ·cases hrun
    ·rename_i fn hfn
     obtain ⟨pf,c,p1,p2,p3,p4,p5,p6⟩:=hF f fn hfn
     refine .inl ⟨f,_,q7 p1 p2 p3 _ w,fun ro m=>?_⟩
     generalize hvs:(x ++ vs) ++ y = vv at hall ⊢
     have hsize:vv.size = (first ++ args ++ cap).length:=by have:=hall.length;simp at this ⊢;omega
     let t0:List qa:=(first ++ args ++ cap).map qa.dim ++ List.replicate (fn.ntmps - ((first ++ args ++ cap).map qa.dim).length) (.tup [])
     let a0:Act:={ tmps:=vv ++ Array.replicate (pf.ntmps - vv.size) undef,defers:=[]}
     have hc0:Cfg P gl G h t0 a0 w:=by
      refine ⟨hr,qaE.start ?_ fun z hz=>?_⟩
      ·simp only [t0,a0,Array.toList_append,Array.toList_replicate]
       refine qh.append hall.dims ?_
       rw [p6,hsize]
       simp only [List.length_map]
       exact qh.replicate _ (by simp [qt,qh,undef])
      ·simp only [t0] at hz
       rcases List.mem_append.1 hz with hz | hz
       ·obtain ⟨q,_,rfl⟩:=List.mem_map.1 hz;exact qbx q
       ·rw [(List.mem_replicate.1 hz).2];rfl
     have hW:∀x s,qaV n h.length (run F X n) fn.code ⟨t0,h,false⟩ = some (x,s)→c.wpIn (FR none) m P (qne P gl h.length G w w.heap.size false [] x s) a0 w:=fun x s hx=>
      qcr hmx ih hk (N:=n) (base:=h.length) (lo:=w.heap.size) (rf:=false) (fx:=[]) (ro:=none) (m:=m) c fn.code p4 (fun h=>by cases h) G w ⟨t0,h,false⟩ a0 x s hc0 (Nat.le_refl _) (fun _ hq=>by cases hq) qiR (Nat.le_refl _) hx
     have hret:∀x s vs',qaV n h.length (run F X n) fn.code ⟨t0,h,false⟩ = some (x,s)→(x = .nor∨x = .ret)→qat s fn.results = some vs'→qaQ h.length (.ret (qbR vs')) s.h s.e = (r,h',e')→CallsIn (FR ro) m P f vv w (qnb P gl h.length G w r h'):=by
      intro x s vs' hx hxx hres hlv
      have k:=qJ (base:=h.length) hk n fn.code _ s _ (Nat.le_refl _) hx
      refine qci (m:=m) (callsIn_of_wp_marks (F:=FR none) p1 p3 trivial (wpIn_mono (hW x s hx) fun e a' w' hfin=>?_) rfl)
      obtain ⟨G',g1,⟨ms,hms,g2,_⟩,g3⟩:=hfin
      rw [List.append_nil] at hms
      rw [←hms] at g2
      have key:Cfg P gl G' s.h s.t a' w'→LeavesInM (FR none) m P pf a'.tmps (qnb P gl h.length G w r h') a'.defers .returning w':=by
       intro hc
       refine qfF (by simp) a'.defers w' g2 g1 hc.rel hc.tr fun w'' q1 q2 q3=>?_
       obtain ⟨u,r1,r2⟩:=qeX (a:=a') ⟨q2,q3⟩ p5 hres
       obtain ⟨rfl,G'',y1,y2,y3,y4⟩:=qc0 hr q1 q2 ⟨k.1,fun he=>(k.2 he).2⟩ hlv
       exact ⟨u,r1,_,G'',rfl,y1,y2,y3,y4 _ u (.inl rfl) r2⟩
      rcases hxx with rfl | rfl
      ·obtain ⟨rfl,g3⟩:=g3;exact key g3
      ·obtain ⟨rfl,g3⟩:=g3;exact key g3
     split at hrun
     ·rename_i s hx
      split at hrun
      ·rename_i vs' hres
       exact hret _ s vs' hx (.inl rfl) hres (Option.some.inj hrun)
      ·cases hrun
     ·rename_i s hx
      split at hrun
      ·rename_i vs' hres
       exact hret _ s vs' hx (.inr rfl) hres (Option.some.inj hrun)
      ·cases hrun
     ·rename_i v s hx
      have k:=qJ (base:=h.length) hk n fn.code _ s _ (Nat.le_refl _) hx
      refine qci (m:=m) (callsIn_of_wp_marks (F:=FR none) p1 p3 trivial (wpIn_mono (hW _ s hx) fun e a' w' hfin=>?_) rfl)
      obtain ⟨G',g1,⟨ms,hms,g2,_⟩,u,rfl,g3,g4⟩:=hfin
      rw [List.append_nil] at hms
      rw [←hms] at g2
      refine qeQ (by simp) a'.defers w' g2 g1 g3.rel fun w'' q1 q2=>?_
      obtain ⟨rfl,G'',y1,y2,y3,y4⟩:=qc0 hr q1 q2 ⟨k.1,fun he=>(k.2 he).2⟩ (Option.some.inj hrun)
      exact ⟨v,u,G'',rfl,rfl,y1,y2,y3,y4 _ u (.inr rfl) g4⟩
     ·cases hrun
  ·rename_i l
   have hf':=hf
   simp only [qd.V,qt] at hf'
   obtain ⟨b,hb,rfl⟩:=hf'
   rw [qjt]
   obtain ⟨f,tmps,asg,body,h1,h2⟩:=qkn hmx ih hk hrun hr hn hb ha (vs:=vs)
   exact .inr (.inl ⟨l,b,f,tmps,asg,body,rfl,by simpa using h1,h2⟩)
  ·cases hrun
end
end Go.AE
