/- Proved: part 1. No condition. -/
import Derived.Test.YtnibchoenjmmjaaGreatDoorMt0
import Derived.Laws.MakeOwn
import Derived.RangeFuncRecord
import Derived.LoopNIn
import Derived.RecoverIn
set_option maxRecDepth 100000
open List renaming getElem?_append_left→ja,getElem?_eq_some_iff→je,mem_cons_self→jJ,getElem?_set_ne→jg,getElem?_set_self→jh,getElem?_eq_getElem→ji,append_nil→jK,map_map→jL,mem_append→jM,mem_cons_of_mem→jN,getElem?_eq_none→jt,getElem?_map→ju,cons_append→jB,ext_getElem?→jT,mem_map→jU
open Array renaming getElem?_eq_some_iff→jf,getElem?_eq_none→jP
open Option.some renaming injEq→jl
open Bool renaming and_eq_true→jm,false_eq_true→jn,false_and→jQ,or_false→jR,false_or→jS
open Nat renaming le_refl→jo,le_trans→jp,lt_of_lt_of_le→jq
open Option renaming map_some→jO,bind_eq_bind→jF
namespace Go.AE
section
variable {P:Program} {gl:Nat->Option (List qa)} {G G':qc} {w w':World} {h:List qb} {t:List qa} {a:Act} {n:Nat}
theorem qep {e:TypeId} {k:Nat} {z:List qa} (he:qfJ P e = some (k,z)):∃i zz zv,P.info? e = some i/\i.zero = some zv/\i.size = k/\k ≠ 0/\i.bytes <= 65536/\qbD P e = some zz/\zz.cells = z/\z.length = k/\
  (∀γ imm,qg γ imm z zv.cells.toList):=by
 unfold qfJ at he
 split at he
 ·rename_i i zz hi hz
  split at he
  ·cases he
  ·rename_i hh
   cases he
   have B:=hz
   unfold qbD at B
   rw [hi] at B
   simp only at B
   obtain ⟨zv,I,E⟩:=qA (by simpa [jF] using B)
   exact ⟨i,zz,zv,hi,I,rfl,zo,zo,hz,rfl,zo,λγ imm=>qfz E⟩
 ·cases he
theorem qDq (hc:Cfg P gl G h t a w) {o:Oper} (hO:qsO P gl o) {ty e:TypeId} {l c:Operand} {al ac:qh} {k:Nat} {z:List qa} (ho:o.op = .makeSlice ty l c) (hu:P.underlying ty = some (.slice e)) (he:qfJ P e = some (k,z))
  (hl:opd gl l = some al) (a6:opd gl c = some ac) {base:Nat} {r:qa×List qb×Bool} (B:hop base (.mk k z) [ev t al,ev t ac] h = some r):Did P gl G w a o h.length r.2.1 (AE.put o.dst r.1.dim t)/\h.length <= r.2.1.length:=by
 obtain ⟨i,zz,zv,hi,U,hk,a1,ab,hz,a7,S,M⟩:=qep he
 have E:=qah hc.rel hc.tr hl
 have I:=qah hc.rel hc.tr a6
 generalize a8:ev t al = xl at B E
 generalize aa:ev t ac = xc at B I
 unfold hop at B
 split at B <;> (try (rename_i hq _;cases hq;done)) <;> (try (rename_i hq;cases hq;done)) <;> (try (cases B;done))
 rename_i k' z' k1 n1 k2 n2 hq J
 cases hq
 simp only [List.cons.injEq,and_true] at J
 obtain ⟨rfl,rfl⟩:=J
 split at B
 ·rename_i hh
  obtain ⟨g1,g2,g3,g4⟩:=hh
  cases B
  simp only [qc.V,qC] at E I
  subst hk
  have hb:(i.bytes:Int) * n2 <= 281474976710656:=by
   have h1:(i.bytes:Int) * n2 <= 65536 * 2 ^ 24:=Int.mul_le_mul zo g3 zo zo
   omega
  have hr:=run_make (P:=P) w ty e i zv hu hi U k1 k2 n1 n2 g1 g2 hb zo
  refine ⟨qiJ hc hO (ob:=.cells (madeCells zv.cells (n2.toNat * i.size)) e) (u:=.slice (some ⟨w.heap.size,0,none⟩) n1.toNat n2.toNat) ?_ (λG' hx=>?_) (λG' hg=>?_) rfl,by simp⟩
  ·simp only [execOp,ho]
   exact qdx (by rw [E,I];exact hr)
  ·refine ⟨_,e,qax w _,qeR ?_,λo xs k v ho _=>(qji ho).elim⟩
   exact (qgZ (M _ _) i.size n2.toNat S a1).dims
  ·simp only [qc.V,qC]
   exact ⟨_,n2.toNat,hg,rfl,zo,jo _,λ_=>rfl,λhh=>absurd rfl hh⟩
 ·cases B
theorem qjK (t:List qa):∀qs:List (Nat×qh),((qs.map (·.1)).zip ((qs.map (·.2)).map (ev t))) = qs.map λq=>(q.1,ev t q.2)
 | []=>rfl
 | q :: qs=>by simp only [List.map_cons,List.zip_cons_cons,qjK t qs]
theorem qAH (hc:Cfg P gl G h t a w) {o:Oper} (hO:qsO P gl o) {ty e:TypeId} {ps:Array (Nat×Operand)} {qs:List (Nat×qh)} {len k:Nat} {z:List qa} (ho:o.op = .buildSlice ty len ps) (hu:P.underlying ty = some (.slice e)) (he:qfJ P e = some (k,z))
  (ac:qfP gl ps.toList = some qs) {base:Nat} {r:qa×List qb×Bool} (B:hop base (.lit k z len (qs.map (·.1))) ((qs.map (·.2)).map (ev t)) h = some r):Did P gl G w a o h.length r.2.1 (AE.put o.dst r.1.dim t)/\h.length <= r.2.1.length:=by
 obtain ⟨i,zz,zv,hi,ab,hk,a1,ap,hz,al,aa,E⟩:=qep he
 have J:qdz P e = some k:=by simp [qdz,hi,hk]
 have a8:(zeroValue e).run P w = .ok zv w:=by simp [zeroValue,typeInfo,hi,ab]
 simp only [hop] at B
 split at B
 ·rename_i aj
  split at B
  ·rename_i cs ah
   cases B
   obtain ⟨h1,h2⟩:=qex hc.rel hc.tr k ac
   have a7:q8 ((List.replicate len z).flatten) (qs.map λ(i,x)=>(i * k,k,ev t x)) = some cs:=by
    rw [<-ah,qjK,jL]
    rfl
   have am:zv.cells.size = k:=by have:=(E G.γ G.imm).length;simp at this;omega
   obtain ⟨c',e1,e2⟩:=qeP (γ:=G.γ) (imm:=G.imm) (λi=>some (i * k,k)) (ps.toList.map λ(i,x)=>(i,a.eval x)) (qs.map λ(i,x)=>(i * k,k,ev t x)) _ _ cs (qgZ (E _ _) k len aa a1) (by simpa using h1)
    (λn i v off size x hn U=>by
     simp only [ju,Option.map_eq_some_iff] at hn U
     obtain ⟨⟨i',x'⟩,ae,S⟩:=hn
     obtain ⟨⟨ak,ar⟩,ad,M⟩:=U
     simp only [Prod.mk.injEq] at S M
     obtain ⟨rfl,rfl⟩:=S
     obtain ⟨rfl,rfl,rfl⟩:=M
     obtain ⟨rfl,q2⟩:=h2 n _ _ _ _ ae ad
     exact ⟨rfl,q2⟩) a7
   refine ⟨qiJ hc hO (ob:=.cells c' e) (u:=.slice (some ⟨w.heap.size,0,none⟩) len len) ?_ (λG' hx=>⟨c',e,qax w _,qeR (hx.VL e2).dims,λo xs k v ho _=>(qji ho).elim⟩) (λG' hg=>?_) rfl,by simp⟩
   ·simp only [execOp,ho]
    refine qdx ?_
    have a6:¬ (len * k > 2 ^ 24):=zo
    have e4:(ps.map λ(i,x)=>(i,a.eval x)).toList = ps.toList.map λ(i,x)=>(i,a.eval x):=by simp
    by_cases I:len * k = 0
    ·have af:len = 0:=by rcases Nat.mul_eq_zero.1 I with h | h;exact h;exact absurd h a1
     subst af
     simp only [Nat.zero_mul] at e1
     have ai:Instr.fill (λi=>some (i * k,k)) ((Array.range 0).map ((#[]:Array Value)[· % (#[]:Array Value).size]!)) (ps.toList.map λ(i,x)=>(i,a.eval x)) = some c':=by
      have e0:∀f:Nat->Value,(Array.range 0).map f = #[]:=λf=>by apply Array.ext';simp
      rw [e0] at e1 ⊢
      exact e1
     simp only [Instr.buildSlice,Sem.run_bind,run_underlying hu,Result.andThen_ok,qbn J,Nat.zero_mul,gt_iff_lt,Nat.not_lt_zero,if_false,Sem.run_pure,if_true,e4,ai]
     simp [newRow]
    ·simp only [Instr.buildSlice,Sem.run_bind,run_underlying hu,Result.andThen_ok,qbn J,if_neg a6,if_neg I,Sem.run_pure,a8,e4,e1]
     simp [newRow]
   ·simp only [qc.V,qC]
    exact ⟨_,len,hg,rfl,jo _,jo _,λ_=>rfl,λhh=>absurd rfl hh⟩
  ·cases B
 ·cases B
theorem qiS:∀s:List UInt8,qeQ (qh6 s) = qh6 s
 | []=>rfl
 | c :: s=>by
  have:=qiS s
  simp only [qeQ,qh6,List.map_cons,List.flatMap_cons,qa.cells,List.singleton_append] at this ⊢
  rw [this]
theorem qun (s:List UInt8):∀y ∈ qh6 s,y.dim = y:=by
 intro y hy
 simp only [qh6,jU] at hy
 obtain ⟨c,_,rfl⟩:=hy
 rfl
theorem qrc (cs:List qa):∀y ∈ cs.map qa.dim,y.dim = y:=by
 intro y hy
 obtain ⟨x,_,rfl⟩:=jU.1 hy
 exact qbE x
theorem qil (hr:Rel P gl G h w) {v:qa} {val:Value} (hv:G.V v val) {k m:Nat} {ys:List qa} (B:qd7 k h v = some (ys,m)):(∀y ∈ ys,y.dim = y)/\ys.length = m * k/\∃nv:List Value,G.VL ys nv/\
  (∀w1:World,(∀q,w1.cell? q = w.cell? q)->(Builtin.firstCells k m val).run P w1 = .ok nv.toArray w1)/\(Builtin.lenOf val).run P w = .ok m w:=by
 unfold qd7 at B
 split at B
 ·rename_i xs f
  split at B
  ·rename_i hk
   cases B
   have I:∀x ∈ xs,x.cells.length = k:=λx hx=>by
    rw [List.all_eq_true] at hk
    simpa using hk x hx
   obtain ⟨vs,h1,h2,h3⟩:=qgz (P:=P) hr hv I
   exact ⟨qrc _,by simp [qdm I],vs,qg.dims h1,h2,h3⟩
  ·cases B
 ·rename_i s
  split at B
  ·rename_i hk
   cases B
   obtain ⟨vs,h1,h2,h3⟩:=qht (P:=P) (w:=w) hv
   rw [qiS] at h1
   exact ⟨qun s,by simp [qh6,hk],vs,h1,λw1 _=>h2 k w1,h3⟩
  ·cases B
 ·rename_i id o len cap more
  split at B
  ·rename_i cs hid
   split at B
   ·rename_i U
    cases B
    simp only [qc.V,qC] at hv
    obtain ⟨b,c,hb,rfl,h1,h2,_⟩:=hv
    obtain ⟨cc,e,g1,g2,_⟩:=hr.box id b _ hb hid
    have S:=qeT g2
    have E:(((cc.toList.take cs.length).drop o).take (m * k)).length = m * k:=by simp at S ⊢;omega
    refine ⟨qrc _,by simp;omega,((cc.toList.take cs.length).drop o).take (m * k),qg.dims (qg.take _ (qg.drop _ g2)),λw1 M=>?_,by simp [Builtin.lenOf]⟩
    have:=run_loadCells_list (P:=P) w1 ⟨b,o,none⟩ (((cc.toList.take cs.length).drop o).take (m * k)) (λj v hj=>by
     have J:=(je.1 hj).1
     rw [E] at J
     rw [List.getElem?_take_of_lt J,List.getElem?_drop,List.getElem?_take_of_lt zo] at hj
     rw [qbQ,M]
     simp only [World.cell?,g1]
     simpa using hj)
    rw [E] at this
    simp [Builtin.firstCells,this]
   ·cases B
  ·cases B
 ·cases B
  simp only [qc.V,qC] at hv
  subst hv
  exact ⟨by simp,by simp,[],by simp [qc.VL,qg],λw1 _=>by simp [Builtin.firstCells],by simp [Builtin.lenOf]⟩
 ·cases B
  simp only [qc.V,qC] at hv
  obtain ⟨b,rfl⟩:=hv
  exact ⟨by simp,by simp,[],by simp [qc.VL,qg],λw1 _=>by simp [Builtin.firstCells,loadCells,loadCellsFrom],by simp [Builtin.lenOf]⟩
 ·cases B
theorem qHZ {γ:Nat->Option Nat} {imm:Nat->Nat->Option Value} {ys:List qa} {nv:List Value} (h:qg γ imm ys nv) (hs:ys.all qa.storable = true):∀v ∈ nv,v.oneCell' = true:=by
 have:qC γ imm (.agg ys) (.agg nv.toArray):=by simp only [qC];exact ⟨_,rfl,by simpa using h⟩
 have:=(qcu this hs).2
 simpa [Value.cells] using this
theorem qAG (hc:Cfg P gl G h t a w) {o:Oper} (hO:qsO P gl o) {c:Go.Call} {x y:Operand} {sT xT e:TypeId} {ux:TypeDesc} {ax ay:qh} {k:Nat} {z:List qa} (ho:o.op = .call c) (hcal:c.callee = .builtin .append)
  (au:c.args.toList = [x,y]) (aJ:c.argTypes.toList = [sT,xT]) (hu:P.underlying sT = some (.slice e)) (ae:P.underlying xT = some ux) (a8:(∃e',ux = .slice e')\/ux = .string) (he:qfJ P e = some (k,z))
  (hx:opd gl x = some ax) (hy:opd gl y = some ay) {base:Nat} {r:qa×List qb×Bool} (B:hop base (.app k) [ev t ax,ev t ay] h = some r):Did P gl G w a o h.length r.2.1 (AE.put o.dst r.1.dim t)/\h.length <= r.2.1.length:=by
 obtain ⟨i,zz,zv,hi,aH,hk,aA,ap,hz,aZ,aY,aG⟩:=qep he
 have ea:c.args = #[x,y]:=by rw [<-Array.toArray_toList (xs:=c.args),au]
 have et:c.argTypes = #[sT,xT]:=by rw [<-Array.toArray_toList (xs:=c.argTypes),aJ]
 have a1:=qah hc.rel hc.tr hx
 have aI:=qah hc.rel hc.tr hy
 have aW:=qiN t ax
 have ai:∀w1:World,(zeroValue e).run P w1 = .ok zv w1:=λw1=>by simp [zeroValue,typeInfo,hi,aH]
 have ad:zv.cells.size = i.size:=by have:=(aG G.γ G.imm).length;simp at this;omega
 have U:∀{v:Value} {w1:World} {bs:Option Addr} {len cap:Nat},a.eval x = .slice bs len cap->(Builtin.append_ #[sT,xT] o.type #[.slice bs len cap,a.eval y]).run P w = .ok v w1->(execOp a.eval o).run P w = .ok (.value v) w1:=by
  intro v w1 bs len cap E hr
  simp [execOp,ho,hcal,ea,et,resolve,invoke,builtin,E,hr]
 simp only [hop,qfM] at B
 split at B
 ·cases B
 rename_i ys m aE
 split at B
 ·cases B
 rename_i aj
 have aj:ys.all qa.storable = true:=by simpa using aj
 obtain ⟨d1,d2,nv,n1,n2,n3⟩:=qil (P:=P) hc.rel aI aE
 have n4:=qHZ n1 aj
 subst hk
 have af:nv.length = m * i.size:=by rw [<-n1.length];exact d2
 have a7:∀{bs:Option Addr} {len cap:Nat},a.eval x = .slice bs len cap->len <= cap->m = 0->Did P gl G w a o h.length h (AE.put o.dst (ev t ax).dim t):=by
  intro bs len cap E al hm
  subst hm
  have aP:nv = []:=List.eq_nil_of_length_eq_zero zo
  subst aP
  have aT:=n2 w (λ_=>rfl)
  have aK:(sizeOf e).run P w = .ok i.size w:=by simp [sizeOf,typeInfo,hi]
  have aV:(Builtin.append_ #[sT,xT] o.type #[.slice bs len cap,a.eval y]).run P w = .ok (.slice bs len cap) w:=by
   rcases a8 with ⟨e',rfl⟩ | rfl <;> cases bs <;> simp [Builtin.append_,run_underlying hu,run_underlying ae,aK,n3,al,aT,storeCells]
  exact qtj hc (U E aV) (by rw [<-E];exact qcW a1) (qbE _) _
 have fresh:∀{h0:List qb} (_:Cfg P gl G h0 t a w) {bs:Option Addr} {len cap:Nat} {os:List qa} {ov:List Value},h0.length = h.length->a.eval x = .slice bs len cap->G.VL os ov->(∀q ∈ os,q.dim = q)->os.length = len * i.size->
   (∀w1:World,(∀q,w1.cell? q = w.cell? q)->(Builtin.firstCells i.size len (.slice bs len cap)).run P w1 = .ok ov.toArray w1)->len + m <= qdH->m ≠ 0->cap < len + m->
   Did P gl G w a o h.length (h0 ++ [.cells (os ++ ys)]) (AE.put o.dst (qa.sl h.length 0 (len + m) (len + m) i.size).dim t):=by
  intro h0 aU bs len cap os ov aQ E av aO aN aM J hm aa
  have ac:ov.length = len * i.size:=by rw [<-av.length];exact aN
  obtain ⟨hA,_,_⟩:=qdQ (P:=P) (w:=w) hu ae a8 hi n3 o.type ov nv n2 aM J ap ai ad ac af
  obtain ⟨aF,d,cc,g1,g2,g3,g4⟩:=hA aa
  have:=qth aU hO (U E g2) (cs:=os ++ ys) (us:=ov ++ nv) (qg.append av n1) g4 g3 aA g1 zo (λq hq=>by
   rcases jM.1 hq with hq | hq
   ·exact aO q hq
   ·exact d1 q hq)
  rw [aQ] at this
  exact this
 split at B
 ·
  rename_i xs a6
  have I:=a1
  rw [a6] at I
  simp only [qc.V,qC] at I
  obtain ⟨bs,len,cap,E,q1,q2,q3,q4,_,_⟩:=I
  split at B
  ·rename_i hm
   cases B
   refine ⟨?_,jo _⟩
   exact a7 E q2 hm
  ·rename_i hm
   split at B
   ·rename_i os n ab
    split at B
    ·rename_i J
     cases B
     obtain ⟨e1,e2,ov,o1,o2,o3⟩:=qil (P:=P) hc.rel a1 ab
     rw [E] at o2 o3
     have hn:n = len:=by simpa [Builtin.lenOf] using o3.symm
     subst hn
     exact ⟨fresh hc rfl E o1 e1 e2 o2 J hm (by have:=q3 trivial;omega),by simp⟩
    ·cases B
   ·cases B
 ·
  rename_i id p0 len cap more a6
  have I:=a1
  rw [a6] at I
  simp only [qc.V,qC] at I
  obtain ⟨b,cp,hb,E,q1,q2,q3,q4⟩:=I
  split at B
  ·rename_i hm
   cases B
   refine ⟨?_,jo _⟩
   exact a7 E zo hm
  ·rename_i hm
   split at B
   ·rename_i J
    split at B
    ·
     rename_i aa
     split at B
     ·rename_i h' e' M
      cases B
      unfold qe4 at M
      split at M
      ·rename_i cs hid
       split at M
       ·rename_i S
        cases M
        obtain ⟨cc,te,g1,g2,_⟩:=hc.rel.box id b _ hb hid
        have al:=qeT g2
        have ab:qd7 i.size h (ev t ax) = some (((cs.drop p0).take (len * i.size)).map qa.dim,len):=by
         rw [a6]
         simp only [qd7,hid]
         rw [if_pos zo]
        obtain ⟨e1,e2,ov,o1,o2,o3⟩:=qil (P:=P) hc.rel a1 ab
        rw [E] at o2
        have ac:ov.length = len * i.size:=by rw [<-o1.length];exact e2
        obtain ⟨_,hB,_⟩:=qdQ (P:=P) (w:=w) hu ae a8 hi n3 o.type ov nv n2 o2 J ap ai ad ac af
        have ah:p0 + (len + m) * i.size <= cc.size:=by
         rw [Nat.add_mul]
         simp at al
         omega
        have hr:=hB zo b p0 rfl cc te g1 ah n4
        refine ⟨qo4 hc hO hb hid S.1 d1 g1 n1 (U E hr) (.inl rfl) ?_ rfl _,by simp⟩
        simp only [qc.V,qC,qa.dim]
        exact ⟨b,cp,hb,rfl,aa,q2,q3,q4⟩
       ·cases M
      ·cases M
     ·cases B
    ·rename_i aa
     split at B
     ·rename_i os n ds ab hid
      obtain ⟨e1,e2,ov,o1,o2,o3⟩:=qil (P:=P) hc.rel a1 ab
      rw [E] at o2 o3
      have hn:n = len:=by simpa [Builtin.lenOf] using o3.symm
      subst hn
      split at B
      ·rename_i ak
       cases B
       exact ⟨fresh hc rfl E o1 e1 e2 o2 J hm (by have:=q3 ak;omega),by simp⟩
      ·rename_i ak
       split at B
       ·rename_i ar
        obtain ⟨rfl,rfl,b2⟩:=ar
        cases B
        have aC:Cfg P gl G (h.set id .dead) t a w:=⟨hc.rel.kill id,hc.tr⟩
        by_cases am:n + m <= cp
        ·
         have az:=q4 ak
         obtain ⟨k0,cc,te,g1,g2⟩:=hc.rel.immK b _ az
         have ac:ov.length = n * i.size:=by rw [<-o1.length];exact e2
         obtain ⟨_,hB,_⟩:=qdQ (P:=P) (w:=w) hu ae a8 hi n3 o.type ov nv n2 o2 J ap ai ad ac af
         have ah:0 + (n + m) * i.size <= cc.size:=by
          have:=Nat.mul_le_mul_right i.size am
          omega
         have hr:=hB am b 0 rfl cc te g1 ah n4
         have S:0 + n * i.size + nv.length <= cc.toList.length:=by
          rw [af,Nat.add_assoc,<-Nat.add_mul]
          simpa using ah
         have aL:∀(j:Nat) (v:Value),ov[j]? = some v->cc[j]? = some v:=λj v hj=>by
          obtain ⟨b4,aX,aD,b3,_⟩:=hc.rel.box id b _ hb hid
          rw [g1] at aD
          cases aD
          have b1:=(je.1 hj).1
          have h1:=o2 w (λ_=>rfl)
          have h2:=run_loadCells_list (P:=P) w ⟨b,0,none⟩ (cc.toList.take (n * i.size)) (λj v hj=>by
           have aB:=(je.1 hj).1
           rw [List.getElem?_take_of_lt (by simp at aB;omega)] at hj
           rw [qbQ]
           simp only [World.cell?,g1,Nat.zero_add]
           simpa using hj)
          have h3:(cc.toList.take (n * i.size)).length = n * i.size:=by simp at S ⊢;omega
          rw [h3] at h2
          simp only [Builtin.firstCells] at h1
          rw [h2] at h1
          simp only [Result.ok.injEq,and_true] at h1
          have h4:ov = cc.toList.take (n * i.size):=by
           have:=congrArg Array.toList h1
           simpa using this.symm
          rw [h4,List.getElem?_take_of_lt zo] at hj
          simpa using hj
         have:=qo0 aC hO (id:=id) (cs:=os ++ ys) (us:=ov ++ nv) (k:=i.size) (len:=n + m) (cap:=cp) (p:=0 + n * i.size) hb (λj hj=>by
           rcases hc.rel.inj j id b hj hb with h1 | h1 | h1
           ·subst h1;exact jh (je.1 hid).1
           ·exact qdT hid (by simp) h1
           ·rw [hid] at h1;cases h1) (λo v hv=>Classical.byContradiction λhm=>by have:=hc.rel.immγ _ o v id hv hm hb;rw [hid] at this;cases this) g1 (by simpa using S) (U E hr) (qg.append o1 n1) (λj v hj=>by
           by_cases aR:j < ov.length
           ·rw [ja aR] at hj
            rw [(qby (cs:=cc.toList) (vs:=nv) (o:=0 + n * i.size) (i:=j) S).1 (.inl zo)]
            simpa using aL j v hj
           ·rw [List.getElem?_append_right zo] at hj
            have aB:=(je.1 hj).1
            rw [(qby (cs:=cc.toList) (vs:=nv) (o:=0 + n * i.size) (i:=j) S).2 zo zo]
            rw [show j - (0 + n * i.size) = j - ov.length by omega]
            exact hj) az aA am (λq hq=>by
           rcases jM.1 hq with hq | hq
           ·exact e1 q hq
           ·exact d1 q hq)
         rw [List.length_set] at this
         exact ⟨this,by simp⟩
        ·exact ⟨fresh aC (by simp) E o1 e1 e2 o2 J hm zo,by simp⟩
       ·cases B
     ·cases B
   ·cases B
 ·rename_i a6
  have I:=a1
  rw [a6] at I
  simp only [qc.V,qC] at I
  split at B
  ·rename_i hm
   cases B
   exact ⟨a7 I (jo _) hm,jo _⟩
  ·rename_i hm
   split at B
   ·rename_i J
    cases B
    have:=fresh hc rfl I (os:=[]) (ov:=[]) (by simp [qc.VL,qg]) (by simp) (by simp) (λw1 _=>by simp [Builtin.firstCells]) zo hm zo
    exact ⟨by simpa using this,by simp⟩
   ·cases B
 ·cases B
theorem qae.filter {G:qc} (q:Nat->Bool):∀{es:List (Nat×qa×qa)} {me:List MapEntry},qae G es me->qae G (es.filter λe=>q e.1) (me.filter λe=>q e.born)
 | [],me,h=>by simp only [qae] at h;subst h;simp [qae]
 | x :: es,me,h=>by
  simp only [qae] at h
  obtain ⟨e,rest,rfl,h1,h2,h3,h4⟩:=h
  have ih:=qae.filter q h4
  simp only [List.filter_cons,h1]
  cases q x.1 with
  | false=>simpa using ih
  | true=>simp only [if_true,qae];exact ⟨e,_,rfl,h1,h2,h3,ih⟩
theorem qae.all {G:qc} (q:Nat->Bool):∀{es:List (Nat×qa×qa)} {me:List MapEntry},qae G es me->me.all (λe=>q e.born) = es.all λe=>q e.1
 | [],me,h=>by simp only [qae] at h;subst h;rfl
 | x :: es,me,h=>by
  simp only [qae] at h
  obtain ⟨e,rest,rfl,h1,h2,h3,h4⟩:=h
  simp only [List.all_cons,h1,qae.all q h4]
theorem qae.find {G:qc} (q:Nat->Bool):∀{es:List (Nat×qa×qa)} {me:List MapEntry} {x:Nat×qa×qa},qae G es me->es.find? (λe=>q e.1) = some x->∃e,me.find? (λe=>q e.born) = some e/\G.V x.2.1 e.key/\G.V x.2.2 e.val
 | [],me,x,h,hf=>by simp at hf
 | y :: es,me,x,h,hf=>by
  simp only [qae] at h
  obtain ⟨e,rest,rfl,h1,h2,h3,h4⟩:=h
  simp only [List.find?_cons] at hf ⊢
  rw [h1]
  cases hq:q y.1 with
  | true=>rw [hq] at hf;cases hf;exact ⟨e,rfl,h2,h3⟩
  | false=>rw [hq] at hf;exact qae.find q h4 hf
theorem qAu (hc:Cfg P gl G h t a w) {o:Oper} {ao:AOp} (B:qfF P gl o = some ao) {p:qcD} {base:Nat} {call:AE.Call} {e:Bool} {x:Ex} {s':St}
  (E:qv base call p o.dst ao ⟨t,h,e⟩ = some (x,s')):x = .nor/\Did P gl G w a o h.length s'.h s'.t/\h.length <= s'.h.length:=by
 have hO:∀k as,ao = .hx k as->qsO P gl o:=λk as e=>⟨k,as,e▸B⟩
 have fin:∀{k:HOp} {as:List qh},ao = .hx k as->(∀r,hop base k (as.map (ev t)) h = some r->Did P gl G w a o h.length r.2.1 (AE.put o.dst r.1.dim t)/\h.length <= r.2.1.length)->
   x = .nor/\Did P gl G w a o h.length s'.h s'.t/\h.length <= s'.h.length:=by
  intro k as e1 hd
  subst e1
  simp only [qv] at E
  obtain ⟨r,hr,he⟩:=qcf E
  cases he
  obtain ⟨h1,h2⟩:=hd r hr
  exact ⟨rfl,h1,h2⟩
 unfold qfF at B
 split at B
 ·
  rename_i ty l c ho
  split at B
  ·rename_i et hu
   obtain ⟨⟨k,z⟩,he,B⟩:=qA B
   obtain ⟨al,hl,B⟩:=qA B
   obtain ⟨ac,U,B⟩:=qA B
   cases B
   exact fin rfl λr hr=>qDq hc (hO _ _ rfl) ho hu he hl U hr
  ·cases B
 ·
  rename_i ty n ps ho
  split at B
  ·split at B
   ·rename_i et hu
    obtain ⟨⟨k,z⟩,he,B⟩:=qA B
    obtain ⟨qs,hq,B⟩:=qA B
    cases B
    exact fin rfl λr hr=>qAH hc (hO _ _ rfl) ho hu he hq hr
   ·cases B
  ·cases B
 ·
  rename_i c ho
  split at B
  ·rename_i b hcal
   split at B
   ·rename_i y z sT xT I S
    split at B
    ·split at B
     ·rename_i et ux hu M
      split at B
      ·cases B
      ·rename_i hm
       obtain ⟨⟨k,zz⟩,he,B⟩:=qA B
       obtain ⟨ax,hx,B⟩:=qA B
       obtain ⟨ay,hy,B⟩:=qA B
       cases B
       have J:(∃e',ux = .slice e')\/ux = .string:=by
        cases ux <;> first | (exact .inl ⟨_,rfl⟩) | exact .inr rfl | (exfalso;exact hm rfl)
       exact fin rfl λr hr=>qAG hc (hO _ _ rfl) ho hcal I S hu M J he hx hy hr
     ·cases B
    ·cases B
   ·cases B
  ·cases B
 ·cases B
theorem qxU {o:Oper} {ao:AOp} (B:qfF P gl o = some ao):(∃k as,ao = .hx k as)\/(∃sh z ok m key ty p q r,ao = .lk sh z ok m key/\o.op = .lookup ty p q r)\/∃op ty p q r,((∃sh n x y,ao = .eqs sh n x y)\/∃n x,ao = .nls n x)/\o.op = .binOp op ty p q r:=by
 unfold qfF at B
 split at B
 ·split at B
  ·obtain ⟨⟨k,z⟩,he,B⟩:=qA B
   obtain ⟨al,hl,B⟩:=qA B
   obtain ⟨ac,E,B⟩:=qA B
   cases B;exact .inl ⟨_,_,rfl⟩
  ·cases B
 ·split at B
  ·split at B
   ·obtain ⟨⟨k,z⟩,he,B⟩:=qA B
    obtain ⟨qs,hq,B⟩:=qA B
    cases B;exact .inl ⟨_,_,rfl⟩
   ·cases B
  ·cases B
 ·split at B
  ·split at B
   ·split at B
    ·split at B
     ·split at B
      ·cases B
      ·obtain ⟨⟨k,zz⟩,he,B⟩:=qA B
       obtain ⟨ax,hx,B⟩:=qA B
       obtain ⟨ay,hy,B⟩:=qA B
       cases B;exact .inl ⟨_,_,rfl⟩
     ·cases B
    ·cases B
   ·cases B
  ·cases B
 ·cases B
end
section
variable {P:Program} {gl:Nat->Option (List qa)} {G:qc} {w:World} {h:List qb} {t:List qa} {a:Act}
set_option maxHeartbeats 1000000 in
theorem qxm (hc:Cfg P gl G h t a w) {p:qcD} (hp:qbv G w t a p) {o:Oper} {ao:AOp} (B:qen P gl o = some ao) (ae:ao.calls = false) {base:Nat} {call:AE.Call} {e:Bool} {x:Ex} {s':St}
  (E:qv base call p o.dst ao ⟨t,h,e⟩ = some (x,s')):x = .nor/\Did P gl G w a o h.length s'.h s'.t/\h.length <= s'.h.length:=by
 have I:∀{q:AOp},(∀v,pureV t q = some v->qbP P G w a o v)->(pureV t q).map (λv=>(Ex.nor,({ t:=put o.dst v t,h:=h,e:=e}:St))) = some (x,s')->
   x = .nor/\Did P gl G w a o h.length s'.h s'.t/\h.length <= s'.h.length:=by
  intro q hg hm
  obtain ⟨v,hv,he⟩:=qcf hm
  cases he
  exact ⟨rfl,qgt hc (hg v hv) _,jo _⟩
 have hr:=hc.rel
 have ht:=hc.tr
 unfold qen at B
 split at B
 ·
  rename_i y ho
  obtain ⟨ay,hy,rfl⟩:=qcf B
  simp only [qv] at E
  exact I (λv hv=>by simp only [pureV,jl] at hv;subst hv;exact qmE hr ht ho hy) E
 ·
  rename_i y ho
  obtain ⟨ay,hy,rfl⟩:=qcf B
  simp only [qv] at E
  cases E
  exact ⟨rfl,qxj hc ho hy _,jo _⟩
 ·
  rename_i c y z ho
  obtain ⟨ac,aB,B⟩:=qA B
  obtain ⟨ay,hay,B⟩:=qA B
  obtain ⟨az,J,B⟩:=qA B
  cases B
  simp only [qv] at E
  exact I (λv hv=>qmG hr ht ho aB hay J hv) E
 ·
  rename_i et ho
  obtain ⟨z,hz,B⟩:=qA B
  cases B
  simp only [qv] at E
  cases E
  exact ⟨rfl,qxl hc ho hz,by simp⟩
 ·
  rename_i et y ho
  obtain ⟨k,hk,B⟩:=qA B
  obtain ⟨ay,hay,B⟩:=qA B
  cases B
  simp only [qv] at E
  split at E
  ·rename_i hh
   cases E
   exact ⟨rfl,qo2 hc ho hay hh.2,by simp⟩
  ·cases E
 ·
  rename_i ty ps ho
  obtain ⟨z,hz,B⟩:=qA B
  split at B
  ·rename_i fs hu
   split at B
   ·rename_i al
    obtain ⟨aj,U,B⟩:=qA B
    cases B
    simp only [qv] at E
    exact I (λv hv=>qiY hr ht ho hu al hz U hv) E
   ·cases B
  ·rename_i n et hu
   obtain ⟨k,hk,B⟩:=qA B
   obtain ⟨aj,U,B⟩:=qA B
   cases B
   simp only [qv] at E
   exact I (λv hv=>qiX hr ht ho hu hk hz U hv) E
  ·cases B
 ·
  rename_i ty n ps ho
  split at B
  ·rename_i et hu
   obtain ⟨k,hk,B⟩:=qA B
   obtain ⟨z,hz,B⟩:=qA B
   split at B
   ·cases B
   ·rename_i av
    obtain ⟨aj,U,B⟩:=qA B
    cases B
    simp only [qv] at E
    obtain ⟨v,hv,he⟩:=qcf E
    cases he
    obtain ⟨c,u,h1,h2,h3⟩:=quM hr ht ho hu hk av hz U hv
    exact ⟨rfl,qti hc h1 h2 h3 _,jo _⟩
  ·cases B
 ·
  rename_i ty y ho
  obtain ⟨k,hk,B⟩:=qA B
  obtain ⟨ay,hay,B⟩:=qA B
  cases B
  simp only [qv] at E
  obtain ⟨v,hv,he⟩:=qcf E
  cases he
  exact ⟨rfl,qAv hc ho hk hay hv _,jo _⟩
 ·
  rename_i ty y z ho
  obtain ⟨k,hk,B⟩:=qA B
  split at B
  ·rename_i ab
   obtain ⟨ay,hay,B⟩:=qA B
   obtain ⟨az,J,B⟩:=qA B
   cases B
   simp only [qv] at E
   split at E
   ·rename_i id q hq
    split at E
    ·rename_i cs ah
     cases k with
     | none=>
      simp only at E
      split at E
      ·rename_i hh
       cases E
       exact ⟨rfl,qvU (k:=none) hc ho ab hay J hq ah hh.1 hh.2.1 hh.2.2 h.length,by simp⟩
      ·cases E
     | some k=>
      simp only at E
      split at E
      ·rename_i hh
       cases E
       exact ⟨rfl,qvU (k:=some k) hc ho ab hay J hq ah hh.1 hh.2.1 hh.2.2 h.length,by simp⟩
      ·cases E
    ·cases E
   ·cases E
  ·cases B
 ·
  rename_i y ho
  obtain ⟨ay,hy,rfl⟩:=qcf B
  simp only [qv] at E
  exact I (λv hv=>qmF hr ht ho hy hv) E
 ·
  rename_i op ty y z yt ho
  split at B
  ·rename_i ay az hay J
   split at B
   ·rename_i hop
    have S:op = .eql\/op = .neq:=by cases op <;> simp [qDv] at hop <;> simp
    split at B
    ·rename_i hu
     cases B
     simp only [qv] at E
     exact I (λv hv=>qpS hr ht ho hay J S hu hv) E
    ·cases B
     simp only [qv] at E
     exact I (q:=.bin op ay az) (λv hv=>qgD hr ht ho hay J (by simpa only [pureV] using hv)) E
    ·cases B
     simp only [qv] at E
     exact I (q:=.bin op ay az) (λv hv=>qgD hr ht ho hay J (by simpa only [pureV] using hv)) E
    ·rename_i et hu
     split at B
     ·cases B
     ·rename_i a7
      cases B
      simp only [qv] at E
      refine I (λv hv=>qeV hr ht ho hay J S (λ_=>⟨et,hu,?_⟩) (by simp) (by simp) (by simp) hv) E
      cases hs:qdz P et with
      | none=>simp [hs] at a7
      | some n=>exact ⟨n,rfl,by simpa [hs] using a7⟩
    ·rename_i ms hu
     split at B
     ·rename_i aA
      cases B
      simp only [qv] at E
      exact I (λv hv=>qeV hr ht ho hay J S (by simp) (λ_=>⟨⟨ms,hu⟩,by simpa using aA⟩) (by simp) (by simp) hv) E
     ·cases B
    ·rename_i p1 p2 p3 hu
     cases B
     simp only [qv] at E
     exact I (λv hv=>qeV hr ht ho hay J S (by simp) (by simp) (λ_=>⟨p1,p2,p3,hu⟩) (by simp) hv) E
    ·rename_i p1 p2 hu
     cases B
     simp only [qv] at E
     exact I (λv hv=>qeV hr ht ho hay J S (by simp) (by simp) (by simp) (λ_=>⟨p1,p2,hu⟩) hv) E
    ·cases B
   ·cases B
    simp only [qv] at E
    exact I (q:=.bin op ay az) (λv hv=>qgD hr ht ho hay J (by simpa only [pureV] using hv)) E
  ·cases B
 ·
  rename_i op ty y ho
  obtain ⟨ay,hy,rfl⟩:=qcf B
  simp only [qv] at E
  exact I (λv hv=>qt5 hr ht ho hy hv) E
 ·
  rename_i s d y ho
  obtain ⟨ay,hay,B⟩:=qA B
  split at B
  ·rename_i j k hs hd
   cases B
   simp only [qv] at E
   exact I (λv hv=>qpQ hr ht ho hay hs hd hv) E
  ·rename_i hs hd
   cases B
   simp only [qv] at E
   exact I (λv hv=>qpR hr ht ho hay hs hd hv) E
  ·rename_i e0 hs hd
   split at B
   ·rename_i ar
    cases B
    simp only [qv] at E
    obtain ⟨v,hv,he⟩:=qcf E
    cases he
    exact ⟨rfl,qo3 hc ho hay hs hd ar hv _,jo _⟩
   ·cases B
  ·cases B
 ·
  rename_i ty y ho
  split at B
  ·cases B
  ·cases B
  ·rename_i n1 n2
   obtain ⟨ay,hy,rfl⟩:=qcf B
   simp only [qv] at E
   cases hu:P.underlying ty with
   | none=>exact absurd hu n2
   | some d=>exact I (λv hv=>qpY hr ht ho hy hu (λms ad=>n1 ms (by rw [hu,ad])) hv) E
 ·
  rename_i f y z ho
  obtain ⟨ay,hay,B⟩:=qA B
  obtain ⟨az,J,B⟩:=qA B
  cases B
  simp only [qv] at E
  exact I (λv hv=>qpX hr ht ho hay J hv) E
 ·
  rename_i ty y lo hi ho
  split at B
  ·rename_i hu
   obtain ⟨ay,hay,B⟩:=qA B
   obtain ⟨aC,a8,B⟩:=qA B
   obtain ⟨aD,aa,B⟩:=qA B
   cases B
   simp only [qv] at E
   exact I (λv hv=>qmI hr ht ho hay a8 aa hu hv) E
  ·rename_i et hu
   obtain ⟨k,hk,B⟩:=qA B
   obtain ⟨ay,hay,B⟩:=qA B
   obtain ⟨aC,a8,B⟩:=qA B
   obtain ⟨aD,aa,B⟩:=qA B
   cases B
   simp only [qv] at E
   exact I (λv hv=>qmH hr ht ho hay a8 aa hu hk hv) E
  ·cases B
 ·
  rename_i s y i ho
  split at B
  ·rename_i fs hu
   split at B
   ·rename_i f hf
    split at B
    ·cases B
    ·rename_i a7
     obtain ⟨ay,hy,rfl⟩:=qcf B
     simp only [qv] at E
     cases hs:qdz P f.type with
     | none=>simp [hs] at a7
     | some n=>exact I (λv hv=>qt4 hr ht ho hy hu hf hs (by simpa [hs] using a7) hv) E
   ·cases B
  ·cases B
 ·
  rename_i s y i ho
  split at B
  ·rename_i fs hu
   split at B
   ·rename_i f hf
    obtain ⟨k,hk,B⟩:=qA B
    obtain ⟨ay,hay,B⟩:=qA B
    cases B
    simp only [qv] at E
    exact I (λv hv=>qpU hr ht ho hay hu hf hk hv) E
   ·cases B
  ·cases B
 ·
  rename_i ty y i ho
  split at B
  ·rename_i et hu
   obtain ⟨k,hk,B⟩:=qA B
   obtain ⟨ay,hay,B⟩:=qA B
   obtain ⟨ai,a1,B⟩:=qA B
   cases B
   simp only [qv] at E
   exact I (λv hv=>qmA hr ht ho hay a1 hu hk hv) E
  ·rename_i n et hu
   obtain ⟨k,hk,B⟩:=qA B
   obtain ⟨ay,hay,B⟩:=qA B
   obtain ⟨ai,a1,B⟩:=qA B
   cases B
   simp only [qv] at E
   exact I (λv hv=>qmz hr ht ho hay a1 hu hk hv) E
  ·cases B
 ·
  rename_i ty y i ho
  split at B
  ·rename_i hu
   obtain ⟨ay,hay,B⟩:=qA B
   obtain ⟨ai,a1,B⟩:=qA B
   cases B
   simp only [qv] at E
   exact I (λv hv=>qpW hr ht ho hay a1 hu hv) E
  ·rename_i n et hu
   obtain ⟨k,hk,B⟩:=qA B
   split at B
   ·rename_i ab
    obtain ⟨ay,hay,B⟩:=qA B
    obtain ⟨ai,a1,B⟩:=qA B
    cases B
    simp only [qv] at E
    exact I (λv hv=>qpV hr ht ho hay a1 hu hk ab rfl hv) E
   ·cases B
  ·cases B
 ·
  rename_i y xt ty ho
  split at B
  ·cases B
  ·cases B
  ·rename_i n1 n2
   obtain ⟨z,hz,B⟩:=qA B
   obtain ⟨ay,hay,B⟩:=qA B
   cases B
   simp only [qv] at E
   cases hu:P.underlying ty with
   | none=>exact absurd hu n2
   | some d=>exact I (λv hv=>qpZ hr ht ho hay hu (λms ad=>n1 ms (by rw [hu,ad])) hz hv) E
 ·
  rename_i y i ho
  obtain ⟨ay,hay,B⟩:=qA B
  cases B
  simp only [qv] at E
  exact I (λv hv=>qpT hr ht ho hay hv) E
 ·
  rename_i c ho
  split at B
  ·obtain ⟨af,haf,B⟩:=qA B
   obtain ⟨as,has,B⟩:=qA B
   cases B
   simp [AOp.calls] at ae
  ·cases B
  ·rename_i b hcal
   split at B
   ·rename_i y ty M a6
    split at B
    ·rename_i hu
     obtain ⟨ay,hy,rfl⟩:=qcf B
     simp only [qv] at E
     exact I (λv hv=>qmD hr ht ho hcal M a6 hy hu hv) E
    ·rename_i et hu
     obtain ⟨ay,hy,rfl⟩:=qcf B
     simp only [qv] at E
     exact I (λv hv=>qmC hr ht ho hcal M a6 hy hu hv) E
    ·rename_i n et hu
     cases B
     simp only [qv] at E
     exact I (λv hv=>by
      simp only [pureV,ev,raw,qa.dim,jl] at hv
      subst hv
      exact qmB ho hcal M a6 hu) E
    ·cases B
   ·rename_i y z sT xT M a6
    split at B
    ·rename_i et ux hu ap
     split at B
     ·cases B
     ·rename_i hm
      obtain ⟨i,hi,B⟩:=qA B
      obtain ⟨zz,hz,B⟩:=qA B
      split at B
      ·cases B
      ·rename_i hn
       obtain ⟨ay,hay,B⟩:=qA B
       obtain ⟨az,J,B⟩:=qA B
       cases B
       have ak:(∃e',ux = .slice e')\/ux = .string:=by
        cases ux <;> first | (exact .inl ⟨_,rfl⟩) | exact .inr rfl | (exfalso;exact hm rfl)
       have au:qz1 P gl o i.size ay az:=⟨c,y,z,sT,xT,et,i,ux,zz,ho,hcal,M,a6,hu,ap,ak,hi,rfl,zo,zo,hz,zo,hay,J⟩
       have hx:x = .nor:=by
        simp only [qv] at E
        repeat' (split at E)
        all_goals first | (cases E;rfl) | cases E
       subst hx
       obtain ⟨h1,h2,h3⟩:=qxi hc hp au E h.length (jo _)
       exact ⟨rfl,h1,zo⟩
    ·cases B
   ·rename_i y z am M
    obtain ⟨ay,hay,B⟩:=qA B
    obtain ⟨az,J,B⟩:=qA B
    cases B
    simp only [qv] at E
    exact I (λv hv=>qlA (isMax:=true) hr ht ho hcal M hay J hv) E
   ·rename_i y z am M
    obtain ⟨ay,hay,B⟩:=qA B
    obtain ⟨az,J,B⟩:=qA B
    cases B
    simp only [qv] at E
    exact I (λv hv=>qlA (isMax:=false) hr ht ho hcal M hay J hv) E
   ·cases B
 ·
  obtain ⟨ay,hy,rfl⟩:=qcf B
  simp [AOp.calls] at ae
 ·cases B
theorem qvT (hc:Cfg P gl G h t a w) {p:qcD} (hp:qbv G w t a p) {o:Oper} {ao:AOp} (B:qck P gl o = some ao) (I:ao.calls = false) {base:Nat} {call:AE.Call} {e:Bool} {x:Ex} {s':St}
  (E:qv base call p o.dst ao ⟨t,h,e⟩ = some (x,s')):x = .nor/\Did P gl G w a o h.length s'.h s'.t/\h.length <= s'.h.length:=by
 unfold qck at B
 split at B
 ·rename_i y hy
  cases B
  exact qAu hc hy E
 ·exact qxm hc hp B I E
end
def qal (base:Nat) (h h':List qb):Prop:=
 h.length <= h'.length/\∀(i B:Nat) (bx:qb),i < B->B <= base->h[i]? = some bx->bx.lower B = true->∃bx',h'[i]? = some bx'/\bx'.lower B = true
theorem qal.refl (base:Nat) (h:List qb):qal base h h:=⟨jo _,λi B bx _ _ h1 h2=>⟨bx,h1,h2⟩⟩
theorem qal.trans {base:Nat} {h h' E:List qb} (k:qal base h h') (k':qal base h' E):qal base h E:=
 ⟨jp k.1 k'.1,λi B bx hi hB h1 h2=>by
  obtain ⟨I,h3,h4⟩:=k.2 i B bx hi hB h1 h2
  exact k'.2 i B I hi hB h3 h4⟩
theorem qal.append (base:Nat) (h g:List qb):qal base h (h ++ g):=
 ⟨by simp,λi B bx _ _ h1 h2=>⟨bx,by rw [ja (je.1 h1).1];exact h1,h2⟩⟩
theorem qal.set {base id:Nat} {h:List qb} {I E:qb} (h0:h[id]? = some I) (hl:∀B,id < B->B <= base->I.lower B = true->E.lower B = true):qal base h (h.set id E):=by
 refine ⟨by simp,λi B bx hi hB h1 h2=>?_⟩
 by_cases e:id = i
 ·subst e
  rw [h0] at h1;cases h1
  exact ⟨E,jh (je.1 h0).1,hl B hi hB h2⟩
 ·exact ⟨bx,by rw [jg e];exact h1,h2⟩
theorem qal.lower {base b:Nat} {h h':List qb} (k:qal base h h') (hb:b <= base):qal b h h':=
 ⟨k.1,λi B bx hi hB=>k.2 i B bx hi (jp hB hb)⟩
def qaE (base:Nat) (s s':St):Prop:=s.h.length <= s'.h.length/\(s'.e = false->s.e = false/\qal base s.h s'.h)
theorem qaE.refl (base:Nat) (s:St):qaE base s s:=⟨jo _,λh=>⟨h,qal.refl _ _⟩⟩
theorem qaE.trans {base:Nat} {s s' s'':St} (k:qaE base s s') (k':qaE base s' s''):qaE base s s'':=
 ⟨jp k.1 k'.1,λh=>by
  obtain ⟨h1,h2⟩:=k'.2 h
  obtain ⟨h3,h4⟩:=k.2 h1
  exact ⟨h3,h4.trans h2⟩⟩
def qZ (call:Call):Prop:=∀fv args h r h' e',call fv args h = some (r,h',e')->h.length <= h'.length/\(e' = false->qal h.length h h')
theorem qd1 {n:Nat}:∀{as:List qa} {i:Nat} {a:qa},qr n as = true->as[i]? = some a->a.lower n = true
 | [],i,a,_,h=>by simp at h
 | x :: as,i,a,hl,h=>by
  simp only [qr,jm] at hl
  cases i with
  | zero=>simp at h;subst h;exact hl.1
  | succ i=>exact qd1 hl.2 (by simpa using h)
theorem qeZ {n:Nat}:∀{as:List qa},(∀a ∈ as,a.lower n = true)->qr n as = true
 | [],_=>rfl
 | x :: as,h=>by simp only [qr,jm];exact ⟨h x (by simp),qeZ λa ha=>h a (by simp [ha])⟩
theorem qd2 {n:Nat} {as:List qa} (h:qr n as = true):∀a ∈ as,a.lower n = true:=by
 intro a ha
 obtain ⟨i,hi⟩:=List.getElem?_of_mem ha
 exact qd1 h hi
theorem qe0 {n o:Nat} {cs vs:List qa} (h:qr n cs = true) (k:qr n vs = true):qr n (splice cs o vs) = true:=by
 refine qeZ λa ha=>?_
 unfold splice at ha
 rcases jM.1 ha with ha | ha
 ·rcases jM.1 ha with ha | ha
  ·exact qd2 h a (List.mem_of_mem_take ha)
  ·exact qd2 k a ha
 ·exact qd2 h a (List.mem_of_mem_drop ha)
theorem qnj {n o:Nat} {cs:List qa} {v:qa} (h:qr n cs = true) (k:v.lower n = true):qr n (cs.set o v) = true:=by
 refine qeZ λa ha=>?_
 rcases List.mem_or_eq_of_mem_set ha with ha | ha
 ·exact qd2 h a ha
 ·subst ha;exact k
theorem qcm {n:Nat} {f:Nat×qa×qa->Nat×qa×qa} (hf:∀x,x.2.1.lower n = true->x.2.2.lower n = true->(f x).2.1.lower n = true/\(f x).2.2.lower n = true):∀{es:List (Nat×qa×qa)} (i:Nat),qbg n es = true->qbg n (es.modify i f) = true
 | [],i,h=>by simpa using h
 | y :: es,i,h=>by
  simp only [qbg,jm] at h
  cases i with
  | zero=>
   simp only [List.modify_zero_cons,qbg,jm]
   exact ⟨hf y h.1.1 h.1.2,h.2⟩
  | succ i=>
   simp only [List.modify_succ_cons,qbg,jm]
   exact ⟨h.1,qcm hf i h.2⟩
theorem qdn {n:Nat} {x:Nat×qa×qa} (h1:x.2.1.lower n = true) (h2:x.2.2.lower n = true):∀{es:List (Nat×qa×qa)},qbg n es = true->qbg n (es ++ [x]) = true
 | [],_=>by simp [qbg,h1,h2]
 | y :: es,h=>by
  simp only [qbg,jm] at h
  simp only [jB,qbg,jm]
  exact ⟨h.1,qdn h1 h2 h.2⟩
theorem qfO {n:Nat}:∀{es:List (Nat×qa×qa)} (i:Nat),qbg n es = true->qbg n (es.eraseIdx i) = true
 | [],i,h=>by simpa using h
 | y :: es,i,h=>by
  simp only [qbg,jm] at h
  cases i with
  | zero=>exact h.2
  | succ i=>
   simp only [List.eraseIdx_cons_succ,qbg,jm]
   exact ⟨h.1,qfO i h.2⟩
theorem qjJ {base id B:Nat} {vs:List qa} (h:young base id vs = false) (h1:id < B) (h2:B <= base):qr B vs = true:=by
 simp only [young,Bool.not_eq_false',Bool.or_eq_true,Nat.ble_eq] at h
 rcases h with h | h
 ·omega
 ·exact qa0 zo vs h
theorem qrY {base id o:Nat} {h h':List qb} {vs:List qa} {e:Bool} (hp:qe4 base h id o vs = some (h',e)):h.length <= h'.length/\(e = false->qal base h h'):=by
 unfold qe4 at hp
 split at hp
 ·rename_i cs hid
  split at hp
  ·cases hp
   refine ⟨by simp,λhe=>qal.set hid λB hB E hl=>?_⟩
   simp only [qb.lower] at hl ⊢
   exact qe0 hl (qjJ he hB E)
  ·cases hp
 ·cases hp
theorem qi1 {base k:Nat} {x y:qa} {h:List qb} {r:qa×List qb×Bool} (hr:qfM base k x y h = some r):h.length <= r.2.1.length/\(r.2.2 = false->qal base h r.2.1):=by
 unfold qfM at hr
 split at hr
 ·cases hr
 ·split at hr
  ·cases hr
  ·split at hr
   ·split at hr
    ·cases hr;exact ⟨jo _,λ_=>qal.refl _ _⟩
    ·split at hr
     ·split at hr
      ·cases hr;exact ⟨by simp,λ_=>qal.append _ _ _⟩
      ·cases hr
     ·cases hr
   ·split at hr
    ·cases hr;exact ⟨jo _,λ_=>qal.refl _ _⟩
    ·split at hr
     ·split at hr
      ·split at hr
       ·rename_i hp
        cases hr
        exact qrY hp
       ·cases hr
      ·split at hr
       ·rename_i hid
        split at hr
        ·cases hr;exact ⟨by simp,λ_=>qal.append _ _ _⟩
        ·split at hr
         ·cases hr
          exact ⟨by simp,λ_=>(qal.set hid λ_ _ _ _=>rfl).trans (qal.append _ _ _)⟩
         ·cases hr
       ·cases hr
     ·cases hr
   ·split at hr
    ·cases hr;exact ⟨jo _,λ_=>qal.refl _ _⟩
    ·split at hr
     ·cases hr;exact ⟨by simp,λ_=>qal.append _ _ _⟩
     ·cases hr
   ·cases hr
theorem qpL {base:Nat} {h:List qb} {x:qa} {r:qa×List qb} (hr:frz h x = some r):qal base h r.2:=by
 unfold frz at hr
 split at hr
 ·split at hr
  ·rename_i hid
   split at hr
   ·cases hr;exact qal.set hid λ_ _ _ _=>rfl
   ·cases hr
  ·cases hr
 ·cases hr
theorem qdW {base:Nat}:∀(cs:List qa) (h:List qb),qal base h (qv2 cs h).2
 | [],h=>qal.refl _ _
 | x :: xs,h=>by
  unfold qv2
  split
  ·rename_i hf
   exact (qpL hf).trans (qdW xs _)
  ·exact qdW xs h
theorem qp2 {base:Nat} {o:HOp} {as:List qa} {h:List qb} {r:qa×List qb×Bool} (hr:hop base o as h = some r):h.length <= r.2.1.length/\(r.2.2 = false->qal base h r.2.1):=by
 have map:∀{id:Nat} {es E:List (Nat×qa×qa)} {c c':Nat} {vs:List qa},h[id]? = some (.map es c)->(∀B,qr B vs = true->qbg B es = true->qbg B E = true)->
   h.length <= (h.set id (.map E c')).length/\(young base id vs = false->qal base h (h.set id (.map E c'))):=by
  intro id es E c c' vs hid hl
  refine ⟨by simp,λhe=>qal.set hid λB hB J I=>?_⟩
  simp only [qb.lower] at I ⊢
  exact hl B (qjJ he hB J) I
 unfold hop at hr
 split at hr
 ·split at hr
  ·cases hr;exact ⟨by simp,λ_=>qal.append _ _ _⟩
  ·cases hr
 ·split at hr
  ·split at hr
   ·cases hr;exact ⟨by simp,λ_=>qal.append _ _ _⟩
   ·cases hr
  ·cases hr
 ·exact qi1 hr
 ·split at hr
  ·split at hr
   ·split at hr
    ·split at hr
     ·cases hr;exact ⟨jo _,λ_=>qal.refl _ _⟩
     ·split at hr
      ·cases hr;exact ⟨jo _,λ_=>qal.refl _ _⟩
      ·cases hr
    ·cases hr
   ·split at hr
    ·split at hr
     ·cases hr;exact ⟨jo _,λ_=>qal.refl _ _⟩
     ·cases hr;exact ⟨jo _,λ_=>qal.refl _ _⟩
    ·cases hr
   ·cases hr
  ·cases hr
 ·cases hr;exact ⟨by simp,λ_=>qal.append _ _ _⟩
 ·split at hr
  ·rename_i hid
   split at hr
   ·cases hr
    refine map hid λB hB hl=>qcm (λx _ _=>?_) _ hl
    simpa [qr] using hB
   ·cases hr
    refine map hid λB hB hl=>?_
    simp only [qr,jm,and_true] at hB
    exact qdn hB.1 hB.2 hl
   ·cases hr
  ·cases hr
 ·split at hr
  ·rename_i hid
   split at hr
   ·split at hr
    ·cases hr
     refine map hid λB hB hl=>qcm (λx _ h2=>?_) _ hl
     simp only [qr,jm,and_true] at hB
     exact ⟨hB,h2⟩
    ·cases hr
   ·cases hr
    refine map hid λB hB hl=>?_
    simp only [qr,jm,and_true] at hB
    exact qdn hB.1 hB.2 hl
   ·cases hr
  ·cases hr
 ·split at hr
  ·rename_i hid
   split at hr
   ·cases hr
    refine map hid λB hB hl=>qcm (λx h1 _=>?_) _ hl
    simp only [qr,jm,and_true] at hB
    exact ⟨h1,hB⟩
   ·cases hr
  ·cases hr
 ·split at hr
  ·cases hr;exact ⟨jo _,λ_=>qal.refl _ _⟩
  ·split at hr
   ·cases hr;exact ⟨jo _,λ_=>qal.refl _ _⟩
   ·cases hr
  ·cases hr
 ·cases hr;exact ⟨by simp,λ_=>qal.append _ _ _⟩
 ·split at hr
  ·split at hr
   ·cases hr;exact ⟨jo _,λ_=>qal.refl _ _⟩
   ·cases hr
  ·split at hr
   ·rename_i hid
    split at hr
    ·cases hr
     refine ⟨by simp,λ_=>qal.set hid λB _ _ hl=>?_⟩
     simp only [qb.lower] at hl ⊢
     exact qfO _ hl
    ·cases hr
     exact ⟨by simp,λ_=>qal.set hid λB _ _ hl=>hl⟩
    ·cases hr
   ·cases hr
  ·cases hr
 ·split at hr
  ·cases hr;exact ⟨by simp,λ_=>qal.append _ _ _⟩
  ·split at hr
   ·cases hr;exact ⟨by simp,λ_=>qal.append _ _ _⟩
   ·cases hr
  ·cases hr
 ·split at hr
  ·cases hr;exact ⟨jo _,λ_=>qal.refl _ _⟩
  ·rename_i hit
   split at hr
   ·split at hr
    ·cases hr
    ·split at hr
     ·cases hr;exact ⟨jo _,λ_=>qal.refl _ _⟩
     ·split at hr
      ·cases hr
       exact ⟨by simp,λ_=>qal.set hit λB _ _ hl=>hl⟩
      ·cases hr
     ·cases hr
   ·cases hr
  ·cases hr
 ·split at hr
  ·split at hr
   ·split at hr
    ·split at hr
     ·cases hr;exact ⟨jo _,λ_=>qal.refl _ _⟩
     ·cases hr
    ·cases hr
   ·cases hr
  ·cases hr
 ·obtain ⟨v,_,hv⟩:=qcf hr
  cases hv
  unfold qF1
  split
  ·exact ⟨(qdW (base:=base) _ _).1,λ_=>qdW _ _⟩
  ·exact ⟨jo _,λ_=>qal.refl _ _⟩
 ·cases hr
section
variable {base:Nat} {call:Call}
theorem qk7 {k:Nat} {p:qcD} {x:qh} {s s':St} {xs:List qa} (h:qdO k p x s = some (xs,s')):qaE base s s':=by
 unfold qdO at h
 split at h
 ·cases h
 ·split at h
  ·split at h
   ·cases h;exact ⟨jo _,λh=>⟨h,qal.refl _ _⟩⟩
   ·cases h
  ·split at h
   ·split at h
    ·split at h
     ·cases h;exact ⟨jo _,λh=>⟨h,qal.refl _ _⟩⟩
     ·cases h
    ·cases h
   ·split at h
    ·split at h
     ·rename_i cs hid
      split at h
      ·rename_i ys j ho
       split at h
       ·cases h
        refine ⟨by simp,λhe=>⟨he,qal.set hid λB _ _ hl=>?_⟩⟩
        simp only [qb.lower] at hl ⊢
        have:=qd1 hl ho
        simp only [qa.lower] at this
        exact qnj hl (by simpa [qa.lower] using this)
       ·cases h
      ·cases h
     ·cases h
    ·cases h
   ·cases h
theorem qb4 (hc:qZ call) {p:qcD} {dst:Option Nat} {o:AOp} {s s':St} {x:Ex} (hb:base <= s.h.length) (h:qv base call p dst o s = some (x,s')):qaE base s s':=by
 have E:∀{q:Option qa},q.map (λv=>(Ex.nor,({ s with t:=put dst v s.t}:St))) = some (x,s')->qaE base s s':=by
  intro q hm
  obtain ⟨v,_,he⟩:=qcf hm
  cases he
  exact ⟨jo _,λh=>⟨h,qal.refl _ _⟩⟩
 cases o <;> simp only [qv] at h <;> first
  | exact E h
  | skip
 case asg y=>cases h;exact ⟨jo _,λh=>⟨h,qal.refl _ _⟩⟩
 case new cs=>cases h;exact ⟨by simp,λh=>⟨h,qal.append _ _ _⟩⟩
 case box k y=>
  split at h
  ·cases h;exact ⟨by simp,λh=>⟨h,qal.append _ _ _⟩⟩
  ·cases h
 case st k y z=>
  split at h
  ·rename_i id q hq
   split at h
   ·rename_i cs J
    have key:∀(vs:List qa) (s1:St),s1.h = s.h.set id (.cells (splice cs q vs))->s1.e = (s.e || !(Nat.ble base id || qr (id + 1) vs))->qaE base s s1:=by
     intro vs s1 e1 e2
     refine ⟨by rw [e1];simp,λhe=>?_⟩
     rw [e2] at he
     simp only [Bool.or_eq_false_iff,Bool.not_eq_false',Bool.or_eq_true,Nat.ble_eq] at he
     refine ⟨he.1,?_⟩
     rw [e1]
     refine qal.set J λB hB S hl=>?_
     simp only [qb.lower] at hl ⊢
     rcases he.2 with h1 | h1
     ·omega
     ·exact qe0 hl (qa0 zo vs h1)
    cases k with
    | none=>
     simp only at h
     split at h
     ·cases h;exact key _ _ rfl rfl
     ·cases h
    | some k=>
     simp only at h
     split at h
     ·cases h;exact key _ _ rfl rfl
     ·cases h
   ·cases h
  ·cases h
 case call f args=>
  split at h
  ·rename_i v hh e he
   cases h
   obtain ⟨h1,h2⟩:=hc _ _ _ _ _ _ he
   refine ⟨h1,λhf=>?_⟩
   simp only [Bool.or_eq_false_iff] at hf
   exact ⟨hf.1,(h2 hf.2).lower hb⟩
  ·rename_i v hh e he
   cases h
   obtain ⟨h1,h2⟩:=hc _ _ _ _ _ _ he
   refine ⟨h1,λhf=>?_⟩
   simp only [Bool.or_eq_false_iff] at hf
   exact ⟨hf.1,(h2 hf.2).lower hb⟩
  ·cases h
 case app k y z=>
  split at h
  ·split at h
   ·cases h;exact ⟨jo _,λh=>⟨h,qal.refl _ _⟩⟩
   ·split at h
    ·split at h
     ·cases h;exact ⟨jo _,λh=>⟨h,qal.refl _ _⟩⟩
     ·split at h
      ·rename_i M s2 I
       split at h
       ·cases h
        have:=qk7 (base:=base) I
        exact ⟨this.1,this.2⟩
       ·cases h
      ·cases h
    ·cases h
  ·cases h
 case pan y=>
  split at h
  ·cases h;exact qaE.refl _ _
  ·cases h
 case hx o as=>
  obtain ⟨r,hr,he⟩:=qcf h
  cases he
  obtain ⟨h1,h2⟩:=qp2 hr
  refine ⟨h1,λhf=>?_⟩
  simp only [Bool.or_eq_false_iff] at hf
  exact ⟨hf.1,h2 hf.2⟩
theorem qcQ (hc:qZ call):∀(ops:List qaq) (p:qcD) (s s':St) (x:Ex),base <= s.h.length->qa2 base call p ops s = some (x,s')->qaE base s s'
 | [],p,s,s',x,_,h=>by simp only [qa2] at h;cases h;exact qaE.refl _ _
 | o :: os,p,s,s',x,hb,h=>by
  simp only [qa2] at h
  split at h
  ·split at h
   ·rename_i s1 h1
    have k1:=qb4 (base:=base) hc hb h1
    exact k1.trans (qcQ hc os _ s1 s' x (jp hb k1.1) h)
   ·exact qb4 hc hb h
  ·have k1:qaE base s { s with t:=put o.dst (.tup []) s.t}:=⟨jo _,λh=>⟨h,qal.refl _ _⟩⟩
   exact k1.trans (qcQ hc os _ _ s' x hb h)
  ·cases h
theorem qbB (hc:qZ call) (dsts:List Nat):∀(ops:List qN) (pend:List (Nat×Chk)) (s s':St) (x:Ex),base <= s.h.length->qx base call dsts ops pend s = some (x,s')->qaE base s s'
 | [],pend,s,s',x,_,h=>by simp only [qx] at h;cases h;exact qaE.refl _ _
 | d :: ds,pend,s,s',x,hb,h=>by
  simp only [qx] at h
  split at h
  ·split at h
   ·rename_i s1 h1
    have k1:=qb4 (base:=base) hc hb h1
    split at h
    ·split at h
     ·exact k1.trans (qbB hc dsts ds _ s1 s' x (jp hb k1.1) h)
     ·cases h
    ·split at h
     ·exact k1.trans (qbB hc dsts ds _ s1 s' x (jp hb k1.1) h)
     ·exact k1.trans (qbB hc dsts ds _ s1 s' x (jp hb k1.1) h)
   ·rename_i v s1 h1
    have k1:=qb4 (base:=base) hc hb h1
    split at h
    ·cases h;exact ⟨k1.1,k1.2⟩
    ·cases h
   ·cases h
  ·have k1:qaE base s { s with t:=put d.o.dst (.tup []) s.t}:=⟨jo _,λh=>⟨h,qal.refl _ _⟩⟩
   exact k1.trans (qbB hc dsts ds _ _ s' x hb h)
  ·cases h
theorem qhx {f:St->Option (Ex×St)} (hf:∀s s' x,base <= s.h.length->f s = some (x,s')->qaE base s s'):∀(n:Nat) (s s':St) (x:Ex),base <= s.h.length->iter f n s = some (x,s')->qaE base s s'
 | 0,s,s',x,_,h=>by simp [iter] at h
 | n + 1,s,s',x,hb,h=>by
  simp only [iter] at h
  split at h
  ·rename_i s1 h1
   have k1:=hf s s1 _ hb h1
   exact k1.trans (qhx hf n s1 s' x (jp hb k1.1) h)
  ·exact hf s s' x hb h
theorem qU (hc:qZ call) (n:Nat):∀(c:qG) (s s':St) (x:Ex),base <= s.h.length->qbe n base call c s = some (x,s')->qaE base s s'
 | .skip,s,s',x,_,h=>by simp only [qbe] at h;cases h;exact qaE.refl _ _
 | .reg ops,s,s',x,hb,h=>qcQ hc ops _ s s' x hb (by simpa only [qbe] using h)
 | .draw ops,s,s',x,hb,h=>qbB hc _ ops _ s s' x hb (by simpa only [qbe] using h)
 | .draw2 c a b r,s,s',x,hb,h=>by
  simp only [qbe] at h
  obtain ⟨_,h1,_⟩:=qot h
  exact qbB hc _ _ _ s s' _ hb h1
 | .seq a b,s,s',x,hb,h=>by
  simp only [qbe] at h
  split at h
  ·rename_i s1 h1
   have k1:=qU hc n a s s1 _ hb h1
   exact k1.trans (qU hc n b s1 s' x (jp hb k1.1) h)
  ·exact qU hc n a s s' x hb h
 | .cond c a b,s,s',x,hb,h=>by
  simp only [qbe] at h
  split at h
  ·exact qU hc n a s s' x hb h
  ·exact qU hc n b s s' x hb h
  ·cases h
 | .block id b,s,s',x,hb,h=>by
  simp only [qbe] at h
  split at h
  ·rename_i j s1 h1
   have k1:=qU hc n b s s1 _ hb h1
   split at h
   ·cases h;exact k1
   ·cases h;exact k1
  ·exact qU hc n b s s' x hb h
 | .loop b,s,s',x,hb,h=>qhx (λs s' x hb h=>qU hc n b s s' x hb h) n s s' x hb (by simpa only [qbe] using h)
 | .exit id,s,s',x,_,h=>by simp only [qbe] at h;cases h;exact qaE.refl _ _
 | .ret,s,s',x,_,h=>by simp only [qbe] at h;cases h;exact qaE.refl _ _
 | .rfun f ps asg body,s,s',x,hb,h=>by
  simp only [qbe] at h
  split at h
  ·rename_i g first cap hf
   split at h
   ·rename_i v hh e he
    obtain ⟨h1,h2⟩:=hc _ _ _ _ _ _ he
    split at h
    ·rename_i t M J E st pend hl
     split at h
     ·cases h
     ·have key:∀s1:St,s1.h = hh.set s.h.length (.loop t M J E .exhausted pend)->s1.e = (s.e || e)->qaE base s s1:=by
       intro s1 e1 e2
       refine ⟨by rw [e1];simp at h1 ⊢;omega,λhf=>?_⟩
       rw [e2] at hf
       simp only [Bool.or_eq_false_iff] at hf
       refine ⟨hf.1,?_⟩
       rw [e1]
       refine ((qal.append base s.h _).trans ((h2 hf.2).lower (by simp;omega))).trans (qal.set hl λB _ _ I=>?_)
       exact I
      split at h
      ·cases h;exact key _ rfl rfl
      ·cases h;exact key _ rfl rfl
      ·cases h;exact key _ rfl rfl
    ·cases h
   ·rename_i v hh e he
    obtain ⟨h1,h2⟩:=hc _ _ _ _ _ _ he
    cases h
    refine ⟨by simp at h1 ⊢;omega,λhf=>?_⟩
    simp only [Bool.or_eq_false_iff] at hf
    exact ⟨hf.1,(qal.append base s.h _).trans ((h2 hf.2).lower (by simp;omega))⟩
   ·cases h
  ·cases h
theorem qbJ {r:qcb} {h h':List qb} {e:Bool} (hk:h.length <= h'.length/\(e = false->qal h.length h h')) :
  h.length <= (qaU h.length r h' e).2.1.length/\((qaU h.length r h' e).2.2 = false->qal h.length h (qaU h.length r h' e).2.1):=by
 cases r <;> unfold qaU <;> simp only <;> split
 all_goals first
  | exact hk
  | skip
 all_goals
  rename_i hh
  refine ⟨by simp;omega,λhe=>⟨by simp;omega,λi B bx hi hB h1 h2=>?_⟩⟩
  obtain ⟨E,h3,h4⟩:=(hk.2 he).2 i B bx hi hB h1 h2
  exact ⟨E,by simp only;rw [List.getElem?_take_of_lt zo];exact h3,h4⟩
end
theorem qkW {n:Nat} {call:Call} (hc:qZ call) {l:Nat} {args:List qa} {h:List qb} {r:qcb} {h':List qb} {e':Bool} (hr:round n call l args h = some (r,h',e')) :
  h.length <= h'.length/\(e' = false->qal h.length h h'):=by
 unfold round at hr
 split at hr
 ·rename_i t ps asg body _ _ hl
  split at hr
  ·cases hr
  ·simp only at hr
   split at hr
   ·rename_i s1 h1
    have k1:=qU (base:=h.length) hc n asg _ s1 _ (jo _) h1
    split at hr
    ·rename_i t1 a1 U M pend a7
     have kk:qaE h.length s1 { s1 with h:=s1.h.set l (.loop t1 a1 U M .busy pend)}:=⟨by simp,λhe=>⟨he,qal.set a7 λB _ _ E=>E⟩⟩
     split at hr
     ·rename_i x s2 h2
      have k2:=qU (base:=h.length) hc n body _ s2 _ (by simpa using k1.1) h2
      have k12:=k1.trans (kk.trans k2)
      split at hr
      ·rename_i t2 S J I st2 a8 a6
       have key:∀st pend r0,qaU h.length r0 (s2.h.set l (.loop t2 S J I st pend)) s2.e = (r,h',e')->h.length <= h'.length/\(e' = false->qal h.length h h'):=by
        intro st pend r0 hq
        have:=qbJ (r:=r0) (h:=h) (h':=s2.h.set l (.loop t2 S J I st pend)) (e:=s2.e)
         ⟨by simpa using k12.1,λhe=>(k12.2 he).2.trans (qal.set a6 λB _ _ E=>E)⟩
        rw [hq] at this
        exact this
       split at hr
       ·exact key _ _ _ (Option.some.inj hr)
       ·exact key _ _ _ (Option.some.inj hr)
       ·exact key _ _ _ (Option.some.inj hr)
       ·cases hr
      ·cases hr
     ·cases hr
    ·cases hr
   ·cases hr
 ·cases hr
theorem qe6 {F:FuncId->Option qt} {X:qff} (hX:∀f g,X f = some g->∀call,qZ call->qZ λ_ as h=>g call as h):∀n,qZ (run F X n)
 | 0=>λfv args h r h' e' hr=>by simp [run] at hr
 | n + 1=>λfv args h r h' e' hr=>by
  have ih:=qe6 (F:=F) hX n
  simp only [run] at hr
  split at hr
  ·rename_i f first cap
   split at hr
   ·rename_i g hg
    exact hX f g hg _ ih (.fn f first cap) _ h r h' e' hr
   ·split at hr
    ·cases hr
    ·rename_i fn E
     split at hr
     ·rename_i s h1
      have k:=qU (base:=h.length) ih n fn.code _ s _ (jo _) h1
      split at hr
      ·rename_i vs B
       have:=qbJ (r:=.ret (qbS vs)) (h:=h) ⟨k.1,λhe=>(k.2 he).2⟩
       rw [Option.some.inj hr] at this
       exact this
      ·cases hr
     ·rename_i s h1
      have k:=qU (base:=h.length) ih n fn.code _ s _ (jo _) h1
      split at hr
      ·rename_i vs B
       have:=qbJ (r:=.ret (qbS vs)) (h:=h) ⟨k.1,λhe=>(k.2 he).2⟩
       rw [Option.some.inj hr] at this
       exact this
      ·cases hr
     ·rename_i v s h1
      have k:=qU (base:=h.length) ih n fn.code _ s _ (jo _) h1
      have:=qbJ (r:=.pan v) (h:=h) ⟨k.1,λhe=>(k.2 he).2⟩
      rw [Option.some.inj hr] at this
      exact this
     ·cases hr
  ·exact qkW ih hr
  ·cases hr
section
variable {P:Program} {gl:Nat->Option (List qa)}
def Was (P:Program) (gl:Nat->Option (List qa)) (o:Oper) (ao:AOp):Prop:=
 (∀i,ao = .mov (.t i)->o.op = .move (.tmp i))/\(∀q,ao = .ld none q->∃ty y,o.op = .load ty y/\opd gl y = some q/\tyk P ty = some none)/\(qoi o->ao.acts = true)/\
 (∀f as,ao = .call f as->∃c fo,o.op = .call c/\c.callee = .value fo/\opd gl fo = some f/\qsR gl c.args = some as)/\(∀x,ao = .pan x->∃xo,o.op = .panic xo/\opd gl xo = some x)/\
 (∀cs,ao = .new cs->∃e z,o.op = .alloc e/\qbD P e = some z/\cs = z.cells)/\(∀k y,ao = .box k y->∃e x,o.op = .box e x/\opd gl x = some y)
theorem qK {o:Oper} {ao:AOp}
  (h1:∀i,ao = .mov (.t i)->o.op = .move (.tmp i):=by intro i hh;first | (cases hh;done) | (cases hh;rw [ho,qif hy]))
  (h2:∀q,ao = .ld none q->∃ty y,o.op = .load ty y/\opd gl y = some q/\tyk P ty = some none:=by intro q hh;first | (cases hh;done) | (cases hh;exact ⟨_,_,ho,hay,hk⟩))
  (h3:qoi o->ao.acts = true:=by
   intro hh
   first
   | rfl
   | (rcases hh with ⟨_,_,_,hh⟩ | ⟨_,hh,hh2⟩ <;> rw [ho] at hh <;> cases hh;done)
   | (rcases hh with ⟨_,_,_,hh⟩ | ⟨_,hh,hh2⟩
      ·rw [ho] at hh;cases hh
      ·rw [ho] at hh;cases hh;rw [hcal] at hh2;cases hh2))
  (h4:∀f as,ao = .call f as->∃c fo,o.op = .call c/\c.callee = .value fo/\opd gl fo = some f/\qsR gl c.args = some as:=by intro f as hh;first | (cases hh;done) | (cases hh;exact ⟨_,_,ho,‹_›,haf,has⟩))
  (h5:∀x,ao = .pan x->∃xo,o.op = .panic xo/\opd gl xo = some x:=by intro x hh;first | (cases hh;done) | (cases hh;exact ⟨_,ho,hy⟩))
  (h6:∀cs,ao = .new cs->∃e z,o.op = .alloc e/\qbD P e = some z/\cs = z.cells:=by intro cs hh;first | (cases hh;done) | (cases hh;exact ⟨_,_,ho,hz,rfl⟩))
  (h7:∀k y,ao = .box k y->∃e x,o.op = .box e x/\opd gl x = some y:=by intro k y hh;first | (cases hh;done) | (cases hh;exact ⟨_,_,ho,hay⟩)):Was P gl o ao:=⟨h1,h2,h3,h4,h5,h6,h7⟩
set_option maxHeartbeats 1000000 in
theorem qoU {o:Oper} {ao:AOp} (B:qen P gl o = some ao):Was P gl o ao:=by
 unfold qen at B
 split at B
 ·
  rename_i y ho
  obtain ⟨ay,hy,rfl⟩:=qcf B
  exact qK
 ·
  rename_i y ho
  obtain ⟨ay,hy,rfl⟩:=qcf B
  exact qK
 ·
  rename_i c y z ho
  obtain ⟨ac,ap,B⟩:=qA B
  obtain ⟨ay,hay,B⟩:=qA B
  obtain ⟨az,E,B⟩:=qA B
  cases B
  exact qK
 ·
  rename_i et ho
  obtain ⟨z,hz,B⟩:=qA B
  cases B
  exact qK
 ·
  rename_i et y ho
  obtain ⟨k,hk,B⟩:=qA B
  obtain ⟨ay,hay,B⟩:=qA B
  cases B
  exact qK
 ·
  rename_i ty ps ho
  obtain ⟨z,hz,B⟩:=qA B
  split at B
  ·rename_i fs hu
   split at B
   ·rename_i ah
    obtain ⟨S,J,B⟩:=qA B
    cases B
    exact qK
   ·cases B
  ·rename_i n et hu
   obtain ⟨k,hk,B⟩:=qA B
   obtain ⟨S,J,B⟩:=qA B
   cases B
   exact qK
  ·cases B
 ·
  rename_i ty n ps ho
  split at B
  ·rename_i et hu
   obtain ⟨k,hk,B⟩:=qA B
   obtain ⟨z,hz,B⟩:=qA B
   split at B
   ·cases B
   ·rename_i al
    obtain ⟨S,J,B⟩:=qA B
    cases B
    exact qK
  ·cases B
 ·
  rename_i ty y ho
  obtain ⟨k,hk,B⟩:=qA B
  obtain ⟨ay,hay,B⟩:=qA B
  cases B
  exact qK
 ·
  rename_i ty y z ho
  obtain ⟨k,hk,B⟩:=qA B
  split at B
  ·rename_i a8
   obtain ⟨ay,hay,B⟩:=qA B
   obtain ⟨az,E,B⟩:=qA B
   cases B
   exact qK
  ·cases B
 ·
  rename_i y ho
  obtain ⟨ay,hy,rfl⟩:=qcf B
  exact qK
 ·
  rename_i op ty y z yt ho
  split at B
  ·rename_i ay az hay E
   split at B
   ·rename_i hop
    have ae:op = .eql\/op = .neq:=by cases op <;> simp [qDv] at hop <;> simp
    split at B
    ·rename_i hu
     cases B
     exact qK
    ·cases B
     exact qK
    ·cases B
     exact qK
    ·rename_i et hu
     split at B
     ·cases B
     ·rename_i aa
      cases B
      exact qK
    ·rename_i ms hu
     split at B
     ·rename_i am
      cases B
      exact qK
     ·cases B
    ·rename_i p1 p2 p3 hu
     cases B
     exact qK
    ·rename_i p1 p2 hu
     cases B
     exact qK
    ·cases B
   ·cases B
    exact qK
  ·cases B
 ·
  rename_i op ty y ho
  obtain ⟨ay,hy,rfl⟩:=qcf B
  exact qK
 ·
  rename_i s d y ho
  obtain ⟨ay,hay,B⟩:=qA B
  split at B
  ·rename_i j k hs hd
   cases B
   exact qK
  ·rename_i hs hd
   cases B
   exact qK
  ·rename_i e0 hs hd
   split at B
   ·rename_i ak
    cases B
    exact qK
   ·cases B
  ·cases B
 ·
  rename_i ty y ho
  split at B
  ·cases B
  ·cases B
  ·rename_i n1 n2
   obtain ⟨ay,hy,rfl⟩:=qcf B
   exact qK
 ·
  rename_i f y z ho
  obtain ⟨ay,hay,B⟩:=qA B
  obtain ⟨az,E,B⟩:=qA B
  cases B
  exact qK
 ·
  rename_i ty y lo hi ho
  split at B
  ·rename_i hu
   obtain ⟨ay,hay,B⟩:=qA B
   obtain ⟨ab,U,B⟩:=qA B
   obtain ⟨ad,a1,B⟩:=qA B
   cases B
   exact qK
  ·rename_i et hu
   obtain ⟨k,hk,B⟩:=qA B
   obtain ⟨ay,hay,B⟩:=qA B
   obtain ⟨ab,U,B⟩:=qA B
   obtain ⟨ad,a1,B⟩:=qA B
   cases B
   exact qK
  ·cases B
 ·
  rename_i s y i ho
  split at B
  ·rename_i fs hu
   split at B
   ·rename_i f hf
    split at B
    ·cases B
    ·rename_i aa
     obtain ⟨ay,hy,rfl⟩:=qcf B
     exact qK
   ·cases B
  ·cases B
 ·
  rename_i s y i ho
  split at B
  ·rename_i fs hu
   split at B
   ·rename_i f hf
    obtain ⟨k,hk,B⟩:=qA B
    obtain ⟨ay,hay,B⟩:=qA B
    cases B
    exact qK
   ·cases B
  ·cases B
 ·
  rename_i ty y i ho
  split at B
  ·rename_i et hu
   obtain ⟨k,hk,B⟩:=qA B
   obtain ⟨ay,hay,B⟩:=qA B
   obtain ⟨ai,M,B⟩:=qA B
   cases B
   exact qK
  ·rename_i n et hu
   obtain ⟨k,hk,B⟩:=qA B
   obtain ⟨ay,hay,B⟩:=qA B
   obtain ⟨ai,M,B⟩:=qA B
   cases B
   exact qK
  ·cases B
 ·
  rename_i ty y i ho
  split at B
  ·rename_i hu
   obtain ⟨ay,hay,B⟩:=qA B
   obtain ⟨ai,M,B⟩:=qA B
   cases B
   exact qK
  ·rename_i n et hu
   obtain ⟨k,hk,B⟩:=qA B
   split at B
   ·rename_i a8
    obtain ⟨ay,hay,B⟩:=qA B
    obtain ⟨ai,M,B⟩:=qA B
    cases B
    exact qK
   ·cases B
  ·cases B
 ·
  rename_i y xt ty ho
  split at B
  ·cases B
  ·cases B
  ·rename_i n1 n2
   obtain ⟨z,hz,B⟩:=qA B
   obtain ⟨ay,hay,B⟩:=qA B
   cases B
   exact qK
 ·
  rename_i y i ho
  obtain ⟨ay,hay,B⟩:=qA B
  cases B
  exact qK
 ·
  rename_i c ho
  split at B
  ·obtain ⟨af,haf,B⟩:=qA B
   obtain ⟨as,has,B⟩:=qA B
   cases B
   exact qK
  ·cases B
  ·rename_i b hcal
   split at B
   ·rename_i y ty I a7
    split at B
    ·rename_i hu
     obtain ⟨ay,hy,rfl⟩:=qcf B
     exact qK
    ·rename_i et hu
     obtain ⟨ay,hy,rfl⟩:=qcf B
     exact qK
    ·rename_i n et hu
     cases B
     exact qK
    ·cases B
   ·rename_i y z sT xT I a7
    split at B
    ·rename_i et ux hu aj
     split at B
     ·cases B
     ·rename_i hm
      obtain ⟨i,hi,B⟩:=qA B
      obtain ⟨zz,hz,B⟩:=qA B
      split at B
      ·cases B
      ·rename_i hn
       obtain ⟨ay,hay,B⟩:=qA B
       obtain ⟨az,E,B⟩:=qA B
       cases B
       exact qK
    ·cases B
   ·rename_i y z a6 I
    obtain ⟨ay,hay,B⟩:=qA B
    obtain ⟨az,E,B⟩:=qA B
    cases B
    exact qK
   ·rename_i y z a6 I
    obtain ⟨ay,hay,B⟩:=qA B
    obtain ⟨az,E,B⟩:=qA B
    cases B
    exact qK
   ·cases B
 ·
  rename_i y ho
  obtain ⟨ay,hy,rfl⟩:=qcf B
  exact qK
 ·cases B
theorem qb7 {o:Oper} {ao:AOp} (B:qck P gl o = some ao):Was P gl o ao:=by
 unfold qck at B
 split at B
 ·rename_i y hy
  cases B
  rcases qxU hy with ⟨k,as,rfl⟩ | ⟨sh,z,ok,m,key,ty,p,q,r,rfl,ho⟩ | ⟨op,ty,p,q,r,⟨sh,n,x,y,rfl⟩ | ⟨n,x,rfl⟩,ho⟩
  ·refine ⟨λ_ h=>?_,λ_ h=>?_,λ_=>rfl,λ_ _ h=>?_,λ_ h=>?_,λ_ h=>?_,λ_ _ h=>?_⟩ <;> cases h
  ·refine ⟨λ_ h=>?_,λ_ h=>?_,λhh=>?_,λ_ _ h=>?_,λ_ h=>?_,λ_ h=>?_,λ_ _ h=>?_⟩
   ·cases h
   ·cases h
   ·rcases hh with ⟨_,_,_,hh⟩ | ⟨_,hh,_⟩ <;> rw [ho] at hh <;> cases hh
   ·cases h
   ·cases h
   ·cases h
   ·cases h
  ·refine ⟨λ_ h=>?_,λ_ h=>?_,λhh=>?_,λ_ _ h=>?_,λ_ h=>?_,λ_ h=>?_,λ_ _ h=>?_⟩
   ·cases h
   ·cases h
   ·rcases hh with ⟨_,_,_,hh⟩ | ⟨_,hh,_⟩ <;> rw [ho] at hh <;> cases hh
   ·cases h
   ·cases h
   ·cases h
   ·cases h
  ·refine ⟨λ_ h=>?_,λ_ h=>?_,λhh=>?_,λ_ _ h=>?_,λ_ h=>?_,λ_ h=>?_,λ_ _ h=>?_⟩
   ·cases h
   ·cases h
   ·rcases hh with ⟨_,_,_,hh⟩ | ⟨_,hh,_⟩ <;> rw [ho] at hh <;> cases hh
   ·cases h
   ·cases h
   ·cases h
   ·cases h
 ·exact qoU B
theorem qp3 {o:Oper} {ao:AOp} (B:qck P gl o = some ao) (hO:qsO P gl o):ao.acts = true:=by
 obtain ⟨k,as,hk⟩:=hO
 unfold qck at B
 rw [hk] at B
 cases B
 rfl
end
def FR (ro:Option Nat):Fence:={ Fence.wide with round:=ro}
theorem qhN {ro:Option Nat} {n m:Nat} {P:Program} {f:FuncId} {args:Array Value} {w:World} {R:Ending->World->Prop} (h:CallsIn Fence.wide m P f args w R):CallsIn (FR ro) n P f args w R:=
 ⟨trivial,λcs _=>h.2 cs (room_wide _)⟩
def qeI (f:Value) (args:Array Value):Sem Next:=do let d <-Deferred.ofValue f args;invoke d.target d.args
def qej (G:qc):Prop:=∀b i,G.ow b ≠ some (.tmp i)
def qoa (P:Program) (gl:Nat->Option (List qa)) (n:Nat) (G:qc) (w:World) (r:qcb) (h':List qb):Ending->World->Prop
 | .returned v,w'=>∃rv G',r = .ret rv/\Ext n G w G' w'/\Rel P gl G' h' w'/\qej G'/\G'.V rv v
 | .panicked ch,w'=>∃pv v G',r = .pan pv/\ch = [{ v,recovered:=false}]/\Ext n G w G' w'/\Rel P gl G' h' w'/\qej G'/\G'.V pv v
 | .outgrown,_=>False
def qcc (P:Program) (gl:Nat->Option (List qa)) (call:AE.Call):Prop:=
 ∀fv args h r h' e',call fv args h = some (r,h',e')->∀(G:qc) (w:World) (fvv:Value) (vs:Array Value),Rel P gl G h w->qej G->G.V fv fvv->G.VL args vs.toList->
  (∃f as,(qeI fvv vs).run P w = .ok (.enter f as) w/\∀(ro:Option Nat) (n:Nat),CallsIn (FR ro) n P f as w (qoa P gl h.length G w r h'))\/
  (∃i b f tmps asg body,fv = .yld i/\(qeI fvv vs).run P w = .ok (.round b f tmps asg body) w/\∀(ro:Option Nat) (n:Nat),RoundIn (FR ro) n P b f tmps asg body w (qoa P gl h.length G w r h'))\/
  (∃v w',(∀i,args ≠ [.yld i])/\(qeI fvv vs).run P w = .ok (.value v) w'/\qoa P gl h.length G w r h' (.returned v) w')
theorem qfX {ro:Option Nat} {m:Nat}:(FR ro).depth.isSome = true->1 <= m:=λh=>by cases h
theorem qiy {P:Program} {gl:Nat->Option (List qa)} {call:AE.Call} (M:qcc P gl call) {fv:qa} {args:List qa} {h:List qb} {r:qcb} {h':List qb} {e':Bool} (hc:call fv args h = some (r,h',e'))
  {G:qc} {w:World} {J:Value} {vs:Array Value} (hr:Rel P gl G h w) (hn:qej G) (hf:G.V fv J) (ha:G.VL args vs.toList)
  (ro:Option Nat) (n:Nat) (o:Oper) (a:Act) (K:Act->World->Prop) (Q:Exit->Act->World->Prop)
  (E:∀rv v w' G',r = .ret rv->Ext h.length G w G' w'->Rel P gl G' h' w'->qej G'->G'.V rv v->K (a.put o.dst v) w')
  (I:∀pv v w' G',r = .pan pv->Ext h.length G w G' w'->Rel P gl G' h' w'->qej G'->G'.V pv v->Q (.panic [{ v,recovered:=false}]) a w') :
  o.uponIn (FR ro) n P a K Q ((qeI J vs).run P w):=by
 rcases M _ _ _ _ _ _ hc G w J vs hr hn hf ha with ⟨f,as,h1,h2⟩ | ⟨_,b,f,tmps,asg,body,_,h1,h2⟩ | ⟨v,w',_,h1,rv,G',h2,h3,h4,h5,h6⟩
 ·rw [h1,Oper.uponIn_enter]
  refine ⟨qfX,CallsIn.mono (h2 ro (n - 1)) λe B hb=>?_⟩
  cases e with
  | returned v=>obtain ⟨rv,G',g1,g2,g3,g4,g5⟩:=hb;exact E rv v B G' g1 g2 g3 g4 g5
  | panicked ch=>obtain ⟨pv,v,G',g1,rfl,g2,g3,g4,g5⟩:=hb;exact I pv v B G' g1 g2 g3 g4 g5
  | outgrown=>exact hb.elim
 ·rw [h1,Oper.uponIn_round]
  refine ⟨qfX,RoundIn.mono (h2 ro (n - 1)) λe B hb=>?_⟩
  cases e with
  | returned v=>obtain ⟨rv,G',g1,g2,g3,g4,g5⟩:=hb;exact E rv v B G' g1 g2 g3 g4 g5
  | panicked ch=>obtain ⟨pv,v,G',g1,rfl,g2,g3,g4,g5⟩:=hb;exact I pv v B G' g1 g2 g3 g4 g5
  | outgrown=>exact hb.elim
 ·rw [h1,Oper.uponIn_value]
  exact E rv v w' G' h2 h3 h4 h5 h6
def qc.cellsOnly (G:qc):qc:={ γ:=G.γ,imm:=G.imm,ow:=λb=>match G.ow b with | some (.cell i o)=>some (.cell i o) | _=>none}
def qc.with (G' G:qc):qc:={ γ:=G'.γ,imm:=G'.imm,ow:=λb=>match G.ow b with | some (.tmp i)=>some (.tmp i) | _=>G'.ow b}
section
variable {P:Program} {gl:Nat->Option (List qa)} {G G':qc} {w w':World} {h h':List qb} {t:List qa} {a:Act} {n:Nat}
theorem qfD {b:Nat} {ℓ:Loc} (h:G.cellsOnly.ow b = some ℓ):G.ow b = some ℓ/\∃i o,ℓ = .cell i o:=by
 simp only [qc.cellsOnly] at h
 split at h
 ·rename_i i o e;cases h;exact ⟨e,i,o,rfl⟩
 ·cases h
theorem qhi {b i o:Nat} (h:G.ow b = some (.cell i o)):G.cellsOnly.ow b = some (.cell i o):=by simp [qc.cellsOnly,h]
theorem Rel.cellsOnly (hr:Rel P gl G h w):Rel P gl G.cellsOnly h w/\qej G.cellsOnly:=by
 refine ⟨⟨hr.γlt,hr.inj,λi b bx hb hx=>?_,hr.imm,hr.immγ,hr.immK,λb ℓ hb=>hr.ow b ℓ (qfD hb).1,hr.glob⟩,λb i hb=>?_⟩
 ·have h0:=hr.box i b bx hb hx
  cases bx with
  | cells cs=>
   obtain ⟨c,e,h1,h2,h3⟩:=h0
   exact ⟨c,e,h1,h2,λo xs k v ho hv=>(h3 o xs k v ho hv).keep (λy hy=>qhi hy) (λ_ _=>rfl) (λ_ _ _ h=>h)⟩
  | loop _ _ _ _ _ _=>
   obtain ⟨L,h1,h2⟩:=h0
   exact ⟨L,h1,{ h2 with tmps:=h2.tmps}⟩
  | map es _=>obtain ⟨me,h1,h2⟩:=h0;obtain ⟨m,hm⟩:=qcA es;exact ⟨me,h1,qae.mono (G:=G) (G':=G.cellsOnly) (λ_ _ _ h=>h) m (λ_ _ _ h=>h) hm h2⟩
  | iter _ _ _ _=>obtain ⟨mm,h1,h2⟩:=h0;exact ⟨mm,h1,h2⟩
  | dead=>trivial
 ·obtain ⟨_,i',o',e⟩:=qfD hb
  cases e
theorem qeJ (hc:Cfg P gl G h t a w) (he:Ext n G.cellsOnly w G' w') (hr:Rel P gl G' h' w'):Ext n G w (G'.with G) w'/\Rel P gl (G'.with G) h' w'/\qaV (G'.with G) w' t a.tmps:=by
 have B:∀b i,G.ow b = some (.tmp i)->qcS G.cellsOnly b:=λb i hb=>⟨(hc.rel.ow b _ hb).2,by simp [qc.cellsOnly,hb]⟩
 have S:∀b i,G.ow b = some (.tmp i)->G'.ow b = none:=λb i hb=>by
  cases ho:G'.ow b with
  | none=>rfl
  | some ℓ=>
   rcases he.on b (by simp [ho]) with h1 | h1
   ·exact absurd (B b i hb).2 h1
   ·have:=(hc.rel.ow b _ hb).1;omega
 have E:∀b,(∀i,G.ow b ≠ some (.tmp i))->(G'.with G).ow b = G'.ow b:=λb hb=>by
  cases hg:G.ow b with
  | none=>simp [qc.with,hg]
  | some ℓ=>cases ℓ with
   | tmp i=>exact absurd hg (hb i)
   | cell i o=>simp [qc.with,hg]
 have I:∀b i,G.ow b = some (.tmp i)->(G'.with G).ow b = some (.tmp i):=λb i hb=>by simp [qc.with,hb]
 refine ⟨⟨he.gk,he.gn,he.ik,λb o v hv=>?_,λb hb=>?_,he.size,λb hb hf=>?_,he.loops,he.os,he.tape,he.output⟩,⟨hr.γlt,hr.inj,λi b bx hb hx=>?_,hr.imm,hr.immγ,hr.immK,λb ℓ hb=>?_,hr.glob⟩,?_⟩
 ·rcases he.inew b o v hv with h1 | h1 | h1 | ⟨i,h1⟩
  ·exact .inl h1
  ·exact .inr (.inl h1)
  rotate_left
  ·exact .inr (.inr (.inr ⟨i,h1⟩))
  ·refine .inr (.inr (.inl λe=>?_))
   simp [qc.cellsOnly,e] at h1
 ·by_cases hh:∃i,G.ow b = some (.tmp i)
  ·obtain ⟨i,hi⟩:=hh;exact .inl (by simp [hi])
  ·rw [E b (λi hi=>hh ⟨i,hi⟩)] at hb
   rcases he.on b hb with h1 | h1
   ·refine .inl λe=>?_
    simp [qc.cellsOnly,e] at h1
   ·exact .inr h1
 ·exact he.heap b hb ⟨hf.1,by simp [qc.cellsOnly,hf.2]⟩
 ·have h0:=hr.box i b bx hb hx
  cases bx with
  | cells cs=>
   obtain ⟨c,e,h1,h2,h3⟩:=h0
   refine ⟨c,e,h1,h2,λo xs k v ho hv=>(h3 o xs k v ho hv).keep (λy hy=>?_) (λ_ _=>rfl) (λ_ _ _ h=>h)⟩
   rw [E y (λj hj=>by rw [S y j hj] at hy;cases hy)]
   exact hy
  | loop _ _ _ _ _ _=>
   obtain ⟨L,h1,h2⟩:=h0
   exact ⟨L,h1,{ h2 with tmps:=h2.tmps}⟩
  | map es _=>obtain ⟨me,h1,h2⟩:=h0;obtain ⟨m,hm⟩:=qcA es;exact ⟨me,h1,qae.mono (G:=G') (G':=G'.with G) (λ_ _ _ h=>h) m (λ_ _ _ h=>h) hm h2⟩
  | iter _ _ _ _=>obtain ⟨mm,h1,h2⟩:=h0;exact ⟨mm,h1,h2⟩
  | dead=>trivial
 ·by_cases hh:∃i,G.ow b = some (.tmp i)
  ·obtain ⟨i,hi⟩:=hh
   obtain ⟨h1,h2⟩:=hc.rel.ow b _ hi
   refine ⟨jq h1 he.size,λj hj=>?_⟩
   rcases he.gn j b hj with h3 | ⟨_,h3 | ⟨j',h3⟩⟩
   ·exact h2 j h3
   ·omega
   ·exact h2 j' h3
  ·rw [E b (λi hi=>hh ⟨i,hi⟩)] at hb
   exact hr.ow b ℓ hb
 ·have M:=he.VL hc.tr.rel
  refine ⟨M,λi xs k v hx hv=>(hc.tr.own i xs k v hx hv).keep (λy hy=>I y i hy) (λy hy=>he.heap y (hc.rel.ow y _ hy).1 (B y i hy)) (λy j hy hj=>?_)⟩
  cases J:(G'.with G).imm y j with
  | none=>rfl
  | some u=>
   rcases he.inew y j u J with h1 | h1 | h1 | ⟨i',h1⟩
   rotate_right
   ·exact absurd h1 ((hc.rel.ow y _ hy).2 i')
   ·rw [show G.cellsOnly.imm y j = G.imm y j from rfl,hj] at h1;cases h1
   ·have:=(hc.rel.ow y _ hy).1;omega
   ·exact absurd (B y i hy).2 h1
theorem qed {o:Oper} {ao:AOp} (hc:qck P gl o = some ao):∀c,o.op ≠ .defer c:=by
 intro c h
 unfold qck at hc
 split at hc
 ·rename_i y hy
  unfold qfF at hy
  rw [h] at hy
  cases hy
 ·unfold qen at hc
  rw [h] at hc
  cases hc
theorem Cfg.putDim (hc:Cfg P gl G h t a w) (dst:Option Nat) {x:qa} {v:Value} (hv:G.V x v):Cfg P gl G h (AE.put dst x.dim t) (a.put dst v) w:=hc.put dst (qcW hv) (qbE x)
theorem qb2 (a:Act) (d:Option Tmp) (v:Value):(a.put d v).defers = a.defers:=by cases d <;> rfl
theorem qe3 {call:AE.Call} (M:qcc P gl call) (hk:qZ call) (hc:Cfg P gl G h t a w) {p:qcD} (hp:qbv G w t a p) {o:Oper} {ao:AOp} (E:qck P gl o = some ao) {base:Nat} {e:Bool} {x:Ex} {s':St}
  (B:qv base call p o.dst ao ⟨t,h,e⟩ = some (x,s')) {ro:Option Nat} {m:Nat} {K:Act->World->Prop} {Q:Exit->Act->World->Prop}
  (aa:x = .nor->∀u w' G',Ext h.length G w G' w'->Cfg P gl G' s'.h s'.t (a.put o.dst u) w'->(ao.acts = false->∀b,b < w.heap.size->w'.heap[b]? = w.heap[b]?)->(∀i,ao = .mov (.t i)->u = a.tmps.getD i undef)->
   (∀q id off,ao = .ld none q->ev t q = .ptr id off->∃b,G.γ id = some b/\w.cell? ⟨b,off,none⟩ = some u)->K (a.put o.dst u) w')
  (a8:∀pv,x = .pan pv->∀v w' G',Ext h.length G w G' w'->Cfg P gl G' s'.h s'.t a w'->G'.V pv v->Q (.panic [{ v,recovered:=false}]) a w') :
  o.wpIn (FR ro) m P a w K Q:=by
 refine ⟨λ_ _=>trivial,?_⟩
 rw [Oper.semAt_eq _ _ _ (qed E)]
 cases ah:ao.calls with
 | false=>
  obtain ⟨rfl,hd,_⟩:=qvT hc hp E ah B
  obtain ⟨nx,u,w',G',h1,h2,ai,h3,h4⟩:=hd
  have h5:ao.acts = false->∀b,b < w.heap.size->w'.heap[b]? = w.heap[b]?:=by
   intro U
   exact ai (λhop=>by rw [(qb7 E).2.2.1 hop] at U;cases U) (λhop=>by rw [qp3 E hop] at U;cases U)
  have h6:∀i,ao = .mov (.t i)->u = a.tmps.getD i undef:=by
   rintro i rfl
   have ho:=(qb7 E).1 i rfl
   have:(execOp a.eval o).run P w = .ok (.value (a.eval (.tmp i))) w:=by simp [execOp,ho]
   rw [this] at h1
   cases h1
   rcases h2 with h2 | ⟨h2,_⟩
   ·cases h2;rfl
   ·cases h2
  have h7:∀q id off,ao = .ld none q->ev t q = .ptr id off->∃b,G.γ id = some b/\w.cell? ⟨b,off,none⟩ = some u:=by
   rintro q id off rfl hq
   obtain ⟨ty,y,ho,hy,hk⟩:=(qb7 E).2.1 q rfl
   have hv:=qah hc.rel hc.tr hy
   rw [hq] at hv
   simp only [qc.V,qC] at hv
   obtain ⟨b,hb,he⟩:=hv
   refine ⟨b,hb,?_⟩
   obtain ⟨g1,_⟩:=qfa hk w
   simp only [qv] at B
   obtain ⟨v,hv,_⟩:=qcf B
   rw [hq] at hv
   simp only [qcl] at hv
   split at hv
   ·rename_i cs ak
    obtain ⟨c,te,hw,al,_⟩:=hc.rel.box id b _ hb ak
    simp only [cut] at hv
    obtain ⟨av,S,_⟩:=qcf hv
    obtain ⟨uv,ac,_⟩:=qeS al S
    have J:w.cell? ⟨b,off,none⟩ = some uv:=by
     simp only [Array.getElem?_toList] at ac
     simp [World.cell?,hw,ac]
    have:(execOp a.eval o).run P w = .ok (.value uv) w:=by
     simp only [execOp,ho]
     refine qdx ?_
     simp only [Instr.loadAt,he,Instr.sureAddr,Sem.run_bind,Sem.run_pure,Result.andThen_ok,loadVar,g1,Option.isSome_none,jn,if_false,run_load,J]
    rw [this] at h1
    cases h1
    rcases h2 with h2 | ⟨h2,_⟩
    ·cases h2;exact J
    ·cases h2
   ·cases hv
  have:=aa rfl u w' G' h3 h4 h5 h6 h7
  rw [h1]
  rcases h2 with rfl | ⟨rfl,rfl⟩
  ·rw [Oper.uponIn_value];exact this
  ·rw [Oper.uponIn_skip];exact this
 | true=>
  cases ao <;> simp [AOp.calls] at ah
  case call f as=>
   obtain ⟨c,fo,ho,hcal,hf,has⟩:=(qb7 E).2.2.2.1 f as rfl
   have af:=qah hc.rel hc.tr hf
   have S:=qig hc.rel hc.tr has
   obtain ⟨ad,ae⟩:=hc.rel.cellsOnly
   have hex:(execOp a.eval o).run P w = (qeI (a.eval fo) (c.args.map a.eval)).run P w:=by
    simp only [execOp,ho,resolve,hcal,qeI]
   rw [hex]
   simp only [qv] at B
   split at B
   ·rename_i v h1 e1 I
    cases B
    refine qiy M I ad ae af S ro m o a K Q (λrv u w' G' a1 he a6 aj hv=>?_) (λpv u w' G' a7=>by cases a7)
    cases a1
    obtain ⟨k1,k2,k3⟩:=qeJ hc he a6
    have am:Cfg P gl (G'.with G) h1 t a w':=⟨k2,k3⟩
    refine aa rfl u w' (G'.with G) k1 (am.putDim o.dst hv) (by simp [AOp.acts]) (by simp) (by simp)
   ·rename_i v h1 e1 I
    cases B
    refine qiy M I ad ae af S ro m o a K Q (λrv u w' G' a1=>by cases a1) (λpv u w' G' a7 he a6 aj hv=>?_)
    cases a7
    obtain ⟨k1,k2,k3⟩:=qeJ hc he a6
    exact a8 _ rfl u w' (G'.with G) k1 ⟨k2,k3⟩ hv
   ·cases B
  case pan y=>
   obtain ⟨xo,ho,hx⟩:=(qb7 E).2.2.2.2.1 y rfl
   have hv:=qah hc.rel hc.tr hx
   simp only [qv] at B
   split at B
   ·rename_i u v hy
    cases B
    rw [hy] at hv
    have ab:=hv
    simp only [qc.V,qC] at ab
    obtain ⟨x',he,_⟩:=ab
    have hex:(execOp a.eval o).run P w = .halt (.panic (a.eval xo)) w:=by
     simp [execOp,ho,he,Instr.panic]
    rw [hex,Oper.uponIn_panic]
    exact a8 _ rfl _ w G (Ext.refl _ G w) hc hv
   ·cases B
theorem Act.put_get_ne {a:Act} {dst:Option Nat} {u:Value} {i:Nat} (h:dst ≠ some i):(a.put dst u).tmps[i]? = a.tmps[i]?:=by
 cases dst with
 | none=>rfl
 | some d=>
  have:d ≠ i:=λe=>h (by rw [e])
  simp [Act.put,Array.getElem?_setIfInBounds,this]
theorem qnK {dst:Option Nat} {v:qa} {x:qh} (h:∀d,dst = some d->x.isT d = false):raw (AE.put dst v t) x = raw t x:=by
 cases dst with
 | none=>rfl
 | some d=>
  cases x with
  | c _=>rfl
  | t i=>
   have:=h d rfl
   simp only [qh.isT,beq_eq_false_iff_ne,ne_eq] at this
   simp only [raw,AE.put,List.getD_eq_getElem?_getD]
   rw [jg (λe=>this e.symm)]
theorem qiO {dst:Option Nat} {v:qa} {x:qh} (h:∀d,dst = some d->x.isT d = false):ev (AE.put dst v t) x = ev t x:=by
 simp only [ev,qnK h]
theorem qbv.next {p:qcD} (hp:qbv G w t a p) {o:qaq} {u:Value} {v:qa} {t':List qa} (ht:o.op.effs = false->t' = AE.put o.dst v t)
  (M:∀i b,G.γ i = some b->G'.γ i = some b) (hh:o.op.effs = false->∀b,b < w.heap.size->w'.heap[b]? = w.heap[b]?)
  (U:∀i,o.op = .mov (.t i)->u = a.tmps.getD i undef) (a1:∀q id off,o.op = .ld none q->ev t q = .ptr id off->∃b,G.γ id = some b/\w.cell? ⟨b,off,none⟩ = some u) :
  qbv G' w' t' (a.put o.dst u) (qaY p o):=by
 unfold qaY
 cases S:o.op.effs with
 | true=>
  simp only [if_true]
  have one:∀d i,(d,Src.tmp i) ∈ p->o.dst ≠ some d->(∀k,o.dst = some k->(Src.tmp i).hangs k = false)->∀u',(a.put o.dst u).tmps[d]? = some u'->(a.put o.dst u).tmps.getD i undef = u':=by
   intro d i hm h1 h2 u' B
   rw [Act.put_get_ne h1] at B
   have h3:=hp d _ hm u' B
   simp only at h3
   rw [Array.getD_eq_getD_getElem?] at h3 ⊢
   rw [Act.put_get_ne (λe=>by have:=h2 i e;simp [Src.hangs] at this)]
   exact h3
  cases E:o.dst with
  | none=>
   simp only [E] at one
   intro d s hm u' B
   simp only [List.mem_filter] at hm
   obtain ⟨h1,h2⟩:=hm
   cases s with
   | tmp i=>exact one d i h1 (by simp) (by simp) u' B
   | cell x=>cases h2
  | some k=>
   simp only [E] at one
   intro d s hm u' B
   simp only [List.mem_filter,jm,bne_iff_ne,ne_eq,Bool.not_eq_true'] at hm
   obtain ⟨h1,h2,h3,h4⟩:=hm
   cases s with
   | tmp i=>exact one d i h1 (by simpa using λe=>h3 e.symm) (λj hj=>by cases hj;exact h4) u' B
   | cell x=>cases h2
 | false=>
  simp only [jn,if_false]
  have hh:=hh S
  have ht:=ht S
  subst ht
  have J:∀b off v,w.cell? ⟨b,off,none⟩ = some v->w'.cell? ⟨b,off,none⟩ = some v:=by
   intro b off v hv
   have hb:b < w.heap.size:=by
    rcases Nat.lt_or_ge b w.heap.size with hb | hb
    ·exact hb
    ·simp [World.cell?,jP hb] at hv
   rw [qbL (w:=w) (w':=w') (hh b hb)]
   exact hv
  have hold:∀d s,(d,s) ∈ p->o.dst ≠ some d->(∀k,o.dst = some k->s.hangs k = false)->∀u',(a.put o.dst u).tmps[d]? = some u'->match s with
    | .tmp i=>(a.put o.dst u).tmps.getD i undef = u'
    | .cell x=>∀id o',ev (AE.put o.dst v t) x = .ptr id o'->∃b,G'.γ id = some b/\w'.cell? ⟨b,o',none⟩ = some u':=by
   intro d s hm h1 h2 u' B
   rw [Act.put_get_ne h1] at B
   have h3:=hp d s hm u' B
   cases s with
   | tmp i=>
    simp only at h3 ⊢
    rw [Array.getD_eq_getD_getElem?] at h3 ⊢
    rw [Act.put_get_ne (λe=>by have:=h2 i e;simp [Src.hangs] at this)]
    exact h3
   | cell x=>
    simp only at h3 ⊢
    intro id o' he
    rw [qiO (λd hd=>by have:=h2 d hd;simpa [Src.hangs] using this)] at he
    obtain ⟨b,g1,g2⟩:=h3 id o' he
    exact ⟨b,M id b g1,J b o' u' g2⟩
  cases E:o.dst with
  | none=>
   simp only [E] at hold
   intro d s hm u' B
   exact hold d s hm (by simp) (by simp) u' B
  | some k=>
   simp only [E] at hold ⊢
   have hq:qbv G' w' (AE.put (some k) v t) (a.put (some k) u) (p.filter λx=>x.1 != k && !x.2.hangs k):=by
    intro d s hm u' B
    simp only [List.mem_filter,jm,bne_iff_ne,ne_eq,Bool.not_eq_true'] at hm
    obtain ⟨h1,h2,h3⟩:=hm
    exact hold d s h1 (by simpa using λe=>h2 e.symm) (λj hj=>by cases hj;exact h3) u' B
   split
   ·rename_i s0 hs
    split
    ·exact hq
    ·rename_i I
     intro d s hm u' B
     rcases List.mem_cons.1 hm with hm | hm
     ·cases hm
      have hu:u' = u:=by
       simp only [Act.put,Array.getElem?_setIfInBounds] at B
       split at B
       ·split at B <;> cases B;rfl
       ·rename_i hh;exact absurd trivial hh
      subst hu
      unfold qD at hs
      split at hs
      ·rename_i i ho
       cases hs
       have:=U i ho
       simp only
       rw [Array.getD_eq_getD_getElem?] at this ⊢
       rw [Act.put_get_ne (λe=>by cases e;simp [Src.hangs] at I)]
       exact this.symm
      ·rename_i q ho
       cases hs
       simp only
       intro id o' he
       rw [qiO (λd hd=>by cases hd;simpa [Src.hangs] using I)] at he
       obtain ⟨b,g1,g2⟩:=a1 q id o' ho he
       exact ⟨b,M id b g1,J b o' _ g2⟩
      ·cases hs
     ·exact hq d s hm u' B
   ·exact hq
theorem qdo {base:Nat} {call:AE.Call} {p:qcD} {dst:Option Nat} {o:AOp} {s s':St} {x:Ex} (E:o.effs = false) (B:qv base call p dst o s = some (x,s')) :
  x = .nor/\∃v,s'.t = AE.put dst v s.t/\s'.e = s.e/\((s'.h = s.h/\(pureV s.t o = some v\/(∃k q,o = .ld k q/\qcl s.h (ev s.t q) k = some v)\/∃sh z ok m key,o = .lk sh z ok m key/\qlG s.h sh z ok (ev s.t m) (ev s.t key) = some v))\/
   (∃cs,s'.h = s.h ++ [.cells cs]/\v = .ptr s.h.length 0/\qeK s o = some (.box s.h.length cs))):=by
 cases o <;> simp only [AOp.effs,Bool.true_eq_false] at E <;> simp only [qv] at B
 all_goals first
  | (obtain ⟨v,hv,he⟩:=qcf B
     cases he
     exact ⟨rfl,v,rfl,rfl,.inl ⟨rfl,.inl hv⟩⟩)
  | (obtain ⟨v,hv,he⟩:=qcf B
     cases he
     exact ⟨rfl,v,rfl,rfl,.inl ⟨rfl,.inr (.inl ⟨_,_,rfl,hv⟩)⟩⟩)
  | (obtain ⟨v,hv,he⟩:=qcf B
     cases he
     exact ⟨rfl,v,rfl,rfl,.inl ⟨rfl,.inr (.inr ⟨_,_,_,_,_,rfl,hv⟩)⟩⟩)
  | (cases B
     exact ⟨rfl,_,rfl,rfl,.inr ⟨_,rfl,rfl,rfl⟩⟩)
  | (split at B
     ·cases B
      exact ⟨rfl,_,rfl,rfl,.inr ⟨_,rfl,rfl,rfl⟩⟩
     ·cases B)
def Fin (P:Program) (gl:Nat->Option (List qa)) (n:Nat) (G:qc) (w:World) (ds:List Deferred) (x:Ex) (s':St) (e:Exit) (a':Act) (w':World):Prop:=
 ∃G',Ext n G w G' w'/\a'.defers = ds/\match x with
  | .nor=>e = .normal/\Cfg P gl G' s'.h s'.t a' w'
  | .exit id=>e = .exit id/\Cfg P gl G' s'.h s'.t a' w'
  | .ret=>e = .ret/\Cfg P gl G' s'.h s'.t a' w'
  | .pan pv=>∃v,e = .panic [{ v,recovered:=false}]/\Cfg P gl G' s'.h s'.t a' w'/\G'.V pv v
theorem Fin.of_ext {n m:Nat} {ds:List Deferred} {x:Ex} {s':St} {e:Exit} {a':Act} (E:n <= m) (he:Ext n G w G' w') {B:World} (hf:Fin P gl m G' w' ds x s' e a' B):Fin P gl n G w ds x s' e a' B:=
 let ⟨G'',h1,h2⟩:=hf
 ⟨G'',he.trans E h1,h2⟩
theorem qbO {ops:Array Oper} {o:Oper} {ao:qaq} (ht:qaV G w t a.tmps) (B:qb6 P gl ops o = some ao) {b:Bool} (hw:wanted t ao.guard = some b) :
  qck P gl o = some ao.op/\ao.dst = o.dst/\Region.wanted o (yielded ops a.tmps) = b:=by
 simp only [qb6] at B
 obtain ⟨op,hop,B⟩:=qA B
 cases hg:o.guard with
 | none=>
  simp only [hg] at B
  cases B
  simp only [wanted,jl] at hw
  exact ⟨hop,rfl,by simp [Region.wanted,hg,hw]⟩
 | some jb=>
  obtain ⟨j,want⟩:=jb
  simp only [hg] at B
  obtain ⟨d,hd,B⟩:=qA B
  cases B
  refine ⟨hop,rfl,?_⟩
  simp only [wanted] at hw
  have hv:=ht.get d
  simp only [Region.wanted,hg,yielded,hd,Option.bind_some]
  have I:=ht.length
  split at hw
  ·rename_i c hc
   rw [hc] at hv
   simp only [qc.V,qC] at hv
   cases hw
   have E:d < a.tmps.size:=by
    rcases Nat.lt_or_ge d a.tmps.size with h | h
    ·exact h
    ·rw [Array.getD_eq_getD_getElem?,jP h] at hv;simp [undef] at hv
   rw [Array.getD_eq_getD_getElem?,Array.getElem?_eq_getElem E,Option.getD_some] at hv
   rw [Array.getElem?_eq_getElem E,hv]
   rfl
  ·rename_i hc
   rw [hc] at hv
   simp only [qc.V,qC,qg] at hv
   obtain ⟨x,hv,_⟩:=hv
   cases hw
   rw [Array.getD_eq_getD_getElem?] at hv
   cases hx:a.tmps[d]? with
   | none=>rfl
   | some y=>rw [hx] at hv;simp at hv;subst hv;rfl
  ·cases hw
def qB6 (P:Program) (gl:Nat->Option (List qa)) (ops:Array Oper):List Nat->List qaq->Prop
 | [],[]=>True
 | i :: l,ao :: os=>(∃o,ops[i]? = some o/\qb6 P gl ops o = some ao)/\qB6 P gl ops l os
 | _,_=>False
theorem qcR (hc:Cfg P gl G h t a w) (dst:Option Nat):Cfg P gl G h (AE.put dst (.tup []) t) (a.put dst undef) w:=
 hc.put dst (by simp [qc.V,qC,qg,undef]) rfl
theorem qrq {call:AE.Call} (a1:qcc P gl call) (hk:qZ call) {ops:Array Oper} {base:Nat} {ro:Option Nat} {m:Nat} {x:Ex} {s':St} :
  ∀(l:List Nat) (os:List qaq),qB6 P gl ops l os->∀(G:qc) (w:World) (h:List qb) (t:List qa) (e:Bool) (a:Act) (p:qcD),Cfg P gl G h t a w->qbv G w t a p->base <= h.length->
   qa2 base call p os ⟨t,h,e⟩ = some (x,s')->∀(Q:Exit->Act->World->Prop),(∀ex a' w',Fin P gl h.length G w a.defers x s' ex a' w'->Q ex a' w')->wpOpsIn (FR ro) m P ops Q l a w:=by
 intro l
 induction l with
 | nil=>
  intro os hl G w h t e a p hc hp hb B Q hQ
  cases os with
  | cons _ _=>exact hl.elim
  | nil=>
   simp only [qa2] at B
   cases B
   exact hQ _ _ _ ⟨G,Ext.refl _ G w,rfl,rfl,hc⟩
 | cons i l ih=>
  intro os hl G w h t e a p hc hp hb B Q hQ
  cases os with
  | nil=>exact hl.elim
  | cons ao os=>
   obtain ⟨⟨o,ho,a8⟩,hl⟩:=hl
   simp only [wpOpsIn,ho]
   simp only [qa2] at B
   split at B
   ·rename_i hw
    obtain ⟨S,E,I⟩:=qbO hc.tr a8 hw
    rw [if_pos I]
    simp only [E] at B
    cases hop:qv base call p o.dst ao.op ⟨t,h,e⟩ with
    | none=>rw [hop] at B;cases B
    | some r=>
     obtain ⟨x1,s1⟩:=r
     have M:h.length <= s1.h.length:=(qb4 (base:=base) hk hb hop).1
     refine qe3 a1 hk hc hp S hop (λhx u w' G' he ad ab a6 a7=>?_) (λpv hx v w' G' he ac hv=>?_)
     ·subst hx
      rw [hop] at B
      simp only at B
      have J:qbv G' w' s1.t (a.put o.dst u) (qaY p ao):=by
       have hq:ao.op.effs = false->ao.op.acts = false:=by cases ao.op <;> simp [AOp.effs,AOp.acts]
       rw [<-E]
       by_cases U:ao.op.effs = false
       ·obtain ⟨_,v,hv,_⟩:=qdo U hop
        exact hp.next (v:=v) (λ_=>by rw [E];exact hv) he.gk (λh=>ab (hq h)) a6 a7
       ·exact hp.next (v:=.undef) (λh=>absurd h U) he.gk (λh=>absurd h U) a6 a7
      refine ih os hl G' w' s1.h s1.t s1.e (a.put o.dst u) (qaY p ao) ad J (jp hb M) B Q λex ae aa hf=>hQ _ _ _ ?_
      rw [qb2] at hf
      exact Fin.of_ext M he hf
     ·subst hx
      rw [hop] at B
      simp only at B
      cases B
      exact hQ _ _ _ ⟨G',he,rfl,v,rfl,ac,hv⟩
   ·rename_i hw
    obtain ⟨S,E,I⟩:=qbO hc.tr a8 hw
    rw [if_neg (by rw [I];simp)]
    refine ⟨λ_ _=>trivial,?_⟩
    simp only [E] at B
    have J:qbv G w (AE.put o.dst (.tup []) t) (a.put o.dst undef) (qaY p { ao with op:=.pick (.c .undef) (.c .undef) (.c .undef)}):=by
     rw [<-E]
     exact hp.next (o:={ ao with op:=.pick (.c .undef) (.c .undef) (.c .undef)}) (v:=.tup []) (λ_=>rfl) (λ_ _ h=>h) (λ_ _ _=>rfl) (λ_ h=>by cases h) (λ_ _ _ h=>by cases h)
    refine ih os hl G w h _ e _ _ (qcR hc o.dst) (by simpa only [E] using J) hb (by simpa only [E] using B) Q λex ae aa hf=>hQ _ _ _ ?_
    rwa [qb2] at hf
   ·cases B
end
mutual
theorem beq_eq:∀(a b:qa),qa.beq a b = true->a = b
 | .undef,b,h=>by cases b <;> simp_all [qa.beq]
 | .bool _,b,h=>by cases b <;> simp_all [qa.beq]
 | .int _ _,b,h=>by cases b <;> simp_all [qa.beq]
 | .str _,b,h=>by cases b <;> simp_all [qa.beq]
 | .nilptr,b,h=>by cases b <;> simp_all [qa.beq]
 | .ptr _ _,b,h=>by cases b <;> simp_all [qa.beq]
 | .iptr x o,b,h=>by
  cases b <;> simp only [qa.beq,jm,beq_iff_eq,jn] at h
  obtain ⟨h1,h2⟩:=h
  rw [h1,qcU _ _ h2]
 | .lst x f,b,h=>by
  cases b <;> simp only [qa.beq,jm,beq_iff_eq,jn] at h
  obtain ⟨h1,h2⟩:=h
  rw [h1,qcU _ _ h2]
 | .nilfunc,b,h=>by cases b <;> simp_all [qa.beq]
 | .fn f x y,b,h=>by
  cases b <;> simp only [qa.beq,jm,beq_iff_eq,jn] at h
  obtain ⟨⟨h1,h2⟩,h3⟩:=h
  rw [h1,qcU _ _ h2,qcU _ _ h3]
 | .yld _,b,h=>by cases b <;> simp_all [qa.beq]
 | .niliface,b,h=>by cases b <;> simp_all [qa.beq]
 | .iface t x,b,h=>by
  cases b <;> simp only [qa.beq,jm,beq_iff_eq,jn] at h
  obtain ⟨h1,h2⟩:=h
  rw [h1,beq_eq _ _ h2]
 | .agg x,b,h=>by
  cases b <;> simp only [qa.beq,jn] at h
  rw [qcU _ _ h]
 | .tup x,b,h=>by
  cases b <;> simp only [qa.beq,jn] at h
  rw [qcU _ _ h]
 | .sl _ _ _ _ _,b,h=>by
  cases b <;> simp only [qa.beq,jm,beq_iff_eq,jn] at h
  obtain ⟨⟨⟨⟨rfl,rfl⟩,rfl⟩,rfl⟩,rfl⟩:=h
  rfl
 | .mp _,b,h=>by cases b <;> simp_all [qa.beq]
 | .nilmap,b,h=>by cases b <;> simp_all [qa.beq]
 | .nils,b,h=>by cases b <;> simp_all [qa.beq]
 | .empt,b,h=>by cases b <;> simp_all [qa.beq]
theorem qcU:∀(as bs:List qa),qiv as bs = true->as = bs
 | [],bs,h=>by cases bs <;> simp_all [qiv]
 | a :: as,bs,h=>by
  cases bs with
  | nil=>simp [qiv] at h
  | cons b bs=>
   simp only [qiv,jm] at h
   rw [beq_eq _ _ h.1,qcU _ _ h.2]
end
theorem qoq:∀{a b:List (Nat×qa×qa)},qzR a b = true->a = b
 | [],b,h=>by cases b <;> simp_all [qzR]
 | x :: xs,b,h=>by
  cases b with
  | nil=>simp [qzR] at h
  | cons y ys=>
   simp only [qzR,jm,beq_iff_eq] at h
   obtain ⟨⟨⟨h1,h2⟩,h3⟩,h4⟩:=h
   obtain ⟨x1,x2,x3⟩:=x
   obtain ⟨y1,y2,y3⟩:=y
   simp only at h1 h2 h3
   rw [h1,beq_eq _ _ h2,beq_eq _ _ h3,qoq h4]
theorem qb.beq_eq {a b:qb} (h:a.beq b = true):a = b:=by
 cases a <;> cases b <;> simp only [qb.beq,jm,beq_iff_eq,jn] at h
 ·rw [qcU _ _ h]
 ·rw [h.1,qoq h.2]
 ·obtain ⟨⟨⟨h1,rfl⟩,rfl⟩,rfl⟩:=h
  rw [AE.beq_eq _ _ h1]
 ·rfl
theorem qop:∀{a b:List qb},qzQ a b = true->a = b
 | [],b,h=>by cases b <;> simp_all [qzQ]
 | x :: xs,b,h=>by
  cases b with
  | nil=>simp [qzQ] at h
  | cons y ys=>
   simp only [qzQ,jm] at h
   rw [qb.beq_eq h.1,qop h.2]
def Chk.Holds (h:List qb):Chk->Prop
 | .ld a k v=>qcl h a k = some v
 | .box id cs=>h[id]? = some (.cells cs)
 | .lk sh z ok m key v=>qlG h sh z ok m key = some v
theorem Chk.holds_of_ok {h:List qb} {c:Chk} (hc:c.ok h = true):c.Holds h:=by
 cases c with
 | ld a k v=>
  simp only [Chk.ok] at hc
  split at hc
  ·rename_i w hw
   simp only [Chk.Holds,hw,beq_eq _ _ hc]
  ·cases hc
 | box id cs=>
  simp only [Chk.ok] at hc
  split at hc
  ·rename_i ds hd
   simp only [Chk.Holds,hd,qcU _ _ hc]
  ·cases hc
 | lk sh z ok m key v=>
  simp only [Chk.ok] at hc
  split at hc
  ·rename_i w hw
   simp only [Chk.Holds,hw,beq_eq _ _ hc]
  ·cases hc
theorem qkD {h g:List qb} {a:qa} {k:Option Nat} {v:qa} (hl:qcl h a k = some v):qcl (h ++ g) a k = some v:=by
 unfold qcl at hl ⊢
 split at hl
 ·rename_i i o
  split at hl
  ·rename_i cs B
   rw [ja (je.1 B).1,B]
   exact hl
  ·cases hl
 ·exact hl
 ·cases hl
theorem qhY {h g:List qb} {m:qa} {es:List (Nat×qa×qa)} (he:qlu h m = some es):qlu (h ++ g) m = some es:=by
 unfold qlu at he ⊢
 split at he
 ·exact he
 ·split at he
  ·rename_i hid
   simp only [ja (je.1 hid).1,hid]
   exact he
  ·cases he
 ·cases he
theorem qkG {h g:List qb} {sh:qgj} {z:qa} {ok:Bool} {m key v:qa} (hl:qlG h sh z ok m key = some v):qlG (h ++ g) sh z ok m key = some v:=by
 unfold qlG at hl ⊢
 split at hl
 ·rename_i es he
  rw [qhY he]
  exact hl
 ·cases hl
theorem Chk.Holds.append {h g:List qb} {c:Chk} (hc:c.Holds h):c.Holds (h ++ g):=by
 cases c with
 | ld a k v=>exact qkD hc
 | box id cs=>
  simp only [Chk.Holds] at hc ⊢
  rw [ja (je.1 hc).1,hc]
 | lk sh z ok m key v=>exact qkG hc
section
variable {t t':List qa}
def qcH (t t':List qa) (l:List Nat):Prop:=∀i ∈ l,(t.getD i .undef).dim = (t'.getD i .undef).dim
theorem qcH.left {l m:List Nat} (h:qcH t t' (l ++ m)):qcH t t' l:=λi hi=>h i (List.mem_append_left _ hi)
theorem qcH.right {l m:List Nat} (h:qcH t t' (l ++ m)):qcH t t' m:=λi hi=>h i (List.mem_append_right _ hi)
theorem qcH.ev {x:qh} (h:qcH t t' x.slot):ev t x = ev t' x:=by
 cases x with
 | c _=>rfl
 | t i=>exact h i (by simp [qh.slot])
theorem qcH.evs:∀{xs:List qh},qcH t t' (qe8 xs)->xs.map (AE.ev t) = xs.map (AE.ev t')
 | [],_=>rfl
 | x :: xs,h=>by
  simp only [qe8] at h
  rw [List.map_cons,List.map_cons,h.left.ev,qcH.evs h.right]
theorem qcH.bound {x:Option qh} {d:Nat} (h:qcH t t' (qzr x)):bound t x d = bound t' x d:=by
 cases x with
 | none=>rfl
 | some x=>simp only [AE.bound,qcH.ev (x:=x) h]
theorem qcH.parts3 {ps:List (Nat×Nat×qh)} (h:qcH t t' (qe8 (ps.map (·.2.2)))):(ps.map λ(o,s,x)=>(o,s,AE.ev t x)) = ps.map λ(o,s,x)=>(o,s,AE.ev t' x):=by
 induction ps with
 | nil=>rfl
 | cons p ps ih=>
  simp only [List.map_cons,qe8] at h
  simp only [List.map_cons]
  rw [ih h.right,qcH.ev h.left]
theorem qcH.parts2 {k:Nat} {ps:List (Nat×qh)} (h:qcH t t' (qe8 (ps.map (·.2)))):(ps.map λ(i,x)=>(i * k,k,AE.ev t x)) = ps.map λ(i,x)=>(i * k,k,AE.ev t' x):=by
 induction ps with
 | nil=>rfl
 | cons p ps ih=>
  simp only [List.map_cons,qe8] at h
  simp only [List.map_cons]
  rw [ih h.right,qcH.ev h.left]
theorem qcH.pureV {o:AOp} (h:qcH t t' o.looks):pureV t o = pureV t' o:=by
 cases o <;> simp only [AOp.looks] at h <;> simp only [AE.pureV]
 case pick=>rw [h.left.left.ev,h.left.right.ev,h.right.ev]
 case build=>rw [h.parts3]
 case list=>rw [h.parts2]
 case mkF=>rw [h.left.evs,h.right.evs]
 case subS=>rw [h.left.left.ev,h.left.right.bound];simp only [h.right.bound]
 case subL=>rw [h.left.left.ev,h.left.right.bound];simp only [h.right.bound]
 case len b x=>cases b <;> simp only [h.ev]
 all_goals first
  | rfl
  | rw [h.ev]
  | rw [h.left.ev,h.right.ev]
theorem qcH.wanted {j:Nat} {b:Bool} (h:qcH t t' [j]):wanted t (some (j,b)) = wanted t' (some (j,b)):=by
 have h:=h j (by simp)
 have key:∀v:qa,(match v with | .bool c=>some (c == b) | .tup []=>some false | _=>none) = (match v.dim with | .bool c=>some (c == b) | .tup []=>some false | _=>none):=by
  intro v
  cases v <;> try rfl
  rename_i xs f
  cases f <;> rfl
 simp only [AE.wanted]
 exact (key (t.getD j .undef)).trans (by rw [h];exact (key _).symm)
theorem qaq.want_looks {o:qaq} (h:qcH t t' o.looks):AE.wanted t o.guard = AE.wanted t' o.guard/\qcH t t' o.op.looks:=by
 unfold qaq.looks at h
 split at h
 ·rename_i j b hg
  rw [hg]
  exact ⟨qcH.wanted (λi hi=>h i (by simp at hi;simp [hi])),λi hi=>h i (jN _ hi)⟩
 ·rename_i hg
  rw [hg]
  exact ⟨rfl,h⟩
end
section
variable {ms:List Nat} {t:List qa}
theorem qcn (i:Nat):(qcs ms t)[i]? = (t[i]?).map λx=>if ms.contains i then qa.undef else x:=by simp [qcs]
theorem qb1:(qcs ms t).length = t.length:=by simp [qcs]
theorem qic:qcs [] t = t:=by
 apply jT
 intro i
 rw [qcn]
 simp
theorem qe1 {i:Nat} (hi:i ∉ ms):(qcs ms t).getD i .undef = t.getD i .undef:=by
 rw [List.getD_eq_getElem?_getD,List.getD_eq_getElem?_getD,qcn]
 simp [hi]
theorem qid {i:Nat} {v:qa} (hi:i ∉ ms):(qcs ms t).set i v = qcs ms (t.set i v):=by
 have hc:ms.contains i = false:=by simpa using hi
 apply jT
 intro j
 rw [qcn,List.getElem?_set,List.getElem?_set,qcn,qb1]
 by_cases e:i = j
 ·subst e
  by_cases hl:i < t.length <;> simp [hl,hi]
 ·simp [e]
theorem qgc {x:qh} (h:∀i ∈ x.slot,i ∉ ms):raw (qcs ms t) x = raw t x:=by
 cases x with
 | c _=>rfl
 | t i=>exact qe1 (h i (by simp [qh.slot]))
theorem qhZ {x:qh} (h:∀i ∈ x.slot,i ∉ ms):ev (qcs ms t) x = ev t x:=by simp only [ev,qgc h]
theorem qcP {dst:Option Nat} {v:qa} (h:∀d,dst = some d->d ∉ ms):AE.put dst v (qcs ms t) = qcs ms (AE.put dst v t):=by
 cases dst with
 | none=>rfl
 | some d=>exact qid (h d rfl)
theorem qfI {x:qh} (h:∀i ∈ x.slot,i ∉ ms):qaR (qcs ms t) x = qcs ms (qaR t x):=by
 cases x with
 | c _=>rfl
 | t i=>
  have hi:=h i (by simp [qh.slot])
  simp only [qaR,qe1 hi]
  split
  ·exact qid hi
  ·rfl
theorem qe7 {l:List Nat} (h:∀i ∈ l,i ∉ ms):qcH (qcs ms t) t l:=λi hi=>by rw [qe1 (h i hi)]
theorem qn1 {k:Nat} {x:qh} {h:List qb} {e:Bool} (hx:∀i ∈ x.slot,i ∉ ms):qdO k [] x ⟨qcs ms t,h,e⟩ = (qdO k [] x ⟨t,h,e⟩).map λr=>(r.1,{ r.2 with t:=qcs ms r.2.t}):=by
 cases x with
 | c _=>rfl
 | t i=>
  have hi:=hx i (by simp [qh.slot])
  simp only [qdO,qe1 hi]
  split
  ·split
   ·simp only [jO,qid hi]
   ·rfl
  ·rfl
theorem qhH {base:Nat} {call:AE.Call} {dst:Option Nat} {o:AOp} {h:List qb} {e:Bool} (B:o.effs = true) (hl:∀i ∈ o.looks,i ∉ ms) (hd:∀d,dst = some d->d ∉ ms) :
  qv base call [] dst o ⟨qcs ms t,h,e⟩ = (qv base call [] dst o ⟨t,h,e⟩).map λr=>(r.1,{ r.2 with t:=qcs ms r.2.t}):=by
 cases o <;> simp only [AOp.effs,jn] at B <;> simp only [AOp.looks] at hl <;> simp only [qv]
 case asg x=>
  simp only [jO,qgc hl,qfI hl,qcP hd]
 case st k a x=>
  have h1:∀i ∈ a.slot,i ∉ ms:=λi hi=>hl i (List.mem_append_left _ hi)
  have h2:∀i ∈ x.slot,i ∉ ms:=λi hi=>hl i (List.mem_append_right _ hi)
  rw [qhZ h1,qgc h2,qfI h2,qcP hd]
  split
  ·split
   ·cases k <;> simp only <;> split <;> rfl
   ·rfl
  ·rfl
 case call f as=>
  have h1:∀i ∈ f.slot,i ∉ ms:=λi hi=>hl i (List.mem_append_left _ hi)
  have h2:∀i ∈ qe8 as,i ∉ ms:=λi hi=>hl i (List.mem_append_right _ hi)
  rw [qhZ h1,(qe7 h2).evs]
  split <;> simp only [jO,qcP hd,Option.map_none]
 case app k x y=>
  have h1:∀i ∈ x.slot,i ∉ ms:=λi hi=>hl i (List.mem_append_left _ hi)
  have h2:∀i ∈ y.slot,i ∉ ms:=λi hi=>hl i (List.mem_append_right _ hi)
  rw [qhZ h2,qgc h1]
  split
  ·split
   ·simp only [jO,qcP hd]
   ·split
    ·split
     ·simp only [jO,qcP hd]
     ·rw [qn1 h1]
      cases ht:qdO k [] x ⟨t,h,e⟩ with
      | none=>rfl
      | some r=>
       obtain ⟨xs,s⟩:=r
       simp only [jO]
       split
       ·simp only [jO,qcP hd]
       ·rfl
    ·rfl
  ·rfl
 case pan x=>
  rw [qhZ hl]
  split <;> rfl
 case hx k as=>
  rw [(qe7 hl).evs]
  cases hop base k (as.map (ev t)) h with
  | none=>rfl
  | some r=>simp only [jO,qcP hd]
theorem qg7 {i k:Nat} {xs:List qa} {j:Nat} (h:t.getD i .undef = .lst xs (.own j)):((t.set i (.lst xs .no)).getD k .undef).dim = (t.getD k .undef).dim:=by
 by_cases e:i = k
 ·subst e
  have hi:i < t.length:=by
   rcases Nat.lt_or_ge i t.length with h' | h'
   ·exact h'
   ·rw [List.getD_eq_getElem?_getD,jt h'] at h;cases h
  rw [h,List.getD_eq_getElem?_getD,jh hi]
  rfl
 ·rw [List.getD_eq_getElem?_getD,jg e,<-List.getD_eq_getElem?_getD]
theorem qfH {x:qh} {k:Nat}:((qaR t x).getD k .undef).dim = (t.getD k .undef).dim:=by
 cases x with
 | c _=>rfl
 | t i=>
  simp only [qaR]
  split
  ·rename_i xs j hx
   exact qg7 hx
  ·rfl
theorem qee {x:qh} {k:Nat} (hk:k ∉ x.slot):(qaR t x)[k]? = t[k]?:=by
 cases x with
 | c _=>rfl
 | t i=>
  have:i ≠ k:=λe=>hk (by simp [qh.slot,e])
  simp only [qaR]
  split
  ·rw [jg this]
  ·rfl
theorem qef {x:qh}:(qaR t x).length = t.length:=by
 cases x with
 | c _=>rfl
 | t i=>simp only [qaR];split <;> simp
theorem put_get_ne {dst:Option Nat} {v:qa} {k:Nat} (h:dst ≠ some k):(AE.put dst v t)[k]? = t[k]?:=by
 cases dst with
 | none=>rfl
 | some d=>
  have:d ≠ k:=λe=>h (by rw [e])
  simp [AE.put,jg this]
theorem qbA {dst:Option Nat} {v:qa}:(AE.put dst v t).length = t.length:=by cases dst <;> simp [AE.put]
theorem qk8 {k:Nat} {x:qh} {s s':St} {xs:List qa} (h:qdO k [] x s = some (xs,s')):(∃i,x = .t i/\∃j,s.t.getD i .undef = .lst xs (.own j)/\s'.t = s.t.set i (.lst xs .no))/\s'.h = s.h/\s'.e = s.e:=by
 cases x with
 | c _=>cases h
 | t i=>
  simp only [qdO] at h
  split at h
  ·rename_i ys j hy
   split at h
   ·cases h;exact ⟨⟨i,rfl,j,hy,rfl⟩,rfl,rfl⟩
   ·cases h
  ·cases h
theorem qa4 {t t':List qa} {k:Nat} (h:t'[k]? = t[k]?):t'.getD k .undef = t.getD k .undef:=by
 rw [List.getD_eq_getElem?_getD,List.getD_eq_getElem?_getD,h]
theorem qg2 {base:Nat} {call:AE.Call} {dst:Option Nat} {o:AOp} {s s':St} (h:qv base call [] dst o s = some (.nor,s')) :
  s'.t.length = s.t.length/\∀k,dst ≠ some k->(s'.t.getD k .undef).dim = (s.t.getD k .undef).dim/\(k ∉ o.looks->s'.t[k]? = s.t[k]?):=by
 cases B:o.effs with
 | false=>
  obtain ⟨_,v,hv,_⟩:=qdo B h
  rw [hv]
  exact ⟨qbA,λk hk=>⟨by rw [qa4 (put_get_ne hk)],λ_=>put_get_ne hk⟩⟩
 | true=>
  cases o <;> simp only [AOp.effs,jn] at B <;> simp only [qv] at h
  case asg x=>
   cases h
   refine ⟨by rw [qbA,qef],λk hk=>⟨by rw [qa4 (put_get_ne hk),qfH],λhl=>?_⟩⟩
   rw [put_get_ne hk,qee hl]
  case st k0 a x=>
   split at h
   ·split at h
    ·have key:s'.t = AE.put dst .undef (qaR s.t x):=by
      cases k0 <;> simp only at h <;> split at h <;> first | (cases h;done) | (cases h;rfl)
     rw [key]
     refine ⟨by rw [qbA,qef],λk hk=>⟨by rw [qa4 (put_get_ne hk),qfH],λhl=>?_⟩⟩
     rw [put_get_ne hk,qee (λhx=>hl (by simp only [AOp.looks];exact List.mem_append_right _ hx))]
    ·cases h
   ·cases h
  case call f as=>
   split at h
   ·cases h
    exact ⟨qbA,λk hk=>⟨by rw [qa4 (put_get_ne hk)],λ_=>put_get_ne hk⟩⟩
   ·cases h
   ·cases h
  case app k0 x y=>
   split at h
   ·split at h
    ·cases h
     exact ⟨qbA,λk hk=>⟨by rw [qa4 (put_get_ne hk)],λ_=>put_get_ne hk⟩⟩
    ·split at h
     ·split at h
      ·cases h
       exact ⟨qbA,λk hk=>⟨by rw [qa4 (put_get_ne hk)],λ_=>put_get_ne hk⟩⟩
      ·split at h
       ·rename_i xs s1 E
        split at h
        ·cases h
         obtain ⟨⟨i,rfl,j,h1,h2⟩,_⟩:=qk8 E
         refine ⟨by simp [qbA,h2],λk hk=>⟨by rw [qa4 (put_get_ne hk)];simp only [h2];exact qg7 h1,λhl=>?_⟩⟩
         rw [put_get_ne hk]
         simp only [h2]
         rw [jg]
         rintro rfl
         exact hl (by simp [AOp.looks,qh.slot])
        ·cases h
       ·cases h
     ·cases h
   ·cases h
  case pan x=>
   split at h
   ·cases h
   ·cases h
  case hx k0 as=>
   obtain ⟨r,_,he⟩:=qcf h
   cases he
   exact ⟨qbA,λk hk=>⟨by rw [qa4 (put_get_ne hk)],λ_=>put_get_ne hk⟩⟩
end
section
variable {P:Program} {gl:Nat->Option (List qa)} {G G':qc} {w w':World} {h:List qb} {t t':List qa} {a:Act} {n:Nat}
theorem qaV.poison {ts:Array Value} (hr:qaV G w t ts) (hl:t'.length = t.length) (h:∀(i:Nat) (y:qa),t'[i]? = some y->t[i]? = some y\/y = .undef):qaV G w t' ts:=by
 refine ⟨qg.of_get (by rw [hl];exact hr.rel.length) λi x v hx hv=>?_,λi xs k v hx hv=>?_⟩
 ·rcases h i x hx with h1 | rfl
  ·obtain ⟨u,hu,B⟩:=hr.rel.get h1
   rw [hv] at hu
   cases hu
   exact B
  ·obtain ⟨y,_,B⟩:=hr.rel.get' hv
   exact qsF B
 ·rcases h i _ hx with h1 | h1
  ·exact hr.own i xs k v h1 hv
  ·cases h1
theorem Rel.grow (hr:Rel P gl G h w) (g:List qb):Rel P gl G (h ++ g) w where
 γlt i b hb:=⟨jq (hr.γlt i b hb).1 (by simp),(hr.γlt i b hb).2⟩
 inj i j b hi hj:=by
  rw [ja (hr.γlt i b hi).1,ja (hr.γlt j b hj).1]
  exact hr.inj i j b hi hj
 box i b bx hb hx:=hr.box i b bx hb (by rwa [ja (hr.γlt i b hb).1] at hx)
 imm:=hr.imm
 immγ b o v i hv hm hg:=by rw [ja (hr.γlt i b hg).1];exact hr.immγ b o v i hv hm hg
 immK:=hr.immK
 ow:=hr.ow
 glob:=hr.glob
def msk (U:List (qN×Option Nat)):List Nat:=U.filterMap (·.1.o.dst)
theorem qdI {U:List (qN×Option Nat)} {k:Nat}:k ∈ msk U↔∃x ∈ U,x.1.o.dst = some k:=by simp [msk,List.mem_filterMap]
def qsT (t:List qa) (o:AOp) (cs:List qa):Prop:=
 (∃z,o = .new z/\cs = z.map qa.dim)\/∃k y,o = .box k y/\cs = (ev t y).cells.map qa.dim/\cs.all qa.storable = true
structure Lag (G:qc) (n:Nat) (pend:List (Nat×Chk)) (s:St) (x:qN×Option Nat):Prop where
 quiet:x.1.o.op.effs = false
 does:(wanted s.t x.1.o.guard = some false/\x.2 = none/\∀k y,x.1.o.dst = some k->s.t[k]? = some y->y = .tup [])\/
  (wanted s.t x.1.o.guard = some true/\∃v,(∀k y,x.1.o.dst = some k->s.t[k]? = some y->y = v)/\
   ((x.2 = none/\pureV s.t x.1.o.op = some v)\/
    (x.2 = none/\∃k q,x.1.o.op = .ld k q/\(x.1.ix,Chk.ld (ev s.t q) k v) ∈ pend/\qcl s.h (ev s.t q) k = some v)\/
    (x.2 = none/\∃sh z ok m key,x.1.o.op = .lk sh z ok m key/\(x.1.ix,Chk.lk sh z ok (ev s.t m) (ev s.t key) v) ∈ pend/\qlG s.h sh z ok (ev s.t m) (ev s.t key) = some v)\/
    (∃id cs,x.2 = some id/\v = .ptr id 0/\qsT s.t x.1.o.op cs/\(x.1.ix,Chk.box id cs) ∈ pend/\s.h[id]? = some (.cells cs))))
 young:∀id,x.2 = some id->n <= id/\id < s.h.length/\G.γ id = none
theorem Lag.keep {pend B:List (Nat×Chk)} {s s':St} {x:qN×Option Nat} (hx:Lag G n pend s x) (h1:qcH s.t s'.t x.1.o.looks) (h2:∀k,x.1.o.dst = some k->s'.t[k]? = s.t[k]?)
  (h3:∀c,(x.1.ix,c) ∈ pend->c.Holds s.h->(x.1.ix,c) ∈ B/\c.Holds s'.h) (h4:∀id,x.2 = some id->id < s.h.length->G.γ id = none->id < s'.h.length/\G'.γ id = none):Lag G' n B s' x:=by
 obtain ⟨hg,hl⟩:=qaq.want_looks h1
 refine ⟨hx.quiet,?_,λid hid=>?_⟩
 ·rcases hx.does with ⟨d1,d2,d3⟩ | ⟨d1,v,d2,d3⟩
  ·exact .inl ⟨by rw [<-hg];exact d1,d2,λk y hk hy=>d3 k y hk (by rw [<-h2 k hk];exact hy)⟩
  ·refine .inr ⟨by rw [<-hg];exact d1,v,λk y hk hy=>d2 k y hk (by rw [<-h2 k hk];exact hy),?_⟩
   rcases d3 with ⟨e1,e2⟩ | ⟨e0,k,q,e1,e2,e3⟩ | ⟨e0,sh,z,ok,m,key,e1,e2,e3⟩ | ⟨id,cs,e1,e2,e3,e4,e5⟩
   ·exact .inl ⟨e1,by rw [<-hl.pureV];exact e2⟩
   ·have hq:ev s.t q = ev s'.t q:=by rw [e1] at hl;exact qcH.ev hl
    obtain ⟨g1,g2⟩:=h3 _ e2 e3
    rw [hq] at g1 g2
    exact .inr (.inl ⟨e0,k,q,e1,g1,g2⟩)
   ·have hm:ev s.t m = ev s'.t m:=by rw [e1] at hl;exact qcH.ev hl.left
    have hk:ev s.t key = ev s'.t key:=by rw [e1] at hl;exact qcH.ev hl.right
    obtain ⟨g1,g2⟩:=h3 _ e2 e3
    rw [hm,hk] at g1 g2
    exact .inr (.inr (.inl ⟨e0,sh,z,ok,m,key,e1,g1,g2⟩))
   ·obtain ⟨g1,g2⟩:=h3 _ e4 e5
    refine .inr (.inr (.inr ⟨id,cs,e1,e2,?_,g1,g2⟩))
    rcases e3 with e3 | ⟨k,y,f1,f2,f3⟩
    ·exact .inl e3
    ·have hq:ev s.t y = ev s'.t y:=by rw [f1] at hl;exact qcH.ev hl
     exact .inr ⟨k,y,f1,by rw [<-hq];exact f2,f3⟩
 ·obtain ⟨g1,g2,g3⟩:=hx.young id hid
  exact ⟨g1,h4 id hid g2 g3⟩
def qzO (x y:qN):Prop:=(∀d,y.o.dst = some d->d ∈ x.o.looks->x.cl.testBit y.ix = true)/\(∀d,y.o.dst = some d->x.o.dst ≠ some d)
theorem qkM {x y:qN} (h:qdt x y = true) (hx:x.o.op.effs = false) (hy:y.o.op.effs = false):qzO x y/\qzO y x/\x.ix ≠ y.ix:=by
 simp only [qdt,jm,bne_iff_ne,ne_eq,Bool.or_eq_true,hx,hy,Bool.not_false,Bool.true_and,jQ,jn,false_or] at h
 obtain ⟨⟨h1,h2⟩,h3⟩:=h
 refine ⟨⟨λd hd hl=>?_,λd hd he=>?_⟩,⟨λd hd hl=>?_,λd hd he=>?_⟩,h1⟩
 ·rw [hd] at h3;simp at h3;exact absurd hl h3.1
 ·rw [hd] at h3;simp at h3;exact absurd he h3.2
 ·rw [hd] at h2
  rcases h2 with h2 | h2
  ·exact h2
  ·simp at h2;exact absurd hl h2
 ·rw [he] at h3;simp at h3;exact absurd hd h3.2
theorem qhD {x y:qN} (h:qdt x y = true) (hn:y.cl.testBit x.ix = false):(∀d,x.o.dst = some d->d ∉ y.o.looks)/\(∀d,y.o.dst = some d->d ∉ x.o.looks/\x.o.dst ≠ some d):=by
 simp only [qdt,jm,bne_iff_ne,ne_eq,Bool.or_eq_true,hn,jn,false_or,and_false,Bool.not_eq_true'] at h
 obtain ⟨⟨h1,h2,B⟩,h3⟩:=h
 refine ⟨λd hd=>?_,λd hd=>?_⟩
 ·rw [hd] at B;simpa using B
 ·rw [hd] at h3;simpa using h3
theorem qjt {U U':List (qN×Option Nat)} {x:qN×Option Nat} {v:qa} (hU:∀y,y ∈ U'↔y ∈ U/\y.1.ix ≠ x.1.ix) (hx:x ∈ U) (E:∀y ∈ U,y.1.ix = x.1.ix->y = x)
  (I:∀y ∈ U,y.1.ix ≠ x.1.ix->qzO y.1 x.1) (hv:∀k y,x.1.o.dst = some k->t[k]? = some y->y = v):AE.put x.1.o.dst v (qcs (msk U) t) = qcs (msk U') t:=by
 have B:∀k,x.1.o.dst ≠ some k->((msk U).contains k = (msk U').contains k):=by
  intro k hk
  rw [Bool.eq_iff_iff]
  simp only [List.contains_iff_mem,qdI]
  constructor
  ·rintro ⟨y,hy,hd⟩
   refine ⟨y,(hU y).2 ⟨hy,λe=>?_⟩,hd⟩
   rw [E y hy e] at hd
   exact hk hd
  ·rintro ⟨y,hy,hd⟩
   exact ⟨y,((hU y).1 hy).1,hd⟩
 apply jT
 intro k
 by_cases hd:x.1.o.dst = some k
 ·rw [hd]
  simp only [AE.put]
  rw [List.getElem?_set,if_pos rfl,qb1,qcn]
  have hc:(msk U').contains k = false:=by
   rw [Bool.eq_false_iff]
   intro hc
   simp only [List.contains_iff_mem,qdI] at hc
   obtain ⟨y,hy,J⟩:=hc
   obtain ⟨h1,h2⟩:=(hU y).1 hy
   exact (I y h1 h2).2 k hd J
  rw [hc]
  by_cases hl:k < t.length
  ·rw [if_pos hl,ji hl]
   simp only [jO,jn,if_false]
   rw [hv k _ hd (ji hl)]
  ·rw [if_neg hl,jt (Nat.le_of_not_lt hl)]
   rfl
 ·rw [put_get_ne hd,qcn,qcn,B k hd]
theorem qys {U:List (qN×Option Nat)} {x:qN×Option Nat} {v:qa} {i:Nat} {y:qa} (hy:(qcs (msk (x :: U)) (AE.put x.1.o.dst v t))[i]? = some y):(qcs (msk U) t)[i]? = some y\/y = .undef:=by
 rw [qcn] at hy ⊢
 by_cases hc:(msk (x :: U)).contains i = true
 ·rw [Option.map_eq_some_iff] at hy
  obtain ⟨z,_,hz⟩:=hy
  rw [if_pos hc] at hz
  exact .inr hz.symm
 ·have hd:x.1.o.dst ≠ some i:=λe=>hc (by simp only [List.contains_iff_mem,qdI];exact ⟨x,jJ ..,e⟩)
  have B:¬(msk U).contains i = true:=λe=>hc (by
   simp only [List.contains_iff_mem,qdI] at e ⊢
   obtain ⟨z,h1,h2⟩:=e
   exact ⟨z,jN _ h1,h2⟩)
  rw [put_get_ne hd] at hy
  simp only [hc,B,jn,if_false] at hy ⊢
  exact .inl hy
theorem quD (hc:Cfg P gl G h t a w) {o:Oper} {ao:AOp} (E:qck P gl o = some ao) {cs:List qa} (S:qsT t ao cs) {id:Nat} (hid:h[id]? = some (.cells cs)) (J:G.γ id = none) (hn:n <= id) :
  ∃u w',(execOp a.eval o).run P w = .ok (.value u) w'/\Ext n G w (G.withBox id w.heap.size) w'/\Cfg P gl (G.withBox id w.heap.size) h (AE.put o.dst (.ptr id 0) t) (a.put o.dst u) w':=by
 have key:∀{I:List qa} {c:Array Value} {e:TypeId},G.VL I c.toList->cs = I.map qa.dim->(execOp a.eval o).run P w = .ok (.value (.pointer (some ⟨w.heap.size,0,none⟩))) (w.alloc (.cells c e))->
   ∃u w',(execOp a.eval o).run P w = .ok (.value u) w'/\Ext n G w (G.withBox id w.heap.size) w'/\Cfg P gl (G.withBox id w.heap.size) h (AE.put o.dst (.ptr id 0) t) (a.put o.dst u) w':=by
  rintro I c e a7 rfl h1
  have B:Ext n G w (G.withBox id w.heap.size) (w.alloc (.cells c e)):=Ext.newBox J hn _
  have M:=hc.rel.newBox (o:=.cells c e) (bx:=.cells (I.map qa.dim)) (h':=h) J (jo _) (je.1 hid).1 (λ_ _ _ _=>rfl) hid
   ⟨c,e,qax w _,qeR (B.VL a7).dims,λo xs k v ho _=>(qji ho).elim⟩
  obtain ⟨m,hm⟩:=qay t
  have a1:qaV (G.withBox id w.heap.size) (w.alloc (.cells c e)) t a.tmps:=
   hc.tr.keep hm B.ik (λi b _=>B.gk i b) (λ_ _ h=>h) (λb i hb=>qaa w _ (hc.rel.ow b _ hb).1) (λ_ _ _ _ h=>h)
  refine ⟨_,_,h1,B,(Cfg.mk M a1).put o.dst ?_ rfl⟩
  simp only [qc.V,qC,qc.withBox,if_true]
  exact ⟨_,rfl,rfl⟩
 rcases S with ⟨z,rfl,hz⟩ | ⟨k,y,rfl,hy,hs⟩
 ·obtain ⟨e,z',ho,U,rfl⟩:=(qb7 E).2.2.2.2.2.1 z rfl
  obtain ⟨u,hu,hr⟩:=qdg U w
  refine key (hr _ _) hz (c:=u.cells) (e:=e) ?_
  simp only [execOp,ho]
  refine qdx ?_
  simp [Instr.alloc,hu,newVar,newRow]
 ·obtain ⟨e,x,ho,hx⟩:=(qb7 E).2.2.2.2.2.2 k y rfl
  have hv:=qah hc.rel hc.tr hx
  have a6:(ev t y).cells.all qa.storable = true:=by
   rw [hy,List.all_map] at hs
   rw [List.all_eq_true] at hs ⊢
   intro z hz
   have:=hs z hz
   cases z <;> first | exact this | rfl
  refine key (qcu hv a6).1 hy (e:=e) ?_
  simp only [execOp,ho]
  refine qdx ?_
  simp [Instr.box,newVar,newRow]
theorem qnR {base:Nat} {call:AE.Call} {p:qcD} {dst:Option Nat} {o:AOp} {s:St} {v:qa} (h:pureV s.t o = some v):qv base call p dst o s = some (.nor,{ s with t:=AE.put dst v s.t}):=by
 cases o <;> first
  | (simp only [qv,h,jO];done)
  | (simp [pureV] at h;done)
theorem qvc {o:AOp} {s:St} {v:qa} (h:pureV s.t o = some v):qeK s o = none:=by
 cases o <;> first
  | rfl
  | (simp [pureV] at h;done)
theorem qi5 {cl:List Nat} {j:Nat}:∀{es:List Nat} {m:Nat},(es.foldl (λm e=>m ||| 1 <<< e ||| cl.getD e 0) m).testBit j = true->m.testBit j = true\/j ∈ es\/∃e ∈ es,(cl.getD e 0).testBit j = true
 | [],m,h=>.inl h
 | e :: es,m,h=>by
  simp only [List.foldl_cons] at h
  rcases qi5 h with h | h | ⟨e',h1,h2⟩
  ·simp only [Nat.testBit_or,Bool.or_eq_true] at h
   rcases h with (h | h) | h
   ·exact .inl h
   ·refine .inr (.inl ?_)
    rw [Nat.one_shiftLeft,Nat.testBit_two_pow] at h
    simp at h
    simp [h]
   ·exact .inr (.inr ⟨e,by simp,h⟩)
  ·exact .inr (.inl (jN _ h))
  ·exact .inr (.inr ⟨e',jN _ h1,h2⟩)
end
structure qip (P:Program) (gl:Nat->Option (List qa)) (ops:Array Oper) (cl:List Nat) (xx:Nat×Nat) (all:List qN):Prop where
 comp:∀d ∈ all,∃o,ops[d.ix]? = some o/\qb6 P gl ops o = some d.o/\d.cl = cl.getD d.ix 0/\d.cl = qux cl (qeO o)
 cover:∀i,i < ops.size->∃d ∈ all,d.ix = i
 order:qfU xx (ops.toList.map qeO) [] all = true
 selfs:∀d ∈ all,qg6 d = true
structure Inv (P:Program) (gl:Nat->Option (List qa)) (ops:Array Oper) (xx:Nat×Nat) (all:List qN) (n:Nat) (listed:Array Bool) (a:Act) (G:qc) (w:World)
  (pre:List qN) (alts:List (List qN)) (U:List (qN×Option Nat)) (pend:List (Nat×Chk)) (s:St):Prop where
 cfg:Cfg P gl G s.h (qcs (msk U) s.t) a w
 lag:∀x ∈ U,Lag G n pend s x
 free:∀x ∈ U,∀y ∈ U,y.1.ix ≠ x.1.ix->qzO y.1 x.1
 uniq:∀x ∈ U,∀y ∈ U,y.1.ix = x.1.ix->y = x
 ids:∀x ∈ U,∀y ∈ U,∀id,x.2 = some id->y.2 = some id->y = x
 inPre:∀x ∈ U,x.1 ∈ pre
 ord:∀ds ∈ alts,qfU xx (ops.toList.map qeO) pre ds = true
 mem:∀ds ∈ alts,∀d,d ∈ all↔(d ∈ pre\/d ∈ ds)
 ne:∃ds,ds ∈ alts
 l1:∀d ∈ pre,listed.getD d.ix false = true\/∃x ∈ U,x.1 = d
 l2:∀x ∈ U,listed.getD x.1.ix true = false
 l3:∀ds ∈ alts,∀d ∈ ds,listed.getD d.ix true = false
 size:listed.size = ops.size
 closed:∀d ∈ all,listed.getD d.ix false = true->∀j,d.cl.testBit j = true->listed.getD j false = true
 hlen:n <= s.h.length
section
variable {P:Program} {gl:Nat->Option (List qa)} {ops:Array Oper} {xx:Nat×Nat} {all:List qN} {alts:List (List qN)} {cl:List Nat} {n:Nat} {listed:Array Bool} {a:Act} {G G':qc} {w w':World}
 {pre ds:List qN} {U:List (qN×Option Nat)} {pend:List (Nat×Chk)} {s:St}
def qkN (xx:Nat×Nat) (a b:qN):Bool:=qdt a b || qmo xx a b
theorem qft {a b:qN} (h:qkN xx a b = true) (ha:a.o.op.effs = false):qdt a b = true:=by
 simp only [qkN,qmo,ha,jQ,Bool.and_false,jR] at h
 exact h
theorem qdL {a b:qN} (h:qkN xx a b = true):a.ix ≠ b.ix:=by
 intro e
 simp [qkN,qdt,qmo,e] at h
theorem qa8 {ess:List (List Nat)} {d:qN} (h:qfU xx ess pre (d :: ds) = true):(∀e ∈ ess.getD d.ix [],∃x ∈ pre,x.ix = e)/\(∀x ∈ pre,qkN xx x d = true)/\qg6 d = true/\qfU xx ess (d :: pre) ds = true:=by
 simp only [qfU,jm,List.all_eq_true,List.any_eq_true,beq_iff_eq] at h
 exact ⟨h.1.1.1,h.1.1.2,h.1.2,h.2⟩
theorem qhC {ess:List (List Nat)}:∀{ds pre:List qN},qfU xx ess pre ds = true->∀d ∈ ds,qg6 d = true
 | [],_,_,d,hd=>by cases hd
 | x :: ds,pre,h,d,hd=>by
  obtain ⟨_,_,h3,h4⟩:=qa8 h
  rcases List.mem_cons.1 hd with rfl | hd
  ·exact h3
  ·exact qhC h4 d hd
theorem qbM {ess:List (List Nat)}:∀{ds pre:List qN} {x:qN},qfU xx ess pre ds = true->x ∈ pre->∀d ∈ ds,qkN xx x d = true
 | [],_,_,_,_,d,hd=>by cases hd
 | y :: ds,pre,x,h,hx,d,hd=>by
  obtain ⟨_,h2,_,h4⟩:=qa8 h
  rcases List.mem_cons.1 hd with rfl | hd
  ·exact h2 x hx
  ·exact qbM h4 (jN _ hx) d hd
theorem Inv.push {d:qN} {B:List (List qN)} (hi:Inv P gl ops xx all n listed a G w pre (B.map (d :: ·)) U pend s) (hq:d.o.op.effs = false) {s1:St} {v:qa} {g:List qb} {E:List (Nat×Chk)} {oid:Option Nat}
  (ht:s1.t = AE.put d.o.dst v s.t) (hh:s1.h = s.h ++ g) (hp:∀c,c ∈ pend->c ∈ E) (J:∀id,oid = some id->s.h.length <= id) (aa:Lag G n E s1 (d,oid)) :
  Inv P gl ops xx all n listed a G w (d :: pre) B ((d,oid) :: U) E s1:=by
 obtain ⟨_,M⟩:=hi.ne
 obtain ⟨rest,S,rfl⟩:=jU.1 M
 have put:∀{r},r ∈ B->(d :: r) ∈ B.map (d :: ·):=λhr=>List.mem_map_of_mem hr
 obtain ⟨af,a8,ae,_⟩:=qa8 (hi.ord _ M)
 have a6:∀x ∈ U,qdt x.1 d = true:=λx hx=>qft (a8 _ (hi.inPre x hx)) (hi.lag x hx).quiet
 have I:∀x ∈ U,qzO x.1 d/\qzO d x.1/\x.1.ix ≠ d.ix:=λx hx=>qkM (a6 x hx) (hi.lag x hx).quiet hq
 have ad:∀x ∈ U,∀k,d.o.dst = some k->k ∉ x.1.o.looks:=λx hx k hk hl=>by
  have a1:=a6 x hx
  simp only [qdt,hk,hq,jm,jQ,jS] at a1
  have:=a1.2.1
  simp at this
  exact this hl
 refine ⟨⟨by rw [hh];exact hi.cfg.rel.grow g,?_⟩,?_,?_,?_,?_,?_,λds hd=>(qa8 (hi.ord _ (put hd))).2.2.2,?_,⟨rest,S⟩,?_,?_,?_,hi.size,hi.closed,by rw [hh];simp;have:=hi.hlen;omega⟩
 ·refine hi.cfg.tr.poison (by rw [qb1,qb1,ht,qbA]) λi y hy=>?_
  rw [ht] at hy
  exact qys (x:=(d,oid)) hy
 ·intro x hx
  rcases List.mem_cons.1 hx with rfl | hx
  ·exact aa
  ·refine (hi.lag x hx).keep (λi hl=>?_) (λk hk=>?_) (λc hc ac=>⟨hp _ hc,?_⟩) (λid _ hlt ab=>⟨by rw [hh];simp;omega,ab⟩)
   ·rw [ht,qa4 (put_get_ne λe=>ad x hx i e hl)]
   ·rw [ht,put_get_ne λe=>(I x hx).1.2 k e hk]
   ·rw [hh];exact ac.append
 ·intro x hx y hy a7
  rcases List.mem_cons.1 hx with rfl | hx <;> rcases List.mem_cons.1 hy with rfl | hy
  ·exact absurd rfl a7
  ·exact (I y hy).1
  ·exact (I x hx).2.1
  ·exact hi.free x hx y hy a7
 ·intro x hx y hy he
  rcases List.mem_cons.1 hx with rfl | hx <;> rcases List.mem_cons.1 hy with rfl | hy
  ·rfl
  ·exact absurd he (I y hy).2.2
  ·exact absurd he.symm (I x hx).2.2
  ·exact hi.uniq x hx y hy he
 ·intro x hx y hy id h1 h2
  rcases List.mem_cons.1 hx with rfl | hx <;> rcases List.mem_cons.1 hy with rfl | hy
  ·rfl
  ·have:=(hi.lag y hy).young id h2
   have:=J id h1
   omega
  ·have:=(hi.lag x hx).young id h1
   have:=J id h2
   omega
  ·exact hi.ids x hx y hy id h1 h2
 ·intro x hx
  rcases List.mem_cons.1 hx with rfl | hx
  ·exact jJ ..
  ·exact jN _ (hi.inPre x hx)
 ·intro ds hd e
  rw [hi.mem _ (put hd) e,List.mem_cons,List.mem_cons]
  constructor
  ·rintro (h1 | h1 | h1)
   ·exact .inl (.inr h1)
   ·exact .inl (.inl h1)
   ·exact .inr h1
  ·rintro ((h1 | h1) | h1)
   ·exact .inr (.inl h1)
   ·exact .inl h1
   ·exact .inr (.inr h1)
 ·intro e he
  rcases List.mem_cons.1 he with rfl | he
  ·exact .inr ⟨(e,oid),jJ ..,rfl⟩
  ·rcases hi.l1 e he with h1 | ⟨x,h1,h2⟩
   ·exact .inl h1
   ·exact .inr ⟨x,jN _ h1,h2⟩
 ·intro x hx
  rcases List.mem_cons.1 hx with rfl | hx
  ·exact hi.l3 _ M d (jJ ..)
  ·exact hi.l2 x hx
 ·exact λds hd e he=>hi.l3 _ (put hd) e (jN _ he)
theorem qjA {d:qN} (hs:qg6 d = true) (hq:d.o.op.effs = false):∀k,d.o.dst = some k->k ∉ d.o.looks:=by
 intro k hk
 simp only [qg6,hq,hk,jS,Bool.not_eq_true',List.contains_eq_mem,decide_eq_false_iff_not] at hs
 exact hs
theorem qlN {d:qN} (hs:qg6 d = true) (hq:d.o.op.effs = false) (v:qa) (t:List qa):qcH t (AE.put d.o.dst v t) d.o.looks:=λi hi=>by
 rw [qa4 (put_get_ne λe=>qjA hs hq i e hi)]
theorem qlO {dst:Option Nat} {v:qa} {t:List qa} {k:Nat} {y:qa} (hk:dst = some k) (hy:(AE.put dst v t)[k]? = some y):y = v:=by
 subst hk
 simp only [AE.put,List.getElem?_set] at hy
 split at hy
 ·split at hy
  ·cases hy;rfl
  ·cases hy
 ·rename_i hh;exact absurd trivial hh
theorem qjR {base:Nat} {call:AE.Call} {dsts:List Nat} {x:Ex} {s':St} {tails:List (List qN)}:∀(c pre:List qN) (U:List (qN×Option Nat)) (pend:List (Nat×Chk)) (s:St),Inv P gl ops xx all n listed a G w pre (tails.map (c ++ ·)) U pend s->base <= s.h.length->
  (∀t ∈ tails,qx base call dsts (c ++ t) pend s = some (x,s'))->∃M c' U' B s1,Inv P gl ops xx all n listed a G w M (tails.map (c' ++ ·)) U' B s1/\base <= s1.h.length/\(∀t ∈ tails,qx base call dsts (c' ++ t) B s1 = some (x,s'))/\
   (∀d rest,c' = d :: rest->d.o.op.effs = true)/\U'.length + c'.length = U.length + c.length/\(∀d ∈ pre,d ∈ M)
 | [],pre,U,pend,s,hi,hb,hr=>⟨pre,[],U,pend,s,hi,hb,hr,λ_ _ h=>(by cases h),rfl,λ_ h=>h⟩
 | d :: rest,pre,U,pend,s,hi,hb,hr=>by
  cases hq:d.o.op.effs with
  | true=>exact ⟨pre,d :: rest,U,pend,s,hi,hb,hr,λ_ _ h=>by cases h;exact hq,rfl,λ_ h=>h⟩
  | false=>
   have ah:tails.map ((d :: rest) ++ ·) = (tails.map (rest ++ ·)).map (d :: ·):=by simp
   obtain ⟨_,ak⟩:=hi.ne
   obtain ⟨t0,au,rfl⟩:=jU.1 ak
   obtain ⟨_,_,a7,_⟩:=qa8 (hi.ord _ ak)
   have I:=hr
   replace hr:=hr t0 au
   rw [ah] at hi
   simp only [jB,qx,hq,jn,if_false] at hr I
   have fin:∀{s1:St} {B:List (Nat×Chk)} {oid:Option Nat},Inv P gl ops xx all n listed a G w (d :: pre) (tails.map (rest ++ ·)) ((d,oid) :: U) B s1->base <= s1.h.length->(∀t ∈ tails,qx base call dsts (rest ++ t) B s1 = some (x,s'))->
     ∃M c' U' B s1,Inv P gl ops xx all n listed a G w M (tails.map (c' ++ ·)) U' B s1/\base <= s1.h.length/\(∀t ∈ tails,qx base call dsts (c' ++ t) B s1 = some (x,s'))/\
      (∀d rest,c' = d :: rest->d.o.op.effs = true)/\U'.length + c'.length = U.length + (d :: rest).length/\(∀d ∈ pre,d ∈ M):=by
    intro s1 B oid ay az av
    obtain ⟨ad,ap,aA,ab,s2,h1,h2,h3,h4,h5,h6⟩:=qjR rest _ _ _ _ ay az av
    exact ⟨ad,ap,aA,ab,s2,h1,h2,h3,h4,by rw [h5];simp;omega,λe he=>h6 e (jN _ he)⟩
   split at hr
   ·rename_i hw
    split at hr
    ·rename_i s1 hop
     simp only [hw,hop] at I
     obtain ⟨_,v,hv,aB,af⟩:=qdo hq hop
     have S:qcH s.t s1.t d.o.looks:=by rw [hv];exact qlN a7 hq v s.t
     obtain ⟨hg,hl⟩:=qaq.want_looks S
     have a1:∀k y,d.o.dst = some k->s1.t[k]? = some y->y = v:=λk y hk hy=>by rw [hv] at hy;exact qlO hk hy
     rcases af with ⟨hh,aa | ⟨k,q,J,a6⟩ | ⟨sh,z,ok,m,key,J,a6⟩⟩ | ⟨cs,hh,ar,E⟩
     ·simp only [qvc aa] at I
      refine fin (hi.push (oid:=none) (g:=[]) hq hv (by simp [hh]) (λ_ h=>h) (λ_ h=>by cases h) ⟨hq,.inr ⟨by rw [<-hg];exact hw,v,a1,.inl ⟨rfl,by rw [<-hl.pureV];exact aa⟩⟩,λ_ h=>by cases h⟩) (by rw [hh];exact hb) I
     ·have E:qeK s d.o.op = some (.ld (ev s.t q) k v):=by simp only [J,qeK,a6,jO]
      simp only [E] at I
      have a8:ev s.t q = ev s1.t q:=by rw [J] at hl;exact qcH.ev hl
      refine fin (hi.push (oid:=none) (g:=[]) hq hv (by simp [hh]) (λ_ h=>jN _ h) (λ_ h=>by cases h)
       ⟨hq,.inr ⟨by rw [<-hg];exact hw,v,a1,.inr (.inl ⟨rfl,k,q,J,by rw [<-a8];exact jJ ..,by rw [<-a8,hh];exact a6⟩)⟩,λ_ h=>by cases h⟩) (by rw [hh];exact hb) I
     ·have E:qeK s d.o.op = some (.lk sh z ok (ev s.t m) (ev s.t key) v):=by simp only [J,qeK,a6,jO]
      simp only [E] at I
      have ai:ev s.t m = ev s1.t m:=by rw [J] at hl;exact qcH.ev hl.left
      have aj:ev s.t key = ev s1.t key:=by rw [J] at hl;exact qcH.ev hl.right
      refine fin (hi.push (oid:=none) (g:=[]) hq hv (by simp [hh]) (λ_ h=>jN _ h) (λ_ h=>by cases h)
       ⟨hq,.inr ⟨by rw [<-hg];exact hw,v,a1,.inr (.inr (.inl ⟨rfl,sh,z,ok,m,key,J,by rw [<-ai,<-aj];exact jJ ..,by rw [<-ai,<-aj,hh];exact a6⟩))⟩,λ_ h=>by cases h⟩) (by rw [hh];exact hb) I
     ·simp only [E] at I
      have al:qsT s1.t d.o.op cs:=by
       cases ac:d.o.op <;> rw [ac] at E <;> simp only [qeK,jl,Chk.box.injEq,true_and,Option.map_eq_some_iff,reduceCtorEq,and_false,exists_false] at E
       case new z=>exact .inl ⟨z,rfl,E.symm⟩
       case box k y=>
        rw [ac] at hl hop
        have a8:ev s.t y = ev s1.t y:=qcH.ev hl
        simp only [qv] at hop
        split at hop
        ·rename_i ae
         exact .inr ⟨k,y,rfl,by rw [<-a8];exact E.symm,by rw [<-E];exact ae.2⟩
        ·cases hop
      have am:s1.h[s.h.length]? = some (.cells cs):=by rw [hh];simp
      refine fin (hi.push (oid:=some s.h.length) (g:=[.cells cs]) hq hv hh (λ_ h=>jN _ h) (λ_ h=>by cases h;exact jo _)
       ⟨hq,.inr ⟨by rw [<-hg];exact hw,v,a1,.inr (.inr (.inr ⟨s.h.length,cs,rfl,ar,al,jJ ..,am⟩))⟩,λid h=>by
        cases h
        refine ⟨hi.hlen,by rw [hh];simp,?_⟩
        cases hg:G.γ s.h.length with
        | none=>rfl
        | some b=>have:=(hi.cfg.rel.γlt _ b hg).1;omega⟩) (by rw [hh];simp;omega) I
    ·cases hr
    ·cases hr
   ·rename_i hw
    simp only [hw] at I
    have S:qcH s.t (AE.put d.o.dst (.tup []) s.t) d.o.looks:=qlN a7 hq _ s.t
    obtain ⟨hg,hl⟩:=qaq.want_looks S
    refine fin (hi.push (s1:={ s with t:=AE.put d.o.dst (.tup []) s.t}) (oid:=none) (g:=[]) hq rfl (by simp) (λ_ h=>h) (λ_ h=>by cases h)
     ⟨hq,.inl ⟨by rw [<-hg];exact hw,rfl,λk y hk hy=>qlO hk hy⟩,λ_ h=>by cases h⟩) hb I
   ·cases hr
end
section
variable {P:Program} {gl:Nat->Option (List qa)} {ops:Array Oper} {xx:Nat×Nat} {all:List qN} {alts:List (List qN)} {cl:List Nat} {n:Nat} {listed:Array Bool} {a:Act} {G G':qc} {w w':World}
 {pre ds:List qN} {U:List (qN×Option Nat)} {pend:List (Nat×Chk)} {s:St}
theorem qjh {o:Oper} {e:Nat}:e ∈ qeO o↔∃x ∈ o.after,Region.binds .any x = true/\x.on = e:=by
 simp only [qeO,jU,List.mem_filter,Array.mem_toList_iff,and_assoc]
theorem qpO {i:Nat} (h:listed.getD i false = true):i < listed.size:=by
 rcases Nat.lt_or_ge i listed.size with h' | h'
 ·exact h'
 ·simp [jP h'] at h
theorem qcZ {i:Nat} (h:listed.getD i true = false):listed.getD i false = false:=by
 rcases Nat.lt_or_ge i listed.size with h' | h'
 ·simpa [h'] using h
 ·simp [jP h'] at h
theorem qxP {i:Nat} (hl:i < listed.size) (h:listed.getD i false ≠ true):listed.getD i true = false:=by
 simpa [hl] using h
theorem qeU {i:Nat} (hl:i < listed.size) (b:Bool):(listed.setIfInBounds i true).getD i b = true:=by
 simp [hl]
theorem Inv.cl_listed (B:qip P gl ops cl xx all) (hi:Inv P gl ops xx all n listed a G w pre alts U pend s) {d:qN} (hd:d ∈ all) (hr:d.ix ∈ Region.ready .any ops listed) {j:Nat} (hj:d.cl.testBit j = true):listed.getD j false = true:=by
 obtain ⟨_,o,ho,M⟩:=mem_ready.1 hr
 obtain ⟨o',E,_,_,S⟩:=B.comp d hd
 rw [ho] at E
 cases E
 have I:∀e ∈ qeO o,listed.getD e false = true:=λe he=>by
  obtain ⟨x,h1,h2,rfl⟩:=qjh.1 he
  exact M x h1 h2
 rw [S] at hj
 rcases qi5 hj with h | h | ⟨e,h1,h2⟩
 ·simp at h
 ·exact I j h
 ·have hl:=I e h1
  obtain ⟨d',J,he⟩:=B.cover e (by rw [<-hi.size];exact qpO hl)
  subst he
  obtain ⟨_,_,_,hc,_⟩:=B.comp d' J
  exact hi.closed d' J hl j (by rw [hc];exact h2)
theorem qhq (J:qip P gl ops cl xx all) (I:listed.size = ops.size) (hr:Region.ready .any ops listed = []):∀(ds pre:List qN),(∀d ∈ ds,d ∈ all)->qfU xx (ops.toList.map qeO) pre ds = true->
  (∀x ∈ pre,listed.getD x.ix false = true)->∀d ∈ ds,listed.getD d.ix false = true
 | [],_,_,_,_,d,hd=>by cases hd
 | y :: ds,pre,B,ho,hp,d,hd=>by
  obtain ⟨h1,_,_,h4⟩:=qa8 ho
  have hy:listed.getD y.ix false = true:=by
   refine Classical.byContradiction λhn=>?_
   obtain ⟨o,E,_⟩:=J.comp y (B y (jJ ..))
   have hlt:y.ix < ops.size:=(jf.1 E).1
   have:y.ix ∈ Region.ready .any ops listed:=by
    refine mem_ready.2 ⟨qxP (by rw [I];exact hlt) hn,o,E,λe he hb=>?_⟩
    have M:(ops.toList.map qeO).getD y.ix [] = qeO o:=by
     rw [List.getD_eq_getElem?_getD,ju,Array.getElem?_toList,E]
     rfl
    obtain ⟨x,hx,S⟩:=h1 e.on (by rw [M];exact qjh.2 ⟨e,he,hb,rfl⟩)
    rw [<-S]
    exact hp x hx
   rw [hr] at this
   cases this
  rcases List.mem_cons.1 hd with rfl | hd
  ·exact hy
  ·exact qhq J I hr ds (y :: pre) (λd hd=>B d (jN _ hd)) h4 (λx hx=>by
    rcases List.mem_cons.1 hx with rfl | hx
    ·exact hy
    ·exact hp x hx) d hd
theorem Inv.finished (E:qip P gl ops cl xx all) (hi:Inv P gl ops xx all n listed a G w pre alts U pend s) (hr:Region.ready .any ops listed = []):U = []/\∀ds ∈ alts,ds = []:=by
 have B:=qhq E hi.size hr all [] (λ_ h=>h) E.order (λ_ h=>by cases h)
 obtain ⟨M,J⟩:=hi.ne
 constructor
 ·cases U with
  | nil=>rfl
  | cons x U=>
   have h1:=hi.l2 x (jJ ..)
   have h2:=B x.1 ((hi.mem _ J x.1).2 (.inl (hi.inPre x (jJ ..))))
   rw [qcZ h1] at h2
   cases h2
 ·intro ds I
  cases ds with
  | nil=>rfl
  | cons d ds=>
   have h1:=hi.l3 _ I d (jJ ..)
   have h2:=B d ((hi.mem _ I d).2 (.inr (jJ ..)))
   rw [qcZ h1] at h2
   cases h2
theorem Inv.closed' (B:qip P gl ops cl xx all) (hi:Inv P gl ops xx all n listed a G w pre alts U pend s) {d:qN} (hd:d ∈ all) (hr:d.ix ∈ Region.ready .any ops listed) :
  ∀e ∈ all,(listed.setIfInBounds d.ix true).getD e.ix false = true->∀j,e.cl.testBit j = true->(listed.setIfInBounds d.ix true).getD j false = true:=by
 intro e he hl j hj
 by_cases E:d.ix = e.ix
 ·have hc:e.cl = d.cl:=by
   obtain ⟨_,_,_,h1,_⟩:=B.comp e he
   obtain ⟨_,_,_,h2,_⟩:=B.comp d hd
   rw [h1,h2,E]
  rw [hc] at hj
  exact getD_set_true (hi.cl_listed B hd hr hj)
 ·rw [getD_set_ne false E] at hl
  exact getD_set_true (hi.closed e he hl j hj)
theorem Inv.caught (E:qip P gl ops cl xx all) (hi:Inv P gl ops xx all n listed a G w pre alts U pend s) {x:qN×Option Nat} (hx:x ∈ U) (hr:x.1.ix ∈ Region.ready .any ops listed) {a':Act}
  (M:Cfg P gl G' s.h (qcs (msk (U.filter λy=>y.1.ix != x.1.ix)) s.t) a' w')
  (S:∀y ∈ U,y ≠ x->∀id,y.2 = some id->G.γ id = none->G'.γ id = none) :
  Inv P gl ops xx all n (listed.setIfInBounds x.1.ix true) a' G' w' pre alts (U.filter λy=>y.1.ix != x.1.ix) pend s/\(U.filter λy=>y.1.ix != x.1.ix).length < U.length:=by
 have hU:∀y,y ∈ (U.filter λy=>y.1.ix != x.1.ix)↔y ∈ U/\y.1.ix ≠ x.1.ix:=by simp [List.mem_filter]
 obtain ⟨a1,J⟩:=hi.ne
 have B:x.1 ∈ all:=(hi.mem _ J x.1).2 (.inl (hi.inPre x hx))
 have hlt:x.1.ix < listed.size:=by
  obtain ⟨o,ho,_⟩:=E.comp x.1 B
  rw [hi.size]
  exact (jf.1 ho).1
 refine ⟨⟨M,λy hy=>?_,λy hy z hz=>hi.free y ((hU y).1 hy).1 z ((hU z).1 hz).1,λy hy z hz=>hi.uniq y ((hU y).1 hy).1 z ((hU z).1 hz).1,λy hy z hz=>hi.ids y ((hU y).1 hy).1 z ((hU z).1 hz).1,
  λy hy=>hi.inPre y ((hU y).1 hy).1,hi.ord,hi.mem,hi.ne,λd hd=>?_,λy hy=>?_,λds I d hd=>?_,by simpa using hi.size,hi.closed' E B hr,hi.hlen⟩,?_⟩
 ·obtain ⟨h1,h2⟩:=(hU y).1 hy
  exact (hi.lag y h1).keep (λ_ _=>rfl) (λ_ _=>rfl) (λc hc hh=>⟨hc,hh⟩) (λid hid hlt hg=>⟨hlt,S y h1 (λe=>h2 (by rw [e])) id hid hg⟩)
 ·by_cases he:x.1.ix = d.ix
  ·refine .inl ?_
   rw [<-he]
   exact qeU hlt false
  ·rcases hi.l1 d hd with h1 | ⟨y,h1,rfl⟩
   ·exact .inl (getD_set_true h1)
   ·exact .inr ⟨y,(hU y).2 ⟨h1,λe=>he e.symm⟩,rfl⟩
 ·obtain ⟨h1,h2⟩:=(hU y).1 hy
  rw [getD_set_ne true (λe=>h2 e.symm)]
  exact hi.l2 y h1
 ·by_cases he:x.1.ix = d.ix
  ·exact absurd he (qdL (qbM (hi.ord _ I) (hi.inPre x hx) d hd))
  ·rw [getD_set_ne true he]
   exact hi.l3 _ I d hd
 ·rcases Nat.lt_or_ge (U.filter λy=>y.1.ix != x.1.ix).length U.length with h | h
  ·exact h
  ·have h2:(U.filter λy=>y.1.ix != x.1.ix).length = U.length:=Nat.le_antisymm (List.length_filter_le _ _) h
   have:=List.length_filter_eq_length_iff.1 h2 x hx
   simp at this
theorem Inv.acted (S:qip P gl ops cl xx all) {d:qN} {E:List (List qN)} (hi:Inv P gl ops xx all n listed a G w pre alts U pend s) (B:∀r ∈ E,(d :: r) ∈ alts) (a6:∃r,r ∈ E) (hr:d.ix ∈ Region.ready .any ops listed) {a':Act} {s1:St} {M:List (Nat×Chk)}
  (ae:Cfg P gl G' s1.h (qcs (msk U) s1.t) a' w') (J:∀k,d.o.dst ≠ some k->(s1.t.getD k .undef).dim = (s.t.getD k .undef).dim/\(k ∉ d.o.looks->s1.t[k]? = s.t[k]?))
  (a8:∀c,c ∈ pend->d.cl.testBit c.1 = false->c.2.Holds s.h->c ∈ M/\c.2.Holds s1.h) (ah:s.h.length <= s1.h.length) (af:∀id,id < s.h.length->G.γ id = none->G'.γ id = none) :
  Inv P gl ops xx all n (listed.setIfInBounds d.ix true) a' G' w' (d :: pre) E U M s1:=by
 obtain ⟨r0,aa⟩:=a6
 have ac:=B _ aa
 have I:d ∈ all:=(hi.mem _ ac d).2 (.inr (jJ ..))
 obtain ⟨_,ab,_,_⟩:=qa8 (hi.ord _ ac)
 have hlt:d.ix < listed.size:=by
  obtain ⟨o,ho,_⟩:=S.comp d I
  rw [hi.size]
  exact (jf.1 ho).1
 have a7:∀x ∈ U,d.cl.testBit x.1.ix = false:=λx hx=>by
  cases hb:d.cl.testBit x.1.ix with
  | false=>rfl
  | true=>
   have h1:=hi.cl_listed S I hr hb
   rw [qcZ (hi.l2 x hx)] at h1
   cases h1
 have a1:=λx hx=>qhD (qft (ab _ (hi.inPre x hx)) (hi.lag x hx).quiet) (a7 x hx)
 have a6:∀x ∈ U,d.ix ≠ x.1.ix:=λx hx e=>qdL (ab _ (hi.inPre x hx)) e.symm
 refine ⟨ae,λx hx=>?_,hi.free,hi.uniq,hi.ids,λx hx=>jN _ (hi.inPre x hx),λr hr=>(qa8 (hi.ord _ (B r hr))).2.2.2,λr hr e=>?_,⟨r0,aa⟩,λe he=>?_,λx hx=>?_,λr hr e he=>?_,by simpa using hi.size,hi.closed' S I hr,by have:=hi.hlen;omega⟩
 ·refine (hi.lag x hx).keep (λi hl=>?_) (λk hk=>?_) (λc hc hh=>?_) (λid _ hlt hg=>⟨zo,af id hlt hg⟩)
  ·exact ((J i λe=>((a1 x hx).2 i e).1 hl).1).symm
  ·exact (J k λe=>((a1 x hx).2 k e).2 hk).2 ((a1 x hx).1 k hk)
  ·exact a8 _ hc (a7 x hx) hh
 ·rw [hi.mem _ (B r hr) e,List.mem_cons,List.mem_cons]
  constructor
  ·rintro (h1 | h1 | h1)
   ·exact .inl (.inr h1)
   ·exact .inl (.inl h1)
   ·exact .inr h1
  ·rintro ((h1 | h1) | h1)
   ·exact .inr (.inl h1)
   ·exact .inl h1
   ·exact .inr (.inr h1)
 ·rcases List.mem_cons.1 he with rfl | he
  ·exact .inl (qeU hlt false)
  ·rcases hi.l1 e he with h1 | h1
   ·exact .inl (getD_set_true h1)
   ·exact .inr h1
 ·rw [getD_set_ne true (a6 x hx)]
  exact hi.l2 x hx
 ·have ad:d.ix ≠ e.ix:=qdL (qbM (qa8 (hi.ord _ (B r hr))).2.2.2 (jJ ..) e he)
  rw [getD_set_ne true ad]
  exact hi.l3 _ (B r hr) e (jN _ he)
theorem qip.inj (B:qip P gl ops cl xx all) {d e:qN} (hd:d ∈ all) (he:e ∈ all) (h:d.ix = e.ix):d = e:=by
 obtain ⟨o,h1,h2,h3,_⟩:=B.comp d hd
 obtain ⟨o',k1,k2,k3,_⟩:=B.comp e he
 rw [h,k1] at h1
 cases h1
 rw [k2] at h2
 obtain ⟨d1,d2,d3⟩:=d
 obtain ⟨e1,e2,e3⟩:=e
 simp only at h h2 h3 k3
 subst h
 cases h2
 rw [h3,k3]
def qjQ (xx:Nat×Nat) (pre:List qN) (tails:List (List qN)):Prop:=
 (tails = [[]]/\(xx.1 = xx.2\/∃p ∈ pre,p.ix = xx.1\/p.ix = xx.2))\/
 ∃A r1 B r2,tails = [A :: r1,B :: r2]/\A.ix = xx.1/\B.ix = xx.2/\A.o.op.effs = true/\B.o.op.effs = true/\∀d ∈ r1,d.ix = B.ix\/d.cl.testBit A.ix = true\/d.cl.testBit B.ix = true
theorem qjQ.mono {pre B:List qN} {tails:List (List qN)} (h:qjQ xx pre tails) (hp:∀d ∈ pre,d ∈ B):qjQ xx B tails:=by
 rcases h with ⟨h1,h2⟩ | h
 ·refine .inl ⟨h1,?_⟩
  rcases h2 with h2 | ⟨p,h2,h3⟩
  ·exact .inl h2
  ·exact .inr ⟨p,hp _ h2,h3⟩
 ·exact .inr h
theorem qAA {a b:qN} (h:qmo xx a b = true):a.ix ≠ b.ix/\((xx.1 = a.ix/\xx.2 = b.ix)\/(xx.1 = b.ix/\xx.2 = a.ix)):=by
 simp only [qmo,jm,Bool.or_eq_true,beq_iff_eq,bne_iff_ne,ne_eq] at h
 exact ⟨h.1,h.2.2⟩
theorem qjQ.forced {d0 d:qN} {c:List qN} {tails:List (List qN)} (hT:qjQ xx pre tails) (hi:Inv P gl ops xx all n listed a G w pre (tails.map ((d0 :: c) ++ ·)) U pend s) {t:List qN} (ht:t ∈ tails) (hd:d ∈ c ++ t):qdt d0 d = true:=by
 have halt:∀t ∈ tails,(d0 :: (c ++ t)) ∈ tails.map ((d0 :: c) ++ ·):=λt ht=>jU.2 ⟨t,ht,rfl⟩
 have ho:=λt ht=>(qa8 (hi.ord _ (halt t ht)))
 have hp:=qbM (ho t ht).2.2.2 (jJ ..) d hd
 simp only [qkN,Bool.or_eq_true] at hp
 rcases hp with hp | hp
 ·exact hp
 exfalso
 obtain ⟨I,hx⟩:=qAA hp
 rcases hT with ⟨rfl,h2⟩ | ⟨A,r1,B,r2,rfl,hA,hB,_⟩
 ·rcases h2 with h2 | ⟨p,E,h2⟩
  ·rcases hx with ⟨e1,e2⟩ | ⟨e1,e2⟩
   ·exact I (by rw [<-e1,<-e2,h2])
   ·exact I (by rw [<-e1,<-e2,h2])
  ·have n1:p.ix ≠ d0.ix:=qdL ((ho t ht).2.1 p E)
   have n2:p.ix ≠ d.ix:=qdL (qbM (ho t ht).2.2.2 (jN _ E) d hd)
   rcases hx with ⟨e1,e2⟩ | ⟨e1,e2⟩ <;> rcases h2 with h2 | h2
   ·exact n1 (by rw [h2,e1])
   ·exact n2 (by rw [h2,e2])
   ·exact n2 (by rw [h2,e1])
   ·exact n1 (by rw [h2,e2])
 ·have m1:d0.ix ≠ A.ix:=qdL (qbM (ho _ (jJ ..)).2.2.2 (jJ ..) A (by simp))
  have m2:d0.ix ≠ B.ix:=qdL (qbM (ho _ (jN _ (jJ ..))).2.2.2 (jJ ..) B (by simp))
  rcases hx with ⟨e1,e2⟩ | ⟨e1,e2⟩
  ·exact m1 (by rw [hA,e1])
  ·exact m2 (by rw [hB,e2])
theorem qtq {base:Nat} {call:AE.Call} {dsts:List Nat} (aW:∀d ∈ all,∀k,d.o.dst = some k->k ∈ dsts) (al:qcc P gl call) (hk:qZ call) (J:qip P gl ops cl xx all) {ro:Option Nat} {m:Nat} {x:Ex} {s':St} {Q:Exit->Act->World->Prop} :
  ∀(fuel:Nat) (listed:Array Bool) (a:Act) (w:World) (G:qc) (pre c:List qN) (tails:List (List qN)) (U:List (qN×Option Nat)) (pend:List (Nat×Chk)) (s:St),qjQ xx pre tails->Inv P gl ops xx all n listed a G w pre (tails.map (c ++ ·)) U pend s->base <= s.h.length->
   (∀t ∈ tails,qx base call dsts (c ++ t) pend s = some (x,s'))->(∀d rest,c = d :: rest->d.o.op.effs = true)->(∀t ∈ tails,U.length + (c ++ t).length <= fuel)->(∀e a' w',Fin P gl n G w a.defers x s' e a' w'->Q e a' w')->
   wpAnyIn (FR ro) m P .any ops Q fuel listed a w:=by
 intro fuel
 induction fuel with
 | zero=>
  intro listed a w G pre c tails U pend s hT hi hb hr ak a6 hQ
  obtain ⟨_,ab⟩:=hi.ne
  obtain ⟨t0,af,rfl⟩:=jU.1 ab
  have bz:=a6 t0 af
  obtain ⟨rfl,av⟩ :U = []/\c ++ t0 = []:=⟨List.length_eq_zero_iff.1 zo,List.length_eq_zero_iff.1 zo⟩
  have ai:=hr t0 af
  rw [av] at ai ab
  simp only [qx] at ai
  cases ai
  have a7:=hi.cfg
  simp only [msk,List.filterMap_nil,qic] at a7
  refine ⟨?_,hQ _ _ _ ⟨G,Ext.refl _ G w,rfl,rfl,a7⟩⟩
  cases bd:Region.ready .any ops listed with
  | nil=>rfl
  | cons i is=>
   have b7:i ∈ Region.ready .any ops listed:=by rw [bd];exact jJ ..
   obtain ⟨h1,o,ho,_⟩:=mem_ready.1 b7
   obtain ⟨d,hd,rfl⟩:=J.cover i (jf.1 ho).1
   rcases (hi.mem _ ab d).1 hd with h2 | h2
   ·rcases hi.l1 d h2 with h3 | ⟨y,h3,_⟩
    ·rw [qcZ h1] at h3;cases h3
    ·cases h3
   ·cases h2
 | succ fuel ih=>
  intro listed a w G pre c tails U pend s hT hi hb hr ak a6 hQ
  obtain ⟨_,ab⟩:=hi.ne
  obtain ⟨t0,af,rfl⟩:=jU.1 ab
  have halt:∀t ∈ tails,(c ++ t) ∈ tails.map (c ++ ·):=λt ht=>jU.2 ⟨t,ht,rfl⟩
  refine ⟨λav=>?_,λi a8=>?_⟩
  ·obtain ⟨rfl,aU⟩:=hi.finished J av
   have ai:=hr t0 af
   rw [aU _ ab] at ai
   simp only [qx] at ai
   cases ai
   have a7:=hi.cfg
   simp only [msk,List.filterMap_nil,qic] at a7
   exact hQ _ _ _ ⟨G,Ext.refl _ G w,rfl,rfl,a7⟩
  ·obtain ⟨bc,o,ho,_⟩:=mem_ready.1 a8
   obtain ⟨d,hd,rfl⟩:=J.cover i (jf.1 ho).1
   obtain ⟨o',b2,aE,_,_⟩:=J.comp d hd
   rw [ho] at b2
   cases b2
   have aR:d ∈ pre->∃y ∈ U,y.1 = d:=λh=>by
    rcases hi.l1 d h with h3 | h3
    ·rw [qcZ bc] at h3;cases h3
    ·exact h3
   unfold wpOpIn
   simp only [ho]
   by_cases h2:d ∈ pre
   ·
    obtain ⟨y,hy,rfl⟩:=aR h2
    have ay:=hi.lag y hy
    have aQ:=qjA (J.selfs _ hd) ay.quiet
    have ad:∀k ∈ y.1.o.looks,k ∉ msk U:=λk aC am=>by
     obtain ⟨z,hz,ae⟩:=qdI.1 am
     by_cases he:z.1.ix = y.1.ix
     ·rw [hi.uniq y hy z hz he] at ae
      exact aQ k ae aC
     ·have hf:=hi.free z hz y hy (λe=>he e.symm)
      have hb:=hf.1 k ae aC
      have h1:=hi.cl_listed J hd a8 hb
      rw [qcZ (hi.l2 z hz)] at h1
      cases h1
    obtain ⟨hg,hl⟩:=qaq.want_looks (qe7 (t:=s.t) ad)
    have au:∀v,(∀k z,y.1.o.dst = some k->s.t[k]? = some z->z = v)->AE.put y.1.o.dst v (qcs (msk U) s.t) = qcs (msk (U.filter λz=>z.1.ix != y.1.ix)) s.t:=λv hv=>
     qjt (λz=>by simp [List.mem_filter]) hy (λz hz he=>hi.uniq y hy z hz he) (λz hz aI=>hi.free y hy z hz aI) hv
    have next:∀{u:Value} {w':World} {G':qc},Ext n G w G' w'->Cfg P gl G' s.h (qcs (msk (U.filter λz=>z.1.ix != y.1.ix)) s.t) (a.put o.dst u) w'->
      (∀z ∈ U,z ≠ y->∀id,z.2 = some id->G.γ id = none->G'.γ id = none)->wpAnyIn (FR ro) m P .any ops Q fuel (listed.setIfInBounds y.1.ix true) (a.put o.dst u) w':=by
     intro u w' G' he a7 bb
     obtain ⟨aM,hlt⟩:=hi.caught J hy a8 a7 bb
     refine ih _ _ _ _ _ _ _ _ _ _ hT aM hb hr ak (λt ht=>by have:=a6 t ht;omega) λe a' b9 hf=>hQ _ _ _ ?_
     rw [qb2] at hf
     exact Fin.of_ext (jo _) he hf
    have hold:∀{w':World} {G':qc},Ext s.h.length G w G' w'->∀z ∈ U,z ≠ y->∀id,z.2 = some id->G.γ id = none->G'.γ id = none:=by
     intro w' G' he z hz _ id hid hg
     cases ar:G'.γ id with
     | none=>rfl
     | some b=>
      rcases he.gn id b ar with h | ⟨h,_⟩
      ·rw [hg] at h;cases h
      ·have:=((hi.lag z hz).young id hid).2.1;omega
    rcases ay.does with ⟨d1,d2,d3⟩ | ⟨d1,v,d2,d3⟩
    ·obtain ⟨M,I,S⟩:=qbO hi.cfg.tr aE (hg.trans d1)
     rw [if_neg (by rw [S];simp)]
     refine ⟨λ_ _=>trivial,?_⟩
     have:=qcR hi.cfg y.1.o.dst
     rw [au _ d3] at this
     exact next (Ext.refl n G w) (by rw [<-I];exact this) (λ_ _ _ _ _ h=>h)
    ·obtain ⟨M,I,S⟩:=qbO hi.cfg.tr aE (hg.trans d1)
     rw [if_pos S]
     have plain:qv base call [] o.dst y.1.o.op ⟨qcs (msk U) s.t,s.h,s.e⟩ = some (.nor,⟨AE.put o.dst v (qcs (msk U) s.t),s.h,s.e⟩)->
       o.wpIn (FR ro) m P a w (wpAnyIn (FR ro) m P .any ops Q fuel (listed.setIfInBounds y.1.ix true)) Q:=by
      intro ah
      refine qe3 al hk hi.cfg qbv.nil M ah (λ_ u w' G' he a1 _ _ _=>?_) (λpv h=>by cases h)
      simp only [<-I] at a1
      rw [au v d2] at a1
      rw [I] at a1
      exact next (he.weaken hi.hlen) a1 (hold he)
     rcases d3 with ⟨e1,e2⟩ | ⟨e0,k,q,e1,e2,e3⟩ | ⟨e0,sh,z,ok,m,key,e1,e2,e3⟩ | ⟨id,cs,e1,e2,e3,e4,e5⟩
     ·exact plain (qnR (s:=⟨qcs (msk U) s.t,s.h,s.e⟩) (by rw [hl.pureV];exact e2))
     ·refine plain ?_
      have hq:ev (qcs (msk U) s.t) q = ev s.t q:=by rw [e1] at hl;exact qcH.ev hl
      simp only [e1,qv,hq,e3,jO]
     ·refine plain ?_
      have bk:ev (qcs (msk U) s.t) m = ev s.t m:=by rw [e1] at hl;exact qcH.ev hl.left
      have bl:ev (qcs (msk U) s.t) key = ev s.t key:=by rw [e1] at hl;exact qcH.ev hl.right
      simp only [e1,qv,bk,bl,e3,jO]
     ·obtain ⟨g1,g2,g3⟩:=ay.young id e1
      have b4:qsT (qcs (msk U) s.t) y.1.o.op cs:=by
       rcases e3 with e3 | ⟨k,q,f1,f2,f3⟩
       ·exact .inl e3
       ·have hq:ev (qcs (msk U) s.t) q = ev s.t q:=by rw [f1] at hl;exact qcH.ev hl
        exact .inr ⟨k,q,f1,by rw [hq];exact f2,f3⟩
      obtain ⟨u,w',h1,h2,h3⟩:=quD hi.cfg M b4 e5 g3 g1
      refine ⟨λ_ _=>trivial,?_⟩
      rw [Oper.semAt_eq _ _ _ (qed M),h1,Oper.uponIn_value]
      rw [<-I,<-e2,au v d2,I] at h3
      refine next h2 h3 λz hz aI ba b8 ar=>?_
      simp only [qc.withBox]
      rw [if_neg]
      ·exact ar
      ·rintro rfl
       exact aI (hi.ids y hy z hz ba e1 b8)
   ·
    have act:∀(c':List qN) (E:List (List qN)),(∀t ∈ E,(d :: (c' ++ t)) ∈ tails.map (c ++ ·))->(∃t,t ∈ E)->(∀t ∈ E,qx base call dsts (d :: (c' ++ t)) pend s = some (x,s'))->qjQ xx (d :: pre) E->(∀t ∈ E,U.length + (c' ++ t).length <= fuel)->d.o.op.effs = true->
      (if Region.wanted o (yielded ops a.tmps) then o.wpIn (FR ro) m P a w (wpAnyIn (FR ro) m P .any ops Q fuel (listed.setIfInBounds d.ix true)) Q else (∀f,o.about P w a.eval = some f->(FR ro).fn f)/\wpAnyIn (FR ro) m P .any ops Q fuel (listed.setIfInBounds d.ix true) (a.put o.dst undef) w):=by
     intro c' E aG b5 aa bs aO az
     obtain ⟨t1,aF⟩:=b5
     have hr:=aa t1 aF
     obtain ⟨_,bj,_,_⟩:=qa8 (hi.ord _ (aG t1 aF))
     have b6:∀x ∈ U,d.cl.testBit x.1.ix = false:=λx hx=>by
      cases hb:d.cl.testBit x.1.ix with
      | false=>rfl
      | true=>
       have h1:=hi.cl_listed J hd a8 hb
       rw [qcZ (hi.l2 x hx)] at h1
       cases h1
     have aZ:=λx hx=>qhD (qft (bj _ (hi.inPre x hx)) (hi.lag x hx).quiet) (b6 x hx)
     have ad:∀k ∈ d.o.looks,k ∉ msk U:=λk aC am=>by
      obtain ⟨z,hz,ae⟩:=qdI.1 am
      exact (aZ z hz).1 k ae aC
     have aP:∀k,d.o.dst = some k->k ∉ msk U:=λk aj am=>by
      obtain ⟨z,hz,ae⟩:=qdI.1 am
      exact ((aZ z hz).2 k aj).2 ae
     obtain ⟨hg,hl⟩:=qaq.want_looks (qe7 (t:=s.t) ad)
     have b3:∀k ∈ d.o.op.looks,k ∉ msk U:=λk aJ=>ad k (by unfold qaq.looks;split <;> simp [aJ])
     have next:∀{u:Value} {w':World} {G':qc} {s1:St} {ac:List (Nat×Chk)},Ext n G w G' w'->Inv P gl ops xx all n (listed.setIfInBounds d.ix true) (a.put o.dst u) G' w' (d :: pre) (E.map (c' ++ ·)) U ac s1->base <= s1.h.length->
       (∀t ∈ E,qx base call dsts (c' ++ t) ac s1 = some (x,s'))->wpAnyIn (FR ro) m P .any ops Q fuel (listed.setIfInBounds d.ix true) (a.put o.dst u) w':=by
      intro u w' G' s1 ac he aM br bh
      obtain ⟨bw,bA,U2,bu,s2,aK,bq,bf,aN,bv,aT⟩:=qjR c' (d :: pre) U ac s1 aM br bh
      refine ih _ _ _ _ _ _ _ _ _ _ (bs.mono aT) aK bq bf aN (λt ht=>by have:=aO t ht;simp only [List.length_append] at this ⊢;omega) λe a' b9 hf=>hQ _ _ _ ?_
      rw [qb2] at hf
      exact Fin.of_ext (jo _) he hf
     have aA:∀r ∈ E.map (c' ++ ·),(d :: r) ∈ tails.map (c ++ ·):=λr hr=>by
      obtain ⟨t,ht,rfl⟩:=jU.1 hr
      exact aG t ht
     have aH:∃r,r ∈ E.map (c' ++ ·):=⟨_,jU.2 ⟨t1,aF,rfl⟩⟩
     simp only [qx,az,if_true] at hr aa
     split at hr
     ·rename_i hw
      obtain ⟨M,I,S⟩:=qbO hi.cfg.tr aE (hg.trans hw)
      rw [if_pos S]
      simp only [hw] at aa
      split at hr
      ·rename_i s1 hop
       simp only [hop] at aa
       split at hr
       ·rename_i aB
        simp only [aB,if_true] at aa
        have aV:=(qb4 (base:=base) hk hb hop).1
        have ah:qv base call [] o.dst d.o.op ⟨qcs (msk U) s.t,s.h,s.e⟩ = some (.nor,{ s1 with t:=qcs (msk U) s1.t}):=by
         have:=qhH (base:=base) (call:=call) (dst:=d.o.dst) (t:=s.t) (h:=s.h) (e:=s.e) az b3 aP
         rw [<-I,this,hop]
         rfl
        refine qe3 al hk hi.cfg qbv.nil M ah (λ_ u w' G' he a1 _ _ _=>?_) (λpv h=>by cases h)
        refine next (he.weaken hi.hlen) (hi.acted J aA aH a8 (s1:=s1) a1 (λk aj=>⟨((qg2 hop).2 k aj).1,λaJ=>((qg2 hop).2 k aj).2 λap=>aJ (by unfold qaq.looks;split <;> simp [ap])⟩) (λc hc bo _=>?_) aV (λid hid ar=>?_)) zo aa
        ·have hm:c ∈ pend.filter λc=>!d.cl.testBit c.1:=List.mem_filter.2 ⟨hc,by simp [bo]⟩
         exact ⟨hm,Chk.holds_of_ok (List.all_eq_true.1 aB c hm)⟩
        ·cases bm:G'.γ id with
         | none=>rfl
         | some b=>
          rcases he.gn id b bm with h | ⟨h,_⟩
          ·rw [ar] at h;cases h
          ·omega
       ·cases hr
      ·rename_i v s1 hop
       cases hr
       have ah:qv base call [] o.dst d.o.op ⟨qcs (msk U) s.t,s.h,s.e⟩ = some (.pan v,{ s1 with t:=qcs (msk U) s1.t}):=by
        have:=qhH (base:=base) (call:=call) (dst:=d.o.dst) (t:=s.t) (h:=s.h) (e:=s.e) az b3 aP
        rw [<-I,this,hop]
        rfl
       refine qe3 al hk hi.cfg qbv.nil M ah (λh=>by cases h) (λpv bi u w' G' he a1 hv=>?_)
       cases bi
       refine hQ _ _ _ ⟨G',he.weaken hi.hlen,rfl,u,rfl,⟨a1.rel,a1.tr.poison (by rw [qb1,qb1]) λi y hy=>?_⟩,hv⟩
       simp only [qcn] at hy ⊢
       by_cases aL:dsts.contains i = true
       ·rw [Option.map_eq_some_iff] at hy
        obtain ⟨z,_,hz⟩:=hy
        rw [if_pos aL] at hz
        exact .inr hz.symm
       ·have aK:¬(msk U).contains i = true:=λe=>aL (by
         simp only [List.contains_iff_mem,qdI] at e ⊢
         obtain ⟨z,h1,h2⟩:=e
         exact aW z.1 ((hi.mem _ ab z.1).2 (.inl (hi.inPre z h1))) i h2)
        simp only [aL,aK,jn,if_false] at hy ⊢
        exact .inl hy
      ·cases hr
     ·rename_i hw
      obtain ⟨M,I,S⟩:=qbO hi.cfg.tr aE (hg.trans hw)
      simp only [hw] at aa
      rw [if_neg (by rw [S];simp)]
      refine ⟨λ_ _=>trivial,?_⟩
      have a1:=qcR hi.cfg d.o.dst
      rw [qcP aP] at a1
      have bp:Cfg P gl G s.h (qcs (msk U) (AE.put d.o.dst (.tup []) s.t)) (a.put o.dst undef) w:=by rw [<-I];exact a1
      exact next (Ext.refl n G w) (hi.acted J aA aH a8 (s1:={ s with t:=AE.put d.o.dst (.tup []) s.t}) bp (λk aj=>⟨by rw [qa4 (put_get_ne aj)],λ_=>put_get_ne aj⟩)
       (λc hc _ hh=>⟨hc,hh⟩) (jo _) (λ_ _ h=>h)) hb aa
     ·cases hr
    have ap:∀t ∈ tails,d ∈ c ++ t:=λt ht=>((hi.mem _ (halt t ht) d).1 hd).resolve_left h2
    cases c with
    | cons d0 c'=>
     have aD:=ak d0 c' rfl
     have bn:d = d0:=by
      rcases List.mem_cons.1 (ap t0 af) with h3 | h3
      ·exact h3
      ·have b1:=hT.forced hi af h3
       simp only [qdt,aD,Bool.not_true,jQ,jR,jm] at b1
       have h1:=hi.cl_listed J hd a8 b1.1.2
       rw [qcZ (hi.l3 _ ab d0 (jJ ..))] at h1
       cases h1
     subst bn
     exact act c' tails (λt ht=>halt t ht) ⟨t0,af⟩ hr (hT.mono λ_ h=>jN _ h) (λt ht=>by have:=a6 t ht;simp only [jB,List.length_cons] at this;omega) aD
    | nil=>
     rcases hT with ⟨rfl,_⟩ | ⟨A,r1,B,r2,rfl,hA,hB,eA,eB,bg⟩
     ·have:=ap [] (jJ ..)
      cases this
     ·have mA:(A :: r1) ∈ [A :: r1,B :: r2]:=jJ ..
      have mB:(B :: r2) ∈ [A :: r1,B :: r2]:=jN _ (jJ ..)
      have caseA:d = A->_:=λe=>act r1 [[]] (λt ht=>by simp at ht;subst ht;subst e;simp) ⟨[],jJ ..⟩ (λt ht=>by simp at ht;subst ht;subst e;simpa using hr _ mA) (.inl ⟨rfl,.inr ⟨d,jJ ..,.inl (by rw [e];exact hA)⟩⟩) (λt ht=>by simp at ht;subst ht;have:=a6 _ mA;simp at this ⊢;omega) (by rw [e];exact eA)
      have aY:d = B->_:=λe=>act r2 [[]] (λt ht=>by simp at ht;subst ht;subst e;simp) ⟨[],jJ ..⟩ (λt ht=>by simp at ht;subst ht;subst e;simpa using hr _ mB) (.inl ⟨rfl,.inr ⟨d,jJ ..,.inr (by rw [e];exact hB)⟩⟩) (λt ht=>by simp at ht;subst ht;have:=a6 _ mB;simp at this ⊢;omega) (by rw [e];exact eB)
      rcases List.mem_cons.1 (ap _ mA) with h3 | h3
      ·exact caseA h3
      ·have aX:B ∈ all:=(hi.mem _ (halt _ mB) B).2 (.inr (jJ ..))
       rcases bg d h3 with h4 | h4 | h4
       ·exact aY (J.inj hd aX h4)
       ·have h1:=hi.cl_listed J hd a8 h4
        rw [qcZ (hi.l3 _ (halt _ mA) A (jJ ..))] at h1
        cases h1
       ·have h1:=hi.cl_listed J hd a8 h4
        rw [qcZ (hi.l3 _ (halt _ mB) B (jJ ..))] at h1
        cases h1
end
section
variable {P:Program} {gl:Nat->Option (List qa)} {ops:Array Oper} {G G':qc} {w w':World} {h:List qb} {t:List qa} {a:Act} {n:Nat}
theorem qia {α β:Type} {f:α->Option β}:∀{l:List α} {r:List β},l.mapM f = some r->∀(i:Nat) (b:β),r[i]? = some b->∃x,l[i]? = some x/\f x = some b
 | [],r,h,i,b,hb=>by simp at h;subst h;simp at hb
 | x :: l,r,h,i,b,hb=>by
  simp only [List.mapM_cons,Option.pure_def,jF,Option.bind_eq_some_iff] at h
  obtain ⟨y,hy,ys,B,h⟩:=h
  cases h
  cases i with
  | zero=>simp at hb;subst hb;exact ⟨x,rfl,hy⟩
  | succ i=>simp at hb;simpa using qia B i b hb
theorem qdG:∀(l:List Oper) (k:Nat) (os:List qaq),(∀j,l[j]? = ops[k + j]?)->l.mapM (qb6 P gl ops) = some os->qB6 P gl ops (List.range' k l.length) os
 | [],k,os,_,h=>by simp at h;subst h;trivial
 | x :: l,k,os,hl,h=>by
  simp only [List.mapM_cons,Option.pure_def,jF,Option.bind_eq_some_iff] at h
  obtain ⟨y,hy,ys,B,h⟩:=h
  cases h
  refine ⟨⟨x,by have:=hl 0;simpa using this.symm,hy⟩,?_⟩
  exact qdG l (k + 1) ys (λj=>by have:=hl (j + 1);simp at this;rw [this];congr 1;omega) B
theorem qnn {as:List qaq} {cl l:List Nat} {d:qN} (h:d ∈ qrr as cl l):∃i ao,as[i]? = some ao/\d = ⟨ao,i,cl.getD i 0⟩:=by
 simp only [qrr,List.mem_filterMap,Option.map_eq_some_iff] at h
 obtain ⟨i,_,ao,B,rfl⟩:=h
 exact ⟨i,ao,B,rfl⟩
theorem qzv {as:List qaq} (has:ops.toList.mapM (qb6 P gl ops) = some as) {cl:List Nat} {xx:Nat×Nat} {ds:List qN} (hm:∀d ∈ ds,∃i ao,as[i]? = some ao/\d = ⟨ao,i,cl.getD i 0⟩)
  (M:∀i,i < ops.size->∃d ∈ ds,d.ix = i) (J:∀d ∈ ds,d.cl = qux cl ((ops.toList.map qeO).getD d.ix [])) (B:qfU xx (ops.toList.map qeO) [] ds = true):qip P gl ops cl xx ds:=by
 refine ⟨λd hd=>?_,M,B,qhC B⟩
 obtain ⟨i,ao,S,rfl⟩:=hm d hd
 obtain ⟨o,ho,I⟩:=qia has i ao S
 have E:ops[i]? = some o:=by simpa using ho
 refine ⟨o,E,I,rfl,?_⟩
 have:=J _ hd
 simp only at this
 rw [this,List.getD_eq_getElem?_getD,ju,ho]
 rfl
theorem qhT {ds:List qN} (h:qfZ P gl ops = some ds):∃cl,qip P gl ops cl (0,0) ds:=by
 simp only [qfZ,Option.pure_def,jF,Option.bind_eq_some_iff] at h
 obtain ⟨as,has,h⟩:=h
 split at h
 ·rename_i hc
  simp only [jm,List.all_eq_true,List.mem_range,List.any_eq_true,beq_iff_eq] at hc
  obtain ⟨⟨J,I⟩,E⟩:=hc
  have B:=Option.some.inj h
  rw [B] at J I E
  exact ⟨qoL (ops.toList.map qeO),qzv has (λd hd=>qnn (by rw [B];exact hd)) J I E⟩
 ·cases h
theorem Cfg.of_drew (hc:Cfg P gl G h t a w) (d:Nat):Cfg P gl G h t a { w with drawn:=d}:=⟨hc.rel.of_drew d,hc.tr.of_drew d⟩
theorem qip.len {cl:List Nat} {xx:Nat×Nat} {ds:List qN} (B:qip P gl ops cl xx ds):ds.length <= ops.size:=by
 have M:(ds.map (·.ix)).Nodup:=by
  have key:∀(l pre:List qN),qfU xx (ops.toList.map qeO) pre l = true->(l.map (·.ix)).Nodup:=by
   intro l
   induction l with
   | nil=>intro _ _;simp
   | cons d l ih=>
    intro pre ho
    obtain ⟨_,_,_,h4⟩:=qa8 ho
    rw [List.map_cons,List.nodup_cons]
    refine ⟨λI=>?_,ih _ h4⟩
    obtain ⟨y,hy,J⟩:=jU.1 I
    exact qdL (qbM h4 (jJ ..) y hy) J.symm
  exact key ds [] B.order
 have E:∀i ∈ ds.map (·.ix),i ∈ List.range ops.size:=by
  intro i hi
  obtain ⟨d,hd,rfl⟩:=jU.1 hi
  obtain ⟨o,ho,_⟩:=B.comp d hd
  exact List.mem_range.2 (jf.1 ho).1
 have S:=M.length_le_of_subset E
 simpa using S
theorem qip.same {cl:List Nat} {xx:Nat×Nat} {ds es:List qN} (h1:qip P gl ops cl xx ds) (h2:qip P gl ops cl xx es) {d:qN} (hd:d ∈ ds):d ∈ es:=by
 obtain ⟨o,k1,k2,k3,_⟩:=h1.comp d hd
 obtain ⟨e,he,B⟩:=h2.cover d.ix (jf.1 k1).1
 obtain ⟨o',l1,l2,l3,_⟩:=h2.comp e he
 rw [B,k1] at l1
 cases l1
 rw [k2] at l2
 obtain ⟨d1,d2,d3⟩:=d
 obtain ⟨e1,e2,e3⟩:=e
 simp only at B l2 l3 k3
 subst B
 cases l2
 rw [k3,<-l3]
 exact he
theorem qqe {cl:List Nat} {xx:Nat×Nat} {all:List qN} {alts:List (List qN)} {s:St} (E:qip P gl ops cl xx all) (B:∀ds ∈ alts,qip P gl ops cl xx ds) (I:∃ds,ds ∈ alts) (hc:Cfg P gl G s.h s.t a w) :
  Inv P gl ops xx all s.h.length (Array.replicate ops.size false) a G w [] alts [] [] s:=by
 refine ⟨by rw [msk,List.filterMap_nil,qic];exact hc,(λ_ h=>by cases h),(λ_ h=>by cases h),(λ_ h=>by cases h),(λ_ h=>by cases h),(λ_ h=>by cases h),λds hd=>(B ds hd).order,
  λds hd d=>⟨λh=>.inr (E.same (B ds hd) h),λh=>?_⟩,I,(λ_ h=>by cases h),(λ_ h=>by cases h),λds J d hd=>?_,by simp,λd hd hl=>?_,jo _⟩
 ·rcases h with h | h
  ·cases h
  ·exact (B ds hd).same E h
 ·obtain ⟨o,ho,_⟩:=(B ds J).comp d hd
  have:=(jf.1 ho).1
  simp [this]
 ·have:=qpO hl
  simp at this
  simp [this] at hl
theorem qml (hm:P.follows .mixedOrders = true) {call:AE.Call} (I:qcc P gl call) (hk:qZ call) {ds:List qN} (E:qfZ P gl ops = some ds) {base:Nat} {ro:Option Nat} {m:Nat} {s:St} {x:Ex} {s':St}
  (hc:Cfg P gl G s.h s.t a w) (hb:base <= s.h.length) (M:qx base call (ds.filterMap (·.o.dst)) ds [] s = some (x,s')) {id:Nat}:(Code.region id ops true).wpIn (FR ro) m P (Fin P gl s.h.length G w a.defers x s') a w:=by
 obtain ⟨cl,B⟩:=qhT E
 refine wpIn_region_any hm ?_
 have S:=hc.of_drew (w.drawn + 1)
 have hinv:Inv P gl ops (0,0) ds s.h.length (Array.replicate ops.size false) a G { w with drawn:=w.drawn + 1} [] ([[]].map (ds ++ ·)) [] [] s:=
  qqe B (λes J=>by simp at J;rw [J];exact B) ⟨_,jJ ..⟩ S
 obtain ⟨pre,a1,U,pend,s1,h1,h2,h3,h4,h5,h6⟩:=qjR (tails:=[[]]) ds [] [] [] s hinv hb (λt ht=>by simp at ht;subst ht;simpa using M)
 refine qtq (λd hd k hk=>List.mem_filterMap.2 ⟨d,hd,hk⟩) I hk B ops.size _ _ _ _ _ _ _ _ _ _ (.inl ⟨rfl,.inl rfl⟩) h1 h2 h3 h4 (λt ht=>?_) λe a' w' hf=>?_
 ·simp at ht
  subst ht
  have:=B.len
  simp at h5 ⊢
  omega
 ·exact Fin.of_ext (jo _) ((Ext.refl _ G w).drew _) hf
theorem Rel.putLoop (hr:Rel P gl G h w) {i b:Nat} (hi:G.γ i = some b) {t0:List qa} {S:List Nat} {J E:qG} {M:LSt} {B:Option qzP} (hx:h[i]? = some (.loop t0 S J E M B))
  {t:List qa} {ps:List Nat} {asg body:qG} {st:LSt} {pend:Option qzP} {L':Loop} (hL:qgi P gl G t ps asg body st pend L') :
  Rel P gl G (h.set i (.loop t ps asg body st pend)) (w.putObj b (.loop L')):=
 hr.putBox hi hx (by simp) (λc e I=>by obtain ⟨L,h1,_⟩:=hr.box i b _ hi hx;rw [h1] at I;cases I) ⟨L',World.putObj_heap_same (hr.γlt i b hi).2,hL⟩
theorem qaV.putLoop (hr:Rel P gl G h w) {ts:Array Value} (ht:qaV G w t ts) {i b:Nat} (hi:G.γ i = some b) (o:Obj):qaV G (w.putObj b o) t ts:=
 ⟨ht.rel,λj xs k v hx hv=>(ht.own j xs k v hx hv).keep (λ_ h=>h) (λy hy=>World.putObj_heap_other λe=>(hr.ow y _ hy).2 i (by rw [hi,e])) (λ_ _ _ h=>h)⟩
theorem Ext.putLoop (n:Nat) {i b:Nat} (hi:G.γ i = some b) {L L':Loop} (hL:w.heap[b]? = some (.loop L)) (he:L'.fn = L.fn/\L'.tmps = L.tmps/\L'.params = L.params/\L'.assign = L.assign/\L'.body = L.body/\L'.defers = L.defers) :
  Ext n G w G (w.putObj b (.loop L')):=by
 refine ⟨λ_ _ h=>h,λ_ _ h=>.inl h,λ_ _ _ h=>h,λ_ _ _ h=>.inl h,λ_ h=>.inl h,by simp,λb' _ hf=>World.putObj_heap_other (λe=>hf.1 i (by rw [hi,e])),λb' M hM=>?_,rfl,rfl,rfl⟩
 by_cases e:b' = b
 ·subst e
  rw [hL] at hM
  cases hM
  exact ⟨L',World.putObj_heap_same (jf.1 hL).1,he⟩
 ·exact ⟨M,by rw [World.putObj_heap_other e];exact hM,rfl,rfl,rfl,rfl,rfl,rfl⟩
theorem Rel.putFar (hr:Rel P gl G h w) {r:Nat} {o:Obj} (hf:qcS G r) (hc:∀k,w.cell? ⟨r,k,none⟩ = none):Rel P gl G h (w.putObj r o):=by
 refine ⟨λj b' hj=>by simpa using hr.γlt j b' hj,hr.inj,λj b' bx hj hx=>?_,λb' k v hv hm=>?_,hr.immγ,λb' k hv=>?_,λb' ℓ E=>⟨by simpa using (hr.ow b' ℓ E).1,(hr.ow b' ℓ E).2⟩,hr.glob⟩
 ·have h0:=hr.box j b' bx hj hx
  obtain ⟨n,hn⟩:=qb.lower_ex bx
  exact h0.keep hn (λ_ _ _ h=>h) (λ_ _ _ h=>h) (World.putObj_heap_other λe'=>hf.1 j (by rw [hj,e'])) (λ_ _ h=>h)
   (λI o B=>World.putObj_heap_other λe'=>by rw [e',hf.2] at B;cases B) (λ_ _ _ _ h=>h)
 ·obtain ⟨h1,h2⟩:=hr.imm b' k v hv hm
  refine ⟨?_,by simpa using h2⟩
  rw [qbL (w:=w) (World.putObj_heap_other λe'=>?_)]
  ·exact h1
  ·subst e'
   rw [hc] at h1
   cases h1
 ·obtain ⟨h0,c,e,h1,h2⟩:=hr.immK b' k hv
  refine ⟨h0,c,e,?_,h2⟩
  rw [World.putObj_heap_other λe'=>?_]
  ·exact h1
  ·subst e'
   have:=hc 0
   simp only [World.cell?,h1] at this
   have h3:c[0]? = none:=this
   have:=Array.getElem?_eq_none_iff.1 h3
   omega
theorem qaV.putFar {ts:Array Value} (ht:qaV G w t ts) {r:Nat} {o:Obj} (hf:qcS G r):qaV G (w.putObj r o) t ts:=
 ⟨ht.rel,λj xs k v hx hv=>(ht.own j xs k v hx hv).keep (λ_ h=>h) (λy hy=>World.putObj_heap_other λe=>by rw [e,hf.2] at hy;cases hy) (λ_ _ _ h=>h)⟩
theorem Ext.putFar {w0:World} {G0:qc} (he:Ext n G0 w0 G w) {r:Nat} (hr:w0.heap.size <= r) (o:Obj):Ext n G0 w0 G (w.putObj r o):=by
 refine ⟨he.gk,he.gn,he.ik,he.inew,he.on,by simpa using he.size,λb hb hf=>?_,λb L hL=>?_,he.os,he.tape,he.output⟩
 ·rw [World.putObj_heap_other zo]
  exact he.heap b hb hf
 ·obtain ⟨L',h1,h2⟩:=he.loops b L hL
  have hb:=(jf.1 hL).1
  exact ⟨L',by rw [World.putObj_heap_other zo];exact h1,h2⟩
structure qhh (G:qc) (w:World) (lo:Nat) (ds:List Deferred):Prop where
 nodup:ds.Nodup
 all:∀d ∈ ds,∃r,d = { target:=.collected r,args:=#[]}/\lo <= r/\w.heap[r]? = some (.deferred (some []))/\qcS G r
theorem qcS.ext {r:Nat} (hf:qcS G r) (hr:r < w.heap.size) (he:Ext n G w G' w'):qcS G' r:=by
 refine ⟨λi hi=>?_,?_⟩
 ·rcases he.gn i r hi with h1 | ⟨_,h1 | ⟨j,h1⟩⟩
  ·exact hf.1 i h1
  ·omega
  ·exact hf.1 j h1
 ·cases ho:G'.ow r with
  | none=>rfl
  | some ℓ=>
   rcases he.on r (by simp [ho]) with h1 | h1
   ·exact absurd hf.2 h1
   ·omega
theorem qhh.ext {lo:Nat} {ds:List Deferred} (hm:qhh G w lo ds) (he:Ext n G w G' w'):qhh G' w' lo ds:=
 ⟨hm.nodup,λd hd=>by
  obtain ⟨r,h1,h2,h3,h4⟩:=hm.all d hd
  have hr:=(jf.1 h3).1
  exact ⟨r,h1,h2,by rw [he.heap r hr h4];exact h3,h4.ext hr he⟩⟩
def qea (G:qc) (w:World) (lo:Nat) (rf:Bool) (fx ds:List Deferred):Prop:=∃ms,ds = ms ++ fx/\qhh G w lo ms/\(rf = true->ms = [])
theorem qea.ext {lo:Nat} {rf:Bool} {fx ds:List Deferred} (hm:qea G w lo rf fx ds) (he:Ext n G w G' w'):qea G' w' lo rf fx ds:=
 let ⟨ms,h1,h2,h3⟩:=hm
 ⟨ms,h1,h2.ext he,h3⟩
def qel (ro:Option Nat) (w:World):Prop:=∀l,ro = some l->∃L,w.heap[l]? = some (.loop L)
theorem qel.ext {ro:Option Nat} (hr:qel ro w) (he:Ext n G w G' w'):qel ro w':=λl hl=>by
 obtain ⟨L,h1⟩:=hr l hl
 obtain ⟨L',h2,_⟩:=he.loops l L h1
 exact ⟨L',h2⟩
def qob (P:Program) (gl:Nat->Option (List qa)) (n:Nat) (G:qc) (w:World) (lo:Nat) (rf:Bool) (fx:List Deferred) (x:Ex) (s':St) (e:Exit) (a':Act) (w':World):Prop:=
 ∃G',Ext n G w G' w'/\qea G' w' lo rf fx a'.defers/\match x with
  | .nor=>e = .normal/\Cfg P gl G' s'.h s'.t a' w'
  | .exit id=>e = .exit id/\Cfg P gl G' s'.h s'.t a' w'
  | .ret=>e = .ret/\Cfg P gl G' s'.h s'.t a' w'
  | .pan pv=>∃v,e = .panic [{ v,recovered:=false}]/\Cfg P gl G' s'.h s'.t a' w'/\G'.V pv v
theorem Fin.to2 {lo:Nat} {rf:Bool} {fx ds:List Deferred} {x:Ex} {s':St} {e:Exit} {a':Act} (hm:qea G w lo rf fx ds) (hf:Fin P gl n G w ds x s' e a' w'):qob P gl n G w lo rf fx x s' e a' w':=by
 obtain ⟨G',h1,h2,h3⟩:=hf
 exact ⟨G',h1,by rw [h2];exact hm.ext h1,h3⟩
theorem qob.of_ext {m lo:Nat} {rf:Bool} {fx:List Deferred} {x:Ex} {s':St} {e:Exit} {a':Act} {B:World} (E:n <= m) (he:Ext n G w G' w') (hf:qob P gl m G' w' lo rf fx x s' e a' B):qob P gl n G w lo rf fx x s' e a' B:=
 let ⟨G'',h1,h2⟩:=hf
 ⟨G'',he.trans E h1,h2⟩
end
section
variable {P:Program} {gl:Nat->Option (List qa)}
theorem qd8 {w:World} {E:Nat} {B:Loop} (h:w.heap[E]? = some (.loop B)) (fn:FuncId) (tmps:Array Value) (ps:Array Tmp) (assign body:Code) :
  (Instr.enterLoop fn tmps ps assign body (some E)).run P w =
   .ok (w.heap.size,[]) (w.alloc (.loop { state:=.ready,pending:=none,fn,tmps,params:=ps,assign,body,defers:=B.defers})):=by
 unfold Instr.enterLoop
 simp only [Sem.run_bind,run_getLoop h,run_newObj_alloc,Result.andThen,Sem.run_pure]
theorem qj8 {ro:Option Nat} {G:qc} {w:World} {h:List qb} {t:List qa} {a:Act} (hc:Cfg P gl G h t a w) (S:qel ro w) {lo:Nat} (a1:lo <= w.heap.size) {ms:List Deferred} (hm:qhh G w lo ms) (fn:FuncId) {ps:Array Tmp} {assign body:Code} {asg bd:qG}
  (ha:comp P gl assign = some asg) (hb:comp P gl body = some bd) :
  ∃l qdw w1 G1,(Instr.enterLoop fn a.tmps ps assign body ro).run P w = .ok (l,qdw) w1/\Ext h.length G w G1 w1/\Rel P gl G1 (h ++ [.loop (t.map qa.dim) ps.toList asg bd .ready none]) w1/\G1.γ h.length = some l/\G1.ow = G.ow/\w.heap.size <= l/\
   qhh G1 w1 lo (qdw ++ ms)/\(∀d ∈ qdw,∃r,d = { target:=.collected r,args:=#[]}/\w.heap.size <= r):=by
 have hi:G.γ h.length = none:=by
  cases hg:G.γ h.length with
  | none=>rfl
  | some b=>have:=(hc.rel.γlt _ b hg).1;omega
 have B:∀{w0:World} {L:Loop},Rel P gl G h w0->G.VL (t.map qa.dim) L.tmps.toList->L.params = ps->L.assign = assign->L.body = body->L.state = .ready->L.pending = none->
   Rel P gl (G.withBox h.length w0.heap.size) (h ++ [.loop (t.map qa.dim) ps.toList asg bd .ready none]) (w0.alloc (.loop L))/\Ext h.length G w0 (G.withBox h.length w0.heap.size) (w0.alloc (.loop L)):=by
  intro w0 L hr h1 h2 h3 h4 h5 h6
  have E:Ext h.length G w0 (G.withBox h.length w0.heap.size) (w0.alloc (.loop L)):=Ext.newBox hi (jo _) _
  refine ⟨hr.newBox (o:=.loop L) (bx:=.loop (t.map qa.dim) ps.toList asg bd .ready none) hi (by simp) (by simp) (λj hj b hb=>by rw [ja (hr.γlt j b hb).1]) (by simp) ⟨L,qax w0 _,?_⟩,E⟩
  exact ⟨E.VL h1,λx hx=>by obtain ⟨y,_,rfl⟩:=jU.1 hx;exact qbE y,by rw [h2],by rw [h3];exact ha,by rw [h4];exact hb,by rw [h5];trivial,by rw [h6];trivial⟩
 cases ro with
 | none=>
  have U:=hc.rel.alloc (.deferred (some []))
  obtain ⟨h1,h2⟩:=B (w0:=w.alloc (.deferred (some []))) (L:={ state:=.ready,pending:=none,fn,tmps:=a.tmps,params:=ps,assign,body,defers:=w.heap.size}) U hc.tr.rel.dims rfl rfl rfl rfl rfl
  have hE:Ext h.length G w (G.withBox h.length (w.alloc (.deferred (some []))).heap.size) ((w.alloc (.deferred (some []))).alloc (.loop { state:=.ready,pending:=none,fn,tmps:=a.tmps,params:=ps,assign,body,defers:=w.heap.size})):=
   (Ext.alloc h.length G w (.deferred (some []))).trans (jo _) h2
  have M:qcS G w.heap.size:=⟨λi hi=>by have:=(hc.rel.γlt i _ hi).2;omega,by
   cases ho:G.ow w.heap.size with
   | none=>rfl
   | some ℓ=>have:=(hc.rel.ow _ _ ho).1;omega⟩
  refine ⟨_,_,_,_,run_enterLoop_outer fn a.tmps ps assign body,hE,h1,by simp [qc.withBox],rfl,zo,⟨?_,λd hd=>?_⟩,λd hd=>⟨w.heap.size,by simpa using hd,jo _⟩⟩
  ·rw [List.singleton_append,List.nodup_cons]
   refine ⟨λJ=>?_,hm.nodup⟩
   obtain ⟨r,h3,_,h5,_⟩:=hm.all _ J
   have hlt:=(jf.1 h5).1
   injection h3 with h3
   injection h3 with h3
   omega
  ·rw [List.singleton_append] at hd
   rcases List.mem_cons.1 hd with rfl | hd
   ·refine ⟨w.heap.size,rfl,a1,?_,?_⟩
    ·rw [qaa _ _ (by simp)]
     exact qax w _
    ·exact M.ext (w:=w.alloc (.deferred (some []))) (by simp) h2
   ·exact (hm.ext hE).all d hd
 | some I=>
  obtain ⟨L0,a6⟩:=S I rfl
  obtain ⟨h1,h2⟩:=B (w0:=w) (L:={ state:=.ready,pending:=none,fn,tmps:=a.tmps,params:=ps,assign,body,defers:=L0.defers}) hc.rel hc.tr.rel.dims rfl rfl rfl rfl rfl
  refine ⟨_,_,_,_,qd8 a6 fn a.tmps ps assign body,h2,h1,by simp [qc.withBox],rfl,jo _,?_,λ_ h=>by cases h⟩
  rw [List.nil_append]
  exact hm.ext h2
theorem qzu {st:LSt} {S:LoopState} (h:qk2 st S) (hb:st ≠ .busy):S ≠ .busy:=by
 cases st <;> cases S <;> simp_all [qk2]
theorem qcr (aW:P.follows .mixedOrders = true) {call:AE.Call} (ab:qcc P gl call) (hk:qZ call) {N base lo:Nat} {rf:Bool} {fx:List Deferred} {ro:Option Nat} {m:Nat} :
  ∀(c:Code) (ac:qG),comp P gl c = some ac->(rf = true->ac.noRf = true)->∀(G:qc) (w:World) (s:St) (a:Act) (x:Ex) (s':St),Cfg P gl G s.h s.t a w->base <= s.h.length->qel ro w->qea G w lo rf fx a.defers->lo <= w.heap.size->
   qbe N base call ac s = some (x,s')->c.wpIn (FR ro) m P (qob P gl s.h.length G w lo rf fx x s') a w:=by
 intro c
 induction c with
 | skip=>
  intro ac B S G w s a x s' hc hb J hm M E
  simp only [comp] at B
  cases B
  simp only [qbe] at E
  cases E
  exact wpIn_skip ⟨G,Ext.refl _ G w,hm,rfl,hc⟩
 | region id ops draw=>
  intro ac B S G w s a x s' hc hb J hm M E
  cases draw with
  | false=>
   simp only [comp] at B
   obtain ⟨os,aQ,rfl⟩:=qcf B
   simp only [qbe] at E
   have hl:=qdG ops.toList 0 os (by simp) aQ
   rw [Array.length_toList,<-List.range_eq_range'] at hl
   exact wpIn_region (qrq ab hk _ os hl G w s.h s.t s.e a [] hc qbv.nil hb E _ λe a' w' hf=>hf.to2 hm)
  | true=>
   simp only [comp] at B
   split at B
   ·rename_i ds au
    cases B
    simp only [qbe] at E
    exact wpIn_mono (qml aW ab hk au hc hb E) λe a' w' hf=>hf.to2 hm
   ·cases B
 | seq c1 c2 ah al=>
  intro ac B S G w s a x s' hc hb J hm M E
  simp only [comp] at B
  split at B
  ·rename_i b1 b2 e1 e2
   cases B
   simp only [qbe] at E
   split at E
   ·rename_i s1 h1
    have a1:=(qU (base:=base) hk N b1 s s1 _ hb h1).1
    refine wpIn_seq (wpIn_mono (ah b1 e1 (λh=>by have:=S h;simp only [qG.noRf,jm] at this;exact this.1) G w s a _ s1 hc hb J hm M h1) λe a' w' hf=>?_)
    obtain ⟨G',g1,g2,rfl,g4⟩:=hf
    exact wpIn_mono (al b2 e2 (λh=>by have:=S h;simp only [qG.noRf,jm] at this;exact this.2) G' w' s1 a' x s' g4 (jp hb a1) (J.ext g1) g2 (jp M g1.size) E) λe b7 aM hf=>hf.of_ext a1 g1
   ·rename_i r h1
    refine wpIn_seq (wpIn_mono (ah b1 e1 (λh=>by have:=S h;simp only [qG.noRf,jm] at this;exact this.1) G w s a x s' hc hb J hm M E) λe a' w' hf=>?_)
    obtain ⟨G',g1,g2,g3⟩:=hf
    cases x with
    | nor=>exact absurd E (h1 s')
    | exit id=>obtain ⟨rfl,g3⟩:=g3;exact ⟨G',g1,g2,rfl,g3⟩
    | ret=>obtain ⟨rfl,g3⟩:=g3;exact ⟨G',g1,g2,rfl,g3⟩
    | pan v=>obtain ⟨u,rfl,g3⟩:=g3;exact ⟨G',g1,g2,u,rfl,g3⟩
  ·cases B
 | cond o c1 c2 ah al=>
  intro ac B S G w s a x s' hc hb J hm M E
  simp only [comp] at B
  split at B
  ·rename_i z b1 b2 ez e1 e2
   cases B
   have hv:=qah hc.rel hc.tr ez
   simp only [qbe] at E
   split at E
   ·rename_i hz
    rw [hz] at hv
    simp only [qc.V,qC] at hv
    exact wpIn_cond_true hv (ah b1 e1 (λh=>by have:=S h;simp only [qG.noRf,jm] at this;exact this.1) G w s a x s' hc hb J hm M E)
   ·rename_i hz
    rw [hz] at hv
    simp only [qc.V,qC] at hv
    exact wpIn_cond_false hv (al b2 e2 (λh=>by have:=S h;simp only [qG.noRf,jm] at this;exact this.2) G w s a x s' hc hb J hm M E)
   ·cases E
  ·cases B
 | block id c ih=>
  intro ac B S G w s a x s' hc hb J hm M E
  simp only [comp] at B
  obtain ⟨b,af,rfl⟩:=qcf B
  simp only [qbe] at E
  refine wpIn_block ?_
  split at E
  ·rename_i j s1 h1
   refine wpIn_mono (ih b af (λh=>S h) G w s a _ s1 hc hb J hm M h1) λe a' w' hf=>?_
   obtain ⟨G',g1,g2,rfl,g4⟩:=hf
   simp only [Exit.inBlock]
   split at E
   ·rename_i hj
    cases E
    rw [if_pos hj]
    exact ⟨G',g1,g2,rfl,g4⟩
   ·rename_i hj
    cases E
    rw [if_neg hj]
    exact ⟨G',g1,g2,rfl,g4⟩
  ·rename_i r h1
   refine wpIn_mono (ih b af (λh=>S h) G w s a x s' hc hb J hm M E) λe a' w' hf=>?_
   obtain ⟨G',g1,g2,g3⟩:=hf
   cases x with
   | nor=>obtain ⟨rfl,g3⟩:=g3;exact ⟨G',g1,g2,rfl,g3⟩
   | exit id=>exact absurd E (h1 id s')
   | ret=>obtain ⟨rfl,g3⟩:=g3;exact ⟨G',g1,g2,rfl,g3⟩
   | pan v=>obtain ⟨u,rfl,g3⟩:=g3;exact ⟨G',g1,g2,u,rfl,g3⟩
 | loop c ih=>
  intro ac B S G w s a x s' hc hb J hm M E
  simp only [comp] at B
  obtain ⟨b,af,rfl⟩:=qcf B
  simp only [qbe] at E
  refine wpIn_loop_rounds N ?_
  have key:∀(k:Nat) (G:qc) (w:World) (s:St) (a:Act),Cfg P gl G s.h s.t a w->base <= s.h.length->qel ro w->qea G w lo rf fx a.defers->lo <= w.heap.size->iter (qbe N base call b) k s = some (x,s')->
    Code.roundsIn (FR ro) m P c (qob P gl s.h.length G w lo rf fx x s') k a w:=by
   intro k
   induction k with
   | zero=>intro G w s a _ _ _ _ _ hit;simp [iter] at hit
   | succ k ak=>
    intro G w s a hc hb J hm M hit
    rw [roundsIn_succ]
    simp only [iter] at hit
    split at hit
    ·rename_i s1 h1
     have a1:=(qU (base:=base) hk N b s s1 _ hb h1).1
     refine wpIn_mono (ih b af (λh=>S h) G w s a _ s1 hc hb J hm M h1) λe a' w' hf=>?_
     obtain ⟨G',g1,g2,rfl,g4⟩:=hf
     have:=ak G' w' s1 a' g4 (jp hb a1) (J.ext g1) g2 (jp M g1.size) hit
     have mono:∀(k:Nat) (Q Q':Exit->Act->World->Prop),(∀e a w,Q e a w->Q' e a w)->∀a w,Code.roundsIn (FR ro) m P c Q k a w->Code.roundsIn (FR ro) m P c Q' k a w:=by
      intro k Q Q' hq
      induction k with
      | zero=>exact λa w h=>h
      | succ k ak=>exact λa w h=>wpIn_mono h λe a w he=>by cases e <;> first | exact ak a w he | exact hq _ _ _ he
     exact mono k _ _ (λe b7 aM hf=>hf.of_ext a1 g1) _ _ this
    ·rename_i r h1
     refine wpIn_mono (ih b af (λh=>S h) G w s a x s' hc hb J hm M hit) λe a' w' hf=>?_
     obtain ⟨G',g1,g2,g3⟩:=hf
     cases x with
     | nor=>exact absurd hit (h1 s')
     | exit id=>obtain ⟨rfl,g3⟩:=g3;exact ⟨G',g1,g2,rfl,g3⟩
     | ret=>obtain ⟨rfl,g3⟩:=g3;exact ⟨G',g1,g2,rfl,g3⟩
     | pan v=>obtain ⟨u,rfl,g3⟩:=g3;exact ⟨G',g1,g2,u,rfl,g3⟩
  exact key N G w s a hc hb J hm M E
 | rangeFunc g ps assign body bg bf=>
  intro ac B S G w s a x s' hc hb J hm M E
  simp only [comp] at B
  split at B
  ·rename_i z asg bd ez ea eb
   cases B
   simp only [qbe] at E
   split at E
   ·rename_i g0 first cap hz
    obtain ⟨ms,au,hm,b9⟩:=hm
    have S:rf = false:=by
     cases rf with
     | false=>rfl
     | true=>have:=S rfl;simp [qG.noRf] at this
    refine wpIn_rangeFunc λfn _=>?_
    obtain ⟨aP,aV⟩:=hc.rel.cellsOnly
    have b5:Cfg P gl G s.h s.t a w:=hc
    have b4:Cfg P gl G.cellsOnly s.h (s.t.map qa.dim) a w:=⟨aP,⟨hc.tr.rel.dims,λi xs k v hx _=>(qji hx).elim⟩⟩
    have aY:qhh G.cellsOnly w lo ms:=⟨hm.nodup,λd hd=>by
     obtain ⟨r,h1,h2,h3,h4⟩:=hm.all d hd
     exact ⟨r,h1,h2,h3,h4.1,by simp [qc.cellsOnly,h4.2]⟩⟩
    obtain ⟨l,qdw,w1,G1,e1,e2,e3,e4,e5,e6,e7,e8⟩:=qj8 b4 J M aY fn (ps:=ps) ea eb
    have aX:(s.t.map qa.dim).map qa.dim = s.t.map qa.dim:=by rw [jL];exact List.map_congr_left λy _=>qbE y
    rw [aX] at e3
    have aU:qej G1:=λb i=>by rw [e5];exact aV b i
    have aF:G1.V (.fn g0 first cap) (a.eval g):=by
     have:=qah hc.rel hc.tr ez
     rw [hz] at this
     exact e2.V this
    have b6:G1.VL [.yld s.h.length] (#[.func (.yield l) #[] #[]]:Array Value).toList:=by
     simp only [qc.VL,qg,qC]
     exact ⟨_,_,rfl,⟨l,e4,rfl⟩,rfl⟩
    have aB:(s.h ++ [qb.loop (s.t.map qa.dim) ps.toList asg bd .ready none]).length = s.h.length + 1:=by simp
    have after:∀{G2:qc} {w3:World} {h3:List qb} {n2:Nat},Ext s.h.length G.cellsOnly w G2 w3->Ext n2 G1 w1 G2 w3->Rel P gl G2 h3 w3->
      Ext s.h.length G w (G2.with G) w3/\Rel P gl (G2.with G) h3 w3/\qaV (G2.with G) w3 s.t a.tmps/\qea (G2.with G) w3 lo rf fx (qdw ++ a.defers):=by
     intro G2 w3 h3 n2 x1 x2 x3
     obtain ⟨b1,b2,b3⟩:=qeJ b5 x1 x3
     refine ⟨b1,b2,b3,qdw ++ ms,by rw [au,List.append_assoc],?_,λh=>by rw [S] at h;cases h⟩
     have h5:=e7.ext x2
     refine ⟨h5.nodup,λd hd=>?_⟩
     obtain ⟨r,g1,g2,g3,g4⟩:=h5.all d hd
     refine ⟨r,g1,g2,g3,g4.1,?_⟩
     cases hgo:G.ow r with
     | none=>simp [qc.with,hgo,g4.2]
     | some ℓ=>
      cases ℓ with
      | cell i o=>simp [qc.with,hgo,g4.2]
      | tmp i=>
       exfalso
       have bh:=(hc.rel.ow r _ hgo).1
       rcases jM.1 hd with hd | hd
       ·obtain ⟨r',q1,q2⟩:=e8 d hd
        rw [g1] at q1
        injection q1 with q1
        injection q1 with q1
        omega
       ·obtain ⟨r',q1,q2,q3,q4⟩:=hm.all d hd
        rw [g1] at q1
        injection q1 with q1
        injection q1 with q1
        rw [q1,q4.2] at hgo
        cases hgo
    have back:∀{r:qcb} {h':List qb} {e':Bool},call (.fn g0 first cap) [.yld s.h.length] (s.h ++ [.loop (s.t.map qa.dim) ps.toList asg bd .ready none]) = some (r,h',e')->
      (∀w3 v,qoa P gl (s.h.length + 1) G1 w1 r h' (.returned v) w3->rangePost (FR ro) m P l (qob P gl s.h.length G w lo rf fx x s') { a with defers:=qdw ++ a.defers} (.returned v) w3)->
      (∀w3 ch,qoa P gl (s.h.length + 1) G1 w1 r h' (.panicked ch) w3->rangePost (FR ro) m P l (qob P gl s.h.length G w lo rf fx x s') { a with defers:=qdw ++ a.defers} (.panicked ch) w3)->
      ∃(l:Nat) (qdw:List Deferred) (aj:World) (d:Deferred) (a6:World) (f:FuncId) (args:Array Value) (ai:World),
       (Instr.enterLoop fn a.tmps ps assign body (FR ro).round).run P w = .ok (l,qdw) aj/\
       (resolve a.eval (rangeCall g l) 0).run P aj = .ok d a6/\
       (∀f',Target.leads P a6 d.target d.args = some f'->(FR ro).fn f')/\
       (invoke d.target d.args).run P a6 = .ok (.enter f args) ai/\
       ((FR ro).depth.isSome = true->1 <= m)/\
       CallsIn (FR ro) (m - 1) P f args ai (rangePost (FR ro) m P l (qob P gl s.h.length G w lo rf fx x s') { a with defers:=qdw ++ a.defers}):=by
     intro r h' e' ae aI aJ
     rcases ab _ _ _ _ _ _ ae G1 w1 (a.eval g) #[.func (.yield l) #[] #[]] e3 aU aF b6 with ⟨f,as,h1,h2⟩ | ⟨i,b,f,tmps,ba,b8,aO,_⟩ | ⟨v,w',aT,_⟩
     ·have ar:=aF
      simp only [qc.V,qC] at ar
      obtain ⟨xs,ys,aZ,_,_⟩:=ar
      have am:(Deferred.ofValue (a.eval g) #[.func (.yield l) #[] #[]]).run P w1 = .ok { target:=.fn (.func g0) ys,args:=xs ++ #[.func (.yield l) #[] #[]]} w1:=by rw [aZ];rfl
      have hinv:(invoke (.fn (.func g0) ys) (xs ++ #[.func (.yield l) #[] #[]])).run P w1 = .ok (.enter f as) w1:=by
       have:=h1
       simp only [qeI,Sem.run_bind,am,Result.andThen] at this
       exact this
      refine ⟨l,qdw,w1,{ target:=.fn (.func g0) ys,args:=xs ++ #[.func (.yield l) #[] #[]]},w1,f,as,w1,e1,?_,λ_ _=>trivial,hinv,qfX,?_⟩
      ·simp only [resolve,List.map_toArray,List.map_cons,List.map_nil]
       exact am
      ·refine CallsIn.mono (h2 ro (m - 1)) λe w3 U=>?_
       rw [aB] at U
       cases e with
       | returned v=>exact aI w3 v U
       | panicked ch=>exact aJ w3 ch U
       | outgrown=>exact U.elim
     ·cases aO
     ·exact absurd rfl (aT s.h.length)
    split at E
    ·rename_i rv h' e' ae
     refine back ae (λw3 v U=>?_) (λw3 ch U=>?_)
     ·obtain ⟨aN,G2,aE,k1,k2,k3,k4⟩:=U
      have a8:=k1.gk _ _ e4
      split at E
      ·rename_i t2 aD az aH st2 a7 aG
       split at E
       ·cases E
       ·rename_i aR
        obtain ⟨L2,ay,av⟩:=k2.box _ _ _ a8 aG
        have I:=av.pend
        have aK:=run_endLoop (P:=P) ay (qzu av.st aR)
        have aL:qgi P gl G2 t2 aD az aH .exhausted a7 { L2 with state:=.exhausted}:={ av with st:=trivial}
        have aA:=k2.putLoop a8 aG aL
        have aC:Ext s.h.length G.cellsOnly w G2 (w3.putObj l (.loop { L2 with state:=.exhausted})):=
         (e2.trans (Nat.le_succ _) k1).trans (jo _) (Ext.putLoop _ a8 ay ⟨rfl,rfl,rfl,rfl,rfl,rfl⟩)
        obtain ⟨b1,b2,b3,ad⟩:=after aC (k1.trans (jo _) (Ext.putLoop _ a8 ay ⟨rfl,rfl,rfl,rfl,rfl,rfl⟩)) aA
        have aa:Cfg P gl (G2.with G) (h'.set s.h.length (.loop t2 aD az aH .exhausted a7)) s.t { a with defers:=qdw ++ a.defers} (w3.putObj l (.loop { L2 with state:=.exhausted})):=⟨b2,b3⟩
        suffices hs:∀j,j = L2.pending->(match j with
          | none=>qob P gl s.h.length G w lo rf fx x s' .normal { a with defers:=qdw ++ a.defers} (w3.putObj l (.loop { L2 with state:=.exhausted}))
          | some c=>c.wpIn (FR ro) m P (qob P gl s.h.length G w lo rf fx x s') { a with defers:=qdw ++ a.defers} (w3.putObj l (.loop { L2 with state:=.exhausted}))) from ⟨_,_,aK,hs _ rfl⟩
        intro j hj
        cases hp:a7 with
        | none=>
         rw [hp] at E I
         simp only at E
         cases E
         have:L2.pending = none:=by cases hq:L2.pending <;> rw [hq] at I <;> first | rfl | exact I.elim
         cases hj.trans this
         exact ⟨_,b1,ad,rfl,by rw [<-hp];exact aa⟩
        | some j2=>
         rw [hp] at E I
         cases j2 with
         | ret=>
          simp only at E
          cases E
          have:L2.pending = some .ret:=by
           cases hq:L2.pending with
           | none=>rw [hq] at I;exact I.elim
           | some c=>rw [hq] at I;cases c <;> first | rfl | exact I.elim
          cases hj.trans this
          exact wpIn_ret ⟨_,b1,ad,rfl,by rw [<-hp];exact aa⟩
         | exit id=>
          simp only at E
          cases E
          have:L2.pending = some (.exit id):=by
           cases hq:L2.pending with
           | none=>rw [hq] at I;exact I.elim
           | some c=>
            rw [hq] at I
            cases c <;> first | (simp only [qkO] at I;rw [I];done) | exact I.elim
          cases hj.trans this
          exact wpIn_exit ⟨_,b1,ad,rfl,by rw [<-hp];exact aa⟩
      ·cases E
     ·obtain ⟨pv,v,G2,ap,_⟩:=U
      cases ap
    ·rename_i pv h' e' ae
     cases E
     refine back ae (λw3 v U=>?_) (λw3 ch U=>?_)
     ·obtain ⟨aN,G2,aE,_⟩:=U
      cases aE
     ·obtain ⟨bc,v,G2,ap,rfl,k1,k2,k3,k4⟩:=U
      cases ap
      obtain ⟨b1,b2,b3,ad⟩:=after (e2.trans (Nat.le_succ _) k1) k1 k2
      exact ⟨_,b1,ad,v,rfl,⟨b2,b3⟩,k4⟩
    ·cases E
   ·cases E
  ·cases B
 | exit id=>
  intro ac B S G w s a x s' hc hb J hm M E
  simp only [comp] at B
  cases B
  simp only [qbe] at E
  cases E
  exact wpIn_exit ⟨G,Ext.refl _ G w,hm,rfl,hc⟩
 | scope c ih=>intro ac B;simp [comp] at B
 | label l=>intro ac B;simp [comp] at B
 | goto l=>intro ac B;simp [comp] at B
 | ret=>
  intro ac B S G w s a x s' hc hb J hm M E
  simp only [comp] at B
  cases B
  simp only [qbe] at E
  cases E
  exact wpIn_ret ⟨G,Ext.refl _ G w,hm,rfl,hc⟩
 | refuse bb=>intro ac B;simp [comp] at B
end
section
variable {P:Program} {gl:Nat->Option (List qa)} {G G' G0:qc} {w w' w0:World} {h:List qb} {t:List qa} {ts:Array Value} {n:Nat}
mutual
theorem qdA {γ:Nat->Option Nat} {imm:Nat->Nat->Option Value} {n:Nat} (B:∀i b,γ i = some b->i < n):∀(a:qa) (v:Value),qC γ imm a v->a.lower n = true
 | .undef,_,_=>rfl
 | .bool _,_,_=>rfl
 | .int _ _,_,_=>rfl
 | .str _,_,_=>rfl
 | .nilptr,_,_=>rfl
 | .ptr i o,v,h=>by simp only [qC] at h;obtain ⟨b,hb,_⟩:=h;simpa [qa.lower] using B i b hb
 | .iptr cs o,v,h=>by simp only [qC] at h;obtain ⟨b,p,_,hc⟩:=h;simp only [qa.lower];exact qhQ B cs b p hc
 | .lst xs f,v,h=>by
  simp only [qC] at h
  obtain ⟨a,len,cap,_,_,_,_,_,_,h5⟩:=h
  simp only [qa.lower]
  rcases h5 with rfl | ⟨b,p,_,he⟩
  ·rfl
  ·exact qlg B xs b p he
 | .nilfunc,_,_=>rfl
 | .fn f as bs,v,h=>by
  simp only [qC] at h
  obtain ⟨x,y,_,h1,h2⟩:=h
  simp only [qa.lower,jm]
  exact ⟨qdi B as _ h1,qdi B bs _ h2⟩
 | .yld i,v,h=>by simp only [qC] at h;obtain ⟨b,hb,_⟩:=h;simpa [qa.lower] using B i b hb
 | .niliface,_,_=>rfl
 | .iface t a,v,h=>by simp only [qC] at h;obtain ⟨x,_,h1⟩:=h;simp only [qa.lower];exact qdA B a x h1
 | .agg cs,v,h=>by simp only [qC] at h;obtain ⟨x,_,h1⟩:=h;simp only [qa.lower];exact qdi B cs _ h1
 | .tup cs,v,h=>by simp only [qC] at h;obtain ⟨x,_,h1⟩:=h;simp only [qa.lower];exact qdi B cs _ h1
 | .sl i _ _ _ _,v,h=>by simp only [qC] at h;obtain ⟨b,c,hb,_⟩:=h;simpa [qa.lower] using B i b hb
 | .mp i,v,h=>by simp only [qC] at h;obtain ⟨b,hb,_⟩:=h;simpa [qa.lower] using B i b hb
 | .nilmap,_,_=>rfl
 | .nils,_,_=>rfl
 | .empt,_,_=>rfl
theorem qdi {γ:Nat->Option Nat} {imm:Nat->Nat->Option Value} {n:Nat} (B:∀i b,γ i = some b->i < n):∀(as:List qa) (vs:List Value),qg γ imm as vs->qr n as = true
 | [],_,_=>rfl
 | a :: as,vs,h=>by
  simp only [qg] at h
  obtain ⟨v,rest,_,h1,h2⟩:=h
  simp only [qr,jm]
  exact ⟨qdA B a v h1,qdi B as rest h2⟩
theorem qhQ {γ:Nat->Option Nat} {imm:Nat->Nat->Option Value} {n:Nat} (B:∀i b,γ i = some b->i < n):∀(cs:List qa) (b p:Nat),qar γ imm cs b p->qr n cs = true
 | [],_,_,_=>rfl
 | c :: cs,b,p,h=>by
  simp only [qar] at h
  obtain ⟨⟨v,_,h1⟩,h2⟩:=h
  simp only [qr,jm]
  exact ⟨qdA B c v h1,qhQ B cs b (p + 1) h2⟩
theorem qlg {γ:Nat->Option Nat} {imm:Nat->Nat->Option Value} {n:Nat} (B:∀i b,γ i = some b->i < n):∀(xs:List qa) (b p:Nat),qW γ imm xs b p->qr n xs = true
 | [],_,_,_=>rfl
 | x :: xs,b,p,h=>by
  obtain ⟨h1,h2⟩:=h.uncons
  simp only [qr,jm]
  refine ⟨?_,qlg B xs b _ h2⟩
  cases x with
  | agg cs=>simp only [qa.cells] at h1;simp only [qa.lower];exact qhQ B cs b p h1
  | _=>
   simp only [qa.cells,qar] at h1
   obtain ⟨⟨v,_,h3⟩,_⟩:=h1
   exact qdA B _ v h3
end
theorem qoh {n:Nat} (B:∀i b,G.γ i = some b->i < n):∀(es:List (Nat×qa×qa)) (me:List MapEntry),qae G es me->qbg n es = true
 | [],_,_=>rfl
 | x :: xs,me,h=>by
  simp only [qae] at h
  obtain ⟨e,rest,_,_,h2,h3,h4⟩:=h
  simp only [qbg,jm]
  exact ⟨⟨qdA B _ _ h2,qdA B _ _ h3⟩,qoh B xs rest h4⟩
theorem qov (hr:Rel P gl G h w) {i b:Nat} {bx:qb} (hi:G.γ i = some b) (hx:h[i]? = some bx):bx.lower h.length = true:=by
 have B:∀i b,G.γ i = some b->i < h.length:=λi b hb=>(hr.γlt i b hb).1
 have h0:=hr.box i b bx hi hx
 cases bx with
 | cells cs=>obtain ⟨c,e,_,h1,_⟩:=h0;exact qdi B cs _ h1
 | loop t ps asg body st pend=>obtain ⟨L,_,h1⟩:=h0;exact qdi B t _ h1.tmps
 | map es _=>obtain ⟨me,_,h1⟩:=h0;exact qoh B es _ h1
 | iter m _ _ _=>obtain ⟨mm,_,h1⟩:=h0;exact qdA B m _ h1
 | dead=>rfl
def qc.below (G:qc) (n:Nat):qc:={ G with γ:=λi=>if i < n then G.γ i else none}
theorem qdk {n i b:Nat} (h:(G.below n).γ i = some b):i < n/\G.γ i = some b:=by
 simp only [qc.below] at h
 split at h
 ·exact ⟨‹_›,h⟩
 ·cases h
theorem qwO {n:Nat} {a:qa} {v:Value} (hl:a.lower n = true) (hv:G.V a v):(G.below n).V a v:=
 qC.mono (λ_ _ _ h=>h) n (λi b hi hb=>by simp [qc.below,hi,hb]) a v hl hv
theorem left (I:Rel P gl G0 h w0) {h':List qb} (he:Ext h.length G0 w0 G w) (hr:Rel P gl G h' w) (J:h.length <= h'.length) (B:∀i b bx,G0.γ i = some b->h'[i]? = some bx->bx.lower h.length = true):Ext h.length G0 w0 (G.below h.length) w/\Rel P gl (G.below h.length) (h'.take h.length) w:=by
 have E:(h'.take h.length).length = h.length:=by simp [J]
 refine ⟨⟨λi b hi=>?_,λi b hi=>?_,he.ik,he.inew,he.on,he.size,he.heap,he.loops,he.os,he.tape,he.output⟩,⟨λi b hi=>?_,λi j b hi hj=>?_,λi b bx hi hx=>?_,hr.imm,λb o v i hv hm hi=>?_,hr.immK,λb ℓ hb=>⟨(hr.ow b ℓ hb).1,λi hi=>?_⟩,λg cs hg=>?_⟩⟩
 ·simp [qc.below,(I.γlt i b hi).1,he.gk i b hi]
 ·obtain ⟨h1,h2⟩:=qdk hi
  rcases he.gn i b h2 with h3 | ⟨h3,_⟩
  ·exact .inl h3
  ·omega
 ·obtain ⟨h1,h2⟩:=qdk hi
  exact ⟨by rw [E];exact h1,(hr.γlt i b h2).2⟩
 ·rw [List.getElem?_take_of_lt (qdk hi).1,List.getElem?_take_of_lt (qdk hj).1]
  exact hr.inj i j b (qdk hi).2 (qdk hj).2
 ·obtain ⟨h1,h2⟩:=qdk hi
  rw [List.getElem?_take_of_lt h1] at hx
  have M:G0.γ i = some b:=by
   rcases he.gn i b h2 with h3 | ⟨h3,_⟩
   ·exact h3
   ·omega
  exact (hr.box i b bx h2 hx).keep (B i b bx M hx) (λ_ _ _ h=>h) (λj c hj hc=>by simp [qc.below,hj,hc]) rfl (λ_ _ h=>h) (λ_ _ _=>rfl) (λ_ _ _ _ h=>h)
 ·obtain ⟨h1,h2⟩:=qdk hi
  rw [List.getElem?_take_of_lt h1]
  exact hr.immγ b o v i hv hm h2
 ·exact (hr.ow b ℓ hb).2 i (qdk hi).2
 ·obtain ⟨h1,h2⟩:=hr.glob g cs hg
  exact ⟨qar.mono (λ_ _ _ h=>h) 0 (λi _ hi=>absurd hi (Nat.not_lt_zero _)) cs g 0 h2 h1,h2⟩
theorem qBl (hn:qej G) (k:Nat):qej (G.below k):=hn
theorem qc7 (E:Rel P gl G0 h w0) {s:St} (he:Ext h.length G0 w0 G w) (hr:Rel P gl G s.h w) (hk:h.length <= s.h.length/\(s.e = false->qal h.length h s.h)) {r0 r:qcb} {h':List qb} {e':Bool}
  (hl:qaU h.length r0 s.h s.e = (r,h',e')):r = r0/\∃G',Ext h.length G0 w0 G' w/\Rel P gl G' h' w/\qej G'/\(∀a v,(r0 = .ret a\/r0 = .pan a)->G.V a v->G'.V a v):=by
 obtain ⟨M,J⟩:=hr.cellsOnly
 have I:Ext h.length G0 w0 G.cellsOnly w:=⟨he.gk,he.gn,he.ik,he.inew,λb hb=>he.on b λe=>hb (by simp [qc.cellsOnly,e]),he.size,he.heap,he.loops,he.os,he.tape,he.output⟩
 cases r0 <;> unfold qaU at hl <;> simp only at hl <;> split at hl
 all_goals first
  | (rename_i B
     simp only [jm,Bool.or_eq_true,Bool.not_eq_true'] at B
     cases hl
     obtain ⟨k1,k2⟩:=left E I M hk.1 (λi b bx hi hx=>by
      have h1:=(E.γlt i b hi).1
      rcases B.1 with U | S
      ·obtain ⟨a1,h3,h4⟩:=(hk.2 U).2 i h.length h[i] h1 (jo _) (ji h1) (qov E hi (ji h1))
       rw [hx] at h3
       cases h3
       exact h4
      ·simp only [beq_iff_eq] at S
       omega)
     refine ⟨rfl,_,k1,k2,qBl J _,λa v ha hv=>qwO (G:=G.cellsOnly) ?_ hv⟩
     rcases ha with ha | ha <;> cases ha <;> exact B.2)
  | (cases hl
     exact ⟨rfl,_,I,M,J,λa v _ hv=>hv⟩)
def qBR (tmps:Array Value):ResultVar->Sem Value
 | .tmp t=>pure (tmps.getD t undef)
 | .cell a t=>do loadVar t (<-asAddr (tmps.getD a undef))
theorem qnL (fn:Func) (tmps:Array Value):results fn tmps = (do
  let vs <-fn.results.mapM (qBR tmps)
  pure (if h:vs.size = 1 then vs[0] else .tuple vs)):=rfl
theorem qdM {s:St} {a:Act} (hc:Cfg P gl G s.h s.t a w):∀(l:List ResultVar) (rs:List qle) (vs:List qa),l.mapM (qeo P) = some rs->qaF s rs = some vs->
  ∃us:List Value,(l.mapM (qBR a.tmps)).run P w = .ok us w/\G.VL vs us
 | [],rs,vs,h,hv=>by simp at h;subst h;simp only [qaF] at hv;cases hv;exact ⟨[],by simp,by simp [qc.VL,qg]⟩
 | x :: l,rs,vs,h,hv=>by
  simp only [List.mapM_cons,Option.pure_def,jF,Option.bind_eq_some_iff] at h
  obtain ⟨y,hy,ys,J,h⟩:=h
  cases h
  cases x with
  | tmp i=>
   simp only [qeo,jl] at hy
   subst hy
   simp only [qaF] at hv
   split at hv
   ·rename_i I E
    cases hv
    obtain ⟨us,h1,h2⟩:=qdM hc l ys I J E
    refine ⟨a.tmps.getD i undef :: us,?_,by simp only [qc.VL,qg];exact ⟨_,us,rfl,qcW (hc.tr.get i),h2⟩⟩
    rw [List.mapM_cons]
    simp only [qBR,Sem.run_bind,Sem.run_pure,Result.andThen_ok]
    rw [h1]
    rfl
   ·cases hv
  | cell i ty=>
   simp only [qeo,Option.map_eq_some_iff] at hy
   obtain ⟨k,hk,rfl⟩:=hy
   simp only [qaF] at hv
   split at hv
   ·rename_i v I B E
    cases hv
    obtain ⟨us,h1,h2⟩:=qdM hc l ys I J E
    have hp:=hc.tr.get i
    obtain ⟨u,h3,h4,_⟩:=qv7 hc.rel hk hp B
    have M:∃ad,a.tmps.getD i undef = .pointer (some ad):=by
     revert hp
     revert B
     generalize s.t.getD i .undef = p
     intro B hp
     cases p <;> simp only [qcl] at B <;> first | (cases B;done) | skip
     ·simp only [qc.V,qC] at hp;obtain ⟨b,_,e⟩:=hp;exact ⟨_,e⟩
     ·simp only [qc.V,qC] at hp;obtain ⟨b,p,e,_⟩:=hp;exact ⟨_,e⟩
    obtain ⟨ad,S⟩:=M
    refine ⟨u :: us,?_,by simp only [qc.VL,qg];exact ⟨_,us,rfl,h4,h2⟩⟩
    rw [List.mapM_cons]
    have h5:(qBR a.tmps (.cell i ty)).run P w = .ok u w:=by
     simp only [qBR]
     rw [S] at h3 ⊢
     exact h3
    rw [Sem.run_bind,h5,Result.andThen_ok,Sem.run_bind,h1]
    rfl
   ·cases hv
theorem qe5 {s:St} {a:Act} (hc:Cfg P gl G s.h s.t a w) {fn:Func} {rs:List qle} {vs:List qa} (h1:fn.results.toList.mapM (qeo P) = some rs) (h2:qaF s rs = some vs) :
  ∃u,(results fn a.tmps).run P w = .ok u w/\G.V (qbS vs) u:=by
 obtain ⟨us,h3,h4⟩:=qdM hc _ rs vs h1 h2
 have E:=h4.length
 have B:(results fn a.tmps).run P w = .ok (if h:us.toArray.size = 1 then us.toArray[0] else .tuple us.toArray) w:=by
  rw [qnL,Array.mapM_eq_mapM_toList]
  simp only [Sem.run_bind,map_eq_pure_bind]
  rw [h3]
  rfl
 refine ⟨_,B,?_⟩
 match vs,us,h4,E with
 | [],[],h4,_=>simp [qbS,qc.V,qC,qg]
 | [v],[u],h4,_=>
  simp only [qc.VL,qg] at h4
  obtain ⟨_,_,e,h5,_⟩:=h4
  cases e
  simpa [qbS] using h5
 | v :: v' :: vs,u :: u' :: us,h4,_=>
  simp only [qbS,qc.V,qC]
  refine ⟨_,?_,h4⟩
  simp
theorem qfN {fn:Func} {a:Act} {R:Ending->World->Prop} {F:Fence} {m:Nat} {u:FrameMode} (hu:u ≠ .run):∀(ds:List Deferred) (w':World),qhh G' w' w0.heap.size ds->Ext n G0 w0 G' w'->Rel P gl G' h w'->qaV G' w' t a.tmps->
  (∀B,Ext n G0 w0 G' B->Rel P gl G' h B->qaV G' B t a.tmps->LeavesIn F m P fn a.tmps R [] u B)->LeavesInM F m P fn a.tmps R ds u w'
 | [],w',_,he,hr,ht,hR=>hR w' he hr ht
 | d :: ds,w',hm,he,hr,ht,hR=>by
  obtain ⟨r,rfl,h1,h2,h3⟩:=hm.all d (jJ ..)
  refine ⟨hu,.inl ⟨r,w'.putObj r (.deferred none),rfl,run_takeDeferred h2,?_⟩⟩
  have E:=List.nodup_cons.1 hm.nodup
  refine qfN hu ds _ ⟨E.2,λd hd=>?_⟩ (he.putFar h1 _) (hr.putFar h3 λk=>by simp [World.cell?,h2]) (ht.putFar h3) hR
  obtain ⟨r',g1,g2,g3,g4⟩:=hm.all d (jN _ hd)
  refine ⟨r',g1,g2,?_,g4⟩
  rw [World.putObj_heap_other]
  ·exact g3
  ·rintro rfl
   rw [g1] at hd
   exact E.1 hd
theorem qeX {fn:Func} {ts:Array Value} {R:Ending->World->Prop} {F:Fence} {m:Nat} {u:FrameMode} (hu:u ≠ .run):∀(ds:List Deferred) (w':World),qhh G' w' w0.heap.size ds->Ext n G0 w0 G' w'->Rel P gl G' h w'->
  (∀B,Ext n G0 w0 G' B->Rel P gl G' h B->LeavesIn F m P fn ts R [] u B)->LeavesInM F m P fn ts R ds u w'
 | [],w',_,he,hr,hR=>hR w' he hr
 | d :: ds,w',hm,he,hr,hR=>by
  obtain ⟨r,rfl,h1,h2,h3⟩:=hm.all d (jJ ..)
  refine ⟨hu,.inl ⟨r,w'.putObj r (.deferred none),rfl,run_takeDeferred h2,?_⟩⟩
  have E:=List.nodup_cons.1 hm.nodup
  refine qeX hu ds _ ⟨E.2,λd hd=>?_⟩ (he.putFar h1 _) (hr.putFar h3 λk=>by simp [World.cell?,h2]) hR
  obtain ⟨r',g1,g2,g3,g4⟩:=hm.all d (jN _ hd)
  refine ⟨r',g1,g2,?_,g4⟩
  rw [World.putObj_heap_other]
  ·exact g3
  ·rintro rfl
   rw [g1] at hd
   exact E.1 hd
end
section
variable {P:Program} {gl:Nat->Option (List qa)}
def qeb (P:Program) (gl:Nat->Option (List qa)) (F:FuncId->Option qt):Prop:=
 ∀ f fn, F f = some fn -> ∃ pf c, P.funcs[f]? = some pf /\ (pf.name == "runtime.NumGoroutine") = false /\ pf.body = some c /\ comp P gl c = some fn.code /\ pf.results.toList.mapM (qeo P) = some fn.results /\ pf.ntmps = fn.ntmps
def qhf (P:Program) (gl:Nat->Option (List qa)) (f:FuncId) (g:AE.Call->List qa->List qb->Option (qcb×List qb×Bool)):Prop:=
 ∀call,qcc P gl call->qZ call->∀as h r h' e',g call as h = some (r,h',e')->∀(G:qc) (w:World) (vs:Array Value),Rel P gl G h w->qej G->G.VL as vs.toList->
  ((callFunc f vs).run P w = .ok (.enter f vs) w/\∀(ro:Option Nat) (n:Nat),CallsIn (FR ro) n P f vs w (qoa P gl h.length G w r h'))\/
  ((∀i,.yld i ∉ as)/\∃v w',(callFunc f vs).run P w = .ok (.value v) w'/\qoa P gl h.length G w r h' (.returned v) w')
theorem qbc {f : FuncId} {pf : Func} {c : Code} (h1 : P.funcs[f]? = some pf) (h2 : (pf.name == "runtime.NumGoroutine") = false) (h3 : pf.body = some c) (vs : Array Value) (w : World) : (callFunc f vs).run P w = .ok (.enter f vs) w := by
 have h2' : pf.name ≠ "runtime.NumGoroutine" := by simpa using h2
 simp [callFunc,Sem.run_bind,program,Sem.run,h1,h2',h3,Result.andThen]
theorem qfY {f:FuncId} {x y vs:Array Value} {w:World}:(qeI (.func (.func f) x y) vs).run P w = (callFunc f ((x ++ vs) ++ y)).run P w:=by
 simp [qeI,Deferred.ofValue,invoke,Sem.run_bind,Result.andThen]
theorem qjX {b:Nat} {x y vs:Array Value} {w:World}:(qeI (.func (.yield b) x y) vs).run P w = (Instr.yield b (x ++ vs)).run P w:=by
 simp [qeI,Deferred.ofValue,invoke,Sem.run_bind,Result.andThen]
theorem qaV.start {G:qc} {w:World} {as:List qa} {ts:Array Value} (h:G.VL as ts.toList) (hd:∀a ∈ as,a.dim = a):qaV G w as ts:=
 ⟨h,λi xs k v hx _=>by
  have:=hd _ (List.mem_iff_getElem?.2 ⟨i,hx⟩)
  simp [qa.dim] at this⟩
theorem ql2 {G:qc}:∀(ps:List Nat) (as:List qa) (vs:List Value) (t:List qa) (ts:Array Value),G.VL as vs->ps.length = as.length->G.VL t ts.toList->
  G.VL (qof t ps as) (((ps.zip vs).foldl (λ(tmps:Array Value) (x:Nat×Value)=>tmps.setIfInBounds x.1 x.2) ts)).toList
 | [],as,vs,t,ts,_,_,ht=>by simpa [qof] using ht
 | p :: ps,[],vs,t,ts,_,hl,_=>by simp at hl
 | p :: ps,a :: as,vs,t,ts,ha,hl,ht=>by
  simp only [qc.VL,qg] at ha
  obtain ⟨v,rest,rfl,h1,h2⟩:=ha
  simp only [qof,List.zip_cons_cons,List.foldl_cons]
  exact ql2 ps as rest _ _ h2 (by simpa using hl) (by simpa using qg.set p ht h1)
theorem qjL:∀(ps:List Nat) (as:List qa) (t:List qa),(∀a ∈ as,a.dim = a)->(∀a ∈ t,a.dim = a)->∀a ∈ qof t ps as,a.dim = a
 | [],_,t,_,ht=>by simpa [qof] using ht
 | p :: ps,[],t,_,ht=>by simpa [qof] using ht
 | p :: ps,a :: as,t,ha,ht=>by
  simp only [qof]
  refine qjL ps as _ (λx hx=>ha x (jN _ hx)) λx hx=>?_
  rcases List.mem_or_eq_of_mem_set hx with hx | rfl
  ·exact ht x hx
  ·exact ha _ (jJ ..)
theorem qjg {G:qc} {w:World} {lo:Nat} {rf:Bool}:qea G w lo rf [] []:=⟨[],rfl,⟨List.nodup_nil,λ_ h=>by cases h⟩,λ_=>rfl⟩
theorem qkX (am:P.follows .mixedOrders = true) {call:AE.Call} (ad:qcc P gl call) (hk:qZ call) {N:Nat} {l:Nat} {args:List qa} {h:List qb} {r:qcb} {h':List qb} {e':Bool} (E:round N call l args h = some (r,h',e'))
  {G:qc} {w:World} {b:Nat} {vs:Array Value} (hr:Rel P gl G h w) (hn:qej G) (hb:G.γ l = some b) (ha:G.VL args vs.toList) :
  ∃f tmps asg body,(Instr.yield b vs).run P w = .ok (.round b f tmps asg body) w/\∀(ro:Option Nat) (n:Nat),RoundIn (FR ro) n P b f tmps asg body w (qoa P gl h.length G w r h'):=by
 unfold round at E
 split at E
 ·rename_i t ps asg body aO aN hl
  split at E
  ·cases E
  ·rename_i aa
   have aa:args.length = ps.length:=Classical.not_not.1 aa
   simp only at E
   obtain ⟨L,hL,S⟩:=hr.box l b _ hb hl
   have aD:vs.size = L.params.size:=by
    have h1:=ha.length
    have h2:=congrArg List.length S.ps
    simp at h1 h2
    omega
   refine ⟨_,_,_,_,run_yield hL aD,λro n=>?_⟩
   refine roundIn_of_wpIn (F:=FR ro) trivial ?_
   split at E
   ·rename_i s1 al
    have k1:=qU (base:=h.length) hk N asg _ s1 _ (jo _) al
    split at E
    ·rename_i t1 ac a6 J I ai
     split at E
     ·rename_i x s2 ak
      have kk:qaE h.length s1 { s1 with h:=s1.h.set l (.loop t1 ac a6 J .busy I)}:=⟨by simp,λhe=>⟨he,qal.set ai λB _ _ a8=>a8⟩⟩
      have k2:=qU (base:=h.length) hk N body _ s2 _ (by simpa using k1.1) ak
      have k12:=k1.trans (kk.trans k2)
      split at E
      ·rename_i t2 af ab U st2 aM ah
       have aC:qaV G w (qof t ps (args.map qa.dim)) ((L.params.zip vs).foldl (λ(tmps:Array Value) (x:Nat×Value)=>tmps.setIfInBounds x.1 x.2) L.tmps):=by
        refine qaV.start ?_ (qjL _ _ _ (λx hx=>by obtain ⟨y,_,rfl⟩:=jU.1 hx;exact qbE y) S.dims)
        have:=ql2 (G:=G) ps (args.map qa.dim) vs.toList t L.tmps ha.dims (by simpa using aa.symm) S.tmps
        rw [<-S.ps] at this ⊢
        rw [<-Array.toList_zip,Array.foldl_toList] at this
        exact this
       have aL:=qcr am ad hk (N:=N) (base:=h.length) (lo:=w.heap.size) (rf:=false) (fx:=[]) (ro:=some b) (m:=n) L.assign asg S.asg (λh=>by cases h) G w ⟨qof t ps (args.map qa.dim),h,false⟩
        { tmps:=(L.params.zip vs).foldl (λ(tmps:Array Value) (x:Nat×Value)=>tmps.setIfInBounds x.1 x.2) L.tmps,defers:=[]} _ s1 ⟨hr,aC⟩ (jo _) (λ_ hq=>by cases hq;exact ⟨L,hL⟩) qjg (jo _) al
       refine wpIn_mono aL λe a1 w1 aI=>?_
       obtain ⟨G1,f1,f2,rfl,f4⟩:=aI
       have M:=f1.gk _ _ hb
       obtain ⟨L1,ae,aj⟩:=f4.rel.box l b _ M ai
       have au:L1.state = .ready:=by
        have:=aj.st
        cases hs:L1.state <;> rw [hs] at this <;> first | rfl | exact this.elim
       have aA:qgi P gl G1 t1 ac a6 J .busy I { L1 with state:=.busy}:={ aj with st:=trivial}
       have c1:Cfg P gl G1 (s1.h.set l (.loop t1 ac a6 J .busy I)) s1.t a1 (w1.putObj b (.loop { L1 with state:=.busy})):=⟨f4.rel.putLoop M ai aA,f4.tr.putLoop f4.rel M _⟩
       have x1:Ext h.length G w G1 (w1.putObj b (.loop { L1 with state:=.busy})):=f1.trans (jo _) (Ext.putLoop _ M ae ⟨rfl,rfl,rfl,rfl,rfl,rfl⟩)
       refine ⟨_,run_beginRound ae au,?_⟩
       have av:qel (some b) (w1.putObj b (.loop { L1 with state:=.busy})):=λ_ hq=>by cases hq;exact ⟨_,World.putObj_heap_same (jf.1 ae).1⟩
       have aK:=qcr am ad hk (N:=N) (base:=h.length) (lo:=w.heap.size) (rf:=false) (fx:=[]) (ro:=some b) (m:=n) L.body body S.body (λh=>by cases h) G1 _ { s1 with h:=s1.h.set l (.loop t1 ac a6 J .busy I)} a1 x s2 c1
        (by simpa using k1.1) av (f2.ext (Ext.putLoop h.length M ae ⟨rfl,rfl,rfl,rfl,rfl,rfl⟩)) x1.size ak
       refine wpIn_mono aK λe a2 w2 aH=>?_
       obtain ⟨G2,g1,g2,g3⟩:=aH
       have x2:Ext h.length G w G2 w2:=x1.trans (by simpa using k1.1) g1
       have a7:=x2.gk _ _ hb
       have fin:∀{st:LSt} {pend:Option qzP} {jump:Option Code} {bv:Bool},Cfg P gl G2 s2.h s2.t a2 w2->qk2 st (if jump.isNone then .ready else .done)->qkO pend jump->bv = jump.isNone->
         some (qaU h.length (.ret (.bool bv)) (s2.h.set l (.loop t2 af ab U st pend)) s2.e) = some (r,h',e')->∃v w',(Instr.endRound b jump).run P w2 = .ok v w'/\qoa P gl h.length G w r h' (.returned v) w':=by
        intro st pend jump bv ap aE aF aJ aG
        obtain ⟨L2,ar,aB⟩:=ap.rel.box l b _ a7 ah
        have az:qgi P gl G2 t2 af ab U st pend { L2 with state:=if jump.isNone then .ready else .done,pending:=jump}:={ aB with st:=aE,pend:=aF}
        have ay:=ap.rel.putLoop a7 ah az
        have x3:=x2.trans (jo _) (Ext.putLoop _ a7 ar (L':={ L2 with state:=if jump.isNone then .ready else .done,pending:=jump}) ⟨rfl,rfl,rfl,rfl,rfl,rfl⟩)
        obtain ⟨rfl,G',y1,y2,y3,y4⟩:=qc7 (s:={ s2 with h:=s2.h.set l (.loop t2 af ab U st pend)}) hr x3 ay ⟨by simpa using k12.1,λhe=>(k12.2 he).2.trans (qal.set ah λB _ _ a8=>a8)⟩ (Option.some.inj aG)
        exact ⟨_,_,run_endRound jump ar,_,G',rfl,y1,y2,y3,by subst aJ;exact y4 (.bool jump.isNone) (.bool jump.isNone) (.inl rfl) (by simp [qc.V,qC])⟩
       split at E
       ·obtain ⟨rfl,g3⟩:=g3
        exact fin (st:=.ready) (pend:=none) (jump:=none) g3 (by simp [qk2]) trivial rfl E
       ·obtain ⟨rfl,g3⟩:=g3
        exact fin (st:=.done) (pend:=some .ret) (jump:=some .ret) g3 (by simp [qk2]) trivial rfl E
       ·rename_i id
        obtain ⟨rfl,g3⟩:=g3
        exact fin (st:=.done) (pend:=some (.exit id)) (jump:=some (.exit id)) g3 (by simp [qk2]) rfl rfl E
       ·cases E
      ·cases E
     ·cases E
    ·cases E
   ·cases E
 ·cases E
theorem qjx (a6:P.follows .mixedOrders = true) {F:FuncId->Option qt} {X:qff} (hF:qeb P gl F) (hX:∀f g,X f = some g->qhf P gl f g)
  (aa:∀f g,X f = some g->∀call,qZ call->qZ λ_ as h=>g call as h):∀n,qcc P gl (run F X n)
 | 0=>λfv args h r h' e' hr=>by simp [run] at hr
 | n + 1=>λfv args h r h' e' B G w ai vs hr hn hf ha=>by
  have ih:=qjx a6 hF hX aa n
  have hk:=qe6 (F:=F) (X:=X) aa n
  simp only [run] at B
  split at B
  ·rename_i f first cap
   have S:=hf
   simp only [qc.V,qC] at S
   obtain ⟨x,y,rfl,hx,hy⟩:=S
   have J:G.VL (first ++ args ++ cap) ((x ++ vs) ++ y).toList:=by
    simp only [Array.toList_append]
    exact (qg.append hx ha).append hy
   rw [qfY]
   split at B
   ·rename_i g hg
    rcases hX f g hg _ ih hk _ _ _ _ _ B G w _ hr hn J with ⟨h1,h2⟩ | ⟨h1,v,w',h2,h3⟩
    ·exact .inl ⟨f,_,h1,h2⟩
    ·exact .inr (.inr ⟨v,w',λi hi=>h1 i (by rw [hi];simp),h2,h3⟩)
   ·split at B
    ·cases B
    ·rename_i fn ae
     obtain ⟨pf,c,p1,p2,p3,p4,p5,p6⟩:=hF f fn ae
     refine .inl ⟨f,_,qbc p1 p2 p3 _ w,λro m=>?_⟩
     generalize ah:(x ++ vs) ++ y = vv at J ⊢
     have a8:vv.size = (first ++ args ++ cap).length:=by have:=J.length;simp at this ⊢;omega
     let t0:List qa:=(first ++ args ++ cap).map qa.dim ++ List.replicate (fn.ntmps - ((first ++ args ++ cap).map qa.dim).length) (.tup [])
     let a0:Act:={ tmps:=vv ++ Array.replicate (pf.ntmps - vv.size) undef,defers:=[]}
     have af:Cfg P gl G h t0 a0 w:=by
      refine ⟨hr,qaV.start ?_ λz hz=>?_⟩
      ·simp only [t0,a0,Array.toList_append,Array.toList_replicate]
       refine qg.append J.dims ?_
       rw [p6,a8]
       simp only [List.length_map]
       exact qg.replicate _ (by simp [qC,qg,undef])
      ·simp only [t0] at hz
       rcases jM.1 hz with hz | hz
       ·obtain ⟨q,_,rfl⟩:=jU.1 hz;exact qbE q
       ·rw [(List.mem_replicate.1 hz).2];rfl
     have hW:∀x s,qbe n h.length (run F X n) fn.code ⟨t0,h,false⟩ = some (x,s)->c.wpIn (FR none) m P (qob P gl h.length G w w.heap.size false [] x s) a0 w:=λx s hx=>
      qcr a6 ih hk (N:=n) (base:=h.length) (lo:=w.heap.size) (rf:=false) (fx:=[]) (ro:=none) (m:=m) c fn.code p4 (λh=>by cases h) G w ⟨t0,h,false⟩ a0 x s af (jo _) (λ_ hq=>by cases hq) qjg (jo _) hx
     have a1:∀x s E,qbe n h.length (run F X n) fn.code ⟨t0,h,false⟩ = some (x,s)->(x = .nor\/x = .ret)->qaF s fn.results = some E->qaU h.length (.ret (qbS E)) s.h s.e = (r,h',e')->CallsIn (FR ro) m P f vv w (qoa P gl h.length G w r h'):=by
      intro x s E hx ac I ad
      have k:=qU (base:=h.length) hk n fn.code _ s _ (jo _) hx
      refine qhN (m:=m) (callsIn_of_wp_marks (F:=FR none) p1 p3 trivial (wpIn_mono (hW x s hx) λe a' w' U=>?_) rfl)
      obtain ⟨G',g1,⟨ms,M,g2,_⟩,g3⟩:=U
      rw [jK] at M
      rw [<-M] at g2
      have key:Cfg P gl G' s.h s.t a' w'->LeavesInM (FR none) m P pf a'.tmps (qoa P gl h.length G w r h') a'.defers .returning w':=by
       intro hc
       refine qfN (by simp) a'.defers w' g2 g1 hc.rel hc.tr λab q1 q2 q3=>?_
       obtain ⟨u,r1,r2⟩:=qe5 (a:=a') ⟨q2,q3⟩ p5 I
       obtain ⟨rfl,a7,y1,y2,y3,y4⟩:=qc7 hr q1 q2 ⟨k.1,λhe=>(k.2 he).2⟩ ad
       exact ⟨u,r1,_,a7,rfl,y1,y2,y3,y4 _ u (.inl rfl) r2⟩
      rcases ac with rfl | rfl
      ·obtain ⟨rfl,g3⟩:=g3;exact key g3
      ·obtain ⟨rfl,g3⟩:=g3;exact key g3
     split at B
     ·rename_i s hx
      split at B
      ·rename_i E I
       exact a1 _ s E hx (.inl rfl) I (Option.some.inj B)
      ·cases B
     ·rename_i s hx
      split at B
      ·rename_i E I
       exact a1 _ s E hx (.inr rfl) I (Option.some.inj B)
      ·cases B
     ·rename_i v s hx
      have k:=qU (base:=h.length) hk n fn.code _ s _ (jo _) hx
      refine qhN (m:=m) (callsIn_of_wp_marks (F:=FR none) p1 p3 trivial (wpIn_mono (hW _ s hx) λe a' w' U=>?_) rfl)
      obtain ⟨G',g1,⟨ms,M,g2,_⟩,u,rfl,g3,g4⟩:=U
      rw [jK] at M
      rw [<-M] at g2
      refine qeX (by simp) a'.defers w' g2 g1 g3.rel λab q1 q2=>?_
      obtain ⟨rfl,a7,y1,y2,y3,y4⟩:=qc7 hr q1 q2 ⟨k.1,λhe=>(k.2 he).2⟩ (Option.some.inj B)
      exact ⟨v,u,a7,rfl,rfl,y1,y2,y3,y4 _ u (.inr rfl) g4⟩
     ·cases B
  ·rename_i l
   have S:=hf
   simp only [qc.V,qC] at S
   obtain ⟨b,hb,rfl⟩:=S
   rw [qjX]
   obtain ⟨f,tmps,asg,body,h1,h2⟩:=qkX a6 ih hk B hr hn hb ha (vs:=vs)
   exact .inr (.inl ⟨l,b,f,tmps,asg,body,rfl,by simpa using h1,h2⟩)
  ·cases B
end
inductive qhg where
 | pre (a:qG) (r:qhg)
 | dfr (f:FuncId) (caps:List qh) (slot:Nat) (rest:qG)
 deriving Inhabited
structure qeD where
 ntmps:Nat
 k:Nat
 ops:List qaq
 code:qG
 deriving Inhabited
structure qjM where
 ntmps:Nat
 results:List qle
 body:qhg
 d:qeD
 deriving Inhabited
def qhg.fid:qhg->FuncId
 | .pre _ r=>r.fid
 | .dfr f _ _ _=>f
def qeN (n:Nat) (call:Call) (d:qeD) (v:qa) (cv:List qa) (s:St):Option (Ex×St):=
 match qa2 s.h.length call [] d.ops ⟨put (some d.k) v.dim (cv.map qa.dim ++ List.replicate (d.ntmps - cv.length) (.tup [])),s.h,false⟩ with
 | some (.nor,s1)=>
  match qbe n s.h.length call d.code s1 with
  | some (.nor,s2) | some (.ret,s2)=>some (.ret,{ s with h:=s2.h,e:=s.e || s2.e})
  | _=>none
 | _=>none
def qdE (n base:Nat) (call:Call) (d:qeD):qhg->St->Option (Ex×St)
 | .pre a r,s=>match qbe n base call a s with
  | some (.nor,s)=>qdE n base call d r s
  | some (.exit _,_)=>none
  | r=>r
 | .dfr f caps slot rest,s=>
  match ev (put (some slot) (.fn f [] (caps.map (ev s.t))) s.t) (.t slot) with
  | .fn g [] cv=>
   if g = f then
    match qbe n base call rest { s with t:=put (some slot) (.fn f [] (caps.map (ev s.t))) s.t} with
    | some (.nor,s1) | some (.ret,s1)=>qeN n call d .niliface cv s1
    | some (.pan v,s1)=>qeN n call d v cv s1
    | _=>none
   else none
  | _=>none
def qfS (n:Nat) (g:qjM) (call:Call) (as:List qa) (h:List qb):Option (qcb×List qb×Bool):=
 match qdE n h.length call g.d g.body ⟨as.map qa.dim ++ List.replicate (g.ntmps - as.length) (.tup []),h,false⟩ with
 | some (.nor,s) | some (.ret,s)=>
  match qaF s g.results with
  | some vs=>some (qaU h.length (.ret (qbS vs)) s.h s.e)
  | none=>none
 | some (.pan v,s)=>some (qaU h.length (.pan v) s.h s.e)
 | _=>none
section
variable (P:Program) (gl:Nat->Option (List qa))
def qoZ (o0 o1:Oper):Option (FuncId×List qh×Nat):=
 match o0.op with
 | .makeFunc (.func f) a caps=>
  match o1.op with
  | .defer c=>
   match c.callee with
   | .value (.tmp t)=>if o0.dst = some t/\o0.guard = none/\o1.dst = none/\o1.guard = none/\a = #[]/\c.args = #[] then (qsR gl caps).map λcs=>(f,cs,t) else none
   | _=>none
  | _=>none
 | _=>none
def qj3:Code->Option (FuncId×List qh×Nat)
 | .region _ ops false=>
  match ops.toList with
  | [o0,o1]=>qoZ gl o0 o1
  | _=>none
 | _=>none
def qoT:Code->Option qhg
 | .seq a b=>
  match qj3 gl a with
  | some (f,caps,t)=>(comp P gl b).map (.dfr f caps t)
  | none=>
   match comp P gl a,qoT b with
   | some x,some r=>if x.noRf then some (.pre x r) else none
   | _,_=>none
 | _=>none
def qBQ (o:Oper):Option Nat:=
 match o.op with
 | .call c=>
  match c.callee with
  | .builtin .recover=>if o.guard = none/\c.args = #[] then o.dst else none
  | _=>none
 | _=>none
def qxc (f:Func):Option qeD:=
 match f.body with
 | some (.seq (.region _ ops false) c)=>
  match ops.toList with
  | o0 :: os=>
   match qBQ o0,os.mapM (qb6 P gl ops),comp P gl c with
   | some k,some aos,some ac=>if aos.all (λo=>!o.op.calls) && ac.noRf && f.results.isEmpty then some ⟨f.ntmps,k,aos,ac⟩ else none
   | _,_,_=>none
  | _=>none
 | _=>none
def qgp (f d:Func):Option qjM:=
 match f.body with
 | some c=>
  match qoT P gl c,f.results.toList.mapM (qeo P),qxc P gl d with
  | some b,some rs,some d=>some ⟨f.ntmps,rs,b,d⟩
  | _,_,_=>none
 | none=>none
end
inductive qfi where
 | nil
 | node (k:Nat) (v:qt) (l r:qfi)
 deriving Inhabited
def qfi.get:qfi->Nat->Option qt
 | .nil,_=>none
 | .node k v l r,i=>bif Nat.beq i k then some v else bif Nat.blt i k then l.get i else r.get i
def qfi.All (p:Nat->qt->Prop):qfi->Prop
 | .nil=>True
 | .node k v l r=>p k v/\l.All p/\r.All p
theorem qfi.get_all {p:Nat->qt->Prop}:∀{t:qfi} {i:Nat} {v:qt},t.All p->t.get i = some v->p i v
 | .nil,_,_,_,h=>by cases h
 | .node k w l r,i,v,ha,h=>by
  simp only [qfi.get] at h
  cases hb:Nat.beq i k with
  | true=>
   rw [hb] at h
   have B:i = k:=Nat.eq_of_beq_eq_true hb
   subst B
   cases h
   exact ha.1
  | false=>
   rw [hb] at h
   cases hc:Nat.blt i k with
   | true=>rw [hc] at h;exact qfi.get_all ha.2.1 h
   | false=>rw [hc] at h;exact qfi.get_all ha.2.2 h
def qj7 (fn:qt) (h:List qb):Option (Ex×St)->Option (qcb×List qb×Bool)
 | some (.nor,s) | some (.ret,s)=>
  match qaF s fn.results with
  | some vs=>some (qaU h.length (.ret (qbS vs)) s.h s.e)
  | none=>none
 | some (.pan v,s)=>some (qaU h.length (.pan v) s.h s.e)
 | _=>none
theorem qwn {F:FuncId->Option qt} {X:qff} {n:Nat} {f:FuncId} {first args cap:List qa} {h:List qb} {fn:qt} (hX:X f = none) (hF:F f = some fn) :
  run F X (n + 1) (.fn f first cap) args h = qj7 fn h (qbe n h.length (run F X n) fn.code ⟨(first ++ args ++ cap).map qa.dim ++ List.replicate (fn.ntmps - ((first ++ args ++ cap).map qa.dim).length) (.tup []),h,false⟩):=by
 simp only [run,hX,hF]
 rfl
theorem qsa {F:FuncId->Option qt} {X:qff} {n:Nat} {f:FuncId} {first args cap:List qa} {h:List qb} {g:Call->List qa->List qb->Option (qcb×List qb×Bool)} (hX:X f = some g) :
  run F X (n + 1) (.fn f first cap) args h = g (run F X n) (first ++ args ++ cap) h:=by
 simp only [run,hX]
section
variable {P:Program} {gl:Nat->Option (List qa)}
theorem qj2 {call:AE.Call} (hk:qZ call) {n base:Nat} {d:qeD} {v:qa} {cv:List qa} {s s':St} {x:Ex} (hb:base <= s.h.length) (h:qeN n call d v cv s = some (x,s')):qaE base s s':=by
 unfold qeN at h
 split at h
 ·rename_i s1 h1
  have k1:=qcQ (base:=s.h.length) hk d.ops [] ⟨_,s.h,false⟩ s1 _ (jo _) h1
  have key:∀x2 s2,qbe n s.h.length call d.code s1 = some (x2,s2)->qaE base s { s with h:=s2.h,e:=s.e || s2.e}:=by
   intro x2 s2 h2
   have k2:=qU (base:=s.h.length) hk n d.code s1 s2 _ k1.1 h2
   have k:=k1.trans k2
   refine ⟨k.1,λhe=>?_⟩
   simp only [Bool.or_eq_false_iff] at he
   exact ⟨he.1,(k.2 he.2).2.lower hb⟩
  split at h
  ·rename_i s2 h2;cases h;exact key _ _ h2
  ·rename_i s2 h2;cases h;exact key _ _ h2
  ·cases h
 ·cases h
theorem qcy {call:AE.Call} (hk:qZ call) {n base:Nat} {d:qeD}:∀(b:qhg) (s s':St) (x:Ex),base <= s.h.length->qdE n base call d b s = some (x,s')->qaE base s s'
 | .pre a r,s,s',x,hb,h=>by
  simp only [qdE] at h
  split at h
  ·rename_i s1 h1
   have k1:=qU (base:=base) hk n a s s1 _ hb h1
   exact k1.trans (qcy hk r s1 s' x (jp hb k1.1) h)
  ·cases h
  ·exact qU (base:=base) hk n a s s' x hb h
 | .dfr f B slot rest,s,s',x,hb,h=>by
  simp only [qdE] at h
  split at h
  ·rename_i g cv E
   split at h
   ·have k0:qaE base s { s with t:=put (some slot) (.fn f [] (B.map (ev s.t))) s.t}:=⟨jo _,λh=>⟨h,qal.refl _ _⟩⟩
    have key:∀x1 s1,qbe n base call rest { s with t:=put (some slot) (.fn f [] (B.map (ev s.t))) s.t} = some (x1,s1)->∀v,qeN n call d v cv s1 = some (x,s')->qaE base s s':=by
     intro x1 s1 h1 v h2
     have k1:=qU (base:=base) hk n rest { s with t:=put (some slot) (.fn f [] (B.map (ev s.t))) s.t} s1 _ hb h1
     exact k0.trans (k1.trans (qj2 hk (jp hb k1.1) h2))
    split at h
    ·rename_i s1 h1;exact key _ _ h1 _ h
    ·rename_i s1 h1;exact key _ _ h1 _ h
    ·rename_i s1 h1;exact key _ _ h1 _ h
    ·cases h
   ·cases h
  ·cases h
theorem qgC {n:Nat} {g:qjM} {call:AE.Call} (hk:qZ call):qZ λ_ as h=>qfS n g call as h:=by
 intro fv as h r h' e' hr
 simp only [qfS] at hr
 split at hr
 ·rename_i s h1
  have k:=qcy (base:=h.length) hk g.body ⟨_,h,false⟩ s _ (jo _) h1
  split at hr
  ·rename_i vs B
   have:=qbJ (r:=.ret (qbS vs)) (h:=h) ⟨k.1,λhe=>(k.2 he).2⟩
   rw [Option.some.inj hr] at this
   exact this
  ·cases hr
 ·rename_i s h1
  have k:=qcy (base:=h.length) hk g.body ⟨_,h,false⟩ s _ (jo _) h1
  split at hr
  ·rename_i vs B
   have:=qbJ (r:=.ret (qbS vs)) (h:=h) ⟨k.1,λhe=>(k.2 he).2⟩
   rw [Option.some.inj hr] at this
   exact this
  ·cases hr
 ·rename_i v s h1
  have k:=qcy (base:=h.length) hk g.body ⟨_,h,false⟩ s _ (jo _) h1
  have:=qbJ (r:=.pan v) (h:=h) ⟨k.1,λhe=>(k.2 he).2⟩
  rw [Option.some.inj hr] at this
  exact this
 ·cases hr
theorem qxh {a:Code} {f:FuncId} {B:List qh} {t:Nat} (h:qj3 gl a = some (f,B,t)) :
  ∃id ops o0 o1 a0 cs c,a = .region id ops false/\ops = #[o0,o1]/\o0.op = .makeFunc (.func f) a0 cs/\a0 = #[]/\o0.dst = some t/\o0.guard = none/\o1.op = .defer c/\c.callee = .value (.tmp t)/\c.args = #[]/\o1.dst = none/\o1.guard = none/\qsR gl cs = some B:=by
 unfold qj3 at h
 split at h
 ·rename_i id ops
  split at h
  ·rename_i o0 o1 E
   unfold qoZ at h
   split at h
   ·rename_i f' a0 cs M
    split at h
    ·rename_i c J
     split at h
     ·rename_i t' hcal
      split at h
      ·rename_i hc
       obtain ⟨c1,c2,c3,c4,c5,c6⟩:=hc
       obtain ⟨S,I,he⟩:=qcf h
       cases he
       exact ⟨id,ops,o0,o1,a0,cs,c,rfl,by apply Array.ext';simpa using E,M,c5,c1,c2,J,hcal,c6,c3,c4,I⟩
      ·cases h
     ·cases h
    ·cases h
   ·cases h
  ·cases h
 ·cases h
structure qCz (P:Program) (gl:Nat->Option (List qa)) (df:Func) (d:qeD):Prop where
 ex:∃id ops o0 os c,df.body = some (.seq (.region id ops false) c)/\ops.toList = o0 :: os/\(∃cl,o0.op = .call cl/\cl.callee = .builtin .recover/\cl.args = #[])/\o0.dst = some d.k/\o0.guard = none/\os.mapM (qb6 P gl ops) = some d.ops/\
  comp P gl c = some d.code/\(∀o ∈ d.ops,o.op.calls = false)/\d.code.noRf = true/\df.results = #[]/\df.ntmps = d.ntmps
theorem qoS {df:Func} {d:qeD} (h:qxc P gl df = some d):qCz P gl df d:=by
 unfold qxc at h
 split at h
 ·rename_i id ops c hb
  split at h
  ·rename_i o0 os B
   split at h
   ·rename_i k J ac hk E I
    split at h
    ·rename_i hc
     simp only [jm,List.all_eq_true,Bool.not_eq_true',Array.isEmpty_iff] at hc
     cases h
     unfold qBQ at hk
     split at hk
     ·rename_i cl ho
      split at hk
      ·rename_i hcal
       split at hk
       ·rename_i hg
        exact ⟨id,ops,o0,os,c,hb,B,⟨cl,ho,hcal,hg.2⟩,hk,hg.1,E,I,hc.1.1,hc.1.2,hc.2,rfl⟩
       ·cases hk
      ·cases hk
     ·cases hk
    ·cases h
   ·cases h
  ·cases h
 ·cases h
theorem qxk {o:Oper} {ao:AOp} {a:Act} {w w':World} {nx:Next} {u:Value} (B:qck P gl o = some ao) {i:Nat} (E:ao = .mov (.t i)) (h1:(execOp a.eval o).run P w = .ok nx w') (h2:Nx nx u):u = a.tmps.getD i undef:=by
 subst E
 have ho:=(qb7 B).1 i rfl
 have:(execOp a.eval o).run P w = .ok (.value (a.eval (.tmp i))) w:=by simp [execOp,ho]
 rw [this] at h1
 cases h1
 rcases h2 with h2 | ⟨h2,_⟩
 ·cases h2;rfl
 ·cases h2
theorem qmf {G:qc} {w w':World} {h:List qb} {t:List qa} {a:Act} (hc:Cfg P gl G h t a w) {o:Oper} {ao:AOp} {nx:Next} {u:Value} (I:qck P gl o = some ao) {q:qh} {id off:Nat} (M:ao = .ld none q) (hq:ev t q = .ptr id off)
  {base:Nat} {call:AE.Call} {p:qcD} {dst:Option Nat} {e:Bool} {x:Ex} {s':St} (E:qv base call p dst ao ⟨t,h,e⟩ = some (x,s')) (h1:(execOp a.eval o).run P w = .ok nx w') (h2:Nx nx u) :
  ∃b,G.γ id = some b/\w.cell? ⟨b,off,none⟩ = some u:=by
 subst M
 obtain ⟨ty,y,ho,hy,hk⟩:=(qb7 I).2.1 q rfl
 have hv:=qah hc.rel hc.tr hy
 rw [hq] at hv
 simp only [qc.V,qC] at hv
 obtain ⟨b,hb,he⟩:=hv
 refine ⟨b,hb,?_⟩
 obtain ⟨g1,_⟩:=qfa hk w
 simp only [qv] at E
 obtain ⟨v,hv,_⟩:=qcf E
 rw [hq] at hv
 simp only [qcl] at hv
 split at hv
 ·rename_i cs S
  obtain ⟨c,te,hw,U,_⟩:=hc.rel.box id b _ hb S
  simp only [cut] at hv
  obtain ⟨av,a1,_⟩:=qcf hv
  obtain ⟨uv,J,_⟩:=qeS U a1
  have B:w.cell? ⟨b,off,none⟩ = some uv:=by
   simp only [Array.getElem?_toList] at J
   simp [World.cell?,hw,J]
  have:(execOp a.eval o).run P w = .ok (.value uv) w:=by
   simp only [execOp,ho]
   refine qdx ?_
   simp only [Instr.loadAt,he,Instr.sureAddr,Sem.run_bind,Sem.run_pure,Result.andThen_ok,loadVar,g1,Option.isSome_none,jn,if_false,run_load,B]
  rw [this] at h1
  cases h1
  rcases h2 with h2 | ⟨h2,_⟩
  ·cases h2;exact B
  ·cases h2
 ·cases hv
theorem qnu {ops:Array Oper} {base:Nat} {call:AE.Call} {cs:List Frame} {m:Nat} {x:Ex} {s':St}:∀(l:List Nat) (os:List qaq),qB6 P gl ops l os->(∀o ∈ os,o.op.calls = false)->
  ∀(G:qc) (w:World) (h:List qb) (t:List qa) (e:Bool) (a:Act) (p:qcD),Cfg P gl G h t a w->qbv G w t a p->qa2 base call p os ⟨t,h,e⟩ = some (x,s')->
   x = .nor/\h.length <= s'.h.length/\∀(Q:Exit->Act->List Frame->World->Prop),(∀a' w' G',Ext h.length G w G' w'->Cfg P gl G' s'.h s'.t a' w'->a'.defers = a.defers->Q .normal a' cs w')->wpOpsSIn (FR none) m P ops Q l a cs w:=by
 intro l
 induction l with
 | nil=>
  intro os hl _ G w h t e a p hc hp B
  cases os with
  | cons _ _=>exact hl.elim
  | nil=>
   simp only [qa2] at B
   cases B
   exact ⟨rfl,jo _,λQ hQ=>hQ a w G (Ext.refl _ G w) hc rfl⟩
 | cons i l ih=>
  intro os hl a8 G w h t e a p hc hp B
  cases os with
  | nil=>exact hl.elim
  | cons ao os=>
   obtain ⟨⟨o,ho,ah⟩,hl⟩:=hl
   simp only [qa2] at B
   split at B
   ·rename_i hw
    obtain ⟨I,E,M⟩:=qbO hc.tr ah hw
    simp only [E] at B
    cases hop:qv base call p o.dst ao.op ⟨t,h,e⟩ with
    | none=>rw [hop] at B;cases B
    | some r=>
     obtain ⟨x1,s1⟩:=r
     have ak:ao.op.calls = false:=a8 ao (jJ ..)
     obtain ⟨rfl,hd,ab⟩:=qvT hc hp I ak hop
     rw [hop] at B
     simp only at B
     obtain ⟨nx,u,w',G',h1,h2,ai,h3,h4⟩:=hd
     have S:qbv G' w' s1.t (a.put o.dst u) (qaY p ao):=by
      have hq:ao.op.effs = false->ao.op.acts = false:=by cases ao.op <;> simp [AOp.effs,AOp.acts]
      have a7:ao.op.effs = false->∀b,b < w.heap.size->w'.heap[b]? = w.heap[b]?:=λJ=>ai (λU=>by
       have:=(qb7 I).2.2.1 U
       rw [hq J] at this
       cases this) (λU=>by
       have:=qp3 I U
       rw [hq J] at this
       cases this)
      rw [<-E]
      by_cases J:ao.op.effs = false
      ·obtain ⟨_,v,hv,_⟩:=qdo J hop
       refine hp.next (v:=v) (λ_=>by rw [E];exact hv) h3.gk a7 ?_ ?_
       ·intro i aa
        exact qxk I aa h1 h2
       ·intro q id off ac aj
        exact qmf hc I ac aj hop h1 h2
      ·exact hp.next (v:=.undef) (λh=>absurd h J) h3.gk (λh=>absurd h J) (λi aa=>by rw [aa] at J;exact absurd rfl J) (λq _ _ ac _=>by rw [ac] at J;exact absurd rfl J)
     obtain ⟨r1,r2,r3⟩:=ih os hl (λo ho=>a8 o (jN _ ho)) G' w' s1.h s1.t s1.e (a.put o.dst u) (qaY p ao) h4 S B
     refine ⟨r1,jp ab r2,λQ hQ=>?_⟩
     have a1:=r3 Q λa' a6 af he ae ad=>hQ a' a6 af (h3.trans ab he) ae (by rw [ad,qb2])
     simp only [wpOpsSIn,ho]
     refine ⟨λ_ _=>trivial,?_⟩
     rw [if_pos M,h1]
     rcases h2 with rfl | ⟨rfl,rfl⟩
     ·exact a1
     ·exact a1
   ·rename_i hw
    obtain ⟨I,E,M⟩:=qbO hc.tr ah hw
    simp only [E] at B
    have S:qbv G w (AE.put o.dst (.tup []) t) (a.put o.dst undef) (qaY p { ao with op:=.pick (.c .undef) (.c .undef) (.c .undef)}):=by
     rw [<-E]
     exact hp.next (o:={ ao with op:=.pick (.c .undef) (.c .undef) (.c .undef)}) (v:=.tup []) (λ_=>rfl) (λ_ _ h=>h) (λ_ _ _=>rfl) (λ_ h=>by cases h) (λ_ _ _ h=>by cases h)
    obtain ⟨r1,r2,r3⟩:=ih os hl (λo ho=>a8 o (jN _ ho)) G w h _ e _ _ (qcR hc o.dst) (by simpa only [E] using S) (by simpa only [E] using B)
    refine ⟨r1,r2,λQ hQ=>?_⟩
    simp only [wpOpsSIn,ho]
    refine ⟨λ_ _=>trivial,?_⟩
    rw [if_neg (by rw [M];simp)]
    exact r3 Q λa' a6 af he ae ad=>hQ a' a6 af he ae (by rw [ad,qb2])
   ·cases B
theorem Ext.cellsOnly {n:Nat} {G G':qc} {w w':World} (he:Ext n G w G' w'):Ext n G w G'.cellsOnly w':=
 ⟨he.gk,he.gn,he.ik,he.inew,λb hb=>he.on b λe=>hb (by simp [qc.cellsOnly,e]),he.size,he.heap,he.loops,he.os,he.tape,he.output⟩
def qFx (G:qc) (u:FrameMode) (v:qa):Prop:=(u = .returning/\v = .niliface)\/∃vv,u = .panicking [{ v:=vv,recovered:=false}]/\G.V v vv
theorem qgr (aD:P.follows .mixedOrders = true) {call:AE.Call} (a7:qcc P gl call) (hk:qZ call) {f:FuncId} {df:Func} {d:qeD} (hf:P.funcs[f]? = some df) (hd:qCz P gl df d) {n:Nat} {v:qa} {cv:List qa} {s s':St} {x:Ex}
  (h:qeN n call d v cv s = some (x,s')) {G:qc} {w:World} {a:Act} (hc:Cfg P gl G s.h s.t a w) {vs:Array Value} (ab:G.VL cv vs.toList) {u:FrameMode} (hu:qFx G u v) {m:Nat} {R:Ending->FrameMode->World->Prop}
  (hR:∀r u' G' w',settle u' = .returning->Ext s.h.length G w G' w'->Cfg P gl G' s'.h s'.t a w'->R (.returned r) u' w'):x = .ret/\s'.t = s.t/\CallsDIn (FR none) m P f vs u w R:=by
 obtain ⟨id,ops,o0,os,c,a8,M,⟨cl,ar,ap,am⟩,al,aF,aA,aJ,af,ay,ad,aC⟩:=hd.ex
 unfold qeN at h
 split at h
 ·rename_i s1 av
  have ai:cv.length = vs.size:=by simpa using ab.length
  obtain ⟨az,aM⟩:=hc.rel.cellsOnly
  let a0:Act:={ tmps:=vs ++ Array.replicate (df.ntmps - vs.size) undef,defers:=[]}
  have aL:Cfg P gl G.cellsOnly s.h (cv.map qa.dim ++ List.replicate (d.ntmps - cv.length) (.tup [])) a0 w:=by
   refine ⟨az,qaV.start ?_ λz hz=>?_⟩
   ·simp only [a0,Array.toList_append,Array.toList_replicate]
    refine qg.append ab.dims ?_
    rw [aC,ai]
    exact qg.replicate _ (by simp [qC,qg,undef])
   ·rcases jM.1 hz with hz | hz
    ·obtain ⟨q,_,rfl⟩:=jU.1 hz;exact qbE q
    ·rw [(List.mem_replicate.1 hz).2];rfl
  have body:∀(E:List Frame) (vv:Value) (B:Frame) (cs:List Frame) (u':FrameMode),G.V v vv->E = { B with mode:=u'} :: cs->settle u' = .returning->
    x = .ret/\s'.t = s.t/\wpOpsSIn (FR none) m P ops (Exit.thenS (c.wpSIn (FR none) m P (bodyPostS P df B cs R)) (bodyPostS P df B cs R)) (List.range' 1 os.length) (a0.put (some d.k) vv) E w:=by
   intro E vv B cs u' U aI ac
   have aK:=aL.put (some d.k) (x:=v.dim) (v:=vv) (qcW U) (qbE v)
   have hl:=qdG os 1 d.ops (λj=>by
    have:ops[1 + j]? = ops.toList[1 + j]?:=by simp
    rw [this,M,Nat.add_comm]
    simp) aA
   obtain ⟨_,r2,r3⟩:=qnu (cs:=E) (m:=m) _ d.ops hl af G.cellsOnly w s.h _ false (a0.put (some d.k) vv) [] aK qbv.nil av
   have key:∀x2 s2,qbe n s.h.length call d.code s1 = some (x2,s2)->(x2 = .nor\/x2 = .ret)->some (Ex.ret,({ s with h:=s2.h,e:=s.e || s2.e}:St)) = some (x,s')->
     x = .ret/\s'.t = s.t/\wpOpsSIn (FR none) m P ops (Exit.thenS (c.wpSIn (FR none) m P (bodyPostS P df B cs R)) (bodyPostS P df B cs R)) (List.range' 1 os.length) (a0.put (some d.k) vv) E w:=by
    intro x2 s2 J au he
    cases he
    refine ⟨rfl,rfl,r3 _ λa1 w1 G1 e1 c1 d1=>?_⟩
    have aH:a1.defers = []:=by rw [d1,qb2]
    refine wpSIn_of_wpIn rfl (wpIn_mono (qcr aD a7 hk (N:=n) (base:=s.h.length) (lo:=w.heap.size) (rf:=true) (fx:=[]) (ro:=none) (m:=m) c d.code aJ (λ_=>ay) G1 w1 s1 a1 x2 s2 c1 r2 (λ_ hq=>by cases hq)
     ⟨[],by rw [aH];rfl,⟨List.nodup_nil,λ_ h=>by cases h⟩,λ_=>rfl⟩ e1.size J) λe a2 w2 aj=>?_)
    obtain ⟨G2,g1,⟨ms,aE,_,ah⟩,g3⟩:=aj
    have aG:a2.defers = []:=by rw [aE,ah rfl];rfl
    have fin:Cfg P gl G2 s2.h s2.t a2 w2->a2.defers = []/\∃u',E = { B with mode:=u'} :: cs/\∃r,(results df a2.tmps).run P w2 = .ok r w2/\R (.returned r) u' w2:=by
     intro c2
     have ak:Ext s.h.length G.cellsOnly w G2.cellsOnly w2:=(e1.trans r2 g1).cellsOnly
     obtain ⟨b1,b2,b3⟩:=qeJ hc ak c2.rel.cellsOnly.1
     refine ⟨aG,u',aI,.tuple #[],?_,hR _ _ _ _ ac b1 ⟨b2,b3⟩⟩
     unfold results
     rw [ad]
     simp
    rcases au with rfl | rfl
    ·obtain ⟨rfl,g3⟩:=g3;exact fin g3
    ·obtain ⟨rfl,g3⟩:=g3;exact fin g3
   split at h
   ·rename_i s2 J;exact key _ s2 J (.inl rfl) h
   ·rename_i s2 J;exact key _ s2 J (.inr rfl) h
   ·cases h
  have a6:List.range ops.size = 0 :: List.range' 1 os.length:=by
   have:ops.size = os.length + 1:=by rw [<-Array.length_toList,M];rfl
   rw [this,List.range_eq_range',List.range'_succ]
  have aB:ops[0]? = some o0:=by
   have:ops[0]? = ops.toList[0]?:=by simp
   rw [this,M]
   rfl
  have ae:(execOp a0.eval o0).run P w = .ok .recover w:=by
   simp [execOp,ar,resolve,ap,am,invoke,builtin]
  have main:∀(B:Frame) (cs:List Frame),B.mode = u->x = .ret/\s'.t = s.t/\(Code.seq (.region id ops false) c).wpSIn (FR none) m P (bodyPostS P df B cs R) a0 (B :: cs) w:=by
   intro B cs I
   have fin:∀(E:List Frame) (vv:Value),(match recoverD (B :: cs) with | some (v,E)=>(v,E) | none=>(.nilIface,B :: cs)) = (vv,E)->
     wpOpsSIn (FR none) m P ops (Exit.thenS (c.wpSIn (FR none) m P (bodyPostS P df B cs R)) (bodyPostS P df B cs R)) (List.range' 1 os.length) (a0.put (some d.k) vv) E w->
     (Code.seq (.region id ops false) c).wpSIn (FR none) m P (bodyPostS P df B cs R) a0 (B :: cs) w:=by
    intro E vv S hW
    refine wpSIn_seq (wpSIn_region ?_)
    rw [a6]
    simp only [wpOpsSIn,aB]
    refine ⟨λ_ _=>trivial,?_⟩
    rw [if_pos (by simp [Region.wanted,aF]),ae]
    simp only
    rw [al]
    cases aa:recoverD (B :: cs) with
    | none=>rw [aa] at S;cases S;exact hW
    | some p=>obtain ⟨p1,p2⟩:=p;rw [aa] at S;cases S;exact hW
   rcases hu with ⟨rfl,rfl⟩ | ⟨vv,rfl,U⟩
   ·obtain ⟨q1,q2,q3⟩:=body (B :: cs) .nilIface B cs .returning (by simp [qc.V,qC]) (by rw [<-I]) rfl
    exact ⟨q1,q2,fin _ _ (by simp [recoverD,I]) q3⟩
   ·obtain ⟨q1,q2,q3⟩:=body ({ B with mode:=.panicking [{ v:=vv,recovered:=true}]} :: cs) vv B cs (.panicking [{ v:=vv,recovered:=true}]) U rfl rfl
    exact ⟨q1,q2,fin _ _ (by simp [recoverD,I]) q3⟩
  have m0:=main { (default:Frame) with mode:=u} [] rfl
  exact ⟨m0.1,m0.2.1,callsDIn_of_wpSIn hf a8 trivial λB cs I=>(main B cs I).2.2⟩
 ·cases h
end
end Go.AE
