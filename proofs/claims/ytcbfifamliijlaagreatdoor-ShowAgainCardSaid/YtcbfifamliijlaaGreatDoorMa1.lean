/- A part of the proof. No condition. -/
import Derived.Test.YtcbfifamliijlaaGreatDoorMa0
import Derived.Laws.MakeOwn
import Derived.RangeFuncRecord
import Derived.LoopNIn
set_option maxRecDepth 100000
set_option maxHeartbeats 0
open List renaming getElem?_append_left→ja,getElem?_eq_some_iff→jd,mem_cons_self→jE,getElem?_set_ne→jf,getElem?_set_self→jg,getElem?_eq_getElem→jh,append_nil→jF,map_map→jG,mem_append→jH,mem_cons_of_mem→jI,getElem?_eq_none→jq,getElem?_map→jr,cons_append→jw,ext_getElem?→jO,mem_map→jP
open Array renaming getElem?_eq_some_iff→je,getElem?_eq_none→jK
open Option.some renaming injEq→jj
open Bool renaming and_eq_true→jk,false_eq_true→jl,false_and→jL,or_false→jM,false_or→jN
open Nat renaming le_refl→jm,le_trans→jn,lt_of_lt_of_le→jo
open Option renaming map_some→jJ,bind_eq_bind→jA
namespace Go.AE
section
variable {P:Program} {gl:Nat->Option (List qd)} {G G':qi} {w w':World} {h:List qj} {t:List qd} {a:Act} {n:Nat}
theorem qfE {e:TypeId} {k:Nat} {z:List qd} (he:qg4 P e = some (k,z)):∃i zz zv,P.info? e = some i/\i.zero = some zv/\i.size = k/\k ≠ 0/\i.bytes <= 65536/\qbO P e = some zz/\zz.cells = z/\z.length = k/\
  (∀γ imm,qp γ imm z zv.cells.toList):=by
 unfold qg4 at he
 split at he
 ·rename_i i zz hi hz
  split at he
  ·cases he
  ·rename_i hh
   cases he
   have E:=hz
   unfold qbO at E
   rw [hi] at E
   simp only at E
   obtain ⟨zv,Y,I⟩:=qG (by simpa [jA] using E)
   exact ⟨i,zz,zv,hi,Y,rfl,zo,zo,hz,rfl,zo,λγ imm=>qgT I⟩
 ·cases he
theorem qGq (hc:Cfg P gl G h t a w) {o:Oper} (hO:qqz P gl o) {ty e:TypeId} {l c:Operand} {al ac:qB} {k:Nat} {z:List qd} (ho:o.op = .makeSlice ty l c) (hu:P.underlying ty = some (.slice e)) (he:qg4 P e = some (k,z))
  (hl:opd gl l = some al) (ab:opd gl c = some ac) {base:Nat} {r:qd×List qj×Bool} (E:hop base (.mk k z) [ev t al,ev t ac] h = some r):Did P gl G w a o h.length r.2.1 (AE.put o.dst r.1.dim t)/\h.length <= r.2.1.length:=by
 obtain ⟨i,zz,zv,hi,a8,hk,aa,ai,hz,ad,a7,a6⟩:=qfE he
 have I:=qai hc.rel hc.tr hl
 have Y:=qai hc.rel hc.tr ab
 generalize ae:ev t al = xl at E I
 generalize af:ev t ac = xc at E Y
 unfold hop at E
 split at E <;> (try (rename_i hq _;cases hq;done)) <;> (try (rename_i hq;cases hq;done)) <;> (try (cases E;done))
 rename_i k' z' k1 n1 k2 n2 hq a1
 cases hq
 simp only [List.cons.injEq,and_true] at a1
 obtain ⟨rfl,rfl⟩:=a1
 split at E
 ·rename_i hh
  obtain ⟨g1,g2,g3,g4⟩:=hh
  cases E
  simp only [qi.V,qC] at I Y
  subst hk
  have hb:(i.bytes:Int) * n2 <= 281474976710656:=by
   have h1:(i.bytes:Int) * n2 <= 65536 * 2 ^ 24:=Int.mul_le_mul zo g3 zo zo
   omega
  have hr:=run_make (P:=P) w ty e i zv hu hi a8 k1 k2 n1 n2 g1 g2 hb zo
  refine ⟨qhO hc hO (ob:=.cells (madeCells zv.cells (n2.toNat * i.size)) e) (u:=.slice (some ⟨w.heap.size,0,none⟩) n1.toNat n2.toNat) ?_ (λG' hx=>?_) (λG' hg=>?_) rfl,by simp⟩
  ·simp only [execOp,ho]
   exact qep (by rw [I,Y];exact hr)
  ·refine ⟨_,e,qaq w _,qf5 ?_,λo xs k v ho _=>(qlr ho).elim⟩
   exact (qin (a6 _ _) i.size n2.toNat a7 aa).dims
  ·simp only [qi.V,qC]
   exact ⟨_,n2.toNat,hg,rfl,zo,jm _,λ_=>rfl,λhh=>absurd rfl hh⟩
 ·cases E
theorem qlU (t:List qd):∀qs:List (Nat×qB),((qs.map (·.1)).zip ((qs.map (·.2)).map (ev t))) = qs.map λq=>(q.1,ev t q.2)
 | []=>rfl
 | q :: qs=>by simp only [List.map_cons,List.zip_cons_cons,qlU t qs]
theorem qDh (hc:Cfg P gl G h t a w) {o:Oper} (hO:qqz P gl o) {ty e:TypeId} {ps:Array (Nat×Operand)} {qs:List (Nat×qB)} {len k:Nat} {z:List qd} (ho:o.op = .buildSlice ty len ps) (hu:P.underlying ty = some (.slice e)) (he:qg4 P e = some (k,z))
  (ai:qhb gl ps.toList = some qs) {base:Nat} {r:qd×List qj×Bool} (E:hop base (.lit k z len (qs.map (·.1))) ((qs.map (·.2)).map (ev t)) h = some r):Did P gl G w a o h.length r.2.1 (AE.put o.dst r.1.dim t)/\h.length <= r.2.1.length:=by
 obtain ⟨i,zz,zv,hi,af,hk,aa,az,hz,av,ae,I⟩:=qfE he
 have a1:qfw P e = some k:=by simp [qfw,hi,hk]
 have ad:(zeroValue e).run P w = .ok zv w:=by simp [zeroValue,typeInfo,hi,af]
 simp only [hop] at E
 split at E
 ·rename_i ar
  split at E
  ·rename_i cs am
   cases E
   obtain ⟨h1,h2⟩:=qfK hc.rel hc.tr k ai
   have ac:qz ((List.replicate len z).flatten) (qs.map λ(i,x)=>(i * k,k,ev t x)) = some cs:=by
    rw [<-am,qlU,jG]
    rfl
   have ay:zv.cells.size = k:=by have:=(I G.γ G.imm).length;simp at this;omega
   obtain ⟨c',e1,e2⟩:=qhr (γ:=G.γ) (imm:=G.imm) (λi=>some (i * k,k)) (ps.toList.map λ(i,x)=>(i,a.eval x)) (qs.map λ(i,x)=>(i * k,k,ev t x)) _ _ cs (qin (I _ _) k len ae aa) (by simpa using h1)
    (λn i v off size x hn a8=>by
     simp only [jr,Option.map_eq_some_iff] at hn a8
     obtain ⟨⟨i',x'⟩,ak,a7⟩:=hn
     obtain ⟨⟨au,aA⟩,aj,a6⟩:=a8
     simp only [Prod.mk.injEq] at a7 a6
     obtain ⟨rfl,rfl⟩:=a7
     obtain ⟨rfl,rfl,rfl⟩:=a6
     obtain ⟨rfl,q2⟩:=h2 n _ _ _ _ ak aj
     exact ⟨rfl,q2⟩) ac
   refine ⟨qhO hc hO (ob:=.cells c' e) (u:=.slice (some ⟨w.heap.size,0,none⟩) len len) ?_ (λG' hx=>⟨c',e,qaq w _,qf5 (hx.VL e2).dims,λo xs k v ho _=>(qlr ho).elim⟩) (λG' hg=>?_) rfl,by simp⟩
   ·simp only [execOp,ho]
    refine qep ?_
    have ab:¬ (len * k > 2 ^ 24):=zo
    have e4:(ps.map λ(i,x)=>(i,a.eval x)).toList = ps.toList.map λ(i,x)=>(i,a.eval x):=by simp
    by_cases Y:len * k = 0
    ·have al:len = 0:=by rcases Nat.mul_eq_zero.1 Y with h | h;exact h;exact absurd h aa
     subst al
     simp only [Nat.zero_mul] at e1
     have ap:Instr.fill (λi=>some (i * k,k)) ((Array.range 0).map ((#[]:Array Value)[· % (#[]:Array Value).size]!)) (ps.toList.map λ(i,x)=>(i,a.eval x)) = some c':=by
      have e0:∀f:Nat->Value,(Array.range 0).map f = #[]:=λf=>by apply Array.ext';simp
      rw [e0] at e1 ⊢
      exact e1
     simp only [Instr.buildSlice,Sem.run_bind,run_underlying hu,Result.andThen_ok,qbQ a1,Nat.zero_mul,gt_iff_lt,Nat.not_lt_zero,if_false,Sem.run_pure,if_true,e4,ap]
     simp [newRow]
    ·simp only [Instr.buildSlice,Sem.run_bind,run_underlying hu,Result.andThen_ok,qbQ a1,if_neg ab,if_neg Y,Sem.run_pure,ad,e4,e1]
     simp [newRow]
   ·simp only [qi.V,qC]
    exact ⟨_,len,hg,rfl,jm _,jm _,λ_=>rfl,λhh=>absurd rfl hh⟩
  ·cases E
 ·cases E
theorem qq5 {t:TypeId} {e:Nat} (h:qFb P gl t = some e) (w:World):(zeroValue t).run P w = .ok (.agg #[.pointer none,.slice none 0 0]) w:=by
 unfold qFb at h
 split at h
 ·rename_i i _ hi
  split at h
  ·rename_i a hz
   split at h
   ·rename_i ha
    have:a = #[.pointer none,.slice none 0 0]:=by rw [<-Array.toArray_toList (xs:=a),ha]
    subst this
    simp [zeroValue,typeInfo,Sem.run,hi,hz]
   ·cases h
  ·cases h
 ·cases h
theorem qDf (hc:Cfg P gl G h t a w) {o:Oper} (hO:qqz P gl o) {ty:TypeId} {e:Nat} (ho:o.op = .alloc ty) (hz:qFb P gl ty = some e) {base:Nat} {r:qd×List qj×Bool} (E:hop base (.bld ty e) [] h = some r) :
  Did P gl G w a o h.length r.2.1 (AE.put o.dst r.1.dim t)/\h.length <= r.2.1.length:=by
 simp only [hop,jj] at E
 subst E
 refine ⟨qhO hc hO (ob:=.cells #[.pointer none,.slice none 0 0] ty (0,0)) (u:=.pointer (some ⟨w.heap.size,0,none⟩)) ?_ (λG' hx=>⟨_,_,qaq w _,.inl rfl,World.ownsRowF_nil _ _ _ _,λg hg=>by simp [Value.ownBlock] at hg⟩) (λG' hg=>?_) rfl,by simp⟩
 ·simp only [execOp,ho]
  refine qep ?_
  simp [Instr.alloc,qq5 hz,newVar,newRow,Value.cells]
 ·simp only [qi.V,qC]
  exact ⟨_,hg,rfl⟩
theorem qk6:∀s:List UInt8,qf4 (qlY s) = qlY s
 | []=>rfl
 | c :: s=>by
  have:=qk6 s
  simp only [qf4,qlY,List.map_cons,List.flatMap_cons,qd.cells,List.singleton_append] at this ⊢
  rw [this]
theorem qwQ (s:List UInt8):∀y ∈ qlY s,y.dim = y:=by
 intro y hy
 simp only [qlY,jP] at hy
 obtain ⟨c,_,rfl⟩:=hy
 rfl
theorem qty (cs:List qd):∀y ∈ cs.map qd.dim,y.dim = y:=by
 intro y hy
 obtain ⟨x,_,rfl⟩:=jP.1 hy
 exact qbf x
theorem qkl (hr:Rel P gl G h w) {v:qd} {val:Value} (hv:G.V v val) {k m:Nat} {ys:List qd} (E:qdE k h v = some (ys,m)):(∀y ∈ ys,y.dim = y)/\ys.length = m * k/\∃nv:List Value,G.VL ys nv/\
  (∀w1:World,(∀q,w1.cell? q = w.cell? q)->(Builtin.firstCells k m val).run P w1 = .ok nv.toArray w1)/\(Builtin.lenOf val).run P w = .ok m w:=by
 unfold qdE at E
 split at E
 ·rename_i xs f
  split at E
  ·rename_i hk
   cases E
   have Y:∀x ∈ xs,x.cells.length = k:=λx hx=>by
    rw [List.all_eq_true] at hk
    simpa using hk x hx
   obtain ⟨vs,h1,h2,h3⟩:=qhU (P:=P) hr hv Y
   exact ⟨qty _,by simp [qdT Y],vs,qp.dims h1,h2,h3⟩
  ·cases E
 ·rename_i s
  split at E
  ·rename_i hk
   cases E
   obtain ⟨vs,h1,h2,h3⟩:=qi3 (P:=P) (w:=w) hv
   rw [qk6] at h1
   exact ⟨qwQ s,by simp [qlY,hk],vs,h1,λw1 _=>h2 k w1,h3⟩
  ·cases E
 ·rename_i id o len cap more
  split at E
  ·rename_i cs hid
   split at E
   ·rename_i a8
    cases E
    simp only [qi.V,qC] at hv
    obtain ⟨b,c,hb,rfl,h1,h2,_⟩:=hv
    obtain ⟨cc,e,g1,g2,_⟩:=hr.box id b _ hb hid
    have a7:=qe1 g2
    have I:(((cc.toList.take cs.length).drop o).take (m * k)).length = m * k:=by simp at a7 ⊢;omega
    refine ⟨qty _,by simp;omega,((cc.toList.take cs.length).drop o).take (m * k),qp.dims (qp.take _ (qp.drop _ g2)),λw1 a6=>?_,by simp [Builtin.lenOf]⟩
    have:=run_loadCells_list (P:=P) w1 ⟨b,o,none⟩ (((cc.toList.take cs.length).drop o).take (m * k)) (λj v hj=>by
     have a1:=(jd.1 hj).1
     rw [I] at a1
     rw [List.getElem?_take_of_lt a1,List.getElem?_drop,List.getElem?_take_of_lt zo] at hj
     rw [qcE,a6]
     simp only [World.cell?,g1]
     simpa using hj)
    rw [I] at this
    simp [Builtin.firstCells,this]
   ·cases E
  ·cases E
 ·cases E
  simp only [qi.V,qC] at hv
  subst hv
  exact ⟨by simp,by simp,[],by simp [qi.VL,qp],λw1 _=>by simp [Builtin.firstCells],by simp [Builtin.lenOf]⟩
 ·cases E
  simp only [qi.V,qC] at hv
  obtain ⟨b,rfl⟩:=hv
  exact ⟨by simp,by simp,[],by simp [qi.VL,qp],λw1 _=>by simp [Builtin.firstCells,loadCells,loadCellsFrom],by simp [Builtin.lenOf]⟩
 ·cases E
theorem qLA {γ:Nat->Option Nat} {imm:Nat->Nat->Option Value} {ys:List qd} {nv:List Value} (h:qp γ imm ys nv) (hs:ys.all qd.storable = true):∀v ∈ nv,v.oneCell' = true:=by
 have:qC γ imm (.agg ys) (.agg nv.toArray):=by simp only [qC];exact ⟨_,rfl,by simpa using h⟩
 have:=(qb2 this hs).2
 simpa [Value.cells] using this
theorem qDe (hc:Cfg P gl G h t a w) {o:Oper} (hO:qqz P gl o) {c:Go.Call} {x y:Operand} {sT xT e:TypeId} {ux:TypeDesc} {ax ay:qB} {k:Nat} {z:List qd} (ho:o.op = .call c) (hcal:c.callee = .builtin .append)
  (aC:c.args.toList = [x,y]) (aO:c.argTypes.toList = [sT,xT]) (hu:P.underlying sT = some (.slice e)) (ak:P.underlying xT = some ux) (ad:(∃e',ux = .slice e')\/ux = .string) (he:qg4 P e = some (k,z))
  (hx:opd gl x = some ax) (hy:opd gl y = some ay) {base:Nat} {r:qd×List qj×Bool} (E:hop base (.app k) [ev t ax,ev t ay] h = some r):Did P gl G w a o h.length r.2.1 (AE.put o.dst r.1.dim t)/\h.length <= r.2.1.length:=by
 obtain ⟨i,zz,zv,hi,aM,hk,aF,aA,hz,b6,b5,aL⟩:=qfE he
 have ea:c.args = #[x,y]:=by rw [<-Array.toArray_toList (xs:=c.args),aC]
 have et:c.argTypes = #[sT,xT]:=by rw [<-Array.toArray_toList (xs:=c.argTypes),aO]
 have aa:=qai hc.rel hc.tr hx
 have aN:=qai hc.rel hc.tr hy
 have b3:=qnA t ax
 have ap:∀w1:World,(zeroValue e).run P w1 = .ok zv w1:=λw1=>by simp [zeroValue,typeInfo,hi,aM]
 have aj:zv.cells.size = i.size:=by have:=(aL G.γ G.imm).length;simp at this;omega
 have a8:∀{v:Value} {w1:World} {bs:Option Addr} {len cap:Nat},a.eval x = .slice bs len cap->(Builtin.append_ #[sT,xT] o.type #[.slice bs len cap,a.eval y]).run P w = .ok v w1->(execOp a.eval o).run P w = .ok (.value v) w1:=by
  intro v w1 bs len cap I hr
  simp [execOp,ho,hcal,ea,et,resolve,invoke,builtin,I,hr]
 simp only [hop,qf8] at E
 split at E
 ·cases E
 rename_i ys m aJ
 split at E
 ·cases E
 rename_i ar
 have ar:ys.all qd.storable = true:=by simpa using ar
 obtain ⟨d1,d2,nv,n1,n2,n3⟩:=qkl (P:=P) hc.rel aN aJ
 have n4:=qLA n1 ar
 subst hk
 have al:nv.length = m * i.size:=by rw [<-n1.length];exact d2
 have ac:∀{bs:Option Addr} {len cap:Nat},a.eval x = .slice bs len cap->len <= cap->m = 0->Did P gl G w a o h.length h (AE.put o.dst (ev t ax).dim t):=by
  intro bs len cap I av hm
  subst hm
  have aV:nv = []:=List.eq_nil_of_length_eq_zero zo
  subst aV
  have aY:=n2 w (λ_=>rfl)
  have aP:(sizeOf e).run P w = .ok i.size w:=by simp [sizeOf,typeInfo,hi]
  have b0:(Builtin.append_ #[sT,xT] o.type #[.slice bs len cap,a.eval y]).run P w = .ok (.slice bs len cap) w:=by
   rcases ad with ⟨e',rfl⟩ | rfl <;> cases bs <;> simp [Builtin.append_,run_underlying hu,run_underlying ak,aP,n3,av,aY,storeCells]
  exact qv7 hc (a8 I b0) (by rw [<-I];exact qcx aa) (qbf _) _
 have fresh:∀{h0:List qj} (_:Cfg P gl G h0 t a w) {bs:Option Addr} {len cap:Nat} {os:List qd} {ov:List Value},h0.length = h.length->a.eval x = .slice bs len cap->G.VL os ov->(∀q ∈ os,q.dim = q)->os.length = len * i.size->
   (∀w1:World,(∀q,w1.cell? q = w.cell? q)->(Builtin.firstCells i.size len (.slice bs len cap)).run P w1 = .ok ov.toArray w1)->len + m <= qk->m ≠ 0->cap < len + m->
   Did P gl G w a o h.length (h0 ++ [.cells (os ++ ys)]) (AE.put o.dst (qd.sl h.length 0 (len + m) (len + m) i.size).dim t):=by
  intro h0 aZ bs len cap os ov aW I aD aU aT aR a1 hm ae
  have ai:ov.length = len * i.size:=by rw [<-aD.length];exact aT
  obtain ⟨hA,_,_⟩:=qeU (P:=P) (w:=w) hu ak ad hi n3 o.type ov nv n2 aR a1 aA ap aj ai al
  obtain ⟨aK,d,cc,g1,g2,g3,g4⟩:=hA ae
  have:=qv5 aZ hO (a8 I g2) (cs:=os ++ ys) (us:=ov ++ nv) (qp.append aD n1) g4 g3 aF g1 zo (λq hq=>by
   rcases jH.1 hq with hq | hq
   ·exact aU q hq
   ·exact d1 q hq)
  rw [aW] at this
  exact this
 split at E
 ·
  rename_i xs ab
  have Y:=aa
  rw [ab] at Y
  simp only [qi.V,qC] at Y
  obtain ⟨bs,len,cap,I,q1,q2,q3,q4,_,_⟩:=Y
  split at E
  ·rename_i hm
   cases E
   refine ⟨?_,jm _⟩
   exact ac I q2 hm
  ·rename_i hm
   split at E
   ·rename_i os n af
    split at E
    ·rename_i a1
     cases E
     obtain ⟨e1,e2,ov,o1,o2,o3⟩:=qkl (P:=P) hc.rel aa af
     rw [I] at o2 o3
     have hn:n = len:=by simpa [Builtin.lenOf] using o3.symm
     subst hn
     exact ⟨fresh hc rfl I o1 e1 e2 o2 a1 hm (by have:=q3 trivial;omega),by simp⟩
    ·cases E
   ·cases E
 ·
  rename_i id p0 len cap more ab
  have Y:=aa
  rw [ab] at Y
  simp only [qi.V,qC] at Y
  obtain ⟨b,cp,hb,I,q1,q2,q3,q4⟩:=Y
  split at E
  ·rename_i hm
   cases E
   refine ⟨?_,jm _⟩
   exact ac I zo hm
  ·rename_i hm
   split at E
   ·rename_i a1
    split at E
    ·
     rename_i ae
     split at E
     ·rename_i h' e' a6
      cases E
      unfold qhv at a6
      split at a6
      ·rename_i cs hid
       split at a6
       ·rename_i a7
        cases a6
        obtain ⟨cc,te,g1,g2,_⟩:=hc.rel.box id b _ hb hid
        have av:=qe1 g2
        have af:qdE i.size h (ev t ax) = some (((cs.drop p0).take (len * i.size)).map qd.dim,len):=by
         rw [ab]
         simp only [qdE,hid]
         rw [if_pos zo]
        obtain ⟨e1,e2,ov,o1,o2,o3⟩:=qkl (P:=P) hc.rel aa af
        rw [I] at o2
        have ai:ov.length = len * i.size:=by rw [<-o1.length];exact e2
        obtain ⟨_,hB,_⟩:=qeU (P:=P) (w:=w) hu ak ad hi n3 o.type ov nv n2 o2 a1 aA ap aj ai al
        have am:p0 + (len + m) * i.size <= cc.size:=by
         rw [Nat.add_mul]
         simp at av
         omega
        have hr:=hB zo b p0 rfl cc te g1 am n4
        refine ⟨qrF hc hO hb hid a7.1 d1 g1 n1 (a8 I hr) (.inl rfl) ?_ rfl _,by simp⟩
        simp only [qi.V,qC,qd.dim]
        exact ⟨b,cp,hb,rfl,ae,q2,q3,q4⟩
       ·cases a6
      ·cases a6
     ·cases E
    ·rename_i ae
     split at E
     ·rename_i os n ds af hid
      obtain ⟨e1,e2,ov,o1,o2,o3⟩:=qkl (P:=P) hc.rel aa af
      rw [I] at o2 o3
      have hn:n = len:=by simpa [Builtin.lenOf] using o3.symm
      subst hn
      split at E
      ·rename_i au
       cases E
       exact ⟨fresh hc rfl I o1 e1 e2 o2 a1 hm (by have:=q3 au;omega),by simp⟩
      ·rename_i au
       split at E
       ·rename_i aB
        obtain ⟨rfl,rfl,b8⟩:=aB
        cases E
        have aH:Cfg P gl G (h.set id .dead) t a w:=⟨hc.rel.kill id,hc.tr⟩
        by_cases az:n + m <= cp
        ·
         have aE:=q4 au
         obtain ⟨k0,cc,te,g1,g2⟩:=hc.rel.immK b _ aE
         have ai:ov.length = n * i.size:=by rw [<-o1.length];exact e2
         obtain ⟨_,hB,_⟩:=qeU (P:=P) (w:=w) hu ak ad hi n3 o.type ov nv n2 o2 a1 aA ap aj ai al
         have am:0 + (n + m) * i.size <= cc.size:=by
          have:=Nat.mul_le_mul_right i.size az
          omega
         have hr:=hB az b 0 rfl cc te g1 am n4
         have a7:0 + n * i.size + nv.length <= cc.toList.length:=by
          rw [al,Nat.add_assoc,<-Nat.add_mul]
          simpa using am
         have aQ:∀(j:Nat) (v:Value),ov[j]? = some v->cc[j]? = some v:=λj v hj=>by
          obtain ⟨ba,b4,aI,b9,_⟩:=hc.rel.box id b _ hb hid
          rw [g1] at aI
          cases aI
          have b7:=(jd.1 hj).1
          have h1:=o2 w (λ_=>rfl)
          have h2:=run_loadCells_list (P:=P) w ⟨b,0,none⟩ (cc.toList.take (n * i.size)) (λj v hj=>by
           have aG:=(jd.1 hj).1
           rw [List.getElem?_take_of_lt (by simp at aG;omega)] at hj
           rw [qcE]
           simp only [World.cell?,g1,Nat.zero_add]
           simpa using hj)
          have h3:(cc.toList.take (n * i.size)).length = n * i.size:=by simp at a7 ⊢;omega
          rw [h3] at h2
          simp only [Builtin.firstCells] at h1
          rw [h2] at h1
          simp only [Result.ok.injEq,and_true] at h1
          have h4:ov = cc.toList.take (n * i.size):=by
           have:=congrArg Array.toList h1
           simpa using this.symm
          rw [h4,List.getElem?_take_of_lt zo] at hj
          simpa using hj
         have:=qrC aH hO (id:=id) (cs:=os ++ ys) (us:=ov ++ nv) (k:=i.size) (len:=n + m) (cap:=cp) (p:=0 + n * i.size) hb (λj hj=>by
           rcases hc.rel.inj j id b hj hb with h1 | h1 | h1
           ·subst h1;exact jg (jd.1 hid).1
           ·exact qdO hid (by simp) h1
           ·rw [hid] at h1;cases h1) (λo v hv=>Classical.byContradiction λhm=>by have:=hc.rel.immγ _ o v id hv hm hb;rw [hid] at this;cases this) g1 (by simpa using a7) (a8 I hr) (qp.append o1 n1) (λj v hj=>by
           by_cases aX:j < ov.length
           ·rw [ja aX] at hj
            rw [(qbx (cs:=cc.toList) (vs:=nv) (o:=0 + n * i.size) (i:=j) a7).1 (.inl zo)]
            simpa using aQ j v hj
           ·rw [List.getElem?_append_right zo] at hj
            have aG:=(jd.1 hj).1
            rw [(qbx (cs:=cc.toList) (vs:=nv) (o:=0 + n * i.size) (i:=j) a7).2 zo zo]
            rw [show j - (0 + n * i.size) = j - ov.length by omega]
            exact hj) aE aF az (λq hq=>by
           rcases jH.1 hq with hq | hq
           ·exact e1 q hq
           ·exact d1 q hq)
         rw [List.length_set] at this
         exact ⟨this,by simp⟩
        ·exact ⟨fresh aH (by simp) I o1 e1 e2 o2 a1 hm zo,by simp⟩
       ·cases E
     ·cases E
   ·cases E
 ·rename_i ab
  have Y:=aa
  rw [ab] at Y
  simp only [qi.V,qC] at Y
  split at E
  ·rename_i hm
   cases E
   exact ⟨ac Y (jm _) hm,jm _⟩
  ·rename_i hm
   split at E
   ·rename_i a1
    cases E
    have:=fresh hc rfl Y (os:=[]) (ov:=[]) (by simp [qi.VL,qp]) (by simp) (by simp) (λw1 _=>by simp [Builtin.firstCells]) zo hm zo
    exact ⟨by simpa using this,by simp⟩
   ·cases E
 ·cases E
theorem qsv (hc:Cfg P gl G h t a w) {o:Oper} {op:BinOp} {ty yt:TypeId} {x y:Operand} {ax ay:qB} {sh:qei} {v:qd} (ho:o.op = .binOp op ty x y yt) (hx:opd gl x = some ax) (hy:opd gl y = some ay)
  (hop:op = .eql\/op = .neq) (Y:qcW (P.underlying ty) = true) (hg:P.eqGuardType P.depth ty = false) (hs:qiu P ty = some sh) (hp:pureV t (.eqs sh (qhh op) ax ay) = some v):qb6 P G w a o v:=by
 have I:=qai hc.rel hc.tr hx
 have E:=qai hc.rel hc.tr hy
 simp only [pureV] at hp
 obtain ⟨r,hr,rfl⟩:=qcn hp
 obtain ⟨h1,_⟩:=qDv hs I E hr w
 obtain ⟨fx,fy,_⟩:=qkZ hr
 obtain ⟨_,_,_,_,_,x4,x5,_⟩:=qdS hs I fx
 obtain ⟨_,_,_,_,_,y4,_,_⟩:=qdS hs E fy
 rw [Y] at x5
 obtain ⟨cx,ex⟩:=x4 x5
 obtain ⟨cy,ey⟩:=y4 x5
 rw [ex,ey] at h1
 have hb:=qjK op hop ty (.agg cx) (.agg cy) _ w h1 (by simp) (by simp) (by simp) (by simp)
 have a6:(eqGuard op ty x y (.agg cx) (.agg cy)).run P w = .ok () w:=by
  have a1:∀w1:World,(Sem.program Sem.pure).run P w1 = .ok P w1:=λ_=>rfl
  rcases hop with rfl | rfl <;> simp [eqGuard,program,a1,hg]
 exact ⟨_,by simp [execOp,ho,ex,ey,a6,hb];rfl,by simp [qi.V,qC],rfl⟩
theorem qah.filter {G:qi} (q:Nat->Bool):∀{es:List (Nat×qd×qd)} {me:List MapEntry},qah G es me->qah G (es.filter λe=>q e.1) (me.filter λe=>q e.born)
 | [],me,h=>by simp only [qah] at h;subst h;simp [qah]
 | x :: es,me,h=>by
  simp only [qah] at h
  obtain ⟨e,rest,rfl,h1,h2,h3,h4⟩:=h
  have ih:=qah.filter q h4
  simp only [List.filter_cons,h1]
  cases q x.1 with
  | false=>simpa using ih
  | true=>simp only [if_true,qah];exact ⟨e,_,rfl,h1,h2,h3,ih⟩
theorem qah.all {G:qi} (q:Nat->Bool):∀{es:List (Nat×qd×qd)} {me:List MapEntry},qah G es me->me.all (λe=>q e.born) = es.all λe=>q e.1
 | [],me,h=>by simp only [qah] at h;subst h;rfl
 | x :: es,me,h=>by
  simp only [qah] at h
  obtain ⟨e,rest,rfl,h1,h2,h3,h4⟩:=h
  simp only [List.all_cons,h1,qah.all q h4]
theorem qAG (hr:Rel P gl G h w) (ht:qaJ G w t a.tmps) {x:qd} {v:Value} {r:qd×List qj} (hv:G.V x v) (hf:frz h x = some r) (n:Nat) :
  ∃G',Rel P gl G' r.2 w/\qaJ G' w t a.tmps/\Ext n G w G' w/\G'.V r.1 v/\r.2.length = h.length:=by
 unfold frz at hf
 split at hf
 ·rename_i id o len cap more
  split at hf
  ·rename_i ds hid
   split at hf
   ·rename_i E
    obtain ⟨rfl,Y,a6⟩:=E
    cases hf
    simp only [qi.V,qC] at hv
    obtain ⟨b,c0,hb,rfl,h1,h2,_,_⟩:=hv
    obtain ⟨c,e,hw,I,_⟩:=hr.box id b _ hb hid
    have a8:ds.length <= c.size:=by have:=qe1 I;simpa using this
    obtain ⟨g1,g2,g3⟩:=qpc (a:=a) hr ht hb hid hw a8 n
    have a1:qp (G.frozen b c ds.length).γ (G.frozen b c ds.length).imm (ds.map qd.dim) (c.toList.take ds.length):=qp.dims (g3.VL I)
    obtain ⟨k1,k2,k3⟩:=qi0 (b:=b) (p:=0) (k:=ds.length / cap) (len:=len) a1 (by simpa using Y) a6 (λo u ho hm=>by
     have a7:o < ds.length:=by have:=(jd.1 ho).1;simp at this;omega
     rw [List.getElem?_take_of_lt a7] at ho
     simp only [qi.frozen]
     rw [if_pos ⟨trivial,zo⟩]
     exact qbj.2 ⟨by simpa using ho,hm⟩)
    refine ⟨_,g1,g2,g3,?_,by simp⟩
    simp only [qi.V,qC]
    exact ⟨_,_,_,rfl,k3.symm,zo,by simp,by simp,⟨_,k1⟩,.inr ⟨b,0,rfl,k2⟩⟩
   ·cases hf
  ·cases hf
 ·cases hf
theorem qjW:∀(cs:List qd) {G:qi} {h:List qj} {vs:List Value} (_:Rel P gl G h w) (_:qaJ G w t a.tmps) (_:G.VL cs vs) (n:Nat),
  ∃G',Rel P gl G' (qpd cs h).2 w/\qaJ G' w t a.tmps/\Ext n G w G' w/\G'.VL (qpd cs h).1 vs/\(qpd cs h).2.length = h.length
 | [],G,h,vs,hr,ht,hv,n=>⟨G,hr,ht,Ext.refl n G w,hv,rfl⟩
 | x :: xs,G,h,vs,hr,ht,hv,n=>by
  simp only [qi.VL,qp] at hv
  obtain ⟨v,rest,rfl,h1,h2⟩:=hv
  unfold qpd
  split
  ·rename_i y h' hf
   obtain ⟨G1,g1,g2,g3,g4,g5⟩:=qAG (a:=a) hr ht h1 hf n
   obtain ⟨G2,k1,k2,k3,k4,k5⟩:=qjW xs g1 g2 (g3.VL h2) n
   refine ⟨G2,k1,k2,g3.trans (jm _) k3,?_,k5.trans g5⟩
   simp only [qi.VL,qp]
   exact ⟨_,_,rfl,k3.V g4,k4⟩
  ·obtain ⟨G2,k1,k2,k3,k4,k5⟩:=qjW xs hr ht h2 n
   refine ⟨G2,k1,k2,k3,?_,k5⟩
   simp only [qi.VL,qp]
   exact ⟨_,_,rfl,k3.V h1,k4⟩
theorem qDg (hc:Cfg P gl G h t a w) {o:Oper} (hO:qqz P gl o) {ty:TypeId} {x:Operand} {ax:qB} {k:Option Nat} (ho:o.op = .load ty x) (hk:tyk P ty = some k) (hx:opd gl x = some ax) {base:Nat} {r:qd×List qj×Bool}
  (Y:hop base (.ldz k) [ev t ax] h = some r):Did P gl G w a o h.length r.2.1 (AE.put o.dst r.1.dim t)/\h.length <= r.2.1.length:=by
 have E:(qel h (ev t ax) k).map (qwG h) = some r:=Y
 obtain ⟨v,hl,rfl⟩:=qcn E
 obtain ⟨u,h1,h2,h3⟩:=qs6 hc.rel hk (qai hc.rel hc.tr hx) hl
 have I:(execOp a.eval o).run P w = .ok (.value u) w:=by simp only [execOp,ho];exact qep h1
 unfold qwG
 split
 ·rename_i cs
  simp only [qi.V,qC] at h2
  obtain ⟨y,rfl,h2⟩:=h2
  obtain ⟨G',k1,k2,k3,k4,k5⟩:=qjW (a:=a) cs hc.rel hc.tr h2 h.length
  refine ⟨⟨_,_,w,G',I,.inl rfl,λ_ hq=>absurd hO hq,k3,(Cfg.mk k1 k2).put o.dst (qcx ?_) (qbf _)⟩,by simp only;omega⟩
  simp only [qi.V,qC]
  exact ⟨y,rfl,k4⟩
 ·exact ⟨⟨_,u,w,G,I,.inl rfl,λ_ _ _ _=>rfl,Ext.refl _ G w,hc.put o.dst (qcx h2) (qbf _)⟩,jm _⟩
theorem qCR (hc:Cfg P gl G h t a w) {o:Oper} {ao:AOp} (E:qg0 P gl o = some ao) {p:qcD} {base:Nat} {call:AE.Call} {e:Bool} {x:Ex} {s':St}
  (I:qA base call p o.dst ao ⟨t,h,e⟩ = some (x,s')):x = .nor/\Did P gl G w a o h.length s'.h s'.t/\h.length <= s'.h.length:=by
 have hO:∀k as,ao = .hx k as->qqz P gl o:=λk as e=>⟨k,as,e▸E⟩
 have fin:∀{k:HOp} {as:List qB},ao = .hx k as->(∀r,hop base k (as.map (ev t)) h = some r->Did P gl G w a o h.length r.2.1 (AE.put o.dst r.1.dim t)/\h.length <= r.2.1.length)->
   x = .nor/\Did P gl G w a o h.length s'.h s'.t/\h.length <= s'.h.length:=by
  intro k as e1 hd
  subst e1
  simp only [qA] at I
  obtain ⟨r,hr,he⟩:=qcn I
  cases he
  obtain ⟨h1,h2⟩:=hd r hr
  exact ⟨rfl,h1,h2⟩
 unfold qg0 at E
 split at E
 ·
  rename_i ty ho
  split at E
  ·rename_i e hz
   cases E
   exact fin rfl λr hr=>qDf hc (hO _ _ rfl) ho hz hr
  ·cases E
 ·
  rename_i ty l c ho
  split at E
  ·rename_i et hu
   obtain ⟨⟨k,z⟩,he,E⟩:=qG E
   obtain ⟨al,hl,E⟩:=qG E
   obtain ⟨ac,ab,E⟩:=qG E
   cases E
   exact fin rfl λr hr=>qGq hc (hO _ _ rfl) ho hu he hl ab hr
  ·cases E
 ·
  rename_i ty n ps ho
  split at E
  ·split at E
   ·rename_i et hu
    obtain ⟨⟨k,z⟩,he,E⟩:=qG E
    obtain ⟨qs,hq,E⟩:=qG E
    cases E
    exact fin rfl λr hr=>qDh hc (hO _ _ rfl) ho hu he hq hr
   ·cases E
  ·cases E
 ·
  rename_i op ty y z yt ho
  split at E
  ·rename_i Y
   simp only [jk,Bool.not_eq_true'] at Y
   obtain ⟨⟨h1,h2⟩,h3⟩:=Y
   obtain ⟨sh,hs,E⟩:=qG E
   obtain ⟨ay,hay,E⟩:=qG E
   obtain ⟨az,ad,E⟩:=qG E
   cases E
   have a7:op = .eql\/op = .neq:=by cases op <;> simp [qDn] at h1 <;> simp
   simp only [qA] at I
   obtain ⟨v,hv,he⟩:=qcn I
   cases he
   exact ⟨rfl,qf1 hc (qsv hc ho hay ad a7 h2 h3 hs hv) _,jm _⟩
  ·cases E
 ·
  rename_i ty x ho
  split at E
  ·obtain ⟨k,hk,E⟩:=qG E
   obtain ⟨ax,hx,E⟩:=qG E
   cases E
   exact fin rfl λr hr=>qDg hc (hO _ _ rfl) ho hk hx hr
  ·cases E
 ·
  rename_i c ho
  split at E
  ·rename_i b hcal
   split at E
   ·rename_i y z sT xT a1 aa
    split at E
    ·split at E
     ·rename_i et ux hu a8
      split at E
      ·cases E
      ·rename_i hm
       obtain ⟨⟨k,zz⟩,he,E⟩:=qG E
       obtain ⟨ax,hx,E⟩:=qG E
       obtain ⟨ay,hy,E⟩:=qG E
       cases E
       have a6:(∃e',ux = .slice e')\/ux = .string:=by
        cases ux <;> first | (exact .inl ⟨_,rfl⟩) | exact .inr rfl | (exfalso;exact hm rfl)
       exact fin rfl λr hr=>qDe hc (hO _ _ rfl) ho hcal a1 aa hu a8 a6 he hx hy hr
     ·cases E
    ·cases E
   ·cases E
  ·cases E
 ·cases E
theorem qAK {o:Oper} {ao:AOp} (E:qg0 P gl o = some ao):(∃k as,ao = .hx k as)\/(∃sh z ok m key ty p q r,ao = .lk sh z ok m key/\o.op = .lookup ty p q r)\/∃op ty p q r,((∃sh n x y,ao = .eqs sh n x y)\/∃n x,ao = .nls n x)/\o.op = .binOp op ty p q r:=by
 unfold qg0 at E
 split at E
 ·split at E
  ·cases E;exact .inl ⟨_,_,rfl⟩
  ·cases E
 ·split at E
  ·obtain ⟨⟨k,z⟩,he,E⟩:=qG E
   obtain ⟨al,hl,E⟩:=qG E
   obtain ⟨ac,I,E⟩:=qG E
   cases E;exact .inl ⟨_,_,rfl⟩
  ·cases E
 ·split at E
  ·split at E
   ·obtain ⟨⟨k,z⟩,he,E⟩:=qG E
    obtain ⟨qs,hq,E⟩:=qG E
    cases E;exact .inl ⟨_,_,rfl⟩
   ·cases E
  ·cases E
 ·rename_i op ty y z yt ho
  split at E
  ·obtain ⟨sh,hs,E⟩:=qG E
   obtain ⟨ay,hay,E⟩:=qG E
   obtain ⟨az,Y,E⟩:=qG E
   cases E;exact .inr (.inr ⟨_,_,_,_,_,.inl ⟨_,_,_,_,rfl⟩,ho⟩)
  ·cases E
 ·split at E
  ·obtain ⟨k,hk,E⟩:=qG E
   obtain ⟨ax,hx,E⟩:=qG E
   cases E;exact .inl ⟨_,_,rfl⟩
  ·cases E
 ·split at E
  ·split at E
   ·split at E
    ·split at E
     ·split at E
      ·cases E
      ·obtain ⟨⟨k,zz⟩,he,E⟩:=qG E
       obtain ⟨ax,hx,E⟩:=qG E
       obtain ⟨ay,hy,E⟩:=qG E
       cases E;exact .inl ⟨_,_,rfl⟩
     ·cases E
    ·cases E
   ·cases E
  ·cases E
 ·cases E
end
section
variable {P:Program} {gl:Nat->Option (List qd)} {G:qi} {w:World} {h:List qj} {t:List qd} {a:Act}
theorem qAf (hc:Cfg P gl G h t a w) {p:qcD} (hp:qbs G w t a p) {o:Oper} {ao:AOp} (E:qfB P gl o = some ao) (ak:ao.calls = false) {base:Nat} {call:AE.Call} {e:Bool} {x:Ex} {s':St}
  (I:qA base call p o.dst ao ⟨t,h,e⟩ = some (x,s')):x = .nor/\Did P gl G w a o h.length s'.h s'.t/\h.length <= s'.h.length:=by
 have Y:∀{q:AOp},(∀v,pureV t q = some v->qb6 P G w a o v)->(pureV t q).map (λv=>(Ex.nor,({ t:=put o.dst v t,h:=h,e:=e}:St))) = some (x,s')->
   x = .nor/\Did P gl G w a o h.length s'.h s'.t/\h.length <= s'.h.length:=by
  intro q hg hm
  obtain ⟨v,hv,he⟩:=qcn hm
  cases he
  exact ⟨rfl,qf1 hc (hg v hv) _,jm _⟩
 have hr:=hc.rel
 have ht:=hc.tr
 unfold qfB at E
 split at E
 ·
  rename_i y ho
  obtain ⟨ay,hy,rfl⟩:=qcn E
  simp only [qA] at I
  exact Y (λv hv=>by simp only [pureV,jj] at hv;subst hv;exact qpl hr ht ho hy) I
 ·
  rename_i y ho
  obtain ⟨ay,hy,rfl⟩:=qcn E
  simp only [qA] at I
  cases I
  exact ⟨rfl,qAc hc ho hy _,jm _⟩
 ·
  rename_i c y z ho
  obtain ⟨ac,aE,E⟩:=qG E
  obtain ⟨ay,hay,E⟩:=qG E
  obtain ⟨az,a1,E⟩:=qG E
  cases E
  simp only [qA] at I
  exact Y (λv hv=>qpn hr ht ho aE hay a1 hv) I
 ·
  rename_i et ho
  obtain ⟨z,hz,E⟩:=qG E
  cases E
  simp only [qA] at I
  cases I
  exact ⟨rfl,qAe hc ho hz,by simp⟩
 ·
  rename_i et y ho
  obtain ⟨k,hk,E⟩:=qG E
  obtain ⟨ay,hay,E⟩:=qG E
  cases E
  simp only [qA] at I
  split at I
  ·rename_i hh
   cases I
   exact ⟨rfl,qrE hc ho hay hh.2,by simp⟩
  ·cases I
 ·
  rename_i ty ps ho
  obtain ⟨z,hz,E⟩:=qG E
  split at E
  ·rename_i fs hu
   split at E
   ·rename_i ar
    obtain ⟨aF,ad,E⟩:=qG E
    cases E
    simp only [qA] at I
    exact Y (λv hv=>qk8 hr ht ho hu ar hz ad hv) I
   ·cases E
  ·cases E
 ·
  rename_i ty n ps ho
  split at E
  ·rename_i et hu
   obtain ⟨k,hk,E⟩:=qG E
   obtain ⟨z,hz,E⟩:=qG E
   split at E
   ·cases E
   ·rename_i aC
    obtain ⟨aF,ad,E⟩:=qG E
    cases E
    simp only [qA] at I
    obtain ⟨v,hv,he⟩:=qcn I
    cases he
    obtain ⟨c,u,h1,h2,h3⟩:=qxd hr ht ho hu hk aC hz ad hv
    exact ⟨rfl,qv6 hc h1 h2 h3 _,jm _⟩
  ·cases E
 ·
  rename_i ty y ho
  obtain ⟨k,hk,E⟩:=qG E
  obtain ⟨ay,hay,E⟩:=qG E
  cases E
  simp only [qA] at I
  obtain ⟨v,hv,he⟩:=qcn I
  cases he
  exact ⟨rfl,qCS hc ho hk hay hv _,jm _⟩
 ·
  rename_i ty y z ho
  obtain ⟨k,hk,E⟩:=qG E
  split at E
  ·rename_i ae
   obtain ⟨ay,hay,E⟩:=qG E
   obtain ⟨az,a1,E⟩:=qG E
   cases E
   simp only [qA] at I
   split at I
   ·rename_i id q hq
    split at I
    ·rename_i cs al
     cases k with
     | none=>
      simp only at I
      split at I
      ·rename_i hh
       cases I
       exact ⟨rfl,qyP (k:=none) hc ho ae hay a1 hq al hh.1 hh.2.1 hh.2.2 h.length,by simp⟩
      ·cases I
     | some k=>
      simp only at I
      split at I
      ·rename_i hh
       cases I
       exact ⟨rfl,qyP (k:=some k) hc ho ae hay a1 hq al hh.1 hh.2.1 hh.2.2 h.length,by simp⟩
      ·cases I
    ·cases I
   ·cases I
  ·cases E
 ·
  rename_i y ho
  obtain ⟨ay,hy,rfl⟩:=qcn E
  simp only [qA] at I
  exact Y (λv hv=>qpm hr ht ho hy hv) I
 ·
  rename_i op ty y z yt ho
  split at E
  ·rename_i ay az hay a1
   split at E
   ·rename_i hop
    have a7:op = .eql\/op = .neq:=by cases op <;> simp [qDn] at hop <;> simp
    split at E
    ·rename_i hu
     cases E
     simp only [qA] at I
     exact Y (λv hv=>qsu hr ht ho hay a1 a7 hu hv) I
    ·cases E
     simp only [qA] at I
     exact Y (q:=.bin op ay az) (λv hv=>qhW hr ht ho hay a1 (by simpa only [pureV] using hv)) I
    ·cases E
     simp only [qA] at I
     exact Y (q:=.bin op ay az) (λv hv=>qhW hr ht ho hay a1 (by simpa only [pureV] using hv)) I
    ·rename_i et hu
     split at E
     ·cases E
     ·rename_i ab
      cases E
      simp only [qA] at I
      refine Y (λv hv=>qf7 hr ht ho hay a1 a7 (λ_=>⟨et,hu,?_⟩) (by simp) (by simp) (by simp) hv) I
      cases hs:qfw P et with
      | none=>simp [hs] at ab
      | some n=>exact ⟨n,rfl,by simpa [hs] using ab⟩
    ·rename_i ms hu
     split at E
     ·rename_i aD
      cases E
      simp only [qA] at I
      exact Y (λv hv=>qf7 hr ht ho hay a1 a7 (by simp) (λ_=>⟨⟨ms,hu⟩,by simpa using aD⟩) (by simp) (by simp) hv) I
     ·cases E
    ·rename_i p1 p2 p3 hu
     cases E
     simp only [qA] at I
     exact Y (λv hv=>qf7 hr ht ho hay a1 a7 (by simp) (by simp) (λ_=>⟨p1,p2,p3,hu⟩) (by simp) hv) I
    ·rename_i p1 p2 hu
     cases E
     simp only [qA] at I
     exact Y (λv hv=>qf7 hr ht ho hay a1 a7 (by simp) (by simp) (by simp) (λ_=>⟨p1,p2,hu⟩) hv) I
    ·cases E
   ·cases E
    simp only [qA] at I
    exact Y (q:=.bin op ay az) (λv hv=>qhW hr ht ho hay a1 (by simpa only [pureV] using hv)) I
  ·cases E
 ·
  rename_i op ty y ho
  obtain ⟨ay,hy,rfl⟩:=qcn E
  simp only [qA] at I
  exact Y (λv hv=>qwI hr ht ho hy hv) I
 ·
  rename_i s d y ho
  obtain ⟨ay,hay,E⟩:=qG E
  split at E
  ·rename_i j k hs hd
   cases E
   simp only [qA] at I
   exact Y (λv hv=>qst hr ht ho hay hs hd hv) I
  ·cases E
 ·
  rename_i ty y ho
  split at E
  ·cases E
  ·cases E
  ·rename_i n1 n2
   obtain ⟨ay,hy,rfl⟩:=qcn E
   simp only [qA] at I
   cases hu:P.underlying ty with
   | none=>exact absurd hu n2
   | some d=>exact Y (λv hv=>qsB hr ht ho hy hu (λms aj=>n1 ms (by rw [hu,aj])) hv) I
 ·
  rename_i f y z ho
  obtain ⟨ay,hay,E⟩:=qG E
  obtain ⟨az,a1,E⟩:=qG E
  cases E
  simp only [qA] at I
  exact Y (λv hv=>qsA hr ht ho hay a1 hv) I
 ·
  rename_i ty y lo hi ho
  split at E
  ·rename_i hu
   obtain ⟨ay,hay,E⟩:=qG E
   obtain ⟨aG,ap,E⟩:=qG E
   obtain ⟨aH,au,E⟩:=qG E
   cases E
   simp only [qA] at I
   exact Y (λv hv=>qpo hr ht ho hay ap au hu hv) I
  ·cases E
 ·
  rename_i s y i ho
  split at E
  ·rename_i fs hu
   split at E
   ·rename_i f hf
    split at E
    ·cases E
    ·rename_i ab
     obtain ⟨ay,hy,rfl⟩:=qcn E
     simp only [qA] at I
     cases hs:qfw P f.type with
     | none=>simp [hs] at ab
     | some n=>exact Y (λv hv=>qwH hr ht ho hy hu hf hs (by simpa [hs] using ab) hv) I
   ·cases E
  ·cases E
 ·
  rename_i s y i ho
  split at E
  ·rename_i fs hu
   split at E
   ·rename_i f hf
    obtain ⟨k,hk,E⟩:=qG E
    obtain ⟨ay,hay,E⟩:=qG E
    cases E
    simp only [qA] at I
    exact Y (λv hv=>qsx hr ht ho hay hu hf hk hv) I
   ·cases E
  ·cases E
 ·
  rename_i ty y i ho
  split at E
  ·rename_i et hu
   obtain ⟨k,hk,E⟩:=qG E
   obtain ⟨ay,hay,E⟩:=qG E
   obtain ⟨ai,a8,E⟩:=qG E
   cases E
   simp only [qA] at I
   exact Y (λv hv=>qph hr ht ho hay a8 hu hk hv) I
  ·rename_i n et hu
   obtain ⟨k,hk,E⟩:=qG E
   obtain ⟨ay,hay,E⟩:=qG E
   obtain ⟨ai,a8,E⟩:=qG E
   cases E
   simp only [qA] at I
   exact Y (λv hv=>qpg hr ht ho hay a8 hu hk hv) I
  ·cases E
 ·
  rename_i ty y i ho
  split at E
  ·rename_i hu
   obtain ⟨ay,hay,E⟩:=qG E
   obtain ⟨ai,a8,E⟩:=qG E
   cases E
   simp only [qA] at I
   exact Y (λv hv=>qsz hr ht ho hay a8 hu hv) I
  ·rename_i n et hu
   obtain ⟨k,hk,E⟩:=qG E
   split at E
   ·rename_i ae
    obtain ⟨ay,hay,E⟩:=qG E
    obtain ⟨ai,a8,E⟩:=qG E
    cases E
    simp only [qA] at I
    exact Y (λv hv=>qsy hr ht ho hay a8 hu hk ae rfl hv) I
   ·cases E
  ·cases E
 ·
  rename_i y xt ty ho
  split at E
  ·cases E
  ·cases E
  ·rename_i n1 n2
   obtain ⟨z,hz,E⟩:=qG E
   obtain ⟨ay,hay,E⟩:=qG E
   cases E
   simp only [qA] at I
   cases hu:P.underlying ty with
   | none=>exact absurd hu n2
   | some d=>exact Y (λv hv=>qsC hr ht ho hay hu (λms aj=>n1 ms (by rw [hu,aj])) hz hv) I
 ·
  rename_i y i ho
  obtain ⟨ay,hay,E⟩:=qG E
  cases E
  simp only [qA] at I
  exact Y (λv hv=>qsw hr ht ho hay hv) I
 ·
  rename_i c ho
  split at E
  ·obtain ⟨af,haf,E⟩:=qG E
   obtain ⟨as,has,E⟩:=qG E
   cases E
   simp [AOp.calls] at ak
  ·cases E
  ·rename_i b hcal
   split at E
   ·rename_i y ty a6 aa
    split at E
    ·rename_i hu
     obtain ⟨ay,hy,rfl⟩:=qcn E
     simp only [qA] at I
     exact Y (λv hv=>qpk hr ht ho hcal a6 aa hy hu hv) I
    ·rename_i et hu
     obtain ⟨ay,hy,rfl⟩:=qcn E
     simp only [qA] at I
     exact Y (λv hv=>qpj hr ht ho hcal a6 aa hy hu hv) I
    ·rename_i n et hu
     cases E
     simp only [qA] at I
     exact Y (λv hv=>by
      simp only [pureV,ev,raw,qd.dim,jj] at hv
      subst hv
      exact qpi ho hcal a6 aa hu) I
    ·cases E
   ·rename_i y z sT xT a6 aa
    split at E
    ·rename_i et ux hu aA
     split at E
     ·cases E
     ·rename_i hm
      obtain ⟨i,hi,E⟩:=qG E
      obtain ⟨zz,hz,E⟩:=qG E
      split at E
      ·cases E
      ·rename_i hn
       obtain ⟨ay,hay,E⟩:=qG E
       obtain ⟨az,a1,E⟩:=qG E
       cases E
       have am:(∃e',ux = .slice e')\/ux = .string:=by
        cases ux <;> first | (exact .inl ⟨_,rfl⟩) | exact .inr rfl | (exfalso;exact hm rfl)
       have aB:qCm P gl o i.size ay az:=⟨c,y,z,sT,xT,et,i,ux,zz,ho,hcal,a6,aa,hu,aA,am,hi,rfl,zo,zo,hz,zo,hay,a1⟩
       have hx:x = .nor:=by
        simp only [qA] at I
        repeat' (split at I)
        all_goals first | (cases I;rfl) | cases I
       subst hx
       obtain ⟨h1,h2,h3⟩:=qAb hc hp aB I h.length (jm _)
       exact ⟨rfl,h1,zo⟩
    ·cases E
   ·rename_i y z av a6
    obtain ⟨ay,hay,E⟩:=qG E
    obtain ⟨az,a1,E⟩:=qG E
    cases E
    simp only [qA] at I
    exact Y (λv hv=>qnF (isMax:=true) hr ht ho hcal a6 hay a1 hv) I
   ·rename_i y z av a6
    obtain ⟨ay,hay,E⟩:=qG E
    obtain ⟨az,a1,E⟩:=qG E
    cases E
    simp only [qA] at I
    exact Y (λv hv=>qnF (isMax:=false) hr ht ho hcal a6 hay a1 hv) I
   ·cases E
 ·
  obtain ⟨ay,hy,rfl⟩:=qcn E
  simp [AOp.calls] at ak
 ·cases E
theorem qyO (hc:Cfg P gl G h t a w) {p:qcD} (hp:qbs G w t a p) {o:Oper} {ao:AOp} (E:qcC P gl o = some ao) (Y:ao.calls = false) {base:Nat} {call:AE.Call} {e:Bool} {x:Ex} {s':St}
  (I:qA base call p o.dst ao ⟨t,h,e⟩ = some (x,s')):x = .nor/\Did P gl G w a o h.length s'.h s'.t/\h.length <= s'.h.length:=by
 unfold qcC at E
 split at E
 ·rename_i y hy
  cases E
  exact qCR hc hy I
 ·exact qAf hc hp E Y I
end
def qae (base:Nat) (h h':List qj):Prop:=
 h.length <= h'.length/\∀(i B:Nat) (bx:qj),i < B->B <= base->h[i]? = some bx->bx.lower B = true->∃bx',h'[i]? = some bx'/\bx'.lower B = true
theorem qae.refl (base:Nat) (h:List qj):qae base h h:=⟨jm _,λi B bx _ _ h1 h2=>⟨bx,h1,h2⟩⟩
theorem qae.trans {base:Nat} {h h' E:List qj} (k:qae base h h') (k':qae base h' E):qae base h E:=
 ⟨jn k.1 k'.1,λi B bx hi hB h1 h2=>by
  obtain ⟨I,h3,h4⟩:=k.2 i B bx hi hB h1 h2
  exact k'.2 i B I hi hB h3 h4⟩
theorem qae.append (base:Nat) (h g:List qj):qae base h (h ++ g):=
 ⟨by simp,λi B bx _ _ h1 h2=>⟨bx,by rw [ja (jd.1 h1).1];exact h1,h2⟩⟩
theorem qae.set {base id:Nat} {h:List qj} {I E:qj} (h0:h[id]? = some I) (hl:∀B,id < B->B <= base->I.lower B = true->E.lower B = true):qae base h (h.set id E):=by
 refine ⟨by simp,λi B bx hi hB h1 h2=>?_⟩
 by_cases e:id = i
 ·subst e
  rw [h0] at h1;cases h1
  exact ⟨E,jg (jd.1 h0).1,hl B hi hB h2⟩
 ·exact ⟨bx,by rw [jf e];exact h1,h2⟩
theorem qae.lower {base b:Nat} {h h':List qj} (k:qae base h h') (hb:b <= base):qae b h h':=
 ⟨k.1,λi B bx hi hB=>k.2 i B bx hi (jn hB hb)⟩
def qaA (base:Nat) (s s':St):Prop:=s.h.length <= s'.h.length/\(s'.e = false->s.e = false/\qae base s.h s'.h)
theorem qaA.refl (base:Nat) (s:St):qaA base s s:=⟨jm _,λh=>⟨h,qae.refl _ _⟩⟩
theorem qaA.trans {base:Nat} {s s' s'':St} (k:qaA base s s') (k':qaA base s' s''):qaA base s s'':=
 ⟨jn k.1 k'.1,λh=>by
  obtain ⟨h1,h2⟩:=k'.2 h
  obtain ⟨h3,h4⟩:=k.2 h1
  exact ⟨h3,h4.trans h2⟩⟩
def qP (call:Call):Prop:=∀fv args h r h' e',call fv args h = some (r,h',e')->h.length <= h'.length/\(e' = false->qae h.length h h')
theorem qe6 {n:Nat}:∀{as:List qd} {i:Nat} {a:qd},qw n as = true->as[i]? = some a->a.lower n = true
 | [],i,a,_,h=>by simp at h
 | x :: as,i,a,hl,h=>by
  simp only [qw,jk] at hl
  cases i with
  | zero=>simp at h;subst h;exact hl.1
  | succ i=>exact qe6 hl.2 (by simpa using h)
theorem qgf {n:Nat}:∀{as:List qd},(∀a ∈ as,a.lower n = true)->qw n as = true
 | [],_=>rfl
 | x :: as,h=>by simp only [qw,jk];exact ⟨h x (by simp),qgf λa ha=>h a (by simp [ha])⟩
theorem qe7 {n:Nat} {as:List qd} (h:qw n as = true):∀a ∈ as,a.lower n = true:=by
 intro a ha
 obtain ⟨i,hi⟩:=List.getElem?_of_mem ha
 exact qe6 h hi
theorem qgg {n o:Nat} {cs vs:List qd} (h:qw n cs = true) (k:qw n vs = true):qw n (splice cs o vs) = true:=by
 refine qgf λa ha=>?_
 unfold splice at ha
 rcases jH.1 ha with ha | ha
 ·rcases jH.1 ha with ha | ha
  ·exact qe7 h a (List.mem_of_mem_take ha)
  ·exact qe7 k a ha
 ·exact qe7 h a (List.mem_of_mem_drop ha)
theorem qpP {n o:Nat} {cs:List qd} {v:qd} (h:qw n cs = true) (k:v.lower n = true):qw n (cs.set o v) = true:=by
 refine qgf λa ha=>?_
 rcases List.mem_or_eq_of_mem_set ha with ha | ha
 ·exact qe7 h a ha
 ·subst ha;exact k
theorem qcG {n:Nat} {f:Nat×qd×qd->Nat×qd×qd} (hf:∀x,x.2.1.lower n = true->x.2.2.lower n = true->(f x).2.1.lower n = true/\(f x).2.2.lower n = true):∀{es:List (Nat×qd×qd)} (i:Nat),qbb n es = true->qbb n (es.modify i f) = true
 | [],i,h=>by simpa using h
 | y :: es,i,h=>by
  simp only [qbb,jk] at h
  cases i with
  | zero=>
   simp only [List.modify_zero_cons,qbb,jk]
   exact ⟨hf y h.1.1 h.1.2,h.2⟩
  | succ i=>
   simp only [List.modify_succ_cons,qbb,jk]
   exact ⟨h.1,qcG hf i h.2⟩
theorem qd1 {n:Nat} {x:Nat×qd×qd} (h1:x.2.1.lower n = true) (h2:x.2.2.lower n = true):∀{es:List (Nat×qd×qd)},qbb n es = true->qbb n (es ++ [x]) = true
 | [],_=>by simp [qbb,h1,h2]
 | y :: es,h=>by
  simp only [qbb,jk] at h
  simp only [jw,qbb,jk]
  exact ⟨h.1,qd1 h1 h2 h.2⟩
theorem qg9 {n:Nat}:∀{es:List (Nat×qd×qd)} (i:Nat),qbb n es = true->qbb n (es.eraseIdx i) = true
 | [],i,h=>by simpa using h
 | y :: es,i,h=>by
  simp only [qbb,jk] at h
  cases i with
  | zero=>exact h.2
  | succ i=>
   simp only [List.eraseIdx_cons_succ,qbb,jk]
   exact ⟨h.1,qg9 i h.2⟩
theorem qlT {base id B:Nat} {vs:List qd} (h:young base id vs = false) (h1:id < B) (h2:B <= base):qw B vs = true:=by
 simp only [young,Bool.not_eq_false',Bool.or_eq_true,Nat.ble_eq] at h
 rcases h with h | h
 ·omega
 ·exact qaP zo vs h
theorem qun {base id o:Nat} {h h':List qj} {vs:List qd} {e:Bool} (hp:qhv base h id o vs = some (h',e)):h.length <= h'.length/\(e = false->qae base h h'):=by
 unfold qhv at hp
 split at hp
 ·rename_i cs hid
  split at hp
  ·cases hp
   refine ⟨by simp,λhe=>qae.set hid λB hB E hl=>?_⟩
   simp only [qj.lower] at hl ⊢
   exact qgg hl (qlT he hB E)
  ·cases hp
 ·cases hp
theorem qld {base k:Nat} {x y:qd} {h:List qj} {r:qd×List qj×Bool} (hr:qf8 base k x y h = some r):h.length <= r.2.1.length/\(r.2.2 = false->qae base h r.2.1):=by
 unfold qf8 at hr
 split at hr
 ·cases hr
 ·split at hr
  ·cases hr
  ·split at hr
   ·split at hr
    ·cases hr;exact ⟨jm _,λ_=>qae.refl _ _⟩
    ·split at hr
     ·split at hr
      ·cases hr;exact ⟨by simp,λ_=>qae.append _ _ _⟩
      ·cases hr
     ·cases hr
   ·split at hr
    ·cases hr;exact ⟨jm _,λ_=>qae.refl _ _⟩
    ·split at hr
     ·split at hr
      ·split at hr
       ·rename_i hp
        cases hr
        exact qun hp
       ·cases hr
      ·split at hr
       ·rename_i hid
        split at hr
        ·cases hr;exact ⟨by simp,λ_=>qae.append _ _ _⟩
        ·split at hr
         ·cases hr
          exact ⟨by simp,λ_=>(qae.set hid λ_ _ _ _=>rfl).trans (qae.append _ _ _)⟩
         ·cases hr
       ·cases hr
     ·cases hr
   ·split at hr
    ·cases hr;exact ⟨jm _,λ_=>qae.refl _ _⟩
    ·split at hr
     ·cases hr;exact ⟨by simp,λ_=>qae.append _ _ _⟩
     ·cases hr
   ·cases hr
theorem qsn {base:Nat} {h:List qj} {x:qd} {r:qd×List qj} (hr:frz h x = some r):qae base h r.2:=by
 unfold frz at hr
 split at hr
 ·split at hr
  ·rename_i hid
   split at hr
   ·cases hr;exact qae.set hid λ_ _ _ _=>rfl
   ·cases hr
  ·cases hr
 ·cases hr
theorem qe2 {base:Nat}:∀(cs:List qd) (h:List qj),qae base h (qpd cs h).2
 | [],h=>qae.refl _ _
 | x :: xs,h=>by
  unfold qpd
  split
  ·rename_i hf
   exact (qsn hf).trans (qe2 xs _)
  ·exact qe2 xs h
theorem qsE {base:Nat} {o:HOp} {as:List qd} {h:List qj} {r:qd×List qj×Bool} (hr:hop base o as h = some r):h.length <= r.2.1.length/\(r.2.2 = false->qae base h r.2.1):=by
 have map:∀{id:Nat} {es E:List (Nat×qd×qd)} {c c':Nat} {vs:List qd},h[id]? = some (.map es c)->(∀B,qw B vs = true->qbb B es = true->qbb B E = true)->
   h.length <= (h.set id (.map E c')).length/\(young base id vs = false->qae base h (h.set id (.map E c'))):=by
  intro id es E c c' vs hid hl
  refine ⟨by simp,λhe=>qae.set hid λB hB Y I=>?_⟩
  simp only [qj.lower] at I ⊢
  exact hl B (qlT he hB Y) I
 unfold hop at hr
 split at hr
 ·split at hr
  ·cases hr;exact ⟨by simp,λ_=>qae.append _ _ _⟩
  ·cases hr
 ·split at hr
  ·split at hr
   ·cases hr;exact ⟨by simp,λ_=>qae.append _ _ _⟩
   ·cases hr
  ·cases hr
 ·exact qld hr
 ·split at hr
  ·split at hr
   ·split at hr
    ·split at hr
     ·cases hr;exact ⟨jm _,λ_=>qae.refl _ _⟩
     ·split at hr
      ·cases hr;exact ⟨jm _,λ_=>qae.refl _ _⟩
      ·cases hr
    ·cases hr
   ·split at hr
    ·split at hr
     ·cases hr;exact ⟨jm _,λ_=>qae.refl _ _⟩
     ·cases hr;exact ⟨jm _,λ_=>qae.refl _ _⟩
    ·cases hr
   ·cases hr
  ·cases hr
 ·cases hr;exact ⟨by simp,λ_=>qae.append _ _ _⟩
 ·split at hr
  ·rename_i hid
   split at hr
   ·cases hr
    refine map hid λB hB hl=>qcG (λx _ _=>?_) _ hl
    simpa [qw] using hB
   ·cases hr
    refine map hid λB hB hl=>?_
    simp only [qw,jk,and_true] at hB
    exact qd1 hB.1 hB.2 hl
   ·cases hr
  ·cases hr
 ·split at hr
  ·rename_i hid
   split at hr
   ·split at hr
    ·cases hr
     refine map hid λB hB hl=>qcG (λx _ h2=>?_) _ hl
     simp only [qw,jk,and_true] at hB
     exact ⟨hB,h2⟩
    ·cases hr
   ·cases hr
    refine map hid λB hB hl=>?_
    simp only [qw,jk,and_true] at hB
    exact qd1 hB.1 hB.2 hl
   ·cases hr
  ·cases hr
 ·split at hr
  ·rename_i hid
   split at hr
   ·cases hr
    refine map hid λB hB hl=>qcG (λx h1 _=>?_) _ hl
    simp only [qw,jk,and_true] at hB
    exact ⟨h1,hB⟩
   ·cases hr
  ·cases hr
 ·split at hr
  ·cases hr;exact ⟨jm _,λ_=>qae.refl _ _⟩
  ·split at hr
   ·cases hr;exact ⟨jm _,λ_=>qae.refl _ _⟩
   ·cases hr
  ·cases hr
 ·cases hr;exact ⟨by simp,λ_=>qae.append _ _ _⟩
 ·split at hr
  ·split at hr
   ·cases hr;exact ⟨jm _,λ_=>qae.refl _ _⟩
   ·cases hr
  ·split at hr
   ·rename_i hid
    split at hr
    ·cases hr
     refine ⟨by simp,λ_=>qae.set hid λB _ _ hl=>?_⟩
     simp only [qj.lower] at hl ⊢
     exact qg9 _ hl
    ·cases hr
     exact ⟨by simp,λ_=>qae.set hid λB _ _ hl=>hl⟩
    ·cases hr
   ·cases hr
  ·cases hr
 ·split at hr
  ·cases hr;exact ⟨by simp,λ_=>qae.append _ _ _⟩
  ·split at hr
   ·cases hr;exact ⟨by simp,λ_=>qae.append _ _ _⟩
   ·cases hr
  ·cases hr
 ·split at hr
  ·cases hr;exact ⟨jm _,λ_=>qae.refl _ _⟩
  ·rename_i hit
   split at hr
   ·split at hr
    ·cases hr
    ·split at hr
     ·cases hr;exact ⟨jm _,λ_=>qae.refl _ _⟩
     ·split at hr
      ·cases hr
       exact ⟨by simp,λ_=>qae.set hit λB _ _ hl=>hl⟩
      ·cases hr
     ·cases hr
   ·cases hr
  ·cases hr
 ·split at hr
  ·split at hr
   ·split at hr
    ·split at hr
     ·cases hr;exact ⟨jm _,λ_=>qae.refl _ _⟩
     ·cases hr
    ·cases hr
   ·cases hr
  ·cases hr
 ·obtain ⟨v,_,hv⟩:=qcn hr
  cases hv
  unfold qwG
  split
  ·exact ⟨(qe2 (base:=base) _ _).1,λ_=>qe2 _ _⟩
  ·exact ⟨jm _,λ_=>qae.refl _ _⟩
 ·cases hr;exact ⟨by simp,λ_=>qae.append _ _ _⟩
 ·cases hr
section
variable {base:Nat} {call:Call}
theorem qnd {k:Nat} {p:qcD} {x:qB} {s s':St} {xs:List qd} (h:qeQ k p x s = some (xs,s')):qaA base s s':=by
 unfold qeQ at h
 split at h
 ·cases h
 ·split at h
  ·split at h
   ·cases h;exact ⟨jm _,λh=>⟨h,qae.refl _ _⟩⟩
   ·cases h
  ·split at h
   ·split at h
    ·split at h
     ·cases h;exact ⟨jm _,λh=>⟨h,qae.refl _ _⟩⟩
     ·cases h
    ·cases h
   ·split at h
    ·split at h
     ·rename_i cs hid
      split at h
      ·rename_i ys j ho
       split at h
       ·cases h
        refine ⟨by simp,λhe=>⟨he,qae.set hid λB _ _ hl=>?_⟩⟩
        simp only [qj.lower] at hl ⊢
        have:=qe6 hl ho
        simp only [qd.lower] at this
        exact qpP hl (by simpa [qd.lower] using this)
       ·cases h
      ·cases h
     ·cases h
    ·cases h
   ·cases h
theorem qci (hc:qP call) {p:qcD} {dst:Option Nat} {o:AOp} {s s':St} {x:Ex} (hb:base <= s.h.length) (h:qA base call p dst o s = some (x,s')):qaA base s s':=by
 have E:∀{q:Option qd},q.map (λv=>(Ex.nor,({ s with t:=put dst v s.t}:St))) = some (x,s')->qaA base s s':=by
  intro q hm
  obtain ⟨v,_,he⟩:=qcn hm
  cases he
  exact ⟨jm _,λh=>⟨h,qae.refl _ _⟩⟩
 cases o <;> simp only [qA] at h <;> first
  | exact E h
  | skip
 case asg y=>cases h;exact ⟨jm _,λh=>⟨h,qae.refl _ _⟩⟩
 case new cs=>cases h;exact ⟨by simp,λh=>⟨h,qae.append _ _ _⟩⟩
 case box k y=>
  split at h
  ·cases h;exact ⟨by simp,λh=>⟨h,qae.append _ _ _⟩⟩
  ·cases h
 case st k y z=>
  split at h
  ·rename_i id q hq
   split at h
   ·rename_i cs Y
    have key:∀(vs:List qd) (s1:St),s1.h = s.h.set id (.cells (splice cs q vs))->s1.e = (s.e || !(Nat.ble base id || qw (id + 1) vs))->qaA base s s1:=by
     intro vs s1 e1 e2
     refine ⟨by rw [e1];simp,λhe=>?_⟩
     rw [e2] at he
     simp only [Bool.or_eq_false_iff,Bool.not_eq_false',Bool.or_eq_true,Nat.ble_eq] at he
     refine ⟨he.1,?_⟩
     rw [e1]
     refine qae.set Y λB hB a6 hl=>?_
     simp only [qj.lower] at hl ⊢
     rcases he.2 with h1 | h1
     ·omega
     ·exact qgg hl (qaP zo vs h1)
    cases k with
    | none=>
     simp only at h
     split at h
     ·cases h;exact key _ _ rfl rfl
     ·cases h
    | some k=>
     simp only at h
     split at h
     ·cases h;exact key _ _ rfl rfl
     ·cases h
   ·cases h
  ·cases h
 case call f args=>
  split at h
  ·rename_i v hh e he
   cases h
   obtain ⟨h1,h2⟩:=hc _ _ _ _ _ _ he
   refine ⟨h1,λhf=>?_⟩
   simp only [Bool.or_eq_false_iff] at hf
   exact ⟨hf.1,(h2 hf.2).lower hb⟩
  ·rename_i v hh e he
   cases h
   obtain ⟨h1,h2⟩:=hc _ _ _ _ _ _ he
   refine ⟨h1,λhf=>?_⟩
   simp only [Bool.or_eq_false_iff] at hf
   exact ⟨hf.1,(h2 hf.2).lower hb⟩
  ·cases h
 case app k y z=>
  split at h
  ·split at h
   ·cases h;exact ⟨jm _,λh=>⟨h,qae.refl _ _⟩⟩
   ·split at h
    ·split at h
     ·cases h;exact ⟨jm _,λh=>⟨h,qae.refl _ _⟩⟩
     ·split at h
      ·rename_i a1 s2 I
       split at h
       ·cases h
        have:=qnd (base:=base) I
        exact ⟨this.1,this.2⟩
       ·cases h
      ·cases h
    ·cases h
  ·cases h
 case pan y=>
  split at h
  ·cases h;exact qaA.refl _ _
  ·cases h
 case hx o as=>
  obtain ⟨r,hr,he⟩:=qcn h
  cases he
  obtain ⟨h1,h2⟩:=qsE hr
  refine ⟨h1,λhf=>?_⟩
  simp only [Bool.or_eq_false_iff] at hf
  exact ⟨hf.1,h2 hf.2⟩
theorem qdi (hc:qP call):∀(ops:List qam) (p:qcD) (s s':St) (x:Ex),base <= s.h.length->qaO base call p ops s = some (x,s')->qaA base s s'
 | [],p,s,s',x,_,h=>by simp only [qaO] at h;cases h;exact qaA.refl _ _
 | o :: os,p,s,s',x,hb,h=>by
  simp only [qaO] at h
  split at h
  ·split at h
   ·rename_i s1 h1
    have k1:=qci (base:=base) hc hb h1
    exact k1.trans (qdi hc os _ s1 s' x (jn hb k1.1) h)
   ·exact qci hc hb h
  ·have k1:qaA base s { s with t:=put o.dst (.tup []) s.t}:=⟨jm _,λh=>⟨h,qae.refl _ _⟩⟩
   exact k1.trans (qdi hc os _ _ s' x hb h)
  ·cases h
theorem qbH (hc:qP call) (dsts:List Nat):∀(ops:List qR) (pend:List (Nat×Chk)) (s s':St) (x:Ex),base <= s.h.length->qW base call dsts ops pend s = some (x,s')->qaA base s s'
 | [],pend,s,s',x,_,h=>by simp only [qW] at h;cases h;exact qaA.refl _ _
 | d :: ds,pend,s,s',x,hb,h=>by
  simp only [qW] at h
  split at h
  ·split at h
   ·rename_i s1 h1
    have k1:=qci (base:=base) hc hb h1
    split at h
    ·split at h
     ·exact k1.trans (qbH hc dsts ds _ s1 s' x (jn hb k1.1) h)
     ·cases h
    ·split at h
     ·exact k1.trans (qbH hc dsts ds _ s1 s' x (jn hb k1.1) h)
     ·exact k1.trans (qbH hc dsts ds _ s1 s' x (jn hb k1.1) h)
   ·rename_i v s1 h1
    have k1:=qci (base:=base) hc hb h1
    split at h
    ·cases h;exact ⟨k1.1,k1.2⟩
    ·cases h
   ·cases h
  ·have k1:qaA base s { s with t:=put d.o.dst (.tup []) s.t}:=⟨jm _,λh=>⟨h,qae.refl _ _⟩⟩
   exact k1.trans (qbH hc dsts ds _ _ s' x hb h)
  ·cases h
theorem qi8 {f:St->Option (Ex×St)} (hf:∀s s' x,base <= s.h.length->f s = some (x,s')->qaA base s s'):∀(n:Nat) (s s':St) (x:Ex),base <= s.h.length->iter f n s = some (x,s')->qaA base s s'
 | 0,s,s',x,_,h=>by simp [iter] at h
 | n + 1,s,s',x,hb,h=>by
  simp only [iter] at h
  split at h
  ·rename_i s1 h1
   have k1:=hf s s1 _ hb h1
   exact k1.trans (qi8 hf n s1 s' x (jn hb k1.1) h)
  ·exact hf s s' x hb h
theorem qK (hc:qP call) (n:Nat):∀(c:qF) (s s':St) (x:Ex),base <= s.h.length->qaV n base call c s = some (x,s')->qaA base s s'
 | .skip,s,s',x,_,h=>by simp only [qaV] at h;cases h;exact qaA.refl _ _
 | .reg ops,s,s',x,hb,h=>qdi hc ops _ s s' x hb (by simpa only [qaV] using h)
 | .draw ops,s,s',x,hb,h=>qbH hc _ ops _ s s' x hb (by simpa only [qaV] using h)
 | .draw2 c a b r,s,s',x,hb,h=>by
  simp only [qaV] at h
  obtain ⟨_,h1,_⟩:=qq9 h
  exact qbH hc _ _ _ s s' _ hb h1
 | .seq a b,s,s',x,hb,h=>by
  simp only [qaV] at h
  split at h
  ·rename_i s1 h1
   have k1:=qK hc n a s s1 _ hb h1
   exact k1.trans (qK hc n b s1 s' x (jn hb k1.1) h)
  ·exact qK hc n a s s' x hb h
 | .cond c a b,s,s',x,hb,h=>by
  simp only [qaV] at h
  split at h
  ·exact qK hc n a s s' x hb h
  ·exact qK hc n b s s' x hb h
  ·cases h
 | .block id b,s,s',x,hb,h=>by
  simp only [qaV] at h
  split at h
  ·rename_i j s1 h1
   have k1:=qK hc n b s s1 _ hb h1
   split at h
   ·cases h;exact k1
   ·cases h;exact k1
  ·exact qK hc n b s s' x hb h
 | .loop b,s,s',x,hb,h=>qi8 (λs s' x hb h=>qK hc n b s s' x hb h) n s s' x hb (by simpa only [qaV] using h)
 | .exit id,s,s',x,_,h=>by simp only [qaV] at h;cases h;exact qaA.refl _ _
 | .ret,s,s',x,_,h=>by simp only [qaV] at h;cases h;exact qaA.refl _ _
 | .rfun f ps asg body,s,s',x,hb,h=>by
  simp only [qaV] at h
  split at h
  ·rename_i g first cap hf
   split at h
   ·rename_i v hh e he
    obtain ⟨h1,h2⟩:=hc _ _ _ _ _ _ he
    split at h
    ·rename_i t a1 Y E st pend hl
     split at h
     ·cases h
     ·have key:∀s1:St,s1.h = hh.set s.h.length (.loop t a1 Y E .exhausted pend)->s1.e = (s.e || e)->qaA base s s1:=by
       intro s1 e1 e2
       refine ⟨by rw [e1];simp at h1 ⊢;omega,λhf=>?_⟩
       rw [e2] at hf
       simp only [Bool.or_eq_false_iff] at hf
       refine ⟨hf.1,?_⟩
       rw [e1]
       refine ((qae.append base s.h _).trans ((h2 hf.2).lower (by simp;omega))).trans (qae.set hl λB _ _ I=>?_)
       exact I
      split at h
      ·cases h;exact key _ rfl rfl
      ·cases h;exact key _ rfl rfl
      ·cases h;exact key _ rfl rfl
    ·cases h
   ·rename_i v hh e he
    obtain ⟨h1,h2⟩:=hc _ _ _ _ _ _ he
    cases h
    refine ⟨by simp at h1 ⊢;omega,λhf=>?_⟩
    simp only [Bool.or_eq_false_iff] at hf
    exact ⟨hf.1,(qae.append base s.h _).trans ((h2 hf.2).lower (by simp;omega))⟩
   ·cases h
  ·cases h
theorem qa6 {r:qdm} {h h':List qj} {e:Bool} (hk:h.length <= h'.length/\(e = false->qae h.length h h')) :
  h.length <= (leave h.length r h' e).2.1.length/\((leave h.length r h' e).2.2 = false->qae h.length h (leave h.length r h' e).2.1):=by
 cases r <;> unfold leave <;> simp only <;> split
 all_goals first
  | exact hk
  | skip
 all_goals
  rename_i hh
  refine ⟨by simp;omega,λhe=>⟨by simp;omega,λi B bx hi hB h1 h2=>?_⟩⟩
  obtain ⟨E,h3,h4⟩:=(hk.2 he).2 i B bx hi hB h1 h2
  exact ⟨E,by simp only;rw [List.getElem?_take_of_lt zo];exact h3,h4⟩
end
theorem qm4 {n:Nat} {call:Call} (hc:qP call) {l:Nat} {args:List qd} {h:List qj} {r:qdm} {h':List qj} {e':Bool} (hr:round n call l args h = some (r,h',e')) :
  h.length <= h'.length/\(e' = false->qae h.length h h'):=by
 unfold round at hr
 split at hr
 ·rename_i t ps asg body _ _ hl
  split at hr
  ·cases hr
  ·simp only at hr
   split at hr
   ·rename_i s1 h1
    have k1:=qK (base:=h.length) hc n asg _ s1 _ (jm _) h1
    split at hr
    ·rename_i t1 ps1 asg1 body1 pend a1
     have kk:qaA h.length s1 { s1 with h:=s1.h.set l (.loop t1 ps1 asg1 body1 .busy pend)}:=⟨by simp,λhe=>⟨he,qae.set a1 λB _ _ E=>E⟩⟩
     split at hr
     ·rename_i x s2 h2
      have k2:=qK (base:=h.length) hc n body _ s2 _ (by simpa using k1.1) h2
      have I:=k1.trans (kk.trans k2)
      split at hr
      ·rename_i t2 ps2 asg2 body2 st2 pend2 Y
       have key:∀st pend r0,leave h.length r0 (s2.h.set l (.loop t2 ps2 asg2 body2 st pend)) s2.e = (r,h',e')->h.length <= h'.length/\(e' = false->qae h.length h h'):=by
        intro st pend r0 hq
        have:=qa6 (r:=r0) (h:=h) (h':=s2.h.set l (.loop t2 ps2 asg2 body2 st pend)) (e:=s2.e)
         ⟨by simpa using I.1,λhe=>(I.2 he).2.trans (qae.set Y λB _ _ E=>E)⟩
        rw [hq] at this
        exact this
       split at hr
       ·exact key _ _ _ (Option.some.inj hr)
       ·exact key _ _ _ (Option.some.inj hr)
       ·exact key _ _ _ (Option.some.inj hr)
       ·cases hr
      ·cases hr
     ·cases hr
    ·cases hr
   ·cases hr
 ·cases hr
theorem qlJ {F:FuncId->Option qt} {X:qlW} (hX:∀f g,X f = some g->∀call,qP call->qP λ_ as h=>g call as h):∀n,qP (run F X n)
 | 0=>λfv args h r h' e' hr=>by simp [run] at hr
 | n + 1=>λfv args h r h' e' hr=>by
  have ih:=qlJ (F:=F) hX n
  simp only [run] at hr
  split at hr
  ·rename_i f first cap
   split at hr
   ·rename_i g hg
    exact hX f g hg _ ih (.fn f first cap) _ h r h' e' hr
   ·split at hr
    ·cases hr
    ·rename_i fn I
     split at hr
     ·rename_i s h1
      have k:=qK (base:=h.length) ih n fn.code _ s _ (jm _) h1
      split at hr
      ·rename_i vs E
       have:=qa6 (r:=.ret (qbv vs)) (h:=h) ⟨k.1,λhe=>(k.2 he).2⟩
       rw [Option.some.inj hr] at this
       exact this
      ·cases hr
     ·rename_i s h1
      have k:=qK (base:=h.length) ih n fn.code _ s _ (jm _) h1
      split at hr
      ·rename_i vs E
       have:=qa6 (r:=.ret (qbv vs)) (h:=h) ⟨k.1,λhe=>(k.2 he).2⟩
       rw [Option.some.inj hr] at this
       exact this
      ·cases hr
     ·rename_i v s h1
      have k:=qK (base:=h.length) ih n fn.code _ s _ (jm _) h1
      have:=qa6 (r:=.pan v) (h:=h) ⟨k.1,λhe=>(k.2 he).2⟩
      rw [Option.some.inj hr] at this
      exact this
     ·cases hr
  ·exact qm4 ih hr
  ·cases hr
section
variable {P:Program} {gl:Nat->Option (List qd)}
def Was (P:Program) (gl:Nat->Option (List qd)) (o:Oper) (ao:AOp):Prop:=
 (∀i,ao = .mov (.t i)->o.op = .move (.tmp i))/\(∀q,ao = .ld none q->∃ty y,o.op = .load ty y/\opd gl y = some q/\tyk P ty = some none)/\(qqO o->ao.acts = true)/\
 (∀f as,ao = .call f as->∃c fo,o.op = .call c/\c.callee = .value fo/\opd gl fo = some f/\qvu gl c.args = some as)/\(∀x,ao = .pan x->∃xo,o.op = .panic xo/\opd gl xo = some x)/\
 (∀cs,ao = .new cs->∃e z,o.op = .alloc e/\qbO P e = some z/\cs = z.cells)/\(∀k y,ao = .box k y->∃e x,o.op = .box e x/\opd gl x = some y)
theorem qO {o:Oper} {ao:AOp}
  (h1:∀i,ao = .mov (.t i)->o.op = .move (.tmp i):=by intro i hh;first | (cases hh;done) | (cases hh;rw [ho,qkc hy]))
  (h2:∀q,ao = .ld none q->∃ty y,o.op = .load ty y/\opd gl y = some q/\tyk P ty = some none:=by intro q hh;first | (cases hh;done) | (cases hh;exact ⟨_,_,ho,hay,hk⟩))
  (h3:qqO o->ao.acts = true:=by
   intro hh
   first
   | rfl
   | (rcases hh with ⟨_,_,_,hh⟩ | ⟨_,hh,hh2⟩ <;> rw [ho] at hh <;> cases hh;done)
   | (rcases hh with ⟨_,_,_,hh⟩ | ⟨_,hh,hh2⟩
      ·rw [ho] at hh;cases hh
      ·rw [ho] at hh;cases hh;rw [hcal] at hh2;cases hh2))
  (h4:∀f as,ao = .call f as->∃c fo,o.op = .call c/\c.callee = .value fo/\opd gl fo = some f/\qvu gl c.args = some as:=by intro f as hh;first | (cases hh;done) | (cases hh;exact ⟨_,_,ho,‹_›,haf,has⟩))
  (h5:∀x,ao = .pan x->∃xo,o.op = .panic xo/\opd gl xo = some x:=by intro x hh;first | (cases hh;done) | (cases hh;exact ⟨_,ho,hy⟩))
  (h6:∀cs,ao = .new cs->∃e z,o.op = .alloc e/\qbO P e = some z/\cs = z.cells:=by intro cs hh;first | (cases hh;done) | (cases hh;exact ⟨_,_,ho,hz,rfl⟩))
  (h7:∀k y,ao = .box k y->∃e x,o.op = .box e x/\opd gl x = some y:=by intro k y hh;first | (cases hh;done) | (cases hh;exact ⟨_,_,ho,hay⟩)):Was P gl o ao:=⟨h1,h2,h3,h4,h5,h6,h7⟩
theorem qrt {o:Oper} {ao:AOp} (E:qfB P gl o = some ao):Was P gl o ao:=by
 unfold qfB at E
 split at E
 ·
  rename_i y ho
  obtain ⟨ay,hy,rfl⟩:=qcn E
  exact qO
 ·
  rename_i y ho
  obtain ⟨ay,hy,rfl⟩:=qcn E
  exact qO
 ·
  rename_i c y z ho
  obtain ⟨ac,au,E⟩:=qG E
  obtain ⟨ay,hay,E⟩:=qG E
  obtain ⟨az,I,E⟩:=qG E
  cases E
  exact qO
 ·
  rename_i et ho
  obtain ⟨z,hz,E⟩:=qG E
  cases E
  exact qO
 ·
  rename_i et y ho
  obtain ⟨k,hk,E⟩:=qG E
  obtain ⟨ay,hay,E⟩:=qG E
  cases E
  exact qO
 ·
  rename_i ty ps ho
  obtain ⟨z,hz,E⟩:=qG E
  split at E
  ·rename_i fs hu
   split at E
   ·rename_i ak
    obtain ⟨ad,a6,E⟩:=qG E
    cases E
    exact qO
   ·cases E
  ·cases E
 ·
  rename_i ty n ps ho
  split at E
  ·rename_i et hu
   obtain ⟨k,hk,E⟩:=qG E
   obtain ⟨z,hz,E⟩:=qG E
   split at E
   ·cases E
   ·rename_i ap
    obtain ⟨ad,a6,E⟩:=qG E
    cases E
    exact qO
  ·cases E
 ·
  rename_i ty y ho
  obtain ⟨k,hk,E⟩:=qG E
  obtain ⟨ay,hay,E⟩:=qG E
  cases E
  exact qO
 ·
  rename_i ty y z ho
  obtain ⟨k,hk,E⟩:=qG E
  split at E
  ·rename_i aa
   obtain ⟨ay,hay,E⟩:=qG E
   obtain ⟨az,I,E⟩:=qG E
   cases E
   exact qO
  ·cases E
 ·
  rename_i y ho
  obtain ⟨ay,hy,rfl⟩:=qcn E
  exact qO
 ·
  rename_i op ty y z yt ho
  split at E
  ·rename_i ay az hay I
   split at E
   ·rename_i hop
    have ae:op = .eql\/op = .neq:=by cases op <;> simp [qDn] at hop <;> simp
    split at E
    ·rename_i hu
     cases E
     exact qO
    ·cases E
     exact qO
    ·cases E
     exact qO
    ·rename_i et hu
     split at E
     ·cases E
     ·rename_i ab
      cases E
      exact qO
    ·rename_i ms hu
     split at E
     ·rename_i ar
      cases E
      exact qO
     ·cases E
    ·rename_i p1 p2 p3 hu
     cases E
     exact qO
    ·rename_i p1 p2 hu
     cases E
     exact qO
    ·cases E
   ·cases E
    exact qO
  ·cases E
 ·
  rename_i op ty y ho
  obtain ⟨ay,hy,rfl⟩:=qcn E
  exact qO
 ·
  rename_i s d y ho
  obtain ⟨ay,hay,E⟩:=qG E
  split at E
  ·rename_i j k hs hd
   cases E
   exact qO
  ·cases E
 ·
  rename_i ty y ho
  split at E
  ·cases E
  ·cases E
  ·rename_i n1 n2
   obtain ⟨ay,hy,rfl⟩:=qcn E
   exact qO
 ·
  rename_i f y z ho
  obtain ⟨ay,hay,E⟩:=qG E
  obtain ⟨az,I,E⟩:=qG E
  cases E
  exact qO
 ·
  rename_i ty y lo hi ho
  split at E
  ·rename_i hu
   obtain ⟨ay,hay,E⟩:=qG E
   obtain ⟨av,aj,E⟩:=qG E
   obtain ⟨aA,al,E⟩:=qG E
   cases E
   exact qO
  ·cases E
 ·
  rename_i s y i ho
  split at E
  ·rename_i fs hu
   split at E
   ·rename_i f hf
    split at E
    ·cases E
    ·rename_i ab
     obtain ⟨ay,hy,rfl⟩:=qcn E
     exact qO
   ·cases E
  ·cases E
 ·
  rename_i s y i ho
  split at E
  ·rename_i fs hu
   split at E
   ·rename_i f hf
    obtain ⟨k,hk,E⟩:=qG E
    obtain ⟨ay,hay,E⟩:=qG E
    cases E
    exact qO
   ·cases E
  ·cases E
 ·
  rename_i ty y i ho
  split at E
  ·rename_i et hu
   obtain ⟨k,hk,E⟩:=qG E
   obtain ⟨ay,hay,E⟩:=qG E
   obtain ⟨ai,a1,E⟩:=qG E
   cases E
   exact qO
  ·rename_i n et hu
   obtain ⟨k,hk,E⟩:=qG E
   obtain ⟨ay,hay,E⟩:=qG E
   obtain ⟨ai,a1,E⟩:=qG E
   cases E
   exact qO
  ·cases E
 ·
  rename_i ty y i ho
  split at E
  ·rename_i hu
   obtain ⟨ay,hay,E⟩:=qG E
   obtain ⟨ai,a1,E⟩:=qG E
   cases E
   exact qO
  ·rename_i n et hu
   obtain ⟨k,hk,E⟩:=qG E
   split at E
   ·rename_i aa
    obtain ⟨ay,hay,E⟩:=qG E
    obtain ⟨ai,a1,E⟩:=qG E
    cases E
    exact qO
   ·cases E
  ·cases E
 ·
  rename_i y xt ty ho
  split at E
  ·cases E
  ·cases E
  ·rename_i n1 n2
   obtain ⟨z,hz,E⟩:=qG E
   obtain ⟨ay,hay,E⟩:=qG E
   cases E
   exact qO
 ·
  rename_i y i ho
  obtain ⟨ay,hay,E⟩:=qG E
  cases E
  exact qO
 ·
  rename_i c ho
  split at E
  ·obtain ⟨af,haf,E⟩:=qG E
   obtain ⟨as,has,E⟩:=qG E
   cases E
   exact qO
  ·cases E
  ·rename_i b hcal
   split at E
   ·rename_i y ty Y a8
    split at E
    ·rename_i hu
     obtain ⟨ay,hy,rfl⟩:=qcn E
     exact qO
    ·rename_i et hu
     obtain ⟨ay,hy,rfl⟩:=qcn E
     exact qO
    ·rename_i n et hu
     cases E
     exact qO
    ·cases E
   ·rename_i y z sT xT Y a8
    split at E
    ·rename_i et ux hu am
     split at E
     ·cases E
     ·rename_i hm
      obtain ⟨i,hi,E⟩:=qG E
      obtain ⟨zz,hz,E⟩:=qG E
      split at E
      ·cases E
      ·rename_i hn
       obtain ⟨ay,hay,E⟩:=qG E
       obtain ⟨az,I,E⟩:=qG E
       cases E
       exact qO
    ·cases E
   ·rename_i y z a7 Y
    obtain ⟨ay,hay,E⟩:=qG E
    obtain ⟨az,I,E⟩:=qG E
    cases E
    exact qO
   ·rename_i y z a7 Y
    obtain ⟨ay,hay,E⟩:=qG E
    obtain ⟨az,I,E⟩:=qG E
    cases E
    exact qO
   ·cases E
 ·
  rename_i y ho
  obtain ⟨ay,hy,rfl⟩:=qcn E
  exact qO
 ·cases E
theorem qck {o:Oper} {ao:AOp} (E:qcC P gl o = some ao):Was P gl o ao:=by
 unfold qcC at E
 split at E
 ·rename_i y hy
  cases E
  rcases qAK hy with ⟨k,as,rfl⟩ | ⟨sh,z,ok,m,key,ty,p,q,r,rfl,ho⟩ | ⟨op,ty,p,q,r,⟨sh,n,x,y,rfl⟩ | ⟨n,x,rfl⟩,ho⟩
  ·refine ⟨λ_ h=>?_,λ_ h=>?_,λ_=>rfl,λ_ _ h=>?_,λ_ h=>?_,λ_ h=>?_,λ_ _ h=>?_⟩ <;> cases h
  ·refine ⟨λ_ h=>?_,λ_ h=>?_,λhh=>?_,λ_ _ h=>?_,λ_ h=>?_,λ_ h=>?_,λ_ _ h=>?_⟩
   ·cases h
   ·cases h
   ·rcases hh with ⟨_,_,_,hh⟩ | ⟨_,hh,_⟩ <;> rw [ho] at hh <;> cases hh
   ·cases h
   ·cases h
   ·cases h
   ·cases h
  ·refine ⟨λ_ h=>?_,λ_ h=>?_,λhh=>?_,λ_ _ h=>?_,λ_ h=>?_,λ_ h=>?_,λ_ _ h=>?_⟩
   ·cases h
   ·cases h
   ·rcases hh with ⟨_,_,_,hh⟩ | ⟨_,hh,_⟩ <;> rw [ho] at hh <;> cases hh
   ·cases h
   ·cases h
   ·cases h
   ·cases h
  ·refine ⟨λ_ h=>?_,λ_ h=>?_,λhh=>?_,λ_ _ h=>?_,λ_ h=>?_,λ_ h=>?_,λ_ _ h=>?_⟩
   ·cases h
   ·cases h
   ·rcases hh with ⟨_,_,_,hh⟩ | ⟨_,hh,_⟩ <;> rw [ho] at hh <;> cases hh
   ·cases h
   ·cases h
   ·cases h
   ·cases h
 ·exact qrt E
theorem qsF {o:Oper} {ao:AOp} (E:qcC P gl o = some ao) (hO:qqz P gl o):ao.acts = true:=by
 obtain ⟨k,as,hk⟩:=hO
 unfold qcC at E
 rw [hk] at E
 cases E
 rfl
end
def FR (ro:Option Nat):Fence:={ Fence.wide with round:=ro}
theorem qbz {ro:Option Nat} {n m:Nat} {P:Program} {f:FuncId} {args:Array Value} {w:World} {R:Ending->World->Prop} (h:CallsIn Fence.wide m P f args w R):CallsIn (FR ro) n P f args w R:=
 ⟨trivial,λcs _=>h.2 cs (room_wide _)⟩
def qgw (f:Value) (args:Array Value):Sem Next:=do let d <-Deferred.ofValue f args;invoke d.target d.args
def qes (G:qi):Prop:=∀b i,G.ow b ≠ some (.tmp i)
def qnh (P:Program) (gl:Nat->Option (List qd)) (n:Nat) (G:qi) (w:World) (r:qdm) (h':List qj):Ending->World->Prop
 | .returned v,w'=>∃rv G',r = .ret rv/\Ext n G w G' w'/\Rel P gl G' h' w'/\qes G'/\G'.V rv v
 | .panicked ch,w'=>∃pv v G',r = .pan pv/\ch = [{ v,recovered:=false}]/\Ext n G w G' w'/\Rel P gl G' h' w'/\qes G'/\G'.V pv v
 | .outgrown,_=>False
def qcN (P:Program) (gl:Nat->Option (List qd)) (call:AE.Call):Prop:=
 ∀fv args h r h' e',call fv args h = some (r,h',e')->∀(G:qi) (w:World) (fvv:Value) (vs:Array Value),Rel P gl G h w->qes G->G.V fv fvv->G.VL args vs.toList->
  (∃f as,(qgw fvv vs).run P w = .ok (.enter f as) w/\∀(ro:Option Nat) (n:Nat),CallsIn (FR ro) n P f as w (qnh P gl h.length G w r h'))\/
  (∃i b f tmps asg body,fv = .yld i/\(qgw fvv vs).run P w = .ok (.round b f tmps asg body) w/\∀(ro:Option Nat) (n:Nat),RoundIn (FR ro) n P b f tmps asg body w (qnh P gl h.length G w r h'))\/
  (∃v w',(∀i,args ≠ [.yld i])/\(qgw fvv vs).run P w = .ok (.value v) w'/\qnh P gl h.length G w r h' (.returned v) w')
theorem qhl {ro:Option Nat} {m:Nat}:(FR ro).depth.isSome = true->1 <= m:=λh=>by cases h
theorem qkN {P:Program} {gl:Nat->Option (List qd)} {call:AE.Call} (a6:qcN P gl call) {fv:qd} {args:List qd} {h:List qj} {r:qdm} {h':List qj} {e':Bool} (hc:call fv args h = some (r,h',e'))
  {G:qi} {w:World} {a1:Value} {vs:Array Value} (hr:Rel P gl G h w) (hn:qes G) (hf:G.V fv a1) (ha:G.VL args vs.toList)
  (ro:Option Nat) (n:Nat) (o:Oper) (a:Act) (K:Act->World->Prop) (Q:Exit->Act->World->Prop)
  (I:∀rv v w' G',r = .ret rv->Ext h.length G w G' w'->Rel P gl G' h' w'->qes G'->G'.V rv v->K (a.put o.dst v) w')
  (Y:∀pv v w' G',r = .pan pv->Ext h.length G w G' w'->Rel P gl G' h' w'->qes G'->G'.V pv v->Q (.panic [{ v,recovered:=false}]) a w') :
  o.uponIn (FR ro) n P a K Q ((qgw a1 vs).run P w):=by
 rcases a6 _ _ _ _ _ _ hc G w a1 vs hr hn hf ha with ⟨f,as,h1,h2⟩ | ⟨_,b,f,tmps,asg,body,_,h1,h2⟩ | ⟨v,w',_,h1,rv,G',h2,h3,h4,h5,h6⟩
 ·rw [h1,Oper.uponIn_enter]
  refine ⟨qhl,CallsIn.mono (h2 ro (n - 1)) λe E hb=>?_⟩
  cases e with
  | returned v=>obtain ⟨rv,G',g1,g2,g3,g4,g5⟩:=hb;exact I rv v E G' g1 g2 g3 g4 g5
  | panicked ch=>obtain ⟨pv,v,G',g1,rfl,g2,g3,g4,g5⟩:=hb;exact Y pv v E G' g1 g2 g3 g4 g5
  | outgrown=>exact hb.elim
 ·rw [h1,Oper.uponIn_round]
  refine ⟨qhl,RoundIn.mono (h2 ro (n - 1)) λe E hb=>?_⟩
  cases e with
  | returned v=>obtain ⟨rv,G',g1,g2,g3,g4,g5⟩:=hb;exact I rv v E G' g1 g2 g3 g4 g5
  | panicked ch=>obtain ⟨pv,v,G',g1,rfl,g2,g3,g4,g5⟩:=hb;exact Y pv v E G' g1 g2 g3 g4 g5
  | outgrown=>exact hb.elim
 ·rw [h1,Oper.uponIn_value]
  exact I rv v w' G' h2 h3 h4 h5 h6
def qi.cellsOnly (G:qi):qi:={ γ:=G.γ,imm:=G.imm,ow:=λb=>match G.ow b with | some (.cell i o)=>some (.cell i o) | _=>none}
def qi.with (G' G:qi):qi:={ γ:=G'.γ,imm:=G'.imm,ow:=λb=>match G.ow b with | some (.tmp i)=>some (.tmp i) | _=>G'.ow b}
section
variable {P:Program} {gl:Nat->Option (List qd)} {G G':qi} {w w':World} {h h':List qj} {t:List qd} {a:Act} {n:Nat}
theorem qgZ {b:Nat} {ℓ:Loc} (h:G.cellsOnly.ow b = some ℓ):G.ow b = some ℓ/\∃i o,ℓ = .cell i o:=by
 simp only [qi.cellsOnly] at h
 split at h
 ·rename_i i o e;cases h;exact ⟨e,i,o,rfl⟩
 ·cases h
theorem qfn {b i o:Nat} (h:G.ow b = some (.cell i o)):G.cellsOnly.ow b = some (.cell i o):=by simp [qi.cellsOnly,h]
theorem Rel.cellsOnly (hr:Rel P gl G h w):Rel P gl G.cellsOnly h w/\qes G.cellsOnly:=by
 refine ⟨⟨hr.γlt,hr.inj,λi b bx hb hx=>?_,hr.imm,hr.immγ,hr.immK,λb ℓ hb=>hr.ow b ℓ (qgZ hb).1,hr.glob⟩,λb i hb=>?_⟩
 ·have h0:=hr.box i b bx hb hx
  cases bx with
  | cells cs=>
   obtain ⟨c,e,h1,h2,h3⟩:=h0
   exact ⟨c,e,h1,h2,λo xs k v ho hv=>(h3 o xs k v ho hv).keep (λy hy=>qfn hy) (λ_ _=>rfl) (λ_ _ _ h=>h)⟩
  | loop _ _ _ _ _ _=>
   obtain ⟨L,h1,h2⟩:=h0
   exact ⟨L,h1,{ h2 with tmps:=h2.tmps}⟩
  | map es _=>obtain ⟨me,h1,h2⟩:=h0;obtain ⟨m,hm⟩:=qcZ es;exact ⟨me,h1,qah.mono (G:=G) (G':=G.cellsOnly) (λ_ _ _ h=>h) m (λ_ _ _ h=>h) hm h2⟩
  | iter _ _ _ _=>obtain ⟨mm,h1,h2⟩:=h0;exact ⟨mm,h1,h2⟩
  | bld _ _ _=>exact qqy.keep h0 rfl (λy hy=>qfn hy) (λ_ _=>rfl) (λ_ _ _ h=>h)
  | dead=>trivial
 ·obtain ⟨_,i',o',e⟩:=qgZ hb
  cases e
theorem qfU (hc:Cfg P gl G h t a w) (he:Ext n G.cellsOnly w G' w') (hr:Rel P gl G' h' w'):Ext n G w (G'.with G) w'/\Rel P gl (G'.with G) h' w'/\qaJ (G'.with G) w' t a.tmps:=by
 have E:∀b i,G.ow b = some (.tmp i)->qdn G.cellsOnly b:=λb i hb=>⟨(hc.rel.ow b _ hb).2,by simp [qi.cellsOnly,hb]⟩
 have Y:∀b i,G.ow b = some (.tmp i)->G'.ow b = none:=λb i hb=>by
  cases ho:G'.ow b with
  | none=>rfl
  | some ℓ=>
   rcases he.on b (by simp [ho]) with h1 | h1
   ·exact absurd (E b i hb).2 h1
   ·have:=(hc.rel.ow b _ hb).1;omega
 have I:∀b,(∀i,G.ow b ≠ some (.tmp i))->(G'.with G).ow b = G'.ow b:=λb hb=>by
  cases hg:G.ow b with
  | none=>simp [qi.with,hg]
  | some ℓ=>cases ℓ with
   | tmp i=>exact absurd hg (hb i)
   | cell i o=>simp [qi.with,hg]
 have a1:∀b i,G.ow b = some (.tmp i)->(G'.with G).ow b = some (.tmp i):=λb i hb=>by simp [qi.with,hb]
 refine ⟨⟨he.gk,he.gn,he.ik,λb o v hv=>?_,λb hb=>?_,he.size,λb hb hf=>?_,he.loops,he.os,he.tape,he.output⟩,⟨hr.γlt,hr.inj,λi b bx hb hx=>?_,hr.imm,hr.immγ,hr.immK,λb ℓ hb=>?_,hr.glob⟩,?_⟩
 ·rcases he.inew b o v hv with h1 | h1 | h1 | ⟨i,h1⟩
  ·exact .inl h1
  ·exact .inr (.inl h1)
  rotate_left
  ·exact .inr (.inr (.inr ⟨i,h1⟩))
  ·refine .inr (.inr (.inl λe=>?_))
   simp [qi.cellsOnly,e] at h1
 ·by_cases hh:∃i,G.ow b = some (.tmp i)
  ·obtain ⟨i,hi⟩:=hh;exact .inl (by simp [hi])
  ·rw [I b (λi hi=>hh ⟨i,hi⟩)] at hb
   rcases he.on b hb with h1 | h1
   ·refine .inl λe=>?_
    simp [qi.cellsOnly,e] at h1
   ·exact .inr h1
 ·exact he.heap b hb ⟨hf.1,by simp [qi.cellsOnly,hf.2]⟩
 ·have h0:=hr.box i b bx hb hx
  cases bx with
  | cells cs=>
   obtain ⟨c,e,h1,h2,h3⟩:=h0
   refine ⟨c,e,h1,h2,λo xs k v ho hv=>(h3 o xs k v ho hv).keep (λy hy=>?_) (λ_ _=>rfl) (λ_ _ _ h=>h)⟩
   rw [I y (λj hj=>by rw [Y y j hj] at hy;cases hy)]
   exact hy
  | loop _ _ _ _ _ _=>
   obtain ⟨L,h1,h2⟩:=h0
   exact ⟨L,h1,{ h2 with tmps:=h2.tmps}⟩
  | map es _=>obtain ⟨me,h1,h2⟩:=h0;obtain ⟨m,hm⟩:=qcZ es;exact ⟨me,h1,qah.mono (G:=G') (G':=G'.with G) (λ_ _ _ h=>h) m (λ_ _ _ h=>h) hm h2⟩
  | iter _ _ _ _=>obtain ⟨mm,h1,h2⟩:=h0;exact ⟨mm,h1,h2⟩
  | bld _ _ _=>
   refine qqy.keep h0 rfl (λy hy=>?_) (λ_ _=>rfl) (λ_ _ _ h=>h)
   rw [I y (λj hj=>by rw [Y y j hj] at hy;cases hy)]
   exact hy
  | dead=>trivial
 ·by_cases hh:∃i,G.ow b = some (.tmp i)
  ·obtain ⟨i,hi⟩:=hh
   obtain ⟨h1,h2⟩:=hc.rel.ow b _ hi
   refine ⟨jo h1 he.size,λj hj=>?_⟩
   rcases he.gn j b hj with h3 | ⟨_,h3 | ⟨j',h3⟩⟩
   ·exact h2 j h3
   ·omega
   ·exact h2 j' h3
  ·rw [I b (λi hi=>hh ⟨i,hi⟩)] at hb
   exact hr.ow b ℓ hb
 ·have a7:=he.VL hc.tr.rel
  refine ⟨a7,λi xs k v hx hv=>(hc.tr.own i xs k v hx hv).keep (λy hy=>a1 y i hy) (λy hy=>he.heap y (hc.rel.ow y _ hy).1 (E y i hy)) (λy j hy hj=>?_)⟩
  cases a6:(G'.with G).imm y j with
  | none=>rfl
  | some u=>
   rcases he.inew y j u a6 with h1 | h1 | h1 | ⟨i',h1⟩
   rotate_right
   ·exact absurd h1 ((hc.rel.ow y _ hy).2 i')
   ·rw [show G.cellsOnly.imm y j = G.imm y j from rfl,hj] at h1;cases h1
   ·have:=(hc.rel.ow y _ hy).1;omega
   ·exact absurd (E y i hy).2 h1
theorem qfo {o:Oper} {ao:AOp} (hc:qcC P gl o = some ao):∀c,o.op ≠ .defer c:=by
 intro c h
 unfold qcC at hc
 split at hc
 ·rename_i y hy
  unfold qg0 at hy
  rw [h] at hy
  cases hy
 ·unfold qfB at hc
  rw [h] at hc
  cases hc
theorem Cfg.putDim (hc:Cfg P gl G h t a w) (dst:Option Nat) {x:qd} {v:Value} (hv:G.V x v):Cfg P gl G h (AE.put dst x.dim t) (a.put dst v) w:=hc.put dst (qcx hv) (qbf x)
theorem qch (a:Act) (d:Option Tmp) (v:Value):(a.put d v).defers = a.defers:=by cases d <;> rfl
theorem qgj {call:AE.Call} (a6:qcN P gl call) (hk:qP call) (hc:Cfg P gl G h t a w) {p:qcD} (hp:qbs G w t a p) {o:Oper} {ao:AOp} (I:qcC P gl o = some ao) {base:Nat} {e:Bool} {x:Ex} {s':St}
  (E:qA base call p o.dst ao ⟨t,h,e⟩ = some (x,s')) {ro:Option Nat} {m:Nat} {K:Act->World->Prop} {Q:Exit->Act->World->Prop}
  (ae:x = .nor->∀u w' G',Ext h.length G w G' w'->Cfg P gl G' s'.h s'.t (a.put o.dst u) w'->(ao.acts = false->∀b,b < w.heap.size->w'.heap[b]? = w.heap[b]?)->(∀i,ao = .mov (.t i)->u = a.tmps.getD i undef)->
   (∀q id off,ao = .ld none q->ev t q = .ptr id off->∃b,G.γ id = some b/\w.cell? ⟨b,off,none⟩ = some u)->K (a.put o.dst u) w')
  (ad:∀pv,x = .pan pv->∀v w' G',Ext h.length G w G' w'->Cfg P gl G' s'.h s'.t a w'->G'.V pv v->Q (.panic [{ v,recovered:=false}]) a w') :
  o.wpIn (FR ro) m P a w K Q:=by
 refine ⟨λ_ _=>trivial,?_⟩
 rw [Oper.semAt_eq _ _ _ (qfo I)]
 cases am:ao.calls with
 | false=>
  obtain ⟨rfl,hd,_⟩:=qyO hc hp I am E
  obtain ⟨nx,u,w',G',h1,h2,ap,h3,h4⟩:=hd
  have h5:ao.acts = false->∀b,b < w.heap.size->w'.heap[b]? = w.heap[b]?:=by
   intro a8
   exact ap (λhop=>by rw [(qck I).2.2.1 hop] at a8;cases a8) (λhop=>by rw [qsF I hop] at a8;cases a8)
  have h6:∀i,ao = .mov (.t i)->u = a.tmps.getD i undef:=by
   rintro i rfl
   have ho:=(qck I).1 i rfl
   have:(execOp a.eval o).run P w = .ok (.value (a.eval (.tmp i))) w:=by simp [execOp,ho]
   rw [this] at h1
   cases h1
   rcases h2 with h2 | ⟨h2,_⟩
   ·cases h2;rfl
   ·cases h2
  have h7:∀q id off,ao = .ld none q->ev t q = .ptr id off->∃b,G.γ id = some b/\w.cell? ⟨b,off,none⟩ = some u:=by
   rintro q id off rfl hq
   obtain ⟨ty,y,ho,hy,hk⟩:=(qck I).2.1 q rfl
   have hv:=qai hc.rel hc.tr hy
   rw [hq] at hv
   simp only [qi.V,qC] at hv
   obtain ⟨b,hb,he⟩:=hv
   refine ⟨b,hb,?_⟩
   obtain ⟨g1,_⟩:=qgt hk w
   simp only [qA] at E
   obtain ⟨v,hv,_⟩:=qcn E
   rw [hq] at hv
   simp only [qel] at hv
   split at hv
   ·rename_i cs au
    obtain ⟨c,te,hw,ay,_⟩:=hc.rel.box id b _ hb au
    simp only [cut] at hv
    obtain ⟨av,a7,_⟩:=qcn hv
    obtain ⟨uv,ai,_⟩:=qey ay a7
    have a1:w.cell? ⟨b,off,none⟩ = some uv:=by
     simp only [Array.getElem?_toList] at ai
     simp [World.cell?,hw,ai]
    have:(execOp a.eval o).run P w = .ok (.value uv) w:=by
     simp only [execOp,ho]
     refine qep ?_
     simp only [Instr.loadAt,he,Instr.sureAddr,Sem.run_bind,Sem.run_pure,Result.andThen_ok,loadVar,g1,Option.isSome_none,jl,if_false,run_load,a1]
    rw [this] at h1
    cases h1
    rcases h2 with h2 | ⟨h2,_⟩
    ·cases h2;exact a1
    ·cases h2
   ·cases hv
  have:=ae rfl u w' G' h3 h4 h5 h6 h7
  rw [h1]
  rcases h2 with rfl | ⟨rfl,rfl⟩
  ·rw [Oper.uponIn_value];exact this
  ·rw [Oper.uponIn_skip];exact this
 | true=>
  cases ao <;> simp [AOp.calls] at am
  case call f as=>
   obtain ⟨c,fo,ho,hcal,hf,has⟩:=(qck I).2.2.2.1 f as rfl
   have al:=qai hc.rel hc.tr hf
   have a7:=qkd hc.rel hc.tr has
   obtain ⟨aj,ak⟩:=hc.rel.cellsOnly
   have hex:(execOp a.eval o).run P w = (qgw (a.eval fo) (c.args.map a.eval)).run P w:=by
    simp only [execOp,ho,resolve,hcal,qgw]
   rw [hex]
   simp only [qA] at E
   split at E
   ·rename_i v h1 e1 Y
    cases E
    refine qkN a6 Y aj ak al a7 ro m o a K Q (λrv u w' G' aa he ab ar hv=>?_) (λpv u w' G' ac=>by cases ac)
    cases aa
    obtain ⟨k1,k2,k3⟩:=qfU hc he ab
    have az:Cfg P gl (G'.with G) h1 t a w':=⟨k2,k3⟩
    refine ae rfl u w' (G'.with G) k1 (az.putDim o.dst hv) (by simp [AOp.acts]) (by simp) (by simp)
   ·rename_i v h1 e1 Y
    cases E
    refine qkN a6 Y aj ak al a7 ro m o a K Q (λrv u w' G' aa=>by cases aa) (λpv u w' G' ac he ab ar hv=>?_)
    cases ac
    obtain ⟨k1,k2,k3⟩:=qfU hc he ab
    exact ad _ rfl u w' (G'.with G) k1 ⟨k2,k3⟩ hv
   ·cases E
  case pan y=>
   obtain ⟨xo,ho,hx⟩:=(qck I).2.2.2.2.1 y rfl
   have hv:=qai hc.rel hc.tr hx
   simp only [qA] at E
   split at E
   ·rename_i u v hy
    cases E
    rw [hy] at hv
    have af:=hv
    simp only [qi.V,qC] at af
    obtain ⟨x',he,_⟩:=af
    have hex:(execOp a.eval o).run P w = .halt (.panic (a.eval xo)) w:=by
     simp [execOp,ho,he,Instr.panic]
    rw [hex,Oper.uponIn_panic]
    exact ad _ rfl _ w G (Ext.refl _ G w) hc hv
   ·cases E
theorem Act.put_get_ne {a:Act} {dst:Option Nat} {u:Value} {i:Nat} (h:dst ≠ some i):(a.put dst u).tmps[i]? = a.tmps[i]?:=by
 cases dst with
 | none=>rfl
 | some d=>
  have:d ≠ i:=λe=>h (by rw [e])
  simp [Act.put,this]
theorem qqe {dst:Option Nat} {v:qd} {x:qB} (h:∀d,dst = some d->x.isT d = false):raw (AE.put dst v t) x = raw t x:=by
 cases dst with
 | none=>rfl
 | some d=>
  cases x with
  | c _=>rfl
  | t i=>
   have:=h d rfl
   simp only [qB.isT,beq_eq_false_iff_ne,ne_eq] at this
   simp only [raw,AE.put,List.getD_eq_getElem?_getD]
   rw [jf (λe=>this e.symm)]
theorem qk0 {dst:Option Nat} {v:qd} {x:qB} (h:∀d,dst = some d->x.isT d = false):ev (AE.put dst v t) x = ev t x:=by
 simp only [ev,qqe h]
theorem qbs.next {p:qcD} (hp:qbs G w t a p) {o:qam} {u:Value} {v:qd} {t':List qd} (ht:o.op.effs = false->t' = AE.put o.dst v t)
  (a6:∀i b,G.γ i = some b->G'.γ i = some b) (hh:o.op.effs = false->∀b,b < w.heap.size->w'.heap[b]? = w.heap[b]?)
  (a8:∀i,o.op = .mov (.t i)->u = a.tmps.getD i undef) (aa:∀q id off,o.op = .ld none q->ev t q = .ptr id off->∃b,G.γ id = some b/\w.cell? ⟨b,off,none⟩ = some u) :
  qbs G' w' t' (a.put o.dst u) (qaN p o):=by
 unfold qaN
 cases a7:o.op.effs with
 | true=>
  simp only [if_true]
  have one:∀d i,(d,Src.tmp i) ∈ p->o.dst ≠ some d->(∀k,o.dst = some k->(Src.tmp i).hangs k = false)->∀u',(a.put o.dst u).tmps[d]? = some u'->(a.put o.dst u).tmps.getD i undef = u':=by
   intro d i hm h1 h2 u' E
   rw [Act.put_get_ne h1] at E
   have h3:=hp d _ hm u' E
   simp only at h3
   rw [Array.getD_eq_getD_getElem?] at h3 ⊢
   rw [Act.put_get_ne (λe=>by have:=h2 i e;simp [Src.hangs] at this)]
   exact h3
  cases I:o.dst with
  | none=>
   simp only [I] at one
   intro d s hm u' E
   simp only [List.mem_filter] at hm
   obtain ⟨h1,h2⟩:=hm
   cases s with
   | tmp i=>exact one d i h1 (by simp) (by simp) u' E
   | cell x=>cases h2
  | some k=>
   simp only [I] at one
   intro d s hm u' E
   simp only [List.mem_filter,jk,bne_iff_ne,ne_eq,Bool.not_eq_true'] at hm
   obtain ⟨h1,h2,h3,h4⟩:=hm
   cases s with
   | tmp i=>exact one d i h1 (by simpa using λe=>h3 e.symm) (λj hj=>by cases hj;exact h4) u' E
   | cell x=>cases h2
 | false=>
  simp only [jl,if_false]
  have hh:=hh a7
  have ht:=ht a7
  subst ht
  have a1:∀b off v,w.cell? ⟨b,off,none⟩ = some v->w'.cell? ⟨b,off,none⟩ = some v:=by
   intro b off v hv
   have hb:b < w.heap.size:=by
    rcases Nat.lt_or_ge b w.heap.size with hb | hb
    ·exact hb
    ·simp [World.cell?,jK hb] at hv
   rw [qbA (w:=w) (w':=w') (hh b hb)]
   exact hv
  have hold:∀d s,(d,s) ∈ p->o.dst ≠ some d->(∀k,o.dst = some k->s.hangs k = false)->∀u',(a.put o.dst u).tmps[d]? = some u'->match s with
    | .tmp i=>(a.put o.dst u).tmps.getD i undef = u'
    | .cell x=>∀id o',ev (AE.put o.dst v t) x = .ptr id o'->∃b,G'.γ id = some b/\w'.cell? ⟨b,o',none⟩ = some u':=by
   intro d s hm h1 h2 u' E
   rw [Act.put_get_ne h1] at E
   have h3:=hp d s hm u' E
   cases s with
   | tmp i=>
    simp only at h3 ⊢
    rw [Array.getD_eq_getD_getElem?] at h3 ⊢
    rw [Act.put_get_ne (λe=>by have:=h2 i e;simp [Src.hangs] at this)]
    exact h3
   | cell x=>
    simp only at h3 ⊢
    intro id o' he
    rw [qk0 (λd hd=>by have:=h2 d hd;simpa [Src.hangs] using this)] at he
    obtain ⟨b,g1,g2⟩:=h3 id o' he
    exact ⟨b,a6 id b g1,a1 b o' u' g2⟩
  cases I:o.dst with
  | none=>
   simp only [I] at hold
   intro d s hm u' E
   exact hold d s hm (by simp) (by simp) u' E
  | some k=>
   simp only [I] at hold ⊢
   have hq:qbs G' w' (AE.put (some k) v t) (a.put (some k) u) (p.filter λx=>x.1 != k && !x.2.hangs k):=by
    intro d s hm u' E
    simp only [List.mem_filter,jk,bne_iff_ne,ne_eq,Bool.not_eq_true'] at hm
    obtain ⟨h1,h2,h3⟩:=hm
    exact hold d s h1 (by simpa using λe=>h2 e.symm) (λj hj=>by cases hj;exact h3) u' E
   split
   ·rename_i s0 hs
    split
    ·exact hq
    ·rename_i Y
     intro d s hm u' E
     rcases List.mem_cons.1 hm with hm | hm
     ·cases hm
      have hu:u' = u:=by
       simp only [Act.put,Array.getElem?_setIfInBounds] at E
       split at E
       ·split at E <;> cases E;rfl
       ·rename_i hh;exact absurd trivial hh
      subst hu
      unfold qbW at hs
      split at hs
      ·rename_i i ho
       cases hs
       have:=a8 i ho
       simp only
       rw [Array.getD_eq_getD_getElem?] at this ⊢
       rw [Act.put_get_ne (λe=>by cases e;simp [Src.hangs] at Y)]
       exact this.symm
      ·rename_i q ho
       cases hs
       simp only
       intro id o' he
       rw [qk0 (λd hd=>by cases hd;simpa [Src.hangs] using Y)] at he
       obtain ⟨b,g1,g2⟩:=aa q id o' ho he
       exact ⟨b,a6 id b g1,a1 b o' _ g2⟩
      ·cases hs
     ·exact hq d s hm u' E
   ·exact hq
theorem qd7 {base:Nat} {call:AE.Call} {p:qcD} {dst:Option Nat} {o:AOp} {s s':St} {x:Ex} (I:o.effs = false) (E:qA base call p dst o s = some (x,s')) :
  x = .nor/\∃v,s'.t = AE.put dst v s.t/\s'.e = s.e/\((s'.h = s.h/\(pureV s.t o = some v\/(∃k q,o = .ld k q/\qel s.h (ev s.t q) k = some v)\/∃sh z ok m key,o = .lk sh z ok m key/\qnW s.h sh z ok (ev s.t m) (ev s.t key) = some v))\/
   (∃cs,s'.h = s.h ++ [.cells cs]/\v = .ptr s.h.length 0/\qfW s o = some (.box s.h.length cs))):=by
 cases o <;> simp only [AOp.effs,Bool.true_eq_false] at I <;> simp only [qA] at E
 all_goals first
  | (obtain ⟨v,hv,he⟩:=qcn E
     cases he
     exact ⟨rfl,v,rfl,rfl,.inl ⟨rfl,.inl hv⟩⟩)
  | (obtain ⟨v,hv,he⟩:=qcn E
     cases he
     exact ⟨rfl,v,rfl,rfl,.inl ⟨rfl,.inr (.inl ⟨_,_,rfl,hv⟩)⟩⟩)
  | (obtain ⟨v,hv,he⟩:=qcn E
     cases he
     exact ⟨rfl,v,rfl,rfl,.inl ⟨rfl,.inr (.inr ⟨_,_,_,_,_,rfl,hv⟩)⟩⟩)
  | (cases E
     exact ⟨rfl,_,rfl,rfl,.inr ⟨_,rfl,rfl,rfl⟩⟩)
  | (split at E
     ·cases E
      exact ⟨rfl,_,rfl,rfl,.inr ⟨_,rfl,rfl,rfl⟩⟩
     ·cases E)
def Fin (P:Program) (gl:Nat->Option (List qd)) (n:Nat) (G:qi) (w:World) (ds:List Deferred) (x:Ex) (s':St) (e:Exit) (a':Act) (w':World):Prop:=
 ∃G',Ext n G w G' w'/\a'.defers = ds/\match x with
  | .nor=>e = .normal/\Cfg P gl G' s'.h s'.t a' w'
  | .exit id=>e = .exit id/\Cfg P gl G' s'.h s'.t a' w'
  | .ret=>e = .ret/\Cfg P gl G' s'.h s'.t a' w'
  | .pan pv=>∃v,e = .panic [{ v,recovered:=false}]/\Cfg P gl G' s'.h s'.t a' w'/\G'.V pv v
theorem Fin.of_ext {n m:Nat} {ds:List Deferred} {x:Ex} {s':St} {e:Exit} {a':Act} (I:n <= m) (he:Ext n G w G' w') {E:World} (hf:Fin P gl m G' w' ds x s' e a' E):Fin P gl n G w ds x s' e a' E:=
 let ⟨G'',h1,h2⟩:=hf
 ⟨G'',he.trans I h1,h2⟩
theorem qbY {ops:Array Oper} {o:Oper} {ao:qam} (ht:qaJ G w t a.tmps) (E:qcj P gl ops o = some ao) {b:Bool} (hw:wanted t ao.guard = some b) :
  qcC P gl o = some ao.op/\ao.dst = o.dst/\Region.wanted o (yielded ops a.tmps) = b:=by
 simp only [qcj] at E
 obtain ⟨op,hop,E⟩:=qG E
 cases hg:o.guard with
 | none=>
  simp only [hg] at E
  cases E
  simp only [wanted,jj] at hw
  exact ⟨hop,rfl,by simp [Region.wanted,hg,hw]⟩
 | some jb=>
  obtain ⟨j,want⟩:=jb
  simp only [hg] at E
  obtain ⟨d,hd,E⟩:=qG E
  cases E
  refine ⟨hop,rfl,?_⟩
  simp only [wanted] at hw
  have hv:=ht.get d
  simp only [Region.wanted,hg,yielded,hd,Option.bind_some]
  have Y:=ht.length
  split at hw
  ·rename_i c hc
   rw [hc] at hv
   simp only [qi.V,qC] at hv
   cases hw
   have I:d < a.tmps.size:=by
    rcases Nat.lt_or_ge d a.tmps.size with h | h
    ·exact h
    ·rw [Array.getD_eq_getD_getElem?,jK h] at hv;simp [undef] at hv
   rw [Array.getD_eq_getD_getElem?,Array.getElem?_eq_getElem I,Option.getD_some] at hv
   rw [Array.getElem?_eq_getElem I,hv]
   rfl
  ·rename_i hc
   rw [hc] at hv
   simp only [qi.V,qC,qp] at hv
   obtain ⟨x,hv,_⟩:=hv
   cases hw
   rw [Array.getD_eq_getD_getElem?] at hv
   cases hx:a.tmps[d]? with
   | none=>rfl
   | some y=>rw [hx] at hv;simp at hv;subst hv;rfl
  ·cases hw
def Lays (P:Program) (gl:Nat->Option (List qd)) (ops:Array Oper):List Nat->List qam->Prop
 | [],[]=>True
 | i :: l,ao :: os=>(∃o,ops[i]? = some o/\qcj P gl ops o = some ao)/\Lays P gl ops l os
 | _,_=>False
theorem qdk (hc:Cfg P gl G h t a w) (dst:Option Nat):Cfg P gl G h (AE.put dst (.tup []) t) (a.put dst undef) w:=
 hc.put dst (by simp [qi.V,qC,qp,undef]) rfl
theorem qtY {call:AE.Call} (aa:qcN P gl call) (hk:qP call) {ops:Array Oper} {base:Nat} {ro:Option Nat} {m:Nat} {x:Ex} {s':St} :
  ∀(l:List Nat) (os:List qam),Lays P gl ops l os->∀(G:qi) (w:World) (h:List qj) (t:List qd) (e:Bool) (a:Act) (p:qcD),Cfg P gl G h t a w->qbs G w t a p->base <= h.length->
   qaO base call p os ⟨t,h,e⟩ = some (x,s')->∀(Q:Exit->Act->World->Prop),(∀ex a' w',Fin P gl h.length G w a.defers x s' ex a' w'->Q ex a' w')->wpOpsIn (FR ro) m P ops Q l a w:=by
 intro l
 induction l with
 | nil=>
  intro os hl G w h t e a p hc hp hb E Q hQ
  cases os with
  | cons _ _=>exact hl.elim
  | nil=>
   simp only [qaO] at E
   cases E
   exact hQ _ _ _ ⟨G,Ext.refl _ G w,rfl,rfl,hc⟩
 | cons i l ih=>
  intro os hl G w h t e a p hc hp hb E Q hQ
  cases os with
  | nil=>exact hl.elim
  | cons ao os=>
   obtain ⟨⟨o,ho,ad⟩,hl⟩:=hl
   simp only [wpOpsIn,ho]
   simp only [qaO] at E
   split at E
   ·rename_i hw
    obtain ⟨a7,I,Y⟩:=qbY hc.tr ad hw
    rw [if_pos Y]
    simp only [I] at E
    cases hop:qA base call p o.dst ao.op ⟨t,h,e⟩ with
    | none=>rw [hop] at E;cases E
    | some r=>
     obtain ⟨x1,s1⟩:=r
     have a6:h.length <= s1.h.length:=(qci (base:=base) hk hb hop).1
     refine qgj aa hk hc hp a7 hop (λhx u w' G' he aj af ab ac=>?_) (λpv hx v w' G' he ai hv=>?_)
     ·subst hx
      rw [hop] at E
      simp only at E
      have a1:qbs G' w' s1.t (a.put o.dst u) (qaN p ao):=by
       have hq:ao.op.effs = false->ao.op.acts = false:=by cases ao.op <;> simp [AOp.effs,AOp.acts]
       rw [<-I]
       by_cases a8:ao.op.effs = false
       ·obtain ⟨_,v,hv,_⟩:=qd7 a8 hop
        exact hp.next (v:=v) (λ_=>by rw [I];exact hv) he.gk (λh=>af (hq h)) ab ac
       ·exact hp.next (v:=.undef) (λh=>absurd h a8) he.gk (λh=>absurd h a8) ab ac
      refine ih os hl G' w' s1.h s1.t s1.e (a.put o.dst u) (qaN p ao) aj a1 (jn hb a6) E Q λex ak ae hf=>hQ _ _ _ ?_
      rw [qch] at hf
      exact Fin.of_ext a6 he hf
     ·subst hx
      rw [hop] at E
      simp only at E
      cases E
      exact hQ _ _ _ ⟨G',he,rfl,v,rfl,ai,hv⟩
   ·rename_i hw
    obtain ⟨a7,I,Y⟩:=qbY hc.tr ad hw
    rw [if_neg (by rw [Y];simp)]
    refine ⟨λ_ _=>trivial,?_⟩
    simp only [I] at E
    have a1:qbs G w (AE.put o.dst (.tup []) t) (a.put o.dst undef) (qaN p { ao with op:=.pick (.c .undef) (.c .undef) (.c .undef)}):=by
     rw [<-I]
     exact hp.next (o:={ ao with op:=.pick (.c .undef) (.c .undef) (.c .undef)}) (v:=.tup []) (λ_=>rfl) (λ_ _ h=>h) (λ_ _ _=>rfl) (λ_ h=>by cases h) (λ_ _ _ h=>by cases h)
    refine ih os hl G w h _ e _ _ (qdk hc o.dst) (by simpa only [I] using a1) hb (by simpa only [I] using E) Q λex ak ae hf=>hQ _ _ _ ?_
    rwa [qch] at hf
   ·cases E
end
mutual
theorem beq_eq:∀(a b:qd),qd.beq a b = true->a = b
 | .undef,b,h=>by cases b <;> simp_all [qd.beq]
 | .bool _,b,h=>by cases b <;> simp_all [qd.beq]
 | .int _ _,b,h=>by cases b <;> simp_all [qd.beq]
 | .str _,b,h=>by cases b <;> simp_all [qd.beq]
 | .nilptr,b,h=>by cases b <;> simp_all [qd.beq]
 | .ptr _ _,b,h=>by cases b <;> simp_all [qd.beq]
 | .iptr x o,b,h=>by
  cases b <;> simp only [qd.beq,jk,beq_iff_eq,jl] at h
  obtain ⟨h1,h2⟩:=h
  rw [h1,qdN _ _ h2]
 | .lst x f,b,h=>by
  cases b <;> simp only [qd.beq,jk,beq_iff_eq,jl] at h
  obtain ⟨h1,h2⟩:=h
  rw [h1,qdN _ _ h2]
 | .nilfunc,b,h=>by cases b <;> simp_all [qd.beq]
 | .fn f x y,b,h=>by
  cases b <;> simp only [qd.beq,jk,beq_iff_eq,jl] at h
  obtain ⟨⟨h1,h2⟩,h3⟩:=h
  rw [h1,qdN _ _ h2,qdN _ _ h3]
 | .yld _,b,h=>by cases b <;> simp_all [qd.beq]
 | .niliface,b,h=>by cases b <;> simp_all [qd.beq]
 | .iface t x,b,h=>by
  cases b <;> simp only [qd.beq,jk,beq_iff_eq,jl] at h
  obtain ⟨h1,h2⟩:=h
  rw [h1,beq_eq _ _ h2]
 | .agg x,b,h=>by
  cases b <;> simp only [qd.beq,jl] at h
  rw [qdN _ _ h]
 | .tup x,b,h=>by
  cases b <;> simp only [qd.beq,jl] at h
  rw [qdN _ _ h]
 | .sl _ _ _ _ _,b,h=>by
  cases b <;> simp only [qd.beq,jk,beq_iff_eq,jl] at h
  obtain ⟨⟨⟨⟨rfl,rfl⟩,rfl⟩,rfl⟩,rfl⟩:=h
  rfl
 | .mp _,b,h=>by cases b <;> simp_all [qd.beq]
 | .nilmap,b,h=>by cases b <;> simp_all [qd.beq]
 | .nils,b,h=>by cases b <;> simp_all [qd.beq]
 | .empt,b,h=>by cases b <;> simp_all [qd.beq]
theorem qdN:∀(as bs:List qd),qlX as bs = true->as = bs
 | [],bs,h=>by cases bs <;> simp_all [qlX]
 | a :: as,bs,h=>by
  cases bs with
  | nil=>simp [qlX] at h
  | cons b bs=>
   simp only [qlX,jk] at h
   rw [beq_eq _ _ h.1,qdN _ _ h.2]
end
theorem qq3:∀{a b:List (Nat×qd×qd)},qB8 a b = true->a = b
 | [],b,h=>by cases b <;> simp_all [qB8]
 | x :: xs,b,h=>by
  cases b with
  | nil=>simp [qB8] at h
  | cons y ys=>
   simp only [qB8,jk,beq_iff_eq] at h
   obtain ⟨⟨⟨h1,h2⟩,h3⟩,h4⟩:=h
   obtain ⟨x1,x2,x3⟩:=x
   obtain ⟨y1,y2,y3⟩:=y
   simp only at h1 h2 h3
   rw [h1,beq_eq _ _ h2,beq_eq _ _ h3,qq3 h4]
theorem qj.beq_eq {a b:qj} (h:a.beq b = true):a = b:=by
 cases a <;> cases b <;> simp only [qj.beq,jk,beq_iff_eq,jl] at h
 ·rw [qdN _ _ h]
 ·rw [h.1,qq3 h.2]
 ·obtain ⟨⟨⟨h1,rfl⟩,rfl⟩,rfl⟩:=h
  rw [AE.beq_eq _ _ h1]
 ·rw [Nat.eq_of_beq_eq_true h.1,Nat.eq_of_beq_eq_true h.2.1,h.2.2]
 ·rfl
def Chk.Holds (h:List qj):Chk->Prop
 | .ld a k v=>qel h a k = some v
 | .box id cs=>h[id]? = some (.cells cs)
 | .lk sh z ok m key v=>qnW h sh z ok m key = some v
theorem Chk.holds_of_ok {h:List qj} {c:Chk} (hc:c.ok h = true):c.Holds h:=by
 cases c with
 | ld a k v=>
  simp only [Chk.ok] at hc
  split at hc
  ·rename_i w hw
   simp only [Chk.Holds,hw,beq_eq _ _ hc]
  ·cases hc
 | box id cs=>
  simp only [Chk.ok] at hc
  split at hc
  ·rename_i ds hd
   simp only [Chk.Holds,hd,qdN _ _ hc]
  ·cases hc
 | lk sh z ok m key v=>
  simp only [Chk.ok] at hc
  split at hc
  ·rename_i w hw
   simp only [Chk.Holds,hw,beq_eq _ _ hc]
  ·cases hc
theorem qmM {h g:List qj} {a:qd} {k:Option Nat} {v:qd} (hl:qel h a k = some v):qel (h ++ g) a k = some v:=by
 unfold qel at hl ⊢
 split at hl
 ·rename_i i o
  split at hl
  ·rename_i cs E
   rw [ja (jd.1 E).1,E]
   exact hl
  ·cases hl
 ·exact hl
 ·cases hl
theorem qjS {h g:List qj} {m:qd} {es:List (Nat×qd×qd)} (he:qnz h m = some es):qnz (h ++ g) m = some es:=by
 unfold qnz at he ⊢
 split at he
 ·exact he
 ·split at he
  ·rename_i hid
   simp only [ja (jd.1 hid).1,hid]
   exact he
  ·cases he
 ·cases he
theorem qmP {h g:List qj} {sh:qei} {z:qd} {ok:Bool} {m key v:qd} (hl:qnW h sh z ok m key = some v):qnW (h ++ g) sh z ok m key = some v:=by
 unfold qnW at hl ⊢
 split at hl
 ·rename_i es he
  rw [qjS he]
  exact hl
 ·cases hl
theorem Chk.Holds.append {h g:List qj} {c:Chk} (hc:c.Holds h):c.Holds (h ++ g):=by
 cases c with
 | ld a k v=>exact qmM hc
 | box id cs=>
  simp only [Chk.Holds] at hc ⊢
  rw [ja (jd.1 hc).1,hc]
 | lk sh z ok m key v=>exact qmP hc
section
variable {t t':List qd}
def qc6 (t t':List qd) (l:List Nat):Prop:=∀i ∈ l,(t.getD i .undef).dim = (t'.getD i .undef).dim
theorem qc6.left {l m:List Nat} (h:qc6 t t' (l ++ m)):qc6 t t' l:=λi hi=>h i (List.mem_append_left _ hi)
theorem qc6.right {l m:List Nat} (h:qc6 t t' (l ++ m)):qc6 t t' m:=λi hi=>h i (List.mem_append_right _ hi)
theorem qc6.ev {x:qB} (h:qc6 t t' x.slot):ev t x = ev t' x:=by
 cases x with
 | c _=>rfl
 | t i=>exact h i (by simp [qB.slot])
theorem qc6.evs:∀{xs:List qB},qc6 t t' (qgq xs)->xs.map (AE.ev t) = xs.map (AE.ev t')
 | [],_=>rfl
 | x :: xs,h=>by
  simp only [qgq] at h
  rw [List.map_cons,List.map_cons,h.left.ev,qc6.evs h.right]
theorem qc6.bound {x:Option qB} {d:Nat} (h:qc6 t t' (qBH x)):bound t x d = bound t' x d:=by
 cases x with
 | none=>rfl
 | some x=>simp only [AE.bound,qc6.ev (x:=x) h]
theorem qc6.parts3 {ps:List (Nat×Nat×qB)} (h:qc6 t t' (qgq (ps.map (·.2.2)))):(ps.map λ(o,s,x)=>(o,s,AE.ev t x)) = ps.map λ(o,s,x)=>(o,s,AE.ev t' x):=by
 induction ps with
 | nil=>rfl
 | cons p ps ih=>
  simp only [List.map_cons,qgq] at h
  simp only [List.map_cons]
  rw [ih h.right,qc6.ev h.left]
theorem qc6.parts2 {k:Nat} {ps:List (Nat×qB)} (h:qc6 t t' (qgq (ps.map (·.2)))):(ps.map λ(i,x)=>(i * k,k,AE.ev t x)) = ps.map λ(i,x)=>(i * k,k,AE.ev t' x):=by
 induction ps with
 | nil=>rfl
 | cons p ps ih=>
  simp only [List.map_cons,qgq] at h
  simp only [List.map_cons]
  rw [ih h.right,qc6.ev h.left]
theorem qc6.pureV {o:AOp} (h:qc6 t t' o.looks):pureV t o = pureV t' o:=by
 cases o <;> simp only [AOp.looks] at h <;> simp only [AE.pureV]
 case pick=>rw [h.left.left.ev,h.left.right.ev,h.right.ev]
 case build=>rw [h.parts3]
 case list=>rw [h.parts2]
 case mkF=>rw [h.left.evs,h.right.evs]
 case subS=>rw [h.left.left.ev,h.left.right.bound];simp only [h.right.bound]
 case subL=>rw [h.left.left.ev,h.left.right.bound];simp only [h.right.bound]
 case len b x=>cases b <;> simp only [h.ev]
 all_goals first
  | rfl
  | rw [h.ev]
  | rw [h.left.ev,h.right.ev]
theorem qc6.wanted {j:Nat} {b:Bool} (h:qc6 t t' [j]):wanted t (some (j,b)) = wanted t' (some (j,b)):=by
 have h:=h j (by simp)
 have key:∀v:qd,(match v with | .bool c=>some (c == b) | .tup []=>some false | _=>none) = (match v.dim with | .bool c=>some (c == b) | .tup []=>some false | _=>none):=by
  intro v
  cases v <;> try rfl
  rename_i xs f
  cases f <;> rfl
 simp only [AE.wanted]
 exact (key (t.getD j .undef)).trans (by rw [h];exact (key _).symm)
theorem qam.want_looks {o:qam} (h:qc6 t t' o.looks):AE.wanted t o.guard = AE.wanted t' o.guard/\qc6 t t' o.op.looks:=by
 unfold qam.looks at h
 split at h
 ·rename_i j b hg
  rw [hg]
  exact ⟨qc6.wanted (λi hi=>h i (by simp at hi;simp [hi])),λi hi=>h i (jI _ hi)⟩
 ·rename_i hg
  rw [hg]
  exact ⟨rfl,h⟩
end
section
variable {ms:List Nat} {t:List qd}
theorem qcH (i:Nat):(qcL ms t)[i]? = (t[i]?).map λx=>if ms.contains i then qd.undef else x:=by simp [qcL]
theorem qcg:(qcL ms t).length = t.length:=by simp [qcL]
theorem qj4:qcL [] t = t:=by
 apply jO
 intro i
 rw [qcH]
 simp
theorem qgh {i:Nat} (hi:i ∉ ms):(qcL ms t).getD i .undef = t.getD i .undef:=by
 rw [List.getD_eq_getElem?_getD,List.getD_eq_getElem?_getD,qcH]
 simp [hi]
theorem qj5 {i:Nat} {v:qd} (hi:i ∉ ms):(qcL ms t).set i v = qcL ms (t.set i v):=by
 have hc:ms.contains i = false:=by simpa using hi
 apply jO
 intro j
 rw [qcH,List.getElem?_set,List.getElem?_set,qcH,qcg]
 by_cases e:i = j
 ·subst e
  by_cases hl:i < t.length <;> simp [hl,hi]
 ·simp [e]
theorem qhw {x:qB} (h:∀i ∈ x.slot,i ∉ ms):raw (qcL ms t) x = raw t x:=by
 cases x with
 | c _=>rfl
 | t i=>exact qgh (h i (by simp [qB.slot]))
theorem qjT {x:qB} (h:∀i ∈ x.slot,i ∉ ms):ev (qcL ms t) x = ev t x:=by simp only [ev,qhw h]
theorem qdg {dst:Option Nat} {v:qd} (h:∀d,dst = some d->d ∉ ms):AE.put dst v (qcL ms t) = qcL ms (AE.put dst v t):=by
 cases dst with
 | none=>rfl
 | some d=>exact qj5 (h d rfl)
theorem qg3 {x:qB} (h:∀i ∈ x.slot,i ∉ ms):qaK (qcL ms t) x = qcL ms (qaK t x):=by
 cases x with
 | c _=>rfl
 | t i=>
  have hi:=h i (by simp [qB.slot])
  simp only [qaK,qgh hi]
  split
  ·exact qj5 hi
  ·rfl
theorem qgm {l:List Nat} (h:∀i ∈ l,i ∉ ms):qc6 (qcL ms t) t l:=λi hi=>by rw [qgh (h i hi)]
theorem qqr {k:Nat} {x:qB} {h:List qj} {e:Bool} (hx:∀i ∈ x.slot,i ∉ ms):qeQ k [] x ⟨qcL ms t,h,e⟩ = (qeQ k [] x ⟨t,h,e⟩).map λr=>(r.1,{ r.2 with t:=qcL ms r.2.t}):=by
 cases x with
 | c _=>rfl
 | t i=>
  have hi:=hx i (by simp [qB.slot])
  simp only [qeQ,qgh hi]
  split
  ·split
   ·simp only [jJ,qj5 hi]
   ·rfl
  ·rfl
theorem qjt {base:Nat} {call:AE.Call} {dst:Option Nat} {o:AOp} {h:List qj} {e:Bool} (E:o.effs = true) (hl:∀i ∈ o.looks,i ∉ ms) (hd:∀d,dst = some d->d ∉ ms) :
  qA base call [] dst o ⟨qcL ms t,h,e⟩ = (qA base call [] dst o ⟨t,h,e⟩).map λr=>(r.1,{ r.2 with t:=qcL ms r.2.t}):=by
 cases o <;> simp only [AOp.effs,jl] at E <;> simp only [AOp.looks] at hl <;> simp only [qA]
 case asg x=>
  simp only [jJ,qhw hl,qg3 hl,qdg hd]
 case st k a x=>
  have h1:∀i ∈ a.slot,i ∉ ms:=λi hi=>hl i (List.mem_append_left _ hi)
  have h2:∀i ∈ x.slot,i ∉ ms:=λi hi=>hl i (List.mem_append_right _ hi)
  rw [qjT h1,qhw h2,qg3 h2,qdg hd]
  split
  ·split
   ·cases k <;> simp only <;> split <;> rfl
   ·rfl
  ·rfl
 case call f as=>
  have h1:∀i ∈ f.slot,i ∉ ms:=λi hi=>hl i (List.mem_append_left _ hi)
  have h2:∀i ∈ qgq as,i ∉ ms:=λi hi=>hl i (List.mem_append_right _ hi)
  rw [qjT h1,(qgm h2).evs]
  split <;> simp only [jJ,qdg hd,Option.map_none]
 case app k x y=>
  have h1:∀i ∈ x.slot,i ∉ ms:=λi hi=>hl i (List.mem_append_left _ hi)
  have h2:∀i ∈ y.slot,i ∉ ms:=λi hi=>hl i (List.mem_append_right _ hi)
  rw [qjT h2,qhw h1]
  split
  ·split
   ·simp only [jJ,qdg hd]
   ·split
    ·split
     ·simp only [jJ,qdg hd]
     ·rw [qqr h1]
      cases ht:qeQ k [] x ⟨t,h,e⟩ with
      | none=>rfl
      | some r=>
       obtain ⟨xs,s⟩:=r
       simp only [jJ]
       split
       ·simp only [jJ,qdg hd]
       ·rfl
    ·rfl
  ·rfl
 case pan x=>
  rw [qjT hl]
  split <;> rfl
 case hx k as=>
  rw [(qgm hl).evs]
  cases hop base k (as.map (ev t)) h with
  | none=>rfl
  | some r=>simp only [jJ,qdg hd]
theorem qit {i k:Nat} {xs:List qd} {j:Nat} (h:t.getD i .undef = .lst xs (.own j)):((t.set i (.lst xs .no)).getD k .undef).dim = (t.getD k .undef).dim:=by
 by_cases e:i = k
 ·subst e
  have hi:i < t.length:=by
   rcases Nat.lt_or_ge i t.length with h' | h'
   ·exact h'
   ·rw [List.getD_eq_getElem?_getD,jq h'] at h;cases h
  rw [h,List.getD_eq_getElem?_getD,jg hi]
  rfl
 ·rw [List.getD_eq_getElem?_getD,jf e,<-List.getD_eq_getElem?_getD]
theorem qg2 {x:qB} {k:Nat}:((qaK t x).getD k .undef).dim = (t.getD k .undef).dim:=by
 cases x with
 | c _=>rfl
 | t i=>
  simp only [qaK]
  split
  ·rename_i xs j hx
   exact qit hx
  ·rfl
theorem qfq {x:qB} {k:Nat} (hk:k ∉ x.slot):(qaK t x)[k]? = t[k]?:=by
 cases x with
 | c _=>rfl
 | t i=>
  have:i ≠ k:=λe=>hk (by simp [qB.slot,e])
  simp only [qaK]
  split
  ·rw [jf this]
  ·rfl
theorem qfr {x:qB}:(qaK t x).length = t.length:=by
 cases x with
 | c _=>rfl
 | t i=>simp only [qaK];split <;> simp
theorem put_get_ne {dst:Option Nat} {v:qd} {k:Nat} (h:dst ≠ some k):(AE.put dst v t)[k]? = t[k]?:=by
 cases dst with
 | none=>rfl
 | some d=>
  have:d ≠ k:=λe=>h (by rw [e])
  simp [AE.put,jf this]
theorem qbF {dst:Option Nat} {v:qd}:(AE.put dst v t).length = t.length:=by cases dst <;> simp [AE.put]
theorem qne {k:Nat} {x:qB} {s s':St} {xs:List qd} (h:qeQ k [] x s = some (xs,s')):(∃i,x = .t i/\∃j,s.t.getD i .undef = .lst xs (.own j)/\s'.t = s.t.set i (.lst xs .no))/\s'.h = s.h/\s'.e = s.e:=by
 cases x with
 | c _=>cases h
 | t i=>
  simp only [qeQ] at h
  split at h
  ·rename_i ys j hy
   split at h
   ·cases h;exact ⟨⟨i,rfl,j,hy,rfl⟩,rfl,rfl⟩
   ·cases h
  ·cases h
theorem qaW {t t':List qd} {k:Nat} (h:t'[k]? = t[k]?):t'.getD k .undef = t.getD k .undef:=by
 rw [List.getD_eq_getElem?_getD,List.getD_eq_getElem?_getD,h]
theorem qip {base:Nat} {call:AE.Call} {dst:Option Nat} {o:AOp} {s s':St} (h:qA base call [] dst o s = some (.nor,s')) :
  s'.t.length = s.t.length/\∀k,dst ≠ some k->(s'.t.getD k .undef).dim = (s.t.getD k .undef).dim/\(k ∉ o.looks->s'.t[k]? = s.t[k]?):=by
 cases E:o.effs with
 | false=>
  obtain ⟨_,v,hv,_⟩:=qd7 E h
  rw [hv]
  exact ⟨qbF,λk hk=>⟨by rw [qaW (put_get_ne hk)],λ_=>put_get_ne hk⟩⟩
 | true=>
  cases o <;> simp only [AOp.effs,jl] at E <;> simp only [qA] at h
  case asg x=>
   cases h
   refine ⟨by rw [qbF,qfr],λk hk=>⟨by rw [qaW (put_get_ne hk),qg2],λhl=>?_⟩⟩
   rw [put_get_ne hk,qfq hl]
  case st k0 a x=>
   split at h
   ·split at h
    ·have key:s'.t = AE.put dst .undef (qaK s.t x):=by
      cases k0 <;> simp only at h <;> split at h <;> first | (cases h;done) | (cases h;rfl)
     rw [key]
     refine ⟨by rw [qbF,qfr],λk hk=>⟨by rw [qaW (put_get_ne hk),qg2],λhl=>?_⟩⟩
     rw [put_get_ne hk,qfq (λhx=>hl (by simp only [AOp.looks];exact List.mem_append_right _ hx))]
    ·cases h
   ·cases h
  case call f as=>
   split at h
   ·cases h
    exact ⟨qbF,λk hk=>⟨by rw [qaW (put_get_ne hk)],λ_=>put_get_ne hk⟩⟩
   ·cases h
   ·cases h
  case app k0 x y=>
   split at h
   ·split at h
    ·cases h
     exact ⟨qbF,λk hk=>⟨by rw [qaW (put_get_ne hk)],λ_=>put_get_ne hk⟩⟩
    ·split at h
     ·split at h
      ·cases h
       exact ⟨qbF,λk hk=>⟨by rw [qaW (put_get_ne hk)],λ_=>put_get_ne hk⟩⟩
      ·split at h
       ·rename_i xs s1 I
        split at h
        ·cases h
         obtain ⟨⟨i,rfl,j,h1,h2⟩,_⟩:=qne I
         refine ⟨by simp [qbF,h2],λk hk=>⟨by rw [qaW (put_get_ne hk)];simp only [h2];exact qit h1,λhl=>?_⟩⟩
         rw [put_get_ne hk]
         simp only [h2]
         rw [jf]
         rintro rfl
         exact hl (by simp [AOp.looks,qB.slot])
        ·cases h
       ·cases h
     ·cases h
   ·cases h
  case pan x=>
   split at h
   ·cases h
   ·cases h
  case hx k0 as=>
   obtain ⟨r,_,he⟩:=qcn h
   cases he
   exact ⟨qbF,λk hk=>⟨by rw [qaW (put_get_ne hk)],λ_=>put_get_ne hk⟩⟩
end
section
variable {P:Program} {gl:Nat->Option (List qd)} {G G':qi} {w w':World} {h:List qj} {t t':List qd} {a:Act} {n:Nat}
theorem qaJ.poison {ts:Array Value} (hr:qaJ G w t ts) (hl:t'.length = t.length) (h:∀(i:Nat) (y:qd),t'[i]? = some y->t[i]? = some y\/y = .undef):qaJ G w t' ts:=by
 refine ⟨qp.of_get (by rw [hl];exact hr.rel.length) λi x v hx hv=>?_,λi xs k v hx hv=>?_⟩
 ·rcases h i x hx with h1 | rfl
  ·obtain ⟨u,hu,E⟩:=hr.rel.get h1
   rw [hv] at hu
   cases hu
   exact E
  ·obtain ⟨y,_,E⟩:=hr.rel.get' hv
   exact qvc E
 ·rcases h i _ hx with h1 | h1
  ·exact hr.own i xs k v h1 hv
  ·cases h1
theorem Rel.grow (hr:Rel P gl G h w) (g:List qj):Rel P gl G (h ++ g) w where
 γlt i b hb:=⟨jo (hr.γlt i b hb).1 (by simp),(hr.γlt i b hb).2⟩
 inj i j b hi hj:=by
  rw [ja (hr.γlt i b hi).1,ja (hr.γlt j b hj).1]
  exact hr.inj i j b hi hj
 box i b bx hb hx:=hr.box i b bx hb (by rwa [ja (hr.γlt i b hb).1] at hx)
 imm:=hr.imm
 immγ b o v i hv hm hg:=by rw [ja (hr.γlt i b hg).1];exact hr.immγ b o v i hv hm hg
 immK:=hr.immK
 ow:=hr.ow
 glob:=hr.glob
def msk (U:List (qR×Option Nat)):List Nat:=U.filterMap (·.1.o.dst)
theorem qeJ {U:List (qR×Option Nat)} {k:Nat}:k ∈ msk U↔∃x ∈ U,x.1.o.dst = some k:=by simp [msk,List.mem_filterMap]
def qvC (t:List qd) (o:AOp) (cs:List qd):Prop:=
 (∃z,o = .new z/\cs = z.map qd.dim)\/∃k y,o = .box k y/\cs = (ev t y).cells.map qd.dim/\cs.all qd.storable = true
structure Lag (G:qi) (n:Nat) (pend:List (Nat×Chk)) (s:St) (x:qR×Option Nat):Prop where
 quiet:x.1.o.op.effs = false
 does:(wanted s.t x.1.o.guard = some false/\x.2 = none/\∀k y,x.1.o.dst = some k->s.t[k]? = some y->y = .tup [])\/
  (wanted s.t x.1.o.guard = some true/\∃v,(∀k y,x.1.o.dst = some k->s.t[k]? = some y->y = v)/\
   ((x.2 = none/\pureV s.t x.1.o.op = some v)\/
    (x.2 = none/\∃k q,x.1.o.op = .ld k q/\(x.1.ix,Chk.ld (ev s.t q) k v) ∈ pend/\qel s.h (ev s.t q) k = some v)\/
    (x.2 = none/\∃sh z ok m key,x.1.o.op = .lk sh z ok m key/\(x.1.ix,Chk.lk sh z ok (ev s.t m) (ev s.t key) v) ∈ pend/\qnW s.h sh z ok (ev s.t m) (ev s.t key) = some v)\/
    (∃id cs,x.2 = some id/\v = .ptr id 0/\qvC s.t x.1.o.op cs/\(x.1.ix,Chk.box id cs) ∈ pend/\s.h[id]? = some (.cells cs))))
 young:∀id,x.2 = some id->n <= id/\id < s.h.length/\G.γ id = none
theorem Lag.keep {pend E:List (Nat×Chk)} {s s':St} {x:qR×Option Nat} (hx:Lag G n pend s x) (h1:qc6 s.t s'.t x.1.o.looks) (h2:∀k,x.1.o.dst = some k->s'.t[k]? = s.t[k]?)
  (h3:∀c,(x.1.ix,c) ∈ pend->c.Holds s.h->(x.1.ix,c) ∈ E/\c.Holds s'.h) (h4:∀id,x.2 = some id->id < s.h.length->G.γ id = none->id < s'.h.length/\G'.γ id = none):Lag G' n E s' x:=by
 obtain ⟨hg,hl⟩:=qam.want_looks h1
 refine ⟨hx.quiet,?_,λid hid=>?_⟩
 ·rcases hx.does with ⟨d1,d2,d3⟩ | ⟨d1,v,d2,d3⟩
  ·exact .inl ⟨by rw [<-hg];exact d1,d2,λk y hk hy=>d3 k y hk (by rw [<-h2 k hk];exact hy)⟩
  ·refine .inr ⟨by rw [<-hg];exact d1,v,λk y hk hy=>d2 k y hk (by rw [<-h2 k hk];exact hy),?_⟩
   rcases d3 with ⟨e1,e2⟩ | ⟨e0,k,q,e1,e2,e3⟩ | ⟨e0,sh,z,ok,m,key,e1,e2,e3⟩ | ⟨id,cs,e1,e2,e3,e4,e5⟩
   ·exact .inl ⟨e1,by rw [<-hl.pureV];exact e2⟩
   ·have hq:ev s.t q = ev s'.t q:=by rw [e1] at hl;exact qc6.ev hl
    obtain ⟨g1,g2⟩:=h3 _ e2 e3
    rw [hq] at g1 g2
    exact .inr (.inl ⟨e0,k,q,e1,g1,g2⟩)
   ·have hm:ev s.t m = ev s'.t m:=by rw [e1] at hl;exact qc6.ev hl.left
    have hk:ev s.t key = ev s'.t key:=by rw [e1] at hl;exact qc6.ev hl.right
    obtain ⟨g1,g2⟩:=h3 _ e2 e3
    rw [hm,hk] at g1 g2
    exact .inr (.inr (.inl ⟨e0,sh,z,ok,m,key,e1,g1,g2⟩))
   ·obtain ⟨g1,g2⟩:=h3 _ e4 e5
    refine .inr (.inr (.inr ⟨id,cs,e1,e2,?_,g1,g2⟩))
    rcases e3 with e3 | ⟨k,y,f1,f2,f3⟩
    ·exact .inl e3
    ·have hq:ev s.t y = ev s'.t y:=by rw [f1] at hl;exact qc6.ev hl
     exact .inr ⟨k,y,f1,by rw [<-hq];exact f2,f3⟩
 ·obtain ⟨g1,g2,g3⟩:=hx.young id hid
  exact ⟨g1,h4 id hid g2 g3⟩
def qB6 (x y:qR):Prop:=(∀d,y.o.dst = some d->d ∈ x.o.looks->x.cl.testBit y.ix = true)/\(∀d,y.o.dst = some d->x.o.dst ≠ some d)
theorem qmU {x y:qR} (h:qeg x y = true) (hx:x.o.op.effs = false) (hy:y.o.op.effs = false):qB6 x y/\qB6 y x/\x.ix ≠ y.ix:=by
 simp only [qeg,jk,bne_iff_ne,ne_eq,Bool.or_eq_true,hx,hy,Bool.not_false,Bool.true_and,jL] at h
 obtain ⟨⟨h1,h2⟩,h3⟩:=h
 refine ⟨⟨λd hd hl=>?_,λd hd he=>?_⟩,⟨λd hd hl=>?_,λd hd he=>?_⟩,h1⟩
 ·rw [hd] at h3;simp at h3;exact absurd hl h3.1
 ·rw [hd] at h3;simp at h3;exact absurd he h3.2
 ·rw [hd] at h2
  rcases h2 with h2 | h2
  ·exact h2
  ·simp at h2;exact absurd hl h2
 ·rw [he] at h3;simp at h3;exact absurd hd h3.2
theorem qjl {x y:qR} (h:qeg x y = true) (hn:y.cl.testBit x.ix = false):(∀d,x.o.dst = some d->d ∉ y.o.looks)/\(∀d,y.o.dst = some d->d ∉ x.o.looks/\x.o.dst ≠ some d):=by
 simp only [qeg,jk,bne_iff_ne,ne_eq,Bool.or_eq_true,hn,jl,false_or,Bool.not_eq_true'] at h
 obtain ⟨⟨h1,h2,E⟩,h3⟩:=h
 refine ⟨λd hd=>?_,λd hd=>?_⟩
 ·rw [hd] at E;simpa using E
 ·rw [hd] at h3;simpa using h3
theorem qly {U U':List (qR×Option Nat)} {x:qR×Option Nat} {v:qd} (hU:∀y,y ∈ U'↔y ∈ U/\y.1.ix ≠ x.1.ix) (hx:x ∈ U) (I:∀y ∈ U,y.1.ix = x.1.ix->y = x)
  (Y:∀y ∈ U,y.1.ix ≠ x.1.ix->qB6 y.1 x.1) (hv:∀k y,x.1.o.dst = some k->t[k]? = some y->y = v):AE.put x.1.o.dst v (qcL (msk U) t) = qcL (msk U') t:=by
 have E:∀k,x.1.o.dst ≠ some k->((msk U).contains k = (msk U').contains k):=by
  intro k hk
  rw [Bool.eq_iff_iff]
  simp only [List.contains_iff_mem,qeJ]
  constructor
  ·rintro ⟨y,hy,hd⟩
   refine ⟨y,(hU y).2 ⟨hy,λe=>?_⟩,hd⟩
   rw [I y hy e] at hd
   exact hk hd
  ·rintro ⟨y,hy,hd⟩
   exact ⟨y,((hU y).1 hy).1,hd⟩
 apply jO
 intro k
 by_cases hd:x.1.o.dst = some k
 ·rw [hd]
  simp only [AE.put]
  rw [List.getElem?_set,if_pos rfl,qcg,qcH]
  have hc:(msk U').contains k = false:=by
   rw [Bool.eq_false_iff]
   intro hc
   simp only [List.contains_iff_mem,qeJ] at hc
   obtain ⟨y,hy,a1⟩:=hc
   obtain ⟨h1,h2⟩:=(hU y).1 hy
   exact (Y y h1 h2).2 k hd a1
  rw [hc]
  by_cases hl:k < t.length
  ·rw [if_pos hl,jh hl]
   simp only [jJ,jl,if_false]
   rw [hv k _ hd (jh hl)]
  ·rw [if_neg hl,jq (Nat.le_of_not_lt hl)]
   rfl
 ·rw [put_get_ne hd,qcH,qcH,E k hd]
theorem qA0 {U:List (qR×Option Nat)} {x:qR×Option Nat} {v:qd} {i:Nat} {y:qd} (hy:(qcL (msk (x :: U)) (AE.put x.1.o.dst v t))[i]? = some y):(qcL (msk U) t)[i]? = some y\/y = .undef:=by
 rw [qcH] at hy ⊢
 by_cases hc:(msk (x :: U)).contains i = true
 ·rw [Option.map_eq_some_iff] at hy
  obtain ⟨z,_,hz⟩:=hy
  rw [if_pos hc] at hz
  exact .inr hz.symm
 ·have hd:x.1.o.dst ≠ some i:=λe=>hc (by simp only [List.contains_iff_mem,qeJ];exact ⟨x,jE ..,e⟩)
  have E:¬(msk U).contains i = true:=λe=>hc (by
   simp only [List.contains_iff_mem,qeJ] at e ⊢
   obtain ⟨z,h1,h2⟩:=e
   exact ⟨z,jI _ h1,h2⟩)
  rw [put_get_ne hd] at hy
  simp only [hc,E,jl,if_false] at hy ⊢
  exact .inl hy
theorem qw2 (hc:Cfg P gl G h t a w) {o:Oper} {ao:AOp} (I:qcC P gl o = some ao) {cs:List qd} (a7:qvC t ao cs) {id:Nat} (hid:h[id]? = some (.cells cs)) (a1:G.γ id = none) (hn:n <= id) :
  ∃u w',(execOp a.eval o).run P w = .ok (.value u) w'/\Ext n G w (G.withBox id w.heap.size) w'/\Cfg P gl (G.withBox id w.heap.size) h (AE.put o.dst (.ptr id 0) t) (a.put o.dst u) w':=by
 have key:∀{Y:List qd} {c:Array Value} {e:TypeId},G.VL Y c.toList->cs = Y.map qd.dim->(execOp a.eval o).run P w = .ok (.value (.pointer (some ⟨w.heap.size,0,none⟩))) (w.alloc (.cells c e))->
   ∃u w',(execOp a.eval o).run P w = .ok (.value u) w'/\Ext n G w (G.withBox id w.heap.size) w'/\Cfg P gl (G.withBox id w.heap.size) h (AE.put o.dst (.ptr id 0) t) (a.put o.dst u) w':=by
  rintro Y c e ac rfl h1
  have E:Ext n G w (G.withBox id w.heap.size) (w.alloc (.cells c e)):=Ext.newBox a1 hn _
  have a6:=hc.rel.newBox (o:=.cells c e) (bx:=.cells (Y.map qd.dim)) (h':=h) a1 (jm _) (jd.1 hid).1 (λ_ _ _ _=>rfl) hid
   ⟨c,e,qaq w _,qf5 (E.VL ac).dims,λo xs k v ho _=>(qlr ho).elim⟩
  obtain ⟨m,hm⟩:=qas t
  have aa:qaJ (G.withBox id w.heap.size) (w.alloc (.cells c e)) t a.tmps:=
   hc.tr.keep hm E.ik (λi b _=>E.gk i b) (λ_ _ h=>h) (λb i hb=>qad w _ (hc.rel.ow b _ hb).1) (λ_ _ _ _ h=>h)
  refine ⟨_,_,h1,E,(Cfg.mk a6 aa).put o.dst ?_ rfl⟩
  simp only [qi.V,qC,qi.withBox,if_true]
  exact ⟨_,rfl,rfl⟩
 rcases a7 with ⟨z,rfl,hz⟩ | ⟨k,y,rfl,hy,hs⟩
 ·obtain ⟨e,z',ho,a8,rfl⟩:=(qck I).2.2.2.2.2.1 z rfl
  obtain ⟨u,hu,hr⟩:=qfe a8 w
  refine key (hr _ _) hz (c:=u.cells) (e:=e) ?_
  simp only [execOp,ho]
  refine qep ?_
  simp [Instr.alloc,hu,newVar,newRow]
 ·obtain ⟨e,x,ho,hx⟩:=(qck I).2.2.2.2.2.2 k y rfl
  have hv:=qai hc.rel hc.tr hx
  have ab:(ev t y).cells.all qd.storable = true:=by
   rw [hy,List.all_map] at hs
   rw [List.all_eq_true] at hs ⊢
   intro z hz
   have:=hs z hz
   cases z <;> first | exact this | rfl
  refine key (qb2 hv ab).1 hy (e:=e) ?_
  simp only [execOp,ho]
  refine qep ?_
  simp [Instr.box,newVar,newRow]
theorem qqi {base:Nat} {call:AE.Call} {p:qcD} {dst:Option Nat} {o:AOp} {s:St} {v:qd} (h:pureV s.t o = some v):qA base call p dst o s = some (.nor,{ s with t:=AE.put dst v s.t}):=by
 cases o <;> first
  | (simp only [qA,h,jJ];done)
  | (simp [pureV] at h;done)
theorem qxP {o:AOp} {s:St} {v:qd} (h:pureV s.t o = some v):qfW s o = none:=by
 cases o <;> first
  | rfl
  | (simp [pureV] at h;done)
theorem qlf {cl:List Nat} {j:Nat}:∀{es:List Nat} {m:Nat},(es.foldl (λm e=>m ||| 1 <<< e ||| cl.getD e 0) m).testBit j = true->m.testBit j = true\/j ∈ es\/∃e ∈ es,(cl.getD e 0).testBit j = true
 | [],m,h=>.inl h
 | e :: es,m,h=>by
  simp only [List.foldl_cons] at h
  rcases qlf h with h | h | ⟨e',h1,h2⟩
  ·simp only [Nat.testBit_or,Bool.or_eq_true] at h
   rcases h with (h | h) | h
   ·exact .inl h
   ·refine .inr (.inl ?_)
    rw [Nat.one_shiftLeft,Nat.testBit_two_pow] at h
    simp at h
    simp [h]
   ·exact .inr (.inr ⟨e,by simp,h⟩)
  ·exact .inr (.inl (jI _ h))
  ·exact .inr (.inr ⟨e',jI _ h1,h2⟩)
end
structure qku (P:Program) (gl:Nat->Option (List qd)) (ops:Array Oper) (cl:List Nat) (xx:Nat×Nat) (all:List qR):Prop where
 comp:∀d ∈ all,∃o,ops[d.ix]? = some o/\qcj P gl ops o = some d.o/\d.cl = cl.getD d.ix 0/\d.cl = qw0 cl (qf2 o)
 cover:∀i,i < ops.size->∃d ∈ all,d.ix = i
 order:qhj xx (ops.toList.map qf2) [] all = true
 selfs:∀d ∈ all,qis d = true
structure Inv (P:Program) (gl:Nat->Option (List qd)) (ops:Array Oper) (xx:Nat×Nat) (all:List qR) (n:Nat) (listed:Array Bool) (a:Act) (G:qi) (w:World)
  (pre:List qR) (alts:List (List qR)) (U:List (qR×Option Nat)) (pend:List (Nat×Chk)) (s:St):Prop where
 cfg:Cfg P gl G s.h (qcL (msk U) s.t) a w
 lag:∀x ∈ U,Lag G n pend s x
 free:∀x ∈ U,∀y ∈ U,y.1.ix ≠ x.1.ix->qB6 y.1 x.1
 uniq:∀x ∈ U,∀y ∈ U,y.1.ix = x.1.ix->y = x
 ids:∀x ∈ U,∀y ∈ U,∀id,x.2 = some id->y.2 = some id->y = x
 inPre:∀x ∈ U,x.1 ∈ pre
 ord:∀ds ∈ alts,qhj xx (ops.toList.map qf2) pre ds = true
 mem:∀ds ∈ alts,∀d,d ∈ all↔(d ∈ pre\/d ∈ ds)
 ne:∃ds,ds ∈ alts
 l1:∀d ∈ pre,listed.getD d.ix false = true\/∃x ∈ U,x.1 = d
 l2:∀x ∈ U,listed.getD x.1.ix true = false
 l3:∀ds ∈ alts,∀d ∈ ds,listed.getD d.ix true = false
 size:listed.size = ops.size
 closed:∀d ∈ all,listed.getD d.ix false = true->∀j,d.cl.testBit j = true->listed.getD j false = true
 hlen:n <= s.h.length
section
variable {P:Program} {gl:Nat->Option (List qd)} {ops:Array Oper} {xx:Nat×Nat} {all:List qR} {alts:List (List qR)} {cl:List Nat} {n:Nat} {listed:Array Bool} {a:Act} {G G':qi} {w w':World}
 {pre ds:List qR} {U:List (qR×Option Nat)} {pend:List (Nat×Chk)} {s:St}
def qmV (xx:Nat×Nat) (a b:qR):Bool:=qeg a b || qo4 xx a b
theorem qgK {a b:qR} (h:qmV xx a b = true) (ha:a.o.op.effs = false):qeg a b = true:=by
 simp only [qmV,qo4,ha,jL,Bool.and_false,jM] at h
 exact h
theorem qeL {a b:qR} (h:qmV xx a b = true):a.ix ≠ b.ix:=by
 intro e
 simp [qmV,qeg,qo4,e] at h
theorem qa1 {E:List (List Nat)} {d:qR} (h:qhj xx E pre (d :: ds) = true):(∀e ∈ E.getD d.ix [],∃x ∈ pre,x.ix = e)/\(∀x ∈ pre,qmV xx x d = true)/\qis d = true/\qhj xx E (d :: pre) ds = true:=by
 simp only [qhj,jk,List.all_eq_true,List.any_eq_true,beq_iff_eq] at h
 exact ⟨h.1.1.1,h.1.1.2,h.1.2,h.2⟩
theorem qjk {E:List (List Nat)}:∀{ds pre:List qR},qhj xx E pre ds = true->∀d ∈ ds,qis d = true
 | [],_,_,d,hd=>by cases hd
 | x :: ds,pre,h,d,hd=>by
  obtain ⟨_,_,h3,h4⟩:=qa1 h
  rcases List.mem_cons.1 hd with rfl | hd
  ·exact h3
  ·exact qjk h4 d hd
theorem qbV {E:List (List Nat)}:∀{ds pre:List qR} {x:qR},qhj xx E pre ds = true->x ∈ pre->∀d ∈ ds,qmV xx x d = true
 | [],_,_,_,_,d,hd=>by cases hd
 | y :: ds,pre,x,h,hx,d,hd=>by
  obtain ⟨_,h2,_,h4⟩:=qa1 h
  rcases List.mem_cons.1 hd with rfl | hd
  ·exact h2 x hx
  ·exact qbV h4 (jI _ hx) d hd
theorem Inv.push {d:qR} {E:List (List qR)} (hi:Inv P gl ops xx all n listed a G w pre (E.map (d :: ·)) U pend s) (hq:d.o.op.effs = false) {s1:St} {v:qd} {g:List qj} {I:List (Nat×Chk)} {oid:Option Nat}
  (ht:s1.t = AE.put d.o.dst v s.t) (hh:s1.h = s.h ++ g) (hp:∀c,c ∈ pend->c ∈ I) (a1:∀id,oid = some id->s.h.length <= id) (ad:Lag G n I s1 (d,oid)) :
  Inv P gl ops xx all n listed a G w (d :: pre) E ((d,oid) :: U) I s1:=by
 obtain ⟨_,a6⟩:=hi.ne
 obtain ⟨rest,a7,rfl⟩:=jP.1 a6
 have put:∀{r},r ∈ E->(d :: r) ∈ E.map (d :: ·):=λhr=>List.mem_map_of_mem hr
 obtain ⟨ak,ac,aj,_⟩:=qa1 (hi.ord _ a6)
 have aa:∀x ∈ U,qeg x.1 d = true:=λx hx=>qgK (ac _ (hi.inPre x hx)) (hi.lag x hx).quiet
 have Y:∀x ∈ U,qB6 x.1 d/\qB6 d x.1/\x.1.ix ≠ d.ix:=λx hx=>qmU (aa x hx) (hi.lag x hx).quiet hq
 have ai:∀x ∈ U,∀k,d.o.dst = some k->k ∉ x.1.o.looks:=λx hx k hk hl=>by
  have a8:=aa x hx
  simp only [qeg,hk,hq,jk,jL,jN] at a8
  have:=a8.2.1
  simp at this
  exact this hl
 refine ⟨⟨by rw [hh];exact hi.cfg.rel.grow g,?_⟩,?_,?_,?_,?_,?_,λds hd=>(qa1 (hi.ord _ (put hd))).2.2.2,?_,⟨rest,a7⟩,?_,?_,?_,hi.size,hi.closed,by rw [hh];simp;have:=hi.hlen;omega⟩
 ·refine hi.cfg.tr.poison (by rw [qcg,qcg,ht,qbF]) λi y hy=>?_
  rw [ht] at hy
  exact qA0 (x:=(d,oid)) hy
 ·intro x hx
  rcases List.mem_cons.1 hx with rfl | hx
  ·exact ad
  ·refine (hi.lag x hx).keep (λi hl=>?_) (λk hk=>?_) (λc hc af=>⟨hp _ hc,?_⟩) (λid _ al ae=>⟨by rw [hh];simp;omega,ae⟩)
   ·rw [ht,qaW (put_get_ne λe=>ai x hx i e hl)]
   ·rw [ht,put_get_ne λe=>(Y x hx).1.2 k e hk]
   ·rw [hh];exact af.append
 ·intro x hx y hy ab
  rcases List.mem_cons.1 hx with rfl | hx <;> rcases List.mem_cons.1 hy with rfl | hy
  ·exact absurd rfl ab
  ·exact (Y y hy).1
  ·exact (Y x hx).2.1
  ·exact hi.free x hx y hy ab
 ·intro x hx y hy he
  rcases List.mem_cons.1 hx with rfl | hx <;> rcases List.mem_cons.1 hy with rfl | hy
  ·rfl
  ·exact absurd he (Y y hy).2.2
  ·exact absurd he.symm (Y x hx).2.2
  ·exact hi.uniq x hx y hy he
 ·intro x hx y hy id h1 h2
  rcases List.mem_cons.1 hx with rfl | hx <;> rcases List.mem_cons.1 hy with rfl | hy
  ·rfl
  ·have:=(hi.lag y hy).young id h2
   have:=a1 id h1
   omega
  ·have:=(hi.lag x hx).young id h1
   have:=a1 id h2
   omega
  ·exact hi.ids x hx y hy id h1 h2
 ·intro x hx
  rcases List.mem_cons.1 hx with rfl | hx
  ·exact jE ..
  ·exact jI _ (hi.inPre x hx)
 ·intro ds hd e
  rw [hi.mem _ (put hd) e,List.mem_cons,List.mem_cons]
  constructor
  ·rintro (h1 | h1 | h1)
   ·exact .inl (.inr h1)
   ·exact .inl (.inl h1)
   ·exact .inr h1
  ·rintro ((h1 | h1) | h1)
   ·exact .inr (.inl h1)
   ·exact .inl h1
   ·exact .inr (.inr h1)
 ·intro e he
  rcases List.mem_cons.1 he with rfl | he
  ·exact .inr ⟨(e,oid),jE ..,rfl⟩
  ·rcases hi.l1 e he with h1 | ⟨x,h1,h2⟩
   ·exact .inl h1
   ·exact .inr ⟨x,jI _ h1,h2⟩
 ·intro x hx
  rcases List.mem_cons.1 hx with rfl | hx
  ·exact hi.l3 _ a6 d (jE ..)
  ·exact hi.l2 x hx
 ·exact λds hd e he=>hi.l3 _ (put hd) e (jI _ he)
theorem qlL {d:qR} (hs:qis d = true) (hq:d.o.op.effs = false):∀k,d.o.dst = some k->k ∉ d.o.looks:=by
 intro k hk
 simp only [qis,hq,hk,jN,Bool.not_eq_true',List.contains_eq_mem,decide_eq_false_iff_not] at hs
 exact hs
theorem qoc {d:qR} (hs:qis d = true) (hq:d.o.op.effs = false) (v:qd) (t:List qd):qc6 t (AE.put d.o.dst v t) d.o.looks:=λi hi=>by
 rw [qaW (put_get_ne λe=>qlL hs hq i e hi)]
theorem qod {dst:Option Nat} {v:qd} {t:List qd} {k:Nat} {y:qd} (hk:dst = some k) (hy:(AE.put dst v t)[k]? = some y):y = v:=by
 subst hk
 simp only [AE.put,List.getElem?_set] at hy
 split at hy
 ·split at hy
  ·cases hy;rfl
  ·cases hy
 ·rename_i hh;exact absurd trivial hh
theorem ql6 {base:Nat} {call:AE.Call} {dsts:List Nat} {x:Ex} {s':St} {tails:List (List qR)}:∀(c pre:List qR) (U:List (qR×Option Nat)) (pend:List (Nat×Chk)) (s:St),Inv P gl ops xx all n listed a G w pre (tails.map (c ++ ·)) U pend s->base <= s.h.length->
  (∀t ∈ tails,qW base call dsts (c ++ t) pend s = some (x,s'))->∃a6 c' U' E s1,Inv P gl ops xx all n listed a G w a6 (tails.map (c' ++ ·)) U' E s1/\base <= s1.h.length/\(∀t ∈ tails,qW base call dsts (c' ++ t) E s1 = some (x,s'))/\
   (∀d rest,c' = d :: rest->d.o.op.effs = true)/\U'.length + c'.length = U.length + c.length/\(∀d ∈ pre,d ∈ a6)
 | [],pre,U,pend,s,hi,hb,hr=>⟨pre,[],U,pend,s,hi,hb,hr,λ_ _ h=>(by cases h),rfl,λ_ h=>h⟩
 | d :: rest,pre,U,pend,s,hi,hb,hr=>by
  cases hq:d.o.op.effs with
  | true=>exact ⟨pre,d :: rest,U,pend,s,hi,hb,hr,λ_ _ h=>by cases h;exact hq,rfl,λ_ h=>h⟩
  | false=>
   have al:tails.map ((d :: rest) ++ ·) = (tails.map (rest ++ ·)).map (d :: ·):=by simp
   obtain ⟨_,ar⟩:=hi.ne
   obtain ⟨t0,aA,rfl⟩:=jP.1 ar
   obtain ⟨_,_,ab,_⟩:=qa1 (hi.ord _ ar)
   have Y:=hr
   replace hr:=hr t0 aA
   rw [al] at hi
   simp only [jw,qW,hq,jl,if_false] at hr Y
   have fin:∀{s1:St} {E:List (Nat×Chk)} {oid:Option Nat},Inv P gl ops xx all n listed a G w (d :: pre) (tails.map (rest ++ ·)) ((d,oid) :: U) E s1->base <= s1.h.length->(∀t ∈ tails,qW base call dsts (rest ++ t) E s1 = some (x,s'))->
     ∃a6 c' U' E s1,Inv P gl ops xx all n listed a G w a6 (tails.map (c' ++ ·)) U' E s1/\base <= s1.h.length/\(∀t ∈ tails,qW base call dsts (c' ++ t) E s1 = some (x,s'))/\
      (∀d rest,c' = d :: rest->d.o.op.effs = true)/\U'.length + c'.length = U.length + (d :: rest).length/\(∀d ∈ pre,d ∈ a6):=by
    intro s1 E oid aC aD aB
    obtain ⟨ai,ay,aE,ae,s2,h1,h2,h3,h4,h5,h6⟩:=ql6 rest _ _ _ _ aC aD aB
    exact ⟨ai,ay,aE,ae,s2,h1,h2,h3,h4,by rw [h5];simp;omega,λe he=>h6 e (jI _ he)⟩
   split at hr
   ·rename_i hw
    split at hr
    ·rename_i s1 hop
     simp only [hw,hop] at Y
     obtain ⟨_,v,hv,aF,ak⟩:=qd7 hq hop
     have a7:qc6 s.t s1.t d.o.looks:=by rw [hv];exact qoc ab hq v s.t
     obtain ⟨hg,hl⟩:=qam.want_looks a7
     have a8:∀k y,d.o.dst = some k->s1.t[k]? = some y->y = v:=λk y hk hy=>by rw [hv] at hy;exact qod hk hy
     rcases ak with ⟨hh,ad | ⟨k,q,a1,aa⟩ | ⟨sh,z,ok,m,key,a1,aa⟩⟩ | ⟨cs,hh,az,I⟩
     ·simp only [qxP ad] at Y
      refine fin (hi.push (oid:=none) (g:=[]) hq hv (by simp [hh]) (λ_ h=>h) (λ_ h=>by cases h) ⟨hq,.inr ⟨by rw [<-hg];exact hw,v,a8,.inl ⟨rfl,by rw [<-hl.pureV];exact ad⟩⟩,λ_ h=>by cases h⟩) (by rw [hh];exact hb) Y
     ·have I:qfW s d.o.op = some (.ld (ev s.t q) k v):=by simp only [a1,qfW,aa,jJ]
      simp only [I] at Y
      have ac:ev s.t q = ev s1.t q:=by rw [a1] at hl;exact qc6.ev hl
      refine fin (hi.push (oid:=none) (g:=[]) hq hv (by simp [hh]) (λ_ h=>jI _ h) (λ_ h=>by cases h)
       ⟨hq,.inr ⟨by rw [<-hg];exact hw,v,a8,.inr (.inl ⟨rfl,k,q,a1,by rw [<-ac];exact jE ..,by rw [<-ac,hh];exact aa⟩)⟩,λ_ h=>by cases h⟩) (by rw [hh];exact hb) Y
     ·have I:qfW s d.o.op = some (.lk sh z ok (ev s.t m) (ev s.t key) v):=by simp only [a1,qfW,aa,jJ]
      simp only [I] at Y
      have am:ev s.t m = ev s1.t m:=by rw [a1] at hl;exact qc6.ev hl.left
      have ap:ev s.t key = ev s1.t key:=by rw [a1] at hl;exact qc6.ev hl.right
      refine fin (hi.push (oid:=none) (g:=[]) hq hv (by simp [hh]) (λ_ h=>jI _ h) (λ_ h=>by cases h)
       ⟨hq,.inr ⟨by rw [<-hg];exact hw,v,a8,.inr (.inr (.inl ⟨rfl,sh,z,ok,m,key,a1,by rw [<-am,<-ap];exact jE ..,by rw [<-am,<-ap,hh];exact aa⟩))⟩,λ_ h=>by cases h⟩) (by rw [hh];exact hb) Y
     ·simp only [I] at Y
      have au:qvC s1.t d.o.op cs:=by
       cases af:d.o.op <;> rw [af] at I <;> simp only [qfW,jj,Chk.box.injEq,true_and,Option.map_eq_some_iff,reduceCtorEq,and_false,exists_false] at I
       case new z=>exact .inl ⟨z,rfl,I.symm⟩
       case box k y=>
        rw [af] at hl hop
        have ac:ev s.t y = ev s1.t y:=qc6.ev hl
        simp only [qA] at hop
        split at hop
        ·rename_i aj
         exact .inr ⟨k,y,rfl,by rw [<-ac];exact I.symm,by rw [<-I];exact aj.2⟩
        ·cases hop
      have av:s1.h[s.h.length]? = some (.cells cs):=by rw [hh];simp
      refine fin (hi.push (oid:=some s.h.length) (g:=[.cells cs]) hq hv hh (λ_ h=>jI _ h) (λ_ h=>by cases h;exact jm _)
       ⟨hq,.inr ⟨by rw [<-hg];exact hw,v,a8,.inr (.inr (.inr ⟨s.h.length,cs,rfl,az,au,jE ..,av⟩))⟩,λid h=>by
        cases h
        refine ⟨hi.hlen,by rw [hh];simp,?_⟩
        cases hg:G.γ s.h.length with
        | none=>rfl
        | some b=>have:=(hi.cfg.rel.γlt _ b hg).1;omega⟩) (by rw [hh];simp;omega) Y
    ·cases hr
    ·cases hr
   ·rename_i hw
    simp only [hw] at Y
    have a7:qc6 s.t (AE.put d.o.dst (.tup []) s.t) d.o.looks:=qoc ab hq _ s.t
    obtain ⟨hg,hl⟩:=qam.want_looks a7
    refine fin (hi.push (s1:={ s with t:=AE.put d.o.dst (.tup []) s.t}) (oid:=none) (g:=[]) hq rfl (by simp) (λ_ h=>h) (λ_ h=>by cases h)
     ⟨hq,.inl ⟨by rw [<-hg];exact hw,rfl,λk y hk hy=>qod hk hy⟩,λ_ h=>by cases h⟩) hb Y
   ·cases hr
end
section
variable {P:Program} {gl:Nat->Option (List qd)} {ops:Array Oper} {xx:Nat×Nat} {all:List qR} {alts:List (List qR)} {cl:List Nat} {n:Nat} {listed:Array Bool} {a:Act} {G G':qi} {w w':World}
 {pre ds:List qR} {U:List (qR×Option Nat)} {pend:List (Nat×Chk)} {s:St}
theorem qlo {o:Oper} {e:Nat}:e ∈ qf2 o↔∃x ∈ o.after,Region.binds .any x = true/\x.on = e:=by
 simp only [qf2,jP,List.mem_filter,Array.mem_toList_iff,and_assoc]
theorem qsq {i:Nat} (h:listed.getD i false = true):i < listed.size:=by
 rcases Nat.lt_or_ge i listed.size with h' | h'
 ·exact h'
 ·simp [jK h'] at h
theorem qdr {i:Nat} (h:listed.getD i true = false):listed.getD i false = false:=by
 rcases Nat.lt_or_ge i listed.size with h' | h'
 ·simpa [h'] using h
 ·simp [jK h'] at h
theorem qAJ {i:Nat} (hl:i < listed.size) (h:listed.getD i false ≠ true):listed.getD i true = false:=by
 simpa [hl] using h
theorem qf6 {i:Nat} (hl:i < listed.size) (b:Bool):(listed.setIfInBounds i true).getD i b = true:=by
 simp [hl]
theorem Inv.cl_listed (E:qku P gl ops cl xx all) (hi:Inv P gl ops xx all n listed a G w pre alts U pend s) {d:qR} (hd:d ∈ all) (hr:d.ix ∈ Region.ready .any ops listed) {j:Nat} (hj:d.cl.testBit j = true):listed.getD j false = true:=by
 obtain ⟨_,o,ho,a6⟩:=mem_ready.1 hr
 obtain ⟨o',I,_,_,a7⟩:=E.comp d hd
 rw [ho] at I
 cases I
 have Y:∀e ∈ qf2 o,listed.getD e false = true:=λe he=>by
  obtain ⟨x,h1,h2,rfl⟩:=qlo.1 he
  exact a6 x h1 h2
 rw [a7] at hj
 rcases qlf hj with h | h | ⟨e,h1,h2⟩
 ·simp at h
 ·exact Y j h
 ·have hl:=Y e h1
  obtain ⟨d',a1,he⟩:=E.cover e (by rw [<-hi.size];exact qsq hl)
  subst he
  obtain ⟨_,_,_,hc,_⟩:=E.comp d' a1
  exact hi.closed d' a1 hl j (by rw [hc];exact h2)
theorem qiU (a1:qku P gl ops cl xx all) (Y:listed.size = ops.size) (hr:Region.ready .any ops listed = []):∀(ds pre:List qR),(∀d ∈ ds,d ∈ all)->qhj xx (ops.toList.map qf2) pre ds = true->
  (∀x ∈ pre,listed.getD x.ix false = true)->∀d ∈ ds,listed.getD d.ix false = true
 | [],_,_,_,_,d,hd=>by cases hd
 | y :: ds,pre,E,ho,hp,d,hd=>by
  obtain ⟨h1,_,_,h4⟩:=qa1 ho
  have hy:listed.getD y.ix false = true:=by
   refine Classical.byContradiction λhn=>?_
   obtain ⟨o,I,_⟩:=a1.comp y (E y (jE ..))
   have a8:y.ix < ops.size:=(je.1 I).1
   have:y.ix ∈ Region.ready .any ops listed:=by
    refine mem_ready.2 ⟨qAJ (by rw [Y];exact a8) hn,o,I,λe he hb=>?_⟩
    have a6:(ops.toList.map qf2).getD y.ix [] = qf2 o:=by
     rw [List.getD_eq_getElem?_getD,jr,Array.getElem?_toList,I]
     rfl
    obtain ⟨x,hx,a7⟩:=h1 e.on (by rw [a6];exact qlo.2 ⟨e,he,hb,rfl⟩)
    rw [<-a7]
    exact hp x hx
   rw [hr] at this
   cases this
  rcases List.mem_cons.1 hd with rfl | hd
  ·exact hy
  ·exact qiU a1 Y hr ds (y :: pre) (λd hd=>E d (jI _ hd)) h4 (λx hx=>by
    rcases List.mem_cons.1 hx with rfl | hx
    ·exact hy
    ·exact hp x hx) d hd
theorem Inv.finished (I:qku P gl ops cl xx all) (hi:Inv P gl ops xx all n listed a G w pre alts U pend s) (hr:Region.ready .any ops listed = []):U = []/\∀ds ∈ alts,ds = []:=by
 have E:=qiU I hi.size hr all [] (λ_ h=>h) I.order (λ_ h=>by cases h)
 obtain ⟨a6,a1⟩:=hi.ne
 constructor
 ·cases U with
  | nil=>rfl
  | cons x U=>
   have h1:=hi.l2 x (jE ..)
   have h2:=E x.1 ((hi.mem _ a1 x.1).2 (.inl (hi.inPre x (jE ..))))
   rw [qdr h1] at h2
   cases h2
 ·intro ds Y
  cases ds with
  | nil=>rfl
  | cons d ds=>
   have h1:=hi.l3 _ Y d (jE ..)
   have h2:=E d ((hi.mem _ Y d).2 (.inr (jE ..)))
   rw [qdr h1] at h2
   cases h2
theorem Inv.closed' (E:qku P gl ops cl xx all) (hi:Inv P gl ops xx all n listed a G w pre alts U pend s) {d:qR} (hd:d ∈ all) (hr:d.ix ∈ Region.ready .any ops listed) :
  ∀e ∈ all,(listed.setIfInBounds d.ix true).getD e.ix false = true->∀j,e.cl.testBit j = true->(listed.setIfInBounds d.ix true).getD j false = true:=by
 intro e he hl j hj
 by_cases I:d.ix = e.ix
 ·have hc:e.cl = d.cl:=by
   obtain ⟨_,_,_,h1,_⟩:=E.comp e he
   obtain ⟨_,_,_,h2,_⟩:=E.comp d hd
   rw [h1,h2,I]
  rw [hc] at hj
  exact getD_set_true (hi.cl_listed E hd hr hj)
 ·rw [getD_set_ne false I] at hl
  exact getD_set_true (hi.closed e he hl j hj)
theorem Inv.caught (Y:qku P gl ops cl xx all) (hi:Inv P gl ops xx all n listed a G w pre alts U pend s) {x:qR×Option Nat} (hx:x ∈ U) (hr:x.1.ix ∈ Region.ready .any ops listed) {a':Act}
  (a7:Cfg P gl G' s.h (qcL (msk (U.filter λy=>y.1.ix != x.1.ix)) s.t) a' w')
  (a8:∀y ∈ U,y ≠ x->∀id,y.2 = some id->G.γ id = none->G'.γ id = none) :
  Inv P gl ops xx all n (listed.setIfInBounds x.1.ix true) a' G' w' pre alts (U.filter λy=>y.1.ix != x.1.ix) pend s/\(U.filter λy=>y.1.ix != x.1.ix).length < U.length:=by
 have hU:∀y,y ∈ (U.filter λy=>y.1.ix != x.1.ix)↔y ∈ U/\y.1.ix ≠ x.1.ix:=by simp [List.mem_filter]
 obtain ⟨aa,a6⟩:=hi.ne
 have E:x.1 ∈ all:=(hi.mem _ a6 x.1).2 (.inl (hi.inPre x hx))
 have I:x.1.ix < listed.size:=by
  obtain ⟨o,ho,_⟩:=Y.comp x.1 E
  rw [hi.size]
  exact (je.1 ho).1
 refine ⟨⟨a7,λy hy=>?_,λy hy z hz=>hi.free y ((hU y).1 hy).1 z ((hU z).1 hz).1,λy hy z hz=>hi.uniq y ((hU y).1 hy).1 z ((hU z).1 hz).1,λy hy z hz=>hi.ids y ((hU y).1 hy).1 z ((hU z).1 hz).1,
  λy hy=>hi.inPre y ((hU y).1 hy).1,hi.ord,hi.mem,hi.ne,λd hd=>?_,λy hy=>?_,λds a1 d hd=>?_,by simpa using hi.size,hi.closed' Y E hr,hi.hlen⟩,?_⟩
 ·obtain ⟨h1,h2⟩:=(hU y).1 hy
  exact (hi.lag y h1).keep (λ_ _=>rfl) (λ_ _=>rfl) (λc hc hh=>⟨hc,hh⟩) (λid hid I hg=>⟨I,a8 y h1 (λe=>h2 (by rw [e])) id hid hg⟩)
 ·by_cases he:x.1.ix = d.ix
  ·refine .inl ?_
   rw [<-he]
   exact qf6 I false
  ·rcases hi.l1 d hd with h1 | ⟨y,h1,rfl⟩
   ·exact .inl (getD_set_true h1)
   ·exact .inr ⟨y,(hU y).2 ⟨h1,λe=>he e.symm⟩,rfl⟩
 ·obtain ⟨h1,h2⟩:=(hU y).1 hy
  rw [getD_set_ne true (λe=>h2 e.symm)]
  exact hi.l2 y h1
 ·by_cases he:x.1.ix = d.ix
  ·exact absurd he (qeL (qbV (hi.ord _ a1) (hi.inPre x hx) d hd))
  ·rw [getD_set_ne true he]
   exact hi.l3 _ a1 d hd
 ·rcases Nat.lt_or_ge (U.filter λy=>y.1.ix != x.1.ix).length U.length with h | h
  ·exact h
  ·have h2:(U.filter λy=>y.1.ix != x.1.ix).length = U.length:=Nat.le_antisymm (List.length_filter_le _ _) h
   have:=List.length_filter_eq_length_iff.1 h2 x hx
   simp at this
theorem Inv.acted (a7:qku P gl ops cl xx all) {d:qR} {I:List (List qR)} (hi:Inv P gl ops xx all n listed a G w pre alts U pend s) (E:∀r ∈ I,(d :: r) ∈ alts) (aa:∃r,r ∈ I) (hr:d.ix ∈ Region.ready .any ops listed) {a':Act} {s1:St} {a6:List (Nat×Chk)}
  (ak:Cfg P gl G' s1.h (qcL (msk U) s1.t) a' w') (a1:∀k,d.o.dst ≠ some k->(s1.t.getD k .undef).dim = (s.t.getD k .undef).dim/\(k ∉ d.o.looks->s1.t[k]? = s.t[k]?))
  (ad:∀c,c ∈ pend->d.cl.testBit c.1 = false->c.2.Holds s.h->c ∈ a6/\c.2.Holds s1.h) (am:s.h.length <= s1.h.length) (al:∀id,id < s.h.length->G.γ id = none->G'.γ id = none) :
  Inv P gl ops xx all n (listed.setIfInBounds d.ix true) a' G' w' (d :: pre) I U a6 s1:=by
 obtain ⟨r0,ae⟩:=aa
 have ai:=E _ ae
 have Y:d ∈ all:=(hi.mem _ ai d).2 (.inr (jE ..))
 obtain ⟨_,af,_,_⟩:=qa1 (hi.ord _ ai)
 have ac:d.ix < listed.size:=by
  obtain ⟨o,ho,_⟩:=a7.comp d Y
  rw [hi.size]
  exact (je.1 ho).1
 have ab:∀x ∈ U,d.cl.testBit x.1.ix = false:=λx hx=>by
  cases hb:d.cl.testBit x.1.ix with
  | false=>rfl
  | true=>
   have h1:=hi.cl_listed a7 Y hr hb
   rw [qdr (hi.l2 x hx)] at h1
   cases h1
 have a8:=λx hx=>qjl (qgK (af _ (hi.inPre x hx)) (hi.lag x hx).quiet) (ab x hx)
 have aa:∀x ∈ U,d.ix ≠ x.1.ix:=λx hx e=>qeL (af _ (hi.inPre x hx)) e.symm
 refine ⟨ak,λx hx=>?_,hi.free,hi.uniq,hi.ids,λx hx=>jI _ (hi.inPre x hx),λr hr=>(qa1 (hi.ord _ (E r hr))).2.2.2,λr hr e=>?_,⟨r0,ae⟩,λe he=>?_,λx hx=>?_,λr hr e he=>?_,by simpa using hi.size,hi.closed' a7 Y hr,by have:=hi.hlen;omega⟩
 ·refine (hi.lag x hx).keep (λi hl=>?_) (λk hk=>?_) (λc hc hh=>?_) (λid _ ac hg=>⟨zo,al id ac hg⟩)
  ·exact ((a1 i λe=>((a8 x hx).2 i e).1 hl).1).symm
  ·exact (a1 k λe=>((a8 x hx).2 k e).2 hk).2 ((a8 x hx).1 k hk)
  ·exact ad _ hc (ab x hx) hh
 ·rw [hi.mem _ (E r hr) e,List.mem_cons,List.mem_cons]
  constructor
  ·rintro (h1 | h1 | h1)
   ·exact .inl (.inr h1)
   ·exact .inl (.inl h1)
   ·exact .inr h1
  ·rintro ((h1 | h1) | h1)
   ·exact .inr (.inl h1)
   ·exact .inl h1
   ·exact .inr (.inr h1)
 ·rcases List.mem_cons.1 he with rfl | he
  ·exact .inl (qf6 ac false)
  ·rcases hi.l1 e he with h1 | h1
   ·exact .inl (getD_set_true h1)
   ·exact .inr h1
 ·rw [getD_set_ne true (aa x hx)]
  exact hi.l2 x hx
 ·have aj:d.ix ≠ e.ix:=qeL (qbV (qa1 (hi.ord _ (E r hr))).2.2.2 (jE ..) e he)
  rw [getD_set_ne true aj]
  exact hi.l3 _ (E r hr) e (jI _ he)
theorem qku.inj (E:qku P gl ops cl xx all) {d e:qR} (hd:d ∈ all) (he:e ∈ all) (h:d.ix = e.ix):d = e:=by
 obtain ⟨o,h1,h2,h3,_⟩:=E.comp d hd
 obtain ⟨o',k1,k2,k3,_⟩:=E.comp e he
 rw [h,k1] at h1
 cases h1
 rw [k2] at h2
 obtain ⟨d1,d2,d3⟩:=d
 obtain ⟨e1,e2,e3⟩:=e
 simp only at h h2 h3 k3
 subst h
 cases h2
 rw [h3,k3]
def ql1 (xx:Nat×Nat) (pre:List qR) (tails:List (List qR)):Prop:=
 (tails = [[]]/\(xx.1 = xx.2\/∃p ∈ pre,p.ix = xx.1\/p.ix = xx.2))\/
 ∃A r1 B r2,tails = [A :: r1,B :: r2]/\A.ix = xx.1/\B.ix = xx.2/\A.o.op.effs = true/\B.o.op.effs = true/\∀d ∈ r1,d.ix = B.ix\/d.cl.testBit A.ix = true\/d.cl.testBit B.ix = true
theorem ql1.mono {pre E:List qR} {tails:List (List qR)} (h:ql1 xx pre tails) (hp:∀d ∈ pre,d ∈ E):ql1 xx E tails:=by
 rcases h with ⟨h1,h2⟩ | h
 ·refine .inl ⟨h1,?_⟩
  rcases h2 with h2 | ⟨p,h2,h3⟩
  ·exact .inl h2
  ·exact .inr ⟨p,hp _ h2,h3⟩
 ·exact .inr h
theorem qC5 {a b:qR} (h:qo4 xx a b = true):a.ix ≠ b.ix/\((xx.1 = a.ix/\xx.2 = b.ix)\/(xx.1 = b.ix/\xx.2 = a.ix)):=by
 simp only [qo4,jk,Bool.or_eq_true,beq_iff_eq,bne_iff_ne,ne_eq] at h
 exact ⟨h.1,h.2.2⟩
theorem ql1.forced {d0 d:qR} {c:List qR} {tails:List (List qR)} (hT:ql1 xx pre tails) (hi:Inv P gl ops xx all n listed a G w pre (tails.map ((d0 :: c) ++ ·)) U pend s) {t:List qR} (ht:t ∈ tails) (hd:d ∈ c ++ t):qeg d0 d = true:=by
 have halt:∀t ∈ tails,(d0 :: (c ++ t)) ∈ tails.map ((d0 :: c) ++ ·):=λt ht=>jP.2 ⟨t,ht,rfl⟩
 have ho:=λt ht=>(qa1 (hi.ord _ (halt t ht)))
 have hp:=qbV (ho t ht).2.2.2 (jE ..) d hd
 simp only [qmV,Bool.or_eq_true] at hp
 rcases hp with hp | hp
 ·exact hp
 exfalso
 obtain ⟨I,hx⟩:=qC5 hp
 rcases hT with ⟨rfl,h2⟩ | ⟨A,r1,B,r2,rfl,hA,hB,_⟩
 ·rcases h2 with h2 | ⟨p,E,h2⟩
  ·rcases hx with ⟨e1,e2⟩ | ⟨e1,e2⟩
   ·exact I (by rw [<-e1,<-e2,h2])
   ·exact I (by rw [<-e1,<-e2,h2])
  ·have n1:p.ix ≠ d0.ix:=qeL ((ho t ht).2.1 p E)
   have n2:p.ix ≠ d.ix:=qeL (qbV (ho t ht).2.2.2 (jI _ E) d hd)
   rcases hx with ⟨e1,e2⟩ | ⟨e1,e2⟩ <;> rcases h2 with h2 | h2
   ·exact n1 (by rw [h2,e1])
   ·exact n2 (by rw [h2,e2])
   ·exact n2 (by rw [h2,e1])
   ·exact n1 (by rw [h2,e2])
 ·have m1:d0.ix ≠ A.ix:=qeL (qbV (ho _ (jE ..)).2.2.2 (jE ..) A (by simp))
  have m2:d0.ix ≠ B.ix:=qeL (qbV (ho _ (jI _ (jE ..))).2.2.2 (jE ..) B (by simp))
  rcases hx with ⟨e1,e2⟩ | ⟨e1,e2⟩
  ·exact m1 (by rw [hA,e1])
  ·exact m2 (by rw [hB,e2])
theorem qwe {base:Nat} {call:AE.Call} {dsts:List Nat} (aZ:∀d ∈ all,∀k,d.o.dst = some k->k ∈ dsts) (ar:qcN P gl call) (hk:qP call) (Y:qku P gl ops cl xx all) {ro:Option Nat} {m:Nat} {x:Ex} {s':St} {Q:Exit->Act->World->Prop} :
  ∀(fuel:Nat) (listed:Array Bool) (a:Act) (w:World) (G:qi) (pre c:List qR) (tails:List (List qR)) (U:List (qR×Option Nat)) (pend:List (Nat×Chk)) (s:St),ql1 xx pre tails->Inv P gl ops xx all n listed a G w pre (tails.map (c ++ ·)) U pend s->base <= s.h.length->
   (∀t ∈ tails,qW base call dsts (c ++ t) pend s = some (x,s'))->(∀d rest,c = d :: rest->d.o.op.effs = true)->(∀t ∈ tails,U.length + (c ++ t).length <= fuel)->(∀e a' w',Fin P gl n G w a.defers x s' e a' w'->Q e a' w')->
   wpAnyIn (FR ro) m P .any ops Q fuel listed a w:=by
 intro fuel
 induction fuel with
 | zero=>
  intro listed a w G pre c tails U pend s hT hi hb hr ap a8 hQ
  obtain ⟨_,ad⟩:=hi.ne
  obtain ⟨t0,aj,rfl⟩:=jP.1 ad
  have bE:=a8 t0 aj
  obtain ⟨rfl,aA⟩ :U = []/\c ++ t0 = []:=⟨List.length_eq_zero_iff.1 zo,List.length_eq_zero_iff.1 zo⟩
  have al:=hr t0 aj
  rw [aA] at al ad
  simp only [qW] at al
  cases al
  have aa:=hi.cfg
  simp only [msk,List.filterMap_nil,qj4] at aa
  refine ⟨?_,hQ _ _ _ ⟨G,Ext.refl _ G w,rfl,rfl,aa⟩⟩
  cases bj:Region.ready .any ops listed with
  | nil=>rfl
  | cons i is=>
   have bb:i ∈ Region.ready .any ops listed:=by rw [bj];exact jE ..
   obtain ⟨h1,o,ho,_⟩:=mem_ready.1 bb
   obtain ⟨d,hd,rfl⟩:=Y.cover i (je.1 ho).1
   rcases (hi.mem _ ad d).1 hd with h2 | h2
   ·rcases hi.l1 d h2 with h3 | ⟨y,h3,_⟩
    ·rw [qdr h1] at h3;cases h3
    ·cases h3
   ·cases h2
 | succ fuel ih=>
  intro listed a w G pre c tails U pend s hT hi hb hr ap a8 hQ
  obtain ⟨_,ad⟩:=hi.ne
  obtain ⟨t0,aj,rfl⟩:=jP.1 ad
  have halt:∀t ∈ tails,(c ++ t) ∈ tails.map (c ++ ·):=λt ht=>jP.2 ⟨t,ht,rfl⟩
  refine ⟨λaA=>?_,λi ab=>?_⟩
  ·obtain ⟨rfl,aX⟩:=hi.finished Y aA
   have al:=hr t0 aj
   rw [aX _ ad] at al
   simp only [qW] at al
   cases al
   have aa:=hi.cfg
   simp only [msk,List.filterMap_nil,qj4] at aa
   exact hQ _ _ _ ⟨G,Ext.refl _ G w,rfl,rfl,aa⟩
  ·obtain ⟨bi,o,ho,_⟩:=mem_ready.1 ab
   obtain ⟨d,hd,rfl⟩:=Y.cover i (je.1 ho).1
   obtain ⟨o',b6,aH,_,_⟩:=Y.comp d hd
   rw [ho] at b6
   cases b6
   have aV:d ∈ pre->∃y ∈ U,y.1 = d:=λh=>by
    rcases hi.l1 d h with h3 | h3
    ·rw [qdr bi] at h3;cases h3
    ·exact h3
   unfold wpOpIn
   simp only [ho]
   by_cases h2:d ∈ pre
   ·
    obtain ⟨y,hy,rfl⟩:=aV h2
    have aB:=hi.lag y hy
    have aU:=qlL (Y.selfs _ hd) aB.quiet
    have af:∀k ∈ y.1.o.looks,k ∉ msk U:=λk aF au=>by
     obtain ⟨z,hz,ai⟩:=qeJ.1 au
     by_cases he:z.1.ix = y.1.ix
     ·rw [hi.uniq y hy z hz he] at ai
      exact aU k ai aF
     ·have hf:=hi.free z hz y hy (λe=>he e.symm)
      have hb:=hf.1 k ai aF
      have h1:=hi.cl_listed Y hd ab hb
      rw [qdr (hi.l2 z hz)] at h1
      cases h1
    obtain ⟨hg,hl⟩:=qam.want_looks (qgm (t:=s.t) af)
    have az:∀v,(∀k z,y.1.o.dst = some k->s.t[k]? = some z->z = v)->AE.put y.1.o.dst v (qcL (msk U) s.t) = qcL (msk (U.filter λz=>z.1.ix != y.1.ix)) s.t:=λv hv=>
     qly (λz=>by simp [List.mem_filter]) hy (λz hz he=>hi.uniq y hy z hz he) (λz hz aL=>hi.free y hy z hz aL) hv
    have next:∀{u:Value} {w':World} {G':qi},Ext n G w G' w'->Cfg P gl G' s.h (qcL (msk (U.filter λz=>z.1.ix != y.1.ix)) s.t) (a.put o.dst u) w'->
      (∀z ∈ U,z ≠ y->∀id,z.2 = some id->G.γ id = none->G'.γ id = none)->wpAnyIn (FR ro) m P .any ops Q fuel (listed.setIfInBounds y.1.ix true) (a.put o.dst u) w':=by
     intro u w' G' he aa bh
     obtain ⟨aP,bD⟩:=hi.caught Y hy ab aa bh
     refine ih _ _ _ _ _ _ _ _ _ _ hT aP hb hr ap (λt ht=>by have:=a8 t ht;omega) λe a' bd hf=>hQ _ _ _ ?_
     rw [qch] at hf
     exact Fin.of_ext (jm _) he hf
    have hold:∀{w':World} {G':qi},Ext s.h.length G w G' w'->∀z ∈ U,z ≠ y->∀id,z.2 = some id->G.γ id = none->G'.γ id = none:=by
     intro w' G' he z hz _ id hid hg
     cases ay:G'.γ id with
     | none=>rfl
     | some b=>
      rcases he.gn id b ay with h | ⟨h,_⟩
      ·rw [hg] at h;cases h
      ·have:=((hi.lag z hz).young id hid).2.1;omega
    rcases aB.does with ⟨d1,d2,d3⟩ | ⟨d1,v,d2,d3⟩
    ·obtain ⟨a1,I,a6⟩:=qbY hi.cfg.tr aH (hg.trans d1)
     rw [if_neg (by rw [a6];simp)]
     refine ⟨λ_ _=>trivial,?_⟩
     have:=qdk hi.cfg y.1.o.dst
     rw [az _ d3] at this
     exact next (Ext.refl n G w) (by rw [<-I];exact this) (λ_ _ _ _ _ h=>h)
    ·obtain ⟨a1,I,a6⟩:=qbY hi.cfg.tr aH (hg.trans d1)
     rw [if_pos a6]
     have plain:qA base call [] o.dst y.1.o.op ⟨qcL (msk U) s.t,s.h,s.e⟩ = some (.nor,⟨AE.put o.dst v (qcL (msk U) s.t),s.h,s.e⟩)->
       o.wpIn (FR ro) m P a w (wpAnyIn (FR ro) m P .any ops Q fuel (listed.setIfInBounds y.1.ix true)) Q:=by
      intro ak
      refine qgj ar hk hi.cfg qbs.nil a1 ak (λ_ u w' G' he a7 _ _ _=>?_) (λpv h=>by cases h)
      simp only [<-I] at a7
      rw [az v d2] at a7
      rw [I] at a7
      exact next (he.weaken hi.hlen) a7 (hold he)
     rcases d3 with ⟨e1,e2⟩ | ⟨e0,k,q,e1,e2,e3⟩ | ⟨e0,sh,z,ok,m,key,e1,e2,e3⟩ | ⟨id,cs,e1,e2,e3,e4,e5⟩
     ·exact plain (qqi (s:=⟨qcL (msk U) s.t,s.h,s.e⟩) (by rw [hl.pureV];exact e2))
     ·refine plain ?_
      have hq:ev (qcL (msk U) s.t) q = ev s.t q:=by rw [e1] at hl;exact qc6.ev hl
      simp only [e1,qA,hq,e3,jJ]
     ·refine plain ?_
      have bp:ev (qcL (msk U) s.t) m = ev s.t m:=by rw [e1] at hl;exact qc6.ev hl.left
      have bq:ev (qcL (msk U) s.t) key = ev s.t key:=by rw [e1] at hl;exact qc6.ev hl.right
      simp only [e1,qA,bp,bq,e3,jJ]
     ·obtain ⟨g1,g2,g3⟩:=aB.young id e1
      have b8:qvC (qcL (msk U) s.t) y.1.o.op cs:=by
       rcases e3 with e3 | ⟨k,q,f1,f2,f3⟩
       ·exact .inl e3
       ·have hq:ev (qcL (msk U) s.t) q = ev s.t q:=by rw [f1] at hl;exact qc6.ev hl
        exact .inr ⟨k,q,f1,by rw [hq];exact f2,f3⟩
      obtain ⟨u,w',h1,h2,h3⟩:=qw2 hi.cfg a1 b8 e5 g3 g1
      refine ⟨λ_ _=>trivial,?_⟩
      rw [Oper.semAt_eq _ _ _ (qfo a1),h1,Oper.uponIn_value]
      rw [<-I,<-e2,az v d2,I] at h3
      refine next h2 h3 λz hz aL bg bc ay=>?_
      simp only [qi.withBox]
      rw [if_neg]
      ·exact ay
      ·rintro rfl
       exact aL (hi.ids y hy z hz bg e1 bc)
   ·
    have act:∀(c':List qR) (E:List (List qR)),(∀t ∈ E,(d :: (c' ++ t)) ∈ tails.map (c ++ ·))->(∃t,t ∈ E)->(∀t ∈ E,qW base call dsts (d :: (c' ++ t)) pend s = some (x,s'))->ql1 xx (d :: pre) E->(∀t ∈ E,U.length + (c' ++ t).length <= fuel)->d.o.op.effs = true->
      (if Region.wanted o (yielded ops a.tmps) then o.wpIn (FR ro) m P a w (wpAnyIn (FR ro) m P .any ops Q fuel (listed.setIfInBounds d.ix true)) Q else (∀f,o.about P w a.eval = some f->(FR ro).fn f)/\wpAnyIn (FR ro) m P .any ops Q fuel (listed.setIfInBounds d.ix true) (a.put o.dst undef) w):=by
     intro c' E aJ b9 ac bA aR aC
     obtain ⟨t1,aI⟩:=b9
     have hr:=ac t1 aI
     obtain ⟨_,bo,_,_⟩:=qa1 (hi.ord _ (aJ t1 aI))
     have ba:∀x ∈ U,d.cl.testBit x.1.ix = false:=λx hx=>by
      cases hb:d.cl.testBit x.1.ix with
      | false=>rfl
      | true=>
       have h1:=hi.cl_listed Y hd ab hb
       rw [qdr (hi.l2 x hx)] at h1
       cases h1
     have b4:=λx hx=>qjl (qgK (bo _ (hi.inPre x hx)) (hi.lag x hx).quiet) (ba x hx)
     have af:∀k ∈ d.o.looks,k ∉ msk U:=λk aF au=>by
      obtain ⟨z,hz,ai⟩:=qeJ.1 au
      exact (b4 z hz).1 k ai aF
     have aT:∀k,d.o.dst = some k->k ∉ msk U:=λk am au=>by
      obtain ⟨z,hz,ai⟩:=qeJ.1 au
      exact ((b4 z hz).2 k am).2 ai
     obtain ⟨hg,hl⟩:=qam.want_looks (qgm (t:=s.t) af)
     have b7:∀k ∈ d.o.op.looks,k ∉ msk U:=λk aM=>af k (by unfold qam.looks;split <;> simp [aM])
     have next:∀{u:Value} {w':World} {G':qi} {s1:St} {ae:List (Nat×Chk)},Ext n G w G' w'->Inv P gl ops xx all n (listed.setIfInBounds d.ix true) (a.put o.dst u) G' w' (d :: pre) (E.map (c' ++ ·)) U ae s1->base <= s1.h.length->
       (∀t ∈ E,qW base call dsts (c' ++ t) ae s1 = some (x,s'))->wpAnyIn (FR ro) m P .any ops Q fuel (listed.setIfInBounds d.ix true) (a.put o.dst u) w':=by
      intro u w' G' s1 ae he aP bz bm
      obtain ⟨bC,bF,U2,pend2,s2,aN,bw,bk,aQ,bB,aW⟩:=ql6 c' (d :: pre) U ae s1 aP bz bm
      refine ih _ _ _ _ _ _ _ _ _ _ (bA.mono aW) aN bw bk aQ (λt ht=>by have:=aR t ht;simp only [List.length_append] at this ⊢;omega) λe a' bd hf=>hQ _ _ _ ?_
      rw [qch] at hf
      exact Fin.of_ext (jm _) he hf
     have aD:∀r ∈ E.map (c' ++ ·),(d :: r) ∈ tails.map (c ++ ·):=λr hr=>by
      obtain ⟨t,ht,rfl⟩:=jP.1 hr
      exact aJ t ht
     have aK:∃r,r ∈ E.map (c' ++ ·):=⟨_,jP.2 ⟨t1,aI,rfl⟩⟩
     simp only [qW,aC,if_true] at hr ac
     split at hr
     ·rename_i hw
      obtain ⟨a1,I,a6⟩:=qbY hi.cfg.tr aH (hg.trans hw)
      rw [if_pos a6]
      simp only [hw] at ac
      split at hr
      ·rename_i s1 hop
       simp only [hop] at ac
       split at hr
       ·rename_i aE
        simp only [aE,if_true] at ac
        have aY:=(qci (base:=base) hk hb hop).1
        have ak:qA base call [] o.dst d.o.op ⟨qcL (msk U) s.t,s.h,s.e⟩ = some (.nor,{ s1 with t:=qcL (msk U) s1.t}):=by
         have:=qjt (base:=base) (call:=call) (dst:=d.o.dst) (t:=s.t) (h:=s.h) (e:=s.e) aC b7 aT
         rw [<-I,this,hop]
         rfl
        refine qgj ar hk hi.cfg qbs.nil a1 ak (λ_ u w' G' he a7 _ _ _=>?_) (λpv h=>by cases h)
        refine next (he.weaken hi.hlen) (hi.acted Y aD aK ab (s1:=s1) a7 (λk am=>⟨((qip hop).2 k am).1,λaM=>((qip hop).2 k am).2 λav=>aM (by unfold qam.looks;split <;> simp [av])⟩) (λc hc bu _=>?_) aY (λid hid ay=>?_)) zo ac
        ·have hm:c ∈ pend.filter λc=>!d.cl.testBit c.1:=List.mem_filter.2 ⟨hc,by simp [bu]⟩
         exact ⟨hm,Chk.holds_of_ok (List.all_eq_true.1 aE c hm)⟩
        ·cases br:G'.γ id with
         | none=>rfl
         | some b=>
          rcases he.gn id b br with h | ⟨h,_⟩
          ·rw [ay] at h;cases h
          ·omega
       ·cases hr
      ·rename_i v s1 hop
       cases hr
       have ak:qA base call [] o.dst d.o.op ⟨qcL (msk U) s.t,s.h,s.e⟩ = some (.pan v,{ s1 with t:=qcL (msk U) s1.t}):=by
        have:=qjt (base:=base) (call:=call) (dst:=d.o.dst) (t:=s.t) (h:=s.h) (e:=s.e) aC b7 aT
        rw [<-I,this,hop]
        rfl
       refine qgj ar hk hi.cfg qbs.nil a1 ak (λh=>by cases h) (λpv bn u w' G' he a7 hv=>?_)
       cases bn
       refine hQ _ _ _ ⟨G',he.weaken hi.hlen,rfl,u,rfl,⟨a7.rel,a7.tr.poison (by rw [qcg,qcg]) λi y hy=>?_⟩,hv⟩
       simp only [qcH] at hy ⊢
       by_cases aO:dsts.contains i = true
       ·rw [Option.map_eq_some_iff] at hy
        obtain ⟨z,_,hz⟩:=hy
        rw [if_pos aO] at hz
        exact .inr hz.symm
       ·have aN:¬(msk U).contains i = true:=λe=>aO (by
         simp only [List.contains_iff_mem,qeJ] at e ⊢
         obtain ⟨z,h1,h2⟩:=e
         exact aZ z.1 ((hi.mem _ ad z.1).2 (.inl (hi.inPre z h1))) i h2)
        simp only [aO,aN,jl,if_false] at hy ⊢
        exact .inl hy
      ·cases hr
     ·rename_i hw
      obtain ⟨a1,I,a6⟩:=qbY hi.cfg.tr aH (hg.trans hw)
      simp only [hw] at ac
      rw [if_neg (by rw [a6];simp)]
      refine ⟨λ_ _=>trivial,?_⟩
      have a7:=qdk hi.cfg d.o.dst
      rw [qdg aT] at a7
      have bv:Cfg P gl G s.h (qcL (msk U) (AE.put d.o.dst (.tup []) s.t)) (a.put o.dst undef) w:=by rw [<-I];exact a7
      exact next (Ext.refl n G w) (hi.acted Y aD aK ab (s1:={ s with t:=AE.put d.o.dst (.tup []) s.t}) bv (λk am=>⟨by rw [qaW (put_get_ne am)],λ_=>put_get_ne am⟩)
       (λc hc _ hh=>⟨hc,hh⟩) (jm _) (λ_ _ h=>h)) hb ac
     ·cases hr
    have av:∀t ∈ tails,d ∈ c ++ t:=λt ht=>((hi.mem _ (halt t ht) d).1 hd).resolve_left h2
    cases c with
    | cons d0 c'=>
     have aG:=ap d0 c' rfl
     have bs:d = d0:=by
      rcases List.mem_cons.1 (av t0 aj) with h3 | h3
      ·exact h3
      ·have b5:=hT.forced hi aj h3
       simp only [qeg,aG,Bool.not_true,jL,jM,jk] at b5
       have h1:=hi.cl_listed Y hd ab b5.1.2
       rw [qdr (hi.l3 _ ad d0 (jE ..))] at h1
       cases h1
     subst bs
     exact act c' tails (λt ht=>halt t ht) ⟨t0,aj⟩ hr (hT.mono λ_ h=>jI _ h) (λt ht=>by have:=a8 t ht;simp only [jw,List.length_cons] at this;omega) aG
    | nil=>
     rcases hT with ⟨rfl,_⟩ | ⟨A,r1,B,r2,rfl,hA,hB,eA,eB,bl⟩
     ·have:=av [] (jE ..)
      cases this
     ·have mA:(A :: r1) ∈ [A :: r1,B :: r2]:=jE ..
      have mB:(B :: r2) ∈ [A :: r1,B :: r2]:=jI _ (jE ..)
      have caseA:d = A->_:=λe=>act r1 [[]] (λt ht=>by simp at ht;subst ht;subst e;simp) ⟨[],jE ..⟩ (λt ht=>by simp at ht;subst ht;subst e;simpa using hr _ mA) (.inl ⟨rfl,.inr ⟨d,jE ..,.inl (by rw [e];exact hA)⟩⟩) (λt ht=>by simp at ht;subst ht;have:=a8 _ mA;simp at this ⊢;omega) (by rw [e];exact eA)
      have b3:d = B->_:=λe=>act r2 [[]] (λt ht=>by simp at ht;subst ht;subst e;simp) ⟨[],jE ..⟩ (λt ht=>by simp at ht;subst ht;subst e;simpa using hr _ mB) (.inl ⟨rfl,.inr ⟨d,jE ..,.inr (by rw [e];exact hB)⟩⟩) (λt ht=>by simp at ht;subst ht;have:=a8 _ mB;simp at this ⊢;omega) (by rw [e];exact eB)
      rcases List.mem_cons.1 (av _ mA) with h3 | h3
      ·exact caseA h3
      ·have b0:B ∈ all:=(hi.mem _ (halt _ mB) B).2 (.inr (jE ..))
       rcases bl d h3 with h4 | h4 | h4
       ·exact b3 (Y.inj hd b0 h4)
       ·have h1:=hi.cl_listed Y hd ab h4
        rw [qdr (hi.l3 _ (halt _ mA) A (jE ..))] at h1
        cases h1
       ·have h1:=hi.cl_listed Y hd ab h4
        rw [qdr (hi.l3 _ (halt _ mB) B (jE ..))] at h1
        cases h1
end
section
variable {P:Program} {gl:Nat->Option (List qd)} {ops:Array Oper} {G G':qi} {w w':World} {h:List qj} {t:List qd} {a:Act} {n:Nat}
theorem qj2 {α β:Type} {f:α->Option β}:∀{l:List α} {r:List β},l.mapM f = some r->∀(i:Nat) (b:β),r[i]? = some b->∃x,l[i]? = some x/\f x = some b
 | [],r,h,i,b,hb=>by simp at h;subst h;simp at hb
 | x :: l,r,h,i,b,hb=>by
  simp only [List.mapM_cons,Option.pure_def,jA,Option.bind_eq_some_iff] at h
  obtain ⟨y,hy,ys,E,h⟩:=h
  cases h
  cases i with
  | zero=>simp at hb;subst hb;exact ⟨x,rfl,hy⟩
  | succ i=>simp at hb;simpa using qj2 E i b hb
theorem qeE:∀(l:List Oper) (k:Nat) (os:List qam),(∀j,l[j]? = ops[k + j]?)->l.mapM (qcj P gl ops) = some os->Lays P gl ops (List.range' k l.length) os
 | [],k,os,_,h=>by simp at h;subst h;trivial
 | x :: l,k,os,hl,h=>by
  simp only [List.mapM_cons,Option.pure_def,jA,Option.bind_eq_some_iff] at h
  obtain ⟨y,hy,ys,E,h⟩:=h
  cases h
  refine ⟨⟨x,by have:=hl 0;simpa using this.symm,hy⟩,?_⟩
  exact qeE l (k + 1) ys (λj=>by have:=hl (j + 1);simp at this;rw [this];congr 1;omega) E
theorem qpT {as:List qam} {cl l:List Nat} {d:qR} (h:d ∈ qt1 as cl l):∃i ao,as[i]? = some ao/\d = ⟨ao,i,cl.getD i 0⟩:=by
 simp only [qt1,List.mem_filterMap,Option.map_eq_some_iff] at h
 obtain ⟨i,_,ao,E,rfl⟩:=h
 exact ⟨i,ao,E,rfl⟩
theorem qBL {as:List qam} (has:ops.toList.mapM (qcj P gl ops) = some as) {cl:List Nat} {xx:Nat×Nat} {ds:List qR} (hm:∀d ∈ ds,∃i ao,as[i]? = some ao/\d = ⟨ao,i,cl.getD i 0⟩)
  (a6:∀i,i < ops.size->∃d ∈ ds,d.ix = i) (a1:∀d ∈ ds,d.cl = qw0 cl ((ops.toList.map qf2).getD d.ix [])) (E:qhj xx (ops.toList.map qf2) [] ds = true):qku P gl ops cl xx ds:=by
 refine ⟨λd hd=>?_,a6,E,qjk E⟩
 obtain ⟨i,ao,a7,rfl⟩:=hm d hd
 obtain ⟨o,ho,Y⟩:=qj2 has i ao a7
 have I:ops[i]? = some o:=by simpa using ho
 refine ⟨o,I,Y,rfl,?_⟩
 have:=a1 _ hd
 simp only at this
 rw [this,List.getD_eq_getElem?_getD,jr,ho]
 rfl
theorem qjO {ds:List qR} (h:qhm P gl ops = some ds):∃cl,qku P gl ops cl (0,0) ds:=by
 simp only [qhm,Option.pure_def,jA,Option.bind_eq_some_iff] at h
 obtain ⟨as,has,h⟩:=h
 split at h
 ·rename_i hc
  simp only [jk,List.all_eq_true,List.mem_range,List.any_eq_true,beq_iff_eq] at hc
  obtain ⟨⟨a1,Y⟩,I⟩:=hc
  have E:=Option.some.inj h
  rw [E] at a1 Y I
  exact ⟨qrq (ops.toList.map qf2),qBL has (λd hd=>qpT (by rw [E];exact hd)) a1 Y I⟩
 ·cases h
theorem Cfg.of_drew (hc:Cfg P gl G h t a w) (d:Nat):Cfg P gl G h t a { w with drawn:=d}:=⟨hc.rel.of_drew d,hc.tr.of_drew d⟩
theorem qku.len {cl:List Nat} {xx:Nat×Nat} {ds:List qR} (E:qku P gl ops cl xx ds):ds.length <= ops.size:=by
 have a6:(ds.map (·.ix)).Nodup:=by
  have key:∀(l pre:List qR),qhj xx (ops.toList.map qf2) pre l = true->(l.map (·.ix)).Nodup:=by
   intro l
   induction l with
   | nil=>intro _ _;simp
   | cons d l ih=>
    intro pre ho
    obtain ⟨_,_,_,h4⟩:=qa1 ho
    rw [List.map_cons,List.nodup_cons]
    refine ⟨λY=>?_,ih _ h4⟩
    obtain ⟨y,hy,a1⟩:=jP.1 Y
    exact qeL (qbV h4 (jE ..) y hy) a1.symm
  exact key ds [] E.order
 have I:∀i ∈ ds.map (·.ix),i ∈ List.range ops.size:=by
  intro i hi
  obtain ⟨d,hd,rfl⟩:=jP.1 hi
  obtain ⟨o,ho,_⟩:=E.comp d hd
  exact List.mem_range.2 (je.1 ho).1
 have a7:=a6.length_le_of_subset I
 simpa using a7
theorem qku.same {cl:List Nat} {xx:Nat×Nat} {ds es:List qR} (h1:qku P gl ops cl xx ds) (h2:qku P gl ops cl xx es) {d:qR} (hd:d ∈ ds):d ∈ es:=by
 obtain ⟨o,k1,k2,k3,_⟩:=h1.comp d hd
 obtain ⟨e,he,E⟩:=h2.cover d.ix (je.1 k1).1
 obtain ⟨o',l1,l2,l3,_⟩:=h2.comp e he
 rw [E,k1] at l1
 cases l1
 rw [k2] at l2
 obtain ⟨d1,d2,d3⟩:=d
 obtain ⟨e1,e2,e3⟩:=e
 simp only at E l2 l3 k3
 subst E
 cases l2
 rw [k3,<-l3]
 exact he
theorem qsH {cl:List Nat} {xx:Nat×Nat} {all:List qR} {alts:List (List qR)} {s:St} (I:qku P gl ops cl xx all) (E:∀ds ∈ alts,qku P gl ops cl xx ds) (Y:∃ds,ds ∈ alts) (hc:Cfg P gl G s.h s.t a w) :
  Inv P gl ops xx all s.h.length (Array.replicate ops.size false) a G w [] alts [] [] s:=by
 refine ⟨by rw [msk,List.filterMap_nil,qj4];exact hc,(λ_ h=>by cases h),(λ_ h=>by cases h),(λ_ h=>by cases h),(λ_ h=>by cases h),(λ_ h=>by cases h),λds hd=>(E ds hd).order,
  λds hd d=>⟨λh=>.inr (I.same (E ds hd) h),λh=>?_⟩,Y,(λ_ h=>by cases h),(λ_ h=>by cases h),λds a1 d hd=>?_,by simp,λd hd hl=>?_,jm _⟩
 ·rcases h with h | h
  ·cases h
  ·exact (E ds hd).same I h
 ·obtain ⟨o,ho,_⟩:=(E ds a1).comp d hd
  have:=(je.1 ho).1
  simp [this]
 ·have:=qsq hl
  simp at this
  simp [this] at hl
theorem qo1 (hm:P.follows .mixedOrders = true) {call:AE.Call} (Y:qcN P gl call) (hk:qP call) {ds:List qR} (I:qhm P gl ops = some ds) {base:Nat} {ro:Option Nat} {m:Nat} {s:St} {x:Ex} {s':St}
  (hc:Cfg P gl G s.h s.t a w) (hb:base <= s.h.length) (a6:qW base call (ds.filterMap (·.o.dst)) ds [] s = some (x,s')) {id:Nat}:(Code.region id ops true).wpIn (FR ro) m P (Fin P gl s.h.length G w a.defers x s') a w:=by
 obtain ⟨cl,E⟩:=qjO I
 refine wpIn_region_any hm ?_
 have a7:=hc.of_drew (w.drawn + 1)
 have hinv:Inv P gl ops (0,0) ds s.h.length (Array.replicate ops.size false) a G { w with drawn:=w.drawn + 1} [] ([[]].map (ds ++ ·)) [] [] s:=
  qsH E (λes a1=>by simp at a1;rw [a1];exact E) ⟨_,jE ..⟩ a7
 obtain ⟨pre,a8,U,pend,s1,h1,h2,h3,h4,h5,h6⟩:=ql6 (tails:=[[]]) ds [] [] [] s hinv hb (λt ht=>by simp at ht;subst ht;simpa using a6)
 refine qwe (λd hd k hk=>List.mem_filterMap.2 ⟨d,hd,hk⟩) Y hk E ops.size _ _ _ _ _ _ _ _ _ _ (.inl ⟨rfl,.inl rfl⟩) h1 h2 h3 h4 (λt ht=>?_) λe a' w' hf=>?_
 ·simp at ht
  subst ht
  have:=E.len
  simp at h5 ⊢
  omega
 ·exact Fin.of_ext (jm _) ((Ext.refl _ G w).drew _) hf
theorem Rel.putLoop (hr:Rel P gl G h w) {i b:Nat} (hi:G.γ i = some b) {t0:List qd} {a7:List Nat} {a1 I:qF} {a6:LSt} {E:Option qvz} (hx:h[i]? = some (.loop t0 a7 a1 I a6 E))
  {t:List qd} {ps:List Nat} {asg body:qF} {st:LSt} {pend:Option qvz} {L':Loop} (hL:qhC P gl G t ps asg body st pend L') :
  Rel P gl G (h.set i (.loop t ps asg body st pend)) (w.putObj b (.loop L')):=
 hr.putBox hi hx (by simp) (λc e Y=>by obtain ⟨L,h1,_⟩:=hr.box i b _ hi hx;rw [h1] at Y;cases Y) ⟨L',World.putObj_heap_same (hr.γlt i b hi).2,hL⟩
theorem qaJ.putLoop (hr:Rel P gl G h w) {ts:Array Value} (ht:qaJ G w t ts) {i b:Nat} (hi:G.γ i = some b) (o:Obj):qaJ G (w.putObj b o) t ts:=
 ⟨ht.rel,λj xs k v hx hv=>(ht.own j xs k v hx hv).keep (λ_ h=>h) (λy hy=>World.putObj_heap_other λe=>(hr.ow y _ hy).2 i (by rw [hi,e])) (λ_ _ _ h=>h)⟩
theorem Ext.putLoop (n:Nat) {i b:Nat} (hi:G.γ i = some b) {L L':Loop} (hL:w.heap[b]? = some (.loop L)) (he:L'.fn = L.fn/\L'.tmps = L.tmps/\L'.params = L.params/\L'.assign = L.assign/\L'.body = L.body/\L'.defers = L.defers) :
  Ext n G w G (w.putObj b (.loop L')):=by
 refine ⟨λ_ _ h=>h,λ_ _ h=>.inl h,λ_ _ _ h=>h,λ_ _ _ h=>.inl h,λ_ h=>.inl h,by simp,λb' _ hf=>World.putObj_heap_other (λe=>hf.1 i (by rw [hi,e])),λb' M hM=>?_,rfl,rfl,rfl⟩
 by_cases e:b' = b
 ·subst e
  rw [hL] at hM
  cases hM
  exact ⟨L',World.putObj_heap_same (je.1 hL).1,he⟩
 ·exact ⟨M,by rw [World.putObj_heap_other e];exact hM,rfl,rfl,rfl,rfl,rfl,rfl⟩
theorem Rel.putFar (hr:Rel P gl G h w) {r:Nat} {o:Obj} (hf:qdn G r) (hc:∀k,w.cell? ⟨r,k,none⟩ = none):Rel P gl G h (w.putObj r o):=by
 refine ⟨λj b' hj=>by simpa using hr.γlt j b' hj,hr.inj,λj b' bx hj hx=>?_,λb' k v hv hm=>?_,hr.immγ,λb' k hv=>?_,λb' ℓ I=>⟨by simpa using (hr.ow b' ℓ I).1,(hr.ow b' ℓ I).2⟩,hr.glob⟩
 ·have h0:=hr.box j b' bx hj hx
  obtain ⟨n,hn⟩:=qj.lower_ex bx
  exact h0.keep hn (λ_ _ _ h=>h) (λ_ _ _ h=>h) (World.putObj_heap_other λe'=>hf.1 j (by rw [hj,e'])) (λ_ _ h=>h)
   (λY o E=>World.putObj_heap_other λe'=>by rw [e',hf.2] at E;cases E) (λ_ _ _ _ h=>h)
 ·obtain ⟨h1,h2⟩:=hr.imm b' k v hv hm
  refine ⟨?_,by simpa using h2⟩
  rw [qbA (w:=w) (World.putObj_heap_other λe'=>?_)]
  ·exact h1
  ·subst e'
   rw [hc] at h1
   cases h1
 ·obtain ⟨h0,c,e,h1,h2⟩:=hr.immK b' k hv
  refine ⟨h0,c,e,?_,h2⟩
  rw [World.putObj_heap_other λe'=>?_]
  ·exact h1
  ·subst e'
   have:=hc 0
   simp only [World.cell?,h1] at this
   have h3:c[0]? = none:=this
   have:=Array.getElem?_eq_none_iff.1 h3
   omega
theorem qaJ.putFar {ts:Array Value} (ht:qaJ G w t ts) {r:Nat} {o:Obj} (hf:qdn G r):qaJ G (w.putObj r o) t ts:=
 ⟨ht.rel,λj xs k v hx hv=>(ht.own j xs k v hx hv).keep (λ_ h=>h) (λy hy=>World.putObj_heap_other λe=>by rw [e,hf.2] at hy;cases hy) (λ_ _ _ h=>h)⟩
theorem Ext.putFar {w0:World} {G0:qi} (he:Ext n G0 w0 G w) {r:Nat} (hr:w0.heap.size <= r) (o:Obj):Ext n G0 w0 G (w.putObj r o):=by
 refine ⟨he.gk,he.gn,he.ik,he.inew,he.on,by simpa using he.size,λb hb hf=>?_,λb L hL=>?_,he.os,he.tape,he.output⟩
 ·rw [World.putObj_heap_other zo]
  exact he.heap b hb hf
 ·obtain ⟨L',h1,h2⟩:=he.loops b L hL
  have hb:=(je.1 hL).1
  exact ⟨L',by rw [World.putObj_heap_other zo];exact h1,h2⟩
structure qiG (G:qi) (w:World) (lo:Nat) (ds:List Deferred):Prop where
 nodup:ds.Nodup
 all:∀d ∈ ds,∃r,d = { target:=.collected r,args:=#[]}/\lo <= r/\w.heap[r]? = some (.deferred (some []))/\qdn G r
theorem qdn.ext {r:Nat} (hf:qdn G r) (hr:r < w.heap.size) (he:Ext n G w G' w'):qdn G' r:=by
 refine ⟨λi hi=>?_,?_⟩
 ·rcases he.gn i r hi with h1 | ⟨_,h1 | ⟨j,h1⟩⟩
  ·exact hf.1 i h1
  ·omega
  ·exact hf.1 j h1
 ·cases ho:G'.ow r with
  | none=>rfl
  | some ℓ=>
   rcases he.on r (by simp [ho]) with h1 | h1
   ·exact absurd hf.2 h1
   ·omega
theorem qiG.ext {lo:Nat} {ds:List Deferred} (hm:qiG G w lo ds) (he:Ext n G w G' w'):qiG G' w' lo ds:=
 ⟨hm.nodup,λd hd=>by
  obtain ⟨r,h1,h2,h3,h4⟩:=hm.all d hd
  have hr:=(je.1 h3).1
  exact ⟨r,h1,h2,by rw [he.heap r hr h4];exact h3,h4.ext hr he⟩⟩
def qfm (G:qi) (w:World) (lo:Nat) (rf:Bool) (fx ds:List Deferred):Prop:=∃ms,ds = ms ++ fx/\qiG G w lo ms/\(rf = true->ms = [])
theorem qfm.ext {lo:Nat} {rf:Bool} {fx ds:List Deferred} (hm:qfm G w lo rf fx ds) (he:Ext n G w G' w'):qfm G' w' lo rf fx ds:=
 let ⟨ms,h1,h2,h3⟩:=hm
 ⟨ms,h1,h2.ext he,h3⟩
def qfy (ro:Option Nat) (w:World):Prop:=∀l,ro = some l->∃L,w.heap[l]? = some (.loop L)
theorem qfy.ext {ro:Option Nat} (hr:qfy ro w) (he:Ext n G w G' w'):qfy ro w':=λl hl=>by
 obtain ⟨L,h1⟩:=hr l hl
 obtain ⟨L',h2,_⟩:=he.loops l L h1
 exact ⟨L',h2⟩
def qot (P:Program) (gl:Nat->Option (List qd)) (n:Nat) (G:qi) (w:World) (lo:Nat) (rf:Bool) (fx:List Deferred) (x:Ex) (s':St) (e:Exit) (a':Act) (w':World):Prop:=
 ∃G',Ext n G w G' w'/\qfm G' w' lo rf fx a'.defers/\match x with
  | .nor=>e = .normal/\Cfg P gl G' s'.h s'.t a' w'
  | .exit id=>e = .exit id/\Cfg P gl G' s'.h s'.t a' w'
  | .ret=>e = .ret/\Cfg P gl G' s'.h s'.t a' w'
  | .pan pv=>∃v,e = .panic [{ v,recovered:=false}]/\Cfg P gl G' s'.h s'.t a' w'/\G'.V pv v
theorem Fin.to2 {lo:Nat} {rf:Bool} {fx ds:List Deferred} {x:Ex} {s':St} {e:Exit} {a':Act} (hm:qfm G w lo rf fx ds) (hf:Fin P gl n G w ds x s' e a' w'):qot P gl n G w lo rf fx x s' e a' w':=by
 obtain ⟨G',h1,h2,h3⟩:=hf
 exact ⟨G',h1,by rw [h2];exact hm.ext h1,h3⟩
theorem qot.of_ext {m lo:Nat} {rf:Bool} {fx:List Deferred} {x:Ex} {s':St} {e:Exit} {a':Act} {E:World} (I:n <= m) (he:Ext n G w G' w') (hf:qot P gl m G' w' lo rf fx x s' e a' E):qot P gl n G w lo rf fx x s' e a' E:=
 let ⟨G'',h1,h2⟩:=hf
 ⟨G'',he.trans I h1,h2⟩
end
section
variable {P:Program} {gl:Nat->Option (List qd)}
theorem qfj {w:World} {I:Nat} {E:Loop} (h:w.heap[I]? = some (.loop E)) (fn:FuncId) (tmps:Array Value) (ps:Array Tmp) (assign body:Code) :
  (Instr.enterLoop fn tmps ps assign body (some I)).run P w =
   .ok (w.heap.size,[]) (w.alloc (.loop { state:=.ready,pending:=none,fn,tmps,params:=ps,assign,body,defers:=E.defers})):=by
 unfold Instr.enterLoop
 simp only [Sem.run_bind,run_getLoop h,run_newObj_alloc,Result.andThen,Sem.run_pure]
theorem qmv {ro:Option Nat} {G:qi} {w:World} {h:List qj} {t:List qd} {a:Act} (hc:Cfg P gl G h t a w) (a7:qfy ro w) {lo:Nat} (aa:lo <= w.heap.size) {ms:List Deferred} (hm:qiG G w lo ms) (fn:FuncId) {ps:Array Tmp} {assign body:Code} {asg bd:qF}
  (ha:comp P gl assign = some asg) (hb:comp P gl body = some bd) :
  ∃l mark w1 G1,(Instr.enterLoop fn a.tmps ps assign body ro).run P w = .ok (l,mark) w1/\Ext h.length G w G1 w1/\Rel P gl G1 (h ++ [.loop (t.map qd.dim) ps.toList asg bd .ready none]) w1/\G1.γ h.length = some l/\G1.ow = G.ow/\w.heap.size <= l/\
   qiG G1 w1 lo (mark ++ ms)/\(∀d ∈ mark,∃r,d = { target:=.collected r,args:=#[]}/\w.heap.size <= r):=by
 have hi:G.γ h.length = none:=by
  cases hg:G.γ h.length with
  | none=>rfl
  | some b=>have:=(hc.rel.γlt _ b hg).1;omega
 have E:∀{w0:World} {L:Loop},Rel P gl G h w0->G.VL (t.map qd.dim) L.tmps.toList->L.params = ps->L.assign = assign->L.body = body->L.state = .ready->L.pending = none->
   Rel P gl (G.withBox h.length w0.heap.size) (h ++ [.loop (t.map qd.dim) ps.toList asg bd .ready none]) (w0.alloc (.loop L))/\Ext h.length G w0 (G.withBox h.length w0.heap.size) (w0.alloc (.loop L)):=by
  intro w0 L hr h1 h2 h3 h4 h5 h6
  have I:Ext h.length G w0 (G.withBox h.length w0.heap.size) (w0.alloc (.loop L)):=Ext.newBox hi (jm _) _
  refine ⟨hr.newBox (o:=.loop L) (bx:=.loop (t.map qd.dim) ps.toList asg bd .ready none) hi (by simp) (by simp) (λj hj b hb=>by rw [ja (hr.γlt j b hb).1]) (by simp) ⟨L,qaq w0 _,?_⟩,I⟩
  exact ⟨I.VL h1,λx hx=>by obtain ⟨y,_,rfl⟩:=jP.1 hx;exact qbf y,by rw [h2],by rw [h3];exact ha,by rw [h4];exact hb,by rw [h5];trivial,by rw [h6];trivial⟩
 cases ro with
 | none=>
  have a8:=hc.rel.alloc (.deferred (some []))
  obtain ⟨h1,h2⟩:=E (w0:=w.alloc (.deferred (some []))) (L:={ state:=.ready,pending:=none,fn,tmps:=a.tmps,params:=ps,assign,body,defers:=w.heap.size}) a8 hc.tr.rel.dims rfl rfl rfl rfl rfl
  have hE:Ext h.length G w (G.withBox h.length (w.alloc (.deferred (some []))).heap.size) ((w.alloc (.deferred (some []))).alloc (.loop { state:=.ready,pending:=none,fn,tmps:=a.tmps,params:=ps,assign,body,defers:=w.heap.size})):=
   (Ext.alloc h.length G w (.deferred (some []))).trans (jm _) h2
  have a6:qdn G w.heap.size:=⟨λi hi=>by have:=(hc.rel.γlt i _ hi).2;omega,by
   cases ho:G.ow w.heap.size with
   | none=>rfl
   | some ℓ=>have:=(hc.rel.ow _ _ ho).1;omega⟩
  refine ⟨_,_,_,_,run_enterLoop_outer fn a.tmps ps assign body,hE,h1,by simp [qi.withBox],rfl,zo,⟨?_,λd hd=>?_⟩,λd hd=>⟨w.heap.size,by simpa using hd,jm _⟩⟩
  ·rw [List.singleton_append,List.nodup_cons]
   refine ⟨λa1=>?_,hm.nodup⟩
   obtain ⟨r,h3,_,h5,_⟩:=hm.all _ a1
   have ac:=(je.1 h5).1
   injection h3 with h3
   injection h3 with h3
   omega
  ·rw [List.singleton_append] at hd
   rcases List.mem_cons.1 hd with rfl | hd
   ·refine ⟨w.heap.size,rfl,aa,?_,?_⟩
    ·rw [qad _ _ (by simp)]
     exact qaq w _
    ·exact a6.ext (w:=w.alloc (.deferred (some []))) (by simp) h2
   ·exact (hm.ext hE).all d hd
 | some Y=>
  obtain ⟨L0,ab⟩:=a7 Y rfl
  obtain ⟨h1,h2⟩:=E (w0:=w) (L:={ state:=.ready,pending:=none,fn,tmps:=a.tmps,params:=ps,assign,body,defers:=L0.defers}) hc.rel hc.tr.rel.dims rfl rfl rfl rfl rfl
  refine ⟨_,_,_,_,qfj ab fn a.tmps ps assign body,h2,h1,by simp [qi.withBox],rfl,jm _,?_,λ_ h=>by cases h⟩
  rw [List.nil_append]
  exact hm.ext h2
theorem qBK {st:LSt} {S:LoopState} (h:qnb st S) (hb:st ≠ .busy):S ≠ .busy:=by
 cases st <;> cases S <;> simp_all [qnb]
theorem qcb (aY:P.follows .mixedOrders = true) {call:AE.Call} (af:qcN P gl call) (hk:qP call) {N base lo:Nat} {rf:Bool} {fx:List Deferred} {ro:Option Nat} {m:Nat} :
  ∀(c:Code) (ac:qF),comp P gl c = some ac->(rf = true->ac.noRf = true)->∀(G:qi) (w:World) (s:St) (a:Act) (x:Ex) (s':St),Cfg P gl G s.h s.t a w->base <= s.h.length->qfy ro w->qfm G w lo rf fx a.defers->lo <= w.heap.size->
   qaV N base call ac s = some (x,s')->c.wpIn (FR ro) m P (qot P gl s.h.length G w lo rf fx x s') a w:=by
 intro c
 induction c with
 | skip=>
  intro ac E a7 G w s a x s' hc hb a1 hm a6 I
  simp only [comp] at E
  cases E
  simp only [qaV] at I
  cases I
  exact wpIn_skip ⟨G,Ext.refl _ G w,hm,rfl,hc⟩
 | region id ops draw=>
  intro ac E a7 G w s a x s' hc hb a1 hm a6 I
  cases draw with
  | false=>
   simp only [comp] at E
   obtain ⟨os,aT,rfl⟩:=qcn E
   simp only [qaV] at I
   have hl:=qeE ops.toList 0 os (by simp) aT
   rw [Array.length_toList,<-List.range_eq_range'] at hl
   exact wpIn_region (qtY af hk _ os hl G w s.h s.t s.e a [] hc qbs.nil hb I _ λe a' w' hf=>hf.to2 hm)
  | true=>
   simp only [comp] at E
   split at E
   ·rename_i ds aA
    cases E
    simp only [qaV] at I
    exact wpIn_mono (qo1 aY af hk aA hc hb I) λe a' w' hf=>hf.to2 hm
   ·cases E
 | seq c1 c2 al au=>
  intro ac E a7 G w s a x s' hc hb a1 hm a6 I
  simp only [comp] at E
  split at E
  ·rename_i b1 b2 e1 e2
   cases E
   simp only [qaV] at I
   split at I
   ·rename_i s1 h1
    have aa:=(qK (base:=base) hk N b1 s s1 _ hb h1).1
    refine wpIn_seq (wpIn_mono (al b1 e1 (λh=>by have:=a7 h;simp only [qF.noRf,jk] at this;exact this.1) G w s a _ s1 hc hb a1 hm a6 h1) λe a' w' hf=>?_)
    obtain ⟨G',g1,g2,rfl,g4⟩:=hf
    exact wpIn_mono (au b2 e2 (λh=>by have:=a7 h;simp only [qF.noRf,jk] at this;exact this.2) G' w' s1 a' x s' g4 (jn hb aa) (a1.ext g1) g2 (jn a6 g1.size) I) λe b8 aO hf=>hf.of_ext aa g1
   ·rename_i r h1
    refine wpIn_seq (wpIn_mono (al b1 e1 (λh=>by have:=a7 h;simp only [qF.noRf,jk] at this;exact this.1) G w s a x s' hc hb a1 hm a6 I) λe a' w' hf=>?_)
    obtain ⟨G',g1,g2,g3⟩:=hf
    cases x with
    | nor=>exact absurd I (h1 s')
    | exit id=>obtain ⟨rfl,g3⟩:=g3;exact ⟨G',g1,g2,rfl,g3⟩
    | ret=>obtain ⟨rfl,g3⟩:=g3;exact ⟨G',g1,g2,rfl,g3⟩
    | pan v=>obtain ⟨u,rfl,g3⟩:=g3;exact ⟨G',g1,g2,u,rfl,g3⟩
  ·cases E
 | cond o c1 c2 al au=>
  intro ac E a7 G w s a x s' hc hb a1 hm a6 I
  simp only [comp] at E
  split at E
  ·rename_i z b1 b2 ez e1 e2
   cases E
   have hv:=qai hc.rel hc.tr ez
   simp only [qaV] at I
   split at I
   ·rename_i hz
    rw [hz] at hv
    simp only [qi.V,qC] at hv
    exact wpIn_cond_true hv (al b1 e1 (λh=>by have:=a7 h;simp only [qF.noRf,jk] at this;exact this.1) G w s a x s' hc hb a1 hm a6 I)
   ·rename_i hz
    rw [hz] at hv
    simp only [qi.V,qC] at hv
    exact wpIn_cond_false hv (au b2 e2 (λh=>by have:=a7 h;simp only [qF.noRf,jk] at this;exact this.2) G w s a x s' hc hb a1 hm a6 I)
   ·cases I
  ·cases E
 | block id c ih=>
  intro ac E a7 G w s a x s' hc hb a1 hm a6 I
  simp only [comp] at E
  obtain ⟨b,ak,rfl⟩:=qcn E
  simp only [qaV] at I
  refine wpIn_block ?_
  split at I
  ·rename_i j s1 h1
   refine wpIn_mono (ih b ak (λh=>a7 h) G w s a _ s1 hc hb a1 hm a6 h1) λe a' w' hf=>?_
   obtain ⟨G',g1,g2,rfl,g4⟩:=hf
   simp only [Exit.inBlock]
   split at I
   ·rename_i hj
    cases I
    rw [if_pos hj]
    exact ⟨G',g1,g2,rfl,g4⟩
   ·rename_i hj
    cases I
    rw [if_neg hj]
    exact ⟨G',g1,g2,rfl,g4⟩
  ·rename_i r h1
   refine wpIn_mono (ih b ak (λh=>a7 h) G w s a x s' hc hb a1 hm a6 I) λe a' w' hf=>?_
   obtain ⟨G',g1,g2,g3⟩:=hf
   cases x with
   | nor=>obtain ⟨rfl,g3⟩:=g3;exact ⟨G',g1,g2,rfl,g3⟩
   | exit id=>exact absurd I (h1 id s')
   | ret=>obtain ⟨rfl,g3⟩:=g3;exact ⟨G',g1,g2,rfl,g3⟩
   | pan v=>obtain ⟨u,rfl,g3⟩:=g3;exact ⟨G',g1,g2,u,rfl,g3⟩
 | loop c ih=>
  intro ac E a7 G w s a x s' hc hb a1 hm a6 I
  simp only [comp] at E
  obtain ⟨b,ak,rfl⟩:=qcn E
  simp only [qaV] at I
  refine wpIn_loop_rounds N ?_
  have key:∀(k:Nat) (G:qi) (w:World) (s:St) (a:Act),Cfg P gl G s.h s.t a w->base <= s.h.length->qfy ro w->qfm G w lo rf fx a.defers->lo <= w.heap.size->iter (qaV N base call b) k s = some (x,s')->
    Code.roundsIn (FR ro) m P c (qot P gl s.h.length G w lo rf fx x s') k a w:=by
   intro k
   induction k with
   | zero=>intro G w s a _ _ _ _ _ hit;simp [iter] at hit
   | succ k ar=>
    intro G w s a hc hb a1 hm a6 hit
    rw [roundsIn_succ]
    simp only [iter] at hit
    split at hit
    ·rename_i s1 h1
     have aa:=(qK (base:=base) hk N b s s1 _ hb h1).1
     refine wpIn_mono (ih b ak (λh=>a7 h) G w s a _ s1 hc hb a1 hm a6 h1) λe a' w' hf=>?_
     obtain ⟨G',g1,g2,rfl,g4⟩:=hf
     have:=ar G' w' s1 a' g4 (jn hb aa) (a1.ext g1) g2 (jn a6 g1.size) hit
     have mono:∀(k:Nat) (Q Q':Exit->Act->World->Prop),(∀e a w,Q e a w->Q' e a w)->∀a w,Code.roundsIn (FR ro) m P c Q k a w->Code.roundsIn (FR ro) m P c Q' k a w:=by
      intro k Q Q' hq
      induction k with
      | zero=>exact λa w h=>h
      | succ k ar=>exact λa w h=>wpIn_mono h λe a w he=>by cases e <;> first | exact ar a w he | exact hq _ _ _ he
     exact mono k _ _ (λe b8 aO hf=>hf.of_ext aa g1) _ _ this
    ·rename_i r h1
     refine wpIn_mono (ih b ak (λh=>a7 h) G w s a x s' hc hb a1 hm a6 hit) λe a' w' hf=>?_
     obtain ⟨G',g1,g2,g3⟩:=hf
     cases x with
     | nor=>exact absurd hit (h1 s')
     | exit id=>obtain ⟨rfl,g3⟩:=g3;exact ⟨G',g1,g2,rfl,g3⟩
     | ret=>obtain ⟨rfl,g3⟩:=g3;exact ⟨G',g1,g2,rfl,g3⟩
     | pan v=>obtain ⟨u,rfl,g3⟩:=g3;exact ⟨G',g1,g2,u,rfl,g3⟩
  exact key N G w s a hc hb a1 hm a6 I
 | rangeFunc g ps assign body bi bh=>
  intro ac E a7 G w s a x s' hc hb a1 hm a6 I
  simp only [comp] at E
  split at E
  ·rename_i z asg bd ez ea eb
   cases E
   simp only [qaV] at I
   split at I
   ·rename_i g0 first cap hz
    obtain ⟨ms,aA,hm,ba⟩:=hm
    have a7:rf = false:=by
     cases rf with
     | false=>rfl
     | true=>have:=a7 rfl;simp [qF.noRf] at this
    refine wpIn_rangeFunc λfn _=>?_
    obtain ⟨aR,aX⟩:=hc.rel.cellsOnly
    have b6:Cfg P gl G s.h s.t a w:=hc
    have b5:Cfg P gl G.cellsOnly s.h (s.t.map qd.dim) a w:=⟨aR,⟨hc.tr.rel.dims,λi xs k v hx _=>(qlr hx).elim⟩⟩
    have b0:qiG G.cellsOnly w lo ms:=⟨hm.nodup,λd hd=>by
     obtain ⟨r,h1,h2,h3,h4⟩:=hm.all d hd
     exact ⟨r,h1,h2,h3,h4.1,by simp [qi.cellsOnly,h4.2]⟩⟩
    obtain ⟨l,mark,w1,G1,e1,e2,e3,e4,e5,e6,e7,e8⟩:=qmv b5 a1 a6 b0 fn (ps:=ps) ea eb
    have aZ:(s.t.map qd.dim).map qd.dim = s.t.map qd.dim:=by rw [jG];exact List.map_congr_left λy _=>qbf y
    rw [aZ] at e3
    have aW:qes G1:=λb i=>by rw [e5];exact aX b i
    have aH:G1.V (.fn g0 first cap) (a.eval g):=by
     have:=qai hc.rel hc.tr ez
     rw [hz] at this
     exact e2.V this
    have b7:G1.VL [.yld s.h.length] (#[.func (.yield l) #[] #[]]:Array Value).toList:=by
     simp only [qi.VL,qp,qC]
     exact ⟨_,_,rfl,⟨l,e4,rfl⟩,rfl⟩
    have aE:(s.h ++ [qj.loop (s.t.map qd.dim) ps.toList asg bd .ready none]).length = s.h.length + 1:=by simp
    have after:∀{G2:qi} {w3:World} {h3:List qj} {n2:Nat},Ext s.h.length G.cellsOnly w G2 w3->Ext n2 G1 w1 G2 w3->Rel P gl G2 h3 w3->
      Ext s.h.length G w (G2.with G) w3/\Rel P gl (G2.with G) h3 w3/\qaJ (G2.with G) w3 s.t a.tmps/\qfm (G2.with G) w3 lo rf fx (mark ++ a.defers):=by
     intro G2 w3 h3 n2 x1 x2 x3
     obtain ⟨b1,b2,b3⟩:=qfU b6 x1 x3
     refine ⟨b1,b2,b3,mark ++ ms,by rw [aA,List.append_assoc],?_,λh=>by rw [a7] at h;cases h⟩
     have h5:=e7.ext x2
     refine ⟨h5.nodup,λd hd=>?_⟩
     obtain ⟨r,g1,g2,g3,g4⟩:=h5.all d hd
     refine ⟨r,g1,g2,g3,g4.1,?_⟩
     cases hgo:G.ow r with
     | none=>simp [qi.with,hgo,g4.2]
     | some ℓ=>
      cases ℓ with
      | cell i o=>simp [qi.with,hgo,g4.2]
      | tmp i=>
       exfalso
       have bj:=(hc.rel.ow r _ hgo).1
       rcases jH.1 hd with hd | hd
       ·obtain ⟨r',q1,q2⟩:=e8 d hd
        rw [g1] at q1
        injection q1 with q1
        injection q1 with q1
        omega
       ·obtain ⟨r',q1,q2,q3,q4⟩:=hm.all d hd
        rw [g1] at q1
        injection q1 with q1
        injection q1 with q1
        rw [q1,q4.2] at hgo
        cases hgo
    have back:∀{r:qdm} {h':List qj} {e':Bool},call (.fn g0 first cap) [.yld s.h.length] (s.h ++ [.loop (s.t.map qd.dim) ps.toList asg bd .ready none]) = some (r,h',e')->
      (∀w3 v,qnh P gl (s.h.length + 1) G1 w1 r h' (.returned v) w3->rangePost (FR ro) m P l (qot P gl s.h.length G w lo rf fx x s') { a with defers:=mark ++ a.defers} (.returned v) w3)->
      (∀w3 ch,qnh P gl (s.h.length + 1) G1 w1 r h' (.panicked ch) w3->rangePost (FR ro) m P l (qot P gl s.h.length G w lo rf fx x s') { a with defers:=mark ++ a.defers} (.panicked ch) w3)->
      ∃(l:Nat) (mark:List Deferred) (ap:World) (d:Deferred) (ab:World) (f:FuncId) (args:Array Value) (am:World),
       (Instr.enterLoop fn a.tmps ps assign body (FR ro).round).run P w = .ok (l,mark) ap/\
       (resolve a.eval (rangeCall g l) 0).run P ap = .ok d ab/\
       (∀f',Target.leads P ab d.target d.args = some f'->(FR ro).fn f')/\
       (invoke d.target d.args).run P ab = .ok (.enter f args) am/\
       ((FR ro).depth.isSome = true->1 <= m)/\
       CallsIn (FR ro) (m - 1) P f args am (rangePost (FR ro) m P l (qot P gl s.h.length G w lo rf fx x s') { a with defers:=mark ++ a.defers}):=by
     intro r h' e' aj aK aL
     rcases af _ _ _ _ _ _ aj G1 w1 (a.eval g) #[.func (.yield l) #[] #[]] e3 aW aH b7 with ⟨f,as,h1,h2⟩ | ⟨i,b,f,tmps,bb,b9,aQ,_⟩ | ⟨v,w',aV,_⟩
     ·have az:=aH
      simp only [qi.V,qC] at az
      obtain ⟨xs,ys,b4,_,_⟩:=az
      have av:(Deferred.ofValue (a.eval g) #[.func (.yield l) #[] #[]]).run P w1 = .ok { target:=.fn (.func g0) ys,args:=xs ++ #[.func (.yield l) #[] #[]]} w1:=by rw [b4];rfl
      have hinv:(invoke (.fn (.func g0) ys) (xs ++ #[.func (.yield l) #[] #[]])).run P w1 = .ok (.enter f as) w1:=by
       have:=h1
       simp only [qgw,Sem.run_bind,av,Result.andThen] at this
       exact this
      refine ⟨l,mark,w1,{ target:=.fn (.func g0) ys,args:=xs ++ #[.func (.yield l) #[] #[]]},w1,f,as,w1,e1,?_,λ_ _=>trivial,hinv,qhl,?_⟩
      ·simp only [resolve,List.map_toArray,List.map_cons,List.map_nil]
       exact av
      ·refine CallsIn.mono (h2 ro (m - 1)) λe w3 a8=>?_
       rw [aE] at a8
       cases e with
       | returned v=>exact aK w3 v a8
       | panicked ch=>exact aL w3 ch a8
       | outgrown=>exact a8.elim
     ·cases aQ
     ·exact absurd rfl (aV s.h.length)
    split at I
    ·rename_i rv h' e' aj
     refine back aj (λw3 v a8=>?_) (λw3 ch a8=>?_)
     ·obtain ⟨aP,G2,aG,k1,k2,k3,k4⟩:=a8
      have ad:=k1.gk _ _ e4
      split at I
      ·rename_i t2 ps2 asg2 aJ st2 pend2 aI
       split at I
       ·cases I
       ·rename_i aU
        obtain ⟨L2,aC,aB⟩:=k2.box _ _ _ ad aI
        have Y:=aB.pend
        have aM:=run_endLoop (P:=P) aC (qBK aB.st aU)
        have aN:qhC P gl G2 t2 ps2 asg2 aJ .exhausted pend2 { L2 with state:=.exhausted}:={ aB with st:=trivial}
        have aD:=k2.putLoop ad aI aN
        have aF:Ext s.h.length G.cellsOnly w G2 (w3.putObj l (.loop { L2 with state:=.exhausted})):=
         (e2.trans (Nat.le_succ _) k1).trans (jm _) (Ext.putLoop _ ad aC ⟨rfl,rfl,rfl,rfl,rfl,rfl⟩)
        obtain ⟨b1,b2,b3,ai⟩:=after aF (k1.trans (jm _) (Ext.putLoop _ ad aC ⟨rfl,rfl,rfl,rfl,rfl,rfl⟩)) aD
        have ae:Cfg P gl (G2.with G) (h'.set s.h.length (.loop t2 ps2 asg2 aJ .exhausted pend2)) s.t { a with defers:=mark ++ a.defers} (w3.putObj l (.loop { L2 with state:=.exhausted})):=⟨b2,b3⟩
        suffices hs:∀j,j = L2.pending->(match j with
          | none=>qot P gl s.h.length G w lo rf fx x s' .normal { a with defers:=mark ++ a.defers} (w3.putObj l (.loop { L2 with state:=.exhausted}))
          | some c=>c.wpIn (FR ro) m P (qot P gl s.h.length G w lo rf fx x s') { a with defers:=mark ++ a.defers} (w3.putObj l (.loop { L2 with state:=.exhausted}))) from ⟨_,_,aM,hs _ rfl⟩
        intro j hj
        cases hp:pend2 with
        | none=>
         rw [hp] at I Y
         simp only at I
         cases I
         have:L2.pending = none:=by cases hq:L2.pending <;> rw [hq] at Y <;> first | rfl | exact Y.elim
         cases hj.trans this
         exact ⟨_,b1,ai,rfl,by rw [<-hp];exact ae⟩
        | some j2=>
         rw [hp] at I Y
         cases j2 with
         | ret=>
          simp only at I
          cases I
          have:L2.pending = some .ret:=by
           cases hq:L2.pending with
           | none=>rw [hq] at Y;exact Y.elim
           | some c=>rw [hq] at Y;cases c <;> first | rfl | exact Y.elim
          cases hj.trans this
          exact wpIn_ret ⟨_,b1,ai,rfl,by rw [<-hp];exact ae⟩
         | exit id=>
          simp only at I
          cases I
          have:L2.pending = some (.exit id):=by
           cases hq:L2.pending with
           | none=>rw [hq] at Y;exact Y.elim
           | some c=>
            rw [hq] at Y
            cases c <;> first | (simp only [qmW] at Y;rw [Y];done) | exact Y.elim
          cases hj.trans this
          exact wpIn_exit ⟨_,b1,ai,rfl,by rw [<-hp];exact ae⟩
      ·cases I
     ·obtain ⟨pv,v,G2,ay,_⟩:=a8
      cases ay
    ·rename_i pv h' e' aj
     cases I
     refine back aj (λw3 v a8=>?_) (λw3 ch a8=>?_)
     ·obtain ⟨aP,G2,aG,_⟩:=a8
      cases aG
     ·obtain ⟨bg,v,G2,ay,rfl,k1,k2,k3,k4⟩:=a8
      cases ay
      obtain ⟨b1,b2,b3,ai⟩:=after (e2.trans (Nat.le_succ _) k1) k1 k2
      exact ⟨_,b1,ai,v,rfl,⟨b2,b3⟩,k4⟩
    ·cases I
   ·cases I
  ·cases E
 | exit id=>
  intro ac E a7 G w s a x s' hc hb a1 hm a6 I
  simp only [comp] at E
  cases E
  simp only [qaV] at I
  cases I
  exact wpIn_exit ⟨G,Ext.refl _ G w,hm,rfl,hc⟩
 | scope c ih=>intro ac E;simp [comp] at E
 | label l=>intro ac E;simp [comp] at E
 | goto l=>intro ac E;simp [comp] at E
 | ret=>
  intro ac E a7 G w s a x s' hc hb a1 hm a6 I
  simp only [comp] at E
  cases E
  simp only [qaV] at I
  cases I
  exact wpIn_ret ⟨G,Ext.refl _ G w,hm,rfl,hc⟩
 | refuse bc=>intro ac E;simp [comp] at E
end
section
variable {P:Program} {gl:Nat->Option (List qd)} {G G' G0:qi} {w w' w0:World} {h:List qj} {t:List qd} {ts:Array Value} {n:Nat}
mutual
theorem qeu {γ:Nat->Option Nat} {imm:Nat->Nat->Option Value} {n:Nat} (E:∀i b,γ i = some b->i < n):∀(a:qd) (v:Value),qC γ imm a v->a.lower n = true
 | .undef,_,_=>rfl
 | .bool _,_,_=>rfl
 | .int _ _,_,_=>rfl
 | .str _,_,_=>rfl
 | .nilptr,_,_=>rfl
 | .ptr i o,v,h=>by simp only [qC] at h;obtain ⟨b,hb,_⟩:=h;simpa [qd.lower] using E i b hb
 | .iptr cs o,v,h=>by simp only [qC] at h;obtain ⟨b,p,_,hc⟩:=h;simp only [qd.lower];exact qjF E cs b p hc
 | .lst xs f,v,h=>by
  simp only [qC] at h
  obtain ⟨a,len,cap,_,_,_,_,_,_,h5⟩:=h
  simp only [qd.lower]
  rcases h5 with rfl | ⟨b,p,_,he⟩
  ·rfl
  ·exact qnj E xs b p he
 | .nilfunc,_,_=>rfl
 | .fn f as bs,v,h=>by
  simp only [qC] at h
  obtain ⟨x,y,_,h1,h2⟩:=h
  simp only [qd.lower,jk]
  exact ⟨qc7 E as _ h1,qc7 E bs _ h2⟩
 | .yld i,v,h=>by simp only [qC] at h;obtain ⟨b,hb,_⟩:=h;simpa [qd.lower] using E i b hb
 | .niliface,_,_=>rfl
 | .iface t a,v,h=>by simp only [qC] at h;obtain ⟨x,_,h1⟩:=h;simp only [qd.lower];exact qeu E a x h1
 | .agg cs,v,h=>by simp only [qC] at h;obtain ⟨x,_,h1⟩:=h;simp only [qd.lower];exact qc7 E cs _ h1
 | .tup cs,v,h=>by simp only [qC] at h;obtain ⟨x,_,h1⟩:=h;simp only [qd.lower];exact qc7 E cs _ h1
 | .sl i _ _ _ _,v,h=>by simp only [qC] at h;obtain ⟨b,c,hb,_⟩:=h;simpa [qd.lower] using E i b hb
 | .mp i,v,h=>by simp only [qC] at h;obtain ⟨b,hb,_⟩:=h;simpa [qd.lower] using E i b hb
 | .nilmap,_,_=>rfl
 | .nils,_,_=>rfl
 | .empt,_,_=>rfl
theorem qc7 {γ:Nat->Option Nat} {imm:Nat->Nat->Option Value} {n:Nat} (E:∀i b,γ i = some b->i < n):∀(as:List qd) (vs:List Value),qp γ imm as vs->qw n as = true
 | [],_,_=>rfl
 | a :: as,vs,h=>by
  simp only [qp] at h
  obtain ⟨v,rest,_,h1,h2⟩:=h
  simp only [qw,jk]
  exact ⟨qeu E a v h1,qc7 E as rest h2⟩
theorem qjF {γ:Nat->Option Nat} {imm:Nat->Nat->Option Value} {n:Nat} (E:∀i b,γ i = some b->i < n):∀(cs:List qd) (b p:Nat),qaw γ imm cs b p->qw n cs = true
 | [],_,_,_=>rfl
 | c :: cs,b,p,h=>by
  simp only [qaw] at h
  obtain ⟨⟨v,_,h1⟩,h2⟩:=h
  simp only [qw,jk]
  exact ⟨qeu E c v h1,qjF E cs b (p + 1) h2⟩
theorem qnj {γ:Nat->Option Nat} {imm:Nat->Nat->Option Value} {n:Nat} (E:∀i b,γ i = some b->i < n):∀(xs:List qd) (b p:Nat),qQ γ imm xs b p->qw n xs = true
 | [],_,_,_=>rfl
 | x :: xs,b,p,h=>by
  obtain ⟨h1,h2⟩:=h.uncons
  simp only [qw,jk]
  refine ⟨?_,qnj E xs b _ h2⟩
  cases x with
  | agg cs=>simp only [qd.cells] at h1;simp only [qd.lower];exact qjF E cs b p h1
  | _=>
   simp only [qd.cells,qaw] at h1
   obtain ⟨⟨v,_,h3⟩,_⟩:=h1
   exact qeu E _ v h3
end
theorem qqL {n:Nat} (E:∀i b,G.γ i = some b->i < n):∀(es:List (Nat×qd×qd)) (me:List MapEntry),qah G es me->qbb n es = true
 | [],_,_=>rfl
 | x :: xs,me,h=>by
  simp only [qah] at h
  obtain ⟨e,rest,_,_,h2,h3,h4⟩:=h
  simp only [qbb,jk]
  exact ⟨⟨qeu E _ _ h2,qeu E _ _ h3⟩,qqL E xs rest h4⟩
theorem qrb (hr:Rel P gl G h w) {i b:Nat} {bx:qj} (hi:G.γ i = some b) (hx:h[i]? = some bx):bx.lower h.length = true:=by
 have E:∀i b,G.γ i = some b->i < h.length:=λi b hb=>(hr.γlt i b hb).1
 have h0:=hr.box i b bx hi hx
 cases bx with
 | cells cs=>obtain ⟨c,e,_,h1,_⟩:=h0;exact qc7 E cs _ h1
 | loop t ps asg body st pend=>obtain ⟨L,_,h1⟩:=h0;exact qc7 E t _ h1.tmps
 | map es _=>obtain ⟨me,_,h1⟩:=h0;exact qqL E es _ h1
 | iter m _ _ _=>obtain ⟨mm,_,h1⟩:=h0;exact qeu E m _ h1
 | bld _ _ _=>rfl
 | dead=>rfl
def qi.below (G:qi) (n:Nat):qi:={ G with γ:=λi=>if i < n then G.γ i else none}
theorem qdM {n i b:Nat} (h:(G.below n).γ i = some b):i < n/\G.γ i = some b:=by
 simp only [qi.below] at h
 split at h
 ·exact ⟨‹_›,h⟩
 ·cases h
theorem qzJ {n:Nat} {a:qd} {v:Value} (hl:a.lower n = true) (hv:G.V a v):(G.below n).V a v:=
 qC.mono (λ_ _ _ h=>h) n (λi b hi hb=>by simp [qi.below,hi,hb]) a v hl hv
theorem left (Y:Rel P gl G0 h w0) {h':List qj} (he:Ext h.length G0 w0 G w) (hr:Rel P gl G h' w) (a1:h.length <= h'.length) (E:∀i b bx,G0.γ i = some b->h'[i]? = some bx->bx.lower h.length = true):Ext h.length G0 w0 (G.below h.length) w/\Rel P gl (G.below h.length) (h'.take h.length) w:=by
 have I:(h'.take h.length).length = h.length:=by simp [a1]
 refine ⟨⟨λi b hi=>?_,λi b hi=>?_,he.ik,he.inew,he.on,he.size,he.heap,he.loops,he.os,he.tape,he.output⟩,⟨λi b hi=>?_,λi j b hi hj=>?_,λi b bx hi hx=>?_,hr.imm,λb o v i hv hm hi=>?_,hr.immK,λb ℓ hb=>⟨(hr.ow b ℓ hb).1,λi hi=>?_⟩,λg cs hg=>?_⟩⟩
 ·simp [qi.below,(Y.γlt i b hi).1,he.gk i b hi]
 ·obtain ⟨h1,h2⟩:=qdM hi
  rcases he.gn i b h2 with h3 | ⟨h3,_⟩
  ·exact .inl h3
  ·omega
 ·obtain ⟨h1,h2⟩:=qdM hi
  exact ⟨by rw [I];exact h1,(hr.γlt i b h2).2⟩
 ·rw [List.getElem?_take_of_lt (qdM hi).1,List.getElem?_take_of_lt (qdM hj).1]
  exact hr.inj i j b (qdM hi).2 (qdM hj).2
 ·obtain ⟨h1,h2⟩:=qdM hi
  rw [List.getElem?_take_of_lt h1] at hx
  have a6:G0.γ i = some b:=by
   rcases he.gn i b h2 with h3 | ⟨h3,_⟩
   ·exact h3
   ·omega
  exact (hr.box i b bx h2 hx).keep (E i b bx a6 hx) (λ_ _ _ h=>h) (λj c hj hc=>by simp [qi.below,hj,hc]) rfl (λ_ _ h=>h) (λ_ _ _=>rfl) (λ_ _ _ _ h=>h)
 ·obtain ⟨h1,h2⟩:=qdM hi
  rw [List.getElem?_take_of_lt h1]
  exact hr.immγ b o v i hv hm h2
 ·exact (hr.ow b ℓ hb).2 i (qdM hi).2
 ·obtain ⟨h1,h2⟩:=hr.glob g cs hg
  exact ⟨qeb.mono (λ_ _ _ h=>h) cs g h2 h1,h2⟩
theorem qD6 (hn:qes G) (k:Nat):qes (G.below k):=hn
theorem qce (I:Rel P gl G0 h w0) {s:St} (he:Ext h.length G0 w0 G w) (hr:Rel P gl G s.h w) (hk:h.length <= s.h.length/\(s.e = false->qae h.length h s.h)) {r0 r:qdm} {h':List qj} {e':Bool}
  (hl:leave h.length r0 s.h s.e = (r,h',e')):r = r0/\∃G',Ext h.length G0 w0 G' w/\Rel P gl G' h' w/\qes G'/\(∀a v,(r0 = .ret a\/r0 = .pan a)->G.V a v->G'.V a v):=by
 obtain ⟨a6,a1⟩:=hr.cellsOnly
 have Y:Ext h.length G0 w0 G.cellsOnly w:=⟨he.gk,he.gn,he.ik,he.inew,λb hb=>he.on b λe=>hb (by simp [qi.cellsOnly,e]),he.size,he.heap,he.loops,he.os,he.tape,he.output⟩
 cases r0 <;> unfold leave at hl <;> simp only at hl <;> split at hl
 all_goals first
  | (rename_i E
     simp only [jk,Bool.or_eq_true,Bool.not_eq_true'] at E
     cases hl
     obtain ⟨k1,k2⟩:=left I Y a6 hk.1 (λi b bx hi hx=>by
      have h1:=(I.γlt i b hi).1
      rcases E.1 with a8 | a7
      ·obtain ⟨aa,h3,h4⟩:=(hk.2 a8).2 i h.length h[i] h1 (jm _) (jh h1) (qrb I hi (jh h1))
       rw [hx] at h3
       cases h3
       exact h4
      ·simp only [beq_iff_eq] at a7
       omega)
     refine ⟨rfl,_,k1,k2,qD6 a1 _,λa v ha hv=>qzJ (G:=G.cellsOnly) ?_ hv⟩
     rcases ha with ha | ha <;> cases ha <;> exact E.2)
  | (cases hl
     exact ⟨rfl,_,Y,a6,a1,λa v _ hv=>hv⟩)
def qEy (tmps:Array Value):ResultVar->Sem Value
 | .tmp t=>pure (tmps.getD t undef)
 | .cell a t=>do loadVar t (<-asAddr (tmps.getD a undef))
theorem qqf (fn:Func) (tmps:Array Value):results fn tmps = (do
  let vs <-fn.results.mapM (qEy tmps)
  pure (if h:vs.size = 1 then vs[0] else .tuple vs)):=rfl
theorem qeN {s:St} {a:Act} (hc:Cfg P gl G s.h s.t a w):∀(l:List ResultVar) (rs:List qnf) (vs:List qd),l.mapM (qfC P) = some rs->qat s rs = some vs->
  ∃us:List Value,(l.mapM (qEy a.tmps)).run P w = .ok us w/\G.VL vs us
 | [],rs,vs,h,hv=>by simp at h;subst h;simp only [qat] at hv;cases hv;exact ⟨[],by simp,by simp [qi.VL,qp]⟩
 | x :: l,rs,vs,h,hv=>by
  simp only [List.mapM_cons,Option.pure_def,jA,Option.bind_eq_some_iff] at h
  obtain ⟨y,hy,ys,a1,h⟩:=h
  cases h
  cases x with
  | tmp i=>
   simp only [qfC,jj] at hy
   subst hy
   simp only [qat] at hv
   split at hv
   ·rename_i Y I
    cases hv
    obtain ⟨us,h1,h2⟩:=qeN hc l ys Y a1 I
    refine ⟨a.tmps.getD i undef :: us,?_,by simp only [qi.VL,qp];exact ⟨_,us,rfl,qcx (hc.tr.get i),h2⟩⟩
    rw [List.mapM_cons]
    simp only [qEy,Sem.run_bind,Sem.run_pure,Result.andThen_ok]
    rw [h1]
    rfl
   ·cases hv
  | cell i ty=>
   simp only [qfC,Option.map_eq_some_iff] at hy
   obtain ⟨k,hk,rfl⟩:=hy
   simp only [qat] at hv
   split at hv
   ·rename_i v Y E I
    cases hv
    obtain ⟨us,h1,h2⟩:=qeN hc l ys Y a1 I
    have hp:=hc.tr.get i
    obtain ⟨u,h3,h4,_⟩:=qs6 hc.rel hk hp E
    have a6:∃ad,a.tmps.getD i undef = .pointer (some ad):=by
     revert hp
     revert E
     generalize s.t.getD i .undef = p
     intro E hp
     cases p <;> simp only [qel] at E <;> first | (cases E;done) | skip
     ·simp only [qi.V,qC] at hp;obtain ⟨b,_,e⟩:=hp;exact ⟨_,e⟩
     ·simp only [qi.V,qC] at hp;obtain ⟨b,p,e,_⟩:=hp;exact ⟨_,e⟩
    obtain ⟨ad,a7⟩:=a6
    refine ⟨u :: us,?_,by simp only [qi.VL,qp];exact ⟨_,us,rfl,h4,h2⟩⟩
    rw [List.mapM_cons]
    have h5:(qEy a.tmps (.cell i ty)).run P w = .ok u w:=by
     simp only [qEy]
     rw [a7] at h3 ⊢
     exact h3
    rw [Sem.run_bind,h5,Result.andThen_ok,Sem.run_bind,h1]
    rfl
   ·cases hv
theorem qd6 {s:St} {a:Act} (hc:Cfg P gl G s.h s.t a w) {fn:Func} {rs:List qnf} {vs:List qd} (h1:fn.results.toList.mapM (qfC P) = some rs) (h2:qat s rs = some vs) :
  ∃u,(results fn a.tmps).run P w = .ok u w/\G.V (qbv vs) u:=by
 obtain ⟨us,h3,h4⟩:=qeN hc _ rs vs h1 h2
 have I:=h4.length
 have E:(results fn a.tmps).run P w = .ok (if h:us.toArray.size = 1 then us.toArray[0] else .tuple us.toArray) w:=by
  rw [qqf,Array.mapM_eq_mapM_toList]
  simp only [Sem.run_bind,map_eq_pure_bind]
  rw [h3]
  rfl
 refine ⟨_,E,?_⟩
 match vs,us,h4,I with
 | [],[],h4,_=>simp [qbv,qi.V,qC,qp]
 | [v],[u],h4,_=>
  simp only [qi.VL,qp] at h4
  obtain ⟨_,_,e,h5,_⟩:=h4
  cases e
  simpa [qbv] using h5
 | v :: v' :: vs,u :: u' :: us,h4,_=>
  simp only [qbv,qi.V,qC]
  refine ⟨_,?_,h4⟩
  simp
theorem qeF {fn:Func} {a:Act} {R:Ending->World->Prop} {F:Fence} {m:Nat} {u:FrameMode} (hu:u ≠ .run):∀(ds:List Deferred) (w':World),qiG G' w' w0.heap.size ds->Ext n G0 w0 G' w'->Rel P gl G' h w'->qaJ G' w' t a.tmps->
  (∀E,Ext n G0 w0 G' E->Rel P gl G' h E->qaJ G' E t a.tmps->LeavesIn F m P fn a.tmps R [] u E)->LeavesInM F m P fn a.tmps R ds u w'
 | [],w',_,he,hr,ht,hR=>hR w' he hr ht
 | d :: ds,w',hm,he,hr,ht,hR=>by
  obtain ⟨r,rfl,h1,h2,h3⟩:=hm.all d (jE ..)
  refine ⟨hu,.inl ⟨r,w'.putObj r (.deferred none),rfl,run_takeDeferred h2,?_⟩⟩
  have I:=List.nodup_cons.1 hm.nodup
  refine qeF hu ds _ ⟨I.2,λd hd=>?_⟩ (he.putFar h1 _) (hr.putFar h3 λk=>by simp [World.cell?,h2]) (ht.putFar h3) hR
  obtain ⟨r',g1,g2,g3,g4⟩:=hm.all d (jI _ hd)
  refine ⟨r',g1,g2,?_,g4⟩
  rw [World.putObj_heap_other]
  ·exact g3
  ·rintro rfl
   rw [g1] at hd
   exact I.1 hd
theorem qdV {fn:Func} {ts:Array Value} {R:Ending->World->Prop} {F:Fence} {m:Nat} {u:FrameMode} (hu:u ≠ .run):∀(ds:List Deferred) (w':World),qiG G' w' w0.heap.size ds->Ext n G0 w0 G' w'->Rel P gl G' h w'->
  (∀E,Ext n G0 w0 G' E->Rel P gl G' h E->LeavesIn F m P fn ts R [] u E)->LeavesInM F m P fn ts R ds u w'
 | [],w',_,he,hr,hR=>hR w' he hr
 | d :: ds,w',hm,he,hr,hR=>by
  obtain ⟨r,rfl,h1,h2,h3⟩:=hm.all d (jE ..)
  refine ⟨hu,.inl ⟨r,w'.putObj r (.deferred none),rfl,run_takeDeferred h2,?_⟩⟩
  have I:=List.nodup_cons.1 hm.nodup
  refine qdV hu ds _ ⟨I.2,λd hd=>?_⟩ (he.putFar h1 _) (hr.putFar h3 λk=>by simp [World.cell?,h2]) hR
  obtain ⟨r',g1,g2,g3,g4⟩:=hm.all d (jI _ hd)
  refine ⟨r',g1,g2,?_,g4⟩
  rw [World.putObj_heap_other]
  ·exact g3
  ·rintro rfl
   rw [g1] at hd
   exact I.1 hd
end
section
variable {P:Program} {gl:Nat->Option (List qd)}
def qnm (P:Program) (gl:Nat->Option (List qd)) (F:FuncId->Option qt):Prop:=
 ∀ f fn, F f = some fn -> ∃ pf c, P.funcs[f]? = some pf /\ (pf.name == "runtime.NumGoroutine") = false /\ pf.body = some c /\ comp P gl c = some fn.code /\ pf.results.toList.mapM (qfC P) = some fn.results /\ pf.ntmps = fn.ntmps
def qfP (P:Program) (gl:Nat->Option (List qd)) (f:FuncId) (g:AE.Call->List qd->List qj->Option (qdm×List qj×Bool)):Prop:=
 ∀call,qcN P gl call->qP call->∀as h r h' e',g call as h = some (r,h',e')->∀(G:qi) (w:World) (vs:Array Value),Rel P gl G h w->qes G->G.VL as vs.toList->
  ((callFunc f vs).run P w = .ok (.enter f vs) w/\∀(ro:Option Nat) (n:Nat),CallsIn (FR ro) n P f vs w (qnh P gl h.length G w r h'))\/
  ((∀i,.yld i ∉ as)/\∃v w',(callFunc f vs).run P w = .ok (.value v) w'/\qnh P gl h.length G w r h' (.returned v) w')
theorem qZ {f : FuncId} {pf : Func} {c : Code} (h1 : P.funcs[f]? = some pf) (h2 : (pf.name == "runtime.NumGoroutine") = false) (h3 : pf.body = some c) (vs : Array Value) (w : World) : (callFunc f vs).run P w = .ok (.enter f vs) w := by
 have h2' : pf.name ≠ "runtime.NumGoroutine" := by simpa using h2
 simp [callFunc,Sem.run_bind,program,Sem.run,h1,h2',h3,Result.andThen]
theorem qjN {f:FuncId} {x y vs:Array Value} {w:World}:(qgw (.func (.func f) x y) vs).run P w = (callFunc f ((x ++ vs) ++ y)).run P w:=by
 simp [qgw,Deferred.ofValue,invoke]
theorem qmc {b:Nat} {x y vs:Array Value} {w:World}:(qgw (.func (.yield b) x y) vs).run P w = (Instr.yield b (x ++ vs)).run P w:=by
 simp [qgw,Deferred.ofValue,invoke]
theorem qaJ.start {G:qi} {w:World} {as:List qd} {ts:Array Value} (h:G.VL as ts.toList) (hd:∀a ∈ as,a.dim = a):qaJ G w as ts:=
 ⟨h,λi xs k v hx _=>by
  have:=hd _ (List.mem_iff_getElem?.2 ⟨i,hx⟩)
  simp [qd.dim] at this⟩
theorem qos {G:qi}:∀(ps:List Nat) (as:List qd) (vs:List Value) (t:List qd) (ts:Array Value),G.VL as vs->ps.length = as.length->G.VL t ts.toList->
  G.VL (qky t ps as) (((ps.zip vs).foldl (λ(tmps:Array Value) (x:Nat×Value)=>tmps.setIfInBounds x.1 x.2) ts)).toList
 | [],as,vs,t,ts,_,_,ht=>by simpa [qky] using ht
 | p :: ps,[],vs,t,ts,_,hl,_=>by simp at hl
 | p :: ps,a :: as,vs,t,ts,ha,hl,ht=>by
  simp only [qi.VL,qp] at ha
  obtain ⟨v,rest,rfl,h1,h2⟩:=ha
  simp only [qky,List.zip_cons_cons,List.foldl_cons]
  exact qos ps as rest _ _ h2 (by simpa using hl) (by simpa using qp.set p ht h1)
theorem qlV:∀(ps:List Nat) (as:List qd) (t:List qd),(∀a ∈ as,a.dim = a)->(∀a ∈ t,a.dim = a)->∀a ∈ qky t ps as,a.dim = a
 | [],_,t,_,ht=>by simpa [qky] using ht
 | p :: ps,[],t,_,ht=>by simpa [qky] using ht
 | p :: ps,a :: as,t,ha,ht=>by
  simp only [qky]
  refine qlV ps as _ (λx hx=>ha x (jI _ hx)) λx hx=>?_
  rcases List.mem_or_eq_of_mem_set hx with hx | rfl
  ·exact ht x hx
  ·exact ha _ (jE ..)
theorem qie {G:qi} {w:World} {lo:Nat} {rf:Bool}:qfm G w lo rf [] []:=⟨[],rfl,⟨List.nodup_nil,λ_ h=>by cases h⟩,λ_=>rfl⟩
theorem qm5 (ak:P.follows .mixedOrders = true) {call:AE.Call} (aa:qcN P gl call) (hk:qP call) {N:Nat} {l:Nat} {args:List qd} {h:List qj} {r:qdm} {h':List qj} {e':Bool} (E:round N call l args h = some (r,h',e'))
  {G:qi} {w:World} {b:Nat} {vs:Array Value} (hr:Rel P gl G h w) (hn:qes G) (hb:G.γ l = some b) (ha:G.VL args vs.toList) :
  ∃f tmps asg body,(Instr.yield b vs).run P w = .ok (.round b f tmps asg body) w/\∀(ro:Option Nat) (n:Nat),RoundIn (FR ro) n P b f tmps asg body w (qnh P gl h.length G w r h'):=by
 unfold round at E
 split at E
 ·rename_i t ps asg body aL aK hl
  split at E
  ·cases E
  ·rename_i a8
   have a8:args.length = ps.length:=Classical.not_not.1 a8
   simp only at E
   obtain ⟨L,hL,Y⟩:=hr.box l b _ hb hl
   have aB:vs.size = L.params.size:=by
    have h1:=ha.length
    have h2:=congrArg List.length Y.ps
    simp at h1 h2
    omega
   refine ⟨_,_,_,_,run_yield hL aB,λro n=>?_⟩
   refine roundIn_of_wpIn (F:=FR ro) trivial ?_
   split at E
   ·rename_i s1 aj
    have k1:=qK (base:=h.length) hk N asg _ s1 _ (jm _) aj
    split at E
    ·rename_i t1 ps1 asg1 body1 pend1 ad
     split at E
     ·rename_i x s2 ai
      have kk:qaA h.length s1 { s1 with h:=s1.h.set l (.loop t1 ps1 asg1 body1 .busy pend1)}:=⟨by simp,λhe=>⟨he,qae.set ad λB _ _ a7=>a7⟩⟩
      have k2:=qK (base:=h.length) hk N body _ s2 _ (by simpa using k1.1) ai
      have af:=k1.trans (kk.trans k2)
      split at E
      ·rename_i t2 ps2 asg2 body2 st2 pend2 ac
       have aA:qaJ G w (qky t ps (args.map qd.dim)) ((L.params.zip vs).foldl (λ(tmps:Array Value) (x:Nat×Value)=>tmps.setIfInBounds x.1 x.2) L.tmps):=by
        refine qaJ.start ?_ (qlV _ _ _ (λx hx=>by obtain ⟨y,_,rfl⟩:=jP.1 hx;exact qbf y) Y.dims)
        have:=qos (G:=G) ps (args.map qd.dim) vs.toList t L.tmps ha.dims (by simpa using a8.symm) Y.tmps
        rw [<-Y.ps] at this ⊢
        rw [<-Array.toList_zip,Array.foldl_toList] at this
        exact this
       have aJ:=qcb ak aa hk (N:=N) (base:=h.length) (lo:=w.heap.size) (rf:=false) (fx:=[]) (ro:=some b) (m:=n) L.assign asg Y.asg (λh=>by cases h) G w ⟨qky t ps (args.map qd.dim),h,false⟩
        { tmps:=(L.params.zip vs).foldl (λ(tmps:Array Value) (x:Nat×Value)=>tmps.setIfInBounds x.1 x.2) L.tmps,defers:=[]} _ s1 ⟨hr,aA⟩ (jm _) (λ_ hq=>by cases hq;exact ⟨L,hL⟩) qie (jm _) aj
       refine wpIn_mono aJ λe a1 w1 aG=>?_
       obtain ⟨G1,f1,f2,rfl,f4⟩:=aG
       have I:=f1.gk _ _ hb
       obtain ⟨L1,ab,ae⟩:=f4.rel.box l b _ I ad
       have ap:L1.state = .ready:=by
        have:=ae.st
        cases hs:L1.state <;> rw [hs] at this <;> first | rfl | exact this.elim
       have ay:qhC P gl G1 t1 ps1 asg1 body1 .busy pend1 { L1 with state:=.busy}:={ ae with st:=trivial}
       have c1:Cfg P gl G1 (s1.h.set l (.loop t1 ps1 asg1 body1 .busy pend1)) s1.t a1 (w1.putObj b (.loop { L1 with state:=.busy})):=⟨f4.rel.putLoop I ad ay,f4.tr.putLoop f4.rel I _⟩
       have x1:Ext h.length G w G1 (w1.putObj b (.loop { L1 with state:=.busy})):=f1.trans (jm _) (Ext.putLoop _ I ab ⟨rfl,rfl,rfl,rfl,rfl,rfl⟩)
       refine ⟨_,run_beginRound ab ap,?_⟩
       have ar:qfy (some b) (w1.putObj b (.loop { L1 with state:=.busy})):=λ_ hq=>by cases hq;exact ⟨_,World.putObj_heap_same (je.1 ab).1⟩
       have aI:=qcb ak aa hk (N:=N) (base:=h.length) (lo:=w.heap.size) (rf:=false) (fx:=[]) (ro:=some b) (m:=n) L.body body Y.body (λh=>by cases h) G1 _ { s1 with h:=s1.h.set l (.loop t1 ps1 asg1 body1 .busy pend1)} a1 x s2 c1
        (by simpa using k1.1) ar (f2.ext (Ext.putLoop h.length I ab ⟨rfl,rfl,rfl,rfl,rfl,rfl⟩)) x1.size ai
       refine wpIn_mono aI λe a2 w2 aF=>?_
       obtain ⟨G2,g1,g2,g3⟩:=aF
       have x2:Ext h.length G w G2 w2:=x1.trans (by simpa using k1.1) g1
       have a6:=x2.gk _ _ hb
       have fin:∀{st:LSt} {pend:Option qvz} {jump:Option Code} {bv:Bool},Cfg P gl G2 s2.h s2.t a2 w2->qnb st (if jump.isNone then .ready else .done)->qmW pend jump->bv = jump.isNone->
         some (leave h.length (.ret (.bool bv)) (s2.h.set l (.loop t2 ps2 asg2 body2 st pend)) s2.e) = some (r,h',e')->∃v w',(Instr.endRound b jump).run P w2 = .ok v w'/\qnh P gl h.length G w r h' (.returned v) w':=by
        intro st pend jump bv al aC aD aH aE
        obtain ⟨L2,am,az⟩:=al.rel.box l b _ a6 ac
        have av:qhC P gl G2 t2 ps2 asg2 body2 st pend { L2 with state:=if jump.isNone then .ready else .done,pending:=jump}:={ az with st:=aC,pend:=aD}
        have au:=al.rel.putLoop a6 ac av
        have x3:=x2.trans (jm _) (Ext.putLoop _ a6 am (L':={ L2 with state:=if jump.isNone then .ready else .done,pending:=jump}) ⟨rfl,rfl,rfl,rfl,rfl,rfl⟩)
        obtain ⟨rfl,G',y1,y2,y3,y4⟩:=qce (s:={ s2 with h:=s2.h.set l (.loop t2 ps2 asg2 body2 st pend)}) hr x3 au ⟨by simpa using af.1,λhe=>(af.2 he).2.trans (qae.set ac λB _ _ a7=>a7)⟩ (Option.some.inj aE)
        exact ⟨_,_,run_endRound jump am,_,G',rfl,y1,y2,y3,by subst aH;exact y4 (.bool jump.isNone) (.bool jump.isNone) (.inl rfl) (by simp [qi.V,qC])⟩
       split at E
       ·obtain ⟨rfl,g3⟩:=g3
        exact fin (st:=.ready) (pend:=none) (jump:=none) g3 (by simp [qnb]) trivial rfl E
       ·obtain ⟨rfl,g3⟩:=g3
        exact fin (st:=.done) (pend:=some .ret) (jump:=some .ret) g3 (by simp [qnb]) trivial rfl E
       ·rename_i id
        obtain ⟨rfl,g3⟩:=g3
        exact fin (st:=.done) (pend:=some (.exit id)) (jump:=some (.exit id)) g3 (by simp [qnb]) rfl rfl E
       ·cases E
      ·cases E
     ·cases E
    ·cases E
   ·cases E
 ·cases E
theorem qir (ab:P.follows .mixedOrders = true) {F:FuncId->Option qt} {X:qlW} (hF:qnm P gl F) (hX:∀f g,X f = some g->qfP P gl f g)
  (ae:∀f g,X f = some g->∀call,qP call->qP λ_ as h=>g call as h):∀n,qcN P gl (run F X n)
 | 0=>λfv args h r h' e' hr=>by simp [run] at hr
 | n + 1=>λfv args h r h' e' E G w ap vs hr hn hf ha=>by
  have ih:=qir ab hF hX ae n
  have hk:=qlJ (F:=F) (X:=X) ae n
  simp only [run] at E
  split at E
  ·rename_i f first cap
   have a7:=hf
   simp only [qi.V,qC] at a7
   obtain ⟨x,y,rfl,hx,hy⟩:=a7
   have a1:G.VL (first ++ args ++ cap) ((x ++ vs) ++ y).toList:=by
    simp only [Array.toList_append]
    exact (qp.append hx ha).append hy
   rw [qjN]
   split at E
   ·rename_i g hg
    rcases hX f g hg _ ih hk _ _ _ _ _ E G w _ hr hn a1 with ⟨h1,h2⟩ | ⟨h1,v,w',h2,h3⟩
    ·exact .inl ⟨f,_,h1,h2⟩
    ·exact .inr (.inr ⟨v,w',λi hi=>h1 i (by rw [hi];simp),h2,h3⟩)
   ·split at E
    ·cases E
    ·rename_i fn ak
     obtain ⟨pf,c,p1,p2,p3,p4,p5,p6⟩:=hF f fn ak
     refine .inl ⟨f,_,qZ p1 p2 p3 _ w,λro m=>?_⟩
     generalize am:(x ++ vs) ++ y = vv at a1 ⊢
     have ad:vv.size = (first ++ args ++ cap).length:=by have:=a1.length;simp at this ⊢;omega
     let t0:List qd:=(first ++ args ++ cap).map qd.dim ++ List.replicate (fn.ntmps - ((first ++ args ++ cap).map qd.dim).length) (.tup [])
     let a0:Act:={ tmps:=vv ++ Array.replicate (pf.ntmps - vv.size) undef,defers:=[]}
     have al:Cfg P gl G h t0 a0 w:=by
      refine ⟨hr,qaJ.start ?_ λz hz=>?_⟩
      ·simp only [t0,a0,Array.toList_append,Array.toList_replicate]
       refine qp.append a1.dims ?_
       rw [p6,ad]
       simp only [List.length_map]
       exact qp.replicate _ (by simp [qC,qp,undef])
      ·simp only [t0] at hz
       rcases jH.1 hz with hz | hz
       ·obtain ⟨q,_,rfl⟩:=jP.1 hz;exact qbf q
       ·rw [(List.mem_replicate.1 hz).2];rfl
     have hW:∀x s,qaV n h.length (run F X n) fn.code ⟨t0,h,false⟩ = some (x,s)->c.wpIn (FR none) m P (qot P gl h.length G w w.heap.size false [] x s) a0 w:=λx s hx=>
      qcb ab ih hk (N:=n) (base:=h.length) (lo:=w.heap.size) (rf:=false) (fx:=[]) (ro:=none) (m:=m) c fn.code p4 (λh=>by cases h) G w ⟨t0,h,false⟩ a0 x s al (jm _) (λ_ hq=>by cases hq) qie (jm _) hx
     have aa:∀x s I,qaV n h.length (run F X n) fn.code ⟨t0,h,false⟩ = some (x,s)->(x = .nor\/x = .ret)->qat s fn.results = some I->leave h.length (.ret (qbv I)) s.h s.e = (r,h',e')->CallsIn (FR ro) m P f vv w (qnh P gl h.length G w r h'):=by
      intro x s I hx ai Y aj
      have k:=qK (base:=h.length) hk n fn.code _ s _ (jm _) hx
      refine qbz (m:=m) (callsIn_of_wp_marks (F:=FR none) p1 p3 trivial (wpIn_mono (hW x s hx) λe a' w' a8=>?_) rfl)
      obtain ⟨G',g1,⟨ms,a6,g2,_⟩,g3⟩:=a8
      rw [jF] at a6
      rw [<-a6] at g2
      have key:Cfg P gl G' s.h s.t a' w'->LeavesInM (FR none) m P pf a'.tmps (qnh P gl h.length G w r h') a'.defers .returning w':=by
       intro hc
       refine qeF (by simp) a'.defers w' g2 g1 hc.rel hc.tr λaf q1 q2 q3=>?_
       obtain ⟨u,r1,r2⟩:=qd6 (a:=a') ⟨q2,q3⟩ p5 Y
       obtain ⟨rfl,ac,y1,y2,y3,y4⟩:=qce hr q1 q2 ⟨k.1,λhe=>(k.2 he).2⟩ aj
       exact ⟨u,r1,_,ac,rfl,y1,y2,y3,y4 _ u (.inl rfl) r2⟩
      rcases ai with rfl | rfl
      ·obtain ⟨rfl,g3⟩:=g3;exact key g3
      ·obtain ⟨rfl,g3⟩:=g3;exact key g3
     split at E
     ·rename_i s hx
      split at E
      ·rename_i I Y
       exact aa _ s I hx (.inl rfl) Y (Option.some.inj E)
      ·cases E
     ·rename_i s hx
      split at E
      ·rename_i I Y
       exact aa _ s I hx (.inr rfl) Y (Option.some.inj E)
      ·cases E
     ·rename_i v s hx
      have k:=qK (base:=h.length) hk n fn.code _ s _ (jm _) hx
      refine qbz (m:=m) (callsIn_of_wp_marks (F:=FR none) p1 p3 trivial (wpIn_mono (hW _ s hx) λe a' w' a8=>?_) rfl)
      obtain ⟨G',g1,⟨ms,a6,g2,_⟩,u,rfl,g3,g4⟩:=a8
      rw [jF] at a6
      rw [<-a6] at g2
      refine qdV (by simp) a'.defers w' g2 g1 g3.rel λaf q1 q2=>?_
      obtain ⟨rfl,ac,y1,y2,y3,y4⟩:=qce hr q1 q2 ⟨k.1,λhe=>(k.2 he).2⟩ (Option.some.inj E)
      exact ⟨v,u,ac,rfl,rfl,y1,y2,y3,y4 _ u (.inr rfl) g4⟩
     ·cases E
  ·rename_i l
   have a7:=hf
   simp only [qi.V,qC] at a7
   obtain ⟨b,hb,rfl⟩:=a7
   rw [qmc]
   obtain ⟨f,tmps,asg,body,h1,h2⟩:=qm5 ab ih hk E hr hn hb ha (vs:=vs)
   exact .inr (.inl ⟨l,b,f,tmps,asg,body,rfl,by simpa using h1,h2⟩)
  ·cases E
end
inductive qer where
 | pre (a:qF) (r:qer)
 | dfr (f:FuncId) (caps:List qB) (slot:Nat) (rest:qF)
 deriving Inhabited
structure qcO where
 ntmps:Nat
 k:Nat
 ops:List qam
 code:qF
 deriving Inhabited
structure qjE where
 ntmps:Nat
 results:List qnf
 body:qer
 d:qcO
 deriving Inhabited
def qer.fid:qer->FuncId
 | .pre _ r=>r.fid
 | .dfr f _ _ _=>f
def qfh (n:Nat) (call:Call) (d:qcO) (v:qd) (cv:List qd) (s:St):Option (Ex×St):=
 match qaO s.h.length call [] d.ops ⟨put (some d.k) v.dim (cv.map qd.dim ++ List.replicate (d.ntmps - cv.length) (.tup [])),s.h,false⟩ with
 | some (.nor,s1)=>
  match qaV n s.h.length call d.code s1 with
  | some (.nor,s2) | some (.ret,s2)=>some (.ret,{ s with h:=s2.h,e:=s.e || s2.e})
  | _=>none
 | _=>none
def qdy (n base:Nat) (call:Call) (d:qcO):qer->St->Option (Ex×St)
 | .pre a r,s=>match qaV n base call a s with
  | some (.nor,s)=>qdy n base call d r s
  | some (.exit _,_)=>none
  | r=>r
 | .dfr f caps slot rest,s=>
  match ev (put (some slot) (.fn f [] (caps.map (ev s.t))) s.t) (.t slot) with
  | .fn g [] cv=>
   if g = f then
    match qaV n base call rest { s with t:=put (some slot) (.fn f [] (caps.map (ev s.t))) s.t} with
    | some (.nor,s1) | some (.ret,s1)=>qfh n call d .niliface cv s1
    | some (.pan v,s1)=>qfh n call d v cv s1
    | _=>none
   else none
  | _=>none
def qez (n:Nat) (g:qjE) (call:Call) (as:List qd) (h:List qj):Option (qdm×List qj×Bool):=
 match qdy n h.length call g.d g.body ⟨as.map qd.dim ++ List.replicate (g.ntmps - as.length) (.tup []),h,false⟩ with
 | some (.nor,s) | some (.ret,s)=>
  match qat s g.results with
  | some vs=>some (leave h.length (.ret (qbv vs)) s.h s.e)
  | none=>none
 | some (.pan v,s)=>some (leave h.length (.pan v) s.h s.e)
 | _=>none
section
variable (P:Program) (gl:Nat->Option (List qd))
def qrB (o0 o1:Oper):Option (FuncId×List qB×Nat):=
 match o0.op with
 | .makeFunc (.func f) a caps=>
  match o1.op with
  | .defer c=>
   match c.callee with
   | .value (.tmp t)=>if o0.dst = some t/\o0.guard = none/\o1.dst = none/\o1.guard = none/\a = #[]/\c.args = #[] then (qvu gl caps).map λcs=>(f,cs,t) else none
   | _=>none
  | _=>none
 | _=>none
def qml:Code->Option (FuncId×List qB×Nat)
 | .region _ ops false=>
  match ops.toList with
  | [o0,o1]=>qrB gl o0 o1
  | _=>none
 | _=>none
def qrs:Code->Option qer
 | .seq a b=>
  match qml gl a with
  | some (f,caps,t)=>(comp P gl b).map (.dfr f caps t)
  | none=>
   match comp P gl a,qrs b with
   | some x,some r=>if x.noRf then some (.pre x r) else none
   | _,_=>none
 | _=>none
def qEx (o:Oper):Option Nat:=
 match o.op with
 | .call c=>
  match c.callee with
  | .builtin .recover=>if o.guard = none/\c.args = #[] then o.dst else none
  | _=>none
 | _=>none
def qz6 (f:Func):Option qcO:=
 match f.body with
 | some (.seq (.region _ ops false) c)=>
  match ops.toList with
  | o0 :: os=>
   match qEx o0,os.mapM (qcj P gl ops),comp P gl c with
   | some k,some aos,some ac=>if aos.all (λo=>!o.op.calls) && ac.noRf && f.results.isEmpty then some ⟨f.ntmps,k,aos,ac⟩ else none
   | _,_,_=>none
  | _=>none
 | _=>none
def qfY (f d:Func):Option qjE:=
 match f.body with
 | some c=>
  match qrs P gl c,f.results.toList.mapM (qfC P),qz6 P gl d with
  | some b,some rs,some d=>some ⟨f.ntmps,rs,b,d⟩
  | _,_,_=>none
 | none=>none
end
inductive qgu where
 | nil
 | node (k:Nat) (v:qt) (l r:qgu)
 deriving Inhabited
def qgu.get:qgu->Nat->Option qt
 | .nil,_=>none
 | .node k v l r,i=>bif Nat.beq i k then some v else bif Nat.blt i k then l.get i else r.get i
def qgu.All (p:Nat->qt->Prop):qgu->Prop
 | .nil=>True
 | .node k v l r=>p k v/\l.All p/\r.All p
theorem qgu.get_all {p:Nat->qt->Prop}:∀{t:qgu} {i:Nat} {v:qt},t.All p->t.get i = some v->p i v
 | .nil,_,_,_,h=>by cases h
 | .node k w l r,i,v,ha,h=>by
  simp only [qgu.get] at h
  cases hb:Nat.beq i k with
  | true=>
   rw [hb] at h
   have E:i = k:=Nat.eq_of_beq_eq_true hb
   subst E
   cases h
   exact ha.1
  | false=>
   rw [hb] at h
   cases hc:Nat.blt i k with
   | true=>rw [hc] at h;exact qgu.get_all ha.2.1 h
   | false=>rw [hc] at h;exact qgu.get_all ha.2.2 h
def qmu (fn:qt) (h:List qj):Option (Ex×St)->Option (qdm×List qj×Bool)
 | some (.nor,s) | some (.ret,s)=>
  match qat s fn.results with
  | some vs=>some (leave h.length (.ret (qbv vs)) s.h s.e)
  | none=>none
 | some (.pan v,s)=>some (leave h.length (.pan v) s.h s.e)
 | _=>none
theorem qzj {F:FuncId->Option qt} {X:qlW} {n:Nat} {f:FuncId} {first args cap:List qd} {h:List qj} {fn:qt} (hX:X f = none) (hF:F f = some fn) :
  run F X (n + 1) (.fn f first cap) args h = qmu fn h (qaV n h.length (run F X n) fn.code ⟨(first ++ args ++ cap).map qd.dim ++ List.replicate (fn.ntmps - ((first ++ args ++ cap).map qd.dim).length) (.tup []),h,false⟩):=by
 simp only [run,hX,hF]
 rfl
theorem quw {F:FuncId->Option qt} {X:qlW} {n:Nat} {f:FuncId} {first args cap:List qd} {h:List qj} {g:Call->List qd->List qj->Option (qdm×List qj×Bool)} (hX:X f = some g) :
  run F X (n + 1) (.fn f first cap) args h = g (run F X n) (first ++ args ++ cap) h:=by
 simp only [run,hX]
end Go.AE
