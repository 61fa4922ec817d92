/- A part of the proof: the abstract executor and what goes through it (part 21). No condition. -/
import Derived.Test.YtnibchoenjmmjaaGreatDoorMq19
import Derived.Test.YtnibchoenjmmjaaGreatDoorMq20
import Derived.KernelRfl
import Derived.Test.YtnibchoenjmmjaaGreatDoorMq2
import Derived.Test.YtnibchoenjmmjaaGreatDoorProg
set_option maxRecDepth 100000
set_option maxHeartbeats 0
namespace Go.AE
theorem qqN {base:Nat} {call:Call} {f:qo} {ps:List Nat} {asg body:qC} {s:St} {g:FuncId} {first cap:List qa} {v:qa} {h:List qb} {e:Bool} {t:List qa} {ps':List Nat} {asg' body':qC}
  (hf:ev s.t f = .fn g first cap) (hc:call (.fn g first cap) [.yld s.h.length] (s.h ++ [.loop (s.t.map qa.dim) ps asg body .ready none]) = some (.ret v,h,e)) (hl:h[s.h.length]? = some (.loop t ps' asg' body' .ready none)) :
  qm base call (.rfun f ps asg body) s = some (.nor,{ s with h:=h.set s.h.length (.loop t ps' asg' body' .exhausted none),e:=s.e || e}):=by
 rw [qgn]
 simp only [qaF,hf,hc,hl]
 rfl
theorem qqO {base:Nat} {call:Call} {f:qo} {ps:List Nat} {asg body:qC} {s:St} {g:FuncId} {first cap:List qa} {v:qa} {h:List qb} {e:Bool} {t:List qa} {ps':List Nat} {asg' body':qC}
  (hf:ev s.t f = .fn g first cap) (hc:call (.fn g first cap) [.yld s.h.length] (s.h ++ [.loop (s.t.map qa.dim) ps asg body .ready none]) = some (.ret v,h,e)) (hl:h[s.h.length]? = some (.loop t ps' asg' body' .done (some .ret))) :
  qm base call (.rfun f ps asg body) s = some (.ret,{ s with h:=h.set s.h.length (.loop t ps' asg' body' .exhausted (some .ret)),e:=s.e || e}):=by
 rw [qgn]
 simp only [qaF,hf,hc,hl]
 rfl
theorem qfL (n:Nat) (v:qa) (H:List qb) (e:Bool):∃g e',some (qat n (.ret v) H e) = some (.ret v,g,e'):=by
 simp only [qat]
 cases ((!e || n == 0) && v.lower n) <;> exact ⟨_,_,rfl⟩
theorem qeA (t:List qa) (i:Nat):lkp (t.map qa.dim) i = (lkp t i).dim:=by
 simp only [lkp,List.getD_eq_getElem?_getD,List.getElem?_map]
 cases t[i]? <;> rfl
end Go.AE
namespace Go.Proofs.YtnibchoenjmmjaaGreatDoor.AE
open Go.AE
theorem Tbs.at {l:List Wl} {h:List qb} {H:Nat→Option qb} {G:List qb} {rows:List (List qa)} {V:qa} (S:Tbs l h l.length H G rows V) {K:Nat→Option qb} (hK:∀i x,h.length + 4 ≤ i→G[i]? = some x→K i = some x):qf9 K (l.map wNs) V:=by
 have hs:Sub H K:=fun i x hx=>hK i x (S.bse i x hx) (S.cov i x hx)
 rcases S.sl with ⟨e,rfl⟩ | ⟨id,rfl,h1,h2,h3⟩
 ·have:=S.len
  rw [e] at this
  exact .inl ⟨by simpa using this.symm,rfl⟩
 ·have hc:rows.flatten.length = rows.length * 1:=qbG fun r hr=>by
   obtain ⟨j,hj,rfl⟩:=List.getElem_of_mem hr
   obtain ⟨_,tb,e,_⟩:=S.row j hj (by have:=S.len;omega)
   rw [e];rfl
  refine .inr ⟨id,rows.flatten,by rw [List.length_map,S.len],hK _ _ h1 h3,by rw [hc,S.len,List.length_map];omega,fun j a b=>?_⟩
  have hj:j < rows.length:=by have:=S.len;simp at a;omega
  obtain ⟨_,tb,e,_,_,q⟩:=S.row j hj (by simpa using a)
  have e2:rows.flatten[j] = tb:=by
   have h4:=qkm (k:=1) (vs:=rows) (fun r hr=>by
    obtain ⟨j,hj,rfl⟩:=List.getElem_of_mem hr
    obtain ⟨_,tb,e,_⟩:=S.row j hj (by have:=S.len;omega)
    rw [e];rfl) hj
   rw [e,Nat.mul_one] at h4
   have h5:((rows.flatten.drop j).take 1)[0]? = some tb:=by rw [h4];rfl
   rw [List.getElem?_take_of_lt (by omega),List.getElem?_drop,Nat.add_zero,List.getElem?_eq_getElem b] at h5
   exact Option.some.inj h5
  rw [e2,List.getElem_map]
  obtain ⟨tid,rs,e3,t1,t2⟩:=q
  exact ⟨tid,rs,e3,hs _ _ t1,t2.mono hs⟩
section
variable {h:List qb}
theorem qsh {l:List Wl} {stop:Int} {E:qcp} {nss:List (List Nd)} {V OL:qa} {p q A:Nat} {K K':Nat→Option qb} {g:List qb} {xs:List qa} {f:qdO} {e0:Bool} (hE:qgH E) (hS:∀ns ∈ nss,qcz ns∧(∀nd ∈ ns,I64 nd.n)∧ns.length ≤ 90000) (hll:l.length = nss.length) (hl:l.length ≤ 10)
  (b0:g[h.length]? = some (.cells [.lst (l.map wV) .no])) (b1:g[h.length + 1]? = some (.cells [.int .u8 stop])) (b2:g[h.length + 2]? = some (.cells [.bool false])) (b3:g[h.length + 3]? = some (.cells [V]))
  (bp:g[p]? = some (.cells [.lst (E.vals.map qa7) .no,qal E.bag,.int .i64 E.en,.int .i64 E.ed,OL])) (bq:g[q]? = some (.cells [.int .i64 0])) (hp:h.length + 4 ≤ p) (hpq:p < q)
  (tV:qf9 K nss V) (tO:qcr K E.oth OL) (cov:Cov K g) (out:∀i x,K i = some x→i ≠ q∧i ≠ h.length + 2)
  (hR:qiJ K' (nss.map (evR E)) xs) (cov':Cov K' g) (out':∀i x,K' i = some x→i ≠ q) (hA:g[A]? = some (.cells [.lst xs f])) :
  ∀T:List qa,T.length = 87→lkp T 2 = .ptr h.length 0→lkp T 3 = .ptr (h.length + 1) 0→lkp T 4 = .ptr (h.length + 2) 0→lkp T 5 = .ptr (h.length + 3) 0→lkp T 7 = .ptr p 0→lkp T 8 = .ptr q 0→lkp T 52 = .fn 32 [] [.ptr A 0]→
   ∃x st',qm h.length Wd (.rfun (.t 52) [53,54] qn3 qw2) ⟨T,g,e0⟩ = some (x,st')∧∃F,st' = ⟨T,F,e0⟩∧g.length ≤ F.length∧((x = .nor∧F[h.length]? = some (.cells [.lst (l.map wV) .no])∧F[h.length + 2]? = some (.cells [.bool false])∧F[q]? = some (.cells [.int .i64 (l.length:Nat)]))∨(x = .ret∧F[h.length + 2]? = some (.cells [.bool true]))):=by
 intro T ht e2 e3 e4 e5 e7 e8 e52
 have hql:=(List.getElem?_eq_some_iff.1 bq).1
 have up':∀{i:Nat} {x y:qb},g[i]? = some x→(g ++ [y])[i]? = some x:=fun {i x y} hx=>by rw [List.getElem?_append_left (List.getElem?_eq_some_iff.1 hx).1];exact hx
 have S:EaS l stop E nss V OL h p q g.length (T.map qa.dim) K 0 (g ++ [qa3 (T.map qa.dim) .ready none]):=⟨up' b0,up' b1,up' b2,up' b3,up' bp,up' (by rw [Int.natCast_zero];exact bq),by rw [qQ];rfl,⟨hp,hpq,hql⟩,tV,tO,cov.more _,fun i x hx=>⟨(out i x hx).1,by have:=cov.lt hx;omega,(out i x hx).2⟩⟩
 obtain ⟨F',hc,hl',hF⟩:=qzb (f:=f) S hE hS hll hl (by simpa using ht) (by rw [qeA,e2];rfl) (by rw [qeA,e3];rfl) (by rw [qeA,e4];rfl) (by rw [qeA,e5];rfl) (by rw [qeA,e7];rfl) (by rw [qeA,e8];rfl) hR (fun i x hx=>⟨cov'.lt hx,out' i x hx⟩) (cov'.more _) (by simp) (up' hA)
 have e52':ev T (.t 52) = .fn 32 [] [.ptr A 0]:=by simp only [sA.1,simprocAttr,-Int.reduceNatCast',e52]
 rcases hF with hF | ⟨c,hF⟩
 ·have hL:F'[g.length]? = some (qa3 (T.map qa.dim) .ready none):=by rw [hF,List.getElem?_set_ne (by omega)];exact S.bL
  have r1:=qqN (base:=h.length) (s:=⟨T,g,e0⟩) (v:=.tup []) e52' hc hL
  simp only [Bool.or_false] at r1
  refine ⟨_,_,r1,_,rfl,by simp;omega,.inl ⟨rfl,?_,?_,?_⟩⟩
  ·rw [List.getElem?_set_ne (by omega),hF,List.getElem?_set_ne (by omega)];exact S.b0
  ·rw [List.getElem?_set_ne (by omega),hF,List.getElem?_set_ne (by omega)];exact S.b2
  ·rw [List.getElem?_set_ne (by omega),hF,List.getElem?_set_self (by simp;omega),hll]
 ·have hL:F'[g.length]? = some (qa3 (T.map qa.dim) .done (some .ret)):=by rw [hF,List.getElem?_set_self (by simp)]
  have r1:=qqO (base:=h.length) (s:=⟨T,g,e0⟩) (v:=.tup []) e52' hc hL
  simp only [Bool.or_false] at r1
  refine ⟨_,_,r1,_,rfl,by simp;omega,.inr ⟨rfl,?_⟩⟩
  rw [List.getElem?_set_ne (by omega),hF,List.getElem?_set_ne (by omega),List.getElem?_set_self (by simp;omega)]
theorem qsk (W0:Wl) (ls:List Wl) (stop:Int) (ho:∀W ∈ W0 :: ls,OkW W):∃g e,Wd (.fn 4 [] []) [.lst ((W0 :: ls).map wV) .no,.int .u8 stop] h = some (.ret (.bool true),g,e):=by
 obtain ⟨l,hl⟩ :∃l,l = W0 :: ls:=⟨_,rfl⟩
 rw [←hl] at ho ⊢
 generalize hw:Wd _ _ h = w
 rw [qr rfl (show T.get 4 = some c4 by kernel_rfl)] at hw
 have hB2:Nat.ble h.length (h.length + 2) = true:=qi (by omega)
 have hB3:Nat.ble h.length (h.length + 3) = true:=qi (by omega)
 cases h10:ilt 10 (l.length:Int) with
 | true=>
  simp only [sA.1,c4,simprocAttr,-Int.reduceNatCast',qyX,h10,hB2] at hw
  subst hw
  exact ⟨_,_,rfl⟩
 | false=>
  have h10':l.length ≤ 10:=by rw [qf] at h10;simp at h10;omega
  have loop:=quq (h:=h) l stop h10' ho
  rw [lb] at loop
  simp only [sA.1,c4,simprocAttr,-Int.reduceNatCast',qyX,h10,hB2] at hw
  generalize hr:qm h.length Wd (.loop qw1) _ = r at hw
  obtain ⟨x,st',rfl,tt,G,e0,rfl,ht,e2,e3,e4,e5,hGl,⟨rfl,H,rows,V,hG,gV,S⟩ | ⟨rfl,gT⟩⟩:=qaB hr (loop l.length _ ⟨_,_,0,fun _=>none,[],.lst [] .full,_,rfl,by simp only [sA.1,simprocAttr,-Int.reduceNatCast'],by simp only [sA.1,simprocAttr,-Int.reduceNatCast'],by simp only [sA.1,simprocAttr,-Int.reduceNatCast'],by simp only [sA.1,simprocAttr,-Int.reduceNatCast'],by simp only [sA.1,simprocAttr,-Int.reduceNatCast'],by simp only [sA.1,simprocAttr,-Int.reduceNatCast',Int.natCast_zero],by omega,by simp,fun j hj=>by
   rw [List.getElem?_append,List.getElem?_append]
   split
   ·rfl
   ·obtain ⟨q,rfl⟩ :∃q,j = h.length + q:=⟨j - h.length,by omega⟩
    rw [Nat.add_sub_cancel_left]
    have:q = 0∨q = 1∨q = 2:=by omega
    rcases this with rfl | rfl | rfl <;> rfl,by
   rw [qaL];rfl,⟨fun _ _ e=>(by cases e),fun _ _ e=>(by cases e),fun _ _ _ _ _ e=>(by cases e),rfl,.inl ⟨rfl,rfl⟩,fun j h1 _=>by simp at h1⟩⟩)
  case _=>
   have at':∀q,q < 3→G[h.length + q]? = (lb l stop)[q]?:=fun q hq=>by rw [hG _ (by omega),List.getElem?_append_right (by omega),Nat.add_sub_cancel_left];rfl
   have b0:G[h.length]? = some (.cells [.lst (l.map wV) .no]):=at' 0 (by omega)
   have b1:G[h.length + 1]? = some (.cells [.int .u8 stop]):=at' 1 (by omega)
   have b2:G[h.length + 2]? = some (.cells [.bool false]):=at' 2 (by omega)
   have hl0:0 < l.length:=by rw [hl];simp
   have hW0:l[0] = W0:=by subst hl;rfl
   have hR0:qdP W0:=by
    have:=(S.row 0 (by have:=S.len;omega) hl0).1
    rwa [hW0] at this
   have hO0:OkW W0:=ho W0 (by rw [hl];simp)
   have x1:qav 14 (.lst (l.map wV) .no) (.int .i64 0) = some (.iptr (wC W0) 0):=by
    have:=qzz hl0
    rw [hW0] at this
    exact this
   have hE:=quv hR0 hO0
   have hS:∀ns ∈ l.map wNs,qcz ns∧(∀nd ∈ ns,I64 nd.n)∧ns.length ≤ 90000:=fun ns hns=>by
    obtain ⟨W,hW,rfl⟩:=List.mem_map.1 hns
    obtain ⟨j,hj,rfl⟩:=List.getElem_of_mem hW
    exact qiD (S.row j (by have:=S.len;omega) hj).1 (ho _ hW)
   obtain ⟨OL,m,hen,hOth⟩:=qzc (h:=G ++ [.cells [.lst [] .full,.lst [] .full,.int .i64 0,.int .i64 1,.lst [] .full]]) W0 hR0.oe hR0.ol
   obtain ⟨Od,Os,Ow,Ol⟩:=hOth.facts
   have Oc:OL.cells = [OL]:=by obtain ⟨_,_,_,⟨_,rfl⟩ | ⟨_,_,rfl,_⟩⟩:=hOth <;> rfl
   obtain ⟨Vd,Vs,Vw,_,Vc⟩:=S.sl.facts
   obtain ⟨G7,hG7⟩ :∃G7,G7 = G ++ qb.cells [.lst (W0.vals.map qa7) .no,qal W0.bag,.int .i64 W0.en,.int .i64 W0.ed,OL] :: (m ++ [qb.cells [.int .i64 0]]):=⟨_,rfl⟩
   have g7l:G7.length = G.length + (m.length + 2):=by rw [hG7];simp
   have g7o:∀i,i < G.length→G7[i]? = G[i]?:=fun i hi=>by rw [hG7,List.getElem?_append_left hi]
   have g7p:G7[G.length]? = some (.cells [.lst (W0.vals.map qa7) .no,qal W0.bag,.int .i64 W0.en,.int .i64 W0.ed,OL]):=by rw [hG7,qQ];rfl
   have g7q:G7[G.length + (m.length + 1)]? = some (.cells [.int .i64 0]):=by rw [hG7,List.getElem?_append_right (by omega),Nat.add_sub_cancel_left,List.getElem?_cons_succ,List.getElem?_append_right (by omega)];simp
   obtain ⟨K,hK⟩ :∃K:Nat→Option qb,K = fun i=>if i = G.length + (m.length + 1)∨i = h.length + 2 then none else G7[i]?:=⟨_,rfl⟩
   have hKc:Cov K G7:=fun i x hx=>by
    rw [hK] at hx
    have hx:(if i = G.length + (m.length + 1)∨i = h.length + 2 then none else G7[i]?) = some x:=hx
    split at hx
    ·cases hx
    ·exact hx
   have hKo:∀i x,K i = some x→i ≠ G.length + (m.length + 1)∧i ≠ h.length + 2:=fun i x hx=>by
    rw [hK] at hx
    have hx:(if i = G.length + (m.length + 1)∨i = h.length + 2 then none else G7[i]?) = some x:=hx
    split at hx
    ·cases hx
    ·omega
   have hKi:∀i x,i ≠ G.length + (m.length + 1)→i ≠ h.length + 2→G7[i]? = some x→K i = some x:=fun i x h1 h2 hx=>by
    rw [hK]
    show (if i = G.length + (m.length + 1)∨i = h.length + 2 then none else G7[i]?) = some x
    rw [if_neg (by omega)]
    exact hx
   have tV:qf9 K (l.map wNs) V:=S.at fun i x h1 hx=>hKi i x (by have:=(List.getElem?_eq_some_iff.1 hx).1;omega) (by omega) (by rw [g7o i (List.getElem?_eq_some_iff.1 hx).1];exact hx)
   have tO:qcr K (wE W0).oth OL:=hOth.mono fun i x hx=>by
    by_cases hi:G.length + 1 ≤ i
    ·rw [qY (by simpa using hi)] at hx
     rw [List.getElem?_append_right (by simpa using hi)] at hx
     have hil:=(List.getElem?_eq_some_iff.1 hx).1
     simp at hil
     refine hKi i x (by omega) (by omega) ?_
     rw [hG7,List.getElem?_append_right (by omega),show i - G.length = (i - (G.length + 1)) + 1 by omega,List.getElem?_cons_succ,List.getElem?_append_left (by omega)]
     simpa using hx
    ·rw [qaq (by simpa using hi)] at hx
     cases hx
   obtain ⟨g,xs,f,hea,hgl,hgo,hgA,hRs⟩:=qsj (wE W0) hE (l.map wNs) hS hKc tO tV (by simp;omega)
   have rng:=qsh (h:=h) (l:=l) (stop:=stop) (E:=wE W0) (nss:=l.map wNs) (V:=V) (OL:=OL) (p:=G.length) (q:=G.length + (m.length + 1)) (A:=G7.length + 1) (K:=K) (g:=g) (f:=f) (e0:=e0) hE hS (by simp) h10'
    (by rw [hgo _ (by omega),g7o _ (by omega)];exact b0) (by rw [hgo _ (by omega),g7o _ (by omega)];exact b1) (by rw [hgo _ (by omega),g7o _ (by omega)];exact b2) (by rw [hgo _ (by omega),g7o _ (by omega)];exact gV)
    (by rw [hgo _ (by omega)];exact g7p) (by rw [hgo _ (by omega)];exact g7q) hGl (by omega) tV tO (fun i x hx=>by rw [hgo i (hKc.lt hx)];exact hKc i x hx) hKo hRs (fun i x hx=>by
     by_cases hi:G7.length + 2 ≤ i
     ·rw [qY hi] at hx;exact hx
     ·rw [qaq hi] at hx;cases hx) (fun i x hx=>by
     by_cases hi:G7.length + 2 ≤ i
     ·omega
     ·rw [qaq hi] at hx;cases hx) hgA
   have hea':Wd (.fn 14 [] []) [V,.agg [.lst (W0.vals.map qa7) .no,qal W0.bag,.int .i64 W0.en,.int .i64 W0.ed,OL]] (G ++ qb.cells [.lst (W0.vals.map qa7) .no,qal W0.bag,.int .i64 W0.en,.int .i64 W0.ed,OL] :: (m ++ [qb.cells [.int .i64 0]])) = some (.ret (.fn 32 [] [.ptr (G7.length + 1) 0]),g,false):=by rw [←hG7];exact hea
   have l0:h.length < G.length:=by omega
   have l3:h.length + 3 < G.length:=by omega
   have gO:∀X i,i < G.length→(G ++ X)[i]? = G[i]?:=fun X i hi=>List.getElem?_append_left hi
   have z1:ilt 0 (l.length:Int) = true:=by rw [qf];simp;omega
   have hBg:Nat.ble h.length G.length = true:=qi (by omega)
   have hBq:Nat.ble h.length (G.length + (m.length + 1)) = true:=qi (by omega)
   obtain ⟨bd,bs,bw,bl,bc⟩:=qcM W0.bag
   clear hea hRs tO tV hOth hKi hKo hKc hS hE
   obtain ⟨⟨op,n,nm,sb,aS⟩,N,vals,bag,en,ed,ofv⟩:=W0
   rw [qel] at x1
   rw [wV,qel] at hen
   simp only at hen hea' bd bs bw bl bc g7p
   simp only [sA.1,simprocAttr,-Int.reduceNatCast',ht,e2,e4,e5,b0,gV,l0,l3,gO,z1,x1,hen,Od,Os,Ow,Oc,bd,bs,bw,bc,Vd,Vs,Vw,hBg,hBq,hea'] at hw
   simp only [qn3] at rng
   have hqg:G.length + (m.length + 1) < g.length:=by omega
   generalize hr2:qm h.length Wd (.rfun (.t 52) _ _ qw2) _ = r2 at hw
   obtain ⟨x,st',rfl,F,rfl,hFl,⟨rfl,f0,f2,fq⟩ | ⟨rfl,f2⟩⟩:=qaB hr2 (rng _ (by simp only [sA.1,simprocAttr,-Int.reduceNatCast',ht]) (by simp only [sA.1,simprocAttr,-Int.reduceNatCast',ht,e2]) (by simp only [sA.1,simprocAttr,-Int.reduceNatCast',ht,e3]) (by simp only [sA.1,simprocAttr,-Int.reduceNatCast',ht,e4]) (by simp only [sA.1,simprocAttr,-Int.reduceNatCast',ht,e5]) (by simp only [sA.1,simprocAttr,-Int.reduceNatCast',ht]) (by simp only [sA.1,simprocAttr,-Int.reduceNatCast',ht]) (by simp only [sA.1,simprocAttr,-Int.reduceNatCast',ht]))
   ·have k0:h.length < F.length:=by omega
    have k2:h.length + 2 < F.length:=by omega
    have kq:G.length + (m.length + 1) < F.length:=by omega
    have zz:((l.length:Int) == (l.length:Int)) = true:=by simp
    simp only [sA.1,simprocAttr,-Int.reduceNatCast',ht,e2,e4,f0,f2,fq,k0,k2,kq,zz,hB2] at hw
    subst hw
    exact qfL _ _ _ _
   ·have k2:h.length + 2 < F.length:=by omega
    simp only [sA.1,simprocAttr,-Int.reduceNatCast',ht,e4,f2,k2] at hw
    subst hw
    exact qfL _ _ _ _
  case _=>
   have l2:h.length + 2 < G.length:=by omega
   simp only [sA.1,simprocAttr,-Int.reduceNatCast',ht,e4,gT,l2] at hw
   subst hw
   exact qfL _ _ _ _
end
theorem qEh (stop:Int):(run T.get X 60 (.fn 4 [] []) [.lst [] .no,.int .u8 stop] []).map (fun r=>r.1) = some (.ret (.bool true)):=by kernel_rfl
theorem qtv (l:List Wl) (stop:Int) (ho:∀W ∈ l,OkW W):∃g e,Wd (.fn 4 [] []) [.lst (l.map wV) .no,.int .u8 stop] [] = some (.ret (.bool true),g,e):=by
 cases l with
 | nil=>
  obtain ⟨⟨r,g,e⟩,h1,h2⟩:=Option.map_eq_some_iff.1 (qEh stop)
  have h2:r = .ret (.bool true):=h2
  subst h2
  exact ⟨g,e,(qm9 qj6 _).2 ⟨60,h1⟩⟩
 | cons W ls=>exact qsk W ls stop ho
end Go.Proofs.YtnibchoenjmmjaaGreatDoor.AE
namespace Go.Proofs.YtnibchoenjmmjaaGreatDoor
theorem qAw {z:Int} (h:(Lit.int .i64 z).wf = true):AE.I64 z:=by
 simpa [AE.I64,Lit.wf,IntKind.min,IntKind.max,IntKind.bits,IntKind.signed] using h
theorem qfx {n:Nat} {ws:List Go.AE.qa} (h:Go.AE.qcq Tryz.prog n 3 ws):∃z,ws = [.int .i64 z]∧AE.I64 z:=by
 cases n with
 | zero=>exact h.elim
 | succ n=>
  simp only [Go.AE.qcq,Tryz.underlying3] at h
  obtain ⟨z,rfl,hz⟩:=h
  exact ⟨z,rfl,qAw hz⟩
theorem qaT {P:Program} {n:Nat} {t:TypeId} {ws:List Go.AE.qa} {fs:Array Field} (h:Go.AE.qcq P n t ws) (hu:P.underlying t = some (.struct fs)):∃m ass,n = m + 1∧ws = List.flatten ass∧Go.AE.qgJ (Go.AE.qcq P m) (fs.toList.map (·.type)) ass:=by
 cases n with
 | zero=>exact h.elim
 | succ n=>
  simp only [Go.AE.qcq,hu] at h
  obtain ⟨ass,h1,h2⟩:=h
  exact ⟨n,ass,rfl,h1,h2⟩
theorem qlp {P:Program} {n:Nat} {t e:TypeId} {ws:List Go.AE.qa} (h:Go.AE.qcq P n t ws) (hu:P.underlying t = some (.slice e)):∃(m:Nat) (xs:List (List Go.AE.qa)),n = m + 1∧ws = [.lst (xs.map (Go.AE.el P e)) .no]∧∀x ∈ xs,Go.AE.qcq P m e x:=by
 cases n with
 | zero=>exact h.elim
 | succ n=>
  simp only [Go.AE.qcq,hu] at h
  obtain ⟨xs,h1,_,h3⟩:=h
  exact ⟨n,xs,rfl,h1,h3⟩
theorem qc5 {P:Program} {n:Nat} {t:TypeId} {ws:List Go.AE.qa} (h:Go.AE.qcq P n t ws) (hu:P.underlying t = some .string):∃s,ws = [.str s]:=by
 cases n with
 | zero=>exact h.elim
 | succ n=>
  simp only [Go.AE.qcq,hu] at h
  exact ⟨_,h.choose_spec.1⟩
theorem qor {P:Program} {n:Nat} {t:TypeId} {ws:List Go.AE.qa} (h:Go.AE.qcq P n t ws) (hu:P.underlying t = some .bool):∃b,ws = [.bool b]:=by
 cases n with
 | zero=>exact h.elim
 | succ n=>
  simp only [Go.AE.qcq,hu] at h
  exact h
theorem qfr {P:Program} {e:TypeId} (h:Go.AE.qbt P e = true) (x:List Go.AE.qa):Go.AE.el P e x = .agg x:=by
 unfold Go.AE.el
 rw [h]
 rfl
theorem quX {α β γ:Type} {f:α→β} {g:γ→β} {Q:γ→Prop}:∀xs:List α,(∀x ∈ xs,∃y,f x = g y∧Q y)→∃ys:List γ,xs.map f = ys.map g∧∀y ∈ ys,Q y
 | [],_=>⟨[],rfl,fun _ h=>by cases h⟩
 | x :: xs,h=>by
  obtain ⟨y,h1,h2⟩:=h x List.mem_cons_self
  obtain ⟨ys,h3,h4⟩:=quX xs fun z hz=>h z (List.mem_cons_of_mem _ hz)
  refine ⟨y :: ys,by rw [List.map_cons,List.map_cons,h1,h3],fun z hz=>?_⟩
  rcases List.mem_cons.1 hz with rfl | hz
  ·exact h2
  ·exact h4 z hz
theorem qcU {n:Nat} {t e:TypeId} {ws:List Go.AE.qa} {γ:Type} {g:γ→Go.AE.qa} {Q:γ→Prop} (h:Go.AE.qcq Tryz.prog n t ws) (hu:Tryz.prog.underlying t = some (.slice e)) (hk:∀m,m < n→∀x,Go.AE.qcq Tryz.prog m e x→∃y,Go.AE.el Tryz.prog e x = g y∧Q y):∃ys:List γ,ws = [.lst (ys.map g) .no]∧∀y ∈ ys,Q y:=by
 obtain ⟨m,xs,rfl,rfl,hx⟩:=qlp h hu
 obtain ⟨ys,h1,h2⟩:=quX (f:=Go.AE.el Tryz.prog e) (g:=g) (Q:=Q) xs fun x hxs=>hk m (by omega) x (hx x hxs)
 exact ⟨ys,by rw [h1],h2⟩
theorem qol (n:Nat):∀ws:List Go.AE.qa,Go.AE.qcq Tryz.prog n 24 ws→∃e:AE.Exl,ws = e.enc∧∀d,AE.okX d e:=by
 induction n using Nat.strongRecOn with
 | ind n ih=>
  intro ws h
  obtain ⟨m,ass,rfl,rfl,h1⟩:=qaT h Tryz.underlying24
  match ass,h1 with
  | [p,q,r,r2,l],⟨h2,h3,h4,h4',h5,_⟩=>
   obtain ⟨z1,rfl,_⟩:=qfx h2
   obtain ⟨z2,rfl,hz⟩:=qfx h3
   obtain ⟨s,rfl⟩:=qc5 h4 Tryz.underlying9
   obtain ⟨s2,rfl⟩:=qc5 h4' Tryz.underlying9
   obtain ⟨ys,rfl,hy⟩:=qcU (g:=AE.exV) (Q:=fun e=>∀d,AE.okX d e) h5 Tryz.underlying22 fun k hk x hx=>by
    obtain ⟨e,rfl,h6⟩:=ih k (by omega) x hx
    exact ⟨e,qfr (by kernel_rfl) _,h6⟩
   refine ⟨.mk z1 z2 s s2 ys,by rw [AE.qci];rfl,fun d=>?_⟩
   cases d with
   | zero=>exact trivial
   | succ d=>exact ⟨hz,fun a ha=>hy a ha d⟩
theorem qiz (n:Nat):∀ws:List Go.AE.qa,Go.AE.qcq Tryz.prog n 65 ws→∃t:AE.Tp,ws = t.enc:=by
 induction n using Nat.strongRecOn with
 | ind n ih=>
  intro ws h
  obtain ⟨m,ass,rfl,rfl,h1⟩:=qaT h Tryz.underlying65
  match ass,h1 with
  | [p,l],⟨h2,h5,_⟩=>
   obtain ⟨z1,rfl,_⟩:=qfx h2
   obtain ⟨ys,rfl,_⟩:=qcU (g:=AE.tpV) (Q:=fun _=>True) h5 Tryz.underlying63 fun k hk x hx=>by
    obtain ⟨e,rfl⟩:=ih k (by omega) x hx
    exact ⟨e,qfr (by kernel_rfl) _,trivial⟩
   exact ⟨.mk z1 ys,by rw [AE.qai];rfl⟩
theorem quu (n:Nat):∀ws:List Go.AE.qa,Go.AE.qcq Tryz.prog n 37 ws→∃v:AE.Val,ws = v.enc∧AE.okV v:=by
 induction n using Nat.strongRecOn with
 | ind n ih=>
  intro ws h
  obtain ⟨m,ass,rfl,rfl,h1⟩:=qaT h Tryz.underlying37
  match ass,h1 with
  | [p,q,r,l],⟨h2,h3,h4,h5,_⟩=>
   obtain ⟨z1,rfl,_⟩:=qfx h2
   obtain ⟨z2,rfl,hz⟩:=qfx h3
   obtain ⟨s,rfl⟩:=qc5 h4 Tryz.underlying9
   obtain ⟨ys,rfl,hy⟩:=qcU (g:=AE.qa7) (Q:=AE.okV) h5 Tryz.underlying29 fun k hk x hx=>by
    obtain ⟨e,rfl,h6⟩:=ih k (by omega) x hx
    exact ⟨e,qfr (by kernel_rfl) _,h6⟩
   exact ⟨.mk z1 z2 s ys,by rw [AE.qch];rfl,by rw [AE.okV];exact ⟨hz,AE.qfc.2 hy⟩⟩
theorem qf4 {n:Nat} {ws:List Go.AE.qa} (h:Go.AE.qcq Tryz.prog n 29 ws):∃vs:List AE.Val,ws = [.lst (vs.map AE.qa7) .no]∧∀v ∈ vs,AE.okV v:=
 qcU h Tryz.underlying29 fun k _ x hx=>by
  obtain ⟨e,rfl,h6⟩:=quu k x hx
  exact ⟨e,qfr (by kernel_rfl) _,h6⟩
theorem qkC {n:Nat} {ws:List Go.AE.qa} (h:Go.AE.qcq Tryz.prog n 25 ws):∃vs:List (AE.Str×AE.Str×AE.Tp),ws = [.lst (vs.map AE.nvV) .no]∧∀v ∈ vs,True:=
 qcU h Tryz.underlying25 fun k _ x hx=>by
  obtain ⟨m,ass,rfl,rfl,h1⟩:=qaT hx Tryz.underlying91
  match ass,h1 with
  | [p,q,t],⟨h2,h3,h4,_⟩=>
   obtain ⟨s,rfl⟩:=qc5 h2 Tryz.underlying9
   obtain ⟨s2,rfl⟩:=qc5 h3 Tryz.underlying9
   obtain ⟨t,rfl⟩:=qiz m _ h4
   refine ⟨(s,s2,t),?_,trivial⟩
   rw [qfr (by kernel_rfl)]
   simp [AE.nvV]
theorem qmA {n:Nat} {ws:List Go.AE.qa} (h:Go.AE.qcq Tryz.prog n 26 ws):∃vs:List (AE.Str×AE.Tp),ws = [.lst (vs.map AE.npV) .no]∧∀v ∈ vs,True:=
 qcU h Tryz.underlying26 fun k _ x hx=>by
  obtain ⟨m,ass,rfl,rfl,h1⟩:=qaT hx Tryz.underlying77
  match ass,h1 with
  | [p,t],⟨h2,h4,_⟩=>
   obtain ⟨s,rfl⟩:=qc5 h2 Tryz.underlying9
   obtain ⟨t,rfl⟩:=qiz m _ h4
   refine ⟨(s,t),?_,trivial⟩
   rw [qfr (by kernel_rfl)]
   simp [AE.npV]
theorem qrQ {n:Nat} {ws:List Go.AE.qa} (h:Go.AE.qcq Tryz.prog n 30 ws):∃b:List (List AE.Val),ws = [AE.qal b]∧∀l ∈ b,∀v ∈ l,AE.okV v:=
 qcU (g:=fun l:List AE.Val=>.lst (l.map AE.qa7) .no) (Q:=fun l=>∀v ∈ l,AE.okV v) h Tryz.underlying30 fun k _ x hx=>by
  obtain ⟨vs,rfl,h6⟩:=qf4 hx
  refine ⟨vs,?_,h6⟩
  unfold Go.AE.el
  rw [show Go.AE.qbt Tryz.prog 29 = false by kernel_rfl]
  rfl
theorem qm0 {n:Nat} {ws:List Go.AE.qa} (h:Go.AE.qcq Tryz.prog n 34 ws):∃W:AE.Wl,Go.AE.qa.agg ws = AE.wV W∧AE.OkW W:=by
 obtain ⟨m,ass,rfl,rfl,h1⟩:=qaT h Tryz.underlying34
 match ass,h1 with
 | [a,b,c,d,e,f],⟨ha,hb,hc,hd,he,hf,_⟩=>
  obtain ⟨x,rfl,hx⟩:=qol m _ ha
  obtain ⟨vs,rfl,hv⟩:=qf4 hc
  obtain ⟨bg,rfl,hbg⟩:=qrQ hd
  obtain ⟨os,rfl,ho⟩:=qf4 hf
  obtain ⟨m2,ass2,rfl,rfl,h2⟩:=qaT hb Tryz.underlying28
  obtain ⟨m3,ass3,_,rfl,h3⟩:=qaT he Tryz.underlying32
  match ass2,h2,ass3,h3 with
  | [p,q,r,s],⟨hp,hq,hr,hs,_⟩,[t,u],⟨ht,hu,_⟩=>
   obtain ⟨nv,rfl,_⟩:=qkC hp
   obtain ⟨np,rfl,_⟩:=qmA hq
   obtain ⟨bq,rfl⟩:=qor hr Tryz.underlying4
   obtain ⟨no,rfl,_⟩:=qkC hs
   obtain ⟨en,rfl,hen⟩:=qfx ht
   obtain ⟨ed,rfl,hed⟩:=qfx hu
   refine ⟨⟨x,⟨nv,np,bq,no⟩,vs,bg,en,ed,os⟩,?_,⟨hx 20,hv,hbg,ho,hen,hed⟩⟩
   rw [AE.wV,AE.wC,AE.qfb]
   simp
theorem qj5 {n:Nat} {ws:List Go.AE.qa} (h:Go.AE.qcq Tryz.prog n 57 ws):∃l:List AE.Wl,ws = [.lst (l.map AE.wV) .no]∧∀W ∈ l,AE.OkW W:=
 qcU h Tryz.underlying57 fun k _ x hx=>by
  obtain ⟨W,h1,h2⟩:=qm0 hx
  exact ⟨W,by rw [qfr (by kernel_rfl)];exact h1,h2⟩
end Go.Proofs.YtnibchoenjmmjaaGreatDoor
