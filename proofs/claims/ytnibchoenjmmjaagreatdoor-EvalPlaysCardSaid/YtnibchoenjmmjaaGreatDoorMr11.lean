/- A part of the proof: the abstract executor and what goes through it (part 11). No condition. -/
import Derived.Test.YtnibchoenjmmjaaGreatDoorMr10
set_option maxRecDepth 100000
set_option maxHeartbeats 0
open List renaming getElem?_append_left→ja,getElem?_eq_some_iff→jd,getElem?_set_ne→jf,getElem?_set_self→jg,drop_eq_getElem_cons→jV,getElem?_eq_getElem→jh,length_append→ji,length_map→jW,append_assoc→jp,map_append→j9,getElem?_map→jr,length_cons→jA,length_nil→jB
open Nat renaming le_refl→jm,le_of_ble_eq_true→j8
open Bool renaming not_true→j3,not_false→j4,or_false→jO,or_true→j5,false_or→jP,eq_false_iff→Ja
namespace Go.Proofs.YtnibchoenjmmjaaGreatDoor.AE
open Go.AE
structure Nd where
 op:Int
 n:Int
 nm:Str
 sb:Str
 pl:Int
 ins:List Int
section
variable (vn pn:List Str)
def fin (op n:Int) (nm sb:Str) (ins:List Int):Nd:=
 bif op == 3 then ⟨op,n,nm,[],0,ins⟩ else
 bif op == 4 then ⟨op,n,[],[],pos vn nm 0,ins⟩ else
 bif op == 5 then ⟨op,n,nm,sb,0,ins⟩ else
 bif op == 7 then ⟨op,n,[],[],pos pn nm 0,ins⟩ else
 bif op == 8 then ⟨op,n,[],[],pos pn nm 0,ins⟩ else
 bif op == 9 then ⟨op,n,[],[],pos pn nm 0,ins⟩ else
 bif op == 10 then ⟨op,n,[],[],pos pn nm 0,ins⟩ else ⟨op,n,[],[],0,ins⟩
def qa8 (f:Nat->Exl->List Nd) (b:Nat):List Exl->List Nd->List Int->List Nd×List Int
 | [],out,ins=>(out,ins)
 | a :: aS,out,ins=>qa8 f b aS (out ++ f (b + out.length) a) (ins ++ [((b + (out ++ f (b + out.length) a).length:Nat):Int) - 1])
def low:Nat->Nat->Exl->List Nd
 | 0,_,_=>[]
 | d + 1,b,.mk op n nm sb aS=>(qa8 (low d) b aS [] []).1 ++ [fin vn pn op n nm sb (qa8 (low d) b aS [] []).2]
end
def sz:Nat->Exl->Nat
 | 0,_=>0
 | d + 1,.mk _ _ _ _ aS=>1 + (aS.map (sz d)).sum
theorem qhb {vn pn:List Str} {d:Nat} (hd:∀b e,(low vn pn d b e).length = sz d e) (b:Nat):∀(aS:List Exl) (out:List Nd) (ins:List Int),(qa8 (low vn pn d) b aS out ins).1.length = out.length + (aS.map (sz d)).sum
 | [],out,ins=>by rw [qa8];simp
 | a :: aS,out,ins=>by
  rw [qa8,qhb hd b aS]
  simp [hd]
  omega
theorem qkl {vn pn:List Str}:∀(d b:Nat) (e:Exl),(low vn pn d b e).length = sz d e
 | 0,_,_=>rfl
 | d + 1,b,.mk op n nm sb aS=>by
  rw [low,sz,ji,qhb (qkl d)]
  simp
  omega
theorem qwu {f g:Exl->Nat} (h:∀e,f e <= g e):∀aS:List Exl,(aS.map f).sum <= (aS.map g).sum
 | []=>jm _
 | a :: aS=>by
  have:=qwu h aS
  have:=h a
  simp
  omega
theorem qsl:∀(d:Nat) (e:Exl),sz d e <= sz (d + 1) e
 | 0,e=>by rw [sz];omega
 | d + 1,.mk op n nm sb aS=>by
  rw [sz,sz]
  have:=qwu (qsl d) aS
  omega
theorem qkL (d:Nat) (e:Exl):∀k,sz d e <= sz (d + k) e
 | 0=>jm _
 | k + 1=>Nat.le_trans (qkL d e k) (qsl (d + k) e)
def Ins (H:Nat->Option qb) (ins:List Int) (I:qa):Prop:=(ins = []/\I = .lst [] .full)\/∃id,I = .sl id 0 ins.length ins.length 1/\H id = some (.cells (ins.map (.int .i64)))
def qjt (H:Nat->Option qb) (x:Nd) (r:List qa):Prop:=∃I,r = [.int .i64 x.op,.int .i64 x.n,.str x.nm,.str x.sb,.int .i64 x.pl,I]/\Ins H x.ins I
def Rows (H:Nat->Option qb):List Nd->List (List qa)->Prop
 | [],[]=>True
 | x :: ns,r :: rs=>qjt H x r/\Rows H ns rs
 | _,_=>False
theorem Ins.mono {H H':Nat->Option qb} (hs:Sub H H') {ins:List Int} {I:qa} (h:Ins H ins I):Ins H' ins I:=by
 rcases h with h | ⟨id,e,hi⟩
 ·exact .inl h
 ·exact .inr ⟨id,e,hs _ _ hi⟩
theorem Ins.facts {H:Nat->Option qb} {ins:List Int} {I:qa} (h:Ins H ins I):I.dim = I/\I.storable = true/\(∀i t,qz I i t = t)/\qbB false I = some (.int .i64 (ins.length:Nat)):=by
 rcases h with ⟨rfl,rfl⟩ | ⟨id,rfl,_⟩ <;> exact ⟨rfl,rfl,λ_ _=>rfl,rfl⟩
theorem Rows.mono {H H':Nat->Option qb} (hs:Sub H H'):∀{ns:List Nd} {rs:List (List qa)},Rows H ns rs->Rows H' ns rs
 | [],[],_=>trivial
 | _ :: _,_ :: _,⟨⟨I,e,hI⟩,h⟩=>⟨⟨I,e,hI.mono hs⟩,h.mono hs⟩
theorem Rows.snoc {H:Nat->Option qb} {x:Nd} {r:List qa} (hr:qjt H x r):∀{ns:List Nd} {rs:List (List qa)},Rows H ns rs->Rows H (ns ++ [x]) (rs ++ [r])
 | [],[],_=>⟨hr,trivial⟩
 | _ :: _,_ :: _,⟨h1,h⟩=>⟨h1,h.snoc hr⟩
theorem Rows.length {H:Nat->Option qb}:∀{ns:List Nd} {rs:List (List qa)},Rows H ns rs->rs.length = ns.length
 | [],[],_=>rfl
 | _ :: _,_ :: _,⟨_,h⟩=>by rw [jA,jA,h.length]
theorem qjt.six {H:Nat->Option qb} {x:Nd} {r:List qa} (h:qjt H x r):r.length = 6/\qb0 r:=by
 obtain ⟨I,rfl,hI⟩:=h
 obtain ⟨a,b,_⟩:=hI.facts
 refine ⟨rfl,λc hc=>?_⟩
 simp only [List.mem_cons,List.not_mem_nil,or_false] at hc
 rcases hc with rfl | rfl | rfl | rfl | rfl | rfl <;> first | exact ⟨rfl,rfl⟩ | exact ⟨a,b⟩
theorem Rows.six {H:Nat->Option qb}:∀{ns:List Nd} {rs:List (List qa)},Rows H ns rs->∀r ∈ rs,r.length = 6/\qb0 r
 | [],[],_,_,hr=>nomatch hr
 | _ :: _,_ :: _,⟨h1,h⟩,r,hr=>by
  rcases List.mem_cons.1 hr with rfl | hr
  ·exact h1.six
  ·exact h.six r hr
theorem Rows.still {H:Nat->Option qb} {ns:List Nd} {rs:List (List qa)} (h:Rows H ns rs):qb0 rs.flatten:=λc hc=>by
 obtain ⟨r,hr,hc⟩:=List.mem_flatten.1 hc
 exact (h.six r hr).2 c hc
theorem Rows.len {H:Nat->Option qb} {ns:List Nd} {rs:List (List qa)} (h:Rows H ns rs):rs.flatten.length = ns.length * 6:=by
 rw [qc5 λr hr=>(h.six r hr).1,h.length]
theorem Rows.get {H:Nat->Option qb}:∀{ns:List Nd} {rs:List (List qa)},Rows H ns rs->∀i (h1:i < ns.length) (h2:i < rs.length),qjt H ns[i] rs[i]
 | _ :: _,_ :: _,⟨h,_⟩,0,_,_=>h
 | _ :: _,_ :: _,⟨_,h⟩,i + 1,h1,h2=>h.get i (by simpa using h1) (by simpa using h2)
def Tab (H:Nat->Option qb) (g:List qb) (t:Nat) (ns:List Nd) (V:qa):Prop:=Cov H g/\H t = none/\((ns = []/\V = .lst [] .full)\/∃rs,V = .sl t 0 ns.length ns.length 6/\ns ≠ []/\g[t]? = some (.cells rs.flatten)/\Rows H ns rs)
theorem Tab.facts {H:Nat->Option qb} {g:List qb} {t:Nat} {ns:List Nd} {V:qa} (h:Tab H g t ns V):V.dim = V/\V.storable = true/\(∀i t,qz V i t = t)/\qbB false V = some (.int .i64 (ns.length:Nat)):=by
 rcases h with ⟨_,_,⟨rfl,rfl⟩ | ⟨rs,rfl,_⟩⟩ <;> exact ⟨rfl,rfl,λ_ _=>rfl,rfl⟩
theorem qul {base:Nat} {H:Nat->Option qb} {g:List qb} {ins:List Int} {I:qa} {id:Nat} (hl:ins.length <= 100000) (x:Int)
  (hI:(ins = []/\I = .lst [] .full)\/(I = .sl id 0 ins.length ins.length 1/\ins ≠ []/\g[id]? = some (.cells (ins.map (.int .i64))))) :
  ∃g',hop base (.app 1) [I,.sl g.length 0 1 1 0] (g ++ [.cells [.int .i64 x]]) = some (.sl (g.length + 1) 0 (ins ++ [x]).length (ins ++ [x]).length 1,g',false)/\g'.length = g.length + 2/\(∀i,i < g.length->(ins ≠ []->i ≠ id)->g'[i]? = g[i]?)/\g'[g.length + 1]? = some (.cells ((ins ++ [x]).map (.int .i64))):=by
 have E:∀l:List Int,qb0 (l.map (.int .i64)):=λl c hc=>by
  obtain ⟨y,_,rfl⟩:=List.mem_map.1 hc
  exact ⟨rfl,rfl⟩
 have h2:(g ++ [qb.cells [.int .i64 x]])[g.length]? = some (.cells ([x].map (.int .i64))):=by rw [qY];rfl
 have B:(g ++ [qb.cells [.int .i64 x]]).length = g.length + 1:=by simp
 rcases hI with ⟨rfl,rfl⟩ | ⟨rfl,M,hid⟩
 ·refine ⟨_,by rw [qcb (k:=1) h2 rfl (E _),B];rfl,by simp,λi hi _=>?_,?_⟩
  ·rw [jp,ja hi]
  ·rw [<-B,qY]
   rfl
 ·have hlt:id < g.length:=(jd.1 hid).1
  have h1:(g ++ [qb.cells [.int .i64 x]])[id]? = some (.cells (ins.map (.int .i64))):=by rw [ja hlt];exact hid
  refine ⟨_,by rw [qc2 (k:=1) h1 h2 rfl (by simp) (E _) (E _) hl zo,B,ji];rfl,by simp,λi hi J=>?_,?_⟩
  ·rw [ja (by simp;omega),jf (λe=>J M e.symm),ja hi]
  ·rw [show g.length + 1 = ((g ++ [qb.cells [.int .i64 x]]).set id .dead).length by simp,qY,j9]
   rfl
theorem qvw {base:Nat} {H:Nat->Option qb} {g:List qb} {t:Nat} {ns:List Nd} {V:qa} (hT:Tab H g t ns V) (hl:ns.length <= 100000) {x:Nd} {r:List qa} (hr:qjt H x r) :
  ∃g',hop base (.app 6) [V,.sl g.length 0 1 1 0] (g ++ [.cells r]) = some (.sl (g.length + 1) 0 (ns ++ [x]).length (ns ++ [x]).length 6,g',false)/\g'.length = g.length + 2/\(∀i,i < g.length->(ns ≠ []->i ≠ t)->g'[i]? = g[i]?)/\Tab H g' (g.length + 1) (ns ++ [x]) (.sl (g.length + 1) 0 (ns ++ [x]).length (ns ++ [x]).length 6):=by
 obtain ⟨hC,ht,hT⟩:=hT
 obtain ⟨J,I⟩:=hr.six
 have h2:(g ++ [qb.cells r])[g.length]? = some (.cells r):=by rw [qY];rfl
 have B:(g ++ [qb.cells r]).length = g.length + 1:=by simp
 have E:H (g.length + 1) = none:=hC.late zo
 rcases hT with ⟨rfl,rfl⟩ | ⟨rs,rfl,O,hid,hR⟩
 ·refine ⟨_,by rw [qcb h2 J I,B];rfl,by simp,λi hi _=>?_,(hC.more _).more _,E,.inr ⟨[r],rfl,by simp,?_,hr,trivial⟩⟩
  ·rw [jp,ja hi]
  ·rw [<-B,qY]
   simp
 ·have hlt:t < g.length:=(jd.1 hid).1
  have h1:(g ++ [qb.cells r])[t]? = some (.cells rs.flatten):=by rw [ja hlt];exact hid
  refine ⟨_,by rw [qc2 h1 h2 J hR.len I hR.still hl zo,B,ji];rfl,by simp,λi hi M=>?_,((hC.more _).set ht _).more _,E,.inr ⟨rs ++ [r],rfl,by simp,?_,hR.snoc hr⟩⟩
  ·rw [ja (by simp;omega),jf (λe=>M O e.symm),ja hi]
  ·rw [show g.length + 1 = ((g ++ [qb.cells r]).set t .dead).length by simp,qY]
   simp
theorem qcI {n:Nat} (h:n ≠ 0) (v:qa) (H:List qb):qaE n (.ret v) H true = (.ret v,H,true):=by simp [qaE,h]
theorem qAn {a b:Nat} (h:b < a):Nat.ble a b = false:=Ja.2 λe=>by
 have:a <= b:=j8 e
 omega
def qhu (H:Nat->Option qb) (vs:List Vr) (V:qa):Prop:=(vs = []/\V = .lst [] .full)\/∃id,V = .sl id 0 vs.length vs.length 4/\H id = some (.cells (vs.map vrR).flatten)
theorem qhu.at {H:Nat->Option qb} {vs:List Vr} {V:qa} (h:qhu H vs V) {g:List qb} (hc:Cov H g):qh9 g vs V:=by
 rcases h with h | ⟨id,e,hi⟩
 ·exact .inl h
 ·exact .inr ⟨id,e,hc _ _ hi⟩
theorem qhu.facts {H:Nat->Option qb} {vs:List Vr} {V:qa} (h:qhu H vs V):V.dim = V/\V.storable = true/\∀i t,qz V i t = t:=by
 rcases h with ⟨_,rfl⟩ | ⟨id,rfl,_⟩ <;> exact ⟨rfl,rfl,λ_ _=>rfl⟩
theorem qhu.mono {H H':Nat->Option qb} (hs:Sub H H') {vs:List Vr} {V:qa} (h:qhu H vs V):qhu H' vs V:=by
 rcases h with h | ⟨id,e,hi⟩
 ·exact .inl h
 ·exact .inr ⟨id,e,hs _ _ hi⟩
structure Pre (vs:List Vr) (V P:qa) (L:Nat) (H:Nat->Option qb) (g:List qb) (t:Nat) (ns:List Nd) (Tb:qa):Prop where
 tab:Tab H g t ns Tb
 box:g[L]? = some (.cells [Tb,V,P])
 hno:H L = none
 ne:t ≠ L
 lt:t < g.length
 vars:qhu H vs V
structure qFc (vs:List Vr) (V P:qa) (L:Nat) (H:Nat->Option qb) (g:List qb) (t:Nat) (H':Nat->Option qb) (g':List qb) (t':Nat) (ns:List Nd) (Tb':qa):Prop where
 pre:Pre vs V P L H' g' t' ns Tb'
 more:g.length <= g'.length
 keep:∀i,i < g.length->i ≠ L->i ≠ t->g'[i]? = g[i]?
 told:∀i,i < g.length->H' i = H i
 young:g.length <= t'
def qCu (vs:List Vr) (ps:List Pt) (V:qa) (L d:Nat):Prop:=∀(e:Exl),(∃k,Fit k e)->dOK d e = true->∀(H:Nat->Option qb) (g:List qb) (t:Nat) (ns:List Nd) (Tb:qa),ns.length + sz d e <= 10000->Pre vs V (.lst (ps.map ptV) .no) L H g t ns Tb->
    ∃H' g' t' Tb',Wd (.fn 41 [] []) [.ptr L 0,exV e] g = some (.ret (.int .i64 (((ns.length + (low (vs.map (·.nm)) (ps.map (·.nm)) d ns.length e).length:Nat):Int) - 1)),g',true)/\
     qFc vs V (.lst (ps.map ptV) .no) L H g t H' g' t' (ns ++ low (vs.map (·.nm)) (ps.map (·.nm)) d ns.length e) Tb'
theorem Pre.more {vs:List Vr} {V P:qa} {L:Nat} {H:Nat->Option qb} {g:List qb} {t:Nat} {ns:List Nd} {Tb:qa} (h:Pre vs V P L H g t ns Tb) (l:List qb):Pre vs V P L H (g ++ l) t ns Tb:=by
 have hL:L < g.length:=(jd.1 h.box).1
 refine ⟨⟨h.tab.1.more l,h.tab.2.1,?_⟩,by rw [ja hL];exact h.box,h.hno,h.ne,by have:=h.lt;simp;omega,h.vars⟩
 rcases h.tab.2.2 with e | ⟨rs,e,B,hi,hR⟩
 ·exact .inl e
 ·exact .inr ⟨rs,e,B,by rw [ja h.lt];exact hi,hR⟩
theorem Pre.put {vs:List Vr} {V P:qa} {L:Nat} {H:Nat->Option qb} {g g':List qb} {t:Nat} {ns:List Nd} {Tb:qa} (h:Pre vs V P L H g t ns Tb) {A:Nat->Prop} (E:g.length <= g'.length) (hk:∀i,i < g.length->¬ A i->g'[i]? = g[i]?) (hA:∀i,A i->H i = none/\i ≠ L/\i ≠ t):Pre vs V P L H g' t ns Tb:=by
 have hL:L < g.length:=(jd.1 h.box).1
 refine ⟨⟨λi x hi=>?_,h.tab.2.1,?_⟩,?_,h.hno,h.ne,by have:=h.lt;omega,h.vars⟩
 ·rw [hk i (h.tab.1.lt hi) λha=>by rw [(hA i ha).1] at hi;cases hi]
  exact h.tab.1 i x hi
 ·rcases h.tab.2.2 with e | ⟨rs,e,B,hi,hR⟩
  ·exact .inl e
  ·exact .inr ⟨rs,e,B,by rw [hk t h.lt λha=>(hA t ha).2.2 rfl];exact hi,hR⟩
 ·rw [hk L hL λha=>(hA L ha).2.1 rfl]
  exact h.box
structure Lp (vs:List Vr) (ps:List Pt) (V:qa) (L d:Nat) (op n:Int) (nm sb:Str) (aS:List Exl) (ns:List Nd) (g:List qb) (t0:Nat) (Hg:Nat->Option qb) (i:Nat) (H:Nat->Option qb) (G:List qb) (t:Nat) (out:List Nd) (ins:List Int) (I:qa) (j:Nat) (Tb:qa):Prop where
 pre:Pre vs V (.lst (ps.map ptV) .no) L H G t (ns ++ out) Tb
 b2:g.length + 2 <= G.length
 bB:G[g.length]? = some (.cells [.int .i64 op,.int .i64 n,.str nm,.str sb,.lst (aS.map exV) .no])
 bN:G[g.length + 1]? = some (.cells [.int .i64 op,.int .i64 n,.str [],.str [],.int .i64 0,I])
 hI:(ins = []/\I = .lst [] .full)\/(I = .sl j 0 ins.length ins.length 1/\ins ≠ []/\G[j]? = some (.cells (ins.map (.int .i64)))/\g.length + 2 <= j/\j ≠ t/\H j = none)
 tB:t < g.length\/g.length + 2 <= t
 hB:H (g.length + 1) = none
 keep:∀i,i < g.length->i ≠ L->i ≠ t0->G[i]? = g[i]?
 told:∀i,i < g.length->H i = Hg i
 ty:t = t0\/g.length <= t
 gat:qa8 (low (vs.map (·.nm)) (ps.map (·.nm)) d) ns.length (aS.drop i) out ins = qa8 (low (vs.map (·.nm)) (ps.map (·.nm)) d) ns.length aS [] []
 inl:ins.length = i
 len:ns.length + out.length + ((aS.drop i).map (sz d)).sum + 1 <= 10000
theorem Lp.facts {vs:List Vr} {ps:List Pt} {V:qa} {L d:Nat} {op n:Int} {nm sb:Str} {aS:List Exl} {ns:List Nd} {g:List qb} {t0:Nat} {Hg:Nat->Option qb} {i:Nat} {H:Nat->Option qb} {G:List qb} {t:Nat} {out:List Nd} {ins:List Int} {I:qa} {j:Nat} {Tb:qa} (h:Lp vs ps V L d op n nm sb aS ns g t0 Hg i H G t out ins I j Tb):I.dim = I/\I.storable = true/\∀i t,qz I i t = t:=by
 rcases h.hI with ⟨_,rfl⟩ | ⟨rfl,_⟩ <;> exact ⟨rfl,rfl,λ_ _=>rfl⟩
section
variable {vs:List Vr} {ps:List Pt} {V:qa} {L d:Nat}
theorem qyr {op n:Int} {nm sb:Str} {aS:List Exl} {ns:List Nd} {g:List qb} {t0:Nat} {Hg:Nat->Option qb} {i:Nat} {H:Nat->Option qb} {G:List qb} {t:Nat} {out:List Nd} {ins:List Int} {I:qa} {j:Nat} {Tb:qa} (h:Lp vs ps V L d op n nm sb aS ns g t0 Hg i H G t out ins I j Tb) (hA:qCu vs ps V L d) (hL:L < g.length) (hi:i < aS.length) (hl:aS.length <= 20) (hf:∀a ∈ aS,∃k,Fit k a) (hD:∀a ∈ aS,dOK d a = true) :
  ∃(x:Int) (H2:Nat->Option qb) (G2:List qb) (t2:Nat) (a7:qa) (ac:List Nd) (G3:List qb),Wd (.fn 41 [] []) [.ptr L 0,exV aS[i]] (G ++ [.cells aS[i].enc]) = some (.ret (.int .i64 x),G2,true)/\
   (G ++ [.cells aS[i].enc])[g.length + 1]? = some (.cells [.int .i64 op,.int .i64 n,.str [],.str [],.int .i64 0,I])/\G2[g.length + 1]? = some (.cells [.int .i64 op,.int .i64 n,.str [],.str [],.int .i64 0,I])/\(G2 ++ [.cells [.int .i64 x]])[g.length + 1]? = some (.cells [.int .i64 op,.int .i64 n,.str [],.str [],.int .i64 0,I])/\G3[g.length + 1]? = some (.cells [.int .i64 op,.int .i64 n,.str [],.str [],.int .i64 0,I])/\
   hop g.length (.app 1) [I,.sl G2.length 0 1 1 0] (G2 ++ [.cells [.int .i64 x]]) = some (.sl (G2.length + 1) 0 (ins ++ [x]).length (ins ++ [x]).length 1,G3,false)/\
   Lp vs ps V L d op n nm sb aS ns g t0 Hg (i + 1) H2 (G3.set (g.length + 1) (.cells [.int .i64 op,.int .i64 n,.str [],.str [],.int .i64 0,.sl (G2.length + 1) 0 (ins ++ [x]).length (ins ++ [x]).length 1])) t2 ac (ins ++ [x]) (.sl (G2.length + 1) 0 (ins ++ [x]).length (ins ++ [x]).length 1) (G2.length + 1) a7:=by
 obtain ⟨pre,b2,bB,bN,hI,tB,hB,keep,told,ty,a1,inl,len⟩:=h
 have e1:(aS.drop i).map (sz d) = sz d aS[i] :: (aS.drop (i + 1)).map (sz d):=by rw [jV hi,List.map_cons]
 rw [e1,List.sum_cons] at len
 obtain ⟨H2,G2,t2,a7,hr,post⟩:=hA aS[i] (hf _ (List.getElem_mem hi)) (hD _ (List.getElem_mem hi)) H (G ++ [.cells aS[i].enc]) t (ns ++ out) Tb (by simp;omega) (pre.more _)
 obtain ⟨M,a8,E,J,S⟩:=post
 rw [jV hi,qa8] at a1
 generalize hx:(((ns.length + (out ++ low (vs.map (·.nm)) (ps.map (·.nm)) d (ns.length + out.length) aS[i]).length:Nat):Int) - 1) = x at a1
 have ad:((((ns ++ out).length + (low (vs.map (·.nm)) (ps.map (·.nm)) d (ns ++ out).length aS[i]).length:Nat):Int) - 1) = x:=by
  rw [<-hx,ji,ji,Nat.add_assoc]
 rw [ad] at hr
 have gl:(G ++ [qb.cells aS[i].enc]).length = G.length + 1:=by simp
 rw [gl] at a8 E J S
 have ab:(G ++ [qb.cells aS[i].enc])[g.length + 1]? = some (.cells [.int .i64 op,.int .i64 n,.str [],.str [],.int .i64 0,I]):=by rw [ja zo];exact bN
 have a6:G2[g.length + 1]? = some (.cells [.int .i64 op,.int .i64 n,.str [],.str [],.int .i64 0,I]):=by rw [E _ zo zo zo];exact ab
 have af:(ins = []/\I = .lst [] .full)\/(I = .sl j 0 ins.length ins.length 1/\ins ≠ []/\G2[j]? = some (.cells (ins.map (.int .i64)))):=by
  rcases hI with h | ⟨a,b,c,c1,c2,c3⟩
  ·exact .inl h
  ·have hj:j < G.length:=(jd.1 c).1
   exact .inr ⟨a,b,by rw [E j zo zo c2,ja hj];exact c⟩
 have O:ins ≠ []->g.length + 2 <= j/\H2 j = none/\j ≠ t2/\j < G.length:=by
  intro B
  rcases hI with ⟨h,_⟩ | ⟨a,b,c,c1,c2,c3⟩
  ·exact absurd h B
  ·have hj:j < G.length:=(jd.1 c).1
   exact ⟨c1,by rw [J j zo];exact c3,zo,hj⟩
 obtain ⟨G3,ae,l3,k3,n3⟩:=qul (base:=g.length) (H:=H2) (g:=G2) (id:=j) zo x af
 have ah:G3[g.length + 1]? = some (.cells [.int .i64 op,.int .i64 n,.str [],.str [],.int .i64 0,I]):=by
  rw [k3 _ zo λB=>by have:=(O B).1;omega]
  exact a6
 have ai:=M.lt
 refine ⟨x,H2,G2,t2,a7,out ++ low (vs.map (·.nm)) (ps.map (·.nm)) d (ns.length + out.length) aS[i],G3,hr,ab,a6,by rw [ja zo];exact a6,ah,ae,?_⟩
 rw [show (ns ++ out).length = ns.length + out.length by rw [ji],jp] at M
 have U:∀(X:qb) (i:Nat),i < G2.length->¬ (i = g.length + 1\/(ins ≠ []/\i = j))->(G3.set (g.length + 1) X)[i]? = G2[i]?:=λX i hi hn=>by
  rw [jf λe=>hn (.inl e.symm),k3 i hi λB e=>hn (.inr ⟨B,e⟩)]
 have aa:H2 (g.length + 1) = none:=by rw [J _ zo];exact hB
 refine ⟨M.put (A:=λi=>i = g.length + 1\/(ins ≠ []/\i = j)) (by simp;omega) (U _) ?_,by simp;omega,?_,?_,?_,zo,aa,?_,?_,zo,a1,by simp;omega,?_⟩
 ·rintro i (rfl | ⟨B,rfl⟩)
  ·exact ⟨aa,zo,zo⟩
  ·obtain ⟨q1,q2,q3,_⟩:=O B
   exact ⟨q2,zo,q3⟩
 ·rw [U _ _ zo (by rintro (h | ⟨B,h⟩);omega;have:=(O B).1;omega),E _ zo zo zo,ja zo]
  exact bB
 ·rw [jg zo]
 ·refine .inr ⟨rfl,by simp,?_,zo,zo,M.tab.1.late zo⟩
  rw [jf zo]
  exact n3
 ·intro i hi h1 h2
  rw [U _ _ zo (by rintro (h | ⟨B,h⟩);omega;have:=(O B).1;omega),E _ zo h1 (by rcases ty with rfl | h;exact h2;omega),ja zo]
  exact keep i hi h1 h2
 ·intro i hi
  rw [J i zo]
  exact told i hi
 ·rw [ji,qkl]
  omega
end
section
variable {vs:List Vr} {ps:List Pt} {V:qa} {L d:Nat}
theorem qsS {op n:Int} {nm sb:Str} {aS:List Exl} {ns:List Nd} {g:List qb} {t0:Nat} {Hg:Nat->Option qb} (hA:qCu vs ps V L d) (hL:L < g.length) (hl:aS.length <= 20) (hf:∀a ∈ aS,∃k,Fit k a) (hD:∀a ∈ aS,dOK d a = true) :
  ∀q st,(∃(tt:List qa) (ef:Bool) (i:Nat) (H:Nat->Option qb) (G:List qb) (t:Nat) (out:List Nd) (ins:List Int) (I:qa) (j:Nat) (Tb:qa),st = ⟨tt,G,ef⟩/\tt.length = 83/\lkp tt 0 = .ptr L 0/\lkp tt 3 = .ptr g.length 0/\lkp tt 5 = .ptr (g.length + 1) 0/\lkp tt 14 = .lst (aS.map exV) .no/\lkp tt 15 = .int .i64 (aS.length:Nat)/\lkp tt 16 = .int .i64 (i:Nat)/\i + q = aS.length/\Lp vs ps V L d op n nm sb aS ns g t0 Hg i H G t out ins I j Tb)->
   ∃x J,qj g.length Wd (.loop qmT) st = some (x,J)/\(x = .exit 0/\∃(tt:List qa) (ef:Bool) (H:Nat->Option qb) (G:List qb) (t:Nat) (out:List Nd) (ins:List Int) (I:qa) (j:Nat) (Tb:qa),J = ⟨tt,G,ef⟩/\tt.length = 83/\lkp tt 0 = .ptr L 0/\lkp tt 3 = .ptr g.length 0/\lkp tt 5 = .ptr (g.length + 1) 0/\Lp vs ps V L d op n nm sb aS ns g t0 Hg aS.length H G t out ins I j Tb):=by
 refine qx _ _ ?_
 rintro q st ⟨tt,ef,i,H,G,t,out,ins,I,j,Tb,rfl,ht,e0,e3,e5,E,B,S,ah,lp⟩
 generalize he:qj g.length Wd qmT _ = r
 rcases Nat.lt_or_ge i aS.length with hi | hi
 ·have c1:ilt (i:Int) (aS.length:Int) = true:=qzX zo
  have w:=qaf (n:=i) zo
  obtain ⟨ad,ac,ab⟩:=lp.facts
  have ai:=lp.b2
  obtain ⟨x,H2,G2,t2,af,U,G3,hr,b1,b2,b3,b4,O,M⟩:=qyr lp hA hL hi hl hf hD
  generalize (ins ++ [x]).length = N at O M
  have hg:(aS.map exV)[i]? = some (exV aS[i]):=by rw [jr,jh hi];rfl
  generalize aS[i] = y at hr hg b1
  obtain ⟨a6,n',a7,a1,ae⟩:=y
  rw [qD] at hg
  rw [qD,qb3] at hr
  rw [qb3] at b1
  have hx:qar 5 (.lst (aS.map exV) .no) (.int .i64 (i:Nat)) = some (.iptr [.int .i64 a6,.int .i64 n',.str a7,.str a1,.lst (ae.map exV) .no] 0):=qa4 hg rfl
  have aa:Nat.ble g.length G.length = true:=qf zo
  have a8:Nat.ble g.length (g.length + 1) = true:=qf zo
  simp only [sA.1,qmT,seval,qEo,ht,e0,e3,e5,E,B,S,c1,hx,aa,a8,hr,b1,b2,b3,b4,O,ad,ac,ab,w,j5,jO] at he
  subst he
  refine .inl ⟨_,q - 1,rfl,zo,_,_,i + 1,H2,_,t2,U,_,_,_,af,rfl,?_,?_,?_,?_,?_,?_,?_,zo,M⟩
  ·simp only [qaX,ht]
  ·simp only [sB.1,seval,ht,e0]
  ·simp only [sB.1,seval,ht,e3]
  ·simp only [sB.1,seval,ht,e5]
  ·simp only [sB.1,seval,ht,E]
  ·simp only [sB.1,seval,ht,B]
  ·simp only [sB.1,seval,ht]
 ·have c1:ilt (i:Int) (aS.length:Int) = false:=qzW zo
  have:i = aS.length:=zo
  subst this
  simp only [sB.1,qmT,seval,ht,e0,e3,e5,E,B,S,c1] at he
  subst he
  refine .inr ⟨_,_,rfl,by simp,rfl,_,ef,H,G,t,out,ins,I,j,Tb,rfl,?_,?_,?_,?_,lp⟩
  ·simp only [qaX,ht]
  ·simp only [sB.1,seval,ht,e0]
  ·simp only [sB.1,seval,ht,e3]
  ·simp only [sB.1,seval,ht,e5]
theorem qdn {op n:Int} {nm sb:Str} {aS:List Exl} {ns:List Nd} {g:List qb} {t0:Nat} {Hg:Nat->Option qb} {H:Nat->Option qb} {G:List qb} {t:Nat} {out:List Nd} {ins:List Int} {I:qa} {j:Nat} {Tb:qa} {i:Nat} (h:Lp vs ps V L d op n nm sb aS ns g t0 Hg i H G t out ins I j Tb) (hL:L < g.length) (x:Nd) (hx:x.ins = ins) :
  ∃(H':Nat->Option qb) (G6:List qb),
   hop g.length (.app 6) [Tb,.sl G.length 0 1 1 0] (G.set (g.length + 1) (.cells [.int .i64 x.op,.int .i64 x.n,.str x.nm,.str x.sb,.int .i64 x.pl,I]) ++ [.cells [.int .i64 x.op,.int .i64 x.n,.str x.nm,.str x.sb,.int .i64 x.pl,I]]) = some (.sl (G.length + 1) 0 (ns ++ out ++ [x]).length (ns ++ out ++ [x]).length 6,G6,false)/\
   (∀X,(G.set (g.length + 1) X)[g.length + 1]? = some X)/\(∀X,(G.set (g.length + 1) X)[g.length]? = some (.cells [.int .i64 op,.int .i64 n,.str nm,.str sb,.lst (aS.map exV) .no]))/\(∀X,(G.set (g.length + 1) X)[L]? = some (.cells [Tb,V,.lst (ps.map ptV) .no]))/\
   (∀X Y,(G.set (g.length + 1) X ++ [Y])[g.length + 1]? = some X)/\(∀X Y,(G.set (g.length + 1) X ++ [Y])[L]? = some (.cells [Tb,V,.lst (ps.map ptV) .no]))/\
   G6[g.length + 1]? = some (.cells [.int .i64 x.op,.int .i64 x.n,.str x.nm,.str x.sb,.int .i64 x.pl,I])/\G6[L]? = some (.cells [Tb,V,.lst (ps.map ptV) .no])/\
   (∀X,(G6.set L X)[L]? = some X)/\
   qFc vs V (.lst (ps.map ptV) .no) L Hg g t0 H' (G6.set L (.cells [.sl (G.length + 1) 0 (ns ++ out ++ [x]).length (ns ++ out ++ [x]).length 6,V,.lst (ps.map ptV) .no])) (G.length + 1) (ns ++ (out ++ [x])) (.sl (G.length + 1) 0 (ns ++ out ++ [x]).length (ns ++ out ++ [x]).length 6):=by
 obtain ⟨pre,b2,bB,bN,hI,tB,hB,keep,told,ty,ab,inl,len⟩:=h
 obtain ⟨H',aa,M,a8,a7,S,U⟩ :∃H':Nat->Option qb,(∀i,i < g.length->H' i = H i)/\Sub H H'/\Ins H' ins I/\H' t = none/\H' L = none/\(H' (g.length + 1) = none/\Cov H' G):=by
  rcases hI with ⟨h1,h2⟩ | ⟨rfl,E,hj,h1,h2,h3⟩
  ·exact ⟨H,λ_ _=>rfl,λ_ _ h=>h,.inl ⟨h1,h2⟩,pre.tab.2.1,pre.hno,hB,pre.tab.1⟩
  ·refine ⟨λi=>if i = j then some (.cells (ins.map (.int .i64))) else H i,λi hi=>if_neg zo,λi y hy=>?_,.inr ⟨j,rfl,if_pos rfl⟩,?_,?_,?_,λi y hy=>?_⟩
   ·have:i ≠ j:=λe=>by subst e;rw [h3] at hy;cases hy
    simp only [this,if_false,hy]
   ·exact (if_neg λe=>h2 e.symm).trans pre.tab.2.1
   ·exact (if_neg zo).trans pre.hno
   ·exact (if_neg zo).trans hB
   ·have B:(if i = j then some (qb.cells (ins.map (.int .i64))) else H i) = some y:=hy
    by_cases e:i = j
    ·subst e
     rw [if_pos rfl] at B
     cases B
     exact hj
    ·rw [if_neg e] at B
     exact pre.tab.1 i y B
 have hlt:=pre.lt
 have a1:∀X,Tab H' (G.set (g.length + 1) X) t (ns ++ out) Tb:=λX=>⟨U.2.set U.1 X,a7,by
  rcases pre.tab.2.2 with e | ⟨rs,e,E,hi,hR⟩
  ·exact .inl e
  ·exact .inr ⟨rs,e,E,by rw [jf zo];exact hi,hR.mono M⟩⟩
 have a6:qjt H' x [.int .i64 x.op,.int .i64 x.n,.str x.nm,.str x.sb,.int .i64 x.pl,I]:=⟨I,rfl,by rw [hx];exact a8⟩
 obtain ⟨G6,O,l6,k6,J⟩:=qvw (base:=g.length) (a1 (.cells [.int .i64 x.op,.int .i64 x.n,.str x.nm,.str x.sb,.int .i64 x.pl,I])) (by rw [ji];omega) a6
 have gl:∀X,(G.set (g.length + 1) X).length = G.length:=λX=>by simp
 rw [gl] at O l6 k6 J
 have f1:∀X,(G.set (g.length + 1) X)[g.length + 1]? = some X:=λX=>jg zo
 have f2:∀X,(G.set (g.length + 1) X)[g.length]? = some (.cells [.int .i64 op,.int .i64 n,.str nm,.str sb,.lst (aS.map exV) .no]):=λX=>by rw [jf zo];exact bB
 have f3:∀X,(G.set (g.length + 1) X)[L]? = some (.cells [Tb,V,.lst (ps.map ptV) .no]):=λX=>by rw [jf zo];exact pre.box
 have tL:=pre.ne
 refine ⟨H',G6,O,f1,f2,f3,λX Y=>?_,λX Y=>?_,?_,?_,λX=>jg zo,?_⟩
 ·rw [ja (by rw [gl];omega)]
  exact f1 X
 ·rw [ja (by rw [gl];omega)]
  exact f3 X
 ·rw [k6 _ zo λ_=>by omega]
  exact f1 _
 ·rw [k6 _ zo λ_=>by omega]
  exact f3 _
 ·obtain ⟨c6,n6,t6⟩:=J
  rw [<-jp]
  refine ⟨⟨⟨c6.set S _,n6,?_⟩,jg zo,S,zo,by simp;omega,pre.vars.mono M⟩,by simp;omega,λi hi h1 h2=>?_,λi hi=>?_,zo⟩
  ·rcases t6 with ⟨e,_⟩ | ⟨rs,e,E,hi,hR⟩
   ·simp at e
   ·exact .inr ⟨rs,rfl,E,by rw [jf zo];exact hi,hR⟩
  ·rw [jf zo,k6 i zo (λ_=>by rcases ty with rfl | h;exact h2;omega),jf zo]
   exact keep i hi h1 h2
  ·rw [aa i hi]
   exact told i hi
end
theorem qFP (vs:List Vr) (ps:List Pt) (V:qa) (L:Nat) (au:vs.length <= 100000) (av:ps.length <= 100000):∀d,qCu vs ps V L d:=by
 intro d
 induction d with
 | zero=>
  intro e _ hd
  rw [dOK] at hd
  cases hd
 | succ d ih=>
  rintro ⟨op,n,nm,sb,aS⟩ ⟨k,hk⟩ hd H g t0 ns al ap af
  obtain ⟨k,rfl⟩ :∃k',k = k' + 1:=by cases k with | zero=>exact hk.elim | succ k=>exact ⟨k,rfl⟩
  have hf:∀a ∈ aS,∃k,Fit k a:=λa ha=>⟨k,hk.2 a ha⟩
  rw [dOK,List.all_eq_true] at hd
  rw [sz] at ap
  have hL:L < g.length:=(jd.1 af.box).1
  have ah:=af.vars
  obtain ⟨aa,a8,a7⟩:=ah.facts
  have ar:Lp vs ps V L d op n nm sb aS ns g t0 H 0 H (g ++ [.cells [.int .i64 op,.int .i64 n,.str nm,.str sb,.lst (aS.map exV) .no],.cells [.int .i64 op,.int .i64 n,.str [],.str [],.int .i64 0,.lst [] .full]]) t0 [] [] (.lst [] .full) 0 al:=by
   refine ⟨by rw [List.append_nil];exact af.more _,by simp,by rw [qY];rfl,?_,.inl ⟨rfl,rfl⟩,.inl af.lt,af.tab.1.late zo,λi hi _ _=>ja hi,λ_ _=>rfl,.inl rfl,rfl,rfl,?_⟩
   ·rw [List.getElem?_append_right zo,show g.length + 1 - g.length = 1 by omega]
    rfl
   ·simp
    omega
  generalize hw:Wd _ _ g = w
  rw [qD,qm 41 c41] at hw
  simp only [sA.1,c41,seval,qcJ,qa9] at hw
  generalize hr:qj g.length Wd (.loop qmT) _ = r at hw
  obtain ⟨x,aB,rfl,rfl,tt,ef,H,G,t,out,ins,I,j,Tb,rfl,ht,e0,e3,e5,lp⟩:=qaH hr (qsS ih hL hk.1 hf hd aS.length _ ⟨_,_,0,H,_,t0,[],[],.lst [] .full,0,al,rfl,Y1,Y1,Y1,Y1,Y1,Y1,u4,zo,ar⟩)
  obtain ⟨O,M,ae⟩:=lp.facts
  have J:=λb a1 a2 a3 a4 a5 h=>qHi b a1 a2 a3 a4 a5 I O M h
  have bB:=lp.bB
  have bN:=lp.bN
  have box:=lp.pre.box
  have b2:=lp.b2
  obtain ⟨ad,ac,ab,_⟩:=lp.pre.tab.facts
  have ay:=lp.pre.vars.at lp.pre.tab.1
  have S:=λs=>qkQ (h:=G) vs V ay s au
  have a6:=λs=>qi5 (h:=G) ps s av
  have q1:Nat.ble g.length L = false:=qAn hL
  have q2:Nat.blt (G.length + 1) (L + 1) = false:=qde zo
  have q3:Nat.ble g.length (g.length + 1) = true:=qf zo
  have U:∀X Y:qb,(G.set (g.length + 1) X).set (g.length + 1) Y = G.set (g.length + 1) Y:=λX Y=>List.set_set ..
  have g0:g.length ≠ 0:=zo
  have ak:=lp.gat
  rw [List.drop_eq_nil_of_le (jm _),qa8] at ak
  have am:low (vs.map (·.nm)) (ps.map (·.nm)) (d + 1) ns.length (.mk op n nm sb aS) = out ++ [fin (vs.map (·.nm)) (ps.map (·.nm)) op n nm sb ins]:=by rw [low,<-ak]
  rw [am]
  have aA:=lp.len
  by_cases h3:op = 3
  ·subst h3
   have E:fin (vs.map (·.nm)) (ps.map (·.nm)) 3 n nm sb ins = ⟨3,n,nm,[],0,ins⟩:=rfl
   rw [E]
   obtain ⟨H',G6,B,f1,f2,f3,f4,f5,n6,l6,f7,post⟩:=qdn lp hL (⟨3,n,nm,[],0,ins⟩ :Nd) rfl
   have hN:(ns ++ out ++ [(⟨3,n,nm,[],0,ins⟩ :Nd)]).length = ns.length + (out ++ [(⟨3,n,nm,[],0,ins⟩ :Nd)]).length:=by simp only [ji,jA,jB];omega
   have wN:IntKind.i64.wrap (((ns.length + (out ++ [(⟨3,n,nm,[],0,ins⟩ :Nd)]).length:Nat):Int) - 1) = ((ns.length + (out ++ [(⟨3,n,nm,[],0,ins⟩ :Nd)]).length:Nat):Int) - 1:=qbj (by simp only [ji,jA,jB];omega) (by simp only [ji,jA,jB];omega)
   rw [hN] at B post
   generalize ns.length + (out ++ [(⟨3,n,nm,[],0,ins⟩ :Nd)]).length = N at B post wN ⊢
   simp only [sA.1,seval,qcJ,qa9,ht,e0,e3,e5,bB,bN,box,O,M,ae,aa,a8,a7,ad,ac,ab,J,f1,f2,f3,f4,f5,B,n6,l6,f7,q1,q2,q3,wN,U,S,a6,j5,jO,Bool.or_self,j4] at hw
   subst hw
   exact ⟨H',_,_,_,congrArg some (qcI g0 _ _),post⟩
  by_cases h4:op = 4
  ·subst h4
   have E:fin (vs.map (·.nm)) (ps.map (·.nm)) 4 n nm sb ins = ⟨4,n,[],[],pos (vs.map (·.nm)) nm 0,ins⟩:=rfl
   rw [E]
   obtain ⟨H',G6,B,f1,f2,f3,f4,f5,n6,l6,f7,post⟩:=qdn lp hL (⟨4,n,[],[],pos (vs.map (·.nm)) nm 0,ins⟩ :Nd) rfl
   have hN:(ns ++ out ++ [(⟨4,n,[],[],pos (vs.map (·.nm)) nm 0,ins⟩ :Nd)]).length = ns.length + (out ++ [(⟨4,n,[],[],pos (vs.map (·.nm)) nm 0,ins⟩ :Nd)]).length:=by simp only [ji,jA,jB];omega
   have wN:IntKind.i64.wrap (((ns.length + (out ++ [(⟨4,n,[],[],pos (vs.map (·.nm)) nm 0,ins⟩ :Nd)]).length:Nat):Int) - 1) = ((ns.length + (out ++ [(⟨4,n,[],[],pos (vs.map (·.nm)) nm 0,ins⟩ :Nd)]).length:Nat):Int) - 1:=qbj (by simp only [ji,jA,jB];omega) (by simp only [ji,jA,jB];omega)
   rw [hN] at B post
   generalize ns.length + (out ++ [(⟨4,n,[],[],pos (vs.map (·.nm)) nm 0,ins⟩ :Nd)]).length = N at B post wN ⊢
   simp only [sA.1,seval,qcJ,qa9,ht,e0,e3,e5,bB,bN,box,O,M,ae,aa,a8,a7,ad,ac,ab,J,f1,f2,f3,f4,f5,B,n6,l6,f7,q1,q2,q3,wN,U,S,a6,j5,jO,Bool.or_self,j4] at hw
   subst hw
   exact ⟨H',_,_,_,congrArg some (qcI g0 _ _),post⟩
  by_cases h5:op = 5
  ·subst h5
   have E:fin (vs.map (·.nm)) (ps.map (·.nm)) 5 n nm sb ins = ⟨5,n,nm,sb,0,ins⟩:=rfl
   rw [E]
   obtain ⟨H',G6,B,f1,f2,f3,f4,f5,n6,l6,f7,post⟩:=qdn lp hL (⟨5,n,nm,sb,0,ins⟩ :Nd) rfl
   have hN:(ns ++ out ++ [(⟨5,n,nm,sb,0,ins⟩ :Nd)]).length = ns.length + (out ++ [(⟨5,n,nm,sb,0,ins⟩ :Nd)]).length:=by simp only [ji,jA,jB];omega
   have wN:IntKind.i64.wrap (((ns.length + (out ++ [(⟨5,n,nm,sb,0,ins⟩ :Nd)]).length:Nat):Int) - 1) = ((ns.length + (out ++ [(⟨5,n,nm,sb,0,ins⟩ :Nd)]).length:Nat):Int) - 1:=qbj (by simp only [ji,jA,jB];omega) (by simp only [ji,jA,jB];omega)
   rw [hN] at B post
   generalize ns.length + (out ++ [(⟨5,n,nm,sb,0,ins⟩ :Nd)]).length = N at B post wN ⊢
   simp only [sA.1,seval,qcJ,qa9,ht,e0,e3,e5,bB,bN,box,O,M,ae,aa,a8,a7,ad,ac,ab,J,f1,f2,f3,f4,f5,B,n6,l6,f7,q1,q2,q3,wN,U,S,a6,j5,jO,Bool.or_self,j4] at hw
   subst hw
   exact ⟨H',_,_,_,congrArg some (qcI g0 _ _),post⟩
  by_cases h7:op = 7
  ·subst h7
   have E:fin (vs.map (·.nm)) (ps.map (·.nm)) 7 n nm sb ins = ⟨7,n,[],[],pos (ps.map (·.nm)) nm 0,ins⟩:=rfl
   rw [E]
   obtain ⟨H',G6,B,f1,f2,f3,f4,f5,n6,l6,f7,post⟩:=qdn lp hL (⟨7,n,[],[],pos (ps.map (·.nm)) nm 0,ins⟩ :Nd) rfl
   have hN:(ns ++ out ++ [(⟨7,n,[],[],pos (ps.map (·.nm)) nm 0,ins⟩ :Nd)]).length = ns.length + (out ++ [(⟨7,n,[],[],pos (ps.map (·.nm)) nm 0,ins⟩ :Nd)]).length:=by simp only [ji,jA,jB];omega
   have wN:IntKind.i64.wrap (((ns.length + (out ++ [(⟨7,n,[],[],pos (ps.map (·.nm)) nm 0,ins⟩ :Nd)]).length:Nat):Int) - 1) = ((ns.length + (out ++ [(⟨7,n,[],[],pos (ps.map (·.nm)) nm 0,ins⟩ :Nd)]).length:Nat):Int) - 1:=qbj (by simp only [ji,jA,jB];omega) (by simp only [ji,jA,jB];omega)
   rw [hN] at B post
   generalize ns.length + (out ++ [(⟨7,n,[],[],pos (ps.map (·.nm)) nm 0,ins⟩ :Nd)]).length = N at B post wN ⊢
   simp only [sA.1,seval,qcJ,qa9,ht,e0,e3,e5,bB,bN,box,O,M,ae,aa,a8,a7,ad,ac,ab,J,f1,f2,f3,f4,f5,B,n6,l6,f7,q1,q2,q3,wN,U,S,a6,j5,jO,Bool.or_self,j4] at hw
   subst hw
   exact ⟨H',_,_,_,congrArg some (qcI g0 _ _),post⟩
  by_cases h8:op = 8
  ·subst h8
   have E:fin (vs.map (·.nm)) (ps.map (·.nm)) 8 n nm sb ins = ⟨8,n,[],[],pos (ps.map (·.nm)) nm 0,ins⟩:=rfl
   rw [E]
   obtain ⟨H',G6,B,f1,f2,f3,f4,f5,n6,l6,f7,post⟩:=qdn lp hL (⟨8,n,[],[],pos (ps.map (·.nm)) nm 0,ins⟩ :Nd) rfl
   have hN:(ns ++ out ++ [(⟨8,n,[],[],pos (ps.map (·.nm)) nm 0,ins⟩ :Nd)]).length = ns.length + (out ++ [(⟨8,n,[],[],pos (ps.map (·.nm)) nm 0,ins⟩ :Nd)]).length:=by simp only [ji,jA,jB];omega
   have wN:IntKind.i64.wrap (((ns.length + (out ++ [(⟨8,n,[],[],pos (ps.map (·.nm)) nm 0,ins⟩ :Nd)]).length:Nat):Int) - 1) = ((ns.length + (out ++ [(⟨8,n,[],[],pos (ps.map (·.nm)) nm 0,ins⟩ :Nd)]).length:Nat):Int) - 1:=qbj (by simp only [ji,jA,jB];omega) (by simp only [ji,jA,jB];omega)
   rw [hN] at B post
   generalize ns.length + (out ++ [(⟨8,n,[],[],pos (ps.map (·.nm)) nm 0,ins⟩ :Nd)]).length = N at B post wN ⊢
   simp only [sA.1,seval,qcJ,qa9,ht,e0,e3,e5,bB,bN,box,O,M,ae,aa,a8,a7,ad,ac,ab,J,f1,f2,f3,f4,f5,B,n6,l6,f7,q1,q2,q3,wN,U,S,a6,j5,jO,Bool.or_self,j4] at hw
   subst hw
   exact ⟨H',_,_,_,congrArg some (qcI g0 _ _),post⟩
  by_cases h9:op = 9
  ·subst h9
   have E:fin (vs.map (·.nm)) (ps.map (·.nm)) 9 n nm sb ins = ⟨9,n,[],[],pos (ps.map (·.nm)) nm 0,ins⟩:=rfl
   rw [E]
   obtain ⟨H',G6,B,f1,f2,f3,f4,f5,n6,l6,f7,post⟩:=qdn lp hL (⟨9,n,[],[],pos (ps.map (·.nm)) nm 0,ins⟩ :Nd) rfl
   have hN:(ns ++ out ++ [(⟨9,n,[],[],pos (ps.map (·.nm)) nm 0,ins⟩ :Nd)]).length = ns.length + (out ++ [(⟨9,n,[],[],pos (ps.map (·.nm)) nm 0,ins⟩ :Nd)]).length:=by simp only [ji,jA,jB];omega
   have wN:IntKind.i64.wrap (((ns.length + (out ++ [(⟨9,n,[],[],pos (ps.map (·.nm)) nm 0,ins⟩ :Nd)]).length:Nat):Int) - 1) = ((ns.length + (out ++ [(⟨9,n,[],[],pos (ps.map (·.nm)) nm 0,ins⟩ :Nd)]).length:Nat):Int) - 1:=qbj (by simp only [ji,jA,jB];omega) (by simp only [ji,jA,jB];omega)
   rw [hN] at B post
   generalize ns.length + (out ++ [(⟨9,n,[],[],pos (ps.map (·.nm)) nm 0,ins⟩ :Nd)]).length = N at B post wN ⊢
   simp only [sA.1,seval,qcJ,qa9,ht,e0,e3,e5,bB,bN,box,O,M,ae,aa,a8,a7,ad,ac,ab,J,f1,f2,f3,f4,f5,B,n6,l6,f7,q1,q2,q3,wN,U,S,a6,j5,jO,Bool.or_self,j4] at hw
   subst hw
   exact ⟨H',_,_,_,congrArg some (qcI g0 _ _),post⟩
  by_cases aj:op = 10
  ·subst aj
   have E:fin (vs.map (·.nm)) (ps.map (·.nm)) 10 n nm sb ins = ⟨10,n,[],[],pos (ps.map (·.nm)) nm 0,ins⟩:=rfl
   rw [E]
   obtain ⟨H',G6,B,f1,f2,f3,f4,f5,n6,l6,f7,post⟩:=qdn lp hL (⟨10,n,[],[],pos (ps.map (·.nm)) nm 0,ins⟩ :Nd) rfl
   have hN:(ns ++ out ++ [(⟨10,n,[],[],pos (ps.map (·.nm)) nm 0,ins⟩ :Nd)]).length = ns.length + (out ++ [(⟨10,n,[],[],pos (ps.map (·.nm)) nm 0,ins⟩ :Nd)]).length:=by simp only [ji,jA,jB];omega
   have wN:IntKind.i64.wrap (((ns.length + (out ++ [(⟨10,n,[],[],pos (ps.map (·.nm)) nm 0,ins⟩ :Nd)]).length:Nat):Int) - 1) = ((ns.length + (out ++ [(⟨10,n,[],[],pos (ps.map (·.nm)) nm 0,ins⟩ :Nd)]).length:Nat):Int) - 1:=qbj (by simp only [ji,jA,jB];omega) (by simp only [ji,jA,jB];omega)
   rw [hN] at B post
   generalize ns.length + (out ++ [(⟨10,n,[],[],pos (ps.map (·.nm)) nm 0,ins⟩ :Nd)]).length = N at B post wN ⊢
   simp only [sA.1,seval,qcJ,qa9,ht,e0,e3,e5,bB,bN,box,O,M,ae,aa,a8,a7,ad,ac,ab,J,f1,f2,f3,f4,f5,B,n6,l6,f7,q1,q2,q3,wN,U,S,a6,j5,jO,Bool.or_self,j4] at hw
   subst hw
   exact ⟨H',_,_,_,congrArg some (qcI g0 _ _),post⟩
  have z3:(op == 3) = false:=beq_eq_false_iff_ne.2 h3
  have z4:(op == 4) = false:=beq_eq_false_iff_ne.2 h4
  have z5:(op == 5) = false:=beq_eq_false_iff_ne.2 h5
  have z7:(op == 7) = false:=beq_eq_false_iff_ne.2 h7
  have z8:(op == 8) = false:=beq_eq_false_iff_ne.2 h8
  have z9:(op == 9) = false:=beq_eq_false_iff_ne.2 h9
  have ai:(op == 10) = false:=beq_eq_false_iff_ne.2 aj
  have E:fin (vs.map (·.nm)) (ps.map (·.nm)) op n nm sb ins = ⟨op,n,[],[],0,ins⟩:=by simp only [fin,z3,z4,z5,z7,z8,z9,ai,cond_false]
  rw [E]
  obtain ⟨H',G6,B,f1,f2,f3,f4,f5,n6,l6,f7,post⟩:=qdn lp hL (⟨op,n,[],[],0,ins⟩ :Nd) rfl
  have az:G.set (g.length + 1) (.cells [.int .i64 op,.int .i64 n,.str [],.str [],.int .i64 0,I]) = G:=by
   apply List.ext_getElem?
   intro i
   by_cases e:g.length + 1 = i
   ·subst e
    rw [f1]
    exact bN.symm
   ·rw [jf e]
  have f4:=λY=>f4 (.cells [.int .i64 op,.int .i64 n,.str [],.str [],.int .i64 0,I]) Y
  have f5:=λY=>f5 (.cells [.int .i64 op,.int .i64 n,.str [],.str [],.int .i64 0,I]) Y
  simp only [az] at B f4 f5
  have hN:(ns ++ out ++ [(⟨op,n,[],[],0,ins⟩ :Nd)]).length = ns.length + (out ++ [(⟨op,n,[],[],0,ins⟩ :Nd)]).length:=by simp only [ji,jA,jB];omega
  have wN:IntKind.i64.wrap (((ns.length + (out ++ [(⟨op,n,[],[],0,ins⟩ :Nd)]).length:Nat):Int) - 1) = ((ns.length + (out ++ [(⟨op,n,[],[],0,ins⟩ :Nd)]).length:Nat):Int) - 1:=qbj (by simp only [ji,jA,jB];omega) (by simp only [ji,jA,jB];omega)
  rw [hN] at B post
  generalize ns.length + (out ++ [(⟨op,n,[],[],0,ins⟩ :Nd)]).length = N at B post wN ⊢
  simp only [sA.1,seval,qcJ,qa9,ht,e0,e3,e5,bB,bN,box,O,M,ae,aa,a8,a7,ad,ac,ab,J,f1,f2,f3,f4,f5,B,n6,l6,f7,q1,q2,q3,wN,U,S,a6,j5,jO,Bool.or_self,j4,z3,z4,z5,z7,z8,z9,ai] at hw
  subst hw
  exact ⟨H',_,_,_,congrArg some (qcI g0 _ _),post⟩
section
variable {vs:List Vr} {ps:List Pt} {V:qa} {h:List qb}
end
theorem qxL:∀(d:Nat),d <= 40->∀(e:Exl) (room:Int),-1 <= room->room <= 600->∀h,∃r:Int,Wd (.fn 44 [] []) [exV e,.int .i64 (d:Nat),.int .i64 room] h = some (.ret (.int .i64 r),h,false)∧-1 <= r/\r <= 600/\(0 <= r->Fit d e/\r + sz d e <= room):=by
 intro d
 induction d with
 | zero=>
  rintro _ ⟨op,n,nm,sb,aS⟩ room h1 h2 h
  have z0:(((0:Nat):Int) == 0) = true:=xk
  refine ⟨-1,?_,zo,zo,λh=>zo⟩
  rw [qD,qm 44 c44]
  simp only [sB.1,c44,seval,z0,Bool.true_or]
 | succ d ih=>
  rintro hd ⟨op,n,nm,sb,aS⟩ room h1 h2 h
  have z0:(((d + 1:Nat):Int) == 0) = false:=by rw [beq_eq_false_iff_ne];omega
  obtain ⟨G,hG⟩ :∃G,G = h ++ [qb.cells [.int .i64 op,.int .i64 n,.str nm,.str sb,.lst (aS.map exV) .no]]:=⟨_,rfl⟩
  have S:G[h.length]? = some (.cells [.int .i64 op,.int .i64 n,.str nm,.str sb,.lst (aS.map exV) .no]):=by rw [hG,qY];rfl
  have hlt:h.length < G.length:=by rw [hG];simp
  have aa:G.take h.length = h:=by rw [hG];simp
  rw [qD]
  generalize hw:Wd _ _ h = w
  rw [qm 44 c44] at hw
  cases hc:(ilt room 1 || ilt 20 (aS.length:Int) || ilt 100 (nm.length:Int) || ilt 100 (sb.length:Int)) with
  | true=>
   simp only [sB.1,c44,seval,z0,hc,jP,jW] at hw
   subst hw
   exact ⟨-1,rfl,zo,zo,λh=>zo⟩
  | false=>
   have U:1 <= room/\aS.length <= 20:=by
    simp only [Bool.or_eq_false_iff,qe,decide_eq_false_iff_not] at hc
    omega
   have loop:∀q st,(∃(tt:List qa) (i:Nat) (rm:Int),st = ⟨tt,G,false⟩/\tt.length = 55/\lkp tt 1 = .int .i64 (d + 1:Nat)/\lkp tt 2 = .int .i64 rm/\lkp tt 3 = .ptr h.length 0/\lkp tt 7 = .int .i64 (i:Nat)/\i + q = aS.length∧-1 <= rm/\rm <= 600/\(0 <= rm->(∀j (hj:j < aS.length),j < i->Fit d aS[j])/\rm + (((aS.take i).map (sz d)).sum:Nat) <= room - 1))->
     ∃x I,qj h.length Wd (.loop qj9) st = some (x,I)/\(x = .exit 0/\∃(tt:List qa) (rm:Int),I = ⟨tt,G,false⟩/\tt.length = 55/\lkp tt 2 = .int .i64 rm∧-1 <= rm/\rm <= 600/\(0 <= rm->(∀j (hj:j < aS.length),Fit d aS[j])/\rm + ((aS.map (sz d)).sum:Nat) <= room - 1)):=by
    refine qx _ _ ?_
    rintro q st ⟨tt,i,rm,rfl,ht,e1,e2,e3,e7,ad,M,J,B⟩
    generalize he:qj h.length Wd qj9 _ = r
    rcases Nat.lt_or_ge i aS.length with hi | hi
    ·have c1:ilt (i:Int) (aS.length:Int) = true:=by rw [qe];simp;omega
     by_cases E:0 <= rm
     ·have c2:ile 0 rm = true:=by rw [qaI];simpa using E
      have w:=qaf (n:=i) zo
      have wd:IntKind.i64.wrap (((d + 1:Nat):Int) - 1) = ((d:Nat):Int):=by rw [qbj zo zo];omega
      obtain ⟨r',O,b1,b2,b3⟩:=ih zo aS[i] rm M J G
      have hg:(aS.map exV)[i]? = some (exV aS[i]):=by rw [jr,jh hi];rfl
      have a1:0 <= r'->(∀j (hj:j < aS.length),j < i + 1->Fit d aS[j])/\r' + (((aS.take (i + 1)).map (sz d)).sum:Nat) <= room - 1:=λh0=>by
       refine ⟨λj hj ac=>?_,?_⟩
       ·by_cases e:j = i
        ·subst e
         exact (b3 h0).1
        ·exact (B E).1 j hj zo
       ·have:=(b3 h0).2
        have:=(B E).2
        rw [List.take_succ_eq_append_getElem hi,j9,List.sum_append]
        simp only [List.map_cons,List.map_nil,List.sum_cons,List.sum_nil]
        omega
      generalize aS[i] = y at O hg
      obtain ⟨a7,n',a8,a6,ab⟩:=y
      rw [qD] at O hg
      have hx:qar 5 (.lst (aS.map exV) .no) (.int .i64 (i:Nat)) = some (.iptr [.int .i64 a7,.int .i64 n',.str a8,.str a6,.lst (ab.map exV) .no] 0):=qa4 hg rfl
      simp only [sB.1,qj9,seval,ht,e1,e2,e3,e7,c1,c2,w,wd,hx,S,O,jW] at he
      subst he
      refine .inl ⟨_,q - 1,rfl,zo,_,i + 1,r',rfl,Y0,?_,?_,?_,?_,zo,b1,b2,a1⟩
      ·simp only [sB.1,seval,ht,e1]
      ·simp only [sB.1,seval,ht]
      ·simp only [sB.1,seval,ht,e3]
      ·simp only [sB.1,seval,ht]
     ·have c2:ile 0 rm = false:=by rw [qaI];simpa using E
      simp only [sB.1,qj9,seval,ht,e1,e2,e3,e7,c1,c2,S,jW] at he
      subst he
      exact .inr ⟨_,_,rfl,by simp,rfl,_,rm,rfl,Y0,z14,M,J,λh0=>absurd h0 E⟩
    ·have c1:ilt (i:Int) (aS.length:Int) = false:=by rw [qe];simp;omega
     simp only [sB.1,qj9,seval,ht,e1,e2,e3,e7,c1,S,jW] at he
     subst he
     exact .inr ⟨_,_,rfl,by simp,rfl,_,rm,rfl,Y0,z14,M,J,λh0=>⟨λj hj=>(B h0).1 j hj zo,by have:=(B h0).2;rw [List.take_of_length_le hi] at this;exact this⟩⟩
   have wr:IntKind.i64.wrap (room - 1) = room - 1:=qbj zo zo
   simp only [sB.1,c44,seval,z0,hc,jP,jW,wr] at hw
   generalize hr:qj h.length Wd (.loop qj9) _ = r at hw
   obtain ⟨x,I,rfl,rfl,tt,rm,rfl,ht,e2,b1,b2,b3⟩:=qaH hr (loop aS.length _ ⟨_,0,room - 1,by rw [hG],Y1,Y1,Y1,Y1,u4,zo,zo,zo,λ_=>⟨λj _ h=>absurd h zo,by simp⟩⟩)
   simp only [sB.1,seval,ht,e2] at hw
   subst hw
   refine ⟨rm,congrArg some (qS aa rfl),b1,b2,λh0=>⟨⟨U.2,λa ha=>?_⟩,?_⟩⟩
   ·obtain ⟨j,hj,rfl⟩:=List.getElem_of_mem ha
    exact (b3 h0).1 j hj
   ·have:=(b3 h0).2
    rw [sz]
    omega
theorem qvn (e:Exl) (h:List qb):∃r:Int,Wd (.fn 20 [] []) [.agg [.lst [qEt e] .full,.str []]] h = some (.ret (.int .i64 r),h,false)/\(r = 0\/(r = 1/\Fit 40 e/\sz 40 e <= 600)):=by
 have E:IntKind.i64.wrap (600 - 1) = 599:=xk
 have B:IntKind.i64.wrap 599 = 599:=xk
 have g1:ilt 60 1 = false:=Eq.trans rfl rfl
 have g2:ilt 100 0 = false:=Eq.trans rfl rfl
 have g3:ilt 300 0 = false:=Eq.trans rfl rfl
 have g4:ilt 100 1 = false:=Eq.trans rfl rfl
 have g5:ile 0 600 = true:=Eq.trans rfl rfl
 have g6:ile 0 599 = true:=Eq.trans rfl rfl
 have c40:((40:Nat):Int) = 40:=Eq.trans rfl rfl
 obtain ⟨op,n,nm,sb,aS⟩:=e
 rw [qEt,qD]
 obtain ⟨r,hr,r1,r2,r3⟩:=qxL 40 zo (.mk op n nm sb aS) 599 zo zo (h ++ [.cells [.lst [.agg [.str [],.bool false,.lst [] .full,.lst [] .full,.lst [] .full,.lst [.agg [.int .i64 op,.int .i64 n,.str nm,.str sb,.lst (aS.map exV) .no]] .full,.lst [] .full,.lst [] .full,.lst [] .full,.int .i64 0,.lst [] .full,.lst [] .full,.lst [] .full,.lst [] .full]] .full,.str []],.cells [.str [],.bool false,.lst [] .full,.lst [] .full,.lst [] .full,.lst [.agg [.int .i64 op,.int .i64 n,.str nm,.str sb,.lst (aS.map exV) .no]] .full,.lst [] .full,.lst [] .full,.lst [] .full,.int .i64 0,.lst [] .full,.lst [] .full,.lst [] .full,.lst [] .full]])
 rw [qD,c40] at hr
 have hp:=λr g=>qrK r g
 have hs:=λr g=>qvl r g
 have i1:∀cs:List qa,qar 14 (.lst [.agg cs] .full) (.int .i64 0) = if cs.length = 14 then some (.iptr cs 0) else none:=λcs=>rfl
 have i2:∀cs:List qa,qar 5 (.lst [.agg cs] .full) (.int .i64 0) = if cs.length = 5 then some (.iptr cs 0) else none:=λcs=>rfl
 have l1:∀x:qa,[x].length = 1:=λ_=>rfl
 generalize hw:Wd _ _ h = w
 rw [qm 20 c20] at hw
 by_cases h0:0 <= r
 ·have c0:ile 0 r = true:=by rw [qaI];simpa using h0
  have c1:ilt r 0 = false:=by rw [qe];simpa using h0
  simp only [sA.1,c20,qyf,qyg,qyh,qyi,qyj,qaq,seval,E,B,g1,g2,g3,g4,g5,g6,qf (Nat.le_succ _),j3,z00,z01,z11,cc1,cc0,w01,w1,qBj,l1,i1,i2,hp,hs,hr,c0,c1] at hw
  subst hw
  exact ⟨1,rfl,.inr ⟨rfl,(r3 h0).1,by have:=(r3 h0).2;omega⟩⟩
 ·have c0:ile 0 r = false:=by rw [qaI];simpa using h0
  have c1:ilt r 0 = true:=by rw [qe];simpa using h0
  simp only [sA.1,c20,qyf,qyg,qyh,qyi,qyj,qaq,seval,E,B,g1,g2,g3,g4,g5,g6,qf (Nat.le_succ _),j3,z00,z01,z11,cc1,cc0,w01,w1,qBj,l1,i1,i2,hp,hs,hr,c0,c1] at hw
  subst hw
  exact ⟨0,rfl,.inl rfl⟩
end Go.Proofs.YtnibchoenjmmjaaGreatDoor.AE
