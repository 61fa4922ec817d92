/- A part of the proof. No condition. -/
import Derived.Test.YtcbfifamliijlaaGreatDoorMb11
open Int renaming reduceNatCast'→rN
set_option maxRecDepth 100000
set_option maxHeartbeats 0
open List renaming getElem?_append_left→ja,getElem?_eq_some_iff→jd,getElem?_set_ne→jf,getElem?_eq_getElem→jh,length_append→ji,length_map→jQ,append_assoc→jp,append_nil→jF,map_append→jX,getElem?_map→jr,nil_append→jW,cons_append→jw,length_cons→jy,length_nil→jz,mem_map→jP
open Bool renaming and_eq_true→jk,false_eq_true→jl,true_and→jZ,false_and→jL,not_true→j4
open Nat renaming le_refl→jm,le_trans→jn
namespace Go.Proofs.YtcbfifamliijlaaGreatDoor.AE
open Go.AE
def Shp (k:Nat) (v:qd):Prop:=∃cs,v = .agg cs/\cs.length = k/\cs.all qd.storable = true/\cs.map qd.dim = cs
def qfd:qd->Option Nat
 | .sl id _ _ _ _=>some id
 | _=>none
def SL (G:List qh) (L:List Str) (V:qd):Prop:=(L = []/\V = .lst [] .full)\/∃id,V = .sl id 0 L.length L.length 1/\L ≠ []/\G[id]? = some (.cells (L.map qd.str))
theorem qdy (L:List Str):qio (L.map qd.str):=λc hc=>by
 obtain ⟨s,_,rfl⟩:=jP.1 hc
 exact ⟨rfl,rfl⟩
theorem SL.facts {G:List qh} {L:List Str} {V:qd} (h:SL G L V):V.dim = V/\(∀i t,qbH V i t = t)/\V.storable = true/\qsH false V = some (.int .i64 (L.length:Nat)):=by
 rcases h with ⟨rfl,rfl⟩ | ⟨id,rfl,_,_⟩ <;> exact ⟨rfl,λ_ _=>rfl,rfl,rfl⟩
theorem SL.keep {G G':List qh} {L:List Str} {V:qd} (h:SL G L V) (hk:∀id,qfd V = some id->G'[id]? = G[id]?):SL G' L V:=by
 rcases h with h | ⟨id,rfl,h1,h2⟩
 ·exact .inl h
 ·exact .inr ⟨id,rfl,h1,(hk id rfl).trans h2⟩
theorem SL.lt {G:List qh} {L:List Str} {V:qd} (h:SL G L V) {id:Nat} (hi:qfd V = some id):id < G.length:=by
 rcases h with ⟨_,rfl⟩ | ⟨E,rfl,_,h2⟩
 ·cases hi
 ·cases hi
  exact (jd.1 h2).1
theorem SL.more {G:List qh} {L:List Str} {V:qd} (h:SL G L V) (l:List qh):SL (G ++ l) L V:=h.keep λid hi=>ja (h.lt hi)
theorem qEu (b:Nat) (u:Str) (G:List qh):hop b (.lit 1 [.str []] 1 [0]) [.str u] G = some (.sl G.length 0 1 1 0,G ++ [.cells [.str u]],false):=zk
theorem SL.app {G:List qh} {L:List Str} {V:qd} (h:SL G L V) (hl:L.length <= 100000) (b:Nat) (u:Str) :
  ∃G',hop b (.app 1) [V,.sl G.length 0 1 1 0] (G ++ [.cells [.str u]]) = some (.sl (G.length + 1) 0 (L.length + 1) (L.length + 1) 1,G',false)/\SL G' (L ++ [u]) (.sl (G.length + 1) 0 (L.length + 1) (L.length + 1) 1)/\G'.length = G.length + 2/\∀i,i < G.length->qfd V ≠ some i->G'[i]? = G[i]?:=by
 have h2:(G ++ [qh.cells [.str u]])[G.length]? = some (.cells [.str u]):=by rw [qgS];rfl
 have hs:qio [qd.str u]:=qdy [u]
 rcases h with ⟨rfl,rfl⟩ | ⟨id,rfl,I,hid⟩
 ·have e:=qqo (base:=b) (k:=1) h2 rfl hs
  rw [ji] at e
  refine ⟨_,e,.inr ⟨G.length + 1,rfl,by simp,?_⟩,by simp,λi hi _=>?_⟩
  ·rw [jp,qbm];rfl
  ·rw [jp,ja hi]
 ·have E:=(jd.1 hid).1
  have e:=qu6 (base:=b) (k:=1) (n:=L.length) (show (G ++ [qh.cells [.str u]])[id]? = _ by rw [ja E];exact hid) h2 rfl (by simp) hs (qdy L) hl zo
  rw [ji] at e
  refine ⟨_,e,.inr ⟨G.length + 1,by simp,by simp,?_⟩,by simp,λi hi hn=>?_⟩
  ·have:((G ++ [qh.cells [.str u]]).set id .dead).length = G.length + 1:=by simp
   rw [qdn this];simp
  ·have:id ≠ i:=λe=>hn (by rw [e];rfl)
   rw [ja (by simp;omega),jf this,ja hi]
def Ln (h:List qh) (V:qd) (L:List Str) (r:Option (qdf×List qh×Bool)):Prop:=
 ∃G' V',r = some (.ret V',G',false)/\SL G' L V'/\h.length <= G'.length/\(∀i,i < h.length->qfd V ≠ some i->G'[i]? = h[i]?)/\(V' = V\/∀id,qfd V' = some id->h.length <= id)
def qeS (k:Nat) (z:List qd):qD:=
 (.seq (.reg [ao 14 (.bin .lss (.t 13) (.t 12))]) (.seq (.cond (.t 14) (.skip) (.exit 0)) (.seq (.block 1 (.seq (.reg [ao 15 (.ixaL k (.t 11) (.t 13)),ao 16 (.ld (some k) (.t 15)),ao 10 (.new z),an (.st (some k) (.t 10) (.t 16))])
 (.reg [ao 17 (.mov (.t 0)),ao 18 (.mov (.t 1)),ao 19 (.mov (.t 3)),ao 20 (.ld (some k) (.t 10)),ao 21 (.call (.t 19) [(.t 20)]),ao 22 (.bin .add (.t 18) (.t 21)),ao 23 (.hx (.lit 1 [(.str [])] 1 [0]) [(.t 22)]),ao 24 (.hx (.app 1) [(.t 17),(.t 23)]),ao 0 (.asg (.t 24))])))
 (.reg [ao 25 (.bin .add (.t 13) (.c (.int .i64 1))),ao 13 (.mov (.t 25))]))))
def qzy (k:Nat) (z:List qd):qn:=⟨27,[.tmp 8],(.seq (.reg [ao 8 (.asg (.c (.lst [] .full)))]) (.seq (.seq (.reg [ao 11 (.mov (.t 2)),ao 12 (.len false (.t 11)),ao 13 (.mov (.c (.int .i64 0)))]) (.block 0 (.loop (qeS k z)))) (.seq (.reg [ao 26 (.mov (.t 0)),ao 8 (.asg (.t 26))]) (.ret))))⟩
section
variable {α:Type} {k:Nat} {z:List qd} {l:List α} {en:α->qd} {g F:FuncId} {tf:α->Str} {ah:Str}
theorem qrs (hz:z.length = k) (ai:z.map qd.dim = z) (hs:∀v ∈ l,Shp k (en v)) (hl:l.length <= 1000) (hg:∀v ∈ l,∀h,Wd (.fn g [] []) [en v] h = some (.ret (.str (tf v)),h,false)) (ae:∀v ∈ l,ah.length + (tf v).length <= qi) {H:List qh} {V0:qd} {L0:List Str} (ap:L0.length <= 50000) :
  ∀d st,(∃(tt:List qd) (i:Nat) (G:List qh) (V:qd),st = ⟨tt,G,false⟩/\tt.length = 27/\lkp tt 0 = V/\lkp tt 1 = .str ah/\lkp tt 3 = .fn g [] []/\lkp tt 11 = .lst (l.map en) .no/\lkp tt 12 = .int .i64 (l.length:Nat)/\lkp tt 13 = .int .i64 (i:Nat)/\i + d = l.length/\SL G (L0 ++ (l.take i).map λv=>ah ++ tf v) V/\H.length <= G.length/\(∀i,i < H.length->qfd V0 ≠ some i->G[i]? = H[i]?)/\(V = V0\/∀id,qfd V = some id->H.length <= id))->
   ∃x E,qp H.length Wd (.loop (qeS k z)) st = some (x,E)/\(∃(tt:List qd) (G:List qh) (V:qd),E = ⟨tt,G,false⟩/\tt.length = 27/\lkp tt 0 = V/\SL G (L0 ++ l.map λv=>ah ++ tf v) V/\H.length <= G.length/\(∀i,i < H.length->qfd V0 ≠ some i->G[i]? = H[i]?)/\(V = V0\/∀id,qfd V = some id->H.length <= id)/\x = .exit 0):=by
 refine qao _ (λx E=>(∃(tt:List qd) (G:List qh) (V:qd),E = ⟨tt,G,false⟩/\tt.length = 27/\lkp tt 0 = V/\SL G (L0 ++ l.map λv=>ah ++ tf v) V/\H.length <= G.length/\(∀i,i < H.length->qfd V0 ≠ some i->G[i]? = H[i]?)/\(V = V0\/∀id,qfd V = some id->H.length <= id)/\x = .exit 0)) ?_
 rintro d st ⟨tt,i,G,V,rfl,ht,e0,e1,e3,e11,Y,ad,hid,I,hG,a8,hV⟩
 generalize he:qp H.length Wd (qeS k z) _ = r
 rcases Nat.lt_or_ge i l.length with hi | hi
 ·have c1:ilt (i:Int) (l.length:Int) = true:=qiK zo
  have w:=qC (n:=i) zo
  obtain ⟨cs,ec,s1,s2,s4⟩:=hs l[i] (List.getElem_mem hi)
  have hq:=hg l[i] (List.getElem_mem hi)
  have a7:=ae l[i] (List.getElem_mem hi)
  have a1:(l.take (i + 1)).map (λv=>ah ++ tf v) = (l.take i).map (λv=>ah ++ tf v) ++ [ah ++ tf l[i]]:=by rw [List.take_succ_eq_append_getElem hi,jX];rfl
  generalize am:tf l[i] = u at hq a7 a1
  rw [ec] at hq
  have hx:qfH k (.lst (l.map en) .no) (.int .i64 (i:Nat)) = some (.iptr cs 0):=by
   have:=qar (k:=k) (f:=.no) (j:=.i64) (show (l.map en)[i]? = some (qd.agg cs) by rw [jr,jh hi,Option.map_some,ec]) (by simpa [qd.cells] using s1)
   simpa [qd.cells] using this
  have hd:z.drop k = []:=List.drop_eq_nil_of_le zo
  have hc:Go.AE.cut cs 0 (some k) = some (.agg cs):=by
   rw [qeR zo,List.drop_zero,List.take_of_length_le zo,s4]
  have hB:Nat.ble H.length G.length = true:=qj hG
  have aj:(L0 ++ (l.take i).map λv=>ah ++ tf v).length <= 100000:=by simp;omega
  obtain ⟨Vd,Vw,_,_⟩:=I.facts
  have af:=I.more [qh.cells cs]
  obtain ⟨G',ab,U,ak,aa⟩:=af.app aj H.length (ah ++ u)
  have ac:=qEu H.length (ah ++ u) (G ++ [qh.cells cs])
  rw [jp] at U
  have a6:(G ++ [qh.cells cs]).length = G.length + 1:=by simp
  simp only [jp,jw,jW,a6] at ab ac
  rw [a6] at U ak aa
  simp only [qeS,sT.1,sC.1,qe,seval,-rN,jQ,qgx,qbx,qby,qcn,qc3,ht,e0,e1,e3,e11,Y,ad,c1,hx,ai,hc,s1,s2,s4,hd,hz,hB,hq,a7,Vd,ac,ab,w] at he
  subst he
  refine .inl ⟨_,d - 1,rfl,zo,_,i + 1,G',.sl (G.length + 1 + 1) 0 ((L0 ++ (l.take i).map λv=>ah ++ tf v).length + 1) ((L0 ++ (l.take i).map λv=>ah ++ tf v).length + 1) 1,rfl,Y1,?_,?_,?_,?_,?_,?_,zo,by rw [a1];exact U,zo,λj hj hn=>?_,.inr λid hid=>by cases hid;omega⟩
  rotate_right
  ·have al:qfd V ≠ some j:=λe=>by
    rcases hV with rfl | hV
    ·exact hn e
    ·have:=hV j e;omega
   rw [aa j zo al,ja zo]
   exact a8 j hj hn
  all_goals simp only [sT.1,sC.1,seval,-rN,ht,e1,e3,e11,Y,jQ]
 ·have c1:ilt (i:Int) (l.length:Int) = false:=qis zo
  rw [List.take_of_length_le hi] at I
  simp only [qeS,sT.1,sC.1,qe,seval,-rN,ht,Y,ad,c1] at he
  subst he
  exact .inr ⟨_,_,rfl,by simp,_,G,V,rfl,Y1,u4,I,hG,a8,hV,rfl⟩
theorem qnr (n:Nat) (v:qd) (G:List qh):leave n (.ret v) G false = (.ret v,bif v.lower n then G.take n else G,false):=by
 cases hl:v.lower n <;> simp [leave,hl]
theorem Ln.leave {h G:List qh} {V V':qd} {L:List Str} (hS:SL G L V') (hG:h.length <= G.length) (hk:∀i,i < h.length->qfd V ≠ some i->G[i]? = h[i]?) (hV:V' = V\/∀id,qfd V' = some id->h.length <= id):Ln h V L (some (Go.AE.leave h.length (.ret V') G false)):=by
 rw [qnr]
 cases hl:V'.lower h.length with
 | false=>exact ⟨G,V',rfl,hS,hG,hk,hV⟩
 | true=>
  refine ⟨G.take h.length,V',rfl,hS.keep λid hi=>?_,by simp;omega,λi hi hn=>?_,hV⟩
  ·have:id < h.length:=by
    rcases hS with ⟨_,rfl⟩ | ⟨E,rfl,_,_⟩
    ·cases hi
    ·cases hi
     simpa [qd.lower] using hl
   rw [List.getElem?_take_of_lt this]
  ·rw [List.getElem?_take_of_lt hi];exact hk i hi hn
theorem qfv (hX:X F = none) (hF:T.get F = some (qzy k z)) (hz:z.length = k) (U:z.map qd.dim = z) (hs:∀v ∈ l,Shp k (en v)) (hl:l.length <= 1000) (hg:∀v ∈ l,∀h,Wd (.fn g [] []) [en v] h = some (.ret (.str (tf v)),h,false)) (I:∀v ∈ l,ah.length + (tf v).length <= qi) {h:List qh} {V:qd} {L:List Str} (hL:L.length <= 50000) (hS:SL h L V) :
  Ln h V (L ++ l.map λv=>ah ++ tf v) (Wd (.fn F [] []) [V,.str ah,.lst (l.map en) .no,.fn g [] []] h):=by
 have loop:=qrs (H:=h) (V0:=V) (L0:=L) hz U hs hl hg I hL
 obtain ⟨Vd,Vw,_,_⟩:=hS.facts
 generalize hw:Wd _ _ h = w
 rw [ql _ _ hX hF] at hw
 simp only [qzy,sT.1,sC.1,qe,seval,-rN,jQ,Vd] at hw
 generalize hr:qp h.length Wd (.loop (qeS k z)) _ = r at hw
 obtain ⟨x,a6,rfl,tt,G,V',rfl,ht,e0,E,hG,hk,hV,rfl⟩:=qc0 hr (loop l.length _ ⟨_,0,h,V,rfl,Y0,Y0,Y0,Y0,Y0,Y0,v5,zo,by simpa using hS,jm _,λ_ _ _=>rfl,.inl rfl⟩)
 obtain ⟨a1,Y,_,_⟩:=E.facts
 simp only [sT.1,sC.1,qe,seval,-rN,ht,e0,a1,Y] at hw
 subst hw
 exact Ln.leave E hG hk hV
def qqA (E:FuncId):qn:=⟨39,[.tmp 10],(.seq (.reg [ao 10 (.asg (.c (.lst [] .full)))]) (.seq (.seq (.reg [ao 11 (.mov (.t 3)),ao 12 (.len false (.t 11)),ao 13 (.bin .eql (.t 12) (.c (.int .i64 0)))]) (.cond (.t 13) (.seq (.reg [ao 14 (.mov (.t 0)),ao 15 (.mov (.t 1)),ao 16 (.mov (.t 2)),ao 17 (.bin .add (.t 15) (.t 16)),ao 18 (.bin .add (.t 17) (.c (.str [32,123,125]))),ao 19 (.hx (.lit 1 [(.str [])] 1 [0]) [(.t 18)]),ao 20 (.hx (.app 1) [(.t 14),(.t 19)]),ao 10 (.asg (.t 20))]) (.ret)) (.skip)))
 (.seq (.reg [ao 21 (.mov (.t 0)),ao 22 (.mov (.t 1)),ao 23 (.mov (.t 2)),ao 24 (.bin .add (.t 22) (.t 23)),ao 25 (.bin .add (.t 24) (.c (.str [32,123]))),ao 26 (.hx (.lit 1 [(.str [])] 1 [0]) [(.t 25)]),ao 27 (.hx (.app 1) [(.t 21),(.t 26)]),ao 0 (.asg (.t 27))])
 (.seq (.reg [ao 28 (.mov (.t 0)),ao 29 (.mov (.t 1)),ao 30 (.bin .add (.t 29) (.c (.str [32,32]))),ao 31 (.mov (.t 3)),ao 32 (.mov (.t 4)),ao 33 (.call (.c (.fn E [] [])) [(.t 28),(.t 30),(.t 31),(.t 32)]),ao 0 (.asg (.t 33))])
 (.seq (.reg [ao 34 (.mov (.t 0)),ao 35 (.mov (.t 1)),ao 36 (.bin .add (.t 35) (.c (.str [125]))),ao 37 (.hx (.lit 1 [(.str [])] 1 [0]) [(.t 36)]),ao 38 (.hx (.app 1) [(.t 34),(.t 37)]),ao 10 (.asg (.t 38))]) (.ret))))))⟩
def qbW (ah hd:Str) (ls:List Str):List Str:=bif ls.isEmpty then [ah ++ (hd ++ [32,123,125])] else (ah ++ (hd ++ [32,123])) :: (ls.map (λl=>ah ++ ([32,32] ++ l)) ++ [ah ++ [125]])
theorem qm1 {B:FuncId} {hd:Str} (ac:X B = none) (hB:T.get B = some (qqA F)) (hX:X F = none) (hF:T.get F = some (qzy k z)) (hz:z.length = k) (a6:z.map qd.dim = z) (hs:∀v ∈ l,Shp k (en v)) (hl:l.length <= 1000) (hg:∀v ∈ l,∀h,Wd (.fn g [] []) [en v] h = some (.ret (.str (tf v)),h,false)) (Y:∀v ∈ l,ah.length + (tf v).length <= 500000000) (hh:ah.length + hd.length <= 500000000) {h:List qh} {V:qd} {L:List Str} (hL:L.length <= 40000) (hS:SL h L V) :
  Ln h V (L ++ qbW ah hd (l.map tf)) (Wd (.fn B [] []) [V,.str ah,.str hd,.lst (l.map en) .no,.fn g [] []] h):=by
 obtain ⟨Vd,Vw,Vs,_⟩:=hS.facts
 have q1:ah.length + hd.length <= qi:=by unfold qi;omega
 have q2:∀n,n <= 10->ah.length + (hd.length + n) <= qi:=λn hn=>by unfold qi;omega
 have q3:∀n,n <= 10->ah.length + hd.length + n <= qi:=λn hn=>by unfold qi;omega
 have q4:∀n,n <= 10->ah.length + n <= qi:=λn hn=>by unfold qi;omega
 have HX:=λu g=>qEu h.length u g
 generalize hw:Wd _ _ h = w
 rw [ql _ _ ac hB] at hw
 cases l with
 | nil=>
  have ai:L.length <= 100000:=zo
  obtain ⟨G',E,af,au,ab⟩:=hS.app ai h.length (ah ++ (hd ++ [32,123,125]))
  simp only [qqA,sT.1,sC.1,qe,seval,-rN,qgx,qbx,qby,qcn,qc3,Vd,q1,q3,cc0,HX,E] at hw
  subst hw
  exact Ln.leave (by simpa [qbW] using af) zo ab (.inr λid hi=>by cases hi;omega)
 | cons v l=>
  have c0:(((l.length + 1:Nat):Int) == 0) = false:=by rw [beq_eq_false_iff_ne];omega
  obtain ⟨G1,E,ae,ar,aa⟩:=hS.app zo h.length (ah ++ (hd ++ [32,123]))
  have hE:=qfv (l:=v :: l) (ah:=ah ++ [32,32]) hX hF hz a6 hs hl hg (λv hv=>by have:=Y v hv;simp;unfold qi;omega) (by simp;omega) ae
  obtain ⟨G2,V2,hE,U,ap,a8,I⟩:=hE
  rw [show (v :: l).map en = en v :: l.map en from rfl] at hE
  obtain ⟨ak,aj,_,_⟩:=U.facts
  obtain ⟨G3,a1,ad,am,a7⟩:=U.app (by simp at hl ⊢;omega) h.length (ah ++ [125])
  have al:=λu=>qEu h.length u G2
  simp only [qqA,sT.1,sC.1,qe,seval,-rN,jQ,qgx,qbx,qby,qcn,qc3,Vd,ak,aj,q1,q3,q4,c0,HX,E,hE,a1] at hw
  subst hw
  have hid:∀id,qfd V2 = some id->h.length <= id:=λid hi=>by
   rcases I with rfl | I
   ·cases hi;omega
   ·have:=I id hi;omega
  refine Ln.leave (h:=h) (G:=G3) (V:=V) (by simpa [qbW,Function.comp_def] using ad) zo (λi hi hn=>?_) (.inr λid hi=>by cases hi;omega)
  rw [a7 i zo (λe=>by have:=hid i e;omega),a8 i zo (λe=>by cases e;omega),aa i hi hn]
end
inductive Tp where
 | mk (k:Int) (l:List Tp)
def Tp.enc:Tp->List qd
 | .mk k l=>[.int .i64 k,.lst (l.map λv=>.agg v.enc) .no]
def tpV (v:Tp):qd:=.agg v.enc
theorem qct (k:Int) (l:List Tp):tpV (.mk k l) = .agg [.int .i64 k,.lst (l.map tpV) .no]:=by rw [tpV,Tp.enc];rfl
def tyB:Nat->Tp->Bool
 | 0,.mk k l=>(k == 0 || (k == 1 || k == 2)) && l.isEmpty
 | d + 1,.mk k l=>((k == 0 || (k == 1 || k == 2)) && l.isEmpty) || (k == 3 && ((decide (1 <= l.length) && decide (l.length <= 4)) && l.all (tyB d)))
theorem qs9 (t:List qd) (f:FuncId) (a b:List qB):pureV t (.mkF f a b) = some (.fn f (a.map (ev t)) (b.map (ev t))):=rfl
theorem qDO {d:Nat} (hd:d <= 3) {v:Tp} (hy:∀g,Wd (.fn 125 [] []) [tpV v,.int .i64 (d:Nat)] g = some (.ret (.bool (tyB d v)),g,false)) (g:List qh) (R:Nat) (hR:R < g.length) (hr:g[R]? = some (.cells [.int .i64 (d + 1:Nat)])) :
  Wd (.fn 156 [] [.ptr R 0]) [tpV v] g = some (.ret (.bool (tyB d v)),g,false):=by
 generalize tyB d v = b at *
 obtain ⟨k,l⟩:=v
 rw [qct] at *
 have w1:IntKind.i64.wrap (((d + 1:Nat):Int) - 1) = ((d:Nat):Int):=by rw [qbi zo zo];omega
 rw [ql 156 qEj]
 simp only [qEj,sT.1,sC.1,qe,seval,-rN,hR,hr,w1,hy]
theorem qp3 {d:Nat} (hd:d <= 3) {l:List Tp} (hy:∀x ∈ l,∀g,Wd (.fn 125 [] []) [tpV x,.int .i64 (d:Nat)] g = some (.ret (.bool (tyB d x)),g,false)) (h:List qh) (R:Nat) (hR:R < h.length) (hr:h[R]? = some (.cells [.int .i64 (d + 1:Nat)])) :
  Wd (.fn 155 [] []) [.lst (l.map tpV) .no,.fn 156 [] [.ptr R 0]] h = some (.ret (.bool ((decide (1 <= l.length) && decide (l.length <= 4)) && l.all (tyB d))),h,false):=by
 have loop:l.length <= 4->∀k st,(∃(tt:List qd) (i:Nat) (E:List qh),st = ⟨tt,h ++ E,false⟩/\tt.length = 26/\lkp tt 1 = .fn 156 [] [.ptr R 0]/\lkp tt 15 = .lst (l.map tpV) .no/\lkp tt 16 = .int .i64 (l.length:Nat)/\lkp tt 17 = .int .i64 (i:Nat)/\i + k = l.length/\l.all (tyB d) = (l.drop i).all (tyB d))->
   ∃x Y,qp h.length Wd (.loop qhS) st = some (x,Y)/\(∃(tt:List qd) (E:List qh),Y = ⟨tt,h ++ E,false⟩/\tt.length = 26/\((x = .exit 0/\l.all (tyB d) = true)\/(x = .ret/\lkp tt 4 = .bool false/\l.all (tyB d) = false))):=by
  intro h4
  refine qao _ (λx Y=>∃(tt:List qd) (E:List qh),Y = ⟨tt,h ++ E,false⟩/\tt.length = 26/\((x = .exit 0/\l.all (tyB d) = true)\/(x = .ret/\lkp tt 4 = .bool false/\l.all (tyB d) = false))) ?_
  rintro k st ⟨tt,i,E,rfl,ht,e1,a8,a1,a7,ad,I⟩
  generalize he:qp h.length Wd qhS _ = r
  rcases Nat.lt_or_ge i l.length with hi | hi
  ·have c1:ilt (i:Int) (l.length:Int) = true:=qiK zo
   have w:=qC (n:=i) zo
   have ab:=hy _ (List.getElem_mem hi)
   have ac:(h ++ E).length = h.length + E.length:=by simp
   have U:=qDO hd ab (h ++ (E ++ [.cells l[i].enc])) R (by simp;omega) (by rw [ja hR,hr])
   have hg:(l.map tpV)[i]? = some (tpV l[i]):=by rw [jr,jh hi];rfl
   rw [List.drop_eq_getElem_cons hi,List.all_cons] at I
   have aa:Nat.ble h.length (h.length + E.length) = true:=qj zo
   generalize l[i] = v at U hg I
   cases hb:tyB d v <;> rw [hb] at I U <;> obtain ⟨K,L⟩:=v <;> rw [qct] at U hg <;> rw [Tp.enc] at U <;> change Wd _ _ (h ++ (E ++ [.cells [.int .i64 K,.lst (L.map tpV) .no]])) = _ at U <;> have hx:qfH 2 (.lst (l.map tpV) .no) (.int .i64 (i:Nat)) = some (.iptr [.int .i64 K,.lst (L.map tpV) .no] 0):=qar hg rfl
   ·rw [jL] at I
    simp only [qhS,sT.1,sC.1,qe,seval,-rN,ht,e1,a8,a1,a7,c1,hx,aa,U] at he
    subst he
    refine .inr ⟨_,_,rfl,by simp,_,E ++ [.cells [.int .i64 K,.lst (L.map tpV) .no]],rfl,Y1,.inr ⟨rfl,?_,I⟩⟩
    simp only [sT.1,seval,-rN,ht]
   ·rw [jZ] at I
    simp only [qhS,sT.1,sC.1,qe,seval,-rN,ht,e1,a8,a1,a7,c1,w,hx,aa,U] at he
    subst he
    refine .inl ⟨_,k - 1,rfl,zo,_,i + 1,E ++ [.cells [.int .i64 K,.lst (L.map tpV) .no]],rfl,Y1,?_,?_,?_,?_,zo,I⟩
    all_goals simp only [sT.1,sC.1,seval,-rN,ht,e1,a8,a1]
  ·have c1:ilt (i:Int) (l.length:Int) = false:=qis zo
   simp only [qhS,sT.1,sC.1,qe,seval,-rN,ht,a1,a7,c1] at he
   subst he
   rw [List.drop_eq_nil_of_le hi] at I
   exact .inr ⟨_,_,rfl,by simp,_,E,rfl,Y1,.inl ⟨rfl,I⟩⟩
 generalize hw:Wd _ _ h = w
 rw [ql 155 qB0] at hw
 by_cases a6:1 <= l.length/\l.length <= 4
 ·have d1:ilt (l.length:Int) 1 = false:=qis zo
  have d2:ilt 4 (l.length:Int) = false:=qis zo
  simp only [qB0,sT.1,sC.1,qe,qw,seval,-rN,jQ,d1,d2] at hw
  generalize hr:qp h.length Wd (.loop qhS) _ = r at hw
  obtain ⟨x,Y,rfl,tt,E,rfl,ht,⟨rfl,ha⟩ | ⟨rfl,e4,ha⟩⟩:=qc0 hr (loop a6.2 l.length _ ⟨_,0,[],by rw [jF],Y0,Y0,Y0,Y0,v5,zo,rfl⟩)
  ·simp only [sT.1,sC.1,qe,seval,-rN,ht] at hw
   rw [ha,decide_eq_true a6.1,decide_eq_true a6.2]
   exact hw.symm
  ·simp only [sT.1,seval,-rN,e4] at hw
   rw [ha,Bool.and_false]
   exact hw.symm
 ·have d1:(ilt (l.length:Int) 1 || ilt 4 (l.length:Int)) = true:=by rw [qX,qX];simp;omega
  have d2:(decide (1 <= l.length) && decide (l.length <= 4)) = false:=by
   rw [Bool.and_eq_false_iff,decide_eq_false_iff_not,decide_eq_false_iff_not]
   omega
  simp only [qB0,sT.1,sC.1,qe,qw,seval,-rN,jQ,d1] at hw
  rw [d2,jL]
  exact hw.symm
theorem qCT {α:Type} (l:List α):((l.length:Int) == 0) = l.isEmpty:=by
 cases l with
 | nil=>rfl
 | cons a l=>rw [List.isEmpty_cons,beq_eq_false_iff_ne,jy];omega
theorem qIe:∀d,d <= 3->∀(v:Tp) g,Wd (.fn 125 [] []) [tpV v,.int .i64 (d:Nat)] g = some (.ret (.bool (tyB d v)),g,false):=by
 have a3:∀x:Int,(x == 3) = true->((x == 0) = false/\(x == 1) = false/\(x == 2) = false):=λx h=>by
  simp only [beq_iff_eq,beq_eq_false_iff_ne] at *
  omega
 intro d
 induction d with
 | zero=>
  rintro _ ⟨k,l⟩ g
  have d1:ilt 0 ((0:Nat):Int) = false:=Eq.trans rfl rfl
  rw [tyB,qct]
  rw [ql 125 qy9]
  cases h0:(k == 0) <;> cases h1:(k == 1) <;> cases h2:(k == 2) <;> cases h3:(k == 3) <;> simp only [qy9,sT.1,sC.1,qe,qw,seval,-rN,jQ,qCT,h0,h1,h2,h3,d1]
 | succ d ih=>
  rintro hd ⟨k,l⟩ g
  have d1:ilt 0 ((d + 1:Nat):Int) = true:=qiK zo
  have hit:=qp3 (d:=d) (l:=l) zo (λx _=>ih zo x) (g ++ [.cells [.int .i64 k,.lst (l.map tpV) .no],.cells [.int .i64 (d + 1:Nat)]]) (g.length + 1) (by simp) (by rw [qbm];rfl)
  rw [tyB,qct]
  rw [ql 125 qy9]
  cases h3:(k == 3) with
  | true=>
   obtain ⟨h0,h1,h2⟩:=a3 k h3
   simp only [qy9,sT.1,sC.1,qe,qw,seval,-rN,h0,h1,h2,h3,hit,d1,qs9]
  | false=>
   cases h0:(k == 0) <;> cases h1:(k == 1) <;> cases h2:(k == 2) <;> simp only [qy9,sT.1,sC.1,qe,qw,seval,-rN,jQ,qCT,h0,h1,h2,h3,d1]
theorem qgJ (v:Tp) (g:List qh):Wd (.fn 75 [] []) [tpV v] g = some (.ret (.bool (tyB 3 v)),g,false):=by
 have h:=qIe 3 zo v (g ++ [.cells v.enc])
 have c3:((3:Nat):Int) = 3:=zk
 rw [c3] at h
 generalize tyB 3 v = b at *
 obtain ⟨k,l⟩:=v
 rw [Tp.enc] at h
 change Wd _ _ (g ++ [.cells [.int .i64 k,.lst (l.map tpV) .no]]) = _ at h
 rw [qct] at h ⊢
 rw [ql 75 c75]
 simp only [c75,sT.1,sC.1,qe,seval,-rN,h]
def qqb (l:List Str):Str:=bif l.length == 1 then 40 :: (l.headD [] ++ [44,41]) else 40 :: (Lib.join l [44,32] ++ [41])
def ttx:Nat->Tp->Str
 | 0,.mk k _=>bif k == 0 then [105,110,116] else bif k == 1 then [98,111,111,108] else [115,121,109]
 | d + 1,.mk k l=>bif k == 0 then [105,110,116] else bif k == 1 then [98,111,111,108] else bif k == 2 then [115,121,109] else qqb (l.map (ttx d))
theorem qjb (l:List Str):qgi (l.map qd.str) = some l:=by
 induction l with
 | nil=>rfl
 | cons a l ih=>rw [List.map_cons,qgi,ih];rfl
theorem mkS (base n:Nat) (hn:n <= 100000) (h:List qh):hop base (.mk 1 [.str []]) [.int .i64 (n:Nat),.int .i64 (n:Nat)] h = some (.sl h.length 0 n n 0,h ++ [.cells (List.replicate n (.str []))],false):=by
 simp only [hop]
 rw [if_pos ⟨zo,zo,zo,rfl⟩,Int.toNat_natCast]
 have e:((List.replicate n [qd.str []]).flatten).map qd.dim = List.replicate n (.str []):=by
  induction n with
  | zero=>rfl
  | succ n ih=>rw [List.replicate_succ,List.flatten_cons,jX,ih zo,List.replicate_succ];rfl
 rw [e]
theorem qnq (sep:Str):∀(l:List Str) (b:Nat),(∀x ∈ l,x.length <= b)->(Lib.join l sep).length <= l.length * (b + sep.length):=by
 intro l
 induction l with
 | nil=>intro b _;rw [Lib.join_nil];simp
 | cons a l ih=>
  intro b hb
  have h1:=hb a (by simp)
  have h2:=ih b λx hx=>hb x (by simp [hx])
  rw [jy,Nat.succ_mul]
  cases l with
  | nil=>rw [Lib.join_one];simp;omega
  | cons c l=>
   rw [show Lib.join (a :: c :: l) sep = a ++ (sep ++ Lib.join (c :: l) sep) by rw [Lib.join_cons,Lib.join_cons];simp [Lib.joinTail],ji,ji]
   generalize (c :: l).length * (b + sep.length) = m at *
   omega
theorem qxC {l:List Str} {b:Nat} (h4:l.length <= 4) (hb:∀x ∈ l,x.length <= b):(qqb l).length <= 4 * b + 10:=by
 unfold qqb
 cases hc:l.length == 1 with
 | true=>
  cases l with
  | nil=>simp at hc
  | cons a l=>have:=hb a (by simp);simp only [cond_true,List.headD_cons,jy,ji,jz];omega
 | false=>
  have h:_ <= l.length * (b + 2):=qnq [44,32] l b hb
  have:l.length * (b + 2) <= 4 * (b + 2):=Nat.mul_le_mul_right _ h4
  simp only [cond_false,jy,ji,jz]
  omega
theorem qCB {G:List qh} {id:Nat} {l:List Str} (hG:G[id]? = some (.cells (l.map qd.str))) (h1:(Lib.join l [44,32]).length <= qi) (h2:l.length <= 4):Wd (.fn 16 [] []) [.sl id 0 l.length l.length 0,.str [44,32]] G = some (.ret (.str (Lib.join l [44,32])),G,false):=by
 have hx:jnX Wd [.sl id 0 l.length l.length 0,.str [44,32]] G = some (.ret (.str (Lib.join l [44,32])),G,false):=by
  have a:Nat.ble (Lib.join l [44,32]).length qi = true:=qj h1
  have b:Nat.ble l.length qi = true:=qj (by unfold qi;omega)
  have c:(l.map qd.str).take l.length = l.map qd.str:=List.take_of_length_le (by simp)
  have d:Nat.beq l.length l.length = true:=Nat.beq_refl _
  simp only [jnX,hG,c,qjb,a,b,d,Bool.and_self,cond_true]
 exact (qg3 qei (show X 16 = some jnX by kernel_rfl)).trans hx
theorem qux {G:List qh} {id:Nat} {l:List Str} (hG:G[id]? = some (.cells (l.map qd.str))) (h4:l.length <= 4) (hb:∀x ∈ l,x.length <= 5000):Wd (.fn 185 [] []) [.sl id 0 l.length l.length 0] G = some (.ret (.str (qqb l)),G,false):=by
 have hid:=(jd.1 hG).1
 rw [ql 185 qB3]
 by_cases h1:l.length = 1
 ·obtain ⟨x,rfl⟩ :∃x,l = [x]:=List.length_eq_one_iff.1 h1
  have hx:=hb x (by simp)
  have q1:1 + x.length <= qi:=by unfold qi;omega
  have q2:1 + x.length + 2 <= qi:=by unfold qi;omega
  have q3:x.length + 1 <= qi:=by unfold qi;omega
  have q4:x.length + 1 + 2 <= qi:=by unfold qi;omega
  have q5:x.length + 3 <= qi:=by unfold qi;omega
  have z1:(((1:Nat):Int) == 1) = true:=zk
  have E:qfH 1 (.sl id 0 1 1 0) (.int .i64 0) = some (.ptr id 0):=by rw [qsv];rfl
  simp only [List.map_cons,List.map_nil] at hG
  simp only [qB3,sT.1,sC.1,qe,seval,-rN,qsI,qcn,z1,E,hG,q1,q4,qqb,List.headD_cons]
 ·have c1:((l.length:Int) == 1) = false:=by rw [beq_eq_false_iff_ne];omega
  have c2:(l.length == 1) = false:=by rw [beq_eq_false_iff_ne];exact h1
  have hj:_ <= l.length * (5000 + 2):=qnq [44,32] l 5000 hb
  have:l.length * (5000 + 2) <= 4 * (5000 + 2):=Nat.mul_le_mul_right _ h4
  have hk:=qCB hG (by unfold qi;omega) h4
  rw [qqb,c2,cond_false]
  generalize Lib.join l [44,32] = u at *
  have q1:1 + u.length <= qi:=by unfold qi;omega
  have q2:1 + u.length + 1 <= qi:=by unfold qi;omega
  have q3:u.length + 1 <= qi:=by unfold qi;omega
  have q4:u.length + 1 + 1 <= qi:=by unfold qi;omega
  have q5:u.length + 2 <= qi:=by unfold qi;omega
  simp only [qB3,sT.1,sC.1,qe,seval,-rN,qsI,qcn,c1,hk,q1,q4]
theorem qzS {α:Type} (a:List α) (z v:α) (m:Nat):(a ++ List.replicate (m + 1) z).set a.length v = (a ++ [v]) ++ List.replicate m z:=by
 rw [List.set_append_right _ _ (jm _),Nat.sub_self,List.replicate_succ];simp
theorem qDP {l:List Tp} {tf:Tp->Str} (hl:l.length <= 4) (ab:l ≠ []) (hy:∀x ∈ l,∀g,Wd (.fn 152 [] []) [tpV x] g = some (.ret (.str (tf x)),g,false)) (h:List qh):∃E,Wd (.fn 186 [] []) [.lst (l.map tpV) .no,.fn 152 [] []] h = some (.ret (.sl h.length 0 l.length l.length 0),h ++ .cells (l.map λx=>qd.str (tf x)) :: E,false):=by
 have loop:∀k st,(∃(tt:List qd) (i:Nat) (E:List qh),st = ⟨tt,h ++ .cells ((l.take i).map (λx=>qd.str (tf x)) ++ List.replicate k (qd.str [])) :: E,false⟩/\tt.length = 29/\lkp tt 1 = .fn 152 [] []/\lkp tt 5 = .sl h.length 0 l.length l.length 0/\lkp tt 14 = .lst (l.map tpV) .no/\lkp tt 15 = .int .i64 (l.length:Nat)/\lkp tt 16 = .int .i64 (i:Nat)/\i + k = l.length)->
   ∃x I,qp h.length Wd (.loop qiP) st = some (x,I)/\(∃(tt:List qd) (E:List qh),I = ⟨tt,h ++ .cells (l.map λx=>qd.str (tf x)) :: E,false⟩/\tt.length = 29/\lkp tt 5 = .sl h.length 0 l.length l.length 0/\x = .exit 0):=by
  refine qao _ (λx I=>∃(tt:List qd) (E:List qh),I = ⟨tt,h ++ .cells (l.map λx=>qd.str (tf x)) :: E,false⟩/\tt.length = 29/\lkp tt 5 = .sl h.length 0 l.length l.length 0/\x = .exit 0) ?_
  rintro k st ⟨tt,i,E,rfl,ht,e1,e5,a8,a1,a7,ai⟩
  generalize he:qp h.length Wd qiP _ = r
  rcases Nat.lt_or_ge i l.length with hi | hi
  ·obtain ⟨k',rfl⟩ :∃k',k = k' + 1:=⟨k - 1,zo⟩
   have c1:ilt (i:Int) (l.length:Int) = true:=qiK zo
   have w:=qC (n:=i) zo
   have aa:(l.take (i + 1)).map (λx=>qd.str (tf x)) = (l.take i).map (λx=>qd.str (tf x)) ++ [qd.str (tf l[i])]:=by rw [List.take_succ_eq_append_getElem hi,jX];rfl
   have Y:((l.take i).map (λx=>qd.str (tf x)) ++ List.replicate (k' + 1) (qd.str [])).set i (qd.str (tf l[i])) = (l.take (i + 1)).map (λx=>qd.str (tf x)) ++ List.replicate k' (qd.str []):=by
    have:=qzS ((l.take i).map λx=>qd.str (tf x)) (qd.str []) (qd.str (tf l[i])) k'
    have ac:((l.take i).map λx=>qd.str (tf x)).length = i:=by simp;omega
    rw [ac] at this
    rw [this,aa]
   have ad:i + 1 <= ((l.take i).map (λx=>qd.str (tf x)) ++ List.replicate (k' + 1) (qd.str [])).length:=by simp;omega
   generalize (l.take i).map (λx=>qd.str (tf x)) ++ List.replicate (k' + 1) (qd.str []) = row at *
   rw [List.set_eq_take_append_cons_drop,if_pos zo] at Y
   have U:=hy l[i] (List.getElem_mem hi)
   have hg:(l.map tpV)[i]? = some (tpV l[i]):=by rw [jr,jh hi];rfl
   have a6:qfH 1 (.sl h.length 0 l.length l.length 0) (.int .i64 (i:Nat)) = some (.ptr h.length (0 + i)):=by
    rw [qsv,if_pos ⟨zo,zo⟩];simp
   rw [Nat.zero_add] at a6
   generalize tf l[i] = u at U Y
   generalize l[i] = v at U hg
   obtain ⟨K,L⟩:=v
   rw [qct] at U hg
   have hx:qfH 2 (.lst (l.map tpV) .no) (.int .i64 (i:Nat)) = some (.iptr [.int .i64 K,.lst (L.map tpV) .no] 0):=qar hg rfl
   have af:∀q:List qh,(h ++ qh.cells row :: q).length = h.length + (q.length + 1):=λq=>by simp
   have ae:Nat.ble h.length (h.length + (E.length + 1)) = true:=qj zo
   have aj:Nat.ble h.length h.length = true:=qj (jm _)
   simp only [qiP,sT.1,sC.1,qe,seval,-rN,ht,e1,e5,a8,a1,a7,c1,w,hx,a6,ae,U,ad,Y,qcn] at he
   subst he
   refine .inl ⟨_,k',rfl,zo,_,i + 1,E ++ [.cells [.int .i64 K,.lst (L.map tpV) .no]],rfl,Y1,?_,?_,?_,?_,?_,zo⟩
   all_goals simp only [sT.1,sC.1,seval,-rN,ht,e1,e5,a8,a1]
  ·have c1:ilt (i:Int) (l.length:Int) = false:=qis zo
   obtain rfl:k = 0:=zo
   rw [List.take_of_length_le hi,List.replicate_zero,jF] at he
   simp only [qiP,sT.1,sC.1,qe,seval,-rN,ht,a1,a7,c1] at he
   subst he
   exact .inr ⟨_,_,rfl,by simp,_,E,rfl,Y1,x8,rfl⟩
 have c0:((l.length:Int) == 0) = false:=by
  rw [qCT]
  cases l with
  | nil=>exact absurd rfl ab
  | cons a l=>rfl
 have hm:=mkS h.length l.length zo h
 generalize hw:Wd _ _ h = w
 rw [ql 186 qEn] at hw
 simp only [qEn,sT.1,sC.1,qe,seval,-rN,qgx,qbx,qby,qcn,qc3,jQ,c0,hm] at hw
 generalize hr:qp h.length Wd (.loop qiP) _ = r at hw
 obtain ⟨x,I,rfl,tt,E,rfl,ht,e5,rfl⟩:=qc0 hr (loop l.length _ ⟨_,0,[],rfl,Y0,Y0,Y0,Y0,Y0,v5,zo⟩)
 have hb:Nat.blt h.length h.length = false:=by
  cases hb:Nat.blt h.length h.length with
  | false=>rfl
  | true=>exact absurd (Nat.blt_eq▸hb) (Nat.lt_irrefl _)
 simp only [sT.1,sC.1,qe,seval,-rN,ht,e5,qcn,qc3,qnr,qws,hb] at hw
 exact ⟨E,hw.symm⟩
theorem qxB:∀d,d <= 3->∀(v:Tp),tyB d v = true->(∀g,Wd (.fn 152 [] []) [tpV v] g = some (.ret (.str (ttx d v)),g,false))/\(ttx d v).length <= 8 ^ (d + 1):=by
 have a3:∀x:Int,(x == 3) = true->((x == 0) = false/\(x == 1) = false/\(x == 2) = false):=λx h=>by
  simp only [beq_iff_eq,beq_eq_false_iff_ne] at *
  omega
 have leaf:∀(k:Int) (l:List Tp) (s:Str),(k == 0 || (k == 1 || k == 2)) = true->(s = bif k == 0 then [105,110,116] else bif k == 1 then [98,111,111,108] else [115,121,109])->(∀g,Wd (.fn 152 [] []) [tpV (.mk k l)] g = some (.ret (.str s),g,false))/\s.length <= 4:=by
  rintro k l s hk rfl
  refine ⟨λg=>?_,by cases k == 0 <;> cases k == 1 <;> simp⟩
  rw [qct,ql 152 qBz]
  cases h0:(k == 0) <;> cases h1:(k == 1) <;> cases h2:(k == 2) <;> rw [h0,h1,h2] at hk <;> first | cases hk;done | simp only [qBz,sT.1,sC.1,qe,seval,-rN,h0,h1,h2]
 intro d
 induction d with
 | zero=>
  rintro _ ⟨k,l⟩ hv
  rw [tyB,jk] at hv
  obtain ⟨h1,h2⟩:=leaf k l _ hv.1 rfl
  exact ⟨h1,jn h2 zo⟩
 | succ d ih=>
  rintro hd ⟨k,l⟩ hv
  have hp:8 <= 8 ^ (d + 1):=by
   have:=Nat.pow_le_pow_right (n:=8) zo (show 1 <= d + 1 by omega)
   simpa using this
  rw [tyB] at hv
  cases h3:(k == 3) with
  | false=>
   rw [h3,jL,Bool.or_false,jk] at hv
   obtain ⟨h1,h2⟩:=leaf k l (ttx (d + 1) (.mk k l)) hv.1 (by
    rw [ttx]
    cases h0:(k == 0) <;> cases h1:(k == 1) <;> cases h2:(k == 2) <;> simp_all)
   exact ⟨h1,jn h2 (by rw [Nat.pow_succ];omega)⟩
  | true=>
   obtain ⟨h0,h1,h2⟩:=a3 k h3
   simp only [h0,h1,h2,h3,Bool.or_self,jL,Bool.false_or,jZ,jk,decide_eq_true_eq,List.all_eq_true] at hv
   obtain ⟨⟨l1,l4⟩,E⟩:=hv
   have hb:∀x ∈ l.map (ttx d),x.length <= 8 ^ (d + 1):=λx hx=>by
    obtain ⟨y,hy,rfl⟩:=jP.1 hx
    exact (ih zo y (E y hy)).2
   have Y:8 ^ (d + 1) <= 512:=by
    have:=Nat.pow_le_pow_right (n:=8) zo (show d + 1 <= 3 by omega)
    simpa using this
   have e:ttx (d + 1) (.mk k l) = qqb (l.map (ttx d)):=by rw [ttx,h0,h1,h2];rfl
   rw [e]
   refine ⟨λg=>?_,jn (qxC (by simpa using l4) hb) (by rw [Nat.pow_succ _ (d + 1)];omega)⟩
   have hE:=qDP l4 (by rintro rfl;simp at l1) (λx hx=>(ih zo x (E x hx)).1) (g ++ [.cells [.int .i64 k,.lst (l.map tpV) .no]])
   obtain ⟨I,hE⟩:=hE
   have hT:=qux (G:=(g ++ [.cells [.int .i64 k,.lst (l.map tpV) .no]]) ++ .cells (l.map λx=>qd.str (ttx d x)) :: I) (id:=(g ++ [qh.cells [.int .i64 k,.lst (l.map tpV) .no]]).length) (l:=l.map (ttx d)) (by rw [qgS,List.map_map];rfl) (by simpa using l4) (λx hx=>jn (hb x hx) zo)
   rw [jQ] at hT
   have U:(g ++ [qh.cells [.int .i64 k,.lst (l.map tpV) .no]]).length = g.length + 1:=by simp
   rw [U] at hT hE
   simp only [jp,jw,jW] at hT hE
   generalize qqb (l.map (ttx d)) = S at *
   rw [qct,ql 152 qBz]
   simp only [qBz,sT.1,sC.1,qe,seval,-rN,qcn,h0,h1,h2,hE,hT]
theorem qlD {v:Tp} (hv:tyB 3 v = true) (g:List qh):Wd (.fn 111 [] []) [tpV v] g = some (.ret (.str (ttx 3 v)),g,false):=by
 have h1:=qgJ v (g ++ [.cells v.enc])
 have h2:=(qxB 3 zo v hv).1 (g ++ [.cells v.enc])
 rw [hv] at h1
 generalize ttx 3 v = b at *
 clear hv
 obtain ⟨k,l⟩:=v
 rw [Tp.enc] at h1 h2
 rw [show (l.map λv=>qd.agg v.enc) = l.map tpV from rfl] at h1 h2
 rw [qct] at h1 h2 ⊢
 rw [ql 111 qD3]
 simp only [qD3,sT.1,sC.1,qe,seval,-rN,h1,h2]
structure qN where (name:Str) (t:Tp)
structure qam where (name:Str) (e:Exl)
structure qab where (port:Str) (e:Exl) (ifs:List Exl)
structure qaw where (name model:Str)
structure qej where (part port:Str)
structure qad where (frm to:qej)
structure qbo where (kind:Int) (name model:Str) (link:qad)
structure qQ where (e:Exl) (acts:List qbo)
def exC:Exl->List qd
 | .mk op n nm sb aS=>[.int .i64 op,.int .i64 n,.str nm,.str sb,.lst (aS.map exV) .no]
theorem qoA (e:Exl):exV e = .agg (exC e):=by cases e;rw [qt];rfl
def qN.enc (p:qN):qd:=.agg (.str p.name :: p.t.enc)
def qam.enc (s:qam):qd:=.agg (.str s.name :: exC s.e)
def qab.enc (x:qab):qd:=.agg (.str x.port :: (exC x.e ++ [.lst (x.ifs.map exV) .no]))
def qaw.enc (p:qaw):qd:=.agg [.str p.name,.str p.model]
def qej.enc (p:qej):qd:=.agg [.str p.part,.str p.port]
def qad.enc (l:qad):qd:=.agg [.str l.frm.part,.str l.frm.port,.str l.to.part,.str l.to.port]
def qbo.enc (a:qbo):qd:=.agg [.int .i64 a.kind,.str a.name,.str a.model,.str a.link.frm.part,.str a.link.frm.port,.str a.link.to.part,.str a.link.to.port]
def qQ.enc (r:qQ):qd:=.agg (exC r.e ++ [.lst (r.acts.map qbo.enc) .no])
def qN.txt (p:qN):Str:=p.name ++ ([58,32] ++ (ttx 3 p.t ++ [59]))
def qam.txt (s:qam):Str:=s.name ++ ([32,61,32] ++ (eT s.e ++ [59]))
def taT (e:Exl):Str:=[116,97,32] ++ (eT e ++ [59])
def qir (l:List Exl):Str:=(l.map λe=>[32,105,102,32] ++ eT e).flatten
def qab.txt (x:qab):Str:=[101,109,105,116,32] ++ (x.port ++ ([32] ++ (eT x.e ++ (qir x.ifs ++ [59]))))
def qaw.txt (p:qaw):Str:=p.name ++ ([32,61,32] ++ (p.model ++ [59]))
def qej.txt (p:qej):Str:=bif p.part.isEmpty then p.port else p.part ++ ([46] ++ p.port)
def qad.txt (l:qad):Str:=l.frm.txt ++ ([32,45,62,32] ++ (l.to.txt ++ [59]))
def qbo.txt (a:qbo):Str:=bif a.kind == 0 then [97,100,100,32] ++ (a.name ++ ([32,61,32] ++ (a.model ++ [59]))) else bif a.kind == 1 then [100,114,111,112,32] ++ (a.name ++ [59]) else bif a.kind == 2 then [116,105,101,32] ++ a.link.txt else [99,117,116,32] ++ a.link.txt
section
variable {G:List qh}
theorem qt8 {s:qam} (hn:s.name.length <= 16) (he:qly s.e):Wd (.fn 119 [] []) [s.enc] G = some (.ret (.str s.txt),G,false):=by
 obtain ⟨nm,e⟩:=s
 have hT:=λG=>qrr he G
 have hl:=qc4 he
 rw [qam.txt,qam.enc]
 generalize eT e = u at *
 simp only at hn
 have q1:nm.length + 3 <= qi:=by unfold qi;omega
 have q2:nm.length + (u.length + 3) <= qi:=by unfold qi;omega
 have q3:nm.length + 3 + u.length <= qi:=by unfold qi;omega
 have q4:nm.length + (3 + u.length) <= qi:=by unfold qi;omega
 have q5:nm.length + 3 + u.length + 1 <= qi:=by unfold qi;omega
 have q6:nm.length + (u.length + 1 + 1 + 1) <= qi:=by unfold qi;omega
 have q7:nm.length + (u.length + 1 + 1 + 1) + 1 <= qi:=by unfold qi;omega
 obtain ⟨op,n,m2,sb,aS⟩:=e
 rw [qt] at hT
 rw [exC,ql 119 qD6]
 simp only [qD6,sT.1,sC.1,qe,Nat.testBit,bne,seval,-rN,hT,q1,q3,q7]
theorem qwU {p:qN} (hn:p.name.length <= 16) (ht:tyB 3 p.t = true):Wd (.fn 72 [] []) [p.enc] G = some (.ret (.str p.txt),G,false):=by
 obtain ⟨nm,v⟩:=p
 have hT:=λG=>qlD ht G
 have hl:=(qxB 3 zo v ht).2
 rw [qN.txt,qN.enc]
 generalize ttx 3 v = u at *
 simp only at hn ht
 have q1:nm.length + 2 <= qi:=by unfold qi;omega
 have q2:nm.length + (u.length + 2) <= qi:=by unfold qi;omega
 have q4:nm.length + (2 + u.length) <= qi:=by unfold qi;omega
 have q6:nm.length + (u.length + 1 + 1) <= qi:=by unfold qi;omega
 have q7:nm.length + (u.length + 1 + 1) + 1 <= qi:=by unfold qi;omega
 have q8:nm.length + 2 + u.length <= qi:=by unfold qi;omega
 clear ht
 obtain ⟨k,l⟩:=v
 rw [qct] at hT
 rw [Tp.enc,show (l.map λv=>qd.agg v.enc) = l.map tpV from rfl,ql 72 c72]
 simp only [c72,sT.1,sC.1,qe,Nat.testBit,bne,seval,-rN,hT,q1,q7,q8]
theorem qDJ {e:Exl} (he:qly e):Wd (.fn 121 [] []) [exV e] G = some (.ret (.str (taT e)),G,false):=by
 have hT:=λG=>qrr he G
 have hl:=qc4 he
 rw [taT]
 generalize eT e = u at *
 have q1:3 + u.length <= qi:=by unfold qi;omega
 have q2:u.length + 3 <= qi:=by unfold qi;omega
 have q3:u.length + 3 + 1 <= qi:=by unfold qi;omega
 have q4:u.length + 1 + 1 + 1 <= qi:=by unfold qi;omega
 have q5:u.length + 1 + 1 + 1 + 1 <= qi:=by unfold qi;omega
 obtain ⟨op,n,m2,sb,aS⟩:=e
 rw [qt] at *
 rw [ql 121 qD7]
 simp only [qD7,sT.1,sC.1,qe,seval,-rN,hT,q1,q3]
theorem qwL {p:qaw} (h1:p.name.length <= 16) (h2:p.model.length <= 16):Wd (.fn 113 [] []) [p.enc] G = some (.ret (.str p.txt),G,false):=by
 obtain ⟨a,b⟩:=p
 simp only at h1 h2
 have q1:a.length + 3 <= qi:=by unfold qi;omega
 have q2:a.length + 3 + b.length <= qi:=by unfold qi;omega
 have q3:a.length + (b.length + 1 + 1 + 1) <= qi:=by unfold qi;omega
 have q4:a.length + (b.length + 1 + 1 + 1) + 1 <= qi:=by unfold qi;omega
 have q5:a.length + (3 + b.length) <= qi:=by unfold qi;omega
 rw [qaw.txt,qaw.enc,ql 113 qD4]
 simp only [qD4,sT.1,sC.1,qe,seval,-rN,q1,q2,q4]
theorem qyZ (s:Str):(s == []) = s.isEmpty:=by cases s <;> rfl
theorem qrA {p:qej} (h1:p.part.length <= 16) (h2:p.port.length <= 16):Wd (.fn 153 [] []) [p.enc] G = some (.ret (.str p.txt),G,false):=by
 obtain ⟨a,b⟩:=p
 simp only at h1 h2
 have q1:a.length + 1 <= qi:=by unfold qi;omega
 have q2:a.length + 1 + b.length <= qi:=by unfold qi;omega
 have q3:a.length + (b.length + 1) <= qi:=by unfold qi;omega
 have q5:a.length + (1 + b.length) <= qi:=by unfold qi;omega
 rw [qej.txt,qej.enc,ql 153 qEi]
 cases hc:a.isEmpty <;> simp only [qEi,sT.1,sC.1,qe,seval,-rN,qyZ,hc,q1,q2]
def qej.short (p:qej):Prop:=p.part.length <= 16/\p.port.length <= 16
theorem qej.short.txt {p:qej} (h:p.short):p.txt.length <= 40:=by
 have:=h.1
 have:=h.2
 unfold qej.txt
 cases p.part.isEmpty <;> simp <;> omega
theorem qnw {l:qad} (h1:l.frm.short) (h2:l.to.short):Wd (.fn 115 [] []) [l.enc] G = some (.ret (.str l.txt),G,false):=by
 obtain ⟨⟨a,b⟩,⟨c,d⟩⟩:=l
 have f1:=λG=>qrA (G:=G) h1.1 h1.2
 have f2:=λG=>qrA (G:=G) h2.1 h2.2
 have l1:=h1.txt
 have l2:=h2.txt
 rw [qad.txt,qad.enc]
 rw [qej.enc] at f1 f2
 simp only at *
 generalize qej.txt ⟨a,b⟩ = u at *
 generalize qej.txt ⟨c,d⟩ = v at *
 have q1:u.length + 4 <= qi:=by unfold qi;omega
 have q2:u.length + 4 + v.length <= qi:=by unfold qi;omega
 have q3:u.length + (v.length + 1 + 1 + 1 + 1) <= qi:=by unfold qi;omega
 have q4:u.length + (v.length + 1 + 1 + 1 + 1) + 1 <= qi:=by unfold qi;omega
 have q5:u.length + (4 + v.length) <= qi:=by unfold qi;omega
 rw [ql 115 qD5]
 simp only [qD5,sT.1,sC.1,qe,Nat.testBit,bne,seval,-rN,f1,f2,q1,q2,q4]
def qbo.short (a:qbo):Prop:=a.name.length <= 16/\a.model.length <= 16/\(a.kind ≠ 0->a.kind ≠ 1->a.link.frm.short/\a.link.to.short)
theorem qad.len {l:qad} (h1:l.frm.short) (h2:l.to.short):l.txt.length <= 90:=by
 have:=h1.txt
 have:=h2.txt
 unfold qad.txt
 simp
 omega
theorem qyO {a:qbo} (h:a.short):Wd (.fn 117 [] []) [a.enc] G = some (.ret (.str a.txt),G,false):=by
 obtain ⟨k,a,b,l⟩:=a
 obtain ⟨h1,h2,h3⟩:=h
 simp only at h1 h2 h3
 have q1:a.length + 1 + 1 + 1 + 1 + 3 <= qi:=by unfold qi;omega
 have q2:4 + a.length <= qi:=by unfold qi;omega
 have q3:a.length + 4 <= qi:=by unfold qi;omega
 have q4:a.length + 3 + 1 + 1 + 1 + 1 <= qi:=by unfold qi;omega
 have q5:a.length + (b.length + 1 + 1 + 1) + 1 + 1 + 1 + 1 <= qi:=by unfold qi;omega
 have q6:a.length + (b.length + 1 + 1 + 1) + 1 + 1 + 1 + 1 + 1 <= qi:=by unfold qi;omega
 have q7:a.length + 3 + 1 + 1 + 1 + 1 + b.length <= qi:=by unfold qi;omega
 have q8:a.length + 1 + 1 + 1 + 1 + 1 <= qi:=by unfold qi;omega
 have q9:a.length + 1 + 1 + 1 + 1 + 1 + 1 <= qi:=by unfold qi;omega
 have qa:5 + a.length <= qi:=by unfold qi;omega
 have qb:a.length + 1 + 1 + 1 + 1 <= qi:=by unfold qi;omega
 have qc:a.length + 5 <= qi:=by unfold qi;omega
 rw [qbo.txt,qbo.enc,ql 117 qBy]
 simp only
 cases h0:(k == 0) with
 | true=>simp only [qBy,sT.1,sC.1,qe,seval,-rN,h0,q1,q2,q6,q7,q9,qa]
 | false=>
  cases h1:(k == 1) with
  | true=>simp only [qBy,sT.1,sC.1,qe,seval,-rN,h0,h1,q1,q2,q6,q7,q9,qa]
  | false=>
   obtain ⟨s1,s2⟩:=h3 (beq_eq_false_iff_ne.1 h0) (beq_eq_false_iff_ne.1 h1)
   have f:=λG=>qnw (G:=G) s1 s2
   have hl:=qad.len s1 s2
   rw [qad.enc] at f
   generalize qad.txt l = u at *
   have p1:4 + u.length <= qi:=by unfold qi;omega
   have p2:u.length + 4 <= qi:=by unfold qi;omega
   cases h2:(k == 2) <;> simp only [qBy,sT.1,sC.1,qe,seval,-rN,h0,h1,h2,f,p1]
end
theorem qhj {l:List Exl} (h:∀e ∈ l,qly e):(qir l).length <= 50000 * l.length:=by
 induction l with
 | nil=>simp [qir]
 | cons a l ih=>
  have h1:=qc4 (h a (by simp))
  have h2:=ih λe he=>h e (by simp [he])
  simp only [qir,List.map_cons,List.flatten_cons,ji,jy,jz] at h2 ⊢
  omega
theorem qvI {x:qab} (hn:x.port.length <= 16) (he:qly x.e) (hi:x.ifs.length <= 100) (hI:∀e ∈ x.ifs,qly e) (G:List qh):Wd (.fn 123 [] []) [x.enc] G = some (.ret (.str x.txt),G,false):=by
 obtain ⟨pt,e,l⟩:=x
 simp only at hn he hi hI
 have hT:=λG=>qrr he G
 have hl:=qc4 he
 rw [qab.txt,qab.enc]
 simp only
 generalize eT e = u at *
 obtain ⟨op,n,m2,sb,aS⟩:=e
 rw [qt] at hT
 rw [exC]
 obtain ⟨S,hS⟩ :∃S:Str,S = 101 :: 109 :: 105 :: 116 :: 32 :: (pt ++ 32 :: u):=⟨_,rfl⟩
 have ap:S.length <= 44100:=by rw [hS];simp;omega
 have loop:∀k st,(∃(tt:List qd) (i:Nat) (E:List qh),st = ⟨tt,G ++ E,false⟩/\tt.length = 29/\lkp tt 3 = .str (S ++ qir (l.take i))/\lkp tt 15 = .lst (l.map exV) .no/\lkp tt 16 = .int .i64 (l.length:Nat)/\lkp tt 17 = .int .i64 (i:Nat)/\i + k = l.length)->
   ∃y Y,qp G.length Wd (.loop qiO) st = some (y,Y)/\(∃(tt:List qd) (E:List qh),Y = ⟨tt,G ++ E,false⟩/\tt.length = 29/\lkp tt 3 = .str (S ++ qir l)/\y = .exit 0):=by
  refine qao _ (λy Y=>∃(tt:List qd) (E:List qh),Y = ⟨tt,G ++ E,false⟩/\tt.length = 29/\lkp tt 3 = .str (S ++ qir l)/\y = .exit 0) ?_
  rintro k st ⟨tt,i,E,rfl,ht,e3,ab,a6,aa,al⟩
  generalize hr:qp G.length Wd qiO _ = r
  rcases Nat.lt_or_ge i l.length with U | U
  ·have c1:ilt (i:Int) (l.length:Int) = true:=qiK zo
   have w:=qC (n:=i) zo
   have a1:=λG=>qrr (hI l[i] (List.getElem_mem U)) G
   have ak:=qc4 (hI l[i] (List.getElem_mem U))
   have ad:qir (l.take (i + 1)) = qir (l.take i) ++ 32 :: 105 :: 102 :: 32 :: eT l[i]:=by rw [List.take_succ_eq_append_getElem U,qir,jX,List.flatten_append];simp [qir]
   have aj:=qhj (l:=l.take i) λe he=>hI e (List.mem_of_mem_take he)
   have ai:(l.take i).length <= 100:=by simp;omega
   have hg:(l.map exV)[i]? = some (exV l[i]):=by rw [jr,jh U];rfl
   generalize eT l[i] = w2 at *
   generalize qir (l.take i) = I at *
   generalize l[i] = v at a1 hg
   obtain ⟨a8,n',m',a7,ac⟩:=v
   rw [qt] at a1 hg
   have hx:qfH 5 (.lst (l.map exV) .no) (.int .i64 (i:Nat)) = some (.iptr [.int .i64 a8,.int .i64 n',.str m',.str a7,.lst (ac.map exV) .no] 0):=qar hg rfl
   have af:(G ++ E).length = G.length + E.length:=by simp
   have ae:Nat.ble G.length (G.length + E.length) = true:=qj zo
   have q1:4 + w2.length <= qi:=by unfold qi;omega
   have q2:w2.length + 4 <= qi:=by unfold qi;omega
   have q3:S.length + I.length + (w2.length + 4) <= qi:=by unfold qi;omega
   have q4:S.length + I.length + (w2.length + 1 + 1 + 1 + 1) <= qi:=by unfold qi;omega
   have q5:S.length + (I.length + (w2.length + 1 + 1 + 1 + 1)) <= qi:=by unfold qi;omega
   simp only [qiO,sT.1,sC.1,qe,seval,-rN,ht,e3,ab,a6,aa,c1,w,hx,ae,a1,q1,q3] at hr
   subst hr
   refine .inl ⟨_,k - 1,rfl,zo,_,i + 1,E ++ [.cells [.int .i64 a8,.int .i64 n',.str m',.str a7,.lst (ac.map exV) .no]],rfl,Y1,?_,?_,?_,?_,zo⟩
   ·simp only [sT.1,sC.1,seval,-rN,ht,ad]
   ·simp only [sT.1,sC.1,seval,-rN,ab]
   ·simp only [sT.1,sC.1,seval,-rN,a6]
   ·simp only [sT.1,seval,-rN,ht]
  ·have c1:ilt (i:Int) (l.length:Int) = false:=qis zo
   rw [List.take_of_length_le U] at e3
   simp only [qiO,sT.1,sC.1,qe,seval,-rN,ht,a6,aa,c1] at hr
   subst hr
   exact .inr ⟨_,_,rfl,by simp,_,E,rfl,Y1,Y2,rfl⟩
 have q1:pt.length + 5 <= qi:=by unfold qi;omega
 have q2:5 + pt.length <= qi:=by unfold qi;omega
 have q3:pt.length + 1 + 1 + 1 + 1 + 1 + 1 <= qi:=by unfold qi;omega
 have q4:pt.length + 1 + 1 + 1 + 1 + 1 + 1 + u.length <= qi:=by unfold qi;omega
 have q5:pt.length + (u.length + 1) + 1 + 1 + 1 + 1 + 1 <= qi:=by unfold qi;omega
 have q6:pt.length + 1 + 1 + 1 + 1 + 1 <= qi:=by unfold qi;omega
 have q7:pt.length + (1 + u.length) + 1 + 1 + 1 + 1 + 1 <= qi:=by unfold qi;omega
 have am:=qhj hI
 generalize hw:Wd _ _ G = w
 rw [ql 123 qD8] at hw
 simp only [qD8,sT.1,sC.1,qe,Nat.testBit,bne,seval,-rN,hT,q2,q3,q4,jQ] at hw
 generalize hr:qp G.length Wd (.loop qiO) _ = r at hw
 obtain ⟨y,Y,rfl,tt,E,rfl,ht,e3,rfl⟩:=qc0 hr (loop l.length _ ⟨_,0,[_],rfl,Y0,by simp only [sT.1,sC.1,seval,-rN,hS,qir,List.flatten_nil],Y0,Y0,v5,zo⟩)
 have q8:S.length + (qir l).length + 1 <= qi:=by unfold qi;omega
 have q9:S.length + ((qir l).length + 1) <= qi:=by unfold qi;omega
 simp only [sT.1,sC.1,qe,seval,-rN,ht,e3,q8] at hw
 subst hw
 rw [hS]
 simp
theorem SL.row {G:List qh} {M:List Str} {W:qd} (h:SL G M W) (E:M ≠ []):qdx 1 G W = some (M.map .str,M.length):=by
 rcases h with ⟨rfl,_⟩ | ⟨id,rfl,_,hid⟩
 ·exact absurd rfl E
 ·have:(M.map qd.str).take M.length = M.map qd.str:=List.take_of_length_le (by simp)
  simp only [qdx,hid,jQ,Nat.zero_add,Nat.mul_one,jm,if_true,List.drop_zero,this,(qdy M).dims]
theorem SL.cat {G:List qh} {L M:List Str} {V W:qd} (h:SL G L V) (hw:SL G M W) (E:M ≠ []) (hl:L.length + M.length <= 100000) (b:Nat) :
  ∃G',hop b (.app 1) [V,W] G = some (.sl G.length 0 (L.length + M.length) (L.length + M.length) 1,G',false)/\SL G' (L ++ M) (.sl G.length 0 (L.length + M.length) (L.length + M.length) 1)/\G'.length = G.length + 1/\∀i,i < G.length->qfd V ≠ some i->G'[i]? = G[i]?:=by
 have e2:=hw.row E
 have hm:M.length ≠ 0:=λh=>E (List.length_eq_zero_iff.1 h)
 have I:L.length + M.length <= qi:=by unfold qi;omega
 rcases h with ⟨rfl,rfl⟩ | ⟨id,rfl,hL,hid⟩
 ·have e:qdx 1 G (.lst [] .full) = some ([],0):=rfl
  have q0:0 + M.length <= qi:=by unfold qi;omega
  refine ⟨G ++ [.cells (M.map .str)],by simp only [hop,qfZ,e2,(qdy M).all,e,hm,q0,jz,j4,jl,if_false,if_true,jW],.inr ⟨G.length,by simp,by simp [E],?_⟩,by simp,λi hi _=>by rw [ja hi]⟩
  rw [qgS];simp
 ·have e:qdx 1 G (.sl id 0 L.length L.length 1) = some (L.map .str,L.length):=SL.row (.inr ⟨id,rfl,hL,hid⟩) hL
  have U:¬ L.length + M.length <= L.length:=zo
  refine ⟨G.set id .dead ++ [.cells (L.map .str ++ M.map .str)],?_,.inr ⟨G.length,by simp,by simp [hL],?_⟩,by simp,λi hi hn=>?_⟩
  ·simp only [hop,qfZ,e2,(qdy M).all,e,hm,I,U,hid,j4,jl,if_false,if_true]
   simp
  ·rw [qdn (by simp)];simp
  ·have:id ≠ i:=λe=>hn (by rw [e];rfl)
   rw [ja (by simp;omega),jf this]
end Go.Proofs.YtcbfifamliijlaaGreatDoor.AE
