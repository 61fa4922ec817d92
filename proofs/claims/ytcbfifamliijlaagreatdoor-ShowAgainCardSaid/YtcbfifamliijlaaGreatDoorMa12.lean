/- A part of the proof. No condition. -/
import Derived.Test.YtcbfifamliijlaaGreatDoorMa10
open Int renaming reduceNatCast'→rN
set_option maxRecDepth 100000
set_option maxHeartbeats 0
open List renaming getElem?_append_left→ja,getElem?_eq_some_iff→jd,getElem?_set_ne→jf,getElem?_eq_getElem→jh,length_append→ji,length_map→jQ,append_assoc→jp,append_nil→jF,map_append→jW,getElem?_map→jr,nil_append→jV,cons_append→jw,length_cons→jy,length_nil→jz,mem_map→jP
open Bool renaming and_eq_true→jk,false_eq_true→jl,true_and→jY,false_and→jL,not_true→j3
open Nat renaming le_refl→jm,le_trans→jn
namespace Go.Proofs.YtcbfifamliijlaaGreatDoor.AE
open Go.AE
def Shp (k:Nat) (v:qd):Prop:=∃cs,v = .agg cs/\cs.length = k/\cs.all qd.storable = true/\cs.map qd.dim = cs
def qfi:qd->Option Nat
 | .sl id _ _ _ _=>some id
 | _=>none
def SL (G:List qj) (L:List Str) (V:qd):Prop:=(L = []/\V = .lst [] .full)\/∃id,V = .sl id 0 L.length L.length 1/\L ≠ []/\G[id]? = some (.cells (L.map qd.str))
theorem qdF (L:List Str):qiI (L.map qd.str):=λc hc=>by
 obtain ⟨s,_,rfl⟩:=jP.1 hc
 exact ⟨rfl,rfl⟩
theorem SL.facts {G:List qj} {L:List Str} {V:qd} (h:SL G L V):V.dim = V/\(∀i t,qbL V i t = t)/\V.storable = true/\qqG false V = some (.int .i64 (L.length:Nat)):=by
 rcases h with ⟨rfl,rfl⟩ | ⟨id,rfl,_,_⟩ <;> exact ⟨rfl,λ_ _=>rfl,rfl,rfl⟩
theorem SL.keep {G G':List qj} {L:List Str} {V:qd} (h:SL G L V) (hk:∀id,qfi V = some id->G'[id]? = G[id]?):SL G' L V:=by
 rcases h with h | ⟨id,rfl,h1,h2⟩
 ·exact .inl h
 ·exact .inr ⟨id,rfl,h1,(hk id rfl).trans h2⟩
theorem SL.lt {G:List qj} {L:List Str} {V:qd} (h:SL G L V) {id:Nat} (hi:qfi V = some id):id < G.length:=by
 rcases h with ⟨_,rfl⟩ | ⟨E,rfl,_,h2⟩
 ·cases hi
 ·cases hi
  exact (jd.1 h2).1
theorem SL.more {G:List qj} {L:List Str} {V:qd} (h:SL G L V) (l:List qj):SL (G ++ l) L V:=h.keep λid hi=>ja (h.lt hi)
theorem qFy (b:Nat) (u:Str) (G:List qj):hop b (.lit 1 [.str []] 1 [0]) [.str u] G = some (.sl G.length 0 1 1 0,G ++ [.cells [.str u]],false):=zk
theorem SL.app {G:List qj} {L:List Str} {V:qd} (h:SL G L V) (hl:L.length <= 100000) (b:Nat) (u:Str) :
  ∃G',hop b (.app 1) [V,.sl G.length 0 1 1 0] (G ++ [.cells [.str u]]) = some (.sl (G.length + 1) 0 (L.length + 1) (L.length + 1) 1,G',false)/\SL G' (L ++ [u]) (.sl (G.length + 1) 0 (L.length + 1) (L.length + 1) 1)/\G'.length = G.length + 2/\∀i,i < G.length->qfi V ≠ some i->G'[i]? = G[i]?:=by
 have h2:(G ++ [qj.cells [.str u]])[G.length]? = some (.cells [.str u]):=by rw [qi4];rfl
 have hs:qiI [qd.str u]:=qdF [u]
 rcases h with ⟨rfl,rfl⟩ | ⟨id,rfl,I,hid⟩
 ·have e:=qqX (base:=b) (k:=1) h2 rfl hs
  rw [ji] at e
  refine ⟨_,e,.inr ⟨G.length + 1,rfl,by simp,?_⟩,by simp,λi hi _=>?_⟩
  ·rw [jp,qaM];rfl
  ·rw [jp,ja hi]
 ·have E:=(jd.1 hid).1
  have e:=qvJ (base:=b) (k:=1) (n:=L.length) (show (G ++ [qj.cells [.str u]])[id]? = _ by rw [ja E];exact hid) h2 rfl (by simp) hs (qdF L) hl zo
  rw [ji] at e
  refine ⟨_,e,.inr ⟨G.length + 1,by simp,by simp,?_⟩,by simp,λi hi hn=>?_⟩
  ·have:((G ++ [qj.cells [.str u]]).set id .dead).length = G.length + 1:=by simp
   rw [qcy this];simp
  ·have:id ≠ i:=λe=>hn (by rw [e];rfl)
   rw [ja (by simp;omega),jf this,ja hi]
def Ln (h:List qj) (V:qd) (L:List Str) (r:Option (qdm×List qj×Bool)):Prop:=
 ∃G' V',r = some (.ret V',G',false)/\SL G' L V'/\h.length <= G'.length/\(∀i,i < h.length->qfi V ≠ some i->G'[i]? = h[i]?)/\(V' = V\/∀id,qfi V' = some id->h.length <= id)
def qeZ (k:Nat) (z:List qd):qF:=
 (.seq (.reg [ao 14 (.bin .lss (.t 13) (.t 12))]) (.seq (.cond (.t 14) (.skip) (.exit 0)) (.seq (.block 1 (.seq (.reg [ao 15 (.ixaL k (.t 11) (.t 13)),ao 16 (.ld (some k) (.t 15)),ao 10 (.new z),an (.st (some k) (.t 10) (.t 16))])
 (.reg [ao 17 (.mov (.t 0)),ao 18 (.mov (.t 1)),ao 19 (.mov (.t 3)),ao 20 (.ld (some k) (.t 10)),ao 21 (.call (.t 19) [(.t 20)]),ao 22 (.bin .add (.t 18) (.t 21)),ao 23 (.hx (.lit 1 [(.str [])] 1 [0]) [(.t 22)]),ao 24 (.hx (.app 1) [(.t 17),(.t 23)]),ao 0 (.asg (.t 24))])))
 (.reg [ao 25 (.bin .add (.t 13) (.c (.int .i64 1))),ao 13 (.mov (.t 25))]))))
def qAl (k:Nat) (z:List qd):qt:=⟨27,[.tmp 8],(.seq (.reg [ao 8 (.asg (.c (.lst [] .full)))]) (.seq (.seq (.reg [ao 11 (.mov (.t 2)),ao 12 (.len false (.t 11)),ao 13 (.mov (.c (.int .i64 0)))]) (.block 0 (.loop (qeZ k z)))) (.seq (.reg [ao 26 (.mov (.t 0)),ao 8 (.asg (.t 26))]) (.ret))))⟩
section
variable {α:Type} {k:Nat} {z:List qd} {l:List α} {en:α->qd} {g F:FuncId} {tf:α->Str} {ah:Str}
theorem qrX (hz:z.length = k) (aj:z.map qd.dim = z) (hs:∀v ∈ l,Shp k (en v)) (hl:l.length <= 1000) (hg:∀v ∈ l,∀h,Wd (.fn g [] []) [en v] h = some (.ret (.str (tf v)),h,false)) (af:∀v ∈ l,ah.length + (tf v).length <= qk) {H:List qj} {V0:qd} {L0:List Str} (ar:L0.length <= 50000) :
  ∀d st,(∃(tt:List qd) (i:Nat) (G:List qj) (V:qd),st = ⟨tt,G,false⟩/\tt.length = 27/\lkp tt 0 = V/\lkp tt 1 = .str ah/\lkp tt 3 = .fn g [] []/\lkp tt 11 = .lst (l.map en) .no/\lkp tt 12 = .int .i64 (l.length:Nat)/\lkp tt 13 = .int .i64 (i:Nat)/\i + d = l.length/\SL G (L0 ++ (l.take i).map λv=>ah ++ tf v) V/\H.length <= G.length/\(∀i,i < H.length->qfi V0 ≠ some i->G[i]? = H[i]?)/\(V = V0\/∀id,qfi V = some id->H.length <= id))->
   ∃x E,qv H.length Wd (.loop (qeZ k z)) st = some (x,E)/\(∃(tt:List qd) (G:List qj) (V:qd),E = ⟨tt,G,false⟩/\tt.length = 27/\lkp tt 0 = V/\SL G (L0 ++ l.map λv=>ah ++ tf v) V/\H.length <= G.length/\(∀i,i < H.length->qfi V0 ≠ some i->G[i]? = H[i]?)/\(V = V0\/∀id,qfi V = some id->H.length <= id)/\x = .exit 0):=by
 refine qba _ (λx E=>(∃(tt:List qd) (G:List qj) (V:qd),E = ⟨tt,G,false⟩/\tt.length = 27/\lkp tt 0 = V/\SL G (L0 ++ l.map λv=>ah ++ tf v) V/\H.length <= G.length/\(∀i,i < H.length->qfi V0 ≠ some i->G[i]? = H[i]?)/\(V = V0\/∀id,qfi V = some id->H.length <= id)/\x = .exit 0)) ?_
 rintro d st ⟨tt,i,G,V,rfl,ht,e0,e1,e3,e11,a1,ae,hid,I,hG,aa,hV⟩
 generalize he:qv H.length Wd (qeZ k z) _ = r
 rcases Nat.lt_or_ge i l.length with hi | hi
 ·have c1:ilt (i:Int) (l.length:Int) = true:=qqF zo
  have w:=qJ (n:=i) zo
  obtain ⟨cs,ec,s1,s2,s4⟩:=hs l[i] (List.getElem_mem hi)
  have hq:=hg l[i] (List.getElem_mem hi)
  have a8:=af l[i] (List.getElem_mem hi)
  have a6:(l.take (i + 1)).map (λv=>ah ++ tf v) = (l.take i).map (λv=>ah ++ tf v) ++ [ah ++ tf l[i]]:=by rw [List.take_succ_eq_append_getElem hi,jW];rfl
  generalize ap:tf l[i] = u at hq a8 a6
  rw [ec] at hq
  have hx:qi9 k (.lst (l.map en) .no) (.int .i64 (i:Nat)) = some (.iptr cs 0):=by
   have:=qa3 (k:=k) (f:=.no) (j:=.i64) (show (l.map en)[i]? = some (qd.agg cs) by rw [jr,jh hi,Option.map_some,ec]) (by simpa [qd.cells] using s1)
   simpa [qd.cells] using this
  have hd:z.drop k = []:=List.drop_eq_nil_of_le zo
  have hc:Go.AE.cut cs 0 (some k) = some (.agg cs):=by
   rw [qeX zo,List.drop_zero,List.take_of_length_le zo,s4]
  have hB:Nat.ble H.length G.length = true:=qx hG
  have ak:(L0 ++ (l.take i).map λv=>ah ++ tf v).length <= 100000:=by simp;omega
  obtain ⟨Vd,Vw,_,_⟩:=I.facts
  have ai:=I.more [qj.cells cs]
  obtain ⟨G',ac,Y,al,ab⟩:=ai.app ak H.length (ah ++ u)
  have ad:=qFy H.length (ah ++ u) (G ++ [qj.cells cs])
  rw [jp] at Y
  have a7:(G ++ [qj.cells cs]).length = G.length + 1:=by simp
  simp only [jp,jw,jV,a7] at ac ad
  rw [a7] at Y al ab
  simp only [qeZ,sT.1,sC.1,qg,seval,-rN,jQ,qiQ,qcl,qcm,qc9,qeY,ht,e0,e1,e3,e11,a1,ae,c1,hx,aj,hc,s1,s2,s4,hd,hz,hB,hq,a8,Vd,ad,ac,w] at he
  subst he
  refine .inl ⟨_,d - 1,rfl,zo,_,i + 1,G',.sl (G.length + 1 + 1) 0 ((L0 ++ (l.take i).map λv=>ah ++ tf v).length + 1) ((L0 ++ (l.take i).map λv=>ah ++ tf v).length + 1) 1,rfl,Y1,?_,?_,?_,?_,?_,?_,zo,by rw [a6];exact Y,zo,λj hj hn=>?_,.inr λid hid=>by cases hid;omega⟩
  rotate_right
  ·have am:qfi V ≠ some j:=λe=>by
    rcases hV with rfl | hV
    ·exact hn e
    ·have:=hV j e;omega
   rw [ab j zo am,ja zo]
   exact aa j hj hn
  all_goals simp only [sT.1,sC.1,seval,-rN,ht,e1,e3,e11,a1,jQ]
 ·have c1:ilt (i:Int) (l.length:Int) = false:=qkx zo
  rw [List.take_of_length_le hi] at I
  simp only [qeZ,sT.1,sC.1,qg,seval,-rN,ht,a1,ae,c1] at he
  subst he
  exact .inr ⟨_,_,rfl,by simp,_,G,V,rfl,Y1,Y2,I,hG,aa,hV,rfl⟩
theorem qnO (n:Nat) (v:qd) (G:List qj):leave n (.ret v) G false = (.ret v,bif v.lower n then G.take n else G,false):=by
 cases hl:v.lower n <;> simp [leave,hl]
theorem Ln.leave {h G:List qj} {V V':qd} {L:List Str} (hS:SL G L V') (hG:h.length <= G.length) (hk:∀i,i < h.length->qfi V ≠ some i->G[i]? = h[i]?) (hV:V' = V\/∀id,qfi V' = some id->h.length <= id):Ln h V L (some (Go.AE.leave h.length (.ret V') G false)):=by
 rw [qnO]
 cases hl:V'.lower h.length with
 | false=>exact ⟨G,V',rfl,hS,hG,hk,hV⟩
 | true=>
  refine ⟨G.take h.length,V',rfl,hS.keep λid hi=>?_,by simp;omega,λi hi hn=>?_,hV⟩
  ·have:id < h.length:=by
    rcases hS with ⟨_,rfl⟩ | ⟨E,rfl,_,_⟩
    ·cases hi
    ·cases hi
     simpa [qd.lower] using hl
   rw [List.getElem?_take_of_lt this]
  ·rw [List.getElem?_take_of_lt hi];exact hk i hi hn
theorem qfD (hX:X F = none) (hF:T.get F = some (qAl k z)) (hz:z.length = k) (Y:z.map qd.dim = z) (hs:∀v ∈ l,Shp k (en v)) (hl:l.length <= 1000) (hg:∀v ∈ l,∀h,Wd (.fn g [] []) [en v] h = some (.ret (.str (tf v)),h,false)) (I:∀v ∈ l,ah.length + (tf v).length <= qk) {h:List qj} {V:qd} {L:List Str} (hL:L.length <= 50000) (hS:SL h L V) :
  Ln h V (L ++ l.map λv=>ah ++ tf v) (Wd (.fn F [] []) [V,.str ah,.lst (l.map en) .no,.fn g [] []] h):=by
 have loop:=qrX (H:=h) (V0:=V) (L0:=L) hz Y hs hl hg I hL
 obtain ⟨Vd,Vw,_,_⟩:=hS.facts
 generalize hw:Wd _ _ h = w
 rw [qm _ _ hX hF] at hw
 simp only [qAl,sT.1,sC.1,qg,seval,-rN,jQ,Vd] at hw
 generalize hr:qv h.length Wd (.loop (qeZ k z)) _ = r at hw
 obtain ⟨x,a7,rfl,tt,G,V',rfl,ht,e0,E,hG,hk,hV,rfl⟩:=qgA hr (loop l.length _ ⟨_,0,h,V,rfl,Y0,Y0,Y0,Y0,Y0,Y0,y5,zo,by simpa using hS,jm _,λ_ _ _=>rfl,.inl rfl⟩)
 obtain ⟨a6,a1,_,_⟩:=E.facts
 simp only [sT.1,sC.1,qg,seval,-rN,ht,e0,a6,a1] at hw
 subst hw
 exact Ln.leave E hG hk hV
def qq7 (E:FuncId):qt:=⟨39,[.tmp 10],(.seq (.reg [ao 10 (.asg (.c (.lst [] .full)))]) (.seq (.seq (.reg [ao 11 (.mov (.t 3)),ao 12 (.len false (.t 11)),ao 13 (.bin .eql (.t 12) (.c (.int .i64 0)))]) (.cond (.t 13) (.seq (.reg [ao 14 (.mov (.t 0)),ao 15 (.mov (.t 1)),ao 16 (.mov (.t 2)),ao 17 (.bin .add (.t 15) (.t 16)),ao 18 (.bin .add (.t 17) (.c (.str [32,123,125]))),ao 19 (.hx (.lit 1 [(.str [])] 1 [0]) [(.t 18)]),ao 20 (.hx (.app 1) [(.t 14),(.t 19)]),ao 10 (.asg (.t 20))]) (.ret)) (.skip)))
 (.seq (.reg [ao 21 (.mov (.t 0)),ao 22 (.mov (.t 1)),ao 23 (.mov (.t 2)),ao 24 (.bin .add (.t 22) (.t 23)),ao 25 (.bin .add (.t 24) (.c (.str [32,123]))),ao 26 (.hx (.lit 1 [(.str [])] 1 [0]) [(.t 25)]),ao 27 (.hx (.app 1) [(.t 21),(.t 26)]),ao 0 (.asg (.t 27))])
 (.seq (.reg [ao 28 (.mov (.t 0)),ao 29 (.mov (.t 1)),ao 30 (.bin .add (.t 29) (.c (.str [32,32]))),ao 31 (.mov (.t 3)),ao 32 (.mov (.t 4)),ao 33 (.call (.c (.fn E [] [])) [(.t 28),(.t 30),(.t 31),(.t 32)]),ao 0 (.asg (.t 33))])
 (.seq (.reg [ao 34 (.mov (.t 0)),ao 35 (.mov (.t 1)),ao 36 (.bin .add (.t 35) (.c (.str [125]))),ao 37 (.hx (.lit 1 [(.str [])] 1 [0]) [(.t 36)]),ao 38 (.hx (.app 1) [(.t 34),(.t 37)]),ao 10 (.asg (.t 38))]) (.ret))))))⟩
def qb1 (ah hd:Str) (ls:List Str):List Str:=bif ls.isEmpty then [ah ++ (hd ++ [32,123,125])] else (ah ++ (hd ++ [32,123])) :: (ls.map (λl=>ah ++ ([32,32] ++ l)) ++ [ah ++ [125]])
theorem qnq {B:FuncId} {hd:Str} (ad:X B = none) (hB:T.get B = some (qq7 F)) (hX:X F = none) (hF:T.get F = some (qAl k z)) (hz:z.length = k) (a7:z.map qd.dim = z) (hs:∀v ∈ l,Shp k (en v)) (hl:l.length <= 1000) (hg:∀v ∈ l,∀h,Wd (.fn g [] []) [en v] h = some (.ret (.str (tf v)),h,false)) (a1:∀v ∈ l,ah.length + (tf v).length <= 500000000) (hh:ah.length + hd.length <= 500000000) {h:List qj} {V:qd} {L:List Str} (hL:L.length <= 40000) (hS:SL h L V) :
  Ln h V (L ++ qb1 ah hd (l.map tf)) (Wd (.fn B [] []) [V,.str ah,.str hd,.lst (l.map en) .no,.fn g [] []] h):=by
 obtain ⟨Vd,Vw,Vs,_⟩:=hS.facts
 have q1:ah.length + hd.length <= qk:=by unfold qk;omega
 have q2:∀n,n <= 10->ah.length + (hd.length + n) <= qk:=λn hn=>by unfold qk;omega
 have q3:∀n,n <= 10->ah.length + hd.length + n <= qk:=λn hn=>by unfold qk;omega
 have q4:∀n,n <= 10->ah.length + n <= qk:=λn hn=>by unfold qk;omega
 have HX:=λu g=>qFy h.length u g
 generalize hw:Wd _ _ h = w
 rw [qm _ _ ad hB] at hw
 cases l with
 | nil=>
  have aj:L.length <= 100000:=zo
  obtain ⟨G',E,ai,av,ac⟩:=hS.app aj h.length (ah ++ (hd ++ [32,123,125]))
  simp only [qq7,sT.1,sC.1,qg,seval,-rN,qiQ,qcl,qcm,qc9,qeY,Vd,q1,q3,cc0,HX,E] at hw
  subst hw
  exact Ln.leave (by simpa [qb1] using ai) zo ac (.inr λid hi=>by cases hi;omega)
 | cons v l=>
  have c0:(((l.length + 1:Nat):Int) == 0) = false:=by rw [beq_eq_false_iff_ne];omega
  obtain ⟨G1,E,af,au,ab⟩:=hS.app zo h.length (ah ++ (hd ++ [32,123]))
  have hE:=qfD (l:=v :: l) (ah:=ah ++ [32,32]) hX hF hz a7 hs hl hg (λv hv=>by have:=a1 v hv;simp;unfold qk;omega) (by simp;omega) af
  obtain ⟨G2,V2,hE,Y,ar,aa,I⟩:=hE
  rw [show (v :: l).map en = en v :: l.map en from rfl] at hE
  obtain ⟨al,ak,_,_⟩:=Y.facts
  obtain ⟨G3,a6,ae,ap,a8⟩:=Y.app (by simp at hl ⊢;omega) h.length (ah ++ [125])
  have am:=λu=>qFy h.length u G2
  simp only [qq7,sT.1,sC.1,qg,seval,-rN,jQ,qiQ,qcl,qcm,qc9,qeY,Vd,al,ak,q1,q3,q4,c0,HX,E,hE,a6] at hw
  subst hw
  have hid:∀id,qfi V2 = some id->h.length <= id:=λid hi=>by
   rcases I with rfl | I
   ·cases hi;omega
   ·have:=I id hi;omega
  refine Ln.leave (h:=h) (G:=G3) (V:=V) (by simpa [qb1,Function.comp_def] using ae) zo (λi hi hn=>?_) (.inr λid hi=>by cases hi;omega)
  rw [a8 i zo (λe=>by have:=hid i e;omega),aa i zo (λe=>by cases e;omega),ab i hi hn]
end
inductive Tp where
 | mk (k:Int) (l:List Tp)
def Tp.enc:Tp->List qd
 | .mk k l=>[.int .i64 k,.lst (l.map λv=>.agg v.enc) .no]
def tpV (v:Tp):qd:=.agg v.enc
theorem qdJ (k:Int) (l:List Tp):tpV (.mk k l) = .agg [.int .i64 k,.lst (l.map tpV) .no]:=by rw [tpV,Tp.enc];rfl
def tyB:Nat->Tp->Bool
 | 0,.mk k l=>(k == 0 || (k == 1 || k == 2)) && l.isEmpty
 | d + 1,.mk k l=>((k == 0 || (k == 1 || k == 2)) && l.isEmpty) || (k == 3 && ((decide (1 <= l.length) && decide (l.length <= 4)) && l.all (tyB d)))
theorem qtE (t:List qd) (f:FuncId) (a b:List qB):pureV t (.mkF f a b) = some (.fn f (a.map (ev t)) (b.map (ev t))):=rfl
theorem qES {d:Nat} (hd:d <= 3) {v:Tp} (hy:∀g,Wd (.fn 125 [] []) [tpV v,.int .i64 (d:Nat)] g = some (.ret (.bool (tyB d v)),g,false)) (g:List qj) (R:Nat) (hR:R < g.length) (hr:g[R]? = some (.cells [.int .i64 (d + 1:Nat)])) :
  Wd (.fn 156 [] [.ptr R 0]) [tpV v] g = some (.ret (.bool (tyB d v)),g,false):=by
 generalize tyB d v = b at *
 obtain ⟨k,l⟩:=v
 rw [qdJ] at *
 have w1:IntKind.i64.wrap (((d + 1:Nat):Int) - 1) = ((d:Nat):Int):=by rw [qbU zo zo];omega
 rw [qm 156 qFr]
 simp only [qFr,sT.1,sC.1,qg,seval,-rN,hR,hr,w1,hy]
theorem qqw {d:Nat} (hd:d <= 3) {l:List Tp} (hy:∀x ∈ l,∀g,Wd (.fn 125 [] []) [tpV x,.int .i64 (d:Nat)] g = some (.ret (.bool (tyB d x)),g,false)) (h:List qj) (R:Nat) (hR:R < h.length) (hr:h[R]? = some (.cells [.int .i64 (d + 1:Nat)])) :
  Wd (.fn 155 [] []) [.lst (l.map tpV) .no,.fn 156 [] [.ptr R 0]] h = some (.ret (.bool ((decide (1 <= l.length) && decide (l.length <= 4)) && l.all (tyB d))),h,false):=by
 have loop:l.length <= 4->∀k st,(∃(tt:List qd) (i:Nat) (E:List qj),st = ⟨tt,h ++ E,false⟩/\tt.length = 26/\lkp tt 1 = .fn 156 [] [.ptr R 0]/\lkp tt 15 = .lst (l.map tpV) .no/\lkp tt 16 = .int .i64 (l.length:Nat)/\lkp tt 17 = .int .i64 (i:Nat)/\i + k = l.length/\l.all (tyB d) = (l.drop i).all (tyB d))->
   ∃x a1,qv h.length Wd (.loop qh5) st = some (x,a1)/\(∃(tt:List qd) (E:List qj),a1 = ⟨tt,h ++ E,false⟩/\tt.length = 26/\((x = .exit 0/\l.all (tyB d) = true)\/(x = .ret/\lkp tt 4 = .bool false/\l.all (tyB d) = false))):=by
  intro h4
  refine qba _ (λx a1=>∃(tt:List qd) (E:List qj),a1 = ⟨tt,h ++ E,false⟩/\tt.length = 26/\((x = .exit 0/\l.all (tyB d) = true)\/(x = .ret/\lkp tt 4 = .bool false/\l.all (tyB d) = false))) ?_
  rintro k st ⟨tt,i,E,rfl,ht,e1,aa,a6,a8,ae,I⟩
  generalize he:qv h.length Wd qh5 _ = r
  rcases Nat.lt_or_ge i l.length with hi | hi
  ·have c1:ilt (i:Int) (l.length:Int) = true:=qqF zo
   have w:=qJ (n:=i) zo
   have ac:=hy _ (List.getElem_mem hi)
   have ad:(h ++ E).length = h.length + E.length:=by simp
   have Y:=qES hd ac (h ++ (E ++ [.cells l[i].enc])) R (by simp;omega) (by rw [ja hR,hr])
   have hg:(l.map tpV)[i]? = some (tpV l[i]):=by rw [jr,jh hi];rfl
   rw [List.drop_eq_getElem_cons hi,List.all_cons] at I
   have ab:Nat.ble h.length (h.length + E.length) = true:=qx zo
   generalize l[i] = v at Y hg I
   cases hb:tyB d v <;> rw [hb] at I Y <;> obtain ⟨K,L⟩:=v <;> rw [qdJ] at Y hg <;> rw [Tp.enc] at Y <;> change Wd _ _ (h ++ (E ++ [.cells [.int .i64 K,.lst (L.map tpV) .no]])) = _ at Y <;> have hx:qi9 2 (.lst (l.map tpV) .no) (.int .i64 (i:Nat)) = some (.iptr [.int .i64 K,.lst (L.map tpV) .no] 0):=qa3 hg rfl
   ·rw [jL] at I
    simp only [qh5,sT.1,sC.1,qg,seval,-rN,ht,e1,aa,a6,a8,c1,hx,ab,Y] at he
    subst he
    refine .inr ⟨_,_,rfl,by simp,_,E ++ [.cells [.int .i64 K,.lst (L.map tpV) .no]],rfl,Y1,.inr ⟨rfl,?_,I⟩⟩
    simp only [sT.1,seval,-rN,ht]
   ·rw [jY] at I
    simp only [qh5,sT.1,sC.1,qg,seval,-rN,ht,e1,aa,a6,a8,c1,w,hx,ab,Y] at he
    subst he
    refine .inl ⟨_,k - 1,rfl,zo,_,i + 1,E ++ [.cells [.int .i64 K,.lst (L.map tpV) .no]],rfl,Y1,?_,?_,?_,?_,zo,I⟩
    all_goals simp only [sT.1,sC.1,seval,-rN,ht,e1,aa,a6]
  ·have c1:ilt (i:Int) (l.length:Int) = false:=qkx zo
   simp only [qh5,sT.1,sC.1,qg,seval,-rN,ht,a6,a8,c1] at he
   subst he
   rw [List.drop_eq_nil_of_le hi] at I
   exact .inr ⟨_,_,rfl,by simp,_,E,rfl,Y1,.inl ⟨rfl,I⟩⟩
 generalize hw:Wd _ _ h = w
 rw [qm 155 qCH] at hw
 by_cases a7:1 <= l.length/\l.length <= 4
 ·have d1:ilt (l.length:Int) 1 = false:=qkx zo
  have d2:ilt 4 (l.length:Int) = false:=qkx zo
  simp only [qCH,sT.1,sC.1,qg,qH,seval,-rN,jQ,d1,d2] at hw
  generalize hr:qv h.length Wd (.loop qh5) _ = r at hw
  obtain ⟨x,a1,rfl,tt,E,rfl,ht,⟨rfl,ha⟩ | ⟨rfl,e4,ha⟩⟩:=qgA hr (loop a7.2 l.length _ ⟨_,0,[],by rw [jF],Y0,Y0,Y0,Y0,y5,zo,rfl⟩)
  ·simp only [sT.1,sC.1,qg,seval,-rN,ht] at hw
   rw [ha,decide_eq_true a7.1,decide_eq_true a7.2]
   exact hw.symm
  ·simp only [sT.1,seval,-rN,e4] at hw
   rw [ha,Bool.and_false]
   exact hw.symm
 ·have d1:(ilt (l.length:Int) 1 || ilt 4 (l.length:Int)) = true:=by rw [qaj,qaj];simp;omega
  have d2:(decide (1 <= l.length) && decide (l.length <= 4)) = false:=by
   rw [Bool.and_eq_false_iff,decide_eq_false_iff_not,decide_eq_false_iff_not]
   omega
  simp only [qCH,sT.1,sC.1,qg,qH,seval,-rN,jQ,d1] at hw
  rw [d2,jL]
  exact hw.symm
theorem qDT {α:Type} (l:List α):((l.length:Int) == 0) = l.isEmpty:=by
 cases l with
 | nil=>rfl
 | cons a l=>rw [List.isEmpty_cons,beq_eq_false_iff_ne,jy];omega
theorem qIX:∀d,d <= 3->∀(v:Tp) g,Wd (.fn 125 [] []) [tpV v,.int .i64 (d:Nat)] g = some (.ret (.bool (tyB d v)),g,false):=by
 have a3:∀x:Int,(x == 3) = true->((x == 0) = false/\(x == 1) = false/\(x == 2) = false):=λx h=>by
  simp only [beq_iff_eq,beq_eq_false_iff_ne] at *
  omega
 intro d
 induction d with
 | zero=>
  rintro _ ⟨k,l⟩ g
  have d1:ilt 0 ((0:Nat):Int) = false:=Eq.trans rfl rfl
  rw [tyB,qdJ]
  rw [qm 125 qzU]
  cases h0:(k == 0) <;> cases h1:(k == 1) <;> cases h2:(k == 2) <;> cases h3:(k == 3) <;> simp only [qzU,sT.1,sC.1,qg,qH,seval,-rN,jQ,qDT,h0,h1,h2,h3,d1]
 | succ d ih=>
  rintro hd ⟨k,l⟩ g
  have d1:ilt 0 ((d + 1:Nat):Int) = true:=qqF zo
  have hit:=qqw (d:=d) (l:=l) zo (λx _=>ih zo x) (g ++ [.cells [.int .i64 k,.lst (l.map tpV) .no],.cells [.int .i64 (d + 1:Nat)]]) (g.length + 1) (by simp) (by rw [qaM];rfl)
  rw [tyB,qdJ]
  rw [qm 125 qzU]
  cases h3:(k == 3) with
  | true=>
   obtain ⟨h0,h1,h2⟩:=a3 k h3
   simp only [qzU,sT.1,sC.1,qg,qH,seval,-rN,h0,h1,h2,h3,hit,d1,qtE]
  | false=>
   cases h0:(k == 0) <;> cases h1:(k == 1) <;> cases h2:(k == 2) <;> simp only [qzU,sT.1,sC.1,qg,qH,seval,-rN,jQ,qDT,h0,h1,h2,h3,d1]
theorem qgX (v:Tp) (g:List qj):Wd (.fn 75 [] []) [tpV v] g = some (.ret (.bool (tyB 3 v)),g,false):=by
 have h:=qIX 3 zo v (g ++ [.cells v.enc])
 have c3:((3:Nat):Int) = 3:=zk
 rw [c3] at h
 generalize tyB 3 v = b at *
 obtain ⟨k,l⟩:=v
 rw [Tp.enc] at h
 change Wd _ _ (g ++ [.cells [.int .i64 k,.lst (l.map tpV) .no]]) = _ at h
 rw [qdJ] at h ⊢
 rw [qm 75 c75]
 simp only [c75,sT.1,sC.1,qg,seval,-rN,h]
def qqI (l:List Str):Str:=bif l.length == 1 then 40 :: (l.headD [] ++ [44,41]) else 40 :: (Lib.join l [44,32] ++ [41])
def ttx:Nat->Tp->Str
 | 0,.mk k _=>bif k == 0 then [105,110,116] else bif k == 1 then [98,111,111,108] else [115,121,109]
 | d + 1,.mk k l=>bif k == 0 then [105,110,116] else bif k == 1 then [98,111,111,108] else bif k == 2 then [115,121,109] else qqI (l.map (ttx d))
theorem qjy (l:List Str):qgr (l.map qd.str) = some l:=by
 induction l with
 | nil=>rfl
 | cons a l ih=>rw [List.map_cons,qgr,ih];rfl
theorem mkS (base n:Nat) (hn:n <= 100000) (h:List qj):hop base (.mk 1 [.str []]) [.int .i64 (n:Nat),.int .i64 (n:Nat)] h = some (.sl h.length 0 n n 0,h ++ [.cells (List.replicate n (.str []))],false):=by
 simp only [hop]
 rw [if_pos ⟨zo,zo,zo,rfl⟩,Int.toNat_natCast]
 have e:((List.replicate n [qd.str []]).flatten).map qd.dim = List.replicate n (.str []):=by
  induction n with
  | zero=>rfl
  | succ n ih=>rw [List.replicate_succ,List.flatten_cons,jW,ih zo,List.replicate_succ];rfl
 rw [e]
theorem qnN (sep:Str):∀(l:List Str) (b:Nat),(∀x ∈ l,x.length <= b)->(Lib.join l sep).length <= l.length * (b + sep.length):=by
 intro l
 induction l with
 | nil=>intro b _;rw [Lib.join_nil];simp
 | cons a l ih=>
  intro b hb
  have h1:=hb a (by simp)
  have h2:=ih b λx hx=>hb x (by simp [hx])
  rw [jy,Nat.succ_mul]
  cases l with
  | nil=>rw [Lib.join_one];simp;omega
  | cons c l=>
   rw [show Lib.join (a :: c :: l) sep = a ++ (sep ++ Lib.join (c :: l) sep) by rw [Lib.join_cons,Lib.join_cons];simp [Lib.joinTail],ji,ji]
   generalize (c :: l).length * (b + sep.length) = m at *
   omega
theorem qyt {l:List Str} {b:Nat} (h4:l.length <= 4) (hb:∀x ∈ l,x.length <= b):(qqI l).length <= 4 * b + 10:=by
 unfold qqI
 cases hc:l.length == 1 with
 | true=>
  cases l with
  | nil=>simp at hc
  | cons a l=>have:=hb a (by simp);simp only [cond_true,List.headD_cons,jy,ji,jz];omega
 | false=>
  have h:_ <= l.length * (b + 2):=qnN [44,32] l b hb
  have:l.length * (b + 2) <= 4 * (b + 2):=Nat.mul_le_mul_right _ h4
  simp only [cond_false,jy,ji,jz]
  omega
theorem qDu {G:List qj} {id:Nat} {l:List Str} (hG:G[id]? = some (.cells (l.map qd.str))) (h1:(Lib.join l [44,32]).length <= qk) (h2:l.length <= 4):Wd (.fn 16 [] []) [.sl id 0 l.length l.length 0,.str [44,32]] G = some (.ret (.str (Lib.join l [44,32])),G,false):=by
 have hx:jnX Wd [.sl id 0 l.length l.length 0,.str [44,32]] G = some (.ret (.str (Lib.join l [44,32])),G,false):=by
  have a:Nat.ble (Lib.join l [44,32]).length qk = true:=qx h1
  have b:Nat.ble l.length qk = true:=qx (by unfold qk;omega)
  have c:(l.map qd.str).take l.length = l.map qd.str:=List.take_of_length_le (by simp)
  have d:Nat.beq l.length l.length = true:=Nat.beq_refl _
  simp only [jnX,hG,c,qjy,a,b,d,Bool.and_self,cond_true]
 exact (qhf qeq (show X 16 = some jnX by kernel_rfl)).trans hx
theorem qu8 {G:List qj} {id:Nat} {l:List Str} (hG:G[id]? = some (.cells (l.map qd.str))) (h4:l.length <= 4) (hb:∀x ∈ l,x.length <= 5000):Wd (.fn 185 [] []) [.sl id 0 l.length l.length 0] G = some (.ret (.str (qqI l)),G,false):=by
 have hid:=(jd.1 hG).1
 rw [qm 185 qCK]
 by_cases h1:l.length = 1
 ·obtain ⟨x,rfl⟩ :∃x,l = [x]:=List.length_eq_one_iff.1 h1
  have hx:=hb x (by simp)
  have q1:1 + x.length <= qk:=by unfold qk;omega
  have q2:1 + x.length + 2 <= qk:=by unfold qk;omega
  have q3:x.length + 1 <= qk:=by unfold qk;omega
  have q4:x.length + 1 + 2 <= qk:=by unfold qk;omega
  have q5:x.length + 3 <= qk:=by unfold qk;omega
  have z1:(((1:Nat):Int) == 1) = true:=zk
  have E:qi9 1 (.sl id 0 1 1 0) (.int .i64 0) = some (.ptr id 0):=by rw [qs1];rfl
  simp only [List.map_cons,List.map_nil] at hG
  simp only [qCK,sT.1,sC.1,qg,seval,-rN,qta,qc9,z1,E,hG,q1,q4,qqI,List.headD_cons]
 ·have c1:((l.length:Int) == 1) = false:=by rw [beq_eq_false_iff_ne];omega
  have c2:(l.length == 1) = false:=by rw [beq_eq_false_iff_ne];exact h1
  have hj:_ <= l.length * (5000 + 2):=qnN [44,32] l 5000 hb
  have:l.length * (5000 + 2) <= 4 * (5000 + 2):=Nat.mul_le_mul_right _ h4
  have hk:=qDu hG (by unfold qk;omega) h4
  rw [qqI,c2,cond_false]
  generalize Lib.join l [44,32] = u at *
  have q1:1 + u.length <= qk:=by unfold qk;omega
  have q2:1 + u.length + 1 <= qk:=by unfold qk;omega
  have q3:u.length + 1 <= qk:=by unfold qk;omega
  have q4:u.length + 1 + 1 <= qk:=by unfold qk;omega
  have q5:u.length + 2 <= qk:=by unfold qk;omega
  simp only [qCK,sT.1,sC.1,qg,seval,-rN,qta,qc9,c1,hk,q1,q4]
theorem qAF {α:Type} (a:List α) (z v:α) (m:Nat):(a ++ List.replicate (m + 1) z).set a.length v = (a ++ [v]) ++ List.replicate m z:=by
 rw [List.set_append_right _ _ (jm _),Nat.sub_self,List.replicate_succ];simp
theorem qET {l:List Tp} {tf:Tp->Str} (hl:l.length <= 4) (ac:l ≠ []) (hy:∀x ∈ l,∀g,Wd (.fn 152 [] []) [tpV x] g = some (.ret (.str (tf x)),g,false)) (h:List qj):∃E,Wd (.fn 186 [] []) [.lst (l.map tpV) .no,.fn 152 [] []] h = some (.ret (.sl h.length 0 l.length l.length 0),h ++ .cells (l.map λx=>qd.str (tf x)) :: E,false):=by
 have loop:∀k st,(∃(tt:List qd) (i:Nat) (E:List qj),st = ⟨tt,h ++ .cells ((l.take i).map (λx=>qd.str (tf x)) ++ List.replicate k (qd.str [])) :: E,false⟩/\tt.length = 29/\lkp tt 1 = .fn 152 [] []/\lkp tt 5 = .sl h.length 0 l.length l.length 0/\lkp tt 14 = .lst (l.map tpV) .no/\lkp tt 15 = .int .i64 (l.length:Nat)/\lkp tt 16 = .int .i64 (i:Nat)/\i + k = l.length)->
   ∃x I,qv h.length Wd (.loop qjc) st = some (x,I)/\(∃(tt:List qd) (E:List qj),I = ⟨tt,h ++ .cells (l.map λx=>qd.str (tf x)) :: E,false⟩/\tt.length = 29/\lkp tt 5 = .sl h.length 0 l.length l.length 0/\x = .exit 0):=by
  refine qba _ (λx I=>∃(tt:List qd) (E:List qj),I = ⟨tt,h ++ .cells (l.map λx=>qd.str (tf x)) :: E,false⟩/\tt.length = 29/\lkp tt 5 = .sl h.length 0 l.length l.length 0/\x = .exit 0) ?_
  rintro k st ⟨tt,i,E,rfl,ht,e1,e5,aa,a6,a8,aj⟩
  generalize he:qv h.length Wd qjc _ = r
  rcases Nat.lt_or_ge i l.length with hi | hi
  ·obtain ⟨k',rfl⟩ :∃k',k = k' + 1:=⟨k - 1,zo⟩
   have c1:ilt (i:Int) (l.length:Int) = true:=qqF zo
   have w:=qJ (n:=i) zo
   have ab:(l.take (i + 1)).map (λx=>qd.str (tf x)) = (l.take i).map (λx=>qd.str (tf x)) ++ [qd.str (tf l[i])]:=by rw [List.take_succ_eq_append_getElem hi,jW];rfl
   have a1:((l.take i).map (λx=>qd.str (tf x)) ++ List.replicate (k' + 1) (qd.str [])).set i (qd.str (tf l[i])) = (l.take (i + 1)).map (λx=>qd.str (tf x)) ++ List.replicate k' (qd.str []):=by
    have:=qAF ((l.take i).map λx=>qd.str (tf x)) (qd.str []) (qd.str (tf l[i])) k'
    have ad:((l.take i).map λx=>qd.str (tf x)).length = i:=by simp;omega
    rw [ad] at this
    rw [this,ab]
   have ae:i + 1 <= ((l.take i).map (λx=>qd.str (tf x)) ++ List.replicate (k' + 1) (qd.str [])).length:=by simp;omega
   generalize (l.take i).map (λx=>qd.str (tf x)) ++ List.replicate (k' + 1) (qd.str []) = row at *
   rw [List.set_eq_take_append_cons_drop,if_pos zo] at a1
   have Y:=hy l[i] (List.getElem_mem hi)
   have hg:(l.map tpV)[i]? = some (tpV l[i]):=by rw [jr,jh hi];rfl
   have a7:qi9 1 (.sl h.length 0 l.length l.length 0) (.int .i64 (i:Nat)) = some (.ptr h.length (0 + i)):=by
    rw [qs1,if_pos ⟨zo,zo⟩];simp
   rw [Nat.zero_add] at a7
   generalize tf l[i] = u at Y a1
   generalize l[i] = v at Y hg
   obtain ⟨K,L⟩:=v
   rw [qdJ] at Y hg
   have hx:qi9 2 (.lst (l.map tpV) .no) (.int .i64 (i:Nat)) = some (.iptr [.int .i64 K,.lst (L.map tpV) .no] 0):=qa3 hg rfl
   have ai:∀q:List qj,(h ++ qj.cells row :: q).length = h.length + (q.length + 1):=λq=>by simp
   have af:Nat.ble h.length (h.length + (E.length + 1)) = true:=qx zo
   have ak:Nat.ble h.length h.length = true:=qx (jm _)
   simp only [qjc,sT.1,sC.1,qg,seval,-rN,ht,e1,e5,aa,a6,a8,c1,w,hx,a7,af,Y,ae,a1,qc9] at he
   subst he
   refine .inl ⟨_,k',rfl,zo,_,i + 1,E ++ [.cells [.int .i64 K,.lst (L.map tpV) .no]],rfl,Y1,?_,?_,?_,?_,?_,zo⟩
   all_goals simp only [sT.1,sC.1,seval,-rN,ht,e1,e5,aa,a6]
  ·have c1:ilt (i:Int) (l.length:Int) = false:=qkx zo
   obtain rfl:k = 0:=zo
   rw [List.take_of_length_le hi,List.replicate_zero,jF] at he
   simp only [qjc,sT.1,sC.1,qg,seval,-rN,ht,a6,a8,c1] at he
   subst he
   exact .inr ⟨_,_,rfl,by simp,_,E,rfl,Y1,by simp only [sT.1,sC.1,seval,-rN,e5],rfl⟩
 have c0:((l.length:Int) == 0) = false:=by
  rw [qDT]
  cases l with
  | nil=>exact absurd rfl ac
  | cons a l=>rfl
 have hm:=mkS h.length l.length zo h
 generalize hw:Wd _ _ h = w
 rw [qm 186 qFv] at hw
 simp only [qFv,sT.1,sC.1,qg,seval,-rN,qiQ,qcl,qcm,qc9,qeY,jQ,c0,hm] at hw
 generalize hr:qv h.length Wd (.loop qjc) _ = r at hw
 obtain ⟨x,I,rfl,tt,E,rfl,ht,e5,rfl⟩:=qgA hr (loop l.length _ ⟨_,0,[],rfl,Y0,Y0,Y0,Y0,Y0,y5,zo⟩)
 have hb:Nat.blt h.length h.length = false:=by
  cases hb:Nat.blt h.length h.length with
  | false=>rfl
  | true=>exact absurd (Nat.blt_eq▸hb) (Nat.lt_irrefl _)
 simp only [sT.1,sC.1,qg,seval,-rN,ht,e5,qc9,qeY,qnO,qxf,hb] at hw
 exact ⟨E,hw.symm⟩
theorem qys:∀d,d <= 3->∀(v:Tp),tyB d v = true->(∀g,Wd (.fn 152 [] []) [tpV v] g = some (.ret (.str (ttx d v)),g,false))/\(ttx d v).length <= 8 ^ (d + 1):=by
 have a3:∀x:Int,(x == 3) = true->((x == 0) = false/\(x == 1) = false/\(x == 2) = false):=λx h=>by
  simp only [beq_iff_eq,beq_eq_false_iff_ne] at *
  omega
 have leaf:∀(k:Int) (l:List Tp) (s:Str),(k == 0 || (k == 1 || k == 2)) = true->(s = bif k == 0 then [105,110,116] else bif k == 1 then [98,111,111,108] else [115,121,109])->(∀g,Wd (.fn 152 [] []) [tpV (.mk k l)] g = some (.ret (.str s),g,false))/\s.length <= 4:=by
  rintro k l s hk rfl
  refine ⟨λg=>?_,by cases k == 0 <;> cases k == 1 <;> simp⟩
  rw [qdJ,qm 152 qCb]
  cases h0:(k == 0) <;> cases h1:(k == 1) <;> cases h2:(k == 2) <;> rw [h0,h1,h2] at hk <;> first | cases hk;done | simp only [qCb,sT.1,sC.1,qg,seval,-rN,h0,h1,h2]
 intro d
 induction d with
 | zero=>
  rintro _ ⟨k,l⟩ hv
  rw [tyB,jk] at hv
  obtain ⟨h1,h2⟩:=leaf k l _ hv.1 rfl
  exact ⟨h1,jn h2 zo⟩
 | succ d ih=>
  rintro hd ⟨k,l⟩ hv
  have hp:8 <= 8 ^ (d + 1):=by
   have:=Nat.pow_le_pow_right (n:=8) zo (show 1 <= d + 1 by omega)
   simpa using this
  rw [tyB] at hv
  cases h3:(k == 3) with
  | false=>
   rw [h3,jL,Bool.or_false,jk] at hv
   obtain ⟨h1,h2⟩:=leaf k l (ttx (d + 1) (.mk k l)) hv.1 (by
    rw [ttx]
    cases h0:(k == 0) <;> cases h1:(k == 1) <;> cases h2:(k == 2) <;> simp_all)
   exact ⟨h1,jn h2 (by rw [Nat.pow_succ];omega)⟩
  | true=>
   obtain ⟨h0,h1,h2⟩:=a3 k h3
   simp only [h0,h1,h2,h3,Bool.or_self,jL,Bool.false_or,jY,jk,decide_eq_true_eq,List.all_eq_true] at hv
   obtain ⟨⟨l1,l4⟩,E⟩:=hv
   have hb:∀x ∈ l.map (ttx d),x.length <= 8 ^ (d + 1):=λx hx=>by
    obtain ⟨y,hy,rfl⟩:=jP.1 hx
    exact (ih zo y (E y hy)).2
   have a1:8 ^ (d + 1) <= 512:=by
    have:=Nat.pow_le_pow_right (n:=8) zo (show d + 1 <= 3 by omega)
    simpa using this
   have e:ttx (d + 1) (.mk k l) = qqI (l.map (ttx d)):=by rw [ttx,h0,h1,h2];rfl
   rw [e]
   refine ⟨λg=>?_,jn (qyt (by simpa using l4) hb) (by rw [Nat.pow_succ _ (d + 1)];omega)⟩
   have hE:=qET l4 (by rintro rfl;simp at l1) (λx hx=>(ih zo x (E x hx)).1) (g ++ [.cells [.int .i64 k,.lst (l.map tpV) .no]])
   obtain ⟨I,hE⟩:=hE
   have hT:=qu8 (G:=(g ++ [.cells [.int .i64 k,.lst (l.map tpV) .no]]) ++ .cells (l.map λx=>qd.str (ttx d x)) :: I) (id:=(g ++ [qj.cells [.int .i64 k,.lst (l.map tpV) .no]]).length) (l:=l.map (ttx d)) (by rw [qi4,List.map_map];rfl) (by simpa using l4) (λx hx=>jn (hb x hx) zo)
   rw [jQ] at hT
   have Y:(g ++ [qj.cells [.int .i64 k,.lst (l.map tpV) .no]]).length = g.length + 1:=by simp
   rw [Y] at hT hE
   simp only [jp,jw,jV] at hT hE
   generalize qqI (l.map (ttx d)) = S at *
   rw [qdJ,qm 152 qCb]
   simp only [qCb,sT.1,sC.1,qg,seval,-rN,qc9,h0,h1,h2,hE,hT]
theorem ql3 {v:Tp} (hv:tyB 3 v = true) (g:List qj):Wd (.fn 111 [] []) [tpV v] g = some (.ret (.str (ttx 3 v)),g,false):=by
 have h1:=qgX v (g ++ [.cells v.enc])
 have h2:=(qys 3 zo v hv).1 (g ++ [.cells v.enc])
 rw [hv] at h1
 generalize ttx 3 v = b at *
 clear hv
 obtain ⟨k,l⟩:=v
 rw [Tp.enc] at h1 h2
 rw [show (l.map λv=>qd.agg v.enc) = l.map tpV from rfl] at h1 h2
 rw [qdJ] at h1 h2 ⊢
 rw [qm 111 qFg]
 simp only [qFg,sT.1,sC.1,qg,seval,-rN,h1,h2]
structure qM where (name:Str) (t:Tp)
structure qak where (name:Str) (e:Exl)
structure qab where (port:Str) (e:Exl) (ifs:List Exl)
structure qau where (name model:Str)
structure qdv where (part port:Str)
structure qaf where (frm to:qdv)
structure qbi where (kind:Int) (name model:Str) (link:qaf)
structure qS where (e:Exl) (acts:List qbi)
def exC:Exl->List qd
 | .mk op n nm sb aS=>[.int .i64 op,.int .i64 n,.str nm,.str sb,.lst (aS.map exV) .no]
theorem qwz (e:Exl):exV e = .agg (exC e):=by cases e;rw [qac];rfl
def qM.enc (p:qM):qd:=.agg (.str p.name :: p.t.enc)
def qak.enc (s:qak):qd:=.agg (.str s.name :: exC s.e)
def qab.enc (x:qab):qd:=.agg (.str x.port :: (exC x.e ++ [.lst (x.ifs.map exV) .no]))
def qau.enc (p:qau):qd:=.agg [.str p.name,.str p.model]
def qdv.enc (p:qdv):qd:=.agg [.str p.part,.str p.port]
def qaf.enc (l:qaf):qd:=.agg [.str l.frm.part,.str l.frm.port,.str l.to.part,.str l.to.port]
def qbi.enc (a:qbi):qd:=.agg [.int .i64 a.kind,.str a.name,.str a.model,.str a.link.frm.part,.str a.link.frm.port,.str a.link.to.part,.str a.link.to.port]
def qS.enc (r:qS):qd:=.agg (exC r.e ++ [.lst (r.acts.map qbi.enc) .no])
def qM.txt (p:qM):Str:=p.name ++ ([58,32] ++ (ttx 3 p.t ++ [59]))
def qak.txt (s:qak):Str:=s.name ++ ([32,61,32] ++ (eT s.e ++ [59]))
def taT (e:Exl):Str:=[116,97,32] ++ (eT e ++ [59])
def qiM (l:List Exl):Str:=(l.map λe=>[32,105,102,32] ++ eT e).flatten
def qab.txt (x:qab):Str:=[101,109,105,116,32] ++ (x.port ++ ([32] ++ (eT x.e ++ (qiM x.ifs ++ [59]))))
def qau.txt (p:qau):Str:=p.name ++ ([32,61,32] ++ (p.model ++ [59]))
def qdv.txt (p:qdv):Str:=bif p.part.isEmpty then p.port else p.part ++ ([46] ++ p.port)
def qaf.txt (l:qaf):Str:=l.frm.txt ++ ([32,45,62,32] ++ (l.to.txt ++ [59]))
def qbi.txt (a:qbi):Str:=bif a.kind == 0 then [97,100,100,32] ++ (a.name ++ ([32,61,32] ++ (a.model ++ [59]))) else bif a.kind == 1 then [100,114,111,112,32] ++ (a.name ++ [59]) else bif a.kind == 2 then [116,105,101,32] ++ a.link.txt else [99,117,116,32] ++ a.link.txt
section
variable {G:List qj}
theorem quH {s:qak} (hn:s.name.length <= 16) (he:qlZ s.e):Wd (.fn 119 [] []) [s.enc] G = some (.ret (.str s.txt),G,false):=by
 obtain ⟨nm,e⟩:=s
 have hT:=λG=>qrW he G
 have hl:=qda he
 rw [qak.txt,qak.enc]
 generalize eT e = u at *
 simp only at hn
 have q1:nm.length + 3 <= qk:=by unfold qk;omega
 have q2:nm.length + (u.length + 3) <= qk:=by unfold qk;omega
 have q3:nm.length + 3 + u.length <= qk:=by unfold qk;omega
 have q4:nm.length + (3 + u.length) <= qk:=by unfold qk;omega
 have q5:nm.length + 3 + u.length + 1 <= qk:=by unfold qk;omega
 have q6:nm.length + (u.length + 1 + 1 + 1) <= qk:=by unfold qk;omega
 have q7:nm.length + (u.length + 1 + 1 + 1) + 1 <= qk:=by unfold qk;omega
 obtain ⟨op,n,m2,sb,aS⟩:=e
 rw [qac] at hT
 rw [exC,qm 119 qFj]
 simp only [qFj,sT.1,sC.1,qg,Nat.testBit,bne,seval,-rN,hT,q1,q3,q7]
theorem qxI {p:qM} (hn:p.name.length <= 16) (ht:tyB 3 p.t = true):Wd (.fn 72 [] []) [p.enc] G = some (.ret (.str p.txt),G,false):=by
 obtain ⟨nm,v⟩:=p
 have hT:=λG=>ql3 ht G
 have hl:=(qys 3 zo v ht).2
 rw [qM.txt,qM.enc]
 generalize ttx 3 v = u at *
 simp only at hn ht
 have q1:nm.length + 2 <= qk:=by unfold qk;omega
 have q2:nm.length + (u.length + 2) <= qk:=by unfold qk;omega
 have q4:nm.length + (2 + u.length) <= qk:=by unfold qk;omega
 have q6:nm.length + (u.length + 1 + 1) <= qk:=by unfold qk;omega
 have q7:nm.length + (u.length + 1 + 1) + 1 <= qk:=by unfold qk;omega
 have q8:nm.length + 2 + u.length <= qk:=by unfold qk;omega
 clear ht
 obtain ⟨k,l⟩:=v
 rw [qdJ] at hT
 rw [Tp.enc,show (l.map λv=>qd.agg v.enc) = l.map tpV from rfl,qm 72 c72]
 simp only [c72,sT.1,sC.1,qg,Nat.testBit,bne,seval,-rN,hT,q1,q7,q8]
theorem qEL {e:Exl} (he:qlZ e):Wd (.fn 121 [] []) [exV e] G = some (.ret (.str (taT e)),G,false):=by
 have hT:=λG=>qrW he G
 have hl:=qda he
 rw [taT]
 generalize eT e = u at *
 have q1:3 + u.length <= qk:=by unfold qk;omega
 have q2:u.length + 3 <= qk:=by unfold qk;omega
 have q3:u.length + 3 + 1 <= qk:=by unfold qk;omega
 have q4:u.length + 1 + 1 + 1 <= qk:=by unfold qk;omega
 have q5:u.length + 1 + 1 + 1 + 1 <= qk:=by unfold qk;omega
 obtain ⟨op,n,m2,sb,aS⟩:=e
 rw [qac] at *
 rw [qm 121 qFk]
 simp only [qFk,sT.1,sC.1,qg,seval,-rN,hT,q1,q3]
theorem qxy {p:qau} (h1:p.name.length <= 16) (h2:p.model.length <= 16):Wd (.fn 113 [] []) [p.enc] G = some (.ret (.str p.txt),G,false):=by
 obtain ⟨a,b⟩:=p
 simp only at h1 h2
 have q1:a.length + 3 <= qk:=by unfold qk;omega
 have q2:a.length + 3 + b.length <= qk:=by unfold qk;omega
 have q3:a.length + (b.length + 1 + 1 + 1) <= qk:=by unfold qk;omega
 have q4:a.length + (b.length + 1 + 1 + 1) + 1 <= qk:=by unfold qk;omega
 have q5:a.length + (3 + b.length) <= qk:=by unfold qk;omega
 rw [qau.txt,qau.enc,qm 113 qFh]
 simp only [qFh,sT.1,sC.1,qg,seval,-rN,q1,q2,q4]
theorem qzK (s:Str):(s == []) = s.isEmpty:=by cases s <;> rfl
theorem qr5 {p:qdv} (h1:p.part.length <= 16) (h2:p.port.length <= 16):Wd (.fn 153 [] []) [p.enc] G = some (.ret (.str p.txt),G,false):=by
 obtain ⟨a,b⟩:=p
 simp only at h1 h2
 have q1:a.length + 1 <= qk:=by unfold qk;omega
 have q2:a.length + 1 + b.length <= qk:=by unfold qk;omega
 have q3:a.length + (b.length + 1) <= qk:=by unfold qk;omega
 have q5:a.length + (1 + b.length) <= qk:=by unfold qk;omega
 rw [qdv.txt,qdv.enc,qm 153 qFq]
 cases hc:a.isEmpty <;> simp only [qFq,sT.1,sC.1,qg,seval,-rN,qzK,hc,q1,q2]
def qdv.short (p:qdv):Prop:=p.part.length <= 16/\p.port.length <= 16
theorem qdv.short.txt {p:qdv} (h:p.short):p.txt.length <= 40:=by
 have:=h.1
 have:=h.2
 unfold qdv.txt
 cases p.part.isEmpty <;> simp <;> omega
theorem qnU {l:qaf} (h1:l.frm.short) (h2:l.to.short):Wd (.fn 115 [] []) [l.enc] G = some (.ret (.str l.txt),G,false):=by
 obtain ⟨⟨a,b⟩,⟨c,d⟩⟩:=l
 have f1:=λG=>qr5 (G:=G) h1.1 h1.2
 have f2:=λG=>qr5 (G:=G) h2.1 h2.2
 have l1:=h1.txt
 have l2:=h2.txt
 rw [qaf.txt,qaf.enc]
 rw [qdv.enc] at f1 f2
 simp only at *
 generalize qdv.txt ⟨a,b⟩ = u at *
 generalize qdv.txt ⟨c,d⟩ = v at *
 have q1:u.length + 4 <= qk:=by unfold qk;omega
 have q2:u.length + 4 + v.length <= qk:=by unfold qk;omega
 have q3:u.length + (v.length + 1 + 1 + 1 + 1) <= qk:=by unfold qk;omega
 have q4:u.length + (v.length + 1 + 1 + 1 + 1) + 1 <= qk:=by unfold qk;omega
 have q5:u.length + (4 + v.length) <= qk:=by unfold qk;omega
 rw [qm 115 qFi]
 simp only [qFi,sT.1,sC.1,qg,Nat.testBit,bne,seval,-rN,f1,f2,q1,q2,q4]
def qbi.short (a:qbi):Prop:=a.name.length <= 16/\a.model.length <= 16/\(a.kind ≠ 0->a.kind ≠ 1->a.link.frm.short/\a.link.to.short)
theorem qaf.len {l:qaf} (h1:l.frm.short) (h2:l.to.short):l.txt.length <= 90:=by
 have:=h1.txt
 have:=h2.txt
 unfold qaf.txt
 simp
 omega
theorem qzA {a:qbi} (h:a.short):Wd (.fn 117 [] []) [a.enc] G = some (.ret (.str a.txt),G,false):=by
 obtain ⟨k,a,b,l⟩:=a
 obtain ⟨h1,h2,h3⟩:=h
 simp only at h1 h2 h3
 have q1:a.length + 1 + 1 + 1 + 1 + 3 <= qk:=by unfold qk;omega
 have q2:4 + a.length <= qk:=by unfold qk;omega
 have q3:a.length + 4 <= qk:=by unfold qk;omega
 have q4:a.length + 3 + 1 + 1 + 1 + 1 <= qk:=by unfold qk;omega
 have q5:a.length + (b.length + 1 + 1 + 1) + 1 + 1 + 1 + 1 <= qk:=by unfold qk;omega
 have q6:a.length + (b.length + 1 + 1 + 1) + 1 + 1 + 1 + 1 + 1 <= qk:=by unfold qk;omega
 have q7:a.length + 3 + 1 + 1 + 1 + 1 + b.length <= qk:=by unfold qk;omega
 have q8:a.length + 1 + 1 + 1 + 1 + 1 <= qk:=by unfold qk;omega
 have q9:a.length + 1 + 1 + 1 + 1 + 1 + 1 <= qk:=by unfold qk;omega
 have qa:5 + a.length <= qk:=by unfold qk;omega
 have qb:a.length + 1 + 1 + 1 + 1 <= qk:=by unfold qk;omega
 have qc:a.length + 5 <= qk:=by unfold qk;omega
 rw [qbi.txt,qbi.enc,qm 117 qCa]
 simp only
 cases h0:(k == 0) with
 | true=>simp only [qCa,sT.1,sC.1,qg,seval,-rN,h0,q1,q2,q6,q7,q9,qa]
 | false=>
  cases h1:(k == 1) with
  | true=>simp only [qCa,sT.1,sC.1,qg,seval,-rN,h0,h1,q1,q2,q6,q7,q9,qa]
  | false=>
   obtain ⟨s1,s2⟩:=h3 (beq_eq_false_iff_ne.1 h0) (beq_eq_false_iff_ne.1 h1)
   have f:=λG=>qnU (G:=G) s1 s2
   have hl:=qaf.len s1 s2
   rw [qaf.enc] at f
   generalize qaf.txt l = u at *
   have p1:4 + u.length <= qk:=by unfold qk;omega
   have p2:u.length + 4 <= qk:=by unfold qk;omega
   cases h2:(k == 2) <;> simp only [qCa,sT.1,sC.1,qg,seval,-rN,h0,h1,h2,f,p1]
end
theorem qht {l:List Exl} (h:∀e ∈ l,qlZ e):(qiM l).length <= 300000 * l.length:=by
 induction l with
 | nil=>simp [qiM]
 | cons a l ih=>
  have h1:=qda (h a (by simp))
  have h2:=ih λe he=>h e (by simp [he])
  simp only [qiM,List.map_cons,List.flatten_cons,ji,jy,jz] at h2 ⊢
  omega
theorem qwp {x:qab} (hn:x.port.length <= 16) (he:qlZ x.e) (hi:x.ifs.length <= 100) (hI:∀e ∈ x.ifs,qlZ e) (G:List qj):Wd (.fn 123 [] []) [x.enc] G = some (.ret (.str x.txt),G,false):=by
 obtain ⟨pt,e,l⟩:=x
 simp only at hn he hi hI
 have hT:=λG=>qrW he G
 have hl:=qda he
 rw [qab.txt,qab.enc]
 simp only
 generalize eT e = u at *
 obtain ⟨op,n,m2,sb,aS⟩:=e
 rw [qac] at hT
 rw [exC]
 obtain ⟨S,hS⟩ :∃S:Str,S = 101 :: 109 :: 105 :: 116 :: 32 :: (pt ++ 32 :: u):=⟨_,rfl⟩
 have ar:S.length <= 268500:=by rw [hS];simp;omega
 have loop:∀k st,(∃(tt:List qd) (i:Nat) (E:List qj),st = ⟨tt,G ++ E,false⟩/\tt.length = 29/\lkp tt 3 = .str (S ++ qiM (l.take i))/\lkp tt 15 = .lst (l.map exV) .no/\lkp tt 16 = .int .i64 (l.length:Nat)/\lkp tt 17 = .int .i64 (i:Nat)/\i + k = l.length)->
   ∃y a1,qv G.length Wd (.loop qjb) st = some (y,a1)/\(∃(tt:List qd) (E:List qj),a1 = ⟨tt,G ++ E,false⟩/\tt.length = 29/\lkp tt 3 = .str (S ++ qiM l)/\y = .exit 0):=by
  refine qba _ (λy a1=>∃(tt:List qd) (E:List qj),a1 = ⟨tt,G ++ E,false⟩/\tt.length = 29/\lkp tt 3 = .str (S ++ qiM l)/\y = .exit 0) ?_
  rintro k st ⟨tt,i,E,rfl,ht,e3,ac,a7,ab,am⟩
  generalize hr:qv G.length Wd qjb _ = r
  rcases Nat.lt_or_ge i l.length with Y | Y
  ·have c1:ilt (i:Int) (l.length:Int) = true:=qqF zo
   have w:=qJ (n:=i) zo
   have a6:=λG=>qrW (hI l[i] (List.getElem_mem Y)) G
   have al:=qda (hI l[i] (List.getElem_mem Y))
   have ae:qiM (l.take (i + 1)) = qiM (l.take i) ++ 32 :: 105 :: 102 :: 32 :: eT l[i]:=by rw [List.take_succ_eq_append_getElem Y,qiM,jW,List.flatten_append];simp [qiM]
   have ak:=qht (l:=l.take i) λe he=>hI e (List.mem_of_mem_take he)
   have aj:(l.take i).length <= 100:=by simp;omega
   have hg:(l.map exV)[i]? = some (exV l[i]):=by rw [jr,jh Y];rfl
   generalize eT l[i] = w2 at *
   generalize qiM (l.take i) = I at *
   generalize l[i] = v at a6 hg
   obtain ⟨aa,n',m',a8,ad⟩:=v
   rw [qac] at a6 hg
   have hx:qi9 5 (.lst (l.map exV) .no) (.int .i64 (i:Nat)) = some (.iptr [.int .i64 aa,.int .i64 n',.str m',.str a8,.lst (ad.map exV) .no] 0):=qa3 hg rfl
   have ai:(G ++ E).length = G.length + E.length:=by simp
   have af:Nat.ble G.length (G.length + E.length) = true:=qx zo
   have q1:4 + w2.length <= qk:=by unfold qk;omega
   have q2:w2.length + 4 <= qk:=by unfold qk;omega
   have q3:S.length + I.length + (w2.length + 4) <= qk:=by unfold qk;omega
   have q4:S.length + I.length + (w2.length + 1 + 1 + 1 + 1) <= qk:=by unfold qk;omega
   have q5:S.length + (I.length + (w2.length + 1 + 1 + 1 + 1)) <= qk:=by unfold qk;omega
   simp only [qjb,sT.1,sC.1,qg,seval,-rN,ht,e3,ac,a7,ab,c1,w,hx,af,a6,q1,q3] at hr
   subst hr
   refine .inl ⟨_,k - 1,rfl,zo,_,i + 1,E ++ [.cells [.int .i64 aa,.int .i64 n',.str m',.str a8,.lst (ad.map exV) .no]],rfl,Y1,?_,?_,?_,?_,zo⟩
   ·simp only [sT.1,sC.1,seval,-rN,ht,ae]
   ·simp only [sT.1,sC.1,seval,-rN,ac]
   ·simp only [sT.1,sC.1,seval,-rN,a7]
   ·simp only [sT.1,seval,-rN,ht]
  ·have c1:ilt (i:Int) (l.length:Int) = false:=qkx zo
   rw [List.take_of_length_le Y] at e3
   simp only [qjb,sT.1,sC.1,qg,seval,-rN,ht,a7,ab,c1] at hr
   subst hr
   exact .inr ⟨_,_,rfl,by simp,_,E,rfl,Y1,Y4,rfl⟩
 have q1:pt.length + 5 <= qk:=by unfold qk;omega
 have q2:5 + pt.length <= qk:=by unfold qk;omega
 have q3:pt.length + 1 + 1 + 1 + 1 + 1 + 1 <= qk:=by unfold qk;omega
 have q4:pt.length + 1 + 1 + 1 + 1 + 1 + 1 + u.length <= qk:=by unfold qk;omega
 have q5:pt.length + (u.length + 1) + 1 + 1 + 1 + 1 + 1 <= qk:=by unfold qk;omega
 have q6:pt.length + 1 + 1 + 1 + 1 + 1 <= qk:=by unfold qk;omega
 have q7:pt.length + (1 + u.length) + 1 + 1 + 1 + 1 + 1 <= qk:=by unfold qk;omega
 have ap:=qht hI
 generalize hw:Wd _ _ G = w
 rw [qm 123 qFl] at hw
 simp only [qFl,sT.1,sC.1,qg,Nat.testBit,bne,seval,-rN,hT,q2,q3,q4,jQ] at hw
 generalize hr:qv G.length Wd (.loop qjb) _ = r at hw
 obtain ⟨y,a1,rfl,tt,E,rfl,ht,e3,rfl⟩:=qgA hr (loop l.length _ ⟨_,0,[_],rfl,Y0,by simp only [sT.1,sC.1,seval,-rN,hS,qiM,List.flatten_nil],Y0,Y0,y5,zo⟩)
 have q8:S.length + (qiM l).length + 1 <= qk:=by unfold qk;omega
 have q9:S.length + ((qiM l).length + 1) <= qk:=by unfold qk;omega
 simp only [sT.1,sC.1,qg,seval,-rN,ht,e3,q8] at hw
 subst hw
 rw [hS]
 simp
theorem SL.row {G:List qj} {M:List Str} {W:qd} (h:SL G M W) (E:M ≠ []):qdE 1 G W = some (M.map .str,M.length):=by
 rcases h with ⟨rfl,_⟩ | ⟨id,rfl,_,hid⟩
 ·exact absurd rfl E
 ·have:(M.map qd.str).take M.length = M.map qd.str:=List.take_of_length_le (by simp)
  simp only [qdE,hid,jQ,Nat.zero_add,Nat.mul_one,jm,if_true,List.drop_zero,this,(qdF M).dims]
theorem SL.cat {G:List qj} {L M:List Str} {V W:qd} (h:SL G L V) (hw:SL G M W) (E:M ≠ []) (hl:L.length + M.length <= 100000) (b:Nat) :
  ∃G',hop b (.app 1) [V,W] G = some (.sl G.length 0 (L.length + M.length) (L.length + M.length) 1,G',false)/\SL G' (L ++ M) (.sl G.length 0 (L.length + M.length) (L.length + M.length) 1)/\G'.length = G.length + 1/\∀i,i < G.length->qfi V ≠ some i->G'[i]? = G[i]?:=by
 have e2:=hw.row E
 have hm:M.length ≠ 0:=λh=>E (List.length_eq_zero_iff.1 h)
 have I:L.length + M.length <= qk:=by unfold qk;omega
 rcases h with ⟨rfl,rfl⟩ | ⟨id,rfl,hL,hid⟩
 ·have e:qdE 1 G (.lst [] .full) = some ([],0):=rfl
  have q0:0 + M.length <= qk:=by unfold qk;omega
  refine ⟨G ++ [.cells (M.map .str)],by simp only [hop,qf8,e2,(qdF M).all,e,hm,q0,jz,j3,jl,if_false,if_true,jV],.inr ⟨G.length,by simp,by simp [E],?_⟩,by simp,λi hi _=>by rw [ja hi]⟩
  rw [qi4];simp
 ·have e:qdE 1 G (.sl id 0 L.length L.length 1) = some (L.map .str,L.length):=SL.row (.inr ⟨id,rfl,hL,hid⟩) hL
  have Y:¬ L.length + M.length <= L.length:=zo
  refine ⟨G.set id .dead ++ [.cells (L.map .str ++ M.map .str)],?_,.inr ⟨G.length,by simp,by simp [hL],?_⟩,by simp,λi hi hn=>?_⟩
  ·simp only [hop,qf8,e2,(qdF M).all,e,hm,I,Y,hid,j3,jl,if_false,if_true]
   simp
  ·rw [qcy (by simp)];simp
  ·have:id ≠ i:=λe=>hn (by rw [e];rfl)
   rw [ja (by simp;omega),jf this]
end Go.Proofs.YtcbfifamliijlaaGreatDoor.AE
