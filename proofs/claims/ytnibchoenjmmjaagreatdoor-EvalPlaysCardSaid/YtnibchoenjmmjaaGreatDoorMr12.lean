/- A part of the proof: the abstract executor and what goes through it (part 12). No condition. -/
import Derived.Test.YtnibchoenjmmjaaGreatDoorMr10
import Derived.Test.YtnibchoenjmmjaaGreatDoorMr11
set_option maxRecDepth 100000
set_option maxHeartbeats 0
open List renaming getElem?_append_left→ja,take_append_of_le_length→jU,take_set_of_le→jZ,getElem?_set_self→jg,drop_eq_getElem_cons→jV,getElem?_eq_getElem→jh,append_assoc→jp,getElem?_map→jr,getElem?_cons_zero→jz
open Option renaming map_some→jL
open Bool renaming true_and→jX,false_and→jN,not_true→j3,not_false→j4,true_or→jY
namespace Go.Proofs.YtnibchoenjmmjaaGreatDoor.AE
open Go.AE
abbrev Res:=Val×Int
def qM:Val:=.mk 0 0 [] []
def qcl (n:Int):Res:=(.mk 0 n [] [],0)
def qbq (b:Bool):Res:=(.mk 1 (bif b then 1 else 0) [] [],0)
def qa3 (e:Int):Res:=(qM,e)
def qaG (v:Val):Res:=bif qr 3 v then (v,0) else qa3 1
def RAt (H:Nat->Option qb) (r:Res) (rs:List qa):Prop:=∃cs,rs = cs ++ [.int .i64 r.2]/\At H r.1 cs
theorem At.leaf (H:Nat->Option qb) (k n:Int) (s:Str):At H (.mk k n s []) [.int .i64 k,.int .i64 n,.str s,.lst [] .full]:=.lst k n s [] [] .full (.inr rfl) rfl λi h=>by simp at h
theorem RAt.whole (H:Nat->Option qb) (n:Int):RAt H (qcl n) [.int .i64 0,.int .i64 n,.str [],.lst [] .full,.int .i64 0]:=⟨_,rfl,At.leaf H 0 n []⟩
theorem RAt.wrong (H:Nat->Option qb) (e:Int):RAt H (qa3 e) [.int .i64 0,.int .i64 0,.str [],.lst [] .full,.int .i64 e]:=⟨_,rfl,At.leaf H 0 0 []⟩
theorem RAt.truth (H:Nat->Option qb) (b:Bool):RAt H (qbq b) [.int .i64 1,.int .i64 (bif b then 1 else 0),.str [],.lst [] .full,.int .i64 0]:=⟨_,rfl,At.leaf H 1 _ []⟩
theorem RAt.mono {H H':Nat->Option qb} (hs:Sub H H') {r:Res} {rs:List qa} (h:RAt H r rs):RAt H' r rs:=by
 obtain ⟨cs,e,h⟩:=h
 exact ⟨cs,e,h.mono hs⟩
theorem RAt.cells {H:Nat->Option qb} {r:Res} {rs:List qa} (h:RAt H r rs):∃k n s l L,r.1 = .mk k n s l/\rs = [.int .i64 k,.int .i64 n,.str s,L,.int .i64 r.2]/\LP H l L:=by
 obtain ⟨v,e⟩:=r
 obtain ⟨cs,rfl,h⟩:=h
 obtain ⟨k,n,s,l⟩:=v
 obtain ⟨L,rfl,hL⟩:=h.lp
 exact ⟨k,n,s,l,L,rfl,rfl,hL⟩
section
variable {g:List qb}
theorem qlF (b:Bool):Wd (.fn 51 [] []) [.bool b] g = some (.ret (.agg [.int .i64 1,.int .i64 (bif b then 1 else 0),.str [],.lst [] .full,.int .i64 0]),g,false):=by
 rw [qm 51 c51]
 cases b <;> simp only [sB.1,c51,seval,qbd,cond_true,cond_false]
theorem qdC {H:Nat->Option qb} {v:Val} {cs:List qa} (hv:At H v cs) (hg:Cov H g):∃rs,Wd (.fn 52 [] []) [.agg cs] g = some (.ret (.agg rs),g,false)/\RAt H (qaG v) rs:=by
 have h1:=qel hv (g ++ [.cells cs,.cells [.int .i64 0,.int .i64 0,.str [],.lst [] .full,.int .i64 0]]) (hg.more _)
 have h2:∀h,Wd (.fn 55 [] []) [.int .i64 1] h = some (.ret (rI 0 1),h,false):=λh=>qay 1
 obtain ⟨k,n,s,l⟩:=v
 obtain ⟨L,rfl,hL⟩:=hv.lp
 obtain ⟨J,I,E,O⟩:=hL.facts
 have B:=hL.low hg
 have M:Nat.ble g.length (g.length + 1) = true:=qf zo
 rw [qaG]
 cases hr:qr 3 (.mk k n s l) with
 | true=>
  rw [hr] at h1
  refine ⟨[.int .i64 k,.int .i64 n,.str s,L,.int .i64 0],?_,⟨_,rfl,hv⟩⟩
  rw [qm 52 c52]
  simp only [sB.1,c52,seval,qbd,J,I,E,B,M,h1,splice,jY]
 | false=>
  rw [hr] at h1
  refine ⟨_,?_,RAt.wrong H 1⟩
  rw [qm 52 c52]
  simp only [sB.1,c52,seval,qbd,J,I,E,B,h1,h2,rI,splice]
end
def isI:Val->Bool
 | .mk k _ _ _=>k == 0
def qbg:Val->Int
 | .mk _ n _ _=>n
def qzH (l:List Val):Res:=bif l.all isI then (bif qdR (qcm (l.map qbg)) then qcl (qcm (l.map qbg)) else qa3 2) else qa3 1
theorem qzI {H:Nat->Option qb} {l:List Val} {L:qa} (hL:LP H l L) (hs:qhZ (l.map qbg)) (hl:l.length <= 200) (hr:∀v ∈ l,qr 3 v = true) (h:List qb) (hg:Cov H h):∃rs,Wd (.fn 80 [] []) [L] h = some (.ret (.agg rs),h,false)/\RAt H (qzH l) rs:=by
 obtain ⟨I,ah,J,ad⟩:=hL.facts
 have ww:∀h,Wd (.fn 55 [] []) [.int .i64 1] h = some (.ret (rI 0 1),h,false):=λh=>qay 1
 have loop:∀k st,(∃tt g i S,st = ⟨tt,g,false⟩/\tt.length = 53/\g.take h.length = h/\h.length < g.length/\g[h.length]? = some (.cells [.int .i64 0,.int .i64 0,.str [],.lst [] .full,.int .i64 0])/\lkp tt 2 = .ptr h.length 0/\lkp tt 9 = L/\lkp tt 10 = .int .i64 (l.length:Nat)/\lkp tt 11 = .int .i64 (i:Nat)/\lkp tt 3 = .int .u64 (hiS S)/\lkp tt 4 = .int .u64 (loS S)/\i + k = l.length/\S + qcm ((l.drop i).map qbg) = qcm (l.map qbg)/\l.all isI = (l.drop i).all isI)->
   ∃x M,qj h.length Wd (.loop qke) st = some (x,M)/\(∃tt g,M = ⟨tt,g,false⟩/\tt.length = 53/\g.take h.length = h/\h.length < g.length/\lkp tt 2 = .ptr h.length 0/\((x = .exit 0/\l.all isI = true/\g[h.length]? = some (.cells [.int .i64 0,.int .i64 0,.str [],.lst [] .full,.int .i64 0])/\lkp tt 3 = .int .u64 (hiS (qcm (l.map qbg)))/\lkp tt 4 = .int .u64 (loS (qcm (l.map qbg))))\/(x = .ret/\l.all isI = false/\g[h.length]? = some (.cells [.int .i64 0,.int .i64 0,.str [],.lst [] .full,.int .i64 1])))):=by
  refine qx _ _ ?_
  rintro k st ⟨tt,g,i,S,rfl,ht,B,hlt,hb,e2,e9,e10,e11,e3,e4,af,hS,E⟩
  generalize he:qj h.length Wd qke _ = r
  have a8:Cov H g:=λj x hx=>by
   have h1:=hg j x hx
   have h2:(g.take h.length)[j]? = some x:=by rw [B];exact h1
   rw [List.getElem?_take] at h2
   split at h2
   ·exact h2
   ·cases h2
  rcases Nat.lt_or_ge i l.length with hi | hi
  ·have c1E:ilt (i:Int) (l.length:Int) = true:=by rw [qe];simp;omega
   have w:=qU (n:=i) zo
   obtain ⟨pp,cs,hx,O,_,a7,U⟩:=hL.item hi a8
   have aa:Nat.ble h.length g.length = true:=qf zo
   have a6:∀i t,qz pp i t = t:=λi t=>by rw [<-O];exact qad _ _ _
   have ac:=hr _ (List.getElem_mem hi)
   rw [jV hi] at hS E
   rw [List.map_cons,qcm] at hS
   rw [List.all_cons] at E
   have ab:=hs _ (List.mem_map_of_mem (f:=qbg) (List.getElem_mem hi))
   have hR:=qel U (g ++ [.cells cs]) (a8.more _)
   rw [ac] at hR
   generalize l[i] = v at *
   obtain ⟨K,N,Z,zs⟩:=v
   obtain ⟨L',rfl,ae⟩:=U.lp
   obtain ⟨d1,s1,w1,n1⟩:=ae.facts
   cases hk:(K == 0) with
   | true=>
    have hK:K = 0:=by simpa using hk
    subst hK
    obtain ⟨c,hh⟩:=qxW (h:=g ++ [.cells [.int .i64 0,.int .i64 N,.str Z,L']]) S ab
    simp only [qbg] at hS hh
    simp only [sB.1,qke,seval,ht,e2,e9,e10,e11,e3,e4,c1E,I,J,hx,O,a6,a7,w,hR,d1,s1,w1,qyo,hh,qjx,qbd,aa,jY] at he
    subst he
    exact .inl ⟨_,k - 1,rfl,zo,_,_,i + 1,S + N,rfl,Y0,by rw [jU zo,B],by simp only [List.length_append];omega,by rw [ja hlt,hb],z14,by simp only [sB.1,seval,ht,e9,I,J],by simp only [sB.1,seval,ht,e10],z12,z12,z12,zo,zo,by rw [E];rfl⟩
   | false=>
    simp only [sB.1,qke,seval,ht,e2,e9,e10,e11,e3,e4,c1E,I,J,hx,O,a6,a7,w,hR,d1,s1,w1,hk,ww,rI,hlt,hb,qbd,aa,jY] at he
    subst he
    refine .inr ⟨_,_,rfl,by simp,_,_,rfl,Y0,?_,by simp;omega,z14,.inr ⟨rfl,by rw [E,isI,hk];rfl,?_⟩⟩
    ·rw [jU (by simp;omega),jZ zo,B]
    ·rw [ja (by simp;omega),jg hlt]
  ·have c1E:ilt (i:Int) (l.length:Int) = false:=by rw [qe];simp;omega
   simp only [sB.1,qke,seval,ht,e10,e11,c1E] at he
   subst he
   rw [List.drop_eq_nil_of_le hi,List.map_nil,qcm,Int.add_zero] at hS
   rw [List.drop_eq_nil_of_le hi,List.all_nil] at E
   subst hS
   exact .inr ⟨_,_,rfl,by simp,_,_,rfl,Y0,B,hlt,z14,.inl ⟨rfl,E,hb,by simp only [sB.1,seval,ht,e3],by simp only [sB.1,seval,ht,e4]⟩⟩
 have hT:-9223372036854775808 * 200 <= qcm (l.map qbg)/\qcm (l.map qbg) <= 9223372036854775808 * 200:=by
  obtain ⟨h1,h2⟩:=qgM hs
  rw [List.length_map] at h1 h2
  omega
 obtain ⟨f1,f2⟩:=qvu hT
 have d0:loS 0 = 0:=xk
 have d1:hiS 0 = 0:=xk
 rw [qzH]
 generalize hw:Wd _ _ h = w
 rw [qm 80 c80] at hw
 simp only [sB.1,c80,seval,I,J,ad] at hw
 generalize hr:qj h.length Wd (.loop qke) _ = r at hw
 obtain ⟨x,M,rfl,tt,g,rfl,ht,B,hlt,e2,⟨rfl,ha,hb,e3,e4⟩ | ⟨rfl,ha,hb⟩⟩:=qaH hr (loop l.length _ ⟨_,_,0,0,rfl,Y1,by simp,by simp,by simp,Y1,by simp only [sB.1,seval,I],Y1,u4,by simp only [sB.1,seval,d1],by simp only [sB.1,seval,d0],zo,by simp,rfl⟩)
 ·have a1:∀b,(g.set h.length b).take h.length = h:=λb=>by rw [jZ zo,B]
  rw [ha]
  cases hf:qdR (qcm (l.map qbg)) with
  | true=>
   rw [hf] at f1 f2
   have f2:=f2 rfl
   rw [f2] at f1
   simp only [sB.1,seval,ht,e2,e3,e4,f1,f2,qjx,qbd,qaR,qay,hb,B,hlt,rI] at hw
   subst hw
   exact ⟨_,congrArg some (qS (a1 _) rfl),RAt.whole H _⟩
  | false=>
   rw [hf] at f1
   simp only [sB.1,seval,ht,e2,e3,e4,f1,qjx,qbd,qaR,qay,hb,B,hlt,rI] at hw
   subst hw
   exact ⟨_,congrArg some (qS (a1 _) rfl),RAt.wrong H _⟩
 ·rw [ha]
  simp only [sB.1,seval,ht,e2,hb,hlt] at hw
  subst hw
  exact ⟨_,congrArg some (qS B rfl),RAt.wrong H _⟩
structure qeZ where
 vals:List Val
 bag:List (List Val)
 en:Int
 ed:Int
 oth:List (Str×Str×Val)
def qaV (b:List (List Val)):qa:=.lst (b.map λl=>.lst (l.map qa6) .no) .no
def qd5 (H:Nat->Option qb) (l:List (Str×Str×Val)) (L:qa):Prop:=∃rs:List (List qa),rs.length = l.length/\(∀(i:Nat) (h:i < l.length) (h':i < rs.length),∃cs,rs[i] = .str l[i].1 :: .str l[i].2.1 :: cs/\At H l[i].2.2 cs)/\((l = []/\L = .lst [] .full)\/∃id m,L = .sl id 0 l.length l.length m/\H id = some (.cells rs.flatten))
theorem qd5.facts {H:Nat->Option qb} {l:List (Str×Str×Val)} {L:qa} (h:qd5 H l L):L.dim = L/\L.storable = true/\(∀i t,qz L i t = t)/\qbB false L = some (.int .i64 (l.length:Nat)):=by
 obtain ⟨rs,_,_,⟨rfl,rfl⟩ | ⟨id,m,rfl,_⟩⟩:=h <;> exact ⟨rfl,rfl,λ_ _=>rfl,rfl⟩
theorem qd5.mono {H H':Nat->Option qb} (hs:Sub H H') {l:List (Str×Str×Val)} {L:qa} (h:qd5 H l L):qd5 H' l L:=by
 obtain ⟨rs,h1,h2,h3⟩:=h
 refine ⟨rs,h1,λi a b=>?_,?_⟩
 ·obtain ⟨cs,e,hc⟩:=h2 i a b
  exact ⟨cs,e,hc.mono hs⟩
 ·rcases h3 with h3 | ⟨id,m,e,hi⟩
  ·exact .inl h3
  ·exact .inr ⟨id,m,e,hs _ _ hi⟩
theorem qd5.item {H:Nat->Option qb} {l:List (Str×Str×Val)} {L:qa} (h:qd5 H l L) {i:Nat} (hi:i < l.length) {g:List qb} (hg:Cov H g):∃id m cs,L = .sl id 0 l.length l.length m/\qar 6 L (.int .i64 (i:Nat)) = some (.ptr id (i * 6))/\ldB (some 6) (i * 6) g[id]? = some (.agg (.str l[i].1 :: .str l[i].2.1 :: cs))/\At H l[i].2.2 cs:=by
 obtain ⟨rs,h1,h2,⟨rfl,rfl⟩ | ⟨id,m,rfl,hid⟩⟩:=h
 ·simp at hi
 ·have I:i < rs.length:=zo
  obtain ⟨cs,e,hc⟩:=h2 i hi I
  refine ⟨id,m,cs,rfl,qck hi,?_,hc⟩
  have hk:∀v ∈ rs,v.length = 6:=λv hv=>by
   obtain ⟨j,hj,rfl⟩:=List.getElem_of_mem hv
   obtain ⟨J,e',B⟩:=h2 j zo hj
   rw [e']
   simp [B.length]
  have hs:∀c ∈ rs[i],c.dim = c:=λc B=>by
   rw [e] at B
   rcases List.mem_cons.1 B with rfl | B
   ·rfl
   ·rcases List.mem_cons.1 B with rfl | B
    ·rfl
    ·exact hc.dims c B
  have hb:g[id]? = some (.cells rs.flatten):=hg _ _ hid
  have E:=qdD hk I hs
  rw [e] at E
  rw [hb,ldB]
  exact E
def qiz {α:Type} (l:List α) (i:Int):Option α:=bif ilt i 0 then none else l[i.toNat]?
theorem qfN {α:Type} (l:List α) (i:Nat):qiz l (i:Int) = l[i]?:=by
 have:ilt (i:Int) 0 = false:=by rw [qe];simp
 rw [qiz,this]
 rfl
theorem qdH {α:Type} {l:List α} {pl:Int} {x:Option α} (hx:qiz l pl = x):(x = none/\(ilt pl 0 = true\/(ilt pl 0 = false/\ile (l.length:Int) pl = true)))\/(∃i:Nat,∃hi:i < l.length,x = some l[i]/\pl = (i:Int)/\ilt pl 0 = false/\ile (l.length:Int) pl = false):=by
 subst hx
 cases c0:ilt pl 0 with
 | true=>exact .inl ⟨by rw [qiz,c0];rfl,.inl rfl⟩
 | false=>
  have h0:¬ pl < 0:=by rw [qe] at c0;simpa using c0
  obtain ⟨i,rfl⟩ :∃i:Nat,pl = (i:Int):=⟨pl.toNat,zo⟩
  rw [qfN]
  rcases Nat.lt_or_ge i l.length with hi | hi
  ·exact .inr ⟨i,hi,jh hi,rfl,rfl,by rw [qaI];simp;omega⟩
  ·exact .inl ⟨List.getElem?_eq_none hi,.inr ⟨rfl,by rw [qaI];simp;omega⟩⟩
def qz2 (E:qeZ) (op:Int) (nm sb:Str) (pl:Int):Res:=bif op == 4 then (match qiz E.vals pl with | some v=>qaG v | none=>qa3 1) else match E.oth.find? (λx=>x.1 == nm && x.2.1 == sb) with | some x=>qaG x.2.2 | none=>qa3 16
abbrev zr5:qb:=.cells [.int .i64 0,.int .i64 0,.str [],.lst [] .full,.int .i64 0]
section
variable {g:List qb} {H:Nat->Option qb}
theorem qgR (E:qeZ) (hg:Cov H g) (R:Nat) {OL TV DL:qa} (hR:R < g.length) (hb:g[R]? = some (.cells [TV,.lst (E.vals.map qa6) .no,qaV E.bag,.int .i64 E.en,.int .i64 E.ed,OL,DL])) (hO:qd5 H E.oth OL) (aA:E.oth.length <= 1000) (az:E.vals.length <= 1000) (op n:Int) (nm sb:Str) (pl:Int) (I:qa) (ac:I.dim = I) (ab:I.storable = true) (aa:∀i t,qz I i t = t) :
  ∃rs,Wd (.fn 53 [] []) [.ptr R 0,.agg [.int .i64 op,.int .i64 n,.str nm,.str sb,.int .i64 pl,I]] g = some (.ret (.agg rs),g,false)/\RAt H (qz2 E op nm sb pl) rs:=by
 have ww:∀e h,Wd (.fn 55 [] []) [.int .i64 e] h = some (.ret (rI 0 e),h,false):=λe h=>qay e
 obtain ⟨od,os,ow,ol⟩:=hO.facts
 have hV:=LP.arg (H:=H) E.vals
 obtain ⟨vd,vs,vw,vl⟩:=hV.facts
 have au:=λm=>hg.more m
 obtain ⟨G,hG⟩ :∃G,G = g ++ [qb.cells [.int .i64 op,.int .i64 n,.str nm,.str sb,.int .i64 pl,I],zr5]:=⟨_,rfl⟩
 have al:Nat.ble g.length (g.length + 1) = true:=qf zo
 have aC:G.length = g.length + 2:=by rw [hG];simp
 have am:Cov H G:=by rw [hG];exact au _
 have ar:G.take g.length = g:=by rw [hG];simp
 have aD:G[R]? = some (.cells [TV,.lst (E.vals.map qa6) .no,qaV E.bag,.int .i64 E.en,.int .i64 E.ed,OL,DL]):=by rw [hG,ja hR];exact hb
 have G0:G[g.length]? = some (.cells [.int .i64 op,.int .i64 n,.str nm,.str sb,.int .i64 pl,I]):=by rw [hG,qY];rfl
 have G1:G[g.length + 1]? = some zr5:=by rw [hG,qbb];rfl
 cases h4:(op == 4) with
 | true=>
  have hop:op = 4:=by simpa using h4
  subst hop
  rw [qz2]
  have av:=λx (hx:qiz E.vals pl = x)=>qdH hx
  generalize hx:qiz E.vals pl = x
  rcases av x hx with ⟨rfl,c⟩ | ⟨i,hi,rfl,rfl,c0,c1⟩
  ·refine ⟨_,?_,RAt.wrong H 1⟩
   rw [qm 53 c53]
   rcases c with c | ⟨c,c'⟩
   ·simp only [sA.1,c53,seval,ac,ab,aa,hR,hb,c,ww,rI]
   ·simp only [sA.1,c53,seval,ac,ab,aa,hR,hb,c,c',ww,rI,vl]
  ·obtain ⟨pp,cs,x1,x2,x3,x4,x5⟩:=hV.item hi hg
   have x6:∀i t,qz pp i t = t:=λi t=>by rw [<-x2];exact qad _ _ _
   obtain ⟨rs,hc,M⟩:=qdC x5 am
   rw [hG] at hc
   refine ⟨rs,?_,M⟩
   obtain ⟨k',n',s',l',L',e,rfl,O⟩:=M.cells
   obtain ⟨d1,s1,w1,n1⟩:=O.facts
   have aj:=O.low hg
   rw [qm 53 c53]
   simp only [sA.1,c53,seval,ac,ab,aa,hR,hb,c0,c1,rI,vl,x1,x2,x3,x6,hc,d1,s1,w1,aj,al]
 | false=>
  rw [qz2,h4,cond_false]
  have loop:∀k st,(∃(tt:List qa) (i:Nat) (B:List qb),st = ⟨tt,G ++ B,false⟩/\tt.length = 62/\lkp tt 0 = .ptr R 0/\lkp tt 3 = .ptr g.length 0/\lkp tt 4 = .ptr (g.length + 1) 0/\lkp tt 39 = OL/\lkp tt 40 = .int .i64 (E.oth.length:Nat)/\lkp tt 41 = .int .i64 (i:Nat)/\i + k = E.oth.length/\E.oth.find? (λx=>x.1 == nm && x.2.1 == sb) = (E.oth.drop i).find? (λx=>x.1 == nm && x.2.1 == sb))->
    ∃x ad,qj g.length Wd (.loop qiO) st = some (x,ad)/\(∃(tt:List qa) (K:List qb) (rs:List qa),ad = ⟨tt,K,false⟩/\tt.length = 62/\lkp tt 4 = .ptr (g.length + 1) 0/\K.take g.length = g/\g.length + 1 < K.length/\((x = .exit 0/\E.oth.find? (λx=>x.1 == nm && x.2.1 == sb) = none/\K[g.length + 1]? = some zr5)\/(x = .ret/\K[g.length + 1]? = some (.cells rs)/\∃y,E.oth.find? (λx=>x.1 == nm && x.2.1 == sb) = some y/\RAt H (qaG y.2.2) rs))):=by
   refine qx _ _ ?_
   rintro k st ⟨tt,i,B,rfl,ht,e0,e3,e4,a1,U,S,aB,hf⟩
   generalize he:qj g.length Wd qiO _ = r
   have B0:(G ++ B)[g.length]? = some (.cells [.int .i64 op,.int .i64 n,.str nm,.str sb,.int .i64 pl,I]):=by rw [ja zo];exact G0
   have B1:(G ++ B)[g.length + 1]? = some zr5:=by rw [ja zo];exact G1
   have a7:g.length < (G ++ B).length:=by simp;omega
   have a6:g.length + 1 < (G ++ B).length:=by simp;omega
   have a8:Cov H (G ++ B):=am.more _
   have ai:(G ++ B).take g.length = g:=by rw [jU zo,ar]
   have af:Nat.ble g.length (G ++ B).length = true:=qf (by simp;omega)
   rcases Nat.lt_or_ge i E.oth.length with hi | hi
   ·have c1E:ilt (i:Int) (E.oth.length:Int) = true:=by rw [qe];simp;omega
    have w:=qU (n:=i) zo
    obtain ⟨id,m,cs,_,x1,x3,x4⟩:=hO.item hi a8
    rw [jV hi,List.find?_cons] at hf
    generalize ay:E.oth[i] = va0 at *
    obtain ⟨ck,cn,cz,cl,CL,hv,rfl,d1,s1,w1,n1⟩:=x4.cells
    generalize hJ:G ++ B = J at *
    obtain ⟨rs,hc,M⟩:=qdC x4 (a8.more [.cells (.str va0.1 :: .str va0.2.1 :: [.int .i64 ck,.int .i64 cn,.str cz,CL])])
    obtain ⟨pa,na,va⟩:=va0
    simp only at *
    have aj:=x4.low a8
    cases q1:(pa == nm) with
    | false=>
     rw [q1,jN] at hf
     simp only [sA.1,qiO,seval,ht,e0,e3,e4,a1,U,S,c1E,od,ow,x1,x3,w,d1,s1,w1,a7,B0,af,q1] at he
     subst he
     refine .inl ⟨_,k - 1,rfl,zo,_,i + 1,B ++ [_],by rw [<-jp,hJ],Y0,?_,?_,?_,?_,?_,?_,zo,hf⟩
     all_goals simp only [sA.1,seval,ht,e0,e3,e4,a1,U,S,od,ow,w]
    | true=>
     rw [q1,jX] at hf
     cases q2:(na == sb) with
     | false=>
      rw [q2] at hf
      simp only [sA.1,qiO,seval,ht,e0,e3,e4,a1,U,S,c1E,od,ow,x1,x3,w,d1,s1,w1,a7,B0,af,q1,q2] at he
      subst he
      refine .inl ⟨_,k - 1,rfl,zo,_,i + 1,B ++ [_],by rw [<-jp,hJ],Y0,?_,?_,?_,?_,?_,?_,zo,hf⟩
      all_goals simp only [sA.1,seval,ht,e0,e3,e4,a1,U,S,od,ow,w]
     | true=>
      rw [q2] at hf
      obtain ⟨k',n',s',l',L',e,rfl,O⟩:=M.cells
      obtain ⟨d2,s2,w2,n2⟩:=O.facts
      have ae:=O.low a8
      simp only [sA.1,qiO,seval,ht,e0,e3,e4,a1,U,S,c1E,od,ow,x1,x3,w,d1,s1,w1,d2,s2,w2,a7,a6,B0,B1,af,al,q1,q2,hc] at he
      subst he
      refine .inr ⟨_,_,rfl,by simp,_,_,_,rfl,Y0,w6,?_,by simp;omega,.inr ⟨rfl,?_,_,hf,M⟩⟩
      ·rw [jU (by simp;omega),jZ zo,ai]
      ·rw [ja (by simp;omega),jg a6]
   ·have c1E:ilt (i:Int) (E.oth.length:Int) = false:=by rw [qe];simp;omega
    simp only [sA.1,qiO,seval,ht,U,S,c1E] at he
    subst he
    rw [List.drop_eq_nil_of_le hi] at hf
    exact .inr ⟨_,_,rfl,by simp,_,_,[],rfl,Y0,w6,ai,a6,.inl ⟨rfl,hf,B1⟩⟩
  generalize hw:Wd _ _ g = w
  rw [qm 53 c53] at hw
  simp only [sA.1,c53,seval,ac,ab,aa,hR,hb,h4,od,ow,ol] at hw
  generalize hr:qj g.length Wd (.loop qiO) _ = r at hw
  obtain ⟨x,ad,rfl,tt,K,rs,rfl,ht,e4,hk,ak,⟨rfl,hf,ah⟩ | ⟨rfl,ah,y,hf,M⟩⟩:=qaH hr (loop E.oth.length _ ⟨_,0,[],by rw [List.append_nil,hG],Y2,Y2,Y2,Y2,by simp only [sA.1,seval,od],Y2,y9,zo,rfl⟩)
  ·have ap:∀b,(K.set (g.length + 1) b).take g.length = g:=λb=>by rw [jZ zo,hk]
   rw [hf]
   simp only [sA.1,seval,ht,e4,ww,rI,ah,ak] at hw
   subst hw
   exact ⟨_,congrArg some (qS (ap _) rfl),RAt.wrong H _⟩
  ·rw [hf]
   obtain ⟨k',n',s',l',L',e,rfl,O⟩:=M.cells
   obtain ⟨d2,s2,w2,n2⟩:=O.facts
   have ae:=O.low hg
   simp only [sA.1,seval,ht,e4,ah,ak,d2,s2,w2] at hw
   subst hw
   exact ⟨_,congrArg some (qS hk (by simp only [sA.1,seval,ae])),M⟩
end
def qfA (E:qeZ) (pl:Int):List Val:=match qiz E.bag pl with | some l=>l | none=>[]
def qi6 (E:qeZ) (op pl:Int) (inn:List Val):Res:=
 bif op == 7 then qcl ((qfA E pl).length:Nat) else bif op == 8 then qbq (ilt 0 ((qfA E pl).length:Nat)) else bif op == 9 then qzH (qfA E pl) else
 match qfA E pl with
 | v :: _=>qaG v
 | []=>match inn with | v :: _=>(v,0) | []=>qa3 1
section
variable {g:List qb} {H:Nat->Option qb}
theorem qhv {b:List (List Val)} {i:Nat} (hi:i < b.length):qar 1 (qaV b) (.int .i64 (i:Nat)) = some (.iptr [.lst (b[i].map qa6) .no] 0):=by
 rw [qaV]
 exact qa4 (x:=.lst (b[i].map qa6) .no) (by rw [jr,jh hi];rfl) rfl
theorem qeK (E:qeZ) (hg:Cov H g) (R:Nat) {VL OL TV DL L:qa} (hR:R < g.length) (hb:g[R]? = some (.cells [TV,VL,qaV E.bag,.int .i64 E.en,.int .i64 E.ed,OL,DL])) (ah:E.bag.length <= 1000) (ae:∀l ∈ E.bag,l.length <= 200/\qhZ (l.map qbg)/\∀v ∈ l,qr 3 v = true) (op n:Int) (nm sb:Str) (pl:Int) (I:qa) (M:I.dim = I) (J:I.storable = true) (B:∀i t,qz I i t = t) (hop:op = 7\/op = 8\/op = 9\/op = 10) (aa:List Val) (Ld:L.dim = L) (Ls:L.storable = true) (Lw:∀i t,qz L i t = t) (ac:op = 10->∃v vs pp cs,aa = v :: vs/\qar 4 L (.int .i64 0) = some pp/\pp.dim = pp/\(∀m,qch (g ++ m) pp (some 4) = some (.agg cs))/\At H v cs) :
  ∃rs,Wd (.fn 54 [] []) [.ptr R 0,.agg [.int .i64 op,.int .i64 n,.str nm,.str sb,.int .i64 pl,I],L] g = some (.ret (.agg rs),g,false)/\RAt H (qi6 E op pl aa) rs:=by
 have bd:(qaV E.bag).dim = qaV E.bag:=rfl
 have bs:(qaV E.bag).storable = true:=by rw [qaV];kernel_rfl
 have bl:qbB false (qaV E.bag) = some (.int .i64 (E.bag.length:Nat)):=by rw [qaV,qbB];simp
 have bw:∀i t,qz (qaV E.bag) i t = t:=λi t=>by rw [qaV];rfl
 have S:Nat.ble g.length (g.length + 1) = true:=qf zo
 have w7:=λ(x:Int) h=>qaR (h:=h) x
 have w8:=λb h=>qlF (g:=h) b
 simp only [rI] at w7
 have hP:∃LV,LP H (qfA E pl) LV/\(qfA E pl).length <= 200/\qhZ ((qfA E pl).map qbg)/\(∀v ∈ qfA E pl,qr 3 v = true)/\((ile 0 pl = false/\LV = .lst [] .full/\qfA E pl = [])\/(ile 0 pl = true/\ilt pl (E.bag.length:Int) = false/\LV = .lst [] .full/\qfA E pl = [])\/(ile 0 pl = true/\ilt pl (E.bag.length:Int) = true/\qar 1 (qaV E.bag) (.int .i64 pl) = some (.iptr [LV] 0))):=by
  rcases qdH (l:=E.bag) (pl:=pl) rfl with ⟨e,c⟩ | ⟨i,hi,e,rfl,c0,c1⟩
  ·have eb:qfA E pl = []:=by rw [qfA,e]
   refine ⟨.lst [] .full,?_⟩
   rw [eb]
   refine ⟨LP.nil (.inr rfl),by simp,λn hn=>by simp at hn,λv hv=>by simp at hv,?_⟩
   rcases c with c | ⟨c,c'⟩
   ·exact .inl ⟨by rw [qe] at c;rw [qaI];simp at *;omega,rfl,rfl⟩
   ·exact .inr (.inl ⟨by rw [qe] at c;rw [qaI];simp at *;omega,by rw [qaI] at c';rw [qe];simp at *;omega,rfl,rfl⟩)
  ·obtain ⟨p1,p2,p3⟩:=ae _ (List.getElem_mem hi)
   rw [qfA,e]
   exact ⟨_,LP.arg _,p1,p2,p3,.inr (.inr ⟨by rw [qaI];simp,by rw [qe];simp;omega,qhv hi⟩)⟩
 obtain ⟨LV,a8,p1,p2,p3,hc⟩:=hP
 unfold qi6
 generalize qfA E pl = l at *
 obtain ⟨vd,vs,vw,vl⟩:=a8.facts
 have ab:Cov H (g ++ [qb.cells [.int .i64 op,.int .i64 n,.str nm,.str sb,.int .i64 pl,I],zr5]):=hg.more _
 have e7:op = 7->(op == 7) = true/\(op == 8) = false/\(op == 9) = false/\(op == 10) = false:=λh=>by subst h;decide
 have e8:op = 8->(op == 7) = false/\(op == 8) = true/\(op == 9) = false/\(op == 10) = false:=λh=>by subst h;decide
 have e9:op = 9->(op == 7) = false/\(op == 8) = false/\(op == 9) = true/\(op == 10) = false:=λh=>by subst h;decide
 have e10:op = 10->(op == 7) = false/\(op == 8) = false/\(op == 9) = false/\(op == 10) = true:=λh=>by subst h;decide
 rcases hop with hop | hop | hop | hop
 ·obtain ⟨o7,o8,o9,a6⟩:=e7 hop
  rw [o7,cond_true]
  refine ⟨_,?_,RAt.whole H _⟩
  rw [qm 54 c54]
  rcases hc with ⟨c0,rfl,rfl⟩ | ⟨c0,c1,rfl,rfl⟩ | ⟨c0,c1,x1⟩
  ·simp only [sA.1,c54,seval,M,J,B,hR,hb,bd,bs,bw,bl,Ld,Ls,Lw,o7,o8,o9,c0,vd,vl,vw,w7]
  ·simp only [sA.1,c54,seval,M,J,B,hR,hb,bd,bs,bw,bl,Ld,Ls,Lw,o7,o8,o9,c0,c1,vd,vl,vw,w7]
  ·simp only [sA.1,c54,seval,M,J,B,hR,hb,bd,bs,bw,bl,Ld,Ls,Lw,o7,o8,o9,c0,c1,x1,vd,vl,vw,w7]
 ·obtain ⟨o7,o8,o9,a6⟩:=e8 hop
  rw [o7,cond_false,o8,cond_true]
  refine ⟨_,?_,RAt.truth H _⟩
  rw [qm 54 c54]
  rcases hc with ⟨c0,rfl,rfl⟩ | ⟨c0,c1,rfl,rfl⟩ | ⟨c0,c1,x1⟩
  ·simp only [sA.1,c54,seval,M,J,B,hR,hb,bd,bs,bw,bl,Ld,Ls,Lw,o7,o8,o9,c0,vd,vl,vw,w8]
  ·simp only [sA.1,c54,seval,M,J,B,hR,hb,bd,bs,bw,bl,Ld,Ls,Lw,o7,o8,o9,c0,c1,vd,vl,vw,w8]
  ·simp only [sA.1,c54,seval,M,J,B,hR,hb,bd,bs,bw,bl,Ld,Ls,Lw,o7,o8,o9,c0,c1,x1,vd,vl,vw,w8]
 ·obtain ⟨o7,o8,o9,a6⟩:=e9 hop
  rw [o7,cond_false,o8,cond_false,o9,cond_true]
  obtain ⟨rs,a7,U⟩:=qzI a8 p2 p1 p3 _ ab
  refine ⟨rs,?_,U⟩
  obtain ⟨k',n',s',l',L',e,rfl,a1⟩:=U.cells
  obtain ⟨d2,s2,w2,n2⟩:=a1.facts
  have O:=a1.low hg
  rw [qm 54 c54]
  rcases hc with ⟨c0,rfl,rfl⟩ | ⟨c0,c1,rfl,rfl⟩ | ⟨c0,c1,x1⟩
  ·simp only [sA.1,c54,seval,M,J,B,hR,hb,bd,bs,bw,bl,Ld,Ls,Lw,o7,o8,o9,c0,vd,vl,vw,a7,d2,s2,w2,O,S]
  ·simp only [sA.1,c54,seval,M,J,B,hR,hb,bd,bs,bw,bl,Ld,Ls,Lw,o7,o8,o9,c0,c1,vd,vl,vw,a7,d2,s2,w2,O,S]
  ·simp only [sA.1,c54,seval,M,J,B,hR,hb,bd,bs,bw,bl,Ld,Ls,Lw,o7,o8,o9,c0,c1,x1,vd,vl,vw,a7,d2,s2,w2,O,S]
 ·obtain ⟨o7,o8,o9,a6⟩:=e10 hop
  rw [o7,cond_false,o8,cond_false,o9,cond_false]
  cases l with
  | nil=>
   obtain ⟨v,af,pp,cs,rfl,x2,x3,x4,x6⟩:=ac hop
   have k0:ilt 0 ((0:Nat):Int) = false:=Eq.trans rfl rfl
   have x7:∀i t,qz pp i t = t:=λi t=>by rw [<-x3];exact qad _ _ _
   refine ⟨_,?_,⟨cs,rfl,x6⟩⟩
   obtain ⟨k',n',s',l',L',e,rfl,d2,s2,w2,n2⟩:=x6.cells
   have O:L'.lower g.length = true:=by have:=x6.low hg;simp only [qt,Bool.and_eq_true] at this;exact this.2.2.2.1
   rw [qm 54 c54]
   rcases hc with ⟨c0,rfl,_⟩ | ⟨c0,c1,rfl,_⟩ | ⟨c0,c1,x1⟩
   ·simp only [sA.1,c54,seval,-Int.reduceNatCast',M,J,B,hR,hb,bd,bs,bw,bl,Ld,Ls,Lw,o7,o8,o9,c0,vd,vl,vw,k0,x2,x3,x4,x7,d2,s2,w2,O,S]
   ·simp only [sA.1,c54,seval,-Int.reduceNatCast',M,J,B,hR,hb,bd,bs,bw,bl,Ld,Ls,Lw,o7,o8,o9,c0,c1,vd,vl,vw,k0,x2,x3,x4,x7,d2,s2,w2,O,S]
   ·simp only [sA.1,c54,seval,-Int.reduceNatCast',M,J,B,hR,hb,bd,bs,bw,bl,Ld,Ls,Lw,o7,o8,o9,c0,c1,x1,vd,vl,vw,k0,x2,x3,x4,x7,d2,s2,w2,O,S]
  | cons v l=>
   have k0:ilt 0 ((l.length + 1:Nat):Int) = true:=by rw [qe];simp
   obtain ⟨pp,cs,x2,x3,x4,x5,x6⟩:=a8.item (i:=0) (by simp) hg
   have x2:qar 4 LV (.int .i64 0) = some pp:=x2
   have x7:∀i t,qz pp i t = t:=λi t=>by rw [<-x3];exact qad _ _ _
   have x6:At H v cs:=x6
   obtain ⟨rs,ad,U⟩:=qdC x6 ab
   refine ⟨rs,?_,U⟩
   obtain ⟨k',n',s',l',L',e,rfl,a1⟩:=U.cells
   obtain ⟨d2,s2,w2,n2⟩:=a1.facts
   have O:=a1.low hg
   rw [qm 54 c54]
   rcases hc with ⟨c0,rfl,e0⟩ | ⟨c0,c1,rfl,e0⟩ | ⟨c0,c1,x1⟩
   ·cases e0
   ·cases e0
   ·simp only [sA.1,c54,seval,M,J,B,hR,hb,bd,bs,bw,bl,Ld,Ls,Lw,o7,o8,o9,c0,c1,x1,vd,vl,vw,k0,x2,x3,x4,x7,ad,d2,s2,w2,O,S]
end
def q6 (op:Int) (ins:List Int):Res->Int
 | (.mk k m _ _,e)=>bif !(e == 0) then -1 else bif !(k == 1) then -1 else bif op == 25 then (bif m == 1 then ins.getD 1 0 else ins.getD 2 0) else bif op == 23 then (bif m == 1 then ins.getD 1 0 else -1) else (bif m == 1 then -1 else ins.getD 1 0)
def qco:Val->Int
 | .mk k _ _ _=>k
def qce (op:Int) (ins:List Int) (ev:Int->Res):Res:=
 let r:=ev (ins.getD 0 0)
 bif !(r.2 == 0) then r else bif !(qco r.1 == 1) then qa3 1 else
 bif ilt (q6 op ins r) 0 then r else
 bif ((ev (q6 op ins r)).2 == 0 && !(op == 25)) && !(qco (ev (q6 op ins r)).1 == 1) then qa3 1 else ev (q6 op ins r)
def qcj (dn:Int->Bool) (ev:Int->Res):List Int->Int
 | []=>-1
 | j :: js=>bif !(dn j) then j else bif !((ev j).2 == 0) then -1 else qcj dn ev js
def qlU (op:Int):Bool:=op == 23 || (op == 24 || op == 25)
def qdg (op:Int) (ins:List Int) (dn:Int->Bool) (ev:Int->Res):Int:=
 bif qlU op then (bif !(dn (ins.getD 0 0)) then ins.getD 0 0 else bif ile 0 (q6 op ins (ev (ins.getD 0 0))) && !(dn (q6 op ins (ev (ins.getD 0 0)))) then q6 op ins (ev (ins.getD 0 0)) else -1)
 else qcj dn ev ins
def Cho (op:Int) (ins:List Int):Prop:=(op = 25/\∃a b c,ins = [a,b,c])\/(op = 23/\∃a b,ins = [a,b])\/(op = 24/\∃a b,ins = [a,b])
section
variable {g:List qb} {H:Nat->Option qb}
abbrev cI (n:Int):qa:=.int .i64 n
theorem qje (R:qa) (op n:Int) (nm sb:Str) (pl:Int) (B:Nat) (ins:List Int) (hc:Cho op ins) (hlt:B < g.length) (hi:g[B]? = some (.cells (ins.map cI))) (k m:Int) (s:Str) (L:qa) (e:Int) (J:L.dim = L) (I:L.storable = true) (l:List Val) (E:R.dim = R) :
  Wd (.fn 48 [] []) [R,.agg [.int .i64 op,.int .i64 n,.str nm,.str sb,.int .i64 pl,.sl B 0 ins.length ins.length 1],.agg [.int .i64 k,.int .i64 m,.str s,L,.int .i64 e]] g = some (.ret (.int .i64 (q6 op ins (.mk k m s l,e))),g,false):=by
 rw [qm 48 c48]
 have m1:∀id n c w:Nat,1 < n->qar 1 (.sl id 0 n c w) (.int .i64 1) = some (.ptr id 1):=λid n c w h=>qck (i:=1) (k:=1) h
 have m2:∀id n c w:Nat,2 < n->qar 1 (.sl id 0 n c w) (.int .i64 2) = some (.ptr id 2):=λid n c w h=>qck (i:=2) (k:=1) h
 have d:∀id o n c w:Nat,(qa.sl id o n c w).dim = .sl id o n c w:=λ_ _ _ _ _=>rfl
 have st:∀id o n c w:Nat,(qa.sl id o n c w).storable = true:=λ_ _ _ _ _=>rfl
 unfold q6
 rcases hc with ⟨rfl,a,b,c,rfl⟩ | ⟨rfl,a,b,rfl⟩ | ⟨rfl,a,b,rfl⟩ <;>
  cases he:(e == 0) <;> cases hk:(k == 1) <;> cases hm:(m == 1) <;>
  simp only [sB.1,c48,seval,qbd,J,I,E,he,hk,hm,hlt,hi,m1,m2,d,st,cond_true,cond_false,List.getD_cons_succ,List.getD_cons_zero,List.map_cons,List.map_nil,cI]
theorem qdd {op:Int} {ins:List Int} (hc:Cho op ins) (r:Res):q6 op ins r = -1\/q6 op ins r ∈ ins:=by
 obtain ⟨⟨k,m,s,l⟩,e⟩:=r
 unfold q6
 rcases hc with ⟨rfl,a,b,c,rfl⟩ | ⟨rfl,a,b,rfl⟩ | ⟨rfl,a,b,rfl⟩ <;> cases he:(e == 0) <;> cases hk:(k == 1) <;> cases hm:(m == 1) <;> simp [he,hk,hm]
def qb1 (H:Nat->Option qb) (g:List qb) (D n:Nat) (dn:Int->Bool) (ev:Int->Res):Prop:=∃ds:List qa,D < g.length/\g[D]? = some (.cells ds)/\ds.length = n/\∀i:Nat,i < n->(dn i = false->ds[i]? = some .nilptr)/\(dn i = true->∃q rs,ds[i]? = some (.ptr q 0)/\H q = some (.cells rs)/\RAt H (ev i) rs)
theorem qb1.more {D n:Nat} {dn:Int->Bool} {ev:Int->Res} (h:qb1 H g D n dn ev) (m:List qb):qb1 H (g ++ m) D n dn ev:=by
 obtain ⟨ds,h0,h1,h2,h3⟩:=h
 exact ⟨ds,by simp;omega,by rw [ja h0];exact h1,h2,h3⟩
theorem qb1.mono {H':Nat->Option qb} {D n:Nat} {dn:Int->Bool} {ev:Int->Res} (h:qb1 H g D n dn ev) (hs:Sub H H'):qb1 H' g D n dn ev:=by
 obtain ⟨ds,h0,h1,h2,h3⟩:=h
 refine ⟨ds,h0,h1,h2,λi hi=>⟨(h3 i hi).1,λhd=>?_⟩⟩
 obtain ⟨q,rs,e,hq,hr⟩:=(h3 i hi).2 hd
 exact ⟨q,rs,e,hs _ _ hq,hr.mono hs⟩
theorem qoA (R D N:Nat) (dn:Int->Bool) (ev:Int->Res) {TV VL BV OL:qa} {en ed:Int} (hR:R < g.length) (hb:g[R]? = some (.cells [TV,VL,BV,.int .i64 en,.int .i64 ed,OL,.sl D 0 N N 0])) (hg:Cov H g) (hD:qb1 H g D N dn ev) (op n:Int) (nm sb:Str) (pl:Int) (B:Nat) (ins:List Int) (hc:Cho op ins) (hlt:B < g.length) (hi:g[B]? = some (.cells (ins.map cI))) (ae:∀j ∈ ins,0 <= j/\j < N) (h0:dn (ins.getD 0 0) = true) (h1:0 <= q6 op ins (ev (ins.getD 0 0))->dn (q6 op ins (ev (ins.getD 0 0))) = true) :
  ∃rs,Wd (.fn 49 [] []) [.ptr R 0,.agg [.int .i64 op,.int .i64 n,.str nm,.str sb,.int .i64 pl,.sl B 0 ins.length ins.length 1]] g = some (.ret (.agg rs),g,false)/\RAt H (qce op ins ev) rs:=by
 have ww:∀e h,Wd (.fn 55 [] []) [.int .i64 e] h = some (.ret (rI 0 e),h,false):=λe h=>qay e
 have d:∀id o n c w:Nat,(qa.sl id o n c w).dim = .sl id o n c w:=λ_ _ _ _ _=>rfl
 have st:∀id o n c w:Nat,(qa.sl id o n c w).storable = true:=λ_ _ _ _ _=>rfl
 have U:Nat.ble g.length (g.length + 1) = true:=qf zo
 have S:Nat.ble g.length (g.length + 2) = true:=qf zo
 have O:Nat.ble g.length (g.length + 3) = true:=qf zo
 obtain ⟨ds,D0,D1,D2,D3⟩:=hD
 obtain ⟨i0,ai,af,J⟩ :∃i:Nat,ins.getD 0 0 = (i:Int)/\i < N/\(ins.map cI)[0]? = some (cI (i:Int)):=by
  rcases hc with ⟨_,a,b,c,rfl⟩ | ⟨_,a,b,rfl⟩ | ⟨_,a,b,rfl⟩ <;>
  ·have:=ae a (by simp)
   refine ⟨a.toNat,?_,zo,?_⟩
   ·simp;omega
   ·simp only [List.map_cons,jz,cI]
    rw [Int.toNat_of_nonneg this.1]
 have am:0 < ins.length:=by rcases hc with ⟨_,a,b,c,rfl⟩ | ⟨_,a,b,rfl⟩ | ⟨_,a,b,rfl⟩ <;> simp
 have m0:qar 1 (.sl B 0 ins.length ins.length 1) (.int .i64 0) = some (.ptr B 0):=qck (i:=0) (k:=1) am
 have mD:∀i:Nat,i < N->qar 1 (.sl D 0 N N 0) (.int .i64 (i:Nat)) = some (.ptr D i):=λi h=>by rw [qck h,Nat.mul_one]
 have M:=mD i0 af
 rw [ai] at h0
 obtain ⟨q0,aD,e0,ad,a7⟩:=(D3 i0 af).2 h0
 have E:=hg.lt ad
 have I:=hg _ _ ad
 rw [qce]
 simp only [ai] at h1 ⊢
 generalize aE:ev i0 = r0 at *
 obtain ⟨v0,x0⟩:=r0
 obtain ⟨k,m,s,l,L,hv,rfl,hL⟩:=a7.cells
 obtain ⟨Ld,Ls,Lw,Ll⟩:=hL.facts
 have a1:=hL.low hg
 simp only at hv
 subst hv
 have a6:=qje (g:=g ++ [.cells [.int .i64 op,.int .i64 n,.str nm,.str sb,.int .i64 pl,.sl B 0 ins.length ins.length 1],zr5,.cells [.int .i64 k,.int .i64 m,.str s,L,.int .i64 x0]]) (.ptr R 0) op n nm sb pl B ins hc (by simp;omega) (by rw [ja hlt];exact hi) k m s L x0 Ld Ls l rfl
 generalize aa:q6 op ins (.mk k m s l,x0) = sc at *
 cases c0:(x0 == 0) with
 | false=>
  simp only [c0,j4,cond_true]
  refine ⟨_,?_,a7⟩
  rw [qm 49 c49]
  simp only [sA.1,c49,seval,hR,hb,m0,hlt,hi,J,D0,D1,M,e0,E,I,Ld,Ls,Lw,a1,d,st,c0,ww,rI,U,S,O,jL,cI]
 | true=>
  cases c1:(k == 1) with
  | false=>
   simp only [c0,c1,qco,j3,j4,cond_true,cond_false]
   refine ⟨_,?_,RAt.wrong H 1⟩
   rw [qm 49 c49]
   simp only [sA.1,c49,seval,hR,hb,m0,hlt,hi,J,D0,D1,M,e0,E,I,Ld,Ls,Lw,a1,d,st,c0,c1,ww,rI,U,S,O,jL,cI]
  | true=>
   cases c2:ilt sc 0 with
   | true=>
    simp only [c0,c1,c2,qco,j3,j4,cond_true,cond_false]
    refine ⟨_,?_,a7⟩
    rw [qm 49 c49]
    simp only [sA.1,c49,seval,hR,hb,m0,hlt,hi,J,D0,D1,M,e0,E,I,Ld,Ls,Lw,a1,d,st,c0,c1,c2,a6,ww,rI,U,S,O,jL,cI]
   | false=>
    have av:0 <= sc:=by rw [qe] at c2;simpa using c2
    have au:=h1 av
    have ar:sc ∈ ins:=by
     rcases qdd hc (.mk k m s l,x0) with e | e
     ·rw [aa] at e;omega
     ·rwa [aa] at e
    obtain ⟨i1,rfl⟩ :∃i:Nat,sc = (i:Int):=⟨sc.toNat,zo⟩
    have ah:i1 < N:=by have:=ae _ ar;omega
    obtain ⟨q1,aC,e1,ac,ab⟩:=(D3 i1 ah).2 au
    have ak:=hg.lt ac
    have al:=hg _ _ ac
    have ap:=mD i1 ah
    simp only [c0,c1,c2,qco,j3,j4,cond_true,cond_false]
    generalize aB:ev i1 = r1 at *
    obtain ⟨v1,x1⟩:=r1
    obtain ⟨k1,m1,s1,l1,L1,a8,rfl,aj⟩:=ab.cells
    obtain ⟨aA,az,ay,aF⟩:=aj.facts
    have Llo1:=aj.low hg
    simp only at a8
    subst a8
    cases c3:(x1 == 0) <;> cases c4:(op == 25) <;> cases c5:(k1 == 1) <;>
     simp only [c3,c4,c5,qco,j3,j4,cond_true,cond_false,jX,jN,Bool.and_true,Bool.and_false] <;>
     refine ⟨_,?_,by first | exact ab | exact RAt.wrong H 1⟩ <;>
     rw [qm 49 c49] <;>
     simp only [sA.1,c49,seval,hR,hb,m0,hlt,hi,J,D0,D1,M,ap,e0,e1,E,I,ak,al,Ld,Ls,Lw,a1,aA,az,ay,Llo1,d,st,c0,c1,c2,c3,c4,c5,a6,ww,rI,U,S,O,jL,cI]
end
def qen (H:Nat->Option qb) (ns:List Nd) (V:qa):Prop:=∃tid rs,V = .sl tid 0 ns.length ns.length 6/\H tid = some (.cells rs.flatten)/\Rows H ns rs
theorem qen.item {H:Nat->Option qb} {ns:List Nd} {V:qa} (h:qen H ns V) {i:Nat} (hi:i < ns.length) {g:List qb} (hg:Cov H g):∃B I,V = .sl B 0 ns.length ns.length 6/\B < g.length/\qar 6 V (.int .i64 (i:Nat)) = some (.ptr B (i * 6))/\ldB (some 6) (i * 6) g[B]? = some (.agg [.int .i64 ns[i].op,.int .i64 ns[i].n,.str ns[i].nm,.str ns[i].sb,.int .i64 ns[i].pl,I])/\Ins H ns[i].ins I:=by
 obtain ⟨B,rs,rfl,ht,hr⟩:=h
 have hl:=hr.length
 obtain ⟨I,e,hI⟩:=hr.get i hi zo
 refine ⟨B,I,rfl,hg.lt ht,qck hi,?_,hI⟩
 have hc:=qdD (vs:=rs) (k:=6) (λv hv=>(hr.six v hv).1) (by omega:i < rs.length) λc hc=>((hr.six _ (List.getElem_mem zo)).2 c hc).1
 rw [e] at hc
 rw [hg _ _ ht,ldB]
 exact hc
theorem qgx {dn:Int->Bool} {ev:Int->Res} {l:List Int} {i:Nat} (hi:i < l.length):qcj dn ev (l.drop i) = bif !(dn l[i]) then l[i] else bif !((ev l[i]).2 == 0) then -1 else qcj dn ev (l.drop (i + 1)):=by
 rw [jV hi,qcj]
section
variable {g:List qb} {H:Nat->Option qb}
theorem Ins.item {ins:List Int} {I:qa} (h:Ins H ins I) {i:Nat} (hi:i < ins.length) (hg:Cov H g):∃id,I = .sl id 0 ins.length ins.length 1/\id < g.length/\qar 1 I (.int .i64 (i:Nat)) = some (.ptr id i)/\g[id]? = some (.cells (ins.map cI))/\(ins.map cI)[i]? = some (cI ins[i]):=by
 rcases h with ⟨rfl,rfl⟩ | ⟨id,rfl,hid⟩
 ·simp at hi
 ·exact ⟨id,rfl,hg.lt hid,by rw [qck hi,Nat.mul_one],hg _ _ hid,by rw [jr,jh hi];rfl⟩
theorem qm9 (R D N:Nat) (dn:Int->Bool) (ev:Int->Res) (ns:List Nd) {TV VL BV OL:qa} {en ed:Int} (hR:R < g.length) (hb:g[R]? = some (.cells [TV,VL,BV,.int .i64 en,.int .i64 ed,OL,.sl D 0 N N 0])) (hg:Cov H g) (hT:qen H ns TV) (hD:qb1 H g D N dn ev) (i:Nat) (hi:i < ns.length) (hc:qlU ns[i].op = false) (ai:∀j ∈ ns[i].ins,0 <= j/\j < N) (ap:ns[i].ins.length <= 1000) :
  Wd (.fn 25 [] []) [.ptr R 0,.int .i64 (i:Nat)] g = some (.ret (.int .i64 (qcj dn ev ns[i].ins)),g,false):=by
 obtain ⟨af,I,ak,hlt,x1,x2,hI⟩:=hT.item hi hg
 subst ak
 obtain ⟨Id,Is,Iw,Il⟩:=hI.facts
 generalize ns[i] = nd at *
 obtain ⟨op,n,nm,sb,pl,ins⟩:=nd
 simp only at *
 have d:∀id o n c w:Nat,(qa.sl id o n c w).dim = .sl id o n c w:=λ_ _ _ _ _=>rfl
 have st:∀id o n c w:Nat,(qa.sl id o n c w).storable = true:=λ_ _ _ _ _=>rfl
 have aj:Nat.ble g.length g.length = true:=qf zo
 have z0:qg8 0 false .nilptr .nilptr = some (.bool true):=xk
 have z1:∀q,qg8 0 false (.ptr q 0) .nilptr = some (.bool false):=λ_=>xk
 obtain ⟨ae,ad,ac⟩ :(op == 23) = false/\(op == 24) = false/\(op == 25) = false:=by
  simpa [qlU] using hc
 obtain ⟨G,hG⟩ :∃G,G = g ++ [qb.cells [.int .i64 op,.int .i64 n,.str nm,.str sb,.int .i64 pl,I]]:=⟨_,rfl⟩
 have ay:G.length = g.length + 1:=by rw [hG];simp
 have a8:G.take g.length = g:=by rw [hG];simp
 have a1:Cov H G:=by rw [hG];exact hg.more _
 have a7:R < G.length:=zo
 have a6:G[R]? = some (.cells [.sl af 0 ns.length ns.length 6,VL,BV,.int .i64 en,.int .i64 ed,OL,.sl D 0 N N 0]):=by rw [hG,ja hR];exact hb
 have al:qb1 H G D N dn ev:=by rw [hG];exact hD.more _
 obtain ⟨ds,D0,D1,D2,D3⟩:=al
 have mD:∀i:Nat,i < N->qar 1 (.sl D 0 N N 0) (.int .i64 (i:Nat)) = some (.ptr D i):=λi h=>by rw [qck h,Nat.mul_one]
 have loop:∀k st,(∃(tt:List qa) (a:Nat),st = ⟨tt,G,false⟩/\tt.length = 86/\lkp tt 0 = .ptr R 0/\lkp tt 59 = I/\lkp tt 60 = .int .i64 (ins.length:Nat)/\lkp tt 61 = .int .i64 (a:Nat)/\a + k = ins.length/\qcj dn ev ins = qcj dn ev (ins.drop a))->
   ∃x S,qj g.length Wd (.loop qiL) st = some (x,S)/\(∃(tt:List qa),S = ⟨tt,G,false⟩/\tt.length = 86/\((x = .exit 1/\qcj dn ev ins = -1)\/(x = .ret/\lkp tt 4 = .int .i64 (qcj dn ev ins)))):=by
  refine qx _ _ ?_
  rintro k st ⟨tt,a,rfl,ht,e0,J,E,B,au,hf⟩
  generalize he:qj g.length Wd qiL _ = r
  rcases Nat.lt_or_ge a ins.length with ha | ha
  ·have c1E:ilt (a:Int) (ins.length:Int) = true:=by rw [qe];simp;omega
   have w:=qU (n:=a) zo
   obtain ⟨am,av,y0,y1,y2,y3⟩:=hI.item ha a1
   have hj:=ai _ (List.getElem_mem ha)
   rw [qgx ha] at hf
   obtain ⟨j,ah⟩ :∃j:Nat,ins[a] = (j:Int):=⟨ins[a].toNat,zo⟩
   rw [ah] at y3 hj hf
   have U:j < N:=zo
   have m1:=mD j U
   cases O:dn (j:Int) with
   | false=>
    have e1:=(D3 j U).1 O
    rw [O] at hf
    simp only [sB.1,qiL,seval,ht,e0,J,E,B,c1E,Id,Iw,y0,y1,y2,y3,a7,a6,D0,D1,m1,e1,d,z0,z1,cI,jL] at he
    subst he
    exact .inr ⟨_,_,rfl,by simp,_,rfl,Y0,.inr ⟨rfl,by simp only [sB.1,seval,ht,hf,j4,cond_true]⟩⟩
   | true=>
    obtain ⟨q,rs,e1,hq,hr⟩:=(D3 j U).2 O
    have aa:=a1.lt hq
    have ab:=a1 _ _ hq
    rw [O] at hf
    generalize ar:ev j = r0 at *
    obtain ⟨v0,x0⟩:=r0
    obtain ⟨k0,m0,s0,l0,L0,hv,rfl,hL⟩:=hr.cells
    cases M:(x0 == 0) with
    | false=>
     simp only [M] at hf
     simp only [sB.1,qiL,seval,ht,e0,J,E,B,c1E,Id,Iw,y0,y1,y2,y3,a7,a6,D0,D1,m1,e1,d,z0,z1,cI,jL,aa,ab,M] at he
     subst he
     exact .inr ⟨_,_,rfl,by simp,_,rfl,Y0,.inr ⟨rfl,by simp only [sB.1,seval,ht,hf,j4,j3,cond_true,cond_false]⟩⟩
    | true=>
     simp only [M] at hf
     simp only [sB.1,qiL,seval,ht,e0,J,E,B,c1E,Id,Iw,y0,y1,y2,y3,a7,a6,D0,D1,m1,e1,d,z0,z1,cI,jL,aa,ab,M,w] at he
     subst he
     refine .inl ⟨_,k - 1,rfl,zo,_,a + 1,rfl,Y0,?_,?_,?_,?_,zo,hf⟩
     all_goals simp only [sB.1,seval,ht,e0,J,E,B,Id,Iw,w]
  ·have c1E:ilt (a:Int) (ins.length:Int) = false:=by rw [qe];simp;omega
   simp only [sB.1,qiL,seval,ht,E,B,c1E] at he
   subst he
   rw [List.drop_eq_nil_of_le ha] at hf
   exact .inr ⟨_,_,rfl,by simp,_,rfl,Y0,.inl ⟨rfl,hf⟩⟩
 generalize hw:Wd _ _ g = w
 rw [qm 25 c25] at hw
 simp only [sA.1,c25,seval,hR,hb,hlt,x1,x2,Id,Is,Iw,Il,d,st,aj,ae,ad,ac] at hw
 generalize hr:qj g.length Wd (.loop qiL) _ = r at hw
 obtain ⟨x,S,rfl,tt,rfl,ht,⟨rfl,hf⟩ | ⟨rfl,e4⟩⟩:=qaH hr (loop ins.length _ ⟨_,0,by rw [hG],Y1,Y1,by simp only [sB.1,seval,Id],Y1,u4,zo,rfl⟩)
 ·rw [hf]
  simp only [sB.1,seval,ht] at hw
  subst hw
  exact congrArg some (qS a8 rfl)
 ·simp only [sB.1,seval,ht,e4] at hw
  subst hw
  exact congrArg some (qS a8 rfl)
theorem Ins.cho {op:Int} {ins:List Int} {I:qa} (h:Ins H ins I) (hc:Cho op ins):∃id,I = .sl id 0 ins.length ins.length 1/\H id = some (.cells (ins.map cI)):=by
 rcases h with ⟨rfl,rfl⟩ | ⟨id,rfl,hid⟩
 ·rcases hc with ⟨_,a,b,c,e⟩ | ⟨_,a,b,e⟩ | ⟨_,a,b,e⟩ <;> cases e
 ·exact ⟨id,rfl,hid⟩
theorem qra (R D N:Nat) (dn:Int->Bool) (ev:Int->Res) (ns:List Nd) {TV VL BV OL:qa} {en ed:Int} (hR:R < g.length) (hb:g[R]? = some (.cells [TV,VL,BV,.int .i64 en,.int .i64 ed,OL,.sl D 0 N N 0])) (hg:Cov H g) (hT:qen H ns TV) (hD:qb1 H g D N dn ev) (i:Nat) (hi:i < ns.length) (hc:Cho ns[i].op ns[i].ins) (af:∀j ∈ ns[i].ins,0 <= j/\j < N) :
  Wd (.fn 25 [] []) [.ptr R 0,.int .i64 (i:Nat)] g = some (.ret (.int .i64 (qdg ns[i].op ns[i].ins dn ev)),g,false):=by
 obtain ⟨au,I,ar,hlt,x1,x2,hI⟩:=hT.item hi hg
 subst ar
 obtain ⟨Id,Is,Iw,Il⟩:=hI.facts
 generalize ns[i] = nd at *
 obtain ⟨op,n,nm,sb,pl,ins⟩:=nd
 simp only at *
 obtain ⟨a7,rfl,aa⟩:=hI.cho hc
 have E:=hg.lt aa
 have J:=hg _ _ aa
 have d:∀id o n c w:Nat,(qa.sl id o n c w).dim = .sl id o n c w:=λ_ _ _ _ _=>rfl
 have st:∀id o n c w:Nat,(qa.sl id o n c w).storable = true:=λ_ _ _ _ _=>rfl
 have dw:∀id o n c w i t,qz (qa.sl id o n c w) i t = t:=λ_ _ _ _ _ _ _=>rfl
 have O:Nat.ble g.length g.length = true:=qf zo
 have z0:qg8 0 false .nilptr .nilptr = some (.bool true):=xk
 have z1:∀q,qg8 0 false (.ptr q 0) .nilptr = some (.bool false):=λ_=>xk
 obtain ⟨ds,D0,D1,D2,D3⟩:=hD
 have ap:qlU op = true/\(op == 23 || op == 24 || op == 25) = true:=by rcases hc with ⟨rfl,_⟩ | ⟨rfl,_⟩ | ⟨rfl,_⟩ <;> decide
 have ad:(op == 23) = true\/((op == 23) = false/\(op == 24) = true)\/((op == 23) = false/\(op == 24) = false/\(op == 25) = true):=by rcases hc with ⟨rfl,_⟩ | ⟨rfl,_⟩ | ⟨rfl,_⟩ <;> decide
 obtain ⟨i0,am,ab,B⟩ :∃i:Nat,ins.getD 0 0 = (i:Int)/\i < N/\(ins.map cI)[0]? = some (cI (i:Int)):=by
  rcases hc with ⟨_,a,b,c,rfl⟩ | ⟨_,a,b,rfl⟩ | ⟨_,a,b,rfl⟩ <;>
  ·have:=af a (by simp)
   refine ⟨a.toNat,?_,zo,?_⟩
   ·simp;omega
   ·simp only [List.map_cons,jz,cI]
    rw [Int.toNat_of_nonneg this.1]
 have aj:0 < ins.length:=by rcases hc with ⟨_,a,b,c,rfl⟩ | ⟨_,a,b,rfl⟩ | ⟨_,a,b,rfl⟩ <;> simp
 have m0:qar 1 (.sl a7 0 ins.length ins.length 1) (.int .i64 0) = some (.ptr a7 0):=qck (i:=0) (k:=1) aj
 have mD:∀i:Nat,i < N->qar 1 (.sl D 0 N N 0) (.int .i64 (i:Nat)) = some (.ptr D i):=λi h=>by rw [qck h,Nat.mul_one]
 have M:=mD i0 ab
 rw [qdg,ap.1,cond_true]
 simp only [am]
 cases ai:dn (i0:Int) with
 | false=>
  have e0:=(D3 i0 ab).1 ai
  rw [j4,cond_true]
  rw [qm 25 c25]
  rcases ad with k1 | ⟨k1,k2⟩ | ⟨k1,k2,k3⟩
  ·simp only [sA.1,c25,seval,hR,hb,hlt,x1,x2,d,st,dw,O,k1,E,J,D0,D1,m0,B,M,e0,z0,z1,cI,jL]
  ·simp only [sA.1,c25,seval,hR,hb,hlt,x1,x2,d,st,dw,O,k1,k2,E,J,D0,D1,m0,B,M,e0,z0,z1,cI,jL]
  ·simp only [sA.1,c25,seval,hR,hb,hlt,x1,x2,d,st,dw,O,k1,k2,k3,E,J,D0,D1,m0,B,M,e0,z0,z1,cI,jL]
 | true=>
  obtain ⟨q0,av,e0,ae,al⟩:=(D3 i0 ab).2 ai
  have a1:=hg.lt ae
  have a6:=hg _ _ ae
  rw [j3,cond_false]
  generalize az:ev i0 = r0 at *
  obtain ⟨v0,x0⟩:=r0
  obtain ⟨k,m,s,l,L,hv,rfl,hL⟩:=al.cells
  obtain ⟨Ld,Ls,Lw,Ll⟩:=hL.facts
  have aA:=hL.low hg
  simp only at hv
  subst hv
  have U:=qje (g:=g ++ [.cells [.int .i64 op,.int .i64 n,.str nm,.str sb,.int .i64 pl,.sl a7 0 ins.length ins.length 1]]) (.ptr R 0) op n nm sb pl a7 ins hc (by simp;omega) (by rw [ja E];exact J) k m s L x0 Ld Ls l rfl
  have a8:=qdd hc (.mk k m s l,x0)
  generalize q6 op ins (.mk k m s l,x0) = sc at *
  cases S:ile 0 sc with
  | false=>
   rw [jN,cond_false]
   rw [qm 25 c25]
   rcases ad with k1 | ⟨k1,k2⟩ | ⟨k1,k2,k3⟩
   ·simp only [sA.1,c25,seval,hR,hb,hlt,x1,x2,d,st,dw,O,k1,E,J,D0,D1,m0,B,M,e0,z0,z1,cI,a1,a6,Ld,Ls,Lw,U,S,jL]
   ·simp only [sA.1,c25,seval,hR,hb,hlt,x1,x2,d,st,dw,O,k1,k2,E,J,D0,D1,m0,B,M,e0,z0,z1,cI,a1,a6,Ld,Ls,Lw,U,S,jL]
   ·simp only [sA.1,c25,seval,hR,hb,hlt,x1,x2,d,st,dw,O,k1,k2,k3,E,J,D0,D1,m0,B,M,e0,z0,z1,cI,a1,a6,Ld,Ls,Lw,U,S,jL]
  | true=>
   have ay:0 <= sc:=by rw [qaI] at S;simpa using S
   have a8:sc ∈ ins:=by
    rcases a8 with e | e
    ·omega
    ·exact e
   obtain ⟨i1,rfl⟩ :∃i:Nat,sc = (i:Int):=⟨sc.toNat,zo⟩
   have ac:i1 < N:=by have:=af _ a8;omega
   have ak:=mD i1 ac
   rw [jX]
   have hz:∃p,ds[i1]? = some p/\p.dim = p/\(∀i t,qz p i t = t)/\qg8 0 false p .nilptr = some (.bool (!(dn (i1:Int)))):=by
    cases ah:dn (i1:Int) with
    | false=>exact ⟨_,(D3 i1 ac).1 ah,rfl,λ_ _=>rfl,xk⟩
    | true=>
     obtain ⟨q,rs,e,_⟩:=(D3 i1 ac).2 ah
     exact ⟨_,e,rfl,λ_ _=>rfl,z1 q⟩
   obtain ⟨p,e1,pd,pw,pz⟩:=hz
   generalize dn (i1:Int) = b at *
   rw [qm 25 c25]
   have k2:=True.intro
   have k3:=True.intro
   rcases ad with k1 | ⟨k1,k2⟩ | ⟨k1,k2,k3⟩ <;> cases b <;>
   simp only [sA.1,c25,seval,hR,hb,hlt,x1,x2,d,st,dw,O,k1,k2,k3,E,J,D0,D1,m0,B,M,ak,e0,e1,pd,pw,pz,z0,z1,cI,a1,a6,Ld,Ls,Lw,U,S,jL,j4,j3,cond_true,cond_false]
end
end Go.Proofs.YtnibchoenjmmjaaGreatDoor.AE
