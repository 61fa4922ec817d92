/- A part of the proof: the abstract executor and what goes through it (part 12). No condition. -/
import Derived.Test.YtnibchoenjmmjaaGreatDoorMq11
import Derived.Test.YtnibchoenjmmjaaGreatDoorMq9
set_option maxRecDepth 100000
set_option maxHeartbeats 0
namespace Go.Proofs.YtnibchoenjmmjaaGreatDoor.AE
open Go.AE
structure qcp where
 vals:List Val
 bag:List (List Val)
 en:Int
 ed:Int
 oth:List (Str×Str×Val)
def qal (b:List (List Val)):qa:=.lst (b.map fun l=>.lst (l.map qa7) .no) .no
def qcr (H:Nat→Option qb) (l:List (Str×Str×Val)) (L:qa):Prop:=∃rs:List (List qa),rs.length = l.length∧(∀(i:Nat) (h:i < l.length) (h':i < rs.length),∃cs,rs[i] = .str l[i].1 :: .str l[i].2.1 :: cs∧At H l[i].2.2 cs)∧((l = []∧L = .lst [] .full)∨∃id m,L = .sl id 0 l.length l.length m∧H id = some (.cells rs.flatten))
theorem qcr.facts {H:Nat→Option qb} {l:List (Str×Str×Val)} {L:qa} (h:qcr H l L):L.dim = L∧L.storable = true∧(∀i t,qx L i t = t)∧qbb false L = some (.int .i64 (l.length:Nat)):=by
 obtain ⟨rs,_,_,⟨rfl,rfl⟩ | ⟨id,m,rfl,_⟩⟩:=h <;> exact ⟨rfl,rfl,fun _ _=>rfl,rfl⟩
theorem qcr.mono {H H':Nat→Option qb} (hs:Sub H H') {l:List (Str×Str×Val)} {L:qa} (h:qcr H l L):qcr H' l L:=by
 obtain ⟨rs,h1,h2,h3⟩:=h
 refine ⟨rs,h1,fun i a b=>?_,?_⟩
 ·obtain ⟨cs,e,hc⟩:=h2 i a b
  exact ⟨cs,e,hc.mono hs⟩
 ·rcases h3 with h3 | ⟨id,m,e,hi⟩
  ·exact .inl h3
  ·exact .inr ⟨id,m,e,hs _ _ hi⟩
theorem qcr.item {H:Nat→Option qb} {l:List (Str×Str×Val)} {L:qa} (h:qcr H l L) {i:Nat} (hi:i < l.length) {g:List qb} (hg:Cov H g):∃id m cs,L = .sl id 0 l.length l.length m∧qav 6 L (.int .i64 (i:Nat)) = some (.ptr id (i * 6))∧ldB (some 6) (i * 6) g[id]? = some (.agg (.str l[i].1 :: .str l[i].2.1 :: cs))∧At H l[i].2.2 cs:=by
 obtain ⟨rs,h1,h2,⟨rfl,rfl⟩ | ⟨id,m,rfl,hid⟩⟩:=h
 ·simp at hi
 ·have hi':i < rs.length:=by omega
  obtain ⟨cs,e,hc⟩:=h2 i hi hi'
  refine ⟨id,m,cs,rfl,qcf hi,?_,hc⟩
  have hk:∀v ∈ rs,v.length = 6:=fun v hv=>by
   obtain ⟨j,hj,rfl⟩:=List.getElem_of_mem hv
   obtain ⟨cs',e',hc'⟩:=h2 j (by omega) hj
   rw [e']
   simp [hc'.length]
  have hs:∀c ∈ rs[i],c.dim = c:=fun c hc'=>by
   rw [e] at hc'
   rcases List.mem_cons.1 hc' with rfl | hc'
   ·rfl
   ·rcases List.mem_cons.1 hc' with rfl | hc'
    ·rfl
    ·exact hc.dims c hc'
  have hb:g[id]? = some (.cells rs.flatten):=hg _ _ hid
  have hcut:=qc3 hk hi' hs
  rw [e] at hcut
  rw [hb,ldB]
  exact hcut
def qkq {α:Type} (l:List α) (i:Int):Option α:=bif ilt i 0 then none else l[i.toNat]?
theorem qsW {α:Type} (l:List α) (i:Nat):qkq l (i:Int) = l[i]?:=by
 have:ilt (i:Int) 0 = false:=by rw [qf];simp
 rw [qkq,this]
 rfl
theorem qc7 {α:Type} {l:List α} {pl:Int} {x:Option α} (hx:qkq l pl = x):(x = none∧(ilt pl 0 = true∨(ilt pl 0 = false∧ile (l.length:Int) pl = true)))∨(∃i:Nat,∃hi:i < l.length,x = some l[i]∧pl = (i:Int)∧ilt pl 0 = false∧ile (l.length:Int) pl = false):=by
 subst hx
 cases c0:ilt pl 0 with
 | true=>exact .inl ⟨by rw [qkq,c0];rfl,.inl rfl⟩
 | false=>
  have h0:¬ pl < 0:=by rw [qf] at c0;simpa using c0
  obtain ⟨i,rfl⟩ :∃i:Nat,pl = (i:Int):=⟨pl.toNat,by omega⟩
  rw [qsW]
  rcases Nat.lt_or_ge i l.length with hi | hi
  ·exact .inr ⟨i,hi,List.getElem?_eq_getElem hi,rfl,rfl,by rw [qaw];simp;omega⟩
  ·exact .inl ⟨List.getElem?_eq_none hi,.inr ⟨rfl,by rw [qaw];simp;omega⟩⟩
def qyE (E:qcp) (op:Int) (nm sb:Str) (pl:Int):Res:=bif op == 4 then (match qkq E.vals pl with | some v=>qa6 v | none=>qbk 1) else match E.oth.find? (fun x=>x.1 == nm && x.2.1 == sb) with | some x=>qa6 x.2.2 | none=>qbk 16
abbrev zr5:qb:=.cells [.int .i64 0,.int .i64 0,.str [],.lst [] .full,.int .i64 0]
section
variable {g:List qb} {H:Nat→Option qb}
theorem qf5 (E:qcp) (hg:Cov H g) (R:Nat) {OL TV DL:qa} (hR:R < g.length) (hb:g[R]? = some (.cells [TV,.lst (E.vals.map qa7) .no,qal E.bag,.int .i64 E.en,.int .i64 E.ed,OL,DL])) (hO:qcr H E.oth OL) (hol:E.oth.length ≤ 1000) (hvl:E.vals.length ≤ 1000) (op n:Int) (nm sb:Str) (pl:Int) (I:qa) (hId:I.dim = I) (hIs:I.storable = true) (hIw:∀i t,qx I i t = t) :
  ∃rs,Wd (.fn 53 [] []) [.ptr R 0,.agg [.int .i64 op,.int .i64 n,.str nm,.str sb,.int .i64 pl,I]] g = some (.ret (.agg rs),g,false)∧RAt H (qyE E op nm sb pl) rs:=by
 have ww:∀e h,Wd (.fn 55 [] []) [.int .i64 e] h = some (.ret (rI 0 e),h,false):=fun e h=>qan e
 obtain ⟨od,os,ow,ol⟩:=hO.facts
 have hV:=LP.arg (H:=H) E.vals
 obtain ⟨vd,vs,vw,vl⟩:=hV.facts
 have hgG:=fun m=>hg.more m
 obtain ⟨G,hG⟩ :∃G,G = g ++ [qb.cells [.int .i64 op,.int .i64 n,.str nm,.str sb,.int .i64 pl,I],zr5]:=⟨_,rfl⟩
 have hb1:=qrB g 1
 have hGl:G.length = g.length + 2:=by rw [hG];simp
 have hGc:Cov H G:=by rw [hG];exact hgG _
 have htk:G.take g.length = g:=by rw [hG];simp
 have hGR:G[R]? = some (.cells [TV,.lst (E.vals.map qa7) .no,qal E.bag,.int .i64 E.en,.int .i64 E.ed,OL,DL]):=by rw [hG,List.getElem?_append_left hR];exact hb
 have G0:G[g.length]? = some (.cells [.int .i64 op,.int .i64 n,.str nm,.str sb,.int .i64 pl,I]):=by rw [hG,qQ];rfl
 have G1:G[g.length + 1]? = some zr5:=by rw [hG,qaL];rfl
 cases h4:(op == 4) with
 | true=>
  have hop:op = 4:=by simpa using h4
  subst hop
  rw [qyE]
  have hO2:=fun x (hx:qkq E.vals pl = x)=>qc7 hx
  generalize hx:qkq E.vals pl = x
  rcases hO2 x hx with ⟨rfl,c⟩ | ⟨i,hi,rfl,rfl,c0,c1⟩
  ·refine ⟨_,?_,RAt.wrong H 1⟩
   rw [qr rfl (show T.get 53 = some c53 by kernel_rfl)]
   rcases c with c | ⟨c,c'⟩
   ·simp only [sA.1,c53,simprocAttr,-Int.reduceNatCast',hId,hIs,hIw,hR,hb,c,ww,rI]
   ·simp only [sA.1,c53,simprocAttr,-Int.reduceNatCast',hId,hIs,hIw,hR,hb,c,c',ww,rI,vl]
  ·obtain ⟨pp,cs,x1,x2,x3,x4,x5⟩:=hV.item hi hg
   have x6:∀i t,qx pp i t = t:=fun i t=>by rw [←x2];exact qaf _ _ _
   obtain ⟨rs,hc,hrs⟩:=qc2 x5 hGc
   rw [hG] at hc
   refine ⟨rs,?_,hrs⟩
   obtain ⟨k',n',s',l',L',e,rfl,hL'⟩:=hrs.cells
   obtain ⟨d1,s1,w1,n1⟩:=hL'.facts
   have hlo:=hL'.low hg
   rw [qr rfl (show T.get 53 = some c53 by kernel_rfl)]
   simp only [sA.1,c53,simprocAttr,-Int.reduceNatCast',hId,hIs,hIw,hR,hb,c0,c1,rI,vl,x1,x2,x3,x6,hc,d1,s1,w1,hlo,hb1]
 | false=>
  rw [qyE,h4,cond_false]
  have loop:∀k st,(∃(tt:List qa) (i:Nat) (junk:List qb),st = ⟨tt,G ++ junk,false⟩∧tt.length = 62∧lkp tt 0 = .ptr R 0∧lkp tt 3 = .ptr g.length 0∧lkp tt 4 = .ptr (g.length + 1) 0∧lkp tt 39 = OL∧lkp tt 40 = .int .i64 (E.oth.length:Nat)∧lkp tt 41 = .int .i64 (i:Nat)∧i + k = E.oth.length∧E.oth.find? (fun x=>x.1 == nm && x.2.1 == sb) = (E.oth.drop i).find? (fun x=>x.1 == nm && x.2.1 == sb))→
    ∃x st',qm g.length Wd (.loop qh2) st = some (x,st')∧(∃(tt:List qa) (K:List qb) (rs:List qa),st' = ⟨tt,K,false⟩∧tt.length = 62∧lkp tt 4 = .ptr (g.length + 1) 0∧K.take g.length = g∧g.length + 1 < K.length∧((x = .exit 0∧E.oth.find? (fun x=>x.1 == nm && x.2.1 == sb) = none∧K[g.length + 1]? = some zr5)∨(x = .ret∧K[g.length + 1]? = some (.cells rs)∧∃y,E.oth.find? (fun x=>x.1 == nm && x.2.1 == sb) = some y∧RAt H (qa6 y.2.2) rs))):=by
   refine qD _ _ ?_
   rintro k st ⟨tt,i,junk,rfl,ht,e0,e3,e4,e39,e40,e41,hik,hf⟩
   generalize he:qm g.length Wd qh2 _ = r
   have B0:(G ++ junk)[g.length]? = some (.cells [.int .i64 op,.int .i64 n,.str nm,.str sb,.int .i64 pl,I]):=by rw [List.getElem?_append_left (by omega)];exact G0
   have B1:(G ++ junk)[g.length + 1]? = some zr5:=by rw [List.getElem?_append_left (by omega)];exact G1
   have hlt0:g.length < (G ++ junk).length:=by simp;omega
   have hlt1:g.length + 1 < (G ++ junk).length:=by simp;omega
   have hgJ:Cov H (G ++ junk):=hGc.more _
   have htj:(G ++ junk).take g.length = g:=by rw [List.take_append_of_le_length (by omega),htk]
   have hbJ:Nat.ble g.length (G ++ junk).length = true:=qi (by simp;omega)
   rcases Nat.lt_or_ge i E.oth.length with hi | hi
   ·have c1E:ilt (i:Int) (E.oth.length:Int) = true:=by rw [qf];simp;omega
    have w:=q9 (n:=i) (by omega)
    obtain ⟨id,m,cs,_,x1,x3,x4⟩:=hO.item hi hgJ
    rw [List.drop_eq_getElem_cons hi,List.find?_cons] at hf
    generalize hva0:E.oth[i] = va0 at *
    obtain ⟨ck,cn,cz,cl,CL,hv,rfl,d1,s1,w1,n1⟩:=x4.cells
    generalize hJ:G ++ junk = J at *
    obtain ⟨rs,hc,hrs⟩:=qc2 x4 (hgJ.more [.cells (.str va0.1 :: .str va0.2.1 :: [.int .i64 ck,.int .i64 cn,.str cz,CL])])
    obtain ⟨pa,na,va⟩:=va0
    simp only at *
    have hlo:=x4.low hgJ
    cases q1:(pa == nm) with
    | false=>
     rw [q1,Bool.false_and] at hf
     simp only [sA.1,qh2,simprocAttr,-Int.reduceNatCast',ht,e0,e3,e4,e39,e40,e41,c1E,od,ow,x1,x3,w,d1,s1,w1,hlt0,B0,hbJ,q1] at he
     subst he
     refine .inl ⟨_,k - 1,rfl,by omega,_,i + 1,junk ++ [_],by rw [←List.append_assoc,hJ],by simp only [qc,ht],?_,?_,?_,?_,?_,?_,by omega,hf⟩
     all_goals simp only [sA.1,simprocAttr,-Int.reduceNatCast',ht,e0,e3,e4,e39,e40,e41,od,ow,w]
    | true=>
     rw [q1,Bool.true_and] at hf
     cases q2:(na == sb) with
     | false=>
      rw [q2] at hf
      simp only [sA.1,qh2,simprocAttr,-Int.reduceNatCast',ht,e0,e3,e4,e39,e40,e41,c1E,od,ow,x1,x3,w,d1,s1,w1,hlt0,B0,hbJ,q1,q2] at he
      subst he
      refine .inl ⟨_,k - 1,rfl,by omega,_,i + 1,junk ++ [_],by rw [←List.append_assoc,hJ],by simp only [qc,ht],?_,?_,?_,?_,?_,?_,by omega,hf⟩
      all_goals simp only [sA.1,simprocAttr,-Int.reduceNatCast',ht,e0,e3,e4,e39,e40,e41,od,ow,w]
     | true=>
      rw [q2] at hf
      obtain ⟨k',n',s',l',L',e,rfl,hL'⟩:=hrs.cells
      obtain ⟨d2,s2,w2,n2⟩:=hL'.facts
      have hlo2:=hL'.low hgJ
      simp only [sA.1,qh2,simprocAttr,-Int.reduceNatCast',ht,e0,e3,e4,e39,e40,e41,c1E,od,ow,x1,x3,w,d1,s1,w1,d2,s2,w2,hlt0,hlt1,B0,B1,hbJ,hb1,q1,q2,hc] at he
      subst he
      refine .inr ⟨_,_,rfl,by simp,_,_,_,rfl,by simp only [qc,ht],by simp only [sA.1,simprocAttr,-Int.reduceNatCast',ht,e4],?_,by simp;omega,.inr ⟨rfl,?_,_,hf,hrs⟩⟩
      ·rw [List.take_append_of_le_length (by simp;omega),List.take_set_of_le (by omega),htj]
      ·rw [List.getElem?_append_left (by simp;omega),List.getElem?_set_self hlt1]
   ·have c1E:ilt (i:Int) (E.oth.length:Int) = false:=by rw [qf];simp;omega
    simp only [sA.1,qh2,simprocAttr,-Int.reduceNatCast',ht,e40,e41,c1E] at he
    subst he
    rw [List.drop_eq_nil_of_le hi] at hf
    exact .inr ⟨_,_,rfl,by simp,_,_,[],rfl,by simp only [qc,ht],by simp only [sA.1,simprocAttr,-Int.reduceNatCast',ht,e4],htj,hlt1,.inl ⟨rfl,hf,B1⟩⟩
  generalize hw:Wd _ _ g = w
  rw [qr rfl (show T.get 53 = some c53 by kernel_rfl)] at hw
  simp only [sA.1,c53,simprocAttr,-Int.reduceNatCast',hId,hIs,hIw,hR,hb,h4,od,ow,ol] at hw
  generalize hr:qm g.length Wd (.loop qh2) _ = r at hw
  obtain ⟨x,st',rfl,tt,K,rs,rfl,ht,e4,hk,hlk,⟨rfl,hf,hb5⟩ | ⟨rfl,hb5,y,hf,hrs⟩⟩:=qaB hr (loop E.oth.length _ ⟨_,0,[],by rw [List.append_nil,hG],by simp only [sA.1,simprocAttr,-Int.reduceNatCast'],by simp only [sA.1,simprocAttr,-Int.reduceNatCast'],by simp only [sA.1,simprocAttr,-Int.reduceNatCast'],by simp only [sA.1,simprocAttr,-Int.reduceNatCast'],by simp only [sA.1,simprocAttr,-Int.reduceNatCast',od],by simp only [sA.1,simprocAttr,-Int.reduceNatCast'],by simp only [sA.1,simprocAttr,-Int.reduceNatCast',Int.natCast_zero],by omega,rfl⟩)
  ·have htk2:∀b,(K.set (g.length + 1) b).take g.length = g:=fun b=>by rw [List.take_set_of_le (by omega),hk]
   rw [hf]
   simp only [sA.1,simprocAttr,-Int.reduceNatCast',ht,e4,ww,rI,hb5,hlk] at hw
   subst hw
   exact ⟨_,congrArg some (qH (htk2 _) rfl),RAt.wrong H _⟩
  ·rw [hf]
   obtain ⟨k',n',s',l',L',e,rfl,hL'⟩:=hrs.cells
   obtain ⟨d2,s2,w2,n2⟩:=hL'.facts
   have hlo2:=hL'.low hg
   simp only [sA.1,simprocAttr,-Int.reduceNatCast',ht,e4,hb5,hlk,d2,s2,w2] at hw
   subst hw
   exact ⟨_,congrArg some (qH hk (by simp only [sA.1,simprocAttr,-Int.reduceNatCast',hlo2])),hrs⟩
end
def qhk (E:qcp) (pl:Int):List Val:=match qkq E.bag pl with | some l=>l | none=>[]
def qqB (E:qcp) (op pl:Int) (inn:List Val):Res:=
 bif op == 7 then qgG ((qhk E pl).length:Nat) else bif op == 8 then qdv (ilt 0 ((qhk E pl).length:Nat)) else bif op == 9 then qAr (qhk E pl) else
 match qhk E pl with
 | v :: _=>qa6 v
 | []=>match inn with | v :: _=>(v,0) | []=>qbk 1
section
variable {g:List qb} {H:Nat→Option qb}
theorem qiQ {b:List (List Val)} {i:Nat} (hi:i < b.length):qav 1 (qal b) (.int .i64 (i:Nat)) = some (.iptr [.lst (b[i].map qa7) .no] 0):=by
 rw [qal]
 exact qaM (x:=.lst (b[i].map qa7) .no) (by rw [List.getElem?_map,List.getElem?_eq_getElem hi];rfl) rfl
theorem qeb (E:qcp) (hg:Cov H g) (R:Nat) {VL OL TV DL L:qa} (hR:R < g.length) (hb:g[R]? = some (.cells [TV,VL,qal E.bag,.int .i64 E.en,.int .i64 E.ed,OL,DL])) (hbl:E.bag.length ≤ 1000) (hbs:∀l ∈ E.bag,l.length ≤ 200∧qq2 (l.map qeX)∧∀v ∈ l,qE 3 v = true) (op n:Int) (nm sb:Str) (pl:Int) (I:qa) (hId:I.dim = I) (hIs:I.storable = true) (hIw:∀i t,qx I i t = t) (hop:op = 7∨op = 8∨op = 9∨op = 10) (inn:List Val) (Ld:L.dim = L) (Ls:L.storable = true) (Lw:∀i t,qx L i t = t) (hi10:op = 10→∃v vs pp cs,inn = v :: vs∧qav 4 L (.int .i64 0) = some pp∧pp.dim = pp∧(∀m,qbQ (g ++ m) pp (some 4) = some (.agg cs))∧At H v cs) :
  ∃rs,Wd (.fn 54 [] []) [.ptr R 0,.agg [.int .i64 op,.int .i64 n,.str nm,.str sb,.int .i64 pl,I],L] g = some (.ret (.agg rs),g,false)∧RAt H (qqB E op pl inn) rs:=by
 have bd:(qal E.bag).dim = qal E.bag:=rfl
 have bs:(qal E.bag).storable = true:=by rw [qal];kernel_rfl
 have bl:qbb false (qal E.bag) = some (.int .i64 (E.bag.length:Nat)):=by rw [qal,qbb];simp
 have bw:∀i t,qx (qal E.bag) i t = t:=fun i t=>by rw [qal];rfl
 have hb1:=qrB g 1
 have w7:=fun (x:Int) h=>qaC (h:=h) x
 have w8:=fun b h=>qkU (g:=h) b
 simp only [rI] at w7
 have hP:∃LV,LP H (qhk E pl) LV∧(qhk E pl).length ≤ 200∧qq2 ((qhk E pl).map qeX)∧(∀v ∈ qhk E pl,qE 3 v = true)∧((ile 0 pl = false∧LV = .lst [] .full∧qhk E pl = [])∨(ile 0 pl = true∧ilt pl (E.bag.length:Int) = false∧LV = .lst [] .full∧qhk E pl = [])∨(ile 0 pl = true∧ilt pl (E.bag.length:Int) = true∧qav 1 (qal E.bag) (.int .i64 pl) = some (.iptr [LV] 0))):=by
  rcases qc7 (l:=E.bag) (pl:=pl) rfl with ⟨e,c⟩ | ⟨i,hi,e,rfl,c0,c1⟩
  ·have eb:qhk E pl = []:=by rw [qhk,e]
   refine ⟨.lst [] .full,?_⟩
   rw [eb]
   refine ⟨LP.nil (.inr rfl),by simp,fun n hn=>by simp at hn,fun v hv=>by simp at hv,?_⟩
   rcases c with c | ⟨c,c'⟩
   ·exact .inl ⟨by rw [qf] at c;rw [qaw];simp at *;omega,rfl,rfl⟩
   ·exact .inr (.inl ⟨by rw [qf] at c;rw [qaw];simp at *;omega,by rw [qaw] at c';rw [qf];simp at *;omega,rfl,rfl⟩)
  ·obtain ⟨p1,p2,p3⟩:=hbs _ (List.getElem_mem hi)
   rw [qhk,e]
   exact ⟨_,LP.arg _,p1,p2,p3,.inr (.inr ⟨by rw [qaw];simp,by rw [qf];simp;omega,qiQ hi⟩)⟩
 obtain ⟨LV,hLV,p1,p2,p3,hc⟩:=hP
 unfold qqB
 generalize qhk E pl = l at *
 obtain ⟨vd,vs,vw,vl⟩:=hLV.facts
 have hgG:Cov H (g ++ [qb.cells [.int .i64 op,.int .i64 n,.str nm,.str sb,.int .i64 pl,I],zr5]):=hg.more _
 have e7:op = 7→(op == 7) = true∧(op == 8) = false∧(op == 9) = false∧(op == 10) = false:=fun h=>by subst h;decide
 have e8:op = 8→(op == 7) = false∧(op == 8) = true∧(op == 9) = false∧(op == 10) = false:=fun h=>by subst h;decide
 have e9:op = 9→(op == 7) = false∧(op == 8) = false∧(op == 9) = true∧(op == 10) = false:=fun h=>by subst h;decide
 have e10:op = 10→(op == 7) = false∧(op == 8) = false∧(op == 9) = false∧(op == 10) = true:=fun h=>by subst h;decide
 rcases hop with hop | hop | hop | hop
 ·obtain ⟨o7,o8,o9,o10⟩:=e7 hop
  rw [o7,cond_true]
  refine ⟨_,?_,RAt.whole H _⟩
  rw [qr rfl (show T.get 54 = some c54 by kernel_rfl)]
  rcases hc with ⟨c0,rfl,rfl⟩ | ⟨c0,c1,rfl,rfl⟩ | ⟨c0,c1,x1⟩
  ·simp only [sA.1,c54,simprocAttr,-Int.reduceNatCast',hId,hIs,hIw,hR,hb,bd,bs,bw,bl,Ld,Ls,Lw,o7,o8,o9,c0,vd,vl,vw,w7]
  ·simp only [sA.1,c54,simprocAttr,-Int.reduceNatCast',hId,hIs,hIw,hR,hb,bd,bs,bw,bl,Ld,Ls,Lw,o7,o8,o9,c0,c1,vd,vl,vw,w7]
  ·simp only [sA.1,c54,simprocAttr,-Int.reduceNatCast',hId,hIs,hIw,hR,hb,bd,bs,bw,bl,Ld,Ls,Lw,o7,o8,o9,c0,c1,x1,vd,vl,vw,w7]
 ·obtain ⟨o7,o8,o9,o10⟩:=e8 hop
  rw [o7,cond_false,o8,cond_true]
  refine ⟨_,?_,RAt.truth H _⟩
  rw [qr rfl (show T.get 54 = some c54 by kernel_rfl)]
  rcases hc with ⟨c0,rfl,rfl⟩ | ⟨c0,c1,rfl,rfl⟩ | ⟨c0,c1,x1⟩
  ·simp only [sA.1,c54,simprocAttr,-Int.reduceNatCast',hId,hIs,hIw,hR,hb,bd,bs,bw,bl,Ld,Ls,Lw,o7,o8,o9,c0,vd,vl,vw,w8]
  ·simp only [sA.1,c54,simprocAttr,-Int.reduceNatCast',hId,hIs,hIw,hR,hb,bd,bs,bw,bl,Ld,Ls,Lw,o7,o8,o9,c0,c1,vd,vl,vw,w8]
  ·simp only [sA.1,c54,simprocAttr,-Int.reduceNatCast',hId,hIs,hIw,hR,hb,bd,bs,bw,bl,Ld,Ls,Lw,o7,o8,o9,c0,c1,x1,vd,vl,vw,w8]
 ·obtain ⟨o7,o8,o9,o10⟩:=e9 hop
  rw [o7,cond_false,o8,cond_false,o9,cond_true]
  obtain ⟨rs,hsu,hrs⟩:=qyk hLV p2 p1 p3 _ hgG
  refine ⟨rs,?_,hrs⟩
  obtain ⟨k',n',s',l',L',e,rfl,hL'⟩:=hrs.cells
  obtain ⟨d2,s2,w2,n2⟩:=hL'.facts
  have hlo2:=hL'.low hg
  rw [qr rfl (show T.get 54 = some c54 by kernel_rfl)]
  rcases hc with ⟨c0,rfl,rfl⟩ | ⟨c0,c1,rfl,rfl⟩ | ⟨c0,c1,x1⟩
  ·simp only [sA.1,c54,simprocAttr,-Int.reduceNatCast',hId,hIs,hIw,hR,hb,bd,bs,bw,bl,Ld,Ls,Lw,o7,o8,o9,c0,vd,vl,vw,hsu,d2,s2,w2,hlo2,hb1]
  ·simp only [sA.1,c54,simprocAttr,-Int.reduceNatCast',hId,hIs,hIw,hR,hb,bd,bs,bw,bl,Ld,Ls,Lw,o7,o8,o9,c0,c1,vd,vl,vw,hsu,d2,s2,w2,hlo2,hb1]
  ·simp only [sA.1,c54,simprocAttr,-Int.reduceNatCast',hId,hIs,hIw,hR,hb,bd,bs,bw,bl,Ld,Ls,Lw,o7,o8,o9,c0,c1,x1,vd,vl,vw,hsu,d2,s2,w2,hlo2,hb1]
 ·obtain ⟨o7,o8,o9,o10⟩:=e10 hop
  rw [o7,cond_false,o8,cond_false,o9,cond_false]
  cases l with
  | nil=>
   obtain ⟨v,vs',pp,cs,rfl,x2,x3,x4,x6⟩:=hi10 hop
   have k0:ilt 0 ((0:Nat):Int) = false:=Eq.trans rfl rfl
   have x7:∀i t,qx pp i t = t:=fun i t=>by rw [←x3];exact qaf _ _ _
   refine ⟨_,?_,⟨cs,rfl,x6⟩⟩
   obtain ⟨k',n',s',l',L',e,rfl,d2,s2,w2,n2⟩:=x6.cells
   have hlo2:L'.lower g.length = true:=by have:=x6.low hg;simp only [qv,Bool.and_eq_true] at this;exact this.2.2.2.1
   rw [qr rfl (show T.get 54 = some c54 by kernel_rfl)]
   rcases hc with ⟨c0,rfl,_⟩ | ⟨c0,c1,rfl,_⟩ | ⟨c0,c1,x1⟩
   ·simp only [sA.1,c54,simprocAttr,-Int.reduceNatCast',hId,hIs,hIw,hR,hb,bd,bs,bw,bl,Ld,Ls,Lw,o7,o8,o9,c0,vd,vl,vw,k0,x2,x3,x4,x7,d2,s2,w2,hlo2,hb1]
   ·simp only [sA.1,c54,simprocAttr,-Int.reduceNatCast',hId,hIs,hIw,hR,hb,bd,bs,bw,bl,Ld,Ls,Lw,o7,o8,o9,c0,c1,vd,vl,vw,k0,x2,x3,x4,x7,d2,s2,w2,hlo2,hb1]
   ·simp only [sA.1,c54,simprocAttr,-Int.reduceNatCast',hId,hIs,hIw,hR,hb,bd,bs,bw,bl,Ld,Ls,Lw,o7,o8,o9,c0,c1,x1,vd,vl,vw,k0,x2,x3,x4,x7,d2,s2,w2,hlo2,hb1]
  | cons v l=>
   have k0:ilt 0 ((l.length + 1:Nat):Int) = true:=by rw [qf];simp
   obtain ⟨pp,cs,x2,x3,x4,x5,x6⟩:=hLV.item (i:=0) (by simp) hg
   have x2:qav 4 LV (.int .i64 0) = some pp:=x2
   have x7:∀i t,qx pp i t = t:=fun i t=>by rw [←x3];exact qaf _ _ _
   have x6:At H v cs:=x6
   obtain ⟨rs,hck,hrs⟩:=qc2 x6 hgG
   refine ⟨rs,?_,hrs⟩
   obtain ⟨k',n',s',l',L',e,rfl,hL'⟩:=hrs.cells
   obtain ⟨d2,s2,w2,n2⟩:=hL'.facts
   have hlo2:=hL'.low hg
   rw [qr rfl (show T.get 54 = some c54 by kernel_rfl)]
   rcases hc with ⟨c0,rfl,e0⟩ | ⟨c0,c1,rfl,e0⟩ | ⟨c0,c1,x1⟩
   ·cases e0
   ·cases e0
   ·simp only [sA.1,c54,simprocAttr,-Int.reduceNatCast',hId,hIs,hIw,hR,hb,bd,bs,bw,bl,Ld,Ls,Lw,o7,o8,o9,c0,c1,x1,vd,vl,vw,k0,x2,x3,x4,x7,hck,d2,s2,w2,hlo2,hb1]
end
def qaz (op:Int) (ins:List Int):Res→Int
 | (.mk k m _ _,e)=>bif !(e == 0) then -1 else bif !(k == 1) then -1 else bif op == 25 then (bif m == 1 then ins.getD 1 0 else ins.getD 2 0) else bif op == 23 then (bif m == 1 then ins.getD 1 0 else -1) else (bif m == 1 then -1 else ins.getD 1 0)
def qhY:Val→Int
 | .mk k _ _ _=>k
def qdy (op:Int) (ins:List Int) (ev:Int→Res):Res:=
 let r:=ev (ins.getD 0 0)
 bif !(r.2 == 0) then r else bif !(qhY r.1 == 1) then qbk 1 else
 bif ilt (qaz op ins r) 0 then r else
 bif ((ev (qaz op ins r)).2 == 0 && !(op == 25)) && !(qhY (ev (qaz op ins r)).1 == 1) then qbk 1 else ev (qaz op ins r)
def qbT (dn:Int→Bool) (ev:Int→Res):List Int→Int
 | []=>-1
 | j :: js=>bif !(dn j) then j else bif !((ev j).2 == 0) then -1 else qbT dn ev js
def qrC (op:Int):Bool:=op == 23 || (op == 24 || op == 25)
def qcA (op:Int) (ins:List Int) (dn:Int→Bool) (ev:Int→Res):Int:=
 bif qrC op then (bif !(dn (ins.getD 0 0)) then ins.getD 0 0 else bif ile 0 (qaz op ins (ev (ins.getD 0 0))) && !(dn (qaz op ins (ev (ins.getD 0 0)))) then qaz op ins (ev (ins.getD 0 0)) else -1)
 else qbT dn ev ins
def Cho (op:Int) (ins:List Int):Prop:=(op = 25∧∃a b c,ins = [a,b,c])∨(op = 23∧∃a b,ins = [a,b])∨(op = 24∧∃a b,ins = [a,b])
section
variable {g:List qb} {H:Nat→Option qb}
abbrev cI (n:Int):qa:=.int .i64 n
theorem qis (R:qa) (op n:Int) (nm sb:Str) (pl:Int) (iid:Nat) (ins:List Int) (hc:Cho op ins) (hlt:iid < g.length) (hi:g[iid]? = some (.cells (ins.map cI))) (k m:Int) (s:Str) (L:qa) (e:Int) (hLd:L.dim = L) (hLs:L.storable = true) (l:List Val) (hRd:R.dim = R) :
  Wd (.fn 48 [] []) [R,.agg [.int .i64 op,.int .i64 n,.str nm,.str sb,.int .i64 pl,.sl iid 0 ins.length ins.length 1],.agg [.int .i64 k,.int .i64 m,.str s,L,.int .i64 e]] g = some (.ret (.int .i64 (qaz op ins (.mk k m s l,e))),g,false):=by
 rw [qr rfl (show T.get 48 = some c48 by kernel_rfl)]
 have m1:∀id n c w:Nat,1 < n→qav 1 (.sl id 0 n c w) (.int .i64 1) = some (.ptr id 1):=fun id n c w h=>qcf (i:=1) (k:=1) h
 have m2:∀id n c w:Nat,2 < n→qav 1 (.sl id 0 n c w) (.int .i64 2) = some (.ptr id 2):=fun id n c w h=>qcf (i:=2) (k:=1) h
 have d:∀id o n c w:Nat,(qa.sl id o n c w).dim = .sl id o n c w:=fun _ _ _ _ _=>rfl
 have st:∀id o n c w:Nat,(qa.sl id o n c w).storable = true:=fun _ _ _ _ _=>rfl
 unfold qaz
 rcases hc with ⟨rfl,a,b,c,rfl⟩ | ⟨rfl,a,b,rfl⟩ | ⟨rfl,a,b,rfl⟩ <;>
  cases he:(e == 0) <;> cases hk:(k == 1) <;> cases hm:(m == 1) <;>
  simp only [sB.1,c48,simprocAttr,-Int.reduceNatCast',qaK,hLd,hLs,hRd,he,hk,hm,hlt,hi,m1,m2,d,st,cond_true,cond_false,List.getD_cons_succ,List.getD_cons_zero,List.map_cons,List.map_nil,cI]
theorem qcy {op:Int} {ins:List Int} (hc:Cho op ins) (r:Res):qaz op ins r = -1∨qaz op ins r ∈ ins:=by
 obtain ⟨⟨k,m,s,l⟩,e⟩:=r
 unfold qaz
 rcases hc with ⟨rfl,a,b,c,rfl⟩ | ⟨rfl,a,b,rfl⟩ | ⟨rfl,a,b,rfl⟩ <;> cases he:(e == 0) <;> cases hk:(k == 1) <;> cases hm:(m == 1) <;> simp [he,hk,hm]
def qbE (H:Nat→Option qb) (g:List qb) (D n:Nat) (dn:Int→Bool) (ev:Int→Res):Prop:=∃ds:List qa,D < g.length∧g[D]? = some (.cells ds)∧ds.length = n∧∀i:Nat,i < n→(dn i = false→ds[i]? = some .nilptr)∧(dn i = true→∃q rs,ds[i]? = some (.ptr q 0)∧H q = some (.cells rs)∧RAt H (ev i) rs)
theorem qbE.more {D n:Nat} {dn:Int→Bool} {ev:Int→Res} (h:qbE H g D n dn ev) (m:List qb):qbE H (g ++ m) D n dn ev:=by
 obtain ⟨ds,h0,h1,h2,h3⟩:=h
 exact ⟨ds,by simp;omega,by rw [List.getElem?_append_left h0];exact h1,h2,h3⟩
theorem qbE.mono {H':Nat→Option qb} {D n:Nat} {dn:Int→Bool} {ev:Int→Res} (h:qbE H g D n dn ev) (hs:Sub H H'):qbE H' g D n dn ev:=by
 obtain ⟨ds,h0,h1,h2,h3⟩:=h
 refine ⟨ds,h0,h1,h2,fun i hi=>⟨(h3 i hi).1,fun hd=>?_⟩⟩
 obtain ⟨q,rs,e,hq,hr⟩:=(h3 i hi).2 hd
 exact ⟨q,rs,e,hs _ _ hq,hr.mono hs⟩
theorem qnu (R D N:Nat) (dn:Int→Bool) (ev:Int→Res) {TV VL BV OL:qa} {en ed:Int} (hR:R < g.length) (hb:g[R]? = some (.cells [TV,VL,BV,.int .i64 en,.int .i64 ed,OL,.sl D 0 N N 0])) (hg:Cov H g) (hD:qbE H g D N dn ev) (op n:Int) (nm sb:Str) (pl:Int) (iid:Nat) (ins:List Int) (hc:Cho op ins) (hlt:iid < g.length) (hi:g[iid]? = some (.cells (ins.map cI))) (hin:∀j ∈ ins,0 ≤ j∧j < N) (h0:dn (ins.getD 0 0) = true) (h1:0 ≤ qaz op ins (ev (ins.getD 0 0))→dn (qaz op ins (ev (ins.getD 0 0))) = true) :
  ∃rs,Wd (.fn 49 [] []) [.ptr R 0,.agg [.int .i64 op,.int .i64 n,.str nm,.str sb,.int .i64 pl,.sl iid 0 ins.length ins.length 1]] g = some (.ret (.agg rs),g,false)∧RAt H (qdy op ins ev) rs:=by
 have ww:∀e h,Wd (.fn 55 [] []) [.int .i64 e] h = some (.ret (rI 0 e),h,false):=fun e h=>qan e
 have d:∀id o n c w:Nat,(qa.sl id o n c w).dim = .sl id o n c w:=fun _ _ _ _ _=>rfl
 have st:∀id o n c w:Nat,(qa.sl id o n c w).storable = true:=fun _ _ _ _ _=>rfl
 have hb1:=qrB g 1
 have hb2:=qrB g 2
 have hb3:=qrB g 3
 obtain ⟨ds,D0,D1,D2,D3⟩:=hD
 obtain ⟨i0,hi0,hiN,hmem⟩ :∃i:Nat,ins.getD 0 0 = (i:Int)∧i < N∧(ins.map cI)[0]? = some (cI (i:Int)):=by
  rcases hc with ⟨_,a,b,c,rfl⟩ | ⟨_,a,b,rfl⟩ | ⟨_,a,b,rfl⟩ <;>
  ·have:=hin a (by simp)
   refine ⟨a.toNat,?_,by omega,?_⟩
   ·simp;omega
   ·simp only [List.map_cons,List.getElem?_cons_zero,cI]
    rw [Int.toNat_of_nonneg this.1]
 have hins:0 < ins.length:=by rcases hc with ⟨_,a,b,c,rfl⟩ | ⟨_,a,b,rfl⟩ | ⟨_,a,b,rfl⟩ <;> simp
 have m0:qav 1 (.sl iid 0 ins.length ins.length 1) (.int .i64 0) = some (.ptr iid 0):=qcf (i:=0) (k:=1) hins
 have mD:∀i:Nat,i < N→qav 1 (.sl D 0 N N 0) (.int .i64 (i:Nat)) = some (.ptr D i):=fun i h=>by rw [qcf h,Nat.mul_one]
 have mD0:=mD i0 hiN
 rw [hi0] at h0
 obtain ⟨q0,rs0,e0,hq0,hr0⟩:=(D3 i0 hiN).2 h0
 have hq0l:=hg.lt hq0
 have hq0b:=hg _ _ hq0
 rw [qdy]
 simp only [hi0] at h1 ⊢
 generalize hev:ev i0 = r0 at *
 obtain ⟨v0,x0⟩:=r0
 obtain ⟨k,m,s,l,L,hv,rfl,hL⟩:=hr0.cells
 obtain ⟨Ld,Ls,Lw,Ll⟩:=hL.facts
 have Llo:=hL.low hg
 simp only at hv
 subst hv
 have hsec:=qis (g:=g ++ [.cells [.int .i64 op,.int .i64 n,.str nm,.str sb,.int .i64 pl,.sl iid 0 ins.length ins.length 1],zr5,.cells [.int .i64 k,.int .i64 m,.str s,L,.int .i64 x0]]) (.ptr R 0) op n nm sb pl iid ins hc (by simp;omega) (by rw [List.getElem?_append_left hlt];exact hi) k m s L x0 Ld Ls l rfl
 generalize hsc:qaz op ins (.mk k m s l,x0) = sc at *
 cases c0:(x0 == 0) with
 | false=>
  simp only [c0,Bool.not_false,cond_true]
  refine ⟨_,?_,hr0⟩
  rw [qr rfl (show T.get 49 = some c49 by kernel_rfl)]
  simp only [sA.1,c49,simprocAttr,-Int.reduceNatCast',hR,hb,m0,hlt,hi,hmem,D0,D1,mD0,e0,hq0l,hq0b,Ld,Ls,Lw,Llo,d,st,c0,ww,rI,hb1,hb2,hb3,Option.map_some,cI]
 | true=>
  cases c1:(k == 1) with
  | false=>
   simp only [c0,c1,qhY,Bool.not_true,Bool.not_false,cond_true,cond_false]
   refine ⟨_,?_,RAt.wrong H 1⟩
   rw [qr rfl (show T.get 49 = some c49 by kernel_rfl)]
   simp only [sA.1,c49,simprocAttr,-Int.reduceNatCast',hR,hb,m0,hlt,hi,hmem,D0,D1,mD0,e0,hq0l,hq0b,Ld,Ls,Lw,Llo,d,st,c0,c1,ww,rI,hb1,hb2,hb3,Option.map_some,cI]
  | true=>
   cases c2:ilt sc 0 with
   | true=>
    simp only [c0,c1,c2,qhY,Bool.not_true,Bool.not_false,cond_true,cond_false]
    refine ⟨_,?_,hr0⟩
    rw [qr rfl (show T.get 49 = some c49 by kernel_rfl)]
    simp only [sA.1,c49,simprocAttr,-Int.reduceNatCast',hR,hb,m0,hlt,hi,hmem,D0,D1,mD0,e0,hq0l,hq0b,Ld,Ls,Lw,Llo,d,st,c0,c1,c2,hsec,ww,rI,hb1,hb2,hb3,Option.map_some,cI]
   | false=>
    have hs0:0 ≤ sc:=by rw [qf] at c2;simpa using c2
    have hsd:=h1 hs0
    have hsm:sc ∈ ins:=by
     rcases qcy hc (.mk k m s l,x0) with e | e
     ·rw [hsc] at e;omega
     ·rwa [hsc] at e
    obtain ⟨i1,rfl⟩ :∃i:Nat,sc = (i:Int):=⟨sc.toNat,by omega⟩
    have hi1:i1 < N:=by have:=hin _ hsm;omega
    obtain ⟨q1,rs1,e1,hq1,hr1⟩:=(D3 i1 hi1).2 hsd
    have hq1l:=hg.lt hq1
    have hq1b:=hg _ _ hq1
    have mD1:=mD i1 hi1
    simp only [c0,c1,c2,qhY,Bool.not_true,Bool.not_false,cond_true,cond_false]
    generalize hev1:ev i1 = r1 at *
    obtain ⟨v1,x1⟩:=r1
    obtain ⟨k1,m1,s1,l1,L1,hv1,rfl,hL1⟩:=hr1.cells
    obtain ⟨Ld1,Ls1,Lw1,Ll1⟩:=hL1.facts
    have Llo1:=hL1.low hg
    simp only at hv1
    subst hv1
    cases c3:(x1 == 0) <;> cases c4:(op == 25) <;> cases c5:(k1 == 1) <;>
     simp only [c3,c4,c5,qhY,Bool.not_true,Bool.not_false,cond_true,cond_false,Bool.true_and,Bool.false_and,Bool.and_true,Bool.and_false] <;>
     refine ⟨_,?_,by first | exact hr1 | exact RAt.wrong H 1⟩ <;>
     rw [qr rfl (show T.get 49 = some c49 by kernel_rfl)] <;>
     simp only [sA.1,c49,simprocAttr,-Int.reduceNatCast',hR,hb,m0,hlt,hi,hmem,D0,D1,mD0,mD1,e0,e1,hq0l,hq0b,hq1l,hq1b,Ld,Ls,Lw,Llo,Ld1,Ls1,Lw1,Llo1,d,st,c0,c1,c2,c3,c4,c5,hsec,ww,rI,hb1,hb2,hb3,Option.map_some,cI]
end
def qcJ (H:Nat→Option qb) (ns:List Nd) (V:qa):Prop:=∃tid rs,V = .sl tid 0 ns.length ns.length 6∧H tid = some (.cells rs.flatten)∧Rows H ns rs
theorem qcJ.item {H:Nat→Option qb} {ns:List Nd} {V:qa} (h:qcJ H ns V) {i:Nat} (hi:i < ns.length) {g:List qb} (hg:Cov H g):∃tid I,V = .sl tid 0 ns.length ns.length 6∧tid < g.length∧qav 6 V (.int .i64 (i:Nat)) = some (.ptr tid (i * 6))∧ldB (some 6) (i * 6) g[tid]? = some (.agg [.int .i64 ns[i].op,.int .i64 ns[i].n,.str ns[i].nm,.str ns[i].sb,.int .i64 ns[i].pl,I])∧Ins H ns[i].ins I:=by
 obtain ⟨tid,rs,rfl,ht,hr⟩:=h
 have hl:=hr.length
 obtain ⟨I,e,hI⟩:=hr.get i hi (by omega)
 refine ⟨tid,I,rfl,hg.lt ht,qcf hi,?_,hI⟩
 have hc:=qc3 (vs:=rs) (k:=6) (fun v hv=>(hr.six v hv).1) (by omega:i < rs.length) fun c hc=>((hr.six _ (List.getElem_mem (by omega))).2 c hc).1
 rw [e] at hc
 rw [hg _ _ ht,ldB]
 exact hc
theorem qfO {dn:Int→Bool} {ev:Int→Res} {l:List Int} {i:Nat} (hi:i < l.length):qbT dn ev (l.drop i) = bif !(dn l[i]) then l[i] else bif !((ev l[i]).2 == 0) then -1 else qbT dn ev (l.drop (i + 1)):=by
 rw [List.drop_eq_getElem_cons hi,qbT]
section
variable {g:List qb} {H:Nat→Option qb}
theorem Ins.item {ins:List Int} {I:qa} (h:Ins H ins I) {i:Nat} (hi:i < ins.length) (hg:Cov H g):∃id,I = .sl id 0 ins.length ins.length 1∧id < g.length∧qav 1 I (.int .i64 (i:Nat)) = some (.ptr id i)∧g[id]? = some (.cells (ins.map cI))∧(ins.map cI)[i]? = some (cI ins[i]):=by
 rcases h with ⟨rfl,rfl⟩ | ⟨id,rfl,hid⟩
 ·simp at hi
 ·exact ⟨id,rfl,hg.lt hid,by rw [qcf hi,Nat.mul_one],hg _ _ hid,by rw [List.getElem?_map,List.getElem?_eq_getElem hi];rfl⟩
theorem qmh (R D N:Nat) (dn:Int→Bool) (ev:Int→Res) (ns:List Nd) {TV VL BV OL:qa} {en ed:Int} (hR:R < g.length) (hb:g[R]? = some (.cells [TV,VL,BV,.int .i64 en,.int .i64 ed,OL,.sl D 0 N N 0])) (hg:Cov H g) (hT:qcJ H ns TV) (hD:qbE H g D N dn ev) (i:Nat) (hi:i < ns.length) (hc:qrC ns[i].op = false) (hin:∀j ∈ ns[i].ins,0 ≤ j∧j < N) (hil:ns[i].ins.length ≤ 1000) :
  Wd (.fn 25 [] []) [.ptr R 0,.int .i64 (i:Nat)] g = some (.ret (.int .i64 (qbT dn ev ns[i].ins)),g,false):=by
 obtain ⟨tid,I,hTV,hlt,x1,x2,hI⟩:=hT.item hi hg
 subst hTV
 obtain ⟨Id,Is,Iw,Il⟩:=hI.facts
 generalize ns[i] = nd at *
 obtain ⟨op,n,nm,sb,pl,ins⟩:=nd
 simp only at *
 have d:∀id o n c w:Nat,(qa.sl id o n c w).dim = .sl id o n c w:=fun _ _ _ _ _=>rfl
 have st:∀id o n c w:Nat,(qa.sl id o n c w).storable = true:=fun _ _ _ _ _=>rfl
 have hb0:Nat.ble g.length g.length = true:=qi (by omega)
 have z0:qgm 0 false .nilptr .nilptr = some (.bool true):=by kernel_rfl
 have z1:∀q,qgm 0 false (.ptr q 0) .nilptr = some (.bool false):=fun _=>by kernel_rfl
 obtain ⟨cq23,cq24,cq25⟩ :(op == 23) = false∧(op == 24) = false∧(op == 25) = false:=by
  simpa [qrC] using hc
 obtain ⟨G,hG⟩ :∃G,G = g ++ [qb.cells [.int .i64 op,.int .i64 n,.str nm,.str sb,.int .i64 pl,I]]:=⟨_,rfl⟩
 have hGl:G.length = g.length + 1:=by rw [hG];simp
 have htk:G.take g.length = g:=by rw [hG];simp
 have hGc:Cov H G:=by rw [hG];exact hg.more _
 have hGR:R < G.length:=by omega
 have hGb:G[R]? = some (.cells [.sl tid 0 ns.length ns.length 6,VL,BV,.int .i64 en,.int .i64 ed,OL,.sl D 0 N N 0]):=by rw [hG,List.getElem?_append_left hR];exact hb
 have hGD:qbE H G D N dn ev:=by rw [hG];exact hD.more _
 obtain ⟨ds,D0,D1,D2,D3⟩:=hGD
 have mD:∀i:Nat,i < N→qav 1 (.sl D 0 N N 0) (.int .i64 (i:Nat)) = some (.ptr D i):=fun i h=>by rw [qcf h,Nat.mul_one]
 have loop:∀k st,(∃(tt:List qa) (a:Nat),st = ⟨tt,G,false⟩∧tt.length = 86∧lkp tt 0 = .ptr R 0∧lkp tt 59 = I∧lkp tt 60 = .int .i64 (ins.length:Nat)∧lkp tt 61 = .int .i64 (a:Nat)∧a + k = ins.length∧qbT dn ev ins = qbT dn ev (ins.drop a))→
   ∃x st',qm g.length Wd (.loop qhZ) st = some (x,st')∧(∃(tt:List qa),st' = ⟨tt,G,false⟩∧tt.length = 86∧((x = .exit 1∧qbT dn ev ins = -1)∨(x = .ret∧lkp tt 4 = .int .i64 (qbT dn ev ins)))):=by
  refine qD _ _ ?_
  rintro k st ⟨tt,a,rfl,ht,e0,e59,e60,e61,hak,hf⟩
  generalize he:qm g.length Wd qhZ _ = r
  rcases Nat.lt_or_ge a ins.length with ha | ha
  ·have c1E:ilt (a:Int) (ins.length:Int) = true:=by rw [qf];simp;omega
   have w:=q9 (n:=a) (by omega)
   obtain ⟨iid,hIe,y0,y1,y2,y3⟩:=hI.item ha hGc
   have hj:=hin _ (List.getElem_mem ha)
   rw [qfO ha] at hf
   obtain ⟨j,hj1⟩ :∃j:Nat,ins[a] = (j:Int):=⟨ins[a].toNat,by omega⟩
   rw [hj1] at y3 hj hf
   have hjN:j < N:=by omega
   have m1:=mD j hjN
   cases cq0:dn (j:Int) with
   | false=>
    have e1:=(D3 j hjN).1 cq0
    rw [cq0] at hf
    simp only [sB.1,qhZ,simprocAttr,-Int.reduceNatCast',ht,e0,e59,e60,e61,c1E,Id,Iw,y0,y1,y2,y3,hGR,hGb,D0,D1,m1,e1,d,z0,z1,cI,Option.map_some] at he
    subst he
    exact .inr ⟨_,_,rfl,by simp,_,rfl,by simp only [qc,ht],.inr ⟨rfl,by simp only [sB.1,simprocAttr,-Int.reduceNatCast',ht,hf,Bool.not_false,cond_true]⟩⟩
   | true=>
    obtain ⟨q,rs,e1,hq,hr⟩:=(D3 j hjN).2 cq0
    have hql:=hGc.lt hq
    have hqb:=hGc _ _ hq
    rw [cq0] at hf
    generalize hev:ev j = r0 at *
    obtain ⟨v0,x0⟩:=r0
    obtain ⟨k0,m0,s0,l0,L0,hv,rfl,hL⟩:=hr.cells
    cases cq2:(x0 == 0) with
    | false=>
     simp only [cq2] at hf
     simp only [sB.1,qhZ,simprocAttr,-Int.reduceNatCast',ht,e0,e59,e60,e61,c1E,Id,Iw,y0,y1,y2,y3,hGR,hGb,D0,D1,m1,e1,d,z0,z1,cI,Option.map_some,hql,hqb,cq2] at he
     subst he
     exact .inr ⟨_,_,rfl,by simp,_,rfl,by simp only [qc,ht],.inr ⟨rfl,by simp only [sB.1,simprocAttr,-Int.reduceNatCast',ht,hf,Bool.not_false,Bool.not_true,cond_true,cond_false]⟩⟩
    | true=>
     simp only [cq2] at hf
     simp only [sB.1,qhZ,simprocAttr,-Int.reduceNatCast',ht,e0,e59,e60,e61,c1E,Id,Iw,y0,y1,y2,y3,hGR,hGb,D0,D1,m1,e1,d,z0,z1,cI,Option.map_some,hql,hqb,cq2,w] at he
     subst he
     refine .inl ⟨_,k - 1,rfl,by omega,_,a + 1,rfl,by simp only [qc,ht],?_,?_,?_,?_,by omega,hf⟩
     all_goals simp only [sB.1,simprocAttr,-Int.reduceNatCast',ht,e0,e59,e60,e61,Id,Iw,w]
  ·have c1E:ilt (a:Int) (ins.length:Int) = false:=by rw [qf];simp;omega
   simp only [sB.1,qhZ,simprocAttr,-Int.reduceNatCast',ht,e60,e61,c1E] at he
   subst he
   rw [List.drop_eq_nil_of_le ha] at hf
   exact .inr ⟨_,_,rfl,by simp,_,rfl,by simp only [qc,ht],.inl ⟨rfl,hf⟩⟩
 generalize hw:Wd _ _ g = w
 rw [qr rfl (show T.get 25 = some c25 by kernel_rfl)] at hw
 simp only [sA.1,c25,simprocAttr,-Int.reduceNatCast',hR,hb,hlt,x1,x2,Id,Is,Iw,Il,d,st,hb0,cq23,cq24,cq25] at hw
 generalize hr:qm g.length Wd (.loop qhZ) _ = r at hw
 obtain ⟨x,st',rfl,tt,rfl,ht,⟨rfl,hf⟩ | ⟨rfl,e4⟩⟩:=qaB hr (loop ins.length _ ⟨_,0,by rw [hG],by simp only [sB.1,simprocAttr,-Int.reduceNatCast'],by simp only [sB.1,simprocAttr,-Int.reduceNatCast'],by simp only [sB.1,simprocAttr,-Int.reduceNatCast',Id],by simp only [sB.1,simprocAttr,-Int.reduceNatCast'],by simp only [sB.1,simprocAttr,-Int.reduceNatCast',Int.natCast_zero],by omega,rfl⟩)
 ·rw [hf]
  simp only [sB.1,simprocAttr,-Int.reduceNatCast',ht] at hw
  subst hw
  exact congrArg some (qH htk rfl)
 ·simp only [sB.1,simprocAttr,-Int.reduceNatCast',ht,e4] at hw
  subst hw
  exact congrArg some (qH htk rfl)
theorem Ins.cho {op:Int} {ins:List Int} {I:qa} (h:Ins H ins I) (hc:Cho op ins):∃id,I = .sl id 0 ins.length ins.length 1∧H id = some (.cells (ins.map cI)):=by
 rcases h with ⟨rfl,rfl⟩ | ⟨id,rfl,hid⟩
 ·rcases hc with ⟨_,a,b,c,e⟩ | ⟨_,a,b,e⟩ | ⟨_,a,b,e⟩ <;> cases e
 ·exact ⟨id,rfl,hid⟩
theorem qp3 (R D N:Nat) (dn:Int→Bool) (ev:Int→Res) (ns:List Nd) {TV VL BV OL:qa} {en ed:Int} (hR:R < g.length) (hb:g[R]? = some (.cells [TV,VL,BV,.int .i64 en,.int .i64 ed,OL,.sl D 0 N N 0])) (hg:Cov H g) (hT:qcJ H ns TV) (hD:qbE H g D N dn ev) (i:Nat) (hi:i < ns.length) (hc:Cho ns[i].op ns[i].ins) (hin:∀j ∈ ns[i].ins,0 ≤ j∧j < N) :
  Wd (.fn 25 [] []) [.ptr R 0,.int .i64 (i:Nat)] g = some (.ret (.int .i64 (qcA ns[i].op ns[i].ins dn ev)),g,false):=by
 obtain ⟨tid,I,hTV,hlt,x1,x2,hI⟩:=hT.item hi hg
 subst hTV
 obtain ⟨Id,Is,Iw,Il⟩:=hI.facts
 generalize ns[i] = nd at *
 obtain ⟨op,n,nm,sb,pl,ins⟩:=nd
 simp only at *
 obtain ⟨iid,rfl,hiid⟩:=hI.cho hc
 have hil:=hg.lt hiid
 have hib:=hg _ _ hiid
 have d:∀id o n c w:Nat,(qa.sl id o n c w).dim = .sl id o n c w:=fun _ _ _ _ _=>rfl
 have st:∀id o n c w:Nat,(qa.sl id o n c w).storable = true:=fun _ _ _ _ _=>rfl
 have dw:∀id o n c w i t,qx (qa.sl id o n c w) i t = t:=fun _ _ _ _ _ _ _=>rfl
 have hb0:Nat.ble g.length g.length = true:=qi (by omega)
 have z0:qgm 0 false .nilptr .nilptr = some (.bool true):=by kernel_rfl
 have z1:∀q,qgm 0 false (.ptr q 0) .nilptr = some (.bool false):=fun _=>by kernel_rfl
 obtain ⟨ds,D0,D1,D2,D3⟩:=hD
 have hch:qrC op = true∧(op == 23 || op == 24 || op == 25) = true:=by rcases hc with ⟨rfl,_⟩ | ⟨rfl,_⟩ | ⟨rfl,_⟩ <;> decide
 have cop:(op == 23) = true∨((op == 23) = false∧(op == 24) = true)∨((op == 23) = false∧(op == 24) = false∧(op == 25) = true):=by rcases hc with ⟨rfl,_⟩ | ⟨rfl,_⟩ | ⟨rfl,_⟩ <;> decide
 obtain ⟨i0,hi0,hiN,hmem⟩ :∃i:Nat,ins.getD 0 0 = (i:Int)∧i < N∧(ins.map cI)[0]? = some (cI (i:Int)):=by
  rcases hc with ⟨_,a,b,c,rfl⟩ | ⟨_,a,b,rfl⟩ | ⟨_,a,b,rfl⟩ <;>
  ·have:=hin a (by simp)
   refine ⟨a.toNat,?_,by omega,?_⟩
   ·simp;omega
   ·simp only [List.map_cons,List.getElem?_cons_zero,cI]
    rw [Int.toNat_of_nonneg this.1]
 have hins:0 < ins.length:=by rcases hc with ⟨_,a,b,c,rfl⟩ | ⟨_,a,b,rfl⟩ | ⟨_,a,b,rfl⟩ <;> simp
 have m0:qav 1 (.sl iid 0 ins.length ins.length 1) (.int .i64 0) = some (.ptr iid 0):=qcf (i:=0) (k:=1) hins
 have mD:∀i:Nat,i < N→qav 1 (.sl D 0 N N 0) (.int .i64 (i:Nat)) = some (.ptr D i):=fun i h=>by rw [qcf h,Nat.mul_one]
 have mD0:=mD i0 hiN
 rw [qcA,hch.1,cond_true]
 simp only [hi0]
 cases cq0:dn (i0:Int) with
 | false=>
  have e0:=(D3 i0 hiN).1 cq0
  rw [Bool.not_false,cond_true]
  rw [qr rfl (show T.get 25 = some c25 by kernel_rfl)]
  rcases cop with k1 | ⟨k1,k2⟩ | ⟨k1,k2,k3⟩
  ·simp only [sA.1,c25,simprocAttr,-Int.reduceNatCast',hR,hb,hlt,x1,x2,d,st,dw,hb0,k1,hil,hib,D0,D1,m0,hmem,mD0,e0,z0,z1,cI,Option.map_some]
  ·simp only [sA.1,c25,simprocAttr,-Int.reduceNatCast',hR,hb,hlt,x1,x2,d,st,dw,hb0,k1,k2,hil,hib,D0,D1,m0,hmem,mD0,e0,z0,z1,cI,Option.map_some]
  ·simp only [sA.1,c25,simprocAttr,-Int.reduceNatCast',hR,hb,hlt,x1,x2,d,st,dw,hb0,k1,k2,k3,hil,hib,D0,D1,m0,hmem,mD0,e0,z0,z1,cI,Option.map_some]
 | true=>
  obtain ⟨q0,rs0,e0,hq0,hr0⟩:=(D3 i0 hiN).2 cq0
  have hq0l:=hg.lt hq0
  have hq0b:=hg _ _ hq0
  rw [Bool.not_true,cond_false]
  generalize hev:ev i0 = r0 at *
  obtain ⟨v0,x0⟩:=r0
  obtain ⟨k,m,s,l,L,hv,rfl,hL⟩:=hr0.cells
  obtain ⟨Ld,Ls,Lw,Ll⟩:=hL.facts
  have Llo:=hL.low hg
  simp only at hv
  subst hv
  have hsec:=qis (g:=g ++ [.cells [.int .i64 op,.int .i64 n,.str nm,.str sb,.int .i64 pl,.sl iid 0 ins.length ins.length 1]]) (.ptr R 0) op n nm sb pl iid ins hc (by simp;omega) (by rw [List.getElem?_append_left hil];exact hib) k m s L x0 Ld Ls l rfl
  have hsm:=qcy hc (.mk k m s l,x0)
  generalize qaz op ins (.mk k m s l,x0) = sc at *
  cases cq1:ile 0 sc with
  | false=>
   rw [Bool.false_and,cond_false]
   rw [qr rfl (show T.get 25 = some c25 by kernel_rfl)]
   rcases cop with k1 | ⟨k1,k2⟩ | ⟨k1,k2,k3⟩
   ·simp only [sA.1,c25,simprocAttr,-Int.reduceNatCast',hR,hb,hlt,x1,x2,d,st,dw,hb0,k1,hil,hib,D0,D1,m0,hmem,mD0,e0,z0,z1,cI,hq0l,hq0b,Ld,Ls,Lw,hsec,cq1,Option.map_some]
   ·simp only [sA.1,c25,simprocAttr,-Int.reduceNatCast',hR,hb,hlt,x1,x2,d,st,dw,hb0,k1,k2,hil,hib,D0,D1,m0,hmem,mD0,e0,z0,z1,cI,hq0l,hq0b,Ld,Ls,Lw,hsec,cq1,Option.map_some]
   ·simp only [sA.1,c25,simprocAttr,-Int.reduceNatCast',hR,hb,hlt,x1,x2,d,st,dw,hb0,k1,k2,k3,hil,hib,D0,D1,m0,hmem,mD0,e0,z0,z1,cI,hq0l,hq0b,Ld,Ls,Lw,hsec,cq1,Option.map_some]
  | true=>
   have hs0:0 ≤ sc:=by rw [qaw] at cq1;simpa using cq1
   have hsm:sc ∈ ins:=by
    rcases hsm with e | e
    ·omega
    ·exact e
   obtain ⟨i1,rfl⟩ :∃i:Nat,sc = (i:Int):=⟨sc.toNat,by omega⟩
   have hi1:i1 < N:=by have:=hin _ hsm;omega
   have mD1:=mD i1 hi1
   rw [Bool.true_and]
   have hz:∃p,ds[i1]? = some p∧p.dim = p∧(∀i t,qx p i t = t)∧qgm 0 false p .nilptr = some (.bool (!(dn (i1:Int)))):=by
    cases cq2:dn (i1:Int) with
    | false=>exact ⟨_,(D3 i1 hi1).1 cq2,rfl,fun _ _=>rfl,by kernel_rfl⟩
    | true=>
     obtain ⟨q,rs,e,_⟩:=(D3 i1 hi1).2 cq2
     exact ⟨_,e,rfl,fun _ _=>rfl,z1 q⟩
   obtain ⟨p,e1,pd,pw,pz⟩:=hz
   generalize dn (i1:Int) = b at *
   rw [qr rfl (show T.get 25 = some c25 by kernel_rfl)]
   have k2:=True.intro
   have k3:=True.intro
   rcases cop with k1 | ⟨k1,k2⟩ | ⟨k1,k2,k3⟩ <;> cases b <;>
   simp only [sA.1,c25,simprocAttr,-Int.reduceNatCast',hR,hb,hlt,x1,x2,d,st,dw,hb0,k1,k2,k3,hil,hib,D0,D1,m0,hmem,mD0,mD1,e0,e1,pd,pw,pz,z0,z1,cI,hq0l,hq0b,Ld,Ls,Lw,hsec,cq1,Option.map_some,Bool.not_false,Bool.not_true,cond_true,cond_false]
end
end Go.Proofs.YtnibchoenjmmjaaGreatDoor.AE
