/- Proved: part 11. No condition. -/
import Derived.Test.YtnibchoenjmmjaaGreatDoorMt9
import Derived.Test.YtnibchoenjmmjaaGreatDoorMt7
set_option maxRecDepth 100000
set_option maxHeartbeats 0
open List renaming getElem?_append_left→ja,getElem?_eq_some_iff→je,take_append_of_le_length→j5,getElem?_set_ne→jg,getElem?_set_self→jh,drop_eq_getElem_cons→jX,getElem?_eq_getElem→ji,length_append→jj,length_map→j6,append_assoc→jr,append_nil→jK,map_append→Ja,getElem?_map→ju,length_cons→jD,length_nil→jE,mem_map→jU
open Nat renaming le_refl→jo,le_of_ble_eq_true→j9
open Bool renaming not_false→j3,or_false→jR,or_true→j7,eq_false_iff→Jb
namespace Go.Proofs.YtnibchoenjmmjaaGreatDoor.AE
open Go.AE
structure Vr where
 ta:Str
 nm:Str
 k:Int
 L:List qa
structure Pt where
 nm:Str
 k:Int
 L:List qa
def vrR (v:Vr):List qa:=[.str v.ta,.str v.nm,.int .i64 v.k,.lst v.L .no]
def ptV (p:Pt):qa:=.agg [.str p.nm,.int .i64 p.k,.lst p.L .no]
def pos:List Str->Str->Nat->Int
 | [],_,_=>-1
 | x :: l,s,i=>bif x == s then (i:Int) else pos l s (i + 1)
theorem qdf (v:Vr):qbY (vrR v):=by
 intro c hc
 simp only [vrR,List.mem_cons,List.not_mem_nil,or_false] at hc
 rcases hc with rfl | rfl | rfl | rfl <;> exact ⟨rfl,rfl⟩
theorem qnQ:∀vs:List Vr,qbY (vs.map vrR).flatten:=by
 intro vs c hc
 obtain ⟨l,hl,hc⟩:=List.mem_flatten.1 hc
 obtain ⟨v,_,rfl⟩:=jU.1 hl
 exact qdf v c hc
theorem qju (vs:List Vr):∀v ∈ vs.map vrR,v.length = 4:=λv hv=>by
 obtain ⟨x,_,rfl⟩:=jU.1 hv
 rfl
def qit (h:List qb) (vs:List Vr) (V:qa):Prop:=(vs = []/\V = .lst [] .full)\/∃id,V = .sl id 0 vs.length vs.length 4/\h[id]? = some (.cells (vs.map vrR).flatten)
section
variable {h:List qb}
theorem qlJ (t:List qa) (f:FuncId) (a b:List qh):pureV t (.mkF f a b) = some (.fn f (a.map (ev t)) (b.map (ev t))):=rfl
theorem qjH (y:Vr) {b:Nat} {s:Str} {H:List qb} (hb:H[b]? = some (.cells [.str s])):Wd (.fn 102 [] [.ptr b 0]) [.agg [.str y.ta,.str y.nm,.int .i64 y.k,.lst y.L .no]] H = some (.ret (.bool (y.nm == s)),H,false):=by
 have B:∀X,(H ++ X)[b]? = some (.cells [.str s]):=λX=>by rw [ja (je.1 hb).1];exact hb
 rw [qi 102 qB9]
 simp only [sB.1,qB9,seval,B]
theorem qjG (vs:List Vr) (V:qa) (hV:qit h vs V) (s:Str) (hl:vs.length <= 100000) {b:Nat} (hb:h[b]? = some (.cells [.str s])):Wd (.fn 101 [] []) [V,.fn 102 [] [.ptr b 0]] h = some (.ret (.int .i64 (pos (vs.map (·.nm)) s 0)),h,false):=by
 have S:V.dim = V:=by rcases hV with ⟨_,rfl⟩ | ⟨id,rfl,_⟩ <;> rfl
 have J:∀i t,qo V i t = t:=by rcases hV with ⟨_,rfl⟩ | ⟨id,rfl,_⟩ <;> exact λ_ _=>rfl
 have M:qbG false V = some (.int .i64 (vs.length:Nat)):=by rcases hV with ⟨rfl,rfl⟩ | ⟨id,rfl,_⟩ <;> rfl
 have loop:∀q st,(∃(tt:List qa) (G:List qb) (i:Nat),st = ⟨tt,G,false⟩/\tt.length = 19/\G.take h.length = h/\h.length <= G.length/\lkp tt 1 = .fn 102 [] [.ptr b 0]/\lkp tt 7 = V/\lkp tt 8 = .int .i64 (vs.length:Nat)/\lkp tt 9 = .int .i64 (i:Nat)/\i + q = vs.length/\pos ((vs.map (·.nm)).drop i) s i = pos (vs.map (·.nm)) s 0)->
   ∃x U,qm h.length Wd (.loop qgG) st = some (x,U)/\(∃(tt:List qa) (G:List qb),U = ⟨tt,G,false⟩/\tt.length = 19/\G.take h.length = h/\((x = .exit 0/\pos (vs.map (·.nm)) s 0 = -1)\/(x = .ret/\lkp tt 4 = .int .i64 (pos (vs.map (·.nm)) s 0)))):=by
  refine qy _ _ ?_
  rintro q st ⟨tt,G,i,rfl,ht,E,a1,e1,e7,e8,e9,aa,hR⟩
  generalize he:qm h.length Wd qgG _ = r
  rcases Nat.lt_or_ge i vs.length with hi | hi
  ·have c1:ilt (i:Int) (vs.length:Int) = true:=qzW zo
   have w:=qag (n:=i) zo
   have a8:i < (vs.map (·.nm)).length:=by simpa using hi
   obtain ⟨id,ho,hx,B⟩ :∃id,G[id]? = some (.cells (vs.map vrR).flatten)/\qaW 4 V (.int .i64 (i:Nat)) = some (.ptr id (i * 4))/\Go.AE.cut (vs.map vrR).flatten (i * 4) (some 4) = some (.agg (vrR vs[i])):=by
    rcases hV with ⟨rfl,_⟩ | ⟨id,rfl,hid⟩
    ·simp at hi
    ·refine ⟨id,?_,qcC hi,?_⟩
     ·rw [<-E,List.getElem?_take] at hid
      split at hid
      ·exact hid
      ·cases hid
     ·rw [qdS (qju vs) (by simpa using hi) (by rw [List.getElem_map];exact λc hc=>(qdf _ c hc).1),List.getElem_map]
   have a7:G[b]? = some (.cells [.str s]):=by
    rw [<-E,List.getElem?_take] at hb
    split at hb
    ·exact hb
    ·cases hb
   rw [jX a8,pos,List.getElem_map] at hR
   generalize vs[i] = y at hx hR B
   have hp:=qjH y (H:=G ++ [.cells [.str y.ta,.str y.nm,.int .i64 y.k,.lst y.L .no]]) (b:=b) (s:=s) (by rw [ja (je.1 a7).1];exact a7)
   have a6:Nat.ble h.length G.length = true:=qe a1
   rw [vrR] at B
   cases I:(y.nm == s) with
   | true=>
    rw [I,cond_true] at hR
    rw [I] at hp
    simp only [sB.1,qgG,seval,ht,e1,e7,e8,e9,c1,hx,w,hp,a6,S,J,M,ho,B] at he
    subst he
    refine .inr ⟨_,_,rfl,by simp,_,_,rfl,?_,?_,.inr ⟨rfl,?_⟩⟩
    ·simp only [qbf,ht]
    ·rw [j5 a1,E]
    ·rw [<-hR]
     simp only [sB.1,seval,ht]
   | false=>
    rw [I,cond_false] at hR
    rw [I] at hp
    simp only [sB.1,qgG,seval,ht,e1,e7,e8,e9,c1,hx,w,hp,a6,S,J,M,ho,B] at he
    subst he
    refine .inl ⟨_,q - 1,rfl,zo,_,_,i + 1,rfl,?_,?_,?_,?_,?_,?_,?_,zo,hR⟩
    ·simp only [qbf,ht]
    ·rw [j5 a1,E]
    ·simp;omega
    ·simp only [sB.1,seval,ht,e1]
    ·simp only [sB.1,seval,ht,e7]
    ·simp only [sB.1,seval,ht,e8]
    ·simp only [sB.1,seval,ht]
  ·have c1:ilt (i:Int) (vs.length:Int) = false:=qzV zo
   rw [List.drop_eq_nil_of_le (by simpa using hi),pos] at hR
   simp only [sB.1,qgG,seval,ht,e1,e7,e8,e9,c1] at he
   subst he
   exact .inr ⟨_,_,rfl,by simp,_,_,rfl,Y0,E,.inl ⟨rfl,hR.symm⟩⟩
 generalize hw:Wd _ _ h = w
 rw [qi 101 qB8] at hw
 simp only [sB.1,qB8,seval,S,J,M] at hw
 generalize hr:qm h.length Wd (.loop qgG) _ = r at hw
 obtain ⟨x,U,rfl,tt,G,rfl,ht,hG,hq⟩:=known hr (loop vs.length _ ⟨_,_,0,rfl,X1,by simp,by simp,X1,by simp only [sB.1,seval,S,J,M],X1,X2,zo,rfl⟩)
 rcases hq with ⟨rfl,hp⟩ | ⟨rfl,e4⟩
 ·simp only [sB.1,seval,ht] at hw
  subst hw
  rw [hp]
  exact congrArg some (q6 hG rfl)
 ·simp only [sB.1,seval,ht,e4] at hw
  subst hw
  exact congrArg some (q6 hG rfl)
theorem qla (vs:List Vr) (V:qa) (hV:qit h vs V) (s:Str) (hl:vs.length <= 100000):Wd (.fn 74 [] []) [V,.str s] h = some (.ret (.int .i64 (pos (vs.map (·.nm)) s 0)),h,false):=by
 have E:V.dim = V:=by rcases hV with ⟨_,rfl⟩ | ⟨id,rfl,_⟩ <;> rfl
 have B:∀i t,qo V i t = t:=by rcases hV with ⟨_,rfl⟩ | ⟨id,rfl,_⟩ <;> exact λ_ _=>rfl
 have I:qbG false V = some (.int .i64 (vs.length:Nat)):=by rcases hV with ⟨rfl,rfl⟩ | ⟨id,rfl,_⟩ <;> rfl
 have hp:=qjG vs V (h:=h ++ [.cells [.str s]]) (by rcases hV with hV | ⟨id,e,hid⟩;exact .inl hV;exact .inr ⟨id,e,by rw [ja (je.1 hid).1];exact hid⟩) s hl (b:=h.length) (by rw [qF];rfl)
 rw [qi 74 c74]
 simp only [sB.1,c74,seval,qlJ,hp,E,B]
theorem qij (y:Pt) {b:Nat} {s:Str} {H:List qb} (hb:H[b]? = some (.cells [.str s])):Wd (.fn 104 [] [.ptr b 0]) [.agg [.str y.nm,.int .i64 y.k,.lst y.L .no]] H = some (.ret (.bool (y.nm == s)),H,false):=by
 have B:∀X,(H ++ X)[b]? = some (.cells [.str s]):=λX=>by rw [ja (je.1 hb).1];exact hb
 rw [qi 104 qCb]
 simp only [sB.1,qCb,seval,B]
theorem qii (vs:List Pt) (s:Str) (hl:vs.length <= 100000) {b:Nat} (hb:h[b]? = some (.cells [.str s])):Wd (.fn 103 [] []) [(.lst (vs.map ptV) .no),.fn 104 [] [.ptr b 0]] h = some (.ret (.int .i64 (pos (vs.map (·.nm)) s 0)),h,false):=by
 have loop:∀q st,(∃(tt:List qa) (G:List qb) (i:Nat),st = ⟨tt,G,false⟩/\tt.length = 19/\G.take h.length = h/\h.length <= G.length/\lkp tt 1 = .fn 104 [] [.ptr b 0]/\lkp tt 7 = (.lst (vs.map ptV) .no)/\lkp tt 8 = .int .i64 (vs.length:Nat)/\lkp tt 9 = .int .i64 (i:Nat)/\i + q = vs.length/\pos ((vs.map (·.nm)).drop i) s i = pos (vs.map (·.nm)) s 0)->
   ∃x I,qm h.length Wd (.loop qgH) st = some (x,I)/\(∃(tt:List qa) (G:List qb),I = ⟨tt,G,false⟩/\tt.length = 19/\G.take h.length = h/\((x = .exit 0/\pos (vs.map (·.nm)) s 0 = -1)\/(x = .ret/\lkp tt 4 = .int .i64 (pos (vs.map (·.nm)) s 0)))):=by
  refine qy _ _ ?_
  rintro q st ⟨tt,G,i,rfl,ht,E,J,e1,e7,e8,e9,a1,hR⟩
  generalize he:qm h.length Wd qgH _ = r
  rcases Nat.lt_or_ge i vs.length with hi | hi
  ·have c1:ilt (i:Int) (vs.length:Int) = true:=qzW zo
   have w:=qag (n:=i) zo
   have U:i < (vs.map (·.nm)).length:=by simpa using hi
   have hg:(vs.map ptV)[i]? = some (ptV vs[i]):=by rw [ju,ji hi];rfl
   have hx:qaW 3 (.lst (vs.map ptV) .no) (.int .i64 (i:Nat)) = some (.iptr [.str vs[i].nm,.int .i64 vs[i].k,.lst vs[i].L .no] 0):=qbl hg rfl
   have S:G[b]? = some (.cells [.str s]):=by
    rw [<-E,List.getElem?_take] at hb
    split at hb
    ·exact hb
    ·cases hb
   rw [jX U,pos,List.getElem_map] at hR
   generalize vs[i] = y at hx hR hg
   have hp:=qij y (H:=G ++ [.cells [.str y.nm,.int .i64 y.k,.lst y.L .no]]) (b:=b) (s:=s) (by rw [ja (je.1 S).1];exact S)
   have M:Nat.ble h.length G.length = true:=qe J
   skip
   cases B:(y.nm == s) with
   | true=>
    rw [B,cond_true] at hR
    rw [B] at hp
    simp only [sB.1,qgH,seval,ht,e1,e7,e8,e9,c1,hx,w,hp,M,j6] at he
    subst he
    refine .inr ⟨_,_,rfl,by simp,_,_,rfl,?_,?_,.inr ⟨rfl,?_⟩⟩
    ·simp only [qbf,ht]
    ·rw [j5 J,E]
    ·rw [<-hR]
     simp only [sB.1,seval,ht]
   | false=>
    rw [B,cond_false] at hR
    rw [B] at hp
    simp only [sB.1,qgH,seval,ht,e1,e7,e8,e9,c1,hx,w,hp,M,j6] at he
    subst he
    refine .inl ⟨_,q - 1,rfl,zo,_,_,i + 1,rfl,?_,?_,?_,?_,?_,?_,?_,zo,hR⟩
    ·simp only [qbf,ht]
    ·rw [j5 J,E]
    ·simp;omega
    ·simp only [sB.1,seval,ht,e1]
    ·simp only [sB.1,seval,ht,e7]
    ·simp only [sB.1,seval,ht,e8]
    ·simp only [sB.1,seval,ht]
  ·have c1:ilt (i:Int) (vs.length:Int) = false:=qzV zo
   rw [List.drop_eq_nil_of_le (by simpa using hi),pos] at hR
   simp only [sB.1,qgH,seval,ht,e1,e7,e8,e9,c1] at he
   subst he
   exact .inr ⟨_,_,rfl,by simp,_,_,rfl,Y0,E,.inl ⟨rfl,hR.symm⟩⟩
 generalize hw:Wd _ _ h = w
 rw [qi 103 qCa] at hw
 simp only [sB.1,qCa,seval,j6] at hw
 generalize hr:qm h.length Wd (.loop qgH) _ = r at hw
 obtain ⟨x,I,rfl,tt,G,rfl,ht,hG,hq⟩:=known hr (loop vs.length _ ⟨_,_,0,rfl,X1,by simp,by simp,X1,by simp only [sB.1,seval,j6],X1,X2,zo,rfl⟩)
 rcases hq with ⟨rfl,hp⟩ | ⟨rfl,e4⟩
 ·simp only [sB.1,seval,ht] at hw
  subst hw
  rw [hp]
  exact congrArg some (q6 hG rfl)
 ·simp only [sB.1,seval,ht,e4] at hw
  subst hw
  exact congrArg some (q6 hG rfl)
theorem qjq (vs:List Pt) (s:Str) (hl:vs.length <= 100000):Wd (.fn 75 [] []) [(.lst (vs.map ptV) .no),.str s] h = some (.ret (.int .i64 (pos (vs.map (·.nm)) s 0)),h,false):=by
 have hp:=qii vs (h:=h ++ [.cells [.str s]]) s hl (b:=h.length) (by rw [qF];rfl)
 rw [qi 75 c75]
 simp only [sB.1,c75,seval,qlJ,hp]
end
theorem qbr (t z:List qa) (ps:List (Nat×Nat×qh)):pureV t (.build z ps) = (q8 z (ps.map λ(o,s,x)=>(o,s,ev t x))).map .agg:=rfl
def VS (h:List qb) (b:Nat) (vs:List Vr) (n:Nat) (V:qa):Prop:=(n = 0/\V = .lst [] .full)\/∃id,V = .sl id 0 n n 4/\b <= id/\0 < n/\h[id]? = some (.cells ((vs.take n).map vrR).flatten)
theorem VS.facts {h:List qb} {b n:Nat} {vs:List Vr} {V:qa} (hV:VS h b vs n V):V.dim = V/\∀i t,qo V i t = t:=by
 rcases hV with ⟨_,rfl⟩ | ⟨id,rfl,_⟩ <;> exact ⟨rfl,λ_ _=>rfl⟩
theorem VS.next {h:List qb} {b n base:Nat} {vs:List Vr} {V:qa} (hV:VS h b vs n V) (hb:b <= h.length) (hn:n < vs.length) (hl:vs.length <= 100000) :
  ∃V' h',hop base (.app 4) [V,.sl h.length 0 1 1 0] (h ++ [.cells (vrR vs[n])]) = some (V',h',false)/\VS h' b vs (n + 1) V'/\h'.take b = h.take b/\b <= h'.length:=by
 have h2:(h ++ [qb.cells (vrR vs[n])])[h.length]? = some (.cells (vrR vs[n])):=by rw [qF];rfl
 have ht:((vs.take (n + 1)).map vrR).flatten = ((vs.take n).map vrR).flatten ++ vrR vs[n]:=by
  rw [List.take_succ_eq_append_getElem hn,Ja,List.flatten_append]
  simp only [List.map_cons,List.map_nil,List.flatten_cons,List.flatten_nil,jK]
 rcases hV with ⟨rfl,rfl⟩ | ⟨id,rfl,hid,h0,hi⟩
 ·refine ⟨_,_,qct h2 rfl (qdf _),.inr ⟨_,rfl,by simp;omega,zo,?_⟩,?_,by simp;omega⟩
  ·rw [qF,ht]
   simp
  ·rw [jr,j5 hb]
 ·have hlt:id < h.length:=(je.1 hi).1
  have B:(h ++ [qb.cells (vrR vs[n])])[id]? = some (.cells ((vs.take n).map vrR).flatten):=by rw [ja hlt];exact hi
  have hc:(((vs.take n).map vrR).flatten).length = n * 4:=by rw [qdl (qju _),j6,List.length_take,Nat.min_eq_left zo]
  refine ⟨_,_,qdj B h2 rfl hc (qdf _) (qnQ _) zo zo,.inr ⟨_,rfl,by simp;omega,zo,?_⟩,?_,by simp;omega⟩
  ·rw [show (h ++ [qb.cells (vrR vs[n])]).length = ((h ++ [qb.cells (vrR vs[n])]).set id .dead).length by simp,qF,ht]
   rfl
  ·rw [j5 (by simp;omega),List.take_set_of_le zo,j5 hb]
structure Nd where
 op:Int
 n:Int
 nm:Str
 sb:Str
 pl:Int
 ins:List Int
section
variable (vn pn:List Str)
def fin (op n:Int) (nm sb:Str) (ins:List Int):Nd:=
 bif op == 3 then ⟨op,n,nm,[],0,ins⟩ else
 bif op == 4 then ⟨op,n,[],[],pos vn nm 0,ins⟩ else
 bif op == 5 then ⟨op,n,nm,sb,0,ins⟩ else
 bif op == 7 then ⟨op,n,[],[],pos pn nm 0,ins⟩ else
 bif op == 8 then ⟨op,n,[],[],pos pn nm 0,ins⟩ else
 bif op == 9 then ⟨op,n,[],[],pos pn nm 0,ins⟩ else
 bif op == 10 then ⟨op,n,[],[],pos pn nm 0,ins⟩ else ⟨op,n,[],[],0,ins⟩
def qbp (f:Nat->Exl->List Nd) (b:Nat):List Exl->List Nd->List Int->List Nd×List Int
 | [],out,ins=>(out,ins)
 | a :: aS,out,ins=>qbp f b aS (out ++ f (b + out.length) a) (ins ++ [((b + (out ++ f (b + out.length) a).length:Nat):Int) - 1])
def low:Nat->Nat->Exl->List Nd
 | 0,_,_=>[]
 | d + 1,b,.mk op n nm sb aS=>(qbp (low d) b aS [] []).1 ++ [fin vn pn op n nm sb (qbp (low d) b aS [] []).2]
end
def sz:Nat->Exl->Nat
 | 0,_=>0
 | d + 1,.mk _ _ _ _ aS=>1 + (aS.map (sz d)).sum
theorem qhw {vn pn:List Str} {d:Nat} (hd:∀b e,(low vn pn d b e).length = sz d e) (b:Nat):∀(aS:List Exl) (out:List Nd) (ins:List Int),(qbp (low vn pn d) b aS out ins).1.length = out.length + (aS.map (sz d)).sum
 | [],out,ins=>by rw [qbp];simp
 | a :: aS,out,ins=>by
  rw [qbp,qhw hd b aS]
  simp [hd]
  omega
theorem qkH {vn pn:List Str}:∀(d b:Nat) (e:Exl),(low vn pn d b e).length = sz d e
 | 0,_,_=>rfl
 | d + 1,b,.mk op n nm sb aS=>by
  rw [low,sz,jj,qhw (qkH d)]
  simp
  omega
theorem qwq {f g:Exl->Nat} (h:∀e,f e <= g e):∀aS:List Exl,(aS.map f).sum <= (aS.map g).sum
 | []=>jo _
 | a :: aS=>by
  have:=qwq h aS
  have:=h a
  simp
  omega
theorem qst:∀(d:Nat) (e:Exl),sz d e <= sz (d + 1) e
 | 0,e=>by rw [sz];omega
 | d + 1,.mk op n nm sb aS=>by
  rw [sz,sz]
  have:=qwq (qst d) aS
  omega
theorem qk5 (d:Nat) (e:Exl):∀k,sz d e <= sz (d + k) e
 | 0=>jo _
 | k + 1=>Nat.le_trans (qk5 d e k) (qst (d + k) e)
def Ins (H:Nat->Option qb) (ins:List Int) (I:qa):Prop:=(ins = []/\I = .lst [] .full)\/∃id,I = .sl id 0 ins.length ins.length 1/\H id = some (.cells (ins.map (.int .i64)))
def qjO (H:Nat->Option qb) (x:Nd) (r:List qa):Prop:=∃I,r = [.int .i64 x.op,.int .i64 x.n,.str x.nm,.str x.sb,.int .i64 x.pl,I]/\Ins H x.ins I
def Rows (H:Nat->Option qb):List Nd->List (List qa)->Prop
 | [],[]=>True
 | x :: ns,r :: rs=>qjO H x r/\Rows H ns rs
 | _,_=>False
theorem Ins.mono {H H':Nat->Option qb} (hs:Sub H H') {ins:List Int} {I:qa} (h:Ins H ins I):Ins H' ins I:=by
 rcases h with h | ⟨id,e,hi⟩
 ·exact .inl h
 ·exact .inr ⟨id,e,hs _ _ hi⟩
theorem Ins.facts {H:Nat->Option qb} {ins:List Int} {I:qa} (h:Ins H ins I):I.dim = I/\I.storable = true/\(∀i t,qo I i t = t)/\qbG false I = some (.int .i64 (ins.length:Nat)):=by
 rcases h with ⟨rfl,rfl⟩ | ⟨id,rfl,_⟩ <;> exact ⟨rfl,rfl,λ_ _=>rfl,rfl⟩
theorem Rows.mono {H H':Nat->Option qb} (hs:Sub H H'):∀{ns:List Nd} {rs:List (List qa)},Rows H ns rs->Rows H' ns rs
 | [],[],_=>trivial
 | _ :: _,_ :: _,⟨⟨I,e,hI⟩,h⟩=>⟨⟨I,e,hI.mono hs⟩,h.mono hs⟩
theorem Rows.snoc {H:Nat->Option qb} {x:Nd} {r:List qa} (hr:qjO H x r):∀{ns:List Nd} {rs:List (List qa)},Rows H ns rs->Rows H (ns ++ [x]) (rs ++ [r])
 | [],[],_=>⟨hr,trivial⟩
 | _ :: _,_ :: _,⟨h1,h⟩=>⟨h1,h.snoc hr⟩
theorem Rows.length {H:Nat->Option qb}:∀{ns:List Nd} {rs:List (List qa)},Rows H ns rs->rs.length = ns.length
 | [],[],_=>rfl
 | _ :: _,_ :: _,⟨_,h⟩=>by rw [jD,jD,h.length]
theorem qjO.six {H:Nat->Option qb} {x:Nd} {r:List qa} (h:qjO H x r):r.length = 6/\qbY r:=by
 obtain ⟨I,rfl,hI⟩:=h
 obtain ⟨a,b,_⟩:=hI.facts
 refine ⟨rfl,λc hc=>?_⟩
 simp only [List.mem_cons,List.not_mem_nil,or_false] at hc
 rcases hc with rfl | rfl | rfl | rfl | rfl | rfl <;> first | exact ⟨rfl,rfl⟩ | exact ⟨a,b⟩
theorem Rows.six {H:Nat->Option qb}:∀{ns:List Nd} {rs:List (List qa)},Rows H ns rs->∀r ∈ rs,r.length = 6/\qbY r
 | [],[],_,_,hr=>nomatch hr
 | _ :: _,_ :: _,⟨h1,h⟩,r,hr=>by
  rcases List.mem_cons.1 hr with rfl | hr
  ·exact h1.six
  ·exact h.six r hr
theorem Rows.still {H:Nat->Option qb} {ns:List Nd} {rs:List (List qa)} (h:Rows H ns rs):qbY rs.flatten:=λc hc=>by
 obtain ⟨r,hr,hc⟩:=List.mem_flatten.1 hc
 exact (h.six r hr).2 c hc
theorem Rows.len {H:Nat->Option qb} {ns:List Nd} {rs:List (List qa)} (h:Rows H ns rs):rs.flatten.length = ns.length * 6:=by
 rw [qdl λr hr=>(h.six r hr).1,h.length]
theorem Rows.get {H:Nat->Option qb}:∀{ns:List Nd} {rs:List (List qa)},Rows H ns rs->∀i (h1:i < ns.length) (h2:i < rs.length),qjO H ns[i] rs[i]
 | _ :: _,_ :: _,⟨h,_⟩,0,_,_=>h
 | _ :: _,_ :: _,⟨_,h⟩,i + 1,h1,h2=>h.get i (by simpa using h1) (by simpa using h2)
def Tab (H:Nat->Option qb) (g:List qb) (t:Nat) (ns:List Nd) (V:qa):Prop:=Cov H g/\H t = none/\((ns = []/\V = .lst [] .full)\/∃rs,V = .sl t 0 ns.length ns.length 6/\ns ≠ []/\g[t]? = some (.cells rs.flatten)/\Rows H ns rs)
theorem Tab.facts {H:Nat->Option qb} {g:List qb} {t:Nat} {ns:List Nd} {V:qa} (h:Tab H g t ns V):V.dim = V/\V.storable = true/\(∀i t,qo V i t = t)/\qbG false V = some (.int .i64 (ns.length:Nat)):=by
 rcases h with ⟨_,_,⟨rfl,rfl⟩ | ⟨rs,rfl,_⟩⟩ <;> exact ⟨rfl,rfl,λ_ _=>rfl,rfl⟩
theorem qum {base:Nat} {H:Nat->Option qb} {g:List qb} {ins:List Int} {I:qa} {id:Nat} (hl:ins.length <= 100000) (x:Int)
  (hI:(ins = []/\I = .lst [] .full)\/(I = .sl id 0 ins.length ins.length 1/\ins ≠ []/\g[id]? = some (.cells (ins.map (.int .i64))))) :
  ∃g',hop base (.app 1) [I,.sl g.length 0 1 1 0] (g ++ [.cells [.int .i64 x]]) = some (.sl (g.length + 1) 0 (ins ++ [x]).length (ins ++ [x]).length 1,g',false)/\g'.length = g.length + 2/\(∀i,i < g.length->(ins ≠ []->i ≠ id)->g'[i]? = g[i]?)/\g'[g.length + 1]? = some (.cells ((ins ++ [x]).map (.int .i64))):=by
 have E:∀l:List Int,qbY (l.map (.int .i64)):=λl c hc=>by
  obtain ⟨y,_,rfl⟩:=jU.1 hc
  exact ⟨rfl,rfl⟩
 have h2:(g ++ [qb.cells [.int .i64 x]])[g.length]? = some (.cells ([x].map (.int .i64))):=by rw [qF];rfl
 have B:(g ++ [qb.cells [.int .i64 x]]).length = g.length + 1:=by simp
 rcases hI with ⟨rfl,rfl⟩ | ⟨rfl,M,hid⟩
 ·refine ⟨_,by rw [qct (k:=1) h2 rfl (E _),B];rfl,by simp,λi hi _=>?_,?_⟩
  ·rw [jr,ja hi]
  ·rw [<-B,qF]
   rfl
 ·have hlt:id < g.length:=(je.1 hid).1
  have h1:(g ++ [qb.cells [.int .i64 x]])[id]? = some (.cells (ins.map (.int .i64))):=by rw [ja hlt];exact hid
  refine ⟨_,by rw [qdj (k:=1) h1 h2 rfl (by simp) (E _) (E _) hl zo,B,jj];rfl,by simp,λi hi J=>?_,?_⟩
  ·rw [ja (by simp;omega),jg (λe=>J M e.symm),ja hi]
  ·rw [show g.length + 1 = ((g ++ [qb.cells [.int .i64 x]]).set id .dead).length by simp,qF,Ja]
   rfl
theorem qvu {base:Nat} {H:Nat->Option qb} {g:List qb} {t:Nat} {ns:List Nd} {V:qa} (hT:Tab H g t ns V) (hl:ns.length <= 100000) {x:Nd} {r:List qa} (hr:qjO H x r) :
  ∃g',hop base (.app 6) [V,.sl g.length 0 1 1 0] (g ++ [.cells r]) = some (.sl (g.length + 1) 0 (ns ++ [x]).length (ns ++ [x]).length 6,g',false)/\g'.length = g.length + 2/\(∀i,i < g.length->(ns ≠ []->i ≠ t)->g'[i]? = g[i]?)/\Tab H g' (g.length + 1) (ns ++ [x]) (.sl (g.length + 1) 0 (ns ++ [x]).length (ns ++ [x]).length 6):=by
 obtain ⟨hC,ht,hT⟩:=hT
 obtain ⟨J,I⟩:=hr.six
 have h2:(g ++ [qb.cells r])[g.length]? = some (.cells r):=by rw [qF];rfl
 have B:(g ++ [qb.cells r]).length = g.length + 1:=by simp
 have E:H (g.length + 1) = none:=hC.late zo
 rcases hT with ⟨rfl,rfl⟩ | ⟨rs,rfl,S,hid,hR⟩
 ·refine ⟨_,by rw [qct h2 J I,B];rfl,by simp,λi hi _=>?_,(hC.more _).more _,E,.inr ⟨[r],rfl,by simp,?_,hr,trivial⟩⟩
  ·rw [jr,ja hi]
  ·rw [<-B,qF]
   simp
 ·have hlt:t < g.length:=(je.1 hid).1
  have h1:(g ++ [qb.cells r])[t]? = some (.cells rs.flatten):=by rw [ja hlt];exact hid
  refine ⟨_,by rw [qdj h1 h2 J hR.len I hR.still hl zo,B,jj];rfl,by simp,λi hi M=>?_,((hC.more _).set ht _).more _,E,.inr ⟨rs ++ [r],rfl,by simp,?_,hR.snoc hr⟩⟩
  ·rw [ja (by simp;omega),jg (λe=>M S e.symm),ja hi]
  ·rw [show g.length + 1 = ((g ++ [qb.cells r]).set t .dead).length by simp,qF]
   simp
theorem qc0 {n:Nat} (h:n ≠ 0) (v:qa) (H:List qb):qaU n (.ret v) H true = (.ret v,H,true):=by simp [qaU,h]
theorem qAl {a b:Nat} (h:b < a):Nat.ble a b = false:=Jb.2 λe=>by
 have:a <= b:=j9 e
 omega
def qhR (H:Nat->Option qb) (vs:List Vr) (V:qa):Prop:=(vs = []/\V = .lst [] .full)\/∃id,V = .sl id 0 vs.length vs.length 4/\H id = some (.cells (vs.map vrR).flatten)
theorem qhR.at {H:Nat->Option qb} {vs:List Vr} {V:qa} (h:qhR H vs V) {g:List qb} (hc:Cov H g):qit g vs V:=by
 rcases h with h | ⟨id,e,hi⟩
 ·exact .inl h
 ·exact .inr ⟨id,e,hc _ _ hi⟩
theorem qhR.facts {H:Nat->Option qb} {vs:List Vr} {V:qa} (h:qhR H vs V):V.dim = V/\V.storable = true/\∀i t,qo V i t = t:=by
 rcases h with ⟨_,rfl⟩ | ⟨id,rfl,_⟩ <;> exact ⟨rfl,rfl,λ_ _=>rfl⟩
theorem qhR.mono {H H':Nat->Option qb} (hs:Sub H H') {vs:List Vr} {V:qa} (h:qhR H vs V):qhR H' vs V:=by
 rcases h with h | ⟨id,e,hi⟩
 ·exact .inl h
 ·exact .inr ⟨id,e,hs _ _ hi⟩
structure Pre (vs:List Vr) (V P:qa) (L:Nat) (H:Nat->Option qb) (g:List qb) (t:Nat) (ns:List Nd) (Tb:qa):Prop where
 tab:Tab H g t ns Tb
 box:g[L]? = some (.cells [Tb,V,P])
 hno:H L = none
 ne:t ≠ L
 lt:t < g.length
 vars:qhR H vs V
structure qFy (vs:List Vr) (V P:qa) (L:Nat) (H:Nat->Option qb) (g:List qb) (t:Nat) (H':Nat->Option qb) (g':List qb) (t':Nat) (ns:List Nd) (Tb':qa):Prop where
 pre:Pre vs V P L H' g' t' ns Tb'
 more:g.length <= g'.length
 keep:∀i,i < g.length->i ≠ L->i ≠ t->g'[i]? = g[i]?
 told:∀i,i < g.length->H' i = H i
 young:g.length <= t'
def qCx (vs:List Vr) (ps:List Pt) (V:qa) (L d:Nat):Prop:=∀(e:Exl),(∃k,Fit k e)->dOK d e = true->∀(H:Nat->Option qb) (g:List qb) (t:Nat) (ns:List Nd) (Tb:qa),ns.length + sz d e <= 10000->Pre vs V (.lst (ps.map ptV) .no) L H g t ns Tb->
    ∃H' g' t' Tb',Wd (.fn 41 [] []) [.ptr L 0,exV e] g = some (.ret (.int .i64 (((ns.length + (low (vs.map (·.nm)) (ps.map (·.nm)) d ns.length e).length:Nat):Int) - 1)),g',true)/\
     qFy vs V (.lst (ps.map ptV) .no) L H g t H' g' t' (ns ++ low (vs.map (·.nm)) (ps.map (·.nm)) d ns.length e) Tb'
theorem Pre.more {vs:List Vr} {V P:qa} {L:Nat} {H:Nat->Option qb} {g:List qb} {t:Nat} {ns:List Nd} {Tb:qa} (h:Pre vs V P L H g t ns Tb) (l:List qb):Pre vs V P L H (g ++ l) t ns Tb:=by
 have hL:L < g.length:=(je.1 h.box).1
 refine ⟨⟨h.tab.1.more l,h.tab.2.1,?_⟩,by rw [ja hL];exact h.box,h.hno,h.ne,by have:=h.lt;simp;omega,h.vars⟩
 rcases h.tab.2.2 with e | ⟨rs,e,B,hi,hR⟩
 ·exact .inl e
 ·exact .inr ⟨rs,e,B,by rw [ja h.lt];exact hi,hR⟩
theorem Pre.put {vs:List Vr} {V P:qa} {L:Nat} {H:Nat->Option qb} {g g':List qb} {t:Nat} {ns:List Nd} {Tb:qa} (h:Pre vs V P L H g t ns Tb) {A:Nat->Prop} (E:g.length <= g'.length) (hk:∀i,i < g.length->¬ A i->g'[i]? = g[i]?) (hA:∀i,A i->H i = none/\i ≠ L/\i ≠ t):Pre vs V P L H g' t ns Tb:=by
 have hL:L < g.length:=(je.1 h.box).1
 refine ⟨⟨λi x hi=>?_,h.tab.2.1,?_⟩,?_,h.hno,h.ne,by have:=h.lt;omega,h.vars⟩
 ·rw [hk i (h.tab.1.lt hi) λha=>by rw [(hA i ha).1] at hi;cases hi]
  exact h.tab.1 i x hi
 ·rcases h.tab.2.2 with e | ⟨rs,e,B,hi,hR⟩
  ·exact .inl e
  ·exact .inr ⟨rs,e,B,by rw [hk t h.lt λha=>(hA t ha).2.2 rfl];exact hi,hR⟩
 ·rw [hk L hL λha=>(hA L ha).2.1 rfl]
  exact h.box
structure Lp (vs:List Vr) (ps:List Pt) (V:qa) (L d:Nat) (op n:Int) (nm sb:Str) (aS:List Exl) (ns:List Nd) (g:List qb) (t0:Nat) (Hg:Nat->Option qb) (i:Nat) (H:Nat->Option qb) (G:List qb) (t:Nat) (out:List Nd) (ins:List Int) (I:qa) (j:Nat) (Tb:qa):Prop where
 pre:Pre vs V (.lst (ps.map ptV) .no) L H G t (ns ++ out) Tb
 b2:g.length + 2 <= G.length
 bB:G[g.length]? = some (.cells [.int .i64 op,.int .i64 n,.str nm,.str sb,.lst (aS.map exV) .no])
 bN:G[g.length + 1]? = some (.cells [.int .i64 op,.int .i64 n,.str [],.str [],.int .i64 0,I])
 hI:(ins = []/\I = .lst [] .full)\/(I = .sl j 0 ins.length ins.length 1/\ins ≠ []/\G[j]? = some (.cells (ins.map (.int .i64)))/\g.length + 2 <= j/\j ≠ t/\H j = none)
 tB:t < g.length\/g.length + 2 <= t
 hB:H (g.length + 1) = none
 keep:∀i,i < g.length->i ≠ L->i ≠ t0->G[i]? = g[i]?
 told:∀i,i < g.length->H i = Hg i
 ty:t = t0\/g.length <= t
 gat:qbp (low (vs.map (·.nm)) (ps.map (·.nm)) d) ns.length (aS.drop i) out ins = qbp (low (vs.map (·.nm)) (ps.map (·.nm)) d) ns.length aS [] []
 inl:ins.length = i
 len:ns.length + out.length + ((aS.drop i).map (sz d)).sum + 1 <= 10000
theorem Lp.facts {vs:List Vr} {ps:List Pt} {V:qa} {L d:Nat} {op n:Int} {nm sb:Str} {aS:List Exl} {ns:List Nd} {g:List qb} {t0:Nat} {Hg:Nat->Option qb} {i:Nat} {H:Nat->Option qb} {G:List qb} {t:Nat} {out:List Nd} {ins:List Int} {I:qa} {j:Nat} {Tb:qa} (h:Lp vs ps V L d op n nm sb aS ns g t0 Hg i H G t out ins I j Tb):I.dim = I/\I.storable = true/\∀i t,qo I i t = t:=by
 rcases h.hI with ⟨_,rfl⟩ | ⟨rfl,_⟩ <;> exact ⟨rfl,rfl,λ_ _=>rfl⟩
section
variable {vs:List Vr} {ps:List Pt} {V:qa} {L d:Nat}
theorem qyr {op n:Int} {nm sb:Str} {aS:List Exl} {ns:List Nd} {g:List qb} {t0:Nat} {Hg:Nat->Option qb} {i:Nat} {H:Nat->Option qb} {G:List qb} {t:Nat} {out:List Nd} {ins:List Int} {I:qa} {j:Nat} {Tb:qa} (h:Lp vs ps V L d op n nm sb aS ns g t0 Hg i H G t out ins I j Tb) (hA:qCx vs ps V L d) (hL:L < g.length) (hi:i < aS.length) (hl:aS.length <= 20) (hf:∀a ∈ aS,∃k,Fit k a) (hD:∀a ∈ aS,dOK d a = true) :
  ∃(x:Int) (H2:Nat->Option qb) (G2:List qb) (t2:Nat) (a8:qa) (ad:List Nd) (G3:List qb),Wd (.fn 41 [] []) [.ptr L 0,exV aS[i]] (G ++ [.cells aS[i].enc]) = some (.ret (.int .i64 x),G2,true)/\
   (G ++ [.cells aS[i].enc])[g.length + 1]? = some (.cells [.int .i64 op,.int .i64 n,.str [],.str [],.int .i64 0,I])/\G2[g.length + 1]? = some (.cells [.int .i64 op,.int .i64 n,.str [],.str [],.int .i64 0,I])/\(G2 ++ [.cells [.int .i64 x]])[g.length + 1]? = some (.cells [.int .i64 op,.int .i64 n,.str [],.str [],.int .i64 0,I])/\G3[g.length + 1]? = some (.cells [.int .i64 op,.int .i64 n,.str [],.str [],.int .i64 0,I])/\
   hop g.length (.app 1) [I,.sl G2.length 0 1 1 0] (G2 ++ [.cells [.int .i64 x]]) = some (.sl (G2.length + 1) 0 (ins ++ [x]).length (ins ++ [x]).length 1,G3,false)/\
   Lp vs ps V L d op n nm sb aS ns g t0 Hg (i + 1) H2 (G3.set (g.length + 1) (.cells [.int .i64 op,.int .i64 n,.str [],.str [],.int .i64 0,.sl (G2.length + 1) 0 (ins ++ [x]).length (ins ++ [x]).length 1])) t2 ad (ins ++ [x]) (.sl (G2.length + 1) 0 (ins ++ [x]).length (ins ++ [x]).length 1) (G2.length + 1) a8:=by
 obtain ⟨pre,b2,bB,bN,hI,tB,hB,keep,told,ty,a6,inl,len⟩:=h
 have e1:(aS.drop i).map (sz d) = sz d aS[i] :: (aS.drop (i + 1)).map (sz d):=by rw [jX hi,List.map_cons]
 rw [e1,List.sum_cons] at len
 obtain ⟨H2,G2,t2,a8,hr,post⟩:=hA aS[i] (hf _ (List.getElem_mem hi)) (hD _ (List.getElem_mem hi)) H (G ++ [.cells aS[i].enc]) t (ns ++ out) Tb (by simp;omega) (pre.more _)
 obtain ⟨M,aa,E,J,U⟩:=post
 rw [jX hi,qbp] at a6
 generalize hx:(((ns.length + (out ++ low (vs.map (·.nm)) (ps.map (·.nm)) d (ns.length + out.length) aS[i]).length:Nat):Int) - 1) = x at a6
 have ae:((((ns ++ out).length + (low (vs.map (·.nm)) (ps.map (·.nm)) d (ns ++ out).length aS[i]).length:Nat):Int) - 1) = x:=by
  rw [<-hx,jj,jj,Nat.add_assoc]
 rw [ae] at hr
 have gl:(G ++ [qb.cells aS[i].enc]).length = G.length + 1:=by simp
 rw [gl] at aa E J U
 have ac:(G ++ [qb.cells aS[i].enc])[g.length + 1]? = some (.cells [.int .i64 op,.int .i64 n,.str [],.str [],.int .i64 0,I]):=by rw [ja zo];exact bN
 have a7:G2[g.length + 1]? = some (.cells [.int .i64 op,.int .i64 n,.str [],.str [],.int .i64 0,I]):=by rw [E _ zo zo zo];exact ac
 have ah:(ins = []/\I = .lst [] .full)\/(I = .sl j 0 ins.length ins.length 1/\ins ≠ []/\G2[j]? = some (.cells (ins.map (.int .i64)))):=by
  rcases hI with h | ⟨a,b,c,c1,c2,c3⟩
  ·exact .inl h
  ·have hj:j < G.length:=(je.1 c).1
   exact .inr ⟨a,b,by rw [E j zo zo c2,ja hj];exact c⟩
 have S:ins ≠ []->g.length + 2 <= j/\H2 j = none/\j ≠ t2/\j < G.length:=by
  intro B
  rcases hI with ⟨h,_⟩ | ⟨a,b,c,c1,c2,c3⟩
  ·exact absurd h B
  ·have hj:j < G.length:=(je.1 c).1
   exact ⟨c1,by rw [J j zo];exact c3,zo,hj⟩
 obtain ⟨G3,af,l3,k3,n3⟩:=qum (base:=g.length) (H:=H2) (g:=G2) (id:=j) zo x ah
 have ai:G3[g.length + 1]? = some (.cells [.int .i64 op,.int .i64 n,.str [],.str [],.int .i64 0,I]):=by
  rw [k3 _ zo λB=>by have:=(S B).1;omega]
  exact a7
 have aj:=M.lt
 refine ⟨x,H2,G2,t2,a8,out ++ low (vs.map (·.nm)) (ps.map (·.nm)) d (ns.length + out.length) aS[i],G3,hr,ac,a7,by rw [ja zo];exact a7,ai,af,?_⟩
 rw [show (ns ++ out).length = ns.length + out.length by rw [jj],jr] at M
 have a1:∀(X:qb) (i:Nat),i < G2.length->¬ (i = g.length + 1\/(ins ≠ []/\i = j))->(G3.set (g.length + 1) X)[i]? = G2[i]?:=λX i hi hn=>by
  rw [jg λe=>hn (.inl e.symm),k3 i hi λB e=>hn (.inr ⟨B,e⟩)]
 have ab:H2 (g.length + 1) = none:=by rw [J _ zo];exact hB
 refine ⟨M.put (A:=λi=>i = g.length + 1\/(ins ≠ []/\i = j)) (by simp;omega) (a1 _) ?_,by simp;omega,?_,?_,?_,zo,ab,?_,?_,zo,a6,by simp;omega,?_⟩
 ·rintro i (rfl | ⟨B,rfl⟩)
  ·exact ⟨ab,zo,zo⟩
  ·obtain ⟨q1,q2,q3,_⟩:=S B
   exact ⟨q2,zo,q3⟩
 ·rw [a1 _ _ zo (by rintro (h | ⟨B,h⟩);omega;have:=(S B).1;omega),E _ zo zo zo,ja zo]
  exact bB
 ·rw [jh zo]
 ·refine .inr ⟨rfl,by simp,?_,zo,zo,M.tab.1.late zo⟩
  rw [jg zo]
  exact n3
 ·intro i hi h1 h2
  rw [a1 _ _ zo (by rintro (h | ⟨B,h⟩);omega;have:=(S B).1;omega),E _ zo h1 (by rcases ty with rfl | h;exact h2;omega),ja zo]
  exact keep i hi h1 h2
 ·intro i hi
  rw [J i zo]
  exact told i hi
 ·rw [jj,qkH]
  omega
end
section
variable {vs:List Vr} {ps:List Pt} {V:qa} {L d:Nat}
theorem qsW {op n:Int} {nm sb:Str} {aS:List Exl} {ns:List Nd} {g:List qb} {t0:Nat} {Hg:Nat->Option qb} (hA:qCx vs ps V L d) (hL:L < g.length) (hl:aS.length <= 20) (hf:∀a ∈ aS,∃k,Fit k a) (hD:∀a ∈ aS,dOK d a = true) :
  ∀q st,(∃(tt:List qa) (ef:Bool) (i:Nat) (H:Nat->Option qb) (G:List qb) (t:Nat) (out:List Nd) (ins:List Int) (I:qa) (j:Nat) (Tb:qa),st = ⟨tt,G,ef⟩/\tt.length = 83/\lkp tt 0 = .ptr L 0/\lkp tt 3 = .ptr g.length 0/\lkp tt 5 = .ptr (g.length + 1) 0/\lkp tt 14 = .lst (aS.map exV) .no/\lkp tt 15 = .int .i64 (aS.length:Nat)/\lkp tt 16 = .int .i64 (i:Nat)/\i + q = aS.length/\Lp vs ps V L d op n nm sb aS ns g t0 Hg i H G t out ins I j Tb)->
   ∃x J,qm g.length Wd (.loop qm8) st = some (x,J)/\(x = .exit 0/\∃(tt:List qa) (ef:Bool) (H:Nat->Option qb) (G:List qb) (t:Nat) (out:List Nd) (ins:List Int) (I:qa) (j:Nat) (Tb:qa),J = ⟨tt,G,ef⟩/\tt.length = 83/\lkp tt 0 = .ptr L 0/\lkp tt 3 = .ptr g.length 0/\lkp tt 5 = .ptr (g.length + 1) 0/\Lp vs ps V L d op n nm sb aS ns g t0 Hg aS.length H G t out ins I j Tb):=by
 refine qy _ _ ?_
 rintro q st ⟨tt,ef,i,H,G,t,out,ins,I,j,Tb,rfl,ht,e0,e3,e5,E,B,U,ai,lp⟩
 generalize he:qm g.length Wd qm8 _ = r
 rcases Nat.lt_or_ge i aS.length with hi | hi
 ·have c1:ilt (i:Int) (aS.length:Int) = true:=qzW zo
  have w:=qag (n:=i) zo
  obtain ⟨ae,ad,ac⟩:=lp.facts
  have aj:=lp.b2
  obtain ⟨x,H2,G2,t2,ah,a1,G3,hr,b1,b2,b3,b4,S,M⟩:=qyr lp hA hL hi hl hf hD
  generalize (ins ++ [x]).length = N at S M
  have hg:(aS.map exV)[i]? = some (exV aS[i]):=by rw [ju,ji hi];rfl
  generalize aS[i] = y at hr hg b1
  obtain ⟨a7,n',a8,a6,af⟩:=y
  rw [qI] at hg
  rw [qI,qcK] at hr
  rw [qcK] at b1
  have hx:qaW 5 (.lst (aS.map exV) .no) (.int .i64 (i:Nat)) = some (.iptr [.int .i64 a7,.int .i64 n',.str a8,.str a6,.lst (af.map exV) .no] 0):=qbl hg rfl
  have ab:Nat.ble g.length G.length = true:=qe zo
  have aa:Nat.ble g.length (g.length + 1) = true:=qe zo
  simp only [sA.1,qm8,seval,qBg,ht,e0,e3,e5,E,B,U,c1,hx,ab,aa,hr,b1,b2,b3,b4,S,ae,ad,ac,w,j7,jR] at he
  subst he
  refine .inl ⟨_,q - 1,rfl,zo,_,_,i + 1,H2,_,t2,a1,_,_,_,ah,rfl,?_,?_,?_,?_,?_,?_,?_,zo,M⟩
  ·simp only [qbf,ht]
  ·simp only [sB.1,seval,ht,e0]
  ·simp only [sB.1,seval,ht,e3]
  ·simp only [sB.1,seval,ht,e5]
  ·simp only [sB.1,seval,ht,E]
  ·simp only [sB.1,seval,ht,B]
  ·simp only [sB.1,seval,ht]
 ·have c1:ilt (i:Int) (aS.length:Int) = false:=qzV zo
  have:i = aS.length:=zo
  subst this
  simp only [sB.1,qm8,seval,ht,e0,e3,e5,E,B,U,c1] at he
  subst he
  refine .inr ⟨_,_,rfl,by simp,rfl,_,ef,H,G,t,out,ins,I,j,Tb,rfl,?_,?_,?_,?_,lp⟩
  ·simp only [qbf,ht]
  ·simp only [sB.1,seval,ht,e0]
  ·simp only [sB.1,seval,ht,e3]
  ·simp only [sB.1,seval,ht,e5]
theorem qdB {op n:Int} {nm sb:Str} {aS:List Exl} {ns:List Nd} {g:List qb} {t0:Nat} {Hg:Nat->Option qb} {H:Nat->Option qb} {G:List qb} {t:Nat} {out:List Nd} {ins:List Int} {I:qa} {j:Nat} {Tb:qa} {i:Nat} (h:Lp vs ps V L d op n nm sb aS ns g t0 Hg i H G t out ins I j Tb) (hL:L < g.length) (x:Nd) (hx:x.ins = ins) :
  ∃(H':Nat->Option qb) (G6:List qb),
   hop g.length (.app 6) [Tb,.sl G.length 0 1 1 0] (G.set (g.length + 1) (.cells [.int .i64 x.op,.int .i64 x.n,.str x.nm,.str x.sb,.int .i64 x.pl,I]) ++ [.cells [.int .i64 x.op,.int .i64 x.n,.str x.nm,.str x.sb,.int .i64 x.pl,I]]) = some (.sl (G.length + 1) 0 (ns ++ out ++ [x]).length (ns ++ out ++ [x]).length 6,G6,false)/\
   (∀X,(G.set (g.length + 1) X)[g.length + 1]? = some X)/\(∀X,(G.set (g.length + 1) X)[g.length]? = some (.cells [.int .i64 op,.int .i64 n,.str nm,.str sb,.lst (aS.map exV) .no]))/\(∀X,(G.set (g.length + 1) X)[L]? = some (.cells [Tb,V,.lst (ps.map ptV) .no]))/\
   (∀X Y,(G.set (g.length + 1) X ++ [Y])[g.length + 1]? = some X)/\(∀X Y,(G.set (g.length + 1) X ++ [Y])[L]? = some (.cells [Tb,V,.lst (ps.map ptV) .no]))/\
   G6[g.length + 1]? = some (.cells [.int .i64 x.op,.int .i64 x.n,.str x.nm,.str x.sb,.int .i64 x.pl,I])/\G6[L]? = some (.cells [Tb,V,.lst (ps.map ptV) .no])/\
   (∀X,(G6.set L X)[L]? = some X)/\
   qFy vs V (.lst (ps.map ptV) .no) L Hg g t0 H' (G6.set L (.cells [.sl (G.length + 1) 0 (ns ++ out ++ [x]).length (ns ++ out ++ [x]).length 6,V,.lst (ps.map ptV) .no])) (G.length + 1) (ns ++ (out ++ [x])) (.sl (G.length + 1) 0 (ns ++ out ++ [x]).length (ns ++ out ++ [x]).length 6):=by
 obtain ⟨pre,b2,bB,bN,hI,tB,hB,keep,told,ty,ac,inl,len⟩:=h
 obtain ⟨H',ab,M,aa,a8,U,a1⟩ :∃H':Nat->Option qb,(∀i,i < g.length->H' i = H i)/\Sub H H'/\Ins H' ins I/\H' t = none/\H' L = none/\(H' (g.length + 1) = none/\Cov H' G):=by
  rcases hI with ⟨h1,h2⟩ | ⟨rfl,E,hj,h1,h2,h3⟩
  ·exact ⟨H,λ_ _=>rfl,λ_ _ h=>h,.inl ⟨h1,h2⟩,pre.tab.2.1,pre.hno,hB,pre.tab.1⟩
  ·refine ⟨λi=>if i = j then some (.cells (ins.map (.int .i64))) else H i,λi hi=>if_neg zo,λi y hy=>?_,.inr ⟨j,rfl,if_pos rfl⟩,?_,?_,?_,λi y hy=>?_⟩
   ·have:i ≠ j:=λe=>by subst e;rw [h3] at hy;cases hy
    simp only [this,if_false,hy]
   ·exact (if_neg λe=>h2 e.symm).trans pre.tab.2.1
   ·exact (if_neg zo).trans pre.hno
   ·exact (if_neg zo).trans hB
   ·have B:(if i = j then some (qb.cells (ins.map (.int .i64))) else H i) = some y:=hy
    by_cases e:i = j
    ·subst e
     rw [if_pos rfl] at B
     cases B
     exact hj
    ·rw [if_neg e] at B
     exact pre.tab.1 i y B
 have hlt:=pre.lt
 have a6:∀X,Tab H' (G.set (g.length + 1) X) t (ns ++ out) Tb:=λX=>⟨a1.2.set a1.1 X,a8,by
  rcases pre.tab.2.2 with e | ⟨rs,e,E,hi,hR⟩
  ·exact .inl e
  ·exact .inr ⟨rs,e,E,by rw [jg zo];exact hi,hR.mono M⟩⟩
 have a7:qjO H' x [.int .i64 x.op,.int .i64 x.n,.str x.nm,.str x.sb,.int .i64 x.pl,I]:=⟨I,rfl,by rw [hx];exact aa⟩
 obtain ⟨G6,S,l6,k6,J⟩:=qvu (base:=g.length) (a6 (.cells [.int .i64 x.op,.int .i64 x.n,.str x.nm,.str x.sb,.int .i64 x.pl,I])) (by rw [jj];omega) a7
 have gl:∀X,(G.set (g.length + 1) X).length = G.length:=λX=>by simp
 rw [gl] at S l6 k6 J
 have f1:∀X,(G.set (g.length + 1) X)[g.length + 1]? = some X:=λX=>jh zo
 have f2:∀X,(G.set (g.length + 1) X)[g.length]? = some (.cells [.int .i64 op,.int .i64 n,.str nm,.str sb,.lst (aS.map exV) .no]):=λX=>by rw [jg zo];exact bB
 have f3:∀X,(G.set (g.length + 1) X)[L]? = some (.cells [Tb,V,.lst (ps.map ptV) .no]):=λX=>by rw [jg zo];exact pre.box
 have tL:=pre.ne
 refine ⟨H',G6,S,f1,f2,f3,λX Y=>?_,λX Y=>?_,?_,?_,λX=>jh zo,?_⟩
 ·rw [ja (by rw [gl];omega)]
  exact f1 X
 ·rw [ja (by rw [gl];omega)]
  exact f3 X
 ·rw [k6 _ zo λ_=>by omega]
  exact f1 _
 ·rw [k6 _ zo λ_=>by omega]
  exact f3 _
 ·obtain ⟨c6,n6,t6⟩:=J
  rw [<-jr]
  refine ⟨⟨⟨c6.set U _,n6,?_⟩,jh zo,U,zo,by simp;omega,pre.vars.mono M⟩,by simp;omega,λi hi h1 h2=>?_,λi hi=>?_,zo⟩
  ·rcases t6 with ⟨e,_⟩ | ⟨rs,e,E,hi,hR⟩
   ·simp at e
   ·exact .inr ⟨rs,rfl,E,by rw [jg zo];exact hi,hR⟩
  ·rw [jg zo,k6 i zo (λ_=>by rcases ty with rfl | h;exact h2;omega),jg zo]
   exact keep i hi h1 h2
  ·rw [ab i hi]
   exact told i hi
end
theorem qGb (vs:List Vr) (ps:List Pt) (V:qa) (L:Nat) (av:vs.length <= 100000) (ay:ps.length <= 100000):∀d,qCx vs ps V L d:=by
 intro d
 induction d with
 | zero=>
  intro e _ hd
  rw [dOK] at hd
  cases hd
 | succ d ih=>
  rintro ⟨op,n,nm,sb,aS⟩ ⟨k,hk⟩ hd H g t0 ns am ar ah
  obtain ⟨k,rfl⟩ :∃k',k = k' + 1:=by cases k with | zero=>exact hk.elim | succ k=>exact ⟨k,rfl⟩
  have hf:∀a ∈ aS,∃k,Fit k a:=λa ha=>⟨k,hk.2 a ha⟩
  rw [dOK,List.all_eq_true] at hd
  rw [sz] at ar
  have hL:L < g.length:=(je.1 ah.box).1
  have ai:=ah.vars
  obtain ⟨ab,aa,a8⟩:=ai.facts
  have au:Lp vs ps V L d op n nm sb aS ns g t0 H 0 H (g ++ [.cells [.int .i64 op,.int .i64 n,.str nm,.str sb,.lst (aS.map exV) .no],.cells [.int .i64 op,.int .i64 n,.str [],.str [],.int .i64 0,.lst [] .full]]) t0 [] [] (.lst [] .full) 0 am:=by
   refine ⟨by rw [jK];exact ah.more _,by simp,by rw [qF];rfl,?_,.inl ⟨rfl,rfl⟩,.inl ah.lt,ah.tab.1.late zo,λi hi _ _=>ja hi,λ_ _=>rfl,.inl rfl,rfl,rfl,?_⟩
   ·rw [List.getElem?_append_right zo,show g.length + 1 - g.length = 1 by omega]
    rfl
   ·simp
    omega
  generalize hw:Wd _ _ g = w
  rw [qI,qi 41 c41] at hw
  simp only [sA.1,c41,seval,qci,qbr] at hw
  generalize hr:qm g.length Wd (.loop qm8) _ = r at hw
  obtain ⟨x,aC,rfl,rfl,tt,ef,H,G,t,out,ins,I,j,Tb,rfl,ht,e0,e3,e5,lp⟩:=known hr (qsW ih hL hk.1 hf hd aS.length _ ⟨_,_,0,H,_,t0,[],[],.lst [] .full,0,am,rfl,X1,X1,X1,X1,X1,X1,X2,zo,au⟩)
  obtain ⟨S,M,af⟩:=lp.facts
  have J:=λb a1 a2 a3 a4 a5 h=>qHU b a1 a2 a3 a4 a5 I S M h
  have bB:=lp.bB
  have bN:=lp.bN
  have box:=lp.pre.box
  have b2:=lp.b2
  obtain ⟨ae,ad,ac,_⟩:=lp.pre.tab.facts
  have az:=lp.pre.vars.at lp.pre.tab.1
  have U:=λs=>qla (h:=G) vs V az s av
  have a7:=λs=>qjq (h:=G) ps s ay
  have q1:Nat.ble g.length L = false:=qAl hL
  have q2:Nat.blt (G.length + 1) (L + 1) = false:=qcJ zo
  have q3:Nat.ble g.length (g.length + 1) = true:=qe zo
  have a6:∀X Y:qb,(G.set (g.length + 1) X).set (g.length + 1) Y = G.set (g.length + 1) Y:=λX Y=>List.set_set ..
  have g0:g.length ≠ 0:=zo
  have al:=lp.gat
  rw [List.drop_eq_nil_of_le (jo _),qbp] at al
  have ap:low (vs.map (·.nm)) (ps.map (·.nm)) (d + 1) ns.length (.mk op n nm sb aS) = out ++ [fin (vs.map (·.nm)) (ps.map (·.nm)) op n nm sb ins]:=by rw [low,<-al]
  rw [ap]
  have aB:=lp.len
  by_cases h3:op = 3
  ·subst h3
   have E:fin (vs.map (·.nm)) (ps.map (·.nm)) 3 n nm sb ins = ⟨3,n,nm,[],0,ins⟩:=rfl
   rw [E]
   obtain ⟨H',G6,B,f1,f2,f3,f4,f5,n6,l6,f7,post⟩:=qdB lp hL (⟨3,n,nm,[],0,ins⟩ :Nd) rfl
   have hN:(ns ++ out ++ [(⟨3,n,nm,[],0,ins⟩ :Nd)]).length = ns.length + (out ++ [(⟨3,n,nm,[],0,ins⟩ :Nd)]).length:=by simp only [jj,jD,jE];omega
   have wN:IntKind.i64.wrap (((ns.length + (out ++ [(⟨3,n,nm,[],0,ins⟩ :Nd)]).length:Nat):Int) - 1) = ((ns.length + (out ++ [(⟨3,n,nm,[],0,ins⟩ :Nd)]).length:Nat):Int) - 1:=qbt (by simp only [jj,jD,jE];omega) (by simp only [jj,jD,jE];omega)
   rw [hN] at B post
   generalize ns.length + (out ++ [(⟨3,n,nm,[],0,ins⟩ :Nd)]).length = N at B post wN ⊢
   simp only [sA.1,seval,qci,qbr,ht,e0,e3,e5,bB,bN,box,S,M,af,ab,aa,a8,ae,ad,ac,J,f1,f2,f3,f4,f5,B,n6,l6,f7,q1,q2,q3,wN,a6,U,a7,j7,jR,Bool.or_self,j3] at hw
   subst hw
   exact ⟨H',_,_,_,congrArg some (qc0 g0 _ _),post⟩
  by_cases h4:op = 4
  ·subst h4
   have E:fin (vs.map (·.nm)) (ps.map (·.nm)) 4 n nm sb ins = ⟨4,n,[],[],pos (vs.map (·.nm)) nm 0,ins⟩:=rfl
   rw [E]
   obtain ⟨H',G6,B,f1,f2,f3,f4,f5,n6,l6,f7,post⟩:=qdB lp hL (⟨4,n,[],[],pos (vs.map (·.nm)) nm 0,ins⟩ :Nd) rfl
   have hN:(ns ++ out ++ [(⟨4,n,[],[],pos (vs.map (·.nm)) nm 0,ins⟩ :Nd)]).length = ns.length + (out ++ [(⟨4,n,[],[],pos (vs.map (·.nm)) nm 0,ins⟩ :Nd)]).length:=by simp only [jj,jD,jE];omega
   have wN:IntKind.i64.wrap (((ns.length + (out ++ [(⟨4,n,[],[],pos (vs.map (·.nm)) nm 0,ins⟩ :Nd)]).length:Nat):Int) - 1) = ((ns.length + (out ++ [(⟨4,n,[],[],pos (vs.map (·.nm)) nm 0,ins⟩ :Nd)]).length:Nat):Int) - 1:=qbt (by simp only [jj,jD,jE];omega) (by simp only [jj,jD,jE];omega)
   rw [hN] at B post
   generalize ns.length + (out ++ [(⟨4,n,[],[],pos (vs.map (·.nm)) nm 0,ins⟩ :Nd)]).length = N at B post wN ⊢
   simp only [sA.1,seval,qci,qbr,ht,e0,e3,e5,bB,bN,box,S,M,af,ab,aa,a8,ae,ad,ac,J,f1,f2,f3,f4,f5,B,n6,l6,f7,q1,q2,q3,wN,a6,U,a7,j7,jR,Bool.or_self,j3] at hw
   subst hw
   exact ⟨H',_,_,_,congrArg some (qc0 g0 _ _),post⟩
  by_cases h5:op = 5
  ·subst h5
   have E:fin (vs.map (·.nm)) (ps.map (·.nm)) 5 n nm sb ins = ⟨5,n,nm,sb,0,ins⟩:=rfl
   rw [E]
   obtain ⟨H',G6,B,f1,f2,f3,f4,f5,n6,l6,f7,post⟩:=qdB lp hL (⟨5,n,nm,sb,0,ins⟩ :Nd) rfl
   have hN:(ns ++ out ++ [(⟨5,n,nm,sb,0,ins⟩ :Nd)]).length = ns.length + (out ++ [(⟨5,n,nm,sb,0,ins⟩ :Nd)]).length:=by simp only [jj,jD,jE];omega
   have wN:IntKind.i64.wrap (((ns.length + (out ++ [(⟨5,n,nm,sb,0,ins⟩ :Nd)]).length:Nat):Int) - 1) = ((ns.length + (out ++ [(⟨5,n,nm,sb,0,ins⟩ :Nd)]).length:Nat):Int) - 1:=qbt (by simp only [jj,jD,jE];omega) (by simp only [jj,jD,jE];omega)
   rw [hN] at B post
   generalize ns.length + (out ++ [(⟨5,n,nm,sb,0,ins⟩ :Nd)]).length = N at B post wN ⊢
   simp only [sA.1,seval,qci,qbr,ht,e0,e3,e5,bB,bN,box,S,M,af,ab,aa,a8,ae,ad,ac,J,f1,f2,f3,f4,f5,B,n6,l6,f7,q1,q2,q3,wN,a6,U,a7,j7,jR,Bool.or_self,j3] at hw
   subst hw
   exact ⟨H',_,_,_,congrArg some (qc0 g0 _ _),post⟩
  by_cases h7:op = 7
  ·subst h7
   have E:fin (vs.map (·.nm)) (ps.map (·.nm)) 7 n nm sb ins = ⟨7,n,[],[],pos (ps.map (·.nm)) nm 0,ins⟩:=rfl
   rw [E]
   obtain ⟨H',G6,B,f1,f2,f3,f4,f5,n6,l6,f7,post⟩:=qdB lp hL (⟨7,n,[],[],pos (ps.map (·.nm)) nm 0,ins⟩ :Nd) rfl
   have hN:(ns ++ out ++ [(⟨7,n,[],[],pos (ps.map (·.nm)) nm 0,ins⟩ :Nd)]).length = ns.length + (out ++ [(⟨7,n,[],[],pos (ps.map (·.nm)) nm 0,ins⟩ :Nd)]).length:=by simp only [jj,jD,jE];omega
   have wN:IntKind.i64.wrap (((ns.length + (out ++ [(⟨7,n,[],[],pos (ps.map (·.nm)) nm 0,ins⟩ :Nd)]).length:Nat):Int) - 1) = ((ns.length + (out ++ [(⟨7,n,[],[],pos (ps.map (·.nm)) nm 0,ins⟩ :Nd)]).length:Nat):Int) - 1:=qbt (by simp only [jj,jD,jE];omega) (by simp only [jj,jD,jE];omega)
   rw [hN] at B post
   generalize ns.length + (out ++ [(⟨7,n,[],[],pos (ps.map (·.nm)) nm 0,ins⟩ :Nd)]).length = N at B post wN ⊢
   simp only [sA.1,seval,qci,qbr,ht,e0,e3,e5,bB,bN,box,S,M,af,ab,aa,a8,ae,ad,ac,J,f1,f2,f3,f4,f5,B,n6,l6,f7,q1,q2,q3,wN,a6,U,a7,j7,jR,Bool.or_self,j3] at hw
   subst hw
   exact ⟨H',_,_,_,congrArg some (qc0 g0 _ _),post⟩
  by_cases h8:op = 8
  ·subst h8
   have E:fin (vs.map (·.nm)) (ps.map (·.nm)) 8 n nm sb ins = ⟨8,n,[],[],pos (ps.map (·.nm)) nm 0,ins⟩:=rfl
   rw [E]
   obtain ⟨H',G6,B,f1,f2,f3,f4,f5,n6,l6,f7,post⟩:=qdB lp hL (⟨8,n,[],[],pos (ps.map (·.nm)) nm 0,ins⟩ :Nd) rfl
   have hN:(ns ++ out ++ [(⟨8,n,[],[],pos (ps.map (·.nm)) nm 0,ins⟩ :Nd)]).length = ns.length + (out ++ [(⟨8,n,[],[],pos (ps.map (·.nm)) nm 0,ins⟩ :Nd)]).length:=by simp only [jj,jD,jE];omega
   have wN:IntKind.i64.wrap (((ns.length + (out ++ [(⟨8,n,[],[],pos (ps.map (·.nm)) nm 0,ins⟩ :Nd)]).length:Nat):Int) - 1) = ((ns.length + (out ++ [(⟨8,n,[],[],pos (ps.map (·.nm)) nm 0,ins⟩ :Nd)]).length:Nat):Int) - 1:=qbt (by simp only [jj,jD,jE];omega) (by simp only [jj,jD,jE];omega)
   rw [hN] at B post
   generalize ns.length + (out ++ [(⟨8,n,[],[],pos (ps.map (·.nm)) nm 0,ins⟩ :Nd)]).length = N at B post wN ⊢
   simp only [sA.1,seval,qci,qbr,ht,e0,e3,e5,bB,bN,box,S,M,af,ab,aa,a8,ae,ad,ac,J,f1,f2,f3,f4,f5,B,n6,l6,f7,q1,q2,q3,wN,a6,U,a7,j7,jR,Bool.or_self,j3] at hw
   subst hw
   exact ⟨H',_,_,_,congrArg some (qc0 g0 _ _),post⟩
  by_cases h9:op = 9
  ·subst h9
   have E:fin (vs.map (·.nm)) (ps.map (·.nm)) 9 n nm sb ins = ⟨9,n,[],[],pos (ps.map (·.nm)) nm 0,ins⟩:=rfl
   rw [E]
   obtain ⟨H',G6,B,f1,f2,f3,f4,f5,n6,l6,f7,post⟩:=qdB lp hL (⟨9,n,[],[],pos (ps.map (·.nm)) nm 0,ins⟩ :Nd) rfl
   have hN:(ns ++ out ++ [(⟨9,n,[],[],pos (ps.map (·.nm)) nm 0,ins⟩ :Nd)]).length = ns.length + (out ++ [(⟨9,n,[],[],pos (ps.map (·.nm)) nm 0,ins⟩ :Nd)]).length:=by simp only [jj,jD,jE];omega
   have wN:IntKind.i64.wrap (((ns.length + (out ++ [(⟨9,n,[],[],pos (ps.map (·.nm)) nm 0,ins⟩ :Nd)]).length:Nat):Int) - 1) = ((ns.length + (out ++ [(⟨9,n,[],[],pos (ps.map (·.nm)) nm 0,ins⟩ :Nd)]).length:Nat):Int) - 1:=qbt (by simp only [jj,jD,jE];omega) (by simp only [jj,jD,jE];omega)
   rw [hN] at B post
   generalize ns.length + (out ++ [(⟨9,n,[],[],pos (ps.map (·.nm)) nm 0,ins⟩ :Nd)]).length = N at B post wN ⊢
   simp only [sA.1,seval,qci,qbr,ht,e0,e3,e5,bB,bN,box,S,M,af,ab,aa,a8,ae,ad,ac,J,f1,f2,f3,f4,f5,B,n6,l6,f7,q1,q2,q3,wN,a6,U,a7,j7,jR,Bool.or_self,j3] at hw
   subst hw
   exact ⟨H',_,_,_,congrArg some (qc0 g0 _ _),post⟩
  by_cases ak:op = 10
  ·subst ak
   have E:fin (vs.map (·.nm)) (ps.map (·.nm)) 10 n nm sb ins = ⟨10,n,[],[],pos (ps.map (·.nm)) nm 0,ins⟩:=rfl
   rw [E]
   obtain ⟨H',G6,B,f1,f2,f3,f4,f5,n6,l6,f7,post⟩:=qdB lp hL (⟨10,n,[],[],pos (ps.map (·.nm)) nm 0,ins⟩ :Nd) rfl
   have hN:(ns ++ out ++ [(⟨10,n,[],[],pos (ps.map (·.nm)) nm 0,ins⟩ :Nd)]).length = ns.length + (out ++ [(⟨10,n,[],[],pos (ps.map (·.nm)) nm 0,ins⟩ :Nd)]).length:=by simp only [jj,jD,jE];omega
   have wN:IntKind.i64.wrap (((ns.length + (out ++ [(⟨10,n,[],[],pos (ps.map (·.nm)) nm 0,ins⟩ :Nd)]).length:Nat):Int) - 1) = ((ns.length + (out ++ [(⟨10,n,[],[],pos (ps.map (·.nm)) nm 0,ins⟩ :Nd)]).length:Nat):Int) - 1:=qbt (by simp only [jj,jD,jE];omega) (by simp only [jj,jD,jE];omega)
   rw [hN] at B post
   generalize ns.length + (out ++ [(⟨10,n,[],[],pos (ps.map (·.nm)) nm 0,ins⟩ :Nd)]).length = N at B post wN ⊢
   simp only [sA.1,seval,qci,qbr,ht,e0,e3,e5,bB,bN,box,S,M,af,ab,aa,a8,ae,ad,ac,J,f1,f2,f3,f4,f5,B,n6,l6,f7,q1,q2,q3,wN,a6,U,a7,j7,jR,Bool.or_self,j3] at hw
   subst hw
   exact ⟨H',_,_,_,congrArg some (qc0 g0 _ _),post⟩
  have z3:(op == 3) = false:=beq_eq_false_iff_ne.2 h3
  have z4:(op == 4) = false:=beq_eq_false_iff_ne.2 h4
  have z5:(op == 5) = false:=beq_eq_false_iff_ne.2 h5
  have z7:(op == 7) = false:=beq_eq_false_iff_ne.2 h7
  have z8:(op == 8) = false:=beq_eq_false_iff_ne.2 h8
  have z9:(op == 9) = false:=beq_eq_false_iff_ne.2 h9
  have aj:(op == 10) = false:=beq_eq_false_iff_ne.2 ak
  have E:fin (vs.map (·.nm)) (ps.map (·.nm)) op n nm sb ins = ⟨op,n,[],[],0,ins⟩:=by simp only [fin,z3,z4,z5,z7,z8,z9,aj,cond_false]
  rw [E]
  obtain ⟨H',G6,B,f1,f2,f3,f4,f5,n6,l6,f7,post⟩:=qdB lp hL (⟨op,n,[],[],0,ins⟩ :Nd) rfl
  have aA:G.set (g.length + 1) (.cells [.int .i64 op,.int .i64 n,.str [],.str [],.int .i64 0,I]) = G:=by
   apply List.ext_getElem?
   intro i
   by_cases e:g.length + 1 = i
   ·subst e
    rw [f1]
    exact bN.symm
   ·rw [jg e]
  have f4:=λY=>f4 (.cells [.int .i64 op,.int .i64 n,.str [],.str [],.int .i64 0,I]) Y
  have f5:=λY=>f5 (.cells [.int .i64 op,.int .i64 n,.str [],.str [],.int .i64 0,I]) Y
  simp only [aA] at B f4 f5
  have hN:(ns ++ out ++ [(⟨op,n,[],[],0,ins⟩ :Nd)]).length = ns.length + (out ++ [(⟨op,n,[],[],0,ins⟩ :Nd)]).length:=by simp only [jj,jD,jE];omega
  have wN:IntKind.i64.wrap (((ns.length + (out ++ [(⟨op,n,[],[],0,ins⟩ :Nd)]).length:Nat):Int) - 1) = ((ns.length + (out ++ [(⟨op,n,[],[],0,ins⟩ :Nd)]).length:Nat):Int) - 1:=qbt (by simp only [jj,jD,jE];omega) (by simp only [jj,jD,jE];omega)
  rw [hN] at B post
  generalize ns.length + (out ++ [(⟨op,n,[],[],0,ins⟩ :Nd)]).length = N at B post wN ⊢
  simp only [sA.1,seval,qci,qbr,ht,e0,e3,e5,bB,bN,box,S,M,af,ab,aa,a8,ae,ad,ac,J,f1,f2,f3,f4,f5,B,n6,l6,f7,q1,q2,q3,wN,a6,U,a7,j7,jR,Bool.or_self,j3,z3,z4,z5,z7,z8,z9,aj] at hw
  subst hw
  exact ⟨H',_,_,_,congrArg some (qc0 g0 _ _),post⟩
section
variable {vs:List Vr} {ps:List Pt} {V:qa} {h:List qb}
end
end Go.Proofs.YtnibchoenjmmjaaGreatDoor.AE
