/- A part of the proof: the abstract executor and what goes through it (part 16). No condition. -/
import Derived.Test.YtnibchoenjmmjaaGreatDoorMq15
import Derived.Test.YtnibchoenjmmjaaGreatDoorMq9
set_option maxRecDepth 100000
set_option maxHeartbeats 0
namespace Go.Proofs.YtnibchoenjmmjaaGreatDoor.AE
open Go.AE
structure Nms where
 vars:List (Str×Str×Tp)
 ports:List (Str×Tp)
 bagq:Bool
 oth:List (Str×Str×Tp)
def nvV (x:Str×Str×Tp):qa:=.agg (.str x.1 :: .str x.2.1 :: x.2.2.enc)
def npV (x:Str×Tp):qa:=.agg (.str x.1 :: x.2.enc)
def qfb (N:Nms):List qa:=[.lst (N.vars.map nvV) .no,.lst (N.ports.map npV) .no,.bool N.bagq,.lst (N.oth.map nvV) .no]
def qL:Tp:=.mk 0 []
def qb5:Tp:=.mk 1 []
def qas:Tp→Int
 | .mk k _=>k
def qds:Tp→List Tp
 | .mk _ l=>l
abbrev qiN:=Tp×Int
def qdj (f:Exl→qiN) (k:List Tp→qiN):List Exl→List Tp→qiN
 | [],ts=>k ts
 | a :: aS,ts=>bif !((f a).2 == 0) then (qL,(f a).2) else qdj f k aS (ts ++ [(f a).1])
def ifT (b:Bool) (t:Tp):qiN:=bif b then (t,0) else (qL,12)
def qAk (op:Int):Bool:=ile 7 op && ile op 10
def qa5 (N:Nms) (op n:Int) (nm sb:Str) (ts:List Tp):qiN:=
 bif qAk op then (match N.ports.find? (fun p=>p.1 == nm) with
  | none=>(qL,10)
  | some p=>bif !N.bagq then (qL,10) else bif op == 7 then (qL,0) else bif op == 8 then (qb5,0) else bif op == 9 then ifT (qas p.2 == 0) qL else ifT (qaV (ts.getD 0 qL) p.2) p.2)
 else bif op == 0 then (qL,0) else bif op == 1 || op == 2 then (qb5,0) else bif op == 3 then (.mk 2 [],0)
 else bif op == 4 then (match N.vars.find? (fun x=>x.2.1 == nm) with | some x=>(x.2.2,0) | none=>(qL,10))
 else bif op == 5 then (match N.oth.find? (fun x=>x.1 == nm && x.2.1 == sb) with | some x=>(x.2.2,0) | none=>(qL,10))
 else bif op == 6 then (bif ilt 3 (qdD (.mk 3 ts):Nat) then (qL,7) else (.mk 3 ts,0))
 else bif op == 11 then (bif N.bagq then (.mk 3 [qL,qL],0) else (qL,10))
 else bif op == 12 then ifT (qas (ts.getD 0 qL) == 3 && ilt n ((qds (ts.getD 0 qL)).length:Nat)) ((qds (ts.getD 0 qL)).getD n.toNat qL)
 else bif op == 14 || op == 23 || op == 24 then ifT (ts.all fun t=>qas t == 1) qb5
 else bif op == 20 || op == 21 || op == 22 then ifT (ts.all fun t=>qaV t (ts.getD 0 qL)) qb5
 else bif op == 25 then ifT (qas (ts.getD 0 qL) == 1 && qaV (ts.getD 1 qL) (ts.getD 2 qL)) (ts.getD 1 qL)
 else ifT (ts.all fun t=>qas t == 0) qL
def qgd (N:Nms):Nat→Exl→qiN
 | 0,_=>(qL,0)
 | d + 1,.mk op n nm sb aS=>qdj (qgd N d) (qa5 N op n nm sb) aS []
structure qys (N:Nms):Prop where
 v:∀x ∈ N.vars,tpS 3 x.2.2
 p:∀x ∈ N.ports,tpS 3 x.2
 o:∀x ∈ N.oth,tpS 3 x.2.2
 vl:N.vars.length ≤ 1000
 pl:N.ports.length ≤ 1000
 ol:N.oth.length ≤ 1000
theorem qaR (d:Nat):tpS d qL:=by
 cases d with
 | zero=>exact rfl
 | succ d=>exact ⟨by simp,fun x hx=>by cases hx⟩
theorem qej (d:Nat) (k:Int):tpS d (.mk k []):=by
 cases d with
 | zero=>exact rfl
 | succ d=>exact ⟨by simp,fun x hx=>by cases hx⟩
theorem qus {d:Nat} {t:Tp} (h:tpS d t):∀x ∈ qds t,tpS d x:=by
 obtain ⟨k,l⟩:=t
 cases d with
 | zero=>intro x hx;have:l = []:=h;subst this;cases hx
 | succ d=>exact fun x hx=>qkT (h.2 x hx)
theorem qhP {d:Nat} {ts:List Tp} (h:∀t ∈ ts,tpS d t) (i:Nat):tpS d (ts.getD i qL):=by
 rw [List.getD_eq_getElem?_getD]
 cases hx:ts[i]? with
 | none=>exact qaR d
 | some v=>exact h v (List.mem_of_getElem? hx)
theorem qwV {N:Nms} (hN:qys N) {op n:Int} {nm sb:Str} {d:Nat} {ts:List Tp} (h:∀t ∈ ts,tpS (3 + d) t) (hl:ts.length ≤ 20):tpS (3 + (d + 1)) (qa5 N op n nm sb ts).1:=by
 have up:∀{t},tpS (3 + d) t→tpS (3 + (d + 1)) t:=fun h=>qkT h
 have b3:∀{t},tpS 3 t→tpS (3 + (d + 1)) t:=fun h=>qAt (by omega) h
 have fT:∀b t,tpS (3 + (d + 1)) t→tpS (3 + (d + 1)) (ifT b t).1:=fun b t ht=>by
  cases b
  ·exact qaR _
  ·exact ht
 unfold qa5
 cases qAk op with
 | true=>
  rw [cond_true]
  cases hx:N.ports.find? (fun p=>p.1 == nm) with
  | none=>exact qaR _
  | some p=>
   have hp:=hN.p p (List.mem_of_find?_eq_some hx)
   simp only
   cases N.bagq
   ·exact qaR _
   ·cases op == 7
    ·cases op == 8
     ·cases op == 9
      ·exact fT _ _ (b3 hp)
      ·exact fT _ _ (qaR _)
     ·exact qej _ _
    ·exact qaR _
 | false=>
  rw [cond_false]
  cases op == 0
  ·cases op == 1 || op == 2
   ·cases op == 3
    ·cases op == 4
     ·cases op == 5
      ·cases op == 6
       ·cases op == 11
        ·cases op == 12
         ·cases op == 14 || op == 23 || op == 24
          ·cases op == 20 || op == 21 || op == 22
           ·cases op == 25
            ·exact fT _ _ (qaR _)
            ·exact fT _ _ (up (qhP h 1))
           ·exact fT _ _ (qej _ _)
          ·exact fT _ _ (qej _ _)
         ·exact fT _ _ (up (qhP (qus (qhP h 0)) n.toNat))
        ·cases N.bagq
         ·exact qaR _
         ·exact ⟨by simp,fun x hx=>by
           have:x = qL:=by simpa using hx
           rw [this]
           exact qaR _⟩
       ·rw [cond_true]
        cases ilt 3 (qdD (.mk 3 ts):Nat)
        ·exact ⟨hl,h⟩
        ·exact qaR _
      ·rw [cond_true,cond_false,cond_false,cond_false,cond_false]
       cases hx:N.oth.find? (fun x=>x.1 == nm && x.2.1 == sb) with
       | none=>exact qaR _
       | some p=>exact b3 (hN.o p (List.mem_of_find?_eq_some hx))
     ·rw [cond_true,cond_false,cond_false,cond_false]
      cases hx:N.vars.find? (fun x=>x.2.1 == nm) with
      | none=>exact qaR _
      | some p=>exact b3 (hN.v p (List.mem_of_find?_eq_some hx))
    ·exact qej _ _
   ·exact qej _ _
  ·exact qaR _
theorem qpo {f:Exl→qiN} {k:List Tp→qiN} {d e:Nat} (hk:∀ts:List Tp,(∀t ∈ ts,tpS d t)→ts.length ≤ 20→tpS e (k ts).1):∀(aS:List Exl) (ts:List Tp),(∀a ∈ aS,tpS d (f a).1)→(∀t ∈ ts,tpS d t)→ts.length + aS.length ≤ 20→tpS e (qdj f k aS ts).1
 | [],ts,hf,h,hl=>by rw [qdj];exact hk ts h (by simpa using hl)
 | a :: aS,ts,hf,h,hl=>by
  rw [qdj]
  cases (f a).2 == 0 with
  | false=>exact qaR _
  | true=>
   refine qpo hk aS _ (fun a ha=>hf a (List.mem_cons_of_mem _ ha)) (fun t ht=>?_) (by simp at hl ⊢;omega)
   rcases List.mem_append.1 ht with ht | ht
   ·exact h t ht
   ·rw [List.mem_singleton.1 ht];exact hf a (List.mem_cons_self ..)
theorem qlU {f:Exl→qiN} {k:List Tp→qiN} {aS:List Exl} {i:Nat} {ts:List Tp} (hi:i < aS.length):qdj f k (aS.drop i) ts = bif !((f aS[i]).2 == 0) then (qL,(f aS[i]).2) else qdj f k (aS.drop (i + 1)) (ts ++ [(f aS[i]).1]):=by
 rw [List.drop_eq_getElem_cons hi,qdj]
def KO (N:Nms) (f:Exl→qiN) (e:Exl):Prop:=∀h:List qb,∃ts m,Wd (.fn 46 [] []) [exV e,.agg (qfb N)] h = some (.ret (.tup [.agg ts,.int .i64 (f e).2]),h ++ m,false)∧Ta (qbV h.length (h ++ m)) (f e).1 ts
theorem TSl.next2 {H:Nat→Option qb} {G:List qb} {b base:Nat} {ts:List Tp} {V:qa} (h:TSl H G b ts V) (hc:Cov H G) (hb:b ≤ G.length) (hl:ts.length ≤ 100000) {t:Tp} {row:List qa} (ht:Ta H t row) :
  ∃G',hop base (.app 2) [V,.sl G.length 0 1 1 0] (G ++ [.cells row]) = some (.sl (G.length + 1) 0 (ts.length + 1) (ts.length + 1) 2,G',false)∧TSl H G' b (ts ++ [t]) (.sl (G.length + 1) 0 (ts.length + 1) (ts.length + 1) 2)∧Cov H G'∧G'.length = G.length + 2∧∀i,i < G.length→(∀id a b c d,V = .sl id a b c d→i ≠ id)→G'[i]? = G[i]?:=by
 have h2:(G ++ [qb.cells row])[G.length]? = some (.cells row):=by rw [qQ];rfl
 have hlen:(G ++ [qb.cells row]).length = G.length + 1:=by simp
 have hnone:H (G.length + 1) = none:=hc.late (by omega)
 have tl:(ts ++ [t]).length = ts.length + 1:=by simp
 rcases h with ⟨rfl,rfl⟩ | ⟨id,rs,rfl,h1,hne,h3,h4,h5,h6⟩
 ·refine ⟨_,by rw [qbx h2 ht.length ht.still,hlen];rfl,.inr ⟨G.length + 1,[row],rfl,by omega,by simp,?_,hnone,rfl,fun i a c=>?_⟩,(hc.more _).more _,by simp,fun i hi _=>?_⟩
  ·rw [←hlen,qQ]
   simp
  ·have:i = 0:=by simp at c;omega
   subst this
   exact ht
  ·rw [List.append_assoc,List.getElem?_append_left (by omega)]
 ·have hlt:id < G.length:=(List.getElem?_eq_some_iff.1 h3).1
  have hi2:(G ++ [qb.cells row])[id]? = some (.cells rs.flatten):=by rw [List.getElem?_append_left hlt];exact h3
  have hr2:=(Ta.elem h5 h6).1
  have hst:qbl rs.flatten:=fun c hcx=>by
   obtain ⟨r,hr,hcr⟩:=List.mem_flatten.1 hcx
   obtain ⟨i,hi,rfl⟩:=List.getElem_of_mem hr
   exact (h6 i (by omega) hi).still c hcr
  have hce:rs.flatten.length = ts.length * 2:=by rw [qbG hr2,h5]
  refine ⟨_,by rw [qbY hi2 h2 ht.length hce ht.still hst (by omega) (by omega),hlen],.inr ⟨G.length + 1,rs ++ [row],by rw [tl],by omega,by simp,?_,hnone,by simp [h5],fun i a c=>?_⟩,((hc.more _).set h4 _).more _,by simp,fun i hi hne=>?_⟩
  ·rw [show G.length + 1 = ((G ++ [qb.cells row]).set id .dead).length by simp,qQ]
   simp
  ·by_cases hi:i < ts.length
   ·rw [List.getElem_append_left hi,List.getElem_append_left (by omega)]
    exact h6 i hi (by omega)
   ·have:i = ts.length:=by simp at a;omega
    subst this
    rw [List.getElem_append_right (by omega),List.getElem_append_right (by omega)]
    simp only [h5,Nat.sub_self,List.getElem_cons_zero]
    exact ht
  ·rw [List.getElem?_append_left (by simp;omega),List.getElem?_set_ne (by have:=hne _ _ _ _ _ rfl;omega),List.getElem?_append_left (by omega)]
theorem TSl.head {H:Nat→Option qb} {G:List qb} {b:Nat} {ts:List Tp} {V:qa} (h:TSl H G b ts V) {i:Nat} (hi:i < ts.length):∃id row,V = .sl id 0 ts.length ts.length 2∧id < G.length∧b ≤ id∧qav 2 V (.int .i64 (i:Nat)) = some (.ptr id (i * 2))∧ldB (some 2) (i * 2) G[id]? = some (.agg row)∧Ta H ts[i] row:=by
 rcases h with ⟨rfl,_⟩ | ⟨id,rs,rfl,h1,h2,h3,h4,h5,h6⟩
 ·simp at hi
 ·refine ⟨id,rs[i],rfl,(List.getElem?_eq_some_iff.1 h3).1,h1,qcf hi,?_,h6 i hi (by omega)⟩
  rw [h3,ldB]
  exact (Ta.elem h5 h6).2 i (by omega)
theorem qBX {aS:List Exl} {i:Nat} (hi:i < aS.length):qav 5 (.lst (aS.map exV) .no) (.int .i64 (i:Nat)) = some (.iptr aS[i].enc 0):=by
 have:=qaM (k:=5) (xs:=aS.map exV) (f:=.no) (j:=.i64) (x:=exV aS[i]) (by rw [List.getElem?_map,List.getElem?_eq_getElem hi];rfl) (by obtain ⟨op,n,nm,sb,as'⟩:=aS[i];rw [qN];rfl)
 exact this
section
variable {h:List qb}
def kb (N:Nms) (op n:Int) (nm sb:Str) (aS:List Exl):List qb:=[.cells [.int .i64 op,.int .i64 n,.str nm,.str sb,.lst (aS.map exV) .no],.cells (qfb N),.cells [.int .i64 0,.lst [] .full],.cells [.int .i64 0,.lst [] .full],.cells [.int .i64 0,.lst [] .full],.cells [.int .i64 1,.lst [] .full]]
structure KS (N:Nms) (op n:Int) (nm sb:Str) (aS:List Exl) (h:List qb) (D:Nat) (K:Nat→Option qb) (G:List qb) (ts:List Tp) (V:qa):Prop where
 old:∀i,i < h.length + 6→G[i]? = (h ++ kb N op n nm sb aS)[i]?
 len:h.length + 6 ≤ G.length
 cov:Cov K G
 bse:∀j x,K j = some x→h.length + 6 ≤ j
 sl:TSl K G (h.length + 6) ts V
 shp:∀t ∈ ts,tpS D t
theorem KS.at {N:Nms} {op n:Int} {nm sb:Str} {aS:List Exl} {D:Nat} {K:Nat→Option qb} {G:List qb} {ts:List Tp} {V:qa} (S:KS N op n nm sb aS h D K G ts V) (j:Nat) (hj:j < 6):G[h.length + j]? = (kb N op n nm sb aS)[j]?:=by
 rw [S.old _ (by omega),List.getElem?_append_right (by omega),Nat.add_sub_cancel_left]
theorem KS.tk {N:Nms} {op n:Int} {nm sb:Str} {aS:List Exl} {D:Nat} {K:Nat→Option qb} {G:List qb} {ts:List Tp} {V:qa} (S:KS N op n nm sb aS h D K G ts V):G.take h.length = h:=by
 apply List.ext_getElem?
 intro i
 rw [List.getElem?_take]
 have:=S.len
 split
 ·rw [S.old i (by omega),List.getElem?_append_left ‹_›]
 ·rw [List.getElem?_eq_none (by omega)]
theorem qpq (N:Nms) (op n:Int) (nm sb:Str) (aS:List Exl) (f:Exl→qiN) (kk:List Tp→qiN) (D:Nat) (hD:D ≤ 900) (ha:∀a ∈ aS,KO N f a∧tpS D (f a).1) (hl:aS.length ≤ 20) :
  ∀k st,(∃(tt:List qa) (G:List qb) (i:Nat) (K:Nat→Option qb) (V:qa) (ts:List Tp),st = ⟨tt,G,false⟩∧tt.length = 285∧lkp tt 2 = .ptr h.length 0∧lkp tt 3 = .ptr (h.length + 1) 0∧lkp tt 4 = .ptr (h.length + 2) 0∧lkp tt 6 = .ptr (h.length + 3) 0∧lkp tt 7 = .ptr (h.length + 4) 0∧lkp tt 8 = .ptr (h.length + 5) 0∧lkp tt 9 = V∧lkp tt 10 = .bool (ts.all fun t=>qas t == 0)∧lkp tt 11 = .bool (ts.all fun t=>qas t == 1)∧lkp tt 12 = .bool (ts.all fun t=>qaV t (ts.getD 0 qL))∧lkp tt 13 = .int .i64 (i:Nat)∧i + k = aS.length∧ts.length = i∧KS N op n nm sb aS h D K G ts V∧qdj f kk aS [] = qdj f kk (aS.drop i) ts)→
   ∃x st',qm h.length Wd (.loop qjp) st = some (x,st')∧(∃(tt:List qa) (G:List qb) (K:Nat→Option qb) (V:qa) (ts:List Tp),st' = ⟨tt,G,false⟩∧tt.length = 285∧lkp tt 2 = .ptr h.length 0∧lkp tt 3 = .ptr (h.length + 1) 0∧lkp tt 4 = .ptr (h.length + 2) 0∧((x = .exit 0∧lkp tt 6 = .ptr (h.length + 3) 0∧lkp tt 7 = .ptr (h.length + 4) 0∧lkp tt 8 = .ptr (h.length + 5) 0∧lkp tt 9 = V∧lkp tt 10 = .bool (ts.all fun t=>qas t == 0)∧lkp tt 11 = .bool (ts.all fun t=>qas t == 1)∧lkp tt 12 = .bool (ts.all fun t=>qaV t (ts.getD 0 qL))∧ts.length = aS.length∧KS N op n nm sb aS h D K G ts V∧qdj f kk aS [] = kk ts)∨(x = .ret∧G.take h.length = h∧h.length + 2 < G.length∧G[h.length + 2]? = some (.cells [.int .i64 0,.lst [] .full])∧lkp tt 5 = .int .i64 (qdj f kk aS []).2∧(qdj f kk aS []).1 = qL))):=by
 refine qD _ _ ?_
 rintro k st ⟨tt,G,i,K,V,ts,rfl,ht,e2,e3,e4,e6,e7,e8,e9,e10,e11,e12,e13,hik,htl,S,hA⟩
 generalize he:qm h.length Wd qjp _ = r
 have hGl:=S.len
 have b0:G[h.length]? = some (.cells [.int .i64 op,.int .i64 n,.str nm,.str sb,.lst (aS.map exV) .no]):=S.at 0 (by omega)
 have b1:G[h.length + 1]? = some (.cells (qfb N)):=S.at 1 (by omega)
 have b2:G[h.length + 2]? = some (.cells [.int .i64 0,.lst [] .full]):=S.at 2 (by omega)
 have b3:G[h.length + 3]? = some (.cells [.int .i64 0,.lst [] .full]):=S.at 3 (by omega)
 obtain ⟨vd,vs,vw,vl⟩:=S.sl.facts
 rcases Nat.lt_or_ge i aS.length with hi | hi
 ·have c1E:ilt (i:Int) (aS.length:Int) = true:=by rw [qf];simp;omega
  have w:=q9 (n:=i) (by omega)
  obtain ⟨hko,hks⟩:=ha _ (List.getElem_mem hi)
  rw [qlU hi] at hA
  have x1:=qBX hi
  obtain ⟨rs,m,hcall,hta⟩:=hko (G ++ [.cells [.int .i64 0,.lst [] .full]])
  generalize hfa:f aS[i] = fa at *
  obtain ⟨t,x0⟩:=fa
  simp only at hA hcall hta hks
  obtain ⟨kk',LL,rfl,ld,lsb,lw⟩:=hta.two
  generalize aS[i] = a at *
  obtain ⟨aop,an',anm,asb,aas⟩:=a
  rw [qN,qfb] at hcall
  rw [qci] at x1
  rw [qfb] at b1
  have hB:∀j,j < 6→Nat.ble h.length (h.length + j) = true:=fun j _=>qi (by omega)
  have hG0:Nat.ble h.length G.length = true:=qi (by omega)
  cases cq0:(x0 == 0) with
  | false=>
   simp only [cq0,Bool.not_false,cond_true] at hA
   have p2:∀X,(G ++ X)[h.length + 3]? = some (.cells [.int .i64 0,.lst [] .full]):=fun X=>by rw [List.getElem?_append_left (by omega)];exact b3
   have p4:∀X,(G ++ X)[h.length + 2]? = some (.cells [.int .i64 0,.lst [] .full]):=fun X=>by rw [List.getElem?_append_left (by omega)];exact b2
   simp only [sA.1,qjp,simprocAttr,-Int.reduceNatCast',ht,e2,e3,e4,e6,e7,e8,e9,e10,e11,e12,e13,c1E,b0,b1,b2,b3,x1,hcall,ld,lsb,lw,cq0,show h.length < G.length by omega,show h.length + 1 < G.length by omega,show h.length + 2 < G.length by omega,show h.length + 3 < G.length by omega,hG0] at he
   subst he
   refine .inr ⟨_,_,rfl,by simp,_,_,K,V,ts,rfl,by simp only [qc,ht],?_,?_,?_,.inr ⟨rfl,?_,by simp;omega,?_,?_,?_⟩⟩
   ·simp only [sA.1,simprocAttr,-Int.reduceNatCast',ht,e2]
   ·simp only [sA.1,simprocAttr,-Int.reduceNatCast',ht,e3]
   ·simp only [sA.1,simprocAttr,-Int.reduceNatCast',ht,e4]
   ·rw [List.take_append_of_le_length (by simp;omega),List.take_set_of_le (by omega),S.tk]
   ·rw [List.getElem?_append_left (by simp;omega),List.getElem?_set_self (by omega)]
   ·simp only [sA.1,simprocAttr,-Int.reduceNatCast',ht,hA]
   ·rw [hA]
  | true=>
   simp only [cq0,Bool.not_true,cond_false] at hA
   have hlit:=fun (g:List qb)=>qD6 h.length kk' LL ld lsb g
   obtain ⟨X,hX⟩ :∃X,X = G ++ qb.cells [.int .i64 kk',LL] :: m:=⟨_,rfl⟩
   have hXl:X.length = G.length + (m.length + 1):=by rw [hX];simp
   obtain ⟨K',hK'⟩ :∃K':Nat→Option qb,K' = fun i=>if i < G.length then K i else if i = G.length then none else X[i]?:=⟨_,rfl⟩
   have o1:∀i,i < G.length→K' i = K i:=fun i hi=>by rw [hK'];exact if_pos hi
   have o2:K' G.length = none:=by rw [hK'];simp
   have o3:∀i,G.length < i→K' i = X[i]?:=fun i hi=>by rw [hK'];simp only;rw [if_neg (by omega),if_neg (by omega)]
   have oX:∀i,i < G.length→X[i]? = G[i]?:=fun i hi=>by rw [hX,List.getElem?_append_left hi]
   have hsub:Sub K K':=fun i x hx=>by rw [o1 i (S.cov.lt hx)];exact hx
   have hcov:Cov K' X:=fun i x hx=>by
    rcases Nat.lt_trichotomy i G.length with hi | hi | hi
    ·rw [o1 i hi] at hx;rw [oX i hi];exact S.cov i x hx
    ·subst hi;rw [o2] at hx;cases hx
    ·rw [o3 i hi] at hx;exact hx
   have hbse:∀j x,K' j = some x→h.length + 6 ≤ j:=fun j x hx=>by
    by_cases hj:j < G.length
    ·rw [o1 j hj] at hx;exact S.bse j x hx
    ·omega
   have hta':Ta K' t [.int .i64 kk',LL]:=hta.mono fun i x hx=>by
    by_cases hi:(G ++ [qb.cells [.int .i64 0,.lst [] .full]]).length ≤ i
    ·rw [qY hi] at hx
     simp at hi
     rw [o3 i (by omega),hX]
     rw [List.append_assoc,List.getElem?_append_right (by omega)] at hx
     rw [List.getElem?_append_right (by omega)]
     obtain ⟨q,hq⟩ :∃q,i - G.length = q + 1:=⟨i - G.length - 1,by omega⟩
     rw [hq] at hx ⊢
     simpa using hx
    ·rw [qaq hi] at hx
     cases hx
   have hV2:TSl K' X (h.length + 6) ts V:=S.sl.keep hsub (fun j hj hn=>by rw [o1 j hj];exact hn) fun j _ hj=>oX j hj
   obtain ⟨G',hap,hV3,hK3,hlen,hold⟩:=hV2.next2 (base:=h.length) hcov (by omega) (by omega) hta'
   have hne:∀j,j < h.length + 6∨j = G.length→∀id a b c d,V = .sl id a b c d→j ≠ id:=fun j hj id a b c d e=>by
    rcases S.sl with ⟨_,e'⟩ | ⟨id',rs',e',h1,_,h3,_⟩
    ·rw [e'] at e;cases e
    ·rw [e'] at e
     cases e
     have:=(List.getElem?_eq_some_iff.1 h3).1
     omega
   obtain ⟨rid,row,hrV,hrl,hrb,y1,y2,y3⟩:=hV3.head (i:=0) (by simp)
   have y1:qav 2 (.sl (X.length + 1) 0 (ts.length + 1) (ts.length + 1) 2) (.int .i64 0) = some (.ptr rid 0):=by
    have:=y1
    simpa using this
   have y2:ldB (some 2) 0 G'[rid]? = some (.agg row):=by simpa using y2
   have y4:(ts ++ [t])[0]'(by simp) = (ts ++ [t]).getD 0 qL:=by
    rw [List.getD_eq_getElem?_getD,List.getElem?_eq_getElem (by simp)]
    rfl
   rw [y4] at y3
   have hs1:=qfe D hks _ _ row G' hta' y3 hK3
   obtain ⟨rk,rL,rfl,rd,rst,rw'⟩:=y3.two
   have e14:G'[G.length]? = some (.cells [.int .i64 kk',LL]):=by
    rw [hold _ (by omega) (hne _ (.inr rfl)),hX,List.getElem?_append_right (by omega),Nat.sub_self]
    rfl
   have l14:G.length < G'.length:=by omega
   have eap:hop h.length (.app 2) [V,.sl (G.length + (m.length + 1)) 0 1 1 0] (G ++ qb.cells [.int .i64 kk',LL] :: (m ++ [qb.cells [.int .i64 kk',LL]])) = some (.sl (X.length + 1) 0 (ts.length + 1) (ts.length + 1) 2,G',false):=by
    have e2:G ++ qb.cells [.int .i64 kk',LL] :: (m ++ [qb.cells [.int .i64 kk',LL]]) = X ++ [qb.cells [.int .i64 kk',LL]]:=by rw [hX];simp
    rw [e2,←hXl]
    exact hap
   have hfl:((ts ++ [t]).all fun z=>qaV z ((ts ++ [t]).getD 0 qL)) = ((ts.all fun z=>qaV z (ts.getD 0 qL)) && qaV t ((ts ++ [t]).getD 0 qL)):=by
    cases ts with
    | nil=>simp
    | cons a l=>simp [Bool.and_assoc]
   have hkt:qas t = kk':=by
    obtain ⟨a,b⟩:=t
    obtain ⟨L0,e,_⟩:=hta'.lp
    cases e
    rfl
   have hfi:((ts ++ [t]).all fun z=>qas z == 0) = ((ts.all fun z=>qas z == 0) && (kk' == 0)):=by
    simp [hkt]
   have hfb:((ts ++ [t]).all fun z=>qas z == 1) = ((ts.all fun z=>qas z == 1) && (kk' == 1)):=by
    simp [hkt]
   generalize hq1:(ts.all fun z=>qas z == 0) = f1 at *
   generalize hq2:(ts.all fun z=>qas z == 1) = f2 at *
   generalize hq3:(ts.all fun z=>qaV z (ts.getD 0 qL)) = f3 at *
   generalize hq4:qaV t ((ts ++ [t]).getD 0 qL) = f4 at *
   have S':KS N op n nm sb aS h D K' G' (ts ++ [t]) (.sl (X.length + 1) 0 (ts.length + 1) (ts.length + 1) 2):=⟨fun j hj=>by rw [hold j (by omega) (hne j (.inl hj)),oX j (by omega)];exact S.old j hj,by omega,hK3,hbse,hV3,fun z hz=>by
    rcases List.mem_append.1 hz with hz | hz
    ·exact S.shp z hz
    ·rw [List.mem_singleton.1 hz];exact hks⟩
   cases f1 <;> cases f2 <;> cases f3 <;>
   simp only [sA.1,qjp,simprocAttr,-Int.reduceNatCast',ht,e2,e3,e4,e6,e7,e8,e9,e10,e11,e12,e13,c1E,b0,b1,b2,b3,x1,hcall,ld,lsb,lw,cq0,show h.length < G.length by omega,show h.length + 1 < G.length by omega,show h.length + 2 < G.length by omega,show h.length + 3 < G.length by omega,hG0,vd,vs,vw,hlit,eap,e14,l14,y1,y2,hs1,w] at he <;>
   (subst he;refine .inl ⟨_,k - 1,rfl,by omega,_,G',i + 1,K',_,ts ++ [t],rfl,by simp only [qc,ht],?_,?_,?_,?_,?_,?_,?_,?_,?_,?_,?_,by omega,by simp [htl],S',hA⟩) <;>
   first
   | (simp only [sA.1,simprocAttr,-Int.reduceNatCast',ht,e2,e3,e4,e6,e7,e8,hfi,hfb,hfl,Bool.true_and,Bool.false_and,w];done)
   | skip
 ·have c1E:ilt (i:Int) (aS.length:Int) = false:=by rw [qf];simp;omega
  simp only [sA.1,qjp,simprocAttr,-Int.reduceNatCast',ht,e2,e13,b0,c1E,show h.length < G.length by omega] at he
  subst he
  rw [List.drop_eq_nil_of_le hi,qdj] at hA
  refine .inr ⟨_,_,rfl,by simp,_,G,K,V,ts,rfl,by simp only [qc,ht],?_,?_,?_,.inl ⟨rfl,?_,?_,?_,?_,?_,?_,?_,by omega,S,hA⟩⟩
  all_goals simp only [sA.1,simprocAttr,-Int.reduceNatCast',ht,e2,e3,e4,e6,e7,e8,e9,e10,e11,e12]
end
mutual
theorem qm8 {n:Nat} {K:Nat→Option qb} (hK:∀i x,K i = some x→n ≤ i) {H:Nat→Option qb}:∀(t:Tp) {cs:List qa},Ta K t cs→qv n cs = true→Ta H t cs
 | .mk k l,cs,h,hl=>by
  obtain ⟨L,rfl,rs,h1,h2,h3⟩:=h.lp
  simp only [qv,Bool.and_eq_true] at hl
  rcases h3 with ⟨f,hf,rfl⟩ | ⟨id,m,rfl,h4⟩
  ·have hl2:qv n (rs.map .agg) = true:=hl.2.1
   exact .lst k l rs f hf h1 fun i a b=>qj9 hK l rs h1 (fun i a b=>h2 i a b) hl2 i a b
  ·have:=hK _ _ h4
   have h5:Nat.blt id n = true:=hl.2.1
   rw [qcN this] at h5
   cases h5
theorem qj9 {n:Nat} {K:Nat→Option qb} (hK:∀i x,K i = some x→n ≤ i) {H:Nat→Option qb}:∀(l:List Tp) (rs:List (List qa)),rs.length = l.length→(∀(i:Nat) (h:i < l.length) (h':i < rs.length),Ta K l[i] rs[i])→qv n (rs.map .agg) = true→∀(i:Nat) (h:i < l.length) (h':i < rs.length),Ta H l[i] rs[i]
 | [],_,_,_,_,i,h,_=>by simp at h
 | t :: l,[],h1,_,_,_,_,_=>by simp at h1
 | t :: l,r :: rs,h1,h2,h3,i,h,h'=>by
  rw [List.map_cons,qv,Bool.and_eq_true] at h3
  have h3a:qv n r = true:=h3.1
  cases i with
  | zero=>exact qm8 hK t (h2 0 (by simp) (by simp)) h3a
  | succ i=>exact qj9 hK l rs (by simpa using h1) (fun i a b=>h2 (i + 1) (by simp;omega) (by simp;omega)) h3.2 i (by simpa using h) (by simpa using h')
end
theorem qh {h F:List qb} {b:Nat} {t:Tp} {rs:List qa} (f:Int) (hT:Ta (qbV b F) t rs) (hb:h.length ≤ b) (hF:F.take h.length = h):∃m,qat h.length (.ret (.tup [.agg rs,.int .i64 f])) F false = (.ret (.tup [.agg rs,.int .i64 f]),h ++ m,false)∧Ta (qbV h.length (h ++ m)) t rs:=by
 obtain ⟨m,hm,hm2⟩:=qK (v:=.tup [.agg rs,.int .i64 f]) hF
 refine ⟨m,hm,?_⟩
 cases hl:(qa.tup [.agg rs,.int .i64 f]).lower h.length with
 | true=>
  have hl2:qv h.length rs = true:=by
   simp only [qa.lower,qv,Bool.and_true] at hl
   exact hl
  refine qm8 (n:=h.length) (K:=qbV b F) (fun i x hx=>?_) t hT hl2
  by_cases hi:b ≤ i
  ·omega
  ·rw [qaq hi] at hx;cases hx
 | false=>
  rw [hm2 hl]
  refine hT.mono fun i x hx=>?_
  by_cases hi:b ≤ i
  ·rw [qY hi] at hx;rw [qY (by omega)];exact hx
  ·rw [qaq hi] at hx;cases hx
def qeE:Option (Str×Tp)→List qa
 | none=>[.str [],.int .i64 0,.lst [] .full]
 | some p=>.str p.1 :: p.2.enc
theorem qfv {α:Type} {p:α→Bool} {l:List α} {i:Nat} (hi:i < l.length):(l.drop i).find? p = if p l[i] then some l[i] else (l.drop (i + 1)).find? p:=by
 rw [List.drop_eq_getElem_cons hi,List.find?_cons]
 cases p l[i] <;> rfl
theorem qwT {l:List (Str×Tp)} {i:Nat} (hi:i < l.length):qav 3 (.lst (l.map npV) .no) (.int .i64 (i:Nat)) = some (.iptr (.str l[i].1 :: l[i].2.enc) 0):=by
 exact qaM (k:=3) (x:=npV l[i]) (by rw [List.getElem?_map,List.getElem?_eq_getElem hi];rfl) (by obtain ⟨s,k,l'⟩:=l[i];simp [npV,qai,qa.cells])
theorem qlT {l:List (Str×Str×Tp)} {i:Nat} (hi:i < l.length):qav 4 (.lst (l.map nvV) .no) (.int .i64 (i:Nat)) = some (.iptr (.str l[i].1 :: .str l[i].2.1 :: l[i].2.2.enc) 0):=by
 exact qaM (k:=4) (x:=nvV l[i]) (by rw [List.getElem?_map,List.getElem?_eq_getElem hi];rfl) (by obtain ⟨s,s',k,l'⟩:=l[i];simp [nvV,qai,qa.cells])
section
variable {h:List qb}
theorem qc9 (N:Nms) (op n:Int) (nm sb:Str) (aS:List Exl) (G:List qb) (P:Nat) (hP:G.length = P) (hP2:h.length + 6 ≤ P) (b0:G[h.length]? = some (.cells [.int .i64 op,.int .i64 n,.str nm,.str sb,.lst (aS.map exV) .no])) (b1:G[h.length + 1]? = some (.cells (qfb N))) (hl:N.ports.length ≤ 1000) (v4 v6 v7 v8 v9 v10 v11 v12:qa) :
  ∀k st,(∃(tt:List qa),st = ⟨tt,G ++ [.cells (qeE ((N.ports.drop k).find? fun p=>p.1 == nm))],false⟩∧k ≤ N.ports.length∧tt.length = 285∧lkp tt 2 = .ptr h.length 0∧lkp tt 3 = .ptr (h.length + 1) 0∧lkp tt 4 = v4∧lkp tt 6 = v6∧lkp tt 7 = v7∧lkp tt 8 = v8∧lkp tt 9 = v9∧lkp tt 10 = v10∧lkp tt 11 = v11∧lkp tt 12 = v12∧lkp tt 16 = .ptr P 0∧lkp tt 17 = .bool ((N.ports.drop k).find? fun p=>p.1 == nm).isSome∧lkp tt 18 = .int .i64 ((k:Int) - 1))→
   ∃x st',qm h.length Wd (.loop qge) st = some (x,st')∧(∃(tt:List qa),st' = ⟨tt,G ++ [.cells (qeE (N.ports.find? fun p=>p.1 == nm))],false⟩∧tt.length = 285∧lkp tt 2 = .ptr h.length 0∧lkp tt 3 = .ptr (h.length + 1) 0∧lkp tt 4 = v4∧lkp tt 6 = v6∧lkp tt 7 = v7∧lkp tt 8 = v8∧lkp tt 9 = v9∧lkp tt 10 = v10∧lkp tt 11 = v11∧lkp tt 12 = v12∧lkp tt 16 = .ptr P 0∧lkp tt 17 = .bool (N.ports.find? fun p=>p.1 == nm).isSome∧x = .exit 2):=by
 refine qD _ _ ?_
 rintro k st ⟨tt,rfl,hkl,ht,e2,e3,e4,e6,e7,e8,e9,e10,e11,e12,e16,e17,e18⟩
 generalize he:qm h.length Wd qge _ = r
 rw [qfb] at b1
 have hB:Nat.ble h.length G.length = true:=qi (by omega)
 have l0:h.length < G.length:=by omega
 have l1:h.length + 1 < G.length:=by omega
 cases k with
 | zero=>
  have cq1:ile 0 (((0:Nat):Int) - 1) = false:=by kernel_rfl
  rw [List.drop_zero] at he e17
  simp only [sA.1,qge,simprocAttr,-Int.reduceNatCast',ht,e18,cq1] at he
  subst he
  refine .inr ⟨_,_,rfl,by simp,_,rfl,by simp only [qc,ht],?_,?_,?_,?_,?_,?_,?_,?_,?_,?_,?_,?_,rfl⟩
  all_goals simp only [sA.1,simprocAttr,-Int.reduceNatCast',ht,e2,e3,e4,e6,e7,e8,e9,e10,e11,e12,e16,e17]
 | succ k=>
  have hi:k < N.ports.length:=by omega
  have e18:lkp tt 18 = .int .i64 (k:Nat):=by rw [e18];congr 1;omega
  have cq1:ile 0 (k:Int) = true:=by rw [qaw];simp
  have w:IntKind.i64.wrap ((k:Int) - 1) = (k:Int) - 1:=by rw [IntKind.wrap_i64];omega
  have x1:=qwT hi
  have hf:=qfv (p:=fun p:Str×Tp=>p.1 == nm) hi
  generalize N.ports[k] = q at *
  obtain ⟨qn,qk,ql⟩:=q
  simp only at hf
  rw [qai] at x1
  cases cq2:(qn == nm) with
  | false=>
   rw [cq2] at hf
   simp only [sA.1,qge,simprocAttr,-Int.reduceNatCast',ht,e2,e3,e18,cq1,b0,b1,l0,l1,x1,cq2,w] at he
   subst he
   refine .inl ⟨_,k,rfl,by omega,_,by rw [hf];rfl,by omega,by simp only [qc,ht],?_,?_,?_,?_,?_,?_,?_,?_,?_,?_,?_,?_,?_⟩
   all_goals simp only [sA.1,simprocAttr,-Int.reduceNatCast',ht,e2,e3,e4,e6,e7,e8,e9,e10,e11,e12,e16,e17,hf,if_false,Bool.false_eq_true]
  | true=>
   rw [cq2] at hf
   generalize (N.ports.drop (k + 1)).find? (fun p=>p.1 == nm) = o at *
   have hpl:∃a b c,qeE o = [a,b,c]:=by
    cases o with
    | none=>exact ⟨_,_,_,rfl⟩
    | some p=>
     obtain ⟨s,k',l'⟩:=p
     exact ⟨_,_,_,by rw [qeE,qai]⟩
   obtain ⟨pa,pb,pc,hp⟩:=hpl
   rw [hp] at he
   subst hP
   simp only [sA.1,qge,simprocAttr,-Int.reduceNatCast',ht,e2,e3,e16,e18,cq1,b0,b1,l0,l1,x1,cq2,w,hB] at he
   subst he
   refine .inl ⟨_,k,rfl,by omega,_,by rw [hf,if_pos rfl,qeE,qai],by omega,by simp only [qc,ht],?_,?_,?_,?_,?_,?_,?_,?_,?_,?_,?_,?_,?_⟩
   all_goals simp only [sA.1,simprocAttr,-Int.reduceNatCast',ht,e2,e3,e4,e6,e7,e8,e9,e10,e11,e12,e16,e17,hf,if_true,Option.isSome_some]
theorem qps (N:Nms) (op n:Int) (nm sb:Str) (aS:List Exl) (G:List qb) (hP2:h.length + 6 ≤ G.length) (b0:G[h.length]? = some (.cells [.int .i64 op,.int .i64 n,.str nm,.str sb,.lst (aS.map exV) .no])) (b1:G[h.length + 1]? = some (.cells (qfb N))) (b2:G[h.length + 2]? = some (.cells [.int .i64 0,.lst [] .full])) (hl:N.vars.length ≤ 1000) :
  ∀k st,(∃(tt:List qa) (i:Nat),st = ⟨tt,G,false⟩∧tt.length = 285∧lkp tt 2 = .ptr h.length 0∧lkp tt 3 = .ptr (h.length + 1) 0∧lkp tt 4 = .ptr (h.length + 2) 0∧lkp tt 6 = .ptr (h.length + 3) 0∧lkp tt 19 = .int .i64 (i:Nat)∧i + k = N.vars.length∧N.vars.find? (fun x=>x.2.1 == nm) = (N.vars.drop i).find? (fun x=>x.2.1 == nm))→
   ∃x st',qm h.length Wd (.loop qjq) st = some (x,st')∧(∃(tt:List qa) (F:List qb) (rs:List qa),st' = ⟨tt,F,false⟩∧tt.length = 285∧lkp tt 4 = .ptr (h.length + 2) 0∧((x = .exit 5∧F = G∧lkp tt 6 = .ptr (h.length + 3) 0∧N.vars.find? (fun x=>x.2.1 == nm) = none)∨(x = .ret∧F = G.set (h.length + 2) (.cells rs)∧lkp tt 5 = .int .i64 0∧∃y,N.vars.find? (fun x=>x.2.1 == nm) = some y∧rs = y.2.2.enc))):=by
 refine qD _ _ ?_
 rintro k st ⟨tt,i,rfl,ht,e2,e3,e4,e6,ei,hik,hf⟩
 generalize he:qm h.length Wd qjq _ = r
 rw [qfb] at b1
 have hB:Nat.ble h.length (h.length + 2) = true:=qi (by omega)
 have l0:h.length < G.length:=by omega
 have l1:h.length + 1 < G.length:=by omega
 have l2:h.length + 2 < G.length:=by omega
 rcases Nat.lt_or_ge i N.vars.length with hi | hi
 ·have cq1:ilt (i:Int) (N.vars.length:Int) = true:=by rw [qf];simp;omega
  have w:=q9 (n:=i) (by omega)
  have x1:=qlT hi
  rw [qfv hi] at hf
  generalize hq:N.vars[i] = q at *
  obtain ⟨qp,qn,qk,ql⟩:=q
  rw [qai] at x1
  simp only at hf
  cases cq2:(qn == nm) with
  | false=>
   rw [cq2] at hf
   simp only [sA.1,qjq,simprocAttr,-Int.reduceNatCast',ht,e2,e3,ei,cq1,b0,b1,l0,l1,x1,cq2,w] at he
   subst he
   refine .inl ⟨_,k - 1,rfl,by omega,_,i + 1,rfl,by simp only [qc,ht],?_,?_,?_,?_,?_,by omega,by simpa using hf⟩
   all_goals simp only [sA.1,simprocAttr,-Int.reduceNatCast',ht,e2,e3,e4,e6,w]
  | true=>
   rw [cq2] at hf
   simp only [sA.1,qjq,simprocAttr,-Int.reduceNatCast',ht,e2,e3,e4,ei,cq1,b0,b1,b2,l0,l1,l2,x1,cq2,w,hB] at he
   subst he
   refine .inr ⟨_,_,rfl,by simp,_,_,[.int .i64 qk,.lst (ql.map tpV) .no],rfl,by simp only [qc,ht],?_,.inr ⟨rfl,rfl,?_,_,by simpa using hf,by rw [qai]⟩⟩
   all_goals simp only [sA.1,simprocAttr,-Int.reduceNatCast',ht,e4]
 ·have cq1:ilt (i:Int) (N.vars.length:Int) = false:=by rw [qf];simp;omega
  rw [List.drop_eq_nil_of_le hi] at hf
  simp only [sA.1,qjq,simprocAttr,-Int.reduceNatCast',ht,e3,ei,b1,l1,cq1] at he
  subst he
  refine .inr ⟨_,_,rfl,by simp,_,_,[],rfl,by simp only [qc,ht],?_,.inl ⟨rfl,rfl,?_,hf⟩⟩
  all_goals simp only [sA.1,simprocAttr,-Int.reduceNatCast',ht,e4,e6]
theorem qts (N:Nms) (op n:Int) (nm sb:Str) (aS:List Exl) (G:List qb) (hP2:h.length + 6 ≤ G.length) (b0:G[h.length]? = some (.cells [.int .i64 op,.int .i64 n,.str nm,.str sb,.lst (aS.map exV) .no])) (b1:G[h.length + 1]? = some (.cells (qfb N))) (b2:G[h.length + 2]? = some (.cells [.int .i64 0,.lst [] .full])) (hl:N.oth.length ≤ 1000) :
  ∀k st,(∃(tt:List qa) (i:Nat),st = ⟨tt,G,false⟩∧tt.length = 285∧lkp tt 2 = .ptr h.length 0∧lkp tt 3 = .ptr (h.length + 1) 0∧lkp tt 4 = .ptr (h.length + 2) 0∧lkp tt 6 = .ptr (h.length + 3) 0∧lkp tt 20 = .int .i64 (i:Nat)∧i + k = N.oth.length∧N.oth.find? (fun x=>x.1 == nm && x.2.1 == sb) = (N.oth.drop i).find? (fun x=>x.1 == nm && x.2.1 == sb))→
   ∃x st',qm h.length Wd (.loop qh1) st = some (x,st')∧(∃(tt:List qa) (F:List qb) (rs:List qa),st' = ⟨tt,F,false⟩∧tt.length = 285∧lkp tt 4 = .ptr (h.length + 2) 0∧((x = .exit 7∧F = G∧lkp tt 6 = .ptr (h.length + 3) 0∧N.oth.find? (fun x=>x.1 == nm && x.2.1 == sb) = none)∨(x = .ret∧F = G.set (h.length + 2) (.cells rs)∧lkp tt 5 = .int .i64 0∧∃y,N.oth.find? (fun x=>x.1 == nm && x.2.1 == sb) = some y∧rs = y.2.2.enc))):=by
 refine qD _ _ ?_
 rintro k st ⟨tt,i,rfl,ht,e2,e3,e4,e6,ei,hik,hf⟩
 generalize he:qm h.length Wd qh1 _ = r
 rw [qfb] at b1
 have hB:Nat.ble h.length (h.length + 2) = true:=qi (by omega)
 have l0:h.length < G.length:=by omega
 have l1:h.length + 1 < G.length:=by omega
 have l2:h.length + 2 < G.length:=by omega
 rcases Nat.lt_or_ge i N.oth.length with hi | hi
 ·have cq1:ilt (i:Int) (N.oth.length:Int) = true:=by rw [qf];simp;omega
  have w:=q9 (n:=i) (by omega)
  have x1:=qlT hi
  rw [qfv hi] at hf
  generalize hq:N.oth[i] = q at *
  obtain ⟨qp,qn,qk,ql⟩:=q
  rw [qai] at x1
  simp only at hf
  cases cq2:(qp == nm) with
  | false=>
   rw [cq2] at hf
   simp only [sA.1,qh1,simprocAttr,-Int.reduceNatCast',ht,e2,e3,ei,cq1,b0,b1,l0,l1,x1,cq2,w] at he
   subst he
   refine .inl ⟨_,k - 1,rfl,by omega,_,i + 1,rfl,by simp only [qc,ht],?_,?_,?_,?_,?_,by omega,by simpa using hf⟩
   all_goals simp only [sA.1,simprocAttr,-Int.reduceNatCast',ht,e2,e3,e4,e6,w]
  | true=>
   rw [cq2] at hf
   cases cq3:(qn == sb) with
   | false=>
    rw [cq3] at hf
    simp only [sA.1,qh1,simprocAttr,-Int.reduceNatCast',ht,e2,e3,ei,cq1,b0,b1,l0,l1,x1,cq2,cq3,w] at he
    subst he
    refine .inl ⟨_,k - 1,rfl,by omega,_,i + 1,rfl,by simp only [qc,ht],?_,?_,?_,?_,?_,by omega,by simpa using hf⟩
    all_goals simp only [sA.1,simprocAttr,-Int.reduceNatCast',ht,e2,e3,e4,e6,w]
   | true=>
    rw [cq3] at hf
    simp only [sA.1,qh1,simprocAttr,-Int.reduceNatCast',ht,e2,e3,e4,ei,cq1,b0,b1,b2,l0,l1,l2,x1,cq2,cq3,w,hB] at he
    subst he
    refine .inr ⟨_,_,rfl,by simp,_,_,[.int .i64 qk,.lst (ql.map tpV) .no],rfl,by simp only [qc,ht],?_,.inr ⟨rfl,rfl,?_,_,by simpa using hf,by rw [qai]⟩⟩
    all_goals simp only [sA.1,simprocAttr,-Int.reduceNatCast',ht,e4]
 ·have cq1:ilt (i:Int) (N.oth.length:Int) = false:=by rw [qf];simp;omega
  rw [List.drop_eq_nil_of_le hi] at hf
  simp only [sA.1,qh1,simprocAttr,-Int.reduceNatCast',ht,e3,ei,b1,l1,cq1] at he
  subst he
  refine .inr ⟨_,_,rfl,by simp,_,_,[],rfl,by simp only [qc,ht],?_,.inl ⟨rfl,rfl,?_,hf⟩⟩
  all_goals simp only [sA.1,simprocAttr,-Int.reduceNatCast',ht,e4,e6]
end
end Go.Proofs.YtnibchoenjmmjaaGreatDoor.AE
