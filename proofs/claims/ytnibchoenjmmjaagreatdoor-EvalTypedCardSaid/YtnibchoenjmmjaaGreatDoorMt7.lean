/- Proved: part 7. No condition. -/
import Derived.Test.YtnibchoenjmmjaaGreatDoorMt6
import Derived.Test.YtnibchoenjmmjaaGreatDoorMt2
import Derived.KernelRfl
import Derived.Laws.BitsLemmas
set_option maxRecDepth 100000
set_option maxHeartbeats 0
open List renaming getElem?_append_left→ja,mem_cons_self→jJ,drop_eq_getElem_cons→jX,getElem?_eq_getElem→ji,append_assoc→jr,map_map→jL,mem_cons_of_mem→jN,getElem?_map→ju,mem_map→jU
open Bool renaming and_eq_true→jm,true_and→jY,false_and→jQ,and_true→jA,true_or→jZ,false_or→jS
namespace Go.Proofs.YtnibchoenjmmjaaGreatDoor.AE
open Go.AE
theorem qGe:(qr9 T.get X0 400 (.fn 6 [] []) [] []).map (λr=>(r.1,r.2.1)) = some (.ret (.bool true),[]):=xk
theorem qAj:∃e,run T.get X0 400 (.fn 6 [] []) [] [] = some (.ret (.bool true),[],e):=by
 have h:=qGe
 rw [qkY] at h
 obtain ⟨⟨r,hh,e⟩,h1,h2⟩:=Option.map_eq_some_iff.1 h
 simp only [Prod.mk.injEq] at h2
 obtain ⟨rfl,rfl⟩:=h2
 exact ⟨e,h1⟩
theorem qsL:qok X where
 mono f g h:=by
  unfold X at h
  split at h
  all_goals first
   | (cases h;exact λc d hc aS h=>qmx hc (Nat.le_refl _))
   | (cases h;exact λc d hc aS h x hx=>hx)
   | cases h
 cont f g h:=by
  unfold X at h
  split at h
  all_goals first
   | (cases h;exact λc hc aS h x hx=>qmw hc hx)
   | (cases h;exact λc hc aS h x hx=>⟨0,hx⟩)
   | cases h
noncomputable def Wd:AE.Call:=W T.get X
theorem qi (f:FuncId) (fn:qt) {first args cap:List qa} {h:List qb} (h1:X f = none:=by rfl) (h2:T.get f = some fn:=by kernel_rfl) :
  Wd (.fn f first cap) args h = qch fn.results h (qm h.length Wd fn.code ⟨(first ++ args ++ cap).map qa.dim ++ List.replicate (fn.ntmps - ((first ++ args ++ cap).map qa.dim).length) (.tup []),h,false⟩):=qGa qsL h1 h2
theorem qbt {n:Int} (h1:-9223372036854775808 <= n) (h2:n <= 9223372036854775807):IntKind.i64.wrap n = n:=by
 rw [IntKind.wrap_i64]
 omega
theorem qag {n:Nat} (h:n < 9223372036854775807):IntKind.i64.wrap ((n:Int) + 1) = ((n + 1:Nat):Int):=by
 rw [qbt zo zo]
 rfl
abbrev Str:=List UInt8
def qqO (c:UInt8):Bool:=ile 97 (c.toNat:Int) && ile (c.toNat:Int) 122
def qxn (c:UInt8):Bool:=ile 48 (c.toNat:Int) && ile (c.toNat:Int) 57
def qaJ:Nat->Str->Bool
 | _,[]=>true
 | i,c :: s=>bif !qqO c && (i == 0 || !qxn c) then false else qaJ (i + 1) s
def qc2 (s:Str):Bool:=decide (1 <= s.length) && decide (s.length <= 16) && qaJ 0 s
theorem qau (s:Str) (h:List qb):Wd (.fn 114 [] []) [.str s] h = some (.ret (.bool (qc2 s)),h,false):=by
 have loop:∀k st,(∃tt i,st = ⟨tt,h,false⟩/\tt.length = 50/\lkp tt 0 = .str s/\lkp tt 15 = .int .i64 (s.length:Nat)/\lkp tt 16 = .int .i64 (i:Nat)/\i + k = s.length/\qaJ i (s.drop i) = qaJ 0 s/\s.length <= 16)->
   ∃x B,qm h.length Wd (.loop qhA) st = some (x,B)/\((x = .exit 0/\qaJ 0 s = true/\∃tt,B = ⟨tt,h,false⟩/\tt.length = 50)\/(x = .ret/\qaJ 0 s = false/\∃tt,B = ⟨tt,h,false⟩/\tt.length = 50/\lkp tt 2 = .bool false)):=by
  refine qy _ _ ?_
  rintro k st ⟨tt,i,rfl,ht,e0,I,E,J,hR,hl⟩
  generalize he:qm h.length Wd qhA _ = r
  rcases Nat.lt_or_ge i s.length with hi | hi
  ·have c1:ilt (i:Int) (s.length:Int) = true:=by rw [qf];simp;omega
   have hx:qiq (.str s) (.int .i64 (i:Nat)) = some (.int .u8 (s[i].toNat:Nat)):=qlC (ji hi)
   have w:=qag (n:=i) zo
   rw [jX hi,qaJ] at hR
   simp only [qqO,qxn] at hR
   have hz:((i:Int) == 0) = (i == 0):=by rw [Bool.eq_iff_iff];simp
   simp only [sB.1,qhA,seval,ht,e0,I,E,c1,hx,w,hz] at he
   cases hb:(!(ile 97 (s[i].toNat:Int) && ile (s[i].toNat:Int) 122) && (i == 0 || !(ile 48 (s[i].toNat:Int) && ile (s[i].toNat:Int) 57))) with
   | true=>
    rw [hb] at hR
    simp only [sB.1,hb,seval,ht] at he
    subst he
    refine .inr ⟨_,_,rfl,by simp,.inr ⟨rfl,by simpa using hR.symm,_,rfl,Y0,?_⟩⟩
    simp only [sB.1,seval,ht]
   | false=>
    rw [hb] at hR
    simp only [sB.1,hb,seval,ht,E,w] at he
    subst he
    refine .inl ⟨_,k - 1,rfl,zo,_,i + 1,rfl,Y0,?_,?_,?_,zo,by simpa using hR,hl⟩
    ·simp only [sB.1,seval,ht,e0]
    ·simp only [sB.1,seval,ht,I]
    ·simp only [sB.1,seval,ht]
  ·have c1:ilt (i:Int) (s.length:Int) = false:=by rw [qf];simp;omega
   simp only [sB.1,qhA,seval,ht,e0,I,E,c1] at he
   subst he
   rw [List.drop_eq_nil_of_le hi,qaJ] at hR
   exact .inr ⟨_,_,rfl,by simp,.inl ⟨rfl,hR.symm,_,rfl,Y0⟩⟩
 rw [qi 114 qzT]
 by_cases g1:1 <= s.length
 ·have d1:ilt (s.length:Int) 1 = false:=by rw [qf];simp;omega
  by_cases g2:s.length <= 16
  ·have d2:ilt 16 (s.length:Int) = false:=by rw [qf];simp;omega
   simp only [sB.1,qzT,seval,d1,d2]
   generalize hr:qm h.length Wd (.loop qhA) _ = r
   obtain ⟨x,B,rfl,hq⟩:=known hr (loop s.length _ ⟨_,0,rfl,X1,X1,X1,X2,zo,rfl,g2⟩)
   rcases hq with ⟨rfl,hv,tt,rfl,ht⟩ | ⟨rfl,hv,tt,rfl,ht,e2⟩
   ·simp only [sB.1,seval,ht]
    simp [qc2,g1,g2,hv]
   ·simp only [sB.1,seval,ht,e2]
    simp [qc2,g1,g2,hv]
  ·have d2:ilt 16 (s.length:Int) = true:=by rw [qf];simp;omega
   simp only [sB.1,qzT,seval,d1,d2]
   simp [qc2,g2]
 ·have d1:ilt (s.length:Int) 1 = true:=by rw [qf];simp;omega
  simp only [sB.1,qzT,seval,d1]
  simp [qc2,g1]
def qFd:qa->Str
 | .str s=>s
 | _=>[]
def words:List Str:=g2.map qFd
theorem qvH:g2 = words.map qa.str:=xk
theorem qsK:words.length = 33:=xk
def qbT (s:Str):Bool:=words.any (· == s)
theorem qkV (s:Str) (h:List qb):Wd (.fn 130 [] []) [.str s] h = some (.ret (.bool (qbT s)),h,false):=by
 have loop:∀k st,(∃tt i,st = ⟨tt,h,false⟩/\tt.length = 13/\lkp tt 0 = .str s/\lkp tt 5 = .agg g2/\lkp tt 6 = .int .i64 (i:Nat)/\i + k = 33/\(words.drop i).any (· == s) = qbT s)->
   ∃x B,qm h.length Wd (.loop qgN) st = some (x,B)/\((x = .exit 0/\qbT s = false/\∃tt,B = ⟨tt,h,false⟩/\tt.length = 13)\/(x = .ret/\qbT s = true/\∃tt,B = ⟨tt,h,false⟩/\tt.length = 13/\lkp tt 2 = .bool true)):=by
  refine qy _ _ ?_
  rintro k st ⟨tt,i,rfl,ht,e0,e5,e6,I,hR⟩
  generalize he:qm h.length Wd qgN _ = r
  have E:=qsK
  rcases Nat.lt_or_ge i 33 with hi | hi
  ·have c1:ilt (i:Int) 33 = true:=by rw [qf];simp;omega
   have hx:qi4 33 none (.agg g2) (.int .i64 (i:Nat)) = some (.str (words[i]' zo)):=by
    rw [quw (v:=.str (words[i]' zo)) hi (by rw [qvH,ju,ji zo];rfl)]
    rfl
   have w:=qag (n:=i) zo
   rw [jX zo,List.any_cons] at hR
   cases hb:((words[i]' zo) == s) with
   | true=>
    rw [hb] at hR
    simp only [sB.1,qgN,seval,ht,e0,e5,e6,c1,hx,hb] at he
    subst he
    refine .inr ⟨_,_,rfl,by simp,.inr ⟨rfl,by simpa using hR.symm,_,rfl,Y0,?_⟩⟩
    simp only [sB.1,seval,ht]
   | false=>
    rw [hb] at hR
    simp only [sB.1,qgN,seval,ht,e0,e5,e6,c1,hx,hb,w] at he
    subst he
    refine .inl ⟨_,k - 1,rfl,zo,_,i + 1,rfl,Y0,?_,?_,?_,zo,by simpa using hR⟩
    ·simp only [sB.1,seval,ht,e0]
    ·simp only [sB.1,seval,ht,e5]
    ·simp only [sB.1,seval,ht]
  ·have c1:ilt (i:Int) 33 = false:=by rw [qf];simp;omega
   simp only [sB.1,qgN,seval,ht,e0,e5,e6,c1] at he
   subst he
   rw [List.drop_eq_nil_of_le zo,List.any_nil] at hR
   exact .inr ⟨_,_,rfl,by simp,.inl ⟨rfl,hR.symm,_,rfl,Y0⟩⟩
 have hg:cut g2 0 (some 33) = some (.agg g2):=xk
 rw [qi 130 qCn]
 simp only [sB.1,qCn,seval,hg]
 generalize hr:qm h.length Wd (.loop qgN) _ = r
 obtain ⟨x,B,rfl,hq⟩:=known hr (loop 33 _ ⟨_,0,rfl,X1,X1,X1,X2,zo,rfl⟩)
 rcases hq with ⟨rfl,hv,tt,rfl,ht⟩ | ⟨rfl,hv,tt,rfl,ht,e2⟩
 ·simp only [sB.1,seval,ht,hv]
 ·simp only [sB.1,seval,ht,e2,hv]
def qbF (s:Str):Bool:=qc2 s && !qbT s
theorem qan (s:Str) (h:List qb):Wd (.fn 115 [] []) [.str s] h = some (.ret (.bool (qbF s)),h,false):=by
 rw [qi 115 qCh]
 cases hv:qc2 s <;> cases hr:qbT s <;> (simp only [sB.1,qCh,seval,qau,qkV,hv,hr];simp [qbF,hv,hr])
end Go.Proofs.YtnibchoenjmmjaaGreatDoor.AE
namespace Go.AE
section
variable {k:Nat} {vs:List (List qa)}
theorem qdl (hk:∀v ∈ vs,v.length = k):vs.flatten.length = vs.length * k:=by
 induction vs with
 | nil=>simp
 | cons v vs ih=>
  rw [List.flatten_cons,List.length_append,ih λx hx=>hk x (jN _ hx),hk v jJ,List.length_cons,Nat.succ_mul,Nat.add_comm]
theorem qh2 (hk:∀v ∈ vs,v.length = k) {i:Nat} (hi:i < vs.length):(vs.flatten.drop (i * k)).take k = vs[i]:=by
 rw [qiT vs i hk hi,List.getD_eq_getElem?_getD,ji hi]
 rfl
theorem qkc (hk:∀v ∈ vs,v.length = k) {i:Nat} (hi:i < vs.length):i * k + k <= vs.flatten.length:=by
 rw [qdl hk,<-Nat.succ_mul]
 exact Nat.mul_le_mul_right k hi
theorem qcM {cs:List qa} (hd:∀c ∈ cs,c.dim = c):cs.map qa.dim = cs:=by
 induction cs with
 | nil=>rfl
 | cons c cs ih=>rw [List.map_cons,hd c jJ,ih λx hx=>hd x (jN _ hx)]
theorem qdS (hk:∀v ∈ vs,v.length = k) {i:Nat} (hi:i < vs.length) (hd:∀c ∈ vs[i],c.dim = c):cut vs.flatten (i * k) (some k) = some (.agg vs[i]):=by
 rw [qeM (qkc hk hi),qh2 hk hi,qcM hd]
end
theorem qcC {k id len cap more i:Nat} {j:IntKind} (hi:i < len):qaW k (.sl id 0 len cap more) (.int j (i:Nat)) = some (.ptr id (i * k)):=by
 rw [qya,if_pos ⟨zo,zo⟩,Nat.zero_add,Int.toNat_natCast]
def qbY (cs:List qa):Prop:=∀c ∈ cs,c.dim = c/\c.storable = true
theorem qbY.dims {cs:List qa} (h:qbY cs):cs.map qa.dim = cs:=qcM λc hc=>(h c hc).1
theorem qbY.all {cs:List qa} (h:qbY cs):cs.all qa.storable = true:=List.all_eq_true.2 λc hc=>(h c hc).2
section
variable {base k n id id2:Nat} {h:List qb} {row cs:List qa}
theorem qr8 (h2:h[id2]? = some (.cells row)) (hk:row.length = k) (hs:qbY row):qd7 k h (.sl id2 0 1 1 0) = some (row,1):=by
 have:row.take k = row:=List.take_of_length_le zo
 simp [qd7,h2,hk,this,hs.dims]
theorem qct (h2:h[id2]? = some (.cells row)) (hk:row.length = k) (hs:qbY row):hop base (.app k) [.lst [] .full,.sl id2 0 1 1 0] h = some (.sl h.length 0 1 1 k,h ++ [.cells row],false):=by
 have e:qd7 k h (.lst [] .full) = some ([],0):=rfl
 simp [hop,qfM,qr8 h2 hk hs,hs.all,e,qdH]
theorem qdj (h1:h[id]? = some (.cells cs)) (h2:h[id2]? = some (.cells row)) (hk:row.length = k) (hc:cs.length = n * k) (hs:qbY row) (B:qbY cs) (hn:n <= 100000) (I:k ≠ 0):hop base (.app k) [.sl id 0 n n k,.sl id2 0 1 1 0] h = some (.sl h.length 0 (n + 1) (n + 1) k,h.set id .dead ++ [.cells (cs ++ row)],false):=by
 have e:qd7 k h (.sl id 0 n n k) = some (cs,n):=by
  have:cs.take (n * k) = cs:=List.take_of_length_le zo
  simp [qd7,h1,hc,this,B.dims]
 have hl:n + 1 <= qdH:=by simp only [qdH];omega
 have E:¬ n + 1 <= n:=zo
 simp only [hop,qfM,qr8 h2 hk hs,hs.all,e,h1,Bool.not_true,Bool.false_eq_true,if_false,Nat.succ_ne_zero,hl,E,if_true]
 simp [I,hc]
end
end Go.AE
namespace Go.Proofs.YtnibchoenjmmjaaGreatDoor.AE
open Go.AE
theorem qBg (base:Nat) (x:Int) (h:List qb):hop base (.lit 1 [.int .i64 0] 1 [0]) [.int .i64 x] h = some (.sl h.length 0 1 1 0,h ++ [.cells [.int .i64 x]],false):=xk
theorem qHT (base:Nat) (a b:Str) (k:Int) (L:List qa) (h:List qb):hop base (.lit 4 [.str [],.str [],.int .i64 0,.lst [] .full] 1 [0]) [.agg [.str a,.str b,.int .i64 k,.lst L .no]] h = some (.sl h.length 0 1 1 0,h ++ [.cells [.str a,.str b,.int .i64 k,.lst L .no]],false):=xk
theorem qHU (base:Nat) (a b:Int) (c d:Str) (e:Int) (I:qa) (hd:I.dim = I) (hs:I.storable = true) (h:List qb):hop base (.lit 6 [.int .i64 0,.int .i64 0,.str [],.str [],.int .i64 0,.lst [] .full] 1 [0]) [.agg [.int .i64 a,.int .i64 b,.str c,.str d,.int .i64 e,I]] h = some (.sl h.length 0 1 1 0,h ++ [.cells [.int .i64 a,.int .i64 b,.str c,.str d,.int .i64 e,I]],false):=by
 have s1:∀(j:IntKind) (x:Int),(qa.int j x).storable = true:=λ_ _=>rfl
 have s2:∀x:Str,(qa.str x).storable = true:=λ_=>rfl
 have d1:∀(j:IntKind) (x:Int),(qa.int j x).dim = .int j x:=λ_ _=>rfl
 have d2:∀x:Str,(qa.str x).dim = .str x:=λ_=>rfl
 simp [hop,q8,qa.cells,splice,hs,hd,s1,s2,d1,d2]
def Cov (H:Nat->Option qb) (g:List qb):Prop:=∀i x,H i = some x->g[i]? = some x
theorem Cov.lt {H:Nat->Option qb} {g:List qb} (h:Cov H g) {i:Nat} {x:qb} (hi:H i = some x):i < g.length:=(List.getElem?_eq_some_iff.1 (h i x hi)).1
theorem Cov.late {H:Nat->Option qb} {g:List qb} (h:Cov H g) {i:Nat} (hi:g.length <= i):H i = none:=by
 cases hx:H i with
 | none=>rfl
 | some x=>have:=h.lt hx;omega
theorem Cov.more {H:Nat->Option qb} {g:List qb} (h:Cov H g) (l:List qb):Cov H (g ++ l):=λi x hi=>by
 rw [ja (h.lt hi)]
 exact h i x hi
theorem Cov.set {H:Nat->Option qb} {g:List qb} (h:Cov H g) {j:Nat} (hj:H j = none) (b:qb):Cov H (g.set j b):=λi x hi=>by
 have:j ≠ i:=λe=>by subst e;rw [hj] at hi;cases hi
 rw [List.getElem?_set_ne this]
 exact h i x hi
def Sub (H H':Nat->Option qb):Prop:=∀i x,H i = some x->H' i = some x
inductive Val where
 | mk (k n:Int) (s:Str) (l:List Val)
def Val.enc:Val->List qa
 | .mk k n s l=>[.int .i64 k,.int .i64 n,.str s,.lst (l.map λv=>.agg v.enc) .no]
def qbX (v:Val):qa:=.agg v.enc
theorem qc3 (k n:Int) (s:Str) (l:List Val):(Val.mk k n s l).enc = [.int .i64 k,.int .i64 n,.str s,.lst (l.map qbX) .no]:=by rw [Val.enc];rfl
theorem qzL (k n:Int) (s:Str) (l:List Val):qbX (.mk k n s l) = .agg [.int .i64 k,.int .i64 n,.str s,.lst (l.map qbX) .no]:=by rw [qbX,qc3]
inductive At (H:Nat->Option qb):Val->List qa->Prop
 | lst (k n:Int) (s:Str) (l:List Val) (rs:List (List qa)) (f:qgh):(f = .no\/f = .full)->rs.length = l.length->(∀(i:Nat) (h:i < l.length) (h':i < rs.length),At H l[i] rs[i])->At H (.mk k n s l) [.int .i64 k,.int .i64 n,.str s,.lst (rs.map .agg) f]
 | sl (k n:Int) (s:Str) (l:List Val) (rs:List (List qa)) (id m:Nat):H id = some (.cells rs.flatten)->rs.length = l.length->(∀(i:Nat) (h:i < l.length) (h':i < rs.length),At H l[i] rs[i])->At H (.mk k n s l) [.int .i64 k,.int .i64 n,.str s,.sl id 0 l.length l.length m]
theorem At.mono {H H':Nat->Option qb} (B:Sub H H') {v:Val} {cs:List qa} (h:At H v cs):At H' v cs:=by
 induction h with
 | lst k n s l rs f h1 h2 _ ih=>exact .lst k n s l rs f h1 h2 ih
 | sl k n s l rs id m h1 h2 _ ih=>exact .sl k n s l rs id m (B _ _ h1) h2 ih
def LP (H:Nat->Option qb) (l:List Val) (L:qa):Prop:=∃rs:List (List qa),rs.length = l.length/\(∀(i:Nat) (h:i < l.length) (h':i < rs.length),At H l[i] rs[i])/\((∃f,(f = .no\/f = .full)/\L = .lst (rs.map .agg) f)\/∃id m,L = .sl id 0 l.length l.length m/\H id = some (.cells rs.flatten))
theorem At.lp {H:Nat->Option qb} {k n:Int} {s:Str} {l:List Val} {cs:List qa} (h:At H (.mk k n s l) cs):∃L,cs = [.int .i64 k,.int .i64 n,.str s,L]/\LP H l L:=by
 cases h with
 | lst _ _ _ _ rs f h1 h2 h3=>exact ⟨_,rfl,rs,h2,h3,.inl ⟨f,h1,rfl⟩⟩
 | sl _ _ _ _ rs id m h1 h2 h3=>exact ⟨_,rfl,rs,h2,h3,.inr ⟨id,m,rfl,h1⟩⟩
theorem LP.at {H:Nat->Option qb} {l:List Val} {L:qa} (h:LP H l L) (k n:Int) (s:Str):At H (.mk k n s l) [.int .i64 k,.int .i64 n,.str s,L]:=by
 obtain ⟨rs,h1,h2,⟨f,h3,rfl⟩ | ⟨id,m,rfl,h3⟩⟩:=h
 ·exact .lst k n s l rs f h3 h1 h2
 ·exact .sl k n s l rs id m h3 h1 h2
theorem LP.mono {H H':Nat->Option qb} (B:Sub H H') {l:List Val} {L:qa} (h:LP H l L):LP H' l L:=by
 obtain ⟨rs,h1,h2,h3⟩:=h
 refine ⟨rs,h1,λi a b=>(h2 i a b).mono B,?_⟩
 rcases h3 with h3 | ⟨id,m,e,h3⟩
 ·exact .inl h3
 ·exact .inr ⟨id,m,e,B _ _ h3⟩
theorem LP.nil {H:Nat->Option qb} {f:qgh} (hf:f = .no\/f = .full):LP H [] (.lst [] f):=⟨[],rfl,λi h=>by simp at h,.inl ⟨f,hf,rfl⟩⟩
theorem LP.facts {H:Nat->Option qb} {l:List Val} {L:qa} (h:LP H l L):L.dim = L/\L.storable = true/\(∀i t,qo L i t = t)/\qbG false L = some (.int .i64 (l.length:Nat)):=by
 obtain ⟨rs,h1,h2,⟨f,rfl | rfl,rfl⟩ | ⟨id,m,rfl,h3⟩⟩:=h
 ·exact ⟨rfl,rfl,λ_ _=>rfl,by simp [qbG,h1]⟩
 ·exact ⟨rfl,rfl,λ_ _=>rfl,by simp [qbG,h1]⟩
 ·exact ⟨rfl,rfl,λ_ _=>rfl,rfl⟩
theorem At.cells {H:Nat->Option qb} {v:Val} {cs:List qa} (h:At H v cs):∃k n s l L,v = .mk k n s l/\cs = [.int .i64 k,.int .i64 n,.str s,L]/\L.dim = L/\L.storable = true/\(∀i t,qo L i t = t)/\qbG false L = some (.int .i64 (l.length:Nat)):=by
 obtain ⟨k,n,s,l⟩:=v
 obtain ⟨L,rfl,hL⟩:=h.lp
 exact ⟨k,n,s,l,L,rfl,rfl,hL.facts⟩
theorem At.length {H:Nat->Option qb} {v:Val} {cs:List qa} (h:At H v cs):cs.length = 4:=by
 obtain ⟨k,n,s,l,L,rfl,rfl,_⟩:=h.cells
 rfl
theorem At.still {H:Nat->Option qb} {v:Val} {cs:List qa} (h:At H v cs):qbY cs:=by
 obtain ⟨k,n,s,l,L,rfl,rfl,hd,hs,_⟩:=h.cells
 intro c hc
 simp only [List.mem_cons,List.not_mem_nil,or_false] at hc
 rcases hc with rfl | rfl | rfl | rfl <;> first | exact ⟨rfl,rfl⟩ | exact ⟨hd,hs⟩
theorem At.dims {H:Nat->Option qb} {v:Val} {cs:List qa} (h:At H v cs):∀c ∈ cs,c.dim = c:=λc hc=>(h.still c hc).1
theorem At.elem {H:Nat->Option qb} {l:List Val} {ess:List (List qa)} (hl:ess.length = l.length) (hv:∀(i:Nat) (h:i < l.length) (h':i < ess.length),At H l[i] ess[i]):(∀e ∈ ess,e.length = 4)/\∀(i:Nat) (h':i < ess.length),cut ess.flatten (i * 4) (some 4) = some (.agg ess[i]):=by
 have h1:∀e ∈ ess,e.length = 4:=λe he=>by
  obtain ⟨i,hi,rfl⟩:=List.getElem_of_mem he
  exact (hv i zo hi).length
 exact ⟨h1,λi h'=>qdS h1 h' (hv i zo h').dims⟩
theorem LP.item {H:Nat->Option qb} {l:List Val} {L:qa} (h:LP H l L) {i:Nat} (hi:i < l.length) {g:List qb} (hg:Cov H g):∃pp cs,qaW 4 L (.int .i64 (i:Nat)) = some pp/\pp.dim = pp/\(∀m,qcl (g ++ m) pp (some 4) = some (.agg cs))/\qcl g pp (some 4) = some (.agg cs)/\At H l[i] cs:=by
 obtain ⟨rs,h1,h2,⟨f,hf,rfl⟩ | ⟨id,m,rfl,h3⟩⟩:=h
 ·have B:i < rs.length:=zo
  have h4:=h2 i hi B
  have hx:qaW 4 (.lst (rs.map .agg) f) (.int .i64 (i:Nat)) = some (.iptr rs[i] 0):=qbl (x:=.agg rs[i]) (by rw [ju,ji B];rfl) h4.length
  have hc:cut rs[i] 0 (some 4) = some (.agg rs[i]):=by
   rw [qeM (by rw [h4.length];omega),List.drop_zero,List.take_of_length_le (by rw [h4.length];omega),qcM h4.dims]
  exact ⟨_,_,hx,rfl,λm=>hc,hc,h4⟩
 ·have B:i < rs.length:=zo
  have hc:=(At.elem h1 h2).2 i B
  exact ⟨_,rs[i],qcC hi,rfl,λm=>by rw [qdZ (hg.more m _ _ h3)];exact hc,by rw [qdZ (hg _ _ h3)];exact hc,h2 i hi B⟩
theorem At.arg {H:Nat->Option qb}:∀v:Val,At H v v.enc
 | .mk k n s l=>by
  rw [qc3,show l.map qbX = (l.map Val.enc).map .agg by rw [jL];rfl]
  refine .lst k n s l _ .no (.inl rfl) (by simp) λi h h'=>?_
  rw [List.getElem_map]
  exact At.arg l[i]
 termination_by v=>SizeOf.sizeOf v
 decreasing_by
 have:=List.sizeOf_lt_of_mem (List.getElem_mem h)
 simp only [Val.mk.sizeOf_spec]
 omega
theorem LP.arg {H:Nat->Option qb} (l:List Val):LP H l (.lst (l.map qbX) .no):=by
 refine ⟨l.map Val.enc,by simp,λi h h'=>?_,.inl ⟨.no,.inl rfl,by rw [jL];rfl⟩⟩
 rw [List.getElem_map]
 exact At.arg l[i]
theorem qfq {n:Nat}:∀{cs:List qa},(∀c ∈ cs,c.lower n = true)->qr n cs = true
 | [],_=>by simp only [qr]
 | c :: cs,h=>by simp only [qr,h c jJ,qfq λx hx=>h x (jN _ hx),Bool.and_self]
theorem At.low {H:Nat->Option qb} {g:List qb} (hg:Cov H g) {v:Val} {cs:List qa} (h:At H v cs):qr g.length cs = true:=by
 induction h with
 | lst k n s l rs f h1 h2 _ ih=>
  have:qr g.length (rs.map .agg) = true:=qfq λc hc=>by
   obtain ⟨r,hr,rfl⟩:=jU.1 hc
   obtain ⟨i,hi,rfl⟩:=List.getElem_of_mem hr
   simp only [qa.lower]
   exact ih i zo hi
  simp only [qr,qa.lower,this,Bool.and_self]
 | sl k n s l rs id m h1 h2 _ _=>
  have:Nat.blt id g.length = true:=Nat.ble_eq_true_of_le (hg.lt h1)
  simp only [qr,qa.lower,this,Bool.and_self]
theorem LP.low {H:Nat->Option qb} {g:List qb} (hg:Cov H g) {l:List Val} {L:qa} (h:LP H l L):L.lower g.length = true:=by
 have:=(h.at 0 0 []).low hg
 simp only [qr,qa.lower,jY,jA] at this
 exact this
def qet (k n:Int) (s:Str) (l:List Val):Bool:=bif k == 0 then (s == []) && ((l.length:Int) == 0) else bif k == 1 then ((n == 0 || n == 1) && (s == [])) && ((l.length:Int) == 0) else bif k == 2 then (qc2 s && (n == 0)) && ((l.length:Int) == 0) else false
def qu:Nat->Val->Bool
 | 0,.mk k n s l=>qet k n s l
 | d + 1,.mk k n s l=>bif k == 3 then ((n == 0) && (s == [])) && (decide (1 <= l.length) && decide (l.length <= 4)) && l.all (qu d) else qet k n s l
theorem qa5 {k n:Int} {s:Str} {l:List Val} (h:qet k n s l = true):l = []:=by
 have key:((l.length:Int) == 0) = true->l = []:=λh=>List.length_eq_zero_iff.1 (by have:=of_decide_eq_true h;omega)
 unfold qet at h
 cases h0:(k == 0) <;> cases h1:(k == 1) <;> cases h2:(k == 2) <;> simp only [h0,h1,h2,cond_true,cond_false,jm] at h <;> first | exact key h.2 | cases h
theorem qdN {d:Nat} {k n:Int} {s:Str} {l:List Val} (h:qu d (.mk k n s l) = true):l.length <= 4/\∀x ∈ l,∃d',qu d' x = true:=by
 have leaf:qet k n s l = true->l.length <= 4/\∀x ∈ l,∃d',qu d' x = true:=λh0=>by
  have:=qa5 h0
  subst this
  exact ⟨by simp,λx hx=>by cases hx⟩
 cases d with
 | zero=>exact leaf h
 | succ d=>
  rw [qu] at h
  cases h3:(k == 3) with
  | true=>
   rw [h3,cond_true] at h
   simp only [jm,decide_eq_true_eq,List.all_eq_true] at h
   exact ⟨h.1.2.2,λx hx=>⟨d,h.2 x hx⟩⟩
  | false=>
   rw [h3,cond_false] at h
   exact leaf h
inductive Tp where
 | mk (k:Int) (l:List Tp)
def Tp.enc:Tp->List qa
 | .mk k l=>[.int .i64 k,.lst (l.map λv=>.agg v.enc) .no]
def tpV (v:Tp):qa:=.agg v.enc
theorem qaf (k:Int) (l:List Tp):(Tp.mk k l).enc = [.int .i64 k,.lst (l.map tpV) .no]:=by rw [Tp.enc];rfl
inductive Ta (H:Nat->Option qb):Tp->List qa->Prop
 | lst (k:Int) (l:List Tp) (rs:List (List qa)) (f:qgh):(f = .no\/f = .full)->rs.length = l.length->(∀(i:Nat) (h:i < l.length) (h':i < rs.length),Ta H l[i] rs[i])->Ta H (.mk k l) [.int .i64 k,.lst (rs.map .agg) f]
 | sl (k:Int) (l:List Tp) (rs:List (List qa)) (id m:Nat):H id = some (.cells rs.flatten)->rs.length = l.length->(∀(i:Nat) (h:i < l.length) (h':i < rs.length),Ta H l[i] rs[i])->Ta H (.mk k l) [.int .i64 k,.sl id 0 l.length l.length m]
theorem Ta.mono {H H':Nat->Option qb} (B:Sub H H') {v:Tp} {cs:List qa} (h:Ta H v cs):Ta H' v cs:=by
 induction h with
 | lst k l rs f h1 h2 _ ih=>exact .lst k l rs f h1 h2 ih
 | sl k l rs id m h1 h2 _ ih=>exact .sl k l rs id m (B _ _ h1) h2 ih
def TL (H:Nat->Option qb) (l:List Tp) (L:qa):Prop:=∃rs:List (List qa),rs.length = l.length/\(∀(i:Nat) (h:i < l.length) (h':i < rs.length),Ta H l[i] rs[i])/\((∃f,(f = .no\/f = .full)/\L = .lst (rs.map .agg) f)\/∃id m,L = .sl id 0 l.length l.length m/\H id = some (.cells rs.flatten))
theorem Ta.lp {H:Nat->Option qb} {k:Int} {l:List Tp} {cs:List qa} (h:Ta H (.mk k l) cs):∃L,cs = [.int .i64 k,L]/\TL H l L:=by
 cases h with
 | lst _ _ rs f h1 h2 h3=>exact ⟨_,rfl,rs,h2,h3,.inl ⟨f,h1,rfl⟩⟩
 | sl _ _ rs id m h1 h2 h3=>exact ⟨_,rfl,rs,h2,h3,.inr ⟨id,m,rfl,h1⟩⟩
theorem TL.at {H:Nat->Option qb} {l:List Tp} {L:qa} (h:TL H l L) (k:Int):Ta H (.mk k l) [.int .i64 k,L]:=by
 obtain ⟨rs,h1,h2,⟨f,h3,rfl⟩ | ⟨id,m,rfl,h3⟩⟩:=h
 ·exact .lst k l rs f h3 h1 h2
 ·exact .sl k l rs id m h3 h1 h2
theorem TL.mono {H H':Nat->Option qb} (B:Sub H H') {l:List Tp} {L:qa} (h:TL H l L):TL H' l L:=by
 obtain ⟨rs,h1,h2,h3⟩:=h
 refine ⟨rs,h1,λi a b=>(h2 i a b).mono B,?_⟩
 rcases h3 with h3 | ⟨id,m,e,h3⟩
 ·exact .inl h3
 ·exact .inr ⟨id,m,e,B _ _ h3⟩
theorem TL.nil {H:Nat->Option qb} {f:qgh} (hf:f = .no\/f = .full):TL H [] (.lst [] f):=⟨[],rfl,λi h=>by simp at h,.inl ⟨f,hf,rfl⟩⟩
theorem TL.facts {H:Nat->Option qb} {l:List Tp} {L:qa} (h:TL H l L):L.dim = L/\L.storable = true/\(∀i t,qo L i t = t)/\qbG false L = some (.int .i64 (l.length:Nat)):=by
 obtain ⟨rs,h1,h2,⟨f,rfl | rfl,rfl⟩ | ⟨id,m,rfl,h3⟩⟩:=h
 ·exact ⟨rfl,rfl,λ_ _=>rfl,by simp [qbG,h1]⟩
 ·exact ⟨rfl,rfl,λ_ _=>rfl,by simp [qbG,h1]⟩
 ·exact ⟨rfl,rfl,λ_ _=>rfl,rfl⟩
theorem Ta.cells {H:Nat->Option qb} {v:Tp} {cs:List qa} (h:Ta H v cs):∃k l L,v = .mk k l/\cs = [.int .i64 k,L]/\L.dim = L/\L.storable = true/\(∀i t,qo L i t = t)/\qbG false L = some (.int .i64 (l.length:Nat)):=by
 obtain ⟨k,l⟩:=v
 obtain ⟨L,rfl,hL⟩:=h.lp
 exact ⟨k,l,L,rfl,rfl,hL.facts⟩
theorem Ta.length {H:Nat->Option qb} {v:Tp} {cs:List qa} (h:Ta H v cs):cs.length = 2:=by
 obtain ⟨k,l,L,rfl,rfl,_⟩:=h.cells
 rfl
theorem Ta.still {H:Nat->Option qb} {v:Tp} {cs:List qa} (h:Ta H v cs):qbY cs:=by
 obtain ⟨k,l,L,rfl,rfl,hd,hs,_⟩:=h.cells
 intro c hc
 simp only [List.mem_cons,List.not_mem_nil,or_false] at hc
 rcases hc with rfl | rfl <;> first | exact ⟨rfl,rfl⟩ | exact ⟨hd,hs⟩
theorem Ta.dims {H:Nat->Option qb} {v:Tp} {cs:List qa} (h:Ta H v cs):∀c ∈ cs,c.dim = c:=λc hc=>(h.still c hc).1
theorem Ta.elem {H:Nat->Option qb} {l:List Tp} {ess:List (List qa)} (hl:ess.length = l.length) (hv:∀(i:Nat) (h:i < l.length) (h':i < ess.length),Ta H l[i] ess[i]):(∀e ∈ ess,e.length = 2)/\∀(i:Nat) (h':i < ess.length),cut ess.flatten (i * 2) (some 2) = some (.agg ess[i]):=by
 have h1:∀e ∈ ess,e.length = 2:=λe he=>by
  obtain ⟨i,hi,rfl⟩:=List.getElem_of_mem he
  exact (hv i zo hi).length
 exact ⟨h1,λi h'=>qdS h1 h' (hv i zo h').dims⟩
theorem TL.item {H:Nat->Option qb} {l:List Tp} {L:qa} (h:TL H l L) {i:Nat} (hi:i < l.length) {g:List qb} (hg:Cov H g):∃pp cs,qaW 2 L (.int .i64 (i:Nat)) = some pp/\pp.dim = pp/\(∀m,qcl (g ++ m) pp (some 2) = some (.agg cs))/\qcl g pp (some 2) = some (.agg cs)/\Ta H l[i] cs:=by
 obtain ⟨rs,h1,h2,⟨f,hf,rfl⟩ | ⟨id,m,rfl,h3⟩⟩:=h
 ·have B:i < rs.length:=zo
  have h4:=h2 i hi B
  have hx:qaW 2 (.lst (rs.map .agg) f) (.int .i64 (i:Nat)) = some (.iptr rs[i] 0):=qbl (x:=.agg rs[i]) (by rw [ju,ji B];rfl) h4.length
  have hc:cut rs[i] 0 (some 2) = some (.agg rs[i]):=by
   rw [qeM (by rw [h4.length];omega),List.drop_zero,List.take_of_length_le (by rw [h4.length];omega),qcM h4.dims]
  exact ⟨_,_,hx,rfl,λm=>hc,hc,h4⟩
 ·have B:i < rs.length:=zo
  have hc:=(Ta.elem h1 h2).2 i B
  exact ⟨_,rs[i],qcC hi,rfl,λm=>by rw [qdZ (hg.more m _ _ h3)];exact hc,by rw [qdZ (hg _ _ h3)];exact hc,h2 i hi B⟩
theorem Ta.arg {H:Nat->Option qb}:∀v:Tp,Ta H v v.enc
 | .mk k l=>by
  rw [qaf,show l.map tpV = (l.map Tp.enc).map .agg by rw [jL];rfl]
  refine .lst k l _ .no (.inl rfl) (by simp) λi h h'=>?_
  rw [List.getElem_map]
  exact Ta.arg l[i]
 termination_by v=>SizeOf.sizeOf v
 decreasing_by
 have:=List.sizeOf_lt_of_mem (List.getElem_mem h)
 simp only [Tp.mk.sizeOf_spec]
 omega
theorem TL.arg {H:Nat->Option qb} (l:List Tp):TL H l (.lst (l.map tpV) .no):=by
 refine ⟨l.map Tp.enc,by simp,λi h h'=>?_,.inl ⟨.no,.inl rfl,by rw [jL];rfl⟩⟩
 rw [List.getElem_map]
 exact Ta.arg l[i]
theorem Ta.low {H:Nat->Option qb} {g:List qb} (hg:Cov H g) {v:Tp} {cs:List qa} (h:Ta H v cs):qr g.length cs = true:=by
 induction h with
 | lst k l rs f h1 h2 _ ih=>
  have:qr g.length (rs.map .agg) = true:=qfq λc hc=>by
   obtain ⟨r,hr,rfl⟩:=jU.1 hc
   obtain ⟨i,hi,rfl⟩:=List.getElem_of_mem hr
   simp only [qa.lower]
   exact ih i zo hi
  simp only [qr,qa.lower,this,Bool.and_self]
 | sl k l rs id m h1 h2 _ _=>
  have:Nat.blt id g.length = true:=Nat.ble_eq_true_of_le (hg.lt h1)
  simp only [qr,qa.lower,this,Bool.and_self]
theorem TL.low {H:Nat->Option qb} {g:List qb} (hg:Cov H g) {l:List Tp} {L:qa} (h:TL H l L):L.lower g.length = true:=by
 have:=(h.at 0).low hg
 simp only [qr,qa.lower,jY,jA] at this
 exact this
mutual
def qbq:Val->Tp
 | .mk k _ _ l=>.mk k (qbd l)
def qbd:List Val->List Tp
 | []=>[]
 | v :: l=>qbq v :: qbd l
end
theorem qb5:∀l:List Val,qbd l = l.map qbq
 | []=>rfl
 | v :: l=>by rw [qbd,qb5 l,List.map_cons]
mutual
def qaX:Tp->Tp->Bool
 | .mk k l,.mk k' l'=>(k == k') && qbC l l'
def qbC:List Tp->List Tp->Bool
 | [],[]=>true
 | a :: l,b :: l'=>qaX a b && qbC l l'
 | _,_=>false
end
mutual
theorem qcp:∀{a b:Tp},qaX a b = true->a = b
 | .mk k l,.mk k' l',h=>by
  rw [qaX,jm,beq_iff_eq] at h
  rw [h.1,qjy h.2]
theorem qjy:∀{a b:List Tp},qbC a b = true->a = b
 | [],[],_=>rfl
 | a :: l,b :: l',h=>by
  rw [qbC,jm] at h
  rw [qcp h.1,qjy h.2]
 | [],_ :: _,h=>by simp [qbC] at h
 | _ :: _,[],h=>by simp [qbC] at h
end
mutual
theorem qdb:∀a:Tp,qaX a a = true
 | .mk k l=>by rw [qaX,qg5 l,beq_self_eq_true,jA]
theorem qg5:∀l:List Tp,qbC l l = true
 | []=>rfl
 | a :: l=>by rw [qbC,qdb a,qg5 l,jA]
end
theorem qfx:∀{a b:List Tp},a.length ≠ b.length->qbC a b = false
 | [],[],h=>absurd rfl h
 | [],_ :: _,_=>rfl
 | _ :: _,[],_=>rfl
 | a :: l,b :: l',h=>by rw [qbC,qfx (by simpa using h),Bool.and_false]
def tyB:Nat->Tp->Bool
 | 0,.mk k l=>bif ile 0 k && ile k 2 then (l.length:Int) == 0 else false
 | d + 1,.mk k l=>bif ile 0 k && ile k 2 then (l.length:Int) == 0 else (k == 3) && (decide (1 <= l.length) && decide (l.length <= 4)) && l.all (tyB d)
mutual
def qbW:Tp->Nat
 | .mk k l=>bif k == 3 then qdv l + 1 else 0
def qdv:List Tp->Nat
 | []=>0
 | t :: l=>max (qbW t) (qdv l)
end
def qei:List (Nat×Str):=[(5,[97,116,111,109,105,99]),(6,[99,111,117,112,108,101,100]),(7,[114,111,111,116]),(8,[105,110]),(9,[111,117,116]),(10,[118,97,114]),(11,[116,97]),(12,[101,109,105,116]),(13,[105,110,116]),(14,[98,111,111,108]),(15,[115,121,109]),(16,[101,120,116]),(17,[99,111,110]),(18,[112,97,114,116]),(19,[108,105,110,107]),(20,[114,117,108,101]),(21,[97,100,100]),(22,[100,114,111,112]),(23,[116,105,101]),(24,[99,117,116]),(25,[105,102]),(26,[116,104,101,110]),(27,[101,108,115,101]),(28,[97,110,100]),(29,[111,114]),(30,[110,111,116]),(31,[116,114,117,101]),(32,[102,97,108,115,101]),(33,[99,111,117,110,116]),(34,[104,97,115]),(35,[115,117,109]),(36,[108,101,97,115,116]),(37,[101,108,97,112,115,101,100])]
def qj0:List (Nat×Str)->qG
 | []=>.skip
 | [x]=>.reg [ao x.1 (.bin .eql (.t 3) (.c (.str x.2))),ao 4 (.asg (.t x.1))]
 | x :: y :: r=>.seq (.reg [ao x.1 (.bin .eql (.t 3) (.c (.str x.2))),ao 4 (.asg (.t x.1))]) (.cond (.t 4) .skip (qj0 (y :: r)))
def qr0:qG:=.seq (.reg [ao 2 (.asg (.c (.bool false)))]) (.seq (.seq (.reg [ao 3 (.mov (.t 0))]) (.block 0 (.seq (qj0 qei) (.cond (.t 4) (.seq (.reg [ao 2 (.asg (.c (.bool true)))]) .ret) .skip)))) (.seq (.reg [ao 2 (.asg (.c (.bool false)))]) .ret))
theorem qvg:(⟨38,[.tmp 2],qr0⟩ :qt) = qCc:=xk
theorem qlp {b:Nat} {h:List qb} {s:Str}:∀(l:List (Nat×Str)),l ≠ []->(∀x ∈ l,5 <= x.1/\x.1 < 38)->∀tt:List qa,tt.length = 38->lkp tt 3 = .str s->
  ∃B,qm b Wd (qj0 l) ⟨tt,h,false⟩ = some (.nor,⟨B,h,false⟩)/\B.length = 38/\lkp B 4 = .bool (l.any λx=>s == x.2)
 | [],h0,_,_,_,_=>absurd rfl h0
 | [(k,w)],_,hk,tt,ht,e3=>by
  obtain ⟨k5,E⟩:=hk (k,w) (by simp)
  have a1:¬ (k = 3):=by simp only at k5;omega
  have a2:¬ (k = 4):=by simp only at k5;omega
  have a3:k < 38:=E
  simp only [sB.1,qj0,seval,ht,e3,a1,a2,a3]
  refine ⟨_,rfl,Y0,?_⟩
  simp only [sB.1,seval,ht,List.any_cons,List.any_nil]
 | (k,w) :: y :: r,_,hk,tt,ht,e3=>by
  obtain ⟨k5,E⟩:=hk (k,w) (by simp)
  have a1:¬ (k = 3):=by simp only at k5;omega
  have a2:¬ (k = 4):=by simp only at k5;omega
  have a3:k < 38:=E
  generalize he:qm b Wd _ _ = R
  cases hb:(s == w) with
  | true=>
   simp only [sB.1,qj0,seval,ht,e3,a1,a2,a3,hb] at he
   subst he
   refine ⟨_,rfl,Y0,?_⟩
   simp only [sB.1,seval,ht,List.any_cons,hb]
  | false=>
   obtain ⟨B,g1,g2,g3⟩:=qlp (b:=b) (h:=h) (s:=s) (y :: r) (by simp) (λx hx=>hk x (jN _ hx)) (up (up tt k (.bool false)) 4 (.bool false)) Y0 (by simp only [sB.1,seval,ht,e3,a1])
   simp only [sB.1,qj0,seval,ht,e3,a1,a2,a3,hb,g1] at he
   subst he
   refine ⟨B,rfl,g2,?_⟩
   rw [g3,List.any_cons (a:=(k,w)),hb,jS]
theorem qzl:(qei.all λx=>words.contains x.2) = true:=xk
theorem qyt:(words.all λw=>qei.any λx=>w == x.2) = true:=xk
theorem qvh (s:Str):(qei.any λx=>s == x.2) = qbT s:=by
 rw [Bool.eq_iff_iff,qbT,List.any_eq_true,List.any_eq_true]
 constructor
 ·rintro ⟨x,hx,h⟩
  have:=List.all_eq_true.1 qzl x hx
  refine ⟨x.2,by simpa using this,?_⟩
  rw [beq_iff_eq] at h
  rw [h,beq_self_eq_true]
 ·rintro ⟨w,hw,h⟩
  have:=List.all_eq_true.1 qyt w hw
  rw [List.any_eq_true] at this
  obtain ⟨x,hx,h2⟩:=this
  rw [beq_iff_eq] at h
  subst h
  exact ⟨x,hx,h2⟩
theorem qzk:∀x ∈ qei,5 <= x.1/\x.1 < 38:=by
 have:(qei.all λx=>decide (5 <= x.1) && decide (x.1 < 38)) = true:=xk
 intro x hx
 simpa using List.all_eq_true.1 this x hx
theorem qnJ (s:Str) (h:List qb):Wd (.fn 105 [] []) [.str s] h = some (.ret (.bool (qbT s)),h,false):=by
 rw [qi 105 qCc,<-qvg]
 generalize hR:qch _ h _ = R
 simp only [sB.1,qr0,seval] at hR
 generalize hr:qm h.length Wd (qj0 qei) _ = r at hR
 obtain ⟨tt,rfl,ht,e4⟩ :∃tt,r = some (.nor,⟨tt,h,false⟩)/\tt.length = 38/\lkp tt 4 = .bool (qei.any λx=>s == x.2):=by
  rw [<-hr]
  refine qlp qei (by simp [qei]) qzk _ ?_ ?_
  all_goals simp only [sB.1,seval]
 rw [qvh] at e4
 rw [<-hR]
 cases hb:qbT s with
 | true=>
  rw [hb] at e4
  simp only [sB.1,seval,ht,e4]
 | false=>
  rw [hb] at e4
  simp only [sB.1,seval,ht,e4]
theorem qat (s:Str) (h:List qb):Wd (.fn 69 [] []) [.str s] h = some (.ret (.bool (qc2 s)),h,false):=by
 have loop:∀k st,(∃tt i,st = ⟨tt,h,false⟩/\tt.length = 50/\lkp tt 0 = .str s/\lkp tt 3 = .int .i64 (i:Nat)/\i + k = s.length/\qaJ i (s.drop i) = qaJ 0 s/\s.length <= 16)->
   ∃x E,qm h.length Wd (.loop qja) st = some (x,E)/\((x = .exit 0/\qaJ 0 s = true/\∃tt,E = ⟨tt,h,false⟩/\tt.length = 50)\/(x = .ret/\qaJ 0 s = false/\∃tt,E = ⟨tt,h,false⟩/\tt.length = 50/\lkp tt 2 = .bool false)):=by
  refine qy _ _ ?_
  rintro k st ⟨tt,i,rfl,ht,e0,e3,J,hR,hl⟩
  generalize he:qm h.length Wd qja _ = r
  rcases Nat.lt_or_ge i s.length with hi | hi
  ·have c1:ilt (i:Int) (s.length:Int) = true:=by rw [qf];simp;omega
   have hx:qiq (.str s) (.int .i64 (i:Nat)) = some (.int .u8 (s[i].toNat:Nat)):=qlC (ji hi)
   have w:=qag (n:=i) zo
   rw [jX hi,qaJ] at hR
   have hz:((i:Int) == 0) = (i == 0):=by rw [Bool.eq_iff_iff];simp
   cases hlt:qqO s[i] with
   | true=>
    have q:(ile 97 (s[i].toNat:Int) && ile (s[i].toNat:Int) 122) = true:=hlt
    simp only [jm] at q
    cases hd:ile 48 (s[i].toNat:Int) <;> cases B:ile (s[i].toNat:Int) 57
    all_goals
     simp only [sB.1,qja,seval,ht,e0,e3,c1,hx,w,hz,q.1,q.2,hd,B] at he
     subst he
     refine .inl ⟨_,k - 1,rfl,zo,_,i + 1,rfl,Y0,?_,?_,zo,by rw [hlt] at hR;simpa using hR,hl⟩
     ·simp only [sB.1,seval,ht,e0]
     ·simp only [sB.1,seval,ht]
   | false=>
    have q:(ile 97 (s[i].toNat:Int) && ile (s[i].toNat:Int) 122) = false:=hlt
    have hq:∀a b,ile 97 (s[i].toNat:Int) = a->ile (s[i].toNat:Int) 122 = b->(a && b) = false:=λa b ha hb=>by rw [<-ha,<-hb];exact q
    cases I:(i == 0) with
    | true=>
     rw [hlt,I] at hR
     cases ha:ile 97 (s[i].toNat:Int) <;> cases hb:ile (s[i].toNat:Int) 122 <;> cases hd:ile 48 (s[i].toNat:Int) <;> cases B:ile (s[i].toNat:Int) 57
     all_goals first | (have:=hq _ _ ha hb;cases this;done) | skip
     all_goals
      simp only [sB.1,qja,seval,ht,e0,e3,c1,hx,w,hz,ha,hb,hd,B,I] at he
      subst he
      refine .inr ⟨_,_,rfl,by simp,.inr ⟨rfl,by simpa using hR.symm,_,rfl,Y0,?_⟩⟩
      simp only [sB.1,seval,ht]
    | false=>
     rw [hlt,I] at hR
     simp only [Bool.not_false,jY,jS,qxn] at hR
     cases ha:ile 97 (s[i].toNat:Int) <;> cases hb:ile (s[i].toNat:Int) 122 <;> cases hd:ile 48 (s[i].toNat:Int) <;> cases B:ile (s[i].toNat:Int) 57
     all_goals first | (have:=hq _ _ ha hb;cases this;done) | skip
     all_goals rw [hd,B] at hR
     all_goals simp only [sB.1,qja,seval,ht,e0,e3,c1,hx,w,hz,ha,hb,hd,B,I] at he
     all_goals subst he
     all_goals first
      | (refine .inr ⟨_,_,rfl,by simp,.inr ⟨rfl,by simpa using hR.symm,_,rfl,Y0,?_⟩⟩
         simp only [sB.1,seval,ht]
         done)
      | (refine .inl ⟨_,k - 1,rfl,zo,_,i + 1,rfl,Y0,?_,?_,zo,by simpa using hR,hl⟩
         ·simp only [sB.1,seval,ht,e0]
         ·simp only [sB.1,seval,ht])
  ·have c1:ilt (i:Int) (s.length:Int) = false:=by rw [qf];simp;omega
   simp only [sB.1,qja,seval,ht,e0,e3,c1] at he
   subst he
   rw [List.drop_eq_nil_of_le hi,qaJ] at hR
   exact .inr ⟨_,_,rfl,by simp,.inl ⟨rfl,hR.symm,_,rfl,Y0⟩⟩
 rw [qi 69 c69]
 by_cases g1:1 <= s.length
 ·have d1:ilt (s.length:Int) 1 = false:=by rw [qf];simp;omega
  by_cases g2:s.length <= 16
  ·have d2:ilt 16 (s.length:Int) = false:=by rw [qf];simp;omega
   simp only [sB.1,c69,seval,d1,d2]
   generalize hr:qm h.length Wd (.loop qja) _ = r
   obtain ⟨x,E,rfl,hq⟩:=known hr (loop s.length _ ⟨_,0,rfl,X1,X1,X2,zo,rfl,g2⟩)
   rcases hq with ⟨rfl,hv,tt,rfl,ht⟩ | ⟨rfl,hv,tt,rfl,ht,e2⟩
   ·simp only [sB.1,seval,ht]
    simp [qc2,g1,g2,hv]
   ·simp only [sB.1,seval,ht,e2]
    simp [qc2,g1,g2,hv]
  ·have d2:ilt 16 (s.length:Int) = true:=by rw [qf];simp;omega
   simp only [sB.1,c69,seval,d1,d2]
   simp [qc2,g2]
 ·have d1:ilt (s.length:Int) 1 = true:=by rw [qf];simp;omega
  simp only [sB.1,c69,seval,d1]
  simp [qc2,g1]
theorem qaA (s:Str) (h:List qb):Wd (.fn 77 [] []) [.str s] h = some (.ret (.bool (qbF s)),h,false):=by
 rw [qi 77 c77]
 cases hv:qc2 s <;> cases hr:qbT s <;> (simp only [sB.1,c77,seval,qat,qnJ,hv,hr];simp [qbF,hv,hr])
theorem qdJ (t:List qa) (f:FuncId) (a b:List qh):pureV t (.mkF f a b) = some (.fn f (a.map (ev t)) (b.map (ev t))):=rfl
def Rt (H:Nat->Option qb) (d:Nat) (v:Val):Prop:=∀cs g,At H v cs->Cov H g->Wd (.fn 106 [] []) [.agg cs,.int .i64 (d:Nat)] g = some (.ret (.bool (qu d v)),g,false)
theorem qr1 {H:Nat->Option qb} {d:Nat} (hd:d <= 3) {v:Val} {cs:List qa} (hv:At H v cs) (hy:Rt H d v) (g:List qb) (hg:Cov H g) (R:Nat) (hR:R < g.length) (hr:g[R]? = some (.cells [.int .i64 (d + 1:Nat)])) :
  Wd (.fn 127 [] [.ptr R 0]) [.agg cs] g = some (.ret (.bool (qu d v)),g,false):=by
 have B:=hy cs (g ++ [.cells cs]) hv (hg.more _)
 obtain ⟨k,n,s,l,L,rfl,rfl,J,I,E,M⟩:=hv.cells
 generalize qu d _ = b at *
 have w1:IntKind.i64.wrap (((d + 1:Nat):Int) - 1) = ((d:Nat):Int):=by rw [qbt zo zo];omega
 rw [qi 127 qCk]
 simp only [sB.1,qCk,seval,J,I,E,hR,hr,w1,B]
theorem quv {H:Nat->Option qb} {d:Nat} (hd:d <= 3) {l:List Val} {L:qa} (hL:LP H l L) (hy:∀x ∈ l,Rt H d x) (h:List qb) (hg:Cov H h) (R:Nat) (hR:R < h.length) (hr:h[R]? = some (.cells [.int .i64 (d + 1:Nat)])) :
  Wd (.fn 126 [] []) [L,.fn 127 [] [.ptr R 0]] h = some (.ret (.bool ((decide (1 <= l.length) && decide (l.length <= 4)) && l.all (qu d))),h,false):=by
 obtain ⟨I,ak,J,al⟩:=hL.facts
 have loop:l.length <= 4->∀k st,(∃(tt:List qa) (i:Nat) (B:List qb),st = ⟨tt,h ++ B,false⟩/\tt.length = 26/\lkp tt 1 = .fn 127 [] [.ptr R 0]/\lkp tt 15 = L/\lkp tt 16 = .int .i64 (l.length:Nat)/\lkp tt 17 = .int .i64 (i:Nat)/\i + k = l.length/\l.all (qu d) = (l.drop i).all (qu d))->
   ∃x a1,qm h.length Wd (.loop qgM) st = some (x,a1)/\(∃(tt:List qa) (B:List qb),a1 = ⟨tt,h ++ B,false⟩/\tt.length = 26/\((x = .exit 0/\l.all (qu d) = true)\/(x = .ret/\lkp tt 4 = .bool false/\l.all (qu d) = false))):=by
  intro h4
  refine qy _ _ ?_
  rintro k st ⟨tt,i,B,rfl,ht,e1,ab,U,aa,ar,E⟩
  generalize he:qm h.length Wd qgM _ = r
  rcases Nat.lt_or_ge i l.length with hi | hi
  ·have c1:ilt (i:Int) (l.length:Int) = true:=by rw [qf];simp;omega
   have w:=qag (n:=i) zo
   obtain ⟨pp,cs,hx,a6,_,ae,ac⟩:=hL.item hi (hg.more B)
   have am:=hy _ (List.getElem_mem hi)
   have a7:(h ++ B).length = h.length + B.length:=by simp
   have M:=qr1 hd ac am (h ++ (B ++ [.cells cs])) (hg.more _) R (by simp;omega) (by rw [ja hR,hr])
   rw [jX hi,List.all_cons] at E
   obtain ⟨K,N,S,zs,Z,au,ap,aj,ai,ah,_⟩:=ac.cells
   subst ap
   have af:Nat.ble h.length (h.length + B.length) = true:=qe zo
   have ad:∀i t,qo pp i t = t:=λi t=>by rw [<-a6];exact qH _ _ _
   cases hb:qu d l[i] with
   | true=>
    rw [hb,jY] at E
    rw [hb] at M
    simp only [sB.1,qgM,seval,ht,e1,ab,U,aa,c1,w,hx,a6,ad,ae,a7,af,I,ak,J,aj,ai,ah,M,q9,qz,jZ,jr] at he
    subst he
    refine .inl ⟨_,k - 1,rfl,zo,_,i + 1,B ++ [.cells [.int .i64 K,.int .i64 N,.str S,Z]],rfl,Y0,?_,?_,?_,?_,zo,E⟩
    ·simp only [sB.1,seval,ht,e1]
    ·simp only [sB.1,seval,ht,ab]
    ·simp only [sB.1,seval,ht,U]
    ·simp only [sB.1,seval,ht]
   | false=>
    rw [hb,jQ] at E
    rw [hb] at M
    simp only [sB.1,qgM,seval,ht,e1,ab,U,aa,c1,w,hx,a6,ad,ae,a7,af,I,ak,J,aj,ai,ah,M,q9,qz,jZ,jr] at he
    subst he
    refine .inr ⟨_,_,rfl,by simp,_,B ++ [.cells [.int .i64 K,.int .i64 N,.str S,Z]],rfl,Y0,.inr ⟨rfl,?_,E⟩⟩
    simp only [sB.1,seval,ht]
  ·have c1:ilt (i:Int) (l.length:Int) = false:=by rw [qf];simp;omega
   simp only [sB.1,qgM,seval,ht,U,aa,c1] at he
   subst he
   rw [List.drop_eq_nil_of_le hi] at E
   exact .inr ⟨_,_,rfl,by simp,_,B,rfl,Y0,.inl ⟨rfl,E⟩⟩
 generalize hw:Wd _ _ h = w
 rw [qi 126 qAo] at hw
 by_cases a8:1 <= l.length/\l.length <= 4
 ·have d1:ilt (l.length:Int) 1 = false:=by rw [qf];simp;omega
  have d2:ilt 4 (l.length:Int) = false:=by rw [qf];simp;omega
  simp only [sB.1,qAo,seval,I,J,al,d1,d2] at hw
  generalize hr:qm h.length Wd (.loop qgM) _ = r at hw
  obtain ⟨x,a1,rfl,tt,B,rfl,ht,⟨rfl,ha⟩ | ⟨rfl,e4,ha⟩⟩:=known hr (loop a8.2 l.length _ ⟨_,0,[],by rw [List.append_nil],X1,X1,by simp only [sB.1,seval,I],X1,X2,zo,rfl⟩)
  ·simp only [sB.1,seval,ht] at hw
   rw [ha,decide_eq_true a8.1,decide_eq_true a8.2]
   exact hw.symm
  ·simp only [sB.1,seval,ht,e4] at hw
   rw [ha,Bool.and_false]
   exact hw.symm
 ·have d1:(ilt (l.length:Int) 1 || ilt 4 (l.length:Int)) = true:=by rw [qf,qf];simp;omega
  have d2:(decide (1 <= l.length) && decide (l.length <= 4)) = false:=by
   rw [Bool.and_eq_false_iff,decide_eq_false_iff_not,decide_eq_false_iff_not]
   omega
  simp only [sB.1,qAo,seval,I,J,al,d1] at hw
  rw [d2,jQ]
  exact hw.symm
theorem qvj:∀d,d <= 3->∀{H:Nat->Option qb} (v:Val),Rt H d v:=by
 have a3:∀x:Int,(x == 3) = true->((x == 0) = false/\(x == 1) = false/\(x == 2) = false):=λx h=>by
  simp only [beq_iff_eq,beq_eq_false_iff_ne] at *
  omega
 intro d
 induction d with
 | zero=>
  rintro _ H ⟨k,n,s,l⟩ cs g hv hg
  obtain ⟨L,rfl,hL⟩:=hv.lp
  obtain ⟨J,E,B,I⟩:=hL.facts
  have M:=λg=>qau s g
  have c1:ilt 0 ((0:Nat):Int) = false:=Eq.trans rfl rfl
  rw [qu]
  unfold qet
  rw [qi 106 qw4]
  cases h0:(k == 0) <;> cases h1:(k == 1) <;> cases h2:(k == 2) <;> cases h3:(k == 3) <;> simp only [sB.1,qw4,seval,-Int.reduceNatCast',J,E,B,I,h0,h1,h2,h3,M,c1,cond_true,cond_false,Bool.and_false,jQ]
 | succ d ih=>
  rintro hd H ⟨k,n,s,l⟩ cs g hv hg
  obtain ⟨L,rfl,hL⟩:=hv.lp
  obtain ⟨J,E,B,I⟩:=hL.facts
  have M:=λg=>qau s g
  have c1:ilt 0 ((d + 1:Nat):Int) = true:=by rw [qf];simp
  have hit:=quv (d:=d) zo hL (λx _=>ih zo x) (g ++ [.cells [.int .i64 k,.int .i64 n,.str s,L],.cells [.int .i64 (d + 1:Nat)]]) (hg.more _) (g.length + 1) (by simp) (by rw [qQ];rfl)
  rw [qu]
  unfold qet
  rw [qi 106 qw4]
  cases h3:(k == 3) with
  | true=>
   obtain ⟨h0,h1,h2⟩:=a3 k h3
   cases hn:(n == 0) <;> cases hs:(s == []) <;> simp only [sB.1,qw4,seval,J,E,B,I,h0,h1,h2,h3,hn,hs,hit,c1,qdJ,qes,qQ,cond_true,cond_false,Bool.and_false,jQ,jY]
  | false=>
   cases h0:(k == 0) <;> cases h1:(k == 1) <;> cases h2:(k == 2) <;> simp only [sB.1,qw4,seval,J,E,B,I,h0,h1,h2,h3,M,c1,cond_true,cond_false]
theorem qeE {H:Nat->Option qb} {v:Val} {cs:List qa} (hv:At H v cs) (g:List qb) (hg:Cov H g):Wd (.fn 79 [] []) [.agg cs] g = some (.ret (.bool (qu 3 v)),g,false):=by
 have h:=qvj 3 zo v cs (g ++ [.cells cs]) hv (hg.more _)
 have c3:((3:Nat):Int) = 3:=xk
 rw [c3] at h
 generalize qu 3 v = b at *
 obtain ⟨k,n,s,l,L,rfl,rfl,I,E,B,J⟩:=hv.cells
 rw [qi 79 c79]
 simp only [sB.1,c79,seval,I,E,B,h]
end Go.Proofs.YtnibchoenjmmjaaGreatDoor.AE
