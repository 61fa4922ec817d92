/- A part of the proof. No condition. -/
import Derived.Test.YtcbfifamliijlaaGreatDoorMa9
open Int renaming reduceNatCast'→rN
set_option maxRecDepth 100000
set_option maxHeartbeats 0
open List renaming take_append_of_le_length→jR,drop_eq_getElem_cons→jT,getElem?_eq_getElem→jh,length_append→ji,length_map→jQ,append_assoc→jp,append_nil→jF,map_map→jG,map_append→jW,getElem?_map→jr,nil_append→jV,cons_append→jw,getElem_cons_zero→j0,length_cons→jy,length_nil→jz,all_cons→jB,all_nil→jC
open Bool renaming and_eq_true→jk,true_and→jY,false_and→jL,not_false→jZ
open Nat renaming add_assoc→jt
namespace Go.Proofs.YtcbfifamliijlaaGreatDoor.AE
open Go.AE
def right:Nat->Exl->Bool
 | 0,_=>false
 | d + 1,.mk op n nm sub aS=>qb7 op n nm sub aS.length && aS.all (right d)
theorem qqF {a b:Int} (h:a < b):ilt a b = true:=by rw [qaj];exact decide_eq_true h
theorem qkx {a b:Int} (h:¬ a < b):ilt a b = false:=by rw [qaj];exact decide_eq_false h
theorem qwN {a b:Int} (h:a <= b):ile a b = true:=by rw [qaD];exact decide_eq_true h
theorem qJC {a b:Int} (h:¬ a <= b):ile a b = false:=by rw [qaD];exact decide_eq_false h
def dOK:Nat->Exl->Bool
 | 0,_=>false
 | m + 1,.mk _ _ _ _ aS=>aS.all (dOK m)
theorem qjr:∀(d:Nat) (e:Exl),right d e = true->dOK d e = true
 | 0,_,h=>by rw [right] at h;cases h
 | d + 1,.mk op n nm sub aS,h=>by
  rw [right,jk,List.all_eq_true] at h
  rw [dOK,List.all_eq_true]
  exact λa ha=>qjr d a (h.2 a ha)
theorem qLy:∀(m:Nat),m <= 100->∀(e:Exl) (h:List qj),(∃k,Fit k e)->∃v:Nat,Wd (.fn 66 [] []) [exV e,.int .i64 (m:Nat)] h = some (.ret (.int .i64 (v:Nat)),h,false)/\1 <= v/\v <= m + 1/\decide (v <= m) = dOK m e:=by
 intro m
 induction m with
 | zero=>
  rintro _ ⟨op,n,nm,sub,aS⟩ h _
  have z0:ile ((0:Nat):Int) 0 = true:=zk
  have w0:IntKind.i64.wrap (((0:Nat):Int) + 1) = ((1:Nat):Int):=zk
  refine ⟨1,?_,zo,zo,by rw [dOK];rfl⟩
  rw [qac,qm 66 c66]
  simp only [c66,sT.1,sC.1,qg,seval,-rN,z0,w0]
 | succ m ih=>
  rintro hm ⟨op,n,nm,sub,aS⟩ h ⟨k,hk⟩
  have ih:=ih zo
  obtain ⟨k,rfl⟩ :∃k',k = k' + 1:=by cases k with | zero=>exact hk.elim | succ k=>exact ⟨k,rfl⟩
  have hl:aS.length <= 20:=hk.1
  have hf:∀a ∈ aS,∃k,Fit k a:=λa ha=>⟨k,hk.2 a ha⟩
  have z0:ile ((m + 1:Nat):Int) 0 = false:=qJC zo
  have z1:IntKind.i64.wrap (((m + 1:Nat):Int) - 1) = ((m:Nat):Int):=by rw [qbU zo zo];omega
  rw [dOK,qac]
  have loop:∀q st,(∃(tt:List qd) (G:List qj) (i deep:Nat),st = ⟨tt,G,false⟩/\tt.length = 32/\G.take h.length = h/\h.length <= G.length/\lkp tt 1 = .int .i64 (m + 1:Nat)/\lkp tt 5 = .int .i64 (deep:Nat)/\lkp tt 13 = .lst (aS.map exV) .no/\lkp tt 14 = .int .i64 (aS.length:Nat)/\lkp tt 15 = .int .i64 (i:Nat)/\i + q = aS.length/\1 <= deep/\deep <= m + 1/\(aS.drop i).all (dOK m) = aS.all (dOK m))->
    ∃x E,qv h.length Wd (.loop qmK) st = some (x,E)/\(∃(tt:List qd) (G:List qj),E = ⟨tt,G,false⟩/\tt.length = 32/\G.take h.length = h/\((x = .exit 0/\aS.all (dOK m) = true/\∃deep:Nat,lkp tt 5 = .int .i64 (deep:Nat)/\1 <= deep/\deep <= m + 1)\/(x = .ret/\aS.all (dOK m) = false/\lkp tt 4 = .int .i64 (m + 2:Nat)))):=by
   refine qba _ (λx E=>∃(tt:List qd) (G:List qj),E = ⟨tt,G,false⟩/\tt.length = 32/\G.take h.length = h/\((x = .exit 0/\aS.all (dOK m) = true/\∃deep:Nat,lkp tt 5 = .int .i64 (deep:Nat)/\1 <= deep/\deep <= m + 1)\/(x = .ret/\aS.all (dOK m) = false/\lkp tt 4 = .int .i64 (m + 2:Nat)))) ?_
   rintro q st ⟨tt,G,i,deep,rfl,ht,a6,a1,e1,e5,a8,Y,a7,al,aj,ai,hR⟩
   generalize he:qv h.length Wd qmK _ = r
   rcases Nat.lt_or_ge i aS.length with hi | hi
   ·have c1:ilt (i:Int) (aS.length:Int) = true:=qqF zo
    have w:=qJ (n:=i) zo
    obtain ⟨v,hv,v1,v2,v3⟩:=ih aS[i] (G ++ [.cells (aS[i]).enc]) (hf _ (List.getElem_mem hi))
    have hg:(aS.map exV)[i]? = some (exV aS[i]):=by rw [jr,jh hi];rfl
    rw [jT hi,jB,<-v3] at hR
    generalize aS[i] = y at hv hg
    obtain ⟨ac,n',ad,ab,ak⟩:=y
    rw [qac] at hg
    rw [qac,qfs] at hv
    have hx:qi9 5 (.lst (aS.map exV) .no) (.int .i64 (i:Nat)) = some (.iptr [.int .i64 ac,.int .i64 n',.str ad,.str ab,.lst (ak.map exV) .no] 0):=qa3 hg rfl
    have aa:Nat.ble h.length G.length = true:=qx a1
    have w1:IntKind.i64.wrap (1 + (v:Int)) = ((v + 1:Nat):Int):=by rw [qbU zo zo];omega
    have mx:(if ((v + 1:Nat):Int) > (deep:Int) then ((v + 1:Nat):Int) else (deep:Int)) = ((max deep (v + 1):Nat):Int):=by split <;> omega
    cases hb:decide (v <= m) with
    | true=>
     have ae:v <= m:=of_decide_eq_true hb
     rw [hb,jY] at hR
     have c2:ilt ((m + 1:Nat):Int) ((max deep (v + 1):Nat):Int) = false:=qkx zo
     simp only [qmK,sT.1,sC.1,qg,seval,-rN,ht,e1,e5,a8,Y,a7,c1,hx,aa,hv,z1,w1,c2,w] at he
     subst he
     refine .inl ⟨_,q - 1,rfl,zo,_,_,i + 1,max deep (v + 1),rfl,Y1,by rw [jR a1,a6],by simp;omega,?_,?_,?_,?_,?_,zo,zo,zo,hR⟩
     ·simp only [sT.1,sC.1,seval,-rN,e1]
     ·simp only [sT.1,sC.1,seval,-rN,ht]
     ·simp only [sT.1,sC.1,seval,-rN,a8]
     ·simp only [sT.1,sC.1,seval,-rN,Y]
     ·simp only [sT.1,seval,-rN,ht]
    | false=>
     have ae:¬ v <= m:=of_decide_eq_false hb
     rw [hb,jL] at hR
     have af:max deep (v + 1) = m + 2:=zo
     have c2:ilt ((m + 1:Nat):Int) ((max deep (v + 1):Nat):Int) = true:=qqF zo
     simp only [qmK,sT.1,sC.1,qg,seval,-rN,ht,e1,e5,a8,Y,a7,c1,hx,aa,hv,z1,w1,c2] at he
     subst he
     refine .inr ⟨_,_,rfl,by simp,_,_,rfl,?_,?_,.inr ⟨rfl,hR.symm,?_⟩⟩
     ·simp only [qge,ht]
     ·rw [jR a1,a6]
     ·simp only [sT.1,seval,-rN,ht,af]
   ·have c1:ilt (i:Int) (aS.length:Int) = false:=qkx zo
    rw [List.drop_eq_nil_of_le hi,jC] at hR
    simp only [qmK,sT.1,sC.1,qg,seval,-rN,ht,Y,a7,c1] at he
    subst he
    exact .inr ⟨_,_,rfl,by simp,_,_,rfl,Y1,a6,.inl ⟨rfl,hR.symm,deep,by simp only [sT.1,sC.1,seval,-rN,e5],aj,ai⟩⟩
  generalize hw:Wd _ _ h = w
  rw [qm 66 c66] at hw
  simp only [c66,sT.1,sC.1,qg,seval,-rN,z0,jQ] at hw
  generalize hr:qv h.length Wd (.loop qmK) _ = r at hw
  obtain ⟨x,E,rfl,tt,G,rfl,ht,hG,hq⟩:=qgA hr (loop aS.length _ ⟨_,_,0,1,rfl,Y0,by simp,by simp,Y0,by simp only [sT.1,sC.1,seval,-rN];rfl,Y0,Y0,y5,zo,zo,zo,rfl⟩)
  rcases hq with ⟨rfl,I,deep,e5,b1,b2⟩ | ⟨rfl,I,e4⟩
  ·simp only [sT.1,sC.1,qg,seval,-rN,ht,e5] at hw
   subst hw
   refine ⟨deep,congrArg some (qbm hG rfl),b1,zo,?_⟩
   rw [I]
   exact decide_eq_true zo
  ·simp only [sT.1,seval,-rN,e4] at hw
   subst hw
   refine ⟨m + 2,congrArg some (qbm hG rfl),zo,zo,?_⟩
   rw [I]
   exact decide_eq_false zo
def qCr (d:Nat):Prop:=∀(e:Exl) (h:List qj),(∃k,Fit k e)->dOK d e = true->Wd (.fn 67 [] []) [exV e] h = some (.ret (.bool (right d e)),h,false)
theorem qJR {d:Nat} (hn:qCr d) (aS:List Exl) (hl:aS.length <= 20) (hf:∀a ∈ aS,∃k,Fit k a) (hD:∀a ∈ aS,dOK d a = true) (h:List qj) :
  Wd (.fn 84 [] []) [.lst (aS.map exV) .no,.fn 67 [] []] h = some (.ret (.bool (aS.all (right d))),h,false):=by
 have loop:∀q st,(∃(tt:List qd) (G:List qj) (i:Nat),st = ⟨tt,G,false⟩/\tt.length = 18/\G.take h.length = h/\h.length <= G.length/\lkp tt 1 = .fn 67 [] []/\lkp tt 7 = .lst (aS.map exV) .no/\lkp tt 8 = .int .i64 (aS.length:Nat)/\lkp tt 9 = .int .i64 (i:Nat)/\i + q = aS.length/\(aS.drop i).all (right d) = aS.all (right d))->
   ∃x E,qv h.length Wd (.loop qmL) st = some (x,E)/\(∃(tt:List qd) (G:List qj),E = ⟨tt,G,false⟩/\tt.length = 18/\G.take h.length = h/\((x = .exit 0/\aS.all (right d) = true)\/(x = .ret/\aS.all (right d) = false/\lkp tt 4 = .bool false))):=by
  refine qba _ (λx E=>∃(tt:List qd) (G:List qj),E = ⟨tt,G,false⟩/\tt.length = 18/\G.take h.length = h/\((x = .exit 0/\aS.all (right d) = true)\/(x = .ret/\aS.all (right d) = false/\lkp tt 4 = .bool false))) ?_
  rintro q st ⟨tt,G,i,rfl,ht,a1,Y,e1,e7,e8,e9,ac,hR⟩
  generalize he:qv h.length Wd qmL _ = r
  rcases Nat.lt_or_ge i aS.length with hi | hi
  ·have c1:ilt (i:Int) (aS.length:Int) = true:=qqF zo
   have w:=qJ (n:=i) zo
   have hv:=hn aS[i] (G ++ [.cells (aS[i]).enc]) (hf _ (List.getElem_mem hi)) (hD _ (List.getElem_mem hi))
   have hg:(aS.map exV)[i]? = some (exV aS[i]):=by rw [jr,jh hi];rfl
   rw [jT hi,jB] at hR
   generalize aS[i] = y at hv hg hR
   obtain ⟨a7,n',a8,a6,ab⟩:=y
   rw [qac] at hg
   rw [qac,qfs] at hv
   have hx:qi9 5 (.lst (aS.map exV) .no) (.int .i64 (i:Nat)) = some (.iptr [.int .i64 a7,.int .i64 n',.str a8,.str a6,.lst (ab.map exV) .no] 0):=qa3 hg rfl
   have aa:Nat.ble h.length G.length = true:=qx Y
   cases hb:right d (.mk a7 n' a8 a6 ab) with
   | true=>
    rw [hb,jY] at hR
    rw [hb] at hv
    simp only [qmL,sT.1,sC.1,qg,seval,-rN,ht,e1,e7,e8,e9,c1,hx,aa,hv,w] at he
    subst he
    refine .inl ⟨_,q - 1,rfl,zo,_,_,i + 1,rfl,Y1,by rw [jR Y,a1],by simp;omega,?_,?_,?_,?_,zo,hR⟩
    ·simp only [sT.1,sC.1,seval,-rN,e1]
    ·simp only [sT.1,sC.1,seval,-rN,e7]
    ·simp only [sT.1,sC.1,seval,-rN,e8]
    ·simp only [sT.1,seval,-rN,ht]
   | false=>
    rw [hb,jL] at hR
    rw [hb] at hv
    simp only [qmL,sT.1,sC.1,qg,seval,-rN,ht,e1,e7,e8,e9,c1,hx,aa,hv] at he
    subst he
    refine .inr ⟨_,_,rfl,by simp,_,_,rfl,?_,?_,.inr ⟨rfl,hR.symm,?_⟩⟩
    ·simp only [qge,ht]
    ·rw [jR Y,a1]
    ·simp only [sT.1,seval,-rN,ht]
  ·have c1:ilt (i:Int) (aS.length:Int) = false:=qkx zo
   rw [List.drop_eq_nil_of_le hi,jC] at hR
   simp only [qmL,sT.1,sC.1,qg,seval,-rN,ht,e8,e9,c1] at he
   subst he
   exact .inr ⟨_,_,rfl,by simp,_,_,rfl,Y1,a1,.inl ⟨rfl,hR.symm⟩⟩
 generalize hw:Wd _ _ h = w
 rw [qm 84 c84] at hw
 simp only [c84,sT.1,sC.1,qg,seval,-rN,jQ] at hw
 generalize hr:qv h.length Wd (.loop qmL) _ = r at hw
 obtain ⟨x,E,rfl,tt,G,rfl,ht,hG,hq⟩:=qgA hr (loop aS.length _ ⟨_,_,0,rfl,Y0,by simp,by simp,Y0,Y0,Y0,y5,zo,rfl⟩)
 rcases hq with ⟨rfl,I⟩ | ⟨rfl,I,e4⟩
 ·simp only [sT.1,sC.1,qg,seval,-rN,ht] at hw
  subst hw
  rw [I]
  exact congrArg some (qbm hG rfl)
 ·simp only [sT.1,seval,-rN,e4] at hw
  subst hw
  rw [I]
  exact congrArg some (qbm hG rfl)
theorem qIv:∀d,qCr d:=by
 intro d
 induction d with
 | zero=>
  rintro e h _ hd
  rw [dOK] at hd
  cases hd
 | succ d ih=>
  rintro ⟨op,n,nm,sub,aS⟩ h ⟨k,hk⟩ hd
  obtain ⟨k,rfl⟩ :∃k',k = k' + 1:=by cases k with | zero=>exact hk.elim | succ k=>exact ⟨k,rfl⟩
  have hf:∀a ∈ aS,∃k,Fit k a:=λa ha=>⟨k,hk.2 a ha⟩
  rw [dOK,List.all_eq_true] at hd
  have ha:=λg=>qJR ih aS hk.1 hf hd g
  have hn:=λg=>qD8 (h:=g) op n nm sub (aS.map exV)
  rw [jQ] at hn
  rw [qac,right,qm 67 c67]
  cases hb:qb7 op n nm sub aS.length with
  | false=>simp only [c67,sT.1,sC.1,qg,qH,seval,-rN,hn,hb]
  | true=>simp only [c67,sT.1,sC.1,qg,qH,seval,-rN,hn,hb,ha]
theorem qwB (e:Exl) (h:List qj) (hk:∃k,Fit k e):Wd (.fn 27 [] []) [exV e] h = some (.ret (.bool (right 20 e)),h,false):=by
 obtain ⟨v,hv,v1,v2,v3⟩:=qLy 20 zo e (h ++ [.cells e.enc]) hk
 have hn:=λhd g=>qIv 20 e g hk hd
 have c20:((20:Nat):Int) = 20:=Eq.trans rfl rfl
 rw [c20] at hv
 cases hd:dOK 20 e with
 | false=>
  rw [hd] at v3
  have hr:right 20 e = false:=by
   cases hr:right 20 e with
   | false=>rfl
   | true=>rw [qjr _ _ hr] at hd;cases hd
  have c1:ile (v:Int) 20 = false:=by have:=of_decide_eq_false v3;exact qJC zo
  rw [hr]
  obtain ⟨op,n,nm,sub,aS⟩:=e
  rw [qac,qfs] at hv
  rw [qac,qm 27 c27]
  simp only [c27,sT.1,sC.1,qg,qH,seval,-rN,hv,c1]
 | true=>
  have hn:=hn hd
  rw [hd] at v3
  have c1:ile (v:Int) 20 = true:=by have:=of_decide_eq_true v3;exact qwN zo
  obtain ⟨op,n,nm,sub,aS⟩:=e
  rw [qac,qfs] at hv
  rw [qac] at hn
  rw [qac,qm 27 c27]
  simp only [c27,sT.1,sC.1,qg,qH,seval,-rN,hv,c1,hn]
def BX (s:Str):qj:=.bld 84 5 s
def bsO:Option qj->Str
 | some (.bld _ _ s)=>s
 | _=>[]
def isB:Option qj->Bool
 | some (.bld t e _)=>Nat.beq t 84 && Nat.beq e 5
 | _=>false
theorem qcB (s:Str):bsO (some (BX s)) = s:=Eq.trans rfl rfl
theorem qcV (s:Str):isB (some (BX s)) = true:=Eq.trans rfl rfl
theorem bt:(Nat.beq 84 84 && Nat.beq 5 5) = true:=zk
theorem qee {o:Option qj} (h:isB o = true):o = some (BX (bsO o)):=by
 unfold isB at h
 split at h
 ·rw [jk] at h
  rw [Nat.eq_of_beq_eq_true h.1,Nat.eq_of_beq_eq_true h.2]
  rfl
 ·cases h
section
variable {G:List qj} {id:Nat} {S:Str}
theorem qzh {a:Str} (hS:S.length <= qk) (h:a <+: S):a.length <= qk:=Nat.le_trans h.length_le hS
theorem qkt (hS:S.length <= qk) (u:Str) (h:isB G[id]? = true) (hp:bsO G[id]? ++ u <+: S):Wd (.fn 31 [] []) [.ptr id 0,.str u] G = some (.ret (.tup [.int .i64 (u.length:Nat),.niliface]),G.set id (BX (bsO G[id]? ++ u)),false):=by
 have e:=qee h
 generalize bsO G[id]? = s at *
 have hl:=qzh hS hp
 rw [ji] at hl
 have hx:wsX 84 5 Wd [.ptr id 0,.str u] G = some (.ret (.tup [.int .i64 (u.length:Nat),.niliface]),G.set id (BX (s ++ u)),false):=by
  have hb:Nat.ble (s.length + u.length) qk = true:=qx hl
  simp only [wsX,e,BX,hb,bt,Bool.and_self,cond_true]
 exact (qhf qeq (show X 31 = some (wsX 84 5) by kernel_rfl)).trans hx
theorem qgS (hS:S.length <= qk) (c:Int) (d:UInt8) (hc:c = (d.toNat:Int)) (h:isB G[id]? = true) (hp:bsO G[id]? ++ [d] <+: S):Wd (.fn 105 [] []) [.ptr id 0,.int .u8 c] G = some (.ret .niliface,G.set id (BX (bsO G[id]? ++ [d])),false):=by
 subst hc
 have e:=qee h
 generalize bsO G[id]? = s at *
 have hl:=qzh hS hp
 rw [ji] at hl
 have hx:wbX 84 5 Wd [.ptr id 0,.int .u8 (d.toNat:Int)] G = some (.ret .niliface,G.set id (BX (s ++ [d])),false):=by
  have hb:Nat.ble s.length qk = true:=qx zo
  have h0:ile 0 (d.toNat:Int) = true:=by rw [qaD];simp
  have h1:ile (d.toNat:Int) 255 = true:=by rw [qaD];have:=d.toNat_lt;exact decide_eq_true zo
  have h2:(d.toNat:Int).toNat.toUInt8 = d:=by simp
  simp only [wbX,e,BX,hb,h0,h1,h2,bt,Bool.and_self,cond_true]
 exact (qhf qeq (show X 105 = some (wbX 84 5) by kernel_rfl)).trans hx
theorem qsZ (n:Int) (h0:0 <= n) (h1:n <= 9223372036854775807):Wd (.fn 103 [] []) [.int .i64 n] G = some (.ret (.str (Lib.itoa n)),G,false):=by
 have hx:itX Wd [.int .i64 n] G = some (.ret (.str (Lib.itoa n)),G,false):=by
  have a:ile (-9223372036854775808) n = true:=by rw [qaD];exact decide_eq_true zo
  have b:ile n 9223372036854775807 = true:=by rw [qaD];exact decide_eq_true h1
  simp only [itX,a,b,Bool.and_self,cond_true]
 exact (qhf qeq (show X 103 = some itX by kernel_rfl)).trans hx
theorem qyb (h:isB G[id]? = true) (hn:(bsO G[id]?).isEmpty = false):Wd (.fn 32 [] []) [.ptr id 0] G = some (.ret (.str (bsO G[id]?)),G,false):=by
 have e:=qee h
 generalize bsO G[id]? = s at *
 have hx:stX 84 5 Wd [.ptr id 0] G = some (.ret (.str s),G,false):=by
  simp only [stX,e,BX,hn,bt,Bool.and_self,jZ,cond_true]
 exact (qhf qeq (show X 32 = some (stX 84 5) by kernel_rfl)).trans hx
def qAS (len k:Nat) (a i:qd):Option qd:=
 match a,i with
 | .ptr b o,.int _ n=>if 0 <= n/\n < (len:Int) then some (.ptr b (o + n.toNat * k)) else none
 | .iptr cs o,.int _ n=>if 0 <= n/\n < (len:Int) then some (.iptr cs (o + n.toNat * k)) else none
 | _,_=>none
theorem qBh {base:Nat} {call:AE.Call} {p:qcD} {s:St} (d:Option Nat) (n k:Nat) (x i:qB):qA base call p d (.ixaA n k x i) s = qhc d s (qAS n k (ev s.t x) (ev s.t i)):=by
 rw [qa7 _ _ rfl (by simp) (by simp) (by simp)]
 simp only [pureV]
 cases ev s.t x <;> cases ev s.t i <;> rfl
def ranks:List Int:=[9,9,9,9,9,9,9,9,9,9,9,9,8,7,3,5,5,6,6,6,4,4,4,2,1,0]
def rk (op:Int):Int:=ranks.getD op.toNat 9
def Exl.op:Exl->Int
 | .mk op _ _ _ _=>op
theorem qBu {e:Exl} (h0:0 <= e.op) (h1:e.op <= 25):Wd (.fn 151 [] []) [exV e] G = some (.ret (.int .i64 (rk e.op)),G,false):=by
 obtain ⟨op,n,nm,sb,aS⟩:=e
 simp only [Exl.op] at *
 rw [qac,qm 151 qFp]
 have c1:ilt op 0 = false:=by rw [qaj];exact decide_eq_false zo
 have c2:ile 26 op = false:=by rw [qaD];exact decide_eq_false zo
 obtain ⟨k,rfl⟩ :∃k:Nat,op = k:=⟨op.toNat,zo⟩
 have x:qAS 26 1 (.iptr g3 0) (.int .i64 (k:Nat)) = some (.iptr g3 k):=by
  have q:(0:Int) <= (k:Int)/\(k:Int) < ((26:Nat):Int):=zo
  rw [qAS,if_pos q]
  simp
 have y:(g3[k]?).map qd.dim = some (.int .i64 (rk (k:Nat))):=by
  have:k = 0\/k = 1\/k = 2\/k = 3\/k = 4\/k = 5\/k = 6\/k = 7\/k = 8\/k = 9\/k = 10\/k = 11\/k = 12\/k = 13\/k = 14\/k = 15\/k = 16\/k = 17\/k = 18\/k = 19\/k = 20\/k = 21\/k = 22\/k = 23\/k = 24\/k = 25:=zo
  rcases this with rfl | rfl | rfl | rfl | rfl | rfl | rfl | rfl | rfl | rfl | rfl | rfl | rfl | rfl | rfl | rfl | rfl | rfl | rfl | rfl | rfl | rfl | rfl | rfl | rfl | rfl <;> rfl
 simp only [qFp,sT.1,sC.1,qg,qH,seval,-rN,c1,c2,qBh,x,y]
end
def inn (k:Int) (p:Int×Str):Str:=bif ile k (rk p.1) then p.2 else 40 :: (p.2 ++ [41])
def qb0:List Str->Str
 | []=>[]
 | x :: r=>x ++ (r.map λt=>44 :: 32 :: t).flatten
theorem qja (l:List Str) (x:Str):qb0 (l ++ [x]) = bif l.isEmpty then x else qb0 l ++ (44 :: 32 :: x):=by
 cases l with
 | nil=>simp [qb0]
 | cons y l=>simp [qb0]
def sgn (op:Int):Str×Int×Int:=
 bif op == 24 then ([32,111,114,32],1,2) else bif op == 23 then ([32,97,110,100,32],2,3) else bif op == 20 then ([32,61,32],5,5) else bif op == 21 then ([32,60,32],5,5) else bif op == 22 then ([32,60,61,32],5,5)
 else bif op == 15 then ([32,43,32],5,6) else bif op == 16 then ([32,45,32],5,6) else bif op == 17 then ([32,42,32],6,7) else bif op == 18 then ([32,47,32],6,7) else ([32,37,32],6,7)
theorem quN (op:Int) (G:List qj) (h0:15 <= op) (h1:op <= 24):Wd (.fn 108 [] []) [.int .i64 op] G = some (.ret (.tup [.str (sgn op).1,.int .i64 (sgn op).2.1,.int .i64 (sgn op).2.2]),G,false):=by
 have:op = 15\/op = 16\/op = 17\/op = 18\/op = 19\/op = 20\/op = 21\/op = 22\/op = 23\/op = 24:=zo
 rw [qm 108 qFf]
 rcases this with rfl | rfl | rfl | rfl | rfl | rfl | rfl | rfl | rfl | rfl <;> (simp only [qFf,sT.1,sC.1,qg,seval,-rN];rfl)
theorem qg7 {aS:List Exl} {i:Nat} (hi:i < aS.length):qi9 5 (.lst (aS.map exV) .no) (.int .i64 (i:Nat)) = some (.iptr aS[i].enc 0):=by
 have:=qa3 (k:=5) (xs:=aS.map exV) (f:=.no) (j:=.i64) (x:=exV aS[i]) (by rw [jr,jh hi];rfl) (by obtain ⟨op,n,nm,sb,E⟩:=aS[i];rw [qac];rfl)
 exact this
def ql2 (S:Str) (a:Exl) (t:Str):Prop:=(0 <= a.op/\a.op <= 25)/\∀(G:List qj) (id:Nat),id < G.length->isB G[id]? = true->bsO G[id]? ++ t <+: S->Wd (.fn 68 [] []) [.ptr id 0,exV a] G = some (.ret (.tup []),G.set id (BX (bsO G[id]? ++ t)),false)
def qB7 (S:Str) (a:Exl) (k:Int) (t:Str):Prop:=∀(G:List qj) (id:Nat),id < G.length->isB G[id]? = true->bsO G[id]? ++ t <+: S->Wd (.fn 104 [] []) [.ptr id 0,exV a,.int .i64 k] G = some (.ret (.tup []),G.set id (BX (bsO G[id]? ++ t)),false)
theorem qdc {S:Str} (hS:S.length <= qk) {a:Exl} {t:Str} (h:ql2 S a t) (k:Int):qB7 S a k (inn k (a.op,t)):=by
 intro G id E hb hp
 have e:=qee hb
 generalize bsO G[id]? = s at *
 obtain ⟨⟨h0,h1⟩,hT⟩:=h
 have hr:=λG=>qBu (G:=G) h0 h1
 obtain ⟨op,n,nm,sb,aS⟩:=a
 simp only [Exl.op] at *
 rw [qac] at hT hr ⊢
 generalize hw:Wd _ _ G = w
 rw [qm 104 qCG] at hw
 have a1:=fun {G id}=>qgS (G:=G) (id:=id) hS 40 40 rfl
 have Y:=fun {G id}=>qgS (G:=G) (id:=id) hS 41 41 rfl
 have I:id < G.length + 1:=zo
 unfold inn at hp ⊢
 cases hc:ile k (rk op) with
 | true=>
  rw [hc,cond_true] at hp
  simp only [qCG,sT.1,sC.1,qg,seval,-rN,hr,hc,hT,E,I,e,qcB,qcV,hp] at hw
  subst hw
  rfl
 | false=>
  rw [hc,cond_false] at hp
  obtain ⟨R,rfl⟩:=hp
  simp only [qCG,sT.1,sC.1,qg,seval,-rN,hr,hc,hT,a1,Y,E,I,e,qcB,qcV,List.prefix_append_right_inj,List.cons_prefix_cons,List.nil_prefix,List.prefix_append] at hw
  subst hw
  rfl
theorem qAR {S:Str} (hS:S.length <= qk) {a:Exl} {t:Str} (h:ql2 S a t) (op n:Int) (nm sb:Str) (a7:0 <= n) (ac:n <= 3) (G:List qj) (id:Nat) (a8:id < G.length) (hb:isB G[id]? = true) (hp:bsO G[id]? ++ (inn (bif a.op == 0 then 10 else 8) (a.op,t) ++ (46 :: Lib.itoa n)) <+: S) :
  Wd (.fn 107 [] []) [.ptr id 0,exV (.mk op n nm sb [a])] G = some (.ret (.tup []),G.set id (BX (bsO G[id]? ++ (inn (bif a.op == 0 then 10 else 8) (a.op,t) ++ (46 :: Lib.itoa n)))),false):=by
 have e:=qee hb
 generalize bsO G[id]? = s at *
 have hI:=λk=>qdc hS h k
 have hi:=fun {G}=>qsZ (G:=G) n a7 zo
 unfold qB7 at hI
 obtain ⟨Y,n',a6,a1,ab⟩:=a
 simp only [Exl.op] at *
 obtain ⟨R,rfl⟩:=hp
 rw [qac] at hI
 have x1:=qg7 (aS:=[Exl.mk Y n' a6 a1 ab]) (i:=0) (by simp)
 simp only [List.map_cons,List.map_nil,qac,j0,qfs,cc0] at x1
 generalize hw:Wd _ _ G = w
 rw [qac,qm 107 qFe] at hw
 rw [List.map_cons,List.map_nil,qac] at hw
 have I:=fun {G id}=>qgS (G:=G) (id:=id) hS 46 46 rfl
 have E:=fun {G id u}=>qkt (G:=G) (id:=id) hS u
 have aa:id < G.length + 1:=zo
 cases hc:Y == 0 <;> rw [hc] at hS hI I E <;>
 simp only [qFe,sT.1,sC.1,qg,seval,-rN,hI,hi,x1,hc,I,E,a8,aa,e,qcB,qcV,List.prefix_append_right_inj,List.cons_prefix_cons,List.nil_prefix,List.prefix_append] at hw <;>
 subst hw <;>
 simp only [cond_true,cond_false]
def qu7 (ps:List (Int×Str)):Str:=40 :: (qb0 (ps.map (inn 0)) ++ (bif ps.length == 1 then [44,41] else [41]))
theorem qqv {S:Str} (hS:S.length <= qk) {aS:List Exl} {f:Exl->Str} (h:∀a ∈ aS,ql2 S a (f a)) (hl:aS.length <= 100) {H:List qj} {id:Nat} (a7:id < H.length) {s:Str} (hp:∀i,i <= aS.length->s ++ qb0 ((aS.take i).map λa=>inn 0 (a.op,f a)) <+: S) :
  ∀k st,(∃(tt:List qd) (i:Nat) (l:List qj),st = ⟨tt,H.set id (BX (s ++ qb0 ((aS.take i).map λa=>inn 0 (a.op,f a)))) ++ l,false⟩/\tt.length = 30/\lkp tt 0 = .ptr id 0/\lkp tt 1 = .lst (aS.map exV) .no/\lkp tt 8 = .lst (aS.map exV) .no/\lkp tt 9 = .int .i64 (aS.length:Nat)/\lkp tt 10 = .int .i64 (i:Nat)/\i + k = aS.length)->
   ∃x Y,qv H.length Wd (.loop qh3) st = some (x,Y)/\(∃(tt:List qd) (l:List qj),Y = ⟨tt,H.set id (BX (s ++ qb0 (aS.map λa=>inn 0 (a.op,f a)))) ++ l,false⟩/\tt.length = 30/\lkp tt 0 = .ptr id 0/\lkp tt 1 = .lst (aS.map exV) .no/\x = .exit 0):=by
 refine qba _ (λx Y=>(∃(tt:List qd) (l:List qj),Y = ⟨tt,H.set id (BX (s ++ qb0 (aS.map λa=>inn 0 (a.op,f a)))) ++ l,false⟩/\tt.length = 30/\lkp tt 0 = .ptr id 0/\lkp tt 1 = .lst (aS.map exV) .no/\x = .exit 0)) ?_
 rintro k st ⟨tt,i,l,rfl,ht,e0,e1,e8,e9,a6,ad⟩
 generalize he:qv H.length Wd qh3 _ = r
 rcases Nat.lt_or_ge i aS.length with hi | hi
 ·have c1:ilt (i:Int) (aS.length:Int) = true:=qqF zo
  have w:=qJ (n:=i) zo
  have hx:=qg7 hi
  have E:=hp (i + 1) zo
  have hI:=qdc hS (h _ (List.getElem_mem hi)) 0
  unfold qB7 at hI
  rw [List.take_succ_eq_append_getElem hi,jW,List.map_cons,List.map_nil,qja] at E
  have a1:((aS.take i).map λa=>inn 0 (a.op,f a)).isEmpty = !(ilt 0 (i:Int)):=by
   rw [qaj]
   cases i with
   | zero=>rfl
   | succ i=>cases aS with
    | nil=>simp at hi
    | cons b r=>simp
  have I:H.set id (BX (s ++ qb0 ((aS.take (i + 1)).map λa=>inn 0 (a.op,f a)))) = H.set id (BX (s ++ bif ((aS.take i).map λa=>inn 0 (a.op,f a)).isEmpty then inn 0 (aS[i].op,f aS[i]) else qb0 ((aS.take i).map λa=>inn 0 (a.op,f a)) ++ (44 :: 32 :: inn 0 (aS[i].op,f aS[i])))):=by
   rw [List.take_succ_eq_append_getElem hi,jW,List.map_cons,List.map_nil,qja]
  rw [a1] at E I
  have ab:ilt 0 (i:Int) = false->qb0 ((aS.take i).map λa=>inn 0 (a.op,f a)) = []:=λhq=>by
   rw [hq] at a1
   rw [List.isEmpty_iff.1 a1,qb0]
  generalize inn 0 (aS[i].op,f aS[i]) = u at E I hI
  generalize aS[i] = a at hI hx
  generalize qb0 ((aS.take i).map λa=>inn 0 (a.op,f a)) = q at *
  obtain ⟨op,n,nm,sb,ae⟩:=a
  rw [qac] at hI
  rw [qfs] at hx
  have aa:=fun {G id u}=>qkt (G:=G) (id:=id) hS u
  have hB:Nat.ble H.length (H.length + l.length) = true:=qx zo
  have ac:id < H.length + l.length:=zo
  have a8:id < H.length + (l.length + 1):=zo
  cases hc:ilt 0 (i:Int) with
  | false=>
   rw [hc,jZ,cond_true] at E I
   rw [ab hc] at he
   simp only [qh3,sT.1,sC.1,qg,seval,-rN,ht,e0,e8,e9,a6,c1,hc,hx,hI,hB,a7,a8,E,w,qcB,qcV] at he
   subst he
   refine .inl ⟨_,k - 1,rfl,zo,_,i + 1,_,by rw [I],Y1,?_,?_,?_,?_,?_,zo⟩
   all_goals simp only [sT.1,sC.1,seval,-rN,ht,e0,e1,e8,e9]
  | true=>
   rw [hc,Bool.not_true,cond_false] at E I
   obtain ⟨R,rfl⟩:=E
   simp only [qh3,sT.1,sC.1,qg,seval,-rN,ht,e0,e8,e9,a6,c1,hc,hx,hI,aa,hB,a7,a8,w,qcB,qcV,List.prefix_append_right_inj,List.cons_prefix_cons,List.nil_prefix,List.prefix_append] at he
   subst he
   refine .inl ⟨_,k - 1,rfl,zo,_,i + 1,_,by rw [I],Y1,?_,?_,?_,?_,?_,zo⟩
   all_goals simp only [sT.1,sC.1,seval,-rN,ht,e0,e1,e8,e9]
 ·have c1:ilt (i:Int) (aS.length:Int) = false:=qkx zo
  rw [List.take_of_length_le hi] at he
  simp only [qh3,sT.1,sC.1,qg,seval,-rN,ht,e9,a6,c1] at he
  subst he
  refine .inr ⟨_,_,rfl,by simp,_,l,rfl,Y1,?_,?_,rfl⟩
  all_goals simp only [sT.1,sC.1,seval,-rN,e0,e1]
def ntx (op n:Int) (nm sb:Str) (ps:List (Int×Str)):Str:=
 bif op == 0 then Lib.itoa n else bif op == 1 then [116,114,117,101] else bif op == 2 then [102,97,108,115,101] else bif op == 11 then [101,108,97,112,115,101,100]
 else bif op == 3 then 39 :: nm else bif op == 4 then nm else bif op == 5 then nm ++ (46 :: sb) else bif op == 7 then [99,111,117,110,116,40] ++ (nm ++ [41]) else bif op == 8 then [104,97,115,40] ++ (nm ++ [41])
 else bif op == 9 then [115,117,109,40] ++ (nm ++ [41]) else bif op == 10 then [108,101,97,115,116,40] ++ (nm ++ ([44,32] ++ (inn 0 (ps.getD 0 (0,[])) ++ [41])))
 else bif op == 6 then qu7 ps else bif op == 12 then inn (bif (ps.getD 0 (0,[])).1 == 0 then 10 else 8) (ps.getD 0 (0,[])) ++ (46 :: Lib.itoa n) else bif op == 13 then 45 :: inn 7 (ps.getD 0 (0,[])) else bif op == 14 then [110,111,116,32] ++ inn 3 (ps.getD 0 (0,[]))
 else bif op == 25 then [105,102,32] ++ (inn 0 (ps.getD 0 (0,[])) ++ ([32,116,104,101,110,32] ++ (inn 0 (ps.getD 1 (0,[])) ++ ([32,101,108,115,101,32] ++ inn 0 (ps.getD 2 (0,[]))))))
 else inn (sgn op).2.1 (ps.getD 0 (0,[])) ++ ((sgn op).1 ++ inn (sgn op).2.2 (ps.getD 1 (0,[])))
def tx:Nat->Exl->Str
 | 0,_=>[]
 | d + 1,.mk op n nm sb aS=>ntx op n nm sb (aS.map λa=>(a.op,tx d a))
section
variable {S:Str} {G:List qj} {id:Nat} {s:Str} {n:Int} {nm sb:Str}
structure WrO (S:Str):Prop where
 b:∀{G:List qj} {id:Nat} (c:Int) (d:UInt8),c = (d.toNat:Int)->isB G[id]? = true->bsO G[id]? ++ [d] <+: S->Wd (.fn 105 [] []) [.ptr id 0,.int .u8 c] G = some (.ret .niliface,G.set id (BX (bsO G[id]? ++ [d])),false)
 s:∀{G:List qj} {id:Nat} {u:Str},isB G[id]? = true->bsO G[id]? ++ u <+: S->Wd (.fn 31 [] []) [.ptr id 0,.str u] G = some (.ret (.tup [.int .i64 (u.length:Nat),.niliface]),G.set id (BX (bsO G[id]? ++ u)),false)
theorem qs3 (l r:List Str):qb0 l <+: qb0 (l ++ r):=by
 cases l with
 | nil=>exact List.nil_prefix
 | cons x l=>simp [qb0]
theorem qyu (hS:S.length <= qk) {aS:List Exl} {f:Exl->Str} (h:∀a ∈ aS,ql2 S a (f a)) (hl:aS.length <= 100) (a1:id < G.length) (hb:isB G[id]? = true) (hp:bsO G[id]? ++ qu7 (aS.map λa=>(a.op,f a)) <+: S) :
  Wd (.fn 106 [] []) [.ptr id 0,.lst (aS.map exV) .no] G = some (.ret (.tup []),G.set id (BX (bsO G[id]? ++ qu7 (aS.map λa=>(a.op,f a)))),false):=by
 have e:=qee hb
 generalize bsO G[id]? = s at *
 have a6:=fun {G id}=>qgS (G:=G) (id:=id) hS 40 40 rfl
 have I:=fun {G id}=>qgS (G:=G) (id:=id) hS 41 41 rfl
 have E:=fun {G id}=>qgS (G:=G) (id:=id) hS 44 44 rfl
 have Y:∀i,i <= aS.length->s ++ [40] ++ qb0 ((aS.take i).map λa=>inn 0 (a.op,f a)) <+: S:=λi hi=>by
  refine List.IsPrefix.trans ?_ hp
  rw [qu7,jp,List.prefix_append_right_inj,List.singleton_append,List.cons_prefix_cons]
  refine ⟨rfl,?_⟩
  rw [jG]
  refine List.IsPrefix.trans ?_ (List.prefix_append _ _)
  have q:=qs3 ((aS.take i).map λa=>inn 0 (a.op,f a)) ((aS.drop i).map λa=>inn 0 (a.op,f a))
  rwa [<-jW,List.take_append_drop] at q
 have loop:=qqv (H:=G) (id:=id) (s:=s ++ [40]) hS h hl a1 Y
 generalize hw:Wd _ _ G = w
 rw [qm 106 qFd] at hw
 have p40:s ++ [40] <+: S:=by have:=Y 0 zo;simpa [qb0] using this
 simp only [qFd,sT.1,sC.1,qg,seval,-rN,a6,p40,e,qcB,qcV,jQ] at hw
 generalize hr:qv G.length Wd (.loop qh3) _ = r at hw
 obtain ⟨x,a8,rfl,tt,l,rfl,ht,e0,e1,rfl⟩:=qgA hr (loop aS.length _ ⟨_,0,[],by rw [jF,List.take_zero,List.map_nil,qb0,jF],Y0,Y0,Y0,Y0,Y0,y5,zo⟩)
 have hm:(aS.map λa=>(a.op,f a)).map (inn 0) = aS.map λa=>inn 0 (a.op,f a):=by rw [jG];rfl
 rw [qu7,hm,jQ] at hp ⊢
 generalize qb0 (aS.map λa=>inn 0 (a.op,f a)) = q at *
 have hc:(((aS.length:Nat):Int) == 1) = (aS.length == 1):=by
  rw [Bool.eq_iff_iff];simp;omega
 obtain ⟨R,rfl⟩:=hp
 cases a7:(aS.length == 1) <;> rw [a7] at hS I E hc <;>
 simp only [sT.1,sC.1,qg,seval,-rN,ht,e0,e1,hc,I,E,a1,qcB,qcV,jQ,List.prefix_append_right_inj,List.cons_prefix_cons,List.nil_prefix] at hw <;>
 subst hw <;>
 simp only [cond_true,cond_false]
end
theorem qiA {s:Str} (h:qcw s = true):1 <= s.length/\s.length <= 16:=by
 simp only [qcw,jk,decide_eq_true_eq] at h
 exact h.1
theorem qbp {s:Str} (h:qI s = true):1 <= s.length/\s.length <= 16:=by
 rw [qI,jk] at h
 exact qiA h.1
theorem cc2:((2:Nat):Int) = 2:=Eq.trans rfl rfl
section
variable {S:Str} {G:List qj} {id:Nat} {n:Int} {nm sb:Str}
theorem qtP {op:Int} (I:15 <= op) (E:op <= 24) (ps:List (Int×Str)):ntx op n nm sb ps = inn (sgn op).2.1 (ps.getD 0 (0,[])) ++ ((sgn op).1 ++ inn (sgn op).2.2 (ps.getD 1 (0,[]))):=by
 have no:∀k:Int,k < 15\/24 < k->(op == k) = false:=λk hk=>beq_eq_false_iff_ne.2 zo
 simp only [ntx,no 0 (by decide),no 1 (by decide),no 2 (by decide),no 3 (by decide),no 4 (by decide),no 5 (by decide),no 6 (by decide),no 7 (by decide),no 8 (by decide),no 9 (by decide),no 10 (by decide),no 11 (by decide),no 12 (by decide),no 13 (by decide),no 14 (by decide),no 25 (by decide),cond_false]
theorem qet.facts {α:Type} {op:Int} {aS:List α} (h:qet op n nm sb aS):nm.length <= 16/\sb.length <= 16/\0 <= n:=by
 cases h
 case int h=>exact ⟨Nat.zero_le _,Nat.zero_le _,h⟩
 case item h _=>exact ⟨Nat.zero_le _,Nat.zero_le _,h⟩
 case sym h=>exact ⟨(qiA h).2,Nat.zero_le _,Int.le_refl _⟩
 case var _ h=>exact ⟨(qbp h).2,Nat.zero_le _,Int.le_refl _⟩
 case least h=>exact ⟨(qbp h).2,Nat.zero_le _,Int.le_refl _⟩
 case of h k=>exact ⟨(qbp h).2,(qbp k).2,Int.le_refl _⟩
 all_goals exact ⟨Nat.zero_le _,Nat.zero_le _,Int.le_refl _⟩
theorem qiz (hS:S.length <= qk) {op:Int} (hc:qet op n nm sb ([]:List Exl)) (hn:n <= 9223372036854775807) (a6:id < G.length) (hb:isB G[id]? = true) (hp:bsO G[id]? ++ ntx op n nm sb [] <+: S):Wd (.fn 68 [] []) [.ptr id 0,exV (.mk op n nm sb [])] G = some (.ret (.tup []),G.set id (BX (bsO G[id]? ++ ntx op n nm sb [])),false):=by
 obtain ⟨l1,l2,a1⟩:=hc.facts
 have e:=qee hb
 generalize bsO G[id]? = s at *
 have a7:id < G.length + 1:=zo
 have n0:∀k,k <= 200->k + nm.length <= qk:=λk hk=>by unfold qk;omega
 have n1:∀k,k <= 200->nm.length + k <= qk:=λk hk=>by unfold qk;omega
 have n2:∀k,k <= 200->k + sb.length <= qk:=λk hk=>by unfold qk;omega
 have n3:∀k,k <= 200->sb.length + k <= qk:=λk hk=>by unfold qk;omega
 have n8:nm.length + 1 + sb.length <= qk:=by unfold qk;omega
 have n5:nm.length <= qk:=by unfold qk;omega
 have n6:sb.length <= qk:=by unfold qk;omega
 have hi:=fun {G}=>qsZ (G:=G) n a1 hn
 obtain ⟨R,rfl⟩:=hp
 have wb:=fun {G id} c d=>qgS (G:=G) (id:=id) hS c d
 have ws:=fun {G id u}=>qkt (G:=G) (id:=id) hS u
 have Y:=fun {G id}=>wb (G:=G) (id:=id) 40 40 rfl
 have I:=fun {G id}=>wb (G:=G) (id:=id) 41 41 rfl
 have E:=fun {G id}=>wb (G:=G) (id:=id) 45 45 rfl
 generalize hw:Wd _ _ G = w
 rw [qac,qm 68 c68] at hw
 have hs:op = 0\/(op = 1\/op = 2\/op = 11)\/op = 3\/(op = 4\/op = 7\/op = 8\/op = 9)\/op = 5\/op = 6:=by
  cases hc
  case word h=>exact .inr (.inl h)
  case var h _=>exact .inr (.inr (.inr (.inl h)))
  all_goals omega
 have h6:op ≠ 6:=by
  rintro rfl
  cases hc
  case word h=>omega
  case var h _=>omega
  case tup h _=>exact absurd h (by decide)
 rcases hs with rfl | (rfl | rfl | rfl) | rfl | (rfl | rfl | rfl | rfl) | rfl | rfl
 all_goals first | exact absurd rfl h6 | skip
 all_goals
  try simp only [ntx,Int.reduceBEq,cond_true,cond_false] at wb ws Y I E ⊢
  simp only [c68,sT.1,sC.1,qg,seval,-rN,hi,ws,n0,n1,n8,a6,e,qcB,qcV,List.prefix_append_right_inj,List.cons_prefix_cons,List.nil_prefix,List.prefix_append] at hw
  subst hw
  first
  | rfl
  | simp only [jp,jw,jV]
theorem qzn (hS:S.length <= qk) {op:Int} (ho:op = 10\/op = 13\/op = 14) {a:Exl} {ta:Str} (ka:ql2 S a ta) (hn:nm.length <= 16) (a1:id < G.length) (hb:isB G[id]? = true) (hp:bsO G[id]? ++ ntx op n nm sb [(a.op,ta)] <+: S):Wd (.fn 68 [] []) [.ptr id 0,exV (.mk op n nm sb [a])] G = some (.ret (.tup []),G.set id (BX (bsO G[id]? ++ ntx op n nm sb [(a.op,ta)])),false):=by
 have e:=qee hb
 generalize bsO G[id]? = s at *
 have a6:id < G.length + 1:=zo
 have n0:∀k,k <= 200->k + nm.length <= qk:=λk hk=>by unfold qk;omega
 have n1:∀k,k <= 200->nm.length + k <= qk:=λk hk=>by unfold qk;omega
 have Ia:=λk=>qdc hS ka k
 unfold qB7 at Ia
 obtain ⟨oa,na,ma,ba,la⟩:=a
 simp only [Exl.op] at *
 have xa:=qg7 (aS:=[Exl.mk oa na ma ba la]) (i:=0) (by simp)
 simp only [List.map_cons,List.map_nil,qac,j0,qfs,cc0] at xa
 rw [qac] at Ia
 obtain ⟨R,rfl⟩:=hp
 have wb:=fun {G id} c d=>qgS (G:=G) (id:=id) hS c d
 have ws:=fun {G id u}=>qkt (G:=G) (id:=id) hS u
 have Y:=fun {G id}=>wb (G:=G) (id:=id) 40 40 rfl
 have I:=fun {G id}=>wb (G:=G) (id:=id) 41 41 rfl
 have E:=fun {G id}=>wb (G:=G) (id:=id) 45 45 rfl
 generalize hw:Wd _ _ G = w
 rw [qac,qm 68 c68] at hw
 rw [List.map_cons,List.map_nil,qac] at hw
 rcases ho with rfl | rfl | rfl
 all_goals
  simp only [ntx,Int.reduceBEq,cond_true,cond_false,List.getD_cons_zero] at wb ws Y I E Ia ⊢
  simp only [c68,sT.1,sC.1,qg,seval,-rN,Ia,xa,I,E,ws,n0,n1,a1,a6,e,qcB,qcV,List.prefix_append_right_inj,List.cons_prefix_cons,List.nil_prefix,List.prefix_append] at hw
  subst hw
  first
  | rfl
  | simp only [jp,jw,jV]
theorem qEN (hS:S.length <= qk) {op:Int} (a6:15 <= op) (a1:op <= 24) {a:Exl} {b:Exl} {ta:Str} {tb:Str} (ka:ql2 S a ta) (kb:ql2 S b tb) (I:id < G.length) (hb:isB G[id]? = true) (hp:bsO G[id]? ++ (inn (sgn op).2.1 (a.op,ta) ++ ((sgn op).1 ++ inn (sgn op).2.2 (b.op,tb))) <+: S):Wd (.fn 68 [] []) [.ptr id 0,exV (.mk op n nm sb [a,b])] G = some (.ret (.tup []),G.set id (BX (bsO G[id]? ++ (inn (sgn op).2.1 (a.op,ta) ++ ((sgn op).1 ++ inn (sgn op).2.2 (b.op,tb))))),false):=by
 have e:=qee hb
 generalize bsO G[id]? = s at *
 have Y:id < G.length + 1:=zo
 have Ia:=λk=>qdc hS ka k
 have Ib:=λk=>qdc hS kb k
 unfold qB7 at Ia Ib
 obtain ⟨oa,na,ma,ba,la⟩:=a
 obtain ⟨ob,nb,mb,bb,lb⟩:=b
 simp only [Exl.op] at *
 have xa:=qg7 (aS:=[Exl.mk oa na ma ba la,Exl.mk ob nb mb bb lb]) (i:=0) (by simp)
 have xb:=qg7 (aS:=[Exl.mk oa na ma ba la,Exl.mk ob nb mb bb lb]) (i:=1) (by simp)
 simp only [List.map_cons,List.map_nil,qac,j0,List.getElem_cons_succ,qfs,cc0,cc1] at xa xb
 rw [qac] at Ia Ib
 obtain ⟨R,rfl⟩:=hp
 have wb:=fun {G id} c d=>qgS (G:=G) (id:=id) hS c d
 have ws:=fun {G id u}=>qkt (G:=G) (id:=id) hS u
 have aa:=fun {G id}=>wb (G:=G) (id:=id) 40 40 rfl
 have a8:=fun {G id}=>wb (G:=G) (id:=id) 41 41 rfl
 have a7:=fun {G id}=>wb (G:=G) (id:=id) 45 45 rfl
 have no:∀k:Int,k < 15\/24 < k->(op == k) = false:=λk hk=>beq_eq_false_iff_ne.2 zo
 have o:=qq (no 0 (by decide)) <| qq (no 1 (by decide)) <| qq (no 2 (by decide)) <| qq (no 3 (by decide)) <| qq (no 4 (by decide)) <| qq (no 5 (by decide)) <| qq (no 6 (by decide)) <| qq (no 7 (by decide)) <| qq (no 8 (by decide)) <| qq (no 9 (by decide)) <| qq (no 10 (by decide)) <| qq (no 11 (by decide)) <| qq (no 12 (by decide)) <| qq (no 13 (by decide)) <| qq (no 14 (by decide)) (no 25 (by decide))
 have E:=λG=>quN op G a6 a1
 generalize hw:Wd _ _ G = w
 rw [qac,qm 68 c68] at hw
 rw [List.map_cons,List.map_cons,List.map_nil,qac,qac] at hw
 simp only [c68,sT.1,sC.1,qg,seval,-rN,Ia,xa,Ib,xb,ws,E,o,I,Y,e,qcB,qcV,List.prefix_append_right_inj,List.prefix_append] at hw
 subst hw
 first
 | rfl
 | simp only [jp,jw,jV]
theorem qIQ (hS:S.length <= qk) {a:Exl} {b:Exl} {c:Exl} {ta:Str} {tb:Str} {tc:Str} (ka:ql2 S a ta) (kb:ql2 S b tb) (kc:ql2 S c tc) (E:id < G.length) (hb:isB G[id]? = true) (hp:bsO G[id]? ++ ([105,102,32] ++ (inn 0 (a.op,ta) ++ ([32,116,104,101,110,32] ++ (inn 0 (b.op,tb) ++ ([32,101,108,115,101,32] ++ inn 0 (c.op,tc)))))) <+: S):Wd (.fn 68 [] []) [.ptr id 0,exV (.mk 25 n nm sb [a,b,c])] G = some (.ret (.tup []),G.set id (BX (bsO G[id]? ++ ([105,102,32] ++ (inn 0 (a.op,ta) ++ ([32,116,104,101,110,32] ++ (inn 0 (b.op,tb) ++ ([32,101,108,115,101,32] ++ inn 0 (c.op,tc)))))))),false):=by
 have e:=qee hb
 generalize bsO G[id]? = s at *
 have I:id < G.length + 1:=zo
 have Ia:=λk=>qdc hS ka k
 have Ib:=λk=>qdc hS kb k
 have Ic:=λk=>qdc hS kc k
 unfold qB7 at Ia Ib Ic
 obtain ⟨oa,na,ma,ba,la⟩:=a
 obtain ⟨ob,nb,mb,bb,lb⟩:=b
 obtain ⟨oc,nc,mc,bc,lc⟩:=c
 simp only [Exl.op] at *
 have xa:=qg7 (aS:=[Exl.mk oa na ma ba la,Exl.mk ob nb mb bb lb,Exl.mk oc nc mc bc lc]) (i:=0) (by simp)
 have xb:=qg7 (aS:=[Exl.mk oa na ma ba la,Exl.mk ob nb mb bb lb,Exl.mk oc nc mc bc lc]) (i:=1) (by simp)
 have xc:=qg7 (aS:=[Exl.mk oa na ma ba la,Exl.mk ob nb mb bb lb,Exl.mk oc nc mc bc lc]) (i:=2) (by simp)
 simp only [List.map_cons,List.map_nil,qac,j0,List.getElem_cons_succ,qfs,cc0,cc1,cc2] at xa xb xc
 rw [qac] at Ia Ib Ic
 obtain ⟨R,rfl⟩:=hp
 have wb:=fun {G id} c d=>qgS (G:=G) (id:=id) hS c d
 have ws:=fun {G id u}=>qkt (G:=G) (id:=id) hS u
 have a6:=fun {G id}=>wb (G:=G) (id:=id) 40 40 rfl
 have a1:=fun {G id}=>wb (G:=G) (id:=id) 41 41 rfl
 have Y:=fun {G id}=>wb (G:=G) (id:=id) 45 45 rfl
 generalize hw:Wd _ _ G = w
 rw [qac,qm 68 c68] at hw
 rw [List.map_cons,List.map_cons,List.map_cons,List.map_nil,qac,qac,qac] at hw
 simp only [c68,sT.1,sC.1,qg,seval,-rN,Ia,xa,Ib,xb,Ic,xc,ws,E,I,e,qcB,qcV,List.prefix_append_right_inj,List.cons_prefix_cons,List.nil_prefix,List.prefix_append] at hw
 subst hw
 first
 | rfl
 | simp only [jp,jw,jV]
end
section
variable {S:Str} {G:List qj} {id:Nat} {n:Int} {nm sb:Str}
theorem qLE (hS:S.length <= qk) {aS:List Exl} {f:Exl->Str} (h:∀a ∈ aS,ql2 S a (f a)) (hl:aS.length <= 100) (E:id < G.length) (hb:isB G[id]? = true) (hp:bsO G[id]? ++ qu7 (aS.map λa=>(a.op,f a)) <+: S) :
  Wd (.fn 68 [] []) [.ptr id 0,exV (.mk 6 n nm sb aS)] G = some (.ret (.tup []),G.set id (BX (bsO G[id]? ++ qu7 (aS.map λa=>(a.op,f a)))),false):=by
 have e:=qee hb
 generalize bsO G[id]? = s at *
 have I:id < G.length + 1:=zo
 have ht:=fun {G id}=>qyu (G:=G) (id:=id) hS h hl
 generalize hw:Wd _ _ G = w
 rw [qac,qm 68 c68] at hw
 simp only [c68,sT.1,sC.1,qg,seval,-rN,ht,hp,E,I,e,qcB,qcV] at hw
 subst hw
 rfl
theorem qIP (hS:S.length <= qk) {a:Exl} {t:Str} (h:ql2 S a t) (I:0 <= n) (E:n <= 3) (Y:id < G.length) (hb:isB G[id]? = true) (hp:bsO G[id]? ++ (inn (bif a.op == 0 then 10 else 8) (a.op,t) ++ (46 :: Lib.itoa n)) <+: S) :
  Wd (.fn 68 [] []) [.ptr id 0,exV (.mk 12 n nm sb [a])] G = some (.ret (.tup []),G.set id (BX (bsO G[id]? ++ (inn (bif a.op == 0 then 10 else 8) (a.op,t) ++ (46 :: Lib.itoa n)))),false):=by
 have e:=qee hb
 generalize bsO G[id]? = s at *
 have a1:id < G.length + 1:=zo
 have ht:=fun {G id}=>qAR hS h 12 n nm sb I E G id
 generalize inn (bif a.op == 0 then 10 else 8) (a.op,t) ++ (46 :: Lib.itoa n) = u at *
 rw [qac,List.map_cons,List.map_nil] at ht
 generalize hw:Wd _ _ G = w
 rw [qac,qm 68 c68] at hw
 simp only [c68,sT.1,sC.1,qg,seval,-rN,ht,hp,Y,a1,e,qcB,qcV] at hw
 subst hw
 rfl
end
def OkN:Exl->Prop
 | .mk _ n _ _ aS=>n <= 9223372036854775807/\∀a ∈ aS,OkN a
theorem qyE {op n:Int} {nm sb:Str} {aS:List Exl} (h:OkN (.mk op n nm sb aS)):n <= 9223372036854775807/\∀a ∈ aS,OkN a:=by rw [OkN] at h;exact h
theorem qu2 {S:Str} (hS:S.length <= qk) {op n:Int} {nm sb:Str} {aS:List Exl} {f:Exl->Str} (hb:qb7 op n nm sb aS.length = true) (hn:n <= 9223372036854775807) (h:∀a ∈ aS,ql2 S a (f a)):ql2 S (.mk op n nm sb aS) (ntx op n nm sb (aS.map λa=>(a.op,f a))):=by
 obtain ⟨h0,I,h4⟩:=qig hb
 refine ⟨⟨h0,I⟩,λG id E hB hp=>?_⟩
 cases qlt hb
 case int q=>exact qiz hS (.int q) hn E hB hp
 case word q=>exact qiz hS (.word q) hn E hB hp
 case sym q=>exact qiz hS (.sym q) hn E hB hp
 case var q r=>exact qiz hS (.var q r) hn E hB hp
 case of q r=>exact qiz hS (.of q r) hn E hB hp
 case tup q r=>exact qLE hS h zo E hB hp
 case least a q=>exact qzn hS (.inl rfl) (h a (by simp)) (qbp q).2 E hB hp
 case item a q r=>exact qIP hS (h a (by simp)) q zo E hB hp
 case un a q=>exact qzn hS (.inr q) (h a (by simp)) (Nat.zero_le _) E hB hp
 case bin a b q r=>
  rw [qtP q r] at hp ⊢
  exact qEN hS q r (h a (by simp)) (h b (by simp)) E hB hp
 case cond a b c=>exact qIQ hS (h a (by simp)) (h b (by simp)) (h c (by simp)) E hB hp
theorem qu3 {S:Str} (hS:S.length <= qk):∀(d:Nat) (e:Exl),right d e = true->OkN e->ql2 S e (tx d e)
 | 0,_,h,_=>by rw [right] at h;cases h
 | d + 1,.mk op n nm sb aS,h,hn=>by
  rw [right,jk,List.all_eq_true] at h
  obtain ⟨h1,h2⟩:=qyE hn
  rw [tx]
  exact qu2 hS h.1 h1 λa ha=>qu3 hS d a (h.2 a ha) (h2 a ha)
theorem qrA:∀(k u:Nat),u < 10 ^ (k + 1)->1 <= (Lib.decDigits u).length/\(Lib.decDigits u).length <= k + 1
 | k,u,h=>by
  rw [Lib.decDigits]
  split
  ·simp
  ·cases k with
   | zero=>omega
   | succ k=>
    have:=qrA k (u / 10) (by rw [Nat.pow_succ] at h;omega)
    simp
    omega
theorem qwZ {n:Int} (h0:0 <= n) (h1:n <= 9223372036854775807):1 <= (Lib.itoa n).length/\(Lib.itoa n).length <= 19:=by
 rw [Lib.itoa,if_neg zo]
 exact qrA 18 n.toNat zo
theorem qds (k:Int) (p:Int×Str):(inn k p).length <= p.2.length + 2:=by
 rw [inn]
 cases ile k (rk p.1) <;> simp
theorem qs2 (l:List Str):(qb0 l).length <= (l.map λt=>t.length + 2).sum:=by
 cases l with
 | nil=>simp [qb0]
 | cons x r=>
  simp only [qb0,ji,List.map_cons,List.sum_cons]
  have:((r.map λt=>44 :: 32 :: t).flatten).length = (r.map λt=>t.length + 2).sum:=by
   rw [List.length_flatten,jG]
   rfl
  omega
theorem qzl {α:Type} {l:List α} {f g:α->Nat} (h:∀a ∈ l,f a <= g a):(l.map f).sum <= (l.map g).sum:=by
 induction l with
 | nil=>simp
 | cons a l ih=>
  simp only [List.map_cons,List.sum_cons]
  have:=h a (by simp)
  have:=ih λb hb=>h b (by simp [hb])
  omega
theorem qBf {op n:Int} {nm sb:Str} {ps:List (Int×Str)} (hb:qb7 op n nm sb ps.length = true) (hn:n <= 9223372036854775807):1 <= (ntx op n nm sb ps).length/\(ntx op n nm sb ps).length <= 40 + (ps.map λp=>p.2.length + 4).sum:=by
 have hs:∀o:Int,1 <= (sgn o).1.length/\(sgn o).1.length <= 5:=λo=>by
  unfold sgn
  cases o == 24 <;> cases o == 23 <;> cases o == 20 <;> cases o == 21 <;> cases o == 22 <;> cases o == 15 <;> cases o == 16 <;> cases o == 17 <;> cases o == 18 <;> decide
 have hc:qet op n nm sb ps:=qlt hb
 obtain ⟨l1,l2,E⟩:=hc.facts
 have hi:=qwZ E hn
 cases hc
 case int q=>rw [show ntx 0 n [] [] [] = Lib.itoa n from rfl];omega
 case word q=>rcases q with rfl | rfl | rfl <;> simp [ntx]
 case sym q=>
  have:=qiA q
  rw [show ntx 3 0 nm [] [] = 39 :: nm from rfl]
  simp only [jy,List.map_nil,List.sum_nil]
  omega
 case var q r=>
  have:=qbp r
  rcases q with rfl | rfl | rfl | rfl <;> simp [ntx] <;> omega
 case of q r=>
  have:=qbp q
  have:=qbp r
  rw [show ntx 5 0 nm sb [] = nm ++ (46 :: sb) from rfl]
  simp only [jy,ji,List.map_nil,List.sum_nil]
  omega
 case tup q r=>
  rw [show ntx 6 0 [] [] ps = qu7 ps from rfl,qu7]
  have h1:=qs2 (ps.map (inn 0))
  rw [jG] at h1
  have h2:=qzl (l:=ps) (f:=(λt=>t.length + 2) ∘ inn 0) (g:=λp=>p.2.length + 4) λp _=>by have:=qds 0 p;simp only [Function.comp];omega
  cases ps.length == 1 <;> simp only [cond_true,cond_false,jy,ji,jz] <;> omega
 case least a q=>
  have:=qbp q
  have:=qds 0 a
  rw [show ntx 10 0 nm [] [a] = [108,101,97,115,116,40] ++ (nm ++ ([44,32] ++ (inn 0 a ++ [41]))) from rfl]
  simp only [jy,ji,jz,List.map_cons,List.map_nil,List.sum_cons,List.sum_nil]
  omega
 case item a q r=>
  rw [show ntx 12 n [] [] [a] = inn (bif a.1 == 0 then 10 else 8) a ++ (46 :: Lib.itoa n) from rfl]
  have:=qds (bif a.1 == 0 then 10 else 8) a
  simp only [jy,ji,List.map_cons,List.map_nil,List.sum_cons,List.sum_nil]
  omega
 case un a q=>
  have:=qds 7 a
  have:=qds 3 a
  rcases q with rfl | rfl
  ·rw [show ntx 13 0 [] [] [a] = 45 :: inn 7 a from rfl]
   simp only [jy,List.map_cons,List.map_nil,List.sum_cons,List.sum_nil]
   omega
  ·rw [show ntx 14 0 [] [] [a] = [110,111,116,32] ++ inn 3 a from rfl]
   simp only [jy,ji,jz,List.map_cons,List.map_nil,List.sum_cons,List.sum_nil]
   omega
 case bin a b q r=>
  have:=qds (sgn op).2.1 a
  have:=qds (sgn op).2.2 b
  have:=hs op
  rw [qtP q r]
  simp only [List.getD_cons_zero,List.getD_cons_succ,ji,List.map_cons,List.map_nil,List.sum_cons,List.sum_nil]
  omega
 case cond a b c=>
  rw [show ntx 25 0 [] [] [a,b,c] = [105,102,32] ++ (inn 0 a ++ ([32,116,104,101,110,32] ++ (inn 0 b ++ ([32,101,108,115,101,32] ++ inn 0 c)))) from rfl]
  have:=qds 0 a
  have:=qds 0 b
  have:=qds 0 c
  simp only [jy,ji,jz,List.map_cons,List.map_nil,List.sum_cons,List.sum_nil]
  omega
theorem qu9:∀(d:Nat) (e:Exl),right d e = true->OkN e->1 <= (tx d e).length/\(tx d e).length + 4 <= 44 * sz d e
 | 0,_,h,_=>by rw [right] at h;cases h
 | d + 1,.mk op n nm sb aS,h,hn=>by
  rw [right,jk,List.all_eq_true] at h
  obtain ⟨h1,h2⟩:=qyE hn
  have hl:=qBf (ps:=aS.map λa=>(a.op,tx d a)) (by rw [jQ];exact h.1) h1
  have hs:((aS.map λa=>(a.op,tx d a)).map λp=>p.2.length + 4).sum <= (aS.map λa=>44 * sz d a).sum:=by
   rw [jG]
   exact qzl λa ha=>(qu9 d a (h.2 a ha) (h2 a ha)).2
  have hm:(aS.map λa=>44 * sz d a).sum = 44 * (aS.map (sz d)).sum:=by
   clear h hn h2 hl hs
   induction aS with
   | nil=>rfl
   | cons a aS ih=>simp only [List.map_cons,List.sum_cons,ih];omega
  rw [tx,sz]
  omega
theorem qJ0 (b:Nat) (h:List qj):hop b (.bld 84 5) [] h = some (.ptr h.length 0,h ++ [BX []],false):=Eq.trans rfl rfl
theorem qmz {d:Nat} {e:Exl} (hr:right d e = true) (hn:OkN e) (hs:sz d e <= 6100) (G:List qj):Wd (.fn 28 [] []) [exV e] G = some (.ret (.str (tx d e)),G,false):=by
 obtain ⟨h1,h2⟩:=qu9 d e hr hn
 have hS:(tx d e).length <= qk:=by unfold qk;omega
 obtain ⟨_,hT⟩:=qu3 hS d e hr hn
 have I:(tx d e).isEmpty = false:=by
  cases hq:tx d e with
  | nil=>rw [hq] at h1;simp at h1
  | cons a l=>rfl
 have E:=fun {G id}=>qyb (G:=G) (id:=id)
 generalize tx d e = t at *
 obtain ⟨op,n,nm,sb,aS⟩:=e
 rw [qac] at hT
 generalize hx:qj.cells [.int .i64 op,.int .i64 n,.str nm,.str sb,.lst (aS.map exV) .no] = x
 have g1:(G ++ [x,BX []])[G.length + 1]? = some (BX []):=by rw [qaM];rfl
 have hT:=hT (G ++ [x,BX []]) (G.length + 1) (by simp) (by rw [g1];exact qcV _) (by rw [g1,qcB];exact List.prefix_rfl)
 rw [g1,qcB,jV,qol] at hT
 subst hx
 rw [qac,qm 28 c28]
 simp only [c28,sT.1,sC.1,qg,seval,-rN,qiQ,qcl,qcm,qJ0,hT,E,I,qcB,qcV]
def qlZ (e:Exl):Prop:=right 20 e = true/\OkN e/\sz 20 e <= 6100
def eT (e:Exl):Str:=tx 20 e
theorem qrW {e:Exl} (h:qlZ e) (G:List qj):Wd (.fn 28 [] []) [exV e] G = some (.ret (.str (eT e)),G,false):=qmz h.1 h.2.1 h.2.2 G
theorem qda {e:Exl} (h:qlZ e):(eT e).length <= 268400:=by
 have:=(qu9 20 e h.1 h.2.1).2
 have:=h.2.2
 unfold eT
 omega
abbrev PT:=Int×Str×Int
def mk3 (s:Str):PT:=(3,s,0)
def nm0 (s:Str):PT:=(0,s,0)
def in1 (n:Int):PT:=(1,[],n)
def sy2 (s:Str):PT:=(2,s,0)
def itk (k:Int) (p:Int×List PT):List PT:=bif ile k (rk p.1) then p.2 else mk3 [40] :: (p.2 ++ [mk3 [41]])
def qbg:List (List PT)->List PT
 | []=>[]
 | x :: r=>x ++ (r.map λt=>mk3 [44] :: t).flatten
def qEQ (ps:List (Int×List PT)):List PT:=mk3 [40] :: (qbg (ps.map (itk 0)) ++ (bif ps.length == 1 then [mk3 [44],mk3 [41]] else [mk3 [41]]))
def sgK (op:Int):PT:=bif op == 24 then nm0 [111,114] else bif op == 23 then nm0 [97,110,100] else bif op == 20 then mk3 [61] else bif op == 21 then mk3 [60] else bif op == 22 then mk3 [60,61] else bif op == 15 then mk3 [43] else bif op == 16 then mk3 [45] else bif op == 17 then mk3 [42] else bif op == 18 then mk3 [47] else mk3 [37]
def ntk (op n:Int) (nm sb:Str) (ps:List (Int×List PT)):List PT:=
 bif op == 0 then [in1 n] else bif op == 1 then [nm0 [116,114,117,101]] else bif op == 2 then [nm0 [102,97,108,115,101]] else bif op == 11 then [nm0 [101,108,97,112,115,101,100]]
 else bif op == 3 then [sy2 nm] else bif op == 4 then [nm0 nm] else bif op == 5 then [nm0 nm,mk3 [46],nm0 sb] else bif op == 7 then [nm0 [99,111,117,110,116],mk3 [40],nm0 nm,mk3 [41]] else bif op == 8 then [nm0 [104,97,115],mk3 [40],nm0 nm,mk3 [41]]
 else bif op == 9 then [nm0 [115,117,109],mk3 [40],nm0 nm,mk3 [41]] else bif op == 10 then [nm0 [108,101,97,115,116],mk3 [40],nm0 nm,mk3 [44]] ++ (itk 0 (ps.getD 0 (0,[])) ++ [mk3 [41]])
 else bif op == 6 then qEQ ps else bif op == 12 then itk (bif (ps.getD 0 (0,[])).1 == 0 then 10 else 8) (ps.getD 0 (0,[])) ++ [mk3 [46],in1 n] else bif op == 13 then mk3 [45] :: itk 7 (ps.getD 0 (0,[])) else bif op == 14 then nm0 [110,111,116] :: itk 3 (ps.getD 0 (0,[]))
 else bif op == 25 then nm0 [105,102] :: (itk 0 (ps.getD 0 (0,[])) ++ (nm0 [116,104,101,110] :: (itk 0 (ps.getD 1 (0,[])) ++ (nm0 [101,108,115,101] :: itk 0 (ps.getD 2 (0,[]))))))
 else itk (sgn op).2.1 (ps.getD 0 (0,[])) ++ (sgK op :: itk (sgn op).2.2 (ps.getD 1 (0,[])))
def tk:Nat->Exl->List PT
 | 0,_=>[]
 | d + 1,.mk op n nm sb aS=>ntk op n nm sb (aS.map λa=>(a.op,tk d a))
def Exl.cv:Exl->Exp
 | .mk op n nm sb aS=>.mk op n nm sb (aS.map λa=>a.cv)
theorem cv_mk (op n:Int) (nm sb:Str) (aS:List Exl):(Exl.mk op n nm sb aS).cv = .mk op n nm sb (aS.map Exl.cv):=by rw [Exl.cv]
def See (ws:List Tok) (n:Nat) (ks:List PT):Prop:=∀i t,ks[i]? = some t->n + i < ws.length/\((word ws (n + i)).kind,(word ws (n + i)).s,(word ws (n + i)).n) = t
theorem See.app {ws:List Tok} {n:Nat} {a b:List PT} (h:See ws n (a ++ b)):See ws n a/\See ws (n + a.length) b:=by
 refine ⟨λi t hi=>h i t ?_,λi t hi=>?_⟩
 ·rw [List.getElem?_append_left (List.getElem?_eq_some_iff.1 hi).1];exact hi
 ·have:=h (a.length + i) t (by rw [List.getElem?_append_right zo,Nat.add_sub_cancel_left];exact hi)
  rwa [<-jt] at this
theorem See.head {ws:List Tok} {n:Nat} {t:PT} {b:List PT} (h:See ws n (t :: b)):n < ws.length/\(word ws n).kind = t.1/\(word ws n).s = t.2.1/\(word ws n).n = t.2.2:=by
 have:=h 0 t rfl
 rw [Nat.add_zero] at this
 obtain ⟨h1,h2⟩:=this
 cases t with
 | mk a bc=>
  cases bc with
  | mk b c=>
   simp only [Prod.mk.injEq] at h2
   exact ⟨h1,h2⟩
theorem See.tail {ws:List Tok} {n:Nat} {t:PT} {b:List PT} (h:See ws n (t :: b)):See ws (n + 1) b:=λi u hi=>by
 have:=h (i + 1) u (by simpa using hi)
 rwa [Nat.add_comm i 1,<-jt] at this
def tW (t:PT) (s:Str):Bool:=(t.1 == 3 || t.1 == 0) && t.2.1 == s
theorem See.is {ws:List Tok} {n:Nat} {t:PT} {b:List PT} (h:See ws n (t :: b)) (s:Str):isW ws n s = tW t s:=by
 obtain ⟨_,h1,h2,_⟩:=h.head
 rw [isW,tW,h1,h2]
theorem See.named {ws:List Tok} {n:Nat} {t:PT} {b:List PT} (h:See ws n (t :: b)):qU ws n = (t.1 == 0 && qI t.2.1):=by
 obtain ⟨_,h1,h2,_⟩:=h.head
 rw [qU,h1,h2]
theorem qA7 {s w:Str} (h:qI s = true) (hw:qI w = false):(s == w) = false:=by
 rw [beq_eq_false_iff_ne]
 rintro rfl
 rw [h] at hw
 cases hw
def fnL (k:Nat):FuncId:=match k with
 | 0=>65
 | 1=>100
 | 2=>148
 | 3=>183
 | 4=>190
 | 5=>198
 | 6=>209
 | 7=>215
 | 8=>218
 | _=>219
structure Stp (ws:List Tok) (m k:Nat):Prop where
 of:isW ws m [46] = true->qU ws (m + 1) = false
 dot:k < 8->isW ws m [46] = false
 prod:k < 6->qct ws m = none
 sum:k < 5->qdH ws m = none
 same:k < 5->qcv ws m = none
 and:k < 2->qhG ws m = none
 or:k < 1->qtZ ws m = none
theorem Stp.up {ws:List Tok} {m k j:Nat} (h:Stp ws m k) (hk:k <= j):Stp ws m j:=⟨h.of,λ_=>h.dot zo,λ_=>h.prod zo,λ_=>h.sum zo,λ_=>h.same zo,λ_=>h.and zo,λ_=>h.or zo⟩
def qFF (ws:List Tok) (k:Nat) (pos:Int) (x:Exp) (m:Nat) (o:Out):Prop:=match k with
 | 8=>qeh ws pos x m o
 | 6=>qdw (qct ws) (qag 215 ws) pos x m o
 | 5=>qdw (qdH ws) (qag 209 ws) pos x m o
 | 2=>qdw (qhG ws) (qag 183 ws) pos x m o
 | 1=>qdw (qtZ ws) (qag 148 ws) pos x m o
 | _=>o = .ok x m
def Lv (ws:List Tok) (ks:List PT) (x:Exp) (k:Nat):Prop:=∀n,See ws n ks->n + ks.length < ws.length->Stp ws (n + ks.length) k->∀o,qFF ws k (word ws n).pos x (n + ks.length) o->qag (fnL k) ws n o
structure Fst (r:Nat) (ks:List PT):Prop where
 ne:ks ≠ []
 eif:∀t ∈ ks.head?,1 <= r->tW t [105,102] = false
 enot:∀t ∈ ks.head?,4 <= r->tW t [110,111,116] = false
 eneg:∀t ∈ ks.head?,8 <= r->tW t [45] = false
 esh:∀t ∈ ks.head?,tW t [41] = false
section
variable {ws:List Tok} {ks:List PT} {x:Exp} {r:Nat}
theorem Lv.stop {k:Nat} (h:Lv ws ks x k) {n:Nat} (hs:See ws n ks) (hl:n + ks.length < ws.length) (E:Stp ws (n + ks.length) k) (h8:isW ws (n + ks.length) [46] = false) (h6:qct ws (n + ks.length) = none\/k ≠ 6) (h5:qdH ws (n + ks.length) = none\/k ≠ 5) (h2:qhG ws (n + ks.length) = none\/k ≠ 2) (h1:qtZ ws (n + ks.length) = none\/k ≠ 1):qag (fnL k) ws n (.ok x (n + ks.length)):=by
 refine h n hs hl E _ ?_
 unfold qFF
 split
 ·exact .stop h8
 ·exact .stop (h6.resolve_right λe=>e rfl)
 ·exact .stop (h5.resolve_right λe=>e rfl)
 ·exact .stop (h2.resolve_right λe=>e rfl)
 ·exact .stop (h1.resolve_right λe=>e rfl)
 ·rfl
theorem Lv.end {k j:Nat} (h:Lv ws ks x k) {n:Nat} (hs:See ws n ks) (hl:n + ks.length < ws.length) (E:Stp ws (n + ks.length) j) (hj:j < k) (h7:k <= 7\/j < 8):qag (fnL k) ws n (.ok x (n + ks.length)):=by
 refine h n hs hl (E.up zo) _ ?_
 unfold qFF
 split
 ·exact .stop (E.dot zo)
 ·exact .stop (E.prod zo)
 ·exact .stop (E.sum zo)
 ·exact .stop (E.and zo)
 ·exact .stop (E.or zo)
 ·rfl
theorem qAH (hf:Fst r ks) {n:Nat} (hs:See ws n ks):n < ws.length/\(1 <= r->isW ws n [105,102] = false)/\(4 <= r->isW ws n [110,111,116] = false)/\(8 <= r->isW ws n [45] = false):=by
 cases ks with
 | nil=>exact absurd rfl hf.ne
 | cons t b=>exact ⟨hs.head.1,λh=>by rw [hs.is];exact hf.eif t rfl h,λh=>by rw [hs.is];exact hf.enot t rfl h,λh=>by rw [hs.is];exact hf.eneg t rfl h⟩
theorem qLv (hw:WF ws) (hf:Fst r ks) {k:Nat} (hk:k < r) (hr:r <= 9) (h:Lv ws ks x (k + 1)):Lv ws ks x k:=by
 intro n hs hl E o hc
 obtain ⟨hn,f1,f4,f8⟩:=qAH hf hs
 have he:k + 1 < 9->qag (fnL (k + 1)) ws n (.ok x (n + ks.length)):=λh9=>h.end hs hl E zo (.inr zo)
 have I:k = 0\/k = 1\/k = 2\/k = 3\/k = 4\/k = 5\/k = 6\/k = 7\/k = 8:=zo
 rcases I with rfl | rfl | rfl | rfl | rfl | rfl | rfl | rfl | rfl
 ·cases hc;exact qk2 hw hn (f1 zo) (he zo)
 ·exact qzd hw hn (he zo) hc
 ·exact qqV hw hn (he zo) hc
 ·cases hc;exact qn2 hw hn (f4 zo) (he zo)
 ·cases hc;exact qoj hw hn (he zo) (E.same zo)
 ·exact quV hw hn (he zo) hc
 ·exact qob hw hn (he zo) hc
 ·cases hc;exact qj7 hw hn (f8 zo) (he zo)
 ·exact qnK hw hn (h n hs hl (E.up zo) _ rfl) hc hc.mono
def Gd (ws:List Tok) (ks:List PT) (x:Exp) (r:Nat):Prop:=Fst r ks/\∀k,k <= r->Lv ws ks x k
theorem qcc (hw:WF ws) (hf:Fst r ks) (hr:r <= 9) (h:Lv ws ks x r):Gd ws ks x r:=by
 refine ⟨hf,λk hk=>?_⟩
 obtain ⟨j,rfl⟩ :∃j,r = k + j:=⟨r - k,zo⟩
 induction j generalizing k with
 | zero=>exact h
 | succ j ih=>
  have:=ih (k + 1) (by rw [show k + 1 + j = k + (j + 1) by omega];exact hf) zo (by rw [show k + 1 + j = k + (j + 1) by omega];exact h) zo
  exact qLv hw hf zo hr this
end
end Go.Proofs.YtcbfifamliijlaaGreatDoor.AE
