/- A part of the proof. No condition. -/
import Derived.Test.YtcbfifamliijlaaGreatDoorMb15
import Derived.Test.YtcbfifamliijlaaGreatDoorMb9
open Int renaming reduceNatCast'→rN
set_option maxRecDepth 100000
set_option maxHeartbeats 0
open List renaming getElem?_eq_some_iff→jd,getElem?_eq_getElem→jh,length_map→jQ,mem_append→jH,getElem?_map→jr,mem_singleton→jY,length_nil→jz
open Bool renaming and_eq_true→jk
namespace Go.Proofs.YtcbfifamliijlaaGreatDoor.AE
open Go.AE
section
variable {h:List qh}
theorem qu8 {m:qm} (hm:qkf m) (h:List qh):Wd (.fn 39 [] []) [m.enc] h = some (.ret (.bool (qoc m)),h,false):=by
 have a1:=λh=>qj1 hm.vars h
 have a2:=λh=>qj1 hm.int h
 have a3:=λh=>qj1 hm.ext h
 have a4:=λh=>qj1 hm.own h
 have aT:=λh=>qx9 hm.ta.1 hm.ta.2 h
 have aE:=λh=>qvK hm.emits h
 clear hm
 obtain ⟨nm,cp,ins,outs,vars,ta,Y,int,ext,E,own,parts,U,I⟩:=m
 rw [qoc,okL,okL,okL,okL,qm.enc,qm.cs,ql 39 c39]
 simp only at *
 have i0:=qar (k:=1) (f:=.full) (j:=.i64) (n:=0) (xs:=[.lst (vars.map qam.enc) .no,.lst (int.map qam.enc) .no,.lst (ext.map qam.enc) .no,.lst (own.map qam.enc) .no]) rfl rfl
 have i1:=qar (k:=1) (f:=.full) (j:=.i64) (n:=1) (xs:=[.lst (vars.map qam.enc) .no,.lst (int.map qam.enc) .no,.lst (ext.map qam.enc) .no,.lst (own.map qam.enc) .no]) rfl rfl
 have i2:=qar (k:=1) (f:=.full) (j:=.i64) (n:=2) (xs:=[.lst (vars.map qam.enc) .no,.lst (int.map qam.enc) .no,.lst (ext.map qam.enc) .no,.lst (own.map qam.enc) .no]) rfl rfl
 have i3:=qar (k:=1) (f:=.full) (j:=.i64) (n:=3) (xs:=[.lst (vars.map qam.enc) .no,.lst (int.map qam.enc) .no,.lst (ext.map qam.enc) .no,.lst (own.map qam.enc) .no]) rfl rfl
 have n0:((0:Nat):Int) = 0:=rfl
 have n1:((1:Nat):Int) = 1:=rfl
 have n2:((2:Nat):Int) = 2:=rfl
 have n3:((3:Nat):Int) = 3:=rfl
 have n4:((4:Nat):Int) = 4:=rfl
 rw [n0] at i0
 rw [n1] at i1
 rw [n2] at i2
 rw [n3] at i3
 have l0:ilt 0 4 = true:=zk
 have l1:ilt 1 4 = true:=zk
 have l2:ilt 2 4 = true:=zk
 have l3:ilt 3 4 = true:=zk
 have l4:ilt 4 4 = false:=zk
 have w0:IntKind.i64.wrap 1 = 1:=zk
 have w1:IntKind.i64.wrap 2 = 2:=zk
 have w2:IntKind.i64.wrap 3 = 3:=zk
 have w3:IntKind.i64.wrap 4 = 4:=zk
 cases c1:(ilt 0 (parts.length:Nat) || (ilt 0 (U.length:Nat) || (ilt 0 (I.length:Nat) || (ilt E 0 || ilt 2 E)))) with
 | true=>simp only [c39,sT.1,sC.1,qe,qw,seval,-rN,jQ,Bool.or_assoc,c1]
 | false=>
  cases c2:(ilt 0 (own.length:Nat) && !(E == 2)) with
  | true=>simp only [c39,sT.1,sC.1,qe,qw,seval,-rN,jQ,Bool.or_assoc,c1,c2]
  | false=>
   cases b1:ilt 10 (vars.length:Nat) <;> cases v1:vars.all qt7 <;> rw [v1] at a1 <;> try (simp only [c39,qo9,sT.1,sC.1,qe,qw,seval,-rN,qr,qsR,jQ,Bool.or_assoc,c1,c2,b1,a1,i0,n4,l0,l1,w0];done)
   cases b2:ilt 10 (int.length:Nat) <;> cases v2:int.all qt7 <;> rw [v2] at a2 <;> try (simp only [c39,qo9,sT.1,sC.1,qe,qw,seval,-rN,qr,qsR,jQ,Bool.or_assoc,c1,c2,b1,a1,b2,a2,i0,i1,n4,l0,l1,l2,w0,w1];done)
   cases b3:ilt 10 (ext.length:Nat) <;> cases v3:ext.all qt7 <;> rw [v3] at a3 <;> try (simp only [c39,qo9,sT.1,sC.1,qe,qw,seval,-rN,qr,qsR,jQ,Bool.or_assoc,c1,c2,b1,a1,b2,a2,b3,a3,i0,i1,i2,n4,l0,l1,l2,l3,w0,w1,w2];done)
   cases b4:ilt 10 (own.length:Nat) <;> cases v4:own.all qt7 <;> rw [v4] at a4 <;> try (simp only [c39,qo9,sT.1,sC.1,qe,qw,seval,-rN,qr,qsR,jQ,Bool.or_assoc,c1,c2,b1,a1,b2,a2,b3,a3,b4,a4,i0,i1,i2,i3,n4,l0,l1,l2,l3,l4,w0,w1,w2,w3];done)
   cases d1:((ta.length:Nat):Int) == 1 <;> cases d2:ta.all (right 20) <;> cases d3:ile (Y.length:Nat) 8 <;> rw [d2] at aT <;> simp only [c39,qo9,sT.1,sC.1,qe,qw,seval,-rN,qr,qsR,jQ,Bool.or_assoc,c1,c2,b1,a1,b2,a2,b3,a3,b4,a4,aT,aE,d1,d3,i0,i1,i2,i3,n4,l0,l1,l2,l3,l4,w0,w1,w2,w3]
end
section
variable {h:List qh}
theorem qvj {m:qm} (hm:qkf m) (h:List qh):Wd (.fn 38 [] []) [m.enc] h = some (.ret (.bool (qom m)),h,false):=by
 have a1:=λh=>qwN hm.parts h
 have a2:=λh=>qwp hm.links h
 have a3:=λh=>qxc hm.rules h
 clear hm
 obtain ⟨nm,cp,ins,outs,vars,ta,U,int,ext,Y,own,parts,E,I⟩:=m
 rw [qom,qm.enc,qm.cs,ql 38 c38]
 simp only at *
 cases c1:(ilt 0 (vars.length:Nat) || (ilt 0 (ta.length:Nat) || (ilt 0 (U.length:Nat) || !(Y == 0)))) with
 | true=>simp only [c38,sT.1,sC.1,qe,qw,seval,-rN,jQ,Bool.or_assoc,c1]
 | false=>
  cases c2:(ilt 0 (int.length:Nat) || (ilt 0 (ext.length:Nat) || ilt 0 (own.length:Nat))) with
  | true=>simp only [c38,sT.1,sC.1,qe,qw,seval,-rN,jQ,Bool.or_assoc,c1,c2]
  | false=>
   cases d1:ile (parts.length:Nat) 32 <;> cases d2:parts.all qk3 <;> cases d3:ile (E.length:Nat) 200 <;> cases d4:E.all qit <;> cases d5:ile (I.length:Nat) 4 <;> rw [d2] at a1 <;> rw [d4] at a2 <;> simp only [c38,sT.1,sC.1,qe,qw,seval,-rN,jQ,Bool.or_assoc,c1,c2,d1,d3,d5,a1,a2,a3]
theorem qtb {m:qm} (hm:qkf m) (h:List qh):Wd (.fn 20 [] []) [m.enc] h = some (.ret (.bool (qga m)),h,false):=by
 have a1:=λh=>qnN hm.ins h
 have a2:=λh=>qnN hm.outs h
 have a3:=λh=>qvj hm h
 have a4:=λh=>qu8 hm h
 clear hm
 rw [qga]
 generalize qom m = bc at *
 generalize qoc m = ba at *
 obtain ⟨nm,cp,ins,outs,vars,ta,U,int,ext,Y,own,parts,I,E⟩:=m
 rw [qm.enc,qm.cs] at *
 rw [ql 20 c20]
 simp only at *
 cases c1:(!qy nm || (ilt 8 (ins.length:Nat) || ilt 8 (outs.length:Nat))) with
 | true=>simp only [c20,sT.1,sC.1,qe,qw,seval,-rN,qaz,jQ,Bool.or_assoc,c1]
 | false=>
  cases v1:ins.all qix <;> rw [v1] at a1 <;> cases v2:outs.all qix <;> rw [v2] at a2 <;> cases cp <;> simp only [c20,sT.1,sC.1,qe,qw,seval,-rN,qaz,jQ,Bool.or_assoc,c1,a1,a2,a3,a4]
theorem qwY {p:qap} (hl:p.models.length <= 100000) (hm:∀m ∈ p.models,qkf m) (h:List qh):Wd (.fn 8 [] []) [p.enc] h = some (.ret (.bool (qk7 p)),h,false):=by
 have a1:=λh=>qfJ (k:=14) (en:=qm.enc) (l:=p.models) (bf:=qga) (F:=19) (g:=20) (z:=[.str [],.bool false,.lst [] .full,.lst [] .full,.lst [] .full,.lst [] .full,.lst [] .full,.lst [] .full,.lst [] .full,.int .i64 0,.lst [] .full,.lst [] .full,.lst [] .full,.lst [] .full]) rfl zk rfl rfl (λs _=>qgg rfl rfl rfl) hl (λs hs h=>qtb (hm s hs) h) h
 rw [qk7]
 obtain ⟨l,r⟩:=p
 rw [qap.enc,qap.cs]
 simp only at *
 generalize l.all qga = b at *
 rw [ql 8 c8]
 cases c1:ile 1 (l.length:Nat) <;> cases c2:ile (l.length:Nat) 24 <;> cases c3:qy r <;> simp only [c8,sT.1,sC.1,qe,qw,seval,-rN,qaz,jQ,c1,c2,c3,a1]
end
theorem qxj {s:qam} (h:qt7 s = true):s.good:=(jk _ _).mp h
theorem qk6 {s:qN} (h:qix s = true):s.good:=(jk _ _).mp h
theorem qts {s:qaw} (h:qk3 s = true):s.good:=(jk _ _).mp h
theorem qnb {s:qej} (h:qvL s = true):s.good:=by
 rw [qvL,jk,Bool.or_eq_true,beq_iff_eq] at h
 exact ⟨h.2,h.1⟩
theorem qkS {s:qad} (h:qit s = true):s.good:=by
 rw [qit,jk] at h
 exact ⟨qnb h.1,qnb h.2⟩
theorem qrv {s:qab} (h:qkw s = true):s.good:=by
 rw [qkw,jk,jk,jk,qav,decide_eq_true_eq,List.all_eq_true] at h
 exact ⟨h.1.1.1,h.1.2,by have:=h.1.1.2;omega,h.2⟩
theorem qkY {l:qad} (h:qti l = true):l = qh3:=by
 obtain ⟨⟨a,b⟩,⟨c,d⟩⟩:=l
 rw [qti,jk,jk,jk,beq_iff_eq,beq_iff_eq,beq_iff_eq,beq_iff_eq] at h
 obtain ⟨h1,h2,h3,h4⟩:=h
 simp only at h1 h2 h3 h4
 subst h1 h2 h3 h4
 rfl
theorem qu1 {s:qbo} (h:qu0 s = true):s.good:=by
 rw [qu0] at h
 cases h0:s.kind == 0 with
 | true=>
  rw [h0,cond_true,jk,jk] at h
  exact .inl ⟨by simpa using h0,h.1.1,h.1.2,qkY h.2⟩
 | false=>
  rw [h0,cond_false] at h
  cases h1:s.kind == 1 with
  | true=>
   rw [h1,cond_true,jk,jk,beq_iff_eq] at h
   exact .inr (.inl ⟨by simpa using h1,h.1.1,h.1.2,qkY h.2⟩)
  | false=>
   rw [h1,cond_false,jk,Bool.or_eq_true,jk,jk,beq_iff_eq,beq_iff_eq,beq_iff_eq,beq_iff_eq] at h
   exact .inr (.inr ⟨h.1,h.2.1.1,h.2.1.2,qkS h.2.2⟩)
theorem qtS {s:qQ} (h:qlc s = true):s.good:=by
 rw [qlc,jk,jk,qav,decide_eq_true_eq,List.all_eq_true] at h
 exact ⟨h.1.2,by have:=h.1.1;omega,λa ha=>qu1 (h.2 a ha)⟩
theorem qhk {l:List qam} (h:okL l = true):l.length <= 10/\∀s ∈ l,s.good:=by
 rw [okL,jk,Bool.not_eq_true',qX,decide_eq_false_iff_not,List.all_eq_true] at h
 exact ⟨by have:=h.1;omega,λs hs=>qxj (h.2 s hs)⟩
theorem qeD {D:Type} {l:List D} (h:¬(0:Int) < (l.length:Nat)):l = []:=List.eq_nil_of_length_eq_zero zo
theorem qiW {m:qm} (h:qga m = true):m.good/\m.lean:=by
 simp only [qga,jk,Bool.not_eq_true',Bool.or_eq_false_iff,Bool.not_eq_false',qX,decide_eq_false_iff_not,List.all_eq_true] at h
 obtain ⟨⟨hn,hi,ho⟩,⟨pi,po⟩,hb⟩:=h
 have key:(bif m.coupled then m.gc else m.ga)/\m.lean:=by
  unfold qm.lean
  cases hc:m.coupled with
  | true=>
   rw [hc] at hb
   simp only [cond_true,qom,jk,Bool.not_eq_true',Bool.or_eq_false_iff,Bool.not_eq_false',qX,qav,decide_eq_false_iff_not,decide_eq_true_eq,List.all_eq_true,beq_iff_eq] at hb
   obtain ⟨⟨h1,h2,h3,h4⟩,⟨h5,h6,h7⟩,h8,h9,Y,U,I,E⟩:=hb
   exact ⟨⟨⟨zo,λd hd=>qts (h9 d hd)⟩,⟨zo,λd hd=>qkS (U d hd)⟩,⟨zo,λd hd=>qtS (E d hd)⟩⟩,qeD h1,qeD h2,qeD h3,qeD h5,qeD h6,h4,qeD h7⟩
  | false=>
   rw [hc] at hb
   simp only [cond_false,qoc,jk,Bool.not_eq_true',Bool.or_eq_false_iff,qX,qav,decide_eq_false_iff_not,decide_eq_true_eq,List.all_eq_true,beq_iff_eq] at hb
   obtain ⟨⟨h1,h2,h3,h4,h5⟩,h6,h7,h8,h9,Y,U,I,E,a6⟩:=hb
   have a1:∃e,m.ta = [e]:=List.length_eq_one_iff.1 zo
   obtain ⟨e,he⟩:=a1
   refine ⟨⟨qhk h7,⟨e,he,I e (by rw [he];simp)⟩,⟨zo,λd hd=>qrv (a6 d hd)⟩,qhk h8,qhk h9,qhk Y,?_⟩,qeD h1,qeD h2,qeD h3⟩
   rcases (show m.con = 0\/m.con = 1\/m.con = 2 by omega) with e | e | e
   ·refine .inl ⟨.inl e,?_⟩
    rw [e,Bool.and_eq_false_iff] at h6
    rcases h6 with h6 | h6
    ·rw [decide_eq_false_iff_not] at h6;exact qeD h6
    ·cases h6
   ·refine .inl ⟨.inr e,?_⟩
    rw [e,Bool.and_eq_false_iff] at h6
    rcases h6 with h6 | h6
    ·rw [decide_eq_false_iff_not] at h6;exact qeD h6
    ·cases h6
   ·exact .inr e
 exact ⟨⟨hn,⟨zo,λd hd=>qk6 (pi d hd)⟩,⟨zo,λd hd=>qk6 (po d hd)⟩,key.1⟩,key.2⟩
theorem qtE {p:qap} (h:qk7 p = true):p.good/\∀m ∈ p.models,m.lean:=by
 rw [qk7,jk,jk,jk,qav,qav,decide_eq_true_eq,decide_eq_true_eq,List.all_eq_true] at h
 obtain ⟨h1,h2,h3,h4⟩:=h
 exact ⟨⟨⟨zo,λe=>by rw [e] at h1;simp at h1,λm hm=>(qiW (h4 m hm)).1⟩,h3⟩,λm hm=>(qiW (h4 m hm)).2⟩
theorem qzJ:∀(d:Nat),d <= 40->∀(e:Exl) (room:Int),-1 <= room->room <= 600->∀h,∃r:Int,Wd (.fn 15 [] []) [exV e,.int .i64 (d:Nat),.int .i64 room] h = some (.ret (.int .i64 r),h,false)∧-1 <= r/\r <= 600/\(0 <= r->Fit d e/\r + sz d e <= room):=by
 intro d
 induction d with
 | zero=>
  rintro _ ⟨op,n,nm,sb,aS⟩ room h1 h2 h
  have z0:(((0:Nat):Int) == 0) = true:=zk
  refine ⟨-1,?_,zo,zo,λh=>zo⟩
  rw [qt,ql 15 c15]
  simp only [c15,sT.1,sC.1,qe,qw,seval,-rN,z0]
 | succ d ih=>
  rintro hd ⟨op,n,nm,sb,aS⟩ room h1 h2 h
  have z0:(((d + 1:Nat):Int) == 0) = false:=by rw [beq_eq_false_iff_ne];omega
  obtain ⟨G,hG⟩ :∃G,G = h ++ [qh.cells [.int .i64 op,.int .i64 n,.str nm,.str sb,.lst (aS.map exV) .no]]:=⟨_,rfl⟩
  have a7:G[h.length]? = some (.cells [.int .i64 op,.int .i64 n,.str nm,.str sb,.lst (aS.map exV) .no]):=by rw [hG,qgS];rfl
  have ai:h.length < G.length:=by rw [hG];simp
  have ae:G.take h.length = h:=by rw [hG];simp
  rw [qt]
  generalize hw:Wd _ _ h = w
  rw [ql 15 c15] at hw
  cases hc:(ilt room 1 || ilt 20 (aS.length:Int) || ilt 100 (nm.length:Int) || ilt 100 (sb.length:Int)) with
  | true=>
   simp only [c15,sT.1,sC.1,qe,qw,seval,-rN,z0,hc,jQ] at hw
   subst hw
   exact ⟨-1,rfl,zo,zo,λh=>zo⟩
  | false=>
   have a8:1 <= room/\aS.length <= 20:=by
    simp only [Bool.or_eq_false_iff,qX,decide_eq_false_iff_not] at hc
    omega
   have loop:∀q st,(∃(tt:List qd) (i:Nat) (rm:Int),st = ⟨tt,G,false⟩/\tt.length = 55/\lkp tt 1 = .int .i64 (d + 1:Nat)/\lkp tt 2 = .int .i64 rm/\lkp tt 3 = .ptr h.length 0/\lkp tt 7 = .int .i64 (i:Nat)/\i + q = aS.length∧-1 <= rm/\rm <= 600/\(0 <= rm->(∀j (hj:j < aS.length),j < i->Fit d aS[j])/\rm + (((aS.take i).map (sz d)).sum:Nat) <= room - 1))->
     ∃x I,qp h.length Wd (.loop qme) st = some (x,I)/\(x = .exit 0/\∃(tt:List qd) (rm:Int),I = ⟨tt,G,false⟩/\tt.length = 55/\lkp tt 2 = .int .i64 rm∧-1 <= rm/\rm <= 600/\(0 <= rm->(∀j (hj:j < aS.length),Fit d aS[j])/\rm + ((aS.map (sz d)).sum:Nat) <= room - 1)):=by
    refine qao _ (λx I=>x = .exit 0/\∃(tt:List qd) (rm:Int),I = ⟨tt,G,false⟩/\tt.length = 55/\lkp tt 2 = .int .i64 rm∧-1 <= rm/\rm <= 600/\(0 <= rm->(∀j (hj:j < aS.length),Fit d aS[j])/\rm + ((aS.map (sz d)).sum:Nat) <= room - 1)) ?_
    rintro q st ⟨tt,i,rm,rfl,ht,e1,e2,e3,e7,ak,a1,Y,E⟩
    generalize he:qp h.length Wd qme _ = r
    rcases Nat.lt_or_ge i aS.length with hi | hi
    ·have c1:ilt (i:Int) (aS.length:Int) = true:=by rw [qX];simp;omega
     by_cases U:0 <= rm
     ·have c2:ile 0 rm = true:=by rw [qav];simpa using U
      have w:=qC (n:=i) zo
      have wd:IntKind.i64.wrap (((d + 1:Nat):Int) - 1) = ((d:Nat):Int):=by rw [qbi zo zo];omega
      obtain ⟨r',a6,b1,b2,b3⟩:=ih zo aS[i] rm a1 Y G
      have hg:(aS.map exV)[i]? = some (exV aS[i]):=by rw [jr,jh hi];rfl
      have aa:0 <= r'->(∀j (hj:j < aS.length),j < i + 1->Fit d aS[j])/\r' + (((aS.take (i + 1)).map (sz d)).sum:Nat) <= room - 1:=λh0=>by
       refine ⟨λj hj aj=>?_,?_⟩
       ·by_cases e:j = i
        ·subst e
         exact (b3 h0).1
        ·exact (E U).1 j hj zo
       ·have:=(b3 h0).2
        have:=(E U).2
        rw [List.take_succ_eq_append_getElem hi,List.map_append,List.sum_append]
        simp only [List.map_cons,List.map_nil,List.sum_cons,List.sum_nil]
        omega
      generalize aS[i] = y at a6 hg
      obtain ⟨ac,n',ad,ab,af⟩:=y
      rw [qt] at a6 hg
      have hx:qfH 5 (.lst (aS.map exV) .no) (.int .i64 (i:Nat)) = some (.iptr [.int .i64 ac,.int .i64 n',.str ad,.str ab,.lst (af.map exV) .no] 0):=qar hg rfl
      simp only [qme,sT.1,sC.1,qe,qw,seval,-rN,ht,e1,e2,e3,e7,c1,c2,w,wd,hx,a7,a6,jQ] at he
      subst he
      refine .inl ⟨_,q - 1,rfl,zo,_,i + 1,r',rfl,Y1,?_,?_,?_,?_,zo,b1,b2,aa⟩
      ·simp only [sT.1,sC.1,seval,-rN,e1]
      ·simp only [sT.1,sC.1,seval,-rN,ht]
      ·simp only [sT.1,sC.1,seval,-rN,e3]
      ·simp only [sT.1,seval,-rN,ht]
     ·have c2:ile 0 rm = false:=by rw [qav];simpa using U
      simp only [qme,sT.1,sC.1,qe,qw,seval,-rN,ht,e2,e3,e7,c1,c2,a7,jQ] at he
      subst he
      exact .inr ⟨_,_,rfl,by simp,rfl,_,rm,rfl,Y1,Y3,a1,Y,λh0=>absurd h0 U⟩
    ·have c1:ilt (i:Int) (aS.length:Int) = false:=by rw [qX];simp;omega
     simp only [qme,sT.1,sC.1,qe,qw,seval,-rN,ht,e2,e3,e7,c1,a7,jQ] at he
     subst he
     exact .inr ⟨_,_,rfl,by simp,rfl,_,rm,rfl,Y1,Y3,a1,Y,λh0=>⟨λj hj=>(E h0).1 j hj zo,by have:=(E h0).2;rw [List.take_of_length_le hi] at this;exact this⟩⟩
   have wr:IntKind.i64.wrap (room - 1) = room - 1:=qbi zo zo
   simp only [c15,sT.1,sC.1,qe,qw,seval,-rN,z0,hc,jQ,wr] at hw
   generalize hr:qp h.length Wd (.loop qme) _ = r at hw
   obtain ⟨x,I,rfl,rfl,tt,rm,rfl,ht,e2,b1,b2,b3⟩:=qc0 hr (loop aS.length _ ⟨_,0,room - 1,by rw [hG],Y0,Y0,Y0,Y0,v5,zo,zo,zo,λ_=>⟨λj _ h=>absurd h zo,by simp⟩⟩)
   simp only [sT.1,sC.1,qe,seval,-rN,ht,e2] at hw
   subst hw
   refine ⟨rm,congrArg some (qbb ae rfl),b1,b2,λh0=>⟨⟨a8.2,λa ha=>?_⟩,?_⟩⟩
   ·obtain ⟨j,hj,rfl⟩:=List.getElem_of_mem ha
    exact (b3 h0).1 j hj
   ·have:=(b3 h0).2
    rw [sz]
    omega
theorem qz6:∀(d:Nat),d <= 10->∀(e:Tp) (room:Int),-1 <= room->room <= 600->∀h,∃r:Int,Wd (.fn 29 [] []) [tpV e,.int .i64 (d:Nat),.int .i64 room] h = some (.ret (.int .i64 r),h,false)∧-1 <= r/\r <= 600/\(0 <= r->r + 1 <= room):=by
 intro d
 induction d with
 | zero=>
  rintro _ ⟨k,aS⟩ room h1 h2 h
  have z0:(((0:Nat):Int) == 0) = true:=zk
  refine ⟨-1,?_,zo,zo,λh=>zo⟩
  rw [qct,ql 29 c29]
  simp only [c29,sT.1,sC.1,qe,qw,seval,-rN,z0]
 | succ d ih=>
  rintro hd ⟨k,aS⟩ room h1 h2 h
  have z0:(((d + 1:Nat):Int) == 0) = false:=by rw [beq_eq_false_iff_ne];omega
  obtain ⟨G,hG⟩ :∃G,G = h ++ [qh.cells [.int .i64 k,.lst (aS.map tpV) .no]]:=⟨_,rfl⟩
  have a7:G[h.length]? = some (.cells [.int .i64 k,.lst (aS.map tpV) .no]):=by rw [hG,qgS];rfl
  have ac:h.length < G.length:=by rw [hG];simp
  have a8:G.take h.length = h:=by rw [hG];simp
  rw [qct]
  generalize hw:Wd _ _ h = w
  rw [ql 29 c29] at hw
  cases hc:(ilt room 1 || ilt 20 (aS.length:Int)) with
  | true=>
   simp only [c29,sT.1,sC.1,qe,qw,seval,-rN,z0,hc,jQ] at hw
   subst hw
   exact ⟨-1,rfl,zo,zo,λh=>zo⟩
  | false=>
   have ab:1 <= room/\aS.length <= 20:=by
    simp only [Bool.or_eq_false_iff,qX,decide_eq_false_iff_not] at hc
    omega
   have loop:∀q st,(∃(tt:List qd) (i:Nat) (rm:Int),st = ⟨tt,G,false⟩/\tt.length = 43/\lkp tt 1 = .int .i64 (d + 1:Nat)/\lkp tt 2 = .int .i64 rm/\lkp tt 3 = .ptr h.length 0/\lkp tt 7 = .int .i64 (i:Nat)/\i + q = aS.length∧-1 <= rm/\rm <= 600/\(0 <= rm->rm <= room - 1))->
     ∃x E,qp h.length Wd (.loop qmf) st = some (x,E)/\(x = .exit 0/\∃(tt:List qd) (rm:Int),E = ⟨tt,G,false⟩/\tt.length = 43/\lkp tt 2 = .int .i64 rm∧-1 <= rm/\rm <= 600/\(0 <= rm->rm <= room - 1)):=by
    refine qao _ (λx E=>x = .exit 0/\∃(tt:List qd) (rm:Int),E = ⟨tt,G,false⟩/\tt.length = 43/\lkp tt 2 = .int .i64 rm∧-1 <= rm/\rm <= 600/\(0 <= rm->rm <= room - 1)) ?_
    rintro q st ⟨tt,i,rm,rfl,ht,e1,e2,e3,e7,ad,Y,U,a6⟩
    generalize he:qp h.length Wd qmf _ = r
    rcases Nat.lt_or_ge i aS.length with hi | hi
    ·have c1:ilt (i:Int) (aS.length:Int) = true:=qiK zo
     by_cases I:0 <= rm
     ·have c2:ile 0 rm = true:=qv1 I
      have w:=qC (n:=i) zo
      have wd:IntKind.i64.wrap (((d + 1:Nat):Int) - 1) = ((d:Nat):Int):=by rw [qbi zo zo];omega
      obtain ⟨r',a1,b1,b2,b3⟩:=ih zo aS[i] rm Y U G
      have hg:(aS.map tpV)[i]? = some (tpV aS[i]):=by rw [jr,jh hi];rfl
      generalize aS[i] = y at a1 hg
      obtain ⟨k',aa⟩:=y
      rw [qct] at a1 hg
      have hx:qfH 2 (.lst (aS.map tpV) .no) (.int .i64 (i:Nat)) = some (.iptr [.int .i64 k',.lst (aa.map tpV) .no] 0):=qar hg rfl
      simp only [qmf,sT.1,sC.1,qe,qw,seval,-rN,ht,e1,e2,e3,e7,c1,c2,w,wd,hx,a7,a1,jQ] at he
      subst he
      refine .inl ⟨_,q - 1,rfl,zo,_,i + 1,r',rfl,Y1,?_,?_,?_,?_,zo,b1,b2,λh0=>by have:=b3 h0;have:=a6 I;omega⟩
      all_goals simp only [sT.1,sC.1,seval,-rN,ht,e1,e3]
     ·have c2:ile 0 rm = false:=quQ I
      simp only [qmf,sT.1,sC.1,qe,qw,seval,-rN,ht,e2,e3,e7,c1,c2,a7,jQ] at he
      subst he
      exact .inr ⟨_,_,rfl,by simp,rfl,_,rm,rfl,Y1,Y3,Y,U,λh0=>absurd h0 I⟩
    ·have c1:ilt (i:Int) (aS.length:Int) = false:=qis zo
     simp only [qmf,sT.1,sC.1,qe,qw,seval,-rN,ht,e2,e3,e7,c1,a7,jQ] at he
     subst he
     exact .inr ⟨_,_,rfl,by simp,rfl,_,rm,rfl,Y1,Y3,Y,U,a6⟩
   have wr:IntKind.i64.wrap (room - 1) = room - 1:=qbi zo zo
   simp only [c29,sT.1,sC.1,qe,qw,seval,-rN,z0,hc,jQ,wr] at hw
   generalize hr:qp h.length Wd (.loop qmf) _ = r at hw
   obtain ⟨x,E,rfl,rfl,tt,rm,rfl,ht,e2,b1,b2,b3⟩:=qc0 hr (loop aS.length _ ⟨_,0,room - 1,by rw [hG],Y0,Y0,Y0,Y0,v5,zo,zo,zo,λ_=>zo⟩)
   simp only [sT.1,sC.1,qe,seval,-rN,ht,e2] at hw
   subst hw
   exact ⟨rm,congrArg some (qbb a8 rfl),b1,b2,λh0=>by have:=b3 h0;omega⟩
def Go1 (e:Exl):Prop:=Fit 40 e/\sz 40 e <= 600
theorem qDI (d:Nat) (e:Exl):1 <= sz (d + 1) e:=by obtain ⟨_,_,_,_,_⟩:=e;rw [sz];omega
theorem e40 (e:Exl) {room:Int} (h1:-1 <= room) (h2:room <= 600) (h:List qh):∃r:Int,Wd (.fn 15 [] []) [exV e,.int .i64 40,.int .i64 room] h = some (.ret (.int .i64 r),h,false)∧-1 <= r/\r <= 600/\(0 <= r->Go1 e/\r + 1 <= room):=by
 obtain ⟨r,e1,e2,e3,e4⟩:=qzJ 40 zo e room h1 h2 h
 have c:((40:Nat):Int) = 40:=zk
 rw [c] at e1
 exact ⟨r,e1,e2,e3,λh0=>by have f:=e4 h0;have g:1 <= sz 40 e:=qDI 39 e;exact ⟨⟨f.1,zo⟩,zo⟩⟩
theorem k10 (e:Tp) {room:Int} (h1:-1 <= room) (h2:room <= 600) (h:List qh):∃r:Int,Wd (.fn 29 [] []) [tpV e,.int .i64 10,.int .i64 room] h = some (.ret (.int .i64 r),h,false)∧-1 <= r/\r <= 600/\(0 <= r->r + 1 <= room):=by
 have:=qz6 10 zo e room h1 h2 h
 have c:((10:Nat):Int) = 10:=zk
 rwa [c] at this
def qe9 {α:Type} (l:List α):Prop:=l.length <= 9223372036854775807
theorem qj2 {l:List qam} (hl:qe9 l) {room:Int} (h1:-1 <= room) (h2:room <= 600) (h:List qh):∃r:Int,Wd (.fn 14 [] []) [.lst (l.map qam.enc) .no,.int .i64 room] h = some (.ret (.int .i64 r),h,false)∧-1 <= r/\r <= 600/\(0 <= r->(∀s ∈ l,Go1 s.e)/\r + l.length <= room):=by
 have loop:∀q st,(∃(tt:List qd) (i:Nat) (rm:Int),st = ⟨tt,h,false⟩/\tt.length = 24/\lkp tt 0 = .lst (l.map qam.enc) .no/\lkp tt 1 = .int .i64 rm/\lkp tt 5 = .int .i64 (i:Nat)/\i + q = l.length∧-1 <= rm/\rm <= 600/\(0 <= rm->(∀s ∈ l.take i,Go1 s.e)/\rm + i <= room))->
   ∃x I,qp h.length Wd (.loop qmd) st = some (x,I)/\(x = .exit 0/\∃(tt:List qd) (rm:Int),I = ⟨tt,h,false⟩/\tt.length = 24/\lkp tt 1 = .int .i64 rm∧-1 <= rm/\rm <= 600/\(0 <= rm->(∀s ∈ l,Go1 s.e)/\rm + l.length <= room)):=by
  refine qao _ (λx I=>x = .exit 0/\∃(tt:List qd) (rm:Int),I = ⟨tt,h,false⟩/\tt.length = 24/\lkp tt 1 = .int .i64 rm∧-1 <= rm/\rm <= 600/\(0 <= rm->(∀s ∈ l,Go1 s.e)/\rm + l.length <= room)) ?_
  rintro q st ⟨tt,i,rm,rfl,ht,e0,e1,e5,a8,a1,Y,E⟩
  generalize he:qp h.length Wd qmd _ = r
  rcases Nat.lt_or_ge i l.length with hi | hi
  ·have c1:ilt (i:Int) (l.length:Int) = true:=qiK zo
   by_cases U:0 <= rm
   ·have c2:ile 0 rm = true:=qv1 U
    have w:=qC (n:=i) (by have:=hl;unfold qe9 at this;omega)
    obtain ⟨r',a6,b1,b2,b3⟩:=e40 l[i].e a1 Y h
    have a7:0 <= r'->(∀s ∈ l.take (i + 1),Go1 s.e)/\r' + ((i + 1:Nat):Int) <= room:=λh0=>by
     have f1:=E U
     have f2:=b3 h0
     rw [List.take_succ_eq_append_getElem hi]
     refine ⟨λs hs=>?_,zo⟩
     rcases jH.1 hs with hs | hs
     ·exact f1.1 s hs
     ·rw [jY] at hs
      subst hs
      first | exact f2.1 | trivial
    have hg:(l.map qam.enc)[i]? = some (qam.enc l[i]):=by rw [jr,jh hi];rfl
    generalize l[i] = y at a6 hg
    obtain ⟨nm,op,n,m2,sb,aS⟩:=y
    rw [qt] at a6
    rw [qam.enc,exC] at hg
    have hx:=qar (k:=6) (f:=.no) (j:=.i64) hg rfl
    change qfH 6 (.lst (l.map qam.enc) .no) _ = _ at hx
    simp only [qmd,sT.1,sC.1,qe,qw,seval,-rN,ht,e0,e1,e5,c1,c2,w,hx,a6,jQ,qd.cells] at he
    subst he
    refine .inl ⟨_,q - 1,rfl,zo,_,i + 1,r',rfl,Y1,?_,?_,?_,zo,b1,b2,a7⟩
    all_goals simp only [sT.1,sC.1,seval,-rN,ht,e0]
   ·have c2:ile 0 rm = false:=quQ U
    simp only [qmd,sT.1,sC.1,qe,qw,seval,-rN,ht,e0,e1,e5,c1,c2,jQ] at he
    subst he
    exact .inr ⟨_,_,rfl,by simp,rfl,_,rm,rfl,Y1,v6,a1,Y,λh0=>absurd h0 U⟩
  ·have c1:ilt (i:Int) (l.length:Int) = false:=qis zo
   rw [List.take_of_length_le hi] at E
   simp only [qmd,sT.1,sC.1,qe,qw,seval,-rN,ht,e0,e1,e5,c1,jQ] at he
   subst he
   exact .inr ⟨_,_,rfl,by simp,rfl,_,rm,rfl,Y1,v6,a1,Y,λh0=>⟨(E h0).1,by have:=(E h0).2;omega⟩⟩
 generalize hw:Wd _ _ h = w
 rw [ql 14 c14] at hw
 simp only [c14,sT.1,sC.1,qe,seval,-rN] at hw
 generalize hr:qp h.length Wd (.loop qmd) _ = r at hw
 obtain ⟨x,I,rfl,rfl,tt,rm,rfl,ht,e1,b1,b2,b3⟩:=qc0 hr (loop l.length _ ⟨_,0,room,rfl,Y0,Y0,Y0,v5,zo,h1,h2,λ_=>⟨by simp,zo⟩⟩)
 simp only [sT.1,sC.1,qe,seval,-rN,ht,e1] at hw
 subst hw
 exact ⟨rm,rfl,b1,b2,b3⟩
theorem qnO {l:List qN} (hl:qe9 l) {room:Int} (h1:-1 <= room) (h2:room <= 600) (h:List qh):∃r:Int,Wd (.fn 13 [] []) [.lst (l.map qN.enc) .no,.int .i64 room] h = some (.ret (.int .i64 r),h,false)∧-1 <= r/\r <= 600/\(0 <= r->(∀s ∈ l,True)/\r + l.length <= room):=by
 have loop:∀q st,(∃(tt:List qd) (i:Nat) (rm:Int),st = ⟨tt,h,false⟩/\tt.length = 24/\lkp tt 0 = .lst (l.map qN.enc) .no/\lkp tt 1 = .int .i64 rm/\lkp tt 5 = .int .i64 (i:Nat)/\i + q = l.length∧-1 <= rm/\rm <= 600/\(0 <= rm->(∀s ∈ l.take i,True)/\rm + i <= room))->
   ∃x I,qp h.length Wd (.loop qmc) st = some (x,I)/\(x = .exit 0/\∃(tt:List qd) (rm:Int),I = ⟨tt,h,false⟩/\tt.length = 24/\lkp tt 1 = .int .i64 rm∧-1 <= rm/\rm <= 600/\(0 <= rm->(∀s ∈ l,True)/\rm + l.length <= room)):=by
  refine qao _ (λx I=>x = .exit 0/\∃(tt:List qd) (rm:Int),I = ⟨tt,h,false⟩/\tt.length = 24/\lkp tt 1 = .int .i64 rm∧-1 <= rm/\rm <= 600/\(0 <= rm->(∀s ∈ l,True)/\rm + l.length <= room)) ?_
  rintro q st ⟨tt,i,rm,rfl,ht,e0,e1,e5,a8,a1,Y,E⟩
  generalize he:qp h.length Wd qmc _ = r
  rcases Nat.lt_or_ge i l.length with hi | hi
  ·have c1:ilt (i:Int) (l.length:Int) = true:=qiK zo
   by_cases U:0 <= rm
   ·have c2:ile 0 rm = true:=qv1 U
    have w:=qC (n:=i) (by have:=hl;unfold qe9 at this;omega)
    obtain ⟨r',a6,b1,b2,b3⟩:=k10 l[i].t a1 Y h
    have a7:0 <= r'->(∀s ∈ l.take (i + 1),True)/\r' + ((i + 1:Nat):Int) <= room:=λh0=>by
     have f1:=E U
     have f2:=b3 h0
     rw [List.take_succ_eq_append_getElem hi]
     refine ⟨λs hs=>?_,zo⟩
     rcases jH.1 hs with hs | hs
     ·exact f1.1 s hs
     ·rw [jY] at hs
      subst hs
      first | exact f2.1 | trivial
    have hg:(l.map qN.enc)[i]? = some (qN.enc l[i]):=by rw [jr,jh hi];rfl
    generalize l[i] = y at a6 hg
    obtain ⟨nm,k,aS⟩:=y
    rw [qct] at a6
    rw [qN.enc,Tp.enc,show (aS.map λv=>qd.agg v.enc) = aS.map tpV from rfl] at hg
    have hx:=qar (k:=3) (f:=.no) (j:=.i64) hg rfl
    change qfH 3 (.lst (l.map qN.enc) .no) _ = _ at hx
    simp only [qmc,sT.1,sC.1,qe,qw,seval,-rN,ht,e0,e1,e5,c1,c2,w,hx,a6,jQ,qd.cells] at he
    subst he
    refine .inl ⟨_,q - 1,rfl,zo,_,i + 1,r',rfl,Y1,?_,?_,?_,zo,b1,b2,a7⟩
    all_goals simp only [sT.1,sC.1,seval,-rN,ht,e0]
   ·have c2:ile 0 rm = false:=quQ U
    simp only [qmc,sT.1,sC.1,qe,qw,seval,-rN,ht,e0,e1,e5,c1,c2,jQ] at he
    subst he
    exact .inr ⟨_,_,rfl,by simp,rfl,_,rm,rfl,Y1,v6,a1,Y,λh0=>absurd h0 U⟩
  ·have c1:ilt (i:Int) (l.length:Int) = false:=qis zo
   rw [List.take_of_length_le hi] at E
   simp only [qmc,sT.1,sC.1,qe,qw,seval,-rN,ht,e0,e1,e5,c1,jQ] at he
   subst he
   exact .inr ⟨_,_,rfl,by simp,rfl,_,rm,rfl,Y1,v6,a1,Y,λh0=>⟨(E h0).1,by have:=(E h0).2;omega⟩⟩
 generalize hw:Wd _ _ h = w
 rw [ql 13 c13] at hw
 simp only [c13,sT.1,sC.1,qe,seval,-rN] at hw
 generalize hr:qp h.length Wd (.loop qmc) _ = r at hw
 obtain ⟨x,I,rfl,rfl,tt,rm,rfl,ht,e1,b1,b2,b3⟩:=qc0 hr (loop l.length _ ⟨_,0,room,rfl,Y0,Y0,Y0,v5,zo,h1,h2,λ_=>⟨by simp,zo⟩⟩)
 simp only [sT.1,sC.1,qe,seval,-rN,ht,e1] at hw
 subst hw
 exact ⟨rm,rfl,b1,b2,b3⟩
theorem qHU:∀(d:Nat) (e:Exl),sz d e <= sz (d + 1) e:=by
 intro d
 induction d with
 | zero=>intro e;rw [sz];omega
 | succ d ih=>
  rintro ⟨op,n,nm,sb,aS⟩
  rw [sz,sz]
  have:(aS.map (sz d)).sum <= (aS.map (sz (d + 1))).sum:=by
   induction aS with
   | nil=>simp
   | cons a aS E=>have:=ih a;simp only [List.map_cons,List.sum_cons];omega
  omega
theorem qHT {d d':Nat} (h:d <= d') (e:Exl):sz d e <= sz d' e:=by
 induction h with
 | refl=>exact Nat.le_refl _
 | step _ ih=>exact Nat.le_trans ih (qHU _ _)
def ExG (e:Exl):Prop:=Go1 e/\OkN e
theorem ExG.ok {e:Exl} (h:ExG e) (hr:right 20 e = true):qly e:=⟨hr,h.2,by have:=qHT (show 20 <= 40 by omega) e;have:=h.1.2;omega⟩
structure qff (Q:Exl->Prop) (m:qm):Prop where
 vars:∀s ∈ m.vars,Q s.e
 ta:∀e ∈ m.ta,Q e
 emits:∀x ∈ m.emits,Q x.e/\∀e ∈ x.ifs,Q e
 int:∀s ∈ m.int,Q s.e
 ext:∀s ∈ m.ext,Q s.e
 own:∀s ∈ m.own,Q s.e
 rules:∀r ∈ m.rules,Q r.e
structure qxN (m:qm):Prop where
 ins:m.ins.length <= 600
 outs:m.outs.length <= 600
 vars:m.vars.length <= 600
 ta:m.ta.length <= 600
 emits:m.emits.length <= 600/\∀x ∈ m.emits,x.ifs.length <= 600
 int:m.int.length <= 600
 ext:m.ext.length <= 600
 own:m.own.length <= 600
 parts:m.parts.length <= 600
 links:m.links.length <= 600
 rules:m.rules.length <= 600/\∀r ∈ m.rules,r.acts.length <= 600
def qBH (m:qm):Prop:=∀r ∈ m.rules,∀a ∈ r.acts,qBG a
theorem Go1.fit {e:Exl} (h:Go1 e):ExF e:=⟨40,h.1⟩
theorem qtd {m:qm} (hs:qxN m) (he:qff ExG m) (ha:qBH m):qkf m where
 ins:=by have:=hs.ins;omega
 outs:=by have:=hs.outs;omega
 vars:=⟨by have:=hs.vars;omega,λs h=>(he.vars s h).1.fit⟩
 ta:=⟨by have:=hs.ta;omega,λs h=>(he.ta s h).1.fit⟩
 emits:=⟨by have:=hs.emits.1;omega,λx h=>⟨(he.emits x h).1.1.fit,by have:=hs.emits.2 x h;omega,λe hx=>((he.emits x h).2 e hx).1.fit⟩⟩
 int:=⟨by have:=hs.int;omega,λs h=>(he.int s h).1.fit⟩
 ext:=⟨by have:=hs.ext;omega,λs h=>(he.ext s h).1.fit⟩
 own:=⟨by have:=hs.own;omega,λs h=>(he.own s h).1.fit⟩
 parts:=by have:=hs.parts;omega
 links:=by have:=hs.links;omega
 rules:=⟨by have:=hs.rules.1;omega,λr h=>⟨(he.rules r h).1.fit,by have:=hs.rules.2 r h;omega,ha r h⟩⟩
theorem qbz {s:Str} (h:qy s = true):s.length <= 16:=by
 simp only [qy,qcx,jk,decide_eq_true_eq] at h
 exact h.1.1.2
theorem qhM {a b:Int} (h:ile a b = true):a <= b:=by rw [qav] at h;exact of_decide_eq_true h
theorem qf0 {a b:Int} (h:ilt a b = false):b <= a:=by rw [qX,decide_eq_false_iff_not] at h;omega
theorem qA3 {s:qam} (h:qt7 s = true) (hg:ExG s.e):qht s:=by
 simp only [qt7,jk] at h
 exact ⟨qbz h.1,hg.ok h.2⟩
theorem qnK {s:qN} (h:qix s = true):qhs s:=by
 simp only [qix,jk] at h
 exact ⟨qbz h.1,h.2⟩
theorem qvF {x:qab} (h:qkw x = true) (hg:ExG x.e) (hi:∀e ∈ x.ifs,ExG e):qmS x:=by
 simp only [qkw,jk,List.all_eq_true] at h
 exact ⟨qbz h.1.1.1,hg.ok h.1.2,by have:=qhM h.1.1.2;omega,λe he=>(hi e he).ok (h.2 e he)⟩
theorem qwI {s:qaw} (h:qk3 s = true):qmV s:=by
 simp only [qk3,jk] at h
 exact ⟨qbz h.1,qbz h.2⟩
theorem qry {s:qej} (h:qvL s = true):s.short:=by
 simp only [qvL,jk,Bool.or_eq_true,beq_iff_eq] at h
 exact ⟨h.2.elim (λe=>by rw [e];simp) qbz,qbz h.1⟩
theorem qnu {s:qad} (h:qit s = true):qmU s:=by
 simp only [qit,jk] at h
 exact ⟨qry h.1,qry h.2⟩
theorem qyL {a:qbo} (h:qu0 a = true):a.short:=by
 unfold qu0 at h
 cases k0:a.kind == 0 with
 | true=>
  rw [k0,cond_true] at h
  simp only [jk] at h
  exact ⟨qbz h.1.1,qbz h.1.2,λe=>absurd (by simpa using k0) e⟩
 | false=>
  rw [k0,cond_false] at h
  cases k1:a.kind == 1 with
  | true=>
   rw [k1,cond_true] at h
   simp only [jk,beq_iff_eq] at h
   exact ⟨qbz h.1.1,by rw [h.1.2];simp,λ_ e=>absurd (by simpa using k1) e⟩
  | false=>
   rw [k1,cond_false] at h
   simp only [jk,beq_iff_eq] at h
   have:=qnu h.2.2
   exact ⟨by rw [h.2.1.1];simp,by rw [h.2.1.2];simp,λ_ _=>this⟩
theorem qw8 {r:qQ} (h:qlc r = true) (hg:ExG r.e):qmX r/\r.acts.length <= 5:=by
 simp only [qlc,jk,List.all_eq_true] at h
 have h5:=qhM h.1.1
 exact ⟨⟨hg.ok h.1.2,zo,λa ha=>qyL (h.2 a ha)⟩,zo⟩
theorem qdO {α:Type} {l:List α} (h:ilt 0 (l.length:Nat) = false):l = []:=List.length_eq_zero_iff.1 (by have:=qf0 h;omega)
theorem qtV {l:List qQ} (h:∀r ∈ l,r.acts.length <= 5):(l.map λr=>r.acts.length + 2).sum <= l.length * 7:=by
 induction l with
 | nil=>simp
 | cons r l ih=>
  have h1:=h r (by simp)
  have h2:=ih λx hx=>h x (by simp [hx])
  simp only [List.map_cons,List.sum_cons,List.length_cons]
  omega
theorem qnG {l:List qam} (h:okL l = true) (hg:∀s ∈ l,ExG s.e):l.length <= 10/\∀s ∈ l,qht s:=by
 simp only [okL,jk,Bool.not_eq_true',List.all_eq_true] at h
 exact ⟨by have:=qf0 h.1;omega,λs hs=>qA3 (h.2 s hs) (hg s hs)⟩
theorem qta {m:qm} (h:qga m = true) (he:qff ExG m):qdC m:=by
 obtain ⟨nm,cp,ins,outs,vars,ta,U,int,ext,Y,own,parts,I,E⟩:=m
 obtain ⟨e1,e2,e3,e4,e5,e6,e7⟩:=he
 simp only at e1 e2 e3 e4 e5 e6 e7
 simp only [qga,jk,Bool.not_eq_true',Bool.or_eq_false_iff,Bool.not_eq_false',List.all_eq_true] at h
 obtain ⟨⟨hn,hi,ho⟩,⟨pi,po⟩,hb⟩:=h
 have hi:=qf0 hi
 have ho:=qf0 ho
 have pi:∀s ∈ ins,qhs s:=λs hs=>qnK (pi s hs)
 have po:∀s ∈ outs,qhs s:=λs hs=>qnK (po s hs)
 cases cp with
 | true=>
  rw [cond_true] at hb
  simp only [qom,jk,Bool.not_eq_true',Bool.or_eq_false_iff,List.all_eq_true] at hb
  obtain ⟨⟨z1,z2,z3,_⟩,⟨z4,z5,z6⟩,p1,p2,p3,p4,p5,p6⟩:=hb
  obtain rfl:=qdO z1
  obtain rfl:=qdO z2
  obtain rfl:=qdO z3
  obtain rfl:=qdO z4
  obtain rfl:=qdO z5
  obtain rfl:=qdO z6
  have p1:=qhM p1
  have p3:=qhM p3
  have p5:=qhM p5
  have hr:=λr hr=>qw8 (p6 r hr) (e7 r hr)
  have hs:=qtV λr h=>(hr r h).2
  exact ⟨qbz hn,⟨by simp only;omega,pi⟩,⟨by simp only;omega,po⟩,⟨by simp,by simp⟩,⟨by simp,by simp⟩,⟨by simp,by simp⟩,⟨by simp,by simp⟩,⟨by simp,by simp⟩,⟨by simp,by simp⟩,⟨by simp only;omega,λs hs=>qwI (p2 s hs)⟩,⟨by simp only;omega,λs hs=>qnu (p4 s hs)⟩,⟨by simp only;omega,λs hs=>(hr s hs).1⟩,by simp only [jz];omega⟩
 | false=>
  rw [cond_false] at hb
  simp only [qoc,jk,Bool.not_eq_true',Bool.or_eq_false_iff,List.all_eq_true,beq_iff_eq] at hb
  obtain ⟨⟨z1,z2,z3,_,_⟩,_,o1,o2,o3,o4,t1,t2,t3,t4⟩:=hb
  obtain rfl:=qdO z1
  obtain rfl:=qdO z2
  obtain rfl:=qdO z3
  obtain ⟨l1,q1⟩:=qnG o1 e1
  obtain ⟨l2,q2⟩:=qnG o2 e4
  obtain ⟨l3,q3⟩:=qnG o3 e5
  obtain ⟨l4,q4⟩:=qnG o4 e6
  have t3:=qhM t3
  exact ⟨qbz hn,⟨by simp only;omega,pi⟩,⟨by simp only;omega,po⟩,⟨by simp only;omega,q1⟩,⟨by simp only;omega,λs hs=>(e2 s hs).ok (t2 s hs)⟩,⟨by simp only;omega,λs hs=>qvF (t4 s hs) (e3 s hs).1 (e3 s hs).2⟩,⟨by simp only;omega,q2⟩,⟨by simp only;omega,q3⟩,⟨by simp only;omega,q4⟩,⟨by simp,by simp⟩,⟨by simp,by simp⟩,⟨by simp,by simp⟩,by simp only [jz,List.map_nil,List.sum_nil];omega⟩
theorem qwX {p:qap} (h:qk7 p = true) (he:∀m ∈ p.models,qff ExG m):qiB p:=by
 simp only [qk7,jk,List.all_eq_true] at h
 exact ⟨⟨by have:=qhM h.2.1;omega,λm hm=>qta (h.2.2.2 m hm) (he m hm)⟩,qbz h.2.2.1⟩
structure Smr (P A:Nat) (i:Nat) (tt:List qd):Prop where
 len:tt.length = 171
 r1:lkp tt 1 = .ptr P 0
 r4:lkp tt 4 = .int .i64 (i:Nat)
 r5:lkp tt 5 = .ptr A 0
section
variable {P A j:Nat} {G:List qh} {m:qm}
theorem qxk (hG:G[A]? = some (.cells m.cs)) (hn:qe9 m.ta) {room:Int} :
  ∀q st,(∃(tt:List qd) (i:Nat) (rm:Int),st = ⟨tt,G,false⟩/\Smr P A j tt/\lkp tt 3 = .int .i64 rm/\lkp tt 6 = .int .i64 (i:Nat)/\i + q = m.ta.length∧-1 <= rm/\rm <= 600/\(0 <= rm->(∀e ∈ m.ta.take i,Go1 e)/\rm + i <= room))->
   ∃x I,qp P Wd (.loop qz7) st = some (x,I)/\(x = .exit 2/\∃(tt:List qd) (rm:Int),I = ⟨tt,G,false⟩/\Smr P A j tt/\lkp tt 3 = .int .i64 rm∧-1 <= rm/\rm <= 600/\(0 <= rm->(∀e ∈ m.ta,Go1 e)/\rm + m.ta.length <= room)):=by
 refine qao _ (λx I=>x = .exit 2/\∃(tt:List qd) (rm:Int),I = ⟨tt,G,false⟩/\Smr P A j tt/\lkp tt 3 = .int .i64 rm∧-1 <= rm/\rm <= 600/\(0 <= rm->(∀e ∈ m.ta,Go1 e)/\rm + m.ta.length <= room)) ?_
 rintro q st ⟨tt,i,rm,rfl,⟨ht,e1,e4,e5⟩,e3,e6,a8,a1,Y,E⟩
 have hA:=(jd.1 hG).1
 rw [qm.cs] at hG
 generalize he:qp P Wd qz7 _ = r
 rcases Nat.lt_or_ge i m.ta.length with hi | hi
 ·have c1:ilt (i:Int) (m.ta.length:Int) = true:=qiK zo
  by_cases U:0 <= rm
  ·have c2:ile 0 rm = true:=qv1 U
   have w:=qC (n:=i) (by have:=hn;unfold qe9 at this;omega)
   obtain ⟨r',a6,b1,b2,b3⟩:=e40 m.ta[i] a1 Y G
   have a7:0 <= r'->(∀e ∈ m.ta.take (i + 1),Go1 e)/\r' + ((i + 1:Nat):Int) <= room:=λh0=>by
    have f1:=E U
    have f2:=b3 h0
    rw [List.take_succ_eq_append_getElem hi]
    refine ⟨λs hs=>?_,zo⟩
    rcases jH.1 hs with hs | hs
    ·exact f1.1 s hs
    ·rw [jY] at hs
     subst hs
     exact f2.1
   have hg:(m.ta.map exV)[i]? = some (exV m.ta[i]):=by rw [jr,jh hi];rfl
   generalize m.ta[i] = y at a6 hg
   obtain ⟨op,n,m2,sb,aS⟩:=y
   rw [qt] at a6 hg
   have hx:qfH 5 (.lst (m.ta.map exV) .no) (.int .i64 (i:Nat)) = some (.iptr [.int .i64 op,.int .i64 n,.str m2,.str sb,.lst (aS.map exV) .no] 0):=qar hg rfl
   simp only [qz7,sT.1,sC.1,qe,qw,seval,-rN,ht,e3,e5,e6,c1,c2,w,hx,hG,a6,jQ] at he
   subst he
   refine .inl ⟨_,q - 1,rfl,zo,_,i + 1,r',rfl,⟨Y1,?_,?_,?_⟩,?_,?_,zo,b1,b2,a7⟩
   all_goals simp only [sT.1,sC.1,seval,-rN,ht,e1,e4,e5]
  ·have c2:ile 0 rm = false:=quQ U
   simp only [qz7,sT.1,sC.1,qe,qw,seval,-rN,ht,e3,e5,e6,c1,c2,hG,jQ] at he
   subst he
   exact .inr ⟨_,_,rfl,by simp,rfl,_,rm,rfl,⟨Y1,v6,v7,x8⟩,Y2,a1,Y,λh0=>absurd h0 U⟩
 ·have c1:ilt (i:Int) (m.ta.length:Int) = false:=qis zo
  rw [List.take_of_length_le hi] at E
  simp only [qz7,sT.1,sC.1,qe,qw,seval,-rN,ht,e3,e5,e6,c1,hG,jQ] at he
  subst he
  exact .inr ⟨_,_,rfl,by simp,rfl,_,rm,rfl,⟨Y1,v6,v7,x8⟩,Y2,a1,Y,λh0=>⟨(E h0).1,by have:=(E h0).2;omega⟩⟩
theorem que (hG:G[A]? = some (.cells m.cs)) {k:Nat} {pt:Str} {op n:Int} {m2 sb:Str} {aS:List qd} {l:List Exl} (Y:qfH 7 (.lst (m.emits.map qab.enc) .no) (.int .i64 (k:Nat)) = some (.iptr [.str pt,.int .i64 op,.int .i64 n,.str m2,.str sb,.lst aS .no,.lst (l.map exV) .no] 0)) (hn:qe9 l) {room:Int} :
  ∀q st,(∃(tt:List qd) (i:Nat) (rm:Int),st = ⟨tt,G,false⟩/\Smr P A j tt/\lkp tt 3 = .int .i64 rm/\lkp tt 7 = .int .i64 (k:Nat)/\lkp tt 8 = .int .i64 (i:Nat)/\i + q = l.length∧-1 <= rm/\rm <= 600/\(0 <= rm->(∀e ∈ l.take i,Go1 e)/\rm + i <= room))->
   ∃x I,qp P Wd (.loop qz8) st = some (x,I)/\(x = .exit 6/\∃(tt:List qd) (rm:Int),I = ⟨tt,G,false⟩/\Smr P A j tt/\lkp tt 3 = .int .i64 rm/\lkp tt 7 = .int .i64 (k:Nat)∧-1 <= rm/\rm <= 600/\(0 <= rm->(∀e ∈ l,Go1 e)/\rm + l.length <= room)):=by
 refine qao _ (λx I=>x = .exit 6/\∃(tt:List qd) (rm:Int),I = ⟨tt,G,false⟩/\Smr P A j tt/\lkp tt 3 = .int .i64 rm/\lkp tt 7 = .int .i64 (k:Nat)∧-1 <= rm/\rm <= 600/\(0 <= rm->(∀e ∈ l,Go1 e)/\rm + l.length <= room)) ?_
 rintro q st ⟨tt,i,rm,rfl,⟨ht,e1,e4,e5⟩,e3,e7,e8,aa,a6,a1,E⟩
 have hA:=(jd.1 hG).1
 rw [qm.cs] at hG
 generalize he:qp P Wd qz8 _ = r
 rcases Nat.lt_or_ge i l.length with hi | hi
 ·have c1:ilt (i:Int) (l.length:Int) = true:=qiK zo
  by_cases U:0 <= rm
  ·have c2:ile 0 rm = true:=qv1 U
   have w:=qC (n:=i) (by have:=hn;unfold qe9 at this;omega)
   obtain ⟨r',a7,b1,b2,b3⟩:=e40 l[i] a6 a1 G
   have a8:0 <= r'->(∀e ∈ l.take (i + 1),Go1 e)/\r' + ((i + 1:Nat):Int) <= room:=λh0=>by
    have f1:=E U
    have f2:=b3 h0
    rw [List.take_succ_eq_append_getElem hi]
    refine ⟨λs hs=>?_,zo⟩
    rcases jH.1 hs with hs | hs
    ·exact f1.1 s hs
    ·rw [jY] at hs
     subst hs
     exact f2.1
   have hg:(l.map exV)[i]? = some (exV l[i]):=by rw [jr,jh hi];rfl
   generalize l[i] = y at a7 hg
   obtain ⟨op,n,m2,sb,aS⟩:=y
   rw [qt] at a7 hg
   have hx:qfH 5 (.lst (l.map exV) .no) (.int .i64 (i:Nat)) = some (.iptr [.int .i64 op,.int .i64 n,.str m2,.str sb,.lst (aS.map exV) .no] 0):=qar hg rfl
   simp only [qz8,sT.1,sC.1,qe,qw,seval,-rN,ht,e3,e5,e7,e8,c1,c2,w,hx,Y,hG,a7,jQ] at he
   subst he
   refine .inl ⟨_,q - 1,rfl,zo,_,i + 1,r',rfl,⟨Y1,?_,?_,?_⟩,?_,?_,?_,zo,b1,b2,a8⟩
   all_goals simp only [sT.1,sC.1,seval,-rN,ht,e1,e4,e5,e7]
  ·have c2:ile 0 rm = false:=quQ U
   simp only [qz8,sT.1,sC.1,qe,qw,seval,-rN,ht,e3,e5,e7,e8,c1,c2,Y,hG,jQ] at he
   subst he
   exact .inr ⟨_,_,rfl,by simp,rfl,_,rm,rfl,⟨Y1,v6,v7,x8⟩,Y2,by simp only [sT.1,sC.1,seval,-rN,e7],a6,a1,λh0=>absurd h0 U⟩
 ·have c1:ilt (i:Int) (l.length:Int) = false:=qis zo
  rw [List.take_of_length_le hi] at E
  simp only [qz8,sT.1,sC.1,qe,qw,seval,-rN,ht,e3,e5,e7,e8,c1,Y,hG,jQ] at he
  subst he
  exact .inr ⟨_,_,rfl,by simp,rfl,_,rm,rfl,⟨Y1,v6,v7,x8⟩,Y2,by simp only [sT.1,sC.1,seval,-rN,e7],a6,a1,λh0=>⟨(E h0).1,by have:=(E h0).2;omega⟩⟩
theorem qmH (hG:G[A]? = some (.cells m.cs)) (hn:qe9 m.rules) {room:Int} :
  ∀q st,(∃(tt:List qd) (i:Nat) (rm:Int),st = ⟨tt,G,false⟩/\Smr P A j tt/\lkp tt 3 = .int .i64 rm/\lkp tt 9 = .int .i64 (i:Nat)/\i + q = m.rules.length∧-1 <= rm/\rm <= 600/\(0 <= rm->(∀r ∈ m.rules.take i,Go1 r.e/\r.acts.length <= 100)/\rm + i <= room))->
   ∃x E,qp P Wd (.loop qyh) st = some (x,E)/\((x = .exit 8/\∃(tt:List qd) (rm:Int),E = ⟨tt,G,false⟩/\Smr P A j tt/\lkp tt 3 = .int .i64 rm∧-1 <= rm/\rm <= 600/\(0 <= rm->(∀r ∈ m.rules,Go1 r.e/\r.acts.length <= 100)/\rm + m.rules.length <= room))\/(x = .ret/\∃tt,E = ⟨tt,G,false⟩/\tt.length = 171/\lkp tt 2 = .int .i64 0)):=by
 refine qao _ (λx E=>(x = .exit 8/\∃(tt:List qd) (rm:Int),E = ⟨tt,G,false⟩/\Smr P A j tt/\lkp tt 3 = .int .i64 rm∧-1 <= rm/\rm <= 600/\(0 <= rm->(∀r ∈ m.rules,Go1 r.e/\r.acts.length <= 100)/\rm + m.rules.length <= room))\/(x = .ret/\∃tt,E = ⟨tt,G,false⟩/\tt.length = 171/\lkp tt 2 = .int .i64 0)) ?_
 rintro q st ⟨tt,i,rm,rfl,⟨ht,e1,e4,e5⟩,e3,e9,a8,a7,a6,I⟩
 have hA:=(jd.1 hG).1
 rw [qm.cs] at hG
 generalize he:qp P Wd qyh _ = r
 rcases Nat.lt_or_ge i m.rules.length with hi | hi
 ·have c1:ilt (i:Int) (m.rules.length:Int) = true:=qiK zo
  by_cases U:0 <= rm
  ·have c2:ile 0 rm = true:=qv1 U
   have w:=qC (n:=i) (by have:=hn;unfold qe9 at this;omega)
   obtain ⟨r',Y,b1,b2,b3⟩:=e40 m.rules[i].e a7 a6 G
   have a1:0 <= r'->m.rules[i].acts.length <= 100->(∀r ∈ m.rules.take (i + 1),Go1 r.e/\r.acts.length <= 100)/\r' + ((i + 1:Nat):Int) <= room:=λh0 ha=>by
    have f1:=I U
    have f2:=b3 h0
    rw [List.take_succ_eq_append_getElem hi]
    refine ⟨λs hs=>?_,zo⟩
    rcases jH.1 hs with hs | hs
    ·exact f1.1 s hs
    ·rw [jY] at hs
     subst hs
     exact ⟨f2.1,ha⟩
   have hg:(m.rules.map qQ.enc)[i]? = some m.rules[i].enc:=by rw [jr,jh hi];rfl
   generalize m.rules[i] = y at Y hg a1
   obtain ⟨⟨op,n,m2,sb,aS⟩,acts⟩:=y
   rw [qt] at Y
   rw [qQ.enc,exC] at hg
   have hx:=qar (k:=6) (f:=.no) (j:=.i64) hg rfl
   change qfH 6 (.lst (m.rules.map qQ.enc) .no) _ = _ at hx
   cases c3:ilt 100 (acts.length:Nat) with
   | true=>
    simp only [qyh,sT.1,sC.1,qe,qw,seval,-rN,ht,e3,e5,e9,c1,c2,c3,hx,hG,Y,jQ,qd.cells] at he
    subst he
    exact .inr ⟨_,_,rfl,by simp,.inr ⟨rfl,_,rfl,Y1,x9⟩⟩
   | false=>
    have ha:=qf0 c3
    simp only [qyh,sT.1,sC.1,qe,qw,seval,-rN,ht,e3,e5,e9,c1,c2,c3,w,hx,hG,Y,jQ,qd.cells] at he
    subst he
    refine .inl ⟨_,q - 1,rfl,zo,_,i + 1,r',rfl,⟨Y1,?_,?_,?_⟩,?_,?_,zo,b1,b2,λh0=>a1 h0 (by simp only;omega)⟩
    all_goals simp only [sT.1,sC.1,seval,-rN,ht,e1,e4,e5]
  ·have c2:ile 0 rm = false:=quQ U
   simp only [qyh,sT.1,sC.1,qe,qw,seval,-rN,ht,e3,e5,e9,c1,c2,hG,jQ] at he
   subst he
   exact .inr ⟨_,_,rfl,by simp,.inl ⟨rfl,_,rm,rfl,⟨Y1,v6,v7,x8⟩,Y2,a7,a6,λh0=>absurd h0 U⟩⟩
 ·have c1:ilt (i:Int) (m.rules.length:Int) = false:=qis zo
  rw [List.take_of_length_le hi] at I
  simp only [qyh,sT.1,sC.1,qe,qw,seval,-rN,ht,e3,e5,e9,c1,hG,jQ] at he
  subst he
  exact .inr ⟨_,_,rfl,by simp,.inl ⟨rfl,_,rm,rfl,⟨Y1,v6,v7,x8⟩,Y2,a7,a6,λh0=>⟨(I h0).1,by have:=(I h0).2;omega⟩⟩⟩
end
section
variable {P A j:Nat} {G:List qh} {m:qm}
def quT (x:qab):Prop:=Go1 x.e/\(∀e ∈ x.ifs,Go1 e)/\x.ifs.length <= 600
theorem qmG (hG:G[A]? = some (.cells m.cs)) (hn:qe9 m.emits) (ad:∀x ∈ m.emits,qe9 x.ifs) {room:Int} (af:room <= 600) :
  ∀q st,(∃(tt:List qd) (i:Nat) (rm:Int),st = ⟨tt,G,false⟩/\Smr P A j tt/\lkp tt 3 = .int .i64 rm/\lkp tt 7 = .int .i64 (i:Nat)/\i + q = m.emits.length∧-1 <= rm/\rm <= 600/\(0 <= rm->(∀x ∈ m.emits.take i,quT x)/\rm + i <= room))->
   ∃x I,qp P Wd (.loop qz9) st = some (x,I)/\(x = .exit 4/\∃(tt:List qd) (rm:Int),I = ⟨tt,G,false⟩/\Smr P A j tt/\lkp tt 3 = .int .i64 rm∧-1 <= rm/\rm <= 600/\(0 <= rm->(∀x ∈ m.emits,quT x)/\rm + m.emits.length <= room)):=by
 refine qao _ (λx I=>x = .exit 4/\∃(tt:List qd) (rm:Int),I = ⟨tt,G,false⟩/\Smr P A j tt/\lkp tt 3 = .int .i64 rm∧-1 <= rm/\rm <= 600/\(0 <= rm->(∀x ∈ m.emits,quT x)/\rm + m.emits.length <= room)) ?_
 rintro q st ⟨tt,i,rm,rfl,⟨ht,e1,e4,e5⟩,e3,e7,aj,a8,a7,E⟩
 have hA:=(jd.1 hG).1
 have ae:=hG
 rw [qm.cs] at hG
 generalize he:qp P Wd qz9 _ = r
 rcases Nat.lt_or_ge i m.emits.length with hi | hi
 ·have c1:ilt (i:Int) (m.emits.length:Int) = true:=qiK zo
  by_cases a1:0 <= rm
  ·have c2:ile 0 rm = true:=qv1 a1
   have w:=qC (n:=i) (by have:=hn;unfold qe9 at this;omega)
   have ac:=ad m.emits[i] (List.getElem_mem hi)
   obtain ⟨r',aa,b1,b2,b3⟩:=e40 m.emits[i].e a8 a7 G
   have Y:∀U:Int,(0 <= U->(∀e ∈ m.emits[i].ifs,Go1 e)/\U + m.emits[i].ifs.length <= r')->(0 <= U->(∀x ∈ m.emits.take (i + 1),quT x)/\U + ((i + 1:Nat):Int) <= room):=λU hq h0=>by
    have f1:=E a1
    have f3:=hq h0
    have f2:=b3 zo
    rw [List.take_succ_eq_append_getElem hi]
    refine ⟨λs hs=>?_,zo⟩
    rcases jH.1 hs with hs | hs
    ·exact f1.1 s hs
    ·rw [jY] at hs
     subst hs
     exact ⟨f2.1,f3.1,zo⟩
   have hg:(m.emits.map qab.enc)[i]? = some m.emits[i].enc:=by rw [jr,jh hi];rfl
   generalize m.emits[i] = y at aa hg Y ac
   obtain ⟨pt,⟨op,n,m2,sb,aS⟩,ifs⟩:=y
   rw [qt] at aa
   rw [qab.enc,exC] at hg
   have hx:=qar (k:=7) (f:=.no) (j:=.i64) hg rfl
   change qfH 7 (.lst (m.emits.map qab.enc) .no) _ = _ at hx
   simp only [qd.cells,List.cons_append,List.nil_append] at hx
   simp only [qz9,sT.1,sC.1,qe,qw,seval,-rN,ht,e3,e5,e7,c1,c2,hx,hG,aa,jQ] at he
   generalize hr:qp P Wd (.loop qz8) _ = r2 at he
   obtain ⟨x,I,rfl,rfl,ai,ab,rfl,⟨a6,f1,f4,f5⟩,f3,f7,d1,d2,d3⟩:=qc0 hr (que (j:=j) (m:=m) ae hx ac (room:=r') ifs.length _ ⟨_,0,r',rfl,⟨Y1,v6,v7,x8⟩,z10,by simp only [sT.1,sC.1,seval,-rN,e7],by simp only [sT.1,seval,-rN,ht,Int.natCast_zero],zo,b1,b2,λ_=>⟨by simp,zo⟩⟩)
   simp only [sT.1,sC.1,qe,seval,-rN,a6,f7,w] at he
   subst he
   refine .inl ⟨_,q - 1,rfl,zo,_,i + 1,ab,rfl,⟨by simp only [qcq,a6],?_,?_,?_⟩,?_,?_,zo,d1,d2,Y ab d3⟩
   all_goals simp only [sT.1,sC.1,seval,-rN,a6,f1,f3,f4,f5]
  ·have c2:ile 0 rm = false:=quQ a1
   simp only [qz9,sT.1,sC.1,qe,qw,seval,-rN,ht,e3,e5,e7,c1,c2,hG,jQ] at he
   subst he
   exact .inr ⟨_,_,rfl,by simp,rfl,_,rm,rfl,⟨Y1,v6,v7,x8⟩,Y2,a8,a7,λh0=>absurd h0 a1⟩
 ·have c1:ilt (i:Int) (m.emits.length:Int) = false:=qis zo
  rw [List.take_of_length_le hi] at E
  simp only [qz9,sT.1,sC.1,qe,qw,seval,-rN,ht,e3,e5,e7,c1,hG,jQ] at he
  subst he
  exact .inr ⟨_,_,rfl,by simp,rfl,_,rm,rfl,⟨Y1,v6,v7,x8⟩,Y2,a8,a7,λh0=>⟨(E h0).1,by have:=(E h0).2;omega⟩⟩
end
end Go.Proofs.YtcbfifamliijlaaGreatDoor.AE
