/- Proved: part 12. No condition. -/
import Derived.Test.YtnibchoenjmmjaaGreatDoorMt11
import Derived.Test.YtnibchoenjmmjaaGreatDoorMt10
set_option maxRecDepth 100000
set_option maxHeartbeats 0
open List renaming getElem?_append_left→ja,take_append_of_le_length→j5,take_set_of_le→j8,getElem?_set_self→jh,drop_eq_getElem_cons→jX,getElem?_eq_getElem→ji,length_map→j6,append_assoc→jr,getElem?_map→ju
open Option renaming map_some→jO
open Bool renaming true_and→jY,false_and→jQ,not_true→j0,not_false→j3,true_or→jZ,false_or→jS
namespace Go.Proofs.YtnibchoenjmmjaaGreatDoor.AE
open Go.AE
theorem qxI:∀(d:Nat),d <= 40->∀(e:Exl) (room:Int),-1 <= room->room <= 600->∀h,∃r:Int,Wd (.fn 44 [] []) [exV e,.int .i64 (d:Nat),.int .i64 room] h = some (.ret (.int .i64 r),h,false)∧-1 <= r/\r <= 600/\(0 <= r->Fit d e/\r + sz d e <= room):=by
 intro d
 induction d with
 | zero=>
  rintro _ ⟨op,n,nm,sb,aS⟩ room h1 h2 h
  have z0:(((0:Nat):Int) == 0) = true:=xk
  refine ⟨-1,?_,zo,zo,λh=>zo⟩
  rw [qI,qi 44 c44]
  simp only [sB.1,c44,seval,-Int.reduceNatCast',z0,jZ]
 | succ d ih=>
  rintro hd ⟨op,n,nm,sb,aS⟩ room h1 h2 h
  have z0:(((d + 1:Nat):Int) == 0) = false:=by rw [beq_eq_false_iff_ne];omega
  obtain ⟨G,hG⟩ :∃G,G = h ++ [qb.cells [.int .i64 op,.int .i64 n,.str nm,.str sb,.lst (aS.map exV) .no]]:=⟨_,rfl⟩
  have U:G[h.length]? = some (.cells [.int .i64 op,.int .i64 n,.str nm,.str sb,.lst (aS.map exV) .no]):=by rw [hG,qF];rfl
  have hlt:h.length < G.length:=by rw [hG];simp
  have ab:G.take h.length = h:=by rw [hG];simp
  rw [qI]
  generalize hw:Wd _ _ h = w
  rw [qi 44 c44] at hw
  cases hc:(ilt room 1 || ilt 20 (aS.length:Int) || ilt 100 (nm.length:Int) || ilt 100 (sb.length:Int)) with
  | true=>
   simp only [sB.1,c44,seval,z0,hc,jS,j6] at hw
   subst hw
   exact ⟨-1,rfl,zo,zo,λh=>zo⟩
  | false=>
   have a1:1 <= room/\aS.length <= 20:=by
    simp only [Bool.or_eq_false_iff,qf,decide_eq_false_iff_not] at hc
    omega
   have loop:∀q st,(∃(tt:List qa) (i:Nat) (rm:Int),st = ⟨tt,G,false⟩/\tt.length = 55/\lkp tt 1 = .int .i64 (d + 1:Nat)/\lkp tt 2 = .int .i64 rm/\lkp tt 3 = .ptr h.length 0/\lkp tt 7 = .int .i64 (i:Nat)/\i + q = aS.length∧-1 <= rm/\rm <= 600/\(0 <= rm->(∀j (hj:j < aS.length),j < i->Fit d aS[j])/\rm + (((aS.take i).map (sz d)).sum:Nat) <= room - 1))->
     ∃x I,qm h.length Wd (.loop qks) st = some (x,I)/\(x = .exit 0/\∃(tt:List qa) (rm:Int),I = ⟨tt,G,false⟩/\tt.length = 55/\lkp tt 2 = .int .i64 rm∧-1 <= rm/\rm <= 600/\(0 <= rm->(∀j (hj:j < aS.length),Fit d aS[j])/\rm + ((aS.map (sz d)).sum:Nat) <= room - 1)):=by
    refine qy _ _ ?_
    rintro q st ⟨tt,i,rm,rfl,ht,e1,e2,e3,e7,ae,M,J,B⟩
    generalize he:qm h.length Wd qks _ = r
    rcases Nat.lt_or_ge i aS.length with hi | hi
    ·have c1:ilt (i:Int) (aS.length:Int) = true:=by rw [qf];simp;omega
     by_cases E:0 <= rm
     ·have c2:ile 0 rm = true:=by rw [qaT];simpa using E
      have w:=qag (n:=i) zo
      have wd:IntKind.i64.wrap (((d + 1:Nat):Int) - 1) = ((d:Nat):Int):=by rw [qbt zo zo];omega
      obtain ⟨r',S,b1,b2,b3⟩:=ih zo aS[i] rm M J G
      have hg:(aS.map exV)[i]? = some (exV aS[i]):=by rw [ju,ji hi];rfl
      have a6:0 <= r'->(∀j (hj:j < aS.length),j < i + 1->Fit d aS[j])/\r' + (((aS.take (i + 1)).map (sz d)).sum:Nat) <= room - 1:=λh0=>by
       refine ⟨λj hj ad=>?_,?_⟩
       ·by_cases e:j = i
        ·subst e
         exact (b3 h0).1
        ·exact (B E).1 j hj zo
       ·have:=(b3 h0).2
        have:=(B E).2
        rw [List.take_succ_eq_append_getElem hi,List.map_append,List.sum_append]
        simp only [List.map_cons,List.map_nil,List.sum_cons,List.sum_nil]
        omega
      generalize aS[i] = y at S hg
      obtain ⟨a8,n',aa,a7,ac⟩:=y
      rw [qI] at S hg
      have hx:qaW 5 (.lst (aS.map exV) .no) (.int .i64 (i:Nat)) = some (.iptr [.int .i64 a8,.int .i64 n',.str aa,.str a7,.lst (ac.map exV) .no] 0):=qbl hg rfl
      simp only [sB.1,qks,seval,ht,e1,e2,e3,e7,c1,c2,w,wd,hx,U,S,j6] at he
      subst he
      refine .inl ⟨_,q - 1,rfl,zo,_,i + 1,r',rfl,Y0,?_,?_,?_,?_,zo,b1,b2,a6⟩
      ·simp only [sB.1,seval,ht,e1]
      ·simp only [sB.1,seval,ht]
      ·simp only [sB.1,seval,ht,e3]
      ·simp only [sB.1,seval,ht]
     ·have c2:ile 0 rm = false:=by rw [qaT];simpa using E
      simp only [sB.1,qks,seval,ht,e1,e2,e3,e7,c1,c2,U,j6] at he
      subst he
      exact .inr ⟨_,_,rfl,by simp,rfl,_,rm,rfl,Y0,z12,M,J,λh0=>absurd h0 E⟩
    ·have c1:ilt (i:Int) (aS.length:Int) = false:=by rw [qf];simp;omega
     simp only [sB.1,qks,seval,ht,e1,e2,e3,e7,c1,U,j6] at he
     subst he
     exact .inr ⟨_,_,rfl,by simp,rfl,_,rm,rfl,Y0,z12,M,J,λh0=>⟨λj hj=>(B h0).1 j hj zo,by have:=(B h0).2;rw [List.take_of_length_le hi] at this;exact this⟩⟩
   have wr:IntKind.i64.wrap (room - 1) = room - 1:=qbt zo zo
   simp only [sB.1,c44,seval,z0,hc,jS,j6,wr] at hw
   generalize hr:qm h.length Wd (.loop qks) _ = r at hw
   obtain ⟨x,I,rfl,rfl,tt,rm,rfl,ht,e2,b1,b2,b3⟩:=known hr (loop aS.length _ ⟨_,0,room - 1,by rw [hG],X1,X1,X1,X1,X2,zo,zo,zo,λ_=>⟨λj _ h=>absurd h zo,by simp⟩⟩)
   simp only [sB.1,seval,ht,e2] at hw
   subst hw
   refine ⟨rm,congrArg some (q6 ab rfl),b1,b2,λh0=>⟨⟨a1.2,λa ha=>?_⟩,?_⟩⟩
   ·obtain ⟨j,hj,rfl⟩:=List.getElem_of_mem ha
    exact (b3 h0).1 j hj
   ·have:=(b3 h0).2
    rw [sz]
    omega
theorem qvm (e:Exl) (h:List qb):∃r:Int,Wd (.fn 20 [] []) [.agg [.lst [qEA e] .full,.str []]] h = some (.ret (.int .i64 r),h,false)/\(r = 0\/(r = 1/\Fit 40 e/\sz 40 e <= 600)):=by
 have E:IntKind.i64.wrap (600 - 1) = 599:=xk
 have B:IntKind.i64.wrap 599 = 599:=xk
 have g1:ilt 60 1 = false:=Eq.trans rfl rfl
 have g2:ilt 100 0 = false:=Eq.trans rfl rfl
 have g3:ilt 300 0 = false:=Eq.trans rfl rfl
 have g4:ilt 100 1 = false:=Eq.trans rfl rfl
 have g5:ile 0 600 = true:=Eq.trans rfl rfl
 have g6:ile 0 599 = true:=Eq.trans rfl rfl
 have c40:((40:Nat):Int) = 40:=Eq.trans rfl rfl
 obtain ⟨op,n,nm,sb,aS⟩:=e
 rw [qEA,qI]
 obtain ⟨r,hr,r1,r2,r3⟩:=qxI 40 zo (.mk op n nm sb aS) 599 zo zo (h ++ [.cells [.lst [.agg [.str [],.bool false,.lst [] .full,.lst [] .full,.lst [] .full,.lst [.agg [.int .i64 op,.int .i64 n,.str nm,.str sb,.lst (aS.map exV) .no]] .full,.lst [] .full,.lst [] .full,.lst [] .full,.int .i64 0,.lst [] .full,.lst [] .full,.lst [] .full,.lst [] .full]] .full,.str []],.cells [.str [],.bool false,.lst [] .full,.lst [] .full,.lst [] .full,.lst [.agg [.int .i64 op,.int .i64 n,.str nm,.str sb,.lst (aS.map exV) .no]] .full,.lst [] .full,.lst [] .full,.lst [] .full,.int .i64 0,.lst [] .full,.lst [] .full,.lst [] .full,.lst [] .full]])
 rw [qI,c40] at hr
 have hp:=λr g=>qrQ r g
 have hs:=λr g=>qvl r g
 have i1:∀cs:List qa,qaW 14 (.lst [.agg cs] .full) (.int .i64 0) = if cs.length = 14 then some (.iptr cs 0) else none:=λcs=>rfl
 have i2:∀cs:List qa,qaW 5 (.lst [.agg cs] .full) (.int .i64 0) = if cs.length = 5 then some (.iptr cs 0) else none:=λcs=>rfl
 have l1:∀x:qa,[x].length = 1:=λ_=>rfl
 generalize hw:Wd _ _ h = w
 rw [qi 20 c20] at hw
 by_cases h0:0 <= r
 ·have c0:ile 0 r = true:=by rw [qaT];simpa using h0
  have c1:ilt r 0 = false:=by rw [qf];simpa using h0
  simp only [sA.1,c20,qyh,qyi,qyj,qyk,qyl,qaG,seval,E,B,g1,g2,g3,g4,g5,g6,qe (Nat.le_succ _),j0,z00,z01,z11,cc1,cc0,w01,w1,qBe,l1,i1,i2,hp,hs,hr,c0,c1] at hw
  subst hw
  exact ⟨1,rfl,.inr ⟨rfl,(r3 h0).1,by have:=(r3 h0).2;omega⟩⟩
 ·have c0:ile 0 r = false:=by rw [qaT];simpa using h0
  have c1:ilt r 0 = true:=by rw [qf];simpa using h0
  simp only [sA.1,c20,qyh,qyi,qyj,qyk,qyl,qaG,seval,E,B,g1,g2,g3,g4,g5,g6,qe (Nat.le_succ _),j0,z00,z01,z11,cc1,cc0,w01,w1,qBe,l1,i1,i2,hp,hs,hr,c0,c1] at hw
  subst hw
  exact ⟨0,rfl,.inl rfl⟩
abbrev Res:=Val×Int
def qap:Val:=.mk 0 0 [] []
def qdP (n:Int):Res:=(.mk 0 n [] [],0)
def qbH (b:Bool):Res:=(.mk 1 (bif b then 1 else 0) [] [],0)
def qbk (e:Int):Res:=(qap,e)
def qa3 (v:Val):Res:=bif qu 3 v then (v,0) else qbk 1
def RAt (H:Nat->Option qb) (r:Res) (rs:List qa):Prop:=∃cs,rs = cs ++ [.int .i64 r.2]/\At H r.1 cs
theorem At.leaf (H:Nat->Option qb) (k n:Int) (s:Str):At H (.mk k n s []) [.int .i64 k,.int .i64 n,.str s,.lst [] .full]:=.lst k n s [] [] .full (.inr rfl) rfl λi h=>by simp at h
theorem RAt.whole (H:Nat->Option qb) (n:Int):RAt H (qdP n) [.int .i64 0,.int .i64 n,.str [],.lst [] .full,.int .i64 0]:=⟨_,rfl,At.leaf H 0 n []⟩
theorem RAt.wrong (H:Nat->Option qb) (e:Int):RAt H (qbk e) [.int .i64 0,.int .i64 0,.str [],.lst [] .full,.int .i64 e]:=⟨_,rfl,At.leaf H 0 0 []⟩
theorem RAt.truth (H:Nat->Option qb) (b:Bool):RAt H (qbH b) [.int .i64 1,.int .i64 (bif b then 1 else 0),.str [],.lst [] .full,.int .i64 0]:=⟨_,rfl,At.leaf H 1 _ []⟩
theorem RAt.mono {H H':Nat->Option qb} (hs:Sub H H') {r:Res} {rs:List qa} (h:RAt H r rs):RAt H' r rs:=by
 obtain ⟨cs,e,h⟩:=h
 exact ⟨cs,e,h.mono hs⟩
theorem RAt.cells {H:Nat->Option qb} {r:Res} {rs:List qa} (h:RAt H r rs):∃k n s l L,r.1 = .mk k n s l/\rs = [.int .i64 k,.int .i64 n,.str s,L,.int .i64 r.2]/\LP H l L:=by
 obtain ⟨v,e⟩:=r
 obtain ⟨cs,rfl,h⟩:=h
 obtain ⟨k,n,s,l⟩:=v
 obtain ⟨L,rfl,hL⟩:=h.lp
 exact ⟨k,n,s,l,L,rfl,rfl,hL⟩
section
variable {g:List qb}
theorem ql0 (b:Bool):Wd (.fn 51 [] []) [.bool b] g = some (.ret (.agg [.int .i64 1,.int .i64 (bif b then 1 else 0),.str [],.lst [] .full,.int .i64 0]),g,false):=by
 rw [qi 51 c51]
 cases b <;> simp only [sB.1,c51,seval,q8,cond_true,cond_false]
theorem qdR {H:Nat->Option qb} {v:Val} {cs:List qa} (hv:At H v cs) (hg:Cov H g):∃rs,Wd (.fn 52 [] []) [.agg cs] g = some (.ret (.agg rs),g,false)/\RAt H (qa3 v) rs:=by
 have h1:=qeE hv (g ++ [.cells cs,.cells [.int .i64 0,.int .i64 0,.str [],.lst [] .full,.int .i64 0]]) (hg.more _)
 have h2:∀h,Wd (.fn 55 [] []) [.int .i64 1] h = some (.ret (rI 0 1),h,false):=λh=>qaP 1
 obtain ⟨k,n,s,l⟩:=v
 obtain ⟨L,rfl,hL⟩:=hv.lp
 obtain ⟨J,I,E,S⟩:=hL.facts
 have B:=hL.low hg
 have M:Nat.ble g.length (g.length + 1) = true:=qe zo
 rw [qa3]
 cases hr:qu 3 (.mk k n s l) with
 | true=>
  rw [hr] at h1
  refine ⟨[.int .i64 k,.int .i64 n,.str s,L,.int .i64 0],?_,⟨_,rfl,hv⟩⟩
  rw [qi 52 c52]
  simp only [sB.1,c52,seval,q8,J,I,E,B,M,h1,splice,jZ]
 | false=>
  rw [hr] at h1
  refine ⟨_,?_,RAt.wrong H 1⟩
  rw [qi 52 c52]
  simp only [sB.1,c52,seval,q8,J,I,E,B,h1,h2,rI,splice]
end
def isI:Val->Bool
 | .mk k _ _ _=>k == 0
def qb9:Val->Int
 | .mk _ n _ _=>n
def qzF (l:List Val):Res:=bif l.all isI then (bif qhu (qhe (l.map qb9)) then qdP (qhe (l.map qb9)) else qbk 2) else qbk 1
theorem qzG {H:Nat->Option qb} {l:List Val} {L:qa} (hL:LP H l L) (hs:qsg (l.map qb9)) (hl:l.length <= 200) (hr:∀v ∈ l,qu 3 v = true) (h:List qb) (hg:Cov H h):∃rs,Wd (.fn 80 [] []) [L] h = some (.ret (.agg rs),h,false)/\RAt H (qzF l) rs:=by
 obtain ⟨I,ak,J,ah⟩:=hL.facts
 have ww:∀h,Wd (.fn 55 [] []) [.int .i64 1] h = some (.ret (rI 0 1),h,false):=λh=>qaP 1
 have loop:∀k st,(∃tt g i S,st = ⟨tt,g,false⟩/\tt.length = 53/\g.take h.length = h/\h.length < g.length/\g[h.length]? = some (.cells [.int .i64 0,.int .i64 0,.str [],.lst [] .full,.int .i64 0])/\lkp tt 2 = .ptr h.length 0/\lkp tt 9 = L/\lkp tt 10 = .int .i64 (l.length:Nat)/\lkp tt 11 = .int .i64 (i:Nat)/\lkp tt 3 = .int .u64 (hiS S)/\lkp tt 4 = .int .u64 (loS S)/\i + k = l.length/\S + qhe ((l.drop i).map qb9) = qhe (l.map qb9)/\l.all isI = (l.drop i).all isI)->
   ∃x U,qm h.length Wd (.loop qky) st = some (x,U)/\(∃tt g,U = ⟨tt,g,false⟩/\tt.length = 53/\g.take h.length = h/\h.length < g.length/\lkp tt 2 = .ptr h.length 0/\((x = .exit 0/\l.all isI = true/\g[h.length]? = some (.cells [.int .i64 0,.int .i64 0,.str [],.lst [] .full,.int .i64 0])/\lkp tt 3 = .int .u64 (hiS (qhe (l.map qb9)))/\lkp tt 4 = .int .u64 (loS (qhe (l.map qb9))))\/(x = .ret/\l.all isI = false/\g[h.length]? = some (.cells [.int .i64 0,.int .i64 0,.str [],.lst [] .full,.int .i64 1])))):=by
  refine qy _ _ ?_
  rintro k st ⟨tt,g,i,S,rfl,ht,B,hlt,hb,e2,e9,M,a6,e3,e4,aj,hS,E⟩
  generalize he:qm h.length Wd qky _ = r
  have ac:Cov H g:=λj x hx=>by
   have h1:=hg j x hx
   have h2:(g.take h.length)[j]? = some x:=by rw [B];exact h1
   rw [List.getElem?_take] at h2
   split at h2
   ·exact h2
   ·cases h2
  rcases Nat.lt_or_ge i l.length with hi | hi
  ·have c1E:ilt (i:Int) (l.length:Int) = true:=by rw [qf];simp;omega
   have w:=qaH (n:=i) zo
   obtain ⟨pp,cs,hx,a1,_,ab,a7⟩:=hL.item hi ac
   have ad:Nat.ble h.length g.length = true:=qe zo
   have aa:∀i t,qo pp i t = t:=λi t=>by rw [<-a1];exact qH _ _ _
   have af:=hr _ (List.getElem_mem hi)
   rw [jX hi] at hS E
   rw [List.map_cons,qhe] at hS
   rw [List.all_cons] at E
   have ae:=hs _ (List.mem_map_of_mem (f:=qb9) (List.getElem_mem hi))
   have hR:=qeE a7 (g ++ [.cells cs]) (ac.more _)
   rw [af] at hR
   generalize l[i] = v at *
   obtain ⟨K,N,Z,zs⟩:=v
   obtain ⟨L',rfl,ai⟩:=a7.lp
   obtain ⟨d1,s1,w1,n1⟩:=ai.facts
   cases hk:(K == 0) with
   | true=>
    have hK:K = 0:=by simpa using hk
    subst hK
    obtain ⟨c,hh⟩:=qxT (h:=g ++ [.cells [.int .i64 0,.int .i64 N,.str Z,L']]) S ae
    simp only [qb9] at hS hh
    simp only [sB.1,qky,seval,ht,e2,e9,M,a6,e3,e4,c1E,I,J,hx,a1,aa,ab,w,hR,d1,s1,w1,qyo,hh,qjU,q8,ad,jZ] at he
    subst he
    exact .inl ⟨_,k - 1,rfl,zo,_,_,i + 1,S + N,rfl,Y0,by rw [j5 zo,B],by simp only [List.length_append];omega,by rw [ja hlt,hb],z12,by simp only [sB.1,seval,ht,e9,I,J],by simp only [sB.1,seval,ht,M],x8,x8,x8,zo,zo,by rw [E];rfl⟩
   | false=>
    simp only [sB.1,qky,seval,ht,e2,e9,M,a6,e3,e4,c1E,I,J,hx,a1,aa,ab,w,hR,d1,s1,w1,hk,ww,rI,hlt,hb,q8,ad,jZ] at he
    subst he
    refine .inr ⟨_,_,rfl,by simp,_,_,rfl,Y0,?_,by simp;omega,z12,.inr ⟨rfl,by rw [E,isI,hk];rfl,?_⟩⟩
    ·rw [j5 (by simp;omega),j8 zo,B]
    ·rw [ja (by simp;omega),jh hlt]
  ·have c1E:ilt (i:Int) (l.length:Int) = false:=by rw [qf];simp;omega
   simp only [sB.1,qky,seval,ht,M,a6,c1E] at he
   subst he
   rw [List.drop_eq_nil_of_le hi,List.map_nil,qhe,Int.add_zero] at hS
   rw [List.drop_eq_nil_of_le hi,List.all_nil] at E
   subst hS
   exact .inr ⟨_,_,rfl,by simp,_,_,rfl,Y0,B,hlt,z12,.inl ⟨rfl,E,hb,by simp only [sB.1,seval,ht,e3],y9⟩⟩
 have hT:-9223372036854775808 * 200 <= qhe (l.map qb9)/\qhe (l.map qb9) <= 9223372036854775808 * 200:=by
  obtain ⟨h1,h2⟩:=qjD hs
  rw [j6] at h1 h2
  omega
 obtain ⟨f1,f2⟩:=qvs hT
 have d0:loS 0 = 0:=xk
 have d1:hiS 0 = 0:=xk
 rw [qzF]
 generalize hw:Wd _ _ h = w
 rw [qi 80 c80] at hw
 simp only [sB.1,c80,seval,I,J,ah] at hw
 generalize hr:qm h.length Wd (.loop qky) _ = r at hw
 obtain ⟨x,U,rfl,tt,g,rfl,ht,B,hlt,e2,⟨rfl,ha,hb,e3,e4⟩ | ⟨rfl,ha,hb⟩⟩:=known hr (loop l.length _ ⟨_,_,0,0,rfl,X1,by simp,by simp,by simp,X1,by simp only [sB.1,seval,I],X1,X2,by simp only [sB.1,seval,d1],by simp only [sB.1,seval,d0],zo,by simp,rfl⟩)
 ·have a8:∀b,(g.set h.length b).take h.length = h:=λb=>by rw [j8 zo,B]
  rw [ha]
  cases hf:qhu (qhe (l.map qb9)) with
  | true=>
   rw [hf] at f1 f2
   have f2:=f2 rfl
   rw [f2] at f1
   simp only [sB.1,seval,ht,e2,e3,e4,f1,f2,qjU,q8,qbb,qaP,hb,B,hlt,rI] at hw
   subst hw
   exact ⟨_,congrArg some (q6 (a8 _) rfl),RAt.whole H _⟩
  | false=>
   rw [hf] at f1
   simp only [sB.1,seval,ht,e2,e3,e4,f1,qjU,q8,qbb,qaP,hb,B,hlt,rI] at hw
   subst hw
   exact ⟨_,congrArg some (q6 (a8 _) rfl),RAt.wrong H _⟩
 ·rw [ha]
  simp only [sB.1,seval,ht,e2,hb,hlt] at hw
  subst hw
  exact ⟨_,congrArg some (q6 B rfl),RAt.wrong H _⟩
structure qfh where
 vals:List Val
 bag:List (List Val)
 en:Int
 ed:Int
 oth:List (Str×Str×Val)
def qbh (b:List (List Val)):qa:=.lst (b.map λl=>.lst (l.map qbX) .no) .no
def qek (H:Nat->Option qb) (l:List (Str×Str×Val)) (L:qa):Prop:=∃rs:List (List qa),rs.length = l.length/\(∀(i:Nat) (h:i < l.length) (h':i < rs.length),∃cs,rs[i] = .str l[i].1 :: .str l[i].2.1 :: cs/\At H l[i].2.2 cs)/\((l = []/\L = .lst [] .full)\/∃id m,L = .sl id 0 l.length l.length m/\H id = some (.cells rs.flatten))
theorem qek.facts {H:Nat->Option qb} {l:List (Str×Str×Val)} {L:qa} (h:qek H l L):L.dim = L/\L.storable = true/\(∀i t,qo L i t = t)/\qbG false L = some (.int .i64 (l.length:Nat)):=by
 obtain ⟨rs,_,_,⟨rfl,rfl⟩ | ⟨id,m,rfl,_⟩⟩:=h <;> exact ⟨rfl,rfl,λ_ _=>rfl,rfl⟩
theorem qek.mono {H H':Nat->Option qb} (hs:Sub H H') {l:List (Str×Str×Val)} {L:qa} (h:qek H l L):qek H' l L:=by
 obtain ⟨rs,h1,h2,h3⟩:=h
 refine ⟨rs,h1,λi a b=>?_,?_⟩
 ·obtain ⟨cs,e,hc⟩:=h2 i a b
  exact ⟨cs,e,hc.mono hs⟩
 ·rcases h3 with h3 | ⟨id,m,e,hi⟩
  ·exact .inl h3
  ·exact .inr ⟨id,m,e,hs _ _ hi⟩
theorem qek.item {H:Nat->Option qb} {l:List (Str×Str×Val)} {L:qa} (h:qek H l L) {i:Nat} (hi:i < l.length) {g:List qb} (hg:Cov H g):∃id m cs,L = .sl id 0 l.length l.length m/\qaW 6 L (.int .i64 (i:Nat)) = some (.ptr id (i * 6))/\ldB (some 6) (i * 6) g[id]? = some (.agg (.str l[i].1 :: .str l[i].2.1 :: cs))/\At H l[i].2.2 cs:=by
 obtain ⟨rs,h1,h2,⟨rfl,rfl⟩ | ⟨id,m,rfl,hid⟩⟩:=h
 ·simp at hi
 ·have I:i < rs.length:=zo
  obtain ⟨cs,e,hc⟩:=h2 i hi I
  refine ⟨id,m,cs,rfl,qcC hi,?_,hc⟩
  have hk:∀v ∈ rs,v.length = 6:=λv hv=>by
   obtain ⟨j,hj,rfl⟩:=List.getElem_of_mem hv
   obtain ⟨J,e',B⟩:=h2 j zo hj
   rw [e']
   simp [B.length]
  have hs:∀c ∈ rs[i],c.dim = c:=λc B=>by
   rw [e] at B
   rcases List.mem_cons.1 B with rfl | B
   ·rfl
   ·rcases List.mem_cons.1 B with rfl | B
    ·rfl
    ·exact hc.dims c B
  have hb:g[id]? = some (.cells rs.flatten):=hg _ _ hid
  have E:=qdS hk I hs
  rw [e] at E
  rw [hb,ldB]
  exact E
def qiW {α:Type} (l:List α) (i:Int):Option α:=bif ilt i 0 then none else l[i.toNat]?
theorem qf4 {α:Type} (l:List α) (i:Nat):qiW l (i:Int) = l[i]?:=by
 have:ilt (i:Int) 0 = false:=by rw [qf];simp
 rw [qiW,this]
 rfl
theorem qdX {α:Type} {l:List α} {pl:Int} {x:Option α} (hx:qiW l pl = x):(x = none/\(ilt pl 0 = true\/(ilt pl 0 = false/\ile (l.length:Int) pl = true)))\/(∃i:Nat,∃hi:i < l.length,x = some l[i]/\pl = (i:Int)/\ilt pl 0 = false/\ile (l.length:Int) pl = false):=by
 subst hx
 cases c0:ilt pl 0 with
 | true=>exact .inl ⟨by rw [qiW,c0];rfl,.inl rfl⟩
 | false=>
  have h0:¬ pl < 0:=by rw [qf] at c0;simpa using c0
  obtain ⟨i,rfl⟩ :∃i:Nat,pl = (i:Int):=⟨pl.toNat,zo⟩
  rw [qf4]
  rcases Nat.lt_or_ge i l.length with hi | hi
  ·exact .inr ⟨i,hi,ji hi,rfl,rfl,by rw [qaT];simp;omega⟩
  ·exact .inl ⟨List.getElem?_eq_none hi,.inr ⟨rfl,by rw [qaT];simp;omega⟩⟩
def qz0 (E:qfh) (op:Int) (nm sb:Str) (pl:Int):Res:=bif op == 4 then (match qiW E.vals pl with | some v=>qa3 v | none=>qbk 1) else match E.oth.find? (λx=>x.1 == nm && x.2.1 == sb) with | some x=>qa3 x.2.2 | none=>qbk 16
abbrev zr5:qb:=.cells [.int .i64 0,.int .i64 0,.str [],.lst [] .full,.int .i64 0]
section
variable {g:List qb} {H:Nat->Option qb}
theorem qlb (E:qfh) (hg:Cov H g) (R:Nat) {OL TV DL:qa} (hR:R < g.length) (hb:g[R]? = some (.cells [TV,.lst (E.vals.map qbX) .no,qbh E.bag,.int .i64 E.en,.int .i64 E.ed,OL,DL])) (hO:qek H E.oth OL) (aB:E.oth.length <= 1000) (aA:E.vals.length <= 1000) (op n:Int) (nm sb:Str) (pl:Int) (I:qa) (ad:I.dim = I) (ac:I.storable = true) (ab:∀i t,qo I i t = t) :
  ∃rs,Wd (.fn 53 [] []) [.ptr R 0,.agg [.int .i64 op,.int .i64 n,.str nm,.str sb,.int .i64 pl,I]] g = some (.ret (.agg rs),g,false)/\RAt H (qz0 E op nm sb pl) rs:=by
 have ww:∀e h,Wd (.fn 55 [] []) [.int .i64 e] h = some (.ret (rI 0 e),h,false):=λe h=>qaP e
 obtain ⟨od,os,ow,ol⟩:=hO.facts
 have hV:=LP.arg (H:=H) E.vals
 obtain ⟨vd,vs,vw,vl⟩:=hV.facts
 have av:=λm=>hg.more m
 obtain ⟨G,hG⟩ :∃G,G = g ++ [qb.cells [.int .i64 op,.int .i64 n,.str nm,.str sb,.int .i64 pl,I],zr5]:=⟨_,rfl⟩
 have am:Nat.ble g.length (g.length + 1) = true:=qe zo
 have aD:G.length = g.length + 2:=by rw [hG];simp
 have ap:Cov H G:=by rw [hG];exact av _
 have au:G.take g.length = g:=by rw [hG];simp
 have aE:G[R]? = some (.cells [TV,.lst (E.vals.map qbX) .no,qbh E.bag,.int .i64 E.en,.int .i64 E.ed,OL,DL]):=by rw [hG,ja hR];exact hb
 have G0:G[g.length]? = some (.cells [.int .i64 op,.int .i64 n,.str nm,.str sb,.int .i64 pl,I]):=by rw [hG,qF];rfl
 have G1:G[g.length + 1]? = some zr5:=by rw [hG,qQ];rfl
 cases h4:(op == 4) with
 | true=>
  have hop:op = 4:=by simpa using h4
  subst hop
  rw [qz0]
  have ay:=λx (hx:qiW E.vals pl = x)=>qdX hx
  generalize hx:qiW E.vals pl = x
  rcases ay x hx with ⟨rfl,c⟩ | ⟨i,hi,rfl,rfl,c0,c1⟩
  ·refine ⟨_,?_,RAt.wrong H 1⟩
   rw [qi 53 c53]
   rcases c with c | ⟨c,c'⟩
   ·simp only [sA.1,c53,seval,ad,ac,ab,hR,hb,c,ww,rI]
   ·simp only [sA.1,c53,seval,ad,ac,ab,hR,hb,c,c',ww,rI,vl]
  ·obtain ⟨pp,cs,x1,x2,x3,x4,x5⟩:=hV.item hi hg
   have x6:∀i t,qo pp i t = t:=λi t=>by rw [<-x2];exact qH _ _ _
   obtain ⟨rs,hc,M⟩:=qdR x5 ap
   rw [hG] at hc
   refine ⟨rs,?_,M⟩
   obtain ⟨k',n',s',l',L',e,rfl,S⟩:=M.cells
   obtain ⟨d1,s1,w1,n1⟩:=S.facts
   have ak:=S.low hg
   rw [qi 53 c53]
   simp only [sA.1,c53,seval,ad,ac,ab,hR,hb,c0,c1,rI,vl,x1,x2,x3,x6,hc,d1,s1,w1,ak,am]
 | false=>
  rw [qz0,h4,cond_false]
  have loop:∀k st,(∃(tt:List qa) (i:Nat) (B:List qb),st = ⟨tt,G ++ B,false⟩/\tt.length = 62/\lkp tt 0 = .ptr R 0/\lkp tt 3 = .ptr g.length 0/\lkp tt 4 = .ptr (g.length + 1) 0/\lkp tt 39 = OL/\lkp tt 40 = .int .i64 (E.oth.length:Nat)/\lkp tt 41 = .int .i64 (i:Nat)/\i + k = E.oth.length/\E.oth.find? (λx=>x.1 == nm && x.2.1 == sb) = (E.oth.drop i).find? (λx=>x.1 == nm && x.2.1 == sb))->
    ∃x ae,qm g.length Wd (.loop qi9) st = some (x,ae)/\(∃(tt:List qa) (K:List qb) (rs:List qa),ae = ⟨tt,K,false⟩/\tt.length = 62/\lkp tt 4 = .ptr (g.length + 1) 0/\K.take g.length = g/\g.length + 1 < K.length/\((x = .exit 0/\E.oth.find? (λx=>x.1 == nm && x.2.1 == sb) = none/\K[g.length + 1]? = some zr5)\/(x = .ret/\K[g.length + 1]? = some (.cells rs)/\∃y,E.oth.find? (λx=>x.1 == nm && x.2.1 == sb) = some y/\RAt H (qa3 y.2.2) rs))):=by
   refine qy _ _ ?_
   rintro k st ⟨tt,i,B,rfl,ht,e0,e3,e4,a6,a1,U,aC,hf⟩
   generalize he:qm g.length Wd qi9 _ = r
   have B0:(G ++ B)[g.length]? = some (.cells [.int .i64 op,.int .i64 n,.str nm,.str sb,.int .i64 pl,I]):=by rw [ja zo];exact G0
   have B1:(G ++ B)[g.length + 1]? = some zr5:=by rw [ja zo];exact G1
   have a8:g.length < (G ++ B).length:=by simp;omega
   have a7:g.length + 1 < (G ++ B).length:=by simp;omega
   have aa:Cov H (G ++ B):=ap.more _
   have aj:(G ++ B).take g.length = g:=by rw [j5 zo,au]
   have ah:Nat.ble g.length (G ++ B).length = true:=qe (by simp;omega)
   rcases Nat.lt_or_ge i E.oth.length with hi | hi
   ·have c1E:ilt (i:Int) (E.oth.length:Int) = true:=by rw [qf];simp;omega
    have w:=qaH (n:=i) zo
    obtain ⟨id,m,cs,_,x1,x3,x4⟩:=hO.item hi aa
    rw [jX hi,List.find?_cons] at hf
    generalize az:E.oth[i] = va0 at *
    obtain ⟨ck,cn,cz,cl,CL,hv,rfl,d1,s1,w1,n1⟩:=x4.cells
    generalize hJ:G ++ B = J at *
    obtain ⟨rs,hc,M⟩:=qdR x4 (aa.more [.cells (.str va0.1 :: .str va0.2.1 :: [.int .i64 ck,.int .i64 cn,.str cz,CL])])
    obtain ⟨pa,na,va⟩:=va0
    simp only at *
    have ak:=x4.low aa
    cases q1:(pa == nm) with
    | false=>
     rw [q1,jQ] at hf
     simp only [sA.1,qi9,seval,ht,e0,e3,e4,a6,a1,U,c1E,od,ow,x1,x3,w,d1,s1,w1,a8,B0,ah,q1] at he
     subst he
     refine .inl ⟨_,k - 1,rfl,zo,_,i + 1,B ++ [_],by rw [<-jr,hJ],Y0,?_,?_,?_,?_,?_,?_,zo,hf⟩
     all_goals simp only [sA.1,seval,ht,e0,e3,e4,a6,a1,U,od,ow,w]
    | true=>
     rw [q1,jY] at hf
     cases q2:(na == sb) with
     | false=>
      rw [q2] at hf
      simp only [sA.1,qi9,seval,ht,e0,e3,e4,a6,a1,U,c1E,od,ow,x1,x3,w,d1,s1,w1,a8,B0,ah,q1,q2] at he
      subst he
      refine .inl ⟨_,k - 1,rfl,zo,_,i + 1,B ++ [_],by rw [<-jr,hJ],Y0,?_,?_,?_,?_,?_,?_,zo,hf⟩
      all_goals simp only [sA.1,seval,ht,e0,e3,e4,a6,a1,U,od,ow,w]
     | true=>
      rw [q2] at hf
      obtain ⟨k',n',s',l',L',e,rfl,S⟩:=M.cells
      obtain ⟨d2,s2,w2,n2⟩:=S.facts
      have af:=S.low aa
      simp only [sA.1,qi9,seval,ht,e0,e3,e4,a6,a1,U,c1E,od,ow,x1,x3,w,d1,s1,w1,d2,s2,w2,a8,a7,B0,B1,ah,am,q1,q2,hc] at he
      subst he
      refine .inr ⟨_,_,rfl,by simp,_,_,_,rfl,Y0,by simp only [sA.1,seval,ht,e4],?_,by simp;omega,.inr ⟨rfl,?_,_,hf,M⟩⟩
      ·rw [j5 (by simp;omega),j8 zo,aj]
      ·rw [ja (by simp;omega),jh a7]
   ·have c1E:ilt (i:Int) (E.oth.length:Int) = false:=by rw [qf];simp;omega
    simp only [sA.1,qi9,seval,ht,a1,U,c1E] at he
    subst he
    rw [List.drop_eq_nil_of_le hi] at hf
    exact .inr ⟨_,_,rfl,by simp,_,_,[],rfl,Y0,by simp only [sA.1,seval,ht,e4],aj,a7,.inl ⟨rfl,hf,B1⟩⟩
  generalize hw:Wd _ _ g = w
  rw [qi 53 c53] at hw
  simp only [sA.1,c53,seval,ad,ac,ab,hR,hb,h4,od,ow,ol] at hw
  generalize hr:qm g.length Wd (.loop qi9) _ = r at hw
  obtain ⟨x,ae,rfl,tt,K,rs,rfl,ht,e4,hk,al,⟨rfl,hf,ai⟩ | ⟨rfl,ai,y,hf,M⟩⟩:=known hr (loop E.oth.length _ ⟨_,0,[],by rw [List.append_nil,hG],u3,u3,u3,u3,by simp only [sA.1,seval,od],u3,z13,zo,rfl⟩)
  ·have ar:∀b,(K.set (g.length + 1) b).take g.length = g:=λb=>by rw [j8 zo,hk]
   rw [hf]
   simp only [sA.1,seval,ht,e4,ww,rI,ai,al] at hw
   subst hw
   exact ⟨_,congrArg some (q6 (ar _) rfl),RAt.wrong H _⟩
  ·rw [hf]
   obtain ⟨k',n',s',l',L',e,rfl,S⟩:=M.cells
   obtain ⟨d2,s2,w2,n2⟩:=S.facts
   have af:=S.low hg
   simp only [sA.1,seval,ht,e4,ai,al,d2,s2,w2] at hw
   subst hw
   exact ⟨_,congrArg some (q6 hk (by simp only [sA.1,seval,af])),M⟩
end
def qfR (E:qfh) (pl:Int):List Val:=match qiW E.bag pl with | some l=>l | none=>[]
def qjr (E:qfh) (op pl:Int) (inn:List Val):Res:=
 bif op == 7 then qdP ((qfR E pl).length:Nat) else bif op == 8 then qbH (ilt 0 ((qfR E pl).length:Nat)) else bif op == 9 then qzF (qfR E pl) else
 match qfR E pl with
 | v :: _=>qa3 v
 | []=>match inn with | v :: _=>(v,0) | []=>qbk 1
section
variable {g:List qb} {H:Nat->Option qb}
theorem qjT {b:List (List Val)} {i:Nat} (hi:i < b.length):qaW 1 (qbh b) (.int .i64 (i:Nat)) = some (.iptr [.lst (b[i].map qbX) .no] 0):=by
 rw [qbh]
 exact qbl (x:=.lst (b[i].map qbX) .no) (by rw [ju,ji hi];rfl) rfl
theorem qjk (E:qfh) (hg:Cov H g) (R:Nat) {VL OL TV DL L:qa} (hR:R < g.length) (hb:g[R]? = some (.cells [TV,VL,qbh E.bag,.int .i64 E.en,.int .i64 E.ed,OL,DL])) (aj:E.bag.length <= 1000) (af:∀l ∈ E.bag,l.length <= 200/\qsg (l.map qb9)/\∀v ∈ l,qu 3 v = true) (op n:Int) (nm sb:Str) (pl:Int) (I:qa) (M:I.dim = I) (J:I.storable = true) (B:∀i t,qo I i t = t) (hop:op = 7\/op = 8\/op = 9\/op = 10) (ab:List Val) (Ld:L.dim = L) (Ls:L.storable = true) (Lw:∀i t,qo L i t = t) (ad:op = 10->∃v vs pp cs,ab = v :: vs/\qaW 4 L (.int .i64 0) = some pp/\pp.dim = pp/\(∀m,qcl (g ++ m) pp (some 4) = some (.agg cs))/\At H v cs) :
  ∃rs,Wd (.fn 54 [] []) [.ptr R 0,.agg [.int .i64 op,.int .i64 n,.str nm,.str sb,.int .i64 pl,I],L] g = some (.ret (.agg rs),g,false)/\RAt H (qjr E op pl ab) rs:=by
 have bd:(qbh E.bag).dim = qbh E.bag:=rfl
 have bs:(qbh E.bag).storable = true:=by rw [qbh];kernel_rfl
 have bl:qbG false (qbh E.bag) = some (.int .i64 (E.bag.length:Nat)):=by rw [qbh,qbG];simp
 have bw:∀i t,qo (qbh E.bag) i t = t:=λi t=>by rw [qbh];rfl
 have U:Nat.ble g.length (g.length + 1) = true:=qe zo
 have w7:=λ(x:Int) h=>qbb (h:=h) x
 have w8:=λb h=>ql0 (g:=h) b
 simp only [rI] at w7
 have hP:∃LV,LP H (qfR E pl) LV/\(qfR E pl).length <= 200/\qsg ((qfR E pl).map qb9)/\(∀v ∈ qfR E pl,qu 3 v = true)/\((ile 0 pl = false/\LV = .lst [] .full/\qfR E pl = [])\/(ile 0 pl = true/\ilt pl (E.bag.length:Int) = false/\LV = .lst [] .full/\qfR E pl = [])\/(ile 0 pl = true/\ilt pl (E.bag.length:Int) = true/\qaW 1 (qbh E.bag) (.int .i64 pl) = some (.iptr [LV] 0))):=by
  rcases qdX (l:=E.bag) (pl:=pl) rfl with ⟨e,c⟩ | ⟨i,hi,e,rfl,c0,c1⟩
  ·have eb:qfR E pl = []:=by rw [qfR,e]
   refine ⟨.lst [] .full,?_⟩
   rw [eb]
   refine ⟨LP.nil (.inr rfl),by simp,λn hn=>by simp at hn,λv hv=>by simp at hv,?_⟩
   rcases c with c | ⟨c,c'⟩
   ·exact .inl ⟨by rw [qf] at c;rw [qaT];simp at *;omega,rfl,rfl⟩
   ·exact .inr (.inl ⟨by rw [qf] at c;rw [qaT];simp at *;omega,by rw [qaT] at c';rw [qf];simp at *;omega,rfl,rfl⟩)
  ·obtain ⟨p1,p2,p3⟩:=af _ (List.getElem_mem hi)
   rw [qfR,e]
   exact ⟨_,LP.arg _,p1,p2,p3,.inr (.inr ⟨by rw [qaT];simp,by rw [qf];simp;omega,qjT hi⟩)⟩
 obtain ⟨LV,aa,p1,p2,p3,hc⟩:=hP
 unfold qjr
 generalize qfR E pl = l at *
 obtain ⟨vd,vs,vw,vl⟩:=aa.facts
 have ac:Cov H (g ++ [qb.cells [.int .i64 op,.int .i64 n,.str nm,.str sb,.int .i64 pl,I],zr5]):=hg.more _
 have e7:op = 7->(op == 7) = true/\(op == 8) = false/\(op == 9) = false/\(op == 10) = false:=λh=>by subst h;decide
 have e8:op = 8->(op == 7) = false/\(op == 8) = true/\(op == 9) = false/\(op == 10) = false:=λh=>by subst h;decide
 have e9:op = 9->(op == 7) = false/\(op == 8) = false/\(op == 9) = true/\(op == 10) = false:=λh=>by subst h;decide
 have ah:op = 10->(op == 7) = false/\(op == 8) = false/\(op == 9) = false/\(op == 10) = true:=λh=>by subst h;decide
 rcases hop with hop | hop | hop | hop
 ·obtain ⟨o7,o8,o9,a7⟩:=e7 hop
  rw [o7,cond_true]
  refine ⟨_,?_,RAt.whole H _⟩
  rw [qi 54 c54]
  rcases hc with ⟨c0,rfl,rfl⟩ | ⟨c0,c1,rfl,rfl⟩ | ⟨c0,c1,x1⟩
  ·simp only [sA.1,c54,seval,M,J,B,hR,hb,bd,bs,bw,bl,Ld,Ls,Lw,o7,o8,o9,c0,vd,vl,vw,w7]
  ·simp only [sA.1,c54,seval,M,J,B,hR,hb,bd,bs,bw,bl,Ld,Ls,Lw,o7,o8,o9,c0,c1,vd,vl,vw,w7]
  ·simp only [sA.1,c54,seval,M,J,B,hR,hb,bd,bs,bw,bl,Ld,Ls,Lw,o7,o8,o9,c0,c1,x1,vd,vl,vw,w7]
 ·obtain ⟨o7,o8,o9,a7⟩:=e8 hop
  rw [o7,cond_false,o8,cond_true]
  refine ⟨_,?_,RAt.truth H _⟩
  rw [qi 54 c54]
  rcases hc with ⟨c0,rfl,rfl⟩ | ⟨c0,c1,rfl,rfl⟩ | ⟨c0,c1,x1⟩
  ·simp only [sA.1,c54,seval,M,J,B,hR,hb,bd,bs,bw,bl,Ld,Ls,Lw,o7,o8,o9,c0,vd,vl,vw,w8]
  ·simp only [sA.1,c54,seval,M,J,B,hR,hb,bd,bs,bw,bl,Ld,Ls,Lw,o7,o8,o9,c0,c1,vd,vl,vw,w8]
  ·simp only [sA.1,c54,seval,M,J,B,hR,hb,bd,bs,bw,bl,Ld,Ls,Lw,o7,o8,o9,c0,c1,x1,vd,vl,vw,w8]
 ·obtain ⟨o7,o8,o9,a7⟩:=e9 hop
  rw [o7,cond_false,o8,cond_false,o9,cond_true]
  obtain ⟨rs,a8,a1⟩:=qzG aa p2 p1 p3 _ ac
  refine ⟨rs,?_,a1⟩
  obtain ⟨k',n',s',l',L',e,rfl,a6⟩:=a1.cells
  obtain ⟨d2,s2,w2,n2⟩:=a6.facts
  have S:=a6.low hg
  rw [qi 54 c54]
  rcases hc with ⟨c0,rfl,rfl⟩ | ⟨c0,c1,rfl,rfl⟩ | ⟨c0,c1,x1⟩
  ·simp only [sA.1,c54,seval,M,J,B,hR,hb,bd,bs,bw,bl,Ld,Ls,Lw,o7,o8,o9,c0,vd,vl,vw,a8,d2,s2,w2,S,U]
  ·simp only [sA.1,c54,seval,M,J,B,hR,hb,bd,bs,bw,bl,Ld,Ls,Lw,o7,o8,o9,c0,c1,vd,vl,vw,a8,d2,s2,w2,S,U]
  ·simp only [sA.1,c54,seval,M,J,B,hR,hb,bd,bs,bw,bl,Ld,Ls,Lw,o7,o8,o9,c0,c1,x1,vd,vl,vw,a8,d2,s2,w2,S,U]
 ·obtain ⟨o7,o8,o9,a7⟩:=ah hop
  rw [o7,cond_false,o8,cond_false,o9,cond_false]
  cases l with
  | nil=>
   obtain ⟨v,ai,pp,cs,rfl,x2,x3,x4,x6⟩:=ad hop
   have k0:ilt 0 ((0:Nat):Int) = false:=Eq.trans rfl rfl
   have x7:∀i t,qo pp i t = t:=λi t=>by rw [<-x3];exact qH _ _ _
   refine ⟨_,?_,⟨cs,rfl,x6⟩⟩
   obtain ⟨k',n',s',l',L',e,rfl,d2,s2,w2,n2⟩:=x6.cells
   have S:L'.lower g.length = true:=by have:=x6.low hg;simp only [qr,Bool.and_eq_true] at this;exact this.2.2.2.1
   rw [qi 54 c54]
   rcases hc with ⟨c0,rfl,_⟩ | ⟨c0,c1,rfl,_⟩ | ⟨c0,c1,x1⟩
   ·simp only [sA.1,c54,seval,-Int.reduceNatCast',M,J,B,hR,hb,bd,bs,bw,bl,Ld,Ls,Lw,o7,o8,o9,c0,vd,vl,vw,k0,x2,x3,x4,x7,d2,s2,w2,S,U]
   ·simp only [sA.1,c54,seval,-Int.reduceNatCast',M,J,B,hR,hb,bd,bs,bw,bl,Ld,Ls,Lw,o7,o8,o9,c0,c1,vd,vl,vw,k0,x2,x3,x4,x7,d2,s2,w2,S,U]
   ·simp only [sA.1,c54,seval,-Int.reduceNatCast',M,J,B,hR,hb,bd,bs,bw,bl,Ld,Ls,Lw,o7,o8,o9,c0,c1,x1,vd,vl,vw,k0,x2,x3,x4,x7,d2,s2,w2,S,U]
  | cons v l=>
   have k0:ilt 0 ((l.length + 1:Nat):Int) = true:=by rw [qf];simp
   obtain ⟨pp,cs,x2,x3,x4,x5,x6⟩:=aa.item (i:=0) (by simp) hg
   have x2:qaW 4 LV (.int .i64 0) = some pp:=x2
   have x7:∀i t,qo pp i t = t:=λi t=>by rw [<-x3];exact qH _ _ _
   have x6:At H v cs:=x6
   obtain ⟨rs,ae,a1⟩:=qdR x6 ac
   refine ⟨rs,?_,a1⟩
   obtain ⟨k',n',s',l',L',e,rfl,a6⟩:=a1.cells
   obtain ⟨d2,s2,w2,n2⟩:=a6.facts
   have S:=a6.low hg
   rw [qi 54 c54]
   rcases hc with ⟨c0,rfl,e0⟩ | ⟨c0,c1,rfl,e0⟩ | ⟨c0,c1,x1⟩
   ·cases e0
   ·cases e0
   ·simp only [sA.1,c54,seval,M,J,B,hR,hb,bd,bs,bw,bl,Ld,Ls,Lw,o7,o8,o9,c0,c1,x1,vd,vl,vw,k0,x2,x3,x4,x7,ae,d2,s2,w2,S,U]
end
def qas (op:Int) (ins:List Int):Res->Int
 | (.mk k m _ _,e)=>bif !(e == 0) then -1 else bif !(k == 1) then -1 else bif op == 25 then (bif m == 1 then ins.getD 1 0 else ins.getD 2 0) else bif op == 23 then (bif m == 1 then ins.getD 1 0 else -1) else (bif m == 1 then -1 else ins.getD 1 0)
def qcF:Val->Int
 | .mk k _ _ _=>k
def qcv (op:Int) (ins:List Int) (ev:Int->Res):Res:=
 let r:=ev (ins.getD 0 0)
 bif !(r.2 == 0) then r else bif !(qcF r.1 == 1) then qbk 1 else
 bif ilt (qas op ins r) 0 then r else
 bif ((ev (qas op ins r)).2 == 0 && !(op == 25)) && !(qcF (ev (qas op ins r)).1 == 1) then qbk 1 else ev (qas op ins r)
def qcB (dn:Int->Bool) (ev:Int->Res):List Int->Int
 | []=>-1
 | j :: js=>bif !(dn j) then j else bif !((ev j).2 == 0) then -1 else qcB dn ev js
def qoc (op:Int):Bool:=op == 23 || (op == 24 || op == 25)
def qds (op:Int) (ins:List Int) (dn:Int->Bool) (ev:Int->Res):Int:=
 bif qoc op then (bif !(dn (ins.getD 0 0)) then ins.getD 0 0 else bif ile 0 (qas op ins (ev (ins.getD 0 0))) && !(dn (qas op ins (ev (ins.getD 0 0)))) then qas op ins (ev (ins.getD 0 0)) else -1)
 else qcB dn ev ins
def Cho (op:Int) (ins:List Int):Prop:=(op = 25/\∃a b c,ins = [a,b,c])\/(op = 23/\∃a b,ins = [a,b])\/(op = 24/\∃a b,ins = [a,b])
section
variable {g:List qb} {H:Nat->Option qb}
abbrev cI (n:Int):qa:=.int .i64 n
theorem qjz (R:qa) (op n:Int) (nm sb:Str) (pl:Int) (B:Nat) (ins:List Int) (hc:Cho op ins) (hlt:B < g.length) (hi:g[B]? = some (.cells (ins.map cI))) (k m:Int) (s:Str) (L:qa) (e:Int) (J:L.dim = L) (I:L.storable = true) (l:List Val) (E:R.dim = R) :
  Wd (.fn 48 [] []) [R,.agg [.int .i64 op,.int .i64 n,.str nm,.str sb,.int .i64 pl,.sl B 0 ins.length ins.length 1],.agg [.int .i64 k,.int .i64 m,.str s,L,.int .i64 e]] g = some (.ret (.int .i64 (qas op ins (.mk k m s l,e))),g,false):=by
 rw [qi 48 c48]
 have m1:∀id n c w:Nat,1 < n->qaW 1 (.sl id 0 n c w) (.int .i64 1) = some (.ptr id 1):=λid n c w h=>qcC (i:=1) (k:=1) h
 have m2:∀id n c w:Nat,2 < n->qaW 1 (.sl id 0 n c w) (.int .i64 2) = some (.ptr id 2):=λid n c w h=>qcC (i:=2) (k:=1) h
 have d:∀id o n c w:Nat,(qa.sl id o n c w).dim = .sl id o n c w:=λ_ _ _ _ _=>rfl
 have st:∀id o n c w:Nat,(qa.sl id o n c w).storable = true:=λ_ _ _ _ _=>rfl
 unfold qas
 rcases hc with ⟨rfl,a,b,c,rfl⟩ | ⟨rfl,a,b,rfl⟩ | ⟨rfl,a,b,rfl⟩ <;>
  cases he:(e == 0) <;> cases hk:(k == 1) <;> cases hm:(m == 1) <;>
  simp only [sB.1,c48,seval,q8,J,I,E,he,hk,hm,hlt,hi,m1,m2,d,st,cond_true,cond_false,List.getD_cons_succ,List.getD_cons_zero,List.map_cons,List.map_nil,cI]
theorem qdq {op:Int} {ins:List Int} (hc:Cho op ins) (r:Res):qas op ins r = -1\/qas op ins r ∈ ins:=by
 obtain ⟨⟨k,m,s,l⟩,e⟩:=r
 unfold qas
 rcases hc with ⟨rfl,a,b,c,rfl⟩ | ⟨rfl,a,b,rfl⟩ | ⟨rfl,a,b,rfl⟩ <;> cases he:(e == 0) <;> cases hk:(k == 1) <;> cases hm:(m == 1) <;> simp [he,hk,hm]
def qcj (H:Nat->Option qb) (g:List qb) (D n:Nat) (dn:Int->Bool) (ev:Int->Res):Prop:=∃ds:List qa,D < g.length/\g[D]? = some (.cells ds)/\ds.length = n/\∀i:Nat,i < n->(dn i = false->ds[i]? = some .nilptr)/\(dn i = true->∃q rs,ds[i]? = some (.ptr q 0)/\H q = some (.cells rs)/\RAt H (ev i) rs)
theorem qcj.more {D n:Nat} {dn:Int->Bool} {ev:Int->Res} (h:qcj H g D n dn ev) (m:List qb):qcj H (g ++ m) D n dn ev:=by
 obtain ⟨ds,h0,h1,h2,h3⟩:=h
 exact ⟨ds,by simp;omega,by rw [ja h0];exact h1,h2,h3⟩
theorem qcj.mono {H':Nat->Option qb} {D n:Nat} {dn:Int->Bool} {ev:Int->Res} (h:qcj H g D n dn ev) (hs:Sub H H'):qcj H' g D n dn ev:=by
 obtain ⟨ds,h0,h1,h2,h3⟩:=h
 refine ⟨ds,h0,h1,h2,λi hi=>⟨(h3 i hi).1,λhd=>?_⟩⟩
 obtain ⟨q,rs,e,hq,hr⟩:=(h3 i hi).2 hd
 exact ⟨q,rs,e,hs _ _ hq,hr.mono hs⟩
theorem qoJ (R D N:Nat) (dn:Int->Bool) (ev:Int->Res) {TV VL BV OL:qa} {en ed:Int} (hR:R < g.length) (hb:g[R]? = some (.cells [TV,VL,BV,.int .i64 en,.int .i64 ed,OL,.sl D 0 N N 0])) (hg:Cov H g) (hD:qcj H g D N dn ev) (op n:Int) (nm sb:Str) (pl:Int) (B:Nat) (ins:List Int) (hc:Cho op ins) (hlt:B < g.length) (hi:g[B]? = some (.cells (ins.map cI))) (af:∀j ∈ ins,0 <= j/\j < N) (h0:dn (ins.getD 0 0) = true) (h1:0 <= qas op ins (ev (ins.getD 0 0))->dn (qas op ins (ev (ins.getD 0 0))) = true) :
  ∃rs,Wd (.fn 49 [] []) [.ptr R 0,.agg [.int .i64 op,.int .i64 n,.str nm,.str sb,.int .i64 pl,.sl B 0 ins.length ins.length 1]] g = some (.ret (.agg rs),g,false)/\RAt H (qcv op ins ev) rs:=by
 have ww:∀e h,Wd (.fn 55 [] []) [.int .i64 e] h = some (.ret (rI 0 e),h,false):=λe h=>qaP e
 have d:∀id o n c w:Nat,(qa.sl id o n c w).dim = .sl id o n c w:=λ_ _ _ _ _=>rfl
 have st:∀id o n c w:Nat,(qa.sl id o n c w).storable = true:=λ_ _ _ _ _=>rfl
 have a1:Nat.ble g.length (g.length + 1) = true:=qe zo
 have U:Nat.ble g.length (g.length + 2) = true:=qe zo
 have S:Nat.ble g.length (g.length + 3) = true:=qe zo
 obtain ⟨ds,D0,D1,D2,D3⟩:=hD
 obtain ⟨i0,aj,ah,J⟩ :∃i:Nat,ins.getD 0 0 = (i:Int)/\i < N/\(ins.map cI)[0]? = some (cI (i:Int)):=by
  rcases hc with ⟨_,a,b,c,rfl⟩ | ⟨_,a,b,rfl⟩ | ⟨_,a,b,rfl⟩ <;>
  ·have:=af a (by simp)
   refine ⟨a.toNat,?_,zo,?_⟩
   ·simp;omega
   ·simp only [List.map_cons,List.getElem?_cons_zero,cI]
    rw [Int.toNat_of_nonneg this.1]
 have ap:0 < ins.length:=by rcases hc with ⟨_,a,b,c,rfl⟩ | ⟨_,a,b,rfl⟩ | ⟨_,a,b,rfl⟩ <;> simp
 have m0:qaW 1 (.sl B 0 ins.length ins.length 1) (.int .i64 0) = some (.ptr B 0):=qcC (i:=0) (k:=1) ap
 have mD:∀i:Nat,i < N->qaW 1 (.sl D 0 N N 0) (.int .i64 (i:Nat)) = some (.ptr D i):=λi h=>by rw [qcC h,Nat.mul_one]
 have M:=mD i0 ah
 rw [aj] at h0
 obtain ⟨q0,aE,e0,ae,a8⟩:=(D3 i0 ah).2 h0
 have E:=hg.lt ae
 have I:=hg _ _ ae
 rw [qcv]
 simp only [aj] at h1 ⊢
 generalize aF:ev i0 = r0 at *
 obtain ⟨v0,x0⟩:=r0
 obtain ⟨k,m,s,l,L,hv,rfl,hL⟩:=a8.cells
 obtain ⟨Ld,Ls,Lw,Ll⟩:=hL.facts
 have a6:=hL.low hg
 simp only at hv
 subst hv
 have a7:=qjz (g:=g ++ [.cells [.int .i64 op,.int .i64 n,.str nm,.str sb,.int .i64 pl,.sl B 0 ins.length ins.length 1],zr5,.cells [.int .i64 k,.int .i64 m,.str s,L,.int .i64 x0]]) (.ptr R 0) op n nm sb pl B ins hc (by simp;omega) (by rw [ja hlt];exact hi) k m s L x0 Ld Ls l rfl
 generalize ab:qas op ins (.mk k m s l,x0) = sc at *
 cases c0:(x0 == 0) with
 | false=>
  simp only [c0,j3,cond_true]
  refine ⟨_,?_,a8⟩
  rw [qi 49 c49]
  simp only [sA.1,c49,seval,hR,hb,m0,hlt,hi,J,D0,D1,M,e0,E,I,Ld,Ls,Lw,a6,d,st,c0,ww,rI,a1,U,S,jO,cI]
 | true=>
  cases c1:(k == 1) with
  | false=>
   simp only [c0,c1,qcF,j0,j3,cond_true,cond_false]
   refine ⟨_,?_,RAt.wrong H 1⟩
   rw [qi 49 c49]
   simp only [sA.1,c49,seval,hR,hb,m0,hlt,hi,J,D0,D1,M,e0,E,I,Ld,Ls,Lw,a6,d,st,c0,c1,ww,rI,a1,U,S,jO,cI]
  | true=>
   cases c2:ilt sc 0 with
   | true=>
    simp only [c0,c1,c2,qcF,j0,j3,cond_true,cond_false]
    refine ⟨_,?_,a8⟩
    rw [qi 49 c49]
    simp only [sA.1,c49,seval,hR,hb,m0,hlt,hi,J,D0,D1,M,e0,E,I,Ld,Ls,Lw,a6,d,st,c0,c1,c2,a7,ww,rI,a1,U,S,jO,cI]
   | false=>
    have ay:0 <= sc:=by rw [qf] at c2;simpa using c2
    have av:=h1 ay
    have au:sc ∈ ins:=by
     rcases qdq hc (.mk k m s l,x0) with e | e
     ·rw [ab] at e;omega
     ·rwa [ab] at e
    obtain ⟨i1,rfl⟩ :∃i:Nat,sc = (i:Int):=⟨sc.toNat,zo⟩
    have ai:i1 < N:=by have:=af _ au;omega
    obtain ⟨q1,aD,e1,ad,ac⟩:=(D3 i1 ai).2 av
    have al:=hg.lt ad
    have am:=hg _ _ ad
    have ar:=mD i1 ai
    simp only [c0,c1,c2,qcF,j0,j3,cond_true,cond_false]
    generalize aC:ev i1 = r1 at *
    obtain ⟨v1,x1⟩:=r1
    obtain ⟨k1,m1,s1,l1,L1,aa,rfl,ak⟩:=ac.cells
    obtain ⟨aB,aA,az,aG⟩:=ak.facts
    have Llo1:=ak.low hg
    simp only at aa
    subst aa
    cases c3:(x1 == 0) <;> cases c4:(op == 25) <;> cases c5:(k1 == 1) <;>
     simp only [c3,c4,c5,qcF,j0,j3,cond_true,cond_false,jY,jQ,Bool.and_true,Bool.and_false] <;>
     refine ⟨_,?_,by first | exact ac | exact RAt.wrong H 1⟩ <;>
     rw [qi 49 c49] <;>
     simp only [sA.1,c49,seval,hR,hb,m0,hlt,hi,J,D0,D1,M,ar,e0,e1,E,I,al,am,Ld,Ls,Lw,a6,aB,aA,az,Llo1,d,st,c0,c1,c2,c3,c4,c5,a7,ww,rI,a1,U,S,jO,cI]
end
end Go.Proofs.YtnibchoenjmmjaaGreatDoor.AE
