/- A part of the proof: the abstract executor and what goes through it (part 24). No condition. -/
import Derived.Test.YtnlhdflceelacaaGreatDoorMq23
set_option maxRecDepth 100000
namespace Go.Proofs.YtnlhdflceelacaaGreatDoor.AE
open Go.AE
theorem qrN (s:Str) (hs:qsi s) (h:List qg):Wd (.fn 120 [] []) [.str s] h = some (.ret (.bool true),h,false):=by
 obtain ⟨g1,g2,hgood⟩:=hs
 have loop:∀k st,(∃tt i,st = ⟨tt,h,false⟩∧tt.length = 50∧lkp tt 0 = .str s∧lkp tt 15 = .int .i64 (s.length:Nat)∧lkp tt 16 = .int .i64 (i:Nat)∧i + k = s.length)→
   ∃x st',qy h.length Wd (.loop qfJ) st = some (x,st')∧(x = .exit 0∧∃tt,st' = ⟨tt,h,false⟩∧tt.length = 50):=by
  refine qK _ (fun x st'=>x = .exit 0∧∃tt,st' = ⟨tt,h,false⟩∧tt.length = 50) ?_
  rintro k st ⟨tt,i,rfl,ht,e0,e15,e16,hik⟩
  generalize he:qy h.length Wd qfJ _ = r
  rcases Nat.lt_or_ge i s.length with hi | hi
  ·have c1:ilt (i:Int) (s.length:Int) = true:=by rw [qr];simp;omega
   have hx:qgJ (.str s) (.int .i64 (i:Nat)) = some (.int .u8 (s[i].toNat:Nat)):=qjd (List.getElem?_eq_getElem hi)
   have w:=qP (n:=i) (by omega)
   have hz:((i:Int) == 0) = (i == 0):=by rw [Bool.eq_iff_iff];simp
   have hb:(!(ile 97 (s[i].toNat:Int) && ile (s[i].toNat:Int) 122) && (i == 0 || !(ile 48 (s[i].toNat:Int) && ile (s[i].toNat:Int) 57))) = false:=hgood i hi
   simp only [qfJ,sT.1,sC.1,qd,qc,Nat.testBit,simprocAttr,-Int.reduceNatCast',ht,e0,e15,e16,c1,hx,w,hz,hb] at he
   subst he
   refine .inl ⟨_,k - 1,rfl,by omega,_,i + 1,rfl,by simp only [qi,ht],?_,?_,?_,by omega⟩
   ·simp only [sT.1,sC.1,qd,qc,Nat.testBit,simprocAttr,-Int.reduceNatCast',ht,e0]
   ·simp only [sT.1,sC.1,qd,qc,Nat.testBit,simprocAttr,-Int.reduceNatCast',ht,e15]
   ·simp only [sT.1,sC.1,qd,qc,Nat.testBit,simprocAttr,-Int.reduceNatCast',ht]
  ·have c1:ilt (i:Int) (s.length:Int) = false:=by rw [qr];simp;omega
   simp only [qfJ,sT.1,sC.1,qd,qc,Nat.testBit,simprocAttr,-Int.reduceNatCast',ht,e0,e15,e16,c1] at he
   subst he
   exact .inr ⟨_,_,rfl,by simp,rfl,_,rfl,by simp only [qi,ht]⟩
 generalize hw:Wd _ _ h = w
 rw [qab rfl (show T.get 120 = some qxK by kernel_rfl)] at hw
 have d1:ilt (s.length:Int) 1 = false:=by rw [qr];simp;omega
 have d2:ilt 16 (s.length:Int) = false:=by rw [qr];simp;omega
 simp only [qxK,sT.1,sC.1,qd,qc,Nat.testBit,simprocAttr,-Int.reduceNatCast',d1,d2] at hw
 generalize hr:qy h.length Wd (.loop qfJ) _ = r at hw
 obtain ⟨x,st',rfl,rfl,tt,rfl,ht⟩:=qbU hr (loop s.length _ ⟨_,0,rfl,by simp only [sT.1,sC.1,qd,qc,Nat.testBit,simprocAttr,-Int.reduceNatCast'],by simp only [sT.1,sC.1,qd,qc,Nat.testBit,simprocAttr,-Int.reduceNatCast'],by simp only [sT.1,sC.1,qd,qc,Nat.testBit,simprocAttr,-Int.reduceNatCast'],by simp only [sT.1,sC.1,qd,qc,Nat.testBit,simprocAttr,-Int.reduceNatCast',Int.natCast_zero],by omega⟩)
 simp only [sT.1,sC.1,qd,qc,Nat.testBit,simprocAttr,-Int.reduceNatCast',ht] at hw
 exact hw.symm
def Cov (H:Nat→Option qg) (g:List qg):Prop:=∀i x,H i = some x→g[i]? = some x
theorem Cov.app {H:Nat→Option qg} {g m:List qg} (h:Cov H g):Cov H (g ++ m):=fun i x hx=>by
 have:=h i x hx
 rw [List.getElem?_append_left (List.getElem?_eq_some_iff.1 this).1,this]
def Yes (H:Nat→Option qg) (d:Nat) (cs:List qa):Prop:=∀g,Cov H g→Wd (.fn 106 [] []) [.agg cs,.int .i64 (d:Nat)] g = some (.ret (.bool true),g,false)
theorem qoM {H:Nat→Option qg} {d:Nat} (hd:d ≤ 3) {v:Val} {cs:List qa} (hv:VR H v cs) (hy:Yes H d cs) (g:List qg) (hg:Cov H g) (R:Nat) (hR:R < g.length) (hr:g[R]? = some (.cells [.int .i64 (d + 1:Nat)])) :
  Wd (.fn 174 [] [.ptr R 0]) [.agg cs] g = some (.ret (.bool true),g,false):=by
 have hy':=hy (g ++ [.cells cs]) hg.app
 obtain ⟨k,n,s,l,L,rfl,rfl,hLd,hLs,hLw,hLl⟩:=hv.cells
 have w1:IntKind.i64.wrap (((d + 1:Nat):Int) - 1) = ((d:Nat):Int):=by rw [qM (by omega) (by omega)];omega
 rw [qab rfl (show T.get 174 = some qxN by kernel_rfl)]
 simp only [qxN,sT.1,sC.1,qd,qc,Nat.testBit,simprocAttr,-Int.reduceNatCast',hLd,hLs,hLw,hR,hr,w1,hy']
set_option maxHeartbeats 1000000 in
theorem qqU {H:Nat→Option qg} {d:Nat} (hd:d ≤ 3) {l:List Val} {ess:List (List qa)} {id:Nat} (h1:1 ≤ l.length) (h4:l.length ≤ 4) (hH:H id = some (.cells ess.flatten)) (hel:ess.length = l.length)
  (hv:∀(i:Nat) (h:i < l.length) (h':i < ess.length),VR H l[i] ess[i]) (hy:∀e ∈ ess,Yes H d e) (h:List qg) (hg:Cov H h) (R:Nat) (hR:R < h.length) (hr:h[R]? = some (.cells [.int .i64 (d + 1:Nat)])) :
  Wd (.fn 173 [] []) [.sl id 0 l.length l.length 0,.fn 174 [] [.ptr R 0]] h = some (.ret (.bool true),h,false):=by
 obtain ⟨hk4,hcut⟩:=VR.elem hel hv
 have loop:∀k st,(∃(tt:List qa) (i:Nat) (junk:List qg),st = ⟨tt,h ++ junk,false⟩∧tt.length = 26∧lkp tt 1 = .fn 174 [] [.ptr R 0]∧lkp tt 15 = .sl id 0 l.length l.length 0∧lkp tt 16 = .int .i64 (l.length:Nat)∧lkp tt 17 = .int .i64 (i:Nat)∧i + k = l.length)→
   ∃x st',qy h.length Wd (.loop qfK) st = some (x,st')∧(x = .exit 0∧∃(tt:List qa) (junk:List qg),st' = ⟨tt,h ++ junk,false⟩∧tt.length = 26):=by
  refine qK _ (fun x st'=>x = .exit 0∧∃(tt:List qa) (junk:List qg),st' = ⟨tt,h ++ junk,false⟩∧tt.length = 26) ?_
  rintro k st ⟨tt,i,junk,rfl,ht,e1,e15,e16,e17,hik⟩
  generalize he:qy h.length Wd qfK _ = r
  rcases Nat.lt_or_ge i l.length with hi | hi
  ·have c1:ilt (i:Int) (l.length:Int) = true:=by rw [qr];simp;omega
   have w:=qP (n:=i) (by omega)
   have hi':i < ess.length:=by omega
   have hvi:=hv i hi hi'
   have hyi:=hy _ (List.getElem_mem hi')
   have hci:=hcut i hi'
   generalize ess[i] = cs at hvi hyi hci
   have hx:qbr 4 (.sl id 0 l.length l.length 0) (.int .i64 (i:Nat)) = some (.ptr id (i * 4)):=qb4 hi
   have hid:(h ++ junk)[id]? = some (.cells ess.flatten):=hg.app id _ hH
   have h1':=qoM hd hvi hyi (h ++ (junk ++ [.cells cs])) hg.app R (by simp;omega) (by rw [List.getElem?_append_left hR,hr])
   obtain ⟨K,N,S,zs,L,hL,hcs,hLd,hLs,hLw,_⟩:=hvi.cells
   subst hcs
   have hlen:(h ++ junk).length = h.length + junk.length:=by simp
   have hb1:Nat.ble h.length (h.length + junk.length) = true:=qcb (by omega)
   simp only [qfK,sT.1,sC.1,qd,qc,Nat.testBit,simprocAttr,-Int.reduceNatCast',ht,e1,e15,e16,e17,c1,w,hx,hid,hlen,hb1,hci,hLd,hLs,hLw,h1',qA,qo,Bool.true_or,List.append_assoc] at he
   subst he
   refine .inl ⟨_,k - 1,rfl,by omega,_,i + 1,junk ++ [.cells [.int .i64 K,.int .i64 N,.str S,L]],rfl,by simp only [qi,ht],?_,?_,?_,?_,by omega⟩
   ·simp only [sT.1,sC.1,qd,qc,Nat.testBit,simprocAttr,-Int.reduceNatCast',ht,e1]
   ·simp only [sT.1,sC.1,qd,qc,Nat.testBit,simprocAttr,-Int.reduceNatCast',ht,e15]
   ·simp only [sT.1,sC.1,qd,qc,Nat.testBit,simprocAttr,-Int.reduceNatCast',ht,e16]
   ·simp only [sT.1,sC.1,qd,qc,Nat.testBit,simprocAttr,-Int.reduceNatCast',ht]
  ·have c1:ilt (i:Int) (l.length:Int) = false:=by rw [qr];simp;omega
   simp only [qfK,sT.1,sC.1,qd,qc,Nat.testBit,simprocAttr,-Int.reduceNatCast',ht,e16,e17,c1] at he
   subst he
   exact .inr ⟨_,_,rfl,by simp,rfl,_,junk,rfl,by simp only [qi,ht]⟩
 generalize hw:Wd _ _ h = w
 rw [qab rfl (show T.get 173 = some qxM by kernel_rfl)] at hw
 have d1:ilt (l.length:Int) 1 = false:=by rw [qr];simp;omega
 have d2:ilt 4 (l.length:Int) = false:=by rw [qr];simp;omega
 simp only [qxM,sT.1,sC.1,qd,qc,Nat.testBit,simprocAttr,-Int.reduceNatCast',qit,qA,qo,d1,d2] at hw
 generalize hr:qy h.length Wd (.loop qfK) _ = r at hw
 obtain ⟨x,st',rfl,rfl,tt,junk,rfl,ht⟩:=qbU hr (loop l.length _ ⟨_,0,[],by rw [List.append_nil],by simp only [sT.1,sC.1,qd,qc,Nat.testBit,simprocAttr,-Int.reduceNatCast'],by simp only [sT.1,sC.1,qd,qc,Nat.testBit,simprocAttr,-Int.reduceNatCast'],by simp only [sT.1,sC.1,qd,qc,Nat.testBit,simprocAttr,-Int.reduceNatCast'],by simp only [sT.1,sC.1,qd,qc,Nat.testBit,simprocAttr,-Int.reduceNatCast'],by simp only [sT.1,sC.1,qd,qc,Nat.testBit,simprocAttr,-Int.reduceNatCast',Int.natCast_zero],by omega⟩)
 simp only [sT.1,sC.1,qd,qc,Nat.testBit,simprocAttr,-Int.reduceNatCast',ht] at hw
 exact hw.symm
theorem qhC {H:Nat→Option qg} {d:Nat} {k n:Int} {s:Str} {l:List Val} {cs:List qa} (h0:qln k n s l) (hv:VR H (.mk k n s l) cs):Yes H d cs:=by
 intro g hg
 have hl:l = []:=by rcases h0 with ⟨_,_,h⟩ | ⟨_,_,h,_⟩ | ⟨_,_,_,h⟩ <;> exact h
 subst hl
 cases hv with
 | node _ _ _ _ _ _ hn=>exact absurd rfl hn
 | leaf=>
  have z:(((0:Nat):Int) == 0) = true:=by kernel_rfl
  have zl:([]:List qa).length = 0:=rfl
  have a00:((0:Int) == 0) = true:=by kernel_rfl
  have a10:((1:Int) == 0) = false:=by kernel_rfl
  have a11:((1:Int) == 1) = true:=by kernel_rfl
  have a01:((0:Int) == 1) = false:=by kernel_rfl
  have a20:((2:Int) == 0) = false:=by kernel_rfl
  have a21:((2:Int) == 1) = false:=by kernel_rfl
  have a22:((2:Int) == 2) = true:=by kernel_rfl
  have sn:(([]:Str) == []) = true:=by kernel_rfl
  rw [qab rfl (show T.get 106 = some qrT by kernel_rfl)]
  rcases h0 with ⟨rfl,rfl,_⟩ | ⟨rfl,rfl,_,n0,n1⟩ | ⟨rfl,hs,rfl,_⟩
  ·simp only [qrT,sT.1,sC.1,qd,qc,Nat.testBit,simprocAttr,-Int.reduceNatCast',zl,z,a00,sn]
  ·have hn:n = 0∨n = 1:=by omega
   rcases hn with rfl | rfl <;> simp only [qrT,sT.1,sC.1,qd,qc,Nat.testBit,simprocAttr,-Int.reduceNatCast',zl,z,a00,a10,a11,a01,sn,Bool.or_true,Bool.true_or]
  ·have hnm:=fun g=>qrN s hs g
   simp only [qrT,sT.1,sC.1,qd,qc,Nat.testBit,simprocAttr,-Int.reduceNatCast',zl,z,a00,a20,a21,a22,sn,hnm]
theorem qq8 (t:List qa) (f:FuncId) (a b:List ql):pureV t (.mkF f a b) = some (.fn f (a.map (ev t)) (b.map (ev t))):=rfl
set_option maxHeartbeats 1000000 in
theorem qrt:∀d,d ≤ 3→∀{H:Nat→Option qg} {v:Val} {cs:List qa},OK d v→VR H v cs→Yes H d cs:=by
 intro d
 induction d with
 | zero=>
  rintro _ H ⟨k,n,s,l⟩ cs h0 hv
  exact qhC h0 hv
 | succ d ih=>
  rintro hd H ⟨k,n,s,l⟩ cs h0 hv
  rcases h0 with h0 | ⟨rfl,rfl,rfl,h1,h4,hall⟩
  ·exact qhC h0 hv
  ·cases hv with
   | leaf=>simp at h1
   | node _ _ _ _ id ess hne hH hel hvr=>
    intro g hg
    have a00:((0:Int) == 0) = true:=by kernel_rfl
    have a30:((3:Int) == 0) = false:=by kernel_rfl
    have a31:((3:Int) == 1) = false:=by kernel_rfl
    have a32:((3:Int) == 2) = false:=by kernel_rfl
    have a33:((3:Int) == 3) = true:=by kernel_rfl
    have sn:(([]:Str) == []) = true:=by kernel_rfl
    have c1:ilt 0 ((d + 1:Nat):Int) = true:=by rw [qr];simp
    have hy:∀e ∈ ess,Yes H d e:=fun e he=>by
     obtain ⟨i,hi,rfl⟩:=List.getElem_of_mem he
     exact ih (by omega) (hall _ (List.getElem_mem (show i < l.length by omega))) (hvr i (by omega) hi)
    have hit:=qqU (d:=d) (by omega) h1 h4 hH hel hvr hy (g ++ [.cells [.int .i64 3,.int .i64 0,.str [],.sl id 0 l.length l.length 0],.cells [.int .i64 (d + 1:Nat)]]) hg.app (g.length + 1) (by simp) (by rw [qbh];rfl)
    have htk:(g ++ [qg.cells [.int .i64 3,.int .i64 0,.str [],.sl id 0 l.length l.length 0],.cells [.int .i64 (d + 1:Nat)]]).take g.length = g:=by simp
    rw [qab rfl (show T.get 106 = some qrT by kernel_rfl)]
    simp only [qrT,sT.1,sC.1,qd,qc,Nat.testBit,simprocAttr,-Int.reduceNatCast',a00,a30,a31,a32,a33,sn,c1,hit,qA,qo,qo3,qq8,qdj,qbh]
theorem qiZ {H:Nat→Option qg} {v:Val} {cs:List qa} (h0:OK 3 v) (hv:VR H v cs) (g:List qg) (hg:Cov H g):Wd (.fn 56 [] []) [.agg cs] g = some (.ret (.bool true),g,false):=by
 have h:=qrt 3 (by omega) h0 hv (g ++ [.cells cs]) hg.app
 have c3:((3:Nat):Int) = 3:=by kernel_rfl
 rw [c3] at h
 obtain ⟨k,n,s,l,L,rfl,rfl,hLd,hLs,hLw,hLl⟩:=hv.cells
 rw [qab rfl (show T.get 56 = some c56 by kernel_rfl)]
 simp only [c56,sT.1,sC.1,qd,qc,Nat.testBit,simprocAttr,-Int.reduceNatCast',hLd,hLs,hLw,h]
end Go.Proofs.YtnlhdflceelacaaGreatDoor.AE
