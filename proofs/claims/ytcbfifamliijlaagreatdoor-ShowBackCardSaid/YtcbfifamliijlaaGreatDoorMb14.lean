/- A part of the proof. No condition. -/
import Derived.Test.YtcbfifamliijlaaGreatDoorMb13
open Int renaming reduceNatCast'→rN
set_option maxRecDepth 100000
set_option maxHeartbeats 0
open List renaming getElem?_append_left→ja,getElem?_set_ne→jf,getElem?_set_self→jg,length_append→ji,length_map→jQ,append_assoc→jp,append_nil→jF,nil_append→jW,cons_append→jw,length_cons→jy,length_nil→jz,all_cons→jB
open Nat renaming add_assoc→jt
namespace Go.Proofs.YtcbfifamliijlaaGreatDoor.AE
open Go.AE
def qbo.k (x:qbo):List PT:=bif x.kind == 0 then nm0 [97,100,100] :: qaw.k ⟨x.name,x.model⟩ else bif x.kind == 1 then [nm0 [100,114,111,112],nm0 x.name,mk3 [59]] else nm0 (bif x.kind == 2 then [116,105,101] else [99,117,116]) :: x.link.k
def qh3:qad:=⟨⟨[],[]⟩,⟨[],[]⟩⟩
def qbo.good (x:qbo):Prop:=(x.kind = 0/\qy x.name = true/\qy x.model = true/\x.link = qh3)\/(x.kind = 1/\qy x.name = true/\x.model = []/\x.link = qh3)\/((x.kind = 2\/x.kind = 3)/\x.name = []/\x.model = []/\x.link.good)
def qam.good (x:qam):Prop:=qy x.name = true/\right 20 x.e = true
def qab.good (x:qab):Prop:=qy x.port = true/\right 20 x.e = true/\x.ifs.length <= 1/\∀e ∈ x.ifs,right 20 e = true
def qaw.good (x:qaw):Prop:=qy x.name = true/\qy x.model = true
def qN.good (x:qN):Prop:=qy x.name = true/\tyB 3 x.t = true
def qQ.good (x:qQ):Prop:=right 20 x.e = true/\x.acts.length <= 5/\∀a ∈ x.acts,a.good
def qbq {D:Type} (kw:D->List PT) (l:List D):List PT:=mk3 [123] :: ((l.map kw).flatten ++ [mk3 [125]])
def qQ.k (x:qQ):List PT:=tk 20 x.e ++ qbq qbo.k x.acts
def qQ.pe (x:qQ):qd:=.agg (x.e.cv.cs φP ++ [.lst (x.acts.map qbo.enc) (fl x.acts.isEmpty)])
def qN.k (x:qN):List PT:=nm0 x.name :: mk3 [58] :: (tyk 3 x.t ++ [mk3 [59]])
def qN.pe (x:qN):qd:=.agg (.str x.name :: x.t.cv.cs)
section
variable {ws:List Tok} {n:Nat} {r:List PT}
theorem qsP {x:qad} (hw:WF ws) (g:x.good) (hs:See ws n (x.k ++ r)):PY ws 139 n x.enc (n + x.k.length)/\n + x.k.length < ws.length:=⟨(qsQ hw g n r hs).2,(qsQ hw g n r hs).1⟩
theorem qEI (hw:WF ws) {x:qbo} (g:x.good):Rd ws 176 x.enc x.k:=by
 intro n r hs
 obtain ⟨kd,nm,md,ln⟩:=x
 rcases g with ⟨g0,g1,g2,g3⟩ | ⟨g0,g1,g2,g3⟩ | ⟨g0,g1,g2,g3⟩
 ·simp only at g0 g1 g2 g3
  subst g0 g3
  have hs:See ws n (nm0 [97,100,100] :: (qaw.k ⟨nm,md⟩ ++ r)):=hs
  obtain ⟨k0,s0,h0⟩:=qcY hw [97,100,100] rfl hs
  obtain ⟨h1,k1⟩:=qyv hw (x:=⟨nm,md⟩) g1 g2 (n + 1) r s0
  rw [show n + (qbo.k ⟨0,nm,md,qh3⟩).length = n + 1 + (qaw.k ⟨nm,md⟩).length by simp [qbo.k];omega]
  refine ⟨h1,λh i hi=>?_⟩
  have E:=qo hi
  rw [ql 176 quO]
  simp only [quO,sT.1,sC.1,qe,seval,-rN,qJ,qaw.enc,qbo.enc,qh3,hi,E,k0,k1]
 ·simp only at g0 g1 g2 g3
  subst g0 g2 g3
  have hs:See ws n (nm0 [100,114,111,112] :: nm0 nm :: mk3 [59] :: r):=hs
  have k0:=qaP hw [97,100,100] rfl hs
  obtain ⟨k1,s1,h1⟩:=qcY hw [100,114,111,112] rfl hs
  obtain ⟨k2,s2,h2⟩:=qd6 hw g1 s1
  obtain ⟨k3,s3,h3⟩:=qaI hw [59] rfl s2
  rw [show n + (qbo.k ⟨1,nm,[],qh3⟩).length = n + 1 + 1 + 1 by rfl]
  refine ⟨h3,λh i hi=>?_⟩
  have E:=qo hi
  rw [ql 176 quO]
  simp only [quO,sT.1,sC.1,qe,seval,-rN,qbo.enc,qh3,hi,E,k0,k1,k2,k3]
 ·simp only at g0 g1 g2 g3
  subst g1 g2
  rcases g0 with rfl | rfl
  ·have hs:See ws n (nm0 [116,105,101] :: (ln.k ++ r)):=hs
   have k0:=qaP hw [97,100,100] rfl hs
   have k1:=qaP hw [100,114,111,112] rfl hs
   obtain ⟨k2,s2,h2⟩:=qcY hw [116,105,101] rfl hs
   obtain ⟨k3,h3⟩:=qsP hw g3 s2
   rw [show n + (qbo.k ⟨2,[],[],ln⟩).length = n + 1 + ln.k.length by simp [qbo.k];omega]
   refine ⟨h3,λh i hi=>?_⟩
   have E:=qo hi
   rw [ql 176 quO]
   simp only [quO,sT.1,sC.1,qe,seval,-rN,qbo.enc,qad.enc,hi,E,k0,k1,k2,k3]
  ·have hs:See ws n (nm0 [99,117,116] :: (ln.k ++ r)):=hs
   have k0:=qaP hw [97,100,100] rfl hs
   have k1:=qaP hw [100,114,111,112] rfl hs
   have k2:=qaP hw [116,105,101] rfl hs
   obtain ⟨k4,s4,h4⟩:=qaI hw [99,117,116] rfl hs
   obtain ⟨k3,h3⟩:=qsP hw g3 s4
   rw [show n + (qbo.k ⟨3,[],[],ln⟩).length = n + 1 + ln.k.length by simp [qbo.k];omega]
   refine ⟨h3,λh i hi=>?_⟩
   have E:=qo hi
   rw [ql 176 quO]
   simp only [quO,sT.1,sC.1,qe,seval,-rN,qbo.enc,qad.enc,hi,E,k0,k1,k2,k3,k4]
def qyP (ws:List Tok) (n:Nat):Bool:=isW ws n [97,100,100] || isW ws n [100,114,111,112] || isW ws n [116,105,101] || isW ws n [99,117,116]
theorem qqk (hw:WF ws) {h:List qh} {i:Nat} (hn:n < ws.length) (hi:h[i]? = some (PB ws n)):Wd (.fn 175 [] []) [.ptr i 0] h = some (.ret (.bool (qyP ws n)),h,false):=by
 rw [ql 175 qB2]
 cases a:isW ws n [97,100,100] <;> cases b:isW ws n [100,114,111,112] <;> cases c:isW ws n [116,105,101] <;> simp only [qB2,sT.1,sC.1,qe,qw,seval,-rN,qgs hw hn hi,qyP,a,b,c]
theorem qmZ (d:qbo):qjk 7 d.enc:=⟨_,rfl,rfl,by simp [qd.storable],λn=>by simp [qv,qd.lower],rfl⟩
theorem qk4 (d:qaw):qjk 2 d.enc:=⟨_,rfl,rfl,by simp [qd.storable],λn=>by simp [qv,qd.lower],rfl⟩
theorem qkQ (d:qad):qjk 4 d.enc:=⟨_,rfl,rfl,by simp [qd.storable],λn=>by simp [qv,qd.lower],rfl⟩
theorem qzI (e:Exp) (n:Nat):qv n (e.cs φP) = true:=by cases e;simp [Exp.cs,qv,qd.lower,qbl]
theorem qj0 (d:qam):qjk 6 d.pe:=by
 rw [qam.pe]
 generalize d.e.cv = e
 obtain ⟨o,c,u,v,y⟩:=e
 exact ⟨_,rfl,rfl,by simp [qd.storable,Exp.cs],λn=>by simp [qv,qd.lower,Exp.cs,qbl],by simp only [Exp.cs,List.map_cons,List.map_nil,qa9];rfl⟩
theorem qk5 (d:qN):qjk 3 d.pe:=by
 rw [qN.pe]
 generalize d.t.cv = t
 obtain ⟨a,b,e,h1,h2,h3,h4⟩:=qcg t
 have hl:=λn=>qgk n t
 rw [e] at hl ⊢
 exact ⟨_,rfl,rfl,by rw [jB,jB,jB,h3,h4];rfl,λn=>by have:=hl n;simp [qv,qd.lower] at this ⊢;exact this,by simp only [List.map_cons,List.map_nil,h1,h2];rfl⟩
theorem qhc (n:Nat):∀es:List Exl,qv n (es.map λe=>e.cv.enc φP) = true
 | []=>rfl
 | e :: es=>by rw [List.map_cons,qv,qhc n es,Exp.enc,qd.lower,qzI];rfl
theorem qkx (d:qab):qjk 7 d.pe:=by
 rw [qab.pe]
 generalize d.e.cv = e
 have hl:=λn=>qhc n d.ifs
 generalize (d.ifs.map λe=>e.cv.enc φP) = l at *
 obtain ⟨o,c,u,v,y⟩:=e
 exact ⟨_,rfl,rfl,by simp [qd.storable,Exp.cs],λn=>by simp [qv,qd.lower,Exp.cs,qbl,hl],by simp only [Exp.cs,jw,jW,List.map_cons,List.map_nil,qa9];rfl⟩
theorem qeA {D:Type} {k:Nat} {enc:D->qd} (h:∀d,qjk k (enc d)) (ds:List D):∀v ∈ ds.map enc,qjk k v:=λv hv=>by
 obtain ⟨d,_,rfl⟩:=List.mem_map.1 hv
 exact h d
theorem qjm (k:Nat) (ds:List qbo):qv k (ds.map qbo.enc) = true:=qbJ (qeA qmZ ds) k
theorem qbC (k:Nat) (ds:List qam):qv k (ds.map qam.pe) = true:=qbJ (qeA qj0 ds) k
theorem qld (d:qQ):qjk 6 d.pe:=by
 rw [qQ.pe]
 generalize d.e.cv = e
 have hl:=λn=>qjm n d.acts
 generalize d.acts.map qbo.enc = l at *
 generalize d.acts.isEmpty = b
 obtain ⟨o,c,u,v,y⟩:=e
 exact ⟨_,rfl,rfl,by simp [qd.storable,Exp.cs],λn=>by simp [qv,qd.lower,Exp.cs,qbl,hl],by simp only [Exp.cs,jw,jW,List.map_cons,List.map_nil,qa9];rfl⟩
theorem qhV {D E:Type} (f:D->E) (l:List D):(l.map f).isEmpty = l.isEmpty:=by cases l <;> rfl
theorem qBO (hw:WF ws) {l:List qbo} (hl:l.length <= 5) (hg:∀a ∈ l,a.good) (hs:See ws n ((l.map qbo.k).flatten ++ mk3 [125] :: r)):(∀(h:List qh) (i:Nat),h[i]? = some (PB ws n)->Wd (.fn 174 [] []) [.ptr i 0,.int .i64 5,.fn 175 [.ptr i 0] [],.fn 176 [.ptr i 0] []] h = some (.ret (.lst (l.map qbo.enc) (fl l.isEmpty)),h.set i (PB ws (n + (l.map qbo.k).flatten.length)),false))/\See ws (n + (l.map qbo.k).flatten.length) (mk3 [125] :: r):=by
 have s9:=hs.app.2
 refine ⟨λh i hi=>?_,s9⟩
 have E:qyP ws (n + (l.map qbo.k).flatten.length) = false:=by simp only [qyP,s9.is];rfl
 have hc:=qqN (One:=qyF ws (ι:=Nat) (λi=>i) 7 (λi=>.fn 176 [.ptr i 0] []) (λ_ _=>True) (qyP ws)) (enc:=qbo.enc) l n (mk3 [125] :: r) (λd hd n r hs=>by
  have g:=hg d hd
  have hb:qyP ws n = true/\n < ws.length:=by
   rcases g with ⟨g0,_⟩ | ⟨g0,_⟩ | ⟨g0 | g0,_⟩ <;> (simp only [qbo.k,g0] at hs;exact ⟨by simp only [qyP,See.is hs];rfl,hs.head.1⟩)
  exact ⟨hb.2,hb.1,qmZ d,λi h _ hi=>by rw [qeO];exact (qEI hw g n r hs).2 h i hi⟩) hs
 have:=qnB (F:=174) (k:=7) (z:=[.int .i64 0,.str [],.str [],.str [],.str [],.str [],.str []]) (most:=5) (fb:=175) (fa:=λi=>[.ptr i 0]) (fc:=λ_=>[]) (ob:=λi=>[.ptr i 0]) (oc:=λ_=>[]) rfl zk (by decide) rfl (by decide) (by decide) (λ_ _ _ _=>trivial) (λm i h hm _ hi=>by rw [qeO];exact qqk hw hm hi) hc s9.head.1 E (by simpa using hl) i h trivial hi
 rwa [qhV] at this
theorem qDE (hw:WF ws) {x:qQ} (g:x.good):Rd ws 141 x.pe x.k:=by
 intro n r hs
 obtain ⟨g1,g2,g3⟩:=g
 simp only [qQ.k,qbq,jw,jW,jp] at hs
 obtain ⟨k0,s0,h0⟩:=qiG hw g1 rfl hs
 obtain ⟨k1,s1,h1⟩:=qaI hw [123] rfl s0
 obtain ⟨k2,s2⟩:=qBO hw g2 g3 s1
 obtain ⟨k3,s3,h3⟩:=qaI hw [125] rfl s2
 rw [show n + x.k.length = n + (tk 20 x.e).length + 1 + (x.acts.map qbo.k).flatten.length + 1 by simp only [qQ.k,qbq,ji,jy,jz];omega]
 refine ⟨h3,λh i hi=>?_⟩
 have E:=qo hi
 have I:=qjm h.length x.acts
 rw [ql 141 qEe]
 rw [qQ.pe]
 generalize x.e.cv = y at *
 obtain ⟨o,c,u,v,z⟩:=y
 simp only [qEe,sT.1,sC.1,qe,seval,-rN,Nd.enc,Nd.cs,Exp.cs,qbl,qa9,qbZ,qjm,hi,E,k0,k1,k2,k3]
theorem quc (hw:WF ws) {l:List qam} (hl:l.length <= 10) (hg:∀a ∈ l,a.good) (hs:See ws n (qbq qam.k l ++ r)):PY ws 146 n (.lst (l.map qam.pe) (fl l.isEmpty)) (n + (qbq qam.k l).length)/\See ws (n + (qbq qam.k l).length) r/\n + (qbq qam.k l).length < ws.length:=by
 have s8:=hs.app.2
 simp only [qbq,jw,jW,jp] at hs
 obtain ⟨k1,s1,h1⟩:=qaI hw [123] rfl hs
 have s9:=s1.app.2
 obtain ⟨k3,s3,h3⟩:=qaI hw [125] rfl s9
 have e:n + (qbq qam.k l).length = n + 1 + (l.map qam.k).flatten.length + 1:=by simp only [qbq,ji,jy,jz];omega
 rw [e] at s8 ⊢
 refine ⟨λh i hi=>?_,s8,h3⟩
 have Y:qaT ws (n + 1 + (l.map qam.k).flatten.length) = false:=by rw [s9.named];rfl
 have hc:=qqN (One:=qyF ws (ι:=Nat) (λi=>i) 6 (λi=>.fn 143 [.ptr i 0] []) (λ_ _=>True) (qaT ws)) (enc:=qam.pe) l (n + 1) (mk3 [125] :: r) (λd hd n r hs=>by
  have g:=hg d hd
  have E:=hs
  simp only [qam.k,jw] at E
  exact ⟨E.head.1,by rw [E.named];exact g.1,qj0 d,λi h _ hi=>by rw [qeO];exact (qDH hw g.1 g.2 n r hs).2 h i hi⟩) s1
 have k2:=λ(h:List qh) (i:Nat) (hi:h[i]? = some (PB ws (n + 1)))=>qnB (F:=177) (k:=6) (z:=[.str [],.int .i64 0,.int .i64 0,.str [],.str [],.lst [] .full]) (most:=10) (fb:=96) (fa:=λi=>[.ptr i 0]) (fc:=λ_=>[]) (ob:=λi=>[.ptr i 0]) (oc:=λ_=>[]) rfl zk (by decide) rfl (by decide) (by decide) (λ_ _ _ _=>trivial) (λm i h hm _ hi=>by rw [qeO];exact qR hw hm hi) hc s9.head.1 Y (by simpa using hl) i h trivial hi
 simp only [qhV] at k2
 have U:=qo hi
 have I:((10:Nat):Int) = 10:=rfl
 rw [I] at k2
 rw [ql 146 qEf]
 simp only [qEf,sT.1,sC.1,qe,seval,-rN,qa9,qbZ,qbC,hi,U,k1,k2,k3]
theorem qDv (hw:WF ws) {x:qN} (g:x.good):Rd ws 92 x.pe x.k:=by
 intro n r hs
 obtain ⟨g1,g2⟩:=g
 simp only [qN.k,jw,jW,jp] at hs
 obtain ⟨k0,s0,h0⟩:=qd6 hw g1 hs
 obtain ⟨k1,s1,h1⟩:=qaI hw [58] rfl s0
 obtain ⟨k2,s2,h2⟩:=(qyB hw 3 x.t zo g2).st s1
 obtain ⟨k3,s3,h3⟩:=qaI hw [59] rfl s2
 have t4:(4:Int) - ((3:Nat):Int) = 1:=rfl
 rw [t4] at k2
 rw [show n + x.k.length = n + 1 + 1 + (tyk 3 x.t).length + 1 by simp only [qN.k,ji,jy,jz];omega]
 refine ⟨h3,λh i hi=>?_⟩
 have U:=qo hi
 have I:=qgk h.length x.t.cv
 rw [qN.pe]
 generalize x.t.cv = t at *
 obtain ⟨a,b,e,d1,d2,d3,d4⟩:=qcg t
 have E:=λn=>qgk n t
 rw [e] at I E k2 ⊢
 rw [ql 92 c92]
 simp only [qv,Bool.and_eq_true] at I E
 simp only [c92,sT.1,sC.1,qe,seval,-rN,d1,d2,d3,d4,I.1,I.2.1,(E _).1,(E _).2.1,hi,U,k0,k1,k2,k3]
end
def kwl {D:Type} (first:Str) (kw:D->List PT) (l:List D):List PT:=(l.map (qdQ first kw)).flatten
theorem qf1 {D:Type} (first:Str) (kw:D->List PT) (l:List D) (t:PT) (r:List PT):∃t' r',kwl first kw l ++ t :: r = t' :: r'/\(t' = nm0 first\/t' = t):=by
 cases l with
 | nil=>exact ⟨_,_,rfl,.inr rfl⟩
 | cons d l=>exact ⟨nm0 first,_,rfl,.inl rfl⟩
theorem qBW {a b:Nat} (h:b < a):Nat.ble a b = false:=by
 cases e:Nat.ble a b with
 | false=>rfl
 | true=>have:=Nat.le_of_ble_eq_true e;omega
theorem two {h:List qh} {i r:Nat} {x y:qh} (hi:h[i]? = some x) (hr:h[r]? = some y) (E:i ≠ r):i < h.length/\r < h.length/\Nat.ble h.length r = false/\(∀a b,((h.set i a).set r b)[i]? = some a)/\(∀a b,((h.set i a).set r b)[r]? = some b)/\(∀a,(h.set i a)[r]? = some y)/\(∀a b c,((h.set i a).set r b).set i c = (h.set i c).set r b)/\(∀a b c,((h.set i a).set r b).set r c = (h.set i a).set r c)/\∀a,h.set i a = (h.set i a).set r y:=by
 have U:=qo hi
 have I:=qo hr
 refine ⟨U,I,qBW I,λa b=>by rw [jf (Ne.symm E),jg U],λa b=>jg (by simpa using I),λa=>by rw [jf E];exact hr,λa b c=>by rw [List.set_comm _ _ (Ne.symm E),List.set_set],λa b c=>List.set_set ..,λa=>?_⟩
 apply List.ext_getElem?
 intro j
 by_cases hj:r = j
 ·subst hj;rw [jg (by simpa using I),jf E,hr]
 ·rw [jf hj]
abbrev qDC (nm:Str) (c:Bool) (ins outs us vs xs:qd):List qd:=[.str nm,.bool c,ins,outs,.lst [] .full,.lst [] .full,.lst [] .full,.lst [] .full,.lst [] .full,.int .i64 0,.lst [] .full,us,vs,xs]
abbrev qEx (nm:Str) (c:Bool) (ins outs:qd):List qd:=qDC nm c ins outs (.lst [] .full) (.lst [] .full) (.lst [] .full)
abbrev qKS (nm:Str) (c:Bool) (ins outs vars ta emits int ext:qd) (con:Int) (own:qd):List qd:=[.str nm,.bool c,ins,outs,vars,ta,emits,int,ext,.int .i64 con,own,.lst [] .full,.lst [] .full,.lst [] .full]
section
variable {ws:List Tok} {n:Nat} {r:List PT}
theorem qe1 (hw:WF ws) {f:Str} {l:List qN} (hl:l.length <= 8) (hg:∀d ∈ l,d.good) {t:PT} (ht:tW t f = false) (hs:See ws n (kwl f qN.k l ++ t :: r)) :
  (∀(h:List qh) (i:Nat),h[i]? = some (PB ws n)->Wd (.fn 91 [] []) [.ptr i 0,.int .i64 8,.str f,.fn 92 [.ptr i 0] []] h = some (.ret (.lst (l.map qN.pe) (fl l.isEmpty)),h.set i (PB ws (n + (kwl f qN.k l).length)),false))/\See ws (n + (kwl f qN.k l).length) (t :: r)/\n + (kwl f qN.k l).length < ws.length:=
 qgu (M:=132) (B:=133) (O:=134) (k:=3) (z:=[.str [],.int .i64 0,.lst [] .full]) (most:=8) rfl zk rfl zk rfl zk rfl zk hw (by decide) rfl rfl (by decide) (by decide) hl (λd hd=>⟨qk5 d,qDv hw (hg d hd)⟩) ht hs
theorem qe2 (k:Nat) (l:List qN):qv k (l.map qN.pe) = true:=qbJ (qeA qk5 l) k
theorem qpD (hw:WF ws) {l:List qaw} (hl:l.length <= 32) (hg:∀d ∈ l,d.good) {t:PT} (ht:tW t [112,97,114,116] = false) (hs:See ws n (kwl [112,97,114,116] qaw.k l ++ t :: r)) :
  (∀(h:List qh) (i:Nat),h[i]? = some (PB ws n)->Wd (.fn 136 [] []) [.ptr i 0,.int .i64 32,.str [112,97,114,116],.fn 137 [.ptr i 0] []] h = some (.ret (.lst (l.map qaw.enc) (fl l.isEmpty)),h.set i (PB ws (n + (kwl [112,97,114,116] qaw.k l).length)),false))/\See ws (n + (kwl [112,97,114,116] qaw.k l).length) (t :: r)/\n + (kwl [112,97,114,116] qaw.k l).length < ws.length:=
 qgu (M:=164) (B:=165) (O:=166) (k:=2) (z:=[.str [],.str []]) (most:=32) rfl zk rfl zk rfl zk rfl zk hw (by decide) rfl rfl (by decide) (by decide) hl (λd hd=>⟨qk4 d,qyv hw (hg d hd).1 (hg d hd).2⟩) ht hs
theorem qjU (k:Nat) (l:List qaw):qv k (l.map qaw.enc) = true:=qbJ (qeA qk4 l) k
theorem qpi (hw:WF ws) {l:List qad} (hl:l.length <= 200) (hg:∀d ∈ l,d.good) {t:PT} (ht:tW t [108,105,110,107] = false) (hs:See ws n (kwl [108,105,110,107] qad.k l ++ t :: r)) :
  (∀(h:List qh) (i:Nat),h[i]? = some (PB ws n)->Wd (.fn 138 [] []) [.ptr i 0,.int .i64 200,.str [108,105,110,107],.fn 139 [.ptr i 0] []] h = some (.ret (.lst (l.map qad.enc) (fl l.isEmpty)),h.set i (PB ws (n + (kwl [108,105,110,107] qad.k l).length)),false))/\See ws (n + (kwl [108,105,110,107] qad.k l).length) (t :: r)/\n + (kwl [108,105,110,107] qad.k l).length < ws.length:=
 qgu (M:=167) (B:=168) (O:=169) (k:=4) (z:=[.str [],.str [],.str [],.str []]) (most:=200) rfl zk rfl zk rfl zk rfl zk hw (by decide) rfl rfl (by decide) (by decide) hl (λd hd=>⟨qkQ d,qsQ hw (hg d hd)⟩) ht hs
theorem qjI (k:Nat) (l:List qad):qv k (l.map qad.enc) = true:=qbJ (qeA qkQ l) k
theorem qpP (hw:WF ws) {l:List qQ} (hl:l.length <= 4) (hg:∀d ∈ l,d.good) {t:PT} (ht:tW t [114,117,108,101] = false) (hs:See ws n (kwl [114,117,108,101] qQ.k l ++ t :: r)) :
  (∀(h:List qh) (i:Nat),h[i]? = some (PB ws n)->Wd (.fn 140 [] []) [.ptr i 0,.int .i64 4,.str [114,117,108,101],.fn 141 [.ptr i 0] []] h = some (.ret (.lst (l.map qQ.pe) (fl l.isEmpty)),h.set i (PB ws (n + (kwl [114,117,108,101] qQ.k l).length)),false))/\See ws (n + (kwl [114,117,108,101] qQ.k l).length) (t :: r)/\n + (kwl [114,117,108,101] qQ.k l).length < ws.length:=
 qgu (M:=171) (B:=172) (O:=173) (k:=6) (z:=[.int .i64 0,.int .i64 0,.str [],.str [],.lst [] .full,.lst [] .full]) (most:=4) rfl zk rfl zk rfl zk rfl zk hw (by decide) rfl rfl (by decide) (by decide) hl (λd hd=>⟨qld d,qDE hw (hg d hd)⟩) ht hs
theorem qjZ (k:Nat) (l:List qQ):qv k (l.map qQ.pe) = true:=qbJ (qeA qld l) k
theorem quC (hw:WF ws) {l:List qam} (hl:l.length <= 10) (hg:∀d ∈ l,d.good) {t:PT} (ht:tW t [118,97,114] = false) (hs:See ws n (kwl [118,97,114] qam.k l ++ t :: r)) :
  (∀(h:List qh) (i:Nat),h[i]? = some (PB ws n)->Wd (.fn 142 [] []) [.ptr i 0,.int .i64 10,.str [118,97,114],.fn 143 [.ptr i 0] []] h = some (.ret (.lst (l.map qam.pe) (fl l.isEmpty)),h.set i (PB ws (n + (kwl [118,97,114] qam.k l).length)),false))/\See ws (n + (kwl [118,97,114] qam.k l).length) (t :: r)/\n + (kwl [118,97,114] qam.k l).length < ws.length:=
 qgu (M:=177) (B:=178) (O:=179) (k:=6) (z:=[.str [],.int .i64 0,.int .i64 0,.str [],.str [],.lst [] .full]) (most:=10) rfl zk rfl zk rfl zk rfl zk hw (by decide) rfl rfl (by decide) (by decide) hl (λd hd=>⟨qj0 d,qDH hw (hg d hd).1 (hg d hd).2⟩) ht hs
theorem qox (hw:WF ws) {l:List qab} (hl:l.length <= 8) (hg:∀d ∈ l,d.good) {t:PT} (ht:tW t [101,109,105,116] = false) (hs:See ws n (kwl [101,109,105,116] qab.k l ++ t :: r)) :
  (∀(h:List qh) (i:Nat),h[i]? = some (PB ws n)->Wd (.fn 144 [] []) [.ptr i 0,.int .i64 8,.str [101,109,105,116],.fn 145 [.ptr i 0] []] h = some (.ret (.lst (l.map qab.pe) (fl l.isEmpty)),h.set i (PB ws (n + (kwl [101,109,105,116] qab.k l).length)),false))/\See ws (n + (kwl [101,109,105,116] qab.k l).length) (t :: r)/\n + (kwl [101,109,105,116] qab.k l).length < ws.length:=
 qgu (M:=180) (B:=181) (O:=182) (k:=7) (z:=[.str [],.int .i64 0,.int .i64 0,.str [],.str [],.lst [] .full,.lst [] .full]) (most:=8) rfl zk rfl zk rfl zk rfl zk hw (by decide) rfl rfl (by decide) (by decide) hl (λd hd=>⟨qkx d,qCg hw (hg d hd).1 (hg d hd).2.1 (hg d hd).2.2.1 (hg d hd).2.2.2⟩) ht hs
theorem qju (k:Nat) (l:List qab):qv k (l.map qab.pe) = true:=qbJ (qeA qkx l) k
def qfP (m:qm):List PT:=kwl [112,97,114,116] qaw.k m.parts ++ (kwl [108,105,110,107] qad.k m.links ++ kwl [114,117,108,101] qQ.k m.rules)
def qxY (con:Int) (own:List qam):List PT:=bif con == 1 then [nm0 [99,111,110],nm0 [101,120,116],nm0 [105,110,116],mk3 [59]] else bif con == 2 then nm0 [99,111,110] :: qbq qam.k own else []
def taK (l:List Exl):List PT:=(l.map λe=>nm0 [116,97] :: (tk 20 e ++ [mk3 [59]])).flatten
def qfK (m:qm):List PT:=kwl [118,97,114] qam.k m.vars ++ (taK m.ta ++ (kwl [101,109,105,116] qab.k m.emits ++ (nm0 [105,110,116] :: (qbq qam.k m.int ++ (nm0 [101,120,116] :: (qbq qam.k m.ext ++ qxY m.con m.own))))))
structure qm.gc (m:qm):Prop where
 parts:m.parts.length <= 32/\∀d ∈ m.parts,d.good
 links:m.links.length <= 200/\∀d ∈ m.links,d.good
 rules:m.rules.length <= 4/\∀d ∈ m.rules,d.good
structure qm.ga (m:qm):Prop where
 vars:m.vars.length <= 10/\∀d ∈ m.vars,d.good
 ta:∃e,m.ta = [e]/\right 20 e = true
 emits:m.emits.length <= 8/\∀d ∈ m.emits,d.good
 int:m.int.length <= 10/\∀d ∈ m.int,d.good
 ext:m.ext.length <= 10/\∀d ∈ m.ext,d.good
 own:m.own.length <= 10/\∀d ∈ m.own,d.good
 con:(m.con = 0\/m.con = 1)/\m.own = []\/m.con = 2
def qkq (nm:Str) (c:Bool) (ins outs:qd) (m:qm):List qd:=qDC nm c ins outs (.lst (m.parts.map qaw.enc) (fl m.parts.isEmpty)) (.lst (m.links.map qad.enc) (fl m.links.isEmpty)) (.lst (m.rules.map qQ.pe) (fl m.rules.isEmpty))
def qhv (nm:Str) (c:Bool) (ins outs:qd) (m:qm):List qd:=qKS nm c ins outs (.lst (m.vars.map qam.pe) (fl m.vars.isEmpty)) (.lst (m.ta.map λe=>e.cv.enc φP) .full) (.lst (m.emits.map qab.pe) (fl m.emits.isEmpty)) (.lst (m.int.map qam.pe) (fl m.int.isEmpty)) (.lst (m.ext.map qam.pe) (fl m.ext.isEmpty)) m.con (.lst (m.own.map qam.pe) (fl m.own.isEmpty))
theorem qf2 {D:Type} {first w:Str} {kw:D->List PT} {l:List D} {t:PT} {r:List PT} (h1:tW (nm0 first) w = false) (h2:tW t w = false):∃t' r',kwl first kw l ++ t :: r = t' :: r'/\tW t' w = false:=by
 obtain ⟨t',r',e,h⟩:=qf1 first kw l t r
 exact ⟨t',r',e,by rcases h with rfl | rfl <;> assumption⟩
theorem qqY (hw:WF ws) {m:qm} (g:m.gc) {nm:Str} {c:Bool} {is os:List qd} {b1 b2:Bool} (hs:See ws n (qfP m ++ mk3 [125] :: r)):(∀(h:List qh) (i j:Nat),h[i]? = some (PB ws n)->h[j]? = some (.cells (qEx nm c (.lst is (fl b1)) (.lst os (fl b2))))->i ≠ j->Wd (.fn 93 [] []) [.ptr i 0,.ptr j 0] h = some (.ret (.tup []),(h.set i (PB ws (n + (qfP m).length))).set j (.cells (qkq nm c (.lst is (fl b1)) (.lst os (fl b2)) m)),false))/\See ws (n + (qfP m).length) (mk3 [125] :: r):=by
 have s9:=hs.app.2
 have e9:n + (qfP m).length = n + (kwl [112,97,114,116] qaw.k m.parts).length + (kwl [108,105,110,107] qad.k m.links).length + (kwl [114,117,108,101] qQ.k m.rules).length:=by simp only [qfP,ji];omega
 rw [e9] at s9 ⊢
 refine ⟨λh i j hi hr I=>?_,s9⟩
 simp only [qfP,jp] at hs
 obtain ⟨t2,r2,e2,z2⟩:=qf2 (first:=[114,117,108,101]) (w:=[108,105,110,107]) (kw:=qQ.k) (l:=m.rules) (t:=mk3 [125]) (r:=r) rfl rfl
 obtain ⟨t1,r1,q1,z1⟩ :∃t' r',kwl [108,105,110,107] qad.k m.links ++ (kwl [114,117,108,101] qQ.k m.rules ++ mk3 [125] :: r) = t' :: r'/\tW t' [112,97,114,116] = false:=by
  obtain ⟨t',r',e,h⟩:=qf2 (first:=[114,117,108,101]) (w:=[112,97,114,116]) (kw:=qQ.k) (l:=m.rules) (t:=mk3 [125]) (r:=r) rfl rfl
  rw [e]
  exact qf2 rfl h
 have E:=hs
 rw [q1] at E
 obtain ⟨k0,s0,h0⟩:=qpD hw g.parts.1 g.parts.2 z1 E
 rw [<-q1,e2] at s0
 obtain ⟨k1,s1,h1⟩:=qpi hw g.links.1 g.links.2 z2 s0
 rw [<-e2] at s1
 obtain ⟨k2,s2,h2⟩:=qpP hw g.rules.1 g.rules.2 rfl s1
 obtain ⟨a1,U,Y,s1,s2,s3,s4,s5,s6⟩:=two hi hr I
 have w0:=λk=>qjU k m.parts
 have w1:=λk=>qjI k m.links
 have w2:=λk=>qjZ k m.rules
 rw [PBi] at hi
 generalize hW:Wd _ _ h = W
 rw [ql 93 c93] at hW
 simp only [c93,sT.1,sC.1,qe,seval,-rN,k0,k1,k2,w0,w1,w2,hi,U,Y,PBi,s1,s3,s4,qa9,qbZ] at hW
 exact hW.symm
end
section
variable {ws:List Tok} {n:Nat} {r:List PT}
theorem qu9 (hw:WF ws) {m:qm} (g:m.ga) {nm:Str} {c:Bool} {is os:List qd} {b1 b2:Bool} (hs:See ws n (qfK m ++ mk3 [125] :: r)):(∀(h:List qh) (i j:Nat),h[i]? = some (PB ws n)->h[j]? = some (.cells (qEx nm c (.lst is (fl b1)) (.lst os (fl b2))))->i ≠ j->Wd (.fn 94 [] []) [.ptr i 0,.ptr j 0] h = some (.ret (.tup []),(h.set i (PB ws (n + (qfK m).length))).set j (.cells (qhv nm c (.lst is (fl b1)) (.lst os (fl b2)) m)),false))/\See ws (n + (qfK m).length) (mk3 [125] :: r):=by
 have ab:=hs.app.2
 refine ⟨λh i j hi hr ai=>?_,ab⟩
 clear ab
 obtain ⟨e,ht,ge⟩:=g.ta
 have gi:=g.int
 have gx:=g.ext
 have go:=g.own
 have a7:=g.con
 have gv:=g.vars
 have gm:=g.emits
 obtain ⟨mn,mc,ad,a8,vs,ta,es,it,ex,cn,ow,pp,ll,rr⟩:=m
 simp only at ht gi gx go a7 gv gm
 subst ht
 simp only [qfK,taK,List.map_cons,List.map_nil,List.flatten_cons,List.flatten_nil,jF,jw,jW,jp] at hs
 obtain ⟨k0,s0,h0⟩:=quC hw gv.1 gv.2 rfl hs
 obtain ⟨k1,s1,h1⟩:=qaI hw [116,97] rfl s0
 obtain ⟨k2,s2,h2⟩:=qiG hw ge rfl s1
 obtain ⟨k3,s3,h3⟩:=qaI hw [59] rfl s2
 obtain ⟨k4,s4,h4⟩:=qox hw gm.1 gm.2 rfl s3
 obtain ⟨k5,s5,h5⟩:=qaI hw [105,110,116] rfl s4
 obtain ⟨k6,s6,h6⟩:=quc hw gi.1 gi.2 s5
 obtain ⟨k7,s7,h7⟩:=qaI hw [101,120,116] rfl s6
 obtain ⟨k8,s8,h8⟩:=quc hw gx.1 gx.2 s7
 have w0:=λk=>qbC k vs
 have w4:=λk=>qju k es
 have w6:=λk=>qbC k it
 have w8:=λk=>qbC k ex
 have w9:=λk=>qbC k ow
 obtain ⟨al,U,Y,a1,a2,a3,a4,a5,a6⟩:=two hi hr ai
 rw [PBi] at hi
 have base:n + (qfK ⟨mn,mc,ad,a8,vs,[e],es,it,ex,cn,ow,pp,ll,rr⟩).length = n + (kwl [118,97,114] qam.k vs).length + 1 + (tk 20 e).length + 1 + (kwl [101,109,105,116] qab.k es).length + 1 + (qbq qam.k it).length + 1 + (qbq qam.k ex).length + (qxY cn ow).length:=by
  simp only [qfK,taK,List.map_cons,List.map_nil,List.flatten_cons,List.flatten_nil,jF,ji,jy,jz];omega
 rw [base]
 clear base
 generalize n + (kwl [118,97,114] qam.k vs).length = n0 at *
 rcases a7 with ⟨rfl | rfl,rfl⟩ | rfl
 ·have s8:See ws _ (mk3 [125] :: r):=s8
  have k9:=qaP hw [99,111,110] rfl s8
  rw [show (qxY 0 []).length = 0 from rfl,Nat.add_zero]
  simp only [qhv,List.map_cons,List.map_nil]
  generalize e.cv = y at *
  obtain ⟨o,q,u,v,z⟩:=y
  simp only [Exp.enc,Exp.cs]
  generalize hW:Wd _ _ h = W
  rw [ql 94 c94] at hW
  simp only [c94,sT.1,sC.1,qe,seval,-rN,k0,w0,k1,k2,k3,k4,w4,k5,k6,w6,k7,k8,w8,k9,hi,U,Y,PBi,a1,a3,a4,Nd.enc,Nd.cs,Exp.cs,qbl,qa9,qbZ,qny] at hW
  exact hW.symm
 ·have s8:See ws _ (nm0 [99,111,110] :: nm0 [101,120,116] :: nm0 [105,110,116] :: mk3 [59] :: mk3 [125] :: r):=s8
  obtain ⟨k9,s9,h9⟩:=qcY hw [99,111,110] rfl s8
  have k10:=qaP hw [105,110,116] rfl s9
  obtain ⟨I,ae,ap⟩:=qcY hw [101,120,116] rfl s9
  obtain ⟨E,ac,aj⟩:=qaI hw [105,110,116] rfl ae
  obtain ⟨af,ak,am⟩:=qaI hw [59] rfl ac
  rw [show (qxY 1 []).length = 1 + 1 + 1 + 1 from rfl,<-jt,<-jt,<-jt]
  simp only [qhv,List.map_cons,List.map_nil]
  generalize e.cv = y at *
  obtain ⟨o,q,u,v,z⟩:=y
  simp only [Exp.enc,Exp.cs]
  generalize hW:Wd _ _ h = W
  rw [ql 94 c94] at hW
  simp only [c94,sT.1,sC.1,qe,seval,-rN,k0,w0,k1,k2,k3,k4,w4,k5,k6,w6,k7,k8,w8,k9,k10,I,E,af,hi,U,Y,PBi,a1,a3,a4,Nd.enc,Nd.cs,Exp.cs,qbl,qa9,qbZ,qny] at hW
  exact hW.symm
 ·have s8:See ws _ (nm0 [99,111,110] :: (qbq qam.k ow ++ mk3 [125] :: r)):=s8
  obtain ⟨k9,s9,h9⟩:=qcY hw [99,111,110] rfl s8
  have aa:See ws _ (mk3 [123] :: (((ow.map qam.k).flatten ++ [mk3 [125]]) ++ mk3 [125] :: r)):=s9
  have k10:=qaP hw [105,110,116] rfl aa
  have I:=qaP hw [101,120,116] rfl aa
  obtain ⟨E,ac,aj⟩:=quc hw go.1 go.2 s9
  rw [show (qxY 2 ow).length = 1 + (qbq qam.k ow).length by show (nm0 [99,111,110] :: qbq qam.k ow).length = _;rw [jy,Nat.add_comm],<-jt]
  simp only [qhv,List.map_cons,List.map_nil]
  generalize e.cv = y at *
  obtain ⟨o,q,u,v,z⟩:=y
  simp only [Exp.enc,Exp.cs]
  generalize hW:Wd _ _ h = W
  rw [ql 94 c94] at hW
  simp only [c94,sT.1,sC.1,qe,seval,-rN,k0,w0,k1,k2,k3,k4,w4,k5,k6,w6,k7,k8,w8,k9,k10,I,E,w9,hi,U,Y,PBi,a1,a3,a4,Nd.enc,Nd.cs,Exp.cs,qbl,qa9,qbZ,qny] at hW
  exact hW.symm
def qbD (m:qm):List PT:=nm0 (bif m.coupled then [99,111,117,112,108,101,100] else [97,116,111,109,105,99]) :: nm0 m.name :: mk3 [123] :: (kwl [105,110] qN.k m.ins ++ (kwl [111,117,116] qN.k m.outs ++ ((bif m.coupled then qfP m else qfK m) ++ [mk3 [125]])))
def qm.row (m:qm):List qd:=bif m.coupled then qkq m.name true (.lst (m.ins.map qN.pe) (fl m.ins.isEmpty)) (.lst (m.outs.map qN.pe) (fl m.outs.isEmpty)) m else qhv m.name false (.lst (m.ins.map qN.pe) (fl m.ins.isEmpty)) (.lst (m.outs.map qN.pe) (fl m.outs.isEmpty)) m
def qm.pe (m:qm):qd:=.agg m.row
structure qm.good (m:qm):Prop where
 name:qy m.name = true
 ins:m.ins.length <= 8/\∀d ∈ m.ins,d.good
 outs:m.outs.length <= 8/\∀d ∈ m.outs,d.good
 body:bif m.coupled then m.gc else m.ga
theorem qjO (hw:WF ws) {m:qm} (hc:m.coupled = true) (g:m.good):Rd ws 46 m.pe (qbD m):=by
 intro n r hs
 have w:=qC (n:=n) (by have:=hw.len;have:=hs.head.1;omega)
 have gb:=g.body
 have gn:=g.name
 have gi:=g.ins
 have go:=g.outs
 rw [hc] at gb
 have e9:n + (qbD m).length = n + 1 + 1 + 1 + (kwl [105,110] qN.k m.ins).length + (kwl [111,117,116] qN.k m.outs).length + (qfP m).length + 1:=by
  simp only [qbD,hc,cond_true,ji,jy,jz];omega
 rw [e9]
 simp only [qbD,hc,cond_true,jw,jW,jp] at hs
 have k0:=qBB hw [99,111,117,112,108,101,100] hs
 have z0:tW (nm0 [99,111,117,112,108,101,100]) [99,111,117,112,108,101,100] = true:=rfl
 have s0:=hs.tail
 obtain ⟨k1,s1,h1⟩:=qd6 hw gn s0
 obtain ⟨k2,s2,h2⟩:=qaI hw [123] rfl s1
 obtain ⟨x0,y0,x1,x2⟩ :∃t' r',qfP m ++ mk3 [125] :: r = t' :: r'/\(tW t' [105,110] = false/\tW t' [111,117,116] = false):=by
  obtain ⟨t3,r3,e3,z3⟩:=qf1 [114,117,108,101] qQ.k m.rules (mk3 [125]) r
  obtain ⟨t2,r2,e2,z2⟩:=qf1 [108,105,110,107] qad.k m.links t3 r3
  obtain ⟨t1,r1,e1,z1⟩:=qf1 [112,97,114,116] qaw.k m.parts t2 r2
  refine ⟨t1,r1,by simp only [qfP,jp];rw [e3,e2,e1],?_⟩
  rcases z1 with rfl | rfl
  ·exact ⟨rfl,rfl⟩
  rcases z2 with rfl | rfl
  ·exact ⟨rfl,rfl⟩
  rcases z3 with rfl | rfl <;> exact ⟨rfl,rfl⟩
 have E:=s2
 rw [x1] at E
 obtain ⟨p0,q0,p1,p2⟩:=qf2 (first:=[111,117,116]) (w:=[105,110]) (kw:=qN.k) (l:=m.outs) (t:=x0) (r:=y0) rfl x2.1
 rw [p1] at E
 obtain ⟨k3,s3,h3⟩:=qe1 hw gi.1 gi.2 p2 E
 rw [<-p1] at s3
 obtain ⟨k4,s4,h4⟩:=qe1 hw go.1 go.2 x2.2 s3
 rw [<-x1] at s4
 obtain ⟨k5,s5⟩:=qqY hw gb (nm:=m.name) (c:=true) (is:=m.ins.map qN.pe) (os:=m.outs.map qN.pe) (b1:=m.ins.isEmpty) (b2:=m.outs.isEmpty) s4
 obtain ⟨k6,s6,h6⟩:=qaI hw [125] rfl s5
 refine ⟨h6,λh i hi=>?_⟩
 have U:=qo hi
 have I:i ≠ h.length + 1:=zo
 have a1:i ≠ h.length:=zo
 have Y:Nat.ble h.length (h.length + 1) = true:=qj zo
 rw [qm.pe,qm.row,hc]
 simp only [cond_true]
 generalize m.name = nm at *
 generalize m.ins.isEmpty = b1 at *
 generalize m.outs.isEmpty = b2 at *
 have w1:=λk=>qe2 k m.ins
 have w2:=λk=>qe2 k m.outs
 generalize m.ins.map qN.pe = is at *
 generalize m.outs.map qN.pe = os at *
 have w3:=λk=>qjU k m.parts
 have w4:=λk=>qjI k m.links
 have w5:=λk=>qjZ k m.rules
 rw [PBi] at hi
 simp only [qEx,qDC,qkq] at k5
 rw [ql 46 c46]
 simp only [c46,sT.1,sC.1,qe,seval,-rN,qa9,qbZ,qkq,qDC,PBi,hi,U,I,Y,w,w1,w2,w3,w4,w5,k0,z0,k1,k2,k3,k4,k5,k6]
theorem qkV (hw:WF ws) {m:qm} (hc:m.coupled = false) (g:m.good):Rd ws 46 m.pe (qbD m):=by
 intro n r hs
 have w:=qC (n:=n) (by have:=hw.len;have:=hs.head.1;omega)
 have gb:=g.body
 have gn:=g.name
 have gi:=g.ins
 have go:=g.outs
 rw [hc] at gb
 have e9:n + (qbD m).length = n + 1 + 1 + 1 + (kwl [105,110] qN.k m.ins).length + (kwl [111,117,116] qN.k m.outs).length + (qfK m).length + 1:=by
  simp only [qbD,hc,cond_false,ji,jy,jz];omega
 rw [e9]
 simp only [qbD,hc,cond_false,jw,jW,jp] at hs
 have k0:=qBB hw [99,111,117,112,108,101,100] hs
 have z0:tW (nm0 [97,116,111,109,105,99]) [99,111,117,112,108,101,100] = false:=rfl
 have s0:=hs.tail
 obtain ⟨k1,s1,h1⟩:=qd6 hw gn s0
 obtain ⟨k2,s2,h2⟩:=qaI hw [123] rfl s1
 obtain ⟨x0,y0,x1,x2⟩ :∃t' r',qfK m ++ mk3 [125] :: r = t' :: r'/\(tW t' [105,110] = false/\tW t' [111,117,116] = false):=by
  obtain ⟨e,he,_⟩:=gb.ta
  obtain ⟨t1,r1,e1,z1⟩:=qf1 [118,97,114] qam.k m.vars (nm0 [116,97]) (tk 20 e ++ (mk3 [59] :: (kwl [101,109,105,116] qab.k m.emits ++ (nm0 [105,110,116] :: (qbq qam.k m.int ++ (nm0 [101,120,116] :: (qbq qam.k m.ext ++ (qxY m.con m.own ++ mk3 [125] :: r))))))))
  refine ⟨t1,r1,by rw [<-e1];simp only [qfK,taK,he,List.map_cons,List.map_nil,List.flatten_cons,List.flatten_nil,jF,jw,jW,jp],?_⟩
  rcases z1 with rfl | rfl <;> exact ⟨rfl,rfl⟩
 have E:=s2
 rw [x1] at E
 obtain ⟨p0,q0,p1,p2⟩:=qf2 (first:=[111,117,116]) (w:=[105,110]) (kw:=qN.k) (l:=m.outs) (t:=x0) (r:=y0) rfl x2.1
 rw [p1] at E
 obtain ⟨k3,s3,h3⟩:=qe1 hw gi.1 gi.2 p2 E
 rw [<-p1] at s3
 obtain ⟨k4,s4,h4⟩:=qe1 hw go.1 go.2 x2.2 s3
 rw [<-x1] at s4
 obtain ⟨k5,s5⟩:=qu9 hw gb (nm:=m.name) (c:=false) (is:=m.ins.map qN.pe) (os:=m.outs.map qN.pe) (b1:=m.ins.isEmpty) (b2:=m.outs.isEmpty) s4
 obtain ⟨k6,s6,h6⟩:=qaI hw [125] rfl s5
 refine ⟨h6,λh i hi=>?_⟩
 have U:=qo hi
 have I:i ≠ h.length + 1:=zo
 have a1:i ≠ h.length:=zo
 have Y:Nat.ble h.length (h.length + 1) = true:=qj zo
 rw [qm.pe,qm.row,hc]
 simp only [cond_false]
 generalize m.name = nm at *
 generalize m.ins.isEmpty = b1 at *
 generalize m.outs.isEmpty = b2 at *
 have w1:=λk=>qe2 k m.ins
 have w2:=λk=>qe2 k m.outs
 generalize m.ins.map qN.pe = is at *
 generalize m.outs.map qN.pe = os at *
 have w3:=λk=>qbC k m.vars
 have w4:=λk=>qbC k m.int
 have w5:=λk=>qbC k m.ext
 have w6:=λk=>qbC k m.own
 have w7:=λk=>qju k m.emits
 have w8:=λk=>qhc k m.ta
 rw [PBi] at hi
 simp only [qEx,qDC,qhv] at k5
 rw [ql 46 c46]
 simp only [c46,sT.1,sC.1,qe,seval,-rN,qa9,qbZ,qhv,PBi,hi,U,I,Y,w,w1,w2,w3,w4,w5,w6,w7,w8,k0,z0,k1,k2,k3,k4,k5,k6]
theorem qAk (hw:WF ws) {m:qm} (g:m.good):Rd ws 46 m.pe (qbD m):=by
 cases hc:m.coupled
 ·exact qkV hw hc g
 ·exact qjO hw hc g
end
structure qdC (m:qm):Prop where
 name:m.name.length <= 16
 ins:m.ins.length <= 1000/\∀s ∈ m.ins,qhs s
 outs:m.outs.length <= 1000/\∀s ∈ m.outs,qhs s
 vars:m.vars.length <= 1000/\∀s ∈ m.vars,qht s
 ta:m.ta.length <= 1000/\∀s ∈ m.ta,qly s
 emits:m.emits.length <= 1000/\∀s ∈ m.emits,qmS s
 int:m.int.length <= 1000/\∀s ∈ m.int,qht s
 ext:m.ext.length <= 1000/\∀s ∈ m.ext,qht s
 own:m.own.length <= 1000/\∀s ∈ m.own,qht s
 parts:m.parts.length <= 1000/\∀s ∈ m.parts,qmV s
 links:m.links.length <= 1000/\∀s ∈ m.links,qmU s
 rules:m.rules.length <= 20/\∀s ∈ m.rules,qmX s
 few:m.ins.length + m.outs.length + m.vars.length + m.ta.length + m.emits.length + m.int.length + m.ext.length + m.own.length + m.parts.length + m.links.length + (m.rules.map λr=>r.acts.length + 2).sum <= 350
def qxZ (con:Int) (own:List qam):List Str:=bif con == 1 then [[32,32,99,111,110,32,101,120,116,32,105,110,116,59]] else bif con == 2 then qbW [32,32] [99,111,110] (own.map qam.txt) else []
def qod (m:qm):List Str:=(m.vars.map λs=>[32,32,118,97,114,32] ++ s.txt) ++ ((m.ta.map λs=>[32,32] ++ taT s) ++ ((m.emits.map λs=>[32,32] ++ s.txt) ++ (qbW [32,32] [105,110,116] (m.int.map qam.txt) ++ (qbW [32,32] [101,120,116] (m.ext.map qam.txt) ++ qxZ m.con m.own))))
theorem qb5 (ah hd:Str) (l:List Str):(qbW ah hd l).length <= l.length + 2:=by
 unfold qbW
 cases l.isEmpty <;> simp
section
variable {h:List qh} {V:qd} {L:List Str}
theorem qqt {m:qm} (hm:qdC m) (hS:SL h L V) (hL:L.length <= 30000):Ln h V (L ++ qod m) (Wd (.fn 74 [] []) [V,m.enc] h):=by
 have hV:∀id,qfd V = some id->id < h.length:=λid hi=>hS.lt hi
 have s0:=Mid.start (x:=.cells m.cs) hS
 have n1:=hm.vars.1
 have n2:=hm.ta.1
 have n3:=hm.emits.1
 have n4:=qb5 [32,32] [105,110,116] (m.int.map qam.txt)
 have n5:=qb5 [32,32] [101,120,116] (m.ext.map qam.txt)
 have n6:=hm.int.1
 have n7:=hm.ext.1
 simp only [jQ] at n4 n5
 obtain ⟨G1,W1,r1,s1⟩:=s0.step hV (qub s0.1 zo hm.vars.1 hm.vars.2 [32,32,118,97,114,32] (by simp))
 obtain ⟨G2,W2,r2,s2⟩:=s1.step hV (qxz s1.1 (by simp;omega) hm.ta.1 hm.ta.2 [32,32] (by simp))
 obtain ⟨G3,W3,r3,s3⟩:=s2.step hV (qoy s2.1 (by simp;omega) hm.emits.1 hm.emits.2 [32,32] (by simp))
 obtain ⟨G4,W4,r4,s4⟩:=s3.step hV (qgC s3.1 (by simp;omega) hm.int.1 hm.int.2 [32,32] [105,110,116] (by simp) (by simp))
 obtain ⟨G5,W5,r5,s5⟩:=s4.step hV (qgC s4.1 (by simp;omega) hm.ext.1 hm.ext.2 [32,32] [101,120,116] (by simp) (by simp))
 obtain ⟨G6,W6,r6,s6⟩:=s5.step hV (qgC s5.1 (by simp;omega) hm.own.1 hm.own.2 [32,32] [99,111,110] (by simp) (by simp))
 obtain ⟨G7,W7,ra,rb,l7⟩:=qki s5.1 (by simp;omega) h.length [32,32,99,111,110,32,101,120,116,32,105,110,116,59]
 obtain ⟨_,_,e7,s7⟩:=s5.step hV l7
 cases e7
 obtain ⟨d0,w0,_,_⟩:=hS.facts
 obtain ⟨d1,w1,_,_⟩:=s1.1.facts
 obtain ⟨d2,w2,_,_⟩:=s2.1.facts
 obtain ⟨d3,w3,_,_⟩:=s3.1.facts
 obtain ⟨d4,w4,_,_⟩:=s4.1.facts
 obtain ⟨d5,w5,_,_⟩:=s5.1.facts
 obtain ⟨d6,w6,_,_⟩:=s6.1.facts
 obtain ⟨d7,w7,_,_⟩:=s7.1.facts
 have b1:=s1.2.2.1
 have b2:=s2.2.2.1
 have b3:=s3.2.2.1
 have b4:=s4.2.2.1
 have b5:=s5.2.2.1
 have g1:=s1.2.1
 have g2:=s2.2.1
 have g3:=s3.2.1
 have g4:=s4.2.1
 have g5:=s5.2.1
 have a6:=s6.leave
 have a7:=s7.leave
 have a5:=s5.leave
 clear s0 s1 s2 s3 s4 s5 s6 s7 hm n1 n2 n3 n4 n5 n6 n7 l7
 obtain ⟨nm,cp,ins,outs,vars,ta,Y,int,ext,E,own,parts,U,I⟩:=m
 simp only [qm.cs] at *
 generalize hw:Wd _ _ h = w
 rw [ql 74 c74] at hw
 rw [qm.enc,qm.cs] at hw
 rw [qod,qxZ]
 simp only
 cases c1:(E == 1) with
 | true=>
  simp only [c74,sT.1,sC.1,qe,seval,-rN,qgx,qbx,qby,qcn,r1,r2,r3,r4,r5,ra,rb,d0,d1,w1,d2,w2,d3,w3,d4,w4,d5,w5,d7,w7,b1,b2,b3,b4,b5,c1] at hw
  subst hw
  simpa using a7
 | false=>
  cases c2:(E == 2) with
  | true=>
   simp only [c74,sT.1,sC.1,qe,seval,-rN,r1,r2,r3,r4,r5,r6,d0,d1,w1,d2,w2,d3,w3,d4,w4,d5,w5,d6,w6,b1,b2,b3,b4,b5,c1,c2] at hw
   subst hw
   simpa using a6
  | false=>
   simp only [c74,sT.1,sC.1,qe,seval,-rN,r1,r2,r3,r4,r5,d0,d1,w1,d2,w2,d3,w3,d4,w4,d5,w5,b1,b2,b3,b4,b5,c1,c2] at hw
   subst hw
   simpa using a5
theorem Mid.more {x:qh} {G:List qh} {W:qd} (hm:Mid h V x G W L) (c:qh):Mid h V x (G ++ [c]) W L:=
 ⟨hm.1.more _,by have:=hm.2.1;simp;omega,by rw [ja hm.2.1];exact hm.2.2.1,λi hi hn=>by rw [ja (by have:=hm.2.1;omega)];exact hm.2.2.2.1 i hi hn,hm.2.2.2.2⟩
def qQ.lines (r:qQ):List Str:=qbW [32,32] ([114,117,108,101,32] ++ eT r.e) (r.acts.map qbo.txt)
def qon (m:qm):List Str:=(m.parts.map λs=>[32,32,112,97,114,116,32] ++ s.txt) ++ ((m.links.map λs=>[32,32,108,105,110,107,32] ++ s.txt) ++ (m.rules.map qQ.lines).flatten)
theorem qsN {l:List qQ} (ho:∀r ∈ l,qmX r):((l.map qQ.lines).flatten).length <= l.length * 1002:=by
 induction l with
 | nil=>simp
 | cons r l ih=>
  have h1:=ih λr hr=>ho r (by simp [hr])
  have h2:=qb5 [32,32] ([114,117,108,101,32] ++ eT r.e) (r.acts.map qbo.txt)
  have h3:=(ho r (by simp)).2.1
  rw [jQ] at h2
  simp only [List.map_cons,List.flatten_cons,ji,jy,qQ.lines] at h1 ⊢
  omega
theorem qoo {m:qm} (hm:qdC m) (hS:SL h L V) (hL:L.length <= 10000):Ln h V (L ++ qon m) (Wd (.fn 73 [] []) [V,m.enc] h):=by
 have hV:∀id,qfd V = some id->id < h.length:=λid hi=>hS.lt hi
 have s0:=Mid.start (x:=.cells m.cs) hS
 have n1:=hm.parts.1
 have n2:=hm.links.1
 obtain ⟨G1,W1,r1,s1⟩:=s0.step hV (qpE s0.1 zo hm.parts.1 hm.parts.2 [32,32,112,97,114,116,32] (by simp))
 obtain ⟨G2,W2,r2,s2⟩:=s1.step hV (qpj s1.1 (by simp;omega) hm.links.1 hm.links.2 [32,32,108,105,110,107,32] (by simp))
 obtain ⟨L2,Y⟩ :∃L2,L2 = (L ++ m.parts.map λs=>[32,32,112,97,114,116,32] ++ s.txt) ++ m.links.map λs=>[32,32,108,105,110,107,32] ++ s.txt:=⟨_,rfl⟩
 have ak:L2.length <= 12000:=by rw [Y];simp;omega
 rw [<-Y] at s2
 have loop:∀k st,(∃(tt:List qd) (i:Nat) (G:List qh) (W:qd),st = ⟨tt,G,false⟩/\tt.length = 32/\lkp tt 0 = W/\lkp tt 16 = .lst (m.rules.map qQ.enc) .no/\lkp tt 17 = .int .i64 (m.rules.length:Nat)/\lkp tt 18 = .int .i64 (i:Nat)/\i + k = m.rules.length/\Mid h V (.cells m.cs) G W (L2 ++ ((m.rules.take i).map qQ.lines).flatten))->
   ∃y E,qp h.length Wd (.loop qpa) st = some (y,E)/\(∃(tt:List qd) (G:List qh) (W:qd),E = ⟨tt,G,false⟩/\tt.length = 32/\lkp tt 0 = W/\Mid h V (.cells m.cs) G W (L2 ++ (m.rules.map qQ.lines).flatten)/\y = .exit 0):=by
  refine qao _ (λy E=>∃(tt:List qd) (G:List qh) (W:qd),E = ⟨tt,G,false⟩/\tt.length = 32/\lkp tt 0 = W/\Mid h V (.cells m.cs) G W (L2 ++ (m.rules.map qQ.lines).flatten)/\y = .exit 0) ?_
  rintro k st ⟨tt,i,G,W,rfl,ht,e0,ab,a1,aa,al,hM⟩
  generalize hr:qp h.length Wd qpa _ = r
  have hR:=hm.rules
  generalize m.rules = l at *
  rcases Nat.lt_or_ge i l.length with I | I
  ·have c1:ilt (i:Int) (l.length:Int) = true:=qiK zo
   have w:=qC (n:=i) zo
   have ho:=hR.2 l[i] (List.getElem_mem I)
   have aj:=qsN (l:=l.take i) λr hr=>hR.2 r (List.mem_of_mem_take hr)
   have ac:(l.take i).length <= 20:=by have:=hR.1;simp;omega
   have U:((l.take (i + 1)).map qQ.lines).flatten = ((l.take i).map qQ.lines).flatten ++ l[i].lines:=by rw [List.take_succ_eq_append_getElem I,List.map_append,List.flatten_append];simp
   have hmul:(l.take i).length * 1002 <= 20 * 1002:=Nat.mul_le_mul_right _ ac
   have hg:(l.map qQ.enc)[i]? = some l[i].enc:=by rw [List.getElem?_map,List.getElem?_eq_getElem I];rfl
   generalize l[i] = v at ho hg U
   obtain ⟨e,acts⟩:=v
   have hT:=λG=>qrr ho.1 G
   have ad:=qc4 ho.1
   rw [qQ.enc] at hg
   have hv:qQ.lines ⟨e,acts⟩ = qbW [32,32] ([114,117,108,101,32] ++ eT e) (acts.map qbo.txt):=rfl
   rw [hv] at U
   simp only at hg hT ad
   have a8:=hM.more (.cells (exC e ++ [.lst (acts.map qbo.enc) .no]))
   obtain ⟨G',W',rb,a7⟩:=a8.step hV (qn8 a8.1 (by rw [ji];omega) ho.2.1 ho.2.2 [32,32] ([114,117,108,101,32] ++ eT e) (by simp) (by simp;omega))
   simp only at rb
   generalize eT e = u at *
   clear ho
   obtain ⟨op,n,m2,sb,aS⟩:=e
   rw [qt] at hT
   rw [exC] at hg rb
   have hx:qfH 6 (.lst (l.map qQ.enc) .no) (.int .i64 (i:Nat)) = some (.iptr [.int .i64 op,.int .i64 n,.str m2,.str sb,.lst (aS.map exV) .no,.lst (acts.map qbo.enc) .no] 0):=qar hg rfl
   obtain ⟨d0,w0,_,_⟩:=hM.1.facts
   obtain ⟨d1,w1,_,_⟩:=a7.1.facts
   have ae:Nat.ble h.length G.length = true:=qj (Nat.le_of_lt hM.2.1)
   have q1:5 + u.length <= qi:=by unfold qi;omega
   have q2:u.length + 5 <= qi:=by unfold qi;omega
   have q3:u.length + 1 + 1 + 1 + 1 + 1 <= qi:=by unfold qi;omega
   simp only [jw,jW] at rb
   simp only [qpa,sT.1,sC.1,qe,Nat.testBit,bne,seval,-rN,ht,e0,ab,a1,aa,c1,w,hx,ae,hT,rb,d0,d1,w1,q1] at hr
   subst hr
   refine .inl ⟨_,k - 1,rfl,zo,_,i + 1,G',W',rfl,Y1,?_,?_,?_,?_,zo,?_⟩
   ·simp only [sT.1,sC.1,seval,-rN,ht]
   ·simp only [sT.1,sC.1,seval,-rN,ab]
   ·simp only [sT.1,sC.1,seval,-rN,a1]
   ·simp only [sT.1,seval,-rN,ht]
   ·rw [U];simpa using a7
  ·have c1:ilt (i:Int) (l.length:Int) = false:=qis zo
   rw [List.take_of_length_le I] at hM
   simp only [qpa,sT.1,sC.1,qe,seval,-rN,ht,a1,aa,c1] at hr
   subst hr
   exact .inr ⟨_,_,rfl,by simp,_,G,W,rfl,Y1,u4,hM,rfl⟩
 obtain ⟨d0,w0,_,_⟩:=hS.facts
 obtain ⟨d1,w1,_,_⟩:=s1.1.facts
 obtain ⟨d2,w2,_,_⟩:=s2.1.facts
 have b1:=s1.2.2.1
 have b2:=s2.2.2.1
 have g1:=s1.2.1
 have g2:=s2.2.1
 clear s0 s1 hm n1 n2
 obtain ⟨nm,cp,ins,outs,vars,ta,ai,int,ext,am,own,parts,af,a6⟩:=m
 simp only [qm.cs] at *
 generalize hw:Wd _ _ h = w
 rw [ql 73 c73] at hw
 rw [qm.enc,qm.cs] at hw
 rw [qon]
 simp only
 simp only [c73,sT.1,sC.1,qe,seval,-rN,jQ,r1,r2,d0,d1,w1,d2,w2,b1,b2] at hw
 generalize hr:qp h.length Wd (.loop qpa) _ = r at hw
 obtain ⟨y,E,rfl,tt,G3,W3,rfl,ht,e0,s3,rfl⟩:=qc0 hr (loop a6.length _ ⟨_,0,G2,W2,rfl,Y0,Y0,Y0,Y0,v5,zo,by simpa using s2⟩)
 obtain ⟨d3,w3,_,_⟩:=s3.1.facts
 simp only [sT.1,sC.1,qe,seval,-rN,ht,e0,d3,w3] at hw
 subst hw
 have:=s3.leave
 rw [Y] at this
 simpa using this
end
def qgq (m:qm):Str:=(bif m.coupled then [99,111,117,112,108,101,100,32] else [97,116,111,109,105,99,32]) ++ m.name
def inL (m:qm):List Str:=(m.ins.map λs=>[32,32,105,110,32] ++ s.txt) ++ ((m.outs.map λs=>[32,32,111,117,116,32] ++ s.txt) ++ (bif m.coupled then qon m else qod m))
def qfn (m:qm):List Str:=bif (inL m).isEmpty then [qgq m ++ [32,123,125]] else (qgq m ++ [32,123]) :: (inL m ++ [[125]])
theorem qtU (l:List qQ):((l.map qQ.lines).flatten).length <= (l.map λr=>r.acts.length + 2).sum:=by
 induction l with
 | nil=>simp
 | cons r l ih=>
  have h2:=qb5 [32,32] ([114,117,108,101,32] ++ eT r.e) (r.acts.map qbo.txt)
  rw [jQ] at h2
  simp only [List.map_cons,List.flatten_cons,ji,List.sum_cons,qQ.lines] at ih h2 ⊢
  omega
theorem qsa {m:qm} (hm:qdC m):(inL m).length <= 360:=by
 have h:=hm.few
 have h1:=qb5 [32,32] [105,110,116] (m.int.map qam.txt)
 have h2:=qb5 [32,32] [101,120,116] (m.ext.map qam.txt)
 have h3:=qb5 [32,32] [99,111,110] (m.own.map qam.txt)
 have h4:=qtU m.rules
 have h5:(qxZ m.con m.own).length <= m.own.length + 2:=by
  unfold qxZ
  rw [jQ] at h3
  cases m.con == 1 <;> cases m.con == 2 <;> simp only [cond_true,cond_false,jy,jz] <;> omega
 rw [jQ] at h1 h2
 unfold inL qon qod
 cases m.coupled <;> simp only [cond_true,cond_false,ji,jQ] <;> omega
theorem qps {m:qm} (hm:qdC m):(qfn m).length <= 362:=by
 have:=qsa hm
 unfold qfn
 cases (inL m).isEmpty <;> simp <;> omega
section
variable {h:List qh} {V:qd} {L:List Str}
theorem qB6 {G:List qh} {W W2:qd} {M:List Str} (hS:SL G L W) (hw:SL G M W2) (E:M ≠ []) (hl:L.length + M.length <= 100000) (b:Nat):∃G' W',hop b (.app 1) [W,W2] G = some (W',G',false)/\Ln G W (L ++ M) (some (.ret W',G',false)):=by
 obtain ⟨G',h1,h2,h3,h4⟩:=hS.cat hw E hl b
 exact ⟨G',_,h1,G',_,rfl,h2,zo,h4,.inr λid hid=>by cases hid;omega⟩
theorem Ln.get {W W':qd} {G G':List qh} {L':List Str} (h:Ln G W L' (some (.ret W',G',false))):SL G' L' W'/\G.length <= G'.length/\(∀i,i < G.length->qfd W ≠ some i->G'[i]? = G[i]?)/\(W' = W\/∀id,qfd W' = some id->G.length <= id):=by
 obtain ⟨_,_,e,h1,h2,h3,h4⟩:=h
 cases e
 exact ⟨h1,h2,h3,h4⟩
theorem qwy {m:qm} (hm:qdC m) (hS:SL h L V) (hL:L.length <= 9000):Ln h V (L ++ qfn m) (Wd (.fn 33 [] []) [V,m.enc] h):=by
 obtain ⟨x,hx⟩ :∃x,x = qh.cells m.cs:=⟨_,rfl⟩
 obtain ⟨E,hE⟩ :∃E,E = qd.lst [] .full:=⟨_,rfl⟩
 have I:∀id,qfd E = some id->id < h.length:=λid hi=>by rw [hE] at hi;cases hi
 have U:∀i,qfd E ≠ some i:=λi hi=>by rw [hE] at hi;cases hi
 have s0:Mid h E x (h ++ [x]) E []:=Mid.start (.inl ⟨rfl,hE⟩)
 have a7:=qsa hm
 have n1:=hm.ins.1
 have n2:=hm.outs.1
 obtain ⟨G1,W1,r1,s1⟩:=s0.step I (qi1 s0.1 (by simp) hm.ins.1 hm.ins.2 [32,32,105,110,32] (by simp))
 obtain ⟨G2,W2,r2,s2⟩:=s1.step I (qi1 s1.1 (by simp;omega) hm.outs.1 hm.outs.2 [32,32,111,117,116,32] (by simp))
 obtain ⟨G3,W3,r3,s3⟩ :∃G3 W3,(bif m.coupled then Wd (.fn 73 [] []) [W2,m.enc] G2 else Wd (.fn 74 [] []) [W2,m.enc] G2) = some (.ret W3,G3,false)/\Mid h E x G3 W3 (inL m):=by
  unfold inL
  cases m.coupled with
  | true=>
   obtain ⟨G3,W3,r3,s3⟩:=s2.step I (qoo hm s2.1 (by simp;omega))
   exact ⟨G3,W3,r3,by simpa using s3⟩
  | false=>
   obtain ⟨G3,W3,r3,s3⟩:=s2.step I (qqt hm s2.1 (by simp;omega))
   exact ⟨G3,W3,r3,by simpa using s3⟩
 obtain ⟨_,_,_,q3⟩:=s3.1.facts
 have hV:∀id,qfd V = some id->id < h.length:=λid hi=>hS.lt hi
 have t3:Mid h V x G3 V L:=⟨hS.keep λid hi=>s3.2.2.2.1 id (hS.lt hi) (U id),s3.2.1,s3.2.2.1,λi hi _=>s3.2.2.2.1 i hi (U i),.inl rfl⟩
 have hh:(qgq m).length <= 30:=by
  have:=hm.name
  unfold qgq
  cases m.coupled <;> simp <;> omega
 rw [qfn]
 obtain ⟨G9,W9,ra,rb,l9⟩:=qki t3.1 zo h.length (qgq m ++ [32,123,125])
 obtain ⟨_,_,e9,t9⟩:=t3.step hV l9
 cases e9
 have a9:=t9.leave
 obtain ⟨G4,W4,rc,rd,l4⟩:=qki t3.1 zo h.length (qgq m ++ [32,123])
 obtain ⟨_,_,e4,t4⟩:=t3.step hV l4
 cases e4
 have k4:=l4.get
 have w4:SL G4 (inL m) W3:=s3.1.keep λid hid=>k4.2.2.1 id (s3.1.lt hid) λhv=>by
  have:=hV id hv
  rcases s3.2.2.2.2 with e | e
  ·rw [e] at hid;exact U id hid
  ·have:=e id hid;omega
 have fin:inL m ≠ []->∃G5 W5 G6 W6,hop h.length (.app 1) [W4,W3] G4 = some (W5,G5,false)/\hop h.length (.lit 1 [.str []] 1 [0]) [.str [125]] G5 = some (.sl G5.length 0 1 1 0,G5 ++ [.cells [.str [125]]],false)/\hop h.length (.app 1) [W5,.sl G5.length 0 1 1 0] (G5 ++ [.cells [.str [125]]]) = some (W6,G6,false)/\Mid h V x G5 W5 ((L ++ [qgq m ++ [32,123]]) ++ inL m)/\Mid h V x G6 W6 (((L ++ [qgq m ++ [32,123]]) ++ inL m) ++ [[125]]):=λa1=>by
  obtain ⟨G5,W5,re,l5⟩:=qB6 t4.1 w4 a1 (by simp;omega) h.length
  obtain ⟨_,_,e5,t5⟩:=t4.step hV l5
  cases e5
  obtain ⟨G6,W6,rf,rg,l6⟩:=qki t5.1 (by simp;omega) h.length [125]
  obtain ⟨_,_,e6,t6⟩:=t5.step hV l6
  cases e6
  exact ⟨G5,W5,G6,W6,re,rf,rg,t5,t6⟩
 obtain ⟨dV,wV,_,_⟩:=hS.facts
 obtain ⟨d1,w1,_,_⟩:=s1.1.facts
 obtain ⟨d2,w2,_,_⟩:=s2.1.facts
 obtain ⟨d3,w3,_,_⟩:=s3.1.facts
 obtain ⟨d4,Y,_,_⟩:=t4.1.facts
 obtain ⟨d9,w9,_,_⟩:=t9.1.facts
 have b1:=s1.2.2.1
 have b2:=s2.2.2.1
 have b3:=s3.2.2.1
 have g1:=s1.2.1
 have g2:=s2.2.1
 have g3:=s3.2.1
 clear s0 s1 s2 s3 t3 t4 t9 l9 l4 k4 w4 n1 n2 a7
 have hn:=hm.name
 clear hm
 subst hx hE
 rw [qgq] at *
 generalize inL m = M at *
 obtain ⟨nm,cp,ins,outs,vars,ta,ab,int,ext,ac,own,parts,aa,a8⟩:=m
 simp only [qm.cs,qm.enc] at *
 have q1:8 + nm.length <= qi:=by unfold qi;omega
 have q2:7 + nm.length <= qi:=by unfold qi;omega
 have p7:∀k,k <= 20->nm.length + 1 + 1 + 1 + 1 + 1 + 1 + 1 + k <= qi:=λk hk=>by unfold qi;omega
 have p8:∀k,k <= 20->nm.length + 1 + 1 + 1 + 1 + 1 + 1 + 1 + 1 + k <= qi:=λk hk=>by unfold qi;omega
 have p9:∀k,k <= 20->nm.length + k <= qi:=λk hk=>by unfold qi;omega
 have pa:=p7 0 zo
 have pb:=p8 0 zo
 rw [Nat.add_zero] at pa pb
 generalize hw:Wd _ _ h = w
 rw [ql 33 c33] at hw
 cases hM:M.isEmpty with
 | true=>
  cases cp <;> simp only [cond_true,cond_false,jw,jW] at r3 ra rb a9 hw ⊢ <;> simp only [c33,sT.1,sC.1,qe,seval,-rN,qgx,qbx,qby,qcn,qCT,hM,q3,r1,r2,r3,ra,rb,dV,d1,w1,d2,w2,d3,w3,d9,w9,b1,b2,q1,q2,p9] at hw <;> subst hw <;> exact a9
 | false=>
  obtain ⟨G5,W5,G6,W6,re,rf,rg,t5,t6⟩:=fin (by rintro rfl;cases hM)
  obtain ⟨d5,w5,_,_⟩:=t5.1.facts
  obtain ⟨d6,w6,_,_⟩:=t6.1.facts
  have a6:=t6.leave
  cases cp <;> simp only [cond_true,cond_false,jw,jW] at r3 rc rd a6 hw ⊢ <;> simp only [c33,sT.1,sC.1,qe,seval,-rN,qgx,qbx,qby,qcn,qCT,hM,q3,r1,r2,r3,rc,rd,re,rf,rg,dV,d1,w1,d2,w2,d3,w3,d4,Y,d5,w5,d6,w6,b1,b2,q1,q2,p9] at hw <;> subst hw <;> simpa using a6
end
end Go.Proofs.YtcbfifamliijlaaGreatDoor.AE
