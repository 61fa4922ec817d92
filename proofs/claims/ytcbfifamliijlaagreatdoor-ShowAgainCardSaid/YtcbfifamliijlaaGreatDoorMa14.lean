/- A part of the proof. No condition. -/
import Derived.Test.YtcbfifamliijlaaGreatDoorMa13
open Int renaming reduceNatCast'→rN
set_option maxRecDepth 100000
set_option maxHeartbeats 0
open List renaming getElem?_append_left→ja,getElem?_set_ne→jf,getElem?_set_self→jg,length_append→ji,length_map→jQ,append_assoc→jp,append_nil→jF,nil_append→jV,cons_append→jw,length_cons→jy,length_nil→jz,all_cons→jB
open Nat renaming add_assoc→jt
namespace Go.Proofs.YtcbfifamliijlaaGreatDoor.AE
open Go.AE
def qbi.k (x:qbi):List PT:=bif x.kind == 0 then nm0 [97,100,100] :: qau.k ⟨x.name,x.model⟩ else bif x.kind == 1 then [nm0 [100,114,111,112],nm0 x.name,mk3 [59]] else nm0 (bif x.kind == 2 then [116,105,101] else [99,117,116]) :: x.link.k
def qeo:qaf:=⟨⟨[],[]⟩,⟨[],[]⟩⟩
def qbi.good (x:qbi):Prop:=(x.kind = 0/\qI x.name = true/\qI x.model = true/\x.link = qeo)\/(x.kind = 1/\qI x.name = true/\x.model = []/\x.link = qeo)\/((x.kind = 2\/x.kind = 3)/\x.name = []/\x.model = []/\x.link.good)
def qak.good (x:qak):Prop:=qI x.name = true/\right 20 x.e = true
def qab.good (x:qab):Prop:=qI x.port = true/\right 20 x.e = true/\x.ifs.length <= 1/\∀e ∈ x.ifs,right 20 e = true
def qau.good (x:qau):Prop:=qI x.name = true/\qI x.model = true
def qM.good (x:qM):Prop:=qI x.name = true/\tyB 3 x.t = true
def qS.good (x:qS):Prop:=right 20 x.e = true/\x.acts.length <= 5/\∀a ∈ x.acts,a.good
def qbt {D:Type} (kw:D->List PT) (l:List D):List PT:=mk3 [123] :: ((l.map kw).flatten ++ [mk3 [125]])
def qS.k (x:qS):List PT:=tk 20 x.e ++ qbt qbi.k x.acts
def qS.pe (x:qS):qd:=.agg (x.e.cv.cs φP ++ [.lst (x.acts.map qbi.enc) (fl x.acts.isEmpty)])
def qM.k (x:qM):List PT:=nm0 x.name :: mk3 [58] :: (tyk 3 x.t ++ [mk3 [59]])
def qM.pe (x:qM):qd:=.agg (.str x.name :: x.t.cv.cs)
section
variable {ws:List Tok} {n:Nat} {r:List PT}
theorem qtj {x:qaf} (hw:WF ws) (g:x.good) (hs:See ws n (x.k ++ r)):PY ws 139 n x.enc (n + x.k.length)/\n + x.k.length < ws.length:=⟨(qtk hw g n r hs).2,(qtk hw g n r hs).1⟩
theorem qFP (hw:WF ws) {x:qbi} (g:x.good):Rd ws 176 x.enc x.k:=by
 intro n r hs
 obtain ⟨kd,nm,md,ln⟩:=x
 rcases g with ⟨g0,g1,g2,g3⟩ | ⟨g0,g1,g2,g3⟩ | ⟨g0,g1,g2,g3⟩
 ·simp only at g0 g1 g2 g3
  subst g0 g3
  have hs:See ws n (nm0 [97,100,100] :: (qau.k ⟨nm,md⟩ ++ r)):=hs
  obtain ⟨k0,s0,h0⟩:=qc4 hw [97,100,100] rfl hs
  obtain ⟨h1,k1⟩:=qzg hw (x:=⟨nm,md⟩) g1 g2 (n + 1) r s0
  rw [show n + (qbi.k ⟨0,nm,md,qeo⟩).length = n + 1 + (qau.k ⟨nm,md⟩).length by simp [qbi.k];omega]
  refine ⟨h1,λh i hi=>?_⟩
  have E:=qf hi
  rw [qm 176 qiZ]
  simp only [qiZ,sT.1,sC.1,qg,seval,-rN,qz,qau.enc,qbi.enc,qeo,hi,E,k0,k1]
 ·simp only at g0 g1 g2 g3
  subst g0 g2 g3
  have hs:See ws n (nm0 [100,114,111,112] :: nm0 nm :: mk3 [59] :: r):=hs
  have k0:=qaQ hw [97,100,100] rfl hs
  obtain ⟨k1,s1,h1⟩:=qc4 hw [100,114,111,112] rfl hs
  obtain ⟨k2,s2,h2⟩:=qef hw g1 s1
  obtain ⟨k3,s3,h3⟩:=qaL hw [59] rfl s2
  rw [show n + (qbi.k ⟨1,nm,[],qeo⟩).length = n + 1 + 1 + 1 by rfl]
  refine ⟨h3,λh i hi=>?_⟩
  have E:=qf hi
  rw [qm 176 qiZ]
  simp only [qiZ,sT.1,sC.1,qg,seval,-rN,qbi.enc,qeo,hi,E,k0,k1,k2,k3]
 ·simp only at g0 g1 g2 g3
  subst g1 g2
  rcases g0 with rfl | rfl
  ·have hs:See ws n (nm0 [116,105,101] :: (ln.k ++ r)):=hs
   have k0:=qaQ hw [97,100,100] rfl hs
   have k1:=qaQ hw [100,114,111,112] rfl hs
   obtain ⟨k2,s2,h2⟩:=qc4 hw [116,105,101] rfl hs
   obtain ⟨k3,h3⟩:=qtj hw g3 s2
   rw [show n + (qbi.k ⟨2,[],[],ln⟩).length = n + 1 + ln.k.length by simp [qbi.k];omega]
   refine ⟨h3,λh i hi=>?_⟩
   have E:=qf hi
   rw [qm 176 qiZ]
   simp only [qiZ,sT.1,sC.1,qg,seval,-rN,qbi.enc,qaf.enc,hi,E,k0,k1,k2,k3]
  ·have hs:See ws n (nm0 [99,117,116] :: (ln.k ++ r)):=hs
   have k0:=qaQ hw [97,100,100] rfl hs
   have k1:=qaQ hw [100,114,111,112] rfl hs
   have k2:=qaQ hw [116,105,101] rfl hs
   obtain ⟨k4,s4,h4⟩:=qaL hw [99,117,116] rfl hs
   obtain ⟨k3,h3⟩:=qtj hw g3 s4
   rw [show n + (qbi.k ⟨3,[],[],ln⟩).length = n + 1 + ln.k.length by simp [qbi.k];omega]
   refine ⟨h3,λh i hi=>?_⟩
   have E:=qf hi
   rw [qm 176 qiZ]
   simp only [qiZ,sT.1,sC.1,qg,seval,-rN,qbi.enc,qaf.enc,hi,E,k0,k1,k2,k3,k4]
def qzB (ws:List Tok) (n:Nat):Bool:=isW ws n [97,100,100] || isW ws n [100,114,111,112] || isW ws n [116,105,101] || isW ws n [99,117,116]
theorem qkE (hw:WF ws) {h:List qj} {i:Nat} (hn:n < ws.length) (hi:h[i]? = some (PB ws n)):Wd (.fn 175 [] []) [.ptr i 0] h = some (.ret (.bool (qzB ws n)),h,false):=by
 rw [qm 175 qCJ]
 cases a:isW ws n [97,100,100] <;> cases b:isW ws n [100,114,111,112] <;> cases c:isW ws n [116,105,101] <;> simp only [qCJ,sT.1,sC.1,qg,qH,seval,-rN,qbu hw hn hi,qzB,a,b,c]
theorem qjI (d:qbi):qhF 7 d.enc:=⟨_,rfl,rfl,by simp [qd.storable],λn=>by simp [qw,qd.lower],rfl⟩
theorem qih (d:qau):qhF 2 d.enc:=⟨_,rfl,rfl,by simp [qd.storable],λn=>by simp [qw,qd.lower],rfl⟩
theorem qh9 (d:qaf):qhF 4 d.enc:=⟨_,rfl,rfl,by simp [qd.storable],λn=>by simp [qw,qd.lower],rfl⟩
theorem qmy (e:Exp) (n:Nat):qw n (e.cs φP) = true:=by cases e;simp [Exp.cs,qw,qd.lower,qal]
theorem qgn (d:qak):qhF 6 d.pe:=by
 rw [qak.pe]
 generalize d.e.cv = e
 obtain ⟨o,c,u,v,y⟩:=e
 exact ⟨_,rfl,rfl,by simp [qd.storable,Exp.cs],λn=>by simp [qw,qd.lower,Exp.cs,qal],by simp only [Exp.cs,List.map_cons,List.map_nil,qY];rfl⟩
theorem qij (d:qM):qhF 3 d.pe:=by
 rw [qM.pe]
 generalize d.t.cv = t
 obtain ⟨a,b,e,h1,h2,h3,h4⟩:=qbT t
 have hl:=λn=>qc5 n t
 rw [e] at hl ⊢
 exact ⟨_,rfl,rfl,by rw [jB,jB,jB,h3,h4];rfl,λn=>by have:=hl n;simp [qw,qd.lower] at this ⊢;exact this,by simp only [List.map_cons,List.map_nil,h1,h2];rfl⟩
theorem qho (n:Nat):∀es:List Exl,qw n (es.map λe=>e.cv.enc φP) = true
 | []=>rfl
 | e :: es=>by rw [List.map_cons,qw,qho n es,Exp.enc,qd.lower,qmy];rfl
theorem qhP (d:qab):qhF 7 d.pe:=by
 rw [qab.pe]
 generalize d.e.cv = e
 have hl:=λn=>qho n d.ifs
 generalize (d.ifs.map λe=>e.cv.enc φP) = l at *
 obtain ⟨o,c,u,v,y⟩:=e
 exact ⟨_,rfl,rfl,by simp [qd.storable,Exp.cs],λn=>by simp [qw,qd.lower,Exp.cs,qal,hl],by simp only [Exp.cs,jw,jV,List.map_cons,List.map_nil,qY];rfl⟩
theorem qeH {D:Type} {k:Nat} {enc:D->qd} (h:∀d,qhF k (enc d)) (ds:List D):∀v ∈ ds.map enc,qhF k v:=λv hv=>by
 obtain ⟨d,_,rfl⟩:=List.mem_map.1 hv
 exact h d
theorem qfQ (k:Nat) (ds:List qbi):qw k (ds.map qbi.enc) = true:=qbw (qeH qjI ds) k
theorem qaB (k:Nat) (ds:List qak):qw k (ds.map qak.pe) = true:=qbw (qeH qgn ds) k
theorem qio (d:qS):qhF 6 d.pe:=by
 rw [qS.pe]
 generalize d.e.cv = e
 have hl:=λn=>qfQ n d.acts
 generalize d.acts.map qbi.enc = l at *
 generalize d.acts.isEmpty = b
 obtain ⟨o,c,u,v,y⟩:=e
 exact ⟨_,rfl,rfl,by simp [qd.storable,Exp.cs],λn=>by simp [qw,qd.lower,Exp.cs,qal,hl],by simp only [Exp.cs,jw,jV,List.map_cons,List.map_nil,qY];rfl⟩
theorem qeG {D E:Type} (f:D->E) (l:List D):(l.map f).isEmpty = l.isEmpty:=by cases l <;> rfl
theorem qCv (hw:WF ws) {l:List qbi} (hl:l.length <= 5) (hg:∀a ∈ l,a.good) (hs:See ws n ((l.map qbi.k).flatten ++ mk3 [125] :: r)):(∀(h:List qj) (i:Nat),h[i]? = some (PB ws n)->Wd (.fn 174 [] []) [.ptr i 0,.int .i64 5,.fn 175 [.ptr i 0] [],.fn 176 [.ptr i 0] []] h = some (.ret (.lst (l.map qbi.enc) (fl l.isEmpty)),h.set i (PB ws (n + (l.map qbi.k).flatten.length)),false))/\See ws (n + (l.map qbi.k).flatten.length) (mk3 [125] :: r):=by
 have s9:=hs.app.2
 refine ⟨λh i hi=>?_,s9⟩
 have E:qzB ws (n + (l.map qbi.k).flatten.length) = false:=by simp only [qzB,s9.is];rfl
 have hc:=qrk (One:=qqN ws (ι:=Nat) (λi=>i) 7 (λi=>.fn 176 [.ptr i 0] []) (λ_ _=>True) (qzB ws)) (enc:=qbi.enc) l n (mk3 [125] :: r) (λd hd n r hs=>by
  have g:=hg d hd
  have hb:qzB ws n = true/\n < ws.length:=by
   rcases g with ⟨g0,_⟩ | ⟨g0,_⟩ | ⟨g0 | g0,_⟩ <;> (simp only [qbi.k,g0] at hs;exact ⟨by simp only [qzB,See.is hs];rfl,hs.head.1⟩)
  exact ⟨hb.2,hb.1,qjI d,λi h _ hi=>by rw [qbP];exact (qFP hw g n r hs).2 h i hi⟩) hs
 have:=qln (F:=174) (k:=7) (z:=[.int .i64 0,.str [],.str [],.str [],.str [],.str [],.str []]) (most:=5) (fb:=175) (fa:=λi=>[.ptr i 0]) (fc:=λ_=>[]) (ob:=λi=>[.ptr i 0]) (oc:=λ_=>[]) rfl zk (by decide) rfl (by decide) (by decide) (λ_ _ _ _=>trivial) (λm i h hm _ hi=>by rw [qbP];exact qkE hw hm hi) hc s9.head.1 E (by simpa using hl) i h trivial hi
 rwa [qeG] at this
theorem qED (hw:WF ws) {x:qS} (g:x.good):Rd ws 141 x.pe x.k:=by
 intro n r hs
 obtain ⟨g1,g2,g3⟩:=g
 simp only [qS.k,qbt,jw,jV,jp] at hs
 obtain ⟨k0,s0,h0⟩:=qi2 hw g1 rfl hs
 obtain ⟨k1,s1,h1⟩:=qaL hw [123] rfl s0
 obtain ⟨k2,s2⟩:=qCv hw g2 g3 s1
 obtain ⟨k3,s3,h3⟩:=qaL hw [125] rfl s2
 rw [show n + x.k.length = n + (tk 20 x.e).length + 1 + (x.acts.map qbi.k).flatten.length + 1 by simp only [qS.k,qbt,ji,jy,jz];omega]
 refine ⟨h3,λh i hi=>?_⟩
 have E:=qf hi
 have I:=qfQ h.length x.acts
 rw [qm 141 qzX]
 rw [qS.pe]
 generalize x.e.cv = y at *
 obtain ⟨o,c,u,v,z⟩:=y
 simp only [qzX,sT.1,sC.1,qg,seval,-rN,Nd.enc,Nd.cs,Exp.cs,qal,qY,qaa,qfQ,hi,E,k0,k1,k2,k3]
theorem quM (hw:WF ws) {l:List qak} (hl:l.length <= 10) (hg:∀a ∈ l,a.good) (hs:See ws n (qbt qak.k l ++ r)):PY ws 146 n (.lst (l.map qak.pe) (fl l.isEmpty)) (n + (qbt qak.k l).length)/\See ws (n + (qbt qak.k l).length) r/\n + (qbt qak.k l).length < ws.length:=by
 have s8:=hs.app.2
 simp only [qbt,jw,jV,jp] at hs
 obtain ⟨k1,s1,h1⟩:=qaL hw [123] rfl hs
 have s9:=s1.app.2
 obtain ⟨k3,s3,h3⟩:=qaL hw [125] rfl s9
 have e:n + (qbt qak.k l).length = n + 1 + (l.map qak.k).flatten.length + 1:=by simp only [qbt,ji,jy,jz];omega
 rw [e] at s8 ⊢
 refine ⟨λh i hi=>?_,s8,h3⟩
 have a1:qU ws (n + 1 + (l.map qak.k).flatten.length) = false:=by rw [s9.named];rfl
 have hc:=qrk (One:=qqN ws (ι:=Nat) (λi=>i) 6 (λi=>.fn 143 [.ptr i 0] []) (λ_ _=>True) (qU ws)) (enc:=qak.pe) l (n + 1) (mk3 [125] :: r) (λd hd n r hs=>by
  have g:=hg d hd
  have E:=hs
  simp only [qak.k,jw] at E
  exact ⟨E.head.1,by rw [E.named];exact g.1,qgn d,λi h _ hi=>by rw [qbP];exact (qEI hw g.1 g.2 n r hs).2 h i hi⟩) s1
 have k2:=λ(h:List qj) (i:Nat) (hi:h[i]? = some (PB ws (n + 1)))=>qln (F:=177) (k:=6) (z:=[.str [],.int .i64 0,.int .i64 0,.str [],.str [],.lst [] .full]) (most:=10) (fb:=96) (fa:=λi=>[.ptr i 0]) (fc:=λ_=>[]) (ob:=λi=>[.ptr i 0]) (oc:=λ_=>[]) rfl zk (by decide) rfl (by decide) (by decide) (λ_ _ _ _=>trivial) (λm i h hm _ hi=>by rw [qbP];exact qT hw hm hi) hc s9.head.1 a1 (by simpa using hl) i h trivial hi
 simp only [qeG] at k2
 have Y:=qf hi
 have I:((10:Nat):Int) = 10:=rfl
 rw [I] at k2
 rw [qm 146 qzY]
 simp only [qzY,sT.1,sC.1,qg,seval,-rN,qY,qaa,qaB,hi,Y,k1,k2,k3]
theorem qEr (hw:WF ws) {x:qM} (g:x.good):Rd ws 92 x.pe x.k:=by
 intro n r hs
 obtain ⟨g1,g2⟩:=g
 simp only [qM.k,jw,jV,jp] at hs
 obtain ⟨k0,s0,h0⟩:=qef hw g1 hs
 obtain ⟨k1,s1,h1⟩:=qaL hw [58] rfl s0
 obtain ⟨k2,s2,h2⟩:=(qzp hw 3 x.t zo g2).st s1
 obtain ⟨k3,s3,h3⟩:=qaL hw [59] rfl s2
 have t4:(4:Int) - ((3:Nat):Int) = 1:=rfl
 rw [t4] at k2
 rw [show n + x.k.length = n + 1 + 1 + (tyk 3 x.t).length + 1 by simp only [qM.k,ji,jy,jz];omega]
 refine ⟨h3,λh i hi=>?_⟩
 have Y:=qf hi
 have I:=qc5 h.length x.t.cv
 rw [qM.pe]
 generalize x.t.cv = t at *
 obtain ⟨a,b,e,d1,d2,d3,d4⟩:=qbT t
 have E:=λn=>qc5 n t
 rw [e] at I E k2 ⊢
 rw [qm 92 c92]
 simp only [qw,Bool.and_eq_true] at I E
 simp only [c92,sT.1,sC.1,qg,seval,-rN,d1,d2,d3,d4,I.1,I.2.1,(E _).1,(E _).2.1,hi,Y,k0,k1,k2,k3]
end
def kwl {D:Type} (first:Str) (kw:D->List PT) (l:List D):List PT:=(l.map (qdY first kw)).flatten
theorem qf9 {D:Type} (first:Str) (kw:D->List PT) (l:List D) (t:PT) (r:List PT):∃t' r',kwl first kw l ++ t :: r = t' :: r'/\(t' = nm0 first\/t' = t):=by
 cases l with
 | nil=>exact ⟨_,_,rfl,.inr rfl⟩
 | cons d l=>exact ⟨nm0 first,_,rfl,.inl rfl⟩
theorem qCE {a b:Nat} (h:b < a):Nat.ble a b = false:=by
 cases e:Nat.ble a b with
 | false=>rfl
 | true=>have:=Nat.le_of_ble_eq_true e;omega
theorem two {h:List qj} {i r:Nat} {x y:qj} (hi:h[i]? = some x) (hr:h[r]? = some y) (E:i ≠ r):i < h.length/\r < h.length/\Nat.ble h.length r = false/\(∀a b,((h.set i a).set r b)[i]? = some a)/\(∀a b,((h.set i a).set r b)[r]? = some b)/\(∀a,(h.set i a)[r]? = some y)/\(∀a b c,((h.set i a).set r b).set i c = (h.set i c).set r b)/\(∀a b c,((h.set i a).set r b).set r c = (h.set i a).set r c)/\∀a,h.set i a = (h.set i a).set r y:=by
 have Y:=qf hi
 have I:=qf hr
 refine ⟨Y,I,qCE I,λa b=>by rw [jf (Ne.symm E),jg Y],λa b=>jg (by simpa using I),λa=>by rw [jf E];exact hr,λa b c=>by rw [List.set_comm _ _ (Ne.symm E),List.set_set],λa b c=>List.set_set ..,λa=>?_⟩
 apply List.ext_getElem?
 intro j
 by_cases hj:r = j
 ·subst hj;rw [jg (by simpa using I),jf E,hr]
 ·rw [jf hj]
abbrev qvx (nm:Str) (c:Bool) (ins outs us vs xs:qd):List qd:=[.str nm,.bool c,ins,outs,.lst [] .full,.lst [] .full,.lst [] .full,.lst [] .full,.lst [] .full,.int .i64 0,.lst [] .full,us,vs,xs]
abbrev qvw (nm:Str) (c:Bool) (ins outs:qd):List qd:=qvx nm c ins outs (.lst [] .full) (.lst [] .full) (.lst [] .full)
abbrev qEz (nm:Str) (c:Bool) (ins outs vars ta emits int ext:qd) (con:Int) (own:qd):List qd:=[.str nm,.bool c,ins,outs,vars,ta,emits,int,ext,.int .i64 con,own,.lst [] .full,.lst [] .full,.lst [] .full]
section
variable {ws:List Tok} {n:Nat} {r:List PT}
theorem qe9 (hw:WF ws) {f:Str} {l:List qM} (hl:l.length <= 8) (hg:∀d ∈ l,d.good) {t:PT} (ht:tW t f = false) (hs:See ws n (kwl f qM.k l ++ t :: r)) :
  (∀(h:List qj) (i:Nat),h[i]? = some (PB ws n)->Wd (.fn 91 [] []) [.ptr i 0,.int .i64 8,.str f,.fn 92 [.ptr i 0] []] h = some (.ret (.lst (l.map qM.pe) (fl l.isEmpty)),h.set i (PB ws (n + (kwl f qM.k l).length)),false))/\See ws (n + (kwl f qM.k l).length) (t :: r)/\n + (kwl f qM.k l).length < ws.length:=
 qgC (M:=132) (B:=133) (O:=134) (k:=3) (z:=[.str [],.int .i64 0,.lst [] .full]) (most:=8) rfl zk rfl zk rfl zk rfl zk hw (by decide) rfl rfl (by decide) (by decide) hl (λd hd=>⟨qij d,qEr hw (hg d hd)⟩) ht hs
theorem qco (k:Nat) (l:List qM):qw k (l.map qM.pe) = true:=qbw (qeH qij l) k
theorem qp5 (hw:WF ws) {l:List qau} (hl:l.length <= 32) (hg:∀d ∈ l,d.good) {t:PT} (ht:tW t [112,97,114,116] = false) (hs:See ws n (kwl [112,97,114,116] qau.k l ++ t :: r)) :
  (∀(h:List qj) (i:Nat),h[i]? = some (PB ws n)->Wd (.fn 136 [] []) [.ptr i 0,.int .i64 32,.str [112,97,114,116],.fn 137 [.ptr i 0] []] h = some (.ret (.lst (l.map qau.enc) (fl l.isEmpty)),h.set i (PB ws (n + (kwl [112,97,114,116] qau.k l).length)),false))/\See ws (n + (kwl [112,97,114,116] qau.k l).length) (t :: r)/\n + (kwl [112,97,114,116] qau.k l).length < ws.length:=
 qgC (M:=164) (B:=165) (O:=166) (k:=2) (z:=[.str [],.str []]) (most:=32) rfl zk rfl zk rfl zk rfl zk hw (by decide) rfl rfl (by decide) (by decide) hl (λd hd=>⟨qih d,qzg hw (hg d hd).1 (hg d hd).2⟩) ht hs
theorem qe8 (k:Nat) (l:List qau):qw k (l.map qau.enc) = true:=qbw (qeH qih l) k
theorem qpM (hw:WF ws) {l:List qaf} (hl:l.length <= 200) (hg:∀d ∈ l,d.good) {t:PT} (ht:tW t [108,105,110,107] = false) (hs:See ws n (kwl [108,105,110,107] qaf.k l ++ t :: r)) :
  (∀(h:List qj) (i:Nat),h[i]? = some (PB ws n)->Wd (.fn 138 [] []) [.ptr i 0,.int .i64 200,.str [108,105,110,107],.fn 139 [.ptr i 0] []] h = some (.ret (.lst (l.map qaf.enc) (fl l.isEmpty)),h.set i (PB ws (n + (kwl [108,105,110,107] qaf.k l).length)),false))/\See ws (n + (kwl [108,105,110,107] qaf.k l).length) (t :: r)/\n + (kwl [108,105,110,107] qaf.k l).length < ws.length:=
 qgC (M:=167) (B:=168) (O:=169) (k:=4) (z:=[.str [],.str [],.str [],.str []]) (most:=200) rfl zk rfl zk rfl zk rfl zk hw (by decide) rfl rfl (by decide) (by decide) hl (λd hd=>⟨qh9 d,qtk hw (hg d hd)⟩) ht hs
theorem qe5 (k:Nat) (l:List qaf):qw k (l.map qaf.enc) = true:=qbw (qeH qh9 l) k
theorem qqh (hw:WF ws) {l:List qS} (hl:l.length <= 4) (hg:∀d ∈ l,d.good) {t:PT} (ht:tW t [114,117,108,101] = false) (hs:See ws n (kwl [114,117,108,101] qS.k l ++ t :: r)) :
  (∀(h:List qj) (i:Nat),h[i]? = some (PB ws n)->Wd (.fn 140 [] []) [.ptr i 0,.int .i64 4,.str [114,117,108,101],.fn 141 [.ptr i 0] []] h = some (.ret (.lst (l.map qS.pe) (fl l.isEmpty)),h.set i (PB ws (n + (kwl [114,117,108,101] qS.k l).length)),false))/\See ws (n + (kwl [114,117,108,101] qS.k l).length) (t :: r)/\n + (kwl [114,117,108,101] qS.k l).length < ws.length:=
 qgC (M:=171) (B:=172) (O:=173) (k:=6) (z:=[.int .i64 0,.int .i64 0,.str [],.str [],.lst [] .full,.lst [] .full]) (most:=4) rfl zk rfl zk rfl zk rfl zk hw (by decide) rfl rfl (by decide) (by decide) hl (λd hd=>⟨qio d,qED hw (hg d hd)⟩) ht hs
theorem qgk (k:Nat) (l:List qS):qw k (l.map qS.pe) = true:=qbw (qeH qio l) k
theorem qve (hw:WF ws) {l:List qak} (hl:l.length <= 10) (hg:∀d ∈ l,d.good) {t:PT} (ht:tW t [118,97,114] = false) (hs:See ws n (kwl [118,97,114] qak.k l ++ t :: r)) :
  (∀(h:List qj) (i:Nat),h[i]? = some (PB ws n)->Wd (.fn 142 [] []) [.ptr i 0,.int .i64 10,.str [118,97,114],.fn 143 [.ptr i 0] []] h = some (.ret (.lst (l.map qak.pe) (fl l.isEmpty)),h.set i (PB ws (n + (kwl [118,97,114] qak.k l).length)),false))/\See ws (n + (kwl [118,97,114] qak.k l).length) (t :: r)/\n + (kwl [118,97,114] qak.k l).length < ws.length:=
 qgC (M:=177) (B:=178) (O:=179) (k:=6) (z:=[.str [],.int .i64 0,.int .i64 0,.str [],.str [],.lst [] .full]) (most:=10) rfl zk rfl zk rfl zk rfl zk hw (by decide) rfl rfl (by decide) (by decide) hl (λd hd=>⟨qgn d,qEI hw (hg d hd).1 (hg d hd).2⟩) ht hs
theorem qo2 (hw:WF ws) {l:List qab} (hl:l.length <= 8) (hg:∀d ∈ l,d.good) {t:PT} (ht:tW t [101,109,105,116] = false) (hs:See ws n (kwl [101,109,105,116] qab.k l ++ t :: r)) :
  (∀(h:List qj) (i:Nat),h[i]? = some (PB ws n)->Wd (.fn 144 [] []) [.ptr i 0,.int .i64 8,.str [101,109,105,116],.fn 145 [.ptr i 0] []] h = some (.ret (.lst (l.map qab.pe) (fl l.isEmpty)),h.set i (PB ws (n + (kwl [101,109,105,116] qab.k l).length)),false))/\See ws (n + (kwl [101,109,105,116] qab.k l).length) (t :: r)/\n + (kwl [101,109,105,116] qab.k l).length < ws.length:=
 qgC (M:=180) (B:=181) (O:=182) (k:=7) (z:=[.str [],.int .i64 0,.int .i64 0,.str [],.str [],.lst [] .full,.lst [] .full]) (most:=8) rfl zk rfl zk rfl zk rfl zk hw (by decide) rfl rfl (by decide) (by decide) hl (λd hd=>⟨qhP d,qCY hw (hg d hd).1 (hg d hd).2.1 (hg d hd).2.2.1 (hg d hd).2.2.2⟩) ht hs
theorem qbB (k:Nat) (l:List qab):qw k (l.map qab.pe) = true:=qbw (qeH qhP l) k
def qfZ (m:qr):List PT:=kwl [112,97,114,116] qau.k m.parts ++ (kwl [108,105,110,107] qaf.k m.links ++ kwl [114,117,108,101] qS.k m.rules)
def qyM (con:Int) (own:List qak):List PT:=bif con == 1 then [nm0 [99,111,110],nm0 [101,120,116],nm0 [105,110,116],mk3 [59]] else bif con == 2 then nm0 [99,111,110] :: qbt qak.k own else []
def taK (l:List Exl):List PT:=(l.map λe=>nm0 [116,97] :: (tk 20 e ++ [mk3 [59]])).flatten
def qfT (m:qr):List PT:=kwl [118,97,114] qak.k m.vars ++ (taK m.ta ++ (kwl [101,109,105,116] qab.k m.emits ++ (nm0 [105,110,116] :: (qbt qak.k m.int ++ (nm0 [101,120,116] :: (qbt qak.k m.ext ++ qyM m.con m.own))))))
structure qr.gc (m:qr):Prop where
 parts:m.parts.length <= 32/\∀d ∈ m.parts,d.good
 links:m.links.length <= 200/\∀d ∈ m.links,d.good
 rules:m.rules.length <= 4/\∀d ∈ m.rules,d.good
structure qr.ga (m:qr):Prop where
 vars:m.vars.length <= 10/\∀d ∈ m.vars,d.good
 ta:∃e,m.ta = [e]/\right 20 e = true
 emits:m.emits.length <= 8/\∀d ∈ m.emits,d.good
 int:m.int.length <= 10/\∀d ∈ m.int,d.good
 ext:m.ext.length <= 10/\∀d ∈ m.ext,d.good
 own:m.own.length <= 10/\∀d ∈ m.own,d.good
 con:(m.con = 0\/m.con = 1)/\m.own = []\/m.con = 2
def qiL (nm:Str) (c:Bool) (ins outs:qd) (m:qr):List qd:=qvx nm c ins outs (.lst (m.parts.map qau.enc) (fl m.parts.isEmpty)) (.lst (m.links.map qaf.enc) (fl m.links.isEmpty)) (.lst (m.rules.map qS.pe) (fl m.rules.isEmpty))
def qgv (nm:Str) (c:Bool) (ins outs:qd) (m:qr):List qd:=qEz nm c ins outs (.lst (m.vars.map qak.pe) (fl m.vars.isEmpty)) (.lst (m.ta.map λe=>e.cv.enc φP) .full) (.lst (m.emits.map qab.pe) (fl m.emits.isEmpty)) (.lst (m.int.map qak.pe) (fl m.int.isEmpty)) (.lst (m.ext.map qak.pe) (fl m.ext.isEmpty)) m.con (.lst (m.own.map qak.pe) (fl m.own.isEmpty))
theorem qga {D:Type} {first w:Str} {kw:D->List PT} {l:List D} {t:PT} {r:List PT} (h1:tW (nm0 first) w = false) (h2:tW t w = false):∃t' r',kwl first kw l ++ t :: r = t' :: r'/\tW t' w = false:=by
 obtain ⟨t',r',e,h⟩:=qf9 first kw l t r
 exact ⟨t',r',e,by rcases h with rfl | rfl <;> assumption⟩
theorem qrw (hw:WF ws) {m:qr} (g:m.gc) {nm:Str} {c:Bool} {is os:List qd} {b1 b2:Bool} (hs:See ws n (qfZ m ++ mk3 [125] :: r)):(∀(h:List qj) (i j:Nat),h[i]? = some (PB ws n)->h[j]? = some (.cells (qvw nm c (.lst is (fl b1)) (.lst os (fl b2))))->i ≠ j->Wd (.fn 93 [] []) [.ptr i 0,.ptr j 0] h = some (.ret (.tup []),(h.set i (PB ws (n + (qfZ m).length))).set j (.cells (qiL nm c (.lst is (fl b1)) (.lst os (fl b2)) m)),false))/\See ws (n + (qfZ m).length) (mk3 [125] :: r):=by
 have s9:=hs.app.2
 have e9:n + (qfZ m).length = n + (kwl [112,97,114,116] qau.k m.parts).length + (kwl [108,105,110,107] qaf.k m.links).length + (kwl [114,117,108,101] qS.k m.rules).length:=by simp only [qfZ,ji];omega
 rw [e9] at s9 ⊢
 refine ⟨λh i j hi hr I=>?_,s9⟩
 simp only [qfZ,jp] at hs
 obtain ⟨t2,r2,e2,z2⟩:=qga (first:=[114,117,108,101]) (w:=[108,105,110,107]) (kw:=qS.k) (l:=m.rules) (t:=mk3 [125]) (r:=r) rfl rfl
 obtain ⟨t1,r1,q1,z1⟩ :∃t' r',kwl [108,105,110,107] qaf.k m.links ++ (kwl [114,117,108,101] qS.k m.rules ++ mk3 [125] :: r) = t' :: r'/\tW t' [112,97,114,116] = false:=by
  obtain ⟨t',r',e,h⟩:=qga (first:=[114,117,108,101]) (w:=[112,97,114,116]) (kw:=qS.k) (l:=m.rules) (t:=mk3 [125]) (r:=r) rfl rfl
  rw [e]
  exact qga rfl h
 have E:=hs
 rw [q1] at E
 obtain ⟨k0,s0,h0⟩:=qp5 hw g.parts.1 g.parts.2 z1 E
 rw [<-q1,e2] at s0
 obtain ⟨k1,s1,h1⟩:=qpM hw g.links.1 g.links.2 z2 s0
 rw [<-e2] at s1
 obtain ⟨k2,s2,h2⟩:=qqh hw g.rules.1 g.rules.2 rfl s1
 obtain ⟨a6,Y,a1,s1,s2,s3,s4,s5,s6⟩:=two hi hr I
 have w0:=λk=>qe8 k m.parts
 have w1:=λk=>qe5 k m.links
 have w2:=λk=>qgk k m.rules
 rw [PBi] at hi
 generalize hW:Wd _ _ h = W
 rw [qm 93 c93] at hW
 simp only [c93,sT.1,sC.1,qg,seval,-rN,k0,k1,k2,w0,w1,w2,hi,Y,a1,PBi,s1,s3,s4,qY,qaa] at hW
 exact hW.symm
end
section
variable {ws:List Tok} {n:Nat} {r:List PT}
theorem qvN (hw:WF ws) {m:qr} (g:m.ga) {nm:Str} {c:Bool} {is os:List qd} {b1 b2:Bool} (hs:See ws n (qfT m ++ mk3 [125] :: r)):(∀(h:List qj) (i j:Nat),h[i]? = some (PB ws n)->h[j]? = some (.cells (qvw nm c (.lst is (fl b1)) (.lst os (fl b2))))->i ≠ j->Wd (.fn 94 [] []) [.ptr i 0,.ptr j 0] h = some (.ret (.tup []),(h.set i (PB ws (n + (qfT m).length))).set j (.cells (qgv nm c (.lst is (fl b1)) (.lst os (fl b2)) m)),false))/\See ws (n + (qfT m).length) (mk3 [125] :: r):=by
 have ad:=hs.app.2
 refine ⟨λh i j hi hr ak=>?_,ad⟩
 clear ad
 obtain ⟨e,ht,ge⟩:=g.ta
 have gi:=g.int
 have gx:=g.ext
 have go:=g.own
 have aa:=g.con
 have gv:=g.vars
 have gm:=g.emits
 obtain ⟨mn,mc,af,ab,vs,ta,es,it,ex,cn,ow,pp,ll,rr⟩:=m
 simp only at ht gi gx go aa gv gm
 subst ht
 simp only [qfT,taK,List.map_cons,List.map_nil,List.flatten_cons,List.flatten_nil,jF,jw,jV,jp] at hs
 obtain ⟨k0,s0,h0⟩:=qve hw gv.1 gv.2 rfl hs
 obtain ⟨k1,s1,h1⟩:=qaL hw [116,97] rfl s0
 obtain ⟨k2,s2,h2⟩:=qi2 hw ge rfl s1
 obtain ⟨k3,s3,h3⟩:=qaL hw [59] rfl s2
 obtain ⟨k4,s4,h4⟩:=qo2 hw gm.1 gm.2 rfl s3
 obtain ⟨k5,s5,h5⟩:=qaL hw [105,110,116] rfl s4
 obtain ⟨k6,s6,h6⟩:=quM hw gi.1 gi.2 s5
 obtain ⟨k7,s7,h7⟩:=qaL hw [101,120,116] rfl s6
 obtain ⟨k8,s8,h8⟩:=quM hw gx.1 gx.2 s7
 have w0:=λk=>qaB k vs
 have w4:=λk=>qbB k es
 have w6:=λk=>qaB k it
 have w8:=λk=>qaB k ex
 have w9:=λk=>qaB k ow
 obtain ⟨ap,a7,a8,a1,a2,a3,a4,a5,a6⟩:=two hi hr ak
 rw [PBi] at hi
 have base:n + (qfT ⟨mn,mc,af,ab,vs,[e],es,it,ex,cn,ow,pp,ll,rr⟩).length = n + (kwl [118,97,114] qak.k vs).length + 1 + (tk 20 e).length + 1 + (kwl [101,109,105,116] qab.k es).length + 1 + (qbt qak.k it).length + 1 + (qbt qak.k ex).length + (qyM cn ow).length:=by
  simp only [qfT,taK,List.map_cons,List.map_nil,List.flatten_cons,List.flatten_nil,jF,ji,jy,jz];omega
 rw [base]
 clear base
 generalize n + (kwl [118,97,114] qak.k vs).length = n0 at *
 rcases aa with ⟨rfl | rfl,rfl⟩ | rfl
 ·have s8:See ws _ (mk3 [125] :: r):=s8
  have k9:=qaQ hw [99,111,110] rfl s8
  rw [show (qyM 0 []).length = 0 from rfl,Nat.add_zero]
  simp only [qgv,List.map_cons,List.map_nil]
  generalize e.cv = y at *
  obtain ⟨o,q,u,v,z⟩:=y
  simp only [Exp.enc,Exp.cs]
  generalize hW:Wd _ _ h = W
  rw [qm 94 c94] at hW
  simp only [c94,sT.1,sC.1,qg,seval,-rN,k0,w0,k1,k2,k3,k4,w4,k5,k6,w6,k7,k8,w8,k9,hi,a7,a8,PBi,a1,a3,a4,Nd.enc,Nd.cs,Exp.cs,qal,qY,qaa,qcY] at hW
  exact hW.symm
 ·have s8:See ws _ (nm0 [99,111,110] :: nm0 [101,120,116] :: nm0 [105,110,116] :: mk3 [59] :: mk3 [125] :: r):=s8
  obtain ⟨k9,s9,h9⟩:=qc4 hw [99,111,110] rfl s8
  have Y:=qaQ hw [105,110,116] rfl s9
  obtain ⟨I,ai,au⟩:=qc4 hw [101,120,116] rfl s9
  obtain ⟨E,ae,al⟩:=qaL hw [105,110,116] rfl ai
  obtain ⟨aj,am,ar⟩:=qaL hw [59] rfl ae
  rw [show (qyM 1 []).length = 1 + 1 + 1 + 1 from rfl,<-jt,<-jt,<-jt]
  simp only [qgv,List.map_cons,List.map_nil]
  generalize e.cv = y at *
  obtain ⟨o,q,u,v,z⟩:=y
  simp only [Exp.enc,Exp.cs]
  generalize hW:Wd _ _ h = W
  rw [qm 94 c94] at hW
  simp only [c94,sT.1,sC.1,qg,seval,-rN,k0,w0,k1,k2,k3,k4,w4,k5,k6,w6,k7,k8,w8,k9,Y,I,E,aj,hi,a7,a8,PBi,a1,a3,a4,Nd.enc,Nd.cs,Exp.cs,qal,qY,qaa,qcY] at hW
  exact hW.symm
 ·have s8:See ws _ (nm0 [99,111,110] :: (qbt qak.k ow ++ mk3 [125] :: r)):=s8
  obtain ⟨k9,s9,h9⟩:=qc4 hw [99,111,110] rfl s8
  have ac:See ws _ (mk3 [123] :: (((ow.map qak.k).flatten ++ [mk3 [125]]) ++ mk3 [125] :: r)):=s9
  have Y:=qaQ hw [105,110,116] rfl ac
  have I:=qaQ hw [101,120,116] rfl ac
  obtain ⟨E,ae,al⟩:=quM hw go.1 go.2 s9
  rw [show (qyM 2 ow).length = 1 + (qbt qak.k ow).length by show (nm0 [99,111,110] :: qbt qak.k ow).length = _;rw [jy,Nat.add_comm],<-jt]
  simp only [qgv,List.map_cons,List.map_nil]
  generalize e.cv = y at *
  obtain ⟨o,q,u,v,z⟩:=y
  simp only [Exp.enc,Exp.cs]
  generalize hW:Wd _ _ h = W
  rw [qm 94 c94] at hW
  simp only [c94,sT.1,sC.1,qg,seval,-rN,k0,w0,k1,k2,k3,k4,w4,k5,k6,w6,k7,k8,w8,k9,Y,I,E,w9,hi,a7,a8,PBi,a1,a3,a4,Nd.enc,Nd.cs,Exp.cs,qal,qY,qaa,qcY] at hW
  exact hW.symm
def qbI (m:qr):List PT:=nm0 (bif m.coupled then [99,111,117,112,108,101,100] else [97,116,111,109,105,99]) :: nm0 m.name :: mk3 [123] :: (kwl [105,110] qM.k m.ins ++ (kwl [111,117,116] qM.k m.outs ++ ((bif m.coupled then qfZ m else qfT m) ++ [mk3 [125]])))
def qr.row (m:qr):List qd:=bif m.coupled then qiL m.name true (.lst (m.ins.map qM.pe) (fl m.ins.isEmpty)) (.lst (m.outs.map qM.pe) (fl m.outs.isEmpty)) m else qgv m.name false (.lst (m.ins.map qM.pe) (fl m.ins.isEmpty)) (.lst (m.outs.map qM.pe) (fl m.outs.isEmpty)) m
def qr.pe (m:qr):qd:=.agg m.row
structure qr.good (m:qr):Prop where
 name:qI m.name = true
 ins:m.ins.length <= 8/\∀d ∈ m.ins,d.good
 outs:m.outs.length <= 8/\∀d ∈ m.outs,d.good
 body:bif m.coupled then m.gc else m.ga
theorem qj6 (hw:WF ws) {m:qr} (hc:m.coupled = true) (g:m.good):Rd ws 46 m.pe (qbI m):=by
 intro n r hs
 have w:=qJ (n:=n) (by have:=hw.len;have:=hs.head.1;omega)
 have gb:=g.body
 have gn:=g.name
 have gi:=g.ins
 have go:=g.outs
 rw [hc] at gb
 have e9:n + (qbI m).length = n + 1 + 1 + 1 + (kwl [105,110] qM.k m.ins).length + (kwl [111,117,116] qM.k m.outs).length + (qfZ m).length + 1:=by
  simp only [qbI,hc,cond_true,ji,jy,jz];omega
 rw [e9]
 simp only [qbI,hc,cond_true,jw,jV,jp] at hs
 have k0:=qCg hw [99,111,117,112,108,101,100] hs
 have z0:tW (nm0 [99,111,117,112,108,101,100]) [99,111,117,112,108,101,100] = true:=rfl
 have s0:=hs.tail
 obtain ⟨k1,s1,h1⟩:=qef hw gn s0
 obtain ⟨k2,s2,h2⟩:=qaL hw [123] rfl s1
 obtain ⟨x0,y0,x1,x2⟩ :∃t' r',qfZ m ++ mk3 [125] :: r = t' :: r'/\(tW t' [105,110] = false/\tW t' [111,117,116] = false):=by
  obtain ⟨t3,r3,e3,z3⟩:=qf9 [114,117,108,101] qS.k m.rules (mk3 [125]) r
  obtain ⟨t2,r2,e2,z2⟩:=qf9 [108,105,110,107] qaf.k m.links t3 r3
  obtain ⟨t1,r1,e1,z1⟩:=qf9 [112,97,114,116] qau.k m.parts t2 r2
  refine ⟨t1,r1,by simp only [qfZ,jp];rw [e3,e2,e1],?_⟩
  rcases z1 with rfl | rfl
  ·exact ⟨rfl,rfl⟩
  rcases z2 with rfl | rfl
  ·exact ⟨rfl,rfl⟩
  rcases z3 with rfl | rfl <;> exact ⟨rfl,rfl⟩
 have E:=s2
 rw [x1] at E
 obtain ⟨p0,q0,p1,p2⟩:=qga (first:=[111,117,116]) (w:=[105,110]) (kw:=qM.k) (l:=m.outs) (t:=x0) (r:=y0) rfl x2.1
 rw [p1] at E
 obtain ⟨k3,s3,h3⟩:=qe9 hw gi.1 gi.2 p2 E
 rw [<-p1] at s3
 obtain ⟨k4,s4,h4⟩:=qe9 hw go.1 go.2 x2.2 s3
 rw [<-x1] at s4
 obtain ⟨k5,s5⟩:=qrw hw gb (nm:=m.name) (c:=true) (is:=m.ins.map qM.pe) (os:=m.outs.map qM.pe) (b1:=m.ins.isEmpty) (b2:=m.outs.isEmpty) s4
 obtain ⟨k6,s6,h6⟩:=qaL hw [125] rfl s5
 refine ⟨h6,λh i hi=>?_⟩
 have Y:=qf hi
 have I:i ≠ h.length + 1:=zo
 have a1:i ≠ h.length:=zo
 rw [qr.pe,qr.row,hc]
 simp only [cond_true]
 generalize m.name = nm at *
 generalize m.ins.isEmpty = b1 at *
 generalize m.outs.isEmpty = b2 at *
 have w1:=λk=>qco k m.ins
 have w2:=λk=>qco k m.outs
 generalize m.ins.map qM.pe = is at *
 generalize m.outs.map qM.pe = os at *
 have w3:=λk=>qe8 k m.parts
 have w4:=λk=>qe5 k m.links
 have w5:=λk=>qgk k m.rules
 rw [PBi] at hi
 simp only [qvw,qvx,qiL] at k5
 rw [qm 46 c46]
 simp only [c46,sT.1,sC.1,qg,seval,-rN,qY,qaa,qiL,qvx,PBi,hi,Y,I,qN,w,w1,w2,w3,w4,w5,k0,z0,k1,k2,k3,k4,k5,k6]
theorem qlp (hw:WF ws) {m:qr} (hc:m.coupled = false) (g:m.good):Rd ws 46 m.pe (qbI m):=by
 intro n r hs
 have w:=qJ (n:=n) (by have:=hw.len;have:=hs.head.1;omega)
 have gb:=g.body
 have gn:=g.name
 have gi:=g.ins
 have go:=g.outs
 rw [hc] at gb
 have e9:n + (qbI m).length = n + 1 + 1 + 1 + (kwl [105,110] qM.k m.ins).length + (kwl [111,117,116] qM.k m.outs).length + (qfT m).length + 1:=by
  simp only [qbI,hc,cond_false,ji,jy,jz];omega
 rw [e9]
 simp only [qbI,hc,cond_false,jw,jV,jp] at hs
 have k0:=qCg hw [99,111,117,112,108,101,100] hs
 have z0:tW (nm0 [97,116,111,109,105,99]) [99,111,117,112,108,101,100] = false:=rfl
 have s0:=hs.tail
 obtain ⟨k1,s1,h1⟩:=qef hw gn s0
 obtain ⟨k2,s2,h2⟩:=qaL hw [123] rfl s1
 obtain ⟨x0,y0,x1,x2⟩ :∃t' r',qfT m ++ mk3 [125] :: r = t' :: r'/\(tW t' [105,110] = false/\tW t' [111,117,116] = false):=by
  obtain ⟨e,he,_⟩:=gb.ta
  obtain ⟨t1,r1,e1,z1⟩:=qf9 [118,97,114] qak.k m.vars (nm0 [116,97]) (tk 20 e ++ (mk3 [59] :: (kwl [101,109,105,116] qab.k m.emits ++ (nm0 [105,110,116] :: (qbt qak.k m.int ++ (nm0 [101,120,116] :: (qbt qak.k m.ext ++ (qyM m.con m.own ++ mk3 [125] :: r))))))))
  refine ⟨t1,r1,by rw [<-e1];simp only [qfT,taK,he,List.map_cons,List.map_nil,List.flatten_cons,List.flatten_nil,jF,jw,jV,jp],?_⟩
  rcases z1 with rfl | rfl <;> exact ⟨rfl,rfl⟩
 have E:=s2
 rw [x1] at E
 obtain ⟨p0,q0,p1,p2⟩:=qga (first:=[111,117,116]) (w:=[105,110]) (kw:=qM.k) (l:=m.outs) (t:=x0) (r:=y0) rfl x2.1
 rw [p1] at E
 obtain ⟨k3,s3,h3⟩:=qe9 hw gi.1 gi.2 p2 E
 rw [<-p1] at s3
 obtain ⟨k4,s4,h4⟩:=qe9 hw go.1 go.2 x2.2 s3
 rw [<-x1] at s4
 obtain ⟨k5,s5⟩:=qvN hw gb (nm:=m.name) (c:=false) (is:=m.ins.map qM.pe) (os:=m.outs.map qM.pe) (b1:=m.ins.isEmpty) (b2:=m.outs.isEmpty) s4
 obtain ⟨k6,s6,h6⟩:=qaL hw [125] rfl s5
 refine ⟨h6,λh i hi=>?_⟩
 have Y:=qf hi
 have I:i ≠ h.length + 1:=zo
 have a1:i ≠ h.length:=zo
 rw [qr.pe,qr.row,hc]
 simp only [cond_false]
 generalize m.name = nm at *
 generalize m.ins.isEmpty = b1 at *
 generalize m.outs.isEmpty = b2 at *
 have w1:=λk=>qco k m.ins
 have w2:=λk=>qco k m.outs
 generalize m.ins.map qM.pe = is at *
 generalize m.outs.map qM.pe = os at *
 have w3:=λk=>qaB k m.vars
 have w4:=λk=>qaB k m.int
 have w5:=λk=>qaB k m.ext
 have w6:=λk=>qaB k m.own
 have w7:=λk=>qbB k m.emits
 have w8:=λk=>qho k m.ta
 rw [PBi] at hi
 simp only [qvw,qvx,qgv] at k5
 rw [qm 46 c46]
 simp only [c46,sT.1,sC.1,qg,seval,-rN,qY,qaa,qgv,PBi,hi,Y,I,qN,w,w1,w2,w3,w4,w5,w6,w7,w8,k0,z0,k1,k2,k3,k4,k5,k6]
theorem qA6 (hw:WF ws) {m:qr} (g:m.good):Rd ws 46 m.pe (qbI m):=by
 cases hc:m.coupled
 ·exact qlp hw hc g
 ·exact qj6 hw hc g
end
structure qdo (m:qr):Prop where
 name:m.name.length <= 16
 ins:m.ins.length <= 1000/\∀s ∈ m.ins,qhD s
 outs:m.outs.length <= 1000/\∀s ∈ m.outs,qhD s
 vars:m.vars.length <= 1000/\∀s ∈ m.vars,qhE s
 ta:m.ta.length <= 1000/\∀s ∈ m.ta,qlZ s
 emits:m.emits.length <= 1000/\∀s ∈ m.emits,qni s
 int:m.int.length <= 1000/\∀s ∈ m.int,qhE s
 ext:m.ext.length <= 1000/\∀s ∈ m.ext,qhE s
 own:m.own.length <= 1000/\∀s ∈ m.own,qhE s
 parts:m.parts.length <= 1000/\∀s ∈ m.parts,qnl s
 links:m.links.length <= 1000/\∀s ∈ m.links,qnk s
 rules:m.rules.length <= 20/\∀s ∈ m.rules,qnn s
 few:m.ins.length + m.outs.length + m.vars.length + m.ta.length + m.emits.length + m.int.length + m.ext.length + m.own.length + m.parts.length + m.links.length + (m.rules.map λr=>r.acts.length + 2).sum <= 350
def qvs (con:Int) (own:List qak):List Str:=bif con == 1 then [[32,32,99,111,110,32,101,120,116,32,105,110,116,59]] else bif con == 2 then qb1 [32,32] [99,111,110] (own.map qak.txt) else []
def ql9 (m:qr):List Str:=(m.vars.map λs=>[32,32,118,97,114,32] ++ s.txt) ++ ((m.ta.map λs=>[32,32] ++ taT s) ++ ((m.emits.map λs=>[32,32] ++ s.txt) ++ (qb1 [32,32] [105,110,116] (m.int.map qak.txt) ++ (qb1 [32,32] [101,120,116] (m.ext.map qak.txt) ++ qvs m.con m.own))))
theorem qbo (ah hd:Str) (l:List Str):(qb1 ah hd l).length <= l.length + 2:=by
 unfold qb1
 cases l.isEmpty <;> simp
section
variable {h:List qj} {V:qd} {L:List Str}
theorem qq0 {m:qr} (hm:qdo m) (hS:SL h L V) (hL:L.length <= 30000):Ln h V (L ++ ql9 m) (Wd (.fn 74 [] []) [V,m.enc] h):=by
 have hV:∀id,qfi V = some id->id < h.length:=λid hi=>hS.lt hi
 have s0:=Mid.start (x:=.cells m.cs) hS
 have n1:=hm.vars.1
 have n2:=hm.ta.1
 have n3:=hm.emits.1
 have n4:=qbo [32,32] [105,110,116] (m.int.map qak.txt)
 have n5:=qbo [32,32] [101,120,116] (m.ext.map qak.txt)
 have n6:=hm.int.1
 have n7:=hm.ext.1
 simp only [jQ] at n4 n5
 obtain ⟨G1,W1,r1,s1⟩:=s0.step hV (quK s0.1 zo hm.vars.1 hm.vars.2 [32,32,118,97,114,32] (by simp))
 obtain ⟨G2,W2,r2,s2⟩:=s1.step hV (qyp s1.1 (by simp;omega) hm.ta.1 hm.ta.2 [32,32] (by simp))
 obtain ⟨G3,W3,r3,s3⟩:=s2.step hV (qo3 s2.1 (by simp;omega) hm.emits.1 hm.emits.2 [32,32] (by simp))
 obtain ⟨G4,W4,r4,s4⟩:=s3.step hV (qgQ s3.1 (by simp;omega) hm.int.1 hm.int.2 [32,32] [105,110,116] (by simp) (by simp))
 obtain ⟨G5,W5,r5,s5⟩:=s4.step hV (qgQ s4.1 (by simp;omega) hm.ext.1 hm.ext.2 [32,32] [101,120,116] (by simp) (by simp))
 obtain ⟨G6,W6,r6,s6⟩:=s5.step hV (qgQ s5.1 (by simp;omega) hm.own.1 hm.own.2 [32,32] [99,111,110] (by simp) (by simp))
 obtain ⟨G7,W7,ra,rb,l7⟩:=qkF s5.1 (by simp;omega) h.length [32,32,99,111,110,32,101,120,116,32,105,110,116,59]
 obtain ⟨_,_,e7,s7⟩:=s5.step hV l7
 cases e7
 obtain ⟨d0,w0,_,_⟩:=hS.facts
 obtain ⟨d1,w1,_,_⟩:=s1.1.facts
 obtain ⟨d2,w2,_,_⟩:=s2.1.facts
 obtain ⟨d3,w3,_,_⟩:=s3.1.facts
 obtain ⟨d4,w4,_,_⟩:=s4.1.facts
 obtain ⟨d5,w5,_,_⟩:=s5.1.facts
 obtain ⟨d6,w6,_,_⟩:=s6.1.facts
 obtain ⟨d7,w7,_,_⟩:=s7.1.facts
 have b1:=s1.2.2.1
 have b2:=s2.2.2.1
 have b3:=s3.2.2.1
 have b4:=s4.2.2.1
 have b5:=s5.2.2.1
 have g1:=s1.2.1
 have g2:=s2.2.1
 have g3:=s3.2.1
 have g4:=s4.2.1
 have g5:=s5.2.1
 have a6:=s6.leave
 have a7:=s7.leave
 have a5:=s5.leave
 clear s0 s1 s2 s3 s4 s5 s6 s7 hm n1 n2 n3 n4 n5 n6 n7 l7
 obtain ⟨nm,cp,ins,outs,vars,ta,a1,int,ext,E,own,parts,Y,I⟩:=m
 simp only [qr.cs] at *
 generalize hw:Wd _ _ h = w
 rw [qm 74 c74] at hw
 rw [qr.enc,qr.cs] at hw
 rw [ql9,qvs]
 simp only
 cases c1:(E == 1) with
 | true=>
  simp only [c74,sT.1,sC.1,qg,seval,-rN,qiQ,qcl,qcm,qc9,r1,r2,r3,r4,r5,ra,rb,d0,d1,w1,d2,w2,d3,w3,d4,w4,d5,w5,d7,w7,b1,b2,b3,b4,b5,c1] at hw
  subst hw
  simpa using a7
 | false=>
  cases c2:(E == 2) with
  | true=>
   simp only [c74,sT.1,sC.1,qg,seval,-rN,r1,r2,r3,r4,r5,r6,d0,d1,w1,d2,w2,d3,w3,d4,w4,d5,w5,d6,w6,b1,b2,b3,b4,b5,c1,c2] at hw
   subst hw
   simpa using a6
  | false=>
   simp only [c74,sT.1,sC.1,qg,seval,-rN,r1,r2,r3,r4,r5,d0,d1,w1,d2,w2,d3,w3,d4,w4,d5,w5,b1,b2,b3,b4,b5,c1,c2] at hw
   subst hw
   simpa using a5
theorem Mid.more {x:qj} {G:List qj} {W:qd} (hm:Mid h V x G W L) (c:qj):Mid h V x (G ++ [c]) W L:=
 ⟨hm.1.more _,by have:=hm.2.1;simp;omega,by rw [ja hm.2.1];exact hm.2.2.1,λi hi hn=>by rw [ja (by have:=hm.2.1;omega)];exact hm.2.2.2.1 i hi hn,hm.2.2.2.2⟩
def qS.lines (r:qS):List Str:=qb1 [32,32] ([114,117,108,101,32] ++ eT r.e) (r.acts.map qbi.txt)
def qmi (m:qr):List Str:=(m.parts.map λs=>[32,32,112,97,114,116,32] ++ s.txt) ++ ((m.links.map λs=>[32,32,108,105,110,107,32] ++ s.txt) ++ (m.rules.map qS.lines).flatten)
theorem qtg {l:List qS} (ho:∀r ∈ l,qnn r):((l.map qS.lines).flatten).length <= l.length * 1002:=by
 induction l with
 | nil=>simp
 | cons r l ih=>
  have h1:=ih λr hr=>ho r (by simp [hr])
  have h2:=qbo [32,32] ([114,117,108,101,32] ++ eT r.e) (r.acts.map qbi.txt)
  have h3:=(ho r (by simp)).2.1
  rw [jQ] at h2
  simp only [List.map_cons,List.flatten_cons,ji,jy,qS.lines] at h1 ⊢
  omega
theorem qoT {m:qr} (hm:qdo m) (hS:SL h L V) (hL:L.length <= 10000):Ln h V (L ++ qmi m) (Wd (.fn 73 [] []) [V,m.enc] h):=by
 have hV:∀id,qfi V = some id->id < h.length:=λid hi=>hS.lt hi
 have s0:=Mid.start (x:=.cells m.cs) hS
 have n1:=hm.parts.1
 have n2:=hm.links.1
 obtain ⟨G1,W1,r1,s1⟩:=s0.step hV (qp6 s0.1 zo hm.parts.1 hm.parts.2 [32,32,112,97,114,116,32] (by simp))
 obtain ⟨G2,W2,r2,s2⟩:=s1.step hV (qpN s1.1 (by simp;omega) hm.links.1 hm.links.2 [32,32,108,105,110,107,32] (by simp))
 obtain ⟨L2,a1⟩ :∃L2,L2 = (L ++ m.parts.map λs=>[32,32,112,97,114,116,32] ++ s.txt) ++ m.links.map λs=>[32,32,108,105,110,107,32] ++ s.txt:=⟨_,rfl⟩
 have al:L2.length <= 12000:=by rw [a1];simp;omega
 rw [<-a1] at s2
 have loop:∀k st,(∃(tt:List qd) (i:Nat) (G:List qj) (W:qd),st = ⟨tt,G,false⟩/\tt.length = 32/\lkp tt 0 = W/\lkp tt 16 = .lst (m.rules.map qS.enc) .no/\lkp tt 17 = .int .i64 (m.rules.length:Nat)/\lkp tt 18 = .int .i64 (i:Nat)/\i + k = m.rules.length/\Mid h V (.cells m.cs) G W (L2 ++ ((m.rules.take i).map qS.lines).flatten))->
   ∃y E,qv h.length Wd (.loop qpD) st = some (y,E)/\(∃(tt:List qd) (G:List qj) (W:qd),E = ⟨tt,G,false⟩/\tt.length = 32/\lkp tt 0 = W/\Mid h V (.cells m.cs) G W (L2 ++ (m.rules.map qS.lines).flatten)/\y = .exit 0):=by
  refine qba _ (λy E=>∃(tt:List qd) (G:List qj) (W:qd),E = ⟨tt,G,false⟩/\tt.length = 32/\lkp tt 0 = W/\Mid h V (.cells m.cs) G W (L2 ++ (m.rules.map qS.lines).flatten)/\y = .exit 0) ?_
  rintro k st ⟨tt,i,G,W,rfl,ht,e0,ac,a6,ab,am,hM⟩
  generalize hr:qv h.length Wd qpD _ = r
  have hR:=hm.rules
  generalize m.rules = l at *
  rcases Nat.lt_or_ge i l.length with I | I
  ·have c1:ilt (i:Int) (l.length:Int) = true:=qqF zo
   have w:=qJ (n:=i) zo
   have ho:=hR.2 l[i] (List.getElem_mem I)
   have ak:=qtg (l:=l.take i) λr hr=>hR.2 r (List.mem_of_mem_take hr)
   have ad:(l.take i).length <= 20:=by have:=hR.1;simp;omega
   have Y:((l.take (i + 1)).map qS.lines).flatten = ((l.take i).map qS.lines).flatten ++ l[i].lines:=by rw [List.take_succ_eq_append_getElem I,List.map_append,List.flatten_append];simp
   have hmul:(l.take i).length * 1002 <= 20 * 1002:=Nat.mul_le_mul_right _ ad
   have hg:(l.map qS.enc)[i]? = some l[i].enc:=by rw [List.getElem?_map,List.getElem?_eq_getElem I];rfl
   generalize l[i] = v at ho hg Y
   obtain ⟨e,acts⟩:=v
   have hT:=λG=>qrW ho.1 G
   have ae:=qda ho.1
   rw [qS.enc] at hg
   have hv:qS.lines ⟨e,acts⟩ = qb1 [32,32] ([114,117,108,101,32] ++ eT e) (acts.map qbi.txt):=rfl
   rw [hv] at Y
   simp only at hg hT ae
   have aa:=hM.more (.cells (exC e ++ [.lst (acts.map qbi.enc) .no]))
   obtain ⟨G',W',rb,a8⟩:=aa.step hV (qoz aa.1 (by rw [ji];omega) ho.2.1 ho.2.2 [32,32] ([114,117,108,101,32] ++ eT e) (by simp) (by simp;omega))
   simp only at rb
   generalize eT e = u at *
   clear ho
   obtain ⟨op,n,m2,sb,aS⟩:=e
   rw [qac] at hT
   rw [exC] at hg rb
   have hx:qi9 6 (.lst (l.map qS.enc) .no) (.int .i64 (i:Nat)) = some (.iptr [.int .i64 op,.int .i64 n,.str m2,.str sb,.lst (aS.map exV) .no,.lst (acts.map qbi.enc) .no] 0):=qa3 hg rfl
   obtain ⟨d0,w0,_,_⟩:=hM.1.facts
   obtain ⟨d1,w1,_,_⟩:=a8.1.facts
   have af:Nat.ble h.length G.length = true:=qx (Nat.le_of_lt hM.2.1)
   have q1:5 + u.length <= qk:=by unfold qk;omega
   have q2:u.length + 5 <= qk:=by unfold qk;omega
   have q3:u.length + 1 + 1 + 1 + 1 + 1 <= qk:=by unfold qk;omega
   simp only [jw,jV] at rb
   simp only [qpD,sT.1,sC.1,qg,Nat.testBit,bne,seval,-rN,ht,e0,ac,a6,ab,c1,w,hx,af,hT,rb,d0,d1,w1,q1] at hr
   subst hr
   refine .inl ⟨_,k - 1,rfl,zo,_,i + 1,G',W',rfl,Y1,?_,?_,?_,?_,zo,?_⟩
   ·simp only [sT.1,sC.1,seval,-rN,ht]
   ·simp only [sT.1,sC.1,seval,-rN,ac]
   ·simp only [sT.1,sC.1,seval,-rN,a6]
   ·simp only [sT.1,seval,-rN,ht]
   ·rw [Y];simpa using a8
  ·have c1:ilt (i:Int) (l.length:Int) = false:=qkx zo
   rw [List.take_of_length_le I] at hM
   simp only [qpD,sT.1,sC.1,qg,seval,-rN,ht,a6,ab,c1] at hr
   subst hr
   exact .inr ⟨_,_,rfl,by simp,_,G,W,rfl,Y1,Y2,hM,rfl⟩
 obtain ⟨d0,w0,_,_⟩:=hS.facts
 obtain ⟨d1,w1,_,_⟩:=s1.1.facts
 obtain ⟨d2,w2,_,_⟩:=s2.1.facts
 have b1:=s1.2.2.1
 have b2:=s2.2.2.1
 have g1:=s1.2.1
 have g2:=s2.2.1
 clear s0 s1 hm n1 n2
 obtain ⟨nm,cp,ins,outs,vars,ta,aj,int,ext,ap,own,parts,ai,a7⟩:=m
 simp only [qr.cs] at *
 generalize hw:Wd _ _ h = w
 rw [qm 73 c73] at hw
 rw [qr.enc,qr.cs] at hw
 rw [qmi]
 simp only
 simp only [c73,sT.1,sC.1,qg,seval,-rN,jQ,r1,r2,d0,d1,w1,d2,w2,b1,b2] at hw
 generalize hr:qv h.length Wd (.loop qpD) _ = r at hw
 obtain ⟨y,E,rfl,tt,G3,W3,rfl,ht,e0,s3,rfl⟩:=qgA hr (loop a7.length _ ⟨_,0,G2,W2,rfl,Y0,Y0,Y0,Y0,y5,zo,by simpa using s2⟩)
 obtain ⟨d3,w3,_,_⟩:=s3.1.facts
 simp only [sT.1,sC.1,qg,seval,-rN,ht,e0,d3,w3] at hw
 subst hw
 have:=s3.leave
 rw [a1] at this
 simpa using this
end
def qeB (m:qr):Str:=(bif m.coupled then [99,111,117,112,108,101,100,32] else [97,116,111,109,105,99,32]) ++ m.name
def inL (m:qr):List Str:=(m.ins.map λs=>[32,32,105,110,32] ++ s.txt) ++ ((m.outs.map λs=>[32,32,111,117,116,32] ++ s.txt) ++ (bif m.coupled then qmi m else ql9 m))
def qc0 (m:qr):List Str:=bif (inL m).isEmpty then [qeB m ++ [32,123,125]] else (qeB m ++ [32,123]) :: (inL m ++ [[125]])
theorem qlD (l:List qS):((l.map qS.lines).flatten).length <= (l.map λr=>r.acts.length + 2).sum:=by
 induction l with
 | nil=>simp
 | cons r l ih=>
  have h2:=qbo [32,32] ([114,117,108,101,32] ++ eT r.e) (r.acts.map qbi.txt)
  rw [jQ] at h2
  simp only [List.map_cons,List.flatten_cons,ji,List.sum_cons,qS.lines] at ih h2 ⊢
  omega
theorem qsG {m:qr} (hm:qdo m):(inL m).length <= 360:=by
 have h:=hm.few
 have h1:=qbo [32,32] [105,110,116] (m.int.map qak.txt)
 have h2:=qbo [32,32] [101,120,116] (m.ext.map qak.txt)
 have h3:=qbo [32,32] [99,111,110] (m.own.map qak.txt)
 have h4:=qlD m.rules
 have h5:(qvs m.con m.own).length <= m.own.length + 2:=by
  unfold qvs
  rw [jQ] at h3
  cases m.con == 1 <;> cases m.con == 2 <;> simp only [cond_true,cond_false,jy,jz] <;> omega
 rw [jQ] at h1 h2
 unfold inL qmi ql9
 cases m.coupled <;> simp only [cond_true,cond_false,ji,jQ] <;> omega
theorem qpU {m:qr} (hm:qdo m):(qc0 m).length <= 362:=by
 have:=qsG hm
 unfold qc0
 cases (inL m).isEmpty <;> simp <;> omega
section
variable {h:List qj} {V:qd} {L:List Str}
theorem qCN {G:List qj} {W W2:qd} {M:List Str} (hS:SL G L W) (hw:SL G M W2) (E:M ≠ []) (hl:L.length + M.length <= 100000) (b:Nat):∃G' W',hop b (.app 1) [W,W2] G = some (W',G',false)/\Ln G W (L ++ M) (some (.ret W',G',false)):=by
 obtain ⟨G',h1,h2,h3,h4⟩:=hS.cat hw E hl b
 exact ⟨G',_,h1,G',_,rfl,h2,zo,h4,.inr λid hid=>by cases hid;omega⟩
theorem Ln.get {W W':qd} {G G':List qj} {L':List Str} (h:Ln G W L' (some (.ret W',G',false))):SL G' L' W'/\G.length <= G'.length/\(∀i,i < G.length->qfi W ≠ some i->G'[i]? = G[i]?)/\(W' = W\/∀id,qfi W' = some id->G.length <= id):=by
 obtain ⟨_,_,e,h1,h2,h3,h4⟩:=h
 cases e
 exact ⟨h1,h2,h3,h4⟩
theorem qxn {m:qr} (hm:qdo m) (hS:SL h L V) (hL:L.length <= 9000):Ln h V (L ++ qc0 m) (Wd (.fn 33 [] []) [V,m.enc] h):=by
 obtain ⟨x,hx⟩ :∃x,x = qj.cells m.cs:=⟨_,rfl⟩
 obtain ⟨E,hE⟩ :∃E,E = qd.lst [] .full:=⟨_,rfl⟩
 have I:∀id,qfi E = some id->id < h.length:=λid hi=>by rw [hE] at hi;cases hi
 have Y:∀i,qfi E ≠ some i:=λi hi=>by rw [hE] at hi;cases hi
 have s0:Mid h E x (h ++ [x]) E []:=Mid.start (.inl ⟨rfl,hE⟩)
 have a8:=qsG hm
 have n1:=hm.ins.1
 have n2:=hm.outs.1
 obtain ⟨G1,W1,r1,s1⟩:=s0.step I (qjo s0.1 (by simp) hm.ins.1 hm.ins.2 [32,32,105,110,32] (by simp))
 obtain ⟨G2,W2,r2,s2⟩:=s1.step I (qjo s1.1 (by simp;omega) hm.outs.1 hm.outs.2 [32,32,111,117,116,32] (by simp))
 obtain ⟨G3,W3,r3,s3⟩ :∃G3 W3,(bif m.coupled then Wd (.fn 73 [] []) [W2,m.enc] G2 else Wd (.fn 74 [] []) [W2,m.enc] G2) = some (.ret W3,G3,false)/\Mid h E x G3 W3 (inL m):=by
  unfold inL
  cases m.coupled with
  | true=>
   obtain ⟨G3,W3,r3,s3⟩:=s2.step I (qoT hm s2.1 (by simp;omega))
   exact ⟨G3,W3,r3,by simpa using s3⟩
  | false=>
   obtain ⟨G3,W3,r3,s3⟩:=s2.step I (qq0 hm s2.1 (by simp;omega))
   exact ⟨G3,W3,r3,by simpa using s3⟩
 obtain ⟨_,_,_,q3⟩:=s3.1.facts
 have hV:∀id,qfi V = some id->id < h.length:=λid hi=>hS.lt hi
 have t3:Mid h V x G3 V L:=⟨hS.keep λid hi=>s3.2.2.2.1 id (hS.lt hi) (Y id),s3.2.1,s3.2.2.1,λi hi _=>s3.2.2.2.1 i hi (Y i),.inl rfl⟩
 have hh:(qeB m).length <= 30:=by
  have:=hm.name
  unfold qeB
  cases m.coupled <;> simp <;> omega
 rw [qc0]
 obtain ⟨G9,W9,ra,rb,l9⟩:=qkF t3.1 zo h.length (qeB m ++ [32,123,125])
 obtain ⟨_,_,e9,t9⟩:=t3.step hV l9
 cases e9
 have a9:=t9.leave
 obtain ⟨G4,W4,rc,rd,l4⟩:=qkF t3.1 zo h.length (qeB m ++ [32,123])
 obtain ⟨_,_,e4,t4⟩:=t3.step hV l4
 cases e4
 have k4:=l4.get
 have w4:SL G4 (inL m) W3:=s3.1.keep λid hid=>k4.2.2.1 id (s3.1.lt hid) λhv=>by
  have:=hV id hv
  rcases s3.2.2.2.2 with e | e
  ·rw [e] at hid;exact Y id hid
  ·have:=e id hid;omega
 have fin:inL m ≠ []->∃G5 W5 G6 W6,hop h.length (.app 1) [W4,W3] G4 = some (W5,G5,false)/\hop h.length (.lit 1 [.str []] 1 [0]) [.str [125]] G5 = some (.sl G5.length 0 1 1 0,G5 ++ [.cells [.str [125]]],false)/\hop h.length (.app 1) [W5,.sl G5.length 0 1 1 0] (G5 ++ [.cells [.str [125]]]) = some (W6,G6,false)/\Mid h V x G5 W5 ((L ++ [qeB m ++ [32,123]]) ++ inL m)/\Mid h V x G6 W6 (((L ++ [qeB m ++ [32,123]]) ++ inL m) ++ [[125]]):=λa7=>by
  obtain ⟨G5,W5,re,l5⟩:=qCN t4.1 w4 a7 (by simp;omega) h.length
  obtain ⟨_,_,e5,t5⟩:=t4.step hV l5
  cases e5
  obtain ⟨G6,W6,rf,rg,l6⟩:=qkF t5.1 (by simp;omega) h.length [125]
  obtain ⟨_,_,e6,t6⟩:=t5.step hV l6
  cases e6
  exact ⟨G5,W5,G6,W6,re,rf,rg,t5,t6⟩
 obtain ⟨dV,wV,_,_⟩:=hS.facts
 obtain ⟨d1,w1,_,_⟩:=s1.1.facts
 obtain ⟨d2,w2,_,_⟩:=s2.1.facts
 obtain ⟨d3,w3,_,_⟩:=s3.1.facts
 obtain ⟨d4,a1,_,_⟩:=t4.1.facts
 obtain ⟨d9,w9,_,_⟩:=t9.1.facts
 have b1:=s1.2.2.1
 have b2:=s2.2.2.1
 have b3:=s3.2.2.1
 have g1:=s1.2.1
 have g2:=s2.2.1
 have g3:=s3.2.1
 clear s0 s1 s2 s3 t3 t4 t9 l9 l4 k4 w4 n1 n2 a8
 have hn:=hm.name
 clear hm
 subst hx hE
 rw [qeB] at *
 generalize inL m = M at *
 obtain ⟨nm,cp,ins,outs,vars,ta,ac,int,ext,ad,own,parts,ab,aa⟩:=m
 simp only [qr.cs,qr.enc] at *
 have q1:8 + nm.length <= qk:=by unfold qk;omega
 have q2:7 + nm.length <= qk:=by unfold qk;omega
 have p7:∀k,k <= 20->nm.length + 1 + 1 + 1 + 1 + 1 + 1 + 1 + k <= qk:=λk hk=>by unfold qk;omega
 have p8:∀k,k <= 20->nm.length + 1 + 1 + 1 + 1 + 1 + 1 + 1 + 1 + k <= qk:=λk hk=>by unfold qk;omega
 have p9:∀k,k <= 20->nm.length + k <= qk:=λk hk=>by unfold qk;omega
 have pa:=p7 0 zo
 have pb:=p8 0 zo
 rw [Nat.add_zero] at pa pb
 generalize hw:Wd _ _ h = w
 rw [qm 33 c33] at hw
 cases hM:M.isEmpty with
 | true=>
  cases cp <;> simp only [cond_true,cond_false,jw,jV] at r3 ra rb a9 hw ⊢ <;> simp only [c33,sT.1,sC.1,qg,seval,-rN,qiQ,qcl,qcm,qc9,qDT,hM,q3,r1,r2,r3,ra,rb,dV,d1,w1,d2,w2,d3,w3,d9,w9,b1,b2,q1,q2,p9] at hw <;> subst hw <;> exact a9
 | false=>
  obtain ⟨G5,W5,G6,W6,re,rf,rg,t5,t6⟩:=fin (by rintro rfl;cases hM)
  obtain ⟨d5,w5,_,_⟩:=t5.1.facts
  obtain ⟨d6,w6,_,_⟩:=t6.1.facts
  have a6:=t6.leave
  cases cp <;> simp only [cond_true,cond_false,jw,jV] at r3 rc rd a6 hw ⊢ <;> simp only [c33,sT.1,sC.1,qg,seval,-rN,qiQ,qcl,qcm,qc9,qDT,hM,q3,r1,r2,r3,rc,rd,re,rf,rg,dV,d1,w1,d2,w2,d3,w3,d4,a1,d5,w5,d6,w6,b1,b2,q1,q2,p9] at hw <;> subst hw <;> simpa using a6
end
end Go.Proofs.YtcbfifamliijlaaGreatDoor.AE
