/- A part of the proof. No condition. -/
import Derived.Test.YtcbfifamliijlaaGreatDoorMa17
import Derived.Test.YtcbfifamliijlaaGreatDoorMa16
open Int renaming reduceNatCast'→rN
set_option maxRecDepth 100000
set_option maxHeartbeats 0
open List renaming getElem?_append_left→ja,getElem?_append_right→jc,drop_eq_getElem_cons→jT,getElem?_eq_getElem→jh,length_append→ji,length_map→jQ,getElem?_eq_none→jq,mem_singleton→jX,length_cons→jy,length_nil→jz,mem_map→jP
open Bool renaming and_eq_true→jk,false_eq_true→jl,eq_false_iff→j6
open Nat renaming le_refl→jm,le_trans→jn,sub_self→Jc
namespace Go.Proofs.YtcbfifamliijlaaGreatDoor.AE
open Go.AE
def ExG (e:Exl):Prop:=OkN e/\sz 20 e <= 6100
theorem ExG.ok {e:Exl} (h:ExG e) (hr:right 20 e = true):qlZ e:=⟨hr,h.1,h.2⟩
structure qfk (Q:Exl->Prop) (m:qr):Prop where
 vars:∀s ∈ m.vars,Q s.e
 ta:∀e ∈ m.ta,Q e
 emits:∀x ∈ m.emits,Q x.e/\∀e ∈ x.ifs,Q e
 int:∀s ∈ m.int,Q s.e
 ext:∀s ∈ m.ext,Q s.e
 own:∀s ∈ m.own,Q s.e
 rules:∀r ∈ m.rules,Q r.e
theorem qbr {s:Str} (h:qI s = true):s.length <= 16:=by
 simp only [qI,qcw,jk,decide_eq_true_eq] at h
 exact h.1.1.2
theorem qhZ {a b:Int} (h:ile a b = true):a <= b:=by rw [qaD] at h;exact of_decide_eq_true h
theorem qnH {a b:Int} (h:ilt a b = false):b <= a:=by rw [qaj,decide_eq_false_iff_not] at h;omega
theorem qBB {s:qak} (h:qqH s = true) (hg:ExG s.e):qhE s:=by
 simp only [qqH,jk] at h
 exact ⟨qbr h.1,hg.ok h.2⟩
theorem qn8 {s:qM} (h:qhk s = true):qhD s:=by
 simp only [qhk,jk] at h
 exact ⟨qbr h.1,h.2⟩
theorem qwm {x:qab} (h:qkX x = true) (hg:ExG x.e) (hi:∀e ∈ x.ifs,ExG e):qni x:=by
 simp only [qkX,jk,List.all_eq_true] at h
 exact ⟨qbr h.1.1.1,hg.ok h.1.2,by have:=qhZ h.1.1.2;omega,λe he=>(hi e he).ok (h.2 e he)⟩
theorem qxv {s:qau} (h:qke s = true):qnl s:=by
 simp only [qke,jk] at h
 exact ⟨qbr h.1,qbr h.2⟩
theorem qr3 {s:qdv} (h:qws s = true):s.short:=by
 simp only [qws,jk,Bool.or_eq_true,beq_iff_eq] at h
 exact ⟨h.2.elim (λe=>by rw [e];simp) qbr,qbr h.1⟩
theorem qnS {s:qaf} (h:qiN s = true):qnk s:=by
 simp only [qiN,jk] at h
 exact ⟨qr3 h.1,qr3 h.2⟩
theorem qzx {a:qbi} (h:qqR a = true):a.short:=by
 unfold qqR at h
 cases k0:a.kind == 0 with
 | true=>
  rw [k0,cond_true] at h
  simp only [jk] at h
  exact ⟨qbr h.1.1,qbr h.1.2,λe=>absurd (by simpa using k0) e⟩
 | false=>
  rw [k0,cond_false] at h
  cases k1:a.kind == 1 with
  | true=>
   rw [k1,cond_true] at h
   simp only [jk,beq_iff_eq] at h
   exact ⟨qbr h.1.1,by rw [h.1.2];simp,λ_ e=>absurd (by simpa using k1) e⟩
  | false=>
   rw [k1,cond_false] at h
   simp only [jk,beq_iff_eq] at h
   have:=qnS h.2.2
   exact ⟨by rw [h.2.1.1];simp,by rw [h.2.1.2];simp,λ_ _=>this⟩
theorem qxZ {r:qS} (h:qlC r = true) (hg:ExG r.e):qnn r/\r.acts.length <= 5:=by
 simp only [qlC,jk,List.all_eq_true] at h
 have h5:=qhZ h.1.1
 exact ⟨⟨hg.ok h.1.2,zo,λa ha=>qzx (h.2 a ha)⟩,zo⟩
theorem qdW {α:Type} {l:List α} (h:ilt 0 (l.length:Nat) = false):l = []:=List.length_eq_zero_iff.1 (by have:=qnH h;omega)
theorem qlE {l:List qS} (h:∀r ∈ l,r.acts.length <= 5):(l.map λr=>r.acts.length + 2).sum <= l.length * 7:=by
 induction l with
 | nil=>simp
 | cons r l ih=>
  have h1:=h r (by simp)
  have h2:=ih λx hx=>h x (by simp [hx])
  simp only [List.map_cons,List.sum_cons,jy]
  omega
theorem qn4 {l:List qak} (h:okL l = true) (hg:∀s ∈ l,ExG s.e):l.length <= 10/\∀s ∈ l,qhE s:=by
 simp only [okL,jk,Bool.not_eq_true',List.all_eq_true] at h
 exact ⟨by have:=qnH h.1;omega,λs hs=>qBB (h.2 s hs) (hg s hs)⟩
theorem qtF {m:qr} (h:qgi m = true) (he:qfk ExG m):qdo m:=by
 obtain ⟨nm,cp,ins,outs,vars,ta,Y,int,ext,a1,own,parts,I,E⟩:=m
 obtain ⟨e1,e2,e3,e4,e5,e6,e7⟩:=he
 simp only at e1 e2 e3 e4 e5 e6 e7
 simp only [qgi,jk,Bool.not_eq_true',Bool.or_eq_false_iff,Bool.not_eq_false',List.all_eq_true] at h
 obtain ⟨⟨hn,hi,ho⟩,⟨pi,po⟩,hb⟩:=h
 have hi:=qnH hi
 have ho:=qnH ho
 have pi:∀s ∈ ins,qhD s:=λs hs=>qn8 (pi s hs)
 have po:∀s ∈ outs,qhD s:=λs hs=>qn8 (po s hs)
 cases cp with
 | true=>
  rw [cond_true] at hb
  simp only [qmh,jk,Bool.not_eq_true',Bool.or_eq_false_iff,List.all_eq_true] at hb
  obtain ⟨⟨z1,z2,z3,_⟩,⟨z4,z5,z6⟩,p1,p2,p3,p4,p5,p6⟩:=hb
  obtain rfl:=qdW z1
  obtain rfl:=qdW z2
  obtain rfl:=qdW z3
  obtain rfl:=qdW z4
  obtain rfl:=qdW z5
  obtain rfl:=qdW z6
  have p1:=qhZ p1
  have p3:=qhZ p3
  have p5:=qhZ p5
  have hr:=λr hr=>qxZ (p6 r hr) (e7 r hr)
  have hs:=qlE λr h=>(hr r h).2
  exact ⟨qbr hn,⟨by simp only;omega,pi⟩,⟨by simp only;omega,po⟩,⟨by simp,by simp⟩,⟨by simp,by simp⟩,⟨by simp,by simp⟩,⟨by simp,by simp⟩,⟨by simp,by simp⟩,⟨by simp,by simp⟩,⟨by simp only;omega,λs hs=>qxv (p2 s hs)⟩,⟨by simp only;omega,λs hs=>qnS (p4 s hs)⟩,⟨by simp only;omega,λs hs=>(hr s hs).1⟩,by simp only [jz];omega⟩
 | false=>
  rw [cond_false] at hb
  simp only [ql8,jk,Bool.not_eq_true',Bool.or_eq_false_iff,List.all_eq_true,beq_iff_eq] at hb
  obtain ⟨⟨z1,z2,z3,_,_⟩,_,o1,o2,o3,o4,t1,t2,t3,t4⟩:=hb
  obtain rfl:=qdW z1
  obtain rfl:=qdW z2
  obtain rfl:=qdW z3
  obtain ⟨l1,q1⟩:=qn4 o1 e1
  obtain ⟨l2,q2⟩:=qn4 o2 e4
  obtain ⟨l3,q3⟩:=qn4 o3 e5
  obtain ⟨l4,q4⟩:=qn4 o4 e6
  have t3:=qhZ t3
  exact ⟨qbr hn,⟨by simp only;omega,pi⟩,⟨by simp only;omega,po⟩,⟨by simp only;omega,q1⟩,⟨by simp only;omega,λs hs=>(e2 s hs).ok (t2 s hs)⟩,⟨by simp only;omega,λs hs=>qwm (t4 s hs) (e3 s hs).1 (e3 s hs).2⟩,⟨by simp only;omega,q2⟩,⟨by simp only;omega,q3⟩,⟨by simp only;omega,q4⟩,⟨by simp,by simp⟩,⟨by simp,by simp⟩,⟨by simp,by simp⟩,by simp only [jz,List.map_nil,List.sum_nil];omega⟩
theorem qxL {p:qaC} (h:qqc p = true) (he:∀m ∈ p.models,qfk ExG m):qkA p:=by
 simp only [qqc,jk,List.all_eq_true] at h
 exact ⟨⟨by have:=qhZ h.2.1;omega,λm hm=>qtF (h.2.2.2 m hm) (he m hm)⟩,qbr h.2.2.1⟩
def qr.fine (m:qr):Prop:=m.good/\m.lean/\qfk GX m
def qaC.fine (p:qaC):Prop:=p.good/\∀m ∈ p.models,m.fine
section
variable {ws:List Tok} {n:Nat}
theorem qak.fine.good {d:qak} (h:d.fine):d.good:=⟨h.1,h.2.1⟩
theorem qab.fine.good {d:qab} (h:d.fine):d.good:=⟨h.1,h.2.1.1,h.2.2.1,λe he=>(h.2.2.2 e he).1⟩
theorem qS.fine.good {d:qS} (h:d.fine):d.good:=⟨h.1.1,h.2⟩
theorem qxm (H:En ws) (hn:n < ws.length) (h0:n + 1 < ws.length) (a0:isW ws n [99,111,117,112,108,101,100] = true):Gv ws 46 [] qr.pe qr.fine n:=by
 have w:=qJ (n:=n) (by have:=H.hw.len;omega)
 have P:=λ(h:List qj) (i:Nat)=>qm 46 c46 (first:=[]) (cap:=[]) (args:=[.ptr i 0]) (h:=h)
 have a6:∀(x:Exp) (k:Nat),(x.enc φP).lower k = true:=λx k=>by rw [Exp.enc,qd.lower];exact qmy x k
 obtain ⟨s1,n1,l1,h1,q1,k1⟩ | ⟨p,e,m,hm,he,k1⟩:=qeK H h0
 obtain ⟨h2,k2⟩ | ⟨p,e,m,hm,he,k2⟩:=qa0 H [123] h1
 obtain ⟨x3,n3,l3,h3,g3,q3,k3⟩ | ⟨p,e,m,hm,he,k3⟩:=qkf H [105,110] h2
 obtain ⟨x4,n4,l4,h4,g4,q4,k4⟩ | ⟨p,e,m,hm,he,k4⟩:=qkf H [111,117,116] h3
 obtain ⟨ps,ls,rs,n5,l5,h5,q5,k5⟩ | ⟨p,e,m,hm,he,X,k5⟩:=qrv H (nm:=s1) (c:=true) (is:=x3.map qM.pe) (os:=x4.map qM.pe) (b1:=x3.isEmpty) (b2:=x4.isEmpty) h4
 obtain ⟨h6,k6⟩ | ⟨p,e,m,hm,he,k6⟩:=qa0 H [125] h5
 all_goals
  try (simp only [qvw,qvx] at k5)
  first
  | exact .inr ⟨p,e,m,hm,he,λh i hi=>(P h i).trans (by
    have Y:=qf hi
    have E:i ≠ h.length + 1:=zo
    have I:i ≠ h.length:=zo
    have a1:Nat.ble h.length (h.length + 1) = true:=qx zo
    rw [PBi] at hi
    simp only [c46,sT.1,sC.1,qg,seval,-rN,qY,qaa,qco,qbu H.hw hn,PBi,qe, *])⟩
  | exact .inl ⟨⟨s1,true,x3,x4,[],[],[],[],[],0,[],ps,ls,rs⟩,n5 + 1,zo,h6,⟨⟨q1,⟨g3,q3⟩,⟨g4,q4⟩,⟨q5.1,q5.2.1,q5.2.2.1,λd hd=>(q5.2.2.2 d hd).good⟩⟩,⟨rfl,rfl,rfl,rfl,rfl,rfl,rfl⟩,⟨(λ_ h=>nomatch h),(λ_ h=>nomatch h),(λ_ h=>nomatch h),(λ_ h=>nomatch h),(λ_ h=>nomatch h),(λ_ h=>nomatch h),λr hr=>(q5.2.2.2 r hr).1⟩⟩,λh i hi=>(P h i).trans (by
    have Y:=qf hi
    have E:i ≠ h.length + 1:=zo
    have I:i ≠ h.length:=zo
    have a1:Nat.ble h.length (h.length + 1) = true:=qx zo
    rw [PBi] at hi
    simp only [c46,sT.1,sC.1,qg,seval,-rN,qY,qaa,qco,qe8,qe5,qgk,qbu H.hw hn,PBi,qr.pe,qr.row,qvx,qEz,qiL,qgv,qGf, *])⟩
theorem qxl (H:En ws) (hn:n < ws.length) (h0:n + 1 < ws.length) (a0:isW ws n [99,111,117,112,108,101,100] = false):Gv ws 46 [] qr.pe qr.fine n:=by
 have w:=qJ (n:=n) (by have:=H.hw.len;omega)
 have P:=λ(h:List qj) (i:Nat)=>qm 46 c46 (first:=[]) (cap:=[]) (args:=[.ptr i 0]) (h:=h)
 have a6:∀(x:Exp) (k:Nat),(x.enc φP).lower k = true:=λx k=>by rw [Exp.enc,qd.lower];exact qmy x k
 obtain ⟨s1,n1,l1,h1,q1,k1⟩ | ⟨p,e,m,hm,he,k1⟩:=qeK H h0
 obtain ⟨h2,k2⟩ | ⟨p,e,m,hm,he,k2⟩:=qa0 H [123] h1
 obtain ⟨x3,n3,l3,h3,g3,q3,k3⟩ | ⟨p,e,m,hm,he,k3⟩:=qkf H [105,110] h2
 obtain ⟨x4,n4,l4,h4,g4,q4,k4⟩ | ⟨p,e,m,hm,he,k4⟩:=qkf H [111,117,116] h3
 obtain ⟨vs,ta,es,it,ex,cn,ow,n5,l5,h5,q5,k5⟩ | ⟨p,e,m,hm,he,X,k5⟩:=qvM H (nm:=s1) (c:=false) (is:=x3.map qM.pe) (os:=x4.map qM.pe) (b1:=x3.isEmpty) (b2:=x4.isEmpty) h4
 obtain ⟨h6,k6⟩ | ⟨p,e,m,hm,he,k6⟩:=qa0 H [125] h5
 all_goals
  try (simp only [qvw,qvx,qEz] at k5)
  first
  | exact .inr ⟨p,e,m,hm,he,λh i hi=>(P h i).trans (by
    have Y:=qf hi
    have E:i ≠ h.length + 1:=zo
    have I:i ≠ h.length:=zo
    have a1:Nat.ble h.length (h.length + 1) = true:=qx zo
    rw [PBi] at hi
    simp only [c46,sT.1,sC.1,qg,seval,-rN,qY,qaa,qco,qbu H.hw hn,PBi,qe, *])⟩
  | exact .inl ⟨⟨s1,false,x3,x4,vs,[ta],es,it,ex,cn,ow,[],[],[]⟩,n5 + 1,zo,h6,⟨⟨q1,⟨g3,q3⟩,⟨g4,q4⟩,⟨⟨q5.1.1,λd hd=>(q5.1.2 d hd).good⟩,⟨ta,rfl,q5.2.1.1⟩,⟨q5.2.2.1.1,λd hd=>(q5.2.2.1.2 d hd).good⟩,⟨q5.2.2.2.1.1,λd hd=>(q5.2.2.2.1.2 d hd).good⟩,⟨q5.2.2.2.2.1.1,λd hd=>(q5.2.2.2.2.1.2 d hd).good⟩,⟨q5.2.2.2.2.2.1.1,λd hd=>(q5.2.2.2.2.2.1.2 d hd).good⟩,q5.2.2.2.2.2.2⟩⟩,⟨rfl,rfl,rfl⟩,⟨λs hs=>(q5.1.2 s hs).2,(λs hs=>by rw [jX] at hs;rw [hs];exact q5.2.1),λx hx=>⟨(q5.2.2.1.2 x hx).2.1,(q5.2.2.1.2 x hx).2.2.2⟩,λs hs=>(q5.2.2.2.1.2 s hs).2,λs hs=>(q5.2.2.2.2.1.2 s hs).2,λs hs=>(q5.2.2.2.2.2.1.2 s hs).2,(λ_ h=>nomatch h)⟩⟩,λh i hi=>(P h i).trans (by
    have Y:=qf hi
    have E:i ≠ h.length + 1:=zo
    have I:i ≠ h.length:=zo
    have a1:Nat.ble h.length (h.length + 1) = true:=qx zo
    rw [PBi] at hi
    simp only [c46,sT.1,sC.1,qg,seval,-rN,qY,qaa,qco,qaB,qbB,qbu H.hw hn,PBi,qr.pe,qr.row,qvx,qEz,qiL,qgv,qGf, *])⟩
theorem qA5 (H:En ws) (hn:n < ws.length) (hb:qbq ws n = true):Gv ws 46 [] qr.pe qr.fine n:=by
 have h0:n + 1 < ws.length:=by
  rw [qbq,Bool.or_eq_true] at hb
  exact hb.elim (ql H.hw hn) (ql H.hw hn)
 cases a0:isW ws n [99,111,117,112,108,101,100] with
 | true=>exact qxm H hn h0 a0
 | false=>exact qxl H hn h0 a0
theorem qxo (H:En ws) (hn:n < ws.length) :
  (∃(ds:List qr) (m:Nat),n <= m/\m < ws.length/\ds.length <= 24/\(∀d ∈ ds,d.fine)/\(qbq ws n = true->ds ≠ [])/\∀(h:List qj) (i b:Nat),h[b]? = some (.cells [.ptr i 0])->i ≠ b->h[i]? = some (PB ws n)->Wd (.fn 45 [] []) [.ptr i 0,.int .i64 24,.fn 42 [] [.ptr b 0],.fn 46 [.ptr i 0] []] h = some (.ret (.lst (ds.map qr.pe) (fl ds.isEmpty)),h.set i (PB ws m),false))\/
  ∃(p e:Int) (m:Nat),m < ws.length/\1 <= e/\∀(h:List qj) (i b:Nat),h[b]? = some (.cells [.ptr i 0])->i ≠ b->h[i]? = some (PB ws n)->Wd (.fn 45 [] []) [.ptr i 0,.int .i64 24,.fn 42 [] [.ptr b 0],.fn 46 [.ptr i 0] []] h = some (.pan (qbc p e),h.set i (PB ws m),false):=by
 obtain ⟨ds,m,a1,a2,a3,a4,a5,_,a6⟩ | ⟨p,e,m,a1,a2,a3⟩:=qtw (ι:=Nat×Nat) (F:=45) (k:=14) (most:=24) (z:=[.str [],.bool false,.lst [] .full,.lst [] .full,.lst [] .full,.lst [] .full,.lst [] .full,.lst [] .full,.lst [] .full,.int .i64 0,.lst [] .full,.lst [] .full,.lst [] .full,.lst [] .full]) (i:=λc=>c.1) (fb:=42) (oa:=46) (fa:=λ_=>[]) (fc:=λc=>[.ptr c.2 0]) (ob:=λc=>[.ptr c.1 0]) (oc:=λ_=>[]) (J:=λc h=>h[c.2]? = some (.cells [.ptr c.1 0])/\c.1 ≠ c.2) (eP:=qr.pe) (Q:=qr.fine) H.hw rfl zk (by decide) rfl (by decide) (by decide) (λc h m hj=>⟨by rw [List.getElem?_set_ne hj.2];exact hj.1,hj.2⟩) (λm c h hm hj hi=>qcS H.hw hm hj.1 hi) (λn hn hb=>by
  obtain ⟨d,m,c1,c2,c3,c4⟩ | ⟨p,e,m,c1,c2,c3⟩:=qA5 H hn hb
  ·exact .inl ⟨d,m,c1,c2,⟨hn,hb,qgE d,λc h _ hi=>by rw [qbP];exact c4 h c.1 hi⟩,c3⟩
  ·exact .inr ⟨p,e,m,c1,c2,λc h _ hi=>by rw [qbP];exact c3 h c.1 hi⟩) hn
 ·exact .inl ⟨ds,m,a1,a2,a3,a4,a5,λh i b hb E hi=>a6 (i,b) h ⟨hb,E⟩ hi⟩
 ·exact .inr ⟨p,e,m,a1,a2,λh i b hb E hi=>a3 (i,b) h ⟨hb,E⟩ hi⟩
theorem qud (H:En ws) (hn:n < ws.length):Gv ws 22 [] qaC.pe qaC.fine n:=by
 have P:=λ(h:List qj) (i:Nat)=>qm 22 c22 (first:=[]) (cap:=[]) (args:=[.ptr i 0]) (h:=h)
 cases a0:qbq ws n with
 | false=>exact .inr ⟨(word ws n).pos,6,n,hn,zr,λh i hi=>(P h i).trans (by
    have I:=qf hi
    have E:=qaG hi
    have Y:i ≠ h.length + 1:=zo
    have a1:i ≠ h.length:=zo
    have a7:Nat.ble h.length (h.length + 1) = true:=qx zo
    have a6:Nat.ble h.length (h.length + 2) = true:=qx zo
    have hg:∀l,Wd (.fn 42 [] [.ptr h.length 0]) [] (h ++ (.cells [.ptr i 0] :: l)) = some (.ret (.bool (qbq ws n)),h ++ (.cells [.ptr i 0] :: l),false):=λl=>qcS H.hw hn (by rw [jc (jm _),Jc];rfl) (by rw [ja I];exact hi)
    rw [PBi] at hi E
    simp only [c22,sT.1,sC.1,qg,seval,-rN,qe,PBi,qcR H.hw hn, *])⟩
 | true=>
  obtain ⟨x1,n1,l1,h1,g1,q1,b1,k1⟩ | ⟨p,e,m,hm,he,k1⟩:=qxo H hn
  obtain ⟨h2,k2⟩ | ⟨p,e,m,hm,he,k2⟩:=qa0 H [114,111,111,116] h1
  obtain ⟨s3,n3,l3,h3,q3,k3⟩ | ⟨p,e,m,hm,he,k3⟩:=qeK H h2
  obtain ⟨h4,k4⟩ | ⟨p,e,m,hm,he,k4⟩:=qa0 H [59] h3
  ·by_cases k5:(word ws (n3 + 1)).kind = 4
   ·exact .inl ⟨⟨x1,s3⟩,n3 + 1,zo,h4,⟨⟨⟨g1,b1 a0,λm hm=>(q1 m hm).1⟩,q3⟩,q1⟩,λh i hi=>(P h i).trans (by
     have I:=qf hi
     have E:=qaG hi
     have Y:i ≠ h.length + 1:=zo
     have a1:i ≠ h.length:=zo
     have a7:Nat.ble h.length (h.length + 1) = true:=qx zo
     have a6:Nat.ble h.length (h.length + 2) = true:=qx zo
     have hg:∀l,Wd (.fn 42 [] [.ptr h.length 0]) [] (h ++ (.cells [.ptr i 0] :: l)) = some (.ret (.bool (qbq ws n)),h ++ (.cells [.ptr i 0] :: l),false):=λl=>qcS H.hw hn (by rw [jc (jm _),Jc];rfl) (by rw [ja I];exact hi)
     rw [PBi] at hi E
     simp only [c22,sT.1,sC.1,qg,seval,-rN,qY,qaa,qbD,PBi,qr7 H.hw h4,qaC.pe, *])⟩
   ·exact .inr ⟨(word ws (n3 + 1)).pos,6,n3 + 1,h4,zr,λh i hi=>(P h i).trans (by
     have I:=qf hi
     have E:=qaG hi
     have Y:i ≠ h.length + 1:=zo
     have a1:i ≠ h.length:=zo
     have a7:Nat.ble h.length (h.length + 1) = true:=qx zo
     have a6:Nat.ble h.length (h.length + 2) = true:=qx zo
     have hg:∀l,Wd (.fn 42 [] [.ptr h.length 0]) [] (h ++ (.cells [.ptr i 0] :: l)) = some (.ret (.bool (qbq ws n)),h ++ (.cells [.ptr i 0] :: l),false):=λl=>qcS H.hw hn (by rw [jc (jm _),Jc];rfl) (by rw [ja I];exact hi)
     rw [PBi] at hi E
     simp only [c22,sT.1,sC.1,qg,seval,-rN,qY,qaa,qbD,qe,PBi,qC2 H.hw h4, *])⟩
  all_goals
   exact .inr ⟨p,e,m,hm,he,λh i hi=>(P h i).trans (by
    have I:=qf hi
    have E:=qaG hi
    have Y:i ≠ h.length + 1:=zo
    have a1:i ≠ h.length:=zo
    have a7:Nat.ble h.length (h.length + 1) = true:=qx zo
    have a6:Nat.ble h.length (h.length + 2) = true:=qx zo
    have hg:∀l,Wd (.fn 42 [] [.ptr h.length 0]) [] (h ++ (.cells [.ptr i 0] :: l)) = some (.ret (.bool (qbq ws n)),h ++ (.cells [.ptr i 0] :: l),false):=λl=>qcS H.hw hn (by rw [jc (jm _),Jc];rfl) (by rw [ja I];exact hi)
    rw [PBi] at hi E
    simp only [c22,sT.1,sC.1,qg,seval,-rN,qY,qaa,qbD,qe,PBi, *])⟩
theorem qBq {h:List qj} {s:Str} (hs:qkB s ws) {p err:Int} (hr:∀(h:List qj) (i:Nat),h[i]? = some (PB ws 0)->Wd (.fn 22 [] []) [.ptr i 0] h = some (.pan (qbc p err),h.set i (PB ws n),false)):Wd (.fn 21 [] []) [.str s,.fn 22 [] []] h = some (.ret (.tup [qtM,.int .i64 p,.int .i64 err]),h,false):=by
 have hw:=hs (h ++ [.cells [.lst [] .full,.str []],.cells [.int .i64 0],.cells [.int .i64 0]])
 have I:Nat.ble h.length (h.length + 1) = true:=qx zo
 have E:Nat.ble h.length (h.length + 1 + 1) = true:=qx zo
 have hp:=hr (h ++ [.cells [.lst [] .full,.str []],.cells [.int .i64 0],.cells [.int .i64 0],PB ws 0]) (h.length + 3) (by rw [jc zo];simp)
 have z0:((0:Nat):Int) = 0:=Eq.trans rfl rfl
 rw [PBi,PBi,z0,qbc,qse] at hp
 rw [qqP]
 simp only [c21,qnE,qso,qsj,qv3,dW,qj8,qkR,qzc,qyn,qz,sT.1,sC.1,qg,Nat.testBit,seval,-rN,qkg,hw,hp,I,E]
 rfl
theorem qxU {s:Str} (hs:qkB s ws) (H:En ws) (h0:0 < ws.length) :
  (∃p:qaC,p.fine/\∀h,Wd (.fn 9 [] []) [.str s] h = some (.ret (.tup [p.pe,.int .i64 0,.int .i64 0]),h,false))\/
  ∃p e:Int,1 <= e/\∀h,Wd (.fn 9 [] []) [.str s] h = some (.ret (.tup [qtM,.int .i64 p,.int .i64 e]),h,false):=by
 obtain ⟨p,m,_,_,hf,k⟩ | ⟨p,e,m,_,he,k⟩:=qud H h0
 ·refine .inl ⟨p,hf,λh=>?_⟩
  have:=qkh (s:=s) (ms:=p.models.map qr.pe) (rt:=p.root) (p:=0) (err:=0) (h:=h) (λn=>qbD n _) λh=>quf hs (λn=>qbD n _) λh i hi=>by
   have:=k h i hi
   rw [qaC.pe,<-qeG qr.pe] at this
   exact this
  rw [qeG] at this
  exact this
 ·exact .inr ⟨p,e,he,λh=>qkh (s:=s) (ms:=[]) (rt:=[]) (p:=p) (err:=e) (h:=h) (λ_=>rfl) λh=>qBq hs k⟩
end
def alB (k:Nat):qF:=
 (.seq (.reg [ao 16 (.bin .lss (.t 15) (.t 14))])
 (.seq (.cond (.t 16) (.skip)
 (.exit 0))
 (.seq (.block 1 (.seq (.reg [ao 17 (.mov (.t 15)),
 ao 7 (.asg (.t 17))])
 (.seq (.draw [⟨ao 18 (.mov (.t 2)),0,0⟩,
 ⟨ao 19 (.mov (.t 0)),1,0⟩,
 ⟨ao 20 (.mov (.t 7)),2,0⟩,
 ⟨ao 21 (.ixaL k (.t 19) (.t 20)),3,6⟩,
 ⟨ao 22 (.ld (some k) (.t 21)),4,14⟩,
 ⟨ao 23 (.mov (.t 1)),5,0⟩,
 ⟨ao 24 (.mov (.t 7)),6,0⟩,
 ⟨ao 25 (.ixaL k (.t 23) (.t 24)),7,96⟩,
 ⟨ao 26 (.ld (some k) (.t 25)),8,224⟩,
 ⟨ao 27 (.call (.t 18) [(.t 22),(.t 26)]),9,511⟩,
 ⟨ao 28 (.un .not (.t 27)),10,1023⟩])
 (.cond (.t 28) (.seq (.reg [ao 6 (.asg (.c (.bool false)))])
 (.ret))
 (.skip)))))
 (.reg [ao 29 (.bin .add (.t 15) (.c (.int .i64 1))),
 ao 15 (.mov (.t 29))]))))
def alF (k:Nat):qt:=⟨30,[.tmp 6],
 (.seq (.reg [ao 6 (.asg (.c (.bool false)))])
 (.seq (.seq (.reg [ao 8 (.mov (.t 0)),
 ao 9 (.len false (.t 8)),
 ao 10 (.mov (.t 1)),
 ao 11 (.len false (.t 10)),
 ao 12 (.bin .neq (.t 9) (.t 11))])
 (.cond (.t 12) (.seq (.reg [ao 6 (.asg (.c (.bool false)))])
 (.ret))
 (.skip)))
 (.seq (.seq (.reg [ao 13 (.mov (.t 0)),
 ao 14 (.len false (.t 13)),
 ao 15 (.mov (.c (.int .i64 0)))])
 (.block 0 (.loop (alB k))))
 (.seq (.reg [ao 6 (.asg (.c (.bool true)))])
 (.ret)))))⟩
def Dm (k:Nat) (v:qd):Prop:=∃cs,v = .agg cs/\cs.length = k/\cs.map qd.dim = cs
section
variable {k:Nat} {l:List qd} {g A:FuncId} {h:List qj}
theorem qzD (hs:∀v ∈ l,Dm k v) (hl:l.length <= 100000) (hg:∀v ∈ l,∀h,Wd (.fn g [] []) [v,v] h = some (.ret (.bool true),h,false)) {b:Nat} (hb:Nat.ble b h.length = true) :
  ∀j i tt,i + j = l.length->tt.length = 30->lkp tt 0 = .lst l .no->lkp tt 1 = .lst l .no->lkp tt 2 = .fn g [] []->lkp tt 14 = .int .i64 (l.length:Nat)->lkp tt 15 = .int .i64 (i:Nat)->
  ∃Y,qv b Wd (.loop (alB k)) ⟨tt,h,false⟩ = some (.exit 0,⟨Y,h,false⟩)/\Y.length = 30:=by
 intro j
 induction j with
 | zero=>
  intro i tt hk ht e0 e1 e2 E I
  have c1:ilt (i:Int) (l.length:Int) = false:=by rw [qaj];simp;omega
  rw [qn]
  generalize he:qv b Wd (alB k) _ = R
  simp only [alB,sT.1,sC.1,qg,seval,-rN,ht,E,I,c1] at he
  subst he
  exact ⟨_,rfl,Y1⟩
 | succ j ih=>
  intro i tt hk ht e0 e1 e2 E I
  have hi:i < l.length:=zo
  have c1:ilt (i:Int) (l.length:Int) = true:=by rw [qaj];simp;omega
  have w:=qJ (n:=i) zo
  obtain ⟨cs,ec,s1,s4⟩:=hs l[i] (List.getElem_mem hi)
  have hq:=hg l[i] (List.getElem_mem hi)
  rw [ec] at hq
  have hx:qi9 k (.lst l .no) (.int .i64 (i:Nat)) = some (.iptr cs 0):=by
   have:=qa3 (k:=k) (f:=.no) (j:=.i64) (show l[i]? = some (qd.agg cs) by rw [jh hi,ec]) (by simpa [qd.cells] using s1)
   simpa [qd.cells] using this
  have hc:Go.AE.cut cs 0 (some k) = some (.agg cs):=by
   rw [qeX zo,List.drop_zero,List.take_of_length_le zo,s4]
  rw [qn]
  generalize he:qv b Wd (alB k) _ = R
  simp only [alB,sT.1,sC.1,qg,Nat.testBit,bne,seval,-rN,ht,e0,e1,e2,E,I,c1,hx,hc,hq,w] at he
  subst he
  refine ih (i + 1) _ zo ?_ ?_ ?_ ?_ ?_ ?_
  all_goals simp only [sT.1,sC.1,seval,-rN,ht,e0,e1,e2,E]
theorem qFR (hX:X A = none) (hF:T.get A = some (alF k)) (hs:∀v ∈ l,Dm k v) (hl:l.length <= 100000) (hg:∀v ∈ l,∀h,Wd (.fn g [] []) [v,v] h = some (.ret (.bool true),h,false)) (h:List qj):Wd (.fn A [] []) [.lst l .no,.lst l .no,.fn g [] []] h = some (.ret (.bool true),h,false):=by
 have c5:((l.length:Int) == (l.length:Int)) = true:=by simp
 rw [qm _ _ hX hF]
 generalize hR:qfO _ h _ = R
 simp only [alF,sT.1,sC.1,qg,seval,-rN] at hR
 generalize hq:qv h.length Wd (.loop (alB k)) _ = r at hR
 obtain ⟨tt,rfl,ht⟩ :∃tt,r = some (.exit 0,⟨tt,h,false⟩)/\tt.length = 30:=by
  rw [<-hq]
  refine qzD hs hl hg (qx (jm _)) l.length 0 _ zo ?_ ?_ ?_ ?_ ?_ ?_
  all_goals simp only [sT.1,sC.1,seval,-rN,Int.natCast_zero]
 rw [<-hR]
 simp only [sT.1,sC.1,qg,seval,-rN,ht]
end
theorem qif {s:Str} (h:qI s = true):s.length <= 9223372036854775807:=by
 have:=(qbp h).2
 omega
theorem qjR {x:qdv} (g:x.good):x.part.length <= 9223372036854775807/\x.port.length <= 9223372036854775807:=by
 refine ⟨?_,qif g.2⟩
 rcases g.1 with h | h
 ·rw [h];simp
 ·exact qif h
theorem qww {d:qau} (h:d.good):qmw ⟨true,2,[(0,.s),(1,.s)]⟩ (.agg [.str d.name,.str d.model]) (.agg [.str d.name,.str d.model]) = some true:=by
 unfold qmw
 rw [if_pos]
 ·simp [qd.cells,qdp,qhK]
 ·simp [qec,qek,qej,qx (qif h.1),qx (qif h.2)]
theorem qwv {d:qaf} (h:d.good):qmw ⟨true,4,[(0,.s),(1,.s),(2,.s),(3,.s)]⟩ (.agg [.str d.frm.part,.str d.frm.port,.str d.to.part,.str d.to.port]) (.agg [.str d.frm.part,.str d.frm.port,.str d.to.part,.str d.to.port]) = some true:=by
 obtain ⟨h1,h2⟩:=qjR h.1
 obtain ⟨h3,h4⟩:=qjR h.2
 unfold qmw
 rw [if_pos]
 ·simp [qd.cells,qdp,qhK]
 ·simp [qec,qek,qej,qx h1,qx h2,qx h3,qx h4]
theorem qAu {d:qbi} (h:d.good):qmw ⟨true,7,[(0,(.i .i64)),(1,.s),(2,.s),(3,.s),(4,.s),(5,.s),(6,.s)]⟩ (.agg [.int .i64 d.kind,.str d.name,.str d.model,.str d.link.frm.part,.str d.link.frm.port,.str d.link.to.part,.str d.link.to.port]) (.agg [.int .i64 d.kind,.str d.name,.str d.model,.str d.link.frm.part,.str d.link.frm.port,.str d.link.to.part,.str d.link.to.port]) = some true:=by
 have key:(0 <= d.kind/\d.kind <= 3)/\d.name.length <= 9223372036854775807/\d.model.length <= 9223372036854775807/\(d.link.frm.part.length <= 9223372036854775807/\d.link.frm.port.length <= 9223372036854775807)/\d.link.to.part.length <= 9223372036854775807/\d.link.to.port.length <= 9223372036854775807:=by
  rcases h with ⟨a,b,c,e⟩ | ⟨a,b,c,e⟩ | ⟨a,b,c,e⟩
  ·rw [e,a];exact ⟨zo,qif b,qif c,by simp [qeo],by simp [qeo]⟩
  ·rw [e,a,c];exact ⟨zo,qif b,by simp,by simp [qeo],by simp [qeo]⟩
  ·rw [b,c];exact ⟨zo,by simp,by simp,qjR e.1,qjR e.2⟩
 obtain ⟨h0,h5,h6,⟨h1,h2⟩,h3,h4⟩:=key
 have k1:ile IntKind.i64.min d.kind = true:=show ile (-9223372036854775808) d.kind = true by rw [qaD];simp;omega
 have k2:ile d.kind IntKind.i64.max = true:=show ile d.kind 9223372036854775807 = true by rw [qaD];simp;omega
 unfold qmw
 rw [if_pos]
 ·simp [qd.cells,qdp,qhK]
 ·simp [qec,qek,qej,qx h1,qx h2,qx h3,qx h4,qx h5,qx h6,k1]
  exact k2
def qov (g:FuncId) (v:qd):Prop:=∀h,Wd (.fn g [] []) [v,v] h = some (.ret (.bool true),h,false)
theorem qbn {D:Type} {A g:FuncId} {k:Nat} {f:D->qd} {l:List D} (hX:X A = none) (hF:T.get A = some (alF k)) (hl:l.length <= 100000) (h:∀d ∈ l,Dm k (f d)/\qov g (f d)) (G:List qj):Wd (.fn A [] []) [.lst (l.map f) .no,.lst (l.map f) .no,.fn g [] []] G = some (.ret (.bool true),G,false):=by
 refine qFR hX hF (λv hv=>?_) (by simpa using hl) (λv hv=>?_) G
 ·obtain ⟨d,hd,rfl⟩:=jP.1 hv;exact (h d hd).1
 ·obtain ⟨d,hd,rfl⟩:=jP.1 hv;exact (h d hd).2
theorem quD {d:qau} (h:d.good):qov 59 d.enc:=λG=>by
 have e:=qww h
 rw [qm 59 c59]
 simp only [c59,sT.1,sC.1,qg,bne,seval,-rN,qau.enc,qcu,qcr,e]
theorem quC {d:qaf} (h:d.good):qov 61 d.enc:=λG=>by
 have e:=qwv h
 rw [qm 61 c61]
 simp only [c61,sT.1,sC.1,qg,bne,seval,-rN,qaf.enc,qcu,qcr,e]
theorem qx7 {d:qbi} (h:d.good):qov 99 d.enc:=λG=>by
 have e:=qAu h
 rw [qm 99 c99]
 simp only [c99,sT.1,sC.1,qg,bne,seval,-rN,qbi.enc,qcu,qcr,e]
theorem qEP (t:Tp):Dm 2 (tpV t):=by cases t;rw [qdJ];exact ⟨_,rfl,rfl,rfl⟩
theorem qsa (e:Exl):Dm 5 (exV e):=by cases e;rw [qac];exact ⟨_,rfl,rfl,rfl⟩
theorem qBA:∀(d:Nat) (t:Tp),tyB d t = true->qov 97 (tpV t):=by
 have key:∀(k:Int) (l:List Tp),l.length <= 4->(∀x ∈ l,qov 97 (tpV x))->qov 97 (tpV (.mk k l)):=λk l h4 hl G=>by
  have hh:=λG=>qbn (A:=147) (g:=97) (k:=2) (f:=tpV) (l:=l) rfl zk zo (λx hx=>⟨qEP x,hl x hx⟩) G
  rw [qdJ,qm 97 c97]
  simp only [c97,sT.1,sC.1,qg,qH,seval,-rN,hh]
 intro d
 induction d with
 | zero=>
  rintro ⟨k,l⟩ h
  rw [tyB,jk,List.isEmpty_iff] at h
  rw [h.2]
  exact key k [] (by simp) (by simp)
 | succ d ih=>
  rintro ⟨k,l⟩ h
  rw [tyB,Bool.or_eq_true,jk,jk,jk,jk,List.isEmpty_iff,decide_eq_true_eq,decide_eq_true_eq,List.all_eq_true] at h
  rcases h with ⟨_,rfl⟩ | ⟨_,⟨_,h4⟩,hl⟩
  ·exact key k [] (by simp) (by simp)
  ·exact key k l h4 λx hx=>ih x (hl x hx)
theorem qxs {op n:Int} {nm sb:Str} {k:Nat} (h:qb7 op n nm sb k = true):k <= 4:=(qig h).2.2
theorem qgP:∀(d:Nat) (e:Exl),right d e = true->qov 55 (exV e)
 | 0,_,h=>by rw [right] at h;cases h
 | d + 1,.mk op n nm sb aS,h=>λG=>by
  rw [right,jk,List.all_eq_true] at h
  have h4:=qxs h.1
  have hh:=λG=>qbn (A:=54) (g:=55) (k:=5) (f:=exV) (l:=aS) rfl zk zo (λx hx=>⟨qsa x,qgP d x (h.2 x hx)⟩) G
  rw [qac,qm 55 c55]
  simp only [c55,sT.1,sC.1,qg,qH,seval,-rN,hh]
theorem quE {x:qM} (g:x.good):qov 51 x.enc:=λG=>by
 have hh:=λG=>qBA 3 x.t g.2 G
 obtain ⟨nm,⟨k,l⟩⟩:=x
 rw [qM.enc,Tp.enc,qm 51 c51]
 simp only [tpV,Tp.enc] at hh
 simp only [c51,sT.1,sC.1,qg,qH,seval,-rN,hh]
theorem qx8 {x:qak} (g:x.good):qov 53 x.enc:=λG=>by
 have hh:=λG=>qgP 20 x.e g.2 G
 obtain ⟨nm,⟨op,n,m2,sb,aS⟩⟩:=x
 rw [qak.enc,exC,qm 53 c53]
 simp only [qac] at hh
 simp only [c53,sT.1,sC.1,qg,qH,seval,-rN,hh]
theorem quB {x:qab} (g:x.good):qov 57 x.enc:=λG=>by
 have hh:=λG=>qgP 20 x.e g.2.1 G
 have hl:=λG=>qbn (A:=54) (g:=55) (k:=5) (f:=exV) (l:=x.ifs) rfl zk (by have:=g.2.2.1;omega) (λe he=>⟨qsa e,qgP 20 e (g.2.2.2 e he)⟩) G
 obtain ⟨nm,⟨op,n,m2,sb,aS⟩,l⟩:=x
 rw [qab.enc,exC,qm 57 c57]
 simp only [qac] at hh
 simp only [c57,sT.1,sC.1,qg,qH,seval,-rN,hh,hl]
theorem qzz (d:qbi):Dm 7 d.enc:=⟨_,rfl,rfl,rfl⟩
theorem quF {x:qS} (g:x.good):qov 63 x.enc:=λG=>by
 have hh:=λG=>qgP 20 x.e g.1 G
 have hl:=λG=>qbn (A:=98) (g:=99) (k:=7) (f:=qbi.enc) (l:=x.acts) rfl zk (by have:=g.2.1;omega) (λa ha=>⟨qzz a,qx7 (g.2.2 a ha)⟩) G
 obtain ⟨⟨op,n,m2,sb,aS⟩,l⟩:=x
 rw [qS.enc,exC,qm 63 c63]
 simp only [qac] at hh
 simp only [c63,sT.1,sC.1,qg,qH,seval,-rN,hh,hl]
theorem qxH (d:qM):Dm 3 d.enc:=by obtain ⟨nm,⟨k,l⟩⟩:=d;rw [qM.enc,Tp.enc];exact ⟨_,rfl,rfl,rfl⟩
theorem qBD (d:qak):Dm 6 d.enc:=by obtain ⟨nm,⟨a,b,c,e,f⟩⟩:=d;rw [qak.enc,exC];exact ⟨_,rfl,rfl,rfl⟩
theorem qwo (d:qab):Dm 7 d.enc:=by obtain ⟨nm,⟨a,b,c,e,f⟩,l⟩:=d;rw [qab.enc,exC];exact ⟨_,rfl,rfl,rfl⟩
theorem qxx (d:qau):Dm 2 d.enc:=⟨_,rfl,rfl,rfl⟩
theorem qxa (d:qaf):Dm 4 d.enc:=⟨_,rfl,rfl,rfl⟩
theorem qx1 (d:qS):Dm 6 d.enc:=by obtain ⟨⟨a,b,c,e,f⟩,l⟩:=d;rw [qS.enc,exC];exact ⟨_,rfl,rfl,rfl⟩
theorem qtH (d:qr):Dm 14 d.enc:=⟨_,rfl,rfl,rfl⟩
structure qr.every (m:qr):Prop where
 ins:m.ins.length <= 1000/\∀d ∈ m.ins,d.good
 outs:m.outs.length <= 1000/\∀d ∈ m.outs,d.good
 vars:m.vars.length <= 1000/\∀d ∈ m.vars,d.good
 ta:m.ta.length <= 1000/\∀e ∈ m.ta,right 20 e = true
 emits:m.emits.length <= 1000/\∀d ∈ m.emits,d.good
 int:m.int.length <= 1000/\∀d ∈ m.int,d.good
 ext:m.ext.length <= 1000/\∀d ∈ m.ext,d.good
 own:m.own.length <= 1000/\∀d ∈ m.own,d.good
 parts:m.parts.length <= 1000/\∀d ∈ m.parts,d.good
 links:m.links.length <= 1000/\∀d ∈ m.links,d.good
 rules:m.rules.length <= 1000/\∀d ∈ m.rules,d.good
theorem qwy {m:qr} (g:m.good) (hl:m.lean):m.every:=by
 have gb:=g.body
 have gi:=g.ins
 have go:=g.outs
 have z:∀{D:Type} {l:List D} {P:D->Prop},l = []->l.length <= 1000/\∀d ∈ l,P d:=λh=>by rw [h];simp
 unfold qr.lean at hl
 have w:∀{D:Type} {l:List D} {k:Nat} {P:D->Prop},k <= 1000->(l.length <= k/\∀d ∈ l,P d)->l.length <= 1000/\∀d ∈ l,P d:=λhk h=>⟨by have:=h.1;omega,h.2⟩
 cases hc:m.coupled with
 | true=>
  rw [hc] at gb hl
  obtain ⟨h1,h2,h3,h4,h5,h6,h7⟩:=hl
  exact ⟨w (by decide) gi,w (by decide) go,z h1,z h2,z h3,z h4,z h5,z h7,w (by decide) gb.parts,w (by decide) gb.links,w (by decide) gb.rules⟩
 | false=>
  rw [hc] at gb hl
  obtain ⟨h1,h2,h3⟩:=hl
  obtain ⟨e,he,ge⟩:=gb.ta
  exact ⟨w (by decide) gi,w (by decide) go,w (by decide) gb.vars,by rw [he];exact ⟨by simp,λx hx=>by rw [jX] at hx;subst hx;exact ge⟩,w (by decide) gb.emits,w (by decide) gb.int,w (by decide) gb.ext,w (by decide) gb.own,z h1,z h2,z h3⟩
theorem qqk {m:qr} (g:m.every):qov 24 m.enc:=λG=>by
 have I:=λ(l:List qM) (h:l.length <= 1000/\∀d ∈ l,d.good) G=>qbn (A:=50) (g:=51) (k:=3) (f:=qM.enc) (l:=l) rfl zk (by have:=h.1;omega) (λd hd=>⟨qxH d,quE (h.2 d hd)⟩) G
 have E:=λ(l:List qak) (h:l.length <= 1000/\∀d ∈ l,d.good) G=>qbn (A:=52) (g:=53) (k:=6) (f:=qak.enc) (l:=l) rfl zk (by have:=h.1;omega) (λd hd=>⟨qBD d,qx8 (h.2 d hd)⟩) G
 have h1:=I _ g.ins
 have h2:=I _ g.outs
 have h3:=E _ g.vars
 have h4:=λG=>qbn (A:=54) (g:=55) (k:=5) (f:=exV) (l:=m.ta) rfl zk (by have:=g.ta.1;omega) (λe he=>⟨qsa e,qgP 20 e (g.ta.2 e he)⟩) G
 have h5:=λG=>qbn (A:=56) (g:=57) (k:=7) (f:=qab.enc) (l:=m.emits) rfl zk (by have:=g.emits.1;omega) (λd hd=>⟨qwo d,quB (g.emits.2 d hd)⟩) G
 have h6:=E _ g.int
 have h7:=E _ g.ext
 have h8:=E _ g.own
 have h9:=λG=>qbn (A:=58) (g:=59) (k:=2) (f:=qau.enc) (l:=m.parts) rfl zk (by have:=g.parts.1;omega) (λd hd=>⟨qxx d,quD (g.parts.2 d hd)⟩) G
 have a1:=λG=>qbn (A:=60) (g:=61) (k:=4) (f:=qaf.enc) (l:=m.links) rfl zk (by have:=g.links.1;omega) (λd hd=>⟨qxa d,quC (g.links.2 d hd)⟩) G
 have Y:=λG=>qbn (A:=62) (g:=63) (k:=6) (f:=qS.enc) (l:=m.rules) rfl zk (by have:=g.rules.1;omega) (λd hd=>⟨qx1 d,quF (g.rules.2 d hd)⟩) G
 clear g I E
 obtain ⟨nm,c,is,os,vs,ta,es,it,ex,cn,ow,ps,ls,rs⟩:=m
 rw [qr.enc,qr.cs]
 simp only at h1 h2 h3 h4 h5 h6 h7 h8 h9 a1 Y ⊢
 have cc:(c == c) = true:=by cases c <;> rfl
 rw [qm 24 c24]
 simp only [c24,sT.1,sC.1,qg,qH,bne,seval,-rN,h1,h2,h3,h4,h5,h6,h7,h8,h9,a1,Y]
theorem qzv {p:qaC} (hl:p.models.length <= 1000) (g:∀m ∈ p.models,m.every) {a b:qd} (ha:qbZ a = p.enc) (hb:qbZ b = p.enc) (G:List qj):Wd (.fn 10 [] []) [a,b] G = some (.ret (.bool true),G,false):=by
 have hh:=λG=>qbn (A:=23) (g:=24) (k:=14) (f:=qr.enc) (l:=p.models) rfl zk zo (λm hm=>⟨qtH m,qqk (g m hm)⟩) G
 obtain ⟨l,r⟩:=p
 rw [qaC.enc,qaC.cs] at ha hb
 simp only at hh ha hb
 have e:[a,b].map qbZ = [.agg [.lst (l.map qr.enc) .no,.str r],.agg [.lst (l.map qr.enc) .no,.str r]]:=by show [qbZ a,qbZ b] = _;rw [ha,hb]
 rw [ql4 (f:=10) rfl zk,e]
 simp only [c10,sT.1,sC.1,qg,qH,seval,-rN,hh]
theorem qlz:∀(d:Nat) (e:Exl),right d e = true->Fit d e
 | 0,_,h=>by rw [right] at h;cases h
 | d + 1,.mk op n nm sb aS,h=>by
  rw [right,jk,List.all_eq_true] at h
  exact ⟨by have:=(qig h.1).2.2;omega,λa ha=>qlz d a (h.2 a ha)⟩
theorem qk1 {e:Exl} (h:right 20 e = true):ExF e:=⟨20,qlz 20 e h⟩
theorem qfk.imp {Q R:Exl->Prop} (q:∀e,Q e->R e) {m:qr} (h:qfk Q m):qfk R m:=
 ⟨λs hs=>q _ (h.vars s hs),λe he=>q _ (h.ta e he),λx hx=>⟨q _ (h.emits x hx).1,λe he=>q _ ((h.emits x hx).2 e he)⟩,λs hs=>q _ (h.int s hs),λs hs=>q _ (h.ext s hs),λs hs=>q _ (h.own s hs),λr hr=>q _ (h.rules r hr)⟩
theorem qII {d:qak} (h:d.good):qqH d = true:=by rw [qqH,h.1,h.2];rfl
theorem qEp {d:qM} (h:d.good):qhk d = true:=by rw [qhk,h.1,h.2];rfl
theorem qEo {d:qau} (h:d.good):qke d = true:=by rw [qke,h.1,h.2];rfl
theorem qCZ {d:qdv} (h:d.good):qws d = true:=by
 rw [qws,h.2]
 rcases h.1 with e | e <;> simp [e]
theorem qy0 {d:qaf} (h:d.good):qiN d = true:=by rw [qiN,qCZ h.1,qCZ h.2];rfl
theorem qCV {d:qab} (h:d.good):qkX d = true:=by
 have:=qwN (show (d.ifs.length:Int) <= 1 by have:=h.2.2.1;omega)
 rw [qkX,h.1,h.2.1,this,List.all_eq_true.2 h.2.2.2];rfl
theorem qFL {d:qbi} (h:d.good):qqR d = true:=by
 obtain ⟨k,nm,md,ln⟩:=d
 rcases h with ⟨h0,h1,h2,h3⟩ | ⟨h0,h1,h2,h3⟩ | ⟨h0,h1,h2,h3⟩
 ·simp only at h0 h1 h2 h3
  subst h0 h3
  simp [qqR,h1,h2,qtO,qeo]
 ·simp only at h0 h1 h2 h3
  subst h0 h2 h3
  simp [qqR,h1,qtO,qeo]
 ·simp only at h0 h1 h2 h3
  subst h1 h2
  rcases h0 with rfl | rfl <;> simp [qqR,qy0 h3]
theorem qEA {d:qS} (h:d.good):qlC d = true:=by
 have:=qwN (show (d.acts.length:Int) <= 5 by have:=h.2.1;omega)
 rw [qlC,h.1,this,List.all_eq_true.2 λa ha=>qFL (h.2.2 a ha)];rfl
theorem qFB {l:List qak} (h:l.length <= 10/\∀d ∈ l,d.good):okL l = true:=by
 have:=qkx (show ¬ (10:Int) < (l.length:Int) by have:=h.1;omega)
 rw [okL,this,List.all_eq_true.2 λd hd=>qII (h.2 d hd)];rfl
theorem qA2 {m:qr} (g:m.good) (hl:m.lean):qgi m = true:=by
 have i1:=qkx (show ¬ (8:Int) < (m.ins.length:Int) by have:=g.ins.1;omega)
 have i2:=qkx (show ¬ (8:Int) < (m.outs.length:Int) by have:=g.outs.1;omega)
 have hp:∀l:List qM,(∀d ∈ l,d.good)->l.all qhk = true:=λl h=>List.all_eq_true.2 λd hd=>qEp (h d hd)
 have key:(bif m.coupled then qmh m else ql8 m) = true:=by
  have gb:=g.body
  unfold qr.lean at hl
  have zz:ilt 0 0 = false:=Eq.trans rfl rfl
  cases hc:m.coupled with
  | true=>
   rw [hc] at gb hl
   obtain ⟨h1,h2,h3,h4,h5,h6,h7⟩:=hl
   obtain ⟨p1,p2,p3⟩:=gb
   have e1:=qwN (show (m.parts.length:Int) <= 32 by have:=p1.1;omega)
   have e2:=qwN (show (m.links.length:Int) <= 200 by have:=p2.1;omega)
   have e3:=qwN (show (m.rules.length:Int) <= 4 by have:=p3.1;omega)
   have a1:=List.all_eq_true.2 λd hd=>qEo (p1.2 d hd)
   have a2:=List.all_eq_true.2 λd hd=>qy0 (p2.2 d hd)
   have a3:=List.all_eq_true.2 λd hd=>qEA (p3.2 d hd)
   simp [qmh,h1,h2,h3,h4,h5,h6,h7,e1,e2,e3,a1,a2,a3,zz]
  | false=>
   rw [hc] at gb hl
   obtain ⟨h1,h2,h3⟩:=hl
   obtain ⟨p1,⟨e,p2,p3⟩,p4,p5,p6,p7,p8⟩:=gb
   have e1:=qwN (show (m.emits.length:Int) <= 8 by have:=p4.1;omega)
   have a1:=List.all_eq_true.2 λd hd=>qCV (p4.2 d hd)
   have b1:=qFB p1
   have b2:=qFB p5
   have b3:=qFB p6
   have b4:=qFB p7
   have q1:ilt m.con 0 = false:=qkx zo
   have q2:ilt 2 m.con = false:=qkx zo
   have q3:(ilt 0 (m.own.length:Nat) && !(m.con == 2)) = false:=by
    rcases p8 with ⟨_,e⟩ | e
    ·rw [e];rfl
    ·rw [e];simp
   simp only [ql8,h1,h2,h3,e1,a1,b1,b2,b3,b4,q1,q2,q3,p2,List.all_cons,List.all_nil,p3]
   rfl
 rw [qgi,g.name,i1,i2,hp _ g.ins.2,hp _ g.outs.2,key];rfl
theorem qEs {p:qaC} (h:p.fine):qqc p = true:=by
 obtain ⟨⟨⟨g1,g2,g3⟩,g4⟩,g5⟩:=h
 have e1:=qwN (show (1:Int) <= (p.models.length:Int) by have:=List.length_pos_iff.2 g2;omega)
 have e2:=qwN (show (p.models.length:Int) <= 24 by omega)
 rw [qqc,e1,e2,g4,List.all_eq_true.2 λm hm=>qA2 (g5 m hm).1 (g5 m hm).2.1];rfl
theorem qzk {s:Str} (h:qI s = true):qow s:=by
 have:=qbr h
 unfold qow
 omega
theorem qwu {e:qdv} (h:e.good):qow e.part/\qow e.port:=⟨h.1.elim (λe=>by rw [e];exact Nat.zero_le _) qzk,qzk h.2⟩
theorem qFN {a:qbi} (h:a.good):qFD a:=by
 have hn:qow []:=Nat.zero_le _
 rcases h with ⟨_,_,_,e⟩ | ⟨_,_,_,e⟩ | ⟨_,_,_,e⟩
 ·rw [qeo] at e;constructor <;> rw [e] <;> exact hn
 ·rw [qeo] at e;constructor <;> rw [e] <;> exact hn
 ·exact ⟨(qwu e.1).1,(qwu e.1).2,(qwu e.2).1,(qwu e.2).2⟩
theorem qA4 {m:qr} (h:m.fine):qkz m:=by
 obtain ⟨g,hl,_⟩:=h
 have gb:=g.body
 unfold qr.lean at hl
 have hn:([]:List qak).length <= 100000/\∀s ∈ ([]:List qak),ExF s.e:=⟨Nat.zero_le _,λ_ h=>nomatch h⟩
 have hs:∀{l:List qak},l.length <= 10/\(∀d ∈ l,d.good)->l.length <= 100000/\∀s ∈ l,ExF s.e:=λh=>⟨zo,λs hs=>qk1 (h.2 s hs).2⟩
 have hi:m.ins.length <= 100000:=by have:=g.ins.1;omega
 have ho:m.outs.length <= 100000:=by have:=g.outs.1;omega
 cases hc:m.coupled with
 | true=>
  rw [hc] at gb hl
  obtain ⟨h1,h2,h3,h4,h5,h6,h7⟩:=hl
  obtain ⟨p1,p2,p3⟩:=gb
  exact ⟨hi,ho,by rw [h1];exact hn,by rw [h2];exact ⟨Nat.zero_le _,λ_ h=>nomatch h⟩,by rw [h3];exact ⟨Nat.zero_le _,λ_ h=>nomatch h⟩,by rw [h4];exact hn,by rw [h5];exact hn,by rw [h7];exact hn,zo,zo,zo,λr hr=>⟨qk1 (p3.2 r hr).1,by have:=(p3.2 r hr).2.1;omega,λa ha=>qFN ((p3.2 r hr).2.2 a ha)⟩⟩
 | false=>
  rw [hc] at gb hl
  obtain ⟨h1,h2,h3⟩:=hl
  obtain ⟨p1,⟨e,p2,p3⟩,p4,p5,p6,p7,p8⟩:=gb
  exact ⟨hi,ho,hs p1,by rw [p2];exact ⟨by simp,λx hx=>by rw [jX] at hx;rw [hx];exact qk1 p3⟩,⟨zo,λx hx=>⟨qk1 (p4.2 x hx).2.1,by have:=(p4.2 x hx).2.2.1;omega,λe he=>qk1 ((p4.2 x hx).2.2.2 e he)⟩⟩,hs p5,hs p6,hs p7,by rw [h1];exact Nat.zero_le _,by rw [h2];exact Nat.zero_le _,by rw [h3];exact ⟨Nat.zero_le _,λ_ h=>nomatch h⟩⟩
theorem qgx {L:List Str} {b c:Nat} (hb:∀s ∈ L,s.length <= b) (hl:L.length <= c):(qca L).length <= c * (b + 1):=jn (qvT hb) (Nat.mul_le_mul_right _ hl)
theorem qtI {m:qr} (g:m.good) (hm:qdo m):(qca (qc0 m)).length <= 44000000:=by
 have hf:=qtJ hm
 have gb:=g.body
 have gi:=g.ins.1
 have go:=g.outs.1
 cases hc:m.coupled with
 | false=>
  rw [hc] at gb
  obtain ⟨p1,⟨e,p2,p3⟩,p4,p5,p6,p7,p8⟩:=gb
  have n4:=qbo [32,32] [105,110,116] (m.int.map qak.txt)
  have n5:=qbo [32,32] [101,120,116] (m.ext.map qak.txt)
  have n6:(qvs m.con m.own).length <= 12:=by
   have:=qbo [32,32] [99,111,110] (m.own.map qak.txt)
   unfold qvs
   rw [jQ] at this
   cases m.con == 1 <;> cases m.con == 2 <;> simp <;> omega
  rw [jQ] at n4 n5
  have hl:(qc0 m).length <= 73:=by
   have:(inL m).length <= 71:=by
    unfold inL
    rw [hc]
    simp only [cond_false,ql9,ji,jQ,p2,jy,jz]
    omega
   unfold qc0
   cases (inL m).isEmpty <;> simp <;> omega
  exact jn (qgx hf hl) (by decide)
 | true=>
  rw [hc] at gb
  obtain ⟨p1,p2,p3⟩:=gb
  have hI:(qca (inL m)).length <= 40000000:=by
   unfold inL
   rw [hc]
   simp only [cond_true,qmi,qeW,ji]
   have a1:=qgx (b:=600000) (c:=8) (qdR (λx hx=>qhu (hm.ins.2 x hx)) [32,32,105,110,32] (by simp)) (by simpa using gi)
   have a2:=qgx (b:=600000) (c:=8) (qdR (λx hx=>qhu (hm.outs.2 x hx)) [32,32,111,117,116,32] (by simp)) (by simpa using go)
   have a3:=qgx (L:=m.parts.map λs=>[32,32,112,97,114,116,32] ++ s.txt) (b:=1000) (c:=32) (λs hs=>by
    obtain ⟨x,hx,rfl⟩:=jP.1 hs
    have:=hm.parts.2 x hx
    have h1:=this.1
    have h2:=this.2
    unfold qau.txt;simp;omega) (by simpa using p1.1)
   have a4:=qgx (L:=m.links.map λs=>[32,32,108,105,110,107,32] ++ s.txt) (b:=1000) (c:=200) (λs hs=>by
    obtain ⟨x,hx,rfl⟩:=jP.1 hs
    have:=qaf.len (hm.links.2 x hx).1 (hm.links.2 x hx).2
    simp;omega) (by simpa using p2.1)
   have a5:=qgx (b:=600000) (c:=28) (qk4 hm.rules.2) (jn (qlD m.rules) (jn (qlE λr hr=>(p3.2 r hr).2.1) (by have:=p3.1;omega)))
   omega
  have h1:(qeB m).length <= 30:=by
   have:=hm.name
   unfold qeB
   cases m.coupled <;> simp <;> omega
  unfold qc0
  cases (inL m).isEmpty with
  | true=>simp [qca];omega
  | false=>
   rw [cond_false,show (qeB m ++ [32,123]) :: (inL m ++ [[125]]) = [qeB m ++ [32,123]] ++ (inL m ++ [[125]]) from rfl,qeW,qeW,qfV,qfV]
   simp
   omega
theorem qjj:∀(l:List qr),(∀m ∈ l,(qca (qc0 m)).length <= 44000000)->(qca (qbJ l)).length <= l.length * 44000000
 | [],_=>Nat.zero_le _
 | m :: l,h=>by
  have h1:=h m (by simp)
  have h2:=qjj l λx hx=>h x (by simp [hx])
  rw [qbJ,List.map_cons,List.flatten_cons,qeW,ji,jy]
  rw [qbJ] at h2
  omega
theorem qxN {p:qaC} (h:p.fine) (hp:qkA p):(qca (qbK p)).length <= 1073000000:=by
 have h1:=qjj p.models λm hm=>qtI (h.2 m hm).1 (hp.models.2 m hm)
 have h2:p.models.length * 44000000 <= 24 * 44000000:=Nat.mul_le_mul_right _ hp.models.1
 have h3:=hp.root
 rw [qbK,qeW,qfV]
 simp [qxY]
 omega
def qen (d:Str):Nat:=d.foldl (λa c=>a * 10 + (c.toNat - 48)) 0
def qdC:Nat:=9223372036854775807
def qqJ:Prop:=∀d:Str,d ≠ []->d.length <= 100000->d.all qao = true->(qen d <= qdC->qiT d (qen d:Nat))/\(qdC < qen d->qng d)
def qlq (at_:Nat):Tok:=⟨0,[],0,at_⟩
def qaF (s:Str) (kind:Int) (at_ i:Nat):Tok×Nat×Int:=
 match s[i]? with
 | none=>(qlq at_,at_,5)
 | some c=>if qaS c = true then (if qav qaH s i - i <= 16 then (⟨kind,(s.drop i).take (qav qaH s i - i),0,at_⟩,qav qaH s i,0) else (qlq at_,at_,9)) else (qlq at_,at_,5)
def qb3 (s:Str) (i:Nat):Str:=(s.drop i).take (qav qao s i - i)
def qfu (s:Str) (i:Nat) (c:UInt8):Tok×Nat×Int:=
 if c = 48/\1 < qav qao s i - i then (qlq i,i,6)
 else if qen (qb3 s i) <= qdC then (⟨1,[],(qen (qb3 s i):Nat),i⟩,qav qao s i,0) else (qlq i,i,2)
def qfH (s:Str) (i:Nat):Option Str->Tok×Nat×Int
 | some m=>(⟨3,m,0,i⟩,i + m.length,0)
 | none=>(qlq i,i,5)
def lex (s:Str) (j:Nat):Tok×Nat×Int:=
 match s[j]? with
 | none=>(⟨4,[],0,j⟩,j,0)
 | some c=>
  if qaS c = true then qaF s 0 j j
  else if c = 39 then qaF s 2 j (j + 1)
  else if qao c = true then qfu s j c
  else qfH s j (qeI (s.drop j))
theorem qnP:qaS 39 = false:=zk
theorem qgs (p:UInt8->Bool):∀l:Str,(∀a ∈ l,p a = true)->l.takeWhile p = l
 | [],_=>rfl
 | a :: l,h=>by rw [List.takeWhile_cons_of_pos (h a (by simp)),qgs p l λb hb=>h b (by simp [hb])]
theorem qeO (p:UInt8->Bool) (s:Str) (i:Nat):(s.drop i).take (qav p s i - i) = (s.drop i).takeWhile p:=by
 rw [qav,Nat.add_sub_cancel_left]
 generalize s.drop i = l
 induction l with
 | nil=>rfl
 | cons c l ih=>
  rw [List.takeWhile_cons]
  split
  ·rw [jy,List.take_succ_cons,ih]
  ·rfl
theorem qoV (s:Str) (i:Nat):(qb3 s i).all qao = true:=by
 rw [qb3,qeO]
 exact List.all_takeWhile
theorem qhy {p:UInt8->Bool} {s:Str} {i:Nat} (hi:i < s.length) (hp:p s[i] = true):i < qav p s i:=by
 rw [qhx hi hp]
 have:=qdj p s (i + 1)
 omega
theorem qmm {s:Str} {i:Nat} (hi:i < s.length) (hp:qao s[i] = true):qb3 s i ≠ []:=by
 rw [qb3]
 have h1:=qhy hi hp
 intro h
 have:=congrArg List.length h
 rw [List.length_take,List.length_drop,jz] at this
 omega
theorem qkT (s:Str) (i:Nat):(qb3 s i).length <= s.length:=by
 rw [qb3,List.length_take,List.length_drop]
 omega
theorem qjf {s:Str} (hs:s.length <= 100000) (kind:Int) (at_ i:Nat) (hi:i <= s.length) (h:List qj):Wd (.fn 158 [] []) [.str s,.int .i64 kind,.int .i64 (at_:Nat),.int .i64 (i:Nat)] h =
  some (.ret (.tup [qbM (qaF s kind at_ i).1.kind (qaF s kind at_ i).1.s (qaF s kind at_ i).1.n (qaF s kind at_ i).1.pos,.int .i64 ((qaF s kind at_ i).2.1:Nat),.int .i64 (qaF s kind at_ i).2.2]),h,false):=by
 rcases Nat.lt_or_ge i s.length with h1 | h1
 ·cases hl:qaS s[i] with
  | true=>
   rw [qu6 s hs kind at_ i h1 hl]
   simp only [qaF,jh h1,hl,if_true]
   split
   ·rfl
   ·rfl
  | false=>
   rw [qoq s kind at_ i hi λ_=>hl]
   simp only [qaF,jh h1,hl,jl,if_false]
   rfl
 ·rw [qoq s kind at_ i hi λh=>absurd h zo]
  simp only [qaF,jq h1]
  rfl
theorem qks (Y:qqJ) {s:Str} (hs:s.length <= 100000) {j:Nat} (hj:j <= s.length):qno s j (lex s j).1 (lex s j).2.1 (lex s j).2.2:=by
 intro h
 rcases Nat.lt_or_ge j s.length with h1 | h1
 ·have hx:=jh h1
  cases hl:qaS s[j] with
  | true=>
   have e:lex s j = qaF s 0 j j:=by simp only [lex,hx,hl,if_true]
   rw [e]
   exact qvn h1 hl λh=>qjf hs 0 j j hj h
  | false=>
   cases E:(s[j] == 39) with
   | true=>
    have e:lex s j = qaF s 2 j (j + 1):=by simp only [lex,hx,jl,if_false,beq_iff_eq.1 E,if_true,qnP]
    rw [e]
    exact qyz h1 hl E hs λh=>qjf hs 2 j (j + 1) h1 h
   | false=>
    have I:s[j] ≠ 39:=by simpa using E
    cases hd:qao s[j] with
    | true=>
     have e:lex s j = qfu s j s[j]:=by simp only [lex,hx,hl,jl,if_false,I,hd,if_true]
     rw [e]
     obtain ⟨a1,a2⟩:=Y (qb3 s j) (qmm h1 hd) (jn (qkT s j) hs) (qoV s j)
     refine qyy h1 hl E hd λh=>?_
     by_cases q1:s[j] = 48/\1 < qav qao s j - j
     ·rw [qmT s hs j h1 (by simp [qs7,q1.1,q1.2]),qfu,if_pos q1]
      rfl
     ·have q2:qs7 s j h1 = false:=by
       rw [j6]
       intro q
       simp only [qs7,jk,beq_iff_eq,decide_eq_true_eq] at q
       exact q1 q
      by_cases q3:qen (qb3 s j) <= qdC
      ·rw [qtQ s hs j h1 q2 (a1 q3),qfu,if_neg q1,if_pos q3]
      ·rw [qlu s hs j h1 q2 (a2 zo),qfu,if_neg q1,if_neg q3]
       rfl
    | false=>
     have e:lex s j = qfH s j (qeI (s.drop j)):=by simp only [lex,hx,hl,jl,if_false,I,hd]
     rw [e,qvm h1 hl E hd hs]
     cases qeI (s.drop j) <;> rfl
 ·obtain rfl:j = s.length:=zo
  have e:lex s s.length = (⟨4,[],0,s.length⟩,s.length,0):=by simp only [lex,jq (jm _)]
  rw [e]
  exact qyx s
theorem qxh:∀m ∈ marks,0 < m.length:=by
 have:marks.all (λm=>decide (0 < m.length)) = true:=zk
 intro m hm
 simpa using List.all_eq_true.1 this m hm
theorem qpR {r m:Str} (h:qeI r = some m):m ∈ marks/\m.length <= r.length:=by
 rw [qeI] at h
 refine ⟨List.mem_of_find?_eq_some h,?_⟩
 have:=List.find?_some h
 rw [qlc,beq_iff_eq] at this
 have:=congrArg List.length this
 rw [List.length_take] at this
 omega
structure qvF (s:Str) (t:Tok):Prop where
 kind:t.kind = 0\/t.kind = 1\/t.kind = 2\/t.kind = 3\/t.kind = 4
 name:t.kind = 0\/t.kind = 2->∃c r,t.s = c :: r/\qaS c = true/\r.all qaH = true/\r.length <= 15
 mark:t.kind = 3->t.s ∈ marks
 int:t.kind = 1->0 <= t.n/\t.n <= 9223372036854775807
 pos:0 <= t.pos/\t.pos <= s.length
theorem qjg {s:Str} {kind:Int} {at_ i:Nat} (hk:kind = 0\/kind = 2) (Y:at_ <= i) (hi:i <= s.length) (h0:(qaF s kind at_ i).2.2 = 0) :
  i < (qaF s kind at_ i).2.1/\(qaF s kind at_ i).2.1 <= s.length/\(qaF s kind at_ i).1.kind = kind/\qvF s (qaF s kind at_ i).1:=by
 rcases Nat.lt_or_ge i s.length with h1 | h1
 ·cases hl:qaS s[i] with
  | true=>
   simp only [qaF,jh h1,hl,if_true] at h0 ⊢
   split at h0
   ·rename_i I
    rw [if_pos I]
    have E:qaH s[i] = true:=by rw [qaH,hl];rfl
    refine ⟨qhy h1 E,qcI _ _ hi,rfl,⟨by rcases hk with rfl | rfl <;> simp,λ_=>?_,λh=>?_,λh=>?_,by simp;omega⟩⟩
    ·simp only
     rw [qeO,jT h1,List.takeWhile_cons_of_pos E]
     refine ⟨_,_,rfl,hl,List.all_takeWhile,?_⟩
     rw [qav,jT h1,List.takeWhile_cons_of_pos E,jy] at I
     omega
    ·simp only at h;omega
    ·simp only at h;omega
   ·cases h0
  | false=>
   simp only [qaF,jh h1,hl,jl,if_false] at h0
   cases h0
 ·simp only [qaF,jq h1] at h0
  cases h0
theorem qnQ {s:Str} {i:Nat} (h1:i < s.length) (h0:(lex s i).2.2 = 0):i < (lex s i).2.1/\(lex s i).2.1 <= s.length/\(lex s i).1.kind ≠ 4/\qvF s (lex s i).1:=by
 have hx:=jh h1
 cases hl:qaS s[i] with
 | true=>
  have e:lex s i = qaF s 0 i i:=by simp only [lex,hx,hl,if_true]
  rw [e] at h0 ⊢
  obtain ⟨a,b,c,d⟩:=qjg (.inl rfl) (jm _) (Nat.le_of_lt h1) h0
  exact ⟨a,b,by rw [c];decide,d⟩
 | false=>
  by_cases E:s[i] = 39
  ·have e:lex s i = qaF s 2 i (i + 1):=by simp only [lex,hx,jl,if_false,E,if_true,qnP]
   rw [e] at h0 ⊢
   obtain ⟨a,b,c,d⟩:=qjg (i:=i + 1) (.inr rfl) (Nat.le_succ _) h1 h0
   exact ⟨zo,b,by rw [c];decide,d⟩
  ·cases hd:qao s[i] with
   | true=>
    have e:lex s i = qfu s i s[i]:=by simp only [lex,hx,hl,jl,if_false,E,hd,if_true]
    rw [e,qfu] at h0 ⊢
    split at h0
    ·cases h0
    ·rename_i q1
     rw [if_neg q1]
     split at h0
     ·rename_i q2
      rw [if_pos q2]
      refine ⟨qhy h1 hd,qcI _ _ (Nat.le_of_lt h1),by simp,⟨by simp,λh=>by simp at h,λh=>by simp at h,λ_=>?_,by simp;omega⟩⟩
      simp only [qdC] at q2 ⊢
      omega
     ·cases h0
   | false=>
    have e:lex s i = qfH s i (qeI (s.drop i)):=by simp only [lex,hx,hl,jl,if_false,E,hd]
    rw [e] at h0 ⊢
    cases hm:qeI (s.drop i) with
    | none=>rw [hm] at h0;cases h0
    | some m=>
     obtain ⟨I,Y⟩:=qpR hm
     have:=qxh m I
     rw [List.length_drop] at Y
     simp only [qfH]
     exact ⟨zo,zo,by simp,⟨by simp,λh=>by simp at h,λ_=>I,λh=>by simp at h,by simp;omega⟩⟩
def nl (c:UInt8):Bool:=!((c.toNat:Int) == 10)
inductive RW (s:Str):Nat->List Tok->Option (Int×Int)->Prop
 | fin:RW s s.length [⟨4,[],0,s.length⟩] none
 | blank {i ts o} (hi:i < s.length):AE.blank s[i] = true->RW s (i + 1) ts o->RW s i ts o
 | sharp {i ts o} (hi:i < s.length):AE.blank s[i] = false->AE.sharp s[i] = true->RW s (qav nl s i) ts o->RW s i ts o
 | word {i ts o} (hi:i < s.length):AE.blank s[i] = false->AE.sharp s[i] = false->(lex s i).2.2 = 0->RW s (lex s i).2.1 ts o->RW s i ((lex s i).1 :: ts) o
 | err {i} (hi:i < s.length):AE.blank s[i] = false->AE.sharp s[i] = false->(lex s i).2.2 ≠ 0->RW s i [] (some ((i:Int),(lex s i).2.2))
theorem RW.ex (s:Str):∀(n i:Nat),s.length - i <= n->i <= s.length->∃ts o,RW s i ts o:=by
 intro n
 induction n with
 | zero=>
  intro i h1 h2
  obtain rfl:i = s.length:=zo
  exact ⟨_,_,.fin⟩
 | succ n ih=>
  intro i h1 h2
  rcases Nat.lt_or_ge i s.length with hi | hi
  ·cases hb:AE.blank s[i] with
   | true=>
    obtain ⟨ts,o,h⟩:=ih (i + 1) zo zo
    exact ⟨ts,o,.blank hi hb h⟩
   | false=>
    cases hs:AE.sharp s[i] with
    | true=>
     have hn:nl s[i] = true:=by
      simp only [AE.sharp,beq_iff_eq] at hs
      simp [nl,hs]
     obtain ⟨ts,o,h⟩:=ih (qav nl s i) (by have:=qhy hi hn;omega) (qcI _ _ h2)
     exact ⟨ts,o,.sharp hi hb hs h⟩
    | false=>
     by_cases h0:(lex s i).2.2 = 0
     ·obtain ⟨g1,g2,_⟩:=qnQ hi h0
      obtain ⟨ts,o,h⟩:=ih (lex s i).2.1 zo g2
      exact ⟨_,o,.word hi hb hs h0 h⟩
     ·exact ⟨_,_,.err hi hb hs h0⟩
  ·obtain rfl:i = s.length:=zo
   exact ⟨_,_,.fin⟩
theorem RW.le {s:Str} {i:Nat} {ts:List Tok} {o:Option (Int×Int)} (h:RW s i ts o):i <= s.length/\ts.length + i <= s.length + 1/\(∀t ∈ ts,qvF s t):=by
 induction h with
 | fin=>exact ⟨jm _,by simp;omega,λt ht=>by
   rw [jX] at ht
   subst ht
   exact ⟨by simp,λh=>by simp at h,λh=>by simp at h,λh=>by simp at h,by simp⟩⟩
 | blank hi _ _ ih=>exact ⟨zo,zo,ih.2.2⟩
 | @sharp i ts o hi hb hs _ ih=>have:=qdj nl s i;exact ⟨zo,zo,ih.2.2⟩
 | word hi _ _ h0 _ ih=>
  obtain ⟨g1,g2,_,g4⟩:=qnQ hi h0
  refine ⟨zo,by rw [jy];omega,λt ht=>?_⟩
  rcases List.mem_cons.1 ht with rfl | ht
  ·exact g4
  ·exact ih.2.2 t ht
 | err hi _ _ _=>exact ⟨zo,by simp;omega,λt ht=>by cases ht⟩
theorem RW.last {s:Str} {i:Nat} {ts:List Tok} {o:Option (Int×Int)} (h:RW s i ts o) (ho:o = none):∃ws,ts = ws ++ [⟨4,[],0,s.length⟩]/\∀t ∈ ws,t.kind ≠ 4:=by
 induction h with
 | fin=>exact ⟨[],rfl,λ_ h=>by cases h⟩
 | blank hi _ _ ih=>exact ih ho
 | sharp hi _ _ _ ih=>exact ih ho
 | word hi _ _ h0 _ ih=>
  obtain ⟨ws,rfl,hw⟩:=ih ho
  refine ⟨_ :: ws,rfl,λt ht=>?_⟩
  rcases List.mem_cons.1 ht with rfl | ht
  ·exact (qnQ hi h0).2.2.1
  ·exact hw t ht
 | err hi _ _ _=>cases ho
theorem RW.wf {s:Str} (hs:s.length <= 16384) {ts:List Tok} (h:RW s 0 ts none):WF ts/\0 < ts.length:=by
 have hl:=h.le
 obtain ⟨ws,rfl,hw⟩:=h.last rfl
 refine ⟨⟨zo,λn w hn hk=>?_⟩,by simp⟩
 rcases Nat.lt_or_ge n ws.length with h1 | h1
 ·simp;omega
 ·rw [jc h1] at hn
  obtain ⟨h2,h3⟩:=List.getElem?_eq_some_iff.1 hn
  simp at h2
  have:n - ws.length = 0:=zo
  simp only [this,List.getElem_cons_zero] at h3
  subst h3
  exact absurd rfl hk
theorem qhg.skip {s:Str} {i i':Nat} {ts:List Tok} {o:Option (Int×Int)} (h:qhg s i' ts o) (hf:∀j,qiH s i' j->qiH s i j):qhg s i ts o:=by
 cases h with
 | last h1 h2 h3=>exact .last (hf _ h1) h2 h3
 | err h1 h2 h3=>exact .err (hf _ h1) h2 h3
 | next h1 h2 h3 h4=>exact .next (hf _ h1) h2 h3 h4
theorem qli {s:Str} {i k:Nat} (h:qcz (s.drop i) = some k):qav nl s i = i + k/\∃hk:i + k < s.length,AE.blank s[i + k] = true:=by
 rw [qcz,List.findIdx?_eq_some_iff_getElem] at h
 obtain ⟨h1,h2,h3⟩:=h
 rw [List.length_drop] at h1
 have e:((s.drop i).takeWhile nl).length = k:=by
  rw [List.takeWhile_eq_take_findIdx_not,List.length_take,List.length_drop]
  have:List.findIdx (λa=>!nl a) (s.drop i) = k:=by
   rw [List.findIdx_eq (by rw [List.length_drop];omega)]
   refine ⟨?_,λj hj=>?_⟩
   ·simp only [beq_iff_eq] at h2
    simp [nl,h2]
   ·have:=h3 j hj
    simp only [nl,Bool.not_not]
    rw [j6]
    intro q
    rw [beq_iff_eq] at q
    refine this ?_
    rw [beq_iff_eq]
    apply UInt8.toNat_inj.1
    show _ = 10
    omega
  rw [this]
  omega
 refine ⟨by rw [qav,e],zo,?_⟩
 rw [List.getElem_drop] at h2
 simp only [beq_iff_eq] at h2
 simp [AE.blank,h2]
theorem qlh {s:Str} {i:Nat} (hi:i <= s.length) (h:qcz (s.drop i) = none):qav nl s i = s.length:=by
 rw [qcz,List.findIdx?_eq_none_iff] at h
 rw [qav,qgs nl _ ?_,List.length_drop]
 ·omega
 ·intro a ha
  have:=h a ha
  rw [beq_eq_false_iff_ne] at this
  simp only [nl,Bool.not_eq_true',beq_eq_false_iff_ne,ne_eq]
  intro q
  refine this ?_
  apply UInt8.toNat_inj.1
  show _ = 10
  omega
theorem RW.words (I:qqJ) {s:Str} (hs:s.length <= 100000) {i:Nat} {ts:List Tok} {o:Option (Int×Int)} (h:RW s i ts o):qhg s i ts o:=by
 induction h with
 | fin=>
  have e:lex s s.length = (⟨4,[],0,s.length⟩,s.length,0):=by simp only [lex,jq (jm _)]
  have:=qks I hs (jm s.length)
  rw [e] at this
  exact .last .done this rfl
 | blank hi hb _ ih=>exact ih.skip λj hj=>.blank hi hb hj
 | @sharp i ts o hi hb hh _ ih=>
  cases hl:qcz (s.drop i) with
  | none=>
   rw [qlh (Nat.le_of_lt hi) hl] at ih
   refine ih.skip λj hj=>?_
   have Y:j = s.length:=by have:=hj.le;omega
   subst Y
   exact .last hi hb hh hl
  | some k=>
   obtain ⟨e,hk,E⟩:=qli hl
   rw [e] at ih
   refine ih.skip λj hj=>?_
   refine .line hi hb hh hl ?_
   generalize hq:i + k = q at hj hk E
   cases hj with
   | done=>omega
   | blank _ _ h=>exact h
   | line _ h0 _ _ _=>rw [h0] at E;cases E
   | last _ h0 _ _=>rw [h0] at E;cases E
   | word _ h0 _=>rw [h0] at E;cases E
 | @word i ts o hi hb hh h0 _ ih=>
  have hw:=qks I hs (Nat.le_of_lt hi)
  rw [h0] at hw
  exact .next (.word hi hb hh) hw (by simpa using (qnQ hi h0).2.2.1) ih
 | @err i hi hb hh h0=>
  have hw:=qks I hs (Nat.le_of_lt hi)
  have hp:(lex s i).1.pos = i:=by
   simp only [lex,qaF,qfu,qfH,qlq]
   repeat' split
   all_goals rfl
  rw [<-hp]
  exact .err (.word hi hb hh) hw (by simpa using h0)
end Go.Proofs.YtcbfifamliijlaaGreatDoor.AE
