/- Proved: part 23. No condition. -/
import Derived.Test.YtnibchoenjmmjaaGreatDoorMt19
import Derived.Test.YtnibchoenjmmjaaGreatDoorMt2
import Derived.Test.YtnibchoenjmmjaaGreatDoorProg
set_option maxRecDepth 100000
namespace Go.Proofs.YtnibchoenjmmjaaGreatDoor
theorem qB5 {z:Int} (h:(Lit.int .i64 z).wf = true):AE.I64 z:=by
 simpa [AE.I64,Lit.wf,IntKind.min,IntKind.max,IntKind.bits,IntKind.signed] using h
theorem qgA {n:Nat} {ws:List Go.AE.qa} (h:Go.AE.qdu Tryz.prog n 3 ws):∃z,ws = [.int .i64 z]/\AE.I64 z:=by
 cases n with
 | zero=>exact h.elim
 | succ n=>
  simp only [Go.AE.qdu,Tryz.underlying3] at h
  obtain ⟨z,rfl,hz⟩:=h
  exact ⟨z,rfl,qB5 hz⟩
theorem qbw {P:Program} {n:Nat} {t:TypeId} {ws:List Go.AE.qa} {fs:Array Field} (h:Go.AE.qdu P n t ws) (hu:P.underlying t = some (.struct fs)):∃m B,n = m + 1/\ws = List.flatten B/\Go.AE.qhO (Go.AE.qdu P m) (fs.toList.map (·.type)) B:=by
 cases n with
 | zero=>exact h.elim
 | succ n=>
  simp only [Go.AE.qdu,hu] at h
  obtain ⟨B,h1,h2⟩:=h
  exact ⟨n,B,rfl,h1,h2⟩
theorem qmt {P:Program} {n:Nat} {t e:TypeId} {ws:List Go.AE.qa} (h:Go.AE.qdu P n t ws) (hu:P.underlying t = some (.slice e)):∃(m:Nat) (xs:List (List Go.AE.qa)),n = m + 1/\ws = [.lst (xs.map (Go.AE.el P e)) .no]/\∀x ∈ xs,Go.AE.qdu P m e x:=by
 cases n with
 | zero=>exact h.elim
 | succ n=>
  simp only [Go.AE.qdu,hu] at h
  obtain ⟨xs,h1,_,h3⟩:=h
  exact ⟨n,xs,rfl,h1,h3⟩
theorem qdV {P:Program} {n:Nat} {t:TypeId} {ws:List Go.AE.qa} (h:Go.AE.qdu P n t ws) (hu:P.underlying t = some .string):∃s,ws = [.str s]:=by
 cases n with
 | zero=>exact h.elim
 | succ n=>
  simp only [Go.AE.qdu,hu] at h
  exact ⟨_,h.choose_spec.1⟩
theorem qpE {P:Program} {n:Nat} {t:TypeId} {ws:List Go.AE.qa} (h:Go.AE.qdu P n t ws) (hu:P.underlying t = some .bool):∃b,ws = [.bool b]:=by
 cases n with
 | zero=>exact h.elim
 | succ n=>
  simp only [Go.AE.qdu,hu] at h
  exact h
theorem qhr {P:Program} {e:TypeId} (h:Go.AE.qb8 P e = true) (x:List Go.AE.qa):Go.AE.el P e x = .agg x:=by
 unfold Go.AE.el
 rw [h]
 rfl
theorem qv8 {α β γ:Type} {f:α->β} {g:γ->β} {Q:γ->Prop}:∀xs:List α,(∀x ∈ xs,∃y,f x = g y/\Q y)->∃ys:List γ,xs.map f = ys.map g/\∀y ∈ ys,Q y
 | [],_=>⟨[],rfl,λ_ h=>by cases h⟩
 | x :: xs,h=>by
  obtain ⟨y,h1,h2⟩:=h x List.mem_cons_self
  obtain ⟨ys,h3,h4⟩:=qv8 xs λz hz=>h z (List.mem_cons_of_mem _ hz)
  refine ⟨y :: ys,by rw [List.map_cons,List.map_cons,h1,h3],λz hz=>?_⟩
  rcases List.mem_cons.1 hz with rfl | hz
  ·exact h2
  ·exact h4 z hz
theorem qev {n:Nat} {t e:TypeId} {ws:List Go.AE.qa} {γ:Type} {g:γ->Go.AE.qa} {Q:γ->Prop} (h:Go.AE.qdu Tryz.prog n t ws) (hu:Tryz.prog.underlying t = some (.slice e)) (hk:∀m,m < n->∀x,Go.AE.qdu Tryz.prog m e x->∃y,Go.AE.el Tryz.prog e x = g y/\Q y):∃ys:List γ,ws = [.lst (ys.map g) .no]/\∀y ∈ ys,Q y:=by
 obtain ⟨m,xs,rfl,rfl,hx⟩:=qmt h hu
 obtain ⟨ys,h1,h2⟩:=qv8 (f:=Go.AE.el Tryz.prog e) (g:=g) (Q:=Q) xs λx B=>hk m (by omega) x (hx x B)
 exact ⟨ys,by rw [h1],h2⟩
theorem qpz (n:Nat):∀ws:List Go.AE.qa,Go.AE.qdu Tryz.prog n 24 ws->∃e:AE.Exl,ws = e.enc/\∀d,AE.okX d e:=by
 induction n using Nat.strongRecOn with
 | ind n ih=>
  intro ws h
  obtain ⟨m,E,rfl,rfl,h1⟩:=qbw h Tryz.underlying24
  match E,h1 with
  | [p,q,r,r2,l],⟨h2,h3,h4,B,h5,_⟩=>
   obtain ⟨z1,rfl,_⟩:=qgA h2
   obtain ⟨z2,rfl,hz⟩:=qgA h3
   obtain ⟨s,rfl⟩:=qdV h4 Tryz.underlying9
   obtain ⟨s2,rfl⟩:=qdV B Tryz.underlying9
   obtain ⟨ys,rfl,hy⟩:=qev (g:=AE.exV) (Q:=λe=>∀d,AE.okX d e) h5 Tryz.underlying22 λk hk x hx=>by
    obtain ⟨e,rfl,h6⟩:=ih k (by omega) x hx
    exact ⟨e,qhr (by kernel_rfl) _,h6⟩
   refine ⟨.mk z1 z2 s s2 ys,by rw [AE.qcK];rfl,λd=>?_⟩
   cases d with
   | zero=>exact trivial
   | succ d=>exact ⟨hz,λa ha=>hy a ha d⟩
theorem qjE (n:Nat):∀ws:List Go.AE.qa,Go.AE.qdu Tryz.prog n 65 ws->∃t:AE.Tp,ws = t.enc:=by
 induction n using Nat.strongRecOn with
 | ind n ih=>
  intro ws h
  obtain ⟨m,B,rfl,rfl,h1⟩:=qbw h Tryz.underlying65
  match B,h1 with
  | [p,l],⟨h2,h5,_⟩=>
   obtain ⟨z1,rfl,_⟩:=qgA h2
   obtain ⟨ys,rfl,_⟩:=qev (g:=AE.tpV) (Q:=λ_=>True) h5 Tryz.underlying63 λk hk x hx=>by
    obtain ⟨e,rfl⟩:=ih k (by omega) x hx
    exact ⟨e,qhr (by kernel_rfl) _,trivial⟩
   exact ⟨.mk z1 ys,by rw [AE.qaf];rfl⟩
theorem qvE (n:Nat):∀ws:List Go.AE.qa,Go.AE.qdu Tryz.prog n 37 ws->∃v:AE.Val,ws = v.enc/\AE.okV v:=by
 induction n using Nat.strongRecOn with
 | ind n ih=>
  intro ws h
  obtain ⟨m,B,rfl,rfl,h1⟩:=qbw h Tryz.underlying37
  match B,h1 with
  | [p,q,r,l],⟨h2,h3,h4,h5,_⟩=>
   obtain ⟨z1,rfl,_⟩:=qgA h2
   obtain ⟨z2,rfl,hz⟩:=qgA h3
   obtain ⟨s,rfl⟩:=qdV h4 Tryz.underlying9
   obtain ⟨ys,rfl,hy⟩:=qev (g:=AE.qbX) (Q:=AE.okV) h5 Tryz.underlying29 λk hk x hx=>by
    obtain ⟨e,rfl,h6⟩:=ih k (by omega) x hx
    exact ⟨e,qhr (by kernel_rfl) _,h6⟩
   exact ⟨.mk z1 z2 s ys,by rw [AE.qc3];rfl,by rw [AE.okV];exact ⟨hz,AE.qgb.2 hy⟩⟩
theorem qhd {n:Nat} {ws:List Go.AE.qa} (h:Go.AE.qdu Tryz.prog n 29 ws):∃vs:List AE.Val,ws = [.lst (vs.map AE.qbX) .no]/\∀v ∈ vs,AE.okV v:=
 qev h Tryz.underlying29 λk _ x hx=>by
  obtain ⟨e,rfl,h6⟩:=qvE k x hx
  exact ⟨e,qhr (by kernel_rfl) _,h6⟩
theorem qlK {n:Nat} {ws:List Go.AE.qa} (h:Go.AE.qdu Tryz.prog n 25 ws):∃vs:List (AE.Str×AE.Str×AE.Tp),ws = [.lst (vs.map AE.nvV) .no]/\∀v ∈ vs,True:=
 qev h Tryz.underlying25 λk _ x hx=>by
  obtain ⟨m,B,rfl,rfl,h1⟩:=qbw hx Tryz.underlying91
  match B,h1 with
  | [p,q,t],⟨h2,h3,h4,_⟩=>
   obtain ⟨s,rfl⟩:=qdV h2 Tryz.underlying9
   obtain ⟨s2,rfl⟩:=qdV h3 Tryz.underlying9
   obtain ⟨t,rfl⟩:=qjE m _ h4
   refine ⟨(s,s2,t),?_,trivial⟩
   rw [qhr (by kernel_rfl)]
   simp [AE.nvV]
theorem qnH {n:Nat} {ws:List Go.AE.qa} (h:Go.AE.qdu Tryz.prog n 26 ws):∃vs:List (AE.Str×AE.Tp),ws = [.lst (vs.map AE.npV) .no]/\∀v ∈ vs,True:=
 qev h Tryz.underlying26 λk _ x hx=>by
  obtain ⟨m,B,rfl,rfl,h1⟩:=qbw hx Tryz.underlying77
  match B,h1 with
  | [p,t],⟨h2,h4,_⟩=>
   obtain ⟨s,rfl⟩:=qdV h2 Tryz.underlying9
   obtain ⟨t,rfl⟩:=qjE m _ h4
   refine ⟨(s,t),?_,trivial⟩
   rw [qhr (by kernel_rfl)]
   simp [AE.npV]
theorem qs2 {n:Nat} {ws:List Go.AE.qa} (h:Go.AE.qdu Tryz.prog n 30 ws):∃b:List (List AE.Val),ws = [AE.qbh b]/\∀l ∈ b,∀v ∈ l,AE.okV v:=
 qev (g:=λl:List AE.Val=>.lst (l.map AE.qbX) .no) (Q:=λl=>∀v ∈ l,AE.okV v) h Tryz.underlying30 λk _ x hx=>by
  obtain ⟨vs,rfl,h6⟩:=qhd hx
  refine ⟨vs,?_,h6⟩
  unfold Go.AE.el
  rw [show Go.AE.qb8 Tryz.prog 29 = false by kernel_rfl]
  rfl
theorem qn9 {n:Nat} {ws:List Go.AE.qa} (h:Go.AE.qdu Tryz.prog n 34 ws):∃W:AE.Wl,Go.AE.qa.agg ws = AE.wV W/\AE.OkW W:=by
 obtain ⟨m,S,rfl,rfl,h1⟩:=qbw h Tryz.underlying34
 match S,h1 with
 | [a,b,c,d,e,f],⟨ha,hb,hc,hd,he,hf,_⟩=>
  obtain ⟨x,rfl,hx⟩:=qpz m _ ha
  obtain ⟨vs,rfl,hv⟩:=qhd hc
  obtain ⟨bg,rfl,M⟩:=qs2 hd
  obtain ⟨os,rfl,ho⟩:=qhd hf
  obtain ⟨m2,E,rfl,rfl,h2⟩:=qbw hb Tryz.underlying28
  obtain ⟨m3,B,_,rfl,h3⟩:=qbw he Tryz.underlying32
  match E,h2,B,h3 with
  | [p,q,r,s],⟨hp,hq,hr,hs,_⟩,[t,u],⟨ht,hu,_⟩=>
   obtain ⟨nv,rfl,_⟩:=qlK hp
   obtain ⟨np,rfl,_⟩:=qnH hq
   obtain ⟨bq,rfl⟩:=qpE hr Tryz.underlying4
   obtain ⟨no,rfl,_⟩:=qlK hs
   obtain ⟨en,rfl,I⟩:=qgA ht
   obtain ⟨ed,rfl,J⟩:=qgA hu
   refine ⟨⟨x,⟨nv,np,bq,no⟩,vs,bg,en,ed,os⟩,?_,⟨hx 20,hv,M,ho,I,J⟩⟩
   rw [AE.wV,AE.wC,AE.qfr]
   simp
end Go.Proofs.YtnibchoenjmmjaaGreatDoor
