/- A part of the proof. No condition. -/
import Derived.Test.YtcbfifamliijlaaGreatDoorMa15
import Derived.Test.YtcbfifamliijlaaGreatDoorMa7
import Derived.Test.YtcbfifamliijlaaGreatDoorMa2
open Int renaming reduceNatCast'→rN
set_option maxRecDepth 100000
set_option maxHeartbeats 0
open List renaming drop_eq_getElem_cons→jT,getElem?_eq_getElem→jh
open Bool renaming and_eq_true→jk,true_and→jY
open Option renaming map_none→j4
namespace Go.Proofs.YtcbfifamliijlaaGreatDoor.AE
open Go.AE
def qS.fine (x:qS):Prop:=GX x.e/\x.acts.length <= 5/\∀a ∈ x.acts,a.good
section
variable {ws:List Tok} {n:Nat}
abbrev Gl {D:Type} (ws:List Tok) (F:FuncId) (most:Nat) (mi:Int) (aS:Nat->List qd) (eP:D->qd) (Q:D->Prop) (n:Nat):Prop:=
 (∃(ds:List D) (m:Nat),n <= m/\m < ws.length/\ds.length <= most/\(∀d ∈ ds,Q d)/\∀(h:List qj) (i:Nat),h[i]? = some (PB ws n)->Wd (.fn F [] []) (.ptr i 0 :: .int .i64 mi :: aS i) h = some (.ret (.lst (ds.map eP) (fl ds.isEmpty)),h.set i (PB ws m),false))\/
 ∃(p e:Int) (m:Nat),m < ws.length/\1 <= e/\∀(h:List qj) (i:Nat),h[i]? = some (PB ws n)->Wd (.fn F [] []) (.ptr i 0 :: .int .i64 mi :: aS i) h = some (.pan (qbc p e),h.set i (PB ws m),false)
theorem qDc {D:Type} {F f fb:FuncId} {k most:Nat} {z:List qd} {beg:Nat->Bool} {eP:D->qd} {Q:D->Prop} {mi:Int} (E:((most:Nat):Int) = mi) (hw:WF ws) (hX:X F = none) (hF:T.get F = some (qlk k z)) (hm:most <= 1000) (hz:z.length = k) (I:k ≠ 1) (hk:k <= 1000)
  (hB:∀m (h:List qj) i,m < ws.length->h[i]? = some (PB ws m)->Wd (.fn fb [] []) [.ptr i 0] h = some (.ret (.bool (beg m)),h,false)) (hd:∀d,qhF k (eP d)) (hg:∀n,n < ws.length->Gv ws f [] eP Q n) (hn:n < ws.length):Gl ws F most mi (λi=>[.fn fb [.ptr i 0] [],.fn f [.ptr i 0] []]) eP Q n:=by
 subst E
 obtain ⟨ds,m,a1,a2,a3,a4,_,_,a6⟩ | ⟨p,e,m,a1,a2,a3⟩:=qtw (ι:=Nat) (i:=λi=>i) (fb:=fb) (oa:=f) (fa:=λi=>[.ptr i 0]) (fc:=λ_=>[]) (ob:=λi=>[.ptr i 0]) (oc:=λ_=>[]) (J:=λ_ _=>True) (eP:=eP) (Q:=Q) hw hX hF hm hz I hk (λ_ _ _ _=>trivial) (λm c h hm _ hi=>by rw [qbP];exact hB m h c hm hi) (λn hn hb=>by
  obtain ⟨d,m,c1,c2,c3,c4⟩ | ⟨p,e,m,c1,c2,c3⟩:=hg n hn
  ·exact .inl ⟨d,m,c1,c2,⟨hn,hb,hd d,λi h _ hi=>by rw [qbP];exact c4 h i hi⟩,c3⟩
  ·exact .inr ⟨p,e,m,c1,c2,λi h _ hi=>by rw [qbP];exact c3 h i hi⟩) hn
 ·exact .inl ⟨ds,m,a1,a2,a3,a4,λh i hi=>a6 i h trivial hi⟩
 ·exact .inr ⟨p,e,m,a1,a2,λh i hi=>a3 i h trivial hi⟩
theorem qCu (H:En ws) (hn:n < ws.length):Gl ws 174 5 5 (λi=>[.fn 175 [.ptr i 0] [],.fn 176 [.ptr i 0] []]) qbi.enc qbi.good n:=
 qDc (k:=7) (z:=[.int .i64 0,.str [],.str [],.str [],.str [],.str [],.str []]) rfl H.hw rfl zk (by decide) rfl (by decide) (by decide) (λm h i hm hi=>qkE H.hw hm hi) qjI (λn hn=>qFO H hn) hn
theorem qEJ (H:En ws) (hn:n < ws.length):Gl ws 177 10 10 (λi=>[.fn 96 [.ptr i 0] [],.fn 143 [.ptr i 0] []]) qak.pe qak.fine n:=
 qDc (k:=6) (z:=[.str [],.int .i64 0,.int .i64 0,.str [],.str [],.lst [] .full]) rfl H.hw rfl zk (by decide) rfl (by decide) (by decide) (λm h i hm hi=>qT H.hw hm hi) qgn (λn hn=>qEH H hn) hn
theorem qEC (H:En ws) (hn:n < ws.length):Gv ws 141 [] qS.pe qS.fine n:=by
 have P:=λ(h:List qj) (i:Nat)=>qm 141 qzX (first:=[]) (cap:=[]) (args:=[.ptr i 0]) (h:=h)
 obtain ⟨x0,n0,l0,h0,q0,k0⟩ | ⟨p,e,m,hm,he,k0⟩:=qk3 H hn
 obtain ⟨h1,k1⟩ | ⟨p,e,m,hm,he,k1⟩:=qa0 H [123] h0
 obtain ⟨x2,n2,l2,h2,g2,q2,k2⟩ | ⟨p,e,m,hm,he,k2⟩:=qCu H h1
 obtain ⟨h3,k3⟩ | ⟨p,e,m,hm,he,k3⟩:=qa0 H [125] h2
 all_goals
  first
  | exact .inr ⟨p,e,m,hm,he,λh i hi=>(P h i).trans (by
    have E:=qf hi
    try (rw [qS.pe])
    try (generalize x0.cv = y0 at *;obtain ⟨o0,I,u0,v0,z0⟩:=y0)
    simp only [qzX,sT.1,sC.1,qg,seval,-rN,qe,qfQ,Nd.enc,Nd.cs,Exp.cs,qal,qY,qaa, *])⟩
  | exact .inl ⟨⟨x0,x2⟩,n2 + 1,zo,h3,⟨q0,g2,q2⟩,λh i hi=>(P h i).trans (by
    have E:=qf hi
    try (rw [qS.pe])
    try (generalize x0.cv = y0 at *;obtain ⟨o0,I,u0,v0,z0⟩:=y0)
    simp only [qzX,sT.1,sC.1,qg,seval,-rN,qfQ,Nd.enc,Nd.cs,Exp.cs,qal,qY,qaa, *])⟩
theorem quL (H:En ws) (hn:n < ws.length):Gv ws 146 [] (λl:List qak=>.lst (l.map qak.pe) (fl l.isEmpty)) (λl=>l.length <= 10/\∀d ∈ l,d.fine) n:=by
 have P:=λ(h:List qj) (i:Nat)=>qm 146 qzY (first:=[]) (cap:=[]) (args:=[.ptr i 0]) (h:=h)
 obtain ⟨h0,k0⟩ | ⟨p,e,m,hm,he,k0⟩:=qa0 H [123] hn
 obtain ⟨x1,n1,l1,h1,g1,q1,k1⟩ | ⟨p,e,m,hm,he,k1⟩:=qEJ H h0
 obtain ⟨h2,k2⟩ | ⟨p,e,m,hm,he,k2⟩:=qa0 H [125] h1
 all_goals
  first
  | exact .inr ⟨p,e,m,hm,he,λh i hi=>(P h i).trans (by
    have E:=qf hi
    simp only [qzY,sT.1,sC.1,qg,seval,-rN,qe,qY,qaa, *])⟩
  | exact .inl ⟨x1,n1 + 1,zo,h2,⟨g1,q1⟩,λh i hi=>(P h i).trans (by
    have E:=qf hi
    simp only [qzY,sT.1,sC.1,qg,seval,-rN,qaB,qY,qaa, *])⟩
theorem qEq (H:En ws) (hn:n < ws.length):Gv ws 92 [] qM.pe qM.good n:=by
 have P:=λ(h:List qj) (i:Nat)=>qm 92 c92 (first:=[]) (cap:=[]) (args:=[.ptr i 0]) (h:=h)
 obtain ⟨s0,n0,l0,h0,q0,k0⟩ | ⟨p,e,m,hm,he,k0⟩:=qeK H hn
 obtain ⟨h1,k1⟩ | ⟨p,e,m,hm,he,k1⟩:=qa0 H [58] h0
 have hT:=qzo H 3 zo (n0 + 1)
 rw [show (4:Int) - ((3:Nat):Int) = 1 from rfl] at hT
 obtain ⟨x2,n2,l2,h2,q2,k2⟩ | ⟨p,e,m,hm,he,k2⟩:=hT h1
 ·obtain ⟨u2,hu,hq⟩:=q2
  obtain ⟨h3,k3⟩ | ⟨p,e,m,hm,he,k3⟩:=qa0 H [59] h2
  all_goals
   first
   | exact .inr ⟨p,e,m,hm,he,λh i hi=>(P h i).trans (by
     have I:=qf hi
     have E:=λn=>qc5 n x2
     obtain ⟨a,b,ee,d1,d2,d3,d4⟩:=qbT x2
     simp only [ee] at E k2
     try (rw [show qM.pe ⟨s0,u2⟩ = .agg [.str s0,a,b] by rw [qM.pe];simp only [hu,ee]])
     simp only [qw,jk] at E
     have a1:=λn=>(E n).1
     have Y:=λn=>(E n).2.1
     simp only [c92,sT.1,sC.1,qg,seval,-rN,qe, *])⟩
   | exact .inl ⟨⟨s0,u2⟩,n2 + 1,zo,h3,⟨q0,hq⟩,λh i hi=>(P h i).trans (by
     have I:=qf hi
     have E:=λn=>qc5 n x2
     obtain ⟨a,b,ee,d1,d2,d3,d4⟩:=qbT x2
     simp only [ee] at E k2
     try (rw [show qM.pe ⟨s0,u2⟩ = .agg [.str s0,a,b] by rw [qM.pe];simp only [hu,ee]])
     simp only [qw,jk] at E
     have a1:=λn=>(E n).1
     have Y:=λn=>(E n).2.1
     simp only [c92,sT.1,sC.1,qg,seval,-rN, *])⟩
 all_goals
  first
  | exact .inr ⟨p,e,m,hm,he,λh i hi=>(P h i).trans (by
    have I:=qf hi
    simp only [c92,sT.1,sC.1,qg,seval,-rN,qe, *])⟩
theorem qkf (H:En ws) (first:Str) (hn:n < ws.length):Gl ws 91 8 8 (λi=>[.str first,.fn 92 [.ptr i 0] []]) qM.pe qM.good n:=
 qgB (M:=132) (B:=133) (O:=134) (k:=3) (z:=[.str [],.int .i64 0,.lst [] .full]) (most:=8) rfl zk rfl zk rfl zk rfl zk H.hw (by decide) rfl rfl (by decide) (by decide) qij (λn hn=>qEq H hn) hn
theorem qBk (H:En ws) (hn:n < ws.length):Gl ws 136 32 32 (λi=>[.str [112,97,114,116],.fn 137 [.ptr i 0] []]) qau.enc qau.good n:=
 qgB (M:=164) (B:=165) (O:=166) (k:=2) (z:=[.str [],.str []]) (most:=32) rfl zk rfl zk rfl zk rfl zk H.hw (by decide) rfl rfl (by decide) (by decide) qih (λn hn=>qzf H hn) hn
theorem qAU (H:En ws) (hn:n < ws.length):Gl ws 138 200 200 (λi=>[.str [108,105,110,107],.fn 139 [.ptr i 0] []]) qaf.enc qaf.good n:=
 qgB (M:=167) (B:=168) (O:=169) (k:=4) (z:=[.str [],.str [],.str [],.str []]) (most:=200) rfl zk rfl zk rfl zk rfl zk H.hw (by decide) rfl rfl (by decide) (by decide) qh9 (λn hn=>qti H hn) hn
theorem qBy (H:En ws) (hn:n < ws.length):Gl ws 140 4 4 (λi=>[.str [114,117,108,101],.fn 141 [.ptr i 0] []]) qS.pe qS.fine n:=
 qgB (M:=171) (B:=172) (O:=173) (k:=6) (z:=[.int .i64 0,.int .i64 0,.str [],.str [],.lst [] .full,.lst [] .full]) (most:=4) rfl zk rfl zk rfl zk rfl zk H.hw (by decide) rfl rfl (by decide) (by decide) qio (λn hn=>qEC H hn) hn
theorem qEX (H:En ws) (hn:n < ws.length):Gl ws 142 10 10 (λi=>[.str [118,97,114],.fn 143 [.ptr i 0] []]) qak.pe qak.fine n:=
 qgB (M:=177) (B:=178) (O:=179) (k:=6) (z:=[.str [],.int .i64 0,.int .i64 0,.str [],.str [],.lst [] .full]) (most:=10) rfl zk rfl zk rfl zk rfl zk H.hw (by decide) rfl rfl (by decide) (by decide) qgn (λn hn=>qEH H hn) hn
theorem qAq (H:En ws) (hn:n < ws.length):Gl ws 144 8 8 (λi=>[.str [101,109,105,116],.fn 145 [.ptr i 0] []]) qab.pe qab.fine n:=
 qgB (M:=180) (B:=181) (O:=182) (k:=7) (z:=[.str [],.int .i64 0,.int .i64 0,.str [],.str [],.lst [] .full,.lst [] .full]) (most:=8) rfl zk rfl zk rfl zk rfl zk H.hw (by decide) rfl rfl (by decide) (by decide) qhP (λn hn=>qCX H hn) hn
end
section
variable {ws:List Tok} {n:Nat}
def Bm (ws:List Tok) (F:FuncId) (C:List qd) (n:Nat):Prop:=∃(p e:Int) (m:Nat),m < ws.length/\1 <= e/\∃X:List qj->Nat->Nat->qj,∀(h:List qj) (i j:Nat),h[i]? = some (PB ws n)->h[j]? = some (.cells C)->i ≠ j->Wd (.fn F [] []) [.ptr i 0,.ptr j 0] h = some (.pan (qbc p e),(h.set i (PB ws m)).set j (X h i j),false)
theorem qoN {F:FuncId} {C:List qd} {p e:Int} {m:Nat} (hm:m < ws.length) (he:1 <= e) (k:∀(h:List qj) (i j:Nat),h[i]? = some (PB ws n)->h[j]? = some (.cells C)->i ≠ j->∃x,Wd (.fn F [] []) [.ptr i 0,.ptr j 0] h = some (.pan (qbc p e),(h.set i (PB ws m)).set j x,false)):Bm ws F C n:=by
 refine ⟨p,e,m,hm,he,?_⟩
 classical
 exact ⟨λh i j=>if hc:h[i]? = some (PB ws n)/\h[j]? = some (.cells C)/\i ≠ j then (k h i j hc.1 hc.2.1 hc.2.2).choose else .dead,λh i j a b c=>by simp only [dif_pos (qq a (qq b c))];exact (k h i j a b c).choose_spec⟩
theorem qrv (H:En ws) {nm:Str} {c:Bool} {is os:List qd} {b1 b2:Bool} (hn:n < ws.length) :
  (∃(ps:List qau) (ls:List qaf) (rs:List qS) (m:Nat),n <= m/\m < ws.length/\((ps.length <= 32/\∀d ∈ ps,d.good)/\(ls.length <= 200/\∀d ∈ ls,d.good)/\rs.length <= 4/\∀d ∈ rs,d.fine)/\∀(h:List qj) (i j:Nat),h[i]? = some (PB ws n)->h[j]? = some (.cells (qvw nm c (.lst is (fl b1)) (.lst os (fl b2))))->i ≠ j->Wd (.fn 93 [] []) [.ptr i 0,.ptr j 0] h = some (.ret (.tup []),(h.set i (PB ws m)).set j (.cells (qvx nm c (.lst is (fl b1)) (.lst os (fl b2)) (.lst (ps.map qau.enc) (fl ps.isEmpty)) (.lst (ls.map qaf.enc) (fl ls.isEmpty)) (.lst (rs.map qS.pe) (fl rs.isEmpty)))),false))\/
  Bm ws 93 (qvw nm c (.lst is (fl b1)) (.lst os (fl b2))) n:=by
 obtain ⟨x0,n0,l0,h0,g0,q0,k0⟩ | ⟨p,e,m,hm,he,k0⟩:=qBk H hn
 obtain ⟨x1,n1,l1,h1,g1,q1,k1⟩ | ⟨p,e,m,hm,he,k1⟩:=qAU H h0
 obtain ⟨x2,n2,l2,h2,g2,q2,k2⟩ | ⟨p,e,m,hm,he,k2⟩:=qBy H h1
 all_goals
  first
  | exact .inr (qoN (p:=p) hm he λh i j hi hr E=>by
     obtain ⟨I,Y,a1,t1,t2,t3,t4,t5,t6⟩:=two hi hr E
     rw [PBi] at hi
     generalize hW:Wd _ _ h = W
     rw [qm 93 c93] at hW
     simp only [c93,sT.1,sC.1,qg,seval,-rN,qe,PBi,qY,qaa,qe8,qe5, *,-t6] at hW
     subst hW
     first | exact ⟨_,rfl⟩ | (rw [t6];exact ⟨_,rfl⟩))
  | exact .inl ⟨x0,x1,x2,n2,zo,h2,⟨⟨g0,q0⟩,⟨g1,q1⟩,g2,q2⟩,λh i j hi hr E=>by
     obtain ⟨I,Y,a1,t1,t2,t3,t4,t5,t6⟩:=two hi hr E
     rw [PBi] at hi
     generalize hW:Wd _ _ h = W
     rw [qm 93 c93] at hW
     simp only [c93,sT.1,sC.1,qg,seval,-rN,PBi,qY,qaa,qe8,qe5,qgk, *,-t6] at hW
     subst hW
     rfl⟩
theorem qvM (H:En ws) {nm:Str} {c:Bool} {is os:List qd} {b1 b2:Bool} (hn:n < ws.length) :
  (∃(vs:List qak) (ta:Exl) (es:List qab) (it ex:List qak) (cn:Int) (ow:List qak) (m:Nat),n <= m/\m < ws.length/\((vs.length <= 10/\∀d ∈ vs,d.fine)/\GX ta/\(es.length <= 8/\∀d ∈ es,d.fine)/\(it.length <= 10/\∀d ∈ it,d.fine)/\(ex.length <= 10/\∀d ∈ ex,d.fine)/\(ow.length <= 10/\∀d ∈ ow,d.fine)/\((cn = 0\/cn = 1)/\ow = []\/cn = 2))/\∀(h:List qj) (i j:Nat),h[i]? = some (PB ws n)->h[j]? = some (.cells (qvw nm c (.lst is (fl b1)) (.lst os (fl b2))))->i ≠ j->Wd (.fn 94 [] []) [.ptr i 0,.ptr j 0] h = some (.ret (.tup []),(h.set i (PB ws m)).set j (.cells (qEz nm c (.lst is (fl b1)) (.lst os (fl b2)) (.lst (vs.map qak.pe) (fl vs.isEmpty)) (.lst [ta.cv.enc φP] .full) (.lst (es.map qab.pe) (fl es.isEmpty)) (.lst (it.map qak.pe) (fl it.isEmpty)) (.lst (ex.map qak.pe) (fl ex.isEmpty)) cn (.lst (ow.map qak.pe) (fl ow.isEmpty)))),false))\/
  Bm ws 94 (qvw nm c (.lst is (fl b1)) (.lst os (fl b2))) n:=by
 obtain ⟨x0,n0,l0,h0,g0,q0,k0⟩ | ⟨p,e,m,hm,he,k0⟩:=qEX H hn
 obtain ⟨h1,k1⟩ | ⟨p,e,m,hm,he,k1⟩:=qa0 H [116,97] h0
 obtain ⟨x2,n2,l2,h2,q2,k2⟩ | ⟨p,e,m,hm,he,k2⟩:=qk3 H h1
 obtain ⟨h3,k3⟩ | ⟨p,e,m,hm,he,k3⟩:=qa0 H [59] h2
 obtain ⟨x4,n4,l4,h4,g4,q4,k4⟩ | ⟨p,e,m,hm,he,k4⟩:=qAq H h3
 obtain ⟨h5,k5⟩ | ⟨p,e,m,hm,he,k5⟩:=qa0 H [105,110,116] h4
 obtain ⟨x6,n6,l6,h6,q6,k6⟩ | ⟨p,e,m,hm,he,k6⟩:=quL H h5
 obtain ⟨h7,k7⟩ | ⟨p,e,m,hm,he,k7⟩:=qa0 H [101,120,116] h6
 obtain ⟨x8,n8,l8,h8,q8,k8⟩ | ⟨p,e,m,hm,he,k8⟩:=quL H h7
 ·obtain ⟨h9,k9⟩ | k9:=qlP H [99,111,110] h8
  ·obtain ⟨au,ai⟩ | ai:=qlP H [105,110,116] h9
   ·obtain ⟨ar,af⟩ | ⟨p,e,m,hm,he,af⟩:=qa0 H [101,120,116] au
    obtain ⟨ap,ae⟩ | ⟨p,e,m,hm,he,ae⟩:=qa0 H [59] ar
    all_goals
     first
     | exact .inr (qoN (p:=p) hm he λh i j hi hr E=>by
        obtain ⟨I,Y,a1,t1,t2,t3,t4,t5,t6⟩:=two hi hr E
        try (generalize x2.cv = y2 at *;obtain ⟨o2,a6,u2,v2,z2⟩:=y2)
        rw [PBi] at hi
        generalize hW:Wd _ _ h = W
        rw [qm 94 c94] at hW
        simp only [c94,sT.1,sC.1,qg,seval,-rN,qe,PBi,qaB,qbB,qcY,Nd.enc,Nd.cs,Exp.cs,qal,qY,qaa, *,-t6] at hW
        subst hW
        first | exact ⟨_,rfl⟩ | (rw [t6];exact ⟨_,rfl⟩))
     | exact .inl ⟨x0,x2,x4,x6,x8,0,[],n8 + 1 + 1 + 1 + 1,zo,ap,⟨⟨g0,q0⟩,q2,⟨g4,q4⟩,q6,q8,⟨Nat.zero_le _,λ_ h=>nomatch h⟩,.inl ⟨.inl rfl,rfl⟩⟩,λh i j hi hr E=>by
        obtain ⟨I,Y,a1,t1,t2,t3,t4,t5,t6⟩:=two hi hr E
        try (generalize x2.cv = y2 at *;obtain ⟨o2,a6,u2,v2,z2⟩:=y2)
        rw [PBi] at hi
        generalize hW:Wd _ _ h = W
        rw [qm 94 c94] at hW
        simp only [c94,sT.1,sC.1,qg,seval,-rN,PBi,qaB,qbB,qcY,Nd.enc,Nd.cs,Exp.cs,qal,qY,qaa, *,-t6] at hW
        subst hW
        rfl⟩
   ·obtain ⟨am,ad⟩ | ad:=qlP H [101,120,116] h9
    ·obtain ⟨al,ac⟩ | ⟨p,e,m,hm,he,ac⟩:=qa0 H [105,110,116] am
     obtain ⟨ak,ab⟩ | ⟨p,e,m,hm,he,ab⟩:=qa0 H [59] al
     all_goals
      first
      | exact .inr (qoN (p:=p) hm he λh i j hi hr E=>by
         obtain ⟨I,Y,a1,t1,t2,t3,t4,t5,t6⟩:=two hi hr E
         try (generalize x2.cv = y2 at *;obtain ⟨o2,a6,u2,v2,z2⟩:=y2)
         rw [PBi] at hi
         generalize hW:Wd _ _ h = W
         rw [qm 94 c94] at hW
         simp only [c94,sT.1,sC.1,qg,seval,-rN,qe,PBi,qaB,qbB,qcY,Nd.enc,Nd.cs,Exp.cs,qal,qY,qaa, *,-t6] at hW
         subst hW
         first | exact ⟨_,rfl⟩ | (rw [t6];exact ⟨_,rfl⟩))
      | exact .inl ⟨x0,x2,x4,x6,x8,1,[],n8 + 1 + 1 + 1 + 1,zo,ak,⟨⟨g0,q0⟩,q2,⟨g4,q4⟩,q6,q8,⟨Nat.zero_le _,λ_ h=>nomatch h⟩,.inl ⟨.inr rfl,rfl⟩⟩,λh i j hi hr E=>by
         obtain ⟨I,Y,a1,t1,t2,t3,t4,t5,t6⟩:=two hi hr E
         try (generalize x2.cv = y2 at *;obtain ⟨o2,a6,u2,v2,z2⟩:=y2)
         rw [PBi] at hi
         generalize hW:Wd _ _ h = W
         rw [qm 94 c94] at hW
         simp only [c94,sT.1,sC.1,qg,seval,-rN,PBi,qaB,qbB,qcY,Nd.enc,Nd.cs,Exp.cs,qal,qY,qaa, *,-t6] at hW
         subst hW
         rfl⟩
    ·obtain ⟨a7,n16,av,aj,a8,aa⟩ | ⟨p,e,m,hm,he,aa⟩:=quL H h9
     all_goals
      first
      | exact .inr (qoN (p:=p) hm he λh i j hi hr E=>by
         obtain ⟨I,Y,a1,t1,t2,t3,t4,t5,t6⟩:=two hi hr E
         try (generalize x2.cv = y2 at *;obtain ⟨o2,a6,u2,v2,z2⟩:=y2)
         rw [PBi] at hi
         generalize hW:Wd _ _ h = W
         rw [qm 94 c94] at hW
         simp only [c94,sT.1,sC.1,qg,seval,-rN,qe,PBi,qaB,qbB,qcY,Nd.enc,Nd.cs,Exp.cs,qal,qY,qaa, *,-t6] at hW
         subst hW
         first | exact ⟨_,rfl⟩ | (rw [t6];exact ⟨_,rfl⟩))
      | exact .inl ⟨x0,x2,x4,x6,x8,2,a7,n16,zo,aj,⟨⟨g0,q0⟩,q2,⟨g4,q4⟩,q6,q8,a8,.inr rfl⟩,λh i j hi hr E=>by
         obtain ⟨I,Y,a1,t1,t2,t3,t4,t5,t6⟩:=two hi hr E
         try (generalize x2.cv = y2 at *;obtain ⟨o2,a6,u2,v2,z2⟩:=y2)
         rw [PBi] at hi
         generalize hW:Wd _ _ h = W
         rw [qm 94 c94] at hW
         simp only [c94,sT.1,sC.1,qg,seval,-rN,PBi,qaB,qbB,qcY,Nd.enc,Nd.cs,Exp.cs,qal,qY,qaa, *,-t6] at hW
         subst hW
         rfl⟩
  ·all_goals
    first
    | exact .inr (qoN (p:=p) hm he λh i j hi hr E=>by
       obtain ⟨I,Y,a1,t1,t2,t3,t4,t5,t6⟩:=two hi hr E
       try (generalize x2.cv = y2 at *;obtain ⟨o2,a6,u2,v2,z2⟩:=y2)
       rw [PBi] at hi
       generalize hW:Wd _ _ h = W
       rw [qm 94 c94] at hW
       simp only [c94,sT.1,sC.1,qg,qH,Nat.testBit,seval,-rN,young,qz,qe,PBi,qaB,qbB,qcY,Nd.enc,Nd.cs,Exp.enc,Exp.cs,List.cons_append,List.nil_append,qal,qY,qaa, *,-t6] at hW
       subst hW
       first | exact ⟨_,rfl⟩ | (rw [t6];exact ⟨_,rfl⟩))
    | exact .inl ⟨x0,x2,x4,x6,x8,0,[],n8,zo,h8,⟨⟨g0,q0⟩,q2,⟨g4,q4⟩,q6,q8,⟨Nat.zero_le _,λ_ h=>nomatch h⟩,.inl ⟨.inl rfl,rfl⟩⟩,λh i j hi hr E=>by
       obtain ⟨I,Y,a1,t1,t2,t3,t4,t5,t6⟩:=two hi hr E
       try (generalize x2.cv = y2 at *;obtain ⟨o2,a6,u2,v2,z2⟩:=y2)
       rw [PBi] at hi
       generalize hW:Wd _ _ h = W
       rw [qm 94 c94] at hW
       simp only [c94,sT.1,sC.1,qg,seval,-rN,PBi,qaB,qbB,qcY,Nd.enc,Nd.cs,Exp.cs,qal,qY,qaa, *,-t6] at hW
       subst hW
       rfl⟩
 all_goals
  first
  | exact .inr (qoN (p:=p) hm he λh i j hi hr E=>by
     obtain ⟨I,Y,a1,t1,t2,t3,t4,t5,t6⟩:=two hi hr E
     try (generalize x2.cv = y2 at *;obtain ⟨o2,a6,u2,v2,z2⟩:=y2)
     rw [PBi] at hi
     generalize hW:Wd _ _ h = W
     rw [qm 94 c94] at hW
     simp only [c94,sT.1,sC.1,qg,seval,-rN,qe,PBi,qaB,qbB,qcY,Nd.enc,Nd.cs,Exp.cs,qal,qY,qaa, *,-t6] at hW
     subst hW
     first | exact ⟨_,rfl⟩ | (rw [t6];exact ⟨_,rfl⟩))
end
section
variable {h:List qj}
theorem qd9 (c:UInt8) (h:List qj):Wd (.fn 157 [] []) [.int .u8 (c.toNat:Nat)] h = some (.ret (.bool (qaS c)),h,false):=by
 rw [qm 157 qFs]
 simp only [qFs,sT.1,sC.1,qg,qH,seval,-rN,qaS]
theorem qjA (c:UInt8) (h:List qj):Wd (.fn 159 [] []) [.int .u8 (c.toNat:Nat)] h = some (.ret (.bool (qao c)),h,false):=by
 rw [qm 159 qFt]
 simp only [qFt,sT.1,sC.1,qg,qH,seval,-rN,qao]
def qav (p:UInt8->Bool) (s:Str) (i:Nat):Nat:=i + ((s.drop i).takeWhile p).length
theorem qhx {p:UInt8->Bool} {s:Str} {i:Nat} (hi:i < s.length) (hp:p s[i] = true):qav p s i = qav p s (i + 1):=by
 rw [qav,qav,jT hi,List.takeWhile_cons_of_pos hp,List.length_cons]
 omega
theorem qjw {p:UInt8->Bool} {s:Str} {i:Nat} (hi:i < s.length) (hp:p s[i] = false):qav p s i = i:=by
 rw [qav,jT hi,List.takeWhile_cons_of_neg (by simp [hp])]
 rfl
theorem qlH {p:UInt8->Bool} {s:Str} {i:Nat} (hi:s.length <= i):qav p s i = i:=by
 rw [qav,List.drop_eq_nil_of_le hi]
 rfl
theorem qcI (p:UInt8->Bool) (s:Str) {i:Nat} (hi:i <= s.length):qav p s i <= s.length:=by
 have h1:=(List.takeWhile_sublist (l:=s.drop i) p).length_le
 rw [List.length_drop] at h1
 rw [qav]
 omega
theorem qdj (p:UInt8->Bool) (s:Str) (i:Nat):i <= qav p s i:=by rw [qav];omega
def qaH (c:UInt8):Bool:=qaS c || qao c
theorem qtK {b:Nat} (s:Str) (hs:s.length <= 100000):∀(k i:Nat) (tt:List qd),i + k = s.length->tt.length = 60->lkp tt 0 = .str s->lkp tt 11 = .int .i64 (i:Nat)->
  ∃E,qv b Wd (.loop qg8) ⟨tt,h,false⟩ = some (.exit 0,⟨E,h,false⟩)/\E.length = 60/\lkp E 0 = .str s/\lkp E 11 = .int .i64 (qav qaH s i:Nat)/\lkp E 1 = lkp tt 1/\lkp E 2 = lkp tt 2/\lkp E 3 = lkp tt 3/\lkp E 8 = lkp tt 8:=by
 intro k
 induction k with
 | zero=>
  intro i tt hk ht e0 e11
  have c1:ilt (i:Int) (s.length:Int) = false:=by rw [qaj];simp;omega
  rw [qlH zo,qn]
  simp only [qg8,sT.1,sC.1,qg,qH,seval,-rN,ht,e0,e11,c1]
  exact ⟨_,rfl,Y1,Y2,v6,Y0,Y0,Y0,Y0⟩
 | succ k ih=>
  intro i tt hk ht e0 e11
  have hi:i < s.length:=zo
  have c1:ilt (i:Int) (s.length:Int) = true:=by rw [qaj];simp;omega
  have hx:qg6 (.str s) (.int .i64 (i:Nat)) = some (.int .u8 (s[i].toNat:Nat)):=qaX (jh hi)
  have w:=qJ (n:=i) zo
  rw [qn]
  generalize he:qv b Wd qg8 _ = r
  cases hb:qaS s[i] with
  | true=>
   rw [qhx hi (by rw [qaH,hb];rfl)]
   simp only [qg8,sT.1,sC.1,qg,qH,seval,-rN,ht,e0,e11,c1,hx,w,qd9,hb] at he
   subst he
   refine (ih (i + 1) _ zo ?_ ?_ ?_).imp λE g=>⟨g.1,g.2.1,g.2.2.1,g.2.2.2.1,g.2.2.2.2.1.trans ?_,g.2.2.2.2.2.1.trans ?_,g.2.2.2.2.2.2.1.trans ?_,g.2.2.2.2.2.2.2.trans ?_⟩
   all_goals simp only [sT.1,sC.1,seval,-rN,ht,e0]
  | false=>
   cases hd:qao s[i] with
   | true=>
    rw [qhx hi (by rw [qaH,hb,hd];rfl)]
    simp only [qg8,sT.1,sC.1,qg,qH,seval,-rN,ht,e0,e11,c1,hx,w,qd9,qjA,hb,hd] at he
    subst he
    refine (ih (i + 1) _ zo ?_ ?_ ?_).imp λE g=>⟨g.1,g.2.1,g.2.2.1,g.2.2.2.1,g.2.2.2.2.1.trans ?_,g.2.2.2.2.2.1.trans ?_,g.2.2.2.2.2.2.1.trans ?_,g.2.2.2.2.2.2.2.trans ?_⟩
    all_goals simp only [sT.1,sC.1,seval,-rN,ht,e0]
   | false=>
    rw [qjw hi (by rw [qaH,hb,hd];rfl)]
    simp only [qg8,sT.1,sC.1,qg,qH,seval,-rN,ht,e0,e11,c1,hx,qd9,qjA,hb,hd] at he
    subst he
    exact ⟨_,rfl,Y1,Y2,v6,Y0,Y0,Y0,Y0⟩
theorem qc1 {b:Nat} (s:Str) (hs:s.length <= 100000):∀(k i:Nat) (tt:List qd),i + k = s.length->tt.length = 53->lkp tt 0 = .str s->lkp tt 7 = .int .i64 (i:Nat)->
  ∃E,qv b Wd (.loop qeD) ⟨tt,h,false⟩ = some (.exit 0,⟨E,h,false⟩)/\E.length = 53/\lkp E 0 = .str s/\lkp E 7 = .int .i64 (qav qao s i:Nat)/\lkp E 1 = lkp tt 1/\lkp E 4 = lkp tt 4:=by
 intro k
 induction k with
 | zero=>
  intro i tt hk ht e0 e11
  have c1:ilt (i:Int) (s.length:Int) = false:=by rw [qaj];simp;omega
  rw [qlH zo,qn]
  simp only [qeD,sT.1,sC.1,qg,qH,seval,-rN,ht,e0,e11,c1]
  exact ⟨_,rfl,Y1,Y2,v6,Y0,Y0⟩
 | succ k ih=>
  intro i tt hk ht e0 e11
  have hi:i < s.length:=zo
  have c1:ilt (i:Int) (s.length:Int) = true:=by rw [qaj];simp;omega
  have hx:qg6 (.str s) (.int .i64 (i:Nat)) = some (.int .u8 (s[i].toNat:Nat)):=qaX (jh hi)
  have w:=qJ (n:=i) zo
  rw [qn]
  generalize he:qv b Wd qeD _ = r
  cases hd:qao s[i] with
  | true=>
   rw [qhx hi hd]
   simp only [qeD,sT.1,sC.1,qg,qH,seval,-rN,ht,e0,e11,c1,hx,w,qjA,hd] at he
   subst he
   refine (ih (i + 1) _ zo ?_ ?_ ?_).imp λE g=>⟨g.1,g.2.1,g.2.2.1,g.2.2.2.1,g.2.2.2.2.1.trans ?_,g.2.2.2.2.2.trans ?_⟩
   all_goals simp only [sT.1,sC.1,seval,-rN,ht,e0]
  | false=>
   rw [qjw hi hd]
   simp only [qeD,sT.1,sC.1,qg,qH,seval,-rN,ht,e0,e11,c1,hx,qjA,hd] at he
   subst he
   exact ⟨_,rfl,Y1,Y2,v6,Y0,Y0⟩
def qbM (kind:Int) (s:Str) (n pos:Int):qd:=.agg [.int .i64 kind,.str s,.int .i64 n,.int .i64 pos]
theorem qoq (s:Str) (kind at_:Int) (i:Nat) (hi:i <= s.length) (hb:∀h:i < s.length,qaS s[i] = false):Wd (.fn 158 [] []) [.str s,.int .i64 kind,.int .i64 at_,.int .i64 (i:Nat)] h = some (.ret (.tup [qbM 0 [] 0 at_,.int .i64 at_,.int .i64 5]),h,false):=by
 rw [qm 158 qz0]
 rcases Nat.lt_or_ge i s.length with h1 | h1
 ·have hx:qg6 (.str s) (.int .i64 (i:Nat)) = some (.int .u8 (s[i].toNat:Nat)):=qaX (jh h1)
  have c1:((i:Int) == (s.length:Int)) = false:=by simp;omega
  simp only [qz0,sT.1,sC.1,qg,qH,seval,-rN,c1,hx,qd9,hb h1,qz]
  rfl
 ·have c1:((i:Int) == (s.length:Int)) = true:=by simp;omega
  simp only [qz0,sT.1,sC.1,qg,qH,seval,-rN,c1,qz]
  rfl
end
section
variable {h:List qj}
theorem qu6 (s:Str) (hs:s.length <= 100000) (kind at_:Int) (i:Nat) (hi:i < s.length) (hb:qaS s[i] = true):Wd (.fn 158 [] []) [.str s,.int .i64 kind,.int .i64 at_,.int .i64 (i:Nat)] h =
  if qav qaH s i - i <= 16 then some (.ret (.tup [qbM kind ((s.drop i).take (qav qaH s i - i)) 0 at_,.int .i64 (qav qaH s i:Nat),.int .i64 0]),h,false) else some (.ret (.tup [qbM 0 [] 0 at_,.int .i64 at_,.int .i64 9]),h,false):=by
 have hx:qg6 (.str s) (.int .i64 (i:Nat)) = some (.int .u8 (s[i].toNat:Nat)):=qaX (jh hi)
 have c1:((i:Int) == (s.length:Int)) = false:=by simp;omega
 have a1:=qdj qaH s i
 have Y:=qcI qaH s (Nat.le_of_lt hi)
 have w:IntKind.i64.wrap ((qav qaH s i:Nat) - (i:Int)) = ((qav qaH s i - i:Nat):Int):=by
  rw [qbU zo zo];omega
 have I:=qdG a1 Y
 rw [qm 158 qz0]
 generalize hR:qfO _ h _ = R
 simp only [qz0,sT.1,sC.1,qg,qH,seval,-rN,c1,hx,qd9,hb] at hR
 generalize hr:qv h.length Wd (.loop qg8) _ = r at hR
 obtain ⟨tt,rfl,ht,e0,e11,e1,e2,e3,e8⟩ :∃tt,r = some (.exit 0,⟨tt,h ++ [.cells [.int .i64 0,.str [],.int .i64 0,.int .i64 0]],false⟩)/\tt.length = 60/\lkp tt 0 = .str s/\lkp tt 11 = .int .i64 (qav qaH s i:Nat)/\lkp tt 1 = .int .i64 kind/\lkp tt 2 = .int .i64 at_/\lkp tt 3 = .int .i64 (i:Nat)/\lkp tt 8 = .ptr h.length 0:=by
  rw [<-hr]
  refine (qtK s hs (s.length - i) i _ zo ?_ ?_ ?_).imp λa6 g=>⟨g.1,g.2.1,g.2.2.1,g.2.2.2.1,g.2.2.2.2.1.trans ?_,g.2.2.2.2.2.1.trans ?_,g.2.2.2.2.2.2.1.trans ?_,g.2.2.2.2.2.2.2.trans ?_⟩
  all_goals simp only [sT.1,sC.1,seval,-rN]
 by_cases E:qav qaH s i - i <= 16
 ·have c2:ilt 16 ((qav qaH s i - i:Nat):Int) = false:=by rw [qaj];simp;omega
  rw [if_pos E,<-hR]
  simp only [sT.1,sC.1,qg,seval,-rN,ht,e0,e1,e2,e3,e8,e11,w,c2,qd3,I,qz]
  rfl
 ·have c2:ilt 16 ((qav qaH s i - i:Nat):Int) = true:=by rw [qaj];simp;omega
  rw [if_neg E,<-hR]
  simp only [sT.1,sC.1,qg,seval,-rN,ht,e2,e3,e8,e11,w,c2,qz]
  rfl
theorem qlb (s m:Str):Wd (.fn 161 [] []) [.str s,.str m] h = some (.ret (.bool (s.take m.length == m)),h,false):=by
 have inner:Wd (.fn 188 [] []) [.str s,.str m] h = some (.ret (.bool (s.take m.length == m)),h,false):=by
  rw [qm 188 qCL]
  rcases Nat.lt_or_ge s.length m.length with h1 | h1
  ·have c1:ile (m.length:Int) (s.length:Int) = false:=by rw [qaD];simp;omega
   have c2:(s.take m.length == m) = false:=by
    rw [beq_eq_false_iff_ne]
    intro e
    have:=congrArg List.length e
    rw [List.length_take] at this
    omega
   simp only [qCL,sT.1,sC.1,qg,qH,seval,-rN,c1,c2]
  ·have c1:ile (m.length:Int) (s.length:Int) = true:=by rw [qaD];simp;omega
   simp only [qCL,sT.1,sC.1,qg,qH,seval,-rN,c1,quj,j4,qBT h1]
 rw [qm 161 qFu]
 simp only [qFu,sT.1,sC.1,qg,seval,-rN,inner]
def qiT (s:Str) (n:Int):Prop:=∀h,Wd (.fn 187 [] []) [.str s] h = some (.ret (.tup [.int .i64 n,.niliface]),h,false)
def qng (s:Str):Prop:=∀h,∃n t v more,Wd (.fn 187 [] []) [.str s] h = some (.ret (.tup [.int .i64 n,.iface t v]),h ++ more,false)
def qs7 (s:Str) (i:Nat) (hi:i < s.length):Bool:=s[i] == 48 && decide (1 < qav qao s i - i)
theorem qC4 (c:UInt8):((c.toNat:Int) == 48) = (c == 48):=by
 rw [Bool.eq_iff_iff,beq_iff_eq,beq_iff_eq]
 constructor
 ·intro h
  apply UInt8.toNat_inj.1
  show c.toNat = 48
  omega
 ·intro h
  subst h
  rfl
theorem qfp (j:Nat) (t:List qd):qbL .niliface j t = t:=Eq.trans rfl rfl
theorem qyT:qFx 1 true .niliface .niliface = some (.bool false):=Eq.trans rfl rfl
theorem qyS (t:TypeId) (v:qd):qFx 1 true (.iface t v) .niliface = some (.bool true):=Eq.trans rfl rfl
theorem qmT (s:Str) (hs:s.length <= 100000) (i:Nat) (hi:i < s.length) (hb:qs7 s i hi = true):Wd (.fn 160 [] []) [.str s,.int .i64 (i:Nat)] h = some (.ret (.tup [qbM 0 [] 0 i,.int .i64 (i:Nat),.int .i64 6]),h,false):=by
 rw [qs7,jk,decide_eq_true_eq] at hb
 have c2:ilt 1 ((qav qao s i - i:Nat):Int) = true:=by rw [qaj];simp;omega
 have hx:qg6 (.str s) (.int .i64 (i:Nat)) = some (.int .u8 (s[i].toNat:Nat)):=qaX (jh hi)
 have I:=qdj qao s i
 have E:=qcI qao s (Nat.le_of_lt hi)
 have w:IntKind.i64.wrap ((qav qao s i:Nat) - (i:Int)) = ((qav qao s i - i:Nat):Int):=by
  rw [qbU zo zo];omega
 have Y:=qdG I E
 rw [qm 160 qqC]
 generalize hR:qfO _ h _ = R
 simp only [qqC,sT.1,sC.1,qg,seval,-rN] at hR
 generalize hr:qv h.length Wd (.loop qeD) _ = r at hR
 obtain ⟨tt,rfl,ht,e0,e7,e1,e4⟩ :∃tt,r = some (.exit 0,⟨tt,h ++ [.cells [.int .i64 0,.str [],.int .i64 0,.int .i64 0]],false⟩)/\tt.length = 53/\lkp tt 0 = .str s/\lkp tt 7 = .int .i64 (qav qao s i:Nat)/\lkp tt 1 = .int .i64 (i:Nat)/\lkp tt 4 = .ptr h.length 0:=by
  rw [<-hr]
  refine (qc1 s hs (s.length - i) i _ zo ?_ ?_ ?_).imp λa1 g=>⟨g.1,g.2.1,g.2.2.1,g.2.2.2.1,g.2.2.2.2.1.trans ?_,g.2.2.2.2.2.trans ?_⟩
  all_goals simp only [sT.1,sC.1,seval,-rN]
 rw [<-hR]
 simp only [sT.1,sC.1,qg,qH,seval,-rN,ht,e0,e1,e4,e7,w,hx,qC4,hb.1,c2,qz]
 rfl
theorem qpX (s:Str) (hs:s.length <= 100000) (i:Nat) (hi:i < s.length) (h0:(s[i] == 48) = false) {n:Int} (hn:qiT ((s.drop i).take (qav qao s i - i)) n):Wd (.fn 160 [] []) [.str s,.int .i64 (i:Nat)] h = some (.ret (.tup [qbM 1 [] n i,.int .i64 (qav qao s i:Nat),.int .i64 0]),h,false):=by
 rw [qiT] at hn
 have hx:qg6 (.str s) (.int .i64 (i:Nat)) = some (.int .u8 (s[i].toNat:Nat)):=qaX (jh hi)
 have Y:=qdj qao s i
 have I:=qcI qao s (Nat.le_of_lt hi)
 have w:IntKind.i64.wrap ((qav qao s i:Nat) - (i:Int)) = ((qav qao s i - i:Nat):Int):=by
  rw [qbU zo zo];omega
 have E:=qdG Y I
 rw [qm 160 qqC]
 generalize hR:qfO _ h _ = R
 simp only [qqC,sT.1,sC.1,qg,seval,-rN] at hR
 generalize hr:qv h.length Wd (.loop qeD) _ = r at hR
 obtain ⟨tt,rfl,ht,e0,e7,e1,e4⟩ :∃tt,r = some (.exit 0,⟨tt,h ++ [.cells [.int .i64 0,.str [],.int .i64 0,.int .i64 0]],false⟩)/\tt.length = 53/\lkp tt 0 = .str s/\lkp tt 7 = .int .i64 (qav qao s i:Nat)/\lkp tt 1 = .int .i64 (i:Nat)/\lkp tt 4 = .ptr h.length 0:=by
  rw [<-hr]
  refine (qc1 s hs (s.length - i) i _ zo ?_ ?_ ?_).imp λa1 g=>⟨g.1,g.2.1,g.2.2.1,g.2.2.2.1,g.2.2.2.2.1.trans ?_,g.2.2.2.2.2.trans ?_⟩
  all_goals simp only [sT.1,sC.1,seval,-rN]
 rw [<-hR]
 simp only [sT.1,sC.1,qg,qH,seval,-rN,ht,e0,e1,e4,e7,hx,qC4,h0,qd3,E,hn,qz,qyT,qfp]
 simp only [qbM]
theorem qpY (s:Str) (hs:s.length <= 100000) (i:Nat) (hi:i < s.length) (hb:qs7 s i hi = false) (h0:(s[i] == 48) = true) {n:Int} (hn:qiT ((s.drop i).take (qav qao s i - i)) n):Wd (.fn 160 [] []) [.str s,.int .i64 (i:Nat)] h = some (.ret (.tup [qbM 1 [] n i,.int .i64 (qav qao s i:Nat),.int .i64 0]),h,false):=by
 rw [qiT] at hn
 rw [qs7] at hb
 have hx:qg6 (.str s) (.int .i64 (i:Nat)) = some (.int .u8 (s[i].toNat:Nat)):=qaX (jh hi)
 have Y:=qdj qao s i
 have I:=qcI qao s (Nat.le_of_lt hi)
 have w:IntKind.i64.wrap ((qav qao s i:Nat) - (i:Int)) = ((qav qao s i - i:Nat):Int):=by
  rw [qbU zo zo];omega
 have E:=qdG Y I
 rw [qm 160 qqC]
 generalize hR:qfO _ h _ = R
 simp only [qqC,sT.1,sC.1,qg,seval,-rN] at hR
 generalize hr:qv h.length Wd (.loop qeD) _ = r at hR
 obtain ⟨tt,rfl,ht,e0,e7,e1,e4⟩ :∃tt,r = some (.exit 0,⟨tt,h ++ [.cells [.int .i64 0,.str [],.int .i64 0,.int .i64 0]],false⟩)/\tt.length = 53/\lkp tt 0 = .str s/\lkp tt 7 = .int .i64 (qav qao s i:Nat)/\lkp tt 1 = .int .i64 (i:Nat)/\lkp tt 4 = .ptr h.length 0:=by
  rw [<-hr]
  refine (qc1 s hs (s.length - i) i _ zo ?_ ?_ ?_).imp λa1 g=>⟨g.1,g.2.1,g.2.2.1,g.2.2.2.1,g.2.2.2.2.1.trans ?_,g.2.2.2.2.2.trans ?_⟩
  all_goals simp only [sT.1,sC.1,seval,-rN]
 rw [<-hR]
 rw [h0,jY,decide_eq_false_iff_not] at hb
 have c2:ilt 1 ((qav qao s i - i:Nat):Int) = false:=by rw [qaj];simp;omega
 simp only [sT.1,sC.1,qg,qH,seval,-rN,ht,e0,e1,e4,e7,w,hx,qC4,h0,c2,qd3,E,hn,qz,qyT,qfp]
 simp only [qbM]
theorem qtQ (s:Str) (hs:s.length <= 100000) (i:Nat) (hi:i < s.length) (hb:qs7 s i hi = false) {n:Int} (hn:qiT ((s.drop i).take (qav qao s i - i)) n):Wd (.fn 160 [] []) [.str s,.int .i64 (i:Nat)] h = some (.ret (.tup [qbM 1 [] n i,.int .i64 (qav qao s i:Nat),.int .i64 0]),h,false):=by
 cases h0:s[i] == 48 with
 | false=>exact qpX s hs i hi h0 hn
 | true=>exact qpY s hs i hi hb h0 hn
theorem qj9 (s:Str) (hs:s.length <= 100000) (i:Nat) (hi:i < s.length) (h0:(s[i] == 48) = false) (hn:qng ((s.drop i).take (qav qao s i - i))):Wd (.fn 160 [] []) [.str s,.int .i64 (i:Nat)] h = some (.ret (.tup [qbM 0 [] 0 i,.int .i64 (i:Nat),.int .i64 2]),h,false):=by
 obtain ⟨n,t,v,more,hn⟩:=hn (h ++ [.cells [.int .i64 0,.str [],.int .i64 0,.int .i64 0]])
 have hx:qg6 (.str s) (.int .i64 (i:Nat)) = some (.int .u8 (s[i].toNat:Nat)):=qaX (jh hi)
 have Y:=qdj qao s i
 have I:=qcI qao s (Nat.le_of_lt hi)
 have w:IntKind.i64.wrap ((qav qao s i:Nat) - (i:Int)) = ((qav qao s i - i:Nat):Int):=by
  rw [qbU zo zo];omega
 have E:=qdG Y I
 rw [qm 160 qqC]
 generalize hR:qfO _ h _ = R
 simp only [qqC,sT.1,sC.1,qg,seval,-rN] at hR
 generalize hr:qv h.length Wd (.loop qeD) _ = r at hR
 obtain ⟨tt,rfl,ht,e0,e7,e1,e4⟩ :∃tt,r = some (.exit 0,⟨tt,h ++ [.cells [.int .i64 0,.str [],.int .i64 0,.int .i64 0]],false⟩)/\tt.length = 53/\lkp tt 0 = .str s/\lkp tt 7 = .int .i64 (qav qao s i:Nat)/\lkp tt 1 = .int .i64 (i:Nat)/\lkp tt 4 = .ptr h.length 0:=by
  rw [<-hr]
  refine (qc1 s hs (s.length - i) i _ zo ?_ ?_ ?_).imp λa1 g=>⟨g.1,g.2.1,g.2.2.1,g.2.2.2.1,g.2.2.2.2.1.trans ?_,g.2.2.2.2.2.trans ?_⟩
  all_goals simp only [sT.1,sC.1,seval,-rN]
 rw [<-hR]
 simp only [sT.1,sC.1,qg,qH,seval,-rN,ht,e0,e1,e4,e7,hx,qC4,h0,qd3,E,hn,qz,qyS]
 simp only [qbM]
theorem qka (s:Str) (hs:s.length <= 100000) (i:Nat) (hi:i < s.length) (hb:qs7 s i hi = false) (h0:(s[i] == 48) = true) (hn:qng ((s.drop i).take (qav qao s i - i))):Wd (.fn 160 [] []) [.str s,.int .i64 (i:Nat)] h = some (.ret (.tup [qbM 0 [] 0 i,.int .i64 (i:Nat),.int .i64 2]),h,false):=by
 obtain ⟨n,t,v,more,hn⟩:=hn (h ++ [.cells [.int .i64 0,.str [],.int .i64 0,.int .i64 0]])
 rw [qs7] at hb
 have hx:qg6 (.str s) (.int .i64 (i:Nat)) = some (.int .u8 (s[i].toNat:Nat)):=qaX (jh hi)
 have Y:=qdj qao s i
 have I:=qcI qao s (Nat.le_of_lt hi)
 have w:IntKind.i64.wrap ((qav qao s i:Nat) - (i:Int)) = ((qav qao s i - i:Nat):Int):=by
  rw [qbU zo zo];omega
 have E:=qdG Y I
 rw [qm 160 qqC]
 generalize hR:qfO _ h _ = R
 simp only [qqC,sT.1,sC.1,qg,seval,-rN] at hR
 generalize hr:qv h.length Wd (.loop qeD) _ = r at hR
 obtain ⟨tt,rfl,ht,e0,e7,e1,e4⟩ :∃tt,r = some (.exit 0,⟨tt,h ++ [.cells [.int .i64 0,.str [],.int .i64 0,.int .i64 0]],false⟩)/\tt.length = 53/\lkp tt 0 = .str s/\lkp tt 7 = .int .i64 (qav qao s i:Nat)/\lkp tt 1 = .int .i64 (i:Nat)/\lkp tt 4 = .ptr h.length 0:=by
  rw [<-hr]
  refine (qc1 s hs (s.length - i) i _ zo ?_ ?_ ?_).imp λa1 g=>⟨g.1,g.2.1,g.2.2.1,g.2.2.2.1,g.2.2.2.2.1.trans ?_,g.2.2.2.2.2.trans ?_⟩
  all_goals simp only [sT.1,sC.1,seval,-rN]
 rw [<-hR]
 rw [h0,jY,decide_eq_false_iff_not] at hb
 have c2:ilt 1 ((qav qao s i - i:Nat):Int) = false:=by rw [qaj];simp;omega
 simp only [sT.1,sC.1,qg,qH,seval,-rN,ht,e0,e1,e4,e7,w,hx,qC4,h0,c2,qd3,E,hn,qz,qyS]
 simp only [qbM]
theorem qlu (s:Str) (hs:s.length <= 100000) (i:Nat) (hi:i < s.length) (hb:qs7 s i hi = false) (hn:qng ((s.drop i).take (qav qao s i - i))):Wd (.fn 160 [] []) [.str s,.int .i64 (i:Nat)] h = some (.ret (.tup [qbM 0 [] 0 i,.int .i64 (i:Nat),.int .i64 2]),h,false):=by
 cases h0:s[i] == 48 with
 | false=>exact qj9 s hs i hi h0 hn
 | true=>exact qka s hs i hi hb h0 hn
end
section
variable {h:List qj}
def marks:List Str:=g2.map qE0
theorem qxi:g2 = marks.map qd.str:=zk
theorem qtB:marks.length = 17:=zk
def qlc (r m:Str):Bool:=r.take m.length == m
def qeI (r:Str):Option Str:=marks.find? (qlc r)
theorem qpS:∀m ∈ marks,m.length <= 2:=by
 have:marks.all (λm=>decide (m.length <= 2)) = true:=zk
 intro m hm
 simpa using List.all_eq_true.1 this m hm
def qIR:qj:=.cells [.int .i64 0,.str [],.int .i64 0,.int .i64 0]
theorem qEO:qIR = .cells [.int .i64 0,.str [],.int .i64 0,.int .i64 0]:=Eq.trans rfl rfl
def qqM (h:List qj) (s:Str) (i:Nat) (r:Option (Ex×St)):Option Str->Prop
 | some m=>∃tt',r = some (.ret,⟨tt',h ++ [.cells [.int .i64 3,.str m,.int .i64 0,.int .i64 (i:Nat)]],false⟩)/\tt'.length = 72/\lkp tt' 4 = .ptr h.length 0/\lkp tt' 5 = .int .i64 (i + m.length:Nat)/\lkp tt' 6 = .int .i64 0
 | none=>∃tt',r = some (.exit 1,⟨tt',h ++ [qIR],false⟩)/\tt'.length = 72/\lkp tt' 0 = .str s/\lkp tt' 1 = .int .i64 (i:Nat)/\lkp tt' 4 = .ptr h.length 0
theorem qtz (s:Str) (hs:s.length <= 100000) (i:Nat) (hi:i <= s.length):∀(k j:Nat) (tt:List qd),j + k = 17->tt.length = 72->lkp tt 0 = .str s->lkp tt 1 = .int .i64 (i:Nat)->lkp tt 4 = .ptr h.length 0->lkp tt 52 = .agg g2->lkp tt 53 = .int .i64 (j:Nat)->
  qqM h s i (qv h.length Wd (.loop qh4) ⟨tt,h ++ [qIR],false⟩) ((marks.drop j).find? (qlc (s.drop i))):=by
 intro k
 have a6:=qtB
 induction k with
 | zero=>
  intro j tt hj ht e0 e1 e4 I E
  have c1:ilt (j:Int) 17 = false:=by rw [qaj];simp;omega
  rw [List.drop_eq_nil_of_le («as»:=marks) zo,List.find?_nil,qn]
  simp only [qh4,sT.1,sC.1,qg,seval,-rN,ht,E,c1]
  exact ⟨_,rfl,Y1,Y2,by simp only [sT.1,sC.1,seval,-rN,e1],by simp only [sT.1,sC.1,seval,-rN,e4]⟩
 | succ k ih=>
  intro j tt hj ht e0 e1 e4 I E
  have a1:j < marks.length:=zo
  have c1:ilt (j:Int) 17 = true:=by rw [qaj];simp;omega
  have hx:qCh 17 none (.agg g2) (.int .i64 (j:Nat)) = some (.str marks[j]):=by
   rw [qnL (v:=.str marks[j]) zo (by rw [qxi,List.getElem?_map,jh a1];rfl)]
   rfl
  have a7:=qpS _ (List.getElem_mem a1)
  have w:=qJ (n:=j) zo
  have Y:=qiw hi
  have w2:IntKind.i64.wrap ((i:Int) + (marks[j].length:Int)) = ((i + marks[j].length:Nat):Int):=by
   rw [qbU zo zo];omega
  rw [jT a1,qn]
  generalize he:qv h.length Wd qh4 _ = r
  cases hb:((s.drop i).take marks[j].length == marks[j]) with
  | true=>
   rw [List.find?_cons_of_pos (p:=qlc (s.drop i)) hb]
   simp only [qh4,sT.1,sC.1,qg,seval,-rN,ht,e0,e1,e4,I,E,c1,hx,qd3,j4,Y,qlb,hb,qz,w2,qEO] at he
   subst he
   exact ⟨_,rfl,Y1,by simp only [sT.1,sC.1,seval,-rN,e4],by simp only [sT.1,sC.1,seval,-rN,ht],by simp only [sT.1,seval,-rN,ht]⟩
  | false=>
   rw [List.find?_cons_of_neg (p:=qlc (s.drop i)) (by rw [qlc,hb];exact Bool.false_ne_true)]
   simp only [qh4,sT.1,sC.1,qg,seval,-rN,ht,e0,e1,I,E,c1,hx,qd3,j4,Y,qlb,hb,w] at he
   subst he
   refine ih (j + 1) _ zo ?_ ?_ ?_ ?_ ?_ ?_
   all_goals simp only [sT.1,sC.1,seval,-rN,ht,e0,e1,e4,I]
theorem qtA:cut g2 0 (some 17) = some (.agg g2):=zk
theorem qGa (c:UInt8):((c.toNat:Int) == 39) = (c == 39):=by
 rw [Bool.eq_iff_iff,beq_iff_eq,beq_iff_eq]
 constructor
 ·intro h
  apply UInt8.toNat_inj.1
  show c.toNat = 39
  omega
 ·intro h
  subst h
  rfl
theorem qyx (s:Str):Wd (.fn 130 [] []) [.str s,.int .i64 (s.length:Nat)] h = some (.ret (.tup [qbM 4 [] 0 s.length,.int .i64 (s.length:Nat),.int .i64 0]),h,false):=by
 rw [qm 130 qqB]
 simp only [qqB,sT.1,sC.1,qg,seval,-rN,qz,qbM]
section
variable {s:Str} {i:Nat} (hi:i < s.length)
include hi
theorem qvn {k n p to e:Int} {w:Str} (h1:qaS s[i] = true) (hn:∀h,Wd (.fn 158 [] []) [.str s,.int .i64 0,.int .i64 (i:Nat),.int .i64 (i:Nat)] h = some (.ret (.tup [qbM k w n p,.int .i64 to,.int .i64 e]),h,false)):Wd (.fn 130 [] []) [.str s,.int .i64 (i:Nat)] h = some (.ret (.tup [qbM k w n p,.int .i64 to,.int .i64 e]),h,false):=by
 have hx:qg6 (.str s) (.int .i64 (i:Nat)) = some (.int .u8 (s[i].toNat:Nat)):=qaX (jh hi)
 have c1:((i:Int) == (s.length:Int)) = false:=by simp;omega
 simp only [qbM] at hn
 rw [qm 130 qqB]
 simp only [qqB,sT.1,sC.1,qg,seval,-rN,c1,hx,qd9,h1,hn,qbM]
theorem qyz {k n p to e:Int} {w:Str} (h1:qaS s[i] = false) (h2:(s[i] == 39) = true) (hl:s.length <= 100000) (hn:∀h,Wd (.fn 158 [] []) [.str s,.int .i64 2,.int .i64 (i:Nat),.int .i64 (i + 1:Nat)] h = some (.ret (.tup [qbM k w n p,.int .i64 to,.int .i64 e]),h,false)):Wd (.fn 130 [] []) [.str s,.int .i64 (i:Nat)] h = some (.ret (.tup [qbM k w n p,.int .i64 to,.int .i64 e]),h,false):=by
 have hx:qg6 (.str s) (.int .i64 (i:Nat)) = some (.int .u8 (s[i].toNat:Nat)):=qaX (jh hi)
 have c1:((i:Int) == (s.length:Int)) = false:=by simp;omega
 have w:=qJ (n:=i) zo
 simp only [qbM] at hn
 rw [qm 130 qqB]
 simp only [qqB,sT.1,sC.1,qg,seval,-rN,c1,hx,qd9,h1,qGa,h2,w,hn,qbM]
theorem qyy {k n p to e:Int} {w:Str} (h1:qaS s[i] = false) (h2:(s[i] == 39) = false) (h3:qao s[i] = true) (hn:∀h,Wd (.fn 160 [] []) [.str s,.int .i64 (i:Nat)] h = some (.ret (.tup [qbM k w n p,.int .i64 to,.int .i64 e]),h,false)):Wd (.fn 130 [] []) [.str s,.int .i64 (i:Nat)] h = some (.ret (.tup [qbM k w n p,.int .i64 to,.int .i64 e]),h,false):=by
 have hx:qg6 (.str s) (.int .i64 (i:Nat)) = some (.int .u8 (s[i].toNat:Nat)):=qaX (jh hi)
 have c1:((i:Int) == (s.length:Int)) = false:=by simp;omega
 simp only [qbM] at hn
 rw [qm 130 qqB]
 simp only [qqB,sT.1,sC.1,qg,seval,-rN,c1,hx,qd9,qjA,h1,qGa,h2,h3,hn,qbM]
def qAZ (s:Str) (i:Nat):Option Str->List qd
 | some m=>[qbM 3 m 0 i,.int .i64 (i + m.length:Nat),.int .i64 0]
 | none=>[qbM 0 [] 0 i,.int .i64 (i:Nat),.int .i64 5]
theorem qvm (h1:qaS s[i] = false) (h2:(s[i] == 39) = false) (h3:qao s[i] = false) (hl:s.length <= 100000):Wd (.fn 130 [] []) [.str s,.int .i64 (i:Nat)] h = some (.ret (.tup (qAZ s i (qeI (s.drop i)))),h,false):=by
 have hx:qg6 (.str s) (.int .i64 (i:Nat)) = some (.int .u8 (s[i].toNat:Nat)):=qaX (jh hi)
 have c1:((i:Int) == (s.length:Int)) = false:=by simp;omega
 rw [qm 130 qqB]
 generalize hR:qfO _ h _ = R
 simp only [qqB,sT.1,sC.1,qg,seval,-rN,c1,hx,qd9,qjA,h1,qGa,h2,h3,qtA] at hR
 generalize hr:qv h.length Wd (.loop qh4) _ = r at hR
 have q:qqM h s i r (qeI (s.drop i)):=by
  rw [<-hr]
  refine qtz s hl i zo 17 0 _ zo ?_ ?_ ?_ ?_ ?_ ?_
  all_goals simp only [sT.1,sC.1,seval,-rN,Int.natCast_zero]
 rw [<-hR]
 cases hm:qeI (s.drop i) with
 | some m=>
  rw [hm] at q
  obtain ⟨tt,rfl,ht,e4,e5,e6⟩:=q
  simp only [sT.1,sC.1,seval,-rN,e4,e5,e6,qAZ,qbM]
 | none=>
  rw [hm] at q
  obtain ⟨tt,rfl,ht,e0,e1,e4⟩:=q
  rw [qEO]
  simp only [sT.1,sC.1,qg,seval,-rN,ht,e1,e4,qz,qAZ,qbM]
end
end
section
variable {h:List qj}
def blank (c:UInt8):Bool:=(c.toNat:Int) == 32 || (c.toNat:Int) == 9 || (c.toNat:Int) == 10
def sharp (c:UInt8):Bool:=(c.toNat:Int) == 35
def qcz (s:Str):Option Nat:=s.findIdx? (· == 10)
def qdX (s:Str):Int:=match qcz s with
 | some k=>k
 | none=>-1
def qcP:Prop:=∀(s:Str) (h:List qj),Wd (.fn 162 [] []) [.str s,.int .u8 10] h = some (.ret (.int .i64 (qdX s)),h,false)
inductive qiH (s:Str):Nat->Nat->Prop
 | done:qiH s s.length s.length
 | blank {i j} (hi:i < s.length):blank s[i] = true->qiH s (i + 1) j->qiH s i j
 | line {i j k} (hi:i < s.length):blank s[i] = false->sharp s[i] = true->qcz (s.drop i) = some k->qiH s (i + k + 1) j->qiH s i j
 | last {i} (hi:i < s.length):blank s[i] = false->sharp s[i] = true->qcz (s.drop i) = none->qiH s i s.length
 | word {i} (hi:i < s.length):blank s[i] = false->sharp s[i] = false->qiH s i i
theorem qjh {s:Str} {k:Nat} (h:qcz s = some k):k < s.length:=by
 rw [qcz,List.findIdx?_eq_some_iff_getElem] at h
 exact h.1
theorem qiH.le {s:Str} {i j:Nat} (h:qiH s i j):i <= j/\j <= s.length:=by
 induction h with
 | done=>omega
 | blank hi _ _ ih=>omega
 | line hi _ _ _ _ ih=>omega
 | last hi _ _ _=>omega
 | word hi _ _=>omega
theorem qiH.ex (s:Str):∀(n i:Nat),s.length - i <= n->i <= s.length->∃j,qiH s i j:=by
 intro n
 induction n with
 | zero=>
  intro i h1 h2
  have:i = s.length:=zo
  subst this
  exact ⟨_,.done⟩
 | succ n ih=>
  intro i h1 h2
  rcases Nat.lt_or_ge i s.length with hi | hi
  ·cases hb:AE.blank s[i] with
   | true=>
    obtain ⟨j,hj⟩:=ih (i + 1) zo zo
    exact ⟨j,.blank hi hb hj⟩
   | false=>
    cases hs:sharp s[i] with
    | false=>exact ⟨i,.word hi hb hs⟩
    | true=>
     cases hl:qcz (s.drop i) with
     | none=>exact ⟨_,.last hi hb hs hl⟩
     | some k=>
      have:=qjh hl
      rw [List.length_drop] at this
      obtain ⟨j,hj⟩:=ih (i + k + 1) zo zo
      exact ⟨j,.line hi hb hs hl hj⟩
  ·have:i = s.length:=zo
   subst this
   exact ⟨_,.done⟩
def qqQ (h:List qj) (j:Nat) (r:Option (Ex×St)):Prop:=
 (∃tt,r = some (.exit 0,⟨tt,h,false⟩)/\tt.length = 34/\lkp tt 1 = .int .i64 (j:Nat))\/(∃tt,r = some (.ret,⟨tt,h,false⟩)/\tt.length = 34/\lkp tt 4 = .int .i64 (j:Nat))
theorem quO (hx:qcP) {s:Str} (hs:s.length <= 100000) {i j:Nat} (hk:qiH s i j):∀tt:List qd,tt.length = 34->lkp tt 0 = .str s->lkp tt 1 = .int .i64 (i:Nat)->qqQ h j (qv h.length Wd (.loop qdd) ⟨tt,h,false⟩):=by
 rw [qcP] at hx
 induction hk with
 | done=>
  intro tt ht e0 e1
  have c1:ilt (s.length:Int) (s.length:Int) = false:=by rw [qaj];simp
  rw [qn]
  simp only [qdd,sT.1,sC.1,qg,seval,-rN,ht,e0,e1,c1]
  exact .inl ⟨_,rfl,Y1,by simp only [sT.1,sC.1,seval,-rN,e1]⟩
 | @blank i j hi hb _ ih=>
  intro tt ht e0 e1
  have c1:ilt (i:Int) (s.length:Int) = true:=by rw [qaj];simp;omega
  have hg:qg6 (.str s) (.int .i64 (i:Nat)) = some (.int .u8 (s[i].toNat:Nat)):=qaX (jh hi)
  have w:=qJ (n:=i) zo
  rw [qn]
  generalize he:qv h.length Wd qdd _ = r
  rw [AE.blank] at hb
  cases q1:((s[i].toNat:Int) == 32) with
  | true=>
   simp only [qdd,sT.1,sC.1,qg,seval,-rN,ht,e0,e1,c1,hg,w,q1] at he
   subst he
   refine ih _ ?_ ?_ ?_
   all_goals simp only [sT.1,sC.1,seval,-rN,ht,e0]
  | false=>
   cases q2:((s[i].toNat:Int) == 9) with
   | true=>
    simp only [qdd,sT.1,sC.1,qg,seval,-rN,ht,e0,e1,c1,hg,w,q1,q2] at he
    subst he
    refine ih _ ?_ ?_ ?_
    all_goals simp only [sT.1,sC.1,seval,-rN,ht,e0]
   | false=>
    have q3:((s[i].toNat:Int) == 10) = true:=by simpa [q1,q2] using hb
    simp only [qdd,sT.1,sC.1,qg,seval,-rN,ht,e0,e1,c1,hg,w,q1,q2,q3] at he
    subst he
    refine ih _ ?_ ?_ ?_
    all_goals simp only [sT.1,sC.1,seval,-rN,ht,e0]
 | @line i j k hi hb hh hl _ ih=>
  intro tt ht e0 e1
  have c1:ilt (i:Int) (s.length:Int) = true:=by rw [qaj];simp;omega
  have hg:qg6 (.str s) (.int .i64 (i:Nat)) = some (.int .u8 (s[i].toNat:Nat)):=qaX (jh hi)
  have I:=qjh hl
  rw [List.length_drop] at I
  have w:=qJ (n:=i + k) zo
  have w2:IntKind.i64.wrap ((i:Int) + (k:Int)) = ((i + k:Nat):Int):=by rw [qbU zo zo];omega
  have hI:qdX (s.drop i) = (k:Int):=by rw [qdX,hl]
  have c2:ilt (k:Int) 0 = false:=by rw [qaj];simp
  have E:=qiw (Nat.le_of_lt hi)
  rw [qn]
  generalize he:qv h.length Wd qdd _ = r
  simp only [AE.blank,Bool.or_eq_false_iff] at hb
  rw [sharp] at hh
  simp only [qdd,sT.1,sC.1,qg,seval,-rN,ht,e0,e1,c1,hg,hb.1.1,hb.1.2,hb.2,hh,qd3,j4,E,hx,hI,c2,w2,w] at he
  subst he
  refine ih _ ?_ ?_ ?_
  all_goals simp only [sT.1,sC.1,seval,-rN,ht,e0]
 | @last i hi hb hh hl=>
  intro tt ht e0 e1
  have c1:ilt (i:Int) (s.length:Int) = true:=by rw [qaj];simp;omega
  have hg:qg6 (.str s) (.int .i64 (i:Nat)) = some (.int .u8 (s[i].toNat:Nat)):=qaX (jh hi)
  have hI:qdX (s.drop i) = -1:=by rw [qdX,hl]
  have c2:ilt (-1) 0 = true:=zk
  have E:=qiw (Nat.le_of_lt hi)
  rw [qn]
  generalize he:qv h.length Wd qdd _ = r
  simp only [AE.blank,Bool.or_eq_false_iff] at hb
  rw [sharp] at hh
  simp only [qdd,sT.1,sC.1,qg,seval,-rN,ht,e0,e1,c1,hg,hb.1.1,hb.1.2,hb.2,hh,qd3,j4,E,hx,hI,c2] at he
  subst he
  exact .inr ⟨_,rfl,Y1,by simp only [sT.1,seval,-rN,ht]⟩
 | @word i hi hb hh=>
  intro tt ht e0 e1
  have c1:ilt (i:Int) (s.length:Int) = true:=by rw [qaj];simp;omega
  have hg:qg6 (.str s) (.int .i64 (i:Nat)) = some (.int .u8 (s[i].toNat:Nat)):=qaX (jh hi)
  rw [qn]
  generalize he:qv h.length Wd qdd _ = r
  simp only [AE.blank,Bool.or_eq_false_iff] at hb
  rw [sharp] at hh
  simp only [qdd,sT.1,sC.1,qg,seval,-rN,ht,e0,e1,c1,hg,hb.1.1,hb.1.2,hb.2,hh] at he
  subst he
  exact .inr ⟨_,rfl,Y1,by simp only [sT.1,seval,-rN,ht]⟩
theorem qna (hx:qcP) {s:Str} (hs:s.length <= 100000) {i j:Nat} (hk:qiH s i j):Wd (.fn 131 [] []) [.str s,.int .i64 (i:Nat)] h = some (.ret (.int .i64 (j:Nat)),h,false):=by
 rw [qm 131 qFo]
 generalize hR:qfO _ h _ = R
 simp only [qFo,sT.1,sC.1,qg,seval,-rN] at hR
 generalize hr:qv h.length Wd (.loop qdd) _ = r at hR
 have q:qqQ h j r:=by
  rw [<-hr]
  refine quO hx hs hk _ ?_ ?_ ?_
  all_goals simp only [sT.1,sC.1,seval,-rN]
 rw [<-hR]
 rcases q with ⟨tt,rfl,ht,e1⟩ | ⟨tt,rfl,ht,e4⟩
 ·simp only [sT.1,sC.1,qg,seval,-rN,ht,e1]
 ·simp only [sT.1,seval,-rN,e4]
end
end Go.Proofs.YtcbfifamliijlaaGreatDoor.AE
