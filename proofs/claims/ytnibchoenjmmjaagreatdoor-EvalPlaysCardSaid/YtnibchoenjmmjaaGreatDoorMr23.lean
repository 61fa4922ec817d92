/- A part of the proof: the abstract executor and what goes through it (part 23). No condition. -/
import Derived.Test.YtnibchoenjmmjaaGreatDoorMr22
import Derived.Test.YtnibchoenjmmjaaGreatDoorMr9
import Derived.Test.YtnibchoenjmmjaaGreatDoorMr20
import Derived.Test.YtnibchoenjmmjaaGreatDoorMr2
import Derived.Test.YtnibchoenjmmjaaGreatDoorProg
set_option maxRecDepth 100000
set_option maxHeartbeats 0
open List renaming getElem?_append_left→ja,getElem?_append_right→jc,getElem?_eq_some_iff→jd,take_set_of_le→jZ,getElem?_set_ne→jf,length_set→Jc,append_assoc→jp,nil_append→j6,cons_append→jy
open Option renaming map_some→jL
open Bool renaming or_true→j5
namespace Go.Proofs.YtnibchoenjmmjaaGreatDoor.AE
open Go.AE
def qpk (r:Res):Res:=bif r.2 == 0 then r else (qM,r.2)
section
variable {h:List qb} {H:Nat->Option qb}
theorem mkN (base n:Nat) (hn:n <= 100000) (h:List qb):hop base (.mk 1 [.nilptr]) [.int .i64 (n:Nat),.int .i64 (n:Nat)] h = some (.sl h.length 0 n n 0,h ++ [.cells (List.replicate n .nilptr)],false):=by
 have e:((List.replicate n [qa.nilptr]).flatten).map qa.dim = List.replicate n .nilptr:=by
  induction n with
  | zero=>rfl
  | succ n ih=>rw [List.replicate_succ,List.flatten_cons,List.map_append,ih zo,List.replicate_succ];rfl
 simp only [hop]
 rw [if_pos ⟨zo,zo,zo,rfl⟩,Int.toNat_natCast,e]
theorem Lo.init {R D N:Nat} {rc:List qa} {ev:Int->Res} (hg:Cov H h) (hN:0 < N) {b0:qb} (hR:R = h.length + 2) (hD:D = h.length + 3):∃H',Lo H h R D N rc ev H' (h ++ [b0,.cells qeV,.cells rc,.cells (List.replicate N .nilptr),.cells [.int .i64 ((N - 1:Nat):Int)]]) (λ_=>false) [N - 1] (.sl (h.length + 4) 0 1 1 0):=by
 subst hR
 subst hD
 obtain ⟨G,hG⟩ :∃G,G = h ++ [b0,.cells qeV,.cells rc,.cells (List.replicate N .nilptr),.cells [.int .i64 ((N - 1:Nat):Int)]]:=⟨_,rfl⟩
 have I:G.length = h.length + 5:=by rw [hG];simp
 have at':∀k,G[h.length + k]? = [b0,.cells qeV,.cells rc,.cells (List.replicate N .nilptr),.cells [.int .i64 ((N - 1:Nat):Int)]][k]?:=λk=>by
  rw [hG,jc zo,Nat.add_sub_cancel_left]
 obtain ⟨H',B⟩ :∃H':Nat->Option qb,H' = λi=>if i = h.length + 2 then some (.cells rc) else H i:=⟨_,rfl⟩
 have o1:H' (h.length + 2) = some (.cells rc):=by rw [B];simp
 have o2:∀i,i ≠ h.length + 2->H' i = H i:=λi hi=>by rw [B];exact if_neg hi
 have ha:∀i,h.length <= i->H i = none:=λi hi=>hg.late hi
 have E:Cov H G:=by rw [hG];exact hg.more _
 refine ⟨H',?_⟩
 rw [<-hG]
 refine ⟨λi x hx=>by rw [o2 i (by have:=hg.lt hx;omega)];exact hx,λi x hx=>?_,λi hi=>by rw [hG,ja hi],zo,at' 1,o1,?_,?_,by rw [o2 _ zo];exact ha _ zo,zo,by simp,λx hx=>⟨by rw [List.mem_singleton.1 hx];omega,rfl⟩,.inr (by simp)⟩
 ·by_cases hi:i = h.length + 2
  ·subst hi
   rw [o1] at hx
   cases hx
   exact at' 2
  ·rw [o2 i hi] at hx
   exact E i x hx
 ·refine ⟨List.replicate N .nilptr,zo,at' 3,by simp,λi hi=>⟨λ_=>?_,λh=>by cases h⟩⟩
  rw [List.getElem?_replicate,if_pos hi]
 ·exact ⟨h.length + 4,1,0,_,rfl,.inl rfl,at' 4,rfl,rfl,by rw [o2 _ zo];exact ha _ zo,zo,zo⟩
theorem qxJ (E:qeZ) (hE:qsJ E) (ns:List Nd) (hS:qoa ns) (hI:∀nd ∈ ns,I64 nd.n) (hl:ns.length <= 90000) {TV OL:qa} (hg:Cov H h) (hO:qd5 H E.oth OL) (hT:qen H ns TV) :
  ∃cs m,Wd (.fn 8 [] []) [TV,.agg [.lst (E.vals.map qa6) .no,qaV E.bag,.int .i64 E.en,.int .i64 E.ed,OL]] h = some (.ret (.tup [.agg cs,.int .i64 (qpk (evT E ns ((ns.length - 1:Nat):Int))).2]),h ++ m,false)/\At (qcx h.length (h ++ m)) (qpk (evT E ns ((ns.length - 1:Nat):Int))).1 cs:=by
 have hN:0 < ns.length:=List.length_pos_iff.2 hS.1
 have Td:TV.dim = TV/\TV.storable = true/\(∀i t,qz TV i t = t)/\qbB false TV = some (.int .i64 (ns.length:Nat)):=by obtain ⟨_,_,rfl,_⟩:=hT;exact ⟨rfl,rfl,λ_ _=>rfl,rfl⟩
 obtain ⟨Td,Ts,Tw,Tl⟩:=Td
 obtain ⟨Od,Os,Ow,Ol⟩:=hO.facts
 have bd:(qaV E.bag).dim = qaV E.bag:=rfl
 have bs:(qaV E.bag).storable = true:=by rw [qaV];kernel_rfl
 have bw:∀i t,qz (qaV E.bag) i t = t:=λi t=>by rw [qaV];rfl
 have vd:(qa.lst (E.vals.map qa6) .no).dim = .lst (E.vals.map qa6) .no:=rfl
 have bc:(qaV E.bag).cells = [qaV E.bag]:=rfl
 have Tc:TV.cells = [TV]:=by obtain ⟨_,_,rfl,_⟩:=hT;rfl
 have Oc:OL.cells = [OL]:=by obtain ⟨_,_,_,⟨_,rfl⟩ | ⟨_,_,rfl,_⟩⟩:=hO <;> rfl
 have aj:=λm=>qvo ns (hg.more m) hT hS zo
 have al:=λg=>mkN h.length ns.length zo g
 have w1:IntKind.i64.wrap ((ns.length:Int) - 1) = ((ns.length - 1:Nat):Int):=by
  rw [IntKind.wrap_i64]
  omega
 have O:∀id o n c w:Nat,(qa.sl id o n c w).dim = .sl id o n c w:=λ_ _ _ _ _=>rfl
 have au:Nat.ble h.length (h.length + 2) = true:=qf zo
 generalize hw:Wd _ _ h = w
 rw [qm 8 c8] at hw
 simp only [sA.1,c8,seval,Td,Ts,Tw,Tl,Od,Os,Ow,bd,bs,bw,bc,Tc,Oc,vd,aj,al,w1,qEo,O,au] at hw
 obtain ⟨H0,L0⟩:=Lo.init (R:=h.length + 2) (D:=h.length + 3) (rc:=[TV,.lst (E.vals.map qa6) .no,qaV E.bag,.int .i64 E.en,.int .i64 E.ed,OL,.sl (h.length + 3) 0 ns.length ns.length 0]) (ev:=evT E ns) (b0:=.cells [.lst (E.vals.map qa6) .no,qaV E.bag,.int .i64 E.en,.int .i64 E.ed,OL]) hg hN rfl rfl
 have loop:=qpl E hE ns hS.2 hI hl (h:=h) (R:=h.length + 2) (D:=h.length + 3) hO hT
 generalize hr:qj h.length Wd (.loop qyk) _ = r at hw
 obtain ⟨x,aA,rfl,tt,H',G,dn,V,rfl,ht,e4,e6,e7,L,rfl⟩:=qaH hr (loop _ _ ⟨_,H0,_,_,_,_,rfl,Y1,Y1,Y1,Y1,by simp only [sB.1,seval,qdp],L0,rfl⟩)
 have S:dn ((ns.length - 1:Nat):Int) = true:=by
  rcases L.lst with h | h
  ·exact h
  ·cases h
 obtain ⟨ds,D0,D1,D2,D3⟩:=L.don
 obtain ⟨q,rs,af,hq,a8⟩:=(D3 (ns.length - 1) zo).2 S
 have ab:=L.cov.lt hq
 have I:=L.cov _ _ hq
 have ad:=L.cov.lt L.run
 have ae:=L.cov _ _ L.run
 have mD:qar 1 (.sl (h.length + 3) 0 ns.length ns.length 0) (.int .i64 ((ns.length - 1:Nat):Int)) = some (.ptr (h.length + 3) (ns.length - 1)):=by rw [qck zo,Nat.mul_one]
 have ac:=qxI hE hI (ns.length + 1) ((ns.length - 1:Nat):Int)
 have B:=L.res
 rw [qeV] at B
 have aa:h.length + 1 < G.length:=by have:=L.bse;omega
 have a7:G.take h.length = h:=by
  apply List.ext_getElem?
  intro i
  rw [List.getElem?_take]
  split
  ·exact L.old i ‹_›
  ·rw [List.getElem?_eq_none zo]
 change OkR (evT E ns ((ns.length - 1:Nat):Int)) at ac
 generalize evT E ns ((ns.length - 1:Nat):Int) = r0 at *
 obtain ⟨v,x0⟩:=r0
 obtain ⟨k,n,s,l,L',hv,rfl,ay⟩:=a8.cells
 obtain ⟨d2,s2,w2,n2⟩:=ay.facts
 have av:At H' v [.int .i64 k,.int .i64 n,.str s,L']:=by
  obtain ⟨cs,e,hc⟩:=a8
  have e':[qa.int .i64 k,.int .i64 n,.str s,L'] ++ [.int .i64 x0] = cs ++ [.int .i64 x0]:=e
  rw [List.append_cancel_right e']
  exact hc
 simp only at hv
 rw [qpk]
 simp only at *
 have ah:h.length + 1 ≠ q:=λh=>by
  rw [<-h,B] at I
  cases I
 have ak:∀X,(G.set (h.length + 1) X)[q]? = G[q]?:=λX=>jf ah
 have az:Nat.ble h.length (h.length + 1) = true:=qf zo
 cases J:(x0 == 0) with
 | false=>
  simp only [sA.1,seval,ht,e4,e6,e7,ad,ae,D0,D1,mD,af,ab,I,ak,J,B,aa,O,jL] at hw
  subst hw
  refine ⟨_,[],by rw [List.append_nil];exact congrArg some (qS (by rw [jZ zo,a7]) rfl),?_⟩
  exact At.leaf _ 0 0 []
 | true=>
  obtain ⟨cs,m,ar,a6⟩:=qAt 3 v (ac.2 (by simpa using J)) (H:=H') _ G av L.cov
  obtain ⟨k2,a1,U,l2,L2,_,rfl,d3,s3,w3,_⟩:=a6.cells
  simp only [sA.1,seval,ht,e4,e6,e7,ad,ae,D0,D1,mD,af,ab,I,J,B,aa,O,jL,d2,s2,w2,ar,d3,s3,w3,az] at hw
  subst hw
  have hK:(G.set (h.length + 1) (.cells [.int .i64 k2,.int .i64 a1,.str U,L2]) ++ m).take h.length = h:=by
   rw [List.take_append_of_le_length (by simp;omega),jZ zo,a7]
  have ai:x0 = 0:=by simpa using J
  subst ai
  obtain ⟨M,hm,am⟩:=qI (v:=.tup [.agg [.int .i64 k2,.int .i64 a1,.str U,L2],.int .i64 0]) hK
  refine ⟨_,M,congrArg some hm,?_⟩
  rw [cond_true]
  cases a6 with
  | leaf k n s=>exact At.leaf _ _ _ _
  | node k n s l id ess h1 h2 h3 h4=>
   have hid:G.length <= id:=by
    by_cases hid:G.length <= id
    ·exact hid
    ·rw [qav hid] at h2
     cases h2
   have ap:=am (by simp only [qa.lower,qt,Bool.true_and,Bool.and_true];exact qde zo)
   refine (VR.node _ _ _ l id ess h1 h2 h3 h4).at.mono λi x hx=>?_
   have hi:G.length <= i:=by
    by_cases hid:G.length <= i
    ·exact hid
    ·rw [qav hid] at hx
     cases hx
   rw [qL hi] at hx
   rw [qL zo,ap,jc (by simp;omega),Jc]
   rw [jc hi] at hx
   exact hx
end
end Go.Proofs.YtnibchoenjmmjaaGreatDoor.AE
namespace Go.AE
theorem qfb (n:Nat) (v:qa) (H:List qb) (e:Bool):∃g e',some (qaE n (.ret v) H e) = some (.ret v,g,e'):=by
 simp only [qaE]
 cases ((!e || n == 0) && v.lower n) <;> exact ⟨_,_,rfl⟩
end Go.AE
namespace Go.Proofs.YtnibchoenjmmjaaGreatDoor.AE
open Go.AE
theorem qat.out {r:Res} {t:Tp} (h:qat r t):qpk r = r:=by
 rw [qpk]
 cases c:(r.2 == 0) with
 | true=>rfl
 | false=>exact (h.err c t).1.symm
section
variable {h:List qb}
theorem qkg (W:Wl) (hO:OkW W):∃g e,Wd (.fn 3 [] []) [wV W] h = some (.ret (.bool true),g,e):=by
 obtain ⟨rb,M,ac⟩:=qnC (h:=h ++ [.cells (wC W)]) W
 cases rb with
 | false=>
  obtain ⟨⟨op,n,nm,sb,aS⟩,N,al,ab,en,ed,au⟩:=W
  obtain ⟨bd,bs,bw,bl,bc⟩:=qbU ab
  rw [wV,qeU] at M
  generalize hw:Wd _ _ h = w
  rw [wV,qeU] at hw
  rw [qm 3 c3] at hw
  simp only [sA.1,c3,seval,qwO,bd,bs,bw,bc,M] at hw
  subst hw
  first
  | exact qfb _ _ _ _
  | exact ⟨_,_,rfl⟩
 | true=>
  have hR:=ac rfl
  obtain ⟨hS,hI,hl⟩:=qjm hR hO
  have hE:=qlI hR hO
  obtain ⟨af,a7⟩:=qtT hR hO
  obtain ⟨g',Tb,a8,J,ae,hold⟩:=qvx (h:=h ++ [.cells (wC W),.cells [.int .i64 0,.int .i64 0,.str [],.lst [] .full]]) W hR (by simp)
  have J:=J hS.1
  have ae:h.length + 2 <= g'.length:=by simpa using ae
  have hold:∀i,i < h.length + 2->g'[i]? = (h ++ [qb.cells (wC W),.cells [.int .i64 0,.int .i64 0,.str [],.lst [] .full]])[i]?:=λi hi=>hold i (by simpa using hi)
  obtain ⟨OL,m,a6,I⟩:=qAM (h:=g') W hR.oe hR.ol
  obtain ⟨Od,Os,Ow,Ol⟩:=I.facts
  have Oc:OL.cells = [OL]:=by obtain ⟨_,_,_,⟨_,rfl⟩ | ⟨_,_,rfl,_⟩⟩:=I <;> rfl
  have av:Tb.dim = Tb/\Tb.storable = true/\(∀i t,qz Tb i t = t)/\Tb.cells = [Tb]:=by obtain ⟨_,_,rfl,_⟩:=J;exact ⟨rfl,rfl,λ_ _=>rfl,rfl⟩
  obtain ⟨td,ts,tw,tc⟩:=av
  have ap:∀G:List qb,Cov (λi=>G[i]?) G:=λG i x hx=>hx
  have tT:qen (λi=>(g' ++ m)[i]?) (wNs W) Tb:=by
   obtain ⟨ar,rs,e,t1,t2⟩:=J
   have hs:Sub (qcx (h ++ [qb.cells (wC W),.cells [.int .i64 0,.int .i64 0,.str [],.lst [] .full]]).length g') (λi=>(g' ++ m)[i]?):=λi x hx=>by
    show (g' ++ m)[i]? = some x
    by_cases hi:(h ++ [qb.cells (wC W),.cells [.int .i64 0,.int .i64 0,.str [],.lst [] .full]]).length <= i
    ·rw [qL hi] at hx
     rw [ja (jd.1 hx).1]
     exact hx
    ·rw [qav hi] at hx;cases hx
   exact ⟨ar,rs,e,hs _ _ t1,t2.mono hs⟩
  have tO:qd5 (λi=>(g' ++ m)[i]?) (wE W).oth OL:=I.mono λi x hx=>by
   show (g' ++ m)[i]? = some x
   by_cases hi:g'.length <= i
   ·rw [qL hi] at hx;exact hx
   ·rw [qav hi] at hx;cases hx
  obtain ⟨cs,m2,S,U⟩:=qxJ (wE W) hE (wNs W) hS hI hl (ap _) tO tT
  rw [af,a7.out] at S U
  have ay:=qhC hR hO (V0:=.undef) (V1:=.undef) (V4:=.undef) 20 W.e hR.r20 hO.x
  have am:(qQ W.N 20 W.e).2 = 0:=by
   have:=hR.ty
   rw [qfE,hR.r20,cond_true] at this
   exact this
  clear ay
  generalize hD:evD W 20 W.e = D at *
  have ad:D.2 = 0->qr 3 D.1 = true:=λh0=>(a7.val (by simp [h0])).2.1
  obtain ⟨v,z⟩:=D
  simp only at S U ad
  obtain ⟨vk,vn,vz,az,LL,rfl,rfl,ld,ls,lw,_⟩:=U.cells
  obtain ⟨V0,V1,V4,m3,a1,p0,p1,p4⟩:=qu4 (h:=g'.set (h.length + 1) (.cells [.int .i64 vk,.int .i64 vn,.str vz,LL]) ++ (m ++ (m2 ++ [qb.cells [.int .i64 0,.int .i64 0,.str [],.lst [] .full]]))) W hR.ve hR.oe hR.be hR.vl hR.ol hR.pl
  obtain ⟨d0,s0,w0,_,k0⟩:=p0.facts
  obtain ⟨d1,s1,w1,_,k1⟩:=p1.facts
  obtain ⟨d4,s4,w4,_,k4⟩:=p4.facts
  obtain ⟨aA,m4,O,E⟩:=qhC hR hO (V0:=V0) (V1:=V1) (V4:=V4) 20 W.e hR.r20 hO.x am _ ⟨p0.lt zo,p1.lt zo,p4.lt zo⟩
  rw [hD] at O E
  obtain ⟨uk,un,uz,ul,MM,ev,rfl,md,ms,mw,_⟩:=E.cells
  cases ev
  have b0:g'[h.length]? = some (.cells (wC W)):=by rw [hold _ zo,qY];rfl
  have b1:g'[h.length + 1]? = some (.cells [.int .i64 0,.int .i64 0,.str [],.lst [] .full]):=by rw [hold _ zo,qbb];rfl
  have l0:h.length < g'.length:=zo
  have l1:h.length + 1 < g'.length:=zo
  have ai:Nat.ble h.length (h.length + 1) = true:=qf zo
  have ah:Nat.ble h.length (g'.length + (m.length + m2.length)) = true:=qf zo
  obtain ⟨Q,hQ⟩ :∃Q,Q = g'.set (h.length + 1) (.cells [.int .i64 vk,.int .i64 vn,.str vz,LL]) ++ (m ++ (m2 ++ qb.cells [.int .i64 vk,.int .i64 vn,.str vz,MM] :: (m3 ++ m4))):=⟨_,rfl⟩
  have B:(z == 0) = true->Wd (.fn 13 [] []) [.agg [.int .i64 vk,.int .i64 vn,.str vz,LL],.agg [.int .i64 vk,.int .i64 vn,.str vz,MM]] Q = some (.ret (.bool true),Q,false):=λhz=>by
   refine qr4 3 (ad (by simpa using hz)) _ _ Q (H:=λi=>Q[i]?) (U.mono λi x hx=>?_) (E.mono λi x hx=>?_) (λi x hx=>hx)
   ·show Q[i]? = some x
    by_cases hi:(g' ++ m).length <= i
    ·rw [qL hi] at hx
     have hl:=(jd.1 hx).1
     simp at hi hl
     rw [jp,jc zo] at hx
     rw [hQ,jc (by simp;omega),Jc,<-jp,ja (by simp;omega)]
     exact hx
    ·rw [qav hi] at hx;cases hx
   ·show Q[i]? = some x
    by_cases hi:(g'.set (h.length + 1) (.cells [.int .i64 vk,.int .i64 vn,.str vz,LL]) ++ (m ++ (m2 ++ [qb.cells [.int .i64 0,.int .i64 0,.str [],.lst [] .full]])) ++ m3).length <= i
    ·rw [qL hi] at hx
     simp at hi
     have e:∀(c:qb) (X:List qb),(g'.set (h.length + 1) (.cells [.int .i64 vk,.int .i64 vn,.str vz,LL]) ++ (m ++ (m2 ++ c :: X)))[i]? = X[i - (g'.length + (m.length + (m2.length + 1)))]?:=λc X=>by
      rw [jc (by simp;omega),jc (by simp;omega),jc (by simp;omega)]
      obtain ⟨q,hq⟩ :∃q,i - (g'.set (h.length + 1) (.cells [.int .i64 vk,.int .i64 vn,.str vz,LL])).length - m.length - m2.length = q + 1:=⟨i - (g'.length + (m.length + (m2.length + 1))),by simp;omega⟩
      rw [hq,List.getElem?_cons_succ]
      congr 1
      simp at hq
      omega
     rw [hQ,e]
     simp only [jp,jy,j6] at hx
     rw [e] at hx
     exact hx
    ·rw [qav hi] at hx;cases hx
  rw [hQ] at B
  have gO:∀(X:List qb) i,i < g'.length->(g' ++ X)[i]? = g'[i]?:=λX i hi=>ja hi
  have aa:∀c,(g'.set (h.length + 1) c)[h.length]? = some (.cells (wC W)):=λc=>by rw [jf zo];exact b0
  have aj:∀c,(g'.set (h.length + 1) c)[h.length + 1]? = some c:=λc=>by rw [List.getElem?_set_self l1]
  have ak:∀(c:qb) (X:List qb) i,i < g'.length->(g'.set (h.length + 1) c ++ X)[i]? = (g'.set (h.length + 1) c)[i]?:=λc X i hi=>ja (by simpa using hi)
  have gq:∀(c x:qb) (X:List qb),(g'.set (h.length + 1) c ++ (m ++ (m2 ++ x :: X)))[g'.length + (m.length + m2.length)]? = some x:=λc x X=>by
   rw [jc (by simp),Jc,Nat.add_sub_cancel_left,jc zo,Nat.add_sub_cancel_left,jc zo,Nat.sub_self,List.getElem?_cons_zero]
  have sq:∀(c x:qb) (X:List qb) (y:qb),(g'.set (h.length + 1) c ++ (m ++ (m2 ++ x :: X))).set (g'.length + (m.length + m2.length)) y = g'.set (h.length + 1) c ++ (m ++ (m2 ++ y :: X)):=λc x X y=>by
   rw [List.set_append_right _ _ (by simp),Jc,Nat.add_sub_cancel_left,List.set_append_right _ _ zo,Nat.add_sub_cancel_left,List.set_append_right _ _ zo,Nat.sub_self,List.set_cons_zero]
  have lq:∀(c x:qb) (X:List qb),g'.length + (m.length + m2.length) < (g'.set (h.length + 1) c ++ (m ++ (m2 ++ x :: X))).length:=λc x X=>by simp
  clear U E p0 p1 p4 hS hI hE hR ac J tT tO I af a7
  obtain ⟨⟨op,n,nm,sb,aS⟩,N,al,ab,en,ed,au⟩:=W
  obtain ⟨bd,bs,bw,bl,bc⟩:=qbU ab
  rw [qeU] at b0
  simp only [qeU] at aa
  rw [wV,qeU] at M a8 a6 a1
  rw [qD,qjL] at O
  simp only [wE] at S
  simp only [jp,jy,j6] at a6 a1 O
  generalize hw:Wd _ _ h = w
  rw [wV,qeU] at hw
  rw [qm 3 c3] at hw
  cases hz:(z == 0) with
  | true=>
   have B:=B hz
   simp only [sA.1,c3,seval,qwO,bd,bs,bw,bc,M,a8,a6,td,ts,tw,tc,Od,Os,Ow,Oc,S,ld,ls,lw,b0,b1,l0,l1,ai,ah,gO,a1,d0,s0,w0,k0,d1,s1,w1,k1,d4,s4,w4,k4,O,md,ms,mw,hz,B,aa,aj,ak,gq,sq,lq,Jc,j5,qf4] at hw
   subst hw
   exact qfb _ _ _ _
  | false=>
   have zz:(z == z) = true:=by simp
   simp only [sA.1,c3,seval,qwO,bd,bs,bw,bc,M,a8,a6,td,ts,tw,tc,Od,Os,Ow,Oc,S,ld,ls,lw,b0,b1,l0,l1,ai,ah,gO,a1,d0,s0,w0,k0,d1,s1,w1,k1,d4,s4,w4,k4,O,md,ms,mw,hz,zz,aa,aj,ak,gq,sq,lq,Jc,j5,qf4] at hw
   subst hw
   exact qfb _ _ _ _
end
theorem qqx (W:Wl) (hO:OkW W):∃g e,Wd (.fn 3 [] []) [wV W] [] = some (.ret (.bool true),g,e):=qkg W hO
end Go.Proofs.YtnibchoenjmmjaaGreatDoor.AE
namespace Go.Proofs.YtnibchoenjmmjaaGreatDoor
theorem qB4 {z:Int} (h:(Lit.int .i64 z).wf = true):AE.I64 z:=by
 simpa [AE.I64,Lit.wf,IntKind.min,IntKind.max,IntKind.bits,IntKind.signed] using h
theorem qgi {n:Nat} {ws:List Go.AE.qa} (h:Go.AE.qdj Tryz.prog n 3 ws):∃z,ws = [.int .i64 z]/\AE.I64 z:=by
 cases n with
 | zero=>exact h.elim
 | succ n=>
  simp only [Go.AE.qdj,Tryz.underlying3] at h
  obtain ⟨z,rfl,hz⟩:=h
  exact ⟨z,rfl,qB4 hz⟩
theorem qbf {P:Program} {n:Nat} {t:TypeId} {ws:List Go.AE.qa} {fs:Array Field} (h:Go.AE.qdj P n t ws) (hu:P.underlying t = some (.struct fs)):∃m B,n = m + 1/\ws = List.flatten B/\Go.AE.qhs (Go.AE.qdj P m) (fs.toList.map (·.type)) B:=by
 cases n with
 | zero=>exact h.elim
 | succ n=>
  simp only [Go.AE.qdj,hu] at h
  obtain ⟨B,h1,h2⟩:=h
  exact ⟨n,B,rfl,h1,h2⟩
theorem qme {P:Program} {n:Nat} {t e:TypeId} {ws:List Go.AE.qa} (h:Go.AE.qdj P n t ws) (hu:P.underlying t = some (.slice e)):∃(m:Nat) (xs:List (List Go.AE.qa)),n = m + 1/\ws = [.lst (xs.map (Go.AE.el P e)) .no]/\∀x ∈ xs,Go.AE.qdj P m e x:=by
 cases n with
 | zero=>exact h.elim
 | succ n=>
  simp only [Go.AE.qdj,hu] at h
  obtain ⟨xs,h1,_,h3⟩:=h
  exact ⟨n,xs,rfl,h1,h3⟩
theorem qdF {P:Program} {n:Nat} {t:TypeId} {ws:List Go.AE.qa} (h:Go.AE.qdj P n t ws) (hu:P.underlying t = some .string):∃s,ws = [.str s]:=by
 cases n with
 | zero=>exact h.elim
 | succ n=>
  simp only [Go.AE.qdj,hu] at h
  exact ⟨_,h.choose_spec.1⟩
theorem qpw {P:Program} {n:Nat} {t:TypeId} {ws:List Go.AE.qa} (h:Go.AE.qdj P n t ws) (hu:P.underlying t = some .bool):∃b,ws = [.bool b]:=by
 cases n with
 | zero=>exact h.elim
 | succ n=>
  simp only [Go.AE.qdj,hu] at h
  exact h
theorem qg7 {P:Program} {e:TypeId} (h:Go.AE.qbQ P e = true) (x:List Go.AE.qa):Go.AE.el P e x = .agg x:=by
 unfold Go.AE.el
 rw [h]
 rfl
theorem qwa {α β γ:Type} {f:α->β} {g:γ->β} {Q:γ->Prop}:∀xs:List α,(∀x ∈ xs,∃y,f x = g y/\Q y)->∃ys:List γ,xs.map f = ys.map g/\∀y ∈ ys,Q y
 | [],_=>⟨[],rfl,λ_ h=>by cases h⟩
 | x :: xs,h=>by
  obtain ⟨y,h1,h2⟩:=h x List.mem_cons_self
  obtain ⟨ys,h3,h4⟩:=qwa xs λz hz=>h z (List.mem_cons_of_mem _ hz)
  refine ⟨y :: ys,by rw [List.map_cons,List.map_cons,h1,h3],λz hz=>?_⟩
  rcases List.mem_cons.1 hz with rfl | hz
  ·exact h2
  ·exact h4 z hz
theorem qed {n:Nat} {t e:TypeId} {ws:List Go.AE.qa} {γ:Type} {g:γ->Go.AE.qa} {Q:γ->Prop} (h:Go.AE.qdj Tryz.prog n t ws) (hu:Tryz.prog.underlying t = some (.slice e)) (hk:∀m,m < n->∀x,Go.AE.qdj Tryz.prog m e x->∃y,Go.AE.el Tryz.prog e x = g y/\Q y):∃ys:List γ,ws = [.lst (ys.map g) .no]/\∀y ∈ ys,Q y:=by
 obtain ⟨m,xs,rfl,rfl,hx⟩:=qme h hu
 obtain ⟨ys,h1,h2⟩:=qwa (f:=Go.AE.el Tryz.prog e) (g:=g) (Q:=Q) xs λx B=>hk m (by omega) x (hx x B)
 exact ⟨ys,by rw [h1],h2⟩
theorem qpp (n:Nat):∀ws:List Go.AE.qa,Go.AE.qdj Tryz.prog n 24 ws->∃e:AE.Exl,ws = e.enc/\∀d,AE.okX d e:=by
 induction n using Nat.strongRecOn with
 | ind n ih=>
  intro ws h
  obtain ⟨m,E,rfl,rfl,h1⟩:=qbf h Tryz.underlying24
  match E,h1 with
  | [p,q,r,r2,l],⟨h2,h3,h4,B,h5,_⟩=>
   obtain ⟨z1,rfl,_⟩:=qgi h2
   obtain ⟨z2,rfl,hz⟩:=qgi h3
   obtain ⟨s,rfl⟩:=qdF h4 Tryz.underlying9
   obtain ⟨s2,rfl⟩:=qdF B Tryz.underlying9
   obtain ⟨ys,rfl,hy⟩:=qed (g:=AE.exV) (Q:=λe=>∀d,AE.okX d e) h5 Tryz.underlying22 λk hk x hx=>by
    obtain ⟨e,rfl,h6⟩:=ih k (by omega) x hx
    exact ⟨e,qg7 (by kernel_rfl) _,h6⟩
   refine ⟨.mk z1 z2 s s2 ys,by rw [AE.qb3];rfl,λd=>?_⟩
   cases d with
   | zero=>exact trivial
   | succ d=>exact ⟨hz,λa ha=>hy a ha d⟩
theorem qji (n:Nat):∀ws:List Go.AE.qa,Go.AE.qdj Tryz.prog n 65 ws->∃t:AE.Tp,ws = t.enc:=by
 induction n using Nat.strongRecOn with
 | ind n ih=>
  intro ws h
  obtain ⟨m,B,rfl,rfl,h1⟩:=qbf h Tryz.underlying65
  match B,h1 with
  | [p,l],⟨h2,h5,_⟩=>
   obtain ⟨z1,rfl,_⟩:=qgi h2
   obtain ⟨ys,rfl,_⟩:=qed (g:=AE.tpV) (Q:=λ_=>True) h5 Tryz.underlying63 λk hk x hx=>by
    obtain ⟨e,rfl⟩:=ih k (by omega) x hx
    exact ⟨e,qg7 (by kernel_rfl) _,trivial⟩
   exact ⟨.mk z1 ys,by rw [AE.qah];rfl⟩
theorem qvG (n:Nat):∀ws:List Go.AE.qa,Go.AE.qdj Tryz.prog n 37 ws->∃v:AE.Val,ws = v.enc/\AE.okV v:=by
 induction n using Nat.strongRecOn with
 | ind n ih=>
  intro ws h
  obtain ⟨m,B,rfl,rfl,h1⟩:=qbf h Tryz.underlying37
  match B,h1 with
  | [p,q,r,l],⟨h2,h3,h4,h5,_⟩=>
   obtain ⟨z1,rfl,_⟩:=qgi h2
   obtain ⟨z2,rfl,hz⟩:=qgi h3
   obtain ⟨s,rfl⟩:=qdF h4 Tryz.underlying9
   obtain ⟨ys,rfl,hy⟩:=qed (g:=AE.qa6) (Q:=AE.okV) h5 Tryz.underlying29 λk hk x hx=>by
    obtain ⟨e,rfl,h6⟩:=ih k (by omega) x hx
    exact ⟨e,qg7 (by kernel_rfl) _,h6⟩
   exact ⟨.mk z1 z2 s ys,by rw [AE.qaU];rfl,by rw [AE.okV];exact ⟨hz,AE.qfS.2 hy⟩⟩
theorem qgQ {n:Nat} {ws:List Go.AE.qa} (h:Go.AE.qdj Tryz.prog n 29 ws):∃vs:List AE.Val,ws = [.lst (vs.map AE.qa6) .no]/\∀v ∈ vs,AE.okV v:=
 qed h Tryz.underlying29 λk _ x hx=>by
  obtain ⟨e,rfl,h6⟩:=qvG k x hx
  exact ⟨e,qg7 (by kernel_rfl) _,h6⟩
theorem qlq {n:Nat} {ws:List Go.AE.qa} (h:Go.AE.qdj Tryz.prog n 25 ws):∃vs:List (AE.Str×AE.Str×AE.Tp),ws = [.lst (vs.map AE.nvV) .no]/\∀v ∈ vs,True:=
 qed h Tryz.underlying25 λk _ x hx=>by
  obtain ⟨m,B,rfl,rfl,h1⟩:=qbf hx Tryz.underlying91
  match B,h1 with
  | [p,q,t],⟨h2,h3,h4,_⟩=>
   obtain ⟨s,rfl⟩:=qdF h2 Tryz.underlying9
   obtain ⟨s2,rfl⟩:=qdF h3 Tryz.underlying9
   obtain ⟨t,rfl⟩:=qji m _ h4
   refine ⟨(s,s2,t),?_,trivial⟩
   rw [qg7 (by kernel_rfl)]
   simp [AE.nvV]
theorem qns {n:Nat} {ws:List Go.AE.qa} (h:Go.AE.qdj Tryz.prog n 26 ws):∃vs:List (AE.Str×AE.Tp),ws = [.lst (vs.map AE.npV) .no]/\∀v ∈ vs,True:=
 qed h Tryz.underlying26 λk _ x hx=>by
  obtain ⟨m,B,rfl,rfl,h1⟩:=qbf hx Tryz.underlying77
  match B,h1 with
  | [p,t],⟨h2,h4,_⟩=>
   obtain ⟨s,rfl⟩:=qdF h2 Tryz.underlying9
   obtain ⟨t,rfl⟩:=qji m _ h4
   refine ⟨(s,t),?_,trivial⟩
   rw [qg7 (by kernel_rfl)]
   simp [AE.npV]
theorem qsY {n:Nat} {ws:List Go.AE.qa} (h:Go.AE.qdj Tryz.prog n 30 ws):∃b:List (List AE.Val),ws = [AE.qaV b]/\∀l ∈ b,∀v ∈ l,AE.okV v:=
 qed (g:=λl:List AE.Val=>.lst (l.map AE.qa6) .no) (Q:=λl=>∀v ∈ l,AE.okV v) h Tryz.underlying30 λk _ x hx=>by
  obtain ⟨vs,rfl,h6⟩:=qgQ hx
  refine ⟨vs,?_,h6⟩
  unfold Go.AE.el
  rw [show Go.AE.qbQ Tryz.prog 29 = false by kernel_rfl]
  rfl
theorem qn0 {n:Nat} {ws:List Go.AE.qa} (h:Go.AE.qdj Tryz.prog n 34 ws):∃W:AE.Wl,Go.AE.qa.agg ws = AE.wV W/\AE.OkW W:=by
 obtain ⟨m,O,rfl,rfl,h1⟩:=qbf h Tryz.underlying34
 match O,h1 with
 | [a,b,c,d,e,f],⟨ha,hb,hc,hd,he,hf,_⟩=>
  obtain ⟨x,rfl,hx⟩:=qpp m _ ha
  obtain ⟨vs,rfl,hv⟩:=qgQ hc
  obtain ⟨bg,rfl,M⟩:=qsY hd
  obtain ⟨os,rfl,ho⟩:=qgQ hf
  obtain ⟨m2,E,rfl,rfl,h2⟩:=qbf hb Tryz.underlying28
  obtain ⟨m3,B,_,rfl,h3⟩:=qbf he Tryz.underlying32
  match E,h2,B,h3 with
  | [p,q,r,s],⟨hp,hq,hr,hs,_⟩,[t,u],⟨ht,hu,_⟩=>
   obtain ⟨nv,rfl,_⟩:=qlq hp
   obtain ⟨np,rfl,_⟩:=qns hq
   obtain ⟨bq,rfl⟩:=qpw hr Tryz.underlying4
   obtain ⟨no,rfl,_⟩:=qlq hs
   obtain ⟨en,rfl,I⟩:=qgi ht
   obtain ⟨ed,rfl,J⟩:=qgi hu
   refine ⟨⟨x,⟨nv,np,bq,no⟩,vs,bg,en,ed,os⟩,?_,⟨hx 20,hv,M,ho,I,J⟩⟩
   rw [AE.wV,AE.wC,AE.qfR]
   simp
end Go.Proofs.YtnibchoenjmmjaaGreatDoor
