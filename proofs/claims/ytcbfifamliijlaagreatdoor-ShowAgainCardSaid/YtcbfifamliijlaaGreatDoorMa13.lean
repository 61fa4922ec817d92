/- A part of the proof. No condition. -/
import Derived.Test.YtcbfifamliijlaaGreatDoorMa12
import Derived.Test.YtcbfifamliijlaaGreatDoorMa11
import Derived.Test.YtcbfifamliijlaaGreatDoorMa2
open Int renaming reduceNatCast'→rN
set_option maxRecDepth 100000
set_option maxHeartbeats 0
open List renaming getElem?_append_left→ja,getElem?_set_ne→jf,length_append→ji,append_assoc→jp,append_nil→jF,map_append→jW,nil_append→jV,cons_append→jw,length_cons→jy,length_nil→jz
open Bool renaming and_eq_true→jk
namespace Go.Proofs.YtcbfifamliijlaaGreatDoor.AE
open Go.AE
structure qr where (name:Str) (coupled:Bool) (ins outs:List qM) (vars:List qak) (ta:List Exl) (emits:List qab) (int ext:List qak) (con:Int) (own:List qak) (parts:List qau) (links:List qaf) (rules:List qS)
def qr.cs (m:qr):List qd:=[.str m.name,.bool m.coupled,.lst (m.ins.map qM.enc) .no,.lst (m.outs.map qM.enc) .no,.lst (m.vars.map qak.enc) .no,.lst (m.ta.map exV) .no,.lst (m.emits.map qab.enc) .no,.lst (m.int.map qak.enc) .no,.lst (m.ext.map qak.enc) .no,.int .i64 m.con,.lst (m.own.map qak.enc) .no,.lst (m.parts.map qau.enc) .no,.lst (m.links.map qaf.enc) .no,.lst (m.rules.map qS.enc) .no]
def qr.enc (m:qr):qd:=.agg m.cs
def qhE (s:qak):Prop:=s.name.length <= 16/\qlZ s.e
def qhD (p:qM):Prop:=p.name.length <= 16/\tyB 3 p.t = true
def qni (x:qab):Prop:=x.port.length <= 16/\qlZ x.e/\x.ifs.length <= 1/\∀e ∈ x.ifs,qlZ e
def qnl (p:qau):Prop:=p.name.length <= 16/\p.model.length <= 16
def qnk (l:qaf):Prop:=l.frm.short/\l.to.short
def qnn (r:qS):Prop:=qlZ r.e/\r.acts.length <= 1000/\∀a ∈ r.acts,a.short
theorem qgp {k:Nat} {cs:List qd} (h:cs.length = k) (h2:cs.all qd.storable = true) (h3:cs.map qd.dim = cs):Shp k (.agg cs):=⟨cs,rfl,h,h2,h3⟩
theorem qyU (e:Exl):Shp 5 (exV e):=by cases e;rw [qac];exact qgp rfl rfl rfl
theorem qm9 (s:qak):Shp 6 s.enc:=by obtain ⟨_,e⟩:=s;cases e;exact qgp rfl rfl rfl
theorem qn9 (s:qM):Shp 3 s.enc:=by obtain ⟨_,e⟩:=s;cases e;rw [qM.enc,Tp.enc];exact qgp rfl rfl rfl
theorem qny (s:qab):Shp 7 s.enc:=by obtain ⟨_,e,_⟩:=s;cases e;exact qgp rfl rfl rfl
theorem qn7 (s:qau):Shp 2 s.enc:=qgp rfl rfl rfl
theorem qnV (s:qaf):Shp 4 s.enc:=qgp rfl rfl rfl
theorem qqS (s:qbi):Shp 7 s.enc:=qgp rfl rfl rfl
theorem qx2 (s:qS):Shp 6 s.enc:=by obtain ⟨e,_⟩:=s;cases e;exact qgp rfl rfl rfl
def Mid (h:List qj) (V:qd) (x:qj) (G:List qj) (W:qd) (L:List Str):Prop:=
 SL G L W/\h.length < G.length/\G[h.length]? = some x/\(∀i,i < h.length->qfi V ≠ some i->G[i]? = h[i]?)/\(W = V\/∀id,qfi W = some id->h.length < id)
section
variable {h G:List qj} {V W:qd} {x:qj} {L L':List Str}
theorem Mid.start (hS:SL h L V):Mid h V x (h ++ [x]) V L:=⟨hS.more _,by simp,by rw [qi4];rfl,λi hi _=>by rw [ja hi],.inl rfl⟩
theorem Mid.own (hm:Mid h V x G W L) (hV:∀id,qfi V = some id->id < h.length) {i:Nat} (hi:i <= h.length) (hn:qfi V ≠ some i):qfi W ≠ some i:=λe=>by
 rcases hm.2.2.2.2 with rfl | hW
 ·exact hn e
 ·have:=hW i e;omega
theorem Mid.step (hm:Mid h V x G W L) (hV:∀id,qfi V = some id->id < h.length) {r:Option (qdm×List qj×Bool)} (hr:Ln G W L' r):∃G' W',r = some (.ret W',G',false)/\Mid h V x G' W' L':=by
 obtain ⟨G',W',rfl,hS,hl,hk,E⟩:=hr
 have hn:qfi V ≠ some h.length:=λe=>by have:=hV _ e;omega
 refine ⟨G',W',rfl,hS,by have:=hm.2.1;omega,?_,λi hi I=>?_,?_⟩
 ·rw [hk _ hm.2.1 (hm.own hV (Nat.le_refl _) hn)];exact hm.2.2.1
 ·rw [hk i (by have:=hm.2.1;omega) (hm.own hV zo I)];exact hm.2.2.2.1 i hi I
 ·rcases E with rfl | E
  ·exact hm.2.2.2.2
  ·exact .inr λid hid=>by have:=E id hid;have:=hm.2.1;omega
theorem Mid.leave (hm:Mid h V x G W L):Ln h V L (some (Go.AE.leave h.length (.ret W) G false)):=
 Ln.leave hm.1 (Nat.le_of_lt hm.2.1) hm.2.2.2.1 (hm.2.2.2.2.imp id λhW id hid=>Nat.le_of_lt (hW id hid))
theorem qkF (hS:SL G L W) (hl:L.length <= 100000) (b:Nat) (u:Str):∃G' W',hop b (.lit 1 [.str []] 1 [0]) [.str u] G = some (.sl G.length 0 1 1 0,G ++ [.cells [.str u]],false)/\hop b (.app 1) [W,.sl G.length 0 1 1 0] (G ++ [.cells [.str u]]) = some (W',G',false)/\Ln G W (L ++ [u]) (some (.ret W',G',false)):=by
 obtain ⟨G',h1,h2,h3,h4⟩:=hS.app hl b u
 exact ⟨G',_,qFy b u G,h1,G',_,rfl,h2,zo,h4,.inr λid hid=>by cases hid;omega⟩
end
section
variable {h:List qj} {V:qd} {L:List Str} (hS:SL h L V) (hL:L.length <= 40000)
include hS hL
theorem quK {l:List qak} (hl:l.length <= 1000) (ho:∀s ∈ l,qhE s) (ah:Str) (ha:ah.length <= 100):Ln h V (L ++ l.map λs=>ah ++ s.txt) (Wd (.fn 118 [] []) [V,.str ah,.lst (l.map qak.enc) .no,.fn 119 [] []] h):=
 qfD (k:=6) (z:=[.str [],.int .i64 0,.int .i64 0,.str [],.str [],.lst [] .full]) rfl (show T.get 118 = _ by kernel_rfl) rfl rfl (λs _=>qm9 s) hl (λs hs h=>quH (ho s hs).1 (ho s hs).2) (λs hs=>by have:=qda (ho s hs).2;have:=(ho s hs).1;unfold qak.txt qk;simp;omega) zo hS
theorem qyp {l:List Exl} (hl:l.length <= 1000) (ho:∀s ∈ l,qlZ s) (ah:Str) (ha:ah.length <= 100):Ln h V (L ++ l.map λs=>ah ++ taT s) (Wd (.fn 120 [] []) [V,.str ah,.lst (l.map exV) .no,.fn 121 [] []] h):=
 qfD (k:=5) (z:=[.int .i64 0,.int .i64 0,.str [],.str [],.lst [] .full]) rfl (show T.get 120 = _ by kernel_rfl) rfl rfl (λs _=>qyU s) hl (λs hs h=>qEL (ho s hs)) (λs hs=>by have:=qda (ho s hs);unfold taT qk;simp;omega) zo hS
theorem qo3 {l:List qab} (hl:l.length <= 1000) (ho:∀s ∈ l,qni s) (ah:Str) (ha:ah.length <= 100):Ln h V (L ++ l.map λs=>ah ++ s.txt) (Wd (.fn 122 [] []) [V,.str ah,.lst (l.map qab.enc) .no,.fn 123 [] []] h):=
 qfD (k:=7) (z:=[.str [],.int .i64 0,.int .i64 0,.str [],.str [],.lst [] .full,.lst [] .full]) rfl (show T.get 122 = _ by kernel_rfl) rfl rfl (λs _=>qny s) hl (λs hs h=>qwp (ho s hs).1 (ho s hs).2.1 (Nat.le_trans (ho s hs).2.2.1 zo) (ho s hs).2.2.2 h) (λs hs=>by have:=qda (ho s hs).2.1;have:=(ho s hs).1;have:=qht (ho s hs).2.2.2;have:=(ho s hs).2.2.1;unfold qab.txt qk;simp;omega) zo hS
theorem qp6 {l:List qau} (hl:l.length <= 1000) (ho:∀s ∈ l,qnl s) (ah:Str) (ha:ah.length <= 100):Ln h V (L ++ l.map λs=>ah ++ s.txt) (Wd (.fn 112 [] []) [V,.str ah,.lst (l.map qau.enc) .no,.fn 113 [] []] h):=
 qfD (k:=2) (z:=[.str [],.str []]) rfl (show T.get 112 = _ by kernel_rfl) rfl rfl (λs _=>qn7 s) hl (λs hs h=>qxy (ho s hs).1 (ho s hs).2) (λs hs=>by have:=(ho s hs).1;have:=(ho s hs).2;unfold qau.txt qk;simp;omega) zo hS
theorem qpN {l:List qaf} (hl:l.length <= 1000) (ho:∀s ∈ l,qnk s) (ah:Str) (ha:ah.length <= 100):Ln h V (L ++ l.map λs=>ah ++ s.txt) (Wd (.fn 114 [] []) [V,.str ah,.lst (l.map qaf.enc) .no,.fn 115 [] []] h):=
 qfD (k:=4) (z:=[.str [],.str [],.str [],.str []]) rfl (show T.get 114 = _ by kernel_rfl) rfl rfl (λs _=>qnV s) hl (λs hs h=>qnU (ho s hs).1 (ho s hs).2) (λs hs=>by have:=qaf.len (ho s hs).1 (ho s hs).2;unfold qk;omega) zo hS
theorem qjo {l:List qM} (hl:l.length <= 1000) (ho:∀s ∈ l,qhD s) (ah:Str) (ha:ah.length <= 100):Ln h V (L ++ l.map λs=>ah ++ s.txt) (Wd (.fn 71 [] []) [V,.str ah,.lst (l.map qM.enc) .no,.fn 72 [] []] h):=
 qfD (k:=3) (z:=[.str [],.int .i64 0,.lst [] .full]) rfl (show T.get 71 = _ by kernel_rfl) rfl rfl (λs _=>qn9 s) hl (λs hs h=>qxI (ho s hs).1 (ho s hs).2) (λs hs=>by have:=(qys 3 zo s.t (ho s hs).2).2;have:=(ho s hs).1;unfold qM.txt qk;simp;omega) zo hS
theorem qgQ {l:List qak} (hl:l.length <= 1000) (ho:∀s ∈ l,qhE s) (ah hd:Str) (ha:ah.length <= 100) (hh:hd.length <= 100):Ln h V (L ++ qb1 ah hd (l.map qak.txt)) (Wd (.fn 124 [] []) [V,.str ah,.str hd,.lst (l.map qak.enc) .no,.fn 119 [] []] h):=
 qnq (k:=6) (z:=[.str [],.int .i64 0,.int .i64 0,.str [],.str [],.lst [] .full]) (F:=118) rfl (show T.get 124 = _ by kernel_rfl) rfl (show T.get 118 = _ by kernel_rfl) rfl rfl (λs _=>qm9 s) hl (λs hs h=>quH (ho s hs).1 (ho s hs).2) (λs hs=>by have:=qda (ho s hs).2;have:=(ho s hs).1;unfold qak.txt;simp;omega) zo hL hS
theorem qoz {l:List qbi} (hl:l.length <= 1000) (ho:∀s ∈ l,s.short) (ah hd:Str) (ha:ah.length <= 100) (hh:hd.length <= 600000):Ln h V (L ++ qb1 ah hd (l.map qbi.txt)) (Wd (.fn 116 [] []) [V,.str ah,.str hd,.lst (l.map qbi.enc) .no,.fn 117 [] []] h):=
 qnq (k:=7) (z:=[.int .i64 0,.str [],.str [],.str [],.str [],.str [],.str []]) (F:=154) rfl (show T.get 116 = _ by kernel_rfl) rfl (show T.get 154 = _ by kernel_rfl) rfl rfl (λs _=>qqS s) hl (λs hs h=>qzA (ho s hs)) (λs hs=>by
  obtain ⟨h1,h2,h3⟩:=ho s hs
  unfold qbi.txt
  cases c0:s.kind == 0 with
  | true=>simp;omega
  | false=>
   cases c1:s.kind == 1 with
   | true=>simp;omega
   | false=>
    have h4:=h3 (beq_eq_false_iff_ne.1 c0) (beq_eq_false_iff_ne.1 c1)
    have:=qaf.len h4.1 h4.2
    cases s.kind == 2 <;> simp <;> omega) zo hL hS
end
abbrev PY (ws:List Tok) (F:FuncId) (n:Nat) (v:qd) (m:Nat):Prop:=∀(h:List qj) (i:Nat),h[i]? = some (PB ws n)->Wd (.fn F [] []) [.ptr i 0] h = some (.ret v,h.set i (PB ws m),false)
def Rd (ws:List Tok) (F:FuncId) (v:qd) (ks:List PT):Prop:=∀n r,See ws n (ks ++ r)->n + ks.length < ws.length/\PY ws F n v (n + ks.length)
section
variable {ws:List Tok} {n:Nat} {r:List PT}
theorem qef (hw:WF ws) {s:Str} (g:qI s = true) (hs:See ws n (nm0 s :: r)):PY ws 48 n (.str s) (n + 1)/\See ws (n + 1) r/\n + 1 < ws.length:=by
 obtain ⟨hn,h1,h2,_⟩:=hs.head
 have a:qU ws n = true:=by rw [hs.named];exact g
 refine ⟨λh i hi=>?_,hs.tail,qL hw hn a⟩
 have:=qbE hw hn hi a
 rwa [h2] at this
theorem qwX {t:PT} (hs:See ws n (t :: r)) (s:Str) (g:tW t s = true):isW ws n s = true:=by rw [hs.is];exact g
theorem qGs {t:PT} (hs:See ws n (t :: r)) (s:Str) (g:tW t s = false):isW ws n s = false:=by rw [hs.is];exact g
theorem qaL (hw:WF ws) {t:PT} (s:Str) (g:tW t s = true) (hs:See ws n (t :: r)):(∀(h:List qj) (i:Nat),h[i]? = some (PB ws n)->Wd (.fn 47 [] []) [.ptr i 0,.str s] h = some (.ret (.tup []),h.set i (PB ws (n + 1)),false))/\See ws (n + 1) r/\n + 1 < ws.length:=
 ⟨λh i hi=>qE hw hs.head.1 hi (qwX hs s g),hs.tail,ql hw hs.head.1 (qwX hs s g)⟩
theorem qc4 (hw:WF ws) {t:PT} (s:Str) (g:tW t s = true) (hs:See ws n (t :: r)):(∀(h:List qj) (i:Nat),h[i]? = some (PB ws n)->Wd (.fn 95 [] []) [.ptr i 0,.str s] h = some (.ret (.bool true),h.set i (PB ws (n + 1)),false))/\See ws (n + 1) r/\n + 1 < ws.length:=
 ⟨λh i hi=>qo hw hs.head.1 hi (qwX hs s g),hs.tail,ql hw hs.head.1 (qwX hs s g)⟩
theorem qaQ (hw:WF ws) {t:PT} (s:Str) (g:tW t s = false) (hs:See ws n (t :: r)):∀(h:List qj) (i:Nat),h[i]? = some (PB ws n)->Wd (.fn 95 [] []) [.ptr i 0,.str s] h = some (.ret (.bool false),h.set i (PB ws n),false):=
 λh i hi=>by rw [qaG hi];exact qu hw hs.head.1 hi (qGs hs s g)
theorem qi2 (hw:WF ws) {e:Exl} (g:right 20 e = true) {t:PT} (ht:qiv t 0 = true) (hs:See ws n (tk 20 e ++ t :: r)):PY ws 65 n (Nd.enc ⟨e.cv,(word ws n).pos⟩) (n + (tk 20 e).length)/\See ws (n + (tk 20 e).length) (t :: r)/\n + (tk 20 e).length < ws.length:=by
 have s2:=hs.app.2
 have hl:=s2.head.1
 have hx:=(qq1 hw 20 e zo g).2 0 zo n hs.app.1 hl (s2.stp ht) _ rfl
 exact ⟨hx.2.2.2,s2,hl⟩
theorem qcY {z:List qd} (op k:Int) (nm sb:Str) (args:List Exp) (b:Bool) (hz:z.length = 5):qfI 5 z 1 [(0,.agg [.int .i64 op,.int .i64 k,.str nm,.str sb,.lst (qcF φP args) (fl b)])] = some (.lst [.agg [.int .i64 op,.int .i64 k,.str nm,.str sb,.lst (qcF φP args) (fl b)]] .full):=qdB hz zo rfl (by simp [qd.storable]) zo
def qau.k (x:qau):List PT:=[nm0 x.name,mk3 [61],nm0 x.model,mk3 [59]]
def qdv.k (x:qdv):List PT:=bif x.part.isEmpty then [nm0 x.port] else [nm0 x.part,mk3 [46],nm0 x.port]
def qdv.good (x:qdv):Prop:=(x.part = []\/qI x.part = true)/\qI x.port = true
def qaf.k (x:qaf):List PT:=x.frm.k ++ (mk3 [45,62] :: (x.to.k ++ [mk3 [59]]))
def qaf.good (x:qaf):Prop:=x.frm.good/\x.to.good
def qak.k (x:qak):List PT:=nm0 x.name :: mk3 [61] :: (tk 20 x.e ++ [mk3 [59]])
def qak.pe (x:qak):qd:=.agg (.str x.name :: x.e.cv.cs φP)
def qab.k (x:qab):List PT:=nm0 x.port :: (tk 20 x.e ++ ((x.ifs.map λe=>nm0 [105,102] :: tk 20 e).flatten ++ [mk3 [59]]))
def qab.pe (x:qab):qd:=.agg (.str x.port :: (x.e.cv.cs φP ++ [.lst (x.ifs.map λe=>e.cv.enc φP) .full]))
theorem qzg (hw:WF ws) {x:qau} (g1:qI x.name = true) (g2:qI x.model = true):Rd ws 137 x.enc x.k:=by
 intro n r hs
 simp only [qau.k,jw,jV] at hs
 obtain ⟨k0,s0,h0⟩:=qef hw g1 hs
 obtain ⟨k1,s1,h1⟩:=qaL hw [61] rfl s0
 obtain ⟨k2,s2,h2⟩:=qef hw g2 s1
 obtain ⟨k3,s3,h3⟩:=qaL hw [59] rfl s2
 rw [show n + (x.k).length = n + 1 + 1 + 1 + 1 by simp [qau.k];try omega]
 refine ⟨by assumption,λh i hi=>?_⟩
 have E:=qf hi
 rw [qm 137 qzV]
 simp only [qzV,sT.1,sC.1,qg,seval,-rN,qau.enc, *]
theorem qC3 (hw:WF ws) {x:qdv} (g:x.good) {t:PT} (ht:tW t [46] = false) (hs:See ws n (x.k ++ t :: r)):PY ws 170 n x.enc (n + x.k.length)/\See ws (n + x.k.length) (t :: r)/\n + x.k.length < ws.length:=by
 have s9:=hs.app.2
 refine ⟨λh i hi=>?_,s9,s9.head.1⟩
 have E:=qf hi
 obtain ⟨a,b⟩:=x
 obtain ⟨g1,g2⟩:=g
 rw [qm 170 qvS]
 cases a with
 | nil=>
  simp only [qdv.k,List.isEmpty_nil,cond_true,jw,jV,jy,jz] at hs ⊢
  obtain ⟨k0,s0,h0⟩:=qef hw g2 hs
  have k1:=qaQ hw [46] ht s0
  simp only [qvS,sT.1,sC.1,qg,seval,-rN,qz,qdv.enc, *]
 | cons c a=>
  have g3:=g1.resolve_left (by simp)
  simp only [qdv.k,List.isEmpty_cons,cond_false,jw,jV,jy,jz] at hs ⊢
  obtain ⟨k0,s0,h0⟩:=qef hw g3 hs
  obtain ⟨k1,s1,h1⟩:=qc4 hw [46] rfl s0
  obtain ⟨k2,s2,h2⟩:=qef hw g2 s1
  simp only [qvS,sT.1,sC.1,qg,seval,-rN,qz,qdv.enc, *]
theorem qtk (hw:WF ws) {x:qaf} (g:x.good):Rd ws 139 x.enc x.k:=by
 intro n r hs
 simp only [qaf.k,jw,jV,jp] at hs
 obtain ⟨k0,s0,h0⟩:=qC3 hw g.1 rfl hs
 obtain ⟨k1,s1,h1⟩:=qaL hw [45,62] rfl s0
 obtain ⟨k2,s2,h2⟩:=qC3 hw g.2 rfl s1
 obtain ⟨k3,s3,h3⟩:=qaL hw [59] rfl s2
 rw [show n + x.k.length = n + x.frm.k.length + 1 + x.to.k.length + 1 by simp [qaf.k];omega]
 refine ⟨by assumption,λh i hi=>?_⟩
 have E:=qf hi
 rw [qm 139 qzW]
 simp only [qzW,sT.1,sC.1,qg,seval,-rN,qdv.enc,qaf.enc, *]
theorem qEI (hw:WF ws) {x:qak} (g1:qI x.name = true) (g2:right 20 x.e = true):Rd ws 143 x.pe x.k:=by
 intro n r hs
 simp only [qak.k,jw,jV,jp] at hs
 obtain ⟨k0,s0,h0⟩:=qef hw g1 hs
 obtain ⟨k1,s1,h1⟩:=qaL hw [61] rfl s0
 obtain ⟨k2,s2,h2⟩:=qi2 hw g2 rfl s1
 obtain ⟨k3,s3,h3⟩:=qaL hw [59] rfl s2
 rw [show n + x.k.length = n + 1 + 1 + (tk 20 x.e).length + 1 by simp [qak.k];omega]
 refine ⟨by assumption,λh i hi=>?_⟩
 have E:=qf hi
 rw [qm 143 qyL]
 rw [qak.pe]
 generalize x.e.cv = y at *
 obtain ⟨o,c,u,v,z⟩:=y
 simp only [qyL,sT.1,sC.1,qg,seval,-rN,Nd.enc,Nd.cs,Exp.cs,qal,qY, *]
theorem qCY (hw:WF ws) {x:qab} (g1:qI x.port = true) (g2:right 20 x.e = true) (g3:x.ifs.length <= 1) (g4:∀e ∈ x.ifs,right 20 e = true):Rd ws 145 x.pe x.k:=by
 intro n r hs
 obtain ⟨p,e,l⟩:=x
 simp only [qab.k,jw,jV,jp] at hs g1 g2 g3 g4
 obtain ⟨k0,s0,h0⟩:=qef hw g1 hs
 match l,g3,g4,s0 with
 | [],_,_,s0=>
  simp only [List.map_nil,List.flatten_nil,jV] at s0
  obtain ⟨k1,s1,h1⟩:=qi2 hw g2 rfl s0
  have k2:=qaQ hw [105,102] rfl s1
  obtain ⟨k3,s3,h3⟩:=qaL hw [59] rfl s1
  rw [show n + (qab.k ⟨p,e,[]⟩).length = n + 1 + (tk 20 e).length + 1 by simp [qab.k];omega]
  refine ⟨by assumption,λh i hi=>?_⟩
  have E:=qf hi
  rw [qm 145 qoP]
  rw [qab.pe]
  simp only
  generalize e.cv = y at *
  obtain ⟨o,c,u,v,z⟩:=y
  simp only [qoP,sT.1,sC.1,qg,seval,-rN,Nd.enc,Nd.cs,Exp.enc,Exp.cs,qal,qY, *]
 | [f],_,g4,s0=>
  have g5:=g4 f (by simp)
  simp only [List.map_cons,List.map_nil,List.flatten_cons,List.flatten_nil,jF,jw] at s0
  obtain ⟨k1,s1,h1⟩:=qi2 hw g2 rfl s0
  obtain ⟨k2,s2,h2⟩:=qc4 hw [105,102] rfl s1
  obtain ⟨k3,s3,h3⟩:=qi2 hw g5 rfl s2
  obtain ⟨k4,s4,h4⟩:=qaL hw [59] rfl s3
  rw [show n + (qab.k ⟨p,e,[f]⟩).length = n + 1 + (tk 20 e).length + 1 + (tk 20 f).length + 1 by simp [qab.k];omega]
  refine ⟨by assumption,λh i hi=>?_⟩
  have E:=qf hi
  rw [qm 145 qoP]
  rw [qab.pe]
  simp only [List.map_cons,List.map_nil]
  generalize e.cv = y at *
  generalize f.cv = y2 at *
  obtain ⟨o,c,u,v,z⟩:=y
  obtain ⟨o2,c2,u2,v2,z2⟩:=y2
  simp only [qoP,sT.1,sC.1,qg,seval,-rN,Nd.enc,Nd.cs,Exp.enc,Exp.cs,qal,qY,qcY, *]
end
def qhF (k:Nat) (v:qd):Prop:=∃cs,v = .agg cs/\cs.length = k/\cs.all qd.storable = true/\(∀n,qw n cs = true)/\cs.map qd.dim = cs
def qbC (k:Nat) (z:List qd):qF:=
 (.seq (.seq (.reg [ao 10 (.mov (.t 2)),ao 11 (.call (.t 10) [])]) (.cond (.t 11) (.skip) (.exit 0)))
 (.block 1 (.seq (.seq (.reg [ao 12 (.mov (.t 9)),ao 13 (.len false (.t 12)),ao 14 (.mov (.t 1)),ao 15 (.bin .eql (.t 13) (.t 14))])
 (.cond (.t 15) (.reg [ao 16 (.mov (.t 0)),ao 17 (.mov (.t 0)),ao 18 (.call (.c (.fn 90 [] [])) [(.t 17)]),ao 19 (.call (.c (.fn 89 [] [])) [(.t 16),(.t 18),(.c (.int .i64 8))])]) (.skip)))
 (.reg [ao 20 (.mov (.t 9)),ao 21 (.mov (.t 3)),ao 22 (.call (.t 21) []),ao 23 (.list k z 1 [(0,(.t 22))]),ao 24 (.app k (.t 20) (.t 23)),ao 9 (.asg (.t 24))]))))
def qlk (k:Nat) (z:List qd):qt:=⟨26,[.tmp 8],(.seq (.reg [ao 8 (.asg (.c (.lst [] .full)))]) (.seq (.reg [ao 9 (.asg (.c (.lst [] .full)))]) (.seq (.block 0 (.loop (qbC k z))) (.seq (.reg [ao 25 (.mov (.t 9)),ao 8 (.asg (.t 25))]) (.ret)))))⟩
def ofl (k:Nat) (vs:List qd):qgV:=bif vs.isEmpty then .full else .own k
theorem qmo (k:Nat) (vs xs:List qd):(qd.lst xs (ofl k vs)).dim = .lst xs (fl vs.isEmpty):=by cases vs <;> rfl
theorem qFU {k:Nat} {vs:List qd} {v:qd} (hv:qhF k v) (hs:∀u ∈ vs,qhF k u) (hl:vs.length <= 1000):qdx k vs [v] = true:=by
 obtain ⟨cs,rfl,h1,h2,_⟩:=hv
 simp only [qdx,jk,decide_eq_true_eq]
 refine ⟨⟨?_,?_⟩,?_⟩
 ·simp only [jy,jz,qk]
  omega
 ·simp [qd.cells,h1]
  simpa using h2
 ·cases vs with
  | nil=>rfl
  | cons u us=>
   obtain ⟨ds,rfl,h3,_⟩:=hs u (by simp)
   simp [qd.cells,h3]
theorem set_set {h:List qj} {i:Nat} {a b:qj}:(h.set i a).set i b = h.set i b:=by simp
theorem qCs {ws:List Tok} {h:List qj} {i n m:Nat} (hi:h[i]? = some (PB ws n)):(h.set i (PB ws m))[i]? = some (PB ws m):=List.getElem?_set_self (qf hi)
inductive Ch (One:Nat->qd->Nat->Prop):Nat->List qd->Nat->Prop
 | nil (n:Nat):Ch One n [] n
 | cons {n m k:Nat} {v:qd} {us:List qd}:One n v m->Ch One m us k->Ch One n (v :: us) k
section
variable {ι:Type} {ws:List Tok} {i:ι->Nat} {k most:Nat} {z:List qd} {fb oa F:FuncId} {fa fc ob oc:ι->List qd} {beg:Nat->Bool} {J:ι->List qj->Prop}
def qqN (ws:List Tok) (i:ι->Nat) (k:Nat) (ov:ι->qd) (J:ι->List qj->Prop) (beg:Nat->Bool) (n:Nat) (v:qd) (m:Nat):Prop:=
 n < ws.length/\beg n = true/\qhF k v/\∀c h,J c h->h[i c]? = some (PB ws n)->Wd (ov c) [] h = some (.ret v,h.set (i c) (PB ws m),false)
theorem qlm (hm:most <= 1000) (hz:z.length = k) (I:k ≠ 1) (hk:k <= 1000)
  (hB:∀m c h,m < ws.length->J c h->h[i c]? = some (PB ws m)->Wd (.fn fb (fa c) (fc c)) [] h = some (.ret (.bool (beg m)),h,false)) {n m':Nat} {v:qd} (h1:qqN ws i k (λc=>.fn oa (ob c) (oc c)) J beg n v m') (vs:List qd) (hl:vs.length < most) (hs:∀v ∈ vs,qhF k v) (c:ι) (b:Nat) (h:List qj) (tt:List qd) (hj:J c h) (hi:h[i c]? = some (PB ws n)) (ht:tt.length = 26) (e0:lkp tt 0 = .ptr (i c) 0) (e1:lkp tt 1 = .int .i64 (most:Nat)) (e2:lkp tt 2 = .fn fb (fa c) (fc c)) (e3:lkp tt 3 = .fn oa (ob c) (oc c)) (e9:lkp tt 9 = .lst vs (ofl k vs)) :
  ∃E,qv b Wd (qbC k z) ⟨tt,h,false⟩ = some (.nor,⟨E,h.set (i c) (PB ws m'),false⟩)/\E.length = 26/\lkp E 0 = .ptr (i c) 0/\lkp E 1 = .int .i64 (most:Nat)/\lkp E 2 = .fn fb (fa c) (fc c)/\lkp E 3 = .fn oa (ob c) (oc c)/\lkp E 9 = .lst (vs ++ [v]) (ofl k (vs ++ [v])):=by
 obtain ⟨hn,hb,g4,g5⟩:=h1
 have c1:((vs.length:Int) == (most:Int)) = false:=by simp;omega
 have q:=hB n c h hn hj hi
 have r:=g5 c h hj hi
 rw [hb] at q
 have a1:=qFU g4 hs zo
 obtain ⟨cs,rfl,s1,s2,s3,_⟩:=g4
 have l1:qfI k z 1 [(0,.agg cs)] = some (.lst [.agg cs] .full):=qdB hz I s1 s2 hk
 cases vs with
 | nil=>
  simp only [ofl,List.isEmpty_nil,cond_true] at e9
  simp only [jz] at c1
  generalize he:qv b Wd (qbC k z) _ = R
  simp only [qbC,sT.1,sC.1,sTA.1,sCA.1,qg,qd4,qd5,Src.isTmp,qbW,Src.hangs,qB.isT,qeP,bne,seval,-rN,ht,e0,e1,e2,e3,e9,q,c1,r,l1,a1] at he
  subst he
  refine ⟨_,rfl,Y1,?_,?_,?_,?_,?_⟩ <;> simp only [sT.1,sC.1,seval,-rN,ht,e0,e1,e2,e3] <;> rfl
 | cons u us=>
  simp only [ofl,List.isEmpty_cons,cond_false] at e9
  simp only [jy] at c1
  generalize he:qv b Wd (qbC k z) _ = R
  simp only [qbC,sT.1,sC.1,sTA.1,sCA.1,qg,qd4,qd5,Src.isTmp,qbW,Src.hangs,qB.isT,qeP,bne,seval,-rN,ht,e0,e1,e2,e3,e9,q,c1,r,l1,a1] at he
  subst he
  refine ⟨_,rfl,Y1,?_,?_,?_,?_,?_⟩ <;> simp only [sT.1,sC.1,seval,-rN,ht,e0,e1,e2,e3] <;> rfl
theorem qtx (hm:most <= 1000) (hz:z.length = k) (a6:k ≠ 1) (hk:k <= 1000) (hJ:∀c h m,J c h->J c (h.set (i c) (PB ws m)))
  (hB:∀m c h,m < ws.length->J c h->h[i c]? = some (PB ws m)->Wd (.fn fb (fa c) (fc c)) [] h = some (.ret (.bool (beg m)),h,false)) {n m:Nat} {us:List qd} (hc:Ch (qqN ws i k (λc=>.fn oa (ob c) (oc c)) J beg) n us m) (I:m < ws.length) (Y:beg m = false) :
  ∀vs,(vs ++ us).length <= most->(∀v ∈ vs,qhF k v)->∀c b h tt,J c h->h[i c]? = some (PB ws n)->tt.length = 26->lkp tt 0 = .ptr (i c) 0->lkp tt 1 = .int .i64 (most:Nat)->lkp tt 2 = .fn fb (fa c) (fc c)->lkp tt 3 = .fn oa (ob c) (oc c)->lkp tt 9 = .lst vs (ofl k vs)->
    ∃E,qv b Wd (.loop (qbC k z)) ⟨tt,h,false⟩ = some (.exit 0,⟨E,h.set (i c) (PB ws m),false⟩)/\E.length = 26/\lkp E 9 = .lst (vs ++ us) (ofl k (vs ++ us)):=by
 induction hc with
 | nil n=>
  intro vs hl hs c b h tt hj hi ht e0 e1 e2 e3 e9
  have q:=hB n c h I hj hi
  have a1:=qaG hi
  rw [Y] at q
  generalize he:qv b Wd _ _ = R
  rw [qn] at he
  simp only [qbC,sT.1,sC.1,qg,seval,-rN,ht,e2,q] at he
  subst he
  rw [a1]
  exact ⟨_,rfl,Y1,by simp only [sT.1,sC.1,seval,-rN,e9]⟩
 | @cons n m' m v us h1 _ ih=>
  intro vs hl hs c b h tt hj hi ht e0 e1 e2 e3 e9
  obtain ⟨E,x1,x2,x3,x4,x5,x6,x7⟩:=qlm hm hz a6 hk hB h1 vs (by simp at hl;omega) hs c b h tt hj hi ht e0 e1 e2 e3 e9
  have g4:=h1.2.2.1
  obtain ⟨tu,y1,y2,y3⟩:=ih I Y (vs ++ [v]) (by simpa using hl) (by
   intro u hu
   rcases List.mem_append.1 hu with hu | hu
   ·exact hs u hu
   ·simp only [List.mem_singleton] at hu;subst hu;exact g4) c b _ E (hJ c h m' hj) (qCs hi) x2 x3 x4 x5 x6 x7
  refine ⟨tu,?_,y2,by simpa using y3⟩
  rw [qn,x1]
  rw [qiy]
  rw [y1,set_set]
end
theorem qlI (n:Nat) (f:FuncId) (a c args:List qd) (h:List qj):run T.get X n (.fn f a c) args h = run T.get X n (.fn f [] []) (a ++ args ++ c) h:=by
 cases n with
 | zero=>rfl
 | succ n=>simp only [run,jV,jF]
theorem qbP (f:FuncId) (a c args:List qd) (h:List qj):Wd (.fn f a c) args h = Wd (.fn f [] []) (a ++ args ++ c) h:=by
 apply Option.ext
 intro x
 rw [Wd,qox qeq,qox qeq]
 constructor <;> rintro ⟨n,hn⟩ <;> exact ⟨n,by first | rw [<-qlI];exact hn | rw [qlI];exact hn⟩
theorem qbw {k:Nat} {vs:List qd} (h:∀v ∈ vs,qhF k v) (n:Nat):qw n vs = true:=by
 induction vs with
 | nil=>rfl
 | cons v vs ih=>
  obtain ⟨cs,rfl,_,_,h1,_⟩:=h v (by simp)
  simp only [qw,qd.lower,h1 n,ih λu hu=>h u (by simp [hu]),Bool.and_self]
theorem qrl {One:Nat->qd->Nat->Prop} {k n m:Nat} {us:List qd} (h:Ch One n us m) (g:∀n v m,One n v m->qhF k v):∀v ∈ us,qhF k v:=by
 induction h with
 | nil n=>intro v hv;cases hv
 | cons a _ ih=>intro u hu;rcases List.mem_cons.1 hu with rfl | hu <;> first | exact g _ _ _ a | exact ih u hu
section
variable {ι:Type} {ws:List Tok} {i:ι->Nat} {k most:Nat} {z:List qd} {fb oa F:FuncId} {fa fc ob oc:ι->List qd} {beg:Nat->Bool} {J:ι->List qj->Prop}
theorem qln (hX:X F = none) (hF:T.get F = some (qlk k z)) (hm:most <= 1000) (hz:z.length = k) (a1:k ≠ 1) (hk:k <= 1000) (hJ:∀c h m,J c h->J c (h.set (i c) (PB ws m)))
  (hB:∀m c h,m < ws.length->J c h->h[i c]? = some (PB ws m)->Wd (.fn fb (fa c) (fc c)) [] h = some (.ret (.bool (beg m)),h,false)) {n m:Nat} {us:List qd} (hc:Ch (qqN ws i k (λc=>.fn oa (ob c) (oc c)) J beg) n us m) (Y:m < ws.length) (a6:beg m = false) (hl:us.length <= most) :
  ∀c h,J c h->h[i c]? = some (PB ws n)->Wd (.fn F [] []) [.ptr (i c) 0,.int .i64 (most:Nat),.fn fb (fa c) (fc c),.fn oa (ob c) (oc c)] h = some (.ret (.lst us (fl us.isEmpty)),h.set (i c) (PB ws m),false):=by
 intro c h hj hi
 have g8:=qtx (z:=z) hm hz a1 hk hJ hB hc Y a6 [] (by simpa using hl) (by simp)
 have e0:ofl k [] = .full:=rfl
 have I:=qbw (qrl hc λ_ _ _ o=>o.2.2.1) h.length
 generalize hw:Wd _ _ h = w
 rw [qm _ _ hX hF] at hw
 simp only [qlk,sT.1,sC.1,qg,seval,-rN] at hw
 generalize hr:qv h.length Wd (.loop (qbC k z)) _ = r at hw
 obtain ⟨E,q,q2,q3⟩ :∃E,r = some (.exit 0,⟨E,h.set (i c) (PB ws m),false⟩)/\E.length = 26/\lkp E 9 = .lst us (ofl k us):=by
  rw [<-hr]
  refine g8 c h.length h _ hj hi ?_ ?_ ?_ ?_ ?_ ?_ <;> simp only [sT.1,sC.1,seval,-rN,e0]
 subst q
 simp only [sT.1,sC.1,qg,seval,-rN,q2,q3,qmo,qY,qaa,I] at hw
 exact hw.symm
end
def qw9:qt:=⟨6,[.tmp 2],(.seq (.reg [ao 2 (.asg (.c (.bool false)))]) (.seq (.reg [ao 3 (.ld none (.t 0)),ao 4 (.ld none (.t 1)),ao 5 (.call (.c (.fn 43 [] [])) [(.t 3),(.t 4)]),ao 2 (.asg (.t 5))]) (.ret)))⟩
def qpL (k:Nat) (z:List qd):qt:=⟨9,[.cell 3 (some k)],(.seq (.reg [ao 3 (.new z)]) (.seq (.reg [ao 4 (.ld none (.t 0)),ao 5 (.ld none (.t 1)),ao 6 (.call (.c (.fn 47 [] [])) [(.t 4),(.t 5)])])
 (.seq (.reg [ao 7 (.ld none (.t 2)),ao 8 (.call (.t 7) []),an (.st (some k) (.t 3) (.t 8))]) (.ret))))⟩
def qlj (m b o:FuncId):qt:=⟨14,[.tmp 8],(.seq (.reg [ao 4 (.box 1 (.t 0)),ao 6 (.box 1 (.t 2)),ao 7 (.box 1 (.t 3)),ao 8 (.asg (.c (.lst [] .full)))])
 (.seq (.reg [ao 9 (.ld none (.t 4)),ao 10 (.mov (.t 1)),ao 11 (.mkF b [] [(.t 4),(.t 6)]),ao 12 (.mkF o [] [(.t 4),(.t 6),(.t 7)]),ao 13 (.call (.c (.fn m [] [])) [(.t 9),(.t 10),(.t 11),(.t 12)]),ao 8 (.asg (.t 13))]) (.ret)))⟩
def qfl (i b:Nat) (first:Str) (f:FuncId) (h:List qj):Prop:=
 i < b/\h[b]? = some (.cells [.ptr i 0])/\h[b + 1]? = some (.cells [.str first])/\h[b + 2]? = some (.cells [.fn f [.ptr i 0] []])
theorem qfl.set {i b:Nat} {first:Str} {f:FuncId} {h:List qj} (x:qj) (hj:qfl i b first f h):qfl i b first f (h.set i x):=by
 obtain ⟨h0,h1,h2,h3⟩:=hj
 refine ⟨h0,?_,?_,?_⟩ <;> rw [jf zo] <;> assumption
section
variable {ws:List Tok} {k:Nat} {z:List qd} {B O M:FuncId} {i b:Nat} {first:Str} {f:FuncId}
theorem qnR (hX:X B = none) (hF:T.get B = some qw9) (hw:WF ws) {m:Nat} (hm:m < ws.length) {h:List qj} (hj:qfl i b first f h) (hi:h[i]? = some (PB ws m)) :
  Wd (.fn B [] [.ptr b 0,.ptr (b + 1) 0]) [] h = some (.ret (.bool (isW ws m first)),h,false):=by
 obtain ⟨h0,h1,h2,h3⟩:=hj
 rw [qm _ _ hX hF]
 simp only [qw9,sT.1,sC.1,qg,seval,-rN,h1,h2,qbu hw hm hi]
def qdY {D:Type} (first:Str) (kw:D->List PT) (d:D):List PT:=nm0 first :: kw d
theorem qtf (hX:X O = none) (hF:T.get O = some (qpL k z)) (hw:WF ws) (hz:z.length = k) (E:z.map qd.dim = z) {n m:Nat} {v:qd} (hm:n < ws.length) (hs:isW ws n first = true) (hv:qhF k v) (x2:PY ws f (n + 1) v m) :
  qqN ws (ι:=Nat×Nat) (λc=>c.1) k (λc=>.fn O [] [.ptr c.2 0,.ptr (c.2 + 1) 0,.ptr (c.2 + 2) 0]) (λc=>qfl c.1 c.2 first f) (λm=>isW ws m first) n v m:=by
 have hb:∀i H,Wd (.fn f [.ptr i 0] []) [] H = Wd (.fn f [] []) [.ptr i 0] H:=λi H=>qbP f [.ptr i 0] [] [] H
 refine ⟨hm,hs,hv,λ⟨i,b⟩ h hj hi=>?_⟩
 obtain ⟨cs,rfl,s1,s2,s3,s4⟩:=hv
 simp only at hi hj ⊢
 obtain ⟨h0,h1,h2,h3⟩:=hj
 have I:=qf hi
 have l1:=qf h1
 have l2:=qf h2
 have l3:=qf h3
 have f1:∀x l,(h.set i x ++ l)[b + 2]? = some (.cells [.fn f [.ptr i 0] []]):=λx l=>by rw [ja (by simpa using l3),jf zo,h3]
 have hd:z.drop k = []:=List.drop_eq_nil_of_le zo
 have hc:Go.AE.cut cs 0 (some k) = some (.agg cs):=by
  rw [qeX zo,List.drop_zero,List.take_of_length_le zo,s4]
 have Y:Nat.ble (0 + cs.length) z.length = true:=qx zo
 rw [PBi] at hi
 rw [qm _ _ hX hF]
 simp only [qpL,sT.1,sC.1,qg,seval,-rN,E,h1,h2,l1,l2,qE hw hm,hs,hi,I,PBi,f1,hb,x2,s1,s2,s3,s4,hd,hc,hz]
theorem qrk {D:Type} {One:Nat->qd->Nat->Prop} {kw:D->List PT} {enc:D->qd}:∀(ds:List D) (n:Nat) (r:List PT),(∀d ∈ ds,∀n r,See ws n (kw d ++ r)->One n (enc d) (n + (kw d).length))->See ws n ((ds.map kw).flatten ++ r)->Ch One n (ds.map enc) (n + (ds.map kw).flatten.length)
 | [],n,r,_,_=>by simpa using Ch.nil n
 | d :: ds,n,r,h,hs=>by
  simp only [List.map_cons,List.flatten_cons,jp,ji] at hs ⊢
  rw [<-Nat.add_assoc]
  exact .cons (h d (by simp) n _ hs) (qrk ds _ r (λx hx=>h x (by simp [hx])) hs.app.2)
theorem qgC {L:FuncId} {most:Nat} (ac:X L = none) (ai:T.get L = some (qlj M B O)) (ab:X M = none) (af:T.get M = some (qlk k z)) (ad:X B = none) (aj:T.get B = some qw9) (aa:X O = none) (ae:T.get O = some (qpL k z))
  (hw:WF ws) (hm:most <= 1000) (hz:z.length = k) (a1:z.map qd.dim = z) (a6:k ≠ 1) (hk:k <= 1000) {D:Type} {kw:D->List PT} {enc:D->qd} {ds:List D} (hl:ds.length <= most) (hd:∀d ∈ ds,qhF k (enc d)/\Rd ws f (enc d) (kw d)) {n:Nat} {t:PT} {r:List PT} (ht:tW t first = false) (hs:See ws n ((ds.map (qdY first kw)).flatten ++ t :: r)) :
  (∀h i,h[i]? = some (PB ws n)->Wd (.fn L [] []) [.ptr i 0,.int .i64 (most:Nat),.str first,.fn f [.ptr i 0] []] h = some (.ret (.lst (ds.map enc) (fl ds.isEmpty)),h.set i (PB ws (n + (ds.map (qdY first kw)).flatten.length)),false))/\See ws (n + (ds.map (qdY first kw)).flatten.length) (t :: r)/\n + (ds.map (qdY first kw)).flatten.length < ws.length:=by
 have s9:=hs.app.2
 have E:=s9.head.1
 have a8:isW ws (n + (ds.map (qdY first kw)).flatten.length) first = false:=by rw [s9.is];exact ht
 have hc:=qrk (One:=qqN ws (ι:=Nat×Nat) (λc=>c.1) k (λc=>.fn O [] [.ptr c.2 0,.ptr (c.2 + 1) 0,.ptr (c.2 + 2) 0]) (λc=>qfl c.1 c.2 first f) (λm=>isW ws m first)) (enc:=enc) ds n (t :: r) (λd a7 n r hs=>by
  obtain ⟨g1,g2⟩:=hd d a7
  have hs:See ws n (nm0 first :: (kw d ++ r)):=hs
  have:=(g2 _ _ hs.tail).2
  rw [show n + (qdY first kw d).length = n + 1 + (kw d).length by simp [qdY];omega]
  exact qtf aa ae hw hz a1 hs.head.1 (by rw [hs.is];simp [tW,nm0]) g1 this) hs
 generalize n + (ds.map (qdY first kw)).flatten.length = m at *
 refine ⟨λh i hi=>?_,s9,E⟩
 have g:=qln ab af hm hz a6 hk (λc h m hj=>hj.set _) (λm c h hm hj hi=>qnR ad aj hw hm hj hi) hc E a8 (by simpa using hl)
 have Y:=qbw (qrl hc λ_ _ _ o=>o.2.2.1) h.length
 have I:=qf hi
 have j2:(h ++ [.cells [.ptr i 0],.cells [.str first],.cells [.fn f [.ptr i 0] []]])[i]? = some (PB ws n):=by rw [ja I,hi]
 have j1:qfl i h.length first f (h ++ [.cells [.ptr i 0],.cells [.str first],.cells [.fn f [.ptr i 0] []]]):=by
  refine ⟨I,?_,?_,?_⟩ <;> (rw [List.getElem?_append_right zo];simp)
 have q:=g (i,h.length) _ j1 j2
 have e1:(ds.map enc).isEmpty = ds.isEmpty:=by cases ds <;> rfl
 rw [e1] at q
 rw [PBi] at q
 rw [PBi] at hi
 generalize hw:Wd _ _ h = w
 rw [qm _ _ ac ai] at hw
 simp only [qlj,sT.1,sC.1,qg,seval,-rN,I,q,qY,qaa,Y] at hw
 exact hw.symm
end
inductive qa5 where
 | mk (kind:Int) (subs:List qa5)
mutual
def qa5.cs:qa5->List qd
 | .mk k ts=>[.int .i64 k,.lst (qdP ts) (fl ts.isEmpty)]
def qdP:List qa5->List qd
 | []=>[]
 | t :: ts=>.agg t.cs :: qdP ts
end
mutual
def qa5.sm:qa5->Bool
 | .mk _ ts=>Nat.ble ts.length 4 && smT ts
def smT:List qa5->Bool
 | []=>true
 | t :: ts=>t.sm && smT ts
end
theorem qix (k:Int) (ts:List qa5):(qa5.mk k ts).cs = [.int .i64 k,.lst (qdP ts) (fl ts.isEmpty)]:=by rw [qa5.cs]
theorem qkp (t:qa5):t.cs.length = 2:=by cases t;rw [qix];rfl
theorem qhz (t:qa5):t.cs.all qd.storable = true:=by cases t;rw [qix];simp [qd.storable]
theorem qko (t:qa5):t.cs.map qd.dim = t.cs:=by cases t with | mk k ts=>rw [qix];cases ts <;> rfl
mutual
theorem qc5 (n:Nat):∀t:qa5,qw n t.cs = true
 | .mk k ts=>by rw [qix];simp only [qw,qd.lower,qfF n ts,Bool.and_self]
theorem qfF (n:Nat):∀ts:List qa5,qw n (qdP ts) = true
 | []=>by simp only [qdP,qw]
 | t :: ts=>by simp only [qdP,qw,qd.lower,qc5 n t,qfF n ts,Bool.and_self]
end
theorem qbT (t:qa5):∃a b,t.cs = [a,b]/\a.dim = a/\b.dim = b/\a.storable = true/\b.storable = true:=by
 cases t with
 | mk k ts=>
  refine ⟨_,_,qix k ts,rfl,?_,rfl,rfl⟩
  cases ts <;> rfl
section
variable {base:Nat} {h:List qj}
theorem qwM (t:qa5):hop base (.lit 2 [(.int .i64 0),(.lst [] .full)] 1 [0]) [.agg t.cs] h = some (.sl h.length 0 1 1 0,h ++ [.cells t.cs],false):=by
 obtain ⟨a,b,e,d1,d2,s1,s2⟩:=qbT t
 rw [e]
 simp [hop,qz,qd.cells,s1,s2,splice,d1,d2]
def qoB (base n m id id2:Nat) (h:List qj):Option qj->Option qj->Option (qd×List qj×Bool)
 | some (.cells ds),some (.cells es)=>
  if ds.length = n * 2/\es.length = 2/\(es.map qd.dim).all qd.storable = true/\n <= 100/\0 < n/\(m = 0\/m = 2) then
   some (.sl h.length 0 (n + 1) (n + 1) 2,(if m = 0 then h else h.set id .dead) ++ [.cells (ds.map qd.dim ++ es.map qd.dim)],false)
  else hop base (.app 2) [.sl id 0 n n m,.sl id2 0 1 1 0] h
 | _,_=>hop base (.app 2) [.sl id 0 n n m,.sl id2 0 1 1 0] h
theorem qwK (id id2 n m:Nat):hop base (.app 2) [.sl id 0 n n m,.sl id2 0 1 1 0] h = qoB base n m id id2 h h[id]? h[id2]?:=by
 unfold qoB
 split
 ·rename_i ds es h1 h2
  split
  ·rename_i hc
   obtain ⟨c1,c2,c3,c4,c5,c6⟩:=hc
   have e1:qdE 2 h (.sl id2 0 1 1 0) = some (es.map qd.dim,1):=by
    have:es.take 2 = es:=List.take_of_length_le zo
    simp [qdE,h2,c2,this]
   have e2:qdE 2 h (.sl id 0 n n m) = some (ds.map qd.dim,n):=by
    have:ds.take (n * 2) = ds:=List.take_of_length_le zo
    simp [qdE,h1,c1,this]
   have hn:n + 1 <= qk:=by simp only [qk];omega
   have E:¬ n + 1 <= n:=zo
   simp only [hop,qf8,e1,e2,c3,h1,Bool.not_true,Bool.false_eq_true,if_false,hn,E,if_true,Nat.succ_ne_zero]
   rcases c6 with rfl | rfl
   ·simp
   ·simp [c1]
  ·rfl
 ·rfl
theorem qCy (id id2:Nat) (t1 t2:qa5):qoB base 1 0 id id2 h (some (.cells t1.cs)) (some (.cells t2.cs)) = some (.sl h.length 0 2 2 2,h ++ [.cells (t1.cs ++ t2.cs)],false):=by
 simp only [qoB,qkp,qko,qhz]
 rw [if_pos (by decide)]
 rfl
theorem qCz (id id2:Nat) (t1 t2 t3:qa5):qoB base 2 2 id id2 h (some (.cells (t1.cs ++ t2.cs))) (some (.cells t3.cs)) = some (.sl h.length 0 3 3 2,h.set id .dead ++ [.cells (t1.cs ++ (t2.cs ++ t3.cs))],false):=by
 simp only [qoB,ji,jW,jp,qkp,qko,qhz]
 rw [if_pos (by decide)]
 rfl
theorem qCA (id id2:Nat) (t1 t2 t3 t4:qa5):qoB base 3 2 id id2 h (some (.cells (t1.cs ++ (t2.cs ++ t3.cs)))) (some (.cells t4.cs)) = some (.sl h.length 0 4 4 2,h.set id .dead ++ [.cells (t1.cs ++ (t2.cs ++ (t3.cs ++ t4.cs)))],false):=by
 simp only [qoB,ji,jW,jp,qkp,qko,qhz]
 rw [if_pos (by decide)]
 rfl
theorem qwL (k:Option Nat) (p:qd):hop base (.ldz k) [p] h = (qel h p k).map (qwG h):=rfl
def qvt (n m id:Nat) (h:List qj) (a:Int):Option qj->qd×List qj×Bool
 | some (.cells ds)=>if ds.length = n * 2/\0 < n/\(ds.map qd.dim).all qd.storable = true then (.agg [.int .i64 a,.lst (elems 2 n (ds.map qd.dim)) .no],h.set id .dead,false) else qwG h (.agg [.int .i64 a,.sl id 0 n n m])
 | _=>qwG h (.agg [.int .i64 a,.sl id 0 n n m])
theorem qC7 (n m id:Nat) (a:Int):qwG h (.agg [.int .i64 a,.sl id 0 n n m]) = qvt n m id h a h[id]?:=by
 unfold qvt
 split
 ·rename_i ds h1
  split
  ·rename_i hc
   obtain ⟨c1,c2,c3⟩:=hc
   have e1:n * 2 / n = 2:=Nat.mul_div_cancel_left 2 c2
   have e2:frz h (.sl id 0 n n m) = some (.lst (elems 2 n (ds.map qd.dim)) .no,h.set id .dead):=by
    simp only [frz,h1,c1,c3,e1,Nat.le_refl,and_self,if_true]
   have e3:frz h (.int .i64 a) = none:=rfl
   simp only [qwG,qpd,e2,e3]
  ·rfl
 ·rfl
theorem qC8 (m id:Nat) (a:Int) (t1:qa5):qvt 1 m id h a (some (.cells t1.cs)) = (.agg [.int .i64 a,.lst (qdP [t1]) .no],h.set id .dead,false):=by
 obtain ⟨a1,b1,e1,p1,p2,p3,p4⟩:=qbT t1
 simp [qvt,qdP,elems,e1,p1,p2,p3,p4,List.range,List.range.loop]
theorem qC9 (m id:Nat) (a:Int) (t1 t2:qa5):qvt 2 m id h a (some (.cells (t1.cs ++ t2.cs))) = (.agg [.int .i64 a,.lst (qdP [t1,t2]) .no],h.set id .dead,false):=by
 obtain ⟨a1,b1,e1,p1,p2,p3,p4⟩:=qbT t1
 obtain ⟨a2,b2,e2,q1,q2,q3,q4⟩:=qbT t2
 simp [qvt,qdP,elems,e1,e2,p1,p2,p3,p4,q1,q2,q3,q4,List.range,List.range.loop]
theorem qDa (m id:Nat) (a:Int) (t1 t2 t3:qa5):qvt 3 m id h a (some (.cells (t1.cs ++ (t2.cs ++ t3.cs)))) = (.agg [.int .i64 a,.lst (qdP [t1,t2,t3]) .no],h.set id .dead,false):=by
 obtain ⟨a1,b1,e1,p1,p2,p3,p4⟩:=qbT t1
 obtain ⟨a2,b2,e2,q1,q2,q3,q4⟩:=qbT t2
 obtain ⟨a3,b3,e3,r1,r2,r3,r4⟩:=qbT t3
 simp [qvt,qdP,elems,e1,e2,e3,p1,p2,p3,p4,q1,q2,q3,q4,r1,r2,r3,r4,List.range,List.range.loop]
theorem qDb (m id:Nat) (a:Int) (t1 t2 t3 t4:qa5):qvt 4 m id h a (some (.cells (t1.cs ++ (t2.cs ++ (t3.cs ++ t4.cs))))) = (.agg [.int .i64 a,.lst (qdP [t1,t2,t3,t4]) .no],h.set id .dead,false):=by
 obtain ⟨a1,b1,e1,p1,p2,p3,p4⟩:=qbT t1
 obtain ⟨a2,b2,e2,q1,q2,q3,q4⟩:=qbT t2
 obtain ⟨a3,b3,e3,r1,r2,r3,r4⟩:=qbT t3
 obtain ⟨a4,b4,e4,s1,s2,s3,s4⟩:=qbT t4
 simp [qvt,qdP,elems,e1,e2,e3,e4,p1,p2,p3,p4,q1,q2,q3,q4,r1,r2,r3,r4,s1,s2,s3,s4,List.range,List.range.loop]
theorem qDU (id m:Nat):qqG false (.sl id 0 1 1 m) = some (.int .i64 1):=rfl
theorem qDV (id m:Nat):qqG false (.sl id 0 2 2 m) = some (.int .i64 2):=rfl
theorem qDW (id m:Nat):qqG false (.sl id 0 3 3 m) = some (.int .i64 3):=rfl
theorem qDX (id m:Nat):qqG false (.sl id 0 4 4 m) = some (.int .i64 4):=rfl
theorem qJZ:fl false = .no:=rfl
theorem qGf:fl true = .full:=rfl
theorem qr2:qdP [] = []:=by rw [qdP]
end
def tL:=PLift.up (qq (qq (qq (qq (qq @qiQ @qcl) (qq @qxD @qAn)) (qq (qq @qcm @qc9) (qq @qeY @qBN))) (qq (qq (qq @qvW @qwM) (qq @qwK @qCy)) (qq (qq @qCz @qCA) (qq @qwL (qq @qC7 @qC8))))) (qq (qq (qq (qq @qC9 @qDa) (qq @qDb @qDU)) (qq (qq @qDV @qDW) (qq @qDX (qq @qix @qJZ)))) (qq (qq (qq @qGf @qr2) (qq @qfF @qc5)) (qq (qq @qko @qkp) (qq @qhz (qq @List.isEmpty_nil.{0} @List.isEmpty_cons.{0}))))))
def Tp.cv:Tp->qa5
 | .mk k l=>.mk k (l.map λv=>v.cv)
theorem Tp.cv_mk (k:Int) (l:List Tp):(Tp.mk k l).cv = .mk k (l.map Tp.cv):=by rw [Tp.cv]
def kwT (k:Int):Str:=bif k == 0 then [105,110,116] else bif k == 1 then [98,111,111,108] else [115,121,109]
def tyk:Nat->Tp->List PT
 | 0,.mk k _=>[nm0 (kwT k)]
 | d + 1,.mk k l=>bif k == 3 then mk3 [40] :: (qbg (l.map (tyk d)) ++ (bif l.length == 1 then [mk3 [44],mk3 [41]] else [mk3 [41]])) else [nm0 (kwT k)]
def RdT (ws:List Tok) (d:Int) (t:qa5) (ks:List PT):Prop:=∀n r,See ws n (ks ++ r)->n + ks.length < ws.length/\∀(h:List qj) (i:Nat),h[i]? = some (PB ws n)->Wd (.fn 135 [] []) [.ptr i 0,.int .i64 d] h = some (.ret (.agg t.cs),h.set i (PB ws (n + ks.length)),false)
section
variable {ws:List Tok}
theorem RdT.st {d:Int} {t:qa5} {ks:List PT} (g:RdT ws d t ks) {n:Nat} {r:List PT} (hs:See ws n (ks ++ r)):(∀(h:List qj) (i:Nat),h[i]? = some (PB ws n)->Wd (.fn 135 [] []) [.ptr i 0,.int .i64 d] h = some (.ret (.agg t.cs),h.set i (PB ws (n + ks.length)),false))/\See ws (n + ks.length) r/\n + ks.length < ws.length:=
 ⟨(g n r hs).2,hs.app.2,(g n r hs).1⟩
theorem qCg (hw:WF ws) {n:Nat} {r:List PT} {t:PT} (s:Str) (hs:See ws n (t :: r)):∀(h:List qj) (i:Nat),h[i]? = some (PB ws n)->Wd (.fn 43 [] []) [.ptr i 0,.str s] h = some (.ret (.bool (tW t s)),h,false):=
 λh i hi=>by rw [qbu hw hs.head.1 hi,hs.is]
theorem qkq (d:Nat) (t:Tp):∃u us,tyk d t = u :: us/\tW u [41] = false:=by
 have kw:∀k,tW (nm0 (kwT k)) [41] = false:=λk=>by
  unfold kwT
  cases k == 0 <;> cases k == 1 <;> rfl
 obtain ⟨k,l⟩:=t
 cases d with
 | zero=>exact ⟨_,_,rfl,kw k⟩
 | succ d=>
  rw [tyk]
  cases k == 3
  ·exact ⟨_,_,rfl,kw k⟩
  ·exact ⟨_,_,rfl,rfl⟩
theorem qt9 (hw:WF ws) {k d:Int} (hk:k = 0\/k = 1\/k = 2):RdT ws d (.mk k []) [nm0 (kwT k)]:=by
 intro n r hs
 have w:=qJ (n:=n) (by have:=hw.len;have:=hs.head.1;omega)
 rcases hk with rfl | rfl | rfl
 ·obtain ⟨k0,s0,h0⟩:=qc4 hw [105,110,116] rfl hs
  refine ⟨h0,λh i hi=>?_⟩
  have E:=qf hi
  rw [qm 135 qdL]
  simp only [qdL,qaZ,sT.1,sC.1,qg,seval,-rN,tL.1,k0,hi,E,qz]
 ·have k0:=qaQ hw [105,110,116] rfl hs
  obtain ⟨k1,s0,h0⟩:=qc4 hw [98,111,111,108] rfl hs
  refine ⟨h0,λh i hi=>?_⟩
  have E:=qf hi
  rw [qm 135 qdL]
  simp only [qdL,qaZ,sT.1,sC.1,qg,seval,-rN,tL.1,k0,k1,hi,E,qz]
 ·have k0:=qaQ hw [105,110,116] rfl hs
  have k1:=qaQ hw [98,111,111,108] rfl hs
  obtain ⟨k2,s0,h0⟩:=qc4 hw [115,121,109] rfl hs
  refine ⟨h0,λh i hi=>?_⟩
  have E:=qf hi
  rw [qm 135 qdL]
  simp only [qdL,qaZ,sT.1,sC.1,qg,seval,-rN,tL.1,k0,k1,k2,hi,E,qz]
theorem qBZ (hw:WF ws) {d:Int} (hd:ilt 3 d = false) (ha:IntKind.i64.wrap (d + 1) = d + 1) {t1:qa5} {a1:List PT} (g1:RdT ws (d + 1) t1 a1) {n:Nat} {r:List PT} (hs:See ws n (mk3 [40] :: (a1 ++ (mk3 [44] :: mk3 [41] :: r)))):n + 1 + a1.length + 1 + 1 < ws.length/\∀(h:List qj) (i:Nat),h[i]? = some (PB ws n)->Wd (.fn 135 [] []) [.ptr i 0,.int .i64 d] h = some (.ret (.agg (qa5.mk 3 [t1]).cs),h.set i (PB ws (n + 1 + a1.length + 1 + 1)),false):=by
 have w:=qJ (n:=n) (by have:=hw.len;have:=hs.head.1;omega)
 have k0:=qaQ hw [105,110,116] rfl hs
 have k1:=qaQ hw [98,111,111,108] rfl hs
 have k2:=qaQ hw [115,121,109] rfl hs
 have k3:=qCg hw [40] hs
 have z3:tW (mk3 [40]) [40] = true:=rfl
 have s0:=hs.tail
 obtain ⟨p1,s1,h1⟩:=g1.st s0
 obtain ⟨q1,u1,l1⟩:=qaL hw [44] rfl s1
 obtain ⟨e1,v1,m1⟩:=qc4 hw [41] rfl u1
 refine ⟨m1,λh i hi=>?_⟩
 have E:=qf hi
 rw [qm 135 qdL]
 rw [PBi] at hi
 simp only [qdL,qaZ,sT.1,sC.1,qg,seval,-rN,tL.1,k0,k1,k2,k3,z3,p1,q1,e1,hd,ha,w,hi,E,PBi,qN,qz]
theorem qB0 (hw:WF ws) {d:Int} (hd:ilt 3 d = false) (ha:IntKind.i64.wrap (d + 1) = d + 1) {t1:qa5} {a1:List PT} (g1:RdT ws (d + 1) t1 a1) {t2:qa5} {a2:List PT} (g2:RdT ws (d + 1) t2 a2) (b2:∃u us,a2 = u :: us/\tW u [41] = false) {n:Nat} {r:List PT} (hs:See ws n (mk3 [40] :: (a1 ++ (mk3 [44] :: (a2 ++ (mk3 [41] :: r)))))):n + 1 + a1.length + 1 + a2.length + 1 < ws.length/\∀(h:List qj) (i:Nat),h[i]? = some (PB ws n)->Wd (.fn 135 [] []) [.ptr i 0,.int .i64 d] h = some (.ret (.agg (qa5.mk 3 [t1,t2]).cs),h.set i (PB ws (n + 1 + a1.length + 1 + a2.length + 1)),false):=by
 have w:=qJ (n:=n) (by have:=hw.len;have:=hs.head.1;omega)
 have k0:=qaQ hw [105,110,116] rfl hs
 have k1:=qaQ hw [98,111,111,108] rfl hs
 have k2:=qaQ hw [115,121,109] rfl hs
 have k3:=qCg hw [40] hs
 have z3:tW (mk3 [40]) [40] = true:=rfl
 have s0:=hs.tail
 obtain ⟨p1,s1,h1⟩:=g1.st s0
 obtain ⟨q1,u1,l1⟩:=qaL hw [44] rfl s1
 have e1:=(by obtain ⟨u,us,rfl,hu⟩:=b2;exact qaQ hw [41] hu u1:∀(h:List qj) (i:Nat),h[i]? = some (PB ws (n + 1 + a1.length + 1))->Wd (.fn 95 [] []) [.ptr i 0,.str [41]] h = some (.ret (.bool false),h.set i (PB ws (n + 1 + a1.length + 1)),false))
 obtain ⟨p2,s2,h2⟩:=g2.st u1
 have q2:=qaQ hw [44] rfl s2
 obtain ⟨e2,v2,m2⟩:=qaL hw [41] rfl s2
 refine ⟨m2,λh i hi=>?_⟩
 have E:=qf hi
 rw [qm 135 qdL]
 rw [PBi] at hi
 simp only [qdL,qaZ,sT.1,sC.1,qg,Nat.testBit,seval,-rN,qn,tL.1,k0,k1,k2,k3,z3,p1,q1,e1,p2,q2,e2,hd,ha,w,hi,E,PBi,qN,qz]
theorem qB1 (hw:WF ws) {d:Int} (hd:ilt 3 d = false) (ha:IntKind.i64.wrap (d + 1) = d + 1) {t1:qa5} {a1:List PT} (g1:RdT ws (d + 1) t1 a1) {t2:qa5} {a2:List PT} (g2:RdT ws (d + 1) t2 a2) {t3:qa5} {a3:List PT} (g3:RdT ws (d + 1) t3 a3) (b2:∃u us,a2 = u :: us/\tW u [41] = false) {n:Nat} {r:List PT} (hs:See ws n (mk3 [40] :: (a1 ++ (mk3 [44] :: (a2 ++ (mk3 [44] :: (a3 ++ (mk3 [41] :: r)))))))):n + 1 + a1.length + 1 + a2.length + 1 + a3.length + 1 < ws.length/\∀(h:List qj) (i:Nat),h[i]? = some (PB ws n)->Wd (.fn 135 [] []) [.ptr i 0,.int .i64 d] h = some (.ret (.agg (qa5.mk 3 [t1,t2,t3]).cs),h.set i (PB ws (n + 1 + a1.length + 1 + a2.length + 1 + a3.length + 1)),false):=by
 have w:=qJ (n:=n) (by have:=hw.len;have:=hs.head.1;omega)
 have k0:=qaQ hw [105,110,116] rfl hs
 have k1:=qaQ hw [98,111,111,108] rfl hs
 have k2:=qaQ hw [115,121,109] rfl hs
 have k3:=qCg hw [40] hs
 have z3:tW (mk3 [40]) [40] = true:=rfl
 have s0:=hs.tail
 obtain ⟨p1,s1,h1⟩:=g1.st s0
 obtain ⟨q1,u1,l1⟩:=qaL hw [44] rfl s1
 have e1:=(by obtain ⟨u,us,rfl,hu⟩:=b2;exact qaQ hw [41] hu u1:∀(h:List qj) (i:Nat),h[i]? = some (PB ws (n + 1 + a1.length + 1))->Wd (.fn 95 [] []) [.ptr i 0,.str [41]] h = some (.ret (.bool false),h.set i (PB ws (n + 1 + a1.length + 1)),false))
 obtain ⟨p2,s2,h2⟩:=g2.st u1
 obtain ⟨q2,u2,l2⟩:=qc4 hw [44] rfl s2
 obtain ⟨p3,s3,h3⟩:=g3.st u2
 have q3:=qaQ hw [44] rfl s3
 obtain ⟨e2,v2,m2⟩:=qaL hw [41] rfl s3
 refine ⟨m2,λh i hi=>?_⟩
 have E:=qf hi
 rw [qm 135 qdL]
 rw [PBi] at hi
 simp only [qdL,qaZ,sT.1,sC.1,qg,Nat.testBit,seval,-rN,qn,tL.1,k0,k1,k2,k3,z3,p1,q1,e1,p2,q2,p3,q3,e2,hd,ha,w,hi,E,PBi,qN,qz]
theorem qB2 (hw:WF ws) {d:Int} (hd:ilt 3 d = false) (ha:IntKind.i64.wrap (d + 1) = d + 1) {t1:qa5} {a1:List PT} (g1:RdT ws (d + 1) t1 a1) {t2:qa5} {a2:List PT} (g2:RdT ws (d + 1) t2 a2) {t3:qa5} {a3:List PT} (g3:RdT ws (d + 1) t3 a3) {t4:qa5} {a4:List PT} (g4:RdT ws (d + 1) t4 a4) (b2:∃u us,a2 = u :: us/\tW u [41] = false) {n:Nat} {r:List PT} (hs:See ws n (mk3 [40] :: (a1 ++ (mk3 [44] :: (a2 ++ (mk3 [44] :: (a3 ++ (mk3 [44] :: (a4 ++ (mk3 [41] :: r)))))))))):n + 1 + a1.length + 1 + a2.length + 1 + a3.length + 1 + a4.length + 1 < ws.length/\∀(h:List qj) (i:Nat),h[i]? = some (PB ws n)->Wd (.fn 135 [] []) [.ptr i 0,.int .i64 d] h = some (.ret (.agg (qa5.mk 3 [t1,t2,t3,t4]).cs),h.set i (PB ws (n + 1 + a1.length + 1 + a2.length + 1 + a3.length + 1 + a4.length + 1)),false):=by
 have w:=qJ (n:=n) (by have:=hw.len;have:=hs.head.1;omega)
 have k0:=qaQ hw [105,110,116] rfl hs
 have k1:=qaQ hw [98,111,111,108] rfl hs
 have k2:=qaQ hw [115,121,109] rfl hs
 have k3:=qCg hw [40] hs
 have z3:tW (mk3 [40]) [40] = true:=rfl
 have s0:=hs.tail
 obtain ⟨p1,s1,h1⟩:=g1.st s0
 obtain ⟨q1,u1,l1⟩:=qaL hw [44] rfl s1
 have e1:=(by obtain ⟨u,us,rfl,hu⟩:=b2;exact qaQ hw [41] hu u1:∀(h:List qj) (i:Nat),h[i]? = some (PB ws (n + 1 + a1.length + 1))->Wd (.fn 95 [] []) [.ptr i 0,.str [41]] h = some (.ret (.bool false),h.set i (PB ws (n + 1 + a1.length + 1)),false))
 obtain ⟨p2,s2,h2⟩:=g2.st u1
 obtain ⟨q2,u2,l2⟩:=qc4 hw [44] rfl s2
 obtain ⟨p3,s3,h3⟩:=g3.st u2
 obtain ⟨q3,u3,l3⟩:=qc4 hw [44] rfl s3
 obtain ⟨p4,s4,h4⟩:=g4.st u3
 have q4:=qaQ hw [44] rfl s4
 obtain ⟨e2,v2,m2⟩:=qaL hw [41] rfl s4
 refine ⟨m2,λh i hi=>?_⟩
 have E:=qf hi
 rw [qm 135 qdL]
 rw [PBi] at hi
 simp only [qdL,qaZ,sT.1,sC.1,qg,Nat.testBit,seval,-rN,qn,tL.1,k0,k1,k2,k3,z3,p1,q1,e1,p2,q2,p3,q3,p4,q4,e2,hd,ha,w,hi,E,PBi,qN,qz]
theorem qzp (hw:WF ws):∀(dd:Nat) (t:Tp),dd <= 3->tyB dd t = true->RdT ws (4 - (dd:Int)) t.cv (tyk dd t)
 | 0,.mk k l,_,h=>by
  rw [tyB,jk,Bool.or_eq_true,Bool.or_eq_true,beq_iff_eq,beq_iff_eq,beq_iff_eq,List.isEmpty_iff] at h
  obtain ⟨h1,rfl⟩:=h
  rw [Tp.cv_mk,tyk]
  exact qt9 hw h1
 | dd + 1,.mk k l,h3,h=>by
  rw [tyB,Bool.or_eq_true,jk,jk,jk,jk,Bool.or_eq_true,Bool.or_eq_true,beq_iff_eq,beq_iff_eq,beq_iff_eq,beq_iff_eq,List.isEmpty_iff,decide_eq_true_eq,decide_eq_true_eq,List.all_eq_true] at h
  rw [Tp.cv_mk,tyk]
  rcases h with ⟨h1,rfl⟩ | ⟨rfl,⟨l1,l4⟩,hl⟩
  ·have:(k == 3) = false:=by rcases h1 with rfl | rfl | rfl <;> rfl
   rw [this]
   exact qt9 hw h1
  ·rw [show ((3:Int) == 3) = true from rfl,cond_true]
   have ih:∀x ∈ l,RdT ws (4 - ((dd + 1:Nat):Int) + 1) x.cv (tyk dd x):=λx hx=>by
    have:=qzp hw dd x zo (hl x hx)
    rwa [show 4 - ((dd + 1:Nat):Int) + 1 = 4 - (dd:Int) by omega]
   have hd:ilt 3 (4 - ((dd + 1:Nat):Int)) = false:=by rw [qaj];simp;omega
   have ha:IntKind.i64.wrap (4 - ((dd + 1:Nat):Int) + 1) = 4 - ((dd + 1:Nat):Int) + 1:=qbU zo zo
   generalize 4 - ((dd + 1:Nat):Int) = d at *
   intro n r hs
   match l,l1,l4,ih,hs with
   | [t1],_,_,ih,hs=>
    have e:n + (mk3 [40] :: (qbg ([t1].map (tyk dd)) ++ (bif [t1].length == 1 then [mk3 [44],mk3 [41]] else [mk3 [41]]))).length = n + 1 + (tyk dd t1).length + 1 + 1:=by simp [qbg];omega
    rw [e]
    exact qBZ hw hd ha (ih t1 (by simp)) (by simpa [qbg] using hs)
   | [t1,t2],_,_,ih,hs=>
    have e:n + (mk3 [40] :: (qbg ([t1,t2].map (tyk dd)) ++ (bif [t1,t2].length == 1 then [mk3 [44],mk3 [41]] else [mk3 [41]]))).length = n + 1 + (tyk dd t1).length + 1 + (tyk dd t2).length + 1:=by simp [qbg];omega
    rw [e]
    exact qB0 hw hd ha (ih t1 (by simp)) (ih t2 (by simp)) (qkq dd t2) (by simpa [qbg] using hs)
   | [t1,t2,t3],_,_,ih,hs=>
    have e:n + (mk3 [40] :: (qbg ([t1,t2,t3].map (tyk dd)) ++ (bif [t1,t2,t3].length == 1 then [mk3 [44],mk3 [41]] else [mk3 [41]]))).length = n + 1 + (tyk dd t1).length + 1 + (tyk dd t2).length + 1 + (tyk dd t3).length + 1:=by simp [qbg];omega
    rw [e]
    exact qB1 hw hd ha (ih t1 (by simp)) (ih t2 (by simp)) (ih t3 (by simp)) (qkq dd t2) (by simpa [qbg] using hs)
   | [t1,t2,t3,t4],_,_,ih,hs=>
    have e:n + (mk3 [40] :: (qbg ([t1,t2,t3,t4].map (tyk dd)) ++ (bif [t1,t2,t3,t4].length == 1 then [mk3 [44],mk3 [41]] else [mk3 [41]]))).length = n + 1 + (tyk dd t1).length + 1 + (tyk dd t2).length + 1 + (tyk dd t3).length + 1 + (tyk dd t4).length + 1:=by simp [qbg];omega
    rw [e]
    exact qB2 hw hd ha (ih t1 (by simp)) (ih t2 (by simp)) (ih t3 (by simp)) (ih t4 (by simp)) (qkq dd t2) (by simpa [qbg] using hs)
end
end Go.Proofs.YtcbfifamliijlaaGreatDoor.AE
