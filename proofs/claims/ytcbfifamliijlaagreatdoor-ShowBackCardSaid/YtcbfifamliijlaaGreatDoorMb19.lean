/- A part of the proof. No condition. -/
import Derived.Test.YtcbfifamliijlaaGreatDoorMb18
import Derived.Test.YtcbfifamliijlaaGreatDoorMb15
import Derived.Test.YtcbfifamliijlaaGreatDoorMb9
import Derived.Test.YtcbfifamliijlaaGreatDoorMb16
import Derived.Test.YtcbfifamliijlaaGreatDoorMb17
import Derived.Test.YtcbfifamliijlaaGreatDoorMb2
import Derived.Test.YtcbfifamliijlaaGreatDoorProg
import Derived.KernelRfl
open Int renaming reduceNatCast'→rN
set_option maxRecDepth 100000
set_option maxHeartbeats 0
open Bool renaming and_eq_true→jk
open Nat renaming le_trans→jn
open List renaming append_nil→jF,nil_append→jW,all_cons→jB
namespace Go.Proofs.YtcbfifamliijlaaGreatDoor.AE
open Go.AE
theorem L.nb {u v:Str} {a b:List PT} (hu:L Nl u a) (hv:L Tr v b) (hh:∀c ∈ v.head?,qaO c = false) (E:v ≠ []):L Tr (u ++ v) (a ++ b):=
 hu.app hv λr _ c hc=>by
  cases v with
  | nil=>exact absurd rfl E
  | cons x v=>simp at hc;subst hc;exact hh x rfl
theorem L.cast {Q:Str->Prop} {u v:Str} {a b:List PT} (h:L Q u a) (e:v = u) (f:b = a):L Q v b:=by subst e f;exact h
theorem L10:L Tr [10] []:=by
 intro p r ts o _ h
 exact ⟨[],rfl,.blank (by simp) (by simp [AE.blank]) h⟩
theorem L59:L Tr [59] [mk3 [59]]:=.mark (by rfl) (by rfl) (by rfl) (by rfl) (by decide) λ_ _=>rfl
theorem L58:L Tr [58] [mk3 [58]]:=.mark (by rfl) (by rfl) (by rfl) (by rfl) (by decide) λ_ _=>rfl
theorem qIf:L Tr [123] [mk3 [123]]:=.mark (by rfl) (by rfl) (by rfl) (by rfl) (by decide) λ_ _=>rfl
theorem qEB:L Tr [125] [mk3 [125]]:=.mark (by rfl) (by rfl) (by rfl) (by rfl) (by decide) λ_ _=>rfl
theorem qEC:L Tr [45,62] [mk3 [45,62]]:=.mark (by rfl) (by rfl) (by rfl) (by rfl) (by decide) λ_ _=>rfl
theorem sp3:L Tr [32,61,32] [mk3 [61]]:=L.blank.a0 (L61.a0 L.blank)
theorem sp4:L Tr [32,45,62,32] [mk3 [45,62]]:=L.blank.a0 (qEC.a0 L.blank)
theorem sp0:L Tr [32,32] []:=L.blank.a0 L.blank
theorem sp5:L Tr [32,123,125] [mk3 [123],mk3 [125]]:=L.blank.a0 (qIf.a0 qEB)
theorem sp6:L Tr [32,123] [mk3 [123]]:=L.blank.a0 qIf
theorem L.nl {u:Str} {a:List PT} (h:L Tr u a):L Tr (u ++ [10]) a:=(h.a0 L10).cast rfl (by simp)
theorem kwL {w:Str} (h:qcx w = true):L Tr (w ++ [32]) [nm0 w]:=(L.name h).nb L.blank (by simp;rfl) (by simp)
theorem qxi {s:qam} (g:s.good) (hn:OkN s.e):L Tr s.txt s.k:=
 (L.name (qaQ g.1)).nb (sp3.a0 (L.go (qBF 20 s.e g.2 hn) L59 (by simp;rfl) (by simp))) (by simp;rfl) (by simp)
theorem qyu {s:qaw} (g:s.good):L Tr s.txt s.k:=
 (L.name (qaQ g.1)).nb (sp3.a0 ((L.name (qaQ g.2)).nb L59 (by simp;rfl) (by simp))) (by simp;rfl) (by simp)
theorem qCh {s:qej} (g:s.good):L Nl s.txt s.k:=by
 obtain ⟨p,q⟩:=s
 cases p with
 | nil=>exact L.name (qaQ g.2)
 | cons c p=>exact (L.name (qaQ (g.1.resolve_left (by simp)))).an (L46.a0 (L.name (qaQ g.2))) rfl
theorem qsO {s:qad} (g:s.good):L Tr s.txt s.k:=
 (qCh g.1).nb (sp4.a0 ((qCh g.2).nb L59 (by simp;rfl) (by simp))) (by simp;rfl) (by simp)
theorem qCu:∀(l:List Exl),(∀e ∈ l,right 20 e = true/\OkN e)->L Tr (qir l ++ [59]) ((l.map λe=>nm0 [105,102] :: tk 20 e).flatten ++ [mk3 [59]])
 | [],_=>L59
 | e :: l,h=>by
  have ih:=qCu l λx hx=>h x (by simp [hx])
  have he:=h e (by simp)
  have hh:∀c ∈ (qir l ++ [59]).head?,qaO c = false:=by cases l <;> (simp [qir];rfl)
  have k:L Tr ([32] ++ ([105,102] ++ [32])) _:=L.blank.a0 (kwL (w:=[105,102]) rfl)
  exact (k.a0 (L.go (qBF 20 e he.1 he.2) ih hh (by simp))).cast (by simp [qir,eT]) (by simp)
theorem qCf {s:qab} (g:s.good) (hn:OkN s.e) (hi:∀e ∈ s.ifs,OkN e):L Tr s.txt (qdQ [101,109,105,116] qab.k s):=by
 have hh:∀c ∈ (qir s.ifs ++ [59]).head?,qaO c = false:=by cases s.ifs <;> (simp [qir];rfl)
 exact ((kwL (w:=[101,109,105,116]) rfl).a0 ((L.name (qaQ g.1)).nb (L.blank.a0 (L.go (qBF 20 s.e g.2.1 hn) (qCu s.ifs λe he=>⟨g.2.2.2 e he,hi e he⟩) hh (by simp))) (by simp;rfl) (by simp))).cast (by simp [qab.txt,eT]) (by simp [qdQ,qab.k])
theorem qEH {s:qbo} (g:s.good):L Tr s.txt s.k:=by
 obtain ⟨kd,nm,md,ln⟩:=s
 rcases g with ⟨g0,g1,g2,g3⟩ | ⟨g0,g1,g2,g3⟩ | ⟨g0,g1,g2,g3⟩
 ·simp only at g0 g1 g2
  subst g0
  exact (kwL (w:=[97,100,100]) rfl).a0 (qyu (s:=⟨nm,md⟩) ⟨g1,g2⟩)
 ·simp only at g0 g1
  subst g0
  exact (kwL (w:=[100,114,111,112]) rfl).a0 ((L.name (qaQ g1)).nb L59 (by simp;rfl) (by simp))
 ·rcases g0 with g0 | g0 <;> (simp only at g0 g3;subst g0)
  ·exact (kwL (w:=[116,105,101]) rfl).a0 (qsO g3)
  ·exact (kwL (w:=[99,117,116]) rfl).a0 (qsO g3)
theorem qIX:∀(d:Nat) (t:Tp),tyB d t = true->L Nl (ttx d t) (tyk d t)
 | 0,.mk k l,h=>by
  rw [tyB,jk,Bool.or_eq_true,Bool.or_eq_true,beq_iff_eq,beq_iff_eq,beq_iff_eq] at h
  rcases h.1 with rfl | rfl | rfl <;> exact L.name rfl
 | d + 1,.mk k l,h=>by
  rw [tyB,Bool.or_eq_true,jk,jk,jk,jk,Bool.or_eq_true,Bool.or_eq_true,beq_iff_eq,beq_iff_eq,beq_iff_eq,beq_iff_eq,List.isEmpty_iff,decide_eq_true_eq,decide_eq_true_eq,List.all_eq_true] at h
  rcases h with ⟨h1,rfl⟩ | ⟨rfl,⟨l1,l4⟩,hl⟩
  ·rcases h1 with rfl | rfl | rfl <;> exact L.name rfl
  ·have ih:∀x ∈ l,L Nl (ttx d x) (tyk d x):=λx hx=>qIX d x (hl x hx)
   have c2:L Tr [44,32] [mk3 [44]]:=L44.a0 L.blank
   have c3:L Tr [44,41] [mk3 [44],mk3 [41]]:=L44.a0 L41
   match l,l1,l4,ih with
   | [a],_,_,ih=>exact (L40.a0 ((ih a (by simp)).nb c3 (by simp;rfl) (by simp))).tr.cast (by simp [ttx,qqb]) (by simp [tyk,qbh])
   | [a,b],_,_,ih=>exact (L40.a0 ((ih a (by simp)).nb (c2.a0 ((ih b (by simp)).nb L41 (by simp;rfl) (by simp))) (by simp;rfl) (by simp))).tr.cast (by simp [ttx,qqb,Lib.join]) (by simp [tyk,qbh])
   | [a,b,c],_,_,ih=>exact (L40.a0 ((ih a (by simp)).nb (c2.a0 ((ih b (by simp)).nb (c2.a0 ((ih c (by simp)).nb L41 (by simp;rfl) (by simp))) (by simp;rfl) (by simp))) (by simp;rfl) (by simp))).tr.cast (by simp [ttx,qqb,Lib.join]) (by simp [tyk,qbh])
   | [a,b,c,e],_,_,ih=>exact (L40.a0 ((ih a (by simp)).nb (c2.a0 ((ih b (by simp)).nb (c2.a0 ((ih c (by simp)).nb (c2.a0 ((ih e (by simp)).nb L41 (by simp;rfl) (by simp))) (by simp;rfl) (by simp))) (by simp;rfl) (by simp))) (by simp;rfl) (by simp))).tr.cast (by simp [ttx,qqb,Lib.join]) (by simp [tyk,qbh])
theorem qyx {s:qN} (g:s.good):L Tr s.txt s.k:=
 (L.name (qaQ g.1)).nb ((L58.a0 L.blank).a0 ((qIX 3 s.t g.2).nb L59 (by simp;rfl) (by simp))) (by simp;rfl) (by simp)
theorem qdR {D:Type} {f:D->Str} {kw:D->List PT}:∀l:List D,(∀d ∈ l,L Tr (f d) (kw d))->L Tr (qcD (l.map f)) ((l.map kw).flatten)
 | [],_=>λp r ts o _ h=>⟨[],rfl,by simpa [qcD] using h⟩
 | d :: l,h=>((h d (by simp)).nl.a0 (qdR l λx hx=>h x (by simp [hx]))).cast (by simp [qcD]) (by simp)
theorem qfb {a b:List Str} {k l:List PT} (ha:L Tr (qcD a) k) (hb:L Tr (qcD b) l):L Tr (qcD (a ++ b)) (k ++ l):=(ha.a0 hb).cast (qvd a b) rfl
theorem qk0 {s:Str} {k:List PT} (h:L Tr s k):L Tr (qcD [s]) k:=h.nl.cast (qm4 s) rfl
theorem qAo:L Tr (qcD []) []:=λp r ts o _ h=>⟨[],rfl,by simpa [qcD] using h⟩
theorem qjq {D:Type} {f:D->Str} {kw:D->List PT} {hd:Str} {hk:List PT} (hh:L Nl hd hk) (l:List D) (h:∀d ∈ l,L Tr (f d) (kw d)):L Tr (qcD (qbW [32,32] hd (l.map f))) (hk ++ qbq kw l):=by
 cases l with
 | nil=>exact (qk0 (sp0.a0 (hh.nb sp5 (by simp;rfl) (by simp)))).cast (by simp [qbW]) (by simp [qbq])
 | cons d l=>
  have h1:L Tr (qcD [[32,32] ++ (hd ++ [32,123])]) _:=qk0 (sp0.a0 (hh.nb sp6 (by simp;rfl) (by simp)))
  have h2:=qdR (f:=λx=>[32,32] ++ ([32,32] ++ f x)) (kw:=kw) (d :: l) λx hx=>(sp0.a0 (sp0.a0 (h x hx))).cast rfl rfl
  have h3:L Tr (qcD [[32,32] ++ [125]]) _:=qk0 (sp0.a0 qEB)
  exact (qfb h1 (qfb h2 h3)).cast (by simp [qbW,Function.comp_def]) (by simp [qbq])
structure qm.num (m:qm):Prop where
 vars:∀s ∈ m.vars,OkN s.e
 ta:∀e ∈ m.ta,OkN e
 emits:∀s ∈ m.emits,OkN s.e/\∀e ∈ s.ifs,OkN e
 int:∀s ∈ m.int,OkN s.e
 ext:∀s ∈ m.ext,OkN s.e
 own:∀s ∈ m.own,OkN s.e
 rules:∀s ∈ m.rules,OkN s.e
theorem qDD {s:qQ} (g:s.good) (hn:OkN s.e):L Tr (qcD s.lines) (qdQ [114,117,108,101] qQ.k s):=by
 have hh:L Nl ([114,117,108,101,32] ++ eT s.e) (nm0 [114,117,108,101] :: tk 20 s.e):=(kwL (w:=[114,117,108,101]) rfl).a0 (qBF 20 s.e g.1 hn).1
 exact (qjq hh s.acts λa ha=>qEH (g.2.2 a ha)).cast rfl (by simp [qdQ,qQ.k])
theorem qtT:∀l:List qQ,(∀s ∈ l,s.good/\OkN s.e)->L Tr (qcD (l.map qQ.lines).flatten) (kwl [114,117,108,101] qQ.k l)
 | [],_=>qAo
 | s :: l,h=>(qfb (qDD (h s (by simp)).1 (h s (by simp)).2) (qtT l λx hx=>h x (by simp [hx]))).cast (by simp) (by simp [kwl])
theorem qB8 {m:qm} (g:m.gc) (n:m.num):L Tr (qcD (qon m)) (qfP m):=
 qfb (qdR (kw:=qdQ [112,97,114,116] qaw.k) m.parts λs hs=>(sp0.a0 (kwL (w:=[112,97,114,116]) rfl)).a0 (qyu (g.parts.2 s hs)))
  (qfb (qdR (kw:=qdQ [108,105,110,107] qad.k) m.links λs hs=>(sp0.a0 (kwL (w:=[108,105,110,107]) rfl)).a0 (qsO (g.links.2 s hs))) (qtT m.rules λs hs=>⟨g.rules.2 s hs,n.rules s hs⟩))
theorem qE0 {E:Int} {own:List qam} (g:∀s ∈ own,s.good/\OkN s.e):L Tr (qcD (qxZ E own)) (qxY E own):=by
 unfold qxZ qxY
 cases E == 1 with
 | true=>
  exact qk0 ((sp0.a0 ((kwL (w:=[99,111,110]) rfl).a0 ((kwL (w:=[101,120,116]) rfl).a0 ((L.name (u:=[105,110,116]) rfl).nb L59 (by simp;rfl) (by simp))))).cast rfl rfl)
 | false=>
  cases E == 2 with
  | true=>exact qjq (L.name (u:=[99,111,110]) rfl) own λs hs=>qxi (g s hs).1 (g s hs).2
  | false=>exact qAo
theorem qBU {m:qm} (g:m.ga) (n:m.num):L Tr (qcD (qod m)) (qfK m):=by
 obtain ⟨e,he,ge⟩:=g.ta
 have ta:L Tr (qcD (m.ta.map λs=>[32,32] ++ taT s)) (taK m.ta):=qdR m.ta λs hs=>by
  rw [he,List.mem_singleton] at hs
  subst hs
  exact (sp0.a0 ((kwL (w:=[116,97]) rfl).a0 (L.go (qBF 20 s ge (n.ta s (by rw [he];simp))) L59 (by simp;rfl) (by simp)))).cast rfl rfl
 exact (qfb (qdR (kw:=qdQ [118,97,114] qam.k) m.vars λs hs=>(sp0.a0 (kwL (w:=[118,97,114]) rfl)).a0 (qxi (g.vars.2 s hs) (n.vars s hs)))
  (qfb ta (qfb (qdR (kw:=qdQ [101,109,105,116] qab.k) m.emits λs hs=>sp0.a0 (qCf (g.emits.2 s hs) (n.emits s hs).1 (n.emits s hs).2))
   (qfb (qjq (L.name (u:=[105,110,116]) rfl) m.int λs hs=>qxi (g.int.2 s hs) (n.int s hs))
    (qfb (qjq (L.name (u:=[101,120,116]) rfl) m.ext λs hs=>qxi (g.ext.2 s hs) (n.ext s hs)) (qE0 λs hs=>⟨g.own.2 s hs,n.own s hs⟩)))))).cast rfl (by simp [qfK,kwl])
theorem qJf {m:qm} (g:m.good) (n:m.num):L Tr (qcD (inL m)) (kwl [105,110] qN.k m.ins ++ (kwl [111,117,116] qN.k m.outs ++ (bif m.coupled then qfP m else qfK m))):=by
 refine qfb (qdR (kw:=qdQ [105,110] qN.k) m.ins λs hs=>(sp0.a0 (kwL (w:=[105,110]) rfl)).a0 (qyx (g.ins.2 s hs))) (qfb (qdR (kw:=qdQ [111,117,116] qN.k) m.outs λs hs=>(sp0.a0 (kwL (w:=[111,117,116]) rfl)).a0 (qyx (g.outs.2 s hs))) ?_)
 have gb:=g.body
 cases hc:m.coupled with
 | true=>rw [hc] at gb;exact qB8 gb n
 | false=>rw [hc] at gb;exact qBU gb n
theorem qvb (a b:Str) (l:List Str):qbW a b l ≠ []:=by unfold qbW;cases l.isEmpty <;> simp
theorem qv2 {m:qm} (g:m.good) (h:inL m = []):kwl [105,110] qN.k m.ins ++ (kwl [111,117,116] qN.k m.outs ++ (bif m.coupled then qfP m else qfK m)) = []:=by
 have gb:=g.body
 rw [inL,List.append_eq_nil_iff,List.append_eq_nil_iff,List.map_eq_nil_iff,List.map_eq_nil_iff] at h
 obtain ⟨h1,h2,h3⟩:=h
 rw [h1,h2]
 cases hc:m.coupled with
 | true=>
  rw [hc,cond_true,qon,List.append_eq_nil_iff,List.append_eq_nil_iff,List.map_eq_nil_iff,List.map_eq_nil_iff] at h3
  obtain ⟨h4,h5,h6⟩:=h3
  have h7:m.rules = []:=by
   cases hr:m.rules with
   | nil=>rfl
   | cons r l=>
    rw [hr,List.map_cons,List.flatten_cons,List.append_eq_nil_iff] at h6
    exact absurd h6.1 (qvb _ _ _)
  rw [cond_true,qfP,h4,h5,h7]
  rfl
 | false=>
  rw [hc] at gb h3
  obtain ⟨e,he,_⟩:=gb.ta
  rw [cond_false,qod,he] at h3
  simp at h3
theorem qCp {m:qm} (g:qy m.name = true):L Nl (qgq m) [nm0 (bif m.coupled then [99,111,117,112,108,101,100] else [97,116,111,109,105,99]),nm0 m.name]:=by
 unfold qgq
 cases m.coupled with
 | true=>exact (kwL (w:=[99,111,117,112,108,101,100]) rfl).a0 (L.name (qaQ g))
 | false=>exact (kwL (w:=[97,116,111,109,105,99]) rfl).a0 (L.name (qaQ g))
theorem qAj {m:qm} (g:m.good) (n:m.num):L Tr (qcD (qfn m)) (qbD m):=by
 have hd:=qCp g.name
 have hi:=qJf g n
 rw [qfn]
 cases he:(inL m).isEmpty with
 | true=>
  rw [List.isEmpty_iff] at he
  have h0:=qv2 g he
  refine (qk0 (hd.nb sp5 (by simp;rfl) (by simp))).cast rfl ?_
  have e:∀a b c d:List PT,a ++ (b ++ (c ++ d)) = (a ++ (b ++ c)) ++ d:=λa b c d=>by simp
  rw [qbD,e,h0]
  rfl
 | false=>
  exact (qfb (qk0 (hd.nb sp6 (by simp;rfl) (by simp))) (qfb hi (qk0 qEB))).cast (by simp) (by simp [qbD])
theorem qnE:∀l:List qm,(∀m ∈ l,m.good/\m.num)->L Tr (qcD (qcd l)) ((l.map qbD).flatten)
 | [],_=>qAo
 | m :: l,h=>(qfb (qAj (h m (by simp)).1 (h m (by simp)).2) (qnE l λx hx=>h x (by simp [hx]))).cast (by simp [qcd]) (by simp)
theorem qDw {p:qap} (g:p.good) (n:∀m ∈ p.models,m.num):L Tr (qcD (qbF p)) (qh6 p):=
 qfb (qnE p.models λm hm=>⟨g.models.2.2 m hm,n m hm⟩) (qk0 ((kwL (w:=[114,111,111,116]) rfl).a0 ((L.name (qaQ g.root)).nb L59 (by simp;rfl) (by simp))))
theorem qpL {p:qap} (g:p.good) (n:∀m ∈ p.models,m.num):∃us,us.map tri = qh6 p/\RW (qcD (qbF p)) 0 (us ++ [⟨4,[],0,(qcD (qbF p)).length⟩]) none:=by
 obtain ⟨us,h1,h2⟩:=qDw g n [] [] [⟨4,[],0,(qcD (qbF p)).length⟩] none trivial (by
  have:=RW.fin (s:=qcD (qbF p))
  simpa using this)
 exact ⟨us,h1,by simpa using h2⟩
section
variable {ws:List Tok} {n:Nat} {h:List qh}
theorem qDx:X 21 = some (qer 4000 c21):=Eq.trans rfl rfl
theorem qBM (aS:List qd) (h:List qh):Wd (.fn 21 [] []) aS h = qfG c21.results h (gW h.length Wd c21.d c21.body ⟨aS.map qd.dim ++ List.replicate (c21.ntmps - aS.length) (.tup []),h,false⟩):=by
 rw [Wd,qg3 qei qDx,qzV zk zk]
 simp only [jW,jF]
theorem qAU {s:Str} (hs:qqh s ws) {ms:List qd} {rt:Str} (hm:∀n,qv n ms = true) (hr:∀(h:List qh) (i:Nat),h[i]? = some (PB ws 0)->Wd (.fn 22 [] []) [.ptr i 0] h = some (.ret (.agg [.lst ms (fl ms.isEmpty),.str rt]),h.set i (PB ws n),false)):Wd (.fn 21 [] []) [.str s,.fn 22 [] []] h = some (.ret (.tup [.agg [.lst ms (fl ms.isEmpty),.str rt],.int .i64 0,.int .i64 0]),h,false):=by
 have hw:=hs (h ++ [.cells [.lst [] .full,.str []],.cells [.int .i64 0],.cells [.int .i64 0]])
 have I:Nat.ble h.length (h.length + 1) = true:=qj zo
 have E:Nat.ble h.length (h.length + 1 + 1) = true:=qj zo
 have hp:=hr (h ++ [.cells [.lst [] .full,.str []],.cells [.int .i64 0],.cells [.int .i64 0],PB ws 0]) (h.length + 3) (by rw [List.getElem?_append_right zo];simp)
 have z0:((0:Nat):Int) = 0:=Eq.trans rfl rfl
 rw [PBi,PBi,z0] at hp
 rw [qBM]
 simp only [c21,qyg,qyf,qyb,qvn,dW,qnF,qq3,qDr,qxy,qJ,sT.1,sC.1,qe,Nat.testBit,seval,-rN,qwV,hw,hp,I,E,qa9,hm]
theorem qAR {s:Str} {ms:List qd} {rt:Str} {p err:Int} (hm:∀n,qv n ms = true) (hr:∀h,Wd (.fn 21 [] []) [.str s,.fn 22 [] []] h = some (.ret (.tup [.agg [.lst ms (fl ms.isEmpty),.str rt],.int .i64 p,.int .i64 err]),h,false)):Wd (.fn 9 [] []) [.str s] h = some (.ret (.tup [.agg [.lst ms (fl ms.isEmpty),.str rt],.int .i64 p,.int .i64 err]),h,false):=by
 have E:Nat.ble h.length (h.length + 1) = true:=qj zo
 rw [ql 9 c9]
 simp only [c9,sT.1,sC.1,qe,seval,-rN,hr,qa9,hm]
theorem qDz {s:Str} (hs:qqh s ws) (hw:WF ws) {p:qap} (g:p.good) (E:See ws 0 (qh6 p ++ [(4,[],0)])) (h:List qh):Wd (.fn 9 [] []) [.str s] h = some (.ret (.tup [p.pe,.int .i64 0,.int .i64 0]),h,false):=by
 have:=qAR (s:=s) (ms:=p.models.map qm.pe) (rt:=p.root) (p:=0) (err:=0) (h:=h) (λn=>qe0 n _) λh=>qAU hs (λn=>qe0 n _) λh i hi=>by
  have:=qtF hw g E h i hi
  rw [qap.pe,<-qhV qm.pe] at this
  exact this
 rw [qhV] at this
 exact this
end
theorem qq9 {c:UInt8} (hd:qag c = true):48 <= c.toNat/\c.toNat <= 57:=by
 simp only [qag,qav,jk,decide_eq_true_eq] at hd
 omega
theorem qiL:∀s:Str,Lib.indexByte s 10 = qdP s
 | []=>rfl
 | c :: s=>by
  have ih:=qiL s
  rw [Lib.indexByte]
  simp only [qdP,qcw,List.findIdx?_cons] at ih ⊢
  cases hb:(c == 10) with
  | true=>simp
  | false=>
   simp only [Bool.false_eq_true,if_false]
   rw [ih]
   cases hf:List.findIdx? (λx=>x == 10) s with
   | none=>simp
   | some k=>simp
theorem qz2:qdh:=by
 intro s h
 rw [show Wd = W T.get X from rfl,qg3 qei (show X 162 = some qhN from rfl)]
 show some (qdf.ret (qd.int .i64 (Lib.indexByte s ((10:Int).toNat.toUInt8))),h,false) = _
 rw [show ((10:Int).toNat.toUInt8) = 10 from rfl,qiL]
theorem qgX:∀(l:Str) (acc:Nat),l.all qag = true->acc < 18446744073709551616->
  (Lib.parseUint10 acc l = .ok (l.foldl (λa c=>a * 10 + (c.toNat - 48)) acc)/\l.foldl (λa c=>a * 10 + (c.toNat - 48)) acc < 18446744073709551616)\/
  (Lib.parseUint10 acc l = .range/\18446744073709551616 <= l.foldl (λa c=>a * 10 + (c.toNat - 48)) acc)
 | [],acc,_,h=>.inl ⟨rfl,h⟩
 | c :: l,acc,hd,h=>by
  rw [jB,jk] at hd
  obtain ⟨d1,d2⟩:=qq9 hd.1
  have mono:∀(l:Str) (a b:Nat),a <= b->l.foldl (λa c=>a * 10 + (c.toNat - 48)) a <= l.foldl (λa c=>a * 10 + (c.toNat - 48)) b:=by
   intro l
   induction l with
   | nil=>intro a b h;exact h
   | cons c l ih=>intro a b h;exact ih _ _ (by show a * 10 + _ <= b * 10 + _;omega)
  have grow:∀(l:Str) (a:Nat),a <= l.foldl (λa c=>a * 10 + (c.toNat - 48)) a:=by
   intro l
   induction l with
   | nil=>intro a;exact Nat.le_refl _
   | cons c l ih=>intro a;exact jn (by show a <= a * 10 + _;omega) (ih _)
  rw [Lib.parseUint10,if_pos ⟨d1,d2⟩,List.foldl_cons]
  by_cases h1:1844674407370955162 <= acc
  ·rw [if_pos h1]
   exact .inr ⟨rfl,jn zo (grow l _)⟩
  ·rw [if_neg h1]
   by_cases h2:18446744073709551616 <= acc * 10 + (c.toNat - 48)
   ·rw [if_pos h2]
    exact .inr ⟨rfl,jn h2 (grow l _)⟩
   ·rw [if_neg h2]
    exact qgX l _ hd.2 zo
theorem qlJ {d:Str} (E:d ≠ []) (hd:d.all qag = true):Lib.atoiAll d = if qee d <= qdw then .ok (qee d:Nat) else .range:=by
 cases d with
 | nil=>exact absurd rfl E
 | cons c r=>
  have hc:=hd
  rw [jB,jk] at hc
  obtain ⟨d1,d2⟩:=qq9 hc.1
  have U:¬ (c.toNat = 43):=zo
  have I:¬ (c.toNat = 45):=zo
  rw [Lib.atoiAll]
  simp only [U,Lib.parseMag,reduceCtorEq,if_false,I,or_self,not_false_eq_true,true_and,false_and]
  rcases qgX (c :: r) 0 hd zo with ⟨p1,p2⟩ | ⟨p1,p2⟩
  ·rw [p1]
   by_cases hq:qee (c :: r) <= qdw
   ·rw [if_pos hq]
    show (if 9223372036854775808 <= qee (c :: r) then Lib.NumEnd.range else Lib.NumEnd.ok (qee (c :: r):Int)) = _
    rw [if_neg (by simp only [qdw] at hq;omega)]
   ·rw [if_neg hq]
    show (if 9223372036854775808 <= qee (c :: r) then Lib.NumEnd.range else Lib.NumEnd.ok (qee (c :: r):Int)) = _
    rw [if_pos (by simp only [qdw] at hq;omega)]
  ·rw [p1,if_neg]
   show ¬ qee (c :: r) <= qdw
   have Y:18446744073709551616 <= qee (c :: r):=p2
   simp only [qdw]
   omega
theorem qBT:qqc:=by
 intro d E hl hd
 have ha:=qlJ E hd
 have hb:Nat.ble d.length 100000 = true:=Nat.ble_eq_true_of_le hl
 refine ⟨λh=>?_,λh=>?_⟩
 ·rw [if_pos h] at ha
  intro hp
  obtain ⟨t,ht⟩ :∃t,X 187 = some (qip t):=⟨_,rfl⟩
  rw [show Wd = W T.get X from rfl,qg3 qei ht]
  simp only [qip,jW,jF,hb,cond_true,ha]
 ·rw [if_neg zo] at ha
  intro hp
  obtain ⟨t,ht⟩ :∃t,X 187 = some (qip t):=⟨_,rfl⟩
  refine ⟨Lib.atoiSat d,t,.undef,[],?_⟩
  rw [show Wd = W T.get X from rfl,qg3 qei ht]
  simp only [qip,jW,jF,hb,cond_true,ha]
theorem qDF {ws:List Tok} {ks:List PT} (h:ws.map tri = ks):See ws 0 ks:=by
 subst h
 intro i t ht
 rw [List.getElem?_map] at ht
 have hi:i < ws.length:=Decidable.byContradiction λhc=>by rw [List.getElem?_eq_none zo] at ht;cases ht
 rw [qj7 hi] at ht
 cases ht
 rw [Nat.zero_add]
 exact ⟨hi,rfl⟩
theorem qtN {p:qap} (g:p.good) (n:∀m ∈ p.models,m.num) (hl:(qcD (qbF p)).length <= 16384) (G:List qh):Wd (.fn 9 [] []) [.str (qcD (qbF p))] G = some (.ret (.tup [p.pe,.int .i64 0,.int .i64 0]),G,false):=by
 obtain ⟨us,h1,hW⟩:=qpL g n
 have I:=hW.words qBT zo
 have U:=hW.le
 obtain ⟨hw,h0⟩:=hW.wf hl
 have hS:qqh (qcD (qbF p)) (us ++ [⟨4,[],0,(qcD (qbF p)).length⟩]):=λh=>qA1 qz2 hl I zo
 have E:See (us ++ [⟨4,[],0,(qcD (qbF p)).length⟩]) 0 (qh6 p ++ [(4,[],0)]):=qDF (by rw [List.map_append,h1];rfl)
 exact qDz hS hw g E G
theorem qf4 (n:Nat) (v:qd) (H:List qh) (e:Bool):∃g e',some (leave n (.ret v) H e) = some (.ret v,g,e'):=by
 simp only [leave]
 cases ((!e || n == 0) && v.lower n) <;> exact ⟨_,_,rfl⟩
theorem qDe {m:qm} (h:qff OkN m):m.num:=
 ⟨h.vars,h.ta,λs hs=>h.emits s hs,h.int,h.ext,h.own,h.rules⟩
theorem qkg {p:qap} (a7:∀G,Wd (.fn 5 [] []) [] G = some (.ret (.bool true),G,false)) (hA:∀m ∈ p.models,qBJ m) (h:List qh) :
  ∃g e,Wd (.fn 3 [] []) [p.enc] h = some (.ret (.bool true),g,e):=by
 obtain ⟨sm,E,hS⟩:=quY (λm hm=>(hA m hm).num) (h ++ [.cells p.cs])
 rcases Decidable.em (sm = 0) with rfl | h0
 ·obtain ⟨l,r⟩:=p
  rw [qap.enc,qap.cs] at *
  simp only at E ⊢
  rw [ql 3 c3]
  simp only [c3,sT.1,sC.1,qe,qw,seval,-rN,a7,E]
  first | exact qf4 .. | exact ⟨_,_,rfl⟩
 ·have hG:∀m ∈ p.models,qff ExG m:=λm hm=>exG ((hS h0).2 m hm).2 (hA m hm).ints
  have hR:=λG=>qwY (p:=p) (by have:=(hS h0).1;omega) (λm hm=>qtd ((hS h0).2 m hm).1 (hG m hm) (hA m hm).acts) G
  have hn:∀m ∈ p.models,m.num:=λm hm=>qDe (hA m hm).ints
  have z0:(sm == 0) = false:=by simpa using h0
  have hP:=λ(v:qd) (hv:qbM v = p.enc) G=>qn4 (b:=qk7 p) hv hR (λhb=>qwX hb hG) G
  cases hb:qk7 p with
  | false=>
   rw [hb] at hP hR
   have hw:qbM p.enc = p.enc:=by
    obtain ⟨l,r⟩:=p
    have h2:=λk=>qbn (f:=qm.enc) (g:=qm.enc) (l:=l) (λm _=>qlp m) k
    rw [qap.enc,qap.cs,qbM]
    simp only [qbd,h2]
    rfl
   have I:=hP _ hw
   simp only [qwZ,cond_false,qcD,List.map_nil,List.flatten_nil] at I
   clear hP hw hG hA hn hS
   obtain ⟨l,r⟩:=p
   rw [qap.enc,qap.cs] at *
   simp only at E ⊢
   rw [ql 3 c3]
   simp only [c3,sT.1,sC.1,qe,qw,seval,-rN,a7,E,z0,I,hR]
   first | exact qf4 .. | exact ⟨_,_,rfl⟩
  | true=>
   rw [hb] at hP hR
   obtain ⟨hg,hl⟩:=qtE hb
   obtain ⟨w1,w2⟩:=qBu p hl
   have I:=hP _ w2
   have a8:=hP _ w1
   simp only [qwZ,cond_true] at I a8
   have a1:=λY G=>qtN (p:=p) hg hn Y G
   have U:=λG=>qyI (p:=p) (by have:=hg.models.1;omega) (λm hm=>qvQ (hg.models.2.2 m hm) (hl m hm)) w2 w1 G
   have a6:=λk=>qe0 k p.models
   clear hP hG hA hn hS w1 w2 hR
   generalize qcD (qbF p) = s at *
   have aa:(s == s) = true:=by simp
   clear hg hl hb
   rcases Nat.lt_or_ge 16384 s.length with Y | Y
   ·have c1:ilt 16384 (s.length:Int) = true:=by rw [qX];simp;omega
    clear a1 a8 U a6
    obtain ⟨l,r⟩:=p
    rw [qap.enc,qap.cs] at *
    simp only at E ⊢
    rw [ql 3 c3]
    simp only [c3,sT.1,sC.1,qe,qw,seval,-rN,a7,E,z0,I,c1]
    first | exact qf4 .. | exact ⟨_,_,rfl⟩
   ·have c1:ilt 16384 (s.length:Int) = false:=by rw [qX];simp;omega
    have a1:=a1 Y
    obtain ⟨l,r⟩:=p
    rw [qap.enc,qap.cs] at *
    simp only [qap.pe] at E a1 a8 U a6 I ⊢
    generalize l.isEmpty = b at *
    generalize l.map qm.pe = ms at *
    generalize l.map qm.enc = ns at *
    rw [ql 3 c3]
    simp only [c3,sT.1,sC.1,qe,qw,seval,-rN,a7,E,z0,I,a8,a1,U,a6,c1,qa9]
    first | exact qf4 .. | exact ⟨_,_,rfl⟩
theorem qEP (h:List qh):Wd (.fn 5 [] []) [] h = some (.ret (.bool true),h,false):=by
 rw [show Wd = W T.get X from rfl,qg3 qei (show X 5 = some qfs from rfl)]
 rfl
theorem qlA {p:qap} (hA:∀m ∈ p.models,qBJ m) (h:List qh):∃g e,Wd (.fn 3 [] []) [p.enc] h = some (.ret (.bool true),g,e):=qkg qEP hA h
end Go.Proofs.YtcbfifamliijlaaGreatDoor.AE
namespace Go.Proofs.YtcbfifamliijlaaGreatDoor
open Go.AE (zo zk)
theorem mxl {n:Nat} (h:n <= Go.maxLen):n <= 9223372036854775807:=h
theorem qkC {n:Nat} {ws:List Go.AE.qd} (h:Go.AE.qdq Tryz.prog n 3 ws):∃z,ws = [.int .i64 z]/\z <= 9223372036854775807:=by
 cases n with
 | zero=>exact h.elim
 | succ n=>
  simp only [Go.AE.qdq,Tryz.underlying3] at h
  obtain ⟨z,rfl,hz⟩:=h
  simp [Lit.wf,IntKind.min,IntKind.max,IntKind.bits,IntKind.signed] at hz
  exact ⟨z,rfl,zo⟩
theorem qaL {P:Program} {n:Nat} {t:TypeId} {ws:List Go.AE.qd} {fs:Array Field} (h:Go.AE.qdq P n t ws) (hu:P.underlying t = some (.struct fs)):∃m E,n = m + 1/\ws = List.flatten E/\Go.AE.qjg (Go.AE.qdq P m) (fs.toList.map (·.type)) E:=by
 cases n with
 | zero=>exact h.elim
 | succ n=>
  simp only [Go.AE.qdq,hu] at h
  obtain ⟨E,h1,h2⟩:=h
  exact ⟨n,E,rfl,h1,h2⟩
theorem qbw {P:Program} {n:Nat} {t:TypeId} {ws:List Go.AE.qd} (h:Go.AE.qdq P n t ws) (hu:P.underlying t = some .string):∃s,ws = [.str s]/\AE.qlB s:=by
 cases n with
 | zero=>exact h.elim
 | succ n=>
  simp only [Go.AE.qdq,hu] at h
  exact ⟨_,h.choose_spec.1,mxl h.choose_spec.2⟩
theorem qrM {P:Program} {n:Nat} {t:TypeId} {ws:List Go.AE.qd} (h:Go.AE.qdq P n t ws) (hu:P.underlying t = some .bool):∃b,ws = [.bool b]:=by
 cases n with
 | zero=>exact h.elim
 | succ n=>
  simp only [Go.AE.qdq,hu] at h
  exact h
theorem qCe {P:Program} {e:TypeId} (h:Go.AE.qcj P e = true) (x:List Go.AE.qd):Go.AE.el P e x = .agg x:=by
 unfold Go.AE.el
 rw [h]
 rfl
theorem qyl {α β γ:Type} {f:α->β} {g:γ->β} {Q:γ->Prop}:∀xs:List α,(∀x ∈ xs,∃y,f x = g y/\Q y)->∃ys:List γ,xs.map f = ys.map g/\∀y ∈ ys,Q y
 | [],_=>⟨[],rfl,λ_ h=>by cases h⟩
 | x :: xs,h=>by
  obtain ⟨y,h1,h2⟩:=h x List.mem_cons_self
  obtain ⟨ys,h3,h4⟩:=qyl xs λz hz=>h z (List.mem_cons_of_mem _ hz)
  refine ⟨y :: ys,by rw [List.map_cons,List.map_cons,h1,h3],λz hz=>?_⟩
  rcases List.mem_cons.1 hz with rfl | hz
  ·exact h2
  ·exact h4 z hz
theorem qcU {n:Nat} {t e:TypeId} {ws:List Go.AE.qd} {γ:Type} {g:γ->Go.AE.qd} {Q:γ->Prop} (h:Go.AE.qdq Tryz.prog n t ws) (hu:Tryz.prog.underlying t = some (.slice e)) (hs:Go.AE.qcj Tryz.prog e = true) (hk:∀m,m < n->∀x,Go.AE.qdq Tryz.prog m e x->∃y,Go.AE.qd.agg x = g y/\Q y):∃ys:List γ,ws = [.lst (ys.map g) .no]/\AE.qe9 ys/\∀y ∈ ys,Q y:=by
 cases n with
 | zero=>exact h.elim
 | succ m=>
  simp only [Go.AE.qdq,hu] at h
  obtain ⟨xs,rfl,hl,hx⟩:=h
  obtain ⟨ys,h1,h2⟩:=qyl (f:=Go.AE.el Tryz.prog e) (g:=g) (Q:=Q) xs λx E=>by
   rw [qCe hs]
   exact hk m zo x (hx x E)
  have:xs.length = ys.length:=by have:=congrArg List.length h1;simpa using this
  exact ⟨ys,by rw [h1],mxl (this▸hl),h2⟩
theorem qfT (n:Nat):∀ws:List Go.AE.qd,Go.AE.qdq Tryz.prog n 37 ws->∃e:AE.Exl,ws = AE.exC e/\AE.OkN e:=by
 induction n using Nat.strongRecOn with
 | ind n ih=>
  intro ws h
  obtain ⟨m,I,rfl,rfl,h1⟩:=qaL h Tryz.underlying37
  match I,h1 with
  | [p,q,r,r2,l],⟨h2,h3,h4,E,h5,_⟩=>
   obtain ⟨z1,rfl,_⟩:=qkC h2
   obtain ⟨z2,rfl,hz⟩:=qkC h3
   obtain ⟨s,rfl,_⟩:=qbw h4 Tryz.underlying9
   obtain ⟨s2,rfl,_⟩:=qbw E Tryz.underlying9
   obtain ⟨ys,rfl,_,hy⟩:=qcU (g:=AE.exV) (Q:=AE.OkN) h5 Tryz.underlying35 zk λk hk x hx=>by
    obtain ⟨e,rfl,h6⟩:=ih k zo x hx
    exact ⟨e,(AE.qoA e).symm,h6⟩
   refine ⟨.mk z1 z2 s s2 ys,rfl,?_⟩
   rw [AE.OkN]
   exact ⟨hz,hy⟩
theorem quz (n:Nat):∀ws:List Go.AE.qd,Go.AE.qdq Tryz.prog n 76 ws->∃t:AE.Tp,ws = t.enc:=by
 induction n using Nat.strongRecOn with
 | ind n ih=>
  intro ws h
  obtain ⟨m,E,rfl,rfl,h1⟩:=qaL h Tryz.underlying76
  match E,h1 with
  | [p,l],⟨h2,h5,_⟩=>
   obtain ⟨z1,rfl,_⟩:=qkC h2
   obtain ⟨ys,rfl,_⟩:=qcU (g:=AE.tpV) (Q:=λ_=>True) h5 Tryz.underlying74 zk λk hk x hx=>by
    obtain ⟨e,rfl⟩:=ih k zo x hx
    exact ⟨e,rfl,trivial⟩
   exact ⟨.mk z1 ys,by rw [AE.Tp.enc];rfl⟩
section
variable {n:Nat} {ws:List Go.AE.qd}
theorem qiH (h:Go.AE.qdq Tryz.prog n 35 ws):∃l:List AE.Exl,ws = [.lst (l.map AE.exV) .no]/\AE.qe9 l/\∀y ∈ l,AE.OkN y:=
 qcU h Tryz.underlying35 zk λk hk x hx=>by
  obtain ⟨e,rfl,h6⟩:=qfT k x hx
  exact ⟨e,(AE.qoA e).symm,h6⟩
theorem qi2 (h:Go.AE.qdq Tryz.prog n 41 ws):∃l:List AE.qN,ws = [.lst (l.map AE.qN.enc) .no]/\AE.qe9 l/\∀y ∈ l,True:=
 qcU h Tryz.underlying41 zk λk hk x hx=>by
  obtain ⟨m,E,rfl,rfl,h1⟩:=qaL hx Tryz.underlying78
  match E,h1 with
  | [p,t],⟨h2,h3,_⟩=>
   obtain ⟨s,rfl,_⟩:=qbw h2 Tryz.underlying9
   obtain ⟨t,rfl⟩:=quz _ _ h3
   exact ⟨⟨s,t⟩,by simp [AE.qN.enc],trivial⟩
theorem qgf (h:Go.AE.qdq Tryz.prog n 42 ws):∃l:List AE.qam,ws = [.lst (l.map AE.qam.enc) .no]/\AE.qe9 l/\∀y ∈ l,AE.OkN y.e:=
 qcU h Tryz.underlying42 zk λk hk x hx=>by
  obtain ⟨m,E,rfl,rfl,h1⟩:=qaL hx Tryz.underlying80
  match E,h1 with
  | [p,t],⟨h2,h3,_⟩=>
   obtain ⟨s,rfl,_⟩:=qbw h2 Tryz.underlying9
   obtain ⟨t,rfl,ho⟩:=qfT _ _ h3
   exact ⟨⟨s,t⟩,by simp [AE.qam.enc],ho⟩
theorem qoz (h:Go.AE.qdq Tryz.prog n 43 ws):∃l:List AE.qab,ws = [.lst (l.map AE.qab.enc) .no]/\AE.qe9 l/\∀y ∈ l,AE.qe9 y.ifs/\AE.OkN y.e/\∀e ∈ y.ifs,AE.OkN e:=
 qcU h Tryz.underlying43 zk λk hk x hx=>by
  obtain ⟨m,E,rfl,rfl,h1⟩:=qaL hx Tryz.underlying53
  match E,h1 with
  | [p,t,u],⟨h2,h3,h4,_⟩=>
   obtain ⟨s,rfl,_⟩:=qbw h2 Tryz.underlying9
   obtain ⟨t,rfl,ho⟩:=qfT _ _ h3
   obtain ⟨l,rfl,hn,hl⟩:=qiH h4
   exact ⟨⟨s,t,l⟩,by simp [AE.qab.enc],hn,ho,hl⟩
theorem qpF (h:Go.AE.qdq Tryz.prog n 44 ws):∃l:List AE.qaw,ws = [.lst (l.map AE.qaw.enc) .no]/\AE.qe9 l/\∀y ∈ l,True:=
 qcU h Tryz.underlying44 zk λk hk x hx=>by
  obtain ⟨m,E,rfl,rfl,h1⟩:=qaL hx Tryz.underlying115
  match E,h1 with
  | [p,t],⟨h2,h3,_⟩=>
   obtain ⟨s,rfl,_⟩:=qbw h2 Tryz.underlying9
   obtain ⟨t,rfl,_⟩:=qbw h3 Tryz.underlying9
   exact ⟨⟨s,t⟩,rfl,trivial⟩
theorem qna (h:Go.AE.qdq Tryz.prog n 119 ws):∃l:AE.qej,ws = [.str l.part,.str l.port]/\AE.qlB l.part/\AE.qlB l.port:=by
 obtain ⟨m,E,rfl,rfl,h1⟩:=qaL h Tryz.underlying119
 match E,h1 with
 | [p,t],⟨h2,h3,_⟩=>
  obtain ⟨s,rfl,hs⟩:=qbw h2 Tryz.underlying9
  obtain ⟨t,rfl,ht⟩:=qbw h3 Tryz.underlying9
  exact ⟨⟨s,t⟩,rfl,hs,ht⟩
theorem qkR (h:Go.AE.qdq Tryz.prog n 121 ws):∃l:AE.qad,ws = [.str l.frm.part,.str l.frm.port,.str l.to.part,.str l.to.port]/\(AE.qlB l.frm.part/\AE.qlB l.frm.port)/\AE.qlB l.to.part/\AE.qlB l.to.port:=by
 obtain ⟨m,E,rfl,rfl,h1⟩:=qaL h Tryz.underlying121
 match E,h1 with
 | [p,t],⟨h2,h3,_⟩=>
  obtain ⟨s,rfl,hs⟩:=qna h2
  obtain ⟨t,rfl,ht⟩:=qna h3
  exact ⟨⟨s,t⟩,rfl,hs,ht⟩
theorem qpk (h:Go.AE.qdq Tryz.prog n 45 ws):∃l:List AE.qad,ws = [.lst (l.map AE.qad.enc) .no]/\AE.qe9 l/\∀y ∈ l,True:=
 qcU h Tryz.underlying45 zk λk hk x hx=>by
  obtain ⟨l,rfl,_⟩:=qkR hx
  exact ⟨l,rfl,trivial⟩
theorem qql (h:Go.AE.qdq Tryz.prog n 54 ws):∃l:List AE.qbo,ws = [.lst (l.map AE.qbo.enc) .no]/\AE.qe9 l/\∀y ∈ l,AE.qBG y:=
 qcU h Tryz.underlying54 zk λk hk x hx=>by
  obtain ⟨m,E,rfl,rfl,h1⟩:=qaL hx Tryz.underlying162
  match E,h1 with
  | [p,q,t,u],⟨h2,h3,h4,h5,_⟩=>
   obtain ⟨z,rfl,_⟩:=qkC h2
   obtain ⟨s,rfl,_⟩:=qbw h3 Tryz.underlying9
   obtain ⟨t,rfl,_⟩:=qbw h4 Tryz.underlying9
   obtain ⟨l,rfl,⟨a,b⟩,c,d⟩:=qkR h5
   exact ⟨⟨z,s,t,l⟩,rfl,⟨a,b,c,d⟩⟩
theorem qpQ (h:Go.AE.qdq Tryz.prog n 46 ws):∃l:List AE.qQ,ws = [.lst (l.map AE.qQ.enc) .no]/\AE.qe9 l/\∀y ∈ l,AE.OkN y.e/\∀a ∈ y.acts,AE.qBG a:=
 qcU h Tryz.underlying46 zk λk hk x hx=>by
  obtain ⟨m,E,rfl,rfl,h1⟩:=qaL hx Tryz.underlying56
  match E,h1 with
  | [p,t],⟨h2,h3,_⟩=>
   obtain ⟨s,rfl,ho⟩:=qfT _ _ h2
   obtain ⟨t,rfl,_,ht⟩:=qql h3
   exact ⟨⟨s,t⟩,by simp [AE.qQ.enc],ho,ht⟩
theorem qpt (h:Go.AE.qdq Tryz.prog n 48 ws):∃m:AE.qm,Go.AE.qd.agg ws = m.enc/\AE.qBJ m:=by
 obtain ⟨m,a6,rfl,rfl,h1⟩:=qaL h Tryz.underlying48
 match a6,h1 with
 | [a,b,c,d,e,f,g,i,j,k,l,p,q,r],⟨ha,hb,hc,hd,he,hf,hg,hi,hj,hk,hl,hp,hq,hr,_⟩=>
  obtain ⟨nm,rfl,_⟩:=qbw ha Tryz.underlying9
  obtain ⟨cb,rfl⟩:=qrM hb Tryz.underlying4
  obtain ⟨ins,rfl,n1,_⟩:=qi2 hc
  obtain ⟨outs,rfl,n2,_⟩:=qi2 hd
  obtain ⟨vars,rfl,n3,o3⟩:=qgf he
  obtain ⟨ta,rfl,n4,o4⟩:=qiH hf
  obtain ⟨Y,rfl,n5,o5⟩:=qoz hg
  obtain ⟨int,rfl,n6,o6⟩:=qgf hi
  obtain ⟨ext,rfl,n7,o7⟩:=qgf hj
  obtain ⟨a1,rfl,_⟩:=qkC hk
  obtain ⟨own,rfl,n8,o8⟩:=qgf hl
  obtain ⟨I,rfl,_,_⟩:=qpF hp
  obtain ⟨U,rfl,_,_⟩:=qpk hq
  obtain ⟨E,rfl,n9,o9⟩:=qpQ hr
  exact ⟨⟨nm,cb,ins,outs,vars,ta,Y,int,ext,a1,own,I,U,E⟩,rfl,⟨n1,n2,n3,n4,⟨n5,λx hx=>(o5 x hx).1⟩,n6,n7,n8,n9⟩,⟨o3,o4,λx hx=>(o5 x hx).2,o6,o7,o8,λr hr=>(o9 r hr).1⟩,λr hr=>(o9 r hr).2⟩
theorem qtD (h:Go.AE.qdq Tryz.prog n 24 ws):∃p:AE.qap,Go.AE.qd.agg ws = p.enc/\∀m ∈ p.models,AE.qBJ m:=by
 obtain ⟨m,E,rfl,rfl,h1⟩:=qaL h Tryz.underlying24
 match E,h1 with
 | [a,b],⟨ha,hb,_⟩=>
  obtain ⟨ms,rfl,_,hm⟩:=qcU (g:=AE.qm.enc) (Q:=AE.qBJ) ha Tryz.underlying22 zk λk hk x hx=>qpt hx
  obtain ⟨s,rfl,_⟩:=qbw hb Tryz.underlying9
  exact ⟨⟨ms,s⟩,rfl,hm⟩
end
end Go.Proofs.YtcbfifamliijlaaGreatDoor
