/- A part of the proof. No condition. -/
import Derived.Test.YtebljcklaimcfaaGreatDoorMt8
import Derived.Test.YtebljcklaimcfaaGreatDoorMt7
open Int renaming reduceNatCast'→rN
set_option maxRecDepth 100000
set_option maxHeartbeats 0
open List renaming getElem?_append_left→ja,getElem?_eq_some_iff→jd,take_append_of_le_length→jZ,getElem?_set_ne→jf,getElem?_set_self→jg,drop_eq_getElem_cons→jX,getElem?_eq_getElem→jh,length_append→ji,length_map→jU,append_assoc→jp,append_nil→jV,map_append→j5,getElem?_eq_none→jq,getElem?_map→jr,length_cons→jy,length_nil→jz,ext_getElem?→jS,mem_map→jT
open Nat renaming le_refl→jm,le_of_ble_eq_true→j4
open Option renaming map_some→jI
open Bool renaming eq_false_iff→j6
namespace Go.Proofs.YtebljcklaimcfaaGreatDoor.AE
open Go.AE
structure Vr where
 ta:Str
 nm:Str
 k:Int
 L:List qd
structure Pt where
 nm:Str
 k:Int
 L:List qd
def vrR(v:Vr):List qd:=[.str v.ta,.str v.nm,.int .i64 v.k,.lst v.L .no]
def vrV(v:Vr):qd:=.agg [.str v.ta,.str v.nm,.int .i64 v.k,.lst v.L .no]
def ptV(p:Pt):qd:=.agg [.str p.nm,.int .i64 p.k,.lst p.L .no]
def pos:List Str->Str->Nat->Int
 |[],_,_=>-1
 |x::l,s,i=>bif x==s then(i:Int)else pos l s (i+1)
theorem Fw(v:Vr):XI (vrR v):=by intro c hc;simp only[vrR,List.mem_cons,List.not_mem_nil,or_false]at hc;rcases hc with rfl|rfl|rfl|rfl<;>exact⟨rfl,rfl⟩
theorem qfo:∀vs:List Vr,XI (vs.map vrR).flatten:=by intro vs c hc;obtain⟨l,hl,hc⟩:=List.mem_flatten.1 hc;obtain⟨v,_,rfl⟩:=jT.1 hl;exact Fw v c hc
theorem qac(vs:List Vr):∀v∈vs.map vrR,v.length=4:=λv hv=>by obtain⟨x,_,rfl⟩:=jT.1 hv;rfl
def qfU(h:List qj)(vs:List Vr)(V:qd):Prop:=(vs=[]/\V=.lst [] .full)\/∃id,V=.sl id 0 vs.length vs.length 4/\h[id]?=some (.cells (vs.map vrR).flatten)
section
variable{h:List qj}
theorem qaq(y:Vr){b:Nat}{s:Str}{H:List qj}(hb:H[b]?=some (.cells [.str s])):Wd (.fn 118 [] [.ptr b 0]) [.agg [.str y.ta,.str y.nm,.int .i64 y.k,.lst y.L .no]] H=some (.ret (.bool (y.nm==s)),H,false):=by have U:∀X,(H++X)[b]?=some (.cells [.str s]):=λX=>(by rw[ja (jd.1 hb).1];exact hb);rw[Za 118 qtd];simp only[qtd,sT.1,sC.1,qe,seval,-rN,U]
theorem qap(vs:List Vr)(V:qd)(hV:qfU h vs V)(s:Str)(hl:vs.length<=100000){b:Nat}(hb:h[b]?=some (.cells [.str s])):Wd (.fn 117 [] []) [V,.fn 118 [] [.ptr b 0]] h=some (.ret (.int .i64 (pos (vs.map (·.nm)) s 0)),h,false):=by
 have aa:V.dim=V:=by rcases hV with⟨_,rfl⟩|⟨id,rfl,_⟩<;>rfl
 have ai:∀i t,ZN V i t=t:=by rcases hV with⟨_,rfl⟩|⟨id,rfl,_⟩<;>exact λ_ _=>rfl
 have af:qaH false V=some (.int .i64 (vs.length:Nat)):=by rcases hV with⟨rfl,rfl⟩|⟨id,rfl,_⟩<;>rfl
 have loop:∀q st,(∃(tt:List qd)(G:List qj)(i:Nat),st=⟨tt,G,false⟩/\tt.length=19/\G.take h.length=h/\h.length<=G.length/\lkp tt 1=.fn 118 [] [.ptr b 0]/\lkp tt 7=V/\lkp tt 8=.int .i64 (vs.length:Nat)/\lkp tt 9=.int .i64 (i:Nat)/\i+q=vs.length/\pos ((vs.map (·.nm)).drop i) s i=pos (vs.map (·.nm)) s 0)->∃x a6,qh h.length Wd (.loop WQ) st=some (x,a6)/\(∃(tt:List qd)(G:List qj),a6=⟨tt,G,false⟩/\tt.length=19/\G.take h.length=h/\((x=.exit 0/\pos (vs.map (·.nm)) s 0=-1)\/(x=.ret/\lkp tt 4=.int .i64 (pos (vs.map (·.nm)) s 0)))):=by
  refine ZQ _ (λx a6=>∃(tt:List qd)(G:List qj),a6=⟨tt,G,false⟩/\tt.length=19/\G.take h.length=h/\((x=.exit 0/\pos (vs.map (·.nm)) s 0=-1)\/(x=.ret/\lkp tt 4=.int .i64 (pos (vs.map (·.nm)) s 0)))) ?_;rintro q st ⟨tt,G,i,rfl,ht,a7,ab,e1,e7,e8,e9,ah,hR⟩;generalize he:qh h.length Wd WQ _=r;rcases Nat.lt_or_ge i vs.length with hi|hi
  ·have c1:ilt (i:Int) (vs.length:Int)=true:=qaG zo;have w:=qy (n:=i) zo;have ae:i<(vs.map (·.nm)).length:=(by simpa using hi)
   obtain⟨id,ho,hx,U⟩:∃id,G[id]?=some (.cells (vs.map vrR).flatten)/\Q2 4 V (.int .i64 (i:Nat))=some (.ptr id (i*4))/\Go.AE.cut (vs.map vrR).flatten (i*4) (some 4)=some (.agg (vrR vs[i])):=by
    rcases hV with⟨rfl,_⟩|⟨id,rfl,hid⟩;·simp at hi
    ·refine⟨id,?_,qal hi,?_⟩
     ·rw[<-a7,List.getElem?_take]at hid;split at hid;·exact hid
      ·cases hid
     ·rw[yl (qac vs) (by simpa using hi) (by rw[List.getElem_map];exact λc hc=>(Fw _ c hc).1),List.getElem_map]
   have ad:G[b]?=some (.cells [.str s]):=by
    rw[<-a7,List.getElem?_take]at hb;split at hb;·exact hb
    ·cases hb
   rw[jX ae,pos,List.getElem_map]at hR;generalize vs[i]=y at hx hR U;have hp:=qaq y (H:=G++[.cells [.str y.ta,.str y.nm,.int .i64 y.k,.lst y.L .no]]) (b:=b) (s:=s) (by rw[ja (jd.1 ad).1];exact ad);have ac:Nat.ble h.length G.length=true:=qu ab;rw[vrR]at U
   cases a8:(y.nm==s)with
   |true=>
    rw[a8,cond_true]at hR;rw[a8]at hp;simp only[WQ,sT.1,sC.1,qe,seval,-rN,ht,e1,e7,e8,e9,c1,hx,hp,ac,aa,ho,U]at he;subst he;refine .inr ⟨_,_,rfl,by simp,_,_,rfl,?_,?_,.inr ⟨rfl,?_⟩⟩;·simp only[qQ,ht]
    ·rw[jZ ab,a7]
    ·rw[<-hR];simp only[sT.1,seval,-rN,ht]
   |false=>
    rw[a8,cond_false]at hR;rw[a8]at hp;simp only[WQ,sT.1,sC.1,qe,seval,-rN,ht,e1,e7,e8,e9,c1,hx,w,hp,ac,aa,ho,U]at he;subst he;refine .inl ⟨_,q - 1,rfl,zo,_,_,i+1,rfl,?_,?_,?_,?_,?_,?_,?_,zo,hR⟩;·simp only[qQ,ht]
    ·rw[jZ ab,a7]
    ·simp;omega
    ·simp only[sT.1,sC.1,seval,-rN,e1]
    ·simp only[sT.1,sC.1,seval,-rN,e7]
    ·simp only[sT.1,sC.1,seval,-rN,e8]
    ·simp only[sT.1,seval,-rN,ht]
  ·have c1:ilt (i:Int) (vs.length:Int)=false:=qaF zo;rw[List.drop_eq_nil_of_le (by simpa using hi),pos]at hR;simp only[WQ,sT.1,sC.1,qe,seval,-rN,ht,e8,e9,c1]at he;subst he;exact .inr ⟨_,_,rfl,by simp,_,_,rfl,Y0,a7,.inl ⟨rfl,hR.symm⟩⟩
 generalize hw:Wd _ _ h=w;rw[Za 117 qtc]at hw;simp only[qtc,sT.1,sC.1,qe,seval,-rN,aa,af]at hw;generalize hr:qh h.length Wd (.loop WQ) _=r at hw;obtain⟨x,a6,rfl,tt,G,rfl,ht,hG,hq⟩:=WP hr (loop vs.length _ ⟨_,_,0,rfl,Y1,by simp,by simp,Y1,Y1,Y1,Y5,zo,rfl⟩);rcases hq with⟨rfl,hp⟩|⟨rfl,e4⟩;·simp only[sT.1,sC.1,qe,seval,-rN,ht]at hw;subst hw;rw[hp];exact congrArg some (Z6 hG rfl)
 ·simp only[sT.1,seval,-rN,e4]at hw;subst hw;exact congrArg some (Z6 hG rfl)
theorem qce(vs:List Vr)(V:qd)(hV:qfU h vs V)(s:Str)(hl:vs.length<=100000):Wd (.fn 67 [] []) [V,.str s] h=some (.ret (.int .i64 (pos (vs.map (·.nm)) s 0)),h,false):=by have U:V.dim=V:=(by rcases hV with⟨_,rfl⟩|⟨id,rfl,_⟩<;>rfl);have a6:∀i t,ZN V i t=t:=(by rcases hV with⟨_,rfl⟩|⟨id,rfl,_⟩<;>exact λ_ _=>rfl);have a7:qaH false V=some (.int .i64 (vs.length:Nat)):=(by rcases hV with⟨rfl,rfl⟩|⟨id,rfl,_⟩<;>rfl);have hp:=qap vs V (h:=h++[.cells [.str s]]) (by rcases hV with hV|⟨id,e,hid⟩;exact .inl hV;exact .inr ⟨id,e,by rw[ja (jd.1 hid).1];exact hid⟩) s hl (b:=h.length) (by rw[ZW];rfl);rw[Za 67 c67];simp only[c67,sT.1,sC.1,qe,seval,-rN,hp,U]
theorem ud(y:Pt){b:Nat}{s:Str}{H:List qj}(hb:H[b]?=some (.cells [.str s])):Wd (.fn 101 [] [.ptr b 0]) [.agg [.str y.nm,.int .i64 y.k,.lst y.L .no]] H=some (.ret (.bool (y.nm==s)),H,false):=by have U:∀X,(H++X)[b]?=some (.cells [.str s]):=λX=>(by rw[ja (jd.1 hb).1];exact hb);rw[Za 101 qu8];simp only[qu8,sT.1,sC.1,qe,seval,-rN,U]
theorem uc(vs:List Pt)(s:Str)(hl:vs.length<=100000){b:Nat}(hb:h[b]?=some (.cells [.str s])):Wd (.fn 100 [] []) [.lst (vs.map ptV) .no,.fn 101 [] [.ptr b 0]] h=some (.ret (.int .i64 (pos (vs.map (·.nm)) s 0)),h,false):=by
 have loop:∀q st,(∃(tt:List qd)(G:List qj)(i:Nat),st=⟨tt,G,false⟩/\tt.length=19/\G.take h.length=h/\h.length<=G.length/\lkp tt 1=.fn 101 [] [.ptr b 0]/\lkp tt 7=(.lst (vs.map ptV) .no)/\lkp tt 8=.int .i64 (vs.length:Nat)/\lkp tt 9=.int .i64 (i:Nat)/\i+q=vs.length/\pos ((vs.map (·.nm)).drop i) s i=pos (vs.map (·.nm)) s 0)->∃x U,qh h.length Wd (.loop Kd) st=some (x,U)/\(∃(tt:List qd)(G:List qj),U=⟨tt,G,false⟩/\tt.length=19/\G.take h.length=h/\((x=.exit 0/\pos (vs.map (·.nm)) s 0=-1)\/(x=.ret/\lkp tt 4=.int .i64 (pos (vs.map (·.nm)) s 0)))):=by
  refine ZQ _ (λx U=>∃(tt:List qd)(G:List qj),U=⟨tt,G,false⟩/\tt.length=19/\G.take h.length=h/\((x=.exit 0/\pos (vs.map (·.nm)) s 0=-1)\/(x=.ret/\lkp tt 4=.int .i64 (pos (vs.map (·.nm)) s 0)))) ?_;rintro q st ⟨tt,G,i,rfl,ht,a7,a8,e1,e7,e8,e9,ad,hR⟩;generalize he:qh h.length Wd Kd _=r;rcases Nat.lt_or_ge i vs.length with hi|hi
  ·have c1:ilt (i:Int) (vs.length:Int)=true:=qaG zo;have w:=qy (n:=i) zo;have ac:i<(vs.map (·.nm)).length:=(by simpa using hi);have hg:(vs.map ptV)[i]?=some (ptV vs[i]):=(by rw[jr,jh hi];rfl);have hx:Q2 3 (.lst (vs.map ptV) .no) (.int .i64 (i:Nat))=some (.iptr [.str vs[i].nm,.int .i64 vs[i].k,.lst vs[i].L .no] 0):=Zx hg rfl
   have ab:G[b]?=some (.cells [.str s]):=by
    rw[<-a7,List.getElem?_take]at hb;split at hb;·exact hb
    ·cases hb
   rw[jX ac,pos,List.getElem_map]at hR;generalize vs[i]=y at hx hR hg;have hp:=ud y (H:=G++[.cells [.str y.nm,.int .i64 y.k,.lst y.L .no]]) (b:=b) (s:=s) (by rw[ja (jd.1 ab).1];exact ab);have aa:Nat.ble h.length G.length=true:=qu a8;skip
   cases a6:(y.nm==s)with
   |true=>
    rw[a6,cond_true]at hR;rw[a6]at hp;simp only[Kd,sT.1,sC.1,qe,seval,-rN,ht,e1,e7,e8,e9,c1,hx,hp,aa]at he;subst he;refine .inr ⟨_,_,rfl,by simp,_,_,rfl,?_,?_,.inr ⟨rfl,?_⟩⟩;·simp only[qQ,ht]
    ·rw[jZ a8,a7]
    ·rw[<-hR];simp only[sT.1,seval,-rN,ht]
   |false=>
    rw[a6,cond_false]at hR;rw[a6]at hp;simp only[Kd,sT.1,sC.1,qe,seval,-rN,ht,e1,e7,e8,e9,c1,hx,w,hp,aa]at he;subst he;refine .inl ⟨_,q - 1,rfl,zo,_,_,i+1,rfl,?_,?_,?_,?_,?_,?_,?_,zo,hR⟩;·simp only[qQ,ht]
    ·rw[jZ a8,a7]
    ·simp;omega
    ·simp only[sT.1,sC.1,seval,-rN,e1]
    ·simp only[sT.1,sC.1,seval,-rN,e7]
    ·simp only[sT.1,sC.1,seval,-rN,e8]
    ·simp only[sT.1,seval,-rN,ht]
  ·have c1:ilt (i:Int) (vs.length:Int)=false:=qaF zo;rw[List.drop_eq_nil_of_le (by simpa using hi),pos]at hR;simp only[Kd,sT.1,sC.1,qe,seval,-rN,ht,e8,e9,c1]at he;subst he;exact .inr ⟨_,_,rfl,by simp,_,_,rfl,Y0,a7,.inl ⟨rfl,hR.symm⟩⟩
 generalize hw:Wd _ _ h=w;rw[Za 100 qu7]at hw;simp only[qu7,sT.1,sC.1,qe,seval,-rN,jU]at hw;generalize hr:qh h.length Wd (.loop Kd) _=r at hw;obtain⟨x,U,rfl,tt,G,rfl,ht,hG,hq⟩:=WP hr (loop vs.length _ ⟨_,_,0,rfl,Y1,by simp,by simp,Y1,Y1,Y1,Y5,zo,rfl⟩);rcases hq with⟨rfl,hp⟩|⟨rfl,e4⟩;·simp only[sT.1,sC.1,qe,seval,-rN,ht]at hw;subst hw;rw[hp];exact congrArg some (Z6 hG rfl)
 ·simp only[sT.1,seval,-rN,e4]at hw;subst hw;exact congrArg some (Z6 hG rfl)
theorem Lk(vs:List Pt)(s:Str)(hl:vs.length<=100000):Wd (.fn 48 [] []) [.lst (vs.map ptV) .no,.str s] h=some (.ret (.int .i64 (pos (vs.map (·.nm)) s 0)),h,false):=by have hp:=uc vs (h:=h++[.cells [.str s]]) s hl (b:=h.length) (by rw[ZW];rfl);rw[Za 48 c48];simp only[c48,sT.1,sC.1,qe,seval,-rN,hp]
end
def VS(h:List qj)(b:Nat)(vs:List Vr)(n:Nat)(V:qd):Prop:=(n=0/\V=.lst [] .full)\/∃id,V=.sl id 0 n n 4/\b<=id/\0<n/\h[id]?=some (.cells ((vs.take n).map vrR).flatten)
theorem VS.facts{h:List qj}{b n:Nat}{vs:List Vr}{V:qd}(hV:VS h b vs n V):V.dim=V/\∀i t,ZN V i t=t:=by rcases hV with⟨_,rfl⟩|⟨id,rfl,_⟩<;>exact⟨rfl,λ_ _=>rfl⟩
theorem VS.next{h:List qj}{b n base:Nat}{vs:List Vr}{V:qd}(hV:VS h b vs n V)(hb:b<=h.length)(hn:n<vs.length)(hl:vs.length<=100000): ∃V' h',hop base (.app 4) [V,.sl h.length 0 1 1 0] (h++[.cells (vrR vs[n])])=some (V',h',false)/\VS h' b vs (n+1) V'/\h'.take b=h.take b/\b<=h'.length:=by
 have h2:(h++[qj.cells (vrR vs[n])])[h.length]?=some (.cells (vrR vs[n])):=by rw[ZW];rfl
 have ht:((vs.take (n+1)).map vrR).flatten=((vs.take n).map vrR).flatten++vrR vs[n]:=by rw[List.take_succ_eq_append_getElem hn,j5,List.flatten_append];simp only[List.map_cons,List.map_nil,List.flatten_cons,List.flatten_nil,jV]
 rcases hV with⟨rfl,rfl⟩|⟨id,rfl,hid,h0,hi⟩
 ·refine⟨_,_,Wb h2 rfl (Fw _),.inr ⟨_,rfl,by simp;omega,zo,?_⟩,?_,by simp;omega⟩;·rw[ZW,ht];simp
  ·rw[jp,jZ hb]
 ·have U:id<h.length:=(jd.1 hi).1;have a6:(h++[qj.cells (vrR vs[n])])[id]?=some (.cells ((vs.take n).map vrR).flatten):=(by rw[ja U];exact hi);have hc:(((vs.take n).map vrR).flatten).length=n*4:=(by rw[Wv (qac _),jU,List.length_take,Nat.min_eq_left zo]);refine⟨_,_,WY a6 h2 rfl hc (Fw _) (qfo _) zo zo,.inr ⟨_,rfl,by simp;omega,zo,?_⟩,?_,by simp;omega⟩;·rw[show(h++[qj.cells (vrR vs[n])]).length=((h++[qj.cells (vrR vs[n])]).set id .dead).length by simp,ZW,ht];rfl
  ·rw[jZ (by simp;omega),List.take_set_of_le zo,jZ hb]
section
variable{h:List qj}
theorem qj5(y:Vr){b:Nat}{s:Str}{H:List qj}(hb:H[b]?=some (.cells [.str s])):Wd (.fn 118 [] [.ptr b 0]) [.agg [.str y.ta,.str y.nm,.int .i64 y.k,.lst y.L .no]] H=some (.ret (.bool (y.nm==s)),H,false):=by have U:∀X,(H++X)[b]?=some (.cells [.str s]):=λX=>(by rw[ja (jd.1 hb).1];exact hb);rw[Za 118 qtd];simp only[qtd,sT.1,sC.1,qe,seval,-rN,U]
theorem qj4(vs:List Vr)(s:Str)(hl:vs.length<=100000){b:Nat}(hb:h[b]?=some (.cells [.str s])):Wd (.fn 117 [] []) [.lst (vs.map vrV) .no,.fn 118 [] [.ptr b 0]] h=some (.ret (.int .i64 (pos (vs.map (·.nm)) s 0)),h,false):=by
 have loop:∀q st,(∃(tt:List qd)(G:List qj)(i:Nat),st=⟨tt,G,false⟩/\tt.length=19/\G.take h.length=h/\h.length<=G.length/\lkp tt 1=.fn 118 [] [.ptr b 0]/\lkp tt 7=(.lst (vs.map vrV) .no)/\lkp tt 8=.int .i64 (vs.length:Nat)/\lkp tt 9=.int .i64 (i:Nat)/\i+q=vs.length/\pos ((vs.map (·.nm)).drop i) s i=pos (vs.map (·.nm)) s 0)->∃x U,qh h.length Wd (.loop WQ) st=some (x,U)/\(∃(tt:List qd)(G:List qj),U=⟨tt,G,false⟩/\tt.length=19/\G.take h.length=h/\((x=.exit 0/\pos (vs.map (·.nm)) s 0=-1)\/(x=.ret/\lkp tt 4=.int .i64 (pos (vs.map (·.nm)) s 0)))):=by
  refine ZQ _ (λx U=>∃(tt:List qd)(G:List qj),U=⟨tt,G,false⟩/\tt.length=19/\G.take h.length=h/\((x=.exit 0/\pos (vs.map (·.nm)) s 0=-1)\/(x=.ret/\lkp tt 4=.int .i64 (pos (vs.map (·.nm)) s 0)))) ?_;rintro q st ⟨tt,G,i,rfl,ht,a7,a8,e1,e7,e8,e9,ad,hR⟩;generalize he:qh h.length Wd WQ _=r;rcases Nat.lt_or_ge i vs.length with hi|hi
  ·have c1:ilt (i:Int) (vs.length:Int)=true:=qaG zo;have w:=qy (n:=i) zo;have ac:i<(vs.map (·.nm)).length:=(by simpa using hi);have hg:(vs.map vrV)[i]?=some (vrV vs[i]):=(by rw[jr,jh hi];rfl);have hx:Q2 4 (.lst (vs.map vrV) .no) (.int .i64 (i:Nat))=some (.iptr [.str vs[i].ta,.str vs[i].nm,.int .i64 vs[i].k,.lst vs[i].L .no] 0):=Zx hg rfl
   have ab:G[b]?=some (.cells [.str s]):=by
    rw[<-a7,List.getElem?_take]at hb;split at hb;·exact hb
    ·cases hb
   rw[jX ac,pos,List.getElem_map]at hR;generalize vs[i]=y at hx hR hg;have hp:=qj5 y (H:=G++[.cells [.str y.ta,.str y.nm,.int .i64 y.k,.lst y.L .no]]) (b:=b) (s:=s) (by rw[ja (jd.1 ab).1];exact ab);have aa:Nat.ble h.length G.length=true:=qu a8;skip
   cases a6:(y.nm==s)with
   |true=>
    rw[a6,cond_true]at hR;rw[a6]at hp;simp only[WQ,sT.1,sC.1,qe,seval,-rN,ht,e1,e7,e8,e9,c1,hx,hp,aa]at he;subst he;refine .inr ⟨_,_,rfl,by simp,_,_,rfl,?_,?_,.inr ⟨rfl,?_⟩⟩;·simp only[qQ,ht]
    ·rw[jZ a8,a7]
    ·rw[<-hR];simp only[sT.1,seval,-rN,ht]
   |false=>
    rw[a6,cond_false]at hR;rw[a6]at hp;simp only[WQ,sT.1,sC.1,qe,seval,-rN,ht,e1,e7,e8,e9,c1,hx,w,hp,aa]at he;subst he;refine .inl ⟨_,q - 1,rfl,zo,_,_,i+1,rfl,?_,?_,?_,?_,?_,?_,?_,zo,hR⟩;·simp only[qQ,ht]
    ·rw[jZ a8,a7]
    ·simp;omega
    ·simp only[sT.1,sC.1,seval,-rN,e1]
    ·simp only[sT.1,sC.1,seval,-rN,e7]
    ·simp only[sT.1,sC.1,seval,-rN,e8]
    ·simp only[sT.1,seval,-rN,ht]
  ·have c1:ilt (i:Int) (vs.length:Int)=false:=qaF zo;rw[List.drop_eq_nil_of_le (by simpa using hi),pos]at hR;simp only[WQ,sT.1,sC.1,qe,seval,-rN,ht,e8,e9,c1]at he;subst he;exact .inr ⟨_,_,rfl,by simp,_,_,rfl,Y0,a7,.inl ⟨rfl,hR.symm⟩⟩
 generalize hw:Wd _ _ h=w;rw[Za 117 qtc]at hw;simp only[qtc,sT.1,sC.1,qe,seval,-rN,jU]at hw;generalize hr:qh h.length Wd (.loop WQ) _=r at hw;obtain⟨x,U,rfl,tt,G,rfl,ht,hG,hq⟩:=WP hr (loop vs.length _ ⟨_,_,0,rfl,Y1,by simp,by simp,Y1,Y1,Y1,Y5,zo,rfl⟩);rcases hq with⟨rfl,hp⟩|⟨rfl,e4⟩;·simp only[sT.1,sC.1,qe,seval,-rN,ht]at hw;subst hw;rw[hp];exact congrArg some (Z6 hG rfl)
 ·simp only[sT.1,seval,-rN,e4]at hw;subst hw;exact congrArg some (Z6 hG rfl)
theorem qdy(vs:List Vr)(s:Str)(hl:vs.length<=100000):Wd (.fn 67 [] []) [.lst (vs.map vrV) .no,.str s] h=some (.ret (.int .i64 (pos (vs.map (·.nm)) s 0)),h,false):=by have hp:=qj4 vs (h:=h++[.cells [.str s]]) s hl (b:=h.length) (by rw[ZW];rfl);rw[Za 67 c67];simp only[c67,sT.1,sC.1,qe,seval,-rN,hp]
end
structure Nd where
 op:Int
 n:Int
 nm:Str
 sb:Str
 pl:Int
 ins:List Int
section
variable(vn pn:List Str)
def fin(op n:Int)(nm sb:Str)(ins:List Int):Nd:=
 bif op==3 then⟨op,n,nm,[],0,ins⟩else
 bif op==4 then⟨op,n,[],[],pos vn nm 0,ins⟩else
 bif op==5 then⟨op,n,nm,sb,0,ins⟩else
 bif op==7 then⟨op,n,[],[],pos pn nm 0,ins⟩else
 bif op==8 then⟨op,n,[],[],pos pn nm 0,ins⟩else
 bif op==9 then⟨op,n,[],[],pos pn nm 0,ins⟩else
 bif op==10 then⟨op,n,[],[],pos pn nm 0,ins⟩else⟨op,n,[],[],0,ins⟩
def QP(f:Nat->Exl->List Nd)(b:Nat):List Exl->List Nd->List Int->List Nd×List Int
 |[],out,ins=>(out,ins)
 |a::aS,out,ins=>QP f b aS (out++f (b+out.length) a) (ins++[((b+(out++f (b+out.length) a).length:Nat):Int) - 1])
def low:Nat->Nat->Exl->List Nd
 |0,_,_=>[]
 |d+1,b,.mk op n nm sb aS=>(QP (low d) b aS [] []).1++[fin vn pn op n nm sb (QP (low d) b aS [] []).2]
end
theorem FG{vn pn:List Str}{d:Nat}(hd:∀b e,(low vn pn d b e).length=sz d e)(b:Nat):∀(aS:List Exl)(out:List Nd)(ins:List Int),(QP (low vn pn d) b aS out ins).1.length=out.length+(aS.map (sz d)).sum
 |[],out,ins=>by rw[QP];simp
 |a::aS,out,ins=>by rw[QP,FG hd b aS];simp[hd];omega
theorem Kt{vn pn:List Str}:∀(d b:Nat)(e:Exl),(low vn pn d b e).length=sz d e
 |0,_,_=>rfl
 |d+1,b,.mk op n nm sb aS=>by rw[low,sz,ji,FG (Kt d)];simp;omega
theorem qnN{f g:Exl->Nat}(h:∀e,f e<=g e):∀aS:List Exl,(aS.map f).sum<=(aS.map g).sum
 |[]=>jm _
 |a::aS=>by have:=qnN h aS;have:=h a;simp;omega
def ndI(x:Nd):qd:=.lst (x.ins.map (.int .i64)) (fl x.ins.isEmpty)
def ndR(x:Nd):List qd:=[.int .i64 x.op,.int .i64 x.n,.str x.nm,.str x.sb,.int .i64 x.pl,ndI x]
theorem yS(x:Nd):(ndR x).length=6:=rfl
theorem Fe(x:Nd):XI (ndR x):=by intro c hc;simp only[ndR,List.mem_cons,List.not_mem_nil,or_false]at hc;rcases hc with rfl|rfl|rfl|rfl|rfl|rfl<;>first|exact⟨rfl,rfl⟩|exact⟨qW _ _,rfl⟩
theorem qsJ(ns:List Nd):∀r∈ns.map ndR,r.length=6:=λr hr=>by obtain⟨x,_,rfl⟩:=jT.1 hr;rfl
theorem qb2(ns:List Nd):XI (ns.map ndR).flatten:=λc hc=>by obtain⟨r,hr,hc⟩:=List.mem_flatten.1 hc;obtain⟨x,_,rfl⟩:=jT.1 hr;exact Fe x c hc
theorem qdk(ns:List Nd):(ns.map ndR).flatten.length=ns.length*6:=by rw[Wv (qsJ ns),jU]
def Tab(g:List qj)(t:Nat)(ns:List Nd)(V:qd):Prop:=(ns=[]/\V=.lst [] .full)\/(V=.sl t 0 ns.length ns.length 6/\ns≠[]/\g[t]?=some (.cells (ns.map ndR).flatten))
theorem Tab.facts{g:List qj}{t:Nat}{ns:List Nd}{V:qd}(h:Tab g t ns V):V.dim=V/\V.storable=true/\(∀i t,ZN V i t=t)/\qaH false V=some (.int .i64 (ns.length:Nat)):=by rcases h with⟨rfl,rfl⟩|⟨rfl,_⟩<;>exact⟨rfl,rfl,λ_ _=>rfl,rfl⟩
theorem qlC{base:Nat}{g:List qj}{ins:List Int}{I:qd}{id:Nat}(hl:ins.length<=100000)(x:Int)(hI:(ins=[]/\I=.lst [] .full)\/(I=.sl id 0 ins.length ins.length 1/\ins≠[]/\g[id]?=some (.cells (ins.map (.int .i64))))): ∃g',hop base (.app 1) [I,.sl g.length 0 1 1 0] (g++[.cells [.int .i64 x]])=some (.sl (g.length+1) 0 (ins++[x]).length (ins++[x]).length 1,g',false)/\g'.length=g.length+2/\(∀i,i<g.length->(ins≠[]->i≠id)->g'[i]?=g[i]?)/\g'[g.length+1]?=some (.cells ((ins++[x]).map (.int .i64))):=by
 have a6:∀l:List Int,XI (l.map (.int .i64)):=λl c hc=>by obtain⟨y,_,rfl⟩:=jT.1 hc;exact⟨rfl,rfl⟩
 have h2:(g++[qj.cells [.int .i64 x]])[g.length]?=some (.cells ([x].map (.int .i64))):=by rw[ZW];rfl
 have U:(g++[qj.cells [.int .i64 x]]).length=g.length+1:=by simp
 rcases hI with⟨rfl,rfl⟩|⟨rfl,a8,hid⟩
 ·refine⟨_,by rw[Wb (k:=1) h2 rfl (a6 _),U];rfl,by simp,λi hi _=>?_,?_⟩;·rw[jp,ja hi]
  ·rw[<-U,ZW];rfl
 ·have aa:id<g.length:=(jd.1 hid).1;have h1:(g++[qj.cells [.int .i64 x]])[id]?=some (.cells (ins.map (.int .i64))):=(by rw[ja aa];exact hid);refine⟨_,by rw[WY (k:=1) h1 h2 rfl (by simp) (a6 _) (a6 _) (Nat.le_trans hl (by decide)) zo,U,ji];rfl,by simp,λi hi a7=>?_,?_⟩;·rw[ja (by simp;omega),jf (λe=>a7 a8 e.symm),ja hi]
  ·rw[show g.length+1=((g++[qj.cells [.int .i64 x]]).set id .dead).length by simp,ZW,j5];rfl
theorem qmS{base:Nat}{g:List qj}{t:Nat}{ns:List Nd}{V:qd}(hT:Tab g t ns V)(hl:ns.length<=100000)(x:Nd): ∃g',hop base (.app 6) [V,.sl g.length 0 1 1 0] (g++[.cells (ndR x)])=some (.sl (g.length+1) 0 (ns++[x]).length (ns++[x]).length 6,g',false)/\g'.length=g.length+2/\(∀i,i<g.length->(ns≠[]->i≠t)->g'[i]?=g[i]?)/\Tab g' (g.length+1) (ns++[x]) (.sl (g.length+1) 0 (ns++[x]).length (ns++[x]).length 6):=by
 have h2:(g++[qj.cells (ndR x)])[g.length]?=some (.cells (ndR x)):=by rw[ZW];rfl
 have U:(g++[qj.cells (ndR x)]).length=g.length+1:=by simp
 rcases hT with⟨rfl,rfl⟩|⟨rfl,a7,hid⟩
 ·refine⟨_,by rw[Wb h2 (yS x) (Fe x),U];rfl,by simp,λi hi _=>?_,.inr ⟨rfl,by simp,?_⟩⟩;·rw[jp,ja hi]
  ·rw[<-U,ZW];simp
 ·have a8:t<g.length:=(jd.1 hid).1;have h1:(g++[qj.cells (ndR x)])[t]?=some (.cells (ns.map ndR).flatten):=(by rw[ja a8];exact hid);refine⟨_,by rw[WY h1 h2 (yS x) (qdk ns) (Fe x) (qb2 ns) (Nat.le_trans hl (by decide)) zo,U,ji];rfl,by simp,λi hi a6=>?_,.inr ⟨rfl,by simp,?_⟩⟩;·rw[ja (by simp;omega),jf (λe=>a6 a7 e.symm),ja hi]
  ·rw[show g.length+1=((g++[qj.cells (ndR x)]).set t .dead).length by simp,ZW];simp
theorem qrH(ins:List Int):elems 1 ins.length (ins.map (qd.int .i64))=ins.map (qd.int .i64):=by
 unfold elems;apply jS;intro i;rw[jr];by_cases hi:i<ins.length;·rw[List.getElem?_range hi,jI,if_pos rfl,List.getD_eq_getElem?_getD,jr,jh hi];rfl
 ·rw[jq (by simpa using hi),jq (by simpa using hi)];rfl
theorem qlT{base i j:Nat}{G:List qj}{x:Nd}{I:qd}(hi:G[i]?=some (.cells [.int .i64 x.op,.int .i64 x.n,.str x.nm,.str x.sb,.int .i64 x.pl,I]))(hI:(x.ins=[]/\I=.lst [] .full)\/(I=.sl j 0 x.ins.length x.ins.length 1/\x.ins≠[]/\G[j]?=some (.cells (x.ins.map (.int .i64))))): ∃G',hop base (.ldz (some 6)) [.ptr i 0] G=some (.agg (ndR x),G',false)/\G'.length=G.length/\∀k,(x.ins≠[]->k≠j)->G'[k]?=G[k]?:=by
 have a8:I.dim=I:=by rcases hI with⟨_,rfl⟩|⟨rfl,_⟩<;>rfl
 have e:Xi G (.ptr i 0) (some 6)=some (.agg [.int .i64 x.op,.int .i64 x.n,.str x.nm,.str x.sb,.int .i64 x.pl,I]):=by have hc:Go.AE.cut [.int .i64 x.op,.int .i64 x.n,.str x.nm,.str x.sb,.int .i64 x.pl,I] 0 (some 6)=some (.agg [.int .i64 x.op,.int .i64 x.n,.str x.nm,.str x.sb,.int .i64 x.pl,I]):=(by rw[ZF (by simp),List.drop_zero];simp only[List.take,List.map_cons,List.map_nil,a8];rfl);simp only[Xi,hi,hc]
 have e2:hop base (.ldz (some 6)) [.ptr i 0] G=(Xi G (.ptr i 0) (some 6)).map (yx G):=rfl;rw[e2,e,jI];rcases hI with⟨h1,rfl⟩|⟨rfl,U,hj⟩;·refine⟨G,?_,rfl,λ_ _=>rfl⟩;rw[ndR,ndI,h1];rfl
 ·refine⟨G.set j .dead,?_,by simp,λk hk=>by rw[jf (Ne.symm (hk U))]⟩;have hl:0<x.ins.length:=List.length_pos_iff.2 U;have a7:x.ins.length / x.ins.length=1:=Nat.div_self hl;have a6:∀l:List Int,XI (l.map (.int .i64)):=λl c hc=>(by obtain⟨y,_,rfl⟩:=jT.1 hc;exact⟨rfl,rfl⟩);have e3:frz G (.sl j 0 x.ins.length x.ins.length 1)=some (.lst (x.ins.map (.int .i64)) .no,G.set j .dead):=(by simp only[frz,hj,jU,a7,Nat.mul_one,jm,(a6 _).dims,(a6 _).all,and_self,if_true,qrH]);have e4:x.ins.isEmpty=false:=(by cases hx:x.ins with|nil=>exact absurd hx U|cons _ _=>rfl);have f1:∀(k:IntKind)(y:Int),frz G (.int k y)=none:=λ_ _=>rfl;have f2:∀y:Str,frz G (.str y)=none:=λ_=>rfl;simp only[yx,zr,f1,f2,e3,ndR,ndI,e4];rfl
theorem ga{n:Nat}(h:n≠0)(v:qd)(H:List qj):Qe n (.ret v) H true=(.ret v,H,true):=by simp[Qe,h]
theorem qrt{a b:Nat}(h:b<=a):Nat.blt a b=false:=j6.2 λe=>by have:a+1<=b:=j4 e;omega
theorem qrs{a b:Nat}(h:b<a):Nat.ble a b=false:=j6.2 λe=>by have:a<=b:=j4 e;omega
def lwB(vs:List Vr)(ps:List Pt)(Tb:qd):qj:=.cells [Tb,.lst (vs.map vrV) .no,.lst (ps.map ptV) .no]
structure Pre (vs:List Vr) (ps:List Pt) (L:Nat) (g:List qj) (t:Nat) (ns:List Nd) (Tb:qd):Prop where
 tab:Tab g t ns Tb
 box:g[L]?=some (lwB vs ps Tb)
 ne:t≠L
 lt:t<g.length
structure qu1 (vs:List Vr) (ps:List Pt) (L:Nat) (g:List qj) (t:Nat) (g':List qj) (t':Nat) (ns:List Nd) (Tb':qd):Prop where
 pre:Pre vs ps L g' t' ns Tb'
 more:g.length<=g'.length
 keep:∀i,i<g.length->i≠L->i≠t->g'[i]?=g[i]?
 young:g.length<=t'
def qtp(vs:List Vr)(ps:List Pt)(L d:Nat):Prop:=∀(e:Exl),(∃k,Fit k e)->dOK d e=true->∀(g:List qj)(t:Nat)(ns:List Nd)(Tb:qd),ns.length+sz d e<=10000->Pre vs ps L g t ns Tb->∃g' t' Tb',Wd (.fn 35 [] []) [.ptr L 0,exV e] g=some (.ret (.int .i64 (((ns.length+(low (vs.map (·.nm)) (ps.map (·.nm)) d ns.length e).length:Nat):Int) - 1)),g',true)/\qu1 vs ps L g t g' t' (ns++low (vs.map (·.nm)) (ps.map (·.nm)) d ns.length e) Tb'
theorem Pre.more{vs:List Vr}{ps:List Pt}{L:Nat}{g:List qj}{t:Nat}{ns:List Nd}{Tb:qd}(h:Pre vs ps L g t ns Tb)(l:List qj):Pre vs ps L (g++l) t ns Tb:=by
 have hL:L<g.length:=(jd.1 h.box).1;refine⟨?_,by rw[ja hL];exact h.box,h.ne,by have:=h.lt;simp;omega⟩;rcases h.tab with e|⟨e,U,hi⟩;·exact .inl e
 ·exact .inr ⟨e,U,by rw[ja h.lt];exact hi⟩
theorem Pre.put{vs:List Vr}{ps:List Pt}{L:Nat}{g g':List qj}{t:Nat}{ns:List Nd}{Tb:qd}(h:Pre vs ps L g t ns Tb)(a6:g.length<=g'.length)(hL:g'[L]?=g[L]?)(ht:g'[t]?=g[t]?):Pre vs ps L g' t ns Tb:=by
 refine⟨?_,by rw[hL];exact h.box,h.ne,by have:=h.lt;omega⟩;rcases h.tab with e|⟨e,U,hi⟩;·exact .inl e
 ·exact .inr ⟨e,U,by rw[ht];exact hi⟩
structure Lp (vs:List Vr) (ps:List Pt) (L d:Nat) (op n:Int) (nm sb:Str) (aS:List Exl) (ns:List Nd) (g:List qj) (t0:Nat) (i:Nat) (G:List qj) (t:Nat) (out:List Nd) (ins:List Int) (I:qd) (j:Nat) (Tb:qd):Prop where
 pre:Pre vs ps L G t (ns++out) Tb
 b2:g.length+2<=G.length
 bB:G[g.length]?=some (.cells [.int .i64 op,.int .i64 n,.str nm,.str sb,.lst (aS.map exV) .no])
 bN:G[g.length+1]?=some (.cells [.int .i64 op,.int .i64 n,.str [],.str [],.int .i64 0,I])
 hI:(ins=[]/\I=.lst [] .full)\/(I=.sl j 0 ins.length ins.length 1/\ins≠[]/\G[j]?=some (.cells (ins.map (.int .i64)))/\g.length+2<=j/\j≠t)
 tB:t<g.length\/g.length+2<=t
 keep:∀i,i<g.length->i≠L->i≠t0->G[i]?=g[i]?
 ty:t=t0\/g.length<=t
 gat:QP (low (vs.map (·.nm)) (ps.map (·.nm)) d) ns.length (aS.drop i) out ins=QP (low (vs.map (·.nm)) (ps.map (·.nm)) d) ns.length aS [] []
 inl:ins.length=i
 len:ns.length+out.length+((aS.drop i).map (sz d)).sum+1<=10000
theorem Lp.facts{vs:List Vr}{ps:List Pt}{L d:Nat}{op n:Int}{nm sb:Str}{aS:List Exl}{ns:List Nd}{g:List qj}{t0:Nat}{i:Nat}{G:List qj}{t:Nat}{out:List Nd}{ins:List Int}{I:qd}{j:Nat}{Tb:qd}(h:Lp vs ps L d op n nm sb aS ns g t0 i G t out ins I j Tb):I.dim=I/\I.storable=true/\∀i t,ZN I i t=t:=by rcases h.hI with⟨_,rfl⟩|⟨rfl,_⟩<;>exact⟨rfl,rfl,λ_ _=>rfl⟩
section
variable{vs:List Vr}{ps:List Pt}{L d:Nat}
theorem qpV{op n:Int}{nm sb:Str}{aS:List Exl}{ns:List Nd}{g:List qj}{t0:Nat}{i:Nat}{G:List qj}{t:Nat}{out:List Nd}{ins:List Int}{I:qd}{j:Nat}{Tb:qd}(h:Lp vs ps L d op n nm sb aS ns g t0 i G t out ins I j Tb)(hA:qtp vs ps L d)(hL:L<g.length)(hi:i<aS.length)(hl:aS.length<=20)(hf:∀a∈aS,∃k,Fit k a)(hD:∀a∈aS,dOK d a=true): ∃(x:Int)(G2:List qj)(t2:Nat)(af:qd)(aj:List Nd)(G3:List qj),Wd (.fn 35 [] []) [.ptr L 0,exV aS[i]] (G++[.cells aS[i].enc])=some (.ret (.int .i64 x),G2,true)/\(G++[.cells aS[i].enc])[g.length+1]?=some (.cells [.int .i64 op,.int .i64 n,.str [],.str [],.int .i64 0,I])/\G2[g.length+1]?=some (.cells [.int .i64 op,.int .i64 n,.str [],.str [],.int .i64 0,I])/\(G2++[.cells [.int .i64 x]])[g.length+1]?=some (.cells [.int .i64 op,.int .i64 n,.str [],.str [],.int .i64 0,I])/\G3[g.length+1]?=some (.cells [.int .i64 op,.int .i64 n,.str [],.str [],.int .i64 0,I])/\hop g.length (.app 1) [I,.sl G2.length 0 1 1 0] (G2++[.cells [.int .i64 x]])=some (.sl (G2.length+1) 0 (ins++[x]).length (ins++[x]).length 1,G3,false)/\Lp vs ps L d op n nm sb aS ns g t0 (i+1) (G3.set (g.length+1) (.cells [.int .i64 op,.int .i64 n,.str [],.str [],.int .i64 0,.sl (G2.length+1) 0 (ins++[x]).length (ins++[x]).length 1])) t2 aj (ins++[x]) (.sl (G2.length+1) 0 (ins++[x]).length (ins++[x]).length 1) (G2.length+1) af:=by
 obtain⟨pre,b2,bB,bN,hI,tB,keep,ty,ad,inl,len⟩:=h;have e1:(aS.drop i).map (sz d)=sz d aS[i]::(aS.drop (i+1)).map (sz d):=by rw[jX hi,List.map_cons]
 rw[e1,List.sum_cons]at len;obtain⟨G2,t2,af,hr,post⟩:=hA aS[i] (hf _ (List.getElem_mem hi)) (hD _ (List.getElem_mem hi)) (G++[.cells aS[i].enc]) t (ns++out) Tb (by simp;omega) (pre.more _);obtain⟨a7,ah,U,aa⟩:=post;rw[jX hi,QP]at ad;generalize hx:(((ns.length+(out++low (vs.map (·.nm)) (ps.map (·.nm)) d (ns.length+out.length) aS[i]).length:Nat):Int) - 1)=x at ad;have al:((((ns++out).length+(low (vs.map (·.nm)) (ps.map (·.nm)) d (ns++out).length aS[i]).length:Nat):Int) - 1)=x:=by rw[<-hx,ji,ji,Nat.add_assoc]
 rw[al]at hr;have gl:(G++[qj.cells aS[i].enc]).length=G.length+1:=by simp
 rw[gl]at ah U aa;have ai:(G++[qj.cells aS[i].enc])[g.length+1]?=some (.cells [.int .i64 op,.int .i64 n,.str [],.str [],.int .i64 0,I]):=by rw[ja zo];exact bN
 have ae:G2[g.length+1]?=some (.cells [.int .i64 op,.int .i64 n,.str [],.str [],.int .i64 0,I]):=by rw[U _ zo zo zo];exact ai
 have ap:(ins=[]/\I=.lst [] .full)\/(I=.sl j 0 ins.length ins.length 1/\ins≠[]/\G2[j]?=some (.cells (ins.map (.int .i64)))):=by
  rcases hI with h|⟨a,b,c,c1,c2⟩;·exact .inl h
  ·have hj:j<G.length:=(jd.1 c).1;exact .inr ⟨a,b,by rw[U j zo zo c2,ja hj];exact c⟩
 have ac:ins≠[]->g.length+2<=j/\j≠t2/\j<G.length:=by
  intro a6;rcases hI with⟨h,_⟩|⟨a,b,c,c1,c2⟩;·exact absurd h a6
  ·have hj:j<G.length:=(jd.1 c).1;exact⟨c1,zo,hj⟩
 obtain⟨G3,am,l3,k3,n3⟩:=qlC (base:=g.length) (g:=G2) (id:=j) zo x ap;have ar:G3[g.length+1]?=some (.cells [.int .i64 op,.int .i64 n,.str [],.str [],.int .i64 0,I]):=by rw[k3 _ zo λa6=>by have:=(ac a6).1;omega];exact ae
 have ak:=a7.lt;refine⟨x,G2,t2,af,out++low (vs.map (·.nm)) (ps.map (·.nm)) d (ns.length+out.length) aS[i],G3,hr,ai,ae,by rw[ja zo];exact ae,ar,am,?_⟩;rw[show(ns++out).length=ns.length+out.length by rw[ji],jp]at a7;have a8:∀(X:qj)(i:Nat),i<G2.length->i≠g.length+1->(ins≠[]->i≠j)->(G3.set (g.length+1) X)[i]?=G2[i]?:=λX i hi h1 h2=>by rw[jf (Ne.symm h1),k3 i hi h2]
 have ab:∀i,i<g.length+2->ins≠[]->i≠j:=λi hi a6=>by have:=(ac a6).1;omega
 refine⟨a7.put (by simp;omega) (a8 _ _ zo zo (ab _ zo)) (a8 _ _ ak zo λa6=>Ne.symm (ac a6).2.1),by simp;omega,?_,?_,?_,zo,?_,zo,ad,by simp;omega,?_⟩;·rw[a8 _ _ zo zo (ab _ zo),U _ zo zo zo,ja zo];exact bB
 ·rw[jg zo]
 ·refine .inr ⟨rfl,by simp,?_,zo,zo⟩;rw[jf zo];exact n3
 ·intro i hi h1 h2;rw[a8 _ _ zo zo (ab _ zo),U _ zo h1 (by rcases ty with rfl|h;exact h2;omega),ja zo];exact keep i hi h1 h2
 ·rw[ji,Kt];omega
end
section
variable{vs:List Vr}{ps:List Pt}{L d:Nat}
theorem qkA{op n:Int}{nm sb:Str}{aS:List Exl}{ns:List Nd}{g:List qj}{t0:Nat}(hA:qtp vs ps L d)(hL:L<g.length)(hl:aS.length<=20)(hf:∀a∈aS,∃k,Fit k a)(hD:∀a∈aS,dOK d a=true): ∀q st,(∃(tt:List qd)(ef:Bool)(i:Nat)(G:List qj)(t:Nat)(out:List Nd)(ins:List Int)(I:qd)(j:Nat)(Tb:qd),st=⟨tt,G,ef⟩/\tt.length=83/\lkp tt 0=.ptr L 0/\lkp tt 3=.ptr g.length 0/\lkp tt 5=.ptr (g.length+1) 0/\lkp tt 14=.lst (aS.map exV) .no/\lkp tt 15=.int .i64 (aS.length:Nat)/\lkp tt 16=.int .i64 (i:Nat)/\i+q=aS.length/\Lp vs ps L d op n nm sb aS ns g t0 i G t out ins I j Tb)->∃x U,qh g.length Wd (.loop qeC) st=some (x,U)/\(x=.exit 0/\∃(tt:List qd)(ef:Bool)(G:List qj)(t:Nat)(out:List Nd)(ins:List Int)(I:qd)(j:Nat)(Tb:qd),U=⟨tt,G,ef⟩/\tt.length=83/\lkp tt 0=.ptr L 0/\lkp tt 3=.ptr g.length 0/\lkp tt 5=.ptr (g.length+1) 0/\Lp vs ps L d op n nm sb aS ns g t0 aS.length G t out ins I j Tb):=by
 refine ZQ _ (λx U=>x=.exit 0/\∃(tt:List qd)(ef:Bool)(G:List qj)(t:Nat)(out:List Nd)(ins:List Int)(I:qd)(j:Nat)(Tb:qd),U=⟨tt,G,ef⟩/\tt.length=83/\lkp tt 0=.ptr L 0/\lkp tt 3=.ptr g.length 0/\lkp tt 5=.ptr (g.length+1) 0/\Lp vs ps L d op n nm sb aS ns g t0 aS.length G t out ins I j Tb) ?_;rintro q st ⟨tt,ef,i,G,t,out,ins,I,j,Tb,rfl,ht,e0,e3,e5,ab,a6,aa,am,lp⟩;generalize he:qh g.length Wd qeC _=r;rcases Nat.lt_or_ge i aS.length with hi|hi
 ·have c1:ilt (i:Int) (aS.length:Int)=true:=qaG zo;have w:=qy (n:=i) zo;obtain⟨aj,ar,ap⟩:=lp.facts;have au:=lp.b2;obtain⟨x,G2,t2,al,ac,G3,hr,b1,b2,b3,b4,a8,a7⟩:=qpV lp hA hL hi hl hf hD;generalize(ins++[x]).length=N at a8 a7;have hg:(aS.map exV)[i]?=some (exV aS[i]):=(by rw[jr,jh hi];rfl);generalize aS[i]=y at hr hg b1;obtain⟨ae,n',af,ad,ak⟩:=y;rw[Zk]at hg;rw[Zk,Q3]at hr;rw[Q3]at b1;have hx:Q2 5 (.lst (aS.map exV) .no) (.int .i64 (i:Nat))=some (.iptr [.int .i64 ae,.int .i64 n',.str af,.str ad,.lst (ak.map exV) .no] 0):=Zx hg rfl;have ai:Nat.ble g.length G.length=true:=qu zo;have ah:Nat.ble g.length (g.length+1)=true:=qu zo;simp only[qeC,sT.1,sC.1,qe,Nat.testBit,bne,seval,-rN,Z8,qT,Qr,ZB,Xl,WK,XX,qwe,ht,e0,e5,ab,a6,aa,c1,hx,ai,ah,hr,b1,b2,b3,b4,a8,aj,w]at he;subst he;refine .inl ⟨_,q - 1,rfl,zo,_,_,i+1,_,t2,ac,_,_,_,al,rfl,?_,?_,?_,?_,?_,?_,?_,zo,a7⟩;·simp only[qQ,ht]
  ·simp only[sT.1,sC.1,seval,-rN,e0]
  ·simp only[sT.1,sC.1,seval,-rN,e3]
  ·simp only[sT.1,sC.1,seval,-rN,e5]
  ·simp only[sT.1,sC.1,seval,-rN,ab]
  ·simp only[sT.1,sC.1,seval,-rN,a6]
  ·simp only[sT.1,seval,-rN,ht]
 ·have c1:ilt (i:Int) (aS.length:Int)=false:=qaF zo;have:i=aS.length:=zo;subst this;simp only[qeC,sT.1,sC.1,qe,seval,-rN,ht,a6,aa,c1]at he;subst he;refine .inr ⟨_,_,rfl,by simp,rfl,_,ef,G,t,out,ins,I,j,Tb,rfl,?_,?_,?_,?_,lp⟩;·simp only[qQ,ht]
  ·simp only[sT.1,sC.1,seval,-rN,e0]
  ·simp only[sT.1,sC.1,seval,-rN,e3]
  ·simp only[sT.1,sC.1,seval,-rN,e5]
theorem kQ{op n:Int}{nm sb:Str}{aS:List Exl}{ns:List Nd}{g:List qj}{t0:Nat}{G:List qj}{t:Nat}{out:List Nd}{ins:List Int}{I:qd}{j:Nat}{Tb:qd}{i:Nat}(h:Lp vs ps L d op n nm sb aS ns g t0 i G t out ins I j Tb)(hL:L<g.length)(x:Nd)(hx:x.ins=ins): ∃(G5 G6:List qj),hop g.length (.ldz (some 6)) [.ptr (g.length+1) 0] (G.set (g.length+1) (.cells [.int .i64 x.op,.int .i64 x.n,.str x.nm,.str x.sb,.int .i64 x.pl,I]))=some (.agg (ndR x),G5,false)/\G5.length=G.length/\hop g.length (.app 6) [Tb,.sl G.length 0 1 1 0] (G5++[.cells (ndR x)])=some (.sl (G.length+1) 0 (ns++out++[x]).length (ns++out++[x]).length 6,G6,false)/\(∀X,(G.set (g.length+1) X)[g.length+1]?=some X)/\(∀X,(G.set (g.length+1) X)[g.length]?=some (.cells [.int .i64 op,.int .i64 n,.str nm,.str sb,.lst (aS.map exV) .no]))/\(∀X,(G.set (g.length+1) X)[L]?=some (lwB vs ps Tb))/\G5[L]?=some (lwB vs ps Tb)/\(∀Y,(G5++[Y])[L]?=some (lwB vs ps Tb))/\G6[L]?=some (lwB vs ps Tb)/\(∀X,(G6.set L X)[L]?=some X)/\qu1 vs ps L g t0 (G6.set L (lwB vs ps (.sl (G.length+1) 0 (ns++out++[x]).length (ns++out++[x]).length 6))) (G.length+1) (ns++(out++[x])) (.sl (G.length+1) 0 (ns++out++[x]).length (ns++out++[x]).length 6):=by
 obtain⟨pre,b2,bB,bN,hI,tB,keep,ty,ab,inl,len⟩:=h;have aa:=pre.lt;have tL:=pre.ne;have gl:∀X,(G.set (g.length+1) X).length=G.length:=λX=>by simp
 have f1:∀X,(G.set (g.length+1) X)[g.length+1]?=some X:=λX=>jg zo;have f2:∀X,(G.set (g.length+1) X)[g.length]?=some (.cells [.int .i64 op,.int .i64 n,.str nm,.str sb,.lst (aS.map exV) .no]):=λX=>by rw[jf zo];exact bB
 have f3:∀X,(G.set (g.length+1) X)[L]?=some (lwB vs ps Tb):=λX=>by rw[jf zo];exact pre.box
 obtain⟨G5,hz,l5,k5⟩:=qlT (base:=g.length) (j:=j) (x:=x) (I:=I) (f1 (.cells [.int .i64 x.op,.int .i64 x.n,.str x.nm,.str x.sb,.int .i64 x.pl,I])) (by
  rw[hx];rcases hI with h|⟨a,b,c,c1,_⟩;·exact .inl h
  ·exact .inr ⟨a,b,by rw[jf zo];exact c⟩)
 rw[gl]at l5
 have hj:∀k,(k<g.length+2\/k=t)->x.ins≠[]->k≠j:=λk hk U=>by
  rw[hx]at U;rcases hI with⟨h,_⟩|⟨_,_,_,c1,c2⟩;·exact absurd h U
  ·omega
 have a8:Tab G5 t (ns++out) Tb:=by
  rcases pre.tab with e|⟨e,U,hi⟩;·exact .inl e
  ·exact .inr ⟨e,U,by rw[k5 _ (hj _ (.inr rfl)),jf zo];exact hi⟩
 obtain⟨G6,a7,l6,k6,a6⟩:=qmS (base:=g.length) a8 (by rw[ji];omega) x;rw[l5]at a7 l6 k6 a6;have f5:G5[L]?=some (lwB vs ps Tb):=by rw[k5 _ (hj _ (.inl zo))];exact f3 _
 have f6:G6[L]?=some (lwB vs ps Tb):=by rw[k6 _ zo λ_=>by omega];exact f5
 refine⟨G5,G6,hz,l5,a7,f1,f2,f3,f5,λY=>?_,f6,λX=>jg zo,?_⟩;·rw[ja zo];exact f5
 ·rw[<-jp];refine⟨⟨?_,jg zo,zo,by simp;omega⟩,by simp;omega,λi hi h1 h2=>?_,zo⟩
  ·rcases a6 with⟨e,_⟩|⟨e,U,hi⟩;·simp at e
   ·exact .inr ⟨rfl,U,by rw[jf zo];exact hi⟩
  ·rw[jf zo,k6 i zo (λ_=>by rcases ty with rfl|h;exact h2;omega),k5 i (hj _ (.inl zo)),jf zo];exact keep i hi h1 h2
end
theorem qvU(vs:List Vr)(ps:List Pt)(L:Nat)(al:vs.length<=100000)(am:ps.length<=100000):∀d,qtp vs ps L d:=by
 intro d
 induction d with
 |zero=>intro e _ hd;rw[dOK]at hd;cases hd
 |succ d ih=>
  rintro⟨op,n,nm,sb,aS⟩ ⟨k,hk⟩ hd g t0 ns ah aj ac;obtain⟨k,rfl⟩:∃k',k=k'+1:=(by cases k with|zero=>exact hk.elim|succ k=>exact⟨k,rfl⟩);have hf:∀a∈aS,∃k,Fit k a:=λa ha=>⟨k,hk.2 a ha⟩;rw[dOK,List.all_eq_true]at hd;rw[sz]at aj;have hL:L<g.length:=(jd.1 ac.box).1
  have ak:Lp vs ps L d op n nm sb aS ns g t0 0 (g++[.cells [.int .i64 op,.int .i64 n,.str nm,.str sb,.lst (aS.map exV) .no],.cells [.int .i64 op,.int .i64 n,.str [],.str [],.int .i64 0,.lst [] .full]]) t0 [] [] (.lst [] .full) 0 ah:=by
   refine⟨by rw[jV];exact ac.more _,by simp,by rw[ZW];rfl,?_,.inl ⟨rfl,rfl⟩,.inl ac.lt,λi hi _ _=>ja hi,.inl rfl,rfl,rfl,?_⟩;·rw[List.getElem?_append_right zo,show g.length+1 - g.length=1 by omega];rfl
   ·simp;omega
  generalize hw:Wd _ _ g=w;rw[Zk,Za 35 c35]at hw;simp only[c35,sT.1,sC.1,qe,seval,-rN,qH,jU]at hw;generalize hr:qh g.length Wd (.loop qeC) _=r at hw;obtain⟨x,au,rfl,rfl,tt,ef,G,t,out,ins,I,j,Tb,rfl,ht,e0,e3,e5,lp⟩:=WP hr (qkA ih hL hk.1 hf hd aS.length _ ⟨_,_,0,_,t0,[],[],.lst [] .full,0,ah,rfl,Y1,Y1,Y1,Y1,Y1,Y1,Y5,zo,ak⟩);obtain⟨aC,aB,aA⟩:=lp.facts;have U:=λb(x:Nd) h=>qwf b x.op x.n x.nm x.sb x.pl (ndI x) (qW _ _) rfl h;have bB:=lp.bB;have bN:=lp.bN;have box:=lp.pre.box;have b2:=lp.b2;obtain⟨ab,az,ay,_⟩:=lp.pre.tab.facts;have a8:=λs=>qdy (h:=G) vs s al;have aa:=λs=>Lk (h:=G) ps s am;have q1:Nat.ble g.length L=false:=qrs hL;have q2:Nat.blt (G.length+1) (L+1)=false:=qrt zo;have q3:Nat.ble g.length (g.length+1)=true:=qu zo;have av:∀X Y:qj,(G.set (g.length+1) X).set (g.length+1) Y=G.set (g.length+1) Y:=λX Y=>List.set_set ..;have g0:g.length≠0:=zo;have af:=lp.gat;rw[List.drop_eq_nil_of_le (jm _),QP]at af;have ai:low (vs.map (·.nm)) (ps.map (·.nm)) (d+1) ns.length (.mk op n nm sb aS)=out++[fin (vs.map (·.nm)) (ps.map (·.nm)) op n nm sb ins]:=(by rw[low,<-af]);rw[ai];have ar:=lp.len;by_cases h3:op=3;·subst h3;have a7:fin (vs.map (·.nm)) (ps.map (·.nm)) 3 n nm sb ins=⟨3,n,nm,[],0,ins⟩:=rfl;rw[a7];obtain⟨G5,G6,hz,l5,a6,f1,f2,f3,f5,f6,l6,f7,post⟩:=kQ lp hL (⟨3,n,nm,[],0,ins⟩:Nd) rfl;have hN:(ns++out++[(⟨3,n,nm,[],0,ins⟩:Nd)]).length=ns.length+(out++[(⟨3,n,nm,[],0,ins⟩:Nd)]).length:=(by simp only[ji,jy,jz];omega);have wN:IntKind.i64.wrap (((ns.length+(out++[(⟨3,n,nm,[],0,ins⟩:Nd)]).length:Nat):Int) - 1)=((ns.length+(out++[(⟨3,n,nm,[],0,ins⟩:Nd)]).length:Nat):Int) - 1:=Ql (by simp only[ji,jy,jz];omega) (by simp only[ji,jy,jz];omega);rw[hN]at a6 post;simp only[ndR,lwB]at a6 hz f3 f5 f6 l6 box post;have U:=λb h=>U b (⟨3,n,nm,[],0,ins⟩:Nd) h;simp only at U;generalize ns.length+(out++[(⟨3,n,nm,[],0,ins⟩:Nd)]).length=N at a6 post wN⊢;simp only[sT.1,sC.1,qe,Nat.testBit,bne,seval,-rN,Z8,qT,Qr,ZB,Xl,WK,XX,WI,ht,e0,e3,e5,bB,bN,box,ab,U,hz,l5,f1,f2,f3,f5,f6,a6,l6,f7,q1,q2,q3,wN,a8,aa]at hw;subst hw;exact⟨_,_,_,congrArg some (ga g0 _ _),post⟩
  by_cases h4:op=4;·subst h4;have a7:fin (vs.map (·.nm)) (ps.map (·.nm)) 4 n nm sb ins=⟨4,n,[],[],pos (vs.map (·.nm)) nm 0,ins⟩:=rfl;rw[a7];obtain⟨G5,G6,hz,l5,a6,f1,f2,f3,f5,f6,l6,f7,post⟩:=kQ lp hL (⟨4,n,[],[],pos (vs.map (·.nm)) nm 0,ins⟩:Nd) rfl;have hN:(ns++out++[(⟨4,n,[],[],pos (vs.map (·.nm)) nm 0,ins⟩:Nd)]).length=ns.length+(out++[(⟨4,n,[],[],pos (vs.map (·.nm)) nm 0,ins⟩:Nd)]).length:=(by simp only[ji,jy,jz];omega);have wN:IntKind.i64.wrap (((ns.length+(out++[(⟨4,n,[],[],pos (vs.map (·.nm)) nm 0,ins⟩:Nd)]).length:Nat):Int) - 1)=((ns.length+(out++[(⟨4,n,[],[],pos (vs.map (·.nm)) nm 0,ins⟩:Nd)]).length:Nat):Int) - 1:=Ql (by simp only[ji,jy,jz];omega) (by simp only[ji,jy,jz];omega);rw[hN]at a6 post;simp only[ndR,lwB]at a6 hz f3 f5 f6 l6 box post;have U:=λb h=>U b (⟨4,n,[],[],pos (vs.map (·.nm)) nm 0,ins⟩:Nd) h;simp only at U;generalize ns.length+(out++[(⟨4,n,[],[],pos (vs.map (·.nm)) nm 0,ins⟩:Nd)]).length=N at a6 post wN⊢;simp only[sT.1,sC.1,qe,Nat.testBit,bne,seval,-rN,Z8,qT,Qr,ZB,Xl,WK,XX,WI,ht,e0,e3,e5,bB,bN,box,ab,U,hz,l5,f1,f2,f3,f5,f6,a6,l6,f7,q1,q2,q3,wN,a8,aa]at hw;subst hw;exact⟨_,_,_,congrArg some (ga g0 _ _),post⟩
  by_cases h5:op=5;·subst h5;have a7:fin (vs.map (·.nm)) (ps.map (·.nm)) 5 n nm sb ins=⟨5,n,nm,sb,0,ins⟩:=rfl;rw[a7];obtain⟨G5,G6,hz,l5,a6,f1,f2,f3,f5,f6,l6,f7,post⟩:=kQ lp hL (⟨5,n,nm,sb,0,ins⟩:Nd) rfl;have hN:(ns++out++[(⟨5,n,nm,sb,0,ins⟩:Nd)]).length=ns.length+(out++[(⟨5,n,nm,sb,0,ins⟩:Nd)]).length:=(by simp only[ji,jy,jz];omega);have wN:IntKind.i64.wrap (((ns.length+(out++[(⟨5,n,nm,sb,0,ins⟩:Nd)]).length:Nat):Int) - 1)=((ns.length+(out++[(⟨5,n,nm,sb,0,ins⟩:Nd)]).length:Nat):Int) - 1:=Ql (by simp only[ji,jy,jz];omega) (by simp only[ji,jy,jz];omega);rw[hN]at a6 post;simp only[ndR,lwB]at a6 hz f3 f5 f6 l6 box post;have U:=λb h=>U b (⟨5,n,nm,sb,0,ins⟩:Nd) h;simp only at U;generalize ns.length+(out++[(⟨5,n,nm,sb,0,ins⟩:Nd)]).length=N at a6 post wN⊢;simp only[sT.1,sC.1,qe,Nat.testBit,bne,seval,-rN,Z8,qT,Qr,ZB,Xl,WK,XX,WI,ht,e0,e3,e5,bB,bN,box,ab,U,hz,l5,f1,f2,f3,f5,f6,a6,l6,f7,q1,q2,q3,wN,a8,aa]at hw;subst hw;exact⟨_,_,_,congrArg some (ga g0 _ _),post⟩
  by_cases h7:op=7;·subst h7;have a7:fin (vs.map (·.nm)) (ps.map (·.nm)) 7 n nm sb ins=⟨7,n,[],[],pos (ps.map (·.nm)) nm 0,ins⟩:=rfl;rw[a7];obtain⟨G5,G6,hz,l5,a6,f1,f2,f3,f5,f6,l6,f7,post⟩:=kQ lp hL (⟨7,n,[],[],pos (ps.map (·.nm)) nm 0,ins⟩:Nd) rfl;have hN:(ns++out++[(⟨7,n,[],[],pos (ps.map (·.nm)) nm 0,ins⟩:Nd)]).length=ns.length+(out++[(⟨7,n,[],[],pos (ps.map (·.nm)) nm 0,ins⟩:Nd)]).length:=(by simp only[ji,jy,jz];omega);have wN:IntKind.i64.wrap (((ns.length+(out++[(⟨7,n,[],[],pos (ps.map (·.nm)) nm 0,ins⟩:Nd)]).length:Nat):Int) - 1)=((ns.length+(out++[(⟨7,n,[],[],pos (ps.map (·.nm)) nm 0,ins⟩:Nd)]).length:Nat):Int) - 1:=Ql (by simp only[ji,jy,jz];omega) (by simp only[ji,jy,jz];omega);rw[hN]at a6 post;simp only[ndR,lwB]at a6 hz f3 f5 f6 l6 box post;have U:=λb h=>U b (⟨7,n,[],[],pos (ps.map (·.nm)) nm 0,ins⟩:Nd) h;simp only at U;generalize ns.length+(out++[(⟨7,n,[],[],pos (ps.map (·.nm)) nm 0,ins⟩:Nd)]).length=N at a6 post wN⊢;simp only[sT.1,sC.1,qe,Nat.testBit,bne,seval,-rN,Z8,qT,Qr,ZB,Xl,WK,XX,WI,ht,e0,e3,e5,bB,bN,box,ab,U,hz,l5,f1,f2,f3,f5,f6,a6,l6,f7,q1,q2,q3,wN,a8,aa]at hw;subst hw;exact⟨_,_,_,congrArg some (ga g0 _ _),post⟩
  by_cases h8:op=8;·subst h8;have a7:fin (vs.map (·.nm)) (ps.map (·.nm)) 8 n nm sb ins=⟨8,n,[],[],pos (ps.map (·.nm)) nm 0,ins⟩:=rfl;rw[a7];obtain⟨G5,G6,hz,l5,a6,f1,f2,f3,f5,f6,l6,f7,post⟩:=kQ lp hL (⟨8,n,[],[],pos (ps.map (·.nm)) nm 0,ins⟩:Nd) rfl;have hN:(ns++out++[(⟨8,n,[],[],pos (ps.map (·.nm)) nm 0,ins⟩:Nd)]).length=ns.length+(out++[(⟨8,n,[],[],pos (ps.map (·.nm)) nm 0,ins⟩:Nd)]).length:=(by simp only[ji,jy,jz];omega);have wN:IntKind.i64.wrap (((ns.length+(out++[(⟨8,n,[],[],pos (ps.map (·.nm)) nm 0,ins⟩:Nd)]).length:Nat):Int) - 1)=((ns.length+(out++[(⟨8,n,[],[],pos (ps.map (·.nm)) nm 0,ins⟩:Nd)]).length:Nat):Int) - 1:=Ql (by simp only[ji,jy,jz];omega) (by simp only[ji,jy,jz];omega);rw[hN]at a6 post;simp only[ndR,lwB]at a6 hz f3 f5 f6 l6 box post;have U:=λb h=>U b (⟨8,n,[],[],pos (ps.map (·.nm)) nm 0,ins⟩:Nd) h;simp only at U;generalize ns.length+(out++[(⟨8,n,[],[],pos (ps.map (·.nm)) nm 0,ins⟩:Nd)]).length=N at a6 post wN⊢;simp only[sT.1,sC.1,qe,Nat.testBit,bne,seval,-rN,Z8,qT,Qr,ZB,Xl,WK,XX,WI,ht,e0,e3,e5,bB,bN,box,ab,U,hz,l5,f1,f2,f3,f5,f6,a6,l6,f7,q1,q2,q3,wN,a8,aa]at hw;subst hw;exact⟨_,_,_,congrArg some (ga g0 _ _),post⟩
  by_cases h9:op=9;·subst h9;have a7:fin (vs.map (·.nm)) (ps.map (·.nm)) 9 n nm sb ins=⟨9,n,[],[],pos (ps.map (·.nm)) nm 0,ins⟩:=rfl;rw[a7];obtain⟨G5,G6,hz,l5,a6,f1,f2,f3,f5,f6,l6,f7,post⟩:=kQ lp hL (⟨9,n,[],[],pos (ps.map (·.nm)) nm 0,ins⟩:Nd) rfl;have hN:(ns++out++[(⟨9,n,[],[],pos (ps.map (·.nm)) nm 0,ins⟩:Nd)]).length=ns.length+(out++[(⟨9,n,[],[],pos (ps.map (·.nm)) nm 0,ins⟩:Nd)]).length:=(by simp only[ji,jy,jz];omega);have wN:IntKind.i64.wrap (((ns.length+(out++[(⟨9,n,[],[],pos (ps.map (·.nm)) nm 0,ins⟩:Nd)]).length:Nat):Int) - 1)=((ns.length+(out++[(⟨9,n,[],[],pos (ps.map (·.nm)) nm 0,ins⟩:Nd)]).length:Nat):Int) - 1:=Ql (by simp only[ji,jy,jz];omega) (by simp only[ji,jy,jz];omega);rw[hN]at a6 post;simp only[ndR,lwB]at a6 hz f3 f5 f6 l6 box post;have U:=λb h=>U b (⟨9,n,[],[],pos (ps.map (·.nm)) nm 0,ins⟩:Nd) h;simp only at U;generalize ns.length+(out++[(⟨9,n,[],[],pos (ps.map (·.nm)) nm 0,ins⟩:Nd)]).length=N at a6 post wN⊢;simp only[sT.1,sC.1,qe,Nat.testBit,bne,seval,-rN,Z8,qT,Qr,ZB,Xl,WK,XX,WI,ht,e0,e3,e5,bB,bN,box,ab,U,hz,l5,f1,f2,f3,f5,f6,a6,l6,f7,q1,q2,q3,wN,a8,aa]at hw;subst hw;exact⟨_,_,_,congrArg some (ga g0 _ _),post⟩
  by_cases ae:op=10;·subst ae;have a7:fin (vs.map (·.nm)) (ps.map (·.nm)) 10 n nm sb ins=⟨10,n,[],[],pos (ps.map (·.nm)) nm 0,ins⟩:=rfl;rw[a7];obtain⟨G5,G6,hz,l5,a6,f1,f2,f3,f5,f6,l6,f7,post⟩:=kQ lp hL (⟨10,n,[],[],pos (ps.map (·.nm)) nm 0,ins⟩:Nd) rfl;have hN:(ns++out++[(⟨10,n,[],[],pos (ps.map (·.nm)) nm 0,ins⟩:Nd)]).length=ns.length+(out++[(⟨10,n,[],[],pos (ps.map (·.nm)) nm 0,ins⟩:Nd)]).length:=(by simp only[ji,jy,jz];omega);have wN:IntKind.i64.wrap (((ns.length+(out++[(⟨10,n,[],[],pos (ps.map (·.nm)) nm 0,ins⟩:Nd)]).length:Nat):Int) - 1)=((ns.length+(out++[(⟨10,n,[],[],pos (ps.map (·.nm)) nm 0,ins⟩:Nd)]).length:Nat):Int) - 1:=Ql (by simp only[ji,jy,jz];omega) (by simp only[ji,jy,jz];omega);rw[hN]at a6 post;simp only[ndR,lwB]at a6 hz f3 f5 f6 l6 box post;have U:=λb h=>U b (⟨10,n,[],[],pos (ps.map (·.nm)) nm 0,ins⟩:Nd) h;simp only at U;generalize ns.length+(out++[(⟨10,n,[],[],pos (ps.map (·.nm)) nm 0,ins⟩:Nd)]).length=N at a6 post wN⊢;simp only[sT.1,sC.1,qe,Nat.testBit,bne,seval,-rN,Z8,qT,Qr,ZB,Xl,WK,XX,WI,ht,e0,e3,e5,bB,bN,box,ab,U,hz,l5,f1,f2,f3,f5,f6,a6,l6,f7,q1,q2,q3,wN,a8,aa]at hw;subst hw;exact⟨_,_,_,congrArg some (ga g0 _ _),post⟩
  have z3:(op==3)=false:=beq_eq_false_iff_ne.2 h3;have z4:(op==4)=false:=beq_eq_false_iff_ne.2 h4;have z5:(op==5)=false:=beq_eq_false_iff_ne.2 h5;have z7:(op==7)=false:=beq_eq_false_iff_ne.2 h7;have z8:(op==8)=false:=beq_eq_false_iff_ne.2 h8;have z9:(op==9)=false:=beq_eq_false_iff_ne.2 h9;have ad:(op==10)=false:=beq_eq_false_iff_ne.2 ae;have a7:fin (vs.map (·.nm)) (ps.map (·.nm)) op n nm sb ins=⟨op,n,[],[],0,ins⟩:=(by simp only[fin,z3,z4,z5,z7,z8,z9,ad,cond_false]);rw[a7];obtain⟨G5,G6,hz,l5,a6,f1,f2,f3,f5,f6,l6,f7,post⟩:=kQ lp hL (⟨op,n,[],[],0,ins⟩:Nd) rfl
  have ap:G.set (g.length+1) (.cells [.int .i64 op,.int .i64 n,.str [],.str [],.int .i64 0,I])=G:=by
   apply jS;intro i;by_cases e:g.length+1=i;·subst e;rw[f1];exact bN.symm
   ·rw[jf e]
  rw[ap]at hz;have hN:(ns++out++[(⟨op,n,[],[],0,ins⟩:Nd)]).length=ns.length+(out++[(⟨op,n,[],[],0,ins⟩:Nd)]).length:=(by simp only[ji,jy,jz];omega);have wN:IntKind.i64.wrap (((ns.length+(out++[(⟨op,n,[],[],0,ins⟩:Nd)]).length:Nat):Int) - 1)=((ns.length+(out++[(⟨op,n,[],[],0,ins⟩:Nd)]).length:Nat):Int) - 1:=Ql (by simp only[ji,jy,jz];omega) (by simp only[ji,jy,jz];omega);rw[hN]at a6 post;simp only[ndR,lwB]at a6 hz f3 f5 f6 l6 box post;have U:=λb h=>U b (⟨op,n,[],[],0,ins⟩:Nd) h;simp only at U;generalize ns.length+(out++[(⟨op,n,[],[],0,ins⟩:Nd)]).length=N at a6 post wN⊢;simp only[sT.1,sC.1,qe,Nat.testBit,bne,seval,-rN,Z8,qT,Qr,ZB,Xl,WK,XX,WI,ht,e0,e3,e5,bB,bN,box,ab,U,hz,l5,f1,f2,f5,f6,a6,l6,f7,q1,q2,q3,wN,a8,aa,z3,z4,z5,z7,z8,z9,ad]at hw;subst hw;exact⟨_,_,_,congrArg some (ga g0 _ _),post⟩
end Go.Proofs.YtebljcklaimcfaaGreatDoor.AE
