/- A part of the proof. No condition. -/
import Derived.Test.YtebljcklaimcfaaGreatDoorMt14
open Int renaming reduceNatCast'→rN
set_option maxRecDepth 100000
set_option maxHeartbeats 0
open List renaming take_append_of_le_length→jZ,take_set_of_le→j8,length_append→ji,length_map→jU,length_set→j0,append_assoc→jp,append_nil→jV,map_append→j5,nil_append→jQ,cons_append→jR,length_cons→jy,length_nil→jz,mem_map→jT
open Bool renaming false_eq_true→jl
open Nat renaming le_refl→jm,le_trans→jn
namespace Go.Proofs.YtebljcklaimcfaaGreatDoor.AE
open Go.AE
def Qt{α:Type}(f:Nat->α->Int):List α->Nat->Option (Nat×Int)
 |[],_=>none
 |a::r,i=>bif f i a==0 then Qt f r (i+1)else some (i,f i a)
def kj(ms:List qf)(ag:Int)(i:Nat)(p:Ze):Int:=bif (i:Int)==ag then 11 else bif (plM ms p.model 0).isSome then 0 else 10
def zG(ms:List qf)(m:qf)(ag:Int)(i:Nat)(l:ZX):Int:=bif !(qil ms m l==0)then qil ms m l else bif (i:Int)==ag then 11 else 0
def uu(ms:List qf)(_:Nat)(a:X8):Int:=bif a.kind==0&&!(plM ms a.model 0).isSome then 10 else 0
section
variable{h:List qj}{id mid:Nat}{ms:List qf}{root:Str}{M:List qd}{ag:Int}{m:qf}{ri:Nat}
theorem qe7{l:List Ze}(hK:KAt h id mid ms root)(hl:l.length<=100000)(ah:∀p∈l,Key p.model): ∀(r met:List Ze)(a7:List qj) tt,met++r=l->tt.length=136->lkp tt 0=.ptr id 0->lkp tt 3=.ptr h.length 0->lkp tt 4=.ptr (h.length+1) 0->lkp tt 6=.int .i64 ag->lkp tt 27=.lst (l.map Ze.enc) .no->lkp tt 28=.int .i64 (l.length:Nat)->lkp tt 29=.int .i64 (met.length:Nat)->∃y U B J,qh h.length Wd (.loop yD) ⟨tt,h++(.cells M::.cells [.int .i64 0,.int .i64 0,.int .i64 0,.int .i64 0]::a7),false⟩=some (y,⟨U,h++(.cells M::.cells B::(a7++J)),false⟩)/\U.length=136/\lkp U 0=.ptr id 0/\lkp U 3=.ptr h.length 0/\lkp U 4=.ptr (h.length+1) 0/\lkp U 14=lkp tt 14/\lkp U 15=lkp tt 15/\lkp U 16=lkp tt 16/\lkp U 87=lkp tt 87/\lkp U 88=lkp tt 88/\lkp U 89=lkp tt 89/\((y=.exit 0/\B=[.int .i64 0,.int .i64 0,.int .i64 0,.int .i64 0]/\Qt (kj ms ag) r met.length=none)\/(y=.ret/\∃i e,Qt (kj ms ag) r met.length=some (i,e)/\B=[.int .i64 0,.int .i64 9,.int .i64 (i:Nat),.int .i64 0]/\lkp U 5=.int .i64 e)):=by
 intro r;have kl:h.length<=h.length:=jm _
 induction r with
 |nil=>intro met a7 tt hm ht e0 e3 e4 e6 el en ei;rw[jV]at hm;subst hm;have c1:ilt (met.length:Int) (met.length:Int)=false:=ZI zo;generalize he:qh h.length Wd _ _=R;rw[qg]at he;simp only[yD,sT.1,sC.1,qe,seval,-rN,ht,en,ei,c1]at he;subst he;refine⟨_,_,_,[],by rw[jV],Y0,?_,?_,?_,?_,?_,?_,?_,?_,?_,.inl ⟨rfl,rfl,rfl⟩⟩<;>simp only[sT.1,sC.1,seval,-rN,e0,e3,e4]
 |cons a r ih=>
  intro met a7 tt hm ht e0 e3 e4 e6 el en ei;have aj:met.length<l.length:=(by rw[<-hm];simp);have c1:ilt (met.length:Int) (l.length:Int)=true:=ZP zo;have w:=qy (n:=met.length) zo;have ac:l[met.length]?=some a:=(by rw[<-hm];simp);have ai:=List.mem_of_getElem? ac;have hB:Nat.ble h.length (h.length+(a7.length+1+1))=true:=qu zo;have aa:Nat.ble h.length (h.length+1)=true:=qu zo;have ad:=λJ=>hK.box2 J;have a8:=λJ=>hK.lk (ah a ai) J;simp only[sh1]at a8;have hx:=qI (k:=2) (en:=Ze.enc) (l:=l) (n:=met.length) (a:=a) (cs:=[.str a.name,.str a.model]) ac rfl rfl;rw[Qt];have step:((kj ms ag) met.length a==0)=true->(∃a6,qh h.length Wd yD ⟨tt,h++(.cells M::.cells [.int .i64 0,.int .i64 0,.int .i64 0,.int .i64 0]::a7),false⟩=some (.nor,⟨a6,h++(.cells M::.cells [.int .i64 0,.int .i64 0,.int .i64 0,.int .i64 0]::(a7++[.cells [.str a.name,.str a.model]])),false⟩)/\a6.length=136/\lkp a6 0=.ptr id 0/\lkp a6 3=.ptr h.length 0/\lkp a6 4=.ptr (h.length+1) 0/\lkp a6 6=.int .i64 ag/\lkp a6 27=.lst (l.map Ze.enc) .no/\lkp a6 28=.int .i64 (l.length:Nat)/\lkp a6 29=.int .i64 ((met.length+1:Nat):Int)/\lkp a6 14=lkp tt 14/\lkp a6 15=lkp tt 15/\lkp a6 16=lkp tt 16/\lkp a6 87=lkp tt 87/\lkp a6 88=lkp tt 88/\lkp a6 89=lkp tt 89)->∃y U B J,qh h.length Wd (.loop yD) ⟨tt,h++(.cells M::.cells [.int .i64 0,.int .i64 0,.int .i64 0,.int .i64 0]::a7),false⟩=some (y,⟨U,h++(.cells M::.cells B::(a7++J)),false⟩)/\U.length=136/\lkp U 0=.ptr id 0/\lkp U 3=.ptr h.length 0/\lkp U 4=.ptr (h.length+1) 0/\lkp U 14=lkp tt 14/\lkp U 15=lkp tt 15/\lkp U 16=lkp tt 16/\lkp U 87=lkp tt 87/\lkp U 88=lkp tt 88/\lkp U 89=lkp tt 89/\((y=.exit 0/\B=[.int .i64 0,.int .i64 0,.int .i64 0,.int .i64 0]/\(bif (kj ms ag) met.length a==0 then Qt (kj ms ag) r (met.length+1)else some (met.length,(kj ms ag) met.length a))=none)\/(y=.ret/\∃i e,(bif (kj ms ag) met.length a==0 then Qt (kj ms ag) r (met.length+1)else some (met.length,(kj ms ag) met.length a))=some (i,e)/\B=[.int .i64 0,.int .i64 9,.int .i64 (i:Nat),.int .i64 0]/\lkp U 5=.int .i64 e)):=(by rintro hz ⟨a6,y1,y2,y3,y4,y5,y6,y7,y8,y9,z1,z2,z3,z4,z5,z6⟩;obtain⟨y,U,B,J,q1,q2,q3,q4,q5,q6,q7,q8,q9,af,ae,ab⟩:=ih (met++[a]) _ a6 (by rw[<-hm];simp) y2 y3 y4 y5 y6 y7 y8 (by rw[ji,List.length_singleton];exact y9);rw[ji,List.length_singleton]at ab;refine⟨y,U,B,_::J,by rw[qg,y1,qJ,q1,jp];rfl,q2,q3,q4,q5,by rw[q6,z1],by rw[q7,z2],by rw[q8,z3],by rw[q9,z4],by rw[af,z5],by rw[ae,z6],?_⟩;rw[hz];exact ab);clear ih
  cases zg:(met.length:Int)==ag with
  |true=>rw[show kj ms ag met.length a=11 by rw[kj,zg];rfl];generalize hE:qh h.length Wd _ _=R;rw[qg]at hE;simp only[yD,sT.1,sC.1,qe,seval,-rN,qH,splice,qd.cells,ht,e4,el,en,ei,c1,hx,hB,aa,e6,zg]at hE;subst hE;refine⟨_,_,_,_,rfl,Y0,?_,?_,?_,?_,?_,?_,?_,?_,?_,.inr ⟨rfl,met.length,_,rfl,rfl,?_⟩⟩<;>simp only[sT.1,sC.1,seval,-rN,ht,e0,e3,e4]
  |false=>
   cases zs:(plM ms a.model 0).isSome with
   |false=>rw[show kj ms ag met.length a=10 by rw[kj,zg,zs];rfl];rw[zs]at a8;generalize hE:qh h.length Wd _ _=R;rw[qg]at hE;simp only[yD,sT.1,sC.1,qe,Nat.testBit,bne,seval,-rN,qH,splice,qd.cells,QJ,Qn,Z2,ht,e0,e4,el,en,ei,c1,hx,hB,aa,ad,e6,zg,a8]at hE;subst hE;refine⟨_,_,_,_,rfl,Y0,?_,?_,?_,?_,?_,?_,?_,?_,?_,.inr ⟨rfl,met.length,_,rfl,rfl,?_⟩⟩<;>simp only[sT.1,sC.1,seval,-rN,ht,e0,e3,e4]
   |true=>rw[show kj ms ag met.length a=0 by rw[kj,zg,zs];rfl]at step⊢;rw[zs]at a8;refine step rfl ?_;generalize hE:qh h.length Wd _ _=R;simp only[yD,sT.1,sC.1,qe,Nat.testBit,bne,seval,-rN,qH,splice,qd.cells,QJ,Qn,Z2,ht,e0,e4,el,en,ei,c1,hx,hB,aa,w,ad,e6,zg,a8]at hE;subst hE;refine⟨_,rfl,Y0,?_,?_,?_,?_,?_,?_,?_,?_,?_,?_,?_,?_,?_⟩<;>simp only[sT.1,sC.1,seval,-rN,ht,e0,e3,e4,el,en,e6]
end
section
variable{h:List qj}{id mid:Nat}{ms:List qf}{root:Str}{M:List qd}{ag:Int}{m:qf}{ri:Nat}
theorem qeR{l:List ZX}(hK:KAt h id mid ms root)(hl:l.length<=100000)(hC:yb ms)(ah:m∈ms)(hp:∀p∈m.parts,(plM ms p.model 0).isSome=true)(hM:M=m.cs): ∀(r met:List ZX)(a7:List qj) tt,met++r=l->tt.length=136->lkp tt 0=.ptr id 0->lkp tt 3=.ptr h.length 0->lkp tt 4=.ptr (h.length+1) 0->lkp tt 6=.int .i64 ag->lkp tt 58=.lst (l.map ZX.enc) .no->lkp tt 59=.int .i64 (l.length:Nat)->lkp tt 60=.int .i64 (met.length:Nat)->∃y U B J,qh h.length Wd (.loop yE) ⟨tt,h++(.cells M::.cells [.int .i64 0,.int .i64 0,.int .i64 0,.int .i64 0]::a7),false⟩=some (y,⟨U,h++(.cells M::.cells B::(a7++J)),false⟩)/\U.length=136/\lkp U 0=.ptr id 0/\lkp U 3=.ptr h.length 0/\lkp U 4=.ptr (h.length+1) 0/\lkp U 14=lkp tt 14/\lkp U 15=lkp tt 15/\lkp U 16=lkp tt 16/\lkp U 87=lkp tt 87/\lkp U 88=lkp tt 88/\lkp U 89=lkp tt 89/\((y=.exit 2/\B=[.int .i64 0,.int .i64 0,.int .i64 0,.int .i64 0]/\Qt (zG ms m ag) r met.length=none)\/(y=.ret/\∃i e,Qt (zG ms m ag) r met.length=some (i,e)/\B=[.int .i64 0,.int .i64 10,.int .i64 (i:Nat),.int .i64 0]/\lkp U 5=.int .i64 e)):=by
 intro r;have kl:h.length<=h.length:=jm _
 induction r with
 |nil=>intro met a7 tt hm ht e0 e3 e4 e6 el en ei;rw[jV]at hm;subst hm;have c1:ilt (met.length:Int) (met.length:Int)=false:=ZI zo;generalize he:qh h.length Wd _ _=R;rw[qg]at he;simp only[yE,sT.1,sC.1,qe,seval,-rN,ht,en,ei,c1]at he;subst he;refine⟨_,_,_,[],by rw[jV],Y0,?_,?_,?_,?_,?_,?_,?_,?_,?_,.inl ⟨rfl,rfl,rfl⟩⟩<;>simp only[sT.1,sC.1,seval,-rN,e0,e3,e4]
 |cons a r ih=>
  intro met a7 tt hm ht e0 e3 e4 e6 el en ei;have ai:met.length<l.length:=(by rw[<-hm];simp);have c1:ilt (met.length:Int) (l.length:Int)=true:=ZP zo;have w:=qy (n:=met.length) zo;have ad:l[met.length]?=some a:=(by rw[<-hm];simp);have ak:=List.mem_of_getElem? ad;have hB:Nat.ble h.length (h.length+(a7.length+1+1))=true:=qu zo;have ab:Nat.ble h.length (h.length+1)=true:=qu zo;have aj:=λJ=>hK.box2 J;have hq:=λJ=>qpK (l:=a) (hK.more J) hC ah hp;rw[qf.enc,<-hM,show a.enc=.agg [.str a.frm.part,.str a.frm.port,.str a.to.part,.str a.to.port]from rfl]at hq;have aa:Go.AE.cut M 0 (some 14)=some (.agg M):=(by rw[hM];rfl);have al:M.length=14:=(by rw[hM];rfl);have hx:=qI (k:=4) (en:=ZX.enc) (l:=l) (n:=met.length) (a:=a) (cs:=[.str a.frm.part,.str a.frm.port,.str a.to.part,.str a.to.port]) ad rfl rfl;rw[Qt];have step:((zG ms m ag) met.length a==0)=true->(∃a6,qh h.length Wd yE ⟨tt,h++(.cells M::.cells [.int .i64 0,.int .i64 0,.int .i64 0,.int .i64 0]::a7),false⟩=some (.nor,⟨a6,h++(.cells M::.cells [.int .i64 0,.int .i64 0,.int .i64 0,.int .i64 0]::(a7++[.cells [.str a.frm.part,.str a.frm.port,.str a.to.part,.str a.to.port]])),false⟩)/\a6.length=136/\lkp a6 0=.ptr id 0/\lkp a6 3=.ptr h.length 0/\lkp a6 4=.ptr (h.length+1) 0/\lkp a6 6=.int .i64 ag/\lkp a6 58=.lst (l.map ZX.enc) .no/\lkp a6 59=.int .i64 (l.length:Nat)/\lkp a6 60=.int .i64 ((met.length+1:Nat):Int)/\lkp a6 14=lkp tt 14/\lkp a6 15=lkp tt 15/\lkp a6 16=lkp tt 16/\lkp a6 87=lkp tt 87/\lkp a6 88=lkp tt 88/\lkp a6 89=lkp tt 89)->∃y U B J,qh h.length Wd (.loop yE) ⟨tt,h++(.cells M::.cells [.int .i64 0,.int .i64 0,.int .i64 0,.int .i64 0]::a7),false⟩=some (y,⟨U,h++(.cells M::.cells B::(a7++J)),false⟩)/\U.length=136/\lkp U 0=.ptr id 0/\lkp U 3=.ptr h.length 0/\lkp U 4=.ptr (h.length+1) 0/\lkp U 14=lkp tt 14/\lkp U 15=lkp tt 15/\lkp U 16=lkp tt 16/\lkp U 87=lkp tt 87/\lkp U 88=lkp tt 88/\lkp U 89=lkp tt 89/\((y=.exit 2/\B=[.int .i64 0,.int .i64 0,.int .i64 0,.int .i64 0]/\(bif (zG ms m ag) met.length a==0 then Qt (zG ms m ag) r (met.length+1)else some (met.length,(zG ms m ag) met.length a))=none)\/(y=.ret/\∃i e,(bif (zG ms m ag) met.length a==0 then Qt (zG ms m ag) r (met.length+1)else some (met.length,(zG ms m ag) met.length a))=some (i,e)/\B=[.int .i64 0,.int .i64 10,.int .i64 (i:Nat),.int .i64 0]/\lkp U 5=.int .i64 e)):=(by rintro hz ⟨a6,y1,y2,y3,y4,y5,y6,y7,y8,y9,z1,z2,z3,z4,z5,z6⟩;obtain⟨y,U,B,J,q1,q2,q3,q4,q5,q6,q7,q8,q9,af,ae,ac⟩:=ih (met++[a]) _ a6 (by rw[<-hm];simp) y2 y3 y4 y5 y6 y7 y8 (by rw[ji,List.length_singleton];exact y9);rw[ji,List.length_singleton]at ac;refine⟨y,U,B,_::J,by rw[qg,y1,qJ,q1,jp];rfl,q2,q3,q4,q5,by rw[q6,z1],by rw[q7,z2],by rw[q8,z3],by rw[q9,z4],by rw[af,z5],by rw[ae,z6],?_⟩;rw[hz];exact ac);clear ih;generalize a8:qil ms m a=le at*
  cases ze:le==0 with
  |false=>rw[show zG ms m ag met.length a=le by rw[zG,a8,ze];rfl,ze];generalize hE:qh h.length Wd _ _=R;rw[qg]at hE;simp only[yE,sT.1,sC.1,qe,seval,-rN,qH,splice,qd.cells,ht,e0,e3,e4,el,en,ei,c1,hx,hB,ab,hq,aa,ze]at hE;subst hE;refine⟨_,_,_,_,rfl,Y0,?_,?_,?_,?_,?_,?_,?_,?_,?_,.inr ⟨rfl,met.length,_,rfl,rfl,?_⟩⟩<;>simp only[sT.1,sC.1,seval,-rN,ht,e0,e3,e4]
  |true=>
   cases zg:(met.length:Int)==ag with
   |true=>rw[show zG ms m ag met.length a=11 by rw[zG,a8,ze,zg];rfl];generalize hE:qh h.length Wd _ _=R;rw[qg]at hE;simp only[yE,sT.1,sC.1,qe,seval,-rN,qH,splice,qd.cells,ht,e0,e3,e4,el,en,ei,c1,hx,hB,ab,e6,hq,aa,ze,zg]at hE;subst hE;refine⟨_,_,_,_,rfl,Y0,?_,?_,?_,?_,?_,?_,?_,?_,?_,.inr ⟨rfl,met.length,_,rfl,rfl,?_⟩⟩<;>simp only[sT.1,sC.1,seval,-rN,ht,e0,e3,e4]
   |false=>rw[show zG ms m ag met.length a=0 by rw[zG,a8,ze,zg];rfl]at step⊢;refine step rfl ?_;generalize hE:qh h.length Wd _ _=R;simp only[yE,sT.1,sC.1,qe,seval,-rN,qH,splice,qd.cells,ht,e0,e3,e4,el,en,ei,c1,hx,hB,ab,w,e6,hq,aa,ze,zg]at hE;subst hE;refine⟨_,rfl,Y0,?_,?_,?_,?_,?_,?_,?_,?_,?_,?_,?_,?_,?_⟩<;>simp only[sT.1,sC.1,seval,-rN,ht,e0,e3,e4,el,en,e6]
end
section
variable{h:List qj}{id mid:Nat}{ms:List qf}{root:Str}{M:List qd}{ag:Int}{m:qf}{ri:Nat}
theorem qdG{l:List X8}(hK:KAt h id mid ms root)(hl:l.length<=100000)(ah:∀p∈l,Key p.model): ∀(r met:List X8)(a7:List qj) tt,met++r=l->tt.length=136->lkp tt 0=.ptr id 0->lkp tt 3=.ptr h.length 0->lkp tt 4=.ptr (h.length+1) 0->lkp tt 16=.int .i64 (ri:Nat)->lkp tt 105=.lst (l.map X8.enc) .no->lkp tt 106=.int .i64 (l.length:Nat)->lkp tt 107=.int .i64 (met.length:Nat)->∃y U B J,qh h.length Wd (.loop yF) ⟨tt,h++(.cells M::.cells [.int .i64 0,.int .i64 0,.int .i64 0,.int .i64 0]::a7),false⟩=some (y,⟨U,h++(.cells M::.cells B::(a7++J)),false⟩)/\U.length=136/\lkp U 0=.ptr id 0/\lkp U 3=.ptr h.length 0/\lkp U 4=.ptr (h.length+1) 0/\lkp U 14=lkp tt 14/\lkp U 15=lkp tt 15/\lkp U 16=lkp tt 16/\lkp U 87=lkp tt 87/\lkp U 88=lkp tt 88/\lkp U 89=lkp tt 89/\((y=.exit 6/\B=[.int .i64 0,.int .i64 0,.int .i64 0,.int .i64 0]/\Qt (uu ms) r met.length=none)\/(y=.ret/\∃i e,Qt (uu ms) r met.length=some (i,e)/\B=[.int .i64 0,.int .i64 11,.int .i64 (ri:Nat),.int .i64 ((i+1:Nat):Int)]/\lkp U 5=.int .i64 e)):=by
 intro r;have kl:h.length<=h.length:=jm _
 induction r with
 |nil=>intro met a7 tt hm ht e0 e3 e4 e6 el en ei;rw[jV]at hm;subst hm;have c1:ilt (met.length:Int) (met.length:Int)=false:=ZI zo;generalize he:qh h.length Wd _ _=R;rw[qg]at he;simp only[yF,sT.1,sC.1,qe,seval,-rN,ht,en,ei,c1]at he;subst he;refine⟨_,_,_,[],by rw[jV],Y0,?_,?_,?_,?_,?_,?_,?_,?_,?_,.inl ⟨rfl,rfl,rfl⟩⟩<;>simp only[sT.1,sC.1,seval,-rN,e0,e3,e4]
 |cons a r ih=>
  intro met a7 tt hm ht e0 e3 e4 e6 el en ei;have aj:met.length<l.length:=(by rw[<-hm];simp);have c1:ilt (met.length:Int) (l.length:Int)=true:=ZP zo;have w:=qy (n:=met.length) zo;have ad:l[met.length]?=some a:=(by rw[<-hm];simp);have ai:=List.mem_of_getElem? ad;have hB:Nat.ble h.length (h.length+(a7.length+1+1))=true:=qu zo;have ab:Nat.ble h.length (h.length+1)=true:=qu zo;have aa:=λJ=>hK.box2 J;have a8:=λJ=>hK.lk (ah a ai) J;simp only[sh1]at a8;have hx:=qI (k:=7) (en:=X8.enc) (l:=l) (n:=met.length) (a:=a) (cs:=[.int .i64 a.kind,.str a.name,.str a.model,.str a.link.frm.part,.str a.link.frm.port,.str a.link.to.part,.str a.link.to.port]) ad rfl rfl;rw[Qt];have step:((uu ms) met.length a==0)=true->(∃a6,qh h.length Wd yF ⟨tt,h++(.cells M::.cells [.int .i64 0,.int .i64 0,.int .i64 0,.int .i64 0]::a7),false⟩=some (.nor,⟨a6,h++(.cells M::.cells [.int .i64 0,.int .i64 0,.int .i64 0,.int .i64 0]::(a7++[.cells [.int .i64 a.kind,.str a.name,.str a.model,.str a.link.frm.part,.str a.link.frm.port,.str a.link.to.part,.str a.link.to.port]])),false⟩)/\a6.length=136/\lkp a6 0=.ptr id 0/\lkp a6 3=.ptr h.length 0/\lkp a6 4=.ptr (h.length+1) 0/\lkp a6 16=.int .i64 (ri:Nat)/\lkp a6 105=.lst (l.map X8.enc) .no/\lkp a6 106=.int .i64 (l.length:Nat)/\lkp a6 107=.int .i64 ((met.length+1:Nat):Int)/\lkp a6 14=lkp tt 14/\lkp a6 15=lkp tt 15/\lkp a6 16=lkp tt 16/\lkp a6 87=lkp tt 87/\lkp a6 88=lkp tt 88/\lkp a6 89=lkp tt 89)->∃y U B J,qh h.length Wd (.loop yF) ⟨tt,h++(.cells M::.cells [.int .i64 0,.int .i64 0,.int .i64 0,.int .i64 0]::a7),false⟩=some (y,⟨U,h++(.cells M::.cells B::(a7++J)),false⟩)/\U.length=136/\lkp U 0=.ptr id 0/\lkp U 3=.ptr h.length 0/\lkp U 4=.ptr (h.length+1) 0/\lkp U 14=lkp tt 14/\lkp U 15=lkp tt 15/\lkp U 16=lkp tt 16/\lkp U 87=lkp tt 87/\lkp U 88=lkp tt 88/\lkp U 89=lkp tt 89/\((y=.exit 6/\B=[.int .i64 0,.int .i64 0,.int .i64 0,.int .i64 0]/\(bif (uu ms) met.length a==0 then Qt (uu ms) r (met.length+1)else some (met.length,(uu ms) met.length a))=none)\/(y=.ret/\∃i e,(bif (uu ms) met.length a==0 then Qt (uu ms) r (met.length+1)else some (met.length,(uu ms) met.length a))=some (i,e)/\B=[.int .i64 0,.int .i64 11,.int .i64 (ri:Nat),.int .i64 ((i+1:Nat):Int)]/\lkp U 5=.int .i64 e)):=(by rintro hz ⟨a6,y1,y2,y3,y4,y5,y6,y7,y8,y9,z1,z2,z3,z4,z5,z6⟩;obtain⟨y,U,B,J,q1,q2,q3,q4,q5,q6,q7,q8,q9,af,ae,ac⟩:=ih (met++[a]) _ a6 (by rw[<-hm];simp) y2 y3 y4 y5 y6 y7 y8 (by rw[ji,List.length_singleton];exact y9);rw[ji,List.length_singleton]at ac;refine⟨y,U,B,_::J,by rw[qg,y1,qJ,q1,jp];rfl,q2,q3,q4,q5,by rw[q6,z1],by rw[q7,z2],by rw[q8,z3],by rw[q9,z4],by rw[af,z5],by rw[ae,z6],?_⟩;rw[hz];exact ac);clear ih
  cases zk:a.kind==0 with
  |false=>rw[show uu ms met.length a=0 by rw[uu,zk];rfl]at step⊢;refine step rfl ?_;generalize hE:qh h.length Wd _ _=R;simp only[yF,sT.1,sC.1,qe,qL,Nat.testBit,bne,seval,-rN,qH,splice,qd.cells,QJ,Qn,Z2,ht,e0,e4,el,en,ei,c1,hx,hB,ab,w,aa,e6,a8,zk]at hE;subst hE;refine⟨_,rfl,Y0,?_,?_,?_,?_,?_,?_,?_,?_,?_,?_,?_,?_,?_⟩<;>simp only[sT.1,sC.1,seval,-rN,ht,e0,e3,e4,el,en,e6]
  |true=>
   cases zs:(plM ms a.model 0).isSome with
   |true=>rw[show uu ms met.length a=0 by rw[uu,zk,zs];rfl]at step⊢;rw[zs]at a8;refine step rfl ?_;generalize hE:qh h.length Wd _ _=R;simp only[yF,sT.1,sC.1,qe,qL,Nat.testBit,bne,seval,-rN,qH,splice,qd.cells,QJ,Qn,Z2,ht,e0,e4,el,en,ei,c1,hx,hB,ab,w,aa,e6,a8,zk]at hE;subst hE;refine⟨_,rfl,Y0,?_,?_,?_,?_,?_,?_,?_,?_,?_,?_,?_,?_,?_⟩<;>simp only[sT.1,sC.1,seval,-rN,ht,e0,e3,e4,el,en,e6]
   |false=>rw[show uu ms met.length a=10 by rw[uu,zk,zs];rfl];rw[zs]at a8;generalize hE:qh h.length Wd _ _=R;rw[qg]at hE;simp only[yF,sT.1,sC.1,qe,qL,Nat.testBit,bne,seval,-rN,qH,splice,qd.cells,QJ,Qn,Z2,ht,e0,e4,el,en,ei,c1,hx,hB,ab,w,aa,e6,a8,zk]at hE;subst hE;refine⟨_,_,_,_,rfl,Y0,?_,?_,?_,?_,?_,?_,?_,?_,?_,.inr ⟨rfl,met.length,_,rfl,rfl,?_⟩⟩<;>simp only[sT.1,sC.1,seval,-rN,ht,e0,e3,e4]
end
def gr(ms:List qf)(os:List qF):List ZL->Nat->Option Wh
 |[],_=>none
 |r::rs,i=>bif !(qjl os r.e==0)then some ⟨11,(i:Nat),0,qjl os r.e⟩else match Qt (uu ms) r.acts 0 with
  |some (j,e)=>some ⟨11,(i:Nat),((j+1:Nat):Int),e⟩
  |none=>gr ms os rs (i+1)
section
variable{h:List qj}{id mid ic:Nat}{ms:List qf}{root:Str}{M:List qd}{os:List qF}{O:qd}{J0:List qj}
def Z4:List qd:=[.int .i64 0,.int .i64 0,.int .i64 0,.int .i64 0]
theorem qb3{l:List ZL}(hK:KAt h id mid ms root)(hl:l.length<=100000)(am:os.length<=1000000000)(hf:∀r∈l,∃k,Fit k r.e)(ha:∀r∈l,r.acts.length<=100000)(ap:∀r∈l,∀a∈r.acts,Key a.model)(hO:∀J,Zj (h++(.cells M::.cells Z4::(J0++J))) os O)(hc:∃Lm:List ((Str×Str)×Int),(∀J,(h++(.cells M::.cells Z4::(J0++J)))[ic]?=some (.map (Wm Lm 0) Lm.length))/\(∀e∈Lm,zc e.1)/\∀k,qj2 Lm k=(clN os k:Nat)): ∀(r met:List ZL)(a6:List qj) tt,met++r=l->tt.length=136->lkp tt 0=.ptr id 0->lkp tt 3=.ptr h.length 0->lkp tt 4=.ptr (h.length+1) 0->lkp tt 14=O->lkp tt 15=.mp ic->lkp tt 87=.lst (l.map ZL.enc) .no->lkp tt 88=.int .i64 (l.length:Nat)->lkp tt 89=.int .i64 (met.length:Nat)->∃y U B J,qh h.length Wd (.loop qeH) ⟨tt,h++(.cells M::.cells Z4::(J0++a6)),false⟩=some (y,⟨U,h++(.cells M::.cells B::J),false⟩)/\U.length=136/\lkp U 4=.ptr (h.length+1) 0/\((y=.exit 4/\B=Z4/\gr ms os r met.length=none)\/(y=.ret/\∃w,gr ms os r met.length=some w/\B=[.int .i64 0,.int .i64 w.part,.int .i64 w.item,.int .i64 w.sub]/\lkp U 5=.int .i64 w.e)):=by
 have od:=hO [];obtain⟨d4,w4,-⟩:=od.facts;have s4:=od.stor;intro r
 induction r with
 |nil=>intro met a6 tt hm ht e0 e3 e4 aa a8 el en ei;rw[jV]at hm;subst hm;have c1:ilt (met.length:Int) (met.length:Int)=false:=ZI zo;generalize he:qh h.length Wd _ _=R;rw[qg]at he;simp only[qeH,sT.1,sC.1,qe,seval,-rN,ht,en,ei,c1]at he;subst he;exact⟨_,_,_,_,rfl,Y0,Y2,.inl ⟨rfl,rfl,rfl⟩⟩
 |cons a r ih=>
  intro met a6 tt hm ht e0 e3 e4 aa a8 el en ei;have az:met.length<l.length:=(by rw[<-hm];simp);have c1:ilt (met.length:Int) (l.length:Int)=true:=ZP zo;have w:=qy (n:=met.length) zo;have aj:l[met.length]?=some a:=(by rw[<-hm];simp);have af:=List.mem_of_getElem? aj;have hB:Nat.ble h.length (h.length+(J0.length+a6.length+1+1))=true:=qu zo;have ak:Nat.ble h.length (h.length+1)=true:=qu zo;have au:=hf a af;have av:=ha a af;have ar:=ap a af;obtain⟨Lm,c2,c3,c4⟩:=hc;have hq:=λJ=>qqv (h:=h++(.cells M::.cells Z4::(J0++J))) (e:=a.e) (ic:=ic) am au (hO J) ⟨Lm,c2 J,c3,c4⟩;rw[gr];generalize ay:qjl os a.e=re at*;have La:=λa6 tt=>qdG (h:=h) (M:=M) (ri:=met.length) (l:=a.acts) hK av ar a.acts [] a6 tt rfl;obtain⟨⟨op,n,sn,sb,bs⟩,aS⟩:=a;have hx:=qI (k:=6) (en:=ZL.enc) (l:=l) (n:=met.length) (cs:=[.int .i64 op,.int .i64 n,.str sn,.str sb,.lst (bs.map exV) .no,.lst (aS.map X8.enc) .no]) aj rfl rfl;simp only[Zk]at hq;simp only[Z4]at hq ih⊢
  cases ze:re==0 with
  |false=>generalize hE:qh h.length Wd _ _=R;rw[qg]at hE;simp only[qeH,sT.1,sC.1,qe,seval,-rN,qH,splice,qd.cells,Z2,ht,e4,aa,a8,el,en,ei,c1,hx,hq,d4,hB,ak,ze]at hE;subst hE;refine⟨_,_,_,_,rfl,Y0,?_,.inr ⟨rfl,_,rfl,rfl,?_⟩⟩<;>simp only[sT.1,sC.1,seval,-rN,ht,e4]
  |true=>
   rw[Bool.not_true,cond_false];generalize hE:qh h.length Wd _ _=R;rw[qg]at hE;simp only[qeH,sT.1,sC.1,qe,seval,-rN,qH,splice,qd.cells,Z2,ht,e4,aa,a8,el,en,ei,c1,hx,hq,d4,hB,ak,ze,jU]at hE;generalize ai:qh h.length Wd (.loop yF) _=z at hE;have aA:∀x:qj,h++(.cells M::.cells [.int .i64 0,.int .i64 0,.int .i64 0,.int .i64 0]::(J0++(a6++[x])))=h++(.cells M::.cells [.int .i64 0,.int .i64 0,.int .i64 0,.int .i64 0]::((J0++a6)++[x])):=λx=>(by rw[jp]);obtain⟨y,ah,B,J,q1,q2,q3,q4,q5,q6,q7,q8,q9,ae,ad,ac⟩:∃y U B J,z=some (y,⟨U,h++(.cells M::.cells B::(J0++(a6++([.cells [.int .i64 op,.int .i64 n,.str sn,.str sb,.lst (bs.map exV) .no,.lst (aS.map X8.enc) .no]]++J)))),false⟩)/\U.length=136/\lkp U 0=.ptr id 0/\lkp U 3=.ptr h.length 0/\lkp U 4=.ptr (h.length+1) 0/\lkp U 14=O/\lkp U 15=.mp ic/\lkp U 16=.int .i64 (met.length:Nat)/\lkp U 87=.lst (l.map ZL.enc) .no/\lkp U 88=.int .i64 (l.length:Nat)/\lkp U 89=.int .i64 (met.length:Nat)/\((y=.exit 6/\B=[.int .i64 0,.int .i64 0,.int .i64 0,.int .i64 0]/\Qt (uu ms) aS 0=none)\/(y=.ret/\∃i e,Qt (uu ms) aS 0=some (i,e)/\B=[.int .i64 0,.int .i64 11,.int .i64 (met.length:Nat),.int .i64 ((i+1:Nat):Int)]/\lkp U 5=.int .i64 e)):=(by generalize hT:up _ 107 _=TT at ai;rw[<-ai];obtain⟨y,ah,B,J,q1,q2,q3,q4,q5,q6,q7,q8,q9,ae,ad,ac⟩:=La (J0++(a6++[.cells [.int .i64 op,.int .i64 n,.str sn,.str sb,.lst (bs.map exV) .no,.lst (aS.map X8.enc) .no]])) TT (by rw[<-hT];simp only[qQ,ht]) (by rw[<-hT];simp only[sT.1,sC.1,seval,-rN,e0]) (by rw[<-hT];simp only[sT.1,sC.1,seval,-rN,e3]) (by rw[<-hT];simp only[sT.1,sC.1,seval,-rN,e4]) (by rw[<-hT];simp only[sT.1,sC.1,seval,-rN,ht]) (by rw[<-hT];simp only[sT.1,sC.1,seval,-rN,ht]) (by rw[<-hT];simp only[sT.1,sC.1,seval,-rN,ht]) (by rw[<-hT];simp only[sT.1,sC.1,seval,-rN,ht];rfl);refine⟨y,ah,B,J,by rw[q1];simp only[jp],q2,q3,q4,q5,by rw[q6,<-hT];simp only[sT.1,sC.1,seval,-rN,aa],by rw[q7,<-hT];simp only[sT.1,sC.1,seval,-rN,a8],by rw[q8,<-hT];simp only[sT.1,sC.1,seval,-rN,ht],by rw[q9,<-hT];simp only[sT.1,sC.1,seval,-rN,el],by rw[ae,<-hT];simp only[sT.1,sC.1,seval,-rN,en],by rw[ad,<-hT];simp only[sT.1,sC.1,seval,-rN,ei],?_⟩;simpa using ac);subst q1;rcases ac with⟨rfl,rfl,ab⟩|⟨rfl,i,e,ab,rfl,al⟩;·rw[ab];simp only[sT.1,sC.1,qe,seval,-rN,q2,ad,w]at hE;generalize a7:up _ 89 _=T2 at hE;subst hE;obtain⟨y,U,B,J,z1,z2,z3,z4⟩:=ih (met++[⟨.mk op n sn sb bs,aS⟩]) (a6++([.cells [.int .i64 op,.int .i64 n,.str sn,.str sb,.lst (bs.map exV) .no,.lst (aS.map X8.enc) .no]]++J)) T2 (by rw[<-hm];simp) (by rw[<-a7];simp only[qQ,q2]) (by rw[<-a7];simp only[sT.1,sC.1,seval,-rN,q3]) (by rw[<-a7];simp only[sT.1,sC.1,seval,-rN,q4]) (by rw[<-a7];simp only[sT.1,sC.1,seval,-rN,q5]) (by rw[<-a7];simp only[sT.1,sC.1,seval,-rN,q6]) (by rw[<-a7];simp only[sT.1,sC.1,seval,-rN,q7]) (by rw[<-a7];simp only[sT.1,sC.1,seval,-rN,q9]) (by rw[<-a7];simp only[sT.1,sC.1,seval,-rN,ae]) (by rw[ji,List.length_singleton,<-a7];simp only[sT.1,seval,-rN,q2]);rw[ji,List.length_singleton]at z4;exact⟨y,U,B,J,z1,z2,z3,z4⟩
   ·rw[ab];simp only[sT.1,sC.1,seval,-rN]at hE;subst hE;exact⟨_,_,_,_,rfl,q2,q5,.inr ⟨rfl,_,rfl,rfl,al⟩⟩
end
theorem L4{α:Type}{f:Nat->α->Int}:∀{l:List α}{i:Nat},Qt f l i=none->∀a∈l,∃j,f j a=0
 |[],_,_,a,ha=>by cases ha
 |x::l,i,h,a,ha=>by
  rw[Qt]at h
  cases hz:f i x==0 with
  |false=>rw[hz]at h;cases h
  |true=>
   rw[hz,cond_true]at h;rcases List.mem_cons.1 ha with rfl|ha;·exact⟨i,eq_of_beq hz⟩
   ·exact L4 h a ha
def twP(l:List Ze):Int:=tw (λa b=>a.name==b.name) [] l
def twK(l:List ZX):Int:=tw qjo [] l
def qgF(ms:List qf)(m:qf):Wh:=match Qt (kj ms (twP m.parts)) m.parts 0 with
 |some (i,e)=>⟨9,(i:Nat),0,e⟩
 |none=>match Qt (zG ms m (twK m.links)) m.links 0 with
  |some (i,e)=>⟨10,(i:Nat),0,e⟩
  |none=>match gr ms (ofL ms (Qy m)) m.rules 0 with
   |some w=>w
   |none=>okW
structure qnW (ms:List qf) (m:qf):Prop where
 parts:m.parts.length<=10000
 pkey:∀p∈m.parts,Key p.name
 links:m.links.length<=10000
 lkey:∀l∈m.links,qaI l
 rules:m.rules.length<=10000
 acts:∀r∈m.rules,r.acts.length<=10000
 sum:m.parts.length+(m.rules.map λr=>r.acts.length).sum<=1000000
 gkey:∀p∈Qy m,Key p.name/\Key p.model
 akey:∀r∈m.rules,∀a∈r.acts,Key a.model
 rfit:∀r∈m.rules,∃k,Fit k r.e
 ofs:(ofL ms (Qy m)).length<=1000000000
section
variable{h:List qj}{id mid:Nat}{ms:List qf}{root:Str}{m:qf}
theorem qdS(hK:KAt h id mid ms root)(hM:yb ms)(hV:qaM ms)(hm:m∈ms)(hC:qnW ms m):∃H,Wd (.fn 98 [] []) [.ptr id 0,m.enc] h=some (.ret (qgF ms m).enc,H,false)/\H=h:=by
 have qa:=λH=>qsO (l:=m.parts) (by have:=hC.parts;omega) hC.pkey H;have ql:=λH=>qsP (l:=m.links) (by have:=hC.links;omega) hC.lkey H;rw[show tw (λa b:Ze=>a.name==b.name) [] m.parts=twP m.parts from rfl]at qa;rw[show tw qjo [] m.links=twK m.links from rfl]at ql;refine⟨h,?_,rfl⟩;rw[qgF];generalize hw:Wd _ _ h=w;rw[Za 98 c98]at hw;have L0:=λtt=>qe7 (M:=m.cs) (ag:=twP m.parts) hK (l:=m.parts) (by have:=hC.parts;omega) (λp hp=>(hM.key m hm p hp)) m.parts [] [] tt rfl;simp only[c98,qf.enc,qf.cs,sT.1,sC.1,qe,seval,-rN,qd.cells,jU,qa]at hw;generalize hr:qh h.length Wd (.loop yD) _=z at hw;obtain⟨y,t1,B,J,q1,q2,q3,q4,q5,q6⟩:∃y U B J,z=some (y,⟨U,h++(.cells m.cs::.cells B::J),false⟩)/\U.length=136/\lkp U 0=.ptr id 0/\lkp U 3=.ptr h.length 0/\lkp U 4=.ptr (h.length+1) 0/\((y=.exit 0/\B=[.int .i64 0,.int .i64 0,.int .i64 0,.int .i64 0]/\Qt (kj ms (twP m.parts)) m.parts 0=none)\/(y=.ret/\∃i e,Qt (kj ms (twP m.parts)) m.parts 0=some (i,e)/\B=[.int .i64 0,.int .i64 9,.int .i64 (i:Nat),.int .i64 0]/\lkp U 5=.int .i64 e)):=by generalize hT:up _ 29 _=TT at hr;rw[<-hr];obtain⟨y,aa,B,J,q1,q2,q3,q4,q5,-,-,-,-,-,-,ah⟩:=L0 TT (by rw[<-hT];simp only[qQ];rfl) (by rw[<-hT];simp only[sT.1,sC.1,seval,-rN]) (by rw[<-hT];simp only[sT.1,sC.1,seval,-rN]) (by rw[<-hT];simp only[sT.1,sC.1,seval,-rN]) (by rw[<-hT];simp only[sT.1,sC.1,seval,-rN]) (by rw[<-hT];simp only[sT.1,sC.1,seval,-rN]) (by rw[<-hT];simp only[sT.1,sC.1,seval,-rN]) (by rw[<-hT];simp only[sT.1,sC.1,seval,-rN];rfl);exact⟨y,aa,B,_,q1,q2,q3,q4,q5,ah⟩
 subst q1;rcases q6 with⟨rfl,rfl,a6⟩|⟨rfl,i,e,a6,rfl,q7⟩;case inr=>rw[a6];simp only[qf.cs,sT.1,sC.1,seval,-rN,q5,q7]at hw;exact hw.symm
 rw[a6]
 have aj:∀p∈m.parts,(plM ms p.model 0).isSome=true:=λp hp=>by
  obtain⟨j,hj⟩:=L4 a6 p hp;rw[kj]at hj
  cases hg:(j:Int)==twP m.parts with
  |true=>rw[hg]at hj;cases hj
  |false=>
   rw[hg,cond_false]at hj
   cases hs:(plM ms p.model 0).isSome with
   |true=>rfl
   |false=>rw[hs]at hj;cases hj
 have L1:=λJ tt=>qeR (M:=m.cs) (ag:=twK m.links) hK (l:=m.links) (by have:=hC.links;omega) hM hm aj rfl m.links [] J tt rfl;simp only[qf.cs,sT.1,sC.1,qe,seval,-rN,q2,q4,jU,ql]at hw;generalize hr:qh h.length Wd (.loop yE) _=z at hw;obtain⟨y,t2,B,J,r1,r2,r3,r4,r5,r6⟩:∃y U B J,z=some (y,⟨U,h++(.cells m.cs::.cells B::J),false⟩)/\U.length=136/\lkp U 0=.ptr id 0/\lkp U 3=.ptr h.length 0/\lkp U 4=.ptr (h.length+1) 0/\((y=.exit 2/\B=[.int .i64 0,.int .i64 0,.int .i64 0,.int .i64 0]/\Qt (zG ms m (twK m.links)) m.links 0=none)\/(y=.ret/\∃i e,Qt (zG ms m (twK m.links)) m.links 0=some (i,e)/\B=[.int .i64 0,.int .i64 10,.int .i64 (i:Nat),.int .i64 0]/\lkp U 5=.int .i64 e)):=by generalize hT:up _ 60 _=TT at hr;rw[<-hr];obtain⟨y,aa,B,J,u1,u2,u3,u4,u5,-,-,-,-,-,-,af⟩:=L1 J TT (by rw[<-hT];simp only[qQ,q2]) (by rw[<-hT];simp only[sT.1,sC.1,seval,-rN,q3]) (by rw[<-hT];simp only[sT.1,sC.1,seval,-rN,q4]) (by rw[<-hT];simp only[sT.1,sC.1,seval,-rN,q5]) (by rw[<-hT];simp only[sT.1,sC.1,seval,-rN,q2]) (by rw[<-hT];simp only[sT.1,sC.1,seval,-rN,q2]) (by rw[<-hT];simp only[sT.1,sC.1,seval,-rN,q2]) (by rw[<-hT];simp only[sT.1,sC.1,seval,-rN,q2];rfl);exact⟨y,aa,B,_,u1,u2,u3,u4,u5,af⟩
 subst r1;have a8:∀o,Qt (zG ms m (twK m.links)) m.links 0=o->w=some (.ret (Wh.enc (match o with|some (i,e)=>⟨10,(i:Nat),0,e⟩|none=>match gr ms (ofL ms (Qy m)) m.rules 0 with|some w=>w|none=>okW)),h,false)->w=some (.ret (Wh.enc (match Qt (zG ms m (twK m.links)) m.links 0 with|some (i,e)=>⟨10,(i:Nat),0,e⟩|none=>match gr ms (ofL ms (Qy m)) m.rules 0 with|some w=>w|none=>okW)),h,false):=by intro o ho hq;rw[ho];exact hq
 rcases r6 with⟨rfl,rfl,ac⟩|⟨rfl,i,e,ac,rfl,r7⟩;case inr=>simp only[qf.cs,sT.1,sC.1,seval,-rN,r5,r7]at hw;exact a8 _ ac hw.symm
 refine a8 _ ac ?_;obtain⟨O,G,ic,im,ab,hS⟩:=quv (m:=m) (hK.more (.cells m.cs::.cells [.int .i64 0,.int .i64 0,.int .i64 0,.int .i64 0]::J)) hV hC.parts hC.rules hC.acts hC.sum hC.gkey hC.ofs;have ae:=hS.eq;generalize G.drop _=G' at ae;have hG:G=h++(.cells m.cs::.cells [.int .i64 0,.int .i64 0,.int .i64 0,.int .i64 0]::(J++G')):=by rw[<-ae,jp];rfl
 obtain⟨o1,o2,o3,o4,o5⟩:=hS.facts
 have hO:Zj G (ofL ms (Qy m)) O:=by
  rcases hS.ot with⟨e1,e2⟩|⟨e1,ai,e2,_,_,_,_,e3⟩;·exact .inl ⟨e1,true,e2⟩
  ·exact .inr ⟨ai,e2,e3⟩
 obtain⟨Lm,c1,c2,c3⟩:=hS.ct;have ad:∀K,G++K=h++(.cells m.cs::.cells Z4::((J++G')++K)):=λK=>by rw[hG,jp];rfl
 have L2:=λtt=>qb3 (M:=m.cs) (J0:=J++G') hK (l:=m.rules) (by have:=hC.rules;omega) hC.ofs hC.rfit (λr hr=>by have:=hC.acts r hr;omega) hC.akey (λK=>by rw[<-ad K];exact hO.more K) ⟨Lm,λK=>by rw[<-ad K];exact ZM c1 K,c2,c3⟩ m.rules [] [] tt rfl;rw[qf.enc,hG]at ab;simp only[qf.cs]at ab;simp only[qf.cs,sT.1,sC.1,qe,seval,-rN,r2,r3,r4,jU,ab,o1,o3,Z2,LC]at hw;generalize hr:qh h.length Wd (.loop qeH) _=z at hw;obtain⟨y,t3,B,K,s1,s2,s3,s4⟩:∃y U B K,z=some (y,⟨U,h++(.cells m.cs::.cells B::K),false⟩)/\U.length=136/\lkp U 4=.ptr (h.length+1) 0/\((y=.exit 4/\B=Z4/\gr ms (ofL ms (Qy m)) m.rules 0=none)\/(y=.ret/\∃w,gr ms (ofL ms (Qy m)) m.rules 0=some w/\B=[.int .i64 0,.int .i64 w.part,.int .i64 w.item,.int .i64 w.sub]/\lkp U 5=.int .i64 w.e)):=by generalize hT:up _ 89 _=TT at hr;rw[<-hr];have:=L2 TT (by rw[<-hT];simp only[qQ,r2]) (by rw[<-hT];simp only[sT.1,sC.1,seval,-rN,r3]) (by rw[<-hT];simp only[sT.1,sC.1,seval,-rN,r4]) (by rw[<-hT];simp only[sT.1,sC.1,seval,-rN,r5]) (by rw[<-hT];simp only[sT.1,sC.1,seval,-rN,r2]) (by rw[<-hT];simp only[sT.1,sC.1,seval,-rN,r2]) (by rw[<-hT];simp only[sT.1,sC.1,seval,-rN,r2]) (by rw[<-hT];simp only[sT.1,sC.1,seval,-rN,r2]) (by rw[<-hT];simp only[sT.1,sC.1,seval,-rN,r2];rfl);rw[<-ad [],jV,hG]at this;exact this
 subst s1;have a7:∀o,gr ms (ofL ms (Qy m)) m.rules 0=o->w=some (.ret (Wh.enc (match o with|some w=>w|none=>okW)),h,false)->w=some (.ret (Wh.enc (match gr ms (ofL ms (Qy m)) m.rules 0 with|some w=>w|none=>okW)),h,false):=by intro o ho hq;rw[ho];exact hq
 rcases s4 with⟨rfl,rfl,s5⟩|⟨rfl,v,s5,rfl,s6⟩;·refine a7 _ s5 ?_;simp only[Z4,sT.1,sC.1,qe,seval,-rN,qH,splice,qd.cells,qz,s2,s3]at hw;exact hw.symm
 ·refine a7 _ s5 ?_;simp only[sT.1,sC.1,seval,-rN,s3,s6]at hw;exact hw.symm
end
theorem qqV{l:List qD}{fb:Bool}(hl:l.length<=100000)(hk:∀a∈l,Key a.name)(h:List qj):Wd (.fn 96 [] []) [.lst (l.map qD.enc) (fl fb),.fn 97 [] []] h=some (.ret (.int .i64 (tw (λa b=>a.name==b.name) [] l)),h,false):=gT (fb:=fb) (sh:=sh1) (κ:=λa=>.str a.name) (k:=3) (z:=[.str [],.int .i64 0,.lst [] .full]) rfl yk rfl rfl (λa _=>gM a) hl (λa=>rfl) (λa _ h=>qsj a h) (λa ha b hb=>zj (hk a ha) (hk b hb)) (λa ha=>W4 (hk a ha)) h
def Xr(ms:List qf)(m:qf):Wh:=bif ile 0 (tw (λa b:qD=>a.name==b.name) [] (m.ins++m.outs))then(bif ilt (tw (λa b:qD=>a.name==b.name) [] (m.ins++m.outs)) (m.ins.length:Nat)then⟨1,tw (λa b:qD=>a.name==b.name) [] (m.ins++m.outs),0,11⟩else⟨2,tw (λa b:qD=>a.name==b.name) [] (m.ins++m.outs) - (m.ins.length:Nat),0,11⟩)else bif m.coupled then qgF ms m else qdI m
theorem qtz{k:Nat}{us vs:List qd}(hu:∀u∈us,Shp k u)(hv:∀u∈vs,Shp k u)(hl:us.length+vs.length<=1000000):Xp k us vs=true:=by
 simp only[Xp,Bool.and_eq_true,decide_eq_true_eq];refine⟨⟨jn hl (by decide),?_⟩,?_⟩;·rw[List.all_eq_true];intro v h;obtain⟨cs,rfl,h1,h2,_⟩:=hv v h;simp[qd.cells,h1];simpa using h2
 ·cases us with
  |nil=>rfl
  |cons u us=>obtain⟨ds,rfl,h3,_⟩:=hu u (by simp);simp[qd.cells,h3]
section
variable{h:List qj}{id mid:Nat}{ms:List qf}{root:Str}{m:qf}
theorem qdq{α:Type}{same:α->α->Bool}:∀(l met:List α),tw same met l=-1\/∃n,tw same met l=((n:Nat):Int)/\met.length<=n/\n<met.length+l.length
 |[],met=>.inl rfl
 |a::l,met=>by
  rw[tw]
  cases met.any (same a)with
  |true=>exact .inr ⟨met.length,rfl,jm _,by simp⟩
  |false=>
   rcases qdq l (met++[a])with h|⟨n,h1,h2,h3⟩;·exact .inl h
   ·exact .inr ⟨n,h1,by simp at h2;omega,by simp at h3⊢;omega⟩
theorem ql6(hK:KAt h id mid ms root)(hM:yb ms)(hV:qaM ms)(hm:m∈ms)(hk:∀a∈m.ins++m.outs,Key a.name)(hC:m.coupled=true->qnW ms m)(hA:m.coupled=false->qnU m):Wd (.fn 46 [] []) [.ptr id 0,m.enc] h=some (.ret (Xr ms m).enc,h,false):=by
 have li:=hM.ins m hm;have lo:=hM.outs m hm;have qt:=λfb H=>qqV (l:=m.ins++m.outs) (fb:=fb) (by simp;omega) hk H;have a1:=qtz (k:=3) (us:=[]) (vs:=m.ins.map qD.enc) (λu hu=>by cases hu) (λu hu=>by obtain⟨p,_,rfl⟩:=jT.1 hu;exact gM p) (by simp;omega);have a2:=qtz (k:=3) (us:=m.ins.map qD.enc) (vs:=m.outs.map qD.enc) (λu hu=>by obtain⟨p,_,rfl⟩:=jT.1 hu;exact gM p) (λu hu=>by obtain⟨p,_,rfl⟩:=jT.1 hu;exact gM p) (by simp;omega);have hr:=qdq (same:=λa b:qD=>a.name==b.name) (m.ins++m.outs) [];rw[j5]at qt;have qc:∀J,m.coupled=true->Wd (.fn 98 [] []) [.ptr id 0,m.enc] (h++J)=some (.ret (qgF ms m).enc,h++J,false):=λJ hc=>by obtain⟨H,h1,h2⟩:=qdS (m:=m) (hK.more J) hM hV hm (hC hc);rw[h2]at h1;exact h1
 have qa:=λJ hc=>qf8 (m:=m) (h:=h++J) (kv:=.ptr id 0) rfl (λ_ _=>rfl) (hA hc);rw[Xr];have l0:XM 3 [.str [],.int .i64 0,.lst [] .full] 0 []=some (.lst [] .full):=yk;generalize hw:Wd _ _ h=w;rw[Za 46 c46]at hw;have t1:=λH=>qt true H;have t2:=λH=>qt false H;have ft:fl true=.full:=rfl;have ff:fl false=.no:=rfl;rw[ft]at t1;rw[ff]at t2;have lz:m.ins.length+m.outs.length<=100000:=zo;clear qt hk hC hA hV hM hm li lo;generalize qgF ms m=rc at*;generalize qdI m=ra at*;obtain⟨nm,co,is,os,vs,ta,es,it,ex,cn,ow,ps,ls,rs⟩:=m;simp only[qf.enc,qf.cs,Wh.enc]at*;generalize tw (λa b:qD=>a.name==b.name) [] (is++os)=z at*;have w0:∀n k:Nat,n<1000000->k<1000000->IntKind.i64.wrap ((n:Int) - (k:Int))=(n:Int) - (k:Int):=λn k h1 h2=>Ql zo zo
 have key:w=some (.ret (.tup [.agg [.int .i64 0,.int .i64 (bif ile 0 z then(bif ilt z (is.length:Nat)then(⟨1,z,0,11⟩:Wh)else⟨2,z - (is.length:Nat),0,11⟩)else bif co then rc else ra).part,.int .i64 (bif ile 0 z then(bif ilt z (is.length:Nat)then(⟨1,z,0,11⟩:Wh)else⟨2,z - (is.length:Nat),0,11⟩)else bif co then rc else ra).item,.int .i64 (bif ile 0 z then(bif ilt z (is.length:Nat)then(⟨1,z,0,11⟩:Wh)else⟨2,z - (is.length:Nat),0,11⟩)else bif co then rc else ra).sub],.int .i64 (bif ile 0 z then(bif ilt z (is.length:Nat)then(⟨1,z,0,11⟩:Wh)else⟨2,z - (is.length:Nat),0,11⟩)else bif co then rc else ra).e]),h,false):=by
  rcases hr with rfl|⟨n,rfl,-,h3⟩
  ·have i1:ile 0 (-1)=false:=yk;rw[i1,cond_false];cases co;·have qa:=λJ=>qa J rfl;rw[cond_false];cases is<;>cases os<;>simp only[List.map_nil,List.map_cons,jQ,jR,jV]at a1 a2 t1 t2 qa<;>simp only[c46,sT.1,sC.1,sTA.1,sCA.1,qe,Q1,Nat.testBit,bne,seval,-rN,qH,splice,qz,l0,a1,a2,t1,t2,jU,i1,qa]at hw;all_goals exact hw.symm
   ·have qc:=λJ=>qc J rfl;rw[cond_true];cases is<;>cases os<;>simp only[List.map_nil,List.map_cons,jQ,jR,jV]at a1 a2 t1 t2 qc<;>simp only[c46,sT.1,sC.1,sTA.1,sCA.1,qe,Q1,Nat.testBit,bne,seval,-rN,qH,splice,qz,l0,a1,a2,t1,t2,jU,i1,qc]at hw;all_goals exact hw.symm
  ·have i1:ile 0 ((n:Nat):Int)=true:=(by rw[Qu];simp);rw[i1,cond_true];rcases Nat.lt_or_ge n is.length with U|a6;·have i2:ilt ((n:Nat):Int) (is.length:Nat)=true:=ZP zo;rw[i2,cond_true];cases is<;>cases os<;>simp only[List.map_nil,List.map_cons,jQ,jR,jV,jz,jy]at a1 a2 t1 t2 i2<;>simp only[c46,sT.1,sC.1,sTA.1,sCA.1,qe,Q1,Nat.testBit,bne,seval,-rN,qH,splice,qz,l0,a1,a2,t1,t2,jU,i1,i2]at hw;all_goals exact hw.symm
   ·have i2:ilt ((n:Nat):Int) (is.length:Nat)=false:=ZI zo;have w1:=w0 n is.length (by simp at h3;omega) zo;rw[i2,cond_false];cases is<;>cases os<;>simp only[List.map_nil,List.map_cons,jQ,jR,jV,jz,jy]at a1 a2 t1 t2 i2 w1<;>simp only[c46,sT.1,sC.1,sTA.1,sCA.1,qe,Q1,Nat.testBit,bne,seval,-rN,qH,splice,qz,l0,a1,a2,t1,t2,jU,i1,i2,w1]at hw;all_goals exact hw.symm
 exact key
end
def inS(ms:List qf)(frm:Nat):List Ze->List Bool->List Nat->Option (List Bool×List Nat)
 |[],met,st=>some (met,st)
 |p::r,met,st=>match plM ms p.model 0 with
  |none=>inS ms frm r met st
  |some q=>bif met.getD q.1 false then inS ms frm r met st else bif q.1==frm then none else inS ms frm r (met.set q.1 true) (st++[q.1])
def qqf(ms:List qf)(frm:Nat):Nat->List Bool->List Nat->Bool
 |0,_,_=>false
 |n+1,met,st=>match st.getLast? with
  |none=>false
  |some a=>match inS ms frm ((ms[a]?.map (·.parts)).getD []) met st.dropLast with
   |none=>true
   |some r=>qqf ms frm n r.1 r.2
def qsI(ms:List qf)(frm:Nat):Bool:=qqf ms frm (2*ms.length+2) (List.replicate ms.length false) [frm]
def mu(met:List Bool)(st:List Nat):Nat:=2*met.count false+st.length
theorem LS:∀(met:List Bool)(i:Nat),i<met.length->met.getD i false=false->(met.set i true).count false+1=met.count false
 |[],i,h,_=>by simp at h
 |b::r,0,_,hb=>by simp at hb;subst hb;simp
 |b::r,i+1,h,hb=>by have:=LS r i (by simpa using h) (by simpa using hb);rw[List.set_cons_succ,List.count_cons,List.count_cons];omega
theorem qcG{ms:List qf}{frm:Nat}:∀{r:List Ze}{met:List Bool}{st:List Nat}{q:List Bool×List Nat},met.length=ms.length->(∀a∈st,a<ms.length)->inS ms frm r met st=some q->q.1.length=ms.length/\(∀a∈q.2,a<ms.length)/\mu q.1 q.2<=mu met st
 |[],met,st,q,hl,hs,h=>by rw[inS]at h;cases h;exact⟨hl,hs,jm _⟩
 |p::r,met,st,q,hl,hs,h=>by
  rw[inS]at h
  cases hp:plM ms p.model 0 with
  |none=>rw[hp]at h;exact qcG hl hs h
  |some k=>
   rw[hp]at h;simp only at h;have hk:k.1<ms.length:=(by have:=(Kz (n:=k.1) (m:=k.2) hp).2;exact(List.getElem?_eq_some_iff.1 this).1)
   cases hm:met.getD k.1 false with
   |true=>rw[hm]at h;exact qcG hl hs h
   |false=>
    rw[hm,cond_false]at h
    cases hf:k.1==frm with
    |true=>rw[hf]at h;cases h
    |false=>rw[hf,cond_false]at h;obtain⟨h1,h2,h3⟩:=qcG (by rw[j0,hl]) (λa ha=>by rcases List.mem_append.1 ha with ha|ha;exact hs a ha;simp at ha;omega) h;refine⟨h1,h2,jn h3 ?_⟩;have:=LS met k.1 zo hm;rw[mu,mu,ji,List.length_singleton];omega
def nI(n:Nat):qd:=.int .i64 (n:Nat)
structure RS (h G:List qj) (im:Nat) (met:List Bool) (st:List Nat) (X:qd):Prop where
 tk:G.take h.length=h
 len:h.length<=G.length
 him:h.length<=im
 mt:G[im]?=some (.cells (met.map qd.bool))
 lt:∃id cap mr rest,X=.sl id 0 st.length cap mr/\h.length<=id/\id≠im/\(mr=0\/mr=1)/\st.length+rest.length=cap/\0<cap/\G[id]?=some (.cells ((st++rest).map nI))
section
variable{h G:List qj}{im:Nat}{met:List Bool}{st:List Nat}{X:qd}
theorem RS.facts(hS:RS h G im met st X):X.dim=X/\(∀i t,ZN X i t=t)/\qaH false X=some (nI st.length):=by obtain⟨id,cap,mr,rest,rfl,_⟩:=hS.lt;exact⟨rfl,λ_ _=>rfl,rfl⟩
theorem RS.more(hS:RS h G im met st X)(J:List qj):RS h (G++J) im met st X:=by obtain⟨id,cap,mr,rest,e,h1,h2,h3,h4,h5,h6⟩:=hS.lt;exact⟨by rw[jZ hS.len,hS.tk],by rw[ji];have:=hS.len;omega,hS.him,ZM hS.mt J,id,cap,mr,rest,e,h1,h2,h3,h4,h5,ZM h6 J⟩
theorem qmF(met:List Bool)(i:Nat)(hi:i<met.length):List.take i (met.map qd.bool)++qd.bool true::List.drop (i+1) (met.map qd.bool)=(met.set i true).map qd.bool:=by rw[List.set_eq_take_append_cons_drop,if_pos hi,j5,List.map_cons,List.map_take,List.map_drop]
theorem RS.flag(hS:RS h G im met st X)(i:Nat):RS h (G.set im (.cells ((met.set i true).map qd.bool))) im (met.set i true) st X:=by obtain⟨id,cap,mr,rest,e,h1,h2,h3,h4,h5,h6⟩:=hS.lt;have:=kG hS.mt;exact⟨by rw[j8 hS.him,hS.tk],by rw[j0];exact hS.len,hS.him,zV this,id,cap,mr,rest,e,h1,h2,h3,h4,h5,Di (Ne.symm h2) h6⟩
theorem qp3:∀l:List Nat,(l.map nI).map qd.dim=l.map nI:=λl=>by rw[List.map_map];rfl
theorem qnK{F:List qj}{st rest:List Nat}{id cap mr:Nat}(hb:F[id]?=some (.cells ((st++rest).map nI))):gX 1 F (.sl id 0 st.length cap mr)=some (st.map nI,st.length):=by have hl:st.length<=((st++rest).map nI).length:=(by rw[jU,ji];omega);simp only[gX,hb,Nat.mul_one,List.drop_zero,Nat.zero_add,if_pos hl];rw[j5,List.take_left' (by rw[jU]),qp3]
theorem RS.push(hS:RS h G im met st X)(x:Nat)(hl:st.length<=1000000):∃X' G',hop h.length (.app 1) [X,.sl G.length 0 1 1 0] (G++[qj.cells [nI x]])=some (X',G',false)/\RS h G' im met (st++[x]) X':=by
 obtain⟨id,cap,mr,rest,rfl,h1,h2,h3,h4,h5,h6⟩:=hS.lt;have hid:=kG h6;have aj:=kG hS.mt;have U:=hS.more [qj.cells [nI x]];have a7:gX 1 (G++[qj.cells [nI x]]) (.sl G.length 0 1 1 0)=some ([nI x],1):=qnK (st:=[x]) (rest:=[]) (by rw[ZW];rfl);have a8:st.length+1<=kJ:=jn (show st.length+1<=1000001 by omega) (by decide);have a6:=ZM h6 [qj.cells [nI x]];have aa:((st++rest).map nI).length=cap:=by rw[jU,ji,h4]
 have e:(!([nI x].all qd.storable))=false:=rfl;by_cases hc:st.length+1<=cap
 ·obtain⟨y,rs,rfl⟩:∃y rs,rest=y::rs:=by
   cases rest with
   |nil=>simp at h4;omega
   |cons y rs=>exact⟨y,rs,rfl⟩
  have ae:splice ((st++y::rs).map nI) (0+st.length*1) [nI x]=(((st++[x])++rs).map nI):=(by rw[splice,Nat.zero_add,Nat.mul_one,j5,List.take_left' (by simp),List.length_singleton,List.map_cons,List.drop_append,jU];simp);refine⟨.sl id 0 (st.length+1) cap mr,(G++[qj.cells [nI x]]).set id (.cells (((st++[x])++rs).map nI)),?_,?_⟩;·have ai:0+st.length*1+[nI x].length<=((st++y::rs).map nI).length/\[nI x].all qd.storable=true:=⟨by rw[aa];simp only[List.length_singleton];omega,rfl⟩;simp only[hop,D5,a7,Fh,a6,ae,Nat.succ_ne_zero,if_false,if_pos a8,if_pos hc,Wl h1,e,jl,if_pos ai]
  ·refine⟨by rw[j8 h1,U.tk],by rw[j0];exact U.len,hS.him,Di h2 U.mt,id,cap,mr,rs,by rw[ji,List.length_singleton],h1,h2,h3,by simp at h4⊢;omega,h5,zV (by simp;omega)⟩
 ·have af:rest=[]:=by
   cases rest with
   |nil=>rfl
   |cons y rs=>simp at h4;omega
  subst af;rw[jV]at h6 a6 aa;rw[jz,Nat.add_zero]at h4;have ac:gX 1 (G++[qj.cells [nI x]]) (.sl id 0 st.length cap mr)=some (st.map nI,st.length):=qnK (rest:=[]) (by rw[jV];exact a6);have ec:st.map nI++[nI x]=((st++[x])++[]).map nI:=(by rw[jV,j5];rfl);have ad:¬ st.length+1<=cap:=hc;rcases h3 with rfl|rfl
  ·refine⟨.sl (G++[qj.cells [nI x]]).length 0 (st.length+1) (st.length+1) 1,(G++[qj.cells [nI x]])++[qj.cells (st.map nI++[nI x])],?_,?_⟩;·simp only[hop,D5,a7,ac,a6,Nat.succ_ne_zero,if_false,if_pos a8,if_neg ad,e,jl,if_true]
   ·have ab:=U.more [qj.cells (st.map nI++[nI x])];refine⟨ab.tk,ab.len,hS.him,ab.mt,(G++[qj.cells [nI x]]).length,st.length+1,1,[],by rw[@List.length_append _ st _,List.length_singleton],U.len,by rw[ji];omega,.inr rfl,by simp,zo,?_⟩;rw[ZW,ec];rfl
  ·have ah:cap*1=(st.map nI).length:=(by rw[aa,Nat.mul_one]);refine⟨.sl (G++[qj.cells [nI x]]).length 0 (st.length+1) (st.length+1) 1,(G++[qj.cells [nI x]]).set id .dead++[qj.cells (st.map nI++[nI x])],?_,?_⟩;·simp only[hop,D5,a7,ac,a6,Nat.succ_ne_zero,if_false,if_pos a8,if_neg ad,e,jl,true_and,if_pos ah]
   ·refine⟨?_,?_,hS.him,?_,(G++[qj.cells [nI x]]).length,st.length+1,1,[],by rw[@List.length_append _ st _,List.length_singleton],U.len,by rw[ji];omega,.inr rfl,by simp,zo,?_⟩;·rw[jZ (by rw[j0];exact U.len),j8 h1,U.tk]
    ·rw[ji,j0];have:=U.len;exact jn this (Nat.le_add_right _ _)
    ·exact ZM (Di h2 U.mt) _
    ·have:=ZW ((G++[qj.cells [nI x]]).set id .dead) [qj.cells (st.map nI++[nI x])];rw[j0]at this;rw[this,ec];rfl
end
def qom:qd->Option Nat
 |.int _ n=>if 0<=n then some n.toNat else none
 |_=>none
def qmR(k:Nat)(x i:qd):Option qd:=match x with
 |.lst xs f=>match qom i with
  |some h=>if 0<=h/\h<=xs.length then if xs.head?.all (λy=>y.cells.length==k)then some (.lst ((xs.drop 0).take (h - 0)) (if h=xs.length then f else .no))else none else none
  |none=>none
 |.sl id o _ cap more=>match qom i with
  |some h=>if 0<=h/\h<=cap then if cap=0 then(if more=0 then some (.lst [] .full)else none)else(if more=0\/more=k then some (.sl id (o+0*k) (h - 0) (cap - 0) more)else none)else none
  |none=>none
 |_=>none
theorem qqd{base:Nat}{call:AE.Call}{p:XT}{s:St}(d:Option Nat)(k:Nat)(x i:qM):qO base call p d (.subL k x none (some i)) s=Ll d s (qmR k (ev s.t x) (ev s.t i)):=by rw[QC _ _ rfl (by simp) (by simp) (by simp)];have e:pureV s.t (.subL k x none (some i))=qmR k (ev s.t x) (ev s.t i):=(by simp only[pureV,qmR,bound];cases ev s.t i<;>cases ev s.t x<;>rfl);rw[e]
theorem qjB{id len cap mr n:Nat}(hn:n<=cap)(hc:0<cap)(hm:mr=0\/mr=1):qmR 1 (.sl id 0 len cap mr) (.int .i64 (n:Nat))=some (.sl id 0 n cap mr):=by have c0:cap≠0:=zo;have c1:qom (.int .i64 (n:Nat))=some n:=(by rw[qom,if_pos zo,Int.toNat_natCast]);simp only[qmR,c1,if_pos (show 0<=n/\n<=cap from⟨Nat.zero_le _,hn⟩),if_neg c0,if_pos hm,Nat.zero_mul,Nat.sub_zero,Nat.add_zero]
section
variable{h G:List qj}{im:Nat}{met:List Bool}{st:List Nat}{X:qd}{x:Nat}
theorem RS.pop(hS:RS h G im met (st++[x]) X):∃X',qmR 1 X (.int .i64 (st.length:Nat))=some X'/\RS h G im met st X':=by obtain⟨id,cap,mr,rest,rfl,h1,h2,h3,h4,h5,h6⟩:=hS.lt;rw[ji,List.length_singleton]at h4;refine⟨.sl id 0 st.length cap mr,qjB zo h5 h3,hS.tk,hS.len,hS.him,hS.mt,id,cap,mr,x::rest,rfl,h1,h2,h3,by simp;omega,h5,?_⟩;rw[h6,jp];rfl
end
end Go.Proofs.YtebljcklaimcfaaGreatDoor.AE
