/- A part of the proof. No condition. -/
import Derived.Test.YthgghcnoaecnoaaGreatDoorMc14
open Int renaming reduceNatCast'→rN
set_option maxRecDepth 100000
set_option maxHeartbeats 0
open List renaming take_append_of_le_length→jZ,take_set_of_le→j8,length_append→ji,length_map→jU,length_set→j0,append_assoc→jp,append_nil→jV,map_append→j5,nil_append→jQ,cons_append→jR,length_cons→jy,length_nil→jz,mem_map→jT
open Bool renaming false_eq_true→jl
open Nat renaming le_refl→jm,le_trans→jn
namespace Go.Proofs.YthgghcnoaecnoaaGreatDoor.AE
open Go.AE
def ZK{α:Type}(f:Nat->α->Int):List α->Nat->Option (Nat×Int)
 |[],_=>none
 |a::r,i=>bif f i a==0 then ZK f r (i+1)else some (i,f i a)
def XF(ms:List qe)(ag:Int)(i:Nat)(p:qW):Int:=bif (i:Int)==ag then 11 else bif (plM ms p.model 0).isSome then 0 else 10
def F1(ms:List qe)(m:qe)(ag:Int)(i:Nat)(l:ZM):Int:=bif !(yn ms m l==0)then yn ms m l else bif (i:Int)==ag then 11 else 0
def Ly(ms:List qe)(_:Nat)(a:XB):Int:=bif a.kind==0&&!(plM ms a.model 0).isSome then 10 else 0
section
variable{h:List qj}{id mid:Nat}{ms:List qe}{root:Str}{M:List qd}{ag:Int}{m:qe}{ri:Nat}
theorem qeh{l:List qW}(hK:KAt h id mid ms root)(hl:l.length<=100000)(ae:∀p∈l,Key p.model): ∀(r met:List qW)(a1:List qj) tt,met++r=l->tt.length=136->lkp tt 0=.ptr id 0->lkp tt 3=.ptr h.length 0->lkp tt 4=.ptr (h.length+1) 0->lkp tt 6=.int .i64 ag->lkp tt 27=.lst (l.map qW.enc) .no->lkp tt 28=.int .i64 (l.length:Nat)->lkp tt 29=.int .i64 (met.length:Nat)->∃y U B J,qk h.length Wd (.loop yf) ⟨tt,h++(.cells M::.cells [.int .i64 0,.int .i64 0,.int .i64 0,.int .i64 0]::a1),false⟩=some (y,⟨U,h++(.cells M::.cells B::(a1++J)),false⟩)/\U.length=136/\lkp U 0=.ptr id 0/\lkp U 3=.ptr h.length 0/\lkp U 4=.ptr (h.length+1) 0/\lkp U 14=lkp tt 14/\lkp U 15=lkp tt 15/\lkp U 16=lkp tt 16/\lkp U 87=lkp tt 87/\lkp U 88=lkp tt 88/\lkp U 89=lkp tt 89/\((y=.exit 0/\B=[.int .i64 0,.int .i64 0,.int .i64 0,.int .i64 0]/\ZK (XF ms ag) r met.length=none)\/(y=.ret/\∃i e,ZK (XF ms ag) r met.length=some (i,e)/\B=[.int .i64 0,.int .i64 9,.int .i64 (i:Nat),.int .i64 0]/\lkp U 5=.int .i64 e)):=by
 intro r;have kl:h.length<=h.length:=jm _
 induction r with
 |nil=>intro met a1 tt hm ht e0 e3 e4 e6 el en ei;rw[jV]at hm;subst hm;have c1:ilt (met.length:Int) (met.length:Int)=false:=Z8 zo;generalize he:qk h.length Wd _ _=R;rw[qg]at he;simp only[yf,sT.1,sC.1,qf,seval,-rN,ht,en,ei,c1]at he;subst he;refine⟨_,_,_,[],by rw[jV],Y0,?_,?_,?_,?_,?_,?_,?_,?_,?_,.inl ⟨rfl,rfl,rfl⟩⟩<;>simp only[sT.1,sC.1,seval,-rN,e0,e3,e4]
 |cons a r ih=>
  intro met a1 tt hm ht e0 e3 e4 e6 el en ei;have ah:met.length<l.length:=(by rw[<-hm];simp);have c1:ilt (met.length:Int) (l.length:Int)=true:=Qh zo;have w:=qz (n:=met.length) zo;have aa:l[met.length]?=some a:=(by rw[<-hm];simp);have af:=List.mem_of_getElem? aa;have hB:Nat.ble h.length (h.length+(a1.length+1+1))=true:=qr zo;have a7:Nat.ble h.length (h.length+1)=true:=qr zo;have ab:=λJ=>hK.box2 J;have a6:=λJ=>hK.lk (ae a af) J;simp only[sh1]at a6;have hx:=qS (k:=2) (en:=qW.enc) (l:=l) (n:=met.length) (a:=a) (cs:=[.str a.name,.str a.model]) aa rfl rfl;rw[ZK];have step:((XF ms ag) met.length a==0)=true->(∃Y,qk h.length Wd yf ⟨tt,h++(.cells M::.cells [.int .i64 0,.int .i64 0,.int .i64 0,.int .i64 0]::a1),false⟩=some (.nor,⟨Y,h++(.cells M::.cells [.int .i64 0,.int .i64 0,.int .i64 0,.int .i64 0]::(a1++[.cells [.str a.name,.str a.model]])),false⟩)/\Y.length=136/\lkp Y 0=.ptr id 0/\lkp Y 3=.ptr h.length 0/\lkp Y 4=.ptr (h.length+1) 0/\lkp Y 6=.int .i64 ag/\lkp Y 27=.lst (l.map qW.enc) .no/\lkp Y 28=.int .i64 (l.length:Nat)/\lkp Y 29=.int .i64 ((met.length+1:Nat):Int)/\lkp Y 14=lkp tt 14/\lkp Y 15=lkp tt 15/\lkp Y 16=lkp tt 16/\lkp Y 87=lkp tt 87/\lkp Y 88=lkp tt 88/\lkp Y 89=lkp tt 89)->∃y U B J,qk h.length Wd (.loop yf) ⟨tt,h++(.cells M::.cells [.int .i64 0,.int .i64 0,.int .i64 0,.int .i64 0]::a1),false⟩=some (y,⟨U,h++(.cells M::.cells B::(a1++J)),false⟩)/\U.length=136/\lkp U 0=.ptr id 0/\lkp U 3=.ptr h.length 0/\lkp U 4=.ptr (h.length+1) 0/\lkp U 14=lkp tt 14/\lkp U 15=lkp tt 15/\lkp U 16=lkp tt 16/\lkp U 87=lkp tt 87/\lkp U 88=lkp tt 88/\lkp U 89=lkp tt 89/\((y=.exit 0/\B=[.int .i64 0,.int .i64 0,.int .i64 0,.int .i64 0]/\(bif (XF ms ag) met.length a==0 then ZK (XF ms ag) r (met.length+1)else some (met.length,(XF ms ag) met.length a))=none)\/(y=.ret/\∃i e,(bif (XF ms ag) met.length a==0 then ZK (XF ms ag) r (met.length+1)else some (met.length,(XF ms ag) met.length a))=some (i,e)/\B=[.int .i64 0,.int .i64 9,.int .i64 (i:Nat),.int .i64 0]/\lkp U 5=.int .i64 e)):=(by rintro hz ⟨Y,y1,y2,y3,y4,y5,y6,y7,y8,y9,z1,z2,z3,z4,z5,z6⟩;obtain⟨y,U,B,J,q1,q2,q3,q4,q5,q6,q7,q8,q9,ad,ac,a8⟩:=ih (met++[a]) _ Y (by rw[<-hm];simp) y2 y3 y4 y5 y6 y7 y8 (by rw[ji,List.length_singleton];exact y9);rw[ji,List.length_singleton]at a8;refine⟨y,U,B,_::J,by rw[qg,y1,qT,q1,jp];rfl,q2,q3,q4,q5,by rw[q6,z1],by rw[q7,z2],by rw[q8,z3],by rw[q9,z4],by rw[ad,z5],by rw[ac,z6],?_⟩;rw[hz];exact a8);clear ih
  cases zg:(met.length:Int)==ag with
  |true=>rw[show XF ms ag met.length a=11 by rw[XF,zg];rfl];generalize hE:qk h.length Wd _ _=R;rw[qg]at hE;simp only[yf,sT.1,sC.1,qf,seval,-rN,qF,splice,qd.cells,ht,e4,el,en,ei,c1,hx,hB,a7,e6,zg]at hE;subst hE;refine⟨_,_,_,_,rfl,Y0,?_,?_,?_,?_,?_,?_,?_,?_,?_,.inr ⟨rfl,met.length,_,rfl,rfl,?_⟩⟩<;>simp only[sT.1,sC.1,seval,-rN,ht,e0,e3,e4]
  |false=>
   cases zs:(plM ms a.model 0).isSome with
   |false=>rw[show XF ms ag met.length a=10 by rw[XF,zg,zs];rfl];rw[zs]at a6;generalize hE:qk h.length Wd _ _=R;rw[qg]at hE;simp only[yf,sT.1,sC.1,qf,Nat.testBit,bne,seval,-rN,qF,splice,qd.cells,Qz,Qd,ZN,ht,e0,e4,el,en,ei,c1,hx,hB,a7,ab,e6,zg,a6]at hE;subst hE;refine⟨_,_,_,_,rfl,Y0,?_,?_,?_,?_,?_,?_,?_,?_,?_,.inr ⟨rfl,met.length,_,rfl,rfl,?_⟩⟩<;>simp only[sT.1,sC.1,seval,-rN,ht,e0,e3,e4]
   |true=>rw[show XF ms ag met.length a=0 by rw[XF,zg,zs];rfl]at step⊢;rw[zs]at a6;refine step rfl ?_;generalize hE:qk h.length Wd _ _=R;simp only[yf,sT.1,sC.1,qf,Nat.testBit,bne,seval,-rN,qF,splice,qd.cells,Qz,Qd,ZN,ht,e0,e4,el,en,ei,c1,hx,hB,a7,w,ab,e6,zg,a6]at hE;subst hE;refine⟨_,rfl,Y0,?_,?_,?_,?_,?_,?_,?_,?_,?_,?_,?_,?_,?_⟩<;>simp only[sT.1,sC.1,seval,-rN,ht,e0,e3,e4,el,en,e6]
end
section
variable{h:List qj}{id mid:Nat}{ms:List qe}{root:Str}{M:List qd}{ag:Int}{m:qe}{ri:Nat}
theorem qd0{l:List ZM}(hK:KAt h id mid ms root)(hl:l.length<=100000)(hC:zB ms)(ae:m∈ms)(hp:∀p∈m.parts,(plM ms p.model 0).isSome=true)(hM:M=m.cs): ∀(r met:List ZM)(a1:List qj) tt,met++r=l->tt.length=136->lkp tt 0=.ptr id 0->lkp tt 3=.ptr h.length 0->lkp tt 4=.ptr (h.length+1) 0->lkp tt 6=.int .i64 ag->lkp tt 58=.lst (l.map ZM.enc) .no->lkp tt 59=.int .i64 (l.length:Nat)->lkp tt 60=.int .i64 (met.length:Nat)->∃y U B J,qk h.length Wd (.loop yg) ⟨tt,h++(.cells M::.cells [.int .i64 0,.int .i64 0,.int .i64 0,.int .i64 0]::a1),false⟩=some (y,⟨U,h++(.cells M::.cells B::(a1++J)),false⟩)/\U.length=136/\lkp U 0=.ptr id 0/\lkp U 3=.ptr h.length 0/\lkp U 4=.ptr (h.length+1) 0/\lkp U 14=lkp tt 14/\lkp U 15=lkp tt 15/\lkp U 16=lkp tt 16/\lkp U 87=lkp tt 87/\lkp U 88=lkp tt 88/\lkp U 89=lkp tt 89/\((y=.exit 2/\B=[.int .i64 0,.int .i64 0,.int .i64 0,.int .i64 0]/\ZK (F1 ms m ag) r met.length=none)\/(y=.ret/\∃i e,ZK (F1 ms m ag) r met.length=some (i,e)/\B=[.int .i64 0,.int .i64 10,.int .i64 (i:Nat),.int .i64 0]/\lkp U 5=.int .i64 e)):=by
 intro r;have kl:h.length<=h.length:=jm _
 induction r with
 |nil=>intro met a1 tt hm ht e0 e3 e4 e6 el en ei;rw[jV]at hm;subst hm;have c1:ilt (met.length:Int) (met.length:Int)=false:=Z8 zo;generalize he:qk h.length Wd _ _=R;rw[qg]at he;simp only[yg,sT.1,sC.1,qf,seval,-rN,ht,en,ei,c1]at he;subst he;refine⟨_,_,_,[],by rw[jV],Y0,?_,?_,?_,?_,?_,?_,?_,?_,?_,.inl ⟨rfl,rfl,rfl⟩⟩<;>simp only[sT.1,sC.1,seval,-rN,e0,e3,e4]
 |cons a r ih=>
  intro met a1 tt hm ht e0 e3 e4 e6 el en ei;have af:met.length<l.length:=(by rw[<-hm];simp);have c1:ilt (met.length:Int) (l.length:Int)=true:=Qh zo;have w:=qz (n:=met.length) zo;have ab:l[met.length]?=some a:=(by rw[<-hm];simp);have ai:=List.mem_of_getElem? ab;have hB:Nat.ble h.length (h.length+(a1.length+1+1))=true:=qr zo;have a8:Nat.ble h.length (h.length+1)=true:=qr zo;have ah:=λJ=>hK.box2 J;have hq:=λJ=>qn9 (l:=a) (hK.more J) hC ae hp;rw[qe.enc,<-hM,show a.enc=.agg [.str a.frm.part,.str a.frm.port,.str a.to.part,.str a.to.port]from rfl]at hq;have a7:Go.AE.cut M 0 (some 14)=some (.agg M):=(by rw[hM];rfl);have aj:M.length=14:=(by rw[hM];rfl);have hx:=qS (k:=4) (en:=ZM.enc) (l:=l) (n:=met.length) (a:=a) (cs:=[.str a.frm.part,.str a.frm.port,.str a.to.part,.str a.to.port]) ab rfl rfl;rw[ZK];have step:((F1 ms m ag) met.length a==0)=true->(∃Y,qk h.length Wd yg ⟨tt,h++(.cells M::.cells [.int .i64 0,.int .i64 0,.int .i64 0,.int .i64 0]::a1),false⟩=some (.nor,⟨Y,h++(.cells M::.cells [.int .i64 0,.int .i64 0,.int .i64 0,.int .i64 0]::(a1++[.cells [.str a.frm.part,.str a.frm.port,.str a.to.part,.str a.to.port]])),false⟩)/\Y.length=136/\lkp Y 0=.ptr id 0/\lkp Y 3=.ptr h.length 0/\lkp Y 4=.ptr (h.length+1) 0/\lkp Y 6=.int .i64 ag/\lkp Y 58=.lst (l.map ZM.enc) .no/\lkp Y 59=.int .i64 (l.length:Nat)/\lkp Y 60=.int .i64 ((met.length+1:Nat):Int)/\lkp Y 14=lkp tt 14/\lkp Y 15=lkp tt 15/\lkp Y 16=lkp tt 16/\lkp Y 87=lkp tt 87/\lkp Y 88=lkp tt 88/\lkp Y 89=lkp tt 89)->∃y U B J,qk h.length Wd (.loop yg) ⟨tt,h++(.cells M::.cells [.int .i64 0,.int .i64 0,.int .i64 0,.int .i64 0]::a1),false⟩=some (y,⟨U,h++(.cells M::.cells B::(a1++J)),false⟩)/\U.length=136/\lkp U 0=.ptr id 0/\lkp U 3=.ptr h.length 0/\lkp U 4=.ptr (h.length+1) 0/\lkp U 14=lkp tt 14/\lkp U 15=lkp tt 15/\lkp U 16=lkp tt 16/\lkp U 87=lkp tt 87/\lkp U 88=lkp tt 88/\lkp U 89=lkp tt 89/\((y=.exit 2/\B=[.int .i64 0,.int .i64 0,.int .i64 0,.int .i64 0]/\(bif (F1 ms m ag) met.length a==0 then ZK (F1 ms m ag) r (met.length+1)else some (met.length,(F1 ms m ag) met.length a))=none)\/(y=.ret/\∃i e,(bif (F1 ms m ag) met.length a==0 then ZK (F1 ms m ag) r (met.length+1)else some (met.length,(F1 ms m ag) met.length a))=some (i,e)/\B=[.int .i64 0,.int .i64 10,.int .i64 (i:Nat),.int .i64 0]/\lkp U 5=.int .i64 e)):=(by rintro hz ⟨Y,y1,y2,y3,y4,y5,y6,y7,y8,y9,z1,z2,z3,z4,z5,z6⟩;obtain⟨y,U,B,J,q1,q2,q3,q4,q5,q6,q7,q8,q9,ad,ac,aa⟩:=ih (met++[a]) _ Y (by rw[<-hm];simp) y2 y3 y4 y5 y6 y7 y8 (by rw[ji,List.length_singleton];exact y9);rw[ji,List.length_singleton]at aa;refine⟨y,U,B,_::J,by rw[qg,y1,qT,q1,jp];rfl,q2,q3,q4,q5,by rw[q6,z1],by rw[q7,z2],by rw[q8,z3],by rw[q9,z4],by rw[ad,z5],by rw[ac,z6],?_⟩;rw[hz];exact aa);clear ih;generalize a6:yn ms m a=le at*
  cases ze:le==0 with
  |false=>rw[show F1 ms m ag met.length a=le by rw[F1,a6,ze];rfl,ze];generalize hE:qk h.length Wd _ _=R;rw[qg]at hE;simp only[yg,sT.1,sC.1,qf,seval,-rN,qF,splice,qd.cells,ht,e0,e3,e4,el,en,ei,c1,hx,hB,a8,hq,a7,ze]at hE;subst hE;refine⟨_,_,_,_,rfl,Y0,?_,?_,?_,?_,?_,?_,?_,?_,?_,.inr ⟨rfl,met.length,_,rfl,rfl,?_⟩⟩<;>simp only[sT.1,sC.1,seval,-rN,ht,e0,e3,e4]
  |true=>
   cases zg:(met.length:Int)==ag with
   |true=>rw[show F1 ms m ag met.length a=11 by rw[F1,a6,ze,zg];rfl];generalize hE:qk h.length Wd _ _=R;rw[qg]at hE;simp only[yg,sT.1,sC.1,qf,seval,-rN,qF,splice,qd.cells,ht,e0,e3,e4,el,en,ei,c1,hx,hB,a8,e6,hq,a7,ze,zg]at hE;subst hE;refine⟨_,_,_,_,rfl,Y0,?_,?_,?_,?_,?_,?_,?_,?_,?_,.inr ⟨rfl,met.length,_,rfl,rfl,?_⟩⟩<;>simp only[sT.1,sC.1,seval,-rN,ht,e0,e3,e4]
   |false=>rw[show F1 ms m ag met.length a=0 by rw[F1,a6,ze,zg];rfl]at step⊢;refine step rfl ?_;generalize hE:qk h.length Wd _ _=R;simp only[yg,sT.1,sC.1,qf,seval,-rN,qF,splice,qd.cells,ht,e0,e3,e4,el,en,ei,c1,hx,hB,a8,w,e6,hq,a7,ze,zg]at hE;subst hE;refine⟨_,rfl,Y0,?_,?_,?_,?_,?_,?_,?_,?_,?_,?_,?_,?_,?_⟩<;>simp only[sT.1,sC.1,seval,-rN,ht,e0,e3,e4,el,en,e6]
end
section
variable{h:List qj}{id mid:Nat}{ms:List qe}{root:Str}{M:List qd}{ag:Int}{m:qe}{ri:Nat}
theorem qcQ{l:List XB}(hK:KAt h id mid ms root)(hl:l.length<=100000)(ae:∀p∈l,Key p.model): ∀(r met:List XB)(a1:List qj) tt,met++r=l->tt.length=136->lkp tt 0=.ptr id 0->lkp tt 3=.ptr h.length 0->lkp tt 4=.ptr (h.length+1) 0->lkp tt 16=.int .i64 (ri:Nat)->lkp tt 105=.lst (l.map XB.enc) .no->lkp tt 106=.int .i64 (l.length:Nat)->lkp tt 107=.int .i64 (met.length:Nat)->∃y U B J,qk h.length Wd (.loop yh) ⟨tt,h++(.cells M::.cells [.int .i64 0,.int .i64 0,.int .i64 0,.int .i64 0]::a1),false⟩=some (y,⟨U,h++(.cells M::.cells B::(a1++J)),false⟩)/\U.length=136/\lkp U 0=.ptr id 0/\lkp U 3=.ptr h.length 0/\lkp U 4=.ptr (h.length+1) 0/\lkp U 14=lkp tt 14/\lkp U 15=lkp tt 15/\lkp U 16=lkp tt 16/\lkp U 87=lkp tt 87/\lkp U 88=lkp tt 88/\lkp U 89=lkp tt 89/\((y=.exit 6/\B=[.int .i64 0,.int .i64 0,.int .i64 0,.int .i64 0]/\ZK (Ly ms) r met.length=none)\/(y=.ret/\∃i e,ZK (Ly ms) r met.length=some (i,e)/\B=[.int .i64 0,.int .i64 11,.int .i64 (ri:Nat),.int .i64 ((i+1:Nat):Int)]/\lkp U 5=.int .i64 e)):=by
 intro r;have kl:h.length<=h.length:=jm _
 induction r with
 |nil=>intro met a1 tt hm ht e0 e3 e4 e6 el en ei;rw[jV]at hm;subst hm;have c1:ilt (met.length:Int) (met.length:Int)=false:=Z8 zo;generalize he:qk h.length Wd _ _=R;rw[qg]at he;simp only[yh,sT.1,sC.1,qf,seval,-rN,ht,en,ei,c1]at he;subst he;refine⟨_,_,_,[],by rw[jV],Y0,?_,?_,?_,?_,?_,?_,?_,?_,?_,.inl ⟨rfl,rfl,rfl⟩⟩<;>simp only[sT.1,sC.1,seval,-rN,e0,e3,e4]
 |cons a r ih=>
  intro met a1 tt hm ht e0 e3 e4 e6 el en ei;have ah:met.length<l.length:=(by rw[<-hm];simp);have c1:ilt (met.length:Int) (l.length:Int)=true:=Qh zo;have w:=qz (n:=met.length) zo;have ab:l[met.length]?=some a:=(by rw[<-hm];simp);have af:=List.mem_of_getElem? ab;have hB:Nat.ble h.length (h.length+(a1.length+1+1))=true:=qr zo;have a8:Nat.ble h.length (h.length+1)=true:=qr zo;have a7:=λJ=>hK.box2 J;have a6:=λJ=>hK.lk (ae a af) J;simp only[sh1]at a6;have hx:=qS (k:=7) (en:=XB.enc) (l:=l) (n:=met.length) (a:=a) (cs:=[.int .i64 a.kind,.str a.name,.str a.model,.str a.link.frm.part,.str a.link.frm.port,.str a.link.to.part,.str a.link.to.port]) ab rfl rfl;rw[ZK];have step:((Ly ms) met.length a==0)=true->(∃Y,qk h.length Wd yh ⟨tt,h++(.cells M::.cells [.int .i64 0,.int .i64 0,.int .i64 0,.int .i64 0]::a1),false⟩=some (.nor,⟨Y,h++(.cells M::.cells [.int .i64 0,.int .i64 0,.int .i64 0,.int .i64 0]::(a1++[.cells [.int .i64 a.kind,.str a.name,.str a.model,.str a.link.frm.part,.str a.link.frm.port,.str a.link.to.part,.str a.link.to.port]])),false⟩)/\Y.length=136/\lkp Y 0=.ptr id 0/\lkp Y 3=.ptr h.length 0/\lkp Y 4=.ptr (h.length+1) 0/\lkp Y 16=.int .i64 (ri:Nat)/\lkp Y 105=.lst (l.map XB.enc) .no/\lkp Y 106=.int .i64 (l.length:Nat)/\lkp Y 107=.int .i64 ((met.length+1:Nat):Int)/\lkp Y 14=lkp tt 14/\lkp Y 15=lkp tt 15/\lkp Y 16=lkp tt 16/\lkp Y 87=lkp tt 87/\lkp Y 88=lkp tt 88/\lkp Y 89=lkp tt 89)->∃y U B J,qk h.length Wd (.loop yh) ⟨tt,h++(.cells M::.cells [.int .i64 0,.int .i64 0,.int .i64 0,.int .i64 0]::a1),false⟩=some (y,⟨U,h++(.cells M::.cells B::(a1++J)),false⟩)/\U.length=136/\lkp U 0=.ptr id 0/\lkp U 3=.ptr h.length 0/\lkp U 4=.ptr (h.length+1) 0/\lkp U 14=lkp tt 14/\lkp U 15=lkp tt 15/\lkp U 16=lkp tt 16/\lkp U 87=lkp tt 87/\lkp U 88=lkp tt 88/\lkp U 89=lkp tt 89/\((y=.exit 6/\B=[.int .i64 0,.int .i64 0,.int .i64 0,.int .i64 0]/\(bif (Ly ms) met.length a==0 then ZK (Ly ms) r (met.length+1)else some (met.length,(Ly ms) met.length a))=none)\/(y=.ret/\∃i e,(bif (Ly ms) met.length a==0 then ZK (Ly ms) r (met.length+1)else some (met.length,(Ly ms) met.length a))=some (i,e)/\B=[.int .i64 0,.int .i64 11,.int .i64 (ri:Nat),.int .i64 ((i+1:Nat):Int)]/\lkp U 5=.int .i64 e)):=(by rintro hz ⟨Y,y1,y2,y3,y4,y5,y6,y7,y8,y9,z1,z2,z3,z4,z5,z6⟩;obtain⟨y,U,B,J,q1,q2,q3,q4,q5,q6,q7,q8,q9,ad,ac,aa⟩:=ih (met++[a]) _ Y (by rw[<-hm];simp) y2 y3 y4 y5 y6 y7 y8 (by rw[ji,List.length_singleton];exact y9);rw[ji,List.length_singleton]at aa;refine⟨y,U,B,_::J,by rw[qg,y1,qT,q1,jp];rfl,q2,q3,q4,q5,by rw[q6,z1],by rw[q7,z2],by rw[q8,z3],by rw[q9,z4],by rw[ad,z5],by rw[ac,z6],?_⟩;rw[hz];exact aa);clear ih
  cases zk:a.kind==0 with
  |false=>rw[show Ly ms met.length a=0 by rw[Ly,zk];rfl]at step⊢;refine step rfl ?_;generalize hE:qk h.length Wd _ _=R;simp only[yh,sT.1,sC.1,qf,qN,Nat.testBit,bne,seval,-rN,qF,splice,qd.cells,Qz,Qd,ZN,ht,e0,e4,el,en,ei,c1,hx,hB,a8,w,a7,e6,a6,zk]at hE;subst hE;refine⟨_,rfl,Y0,?_,?_,?_,?_,?_,?_,?_,?_,?_,?_,?_,?_,?_⟩<;>simp only[sT.1,sC.1,seval,-rN,ht,e0,e3,e4,el,en,e6]
  |true=>
   cases zs:(plM ms a.model 0).isSome with
   |true=>rw[show Ly ms met.length a=0 by rw[Ly,zk,zs];rfl]at step⊢;rw[zs]at a6;refine step rfl ?_;generalize hE:qk h.length Wd _ _=R;simp only[yh,sT.1,sC.1,qf,qN,Nat.testBit,bne,seval,-rN,qF,splice,qd.cells,Qz,Qd,ZN,ht,e0,e4,el,en,ei,c1,hx,hB,a8,w,a7,e6,a6,zk]at hE;subst hE;refine⟨_,rfl,Y0,?_,?_,?_,?_,?_,?_,?_,?_,?_,?_,?_,?_,?_⟩<;>simp only[sT.1,sC.1,seval,-rN,ht,e0,e3,e4,el,en,e6]
   |false=>rw[show Ly ms met.length a=10 by rw[Ly,zk,zs];rfl];rw[zs]at a6;generalize hE:qk h.length Wd _ _=R;rw[qg]at hE;simp only[yh,sT.1,sC.1,qf,qN,Nat.testBit,bne,seval,-rN,qF,splice,qd.cells,Qz,Qd,ZN,ht,e0,e4,el,en,ei,c1,hx,hB,a8,w,a7,e6,a6,zk]at hE;subst hE;refine⟨_,_,_,_,rfl,Y0,?_,?_,?_,?_,?_,?_,?_,?_,?_,.inr ⟨rfl,met.length,_,rfl,rfl,?_⟩⟩<;>simp only[sT.1,sC.1,seval,-rN,ht,e0,e3,e4]
end
def Q8(ms:List qe)(os:List qR):List ZC->Nat->Option Wh
 |[],_=>none
 |r::rs,i=>bif !(qex os r.e==0)then some ⟨11,(i:Nat),0,qex os r.e⟩else match ZK (Ly ms) r.acts 0 with
  |some (j,e)=>some ⟨11,(i:Nat),((j+1:Nat):Int),e⟩
  |none=>Q8 ms os rs (i+1)
section
variable{h:List qj}{id mid ic:Nat}{ms:List qe}{root:Str}{M:List qd}{os:List qR}{O:qd}{J0:List qj}
def Z4:List qd:=[.int .i64 0,.int .i64 0,.int .i64 0,.int .i64 0]
theorem qbn{l:List ZC}(hK:KAt h id mid ms root)(hl:l.length<=100000)(ak:os.length<=1000000000)(hf:∀r∈l,∃k,Fit k r.e)(ha:∀r∈l,r.acts.length<=100000)(al:∀r∈l,∀a∈r.acts,Key a.model)(hO:∀J,Zn (h++(.cells M::.cells Z4::(J0++J))) os O)(hc:∃Lm:List ((Str×Str)×Int),(∀J,(h++(.cells M::.cells Z4::(J0++J)))[ic]?=some (.map (XX Lm 0) Lm.length))/\(∀e∈Lm,KP e.1)/\∀k,qiS Lm k=(clN os k:Nat)): ∀(r met:List ZC)(Y:List qj) tt,met++r=l->tt.length=136->lkp tt 0=.ptr id 0->lkp tt 3=.ptr h.length 0->lkp tt 4=.ptr (h.length+1) 0->lkp tt 14=O->lkp tt 15=.mp ic->lkp tt 87=.lst (l.map ZC.enc) .no->lkp tt 88=.int .i64 (l.length:Nat)->lkp tt 89=.int .i64 (met.length:Nat)->∃y U B J,qk h.length Wd (.loop qdQ) ⟨tt,h++(.cells M::.cells Z4::(J0++Y)),false⟩=some (y,⟨U,h++(.cells M::.cells B::J),false⟩)/\U.length=136/\lkp U 4=.ptr (h.length+1) 0/\((y=.exit 4/\B=Z4/\Q8 ms os r met.length=none)\/(y=.ret/\∃w,Q8 ms os r met.length=some w/\B=[.int .i64 0,.int .i64 w.part,.int .i64 w.item,.int .i64 w.sub]/\lkp U 5=.int .i64 w.e)):=by
 have od:=hO [];obtain⟨d4,w4,-⟩:=od.facts;have s4:=od.stor;intro r
 induction r with
 |nil=>intro met Y tt hm ht e0 e3 e4 a7 a6 el en ei;rw[jV]at hm;subst hm;have c1:ilt (met.length:Int) (met.length:Int)=false:=Z8 zo;generalize he:qk h.length Wd _ _=R;rw[qg]at he;simp only[qdQ,sT.1,sC.1,qf,seval,-rN,ht,en,ei,c1]at he;subst he;exact⟨_,_,_,_,rfl,Y0,Y2,.inl ⟨rfl,rfl,rfl⟩⟩
 |cons a r ih=>
  intro met Y tt hm ht e0 e3 e4 a7 a6 el en ei;have av:met.length<l.length:=(by rw[<-hm];simp);have c1:ilt (met.length:Int) (l.length:Int)=true:=Qh zo;have w:=qz (n:=met.length) zo;have ah:l[met.length]?=some a:=(by rw[<-hm];simp);have ad:=List.mem_of_getElem? ah;have hB:Nat.ble h.length (h.length+(J0.length+Y.length+1+1))=true:=qr zo;have ai:Nat.ble h.length (h.length+1)=true:=qr zo;have ap:=hf a ad;have ar:=ha a ad;have am:=al a ad;obtain⟨Lm,c2,c3,c4⟩:=hc;have hq:=λJ=>qoM (h:=h++(.cells M::.cells Z4::(J0++J))) (e:=a.e) (ic:=ic) ak ap (hO J) ⟨Lm,c2 J,c3,c4⟩;rw[Q8];generalize au:qex os a.e=re at*;have La:=λY tt=>qcQ (h:=h) (M:=M) (ri:=met.length) (l:=a.acts) hK ar am a.acts [] Y tt rfl;obtain⟨⟨op,n,sn,sb,bs⟩,aS⟩:=a;have hx:=qS (k:=6) (en:=ZC.enc) (l:=l) (n:=met.length) (cs:=[.int .i64 op,.int .i64 n,.str sn,.str sb,.lst (bs.map exV) .no,.lst (aS.map XB.enc) .no]) ah rfl rfl;simp only[Zf]at hq;simp only[Z4]at hq ih⊢
  cases ze:re==0 with
  |false=>generalize hE:qk h.length Wd _ _=R;rw[qg]at hE;simp only[qdQ,sT.1,sC.1,qf,seval,-rN,qF,splice,qd.cells,ZN,ht,e4,a7,a6,el,en,ei,c1,hx,hq,d4,hB,ai,ze]at hE;subst hE;refine⟨_,_,_,_,rfl,Y0,?_,.inr ⟨rfl,_,rfl,rfl,?_⟩⟩<;>simp only[sT.1,sC.1,seval,-rN,ht,e4]
  |true=>
   rw[Bool.not_true,cond_false];generalize hE:qk h.length Wd _ _=R;rw[qg]at hE;simp only[qdQ,sT.1,sC.1,qf,seval,-rN,qF,splice,qd.cells,ZN,ht,e4,a7,a6,el,en,ei,c1,hx,hq,d4,hB,ai,ze,jU]at hE;generalize af:qk h.length Wd (.loop yh) _=z at hE;have ay:∀x:qj,h++(.cells M::.cells [.int .i64 0,.int .i64 0,.int .i64 0,.int .i64 0]::(J0++(Y++[x])))=h++(.cells M::.cells [.int .i64 0,.int .i64 0,.int .i64 0,.int .i64 0]::((J0++Y)++[x])):=λx=>(by rw[jp]);obtain⟨y,ae,B,J,q1,q2,q3,q4,q5,q6,q7,q8,q9,ac,ab,aa⟩:∃y U B J,z=some (y,⟨U,h++(.cells M::.cells B::(J0++(Y++([.cells [.int .i64 op,.int .i64 n,.str sn,.str sb,.lst (bs.map exV) .no,.lst (aS.map XB.enc) .no]]++J)))),false⟩)/\U.length=136/\lkp U 0=.ptr id 0/\lkp U 3=.ptr h.length 0/\lkp U 4=.ptr (h.length+1) 0/\lkp U 14=O/\lkp U 15=.mp ic/\lkp U 16=.int .i64 (met.length:Nat)/\lkp U 87=.lst (l.map ZC.enc) .no/\lkp U 88=.int .i64 (l.length:Nat)/\lkp U 89=.int .i64 (met.length:Nat)/\((y=.exit 6/\B=[.int .i64 0,.int .i64 0,.int .i64 0,.int .i64 0]/\ZK (Ly ms) aS 0=none)\/(y=.ret/\∃i e,ZK (Ly ms) aS 0=some (i,e)/\B=[.int .i64 0,.int .i64 11,.int .i64 (met.length:Nat),.int .i64 ((i+1:Nat):Int)]/\lkp U 5=.int .i64 e)):=(by generalize hT:up _ 107 _=TT at af;rw[<-af];obtain⟨y,ae,B,J,q1,q2,q3,q4,q5,q6,q7,q8,q9,ac,ab,aa⟩:=La (J0++(Y++[.cells [.int .i64 op,.int .i64 n,.str sn,.str sb,.lst (bs.map exV) .no,.lst (aS.map XB.enc) .no]])) TT (by rw[<-hT];simp only[qK,ht]) (by rw[<-hT];simp only[sT.1,sC.1,seval,-rN,e0]) (by rw[<-hT];simp only[sT.1,sC.1,seval,-rN,e3]) (by rw[<-hT];simp only[sT.1,sC.1,seval,-rN,e4]) (by rw[<-hT];simp only[sT.1,sC.1,seval,-rN,ht]) (by rw[<-hT];simp only[sT.1,sC.1,seval,-rN,ht]) (by rw[<-hT];simp only[sT.1,sC.1,seval,-rN,ht]) (by rw[<-hT];simp only[sT.1,sC.1,seval,-rN,ht];rfl);refine⟨y,ae,B,J,by rw[q1];simp only[jp],q2,q3,q4,q5,by rw[q6,<-hT];simp only[sT.1,sC.1,seval,-rN,a7],by rw[q7,<-hT];simp only[sT.1,sC.1,seval,-rN,a6],by rw[q8,<-hT];simp only[sT.1,sC.1,seval,-rN,ht],by rw[q9,<-hT];simp only[sT.1,sC.1,seval,-rN,el],by rw[ac,<-hT];simp only[sT.1,sC.1,seval,-rN,en],by rw[ab,<-hT];simp only[sT.1,sC.1,seval,-rN,ei],?_⟩;simpa using aa);subst q1;rcases aa with⟨rfl,rfl,a8⟩|⟨rfl,i,e,a8,rfl,aj⟩;·rw[a8];simp only[sT.1,sC.1,qf,seval,-rN,q2,ab,w]at hE;generalize a1:up _ 89 _=T2 at hE;subst hE;obtain⟨y,U,B,J,z1,z2,z3,z4⟩:=ih (met++[⟨.mk op n sn sb bs,aS⟩]) (Y++([.cells [.int .i64 op,.int .i64 n,.str sn,.str sb,.lst (bs.map exV) .no,.lst (aS.map XB.enc) .no]]++J)) T2 (by rw[<-hm];simp) (by rw[<-a1];simp only[qK,q2]) (by rw[<-a1];simp only[sT.1,sC.1,seval,-rN,q3]) (by rw[<-a1];simp only[sT.1,sC.1,seval,-rN,q4]) (by rw[<-a1];simp only[sT.1,sC.1,seval,-rN,q5]) (by rw[<-a1];simp only[sT.1,sC.1,seval,-rN,q6]) (by rw[<-a1];simp only[sT.1,sC.1,seval,-rN,q7]) (by rw[<-a1];simp only[sT.1,sC.1,seval,-rN,q9]) (by rw[<-a1];simp only[sT.1,sC.1,seval,-rN,ac]) (by rw[ji,List.length_singleton,<-a1];simp only[sT.1,seval,-rN,q2]);rw[ji,List.length_singleton]at z4;exact⟨y,U,B,J,z1,z2,z3,z4⟩
   ·rw[a8];simp only[sT.1,sC.1,seval,-rN]at hE;subst hE;exact⟨_,_,_,_,rfl,q2,q5,.inr ⟨rfl,_,rfl,rfl,aj⟩⟩
end
theorem LL{α:Type}{f:Nat->α->Int}:∀{l:List α}{i:Nat},ZK f l i=none->∀a∈l,∃j,f j a=0
 |[],_,_,a,ha=>by cases ha
 |x::l,i,h,a,ha=>by
  rw[ZK]at h
  cases hz:f i x==0 with
  |false=>rw[hz]at h;cases h
  |true=>
   rw[hz,cond_true]at h;rcases List.mem_cons.1 ha with rfl|ha;·exact⟨i,eq_of_beq hz⟩
   ·exact LL h a ha
def twP(l:List qW):Int:=tw (λa b=>a.name==b.name) [] l
def twK(l:List ZM):Int:=tw qin [] l
def LC(ms:List qe)(m:qe):Wh:=match ZK (XF ms (twP m.parts)) m.parts 0 with
 |some (i,e)=>⟨9,(i:Nat),0,e⟩
 |none=>match ZK (F1 ms m (twK m.links)) m.links 0 with
  |some (i,e)=>⟨10,(i:Nat),0,e⟩
  |none=>match Q8 ms (ofL ms (Qk m)) m.rules 0 with
   |some w=>w
   |none=>okW
structure qmx (ms:List qe) (m:qe):Prop where
 parts:m.parts.length<=10000
 pkey:∀p∈m.parts,Key p.name
 links:m.links.length<=10000
 lkey:∀l∈m.links,v8 l
 rules:m.rules.length<=10000
 acts:∀r∈m.rules,r.acts.length<=10000
 sum:m.parts.length+(m.rules.map λr=>r.acts.length).sum<=1000000
 gkey:∀p∈Qk m,Key p.name/\Key p.model
 akey:∀r∈m.rules,∀a∈r.acts,Key a.model
 rfit:∀r∈m.rules,∃k,Fit k r.e
 ofs:(ofL ms (Qk m)).length<=1000000000
section
variable{h:List qj}{id mid:Nat}{ms:List qe}{root:Str}{m:qe}
theorem qc2(hK:KAt h id mid ms root)(hM:zB ms)(hV:qac ms)(hm:m∈ms)(hC:qmx ms m):∃H,Wd (.fn 76 [] []) [.ptr id 0,m.enc] h=some (.ret (LC ms m).enc,H,false)/\H=h:=by
 have qa:=λH=>qrq (l:=m.parts) (by have:=hC.parts;omega) hC.pkey H;have ql:=λH=>qrr (l:=m.links) (by have:=hC.links;omega) hC.lkey H;rw[show tw (λa b:qW=>a.name==b.name) [] m.parts=twP m.parts from rfl]at qa;rw[show tw qin [] m.links=twK m.links from rfl]at ql;refine⟨h,?_,rfl⟩;rw[LC];generalize hw:Wd _ _ h=w;rw[Zg 76 c76]at hw;have L0:=λtt=>qeh (M:=m.cs) (ag:=twP m.parts) hK (l:=m.parts) (by have:=hC.parts;omega) (λp hp=>(hM.key m hm p hp)) m.parts [] [] tt rfl;simp only[c76,qe.enc,qe.cs,sT.1,sC.1,qf,seval,-rN,qd.cells,jU,qa]at hw;generalize hr:qk h.length Wd (.loop yf) _=z at hw;obtain⟨y,t1,B,J,q1,q2,q3,q4,q5,q6⟩:∃y U B J,z=some (y,⟨U,h++(.cells m.cs::.cells B::J),false⟩)/\U.length=136/\lkp U 0=.ptr id 0/\lkp U 3=.ptr h.length 0/\lkp U 4=.ptr (h.length+1) 0/\((y=.exit 0/\B=[.int .i64 0,.int .i64 0,.int .i64 0,.int .i64 0]/\ZK (XF ms (twP m.parts)) m.parts 0=none)\/(y=.ret/\∃i e,ZK (XF ms (twP m.parts)) m.parts 0=some (i,e)/\B=[.int .i64 0,.int .i64 9,.int .i64 (i:Nat),.int .i64 0]/\lkp U 5=.int .i64 e)):=by generalize hT:up _ 29 _=TT at hr;rw[<-hr];obtain⟨y,a7,B,J,q1,q2,q3,q4,q5,-,-,-,-,-,-,ae⟩:=L0 TT (by rw[<-hT];simp only[qK];rfl) (by rw[<-hT];simp only[sT.1,sC.1,seval,-rN]) (by rw[<-hT];simp only[sT.1,sC.1,seval,-rN]) (by rw[<-hT];simp only[sT.1,sC.1,seval,-rN]) (by rw[<-hT];simp only[sT.1,sC.1,seval,-rN]) (by rw[<-hT];simp only[sT.1,sC.1,seval,-rN]) (by rw[<-hT];simp only[sT.1,sC.1,seval,-rN]) (by rw[<-hT];simp only[sT.1,sC.1,seval,-rN];rfl);exact⟨y,a7,B,_,q1,q2,q3,q4,q5,ae⟩
 subst q1;rcases q6 with⟨rfl,rfl,Y⟩|⟨rfl,i,e,Y,rfl,q7⟩;case inr=>rw[Y];simp only[qe.cs,sT.1,sC.1,seval,-rN,q5,q7]at hw;exact hw.symm
 rw[Y]
 have ah:∀p∈m.parts,(plM ms p.model 0).isSome=true:=λp hp=>by
  obtain⟨j,hj⟩:=LL Y p hp;rw[XF]at hj
  cases hg:(j:Int)==twP m.parts with
  |true=>rw[hg]at hj;cases hj
  |false=>
   rw[hg,cond_false]at hj
   cases hs:(plM ms p.model 0).isSome with
   |true=>rfl
   |false=>rw[hs]at hj;cases hj
 have L1:=λJ tt=>qd0 (M:=m.cs) (ag:=twK m.links) hK (l:=m.links) (by have:=hC.links;omega) hM hm ah rfl m.links [] J tt rfl;simp only[qe.cs,sT.1,sC.1,qf,seval,-rN,q2,q4,jU,ql]at hw;generalize hr:qk h.length Wd (.loop yg) _=z at hw;obtain⟨y,t2,B,J,r1,r2,r3,r4,r5,r6⟩:∃y U B J,z=some (y,⟨U,h++(.cells m.cs::.cells B::J),false⟩)/\U.length=136/\lkp U 0=.ptr id 0/\lkp U 3=.ptr h.length 0/\lkp U 4=.ptr (h.length+1) 0/\((y=.exit 2/\B=[.int .i64 0,.int .i64 0,.int .i64 0,.int .i64 0]/\ZK (F1 ms m (twK m.links)) m.links 0=none)\/(y=.ret/\∃i e,ZK (F1 ms m (twK m.links)) m.links 0=some (i,e)/\B=[.int .i64 0,.int .i64 10,.int .i64 (i:Nat),.int .i64 0]/\lkp U 5=.int .i64 e)):=by generalize hT:up _ 60 _=TT at hr;rw[<-hr];obtain⟨y,a7,B,J,u1,u2,u3,u4,u5,-,-,-,-,-,-,ad⟩:=L1 J TT (by rw[<-hT];simp only[qK,q2]) (by rw[<-hT];simp only[sT.1,sC.1,seval,-rN,q3]) (by rw[<-hT];simp only[sT.1,sC.1,seval,-rN,q4]) (by rw[<-hT];simp only[sT.1,sC.1,seval,-rN,q5]) (by rw[<-hT];simp only[sT.1,sC.1,seval,-rN,q2]) (by rw[<-hT];simp only[sT.1,sC.1,seval,-rN,q2]) (by rw[<-hT];simp only[sT.1,sC.1,seval,-rN,q2]) (by rw[<-hT];simp only[sT.1,sC.1,seval,-rN,q2];rfl);exact⟨y,a7,B,_,u1,u2,u3,u4,u5,ad⟩
 subst r1;have a6:∀o,ZK (F1 ms m (twK m.links)) m.links 0=o->w=some (.ret (Wh.enc (match o with|some (i,e)=>⟨10,(i:Nat),0,e⟩|none=>match Q8 ms (ofL ms (Qk m)) m.rules 0 with|some w=>w|none=>okW)),h,false)->w=some (.ret (Wh.enc (match ZK (F1 ms m (twK m.links)) m.links 0 with|some (i,e)=>⟨10,(i:Nat),0,e⟩|none=>match Q8 ms (ofL ms (Qk m)) m.rules 0 with|some w=>w|none=>okW)),h,false):=by intro o ho hq;rw[ho];exact hq
 rcases r6 with⟨rfl,rfl,aa⟩|⟨rfl,i,e,aa,rfl,r7⟩;case inr=>simp only[qe.cs,sT.1,sC.1,seval,-rN,r5,r7]at hw;exact a6 _ aa hw.symm
 refine a6 _ aa ?_;obtain⟨O,G,ic,im,a8,hS⟩:=qtA (m:=m) (hK.more (.cells m.cs::.cells [.int .i64 0,.int .i64 0,.int .i64 0,.int .i64 0]::J)) hV hC.parts hC.rules hC.acts hC.sum hC.gkey hC.ofs;have ac:=hS.eq;generalize G.drop _=G' at ac;have hG:G=h++(.cells m.cs::.cells [.int .i64 0,.int .i64 0,.int .i64 0,.int .i64 0]::(J++G')):=by rw[<-ac,jp];rfl
 obtain⟨o1,o2,o3,o4,o5⟩:=hS.facts
 have hO:Zn G (ofL ms (Qk m)) O:=by
  rcases hS.ot with⟨e1,e2⟩|⟨e1,af,e2,_,_,_,_,e3⟩;·exact .inl ⟨e1,true,e2⟩
  ·exact .inr ⟨af,e2,e3⟩
 obtain⟨Lm,c1,c2,c3⟩:=hS.ct;have ab:∀K,G++K=h++(.cells m.cs::.cells Z4::((J++G')++K)):=λK=>by rw[hG,jp];rfl
 have L2:=λtt=>qbn (M:=m.cs) (J0:=J++G') hK (l:=m.rules) (by have:=hC.rules;omega) hC.ofs hC.rfit (λr hr=>by have:=hC.acts r hr;omega) hC.akey (λK=>by rw[<-ab K];exact hO.more K) ⟨Lm,λK=>by rw[<-ab K];exact Zx c1 K,c2,c3⟩ m.rules [] [] tt rfl;rw[qe.enc,hG]at a8;simp only[qe.cs]at a8;simp only[qe.cs,sT.1,sC.1,qf,seval,-rN,r2,r3,r4,jU,a8,o1,o3,ZN,Lc]at hw;generalize hr:qk h.length Wd (.loop qdQ) _=z at hw;obtain⟨y,t3,B,K,s1,s2,s3,s4⟩:∃y U B K,z=some (y,⟨U,h++(.cells m.cs::.cells B::K),false⟩)/\U.length=136/\lkp U 4=.ptr (h.length+1) 0/\((y=.exit 4/\B=Z4/\Q8 ms (ofL ms (Qk m)) m.rules 0=none)\/(y=.ret/\∃w,Q8 ms (ofL ms (Qk m)) m.rules 0=some w/\B=[.int .i64 0,.int .i64 w.part,.int .i64 w.item,.int .i64 w.sub]/\lkp U 5=.int .i64 w.e)):=by generalize hT:up _ 89 _=TT at hr;rw[<-hr];have:=L2 TT (by rw[<-hT];simp only[qK,r2]) (by rw[<-hT];simp only[sT.1,sC.1,seval,-rN,r3]) (by rw[<-hT];simp only[sT.1,sC.1,seval,-rN,r4]) (by rw[<-hT];simp only[sT.1,sC.1,seval,-rN,r5]) (by rw[<-hT];simp only[sT.1,sC.1,seval,-rN,r2]) (by rw[<-hT];simp only[sT.1,sC.1,seval,-rN,r2]) (by rw[<-hT];simp only[sT.1,sC.1,seval,-rN,r2]) (by rw[<-hT];simp only[sT.1,sC.1,seval,-rN,r2]) (by rw[<-hT];simp only[sT.1,sC.1,seval,-rN,r2];rfl);rw[<-ab [],jV,hG]at this;exact this
 subst s1;have a1:∀o,Q8 ms (ofL ms (Qk m)) m.rules 0=o->w=some (.ret (Wh.enc (match o with|some w=>w|none=>okW)),h,false)->w=some (.ret (Wh.enc (match Q8 ms (ofL ms (Qk m)) m.rules 0 with|some w=>w|none=>okW)),h,false):=by intro o ho hq;rw[ho];exact hq
 rcases s4 with⟨rfl,rfl,s5⟩|⟨rfl,v,s5,rfl,s6⟩;·refine a1 _ s5 ?_;simp only[Z4,sT.1,sC.1,qf,seval,-rN,qF,splice,qd.cells,qC,s2,s3]at hw;exact hw.symm
 ·refine a1 _ s5 ?_;simp only[sT.1,sC.1,seval,-rN,s3,s6]at hw;exact hw.symm
end
theorem qo9{l:List qE}{fb:Bool}(hl:l.length<=100000)(hk:∀a∈l,Key a.name)(h:List qj):Wd (.fn 74 [] []) [.lst (l.map qE.enc) (fl fb),.fn 75 [] []] h=some (.ret (.int .i64 (tw (λa b=>a.name==b.name) [] l)),h,false):=gE (fb:=fb) (sh:=sh1) (κ:=λa=>.str a.name) (k:=3) (z:=[.str [],.int .i64 0,.lst [] .full]) rfl yk rfl rfl (λa _=>gy a) hl (λa=>rfl) (λa _ h=>qqW a h) (λa ha b hb=>KS (hk a ha) (hk b hb)) (λa ha=>WU (hk a ha)) h
def QU(ms:List qe)(m:qe):Wh:=bif ile 0 (tw (λa b:qE=>a.name==b.name) [] (m.ins++m.outs))then(bif ilt (tw (λa b:qE=>a.name==b.name) [] (m.ins++m.outs)) (m.ins.length:Nat)then⟨1,tw (λa b:qE=>a.name==b.name) [] (m.ins++m.outs),0,11⟩else⟨2,tw (λa b:qE=>a.name==b.name) [] (m.ins++m.outs) - (m.ins.length:Nat),0,11⟩)else bif m.coupled then LC ms m else qcU m
theorem qpF{k:Nat}{us vs:List qd}(hu:∀u∈us,Shp k u)(hv:∀u∈vs,Shp k u)(hl:us.length+vs.length<=1000000):WO k us vs=true:=by
 simp only[WO,Bool.and_eq_true,decide_eq_true_eq];refine⟨⟨jn hl (by decide),?_⟩,?_⟩;·rw[List.all_eq_true];intro v h;obtain⟨cs,rfl,h1,h2,_⟩:=hv v h;simp[qd.cells,h1];simpa using h2
 ·cases us with
  |nil=>rfl
  |cons u us=>obtain⟨ds,rfl,h3,_⟩:=hu u (by simp);simp[qd.cells,h3]
section
variable{h:List qj}{id mid:Nat}{ms:List qe}{root:Str}{m:qe}
theorem Lr{α:Type}{same:α->α->Bool}:∀(l met:List α),tw same met l=-1\/∃n,tw same met l=((n:Nat):Int)/\met.length<=n/\n<met.length+l.length
 |[],met=>.inl rfl
 |a::l,met=>by
  rw[tw]
  cases met.any (same a)with
  |true=>exact .inr ⟨met.length,rfl,jm _,by simp⟩
  |false=>
   rcases Lr l (met++[a])with h|⟨n,h1,h2,h3⟩;·exact .inl h
   ·exact .inr ⟨n,h1,by simp at h2;omega,by simp at h3⊢;omega⟩
theorem qkT(hK:KAt h id mid ms root)(hM:zB ms)(hV:qac ms)(hm:m∈ms)(hk:∀a∈m.ins++m.outs,Key a.name)(hC:m.coupled=true->qmx ms m)(hA:m.coupled=false->qmw m):Wd (.fn 36 [] []) [.ptr id 0,m.enc] h=some (.ret (QU ms m).enc,h,false):=by
 have li:=hM.ins m hm;have lo:=hM.outs m hm;have qt:=λfb H=>qo9 (l:=m.ins++m.outs) (fb:=fb) (by simp;omega) hk H;have a1:=qpF (k:=3) (us:=[]) (vs:=m.ins.map qE.enc) (λu hu=>by cases hu) (λu hu=>by obtain⟨p,_,rfl⟩:=jT.1 hu;exact gy p) (by simp;omega);have a2:=qpF (k:=3) (us:=m.ins.map qE.enc) (vs:=m.outs.map qE.enc) (λu hu=>by obtain⟨p,_,rfl⟩:=jT.1 hu;exact gy p) (λu hu=>by obtain⟨p,_,rfl⟩:=jT.1 hu;exact gy p) (by simp;omega);have hr:=Lr (same:=λa b:qE=>a.name==b.name) (m.ins++m.outs) [];rw[j5]at qt;have qc:∀J,m.coupled=true->Wd (.fn 76 [] []) [.ptr id 0,m.enc] (h++J)=some (.ret (LC ms m).enc,h++J,false):=λJ hc=>by obtain⟨H,h1,h2⟩:=qc2 (m:=m) (hK.more J) hM hV hm (hC hc);rw[h2]at h1;exact h1
 have qa:=λJ hc=>qfd (m:=m) (h:=h++J) (kv:=.ptr id 0) rfl (λ_ _=>rfl) (hA hc);rw[QU];have l0:X4 3 [.str [],.int .i64 0,.lst [] .full] 0 []=some (.lst [] .full):=yk;generalize hw:Wd _ _ h=w;rw[Zg 36 c36]at hw;have t1:=λH=>qt true H;have t2:=λH=>qt false H;have ft:fl true=.full:=rfl;have ff:fl false=.no:=rfl;rw[ft]at t1;rw[ff]at t2;have lz:m.ins.length+m.outs.length<=100000:=zo;clear qt hk hC hA hV hM hm li lo;generalize LC ms m=rc at*;generalize qcU m=ra at*;obtain⟨nm,co,is,os,vs,ta,es,it,ex,cn,ow,ps,ls,rs⟩:=m;simp only[qe.enc,qe.cs,Wh.enc]at*;generalize tw (λa b:qE=>a.name==b.name) [] (is++os)=z at*;have w0:∀n k:Nat,n<1000000->k<1000000->IntKind.i64.wrap ((n:Int) - (k:Int))=(n:Int) - (k:Int):=λn k h1 h2=>QE zo zo
 have key:w=some (.ret (.tup [.agg [.int .i64 0,.int .i64 (bif ile 0 z then(bif ilt z (is.length:Nat)then(⟨1,z,0,11⟩:Wh)else⟨2,z - (is.length:Nat),0,11⟩)else bif co then rc else ra).part,.int .i64 (bif ile 0 z then(bif ilt z (is.length:Nat)then(⟨1,z,0,11⟩:Wh)else⟨2,z - (is.length:Nat),0,11⟩)else bif co then rc else ra).item,.int .i64 (bif ile 0 z then(bif ilt z (is.length:Nat)then(⟨1,z,0,11⟩:Wh)else⟨2,z - (is.length:Nat),0,11⟩)else bif co then rc else ra).sub],.int .i64 (bif ile 0 z then(bif ilt z (is.length:Nat)then(⟨1,z,0,11⟩:Wh)else⟨2,z - (is.length:Nat),0,11⟩)else bif co then rc else ra).e]),h,false):=by
  rcases hr with rfl|⟨n,rfl,-,h3⟩
  ·have i1:ile 0 (-1)=false:=yk;rw[i1,cond_false];cases co;·have qa:=λJ=>qa J rfl;rw[cond_false];cases is<;>cases os<;>simp only[List.map_nil,List.map_cons,jQ,jR,jV]at a1 a2 t1 t2 qa<;>simp only[c36,sT.1,sC.1,sTA.1,sCA.1,qf,Xd,Nat.testBit,bne,seval,-rN,qF,splice,qC,l0,a1,a2,t1,t2,jU,i1,qa]at hw;all_goals exact hw.symm
   ·have qc:=λJ=>qc J rfl;rw[cond_true];cases is<;>cases os<;>simp only[List.map_nil,List.map_cons,jQ,jR,jV]at a1 a2 t1 t2 qc<;>simp only[c36,sT.1,sC.1,sTA.1,sCA.1,qf,Xd,Nat.testBit,bne,seval,-rN,qF,splice,qC,l0,a1,a2,t1,t2,jU,i1,qc]at hw;all_goals exact hw.symm
  ·have i1:ile 0 ((n:Nat):Int)=true:=(by rw[QT];simp);rw[i1,cond_true];rcases Nat.lt_or_ge n is.length with U|Y;·have i2:ilt ((n:Nat):Int) (is.length:Nat)=true:=Qh zo;rw[i2,cond_true];cases is<;>cases os<;>simp only[List.map_nil,List.map_cons,jQ,jR,jV,jz,jy]at a1 a2 t1 t2 i2<;>simp only[c36,sT.1,sC.1,sTA.1,sCA.1,qf,Xd,Nat.testBit,bne,seval,-rN,qF,splice,qC,l0,a1,a2,t1,t2,jU,i1,i2]at hw;all_goals exact hw.symm
   ·have i2:ilt ((n:Nat):Int) (is.length:Nat)=false:=Z8 zo;have w1:=w0 n is.length (by simp at h3;omega) zo;rw[i2,cond_false];cases is<;>cases os<;>simp only[List.map_nil,List.map_cons,jQ,jR,jV,jz,jy]at a1 a2 t1 t2 i2 w1<;>simp only[c36,sT.1,sC.1,sTA.1,sCA.1,qf,Xd,Nat.testBit,bne,seval,-rN,qF,splice,qC,l0,a1,a2,t1,t2,jU,i1,i2,w1]at hw;all_goals exact hw.symm
 exact key
end
def inS(ms:List qe)(frm:Nat):List qW->List Bool->List Nat->Option (List Bool×List Nat)
 |[],met,st=>some (met,st)
 |p::r,met,st=>match plM ms p.model 0 with
  |none=>inS ms frm r met st
  |some q=>bif met.getD q.1 false then inS ms frm r met st else bif q.1==frm then none else inS ms frm r (met.set q.1 true) (st++[q.1])
def zd(ms:List qe)(frm:Nat):Nat->List Bool->List Nat->Bool
 |0,_,_=>false
 |n+1,met,st=>match st.getLast? with
  |none=>false
  |some a=>match inS ms frm ((ms[a]?.map (·.parts)).getD []) met st.dropLast with
   |none=>true
   |some r=>zd ms frm n r.1 r.2
def qbh(ms:List qe)(frm:Nat):Bool:=zd ms frm (2*ms.length+2) (List.replicate ms.length false) [frm]
def mu(met:List Bool)(st:List Nat):Nat:=2*met.count false+st.length
theorem LB:∀(met:List Bool)(i:Nat),i<met.length->met.getD i false=false->(met.set i true).count false+1=met.count false
 |[],i,h,_=>by simp at h
 |b::r,0,_,hb=>by simp at hb;subst hb;simp
 |b::r,i+1,h,hb=>by have:=LB r i (by simpa using h) (by simpa using hb);rw[List.set_cons_succ,List.count_cons,List.count_cons];omega
theorem K4{ms:List qe}{frm:Nat}:∀{r:List qW}{met:List Bool}{st:List Nat}{q:List Bool×List Nat},met.length=ms.length->(∀a∈st,a<ms.length)->inS ms frm r met st=some q->q.1.length=ms.length/\(∀a∈q.2,a<ms.length)/\mu q.1 q.2<=mu met st
 |[],met,st,q,hl,hs,h=>by rw[inS]at h;cases h;exact⟨hl,hs,jm _⟩
 |p::r,met,st,q,hl,hs,h=>by
  rw[inS]at h
  cases hp:plM ms p.model 0 with
  |none=>rw[hp]at h;exact K4 hl hs h
  |some k=>
   rw[hp]at h;simp only at h;have hk:k.1<ms.length:=(by have:=(FV (n:=k.1) (m:=k.2) hp).2;exact(List.getElem?_eq_some_iff.1 this).1)
   cases hm:met.getD k.1 false with
   |true=>rw[hm]at h;exact K4 hl hs h
   |false=>
    rw[hm,cond_false]at h
    cases hf:k.1==frm with
    |true=>rw[hf]at h;cases h
    |false=>rw[hf,cond_false]at h;obtain⟨h1,h2,h3⟩:=K4 (by rw[j0,hl]) (λa ha=>by rcases List.mem_append.1 ha with ha|ha;exact hs a ha;simp at ha;omega) h;refine⟨h1,h2,jn h3 ?_⟩;have:=LB met k.1 zo hm;rw[mu,mu,ji,List.length_singleton];omega
def nI(n:Nat):qd:=.int .i64 (n:Nat)
structure RS (h G:List qj) (im:Nat) (met:List Bool) (st:List Nat) (X:qd):Prop where
 tk:G.take h.length=h
 len:h.length<=G.length
 him:h.length<=im
 mt:G[im]?=some (.cells (met.map qd.bool))
 lt:∃id cap mr rest,X=.sl id 0 st.length cap mr/\h.length<=id/\id≠im/\(mr=0\/mr=1)/\st.length+rest.length=cap/\0<cap/\G[id]?=some (.cells ((st++rest).map nI))
section
variable{h G:List qj}{im:Nat}{met:List Bool}{st:List Nat}{X:qd}
theorem RS.facts(hS:RS h G im met st X):X.dim=X/\(∀i t,ZO X i t=t)/\qdU false X=some (nI st.length):=by obtain⟨id,cap,mr,rest,rfl,_⟩:=hS.lt;exact⟨rfl,λ_ _=>rfl,rfl⟩
theorem RS.more(hS:RS h G im met st X)(J:List qj):RS h (G++J) im met st X:=by obtain⟨id,cap,mr,rest,e,h1,h2,h3,h4,h5,h6⟩:=hS.lt;exact⟨by rw[jZ hS.len,hS.tk],by rw[ji];have:=hS.len;omega,hS.him,Zx hS.mt J,id,cap,mr,rest,e,h1,h2,h3,h4,h5,Zx h6 J⟩
theorem qlo(met:List Bool)(i:Nat)(hi:i<met.length):List.take i (met.map qd.bool)++qd.bool true::List.drop (i+1) (met.map qd.bool)=(met.set i true).map qd.bool:=by rw[List.set_eq_take_append_cons_drop,if_pos hi,j5,List.map_cons,List.map_take,List.map_drop]
theorem RS.flag(hS:RS h G im met st X)(i:Nat):RS h (G.set im (.cells ((met.set i true).map qd.bool))) im (met.set i true) st X:=by obtain⟨id,cap,mr,rest,e,h1,h2,h3,h4,h5,h6⟩:=hS.lt;have:=ko hS.mt;exact⟨by rw[j8 hS.him,hS.tk],by rw[j0];exact hS.len,hS.him,zu this,id,cap,mr,rest,e,h1,h2,h3,h4,h5,gV (Ne.symm h2) h6⟩
theorem qon:∀l:List Nat,(l.map nI).map qd.dim=l.map nI:=λl=>by rw[List.map_map];rfl
theorem qmo{F:List qj}{st rest:List Nat}{id cap mr:Nat}(hb:F[id]?=some (.cells ((st++rest).map nI))):gJ 1 F (.sl id 0 st.length cap mr)=some (st.map nI,st.length):=by have hl:st.length<=((st++rest).map nI).length:=(by rw[jU,ji];omega);simp only[gJ,hb,Nat.mul_one,List.drop_zero,Nat.zero_add,if_pos hl];rw[j5,List.take_left' (by rw[jU]),qon]
theorem RS.push(hS:RS h G im met st X)(x:Nat)(hl:st.length<=1000000):∃X' G',hop h.length (.app 1) [X,.sl G.length 0 1 1 0] (G++[qj.cells [nI x]])=some (X',G',false)/\RS h G' im met (st++[x]) X':=by
 obtain⟨id,cap,mr,rest,rfl,h1,h2,h3,h4,h5,h6⟩:=hS.lt;have hid:=ko h6;have ah:=ko hS.mt;have U:=hS.more [qj.cells [nI x]];have a1:gJ 1 (G++[qj.cells [nI x]]) (.sl G.length 0 1 1 0)=some ([nI x],1):=qmo (st:=[x]) (rest:=[]) (by rw[ZW];rfl);have a6:st.length+1<=kr:=jn (show st.length+1<=1000001 by omega) (by decide);have Y:=Zx h6 [qj.cells [nI x]];have a7:((st++rest).map nI).length=cap:=by rw[jU,ji,h4]
 have e:(!([nI x].all qd.storable))=false:=rfl;by_cases hc:st.length+1<=cap
 ·obtain⟨y,rs,rfl⟩:∃y rs,rest=y::rs:=by
   cases rest with
   |nil=>simp at h4;omega
   |cons y rs=>exact⟨y,rs,rfl⟩
  have ac:splice ((st++y::rs).map nI) (0+st.length*1) [nI x]=(((st++[x])++rs).map nI):=(by rw[splice,Nat.zero_add,Nat.mul_one,j5,List.take_left' (by simp),List.length_singleton,List.map_cons,List.drop_append,jU];simp);refine⟨.sl id 0 (st.length+1) cap mr,(G++[qj.cells [nI x]]).set id (.cells (((st++[x])++rs).map nI)),?_,?_⟩;·have af:0+st.length*1+[nI x].length<=((st++y::rs).map nI).length/\[nI x].all qd.storable=true:=⟨by rw[a7];simp only[List.length_singleton];omega,rfl⟩;simp only[hop,DO,a1,D1,Y,ac,Nat.succ_ne_zero,if_false,if_pos a6,if_pos hc,XW h1,e,jl,if_pos af]
  ·refine⟨by rw[j8 h1,U.tk],by rw[j0];exact U.len,hS.him,gV h2 U.mt,id,cap,mr,rs,by rw[ji,List.length_singleton],h1,h2,h3,by simp at h4⊢;omega,h5,zu (by simp;omega)⟩
 ·have ad:rest=[]:=by
   cases rest with
   |nil=>rfl
   |cons y rs=>simp at h4;omega
  subst ad;rw[jV]at h6 Y a7;rw[jz,Nat.add_zero]at h4;have aa:gJ 1 (G++[qj.cells [nI x]]) (.sl id 0 st.length cap mr)=some (st.map nI,st.length):=qmo (rest:=[]) (by rw[jV];exact Y);have ec:st.map nI++[nI x]=((st++[x])++[]).map nI:=(by rw[jV,j5];rfl);have ab:¬ st.length+1<=cap:=hc;rcases h3 with rfl|rfl
  ·refine⟨.sl (G++[qj.cells [nI x]]).length 0 (st.length+1) (st.length+1) 1,(G++[qj.cells [nI x]])++[qj.cells (st.map nI++[nI x])],?_,?_⟩;·simp only[hop,DO,a1,aa,Y,Nat.succ_ne_zero,if_false,if_pos a6,if_neg ab,e,jl,if_true]
   ·have a8:=U.more [qj.cells (st.map nI++[nI x])];refine⟨a8.tk,a8.len,hS.him,a8.mt,(G++[qj.cells [nI x]]).length,st.length+1,1,[],by rw[@List.length_append _ st _,List.length_singleton],U.len,by rw[ji];omega,.inr rfl,by simp,zo,?_⟩;rw[ZW,ec];rfl
  ·have ae:cap*1=(st.map nI).length:=(by rw[a7,Nat.mul_one]);refine⟨.sl (G++[qj.cells [nI x]]).length 0 (st.length+1) (st.length+1) 1,(G++[qj.cells [nI x]]).set id .dead++[qj.cells (st.map nI++[nI x])],?_,?_⟩;·simp only[hop,DO,a1,aa,Y,Nat.succ_ne_zero,if_false,if_pos a6,if_neg ab,e,jl,true_and,if_pos ae]
   ·refine⟨?_,?_,hS.him,?_,(G++[qj.cells [nI x]]).length,st.length+1,1,[],by rw[@List.length_append _ st _,List.length_singleton],U.len,by rw[ji];omega,.inr rfl,by simp,zo,?_⟩;·rw[jZ (by rw[j0];exact U.len),j8 h1,U.tk]
    ·rw[ji,j0];have:=U.len;exact jn this (Nat.le_add_right _ _)
    ·exact Zx (gV h2 U.mt) _
    ·have:=ZW ((G++[qj.cells [nI x]]).set id .dead) [qj.cells (st.map nI++[nI x])];rw[j0]at this;rw[this,ec];rfl
end
def qpN:qd->Option Nat
 |.int _ n=>if 0<=n then some n.toNat else none
 |_=>none
def qlw(k:Nat)(x i:qd):Option qd:=match x with
 |.lst xs f=>match qpN i with
  |some h=>if 0<=h/\h<=xs.length then if xs.head?.all (λy=>y.cells.length==k)then some (.lst ((xs.drop 0).take (h - 0)) (if h=xs.length then f else .no))else none else none
  |none=>none
 |.sl id o _ cap more=>match qpN i with
  |some h=>if 0<=h/\h<=cap then if cap=0 then(if more=0 then some (.lst [] .full)else none)else(if more=0\/more=k then some (.sl id (o+0*k) (h - 0) (cap - 0) more)else none)else none
  |none=>none
 |_=>none
theorem qoy{base:Nat}{call:AE.Call}{p:XH}{s:St}(d:Option Nat)(k:Nat)(x i:qH):qJ base call p d (.subL k x none (some i)) s=F4 d s (qlw k (ev s.t x) (ev s.t i)):=by rw[QB _ _ rfl (by simp) (by simp) (by simp)];have e:pureV s.t (.subL k x none (some i))=qlw k (ev s.t x) (ev s.t i):=(by simp only[pureV,qlw,bound];cases ev s.t i<;>cases ev s.t x<;>rfl);rw[e]
theorem qiz{id len cap mr n:Nat}(hn:n<=cap)(hc:0<cap)(hm:mr=0\/mr=1):qlw 1 (.sl id 0 len cap mr) (.int .i64 (n:Nat))=some (.sl id 0 n cap mr):=by have c0:cap≠0:=zo;have c1:qpN (.int .i64 (n:Nat))=some n:=(by rw[qpN,if_pos zo,Int.toNat_natCast]);simp only[qlw,c1,if_pos (show 0<=n/\n<=cap from⟨Nat.zero_le _,hn⟩),if_neg c0,if_pos hm,Nat.zero_mul,Nat.sub_zero,Nat.add_zero]
section
variable{h G:List qj}{im:Nat}{met:List Bool}{st:List Nat}{X:qd}{x:Nat}
theorem RS.pop(hS:RS h G im met (st++[x]) X):∃X',qlw 1 X (.int .i64 (st.length:Nat))=some X'/\RS h G im met st X':=by obtain⟨id,cap,mr,rest,rfl,h1,h2,h3,h4,h5,h6⟩:=hS.lt;rw[ji,List.length_singleton]at h4;refine⟨.sl id 0 st.length cap mr,qiz zo h5 h3,hS.tk,hS.len,hS.him,hS.mt,id,cap,mr,x::rest,rfl,h1,h2,h3,by simp;omega,h5,?_⟩;rw[h6,jp];rfl
end
end Go.Proofs.YthgghcnoaecnoaaGreatDoor.AE
