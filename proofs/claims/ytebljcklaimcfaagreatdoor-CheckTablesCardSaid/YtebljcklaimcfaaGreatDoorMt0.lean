/- A part of the proof. No condition. -/
import GoSem.Core.Code
import GoSem.Core.View
import GoSem.Op.String
import GoSem.Core.Region
import GoSem.ClaimKeys
import Derived.DeepKeys3
import Derived.RangeFuncLeaves
import Derived.OrdersIn
import Derived.Laws.CopyRow
import Derived.ChangeKeysEq
import Derived.Lib.FrozenHead2
import Derived.Lib.Strings
import GoSem.Dispatch
import Derived.Laws.BytesString
import Derived.Laws.NewFold
import Derived.RangeFuncRecord
set_option maxRecDepth 100000
open List renaming getElem?_append_left→ja,getElem?_append_right→jc,getElem?_eq_some_iff→jd,getElem?_set_ne→jf,getElem?_set_self→jg,getElem?_eq_getElem→jh,length_append→ji,append_assoc→jp,getElem?_eq_none→jq,getElem?_map→jr,getElem?_cons_zero→jx,length_cons→jy,length_nil→jz,all_cons→jC,all_nil→jD
open Array renaming getElem?_eq_some_iff→je,getElem?_append_left→jB
open Option.some renaming injEq→jj
open Bool renaming and_eq_true→jk,false_eq_true→jl,and_true→jw
open Nat renaming le_refl→jm,le_trans→jn,lt_of_lt_of_le→jo,add_assoc→jt,add_comm→ju,zero_add→jv
open Prod.mk renaming injEq→js
open Option renaming bind_eq_bind→jA
namespace Go.AE
theorem zo{p:Prop}(h:p := by omega):p:=h
theorem qq{a b:Prop}(x:a)(y:b):a/\b:=⟨x,y⟩
inductive WM where
 |no
 |full
 |own (k:Nat)
 deriving DecidableEq,Repr,Inhabited
inductive qd where
 |undef
 |bool (b:Bool)
 |int (k:IntKind) (n:Int)
 |str (s:List UInt8)
 |nilptr
 |ptr (id off:Nat)
 |iptr (cells:List qd) (off:Nat)
 |lst (xs:List qd) (f:WM)
 |nilfunc
 |fn (f:FuncId) (first captured:List qd)
 |yld (id:Nat)
 |niliface
 |iface (t:TypeId) (v:qd)
 |agg (cells:List qd)
 |tup (vs:List qd)
 |sl (id off len cap more:Nat)
 |mp (id:Nat)
 |nilmap
 |nils
 |empt
 deriving Inhabited,Repr
def qd.dim:qd->qd
 |.lst xs (.own _)=>.lst xs .no
 |v=>v
def qd.cells:qd->List qd
 |.agg cs=>cs
 |v=>[v]
def qd.storable:qd->Bool
 |.undef|.agg _|.tup _=>false
 |_=>true
mutual
def qd.lower(n:Nat):qd->Bool
 |.ptr i _=>Nat.blt i n
 |.yld i=>Nat.blt i n
 |.sl i _ _ _ _=>Nat.blt i n
 |.mp i=>Nat.blt i n
 |.iptr cs _=>qm n cs
 |.lst xs _=>qm n xs
 |.fn _ a b=>qm n a&&qm n b
 |.iface _ v=>v.lower n
 |.agg cs=>qm n cs
 |.tup vs=>qm n vs
 |_=>true
def qm(n:Nat):List qd->Bool
 |[]=>true
 |v::vs=>v.lower n&&qm n vs
end
mutual
def qd.beq:qd->qd->Bool
 |.undef,.undef=>true
 |.bool a,.bool b=>a==b
 |.int k a,.int j b=>k==j&&a==b
 |.str a,.str b=>a==b
 |.nilptr,.nilptr=>true
 |.ptr i o,.ptr j p=>i==j&&o==p
 |.iptr a o,.iptr b p=>o==p&&qaD a b
 |.lst a f,.lst b g=>f==g&&qaD a b
 |.nilfunc,.nilfunc=>true
 |.fn f a b,.fn g c d=>f==g&&qaD a c&&qaD b d
 |.yld i,.yld j=>i==j
 |.niliface,.niliface=>true
 |.iface t a,.iface u b=>t==u&&qd.beq a b
 |.agg a,.agg b=>qaD a b
 |.tup a,.tup b=>qaD a b
 |.sl i o l c m,.sl j p k d q=>i==j&&o==p&&l==k&&c==d&&m==q
 |.mp i,.mp j=>i==j
 |.nilmap,.nilmap=>true
 |.nils,.nils=>true
 |.empt,.empt=>true
 |_,_=>false
def qaD:List qd->List qd->Bool
 |[],[]=>true
 |a::as,b::bs=>qd.beq a b&&qaD as bs
 |_,_=>false
end
inductive qM where
 |t (i:Nat)
 |c (v:qd)
 deriving Inhabited,Repr
inductive SK where
 |b
 |i (k:IntKind)
 |s
 deriving DecidableEq,Repr,Inhabited
structure Qp where
 agg:Bool
 n:Nat
 ls:List (Nat×SK)
 deriving DecidableEq,Repr,Inhabited
inductive HOp where
 |mk (k:Nat) (zero:List qd)
 |lit (k:Nat) (zero:List qd) (len:Nat) (ixs:List Nat)
 |app (k:Nat)
 |sub3 (k:Nat)
 |mkm
 |mup (sh:Qp)
 |ment (sh:Qp) (zero:qd)
 |mst
 |mlen
 |del (sh:Qp)
 |rng
 |nxt
 |ent
 |ldz (k:Option Nat)
 |bld (t e:Nat)
 deriving Inhabited,Repr
inductive AOp where
 |mov (x:qM)
 |asg (x:qM)
 |pick (c a b:qM)
 |new (cs:List qd)
 |box (k:Nat) (x:qM)
 |build (zero:List qd) (parts:List (Nat×Nat×qM))
 |list (k:Nat) (zero:List qd) (len:Nat) (parts:List (Nat×qM))
 |ld (k:Option Nat) (a:qM)
 |st (k:Option Nat) (a x:qM)
 |nilc (x:qM)
 |bin (op:BinOp) (x y:qM)
 |eqb (neg:Bool) (x y:qM)
 |eqi (kind:Nat) (neg:Bool) (x y:qM)
 |eqa (neg:Bool) (x y:qM)
 |un (op:UnOp) (x:qM)
 |cvi (k:IntKind) (x:qM)
 |cvs (x:qM)
 |cvb (x:qM)
 |cvt (x:qM)
 |mkI (t:TypeId) (x:qM)
 |mkF (f:FuncId) (first captured:List qM)
 |subS (x:qM) (lo hi:Option qM)
 |subL (k:Nat) (x:qM) (lo hi:Option qM)
 |fa (off:Nat) (a:qM)
 |ixaL (k:Nat) (s i:qM)
 |ixaA (len k:Nat) (a i:qM)
 |ixS (s i:qM)
 |ixA (len:Nat) (k:Option Nat) (a i:qM)
 |fld (off:Nat) (k:Option Nat) (x:qM)
 |ext (x:qM) (i:Nat)
 |call (f:qM) (args:List qM)
 |len (isStr:Bool) (x:qM)
 |app (k:Nat) (x y:qM)
 |mm (isMax:Bool) (x y:qM)
 |tas (t:TypeId) (zero:qd) (x:qM)
 |pan (x:qM)
 |eqs (sh:Qp) (neg:Bool) (x y:qM)
 |hx (o:HOp) (args:List qM)
 |nls (neg:Bool) (x:qM)
 |lk (sh:Qp) (zero:qd) (ok:Bool) (m key:qM)
 deriving Inhabited,Repr
structure Zz where
 dst:Option Nat
 op:AOp
 guard:Option (Nat×Bool)
 deriving Inhabited,Repr
def ao(d:Nat)(op:AOp):Zz:=⟨some d,op,none⟩
def ag(d:Nat)(op:AOp)(j:Nat)(b:Bool):Zz:=⟨some d,op,some (j,b)⟩
def an(op:AOp):Zz:=⟨none,op,none⟩
def mv(d i:Nat):Zz:=⟨some d,.mov (.t i),none⟩
def sg(d i:Nat):Zz:=⟨some d,.asg (.t i),none⟩
def fA(d k i:Nat):Zz:=⟨some d,.fa k (.t i),none⟩
def ldn(d i:Nat):Zz:=⟨some d,.ld none (.t i),none⟩
def lds(d k i:Nat):Zz:=⟨some d,.ld (some k) (.t i),none⟩
def sts(k i j:Nat):Zz:=⟨none,.st (some k) (.t i) (.t j),none⟩
def stn(i j:Nat):Zz:=⟨none,.st none (.t i) (.t j),none⟩
def xtt(d i k:Nat):Zz:=⟨some d,.ext (.t i) k,none⟩
def nlc(d i:Nat):Zz:=⟨some d,.nilc (.t i),none⟩
def xlL(d k i j:Nat):Zz:=⟨some d,.ixaL k (.t i) (.t j),none⟩
def lnn(d i:Nat):Zz:=⟨some d,.len false (.t i),none⟩
def kI(n:Int):qM:=.c (.int .i64 n)
def kF(n:Nat):qM:=.c (.fn n [] [])
def kO:qM:=.c (.bool false)
def kU:qM:=.c (.bool true)
def nL:qd:=.lst [] .full
def zZ:qd:=.int .i64 0
def zS:qd:=.str []
def eqk(d i:Nat)(n:Int):Zz:=⟨some d,.bin .eql (.t i) (.c (.int .i64 n)),none⟩
def bnk(d:Nat)(o:BinOp)(i:Nat)(n:Int):Zz:=⟨some d,.bin o (.t i) (.c (.int .i64 n)),none⟩
def bnt(d:Nat)(o:BinOp)(i j:Nat):Zz:=⟨some d,.bin o (.t i) (.t j),none⟩
def sgk(d:Nat)(n:Int):Zz:=⟨some d,.asg (.c (.int .i64 n)),none⟩
def sgO(d:Nat):Zz:=⟨some d,.asg (.c (.bool false)),none⟩
def sgU(d:Nat):Zz:=⟨some d,.asg (.c (.bool true)),none⟩
def clA(d f i:Nat):Zz:=⟨some d,.call (.c (.fn f [] [])) [.t i],none⟩
def clB(d f i j:Nat):Zz:=⟨some d,.call (.c (.fn f [] [])) [.t i,.t j],none⟩
def pkO(d i j:Nat):Zz:=⟨some d,.pick (.t i) (.t j) (.c (.bool false)),none⟩
def pkU(d i j:Nat):Zz:=⟨some d,.pick (.t i) (.c (.bool true)) (.t j),none⟩
def bxx(d k i:Nat):Zz:=⟨some d,.box k (.t i),none⟩
def ntt(d i:Nat):Zz:=⟨some d,.un .not (.t i),none⟩
def gmv(d i j:Nat)(b:Bool):Zz:=⟨some d,.mov (.t i),some (j,b)⟩
def gfA(d k i j:Nat)(b:Bool):Zz:=⟨some d,.fa k (.t i),some (j,b)⟩
def gld(d i j:Nat)(b:Bool):Zz:=⟨some d,.ld none (.t i),some (j,b)⟩
def gls(d k i j:Nat)(b:Bool):Zz:=⟨some d,.ld (some k) (.t i),some (j,b)⟩
def gln(d i j:Nat)(b:Bool):Zz:=⟨some d,.len false (.t i),some (j,b)⟩
def gbk(d:Nat)(o:BinOp)(i:Nat)(n:Int)(j:Nat)(b:Bool):Zz:=⟨some d,.bin o (.t i) (.c (.int .i64 n)),some (j,b)⟩
def gbt(d:Nat)(o:BinOp)(i i2 j:Nat)(b:Bool):Zz:=⟨some d,.bin o (.t i) (.t i2),some (j,b)⟩
def qM.slot:qM->List Nat
 |.t i=>[i]
 |.c _=>[]
def qqC:Option qM->List Nat
 |some x=>x.slot
 |none=>[]
def Fq:List qM->List Nat
 |[]=>[]
 |x::xs=>x.slot++Fq xs
def AOp.looks:AOp->List Nat
 |.mov x|.asg x|.box _ x|.ld _ x|.nilc x|.un _ x|.cvi _ x|.cvs x|.cvb x|.cvt x|.mkI _ x|.fa _ x|.fld _ _ x|.ext x _|.len _ x|.tas _ _ x|.pan x|.nls _ x=>x.slot
 |.pick c a b=>c.slot++a.slot++b.slot
 |.new _=>[]
 |.build _ ps=>Fq (ps.map (·.2.2))
 |.list _ _ _ ps=>Fq (ps.map (·.2))
 |.st _ a x|.bin _ a x|.eqb _ a x|.eqi _ _ a x|.eqa _ a x|.ixaL _ a x|.ixaA _ _ a x|.ixS a x|.ixA _ _ a x|.app _ a x|.mm _ a x|.eqs _ _ a x|.lk _ _ _ a x=>a.slot++x.slot
 |.hx _ as=>Fq as
 |.mkF _ a b=>Fq a++Fq b
 |.subS x l h|.subL _ x l h=>x.slot++qqC l++qqC h
 |.call f as=>f.slot++Fq as
def AOp.calls:AOp->Bool
 |.call ..|.pan ..=>true
 |_=>false
def AOp.acts:AOp->Bool
 |.st ..|.call ..|.app ..|.pan ..|.hx ..=>true
 |_=>false
def AOp.effs:AOp->Bool
 |.st ..|.call ..|.app ..|.pan ..|.asg ..|.hx ..=>true
 |_=>false
def Zz.looks(o:Zz):List Nat:=match o.guard with
 |some (j,_)=>j::o.op.looks
 |none=>o.op.looks
structure Zl where
 o:Zz
 ix:Nat
 cl:Nat
 deriving Inhabited,Repr
inductive qS where
 |skip
 |reg (ops:List Zz)
 |draw (ops:List Zl)
 |draw2 (c:List Zl) (a b:Zl) (r:List Zl)
 |seq (a b:qS)
 |cond (c:qM) (a b:qS)
 |block (id:Nat) (b:qS)
 |loop (b:qS)
 |rfun (f:qM) (ps:List Nat) (asg body:qS)
 |exit (id:Nat)
 |ret
 deriving Inhabited,Repr
def cT(i:Nat)(a b:qS):qS:=.cond (.t i) a b
def sR(l:List Zz)(c:qS):qS:=.seq (.reg l) c
def qS.noRf:qS->Bool
 |.seq a b|.cond _ a b=>a.noRf&&b.noRf
 |.block _ b|.loop b=>b.noRf
 |.rfun ..=>false
 |_=>true
inductive qaB where
 |tmp (i:Nat)
 |cell (a:Nat) (k:Option Nat)
 deriving Inhabited,Repr
structure qE where
 ntmps:Nat
 results:List qaB
 code:qS
 deriving Inhabited,Repr
inductive LSt where
 |ready|busy|done|exhausted
 deriving DecidableEq,Repr,Inhabited
inductive qkk where
 |ret
 |exit (id:Nat)
 deriving DecidableEq,Repr,Inhabited
inductive qj where
 |cells (cs:List qd)
 |loop (t:List qd) (ps:List Nat) (asg body:qS) (st:LSt) (pend:Option qkk)
 |map (es:List (Nat×qd×qd)) (clock:Nat)
 |iter (m:qd) (since:Nat) (seen:List Nat) (last:Nat)
 |bld (t e:Nat) (s:List UInt8)
 |dead
 deriving Inhabited,Repr
structure St where
 t:List qd
 h:List qj
 e:Bool
 deriving Inhabited
inductive Ex where
 |nor
 |exit (id:Nat)
 |ret
 |pan (v:qd)
 deriving Inhabited,Repr
inductive X9 where
 |ret (v:qd)
 |pan (v:qd)
 deriving Inhabited,Repr
abbrev Call:=qd->List qd->List qj->Option (X9×List qj×Bool)
def raw(t:List qd):qM->qd
 |.t i=>t.getD i .undef
 |.c v=>v
def ev(t:List qd)(x:qM):qd:=(raw t x).dim
def put(dst:Option Nat)(v:qd)(t:List qd):List qd:=match dst with
 |some d=>t.set d v
 |none=>t
def Z5(t:List qd)(x:qM):List qd:=match x with
 |.t i=>match t.getD i .undef with
  |.lst xs (.own _)=>t.set i (.lst xs .no)
  |_=>t
 |.c _=>t
def kJ:Nat:=2 ^ 30
def splice(cs:List qd)(o:Nat)(vs:List qd):List qd:=cs.take o++vs++cs.drop (o+vs.length)
def cut(cs:List qd)(o:Nat)(k:Option Nat):Option qd:=match k with
 |none=>(cs[o]?).map qd.dim
 |some k=>if o+k<=cs.length then some (.agg (((cs.drop o).take k).map qd.dim))else none
def Xi(h:List qj)(a:qd)(k:Option Nat):Option qd:=match a with
 |.ptr i o=>match h[i]? with
  |some (.cells cs)=>cut cs o k
  |_=>none
 |.iptr cs o=>cut cs o k
 |_=>none
def qH(cells:List qd):List (Nat×Nat×qd)->Option (List qd)
 |[]=>some cells
 |(off,size,v)::rest=>let vs:=v.cells;if vs.length=size/\off+size<=cells.length/\vs.all qd.storable then qH (splice cells off vs) rest else none
def ile:Int->Int->Bool
 |.ofNat a,.ofNat b=>Nat.ble a b
 |.negSucc _,.ofNat _=>true
 |.ofNat _,.negSucc _=>false
 |.negSucc a,.negSucc b=>Nat.ble b a
theorem Qu(a b:Int):ile a b=decide (a<=b):=by cases a<;>cases b<;>simp only[ile]<;>rw[Bool.eq_iff_iff]<;>simp<;>omega
def ilt(a b:Int):Bool:=!ile b a
theorem ZS(a b:Int):ilt a b=decide (a<b):=by rw[ilt,Qu,Bool.eq_iff_iff];simp
def kA(op:BinOp)(k:IntKind)(a b:Int):Option qd:=match op with
 |.add=>some (.int k (k.wrap (a+b)))
 |.sub=>some (.int k (k.wrap (a - b)))
 |.mul=>some (.int k (k.wrap (a*b)))
 |.quo=>if b=0 then none else some (.int k (k.wrap (a.tdiv b)))
 |.rem=>if b=0 then none else some (.int k (a.tmod b))
 |.and=>some (.int k (k.wrap (BitVec.ofInt k.bits a &&& BitVec.ofInt k.bits b).toNat))
 |.or=>some (.int k (k.wrap (BitVec.ofInt k.bits a ||| BitVec.ofInt k.bits b).toNat))
 |.xor=>some (.int k (k.wrap (BitVec.ofInt k.bits a ^^^ BitVec.ofInt k.bits b).toNat))
 |.andNot=>some (.int k (k.wrap (BitVec.ofInt k.bits a &&& ~~~ (BitVec.ofInt k.bits b)).toNat))
 |.eql=>some (.bool (a==b))
 |.neq=>some (.bool (a !=b))
 |.lss=>some (.bool (ilt a b))
 |.leq=>some (.bool (ile a b))
 |.gtr=>some (.bool (ilt b a))
 |.geq=>some (.bool (ile b a))
 |.shl=>if b<0 then none else some (.int k (k.wrap (a*2 ^ (min b.toNat k.bits))))
 |.shr=>if b<0 then none else some (.int k (a.fdiv (2 ^ (min b.toNat k.bits))))
def qjA(op:BinOp)(a b:List UInt8):Option qd:=match op with
 |.add=>if a.length+b.length<=kJ then some (.str (a++b))else none
 |.eql=>some (.bool (a==b))
 |.neq=>some (.bool (!(a==b)))
 |.lss=>some (.bool (Op.bytesLess a b))
 |.leq=>some (.bool (Op.bytesLess a b||a==b))
 |.gtr=>some (.bool (!(Op.bytesLess a b||a==b)))
 |.geq=>some (.bool (!(Op.bytesLess a b)))
 |_=>none
def gz(op:BinOp)(x y:qd):Option qd:=match x,y with
 |.int k a,.int j b=>
  match op with
  |.shl|.shr=>kA op k a b
  |_=>if k=j then kA op k a b else none
 |.str a,.str b=>qjA op a b
 |_,_=>none
def qrd(k:Nat)(x y:qd):Option Bool:=match k with
 |0=>match x,y with
  |.nilptr,.nilptr=>some true
  |.nilptr,.ptr _ _=>some false
  |.ptr _ _,.nilptr=>some false
  |.nilptr,.iptr _ _=>some false
  |.iptr _ _,.nilptr=>some false
  |.ptr i o,.ptr j p=>if i=j then some (o==p)else none
  |_,_=>none
 |1=>match x,y with
  |.niliface,.niliface=>some true
  |.niliface,.iface _ _=>some false
  |.iface _ _,.niliface=>some false
  |_,_=>none
 |2=>match x,y with
  |.nilfunc,.nilfunc=>some true
  |.nilfunc,.fn _ _ _=>some false
  |.fn _ _ _,.nilfunc=>some false
  |_,_=>none
 |3=>match x,y with
  |.nilmap,.nilmap=>some true
  |.nilmap,.mp _=>some false
  |.mp _,.nilmap=>some false
  |_,_=>none
 |_=>none
def DG(x y:qd):Option Bool:=match x,y with
 |.int k a,.int j b=>if k=j then some (a==b)else none
 |.str a,.str b=>some (a==b)
 |.bool a,.bool b=>some (a==b)
 |_,_=>none
def qaR:List qd->List qd->Option Bool
 |[],[]=>some true
 |a::as,b::bs=>
  match DG a b with
  |some true=>qaR as bs
  |some false=>some false
  |none=>none
 |_,_=>none
def XL(k:SK)(v:Option qd):Bool:=match k,v with
 |.b,some (.bool _)=>true
 |.i k,some (.int j n)=>k==j&&(ile k.min n&&ile n k.max)
 |.s,some (.str s)=>Nat.ble s.length 9223372036854775807
 |_,_=>false
def W3(ls:List (Nat×SK))(cs:List qd):Bool:=ls.all λp=>XL p.2 cs[p.1]?
def QF(sh:Qp)(x:qd):Bool:=match x with
 |.agg cs=>sh.agg&&cs.length==sh.n&&W3 sh.ls cs
 |x=>!sh.agg&&W3 sh.ls [x]
def XJ(x y:List qd):List (Nat×SK)->Bool
 |[]=>true
 |p::sh=>match x[p.1]?,y[p.1]? with
  |some a,some b=>match DG a b with
   |some true=>XJ x y sh
   |_=>false
  |_,_=>false
def LW(sh:Qp)(x y:qd):Option Bool:=if QF sh x&&QF sh y then some (XJ x.cells y.cells sh.ls)else none
def unV(op:UnOp)(x:qd):Option qd:=match op,x with
 |.neg,.int k n=>some (.int k (k.wrap (0 - n)))
 |.not,.bool b=>some (.bool (!b))
 |_,_=>none
def bound(t:List qd)(x:Option qM)(d:Nat):Option Nat:=match x with
 |none=>some d
 |some x=>match ev t x with
  |.int _ n=>if 0<=n then some n.toNat else none
  |_=>none
def zy(s:List UInt8):List qd:=s.map λb=>.int .u8 b.toNat
def ye:List qd->Option (List UInt8)
 |[]=>some []
 |.int .u8 n::r=>(ye r).map (UInt8.ofNat n.toNat::·)
 |_=>none
def pureV(t:List qd)(o:AOp):Option qd:=match o with
 |.mov x=>some (ev t x)
 |.pick c a b=>match ev t c with
  |.bool true=>some (ev t a)
  |.bool false=>some (ev t b)
  |_=>none
 |.build zero parts=>(qH zero (parts.map λ(o,s,x)=>(o,s,ev t x))).map .agg
 |.list k zero len parts=>
  if zero.length=k/\len*k<=2 ^ 24 then
   match qH ((List.replicate len zero).flatten) (parts.map λ(i,x)=>(i*k,k,ev t x))with
   |some cs=>if cs.all qd.storable then some (.lst ((List.range len).map λi=>if k=1 then(cs.getD i .undef)else .agg ((cs.drop (i*k)).take k)) .full)else none
   |none=>none
  else none
 |.nilc x=>match ev t x with
  |.ptr i o=>some (.ptr i o)
  |.iptr cs o=>some (.iptr cs o)
  |.fn f a b=>some (.fn f a b)
  |.yld l=>some (.yld l)
  |.iface u v=>some (.iface u v)
  |_=>none
 |.bin op x y=>gz op (ev t x) (ev t y)
 |.eqb neg x y=>match ev t x,ev t y with
  |.bool a,.bool b=>some (.bool ((a==b)!=neg))
  |_,_=>none
 |.eqi k neg x y=>(qrd k (ev t x) (ev t y)).map λb=>.bool (b !=neg)
 |.eqa neg x y=>match ev t x,ev t y with
  |.agg a,.agg b=>(qaR a b).map λr=>.bool (r !=neg)
  |_,_=>none
 |.eqs sh neg x y=>(LW sh (ev t x) (ev t y)).map λr=>.bool (r !=neg)
 |.un op x=>unV op (ev t x)
 |.nls neg x=>match ev t x with
  |.sl ..=>some (.bool (false !=neg))
  |.lst (_::_) _=>some (.bool (false !=neg))
  |.nils=>some (.bool (true !=neg))
  |.empt=>some (.bool (false !=neg))
  |_=>none
 |.cvi k x=>match ev t x with
  |.int _ n=>some (.int k (k.wrap n))
  |_=>none
 |.cvs x=>match ev t x with
  |.str s=>some (.str s)
  |_=>none
 |.cvb x=>match ev t x with
  |.str s=>some (.lst (zy s) .no)
  |_=>none
 |.cvt x=>match ev t x with
  |.lst xs _=>(ye xs).map .str
  |_=>none
 |.mkI ty x=>match ev t x with
  |.undef=>none
  |v=>some (.iface ty v)
 |.mkF f a b=>some (.fn f (a.map (ev t)) (b.map (ev t)))
 |.subS x lo hi=>match ev t x with
  |.str s=>match bound t hi s.length with
   |some h=>match bound t lo 0 with
    |some l=>if l<=h/\h<=s.length then some (.str ((s.drop l).take (h - l)))else none
    |none=>none
   |none=>none
  |_=>none
 |.subL k x lo hi=>match ev t x with
  |.lst xs f=>match bound t hi xs.length with
   |some h=>match bound t lo 0 with
    |some l=>
     if l<=h/\h<=xs.length then
      if xs.head?.all (λy=>y.cells.length==k)then some (.lst ((xs.drop l).take (h - l)) (if h=xs.length then f else .no))else none
     else none
    |none=>none
   |none=>none
  |.sl id o len cap more=>match bound t hi len with
   |some h=>match bound t lo 0 with
    |some l=>
     if l<=h/\h<=cap then
      if cap=l then(if more=0 then some (.lst [] .full)else none)else(if more=0\/more=k then some (.sl id (o+l*k) (h - l) (cap - l) more)else none)
     else none
    |none=>none
   |none=>none
  |_=>none
 |.fa off a=>match ev t a with
  |.ptr i o=>some (.ptr i (o+off))
  |.iptr cs o=>some (.iptr cs (o+off))
  |_=>none
 |.ixaL k s i=>match ev t s,ev t i with
  |.lst xs _,.int _ n=>
   if 0<=n/\n<xs.length then
    match xs[n.toNat]? with
    |some x=>if x.cells.length=k then some (.iptr x.cells 0)else none
    |none=>none
   else none
  |.sl id o len _ _,.int _ n=>if 0<=n/\n<len then some (.ptr id (o+n.toNat*k))else none
  |_,_=>none
 |.ixaA len k a i=>match ev t a,ev t i with
  |.ptr b o,.int _ n=>if 0<=n/\n<(len:Int)then some (.ptr b (o+n.toNat*k))else none
  |.iptr cs o,.int _ n=>if 0<=n/\n<(len:Int)then some (.iptr cs (o+n.toNat*k))else none
  |_,_=>none
 |.ixS s i=>match ev t s,ev t i with
  |.str l,.int _ n=>if 0<=n then(l[n.toNat]?).map λb=>.int .u8 b.toNat else none
  |_,_=>none
 |.ixA len k a i=>match ev t a,ev t i with
  |.agg cs,.int _ n=>if 0<=n/\n<(len:Int)then cut cs (n.toNat*k.getD 1) k else none
  |_,_=>none
 |.fld off k x=>match ev t x with
  |.agg cs=>cut cs off k
  |_=>none
 |.ext x i=>match ev t x with
  |.tup vs=>(vs[i]?).map qd.dim
  |_=>none
 |.len true x=>match ev t x with
  |.str s=>some (.int .i64 s.length)
  |_=>none
 |.len false x=>match ev t x with
  |.lst xs _=>some (.int .i64 xs.length)
  |.sl _ _ len _ _=>some (.int .i64 len)
  |.nils=>some (.int .i64 0)
  |.empt=>some (.int .i64 0)
  |_=>none
 |.mm isMax x y=>match ev t x,ev t y with
  |.int k a,.int _ b=>some (.int k (if isMax then(if b > a then b else a)else(if b<a then b else a)))
  |_,_=>none
 |.tas ty zero x=>match ev t x with
  |.niliface=>some (.tup [zero,.bool false])
  |.iface u v=>if u=ty then some (.tup [v,.bool true])else some (.tup [zero,.bool false])
  |_=>none
 |_=>none
inductive Src where
 |tmp (i:Nat)
 |cell (a:qM)
 deriving Inhabited,Repr
abbrev XT:=List (Nat×Src)
def qM.isT(x:qM)(d:Nat):Bool:=match x with
 |.t i=>i==d
 |.c _=>false
def Src.hangs(d:Nat):Src->Bool
 |.tmp i=>i==d
 |.cell a=>a.isT d
def Qk:AOp->Option Src
 |.mov (.t i)=>some (.tmp i)
 |.ld none a=>some (.cell a)
 |_=>none
def Src.isTmp:Src->Bool
 |.tmp _=>true
 |.cell _=>false
def Qa(p:XT)(o:Zz):XT:=
 if o.op.effs then
  match o.dst with
  |none=>p.filter λx=>x.2.isTmp
  |some d=>p.filter λx=>x.2.isTmp&&(x.1 !=d&&!x.2.hangs d)
 else
  match o.dst with
  |none=>p
  |some d=>
   let q:=p.filter λx=>x.1 !=d&&!x.2.hangs d
   match Qk o.op with
   |some s=>if s.hangs d then q else(d,s)::q
   |none=>q
def tail(y:qd):Option (List qd):=match y with
 |.lst ys _=>some ys
 |.str s=>some (zy s)
 |_=>none
def gu(k:Nat)(p:XT)(x:qM)(s:St):Option (List qd×St):=match x with
 |.c _=>none
 |.t i=>
  match s.t.getD i .undef with
  |.lst xs (.own j)=>if j=k then some (xs,{s with t:=s.t.set i (.lst xs .no)})else none
  |_=>
   match p.find? (·.1==i)with
   |some (_,.tmp b)=>
    match s.t.getD b .undef with
    |.lst xs (.own j)=>if j=k then some (xs,{s with t:=s.t.set b (.lst xs .no)})else none
    |_=>none
   |some (_,.cell a)=>
    match ev s.t a with
    |.ptr id o=>
     match s.h[id]? with
     |some (.cells cs)=>
      match cs[o]? with
      |some (.lst xs (.own j))=>if j=k then some (xs,{s with h:=s.h.set id (.cells (cs.set o (.lst xs .no)))})else none
      |_=>none
     |_=>none
    |_=>none
   |none=>none
def DY(xs:List qd):List qd:=xs.flatMap qd.cells
def gX(k:Nat)(h:List qj)(v:qd):Option (List qd×Nat):=match v with
 |.lst xs _=>if xs.all (λx=>x.cells.length==k)then some ((DY xs).map qd.dim,xs.length)else none
 |.str s=>if k=1 then some (zy s,s.length)else none
 |.sl id o len _ _=>match h[id]? with
  |some (.cells cs)=>if o+len*k<=cs.length then some (((cs.drop o).take (len*k)).map qd.dim,len)else none
  |_=>none
 |.nils=>some ([],0)
 |.empt=>some ([],0)
 |_=>none
def young(base id:Nat)(vs:List qd):Bool:=!(Nat.ble base id||qm (id+1) vs)
def Fh(base:Nat)(h:List qj)(id o:Nat)(vs:List qd):Option (List qj×Bool):=match h[id]? with
 |some (.cells cs)=>if o+vs.length<=cs.length/\vs.all qd.storable then some (h.set id (.cells (splice cs o vs)),young base id vs)else none
 |_=>none
def QO(sh:Qp)(key:qd):List (Nat×qd×qd)->Nat->Option (Option (Nat×qd))
 |[],_=>if QF sh key then some none else none
 |e::es,i=>match LW sh key e.2.1 with
  |some true=>some (some (i,e.2.2))
  |some false=>QO sh key es (i+1)
  |none=>none
def Wt(h:List qj)(m:qd):Option (List (Nat×qd×qd)):=match m with
 |.nilmap=>some []
 |.mp id=>match h[id]? with
  |some (.map es _)=>some es
  |_=>none
 |_=>none
def kC(h:List qj)(sh:Qp)(zero:qd)(ok:Bool)(m key:qd):Option qd:=match Wt h m with
 |some es=>match QO sh key es 0 with
  |some (some (_,v))=>some (if ok then .tup [v.dim,.bool true]else v.dim)
  |some none=>some (if ok then .tup [zero.dim,.bool false]else zero.dim)
  |none=>none
 |none=>none
def D5(base k:Nat)(x y:qd)(h:List qj):Option (qd×List qj×Bool):=match gX k h y with
 |none=>none
 |some (ys,m)=>
  if !(ys.all qd.storable)then none else
  match x with
  |.lst xs .full=>
   if m=0 then some (x,h,false)else
   match gX k h x with
   |some (cs,n)=>if n+m<=kJ then some (.sl h.length 0 (n+m) (n+m) k,h++[.cells (cs++ys)],false)else none
   |none=>none
  |.sl id o len cap more=>
   if m=0 then some (x,h,false)else
   if len+m<=kJ then
    if len+m<=cap then
     match Fh base h id (o+len*k) ys with
     |some (h',e)=>some (.sl id o (len+m) cap more,h',e)
     |none=>none
    else
     match gX k h x,h[id]? with
     |some (cs,_),some (.cells ds)=>
      if more=0 then some (.sl h.length 0 (len+m) (len+m) k,h++[.cells (cs++ys)],false)
      else if o=0/\more=k/\cap*k=ds.length then some (.sl h.length 0 (len+m) (len+m) k,h.set id .dead++[.cells (cs++ys)],false)else none
     |_,_=>none
   else none
  |.nils=>if m=0 then some (x,h,false)else if m<=kJ then some (.sl h.length 0 m m k,h++[.cells ys],false)else none
  |_=>none
def elems(k len:Nat)(cs:List qd):List qd:=(List.range len).map λi=>if k=1 then(cs.getD i .undef)else .agg ((cs.drop (i*k)).take k)
def frz(h:List qj)(x:qd):Option (qd×List qj):=match x with
 |.sl id o len cap _=>match h[id]? with
  |some (.cells ds)=>
   if o=0/\len*(ds.length / cap)<=ds.length/\(ds.map qd.dim).all qd.storable=true then some (.lst (elems (ds.length / cap) len (ds.map qd.dim)) .no,h.set id .dead)else none
  |_=>none
 |_=>none
def zr:List qd->List qj->List qd×List qj
 |[],h=>([],h)
 |x::xs,h=>match frz h x with
  |some (y,h')=>(y::(zr xs h').1,(zr xs h').2)
  |none=>(x::(zr xs h).1,(zr xs h).2)
def yx(h:List qj):qd->qd×List qj×Bool
 |.agg cs=>(.agg (zr cs h).1,(zr cs h).2,false)
 |v=>match frz h v with
  |some r=>(r.1,r.2,false)
  |none=>(v,h,false)
def hop(base:Nat)(o:HOp)(as:List qd)(h:List qj):Option (qd×List qj×Bool):=match o,as with
 |.mk k zero,[.int _ l,.int _ c]=>if 0<=l/\l<=c/\c<=2 ^ 24/\zero.length=k then some (.sl h.length 0 l.toNat c.toNat 0,h++[.cells (((List.replicate c.toNat zero).flatten).map qd.dim)],false)else none
 |.lit k zero len ixs,vs=>
  if zero.length=k/\len*k<=2 ^ 24 then
   match qH ((List.replicate len zero).flatten) ((ixs.zip vs).map λp=>(p.1*k,k,p.2))with
   |some cs=>some (.sl h.length 0 len len 0,h++[.cells (cs.map qd.dim)],false)
   |none=>none
  else none
 |.app k,[x,y]=>D5 base k x y h
 |.sub3 k,[x,.int _ lo,.int _ hi,.int _ mx]=>
  if 0<=lo/\lo<=hi/\hi<=mx then
   match x with
   |.lst xs _=>if mx<=xs.length then(if mx=lo then some (.lst [] .full,h,false)else if lo=0/\hi=mx/\mx=xs.length then some (.lst xs .full,h,false)else none)else none
   |.sl id o _ cap _=>
    if mx<=cap then
     if mx=lo then some (.lst [] .full,h,false)else some (.sl id (o+lo.toNat*k) (hi.toNat - lo.toNat) (mx.toNat - lo.toNat) 0,h,false)
    else none
   |_=>none
  else none
 |.mkm,[]=>some (.mp h.length,h++[.map [] 0],false)
 |.mup sh,[.mp id,key,v]=>
  match h[id]? with
  |some (.map es c)=>match QO sh key es 0 with
   |some (some (i,_))=>some (.tup [],h.set id (.map (es.modify i λe=>(e.1,key,v)) c),young base id [key,v])
   |some none=>some (.tup [],h.set id (.map (es++[(c,key,v)]) (c+1)),young base id [key,v])
   |none=>none
  |_=>none
 |.ment sh zero,[.mp id,key]=>
  match h[id]? with
  |some (.map es c)=>match QO sh key es 0 with
   |some (some (i,v))=>match es[i]? with
    |some e=>some (.tup [v.dim,.int .i64 e.1],h.set id (.map (es.modify i λe=>(e.1,key,e.2.2)) c),young base id [key])
    |none=>none
   |some none=>some (.tup [zero.dim,.int .i64 c],h.set id (.map (es++[(c,key,zero.dim)]) (c+1)),young base id [key,zero.dim])
   |none=>none
  |_=>none
 |.mst,[.mp id,.int _ n,v]=>
  match h[id]? with
  |some (.map es c)=>match es.findIdx? (λe=>(e.1:Int)==n)with
   |some i=>some (.tup [],h.set id (.map (es.modify i λe=>(e.1,e.2.1,v)) c),young base id [v])
   |none=>none
  |_=>none
 |.mlen,[m]=>match m with
  |.nilmap=>some (.int .i64 0,h,false)
  |.mp id=>match h[id]? with
   |some (.map es _)=>some (.int .i64 es.length,h,false)
   |_=>none
  |_=>none
 |.mkm,[.int _ _]=>some (.mp h.length,h++[.map [] 0],false)
 |.del sh,[m,key]=>match m with
  |.nilmap=>if QF sh key then some (.tup [],h,false)else none
  |.mp id=>match h[id]? with
   |some (.map es c)=>match QO sh key es 0 with
    |some (some (i,_))=>some (.tup [],h.set id (.map (es.eraseIdx i) c),false)
    |some none=>some (.tup [],h.set id (.map es c),false)
    |none=>none
   |_=>none
  |_=>none
 |.rng,[m]=>match m with
  |.nilmap=>some (.ptr h.length 0,h++[.iter .nilmap 0 [] 0],false)
  |.mp id=>match h[id]? with
   |some (.map _ c)=>some (.ptr h.length 0,h++[.iter (.mp id) c [] c],false)
   |_=>none
  |_=>none
 |.nxt,[.ptr it 0]=>match h[it]? with
  |some (.iter .nilmap _ _ _)=>some (.tup [.bool false],h,false)
  |some (.iter (.mp id) since seen last)=>match h[id]? with
   |some (.map es c)=>
    if !seen.isEmpty&&!es.isEmpty&&es.all (λe=>Nat.ble last e.1)then none else
    match es.filter (λe=>!seen.contains e.1)with
    |[]=>some (.tup [.bool false],h,false)
    |[e]=>if Nat.blt e.1 since then some (.tup [.bool true,e.2.1.dim,e.2.2.dim],h.set it (.iter (.mp id) since (seen++[e.1]) c),false)else none
    |_=>none
   |_=>none
  |_=>none
 |.ent,[.ptr it 0]=>match h[it]? with
  |some (.iter (.mp id) _ seen last)=>match h[id]?,seen.getLast? with
   |some (.map es c),some b=>if c=last then match es.find? (λe=>e.1==b)with
    |some e=>some (.tup [e.2.1.dim,e.2.2.dim],h,false)
    |none=>none
    else none
   |_,_=>none
  |_=>none
 |.ldz k,[p]=>(Xi h p k).map (yx h)
 |.bld t e,[]=>some (.ptr h.length 0,h++[.bld t e []],false)
 |_,_=>none
def qO(base:Nat)(call:Call)(p:XT)(dst:Option Nat)(o:AOp)(s:St):Option (Ex×St):=match o with
 |.asg x=>some (.nor,{s with t:=put dst (raw s.t x) (Z5 s.t x)})
 |.new cs=>some (.nor,{s with t:=put dst (.ptr s.h.length 0) s.t,h:=s.h++[.cells (cs.map qd.dim)]})
 |.box k x=>let vs:=(ev s.t x).cells.map qd.dim;if vs.length=k/\vs.all qd.storable then some (.nor,{s with t:=put dst (.ptr s.h.length 0) s.t,h:=s.h++[.cells vs]})else none
 |.ld k a=>(Xi s.h (ev s.t a) k).map λv=>(.nor,{s with t:=put dst v s.t})
 |.st k a x=>
  match ev s.t a with
  |.ptr id o=>
   match s.h[id]? with
   |some (.cells cs)=>
    let v:=raw s.t x;let vs:=match k with|none=>[v]|some _=>v.dim.cells.map qd.dim
    if vs.length=k.getD 1/\o+vs.length<=cs.length/\vs.all qd.storable then
     some (.nor,{t:=put dst .undef (Z5 s.t x),h:=s.h.set id (.cells (splice cs o vs)),e:=s.e||!(Nat.ble base id||qm (id+1) vs)})
    else none
   |_=>none
  |_=>none
 |.call f args=>
  match call (ev s.t f) (args.map (ev s.t)) s.h with
  |some (.ret v,h,e)=>some (.nor,{t:=put dst v.dim s.t,h,e:=s.e||e})
  |some (.pan v,h,e)=>some (.pan v,{s with h,e:=s.e||e})
  |none=>none
 |.app k x y=>
  match raw s.t x,tail (ev s.t y)with
  |.lst xs f,some ys=>
   if ys.isEmpty then some (.nor,{s with t:=put dst (qd.lst xs f).dim s.t})
   else if xs.length+ys.length<=kJ/\ys.all (λy=>y.cells.length==k&&y.cells.all qd.storable)/\xs.head?.all (λy=>y.cells.length==k)then
    match f with
    |.full=>some (.nor,{s with t:=put dst (.lst (xs++ys) (.own k)) s.t})
    |_=>
     match gu k p x s with
     |some (xs,s)=>if xs.head?.all (λy=>y.cells.length==k)then some (.nor,{s with t:=put dst (.lst (xs++ys) (.own k)) s.t})else none
     |none=>none
   else none
  |_,_=>none
 |.pan x=>match ev s.t x with
  |.iface u v=>some (.pan (.iface u v),s)
  |_=>none
 |.lk sh z ok m key=>(kC s.h sh z ok (ev s.t m) (ev s.t key)).map λv=>(.nor,{s with t:=put dst v s.t})
 |.hx o as=>(hop base o (as.map (ev s.t)) s.h).map λr=>(.nor,{t:=put dst r.1.dim s.t,h:=r.2.1,e:=s.e||r.2.2})
 |o=>(pureV s.t o).map λv=>(.nor,{s with t:=put dst v s.t})
def wanted(t:List qd)(g:Option (Nat×Bool)):Option Bool:=match g with
 |none=>some true
 |some (j,b)=>match t.getD j .undef with
  |.bool c=>some (c==b)
  |.tup []=>some false
  |_=>none
def Qf(base:Nat)(call:Call):XT->List Zz->St->Option (Ex×St)
 |_,[],s=>some (.nor,s)
 |p,o::os,s=>
  match wanted s.t o.guard with
  |some true=>
   match qO base call p o.dst o.op s with
   |some (.nor,s)=>Qf base call (Qa p o) os s
   |r=>r
  |some false=>Qf base call (Qa p {o with op:=.pick (.c .undef) (.c .undef) (.c .undef)}) os {s with t:=put o.dst (.tup []) s.t}
  |none=>none
inductive Chk where
 |ld (a:qd) (k:Option Nat) (v:qd)
 |box (id:Nat) (cs:List qd)
 |lk (sh:Qp) (zero:qd) (ok:Bool) (m key v:qd)
 deriving Inhabited
def Chk.ok(h:List qj):Chk->Bool
 |.ld a k v=>match Xi h a k with
  |some w=>v.beq w
  |none=>false
 |.box id cs=>match h[id]? with
  |some (.cells ds)=>qaD cs ds
  |_=>false
 |.lk sh z ok m key v=>match kC h sh z ok m key with
  |some w=>v.beq w
  |none=>false
def Dl(s:St)(o:AOp):Option Chk:=match o with
 |.ld k a=>(Xi s.h (ev s.t a) k).map (.ld (ev s.t a) k)
 |.lk sh z ok m key=>(kC s.h sh z ok (ev s.t m) (ev s.t key)).map (.lk sh z ok (ev s.t m) (ev s.t key))
 |.new cs=>some (.box s.h.length (cs.map qd.dim))
 |.box _ x=>some (.box s.h.length ((ev s.t x).cells.map qd.dim))
 |_=>none
def X7(ms:List Nat)(t:List qd):List qd:=t.mapIdx λi x=>if ms.contains i then .undef else x
def qZ(base:Nat)(call:Call)(dsts:List Nat):List Zl->List (Nat×Chk)->St->Option (Ex×St)
 |[],_,s=>some (.nor,s)
 |d::ds,pend,s=>
  match wanted s.t d.o.guard with
  |some true=>
   match qO base call [] d.o.dst d.o.op s with
   |some (.nor,s')=>
    if d.o.op.effs then
     let pend':=pend.filter λc=>!d.cl.testBit c.1
     if pend'.all (λc=>c.2.ok s'.h)then qZ base call dsts ds pend' s' else none
    else
     match Dl s d.o.op with
     |some c=>qZ base call dsts ds ((d.ix,c)::pend) s'
     |none=>qZ base call dsts ds pend s'
   |some (.pan v,s')=>if d.o.op.effs then some (.pan v,{s' with t:=X7 dsts s'.t})else none
   |_=>none
  |some false=>qZ base call dsts ds pend {s with t:=put d.o.dst (.tup []) s.t}
  |none=>none
def qq7:List (Nat×qd×qd)->List (Nat×qd×qd)->Bool
 |[],[]=>true
 |x::xs,y::ys=>x.1==y.1&&x.2.1.beq y.2.1&&x.2.2.beq y.2.2&&qq7 xs ys
 |_,_=>false
def qj.beq:qj->qj->Bool
 |.cells a,.cells b=>qaD a b
 |.map a c,.map b d=>c==d&&qq7 a b
 |.iter m a l b,.iter m' a' l' b'=>m.beq m'&&a==a'&&l==l'&&b==b'
 |.bld a c s,.bld b d u=>Nat.beq a b&&(Nat.beq c d&&s==u)
 |.dead,.dead=>true
 |_,_=>false
def apart(t:List qd)(a b:Zl):Bool:=(a.o.guard.isNone&&b.o.guard.isNone&&a.o.dst.isNone&&b.o.dst.isNone)&&match a.o.op,b.o.op with
 |.st _ p x,.st _ q y=>x.slot.all (λi=>!y.slot.contains i)&&(match ev t p,ev t q with
  |.ptr i _,.ptr j _=>!Nat.beq i j
  |_,_=>false)
 |_,_=>false
def qne(a b:Zl)(r0 r1 r2:Option (Ex×St)):Option (Ex×St):=match r0,r1,r2 with
 |some (.nor,s0),some (.nor,s1),some (.nor,_)=>if apart s0.t a b then some (.nor,s1)else none
 |_,_,_=>none
theorem qgg{a b:Zl}{r0 r1 r2:Option (Ex×St)}{x:Ex}{s':St}(h:qne a b r0 r1 r2=some (x,s')):x=.nor/\r1=some (.nor,s')/\(∃s2,r2=some (.nor,s2))/\∃s0,r0=some (.nor,s0)/\apart s0.t a b=true:=by
 unfold qne at h;split at h
 ·split at h;·rename_i U;cases h;exact⟨rfl,rfl,⟨_,rfl⟩,_,rfl,U⟩
  ·cases h
 ·cases h
def iter(f:St->Option (Ex×St)):Nat->St->Option (Ex×St)
 |0,_=>none
 |n+1,s=>match f s with
  |some (.nor,s)=>iter f n s
  |r=>r
def Qw(n base:Nat)(call:Call):qS->St->Option (Ex×St)
 |.skip,s=>some (.nor,s)
 |.reg ops,s=>Qf base call [] ops s
 |.draw ops,s=>qZ base call (ops.filterMap (·.o.dst)) ops [] s
 |.draw2 c a b r,s=>qne a b (qZ base call ((c++a::b::r).filterMap (·.o.dst)) (c++[a,b]) [] s) (qZ base call ((c++a::b::r).filterMap (·.o.dst)) (c++a::b::r) [] s) (qZ base call ((c++a::b::r).filterMap (·.o.dst)) (c++b::a::r) [] s)
 |.seq a b,s=>match Qw n base call a s with
  |some (.nor,s)=>Qw n base call b s
  |r=>r
 |.cond c a b,s=>match ev s.t c with
  |.bool true=>Qw n base call a s
  |.bool false=>Qw n base call b s
  |_=>none
 |.block id b,s=>match Qw n base call b s with
  |some (.exit j,s)=>if j=id then some (.nor,s)else some (.exit j,s)
  |r=>r
 |.loop b,s=>iter (Qw n base call b) n s
 |.exit id,s=>some (.exit id,s)
 |.ret,s=>some (.ret,s)
 |.rfun f ps asg body,s=>
  match ev s.t f with
  |.fn g first cap=>
   match call (.fn g first cap) [.yld s.h.length] (s.h++[.loop (s.t.map qd.dim) ps asg body .ready none])with
   |some (.ret _,h,e)=>
    match h[s.h.length]? with
    |some (.loop t ps' asg' body' st pend)=>
     if st=.busy then none else
     let s':St:={s with h:=h.set s.h.length (.loop t ps' asg' body' .exhausted pend),e:=s.e||e}
     match pend with
     |none=>some (.nor,s')
     |some .ret=>some (.ret,s')
     |some (.exit id)=>some (.exit id,s')
    |_=>none
   |some (.pan v,h,e)=>some (.pan v,{s with h,e:=s.e||e})
   |none=>none
  |_=>none
def ZC(s:St):List qaB->Option (List qd)
 |[]=>some []
 |.tmp i::rs=>match ZC s rs with
  |some vs=>some ((s.t.getD i .undef).dim::vs)
  |none=>none
 |.cell a k::rs=>
  match Xi s.h (s.t.getD a .undef) k,ZC s rs with
  |some v,some vs=>some (v::vs)
  |_,_=>none
def QG:List qd->qd
 |[v]=>v
 |vs=>.tup vs
def QB(n:Nat):List (Nat×qd×qd)->Bool
 |[]=>true
 |x::xs=>x.2.1.lower n&&x.2.2.lower n&&QB n xs
def qj.lower(n:Nat):qj->Bool
 |.cells cs=>qm n cs
 |.loop t _ _ _ _ _=>qm n t
 |.map es _=>QB n es
 |.iter m _ _ _=>m.lower n
 |.bld _ _ _=>true
 |.dead=>true
def Qe(base:Nat)(r:X9)(h:List qj)(e:Bool):X9×List qj×Bool:=if(!e||base==0)&&(match r with|.ret v=>v.lower base|.pan v=>v.lower base)then(r,h.take base,e)else(r,h,e)
abbrev qaC:=FuncId->Option (Call->List qd->List qj->Option (X9×List qj×Bool))
def qaz(t:List qd):List Nat->List qd->List qd
 |p::ps,a::as=>qaz (t.set p a) ps as
 |_,_=>t
def round(n:Nat)(call:Call)(l:Nat)(args:List qd)(h:List qj):Option (X9×List qj×Bool):=match h[l]? with
 |some (.loop t ps asg body _ _)=>
  if args.length≠ps.length then none else
  let base:=h.length
  match Qw n base call asg ⟨qaz t ps (args.map qd.dim),h,false⟩with
  |some (.nor,s)=>
   match s.h[l]? with
   |some (.loop t1 ps1 asg1 body1 .ready pend)=>
    match Qw n base call body {s with h:=s.h.set l (.loop t1 ps1 asg1 body1 .busy pend)}with
    |some (x,s)=>
     match s.h[l]? with
     |some (.loop t2 ps2 asg2 body2 _ _)=>
      match x with
      |.nor=>some (Qe base (.ret (.bool true)) (s.h.set l (.loop t2 ps2 asg2 body2 .ready none)) s.e)
      |.ret=>some (Qe base (.ret (.bool false)) (s.h.set l (.loop t2 ps2 asg2 body2 .done (some .ret))) s.e)
      |.exit id=>some (Qe base (.ret (.bool false)) (s.h.set l (.loop t2 ps2 asg2 body2 .done (some (.exit id)))) s.e)
      |.pan _=>none
     |_=>none
    |none=>none
   |_=>none
  |_=>none
 |_=>none
def run(F:FuncId->Option qE)(X:qaC):Nat->Call
 |0=>λ_ _ _=>none
 |n+1=>λfv args h=>
  match fv with
  |.fn f first cap=>
   match X f with
   |some g=>g (run F X n) (first++args++cap) h
   |none=>
    match F f with
    |none=>none
    |some fn=>
     let as:=(first++args++cap).map qd.dim
     match Qw n h.length (run F X n) fn.code ⟨as++List.replicate (fn.ntmps - as.length) (.tup []),h,false⟩with
     |some (.nor,s)|some (.ret,s)=>
      match ZC s fn.results with
      |some vs=>some (Qe h.length (.ret (QG vs)) s.h s.e)
      |none=>none
     |some (.pan v,s)=>some (Qe h.length (.pan v) s.h s.e)
     |_=>none
  |.yld l=>round n (run F X n) l args h
  |_=>none
def WJ:Value->Option qd
 |.bool b=>some (.bool b)
 |.int k n=>some (.int k n)
 |.string s=>some (.str s.data.toList)
 |.pointer none=>some .nilptr
 |.slice none l c=>if l=0/\c=0 then some (.lst [] .full)else none
 |.nilFunc=>some .nilfunc
 |.nilIface=>some .niliface
 |.map none=>some .nilmap
 |.func (.func f) a b=>if a.isEmpty&&b.isEmpty then some (.fn f [] [])else none
 |_=>none
def DK:Value->Option qd
 |.agg cs=>(cs.toList.mapM WJ).map .agg
 |.tuple vs=>if vs.isEmpty then some (.tup [])else none
 |v=>WJ v
def Lu:BinOp->Bool
 |.neq=>true
 |_=>false
def qr3:BinOp->Bool
 |.eql|.neq=>true
 |_=>false
def qr4:TypeDesc->Bool
 |.slice _|.string=>true
 |_=>false
def quj:Option TypeDesc->Bool
 |some (.int .u8)=>true
 |_=>false
def isC:Operand->Bool
 |.const _=>true
 |_=>false
section
variable(P:Program)(gl:Nat->Option (List qd))
def opd:Operand->Option qM
 |.tmp t=>some (.t t)
 |.const v=>(DK v).map .c
 |.global g=>(gl g).map λcs=>.c (.iptr cs 0)
 |.func f=>some (.c (.fn f [] []))
def qkq(xs:Array Operand):Option (List qM):=xs.toList.mapM (opd gl)
def tyk(t:TypeId):Option (Option Nat):=match P.underlying t with
 |some (.struct _)|some (.array ..)=>(P.info? t).map λi=>some i.size
 |some (.tuple _)|some .invalid|none=>none
 |some _=>some none
def QI(t:TypeId):Option qd:=match P.info? t with
 |some i=>i.zero.bind DK
 |none=>none
def kM(t:TypeId):Option Nat:=(P.info? t).map (·.size)
def zM(fs:Array Field):List (Nat×Operand)->Option (List (Nat×Nat×qM))
 |[]=>some []
 |(i,x)::rest=>
  match fs[i]?,opd gl x,zM fs rest with
  |some f,some x,some r=>match kM P f.type with
   |some s=>some ((f.offset,s,x)::r)
   |none=>none
  |_,_,_=>none
def zL(k:Nat):List (Nat×Operand)->Option (List (Nat×Nat×qM))
 |[]=>some []
 |(i,x)::rest=>
  match opd gl x,zL k rest with
  |some x,some r=>some ((i*k,k,x)::r)
  |_,_=>none
def Lj:List (Nat×Operand)->Option (List (Nat×qM))
 |[]=>some []
 |(i,x)::rest=>
  match opd gl x,Lj rest with
  |some x,some r=>some ((i,x)::r)
  |_,_=>none
def Wy:Option Operand->Option (Option qM)
 |none=>some none
 |some x=>(opd gl x).map some
def Dn(o:Oper):Option AOp:=match o.op with
 |.move x=>(opd gl x).map .mov
 |.assign x=>(opd gl x).map .asg
 |.pick c a b=>do pure (.pick (<-opd gl c) (<-opd gl a) (<-opd gl b))
 |.alloc e=>do pure (.new (<-QI P e).cells)
 |.box e x=>do pure (.box (<-kM P e) (<-opd gl x))
 |.build t ps=>do
  let z <-QI P t
  match P.underlying t with
  |some (.struct fs)=>if fs.all λf=>(kM P f.type).isSome then pure (.build z.cells (<-zM P gl fs ps.toList))else none
  |some (.array _ e)=>pure (.build z.cells (<-zL gl (<-kM P e) ps.toList))
  |_=>none
 |.buildSlice t n ps=>do
  match P.underlying t with
  |some (.slice e)=>do
   let k <-kM P e
   let z <-QI P e
   if k=0 then none else pure (.list k z.cells n (<-Lj gl ps.toList))
  |_=>none
 |.load t a=>do pure (.ld (<-tyk P t) (<-opd gl a))
 |.store t a x=>do
  let k <-tyk P t
  if kM P t=some (k.getD 1)then pure (.st k (<-opd gl a) (<-opd gl x))else none
 |.nilCheck x=>(opd gl x).map .nilc
 |.binOp op t x y _=>
  match opd gl x,opd gl y with
  |some ax,some ay=>
   if qr3 op then
    match P.underlying t with
    |some .bool=>some (.eqb (Lu op) ax ay)
    |some (.int _)|some .string=>some (.bin op ax ay)
    |some (.pointer e)=>if(kM P e).getD 0=0 then none else some (.eqi 0 (Lu op) ax ay)
    |some (.interface _)=>if isC x||isC y then some (.eqi 1 (Lu op) ax ay)else none
    |some (.func ..)=>some (.eqi 2 (Lu op) ax ay)
    |some (.map ..)=>some (.eqi 3 (Lu op) ax ay)
    |_=>none
   else some (.bin op ax ay)
  |_,_=>none
 |.unOp op _ x=>(opd gl x).map (.un op)
 |.convert s d x=>do
  let x <-opd gl x
  match P.underlying s,P.underlying d with
  |some (.int _),some (.int k)=>pure (.cvi k x)
  |some .string,some (.slice e)=>if quj (P.underlying e)then pure (.cvb x)else none
  |_,_=>none
 |.makeInterface t x=>
  match P.underlying t with
  |some (.interface _)|none=>none
  |_=>(opd gl x).map (.mkI t)
 |.makeFunc (.func f) a b=>do pure (.mkF f (<-qkq gl a) (<-qkq gl b))
 |.slice t x lo hi none=>do
  match P.underlying t with
  |some .string=>pure (.subS (<-opd gl x) (<-Wy gl lo) (<-Wy gl hi))
  |some (.slice e)=>pure (.subL (<-kM P e) (<-opd gl x) (<-Wy gl lo) (<-Wy gl hi))
  |_=>none
 |.fieldAddr s x i=>
  match P.underlying s with
  |some (.struct fs)=>match fs[i]? with
   |some f=>if(kM P f.type).getD 0=0 then none else(opd gl x).map (.fa f.offset)
   |none=>none
  |_=>none
 |.field s x i=>do
  match P.underlying s with
  |some (.struct fs)=>match fs[i]? with
   |some f=>pure (.fld f.offset (<-tyk P f.type) (<-opd gl x))
   |none=>none
  |_=>none
 |.indexAddr t x i=>do
  match P.underlying t with
  |some (.slice e)=>pure (.ixaL (<-kM P e) (<-opd gl x) (<-opd gl i))
  |some (.array n e)=>pure (.ixaA n (<-kM P e) (<-opd gl x) (<-opd gl i))
  |_=>none
 |.index t x i=>do
  match P.underlying t with
  |some .string=>pure (.ixS (<-opd gl x) (<-opd gl i))
  |some (.array n e)=>do
   let k <-tyk P e
   if kM P e=some (k.getD 1)then pure (.ixA n k (<-opd gl x) (<-opd gl i))else none
  |_=>none
 |.typeAssert x _ t true=>do
  match P.underlying t with
  |some (.interface _)|none=>none
  |_=>pure (.tas t (<-QI P t) (<-opd gl x))
 |.extract x i=>do pure (.ext (<-opd gl x) i)
 |.call c=>
  match c.callee with
  |.value f=>do pure (.call (<-opd gl f) (<-qkq gl c.args))
  |.invoke _ _=>none
  |.builtin b=>
   match b,c.args.toList,c.argTypes.toList with
   |.len,[x],[t]=>match P.underlying t with
    |some .string=>(opd gl x).map (.len true)
    |some (.slice _)=>(opd gl x).map (.len false)
    |some (.array n _)=>some (.mov (.c (.int .i64 n)))
    |_=>none
   |.append,[x,y],[t,u]=>match P.underlying t,P.underlying u with
    |some (.slice e),some u=>if qr4 u=false then none else do
     let i <-P.info? e
     let z <-QI P e
     if i.size=0\/i.bytes > 65536\/z.cells.length≠i.size then none else pure (.app i.size (<-opd gl x) (<-opd gl y))
    |_,_=>none
   |.max,[x,y],_=>do pure (.mm true (<-opd gl x) (<-opd gl y))
   |.min,[x,y],_=>do pure (.mm false (<-opd gl x) (<-opd gl y))
   |_,_,_=>none
 |.panic x=>(opd gl x).map .pan
 |_=>none
def qu6(t:TypeId)(d:Option Nat):Bool:=(gl (1000000+t)).isSome||((gl (1200000+t)).isSome&&(match d with|some i=>(gl (1300000+i)).isSome|none=>false))||(match d with|some i=>(gl (5000000+t*1000+i)).isSome|none=>false)
def stands(t:TypeId)(a:Operand)(d:Option Nat):Bool:=((gl (2000000+t)).isSome&&(match a with|.tmp i=>(gl (2100000+i)).isSome|_=>false))||(match d,a with|some i,.tmp j=>(gl (1000000000+t*1000000+i*1000+j)).isSome|_,_=>false)
def Ld:Nat->TypeId->Nat->Option (List (Nat×SK))
 |0,_,_=>none
 |d+1,t,off=>
  match P.underlying t with
  |some .bool=>if P.cellsOf t=1 then some [(off,.b)]else none
  |some (.int k)=>if P.cellsOf t=1 then some [(off,.i k)]else none
  |some .string=>if P.cellsOf t=1 then some [(off,.s)]else none
  |some (.struct fs)=>if fs.all (λf => f.name != "_" &&decide (f.offset+P.cellsOf f.type<=P.cellsOf t))then(fs.toList.mapM λf => Ld d f.type (off+f.offset)).map List.flatten else none
  |_=>none
def Wn:Nat:=8
def Xm(d:Option TypeDesc):Bool:=match d with
 |some (.struct _)=>true
 |_=>false
def QL(t:TypeId):Option Qp:=if P.keyTypeAt Wn t&&P.tiled Wn t then(Ld P Wn t 0).map λls=>⟨Xm (P.underlying t),P.cellsOf t,ls⟩else none
def F2(e:TypeId):Option (Nat×List qd):=match P.info? e,QI P e with
 |some i,some z=>if i.size=0\/i.bytes > 65536\/z.cells.length≠i.size then none else some (i.size,z.cells)
 |_,_=>none
def qdC(t:TypeId):Option qd:=match P.info? t with
 |some i=>match i.zero with
  |some (.slice none 0 0)=>some .nils
  |z=>z.bind DK
 |none=>none
def qvY(t:TypeId):Nat:=match P.underlying t with
 |some (.struct fs)=>match fs.toList with
  |[_,f]=>match P.underlying f.type with
   |some (.slice e)=>e
   |_=>0
  |_=>0
 |_=>0
def qtb(t:TypeId):Option Nat:=match gl (3000000+t),P.info? t with
 |some [],some i=>match i.zero with
  |some (.agg a)=>match a.toList with
   |[.pointer none,.slice none 0 0]=>some (qvY P t)
   |_=>none
  |_=>none
 |_,_=>none
def FY(o:Oper):Option AOp:=match o.op with
 |.alloc t=>match qtb P gl t with
  |some e=>some (.hx (.bld t e) [])
  |none=>none
 |.makeSlice t l c=>do
  match P.underlying t with
  |some (.slice e)=>do
   let(k,z) <-F2 P e
   pure (.hx (.mk k z) [<-opd gl l,<-opd gl c])
  |_=>none
 |.buildSlice t n ps=>
  if qu6 gl t o.dst&&n !=0 then do
   match P.underlying t with
   |some (.slice e)=>do
    let(k,z) <-F2 P e
    let qs <-Lj gl ps.toList
    pure (.hx (.lit k z n (qs.map (·.1))) (qs.map (·.2)))
   |_=>none
  else none
 |.makeMap _ none=>some (.hx .mkm [])
 |.lookup t x i ok=>do
  match P.underlying t with
  |some (.map kt et)=>do pure (.lk (<-QL P kt) (<-qdC P et) ok (<-opd gl x) (<-opd gl i))
  |_=>none
 |.mapUpdate t m k v=>do
  match P.underlying t with
  |some (.map kt _)=>do pure (.hx (.mup (<-QL P kt)) [<-opd gl m,<-opd gl k,<-opd gl v])
  |_=>none
 |.mapEntry t m k=>do
  match P.underlying t with
  |some (.map kt et)=>do pure (.hx (.ment (<-QL P kt) (<-QI P et)) [<-opd gl m,<-opd gl k])
  |_=>none
 |.entryStore _ m st v=>do pure (.hx .mst [<-opd gl m,<-opd gl st,<-opd gl v])
 |.load t a=>if stands gl t a o.dst then do pure (.hx (.ldz (<-tyk P t)) [<-opd gl a])else none
 |.binOp op t x y _=>if qr3 op&&Xm (P.underlying t)&&!(P.eqGuardType P.depth t)then do pure (.eqs (<-QL P t) (Lu op) (<-opd gl x) (<-opd gl y))else none
 |.call c=>
  match c.callee with
  |.builtin b=>
   match b,c.args.toList,c.argTypes.toList with
   |.append,[x,y],[t,u]=>
    if qu6 gl t o.dst then
     match P.underlying t,P.underlying u with
     |some (.slice e),some u=>if qr4 u=false then none else do
      let(k,_) <-F2 P e
      pure (.hx (.app k) [<-opd gl x,<-opd gl y])
     |_,_=>none
    else none
   |_,_,_=>none
  |_=>none
 |_=>none
def XP(o:Oper):Option AOp:=match FY P gl o with
 |some x=>some x
 |none=>Dn P gl o
def Xz(ops:Array Oper)(o:Oper):Option Zz:=do
 let op <-XP P gl o
 match o.guard with
 |none=>pure ⟨o.dst,op,none⟩
 |some (j,b)=>do
  let d <-(ops[j]?).bind (·.dst)
  pure ⟨o.dst,op,some (d,b)⟩
def DU(o:Oper):List Nat:=(o.after.toList.filter (Region.binds .any)).map (·.on)
def qlM(cl:List Nat)(es:List Nat):Nat:=es.foldl (λm e=>m ||| 1 <<< e ||| cl.getD e 0) 0
def qgv(ess:List (List Nat)):List Nat:=ess.foldl (λacc es=>acc++[qlM acc es]) []
def qp4(quiet:Bool)(done:Nat):Nat->List Nat->List Bool->Option Nat
 |i,c::cs,e::es=>if !done.testBit i&&(c ||| done)==done&&(!quiet||!e)then some i else qp4 quiet done (i+1) cs es
 |_,_,_=>none
def qu3(cl:List Nat)(effs:List Bool):Nat->Nat->List Nat
 |0,_=>[]
 |f+1,done=>
  match(qp4 true done 0 cl effs).orElse λ_=>qp4 false done 0 cl effs with
  |some i=>i::qu3 cl effs f (done ||| 1 <<< i)
  |none=>[]
def kD(a b:Zl):Bool:=a.ix !=b.ix&&(b.cl.testBit a.ix||(!a.o.op.effs&&(match a.o.dst with|some d=>!b.o.looks.contains d|none=>true)))&&(match b.o.dst with
 |some d=>(b.o.op.effs&&b.cl.testBit a.ix)||(!a.o.looks.contains d&&a.o.dst !=some d)
 |none=>true)
def qd5(x:Nat×Nat)(a b:Zl):Bool:=a.ix !=b.ix&&(a.o.op.effs&&b.o.op.effs&&((x.1==a.ix&&x.2==b.ix)||(x.1==b.ix&&x.2==a.ix)))
def KJ(a:Zl):Bool:=a.o.op.effs||(match a.o.dst with|some d=>!a.o.looks.contains d|none=>true)
def Lw(x:Nat×Nat)(ess:List (List Nat)):List Zl->List Zl->Bool
 |_,[]=>true
 |pre,d::ds=>(ess.getD d.ix []).all (λe=>pre.any (·.ix==e))&&pre.all (λa=>kD a d||qd5 x a d)&&KJ d&&Lw x ess (d::pre) ds
def qiV(as:List Zz)(cl:List Nat)(ord:List Nat):List Zl:=ord.filterMap λi=>(as[i]?).map λa=>⟨a,i,cl.getD i 0⟩
def LA(ops:Array Oper):Option (List Zl):=do
 let as <-ops.toList.mapM (Xz P gl ops)
 let ess:=ops.toList.map DU
 let cl:=qgv ess
 let ds:=qiV as cl (qu3 cl (as.map (·.op.effs)) as.length 0)
 if(List.range ops.size).all (λi=>ds.any (·.ix==i))&&ds.all (λd=>d.cl==qlM cl (ess.getD d.ix []))&&Lw (0,0) ess [] ds then pure ds else none
def comp:Code->Option qS
 |.skip=>some .skip
 |.region _ ops false=>(ops.toList.mapM (Xz P gl ops)).map .reg
 |.region _ ops true=>match LA P gl ops with
  |some ds=>some (.draw ds)
  |none=>none
 |.seq a b=>match comp a,comp b with
  |some x,some y=>some (.seq x y)
  |_,_=>none
 |.cond c a b=>match opd gl c,comp a,comp b with
  |some z,some x,some y=>some (.cond z x y)
  |_,_,_=>none
 |.block id b=>(comp b).map (.block id)
 |.loop b=>(comp b).map .loop
 |.rangeFunc f ps a b=>match opd gl f,comp a,comp b with
  |some z,some x,some y=>some (.rfun z ps.toList x y)
  |_,_,_=>none
 |.exit id=>some (.exit id)
 |.ret=>some .ret
 |_=>none
def Do:ResultVar->Option qaB
 |.tmp t=>some (.tmp t)
 |.cell a t=>(tyk P t).map (.cell a)
def yh(f:Func):Option qE:=match f.body with
 |none=>none
 |some c=>match comp P gl c,f.results.toList.mapM (Do P)with
  |some code,some rs=>some ⟨f.ntmps,rs,code⟩
  |_,_=>none
end
inductive Loc where
 |tmp (i:Nat)
 |cell (id off:Nat)
 deriving DecidableEq,Inhabited
structure qk where
 γ:Nat->Option Nat
 imm:Nat->Nat->Option Value
 ow:Nat->Option Loc
def Ww:Value:=.float .f64 (2 ^ 99)
open Classical in
noncomputable def qaU(v:Option Value):Option Value:=if v=some Ww then none else v
theorem Qi{o:Option Value}{v:Value}:qaU o=some v↔o=some v/\v≠Ww:=by
 unfold qaU;split;·rename_i h;subst h;simp;exact λe=>e.symm
 ·rename_i h;exact⟨λe=>⟨e,λe'=>h (e'▸e)⟩,λe=>e.1⟩
mutual
def qP(γ:Nat->Option Nat)(imm:Nat->Nat->Option Value):qd->Value->Prop
 |.undef,v=>v≠Ww
 |.bool b,v=>v=.bool b
 |.int k n,v=>v=.int k n
 |.str s,v=>∃b:ByteArray,v=.string b/\b.data.toList=s
 |.nilptr,v=>v=.pointer none
 |.ptr i o,v=>∃b,γ i=some b/\v=.pointer (some ⟨b,o,none⟩)
 |.iptr cs o,v=>∃b p,v=.pointer (some ⟨b,p+o,none⟩)/\ZD γ imm cs b p
 |.lst xs f,v=>∃a len cap,v=.slice a len cap/\len=xs.length/\len<=cap/\(f=.full->cap=len)/\(a=none->cap=0)/\(∃k,∀x∈xs,x.cells.length=k)/\
  (xs=[]\/∃b p,a=some ⟨b,p,none⟩/\Zd γ imm xs b p)
 |.nilfunc,v=>v=.nilFunc
 |.fn f as bs,v=>∃x y:Array Value,v=.func (.func f) x y/\qx γ imm as x.toList/\qx γ imm bs y.toList
 |.yld i,v=>∃b,γ i=some b/\v=.func (.yield b) #[] #[]
 |.niliface,v=>v=.nilIface
 |.iface t a,v=>∃x,v=.iface t x/\qP γ imm a x
 |.agg cs,v=>∃x:Array Value,v=.agg x/\qx γ imm cs x.toList
 |.tup cs,v=>∃x:Array Value,v=.tuple x/\qx γ imm cs x.toList
 |.sl i o len cap more,v=>∃b c,γ i=some b/\v=.slice (some ⟨b,o,none⟩) len c/\len<=cap/\cap<=c/\(more=0->c=cap)/\(more≠0->imm b (o+c*more)=some Ww)
 |.mp i,v=>∃b,γ i=some b/\v=.map (some b)
 |.nilmap,v=>v=.map none
 |.nils,v=>v=.slice none 0 0
 |.empt,v=>∃b,v=.slice (some b) 0 0
def qx(γ:Nat->Option Nat)(imm:Nat->Nat->Option Value):List qd->List Value->Prop
 |[],vs=>vs=[]
 |a::as,vs=>∃v rest,vs=v::rest/\qP γ imm a v/\qx γ imm as rest
def ZD(γ:Nat->Option Nat)(imm:Nat->Nat->Option Value):List qd->Nat->Nat->Prop
 |[],_,_=>True
 |c::cs,b,p=>(∃v,imm b p=some v/\qP γ imm c v)/\ZD γ imm cs b (p+1)
def Zd(γ:Nat->Option Nat)(imm:Nat->Nat->Option Value):List qd->Nat->Nat->Prop
 |[],_,_=>True
 |.agg cs::xs,b,p=>ZD γ imm cs b p/\Zd γ imm xs b (p+cs.length)
 |x::xs,b,p=>(∃v,imm b p=some v/\qP γ imm x v)/\Zd γ imm xs b (p+1)
end
theorem Wx{γ:Nat->Option Nat}{imm:Nat->Nat->Option Value}{x:qd}{v:Value}(h:qP γ imm x v):v≠Ww:=by
 rintro rfl
 cases x<;>simp only[qP,Ww]at h<;>first
  |exact h rfl
  |(cases h;done)
  |(obtain⟨_,h⟩:=h;cases h;done)
  |(obtain⟨_,h,_⟩:=h;cases h;done)
  |(obtain⟨_,_,h⟩:=h;cases h;done)
  |(obtain⟨_,_,h,_⟩:=h;cases h;done)
  |(obtain⟨_,_,_,h,_⟩:=h;cases h;done)
theorem qjZ{γ:Nat->Option Nat}{imm:Nat->Nat->Option Value}{x:qd}{v:Value}(h:qP γ imm x v):qP γ imm .undef v:=by simpa only[qP]using Wx h
abbrev qk.V(G:qk):qd->Value->Prop:=qP G.γ G.imm
abbrev qk.VL(G:qk):List qd->List Value->Prop:=qx G.γ G.imm
section
variable{γ:Nat->Option Nat}{imm:Nat->Nat->Option Value}
theorem qx.length:∀{as:List qd}{vs:List Value},qx γ imm as vs->as.length=vs.length
 |[],_,h=>by simp only[qx]at h;simp[h]
 |a::as,vs,h=>by simp only[qx]at h;obtain⟨v,rest,rfl,_,hr⟩:=h;simp[qx.length hr]
theorem qx.get:∀{as:List qd}{vs:List Value}{i:Nat}{a:qd},qx γ imm as vs->as[i]?=some a->∃v,vs[i]?=some v/\qP γ imm a v
 |[],_,i,a,_,h=>by simp at h
 |x::as,vs,i,a,h,ha=>by
  simp only[qx]at h;obtain⟨v,rest,rfl,hv,hr⟩:=h
  cases i with
  |zero=>simp at ha;subst ha;exact⟨v,rfl,hv⟩
  |succ i=>simp at ha;simpa using qx.get hr ha
theorem qx.get'{as:List qd}{vs:List Value}{i:Nat}{v:Value}(h:qx γ imm as vs)(hv:vs[i]?=some v):∃a,as[i]?=some a/\qP γ imm a v:=by have hl:=h.length;have hi:i<as.length:=(by rw[hl];exact(jd.1 hv).1);obtain⟨w,hw,hr⟩:=h.get (jh hi);rw[hv]at hw;cases hw;exact⟨_,jh hi,hr⟩
theorem qx.append:∀{as:List qd}{vs:List Value}{bs:List qd}{ws:List Value},qx γ imm as vs->qx γ imm bs ws->qx γ imm (as++bs) (vs++ws)
 |[],_,_,_,h,k=>by simp only[qx]at h;subst h;simpa using k
 |a::as,vs,_,_,h,k=>by simp only[qx]at h;obtain⟨v,rest,rfl,hv,hr⟩:=h;simp only[List.cons_append,qx];exact⟨v,_,rfl,hv,qx.append hr k⟩
theorem qx.take:∀{as:List qd}{vs:List Value}(n:Nat),qx γ imm as vs->qx γ imm (as.take n) (vs.take n)
 |[],_,n,h=>by simp only[qx]at h;subst h;simp[qx]
 |a::as,vs,0,h=>by simp[qx]
 |a::as,vs,n+1,h=>by simp only[qx]at h;obtain⟨v,rest,rfl,hv,hr⟩:=h;simp only[List.take_succ_cons,qx];exact⟨v,_,rfl,hv,qx.take n hr⟩
theorem qx.drop:∀{as:List qd}{vs:List Value}(n:Nat),qx γ imm as vs->qx γ imm (as.drop n) (vs.drop n)
 |[],_,n,h=>by simp only[qx]at h;subst h;simp[qx]
 |a::as,vs,0,h=>by simpa using h
 |a::as,vs,n+1,h=>by simp only[qx]at h;obtain⟨v,rest,rfl,hv,hr⟩:=h;simpa using qx.drop n hr
theorem qx.set:∀{as:List qd}{vs:List Value}{a:qd}{v:Value}(i:Nat),qx γ imm as vs->qP γ imm a v->qx γ imm (as.set i a) (vs.set i v)
 |[],_,_,_,i,h,_=>by simp only[qx]at h;subst h;simp[qx]
 |x::as,vs,a,v,0,h,k=>by simp only[qx]at h;obtain⟨v',rest,rfl,hv,hr⟩:=h;simp only[List.set_cons_zero,qx];exact⟨v,rest,rfl,k,hr⟩
 |x::as,vs,a,v,i+1,h,k=>by simp only[qx]at h;obtain⟨v',rest,rfl,hv,hr⟩:=h;simp only[List.set_cons_succ,qx];exact⟨v',_,rfl,hv,qx.set i hr k⟩
theorem qx.of_get{as:List qd}{vs:List Value}(hl:as.length=vs.length)(h:∀(i:Nat)(a:qd)(v:Value),as[i]?=some a->vs[i]?=some v->qP γ imm a v):qx γ imm as vs:=by
 induction as generalizing vs with
 |nil=>cases vs with
  |nil=>simp[qx]
  |cons v vs=>simp at hl
 |cons a as ih=>cases vs with
  |nil=>simp at hl
  |cons v vs=>
   simp only[qx]
   exact⟨v,vs,rfl,h 0 a v rfl rfl,ih (by simpa using hl) λi x y hx hy=>h (i+1) x y (by simpa using hx) (by simpa using hy)⟩
theorem qx.replicate(n:Nat){a:qd}{v:Value}(h:qP γ imm a v):qx γ imm (List.replicate n a) (List.replicate n v):=by
 induction n with
 |zero=>simp[qx]
 |succ n ih=>simp only[List.replicate_succ,qx];exact⟨v,_,rfl,h,ih⟩
theorem Qq{a:qd}{v:Value}(h:qP γ imm a v):qP γ imm a.dim v:=by
 cases a<;>try exact h
 rename_i xs f;cases f<;>try exact h
 simp only[qd.dim,qP]at h⊢;obtain⟨a,len,cap,rfl,h1,h2,_,h4,h6,h5⟩:=h;exact⟨a,len,cap,rfl,h1,h2,by simp,h4,h6,h5⟩
theorem vS{xs:List qd}{f:WM}{v:Value}(h:qP γ imm (.lst xs f) v):qP γ imm (.lst xs .no) v:=by simp only[qP]at h⊢;obtain⟨a,len,cap,rfl,h1,h2,_,h4,h6,h5⟩:=h;exact⟨a,len,cap,rfl,h1,h2,by simp,h4,h6,h5⟩
theorem qx.dims:∀{as:List qd}{vs:List Value},qx γ imm as vs->qx γ imm (as.map qd.dim) vs
 |[],_,h=>h
 |a::as,vs,h=>by simp only[qx]at h;obtain⟨v,rest,rfl,hv,hr⟩:=h;simp only[List.map_cons,qx];exact⟨v,rest,rfl,Qq hv,qx.dims hr⟩
theorem ZD.get:∀{cs:List qd}{b p i:Nat}{c:qd},ZD γ imm cs b p->cs[i]?=some c->∃v,imm b (p+i)=some v/\qP γ imm c v
 |[],_,_,i,c,_,h=>by simp at h
 |x::cs,b,p,i,c,h,hc=>by
  simp only[ZD]at h
  cases i with
  |zero=>simp at hc;subst hc;simpa using h.1
  |succ i=>simp at hc;have:=ZD.get h.2 hc;rwa[jt,ju 1 i]at this
theorem ZD.of_get{cs:List qd}{b p:Nat}(h:∀(i:Nat)(c:qd),cs[i]?=some c->∃v,imm b (p+i)=some v/\qP γ imm c v):ZD γ imm cs b p:=by
 induction cs generalizing p with
 |nil=>simp[ZD]
 |cons c cs ih=>simp only[ZD];refine⟨by simpa using h 0 c rfl,ih λi x hx=>?_⟩;have:=h (i+1) x (by simpa using hx);rwa[ju i 1,<-jt]at this
theorem Zd.cons{x:qd}{xs:List qd}{b p:Nat}(h:ZD γ imm x.cells b p)(hs:Zd γ imm xs b (p+x.cells.length)):Zd γ imm (x::xs) b p:=by cases x<;>simp only[qd.cells,ZD,jy,jz]at h hs<;>simp only[Zd]<;>first|exact⟨h,hs⟩|exact⟨h.1,hs⟩
theorem Zd.uncons{x:qd}{xs:List qd}{b p:Nat}(h:Zd γ imm (x::xs) b p):ZD γ imm x.cells b p/\Zd γ imm xs b (p+x.cells.length):=by cases x<;>simp only[Zd]at h<;>simp only[qd.cells,ZD,jy,jz]<;>first|exact h|exact⟨⟨h.1,trivial⟩,h.2⟩
theorem Zd.append{xs ys:List qd}{b p k:Nat}(hk:∀x∈xs,x.cells.length=k)(h:Zd γ imm xs b p)(h':Zd γ imm ys b (p+xs.length*k)):Zd γ imm (xs++ys) b p:=by
 induction xs generalizing p with
 |nil=>simpa using h'
 |cons x xs ih=>obtain⟨h1,h2⟩:=h.uncons;rw[hk x (by simp)]at h2;refine Zd.cons h1 ?_;rw[hk x (by simp)];refine ih (λy hy=>hk y (by simp[hy])) h2 ?_;simp only[jy,Nat.add_mul,Nat.one_mul]at h';rwa[jt,ju k]
theorem Zd.get{xs:List qd}{b p k i:Nat}{x:qd}(hk:∀x∈xs,x.cells.length=k)(h:Zd γ imm xs b p)(hx:xs[i]?=some x):ZD γ imm x.cells b (p+i*k):=by
 induction xs generalizing p i with
 |nil=>simp at hx
 |cons y xs ih=>
  obtain⟨h1,h2⟩:=h.uncons
  cases i with
  |zero=>simp at hx;subst hx;simpa using h1
  |succ i=>simp at hx;rw[hk y (by simp)]at h2;have:=ih (λz hz=>hk z (by simp[hz])) h2 hx;rwa[Nat.add_mul,Nat.one_mul,ju (i*k),<-jt]
theorem Zd.drop{xs:List qd}{b p k:Nat}(hk:∀x∈xs,x.cells.length=k)(h:Zd γ imm xs b p)(l:Nat)(hl:l<=xs.length):Zd γ imm (xs.drop l) b (p+l*k):=by
 induction xs generalizing p l with
 |nil=>simp[Zd]
 |cons y xs ih=>
  obtain⟨h1,h2⟩:=h.uncons
  cases l with
  |zero=>simpa using h
  |succ l=>rw[hk y (by simp)]at h2;have:=ih (λz hz=>hk z (by simp[hz])) h2 l (by simpa using hl);simp only[List.drop_succ_cons];rwa[Nat.add_mul,Nat.one_mul,ju (l*k),<-jt]
theorem Zd.take{xs:List qd}{b p:Nat}(h:Zd γ imm xs b p)(l:Nat):Zd γ imm (xs.take l) b p:=by
 induction xs generalizing p l with
 |nil=>simp[Zd]
 |cons y xs ih=>
  cases l with
  |zero=>simp[Zd]
  |succ l=>obtain⟨h1,h2⟩:=h.uncons;exact Zd.cons h1 (ih h2 l)
end
mutual
theorem Xv{n m:Nat}(U:n<=m):∀(a:qd),a.lower n=true->a.lower m=true
 |.undef,_=>rfl
 |.bool _,_=>rfl
 |.int _ _,_=>rfl
 |.str _,_=>rfl
 |.nilptr,_=>rfl
 |.ptr i o,h=>by simp only[qd.lower,Nat.blt_eq]at h⊢;omega
 |.iptr cs o,h=>by simp only[qd.lower]at h⊢;exact Qd U cs h
 |.lst xs f,h=>by simp only[qd.lower]at h⊢;exact Qd U xs h
 |.nilfunc,_=>rfl
 |.fn f as bs,h=>by simp only[qd.lower,jk]at h⊢;exact⟨Qd U as h.1,Qd U bs h.2⟩
 |.yld i,h=>by simp only[qd.lower,Nat.blt_eq]at h⊢;omega
 |.niliface,_=>rfl
 |.iface t a,h=>by simp only[qd.lower]at h⊢;exact Xv U a h
 |.agg cs,h=>by simp only[qd.lower]at h⊢;exact Qd U cs h
 |.tup cs,h=>by simp only[qd.lower]at h⊢;exact Qd U cs h
 |.sl i _ _ _ _,h=>by simp only[qd.lower,Nat.blt_eq]at h⊢;omega
 |.mp i,h=>by simp only[qd.lower,Nat.blt_eq]at h⊢;omega
 |.nilmap,_=>rfl
 |.nils,_=>rfl
 |.empt,_=>rfl
theorem Qd{n m:Nat}(U:n<=m):∀(as:List qd),qm n as=true->qm m as=true
 |[],_=>rfl
 |a::as,h=>by simp only[qm,jk]at h⊢;exact⟨Xv U a h.1,Qd U as h.2⟩
end
mutual
theorem lower_ex:∀(a:qd),∃n,a.lower n=true
 |.undef=>⟨0,rfl⟩
 |.bool _=>⟨0,rfl⟩
 |.int _ _=>⟨0,rfl⟩
 |.str _=>⟨0,rfl⟩
 |.nilptr=>⟨0,rfl⟩
 |.ptr i o=>⟨i+1,by simp[qd.lower]⟩
 |.iptr cs o=>by obtain⟨n,h⟩:=ZG cs;exact⟨n,by simpa[qd.lower]using h⟩
 |.lst xs f=>by obtain⟨n,h⟩:=ZG xs;exact⟨n,by simpa[qd.lower]using h⟩
 |.nilfunc=>⟨0,rfl⟩
 |.fn f as bs=>by obtain⟨n,h⟩:=ZG as;obtain⟨m,k⟩:=ZG bs;exact⟨max n m,by simp only[qd.lower,jk];exact⟨Qd zo as h,Qd zo bs k⟩⟩
 |.yld i=>⟨i+1,by simp[qd.lower]⟩
 |.niliface=>⟨0,rfl⟩
 |.iface t a=>by obtain⟨n,h⟩:=lower_ex a;exact⟨n,by simpa[qd.lower]using h⟩
 |.agg cs=>by obtain⟨n,h⟩:=ZG cs;exact⟨n,by simpa[qd.lower]using h⟩
 |.tup cs=>by obtain⟨n,h⟩:=ZG cs;exact⟨n,by simpa[qd.lower]using h⟩
 |.sl i _ _ _ _=>⟨i+1,by simp[qd.lower]⟩
 |.mp i=>⟨i+1,by simp[qd.lower]⟩
 |.nilmap=>⟨0,rfl⟩
 |.nils=>⟨0,rfl⟩
 |.empt=>⟨0,rfl⟩
theorem ZG:∀(as:List qd),∃n,qm n as=true
 |[]=>⟨0,rfl⟩
 |a::as=>by obtain⟨n,h⟩:=lower_ex a;obtain⟨m,k⟩:=ZG as;exact⟨max n m,by simp only[qm,jk];exact⟨Xv zo a h,Qd zo as k⟩⟩
end
mutual
theorem qP.mono{γ a7:Nat->Option Nat}{imm a6:Nat->Nat->Option Value}(hi:∀b o v,imm b o=some v->a6 b o=some v)(n:Nat)(U:∀i b,i<n->γ i=some b->a7 i=some b): ∀(a:qd)(v:Value),a.lower n=true->qP γ imm a v->qP a7 a6 a v
 |.undef,v,_,h=>by simpa[qP]using h
 |.bool b,v,_,h=>by simpa[qP]using h
 |.int k m,v,_,h=>by simpa[qP]using h
 |.str s,v,_,h=>by simpa[qP]using h
 |.nilptr,v,_,h=>by simpa[qP]using h
 |.ptr i o,v,hl,h=>by simp only[qd.lower,Nat.blt_eq]at hl;simp only[qP]at h⊢;obtain⟨b,hb,rfl⟩:=h;exact⟨b,U i b hl hb,rfl⟩
 |.iptr cs o,v,hl,h=>by simp only[qd.lower]at hl;simp only[qP]at h⊢;obtain⟨b,p,rfl,hc⟩:=h;exact⟨b,p,rfl,ZD.mono hi n U cs b p hl hc⟩
 |.lst xs f,v,hl,h=>by
  simp only[qd.lower]at hl;simp only[qP]at h⊢;obtain⟨a,len,cap,rfl,h1,h2,h3,h4,h6,h5⟩:=h;refine⟨a,len,cap,rfl,h1,h2,h3,h4,h6,?_⟩;rcases h5 with h5|⟨b,p,rfl,he⟩;·exact .inl h5
  ·exact .inr ⟨b,p,rfl,Zd.mono hi n U xs b p hl he⟩
 |.nilfunc,v,_,h=>by simpa[qP]using h
 |.fn f as bs,v,hl,h=>by simp only[qd.lower,jk]at hl;simp only[qP]at h⊢;obtain⟨x,y,rfl,h1,h2⟩:=h;exact⟨x,y,rfl,qx.mono hi n U as _ hl.1 h1,qx.mono hi n U bs _ hl.2 h2⟩
 |.yld i,v,hl,h=>by simp only[qd.lower,Nat.blt_eq]at hl;simp only[qP]at h⊢;obtain⟨b,hb,rfl⟩:=h;exact⟨b,U i b hl hb,rfl⟩
 |.niliface,v,_,h=>by simpa[qP]using h
 |.iface t a,v,hl,h=>by simp only[qd.lower]at hl;simp only[qP]at h⊢;obtain⟨x,rfl,h1⟩:=h;exact⟨x,rfl,qP.mono hi n U a x hl h1⟩
 |.agg cs,v,hl,h=>by simp only[qd.lower]at hl;simp only[qP]at h⊢;obtain⟨x,rfl,h1⟩:=h;exact⟨x,rfl,qx.mono hi n U cs _ hl h1⟩
 |.tup cs,v,hl,h=>by simp only[qd.lower]at hl;simp only[qP]at h⊢;obtain⟨x,rfl,h1⟩:=h;exact⟨x,rfl,qx.mono hi n U cs _ hl h1⟩
 |.sl i o len cap more,v,hl,h=>by simp only[qd.lower,Nat.blt_eq]at hl;simp only[qP]at h⊢;obtain⟨b,c,hb,h1,h2,h3,h4,h5⟩:=h;exact⟨b,c,U i b hl hb,h1,h2,h3,h4,λhm=>hi _ _ _ (h5 hm)⟩
 |.mp i,v,hl,h=>by simp only[qd.lower,Nat.blt_eq]at hl;simp only[qP]at h⊢;obtain⟨b,hb,rfl⟩:=h;exact⟨b,U i b hl hb,rfl⟩
 |.nilmap,v,_,h=>by simpa[qP]using h
 |.nils,v,_,h=>by simpa[qP]using h
 |.empt,v,_,h=>by simpa[qP]using h
theorem qx.mono{γ a6:Nat->Option Nat}{imm U:Nat->Nat->Option Value}(hi:∀b o v,imm b o=some v->U b o=some v)(n:Nat)(a7:∀i b,i<n->γ i=some b->a6 i=some b): ∀(as:List qd)(vs:List Value),qm n as=true->qx γ imm as vs->qx a6 U as vs
 |[],vs,_,h=>by simpa[qx]using h
 |a::as,vs,hl,h=>by simp only[qm,jk]at hl;simp only[qx]at h⊢;obtain⟨v,rest,rfl,h1,h2⟩:=h;exact⟨v,rest,rfl,qP.mono hi n a7 a v hl.1 h1,qx.mono hi n a7 as rest hl.2 h2⟩
theorem ZD.mono{γ a6:Nat->Option Nat}{imm U:Nat->Nat->Option Value}(hi:∀b o v,imm b o=some v->U b o=some v)(n:Nat)(a7:∀i b,i<n->γ i=some b->a6 i=some b): ∀(cs:List qd)(b p:Nat),qm n cs=true->ZD γ imm cs b p->ZD a6 U cs b p
 |[],_,_,_,_=>by simp[ZD]
 |c::cs,b,p,hl,h=>by simp only[qm,jk]at hl;simp only[ZD]at h⊢;obtain⟨⟨v,h1,h2⟩,h3⟩:=h;exact⟨⟨v,hi _ _ _ h1,qP.mono hi n a7 c v hl.1 h2⟩,ZD.mono hi n a7 cs b (p+1) hl.2 h3⟩
theorem Zd.mono{γ a7:Nat->Option Nat}{imm U:Nat->Nat->Option Value}(hi:∀b o v,imm b o=some v->U b o=some v)(n:Nat)(a6:∀i b,i<n->γ i=some b->a7 i=some b): ∀(xs:List qd)(b p:Nat),qm n xs=true->Zd γ imm xs b p->Zd a7 U xs b p
 |[],_,_,_,_=>by simp[Zd]
 |x::xs,b,p,hl,h=>by
  simp only[qm,jk]at hl;obtain⟨hx,a8⟩:=h.uncons;refine Zd.cons ?_ (Zd.mono hi n a6 xs b _ hl.2 a8)
  cases x with
  |agg cs=>simp only[qd.cells]at hx⊢;simp only[qd.lower]at hl;exact ZD.mono hi n a6 cs b p hl.1 hx
  |_=>simp only[qd.cells,ZD]at hx⊢;obtain⟨⟨v,h1,h2⟩,_⟩:=hx;exact⟨⟨v,hi _ _ _ h1,qP.mono hi n a6 _ v hl.1 h2⟩,trivial⟩
end
def qku(G:qk)(w:World)(ℓ:Loc)(k:Nat)(v:Value):Prop:=∃b p len cap c e,v=.slice (some ⟨b,p,none⟩) len cap/\G.ow b=some ℓ/\w.heap[b]?=some (.cells c e (0,0))/\len<=cap/\p+cap*k<=c.size/\∀j,p+len*k<=j->G.imm b j=none
def qfL(G:qk)(w:World)(id b:Nat)(T e:TypeId)(s:List UInt8):Prop:=∃p v,w.heap[b]?=some (.cells #[p,v] T (0,0))/\(p=.pointer none\/p=.pointer (some ⟨b,0,none⟩))/\w.ownsRowF 0 e 1 v s.length (Lib.byteCells s)/\∀g,v.ownBlock=some g->G.ow g=some (.cell id 1)/\∀j,G.imm g j=none
theorem qfL.keep{G G':qk}{w w':World}{id b:Nat}{T e:TypeId}{s:List UInt8}(h:qfL G w id b T e s)(hb:w'.heap[b]?=w.heap[b]?)(U:∀x,G.ow x=some (.cell id 1)->G'.ow x=some (.cell id 1))(hh:∀x,G.ow x=some (.cell id 1)->w'.heap[x]?=w.heap[x]?)(hi:∀x j,G.ow x=some (.cell id 1)->G.imm x j=none->G'.imm x j=none):qfL G' w' id b T e s:=by
 obtain⟨p,v,h1,h2,h3,h4⟩:=h;refine⟨p,v,hb.trans h1,h2,⟨h3.1,?_⟩,λg hg=>⟨U g (h4 g hg).1,λj=>hi g j (h4 g hg).1 ((h4 g hg).2 j)⟩⟩;rcases h3.2 with h5|⟨g,cap,cur,fz,rfl,h5,h6,h7⟩;·exact .inl h5
 ·exact .inr ⟨g,cap,cur,fz,rfl,h5,(hh g (h4 g rfl).1).trans h6,h7⟩
def qb9:LSt->LoopState->Prop
 |.ready,.ready|.busy,.busy|.done,.done|.exhausted,.exhausted=>True
 |_,_=>False
def qbP:Option qkk->Option Code->Prop
 |none,none=>True
 |some .ret,some .ret=>True
 |some (.exit i),some (.exit j)=>i=j
 |_,_=>False
section
variable(P:Program)(gl:Nat->Option (List qd))
structure LO (G:qk) (t:List qd) (ps:List Nat) (asg body:qS) (st:LSt) (pend:Option qkk) (L:Loop):Prop where
 tmps:G.VL t L.tmps.toList
 dims:∀a∈t,a.dim=a
 ps:L.params.toList=ps
 asg:comp P gl L.assign=some asg
 body:comp P gl L.body=some body
 st:qb9 st L.state
 pend:qbP pend L.pending
def Zb(G:qk):List (Nat×qd×qd)->List MapEntry->Prop
 |[],es=>es=[]
 |x::xs,es=>∃e rest,es=e::rest/\e.born=x.1/\G.V x.2.1 e.key/\G.V x.2.2 e.val/\Zb G xs rest
def FV(G:qk)(w:World)(id:Nat)(bx:qj)(b:Nat):Prop:=match bx with
 |.cells cs=>∃c e,w.heap[b]?=some (.cells c e (0,0))/\G.VL cs (c.toList.take cs.length)/\
  ∀(o:Nat)(xs:List qd)(k:Nat)(v:Value),cs[o]?=some (.lst xs (.own k))->c[o]?=some v->qku G w (.cell id o) k v
 |.loop t ps asg body st pend=>∃L,w.heap[b]?=some (.loop L)/\LO P gl G t ps asg body st pend L
 |.map es clock=>∃me:Array MapEntry,w.heap[b]?=some (.map me clock)/\Zb G es me.toList
 |.iter m since seen last=>∃mm,w.heap[b]?=some (.mapIter mm since seen.toArray last)/\G.V m (.map mm)
 |.bld t e s=>qfL G w id b t e s
 |.dead=>True
def kz(γ:Nat->Option Nat)(imm:Nat->Nat->Option Value)(cs:List qd)(g:Nat):Prop:=ZD γ imm cs g 0/\(0<cs.length->imm g cs.length=some Ww)
theorem kz.mono{γ a6:Nat->Option Nat}{imm U:Nat->Nat->Option Value}(hi:∀b o v,imm b o=some v->U b o=some v)(cs:List qd)(g:Nat)(hl:qm 0 cs=true)(h:kz γ imm cs g):kz a6 U cs g:=⟨ZD.mono hi 0 (λi _ hi=>absurd hi (Nat.not_lt_zero _)) cs g 0 hl h.1,λh0=>hi _ _ _ (h.2 h0)⟩
structure Rel (G:qk) (h:List qj) (w:World):Prop where
 γlt:∀i b,G.γ i=some b->i<h.length/\b<w.heap.size
 inj:∀i j b,G.γ i=some b->G.γ j=some b->i=j\/h[i]?=some .dead\/h[j]?=some .dead
 box:∀i b bx,G.γ i=some b->h[i]?=some bx->FV P gl G w i bx b
 imm:∀b o v,G.imm b o=some v->v≠Ww->w.cell? ⟨b,o,none⟩=some v/\b<w.heap.size
 immγ:∀b o v i,G.imm b o=some v->v≠Ww->G.γ i=some b->h[i]?=some .dead
 immK:∀b o,G.imm b o=some Ww->0<o/\∃c e,w.heap[b]?=some (.cells c e (0,0))/\o=c.size
 ow:∀b ℓ,G.ow b=some ℓ->b<w.heap.size/\∀i,G.γ i≠some b
 glob:∀g cs,gl g=some cs->kz G.γ G.imm cs g/\qm 0 cs=true
structure Z0 (G:qk) (w:World) (t:List qd) (ts:Array Value):Prop where
 rel:G.VL t ts.toList
 own:∀(i:Nat)(xs:List qd)(k:Nat)(v:Value),t[i]?=some (.lst xs (.own k))->ts[i]?=some v->qku G w (.tmp i) k v
end
def WF(G:qk)(b:Nat):Prop:=(∀i,G.γ i≠some b)/\G.ow b=none
structure Ext (n:Nat) (G:qk) (w:World) (G':qk) (w':World):Prop where
 gk:∀i b,G.γ i=some b->G'.γ i=some b
 gn:∀i b,G'.γ i=some b->G.γ i=some b\/(n<=i/\(w.heap.size<=b\/∃j,G.γ j=some b))
 ik:∀b o v,G.imm b o=some v->G'.imm b o=some v
 inew:∀b o v,G'.imm b o=some v->G.imm b o=some v\/w.heap.size<=b\/G.ow b≠none\/∃i,G.γ i=some b
 on:∀b,G'.ow b≠none->G.ow b≠none\/w.heap.size<=b
 size:w.heap.size<=w'.heap.size
 heap:∀b,b<w.heap.size->WF G b->w'.heap[b]?=w.heap[b]?
 loops:∀(b:Nat)(L:Loop),w.heap[b]?=some (.loop L)->∃L':Loop,w'.heap[b]?=some (.loop L')/\L'.fn=L.fn/\L'.tmps=L.tmps/\L'.params=L.params/\L'.assign=L.assign/\L'.body=L.body/\L'.defers=L.defers
 os:w'.os=w.os
 tape:w'.tape=w.tape
 output:w'.output=w.output
theorem Ext.refl(n:Nat)(G:qk)(w:World):Ext n G w G w:=⟨λ_ _ h=>h,λ_ _ h=>.inl h,λ_ _ _ h=>h,λ_ _ _ h=>.inl h,λ_ h=>.inl h,jm _,λ_ _ _=>rfl,λ_ L h=>⟨L,h,rfl,rfl,rfl,rfl,rfl,rfl⟩,rfl,rfl,rfl⟩
theorem Ext.trans{n m:Nat}{G G' a6:qk}{w w' U:World}(a7:n<=m)(h:Ext n G w G' w')(k:Ext m G' w' a6 U):Ext n G w a6 U where
 gk i b hb:=k.gk i b (h.gk i b hb)
 gn i b hb:=by
  rcases k.gn i b hb with hb|⟨h1,h2⟩
  ·exact h.gn i b hb
  ·refine .inr ⟨jn a7 h1,?_⟩
   rcases h2 with h2|⟨j,h2⟩
   ·exact .inl (jn h.size h2)
   ·rcases h.gn j b h2 with h3|⟨_,h3⟩
    ·exact .inr ⟨j,h3⟩
    ·exact h3
 ik b o v hv:=k.ik b o v (h.ik b o v hv)
 inew b o v hv:=by
  rcases k.inew b o v hv with hv|hv|hv|⟨i,hv⟩
  ·exact h.inew b o v hv
  ·exact .inr (.inl (jn h.size hv))
  ·rcases h.on b hv with h1|h1
   ·exact .inr (.inr (.inl h1))
   ·exact .inr (.inl h1)
  ·rcases h.gn i b hv with h1|⟨_,h1|⟨j,h1⟩⟩
   ·exact .inr (.inr (.inr ⟨i,h1⟩))
   ·exact .inr (.inl h1)
   ·exact .inr (.inr (.inr ⟨j,h1⟩))
 on b hb:=by
  rcases k.on b hb with hb|hb
  ·exact h.on b hb
  ·exact .inr (jn h.size hb)
 size:=jn h.size k.size
 heap b hb hf:=by
  have a8:WF G' b:=by
   refine⟨λi hi=>?_,?_⟩
   ·rcases h.gn i b hi with h1|⟨_,h1|⟨j,h1⟩⟩
    ·exact hf.1 i h1
    ·omega
    ·exact hf.1 j h1
   ·cases ho:G'.ow b with
    |none=>rfl
    |some ℓ=>
     rcases h.on b (by simp[ho])with h1|h1
     ·exact absurd hf.2 h1
     ·omega
  rw[k.heap b (jo hb h.size) a8,h.heap b hb hf]
 loops b L hL:=by
  obtain⟨L',h1,h2,h3,h4,h5,h6,h7⟩:=h.loops b L hL
  obtain⟨aa,k1,k2,k3,k4,k5,k6,k7⟩:=k.loops b L' h1
  exact⟨aa,k1,k2.trans h2,k3.trans h3,k4.trans h4,k5.trans h5,k6.trans h6,k7.trans h7⟩
 os:=k.os.trans h.os
 tape:=k.tape.trans h.tape
 output:=k.output.trans h.output
theorem Ext.weaken{n m:Nat}{G G':qk}{w w':World}(U:n<=m)(h:Ext m G w G' w'):Ext n G w G' w':=(Ext.refl n G w).trans U h
theorem Ext.drew{n:Nat}{G G':qk}{w w':World}(h:Ext n G w G' w')(d:Nat):Ext n G w G' {w' with drawn:=d}:=⟨h.gk,h.gn,h.ik,h.inew,h.on,h.size,h.heap,h.loops,h.os,h.tape,h.output⟩
section
variable{P:Program}{gl:Nat->Option (List qd)}{G G':qk}{w w':World}{h:List qj}{t:List qd}{ts:Array Value}
theorem qku.keep{ℓ:Loc}{k:Nat}{v:Value}(ho:qku G w ℓ k v)(U:∀b,G.ow b=some ℓ->G'.ow b=some ℓ)(hh:∀b,G.ow b=some ℓ->w'.heap[b]?=w.heap[b]?)(hi:∀b j,G.ow b=some ℓ->G.imm b j=none->G'.imm b j=none):qku G' w' ℓ k v:=by obtain⟨b,p,len,cap,c,e,rfl,h1,h2,h3,h4,h5⟩:=ho;exact⟨b,p,len,cap,c,e,rfl,U b h1,by rw[hh b h1];exact h2,h3,h4,λj hj=>hi b j h1 (h5 j hj)⟩
theorem Rel.imm_lt(hr:Rel P gl G h w){b o:Nat}{v:Value}(hv:G.imm b o=some v):b<w.heap.size:=by
 by_cases hm:v=Ww;·subst hm;obtain⟨_,c,e,h1,_⟩:=hr.immK b o hv;exact(je.1 h1).1
 ·exact(hr.imm b o v hv hm).2
theorem Rel.of_drew(hr:Rel P gl G h w)(d:Nat):Rel P gl G h {w with drawn:=d}:=⟨hr.γlt,hr.inj,hr.box,hr.imm,hr.immγ,hr.immK,hr.ow,hr.glob⟩
theorem Z0.of_drew(hr:Z0 G w t ts)(d:Nat):Z0 G {w with drawn:=d} t ts:=⟨hr.rel,hr.own⟩
theorem Z0.length(hr:Z0 G w t ts):t.length=ts.size:=by simpa using hr.rel.length
theorem Z0.get(hr:Z0 G w t ts)(i:Nat):G.V (t.getD i .undef) (ts.getD i undef):=by
 by_cases hi:i<t.length;·obtain⟨v,hv,a6⟩:=hr.rel.get (jh hi);have U:i<ts.size:=(by rw[<-hr.length];exact hi);have e1:ts.getD i undef=v:=(by simp only[Array.getElem?_toList]at hv;simp[Array.getD,U,(je.1 hv).2]);rw[e1];simpa[List.getD,jh hi]using a6
 ·have U:¬ i<ts.size:=(by rw[<-hr.length];exact hi);simp[List.getD,jq (Nat.le_of_not_lt hi),qP,Array.getD,U,undef,Ww]
theorem Z0.put(hr:Z0 G w t ts)(dst:Option Nat){a:qd}{v:Value}(hv:G.V a v)(hd:a.dim=a)(ds:List Deferred): Z0 G w (put dst a t) ((({tmps:=ts,defers:=ds}:Act).put dst v).tmps):=by
 cases dst with
 |none=>exact hr
 |some d=>
  refine⟨by simpa[AE.put,Act.put]using hr.rel.set d hv,λi xs k u hi hu=>?_⟩;simp only[AE.put,Act.put]at hi hu;by_cases e:d=i
  ·subst e;rw[List.getElem?_set]at hi;split at hi
   ·split at hi;·simp only[jj]at hi;subst hi;simp[qd.dim]at hd
    ·cases hi
   ·rename_i U;exact absurd rfl U
  ·rw[jf e]at hi;rw[Array.getElem?_setIfInBounds_ne e]at hu;exact hr.own i xs k u hi hu
end
theorem Zn(w:World)(o:Obj){b:Nat}(hb:b<w.heap.size):(w.alloc o).heap[b]?=w.heap[b]?:=by simp only[World.alloc];rw[Array.getElem?_push,if_neg zo]
theorem Zs(w:World)(o:Obj):(w.alloc o).heap[w.heap.size]?=some o:=by show(w.heap.push o)[w.heap.size]?=some o;simp
theorem Xb{w w':World}{a:Addr}(h:w'.heap[a.block]?=w.heap[a.block]?):w'.cell? a=w.cell? a:=by simp only[World.cell?,h]
section
variable{P:Program}{gl:Nat->Option (List qd)}{G G':qk}{w w':World}{h:List qj}{t:List qd}{ts:Array Value}
theorem Ku{n m:Nat}(U:n<=m):∀{es:List (Nat×qd×qd)},QB n es=true->QB m es=true
 |[],_=>rfl
 |x::xs,h=>by simp only[QB,jk]at h⊢;exact⟨⟨Xv U _ h.1.1,Xv U _ h.1.2⟩,Ku U h.2⟩
theorem Wj:∀es:List (Nat×qd×qd),∃n,QB n es=true
 |[]=>⟨0,rfl⟩
 |x::xs=>by obtain⟨a,ha⟩:=lower_ex x.2.1;obtain⟨b,hb⟩:=lower_ex x.2.2;obtain⟨c,hc⟩:=Wj xs;refine⟨max a (max b c),?_⟩;simp only[QB,jk];exact⟨⟨Xv zo _ ha,Xv zo _ hb⟩,Ku zo hc⟩
theorem Zb.mono(hi:∀b o v,G.imm b o=some v->G'.imm b o=some v)(n:Nat)(U:∀i b,i<n->G.γ i=some b->G'.γ i=some b): ∀{xs:List (Nat×qd×qd)}{es:List MapEntry},QB n xs=true->Zb G xs es->Zb G' xs es
 |[],_,_,h=>h
 |x::xs,es,hl,h=>by simp only[QB,jk]at hl;simp only[Zb]at h⊢;obtain⟨e,rest,rfl,h1,h2,h3,h4⟩:=h;exact⟨e,rest,rfl,h1,qP.mono hi n U _ _ hl.1.1 h2,qP.mono hi n U _ _ hl.1.2 h3,Zb.mono hi n U hl.2 h4⟩
theorem qj.lower_ex(bx:qj):∃n,bx.lower n=true:=by
 cases bx with
 |cells cs=>exact ZG cs
 |loop t _ _ _ _ _=>exact ZG t
 |map es _=>exact Wj es
 |iter m _ _ _=>exact AE.lower_ex m
 |bld _ _ _=>exact⟨0,rfl⟩
 |dead=>exact⟨0,rfl⟩
theorem D1{γ:Nat->Option Nat}{imm:Nat->Nat->Option Value}{cs:List qd}{l:List Value}{o:Nat}{x:qd}(h:qx γ imm cs (l.take cs.length))(hx:cs[o]?=some x):∃v,l[o]?=some v/\qP γ imm x v:=by obtain⟨v,hv,hr⟩:=h.get hx;rw[List.getElem?_take_of_lt (jd.1 hx).1]at hv;exact⟨v,hv,hr⟩
theorem gD{γ:Nat->Option Nat}{imm:Nat->Nat->Option Value}{cs:List qd}{l:List Value}(h:qx γ imm cs (l.take cs.length)):cs.length<=l.length:=by have:=h.length;simp at this;omega
theorem DZ{γ:Nat->Option Nat}{imm:Nat->Nat->Option Value}{cs:List qd}{l:List Value}(h:qx γ imm cs l):qx γ imm cs (l.take cs.length):=by rw[h.length,List.take_length];exact h
theorem gA{h:List qj}{i id:Nat}{bx U:qj}(hid:h[id]?=some bx)(hb:bx≠.dead)(hi:h[i]?=some .dead):(h.set id U)[i]?=some .dead:=by
 rw[jf];·exact hi
 ·rintro rfl;rw[hid]at hi;cases hi;exact hb rfl
theorem qbj{h:List qj}{γ:Nat->Option Nat}{id:Nat}{bx U:qj}(hj:∀i j b,γ i=some b->γ j=some b->i=j\/h[i]?=some .dead\/h[j]?=some .dead)(hid:h[id]?=some bx)(hb:bx≠.dead): ∀i j b,γ i=some b->γ j=some b->i=j\/(h.set id U)[i]?=some .dead\/(h.set id U)[j]?=some .dead:=λi j b hi hk=>by
 rcases hj i j b hi hk with h1|h1|h1;·exact .inl h1
 ·exact .inr (.inl (gA hid hb h1))
 ·exact .inr (.inr (gA hid hb h1))
theorem FV.keep{id b n:Nat}{bx:qj}(hb:FV P gl G w id bx b)(hl:bx.lower n=true)(hi:∀b o v,G.imm b o=some v->G'.imm b o=some v)(U:∀i b,i<n->G.γ i=some b->G'.γ i=some b)(hh:w'.heap[b]?=w.heap[b]?)(a6:∀b o,G.ow b=some (.cell id o)->G'.ow b=some (.cell id o))(a8:∀b o,G.ow b=some (.cell id o)->w'.heap[b]?=w.heap[b]?)(a7:∀b j o,G.ow b=some (.cell id o)->G.imm b j=none->G'.imm b j=none):FV P gl G' w' id bx b:=by
 cases bx with
 |cells cs=>obtain⟨c,e,h1,h2,h3⟩:=hb;exact⟨c,e,by rw[hh];exact h1,qx.mono hi n U cs _ hl h2,λo xs k v ho hv=>(h3 o xs k v ho hv).keep (λb hb=>a6 b o hb) (λb hb=>a8 b o hb) (λb j hb=>a7 b j o hb)⟩
 |loop t ps asg body st pend=>obtain⟨L,h1,h2⟩:=hb;exact⟨L,by rw[hh];exact h1,{h2 with tmps:=qx.mono hi n U t _ hl h2.tmps}⟩
 |map es clock=>obtain⟨me,h1,h2⟩:=hb;exact⟨me,by rw[hh];exact h1,Zb.mono hi n U hl h2⟩
 |iter m since seen last=>obtain⟨mm,h1,h2⟩:=hb;exact⟨mm,by rw[hh];exact h1,qP.mono hi n U _ _ hl h2⟩
 |bld _ _ _=>exact qfL.keep hb hh (λx hx=>a6 x 1 hx) (λx hx=>a8 x 1 hx) (λx j hx=>a7 x j 1 hx)
 |dead=>trivial
theorem Rel.alloc(hr:Rel P gl G h w)(o:Obj):Rel P gl G h (w.alloc o) where
 γlt i b hb:=⟨(hr.γlt i b hb).1,by have:=(hr.γlt i b hb).2;simp;omega⟩
 inj:=hr.inj
 box i b bx hb hx:=by
  have a6:=(hr.γlt i b hb).2
  have U:=hr.box i b bx hb hx
  have key:∀b',b'<w.heap.size->(w.alloc o).heap[b']?=w.heap[b']?:=λb' U=>Zn w o U
  cases bx with
  |cells cs=>
   obtain⟨c,e,h1,h2,h3⟩:=U
   exact⟨c,e,by rw[key b a6];exact h1,h2,λo' xs k v ho hv=>(h3 o' xs k v ho hv).keep (λ_ h=>h) (λb hb=>key b (hr.ow b _ hb).1) (λ_ _ _ h=>h)⟩
  |loop t ps asg body st pend=>
   obtain⟨L,h1,h2⟩:=U
   exact⟨L,by rw[key b a6];exact h1,h2⟩
  |map es clock=>
   obtain⟨me,h1,h2⟩:=U
   exact⟨me,by rw[key b a6];exact h1,h2⟩
  |iter m since seen last=>
   obtain⟨mm,h1,h2⟩:=U
   exact⟨mm,by rw[key b a6];exact h1,h2⟩
  |bld _ _ _=>exact qfL.keep U (key b a6) (λ_ h=>h) (λx hx=>key x (hr.ow x _ hx).1) (λ_ _ _ h=>h)
  |dead=>trivial
 imm b o' v hv:=by
  intro hm
  obtain⟨h1,h2⟩:=hr.imm b o' v hv hm
  exact⟨(Xb (Zn w o h2)).trans h1,by simp;omega⟩
 immγ:=hr.immγ
 immK b o' hv:=by
  obtain⟨h0,c,e,h1,h2⟩:=hr.immK b o' hv
  exact⟨h0,c,e,by rw[Zn w o (je.1 h1).1];exact h1,h2⟩
 ow b ℓ hb:=⟨by have:=(hr.ow b ℓ hb).1;simp;omega,(hr.ow b ℓ hb).2⟩
 glob:=hr.glob
theorem Z0.alloc(hr:Rel P gl G h w)(ht:Z0 G w t ts)(o:Obj):Z0 G (w.alloc o) t ts:=⟨ht.rel,λi xs k v hi hv=>(ht.own i xs k v hi hv).keep (λ_ h=>h) (λb hb=>Zn w o (hr.ow b _ hb).1) (λ_ _ _ h=>h)⟩
theorem Ext.alloc(n:Nat)(G:qk)(w:World)(o:Obj):Ext n G w G (w.alloc o):=⟨λ_ _ h=>h,λ_ _ h=>.inl h,λ_ _ _ h=>h,λ_ _ _ h=>.inl h,λ_ h=>.inl h,by simp,λb hb _=>Zn w o hb,λb L hL=>⟨L,by rw[Zn w o (je.1 hL).1];exact hL,rfl,rfl,rfl,rfl,rfl,rfl⟩,rfl,rfl,rfl⟩
def qk.withBox(G:qk)(i b:Nat):qk:={G with γ:=λj=>if j=i then some b else G.γ j}
theorem Rel.newBox(hr:Rel P gl G h w){i:Nat}{o:Obj}{bx:qj}{h':List qj}(hi:G.γ i=none)(a8:h.length<=h'.length)(ab:i<h'.length)(U:∀j,j≠i->∀b,G.γ j=some b->h'[j]?=h[j]?)(ac:h'[i]?=some bx)(a7:FV P gl (G.withBox i w.heap.size) (w.alloc o) i bx w.heap.size):Rel P gl (G.withBox i w.heap.size) h' (w.alloc o):=by
 have ha:=hr.alloc o;have aa:∀j b,G.γ j=some b->(G.withBox i w.heap.size).γ j=some b:=λj b hj=>by have:j≠i:=λe=>(by subst e;simp[hi]at hj);simpa[qk.withBox,this]using hj
 refine⟨λj b hj=>?_,λj k b hj hk=>?_,λj b a6 hj hx=>?_,ha.imm,λb o' v j hv hm=>?_,ha.immK,λb ℓ hb=>⟨(ha.ow b ℓ hb).1,λj hj=>?_⟩,λg cs hg=>?_⟩
 ·simp only[qk.withBox]at hj;split at hj;·rename_i e;subst e;cases hj;exact⟨ab,by simp⟩
  ·exact⟨jo (hr.γlt j b hj).1 a8,(ha.γlt j b hj).2⟩
 ·simp only[qk.withBox]at hj hk;split at hj
  ·split at hk;·exact .inl zo
   ·cases hj;have:=(hr.γlt k _ hk).2;omega
  ·rename_i e1;split at hk;·cases hk;have:=(hr.γlt j _ hj).2;omega
   ·rename_i e2;rw[U j e1 b hj,U k e2 b hk];exact hr.inj j k b hj hk
 ·simp only[qk.withBox]at hj;split at hj;·rename_i e;subst e;cases hj;rw[ac]at hx;cases hx;exact a7
  ·rename_i e;rw[U j e b hj]at hx;have hb:=ha.box j b a6 hj hx;obtain⟨n,hn⟩:=qj.lower_ex a6;exact hb.keep hn (λ_ _ _ h=>h) (λj b _=>aa j b) rfl (λ_ _ h=>h) (λ_ _ _=>rfl) (λ_ _ _ _ h=>h)
 ·simp only[qk.withBox];split;·intro e;cases e;have:=hr.imm_lt hv;omega
  ·rename_i e1;intro e;rw[U j e1 b e];exact hr.immγ b o' v j hv hm e
 ·simp only[qk.withBox]at hj;split at hj;·cases hj;have:=(hr.ow _ _ hb).1;omega
  ·exact(hr.ow b ℓ hb).2 j hj
 ·obtain⟨h1,h2⟩:=hr.glob g cs hg;exact⟨kz.mono (λ_ _ _ h=>h) cs g h2 h1,h2⟩
theorem Ext.newBox{n i:Nat}(hi:G.γ i=none)(hn:n<=i)(o:Obj):Ext n G w (G.withBox i w.heap.size) (w.alloc o):=by
 refine⟨λj b hj=>?_,λj b hj=>?_,λ_ _ _ h=>h,λ_ _ _ h=>.inl h,λ_ h=>.inl h,by simp,λb hb _=>Zn w o hb,(Ext.alloc n G w o).loops,rfl,rfl,rfl⟩;·have:j≠i:=λe=>(by subst e;simp[hi]at hj);simpa[qk.withBox,this]using hj
 ·simp only[qk.withBox]at hj;split at hj;·rename_i e;subst e;cases hj;exact .inr ⟨hn,.inl (jm _)⟩
  ·exact .inl hj
noncomputable def qk.withRow(G:qk)(b:Nat)(c:Array Value)(m:Nat)(ℓ:Option Loc):qk:={γ:=G.γ,imm:=λx o=>if x=b then(if o<m then qaU c[o]? else none)else G.imm x o,ow:=λx=>if x=b then ℓ else G.ow x}
theorem Rel.newRow(hr:Rel P gl G h w)(c:Array Value)(e:TypeId)(m:Nat)(ℓ:Option Loc)(fr:Nat×Nat:=(0,0)):Rel P gl (G.withRow w.heap.size c m ℓ) h (w.alloc (.cells c e fr)):=by
 have ha:=hr.alloc (.cells c e fr);have hi:∀b o v,G.imm b o=some v->(G.withRow w.heap.size c m ℓ).imm b o=some v:=λb o v hv=>by have:b≠w.heap.size:=(by have:=hr.imm_lt hv;omega);simpa[qk.withRow,this]using hv
 refine⟨ha.γlt,ha.inj,λi b bx hb hx=>?_,λb o v hv hm=>?_,λb o v i hv hm hb=>?_,λb o hv=>?_,λb a6 hb=>?_,λg cs hg=>?_⟩
 ·obtain⟨n,hn⟩:=qj.lower_ex bx;refine(ha.box i b bx hb hx).keep hn hi (λ_ _ _ h=>h) rfl (λb' o U=>?_) (λ_ _ _=>rfl) (λb' j o U hj=>?_);·have:b'≠w.heap.size:=(by have:=(hr.ow b' _ U).1;omega);simpa[qk.withRow,this]using U
  ·have:b'≠w.heap.size:=(by have:=(hr.ow b' _ U).1;omega);simpa[qk.withRow,this]using hj
 ·simp only[qk.withRow]at hv;split at hv
  ·rename_i e1;subst e1;split at hv;·refine⟨?_,by simp⟩;simp only[World.cell?,Zs];simpa using(Qi.1 hv).1
   ·cases hv
  ·exact ha.imm b o v hv hm
 ·simp only[qk.withRow]at hv hb;split at hv;·have:=(hr.γlt i b hb).2;omega
  ·exact hr.immγ b o v i hv hm hb
 ·simp only[qk.withRow]at hv;split at hv
  ·split at hv;·exact absurd rfl (Qi.1 hv).2
   ·cases hv
  ·exact ha.immK b o hv
 ·simp only[qk.withRow]at hb;split at hb;·rename_i e1;exact⟨by simp;omega,λi hi=>by simp only[qk.withRow]at hi;have:=(hr.γlt i b hi).2;omega⟩
  ·exact ha.ow b a6 hb
 ·obtain⟨h1,h2⟩:=hr.glob g cs hg;exact⟨kz.mono hi cs g h2 h1,h2⟩
theorem Ext.newRow(n:Nat)(c:Array Value)(e:TypeId)(m:Nat)(ℓ:Option Loc)(hr:Rel P gl G h w)(fr:Nat×Nat:=(0,0)):Ext n G w (G.withRow w.heap.size c m ℓ) (w.alloc (.cells c e fr)):=by
 refine⟨λ_ _ h=>h,λ_ _ h=>.inl h,λb o v hv=>?_,λb o v hv=>?_,λb hb=>?_,by simp,λb hb _=>Zn w _ hb,(Ext.alloc n G w _).loops,rfl,rfl,rfl⟩;·have:b≠w.heap.size:=(by have:=hr.imm_lt hv;omega);simpa[qk.withRow,this]using hv
 ·simp only[qk.withRow]at hv;split at hv;·exact .inr (.inl zo)
  ·exact .inl hv
 ·simp only[qk.withRow]at hb;split at hb;·exact .inr zo
  ·exact .inl hb
theorem Z0.newRow(hr:Rel P gl G h w)(ht:Z0 G w t ts)(c:Array Value)(e:TypeId)(m:Nat)(ℓ:Option Loc)(fr:Nat×Nat:=(0,0)):Z0 (G.withRow w.heap.size c m ℓ) (w.alloc (.cells c e fr)) t ts:=by
 have hi:∀b o v,G.imm b o=some v->(G.withRow w.heap.size c m ℓ).imm b o=some v:=(Ext.newRow 0 c e m ℓ hr fr).ik;obtain⟨n,hn⟩:=ZG t;refine⟨qx.mono hi n (λ_ _ _ h=>h) t _ hn ht.rel,λi xs k v hx hv=>(ht.own i xs k v hx hv).keep (λb hb=>?_) (λb hb=>Zn w _ (hr.ow b _ hb).1) (λb j hb hj=>?_)⟩;·have:b≠w.heap.size:=(by have:=(hr.ow b _ hb).1;omega);simpa[qk.withRow,this]using hb
 ·have:b≠w.heap.size:=(by have:=(hr.ow b _ hb).1;omega);simpa[qk.withRow,this]using hj
theorem Z0.keep{n:Nat}(ht:Z0 G w t ts)(hl:qm n t=true)(hi:∀b o v,G.imm b o=some v->G'.imm b o=some v)(U:∀i b,i<n->G.γ i=some b->G'.γ i=some b)(a6:∀b i,G.ow b=some (.tmp i)->G'.ow b=some (.tmp i))(a8:∀b i,G.ow b=some (.tmp i)->w'.heap[b]?=w.heap[b]?)(a7:∀b j i,G.ow b=some (.tmp i)->G.imm b j=none->G'.imm b j=none):Z0 G' w' t ts:=⟨qx.mono hi n U t _ hl ht.rel,λi xs k v hx hv=>(ht.own i xs k v hx hv).keep (λb hb=>a6 b i hb) (λb hb=>a8 b i hb) (λb j hb=>a7 b j i hb)⟩
end
section
variable{P:Program}{gl:Nat->Option (List qd)}{G:qk}{w:World}{h:List qj}{t:List qd}{a:Act}
theorem FT{γ:Nat->Option Nat}{imm:Nat->Nat->Option Value}{v:Value}{x:qd}(h:WJ v=some x):qP γ imm x v:=by
 unfold WJ at h;split at h<;>try (simp only[jj]at h;subst h)
 all_goals try (simp[qP];done)
 ·split at h;·rename_i hh;obtain⟨rfl,rfl⟩:=hh;cases h;simp only[qP];exact⟨none,0,0,rfl,rfl,jm _,λ_=>rfl,λ_=>rfl,⟨0,by simp⟩,.inl trivial⟩
  ·cases h
 ·split at h;·rename_i hh;simp only[jk,Array.isEmpty_iff]at hh;obtain⟨rfl,rfl⟩:=hh;cases h;simp only[qP];exact⟨#[],#[],rfl,by simp[qx],by simp[qx]⟩
  ·cases h
 ·cases h
theorem Ln{v:Value}{x:qd}(h:WJ v=some x):x.lower 0=true:=by unfold WJ at h;split at h<;>first|(simp only[jj]at h;subst h;rfl)|(split at h<;>cases h;rfl)|cases h
theorem yP{γ:Nat->Option Nat}{imm:Nat->Nat->Option Value}:∀{vs:List Value}{xs:List qd},vs.mapM WJ=some xs->qx γ imm xs vs/\qm 0 xs=true
 |[],xs,h=>by simp at h;subst h;simp[qx,qm]
 |v::vs,xs,h=>by simp only[List.mapM_cons,Option.pure_def,jA,Option.bind_eq_some_iff]at h;obtain⟨x,hx,ys,U,h⟩:=h;cases h;obtain⟨h1,h2⟩:=yP (γ:=γ) (imm:=imm) U;exact⟨by simp only[qx];exact⟨v,vs,rfl,FT hx,h1⟩,by simp[qm,Ln hx,h2]⟩
theorem kR{γ:Nat->Option Nat}{imm:Nat->Nat->Option Value}{v:Value}{x:qd}(h:DK v=some x):qP γ imm x v/\x.lower 0=true:=by
 unfold DK at h;split at h;·rename_i cs;simp only[Option.map_eq_some_iff]at h;obtain⟨xs,hx,rfl⟩:=h;obtain⟨h1,h2⟩:=yP (γ:=γ) (imm:=imm) hx;exact⟨by simp only[qP];exact⟨cs,rfl,h1⟩,by simpa[qd.lower]using h2⟩
 ·split at h;·rename_i hh;simp only[Array.isEmpty_iff]at hh;subst hh;cases h;exact⟨by simp only[qP];exact⟨#[],rfl,by simp[qx]⟩,rfl⟩
  ·cases h
 ·exact⟨FT h,Ln h⟩
theorem ue(hr:Rel P gl G h w)(ht:Z0 G w t a.tmps){x:Operand}{ax:qM}(hx:opd gl x=some ax):G.V (raw t ax) (a.eval x):=by
 cases x with
 |tmp i=>simp only[opd,jj]at hx;subst hx;exact ht.get i
 |const v=>simp only[opd,Option.map_eq_some_iff]at hx;obtain⟨c,hc,rfl⟩:=hx;exact(kR hc).1
 |global g=>simp only[opd,Option.map_eq_some_iff]at hx;obtain⟨c,hc,rfl⟩:=hx;simp only[raw,qk.V,qP];exact⟨g,0,rfl,(hr.glob g c hc).1.1⟩
 |func f=>simp only[opd,jj]at hx;subst hx;simp only[raw,qk.V,qP];exact⟨#[],#[],rfl,by simp[qx],by simp[qx]⟩
theorem Zg(hr:Rel P gl G h w)(ht:Z0 G w t a.tmps){x:Operand}{ax:qM}(hx:opd gl x=some ax):G.V (ev t ax) (a.eval x):=Qq (ue hr ht hx)
theorem Qh(v:qd):v.dim.dim=v.dim:=by
 cases v<;>try rfl
 rename_i xs f;cases f<;>rfl
theorem uZ(t:List qd)(x:qM):(ev t x).dim=ev t x:=Qh _
theorem qhd(hr:Rel P gl G h w)(ht:Z0 G w t a.tmps):∀{xs:List Operand}{U:List qM},xs.mapM (opd gl)=some U->G.VL (U.map (ev t)) (xs.map a.eval)
 |[],U,h=>by simp at h;subst h;simp[qk.VL,qx]
 |x::xs,U,h=>by simp only[List.mapM_cons,Option.pure_def,jA,Option.bind_eq_some_iff]at h;obtain⟨y,hy,ys,a6,h⟩:=h;cases h;simp only[List.map_cons,qk.VL,qx];exact⟨_,_,rfl,Zg hr ht hy,qhd hr ht a6⟩
theorem yZ(hr:Rel P gl G h w)(ht:Z0 G w t a.tmps){xs:Array Operand}{U:List qM}(hx:qkq gl xs=some U):G.VL (U.map (ev t)) (xs.map a.eval).toList:=by rw[Array.toList_map];exact qhd hr ht hx
theorem Xk{γ:Nat->Option Nat}{imm:Nat->Nat->Option Value}{x:qd}{v:Value}(h:qP γ imm x v)(hs:x.cells.all qd.storable=true):qx γ imm x.cells v.cells.toList/\∀u∈v.cells.toList,u.oneCell'=true:=by
 have one:∀{x:qd}{v:Value},qP γ imm x v->x.storable=true->v.oneCell'=true:=by
  intro x v h hs
  cases x<;>simp only[qd.storable,jl]at hs<;>simp only[qP]at h<;>first
   |(subst h;rfl)
   |(obtain⟨_,rfl,_⟩:=h;rfl)
   |(obtain⟨_,_,rfl⟩:=h;rfl)
   |(obtain⟨_,_,rfl,_⟩:=h;rfl)
   |(obtain⟨_,_,_,rfl,_⟩:=h;rfl)
 have all:∀{xs:List qd}{vs:List Value},qx γ imm xs vs->xs.all qd.storable=true->∀u∈vs,u.oneCell'=true:=by
  intro xs
  induction xs with
  |nil=>intro vs h _ u hu;simp only[qx]at h;subst h;cases hu
  |cons x xs ih=>
   intro vs h hs u hu;simp only[qx]at h;obtain⟨v,rest,rfl,h1,h2⟩:=h;simp only[jC,jk]at hs
   cases hu with
   |head=>exact one h1 hs.1
   |tail _ hu=>exact ih h2 hs.2 u hu
 have key:qx γ imm x.cells v.cells.toList:=by
  cases x with
  |agg cs=>simp only[qP]at h;obtain⟨c,rfl,h1⟩:=h;simpa[qd.cells,Value.cells]using h1
  |_=>have U:=hs;simp only[qd.cells,jC,jD,jw]at U;have ho:=one h U;have hc:v.cells=#[v]:=(by cases v<;>first|rfl|(simp[Value.oneCell']at ho));rw[hc];simp only[qd.cells,qx];exact⟨v,[],rfl,h,rfl⟩
 exact⟨key,all key hs⟩
theorem qgG{γ:Nat->Option Nat}{imm:Nat->Nat->Option Value}{cs:List qd}{vs:List Value}{o:Nat}{k:Option Nat}{x:qd}(h:qx γ imm cs vs)(hc:cut cs o k=some x): qP γ imm x (match k with|none=>vs.getD o undef|some k=>.agg ((vs.drop o).take k).toArray)/\x.dim=x/\(match k with|none=>o<vs.length|some k=>o+k<=vs.length):=by
 cases k with
 |none=>
  simp only[cut,Option.map_eq_some_iff]at hc;obtain⟨c,h0,rfl⟩:=hc;obtain⟨v,hv,hr⟩:=h.get h0;refine⟨?_,Qh _,?_⟩;·simp only[List.getD,hv,Option.getD_some];exact Qq hr
  ·simp only;exact(jd.1 hv).1
 |some k=>
  simp only[cut]at hc;split at hc;·cases hc;refine⟨?_,rfl,by simp only;rw[<-h.length];assumption⟩;simp only[qP];exact⟨_,rfl,by simpa using qx.dims (qx.take k (qx.drop o h))⟩
  ·cases hc
end
def WW:qd->Value
 |.int k n=>.int k n
 |.bool b=>.bool b
 |.str s=>.string ⟨s.toArray⟩
 |_=>undef
section
variable{P:Program}{γ:Nat->Option Nat}{imm:Nat->Nat->Option Value}
theorem FI{op:BinOp}{k:IntKind}{a b:Int}{r:qd}(h:kA op k a b=some r)(w:World)(j:IntKind)(hj:j=k\/op=.shl\/op=.shr)(t:TypeId): (binOp op t (.int k a) (.int j b)).run P w=.ok (WW r) w/\qP γ imm r (WW r)/\r.dim=r:=by
 have U:op≠.shl->op≠.shr->j=k:=by intro h1 h2;rcases hj with h|h|h<;>first|exact h|exact absurd h h1|exact absurd h h2
 cases op<;>simp only[kA,Qu,ZS]at h
 case quo=>
  split at h;·cases h
  ·rename_i hb;cases h;obtain rfl:=U (by simp) (by simp);exact⟨by simp[binOp,Op.intDiv,hb,WW],by simp[qP,WW],rfl⟩
 case rem=>
  split at h;·cases h
  ·rename_i hb;cases h;obtain rfl:=U (by simp) (by simp);exact⟨by simp[binOp,Op.intDiv,hb,WW],by simp[qP,WW],rfl⟩
 case shl=>
  split at h;·cases h
  ·rename_i hb;cases h;exact⟨by simp[binOp,Op.shift,hb,WW],by simp[qP,WW],rfl⟩
 case shr=>
  split at h;·cases h
  ·rename_i hb;cases h;exact⟨by simp[binOp,Op.shift,hb,WW],by simp[qP,WW],rfl⟩
 all_goals cases h;obtain rfl:=U (by simp) (by simp);exact⟨by simp only[binOp,ne_eq,not_true_eq_false,if_false];rfl,by simp[qP,WW],rfl⟩
theorem qfv{op:BinOp}{a b:List UInt8}{r:qd}(h:qjA op a b=some r)(w:World){x y:ByteArray}(hx:x.data.toList=a)(hy:y.data.toList=b)(t:TypeId): (binOp op t (.string x) (.string y)).run P w=.ok (WW r) w/\qP γ imm r (WW r)/\r.dim=r:=by
 have ex:x.toList=a:=by rw[Lib.toList_data,hx]
 have ey:y.toList=b:=by rw[Lib.toList_data,hy]
 cases op<;>simp only[qjA]at h
 case add=>
  split at h
  ·rename_i hl;cases h;have hs:¬ (((x.size+y.size:Nat):Int) > IntKind.i64.max):=(by have h1:x.size=a.length:=(by rw[<-hx];rfl);have h2:y.size=b.length:=(by rw[<-hy];rfl);unfold kJ at hl;simp only[IntKind.max,IntKind.signed,IntKind.bits,if_true];omega);have U:x++y=⟨(a++b).toArray⟩:=(by apply ByteArray.ext;apply Array.ext';rw[ByteArray.data_append,Array.toList_append,hx,hy]);refine⟨?_,?_,rfl⟩;·simp only[binOp,Op.stringOp,if_neg hs,WW,U];rfl
   ·simp only[qP,WW];exact⟨_,rfl,rfl⟩
  ·cases h
 all_goals first
  |(cases h;done)
  |(cases h;exact⟨by simp[binOp,Op.stringOp,ex,ey,WW],by simp[qP,WW],rfl⟩)
theorem qkI{op:BinOp}{x y:qd}{r:qd}(h:gz op x y=some r)(w:World){vx vy:Value}(hx:qP γ imm x vx)(hy:qP γ imm y vy)(t:TypeId): (binOp op t vx vy).run P w=.ok (WW r) w/\qP γ imm r (WW r)/\r.dim=r:=by
 unfold gz at h;split at h
 ·simp only[qP]at hx hy;subst hx hy;split at h;·exact FI h w _ (.inr (.inl rfl)) t
  ·exact FI h w _ (.inr (.inr rfl)) t
  ·split at h;·rename_i hk;exact FI h w _ (.inl hk.symm) t
   ·cases h
 ·simp only[qP]at hx hy;obtain⟨bx,rfl,a6⟩:=hx;obtain⟨a7,rfl,U⟩:=hy;exact qfv h w a6 U t
 ·cases h
theorem Dq{op:BinOp}{t:TypeId}{x y:Operand}{a b:Value}(w:World)(h1:¬ (a=.nilIface/\b=.nilIface)\/isC x=true\/isC y=true)(h2:∀xs ys,a=.agg xs->b=.agg ys->False):(eqGuard op t x y a b).run P w=.ok () w:=by
 by_cases hn:a=.nilIface/\b=.nilIface
 ·obtain⟨rfl,rfl⟩:=hn;rcases h1 with h1|h1|h1;·exact absurd ⟨rfl,rfl⟩ h1
  ·cases x<;>first|(cases h1;done)|(cases op<;>rfl)
  ·cases y<;>first|(cases h1;done)|(cases op<;>cases x<;>rfl)
 ·clear h1
  cases op<;>first
   |rfl
   |(cases a<;>first
    |rfl
    |(cases b<;>first|rfl|exact(h2 _ _ rfl rfl).elim|exact absurd ⟨rfl,rfl⟩ hn))
end
theorem Xj(b o n:Nat):(⟨b,o,none⟩:Addr).add n=⟨b,o+n,none⟩:=by unfold Addr.add;split<;>simp_all
theorem XN{P:Program}{s:Sem Value}{v:Value}{w w':World}(h:s.run P w=.ok v w'):(do pure (Next.value (<-s)):Sem Next).run P w=.ok (.value v) w':=by simp[h]
section
variable{P:Program}{gl:Nat->Option (List qd)}{G:qk}{w:World}{h:List qj}{t:List qd}{a:Act}
theorem QM{e:TypeId}{k:Nat}(he:kM P e=some k)(w:World):(sizeOf e).run P w=.ok k w:=by simp only[kM,Option.map_eq_some_iff]at he;obtain⟨i,hi,rfl⟩:=he;simp[sizeOf,typeInfo,hi]
theorem Fu{e:TypeId}{k:Option Nat}(he:tyk P e=some k)(w:World):(isAgg e).run P w=.ok k.isSome w/\∀n,k=some n->(sizeOf e).run P w=.ok n w:=by
 unfold tyk at he;split at he;·rename_i hu;simp only[Option.map_eq_some_iff]at he;obtain⟨i,hi,rfl⟩:=he;exact⟨by simp[isAgg,run_underlying hu],λn hn=>by cases hn;simp[sizeOf,typeInfo,hi]⟩
 ·rename_i hu;simp only[Option.map_eq_some_iff]at he;obtain⟨i,hi,rfl⟩:=he;exact⟨by simp[isAgg,run_underlying hu],λn hn=>by cases hn;simp[sizeOf,typeInfo,hi]⟩
 ·cases he
 ·cases he
 ·cases he
 ·rename_i d h1 h2 h3 h4 hu;cases he;refine⟨?_,by simp⟩;simp only[isAgg,Sem.run_bind,run_underlying hu,Result.andThen_ok];cases d<;>first|rfl|(exfalso;first|exact h1 _ rfl|exact h2 _ _ rfl|exact h3 _ rfl)
theorem qdb{e:TypeId}{k:Option Nat}(he:tyk P e=some k){cs:List qd}{c:Array Value}{o:Nat}{x:qd}{γ:Nat->Option Nat}{imm:Nat->Nat->Option Value}(hc:qx γ imm cs c.toList)(hx:cut cs o k=some x)(w:World):∃u,(part e c o).run P w=.ok u w/\qP γ imm x u/\x.dim=x:=by
 obtain⟨h1,h2⟩:=Fu he w;obtain⟨h3,h4,h5⟩:=qgG hc hx
 cases k with
 |none=>simp only at h3 h5;refine⟨_,?_,h3,h4⟩;have:c[o]?=some (c.toList.getD o undef):=(by rw[<-Array.getElem?_toList,jh h5];simp[List.getD,jh h5]);simp only[part,Sem.run_bind,h1,Result.andThen_ok,Option.isSome_none,jl,if_false,this];rfl
 |some k=>simp only at h3 h5;refine⟨_,?_,h3,h4⟩;simp only[part,Sem.run_bind,h1,Result.andThen_ok,Option.isSome_some,if_true,h2 k rfl];have:c.extract o (o+k)=(List.take k (List.drop o c.toList)).toArray:=(by apply Array.ext';simp[Array.toList_extract,List.extract_eq_take_drop]);rw[this];rfl
theorem qp5{k:Nat}{x y:qd}{vx vy:Value}{b:Bool}{γ:Nat->Option Nat}{imm:Nat->Nat->Option Value}(hn:qrd k x y=some b)(hx:qP γ imm x vx)(hy:qP γ imm y vy){ty:TypeId}(w:World)(h0:k=0->∃e,P.underlying ty=some (.pointer e)/\∃n,kM P e=some n/\n≠0)(h1:k=1->∃ms,P.underlying ty=some (.interface ms))(h2:k=2->∃x y z,P.underlying ty=some (.func x y z))(h3:k=3->∃x y,P.underlying ty=some (.map x y)): (Op.equal ty vx vy).run P w=.ok b w:=by
 have key:∀d,(Op.equalIn (d+1) ty vx vy).run P w=.ok b w:=by
  intro d;unfold qrd at hn;split at hn
  ·obtain⟨e,he,n,U,a6⟩:=h0 rfl;split at hn<;>(try simp only[jj]at hn)<;>(try simp only[qP]at hx hy);·subst hn hx hy;simp[Op.equalIn,run_underlying he]
   ·subst hn hx;obtain⟨_,_,rfl⟩:=hy;simp[Op.equalIn,run_underlying he]
   ·subst hn hy;obtain⟨_,_,rfl⟩:=hx;simp[Op.equalIn,run_underlying he]
   ·subst hn hx;obtain⟨_,_,rfl,_⟩:=hy;simp[Op.equalIn,run_underlying he]
   ·subst hn hy;obtain⟨_,_,rfl,_⟩:=hx;simp[Op.equalIn,run_underlying he]
   ·split at hn;·rename_i e1;subst e1;cases hn;obtain⟨p,hp,rfl⟩:=hx;obtain⟨q,hq,rfl⟩:=hy;rw[hp]at hq;cases hq;rename_i o o';simp[Op.equalIn,run_underlying he,QM U,a6,sameAddr];rw[Bool.eq_iff_iff];simp
    ·cases hn
   ·cases hn
  ·obtain⟨ms,he⟩:=h1 rfl;split at hn<;>(try simp only[jj]at hn)<;>(try simp only[qP]at hx hy);·subst hn hx hy;simp[Op.equalIn,run_underlying he]
   ·subst hn hx;obtain⟨_,rfl,_⟩:=hy;simp[Op.equalIn,run_underlying he]
   ·subst hn hy;obtain⟨_,rfl,_⟩:=hx;simp[Op.equalIn,run_underlying he]
   ·cases hn
  ·obtain⟨p,q,r,he⟩:=h2 rfl;split at hn<;>(try simp only[jj]at hn)<;>(try simp only[qP]at hx hy);·subst hn hx hy;simp[Op.equalIn,run_underlying he]
   ·subst hn hx;obtain⟨_,_,rfl,_⟩:=hy;simp[Op.equalIn,run_underlying he]
   ·subst hn hy;obtain⟨_,_,rfl,_⟩:=hx;simp[Op.equalIn,run_underlying he]
   ·cases hn
  ·obtain⟨p,q,he⟩:=h3 rfl;split at hn<;>(try simp only[jj]at hn)<;>(try simp only[qP]at hx hy);·subst hn hx hy;simp[Op.equalIn,run_underlying he]
   ·subst hn hx;obtain⟨_,_,rfl⟩:=hy;simp[Op.equalIn,run_underlying he]
   ·subst hn hy;obtain⟨_,_,rfl⟩:=hx;simp[Op.equalIn,run_underlying he]
   ·cases hn
  ·cases hn
 exact key 9999
theorem yd(op:BinOp)(ho:op=.eql\/op=.neq)(ty:TypeId)(x y:Value)(b:Bool)(w:World)(h:(Op.equal ty x y).run P w=.ok b w)(hi:∀k n,x≠.int k n)(hs:∀s,x≠.string s)(hf:∀k n,x≠.float k n)(hc:∀k n m,x≠.complex k n m):(binOp op ty x y).run P w=.ok (.bool (b !=(Lu op))) w:=by
 rcases ho with rfl|rfl;·have:binOp .eql ty x y=(do pure (.bool (<-Op.equal ty x y)):Sem Value):=(by cases x<;>cases y<;>first|rfl|exact absurd rfl (hi _ _)|exact absurd rfl (hs _)|exact absurd rfl (hf _ _)|exact absurd rfl (hc _ _ _));rw[this];simp[h,Lu]
 ·have:binOp .neq ty x y=(do pure (.bool (!(<-Op.equal ty x y))):Sem Value):=(by cases x<;>cases y<;>first|rfl|exact absurd rfl (hi _ _)|exact absurd rfl (hs _)|exact absurd rfl (hf _ _)|exact absurd rfl (hc _ _ _));rw[this];simp[h,Lu]
end
section
variable{P:Program}{gl:Nat->Option (List qd)}{G:qk}{w:World}{h:List qj}{t:List qd}{a:Act}
theorem qB{α β:Type}{x:Option α}{f:α->Option β}{b:β}(h:(x >>= f)=some b):∃y,x=some y/\f y=some b:=by
 cases x with
 |none=>cases h
 |some y=>exact⟨y,rfl,h⟩
theorem Xq{α β:Type}{x:Option α}{f:α->β}{b:β}(h:x.map f=some b):∃y,x=some y/\f y=b:=by
 cases x with
 |none=>cases h
 |some y=>exact⟨y,rfl,by simpa using h⟩
theorem uJ(hr:Rel P gl G h w)(ht:Z0 G w t a.tmps){x:Operand}{ax:qM}(hx:opd gl x=some ax){d m n:Nat}(hb:bound t (some ax) d=some n)(hm:n<=m)(c:BoundsCode): (Instr.sliceBound (a.eval x) m c).run P w=.ok n w:=by
 have hv:=Zg hr ht hx;simp only[bound]at hb;split at hb
 ·rename_i k i he;rw[he]at hv;simp only[qk.V,qP]at hv;split at hb;·rename_i h0;cases hb;have:0<=i/\i<=(m:Int):=⟨h0,zo⟩;simp[Instr.sliceBound,hv,asIntOf,this]
  ·cases hb
 ·cases hb
theorem Fz(hr:Rel P gl G h w)(ht:Z0 G w t a.tmps){lo hi:Option Operand}{alo ahi:Option qM}(hlo:Wy gl lo=some alo)(hhi:Wy gl hi=some ahi){len cap l m:Nat}(hl:bound t alo 0=some l)(hm:bound t ahi len=some m)(h1:l<=m)(h2:m<=cap)(sl:Bool): (Instr.sliceBounds sl len cap (lo.map a.eval) (hi.map a.eval) none).run P w=.ok (l,m,cap) w:=by
 have hm':∀c:BoundsCode,(match hi.map a.eval,(none:Option Value)with
   |some v,some _=>Instr.sliceBound v cap .slice3B
   |some v,none=>Instr.sliceBound v cap c
   |none,none=>pure len
   |none, some _ => stuck "Slice: max without high" : Sem Nat).run P w=.ok m w := by
  intro c
  cases hi with
  |none=>
   simp only[Wy,jj]at hhi
   subst hhi
   simp only[bound,jj]at hm
   subst hm
   rfl
  |some x=>
   simp only[Wy]at hhi
   obtain⟨ax,hx,rfl⟩:=Xq hhi
   exact uJ hr ht hx hm zo c
 have hl':(match lo.map a.eval with
   |some v=>Instr.sliceBound v m .sliceB
   |none=>pure 0:Sem Nat).run P w=.ok l w:=by
  cases lo with
  |none=>
   simp only[Wy,jj]at hlo
   subst hlo
   simp only[bound,jj]at hl
   subst hl
   rfl
  |some x=>
   simp only[Wy]at hlo
   obtain⟨ax,hx,rfl⟩:=Xq hlo
   exact uJ hr ht hx hl h1 .sliceB
 simp only[Instr.sliceBounds,Sem.run_bind,Sem.run_pure,Result.andThen_ok];have hm'':=hm' (if sl then .sliceAcap else .sliceAlen)
 cases hh:hi.map a.eval with
 |none=>
  rw[hh]at hm'';simp only[Sem.run_pure,Result.ok.injEq]at hm'';obtain⟨rfl,_⟩:=hm'';simp only[]
  cases hq:lo.map a.eval with
  |none=>rw[hq]at hl';simp only[Sem.run_pure,Result.ok.injEq]at hl';obtain⟨rfl,_⟩:=hl';rfl
  |some v=>rw[hq]at hl';simp only at hl';simp[hl']
 |some u=>
  rw[hh]at hm'';simp only at hm'';simp only[Sem.run_bind,hm'',Result.andThen_ok]
  cases hq:lo.map a.eval with
  |none=>rw[hq]at hl';simp only[Sem.run_pure,Result.ok.injEq]at hl';obtain⟨rfl,_⟩:=hl';rfl
  |some v=>rw[hq]at hl';simp only at hl';simp[hl']
end
section
variable{P:Program}{gl:Nat->Option (List qd)}{G:qk}{w:World}{h:List qj}{t:List qd}{a:Act}
def Xg(P:Program)(G:qk)(w:World)(a:Act)(o:Oper)(v:qd):Prop:=∃u,(execOp a.eval o).run P w=.ok (.value u) w/\G.V v u/\v.dim=v
theorem qek(hr:Rel P gl G h w)(ht:Z0 G w t a.tmps){o:Oper}{x:Operand}{ax:qM}(ho:o.op=.move x)(hx:opd gl x=some ax):Xg P G w a o (ev t ax):=⟨a.eval x,by simp[execOp,ho],Zg hr ht hx,uZ t ax⟩
theorem qem(hr:Rel P gl G h w)(ht:Z0 G w t a.tmps){o:Oper}{c x y:Operand}{ac ax ay:qM}{v:qd}(ho:o.op=.pick c x y)(hc:opd gl c=some ac)(hx:opd gl x=some ax)(hy:opd gl y=some ay)(hp:pureV t (.pick ac ax ay)=some v):Xg P G w a o v:=by
 have U:=Zg hr ht hc;simp only[pureV]at hp;split at hp;·rename_i he;rw[he]at U;simp only[qk.V,qP]at U;cases hp;exact⟨a.eval x,by simp[execOp,ho,U,asBool],Zg hr ht hx,uZ t ax⟩
 ·rename_i he;rw[he]at U;simp only[qk.V,qP]at U;cases hp;exact⟨a.eval y,by simp[execOp,ho,U,asBool],Zg hr ht hy,uZ t ay⟩
 ·cases hp
theorem qel(hr:Rel P gl G h w)(ht:Z0 G w t a.tmps){o:Oper}{x:Operand}{ax:qM}{v:qd}(ho:o.op=.nilCheck x)(hx:opd gl x=some ax)(hp:pureV t (.nilc ax)=some v):Xg P G w a o v:=by
 have hv:=Zg hr ht hx;simp only[pureV]at hp;split at hp<;>rename_i he<;>(try (rw[he]at hv))<;>(try cases hp)<;>simp only[qk.V,qP]at hv;·obtain⟨b,hb,U⟩:=hv;exact⟨a.eval x,by simp[execOp,ho,U],by simp only[qk.V,qP];exact⟨b,hb,U⟩,rfl⟩
 ·obtain⟨b,p,U,hc⟩:=hv;exact⟨a.eval x,by simp[execOp,ho,U],by simp only[qk.V,qP];exact⟨b,p,U,hc⟩,rfl⟩
 ·obtain⟨b,p,U,hc⟩:=hv;exact⟨a.eval x,by simp[execOp,ho,U],by simp only[qk.V,qP];exact⟨b,p,U,hc⟩,rfl⟩
 ·obtain⟨b,hb,U⟩:=hv;exact⟨a.eval x,by simp[execOp,ho,U],by simp only[qk.V,qP];exact⟨b,hb,U⟩,rfl⟩
 ·obtain⟨b,U,hc⟩:=hv;exact⟨a.eval x,by simp[execOp,ho,U],by simp only[qk.V,qP];exact⟨b,U,hc⟩,rfl⟩
theorem qi4{x:qd}{v:Value}(hx:G.V x v)(hs:(∃k n,x=.int k n)\/(∃s,x=.str s)):(v≠.nilIface)/\∀xs,v≠.agg xs:=by
 rcases hs with⟨k,n,rfl⟩|⟨s,rfl⟩;·simp only[qk.V,qP]at hx;subst hx;simp
 ·simp only[qk.V,qP]at hx;obtain⟨b,rfl,_⟩:=hx;simp
theorem qdK{op:BinOp}{x y v:qd}(hv:gz op x y=some v):(∃k n,x=.int k n)\/(∃s,x=.str s):=by
 unfold gz at hv;split at hv;·exact .inl ⟨_,_,rfl⟩
 ·exact .inr ⟨_,rfl⟩
 ·cases hv
theorem Kb(hr:Rel P gl G h w)(ht:Z0 G w t a.tmps){o:Oper}{op:BinOp}{ty yt:TypeId}{x y:Operand}{ax ay:qM}{v:qd}(ho:o.op=.binOp op ty x y yt)(hx:opd gl x=some ax)(hy:opd gl y=some ay)(hp:gz op (ev t ax) (ev t ay)=some v):Xg P G w a o v:=by have U:=Zg hr ht hx;have a6:=Zg hr ht hy;obtain⟨h1,h2,h3⟩:=qkI (P:=P) hp w U a6 ty;obtain⟨n1,n2⟩:=qi4 U (qdK hp);have hg:=Dq (P:=P) (op:=op) (t:=ty) (x:=x) (y:=y) (a:=a.eval x) (b:=a.eval y) w (.inl λhh=>n1 hh.1) (λxs _ hh _=>n2 xs hh);exact⟨WW v,by simp[execOp,ho,hg,h1],h2,h3⟩
theorem qhA(hr:Rel P gl G h w)(ht:Z0 G w t a.tmps){o:Oper}{op:BinOp}{ty yt:TypeId}{x y:Operand}{ax ay:qM}{v:qd}(ho:o.op=.binOp op ty x y yt)(hx:opd gl x=some ax)(hy:opd gl y=some ay)(hop:op=.eql\/op=.neq)(hu:P.underlying ty=some .bool)(hp:pureV t (.eqb (Lu op) ax ay)=some v):Xg P G w a o v:=by
 have a6:=Zg hr ht hx;have U:=Zg hr ht hy;simp only[pureV]at hp;split at hp;·rename_i p q e1 e2;rw[e1]at a6;rw[e2]at U;simp only[qk.V,qP]at a6 U;cases hp;have he:(Op.equal ty (.bool p) (.bool q)).run P w=.ok (p==q) w:=(by have key:∀d,(Op.equalIn (d+1) ty (.bool p) (.bool q)).run P w=.ok (p==q) w:=λd=>(by simp[Op.equalIn,run_underlying hu]);exact key 9999);have hb:=yd op hop ty (.bool p) (.bool q) _ w he (by simp) (by simp) (by simp) (by simp);have hg:=Dq (P:=P) (op:=op) (t:=ty) (x:=x) (y:=y) (a:=.bool p) (b:=.bool q) w (.inl (by simp)) (by simp);exact⟨_,by simp[execOp,ho,a6,U,hg,hb];rfl,by simp[qk.V,qP],rfl⟩
 ·cases hp
theorem D4(hr:Rel P gl G h w)(ht:Z0 G w t a.tmps){o:Oper}{op:BinOp}{ty yt:TypeId}{x y:Operand}{ax ay:qM}{v:qd}{k:Nat}(ho:o.op=.binOp op ty x y yt)(hx:opd gl x=some ax)(hy:opd gl y=some ay)(hop:op=.eql\/op=.neq)(h0:k=0->∃e,P.underlying ty=some (.pointer e)/\∃n,kM P e=some n/\n≠0)(h1:k=1->(∃ms,P.underlying ty=some (.interface ms))/\(isC x=true\/isC y=true))(h2:k=2->∃x y z,P.underlying ty=some (.func x y z))(h3:k=3->∃x y,P.underlying ty=some (.map x y))(hp:pureV t (.eqi k (Lu op) ax ay)=some v):Xg P G w a o v:=by
 have U:=Zg hr ht hx;have a7:=Zg hr ht hy;simp only[pureV]at hp;obtain⟨b,hb,rfl⟩:=Xq hp;have he:=qp5 hb U a7 (ty:=ty) w h0 (λe=>(h1 e).1) h2 h3
 have a6:(∀k n,a.eval x≠.int k n)/\(∀s,a.eval x≠.string s)/\(∀k n,a.eval x≠.float k n)/\(∀k n m,a.eval x≠.complex k n m)/\(∀xs,a.eval x≠.agg xs)/\(k≠1->a.eval x≠.nilIface):=by
  unfold qrd at hb;generalize ev t ax=p at hb U;generalize ev t ay=q at hb a7;generalize a.eval x=u at U⊢;split at hb
  all_goals first
   |(cases hb;done)
   |(split at hb<;>first
    |(cases hb;done)
    |(simp only[qk.V,qP]at U
      first
       |(subst U;simp;done)
       |(obtain⟨_,_,rfl⟩:=U;simp;done)
       |(obtain⟨_,_,rfl,_⟩:=U;simp;done)
       |(obtain⟨_,rfl,_⟩:=U;simp;done)))
 obtain⟨s1,s2,s3,s4,s5,s6⟩:=a6;have a8:=yd op hop ty (a.eval x) (a.eval y) _ w he s1 s2 s3 s4
 have hg:=Dq (P:=P) (op:=op) (t:=ty) (x:=x) (y:=y) (a:=a.eval x) (b:=a.eval y) w (by
  by_cases hk:k=1
  ·rcases(h1 hk).2 with h3|h3;·exact .inr (.inl h3)
   ·exact .inr (.inr h3)
  ·exact .inl λhh=>s6 hk hh.1) (λxs _ hh _=>s5 xs hh)
 exact⟨_,by simp[execOp,ho,hg,a8];rfl,by simp[qk.V,qP],rfl⟩
theorem qlv(hr:Rel P gl G h w)(ht:Z0 G w t a.tmps){o:Oper}{op:UnOp}{ty:TypeId}{x:Operand}{ax:qM}{v:qd}(ho:o.op=.unOp op ty x)(hx:opd gl x=some ax)(hp:pureV t (.un op ax)=some v):Xg P G w a o v:=by
 have hv:=Zg hr ht hx;simp only[pureV]at hp;unfold unV at hp;split at hp<;>(try cases hp)<;>(rename_i e1;rw[e1]at hv;simp only[qk.V,qP]at hv);·exact⟨_,by simp[execOp,ho,hv,Op.unary,Op.intArith];rfl,by simp[qk.V,qP],rfl⟩
 ·exact⟨_,by simp[execOp,ho,hv,Op.unary];rfl,by simp[qk.V,qP],rfl⟩
theorem qhz(hr:Rel P gl G h w)(ht:Z0 G w t a.tmps){o:Oper}{s d:TypeId}{x:Operand}{ax:qM}{v:qd}{k j:IntKind}(ho:o.op=.convert s d x)(hx:opd gl x=some ax)(hs:P.underlying s=some (.int j))(hd:P.underlying d=some (.int k))(hp:pureV t (.cvi k ax)=some v):Xg P G w a o v:=by
 have hv:=Zg hr ht hx;simp only[pureV]at hp;split at hp;·rename_i e1;rw[e1]at hv;simp only[qk.V,qP]at hv;cases hp;exact⟨_,by simp[execOp,ho,hv,convert,run_underlying hs,run_underlying hd,Conv.intToInt];rfl,by simp[qk.V,qP],rfl⟩
 ·cases hp
theorem qhH(hr:Rel P gl G h w)(ht:Z0 G w t a.tmps){o:Oper}{ty:TypeId}{x:Operand}{ax:qM}{v:qd}(ho:o.op=.makeInterface ty x)(hx:opd gl x=some ax){d:TypeDesc}(hu:P.underlying ty=some d)(hd:∀ms,d≠.interface ms)(hp:pureV t (.mkI ty ax)=some v):Xg P G w a o v:=by
 have hv:=Zg hr ht hx;simp only[pureV]at hp;have a6:(Instr.makeInterface ty (a.eval x)).run P w=.ok (.iface ty (a.eval x)) w:=by simp only[Instr.makeInterface,Sem.run_bind,run_underlying hu,Result.andThen_ok];cases d<;>first|rfl|exact absurd rfl (hd _)
 have U:∀v,v=.iface ty (ev t ax)->Xg P G w a o v:=by rintro v rfl;exact⟨.iface ty (a.eval x),by simp[execOp,ho,a6],by simp only[qk.V,qP];exact⟨_,rfl,hv⟩,rfl⟩
 split at hp;·cases hp
 ·cases hp;exact U _ rfl
theorem qhG(hr:Rel P gl G h w)(ht:Z0 G w t a.tmps){o:Oper}{f:FuncId}{x y:Array Operand}{ax ay:List qM}{v:qd}(ho:o.op=.makeFunc (.func f) x y)(hx:qkq gl x=some ax)(hy:qkq gl y=some ay)(hp:pureV t (.mkF f ax ay)=some v):Xg P G w a o v:=by simp only[pureV,jj]at hp;subst hp;exact⟨.func (.func f) (x.map a.eval) (y.map a.eval),by simp[execOp,ho,Instr.makeFunc],by simp only[qk.V,qP];exact⟨_,_,rfl,yZ hr ht hx,yZ hr ht hy⟩,rfl⟩
theorem qlu(hr:Rel P gl G h w)(ht:Z0 G w t a.tmps){o:Oper}{s:TypeId}{x:Operand}{ax:qM}{v:qd}{i:Nat}{fs:Array Field}{f:Field}(ho:o.op=.fieldAddr s x i)(hx:opd gl x=some ax)(hu:P.underlying s=some (.struct fs))(hf:fs[i]?=some f){n:Nat}(hn:kM P f.type=some n)(a6:n≠0)(hp:pureV t (.fa f.offset ax)=some v):Xg P G w a o v:=by
 have hv:=Zg hr ht hx;simp only[pureV]at hp;have U:∀b p,a.eval x=.pointer (some ⟨b,p,none⟩)->(Instr.fieldAt s (a.eval x) i).run P w=.ok (.pointer (some ⟨b,p+f.offset,none⟩)) w:=by intro b p hb;simp[Instr.fieldAt,run_underlying hu,hf,hb,Instr.sureAddr,fieldPlace,QM hn,a6,Xj]
 split at hp;·rename_i e1;rw[e1]at hv;simp only[qk.V,qP]at hv;cases hp;obtain⟨b,hb,he⟩:=hv;exact⟨_,by simp[execOp,ho,U _ _ he];rfl,by simp only[qk.V,qP];exact⟨b,hb,rfl⟩,rfl⟩
 ·rename_i e1;rw[e1]at hv;simp only[qk.V,qP]at hv;cases hp;obtain⟨b,p,he,hc⟩:=hv;exact⟨_,by simp[execOp,ho,U _ _ he];rfl,by simp only[qk.V,qP];exact⟨b,p,by rw[jt],hc⟩,rfl⟩
 ·cases hp
theorem qhD(hr:Rel P gl G h w)(ht:Z0 G w t a.tmps){o:Oper}{s:TypeId}{x:Operand}{ax:qM}{v:qd}{i:Nat}{fs:Array Field}{f:Field}{k:Option Nat}(ho:o.op=.field s x i)(hx:opd gl x=some ax)(hu:P.underlying s=some (.struct fs))(hf:fs[i]?=some f)(hk:tyk P f.type=some k)(hp:pureV t (.fld f.offset k ax)=some v):Xg P G w a o v:=by
 have hv:=Zg hr ht hx;simp only[pureV]at hp;split at hp;·rename_i e1;rw[e1]at hv;simp only[qk.V,qP]at hv;obtain⟨c,he,hc⟩:=hv;obtain⟨u,h1,h2,h3⟩:=qdb hk hc hp w;exact⟨u,by simp[execOp,ho,he,Instr.field,run_underlying hu,hf,asAgg,h1],h2,h3⟩
 ·cases hp
theorem qhC(hr:Rel P gl G h w)(ht:Z0 G w t a.tmps){o:Oper}{x:Operand}{ax:qM}{v:qd}{i:Nat}(ho:o.op=.extract x i)(hx:opd gl x=some ax)(hp:pureV t (.ext ax i)=some v):Xg P G w a o v:=by
 have hv:=Zg hr ht hx;simp only[pureV]at hp;split at hp;·rename_i e1;rw[e1]at hv;simp only[qk.V,qP]at hv;obtain⟨c,he,hc⟩:=hv;obtain⟨y,hy,rfl⟩:=Xq hp;obtain⟨u,hu,h1⟩:=hc.get hy;simp only[Array.getElem?_toList]at hu;exact⟨u,by simp[execOp,ho,he,Instr.extract,hu],Qq h1,Qh _⟩
 ·cases hp
end
section
variable{P:Program}{gl:Nat->Option (List qd)}{G:qk}{w:World}{h:List qj}{t:List qd}{a:Act}
theorem LY(s:ByteArray)(l m:Nat):(s.extract l m).data.toList=(s.data.toList.drop l).take (m - l):=by simp[ByteArray.data_extract,Array.toList_extract,List.extract_eq_take_drop]
theorem qeo(hr:Rel P gl G h w)(ht:Z0 G w t a.tmps){o:Oper}{ty:TypeId}{x:Operand}{lo hi:Option Operand}{ax:qM}{U a6:Option qM}{v:qd}(ho:o.op=.slice ty x lo hi none)(hx:opd gl x=some ax)(a8:Wy gl lo=some U)(ab:Wy gl hi=some a6)(hu:P.underlying ty=some .string)(hp:pureV t (.subS ax U a6)=some v):Xg P G w a o v:=by
 have hv:=Zg hr ht hx;simp only[pureV]at hp;split at hp;rotate_left;·cases hp
 rename_i s hs;rw[hs]at hv;simp only[qk.V,qP]at hv;obtain⟨b,he,hb⟩:=hv;have a7:b.size=s.length:=by rw[<-hb];rfl
 split at hp
 ·rename_i m hm;split at hp
  ·rename_i l hl;split at hp
   ·rename_i aa;cases hp;have ac:=Fz hr ht a8 ab (len:=b.size) (cap:=b.size) (w:=w) hl (by rw[a7];exact hm) aa.1 zo false;refine⟨.string (b.extract l m),?_,?_,rfl⟩;·simp[execOp,ho,he,Instr.sliceAt,Instr.slice,run_underlying hu,ac]
    ·simp only[qk.V,qP];exact⟨_,rfl,by rw[LY,hb]⟩
   ·cases hp
  ·cases hp
 ·cases hp
theorem qen(hr:Rel P gl G h w)(ht:Z0 G w t a.tmps){o:Oper}{ty e:TypeId}{x:Operand}{lo hi:Option Operand}{ax:qM}{af ah:Option qM}{v:qd}{k:Nat}(ho:o.op=.slice ty x lo hi none)(hx:opd gl x=some ax)(ad:Wy gl lo=some af)(ae:Wy gl hi=some ah)(hu:P.underlying ty=some (.slice e))(hk:kM P e=some k)(hp:pureV t (.subL k ax af ah)=some v):Xg P G w a o v:=by
 have hv:=Zg hr ht hx;simp only[pureV]at hp;split at hp;rotate_left
 ·rename_i id p0 len cap more hs;rw[hs]at hv;simp only[qk.V,qP]at hv;obtain⟨b,c,hb,he,h1,h2,h3,h4⟩:=hv;split at hp
  ·rename_i m hm;split at hp
   ·rename_i l hl;split at hp
    ·rename_i aa;have ab:=Fz hr ht ad ae (len:=len) (cap:=c) (w:=w) hl hm aa.1 zo true;have a8:(execOp a.eval o).run P w=.ok (.value (.slice (if c=l then some ⟨b,p0,none⟩else(some (⟨b,p0,none⟩:Addr)).map (·.add (l*k))) (m - l) (c - l))) w:=(by simp[execOp,ho,he,Instr.sliceAt,Instr.slice,run_underlying hu,ab,QM hk]);split at hp
     ·rename_i al;split at hp;·rename_i a6;cases hp;have ap:=h3 a6;refine⟨_,a8,?_,rfl⟩;simp only[qk.V,qP];exact⟨_,_,_,rfl,by simp;omega,zo,λ_=>zo,λ_=>zo,⟨0,by simp⟩,.inl trivial⟩
      ·cases hp
     ·rename_i al;split at hp
      ·rename_i U;cases hp;refine⟨_,a8,?_,rfl⟩;rw[if_neg zo];simp only[qk.V,qP,Option.map_some,Xj];refine⟨b,c - l,hb,rfl,zo,zo,λa6=>by have:=h3 a6;omega,λa6=>?_⟩
       have U:more=k:=by
        rcases U with U|U;·exact absurd U a6
        ·exact U
       have h5:=h4 a6;rw[U]at h5⊢;have e5:p0+l*k+(c - l)*k=p0+c*k:=(by rw[jt,<-Nat.add_mul];congr 2;omega);rw[e5];exact h5
      ·cases hp
    ·cases hp
   ·cases hp
  ·cases hp
 ·cases hp
 rename_i xs f hs;have aj:(qd.lst xs f).dim=.lst xs f:=by rw[<-hs];exact uZ t ax
 rw[hs]at hv;simp only[qk.V,qP]at hv;obtain⟨b,len,cap,he,h1,h2,h3,h4,⟨k',h6⟩,h5⟩:=hv;split at hp
 ·rename_i m hm;split at hp
  ·rename_i l hl;split at hp
   ·rename_i aa;split at hp
    ·rename_i ak;cases hp;have ab:=Fz hr ht ad ae (len:=len) (cap:=cap) (w:=w) hl (by rw[h1];exact hm) aa.1 zo true;refine⟨.slice (if cap=l then b else b.map (·.add (l*k))) (m - l) (cap - l),?_,?_,?_⟩;·simp[execOp,ho,he,Instr.sliceAt,Instr.slice,run_underlying hu,ab,QM hk]
     ·simp only[qk.V,qP];refine⟨_,_,_,rfl,by simp;omega,zo,?_,?_,⟨k',λx hx=>h6 x (List.mem_of_mem_drop (List.mem_of_mem_take hx))⟩,?_⟩
      ·intro hf;split at hf;·rename_i am;have:=h3 hf;omega
       ·cases hf
      ·intro a7;split at a7;·have:=h4 a7;omega
       ·rw[Option.map_eq_none_iff]at a7;have:=h4 a7;omega
      ·rcases h5 with rfl|⟨p,q,rfl,hE⟩;·left;simp
       ·by_cases hc:cap=l;·left;have:m - l=0:=zo;simp[this]
        ·right;rw[if_neg hc];refine⟨p,q+l*k,by simp[Xj],?_⟩;by_cases ac:xs=[];·subst ac;simp[Zd]
         ·have ai:k'=k:=(by obtain⟨y,ys,rfl⟩:=List.exists_cons_of_ne_nil ac;have e1:=h6 y (by simp);simp at ak;omega);subst ai;exact Zd.take (Zd.drop h6 hE l zo) _
     ·cases f<;>first|(simp[qd.dim]at aj;done)|(split<;>rfl)
    ·cases hp
   ·cases hp
  ·cases hp
 ·cases hp
theorem qeg(hr:Rel P gl G h w)(ht:Z0 G w t a.tmps){o:Oper}{ty e:TypeId}{x i:Operand}{ax ai:qM}{v:qd}{k:Nat}(ho:o.op=.indexAddr ty x i)(hx:opd gl x=some ax)(hi:opd gl i=some ai)(hu:P.underlying ty=some (.slice e))(hk:kM P e=some k)(hp:pureV t (.ixaL k ax ai)=some v):Xg P G w a o v:=by
 have hv:=Zg hr ht hx;have hn:=Zg hr ht hi;simp only[pureV]at hp;split at hp
 ·rename_i xs f kk n e1 e2;rw[e1]at hv;rw[e2]at hn;simp only[qk.V,qP]at hv hn;obtain⟨b,len,cap,he,h1,h2,h3,h4,⟨k',h6⟩,h5⟩:=hv;split at hp
  ·rename_i hb;split at hp
   ·rename_i y hy;split at hp
    ·rename_i a6;cases hp;rcases h5 with rfl|⟨p,q,rfl,hE⟩;·simp at hy
     ·have a7:k'=k:=(by rw[<-h6 y (List.mem_of_getElem? hy)];exact a6);subst a7;have hc:=Zd.get h6 hE hy;refine⟨.pointer (some ⟨p,q+n.toNat*k',none⟩),?_,?_,rfl⟩;·have U:0<=n/\n<(len:Int):=⟨hb.1,zo⟩;simp[execOp,ho,he,hn,Instr.indexAt,asIntOf,run_underlying hu,U,QM hk,Xj]
      ·simp only[qk.V,qP];exact⟨p,_,rfl,hc⟩
    ·cases hp
   ·cases hp
  ·cases hp
 ·rename_i id p0 len cap more kk n e1 e2;rw[e1]at hv;rw[e2]at hn;simp only[qk.V,qP]at hv hn;obtain⟨b,c,hb,he,_⟩:=hv;split at hp
  ·rename_i U;cases hp;refine⟨.pointer (some ⟨b,p0+n.toNat*k,none⟩),?_,?_,rfl⟩;·simp[execOp,ho,he,hn,Instr.indexAt,asIntOf,run_underlying hu,U,QM hk,Xj]
   ·simp only[qk.V,qP];exact⟨b,hb,rfl⟩
  ·cases hp
 ·cases hp
theorem qef(hr:Rel P gl G h w)(ht:Z0 G w t a.tmps){o:Oper}{ty e:TypeId}{x i:Operand}{ax ai:qM}{v:qd}{k len:Nat}(ho:o.op=.indexAddr ty x i)(hx:opd gl x=some ax)(hi:opd gl i=some ai)(hu:P.underlying ty=some (.array len e))(hk:kM P e=some k)(hp:pureV t (.ixaA len k ax ai)=some v):Xg P G w a o v:=by
 have hv:=Zg hr ht hx;have hn:=Zg hr ht hi;simp only[pureV]at hp;have U:∀b p kk n,a.eval x=.pointer (some ⟨b,p,none⟩)->a.eval i=.int kk n->0<=n/\n<(len:Int)->(Instr.indexAt ty (a.eval x) (a.eval i)).run P w=.ok (.pointer (some ⟨b,p+n.toNat*k,none⟩)) w:=by intro b p kk n h1 h2 h3;simp[h1,h2,Instr.indexAt,asIntOf,run_underlying hu,Instr.sureAddr,h3,QM hk,Xj]
 split at hp
 ·rename_i e1 e2;rw[e1]at hv;rw[e2]at hn;simp only[qk.V,qP]at hv hn;obtain⟨b,hb,he⟩:=hv;split at hp;·rename_i a6;cases hp;exact⟨_,by simp only[execOp,ho];exact XN (U _ _ _ _ he hn a6),by simp only[qk.V,qP];exact⟨b,hb,rfl⟩,rfl⟩
  ·cases hp
 ·rename_i e1 e2;rw[e1]at hv;rw[e2]at hn;simp only[qk.V,qP]at hv hn;obtain⟨b,p,he,hc⟩:=hv;split at hp;·rename_i a6;cases hp;exact⟨_,by simp only[execOp,ho];exact XN (U _ _ _ _ he hn a6),by simp only[qk.V,qP];exact⟨b,p,by rw[jt],hc⟩,rfl⟩
  ·cases hp
 ·cases hp
theorem qhF(hr:Rel P gl G h w)(ht:Z0 G w t a.tmps){o:Oper}{ty:TypeId}{x i:Operand}{ax ai:qM}{v:qd}(ho:o.op=.index ty x i)(hx:opd gl x=some ax)(hi:opd gl i=some ai)(hu:P.underlying ty=some .string)(hp:pureV t (.ixS ax ai)=some v):Xg P G w a o v:=by
 have hv:=Zg hr ht hx;have hn:=Zg hr ht hi;simp only[pureV]at hp;split at hp
 ·rename_i e1 e2;rw[e1]at hv;rw[e2]at hn;simp only[qk.V,qP]at hv hn;obtain⟨b,he,hb⟩:=hv;split at hp;·rename_i h0;obtain⟨c,hc,rfl⟩:=Xq hp;rename_i n;have U:b[n.toNat]?=some c:=(by rw[<-hb]at hc;simp only[Array.getElem?_toList]at hc;obtain⟨h1,h2⟩:=je.1 hc;have:n.toNat<b.size:=h1;rw[getElem?_pos b n.toNat this];exact congrArg some h2);exact⟨_,by simp[execOp,ho,he,hn,Instr.index,asIntOf,run_underlying hu,h0,U];rfl,by simp[qk.V,qP],rfl⟩
  ·cases hp
 ·cases hp
theorem qhE(hr:Rel P gl G h w)(ht:Z0 G w t a.tmps){o:Oper}{ty e:TypeId}{x i:Operand}{ax ai:qM}{v:qd}{k:Option Nat}{len:Nat}(ho:o.op=.index ty x i)(hx:opd gl x=some ax)(hi:opd gl i=some ai)(hu:P.underlying ty=some (.array len e))(hk:tyk P e=some k){n:Nat}(a6:kM P e=some n)(U:n=k.getD 1)(hp:pureV t (.ixA len k ax ai)=some v):Xg P G w a o v:=by
 have hv:=Zg hr ht hx;have hn:=Zg hr ht hi;simp only[pureV]at hp;split at hp
 ·rename_i e1 e2;rw[e1]at hv;rw[e2]at hn;simp only[qk.V,qP]at hv hn;obtain⟨c,he,hc⟩:=hv;split at hp;·rename_i m hb;obtain⟨u,h1,h2,h3⟩:=qdb hk hc hp w;rw[<-U]at h1;exact⟨u,by simp[execOp,ho,he,hn,Instr.index,asIntOf,run_underlying hu,hb,QM a6,h1],h2,h3⟩
  ·cases hp
 ·cases hp
theorem qej(hr:Rel P gl G h w)(ht:Z0 G w t a.tmps){o:Oper}{c:Go.Call}{x:Operand}{ty:TypeId}{ax:qM}{v:qd}(ho:o.op=.call c)(hc:c.callee=.builtin .len)(U:c.args.toList=[x])(a6:c.argTypes.toList=[ty])(hx:opd gl x=some ax)(hu:P.underlying ty=some .string)(hp:pureV t (.len true ax)=some v):Xg P G w a o v:=by
 have hv:=Zg hr ht hx;have ea:c.args=#[x]:=by rw[<-Array.toArray_toList (xs:=c.args),U]
 have et:c.argTypes=#[ty]:=by rw[<-Array.toArray_toList (xs:=c.argTypes),a6]
 simp only[pureV]at hp;split at hp;·rename_i hs;rw[hs]at hv;simp only[qk.V,qP]at hv;obtain⟨b,he,hb⟩:=hv;cases hp;rename_i s;have a7:b.size=s.length:=(by rw[<-hb];rfl);exact⟨_,by simp[execOp,ho,hc,ea,et,resolve,invoke,builtin,Builtin.len_,run_underlying hu,he];rfl,by simp[qk.V,qP,goInt,a7],rfl⟩
 ·cases hp
theorem qei(hr:Rel P gl G h w)(ht:Z0 G w t a.tmps){o:Oper}{c:Go.Call}{x:Operand}{ty e:TypeId}{ax:qM}{v:qd}(ho:o.op=.call c)(hc:c.callee=.builtin .len)(U:c.args.toList=[x])(a6:c.argTypes.toList=[ty])(hx:opd gl x=some ax)(hu:P.underlying ty=some (.slice e))(hp:pureV t (.len false ax)=some v):Xg P G w a o v:=by
 have hv:=Zg hr ht hx;have ea:c.args=#[x]:=by rw[<-Array.toArray_toList (xs:=c.args),U]
 have et:c.argTypes=#[ty]:=by rw[<-Array.toArray_toList (xs:=c.argTypes),a6]
 simp only[pureV]at hp;split at hp;·rename_i hs;rw[hs]at hv;simp only[qk.V,qP]at hv;obtain⟨b,len,cap,he,h1,_⟩:=hv;cases hp;exact⟨_,by simp[execOp,ho,hc,ea,et,resolve,invoke,builtin,Builtin.len_,run_underlying hu,he];rfl,by simp[qk.V,qP,goInt,h1],rfl⟩
 ·rename_i hs;rw[hs]at hv;simp only[qk.V,qP]at hv;obtain⟨b,cap,hb,he,_⟩:=hv;cases hp;exact⟨_,by simp[execOp,ho,hc,ea,et,resolve,invoke,builtin,Builtin.len_,run_underlying hu,he];rfl,by simp[qk.V,qP,goInt],rfl⟩
 ·rename_i hs;rw[hs]at hv;simp only[qk.V,qP]at hv;cases hp;exact⟨_,by simp[execOp,ho,hc,ea,et,resolve,invoke,builtin,Builtin.len_,run_underlying hu,hv];rfl,by simp[qk.V,qP,goInt],rfl⟩
 ·rename_i hs;rw[hs]at hv;simp only[qk.V,qP]at hv;obtain⟨b,hv⟩:=hv;cases hp;exact⟨_,by simp[execOp,ho,hc,ea,et,resolve,invoke,builtin,Builtin.len_,run_underlying hu,hv];rfl,by simp[qk.V,qP,goInt],rfl⟩
 ·cases hp
theorem qcC(hr:Rel P gl G h w)(ht:Z0 G w t a.tmps){o:Oper}{c:Go.Call}{x y:Operand}{ax ay:qM}{v:qd}{isMax:Bool}(ho:o.op=.call c)(hc:c.callee=.builtin (if isMax then .max else .min))(U:c.args.toList=[x,y])(hx:opd gl x=some ax)(hy:opd gl y=some ay)(hp:pureV t (.mm isMax ax ay)=some v):Xg P G w a o v:=by
 have hv:=Zg hr ht hx;have hn:=Zg hr ht hy;have ea:c.args=#[x,y]:=by rw[<-Array.toArray_toList (xs:=c.args),U]
 simp only[pureV]at hp;split at hp
 ·rename_i k p j q e1 e2;rw[e1]at hv;rw[e2]at hn;simp only[qk.V,qP]at hv hn;cases hp;cases isMax;·exact⟨_,by simp[execOp,ho,hc,ea,resolve,invoke,builtin,Builtin.min_,Builtin.min2,hv,hn];rfl,by simp[qk.V,qP],rfl⟩
  ·exact⟨_,by simp[execOp,ho,hc,ea,resolve,invoke,builtin,Builtin.max_,Builtin.max2,hv,hn];rfl,by simp[qk.V,qP],rfl⟩
 ·cases hp
theorem qeh{o:Oper}{c:Go.Call}{x:Operand}{ty e:TypeId}{n:Nat}(ho:o.op=.call c)(hc:c.callee=.builtin .len)(U:c.args.toList=[x])(a6:c.argTypes.toList=[ty])(hu:P.underlying ty=some (.array n e)):Xg P G w a o (.int .i64 n):=by have ea:c.args=#[x]:=(by rw[<-Array.toArray_toList (xs:=c.args),U]);have et:c.argTypes=#[ty]:=(by rw[<-Array.toArray_toList (xs:=c.argTypes),a6]);exact⟨_,by simp[execOp,ho,hc,ea,et,resolve,invoke,builtin,Builtin.len_,run_underlying hu];rfl,by simp[qk.V,qP,goInt],rfl⟩
theorem qna{ty:TypeId}{z:qd}(hz:QI P ty=some z)(w:World):∃u,(zeroValue ty).run P w=.ok u w/\(∀γ imm,qP γ imm z u)/\z.lower 0=true:=by
 unfold QI at hz;split at hz;·rename_i i hi;obtain⟨u,hu,hc⟩:=qB (by simpa[jA]using hz);exact⟨u,by simp[zeroValue,typeInfo,hi,hu],λγ imm=>(kR hc).1,(kR (γ:=λ_=>none) (imm:=λ_ _=>none) hc).2⟩
 ·cases hz
theorem qgA{v:Value}{z:qd}(h:DK v=some z):z.dim=z:=by
 unfold DK at h;split at h;·obtain⟨_,_,rfl⟩:=Xq h;rfl
 ·split at h;·cases h;rfl
  ·cases h
 ·unfold WJ at h;split at h<;>first|(cases h;rfl)|(split at h<;>cases h;rfl)|cases h
theorem qhI(hr:Rel P gl G h w)(ht:Z0 G w t a.tmps){o:Oper}{ty xt:TypeId}{x:Operand}{ax:qM}{v z:qd}(ho:o.op=.typeAssert x xt ty true)(hx:opd gl x=some ax){d:TypeDesc}(hu:P.underlying ty=some d)(hd:∀ms,d≠.interface ms)(hz:QI P ty=some z)(hp:pureV t (.tas ty z ax)=some v):Xg P G w a o v:=by
 have hv:=Zg hr ht hx;obtain⟨u,a6,a7,_⟩:=qna hz w;simp only[pureV]at hp;have U:qP G.γ G.imm (.tup [z,.bool false]) (.tuple #[u,.bool false]):=by simp only[qP,qx];exact⟨_,rfl,u,[.bool false],rfl,a7 _ _,_,[],rfl,rfl,rfl⟩
 split at hp;·rename_i e1;rw[e1]at hv;simp only[qk.V,qP]at hv;cases hp;refine⟨.tuple #[u,.bool false],?_,U,rfl⟩;simp only[execOp,ho];refine XN ?_;simp only[Instr.typeAssert,Sem.run_bind,run_underlying hu,Result.andThen_ok,hv];cases d<;>first|(simp[a6];done)|exact absurd rfl (hd _)
 ·rename_i q y e1;rw[e1]at hv;simp only[qk.V,qP]at hv;obtain⟨y',hy,a8⟩:=hv;split at hp
  ·rename_i hq;cases hp;refine⟨.tuple #[y',.bool true],?_,?_,rfl⟩;·simp only[execOp,ho];refine XN ?_;simp only[Instr.typeAssert,Sem.run_bind,run_underlying hu,Result.andThen_ok,hy];cases d<;>first|(simp[hq];done)|exact absurd rfl (hd _)
   ·simp only[qk.V,qP,qx];exact⟨_,rfl,y',[.bool true],rfl,a8,_,[],rfl,rfl,rfl⟩
  ·rename_i hq;cases hp;refine⟨.tuple #[u,.bool false],?_,U,rfl⟩;simp only[execOp,ho];refine XN ?_;simp only[Instr.typeAssert,Sem.run_bind,run_underlying hu,Result.andThen_ok,hy];cases d<;>first|(simp[hq,a6];done)|exact absurd rfl (hd _)
 ·cases hp
end
theorem zN(off:Nat):∀(vs:List Value)(i:Nat)(cells:Array Value),off+i+vs.length<=cells.size->((vs.zipIdx i).foldl (λcs(c,j)=>cs.setIfInBounds (off+j) c) cells).toList=cells.toList.take (off+i)++vs++cells.toList.drop (off+i+vs.length)
 |[],i,cells,_=>by simp
 |v::vs,i,cells,hl=>by have hi:off+i<cells.size:=(by simp at hl;omega);simp only[List.zipIdx_cons,List.foldl_cons];rw[zN off vs (i+1) _ (by simp at hl⊢;omega)];simp only[Array.toList_setIfInBounds,jy];have e1:(cells.toList.set (off+i) v).take (off+(i+1))=cells.toList.take (off+i)++[v]:=(by rw[<-jt,List.take_add_one];rw[List.take_set,List.set_eq_of_length_le (by simp;omega)];rw[jg (by simpa using hi)];rfl);have e2:(cells.toList.set (off+i) v).drop (off+(i+1)+vs.length)=cells.toList.drop (off+i+(vs.length+1)):=(by rw[List.drop_set_of_lt zo];congr 1;omega);rw[e1,e2];simp
theorem qhj(off:Nat)(v:Value)(cells:Array Value)(h:off+v.cells.size<=cells.size): (v.cells.zipIdx.foldl (λcs(c,j)=>cs.setIfInBounds (off+j) c) cells).toList=cells.toList.take off++v.cells.toList++cells.toList.drop (off+v.cells.size):=by have:=zN off v.cells.toList 0 cells (by simpa using h);rw[<-Array.foldl_toList,Array.toList_zipIdx];simpa using this
section
variable{γ:Nat->Option Nat}{imm:Nat->Nat->Option Value}
theorem qx.splice{cs:List qd}{c:List Value}{o:Nat}{xs:List qd}{vs:List Value}(h:qx γ imm cs c)(hx:qx γ imm xs vs):qx γ imm (splice cs o xs) (c.take o++vs++c.drop (o+vs.length)):=by unfold AE.splice;rw[hx.length];exact((h.take o).append hx).append (h.drop _)
theorem DW(place:Nat->Option (Nat×Nat)):∀(parts:List (Nat×Value))(U:List (Nat×Nat×qd))(cs:List qd)(c:Array Value)(a6:List qd),qx γ imm cs c.toList->(parts.length=U.length)->(∀(n:Nat)(i:Nat)(v:Value)(off size:Nat)(x:qd),parts[n]?=some (i,v)->U[n]?=some (off,size,x)->place i=some (off,size)/\qP γ imm x v)->qH cs U=some a6->∃c':Array Value,Instr.fill place c parts=some c'/\qx γ imm a6 c'.toList
 |[],[],cs,c,a6,h,_,_,hf=>by simp only[qH,jj]at hf;subst hf;exact⟨c,rfl,h⟩
 |[],_::_,_,_,_,_,hl,_,_=>by simp at hl
 |_::_,[],_,_,_,_,hl,_,_=>by simp at hl
 |(i,v)::parts,(off,size,x)::U,cs,c,a6,h,hl,hp,hf=>by
  obtain⟨aa,hr⟩:=hp 0 i v off size x rfl rfl;simp only[qH]at hf;split at hf;·rename_i hh;obtain⟨h1,h2,h3⟩:=hh;obtain⟨k1,_⟩:=Xk hr h3;have hs:v.cells.size=size:=(by have:=k1.length;simp at this;omega);have ab:cs.length=c.size:=(by simpa using h.length);have a7:=qhj off v c (by rw[hs];omega);have a8:qx γ imm (splice cs off x.cells) (v.cells.zipIdx.foldl (λcs(c,j)=>cs.setIfInBounds (off+j) c) c).toList:=(by rw[a7];have:=qx.splice (o:=off) h k1;simpa using this);obtain⟨c',e1,e2⟩:=DW place parts U _ _ a6 a8 (by simpa using hl) (λn i v off size x a b=>hp (n+1) i v off size x (by simpa using a) (by simpa using b)) hf;refine⟨c',?_,e2⟩;simp only[Instr.fill,aa];rw[if_neg (by rw[hs,<-ab];simp;omega)];exact e1
  ·cases hf
end
section
variable{P:Program}{gl:Nat->Option (List qd)}{G:qk}{w:World}{h:List qj}{t:List qd}{a:Act}
theorem qc5{α β:Type}(f:α->Sem β)(g:α->β):∀(xs:List α),(∀x∈xs,(f x).run P w=.ok (g x) w)->(xs.mapM f).run P w=.ok (xs.map g) w
 |[],_=>by simp
 |x::xs,hh=>by simp only[List.mapM_cons,Sem.run_bind,hh x (by simp),Result.andThen_ok,qc5 f g xs (λy hy=>hh y (by simp[hy])),Sem.run_pure,List.map_cons]
theorem qe9{fs:Array Field}(U:(fs.all λf=>(kM P f.type).isSome)=true): (fs.mapM (λf=>do pure (f.offset,<-sizeOf f.type):Field->Sem (Nat×Nat))).run P w=.ok (fs.map λf=>(f.offset,(kM P f.type).getD 0)) w:=by rw[Array.mapM_eq_mapM_toList];simp only[Sem.run_map];rw[qc5 (P:=P) (w:=w) _ (λf=>(f.offset,(kM P f.type).getD 0)) fs.toList (λf hf=>by have:(kM P f.type).isSome=true:=(by rw[Array.all_eq_true']at U;exact U f (by simpa using hf));obtain⟨n,hn⟩:=Option.isSome_iff_exists.1 this;simp[QM hn,hn])];simp only[Result.andThen_ok];congr 1;exact Array.ext' (by simp)
theorem Ky(hr:Rel P gl G h w)(ht:Z0 G w t a.tmps){fs:Array Field}:∀{ps:List (Nat×Operand)}{U:List (Nat×Nat×qM)},zM P gl fs ps=some U->ps.length=U.length/\∀(n i:Nat)(x:Operand)(off size:Nat)(ax:qM),ps[n]?=some (i,x)->U[n]?=some (off,size,ax)->(fs.map λf=>(f.offset,(kM P f.type).getD 0))[i]?=some (off,size)/\G.V (ev t ax) (a.eval x)
 |[],U,hp=>by simp only[zM,jj]at hp;subst hp;simp
 |(i,x)::ps,U,hp=>by
  simp only[zM]at hp;split at hp
  ·rename_i f ax r hf hx a7;split at hp
   ·rename_i s hs;cases hp;obtain⟨h1,h2⟩:=Ky hr ht a7;refine⟨by simp[h1],λn j y off size ay hn a6=>?_⟩
    cases n with
    |zero=>simp only[jx,jj,js]at hn a6;obtain⟨rfl,rfl⟩:=hn;obtain⟨rfl,rfl,rfl⟩:=a6;exact⟨by simp[hf,hs],Zg hr ht hx⟩
    |succ n=>exact h2 n j y off size ay (by simpa using hn) (by simpa using a6)
   ·cases hp
  ·cases hp
theorem Kx(hr:Rel P gl G h w)(ht:Z0 G w t a.tmps){k:Nat}:∀{ps:List (Nat×Operand)}{U:List (Nat×Nat×qM)},zL gl k ps=some U->ps.length=U.length/\∀(n i:Nat)(x:Operand)(off size:Nat)(ax:qM),ps[n]?=some (i,x)->U[n]?=some (off,size,ax)->(off,size)=(i*k,k)/\G.V (ev t ax) (a.eval x)
 |[],U,hp=>by simp only[zL,jj]at hp;subst hp;simp
 |(i,x)::ps,U,hp=>by
  simp only[zL]at hp;split at hp
  ·rename_i ax r hx a7;cases hp;obtain⟨h1,h2⟩:=Kx hr ht a7;refine⟨by simp[h1],λn j y off size ay hn a6=>?_⟩
   cases n with
   |zero=>simp only[jx,jj,js]at hn a6;obtain⟨rfl,rfl⟩:=hn;obtain⟨rfl,rfl,rfl⟩:=a6;exact⟨rfl,Zg hr ht hx⟩
   |succ n=>exact h2 n j y off size ay (by simpa using hn) (by simpa using a6)
  ·cases hp
theorem Dt(hr:Rel P gl G h w)(ht:Z0 G w t a.tmps)(k:Nat):∀{ps:List (Nat×Operand)}{U:List (Nat×qM)},Lj gl ps=some U->ps.length=U.length/\∀(n i:Nat)(x:Operand)(j:Nat)(ax:qM),ps[n]?=some (i,x)->U[n]?=some (j,ax)->i=j/\G.V (ev t ax) (a.eval x)
 |[],U,hp=>by simp only[Lj,jj]at hp;subst hp;simp
 |(i,x)::ps,U,hp=>by
  simp only[Lj]at hp;split at hp
  ·rename_i ax r hx a7;cases hp;obtain⟨h1,h2⟩:=Dt hr ht k a7;refine⟨by simp[h1],λn i' y j ay hn a6=>?_⟩
   cases n with
   |zero=>simp only[jx,jj,js]at hn a6;obtain⟨rfl,rfl⟩:=hn;obtain⟨rfl,rfl⟩:=a6;exact⟨rfl,Zg hr ht hx⟩
   |succ n=>exact h2 n i' y j ay (by simpa using hn) (by simpa using a6)
  ·cases hp
theorem FU{γ:Nat->Option Nat}{imm:Nat->Nat->Option Value}{v:Value}{z:qd}(hz:DK v=some z):qx γ imm z.cells v.cells.toList:=by
 unfold DK at hz;split at hz;·obtain⟨xs,hx,rfl⟩:=Xq hz;exact(yP hx).1
 ·split at hz;·rename_i hh;simp only[Array.isEmpty_iff]at hh;subst hh;cases hz;simp only[qd.cells,Value.cells,qx];exact⟨_,[],rfl,by simp only[qP];exact⟨#[],rfl,by simp[qx]⟩,rfl⟩
  ·cases hz
 ·have h1:=FT (γ:=γ) (imm:=imm) hz;have e1:z.cells=[z]:=(by unfold WJ at hz;split at hz<;>first|(cases hz;rfl)|(split at hz<;>cases hz;rfl)|cases hz);have e2:v.cells=#[v]:=(by unfold WJ at hz;split at hz<;>first|rfl|(cases hz));rw[e1,e2];simp only[qx];exact⟨v,[],rfl,h1,rfl⟩
theorem WX{ty:TypeId}{z:qd}(hz:QI P ty=some z)(w:World):∃u,(zeroValue ty).run P w=.ok u w/\(∀γ imm,qx γ imm z.cells u.cells.toList):=by
 unfold QI at hz;split at hz;·rename_i i hi;obtain⟨u,hu,hc⟩:=qB (by simpa[jA]using hz);exact⟨u,by simp[zeroValue,typeInfo,hi,hu],λγ imm=>FU hc⟩
 ·cases hz
theorem vh(hr:Rel P gl G h w)(ht:Z0 G w t a.tmps){o:Oper}{ty:TypeId}{ps:Array (Nat×Operand)}{U:List (Nat×Nat×qM)}{v z:qd}{fs:Array Field}(ho:o.op=.build ty ps)(hu:P.underlying ty=some (.struct fs))(aa:(fs.all λf=>(kM P f.type).isSome)=true)(hz:QI P ty=some z)(ad:zM P gl fs ps.toList=some U)(hp:pureV t (.build z.cells U)=some v):Xg P G w a o v:=by obtain⟨u,ab,ac⟩:=WX hz w;simp only[pureV]at hp;obtain⟨cs,ah,rfl⟩:=Xq hp;obtain⟨h1,h2⟩:=Ky hr ht ad;obtain⟨c',e1,e2⟩:=DW (γ:=G.γ) (imm:=G.imm) (λi=>(fs.map λf=>(f.offset,(kM P f.type).getD 0))[i]?) (ps.toList.map λ(i,x)=>(i,a.eval x)) (U.map λ(o,s,x)=>(o,s,ev t x)) z.cells u.cells cs (ac _ _) (by simpa using h1) (λn i v off size x hn a8=>by simp only[jr,Option.map_eq_some_iff]at hn a8;obtain⟨⟨i',x'⟩,af,a7⟩:=hn;obtain⟨⟨aj,ai,ak⟩,ae,a6⟩:=a8;simp only[js]at a7 a6;obtain⟨rfl,rfl⟩:=a7;obtain⟨rfl,rfl,rfl⟩:=a6;exact h2 n _ _ _ _ _ af ae) ah;refine⟨.agg c',?_,by simp only[qk.V,qP];exact⟨c',rfl,e2⟩,rfl⟩;simp only[execOp,ho];refine XN ?_;simp only[Instr.build,Sem.run_bind,ab,Result.andThen_ok,run_underlying hu,qe9 aa];have:(ps.map λ(i,x)=>(i,a.eval x)).toList=ps.toList.map λ(i,x)=>(i,a.eval x):=(by simp);rw[this,e1];rfl
theorem vg(hr:Rel P gl G h w)(ht:Z0 G w t a.tmps){o:Oper}{ty e:TypeId}{ps:Array (Nat×Operand)}{U:List (Nat×Nat×qM)}{v z:qd}{n k:Nat}(ho:o.op=.build ty ps)(hu:P.underlying ty=some (.array n e))(hk:kM P e=some k)(hz:QI P ty=some z)(ac:zL gl k ps.toList=some U)(hp:pureV t (.build z.cells U)=some v):Xg P G w a o v:=by obtain⟨u,aa,ab⟩:=WX hz w;simp only[pureV]at hp;obtain⟨cs,af,rfl⟩:=Xq hp;obtain⟨h1,h2⟩:=Kx hr ht ac;obtain⟨c',e1,e2⟩:=DW (γ:=G.γ) (imm:=G.imm) (λi=>some (i*k,k)) (ps.toList.map λ(i,x)=>(i,a.eval x)) (U.map λ(o,s,x)=>(o,s,ev t x)) z.cells u.cells cs (ab _ _) (by simpa using h1) (λn i v off size x hn a8=>by simp only[jr,Option.map_eq_some_iff]at hn a8;obtain⟨⟨i',x'⟩,ae,a7⟩:=hn;obtain⟨⟨ai,ah,aj⟩,ad,a6⟩:=a8;simp only[js]at a7 a6;obtain⟨rfl,rfl⟩:=a7;obtain⟨rfl,rfl,rfl⟩:=a6;obtain⟨q1,q2⟩:=h2 n _ _ _ _ _ ae ad;exact⟨by rw[q1],q2⟩) af;refine⟨.agg c',?_,by simp only[qk.V,qP];exact⟨c',rfl,e2⟩,rfl⟩;simp only[execOp,ho];refine XN ?_;simp only[Instr.build,Sem.run_bind,aa,Result.andThen_ok,run_underlying hu,QM hk];have:(ps.map λ(i,x)=>(i,a.eval x)).toList=ps.toList.map λ(i,x)=>(i,a.eval x):=(by simp);rw[this,e1];rfl
end
section
variable{γ:Nat->Option Nat}{imm:Nat->Nat->Option Value}
theorem Zd.of_get{xs:List qd}{b p k:Nat}(h:∀(i:Nat)(x:qd),xs[i]?=some x->x.cells.length=k/\ZD γ imm x.cells b (p+i*k)):Zd γ imm xs b p:=by
 induction xs generalizing p with
 |nil=>simp[Zd]
 |cons x xs ih=>obtain⟨h1,h2⟩:=h 0 x rfl;refine Zd.cons (by simpa using h2) ?_;rw[h1];refine ih λi y hy=>?_;obtain⟨h3,h4⟩:=h (i+1) y (by simpa using hy);refine⟨h3,?_⟩;rwa[Nat.add_mul,Nat.one_mul,ju (i*k),<-jt]at h4
theorem Z3{x:qd}(h:x.storable=true):x.cells=[x]:=by cases x<;>first|rfl|(simp[qd.storable]at h)
theorem zi{k len b p:Nat}{cs:List qd}{c:List Value}(h:qx γ imm cs c)(hl:len*k<=cs.length)(hs:cs.all qd.storable=true)(hi:∀(o:Nat)(v:Value),c[o]?=some v->v≠Ww->imm b (p+o)=some v): (∀x∈elems k len cs,x.cells.length=k)/\Zd γ imm (elems k len cs) b p/\(elems k len cs).length=len:=by
 have key:∀(i:Nat)(x:qd),(elems k len cs)[i]?=some x->x.cells.length=k/\ZD γ imm x.cells b (p+i*k):=by
  intro i x hx;simp only[elems,jr,Option.map_eq_some_iff]at hx;obtain⟨j,hj,rfl⟩:=hx;obtain⟨a6,rfl⟩:=jd.1 hj;simp only[List.length_range]at a6;simp only[List.getElem_range];by_cases hk:k=1;·subst hk;simp only[if_true,Nat.mul_one]at hl⊢;have U:i<cs.length:=zo;have a7:(cs[i]).storable=true:=(by rw[List.all_eq_true]at hs;exact hs _ (List.getElem_mem U));have hg:cs.getD i .undef=cs[i]:=(by simp[List.getD,jh U]);rw[hg,Z3 a7];obtain⟨v,hv,hr⟩:=h.get (jh U);simp only[jy,jz,ZD];exact⟨trivial,⟨v,hi i v hv (Wx hr),hr⟩,trivial⟩
  ·simp only[if_neg hk,qd.cells];have aa:i*k+k<=cs.length:=(by have:(i+1)*k<=len*k:=Nat.mul_le_mul_right k a6;rw[Nat.add_mul,Nat.one_mul]at this;omega);refine⟨by simp;omega,ZD.of_get λo y hy=>?_⟩;have a8:o<k:=(by have:=(jd.1 hy).1;simp at this;omega);rw[List.getElem?_take_of_lt a8,List.getElem?_drop]at hy;obtain⟨v,hv,hr⟩:=h.get hy;exact⟨v,by rw[jt];exact hi _ v hv (Wx hr),hr⟩
 refine⟨λx hx=>?_,Zd.of_get (k:=k) key,by simp[elems]⟩;obtain⟨i,hi⟩:=List.getElem?_of_mem hx;exact(key i x hi).1
end
section
variable{P:Program}{gl:Nat->Option (List qd)}{G:qk}{w:World}{h:List qj}{t:List qd}{a:Act}
theorem L9{α:Type}(zs:List α)(hk:zs.length≠0):∀(n i:Nat)(x:α),((List.replicate n zs).flatten)[i]?=some x->zs[i % zs.length]?=some x
 |0,i,x,h=>by simp at h
 |n+1,i,x,h=>by
  simp only[List.replicate_succ,List.flatten_cons]at h;by_cases hi:i<zs.length;·rw[ja hi]at h;rwa[Nat.mod_eq_of_lt hi]
  ·rw[jc zo]at h;have:=L9 zs hk n _ x h;rwa[<-Nat.mod_eq_sub_mod zo]at this
theorem KC{γ:Nat->Option Nat}{imm:Nat->Nat->Option Value}{zs:List qd}{u:Array Value}(hz:qx γ imm zs u.toList)(k len:Nat)(hk:zs.length=k)(a8:k≠0): qx γ imm ((List.replicate len zs).flatten) (((Array.range (len*k)).map (u[· % u.size]!)).toList):=by
 have hu:u.size=k:=by have:=hz.length;simp at this;omega
 refine qx.of_get ?_ λi x v hx hv=>?_;·simp[hk]
 ·simp only[Array.toList_map,Array.toList_range,jr,Option.map_eq_some_iff]at hv;obtain⟨j,hj,rfl⟩:=hv;obtain⟨a6,rfl⟩:=jd.1 hj;simp only[List.length_range]at a6;simp only[List.getElem_range];have a7:i % k<k:=Nat.mod_lt _ zo;have U:zs[i % k]?=some x:=(by have:=L9 zs zo len i x hx;rwa[hk]at this);obtain⟨v,hv,hr⟩:=hz.get U;rw[hu];simp only[Array.getElem?_toList]at hv;rw[getElem!_pos u (i % k) zo];rw[Array.getElem?_eq_getElem zo]at hv;cases hv;exact hr
theorem ql1(hr:Rel P gl G h w)(ht:Z0 G w t a.tmps){o:Oper}{ty e:TypeId}{ps:Array (Nat×Operand)}{a6:List (Nat×qM)}{v z:qd}{len k:Nat}(ho:o.op=.buildSlice ty len ps)(hu:P.underlying ty=some (.slice e))(hk:kM P e=some k)(ae:k≠0)(hz:QI P e=some z)(al:Lj gl ps.toList=some a6)(hp:pureV t (.list k z.cells len a6)=some v): ∃(c:Array Value)(u:Value),(execOp a.eval o).run P w=.ok (.value u) (w.alloc (.cells c e))/\(G.withRow w.heap.size c c.size none).V v u/\v.dim=v:=by
 simp only[pureV]at hp;split at hp
 ·rename_i a8;split at hp
  ·rename_i cs af;split at hp
   ·rename_i ak;cases hp;obtain⟨u0,aj,a7⟩:=WX hz w;obtain⟨h1,h2⟩:=Dt hr ht k al;have ay:u0.cells.size=k:=(by have:=(a7 G.γ G.imm).length;simp at this;omega);obtain⟨c',e1,e2⟩:=DW (γ:=G.γ) (imm:=G.imm) (λi=>some (i*k,k)) (ps.toList.map λ(i,x)=>(i,a.eval x)) (a6.map λ(i,x)=>(i*k,k,ev t x)) _ _ cs (KC (a7 _ _) k len a8.1 ae) (by simpa using h1) (λn i v off size x hn ad=>by simp only[jr,Option.map_eq_some_iff]at hn ad;obtain⟨⟨i',x'⟩,ap,ac⟩:=hn;obtain⟨⟨av,aA⟩,am,ab⟩:=ad;simp only[js]at ac ab;obtain⟨rfl,rfl⟩:=ac;obtain⟨rfl,rfl,rfl⟩:=ab;obtain⟨rfl,q2⟩:=h2 n _ _ _ _ ap am;exact⟨rfl,q2⟩) af
    have ai:∀(parts:List (Nat×Nat×qd))(xs ys:List qd),qH xs parts=some ys->ys.length=xs.length:=by
     intro parts
     induction parts with
     |nil=>intro xs ys hf;simp only[qH,jj]at hf;rw[hf]
     |cons p ps ih=>
      intro xs ys hf;obtain⟨off,size,x⟩:=p;simp only[qH]at hf;split at hf;·rename_i hh;rw[ih _ _ hf];simp only[splice,ji,List.length_take,List.length_drop];omega
      ·cases hf
    have az:cs.length=len*k:=(by rw[ai _ _ _ af];simp[a8.1]);have U:=Ext.newRow 0 c' e c'.size none hr;obtain⟨n,hn⟩:=ZG cs;have e3:qx (G.withRow w.heap.size c' c'.size none).γ (G.withRow w.heap.size c' c'.size none).imm cs c'.toList:=qx.mono U.ik n (λi b _=>U.gk i b) cs _ hn e2;obtain⟨s1,s2,s3⟩:=zi (b:=w.heap.size) (p:=0) (k:=k) (len:=len) e3 zo ak (λo v hv hm=>by simp only[qk.withRow,jv,if_true];simp only[Array.getElem?_toList]at hv;rw[if_pos (je.1 hv).1,hv];exact Qi.2 ⟨rfl,hm⟩);refine⟨c',.slice (some ⟨w.heap.size,0,none⟩) len len,?_,?_,rfl⟩
    ·simp only[execOp,ho];refine XN ?_;have ah:¬ (len*k > 2 ^ 24):=zo;have e4:(ps.map λ(i,x)=>(i,a.eval x)).toList=ps.toList.map λ(i,x)=>(i,a.eval x):=(by simp);by_cases aa:len*k=0;·have ar:len=0:=(by rcases Nat.mul_eq_zero.1 aa with h|h;exact h;exact absurd h ae);subst ar;simp only[Nat.zero_mul]at e1;have au:Instr.fill (λi=>some (i*k,k)) ((Array.range 0).map ((#[]:Array Value)[· % (#[]:Array Value).size]!)) (ps.toList.map λ(i,x)=>(i,a.eval x))=some c':=(by have e0:∀f:Nat->Value,(Array.range 0).map f=#[]:=λf=>(by apply Array.ext';simp);rw[e0]at e1⊢;exact e1);simp only[Instr.buildSlice,Sem.run_bind,run_underlying hu,Result.andThen_ok,QM hk,Nat.zero_mul,gt_iff_lt,Nat.not_lt_zero,if_false,Sem.run_pure,if_true,e4,au];simp[newRow]
     ·simp only[Instr.buildSlice,Sem.run_bind,run_underlying hu,Result.andThen_ok,QM hk,if_neg ah,if_neg aa,Sem.run_pure,aj,e4,e1];simp[newRow]
    ·simp only[qk.V,qP];exact⟨_,_,_,rfl,s3.symm,jm _,λ_=>rfl,by simp,⟨k,s1⟩,.inr ⟨_,_,rfl,s2⟩⟩
   ·cases hp
  ·cases hp
 ·cases hp
end
section
variable{P:Program}{gl:Nat->Option (List qd)}{G G':qk}{w w':World}{h:List qj}{t:List qd}{a:Act}{n:Nat}
theorem Ext.V(he:Ext n G w G' w'){x:qd}{v:Value}(hv:G.V x v):G'.V x v:=by obtain⟨m,hm⟩:=lower_ex x;exact qP.mono he.ik m (λi b _=>he.gk i b) x v hm hv
theorem Ext.VL(he:Ext n G w G' w'){xs:List qd}{vs:List Value}(hv:G.VL xs vs):G'.VL xs vs:=by obtain⟨m,hm⟩:=ZG xs;exact qx.mono he.ik m (λi b _=>he.gk i b) xs vs hm hv
structure Cfg (P:Program) (gl:Nat->Option (List qd)) (G:qk) (h:List qj) (t:List qd) (a:Act) (w:World):Prop where
 rel:Rel P gl G h w
 tr:Z0 G w t a.tmps
theorem Cfg.put(hc:Cfg P gl G h t a w)(dst:Option Nat){x:qd}{v:Value}(hv:G.V x v)(hd:x.dim=x):Cfg P gl G h (AE.put dst x t) (a.put dst v) w:=by refine⟨hc.rel,?_⟩;have:=hc.tr.put dst hv hd a.defers;exact this
def Nx(nx:Next)(u:Value):Prop:=nx=.value u\/(nx=.skip/\u=undef)
def qfP(o:Oper):Prop:=(∃t x y,o.op=.store t x y)\/∃c,o.op=.call c/\c.callee=.builtin .append
def uG(P:Program)(gl:Nat->Option (List qd))(o:Oper):Prop:=∃k as,FY P gl o=some (.hx k as)
def Did(P:Program)(gl:Nat->Option (List qd))(G:qk)(w:World)(a:Act)(o:Oper)(n:Nat)(h':List qj)(t':List qd):Prop:=∃nx u w' G',(execOp a.eval o).run P w=.ok nx w'/\Nx nx u/\(¬ qfP o->¬ uG P gl o->∀b,b<w.heap.size->w'.heap[b]?=w.heap[b]?)/\Ext n G w G' w'/\Cfg P gl G' h' t' (a.put o.dst u) w'
theorem DR(hc:Cfg P gl G h t a w){o:Oper}{v:qd}(hg:Xg P G w a o v)(n:Nat):Did P gl G w a o n h (AE.put o.dst v t):=by obtain⟨u,h1,h2,h3⟩:=hg;exact⟨_,u,w,G,h1,.inl rfl,λ_ _ _ _=>rfl,Ext.refl n G w,hc.put o.dst h2 h3⟩
theorem qk1(hc:Cfg P gl G h t a w){o:Oper}{v:qd}{c:Array Value}{e:TypeId}{u:Value}(h1:(execOp a.eval o).run P w=.ok (.value u) (w.alloc (.cells c e)))(h2:(G.withRow w.heap.size c c.size none).V v u)(h3:v.dim=v)(n:Nat):Did P gl G w a o n h (AE.put o.dst v t):=by have U:Cfg P gl (G.withRow w.heap.size c c.size none) h t a (w.alloc (.cells c e)):=⟨hc.rel.newRow c e c.size none,hc.tr.newRow hc.rel c e c.size none⟩;exact⟨_,u,_,_,h1,.inl rfl,λ_ _ _ hb=>Zn w _ hb,Ext.newRow n c e c.size none hc.rel,U.put o.dst h2 h3⟩
theorem vR{cs:List qd}{o:Nat}{xs:List qd}{k:Nat}(h:(cs.map qd.dim)[o]?=some (.lst xs (.own k))):False:=by simp only[jr,Option.map_eq_some_iff]at h;obtain⟨x,_,hx⟩:=h;have:=Qh x;rw[hx]at this;simp[qd.dim]at this
theorem qgM(hc:Cfg P gl G h t a w){o:Oper}{cs:List qd}{c:Array Value}{e:TypeId}(a8:G.VL cs c.toList)(h1:(execOp a.eval o).run P w=.ok (.value (.pointer (some ⟨w.heap.size,0,none⟩))) (w.alloc (.cells c e))): Did P gl G w a o h.length (h++[.cells (cs.map qd.dim)]) (AE.put o.dst (.ptr h.length 0) t):=by
 have hi:G.γ h.length=none:=by
  cases hg:G.γ h.length with
  |none=>rfl
  |some b=>have:=(hc.rel.γlt _ b hg).1;omega
 have U:Ext h.length G w (G.withBox h.length w.heap.size) (w.alloc (.cells c e)):=Ext.newBox hi (jm _) _;have a6:=hc.rel.newBox (o:=.cells c e) (bx:=.cells (cs.map qd.dim)) (h':=h++[.cells (cs.map qd.dim)]) hi (by simp) (by simp) (λj hj b hb=>by rw[ja (hc.rel.γlt j b hb).1]) (by simp) ⟨c,e,Zs w _,DZ (U.VL a8).dims,λo xs k v ho _=>(vR ho).elim⟩;obtain⟨m,hm⟩:=ZG t;have a7:Z0 (G.withBox h.length w.heap.size) (w.alloc (.cells c e)) t a.tmps:=hc.tr.keep hm U.ik (λi b _=>U.gk i b) (λ_ _ h=>h) (λb i hb=>Zn w _ (hc.rel.ow b _ hb).1) (λ_ _ _ _ h=>h);refine⟨_,_,_,_,h1,.inl rfl,λ_ _ _ hb=>Zn w _ hb,U,(Cfg.mk a6 a7).put o.dst ?_ rfl⟩;simp only[qk.V,qP,qk.withBox,if_true];exact⟨_,rfl,rfl⟩
theorem qoB(hc:Cfg P gl G h t a w){o:Oper}{e:TypeId}{z:qd}(ho:o.op=.alloc e)(hz:QI P e=some z): Did P gl G w a o h.length (h++[.cells (z.cells.map qd.dim)]) (AE.put o.dst (.ptr h.length 0) t):=by obtain⟨u,hu,hr⟩:=WX hz w;refine qgM hc (hr _ _) (c:=u.cells) (e:=e) ?_;simp only[execOp,ho];refine XN ?_;simp[Instr.alloc,hu,newVar,newRow]
theorem qgN(hc:Cfg P gl G h t a w){o:Oper}{e:TypeId}{x:Operand}{ax:qM}(ho:o.op=.box e x)(hx:opd gl x=some ax)(hs:((ev t ax).cells.map qd.dim).all qd.storable=true): Did P gl G w a o h.length (h++[.cells ((ev t ax).cells.map qd.dim)]) (AE.put o.dst (.ptr h.length 0) t):=by have hv:=Zg hc.rel hc.tr hx;have U:(ev t ax).cells.all qd.storable=true:=(by rw[List.all_map]at hs;rw[List.all_eq_true]at hs⊢;intro y hy;have:=hs y hy;cases y<;>first|exact this|rfl);refine qgM hc (Xk hv U).1 (e:=e) ?_;simp only[execOp,ho];refine XN ?_;simp[Instr.box,newVar,newRow]
theorem ZD.list{γ:Nat->Option Nat}{imm:Nat->Nat->Option Value}:∀{cs:List qd}{b p:Nat},ZD γ imm cs b p->∃vs,qx γ imm cs vs/\∀(j:Nat)(v:Value),vs[j]?=some v->imm b (p+j)=some v
 |[],b,p,_=>⟨[],by simp[qx],λj v h=>by simp at h⟩
 |c::cs,b,p,hc=>by
  simp only[ZD]at hc;obtain⟨⟨v,h1,h2⟩,h3⟩:=hc;obtain⟨vs,h4,h5⟩:=ZD.list h3;refine⟨v::vs,by simp only[qx];exact⟨v,vs,rfl,h2,h4⟩,λj u hu=>?_⟩
  cases j with
  |zero=>simp at hu;subst hu;exact h1
  |succ j=>simp at hu;have:=h5 j u hu;rwa[jt,ju 1 j]at this
theorem qcR{ty:TypeId}{k:Option Nat}(hk:tyk P ty=some k){b q o:Nat}{cs:List qd}{vs:List Value}(hc:G.VL cs vs)(U:∀(j:Nat)(v:Value),vs[j]?=some v->w.cell? ⟨b,q+j,none⟩=some v){x:qd}(hx:cut cs o k=some x):∃u,(Instr.loadAt ty (.pointer (some ⟨b,q+o,none⟩))).run P w=.ok u w/\G.V x u/\x.dim=x:=by
 obtain⟨h1,h2⟩:=Fu hk w;obtain⟨h3,h4,h5⟩:=qgG hc hx
 cases k with
 |none=>simp only at h3 h5;refine⟨_,?_,h3,h4⟩;have hg:vs[o]?=some (vs.getD o undef):=(by rw[jh h5];simp[List.getD,jh h5]);have:=U o _ hg;simp only[Instr.loadAt,Instr.sureAddr,Sem.run_bind,Sem.run_pure,Result.andThen_ok,loadVar,h1,Option.isSome_none,jl,if_false,run_load,this]
 |some k=>simp only at h3 h5;refine⟨_,?_,h3,h4⟩;have hl:=run_loadCells_list (P:=P) w ⟨b,q+o,none⟩ ((vs.drop o).take k) (λj v hj=>by have a7:j<k:=(by have:=(jd.1 hj).1;simp at this;omega);rw[List.getElem?_take_of_lt a7,List.getElem?_drop]at hj;rw[Xj,jt];exact U _ v hj);have a6:((vs.drop o).take k).length=k:=(by simp;omega);rw[a6]at hl;simp only[Instr.loadAt,Instr.sureAddr,Sem.run_bind,Sem.run_pure,Result.andThen_ok,loadVar,h1,Option.isSome_some,if_true,h2 k rfl,hl]
theorem qid(hr:Rel P gl G h w){ty:TypeId}{k:Option Nat}(hk:tyk P ty=some k){p:qd}{vp:Value}(hp:G.V p vp){x:qd}(hx:Xi h p k=some x): ∃u,(Instr.loadAt ty vp).run P w=.ok u w/\G.V x u/\x.dim=x:=by
 unfold Xi at hx;split at hx
 ·simp only[qk.V,qP]at hp;obtain⟨b,hb,rfl⟩:=hp;split at hx;·rename_i cs a7;obtain⟨c,e,h1,h2,_⟩:=hr.box _ b _ hb a7;have:=qcR (P:=P) (w:=w) hk (b:=b) (q:=0) h2 (λj v hj=>by have hj:c[j]?=some v:=(by have hl:=(jd.1 hj).1;rw[List.getElem?_take_of_lt (by simp at hl;omega)]at hj;simpa using hj);simp[World.cell?,h1,hj]) hx;simpa using this
  ·cases hx
 ·simp only[qk.V,qP]at hp;obtain⟨b,q,rfl,a6⟩:=hp;obtain⟨vs,h1,h2⟩:=a6.list;exact qcR hk h1 (λj v hj=>by obtain⟨x,_,U⟩:=h1.get' hj;exact(hr.imm b _ v (h2 j v hj) (Wx U)).1) hx
 ·cases hx
theorem qrC(hc:Cfg P gl G h t a w){o:Oper}{ty:TypeId}{x:Operand}{ax:qM}{k:Option Nat}{v:qd}(ho:o.op=.load ty x)(hk:tyk P ty=some k)(hx:opd gl x=some ax)(hl:Xi h (ev t ax) k=some v)(n:Nat): Did P gl G w a o n h (AE.put o.dst v t):=by obtain⟨u,h1,h2,h3⟩:=qid hc.rel hk (Zg hc.rel hc.tr hx) hl;exact DR hc ⟨u,by simp only[execOp,ho];exact XN h1,h2,h3⟩ n
theorem qgO(hc:Cfg P gl G h t a w){o:Oper}{sT dT e:TypeId}{x:Operand}{ax:qM}{v:qd}(ho:o.op=.convert sT dT x)(hx:opd gl x=some ax)(hs:P.underlying sT=some .string)(hd:P.underlying dT=some (.slice e))(he:quj (P.underlying e)=true)(hp:pureV t (.cvb ax)=some v)(n:Nat):Did P gl G w a o n h (AE.put o.dst v t):=by
 have hu:P.underlying e=some (.int .u8):=by
  unfold quj at he;split at he;·assumption
  ·cases he
 have hv:=Zg hc.rel hc.tr hx;simp only[pureV]at hp;split at hp
 ·rename_i l hl;cases hp;rw[hl]at hv;simp only[qk.V,qP]at hv;obtain⟨b,hb,rfl⟩:=hv;have ad:b.size=b.data.toList.length:=(by rw[Array.length_toList];rfl);have hq:(Question.appendCap b.size 0 e).forced=false:=rfl;generalize U:(Question.appendCap b.size 0 e).cut (w.tape w.drawn (Question.appendCap b.size 0 e))=newCap;have af:b.size<=newCap:=(by rw[<-U];simp only[Question.cut];omega);let c:Array Value:=(b.data.map λc=>Value.int .u8 c.toNat)++Array.replicate (newCap - b.size) (.int .u8 0)
  have aa:(execOp a.eval o).run P w=.ok (.value (.slice (some ⟨w.heap.size,0,none⟩) b.size newCap)) (w.drew.alloc (.cells c e (c.size,c.size+1))):=by
   simp only[execOp,ho];refine XN ?_
   have ah:(w.drew.alloc (.cells c e)).freeze ⟨w.heap.size,c.size,none⟩ 1=w.drew.alloc (.cells c e (c.size,c.size+1)):=by
    simp only[World.freeze];rw[if_neg (by decide)];simp only[World.alloc,World.drew];congr 1;apply Array.ext_getElem?;intro j;rw[Array.getElem?_modify,Array.getElem?_push,Array.getElem?_push];by_cases e1:j=w.heap.size;·subst e1;simp
    ·rw[if_neg (λe=>e1 e.symm),if_neg e1,if_neg e1]
   have a6:(w.drew.alloc (.cells c e)).shape? w.heap.size=some (e,c.size):=(by have:=Zs w.drew (.cells c e);simp only[World.shape?];rw[show w.heap.size=w.drew.heap.size from rfl,this]);simp only[convert,Sem.run_bind,run_underlying hs,run_underlying hd,run_underlying hu,Result.andThen_ok,hb,Conv.stringToBytes,run_choose_drew,hq,jl,if_false,U,newRow,run_newObj_alloc,Sem.run_pure,markStringish,run_shape];have h5:(Array.map (λb=>Value.int IntKind.u8 ↑b.toNat) b.data++Array.replicate (newCap - b.size) (Value.int IntKind.u8 0))=c:=rfl;simp only[h5];rw[show w.drew.heap.size=w.heap.size from rfl];simp only[a6,run_freeze,ah,Result.andThen_ok]
  have a7:Rel P gl G h w.drew:=hc.rel.of_drew _;have ac:Z0 G w.drew t a.tmps:=hc.tr.of_drew _;have f1:=a7.newRow c e c.size none (c.size,c.size+1);have f2:=Z0.newRow a7 ac c e c.size none (c.size,c.size+1);have f3:Ext n G w _ _:=((Ext.refl n G w).drew (w.drawn+1)).trans (jm n) (Ext.newRow n c e c.size none a7 (c.size,c.size+1));have ai:Cfg P gl (G.withRow w.heap.size c c.size none) h t a (w.drew.alloc (.cells c e (c.size,c.size+1))):=⟨f1,f2⟩;refine⟨_,_,_,_,aa,.inl rfl,λ_ _ b hb=>Zn w.drew _ hb,f3,ai.put o.dst ?_ rfl⟩;simp only[qk.V,qP];refine⟨_,_,_,rfl,by rw[ad];simp[zy],af,by simp,by simp,⟨1,λy hy=>?_⟩,.inr ⟨_,_,rfl,Zd.of_get (k:=1) λi y hy=>?_⟩⟩;·simp only[zy,List.mem_map]at hy;obtain⟨z,_,rfl⟩:=hy;rfl
  ·simp only[zy,jr,Option.map_eq_some_iff]at hy;obtain⟨z,hz,rfl⟩:=hy;have ae:i<b.data.size:=(by have:=(jd.1 hz).1;simpa using this);have ab:b.data[i]?=some z:=(by simpa using hz);have a8:c[i]?=some (.int .u8 z.toNat):=(by simp only[c];rw[jB (by simpa using ae)];simp[ab]);refine⟨rfl,?_⟩;simp only[qd.cells,ZD,qk.withRow,jv,Nat.mul_one,if_true];refine⟨⟨_,?_,rfl⟩,trivial⟩;rw[if_pos (je.1 a8).1];exact Qi.2 ⟨a8,by simp[Ww]⟩
 ·cases hp
end
def qk.give(G:qk)(b:Nat)(ℓ:Option Loc):qk:={γ:=G.γ,imm:=G.imm,ow:=λx=>if x=b then ℓ else G.ow x}
section
variable{P:Program}{gl:Nat->Option (List qd)}{G G':qk}{w w':World}{h:List qj}{t:List qd}{a:Act}{n:Nat}
theorem Rel.give(hr:Rel P gl G h w){b:Nat}{a6 ℓ:Loc}(hb:G.ow b=some a6)(a7:∀id o:Nat,a6≠.cell id o): Rel P gl (G.give b (some ℓ)) h w:=by
 refine⟨hr.γlt,hr.inj,λi b' bx hi hx=>?_,hr.imm,hr.immγ,hr.immK,λb' aa a8=>?_,hr.glob⟩
 ·have U:=hr.box i b' bx hi hx
  cases bx with
  |cells cs=>obtain⟨c,e,h1,h2,h3⟩:=U;refine⟨c,e,h1,h2,λo xs k v ho hv=>?_⟩;obtain⟨b2,p,len,cap,c2,e2,rfl,k1,k2⟩:=h3 o xs k v ho hv;refine⟨b2,p,len,cap,c2,e2,rfl,?_,k2⟩;have:b2≠b:=λe3=>(by subst e3;rw[hb]at k1;cases k1;exact a7 i o rfl);simpa[qk.give,this]using k1
  |loop _ _ _ _ _ _=>obtain⟨L,h1,h2⟩:=U;exact⟨L,h1,{h2 with tmps:=h2.tmps}⟩
  |map _ _=>obtain⟨me,h1,h2⟩:=U;exact⟨me,h1,Zb.mono (G:=G) (G':=G.give b (some ℓ)) (λ_ _ _ h=>h) _ (λ_ _ _ h=>h) (Wj _).choose_spec h2⟩
  |iter _ _ _ _=>obtain⟨mm,h1,h2⟩:=U;exact⟨mm,h1,h2⟩
  |bld _ _ _=>refine qfL.keep U rfl (λy hy=>?_) (λ_ _=>rfl) (λ_ _ _ h=>h);have:y≠b:=λe3=>(by subst e3;rw[hb]at hy;cases hy;exact a7 i 1 rfl);simpa[qk.give,this]using hy
  |dead=>trivial
 ·simp only[qk.give]at a8;split at a8;·rename_i e1;subst e1;exact hr.ow b' a6 hb
  ·exact hr.ow b' aa a8
theorem Ext.give(n:Nat)(G:qk)(w:World){b:Nat}{U:Loc}(ℓ:Option Loc)(hb:G.ow b=some U):Ext n G w (G.give b ℓ) w:=by
 refine⟨λ_ _ h=>h,λ_ _ h=>.inl h,λ_ _ _ h=>h,λ_ _ _ h=>.inl h,λx hx=>?_,jm _,λ_ _ _=>rfl,(Ext.refl n G w).loops,rfl,rfl,rfl⟩;simp only[qk.give]at hx;split at hx;·rename_i e1;subst e1;exact .inl (by simp[hb])
 ·exact .inl hx
theorem getD_some{t:List qd}{i:Nat}{xs:List qd}{f:WM}(h:t.getD i .undef=.lst xs f):t[i]?=some (.lst xs f):=by
 by_cases hi:i<t.length;·simpa[List.getD,jh hi]using h
 ·simp[List.getD,jq (Nat.le_of_not_lt hi)]at h
theorem KB{t:List qd}{x:qM}(hx:∀i xs k,x=.t i->t[i]?≠some (.lst xs (.own k)))(hc:∀v,x=.c v->v.dim=v):(raw t x).dim=raw t x/\Z5 t x=t:=by
 cases x with
 |c v=>exact⟨hc v rfl,rfl⟩
 |t i=>
  simp only[raw,Z5]
  cases hg:t.getD i .undef with
  |lst xs f=>
   cases f with
   |own k=>exact absurd (getD_some hg) (hx i xs k rfl)
   |no=>exact⟨rfl,rfl⟩
   |full=>exact⟨rfl,rfl⟩
  |_=>exact⟨rfl,rfl⟩
theorem vV{x:Operand}{ax:qM}(hx:opd gl x=some ax):∀v,ax=.c v->v.dim=v:=by
 intro v hv;subst hv
 cases x with
 |tmp i=>simp[opd]at hx
 |const u=>simp only[opd]at hx;obtain⟨c,hc,he⟩:=Xq hx;cases he;exact qgA hc
 |global g=>simp only[opd]at hx;obtain⟨c,hc,he⟩:=Xq hx;cases he;rfl
 |func f=>simp only[opd,jj,qM.c.injEq]at hx;subst hx;rfl
theorem yY{x:Operand}{i:Nat}(hx:opd gl x=some (.t i)):x=.tmp i:=by
 cases x with
 |tmp j=>simp[opd]at hx;rw[hx]
 |const u=>simp only[opd]at hx;obtain⟨c,_,he⟩:=Xq hx;cases he
 |global g=>simp only[opd]at hx;obtain⟨c,_,he⟩:=Xq hx;cases he
 |func f=>simp[opd]at hx
theorem Z0.drain(ht:Z0 G w t a.tmps){i:Nat}{xs:List qd}{f:WM}(hi:t[i]?=some (.lst xs f)):Z0 G w (t.set i (.lst xs .no)) a.tmps:=by
 obtain⟨v,hv,hr⟩:=ht.rel.get hi;have U:G.VL (t.set i (.lst xs .no)) (a.tmps.toList.set i v):=ht.rel.set i (vS hr);have e:a.tmps.toList.set i v=a.tmps.toList:=by obtain⟨h1,h2⟩:=jd.1 hv;rw[<-h2];exact List.set_getElem_self h1
 rw[e]at U;refine⟨U,λj ys k u hj hu=>?_⟩;by_cases e1:i=j;·subst e1;rw[jg (jd.1 hi).1]at hj;simp at hj
 ·rw[jf e1]at hj;exact ht.own j ys k u hj hu
theorem yr{i:Nat}{v:Value}(hv:a.tmps.toList[i]?=some v):a.eval (.tmp i)=v:=by simp only[Array.getElem?_toList]at hv;obtain⟨h1,h2⟩:=je.1 hv;simp[Act.eval,Array.getD,h1,h2]
theorem Z0.putOwn{ts:Array Value}(ht:Z0 G w t ts)(d:Nat){x:List qd}{k:Nat}{v:Value}(hv:G.V (.lst x (.own k)) v)(ho:qku G w (.tmp d) k v)(ds:List Deferred): Z0 G w (t.set d (.lst x (.own k))) ((({tmps:=ts,defers:=ds}:Act).put (some d) v).tmps):=by
 refine⟨by simpa[Act.put]using ht.rel.set d hv,λi xs k' u hi hu=>?_⟩;simp only[Act.put]at hu;by_cases e:d=i
 ·subst e
  have hd:d<t.length:=by
   by_cases hd:d<t.length;·exact hd
   ·rw[jq (by simp;omega)]at hi;cases hi
  rw[jg hd]at hi;simp only[jj,qd.lst.injEq,WM.own.injEq]at hi;obtain⟨rfl,rfl⟩:=hi;rw[Array.getElem?_setIfInBounds_self_of_lt (by rw[<-ht.length];exact hd)]at hu;cases hu;exact ho
 ·rw[jf e]at hi;rw[Array.getElem?_setIfInBounds_ne e]at hu;exact ht.own i xs k' u hi hu
theorem Z0.give(ht:Z0 G w t a.tmps){i:Nat}{xs:List qd}{k b:Nat}{ℓ:Option Loc}(hi:t[i]?=some (.lst xs (.own k)))(hb:G.ow b=some (.tmp i)): Z0 (G.give b ℓ) w (t.set i (.lst xs .no)) a.tmps:=by have hd:=ht.drain hi;refine⟨hd.rel,λj ys k' u hj hu=>?_⟩;have U:i≠j:=λe=>(by subst e;rw[jg (jd.1 hi).1]at hj;simp at hj);obtain⟨b2,p,len,cap,c,e,rfl,h1,h2⟩:=hd.own j ys k' u hj hu;refine⟨b2,p,len,cap,c,e,rfl,?_,h2⟩;have:b2≠b:=λe2=>(by subst e2;rw[hb]at h1;cases h1;exact U rfl);simpa[qk.give,this]using h1
theorem qoz(hc:Cfg P gl G h t a w){o:Oper}{x:Operand}{ax:qM}(ho:o.op=.assign x)(hx:opd gl x=some ax)(n:Nat): Did P gl G w a o n h (AE.put o.dst (raw t ax) (Z5 t ax)):=by
 have U:(execOp a.eval o).run P w=.ok (.value (a.eval x)) w:=by simp[execOp,ho]
 by_cases a6:∃i xs k,ax=.t i/\t[i]?=some (.lst xs (.own k))
 ·obtain⟨i,xs,k,rfl,hi⟩:=a6;have a8:=yY hx;subst a8;obtain⟨v,hv,hr⟩:=hc.tr.rel.get hi;have aa:=yr hv;have hg:t.getD i .undef=.lst xs (.own k):=(by simp[List.getD,hi]);have ac:Z5 t (.t i)=t.set i (.lst xs .no):=(by simp only[Z5,hg]);simp only[raw,hg,ac]
  cases hd:o.dst with
  |none=>exact⟨_,_,w,G,U,.inl rfl,λ_ _ _ _=>rfl,Ext.refl n G w,hc.rel,by rw[hd];exact hc.tr.drain hi⟩
  |some d=>have ab:=hc.tr.own i xs k v hi (by simpa using hv);obtain⟨b,p,len,cap,c,e,rfl,h1,h2⟩:=ab;refine⟨_,_,w,G.give b (some (.tmp d)),U,.inl rfl,λ_ _ _ _=>rfl,Ext.give n G w _ h1,hc.rel.give h1 (λid o' e1=>by cases e1),?_⟩;rw[aa,hd];exact(hc.tr.give hi h1).putOwn d (G:=G.give b (some (.tmp d))) hr ⟨b,p,len,cap,c,e,rfl,by simp[qk.give],h2⟩ a.defers
 ·have a7:∀i xs k,ax=.t i->t[i]?≠some (.lst xs (.own k)):=λi xs k h1 h2=>a6 ⟨i,xs,k,h1,h2⟩;obtain⟨h1,h2⟩:=KB a7 (vV hx);rw[h2];exact⟨_,_,w,G,U,.inl rfl,λ_ _ _ _=>rfl,Ext.refl n G w,hc.put o.dst (ue hc.rel hc.tr hx) h1⟩
end
section
variable{P:Program}{gl:Nat->Option (List qd)}{G G':qk}{w w':World}{h:List qj}{t:List qd}{a:Act}{n:Nat}
theorem qN(w:World)(b x:Nat)(c:Array Value)(h:x≠b):(w.setRow b c).heap[x]?=w.heap[x]?:=setRow_other w b x c h
theorem Rel.store(hr:Rel P gl G h w){id b:Nat}{cs ab:List qd}{c c':Array Value}{e:TypeId}(hb:G.γ id=some b)(hid:h[id]?=some (.cells cs))(hw:w.heap[b]?=some (.cells c e (0,0)))(a6:G'.γ=G.γ)(hi:G'.imm=G.imm)(aj:∀x,G'.ow x≠none->G.ow x≠none)(aa:∀x ac o,ac≠id->G.ow x=some (.cell ac o)->G'.ow x=some (.cell ac o))(ah:G.VL ab (c'.toList.take ab.length))(am:c'.size=c.size)(ai:∀(o:Nat)(xs:List qd)(k:Nat)(v:Value),ab[o]?=some (.lst xs (.own k))->c'[o]?=some v->qku G' (w.setRow b c') (.cell id o) k v): Rel P gl G' (h.set id (.cells ab)) (w.setRow b c'):=by
 have ap:=je.1 hw |>.1;have al:=jd.1 hid |>.1;have ae:∀x ℓ,G.ow x=some ℓ->x≠b:=λx ℓ hx e1=>(hr.ow x ℓ hx).2 id (e1▸hb);refine⟨λi x hx=>?_,λi j x hx hy=>?_,λi x bx hx a8=>?_,λx o v hv hm=>?_,λx o v i hv hm=>?_,λx o hv=>?_,λx ℓ hx=>?_,λg cs hg=>?_⟩;·rw[a6]at hx;simpa using hr.γlt i x hx
 ·rw[a6]at hx hy;exact qbj hr.inj hid (by simp) i j x hx hy
 ·rw[a6]at hx;by_cases e1:i=id;·subst e1;rw[hb]at hx;cases hx;rw[jg al]at a8;cases a8;exact⟨c',e,setRow_heap w b c c' e (0,0) hw,by rw[qk.VL,a6,hi];exact ah,ai⟩
  ·rw[jf (Ne.symm e1)]at a8;have a7:=hr.box i x bx hx a8
   have U:bx≠.dead->x≠b:=λak e2=>by
    rcases hr.inj i id x hx (e2▸hb)with h1|h1|h1;·exact e1 h1
    ·rw[a8]at h1;cases h1;exact ak rfl
    ·rw[hid]at h1;cases h1
   cases bx with
   |map es _=>obtain⟨me,h1,h2⟩:=a7;obtain⟨m,hm⟩:=Wj es;exact⟨me,by rw[qN w b x c' (U (by simp))];exact h1,Zb.mono (λ_ _ _ h=>by rw[hi];exact h) m (λ_ _ _ h=>by rw[a6];exact h) hm h2⟩
   |iter im _ _ _=>obtain⟨mm,h1,h2⟩:=a7;obtain⟨m,hm⟩:=AE.lower_ex im;exact⟨mm,by rw[qN w b x c' (U (by simp))];exact h1,qP.mono (λ_ _ _ h=>by rw[hi];exact h) m (λ_ _ _ h=>by rw[a6];exact h) _ _ hm h2⟩
   |bld _ _ _=>exact qfL.keep a7 (qN w b x c' (U (by simp))) (λy hy=>aa y i 1 e1 hy) (λy hy=>qN w b y c' (ae y _ hy)) (λy j _ hj=>by rw[hi];exact hj)
   |dead=>trivial
   |cells ds=>obtain⟨d,e',h1,h2,h3⟩:=a7;have U:=U (by simp);refine⟨d,e',by rw[qN w b x c' U];exact h1,by rw[qk.VL,a6,hi];exact h2,λo xs k v ho hv=>?_⟩;exact(h3 o xs k v ho hv).keep (λy hy=>aa y i o e1 hy) (λy hy=>qN w b y c' (ae y _ hy)) (λy j _ hj=>by rw[hi];exact hj)
   |loop _ _ _ _ _ _=>obtain⟨L,h1,h2⟩:=a7;have U:=U (by simp);exact⟨L,by rw[qN w b x c' U];exact h1,{h2 with tmps:=by rw[qk.VL,a6,hi];exact h2.tmps}⟩
 ·rw[hi]at hv;obtain⟨h1,h2⟩:=hr.imm x o v hv hm;have U:x≠b:=λe2=>(by have:=hr.immγ x o v id hv hm (e2▸hb);rw[hid]at this;cases this);exact⟨(Xb (qN w b x c' U)).trans h1,by simpa using h2⟩
 ·rw[hi]at hv;rw[a6];exact λe1=>gA hid (by simp) (hr.immγ x o v i hv hm e1)
 ·rw[hi]at hv;obtain⟨h0,d,e',h1,h2⟩:=hr.immK x o hv;by_cases U:x=b;·subst U;rw[hw]at h1;cases h1;exact⟨h0,c',e,setRow_heap w x c c' e (0,0) hw,zo⟩
  ·exact⟨h0,d,e',by rw[qN w b x c' U];exact h1,h2⟩
 ·have:=aj x (by simp[hx])
  cases ad:G.ow x with
  |none=>exact absurd ad this
  |some af=>obtain⟨h1,h2⟩:=hr.ow x af ad;exact⟨by simpa using h1,by rw[a6];exact h2⟩
 ·rw[a6,hi];exact hr.glob g cs hg
theorem Ext.store(n:Nat){id b:Nat}{c c':Array Value}{e:TypeId}(hb:G.γ id=some b)(hw:w.heap[b]?=some (.cells c e (0,0)))(U:G'.γ=G.γ)(hi:G'.imm=G.imm)(a6:∀x,G'.ow x≠none->G.ow x≠none):Ext n G w G' (w.setRow b c'):=by
 refine⟨λi x hx=>by rw[U];exact hx,λi x hx=>by rw[U]at hx;exact .inl hx,λx o v hv=>by rw[hi];exact hv,λx o v hv=>by rw[hi]at hv;exact .inl hv,λx hx=>.inl (a6 x hx),by simp,λx hx hf=>?_,λx L hL=>?_,rfl,rfl,rfl⟩;·exact qN w b x c' (λe1=>hf.1 id (e1▸hb))
 ·have:x≠b:=λe1=>(by subst e1;rw[hw]at hL;cases hL);exact⟨L,by rw[qN w b x c' this];exact hL,rfl,rfl,rfl,rfl,rfl,rfl⟩
theorem Z0.store{ts:Array Value}(hr:Rel P gl G h w)(ht:Z0 G w t ts){id b:Nat}(c':Array Value)(hb:G.γ id=some b):Z0 G (w.setRow b c') t ts:=⟨ht.rel,λi xs k v hx hv=>(ht.own i xs k v hx hv).keep (λ_ h=>h) (λy hy=>qN w b y c' (λe1=>(hr.ow y _ hy).2 id (e1▸hb))) (λ_ _ _ h=>h)⟩
theorem qjz{ty:TypeId}{k:Nat}(hk:kM P ty=some k){b o:Nat}{v:Value}{c:Array Value}{e:TypeId}(hw:w.heap[b]?=some (.cells c e (0,0)))(hs:v.cells.size=k)(ho:o+k<=c.size)(h1:∀u∈v.cells.toList,u.oneCell'=true): (Instr.storeAt ty (.pointer (some ⟨b,o,none⟩)) v).run P w=.ok () (w.setRow b (c.toList.take o++v.cells.toList++c.toList.drop (o+v.cells.toList.length)).toArray):=by have:=run_storeCells_at P b o e v.cells.toList 0 c w hw (by simp;omega) h1;simp only[Nat.add_zero]at this;simp only[Instr.storeAt,Instr.sureAddr,Sem.run_bind,Sem.run_pure,Result.andThen_ok,storeVar,QM hk,hs,ne_eq,not_true_eq_false,if_false];exact this
theorem gR{cs vs:List qd}{o i:Nat}{x:qd}(hl:o+vs.length<=cs.length)(h:(splice cs o vs)[i]?=some x):(i<o\/o+vs.length<=i)/\cs[i]?=some x\/o<=i/\i<o+vs.length/\vs[i - o]?=some x:=by
 unfold splice at h;by_cases h1:i<o;·left;rw[jp,ja (by simp;omega),List.getElem?_take_of_lt h1]at h;exact⟨.inl h1,h⟩
 ·by_cases h2:i<o+vs.length;·right;rw[ja (by simp;omega),jc (by simp;omega)]at h;refine⟨zo,h2,?_⟩;simpa[Nat.min_eq_left (show o<=cs.length by omega)]using h
  ·left;rw[jc (by simp;omega),List.getElem?_drop]at h;refine⟨.inr zo,?_⟩;rw[<-h];congr 1;simp[Nat.min_eq_left (show o<=cs.length by omega)];omega
theorem QV{cs vs:List Value}{o i:Nat}(hl:o+vs.length<=cs.length):(i<o\/o+vs.length<=i->(cs.take o++vs++cs.drop (o+vs.length))[i]?=cs[i]?)/\(o<=i->i<o+vs.length->(cs.take o++vs++cs.drop (o+vs.length))[i]?=vs[i - o]?):=by
 constructor
 ·rintro(h1|h1);·rw[jp,ja (by simp;omega),List.getElem?_take_of_lt h1]
  ·rw[jc (by simp;omega),List.getElem?_drop];congr 1;simp[Nat.min_eq_left (show o<=cs.length by omega)];omega
 ·intro h1 h2;rw[ja (by simp;omega),jc (by simp;omega)];simp[Nat.min_eq_left (show o<=cs.length by omega)]
theorem F3{γ:Nat->Option Nat}{imm:Nat->Nat->Option Value}{cs vs:List qd}{l us:List Value}{p:Nat}(h:qx γ imm cs (l.take cs.length))(hv:qx γ imm vs us)(a6:p+vs.length<=cs.length): qx γ imm (splice cs p vs) ((l.take p++us++l.drop (p+us.length)).take (splice cs p vs).length):=by
 have hl:=hv.length;have a7:=gD h;refine qx.of_get ?_ λi a v ha U=>?_;·simp only[splice,ji,List.length_take,List.length_drop];omega
 ·rw[List.getElem?_take_of_lt (jd.1 ha).1]at U;have hg:=QV (cs:=l) (vs:=us) (o:=p) (i:=i) zo;rcases gR a6 ha with⟨h1,h2⟩|⟨h1,h2,h3⟩;·rw[hg.1 zo]at U;obtain⟨u,hu,hr⟩:=D1 h h2;rw[U]at hu;cases hu;exact hr
  ·rw[hg.2 h1 zo]at U;obtain⟨u,hu,hr⟩:=hv.get h3;rw[U]at hu;cases hu;exact hr
theorem qng(hc:Cfg P gl G h t a w){o:Oper}{ty:TypeId}{x y:Operand}{ax ay:qM}{k:Option Nat}{id p:Nat}{cs:List qd}(ho:o.op=.store ty x y)(aD:kM P ty=some (k.getD 1))(hx:opd gl x=some ax)(hy:opd gl y=some ay)(hp:ev t ax=.ptr id p)(hid:h[id]?=some (.cells cs))(aN:(match k with|none=>[raw t ay]|some _=>(raw t ay).dim.cells.map qd.dim).length=k.getD 1)(aa:p+(match k with|none=>[raw t ay]|some _=>(raw t ay).dim.cells.map qd.dim).length<=cs.length)(U:(match k with|none=>[raw t ay]|some _=>(raw t ay).dim.cells.map qd.dim).all qd.storable=true)(n:Nat): Did P gl G w a o n (h.set id (.cells (splice cs p (match k with|none=>[raw t ay]|some _=>(raw t ay).dim.cells.map qd.dim)))) (AE.put o.dst .undef (Z5 t ay)):=by
 have hv:=Zg hc.rel hc.tr hx;rw[hp]at hv;simp only[qk.V,qP]at hv;obtain⟨b,hb,he⟩:=hv;obtain⟨c,e,hw,av,aj⟩:=hc.rel.box id b _ hb hid;have ap:=ue hc.rel hc.tr hy;generalize ab:(match k with|none=>[raw t ay]|some _=>(raw t ay).dim.cells.map qd.dim)=vs at*
 have ak:(raw t ay).dim.cells.all qd.storable=true/\vs.length=(raw t ay).dim.cells.length/\(∀(i:Nat)(x:qd),vs[i]?=some x->x=raw t ay/\k=none\/x.dim=x)/\(∀γ imm us,qx γ imm (raw t ay).dim.cells us->qx γ imm vs us\/k=none):=by
  cases k with
  |none=>
   subst ab;simp only[jC,jD,jw]at U
   have hd:(raw t ay).dim.storable=true:=by
    generalize raw t ay=r at U⊢;cases r<;>first|exact U|rfl|skip
    rename_i xs f;cases f<;>rfl
   refine⟨by rw[Z3 hd];simp[hd],by rw[Z3 hd];rfl,λi x hi=>?_,λ_ _ _ _=>.inr rfl⟩
   cases i with
   |zero=>simp at hi;exact .inl ⟨hi.symm,rfl⟩
   |succ i=>simp at hi
  |some m=>
   subst ab;refine⟨?_,by simp,λi x hi=>.inr ?_,λγ imm us hu=>.inl hu.dims⟩;·rw[List.all_map]at U;rw[List.all_eq_true]at U⊢;intro y hy;have:=U y hy;cases y<;>first|exact this|rfl
   ·simp only[jr,Option.map_eq_some_iff]at hi;obtain⟨z,_,rfl⟩:=hi;exact Qh z
 obtain⟨aK,aR,az,aJ⟩:=ak;obtain⟨aF,aE⟩:=Xk (Qq ap) aK
 have a6:G.VL vs (a.eval y).cells.toList:=by
  rcases aJ _ _ _ aF with h1|h1;·exact h1
  ·subst h1;subst ab;simp only[jC,jD,jw]at U;have:=(Xk ap (by rw[Z3 U];simp[U])).1;rwa[Z3 U]at this
 have aO:cs.length<=c.size:=by simpa using gD av
 have al:(a.eval y).cells.size=k.getD 1:=by have:=a6.length;simp at this;omega
 have ac:=qjz (P:=P) (w:=w) aD hw al (by omega:p+k.getD 1<=c.size) aE;generalize ah:(c.toList.take p++(a.eval y).cells.toList++c.toList.drop (p+(a.eval y).cells.toList.length)).toArray=c' at ac;have ai:(execOp a.eval o).run P w=.ok .skip (w.setRow b c'):=by simp[execOp,ho,he,ac]
 have ad:G.VL (splice cs p vs) (c'.toList.take (splice cs p vs).length):=by rw[<-ah];exact F3 av a6 aa
 have a8:(a.eval y).cells.toList.length=vs.length:=a6.length.symm;have au:c'.size=c.size:=by rw[<-ah];simp at a8⊢;omega
 have af:∀i,i<p\/p+vs.length<=i->c'[i]?=c[i]?:=λi hi=>by have:=(QV (cs:=c.toList) (vs:=(a.eval y).cells.toList) (o:=p) (i:=i) (by simp at a8⊢;omega)).1 (by rw[a8];exact hi);rw[<-ah,<-Array.getElem?_toList,<-Array.getElem?_toList (xs:=c)];exact this
 by_cases ae:∃i xs j,ay=.t i/\t[i]?=some (.lst xs (.own j))
 ·obtain⟨i,xs,j,rfl,hi⟩:=ae;have a7:=yY hy;subst a7;obtain⟨v,hv,hr⟩:=hc.tr.rel.get hi;have aA:=yr hv;have hg:t.getD i .undef=.lst xs (.own j):=(by simp[List.getD,hi]);have aH:Z5 t (.t i)=t.set i (.lst xs .no):=(by simp only[Z5,hg]);obtain⟨b2,p2,len,cap,c2,e2,rfl,k1,k2,k3,k4,k5⟩:=hc.tr.own i xs j v hi (by simpa using hv);have aL:b2≠b:=λe1=>(hc.rel.ow b2 _ k1).2 id (e1▸hb);rw[aH];refine⟨_,undef,_,G.give b2 (some (.cell id p)),ai,.inr ⟨rfl,rfl⟩,λhq _=>absurd (.inl ⟨ty,x,_,ho⟩) hq,Ext.store n hb hw rfl rfl (λx hx=>?_),?_,?_⟩
  ·simp only[qk.give]at hx;split at hx;·rename_i e1;subst e1;simp[k1]
   ·exact hx
  ·refine hc.rel.store hb hid hw rfl rfl (λx hx=>?_) (λx aP o' aQ hx=>?_) ad au (λo' ys k' u a7 hu=>?_)
   ·simp only[qk.give]at hx;split at hx;·rename_i e1;subst e1;simp[k1]
    ·exact hx
   ·have:x≠b2:=λe1=>(by subst e1;rw[k1]at hx;cases hx);simpa[qk.give,this]using hx
   ·rcases gR aa a7 with⟨h1,h2⟩|⟨h1,h2,h3⟩;·have h4:c[o']?=some u:=(by rw[<-af o' h1];exact hu);refine(aj o' ys k' u h2 h4).keep (λx hx=>?_) (λx hx=>qN w b x c' (λe1=>(hc.rel.ow x _ hx).2 id (e1▸hb))) (λ_ _ _ h=>h);have:x≠b2:=λe1=>(by subst e1;rw[k1]at hx;cases hx);simpa[qk.give,this]using hx
    ·rcases az _ _ h3 with⟨h4,h5⟩|h4;·subst h5;simp only[raw,hg,qd.lst.injEq,WM.own.injEq]at h4;obtain⟨rfl,rfl⟩:=h4;have aM:vs.length=1:=(by rw[<-ab];rfl);have aG:o'=p:=zo;subst aG;have aB:u=.slice (some ⟨b2,p2,none⟩) len cap:=(by have h6:=(QV (cs:=c.toList) (vs:=(a.eval (.tmp i)).cells.toList) (o:=o') (i:=o') (by simp at a8⊢;omega)).2 (jm _) (by rw[a8];omega);rw[<-ah,<-Array.getElem?_toList,h6,aA]at hu;simpa[Value.cells]using hu.symm);subst aB;exact⟨b2,p2,len,cap,c2,e2,rfl,by simp[qk.give],by rw[qN w b b2 c' aL];exact k2,k3,k4,k5⟩
     ·simp[qd.dim]at h4
  ·have aC:=(hc.tr.give (ℓ:=some (.cell id p)) hi k1).store (hc.rel.give (ℓ:=.cell id p) k1 (λ_ _ e1=>by cases e1)) c' (id:=id) (b:=b) hb;exact aC.put o.dst (by simp[qk.V,qP,undef,Ww]) rfl a.defers
 ·have am:∀i xs k,ay=.t i->t[i]?≠some (.lst xs (.own k)):=λi xs k h1 h2=>ae ⟨i,xs,k,h1,h2⟩;obtain⟨ar,aI⟩:=KB am (vV hy);rw[aI];refine⟨_,undef,_,G,ai,.inr ⟨rfl,rfl⟩,λhq _=>absurd (.inl ⟨ty,x,_,ho⟩) hq,Ext.store n hb hw rfl rfl (λ_ h=>h),?_,?_⟩
  ·refine hc.rel.store hb hid hw rfl rfl (λ_ h=>h) (λ_ _ _ _ h=>h) ad au (λo' ys k' u a7 hu=>?_);rcases gR aa a7 with⟨h1,h2⟩|⟨h1,h2,h3⟩;·have h4:c[o']?=some u:=(by rw[<-af o' h1];exact hu);exact(aj o' ys k' u h2 h4).keep (λ_ h=>h) (λx hx=>qN w b x c' (λe1=>(hc.rel.ow x _ hx).2 id (e1▸hb))) (λ_ _ _ h=>h)
   ·exfalso;rcases az _ _ h3 with⟨h4,_⟩|h4;·rw[<-h4]at ar;simp[qd.dim]at ar
    ·simp[qd.dim]at h4
  ·exact(hc.tr.store hc.rel c' hb).put o.dst (by simp[qk.V,qP,undef,Ww]) rfl a.defers
end
theorem W5{xs:List qd}{k:Nat}(h:∀x∈xs,x.cells.length=k):(DY xs).length=xs.length*k:=by
 induction xs with
 |nil=>simp[DY]
 |cons x xs ih=>have h1:=h x (by simp);have h2:=ih λy hy=>h y (by simp[hy]);simp only[DY,List.flatMap_cons,ji,jy]at h2⊢;rw[h1,h2,Nat.add_mul,Nat.one_mul,ju]
section
variable{γ:Nat->Option Nat}{imm:Nat->Nat->Option Value}
theorem Zd.list:∀{xs:List qd}{b p:Nat},Zd γ imm xs b p->∃vs,qx γ imm (DY xs) vs/\∀(j:Nat)(v:Value),vs[j]?=some v->imm b (p+j)=some v
 |[],b,p,_=>⟨[],by simp[DY,qx],λj v h=>by simp at h⟩
 |x::xs,b,p,hx=>by
  obtain⟨h1,h2⟩:=hx.uncons;obtain⟨vs,h3,h4⟩:=h1.list;obtain⟨us,h5,h6⟩:=Zd.list h2;refine⟨vs++us,by simpa[DY]using h3.append h5,λj v hj=>?_⟩;by_cases e:j<vs.length;·rw[ja e]at hj;exact h4 j v hj
  ·rw[jc zo]at hj;have:=h6 _ v hj;rw[h3.length]at this;rwa[show p+vs.length+(j - vs.length)=p+j by omega]at this
theorem Zd.of_flat:∀{xs:List qd}{vs:List Value}{b p:Nat},qx γ imm (DY xs) vs->(∀(j:Nat)(v:Value),vs[j]?=some v->v≠Ww->imm b (p+j)=some v)->Zd γ imm xs b p
 |[],_,_,_,_,_=>by simp[Zd]
 |x::xs,vs,b,p,hv,hi=>by
  simp only[DY,List.flatMap_cons]at hv;have hl:=hv.length;refine Zd.cons (ZD.of_get λi c hc=>?_) (Zd.of_flat (vs:=vs.drop x.cells.length) ?_ λj v hj hm=>?_);·obtain⟨v,h1,h2⟩:=hv.get (i:=i) (a:=c) (by rw[ja (jd.1 hc).1];exact hc);exact⟨v,hi i v h1 (Wx h2),h2⟩
  ·have:=hv.drop x.cells.length;simpa[DY]using this
  ·rw[List.getElem?_drop]at hj;rw[jt];exact hi _ v hj hm
theorem Zd.cells_one{xs:List qd}{vs:List Value}(h:qx γ imm (DY xs) vs)(hs:(DY xs).all qd.storable=true):∀v∈vs,v.oneCell'=true:=by
 intro v hv;obtain⟨i,hi⟩:=List.getElem?_of_mem hv;obtain⟨a,ha,hr⟩:=h.get' hi;have U:a.storable=true:=by rw[List.all_eq_true]at hs;exact hs a (List.mem_of_getElem? ha)
 have:=(Xk hr (by rw[Z3 U];simp[U])).2 v (by
  cases v<;>first|(simp[Value.cells];done)|skip
  all_goals
   exfalso
   cases a<;>first|(simp[qd.storable]at U;done)|(simp only[qP]at hr;first|(cases hr;done)|(obtain⟨_,hr⟩:=hr;cases hr;done)|(obtain⟨_,hr,_⟩:=hr;cases hr;done)|(obtain⟨_,_,hr,_⟩:=hr;cases hr;done)|(obtain⟨_,_,hr⟩:=hr;cases hr;done)|(obtain⟨_,_,_,hr,_⟩:=hr;cases hr;done)))
 exact this
end
section
variable{P:Program}{gl:Nat->Option (List qd)}{G G':qk}{w w':World}{h:List qj}{t:List qd}{a:Act}{n:Nat}
theorem L6(hr:Rel P gl G h w){xs:List qd}{f:WM}{v:Value}(hv:G.V (.lst xs f) v){k:Nat}(hk:∀x∈xs,x.cells.length=k): ∃vs:List Value,G.VL (DY xs) vs/\(∀w1:World,(∀x,w1.cell? x=w.cell? x)->(Builtin.firstCells k xs.length v).run P w1=.ok vs.toArray w1)/\(Builtin.lenOf v).run P w=.ok xs.length w:=by
 simp only[qk.V,qP]at hv;obtain⟨base,len,cap,rfl,h1,h2,h3,h4,_,h5⟩:=hv;subst h1;rcases h5 with rfl|⟨b,p,rfl,hE⟩
 ·refine⟨[],by simp[DY,qk.VL,qx],λw1 _=>?_,by simp[Builtin.lenOf]⟩
  cases base with
  |none=>simp[Builtin.firstCells]
  |some a0=>simp[Builtin.firstCells,loadCells,loadCellsFrom]
 ·obtain⟨vs,h6,h7⟩:=hE.list;refine⟨vs,h6,λw1 a6=>?_,by simp[Builtin.lenOf]⟩;have hl:vs.length=xs.length*k:=(by rw[<-h6.length,W5 hk]);have:=run_loadCells_list (P:=P) w1 ⟨b,p,none⟩ vs (λj v hj=>by rw[Xj,a6];obtain⟨x,_,U⟩:=h6.get' hj;exact(hr.imm b _ v (h7 j v hj) (Wx U)).1);rw[hl]at this;simp[Builtin.firstCells,this]
theorem zq{s:List UInt8}{v:Value}(hv:G.V (.str s) v):∃vs:List Value,G.VL (DY (zy s)) vs/\(∀(k:Nat)(w1:World),(Builtin.firstCells k s.length v).run P w1=.ok vs.toArray w1)/\(Builtin.lenOf v).run P w=.ok s.length w:=by
 simp only[qk.V,qP]at hv;obtain⟨b,rfl,hb⟩:=hv;have U:b.size=s.length:=by rw[<-hb];rfl
 refine⟨s.map λc=>.int .u8 c.toNat,?_,λk w1=>?_,by simp[Builtin.lenOf,U]⟩
 ·clear hb U
  induction s with
  |nil=>simp[DY,zy,qk.VL,qx]
  |cons c s ih=>simp only[DY,zy,List.map_cons,List.flatMap_cons,qd.cells,List.singleton_append,qk.VL,qx]at ih⊢;exact⟨_,_,rfl,by simp[qP],ih⟩
 ·have he:(b.extract 0 s.length).data=b.data:=(by apply Array.ext';rw[LY];rw[<-hb];simp only[List.drop_zero,Nat.sub_zero];exact List.take_of_length_le (jm _));simp only[Builtin.firstCells,Sem.run_pure];congr 1;rw[he];apply Array.ext';simp[hb]
theorem qeZ(U cap:Nat)(h:U<=2 ^ 30)(hc:cap<U):Builtin.nextslicecap U cap<=2 ^ 32:=by
 unfold Builtin.nextslicecap;split;·omega
 ·split;·omega
  ·have g0:∀c,Builtin.growBy U 0 c=c:=λc=>rfl;have gs:∀n c,Builtin.growBy U (n+1) c=if c>=U then c else Builtin.growBy U n (c+(c+768) / 4):=λn c=>rfl
   rw[gs];split;·omega
   ·rw[gs];split;·omega
    ·rw[gs];split;·omega
     ·rw[gs];split;·omega
      ·rw[g0];omega
end
section
variable{P:Program}{gl:Nat->Option (List qd)}{G G':qk}{w w':World}{h:List qj}{t:List qd}{a:Act}{n:Nat}
noncomputable def qk.fixed(G:qk)(b:Nat)(c:Array Value)(lo hi:Nat)(ℓ:Option Loc):qk:={γ:=G.γ,imm:=λx o=>if x=b/\lo<=o/\o<hi then qaU c[o]? else G.imm x o,ow:=λx=>if x=b then ℓ else G.ow x}
theorem gy{sT xT e:TypeId}{i:TypeInfo}{ux:TypeDesc}(hu:P.underlying sT=some (.slice e))(hx:P.underlying xT=some ux)(av:(∃e',ux=.slice e')\/ux=.string)(hi:P.info? e=some i){base:Option Addr}{len cap m:Nat}{x:Value}(hl:(Builtin.lenOf x).run P w=.ok m w)(ty:TypeId)(old new:List Value)(aa:∀w1:World,(∀y,w1.cell? y=w.cell? y)->(Builtin.firstCells i.size m x).run P w1=.ok new.toArray w1)(hold:∀w1:World,(∀y,w1.cell? y=w.cell? y)->(Builtin.firstCells i.size len (.slice base len cap)).run P w1=.ok old.toArray w1)(am:len+m<=2 ^ 30)(hb:i.bytes<=65536){z:Value}(hz:∀w1:World,(zeroValue e).run P w1=.ok z w1)(ar:z.cells.size=i.size)(ad:old.length=len*i.size)(a6:new.length=m*i.size): (cap<len+m->∃U d c,len+m<=U/\(Builtin.append_ #[sT,xT] ty #[.slice base len cap,x]).run P w=.ok (.slice (some ⟨w.heap.size,0,none⟩) (len+m) U) (({w with drawn:=d}:World).alloc (.cells c e))/\c.size=U*i.size/\∀(j:Nat)(v:Value),(old++new)[j]?=some v->c[j]?=some v)/\(len+m<=cap->∀b p,base=some ⟨b,p,none⟩->∀(c:Array Value)(te:TypeId),w.heap[b]?=some (.cells c te (0,0))->p+(len+m)*i.size<=c.size->(∀v∈new,v.oneCell'=true)->(Builtin.append_ #[sT,xT] ty #[.slice base len cap,x]).run P w=.ok (.slice base (len+m) cap) (w.setRow b (c.toList.take (p+len*i.size)++new++c.toList.drop (p+len*i.size+new.length)).toArray))/\(m=0->len<=cap->(Builtin.append_ #[sT,xT] ty #[.slice base len cap,x]).run P w=.ok (.slice base len cap) w):=by
 rcases av with⟨e',rfl⟩|rfl
 all_goals
  have a7:(sizeOf e).run P w=.ok i.size w:=(by simp[sizeOf,typeInfo,hi]);have ah:∀w1:World,(typeInfo e).run P w1=.ok i w1:=λw1=>(by simp[typeInfo,hi]);have ab:=aa w (λ_=>rfl);refine⟨λhc=>?_,λhc b p af c te hw ap h1=>?_,λhm hc=>?_⟩
  ·have aA:¬ (len+m<=cap):=zo;have aF:¬ (((len+m:Nat):Int) > IntKind.i64.max/\(False\/i.bytes=0)):=(by simp only[IntKind.max,IntKind.signed,IntKind.bits,if_true];omega);have aB:=qeZ (len+m) cap am hc;have aE:¬ (Builtin.nextslicecap (len+m) cap*i.bytes > 2 ^ 48):=(by have:Builtin.nextslicecap (len+m) cap*i.bytes<=2 ^ 32*65536:=Nat.mul_le_mul aB hb;omega);have hq:(Question.appendCap (len+m) cap e).forced=false:=rfl;generalize a8:(Question.appendCap (len+m) cap e).cut (w.tape w.drawn (Question.appendCap (len+m) cap e))=U;have aD:len+m<=U:=(by rw[<-a8];simp only[Question.cut];omega);refine⟨U,w.drawn+1,old.toArray++new.toArray++Builtin.zeroCells z.cells (U - (len+m)),aD,?_,?_,?_⟩;·have ac:=hold w.drew (λ_=>rfl);have ae:=aa w.drew (λ_=>rfl);have au:=hz w.drew;have ay:=ah w.drew;have az:=ah w;have aC:¬ (9223372036854775807<(len:Int)+(m:Int)/\i.bytes=0):=zo;have al:¬ (281474976710656<Builtin.nextslicecap (len+m) cap*i.bytes):=zo;simp[Builtin.append_,run_underlying hu,run_underlying hx,a7,hl,aA,az,aC,al,hq,a8,ay,ac,ae,au,newRow,IntKind.max,IntKind.signed,IntKind.bits];exact congrArg (λc=>w.drew.alloc (Obj.cells c e)) (Array.ext' (by simp))
   ·simp[Builtin.zeroCells,ad,a6,ar];rw[<-Nat.add_mul,<-Nat.add_mul];congr 1;omega
   ·intro j v hj;have aj:(old.toArray++new.toArray)[j]?=some v:=(by simpa[Array.getElem?_append,List.getElem?_append]using hj);rw[jB (je.1 aj).1];exact aj
  ·subst af;have ai:=run_storeCells_at P b (p+len*i.size) te new 0 c w hw (by rw[Nat.add_mul]at ap;rw[a6];omega) h1;simp only[Nat.add_zero]at ai;simp[Builtin.append_,run_underlying hu,run_underlying hx,a7,hl,hc,ab,Xj,ai]
  ·subst hm;have ak:new=[]:=(by have:new.length=0:=(by rw[a6];simp);exact List.eq_nil_of_length_eq_zero this);subst ak
   cases base with
   |none=>simp[Builtin.append_,run_underlying hu,run_underlying hx,a7,hl,hc,ab]
   |some a0=>simp[Builtin.append_,run_underlying hu,run_underlying hx,a7,hl,hc,ab,storeCells]
end
section
variable{P:Program}{gl:Nat->Option (List qd)}{G G':qk}{w w':World}{h:List qj}{t:List qd}{a:Act}{n:Nat}
def qn0(h:List qj)(t:List qd):Loc->Prop
 |.tmp i=>∀xs k,t[i]?≠some (.lst xs (.own k))
 |.cell id o=>(∀cs xs k,h[id]?=some (.cells cs)->cs[o]?≠some (.lst xs (.own k)))/\∀T e s,h[id]?≠some (.bld T e s)
theorem qhm(hr:Rel P gl G h w)(ht:Z0 G w t a.tmps){b s hi:Nat}{a8:Loc}{ℓ:Option Loc}{c c':Array Value}{e:TypeId}(hb:G.ow b=some a8)(hq:qn0 h t a8)(hw:w.heap[b]?=some (.cells c e (0,0)))(af:∀j,s<=j->G.imm b j=none)(aj:∀j,j<s->c'[j]?=c[j]?)(ak:c'.size=c.size)(n:Nat): Rel P gl (G.fixed b c' s hi ℓ) h (w.setRow b c')/\Z0 (G.fixed b c' s hi ℓ) (w.setRow b c') t a.tmps/\Ext n G w (G.fixed b c' s hi ℓ) (w.setRow b c'):=by
 have ab:∀i,G.γ i≠some b:=(hr.ow b a8 hb).2
 have aa:∀x o v,G.imm x o=some v->(G.fixed b c' s hi ℓ).imm x o=some v:=by
  intro x o v hv;simp only[qk.fixed];rw[if_neg];·exact hv
  ·rintro⟨rfl,h1,_⟩;rw[af o h1]at hv;cases hv
 have ae:∀x j,x≠b->G.imm x j=none->(G.fixed b c' s hi ℓ).imm x j=none:=by intro x j hx hj;simp only[qk.fixed];rw[if_neg (λhh=>hx hh.1)];exact hj
 have ac:∀x a7,x≠b->G.ow x=some a7->(G.fixed b c' s hi ℓ).ow x=some a7:=by intro x a7 hx hh;simp only[qk.fixed];rw[if_neg hx];exact hh
 refine⟨⟨λi x hx=>by simpa using hr.γlt i x hx,hr.inj,λi x bx hx ah=>?_,λx o v hv hm=>?_,λx o v i hv hm=>?_,λx o hv=>?_,λx a7 hx=>?_,λg cs hg=>?_⟩,?_,?_⟩
 ·have U:x≠b:=λe1=>ab i (e1▸hx);have h0:=hr.box i x bx hx ah
  cases bx with
  |cells cs=>obtain⟨d,e',h1,h2,h3⟩:=h0;obtain⟨m,hm⟩:=ZG cs;refine⟨d,e',by rw[qN w b x c' U];exact h1,qx.mono aa m (λ_ _ _ h=>h) cs _ hm h2,λo xs k v ho hv=>?_⟩;have a6:∀y,G.ow y=some (.cell i o)->y≠b:=λy hy e1=>(by subst e1;rw[hb]at hy;cases hy;exact hq.1 cs xs k ah ho);exact(h3 o xs k v ho hv).keep (λy hy=>ac y _ (a6 y hy) hy) (λy hy=>qN w b y c' (a6 y hy)) (λy j hy hj=>ae y j (a6 y hy) hj)
  |loop tt _ _ _ _ _=>obtain⟨L,h1,h2⟩:=h0;obtain⟨m,hm⟩:=ZG tt;exact⟨L,by rw[qN w b x c' U];exact h1,{h2 with tmps:=qx.mono aa m (λ_ _ _ h=>h) tt _ hm h2.tmps}⟩
  |map es _=>obtain⟨me,h1,h2⟩:=h0;obtain⟨m,hm⟩:=Wj es;exact⟨me,by rw[qN w b x c' U];exact h1,Zb.mono aa m (λ_ _ _ h=>h) hm h2⟩
  |iter im _ _ _=>obtain⟨mm,h1,h2⟩:=h0;obtain⟨m,hm⟩:=AE.lower_ex im;exact⟨mm,by rw[qN w b x c' U];exact h1,qP.mono aa m (λ_ _ _ h=>h) _ _ hm h2⟩
  |bld _ _ _=>have a6:∀y,G.ow y=some (.cell i 1)->y≠b:=λy hy e1=>(by subst e1;rw[hb]at hy;cases hy;exact hq.2 _ _ _ ah);exact qfL.keep h0 (qN w b x c' U) (λy hy=>ac y _ (a6 y hy) hy) (λy hy=>qN w b y c' (a6 y hy)) (λy j hy hj=>ae y j (a6 y hy) hj)
  |dead=>trivial
 ·simp only[qk.fixed]at hv;split at hv;·rename_i hh;obtain⟨rfl,_,_⟩:=hh;refine⟨?_,by simpa using(hr.ow x a8 hb).1⟩;simp only[World.cell?,setRow_heap w x c c' e (0,0) hw];simpa using(Qi.1 hv).1
  ·rename_i hh;obtain⟨h1,h2⟩:=hr.imm x o v hv hm;refine⟨?_,by simpa using h2⟩;by_cases U:x=b
   ·subst U
    have ad:o<s:=by
     by_cases ad:o<s;·exact ad
     ·rw[af o zo]at hv;cases hv
    simp only[World.cell?,setRow_heap w x c c' e (0,0) hw,hw]at h1⊢;simpa[aj o ad]using h1
   ·exact(Xb (qN w b x c' U)).trans h1
 ·simp only[qk.fixed]at hv;split at hv;·rename_i hh;obtain⟨rfl,_,_⟩:=hh;exact λe1=>absurd e1 (ab i)
  ·exact hr.immγ x o v i hv hm
 ·simp only[qk.fixed]at hv;split at hv;·exact absurd rfl (Qi.1 hv).2
  ·obtain⟨h0,d,e',h1,h2⟩:=hr.immK x o hv;by_cases U:x=b;·subst U;rw[hw]at h1;cases h1;exact⟨h0,c',e,setRow_heap w x c c' e (0,0) hw,zo⟩
   ·exact⟨h0,d,e',by rw[qN w b x c' U];exact h1,h2⟩
 ·simp only[qk.fixed]at hx;split at hx;·rename_i hh;subst hh;exact⟨by simpa using(hr.ow x a8 hb).1,ab⟩
  ·exact⟨by simpa using(hr.ow x a7 hx).1,(hr.ow x a7 hx).2⟩
 ·obtain⟨h1,h2⟩:=hr.glob g cs hg;exact⟨kz.mono aa cs g h2 h1,h2⟩
 ·obtain⟨m,hm⟩:=ZG t;refine⟨qx.mono aa m (λ_ _ _ h=>h) t _ hm ht.rel,λi xs k v ai hv=>?_⟩;have a6:∀y,G.ow y=some (.tmp i)->y≠b:=λy hy e1=>(by subst e1;rw[hb]at hy;cases hy;exact hq xs k ai);exact(ht.own i xs k v ai hv).keep (λy hy=>ac y _ (a6 y hy) hy) (λy hy=>qN w b y c' (a6 y hy)) (λy j hy hj=>ae y j (a6 y hy) hj)
 ·refine⟨λ_ _ h=>h,λ_ _ h=>.inl h,aa,λx o v hv=>?_,λx hx=>?_,by simp,λx hx hf=>?_,λx L hL=>?_,rfl,rfl,rfl⟩
  ·simp only[qk.fixed]at hv;split at hv;·rename_i hh;obtain⟨rfl,_,_⟩:=hh;exact .inr (.inr (.inl (by simp[hb])))
   ·exact .inl hv
  ·simp only[qk.fixed]at hx;split at hx;·rename_i hh;subst hh;exact .inl (by simp[hb])
   ·exact .inl hx
  ·exact qN w b x c' (λe1=>by subst e1;rw[hf.2]at hb;cases hb)
  ·have:x≠b:=λe1=>(by subst e1;rw[hw]at hL;cases hL);exact⟨L,by rw[qN w b x c' this];exact hL,rfl,rfl,rfl,rfl,rfl,rfl⟩
theorem Rel.drainCell(hr:Rel P gl G h w){id o:Nat}{cs:List qd}{xs:List qd}{f:WM}(hid:h[id]?=some (.cells cs))(ho:cs[o]?=some (.lst xs f)): Rel P gl G (h.set id (.cells (cs.set o (.lst xs .no)))) w:=by
 have a8:=jd.1 hid |>.1;refine⟨λi x hx=>by simpa using hr.γlt i x hx,qbj hr.inj hid (by simp),λi x bx hx a6=>?_,hr.imm,λb o v i hv hm hg=>gA hid (by simp) (hr.immγ b o v i hv hm hg),hr.immK,hr.ow,hr.glob⟩;by_cases e1:id=i
 ·subst e1;rw[jg a8]at a6;cases a6;obtain⟨c,e,h1,h2,h3⟩:=hr.box id x _ hx hid;obtain⟨v,hv,a7⟩:=h2.get ho;have h4:=qx.set o h2 (vS a7);have e2:(c.toList.take cs.length).set o v=c.toList.take cs.length:=(by obtain⟨h5,h6⟩:=jd.1 hv;rw[<-h6];exact List.set_getElem_self h5);rw[e2]at h4;refine⟨c,e,h1,by simpa using h4,λo' ys k u U hu=>?_⟩;by_cases e3:o=o';·subst e3;rw[jg (jd.1 ho).1]at U;simp at U
  ·rw[jf e3]at U;exact h3 o' ys k u U hu
 ·rw[jf e1]at a6;exact hr.box i x bx hx a6
theorem qcq(hc:Cfg P gl G h t a w){o:Oper}{c:Go.Call}{x y:Operand}{sT xT e:TypeId}{i:TypeInfo}{ux:TypeDesc}{z:qd}{ys xs:List qd}{f0:WM}(ho:o.op=.call c)(hcal:c.callee=.builtin .append)(au:c.args.toList=[x,y])(aP:c.argTypes.toList=[sT,xT])(hu:P.underlying sT=some (.slice e))(hx:P.underlying xT=some ux)(aL:(∃e',ux=.slice e')\/ux=.string)(hi:P.info? e=some i)(b6:i.size≠0)(hb:i.bytes<=65536)(hz:QI P e=some z)(b4:z.cells.length=i.size)(av:G.V (.lst xs f0) (a.eval x))(aK:∃nv:List Value,G.VL (DY ys) nv/\(∀w1:World,(∀q,w1.cell? q=w.cell? q)->(Builtin.firstCells i.size ys.length (a.eval y)).run P w1=.ok nv.toArray w1)/\(Builtin.lenOf (a.eval y)).run P w=.ok ys.length w)(aI:xs.length+ys.length<=kJ)(ai:∀y∈ys,y.cells.length=i.size)(aD:(DY ys).all qd.storable=true)(a7:∀x∈xs,x.cells.length=i.size)(aT:ys≠[])(ar:f0=.full\/∃aa,qku G w aa i.size (a.eval x)/\qn0 h t aa)(n:Nat): Did P gl G w a o n h (AE.put o.dst (.lst (xs++ys) (.own i.size)) t):=by
 have ea:c.args=#[x,y]:=by rw[<-Array.toArray_toList (xs:=c.args),au]
 have et:c.argTypes=#[sT,xT]:=by rw[<-Array.toArray_toList (xs:=c.argTypes),aP]
 obtain⟨nv,af,aW,aV⟩:=aK;obtain⟨ov,aA,az,aR⟩:=L6 (P:=P) hc.rel av a7;have aB:nv.length=ys.length*i.size:=by rw[<-af.length,W5 ai]
 have ay:ov.length=xs.length*i.size:=by rw[<-aA.length,W5 a7]
 have b1:0<ys.length:=by cases ys with|nil=>exact absurd rfl aT|cons _ _=>simp
 have aU:=Zd.cells_one af aD;obtain⟨u0,aO,aE⟩:∃u0:Value,(∀w1:World,(zeroValue e).run P w1=.ok u0 w1)/\u0.cells.size=i.size:=by unfold QI at hz;rw[hi]at hz;simp only at hz;obtain⟨u,aN,aM⟩:=qB (by simpa[jA]using hz);refine⟨u,λw1=>by simp[zeroValue,typeInfo,hi,aN],?_⟩;have:=(FU (γ:=G.γ) (imm:=G.imm) aM).length;simp at this;omega
 have aj:=av;simp only[qk.V,qP]at aj;obtain⟨base,len,cap,ab,h1,h2,h3,h4,_,h5⟩:=aj;subst h1;rw[ab]at az aR;have ae:∀r w1,(Builtin.append_ #[sT,xT] o.type #[.slice base xs.length cap,a.eval y]).run P w=.ok r w1->(execOp a.eval o).run P w=.ok (.value r) w1:=by intro r w1 hr;simp[execOp,ho,hcal,ea,et,resolve,invoke,builtin,ab,hr]
 obtain⟨hA,hB,_⟩:=gy (P:=P) (w:=w) hu hx aL hi aV o.type ov nv aW az aI hb aO aE ay aB
 have ak:∀q∈xs++ys,q.cells.length=i.size:=λq hq=>by
  rcases List.mem_append.1 hq with hq|hq;·exact a7 q hq
  ·exact ai q hq
 by_cases a6:xs.length+ys.length<=cap
 ·rcases ar with rfl|⟨aa,aF,hq⟩;·exfalso;have:=h3 rfl;omega
  ·obtain⟨b,p,b0,b3,cc,te,ad,k1,k2,k3,k4,k5⟩:=aF;rw[ab]at ad;cases ad;have U:=ae _ _ (hB a6 b p rfl cc te k2 (by have:=Nat.mul_le_mul_right i.size a6;omega) aU);generalize ap:(cc.toList.take (p+xs.length*i.size)++nv++cc.toList.drop (p+xs.length*i.size+nv.length)).toArray=c' at U;have ac:p+xs.length*i.size+nv.length<=cc.toList.length:=(by have:(xs.length+ys.length)*i.size<=cap*i.size:=Nat.mul_le_mul_right _ a6;rw[Nat.add_mul]at this;simp;omega);have aH:∀j,j<p+xs.length*i.size->c'[j]?=cc[j]?:=λj hj=>(by have:=(QV (cs:=cc.toList) (vs:=nv) (o:=p+xs.length*i.size) (i:=j) ac).1 (.inl hj);rw[<-ap,<-Array.getElem?_toList,<-Array.getElem?_toList (xs:=cc)];exact this);have aG:∀(j:Nat)(v:Value),nv[j]?=some v->c'[p+xs.length*i.size+j]?=some v:=λj v hj=>(by have ah:=(jd.1 hj).1;have:=(QV (cs:=cc.toList) (vs:=nv) (o:=p+xs.length*i.size) (i:=p+xs.length*i.size+j) ac).2 zo zo;rw[<-ap,<-Array.getElem?_toList,this];simpa using hj);have am:c'.size=cc.size:=(by rw[<-ap];simp at ac⊢;omega);obtain⟨f1,f2,f3⟩:=qhm (P:=P) (gl:=gl) (ℓ:=o.dst.map Loc.tmp) (hi:=p+xs.length*i.size+nv.length) hc.rel hc.tr k1 hq k2 k5 aH zo n
   have hV:(G.fixed b c' (p+xs.length*i.size) (p+xs.length*i.size+nv.length) (o.dst.map Loc.tmp)).V (.lst (xs++ys) (.own i.size)) (.slice (some ⟨b,p,none⟩) (xs.length+ys.length) cap):=by
    simp only[qk.V,qP];refine⟨_,_,_,rfl,by simp,a6,by simp,by simp,⟨i.size,ak⟩,.inr ⟨b,p,rfl,?_⟩⟩;refine Zd.append a7 ?_ ?_
    ·rcases h5 with rfl|⟨b',p',aZ,hE⟩;·simp[Zd]
     ·cases aZ;obtain⟨m,hm⟩:=ZG xs;exact Zd.mono f3.ik m (λ_ _ _ h=>h) xs b p hm hE
    ·refine Zd.of_flat (vs:=nv) (f3.VL af) λj v hj hm=>?_;simp only[qk.fixed];rw[if_pos ⟨trivial,zo,by have:=(jd.1 hj).1;omega⟩];exact Qi.2 ⟨aG j v hj,hm⟩
   refine⟨_,_,_,_,U,.inl rfl,λhq _=>absurd (.inr ⟨c,ho,hcal⟩) hq,f3,f1,?_⟩
   cases hd:o.dst with
   |none=>simpa[AE.put,Act.put,hd]using f2
   |some d=>rw[hd]at hV f1 f2 f3;refine f2.putOwn d hV ⟨b,p,_,cap,c',te,rfl,by simp[qk.fixed],setRow_heap w b cc c' te (0,0) k2,a6,by rw[am];exact k4,λj hj=>?_⟩ a.defers;simp only[qk.fixed];rw[if_neg (λhh=>by rw[Nat.add_mul]at hj;omega)];exact k5 j (by rw[Nat.add_mul]at hj;omega)
 ·obtain⟨a8,d0,cc,aC,U,aX,aY⟩:=hA zo;have U:=ae _ _ U;have al:Rel P gl G h {w with drawn:=d0}:=hc.rel.of_drew d0;have aQ:Z0 G {w with drawn:=d0} t a.tmps:=hc.tr.of_drew d0;have f1:=al.newRow cc e ((xs.length+ys.length)*i.size) (o.dst.map Loc.tmp);have f2:=Z0.newRow al aQ cc e ((xs.length+ys.length)*i.size) (o.dst.map Loc.tmp);have f3:Ext n G w _ _:=((Ext.refl n G w).drew d0).trans (jm n) (Ext.newRow n cc e ((xs.length+ys.length)*i.size) (o.dst.map Loc.tmp) al);have b5:({w with drawn:=d0}:World).heap.size=w.heap.size:=rfl;have aJ:∀(j:Nat)(v:Value),(ov++nv)[j]?=some v->v≠Ww->(G.withRow w.heap.size cc ((xs.length+ys.length)*i.size) (o.dst.map Loc.tmp)).imm w.heap.size (0+j)=some v:=λj v hj hm=>(by have ah:=(jd.1 hj).1;simp only[ji,ay,aB]at ah;rw[<-Nat.add_mul]at ah;simp only[qk.withRow,jv,if_true,if_pos ah];exact Qi.2 ⟨aY j v hj,hm⟩);have hV:(G.withRow w.heap.size cc ((xs.length+ys.length)*i.size) (o.dst.map Loc.tmp)).V (.lst (xs++ys) (.own i.size)) (.slice (some ⟨w.heap.size,0,none⟩) (xs.length+ys.length) a8):=(by simp only[qk.V,qP];refine⟨_,_,_,rfl,by simp,aC,by simp,by simp,⟨i.size,ak⟩,.inr ⟨_,_,rfl,?_⟩⟩;refine Zd.of_flat (vs:=ov++nv) ?_ aJ;have:DY (xs++ys)=DY xs++DY ys:=(by simp[DY]);rw[this];exact(f3.VL aA).append (f3.VL af));refine⟨_,_,_,_,U,.inl rfl,λhq _=>absurd (.inr ⟨c,ho,hcal⟩) hq,f3,f1,?_⟩
  cases hd:o.dst with
  |none=>simpa[AE.put,Act.put,hd]using f2
  |some d=>rw[hd]at hV f1 f2 f3;refine f2.putOwn d hV ⟨w.heap.size,0,_,a8,cc,e,rfl,by simp[qk.withRow],Zs _ _,aC,by rw[aX];omega,λj hj=>?_⟩ a.defers;simp only[qk.withRow,if_true];rw[if_neg zo]
end
section
variable{P:Program}{gl:Nat->Option (List qd)}{G G':qk}{w w':World}{h:List qj}{t:List qd}{a:Act}{n:Nat}
def QS(G:qk)(w:World)(t:List qd)(a:Act)(p:XT):Prop:=∀d s,(d,s)∈p->∀u,a.tmps[d]?=some u->match s with
 |.tmp i=>a.tmps.getD i undef=u
 |.cell x=>∀id o,ev t x=.ptr id o->∃b,G.γ id=some b/\w.cell? ⟨b,o,none⟩=some u
theorem QS.nil:QS G w t a []:=λ_ _ h=>by cases h
structure qri (P:Program) (gl:Nat->Option (List qd)) (o:Oper) (k:Nat) (ax ay:qM):Prop where
 ex:∃(c:Go.Call)(x y:Operand)(sT xT e:TypeId)(i:TypeInfo)(ux:TypeDesc)(z:qd),o.op=.call c/\c.callee=.builtin .append/\c.args.toList=[x,y]/\c.argTypes.toList=[sT,xT]/\
  P.underlying sT=some (.slice e)/\P.underlying xT=some ux/\((∃e',ux=.slice e')\/ux=.string)/\P.info? e=some i/\i.size=k/\i.size≠0/\i.bytes<=65536/\QI P e=some z/\z.cells.length=i.size/\
  opd gl x=some ax/\opd gl y=some ay
theorem qj0{xs:List qd}{f:WM}{v:Value}{k:Nat}(hv:G.V (.lst xs f) v)(hk:xs.head?.all (λy=>y.cells.length==k)=true):∀x∈xs,x.cells.length=k:=by
 simp only[qk.V,qP]at hv;obtain⟨_,_,_,_,_,_,_,_,⟨k',h6⟩,_⟩:=hv;intro x hx
 cases xs with
 |nil=>cases hx
 |cons y ys=>simp at hk;rw[h6 x hx,<-h6 y (by simp),hk]
theorem qfz(hc:Cfg P gl G h t a w){p:XT}(hp:QS G w t a p){k:Nat}{x:Operand}{ax:qM}(hx:opd gl x=some ax){ac:List qd}{f:WM}(aj:raw t ax=.lst ac f){e:Bool}{xs:List qd}{s':St}(ht:gu k p ax ⟨t,h,e⟩=some (xs,s')): ∃ab,Cfg P gl G s'.h s'.t a w/\s'.e=e/\s'.h.length=h.length/\qku G w ab k (a.eval x)/\qn0 s'.h s'.t ab/\G.V (.lst xs .no) (a.eval x):=by
 unfold gu at ht;split at ht;·cases ht
 ·rename_i i;have al:=yY hx;subst al;simp only at ht;have ai:t[i]?=some (.lst ac f):=getD_some aj;obtain⟨u,hu,am⟩:=hc.tr.rel.get ai;have a6:=yr hu;have ae:a.tmps[i]?=some u:=(by simpa using hu);split at ht
  ·rename_i af j he;split at ht
   ·rename_i hj;cases ht;subst hj;have hi:=getD_some he;have:ac=xs/\f=.own j:=(by rw[ai]at hi;cases hi;exact⟨rfl,rfl⟩);obtain⟨rfl,rfl⟩:=this;refine⟨.tmp i,⟨hc.rel,hc.tr.drain hi⟩,rfl,rfl,?_,?_,?_⟩;·rw[a6];exact hc.tr.own i _ j u hi ae
    ·intro ys k' hq;simp only at hq;rw[jg (jd.1 hi).1]at hq;simp at hq
    ·rw[a6];exact vS am
   ·cases ht
  ·split at ht
   ·rename_i d b hf;have a8:=List.mem_of_find?_eq_some hf;have hd:d=i:=(by have:=List.find?_some hf;simpa using this);subst hd;split at ht
    ·rename_i af j he;split at ht
     ·rename_i hj;cases ht;subst hj;have hb:=getD_some he;obtain⟨u2,ad,a7⟩:=hc.tr.rel.get hb;have h1:=hp _ _ a8 u ae;simp only at h1;have U:a.tmps[b]?=some u2:=(by simpa using ad);have h2:u2=u:=(by rw[<-h1];obtain⟨q1,q2⟩:=je.1 U;simp[Array.getD,q1,q2]);subst h2;refine⟨.tmp b,⟨hc.rel,hc.tr.drain hb⟩,rfl,rfl,?_,?_,?_⟩;·rw[a6];exact hc.tr.own b _ j u2 hb U
      ·intro ys k' hq;simp only at hq;rw[jg (jd.1 hb).1]at hq;simp at hq
      ·rw[a6];exact vS a7
     ·cases ht
    ·cases ht
   ·rename_i d x0 hf;have a8:=List.mem_of_find?_eq_some hf;have hd:d=i:=(by have:=List.find?_some hf;simpa using this);subst hd;split at ht
    ·rename_i id o he;split at ht
     ·rename_i cs hid;split at ht
      ·rename_i af j ho;split at ht
       ·rename_i hj;cases ht;subst hj;have h1:=hp _ _ a8 u ae;simp only at h1;obtain⟨b,hb,aa⟩:=h1 id o he;obtain⟨c,te,hw,ap,ak⟩:=hc.rel.box id b _ hb hid;obtain⟨u2,ad,a7⟩:=D1 ap ho;have U:c[o]?=some u2:=(by simpa using ad);have h2:u2=u:=(by simp only[World.cell?,hw]at aa;simpa[U]using aa);subst h2;refine⟨.cell id o,⟨hc.rel.drainCell hid ho,hc.tr⟩,rfl,by simp,?_,?_,?_⟩;·rw[a6];exact ak o _ j u2 ho U
        ·refine⟨λar ys k' hq ah=>?_,λT e s hq=>?_⟩<;>simp only at hq<;>rw[jg (jd.1 hid).1]at hq<;>cases hq;rw[jg (jd.1 ho).1]at ah;simp at ah
        ·rw[a6];exact vS a7
       ·cases ht
      ·cases ht
     ·cases ht
    ·cases ht
   ·cases ht
theorem qdp(hr:Rel P gl G h w){y:qd}{v:Value}(hv:G.V y v){ys:List qd}(ht:tail y=some ys){k:Nat}(hk:∀q∈ys,q.cells.length=k): ∃nv:List Value,G.VL (DY ys) nv/\(∀w1:World,(∀q,w1.cell? q=w.cell? q)->(Builtin.firstCells k ys.length v).run P w1=.ok nv.toArray w1)/\(Builtin.lenOf v).run P w=.ok ys.length w:=by
 unfold tail at ht;split at ht;·cases ht;exact L6 hr hv hk
 ·rename_i s;cases ht;obtain⟨nv,h1,h2,h3⟩:=zq (P:=P) (w:=w) hv;exact⟨nv,h1,λw1 _=>by simpa[zy]using h2 k w1,by simpa[zy]using h3⟩
 ·cases ht
theorem qoy(hc:Cfg P gl G h t a w){p:XT}(hp:QS G w t a p){o:Oper}{k:Nat}{ax ay:qM}(aG:qri P gl o k ax ay){base:Nat}{call:AE.Call}{e:Bool}{s':St}(U:qO base call p o.dst (.app k ax ay) ⟨t,h,e⟩=some (.nor,s'))(n:Nat)(hn:n<=h.length):Did P gl G w a o n s'.h s'.t/\s'.e=e/\s'.h.length=h.length:=by
 obtain⟨c,x,y,sT,xT,et,i,ux,z,h1,h2,h3,h4,h5,h6,h7,h8,h9,az,av,au,ar,ap,aK⟩:=aG.ex;subst h9;have ak:=Zg hc.rel hc.tr aK;have a6:=ue hc.rel hc.tr ap;simp only[qO]at U;split at U
 ·rename_i xs f ys a7 aa;split at U
  ·rename_i af;simp only[List.isEmpty_iff]at af;subst af;cases U;refine⟨?_,rfl,rfl⟩;rw[a7]at a6;obtain⟨nv,m1,m2,m3⟩:=qdp (P:=P) hc.rel ak aa (k:=i.size) (λq hq=>by cases hq);obtain⟨ov,o1,o2,o3⟩:∃vs:List Value,True/\True/\True:=⟨[],trivial,trivial,trivial⟩;have ac:=a6;simp only[qk.V,qP]at ac;obtain⟨bs,len,cap,ad,q1,q2,q3,q4,_,q5⟩:=ac;have ea:c.args=#[x,y]:=(by rw[<-Array.toArray_toList (xs:=c.args),h3]);have aL:c.argTypes=#[sT,xT]:=(by rw[<-Array.toArray_toList (xs:=c.argTypes),h4]);have aH:nv=[]:=List.eq_nil_of_length_eq_zero (by have:=m1.length;simp[DY]at this;exact this.symm);subst aH;have am:=m2 w (λ_=>rfl);simp only[jz]at am m3;have aD:(sizeOf et).run P w=.ok i.size w:=(by simp[sizeOf,typeInfo,h8]);have aJ:(Builtin.append_ #[sT,xT] o.type #[.slice bs len cap,a.eval y]).run P w=.ok (.slice bs len cap) w:=(by rcases h7 with⟨e',rfl⟩|rfl<;>cases bs<;>simp[Builtin.append_,run_underlying h5,run_underlying h6,aD,m3,q2,am,storeCells]);refine DR hc ⟨.slice bs len cap,?_,?_,Qh _⟩ n;·simp[execOp,h1,h2,ea,aL,resolve,invoke,builtin,ad,aJ]
   ·rw[<-ad];exact Qq a6
  ·rename_i aI;split at U
   ·rename_i ai;obtain⟨c1,c2,c3⟩:=ai;have ae:ys≠[]:=(by simpa using aI);have a8:∀q∈ys,q.cells.length=i.size:=λq hq=>(by rw[List.all_eq_true]at c2;have:=c2 q hq;simp at this;exact this.1);have ab:(DY ys).all qd.storable=true:=(by rw[List.all_eq_true]at c2⊢;intro q hq;simp only[DY,List.mem_flatMap]at hq;obtain⟨r,aF,aE⟩:=hq;have:=c2 r aF;simp only[jk]at this;have:=this.2;rw[List.all_eq_true]at this;exact this q aE);have al:=qdp (P:=P) hc.rel ak aa a8;split at U;·cases U;rw[a7]at a6;exact⟨qcq hc h1 h2 h3 h4 h5 h6 h7 h8 az av au ar a6 al c1 a8 ab (qj0 a6 c3) ae (.inl rfl) n,rfl,rfl⟩
    ·split at U
     ·rename_i aj s2 aC;split at U;rotate_left;·cases U
      rename_i ah;cases U;obtain⟨aA,d1,d2,d3,d4,d5,d6⟩:=qfz hc hp ap a7 aC;have aM:aj.length=xs.length:=(by rw[a7]at a6;simp only[qk.V,qP]at a6 d6;obtain⟨_,_,_,g1,g2,_⟩:=a6;obtain⟨_,_,_,g3,g4,_⟩:=d6;rw[g1]at g3;cases g3;omega);have aB:∀q∈aj,q.cells.length=i.size:=qj0 d6 ah;exact⟨qcq d1 h1 h2 h3 h4 h5 h6 h7 h8 az av au ar d6 al zo a8 ab aB ae (.inr ⟨aA,d4,d5⟩) n,d2,d3⟩
     ·cases U
   ·cases U
 ·cases U
end
section
variable{P:Program}{gl:Nat->Option (List qd)}{G G':qk}{w w':World}{h:List qj}{t:List qd}{a:Act}{n:Nat}
theorem Rel.putBox(hr:Rel P gl G h w){i b:Nat}(hi:G.γ i=some b){aa bx:qj}(hx:h[i]?=some aa)(a6:aa≠.dead){ob:Obj}(af:∀c e,w.heap[b]?≠some (.cells c e (0,0)))(ac:FV P gl G (w.putObj b ob) i bx b):Rel P gl G (h.set i bx) (w.putObj b ob):=by
 have hb:=(hr.γlt i b hi).2;have ae:∀b',(∀j,G.γ j≠some b')->(w.putObj b ob).heap[b']?=w.heap[b']?:=λb' a7=>World.putObj_heap_other (λe=>a7 i (by rw[hi,e]));refine⟨λj b' hj=>by simpa using hr.γlt j b' hj,qbj hr.inj hx a6,λj b' a8 hj U=>?_,λb' o v hv hm=>?_,λb o v j hv hm hg=>gA hx a6 (hr.immγ b o v j hv hm hg),λb' k hv=>?_,λb' ℓ a7=>⟨by simpa using(hr.ow b' ℓ a7).1,(hr.ow b' ℓ a7).2⟩,hr.glob⟩
 ·by_cases e:i=j;·subst e;rw[hi]at hj;cases hj;rw[jg (hr.γlt i b hi).1]at U;cases U;exact ac
  ·rw[jf e]at U;have h0:=hr.box j b' a8 hj U;by_cases hd:a8=.dead;·subst hd;trivial
   ·obtain⟨n,hn⟩:=qj.lower_ex a8
    have ah:b'≠b:=λe'=>by
     rcases hr.inj i j b hi (by rw[hj,e'])with h1|h1|h1;·exact e h1
     ·rw[hx]at h1;cases h1;exact a6 rfl
     ·rw[U]at h1;cases h1;exact hd rfl
    exact h0.keep hn (λ_ _ _ h=>h) (λ_ _ _ h=>h) (World.putObj_heap_other ah) (λ_ _ h=>h) (λab o ad=>ae ab (hr.ow ab _ ad).2) (λ_ _ _ _ h=>h)
 ·obtain⟨h1,h2⟩:=hr.imm b' o v hv hm;refine⟨?_,by simpa using h2⟩;rw[Xb (w:=w) (World.putObj_heap_other λe=>by subst e;have:=hr.immγ b' o v i hv hm hi;rw[hx]at this;cases this;exact a6 rfl)];exact h1
 ·obtain⟨h0,c,e,h1,h2⟩:=hr.immK b' k hv;have:b'≠b:=λe'=>(by subst e';exact af c e h1);exact⟨h0,c,e,by rw[World.putObj_heap_other this];exact h1,h2⟩
theorem Z0.putBox(hr:Rel P gl G h w){ts:Array Value}(ht:Z0 G w t ts){i b:Nat}(hi:G.γ i=some b)(o:Obj):Z0 G (w.putObj b o) t ts:=⟨ht.rel,λj xs k v hx hv=>(ht.own j xs k v hx hv).keep (λ_ h=>h) (λy hy=>World.putObj_heap_other λe=>(hr.ow y _ hy).2 i (by rw[hi,e])) (λ_ _ _ h=>h)⟩
theorem Ext.putMap(n:Nat){i b:Nat}(hi:G.γ i=some b){es:Array MapEntry}{clock:Nat}(hM:w.heap[b]?=some (.map es clock))(ob:Obj):Ext n G w G (w.putObj b ob):=by refine⟨λ_ _ h=>h,λ_ _ h=>.inl h,λ_ _ _ h=>h,λ_ _ _ h=>.inl h,λ_ h=>.inl h,by simp,λb' _ hf=>World.putObj_heap_other (λe=>hf.1 i (by rw[hi,e])),λb' L hL=>?_,rfl,rfl,rfl⟩;have:b'≠b:=λe=>(by subst e;rw[hM]at hL;cases hL);exact⟨L,by rw[World.putObj_heap_other this];exact hL,rfl,rfl,rfl,rfl,rfl,rfl⟩
theorem DT(hc:Cfg P gl G h t a w){o:Oper}(hop:uG P gl o){id b:Nat}(hb:G.γ id=some b){es es':List (Nat×qd×qd)}{clock mc c':Nat}{me me':Array MapEntry}(hid:h[id]?=some (.map es clock))(hM:w.heap[b]?=some (.map me mc)){nx:Next}{u:Value}{x:qd}(h1:(execOp a.eval o).run P w=.ok nx (w.putObj b (.map me' c')))(a6:Nx nx u)(hm:Zb G es' me'.toList)(hx:G.V x u)(hd:x.dim=x)(n:Nat): Did P gl G w a o n (h.set id (.map es' c')) (AE.put o.dst x t):=by have a7:FV P gl G (w.putObj b (.map me' c')) id (.map es' c') b:=⟨me',World.putObj_heap_same (je.1 hM).1,hm⟩;exact⟨nx,u,_,G,h1,a6,λ_ hq=>absurd hop hq,Ext.putMap n hb hM _,(Cfg.mk (hc.rel.putBox hb hid (by simp) (λc e U=>by rw[hM]at U;cases U) a7) (hc.tr.putBox hc.rel hb _)).put o.dst hx hd⟩
theorem ym(hc:Cfg P gl G h t a w){o:Oper}{u:Value}{x:qd}(h1:(execOp a.eval o).run P w=.ok (.value u) w)(hx:G.V x u)(hd:x.dim=x)(n:Nat):Did P gl G w a o n h (AE.put o.dst x t):=⟨_,u,w,G,h1,.inl rfl,λ_ _ _ _=>rfl,Ext.refl n G w,hc.put o.dst hx hd⟩
theorem qgP(hc:Cfg P gl G h t a w){o:Oper}(hop:uG P gl o){id p b:Nat}{cs vs:List qd}(hb:G.γ id=some b)(hid:h[id]?=some (.cells cs))(U:p+vs.length<=cs.length)(ae:∀v∈vs,v.dim=v){c:Array Value}{e:TypeId}(hw:w.heap[b]?=some (.cells c e (0,0))){us:List Value}(ab:G.VL vs us){nx:Next}{u:Value}{x:qd}(h1:(execOp a.eval o).run P w=.ok nx (w.setRow b (c.toList.take p++us++c.toList.drop (p+us.length)).toArray))(ah:Nx nx u)(hx:G.V x u)(hd:x.dim=x)(n:Nat): Did P gl G w a o n (h.set id (.cells (splice cs p vs))) (AE.put o.dst x t):=by
 obtain⟨c0,e0,aa,ac,ad⟩:=hc.rel.box id b _ hb hid;rw[hw]at aa;cases aa;have ai:=gD ac;have ak:=ab.length;generalize a6:(c.toList.take p++us++c.toList.drop (p+us.length)).toArray=c' at h1;have aj:c'.size=c.size:=by rw[<-a6];simp at ai⊢;omega
 have a8:∀i,i<p\/p+vs.length<=i->c'[i]?=c[i]?:=λi hi=>by have:=(QV (cs:=c.toList) (vs:=us) (o:=p) (i:=i) zo).1 zo;rw[<-a6,<-Array.getElem?_toList,<-Array.getElem?_toList (xs:=c)];exact this
 have a7:G.VL (splice cs p vs) (c'.toList.take (splice cs p vs).length):=by rw[<-a6];exact F3 ac ab U
 refine⟨nx,u,_,G,h1,ah,λ_ hq=>absurd hop hq,Ext.store n hb hw rfl rfl (λ_ h=>h),(Cfg.mk ?_ (hc.tr.store hc.rel c' hb)).put o.dst hx hd⟩;refine hc.rel.store hb hid hw rfl rfl (λ_ h=>h) (λ_ _ _ _ h=>h) a7 aj (λo' ys k' u' af hu=>?_);rcases gR U af with⟨g1,g2⟩|⟨g1,g2,g3⟩;·have g4:c[o']?=some u':=(by rw[<-a8 o' g1];exact hu);exact(ad o' ys k' u' g2 g4).keep (λ_ h=>h) (λx hx=>qN w b x c' (λe1=>(hc.rel.ow x _ hx).2 id (e1▸hb))) (λ_ _ _ h=>h)
 ·have:=ae _ (List.mem_of_getElem? g3);simp[qd.dim]at this
theorem Rel.kill(hr:Rel P gl G h w)(id:Nat):Rel P gl G (h.set id .dead) w:=by
 have U:∀i,h[i]?=some qj.dead->(h.set id .dead)[i]?=some qj.dead:=λi hi=>by
  by_cases e:id=i;·subst e;exact jg (jd.1 hi).1
  ·rw[jf e];exact hi
 refine⟨λi b hb=>by simpa using hr.γlt i b hb,λi j b hi hj=>?_,λi b bx hi hx=>?_,hr.imm,λb o v i hv hm hg=>U i (hr.immγ b o v i hv hm hg),hr.immK,hr.ow,hr.glob⟩
 ·rcases hr.inj i j b hi hj with h1|h1|h1;·exact .inl h1
  ·exact .inr (.inl (U i h1))
  ·exact .inr (.inr (U j h1))
 ·by_cases e:id=i;·subst e;rw[jg (hr.γlt id b hi).1]at hx;cases hx;trivial
  ·rw[jf e]at hx;exact hr.box i b bx hi hx
noncomputable def qk.frozen(G:qk)(b:Nat)(c:Array Value)(m:Nat):qk:={γ:=G.γ,imm:=λx o=>if x=b/\o<m then qaU c[o]? else G.imm x o,ow:=G.ow}
theorem qec(hr:Rel P gl G h w)(ht:Z0 G w t a.tmps){id b m:Nat}{cs:List qd}{c:Array Value}{e:TypeId}(hb:G.γ id=some b)(hid:h[id]?=some (.cells cs))(hw:w.heap[b]?=some (.cells c e (0,0)))(hm:m<=c.size)(n:Nat): Rel P gl (G.frozen b c m) (h.set id .dead) w/\Z0 (G.frozen b c m) w t a.tmps/\Ext n G w (G.frozen b c m) w:=by
 have aa:G.ow b=none:=by
  cases hv:G.ow b with
  |none=>rfl
  |some ℓ=>exact absurd hb ((hr.ow b ℓ hv).2 id)
 have a7:∀o,o<m->G.imm b o=none:=λo ho=>by
  cases hv:G.imm b o with
  |none=>rfl
  |some v=>
   by_cases hk:v=Ww;·subst hk;obtain⟨_,c',e',h1,h2⟩:=hr.immK b o hv;rw[hw]at h1;cases h1;omega
   ·have:=hr.immγ b o v id hv hk hb;rw[hid]at this;cases this
 have a6:∀x o v,G.imm x o=some v->(G.frozen b c m).imm x o=some v:=λx o v hv=>by
  simp only[qk.frozen];rw[if_neg];·exact hv
  ·rintro⟨rfl,ho⟩;rw[a7 o ho]at hv;cases hv
 have a8:∀x j,G.ow x≠none->G.imm x j=none->(G.frozen b c m).imm x j=none:=λx j hx hj=>by simp only[qk.frozen];rw[if_neg (λhh=>by rw[hh.1,aa]at hx;exact hx rfl)];exact hj
 have U:=hr.kill id;refine⟨⟨U.γlt,U.inj,λi b' bx hi hx=>?_,λx o v hv hk=>?_,λx o v i hv hk hi=>?_,λx o hv=>?_,U.ow,λg ds hg=>?_⟩,?_,?_⟩;·obtain⟨q,hq⟩:=qj.lower_ex bx;exact(U.box i b' bx hi hx).keep hq a6 (λ_ _ _ h=>h) rfl (λ_ _ h=>h) (λ_ _ _=>rfl) (λae j o ab hj=>a8 ae j (by rw[ab];simp) hj)
 ·simp only[qk.frozen]at hv;split at hv;·rename_i hh;obtain⟨rfl,ho⟩:=hh;exact⟨by simp only[World.cell?,hw];simpa using(Qi.1 hv).1,(hr.γlt id x hb).2⟩
  ·exact U.imm x o v hv hk
 ·simp only[qk.frozen]at hv;split at hv
  ·rename_i hh;obtain⟨rfl,ho⟩:=hh;have ac:=(jd.1 hid).1;by_cases e1:id=i;·subst e1;exact jg ac
   ·rw[jf e1];rcases hr.inj i id x hi hb with h1|h1|h1;·exact absurd h1.symm e1
    ·exact h1
    ·rw[hid]at h1;cases h1
  ·exact U.immγ x o v i hv hk hi
 ·simp only[qk.frozen]at hv;split at hv;·exact absurd rfl (Qi.1 hv).2
  ·exact U.immK x o hv
 ·obtain⟨h1,h2⟩:=hr.glob g ds hg;exact⟨kz.mono a6 ds g h2 h1,h2⟩
 ·obtain⟨q,hq⟩:=ZG t;exact ht.keep hq a6 (λ_ _ _ h=>h) (λ_ _ h=>h) (λ_ _ _=>rfl) (λb' j i ad hj=>a8 b' j (by rw[ad];simp) hj)
 ·refine⟨λ_ _ h=>h,λ_ _ h=>.inl h,a6,λx o v hv=>?_,λx hx=>.inl hx,jm _,λ_ _ _=>rfl,λ_ L hL=>⟨L,hL,rfl,rfl,rfl,rfl,rfl,rfl⟩,rfl,rfl,rfl⟩;simp only[qk.frozen]at hv;split at hv;·rename_i hh;exact .inr (.inr (.inr ⟨id,hh.1▸hb⟩))
  ·exact .inl hv
theorem qiM{cs:List qd}(U:∀x∈cs,x.dim=x){o:Nat}{xs:List qd}{k:Nat}(h:cs[o]?=some (.lst xs (.own k))):False:=by have:=U _ (List.mem_of_getElem? h);simp[qd.dim]at this
theorem γ_none(hr:Rel P gl G h w):G.γ h.length=none:=by
 cases hg:G.γ h.length with
 |none=>rfl
 |some b=>have:=(hr.γlt _ b hg).1;omega
theorem DO(hc:Cfg P gl G h t a w){o:Oper}(hop:uG P gl o){ob:Obj}{bx:qj}{u:Value}{x:qd}(h1:(execOp a.eval o).run P w=.ok (.value u) (w.alloc ob))(a8:∀G',Ext h.length G w G' (w.alloc ob)->FV P gl G' (w.alloc ob) h.length bx w.heap.size)(hx:∀G':qk,G'.γ h.length=some w.heap.size->G'.V x u)(hd:x.dim=x): Did P gl G w a o h.length (h++[bx]) (AE.put o.dst x t):=by have hi:=γ_none hc.rel;have U:Ext h.length G w (G.withBox h.length w.heap.size) (w.alloc ob):=Ext.newBox hi (jm _) _;have a6:=hc.rel.newBox (o:=ob) (bx:=bx) (h':=h++[bx]) hi (by simp) (by simp) (λj hj b hb=>by rw[ja (hc.rel.γlt j b hb).1]) (by simp) (a8 _ U);obtain⟨m,hm⟩:=ZG t;have a7:Z0 (G.withBox h.length w.heap.size) (w.alloc ob) t a.tmps:=hc.tr.keep hm U.ik (λi b _=>U.gk i b) (λ_ _ h=>h) (λb i hb=>Zn w _ (hc.rel.ow b _ hb).1) (λ_ _ _ _ h=>h);exact⟨_,_,_,_,h1,.inl rfl,λ_ hq=>absurd hop hq,U,(Cfg.mk a6 a7).put o.dst (hx _ (by simp[qk.withBox])) hd⟩
noncomputable def qk.marked(G:qk)(b n:Nat):qk:={γ:=G.γ,imm:=λx o=>if x=b/\o=n then some Ww else G.imm x o,ow:=G.ow}
theorem Rel.marked(hr:Rel P gl G h w){b n:Nat}(hn:0<n){c:Array Value}{e:TypeId}(hb:w.heap[b]?=some (.cells c e (0,0)))(a8:n=c.size)(h0:∀o,G.imm b o=none)(a7:G.ow b=none):Rel P gl (G.marked b n) h w:=by
 have a6:∀x o v,G.imm x o=some v->(G.marked b n).imm x o=some v:=λx o v hv=>by
  simp only[qk.marked];rw[if_neg];·exact hv
  ·rintro⟨rfl,rfl⟩;rw[h0]at hv;cases hv
 refine⟨hr.γlt,hr.inj,λi b' bx hi hx=>?_,λx o v hv hm=>?_,λx o v i hv hm=>?_,λx o hv=>?_,hr.ow,λg cs hg=>?_⟩;·obtain⟨m,hm⟩:=qj.lower_ex bx;refine(hr.box i b' bx hi hx).keep hm a6 (λ_ _ _ h=>h) rfl (λ_ _ h=>h) (λ_ _ _=>rfl) (λaa j o U hj=>?_);simp only[qk.marked];rw[if_neg (λhh=>by rw[hh.1,a7]at U;cases U)];exact hj
 ·simp only[qk.marked]at hv;split at hv;·cases hv;exact absurd rfl hm
  ·exact hr.imm x o v hv hm
 ·simp only[qk.marked]at hv;split at hv;·cases hv;exact absurd rfl hm
  ·exact hr.immγ x o v i hv hm
 ·simp only[qk.marked]at hv;split at hv;·rename_i hh;obtain⟨rfl,rfl⟩:=hh;exact⟨hn,c,e,hb,a8⟩
  ·exact hr.immK x o hv
 ·obtain⟨h1,h2⟩:=hr.glob g cs hg;exact⟨kz.mono a6 cs g h2 h1,h2⟩
theorem qcB{γ:Nat->Option Nat}{imm:Nat->Nat->Option Value}{cs:List qd}{us l:List Value}(h:qx γ imm cs us)(hg:∀(j:Nat)(v:Value),us[j]?=some v->l[j]?=some v):qx γ imm cs (l.take cs.length):=by
 have U:=h.length
 have a6:cs.length<=l.length:=by
  rcases Nat.lt_or_ge l.length us.length with hh|hh;·have:=hg l.length _ (jh hh);simp at this
  ·omega
 refine qx.of_get (by simp;omega) λi x v hx hv=>?_;obtain⟨u,hu,hr⟩:=h.get hx;rw[List.getElem?_take_of_lt (jd.1 hx).1,hg i u hu]at hv;cases hv;exact hr
theorem qk0(hc:Cfg P gl G h t a w){o:Oper}(hop:uG P gl o){d len U k:Nat}{cc:Array Value}{e:TypeId}{cs:List qd}{us:List Value}(h1:(execOp a.eval o).run P w=.ok (.value (.slice (some ⟨w.heap.size,0,none⟩) len U)) (({w with drawn:=d}:World).alloc (.cells cc e)))(ak:G.VL cs us)(ae:∀(j:Nat)(v:Value),us[j]?=some v->cc[j]?=some v)(am:cc.size=U*k)(hk:k≠0)(aj:len<=U)(h0:0<len)(af:∀x∈cs,x.dim=x): Did P gl G w a o h.length (h++[.cells cs]) (AE.put o.dst (.sl h.length 0 len len k) t):=by
 have ai:Rel P gl G h {w with drawn:=d}:=hc.rel.of_drew d;have al:Z0 G {w with drawn:=d} t a.tmps:=hc.tr.of_drew d;have hi:=γ_none hc.rel;have a6:Ext h.length G w (G.withBox h.length w.heap.size) (({w with drawn:=d}:World).alloc (.cells cc e)):=((Ext.refl _ G w).drew d).trans (jm _) (Ext.newBox (w:={w with drawn:=d}) hi (jm _) _);have ac:=ai.newBox (o:=.cells cc e) (bx:=.cells cs) (h':=h++[.cells cs]) hi (by simp) (by simp) (λj hj b hb=>by rw[ja (hc.rel.γlt j b hb).1]) (by simp) ⟨cc,e,Zs _ _,qcB (a6.VL ak) (λj v hj=>by simpa using ae j v hj),λo xs k v ho _=>(qiM af ho).elim⟩;have ad:0<U*k:=Nat.mul_pos zo zo
 have ab:∀o,G.imm w.heap.size o=none:=λo=>by
  cases hv:G.imm w.heap.size o with
  |none=>rfl
  |some v=>have:=hc.rel.imm_lt hv;omega
 have a8:G.ow w.heap.size=none:=by
  cases hv:G.ow w.heap.size with
  |none=>rfl
  |some ℓ=>have:=(hc.rel.ow _ _ hv).1;omega
 have aa:=Rel.marked ac ad (b:=w.heap.size) (Zs ({w with drawn:=d}:World) _) zo ab a8
 have a7:Ext h.length G w ((G.withBox h.length w.heap.size).marked w.heap.size (U*k)) (({w with drawn:=d}:World).alloc (.cells cc e)):=by
  refine⟨a6.gk,a6.gn,λb o v hv=>?_,λb o v hv=>?_,a6.on,a6.size,a6.heap,a6.loops,rfl,rfl,rfl⟩;·have:b≠w.heap.size:=(by have:=hc.rel.imm_lt hv;omega);simp only[qk.marked];rw[if_neg (λhh=>this hh.1)];exact a6.ik b o v hv
  ·simp only[qk.marked]at hv;split at hv;·rename_i hh;exact .inr (.inl zo)
   ·exact a6.inew b o v hv
 obtain⟨m,hm⟩:=ZG t;have ah:Z0 ((G.withBox h.length w.heap.size).marked w.heap.size (U*k)) (({w with drawn:=d}:World).alloc (.cells cc e)) t a.tmps:=hc.tr.keep hm a7.ik (λi b _=>a7.gk i b) (λ_ _ h=>h) (λb i hb=>Zn ({w with drawn:=d}:World) _ (hc.rel.ow b _ hb).1) (λb j i hb hj=>by simp only[qk.marked];rw[if_neg (λhh=>by rw[hh.1,a8]at hb;cases hb)];exact hj);refine⟨_,_,_,_,h1,.inl rfl,λ_ hq=>absurd hop hq,a7,(Cfg.mk aa ah).put o.dst ?_ rfl⟩;simp only[qk.V,qP];exact⟨w.heap.size,U,by simp[qk.marked,qk.withBox],rfl,jm _,aj,λh=>absurd h hk,λ_=>by simp[qk.marked]⟩
theorem qgL(hc:Cfg P gl G h t a w){o:Oper}(hop:uG P gl o){id b len cap k p:Nat}{c:Array Value}{e:TypeId}{cs:List qd}{us new:List Value}(hb:G.γ id=some b)(ad:∀i,G.γ i=some b->h[i]?=some .dead)(ac:∀o v,G.imm b o=some v->v=Ww)(hw:w.heap[b]?=some (.cells c e (0,0)))(hp:p+new.length<=c.size)(h1:(execOp a.eval o).run P w=.ok (.value (.slice (some ⟨b,0,none⟩) len cap)) (w.setRow b (c.toList.take p++new++c.toList.drop (p+new.length)).toArray))(ar:G.VL cs us)(aj:∀(j:Nat)(v:Value),us[j]?=some v->(c.toList.take p++new++c.toList.drop (p+new.length))[j]?=some v)(af:G.imm b (0+cap*k)=some Ww)(hk:k≠0)(ap:len<=cap)(ak:∀x∈cs,x.dim=x): Did P gl G w a o h.length (h++[.cells cs]) (AE.put o.dst (.sl h.length 0 len len k) t):=by
 generalize ah:(c.toList.take p++new++c.toList.drop (p+new.length)).toArray=c' at h1;have au:c'.size=c.size:=by rw[<-ah];simp;omega
 have hi:=γ_none hc.rel;have ae:∀j b',G.γ j=some b'->(G.withBox h.length b).γ j=some b':=λj b' hj=>by have:j≠h.length:=λe=>(by subst e;simp[hi]at hj);simpa[qk.withBox,this]using hj
 have U:∀x,x≠b->(w.setRow b c').heap[x]?=w.heap[x]?:=λx hx=>qN w b x c' hx;have aa:∀x ℓ,G.ow x=some ℓ->x≠b:=λx ℓ hx e1=>(hc.rel.ow x ℓ hx).2 id (e1▸hb)
 have ai:Rel P gl (G.withBox h.length b) (h++[.cells cs]) (w.setRow b c'):=by
  refine⟨λj x hj=>?_,λi j x hx hy=>?_,λi x bx hx a8=>?_,λx o v hv hm=>?_,λx o v i hv hm=>?_,λx o hv=>?_,λx ℓ hx=>?_,λg cs hg=>?_⟩
  ·simp only[qk.withBox]at hj;split at hj;·rename_i e1;subst e1;cases hj;exact⟨by simp,by simpa using(hc.rel.γlt id _ hb).2⟩
   ·obtain⟨h2,h3⟩:=hc.rel.γlt j x hj;exact⟨by simp;omega,by simpa using h3⟩
  ·have key:∀i,(G.withBox h.length b).γ i=some b->i≠h.length->(h++[qj.cells cs])[i]?=some .dead:=λi a6 am=>(by simp only[qk.withBox,if_neg am]at a6;have:=ad i a6;rw[ja (jd.1 this).1];exact this);by_cases a7:x=b
   ·subst a7;by_cases e1:i=h.length
    ·by_cases e2:j=h.length;·exact .inl zo
     ·exact .inr (.inr (key j hy e2))
    ·exact .inr (.inl (key i hx e1))
   ·have g:∀i,(G.withBox h.length b).γ i=some x->G.γ i=some x/\i<h.length:=λi a6=>by
     simp only[qk.withBox]at a6;split at a6;·cases a6;exact absurd rfl a7
     ·exact⟨a6,(hc.rel.γlt i x a6).1⟩
    rw[ja (g i hx).2,ja (g j hy).2];exact hc.rel.inj i j x (g i hx).1 (g j hy).1
  ·simp only[qk.withBox]at hx;split at hx;·rename_i e1;subst e1;cases hx;simp at a8;subst a8;refine⟨c',e,setRow_heap w b c c' e (0,0) hw,qcB (us:=us) ?_ (λj v hj=>by rw[<-ah];simpa using aj j v hj),λo xs k v ho _=>(qiM ak ho).elim⟩;obtain⟨m,hm⟩:=ZG cs;exact qx.mono (λ_ _ _ h=>h) m (λj b' _=>ae j b') cs us hm ar
   ·rw[ja (hc.rel.γlt i x hx).1]at a8;have h0:=hc.rel.box i x bx hx a8;by_cases hd:bx=.dead;·subst hd;trivial
    ·have a7:x≠b:=λe1=>(by have:=ad i (e1▸hx);rw[a8]at this;cases this;exact hd rfl);obtain⟨m,hm⟩:=qj.lower_ex bx;exact h0.keep hm (λ_ _ _ h=>h) (λj b' _=>ae j b') (U x a7) (λ_ _ h=>h) (λy o hy=>U y (aa y _ hy)) (λ_ _ _ _ h=>h)
  ·obtain⟨h2,h3⟩:=hc.rel.imm x o v hv hm;have a7:x≠b:=λe2=>hm (ac o v (e2▸hv));exact⟨(Xb (U x a7)).trans h2,by simpa using h3⟩
  ·simp only[qk.withBox];split;·intro e1;cases e1;exact absurd (ac o v hv) hm
   ·intro e1;rw[ja (hc.rel.γlt i x e1).1];exact hc.rel.immγ x o v i hv hm e1
  ·obtain⟨g0,d,e',g1,g2⟩:=hc.rel.immK x o hv;by_cases a7:x=b;·subst a7;rw[hw]at g1;cases g1;exact⟨g0,c',e,setRow_heap w x c c' e (0,0) hw,zo⟩
   ·exact⟨g0,d,e',by rw[U x a7];exact g1,g2⟩
  ·obtain⟨g1,g2⟩:=hc.rel.ow x ℓ hx;refine⟨by simpa using g1,λi a6=>?_⟩;simp only[qk.withBox]at a6;split at a6;·cases a6;exact aa _ ℓ hx rfl
   ·exact g2 i a6
  ·obtain⟨g1,g2⟩:=hc.rel.glob g cs hg;exact⟨kz.mono (λ_ _ _ h=>h) cs g g2 g1,g2⟩
 have ab:Ext h.length G w (G.withBox h.length b) (w.setRow b c'):=by
  refine⟨ae,λj x hj=>?_,λ_ _ _ h=>h,λ_ _ _ h=>.inl h,λ_ h=>.inl h,by simp,λx hx hf=>U x (λe1=>hf.1 id (e1▸hb)),λx L hL=>?_,rfl,rfl,rfl⟩
  ·simp only[qk.withBox]at hj;split at hj;·rename_i e1;subst e1;cases hj;exact .inr ⟨jm _,.inr ⟨id,hb⟩⟩
   ·exact .inl hj
  ·have:x≠b:=λe1=>(by subst e1;rw[hw]at hL;cases hL);exact⟨L,by rw[U x this];exact hL,rfl,rfl,rfl,rfl,rfl,rfl⟩
 obtain⟨m,hm⟩:=ZG t;have al:Z0 (G.withBox h.length b) (w.setRow b c') t a.tmps:=hc.tr.keep hm ab.ik (λi b _=>ab.gk i b) (λ_ _ h=>h) (λb i hb=>U b (aa b _ hb)) (λ_ _ _ _ h=>h);refine⟨_,_,_,_,h1,.inl rfl,λ_ hq=>absurd hop hq,ab,(Cfg.mk ai al).put o.dst ?_ rfl⟩;simp only[qk.V,qP];exact⟨b,cap,by simp[qk.withBox],rfl,jm _,ap,λh=>absurd h hk,λ_=>af⟩
end
end Go.AE
