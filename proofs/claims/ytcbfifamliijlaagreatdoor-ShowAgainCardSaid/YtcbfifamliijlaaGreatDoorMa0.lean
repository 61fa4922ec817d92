/- A part of the proof. No condition. -/
import GoSem.Core.Code
import GoSem.Core.View
import GoSem.Op.String
import GoSem.Core.Region
import GoSem.ClaimKeys
import Derived.DeepKeys3
import Derived.RangeFuncLeaves
import Derived.OrdersIn
import Derived.Laws.CopyRow
import Derived.ChangeKeysEq
import Derived.Lib.FrozenHead2
import Derived.Lib.Strings
import GoSem.Dispatch
import Derived.Laws.BytesString
import Derived.Laws.NewFold
import Derived.RangeFuncRecord
import Derived.MapKept
set_option maxRecDepth 100000
open List renaming getElem?_append_left→ja,getElem?_append_right→jc,getElem?_eq_some_iff→jd,getElem?_set_ne→jf,getElem?_set_self→jg,getElem?_eq_getElem→jh,length_append→ji,append_assoc→jp,getElem?_eq_none→jq,getElem?_map→jr,cons_append→jw,getElem?_cons_zero→jx,length_cons→jy,length_nil→jz,all_cons→jB,all_nil→jC,take_length→jD
open Array renaming getElem?_eq_some_iff→je
open Option.some renaming injEq→jj
open Bool renaming and_eq_true→jk,false_eq_true→jl,and_true→jv
open Nat renaming le_refl→jm,le_trans→jn,lt_of_lt_of_le→jo,add_assoc→jt,add_comm→ju
open Prod.mk renaming injEq→js
open Option renaming bind_eq_bind→jA
namespace Go.AE
theorem zo {p:Prop} (h:p := by omega):p:=h
theorem qq {a b:Prop} (x:a) (y:b):a/\b:=⟨x,y⟩
inductive qgV where
 | no
 | full
 | own (k:Nat)
 deriving DecidableEq,Repr,Inhabited
inductive qd where
 | undef
 | bool (b:Bool)
 | int (k:IntKind) (n:Int)
 | str (s:List UInt8)
 | nilptr
 | ptr (id off:Nat)
 | iptr (cells:List qd) (off:Nat)
 | lst (xs:List qd) (f:qgV)
 | nilfunc
 | fn (f:FuncId) (first captured:List qd)
 | yld (id:Nat)
 | niliface
 | iface (t:TypeId) (v:qd)
 | agg (cells:List qd)
 | tup (vs:List qd)
 | sl (id off len cap more:Nat)
 | mp (id:Nat)
 | nilmap
 | nils
 | empt
 deriving Inhabited,Repr
def qd.dim:qd->qd
 | .lst xs (.own _)=>.lst xs .no
 | v=>v
def qd.cells:qd->List qd
 | .agg cs=>cs
 | v=>[v]
def qd.storable:qd->Bool
 | .undef | .agg _ | .tup _=>false
 | _=>true
mutual
def qd.lower (n:Nat):qd->Bool
 | .ptr i _=>Nat.blt i n
 | .yld i=>Nat.blt i n
 | .sl i _ _ _ _=>Nat.blt i n
 | .mp i=>Nat.blt i n
 | .iptr cs _=>qw n cs
 | .lst xs _=>qw n xs
 | .fn _ a b=>qw n a && qw n b
 | .iface _ v=>v.lower n
 | .agg cs=>qw n cs
 | .tup vs=>qw n vs
 | _=>true
def qw (n:Nat):List qd->Bool
 | []=>true
 | v :: vs=>v.lower n && qw n vs
end
mutual
def qd.beq:qd->qd->Bool
 | .undef,.undef=>true
 | .bool a,.bool b=>a == b
 | .int k a,.int j b=>k == j && a == b
 | .str a,.str b=>a == b
 | .nilptr,.nilptr=>true
 | .ptr i o,.ptr j p=>i == j && o == p
 | .iptr a o,.iptr b p=>o == p && qlX a b
 | .lst a f,.lst b g=>f == g && qlX a b
 | .nilfunc,.nilfunc=>true
 | .fn f a b,.fn g c d=>f == g && qlX a c && qlX b d
 | .yld i,.yld j=>i == j
 | .niliface,.niliface=>true
 | .iface t a,.iface u b=>t == u && qd.beq a b
 | .agg a,.agg b=>qlX a b
 | .tup a,.tup b=>qlX a b
 | .sl i o l c m,.sl j p k d q=>i == j && o == p && l == k && c == d && m == q
 | .mp i,.mp j=>i == j
 | .nilmap,.nilmap=>true
 | .nils,.nils=>true
 | .empt,.empt=>true
 | _,_=>false
def qlX:List qd->List qd->Bool
 | [],[]=>true
 | a :: as,b :: bs=>qd.beq a b && qlX as bs
 | _,_=>false
end
inductive qB where
 | t (i:Nat)
 | c (v:qd)
 deriving Inhabited,Repr
inductive SK where
 | b
 | i (k:IntKind)
 | s
 deriving DecidableEq,Repr,Inhabited
structure qei where
 agg:Bool
 n:Nat
 ls:List (Nat×SK)
 deriving DecidableEq,Repr,Inhabited
inductive HOp where
 | mk (k:Nat) (zero:List qd)
 | lit (k:Nat) (zero:List qd) (len:Nat) (ixs:List Nat)
 | app (k:Nat)
 | sub3 (k:Nat)
 | mkm
 | mup (sh:qei)
 | ment (sh:qei) (zero:qd)
 | mst
 | mlen
 | del (sh:qei)
 | rng
 | nxt
 | ent
 | ldz (k:Option Nat)
 | bld (t e:Nat)
 deriving Inhabited,Repr
inductive AOp where
 | mov (x:qB)
 | asg (x:qB)
 | pick (c a b:qB)
 | new (cs:List qd)
 | box (k:Nat) (x:qB)
 | build (zero:List qd) (parts:List (Nat×Nat×qB))
 | list (k:Nat) (zero:List qd) (len:Nat) (parts:List (Nat×qB))
 | ld (k:Option Nat) (a:qB)
 | st (k:Option Nat) (a x:qB)
 | nilc (x:qB)
 | bin (op:BinOp) (x y:qB)
 | eqb (neg:Bool) (x y:qB)
 | eqi (kind:Nat) (neg:Bool) (x y:qB)
 | eqa (neg:Bool) (x y:qB)
 | un (op:UnOp) (x:qB)
 | cvi (k:IntKind) (x:qB)
 | cvs (x:qB)
 | cvb (x:qB)
 | cvt (x:qB)
 | mkI (t:TypeId) (x:qB)
 | mkF (f:FuncId) (first captured:List qB)
 | subS (x:qB) (lo hi:Option qB)
 | subL (k:Nat) (x:qB) (lo hi:Option qB)
 | fa (off:Nat) (a:qB)
 | ixaL (k:Nat) (s i:qB)
 | ixaA (len k:Nat) (a i:qB)
 | ixS (s i:qB)
 | ixA (len:Nat) (k:Option Nat) (a i:qB)
 | fld (off:Nat) (k:Option Nat) (x:qB)
 | ext (x:qB) (i:Nat)
 | call (f:qB) (args:List qB)
 | len (isStr:Bool) (x:qB)
 | app (k:Nat) (x y:qB)
 | mm (isMax:Bool) (x y:qB)
 | tas (t:TypeId) (zero:qd) (x:qB)
 | pan (x:qB)
 | eqs (sh:qei) (neg:Bool) (x y:qB)
 | hx (o:HOp) (args:List qB)
 | nls (neg:Bool) (x:qB)
 | lk (sh:qei) (zero:qd) (ok:Bool) (m key:qB)
 deriving Inhabited,Repr
structure qam where
 dst:Option Nat
 op:AOp
 guard:Option (Nat×Bool)
 deriving Inhabited,Repr
def ao (d:Nat) (op:AOp):qam:=⟨some d,op,none⟩
def ag (d:Nat) (op:AOp) (j:Nat) (b:Bool):qam:=⟨some d,op,some (j,b)⟩
def an (op:AOp):qam:=⟨none,op,none⟩
def mv (d i:Nat):qam:=⟨some d,.mov (.t i),none⟩
def sg (d i:Nat):qam:=⟨some d,.asg (.t i),none⟩
def fA (d k i:Nat):qam:=⟨some d,.fa k (.t i),none⟩
def ldn (d i:Nat):qam:=⟨some d,.ld none (.t i),none⟩
def lds (d k i:Nat):qam:=⟨some d,.ld (some k) (.t i),none⟩
def sts (k i j:Nat):qam:=⟨none,.st (some k) (.t i) (.t j),none⟩
def stn (i j:Nat):qam:=⟨none,.st none (.t i) (.t j),none⟩
def xtt (d i k:Nat):qam:=⟨some d,.ext (.t i) k,none⟩
def nlc (d i:Nat):qam:=⟨some d,.nilc (.t i),none⟩
def xlL (d k i j:Nat):qam:=⟨some d,.ixaL k (.t i) (.t j),none⟩
def lnn (d i:Nat):qam:=⟨some d,.len false (.t i),none⟩
def kI (n:Int):qB:=.c (.int .i64 n)
def kF (n:Nat):qB:=.c (.fn n [] [])
def kO:qB:=.c (.bool false)
def kU:qB:=.c (.bool true)
def nL:qd:=.lst [] .full
def zZ:qd:=.int .i64 0
def zS:qd:=.str []
def eqk (d i:Nat) (n:Int):qam:=⟨some d,.bin .eql (.t i) (.c (.int .i64 n)),none⟩
def bnk (d:Nat) (o:BinOp) (i:Nat) (n:Int):qam:=⟨some d,.bin o (.t i) (.c (.int .i64 n)),none⟩
def bnt (d:Nat) (o:BinOp) (i j:Nat):qam:=⟨some d,.bin o (.t i) (.t j),none⟩
def sgk (d:Nat) (n:Int):qam:=⟨some d,.asg (.c (.int .i64 n)),none⟩
def sgO (d:Nat):qam:=⟨some d,.asg (.c (.bool false)),none⟩
def sgU (d:Nat):qam:=⟨some d,.asg (.c (.bool true)),none⟩
def clA (d f i:Nat):qam:=⟨some d,.call (.c (.fn f [] [])) [.t i],none⟩
def clB (d f i j:Nat):qam:=⟨some d,.call (.c (.fn f [] [])) [.t i,.t j],none⟩
def pkO (d i j:Nat):qam:=⟨some d,.pick (.t i) (.t j) (.c (.bool false)),none⟩
def pkU (d i j:Nat):qam:=⟨some d,.pick (.t i) (.c (.bool true)) (.t j),none⟩
def bxx (d k i:Nat):qam:=⟨some d,.box k (.t i),none⟩
def ntt (d i:Nat):qam:=⟨some d,.un .not (.t i),none⟩
def gmv (d i j:Nat) (b:Bool):qam:=⟨some d,.mov (.t i),some (j,b)⟩
def gfA (d k i j:Nat) (b:Bool):qam:=⟨some d,.fa k (.t i),some (j,b)⟩
def gld (d i j:Nat) (b:Bool):qam:=⟨some d,.ld none (.t i),some (j,b)⟩
def gls (d k i j:Nat) (b:Bool):qam:=⟨some d,.ld (some k) (.t i),some (j,b)⟩
def gln (d i j:Nat) (b:Bool):qam:=⟨some d,.len false (.t i),some (j,b)⟩
def gbk (d:Nat) (o:BinOp) (i:Nat) (n:Int) (j:Nat) (b:Bool):qam:=⟨some d,.bin o (.t i) (.c (.int .i64 n)),some (j,b)⟩
def gbt (d:Nat) (o:BinOp) (i i2 j:Nat) (b:Bool):qam:=⟨some d,.bin o (.t i) (.t i2),some (j,b)⟩
def qB.slot:qB->List Nat
 | .t i=>[i]
 | .c _=>[]
def qBH:Option qB->List Nat
 | some x=>x.slot
 | none=>[]
def qgq:List qB->List Nat
 | []=>[]
 | x :: xs=>x.slot ++ qgq xs
def AOp.looks:AOp->List Nat
 | .mov x | .asg x | .box _ x | .ld _ x | .nilc x | .un _ x | .cvi _ x | .cvs x | .cvb x | .cvt x | .mkI _ x | .fa _ x | .fld _ _ x | .ext x _ | .len _ x | .tas _ _ x | .pan x | .nls _ x=>x.slot
 | .pick c a b=>c.slot ++ a.slot ++ b.slot
 | .new _=>[]
 | .build _ ps=>qgq (ps.map (·.2.2))
 | .list _ _ _ ps=>qgq (ps.map (·.2))
 | .st _ a x | .bin _ a x | .eqb _ a x | .eqi _ _ a x | .eqa _ a x | .ixaL _ a x | .ixaA _ _ a x | .ixS a x | .ixA _ _ a x | .app _ a x | .mm _ a x | .eqs _ _ a x | .lk _ _ _ a x=>a.slot ++ x.slot
 | .hx _ as=>qgq as
 | .mkF _ a b=>qgq a ++ qgq b
 | .subS x l h | .subL _ x l h=>x.slot ++ qBH l ++ qBH h
 | .call f as=>f.slot ++ qgq as
def AOp.calls:AOp->Bool
 | .call .. | .pan ..=>true
 | _=>false
def AOp.acts:AOp->Bool
 | .st .. | .call .. | .app .. | .pan .. | .hx ..=>true
 | _=>false
def AOp.effs:AOp->Bool
 | .st .. | .call .. | .app .. | .pan .. | .asg .. | .hx ..=>true
 | _=>false
def qam.looks (o:qam):List Nat:=
 match o.guard with
 | some (j,_)=>j :: o.op.looks
 | none=>o.op.looks
structure qR where
 o:qam
 ix:Nat
 cl:Nat
 deriving Inhabited,Repr
inductive qF where
 | skip
 | reg (ops:List qam)
 | draw (ops:List qR)
 | draw2 (c:List qR) (a b:qR) (r:List qR)
 | seq (a b:qF)
 | cond (c:qB) (a b:qF)
 | block (id:Nat) (b:qF)
 | loop (b:qF)
 | rfun (f:qB) (ps:List Nat) (asg body:qF)
 | exit (id:Nat)
 | ret
 deriving Inhabited,Repr
def cT (i:Nat) (a b:qF):qF:=.cond (.t i) a b
def sR (l:List qam) (c:qF):qF:=.seq (.reg l) c
def qF.noRf:qF->Bool
 | .seq a b | .cond _ a b=>a.noRf && b.noRf
 | .block _ b | .loop b=>b.noRf
 | .rfun ..=>false
 | _=>true
inductive qnf where
 | tmp (i:Nat)
 | cell (a:Nat) (k:Option Nat)
 deriving Inhabited,Repr
structure qt where
 ntmps:Nat
 results:List qnf
 code:qF
 deriving Inhabited,Repr
inductive LSt where
 | ready | busy | done | exhausted
 deriving DecidableEq,Repr,Inhabited
inductive qvz where
 | ret
 | exit (id:Nat)
 deriving DecidableEq,Repr,Inhabited
inductive qj where
 | cells (cs:List qd)
 | loop (t:List qd) (ps:List Nat) (asg body:qF) (st:LSt) (pend:Option qvz)
 | map (es:List (Nat×qd×qd)) (clock:Nat)
 | iter (m:qd) (since:Nat) (seen:List Nat) (last:Nat)
 | bld (t e:Nat) (s:List UInt8)
 | dead
 deriving Inhabited,Repr
structure St where
 t:List qd
 h:List qj
 e:Bool
 deriving Inhabited
inductive Ex where
 | nor
 | exit (id:Nat)
 | ret
 | pan (v:qd)
 deriving Inhabited,Repr
inductive qdm where
 | ret (v:qd)
 | pan (v:qd)
 deriving Inhabited,Repr
abbrev Call:=qd->List qd->List qj->Option (qdm×List qj×Bool)
def raw (t:List qd):qB->qd
 | .t i=>t.getD i .undef
 | .c v=>v
def ev (t:List qd) (x:qB):qd:=(raw t x).dim
def put (dst:Option Nat) (v:qd) (t:List qd):List qd:=
 match dst with
 | some d=>t.set d v
 | none=>t
def qaK (t:List qd) (x:qB):List qd:=
 match x with
 | .t i=>match t.getD i .undef with
  | .lst xs (.own _)=>t.set i (.lst xs .no)
  | _=>t
 | .c _=>t
def qk:Nat:=2 ^ 30
def splice (cs:List qd) (o:Nat) (vs:List qd):List qd:=cs.take o ++ vs ++ cs.drop (o + vs.length)
def cut (cs:List qd) (o:Nat) (k:Option Nat):Option qd:=
 match k with
 | none=>(cs[o]?).map qd.dim
 | some k=>if o + k <= cs.length then some (.agg (((cs.drop o).take k).map qd.dim)) else none
def qel (h:List qj) (a:qd) (k:Option Nat):Option qd:=
 match a with
 | .ptr i o=>match h[i]? with
  | some (.cells cs)=>cut cs o k
  | _=>none
 | .iptr cs o=>cut cs o k
 | _=>none
def qz (cells:List qd):List (Nat×Nat×qd)->Option (List qd)
 | []=>some cells
 | (off,size,v) :: rest=>
  let vs:=v.cells
  if vs.length = size/\off + size <= cells.length/\vs.all qd.storable then qz (splice cells off vs) rest else none
def ile:Int->Int->Bool
 | .ofNat a,.ofNat b=>Nat.ble a b
 | .negSucc _,.ofNat _=>true
 | .ofNat _,.negSucc _=>false
 | .negSucc a,.negSucc b=>Nat.ble b a
theorem qaD (a b:Int):ile a b = decide (a <= b):=by
 cases a <;> cases b <;> simp only [ile] <;> rw [Bool.eq_iff_iff] <;> simp <;> omega
def ilt (a b:Int):Bool:=!ile b a
theorem qaj (a b:Int):ilt a b = decide (a < b):=by
 rw [ilt,qaD,Bool.eq_iff_iff];simp
def qed (op:BinOp) (k:IntKind) (a b:Int):Option qd:=
 match op with
 | .add=>some (.int k (k.wrap (a + b)))
 | .sub=>some (.int k (k.wrap (a - b)))
 | .mul=>some (.int k (k.wrap (a * b)))
 | .quo=>if b = 0 then none else some (.int k (k.wrap (a.tdiv b)))
 | .rem=>if b = 0 then none else some (.int k (a.tmod b))
 | .and=>some (.int k (k.wrap (BitVec.ofInt k.bits a &&& BitVec.ofInt k.bits b).toNat))
 | .or=>some (.int k (k.wrap (BitVec.ofInt k.bits a ||| BitVec.ofInt k.bits b).toNat))
 | .xor=>some (.int k (k.wrap (BitVec.ofInt k.bits a ^^^ BitVec.ofInt k.bits b).toNat))
 | .andNot=>some (.int k (k.wrap (BitVec.ofInt k.bits a &&& ~~~ (BitVec.ofInt k.bits b)).toNat))
 | .eql=>some (.bool (a == b))
 | .neq=>some (.bool (a != b))
 | .lss=>some (.bool (ilt a b))
 | .leq=>some (.bool (ile a b))
 | .gtr=>some (.bool (ilt b a))
 | .geq=>some (.bool (ile b a))
 | .shl=>if b < 0 then none else some (.int k (k.wrap (a * 2 ^ (min b.toNat k.bits))))
 | .shr=>if b < 0 then none else some (.int k (a.fdiv (2 ^ (min b.toNat k.bits))))
def quU (op:BinOp) (a b:List UInt8):Option qd:=
 match op with
 | .add=>if a.length + b.length <= qk then some (.str (a ++ b)) else none
 | .eql=>some (.bool (a == b))
 | .neq=>some (.bool (!(a == b)))
 | .lss=>some (.bool (Op.bytesLess a b))
 | .leq=>some (.bool (Op.bytesLess a b || a == b))
 | .gtr=>some (.bool (!(Op.bytesLess a b || a == b)))
 | .geq=>some (.bool (!(Op.bytesLess a b)))
 | _=>none
def qeV (op:BinOp) (x y:qd):Option qd:=
 match x,y with
 | .int k a,.int j b=>
  match op with
  | .shl | .shr=>qed op k a b
  | _=>if k = j then qed op k a b else none
 | .str a,.str b=>quU op a b
 | _,_=>none
def qCi (k:Nat) (x y:qd):Option Bool:=
 match k with
 | 0=>match x,y with
  | .nilptr,.nilptr=>some true
  | .nilptr,.ptr _ _=>some false
  | .ptr _ _,.nilptr=>some false
  | .nilptr,.iptr _ _=>some false
  | .iptr _ _,.nilptr=>some false
  | .ptr i o,.ptr j p=>if i = j then some (o == p) else none
  | _,_=>none
 | 1=>match x,y with
  | .niliface,.niliface=>some true
  | .niliface,.iface _ _=>some false
  | .iface _ _,.niliface=>some false
  | _,_=>none
 | 2=>match x,y with
  | .nilfunc,.nilfunc=>some true
  | .nilfunc,.fn _ _ _=>some false
  | .fn _ _ _,.nilfunc=>some false
  | _,_=>none
 | 3=>match x,y with
  | .nilmap,.nilmap=>some true
  | .nilmap,.mp _=>some false
  | .mp _,.nilmap=>some false
  | _,_=>none
 | _=>none
def qhK (x y:qd):Option Bool:=
 match x,y with
 | .int k a,.int j b=>if k = j then some (a == b) else none
 | .str a,.str b=>some (a == b)
 | .bool a,.bool b=>some (a == b)
 | _,_=>none
def qmd:List qd->List qd->Option Bool
 | [],[]=>some true
 | a :: as,b :: bs=>
  match qhK a b with
  | some true=>qmd as bs
  | some false=>some false
  | none=>none
 | _,_=>none
def qej (k:SK) (v:Option qd):Bool:=
 match k,v with
 | .b,some (.bool _)=>true
 | .i k,some (.int j n)=>k == j && (ile k.min n && ile n k.max)
 | .s,some (.str s)=>Nat.ble s.length 9223372036854775807
 | _,_=>false
def qek (ls:List (Nat×SK)) (cs:List qd):Bool:=ls.all λp=>qej p.2 cs[p.1]?
def qec (sh:qei) (x:qd):Bool:=
 match x with
 | .agg cs=>sh.agg && cs.length == sh.n && qek sh.ls cs
 | x=>!sh.agg && qek sh.ls [x]
def qdp (x y:List qd):List (Nat×SK)->Bool
 | []=>true
 | p :: sh=>match x[p.1]?,y[p.1]? with
  | some a,some b=>match qhK a b with
   | some true=>qdp x y sh
   | _=>false
  | _,_=>false
def qmw (sh:qei) (x y:qd):Option Bool:=
 if qec sh x && qec sh y then some (qdp x.cells y.cells sh.ls) else none
def unV (op:UnOp) (x:qd):Option qd:=
 match op,x with
 | .neg,.int k n=>some (.int k (k.wrap (0 - n)))
 | .not,.bool b=>some (.bool (!b))
 | _,_=>none
def bound (t:List qd) (x:Option qB) (d:Nat):Option Nat:=
 match x with
 | none=>some d
 | some x=>match ev t x with
  | .int _ n=>if 0 <= n then some n.toNat else none
  | _=>none
def qlY (s:List UInt8):List qd:=s.map λb=>.int .u8 b.toNat
def qjM:List qd->Option (List UInt8)
 | []=>some []
 | .int .u8 n :: r=>(qjM r).map (UInt8.ofNat n.toNat :: ·)
 | _=>none
def pureV (t:List qd) (o:AOp):Option qd:=
 match o with
 | .mov x=>some (ev t x)
 | .pick c a b=>match ev t c with
  | .bool true=>some (ev t a)
  | .bool false=>some (ev t b)
  | _=>none
 | .build zero parts=>(qz zero (parts.map λ(o,s,x)=>(o,s,ev t x))).map .agg
 | .list k zero len parts=>
  if zero.length = k/\len * k <= 2 ^ 24 then
   match qz ((List.replicate len zero).flatten) (parts.map λ(i,x)=>(i * k,k,ev t x)) with
   | some cs=>if cs.all qd.storable then some (.lst ((List.range len).map λi=>if k = 1 then (cs.getD i .undef) else .agg ((cs.drop (i * k)).take k)) .full) else none
   | none=>none
  else none
 | .nilc x=>match ev t x with
  | .ptr i o=>some (.ptr i o)
  | .iptr cs o=>some (.iptr cs o)
  | .fn f a b=>some (.fn f a b)
  | .yld l=>some (.yld l)
  | .iface u v=>some (.iface u v)
  | _=>none
 | .bin op x y=>qeV op (ev t x) (ev t y)
 | .eqb neg x y=>match ev t x,ev t y with
  | .bool a,.bool b=>some (.bool ((a == b) != neg))
  | _,_=>none
 | .eqi k neg x y=>(qCi k (ev t x) (ev t y)).map λb=>.bool (b != neg)
 | .eqa neg x y=>match ev t x,ev t y with
  | .agg a,.agg b=>(qmd a b).map λr=>.bool (r != neg)
  | _,_=>none
 | .eqs sh neg x y=>(qmw sh (ev t x) (ev t y)).map λr=>.bool (r != neg)
 | .un op x=>unV op (ev t x)
 | .nls neg x=>match ev t x with
  | .sl ..=>some (.bool (false != neg))
  | .lst (_ :: _) _=>some (.bool (false != neg))
  | .nils=>some (.bool (true != neg))
  | .empt=>some (.bool (false != neg))
  | _=>none
 | .cvi k x=>match ev t x with
  | .int _ n=>some (.int k (k.wrap n))
  | _=>none
 | .cvs x=>match ev t x with
  | .str s=>some (.str s)
  | _=>none
 | .cvb x=>match ev t x with
  | .str s=>some (.lst (qlY s) .no)
  | _=>none
 | .cvt x=>match ev t x with
  | .lst xs _=>(qjM xs).map .str
  | _=>none
 | .mkI ty x=>match ev t x with
  | .undef=>none
  | v=>some (.iface ty v)
 | .mkF f a b=>some (.fn f (a.map (ev t)) (b.map (ev t)))
 | .subS x lo hi=>match ev t x with
  | .str s=>match bound t hi s.length with
   | some h=>match bound t lo 0 with
    | some l=>if l <= h/\h <= s.length then some (.str ((s.drop l).take (h - l))) else none
    | none=>none
   | none=>none
  | _=>none
 | .subL k x lo hi=>match ev t x with
  | .lst xs f=>match bound t hi xs.length with
   | some h=>match bound t lo 0 with
    | some l=>
     if l <= h/\h <= xs.length then
      if xs.head?.all (λy=>y.cells.length == k) then some (.lst ((xs.drop l).take (h - l)) (if h = xs.length then f else .no)) else none
     else none
    | none=>none
   | none=>none
  | .sl id o len cap more=>match bound t hi len with
   | some h=>match bound t lo 0 with
    | some l=>
     if l <= h/\h <= cap then
      if cap = l then (if more = 0 then some (.lst [] .full) else none) else (if more = 0\/more = k then some (.sl id (o + l * k) (h - l) (cap - l) more) else none)
     else none
    | none=>none
   | none=>none
  | _=>none
 | .fa off a=>match ev t a with
  | .ptr i o=>some (.ptr i (o + off))
  | .iptr cs o=>some (.iptr cs (o + off))
  | _=>none
 | .ixaL k s i=>match ev t s,ev t i with
  | .lst xs _,.int _ n=>
   if 0 <= n/\n < xs.length then
    match xs[n.toNat]? with
    | some x=>if x.cells.length = k then some (.iptr x.cells 0) else none
    | none=>none
   else none
  | .sl id o len _ _,.int _ n=>if 0 <= n/\n < len then some (.ptr id (o + n.toNat * k)) else none
  | _,_=>none
 | .ixaA len k a i=>match ev t a,ev t i with
  | .ptr b o,.int _ n=>if 0 <= n/\n < (len:Int) then some (.ptr b (o + n.toNat * k)) else none
  | .iptr cs o,.int _ n=>if 0 <= n/\n < (len:Int) then some (.iptr cs (o + n.toNat * k)) else none
  | _,_=>none
 | .ixS s i=>match ev t s,ev t i with
  | .str l,.int _ n=>if 0 <= n then (l[n.toNat]?).map λb=>.int .u8 b.toNat else none
  | _,_=>none
 | .ixA len k a i=>match ev t a,ev t i with
  | .agg cs,.int _ n=>if 0 <= n/\n < (len:Int) then cut cs (n.toNat * k.getD 1) k else none
  | _,_=>none
 | .fld off k x=>match ev t x with
  | .agg cs=>cut cs off k
  | _=>none
 | .ext x i=>match ev t x with
  | .tup vs=>(vs[i]?).map qd.dim
  | _=>none
 | .len true x=>match ev t x with
  | .str s=>some (.int .i64 s.length)
  | _=>none
 | .len false x=>match ev t x with
  | .lst xs _=>some (.int .i64 xs.length)
  | .sl _ _ len _ _=>some (.int .i64 len)
  | .nils=>some (.int .i64 0)
  | .empt=>some (.int .i64 0)
  | _=>none
 | .mm isMax x y=>match ev t x,ev t y with
  | .int k a,.int _ b=>some (.int k (if isMax then (if b > a then b else a) else (if b < a then b else a)))
  | _,_=>none
 | .tas ty zero x=>match ev t x with
  | .niliface=>some (.tup [zero,.bool false])
  | .iface u v=>if u = ty then some (.tup [v,.bool true]) else some (.tup [zero,.bool false])
  | _=>none
 | _=>none
inductive Src where
 | tmp (i:Nat)
 | cell (a:qB)
 deriving Inhabited,Repr
abbrev qcD:=List (Nat×Src)
def qB.isT (x:qB) (d:Nat):Bool:=
 match x with
 | .t i=>i == d
 | .c _=>false
def Src.hangs (d:Nat):Src->Bool
 | .tmp i=>i == d
 | .cell a=>a.isT d
def qbW:AOp->Option Src
 | .mov (.t i)=>some (.tmp i)
 | .ld none a=>some (.cell a)
 | _=>none
def Src.isTmp:Src->Bool
 | .tmp _=>true
 | .cell _=>false
def qaN (p:qcD) (o:qam):qcD:=
 if o.op.effs then
  match o.dst with
  | none=>p.filter λx=>x.2.isTmp
  | some d=>p.filter λx=>x.2.isTmp && (x.1 != d && !x.2.hangs d)
 else
  match o.dst with
  | none=>p
  | some d=>
   let q:=p.filter λx=>x.1 != d && !x.2.hangs d
   match qbW o.op with
   | some s=>if s.hangs d then q else (d,s) :: q
   | none=>q
def tail (y:qd):Option (List qd):=
 match y with
 | .lst ys _=>some ys
 | .str s=>some (qlY s)
 | _=>none
def qeQ (k:Nat) (p:qcD) (x:qB) (s:St):Option (List qd×St):=
 match x with
 | .c _=>none
 | .t i=>
  match s.t.getD i .undef with
  | .lst xs (.own j)=>if j = k then some (xs,{ s with t:=s.t.set i (.lst xs .no)}) else none
  | _=>
   match p.find? (·.1 == i) with
   | some (_,.tmp b)=>
    match s.t.getD b .undef with
    | .lst xs (.own j)=>if j = k then some (xs,{ s with t:=s.t.set b (.lst xs .no)}) else none
    | _=>none
   | some (_,.cell a)=>
    match ev s.t a with
    | .ptr id o=>
     match s.h[id]? with
     | some (.cells cs)=>
      match cs[o]? with
      | some (.lst xs (.own j))=>if j = k then some (xs,{ s with h:=s.h.set id (.cells (cs.set o (.lst xs .no)))}) else none
      | _=>none
     | _=>none
    | _=>none
   | none=>none
def qf4 (xs:List qd):List qd:=xs.flatMap qd.cells
def qdE (k:Nat) (h:List qj) (v:qd):Option (List qd×Nat):=
 match v with
 | .lst xs _=>if xs.all (λx=>x.cells.length == k) then some ((qf4 xs).map qd.dim,xs.length) else none
 | .str s=>if k = 1 then some (qlY s,s.length) else none
 | .sl id o len _ _=>match h[id]? with
  | some (.cells cs)=>if o + len * k <= cs.length then some (((cs.drop o).take (len * k)).map qd.dim,len) else none
  | _=>none
 | .nils=>some ([],0)
 | .empt=>some ([],0)
 | _=>none
def young (base id:Nat) (vs:List qd):Bool:=!(Nat.ble base id || qw (id + 1) vs)
def qhv (base:Nat) (h:List qj) (id o:Nat) (vs:List qd):Option (List qj×Bool):=
 match h[id]? with
 | some (.cells cs)=>if o + vs.length <= cs.length/\vs.all qd.storable then some (h.set id (.cells (splice cs o vs)),young base id vs) else none
 | _=>none
def qsg (sh:qei) (key:qd):List (Nat×qd×qd)->Nat->Option (Option (Nat×qd))
 | [],_=>if qec sh key then some none else none
 | e :: es,i=>match qmw sh key e.2.1 with
  | some true=>some (some (i,e.2.2))
  | some false=>qsg sh key es (i + 1)
  | none=>none
def qnz (h:List qj) (m:qd):Option (List (Nat×qd×qd)):=
 match m with
 | .nilmap=>some []
 | .mp id=>match h[id]? with
  | some (.map es _)=>some es
  | _=>none
 | _=>none
def qnW (h:List qj) (sh:qei) (zero:qd) (ok:Bool) (m key:qd):Option qd:=
 match qnz h m with
 | some es=>match qsg sh key es 0 with
  | some (some (_,v))=>some (if ok then .tup [v.dim,.bool true] else v.dim)
  | some none=>some (if ok then .tup [zero.dim,.bool false] else zero.dim)
  | none=>none
 | none=>none
def qf8 (base k:Nat) (x y:qd) (h:List qj):Option (qd×List qj×Bool):=
 match qdE k h y with
 | none=>none
 | some (ys,m)=>
  if !(ys.all qd.storable) then none else
  match x with
  | .lst xs .full=>
   if m = 0 then some (x,h,false) else
   match qdE k h x with
   | some (cs,n)=>if n + m <= qk then some (.sl h.length 0 (n + m) (n + m) k,h ++ [.cells (cs ++ ys)],false) else none
   | none=>none
  | .sl id o len cap more=>
   if m = 0 then some (x,h,false) else
   if len + m <= qk then
    if len + m <= cap then
     match qhv base h id (o + len * k) ys with
     | some (h',e)=>some (.sl id o (len + m) cap more,h',e)
     | none=>none
    else
     match qdE k h x,h[id]? with
     | some (cs,_),some (.cells ds)=>
      if more = 0 then some (.sl h.length 0 (len + m) (len + m) k,h ++ [.cells (cs ++ ys)],false)
      else if o = 0/\more = k/\cap * k = ds.length then some (.sl h.length 0 (len + m) (len + m) k,h.set id .dead ++ [.cells (cs ++ ys)],false) else none
     | _,_=>none
   else none
  | .nils=>
   if m = 0 then some (x,h,false) else if m <= qk then some (.sl h.length 0 m m k,h ++ [.cells ys],false) else none
  | _=>none
def elems (k len:Nat) (cs:List qd):List qd:=(List.range len).map λi=>if k = 1 then (cs.getD i .undef) else .agg ((cs.drop (i * k)).take k)
def frz (h:List qj) (x:qd):Option (qd×List qj):=
 match x with
 | .sl id o len cap _=>match h[id]? with
  | some (.cells ds)=>
   if o = 0/\len * (ds.length / cap) <= ds.length/\(ds.map qd.dim).all qd.storable = true then some (.lst (elems (ds.length / cap) len (ds.map qd.dim)) .no,h.set id .dead) else none
  | _=>none
 | _=>none
def qpd:List qd->List qj->List qd×List qj
 | [],h=>([],h)
 | x :: xs,h=>match frz h x with
  | some (y,h')=>(y :: (qpd xs h').1,(qpd xs h').2)
  | none=>(x :: (qpd xs h).1,(qpd xs h).2)
def qwG (h:List qj):qd->qd×List qj×Bool
 | .agg cs=>(.agg (qpd cs h).1,(qpd cs h).2,false)
 | v=>(v,h,false)
def hop (base:Nat) (o:HOp) (as:List qd) (h:List qj):Option (qd×List qj×Bool):=
 match o,as with
 | .mk k zero,[.int _ l,.int _ c]=>
  if 0 <= l/\l <= c/\c <= 2 ^ 24/\zero.length = k then some (.sl h.length 0 l.toNat c.toNat 0,h ++ [.cells (((List.replicate c.toNat zero).flatten).map qd.dim)],false) else none
 | .lit k zero len ixs,vs=>
  if zero.length = k/\len * k <= 2 ^ 24 then
   match qz ((List.replicate len zero).flatten) ((ixs.zip vs).map λp=>(p.1 * k,k,p.2)) with
   | some cs=>some (.sl h.length 0 len len 0,h ++ [.cells (cs.map qd.dim)],false)
   | none=>none
  else none
 | .app k,[x,y]=>qf8 base k x y h
 | .sub3 k,[x,.int _ lo,.int _ hi,.int _ mx]=>
  if 0 <= lo/\lo <= hi/\hi <= mx then
   match x with
   | .lst xs _=>if mx <= xs.length then (if mx = lo then some (.lst [] .full,h,false) else if lo = 0/\hi = mx/\mx = xs.length then some (.lst xs .full,h,false) else none) else none
   | .sl id o _ cap _=>
    if mx <= cap then
     if mx = lo then some (.lst [] .full,h,false) else some (.sl id (o + lo.toNat * k) (hi.toNat - lo.toNat) (mx.toNat - lo.toNat) 0,h,false)
    else none
   | _=>none
  else none
 | .mkm,[]=>some (.mp h.length,h ++ [.map [] 0],false)
 | .mup sh,[.mp id,key,v]=>
  match h[id]? with
  | some (.map es c)=>match qsg sh key es 0 with
   | some (some (i,_))=>some (.tup [],h.set id (.map (es.modify i λe=>(e.1,key,v)) c),young base id [key,v])
   | some none=>some (.tup [],h.set id (.map (es ++ [(c,key,v)]) (c + 1)),young base id [key,v])
   | none=>none
  | _=>none
 | .ment sh zero,[.mp id,key]=>
  match h[id]? with
  | some (.map es c)=>match qsg sh key es 0 with
   | some (some (i,v))=>match es[i]? with
    | some e=>some (.tup [v.dim,.int .i64 e.1],h.set id (.map (es.modify i λe=>(e.1,key,e.2.2)) c),young base id [key])
    | none=>none
   | some none=>some (.tup [zero.dim,.int .i64 c],h.set id (.map (es ++ [(c,key,zero.dim)]) (c + 1)),young base id [key,zero.dim])
   | none=>none
  | _=>none
 | .mst,[.mp id,.int _ n,v]=>
  match h[id]? with
  | some (.map es c)=>match es.findIdx? (λe=>(e.1:Int) == n) with
   | some i=>some (.tup [],h.set id (.map (es.modify i λe=>(e.1,e.2.1,v)) c),young base id [v])
   | none=>none
  | _=>none
 | .mlen,[m]=>match m with
  | .nilmap=>some (.int .i64 0,h,false)
  | .mp id=>match h[id]? with
   | some (.map es _)=>some (.int .i64 es.length,h,false)
   | _=>none
  | _=>none
 | .mkm,[.int _ _]=>some (.mp h.length,h ++ [.map [] 0],false)
 | .del sh,[m,key]=>match m with
  | .nilmap=>if qec sh key then some (.tup [],h,false) else none
  | .mp id=>match h[id]? with
   | some (.map es c)=>match qsg sh key es 0 with
    | some (some (i,_))=>some (.tup [],h.set id (.map (es.eraseIdx i) c),false)
    | some none=>some (.tup [],h.set id (.map es c),false)
    | none=>none
   | _=>none
  | _=>none
 | .rng,[m]=>match m with
  | .nilmap=>some (.ptr h.length 0,h ++ [.iter .nilmap 0 [] 0],false)
  | .mp id=>match h[id]? with
   | some (.map _ c)=>some (.ptr h.length 0,h ++ [.iter (.mp id) c [] c],false)
   | _=>none
  | _=>none
 | .nxt,[.ptr it 0]=>match h[it]? with
  | some (.iter .nilmap _ _ _)=>some (.tup [.bool false],h,false)
  | some (.iter (.mp id) since seen last)=>match h[id]? with
   | some (.map es c)=>
    if !seen.isEmpty && !es.isEmpty && es.all (λe=>Nat.ble last e.1) then none else
    match es.filter (λe=>!seen.contains e.1) with
    | []=>some (.tup [.bool false],h,false)
    | [e]=>if Nat.blt e.1 since then some (.tup [.bool true,e.2.1.dim,e.2.2.dim],h.set it (.iter (.mp id) since (seen ++ [e.1]) c),false) else none
    | _=>none
   | _=>none
  | _=>none
 | .ent,[.ptr it 0]=>match h[it]? with
  | some (.iter (.mp id) _ seen last)=>match h[id]?,seen.getLast? with
   | some (.map es c),some b=>if c = last then match es.find? (λe=>e.1 == b) with
     | some e=>some (.tup [e.2.1.dim,e.2.2.dim],h,false)
     | none=>none
    else none
   | _,_=>none
  | _=>none
 | .ldz k,[p]=>(qel h p k).map (qwG h)
 | .bld t e,[]=>some (.ptr h.length 0,h ++ [.bld t e []],false)
 | _,_=>none
def qA (base:Nat) (call:Call) (p:qcD) (dst:Option Nat) (o:AOp) (s:St):Option (Ex×St):=
 match o with
 | .asg x=>some (.nor,{ s with t:=put dst (raw s.t x) (qaK s.t x)})
 | .new cs=>some (.nor,{ s with t:=put dst (.ptr s.h.length 0) s.t,h:=s.h ++ [.cells (cs.map qd.dim)]})
 | .box k x=>
  let vs:=(ev s.t x).cells.map qd.dim
  if vs.length = k/\vs.all qd.storable then some (.nor,{ s with t:=put dst (.ptr s.h.length 0) s.t,h:=s.h ++ [.cells vs]}) else none
 | .ld k a=>(qel s.h (ev s.t a) k).map λv=>(.nor,{ s with t:=put dst v s.t})
 | .st k a x=>
  match ev s.t a with
  | .ptr id o=>
   match s.h[id]? with
   | some (.cells cs)=>
    let v:=raw s.t x
    let vs:=match k with | none=>[v] | some _=>v.dim.cells.map qd.dim
    if vs.length = k.getD 1/\o + vs.length <= cs.length/\vs.all qd.storable then
     some (.nor,{ t:=put dst .undef (qaK s.t x),h:=s.h.set id (.cells (splice cs o vs)),e:=s.e || !(Nat.ble base id || qw (id + 1) vs)})
    else none
   | _=>none
  | _=>none
 | .call f args=>
  match call (ev s.t f) (args.map (ev s.t)) s.h with
  | some (.ret v,h,e)=>some (.nor,{ t:=put dst v.dim s.t,h,e:=s.e || e})
  | some (.pan v,h,e)=>some (.pan v,{ s with h,e:=s.e || e})
  | none=>none
 | .app k x y=>
  match raw s.t x,tail (ev s.t y) with
  | .lst xs f,some ys=>
   if ys.isEmpty then some (.nor,{ s with t:=put dst (qd.lst xs f).dim s.t})
   else if xs.length + ys.length <= qk/\ys.all (λy=>y.cells.length == k && y.cells.all qd.storable)/\xs.head?.all (λy=>y.cells.length == k) then
    match f with
    | .full=>some (.nor,{ s with t:=put dst (.lst (xs ++ ys) (.own k)) s.t})
    | _=>
     match qeQ k p x s with
     | some (xs,s)=>if xs.head?.all (λy=>y.cells.length == k) then some (.nor,{ s with t:=put dst (.lst (xs ++ ys) (.own k)) s.t}) else none
     | none=>none
   else none
  | _,_=>none
 | .pan x=>match ev s.t x with
  | .iface u v=>some (.pan (.iface u v),s)
  | _=>none
 | .lk sh z ok m key=>(qnW s.h sh z ok (ev s.t m) (ev s.t key)).map λv=>(.nor,{ s with t:=put dst v s.t})
 | .hx o as=>(hop base o (as.map (ev s.t)) s.h).map λr=>(.nor,{ t:=put dst r.1.dim s.t,h:=r.2.1,e:=s.e || r.2.2})
 | o=>(pureV s.t o).map λv=>(.nor,{ s with t:=put dst v s.t})
def wanted (t:List qd) (g:Option (Nat×Bool)):Option Bool:=
 match g with
 | none=>some true
 | some (j,b)=>match t.getD j .undef with
  | .bool c=>some (c == b)
  | .tup []=>some false
  | _=>none
def qaO (base:Nat) (call:Call):qcD->List qam->St->Option (Ex×St)
 | _,[],s=>some (.nor,s)
 | p,o :: os,s=>
  match wanted s.t o.guard with
  | some true=>
   match qA base call p o.dst o.op s with
   | some (.nor,s)=>qaO base call (qaN p o) os s
   | r=>r
  | some false=>qaO base call (qaN p { o with op:=.pick (.c .undef) (.c .undef) (.c .undef)}) os { s with t:=put o.dst (.tup []) s.t}
  | none=>none
inductive Chk where
 | ld (a:qd) (k:Option Nat) (v:qd)
 | box (id:Nat) (cs:List qd)
 | lk (sh:qei) (zero:qd) (ok:Bool) (m key v:qd)
 deriving Inhabited
def Chk.ok (h:List qj):Chk->Bool
 | .ld a k v=>match qel h a k with
  | some w=>v.beq w
  | none=>false
 | .box id cs=>match h[id]? with
  | some (.cells ds)=>qlX cs ds
  | _=>false
 | .lk sh z ok m key v=>match qnW h sh z ok m key with
  | some w=>v.beq w
  | none=>false
def qfW (s:St) (o:AOp):Option Chk:=
 match o with
 | .ld k a=>(qel s.h (ev s.t a) k).map (.ld (ev s.t a) k)
 | .lk sh z ok m key=>(qnW s.h sh z ok (ev s.t m) (ev s.t key)).map (.lk sh z ok (ev s.t m) (ev s.t key))
 | .new cs=>some (.box s.h.length (cs.map qd.dim))
 | .box _ x=>some (.box s.h.length ((ev s.t x).cells.map qd.dim))
 | _=>none
def qcL (ms:List Nat) (t:List qd):List qd:=t.mapIdx λi x=>if ms.contains i then .undef else x
def qW (base:Nat) (call:Call) (dsts:List Nat):List qR->List (Nat×Chk)->St->Option (Ex×St)
 | [],_,s=>some (.nor,s)
 | d :: ds,pend,s=>
  match wanted s.t d.o.guard with
  | some true=>
   match qA base call [] d.o.dst d.o.op s with
   | some (.nor,s')=>
    if d.o.op.effs then
     let pend':=pend.filter λc=>!d.cl.testBit c.1
     if pend'.all (λc=>c.2.ok s'.h) then qW base call dsts ds pend' s' else none
    else
     match qfW s d.o.op with
     | some c=>qW base call dsts ds ((d.ix,c) :: pend) s'
     | none=>qW base call dsts ds pend s'
   | some (.pan v,s')=>if d.o.op.effs then some (.pan v,{ s' with t:=qcL dsts s'.t}) else none
   | _=>none
  | some false=>qW base call dsts ds pend { s with t:=put d.o.dst (.tup []) s.t}
  | none=>none
def qB8:List (Nat×qd×qd)->List (Nat×qd×qd)->Bool
 | [],[]=>true
 | x :: xs,y :: ys=>x.1 == y.1 && x.2.1.beq y.2.1 && x.2.2.beq y.2.2 && qB8 xs ys
 | _,_=>false
def qj.beq:qj->qj->Bool
 | .cells a,.cells b=>qlX a b
 | .map a c,.map b d=>c == d && qB8 a b
 | .iter m a l b,.iter m' a' l' b'=>m.beq m' && a == a' && l == l' && b == b'
 | .bld a c s,.bld b d u=>Nat.beq a b && (Nat.beq c d && s == u)
 | .dead,.dead=>true
 | _,_=>false
def apart (t:List qd) (a b:qR):Bool:=
 (a.o.guard.isNone && b.o.guard.isNone && a.o.dst.isNone && b.o.dst.isNone) && match a.o.op,b.o.op with
 | .st _ p x,.st _ q y=>x.slot.all (λi=>!y.slot.contains i) && (match ev t p,ev t q with
  | .ptr i _,.ptr j _=>!Nat.beq i j
  | _,_=>false)
 | _,_=>false
def qyJ (a b:qR) (r0 r1 r2:Option (Ex×St)):Option (Ex×St):=
 match r0,r1,r2 with
 | some (.nor,s0),some (.nor,s1),some (.nor,_)=>if apart s0.t a b then some (.nor,s1) else none
 | _,_,_=>none
theorem qq9 {a b:qR} {r0 r1 r2:Option (Ex×St)} {x:Ex} {s':St} (h:qyJ a b r0 r1 r2 = some (x,s')):x = .nor/\r1 = some (.nor,s')/\(∃s2,r2 = some (.nor,s2))/\∃s0,r0 = some (.nor,s0)/\apart s0.t a b = true:=by
 unfold qyJ at h
 split at h
 ·split at h
  ·rename_i E
   cases h;exact ⟨rfl,rfl,⟨_,rfl⟩,_,rfl,E⟩
  ·cases h
 ·cases h
def iter (f:St->Option (Ex×St)):Nat->St->Option (Ex×St)
 | 0,_=>none
 | n + 1,s=>match f s with
  | some (.nor,s)=>iter f n s
  | r=>r
def qaV (n base:Nat) (call:Call):qF->St->Option (Ex×St)
 | .skip,s=>some (.nor,s)
 | .reg ops,s=>qaO base call [] ops s
 | .draw ops,s=>qW base call (ops.filterMap (·.o.dst)) ops [] s
 | .draw2 c a b r,s=>qyJ a b (qW base call ((c ++ a :: b :: r).filterMap (·.o.dst)) (c ++ [a,b]) [] s) (qW base call ((c ++ a :: b :: r).filterMap (·.o.dst)) (c ++ a :: b :: r) [] s) (qW base call ((c ++ a :: b :: r).filterMap (·.o.dst)) (c ++ b :: a :: r) [] s)
 | .seq a b,s=>match qaV n base call a s with
  | some (.nor,s)=>qaV n base call b s
  | r=>r
 | .cond c a b,s=>match ev s.t c with
  | .bool true=>qaV n base call a s
  | .bool false=>qaV n base call b s
  | _=>none
 | .block id b,s=>match qaV n base call b s with
  | some (.exit j,s)=>if j = id then some (.nor,s) else some (.exit j,s)
  | r=>r
 | .loop b,s=>iter (qaV n base call b) n s
 | .exit id,s=>some (.exit id,s)
 | .ret,s=>some (.ret,s)
 | .rfun f ps asg body,s=>
  match ev s.t f with
  | .fn g first cap=>
   match call (.fn g first cap) [.yld s.h.length] (s.h ++ [.loop (s.t.map qd.dim) ps asg body .ready none]) with
   | some (.ret _,h,e)=>
    match h[s.h.length]? with
    | some (.loop t ps' asg' body' st pend)=>
     if st = .busy then none else
     let s':St:={ s with h:=h.set s.h.length (.loop t ps' asg' body' .exhausted pend),e:=s.e || e}
     match pend with
     | none=>some (.nor,s')
     | some .ret=>some (.ret,s')
     | some (.exit id)=>some (.exit id,s')
    | _=>none
   | some (.pan v,h,e)=>some (.pan v,{ s with h,e:=s.e || e})
   | none=>none
  | _=>none
def qat (s:St):List qnf->Option (List qd)
 | []=>some []
 | .tmp i :: rs=>match qat s rs with
  | some vs=>some ((s.t.getD i .undef).dim :: vs)
  | none=>none
 | .cell a k :: rs=>
  match qel s.h (s.t.getD a .undef) k,qat s rs with
  | some v,some vs=>some (v :: vs)
  | _,_=>none
def qbv:List qd->qd
 | [v]=>v
 | vs=>.tup vs
def qbb (n:Nat):List (Nat×qd×qd)->Bool
 | []=>true
 | x :: xs=>x.2.1.lower n && x.2.2.lower n && qbb n xs
def qj.lower (n:Nat):qj->Bool
 | .cells cs=>qw n cs
 | .loop t _ _ _ _ _=>qw n t
 | .map es _=>qbb n es
 | .iter m _ _ _=>m.lower n
 | .bld _ _ _=>true
 | .dead=>true
def leave (base:Nat) (r:qdm) (h:List qj) (e:Bool):qdm×List qj×Bool:=
 if (!e || base == 0) && (match r with | .ret v=>v.lower base | .pan v=>v.lower base) then (r,h.take base,e) else (r,h,e)
abbrev qlW:=FuncId->Option (Call->List qd->List qj->Option (qdm×List qj×Bool))
def qky (t:List qd):List Nat->List qd->List qd
 | p :: ps,a :: as=>qky (t.set p a) ps as
 | _,_=>t
def round (n:Nat) (call:Call) (l:Nat) (args:List qd) (h:List qj):Option (qdm×List qj×Bool):=
 match h[l]? with
 | some (.loop t ps asg body _ _)=>
  if args.length ≠ ps.length then none else
  let base:=h.length
  match qaV n base call asg ⟨qky t ps (args.map qd.dim),h,false⟩ with
  | some (.nor,s)=>
   match s.h[l]? with
   | some (.loop t1 ps1 asg1 body1 .ready pend)=>
    match qaV n base call body { s with h:=s.h.set l (.loop t1 ps1 asg1 body1 .busy pend)} with
    | some (x,s)=>
     match s.h[l]? with
     | some (.loop t2 ps2 asg2 body2 _ _)=>
      match x with
      | .nor=>some (leave base (.ret (.bool true)) (s.h.set l (.loop t2 ps2 asg2 body2 .ready none)) s.e)
      | .ret=>some (leave base (.ret (.bool false)) (s.h.set l (.loop t2 ps2 asg2 body2 .done (some .ret))) s.e)
      | .exit id=>some (leave base (.ret (.bool false)) (s.h.set l (.loop t2 ps2 asg2 body2 .done (some (.exit id)))) s.e)
      | .pan _=>none
     | _=>none
    | none=>none
   | _=>none
  | _=>none
 | _=>none
def run (F:FuncId->Option qt) (X:qlW):Nat->Call
 | 0=>λ_ _ _=>none
 | n + 1=>λfv args h=>
  match fv with
  | .fn f first cap=>
   match X f with
   | some g=>g (run F X n) (first ++ args ++ cap) h
   | none=>
    match F f with
    | none=>none
    | some fn=>
     let as:=(first ++ args ++ cap).map qd.dim
     match qaV n h.length (run F X n) fn.code ⟨as ++ List.replicate (fn.ntmps - as.length) (.tup []),h,false⟩ with
     | some (.nor,s) | some (.ret,s)=>
      match qat s fn.results with
      | some vs=>some (leave h.length (.ret (qbv vs)) s.h s.e)
      | none=>none
     | some (.pan v,s)=>some (leave h.length (.pan v) s.h s.e)
     | _=>none
  | .yld l=>round n (run F X n) l args h
  | _=>none
def qdu:Value->Option qd
 | .bool b=>some (.bool b)
 | .int k n=>some (.int k n)
 | .string s=>some (.str s.data.toList)
 | .pointer none=>some .nilptr
 | .slice none l c=>if l = 0/\c = 0 then some (.lst [] .full) else none
 | .nilFunc=>some .nilfunc
 | .nilIface=>some .niliface
 | .map none=>some .nilmap
 | .func (.func f) a b=>if a.isEmpty && b.isEmpty then some (.fn f [] []) else none
 | _=>none
def qg1:Value->Option qd
 | .agg cs=>(cs.toList.mapM qdu).map .agg
 | .tuple vs=>if vs.isEmpty then some (.tup []) else none
 | v=>qdu v
def qhh:BinOp->Bool
 | .neq=>true
 | _=>false
def qDn:BinOp->Bool
 | .eql | .neq=>true
 | _=>false
def qDo:TypeDesc->Bool
 | .slice _ | .string=>true
 | _=>false
def isC:Operand->Bool
 | .const _=>true
 | _=>false
section
variable (P:Program) (gl:Nat->Option (List qd))
def opd:Operand->Option qB
 | .tmp t=>some (.t t)
 | .const v=>(qg1 v).map .c
 | .global g=>(gl g).map λcs=>.c (.iptr cs 0)
 | .func f=>some (.c (.fn f [] []))
def qvu (xs:Array Operand):Option (List qB):=xs.toList.mapM (opd gl)
def tyk (t:TypeId):Option (Option Nat):=
 match P.underlying t with
 | some (.struct _) | some (.array ..)=>(P.info? t).map λi=>some i.size
 | some (.tuple _) | some .invalid | none=>none
 | some _=>some none
def qbO (t:TypeId):Option qd:=
 match P.info? t with
 | some i=>i.zero.bind qg1
 | none=>none
def qfw (t:TypeId):Option Nat:=(P.info? t).map (·.size)
def qjm (fs:Array Field):List (Nat×Operand)->Option (List (Nat×Nat×qB))
 | []=>some []
 | (i,x) :: rest=>
  match fs[i]?,opd gl x,qjm fs rest with
  | some f,some x,some r=>match qfw P f.type with
   | some s=>some ((f.offset,s,x) :: r)
   | none=>none
  | _,_,_=>none
def qhb:List (Nat×Operand)->Option (List (Nat×qB))
 | []=>some []
 | (i,x) :: rest=>
  match opd gl x,qhb rest with
  | some x,some r=>some ((i,x) :: r)
  | _,_=>none
def qfv:Option Operand->Option (Option qB)
 | none=>some none
 | some x=>(opd gl x).map some
def qfB (o:Oper):Option AOp:=
 match o.op with
 | .move x=>(opd gl x).map .mov
 | .assign x=>(opd gl x).map .asg
 | .pick c a b=>do pure (.pick (<-opd gl c) (<-opd gl a) (<-opd gl b))
 | .alloc e=>do pure (.new (<-qbO P e).cells)
 | .box e x=>do pure (.box (<-qfw P e) (<-opd gl x))
 | .build t ps=>do
  let z <-qbO P t
  match P.underlying t with
  | some (.struct fs)=>if fs.all λf=>(qfw P f.type).isSome then pure (.build z.cells (<-qjm P gl fs ps.toList)) else none
  | _=>none
 | .buildSlice t n ps=>do
  match P.underlying t with
  | some (.slice e)=>do
   let k <-qfw P e
   let z <-qbO P e
   if k = 0 then none else pure (.list k z.cells n (<-qhb gl ps.toList))
  | _=>none
 | .load t a=>do pure (.ld (<-tyk P t) (<-opd gl a))
 | .store t a x=>do
  let k <-tyk P t
  if qfw P t = some (k.getD 1) then pure (.st k (<-opd gl a) (<-opd gl x)) else none
 | .nilCheck x=>(opd gl x).map .nilc
 | .binOp op t x y _=>
  match opd gl x,opd gl y with
  | some ax,some ay=>
   if qDn op then
    match P.underlying t with
    | some .bool=>some (.eqb (qhh op) ax ay)
    | some (.int _) | some .string=>some (.bin op ax ay)
    | some (.pointer e)=>if (qfw P e).getD 0 = 0 then none else some (.eqi 0 (qhh op) ax ay)
    | some (.interface _)=>if isC x || isC y then some (.eqi 1 (qhh op) ax ay) else none
    | some (.func ..)=>some (.eqi 2 (qhh op) ax ay)
    | some (.map ..)=>some (.eqi 3 (qhh op) ax ay)
    | _=>none
   else some (.bin op ax ay)
  | _,_=>none
 | .unOp op _ x=>(opd gl x).map (.un op)
 | .convert s d x=>do
  let x <-opd gl x
  match P.underlying s,P.underlying d with
  | some (.int _),some (.int k)=>pure (.cvi k x)
  | _,_=>none
 | .makeInterface t x=>
  match P.underlying t with
  | some (.interface _) | none=>none
  | _=>(opd gl x).map (.mkI t)
 | .makeFunc (.func f) a b=>do pure (.mkF f (<-qvu gl a) (<-qvu gl b))
 | .slice t x lo hi none=>do
  match P.underlying t with
  | some .string=>pure (.subS (<-opd gl x) (<-qfv gl lo) (<-qfv gl hi))
  | _=>none
 | .fieldAddr s x i=>
  match P.underlying s with
  | some (.struct fs)=>match fs[i]? with
   | some f=>if (qfw P f.type).getD 0 = 0 then none else (opd gl x).map (.fa f.offset)
   | none=>none
  | _=>none
 | .field s x i=>do
  match P.underlying s with
  | some (.struct fs)=>match fs[i]? with
   | some f=>pure (.fld f.offset (<-tyk P f.type) (<-opd gl x))
   | none=>none
  | _=>none
 | .indexAddr t x i=>do
  match P.underlying t with
  | some (.slice e)=>pure (.ixaL (<-qfw P e) (<-opd gl x) (<-opd gl i))
  | some (.array n e)=>pure (.ixaA n (<-qfw P e) (<-opd gl x) (<-opd gl i))
  | _=>none
 | .index t x i=>do
  match P.underlying t with
  | some .string=>pure (.ixS (<-opd gl x) (<-opd gl i))
  | some (.array n e)=>do
   let k <-tyk P e
   if qfw P e = some (k.getD 1) then pure (.ixA n k (<-opd gl x) (<-opd gl i)) else none
  | _=>none
 | .typeAssert x _ t true=>do
  match P.underlying t with
  | some (.interface _) | none=>none
  | _=>pure (.tas t (<-qbO P t) (<-opd gl x))
 | .extract x i=>do pure (.ext (<-opd gl x) i)
 | .call c=>
  match c.callee with
  | .value f=>do pure (.call (<-opd gl f) (<-qvu gl c.args))
  | .invoke _ _=>none
  | .builtin b=>
   match b,c.args.toList,c.argTypes.toList with
   | .len,[x],[t]=>match P.underlying t with
    | some .string=>(opd gl x).map (.len true)
    | some (.slice _)=>(opd gl x).map (.len false)
    | some (.array n _)=>some (.mov (.c (.int .i64 n)))
    | _=>none
   | .append,[x,y],[t,u]=>match P.underlying t,P.underlying u with
    | some (.slice e),some u=>if qDo u = false then none else do
     let i <-P.info? e
     let z <-qbO P e
     if i.size = 0\/i.bytes > 65536\/z.cells.length ≠ i.size then none else pure (.app i.size (<-opd gl x) (<-opd gl y))
    | _,_=>none
   | .max,[x,y],_=>do pure (.mm true (<-opd gl x) (<-opd gl y))
   | .min,[x,y],_=>do pure (.mm false (<-opd gl x) (<-opd gl y))
   | _,_,_=>none
 | .panic x=>(opd gl x).map .pan
 | _=>none
def qI6 (t:TypeId):Bool:=(gl (1000000 + t)).isSome
def stands (t:TypeId) (a:Operand):Bool:=(gl (2000000 + t)).isSome && (match a with | .tmp i=>(gl (2100000 + i)).isSome | _=>false)
def qh6:Nat->TypeId->Nat->Option (List (Nat×SK))
 | 0,_,_=>none
 | d + 1,t,off=>
  match P.underlying t with
  | some .bool=>if P.cellsOf t = 1 then some [(off,.b)] else none
  | some (.int k)=>if P.cellsOf t = 1 then some [(off,.i k)] else none
  | some .string=>if P.cellsOf t = 1 then some [(off,.s)] else none
  | some (.struct fs)=>
   if fs.all (λf => f.name != "_" && decide (f.offset + P.cellsOf f.type <= P.cellsOf t)) then (fs.toList.mapM λf => qh6 d f.type (off + f.offset)).map List.flatten else none
  | _=>none
def deep:Nat:=8
def qcW (d:Option TypeDesc):Bool:=
 match d with
 | some (.struct _)=>true
 | _=>false
def qiu (t:TypeId):Option qei:=if P.keyTypeAt deep t && P.tiled deep t then (qh6 P deep t 0).map λls=>⟨qcW (P.underlying t),P.cellsOf t,ls⟩ else none
def qg4 (e:TypeId):Option (Nat×List qd):=
 match P.info? e,qbO P e with
 | some i,some z=>if i.size = 0\/i.bytes > 65536\/z.cells.length ≠ i.size then none else some (i.size,z.cells)
 | _,_=>none
def qJT (t:TypeId):Nat:=
 match P.underlying t with
 | some (.struct fs)=>match fs.toList with
  | [_,f]=>match P.underlying f.type with
   | some (.slice e)=>e
   | _=>0
  | _=>0
 | _=>0
def qFb (t:TypeId):Option Nat:=
 match gl (3000000 + t),P.info? t with
 | some [],some i=>match i.zero with
  | some (.agg a)=>match a.toList with
   | [.pointer none,.slice none 0 0]=>some (qJT P t)
   | _=>none
  | _=>none
 | _,_=>none
def qg0 (o:Oper):Option AOp:=
 match o.op with
 | .alloc t=>match qFb P gl t with
  | some e=>some (.hx (.bld t e) [])
  | none=>none
 | .makeSlice t l c=>do
  match P.underlying t with
  | some (.slice e)=>do
   let (k,z) <-qg4 P e
   pure (.hx (.mk k z) [<-opd gl l,<-opd gl c])
  | _=>none
 | .buildSlice t n ps=>
  if qI6 gl t && n != 0 then do
   match P.underlying t with
   | some (.slice e)=>do
    let (k,z) <-qg4 P e
    let qs <-qhb gl ps.toList
    pure (.hx (.lit k z n (qs.map (·.1))) (qs.map (·.2)))
   | _=>none
  else none
 | .binOp op t x y _=>
  if qDn op && qcW (P.underlying t) && !(P.eqGuardType P.depth t) then do pure (.eqs (<-qiu P t) (qhh op) (<-opd gl x) (<-opd gl y)) else none
 | .load t a=>if stands gl t a then do pure (.hx (.ldz (<-tyk P t)) [<-opd gl a]) else none
 | .call c=>
  match c.callee with
  | .builtin b=>
   match b,c.args.toList,c.argTypes.toList with
   | .append,[x,y],[t,u]=>
    if qI6 gl t then
     match P.underlying t,P.underlying u with
     | some (.slice e),some u=>if qDo u = false then none else do
      let (k,_) <-qg4 P e
      pure (.hx (.app k) [<-opd gl x,<-opd gl y])
     | _,_=>none
    else none
   | _,_,_=>none
  | _=>none
 | _=>none
def qcC (o:Oper):Option AOp:=
 match qg0 P gl o with
 | some x=>some x
 | none=>qfB P gl o
def qcj (ops:Array Oper) (o:Oper):Option qam:=do
 let op <-qcC P gl o
 match o.guard with
 | none=>pure ⟨o.dst,op,none⟩
 | some (j,b)=>do
  let d <-(ops[j]?).bind (·.dst)
  pure ⟨o.dst,op,some (d,b)⟩
def qf2 (o:Oper):List Nat:=(o.after.toList.filter (Region.binds .any)).map (·.on)
def qw0 (cl:List Nat) (es:List Nat):Nat:=es.foldl (λm e=>m ||| 1 <<< e ||| cl.getD e 0) 0
def qrq (ess:List (List Nat)):List Nat:=ess.foldl (λacc es=>acc ++ [qw0 acc es]) []
def qA9 (quiet:Bool) (done:Nat):Nat->List Nat->List Bool->Option Nat
 | i,c :: cs,e :: es=>if !done.testBit i && (c ||| done) == done && (!quiet || !e) then some i else qA9 quiet done (i + 1) cs es
 | _,_,_=>none
def qI2 (cl:List Nat) (effs:List Bool):Nat->Nat->List Nat
 | 0,_=>[]
 | f + 1,done=>
  match (qA9 true done 0 cl effs).orElse λ_=>qA9 false done 0 cl effs with
  | some i=>i :: qI2 cl effs f (done ||| 1 <<< i)
  | none=>[]
def qeg (a b:qR):Bool:=
 a.ix != b.ix &&
 (b.cl.testBit a.ix ||
  (!a.o.op.effs && (match a.o.dst with | some d=>!b.o.looks.contains d | none=>true))) &&
 (match b.o.dst with
  | some d=>(b.o.op.effs && b.cl.testBit a.ix) || (!a.o.looks.contains d && a.o.dst != some d)
  | none=>true)
def qo4 (x:Nat×Nat) (a b:qR):Bool:=
 a.ix != b.ix && (a.o.op.effs && b.o.op.effs && ((x.1 == a.ix && x.2 == b.ix) || (x.1 == b.ix && x.2 == a.ix)))
def qis (a:qR):Bool:=
 a.o.op.effs || (match a.o.dst with | some d=>!a.o.looks.contains d | none=>true)
def qhj (x:Nat×Nat) (ess:List (List Nat)):List qR->List qR->Bool
 | _,[]=>true
 | pre,d :: ds=>(ess.getD d.ix []).all (λe=>pre.any (·.ix == e)) && pre.all (λa=>qeg a d || qo4 x a d) && qis d && qhj x ess (d :: pre) ds
def qt1 (as:List qam) (cl:List Nat) (ord:List Nat):List qR:=
 ord.filterMap λi=>(as[i]?).map λa=>⟨a,i,cl.getD i 0⟩
def qhm (ops:Array Oper):Option (List qR):=do
 let as <-ops.toList.mapM (qcj P gl ops)
 let ess:=ops.toList.map qf2
 let cl:=qrq ess
 let ds:=qt1 as cl (qI2 cl (as.map (·.op.effs)) as.length 0)
 if (List.range ops.size).all (λi=>ds.any (·.ix == i)) && ds.all (λd=>d.cl == qw0 cl (ess.getD d.ix [])) && qhj (0,0) ess [] ds then pure ds else none
def comp:Code->Option qF
 | .skip=>some .skip
 | .region _ ops false=>(ops.toList.mapM (qcj P gl ops)).map .reg
 | .region _ ops true=>match qhm P gl ops with
  | some ds=>some (.draw ds)
  | none=>none
 | .seq a b=>match comp a,comp b with
  | some x,some y=>some (.seq x y)
  | _,_=>none
 | .cond c a b=>match opd gl c,comp a,comp b with
  | some z,some x,some y=>some (.cond z x y)
  | _,_,_=>none
 | .block id b=>(comp b).map (.block id)
 | .loop b=>(comp b).map .loop
 | .rangeFunc f ps a b=>match opd gl f,comp a,comp b with
  | some z,some x,some y=>some (.rfun z ps.toList x y)
  | _,_,_=>none
 | .exit id=>some (.exit id)
 | .ret=>some .ret
 | _=>none
def qfC:ResultVar->Option qnf
 | .tmp t=>some (.tmp t)
 | .cell a t=>(tyk P t).map (.cell a)
def qh (f:Func):Option qt:=
 match f.body with
 | none=>none
 | some c=>match comp P gl c,f.results.toList.mapM (qfC P) with
  | some code,some rs=>some ⟨f.ntmps,rs,code⟩
  | _,_=>none
end
inductive Loc where
 | tmp (i:Nat)
 | cell (id off:Nat)
 deriving DecidableEq,Inhabited
structure qi where
 γ:Nat->Option Nat
 imm:Nat->Nat->Option Value
 ow:Nat->Option Loc
def mark:Value:=.float .f64 (2 ^ 99)
open Classical in
noncomputable def qmf (v:Option Value):Option Value:=if v = some mark then none else v
theorem qbj {o:Option Value} {v:Value}:qmf o = some v↔o = some v/\v ≠ mark:=by
 unfold qmf
 split
 ·rename_i h
  subst h
  simp
  exact λe=>e.symm
 ·rename_i h
  exact ⟨λe=>⟨e,λe'=>h (e'▸e)⟩,λe=>e.1⟩
mutual
def qC (γ:Nat->Option Nat) (imm:Nat->Nat->Option Value):qd->Value->Prop
 | .undef,v=>v ≠ mark
 | .bool b,v=>v = .bool b
 | .int k n,v=>v = .int k n
 | .str s,v=>∃b:ByteArray,v = .string b/\b.data.toList = s
 | .nilptr,v=>v = .pointer none
 | .ptr i o,v=>∃b,γ i = some b/\v = .pointer (some ⟨b,o,none⟩)
 | .iptr cs o,v=>∃b p,v = .pointer (some ⟨b,p + o,none⟩)/\qaw γ imm cs b p
 | .lst xs f,v=>∃a len cap,v = .slice a len cap/\len = xs.length/\len <= cap/\(f = .full->cap = len)/\(a = none->cap = 0)/\(∃k,∀x ∈ xs,x.cells.length = k)/\
   (xs = []\/∃b p,a = some ⟨b,p,none⟩/\qQ γ imm xs b p)
 | .nilfunc,v=>v = .nilFunc
 | .fn f as bs,v=>∃x y:Array Value,v = .func (.func f) x y/\qp γ imm as x.toList/\qp γ imm bs y.toList
 | .yld i,v=>∃b,γ i = some b/\v = .func (.yield b) #[] #[]
 | .niliface,v=>v = .nilIface
 | .iface t a,v=>∃x,v = .iface t x/\qC γ imm a x
 | .agg cs,v=>∃x:Array Value,v = .agg x/\qp γ imm cs x.toList
 | .tup cs,v=>∃x:Array Value,v = .tuple x/\qp γ imm cs x.toList
 | .sl i o len cap more,v=>∃b c,γ i = some b/\v = .slice (some ⟨b,o,none⟩) len c/\len <= cap/\cap <= c/\(more = 0->c = cap)/\(more ≠ 0->imm b (o + c * more) = some mark)
 | .mp i,v=>∃b,γ i = some b/\v = .map (some b)
 | .nilmap,v=>v = .map none
 | .nils,v=>v = .slice none 0 0
 | .empt,v=>∃b,v = .slice (some b) 0 0
def qp (γ:Nat->Option Nat) (imm:Nat->Nat->Option Value):List qd->List Value->Prop
 | [],vs=>vs = []
 | a :: as,vs=>∃v rest,vs = v :: rest/\qC γ imm a v/\qp γ imm as rest
def qaw (γ:Nat->Option Nat) (imm:Nat->Nat->Option Value):List qd->Nat->Nat->Prop
 | [],_,_=>True
 | c :: cs,b,p=>(∃v,imm b p = some v/\qC γ imm c v)/\qaw γ imm cs b (p + 1)
def qQ (γ:Nat->Option Nat) (imm:Nat->Nat->Option Value):List qd->Nat->Nat->Prop
 | [],_,_=>True
 | .agg cs :: xs,b,p=>qaw γ imm cs b p/\qQ γ imm xs b (p + cs.length)
 | x :: xs,b,p=>(∃v,imm b p = some v/\qC γ imm x v)/\qQ γ imm xs b (p + 1)
end
theorem qd2 {γ:Nat->Option Nat} {imm:Nat->Nat->Option Value} {x:qd} {v:Value} (h:qC γ imm x v):v ≠ mark:=by
 rintro rfl
 cases x <;> simp only [qC,mark] at h <;> first
  | exact h rfl
  | (cases h;done)
  | (obtain ⟨_,h⟩:=h;cases h;done)
  | (obtain ⟨_,h,_⟩:=h;cases h;done)
  | (obtain ⟨_,_,h⟩:=h;cases h;done)
  | (obtain ⟨_,_,h,_⟩:=h;cases h;done)
  | (obtain ⟨_,_,_,h,_⟩:=h;cases h;done)
theorem qvc {γ:Nat->Option Nat} {imm:Nat->Nat->Option Value} {x:qd} {v:Value} (h:qC γ imm x v):qC γ imm .undef v:=by
 simpa only [qC] using qd2 h
abbrev qi.V (G:qi):qd->Value->Prop:=qC G.γ G.imm
abbrev qi.VL (G:qi):List qd->List Value->Prop:=qp G.γ G.imm
section
variable {γ:Nat->Option Nat} {imm:Nat->Nat->Option Value}
theorem qp.length:∀{as:List qd} {vs:List Value},qp γ imm as vs->as.length = vs.length
 | [],_,h=>by simp only [qp] at h;simp [h]
 | a :: as,vs,h=>by
  simp only [qp] at h
  obtain ⟨v,rest,rfl,_,hr⟩:=h
  simp [qp.length hr]
theorem qp.get:∀{as:List qd} {vs:List Value} {i:Nat} {a:qd},qp γ imm as vs->as[i]? = some a->∃v,vs[i]? = some v/\qC γ imm a v
 | [],_,i,a,_,h=>by simp at h
 | x :: as,vs,i,a,h,ha=>by
  simp only [qp] at h
  obtain ⟨v,rest,rfl,hv,hr⟩:=h
  cases i with
  | zero=>simp at ha;subst ha;exact ⟨v,rfl,hv⟩
  | succ i=>simp at ha;simpa using qp.get hr ha
theorem qp.get' {as:List qd} {vs:List Value} {i:Nat} {v:Value} (h:qp γ imm as vs) (hv:vs[i]? = some v):∃a,as[i]? = some a/\qC γ imm a v:=by
 have hl:=h.length
 have hi:i < as.length:=by rw [hl];exact (jd.1 hv).1
 obtain ⟨w,hw,hr⟩:=h.get (jh hi)
 rw [hv] at hw;cases hw
 exact ⟨_,jh hi,hr⟩
theorem qp.append:∀{as:List qd} {vs:List Value} {bs:List qd} {ws:List Value},qp γ imm as vs->qp γ imm bs ws->qp γ imm (as ++ bs) (vs ++ ws)
 | [],_,_,_,h,k=>by simp only [qp] at h;subst h;simpa using k
 | a :: as,vs,_,_,h,k=>by
  simp only [qp] at h
  obtain ⟨v,rest,rfl,hv,hr⟩:=h
  simp only [jw,qp]
  exact ⟨v,_,rfl,hv,qp.append hr k⟩
theorem qp.take:∀{as:List qd} {vs:List Value} (n:Nat),qp γ imm as vs->qp γ imm (as.take n) (vs.take n)
 | [],_,n,h=>by simp only [qp] at h;subst h;simp [qp]
 | a :: as,vs,0,h=>by simp [qp]
 | a :: as,vs,n + 1,h=>by
  simp only [qp] at h
  obtain ⟨v,rest,rfl,hv,hr⟩:=h
  simp only [List.take_succ_cons,qp]
  exact ⟨v,_,rfl,hv,qp.take n hr⟩
theorem qp.drop:∀{as:List qd} {vs:List Value} (n:Nat),qp γ imm as vs->qp γ imm (as.drop n) (vs.drop n)
 | [],_,n,h=>by simp only [qp] at h;subst h;simp [qp]
 | a :: as,vs,0,h=>by simpa using h
 | a :: as,vs,n + 1,h=>by
  simp only [qp] at h
  obtain ⟨v,rest,rfl,hv,hr⟩:=h
  simpa using qp.drop n hr
theorem qp.set:∀{as:List qd} {vs:List Value} {a:qd} {v:Value} (i:Nat),qp γ imm as vs->qC γ imm a v->qp γ imm (as.set i a) (vs.set i v)
 | [],_,_,_,i,h,_=>by simp only [qp] at h;subst h;simp [qp]
 | x :: as,vs,a,v,0,h,k=>by
  simp only [qp] at h
  obtain ⟨v',rest,rfl,hv,hr⟩:=h
  simp only [List.set_cons_zero,qp]
  exact ⟨v,rest,rfl,k,hr⟩
 | x :: as,vs,a,v,i + 1,h,k=>by
  simp only [qp] at h
  obtain ⟨v',rest,rfl,hv,hr⟩:=h
  simp only [List.set_cons_succ,qp]
  exact ⟨v',_,rfl,hv,qp.set i hr k⟩
theorem qp.of_get {as:List qd} {vs:List Value} (hl:as.length = vs.length) (h:∀(i:Nat) (a:qd) (v:Value),as[i]? = some a->vs[i]? = some v->qC γ imm a v):qp γ imm as vs:=by
 induction as generalizing vs with
 | nil=>cases vs with
  | nil=>simp [qp]
  | cons v vs=>simp at hl
 | cons a as ih=>cases vs with
  | nil=>simp at hl
  | cons v vs=>
   simp only [qp]
   exact ⟨v,vs,rfl,h 0 a v rfl rfl,ih (by simpa using hl) λi x y hx hy=>h (i + 1) x y (by simpa using hx) (by simpa using hy)⟩
theorem qp.replicate (n:Nat) {a:qd} {v:Value} (h:qC γ imm a v):qp γ imm (List.replicate n a) (List.replicate n v):=by
 induction n with
 | zero=>simp [qp]
 | succ n ih=>simp only [List.replicate_succ,qp];exact ⟨v,_,rfl,h,ih⟩
theorem qcx {a:qd} {v:Value} (h:qC γ imm a v):qC γ imm a.dim v:=by
 cases a <;> try exact h
 rename_i xs f
 cases f <;> try exact h
 simp only [qd.dim,qC] at h ⊢
 obtain ⟨a,len,cap,rfl,h1,h2,_,h4,h6,h5⟩:=h
 exact ⟨a,len,cap,rfl,h1,h2,by simp,h4,h6,h5⟩
theorem qls {xs:List qd} {f:qgV} {v:Value} (h:qC γ imm (.lst xs f) v):qC γ imm (.lst xs .no) v:=by
 simp only [qC] at h ⊢
 obtain ⟨a,len,cap,rfl,h1,h2,_,h4,h6,h5⟩:=h
 exact ⟨a,len,cap,rfl,h1,h2,by simp,h4,h6,h5⟩
theorem qp.dims:∀{as:List qd} {vs:List Value},qp γ imm as vs->qp γ imm (as.map qd.dim) vs
 | [],_,h=>h
 | a :: as,vs,h=>by
  simp only [qp] at h
  obtain ⟨v,rest,rfl,hv,hr⟩:=h
  simp only [List.map_cons,qp]
  exact ⟨v,rest,rfl,qcx hv,qp.dims hr⟩
theorem qaw.get:∀{cs:List qd} {b p i:Nat} {c:qd},qaw γ imm cs b p->cs[i]? = some c->∃v,imm b (p + i) = some v/\qC γ imm c v
 | [],_,_,i,c,_,h=>by simp at h
 | x :: cs,b,p,i,c,h,hc=>by
  simp only [qaw] at h
  cases i with
  | zero=>simp at hc;subst hc;simpa using h.1
  | succ i=>
   simp at hc
   have:=qaw.get h.2 hc
   rwa [jt,ju 1 i] at this
theorem qaw.of_get {cs:List qd} {b p:Nat} (h:∀(i:Nat) (c:qd),cs[i]? = some c->∃v,imm b (p + i) = some v/\qC γ imm c v):qaw γ imm cs b p:=by
 induction cs generalizing p with
 | nil=>simp [qaw]
 | cons c cs ih=>
  simp only [qaw]
  refine ⟨by simpa using h 0 c rfl,ih λi x hx=>?_⟩
  have:=h (i + 1) x (by simpa using hx)
  rwa [ju i 1,<-jt] at this
theorem qQ.cons {x:qd} {xs:List qd} {b p:Nat} (h:qaw γ imm x.cells b p) (hs:qQ γ imm xs b (p + x.cells.length)):qQ γ imm (x :: xs) b p:=by
 cases x <;> simp only [qd.cells,qaw,jy,jz] at h hs <;> simp only [qQ] <;> first | exact ⟨h,hs⟩ | exact ⟨h.1,hs⟩
theorem qQ.uncons {x:qd} {xs:List qd} {b p:Nat} (h:qQ γ imm (x :: xs) b p):qaw γ imm x.cells b p/\qQ γ imm xs b (p + x.cells.length):=by
 cases x <;> simp only [qQ] at h <;> simp only [qd.cells,qaw,jy,jz] <;> first | exact h | exact ⟨⟨h.1,trivial⟩,h.2⟩
theorem qQ.append {xs ys:List qd} {b p k:Nat} (hk:∀x ∈ xs,x.cells.length = k) (h:qQ γ imm xs b p) (h':qQ γ imm ys b (p + xs.length * k)):qQ γ imm (xs ++ ys) b p:=by
 induction xs generalizing p with
 | nil=>simpa using h'
 | cons x xs ih=>
  obtain ⟨h1,h2⟩:=h.uncons
  rw [hk x (by simp)] at h2
  refine qQ.cons h1 ?_
  rw [hk x (by simp)]
  refine ih (λy hy=>hk y (by simp [hy])) h2 ?_
  simp only [jy,Nat.add_mul,Nat.one_mul] at h'
  rwa [jt,ju k]
theorem qQ.get {xs:List qd} {b p k i:Nat} {x:qd} (hk:∀x ∈ xs,x.cells.length = k) (h:qQ γ imm xs b p) (hx:xs[i]? = some x):qaw γ imm x.cells b (p + i * k):=by
 induction xs generalizing p i with
 | nil=>simp at hx
 | cons y xs ih=>
  obtain ⟨h1,h2⟩:=h.uncons
  cases i with
  | zero=>simp at hx;subst hx;simpa using h1
  | succ i=>
   simp at hx
   rw [hk y (by simp)] at h2
   have:=ih (λz hz=>hk z (by simp [hz])) h2 hx
   rwa [Nat.add_mul,Nat.one_mul,ju (i * k),<-jt]
theorem qQ.drop {xs:List qd} {b p k:Nat} (hk:∀x ∈ xs,x.cells.length = k) (h:qQ γ imm xs b p) (l:Nat) (hl:l <= xs.length):qQ γ imm (xs.drop l) b (p + l * k):=by
 induction xs generalizing p l with
 | nil=>simp [qQ]
 | cons y xs ih=>
  obtain ⟨h1,h2⟩:=h.uncons
  cases l with
  | zero=>simpa using h
  | succ l=>
   rw [hk y (by simp)] at h2
   have:=ih (λz hz=>hk z (by simp [hz])) h2 l (by simpa using hl)
   simp only [List.drop_succ_cons]
   rwa [Nat.add_mul,Nat.one_mul,ju (l * k),<-jt]
theorem qQ.take {xs:List qd} {b p:Nat} (h:qQ γ imm xs b p) (l:Nat):qQ γ imm (xs.take l) b p:=by
 induction xs generalizing p l with
 | nil=>simp [qQ]
 | cons y xs ih=>
  cases l with
  | zero=>simp [qQ]
  | succ l=>
   obtain ⟨h1,h2⟩:=h.uncons
   exact qQ.cons h1 (ih h2 l)
end
mutual
theorem qcf {n m:Nat} (E:n <= m):∀(a:qd),a.lower n = true->a.lower m = true
 | .undef,_=>rfl
 | .bool _,_=>rfl
 | .int _ _,_=>rfl
 | .str _,_=>rfl
 | .nilptr,_=>rfl
 | .ptr i o,h=>by simp only [qd.lower,Nat.blt_eq] at h ⊢;omega
 | .iptr cs o,h=>by simp only [qd.lower] at h ⊢;exact qaP E cs h
 | .lst xs f,h=>by simp only [qd.lower] at h ⊢;exact qaP E xs h
 | .nilfunc,_=>rfl
 | .fn f as bs,h=>by simp only [qd.lower,jk] at h ⊢;exact ⟨qaP E as h.1,qaP E bs h.2⟩
 | .yld i,h=>by simp only [qd.lower,Nat.blt_eq] at h ⊢;omega
 | .niliface,_=>rfl
 | .iface t a,h=>by simp only [qd.lower] at h ⊢;exact qcf E a h
 | .agg cs,h=>by simp only [qd.lower] at h ⊢;exact qaP E cs h
 | .tup cs,h=>by simp only [qd.lower] at h ⊢;exact qaP E cs h
 | .sl i _ _ _ _,h=>by simp only [qd.lower,Nat.blt_eq] at h ⊢;omega
 | .mp i,h=>by simp only [qd.lower,Nat.blt_eq] at h ⊢;omega
 | .nilmap,_=>rfl
 | .nils,_=>rfl
 | .empt,_=>rfl
theorem qaP {n m:Nat} (E:n <= m):∀(as:List qd),qw n as = true->qw m as = true
 | [],_=>rfl
 | a :: as,h=>by simp only [qw,jk] at h ⊢;exact ⟨qcf E a h.1,qaP E as h.2⟩
end
mutual
theorem lower_ex:∀(a:qd),∃n,a.lower n = true
 | .undef=>⟨0,rfl⟩
 | .bool _=>⟨0,rfl⟩
 | .int _ _=>⟨0,rfl⟩
 | .str _=>⟨0,rfl⟩
 | .nilptr=>⟨0,rfl⟩
 | .ptr i o=>⟨i + 1,by simp [qd.lower]⟩
 | .iptr cs o=>by obtain ⟨n,h⟩:=qas cs;exact ⟨n,by simpa [qd.lower] using h⟩
 | .lst xs f=>by obtain ⟨n,h⟩:=qas xs;exact ⟨n,by simpa [qd.lower] using h⟩
 | .nilfunc=>⟨0,rfl⟩
 | .fn f as bs=>by
  obtain ⟨n,h⟩:=qas as
  obtain ⟨m,k⟩:=qas bs
  exact ⟨max n m,by simp only [qd.lower,jk];exact ⟨qaP zo as h,qaP zo bs k⟩⟩
 | .yld i=>⟨i + 1,by simp [qd.lower]⟩
 | .niliface=>⟨0,rfl⟩
 | .iface t a=>by obtain ⟨n,h⟩:=lower_ex a;exact ⟨n,by simpa [qd.lower] using h⟩
 | .agg cs=>by obtain ⟨n,h⟩:=qas cs;exact ⟨n,by simpa [qd.lower] using h⟩
 | .tup cs=>by obtain ⟨n,h⟩:=qas cs;exact ⟨n,by simpa [qd.lower] using h⟩
 | .sl i _ _ _ _=>⟨i + 1,by simp [qd.lower]⟩
 | .mp i=>⟨i + 1,by simp [qd.lower]⟩
 | .nilmap=>⟨0,rfl⟩
 | .nils=>⟨0,rfl⟩
 | .empt=>⟨0,rfl⟩
theorem qas:∀(as:List qd),∃n,qw n as = true
 | []=>⟨0,rfl⟩
 | a :: as=>by
  obtain ⟨n,h⟩:=lower_ex a
  obtain ⟨m,k⟩:=qas as
  exact ⟨max n m,by simp only [qw,jk];exact ⟨qcf zo a h,qaP zo as k⟩⟩
end
mutual
theorem qC.mono {γ Y:Nat->Option Nat} {imm I:Nat->Nat->Option Value} (hi:∀b o v,imm b o = some v->I b o = some v) (n:Nat) (E:∀i b,i < n->γ i = some b->Y i = some b) :
  ∀(a:qd) (v:Value),a.lower n = true->qC γ imm a v->qC Y I a v
 | .undef,v,_,h=>by simpa [qC] using h
 | .bool b,v,_,h=>by simpa [qC] using h
 | .int k m,v,_,h=>by simpa [qC] using h
 | .str s,v,_,h=>by simpa [qC] using h
 | .nilptr,v,_,h=>by simpa [qC] using h
 | .ptr i o,v,hl,h=>by
  simp only [qd.lower,Nat.blt_eq] at hl
  simp only [qC] at h ⊢
  obtain ⟨b,hb,rfl⟩:=h
  exact ⟨b,E i b hl hb,rfl⟩
 | .iptr cs o,v,hl,h=>by
  simp only [qd.lower] at hl
  simp only [qC] at h ⊢
  obtain ⟨b,p,rfl,hc⟩:=h
  exact ⟨b,p,rfl,qaw.mono hi n E cs b p hl hc⟩
 | .lst xs f,v,hl,h=>by
  simp only [qd.lower] at hl
  simp only [qC] at h ⊢
  obtain ⟨a,len,cap,rfl,h1,h2,h3,h4,h6,h5⟩:=h
  refine ⟨a,len,cap,rfl,h1,h2,h3,h4,h6,?_⟩
  rcases h5 with h5 | ⟨b,p,rfl,he⟩
  ·exact .inl h5
  ·exact .inr ⟨b,p,rfl,qQ.mono hi n E xs b p hl he⟩
 | .nilfunc,v,_,h=>by simpa [qC] using h
 | .fn f as bs,v,hl,h=>by
  simp only [qd.lower,jk] at hl
  simp only [qC] at h ⊢
  obtain ⟨x,y,rfl,h1,h2⟩:=h
  exact ⟨x,y,rfl,qp.mono hi n E as _ hl.1 h1,qp.mono hi n E bs _ hl.2 h2⟩
 | .yld i,v,hl,h=>by
  simp only [qd.lower,Nat.blt_eq] at hl
  simp only [qC] at h ⊢
  obtain ⟨b,hb,rfl⟩:=h
  exact ⟨b,E i b hl hb,rfl⟩
 | .niliface,v,_,h=>by simpa [qC] using h
 | .iface t a,v,hl,h=>by
  simp only [qd.lower] at hl
  simp only [qC] at h ⊢
  obtain ⟨x,rfl,h1⟩:=h
  exact ⟨x,rfl,qC.mono hi n E a x hl h1⟩
 | .agg cs,v,hl,h=>by
  simp only [qd.lower] at hl
  simp only [qC] at h ⊢
  obtain ⟨x,rfl,h1⟩:=h
  exact ⟨x,rfl,qp.mono hi n E cs _ hl h1⟩
 | .tup cs,v,hl,h=>by
  simp only [qd.lower] at hl
  simp only [qC] at h ⊢
  obtain ⟨x,rfl,h1⟩:=h
  exact ⟨x,rfl,qp.mono hi n E cs _ hl h1⟩
 | .sl i o len cap more,v,hl,h=>by
  simp only [qd.lower,Nat.blt_eq] at hl
  simp only [qC] at h ⊢
  obtain ⟨b,c,hb,h1,h2,h3,h4,h5⟩:=h
  exact ⟨b,c,E i b hl hb,h1,h2,h3,h4,λhm=>hi _ _ _ (h5 hm)⟩
 | .mp i,v,hl,h=>by
  simp only [qd.lower,Nat.blt_eq] at hl
  simp only [qC] at h ⊢
  obtain ⟨b,hb,rfl⟩:=h
  exact ⟨b,E i b hl hb,rfl⟩
 | .nilmap,v,_,h=>by simpa [qC] using h
 | .nils,v,_,h=>by simpa [qC] using h
 | .empt,v,_,h=>by simpa [qC] using h
theorem qp.mono {γ I:Nat->Option Nat} {imm E:Nat->Nat->Option Value} (hi:∀b o v,imm b o = some v->E b o = some v) (n:Nat) (Y:∀i b,i < n->γ i = some b->I i = some b) :
  ∀(as:List qd) (vs:List Value),qw n as = true->qp γ imm as vs->qp I E as vs
 | [],vs,_,h=>by simpa [qp] using h
 | a :: as,vs,hl,h=>by
  simp only [qw,jk] at hl
  simp only [qp] at h ⊢
  obtain ⟨v,rest,rfl,h1,h2⟩:=h
  exact ⟨v,rest,rfl,qC.mono hi n Y a v hl.1 h1,qp.mono hi n Y as rest hl.2 h2⟩
theorem qaw.mono {γ I:Nat->Option Nat} {imm E:Nat->Nat->Option Value} (hi:∀b o v,imm b o = some v->E b o = some v) (n:Nat) (Y:∀i b,i < n->γ i = some b->I i = some b) :
  ∀(cs:List qd) (b p:Nat),qw n cs = true->qaw γ imm cs b p->qaw I E cs b p
 | [],_,_,_,_=>by simp [qaw]
 | c :: cs,b,p,hl,h=>by
  simp only [qw,jk] at hl
  simp only [qaw] at h ⊢
  obtain ⟨⟨v,h1,h2⟩,h3⟩:=h
  exact ⟨⟨v,hi _ _ _ h1,qC.mono hi n Y c v hl.1 h2⟩,qaw.mono hi n Y cs b (p + 1) hl.2 h3⟩
theorem qQ.mono {γ Y:Nat->Option Nat} {imm E:Nat->Nat->Option Value} (hi:∀b o v,imm b o = some v->E b o = some v) (n:Nat) (I:∀i b,i < n->γ i = some b->Y i = some b) :
  ∀(xs:List qd) (b p:Nat),qw n xs = true->qQ γ imm xs b p->qQ Y E xs b p
 | [],_,_,_,_=>by simp [qQ]
 | x :: xs,b,p,hl,h=>by
  simp only [qw,jk] at hl
  obtain ⟨hx,a1⟩:=h.uncons
  refine qQ.cons ?_ (qQ.mono hi n I xs b _ hl.2 a1)
  cases x with
  | agg cs=>simp only [qd.cells] at hx ⊢;simp only [qd.lower] at hl;exact qaw.mono hi n I cs b p hl.1 hx
  | _=>
   simp only [qd.cells,qaw] at hx ⊢
   obtain ⟨⟨v,h1,h2⟩,_⟩:=hx
   exact ⟨⟨v,hi _ _ _ h1,qC.mono hi n I _ v hl.1 h2⟩,trivial⟩
end
def qvD (G:qi) (w:World) (ℓ:Loc) (k:Nat) (v:Value):Prop:=
 ∃b p len cap c e,v = .slice (some ⟨b,p,none⟩) len cap/\G.ow b = some ℓ/\w.heap[b]? = some (.cells c e (0,0))/\len <= cap/\p + cap * k <= c.size/\
  ∀j,p + len * k <= j->G.imm b j = none
def qqy (G:qi) (w:World) (id b:Nat) (T e:TypeId) (s:List UInt8):Prop:=
 ∃p v,w.heap[b]? = some (.cells #[p,v] T (0,0))/\(p = .pointer none\/p = .pointer (some ⟨b,0,none⟩))/\w.ownsRowF 0 e 1 v s.length (Lib.byteCells s)/\∀g,v.ownBlock = some g->G.ow g = some (.cell id 1)/\∀j,G.imm g j = none
theorem qqy.keep {G G':qi} {w w':World} {id b:Nat} {T e:TypeId} {s:List UInt8} (h:qqy G w id b T e s) (hb:w'.heap[b]? = w.heap[b]?) (E:∀x,G.ow x = some (.cell id 1)->G'.ow x = some (.cell id 1)) (hh:∀x,G.ow x = some (.cell id 1)->w'.heap[x]? = w.heap[x]?)
  (hi:∀x j,G.ow x = some (.cell id 1)->G.imm x j = none->G'.imm x j = none):qqy G' w' id b T e s:=by
 obtain ⟨p,v,h1,h2,h3,h4⟩:=h
 refine ⟨p,v,hb.trans h1,h2,⟨h3.1,?_⟩,λg hg=>⟨E g (h4 g hg).1,λj=>hi g j (h4 g hg).1 ((h4 g hg).2 j)⟩⟩
 rcases h3.2 with h5 | ⟨g,cap,cur,fz,rfl,h5,h6,h7⟩
 ·exact .inl h5
 ·exact .inr ⟨g,cap,cur,fz,rfl,h5,(hh g (h4 g rfl).1).trans h6,h7⟩
def qnb:LSt->LoopState->Prop
 | .ready,.ready | .busy,.busy | .done,.done | .exhausted,.exhausted=>True
 | _,_=>False
def qmW:Option qvz->Option Code->Prop
 | none,none=>True
 | some .ret,some .ret=>True
 | some (.exit i),some (.exit j)=>i = j
 | _,_=>False
section
variable (P:Program) (gl:Nat->Option (List qd))
structure qhC (G:qi) (t:List qd) (ps:List Nat) (asg body:qF) (st:LSt) (pend:Option qvz) (L:Loop):Prop where
 tmps:G.VL t L.tmps.toList
 dims:∀a ∈ t,a.dim = a
 ps:L.params.toList = ps
 asg:comp P gl L.assign = some asg
 body:comp P gl L.body = some body
 st:qnb st L.state
 pend:qmW pend L.pending
def qah (G:qi):List (Nat×qd×qd)->List MapEntry->Prop
 | [],es=>es = []
 | x :: xs,es=>∃e rest,es = e :: rest/\e.born = x.1/\G.V x.2.1 e.key/\G.V x.2.2 e.val/\qah G xs rest
def qgU (G:qi) (w:World) (id:Nat) (bx:qj) (b:Nat):Prop:=
 match bx with
 | .cells cs=>∃c e,w.heap[b]? = some (.cells c e (0,0))/\G.VL cs (c.toList.take cs.length)/\
   ∀(o:Nat) (xs:List qd) (k:Nat) (v:Value),cs[o]? = some (.lst xs (.own k))->c[o]? = some v->qvD G w (.cell id o) k v
 | .loop t ps asg body st pend=>∃L,w.heap[b]? = some (.loop L)/\qhC P gl G t ps asg body st pend L
 | .map es clock=>∃me:Array MapEntry,w.heap[b]? = some (.map me clock)/\qah G es me.toList
 | .iter m since seen last=>∃mm,w.heap[b]? = some (.mapIter mm since seen.toArray last)/\G.V m (.map mm)
 | .bld t e s=>qqy G w id b t e s
 | .dead=>True
def qeb (γ:Nat->Option Nat) (imm:Nat->Nat->Option Value) (cs:List qd) (g:Nat):Prop:=qaw γ imm cs g 0/\(0 < cs.length->imm g cs.length = some mark)
theorem qeb.mono {γ I:Nat->Option Nat} {imm E:Nat->Nat->Option Value} (hi:∀b o v,imm b o = some v->E b o = some v) (cs:List qd) (g:Nat) (hl:qw 0 cs = true) (h:qeb γ imm cs g):qeb I E cs g:=
 ⟨qaw.mono hi 0 (λi _ hi=>absurd hi (Nat.not_lt_zero _)) cs g 0 hl h.1,λh0=>hi _ _ _ (h.2 h0)⟩
structure Rel (G:qi) (h:List qj) (w:World):Prop where
 γlt:∀i b,G.γ i = some b->i < h.length/\b < w.heap.size
 inj:∀i j b,G.γ i = some b->G.γ j = some b->i = j\/h[i]? = some .dead\/h[j]? = some .dead
 box:∀i b bx,G.γ i = some b->h[i]? = some bx->qgU P gl G w i bx b
 imm:∀b o v,G.imm b o = some v->v ≠ mark->w.cell? ⟨b,o,none⟩ = some v/\b < w.heap.size
 immγ:∀b o v i,G.imm b o = some v->v ≠ mark->G.γ i = some b->h[i]? = some .dead
 immK:∀b o,G.imm b o = some mark->0 < o/\∃c e,w.heap[b]? = some (.cells c e (0,0))/\o = c.size
 ow:∀b ℓ,G.ow b = some ℓ->b < w.heap.size/\∀i,G.γ i ≠ some b
 glob:∀g cs,gl g = some cs->qeb G.γ G.imm cs g/\qw 0 cs = true
structure qaJ (G:qi) (w:World) (t:List qd) (ts:Array Value):Prop where
 rel:G.VL t ts.toList
 own:∀(i:Nat) (xs:List qd) (k:Nat) (v:Value),t[i]? = some (.lst xs (.own k))->ts[i]? = some v->qvD G w (.tmp i) k v
end
def qdn (G:qi) (b:Nat):Prop:=(∀i,G.γ i ≠ some b)/\G.ow b = none
structure Ext (n:Nat) (G:qi) (w:World) (G':qi) (w':World):Prop where
 gk:∀i b,G.γ i = some b->G'.γ i = some b
 gn:∀i b,G'.γ i = some b->G.γ i = some b\/(n <= i/\(w.heap.size <= b\/∃j,G.γ j = some b))
 ik:∀b o v,G.imm b o = some v->G'.imm b o = some v
 inew:∀b o v,G'.imm b o = some v->G.imm b o = some v\/w.heap.size <= b\/G.ow b ≠ none\/∃i,G.γ i = some b
 on:∀b,G'.ow b ≠ none->G.ow b ≠ none\/w.heap.size <= b
 size:w.heap.size <= w'.heap.size
 heap:∀b,b < w.heap.size->qdn G b->w'.heap[b]? = w.heap[b]?
 loops:∀(b:Nat) (L:Loop),w.heap[b]? = some (.loop L)->∃L':Loop,w'.heap[b]? = some (.loop L')/\L'.fn = L.fn/\L'.tmps = L.tmps/\L'.params = L.params/\L'.assign = L.assign/\L'.body = L.body/\L'.defers = L.defers
 os:w'.os = w.os
 tape:w'.tape = w.tape
 output:w'.output = w.output
theorem Ext.refl (n:Nat) (G:qi) (w:World):Ext n G w G w:=
 ⟨λ_ _ h=>h,λ_ _ h=>.inl h,λ_ _ _ h=>h,λ_ _ _ h=>.inl h,λ_ h=>.inl h,jm _,λ_ _ _=>rfl,
  λ_ L h=>⟨L,h,rfl,rfl,rfl,rfl,rfl,rfl⟩,rfl,rfl,rfl⟩
theorem Ext.trans {n m:Nat} {G G' I:qi} {w w' E:World} (Y:n <= m) (h:Ext n G w G' w') (k:Ext m G' w' I E):Ext n G w I E where
 gk i b hb:=k.gk i b (h.gk i b hb)
 gn i b hb:=by
  rcases k.gn i b hb with hb | ⟨h1,h2⟩
  ·exact h.gn i b hb
  ·refine .inr ⟨jn Y h1,?_⟩
   rcases h2 with h2 | ⟨j,h2⟩
   ·exact .inl (jn h.size h2)
   ·rcases h.gn j b h2 with h3 | ⟨_,h3⟩
    ·exact .inr ⟨j,h3⟩
    ·exact h3
 ik b o v hv:=k.ik b o v (h.ik b o v hv)
 inew b o v hv:=by
  rcases k.inew b o v hv with hv | hv | hv | ⟨i,hv⟩
  ·exact h.inew b o v hv
  ·exact .inr (.inl (jn h.size hv))
  ·rcases h.on b hv with h1 | h1
   ·exact .inr (.inr (.inl h1))
   ·exact .inr (.inl h1)
  ·rcases h.gn i b hv with h1 | ⟨_,h1 | ⟨j,h1⟩⟩
   ·exact .inr (.inr (.inr ⟨i,h1⟩))
   ·exact .inr (.inl h1)
   ·exact .inr (.inr (.inr ⟨j,h1⟩))
 on b hb:=by
  rcases k.on b hb with hb | hb
  ·exact h.on b hb
  ·exact .inr (jn h.size hb)
 size:=jn h.size k.size
 heap b hb hf:=by
  have a1:qdn G' b:=by
   refine ⟨λi hi=>?_,?_⟩
   ·rcases h.gn i b hi with h1 | ⟨_,h1 | ⟨j,h1⟩⟩
    ·exact hf.1 i h1
    ·omega
    ·exact hf.1 j h1
   ·cases ho:G'.ow b with
    | none=>rfl
    | some ℓ=>
     rcases h.on b (by simp [ho]) with h1 | h1
     ·exact absurd hf.2 h1
     ·omega
  rw [k.heap b (jo hb h.size) a1,h.heap b hb hf]
 loops b L hL:=by
  obtain ⟨L',h1,h2,h3,h4,h5,h6,h7⟩:=h.loops b L hL
  obtain ⟨a6,k1,k2,k3,k4,k5,k6,k7⟩:=k.loops b L' h1
  exact ⟨a6,k1,k2.trans h2,k3.trans h3,k4.trans h4,k5.trans h5,k6.trans h6,k7.trans h7⟩
 os:=k.os.trans h.os
 tape:=k.tape.trans h.tape
 output:=k.output.trans h.output
theorem Ext.weaken {n m:Nat} {G G':qi} {w w':World} (E:n <= m) (h:Ext m G w G' w'):Ext n G w G' w':=(Ext.refl n G w).trans E h
theorem Ext.drew {n:Nat} {G G':qi} {w w':World} (h:Ext n G w G' w') (d:Nat):Ext n G w G' { w' with drawn:=d}:=
 ⟨h.gk,h.gn,h.ik,h.inew,h.on,h.size,h.heap,h.loops,h.os,h.tape,h.output⟩
section
variable {P:Program} {gl:Nat->Option (List qd)} {G G':qi} {w w':World} {h:List qj} {t:List qd} {ts:Array Value}
theorem qvD.keep {ℓ:Loc} {k:Nat} {v:Value} (ho:qvD G w ℓ k v) (E:∀b,G.ow b = some ℓ->G'.ow b = some ℓ) (hh:∀b,G.ow b = some ℓ->w'.heap[b]? = w.heap[b]?)
  (hi:∀b j,G.ow b = some ℓ->G.imm b j = none->G'.imm b j = none):qvD G' w' ℓ k v:=by
 obtain ⟨b,p,len,cap,c,e,rfl,h1,h2,h3,h4,h5⟩:=ho
 exact ⟨b,p,len,cap,c,e,rfl,E b h1,by rw [hh b h1];exact h2,h3,h4,λj hj=>hi b j h1 (h5 j hj)⟩
theorem Rel.imm_lt (hr:Rel P gl G h w) {b o:Nat} {v:Value} (hv:G.imm b o = some v):b < w.heap.size:=by
 by_cases hm:v = mark
 ·subst hm
  obtain ⟨_,c,e,h1,_⟩:=hr.immK b o hv
  exact (je.1 h1).1
 ·exact (hr.imm b o v hv hm).2
theorem Rel.of_drew (hr:Rel P gl G h w) (d:Nat):Rel P gl G h { w with drawn:=d}:=
 ⟨hr.γlt,hr.inj,hr.box,hr.imm,hr.immγ,hr.immK,hr.ow,hr.glob⟩
theorem qaJ.of_drew (hr:qaJ G w t ts) (d:Nat):qaJ G { w with drawn:=d} t ts:=⟨hr.rel,hr.own⟩
theorem qaJ.length (hr:qaJ G w t ts):t.length = ts.size:=by simpa using hr.rel.length
theorem qaJ.get (hr:qaJ G w t ts) (i:Nat):G.V (t.getD i .undef) (ts.getD i undef):=by
 by_cases hi:i < t.length
 ·obtain ⟨v,hv,I⟩:=hr.rel.get (jh hi)
  have E:i < ts.size:=by rw [<-hr.length];exact hi
  have e1:ts.getD i undef = v:=by
   simp only [Array.getElem?_toList] at hv
   simp [Array.getD,E,(je.1 hv).2]
  rw [e1]
  simpa [List.getD,jh hi] using I
 ·have E:¬ i < ts.size:=by rw [<-hr.length];exact hi
  simp [List.getD,jq (Nat.le_of_not_lt hi),qC,Array.getD,E,undef,mark]
theorem qaJ.put (hr:qaJ G w t ts) (dst:Option Nat) {a:qd} {v:Value} (hv:G.V a v) (hd:a.dim = a) (ds:List Deferred) :
  qaJ G w (put dst a t) ((({ tmps:=ts,defers:=ds}:Act).put dst v).tmps):=by
 cases dst with
 | none=>exact hr
 | some d=>
  refine ⟨by simpa [AE.put,Act.put] using hr.rel.set d hv,λi xs k u hi hu=>?_⟩
  simp only [AE.put,Act.put] at hi hu
  by_cases e:d = i
  ·subst e
   rw [List.getElem?_set] at hi
   split at hi
   ·split at hi
    ·simp only [jj] at hi;subst hi;simp [qd.dim] at hd
    ·cases hi
   ·rename_i E;exact absurd rfl E
  ·rw [jf e] at hi
   rw [Array.getElem?_setIfInBounds_ne e] at hu
   exact hr.own i xs k u hi hu
end
theorem qad (w:World) (o:Obj) {b:Nat} (hb:b < w.heap.size):(w.alloc o).heap[b]? = w.heap[b]?:=by
 simp only [World.alloc]
 rw [Array.getElem?_push,if_neg zo]
theorem qaq (w:World) (o:Obj):(w.alloc o).heap[w.heap.size]? = some o:=by
 show (w.heap.push o)[w.heap.size]? = some o
 simp
theorem qbA {w w':World} {a:Addr} (h:w'.heap[a.block]? = w.heap[a.block]?):w'.cell? a = w.cell? a:=by
 simp only [World.cell?,h]
section
variable {P:Program} {gl:Nat->Option (List qd)} {G G':qi} {w w':World} {h:List qj} {t:List qd} {ts:Array Value}
theorem qib {n m:Nat} (E:n <= m):∀{es:List (Nat×qd×qd)},qbb n es = true->qbb m es = true
 | [],_=>rfl
 | x :: xs,h=>by
  simp only [qbb,jk] at h ⊢
  exact ⟨⟨qcf E _ h.1.1,qcf E _ h.1.2⟩,qib E h.2⟩
theorem qcZ:∀es:List (Nat×qd×qd),∃n,qbb n es = true
 | []=>⟨0,rfl⟩
 | x :: xs=>by
  obtain ⟨a,ha⟩:=lower_ex x.2.1
  obtain ⟨b,hb⟩:=lower_ex x.2.2
  obtain ⟨c,hc⟩:=qcZ xs
  refine ⟨max a (max b c),?_⟩
  simp only [qbb,jk]
  exact ⟨⟨qcf zo _ ha,qcf zo _ hb⟩,qib zo hc⟩
theorem qah.mono (hi:∀b o v,G.imm b o = some v->G'.imm b o = some v) (n:Nat) (E:∀i b,i < n->G.γ i = some b->G'.γ i = some b) :
  ∀{xs:List (Nat×qd×qd)} {es:List MapEntry},qbb n xs = true->qah G xs es->qah G' xs es
 | [],_,_,h=>h
 | x :: xs,es,hl,h=>by
  simp only [qbb,jk] at hl
  simp only [qah] at h ⊢
  obtain ⟨e,rest,rfl,h1,h2,h3,h4⟩:=h
  exact ⟨e,rest,rfl,h1,qC.mono hi n E _ _ hl.1.1 h2,qC.mono hi n E _ _ hl.1.2 h3,qah.mono hi n E hl.2 h4⟩
theorem qj.lower_ex (bx:qj):∃n,bx.lower n = true:=by
 cases bx with
 | cells cs=>exact qas cs
 | loop t _ _ _ _ _=>exact qas t
 | map es _=>exact qcZ es
 | iter m _ _ _=>exact AE.lower_ex m
 | bld _ _ _=>exact ⟨0,rfl⟩
 | dead=>exact ⟨0,rfl⟩
theorem qey {γ:Nat->Option Nat} {imm:Nat->Nat->Option Value} {cs:List qd} {l:List Value} {o:Nat} {x:qd} (h:qp γ imm cs (l.take cs.length)) (hx:cs[o]? = some x):∃v,l[o]? = some v/\qC γ imm x v:=by
 obtain ⟨v,hv,hr⟩:=h.get hx
 rw [List.getElem?_take_of_lt (jd.1 hx).1] at hv
 exact ⟨v,hv,hr⟩
theorem qe1 {γ:Nat->Option Nat} {imm:Nat->Nat->Option Value} {cs:List qd} {l:List Value} (h:qp γ imm cs (l.take cs.length)):cs.length <= l.length:=by
 have:=h.length
 simp at this
 omega
theorem qf5 {γ:Nat->Option Nat} {imm:Nat->Nat->Option Value} {cs:List qd} {l:List Value} (h:qp γ imm cs l):qp γ imm cs (l.take cs.length):=by
 rw [h.length,jD];exact h
theorem qdO {h:List qj} {i id:Nat} {bx E:qj} (hid:h[id]? = some bx) (hb:bx ≠ .dead) (hi:h[i]? = some .dead):(h.set id E)[i]? = some .dead:=by
 rw [jf]
 ·exact hi
 ·rintro rfl
  rw [hid] at hi
  cases hi
  exact hb rfl
theorem qjZ {h:List qj} {γ:Nat->Option Nat} {id:Nat} {bx E:qj} (hj:∀i j b,γ i = some b->γ j = some b->i = j\/h[i]? = some .dead\/h[j]? = some .dead) (hid:h[id]? = some bx) (hb:bx ≠ .dead) :
  ∀i j b,γ i = some b->γ j = some b->i = j\/(h.set id E)[i]? = some .dead\/(h.set id E)[j]? = some .dead:=λi j b hi hk=>by
 rcases hj i j b hi hk with h1 | h1 | h1
 ·exact .inl h1
 ·exact .inr (.inl (qdO hid hb h1))
 ·exact .inr (.inr (qdO hid hb h1))
def WF (h:List qj):Prop:=∀bx ∈ h,bx.lower h.length = true
theorem qgU.keep {id b n:Nat} {bx:qj} (hb:qgU P gl G w id bx b) (hl:bx.lower n = true) (hi:∀b o v,G.imm b o = some v->G'.imm b o = some v)
  (E:∀i b,i < n->G.γ i = some b->G'.γ i = some b) (hh:w'.heap[b]? = w.heap[b]?) (I:∀b o,G.ow b = some (.cell id o)->G'.ow b = some (.cell id o))
  (a1:∀b o,G.ow b = some (.cell id o)->w'.heap[b]? = w.heap[b]?) (Y:∀b j o,G.ow b = some (.cell id o)->G.imm b j = none->G'.imm b j = none):qgU P gl G' w' id bx b:=by
 cases bx with
 | cells cs=>
  obtain ⟨c,e,h1,h2,h3⟩:=hb
  exact ⟨c,e,by rw [hh];exact h1,qp.mono hi n E cs _ hl h2,λo xs k v ho hv=>(h3 o xs k v ho hv).keep (λb hb=>I b o hb) (λb hb=>a1 b o hb) (λb j hb=>Y b j o hb)⟩
 | loop t ps asg body st pend=>
  obtain ⟨L,h1,h2⟩:=hb
  exact ⟨L,by rw [hh];exact h1,{ h2 with tmps:=qp.mono hi n E t _ hl h2.tmps}⟩
 | map es clock=>
  obtain ⟨me,h1,h2⟩:=hb
  exact ⟨me,by rw [hh];exact h1,qah.mono hi n E hl h2⟩
 | iter m since seen last=>
  obtain ⟨mm,h1,h2⟩:=hb
  exact ⟨mm,by rw [hh];exact h1,qC.mono hi n E _ _ hl h2⟩
 | bld _ _ _=>exact qqy.keep hb hh (λx hx=>I x 1 hx) (λx hx=>a1 x 1 hx) (λx j hx=>Y x j 1 hx)
 | dead=>trivial
theorem Rel.alloc (hr:Rel P gl G h w) (o:Obj):Rel P gl G h (w.alloc o) where
 γlt i b hb:=⟨(hr.γlt i b hb).1,by have:=(hr.γlt i b hb).2;simp;omega⟩
 inj:=hr.inj
 box i b bx hb hx:=by
  have I:=(hr.γlt i b hb).2
  have E:=hr.box i b bx hb hx
  have key:∀b',b' < w.heap.size->(w.alloc o).heap[b']? = w.heap[b']?:=λb' E=>qad w o E
  cases bx with
  | cells cs=>
   obtain ⟨c,e,h1,h2,h3⟩:=E
   exact ⟨c,e,by rw [key b I];exact h1,h2,λo' xs k v ho hv=>(h3 o' xs k v ho hv).keep (λ_ h=>h) (λb hb=>key b (hr.ow b _ hb).1) (λ_ _ _ h=>h)⟩
  | loop t ps asg body st pend=>
   obtain ⟨L,h1,h2⟩:=E
   exact ⟨L,by rw [key b I];exact h1,h2⟩
  | map es clock=>
   obtain ⟨me,h1,h2⟩:=E
   exact ⟨me,by rw [key b I];exact h1,h2⟩
  | iter m since seen last=>
   obtain ⟨mm,h1,h2⟩:=E
   exact ⟨mm,by rw [key b I];exact h1,h2⟩
  | bld _ _ _=>exact qqy.keep E (key b I) (λ_ h=>h) (λx hx=>key x (hr.ow x _ hx).1) (λ_ _ _ h=>h)
  | dead=>trivial
 imm b o' v hv:=by
  intro hm
  obtain ⟨h1,h2⟩:=hr.imm b o' v hv hm
  exact ⟨(qbA (qad w o h2)).trans h1,by simp;omega⟩
 immγ:=hr.immγ
 immK b o' hv:=by
  obtain ⟨h0,c,e,h1,h2⟩:=hr.immK b o' hv
  exact ⟨h0,c,e,by rw [qad w o (je.1 h1).1];exact h1,h2⟩
 ow b ℓ hb:=⟨by have:=(hr.ow b ℓ hb).1;simp;omega,(hr.ow b ℓ hb).2⟩
 glob:=hr.glob
theorem qaJ.alloc (hr:Rel P gl G h w) (ht:qaJ G w t ts) (o:Obj):qaJ G (w.alloc o) t ts:=
 ⟨ht.rel,λi xs k v hi hv=>(ht.own i xs k v hi hv).keep (λ_ h=>h) (λb hb=>qad w o (hr.ow b _ hb).1) (λ_ _ _ h=>h)⟩
theorem Ext.alloc (n:Nat) (G:qi) (w:World) (o:Obj):Ext n G w G (w.alloc o):=
 ⟨λ_ _ h=>h,λ_ _ h=>.inl h,λ_ _ _ h=>h,λ_ _ _ h=>.inl h,λ_ h=>.inl h,by simp,λb hb _=>qad w o hb,
  λb L hL=>⟨L,by rw [qad w o (je.1 hL).1];exact hL,rfl,rfl,rfl,rfl,rfl,rfl⟩,rfl,rfl,rfl⟩
def qi.withBox (G:qi) (i b:Nat):qi:={ G with γ:=λj=>if j = i then some b else G.γ j}
theorem Rel.newBox (hr:Rel P gl G h w) {i:Nat} {o:Obj} {bx:qj} {h':List qj} (hi:G.γ i = none) (a1:h.length <= h'.length) (a7:i < h'.length)
  (E:∀j,j ≠ i->∀b,G.γ j = some b->h'[j]? = h[j]?) (a8:h'[i]? = some bx)
  (Y:qgU P gl (G.withBox i w.heap.size) (w.alloc o) i bx w.heap.size):Rel P gl (G.withBox i w.heap.size) h' (w.alloc o):=by
 have ha:=hr.alloc o
 have a6:∀j b,G.γ j = some b->(G.withBox i w.heap.size).γ j = some b:=λj b hj=>by
  have:j ≠ i:=λe=>by subst e;simp [hi] at hj
  simpa [qi.withBox,this] using hj
 refine ⟨λj b hj=>?_,λj k b hj hk=>?_,λj b I hj hx=>?_,ha.imm,λb o' v j hv hm=>?_,ha.immK,λb ℓ hb=>⟨(ha.ow b ℓ hb).1,λj hj=>?_⟩,λg cs hg=>?_⟩
 ·simp only [qi.withBox] at hj
  split at hj
  ·rename_i e;subst e;cases hj;exact ⟨a7,by simp⟩
  ·exact ⟨jo (hr.γlt j b hj).1 a1,(ha.γlt j b hj).2⟩
 ·simp only [qi.withBox] at hj hk
  split at hj
  ·split at hk
   ·exact .inl zo
   ·cases hj;have:=(hr.γlt k _ hk).2;omega
  ·rename_i e1
   split at hk
   ·cases hk;have:=(hr.γlt j _ hj).2;omega
   ·rename_i e2
    rw [E j e1 b hj,E k e2 b hk]
    exact hr.inj j k b hj hk
 ·simp only [qi.withBox] at hj
  split at hj
  ·rename_i e;subst e;cases hj;rw [a8] at hx;cases hx;exact Y
  ·rename_i e
   rw [E j e b hj] at hx
   have hb:=ha.box j b I hj hx
   obtain ⟨n,hn⟩:=qj.lower_ex I
   exact hb.keep hn (λ_ _ _ h=>h) (λj b _=>a6 j b) rfl (λ_ _ h=>h) (λ_ _ _=>rfl) (λ_ _ _ _ h=>h)
 ·simp only [qi.withBox]
  split
  ·intro e;cases e;have:=hr.imm_lt hv;omega
  ·rename_i e1
   intro e
   rw [E j e1 b e]
   exact hr.immγ b o' v j hv hm e
 ·simp only [qi.withBox] at hj
  split at hj
  ·cases hj;have:=(hr.ow _ _ hb).1;omega
  ·exact (hr.ow b ℓ hb).2 j hj
 ·obtain ⟨h1,h2⟩:=hr.glob g cs hg
  exact ⟨qeb.mono (λ_ _ _ h=>h) cs g h2 h1,h2⟩
theorem Ext.newBox {n i:Nat} (hi:G.γ i = none) (hn:n <= i) (o:Obj):Ext n G w (G.withBox i w.heap.size) (w.alloc o):=by
 refine ⟨λj b hj=>?_,λj b hj=>?_,λ_ _ _ h=>h,λ_ _ _ h=>.inl h,λ_ h=>.inl h,by simp,λb hb _=>qad w o hb,(Ext.alloc n G w o).loops,rfl,rfl,rfl⟩
 ·have:j ≠ i:=λe=>by subst e;simp [hi] at hj
  simpa [qi.withBox,this] using hj
 ·simp only [qi.withBox] at hj
  split at hj
  ·rename_i e;subst e;cases hj;exact .inr ⟨hn,.inl (jm _)⟩
  ·exact .inl hj
noncomputable def qi.withRow (G:qi) (b:Nat) (c:Array Value) (m:Nat) (ℓ:Option Loc):qi:=
 { γ:=G.γ,imm:=λx o=>if x = b then (if o < m then qmf c[o]? else none) else G.imm x o,ow:=λx=>if x = b then ℓ else G.ow x}
theorem Rel.newRow (hr:Rel P gl G h w) (c:Array Value) (e:TypeId) (m:Nat) (ℓ:Option Loc) (fr:Nat×Nat:=(0,0)):Rel P gl (G.withRow w.heap.size c m ℓ) h (w.alloc (.cells c e fr)):=by
 have ha:=hr.alloc (.cells c e fr)
 have hi:∀b o v,G.imm b o = some v->(G.withRow w.heap.size c m ℓ).imm b o = some v:=λb o v hv=>by
  have:b ≠ w.heap.size:=by have:=hr.imm_lt hv;omega
  simpa [qi.withRow,this] using hv
 refine ⟨ha.γlt,ha.inj,λi b bx hb hx=>?_,λb o v hv hm=>?_,λb o v i hv hm hb=>?_,λb o hv=>?_,λb I hb=>?_,λg cs hg=>?_⟩
 ·obtain ⟨n,hn⟩:=qj.lower_ex bx
  refine (ha.box i b bx hb hx).keep hn hi (λ_ _ _ h=>h) rfl (λb' o E=>?_) (λ_ _ _=>rfl) (λb' j o E hj=>?_)
  ·have:b' ≠ w.heap.size:=by have:=(hr.ow b' _ E).1;omega
   simpa [qi.withRow,this] using E
  ·have:b' ≠ w.heap.size:=by have:=(hr.ow b' _ E).1;omega
   simpa [qi.withRow,this] using hj
 ·simp only [qi.withRow] at hv
  split at hv
  ·rename_i e1
   subst e1
   split at hv
   ·refine ⟨?_,by simp⟩
    simp only [World.cell?,qaq]
    simpa using (qbj.1 hv).1
   ·cases hv
  ·exact ha.imm b o v hv hm
 ·simp only [qi.withRow] at hv hb
  split at hv
  ·have:=(hr.γlt i b hb).2;omega
  ·exact hr.immγ b o v i hv hm hb
 ·simp only [qi.withRow] at hv
  split at hv
  ·split at hv
   ·exact absurd rfl (qbj.1 hv).2
   ·cases hv
  ·exact ha.immK b o hv
 ·simp only [qi.withRow] at hb
  split at hb
  ·rename_i e1
   exact ⟨by simp;omega,λi hi=>by simp only [qi.withRow] at hi;have:=(hr.γlt i b hi).2;omega⟩
  ·exact ha.ow b I hb
 ·obtain ⟨h1,h2⟩:=hr.glob g cs hg
  exact ⟨qeb.mono hi cs g h2 h1,h2⟩
theorem Ext.newRow (n:Nat) (c:Array Value) (e:TypeId) (m:Nat) (ℓ:Option Loc) (hr:Rel P gl G h w) (fr:Nat×Nat:=(0,0)):Ext n G w (G.withRow w.heap.size c m ℓ) (w.alloc (.cells c e fr)):=by
 refine ⟨λ_ _ h=>h,λ_ _ h=>.inl h,λb o v hv=>?_,λb o v hv=>?_,λb hb=>?_,by simp,λb hb _=>qad w _ hb,(Ext.alloc n G w _).loops,rfl,rfl,rfl⟩
 ·have:b ≠ w.heap.size:=by have:=hr.imm_lt hv;omega
  simpa [qi.withRow,this] using hv
 ·simp only [qi.withRow] at hv
  split at hv
  ·exact .inr (.inl zo)
  ·exact .inl hv
 ·simp only [qi.withRow] at hb
  split at hb
  ·exact .inr zo
  ·exact .inl hb
theorem qaJ.newRow (hr:Rel P gl G h w) (ht:qaJ G w t ts) (c:Array Value) (e:TypeId) (m:Nat) (ℓ:Option Loc) (fr:Nat×Nat:=(0,0)):qaJ (G.withRow w.heap.size c m ℓ) (w.alloc (.cells c e fr)) t ts:=by
 have hi:∀b o v,G.imm b o = some v->(G.withRow w.heap.size c m ℓ).imm b o = some v:=(Ext.newRow 0 c e m ℓ hr fr).ik
 obtain ⟨n,hn⟩:=qas t
 refine ⟨qp.mono hi n (λ_ _ _ h=>h) t _ hn ht.rel,λi xs k v hx hv=>(ht.own i xs k v hx hv).keep (λb hb=>?_) (λb hb=>qad w _ (hr.ow b _ hb).1) (λb j hb hj=>?_)⟩
 ·have:b ≠ w.heap.size:=by have:=(hr.ow b _ hb).1;omega
  simpa [qi.withRow,this] using hb
 ·have:b ≠ w.heap.size:=by have:=(hr.ow b _ hb).1;omega
  simpa [qi.withRow,this] using hj
theorem qaJ.keep {n:Nat} (ht:qaJ G w t ts) (hl:qw n t = true) (hi:∀b o v,G.imm b o = some v->G'.imm b o = some v) (E:∀i b,i < n->G.γ i = some b->G'.γ i = some b)
  (I:∀b i,G.ow b = some (.tmp i)->G'.ow b = some (.tmp i)) (a1:∀b i,G.ow b = some (.tmp i)->w'.heap[b]? = w.heap[b]?)
  (Y:∀b j i,G.ow b = some (.tmp i)->G.imm b j = none->G'.imm b j = none):qaJ G' w' t ts:=
 ⟨qp.mono hi n E t _ hl ht.rel,λi xs k v hx hv=>(ht.own i xs k v hx hv).keep (λb hb=>I b i hb) (λb hb=>a1 b i hb) (λb j hb=>Y b j i hb)⟩
end
section
variable {P:Program} {gl:Nat->Option (List qd)} {G:qi} {w:World} {h:List qj} {t:List qd} {a:Act}
theorem qgO {γ:Nat->Option Nat} {imm:Nat->Nat->Option Value} {v:Value} {x:qd} (h:qdu v = some x):qC γ imm x v:=by
 unfold qdu at h
 split at h <;> try (simp only [jj] at h;subst h)
 all_goals try (simp [qC];done)
 ·split at h
  ·rename_i hh;obtain ⟨rfl,rfl⟩:=hh;cases h
   simp only [qC];exact ⟨none,0,0,rfl,rfl,jm _,λ_=>rfl,λ_=>rfl,⟨0,by simp⟩,.inl trivial⟩
  ·cases h
 ·split at h
  ·rename_i hh
   simp only [jk,Array.isEmpty_iff] at hh
   obtain ⟨rfl,rfl⟩:=hh;cases h
   simp only [qC];exact ⟨#[],#[],rfl,by simp [qp],by simp [qp]⟩
  ·cases h
 ·cases h
theorem qhd {v:Value} {x:qd} (h:qdu v = some x):x.lower 0 = true:=by
 unfold qdu at h
 split at h <;> first | (simp only [jj] at h;subst h;rfl) | (split at h <;> cases h;rfl) | cases h
theorem qj3 {γ:Nat->Option Nat} {imm:Nat->Nat->Option Value}:∀{vs:List Value} {xs:List qd},vs.mapM qdu = some xs->qp γ imm xs vs/\qw 0 xs = true
 | [],xs,h=>by simp at h;subst h;simp [qp,qw]
 | v :: vs,xs,h=>by
  simp only [List.mapM_cons,Option.pure_def,jA,Option.bind_eq_some_iff] at h
  obtain ⟨x,hx,ys,E,h⟩:=h
  cases h
  obtain ⟨h1,h2⟩:=qj3 (γ:=γ) (imm:=imm) E
  exact ⟨by simp only [qp];exact ⟨v,vs,rfl,qgO hx,h1⟩,by simp [qw,qhd hx,h2]⟩
theorem qhL {γ:Nat->Option Nat} {imm:Nat->Nat->Option Value} {v:Value} {x:qd} (h:qg1 v = some x):qC γ imm x v/\x.lower 0 = true:=by
 unfold qg1 at h
 split at h
 ·rename_i cs
  simp only [Option.map_eq_some_iff] at h
  obtain ⟨xs,hx,rfl⟩:=h
  obtain ⟨h1,h2⟩:=qj3 (γ:=γ) (imm:=imm) hx
  exact ⟨by simp only [qC];exact ⟨cs,rfl,h1⟩,by simpa [qd.lower] using h2⟩
 ·split at h
  ·rename_i hh
   simp only [Array.isEmpty_iff] at hh
   subst hh;cases h;exact ⟨by simp only [qC];exact ⟨#[],rfl,by simp [qp]⟩,rfl⟩
  ·cases h
 ·exact ⟨qgO h,qhd h⟩
theorem qkj (hr:Rel P gl G h w) (ht:qaJ G w t a.tmps) {x:Operand} {ax:qB} (hx:opd gl x = some ax):G.V (raw t ax) (a.eval x):=by
 cases x with
 | tmp i=>simp only [opd,jj] at hx;subst hx;exact ht.get i
 | const v=>
  simp only [opd,Option.map_eq_some_iff] at hx
  obtain ⟨c,hc,rfl⟩:=hx
  exact (qhL hc).1
 | global g=>
  simp only [opd,Option.map_eq_some_iff] at hx
  obtain ⟨c,hc,rfl⟩:=hx
  simp only [raw,qi.V,qC]
  exact ⟨g,0,rfl,(hr.glob g c hc).1.1⟩
 | func f=>
  simp only [opd,jj] at hx
  subst hx
  simp only [raw,qi.V,qC]
  exact ⟨#[],#[],rfl,by simp [qp],by simp [qp]⟩
theorem qai (hr:Rel P gl G h w) (ht:qaJ G w t a.tmps) {x:Operand} {ax:qB} (hx:opd gl x = some ax):G.V (ev t ax) (a.eval x):=qcx (qkj hr ht hx)
theorem qbf (v:qd):v.dim.dim = v.dim:=by
 cases v <;> try rfl
 rename_i xs f;cases f <;> rfl
theorem qnA (t:List qd) (x:qB):(ev t x).dim = ev t x:=qbf _
theorem qr9 (hr:Rel P gl G h w) (ht:qaJ G w t a.tmps):∀{xs:List Operand} {E:List qB},xs.mapM (opd gl) = some E->G.VL (E.map (ev t)) (xs.map a.eval)
 | [],E,h=>by simp at h;subst h;simp [qi.VL,qp]
 | x :: xs,E,h=>by
  simp only [List.mapM_cons,Option.pure_def,jA,Option.bind_eq_some_iff] at h
  obtain ⟨y,hy,ys,I,h⟩:=h
  cases h
  simp only [List.map_cons,qi.VL,qp]
  exact ⟨_,_,rfl,qai hr ht hy,qr9 hr ht I⟩
theorem qkd (hr:Rel P gl G h w) (ht:qaJ G w t a.tmps) {xs:Array Operand} {E:List qB} (hx:qvu gl xs = some E):G.VL (E.map (ev t)) (xs.map a.eval).toList:=by
 rw [Array.toList_map];exact qr9 hr ht hx
theorem qb2 {γ:Nat->Option Nat} {imm:Nat->Nat->Option Value} {x:qd} {v:Value} (h:qC γ imm x v) (hs:x.cells.all qd.storable = true):qp γ imm x.cells v.cells.toList/\∀u ∈ v.cells.toList,u.oneCell' = true:=by
 have one:∀{x:qd} {v:Value},qC γ imm x v->x.storable = true->v.oneCell' = true:=by
  intro x v h hs
  cases x <;> simp only [qd.storable,jl] at hs <;> simp only [qC] at h <;> first
   | (subst h;rfl)
   | (obtain ⟨_,rfl,_⟩:=h;rfl)
   | (obtain ⟨_,_,rfl⟩:=h;rfl)
   | (obtain ⟨_,_,rfl,_⟩:=h;rfl)
   | (obtain ⟨_,_,_,rfl,_⟩:=h;rfl)
 have all:∀{xs:List qd} {vs:List Value},qp γ imm xs vs->xs.all qd.storable = true->∀u ∈ vs,u.oneCell' = true:=by
  intro xs
  induction xs with
  | nil=>intro vs h _ u hu;simp only [qp] at h;subst h;cases hu
  | cons x xs ih=>
   intro vs h hs u hu
   simp only [qp] at h
   obtain ⟨v,rest,rfl,h1,h2⟩:=h
   simp only [jB,jk] at hs
   cases hu with
   | head=>exact one h1 hs.1
   | tail _ hu=>exact ih h2 hs.2 u hu
 have key:qp γ imm x.cells v.cells.toList:=by
  cases x with
  | agg cs=>
   simp only [qC] at h
   obtain ⟨c,rfl,h1⟩:=h
   simpa [qd.cells,Value.cells] using h1
  | _=>
   have E:=hs
   simp only [qd.cells,jB,jC,jv] at E
   have ho:=one h E
   have hc:v.cells = #[v]:=by cases v <;> first | rfl | (simp [Value.oneCell'] at ho)
   rw [hc]
   simp only [qd.cells,qp]
   exact ⟨v,[],rfl,h,rfl⟩
 exact ⟨key,all key hs⟩
theorem qry {γ:Nat->Option Nat} {imm:Nat->Nat->Option Value} {cs:List qd} {vs:List Value} {o:Nat} {k:Option Nat} {x:qd} (h:qp γ imm cs vs) (hc:cut cs o k = some x) :
  qC γ imm x (match k with | none=>vs.getD o undef | some k=>.agg ((vs.drop o).take k).toArray)/\x.dim = x/\(match k with | none=>o < vs.length | some k=>o + k <= vs.length):=by
 cases k with
 | none=>
  simp only [cut,Option.map_eq_some_iff] at hc
  obtain ⟨c,h0,rfl⟩:=hc
  obtain ⟨v,hv,hr⟩:=h.get h0
  refine ⟨?_,qbf _,?_⟩
  ·simp only [List.getD,hv,Option.getD_some];exact qcx hr
  ·simp only;exact (jd.1 hv).1
 | some k=>
  simp only [cut] at hc
  split at hc
  ·cases hc
   refine ⟨?_,rfl,by simp only;rw [<-h.length];assumption⟩
   simp only [qC]
   exact ⟨_,rfl,by simpa using qp.dims (qp.take k (qp.drop o h))⟩
  ·cases hc
end
def qdK:qd->Value
 | .int k n=>.int k n
 | .bool b=>.bool b
 | .str s=>.string ⟨s.toArray⟩
 | _=>undef
section
variable {P:Program} {γ:Nat->Option Nat} {imm:Nat->Nat->Option Value}
theorem qgz {op:BinOp} {k:IntKind} {a b:Int} {r:qd} (h:qed op k a b = some r) (w:World) (j:IntKind) (hj:j = k\/op = .shl\/op = .shr) (t:TypeId) :
  (binOp op t (.int k a) (.int j b)).run P w = .ok (qdK r) w/\qC γ imm r (qdK r)/\r.dim = r:=by
 have E:op ≠ .shl->op ≠ .shr->j = k:=by intro h1 h2;rcases hj with h | h | h <;> first | exact h | exact absurd h h1 | exact absurd h h2
 cases op <;> simp only [qed,qaD,qaj] at h
 case quo=>
  split at h
  ·cases h
  ·rename_i hb
   cases h;obtain rfl:=E (by simp) (by simp)
   exact ⟨by simp [binOp,Op.intDiv,hb,qdK],by simp [qC,qdK],rfl⟩
 case rem=>
  split at h
  ·cases h
  ·rename_i hb
   cases h;obtain rfl:=E (by simp) (by simp)
   exact ⟨by simp [binOp,Op.intDiv,hb,qdK],by simp [qC,qdK],rfl⟩
 case shl=>
  split at h
  ·cases h
  ·rename_i hb
   cases h
   exact ⟨by simp [binOp,Op.shift,hb,qdK],by simp [qC,qdK],rfl⟩
 case shr=>
  split at h
  ·cases h
  ·rename_i hb
   cases h
   exact ⟨by simp [binOp,Op.shift,hb,qdK],by simp [qC,qdK],rfl⟩
 all_goals
  cases h
  obtain rfl:=E (by simp) (by simp)
  exact ⟨by simp only [binOp,ne_eq,not_true_eq_false,if_false];rfl,by simp [qC,qdK],rfl⟩
theorem qqm {op:BinOp} {a b:List UInt8} {r:qd} (h:quU op a b = some r) (w:World) {x y:ByteArray} (hx:x.data.toList = a) (hy:y.data.toList = b) (t:TypeId) :
  (binOp op t (.string x) (.string y)).run P w = .ok (qdK r) w/\qC γ imm r (qdK r)/\r.dim = r:=by
 have ex:x.toList = a:=by rw [Lib.toList_data,hx]
 have ey:y.toList = b:=by rw [Lib.toList_data,hy]
 cases op <;> simp only [quU] at h
 case add=>
  split at h
  ·rename_i hl
   cases h
   have hs:¬ (((x.size + y.size:Nat):Int) > IntKind.i64.max):=by
    have h1:x.size = a.length:=by rw [<-hx];rfl
    have h2:y.size = b.length:=by rw [<-hy];rfl
    unfold qk at hl
    simp only [IntKind.max,IntKind.signed,IntKind.bits,if_true]
    omega
   have E:x ++ y = ⟨(a ++ b).toArray⟩:=by
    apply ByteArray.ext
    apply Array.ext'
    rw [ByteArray.data_append,Array.toList_append,hx,hy]
   refine ⟨?_,?_,rfl⟩
   ·simp only [binOp,Op.stringOp,if_neg hs,qdK,E];rfl
   ·simp only [qC,qdK];exact ⟨_,rfl,rfl⟩
  ·cases h
 all_goals first
  | (cases h;done)
  | (cases h;exact ⟨by simp [binOp,Op.stringOp,ex,ey,qdK],by simp [qC,qdK],rfl⟩)
theorem qvP {op:BinOp} {x y:qd} {r:qd} (h:qeV op x y = some r) (w:World) {vx vy:Value} (hx:qC γ imm x vx) (hy:qC γ imm y vy) (t:TypeId) :
  (binOp op t vx vy).run P w = .ok (qdK r) w/\qC γ imm r (qdK r)/\r.dim = r:=by
 unfold qeV at h
 split at h
 ·simp only [qC] at hx hy
  subst hx hy
  split at h
  ·exact qgz h w _ (.inr (.inl rfl)) t
  ·exact qgz h w _ (.inr (.inr rfl)) t
  ·split at h
   ·rename_i hk
    exact qgz h w _ (.inl hk.symm) t
   ·cases h
 ·simp only [qC] at hx hy
  obtain ⟨bx,rfl,I⟩:=hx
  obtain ⟨Y,rfl,E⟩:=hy
  exact qqm h w I E t
 ·cases h
theorem qfG {op:BinOp} {t:TypeId} {x y:Operand} {a b:Value} (w:World) (h1:¬ (a = .nilIface/\b = .nilIface)\/isC x = true\/isC y = true)
  (h2:∀xs ys,a = .agg xs->b = .agg ys->False):(eqGuard op t x y a b).run P w = .ok () w:=by
 by_cases hn:a = .nilIface/\b = .nilIface
 ·obtain ⟨rfl,rfl⟩:=hn
  rcases h1 with h1 | h1 | h1
  ·exact absurd ⟨rfl,rfl⟩ h1
  ·cases x <;> first | (cases h1;done) | (cases op <;> rfl)
  ·cases y <;> first | (cases h1;done) | (cases op <;> cases x <;> rfl)
 ·clear h1
  cases op <;> first
   | rfl
   | (cases a <;> first
     | rfl
     | (cases b <;> first | rfl | exact (h2 _ _ rfl rfl).elim | exact absurd ⟨rfl,rfl⟩ hn))
end
theorem qcE (b o n:Nat):(⟨b,o,none⟩ :Addr).add n = ⟨b,o + n,none⟩:=by
 unfold Addr.add;split <;> simp_all
theorem qep {P:Program} {s:Sem Value} {v:Value} {w w':World} (h:s.run P w = .ok v w'):(do pure (Next.value (<-s)):Sem Next).run P w = .ok (.value v) w':=by
 simp [h]
section
variable {P:Program} {gl:Nat->Option (List qd)} {G:qi} {w:World} {h:List qj} {t:List qd} {a:Act}
theorem qbQ {e:TypeId} {k:Nat} (he:qfw P e = some k) (w:World):(sizeOf e).run P w = .ok k w:=by
 simp only [qfw,Option.map_eq_some_iff] at he
 obtain ⟨i,hi,rfl⟩:=he
 simp [sizeOf,typeInfo,hi]
theorem qgt {e:TypeId} {k:Option Nat} (he:tyk P e = some k) (w:World):(isAgg e).run P w = .ok k.isSome w/\∀n,k = some n->(sizeOf e).run P w = .ok n w:=by
 unfold tyk at he
 split at he
 ·rename_i hu
  simp only [Option.map_eq_some_iff] at he
  obtain ⟨i,hi,rfl⟩:=he
  exact ⟨by simp [isAgg,run_underlying hu],λn hn=>by cases hn;simp [sizeOf,typeInfo,hi]⟩
 ·rename_i hu
  simp only [Option.map_eq_some_iff] at he
  obtain ⟨i,hi,rfl⟩:=he
  exact ⟨by simp [isAgg,run_underlying hu],λn hn=>by cases hn;simp [sizeOf,typeInfo,hi]⟩
 ·cases he
 ·cases he
 ·cases he
 ·rename_i d h1 h2 h3 h4 hu
  cases he
  refine ⟨?_,by simp⟩
  simp only [isAgg,Sem.run_bind,run_underlying hu,Result.andThen_ok]
  cases d <;> first | rfl | (exfalso;first | exact h1 _ rfl | exact h2 _ _ rfl | exact h3 _ rfl)
theorem qn6 {e:TypeId} {k:Option Nat} (he:tyk P e = some k) {cs:List qd} {c:Array Value} {o:Nat} {x:qd} {γ:Nat->Option Nat} {imm:Nat->Nat->Option Value}
  (hc:qp γ imm cs c.toList) (hx:cut cs o k = some x) (w:World):∃u,(part e c o).run P w = .ok u w/\qC γ imm x u/\x.dim = x:=by
 obtain ⟨h1,h2⟩:=qgt he w
 obtain ⟨h3,h4,h5⟩:=qry hc hx
 cases k with
 | none=>
  simp only at h3 h5
  refine ⟨_,?_,h3,h4⟩
  have:c[o]? = some (c.toList.getD o undef):=by
   rw [<-Array.getElem?_toList,jh h5];simp [List.getD,jh h5]
  simp only [part,Sem.run_bind,h1,Result.andThen_ok,Option.isSome_none,jl,if_false,this]
  rfl
 | some k=>
  simp only at h3 h5
  refine ⟨_,?_,h3,h4⟩
  simp only [part,Sem.run_bind,h1,Result.andThen_ok,Option.isSome_some,if_true,h2 k rfl]
  have:c.extract o (o + k) = (List.take k (List.drop o c.toList)).toArray:=by
   apply Array.ext'
   simp [Array.toList_extract,List.extract_eq_take_drop]
  rw [this];rfl
theorem qBb {k:Nat} {x y:qd} {vx vy:Value} {b:Bool} {γ:Nat->Option Nat} {imm:Nat->Nat->Option Value} (hn:qCi k x y = some b) (hx:qC γ imm x vx) (hy:qC γ imm y vy) {ty:TypeId} (w:World)
  (h0:k = 0->∃e,P.underlying ty = some (.pointer e)/\∃n,qfw P e = some n/\n ≠ 0) (h1:k = 1->∃ms,P.underlying ty = some (.interface ms)) (h2:k = 2->∃x y z,P.underlying ty = some (.func x y z)) (h3:k = 3->∃x y,P.underlying ty = some (.map x y)) :
  (Op.equal ty vx vy).run P w = .ok b w:=by
 have key:∀d,(Op.equalIn (d + 1) ty vx vy).run P w = .ok b w:=by
  intro d
  unfold qCi at hn
  split at hn
  ·obtain ⟨e,he,n,E,I⟩:=h0 rfl
   split at hn <;> (try simp only [jj] at hn) <;> (try simp only [qC] at hx hy)
   ·subst hn hx hy;simp [Op.equalIn,run_underlying he]
   ·subst hn hx;obtain ⟨_,_,rfl⟩:=hy;simp [Op.equalIn,run_underlying he]
   ·subst hn hy;obtain ⟨_,_,rfl⟩:=hx;simp [Op.equalIn,run_underlying he]
   ·subst hn hx;obtain ⟨_,_,rfl,_⟩:=hy;simp [Op.equalIn,run_underlying he]
   ·subst hn hy;obtain ⟨_,_,rfl,_⟩:=hx;simp [Op.equalIn,run_underlying he]
   ·split at hn
    ·rename_i e1
     subst e1
     cases hn
     obtain ⟨p,hp,rfl⟩:=hx
     obtain ⟨q,hq,rfl⟩:=hy
     rw [hp] at hq;cases hq
     rename_i o o'
     simp [Op.equalIn,run_underlying he,qbQ E,I,sameAddr]
     rw [Bool.eq_iff_iff];simp
    ·cases hn
   ·cases hn
  ·obtain ⟨ms,he⟩:=h1 rfl
   split at hn <;> (try simp only [jj] at hn) <;> (try simp only [qC] at hx hy)
   ·subst hn hx hy;simp [Op.equalIn,run_underlying he]
   ·subst hn hx;obtain ⟨_,rfl,_⟩:=hy;simp [Op.equalIn,run_underlying he]
   ·subst hn hy;obtain ⟨_,rfl,_⟩:=hx;simp [Op.equalIn,run_underlying he]
   ·cases hn
  ·obtain ⟨p,q,r,he⟩:=h2 rfl
   split at hn <;> (try simp only [jj] at hn) <;> (try simp only [qC] at hx hy)
   ·subst hn hx hy;simp [Op.equalIn,run_underlying he]
   ·subst hn hx;obtain ⟨_,_,rfl,_⟩:=hy;simp [Op.equalIn,run_underlying he]
   ·subst hn hy;obtain ⟨_,_,rfl,_⟩:=hx;simp [Op.equalIn,run_underlying he]
   ·cases hn
  ·obtain ⟨p,q,he⟩:=h3 rfl
   split at hn <;> (try simp only [jj] at hn) <;> (try simp only [qC] at hx hy)
   ·subst hn hx hy;simp [Op.equalIn,run_underlying he]
   ·subst hn hx;obtain ⟨_,_,rfl⟩:=hy;simp [Op.equalIn,run_underlying he]
   ·subst hn hy;obtain ⟨_,_,rfl⟩:=hx;simp [Op.equalIn,run_underlying he]
   ·cases hn
  ·cases hn
 exact key 9999
theorem qjK (op:BinOp) (ho:op = .eql\/op = .neq) (ty:TypeId) (x y:Value) (b:Bool) (w:World) (h:(Op.equal ty x y).run P w = .ok b w)
  (hi:∀k n,x ≠ .int k n) (hs:∀s,x ≠ .string s) (hf:∀k n,x ≠ .float k n) (hc:∀k n m,x ≠ .complex k n m):(binOp op ty x y).run P w = .ok (.bool (b != (qhh op))) w:=by
 rcases ho with rfl | rfl
 ·have:binOp .eql ty x y = (do pure (.bool (<-Op.equal ty x y)):Sem Value):=by
   cases x <;> cases y <;> first | rfl | exact absurd rfl (hi _ _) | exact absurd rfl (hs _) | exact absurd rfl (hf _ _) | exact absurd rfl (hc _ _ _)
  rw [this];simp [h,qhh]
 ·have:binOp .neq ty x y = (do pure (.bool (!(<-Op.equal ty x y))):Sem Value):=by
   cases x <;> cases y <;> first | rfl | exact absurd rfl (hi _ _) | exact absurd rfl (hs _) | exact absurd rfl (hf _ _) | exact absurd rfl (hc _ _ _)
  rw [this];simp [h,qhh]
end
section
variable {P:Program} {gl:Nat->Option (List qd)} {G:qi} {w:World} {h:List qj} {t:List qd} {a:Act}
theorem qG {α β:Type} {x:Option α} {f:α->Option β} {b:β} (h:(x >>= f) = some b):∃y,x = some y/\f y = some b:=by
 cases x with
 | none=>cases h
 | some y=>exact ⟨y,rfl,h⟩
theorem qcn {α β:Type} {x:Option α} {f:α->β} {b:β} (h:x.map f = some b):∃y,x = some y/\f y = b:=by
 cases x with
 | none=>cases h
 | some y=>exact ⟨y,rfl,by simpa using h⟩
theorem qkL (hr:Rel P gl G h w) (ht:qaJ G w t a.tmps) {x:Operand} {ax:qB} (hx:opd gl x = some ax) {d m n:Nat} (hb:bound t (some ax) d = some n) (hm:n <= m) (c:BoundsCode) :
  (Instr.sliceBound (a.eval x) m c).run P w = .ok n w:=by
 have hv:=qai hr ht hx
 simp only [bound] at hb
 split at hb
 ·rename_i k i he
  rw [he] at hv
  simp only [qi.V,qC] at hv
  split at hb
  ·rename_i h0
   cases hb
   have:0 <= i/\i <= (m:Int):=⟨h0,zo⟩
   simp [Instr.sliceBound,hv,asIntOf,this]
  ·cases hb
 ·cases hb
theorem qoO (hr:Rel P gl G h w) (ht:qaJ G w t a.tmps) {lo hi:Option Operand} {alo ahi:Option qB} (hlo:qfv gl lo = some alo) (hhi:qfv gl hi = some ahi)
  {len cap l m:Nat} (hl:bound t alo 0 = some l) (hm:bound t ahi len = some m) (h1:l <= m) (h2:m <= cap) (sl:Bool) :
  (Instr.sliceBounds sl len cap (lo.map a.eval) (hi.map a.eval) none).run P w = .ok (l,m,cap) w:=by
 have hm':∀c:BoundsCode,(match hi.map a.eval,(none:Option Value) with
   | some v,some _=>Instr.sliceBound v cap .slice3B
   | some v,none=>Instr.sliceBound v cap c
   | none,none=>pure len
   | none, some _ => stuck "Slice: max without high" : Sem Nat).run P w = .ok m w := by
  intro c
  cases hi with
  | none=>
   simp only [qfv,jj] at hhi
   subst hhi
   simp only [bound,jj] at hm
   subst hm
   rfl
  | some x=>
   simp only [qfv] at hhi
   obtain ⟨ax,hx,rfl⟩:=qcn hhi
   exact qkL hr ht hx hm zo c
 have hl':(match lo.map a.eval with
   | some v=>Instr.sliceBound v m .sliceB
   | none=>pure 0:Sem Nat).run P w = .ok l w:=by
  cases lo with
  | none=>
   simp only [qfv,jj] at hlo
   subst hlo
   simp only [bound,jj] at hl
   subst hl
   rfl
  | some x=>
   simp only [qfv] at hlo
   obtain ⟨ax,hx,rfl⟩:=qcn hlo
   exact qkL hr ht hx hl h1 .sliceB
 simp only [Instr.sliceBounds,Sem.run_bind,Sem.run_pure,Result.andThen_ok]
 have hm'':=hm' (if sl then .sliceAcap else .sliceAlen)
 cases hh:hi.map a.eval with
 | none=>
  rw [hh] at hm''
  simp only [Sem.run_pure,Result.ok.injEq] at hm''
  obtain ⟨rfl,_⟩:=hm''
  simp only []
  cases hq:lo.map a.eval with
  | none=>
   rw [hq] at hl'
   simp only [Sem.run_pure,Result.ok.injEq] at hl'
   obtain ⟨rfl,_⟩:=hl'
   rfl
  | some v=>
   rw [hq] at hl'
   simp only at hl'
   simp [hl']
 | some u=>
  rw [hh] at hm''
  simp only at hm''
  simp only [Sem.run_bind,hm'',Result.andThen_ok]
  cases hq:lo.map a.eval with
  | none=>
   rw [hq] at hl'
   simp only [Sem.run_pure,Result.ok.injEq] at hl'
   obtain ⟨rfl,_⟩:=hl'
   rfl
  | some v=>
   rw [hq] at hl'
   simp only at hl'
   simp [hl']
end
section
variable {P:Program} {gl:Nat->Option (List qd)} {G:qi} {w:World} {h:List qj} {t:List qd} {a:Act}
def qb6 (P:Program) (G:qi) (w:World) (a:Act) (o:Oper) (v:qd):Prop:=
 ∃u,(execOp a.eval o).run P w = .ok (.value u) w/\G.V v u/\v.dim = v
theorem qpl (hr:Rel P gl G h w) (ht:qaJ G w t a.tmps) {o:Oper} {x:Operand} {ax:qB} (ho:o.op = .move x) (hx:opd gl x = some ax):qb6 P G w a o (ev t ax):=
 ⟨a.eval x,by simp [execOp,ho],qai hr ht hx,qnA t ax⟩
theorem qpn (hr:Rel P gl G h w) (ht:qaJ G w t a.tmps) {o:Oper} {c x y:Operand} {ac ax ay:qB} {v:qd} (ho:o.op = .pick c x y) (hc:opd gl c = some ac) (hx:opd gl x = some ax) (hy:opd gl y = some ay)
  (hp:pureV t (.pick ac ax ay) = some v):qb6 P G w a o v:=by
 have E:=qai hr ht hc
 simp only [pureV] at hp
 split at hp
 ·rename_i he;rw [he] at E;simp only [qi.V,qC] at E;cases hp
  exact ⟨a.eval x,by simp [execOp,ho,E,asBool],qai hr ht hx,qnA t ax⟩
 ·rename_i he;rw [he] at E;simp only [qi.V,qC] at E;cases hp
  exact ⟨a.eval y,by simp [execOp,ho,E,asBool],qai hr ht hy,qnA t ay⟩
 ·cases hp
theorem qpm (hr:Rel P gl G h w) (ht:qaJ G w t a.tmps) {o:Oper} {x:Operand} {ax:qB} {v:qd} (ho:o.op = .nilCheck x) (hx:opd gl x = some ax) (hp:pureV t (.nilc ax) = some v):qb6 P G w a o v:=by
 have hv:=qai hr ht hx
 simp only [pureV] at hp
 split at hp <;> rename_i he <;> (try (rw [he] at hv)) <;> (try cases hp) <;> simp only [qi.V,qC] at hv
 ·obtain ⟨b,hb,E⟩:=hv
  exact ⟨a.eval x,by simp [execOp,ho,E],by simp only [qi.V,qC];exact ⟨b,hb,E⟩,rfl⟩
 ·obtain ⟨b,p,E,hc⟩:=hv
  exact ⟨a.eval x,by simp [execOp,ho,E],by simp only [qi.V,qC];exact ⟨b,p,E,hc⟩,rfl⟩
 ·obtain ⟨b,p,E,hc⟩:=hv
  exact ⟨a.eval x,by simp [execOp,ho,E],by simp only [qi.V,qC];exact ⟨b,p,E,hc⟩,rfl⟩
 ·obtain ⟨b,hb,E⟩:=hv
  exact ⟨a.eval x,by simp [execOp,ho,E],by simp only [qi.V,qC];exact ⟨b,hb,E⟩,rfl⟩
 ·obtain ⟨b,E,hc⟩:=hv
  exact ⟨a.eval x,by simp [execOp,ho,E],by simp only [qi.V,qC];exact ⟨b,E,hc⟩,rfl⟩
theorem qt8 {x:qd} {v:Value} (hx:G.V x v) (hs:(∃k n,x = .int k n)\/(∃s,x = .str s)):(v ≠ .nilIface)/\∀xs,v ≠ .agg xs:=by
 rcases hs with ⟨k,n,rfl⟩ | ⟨s,rfl⟩
 ·simp only [qi.V,qC] at hx;subst hx;simp
 ·simp only [qi.V,qC] at hx;obtain ⟨b,rfl,_⟩:=hx;simp
theorem qoJ {op:BinOp} {x y v:qd} (hv:qeV op x y = some v):(∃k n,x = .int k n)\/(∃s,x = .str s):=by
 unfold qeV at hv
 split at hv
 ·exact .inl ⟨_,_,rfl⟩
 ·exact .inr ⟨_,rfl⟩
 ·cases hv
theorem qhW (hr:Rel P gl G h w) (ht:qaJ G w t a.tmps) {o:Oper} {op:BinOp} {ty yt:TypeId} {x y:Operand} {ax ay:qB} {v:qd} (ho:o.op = .binOp op ty x y yt) (hx:opd gl x = some ax) (hy:opd gl y = some ay)
  (hp:qeV op (ev t ax) (ev t ay) = some v):qb6 P G w a o v:=by
 have E:=qai hr ht hx
 have I:=qai hr ht hy
 obtain ⟨h1,h2,h3⟩:=qvP (P:=P) hp w E I ty
 obtain ⟨n1,n2⟩:=qt8 E (qoJ hp)
 have hg:=qfG (P:=P) (op:=op) (t:=ty) (x:=x) (y:=y) (a:=a.eval x) (b:=a.eval y) w (.inl λhh=>n1 hh.1) (λxs _ hh _=>n2 xs hh)
 exact ⟨qdK v,by simp [execOp,ho,hg,h1],h2,h3⟩
theorem qsu (hr:Rel P gl G h w) (ht:qaJ G w t a.tmps) {o:Oper} {op:BinOp} {ty yt:TypeId} {x y:Operand} {ax ay:qB} {v:qd} (ho:o.op = .binOp op ty x y yt) (hx:opd gl x = some ax) (hy:opd gl y = some ay)
  (hop:op = .eql\/op = .neq) (hu:P.underlying ty = some .bool) (hp:pureV t (.eqb (qhh op) ax ay) = some v):qb6 P G w a o v:=by
 have I:=qai hr ht hx
 have E:=qai hr ht hy
 simp only [pureV] at hp
 split at hp
 ·rename_i p q e1 e2
  rw [e1] at I;rw [e2] at E
  simp only [qi.V,qC] at I E
  cases hp
  have he:(Op.equal ty (.bool p) (.bool q)).run P w = .ok (p == q) w:=by
   have key:∀d,(Op.equalIn (d + 1) ty (.bool p) (.bool q)).run P w = .ok (p == q) w:=λd=>by simp [Op.equalIn,run_underlying hu]
   exact key 9999
  have hb:=qjK op hop ty (.bool p) (.bool q) _ w he (by simp) (by simp) (by simp) (by simp)
  have hg:=qfG (P:=P) (op:=op) (t:=ty) (x:=x) (y:=y) (a:=.bool p) (b:=.bool q) w (.inl (by simp)) (by simp)
  exact ⟨_,by simp [execOp,ho,I,E,hg,hb];rfl,by simp [qi.V,qC],rfl⟩
 ·cases hp
theorem qf7 (hr:Rel P gl G h w) (ht:qaJ G w t a.tmps) {o:Oper} {op:BinOp} {ty yt:TypeId} {x y:Operand} {ax ay:qB} {v:qd} {k:Nat} (ho:o.op = .binOp op ty x y yt) (hx:opd gl x = some ax) (hy:opd gl y = some ay)
  (hop:op = .eql\/op = .neq)
  (h0:k = 0->∃e,P.underlying ty = some (.pointer e)/\∃n,qfw P e = some n/\n ≠ 0) (h1:k = 1->(∃ms,P.underlying ty = some (.interface ms))/\(isC x = true\/isC y = true))
  (h2:k = 2->∃x y z,P.underlying ty = some (.func x y z)) (h3:k = 3->∃x y,P.underlying ty = some (.map x y))
  (hp:pureV t (.eqi k (qhh op) ax ay) = some v):qb6 P G w a o v:=by
 have E:=qai hr ht hx
 have Y:=qai hr ht hy
 simp only [pureV] at hp
 obtain ⟨b,hb,rfl⟩:=qcn hp
 have he:=qBb hb E Y (ty:=ty) w h0 (λe=>(h1 e).1) h2 h3
 have I:(∀k n,a.eval x ≠ .int k n)/\(∀s,a.eval x ≠ .string s)/\(∀k n,a.eval x ≠ .float k n)/\(∀k n m,a.eval x ≠ .complex k n m)/\(∀xs,a.eval x ≠ .agg xs)/\(k ≠ 1->a.eval x ≠ .nilIface):=by
  unfold qCi at hb
  generalize ev t ax = p at hb E
  generalize ev t ay = q at hb Y
  generalize a.eval x = u at E ⊢
  split at hb
  all_goals first
   | (cases hb;done)
   | (split at hb <;> first
     | (cases hb;done)
     | (simp only [qi.V,qC] at E
        first
         | (subst E;simp;done)
         | (obtain ⟨_,_,rfl⟩:=E;simp;done)
         | (obtain ⟨_,_,rfl,_⟩:=E;simp;done)
         | (obtain ⟨_,rfl,_⟩:=E;simp;done)))
 obtain ⟨s1,s2,s3,s4,s5,s6⟩:=I
 have a1:=qjK op hop ty (a.eval x) (a.eval y) _ w he s1 s2 s3 s4
 have hg:=qfG (P:=P) (op:=op) (t:=ty) (x:=x) (y:=y) (a:=a.eval x) (b:=a.eval y) w (by
  by_cases hk:k = 1
  ·rcases (h1 hk).2 with h3 | h3
   ·exact .inr (.inl h3)
   ·exact .inr (.inr h3)
  ·exact .inl λhh=>s6 hk hh.1) (λxs _ hh _=>s5 xs hh)
 exact ⟨_,by simp [execOp,ho,hg,a1];rfl,by simp [qi.V,qC],rfl⟩
theorem qwI (hr:Rel P gl G h w) (ht:qaJ G w t a.tmps) {o:Oper} {op:UnOp} {ty:TypeId} {x:Operand} {ax:qB} {v:qd} (ho:o.op = .unOp op ty x) (hx:opd gl x = some ax)
  (hp:pureV t (.un op ax) = some v):qb6 P G w a o v:=by
 have hv:=qai hr ht hx
 simp only [pureV] at hp
 unfold unV at hp
 split at hp <;> (try cases hp) <;> (rename_i e1;rw [e1] at hv;simp only [qi.V,qC] at hv)
 ·exact ⟨_,by simp [execOp,ho,hv,Op.unary,Op.intArith];rfl,by simp [qi.V,qC],rfl⟩
 ·exact ⟨_,by simp [execOp,ho,hv,Op.unary];rfl,by simp [qi.V,qC],rfl⟩
theorem qst (hr:Rel P gl G h w) (ht:qaJ G w t a.tmps) {o:Oper} {s d:TypeId} {x:Operand} {ax:qB} {v:qd} {k j:IntKind} (ho:o.op = .convert s d x) (hx:opd gl x = some ax)
  (hs:P.underlying s = some (.int j)) (hd:P.underlying d = some (.int k)) (hp:pureV t (.cvi k ax) = some v):qb6 P G w a o v:=by
 have hv:=qai hr ht hx
 simp only [pureV] at hp
 split at hp
 ·rename_i e1;rw [e1] at hv;simp only [qi.V,qC] at hv;cases hp
  exact ⟨_,by simp [execOp,ho,hv,convert,run_underlying hs,run_underlying hd,Conv.intToInt];rfl,by simp [qi.V,qC],rfl⟩
 ·cases hp
theorem qsB (hr:Rel P gl G h w) (ht:qaJ G w t a.tmps) {o:Oper} {ty:TypeId} {x:Operand} {ax:qB} {v:qd} (ho:o.op = .makeInterface ty x) (hx:opd gl x = some ax)
  {d:TypeDesc} (hu:P.underlying ty = some d) (hd:∀ms,d ≠ .interface ms) (hp:pureV t (.mkI ty ax) = some v):qb6 P G w a o v:=by
 have hv:=qai hr ht hx
 simp only [pureV] at hp
 have I:(Instr.makeInterface ty (a.eval x)).run P w = .ok (.iface ty (a.eval x)) w:=by
  simp only [Instr.makeInterface,Sem.run_bind,run_underlying hu,Result.andThen_ok]
  cases d <;> first | rfl | exact absurd rfl (hd _)
 have E:∀v,v = .iface ty (ev t ax)->qb6 P G w a o v:=by
  rintro v rfl
  exact ⟨.iface ty (a.eval x),by simp [execOp,ho,I],by simp only [qi.V,qC];exact ⟨_,rfl,hv⟩,rfl⟩
 split at hp
 ·cases hp
 ·cases hp;exact E _ rfl
theorem qsA (hr:Rel P gl G h w) (ht:qaJ G w t a.tmps) {o:Oper} {f:FuncId} {x y:Array Operand} {ax ay:List qB} {v:qd} (ho:o.op = .makeFunc (.func f) x y) (hx:qvu gl x = some ax) (hy:qvu gl y = some ay)
  (hp:pureV t (.mkF f ax ay) = some v):qb6 P G w a o v:=by
 simp only [pureV,jj] at hp
 subst hp
 exact ⟨.func (.func f) (x.map a.eval) (y.map a.eval),by simp [execOp,ho,Instr.makeFunc],by simp only [qi.V,qC];exact ⟨_,_,rfl,qkd hr ht hx,qkd hr ht hy⟩,rfl⟩
theorem qwH (hr:Rel P gl G h w) (ht:qaJ G w t a.tmps) {o:Oper} {s:TypeId} {x:Operand} {ax:qB} {v:qd} {i:Nat} {fs:Array Field} {f:Field} (ho:o.op = .fieldAddr s x i) (hx:opd gl x = some ax)
  (hu:P.underlying s = some (.struct fs)) (hf:fs[i]? = some f) {n:Nat} (hn:qfw P f.type = some n) (I:n ≠ 0) (hp:pureV t (.fa f.offset ax) = some v):qb6 P G w a o v:=by
 have hv:=qai hr ht hx
 simp only [pureV] at hp
 have E:∀b p,a.eval x = .pointer (some ⟨b,p,none⟩)->(Instr.fieldAt s (a.eval x) i).run P w = .ok (.pointer (some ⟨b,p + f.offset,none⟩)) w:=by
  intro b p hb
  simp [Instr.fieldAt,run_underlying hu,hf,hb,Instr.sureAddr,fieldPlace,qbQ hn,I,qcE]
 split at hp
 ·rename_i e1;rw [e1] at hv;simp only [qi.V,qC] at hv;cases hp
  obtain ⟨b,hb,he⟩:=hv
  exact ⟨_,by simp [execOp,ho,E _ _ he];rfl,by simp only [qi.V,qC];exact ⟨b,hb,rfl⟩,rfl⟩
 ·rename_i e1;rw [e1] at hv;simp only [qi.V,qC] at hv;cases hp
  obtain ⟨b,p,he,hc⟩:=hv
  exact ⟨_,by simp [execOp,ho,E _ _ he];rfl,by simp only [qi.V,qC];exact ⟨b,p,by rw [jt],hc⟩,rfl⟩
 ·cases hp
theorem qsx (hr:Rel P gl G h w) (ht:qaJ G w t a.tmps) {o:Oper} {s:TypeId} {x:Operand} {ax:qB} {v:qd} {i:Nat} {fs:Array Field} {f:Field} {k:Option Nat} (ho:o.op = .field s x i) (hx:opd gl x = some ax)
  (hu:P.underlying s = some (.struct fs)) (hf:fs[i]? = some f) (hk:tyk P f.type = some k) (hp:pureV t (.fld f.offset k ax) = some v):qb6 P G w a o v:=by
 have hv:=qai hr ht hx
 simp only [pureV] at hp
 split at hp
 ·rename_i e1;rw [e1] at hv;simp only [qi.V,qC] at hv
  obtain ⟨c,he,hc⟩:=hv
  obtain ⟨u,h1,h2,h3⟩:=qn6 hk hc hp w
  exact ⟨u,by simp [execOp,ho,he,Instr.field,run_underlying hu,hf,asAgg,h1],h2,h3⟩
 ·cases hp
theorem qsw (hr:Rel P gl G h w) (ht:qaJ G w t a.tmps) {o:Oper} {x:Operand} {ax:qB} {v:qd} {i:Nat} (ho:o.op = .extract x i) (hx:opd gl x = some ax)
  (hp:pureV t (.ext ax i) = some v):qb6 P G w a o v:=by
 have hv:=qai hr ht hx
 simp only [pureV] at hp
 split at hp
 ·rename_i e1;rw [e1] at hv;simp only [qi.V,qC] at hv
  obtain ⟨c,he,hc⟩:=hv
  obtain ⟨y,hy,rfl⟩:=qcn hp
  obtain ⟨u,hu,h1⟩:=hc.get hy
  simp only [Array.getElem?_toList] at hu
  exact ⟨u,by simp [execOp,ho,he,Instr.extract,hu],qcx h1,qbf _⟩
 ·cases hp
end
section
variable {P:Program} {gl:Nat->Option (List qd)} {G:qi} {w:World} {h:List qj} {t:List qd} {a:Act}
theorem qhT (s:ByteArray) (l m:Nat):(s.extract l m).data.toList = (s.data.toList.drop l).take (m - l):=by
 simp [ByteArray.data_extract,Array.toList_extract,List.extract_eq_take_drop]
theorem qpo (hr:Rel P gl G h w) (ht:qaJ G w t a.tmps) {o:Oper} {ty:TypeId} {x:Operand} {lo hi:Option Operand} {ax:qB} {E I:Option qB} {v:qd} (ho:o.op = .slice ty x lo hi none) (hx:opd gl x = some ax)
  (a1:qfv gl lo = some E) (a7:qfv gl hi = some I) (hu:P.underlying ty = some .string) (hp:pureV t (.subS ax E I) = some v):qb6 P G w a o v:=by
 have hv:=qai hr ht hx
 simp only [pureV] at hp
 split at hp
 rotate_left
 ·cases hp
 rename_i s hs
 rw [hs] at hv
 simp only [qi.V,qC] at hv
 obtain ⟨b,he,hb⟩:=hv
 have Y:b.size = s.length:=by rw [<-hb];rfl
 split at hp
 ·rename_i m hm
  split at hp
  ·rename_i l hl
   split at hp
   ·rename_i a6
    cases hp
    have a8:=qoO hr ht a1 a7 (len:=b.size) (cap:=b.size) (w:=w) hl (by rw [Y];exact hm) a6.1 zo false
    refine ⟨.string (b.extract l m),?_,?_,rfl⟩
    ·simp [execOp,ho,he,Instr.sliceAt,Instr.slice,run_underlying hu,a8]
    ·simp only [qi.V,qC];exact ⟨_,rfl,by rw [qhT,hb]⟩
   ·cases hp
  ·cases hp
 ·cases hp
theorem qph (hr:Rel P gl G h w) (ht:qaJ G w t a.tmps) {o:Oper} {ty e:TypeId} {x i:Operand} {ax ai:qB} {v:qd} {k:Nat} (ho:o.op = .indexAddr ty x i) (hx:opd gl x = some ax) (hi:opd gl i = some ai)
  (hu:P.underlying ty = some (.slice e)) (hk:qfw P e = some k) (hp:pureV t (.ixaL k ax ai) = some v):qb6 P G w a o v:=by
 have hv:=qai hr ht hx
 have hn:=qai hr ht hi
 simp only [pureV] at hp
 split at hp
 ·rename_i xs f kk n e1 e2
  rw [e1] at hv;rw [e2] at hn
  simp only [qi.V,qC] at hv hn
  obtain ⟨b,len,cap,he,h1,h2,h3,h4,⟨k',h6⟩,h5⟩:=hv
  split at hp
  ·rename_i hb
   split at hp
   ·rename_i y hy
    split at hp
    ·rename_i I
     cases hp
     rcases h5 with rfl | ⟨p,q,rfl,hE⟩
     ·simp at hy
     ·have Y:k' = k:=by rw [<-h6 y (List.mem_of_getElem? hy)];exact I
      subst Y
      have hc:=qQ.get h6 hE hy
      refine ⟨.pointer (some ⟨p,q + n.toNat * k',none⟩),?_,?_,rfl⟩
      ·have E:0 <= n/\n < (len:Int):=⟨hb.1,zo⟩
       simp [execOp,ho,he,hn,Instr.indexAt,asIntOf,run_underlying hu,E,qbQ hk,qcE]
      ·simp only [qi.V,qC];exact ⟨p,_,rfl,hc⟩
    ·cases hp
   ·cases hp
  ·cases hp
 ·rename_i id p0 len cap more kk n e1 e2
  rw [e1] at hv;rw [e2] at hn
  simp only [qi.V,qC] at hv hn
  obtain ⟨b,c,hb,he,_⟩:=hv
  split at hp
  ·rename_i E
   cases hp
   refine ⟨.pointer (some ⟨b,p0 + n.toNat * k,none⟩),?_,?_,rfl⟩
   ·simp [execOp,ho,he,hn,Instr.indexAt,asIntOf,run_underlying hu,E,qbQ hk,qcE]
   ·simp only [qi.V,qC];exact ⟨b,hb,rfl⟩
  ·cases hp
 ·cases hp
theorem qpg (hr:Rel P gl G h w) (ht:qaJ G w t a.tmps) {o:Oper} {ty e:TypeId} {x i:Operand} {ax ai:qB} {v:qd} {k len:Nat} (ho:o.op = .indexAddr ty x i) (hx:opd gl x = some ax) (hi:opd gl i = some ai)
  (hu:P.underlying ty = some (.array len e)) (hk:qfw P e = some k) (hp:pureV t (.ixaA len k ax ai) = some v):qb6 P G w a o v:=by
 have hv:=qai hr ht hx
 have hn:=qai hr ht hi
 simp only [pureV] at hp
 have E:∀b p kk n,a.eval x = .pointer (some ⟨b,p,none⟩)->a.eval i = .int kk n->0 <= n/\n < (len:Int)->(Instr.indexAt ty (a.eval x) (a.eval i)).run P w = .ok (.pointer (some ⟨b,p + n.toNat * k,none⟩)) w:=by
  intro b p kk n h1 h2 h3
  simp [h1,h2,Instr.indexAt,asIntOf,run_underlying hu,Instr.sureAddr,h3,qbQ hk,qcE]
 split at hp
 ·rename_i e1 e2;rw [e1] at hv;rw [e2] at hn;simp only [qi.V,qC] at hv hn
  obtain ⟨b,hb,he⟩:=hv
  split at hp
  ·rename_i I
   cases hp
   exact ⟨_,by simp only [execOp,ho];exact qep (E _ _ _ _ he hn I),by simp only [qi.V,qC];exact ⟨b,hb,rfl⟩,rfl⟩
  ·cases hp
 ·rename_i e1 e2;rw [e1] at hv;rw [e2] at hn;simp only [qi.V,qC] at hv hn
  obtain ⟨b,p,he,hc⟩:=hv
  split at hp
  ·rename_i I
   cases hp
   exact ⟨_,by simp only [execOp,ho];exact qep (E _ _ _ _ he hn I),by simp only [qi.V,qC];exact ⟨b,p,by rw [jt],hc⟩,rfl⟩
  ·cases hp
 ·cases hp
theorem qsz (hr:Rel P gl G h w) (ht:qaJ G w t a.tmps) {o:Oper} {ty:TypeId} {x i:Operand} {ax ai:qB} {v:qd} (ho:o.op = .index ty x i) (hx:opd gl x = some ax) (hi:opd gl i = some ai)
  (hu:P.underlying ty = some .string) (hp:pureV t (.ixS ax ai) = some v):qb6 P G w a o v:=by
 have hv:=qai hr ht hx
 have hn:=qai hr ht hi
 simp only [pureV] at hp
 split at hp
 ·rename_i e1 e2
  rw [e1] at hv;rw [e2] at hn
  simp only [qi.V,qC] at hv hn
  obtain ⟨b,he,hb⟩:=hv
  split at hp
  ·rename_i h0
   obtain ⟨c,hc,rfl⟩:=qcn hp
   rename_i n
   have E:b[n.toNat]? = some c:=by
    rw [<-hb] at hc
    simp only [Array.getElem?_toList] at hc
    obtain ⟨h1,h2⟩:=je.1 hc
    have:n.toNat < b.size:=h1
    rw [getElem?_pos b n.toNat this]
    exact congrArg some h2
   exact ⟨_,by simp [execOp,ho,he,hn,Instr.index,asIntOf,run_underlying hu,h0,E];rfl,by simp [qi.V,qC],rfl⟩
  ·cases hp
 ·cases hp
theorem qsy (hr:Rel P gl G h w) (ht:qaJ G w t a.tmps) {o:Oper} {ty e:TypeId} {x i:Operand} {ax ai:qB} {v:qd} {k:Option Nat} {len:Nat} (ho:o.op = .index ty x i) (hx:opd gl x = some ax) (hi:opd gl i = some ai)
  (hu:P.underlying ty = some (.array len e)) (hk:tyk P e = some k) {n:Nat} (I:qfw P e = some n) (E:n = k.getD 1) (hp:pureV t (.ixA len k ax ai) = some v):qb6 P G w a o v:=by
 have hv:=qai hr ht hx
 have hn:=qai hr ht hi
 simp only [pureV] at hp
 split at hp
 ·rename_i e1 e2
  rw [e1] at hv;rw [e2] at hn
  simp only [qi.V,qC] at hv hn
  obtain ⟨c,he,hc⟩:=hv
  split at hp
  ·rename_i m hb
   obtain ⟨u,h1,h2,h3⟩:=qn6 hk hc hp w
   rw [<-E] at h1
   exact ⟨u,by simp [execOp,ho,he,hn,Instr.index,asIntOf,run_underlying hu,hb,qbQ I,h1],h2,h3⟩
  ·cases hp
 ·cases hp
theorem qpk (hr:Rel P gl G h w) (ht:qaJ G w t a.tmps) {o:Oper} {c:Go.Call} {x:Operand} {ty:TypeId} {ax:qB} {v:qd} (ho:o.op = .call c) (hc:c.callee = .builtin .len) (E:c.args.toList = [x]) (I:c.argTypes.toList = [ty]) (hx:opd gl x = some ax)
  (hu:P.underlying ty = some .string) (hp:pureV t (.len true ax) = some v):qb6 P G w a o v:=by
 have hv:=qai hr ht hx
 have ea:c.args = #[x]:=by rw [<-Array.toArray_toList (xs:=c.args),E]
 have et:c.argTypes = #[ty]:=by rw [<-Array.toArray_toList (xs:=c.argTypes),I]
 simp only [pureV] at hp
 split at hp
 ·rename_i hs
  rw [hs] at hv
  simp only [qi.V,qC] at hv
  obtain ⟨b,he,hb⟩:=hv
  cases hp
  rename_i s
  have Y:b.size = s.length:=by rw [<-hb];rfl
  exact ⟨_,by simp [execOp,ho,hc,ea,et,resolve,invoke,builtin,Builtin.len_,run_underlying hu,he];rfl,by simp [qi.V,qC,goInt,Y],rfl⟩
 ·cases hp
theorem qpj (hr:Rel P gl G h w) (ht:qaJ G w t a.tmps) {o:Oper} {c:Go.Call} {x:Operand} {ty e:TypeId} {ax:qB} {v:qd} (ho:o.op = .call c) (hc:c.callee = .builtin .len) (E:c.args.toList = [x]) (I:c.argTypes.toList = [ty]) (hx:opd gl x = some ax)
  (hu:P.underlying ty = some (.slice e)) (hp:pureV t (.len false ax) = some v):qb6 P G w a o v:=by
 have hv:=qai hr ht hx
 have ea:c.args = #[x]:=by rw [<-Array.toArray_toList (xs:=c.args),E]
 have et:c.argTypes = #[ty]:=by rw [<-Array.toArray_toList (xs:=c.argTypes),I]
 simp only [pureV] at hp
 split at hp
 ·rename_i hs
  rw [hs] at hv
  simp only [qi.V,qC] at hv
  obtain ⟨b,len,cap,he,h1,_⟩:=hv
  cases hp
  exact ⟨_,by simp [execOp,ho,hc,ea,et,resolve,invoke,builtin,Builtin.len_,run_underlying hu,he];rfl,by simp [qi.V,qC,goInt,h1],rfl⟩
 ·rename_i hs
  rw [hs] at hv
  simp only [qi.V,qC] at hv
  obtain ⟨b,cap,hb,he,_⟩:=hv
  cases hp
  exact ⟨_,by simp [execOp,ho,hc,ea,et,resolve,invoke,builtin,Builtin.len_,run_underlying hu,he];rfl,by simp [qi.V,qC,goInt],rfl⟩
 ·rename_i hs
  rw [hs] at hv
  simp only [qi.V,qC] at hv
  cases hp
  exact ⟨_,by simp [execOp,ho,hc,ea,et,resolve,invoke,builtin,Builtin.len_,run_underlying hu,hv];rfl,by simp [qi.V,qC,goInt],rfl⟩
 ·rename_i hs
  rw [hs] at hv
  simp only [qi.V,qC] at hv
  obtain ⟨b,hv⟩:=hv
  cases hp
  exact ⟨_,by simp [execOp,ho,hc,ea,et,resolve,invoke,builtin,Builtin.len_,run_underlying hu,hv];rfl,by simp [qi.V,qC,goInt],rfl⟩
 ·cases hp
theorem qnF (hr:Rel P gl G h w) (ht:qaJ G w t a.tmps) {o:Oper} {c:Go.Call} {x y:Operand} {ax ay:qB} {v:qd} {isMax:Bool} (ho:o.op = .call c) (hc:c.callee = .builtin (if isMax then .max else .min)) (E:c.args.toList = [x,y]) (hx:opd gl x = some ax) (hy:opd gl y = some ay)
  (hp:pureV t (.mm isMax ax ay) = some v):qb6 P G w a o v:=by
 have hv:=qai hr ht hx
 have hn:=qai hr ht hy
 have ea:c.args = #[x,y]:=by rw [<-Array.toArray_toList (xs:=c.args),E]
 simp only [pureV] at hp
 split at hp
 ·rename_i k p j q e1 e2
  rw [e1] at hv;rw [e2] at hn
  simp only [qi.V,qC] at hv hn
  cases hp
  cases isMax
  ·exact ⟨_,by simp [execOp,ho,hc,ea,resolve,invoke,builtin,Builtin.min_,Builtin.min2,hv,hn];rfl,by simp [qi.V,qC],rfl⟩
  ·exact ⟨_,by simp [execOp,ho,hc,ea,resolve,invoke,builtin,Builtin.max_,Builtin.max2,hv,hn];rfl,by simp [qi.V,qC],rfl⟩
 ·cases hp
theorem qpi {o:Oper} {c:Go.Call} {x:Operand} {ty e:TypeId} {n:Nat} (ho:o.op = .call c) (hc:c.callee = .builtin .len) (E:c.args.toList = [x]) (I:c.argTypes.toList = [ty])
  (hu:P.underlying ty = some (.array n e)):qb6 P G w a o (.int .i64 n):=by
 have ea:c.args = #[x]:=by rw [<-Array.toArray_toList (xs:=c.args),E]
 have et:c.argTypes = #[ty]:=by rw [<-Array.toArray_toList (xs:=c.argTypes),I]
 exact ⟨_,by simp [execOp,ho,hc,ea,et,resolve,invoke,builtin,Builtin.len_,run_underlying hu];rfl,by simp [qi.V,qC,goInt],rfl⟩
theorem qyD {ty:TypeId} {z:qd} (hz:qbO P ty = some z) (w:World):∃u,(zeroValue ty).run P w = .ok u w/\(∀γ imm,qC γ imm z u)/\z.lower 0 = true:=by
 unfold qbO at hz
 split at hz
 ·rename_i i hi
  obtain ⟨u,hu,hc⟩:=qG (by simpa [jA] using hz)
  exact ⟨u,by simp [zeroValue,typeInfo,hi,hu],λγ imm=>(qhL hc).1,(qhL (γ:=λ_=>none) (imm:=λ_ _=>none) hc).2⟩
 ·cases hz
theorem qru {v:Value} {z:qd} (h:qg1 v = some z):z.dim = z:=by
 unfold qg1 at h
 split at h
 ·obtain ⟨_,_,rfl⟩:=qcn h;rfl
 ·split at h
  ·cases h;rfl
  ·cases h
 ·unfold qdu at h
  split at h <;> first | (cases h;rfl) | (split at h <;> cases h;rfl) | cases h
theorem qsC (hr:Rel P gl G h w) (ht:qaJ G w t a.tmps) {o:Oper} {ty xt:TypeId} {x:Operand} {ax:qB} {v z:qd} (ho:o.op = .typeAssert x xt ty true) (hx:opd gl x = some ax)
  {d:TypeDesc} (hu:P.underlying ty = some d) (hd:∀ms,d ≠ .interface ms) (hz:qbO P ty = some z) (hp:pureV t (.tas ty z ax) = some v):qb6 P G w a o v:=by
 have hv:=qai hr ht hx
 obtain ⟨u,I,Y,_⟩:=qyD hz w
 simp only [pureV] at hp
 have E:qC G.γ G.imm (.tup [z,.bool false]) (.tuple #[u,.bool false]):=by
  simp only [qC,qp]
  exact ⟨_,rfl,u,[.bool false],rfl,Y _ _,_,[],rfl,rfl,rfl⟩
 split at hp
 ·rename_i e1;rw [e1] at hv;simp only [qi.V,qC] at hv;cases hp
  refine ⟨.tuple #[u,.bool false],?_,E,rfl⟩
  simp only [execOp,ho]
  refine qep ?_
  simp only [Instr.typeAssert,Sem.run_bind,run_underlying hu,Result.andThen_ok,hv]
  cases d <;> first | (simp [I];done) | exact absurd rfl (hd _)
 ·rename_i q y e1;rw [e1] at hv;simp only [qi.V,qC] at hv
  obtain ⟨y',hy,a1⟩:=hv
  split at hp
  ·rename_i hq
   cases hp
   refine ⟨.tuple #[y',.bool true],?_,?_,rfl⟩
   ·simp only [execOp,ho]
    refine qep ?_
    simp only [Instr.typeAssert,Sem.run_bind,run_underlying hu,Result.andThen_ok,hy]
    cases d <;> first | (simp [hq];done) | exact absurd rfl (hd _)
   ·simp only [qi.V,qC,qp]
    exact ⟨_,rfl,y',[.bool true],rfl,a1,_,[],rfl,rfl,rfl⟩
  ·rename_i hq
   cases hp
   refine ⟨.tuple #[u,.bool false],?_,E,rfl⟩
   simp only [execOp,ho]
   refine qep ?_
   simp only [Instr.typeAssert,Sem.run_bind,run_underlying hu,Result.andThen_ok,hy]
   cases d <;> first | (simp [hq,I];done) | exact absurd rfl (hd _)
 ·cases hp
end
theorem qjn (off:Nat):∀(vs:List Value) (i:Nat) (cells:Array Value),off + i + vs.length <= cells.size->
  ((vs.zipIdx i).foldl (λcs (c,j)=>cs.setIfInBounds (off + j) c) cells).toList = cells.toList.take (off + i) ++ vs ++ cells.toList.drop (off + i + vs.length)
 | [],i,cells,_=>by simp
 | v :: vs,i,cells,hl=>by
  have hi:off + i < cells.size:=by simp at hl;omega
  simp only [List.zipIdx_cons,List.foldl_cons]
  rw [qjn off vs (i + 1) _ (by simp at hl ⊢;omega)]
  simp only [Array.toList_setIfInBounds,jy]
  have e1:(cells.toList.set (off + i) v).take (off + (i + 1)) = cells.toList.take (off + i) ++ [v]:=by
   rw [<-jt,List.take_add_one]
   rw [List.take_set,List.set_eq_of_length_le (by simp;omega)]
   rw [jg (by simpa using hi)]
   rfl
  have e2:(cells.toList.set (off + i) v).drop (off + (i + 1) + vs.length) = cells.toList.drop (off + i + (vs.length + 1)):=by
   rw [List.drop_set_of_lt zo]
   congr 1
   omega
  rw [e1,e2]
  simp
theorem qsf (off:Nat) (v:Value) (cells:Array Value) (h:off + v.cells.size <= cells.size) :
  (v.cells.zipIdx.foldl (λcs (c,j)=>cs.setIfInBounds (off + j) c) cells).toList = cells.toList.take off ++ v.cells.toList ++ cells.toList.drop (off + v.cells.size):=by
 have:=qjn off v.cells.toList 0 cells (by simpa using h)
 rw [<-Array.foldl_toList,Array.toList_zipIdx]
 simpa using this
section
variable {γ:Nat->Option Nat} {imm:Nat->Nat->Option Value}
theorem qp.splice {cs:List qd} {c:List Value} {o:Nat} {xs:List qd} {vs:List Value} (h:qp γ imm cs c) (hx:qp γ imm xs vs):qp γ imm (splice cs o xs) (c.take o ++ vs ++ c.drop (o + vs.length)):=by
 unfold AE.splice
 rw [hx.length]
 exact ((h.take o).append hx).append (h.drop _)
theorem qhr (place:Nat->Option (Nat×Nat)):∀(parts:List (Nat×Value)) (E:List (Nat×Nat×qd)) (cs:List qd) (c:Array Value) (I:List qd),
  qp γ imm cs c.toList->(parts.length = E.length)->
  (∀(n:Nat) (i:Nat) (v:Value) (off size:Nat) (x:qd),parts[n]? = some (i,v)->E[n]? = some (off,size,x)->place i = some (off,size)/\qC γ imm x v)->
  qz cs E = some I->∃c':Array Value,Instr.fill place c parts = some c'/\qp γ imm I c'.toList
 | [],[],cs,c,I,h,_,_,hf=>by simp only [qz,jj] at hf;subst hf;exact ⟨c,rfl,h⟩
 | [],_ :: _,_,_,_,_,hl,_,_=>by simp at hl
 | _ :: _,[],_,_,_,_,hl,_,_=>by simp at hl
 | (i,v) :: parts,(off,size,x) :: E,cs,c,I,h,hl,hp,hf=>by
  obtain ⟨a6,hr⟩:=hp 0 i v off size x rfl rfl
  simp only [qz] at hf
  split at hf
  ·rename_i hh
   obtain ⟨h1,h2,h3⟩:=hh
   obtain ⟨k1,_⟩:=qb2 hr h3
   have hs:v.cells.size = size:=by have:=k1.length;simp at this;omega
   have a7:cs.length = c.size:=by simpa using h.length
   have Y:=qsf off v c (by rw [hs];omega)
   have a1:qp γ imm (splice cs off x.cells) (v.cells.zipIdx.foldl (λcs (c,j)=>cs.setIfInBounds (off + j) c) c).toList:=by
    rw [Y]
    have:=qp.splice (o:=off) h k1
    simpa using this
   obtain ⟨c',e1,e2⟩:=qhr place parts E _ _ I a1 (by simpa using hl) (λn i v off size x a b=>hp (n + 1) i v off size x (by simpa using a) (by simpa using b)) hf
   refine ⟨c',?_,e2⟩
   simp only [Instr.fill,a6]
   rw [if_neg (by rw [hs,<-a7];simp;omega)]
   exact e1
  ·cases hf
end
section
variable {P:Program} {gl:Nat->Option (List qd)} {G:qi} {w:World} {h:List qj} {t:List qd} {a:Act}
theorem qnZ {α β:Type} (f:α->Sem β) (g:α->β):∀(xs:List α),(∀x ∈ xs,(f x).run P w = .ok (g x) w)->(xs.mapM f).run P w = .ok (xs.map g) w
 | [],_=>by simp
 | x :: xs,hh=>by
  simp only [List.mapM_cons,Sem.run_bind,hh x (by simp),Result.andThen_ok,qnZ f g xs (λy hy=>hh y (by simp [hy])),Sem.run_pure,List.map_cons]
theorem qp8 {fs:Array Field} (E:(fs.all λf=>(qfw P f.type).isSome) = true) :
  (fs.mapM (λf=>do pure (f.offset,<-sizeOf f.type):Field->Sem (Nat×Nat))).run P w = .ok (fs.map λf=>(f.offset,(qfw P f.type).getD 0)) w:=by
 rw [Array.mapM_eq_mapM_toList]
 simp only [Sem.run_map]
 rw [qnZ (P:=P) (w:=w) _ (λf=>(f.offset,(qfw P f.type).getD 0)) fs.toList (λf hf=>by
  have:(qfw P f.type).isSome = true:=by
   rw [Array.all_eq_true'] at E
   exact E f (by simpa using hf)
  obtain ⟨n,hn⟩:=Option.isSome_iff_exists.1 this
  simp [qbQ hn,hn])]
 simp only [Result.andThen_ok]
 congr 1
 exact Array.ext' (by simp)
theorem qii (hr:Rel P gl G h w) (ht:qaJ G w t a.tmps) {fs:Array Field}:∀{ps:List (Nat×Operand)} {E:List (Nat×Nat×qB)},qjm P gl fs ps = some E->ps.length = E.length/\
  ∀(n i:Nat) (x:Operand) (off size:Nat) (ax:qB),ps[n]? = some (i,x)->E[n]? = some (off,size,ax)->(fs.map λf=>(f.offset,(qfw P f.type).getD 0))[i]? = some (off,size)/\G.V (ev t ax) (a.eval x)
 | [],E,hp=>by simp only [qjm,jj] at hp;subst hp;simp
 | (i,x) :: ps,E,hp=>by
  simp only [qjm] at hp
  split at hp
  ·rename_i f ax r hf hx Y
   split at hp
   ·rename_i s hs
    cases hp
    obtain ⟨h1,h2⟩:=qii hr ht Y
    refine ⟨by simp [h1],λn j y off size ay hn I=>?_⟩
    cases n with
    | zero=>
     simp only [jx,jj,js] at hn I
     obtain ⟨rfl,rfl⟩:=hn
     obtain ⟨rfl,rfl,rfl⟩:=I
     exact ⟨by simp [hf,hs],qai hr ht hx⟩
    | succ n=>exact h2 n j y off size ay (by simpa using hn) (by simpa using I)
   ·cases hp
  ·cases hp
theorem qfK (hr:Rel P gl G h w) (ht:qaJ G w t a.tmps) (k:Nat):∀{ps:List (Nat×Operand)} {E:List (Nat×qB)},qhb gl ps = some E->ps.length = E.length/\
  ∀(n i:Nat) (x:Operand) (j:Nat) (ax:qB),ps[n]? = some (i,x)->E[n]? = some (j,ax)->i = j/\G.V (ev t ax) (a.eval x)
 | [],E,hp=>by simp only [qhb,jj] at hp;subst hp;simp
 | (i,x) :: ps,E,hp=>by
  simp only [qhb] at hp
  split at hp
  ·rename_i ax r hx Y
   cases hp
   obtain ⟨h1,h2⟩:=qfK hr ht k Y
   refine ⟨by simp [h1],λn i' y j ay hn I=>?_⟩
   cases n with
   | zero=>
    simp only [jx,jj,js] at hn I
    obtain ⟨rfl,rfl⟩:=hn
    obtain ⟨rfl,rfl⟩:=I
    exact ⟨rfl,qai hr ht hx⟩
   | succ n=>exact h2 n i' y j ay (by simpa using hn) (by simpa using I)
  ·cases hp
theorem qgT {γ:Nat->Option Nat} {imm:Nat->Nat->Option Value} {v:Value} {z:qd} (hz:qg1 v = some z):qp γ imm z.cells v.cells.toList:=by
 unfold qg1 at hz
 split at hz
 ·obtain ⟨xs,hx,rfl⟩:=qcn hz
  exact (qj3 hx).1
 ·split at hz
  ·rename_i hh;simp only [Array.isEmpty_iff] at hh;subst hh;cases hz
   simp only [qd.cells,Value.cells,qp]
   exact ⟨_,[],rfl,by simp only [qC];exact ⟨#[],rfl,by simp [qp]⟩,rfl⟩
  ·cases hz
 ·have h1:=qgO (γ:=γ) (imm:=imm) hz
  have e1:z.cells = [z]:=by
   unfold qdu at hz
   split at hz <;> first | (cases hz;rfl) | (split at hz <;> cases hz;rfl) | cases hz
  have e2:v.cells = #[v]:=by
   unfold qdu at hz
   split at hz <;> first | rfl | (cases hz)
  rw [e1,e2]
  simp only [qp]
  exact ⟨v,[],rfl,h1,rfl⟩
theorem qfe {ty:TypeId} {z:qd} (hz:qbO P ty = some z) (w:World):∃u,(zeroValue ty).run P w = .ok u w/\(∀γ imm,qp γ imm z.cells u.cells.toList):=by
 unfold qbO at hz
 split at hz
 ·rename_i i hi
  obtain ⟨u,hu,hc⟩:=qG (by simpa [jA] using hz)
  exact ⟨u,by simp [zeroValue,typeInfo,hi,hu],λγ imm=>qgT hc⟩
 ·cases hz
theorem qk8 (hr:Rel P gl G h w) (ht:qaJ G w t a.tmps) {o:Oper} {ty:TypeId} {ps:Array (Nat×Operand)} {E:List (Nat×Nat×qB)} {v z:qd} {fs:Array Field} (ho:o.op = .build ty ps)
  (hu:P.underlying ty = some (.struct fs)) (a6:(fs.all λf=>(qfw P f.type).isSome) = true) (hz:qbO P ty = some z) (aa:qjm P gl fs ps.toList = some E)
  (hp:pureV t (.build z.cells E) = some v):qb6 P G w a o v:=by
 obtain ⟨u,a7,a8⟩:=qfe hz w
 simp only [pureV] at hp
 obtain ⟨cs,ad,rfl⟩:=qcn hp
 obtain ⟨h1,h2⟩:=qii hr ht aa
 obtain ⟨c',e1,e2⟩:=qhr (γ:=G.γ) (imm:=G.imm) (λi=>(fs.map λf=>(f.offset,(qfw P f.type).getD 0))[i]?) (ps.toList.map λ(i,x)=>(i,a.eval x)) (E.map λ(o,s,x)=>(o,s,ev t x)) z.cells u.cells cs (a8 _ _) (by simpa using h1)
  (λn i v off size x hn a1=>by
   simp only [jr,Option.map_eq_some_iff] at hn a1
   obtain ⟨⟨i',x'⟩,ac,Y⟩:=hn
   obtain ⟨⟨af,ae,ai⟩,ab,I⟩:=a1
   simp only [js] at Y I
   obtain ⟨rfl,rfl⟩:=Y
   obtain ⟨rfl,rfl,rfl⟩:=I
   exact h2 n _ _ _ _ _ ac ab) ad
 refine ⟨.agg c',?_,by simp only [qi.V,qC];exact ⟨c',rfl,e2⟩,rfl⟩
 simp only [execOp,ho]
 refine qep ?_
 simp only [Instr.build,Sem.run_bind,a7,Result.andThen_ok,run_underlying hu,qp8 a6]
 have:(ps.map λ(i,x)=>(i,a.eval x)).toList = ps.toList.map λ(i,x)=>(i,a.eval x):=by simp
 rw [this,e1]
 rfl
end
section
variable {γ:Nat->Option Nat} {imm:Nat->Nat->Option Value}
theorem qQ.of_get {xs:List qd} {b p k:Nat} (h:∀(i:Nat) (x:qd),xs[i]? = some x->x.cells.length = k/\qaw γ imm x.cells b (p + i * k)):qQ γ imm xs b p:=by
 induction xs generalizing p with
 | nil=>simp [qQ]
 | cons x xs ih=>
  obtain ⟨h1,h2⟩:=h 0 x rfl
  refine qQ.cons (by simpa using h2) ?_
  rw [h1]
  refine ih λi y hy=>?_
  obtain ⟨h3,h4⟩:=h (i + 1) y (by simpa using hy)
  refine ⟨h3,?_⟩
  rwa [Nat.add_mul,Nat.one_mul,ju (i * k),<-jt] at h4
theorem qaI {x:qd} (h:x.storable = true):x.cells = [x]:=by
 cases x <;> first | rfl | (simp [qd.storable] at h)
theorem qi0 {k len b p:Nat} {cs:List qd} {c:List Value} (h:qp γ imm cs c) (hl:len * k <= cs.length) (hs:cs.all qd.storable = true) (hi:∀(o:Nat) (v:Value),c[o]? = some v->v ≠ mark->imm b (p + o) = some v) :
  (∀x ∈ elems k len cs,x.cells.length = k)/\qQ γ imm (elems k len cs) b p/\(elems k len cs).length = len:=by
 have key:∀(i:Nat) (x:qd),(elems k len cs)[i]? = some x->x.cells.length = k/\qaw γ imm x.cells b (p + i * k):=by
  intro i x hx
  simp only [elems,jr,Option.map_eq_some_iff] at hx
  obtain ⟨j,hj,rfl⟩:=hx
  obtain ⟨I,rfl⟩:=jd.1 hj
  simp only [List.length_range] at I
  simp only [List.getElem_range]
  by_cases hk:k = 1
  ·subst hk
   simp only [if_true,Nat.mul_one] at hl ⊢
   have E:i < cs.length:=zo
   have Y:(cs[i]).storable = true:=by rw [List.all_eq_true] at hs;exact hs _ (List.getElem_mem E)
   have hg:cs.getD i .undef = cs[i]:=by simp [List.getD,jh E]
   rw [hg,qaI Y]
   obtain ⟨v,hv,hr⟩:=h.get (jh E)
   simp only [jy,jz,qaw]
   exact ⟨trivial,⟨v,hi i v hv (qd2 hr),hr⟩,trivial⟩
  ·simp only [if_neg hk,qd.cells]
   have a6:i * k + k <= cs.length:=by
    have:(i + 1) * k <= len * k:=Nat.mul_le_mul_right k I
    rw [Nat.add_mul,Nat.one_mul] at this
    omega
   refine ⟨by simp;omega,qaw.of_get λo y hy=>?_⟩
   have a1:o < k:=by have:=(jd.1 hy).1;simp at this;omega
   rw [List.getElem?_take_of_lt a1,List.getElem?_drop] at hy
   obtain ⟨v,hv,hr⟩:=h.get hy
   exact ⟨v,by rw [jt];exact hi _ v hv (qd2 hr),hr⟩
 refine ⟨λx hx=>?_,qQ.of_get (k:=k) key,by simp [elems]⟩
 obtain ⟨i,hi⟩:=List.getElem?_of_mem hx
 exact (key i x hi).1
end
section
variable {P:Program} {gl:Nat->Option (List qd)} {G:qi} {w:World} {h:List qj} {t:List qd} {a:Act}
theorem qhV {α:Type} (zs:List α) (hk:zs.length ≠ 0):∀(n i:Nat) (x:α),((List.replicate n zs).flatten)[i]? = some x->zs[i % zs.length]? = some x
 | 0,i,x,h=>by simp at h
 | n + 1,i,x,h=>by
  simp only [List.replicate_succ,List.flatten_cons] at h
  by_cases hi:i < zs.length
  ·rw [ja hi] at h
   rwa [Nat.mod_eq_of_lt hi]
  ·rw [jc zo] at h
   have:=qhV zs hk n _ x h
   rwa [<-Nat.mod_eq_sub_mod zo] at this
theorem qin {γ:Nat->Option Nat} {imm:Nat->Nat->Option Value} {zs:List qd} {u:Array Value} (hz:qp γ imm zs u.toList) (k len:Nat) (hk:zs.length = k) (a1:k ≠ 0) :
  qp γ imm ((List.replicate len zs).flatten) (((Array.range (len * k)).map (u[· % u.size]!)).toList):=by
 have hu:u.size = k:=by have:=hz.length;simp at this;omega
 refine qp.of_get ?_ λi x v hx hv=>?_
 ·simp [hk]
 ·simp only [Array.toList_map,Array.toList_range,jr,Option.map_eq_some_iff] at hv
  obtain ⟨j,hj,rfl⟩:=hv
  obtain ⟨I,rfl⟩:=jd.1 hj
  simp only [List.length_range] at I
  simp only [List.getElem_range]
  have Y:i % k < k:=Nat.mod_lt _ zo
  have E:zs[i % k]? = some x:=by
   have:=qhV zs zo len i x hx
   rwa [hk] at this
  obtain ⟨v,hv,hr⟩:=hz.get E
  rw [hu]
  simp only [Array.getElem?_toList] at hv
  rw [getElem!_pos u (i % k) zo]
  rw [Array.getElem?_eq_getElem zo] at hv
  cases hv
  exact hr
theorem qxd (hr:Rel P gl G h w) (ht:qaJ G w t a.tmps) {o:Oper} {ty e:TypeId} {ps:Array (Nat×Operand)} {I:List (Nat×qB)} {v z:qd} {len k:Nat} (ho:o.op = .buildSlice ty len ps)
  (hu:P.underlying ty = some (.slice e)) (hk:qfw P e = some k) (ab:k ≠ 0) (hz:qbO P e = some z) (aj:qhb gl ps.toList = some I)
  (hp:pureV t (.list k z.cells len I) = some v) :
  ∃(c:Array Value) (u:Value),(execOp a.eval o).run P w = .ok (.value u) (w.alloc (.cells c e))/\(G.withRow w.heap.size c c.size none).V v u/\v.dim = v:=by
 simp only [pureV] at hp
 split at hp
 ·rename_i a1
  split at hp
  ·rename_i cs ac
   split at hp
   ·rename_i ai
    cases hp
    obtain ⟨u0,af,Y⟩:=qfe hz w
    obtain ⟨h1,h2⟩:=qfK hr ht k aj
    have au:u0.cells.size = k:=by have:=(Y G.γ G.imm).length;simp at this;omega
    obtain ⟨c',e1,e2⟩:=qhr (γ:=G.γ) (imm:=G.imm) (λi=>some (i * k,k)) (ps.toList.map λ(i,x)=>(i,a.eval x)) (I.map λ(i,x)=>(i * k,k,ev t x)) _ _ cs (qin (Y _ _) k len a1.1 ab) (by simpa using h1)
     (λn i v off size x hn aa=>by
      simp only [jr,Option.map_eq_some_iff] at hn aa
      obtain ⟨⟨i',x'⟩,al,a8⟩:=hn
      obtain ⟨⟨ar,ay⟩,ak,a7⟩:=aa
      simp only [js] at a8 a7
      obtain ⟨rfl,rfl⟩:=a8
      obtain ⟨rfl,rfl,rfl⟩:=a7
      obtain ⟨rfl,q2⟩:=h2 n _ _ _ _ al ak
      exact ⟨rfl,q2⟩) ac
    have ae:∀(parts:List (Nat×Nat×qd)) (xs ys:List qd),qz xs parts = some ys->ys.length = xs.length:=by
     intro parts
     induction parts with
     | nil=>intro xs ys hf;simp only [qz,jj] at hf;rw [hf]
     | cons p ps ih=>
      intro xs ys hf
      obtain ⟨off,size,x⟩:=p
      simp only [qz] at hf
      split at hf
      ·rename_i hh
       rw [ih _ _ hf]
       simp only [splice,ji,List.length_take,List.length_drop]
       omega
      ·cases hf
    have av:cs.length = len * k:=by rw [ae _ _ _ ac];simp [a1.1]
    have E:=Ext.newRow 0 c' e c'.size none hr
    obtain ⟨n,hn⟩:=qas cs
    have e3:qp (G.withRow w.heap.size c' c'.size none).γ (G.withRow w.heap.size c' c'.size none).imm cs c'.toList:=qp.mono E.ik n (λi b _=>E.gk i b) cs _ hn e2
    obtain ⟨s1,s2,s3⟩:=qi0 (b:=w.heap.size) (p:=0) (k:=k) (len:=len) e3 zo ai (λo v hv hm=>by
     simp only [qi.withRow,Nat.zero_add,if_true]
     simp only [Array.getElem?_toList] at hv
     rw [if_pos (je.1 hv).1,hv]
     exact qbj.2 ⟨rfl,hm⟩)
    refine ⟨c',.slice (some ⟨w.heap.size,0,none⟩) len len,?_,?_,rfl⟩
    ·simp only [execOp,ho]
     refine qep ?_
     have ad:¬ (len * k > 2 ^ 24):=zo
     have e4:(ps.map λ(i,x)=>(i,a.eval x)).toList = ps.toList.map λ(i,x)=>(i,a.eval x):=by simp
     by_cases a6:len * k = 0
     ·have am:len = 0:=by rcases Nat.mul_eq_zero.1 a6 with h | h;exact h;exact absurd h ab
      subst am
      simp only [Nat.zero_mul] at e1
      have ap:Instr.fill (λi=>some (i * k,k)) ((Array.range 0).map ((#[]:Array Value)[· % (#[]:Array Value).size]!)) (ps.toList.map λ(i,x)=>(i,a.eval x)) = some c':=by
       have e0:∀f:Nat->Value,(Array.range 0).map f = #[]:=λf=>by apply Array.ext';simp
       rw [e0] at e1 ⊢
       exact e1
      simp only [Instr.buildSlice,Sem.run_bind,run_underlying hu,Result.andThen_ok,qbQ hk,Nat.zero_mul,gt_iff_lt,Nat.not_lt_zero,if_false,Sem.run_pure,if_true,e4,ap]
      simp [newRow]
     ·simp only [Instr.buildSlice,Sem.run_bind,run_underlying hu,Result.andThen_ok,qbQ hk,if_neg ad,if_neg a6,Sem.run_pure,af,e4,e1]
      simp [newRow]
    ·simp only [qi.V,qC]
     exact ⟨_,_,_,rfl,s3.symm,jm _,λ_=>rfl,by simp,⟨k,s1⟩,.inr ⟨_,_,rfl,s2⟩⟩
   ·cases hp
  ·cases hp
 ·cases hp
end
section
variable {P:Program} {gl:Nat->Option (List qd)} {G G':qi} {w w':World} {h:List qj} {t:List qd} {a:Act} {n:Nat}
theorem Ext.V (he:Ext n G w G' w') {x:qd} {v:Value} (hv:G.V x v):G'.V x v:=by
 obtain ⟨m,hm⟩:=lower_ex x
 exact qC.mono he.ik m (λi b _=>he.gk i b) x v hm hv
theorem Ext.VL (he:Ext n G w G' w') {xs:List qd} {vs:List Value} (hv:G.VL xs vs):G'.VL xs vs:=by
 obtain ⟨m,hm⟩:=qas xs
 exact qp.mono he.ik m (λi b _=>he.gk i b) xs vs hm hv
structure Cfg (P:Program) (gl:Nat->Option (List qd)) (G:qi) (h:List qj) (t:List qd) (a:Act) (w:World):Prop where
 rel:Rel P gl G h w
 tr:qaJ G w t a.tmps
theorem Cfg.put (hc:Cfg P gl G h t a w) (dst:Option Nat) {x:qd} {v:Value} (hv:G.V x v) (hd:x.dim = x):Cfg P gl G h (AE.put dst x t) (a.put dst v) w:=by
 refine ⟨hc.rel,?_⟩
 have:=hc.tr.put dst hv hd a.defers
 exact this
def Nx (nx:Next) (u:Value):Prop:=nx = .value u\/(nx = .skip/\u = undef)
def qqO (o:Oper):Prop:=(∃t x y,o.op = .store t x y)\/∃c,o.op = .call c/\c.callee = .builtin .append
def qqz (P:Program) (gl:Nat->Option (List qd)) (o:Oper):Prop:=∃k as,qg0 P gl o = some (.hx k as)
def Did (P:Program) (gl:Nat->Option (List qd)) (G:qi) (w:World) (a:Act) (o:Oper) (n:Nat) (h':List qj) (t':List qd):Prop:=
 ∃nx u w' G',(execOp a.eval o).run P w = .ok nx w'/\Nx nx u/\(¬ qqO o->¬ qqz P gl o->∀b,b < w.heap.size->w'.heap[b]? = w.heap[b]?)/\Ext n G w G' w'/\Cfg P gl G' h' t' (a.put o.dst u) w'
theorem qf1 (hc:Cfg P gl G h t a w) {o:Oper} {v:qd} (hg:qb6 P G w a o v) (n:Nat):Did P gl G w a o n h (AE.put o.dst v t):=by
 obtain ⟨u,h1,h2,h3⟩:=hg
 exact ⟨_,u,w,G,h1,.inl rfl,λ_ _ _ _=>rfl,Ext.refl n G w,hc.put o.dst h2 h3⟩
theorem qv6 (hc:Cfg P gl G h t a w) {o:Oper} {v:qd} {c:Array Value} {e:TypeId} {u:Value} (h1:(execOp a.eval o).run P w = .ok (.value u) (w.alloc (.cells c e)))
  (h2:(G.withRow w.heap.size c c.size none).V v u) (h3:v.dim = v) (n:Nat):Did P gl G w a o n h (AE.put o.dst v t):=by
 have E:Cfg P gl (G.withRow w.heap.size c c.size none) h t a (w.alloc (.cells c e)):=⟨hc.rel.newRow c e c.size none,hc.tr.newRow hc.rel c e c.size none⟩
 exact ⟨_,u,_,_,h1,.inl rfl,λ_ _ _ hb=>qad w _ hb,Ext.newRow n c e c.size none hc.rel,E.put o.dst h2 h3⟩
theorem qlr {cs:List qd} {o:Nat} {xs:List qd} {k:Nat} (h:(cs.map qd.dim)[o]? = some (.lst xs (.own k))):False:=by
 simp only [jr,Option.map_eq_some_iff] at h
 obtain ⟨x,_,hx⟩:=h
 have:=qbf x
 rw [hx] at this
 simp [qd.dim] at this
theorem qrD (hc:Cfg P gl G h t a w) {o:Oper} {cs:List qd} {c:Array Value} {e:TypeId} (a1:G.VL cs c.toList)
  (h1:(execOp a.eval o).run P w = .ok (.value (.pointer (some ⟨w.heap.size,0,none⟩))) (w.alloc (.cells c e))) :
  Did P gl G w a o h.length (h ++ [.cells (cs.map qd.dim)]) (AE.put o.dst (.ptr h.length 0) t):=by
 have hi:G.γ h.length = none:=by
  cases hg:G.γ h.length with
  | none=>rfl
  | some b=>have:=(hc.rel.γlt _ b hg).1;omega
 have E:Ext h.length G w (G.withBox h.length w.heap.size) (w.alloc (.cells c e)):=Ext.newBox hi (jm _) _
 have I:=hc.rel.newBox (o:=.cells c e) (bx:=.cells (cs.map qd.dim)) (h':=h ++ [.cells (cs.map qd.dim)]) hi (by simp) (by simp) (λj hj b hb=>by
  rw [ja (hc.rel.γlt j b hb).1]) (by simp) ⟨c,e,qaq w _,qf5 (E.VL a1).dims,λo xs k v ho _=>(qlr ho).elim⟩
 obtain ⟨m,hm⟩:=qas t
 have Y:qaJ (G.withBox h.length w.heap.size) (w.alloc (.cells c e)) t a.tmps:=
  hc.tr.keep hm E.ik (λi b _=>E.gk i b) (λ_ _ h=>h) (λb i hb=>qad w _ (hc.rel.ow b _ hb).1) (λ_ _ _ _ h=>h)
 refine ⟨_,_,_,_,h1,.inl rfl,λ_ _ _ hb=>qad w _ hb,E,(Cfg.mk I Y).put o.dst ?_ rfl⟩
 simp only [qi.V,qC,qi.withBox,if_true]
 exact ⟨_,rfl,rfl⟩
theorem qAe (hc:Cfg P gl G h t a w) {o:Oper} {e:TypeId} {z:qd} (ho:o.op = .alloc e) (hz:qbO P e = some z) :
  Did P gl G w a o h.length (h ++ [.cells (z.cells.map qd.dim)]) (AE.put o.dst (.ptr h.length 0) t):=by
 obtain ⟨u,hu,hr⟩:=qfe hz w
 refine qrD hc (hr _ _) (c:=u.cells) (e:=e) ?_
 simp only [execOp,ho]
 refine qep ?_
 simp [Instr.alloc,hu,newVar,newRow]
theorem qrE (hc:Cfg P gl G h t a w) {o:Oper} {e:TypeId} {x:Operand} {ax:qB} (ho:o.op = .box e x) (hx:opd gl x = some ax) (hs:((ev t ax).cells.map qd.dim).all qd.storable = true) :
  Did P gl G w a o h.length (h ++ [.cells ((ev t ax).cells.map qd.dim)]) (AE.put o.dst (.ptr h.length 0) t):=by
 have hv:=qai hc.rel hc.tr hx
 have E:(ev t ax).cells.all qd.storable = true:=by
  rw [List.all_map] at hs
  rw [List.all_eq_true] at hs ⊢
  intro y hy
  have:=hs y hy
  cases y <;> first | exact this | rfl
 refine qrD hc (qb2 hv E).1 (e:=e) ?_
 simp only [execOp,ho]
 refine qep ?_
 simp [Instr.box,newVar,newRow]
theorem qaw.list {γ:Nat->Option Nat} {imm:Nat->Nat->Option Value}:∀{cs:List qd} {b p:Nat},qaw γ imm cs b p->∃vs,qp γ imm cs vs/\∀(j:Nat) (v:Value),vs[j]? = some v->imm b (p + j) = some v
 | [],b,p,_=>⟨[],by simp [qp],λj v h=>by simp at h⟩
 | c :: cs,b,p,hc=>by
  simp only [qaw] at hc
  obtain ⟨⟨v,h1,h2⟩,h3⟩:=hc
  obtain ⟨vs,h4,h5⟩:=qaw.list h3
  refine ⟨v :: vs,by simp only [qp];exact ⟨v,vs,rfl,h2,h4⟩,λj u hu=>?_⟩
  cases j with
  | zero=>simp at hu;subst hu;exact h1
  | succ j=>
   simp at hu
   have:=h5 j u hu
   rwa [jt,ju 1 j] at this
theorem qnX {ty:TypeId} {k:Option Nat} (hk:tyk P ty = some k) {b q o:Nat} {cs:List qd} {vs:List Value} (hc:G.VL cs vs) (E:∀(j:Nat) (v:Value),vs[j]? = some v->w.cell? ⟨b,q + j,none⟩ = some v)
  {x:qd} (hx:cut cs o k = some x):∃u,(Instr.loadAt ty (.pointer (some ⟨b,q + o,none⟩))).run P w = .ok u w/\G.V x u/\x.dim = x:=by
 obtain ⟨h1,h2⟩:=qgt hk w
 obtain ⟨h3,h4,h5⟩:=qry hc hx
 cases k with
 | none=>
  simp only at h3 h5
  refine ⟨_,?_,h3,h4⟩
  have hg:vs[o]? = some (vs.getD o undef):=by rw [jh h5];simp [List.getD,jh h5]
  have:=E o _ hg
  simp only [Instr.loadAt,Instr.sureAddr,Sem.run_bind,Sem.run_pure,Result.andThen_ok,loadVar,h1,Option.isSome_none,jl,if_false,run_load,this]
 | some k=>
  simp only at h3 h5
  refine ⟨_,?_,h3,h4⟩
  have hl:=run_loadCells_list (P:=P) w ⟨b,q + o,none⟩ ((vs.drop o).take k) (λj v hj=>by
   have Y:j < k:=by have:=(jd.1 hj).1;simp at this;omega
   rw [List.getElem?_take_of_lt Y,List.getElem?_drop] at hj
   rw [qcE,jt]
   exact E _ v hj)
  have I:((vs.drop o).take k).length = k:=by simp;omega
  rw [I] at hl
  simp only [Instr.loadAt,Instr.sureAddr,Sem.run_bind,Sem.run_pure,Result.andThen_ok,loadVar,h1,Option.isSome_some,if_true,h2 k rfl,hl]
theorem qs6 (hr:Rel P gl G h w) {ty:TypeId} {k:Option Nat} (hk:tyk P ty = some k) {p:qd} {vp:Value} (hp:G.V p vp) {x:qd} (hx:qel h p k = some x) :
  ∃u,(Instr.loadAt ty vp).run P w = .ok u w/\G.V x u/\x.dim = x:=by
 unfold qel at hx
 split at hx
 ·simp only [qi.V,qC] at hp
  obtain ⟨b,hb,rfl⟩:=hp
  split at hx
  ·rename_i cs Y
   obtain ⟨c,e,h1,h2,_⟩:=hr.box _ b _ hb Y
   have:=qnX (P:=P) (w:=w) hk (b:=b) (q:=0) h2 (λj v hj=>by
    have hj:c[j]? = some v:=by
     have hl:=(jd.1 hj).1
     rw [List.getElem?_take_of_lt (by simp at hl;omega)] at hj
     simpa using hj
    simp [World.cell?,h1,hj]) hx
   simpa using this
  ·cases hx
 ·simp only [qi.V,qC] at hp
  obtain ⟨b,q,rfl,I⟩:=hp
  obtain ⟨vs,h1,h2⟩:=I.list
  exact qnX hk h1 (λj v hj=>by
   obtain ⟨x,_,E⟩:=h1.get' hj
   exact (hr.imm b _ v (h2 j v hj) (qd2 E)).1) hx
 ·cases hx
theorem qCS (hc:Cfg P gl G h t a w) {o:Oper} {ty:TypeId} {x:Operand} {ax:qB} {k:Option Nat} {v:qd} (ho:o.op = .load ty x) (hk:tyk P ty = some k) (hx:opd gl x = some ax) (hl:qel h (ev t ax) k = some v) (n:Nat) :
  Did P gl G w a o n h (AE.put o.dst v t):=by
 obtain ⟨u,h1,h2,h3⟩:=qs6 hc.rel hk (qai hc.rel hc.tr hx) hl
 exact qf1 hc ⟨u,by simp only [execOp,ho];exact qep h1,h2,h3⟩ n
end
def qi.give (G:qi) (b:Nat) (ℓ:Option Loc):qi:={ γ:=G.γ,imm:=G.imm,ow:=λx=>if x = b then ℓ else G.ow x}
section
variable {P:Program} {gl:Nat->Option (List qd)} {G G':qi} {w w':World} {h:List qj} {t:List qd} {a:Act} {n:Nat}
theorem Rel.give (hr:Rel P gl G h w) {b:Nat} {I ℓ:Loc} (hb:G.ow b = some I) (Y:∀id o:Nat,I ≠ .cell id o) :
  Rel P gl (G.give b (some ℓ)) h w:=by
 refine ⟨hr.γlt,hr.inj,λi b' bx hi hx=>?_,hr.imm,hr.immγ,hr.immK,λb' a6 a1=>?_,hr.glob⟩
 ·have E:=hr.box i b' bx hi hx
  cases bx with
  | cells cs=>
   obtain ⟨c,e,h1,h2,h3⟩:=E
   refine ⟨c,e,h1,h2,λo xs k v ho hv=>?_⟩
   obtain ⟨b2,p,len,cap,c2,e2,rfl,k1,k2⟩:=h3 o xs k v ho hv
   refine ⟨b2,p,len,cap,c2,e2,rfl,?_,k2⟩
   have:b2 ≠ b:=λe3=>by
    subst e3
    rw [hb] at k1
    cases k1
    exact Y i o rfl
   simpa [qi.give,this] using k1
  | loop _ _ _ _ _ _=>obtain ⟨L,h1,h2⟩:=E;exact ⟨L,h1,{ h2 with tmps:=h2.tmps}⟩
  | map _ _=>obtain ⟨me,h1,h2⟩:=E;exact ⟨me,h1,qah.mono (G:=G) (G':=G.give b (some ℓ)) (λ_ _ _ h=>h) _ (λ_ _ _ h=>h) (qcZ _).choose_spec h2⟩
  | iter _ _ _ _=>obtain ⟨mm,h1,h2⟩:=E;exact ⟨mm,h1,h2⟩
  | bld _ _ _=>
   refine qqy.keep E rfl (λy hy=>?_) (λ_ _=>rfl) (λ_ _ _ h=>h)
   have:y ≠ b:=λe3=>by
    subst e3
    rw [hb] at hy
    cases hy
    exact Y i 1 rfl
   simpa [qi.give,this] using hy
  | dead=>trivial
 ·simp only [qi.give] at a1
  split at a1
  ·rename_i e1;subst e1;exact hr.ow b' I hb
  ·exact hr.ow b' a6 a1
theorem Ext.give (n:Nat) (G:qi) (w:World) {b:Nat} {E:Loc} (ℓ:Option Loc) (hb:G.ow b = some E):Ext n G w (G.give b ℓ) w:=by
 refine ⟨λ_ _ h=>h,λ_ _ h=>.inl h,λ_ _ _ h=>h,λ_ _ _ h=>.inl h,λx hx=>?_,jm _,λ_ _ _=>rfl,(Ext.refl n G w).loops,rfl,rfl,rfl⟩
 simp only [qi.give] at hx
 split at hx
 ·rename_i e1;subst e1;exact .inl (by simp [hb])
 ·exact .inl hx
theorem getD_some {t:List qd} {i:Nat} {xs:List qd} {f:qgV} (h:t.getD i .undef = .lst xs f):t[i]? = some (.lst xs f):=by
 by_cases hi:i < t.length
 ·simpa [List.getD,jh hi] using h
 ·simp [List.getD,jq (Nat.le_of_not_lt hi)] at h
theorem qim {t:List qd} {x:qB} (hx:∀i xs k,x = .t i->t[i]? ≠ some (.lst xs (.own k))) (hc:∀v,x = .c v->v.dim = v):(raw t x).dim = raw t x/\qaK t x = t:=by
 cases x with
 | c v=>exact ⟨hc v rfl,rfl⟩
 | t i=>
  simp only [raw,qaK]
  cases hg:t.getD i .undef with
  | lst xs f=>
   cases f with
   | own k=>exact absurd (getD_some hg) (hx i xs k rfl)
   | no=>exact ⟨rfl,rfl⟩
   | full=>exact ⟨rfl,rfl⟩
  | _=>exact ⟨rfl,rfl⟩
theorem qlw {x:Operand} {ax:qB} (hx:opd gl x = some ax):∀v,ax = .c v->v.dim = v:=by
 intro v hv
 subst hv
 cases x with
 | tmp i=>simp [opd] at hx
 | const u=>
  simp only [opd] at hx
  obtain ⟨c,hc,he⟩:=qcn hx
  cases he
  exact qru hc
 | global g=>
  simp only [opd] at hx
  obtain ⟨c,hc,he⟩:=qcn hx
  cases he
  rfl
 | func f=>simp only [opd,jj,qB.c.injEq] at hx;subst hx;rfl
theorem qkc {x:Operand} {i:Nat} (hx:opd gl x = some (.t i)):x = .tmp i:=by
 cases x with
 | tmp j=>simp [opd] at hx;rw [hx]
 | const u=>simp only [opd] at hx;obtain ⟨c,_,he⟩:=qcn hx;cases he
 | global g=>simp only [opd] at hx;obtain ⟨c,_,he⟩:=qcn hx;cases he
 | func f=>simp [opd] at hx
theorem qaJ.drain (ht:qaJ G w t a.tmps) {i:Nat} {xs:List qd} {f:qgV} (hi:t[i]? = some (.lst xs f)):qaJ G w (t.set i (.lst xs .no)) a.tmps:=by
 obtain ⟨v,hv,hr⟩:=ht.rel.get hi
 have E:G.VL (t.set i (.lst xs .no)) (a.tmps.toList.set i v):=ht.rel.set i (qls hr)
 have e:a.tmps.toList.set i v = a.tmps.toList:=by
  obtain ⟨h1,h2⟩:=jd.1 hv
  rw [<-h2];exact List.set_getElem_self h1
 rw [e] at E
 refine ⟨E,λj ys k u hj hu=>?_⟩
 by_cases e1:i = j
 ·subst e1
  rw [jg (jd.1 hi).1] at hj
  simp at hj
 ·rw [jf e1] at hj
  exact ht.own j ys k u hj hu
theorem qjU {i:Nat} {v:Value} (hv:a.tmps.toList[i]? = some v):a.eval (.tmp i) = v:=by
 simp only [Array.getElem?_toList] at hv
 obtain ⟨h1,h2⟩:=je.1 hv
 simp [Act.eval,Array.getD,h1,h2]
theorem qaJ.putOwn {ts:Array Value} (ht:qaJ G w t ts) (d:Nat) {x:List qd} {k:Nat} {v:Value} (hv:G.V (.lst x (.own k)) v) (ho:qvD G w (.tmp d) k v) (ds:List Deferred) :
  qaJ G w (t.set d (.lst x (.own k))) ((({ tmps:=ts,defers:=ds}:Act).put (some d) v).tmps):=by
 refine ⟨by simpa [Act.put] using ht.rel.set d hv,λi xs k' u hi hu=>?_⟩
 simp only [Act.put] at hu
 by_cases e:d = i
 ·subst e
  have hd:d < t.length:=by
   by_cases hd:d < t.length
   ·exact hd
   ·rw [jq (by simp;omega)] at hi;cases hi
  rw [jg hd] at hi
  simp only [jj,qd.lst.injEq,qgV.own.injEq] at hi
  obtain ⟨rfl,rfl⟩:=hi
  rw [Array.getElem?_setIfInBounds_self_of_lt (by rw [<-ht.length];exact hd)] at hu
  cases hu
  exact ho
 ·rw [jf e] at hi
  rw [Array.getElem?_setIfInBounds_ne e] at hu
  exact ht.own i xs k' u hi hu
theorem qaJ.give (ht:qaJ G w t a.tmps) {i:Nat} {xs:List qd} {k b:Nat} {ℓ:Option Loc} (hi:t[i]? = some (.lst xs (.own k))) (hb:G.ow b = some (.tmp i)) :
  qaJ (G.give b ℓ) w (t.set i (.lst xs .no)) a.tmps:=by
 have hd:=ht.drain hi
 refine ⟨hd.rel,λj ys k' u hj hu=>?_⟩
 have E:i ≠ j:=λe=>by
  subst e
  rw [jg (jd.1 hi).1] at hj
  simp at hj
 obtain ⟨b2,p,len,cap,c,e,rfl,h1,h2⟩:=hd.own j ys k' u hj hu
 refine ⟨b2,p,len,cap,c,e,rfl,?_,h2⟩
 have:b2 ≠ b:=λe2=>by subst e2;rw [hb] at h1;cases h1;exact E rfl
 simpa [qi.give,this] using h1
theorem qAc (hc:Cfg P gl G h t a w) {o:Oper} {x:Operand} {ax:qB} (ho:o.op = .assign x) (hx:opd gl x = some ax) (n:Nat) :
  Did P gl G w a o n h (AE.put o.dst (raw t ax) (qaK t ax)):=by
 have E:(execOp a.eval o).run P w = .ok (.value (a.eval x)) w:=by simp [execOp,ho]
 by_cases I:∃i xs k,ax = .t i/\t[i]? = some (.lst xs (.own k))
 ·obtain ⟨i,xs,k,rfl,hi⟩:=I
  have a1:=qkc hx
  subst a1
  obtain ⟨v,hv,hr⟩:=hc.tr.rel.get hi
  have a6:=qjU hv
  have hg:t.getD i .undef = .lst xs (.own k):=by simp [List.getD,hi]
  have a8:qaK t (.t i) = t.set i (.lst xs .no):=by simp only [qaK,hg]
  simp only [raw,hg,a8]
  cases hd:o.dst with
  | none=>
   exact ⟨_,_,w,G,E,.inl rfl,λ_ _ _ _=>rfl,Ext.refl n G w,hc.rel,by rw [hd];exact hc.tr.drain hi⟩
  | some d=>
   have a7:=hc.tr.own i xs k v hi (by simpa using hv)
   obtain ⟨b,p,len,cap,c,e,rfl,h1,h2⟩:=a7
   refine ⟨_,_,w,G.give b (some (.tmp d)),E,.inl rfl,λ_ _ _ _=>rfl,Ext.give n G w _ h1,hc.rel.give h1 (λid o' e1=>by cases e1),?_⟩
   rw [a6,hd]
   exact (hc.tr.give hi h1).putOwn d (G:=G.give b (some (.tmp d))) hr ⟨b,p,len,cap,c,e,rfl,by simp [qi.give],h2⟩ a.defers
 ·have Y:∀i xs k,ax = .t i->t[i]? ≠ some (.lst xs (.own k)):=λi xs k h1 h2=>I ⟨i,xs,k,h1,h2⟩
  obtain ⟨h1,h2⟩:=qim Y (qlw hx)
  rw [h2]
  exact ⟨_,_,w,G,E,.inl rfl,λ_ _ _ _=>rfl,Ext.refl n G w,hc.put o.dst (qkj hc.rel hc.tr hx) h1⟩
end
section
variable {P:Program} {gl:Nat->Option (List qd)} {G G':qi} {w w':World} {h:List qj} {t:List qd} {a:Act} {n:Nat}
theorem qy (w:World) (b x:Nat) (c:Array Value) (h:x ≠ b):(w.setRow b c).heap[x]? = w.heap[x]?:=setRow_other w b x c h
theorem Rel.store (hr:Rel P gl G h w) {id b:Nat} {cs a7:List qd} {c c':Array Value} {e:TypeId} (hb:G.γ id = some b) (hid:h[id]? = some (.cells cs)) (hw:w.heap[b]? = some (.cells c e (0,0)))
  (I:G'.γ = G.γ) (hi:G'.imm = G.imm) (af:∀x,G'.ow x ≠ none->G.ow x ≠ none) (a6:∀x a8 o,a8 ≠ id->G.ow x = some (.cell a8 o)->G'.ow x = some (.cell a8 o))
  (ad:G.VL a7 (c'.toList.take a7.length)) (ak:c'.size = c.size)
  (ae:∀(o:Nat) (xs:List qd) (k:Nat) (v:Value),a7[o]? = some (.lst xs (.own k))->c'[o]? = some v->qvD G' (w.setRow b c') (.cell id o) k v) :
  Rel P gl G' (h.set id (.cells a7)) (w.setRow b c'):=by
 have al:=je.1 hw |>.1
 have aj:=jd.1 hid |>.1
 have ab:∀x ℓ,G.ow x = some ℓ->x ≠ b:=λx ℓ hx e1=>(hr.ow x ℓ hx).2 id (e1▸hb)
 refine ⟨λi x hx=>?_,λi j x hx hy=>?_,λi x bx hx a1=>?_,λx o v hv hm=>?_,λx o v i hv hm=>?_,λx o hv=>?_,λx ℓ hx=>?_,λg cs hg=>?_⟩
 ·rw [I] at hx;simpa using hr.γlt i x hx
 ·rw [I] at hx hy;exact qjZ hr.inj hid (by simp) i j x hx hy
 ·rw [I] at hx
  by_cases e1:i = id
  ·subst e1
   rw [hb] at hx;cases hx
   rw [jg aj] at a1
   cases a1
   exact ⟨c',e,setRow_heap w b c c' e (0,0) hw,by rw [qi.VL,I,hi];exact ad,ae⟩
  ·rw [jf (Ne.symm e1)] at a1
   have Y:=hr.box i x bx hx a1
   have E:bx ≠ .dead->x ≠ b:=λai e2=>by
    rcases hr.inj i id x hx (e2▸hb) with h1 | h1 | h1
    ·exact e1 h1
    ·rw [a1] at h1;cases h1;exact ai rfl
    ·rw [hid] at h1;cases h1
   cases bx with
   | map es _=>
    obtain ⟨me,h1,h2⟩:=Y
    obtain ⟨m,hm⟩:=qcZ es
    exact ⟨me,by rw [qy w b x c' (E (by simp))];exact h1,qah.mono (λ_ _ _ h=>by rw [hi];exact h) m (λ_ _ _ h=>by rw [I];exact h) hm h2⟩
   | iter im _ _ _=>
    obtain ⟨mm,h1,h2⟩:=Y
    obtain ⟨m,hm⟩:=AE.lower_ex im
    exact ⟨mm,by rw [qy w b x c' (E (by simp))];exact h1,qC.mono (λ_ _ _ h=>by rw [hi];exact h) m (λ_ _ _ h=>by rw [I];exact h) _ _ hm h2⟩
   | bld _ _ _=>exact qqy.keep Y (qy w b x c' (E (by simp))) (λy hy=>a6 y i 1 e1 hy) (λy hy=>qy w b y c' (ab y _ hy)) (λy j _ hj=>by rw [hi];exact hj)
   | dead=>trivial
   | cells ds=>
    obtain ⟨d,e',h1,h2,h3⟩:=Y
    have E:=E (by simp)
    refine ⟨d,e',by rw [qy w b x c' E];exact h1,by rw [qi.VL,I,hi];exact h2,λo xs k v ho hv=>?_⟩
    exact (h3 o xs k v ho hv).keep (λy hy=>a6 y i o e1 hy) (λy hy=>qy w b y c' (ab y _ hy)) (λy j _ hj=>by rw [hi];exact hj)
   | loop _ _ _ _ _ _=>
    obtain ⟨L,h1,h2⟩:=Y
    have E:=E (by simp)
    exact ⟨L,by rw [qy w b x c' E];exact h1,{ h2 with tmps:=by rw [qi.VL,I,hi];exact h2.tmps}⟩
 ·rw [hi] at hv
  obtain ⟨h1,h2⟩:=hr.imm x o v hv hm
  have E:x ≠ b:=λe2=>by have:=hr.immγ x o v id hv hm (e2▸hb);rw [hid] at this;cases this
  exact ⟨(qbA (qy w b x c' E)).trans h1,by simpa using h2⟩
 ·rw [hi] at hv;rw [I];exact λe1=>qdO hid (by simp) (hr.immγ x o v i hv hm e1)
 ·rw [hi] at hv
  obtain ⟨h0,d,e',h1,h2⟩:=hr.immK x o hv
  by_cases E:x = b
  ·subst E
   rw [hw] at h1;cases h1
   exact ⟨h0,c',e,setRow_heap w x c c' e (0,0) hw,zo⟩
  ·exact ⟨h0,d,e',by rw [qy w b x c' E];exact h1,h2⟩
 ·have:=af x (by simp [hx])
  cases aa:G.ow x with
  | none=>exact absurd aa this
  | some ac=>
   obtain ⟨h1,h2⟩:=hr.ow x ac aa
   exact ⟨by simpa using h1,by rw [I];exact h2⟩
 ·rw [I,hi];exact hr.glob g cs hg
theorem Ext.store (n:Nat) {id b:Nat} {c c':Array Value} {e:TypeId} (hb:G.γ id = some b) (hw:w.heap[b]? = some (.cells c e (0,0)))
  (E:G'.γ = G.γ) (hi:G'.imm = G.imm) (I:∀x,G'.ow x ≠ none->G.ow x ≠ none):Ext n G w G' (w.setRow b c'):=by
 refine ⟨λi x hx=>by rw [E];exact hx,λi x hx=>by rw [E] at hx;exact .inl hx,λx o v hv=>by rw [hi];exact hv,λx o v hv=>by rw [hi] at hv;exact .inl hv,λx hx=>.inl (I x hx),by simp,λx hx hf=>?_,λx L hL=>?_,rfl,rfl,rfl⟩
 ·exact qy w b x c' (λe1=>hf.1 id (e1▸hb))
 ·have:x ≠ b:=λe1=>by subst e1;rw [hw] at hL;cases hL
  exact ⟨L,by rw [qy w b x c' this];exact hL,rfl,rfl,rfl,rfl,rfl,rfl⟩
theorem qaJ.store {ts:Array Value} (hr:Rel P gl G h w) (ht:qaJ G w t ts) {id b:Nat} (c':Array Value) (hb:G.γ id = some b):qaJ G (w.setRow b c') t ts:=
 ⟨ht.rel,λi xs k v hx hv=>(ht.own i xs k v hx hv).keep (λ_ h=>h) (λy hy=>qy w b y c' (λe1=>(hr.ow y _ hy).2 id (e1▸hb))) (λ_ _ _ h=>h)⟩
theorem quT {ty:TypeId} {k:Nat} (hk:qfw P ty = some k) {b o:Nat} {v:Value} {c:Array Value} {e:TypeId} (hw:w.heap[b]? = some (.cells c e (0,0))) (hs:v.cells.size = k) (ho:o + k <= c.size) (h1:∀u ∈ v.cells.toList,u.oneCell' = true) :
  (Instr.storeAt ty (.pointer (some ⟨b,o,none⟩)) v).run P w = .ok () (w.setRow b (c.toList.take o ++ v.cells.toList ++ c.toList.drop (o + v.cells.toList.length)).toArray):=by
 have:=run_storeCells_at P b o e v.cells.toList 0 c w hw (by simp;omega) h1
 simp only [Nat.add_zero] at this
 simp only [Instr.storeAt,Instr.sureAddr,Sem.run_bind,Sem.run_pure,Result.andThen_ok,storeVar,qbQ hk,hs,ne_eq,not_true_eq_false,if_false]
 exact this
theorem qfd {cs vs:List qd} {o i:Nat} {x:qd} (hl:o + vs.length <= cs.length) (h:(splice cs o vs)[i]? = some x):(i < o\/o + vs.length <= i)/\cs[i]? = some x\/o <= i/\i < o + vs.length/\vs[i - o]? = some x:=by
 unfold splice at h
 by_cases h1:i < o
 ·left
  rw [jp,ja (by simp;omega),List.getElem?_take_of_lt h1] at h
  exact ⟨.inl h1,h⟩
 ·by_cases h2:i < o + vs.length
  ·right
   rw [ja (by simp;omega),jc (by simp;omega)] at h
   refine ⟨zo,h2,?_⟩
   simpa [Nat.min_eq_left (show o <= cs.length by omega)] using h
  ·left
   rw [jc (by simp;omega),List.getElem?_drop] at h
   refine ⟨.inr zo,?_⟩
   rw [<-h]
   congr 1
   simp [Nat.min_eq_left (show o <= cs.length by omega)]
   omega
theorem qbx {cs vs:List Value} {o i:Nat} (hl:o + vs.length <= cs.length):(i < o\/o + vs.length <= i->(cs.take o ++ vs ++ cs.drop (o + vs.length))[i]? = cs[i]?)/\(o <= i->i < o + vs.length->(cs.take o ++ vs ++ cs.drop (o + vs.length))[i]? = vs[i - o]?):=by
 constructor
 ·rintro (h1 | h1)
  ·rw [jp,ja (by simp;omega),List.getElem?_take_of_lt h1]
  ·rw [jc (by simp;omega),List.getElem?_drop]
   congr 1
   simp [Nat.min_eq_left (show o <= cs.length by omega)]
   omega
 ·intro h1 h2
  rw [ja (by simp;omega),jc (by simp;omega)]
  simp [Nat.min_eq_left (show o <= cs.length by omega)]
theorem qg5 {γ:Nat->Option Nat} {imm:Nat->Nat->Option Value} {cs vs:List qd} {l us:List Value} {p:Nat} (h:qp γ imm cs (l.take cs.length)) (hv:qp γ imm vs us) (I:p + vs.length <= cs.length) :
  qp γ imm (splice cs p vs) ((l.take p ++ us ++ l.drop (p + us.length)).take (splice cs p vs).length):=by
 have hl:=hv.length
 have Y:=qe1 h
 refine qp.of_get ?_ λi a v ha E=>?_
 ·simp only [splice,ji,List.length_take,List.length_drop];omega
 ·rw [List.getElem?_take_of_lt (jd.1 ha).1] at E
  have hg:=qbx (cs:=l) (vs:=us) (o:=p) (i:=i) zo
  rcases qfd I ha with ⟨h1,h2⟩ | ⟨h1,h2,h3⟩
  ·rw [hg.1 zo] at E
   obtain ⟨u,hu,hr⟩:=qey h h2
   rw [E] at hu;cases hu;exact hr
  ·rw [hg.2 h1 zo] at E
   obtain ⟨u,hu,hr⟩:=hv.get h3
   rw [E] at hu;cases hu;exact hr
theorem qyP (hc:Cfg P gl G h t a w) {o:Oper} {ty:TypeId} {x y:Operand} {ax ay:qB} {k:Option Nat} {id p:Nat} {cs:List qd} (ho:o.op = .store ty x y) (aB:qfw P ty = some (k.getD 1)) (hx:opd gl x = some ax) (hy:opd gl y = some ay)
  (hp:ev t ax = .ptr id p) (hid:h[id]? = some (.cells cs)) (aL:(match k with | none=>[raw t ay] | some _=>(raw t ay).dim.cells.map qd.dim).length = k.getD 1)
  (a6:p + (match k with | none=>[raw t ay] | some _=>(raw t ay).dim.cells.map qd.dim).length <= cs.length) (E:(match k with | none=>[raw t ay] | some _=>(raw t ay).dim.cells.map qd.dim).all qd.storable = true) (n:Nat) :
  Did P gl G w a o n (h.set id (.cells (splice cs p (match k with | none=>[raw t ay] | some _=>(raw t ay).dim.cells.map qd.dim)))) (AE.put o.dst .undef (qaK t ay)):=by
 have hv:=qai hc.rel hc.tr hx
 rw [hp] at hv
 simp only [qi.V,qC] at hv
 obtain ⟨b,hb,he⟩:=hv
 obtain ⟨c,e,hw,ar,af⟩:=hc.rel.box id b _ hb hid
 have al:=qkj hc.rel hc.tr hy
 generalize a7:(match k with | none=>[raw t ay] | some _=>(raw t ay).dim.cells.map qd.dim) = vs at *
 have ai:(raw t ay).dim.cells.all qd.storable = true/\vs.length = (raw t ay).dim.cells.length/\(∀(i:Nat) (x:qd),vs[i]? = some x->x = raw t ay/\k = none\/x.dim = x)/\(∀γ imm us,qp γ imm (raw t ay).dim.cells us->qp γ imm vs us\/k = none):=by
  cases k with
  | none=>
   subst a7
   simp only [jB,jC,jv] at E
   have hd:(raw t ay).dim.storable = true:=by
    generalize raw t ay = r at E ⊢
    cases r <;> first | exact E | rfl | skip
    rename_i xs f
    cases f <;> rfl
   refine ⟨by rw [qaI hd];simp [hd],by rw [qaI hd];rfl,λi x hi=>?_,λ_ _ _ _=>.inr rfl⟩
   cases i with
   | zero=>simp at hi;exact .inl ⟨hi.symm,rfl⟩
   | succ i=>simp at hi
  | some m=>
   subst a7
   refine ⟨?_,by simp,λi x hi=>.inr ?_,λγ imm us hu=>.inl hu.dims⟩
   ·rw [List.all_map] at E
    rw [List.all_eq_true] at E ⊢
    intro y hy
    have:=E y hy
    cases y <;> first | exact this | rfl
   ·simp only [jr,Option.map_eq_some_iff] at hi
    obtain ⟨z,_,rfl⟩:=hi
    exact qbf z
 obtain ⟨aI,aP,au,aH⟩:=ai
 obtain ⟨aD,aC⟩:=qb2 (qcx al) aI
 have I:G.VL vs (a.eval y).cells.toList:=by
  rcases aH _ _ _ aD with h1 | h1
  ·exact h1
  ·subst h1
   subst a7
   simp only [jB,jC,jv] at E
   have:=(qb2 al (by rw [qaI E];simp [E])).1
   rwa [qaI E] at this
 have aM:cs.length <= c.size:=by simpa using qe1 ar
 have aj:(a.eval y).cells.size = k.getD 1:=by have:=I.length;simp at this;omega
 have a8:=quT (P:=P) (w:=w) aB hw aj (by omega:p + k.getD 1 <= c.size) aC
 generalize ad:(c.toList.take p ++ (a.eval y).cells.toList ++ c.toList.drop (p + (a.eval y).cells.toList.length)).toArray = c' at a8
 have ae:(execOp a.eval o).run P w = .ok .skip (w.setRow b c'):=by simp [execOp,ho,he,a8]
 have aa:G.VL (splice cs p vs) (c'.toList.take (splice cs p vs).length):=by
  rw [<-ad]
  exact qg5 ar I a6
 have a1:(a.eval y).cells.toList.length = vs.length:=I.length.symm
 have ap:c'.size = c.size:=by rw [<-ad];simp at a1 ⊢;omega
 have ac:∀i,i < p\/p + vs.length <= i->c'[i]? = c[i]?:=λi hi=>by
  have:=(qbx (cs:=c.toList) (vs:=(a.eval y).cells.toList) (o:=p) (i:=i) (by simp at a1 ⊢;omega)).1 (by rw [a1];exact hi)
  rw [<-ad,<-Array.getElem?_toList,<-Array.getElem?_toList (xs:=c)]
  exact this
 by_cases ab:∃i xs j,ay = .t i/\t[i]? = some (.lst xs (.own j))
 ·obtain ⟨i,xs,j,rfl,hi⟩:=ab
  have Y:=qkc hy
  subst Y
  obtain ⟨v,hv,hr⟩:=hc.tr.rel.get hi
  have av:=qjU hv
  have hg:t.getD i .undef = .lst xs (.own j):=by simp [List.getD,hi]
  have aF:qaK t (.t i) = t.set i (.lst xs .no):=by simp only [qaK,hg]
  obtain ⟨b2,p2,len,cap,c2,e2,rfl,k1,k2,k3,k4,k5⟩:=hc.tr.own i xs j v hi (by simpa using hv)
  have aJ:b2 ≠ b:=λe1=>(hc.rel.ow b2 _ k1).2 id (e1▸hb)
  rw [aF]
  refine ⟨_,undef,_,G.give b2 (some (.cell id p)),ae,.inr ⟨rfl,rfl⟩,λhq _=>absurd (.inl ⟨ty,x,_,ho⟩) hq,Ext.store n hb hw rfl rfl (λx hx=>?_),?_,?_⟩
  ·simp only [qi.give] at hx
   split at hx
   ·rename_i e1;subst e1;simp [k1]
   ·exact hx
  ·refine hc.rel.store hb hid hw rfl rfl (λx hx=>?_) (λx aN o' aO hx=>?_) aa ap (λo' ys k' u Y hu=>?_)
   ·simp only [qi.give] at hx
    split at hx
    ·rename_i e1;subst e1;simp [k1]
    ·exact hx
   ·have:x ≠ b2:=λe1=>by subst e1;rw [k1] at hx;cases hx
    simpa [qi.give,this] using hx
   ·rcases qfd a6 Y with ⟨h1,h2⟩ | ⟨h1,h2,h3⟩
    ·have h4:c[o']? = some u:=by rw [<-ac o' h1];exact hu
     refine (af o' ys k' u h2 h4).keep (λx hx=>?_) (λx hx=>qy w b x c' (λe1=>(hc.rel.ow x _ hx).2 id (e1▸hb))) (λ_ _ _ h=>h)
     have:x ≠ b2:=λe1=>by subst e1;rw [k1] at hx;cases hx
     simpa [qi.give,this] using hx
    ·rcases au _ _ h3 with ⟨h4,h5⟩ | h4
     ·subst h5
      simp only [raw,hg,qd.lst.injEq,qgV.own.injEq] at h4
      obtain ⟨rfl,rfl⟩:=h4
      have aK:vs.length = 1:=by rw [<-a7];rfl
      have aE:o' = p:=zo
      subst aE
      have az:u = .slice (some ⟨b2,p2,none⟩) len cap:=by
       have h6:=(qbx (cs:=c.toList) (vs:=(a.eval (.tmp i)).cells.toList) (o:=o') (i:=o') (by simp at a1 ⊢;omega)).2 (jm _) (by rw [a1];omega)
       rw [<-ad,<-Array.getElem?_toList,h6,av] at hu
       simpa [Value.cells] using hu.symm
      subst az
      exact ⟨b2,p2,len,cap,c2,e2,rfl,by simp [qi.give],by rw [qy w b b2 c' aJ];exact k2,k3,k4,k5⟩
     ·simp [qd.dim] at h4
  ·have aA:=(hc.tr.give (ℓ:=some (.cell id p)) hi k1).store (hc.rel.give (ℓ:=.cell id p) k1 (λ_ _ e1=>by cases e1)) c' (id:=id) (b:=b) hb
   exact aA.put o.dst (by simp [qi.V,qC,undef,mark]) rfl a.defers
 ·have ak:∀i xs k,ay = .t i->t[i]? ≠ some (.lst xs (.own k)):=λi xs k h1 h2=>ab ⟨i,xs,k,h1,h2⟩
  obtain ⟨am,aG⟩:=qim ak (qlw hy)
  rw [aG]
  refine ⟨_,undef,_,G,ae,.inr ⟨rfl,rfl⟩,λhq _=>absurd (.inl ⟨ty,x,_,ho⟩) hq,Ext.store n hb hw rfl rfl (λ_ h=>h),?_,?_⟩
  ·refine hc.rel.store hb hid hw rfl rfl (λ_ h=>h) (λ_ _ _ _ h=>h) aa ap (λo' ys k' u Y hu=>?_)
   rcases qfd a6 Y with ⟨h1,h2⟩ | ⟨h1,h2,h3⟩
   ·have h4:c[o']? = some u:=by rw [<-ac o' h1];exact hu
    exact (af o' ys k' u h2 h4).keep (λ_ h=>h) (λx hx=>qy w b x c' (λe1=>(hc.rel.ow x _ hx).2 id (e1▸hb))) (λ_ _ _ h=>h)
   ·exfalso
    rcases au _ _ h3 with ⟨h4,_⟩ | h4
    ·rw [<-h4] at am;simp [qd.dim] at am
    ·simp [qd.dim] at h4
  ·exact (hc.tr.store hc.rel c' hb).put o.dst (by simp [qi.V,qC,undef,mark]) rfl a.defers
end
theorem qdT {xs:List qd} {k:Nat} (h:∀x ∈ xs,x.cells.length = k):(qf4 xs).length = xs.length * k:=by
 induction xs with
 | nil=>simp [qf4]
 | cons x xs ih=>
  have h1:=h x (by simp)
  have h2:=ih λy hy=>h y (by simp [hy])
  simp only [qf4,List.flatMap_cons,ji,jy] at h2 ⊢
  rw [h1,h2,Nat.add_mul,Nat.one_mul,ju]
section
variable {γ:Nat->Option Nat} {imm:Nat->Nat->Option Value}
theorem qQ.list:∀{xs:List qd} {b p:Nat},qQ γ imm xs b p->∃vs,qp γ imm (qf4 xs) vs/\∀(j:Nat) (v:Value),vs[j]? = some v->imm b (p + j) = some v
 | [],b,p,_=>⟨[],by simp [qf4,qp],λj v h=>by simp at h⟩
 | x :: xs,b,p,hx=>by
  obtain ⟨h1,h2⟩:=hx.uncons
  obtain ⟨vs,h3,h4⟩:=h1.list
  obtain ⟨us,h5,h6⟩:=qQ.list h2
  refine ⟨vs ++ us,by simpa [qf4] using h3.append h5,λj v hj=>?_⟩
  by_cases e:j < vs.length
  ·rw [ja e] at hj;exact h4 j v hj
  ·rw [jc zo] at hj
   have:=h6 _ v hj
   rw [h3.length] at this
   rwa [show p + vs.length + (j - vs.length) = p + j by omega] at this
theorem qQ.of_flat:∀{xs:List qd} {vs:List Value} {b p:Nat},qp γ imm (qf4 xs) vs->(∀(j:Nat) (v:Value),vs[j]? = some v->v ≠ mark->imm b (p + j) = some v)->qQ γ imm xs b p
 | [],_,_,_,_,_=>by simp [qQ]
 | x :: xs,vs,b,p,hv,hi=>by
  simp only [qf4,List.flatMap_cons] at hv
  have hl:=hv.length
  refine qQ.cons (qaw.of_get λi c hc=>?_) (qQ.of_flat (vs:=vs.drop x.cells.length) ?_ λj v hj hm=>?_)
  ·obtain ⟨v,h1,h2⟩:=hv.get (i:=i) (a:=c) (by rw [ja (jd.1 hc).1];exact hc)
   exact ⟨v,hi i v h1 (qd2 h2),h2⟩
  ·have:=hv.drop x.cells.length
   simpa [qf4] using this
  ·rw [List.getElem?_drop] at hj
   rw [jt]
   exact hi _ v hj hm
theorem qQ.cells_one {xs:List qd} {vs:List Value} (h:qp γ imm (qf4 xs) vs) (hs:(qf4 xs).all qd.storable = true):∀v ∈ vs,v.oneCell' = true:=by
 intro v hv
 obtain ⟨i,hi⟩:=List.getElem?_of_mem hv
 obtain ⟨a,ha,hr⟩:=h.get' hi
 have E:a.storable = true:=by rw [List.all_eq_true] at hs;exact hs a (List.mem_of_getElem? ha)
 have:=(qb2 hr (by rw [qaI E];simp [E])).2 v (by
  cases v <;> first | (simp [Value.cells];done) | skip
  all_goals
   exfalso
   cases a <;> first | (simp [qd.storable] at E;done) | (simp only [qC] at hr;first | (cases hr;done) | (obtain ⟨_,hr⟩:=hr;cases hr;done) | (obtain ⟨_,hr,_⟩:=hr;cases hr;done) | (obtain ⟨_,_,hr,_⟩:=hr;cases hr;done) | (obtain ⟨_,_,hr⟩:=hr;cases hr;done) | (obtain ⟨_,_,_,hr,_⟩:=hr;cases hr;done)))
 exact this
end
section
variable {P:Program} {gl:Nat->Option (List qd)} {G G':qi} {w w':World} {h:List qj} {t:List qd} {a:Act} {n:Nat}
theorem qhU (hr:Rel P gl G h w) {xs:List qd} {f:qgV} {v:Value} (hv:G.V (.lst xs f) v) {k:Nat} (hk:∀x ∈ xs,x.cells.length = k) :
  ∃vs:List Value,G.VL (qf4 xs) vs/\(∀w1:World,(∀x,w1.cell? x = w.cell? x)->(Builtin.firstCells k xs.length v).run P w1 = .ok vs.toArray w1)/\(Builtin.lenOf v).run P w = .ok xs.length w:=by
 simp only [qi.V,qC] at hv
 obtain ⟨base,len,cap,rfl,h1,h2,h3,h4,_,h5⟩:=hv
 subst h1
 rcases h5 with rfl | ⟨b,p,rfl,hE⟩
 ·refine ⟨[],by simp [qf4,qi.VL,qp],λw1 _=>?_,by simp [Builtin.lenOf]⟩
  cases base with
  | none=>simp [Builtin.firstCells]
  | some a0=>simp [Builtin.firstCells,loadCells,loadCellsFrom]
 ·obtain ⟨vs,h6,h7⟩:=hE.list
  refine ⟨vs,h6,λw1 I=>?_,by simp [Builtin.lenOf]⟩
  have hl:vs.length = xs.length * k:=by rw [<-h6.length,qdT hk]
  have:=run_loadCells_list (P:=P) w1 ⟨b,p,none⟩ vs (λj v hj=>by
   rw [qcE,I]
   obtain ⟨x,_,E⟩:=h6.get' hj
   exact (hr.imm b _ v (h7 j v hj) (qd2 E)).1)
  rw [hl] at this
  simp [Builtin.firstCells,this]
theorem qi3 {s:List UInt8} {v:Value} (hv:G.V (.str s) v):∃vs:List Value,G.VL (qf4 (qlY s)) vs/\(∀(k:Nat) (w1:World),(Builtin.firstCells k s.length v).run P w1 = .ok vs.toArray w1)/\(Builtin.lenOf v).run P w = .ok s.length w:=by
 simp only [qi.V,qC] at hv
 obtain ⟨b,rfl,hb⟩:=hv
 have E:b.size = s.length:=by rw [<-hb];rfl
 refine ⟨s.map λc=>.int .u8 c.toNat,?_,λk w1=>?_,by simp [Builtin.lenOf,E]⟩
 ·clear hb E
  induction s with
  | nil=>simp [qf4,qlY,qi.VL,qp]
  | cons c s ih=>
   simp only [qf4,qlY,List.map_cons,List.flatMap_cons,qd.cells,List.singleton_append,qi.VL,qp] at ih ⊢
   exact ⟨_,_,rfl,by simp [qC],ih⟩
 ·have he:(b.extract 0 s.length).data = b.data:=by
   apply Array.ext'
   rw [qhT]
   rw [<-hb]
   simp only [List.drop_zero,Nat.sub_zero]
   exact List.take_of_length_le (jm _)
  simp only [Builtin.firstCells,Sem.run_pure]
  congr 1
  rw [he]
  apply Array.ext'
  simp [hb]
theorem qpV (E cap:Nat) (h:E <= 2 ^ 30) (hc:cap < E):Builtin.nextslicecap E cap <= 2 ^ 32:=by
 unfold Builtin.nextslicecap
 split
 ·omega
 ·split
  ·omega
  ·have g0:∀c,Builtin.growBy E 0 c = c:=λc=>rfl
   have gs:∀n c,Builtin.growBy E (n + 1) c = if c >= E then c else Builtin.growBy E n (c + (c + 768) / 4):=λn c=>rfl
   rw [gs]
   split
   ·omega
   ·rw [gs]
    split
    ·omega
    ·rw [gs]
     split
     ·omega
     ·rw [gs]
      split
      ·omega
      ·rw [g0]
       omega
end
section
variable {P:Program} {gl:Nat->Option (List qd)} {G G':qi} {w w':World} {h:List qj} {t:List qd} {a:Act} {n:Nat}
noncomputable def qi.fixed (G:qi) (b:Nat) (c:Array Value) (lo hi:Nat) (ℓ:Option Loc):qi:=
 { γ:=G.γ,imm:=λx o=>if x = b/\lo <= o/\o < hi then qmf c[o]? else G.imm x o,ow:=λx=>if x = b then ℓ else G.ow x}
theorem qeU {sT xT e:TypeId} {i:TypeInfo} {ux:TypeDesc} (hu:P.underlying sT = some (.slice e)) (hx:P.underlying xT = some ux) (ar:(∃e',ux = .slice e')\/ux = .string) (hi:P.info? e = some i)
  {base:Option Addr} {len cap m:Nat} {x:Value} (hl:(Builtin.lenOf x).run P w = .ok m w) (ty:TypeId) (old new:List Value)
  (a6:∀w1:World,(∀y,w1.cell? y = w.cell? y)->(Builtin.firstCells i.size m x).run P w1 = .ok new.toArray w1)
  (hold:∀w1:World,(∀y,w1.cell? y = w.cell? y)->(Builtin.firstCells i.size len (.slice base len cap)).run P w1 = .ok old.toArray w1)
  (ak:len + m <= 2 ^ 30) (hb:i.bytes <= 65536) {z:Value} (hz:∀w1:World,(zeroValue e).run P w1 = .ok z w1) (am:z.cells.size = i.size) (aa:old.length = len * i.size) (I:new.length = m * i.size) :
  (cap < len + m->∃E d c,len + m <= E/\(Builtin.append_ #[sT,xT] ty #[.slice base len cap,x]).run P w = .ok (.slice (some ⟨w.heap.size,0,none⟩) (len + m) E) (({ w with drawn:=d}:World).alloc (.cells c e))/\
   c.size = E * i.size/\∀(j:Nat) (v:Value),(old ++ new)[j]? = some v->c[j]? = some v)/\
  (len + m <= cap->∀b p,base = some ⟨b,p,none⟩->∀(c:Array Value) (te:TypeId),w.heap[b]? = some (.cells c te (0,0))->p + (len + m) * i.size <= c.size->(∀v ∈ new,v.oneCell' = true)->
   (Builtin.append_ #[sT,xT] ty #[.slice base len cap,x]).run P w = .ok (.slice base (len + m) cap) (w.setRow b (c.toList.take (p + len * i.size) ++ new ++ c.toList.drop (p + len * i.size + new.length)).toArray))/\
  (m = 0->len <= cap->(Builtin.append_ #[sT,xT] ty #[.slice base len cap,x]).run P w = .ok (.slice base len cap) w):=by
 rcases ar with ⟨e',rfl⟩ | rfl
 all_goals
  have Y:(sizeOf e).run P w = .ok i.size w:=by simp [sizeOf,typeInfo,hi]
  have ad:∀w1:World,(typeInfo e).run P w1 = .ok i w1:=λw1=>by simp [typeInfo,hi]
  have a7:=a6 w (λ_=>rfl)
  refine ⟨λhc=>?_,λhc b p ac c te hw al h1=>?_,λhm hc=>?_⟩
  ·have ay:¬ (len + m <= cap):=zo
   have aD:¬ (((len + m:Nat):Int) > IntKind.i64.max/\(False\/i.bytes = 0)):=by
    simp only [IntKind.max,IntKind.signed,IntKind.bits,if_true]
    omega
   have az:=qpV (len + m) cap ak hc
   have aC:¬ (Builtin.nextslicecap (len + m) cap * i.bytes > 2 ^ 48):=by
    have:Builtin.nextslicecap (len + m) cap * i.bytes <= 2 ^ 32 * 65536:=Nat.mul_le_mul az hb
    omega
   have hq:(Question.appendCap (len + m) cap e).forced = false:=rfl
   generalize a1:(Question.appendCap (len + m) cap e).cut (w.tape w.drawn (Question.appendCap (len + m) cap e)) = E
   have aB:len + m <= E:=by rw [<-a1];simp only [Question.cut];omega
   refine ⟨E,w.drawn + 1,old.toArray ++ new.toArray ++ Builtin.zeroCells z.cells (E - (len + m)),aB,?_,?_,?_⟩
   ·have a8:=hold w.drew (λ_=>rfl)
    have ab:=a6 w.drew (λ_=>rfl)
    have ap:=hz w.drew
    have au:=ad w.drew
    have av:=ad w
    have aA:¬ (9223372036854775807 < (len:Int) + (m:Int)/\i.bytes = 0):=zo
    have aj:¬ (281474976710656 < Builtin.nextslicecap (len + m) cap * i.bytes):=zo
    simp [Builtin.append_,run_underlying hu,run_underlying hx,Y,hl,ay,av,aA,aj,hq,a1,au,a8,ab,ap,newRow,IntKind.max,IntKind.signed,IntKind.bits]
    exact congrArg (λc=>w.drew.alloc (Obj.cells c e)) (Array.ext' (by simp))
   ·simp [Builtin.zeroCells,aa,I,am]
    rw [<-Nat.add_mul,<-Nat.add_mul]
    congr 1;omega
   ·intro j v hj
    have af:(old.toArray ++ new.toArray)[j]? = some v:=by simpa [Array.getElem?_append,List.getElem?_append] using hj
    rw [Array.getElem?_append_left (je.1 af).1]
    exact af
  ·subst ac
   have ae:=run_storeCells_at P b (p + len * i.size) te new 0 c w hw (by
    rw [Nat.add_mul] at al
    rw [I];omega) h1
   simp only [Nat.add_zero] at ae
   simp [Builtin.append_,run_underlying hu,run_underlying hx,Y,hl,hc,a7,qcE,ae]
  ·subst hm
   have ai:new = []:=by
    have:new.length = 0:=by rw [I];simp
    exact List.eq_nil_of_length_eq_zero this
   subst ai
   cases base with
   | none=>simp [Builtin.append_,run_underlying hu,run_underlying hx,Y,hl,hc,a7]
   | some a0=>simp [Builtin.append_,run_underlying hu,run_underlying hx,Y,hl,hc,a7,storeCells]
end
section
variable {P:Program} {gl:Nat->Option (List qd)} {G G':qi} {w w':World} {h:List qj} {t:List qd} {a:Act} {n:Nat}
def qzt (h:List qj) (t:List qd):Loc->Prop
 | .tmp i=>∀xs k,t[i]? ≠ some (.lst xs (.own k))
 | .cell id o=>(∀cs xs k,h[id]? = some (.cells cs)->cs[o]? ≠ some (.lst xs (.own k)))/\∀T e s,h[id]? ≠ some (.bld T e s)
theorem qsh (hr:Rel P gl G h w) (ht:qaJ G w t a.tmps) {b s hi:Nat} {a1:Loc} {ℓ:Option Loc} {c c':Array Value} {e:TypeId} (hb:G.ow b = some a1) (hq:qzt h t a1)
  (hw:w.heap[b]? = some (.cells c e (0,0))) (ac:∀j,s <= j->G.imm b j = none) (af:∀j,j < s->c'[j]? = c[j]?) (ai:c'.size = c.size) (n:Nat) :
  Rel P gl (G.fixed b c' s hi ℓ) h (w.setRow b c')/\qaJ (G.fixed b c' s hi ℓ) (w.setRow b c') t a.tmps/\Ext n G w (G.fixed b c' s hi ℓ) (w.setRow b c'):=by
 have a7:∀i,G.γ i ≠ some b:=(hr.ow b a1 hb).2
 have a6:∀x o v,G.imm x o = some v->(G.fixed b c' s hi ℓ).imm x o = some v:=by
  intro x o v hv
  simp only [qi.fixed]
  rw [if_neg]
  ·exact hv
  ·rintro ⟨rfl,h1,_⟩
   rw [ac o h1] at hv
   cases hv
 have ab:∀x j,x ≠ b->G.imm x j = none->(G.fixed b c' s hi ℓ).imm x j = none:=by
  intro x j hx hj
  simp only [qi.fixed]
  rw [if_neg (λhh=>hx hh.1)]
  exact hj
 have a8:∀x Y,x ≠ b->G.ow x = some Y->(G.fixed b c' s hi ℓ).ow x = some Y:=by
  intro x Y hx hh
  simp only [qi.fixed]
  rw [if_neg hx];exact hh
 refine ⟨⟨λi x hx=>by simpa using hr.γlt i x hx,hr.inj,λi x bx hx ad=>?_,λx o v hv hm=>?_,λx o v i hv hm=>?_,λx o hv=>?_,λx Y hx=>?_,λg cs hg=>?_⟩,?_,?_⟩
 ·have E:x ≠ b:=λe1=>a7 i (e1▸hx)
  have h0:=hr.box i x bx hx ad
  cases bx with
  | cells cs=>
   obtain ⟨d,e',h1,h2,h3⟩:=h0
   obtain ⟨m,hm⟩:=qas cs
   refine ⟨d,e',by rw [qy w b x c' E];exact h1,qp.mono a6 m (λ_ _ _ h=>h) cs _ hm h2,λo xs k v ho hv=>?_⟩
   have I:∀y,G.ow y = some (.cell i o)->y ≠ b:=λy hy e1=>by
    subst e1
    rw [hb] at hy
    cases hy
    exact hq.1 cs xs k ad ho
   exact (h3 o xs k v ho hv).keep (λy hy=>a8 y _ (I y hy) hy) (λy hy=>qy w b y c' (I y hy)) (λy j hy hj=>ab y j (I y hy) hj)
  | loop tt _ _ _ _ _=>
   obtain ⟨L,h1,h2⟩:=h0
   obtain ⟨m,hm⟩:=qas tt
   exact ⟨L,by rw [qy w b x c' E];exact h1,{ h2 with tmps:=qp.mono a6 m (λ_ _ _ h=>h) tt _ hm h2.tmps}⟩
  | map es _=>
   obtain ⟨me,h1,h2⟩:=h0
   obtain ⟨m,hm⟩:=qcZ es
   exact ⟨me,by rw [qy w b x c' E];exact h1,qah.mono a6 m (λ_ _ _ h=>h) hm h2⟩
  | iter im _ _ _=>
   obtain ⟨mm,h1,h2⟩:=h0
   obtain ⟨m,hm⟩:=AE.lower_ex im
   exact ⟨mm,by rw [qy w b x c' E];exact h1,qC.mono a6 m (λ_ _ _ h=>h) _ _ hm h2⟩
  | bld _ _ _=>
   have I:∀y,G.ow y = some (.cell i 1)->y ≠ b:=λy hy e1=>by
    subst e1
    rw [hb] at hy
    cases hy
    exact hq.2 _ _ _ ad
   exact qqy.keep h0 (qy w b x c' E) (λy hy=>a8 y _ (I y hy) hy) (λy hy=>qy w b y c' (I y hy)) (λy j hy hj=>ab y j (I y hy) hj)
  | dead=>trivial
 ·simp only [qi.fixed] at hv
  split at hv
  ·rename_i hh
   obtain ⟨rfl,_,_⟩:=hh
   refine ⟨?_,by simpa using (hr.ow x a1 hb).1⟩
   simp only [World.cell?,setRow_heap w x c c' e (0,0) hw]
   simpa using (qbj.1 hv).1
  ·rename_i hh
   obtain ⟨h1,h2⟩:=hr.imm x o v hv hm
   refine ⟨?_,by simpa using h2⟩
   by_cases E:x = b
   ·subst E
    have aa:o < s:=by
     by_cases aa:o < s
     ·exact aa
     ·rw [ac o zo] at hv;cases hv
    simp only [World.cell?,setRow_heap w x c c' e (0,0) hw,hw] at h1 ⊢
    simpa [af o aa] using h1
   ·exact (qbA (qy w b x c' E)).trans h1
 ·simp only [qi.fixed] at hv
  split at hv
  ·rename_i hh;obtain ⟨rfl,_,_⟩:=hh;exact λe1=>absurd e1 (a7 i)
  ·exact hr.immγ x o v i hv hm
 ·simp only [qi.fixed] at hv
  split at hv
  ·exact absurd rfl (qbj.1 hv).2
  ·obtain ⟨h0,d,e',h1,h2⟩:=hr.immK x o hv
   by_cases E:x = b
   ·subst E
    rw [hw] at h1;cases h1
    exact ⟨h0,c',e,setRow_heap w x c c' e (0,0) hw,zo⟩
   ·exact ⟨h0,d,e',by rw [qy w b x c' E];exact h1,h2⟩
 ·simp only [qi.fixed] at hx
  split at hx
  ·rename_i hh;subst hh;exact ⟨by simpa using (hr.ow x a1 hb).1,a7⟩
  ·exact ⟨by simpa using (hr.ow x Y hx).1,(hr.ow x Y hx).2⟩
 ·obtain ⟨h1,h2⟩:=hr.glob g cs hg
  exact ⟨qeb.mono a6 cs g h2 h1,h2⟩
 ·obtain ⟨m,hm⟩:=qas t
  refine ⟨qp.mono a6 m (λ_ _ _ h=>h) t _ hm ht.rel,λi xs k v ae hv=>?_⟩
  have I:∀y,G.ow y = some (.tmp i)->y ≠ b:=λy hy e1=>by
   subst e1
   rw [hb] at hy
   cases hy
   exact hq xs k ae
  exact (ht.own i xs k v ae hv).keep (λy hy=>a8 y _ (I y hy) hy) (λy hy=>qy w b y c' (I y hy)) (λy j hy hj=>ab y j (I y hy) hj)
 ·refine ⟨λ_ _ h=>h,λ_ _ h=>.inl h,a6,λx o v hv=>?_,λx hx=>?_,by simp,λx hx hf=>?_,λx L hL=>?_,rfl,rfl,rfl⟩
  ·simp only [qi.fixed] at hv
   split at hv
   ·rename_i hh;obtain ⟨rfl,_,_⟩:=hh;exact .inr (.inr (.inl (by simp [hb])))
   ·exact .inl hv
  ·simp only [qi.fixed] at hx
   split at hx
   ·rename_i hh;subst hh;exact .inl (by simp [hb])
   ·exact .inl hx
  ·exact qy w b x c' (λe1=>by subst e1;rw [hf.2] at hb;cases hb)
  ·have:x ≠ b:=λe1=>by subst e1;rw [hw] at hL;cases hL
   exact ⟨L,by rw [qy w b x c' this];exact hL,rfl,rfl,rfl,rfl,rfl,rfl⟩
theorem Rel.drainCell (hr:Rel P gl G h w) {id o:Nat} {cs:List qd} {xs:List qd} {f:qgV} (hid:h[id]? = some (.cells cs)) (ho:cs[o]? = some (.lst xs f)) :
  Rel P gl G (h.set id (.cells (cs.set o (.lst xs .no)))) w:=by
 have a1:=jd.1 hid |>.1
 refine ⟨λi x hx=>by simpa using hr.γlt i x hx,qjZ hr.inj hid (by simp),λi x bx hx I=>?_,hr.imm,λb o v i hv hm hg=>qdO hid (by simp) (hr.immγ b o v i hv hm hg),hr.immK,hr.ow,hr.glob⟩
 by_cases e1:id = i
 ·subst e1
  rw [jg a1] at I
  cases I
  obtain ⟨c,e,h1,h2,h3⟩:=hr.box id x _ hx hid
  obtain ⟨v,hv,Y⟩:=h2.get ho
  have h4:=qp.set o h2 (qls Y)
  have e2:(c.toList.take cs.length).set o v = c.toList.take cs.length:=by
   obtain ⟨h5,h6⟩:=jd.1 hv
   rw [<-h6];exact List.set_getElem_self h5
  rw [e2] at h4
  refine ⟨c,e,h1,by simpa using h4,λo' ys k u E hu=>?_⟩
  by_cases e3:o = o'
  ·subst e3
   rw [jg (jd.1 ho).1] at E
   simp at E
  ·rw [jf e3] at E
   exact h3 o' ys k u E hu
 ·rw [jf e1] at I
  exact hr.box i x bx hx I
theorem qnp (hc:Cfg P gl G h t a w) {o:Oper} {c:Go.Call} {x y:Operand} {sT xT e:TypeId} {i:TypeInfo} {ux:TypeDesc} {z:qd} {ys xs:List qd} {f0:qgV} (ho:o.op = .call c) (hcal:c.callee = .builtin .append)
  (ap:c.args.toList = [x,y]) (aN:c.argTypes.toList = [sT,xT]) (hu:P.underlying sT = some (.slice e)) (hx:P.underlying xT = some ux) (aJ:(∃e',ux = .slice e')\/ux = .string) (hi:P.info? e = some i)
  (b5:i.size ≠ 0) (hb:i.bytes <= 65536) (hz:qbO P e = some z) (b3:z.cells.length = i.size)
  (ar:G.V (.lst xs f0) (a.eval x)) (aI:∃nv:List Value,G.VL (qf4 ys) nv/\(∀w1:World,(∀q,w1.cell? q = w.cell? q)->(Builtin.firstCells i.size ys.length (a.eval y)).run P w1 = .ok nv.toArray w1)/\(Builtin.lenOf (a.eval y)).run P w = .ok ys.length w)
  (aG:xs.length + ys.length <= qk) (ae:∀y ∈ ys,y.cells.length = i.size) (aB:(qf4 ys).all qd.storable = true) (Y:∀x ∈ xs,x.cells.length = i.size) (aQ:ys ≠ [])
  (am:f0 = .full\/∃a6,qvD G w a6 i.size (a.eval x)/\qzt h t a6) (n:Nat) :
  Did P gl G w a o n h (AE.put o.dst (.lst (xs ++ ys) (.own i.size)) t):=by
 have ea:c.args = #[x,y]:=by rw [<-Array.toArray_toList (xs:=c.args),ap]
 have et:c.argTypes = #[sT,xT]:=by rw [<-Array.toArray_toList (xs:=c.argTypes),aN]
 obtain ⟨nv,ac,aU,aT⟩:=aI
 obtain ⟨ov,ay,av,aP⟩:=qhU (P:=P) hc.rel ar Y
 have az:nv.length = ys.length * i.size:=by rw [<-ac.length,qdT ae]
 have au:ov.length = xs.length * i.size:=by rw [<-ay.length,qdT Y]
 have aZ:0 < ys.length:=by cases ys with | nil=>exact absurd rfl aQ | cons _ _=>simp
 have aR:=qQ.cells_one ac aB
 obtain ⟨u0,aM,aC⟩ :∃u0:Value,(∀w1:World,(zeroValue e).run P w1 = .ok u0 w1)/\u0.cells.size = i.size:=by
  unfold qbO at hz
  rw [hi] at hz
  simp only at hz
  obtain ⟨u,aL,aK⟩:=qG (by simpa [jA] using hz)
  refine ⟨u,λw1=>by simp [zeroValue,typeInfo,hi,aL],?_⟩
  have:=(qgT (γ:=G.γ) (imm:=G.imm) aK).length
  simp at this
  omega
 have af:=ar
 simp only [qi.V,qC] at af
 obtain ⟨base,len,cap,a7,h1,h2,h3,h4,_,h5⟩:=af
 subst h1
 rw [a7] at av aP
 have ab:∀r w1,(Builtin.append_ #[sT,xT] o.type #[.slice base xs.length cap,a.eval y]).run P w = .ok r w1->(execOp a.eval o).run P w = .ok (.value r) w1:=by
  intro r w1 hr
  simp [execOp,ho,hcal,ea,et,resolve,invoke,builtin,a7,hr]
 obtain ⟨hA,hB,_⟩:=qeU (P:=P) (w:=w) hu hx aJ hi aT o.type ov nv aU av aG hb aM aC au az
 have ai:∀q ∈ xs ++ ys,q.cells.length = i.size:=λq hq=>by
  rcases List.mem_append.1 hq with hq | hq
  ·exact Y q hq
  ·exact ae q hq
 by_cases I:xs.length + ys.length <= cap
 ·
  rcases am with rfl | ⟨a6,aD,hq⟩
  ·exfalso;have:=h3 rfl;omega
  ·obtain ⟨b,p,aY,b0,cc,te,aa,k1,k2,k3,k4,k5⟩:=aD
   rw [a7] at aa
   cases aa
   have E:=ab _ _ (hB I b p rfl cc te k2 (by have:=Nat.mul_le_mul_right i.size I;omega) aR)
   generalize al:(cc.toList.take (p + xs.length * i.size) ++ nv ++ cc.toList.drop (p + xs.length * i.size + nv.length)).toArray = c' at E
   have a8:p + xs.length * i.size + nv.length <= cc.toList.length:=by
    have:(xs.length + ys.length) * i.size <= cap * i.size:=Nat.mul_le_mul_right _ I
    rw [Nat.add_mul] at this
    simp;omega
   have aF:∀j,j < p + xs.length * i.size->c'[j]? = cc[j]?:=λj hj=>by
    have:=(qbx (cs:=cc.toList) (vs:=nv) (o:=p + xs.length * i.size) (i:=j) a8).1 (.inl hj)
    rw [<-al,<-Array.getElem?_toList,<-Array.getElem?_toList (xs:=cc)]
    exact this
   have aE:∀(j:Nat) (v:Value),nv[j]? = some v->c'[p + xs.length * i.size + j]? = some v:=λj v hj=>by
    have ad:=(jd.1 hj).1
    have:=(qbx (cs:=cc.toList) (vs:=nv) (o:=p + xs.length * i.size) (i:=p + xs.length * i.size + j) a8).2 zo zo
    rw [<-al,<-Array.getElem?_toList,this]
    simpa using hj
   have ak:c'.size = cc.size:=by rw [<-al];simp at a8 ⊢;omega
   obtain ⟨f1,f2,f3⟩:=qsh (P:=P) (gl:=gl) (ℓ:=o.dst.map Loc.tmp) (hi:=p + xs.length * i.size + nv.length) hc.rel hc.tr k1 hq k2 k5 aF zo n
   have hV:(G.fixed b c' (p + xs.length * i.size) (p + xs.length * i.size + nv.length) (o.dst.map Loc.tmp)).V (.lst (xs ++ ys) (.own i.size)) (.slice (some ⟨b,p,none⟩) (xs.length + ys.length) cap):=by
    simp only [qi.V,qC]
    refine ⟨_,_,_,rfl,by simp,I,by simp,by simp,⟨i.size,ai⟩,.inr ⟨b,p,rfl,?_⟩⟩
    refine qQ.append Y ?_ ?_
    ·rcases h5 with rfl | ⟨b',p',aX,hE⟩
     ·simp [qQ]
     ·cases aX
      obtain ⟨m,hm⟩:=qas xs
      exact qQ.mono f3.ik m (λ_ _ _ h=>h) xs b p hm hE
    ·refine qQ.of_flat (vs:=nv) (f3.VL ac) λj v hj hm=>?_
     simp only [qi.fixed]
     rw [if_pos ⟨trivial,zo,by have:=(jd.1 hj).1;omega⟩]
     exact qbj.2 ⟨aE j v hj,hm⟩
   refine ⟨_,_,_,_,E,.inl rfl,λhq _=>absurd (.inr ⟨c,ho,hcal⟩) hq,f3,f1,?_⟩
   cases hd:o.dst with
   | none=>simpa [AE.put,Act.put,hd] using f2
   | some d=>
    rw [hd] at hV f1 f2 f3
    refine f2.putOwn d hV ⟨b,p,_,cap,c',te,rfl,by simp [qi.fixed],setRow_heap w b cc c' te (0,0) k2,I,by rw [ak];exact k4,λj hj=>?_⟩ a.defers
    simp only [qi.fixed]
    rw [if_neg (λhh=>by rw [Nat.add_mul] at hj;omega)]
    exact k5 j (by rw [Nat.add_mul] at hj;omega)
 ·
  obtain ⟨a1,d0,cc,aA,E,aV,aW⟩:=hA zo
  have E:=ab _ _ E
  have aj:Rel P gl G h { w with drawn:=d0}:=hc.rel.of_drew d0
  have aO:qaJ G { w with drawn:=d0} t a.tmps:=hc.tr.of_drew d0
  have f1:=aj.newRow cc e ((xs.length + ys.length) * i.size) (o.dst.map Loc.tmp)
  have f2:=qaJ.newRow aj aO cc e ((xs.length + ys.length) * i.size) (o.dst.map Loc.tmp)
  have f3:Ext n G w _ _:=((Ext.refl n G w).drew d0).trans (jm n) (Ext.newRow n cc e ((xs.length + ys.length) * i.size) (o.dst.map Loc.tmp) aj)
  have b4:({ w with drawn:=d0}:World).heap.size = w.heap.size:=rfl
  have aH:∀(j:Nat) (v:Value),(ov ++ nv)[j]? = some v->v ≠ mark->(G.withRow w.heap.size cc ((xs.length + ys.length) * i.size) (o.dst.map Loc.tmp)).imm w.heap.size (0 + j) = some v:=λj v hj hm=>by
   have ad:=(jd.1 hj).1
   simp only [ji,au,az] at ad
   rw [<-Nat.add_mul] at ad
   simp only [qi.withRow,Nat.zero_add,if_true,if_pos ad]
   exact qbj.2 ⟨aW j v hj,hm⟩
  have hV:(G.withRow w.heap.size cc ((xs.length + ys.length) * i.size) (o.dst.map Loc.tmp)).V (.lst (xs ++ ys) (.own i.size)) (.slice (some ⟨w.heap.size,0,none⟩) (xs.length + ys.length) a1):=by
   simp only [qi.V,qC]
   refine ⟨_,_,_,rfl,by simp,aA,by simp,by simp,⟨i.size,ai⟩,.inr ⟨_,_,rfl,?_⟩⟩
   refine qQ.of_flat (vs:=ov ++ nv) ?_ aH
   have:qf4 (xs ++ ys) = qf4 xs ++ qf4 ys:=by simp [qf4]
   rw [this]
   exact (f3.VL ay).append (f3.VL ac)
  refine ⟨_,_,_,_,E,.inl rfl,λhq _=>absurd (.inr ⟨c,ho,hcal⟩) hq,f3,f1,?_⟩
  cases hd:o.dst with
  | none=>simpa [AE.put,Act.put,hd] using f2
  | some d=>
   rw [hd] at hV f1 f2 f3
   refine f2.putOwn d hV ⟨w.heap.size,0,_,a1,cc,e,rfl,by simp [qi.withRow],qaq _ _,aA,by rw [aV];omega,λj hj=>?_⟩ a.defers
   simp only [qi.withRow,if_true]
   rw [if_neg zo]
end
section
variable {P:Program} {gl:Nat->Option (List qd)} {G G':qi} {w w':World} {h:List qj} {t:List qd} {a:Act} {n:Nat}
def qbs (G:qi) (w:World) (t:List qd) (a:Act) (p:qcD):Prop:=
 ∀d s,(d,s) ∈ p->∀u,a.tmps[d]? = some u->match s with
  | .tmp i=>a.tmps.getD i undef = u
  | .cell x=>∀id o,ev t x = .ptr id o->∃b,G.γ id = some b/\w.cell? ⟨b,o,none⟩ = some u
theorem qbs.nil:qbs G w t a []:=λ_ _ h=>by cases h
structure qCm (P:Program) (gl:Nat->Option (List qd)) (o:Oper) (k:Nat) (ax ay:qB):Prop where
 ex:∃(c:Go.Call) (x y:Operand) (sT xT e:TypeId) (i:TypeInfo) (ux:TypeDesc) (z:qd),o.op = .call c/\c.callee = .builtin .append/\c.args.toList = [x,y]/\c.argTypes.toList = [sT,xT]/\
  P.underlying sT = some (.slice e)/\P.underlying xT = some ux/\((∃e',ux = .slice e')\/ux = .string)/\P.info? e = some i/\i.size = k/\i.size ≠ 0/\i.bytes <= 65536/\qbO P e = some z/\z.cells.length = i.size/\
  opd gl x = some ax/\opd gl y = some ay
theorem qvd {xs:List qd} {f:qgV} {v:Value} {k:Nat} (hv:G.V (.lst xs f) v) (hk:xs.head?.all (λy=>y.cells.length == k) = true):∀x ∈ xs,x.cells.length = k:=by
 simp only [qi.V,qC] at hv
 obtain ⟨_,_,_,_,_,_,_,_,⟨k',h6⟩,_⟩:=hv
 intro x hx
 cases xs with
 | nil=>cases hx
 | cons y ys=>
  simp at hk
  rw [h6 x hx,<-h6 y (by simp),hk]
theorem qqs (hc:Cfg P gl G h t a w) {p:qcD} (hp:qbs G w t a p) {k:Nat} {x:Operand} {ax:qB} (hx:opd gl x = some ax) {a8:List qd} {f:qgV} (af:raw t ax = .lst a8 f) {e:Bool} {xs:List qd} {s':St} (ht:qeQ k p ax ⟨t,h,e⟩ = some (xs,s')) :
  ∃a7,Cfg P gl G s'.h s'.t a w/\s'.e = e/\s'.h.length = h.length/\qvD G w a7 k (a.eval x)/\qzt s'.h s'.t a7/\G.V (.lst xs .no) (a.eval x):=by
 unfold qeQ at ht
 split at ht
 ·cases ht
 ·rename_i i
  have aj:=qkc hx
  subst aj
  simp only at ht
  have ae:t[i]? = some (.lst a8 f):=getD_some af
  obtain ⟨u,hu,ak⟩:=hc.tr.rel.get ae
  have I:=qjU hu
  have ab:a.tmps[i]? = some u:=by simpa using hu
  split at ht
  ·rename_i ac j he
   split at ht
   ·rename_i hj
    cases ht
    subst hj
    have hi:=getD_some he
    have:a8 = xs/\f = .own j:=by rw [ae] at hi;cases hi;exact ⟨rfl,rfl⟩
    obtain ⟨rfl,rfl⟩:=this
    refine ⟨.tmp i,⟨hc.rel,hc.tr.drain hi⟩,rfl,rfl,?_,?_,?_⟩
    ·rw [I];exact hc.tr.own i _ j u hi ab
    ·intro ys k' hq
     simp only at hq
     rw [jg (jd.1 hi).1] at hq
     simp at hq
    ·rw [I];exact qls ak
   ·cases ht
  ·split at ht
   ·rename_i d b hf
    have a1:=List.mem_of_find?_eq_some hf
    have hd:d = i:=by have:=List.find?_some hf;simpa using this
    subst hd
    split at ht
    ·rename_i ac j he
     split at ht
     ·rename_i hj
      cases ht
      subst hj
      have hb:=getD_some he
      obtain ⟨u2,aa,Y⟩:=hc.tr.rel.get hb
      have h1:=hp _ _ a1 u ab
      simp only at h1
      have E:a.tmps[b]? = some u2:=by simpa using aa
      have h2:u2 = u:=by
       rw [<-h1]
       obtain ⟨q1,q2⟩:=je.1 E
       simp [Array.getD,q1,q2]
      subst h2
      refine ⟨.tmp b,⟨hc.rel,hc.tr.drain hb⟩,rfl,rfl,?_,?_,?_⟩
      ·rw [I];exact hc.tr.own b _ j u2 hb E
      ·intro ys k' hq
       simp only at hq
       rw [jg (jd.1 hb).1] at hq
       simp at hq
      ·rw [I];exact qls Y
     ·cases ht
    ·cases ht
   ·rename_i d x0 hf
    have a1:=List.mem_of_find?_eq_some hf
    have hd:d = i:=by have:=List.find?_some hf;simpa using this
    subst hd
    split at ht
    ·rename_i id o he
     split at ht
     ·rename_i cs hid
      split at ht
      ·rename_i ac j ho
       split at ht
       ·rename_i hj
        cases ht
        subst hj
        have h1:=hp _ _ a1 u ab
        simp only at h1
        obtain ⟨b,hb,a6⟩:=h1 id o he
        obtain ⟨c,te,hw,al,ai⟩:=hc.rel.box id b _ hb hid
        obtain ⟨u2,aa,Y⟩:=qey al ho
        have E:c[o]? = some u2:=by simpa using aa
        have h2:u2 = u:=by
         simp only [World.cell?,hw] at a6
         simpa [E] using a6
        subst h2
        refine ⟨.cell id o,⟨hc.rel.drainCell hid ho,hc.tr⟩,rfl,by simp,?_,?_,?_⟩
        ·rw [I];exact ai o _ j u2 ho E
        ·refine ⟨λam ys k' hq ad=>?_,λT e s hq=>?_⟩ <;> simp only at hq <;> rw [jg (jd.1 hid).1] at hq <;> cases hq
         rw [jg (jd.1 ho).1] at ad
         simp at ad
        ·rw [I];exact qls Y
       ·cases ht
      ·cases ht
     ·cases ht
    ·cases ht
   ·cases ht
theorem qop (hr:Rel P gl G h w) {y:qd} {v:Value} (hv:G.V y v) {ys:List qd} (ht:tail y = some ys) {k:Nat} (hk:∀q ∈ ys,q.cells.length = k) :
  ∃nv:List Value,G.VL (qf4 ys) nv/\(∀w1:World,(∀q,w1.cell? q = w.cell? q)->(Builtin.firstCells k ys.length v).run P w1 = .ok nv.toArray w1)/\(Builtin.lenOf v).run P w = .ok ys.length w:=by
 unfold tail at ht
 split at ht
 ·cases ht
  exact qhU hr hv hk
 ·rename_i s
  cases ht
  obtain ⟨nv,h1,h2,h3⟩:=qi3 (P:=P) (w:=w) hv
  exact ⟨nv,h1,λw1 _=>by simpa [qlY] using h2 k w1,by simpa [qlY] using h3⟩
 ·cases ht
theorem qAb (hc:Cfg P gl G h t a w) {p:qcD} (hp:qbs G w t a p) {o:Oper} {k:Nat} {ax ay:qB} (aE:qCm P gl o k ax ay) {base:Nat} {call:AE.Call} {e:Bool} {s':St}
  (E:qA base call p o.dst (.app k ax ay) ⟨t,h,e⟩ = some (.nor,s')) (n:Nat) (hn:n <= h.length):Did P gl G w a o n s'.h s'.t/\s'.e = e/\s'.h.length = h.length:=by
 obtain ⟨c,x,y,sT,xT,et,i,ux,z,h1,h2,h3,h4,h5,h6,h7,h8,h9,au,ar,ap,am,al,aI⟩:=aE.ex
 subst h9
 have ai:=qai hc.rel hc.tr aI
 have I:=qkj hc.rel hc.tr al
 simp only [qA] at E
 split at E
 ·rename_i xs f ys Y a6
  split at E
  ·
   rename_i ac
   simp only [List.isEmpty_iff] at ac
   subst ac
   cases E
   refine ⟨?_,rfl,rfl⟩
   rw [Y] at I
   obtain ⟨nv,m1,m2,m3⟩:=qop (P:=P) hc.rel ai a6 (k:=i.size) (λq hq=>by cases hq)
   obtain ⟨ov,o1,o2,o3⟩ :∃vs:List Value,True/\True/\True:=⟨[],trivial,trivial,trivial⟩
   have a8:=I
   simp only [qi.V,qC] at a8
   obtain ⟨bs,len,cap,aa,q1,q2,q3,q4,_,q5⟩:=a8
   have ea:c.args = #[x,y]:=by rw [<-Array.toArray_toList (xs:=c.args),h3]
   have aJ:c.argTypes = #[sT,xT]:=by rw [<-Array.toArray_toList (xs:=c.argTypes),h4]
   have aF:nv = []:=List.eq_nil_of_length_eq_zero (by have:=m1.length;simp [qf4] at this;exact this.symm)
   subst aF
   have ak:=m2 w (λ_=>rfl)
   simp only [jz] at ak m3
   have aB:(sizeOf et).run P w = .ok i.size w:=by simp [sizeOf,typeInfo,h8]
   have aH:(Builtin.append_ #[sT,xT] o.type #[.slice bs len cap,a.eval y]).run P w = .ok (.slice bs len cap) w:=by
    rcases h7 with ⟨e',rfl⟩ | rfl <;> cases bs <;> simp [Builtin.append_,run_underlying h5,run_underlying h6,aB,m3,q2,ak,storeCells]
   refine qf1 hc ⟨.slice bs len cap,?_,?_,qbf _⟩ n
   ·simp [execOp,h1,h2,ea,aJ,resolve,invoke,builtin,aa,aH]
   ·rw [<-aa];exact qcx I
  ·rename_i aG
   split at E
   ·rename_i ae
    obtain ⟨c1,c2,c3⟩:=ae
    have ab:ys ≠ []:=by simpa using aG
    have a1:∀q ∈ ys,q.cells.length = i.size:=λq hq=>by
     rw [List.all_eq_true] at c2
     have:=c2 q hq
     simp at this
     exact this.1
    have a7:(qf4 ys).all qd.storable = true:=by
     rw [List.all_eq_true] at c2 ⊢
     intro q hq
     simp only [qf4,List.mem_flatMap] at hq
     obtain ⟨r,aD,aC⟩:=hq
     have:=c2 r aD
     simp only [jk] at this
     have:=this.2
     rw [List.all_eq_true] at this
     exact this q aC
    have aj:=qop (P:=P) hc.rel ai a6 a1
    split at E
    ·cases E
     rw [Y] at I
     exact ⟨qnp hc h1 h2 h3 h4 h5 h6 h7 h8 au ar ap am I aj c1 a1 a7 (qvd I c3) ab (.inl rfl) n,rfl,rfl⟩
    ·split at E
     ·rename_i af s2 aA
      split at E
      rotate_left
      ·cases E
      rename_i ad
      cases E
      obtain ⟨av,d1,d2,d3,d4,d5,d6⟩:=qqs hc hp al Y aA
      have aK:af.length = xs.length:=by
       rw [Y] at I
       simp only [qi.V,qC] at I d6
       obtain ⟨_,_,_,g1,g2,_⟩:=I
       obtain ⟨_,_,_,g3,g4,_⟩:=d6
       rw [g1] at g3
       cases g3
       omega
      have az:∀q ∈ af,q.cells.length = i.size:=qvd d6 ad
      exact ⟨qnp d1 h1 h2 h3 h4 h5 h6 h7 h8 au ar ap am d6 aj zo a1 a7 az ab (.inr ⟨av,d4,d5⟩) n,d2,d3⟩
     ·cases E
   ·cases E
 ·cases E
end
section
variable {P:Program} {gl:Nat->Option (List qd)} {G G':qi} {w w':World} {h:List qj} {t:List qd} {a:Act} {n:Nat}
theorem Rel.putBox (hr:Rel P gl G h w) {i b:Nat} (hi:G.γ i = some b) {a6 bx:qj} (hx:h[i]? = some a6) (I:a6 ≠ .dead) {ob:Obj}
  (ac:∀c e,w.heap[b]? ≠ some (.cells c e (0,0))) (a8:qgU P gl G (w.putObj b ob) i bx b):Rel P gl G (h.set i bx) (w.putObj b ob):=by
 have hb:=(hr.γlt i b hi).2
 have ab:∀b',(∀j,G.γ j ≠ some b')->(w.putObj b ob).heap[b']? = w.heap[b']?:=λb' Y=>World.putObj_heap_other (λe=>Y i (by rw [hi,e]))
 refine ⟨λj b' hj=>by simpa using hr.γlt j b' hj,qjZ hr.inj hx I,λj b' a1 hj E=>?_,λb' o v hv hm=>?_,λb o v j hv hm hg=>qdO hx I (hr.immγ b o v j hv hm hg),λb' k hv=>?_,λb' ℓ Y=>⟨by simpa using (hr.ow b' ℓ Y).1,(hr.ow b' ℓ Y).2⟩,hr.glob⟩
 ·by_cases e:i = j
  ·subst e
   rw [hi] at hj;cases hj
   rw [jg (hr.γlt i b hi).1] at E
   cases E
   exact a8
  ·rw [jf e] at E
   have h0:=hr.box j b' a1 hj E
   by_cases hd:a1 = .dead
   ·subst hd;trivial
   ·obtain ⟨n,hn⟩:=qj.lower_ex a1
    have ad:b' ≠ b:=λe'=>by
     rcases hr.inj i j b hi (by rw [hj,e']) with h1 | h1 | h1
     ·exact e h1
     ·rw [hx] at h1;cases h1;exact I rfl
     ·rw [E] at h1;cases h1;exact hd rfl
    exact h0.keep hn (λ_ _ _ h=>h) (λ_ _ _ h=>h) (World.putObj_heap_other ad) (λ_ _ h=>h) (λa7 o aa=>ab a7 (hr.ow a7 _ aa).2) (λ_ _ _ _ h=>h)
 ·obtain ⟨h1,h2⟩:=hr.imm b' o v hv hm
  refine ⟨?_,by simpa using h2⟩
  rw [qbA (w:=w) (World.putObj_heap_other λe=>by subst e;have:=hr.immγ b' o v i hv hm hi;rw [hx] at this;cases this;exact I rfl)]
  exact h1
 ·obtain ⟨h0,c,e,h1,h2⟩:=hr.immK b' k hv
  have:b' ≠ b:=λe'=>by subst e';exact ac c e h1
  exact ⟨h0,c,e,by rw [World.putObj_heap_other this];exact h1,h2⟩
theorem qaJ.putBox (hr:Rel P gl G h w) {ts:Array Value} (ht:qaJ G w t ts) {i b:Nat} (hi:G.γ i = some b) (o:Obj):qaJ G (w.putObj b o) t ts:=
 ⟨ht.rel,λj xs k v hx hv=>(ht.own j xs k v hx hv).keep (λ_ h=>h) (λy hy=>World.putObj_heap_other λe=>(hr.ow y _ hy).2 i (by rw [hi,e])) (λ_ _ _ h=>h)⟩
theorem qv7 (hc:Cfg P gl G h t a w) {o:Oper} {u:Value} {x:qd} (h1:(execOp a.eval o).run P w = .ok (.value u) w) (hx:G.V x u) (hd:x.dim = x) (n:Nat):Did P gl G w a o n h (AE.put o.dst x t):=
 ⟨_,u,w,G,h1,.inl rfl,λ_ _ _ _=>rfl,Ext.refl n G w,hc.put o.dst hx hd⟩
theorem qrF (hc:Cfg P gl G h t a w) {o:Oper} (hop:qqz P gl o) {id p b:Nat} {cs vs:List qd} (hb:G.γ id = some b) (hid:h[id]? = some (.cells cs)) (E:p + vs.length <= cs.length) (ab:∀v ∈ vs,v.dim = v)
  {c:Array Value} {e:TypeId} (hw:w.heap[b]? = some (.cells c e (0,0))) {us:List Value} (a7:G.VL vs us) {nx:Next} {u:Value} {x:qd}
  (h1:(execOp a.eval o).run P w = .ok nx (w.setRow b (c.toList.take p ++ us ++ c.toList.drop (p + us.length)).toArray)) (ad:Nx nx u) (hx:G.V x u) (hd:x.dim = x) (n:Nat) :
  Did P gl G w a o n (h.set id (.cells (splice cs p vs))) (AE.put o.dst x t):=by
 obtain ⟨c0,e0,a6,a8,aa⟩:=hc.rel.box id b _ hb hid
 rw [hw] at a6;cases a6
 have ae:=qe1 a8
 have ai:=a7.length
 generalize I:(c.toList.take p ++ us ++ c.toList.drop (p + us.length)).toArray = c' at h1
 have af:c'.size = c.size:=by rw [<-I];simp at ae ⊢;omega
 have a1:∀i,i < p\/p + vs.length <= i->c'[i]? = c[i]?:=λi hi=>by
  have:=(qbx (cs:=c.toList) (vs:=us) (o:=p) (i:=i) zo).1 zo
  rw [<-I,<-Array.getElem?_toList,<-Array.getElem?_toList (xs:=c)]
  exact this
 have Y:G.VL (splice cs p vs) (c'.toList.take (splice cs p vs).length):=by
  rw [<-I]
  exact qg5 a8 a7 E
 refine ⟨nx,u,_,G,h1,ad,λ_ hq=>absurd hop hq,Ext.store n hb hw rfl rfl (λ_ h=>h),(Cfg.mk ?_ (hc.tr.store hc.rel c' hb)).put o.dst hx hd⟩
 refine hc.rel.store hb hid hw rfl rfl (λ_ h=>h) (λ_ _ _ _ h=>h) Y af (λo' ys k' u' ac hu=>?_)
 rcases qfd E ac with ⟨g1,g2⟩ | ⟨g1,g2,g3⟩
 ·have g4:c[o']? = some u':=by rw [<-a1 o' g1];exact hu
  exact (aa o' ys k' u' g2 g4).keep (λ_ h=>h) (λx hx=>qy w b x c' (λe1=>(hc.rel.ow x _ hx).2 id (e1▸hb))) (λ_ _ _ h=>h)
 ·have:=ab _ (List.mem_of_getElem? g3)
  simp [qd.dim] at this
theorem Rel.kill (hr:Rel P gl G h w) (id:Nat):Rel P gl G (h.set id .dead) w:=by
 have E:∀i,h[i]? = some qj.dead->(h.set id .dead)[i]? = some qj.dead:=λi hi=>by
  by_cases e:id = i
  ·subst e;exact jg (jd.1 hi).1
  ·rw [jf e];exact hi
 refine ⟨λi b hb=>by simpa using hr.γlt i b hb,λi j b hi hj=>?_,λi b bx hi hx=>?_,hr.imm,λb o v i hv hm hg=>E i (hr.immγ b o v i hv hm hg),hr.immK,hr.ow,hr.glob⟩
 ·rcases hr.inj i j b hi hj with h1 | h1 | h1
  ·exact .inl h1
  ·exact .inr (.inl (E i h1))
  ·exact .inr (.inr (E j h1))
 ·by_cases e:id = i
  ·subst e
   rw [jg (hr.γlt id b hi).1] at hx
   cases hx
   trivial
  ·rw [jf e] at hx
   exact hr.box i b bx hi hx
noncomputable def qi.frozen (G:qi) (b:Nat) (c:Array Value) (m:Nat):qi:={ γ:=G.γ,imm:=λx o=>if x = b/\o < m then qmf c[o]? else G.imm x o,ow:=G.ow}
theorem qpc (hr:Rel P gl G h w) (ht:qaJ G w t a.tmps) {id b m:Nat} {cs:List qd} {c:Array Value} {e:TypeId} (hb:G.γ id = some b) (hid:h[id]? = some (.cells cs)) (hw:w.heap[b]? = some (.cells c e (0,0))) (hm:m <= c.size) (n:Nat) :
  Rel P gl (G.frozen b c m) (h.set id .dead) w/\qaJ (G.frozen b c m) w t a.tmps/\Ext n G w (G.frozen b c m) w:=by
 have a6:G.ow b = none:=by
  cases hv:G.ow b with
  | none=>rfl
  | some ℓ=>exact absurd hb ((hr.ow b ℓ hv).2 id)
 have Y:∀o,o < m->G.imm b o = none:=λo ho=>by
  cases hv:G.imm b o with
  | none=>rfl
  | some v=>
   by_cases hk:v = mark
   ·subst hk
    obtain ⟨_,c',e',h1,h2⟩:=hr.immK b o hv
    rw [hw] at h1;cases h1;omega
   ·have:=hr.immγ b o v id hv hk hb
    rw [hid] at this;cases this
 have I:∀x o v,G.imm x o = some v->(G.frozen b c m).imm x o = some v:=λx o v hv=>by
  simp only [qi.frozen]
  rw [if_neg]
  ·exact hv
  ·rintro ⟨rfl,ho⟩
   rw [Y o ho] at hv;cases hv
 have a1:∀x j,G.ow x ≠ none->G.imm x j = none->(G.frozen b c m).imm x j = none:=λx j hx hj=>by
  simp only [qi.frozen]
  rw [if_neg (λhh=>by rw [hh.1,a6] at hx;exact hx rfl)]
  exact hj
 have E:=hr.kill id
 refine ⟨⟨E.γlt,E.inj,λi b' bx hi hx=>?_,λx o v hv hk=>?_,λx o v i hv hk hi=>?_,λx o hv=>?_,E.ow,λg ds hg=>?_⟩,?_,?_⟩
 ·obtain ⟨q,hq⟩:=qj.lower_ex bx
  exact (E.box i b' bx hi hx).keep hq I (λ_ _ _ h=>h) rfl (λ_ _ h=>h) (λ_ _ _=>rfl) (λab j o a7 hj=>a1 ab j (by rw [a7];simp) hj)
 ·simp only [qi.frozen] at hv
  split at hv
  ·rename_i hh
   obtain ⟨rfl,ho⟩:=hh
   exact ⟨by simp only [World.cell?,hw];simpa using (qbj.1 hv).1,(hr.γlt id x hb).2⟩
  ·exact E.imm x o v hv hk
 ·simp only [qi.frozen] at hv
  split at hv
  ·rename_i hh
   obtain ⟨rfl,ho⟩:=hh
   have a8:=(jd.1 hid).1
   by_cases e1:id = i
   ·subst e1;exact jg a8
   ·rw [jf e1]
    rcases hr.inj i id x hi hb with h1 | h1 | h1
    ·exact absurd h1.symm e1
    ·exact h1
    ·rw [hid] at h1;cases h1
  ·exact E.immγ x o v i hv hk hi
 ·simp only [qi.frozen] at hv
  split at hv
  ·exact absurd rfl (qbj.1 hv).2
  ·exact E.immK x o hv
 ·obtain ⟨h1,h2⟩:=hr.glob g ds hg
  exact ⟨qeb.mono I ds g h2 h1,h2⟩
 ·obtain ⟨q,hq⟩:=qas t
  exact ht.keep hq I (λ_ _ _ h=>h) (λ_ _ h=>h) (λ_ _ _=>rfl) (λb' j i aa hj=>a1 b' j (by rw [aa];simp) hj)
 ·refine ⟨λ_ _ h=>h,λ_ _ h=>.inl h,I,λx o v hv=>?_,λx hx=>.inl hx,jm _,λ_ _ _=>rfl,λ_ L hL=>⟨L,hL,rfl,rfl,rfl,rfl,rfl,rfl⟩,rfl,rfl,rfl⟩
  simp only [qi.frozen] at hv
  split at hv
  ·rename_i hh;exact .inr (.inr (.inr ⟨id,hh.1▸hb⟩))
  ·exact .inl hv
theorem qtN {cs:List qd} (E:∀x ∈ cs,x.dim = x) {o:Nat} {xs:List qd} {k:Nat} (h:cs[o]? = some (.lst xs (.own k))):False:=by
 have:=E _ (List.mem_of_getElem? h)
 simp [qd.dim] at this
theorem γ_none (hr:Rel P gl G h w):G.γ h.length = none:=by
 cases hg:G.γ h.length with
 | none=>rfl
 | some b=>have:=(hr.γlt _ b hg).1;omega
theorem qhO (hc:Cfg P gl G h t a w) {o:Oper} (hop:qqz P gl o) {ob:Obj} {bx:qj} {u:Value} {x:qd} (h1:(execOp a.eval o).run P w = .ok (.value u) (w.alloc ob))
  (a1:∀G',Ext h.length G w G' (w.alloc ob)->qgU P gl G' (w.alloc ob) h.length bx w.heap.size) (hx:∀G':qi,G'.γ h.length = some w.heap.size->G'.V x u) (hd:x.dim = x) :
  Did P gl G w a o h.length (h ++ [bx]) (AE.put o.dst x t):=by
 have hi:=γ_none hc.rel
 have E:Ext h.length G w (G.withBox h.length w.heap.size) (w.alloc ob):=Ext.newBox hi (jm _) _
 have I:=hc.rel.newBox (o:=ob) (bx:=bx) (h':=h ++ [bx]) hi (by simp) (by simp) (λj hj b hb=>by rw [ja (hc.rel.γlt j b hb).1]) (by simp) (a1 _ E)
 obtain ⟨m,hm⟩:=qas t
 have Y:qaJ (G.withBox h.length w.heap.size) (w.alloc ob) t a.tmps:=
  hc.tr.keep hm E.ik (λi b _=>E.gk i b) (λ_ _ h=>h) (λb i hb=>qad w _ (hc.rel.ow b _ hb).1) (λ_ _ _ _ h=>h)
 exact ⟨_,_,_,_,h1,.inl rfl,λ_ hq=>absurd hop hq,E,(Cfg.mk I Y).put o.dst (hx _ (by simp [qi.withBox])) hd⟩
noncomputable def qi.marked (G:qi) (b n:Nat):qi:={ γ:=G.γ,imm:=λx o=>if x = b/\o = n then some mark else G.imm x o,ow:=G.ow}
theorem Rel.marked (hr:Rel P gl G h w) {b n:Nat} (hn:0 < n) {c:Array Value} {e:TypeId} (hb:w.heap[b]? = some (.cells c e (0,0))) (a1:n = c.size) (h0:∀o,G.imm b o = none) (Y:G.ow b = none):Rel P gl (G.marked b n) h w:=by
 have I:∀x o v,G.imm x o = some v->(G.marked b n).imm x o = some v:=λx o v hv=>by
  simp only [qi.marked]
  rw [if_neg]
  ·exact hv
  ·rintro ⟨rfl,rfl⟩
   rw [h0] at hv;cases hv
 refine ⟨hr.γlt,hr.inj,λi b' bx hi hx=>?_,λx o v hv hm=>?_,λx o v i hv hm=>?_,λx o hv=>?_,hr.ow,λg cs hg=>?_⟩
 ·obtain ⟨m,hm⟩:=qj.lower_ex bx
  refine (hr.box i b' bx hi hx).keep hm I (λ_ _ _ h=>h) rfl (λ_ _ h=>h) (λ_ _ _=>rfl) (λa6 j o E hj=>?_)
  simp only [qi.marked]
  rw [if_neg (λhh=>by rw [hh.1,Y] at E;cases E)]
  exact hj
 ·simp only [qi.marked] at hv
  split at hv
  ·cases hv;exact absurd rfl hm
  ·exact hr.imm x o v hv hm
 ·simp only [qi.marked] at hv
  split at hv
  ·cases hv;exact absurd rfl hm
  ·exact hr.immγ x o v i hv hm
 ·simp only [qi.marked] at hv
  split at hv
  ·rename_i hh
   obtain ⟨rfl,rfl⟩:=hh
   exact ⟨hn,c,e,hb,a1⟩
  ·exact hr.immK x o hv
 ·obtain ⟨h1,h2⟩:=hr.glob g cs hg
  exact ⟨qeb.mono I cs g h2 h1,h2⟩
theorem qnC {γ:Nat->Option Nat} {imm:Nat->Nat->Option Value} {cs:List qd} {us l:List Value} (h:qp γ imm cs us) (hg:∀(j:Nat) (v:Value),us[j]? = some v->l[j]? = some v):qp γ imm cs (l.take cs.length):=by
 have E:=h.length
 have I:cs.length <= l.length:=by
  rcases Nat.lt_or_ge l.length us.length with hh | hh
  ·have:=hg l.length _ (jh hh)
   simp at this
  ·omega
 refine qp.of_get (by simp;omega) λi x v hx hv=>?_
 obtain ⟨u,hu,hr⟩:=h.get hx
 rw [List.getElem?_take_of_lt (jd.1 hx).1,hg i u hu] at hv
 cases hv
 exact hr
theorem qv5 (hc:Cfg P gl G h t a w) {o:Oper} (hop:qqz P gl o) {d len E k:Nat} {cc:Array Value} {e:TypeId} {cs:List qd} {us:List Value}
  (h1:(execOp a.eval o).run P w = .ok (.value (.slice (some ⟨w.heap.size,0,none⟩) len E)) (({ w with drawn:=d}:World).alloc (.cells cc e)))
  (ai:G.VL cs us) (ab:∀(j:Nat) (v:Value),us[j]? = some v->cc[j]? = some v) (ak:cc.size = E * k) (hk:k ≠ 0) (af:len <= E) (h0:0 < len) (ac:∀x ∈ cs,x.dim = x) :
  Did P gl G w a o h.length (h ++ [.cells cs]) (AE.put o.dst (.sl h.length 0 len len k) t):=by
 have ae:Rel P gl G h { w with drawn:=d}:=hc.rel.of_drew d
 have aj:qaJ G { w with drawn:=d} t a.tmps:=hc.tr.of_drew d
 have hi:=γ_none hc.rel
 have I:Ext h.length G w (G.withBox h.length w.heap.size) (({ w with drawn:=d}:World).alloc (.cells cc e)):=((Ext.refl _ G w).drew d).trans (jm _) (Ext.newBox (w:={ w with drawn:=d}) hi (jm _) _)
 have a8:=ae.newBox (o:=.cells cc e) (bx:=.cells cs) (h':=h ++ [.cells cs]) hi (by simp) (by simp) (λj hj b hb=>by rw [ja (hc.rel.γlt j b hb).1]) (by simp)
  ⟨cc,e,qaq _ _,qnC (I.VL ai) (λj v hj=>by simpa using ab j v hj),λo xs k v ho _=>(qtN ac ho).elim⟩
 have aa:0 < E * k:=Nat.mul_pos zo zo
 have a7:∀o,G.imm w.heap.size o = none:=λo=>by
  cases hv:G.imm w.heap.size o with
  | none=>rfl
  | some v=>have:=hc.rel.imm_lt hv;omega
 have a1:G.ow w.heap.size = none:=by
  cases hv:G.ow w.heap.size with
  | none=>rfl
  | some ℓ=>have:=(hc.rel.ow _ _ hv).1;omega
 have a6:=Rel.marked a8 aa (b:=w.heap.size) (qaq ({ w with drawn:=d}:World) _) zo a7 a1
 have Y:Ext h.length G w ((G.withBox h.length w.heap.size).marked w.heap.size (E * k)) (({ w with drawn:=d}:World).alloc (.cells cc e)):=by
  refine ⟨I.gk,I.gn,λb o v hv=>?_,λb o v hv=>?_,I.on,I.size,I.heap,I.loops,rfl,rfl,rfl⟩
  ·have:b ≠ w.heap.size:=by have:=hc.rel.imm_lt hv;omega
   simp only [qi.marked]
   rw [if_neg (λhh=>this hh.1)]
   exact I.ik b o v hv
  ·simp only [qi.marked] at hv
   split at hv
   ·rename_i hh;exact .inr (.inl zo)
   ·exact I.inew b o v hv
 obtain ⟨m,hm⟩:=qas t
 have ad:qaJ ((G.withBox h.length w.heap.size).marked w.heap.size (E * k)) (({ w with drawn:=d}:World).alloc (.cells cc e)) t a.tmps:=
  hc.tr.keep hm Y.ik (λi b _=>Y.gk i b) (λ_ _ h=>h) (λb i hb=>qad ({ w with drawn:=d}:World) _ (hc.rel.ow b _ hb).1) (λb j i hb hj=>by
   simp only [qi.marked]
   rw [if_neg (λhh=>by rw [hh.1,a1] at hb;cases hb)]
   exact hj)
 refine ⟨_,_,_,_,h1,.inl rfl,λ_ hq=>absurd hop hq,Y,(Cfg.mk a6 ad).put o.dst ?_ rfl⟩
 simp only [qi.V,qC]
 exact ⟨w.heap.size,E,by simp [qi.marked,qi.withBox],rfl,jm _,af,λh=>absurd h hk,λ_=>by simp [qi.marked]⟩
theorem qrC (hc:Cfg P gl G h t a w) {o:Oper} (hop:qqz P gl o) {id b len cap k p:Nat} {c:Array Value} {e:TypeId} {cs:List qd} {us new:List Value} (hb:G.γ id = some b) (aa:∀i,G.γ i = some b->h[i]? = some .dead) (a8:∀o v,G.imm b o = some v->v = mark)
  (hw:w.heap[b]? = some (.cells c e (0,0))) (hp:p + new.length <= c.size)
  (h1:(execOp a.eval o).run P w = .ok (.value (.slice (some ⟨b,0,none⟩) len cap)) (w.setRow b (c.toList.take p ++ new ++ c.toList.drop (p + new.length)).toArray))
  (am:G.VL cs us) (af:∀(j:Nat) (v:Value),us[j]? = some v->(c.toList.take p ++ new ++ c.toList.drop (p + new.length))[j]? = some v) (ac:G.imm b (0 + cap * k) = some mark) (hk:k ≠ 0) (al:len <= cap) (ai:∀x ∈ cs,x.dim = x) :
  Did P gl G w a o h.length (h ++ [.cells cs]) (AE.put o.dst (.sl h.length 0 len len k) t):=by
 generalize ad:(c.toList.take p ++ new ++ c.toList.drop (p + new.length)).toArray = c' at h1
 have ap:c'.size = c.size:=by rw [<-ad];simp;omega
 have hi:=γ_none hc.rel
 have ab:∀j b',G.γ j = some b'->(G.withBox h.length b).γ j = some b':=λj b' hj=>by
  have:j ≠ h.length:=λe=>by subst e;simp [hi] at hj
  simpa [qi.withBox,this] using hj
 have E:∀x,x ≠ b->(w.setRow b c').heap[x]? = w.heap[x]?:=λx hx=>qy w b x c' hx
 have a6:∀x ℓ,G.ow x = some ℓ->x ≠ b:=λx ℓ hx e1=>(hc.rel.ow x ℓ hx).2 id (e1▸hb)
 have ae:Rel P gl (G.withBox h.length b) (h ++ [.cells cs]) (w.setRow b c'):=by
  refine ⟨λj x hj=>?_,λi j x hx hy=>?_,λi x bx hx a1=>?_,λx o v hv hm=>?_,λx o v i hv hm=>?_,λx o hv=>?_,λx ℓ hx=>?_,λg cs hg=>?_⟩
  ·simp only [qi.withBox] at hj
   split at hj
   ·rename_i e1;subst e1;cases hj
    exact ⟨by simp,by simpa using (hc.rel.γlt id _ hb).2⟩
   ·obtain ⟨h2,h3⟩:=hc.rel.γlt j x hj
    exact ⟨by simp;omega,by simpa using h3⟩
  ·have key:∀i,(G.withBox h.length b).γ i = some b->i ≠ h.length->(h ++ [qj.cells cs])[i]? = some .dead:=λi I ak=>by
    simp only [qi.withBox,if_neg ak] at I
    have:=aa i I
    rw [ja (jd.1 this).1]
    exact this
   by_cases Y:x = b
   ·subst Y
    by_cases e1:i = h.length
    ·by_cases e2:j = h.length
     ·exact .inl zo
     ·exact .inr (.inr (key j hy e2))
    ·exact .inr (.inl (key i hx e1))
   ·have g:∀i,(G.withBox h.length b).γ i = some x->G.γ i = some x/\i < h.length:=λi I=>by
     simp only [qi.withBox] at I
     split at I
     ·cases I;exact absurd rfl Y
     ·exact ⟨I,(hc.rel.γlt i x I).1⟩
    rw [ja (g i hx).2,ja (g j hy).2]
    exact hc.rel.inj i j x (g i hx).1 (g j hy).1
  ·simp only [qi.withBox] at hx
   split at hx
   ·rename_i e1
    subst e1;cases hx
    simp at a1
    subst a1
    refine ⟨c',e,setRow_heap w b c c' e (0,0) hw,qnC (us:=us) ?_ (λj v hj=>by rw [<-ad];simpa using af j v hj),λo xs k v ho _=>(qtN ai ho).elim⟩
    obtain ⟨m,hm⟩:=qas cs
    exact qp.mono (λ_ _ _ h=>h) m (λj b' _=>ab j b') cs us hm am
   ·rw [ja (hc.rel.γlt i x hx).1] at a1
    have h0:=hc.rel.box i x bx hx a1
    by_cases hd:bx = .dead
    ·subst hd;trivial
    ·have Y:x ≠ b:=λe1=>by
      have:=aa i (e1▸hx)
      rw [a1] at this;cases this;exact hd rfl
     obtain ⟨m,hm⟩:=qj.lower_ex bx
     exact h0.keep hm (λ_ _ _ h=>h) (λj b' _=>ab j b') (E x Y) (λ_ _ h=>h) (λy o hy=>E y (a6 y _ hy)) (λ_ _ _ _ h=>h)
  ·obtain ⟨h2,h3⟩:=hc.rel.imm x o v hv hm
   have Y:x ≠ b:=λe2=>hm (a8 o v (e2▸hv))
   exact ⟨(qbA (E x Y)).trans h2,by simpa using h3⟩
  ·simp only [qi.withBox]
   split
   ·intro e1;cases e1;exact absurd (a8 o v hv) hm
   ·intro e1
    rw [ja (hc.rel.γlt i x e1).1]
    exact hc.rel.immγ x o v i hv hm e1
  ·obtain ⟨g0,d,e',g1,g2⟩:=hc.rel.immK x o hv
   by_cases Y:x = b
   ·subst Y
    rw [hw] at g1;cases g1
    exact ⟨g0,c',e,setRow_heap w x c c' e (0,0) hw,zo⟩
   ·exact ⟨g0,d,e',by rw [E x Y];exact g1,g2⟩
  ·obtain ⟨g1,g2⟩:=hc.rel.ow x ℓ hx
   refine ⟨by simpa using g1,λi I=>?_⟩
   simp only [qi.withBox] at I
   split at I
   ·cases I;exact a6 _ ℓ hx rfl
   ·exact g2 i I
  ·obtain ⟨g1,g2⟩:=hc.rel.glob g cs hg
   exact ⟨qeb.mono (λ_ _ _ h=>h) cs g g2 g1,g2⟩
 have a7:Ext h.length G w (G.withBox h.length b) (w.setRow b c'):=by
  refine ⟨ab,λj x hj=>?_,λ_ _ _ h=>h,λ_ _ _ h=>.inl h,λ_ h=>.inl h,by simp,λx hx hf=>E x (λe1=>hf.1 id (e1▸hb)),λx L hL=>?_,rfl,rfl,rfl⟩
  ·simp only [qi.withBox] at hj
   split at hj
   ·rename_i e1;subst e1;cases hj;exact .inr ⟨jm _,.inr ⟨id,hb⟩⟩
   ·exact .inl hj
  ·have:x ≠ b:=λe1=>by subst e1;rw [hw] at hL;cases hL
   exact ⟨L,by rw [E x this];exact hL,rfl,rfl,rfl,rfl,rfl,rfl⟩
 obtain ⟨m,hm⟩:=qas t
 have aj:qaJ (G.withBox h.length b) (w.setRow b c') t a.tmps:=
  hc.tr.keep hm a7.ik (λi b _=>a7.gk i b) (λ_ _ h=>h) (λb i hb=>E b (a6 b _ hb)) (λ_ _ _ _ h=>h)
 refine ⟨_,_,_,_,h1,.inl rfl,λ_ hq=>absurd hop hq,a7,(Cfg.mk ae aj).put o.dst ?_ rfl⟩
 simp only [qi.V,qC]
 exact ⟨b,cap,by simp [qi.withBox],rfl,jm _,al,λh=>absurd h hk,λ_=>ac⟩
end
open Go.MapKept (run_findKey run_getObj_map run_setObj_map)
section
variable {P:Program} {γ:Nat->Option Nat} {imm:Nat->Nat->Option Value}
def qj1:qd->Lit
 | .bool b=>.bool b
 | .int k n=>.int k n
 | .str s=>.string s
 | _=>.nil
def qiO (cs:List qd) (p:Nat×SK):Lit:=qj1 ((cs[p.1]?).getD .undef)
theorem qmA {k:SK} {cs:List qd} {vs:List Value} {o:Nat} (h:qp γ imm cs vs) (hf:qej k cs[o]? = true) :
  (k = .b/\∃b,cs[o]? = some (.bool b)/\vs[o]? = some (.bool b))\/(∃q n,k = .i q/\cs[o]? = some (.int q n)/\vs[o]? = some (.int q n)/\(Lit.int q n).wf = true)\/
   (k = .s/\∃(s:List UInt8) (b:ByteArray),cs[o]? = some (.str s)/\vs[o]? = some (.string b)/\b.data.toList = s/\s.length <= 9223372036854775807):=by
 unfold qej at hf
 split at hf
 ·rename_i b hc
  obtain ⟨v,hv,hr⟩:=h.get hc
  simp only [qC] at hr
  subst hr
  exact .inl ⟨rfl,b,hc,hv⟩
 ·rename_i q j n hc
  obtain ⟨v,hv,hr⟩:=h.get hc
  simp only [qC] at hr
  subst hr
  simp only [jk,beq_iff_eq,qaD,decide_eq_true_eq] at hf
  obtain ⟨rfl,h1,h2⟩:=hf
  exact .inr (.inl ⟨q,n,rfl,hc,hv,by simp [Lit.wf,h1,h2]⟩)
 ·rename_i s hc
  obtain ⟨v,hv,hr⟩:=h.get hc
  simp only [qC] at hr
  obtain ⟨b,rfl,hb⟩:=hr
  exact .inr (.inr ⟨rfl,s,b,hc,hv,hb,by simpa using hf⟩)
 ·cases hf
theorem qkb {vs:List Value} {o:Nat} {v:Value} (h:vs[o]? = some v):(vs.drop o).take 1 = [v]:=by
 obtain ⟨h1,h2⟩:=jd.1 h
 rw [List.drop_eq_getElem_cons h1]
 simp [h2]
theorem qh7:∀(d:Nat) (t:TypeId) (off:Nat) (ls:List (Nat×SK)),qh6 P d t off = some ls->∀(cs:List qd) (vs:List Value),qp γ imm cs vs->qek ls cs = true->off + P.cellsOf t <= vs.length->
  P.keyLits d t ((vs.drop off).take (P.cellsOf t)) = some (ls.map (qiO cs))
 | 0,_,_,_,h=>by simp [qh6] at h
 | d + 1,t,off,ls,h=>by
  intro cs vs hv hf hle
  unfold qh6 at h
  unfold Program.keyLits
  split at h
  ·rename_i hu
   split at h
   ·rename_i h1
    cases h
    simp only [qek,jB,jC,jv] at hf
    rcases qmA hv hf with ⟨_,b,e1,e2⟩ | ⟨q,n,e0,_⟩ | ⟨e0,_⟩
    ·rw [h1,qkb e2]
     simp [hu,qiO,e1,qj1]
    ·cases e0
    ·cases e0
   ·cases h
  ·rename_i q hu
   split at h
   ·rename_i h1
    cases h
    simp only [qek,jB,jC,jv] at hf
    rcases qmA hv hf with ⟨e0,_⟩ | ⟨q,n,e0,e1,e2,e3⟩ | ⟨e0,_⟩
    ·cases e0
    ·cases e0
     rw [h1,qkb e2]
     simp [hu,qiO,e1,qj1,e3]
    ·cases e0
   ·cases h
  ·rename_i hu
   split at h
   ·rename_i h1
    cases h
    simp only [qek,jB,jC,jv] at hf
    rcases qmA hv hf with ⟨e0,_⟩ | ⟨q,n,e0,_⟩ | ⟨_,s,b,e1,e2,e3,e4⟩
    ·cases e0
    ·cases e0
    ·rw [h1,qkb e2]
     have:b.size <= maxLen:=by
      have:b.size = s.length:=by rw [<-e3];rfl
      rw [this]
      simp only [maxLen]
      omega
     simp [hu,qiO,e1,qj1,this,e3]
   ·cases h
  ·rename_i fs hu
   split at h
   ·rename_i hall
    simp only [Option.map_eq_some_iff] at h
    obtain ⟨lss,hm,rfl⟩:=h
    have hlen:((vs.drop off).take (P.cellsOf t)).length = P.cellsOf t:=by simp;omega
    have hall' : ∀ f ∈ fs.toList, f.name ≠ "_" /\ f.offset + P.cellsOf f.type <= P.cellsOf t := λf hf' => by
     rw [Array.all_eq_true_iff_forall_mem] at hall
     have:=hall f (by simpa using hf')
     simpa using this
    have key:∀(L:List Field) (lss:List (List (Nat×SK))),(∀f ∈ L,f.offset + P.cellsOf f.type <= P.cellsOf t)->(L.mapM λf=>qh6 P d f.type (off + f.offset)) = some lss->qek lss.flatten cs = true->
      (L.mapM λf=>P.keyLits d f.type ((((vs.drop off).take (P.cellsOf t)).drop f.offset).take (P.cellsOf f.type))) = some (lss.map λls=>ls.map (qiO cs)):=by
     intro L
     induction L with
     | nil=>intro lss _ h1 _;simp at h1;subst h1;rfl
     | cons f L ih=>
      intro lss hb h1 h2
      simp only [List.mapM_cons,Option.pure_def,jA,Option.bind_eq_some_iff] at h1
      obtain ⟨l0,h3,ls',h4,h5⟩:=h1
      cases h5
      simp only [List.flatten_cons,qek,List.all_append,jk] at h2
      have hbf:=hb f (by simp)
      have h6:=qh7 d f.type (off + f.offset) l0 h3 cs vs hv h2.1 zo
      have h7:=ih ls' (λg hg=>hb g (by simp [hg])) h4 h2.2
      have h8:(((vs.drop off).take (P.cellsOf t)).drop f.offset).take (P.cellsOf f.type) = (vs.drop (off + f.offset)).take (P.cellsOf f.type):=by
       rw [List.drop_take,List.take_take,List.drop_drop,Nat.min_eq_left zo]
      simp only [List.mapM_cons,Option.pure_def,jA,h8,h6,h7,Option.bind_some,List.map_cons]
    have hk:=key fs.toList lss (λf hf'=>(hall' f hf').2) hm hf
    have hnm : fs.all (λf => f.name != "_") = true := by
     rw [Array.all_eq_true_iff_forall_mem]
     intro f hf'
     have:=(hall' f (by simpa using hf')).1
     simpa using this
    simp only [hu]
    rw [if_pos ⟨hlen,hnm⟩,hk]
    simp [List.map_flatten]
   ·cases h
  ·cases h
theorem qvU {k:SK} {a b:qd} (ha:qej k (some a) = true) (hb:qej k (some b) = true):∃c,qhK a b = some c/\(c = true↔qj1 a = qj1 b):=by
 cases k
 ·cases a <;> simp only [qej,jl] at ha
  cases b <;> simp only [qej,jl] at hb
  exact ⟨_,rfl,by simp [qj1]⟩
 ·cases a <;> simp only [qej,jl] at ha
  cases b <;> simp only [qej,jl] at hb
  simp only [jk,beq_iff_eq] at ha hb
  obtain ⟨rfl,_⟩:=ha
  obtain ⟨rfl,_⟩:=hb
  exact ⟨_,if_pos rfl,by simp [qj1]⟩
 ·cases a <;> simp only [qej,jl] at ha
  cases b <;> simp only [qej,jl] at hb
  exact ⟨_,rfl,by simp [qj1]⟩
theorem qhQ {x y:List qd}:∀{ls:List (Nat×SK)},qek ls x = true->qek ls y = true->(qdp x y ls = true↔ls.map (qiO x) = ls.map (qiO y))
 | [],_,_=>by simp [qdp]
 | p :: ls,hx,hy=>by
  simp only [qek,jB,jk] at hx hy
  have ih:=qhQ (ls:=ls) hx.2 hy.2
  obtain ⟨o,k⟩:=p
  obtain ⟨I,_⟩:=hx
  obtain ⟨E,_⟩:=hy
  simp only at I E
  cases a1:x[o]? with
  | none=>rw [a1] at I;cases k <;> simp [qej] at I
  | some a=>
   cases Y:y[o]? with
   | none=>rw [Y] at E;cases k <;> simp [qej] at E
   | some b=>
    rw [a1] at I
    rw [Y] at E
    obtain ⟨c,h1,h2⟩:=qvU I E
    simp only [qdp,a1,Y,h1,List.map_cons,List.cons.injEq,qiO,Option.getD_some,<-h2]
    cases c
    ·simp
    ·simpa using ih
theorem qdS {kt:TypeId} {sh:qei} (hs:qiu P kt = some sh) {x:qd} {v:Value} (hv:qC γ imm x v) (hf:qec sh x = true) :
  P.keyTypeAt deep kt = true/\P.tiled deep kt = true/\qek sh.ls x.cells = true/\v.formed P kt = true/\P.keyLits deep kt v.cells.toList = some (sh.ls.map (qiO x.cells))/\
   (sh.agg = true->∃c,v = .agg c)/\(sh.agg = qcW (P.underlying kt))/\(sh.agg = false->x.storable = true):=by
 unfold qiu at hs
 split at hs
 ·rename_i hk
  simp only [jk] at hk
  simp only [Option.map_eq_some_iff] at hs
  obtain ⟨ls,hl,rfl⟩:=hs
  have fin:qek ls x.cells = true->qp γ imm x.cells v.cells.toList->v.cells.toList.length = P.cellsOf kt->P.keyLits deep kt v.cells.toList = some (ls.map (qiO x.cells)):=λh1 h2 h3=>by
   have:=qh7 deep kt 0 ls hl x.cells v.cells.toList h2 h1 zo
   rwa [List.drop_zero,<-h3,jD] at this
  unfold qec at hf
  split at hf
  ·rename_i cs
   simp only [jk,beq_iff_eq] at hf
   obtain ⟨⟨h1,h2⟩,h3⟩:=hf
   simp only [qC] at hv
   obtain ⟨c,rfl,hc⟩:=hv
   have Y:c.toList.length = P.cellsOf kt:=by rw [<-hc.length];exact h2
   refine ⟨hk.1,hk.2,h3,?_,fin h3 (by simpa [qd.cells,Value.cells] using hc) (by simpa [Value.cells] using Y),λ_=>⟨c,rfl⟩,rfl,λh=>by rw [h1] at h;cases h⟩
   unfold qcW at h1
   split at h1
   ·rename_i fs hu
    simp only [Value.formed,hu]
    simpa using Y
   ·cases h1
  ·rename_i ac
   simp only [jk,Bool.not_eq_true'] at hf
   obtain ⟨h1,h2⟩:=hf
   have a7:∃k,ls = [(0,k)]/\P.cellsOf kt = 1/\(∀fs,P.underlying kt ≠ some (.struct fs))/\∀n e,P.underlying kt ≠ some (.array n e):=by
    unfold deep qh6 at hl
    split at hl
    ·rename_i hu;split at hl
     ·cases hl;exact ⟨_,rfl,‹_›,by simp [hu],by simp [hu]⟩
     ·cases hl
    ·rename_i hu;split at hl
     ·cases hl;exact ⟨_,rfl,‹_›,by simp [hu],by simp [hu]⟩
     ·cases hl
    ·rename_i hu;split at hl
     ·cases hl;exact ⟨_,rfl,‹_›,by simp [hu],by simp [hu]⟩
     ·cases hl
    ·rename_i fs hu
     simp [qcW,hu] at h1
    ·cases hl
   obtain ⟨k,rfl,aa,a8,a6⟩:=a7
   have I:x.storable = true:=by
    simp only [qek,jB,jC,jv] at h2
    unfold qej at h2
    split at h2 <;> first | (rename_i e;simp at e;subst e;rfl) | cases h2
   have E:x.cells = [x]:=qaI I
   obtain ⟨a1,ab⟩:=qb2 hv (by rw [E];simp [I])
   refine ⟨hk.1,hk.2,by rw [E];exact h2,?_,fin (by rw [E];exact h2) a1 (by rw [<-a1.length,E,aa];rfl),(λh=>absurd (show qcW (P.underlying kt) = true from h) (by rw [h1];simp)),rfl,λ_=>I⟩
   cases v <;> simp only [Value.formed] <;> first
    | (cases hu:P.underlying kt with
       | none=>rfl
       | some kd=>cases kd <;> first | rfl | exact absurd hu (a8 _) | exact absurd hu (a6 _ _))
    | (exfalso
       cases x <;> simp only [qC] at hv <;> first
        | (cases hv;done)
        | (simp [qd.storable] at I;done)
        | (obtain ⟨_,hv⟩:=hv;cases hv;done)
        | (obtain ⟨_,hv,_⟩:=hv;cases hv;done)
        | (obtain ⟨_,_,hv⟩:=hv;cases hv;done)
        | (obtain ⟨_,_,hv,_⟩:=hv;cases hv;done)
        | (obtain ⟨_,_,_,hv,_⟩:=hv;cases hv;done))
 ·cases hs
theorem qkZ {sh:qei} {x y:qd} {r:Bool} (h:qmw sh x y = some r):qec sh x = true/\qec sh y = true/\r = qdp x.cells y.cells sh.ls:=by
 unfold qmw at h
 split at h
 ·rename_i hh
  simp only [jk] at hh
  cases h
  exact ⟨hh.1,hh.2,rfl⟩
 ·cases h
theorem qDv {kt:TypeId} {sh:qei} (hs:qiu P kt = some sh) {x y:qd} {vx vy:Value} (hx:qC γ imm x vx) (hy:qC γ imm y vy) {r:Bool} (he:qmw sh x y = some r) (w:World) :
  (Op.equal kt vx vy).run P w = .ok r w/\(r = true->vx = vy):=by
 obtain ⟨fx,fy,hr⟩:=qkZ he
 obtain ⟨k1,k2,x1,x2,x3,x4,x5,x6⟩:=qdS hs hx fx
 obtain ⟨_,_,y1,y2,y3,y4,_,y6⟩:=qdS hs hy fy
 obtain ⟨r',h1,h2⟩:=run_equalIn_deep (10000 - deep) deep kt k1 w _ _ vx vy _ _ x2 y2 x3 y3
 have e0:10000 - deep + deep = 10000:=rfl
 rw [e0] at h1
 have Y:r = r':=by
  rw [Bool.eq_iff_iff,hr,qhQ x1 y1,h2]
 subst Y
 refine ⟨h1,λht=>?_⟩
 have hl:=h2.1 ht
 have c1:=cells_of_lits deep kt k2 _ _ _ x3
 have c2:=cells_of_lits deep kt k2 _ _ _ y3
 have hc:vx.cells.toList = vy.cells.toList:=by rw [c1,c2,hl]
 cases E:sh.agg with
 | true=>
  obtain ⟨a,rfl⟩:=x4 E
  obtain ⟨b,rfl⟩:=y4 E
  simp only [Value.cells] at hc
  rw [Array.toList_inj.1 hc]
 | false=>
  have one:∀{z:qd} {v:Value},qC γ imm z v->z.storable = true->v.cells = #[v]:=fun {z v} hz I=>by
   have:=(qb2 hz (by rw [qaI I];simp [I])).1
   rw [qaI I] at this
   cases v <;> first | rfl | skip
   all_goals
    exfalso
    cases z <;> simp only [qC] at hz <;> first
     | (cases hz;done)
     | (simp [qd.storable] at I;done)
     | (obtain ⟨_,hz⟩:=hz;cases hz;done)
     | (obtain ⟨_,hz,_⟩:=hz;cases hz;done)
     | (obtain ⟨_,_,hz⟩:=hz;cases hz;done)
     | (obtain ⟨_,_,hz,_⟩:=hz;cases hz;done)
     | (obtain ⟨_,_,_,hz,_⟩:=hz;cases hz;done)
  rw [one hx (x6 E),one hy (y6 E)] at hc
  simpa using hc
theorem qah.get {G:qi}:∀{es:List (Nat×qd×qd)} {me:List MapEntry} {i:Nat} {x:Nat×qd×qd},qah G es me->es[i]? = some x->∃e,me[i]? = some e/\e.born = x.1/\G.V x.2.1 e.key/\G.V x.2.2 e.val
 | [],_,i,x,_,h=>by simp at h
 | y :: es,me,i,x,hm,h=>by
  simp only [qah] at hm
  obtain ⟨e,rest,rfl,h1,h2,h3,h4⟩:=hm
  cases i with
  | zero=>simp at h;subst h;exact ⟨e,rfl,h1,h2,h3⟩
  | succ i=>simpa using qah.get h4 (by simpa using h)
theorem qah.length {G:qi}:∀{es:List (Nat×qd×qd)} {me:List MapEntry},qah G es me->me.length = es.length
 | [],_,h=>by simp only [qah] at h;subst h;rfl
 | y :: es,me,hm=>by
  simp only [qah] at hm
  obtain ⟨e,rest,rfl,h1,h2,h3,h4⟩:=hm
  simp [qah.length h4]
theorem qah.modify {G:qi} {f:Nat×qd×qd->Nat×qd×qd} {g:MapEntry->MapEntry} (E:∀x e,e.born = x.1->G.V x.2.1 e.key->G.V x.2.2 e.val->(g e).born = (f x).1/\G.V (f x).2.1 (g e).key/\G.V (f x).2.2 (g e).val) :
  ∀{es:List (Nat×qd×qd)} {me:List MapEntry} (i:Nat),qah G es me->qah G (es.modify i f) (me.modify i g)
 | [],_,i,h=>by simp only [qah] at h;subst h;simp [qah]
 | y :: es,me,i,hm=>by
  simp only [qah] at hm
  obtain ⟨e,rest,rfl,h1,h2,h3,h4⟩:=hm
  cases i with
  | zero=>
   simp only [List.modify_zero_cons,qah]
   obtain ⟨q1,q2,q3⟩:=E y e h1 h2 h3
   exact ⟨_,_,rfl,q1,q2,q3,h4⟩
  | succ i=>
   simp only [List.modify_succ_cons,qah]
   exact ⟨e,_,rfl,h1,h2,h3,qah.modify E i h4⟩
theorem qah.append {G:qi} {x:Nat×qd×qd} {e:MapEntry} (h1:e.born = x.1) (h2:G.V x.2.1 e.key) (h3:G.V x.2.2 e.val):∀{es:List (Nat×qd×qd)} {me:List MapEntry},qah G es me->qah G (es ++ [x]) (me ++ [e])
 | [],_,h=>by simp only [qah] at h;subst h;simp only [List.nil_append,qah];exact ⟨e,[],rfl,h1,h2,h3,rfl⟩
 | y :: es,me,hm=>by
  simp only [qah] at hm
  obtain ⟨e',rest,rfl,g1,g2,g3,g4⟩:=hm
  simp only [jw,qah]
  exact ⟨e',_,rfl,g1,g2,g3,qah.append h1 h2 h3 g4⟩
end
end Go.AE
