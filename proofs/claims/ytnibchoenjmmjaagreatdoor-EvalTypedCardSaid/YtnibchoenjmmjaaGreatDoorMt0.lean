/- Proved: part 0. No condition. -/
import GoSem.Core.Code
import GoSem.Core.View
import GoSem.Op.String
import GoSem.Core.Region
import GoSem.ClaimKeys
import Derived.DeepKeys3
import Derived.RangeFuncLeaves
import Derived.OrdersIn
import Derived.Laws.CopyRow
import Derived.ChangeKeysEq
import Derived.Lib.Strings
import GoSem.Dispatch
import Derived.Laws.NewFold
import Derived.RangeFuncRecord
import Derived.MapKept
set_option maxRecDepth 100000
open List renaming getElem?_append_left→ja,getElem?_append_right→jc,getElem?_eq_some_iff→je,getElem?_set_ne→jg,getElem?_set_self→jh,getElem?_eq_getElem→ji,length_append→jj,append_assoc→jr,getElem?_eq_none→jt,getElem?_map→ju,cons_append→jB,getElem?_cons_zero→jC,length_cons→jD,length_nil→jE,all_cons→jH,all_nil→jI
open Array renaming getElem?_eq_some_iff→jf,getElem?_append_left→jG
open Option.some renaming injEq→jl
open Bool renaming and_eq_true→jm,false_eq_true→jn,and_true→jA
open Nat renaming le_refl→jo,le_trans→jp,lt_of_lt_of_le→jq,add_assoc→jx,add_comm→jy,zero_add→jz
open Prod.mk renaming injEq→jv
open Option renaming bind_eq_bind→jF
namespace Go.AE
theorem zo {p:Prop} (h:p := by omega):p:=h
theorem yq {a b:Prop} (x:a) (y:b):a/\b:=⟨x,y⟩
inductive qgh where
 | no
 | full
 | own (k:Nat)
 deriving DecidableEq,Repr,Inhabited
inductive qa where
 | undef
 | bool (b:Bool)
 | int (k:IntKind) (n:Int)
 | str (s:List UInt8)
 | nilptr
 | ptr (id off:Nat)
 | iptr (cells:List qa) (off:Nat)
 | lst (xs:List qa) (f:qgh)
 | nilfunc
 | fn (f:FuncId) (first captured:List qa)
 | yld (id:Nat)
 | niliface
 | iface (t:TypeId) (v:qa)
 | agg (cells:List qa)
 | tup (vs:List qa)
 | sl (id off len cap more:Nat)
 | mp (id:Nat)
 | nilmap
 | nils
 | empt
 deriving Inhabited,Repr
def qa.dim:qa->qa
 | .lst xs (.own _)=>.lst xs .no
 | v=>v
def qa.cells:qa->List qa
 | .agg cs=>cs
 | v=>[v]
def qa.storable:qa->Bool
 | .undef | .agg _ | .tup _=>false
 | _=>true
mutual
def qa.lower (n:Nat):qa->Bool
 | .ptr i _=>Nat.blt i n
 | .yld i=>Nat.blt i n
 | .sl i _ _ _ _=>Nat.blt i n
 | .mp i=>Nat.blt i n
 | .iptr cs _=>qr n cs
 | .lst xs _=>qr n xs
 | .fn _ a b=>qr n a && qr n b
 | .iface _ v=>v.lower n
 | .agg cs=>qr n cs
 | .tup vs=>qr n vs
 | _=>true
def qr (n:Nat):List qa->Bool
 | []=>true
 | v :: vs=>v.lower n && qr n vs
end
mutual
def qa.beq:qa->qa->Bool
 | .undef,.undef=>true
 | .bool a,.bool b=>a == b
 | .int k a,.int j b=>k == j && a == b
 | .str a,.str b=>a == b
 | .nilptr,.nilptr=>true
 | .ptr i o,.ptr j p=>i == j && o == p
 | .iptr a o,.iptr b p=>o == p && qiv a b
 | .lst a f,.lst b g=>f == g && qiv a b
 | .nilfunc,.nilfunc=>true
 | .fn f a b,.fn g c d=>f == g && qiv a c && qiv b d
 | .yld i,.yld j=>i == j
 | .niliface,.niliface=>true
 | .iface t a,.iface u b=>t == u && qa.beq a b
 | .agg a,.agg b=>qiv a b
 | .tup a,.tup b=>qiv a b
 | .sl i o l c m,.sl j p k d q=>i == j && o == p && l == k && c == d && m == q
 | .mp i,.mp j=>i == j
 | .nilmap,.nilmap=>true
 | .nils,.nils=>true
 | .empt,.empt=>true
 | _,_=>false
def qiv:List qa->List qa->Bool
 | [],[]=>true
 | a :: as,b :: bs=>qa.beq a b && qiv as bs
 | _,_=>false
end
inductive qh where
 | t (i:Nat)
 | c (v:qa)
 deriving Inhabited,Repr
inductive SK where
 | b
 | i (k:IntKind)
 | s
 deriving DecidableEq,Repr,Inhabited
structure qgj where
 agg:Bool
 n:Nat
 ls:List (Nat×SK)
 deriving DecidableEq,Repr,Inhabited
inductive HOp where
 | mk (k:Nat) (zero:List qa)
 | lit (k:Nat) (zero:List qa) (len:Nat) (ixs:List Nat)
 | app (k:Nat)
 | sub3 (k:Nat)
 | mkm
 | mup (sh:qgj)
 | ment (sh:qgj) (zero:qa)
 | mst
 | mlen
 | del (sh:qgj)
 | rng
 | nxt
 | ent
 | ldz (k:Option Nat)
 deriving Inhabited,Repr
inductive AOp where
 | mov (x:qh)
 | asg (x:qh)
 | pick (c a b:qh)
 | new (cs:List qa)
 | box (k:Nat) (x:qh)
 | build (zero:List qa) (parts:List (Nat×Nat×qh))
 | list (k:Nat) (zero:List qa) (len:Nat) (parts:List (Nat×qh))
 | ld (k:Option Nat) (a:qh)
 | st (k:Option Nat) (a x:qh)
 | nilc (x:qh)
 | bin (op:BinOp) (x y:qh)
 | eqb (neg:Bool) (x y:qh)
 | eqi (kind:Nat) (neg:Bool) (x y:qh)
 | eqa (neg:Bool) (x y:qh)
 | un (op:UnOp) (x:qh)
 | cvi (k:IntKind) (x:qh)
 | cvs (x:qh)
 | cvb (x:qh)
 | mkI (t:TypeId) (x:qh)
 | mkF (f:FuncId) (first captured:List qh)
 | subS (x:qh) (lo hi:Option qh)
 | subL (k:Nat) (x:qh) (lo hi:Option qh)
 | fa (off:Nat) (a:qh)
 | ixaL (k:Nat) (s i:qh)
 | ixaA (len k:Nat) (a i:qh)
 | ixS (s i:qh)
 | ixA (len:Nat) (k:Option Nat) (a i:qh)
 | fld (off:Nat) (k:Option Nat) (x:qh)
 | ext (x:qh) (i:Nat)
 | call (f:qh) (args:List qh)
 | len (isStr:Bool) (x:qh)
 | app (k:Nat) (x y:qh)
 | mm (isMax:Bool) (x y:qh)
 | tas (t:TypeId) (zero:qa) (x:qh)
 | pan (x:qh)
 | eqs (sh:qgj) (neg:Bool) (x y:qh)
 | hx (o:HOp) (args:List qh)
 | nls (neg:Bool) (x:qh)
 | lk (sh:qgj) (zero:qa) (ok:Bool) (m key:qh)
 deriving Inhabited,Repr
structure qaq where
 dst:Option Nat
 op:AOp
 guard:Option (Nat×Bool)
 deriving Inhabited,Repr
def ao (d:Nat) (op:AOp):qaq:=⟨some d,op,none⟩
def ag (d:Nat) (op:AOp) (j:Nat) (b:Bool):qaq:=⟨some d,op,some (j,b)⟩
def an (op:AOp):qaq:=⟨none,op,none⟩
def mv (d i:Nat):qaq:=⟨some d,.mov (.t i),none⟩
def sg (d i:Nat):qaq:=⟨some d,.asg (.t i),none⟩
def fA (d k i:Nat):qaq:=⟨some d,.fa k (.t i),none⟩
def ldn (d i:Nat):qaq:=⟨some d,.ld none (.t i),none⟩
def lds (d k i:Nat):qaq:=⟨some d,.ld (some k) (.t i),none⟩
def sts (k i j:Nat):qaq:=⟨none,.st (some k) (.t i) (.t j),none⟩
def stn (i j:Nat):qaq:=⟨none,.st none (.t i) (.t j),none⟩
def xtt (d i k:Nat):qaq:=⟨some d,.ext (.t i) k,none⟩
def nlc (d i:Nat):qaq:=⟨some d,.nilc (.t i),none⟩
def xlL (d k i j:Nat):qaq:=⟨some d,.ixaL k (.t i) (.t j),none⟩
def lnn (d i:Nat):qaq:=⟨some d,.len false (.t i),none⟩
def kI (n:Int):qh:=.c (.int .i64 n)
def kF (n:Nat):qh:=.c (.fn n [] [])
def kO:qh:=.c (.bool false)
def kU:qh:=.c (.bool true)
def nL:qa:=.lst [] .full
def zZ:qa:=.int .i64 0
def zS:qa:=.str []
def eqk (d i:Nat) (n:Int):qaq:=⟨some d,.bin .eql (.t i) (.c (.int .i64 n)),none⟩
def bnk (d:Nat) (o:BinOp) (i:Nat) (n:Int):qaq:=⟨some d,.bin o (.t i) (.c (.int .i64 n)),none⟩
def bnt (d:Nat) (o:BinOp) (i j:Nat):qaq:=⟨some d,.bin o (.t i) (.t j),none⟩
def sgk (d:Nat) (n:Int):qaq:=⟨some d,.asg (.c (.int .i64 n)),none⟩
def sgO (d:Nat):qaq:=⟨some d,.asg (.c (.bool false)),none⟩
def sgU (d:Nat):qaq:=⟨some d,.asg (.c (.bool true)),none⟩
def clA (d f i:Nat):qaq:=⟨some d,.call (.c (.fn f [] [])) [.t i],none⟩
def clB (d f i j:Nat):qaq:=⟨some d,.call (.c (.fn f [] [])) [.t i,.t j],none⟩
def pkO (d i j:Nat):qaq:=⟨some d,.pick (.t i) (.t j) (.c (.bool false)),none⟩
def pkU (d i j:Nat):qaq:=⟨some d,.pick (.t i) (.c (.bool true)) (.t j),none⟩
def bxx (d k i:Nat):qaq:=⟨some d,.box k (.t i),none⟩
def ntt (d i:Nat):qaq:=⟨some d,.un .not (.t i),none⟩
def gmv (d i j:Nat) (b:Bool):qaq:=⟨some d,.mov (.t i),some (j,b)⟩
def gfA (d k i j:Nat) (b:Bool):qaq:=⟨some d,.fa k (.t i),some (j,b)⟩
def gld (d i j:Nat) (b:Bool):qaq:=⟨some d,.ld none (.t i),some (j,b)⟩
def gls (d k i j:Nat) (b:Bool):qaq:=⟨some d,.ld (some k) (.t i),some (j,b)⟩
def gln (d i j:Nat) (b:Bool):qaq:=⟨some d,.len false (.t i),some (j,b)⟩
def gbk (d:Nat) (o:BinOp) (i:Nat) (n:Int) (j:Nat) (b:Bool):qaq:=⟨some d,.bin o (.t i) (.c (.int .i64 n)),some (j,b)⟩
def gbt (d:Nat) (o:BinOp) (i i2 j:Nat) (b:Bool):qaq:=⟨some d,.bin o (.t i) (.t i2),some (j,b)⟩
def qh.slot:qh->List Nat
 | .t i=>[i]
 | .c _=>[]
def qzr:Option qh->List Nat
 | some x=>x.slot
 | none=>[]
def qe8:List qh->List Nat
 | []=>[]
 | x :: xs=>x.slot ++ qe8 xs
def AOp.looks:AOp->List Nat
 | .mov x | .asg x | .box _ x | .ld _ x | .nilc x | .un _ x | .cvi _ x | .cvs x | .cvb x | .mkI _ x | .fa _ x | .fld _ _ x | .ext x _ | .len _ x | .tas _ _ x | .pan x | .nls _ x=>x.slot
 | .pick c a b=>c.slot ++ a.slot ++ b.slot
 | .new _=>[]
 | .build _ ps=>qe8 (ps.map (·.2.2))
 | .list _ _ _ ps=>qe8 (ps.map (·.2))
 | .st _ a x | .bin _ a x | .eqb _ a x | .eqi _ _ a x | .eqa _ a x | .ixaL _ a x | .ixaA _ _ a x | .ixS a x | .ixA _ _ a x | .app _ a x | .mm _ a x | .eqs _ _ a x | .lk _ _ _ a x=>a.slot ++ x.slot
 | .hx _ as=>qe8 as
 | .mkF _ a b=>qe8 a ++ qe8 b
 | .subS x l h | .subL _ x l h=>x.slot ++ qzr l ++ qzr h
 | .call f as=>f.slot ++ qe8 as
def AOp.calls:AOp->Bool
 | .call .. | .pan ..=>true
 | _=>false
def AOp.acts:AOp->Bool
 | .st .. | .call .. | .app .. | .pan .. | .hx ..=>true
 | _=>false
def AOp.effs:AOp->Bool
 | .st .. | .call .. | .app .. | .pan .. | .asg .. | .hx ..=>true
 | _=>false
def qaq.looks (o:qaq):List Nat:=
 match o.guard with
 | some (j,_)=>j :: o.op.looks
 | none=>o.op.looks
structure qN where
 o:qaq
 ix:Nat
 cl:Nat
 deriving Inhabited,Repr
inductive qG where
 | skip
 | reg (ops:List qaq)
 | draw (ops:List qN)
 | draw2 (c:List qN) (a b:qN) (r:List qN)
 | seq (a b:qG)
 | cond (c:qh) (a b:qG)
 | block (id:Nat) (b:qG)
 | loop (b:qG)
 | rfun (f:qh) (ps:List Nat) (asg body:qG)
 | exit (id:Nat)
 | ret
 deriving Inhabited,Repr
def cT (i:Nat) (a b:qG):qG:=.cond (.t i) a b
def sR (l:List qaq) (c:qG):qG:=.seq (.reg l) c
def qG.noRf:qG->Bool
 | .seq a b | .cond _ a b=>a.noRf && b.noRf
 | .block _ b | .loop b=>b.noRf
 | .rfun ..=>false
 | _=>true
inductive qle where
 | tmp (i:Nat)
 | cell (a:Nat) (k:Option Nat)
 deriving Inhabited,Repr
structure qt where
 ntmps:Nat
 results:List qle
 code:qG
 deriving Inhabited,Repr
inductive LSt where
 | ready | busy | done | exhausted
 deriving DecidableEq,Repr,Inhabited
inductive qzP where
 | ret
 | exit (id:Nat)
 deriving DecidableEq,Repr,Inhabited
inductive qb where
 | cells (cs:List qa)
 | loop (t:List qa) (ps:List Nat) (asg body:qG) (st:LSt) (pend:Option qzP)
 | map (es:List (Nat×qa×qa)) (clock:Nat)
 | iter (m:qa) (since:Nat) (seen:List Nat) (last:Nat)
 | dead
 deriving Inhabited,Repr
structure St where
 t:List qa
 h:List qb
 e:Bool
 deriving Inhabited
inductive Ex where
 | nor
 | exit (id:Nat)
 | ret
 | pan (v:qa)
 deriving Inhabited,Repr
inductive qcb where
 | ret (v:qa)
 | pan (v:qa)
 deriving Inhabited,Repr
abbrev Call:=qa->List qa->List qb->Option (qcb×List qb×Bool)
def raw (t:List qa):qh->qa
 | .t i=>t.getD i .undef
 | .c v=>v
def ev (t:List qa) (x:qh):qa:=(raw t x).dim
def put (dst:Option Nat) (v:qa) (t:List qa):List qa:=
 match dst with
 | some d=>t.set d v
 | none=>t
def qaR (t:List qa) (x:qh):List qa:=
 match x with
 | .t i=>match t.getD i .undef with
  | .lst xs (.own _)=>t.set i (.lst xs .no)
  | _=>t
 | .c _=>t
def qdH:Nat:=2 ^ 30
def splice (cs:List qa) (o:Nat) (vs:List qa):List qa:=cs.take o ++ vs ++ cs.drop (o + vs.length)
def cut (cs:List qa) (o:Nat) (k:Option Nat):Option qa:=
 match k with
 | none=>(cs[o]?).map qa.dim
 | some k=>if o + k <= cs.length then some (.agg (((cs.drop o).take k).map qa.dim)) else none
def qcl (h:List qb) (a:qa) (k:Option Nat):Option qa:=
 match a with
 | .ptr i o=>match h[i]? with
  | some (.cells cs)=>cut cs o k
  | _=>none
 | .iptr cs o=>cut cs o k
 | _=>none
def q8 (cells:List qa):List (Nat×Nat×qa)->Option (List qa)
 | []=>some cells
 | (off,size,v) :: rest=>
  let vs:=v.cells
  if vs.length = size/\off + size <= cells.length/\vs.all qa.storable then q8 (splice cells off vs) rest else none
def ile:Int->Int->Bool
 | .ofNat a,.ofNat b=>Nat.ble a b
 | .negSucc _,.ofNat _=>true
 | .ofNat _,.negSucc _=>false
 | .negSucc a,.negSucc b=>Nat.ble b a
theorem qaT (a b:Int):ile a b = decide (a <= b):=by
 cases a <;> cases b <;> simp only [ile] <;> rw [Bool.eq_iff_iff] <;> simp <;> omega
def ilt (a b:Int):Bool:=!ile b a
theorem qf (a b:Int):ilt a b = decide (a < b):=by
 rw [ilt,qaT,Bool.eq_iff_iff];simp
def qbR (op:BinOp) (k:IntKind) (a b:Int):Option qa:=
 match op with
 | .add=>some (.int k (k.wrap (a + b)))
 | .sub=>some (.int k (k.wrap (a - b)))
 | .mul=>some (.int k (k.wrap (a * b)))
 | .quo=>if b = 0 then none else some (.int k (k.wrap (a.tdiv b)))
 | .rem=>if b = 0 then none else some (.int k (a.tmod b))
 | .and=>some (.int k (k.wrap (BitVec.ofInt k.bits a &&& BitVec.ofInt k.bits b).toNat))
 | .or=>some (.int k (k.wrap (BitVec.ofInt k.bits a ||| BitVec.ofInt k.bits b).toNat))
 | .xor=>some (.int k (k.wrap (BitVec.ofInt k.bits a ^^^ BitVec.ofInt k.bits b).toNat))
 | .andNot=>some (.int k (k.wrap (BitVec.ofInt k.bits a &&& ~~~ (BitVec.ofInt k.bits b)).toNat))
 | .eql=>some (.bool (a == b))
 | .neq=>some (.bool (a != b))
 | .lss=>some (.bool (ilt a b))
 | .leq=>some (.bool (ile a b))
 | .gtr=>some (.bool (ilt b a))
 | .geq=>some (.bool (ile b a))
 | .shl=>if b < 0 then none else some (.int k (k.wrap (a * 2 ^ (min b.toNat k.bits))))
 | .shr=>if b < 0 then none else some (.int k (a.fdiv (2 ^ (min b.toNat k.bits))))
def qsm (op:BinOp) (a b:List UInt8):Option qa:=
 match op with
 | .add=>if a.length + b.length <= qdH then some (.str (a ++ b)) else none
 | .eql=>some (.bool (a == b))
 | .neq=>some (.bool (!(a == b)))
 | .lss=>some (.bool (Op.bytesLess a b))
 | .leq=>some (.bool (Op.bytesLess a b || a == b))
 | .gtr=>some (.bool (!(Op.bytesLess a b || a == b)))
 | .geq=>some (.bool (!(Op.bytesLess a b)))
 | _=>none
def qbV (op:BinOp) (x y:qa):Option qa:=
 match x,y with
 | .int k a,.int j b=>
  match op with
  | .shl | .shr=>qbR op k a b
  | _=>if k = j then qbR op k a b else none
 | .str a,.str b=>qsm op a b
 | _,_=>none
def qzZ (k:Nat) (x y:qa):Option Bool:=
 match k with
 | 0=>match x,y with
  | .nilptr,.nilptr=>some true
  | .nilptr,.ptr _ _=>some false
  | .ptr _ _,.nilptr=>some false
  | .nilptr,.iptr _ _=>some false
  | .iptr _ _,.nilptr=>some false
  | .ptr i o,.ptr j p=>if i = j then some (o == p) else none
  | _,_=>none
 | 1=>match x,y with
  | .niliface,.niliface=>some true
  | .niliface,.iface _ _=>some false
  | .iface _ _,.niliface=>some false
  | _,_=>none
 | 2=>match x,y with
  | .nilfunc,.nilfunc=>some true
  | .nilfunc,.fn _ _ _=>some false
  | .fn _ _ _,.nilfunc=>some false
  | _,_=>none
 | 3=>match x,y with
  | .nilmap,.nilmap=>some true
  | .nilmap,.mp _=>some false
  | .mp _,.nilmap=>some false
  | _,_=>none
 | _=>none
def qvQ (x y:qa):Option Bool:=
 match x,y with
 | .int k a,.int j b=>if k = j then some (a == b) else none
 | .str a,.str b=>some (a == b)
 | .bool a,.bool b=>some (a == b)
 | _,_=>none
def qjY:List qa->List qa->Option Bool
 | [],[]=>some true
 | a :: as,b :: bs=>
  match qvQ a b with
  | some true=>qjY as bs
  | some false=>some false
  | none=>none
 | _,_=>none
def qDg (k:SK) (v:Option qa):Bool:=
 match k,v with
 | .b,some (.bool _)=>true
 | .i k,some (.int j n)=>k == j && (ile k.min n && ile n k.max)
 | .s,some (.str s)=>Nat.ble s.length qdH
 | _,_=>false
def qAD (ls:List (Nat×SK)) (cs:List qa):Bool:=ls.all λp=>qDg p.2 cs[p.1]?
def qlv (sh:qgj) (x:qa):Bool:=
 match x with
 | .agg cs=>sh.agg && cs.length == sh.n && qAD sh.ls cs
 | x=>!sh.agg && qAD sh.ls [x]
def qps (x y:List qa):List (Nat×SK)->Bool
 | []=>true
 | p :: sh=>match x[p.1]?,y[p.1]? with
  | some a,some b=>match qvQ a b with
   | some true=>qps x y sh
   | _=>false
  | _,_=>false
def qCW (sh:qgj) (x y:qa):Option Bool:=
 if qlv sh x && qlv sh y then some (qps x.cells y.cells sh.ls) else none
def unV (op:UnOp) (x:qa):Option qa:=
 match op,x with
 | .neg,.int k n=>some (.int k (k.wrap (0 - n)))
 | .not,.bool b=>some (.bool (!b))
 | _,_=>none
def bound (t:List qa) (x:Option qh) (d:Nat):Option Nat:=
 match x with
 | none=>some d
 | some x=>match ev t x with
  | .int _ n=>if 0 <= n then some n.toNat else none
  | _=>none
def qh6 (s:List UInt8):List qa:=s.map λb=>.int .u8 b.toNat
def pureV (t:List qa) (o:AOp):Option qa:=
 match o with
 | .mov x=>some (ev t x)
 | .pick c a b=>match ev t c with
  | .bool true=>some (ev t a)
  | .bool false=>some (ev t b)
  | _=>none
 | .build zero parts=>(q8 zero (parts.map λ(o,s,x)=>(o,s,ev t x))).map .agg
 | .list k zero len parts=>
  if zero.length = k/\len * k <= 2 ^ 24 then
   match q8 ((List.replicate len zero).flatten) (parts.map λ(i,x)=>(i * k,k,ev t x)) with
   | some cs=>if cs.all qa.storable then some (.lst ((List.range len).map λi=>if k = 1 then (cs.getD i .undef) else .agg ((cs.drop (i * k)).take k)) .full) else none
   | none=>none
  else none
 | .nilc x=>match ev t x with
  | .ptr i o=>some (.ptr i o)
  | .iptr cs o=>some (.iptr cs o)
  | .fn f a b=>some (.fn f a b)
  | .yld l=>some (.yld l)
  | .iface u v=>some (.iface u v)
  | _=>none
 | .bin op x y=>qbV op (ev t x) (ev t y)
 | .eqb neg x y=>match ev t x,ev t y with
  | .bool a,.bool b=>some (.bool ((a == b) != neg))
  | _,_=>none
 | .eqi k neg x y=>(qzZ k (ev t x) (ev t y)).map λb=>.bool (b != neg)
 | .eqa neg x y=>match ev t x,ev t y with
  | .agg a,.agg b=>(qjY a b).map λr=>.bool (r != neg)
  | _,_=>none
 | .eqs sh neg x y=>(qCW sh (ev t x) (ev t y)).map λr=>.bool (r != neg)
 | .un op x=>unV op (ev t x)
 | .nls neg x=>match ev t x with
  | .sl ..=>some (.bool (false != neg))
  | .lst (_ :: _) _=>some (.bool (false != neg))
  | .nils=>some (.bool (true != neg))
  | .empt=>some (.bool (false != neg))
  | _=>none
 | .cvi k x=>match ev t x with
  | .int _ n=>some (.int k (k.wrap n))
  | _=>none
 | .cvs x=>match ev t x with
  | .str s=>some (.str s)
  | _=>none
 | .cvb x=>match ev t x with
  | .str s=>some (.lst (qh6 s) .no)
  | _=>none
 | .mkI ty x=>match ev t x with
  | .undef=>none
  | v=>some (.iface ty v)
 | .mkF f a b=>some (.fn f (a.map (ev t)) (b.map (ev t)))
 | .subS x lo hi=>match ev t x with
  | .str s=>match bound t hi s.length with
   | some h=>match bound t lo 0 with
    | some l=>if l <= h/\h <= s.length then some (.str ((s.drop l).take (h - l))) else none
    | none=>none
   | none=>none
  | _=>none
 | .subL k x lo hi=>match ev t x with
  | .lst xs f=>match bound t hi xs.length with
   | some h=>match bound t lo 0 with
    | some l=>
     if l <= h/\h <= xs.length then
      if xs.head?.all (λy=>y.cells.length == k) then some (.lst ((xs.drop l).take (h - l)) (if h = xs.length then f else .no)) else none
     else none
    | none=>none
   | none=>none
  | .sl id o len cap more=>match bound t hi len with
   | some h=>match bound t lo 0 with
    | some l=>
     if l <= h/\h <= cap then
      if cap = l then (if more = 0 then some (.lst [] .full) else none) else (if more = 0\/more = k then some (.sl id (o + l * k) (h - l) (cap - l) more) else none)
     else none
    | none=>none
   | none=>none
  | _=>none
 | .fa off a=>match ev t a with
  | .ptr i o=>some (.ptr i (o + off))
  | .iptr cs o=>some (.iptr cs (o + off))
  | _=>none
 | .ixaL k s i=>match ev t s,ev t i with
  | .lst xs _,.int _ n=>
   if 0 <= n/\n < xs.length then
    match xs[n.toNat]? with
    | some x=>if x.cells.length = k then some (.iptr x.cells 0) else none
    | none=>none
   else none
  | .sl id o len _ _,.int _ n=>if 0 <= n/\n < len then some (.ptr id (o + n.toNat * k)) else none
  | _,_=>none
 | .ixaA len k a i=>match ev t a,ev t i with
  | .ptr b o,.int _ n=>if 0 <= n/\n < (len:Int) then some (.ptr b (o + n.toNat * k)) else none
  | .iptr cs o,.int _ n=>if 0 <= n/\n < (len:Int) then some (.iptr cs (o + n.toNat * k)) else none
  | _,_=>none
 | .ixS s i=>match ev t s,ev t i with
  | .str l,.int _ n=>if 0 <= n then (l[n.toNat]?).map λb=>.int .u8 b.toNat else none
  | _,_=>none
 | .ixA len k a i=>match ev t a,ev t i with
  | .agg cs,.int _ n=>if 0 <= n/\n < (len:Int) then cut cs (n.toNat * k.getD 1) k else none
  | _,_=>none
 | .fld off k x=>match ev t x with
  | .agg cs=>cut cs off k
  | _=>none
 | .ext x i=>match ev t x with
  | .tup vs=>(vs[i]?).map qa.dim
  | _=>none
 | .len true x=>match ev t x with
  | .str s=>some (.int .i64 s.length)
  | _=>none
 | .len false x=>match ev t x with
  | .lst xs _=>some (.int .i64 xs.length)
  | .sl _ _ len _ _=>some (.int .i64 len)
  | .nils=>some (.int .i64 0)
  | .empt=>some (.int .i64 0)
  | _=>none
 | .mm isMax x y=>match ev t x,ev t y with
  | .int k a,.int _ b=>some (.int k (if isMax then (if b > a then b else a) else (if b < a then b else a)))
  | _,_=>none
 | .tas ty zero x=>match ev t x with
  | .niliface=>some (.tup [zero,.bool false])
  | .iface u v=>if u = ty then some (.tup [v,.bool true]) else some (.tup [zero,.bool false])
  | _=>none
 | _=>none
inductive Src where
 | tmp (i:Nat)
 | cell (a:qh)
 deriving Inhabited,Repr
abbrev qcD:=List (Nat×Src)
def qh.isT (x:qh) (d:Nat):Bool:=
 match x with
 | .t i=>i == d
 | .c _=>false
def Src.hangs (d:Nat):Src->Bool
 | .tmp i=>i == d
 | .cell a=>a.isT d
def qD:AOp->Option Src
 | .mov (.t i)=>some (.tmp i)
 | .ld none a=>some (.cell a)
 | _=>none
def Src.isTmp:Src->Bool
 | .tmp _=>true
 | .cell _=>false
def qaY (p:qcD) (o:qaq):qcD:=
 if o.op.effs then
  match o.dst with
  | none=>p.filter λx=>x.2.isTmp
  | some d=>p.filter λx=>x.2.isTmp && (x.1 != d && !x.2.hangs d)
 else
  match o.dst with
  | none=>p
  | some d=>
   let q:=p.filter λx=>x.1 != d && !x.2.hangs d
   match qD o.op with
   | some s=>if s.hangs d then q else (d,s) :: q
   | none=>q
def tail (y:qa):Option (List qa):=
 match y with
 | .lst ys _=>some ys
 | .str s=>some (qh6 s)
 | _=>none
def qdO (k:Nat) (p:qcD) (x:qh) (s:St):Option (List qa×St):=
 match x with
 | .c _=>none
 | .t i=>
  match s.t.getD i .undef with
  | .lst xs (.own j)=>if j = k then some (xs,{ s with t:=s.t.set i (.lst xs .no)}) else none
  | _=>
   match p.find? (·.1 == i) with
   | some (_,.tmp b)=>
    match s.t.getD b .undef with
    | .lst xs (.own j)=>if j = k then some (xs,{ s with t:=s.t.set b (.lst xs .no)}) else none
    | _=>none
   | some (_,.cell a)=>
    match ev s.t a with
    | .ptr id o=>
     match s.h[id]? with
     | some (.cells cs)=>
      match cs[o]? with
      | some (.lst xs (.own j))=>if j = k then some (xs,{ s with h:=s.h.set id (.cells (cs.set o (.lst xs .no)))}) else none
      | _=>none
     | _=>none
    | _=>none
   | none=>none
def qeQ (xs:List qa):List qa:=xs.flatMap qa.cells
def qd7 (k:Nat) (h:List qb) (v:qa):Option (List qa×Nat):=
 match v with
 | .lst xs _=>if xs.all (λx=>x.cells.length == k) then some ((qeQ xs).map qa.dim,xs.length) else none
 | .str s=>if k = 1 then some (qh6 s,s.length) else none
 | .sl id o len _ _=>match h[id]? with
  | some (.cells cs)=>if o + len * k <= cs.length then some (((cs.drop o).take (len * k)).map qa.dim,len) else none
  | _=>none
 | .nils=>some ([],0)
 | .empt=>some ([],0)
 | _=>none
def young (base id:Nat) (vs:List qa):Bool:=!(Nat.ble base id || qr (id + 1) vs)
def qe4 (base:Nat) (h:List qb) (id o:Nat) (vs:List qa):Option (List qb×Bool):=
 match h[id]? with
 | some (.cells cs)=>if o + vs.length <= cs.length/\vs.all qa.storable then some (h.set id (.cells (splice cs o vs)),young base id vs) else none
 | _=>none
def qpC (sh:qgj) (key:qa):List (Nat×qa×qa)->Nat->Option (Option (Nat×qa))
 | [],_=>if qlv sh key then some none else none
 | e :: es,i=>match qCW sh key e.2.1 with
  | some true=>some (some (i,e.2.2))
  | some false=>qpC sh key es (i + 1)
  | none=>none
def qlu (h:List qb) (m:qa):Option (List (Nat×qa×qa)):=
 match m with
 | .nilmap=>some []
 | .mp id=>match h[id]? with
  | some (.map es _)=>some es
  | _=>none
 | _=>none
def qlG (h:List qb) (sh:qgj) (zero:qa) (ok:Bool) (m key:qa):Option qa:=
 match qlu h m with
 | some es=>match qpC sh key es 0 with
  | some (some (_,v))=>some (if ok then .tup [v.dim,.bool true] else v.dim)
  | some none=>some (if ok then .tup [zero.dim,.bool false] else zero.dim)
  | none=>none
 | none=>none
def qfM (base k:Nat) (x y:qa) (h:List qb):Option (qa×List qb×Bool):=
 match qd7 k h y with
 | none=>none
 | some (ys,m)=>
  if !(ys.all qa.storable) then none else
  match x with
  | .lst xs .full=>
   if m = 0 then some (x,h,false) else
   match qd7 k h x with
   | some (cs,n)=>if n + m <= qdH then some (.sl h.length 0 (n + m) (n + m) k,h ++ [.cells (cs ++ ys)],false) else none
   | none=>none
  | .sl id o len cap more=>
   if m = 0 then some (x,h,false) else
   if len + m <= qdH then
    if len + m <= cap then
     match qe4 base h id (o + len * k) ys with
     | some (h',e)=>some (.sl id o (len + m) cap more,h',e)
     | none=>none
    else
     match qd7 k h x,h[id]? with
     | some (cs,_),some (.cells ds)=>
      if more = 0 then some (.sl h.length 0 (len + m) (len + m) k,h ++ [.cells (cs ++ ys)],false)
      else if o = 0/\more = k/\cap * k = ds.length then some (.sl h.length 0 (len + m) (len + m) k,h.set id .dead ++ [.cells (cs ++ ys)],false) else none
     | _,_=>none
   else none
  | .nils=>
   if m = 0 then some (x,h,false) else if m <= qdH then some (.sl h.length 0 m m k,h ++ [.cells ys],false) else none
  | _=>none
def elems (k len:Nat) (cs:List qa):List qa:=(List.range len).map λi=>if k = 1 then (cs.getD i .undef) else .agg ((cs.drop (i * k)).take k)
def frz (h:List qb) (x:qa):Option (qa×List qb):=
 match x with
 | .sl id o len cap _=>match h[id]? with
  | some (.cells ds)=>
   if o = 0/\len * (ds.length / cap) <= ds.length/\(ds.map qa.dim).all qa.storable = true then some (.lst (elems (ds.length / cap) len (ds.map qa.dim)) .no,h.set id .dead) else none
  | _=>none
 | _=>none
def qv2:List qa->List qb->List qa×List qb
 | [],h=>([],h)
 | x :: xs,h=>match frz h x with
  | some (y,h')=>(y :: (qv2 xs h').1,(qv2 xs h').2)
  | none=>(x :: (qv2 xs h).1,(qv2 xs h).2)
def qF1 (h:List qb):qa->qa×List qb×Bool
 | .agg cs=>(.agg (qv2 cs h).1,(qv2 cs h).2,false)
 | v=>(v,h,false)
def hop (base:Nat) (o:HOp) (as:List qa) (h:List qb):Option (qa×List qb×Bool):=
 match o,as with
 | .mk k zero,[.int _ l,.int _ c]=>
  if 0 <= l/\l <= c/\c <= 2 ^ 24/\zero.length = k then some (.sl h.length 0 l.toNat c.toNat 0,h ++ [.cells (((List.replicate c.toNat zero).flatten).map qa.dim)],false) else none
 | .lit k zero len ixs,vs=>
  if zero.length = k/\len * k <= 2 ^ 24 then
   match q8 ((List.replicate len zero).flatten) ((ixs.zip vs).map λp=>(p.1 * k,k,p.2)) with
   | some cs=>some (.sl h.length 0 len len 0,h ++ [.cells (cs.map qa.dim)],false)
   | none=>none
  else none
 | .app k,[x,y]=>qfM base k x y h
 | .sub3 k,[x,.int _ lo,.int _ hi,.int _ mx]=>
  if 0 <= lo/\lo <= hi/\hi <= mx then
   match x with
   | .lst xs _=>if mx <= xs.length then (if mx = lo then some (.lst [] .full,h,false) else if lo = 0/\hi = mx/\mx = xs.length then some (.lst xs .full,h,false) else none) else none
   | .sl id o _ cap _=>
    if mx <= cap then
     if mx = lo then some (.lst [] .full,h,false) else some (.sl id (o + lo.toNat * k) (hi.toNat - lo.toNat) (mx.toNat - lo.toNat) 0,h,false)
    else none
   | _=>none
  else none
 | .mkm,[]=>some (.mp h.length,h ++ [.map [] 0],false)
 | .mup sh,[.mp id,key,v]=>
  match h[id]? with
  | some (.map es c)=>match qpC sh key es 0 with
   | some (some (i,_))=>some (.tup [],h.set id (.map (es.modify i λe=>(e.1,key,v)) c),young base id [key,v])
   | some none=>some (.tup [],h.set id (.map (es ++ [(c,key,v)]) (c + 1)),young base id [key,v])
   | none=>none
  | _=>none
 | .ment sh zero,[.mp id,key]=>
  match h[id]? with
  | some (.map es c)=>match qpC sh key es 0 with
   | some (some (i,v))=>match es[i]? with
    | some e=>some (.tup [v.dim,.int .i64 e.1],h.set id (.map (es.modify i λe=>(e.1,key,e.2.2)) c),young base id [key])
    | none=>none
   | some none=>some (.tup [zero.dim,.int .i64 c],h.set id (.map (es ++ [(c,key,zero.dim)]) (c + 1)),young base id [key,zero.dim])
   | none=>none
  | _=>none
 | .mst,[.mp id,.int _ n,v]=>
  match h[id]? with
  | some (.map es c)=>match es.findIdx? (λe=>(e.1:Int) == n) with
   | some i=>some (.tup [],h.set id (.map (es.modify i λe=>(e.1,e.2.1,v)) c),young base id [v])
   | none=>none
  | _=>none
 | .mlen,[m]=>match m with
  | .nilmap=>some (.int .i64 0,h,false)
  | .mp id=>match h[id]? with
   | some (.map es _)=>some (.int .i64 es.length,h,false)
   | _=>none
  | _=>none
 | .mkm,[.int _ _]=>some (.mp h.length,h ++ [.map [] 0],false)
 | .del sh,[m,key]=>match m with
  | .nilmap=>if qlv sh key then some (.tup [],h,false) else none
  | .mp id=>match h[id]? with
   | some (.map es c)=>match qpC sh key es 0 with
    | some (some (i,_))=>some (.tup [],h.set id (.map (es.eraseIdx i) c),false)
    | some none=>some (.tup [],h.set id (.map es c),false)
    | none=>none
   | _=>none
  | _=>none
 | .rng,[m]=>match m with
  | .nilmap=>some (.ptr h.length 0,h ++ [.iter .nilmap 0 [] 0],false)
  | .mp id=>match h[id]? with
   | some (.map _ c)=>some (.ptr h.length 0,h ++ [.iter (.mp id) c [] c],false)
   | _=>none
  | _=>none
 | .nxt,[.ptr it 0]=>match h[it]? with
  | some (.iter .nilmap _ _ _)=>some (.tup [.bool false],h,false)
  | some (.iter (.mp id) since seen last)=>match h[id]? with
   | some (.map es c)=>
    if !seen.isEmpty && !es.isEmpty && es.all (λe=>Nat.ble last e.1) then none else
    match es.filter (λe=>!seen.contains e.1) with
    | []=>some (.tup [.bool false],h,false)
    | [e]=>if Nat.blt e.1 since then some (.tup [.bool true,e.2.1.dim,e.2.2.dim],h.set it (.iter (.mp id) since (seen ++ [e.1]) c),false) else none
    | _=>none
   | _=>none
  | _=>none
 | .ent,[.ptr it 0]=>match h[it]? with
  | some (.iter (.mp id) _ seen last)=>match h[id]?,seen.getLast? with
   | some (.map es c),some b=>if c = last then match es.find? (λe=>e.1 == b) with
     | some e=>some (.tup [e.2.1.dim,e.2.2.dim],h,false)
     | none=>none
    else none
   | _,_=>none
  | _=>none
 | .ldz k,[p]=>(qcl h p k).map (qF1 h)
 | _,_=>none
def qv (base:Nat) (call:Call) (p:qcD) (dst:Option Nat) (o:AOp) (s:St):Option (Ex×St):=
 match o with
 | .asg x=>some (.nor,{ s with t:=put dst (raw s.t x) (qaR s.t x)})
 | .new cs=>some (.nor,{ s with t:=put dst (.ptr s.h.length 0) s.t,h:=s.h ++ [.cells (cs.map qa.dim)]})
 | .box k x=>
  let vs:=(ev s.t x).cells.map qa.dim
  if vs.length = k/\vs.all qa.storable then some (.nor,{ s with t:=put dst (.ptr s.h.length 0) s.t,h:=s.h ++ [.cells vs]}) else none
 | .ld k a=>(qcl s.h (ev s.t a) k).map λv=>(.nor,{ s with t:=put dst v s.t})
 | .st k a x=>
  match ev s.t a with
  | .ptr id o=>
   match s.h[id]? with
   | some (.cells cs)=>
    let v:=raw s.t x
    let vs:=match k with | none=>[v] | some _=>v.dim.cells.map qa.dim
    if vs.length = k.getD 1/\o + vs.length <= cs.length/\vs.all qa.storable then
     some (.nor,{ t:=put dst .undef (qaR s.t x),h:=s.h.set id (.cells (splice cs o vs)),e:=s.e || !(Nat.ble base id || qr (id + 1) vs)})
    else none
   | _=>none
  | _=>none
 | .call f args=>
  match call (ev s.t f) (args.map (ev s.t)) s.h with
  | some (.ret v,h,e)=>some (.nor,{ t:=put dst v.dim s.t,h,e:=s.e || e})
  | some (.pan v,h,e)=>some (.pan v,{ s with h,e:=s.e || e})
  | none=>none
 | .app k x y=>
  match raw s.t x,tail (ev s.t y) with
  | .lst xs f,some ys=>
   if ys.isEmpty then some (.nor,{ s with t:=put dst (qa.lst xs f).dim s.t})
   else if xs.length + ys.length <= qdH/\ys.all (λy=>y.cells.length == k && y.cells.all qa.storable)/\xs.head?.all (λy=>y.cells.length == k) then
    match f with
    | .full=>some (.nor,{ s with t:=put dst (.lst (xs ++ ys) (.own k)) s.t})
    | _=>
     match qdO k p x s with
     | some (xs,s)=>if xs.head?.all (λy=>y.cells.length == k) then some (.nor,{ s with t:=put dst (.lst (xs ++ ys) (.own k)) s.t}) else none
     | none=>none
   else none
  | _,_=>none
 | .pan x=>match ev s.t x with
  | .iface u v=>some (.pan (.iface u v),s)
  | _=>none
 | .lk sh z ok m key=>(qlG s.h sh z ok (ev s.t m) (ev s.t key)).map λv=>(.nor,{ s with t:=put dst v s.t})
 | .hx o as=>(hop base o (as.map (ev s.t)) s.h).map λr=>(.nor,{ t:=put dst r.1.dim s.t,h:=r.2.1,e:=s.e || r.2.2})
 | o=>(pureV s.t o).map λv=>(.nor,{ s with t:=put dst v s.t})
def wanted (t:List qa) (g:Option (Nat×Bool)):Option Bool:=
 match g with
 | none=>some true
 | some (j,b)=>match t.getD j .undef with
  | .bool c=>some (c == b)
  | .tup []=>some false
  | _=>none
def qa2 (base:Nat) (call:Call):qcD->List qaq->St->Option (Ex×St)
 | _,[],s=>some (.nor,s)
 | p,o :: os,s=>
  match wanted s.t o.guard with
  | some true=>
   match qv base call p o.dst o.op s with
   | some (.nor,s)=>qa2 base call (qaY p o) os s
   | r=>r
  | some false=>qa2 base call (qaY p { o with op:=.pick (.c .undef) (.c .undef) (.c .undef)}) os { s with t:=put o.dst (.tup []) s.t}
  | none=>none
inductive Chk where
 | ld (a:qa) (k:Option Nat) (v:qa)
 | box (id:Nat) (cs:List qa)
 | lk (sh:qgj) (zero:qa) (ok:Bool) (m key v:qa)
 deriving Inhabited
def Chk.ok (h:List qb):Chk->Bool
 | .ld a k v=>match qcl h a k with
  | some w=>v.beq w
  | none=>false
 | .box id cs=>match h[id]? with
  | some (.cells ds)=>qiv cs ds
  | _=>false
 | .lk sh z ok m key v=>match qlG h sh z ok m key with
  | some w=>v.beq w
  | none=>false
def qeK (s:St) (o:AOp):Option Chk:=
 match o with
 | .ld k a=>(qcl s.h (ev s.t a) k).map (.ld (ev s.t a) k)
 | .lk sh z ok m key=>(qlG s.h sh z ok (ev s.t m) (ev s.t key)).map (.lk sh z ok (ev s.t m) (ev s.t key))
 | .new cs=>some (.box s.h.length (cs.map qa.dim))
 | .box _ x=>some (.box s.h.length ((ev s.t x).cells.map qa.dim))
 | _=>none
def qcs (ms:List Nat) (t:List qa):List qa:=t.mapIdx λi x=>if ms.contains i then .undef else x
def qx (base:Nat) (call:Call) (dsts:List Nat):List qN->List (Nat×Chk)->St->Option (Ex×St)
 | [],_,s=>some (.nor,s)
 | d :: ds,pend,s=>
  match wanted s.t d.o.guard with
  | some true=>
   match qv base call [] d.o.dst d.o.op s with
   | some (.nor,s')=>
    if d.o.op.effs then
     let pend':=pend.filter λc=>!d.cl.testBit c.1
     if pend'.all (λc=>c.2.ok s'.h) then qx base call dsts ds pend' s' else none
    else
     match qeK s d.o.op with
     | some c=>qx base call dsts ds ((d.ix,c) :: pend) s'
     | none=>qx base call dsts ds pend s'
   | some (.pan v,s')=>if d.o.op.effs then some (.pan v,{ s' with t:=qcs dsts s'.t}) else none
   | _=>none
  | some false=>qx base call dsts ds pend { s with t:=put d.o.dst (.tup []) s.t}
  | none=>none
def qzR:List (Nat×qa×qa)->List (Nat×qa×qa)->Bool
 | [],[]=>true
 | x :: xs,y :: ys=>x.1 == y.1 && x.2.1.beq y.2.1 && x.2.2.beq y.2.2 && qzR xs ys
 | _,_=>false
def qb.beq:qb->qb->Bool
 | .cells a,.cells b=>qiv a b
 | .map a c,.map b d=>c == d && qzR a b
 | .iter m a l b,.iter m' a' l' b'=>m.beq m' && a == a' && l == l' && b == b'
 | .dead,.dead=>true
 | _,_=>false
def qzQ:List qb->List qb->Bool
 | [],[]=>true
 | x :: xs,y :: ys=>x.beq y && qzQ xs ys
 | _,_=>false
def apart (t:List qa) (a b:qN):Bool:=
 (a.o.guard.isNone && b.o.guard.isNone && a.o.dst.isNone && b.o.dst.isNone) && match a.o.op,b.o.op with
 | .st _ p x,.st _ q y=>x.slot.all (λi=>!y.slot.contains i) && (match ev t p,ev t q with
  | .ptr i _,.ptr j _=>!Nat.beq i j
  | _,_=>false)
 | _,_=>false
def qvN (a b:qN) (r0 r1 r2:Option (Ex×St)):Option (Ex×St):=
 match r0,r1,r2 with
 | some (.nor,s0),some (.nor,s1),some (.nor,_)=>if apart s0.t a b then some (.nor,s1) else none
 | _,_,_=>none
theorem qot {a b:qN} {r0 r1 r2:Option (Ex×St)} {x:Ex} {s':St} (h:qvN a b r0 r1 r2 = some (x,s')):x = .nor/\r1 = some (.nor,s')/\(∃s2,r2 = some (.nor,s2))/\∃s0,r0 = some (.nor,s0)/\apart s0.t a b = true:=by
 unfold qvN at h
 split at h
 ·split at h
  ·rename_i B
   cases h;exact ⟨rfl,rfl,⟨_,rfl⟩,_,rfl,B⟩
  ·cases h
 ·cases h
def iter (f:St->Option (Ex×St)):Nat->St->Option (Ex×St)
 | 0,_=>none
 | n + 1,s=>match f s with
  | some (.nor,s)=>iter f n s
  | r=>r
def qbe (n base:Nat) (call:Call):qG->St->Option (Ex×St)
 | .skip,s=>some (.nor,s)
 | .reg ops,s=>qa2 base call [] ops s
 | .draw ops,s=>qx base call (ops.filterMap (·.o.dst)) ops [] s
 | .draw2 c a b r,s=>qvN a b (qx base call ((c ++ a :: b :: r).filterMap (·.o.dst)) (c ++ [a,b]) [] s) (qx base call ((c ++ a :: b :: r).filterMap (·.o.dst)) (c ++ a :: b :: r) [] s) (qx base call ((c ++ a :: b :: r).filterMap (·.o.dst)) (c ++ b :: a :: r) [] s)
 | .seq a b,s=>match qbe n base call a s with
  | some (.nor,s)=>qbe n base call b s
  | r=>r
 | .cond c a b,s=>match ev s.t c with
  | .bool true=>qbe n base call a s
  | .bool false=>qbe n base call b s
  | _=>none
 | .block id b,s=>match qbe n base call b s with
  | some (.exit j,s)=>if j = id then some (.nor,s) else some (.exit j,s)
  | r=>r
 | .loop b,s=>iter (qbe n base call b) n s
 | .exit id,s=>some (.exit id,s)
 | .ret,s=>some (.ret,s)
 | .rfun f ps asg body,s=>
  match ev s.t f with
  | .fn g first cap=>
   match call (.fn g first cap) [.yld s.h.length] (s.h ++ [.loop (s.t.map qa.dim) ps asg body .ready none]) with
   | some (.ret _,h,e)=>
    match h[s.h.length]? with
    | some (.loop t ps' asg' body' st pend)=>
     if st = .busy then none else
     let s':St:={ s with h:=h.set s.h.length (.loop t ps' asg' body' .exhausted pend),e:=s.e || e}
     match pend with
     | none=>some (.nor,s')
     | some .ret=>some (.ret,s')
     | some (.exit id)=>some (.exit id,s')
    | _=>none
   | some (.pan v,h,e)=>some (.pan v,{ s with h,e:=s.e || e})
   | none=>none
  | _=>none
def qaF (s:St):List qle->Option (List qa)
 | []=>some []
 | .tmp i :: rs=>match qaF s rs with
  | some vs=>some ((s.t.getD i .undef).dim :: vs)
  | none=>none
 | .cell a k :: rs=>
  match qcl s.h (s.t.getD a .undef) k,qaF s rs with
  | some v,some vs=>some (v :: vs)
  | _,_=>none
def qbS:List qa->qa
 | [v]=>v
 | vs=>.tup vs
def qbg (n:Nat):List (Nat×qa×qa)->Bool
 | []=>true
 | x :: xs=>x.2.1.lower n && x.2.2.lower n && qbg n xs
def qb.lower (n:Nat):qb->Bool
 | .cells cs=>qr n cs
 | .loop t _ _ _ _ _=>qr n t
 | .map es _=>qbg n es
 | .iter m _ _ _=>m.lower n
 | .dead=>true
def qaU (base:Nat) (r:qcb) (h:List qb) (e:Bool):qcb×List qb×Bool:=
 if (!e || base == 0) && (match r with | .ret v=>v.lower base | .pan v=>v.lower base) then (r,h.take base,e) else (r,h,e)
abbrev qff:=FuncId->Option (Call->List qa->List qb->Option (qcb×List qb×Bool))
def qof (t:List qa):List Nat->List qa->List qa
 | p :: ps,a :: as=>qof (t.set p a) ps as
 | _,_=>t
def round (n:Nat) (call:Call) (l:Nat) (args:List qa) (h:List qb):Option (qcb×List qb×Bool):=
 match h[l]? with
 | some (.loop t ps asg body _ _)=>
  if args.length ≠ ps.length then none else
  let base:=h.length
  match qbe n base call asg ⟨qof t ps (args.map qa.dim),h,false⟩ with
  | some (.nor,s)=>
   match s.h[l]? with
   | some (.loop t1 ps1 asg1 body1 .ready pend)=>
    match qbe n base call body { s with h:=s.h.set l (.loop t1 ps1 asg1 body1 .busy pend)} with
    | some (x,s)=>
     match s.h[l]? with
     | some (.loop t2 ps2 asg2 body2 _ _)=>
      match x with
      | .nor=>some (qaU base (.ret (.bool true)) (s.h.set l (.loop t2 ps2 asg2 body2 .ready none)) s.e)
      | .ret=>some (qaU base (.ret (.bool false)) (s.h.set l (.loop t2 ps2 asg2 body2 .done (some .ret))) s.e)
      | .exit id=>some (qaU base (.ret (.bool false)) (s.h.set l (.loop t2 ps2 asg2 body2 .done (some (.exit id)))) s.e)
      | .pan _=>none
     | _=>none
    | none=>none
   | _=>none
  | _=>none
 | _=>none
def run (F:FuncId->Option qt) (X:qff):Nat->Call
 | 0=>λ_ _ _=>none
 | n + 1=>λfv args h=>
  match fv with
  | .fn f first cap=>
   match X f with
   | some g=>g (run F X n) (first ++ args ++ cap) h
   | none=>
    match F f with
    | none=>none
    | some fn=>
     let as:=(first ++ args ++ cap).map qa.dim
     match qbe n h.length (run F X n) fn.code ⟨as ++ List.replicate (fn.ntmps - as.length) (.tup []),h,false⟩ with
     | some (.nor,s) | some (.ret,s)=>
      match qaF s fn.results with
      | some vs=>some (qaU h.length (.ret (qbS vs)) s.h s.e)
      | none=>none
     | some (.pan v,s)=>some (qaU h.length (.pan v) s.h s.e)
     | _=>none
  | .yld l=>round n (run F X n) l args h
  | _=>none
def qc1:Value->Option qa
 | .bool b=>some (.bool b)
 | .int k n=>some (.int k n)
 | .string s=>some (.str s.data.toList)
 | .pointer none=>some .nilptr
 | .slice none l c=>if l = 0/\c = 0 then some (.lst [] .full) else none
 | .nilFunc=>some .nilfunc
 | .nilIface=>some .niliface
 | .map none=>some .nilmap
 | .func (.func f) a b=>if a.isEmpty && b.isEmpty then some (.fn f [] []) else none
 | _=>none
def qfG:Value->Option qa
 | .agg cs=>(cs.toList.mapM qc1).map .agg
 | .tuple vs=>if vs.isEmpty then some (.tup []) else none
 | v=>qc1 v
def qhk:BinOp->Bool
 | .neq=>true
 | _=>false
def qDv:BinOp->Bool
 | .eql | .neq=>true
 | _=>false
def qAU:TypeDesc->Bool
 | .slice _ | .string=>true
 | _=>false
def qDw:Option TypeDesc->Bool
 | some (.int .u8)=>true
 | _=>false
def isC:Operand->Bool
 | .const _=>true
 | _=>false
section
variable (P:Program) (gl:Nat->Option (List qa))
def opd:Operand->Option qh
 | .tmp t=>some (.t t)
 | .const v=>(qfG v).map .c
 | .global g=>(gl g).map λcs=>.c (.iptr cs 0)
 | .func f=>some (.c (.fn f [] []))
def qsR (xs:Array Operand):Option (List qh):=xs.toList.mapM (opd gl)
def tyk (t:TypeId):Option (Option Nat):=
 match P.underlying t with
 | some (.struct _) | some (.array ..)=>(P.info? t).map λi=>some i.size
 | some (.tuple _) | some .invalid | none=>none
 | some _=>some none
def qbD (t:TypeId):Option qa:=
 match P.info? t with
 | some i=>i.zero.bind qfG
 | none=>none
def qdz (t:TypeId):Option Nat:=(P.info? t).map (·.size)
def qhF (fs:Array Field):List (Nat×Operand)->Option (List (Nat×Nat×qh))
 | []=>some []
 | (i,x) :: rest=>
  match fs[i]?,opd gl x,qhF fs rest with
  | some f,some x,some r=>match qdz P f.type with
   | some s=>some ((f.offset,s,x) :: r)
   | none=>none
  | _,_,_=>none
def qhE (k:Nat):List (Nat×Operand)->Option (List (Nat×Nat×qh))
 | []=>some []
 | (i,x) :: rest=>
  match opd gl x,qhE k rest with
  | some x,some r=>some ((i * k,k,x) :: r)
  | _,_=>none
def qfP:List (Nat×Operand)->Option (List (Nat×qh))
 | []=>some []
 | (i,x) :: rest=>
  match opd gl x,qfP rest with
  | some x,some r=>some ((i,x) :: r)
  | _,_=>none
def qcO:Option Operand->Option (Option qh)
 | none=>some none
 | some x=>(opd gl x).map some
def qen (o:Oper):Option AOp:=
 match o.op with
 | .move x=>(opd gl x).map .mov
 | .assign x=>(opd gl x).map .asg
 | .pick c a b=>do pure (.pick (<-opd gl c) (<-opd gl a) (<-opd gl b))
 | .alloc e=>do pure (.new (<-qbD P e).cells)
 | .box e x=>do pure (.box (<-qdz P e) (<-opd gl x))
 | .build t ps=>do
  let z <-qbD P t
  match P.underlying t with
  | some (.struct fs)=>if fs.all λf=>(qdz P f.type).isSome then pure (.build z.cells (<-qhF P gl fs ps.toList)) else none
  | some (.array _ e)=>pure (.build z.cells (<-qhE gl (<-qdz P e) ps.toList))
  | _=>none
 | .buildSlice t n ps=>do
  match P.underlying t with
  | some (.slice e)=>do
   let k <-qdz P e
   let z <-qbD P e
   if k = 0 then none else pure (.list k z.cells n (<-qfP gl ps.toList))
  | _=>none
 | .load t a=>do pure (.ld (<-tyk P t) (<-opd gl a))
 | .store t a x=>do
  let k <-tyk P t
  if qdz P t = some (k.getD 1) then pure (.st k (<-opd gl a) (<-opd gl x)) else none
 | .nilCheck x=>(opd gl x).map .nilc
 | .binOp op t x y _=>
  match opd gl x,opd gl y with
  | some ax,some ay=>
   if qDv op then
    match P.underlying t with
    | some .bool=>some (.eqb (qhk op) ax ay)
    | some (.int _) | some .string=>some (.bin op ax ay)
    | some (.pointer e)=>if (qdz P e).getD 0 = 0 then none else some (.eqi 0 (qhk op) ax ay)
    | some (.interface _)=>if isC x || isC y then some (.eqi 1 (qhk op) ax ay) else none
    | some (.func ..)=>some (.eqi 2 (qhk op) ax ay)
    | some (.map ..)=>some (.eqi 3 (qhk op) ax ay)
    | _=>none
   else some (.bin op ax ay)
  | _,_=>none
 | .unOp op _ x=>(opd gl x).map (.un op)
 | .convert s d x=>do
  let x <-opd gl x
  match P.underlying s,P.underlying d with
  | some (.int _),some (.int k)=>pure (.cvi k x)
  | some .string,some .string=>pure (.cvs x)
  | some .string,some (.slice e)=>if qDw (P.underlying e) then pure (.cvb x) else none
  | _,_=>none
 | .makeInterface t x=>
  match P.underlying t with
  | some (.interface _) | none=>none
  | _=>(opd gl x).map (.mkI t)
 | .makeFunc (.func f) a b=>do pure (.mkF f (<-qsR gl a) (<-qsR gl b))
 | .slice t x lo hi none=>do
  match P.underlying t with
  | some .string=>pure (.subS (<-opd gl x) (<-qcO gl lo) (<-qcO gl hi))
  | some (.slice e)=>pure (.subL (<-qdz P e) (<-opd gl x) (<-qcO gl lo) (<-qcO gl hi))
  | _=>none
 | .fieldAddr s x i=>
  match P.underlying s with
  | some (.struct fs)=>match fs[i]? with
   | some f=>if (qdz P f.type).getD 0 = 0 then none else (opd gl x).map (.fa f.offset)
   | none=>none
  | _=>none
 | .field s x i=>do
  match P.underlying s with
  | some (.struct fs)=>match fs[i]? with
   | some f=>pure (.fld f.offset (<-tyk P f.type) (<-opd gl x))
   | none=>none
  | _=>none
 | .indexAddr t x i=>do
  match P.underlying t with
  | some (.slice e)=>pure (.ixaL (<-qdz P e) (<-opd gl x) (<-opd gl i))
  | some (.array n e)=>pure (.ixaA n (<-qdz P e) (<-opd gl x) (<-opd gl i))
  | _=>none
 | .index t x i=>do
  match P.underlying t with
  | some .string=>pure (.ixS (<-opd gl x) (<-opd gl i))
  | some (.array n e)=>do
   let k <-tyk P e
   if qdz P e = some (k.getD 1) then pure (.ixA n k (<-opd gl x) (<-opd gl i)) else none
  | _=>none
 | .typeAssert x _ t true=>do
  match P.underlying t with
  | some (.interface _) | none=>none
  | _=>pure (.tas t (<-qbD P t) (<-opd gl x))
 | .extract x i=>do pure (.ext (<-opd gl x) i)
 | .call c=>
  match c.callee with
  | .value f=>do pure (.call (<-opd gl f) (<-qsR gl c.args))
  | .invoke _ _=>none
  | .builtin b=>
   match b,c.args.toList,c.argTypes.toList with
   | .len,[x],[t]=>match P.underlying t with
    | some .string=>(opd gl x).map (.len true)
    | some (.slice _)=>(opd gl x).map (.len false)
    | some (.array n _)=>some (.mov (.c (.int .i64 n)))
    | _=>none
   | .append,[x,y],[t,u]=>match P.underlying t,P.underlying u with
    | some (.slice e),some u=>if qAU u = false then none else do
     let i <-P.info? e
     let z <-qbD P e
     if i.size = 0\/i.bytes > 65536\/z.cells.length ≠ i.size then none else pure (.app i.size (<-opd gl x) (<-opd gl y))
    | _,_=>none
   | .max,[x,y],_=>do pure (.mm true (<-opd gl x) (<-opd gl y))
   | .min,[x,y],_=>do pure (.mm false (<-opd gl x) (<-opd gl y))
   | _,_,_=>none
 | .panic x=>(opd gl x).map .pan
 | _=>none
def qFD (t:TypeId):Bool:=(gl (1000000 + t)).isSome
def qhW:Nat:=8
def qfJ (e:TypeId):Option (Nat×List qa):=
 match P.info? e,qbD P e with
 | some i,some z=>if i.size = 0\/i.bytes > 65536\/z.cells.length ≠ i.size then none else some (i.size,z.cells)
 | _,_=>none
def qfF (o:Oper):Option AOp:=
 match o.op with
 | .makeSlice t l c=>do
  match P.underlying t with
  | some (.slice e)=>do
   let (k,z) <-qfJ P e
   pure (.hx (.mk k z) [<-opd gl l,<-opd gl c])
  | _=>none
 | .buildSlice t n ps=>
  if qFD gl t && n != 0 then do
   match P.underlying t with
   | some (.slice e)=>do
    let (k,z) <-qfJ P e
    let qs <-qfP gl ps.toList
    pure (.hx (.lit k z n (qs.map (·.1))) (qs.map (·.2)))
   | _=>none
  else none
 | .call c=>
  match c.callee with
  | .builtin b=>
   match b,c.args.toList,c.argTypes.toList with
   | .append,[x,y],[t,u]=>
    if qFD gl t then
     match P.underlying t,P.underlying u with
     | some (.slice e),some u=>if qAU u = false then none else do
      let (k,_) <-qfJ P e
      pure (.hx (.app k) [<-opd gl x,<-opd gl y])
     | _,_=>none
    else none
   | _,_,_=>none
  | _=>none
 | _=>none
def qck (o:Oper):Option AOp:=
 match qfF P gl o with
 | some x=>some x
 | none=>qen P gl o
def qb6 (ops:Array Oper) (o:Oper):Option qaq:=do
 let op <-qck P gl o
 match o.guard with
 | none=>pure ⟨o.dst,op,none⟩
 | some (j,b)=>do
  let d <-(ops[j]?).bind (·.dst)
  pure ⟨o.dst,op,some (d,b)⟩
def qeO (o:Oper):List Nat:=(o.after.toList.filter (Region.binds .any)).map (·.on)
def qux (cl:List Nat) (es:List Nat):Nat:=es.foldl (λm e=>m ||| 1 <<< e ||| cl.getD e 0) 0
def qoL (ess:List (List Nat)):List Nat:=ess.foldl (λacc es=>acc ++ [qux acc es]) []
def qyN (quiet:Bool) (done:Nat):Nat->List Nat->List Bool->Option Nat
 | i,c :: cs,e :: es=>if !done.testBit i && (c ||| done) == done && (!quiet || !e) then some i else qyN quiet done (i + 1) cs es
 | _,_,_=>none
def qFz (cl:List Nat) (effs:List Bool):Nat->Nat->List Nat
 | 0,_=>[]
 | f + 1,done=>
  match (qyN true done 0 cl effs).orElse λ_=>qyN false done 0 cl effs with
  | some i=>i :: qFz cl effs f (done ||| 1 <<< i)
  | none=>[]
def qdt (a b:qN):Bool:=
 a.ix != b.ix &&
 (b.cl.testBit a.ix ||
  (!a.o.op.effs && (match a.o.dst with | some d=>!b.o.looks.contains d | none=>true))) &&
 (match b.o.dst with
  | some d=>(b.o.op.effs && b.cl.testBit a.ix) || (!a.o.looks.contains d && a.o.dst != some d)
  | none=>true)
def qmo (x:Nat×Nat) (a b:qN):Bool:=
 a.ix != b.ix && (a.o.op.effs && b.o.op.effs && ((x.1 == a.ix && x.2 == b.ix) || (x.1 == b.ix && x.2 == a.ix)))
def qg6 (a:qN):Bool:=
 a.o.op.effs || (match a.o.dst with | some d=>!a.o.looks.contains d | none=>true)
def qfU (x:Nat×Nat) (ess:List (List Nat)):List qN->List qN->Bool
 | _,[]=>true
 | pre,d :: ds=>(ess.getD d.ix []).all (λe=>pre.any (·.ix == e)) && pre.all (λa=>qdt a d || qmo x a d) && qg6 d && qfU x ess (d :: pre) ds
def qrr (as:List qaq) (cl:List Nat) (ord:List Nat):List qN:=
 ord.filterMap λi=>(as[i]?).map λa=>⟨a,i,cl.getD i 0⟩
def qfZ (ops:Array Oper):Option (List qN):=do
 let as <-ops.toList.mapM (qb6 P gl ops)
 let ess:=ops.toList.map qeO
 let cl:=qoL ess
 let ds:=qrr as cl (qFz cl (as.map (·.op.effs)) as.length 0)
 if (List.range ops.size).all (λi=>ds.any (·.ix == i)) && ds.all (λd=>d.cl == qux cl (ess.getD d.ix [])) && qfU (0,0) ess [] ds then pure ds else none
def comp:Code->Option qG
 | .skip=>some .skip
 | .region _ ops false=>(ops.toList.mapM (qb6 P gl ops)).map .reg
 | .region _ ops true=>match qfZ P gl ops with
  | some ds=>some (.draw ds)
  | none=>none
 | .seq a b=>match comp a,comp b with
  | some x,some y=>some (.seq x y)
  | _,_=>none
 | .cond c a b=>match opd gl c,comp a,comp b with
  | some z,some x,some y=>some (.cond z x y)
  | _,_,_=>none
 | .block id b=>(comp b).map (.block id)
 | .loop b=>(comp b).map .loop
 | .rangeFunc f ps a b=>match opd gl f,comp a,comp b with
  | some z,some x,some y=>some (.rfun z ps.toList x y)
  | _,_,_=>none
 | .exit id=>some (.exit id)
 | .ret=>some .ret
 | _=>none
def qeo:ResultVar->Option qle
 | .tmp t=>some (.tmp t)
 | .cell a t=>(tyk P t).map (.cell a)
def qd (f:Func):Option qt:=
 match f.body with
 | none=>none
 | some c=>match comp P gl c,f.results.toList.mapM (qeo P) with
  | some code,some rs=>some ⟨f.ntmps,rs,code⟩
  | _,_=>none
end
inductive Loc where
 | tmp (i:Nat)
 | cell (id off:Nat)
 deriving DecidableEq,Inhabited
structure qc where
 γ:Nat->Option Nat
 imm:Nat->Nat->Option Value
 ow:Nat->Option Loc
def qdw:Value:=.float .f64 (2 ^ 99)
open Classical in
noncomputable def qmb (v:Option Value):Option Value:=if v = some qdw then none else v
theorem qbo {o:Option Value} {v:Value}:qmb o = some v↔o = some v/\v ≠ qdw:=by
 unfold qmb
 split
 ·rename_i h
  subst h
  simp
  exact λe=>e.symm
 ·rename_i h
  exact ⟨λe=>⟨e,λe'=>h (e'▸e)⟩,λe=>e.1⟩
mutual
def qC (γ:Nat->Option Nat) (imm:Nat->Nat->Option Value):qa->Value->Prop
 | .undef,v=>v ≠ qdw
 | .bool b,v=>v = .bool b
 | .int k n,v=>v = .int k n
 | .str s,v=>∃b:ByteArray,v = .string b/\b.data.toList = s
 | .nilptr,v=>v = .pointer none
 | .ptr i o,v=>∃b,γ i = some b/\v = .pointer (some ⟨b,o,none⟩)
 | .iptr cs o,v=>∃b p,v = .pointer (some ⟨b,p + o,none⟩)/\qar γ imm cs b p
 | .lst xs f,v=>∃a len cap,v = .slice a len cap/\len = xs.length/\len <= cap/\(f = .full->cap = len)/\(a = none->cap = 0)/\(∃k,∀x ∈ xs,x.cells.length = k)/\
   (xs = []\/∃b p,a = some ⟨b,p,none⟩/\qW γ imm xs b p)
 | .nilfunc,v=>v = .nilFunc
 | .fn f as bs,v=>∃x y:Array Value,v = .func (.func f) x y/\qg γ imm as x.toList/\qg γ imm bs y.toList
 | .yld i,v=>∃b,γ i = some b/\v = .func (.yield b) #[] #[]
 | .niliface,v=>v = .nilIface
 | .iface t a,v=>∃x,v = .iface t x/\qC γ imm a x
 | .agg cs,v=>∃x:Array Value,v = .agg x/\qg γ imm cs x.toList
 | .tup cs,v=>∃x:Array Value,v = .tuple x/\qg γ imm cs x.toList
 | .sl i o len cap more,v=>∃b c,γ i = some b/\v = .slice (some ⟨b,o,none⟩) len c/\len <= cap/\cap <= c/\(more = 0->c = cap)/\(more ≠ 0->imm b (o + c * more) = some qdw)
 | .mp i,v=>∃b,γ i = some b/\v = .map (some b)
 | .nilmap,v=>v = .map none
 | .nils,v=>v = .slice none 0 0
 | .empt,v=>∃b,v = .slice (some b) 0 0
def qg (γ:Nat->Option Nat) (imm:Nat->Nat->Option Value):List qa->List Value->Prop
 | [],vs=>vs = []
 | a :: as,vs=>∃v rest,vs = v :: rest/\qC γ imm a v/\qg γ imm as rest
def qar (γ:Nat->Option Nat) (imm:Nat->Nat->Option Value):List qa->Nat->Nat->Prop
 | [],_,_=>True
 | c :: cs,b,p=>(∃v,imm b p = some v/\qC γ imm c v)/\qar γ imm cs b (p + 1)
def qW (γ:Nat->Option Nat) (imm:Nat->Nat->Option Value):List qa->Nat->Nat->Prop
 | [],_,_=>True
 | .agg cs :: xs,b,p=>qar γ imm cs b p/\qW γ imm xs b (p + cs.length)
 | x :: xs,b,p=>(∃v,imm b p = some v/\qC γ imm x v)/\qW γ imm xs b (p + 1)
end
theorem qcN {γ:Nat->Option Nat} {imm:Nat->Nat->Option Value} {x:qa} {v:Value} (h:qC γ imm x v):v ≠ qdw:=by
 rintro rfl
 cases x <;> simp only [qC,qdw] at h <;> first
  | exact h rfl
  | (cases h;done)
  | (obtain ⟨_,h⟩:=h;cases h;done)
  | (obtain ⟨_,h,_⟩:=h;cases h;done)
  | (obtain ⟨_,_,h⟩:=h;cases h;done)
  | (obtain ⟨_,_,h,_⟩:=h;cases h;done)
  | (obtain ⟨_,_,_,h,_⟩:=h;cases h;done)
theorem qsF {γ:Nat->Option Nat} {imm:Nat->Nat->Option Value} {x:qa} {v:Value} (h:qC γ imm x v):qC γ imm .undef v:=by
 simpa only [qC] using qcN h
abbrev qc.V (G:qc):qa->Value->Prop:=qC G.γ G.imm
abbrev qc.VL (G:qc):List qa->List Value->Prop:=qg G.γ G.imm
section
variable {γ:Nat->Option Nat} {imm:Nat->Nat->Option Value}
theorem qg.length:∀{as:List qa} {vs:List Value},qg γ imm as vs->as.length = vs.length
 | [],_,h=>by simp only [qg] at h;simp [h]
 | a :: as,vs,h=>by
  simp only [qg] at h
  obtain ⟨v,rest,rfl,_,hr⟩:=h
  simp [qg.length hr]
theorem qg.get:∀{as:List qa} {vs:List Value} {i:Nat} {a:qa},qg γ imm as vs->as[i]? = some a->∃v,vs[i]? = some v/\qC γ imm a v
 | [],_,i,a,_,h=>by simp at h
 | x :: as,vs,i,a,h,ha=>by
  simp only [qg] at h
  obtain ⟨v,rest,rfl,hv,hr⟩:=h
  cases i with
  | zero=>simp at ha;subst ha;exact ⟨v,rfl,hv⟩
  | succ i=>simp at ha;simpa using qg.get hr ha
theorem qg.get' {as:List qa} {vs:List Value} {i:Nat} {v:Value} (h:qg γ imm as vs) (hv:vs[i]? = some v):∃a,as[i]? = some a/\qC γ imm a v:=by
 have hl:=h.length
 have hi:i < as.length:=by rw [hl];exact (je.1 hv).1
 obtain ⟨w,hw,hr⟩:=h.get (ji hi)
 rw [hv] at hw;cases hw
 exact ⟨_,ji hi,hr⟩
theorem qg.append:∀{as:List qa} {vs:List Value} {bs:List qa} {ws:List Value},qg γ imm as vs->qg γ imm bs ws->qg γ imm (as ++ bs) (vs ++ ws)
 | [],_,_,_,h,k=>by simp only [qg] at h;subst h;simpa using k
 | a :: as,vs,_,_,h,k=>by
  simp only [qg] at h
  obtain ⟨v,rest,rfl,hv,hr⟩:=h
  simp only [jB,qg]
  exact ⟨v,_,rfl,hv,qg.append hr k⟩
theorem qg.take:∀{as:List qa} {vs:List Value} (n:Nat),qg γ imm as vs->qg γ imm (as.take n) (vs.take n)
 | [],_,n,h=>by simp only [qg] at h;subst h;simp [qg]
 | a :: as,vs,0,h=>by simp [qg]
 | a :: as,vs,n + 1,h=>by
  simp only [qg] at h
  obtain ⟨v,rest,rfl,hv,hr⟩:=h
  simp only [List.take_succ_cons,qg]
  exact ⟨v,_,rfl,hv,qg.take n hr⟩
theorem qg.drop:∀{as:List qa} {vs:List Value} (n:Nat),qg γ imm as vs->qg γ imm (as.drop n) (vs.drop n)
 | [],_,n,h=>by simp only [qg] at h;subst h;simp [qg]
 | a :: as,vs,0,h=>by simpa using h
 | a :: as,vs,n + 1,h=>by
  simp only [qg] at h
  obtain ⟨v,rest,rfl,hv,hr⟩:=h
  simpa using qg.drop n hr
theorem qg.set:∀{as:List qa} {vs:List Value} {a:qa} {v:Value} (i:Nat),qg γ imm as vs->qC γ imm a v->qg γ imm (as.set i a) (vs.set i v)
 | [],_,_,_,i,h,_=>by simp only [qg] at h;subst h;simp [qg]
 | x :: as,vs,a,v,0,h,k=>by
  simp only [qg] at h
  obtain ⟨v',rest,rfl,hv,hr⟩:=h
  simp only [List.set_cons_zero,qg]
  exact ⟨v,rest,rfl,k,hr⟩
 | x :: as,vs,a,v,i + 1,h,k=>by
  simp only [qg] at h
  obtain ⟨v',rest,rfl,hv,hr⟩:=h
  simp only [List.set_cons_succ,qg]
  exact ⟨v',_,rfl,hv,qg.set i hr k⟩
theorem qg.of_get {as:List qa} {vs:List Value} (hl:as.length = vs.length) (h:∀(i:Nat) (a:qa) (v:Value),as[i]? = some a->vs[i]? = some v->qC γ imm a v):qg γ imm as vs:=by
 induction as generalizing vs with
 | nil=>cases vs with
  | nil=>simp [qg]
  | cons v vs=>simp at hl
 | cons a as ih=>cases vs with
  | nil=>simp at hl
  | cons v vs=>
   simp only [qg]
   exact ⟨v,vs,rfl,h 0 a v rfl rfl,ih (by simpa using hl) λi x y hx hy=>h (i + 1) x y (by simpa using hx) (by simpa using hy)⟩
theorem qg.replicate (n:Nat) {a:qa} {v:Value} (h:qC γ imm a v):qg γ imm (List.replicate n a) (List.replicate n v):=by
 induction n with
 | zero=>simp [qg]
 | succ n ih=>simp only [List.replicate_succ,qg];exact ⟨v,_,rfl,h,ih⟩
theorem qcW {a:qa} {v:Value} (h:qC γ imm a v):qC γ imm a.dim v:=by
 cases a <;> try exact h
 rename_i xs f
 cases f <;> try exact h
 simp only [qa.dim,qC] at h ⊢
 obtain ⟨a,len,cap,rfl,h1,h2,_,h4,h6,h5⟩:=h
 exact ⟨a,len,cap,rfl,h1,h2,by simp,h4,h6,h5⟩
theorem qjj {xs:List qa} {f:qgh} {v:Value} (h:qC γ imm (.lst xs f) v):qC γ imm (.lst xs .no) v:=by
 simp only [qC] at h ⊢
 obtain ⟨a,len,cap,rfl,h1,h2,_,h4,h6,h5⟩:=h
 exact ⟨a,len,cap,rfl,h1,h2,by simp,h4,h6,h5⟩
theorem qg.dims:∀{as:List qa} {vs:List Value},qg γ imm as vs->qg γ imm (as.map qa.dim) vs
 | [],_,h=>h
 | a :: as,vs,h=>by
  simp only [qg] at h
  obtain ⟨v,rest,rfl,hv,hr⟩:=h
  simp only [List.map_cons,qg]
  exact ⟨v,rest,rfl,qcW hv,qg.dims hr⟩
theorem qar.get:∀{cs:List qa} {b p i:Nat} {c:qa},qar γ imm cs b p->cs[i]? = some c->∃v,imm b (p + i) = some v/\qC γ imm c v
 | [],_,_,i,c,_,h=>by simp at h
 | x :: cs,b,p,i,c,h,hc=>by
  simp only [qar] at h
  cases i with
  | zero=>simp at hc;subst hc;simpa using h.1
  | succ i=>
   simp at hc
   have:=qar.get h.2 hc
   rwa [jx,jy 1 i] at this
theorem qar.of_get {cs:List qa} {b p:Nat} (h:∀(i:Nat) (c:qa),cs[i]? = some c->∃v,imm b (p + i) = some v/\qC γ imm c v):qar γ imm cs b p:=by
 induction cs generalizing p with
 | nil=>simp [qar]
 | cons c cs ih=>
  simp only [qar]
  refine ⟨by simpa using h 0 c rfl,ih λi x hx=>?_⟩
  have:=h (i + 1) x (by simpa using hx)
  rwa [jy i 1,<-jx] at this
theorem qW.cons {x:qa} {xs:List qa} {b p:Nat} (h:qar γ imm x.cells b p) (hs:qW γ imm xs b (p + x.cells.length)):qW γ imm (x :: xs) b p:=by
 cases x <;> simp only [qa.cells,qar,jD,jE] at h hs <;> simp only [qW] <;> first | exact ⟨h,hs⟩ | exact ⟨h.1,hs⟩
theorem qW.uncons {x:qa} {xs:List qa} {b p:Nat} (h:qW γ imm (x :: xs) b p):qar γ imm x.cells b p/\qW γ imm xs b (p + x.cells.length):=by
 cases x <;> simp only [qW] at h <;> simp only [qa.cells,qar,jD,jE] <;> first | exact h | exact ⟨⟨h.1,trivial⟩,h.2⟩
theorem qW.append {xs ys:List qa} {b p k:Nat} (hk:∀x ∈ xs,x.cells.length = k) (h:qW γ imm xs b p) (h':qW γ imm ys b (p + xs.length * k)):qW γ imm (xs ++ ys) b p:=by
 induction xs generalizing p with
 | nil=>simpa using h'
 | cons x xs ih=>
  obtain ⟨h1,h2⟩:=h.uncons
  rw [hk x (by simp)] at h2
  refine qW.cons h1 ?_
  rw [hk x (by simp)]
  refine ih (λy hy=>hk y (by simp [hy])) h2 ?_
  simp only [jD,Nat.add_mul,Nat.one_mul] at h'
  rwa [jx,jy k]
theorem qW.get {xs:List qa} {b p k i:Nat} {x:qa} (hk:∀x ∈ xs,x.cells.length = k) (h:qW γ imm xs b p) (hx:xs[i]? = some x):qar γ imm x.cells b (p + i * k):=by
 induction xs generalizing p i with
 | nil=>simp at hx
 | cons y xs ih=>
  obtain ⟨h1,h2⟩:=h.uncons
  cases i with
  | zero=>simp at hx;subst hx;simpa using h1
  | succ i=>
   simp at hx
   rw [hk y (by simp)] at h2
   have:=ih (λz hz=>hk z (by simp [hz])) h2 hx
   rwa [Nat.add_mul,Nat.one_mul,jy (i * k),<-jx]
theorem qW.drop {xs:List qa} {b p k:Nat} (hk:∀x ∈ xs,x.cells.length = k) (h:qW γ imm xs b p) (l:Nat) (hl:l <= xs.length):qW γ imm (xs.drop l) b (p + l * k):=by
 induction xs generalizing p l with
 | nil=>simp [qW]
 | cons y xs ih=>
  obtain ⟨h1,h2⟩:=h.uncons
  cases l with
  | zero=>simpa using h
  | succ l=>
   rw [hk y (by simp)] at h2
   have:=ih (λz hz=>hk z (by simp [hz])) h2 l (by simpa using hl)
   simp only [List.drop_succ_cons]
   rwa [Nat.add_mul,Nat.one_mul,jy (l * k),<-jx]
theorem qW.take {xs:List qa} {b p:Nat} (h:qW γ imm xs b p) (l:Nat):qW γ imm (xs.take l) b p:=by
 induction xs generalizing p l with
 | nil=>simp [qW]
 | cons y xs ih=>
  cases l with
  | zero=>simp [qW]
  | succ l=>
   obtain ⟨h1,h2⟩:=h.uncons
   exact qW.cons h1 (ih h2 l)
end
mutual
theorem qb0 {n m:Nat} (B:n <= m):∀(a:qa),a.lower n = true->a.lower m = true
 | .undef,_=>rfl
 | .bool _,_=>rfl
 | .int _ _,_=>rfl
 | .str _,_=>rfl
 | .nilptr,_=>rfl
 | .ptr i o,h=>by simp only [qa.lower,Nat.blt_eq] at h ⊢;omega
 | .iptr cs o,h=>by simp only [qa.lower] at h ⊢;exact qa0 B cs h
 | .lst xs f,h=>by simp only [qa.lower] at h ⊢;exact qa0 B xs h
 | .nilfunc,_=>rfl
 | .fn f as bs,h=>by simp only [qa.lower,jm] at h ⊢;exact ⟨qa0 B as h.1,qa0 B bs h.2⟩
 | .yld i,h=>by simp only [qa.lower,Nat.blt_eq] at h ⊢;omega
 | .niliface,_=>rfl
 | .iface t a,h=>by simp only [qa.lower] at h ⊢;exact qb0 B a h
 | .agg cs,h=>by simp only [qa.lower] at h ⊢;exact qa0 B cs h
 | .tup cs,h=>by simp only [qa.lower] at h ⊢;exact qa0 B cs h
 | .sl i _ _ _ _,h=>by simp only [qa.lower,Nat.blt_eq] at h ⊢;omega
 | .mp i,h=>by simp only [qa.lower,Nat.blt_eq] at h ⊢;omega
 | .nilmap,_=>rfl
 | .nils,_=>rfl
 | .empt,_=>rfl
theorem qa0 {n m:Nat} (B:n <= m):∀(as:List qa),qr n as = true->qr m as = true
 | [],_=>rfl
 | a :: as,h=>by simp only [qr,jm] at h ⊢;exact ⟨qb0 B a h.1,qa0 B as h.2⟩
end
mutual
theorem lower_ex:∀(a:qa),∃n,a.lower n = true
 | .undef=>⟨0,rfl⟩
 | .bool _=>⟨0,rfl⟩
 | .int _ _=>⟨0,rfl⟩
 | .str _=>⟨0,rfl⟩
 | .nilptr=>⟨0,rfl⟩
 | .ptr i o=>⟨i + 1,by simp [qa.lower]⟩
 | .iptr cs o=>by obtain ⟨n,h⟩:=qay cs;exact ⟨n,by simpa [qa.lower] using h⟩
 | .lst xs f=>by obtain ⟨n,h⟩:=qay xs;exact ⟨n,by simpa [qa.lower] using h⟩
 | .nilfunc=>⟨0,rfl⟩
 | .fn f as bs=>by
  obtain ⟨n,h⟩:=qay as
  obtain ⟨m,k⟩:=qay bs
  exact ⟨max n m,by simp only [qa.lower,jm];exact ⟨qa0 zo as h,qa0 zo bs k⟩⟩
 | .yld i=>⟨i + 1,by simp [qa.lower]⟩
 | .niliface=>⟨0,rfl⟩
 | .iface t a=>by obtain ⟨n,h⟩:=lower_ex a;exact ⟨n,by simpa [qa.lower] using h⟩
 | .agg cs=>by obtain ⟨n,h⟩:=qay cs;exact ⟨n,by simpa [qa.lower] using h⟩
 | .tup cs=>by obtain ⟨n,h⟩:=qay cs;exact ⟨n,by simpa [qa.lower] using h⟩
 | .sl i _ _ _ _=>⟨i + 1,by simp [qa.lower]⟩
 | .mp i=>⟨i + 1,by simp [qa.lower]⟩
 | .nilmap=>⟨0,rfl⟩
 | .nils=>⟨0,rfl⟩
 | .empt=>⟨0,rfl⟩
theorem qay:∀(as:List qa),∃n,qr n as = true
 | []=>⟨0,rfl⟩
 | a :: as=>by
  obtain ⟨n,h⟩:=lower_ex a
  obtain ⟨m,k⟩:=qay as
  exact ⟨max n m,by simp only [qr,jm];exact ⟨qb0 zo a h,qa0 zo as k⟩⟩
end
mutual
theorem qC.mono {γ I:Nat->Option Nat} {imm E:Nat->Nat->Option Value} (hi:∀b o v,imm b o = some v->E b o = some v) (n:Nat) (B:∀i b,i < n->γ i = some b->I i = some b) :
  ∀(a:qa) (v:Value),a.lower n = true->qC γ imm a v->qC I E a v
 | .undef,v,_,h=>by simpa [qC] using h
 | .bool b,v,_,h=>by simpa [qC] using h
 | .int k m,v,_,h=>by simpa [qC] using h
 | .str s,v,_,h=>by simpa [qC] using h
 | .nilptr,v,_,h=>by simpa [qC] using h
 | .ptr i o,v,hl,h=>by
  simp only [qa.lower,Nat.blt_eq] at hl
  simp only [qC] at h ⊢
  obtain ⟨b,hb,rfl⟩:=h
  exact ⟨b,B i b hl hb,rfl⟩
 | .iptr cs o,v,hl,h=>by
  simp only [qa.lower] at hl
  simp only [qC] at h ⊢
  obtain ⟨b,p,rfl,hc⟩:=h
  exact ⟨b,p,rfl,qar.mono hi n B cs b p hl hc⟩
 | .lst xs f,v,hl,h=>by
  simp only [qa.lower] at hl
  simp only [qC] at h ⊢
  obtain ⟨a,len,cap,rfl,h1,h2,h3,h4,h6,h5⟩:=h
  refine ⟨a,len,cap,rfl,h1,h2,h3,h4,h6,?_⟩
  rcases h5 with h5 | ⟨b,p,rfl,he⟩
  ·exact .inl h5
  ·exact .inr ⟨b,p,rfl,qW.mono hi n B xs b p hl he⟩
 | .nilfunc,v,_,h=>by simpa [qC] using h
 | .fn f as bs,v,hl,h=>by
  simp only [qa.lower,jm] at hl
  simp only [qC] at h ⊢
  obtain ⟨x,y,rfl,h1,h2⟩:=h
  exact ⟨x,y,rfl,qg.mono hi n B as _ hl.1 h1,qg.mono hi n B bs _ hl.2 h2⟩
 | .yld i,v,hl,h=>by
  simp only [qa.lower,Nat.blt_eq] at hl
  simp only [qC] at h ⊢
  obtain ⟨b,hb,rfl⟩:=h
  exact ⟨b,B i b hl hb,rfl⟩
 | .niliface,v,_,h=>by simpa [qC] using h
 | .iface t a,v,hl,h=>by
  simp only [qa.lower] at hl
  simp only [qC] at h ⊢
  obtain ⟨x,rfl,h1⟩:=h
  exact ⟨x,rfl,qC.mono hi n B a x hl h1⟩
 | .agg cs,v,hl,h=>by
  simp only [qa.lower] at hl
  simp only [qC] at h ⊢
  obtain ⟨x,rfl,h1⟩:=h
  exact ⟨x,rfl,qg.mono hi n B cs _ hl h1⟩
 | .tup cs,v,hl,h=>by
  simp only [qa.lower] at hl
  simp only [qC] at h ⊢
  obtain ⟨x,rfl,h1⟩:=h
  exact ⟨x,rfl,qg.mono hi n B cs _ hl h1⟩
 | .sl i o len cap more,v,hl,h=>by
  simp only [qa.lower,Nat.blt_eq] at hl
  simp only [qC] at h ⊢
  obtain ⟨b,c,hb,h1,h2,h3,h4,h5⟩:=h
  exact ⟨b,c,B i b hl hb,h1,h2,h3,h4,λhm=>hi _ _ _ (h5 hm)⟩
 | .mp i,v,hl,h=>by
  simp only [qa.lower,Nat.blt_eq] at hl
  simp only [qC] at h ⊢
  obtain ⟨b,hb,rfl⟩:=h
  exact ⟨b,B i b hl hb,rfl⟩
 | .nilmap,v,_,h=>by simpa [qC] using h
 | .nils,v,_,h=>by simpa [qC] using h
 | .empt,v,_,h=>by simpa [qC] using h
theorem qg.mono {γ E:Nat->Option Nat} {imm B:Nat->Nat->Option Value} (hi:∀b o v,imm b o = some v->B b o = some v) (n:Nat) (I:∀i b,i < n->γ i = some b->E i = some b) :
  ∀(as:List qa) (vs:List Value),qr n as = true->qg γ imm as vs->qg E B as vs
 | [],vs,_,h=>by simpa [qg] using h
 | a :: as,vs,hl,h=>by
  simp only [qr,jm] at hl
  simp only [qg] at h ⊢
  obtain ⟨v,rest,rfl,h1,h2⟩:=h
  exact ⟨v,rest,rfl,qC.mono hi n I a v hl.1 h1,qg.mono hi n I as rest hl.2 h2⟩
theorem qar.mono {γ E:Nat->Option Nat} {imm B:Nat->Nat->Option Value} (hi:∀b o v,imm b o = some v->B b o = some v) (n:Nat) (I:∀i b,i < n->γ i = some b->E i = some b) :
  ∀(cs:List qa) (b p:Nat),qr n cs = true->qar γ imm cs b p->qar E B cs b p
 | [],_,_,_,_=>by simp [qar]
 | c :: cs,b,p,hl,h=>by
  simp only [qr,jm] at hl
  simp only [qar] at h ⊢
  obtain ⟨⟨v,h1,h2⟩,h3⟩:=h
  exact ⟨⟨v,hi _ _ _ h1,qC.mono hi n I c v hl.1 h2⟩,qar.mono hi n I cs b (p + 1) hl.2 h3⟩
theorem qW.mono {γ I:Nat->Option Nat} {imm B:Nat->Nat->Option Value} (hi:∀b o v,imm b o = some v->B b o = some v) (n:Nat) (E:∀i b,i < n->γ i = some b->I i = some b) :
  ∀(xs:List qa) (b p:Nat),qr n xs = true->qW γ imm xs b p->qW I B xs b p
 | [],_,_,_,_=>by simp [qW]
 | x :: xs,b,p,hl,h=>by
  simp only [qr,jm] at hl
  obtain ⟨hx,J⟩:=h.uncons
  refine qW.cons ?_ (qW.mono hi n E xs b _ hl.2 J)
  cases x with
  | agg cs=>simp only [qa.cells] at hx ⊢;simp only [qa.lower] at hl;exact qar.mono hi n E cs b p hl.1 hx
  | _=>
   simp only [qa.cells,qar] at hx ⊢
   obtain ⟨⟨v,h1,h2⟩,_⟩:=hx
   exact ⟨⟨v,hi _ _ _ h1,qC.mono hi n E _ v hl.1 h2⟩,trivial⟩
end
def qsU (G:qc) (w:World) (ℓ:Loc) (k:Nat) (v:Value):Prop:=
 ∃b p len cap c e,v = .slice (some ⟨b,p,none⟩) len cap/\G.ow b = some ℓ/\w.heap[b]? = some (.cells c e (0,0))/\len <= cap/\p + cap * k <= c.size/\
  ∀j,p + len * k <= j->G.imm b j = none
def qk2:LSt->LoopState->Prop
 | .ready,.ready | .busy,.busy | .done,.done | .exhausted,.exhausted=>True
 | _,_=>False
def qkO:Option qzP->Option Code->Prop
 | none,none=>True
 | some .ret,some .ret=>True
 | some (.exit i),some (.exit j)=>i = j
 | _,_=>False
section
variable (P:Program) (gl:Nat->Option (List qa))
structure qgi (G:qc) (t:List qa) (ps:List Nat) (asg body:qG) (st:LSt) (pend:Option qzP) (L:Loop):Prop where
 tmps:G.VL t L.tmps.toList
 dims:∀a ∈ t,a.dim = a
 ps:L.params.toList = ps
 asg:comp P gl L.assign = some asg
 body:comp P gl L.body = some body
 st:qk2 st L.state
 pend:qkO pend L.pending
def qae (G:qc):List (Nat×qa×qa)->List MapEntry->Prop
 | [],es=>es = []
 | x :: xs,es=>∃e rest,es = e :: rest/\e.born = x.1/\G.V x.2.1 e.key/\G.V x.2.2 e.val/\qae G xs rest
def qgg (G:qc) (w:World) (id:Nat) (bx:qb) (b:Nat):Prop:=
 match bx with
 | .cells cs=>∃c e,w.heap[b]? = some (.cells c e (0,0))/\G.VL cs (c.toList.take cs.length)/\
   ∀(o:Nat) (xs:List qa) (k:Nat) (v:Value),cs[o]? = some (.lst xs (.own k))->c[o]? = some v->qsU G w (.cell id o) k v
 | .loop t ps asg body st pend=>∃L,w.heap[b]? = some (.loop L)/\qgi P gl G t ps asg body st pend L
 | .map es clock=>∃me:Array MapEntry,w.heap[b]? = some (.map me clock)/\qae G es me.toList
 | .iter m since seen last=>∃mm,w.heap[b]? = some (.mapIter mm since seen.toArray last)/\G.V m (.map mm)
 | .dead=>True
structure Rel (G:qc) (h:List qb) (w:World):Prop where
 γlt:∀i b,G.γ i = some b->i < h.length/\b < w.heap.size
 inj:∀i j b,G.γ i = some b->G.γ j = some b->i = j\/h[i]? = some .dead\/h[j]? = some .dead
 box:∀i b bx,G.γ i = some b->h[i]? = some bx->qgg P gl G w i bx b
 imm:∀b o v,G.imm b o = some v->v ≠ qdw->w.cell? ⟨b,o,none⟩ = some v/\b < w.heap.size
 immγ:∀b o v i,G.imm b o = some v->v ≠ qdw->G.γ i = some b->h[i]? = some .dead
 immK:∀b o,G.imm b o = some qdw->0 < o/\∃c e,w.heap[b]? = some (.cells c e (0,0))/\o = c.size
 ow:∀b ℓ,G.ow b = some ℓ->b < w.heap.size/\∀i,G.γ i ≠ some b
 glob:∀g cs,gl g = some cs->qar G.γ G.imm cs g 0/\qr 0 cs = true
structure qaV (G:qc) (w:World) (t:List qa) (ts:Array Value):Prop where
 rel:G.VL t ts.toList
 own:∀(i:Nat) (xs:List qa) (k:Nat) (v:Value),t[i]? = some (.lst xs (.own k))->ts[i]? = some v->qsU G w (.tmp i) k v
end
def qcS (G:qc) (b:Nat):Prop:=(∀i,G.γ i ≠ some b)/\G.ow b = none
structure Ext (n:Nat) (G:qc) (w:World) (G':qc) (w':World):Prop where
 gk:∀i b,G.γ i = some b->G'.γ i = some b
 gn:∀i b,G'.γ i = some b->G.γ i = some b\/(n <= i/\(w.heap.size <= b\/∃j,G.γ j = some b))
 ik:∀b o v,G.imm b o = some v->G'.imm b o = some v
 inew:∀b o v,G'.imm b o = some v->G.imm b o = some v\/w.heap.size <= b\/G.ow b ≠ none\/∃i,G.γ i = some b
 on:∀b,G'.ow b ≠ none->G.ow b ≠ none\/w.heap.size <= b
 size:w.heap.size <= w'.heap.size
 heap:∀b,b < w.heap.size->qcS G b->w'.heap[b]? = w.heap[b]?
 loops:∀(b:Nat) (L:Loop),w.heap[b]? = some (.loop L)->∃L':Loop,w'.heap[b]? = some (.loop L')/\L'.fn = L.fn/\L'.tmps = L.tmps/\L'.params = L.params/\L'.assign = L.assign/\L'.body = L.body/\L'.defers = L.defers
 os:w'.os = w.os
 tape:w'.tape = w.tape
 output:w'.output = w.output
theorem Ext.refl (n:Nat) (G:qc) (w:World):Ext n G w G w:=
 ⟨λ_ _ h=>h,λ_ _ h=>.inl h,λ_ _ _ h=>h,λ_ _ _ h=>.inl h,λ_ h=>.inl h,jo _,λ_ _ _=>rfl,
  λ_ L h=>⟨L,h,rfl,rfl,rfl,rfl,rfl,rfl⟩,rfl,rfl,rfl⟩
theorem Ext.trans {n m:Nat} {G G' E:qc} {w w' B:World} (I:n <= m) (h:Ext n G w G' w') (k:Ext m G' w' E B):Ext n G w E B where
 gk i b hb:=k.gk i b (h.gk i b hb)
 gn i b hb:=by
  rcases k.gn i b hb with hb | ⟨h1,h2⟩
  ·exact h.gn i b hb
  ·refine .inr ⟨jp I h1,?_⟩
   rcases h2 with h2 | ⟨j,h2⟩
   ·exact .inl (jp h.size h2)
   ·rcases h.gn j b h2 with h3 | ⟨_,h3⟩
    ·exact .inr ⟨j,h3⟩
    ·exact h3
 ik b o v hv:=k.ik b o v (h.ik b o v hv)
 inew b o v hv:=by
  rcases k.inew b o v hv with hv | hv | hv | ⟨i,hv⟩
  ·exact h.inew b o v hv
  ·exact .inr (.inl (jp h.size hv))
  ·rcases h.on b hv with h1 | h1
   ·exact .inr (.inr (.inl h1))
   ·exact .inr (.inl h1)
  ·rcases h.gn i b hv with h1 | ⟨_,h1 | ⟨j,h1⟩⟩
   ·exact .inr (.inr (.inr ⟨i,h1⟩))
   ·exact .inr (.inl h1)
   ·exact .inr (.inr (.inr ⟨j,h1⟩))
 on b hb:=by
  rcases k.on b hb with hb | hb
  ·exact h.on b hb
  ·exact .inr (jp h.size hb)
 size:=jp h.size k.size
 heap b hb hf:=by
  have J:qcS G' b:=by
   refine ⟨λi hi=>?_,?_⟩
   ·rcases h.gn i b hi with h1 | ⟨_,h1 | ⟨j,h1⟩⟩
    ·exact hf.1 i h1
    ·omega
    ·exact hf.1 j h1
   ·cases ho:G'.ow b with
    | none=>rfl
    | some ℓ=>
     rcases h.on b (by simp [ho]) with h1 | h1
     ·exact absurd hf.2 h1
     ·omega
  rw [k.heap b (jq hb h.size) J,h.heap b hb hf]
 loops b L hL:=by
  obtain ⟨L',h1,h2,h3,h4,h5,h6,h7⟩:=h.loops b L hL
  obtain ⟨M,k1,k2,k3,k4,k5,k6,k7⟩:=k.loops b L' h1
  exact ⟨M,k1,k2.trans h2,k3.trans h3,k4.trans h4,k5.trans h5,k6.trans h6,k7.trans h7⟩
 os:=k.os.trans h.os
 tape:=k.tape.trans h.tape
 output:=k.output.trans h.output
theorem Ext.weaken {n m:Nat} {G G':qc} {w w':World} (B:n <= m) (h:Ext m G w G' w'):Ext n G w G' w':=(Ext.refl n G w).trans B h
theorem Ext.drew {n:Nat} {G G':qc} {w w':World} (h:Ext n G w G' w') (d:Nat):Ext n G w G' { w' with drawn:=d}:=
 ⟨h.gk,h.gn,h.ik,h.inew,h.on,h.size,h.heap,h.loops,h.os,h.tape,h.output⟩
section
variable {P:Program} {gl:Nat->Option (List qa)} {G G':qc} {w w':World} {h:List qb} {t:List qa} {ts:Array Value}
theorem qsU.keep {ℓ:Loc} {k:Nat} {v:Value} (ho:qsU G w ℓ k v) (B:∀b,G.ow b = some ℓ->G'.ow b = some ℓ) (hh:∀b,G.ow b = some ℓ->w'.heap[b]? = w.heap[b]?)
  (hi:∀b j,G.ow b = some ℓ->G.imm b j = none->G'.imm b j = none):qsU G' w' ℓ k v:=by
 obtain ⟨b,p,len,cap,c,e,rfl,h1,h2,h3,h4,h5⟩:=ho
 exact ⟨b,p,len,cap,c,e,rfl,B b h1,by rw [hh b h1];exact h2,h3,h4,λj hj=>hi b j h1 (h5 j hj)⟩
theorem Rel.imm_lt (hr:Rel P gl G h w) {b o:Nat} {v:Value} (hv:G.imm b o = some v):b < w.heap.size:=by
 by_cases hm:v = qdw
 ·subst hm
  obtain ⟨_,c,e,h1,_⟩:=hr.immK b o hv
  exact (jf.1 h1).1
 ·exact (hr.imm b o v hv hm).2
theorem Rel.of_drew (hr:Rel P gl G h w) (d:Nat):Rel P gl G h { w with drawn:=d}:=
 ⟨hr.γlt,hr.inj,hr.box,hr.imm,hr.immγ,hr.immK,hr.ow,hr.glob⟩
theorem qaV.of_drew (hr:qaV G w t ts) (d:Nat):qaV G { w with drawn:=d} t ts:=⟨hr.rel,hr.own⟩
theorem qaV.length (hr:qaV G w t ts):t.length = ts.size:=by simpa using hr.rel.length
theorem qaV.get (hr:qaV G w t ts) (i:Nat):G.V (t.getD i .undef) (ts.getD i undef):=by
 by_cases hi:i < t.length
 ·obtain ⟨v,hv,E⟩:=hr.rel.get (ji hi)
  have B:i < ts.size:=by rw [<-hr.length];exact hi
  have e1:ts.getD i undef = v:=by
   simp only [Array.getElem?_toList] at hv
   simp [Array.getD,B,(jf.1 hv).2]
  rw [e1]
  simpa [List.getD,ji hi] using E
 ·have B:¬ i < ts.size:=by rw [<-hr.length];exact hi
  simp [List.getD,jt (Nat.le_of_not_lt hi),qC,Array.getD,B,undef,qdw]
theorem qaV.put (hr:qaV G w t ts) (dst:Option Nat) {a:qa} {v:Value} (hv:G.V a v) (hd:a.dim = a) (ds:List Deferred) :
  qaV G w (put dst a t) ((({ tmps:=ts,defers:=ds}:Act).put dst v).tmps):=by
 cases dst with
 | none=>exact hr
 | some d=>
  refine ⟨by simpa [AE.put,Act.put] using hr.rel.set d hv,λi xs k u hi hu=>?_⟩
  simp only [AE.put,Act.put] at hi hu
  by_cases e:d = i
  ·subst e
   rw [List.getElem?_set] at hi
   split at hi
   ·split at hi
    ·simp only [jl] at hi;subst hi;simp [qa.dim] at hd
    ·cases hi
   ·rename_i B;exact absurd rfl B
  ·rw [jg e] at hi
   rw [Array.getElem?_setIfInBounds_ne e] at hu
   exact hr.own i xs k u hi hu
end
theorem qaa (w:World) (o:Obj) {b:Nat} (hb:b < w.heap.size):(w.alloc o).heap[b]? = w.heap[b]?:=by
 simp only [World.alloc]
 rw [Array.getElem?_push,if_neg zo]
theorem qax (w:World) (o:Obj):(w.alloc o).heap[w.heap.size]? = some o:=by
 show (w.heap.push o)[w.heap.size]? = some o
 simp
theorem qbL {w w':World} {a:Addr} (h:w'.heap[a.block]? = w.heap[a.block]?):w'.cell? a = w.cell? a:=by
 simp only [World.cell?,h]
section
variable {P:Program} {gl:Nat->Option (List qa)} {G G':qc} {w w':World} {h:List qb} {t:List qa} {ts:Array Value}
theorem qgR {n m:Nat} (B:n <= m):∀{es:List (Nat×qa×qa)},qbg n es = true->qbg m es = true
 | [],_=>rfl
 | x :: xs,h=>by
  simp only [qbg,jm] at h ⊢
  exact ⟨⟨qb0 B _ h.1.1,qb0 B _ h.1.2⟩,qgR B h.2⟩
theorem qcA:∀es:List (Nat×qa×qa),∃n,qbg n es = true
 | []=>⟨0,rfl⟩
 | x :: xs=>by
  obtain ⟨a,ha⟩:=lower_ex x.2.1
  obtain ⟨b,hb⟩:=lower_ex x.2.2
  obtain ⟨c,hc⟩:=qcA xs
  refine ⟨max a (max b c),?_⟩
  simp only [qbg,jm]
  exact ⟨⟨qb0 zo _ ha,qb0 zo _ hb⟩,qgR zo hc⟩
theorem qae.mono (hi:∀b o v,G.imm b o = some v->G'.imm b o = some v) (n:Nat) (B:∀i b,i < n->G.γ i = some b->G'.γ i = some b) :
  ∀{xs:List (Nat×qa×qa)} {es:List MapEntry},qbg n xs = true->qae G xs es->qae G' xs es
 | [],_,_,h=>h
 | x :: xs,es,hl,h=>by
  simp only [qbg,jm] at hl
  simp only [qae] at h ⊢
  obtain ⟨e,rest,rfl,h1,h2,h3,h4⟩:=h
  exact ⟨e,rest,rfl,h1,qC.mono hi n B _ _ hl.1.1 h2,qC.mono hi n B _ _ hl.1.2 h3,qae.mono hi n B hl.2 h4⟩
theorem qb.lower_ex (bx:qb):∃n,bx.lower n = true:=by
 cases bx with
 | cells cs=>exact qay cs
 | loop t _ _ _ _ _=>exact qay t
 | map es _=>exact qcA es
 | iter m _ _ _=>exact AE.lower_ex m
 | dead=>exact ⟨0,rfl⟩
theorem qeS {γ:Nat->Option Nat} {imm:Nat->Nat->Option Value} {cs:List qa} {l:List Value} {o:Nat} {x:qa} (h:qg γ imm cs (l.take cs.length)) (hx:cs[o]? = some x):∃v,l[o]? = some v/\qC γ imm x v:=by
 obtain ⟨v,hv,hr⟩:=h.get hx
 rw [List.getElem?_take_of_lt (je.1 hx).1] at hv
 exact ⟨v,hv,hr⟩
theorem qeT {γ:Nat->Option Nat} {imm:Nat->Nat->Option Value} {cs:List qa} {l:List Value} (h:qg γ imm cs (l.take cs.length)):cs.length <= l.length:=by
 have:=h.length
 simp at this
 omega
theorem qeR {γ:Nat->Option Nat} {imm:Nat->Nat->Option Value} {cs:List qa} {l:List Value} (h:qg γ imm cs l):qg γ imm cs (l.take cs.length):=by
 rw [h.length,List.take_length];exact h
theorem qdT {h:List qb} {i id:Nat} {bx B:qb} (hid:h[id]? = some bx) (hb:bx ≠ .dead) (hi:h[i]? = some .dead):(h.set id B)[i]? = some .dead:=by
 rw [jg]
 ·exact hi
 ·rintro rfl
  rw [hid] at hi
  cases hi
  exact hb rfl
theorem qkk {h:List qb} {γ:Nat->Option Nat} {id:Nat} {bx B:qb} (hj:∀i j b,γ i = some b->γ j = some b->i = j\/h[i]? = some .dead\/h[j]? = some .dead) (hid:h[id]? = some bx) (hb:bx ≠ .dead) :
  ∀i j b,γ i = some b->γ j = some b->i = j\/(h.set id B)[i]? = some .dead\/(h.set id B)[j]? = some .dead:=λi j b hi hk=>by
 rcases hj i j b hi hk with h1 | h1 | h1
 ·exact .inl h1
 ·exact .inr (.inl (qdT hid hb h1))
 ·exact .inr (.inr (qdT hid hb h1))
theorem qgg.keep {id b n:Nat} {bx:qb} (hb:qgg P gl G w id bx b) (hl:bx.lower n = true) (hi:∀b o v,G.imm b o = some v->G'.imm b o = some v)
  (B:∀i b,i < n->G.γ i = some b->G'.γ i = some b) (hh:w'.heap[b]? = w.heap[b]?) (E:∀b o,G.ow b = some (.cell id o)->G'.ow b = some (.cell id o))
  (J:∀b o,G.ow b = some (.cell id o)->w'.heap[b]? = w.heap[b]?) (I:∀b j o,G.ow b = some (.cell id o)->G.imm b j = none->G'.imm b j = none):qgg P gl G' w' id bx b:=by
 cases bx with
 | cells cs=>
  obtain ⟨c,e,h1,h2,h3⟩:=hb
  exact ⟨c,e,by rw [hh];exact h1,qg.mono hi n B cs _ hl h2,λo xs k v ho hv=>(h3 o xs k v ho hv).keep (λb hb=>E b o hb) (λb hb=>J b o hb) (λb j hb=>I b j o hb)⟩
 | loop t ps asg body st pend=>
  obtain ⟨L,h1,h2⟩:=hb
  exact ⟨L,by rw [hh];exact h1,{ h2 with tmps:=qg.mono hi n B t _ hl h2.tmps}⟩
 | map es clock=>
  obtain ⟨me,h1,h2⟩:=hb
  exact ⟨me,by rw [hh];exact h1,qae.mono hi n B hl h2⟩
 | iter m since seen last=>
  obtain ⟨mm,h1,h2⟩:=hb
  exact ⟨mm,by rw [hh];exact h1,qC.mono hi n B _ _ hl h2⟩
 | dead=>trivial
theorem Rel.alloc (hr:Rel P gl G h w) (o:Obj):Rel P gl G h (w.alloc o) where
 γlt i b hb:=⟨(hr.γlt i b hb).1,by have:=(hr.γlt i b hb).2;simp;omega⟩
 inj:=hr.inj
 box i b bx hb hx:=by
  have hlt:=(hr.γlt i b hb).2
  have B:=hr.box i b bx hb hx
  have key:∀b',b' < w.heap.size->(w.alloc o).heap[b']? = w.heap[b']?:=λb' B=>qaa w o B
  cases bx with
  | cells cs=>
   obtain ⟨c,e,h1,h2,h3⟩:=B
   exact ⟨c,e,by rw [key b hlt];exact h1,h2,λo' xs k v ho hv=>(h3 o' xs k v ho hv).keep (λ_ h=>h) (λb hb=>key b (hr.ow b _ hb).1) (λ_ _ _ h=>h)⟩
  | loop t ps asg body st pend=>
   obtain ⟨L,h1,h2⟩:=B
   exact ⟨L,by rw [key b hlt];exact h1,h2⟩
  | map es clock=>
   obtain ⟨me,h1,h2⟩:=B
   exact ⟨me,by rw [key b hlt];exact h1,h2⟩
  | iter m since seen last=>
   obtain ⟨mm,h1,h2⟩:=B
   exact ⟨mm,by rw [key b hlt];exact h1,h2⟩
  | dead=>trivial
 imm b o' v hv:=by
  intro hm
  obtain ⟨h1,h2⟩:=hr.imm b o' v hv hm
  exact ⟨(qbL (qaa w o h2)).trans h1,by simp;omega⟩
 immγ:=hr.immγ
 immK b o' hv:=by
  obtain ⟨h0,c,e,h1,h2⟩:=hr.immK b o' hv
  exact ⟨h0,c,e,by rw [qaa w o (jf.1 h1).1];exact h1,h2⟩
 ow b ℓ hb:=⟨by have:=(hr.ow b ℓ hb).1;simp;omega,(hr.ow b ℓ hb).2⟩
 glob:=hr.glob
theorem qaV.alloc (hr:Rel P gl G h w) (ht:qaV G w t ts) (o:Obj):qaV G (w.alloc o) t ts:=
 ⟨ht.rel,λi xs k v hi hv=>(ht.own i xs k v hi hv).keep (λ_ h=>h) (λb hb=>qaa w o (hr.ow b _ hb).1) (λ_ _ _ h=>h)⟩
theorem Ext.alloc (n:Nat) (G:qc) (w:World) (o:Obj):Ext n G w G (w.alloc o):=
 ⟨λ_ _ h=>h,λ_ _ h=>.inl h,λ_ _ _ h=>h,λ_ _ _ h=>.inl h,λ_ h=>.inl h,by simp,λb hb _=>qaa w o hb,
  λb L hL=>⟨L,by rw [qaa w o (jf.1 hL).1];exact hL,rfl,rfl,rfl,rfl,rfl,rfl⟩,rfl,rfl,rfl⟩
def qc.withBox (G:qc) (i b:Nat):qc:={ G with γ:=λj=>if j = i then some b else G.γ j}
theorem Rel.newBox (hr:Rel P gl G h w) {i:Nat} {o:Obj} {bx:qb} {h':List qb} (hi:G.γ i = none) (J:h.length <= h'.length) (S:i < h'.length)
  (B:∀j,j ≠ i->∀b,G.γ j = some b->h'[j]? = h[j]?) (U:h'[i]? = some bx)
  (I:qgg P gl (G.withBox i w.heap.size) (w.alloc o) i bx w.heap.size):Rel P gl (G.withBox i w.heap.size) h' (w.alloc o):=by
 have ha:=hr.alloc o
 have M:∀j b,G.γ j = some b->(G.withBox i w.heap.size).γ j = some b:=λj b hj=>by
  have:j ≠ i:=λe=>by subst e;simp [hi] at hj
  simpa [qc.withBox,this] using hj
 refine ⟨λj b hj=>?_,λj k b hj hk=>?_,λj b E hj hx=>?_,ha.imm,λb o' v j hv hm=>?_,ha.immK,λb ℓ hb=>⟨(ha.ow b ℓ hb).1,λj hj=>?_⟩,λg cs hg=>?_⟩
 ·simp only [qc.withBox] at hj
  split at hj
  ·rename_i e;subst e;cases hj;exact ⟨S,by simp⟩
  ·exact ⟨jq (hr.γlt j b hj).1 J,(ha.γlt j b hj).2⟩
 ·simp only [qc.withBox] at hj hk
  split at hj
  ·split at hk
   ·exact .inl zo
   ·cases hj;have:=(hr.γlt k _ hk).2;omega
  ·rename_i e1
   split at hk
   ·cases hk;have:=(hr.γlt j _ hj).2;omega
   ·rename_i e2
    rw [B j e1 b hj,B k e2 b hk]
    exact hr.inj j k b hj hk
 ·simp only [qc.withBox] at hj
  split at hj
  ·rename_i e;subst e;cases hj;rw [U] at hx;cases hx;exact I
  ·rename_i e
   rw [B j e b hj] at hx
   have hb:=ha.box j b E hj hx
   obtain ⟨n,hn⟩:=qb.lower_ex E
   exact hb.keep hn (λ_ _ _ h=>h) (λj b _=>M j b) rfl (λ_ _ h=>h) (λ_ _ _=>rfl) (λ_ _ _ _ h=>h)
 ·simp only [qc.withBox]
  split
  ·intro e;cases e;have:=hr.imm_lt hv;omega
  ·rename_i e1
   intro e
   rw [B j e1 b e]
   exact hr.immγ b o' v j hv hm e
 ·simp only [qc.withBox] at hj
  split at hj
  ·cases hj;have:=(hr.ow _ _ hb).1;omega
  ·exact (hr.ow b ℓ hb).2 j hj
 ·obtain ⟨h1,h2⟩:=hr.glob g cs hg
  exact ⟨qar.mono (λ_ _ _ h=>h) 0 (λi _ hi=>absurd hi (Nat.not_lt_zero _)) cs g 0 h2 h1,h2⟩
theorem Ext.newBox {n i:Nat} (hi:G.γ i = none) (hn:n <= i) (o:Obj):Ext n G w (G.withBox i w.heap.size) (w.alloc o):=by
 refine ⟨λj b hj=>?_,λj b hj=>?_,λ_ _ _ h=>h,λ_ _ _ h=>.inl h,λ_ h=>.inl h,by simp,λb hb _=>qaa w o hb,(Ext.alloc n G w o).loops,rfl,rfl,rfl⟩
 ·have:j ≠ i:=λe=>by subst e;simp [hi] at hj
  simpa [qc.withBox,this] using hj
 ·simp only [qc.withBox] at hj
  split at hj
  ·rename_i e;subst e;cases hj;exact .inr ⟨hn,.inl (jo _)⟩
  ·exact .inl hj
noncomputable def qc.withRow (G:qc) (b:Nat) (c:Array Value) (m:Nat) (ℓ:Option Loc):qc:=
 { γ:=G.γ,imm:=λx o=>if x = b then (if o < m then qmb c[o]? else none) else G.imm x o,ow:=λx=>if x = b then ℓ else G.ow x}
theorem Rel.newRow (hr:Rel P gl G h w) (c:Array Value) (e:TypeId) (m:Nat) (ℓ:Option Loc) (fr:Nat×Nat:=(0,0)):Rel P gl (G.withRow w.heap.size c m ℓ) h (w.alloc (.cells c e fr)):=by
 have ha:=hr.alloc (.cells c e fr)
 have hi:∀b o v,G.imm b o = some v->(G.withRow w.heap.size c m ℓ).imm b o = some v:=λb o v hv=>by
  have:b ≠ w.heap.size:=by have:=hr.imm_lt hv;omega
  simpa [qc.withRow,this] using hv
 refine ⟨ha.γlt,ha.inj,λi b bx hb hx=>?_,λb o v hv hm=>?_,λb o v i hv hm hb=>?_,λb o hv=>?_,λb E hb=>?_,λg cs hg=>?_⟩
 ·obtain ⟨n,hn⟩:=qb.lower_ex bx
  refine (ha.box i b bx hb hx).keep hn hi (λ_ _ _ h=>h) rfl (λb' o B=>?_) (λ_ _ _=>rfl) (λb' j o B hj=>?_)
  ·have:b' ≠ w.heap.size:=by have:=(hr.ow b' _ B).1;omega
   simpa [qc.withRow,this] using B
  ·have:b' ≠ w.heap.size:=by have:=(hr.ow b' _ B).1;omega
   simpa [qc.withRow,this] using hj
 ·simp only [qc.withRow] at hv
  split at hv
  ·rename_i e1
   subst e1
   split at hv
   ·refine ⟨?_,by simp⟩
    simp only [World.cell?,qax]
    simpa using (qbo.1 hv).1
   ·cases hv
  ·exact ha.imm b o v hv hm
 ·simp only [qc.withRow] at hv hb
  split at hv
  ·have:=(hr.γlt i b hb).2;omega
  ·exact hr.immγ b o v i hv hm hb
 ·simp only [qc.withRow] at hv
  split at hv
  ·split at hv
   ·exact absurd rfl (qbo.1 hv).2
   ·cases hv
  ·exact ha.immK b o hv
 ·simp only [qc.withRow] at hb
  split at hb
  ·rename_i e1
   exact ⟨by simp;omega,λi hi=>by simp only [qc.withRow] at hi;have:=(hr.γlt i b hi).2;omega⟩
  ·exact ha.ow b E hb
 ·obtain ⟨h1,h2⟩:=hr.glob g cs hg
  exact ⟨qar.mono hi 0 (λi _ hi=>absurd hi (Nat.not_lt_zero _)) cs g 0 h2 h1,h2⟩
theorem Ext.newRow (n:Nat) (c:Array Value) (e:TypeId) (m:Nat) (ℓ:Option Loc) (hr:Rel P gl G h w) (fr:Nat×Nat:=(0,0)):Ext n G w (G.withRow w.heap.size c m ℓ) (w.alloc (.cells c e fr)):=by
 refine ⟨λ_ _ h=>h,λ_ _ h=>.inl h,λb o v hv=>?_,λb o v hv=>?_,λb hb=>?_,by simp,λb hb _=>qaa w _ hb,(Ext.alloc n G w _).loops,rfl,rfl,rfl⟩
 ·have:b ≠ w.heap.size:=by have:=hr.imm_lt hv;omega
  simpa [qc.withRow,this] using hv
 ·simp only [qc.withRow] at hv
  split at hv
  ·exact .inr (.inl zo)
  ·exact .inl hv
 ·simp only [qc.withRow] at hb
  split at hb
  ·exact .inr zo
  ·exact .inl hb
theorem qaV.newRow (hr:Rel P gl G h w) (ht:qaV G w t ts) (c:Array Value) (e:TypeId) (m:Nat) (ℓ:Option Loc) (fr:Nat×Nat:=(0,0)):qaV (G.withRow w.heap.size c m ℓ) (w.alloc (.cells c e fr)) t ts:=by
 have hi:∀b o v,G.imm b o = some v->(G.withRow w.heap.size c m ℓ).imm b o = some v:=(Ext.newRow 0 c e m ℓ hr fr).ik
 obtain ⟨n,hn⟩:=qay t
 refine ⟨qg.mono hi n (λ_ _ _ h=>h) t _ hn ht.rel,λi xs k v hx hv=>(ht.own i xs k v hx hv).keep (λb hb=>?_) (λb hb=>qaa w _ (hr.ow b _ hb).1) (λb j hb hj=>?_)⟩
 ·have:b ≠ w.heap.size:=by have:=(hr.ow b _ hb).1;omega
  simpa [qc.withRow,this] using hb
 ·have:b ≠ w.heap.size:=by have:=(hr.ow b _ hb).1;omega
  simpa [qc.withRow,this] using hj
theorem qaV.keep {n:Nat} (ht:qaV G w t ts) (hl:qr n t = true) (hi:∀b o v,G.imm b o = some v->G'.imm b o = some v) (B:∀i b,i < n->G.γ i = some b->G'.γ i = some b)
  (E:∀b i,G.ow b = some (.tmp i)->G'.ow b = some (.tmp i)) (J:∀b i,G.ow b = some (.tmp i)->w'.heap[b]? = w.heap[b]?)
  (I:∀b j i,G.ow b = some (.tmp i)->G.imm b j = none->G'.imm b j = none):qaV G' w' t ts:=
 ⟨qg.mono hi n B t _ hl ht.rel,λi xs k v hx hv=>(ht.own i xs k v hx hv).keep (λb hb=>E b i hb) (λb hb=>J b i hb) (λb j hb=>I b j i hb)⟩
end
section
variable {P:Program} {gl:Nat->Option (List qa)} {G:qc} {w:World} {h:List qb} {t:List qa} {a:Act}
theorem qfy {γ:Nat->Option Nat} {imm:Nat->Nat->Option Value} {v:Value} {x:qa} (h:qc1 v = some x):qC γ imm x v:=by
 unfold qc1 at h
 split at h <;> try (simp only [jl] at h;subst h)
 all_goals try (simp [qC];done)
 ·split at h
  ·rename_i hh;obtain ⟨rfl,rfl⟩:=hh;cases h
   simp only [qC];exact ⟨none,0,0,rfl,rfl,jo _,λ_=>rfl,λ_=>rfl,⟨0,by simp⟩,.inl trivial⟩
  ·cases h
 ·split at h
  ·rename_i hh
   simp only [jm,Array.isEmpty_iff] at hh
   obtain ⟨rfl,rfl⟩:=hh;cases h
   simp only [qC];exact ⟨#[],#[],rfl,by simp [qg],by simp [qg]⟩
  ·cases h
 ·cases h
theorem qfQ {v:Value} {x:qa} (h:qc1 v = some x):x.lower 0 = true:=by
 unfold qc1 at h
 split at h <;> first | (simp only [jl] at h;subst h;rfl) | (split at h <;> cases h;rfl) | cases h
theorem qib {γ:Nat->Option Nat} {imm:Nat->Nat->Option Value}:∀{vs:List Value} {xs:List qa},vs.mapM qc1 = some xs->qg γ imm xs vs/\qr 0 xs = true
 | [],xs,h=>by simp at h;subst h;simp [qg,qr]
 | v :: vs,xs,h=>by
  simp only [List.mapM_cons,Option.pure_def,jF,Option.bind_eq_some_iff] at h
  obtain ⟨x,hx,ys,B,h⟩:=h
  cases h
  obtain ⟨h1,h2⟩:=qib (γ:=γ) (imm:=imm) B
  exact ⟨by simp only [qg];exact ⟨v,vs,rfl,qfy hx,h1⟩,by simp [qr,qfQ hx,h2]⟩
theorem qgq {γ:Nat->Option Nat} {imm:Nat->Nat->Option Value} {v:Value} {x:qa} (h:qfG v = some x):qC γ imm x v/\x.lower 0 = true:=by
 unfold qfG at h
 split at h
 ·rename_i cs
  simp only [Option.map_eq_some_iff] at h
  obtain ⟨xs,hx,rfl⟩:=h
  obtain ⟨h1,h2⟩:=qib (γ:=γ) (imm:=imm) hx
  exact ⟨by simp only [qC];exact ⟨cs,rfl,h1⟩,by simpa [qa.lower] using h2⟩
 ·split at h
  ·rename_i hh
   simp only [Array.isEmpty_iff] at hh
   subst hh;cases h;exact ⟨by simp only [qC];exact ⟨#[],rfl,by simp [qg]⟩,rfl⟩
  ·cases h
 ·exact ⟨qfy h,qfQ h⟩
theorem qik (hr:Rel P gl G h w) (ht:qaV G w t a.tmps) {x:Operand} {ax:qh} (hx:opd gl x = some ax):G.V (raw t ax) (a.eval x):=by
 cases x with
 | tmp i=>simp only [opd,jl] at hx;subst hx;exact ht.get i
 | const v=>
  simp only [opd,Option.map_eq_some_iff] at hx
  obtain ⟨c,hc,rfl⟩:=hx
  exact (qgq hc).1
 | global g=>
  simp only [opd,Option.map_eq_some_iff] at hx
  obtain ⟨c,hc,rfl⟩:=hx
  simp only [raw,qc.V,qC]
  exact ⟨g,0,rfl,(hr.glob g c hc).1⟩
 | func f=>
  simp only [opd,jl] at hx
  subst hx
  simp only [raw,qc.V,qC]
  exact ⟨#[],#[],rfl,by simp [qg],by simp [qg]⟩
theorem qah (hr:Rel P gl G h w) (ht:qaV G w t a.tmps) {x:Operand} {ax:qh} (hx:opd gl x = some ax):G.V (ev t ax) (a.eval x):=qcW (qik hr ht hx)
theorem qbE (v:qa):v.dim.dim = v.dim:=by
 cases v <;> try rfl
 rename_i xs f;cases f <;> rfl
theorem qiN (t:List qa) (x:qh):(ev t x).dim = ev t x:=qbE _
theorem qpw (hr:Rel P gl G h w) (ht:qaV G w t a.tmps):∀{xs:List Operand} {B:List qh},xs.mapM (opd gl) = some B->G.VL (B.map (ev t)) (xs.map a.eval)
 | [],B,h=>by simp at h;subst h;simp [qc.VL,qg]
 | x :: xs,B,h=>by
  simp only [List.mapM_cons,Option.pure_def,jF,Option.bind_eq_some_iff] at h
  obtain ⟨y,hy,ys,E,h⟩:=h
  cases h
  simp only [List.map_cons,qc.VL,qg]
  exact ⟨_,_,rfl,qah hr ht hy,qpw hr ht E⟩
theorem qig (hr:Rel P gl G h w) (ht:qaV G w t a.tmps) {xs:Array Operand} {B:List qh} (hx:qsR gl xs = some B):G.VL (B.map (ev t)) (xs.map a.eval).toList:=by
 rw [Array.toList_map];exact qpw hr ht hx
theorem qcu {γ:Nat->Option Nat} {imm:Nat->Nat->Option Value} {x:qa} {v:Value} (h:qC γ imm x v) (hs:x.cells.all qa.storable = true):qg γ imm x.cells v.cells.toList/\∀u ∈ v.cells.toList,u.oneCell' = true:=by
 have one:∀{x:qa} {v:Value},qC γ imm x v->x.storable = true->v.oneCell' = true:=by
  intro x v h hs
  cases x <;> simp only [qa.storable,jn] at hs <;> simp only [qC] at h <;> first
   | (subst h;rfl)
   | (obtain ⟨_,rfl,_⟩:=h;rfl)
   | (obtain ⟨_,_,rfl⟩:=h;rfl)
   | (obtain ⟨_,_,rfl,_⟩:=h;rfl)
   | (obtain ⟨_,_,_,rfl,_⟩:=h;rfl)
 have all:∀{xs:List qa} {vs:List Value},qg γ imm xs vs->xs.all qa.storable = true->∀u ∈ vs,u.oneCell' = true:=by
  intro xs
  induction xs with
  | nil=>intro vs h _ u hu;simp only [qg] at h;subst h;cases hu
  | cons x xs ih=>
   intro vs h hs u hu
   simp only [qg] at h
   obtain ⟨v,rest,rfl,h1,h2⟩:=h
   simp only [jH,jm] at hs
   cases hu with
   | head=>exact one h1 hs.1
   | tail _ hu=>exact ih h2 hs.2 u hu
 have key:qg γ imm x.cells v.cells.toList:=by
  cases x with
  | agg cs=>
   simp only [qC] at h
   obtain ⟨c,rfl,h1⟩:=h
   simpa [qa.cells,Value.cells] using h1
  | _=>
   have B:=hs
   simp only [qa.cells,jH,jI,jA] at B
   have ho:=one h B
   have hc:v.cells = #[v]:=by cases v <;> first | rfl | (simp [Value.oneCell'] at ho)
   rw [hc]
   simp only [qa.cells,qg]
   exact ⟨v,[],rfl,h,rfl⟩
 exact ⟨key,all key hs⟩
theorem qoW {γ:Nat->Option Nat} {imm:Nat->Nat->Option Value} {cs:List qa} {vs:List Value} {o:Nat} {k:Option Nat} {x:qa} (h:qg γ imm cs vs) (hc:cut cs o k = some x) :
  qC γ imm x (match k with | none=>vs.getD o undef | some k=>.agg ((vs.drop o).take k).toArray)/\x.dim = x/\(match k with | none=>o < vs.length | some k=>o + k <= vs.length):=by
 cases k with
 | none=>
  simp only [cut,Option.map_eq_some_iff] at hc
  obtain ⟨c,h0,rfl⟩:=hc
  obtain ⟨v,hv,hr⟩:=h.get h0
  refine ⟨?_,qbE _,?_⟩
  ·simp only [List.getD,hv,Option.getD_some];exact qcW hr
  ·simp only;exact (je.1 hv).1
 | some k=>
  simp only [cut] at hc
  split at hc
  ·cases hc
   refine ⟨?_,rfl,by simp only;rw [<-h.length];assumption⟩
   simp only [qC]
   exact ⟨_,rfl,by simpa using qg.dims (qg.take k (qg.drop o h))⟩
  ·cases hc
end
def qde:qa->Value
 | .int k n=>.int k n
 | .bool b=>.bool b
 | .str s=>.string ⟨s.toArray⟩
 | _=>undef
section
variable {P:Program} {γ:Nat->Option Nat} {imm:Nat->Nat->Option Value}
theorem qfm {op:BinOp} {k:IntKind} {a b:Int} {r:qa} (h:qbR op k a b = some r) (w:World) (j:IntKind) (hj:j = k\/op = .shl\/op = .shr) (t:TypeId) :
  (binOp op t (.int k a) (.int j b)).run P w = .ok (qde r) w/\qC γ imm r (qde r)/\r.dim = r:=by
 have B:op ≠ .shl->op ≠ .shr->j = k:=by intro h1 h2;rcases hj with h | h | h <;> first | exact h | exact absurd h h1 | exact absurd h h2
 cases op <;> simp only [qbR,qaT,qf] at h
 case quo=>
  split at h
  ·cases h
  ·rename_i hb
   cases h;obtain rfl:=B (by simp) (by simp)
   exact ⟨by simp [binOp,Op.intDiv,hb,qde],by simp [qC,qde],rfl⟩
 case rem=>
  split at h
  ·cases h
  ·rename_i hb
   cases h;obtain rfl:=B (by simp) (by simp)
   exact ⟨by simp [binOp,Op.intDiv,hb,qde],by simp [qC,qde],rfl⟩
 case shl=>
  split at h
  ·cases h
  ·rename_i hb
   cases h
   exact ⟨by simp [binOp,Op.shift,hb,qde],by simp [qC,qde],rfl⟩
 case shr=>
  split at h
  ·cases h
  ·rename_i hb
   cases h
   exact ⟨by simp [binOp,Op.shift,hb,qde],by simp [qC,qde],rfl⟩
 all_goals
  cases h
  obtain rfl:=B (by simp) (by simp)
  exact ⟨by simp only [binOp,ne_eq,not_true_eq_false,if_false];rfl,by simp [qC,qde],rfl⟩
theorem qnT {op:BinOp} {a b:List UInt8} {r:qa} (h:qsm op a b = some r) (w:World) {x y:ByteArray} (hx:x.data.toList = a) (hy:y.data.toList = b) (t:TypeId) :
  (binOp op t (.string x) (.string y)).run P w = .ok (qde r) w/\qC γ imm r (qde r)/\r.dim = r:=by
 have ex:x.toList = a:=by rw [Lib.toList_data,hx]
 have ey:y.toList = b:=by rw [Lib.toList_data,hy]
 cases op <;> simp only [qsm] at h
 case add=>
  split at h
  ·rename_i hl
   cases h
   have hs:¬ (((x.size + y.size:Nat):Int) > IntKind.i64.max):=by
    have h1:x.size = a.length:=by rw [<-hx];rfl
    have h2:y.size = b.length:=by rw [<-hy];rfl
    unfold qdH at hl
    simp only [IntKind.max,IntKind.signed,IntKind.bits,if_true]
    omega
   have B:x ++ y = ⟨(a ++ b).toArray⟩:=by
    apply ByteArray.ext
    apply Array.ext'
    rw [ByteArray.data_append,Array.toList_append,hx,hy]
   refine ⟨?_,?_,rfl⟩
   ·simp only [binOp,Op.stringOp,if_neg hs,qde,B];rfl
   ·simp only [qC,qde];exact ⟨_,rfl,rfl⟩
  ·cases h
 all_goals first
  | (cases h;done)
  | (cases h;exact ⟨by simp [binOp,Op.stringOp,ex,ey,qde],by simp [qC,qde],rfl⟩)
theorem qs3 {op:BinOp} {x y:qa} {r:qa} (h:qbV op x y = some r) (w:World) {vx vy:Value} (hx:qC γ imm x vx) (hy:qC γ imm y vy) (t:TypeId) :
  (binOp op t vx vy).run P w = .ok (qde r) w/\qC γ imm r (qde r)/\r.dim = r:=by
 unfold qbV at h
 split at h
 ·simp only [qC] at hx hy
  subst hx hy
  split at h
  ·exact qfm h w _ (.inr (.inl rfl)) t
  ·exact qfm h w _ (.inr (.inr rfl)) t
  ·split at h
   ·rename_i hk
    exact qfm h w _ (.inl hk.symm) t
   ·cases h
 ·simp only [qC] at hx hy
  obtain ⟨bx,rfl,E⟩:=hx
  obtain ⟨I,rfl,B⟩:=hy
  exact qnT h w E B t
 ·cases h
theorem qeq {op:BinOp} {t:TypeId} {x y:Operand} {a b:Value} (w:World) (h1:¬ (a = .nilIface/\b = .nilIface)\/isC x = true\/isC y = true)
  (h2:∀xs ys,a = .agg xs->b = .agg ys->False):(eqGuard op t x y a b).run P w = .ok () w:=by
 by_cases hn:a = .nilIface/\b = .nilIface
 ·obtain ⟨rfl,rfl⟩:=hn
  rcases h1 with h1 | h1 | h1
  ·exact absurd ⟨rfl,rfl⟩ h1
  ·cases x <;> first | (cases h1;done) | (cases op <;> rfl)
  ·cases y <;> first | (cases h1;done) | (cases op <;> cases x <;> rfl)
 ·clear h1
  cases op <;> first
   | rfl
   | (cases a <;> first
     | rfl
     | (cases b <;> first | rfl | exact (h2 _ _ rfl rfl).elim | exact absurd ⟨rfl,rfl⟩ hn))
end
theorem qbQ (b o n:Nat):(⟨b,o,none⟩ :Addr).add n = ⟨b,o + n,none⟩:=by
 unfold Addr.add;split <;> simp_all
theorem qdx {P:Program} {s:Sem Value} {v:Value} {w w':World} (h:s.run P w = .ok v w'):(do pure (Next.value (<-s)):Sem Next).run P w = .ok (.value v) w':=by
 simp [h]
section
variable {P:Program} {gl:Nat->Option (List qa)} {G:qc} {w:World} {h:List qb} {t:List qa} {a:Act}
theorem qbn {e:TypeId} {k:Nat} (he:qdz P e = some k) (w:World):(sizeOf e).run P w = .ok k w:=by
 simp only [qdz,Option.map_eq_some_iff] at he
 obtain ⟨i,hi,rfl⟩:=he
 simp [sizeOf,typeInfo,hi]
theorem qfa {e:TypeId} {k:Option Nat} (he:tyk P e = some k) (w:World):(isAgg e).run P w = .ok k.isSome w/\∀n,k = some n->(sizeOf e).run P w = .ok n w:=by
 unfold tyk at he
 split at he
 ·rename_i hu
  simp only [Option.map_eq_some_iff] at he
  obtain ⟨i,hi,rfl⟩:=he
  exact ⟨by simp [isAgg,run_underlying hu],λn hn=>by cases hn;simp [sizeOf,typeInfo,hi]⟩
 ·rename_i hu
  simp only [Option.map_eq_some_iff] at he
  obtain ⟨i,hi,rfl⟩:=he
  exact ⟨by simp [isAgg,run_underlying hu],λn hn=>by cases hn;simp [sizeOf,typeInfo,hi]⟩
 ·cases he
 ·cases he
 ·cases he
 ·rename_i d h1 h2 h3 h4 hu
  cases he
  refine ⟨?_,by simp⟩
  simp only [isAgg,Sem.run_bind,run_underlying hu,Result.andThen_ok]
  cases d <;> first | rfl | (exfalso;first | exact h1 _ rfl | exact h2 _ _ rfl | exact h3 _ rfl)
theorem qlM {e:TypeId} {k:Option Nat} (he:tyk P e = some k) {cs:List qa} {c:Array Value} {o:Nat} {x:qa} {γ:Nat->Option Nat} {imm:Nat->Nat->Option Value}
  (hc:qg γ imm cs c.toList) (hx:cut cs o k = some x) (w:World):∃u,(part e c o).run P w = .ok u w/\qC γ imm x u/\x.dim = x:=by
 obtain ⟨h1,h2⟩:=qfa he w
 obtain ⟨h3,h4,h5⟩:=qoW hc hx
 cases k with
 | none=>
  simp only at h3 h5
  refine ⟨_,?_,h3,h4⟩
  have:c[o]? = some (c.toList.getD o undef):=by
   rw [<-Array.getElem?_toList,ji h5];simp [List.getD,ji h5]
  simp only [part,Sem.run_bind,h1,Result.andThen_ok,Option.isSome_none,jn,if_false,this]
  rfl
 | some k=>
  simp only at h3 h5
  refine ⟨_,?_,h3,h4⟩
  simp only [part,Sem.run_bind,h1,Result.andThen_ok,Option.isSome_some,if_true,h2 k rfl]
  have:c.extract o (o + k) = (List.take k (List.drop o c.toList)).toArray:=by
   apply Array.ext'
   simp [Array.toList_extract,List.extract_eq_take_drop]
  rw [this];rfl
theorem qyO {k:Nat} {x y:qa} {vx vy:Value} {b:Bool} {γ:Nat->Option Nat} {imm:Nat->Nat->Option Value} (hn:qzZ k x y = some b) (hx:qC γ imm x vx) (hy:qC γ imm y vy) {ty:TypeId} (w:World)
  (h0:k = 0->∃e,P.underlying ty = some (.pointer e)/\∃n,qdz P e = some n/\n ≠ 0) (h1:k = 1->∃ms,P.underlying ty = some (.interface ms)) (h2:k = 2->∃x y z,P.underlying ty = some (.func x y z)) (h3:k = 3->∃x y,P.underlying ty = some (.map x y)) :
  (Op.equal ty vx vy).run P w = .ok b w:=by
 have key:∀d,(Op.equalIn (d + 1) ty vx vy).run P w = .ok b w:=by
  intro d
  unfold qzZ at hn
  split at hn
  ·obtain ⟨e,he,n,B,E⟩:=h0 rfl
   split at hn <;> (try simp only [jl] at hn) <;> (try simp only [qC] at hx hy)
   ·subst hn hx hy;simp [Op.equalIn,run_underlying he]
   ·subst hn hx;obtain ⟨_,_,rfl⟩:=hy;simp [Op.equalIn,run_underlying he]
   ·subst hn hy;obtain ⟨_,_,rfl⟩:=hx;simp [Op.equalIn,run_underlying he]
   ·subst hn hx;obtain ⟨_,_,rfl,_⟩:=hy;simp [Op.equalIn,run_underlying he]
   ·subst hn hy;obtain ⟨_,_,rfl,_⟩:=hx;simp [Op.equalIn,run_underlying he]
   ·split at hn
    ·rename_i e1
     subst e1
     cases hn
     obtain ⟨p,hp,rfl⟩:=hx
     obtain ⟨q,hq,rfl⟩:=hy
     rw [hp] at hq;cases hq
     rename_i o o'
     simp [Op.equalIn,run_underlying he,qbn B,E,sameAddr]
     rw [Bool.eq_iff_iff];simp
    ·cases hn
   ·cases hn
  ·obtain ⟨ms,he⟩:=h1 rfl
   split at hn <;> (try simp only [jl] at hn) <;> (try simp only [qC] at hx hy)
   ·subst hn hx hy;simp [Op.equalIn,run_underlying he]
   ·subst hn hx;obtain ⟨_,rfl,_⟩:=hy;simp [Op.equalIn,run_underlying he]
   ·subst hn hy;obtain ⟨_,rfl,_⟩:=hx;simp [Op.equalIn,run_underlying he]
   ·cases hn
  ·obtain ⟨p,q,r,he⟩:=h2 rfl
   split at hn <;> (try simp only [jl] at hn) <;> (try simp only [qC] at hx hy)
   ·subst hn hx hy;simp [Op.equalIn,run_underlying he]
   ·subst hn hx;obtain ⟨_,_,rfl,_⟩:=hy;simp [Op.equalIn,run_underlying he]
   ·subst hn hy;obtain ⟨_,_,rfl,_⟩:=hx;simp [Op.equalIn,run_underlying he]
   ·cases hn
  ·obtain ⟨p,q,he⟩:=h3 rfl
   split at hn <;> (try simp only [jl] at hn) <;> (try simp only [qC] at hx hy)
   ·subst hn hx hy;simp [Op.equalIn,run_underlying he]
   ·subst hn hx;obtain ⟨_,_,rfl⟩:=hy;simp [Op.equalIn,run_underlying he]
   ·subst hn hy;obtain ⟨_,_,rfl⟩:=hx;simp [Op.equalIn,run_underlying he]
   ·cases hn
  ·cases hn
 exact key 9999
theorem qlo (op:BinOp) (ho:op = .eql\/op = .neq) (ty:TypeId) (x y:Value) (b:Bool) (w:World) (h:(Op.equal ty x y).run P w = .ok b w)
  (hi:∀k n,x ≠ .int k n) (hs:∀s,x ≠ .string s) (hf:∀k n,x ≠ .float k n) (hc:∀k n m,x ≠ .complex k n m):(binOp op ty x y).run P w = .ok (.bool (b != (qhk op))) w:=by
 rcases ho with rfl | rfl
 ·have:binOp .eql ty x y = (do pure (.bool (<-Op.equal ty x y)):Sem Value):=by
   cases x <;> cases y <;> first | rfl | exact absurd rfl (hi _ _) | exact absurd rfl (hs _) | exact absurd rfl (hf _ _) | exact absurd rfl (hc _ _ _)
  rw [this];simp [h,qhk]
 ·have:binOp .neq ty x y = (do pure (.bool (!(<-Op.equal ty x y))):Sem Value):=by
   cases x <;> cases y <;> first | rfl | exact absurd rfl (hi _ _) | exact absurd rfl (hs _) | exact absurd rfl (hf _ _) | exact absurd rfl (hc _ _ _)
  rw [this];simp [h,qhk]
end
section
variable {P:Program} {gl:Nat->Option (List qa)} {G:qc} {w:World} {h:List qb} {t:List qa} {a:Act}
theorem qA {α β:Type} {x:Option α} {f:α->Option β} {b:β} (h:(x >>= f) = some b):∃y,x = some y/\f y = some b:=by
 cases x with
 | none=>cases h
 | some y=>exact ⟨y,rfl,h⟩
theorem qcf {α β:Type} {x:Option α} {f:α->β} {b:β} (h:x.map f = some b):∃y,x = some y/\f y = b:=by
 cases x with
 | none=>cases h
 | some y=>exact ⟨y,rfl,by simpa using h⟩
theorem qix (hr:Rel P gl G h w) (ht:qaV G w t a.tmps) {x:Operand} {ax:qh} (hx:opd gl x = some ax) {d m n:Nat} (hb:bound t (some ax) d = some n) (hm:n <= m) (c:BoundsCode) :
  (Instr.sliceBound (a.eval x) m c).run P w = .ok n w:=by
 have hv:=qah hr ht hx
 simp only [bound] at hb
 split at hb
 ·rename_i k i he
  rw [he] at hv
  simp only [qc.V,qC] at hv
  split at hb
  ·rename_i h0
   cases hb
   have:0 <= i/\i <= (m:Int):=⟨h0,zo⟩
   simp [Instr.sliceBound,hv,asIntOf,this]
  ·cases hb
 ·cases hb
theorem qfk (hr:Rel P gl G h w) (ht:qaV G w t a.tmps) {lo hi:Option Operand} {alo ahi:Option qh} (hlo:qcO gl lo = some alo) (hhi:qcO gl hi = some ahi)
  {len cap l m:Nat} (hl:bound t alo 0 = some l) (hm:bound t ahi len = some m) (h1:l <= m) (h2:m <= cap) (sl:Bool) :
  (Instr.sliceBounds sl len cap (lo.map a.eval) (hi.map a.eval) none).run P w = .ok (l,m,cap) w:=by
 have hm':∀c:BoundsCode,(match hi.map a.eval,(none:Option Value) with
   | some v,some _=>Instr.sliceBound v cap .slice3B
   | some v,none=>Instr.sliceBound v cap c
   | none,none=>pure len
   | none, some _ => stuck "Slice: max without high" : Sem Nat).run P w = .ok m w := by
  intro c
  cases hi with
  | none=>
   simp only [qcO,jl] at hhi
   subst hhi
   simp only [bound,jl] at hm
   subst hm
   rfl
  | some x=>
   simp only [qcO] at hhi
   obtain ⟨ax,hx,rfl⟩:=qcf hhi
   exact qix hr ht hx hm zo c
 have hl':(match lo.map a.eval with
   | some v=>Instr.sliceBound v m .sliceB
   | none=>pure 0:Sem Nat).run P w = .ok l w:=by
  cases lo with
  | none=>
   simp only [qcO,jl] at hlo
   subst hlo
   simp only [bound,jl] at hl
   subst hl
   rfl
  | some x=>
   simp only [qcO] at hlo
   obtain ⟨ax,hx,rfl⟩:=qcf hlo
   exact qix hr ht hx hl h1 .sliceB
 simp only [Instr.sliceBounds,Sem.run_bind,Sem.run_pure,Result.andThen_ok]
 have hm'':=hm' (if sl then .sliceAcap else .sliceAlen)
 cases hh:hi.map a.eval with
 | none=>
  rw [hh] at hm''
  simp only [Sem.run_pure,Result.ok.injEq] at hm''
  obtain ⟨rfl,_⟩:=hm''
  simp only [Sem.run_pure,Result.andThen_ok]
  cases hq:lo.map a.eval with
  | none=>
   rw [hq] at hl'
   simp only [Sem.run_pure,Result.ok.injEq] at hl'
   obtain ⟨rfl,_⟩:=hl'
   rfl
  | some v=>
   rw [hq] at hl'
   simp only at hl'
   simp [hl']
 | some u=>
  rw [hh] at hm''
  simp only at hm''
  simp only [Sem.run_bind,hm'',Result.andThen_ok]
  cases hq:lo.map a.eval with
  | none=>
   rw [hq] at hl'
   simp only [Sem.run_pure,Result.ok.injEq] at hl'
   obtain ⟨rfl,_⟩:=hl'
   rfl
  | some v=>
   rw [hq] at hl'
   simp only at hl'
   simp [hl']
end
section
variable {P:Program} {gl:Nat->Option (List qa)} {G:qc} {w:World} {h:List qb} {t:List qa} {a:Act}
def qbP (P:Program) (G:qc) (w:World) (a:Act) (o:Oper) (v:qa):Prop:=
 ∃u,(execOp a.eval o).run P w = .ok (.value u) w/\G.V v u/\v.dim = v
theorem qmE (hr:Rel P gl G h w) (ht:qaV G w t a.tmps) {o:Oper} {x:Operand} {ax:qh} (ho:o.op = .move x) (hx:opd gl x = some ax):qbP P G w a o (ev t ax):=
 ⟨a.eval x,by simp [execOp,ho],qah hr ht hx,qiN t ax⟩
theorem qmG (hr:Rel P gl G h w) (ht:qaV G w t a.tmps) {o:Oper} {c x y:Operand} {ac ax ay:qh} {v:qa} (ho:o.op = .pick c x y) (hc:opd gl c = some ac) (hx:opd gl x = some ax) (hy:opd gl y = some ay)
  (hp:pureV t (.pick ac ax ay) = some v):qbP P G w a o v:=by
 have B:=qah hr ht hc
 simp only [pureV] at hp
 split at hp
 ·rename_i he;rw [he] at B;simp only [qc.V,qC] at B;cases hp
  exact ⟨a.eval x,by simp [execOp,ho,B,asBool],qah hr ht hx,qiN t ax⟩
 ·rename_i he;rw [he] at B;simp only [qc.V,qC] at B;cases hp
  exact ⟨a.eval y,by simp [execOp,ho,B,asBool],qah hr ht hy,qiN t ay⟩
 ·cases hp
theorem qmF (hr:Rel P gl G h w) (ht:qaV G w t a.tmps) {o:Oper} {x:Operand} {ax:qh} {v:qa} (ho:o.op = .nilCheck x) (hx:opd gl x = some ax) (hp:pureV t (.nilc ax) = some v):qbP P G w a o v:=by
 have hv:=qah hr ht hx
 simp only [pureV] at hp
 split at hp <;> rename_i he <;> (try (rw [he] at hv)) <;> (try cases hp) <;> simp only [qc.V,qC] at hv
 ·obtain ⟨b,hb,B⟩:=hv
  exact ⟨a.eval x,by simp [execOp,ho,B],by simp only [qc.V,qC];exact ⟨b,hb,B⟩,rfl⟩
 ·obtain ⟨b,p,B,hc⟩:=hv
  exact ⟨a.eval x,by simp [execOp,ho,B],by simp only [qc.V,qC];exact ⟨b,p,B,hc⟩,rfl⟩
 ·obtain ⟨b,p,B,hc⟩:=hv
  exact ⟨a.eval x,by simp [execOp,ho,B],by simp only [qc.V,qC];exact ⟨b,p,B,hc⟩,rfl⟩
 ·obtain ⟨b,hb,B⟩:=hv
  exact ⟨a.eval x,by simp [execOp,ho,B],by simp only [qc.V,qC];exact ⟨b,hb,B⟩,rfl⟩
 ·obtain ⟨b,B,hc⟩:=hv
  exact ⟨a.eval x,by simp [execOp,ho,B],by simp only [qc.V,qC];exact ⟨b,B,hc⟩,rfl⟩
theorem qrN {x:qa} {v:Value} (hx:G.V x v) (hs:(∃k n,x = .int k n)\/(∃s,x = .str s)):(v ≠ .nilIface)/\∀xs,v ≠ .agg xs:=by
 rcases hs with ⟨k,n,rfl⟩ | ⟨s,rfl⟩
 ·simp only [qc.V,qC] at hx;subst hx;simp
 ·simp only [qc.V,qC] at hx;obtain ⟨b,rfl,_⟩:=hx;simp
theorem ql4 {op:BinOp} {x y v:qa} (hv:qbV op x y = some v):(∃k n,x = .int k n)\/(∃s,x = .str s):=by
 unfold qbV at hv
 split at hv
 ·exact .inl ⟨_,_,rfl⟩
 ·exact .inr ⟨_,rfl⟩
 ·cases hv
theorem qgD (hr:Rel P gl G h w) (ht:qaV G w t a.tmps) {o:Oper} {op:BinOp} {ty yt:TypeId} {x y:Operand} {ax ay:qh} {v:qa} (ho:o.op = .binOp op ty x y yt) (hx:opd gl x = some ax) (hy:opd gl y = some ay)
  (hp:qbV op (ev t ax) (ev t ay) = some v):qbP P G w a o v:=by
 have B:=qah hr ht hx
 have E:=qah hr ht hy
 obtain ⟨h1,h2,h3⟩:=qs3 (P:=P) hp w B E ty
 obtain ⟨n1,n2⟩:=qrN B (ql4 hp)
 have hg:=qeq (P:=P) (op:=op) (t:=ty) (x:=x) (y:=y) (a:=a.eval x) (b:=a.eval y) w (.inl λhh=>n1 hh.1) (λxs _ hh _=>n2 xs hh)
 exact ⟨qde v,by simp [execOp,ho,hg,h1],h2,h3⟩
theorem qpS (hr:Rel P gl G h w) (ht:qaV G w t a.tmps) {o:Oper} {op:BinOp} {ty yt:TypeId} {x y:Operand} {ax ay:qh} {v:qa} (ho:o.op = .binOp op ty x y yt) (hx:opd gl x = some ax) (hy:opd gl y = some ay)
  (hop:op = .eql\/op = .neq) (hu:P.underlying ty = some .bool) (hp:pureV t (.eqb (qhk op) ax ay) = some v):qbP P G w a o v:=by
 have E:=qah hr ht hx
 have B:=qah hr ht hy
 simp only [pureV] at hp
 split at hp
 ·rename_i p q e1 e2
  rw [e1] at E;rw [e2] at B
  simp only [qc.V,qC] at E B
  cases hp
  have he:(Op.equal ty (.bool p) (.bool q)).run P w = .ok (p == q) w:=by
   have key:∀d,(Op.equalIn (d + 1) ty (.bool p) (.bool q)).run P w = .ok (p == q) w:=λd=>by simp [Op.equalIn,run_underlying hu]
   exact key 9999
  have hb:=qlo op hop ty (.bool p) (.bool q) _ w he (by simp) (by simp) (by simp) (by simp)
  have hg:=qeq (P:=P) (op:=op) (t:=ty) (x:=x) (y:=y) (a:=.bool p) (b:=.bool q) w (.inl (by simp)) (by simp)
  exact ⟨_,by simp [execOp,ho,E,B,hg,hb];rfl,by simp [qc.V,qC],rfl⟩
 ·cases hp
theorem qeV (hr:Rel P gl G h w) (ht:qaV G w t a.tmps) {o:Oper} {op:BinOp} {ty yt:TypeId} {x y:Operand} {ax ay:qh} {v:qa} {k:Nat} (ho:o.op = .binOp op ty x y yt) (hx:opd gl x = some ax) (hy:opd gl y = some ay)
  (hop:op = .eql\/op = .neq)
  (h0:k = 0->∃e,P.underlying ty = some (.pointer e)/\∃n,qdz P e = some n/\n ≠ 0) (h1:k = 1->(∃ms,P.underlying ty = some (.interface ms))/\(isC x = true\/isC y = true))
  (h2:k = 2->∃x y z,P.underlying ty = some (.func x y z)) (h3:k = 3->∃x y,P.underlying ty = some (.map x y))
  (hp:pureV t (.eqi k (qhk op) ax ay) = some v):qbP P G w a o v:=by
 have B:=qah hr ht hx
 have I:=qah hr ht hy
 simp only [pureV] at hp
 obtain ⟨b,hb,rfl⟩:=qcf hp
 have he:=qyO hb B I (ty:=ty) w h0 (λe=>(h1 e).1) h2 h3
 have E:(∀k n,a.eval x ≠ .int k n)/\(∀s,a.eval x ≠ .string s)/\(∀k n,a.eval x ≠ .float k n)/\(∀k n m,a.eval x ≠ .complex k n m)/\(∀xs,a.eval x ≠ .agg xs)/\(k ≠ 1->a.eval x ≠ .nilIface):=by
  unfold qzZ at hb
  generalize ev t ax = p at hb B
  generalize ev t ay = q at hb I
  generalize a.eval x = u at B ⊢
  split at hb
  all_goals first
   | (cases hb;done)
   | (split at hb <;> first
     | (cases hb;done)
     | (simp only [qc.V,qC] at B
        first
         | (subst B;simp;done)
         | (obtain ⟨_,_,rfl⟩:=B;simp;done)
         | (obtain ⟨_,_,rfl,_⟩:=B;simp;done)
         | (obtain ⟨_,rfl,_⟩:=B;simp;done)))
 obtain ⟨s1,s2,s3,s4,s5,s6⟩:=E
 have J:=qlo op hop ty (a.eval x) (a.eval y) _ w he s1 s2 s3 s4
 have hg:=qeq (P:=P) (op:=op) (t:=ty) (x:=x) (y:=y) (a:=a.eval x) (b:=a.eval y) w (by
  by_cases hk:k = 1
  ·rcases (h1 hk).2 with h3 | h3
   ·exact .inr (.inl h3)
   ·exact .inr (.inr h3)
  ·exact .inl λhh=>s6 hk hh.1) (λxs _ hh _=>s5 xs hh)
 exact ⟨_,by simp [execOp,ho,hg,J];rfl,by simp [qc.V,qC],rfl⟩
theorem qt5 (hr:Rel P gl G h w) (ht:qaV G w t a.tmps) {o:Oper} {op:UnOp} {ty:TypeId} {x:Operand} {ax:qh} {v:qa} (ho:o.op = .unOp op ty x) (hx:opd gl x = some ax)
  (hp:pureV t (.un op ax) = some v):qbP P G w a o v:=by
 have hv:=qah hr ht hx
 simp only [pureV] at hp
 unfold unV at hp
 split at hp <;> (try cases hp) <;> (rename_i e1;rw [e1] at hv;simp only [qc.V,qC] at hv)
 ·exact ⟨_,by simp [execOp,ho,hv,Op.unary,Op.intArith];rfl,by simp [qc.V,qC],rfl⟩
 ·exact ⟨_,by simp [execOp,ho,hv,Op.unary];rfl,by simp [qc.V,qC],rfl⟩
theorem qpQ (hr:Rel P gl G h w) (ht:qaV G w t a.tmps) {o:Oper} {s d:TypeId} {x:Operand} {ax:qh} {v:qa} {k j:IntKind} (ho:o.op = .convert s d x) (hx:opd gl x = some ax)
  (hs:P.underlying s = some (.int j)) (hd:P.underlying d = some (.int k)) (hp:pureV t (.cvi k ax) = some v):qbP P G w a o v:=by
 have hv:=qah hr ht hx
 simp only [pureV] at hp
 split at hp
 ·rename_i e1;rw [e1] at hv;simp only [qc.V,qC] at hv;cases hp
  exact ⟨_,by simp [execOp,ho,hv,convert,run_underlying hs,run_underlying hd,Conv.intToInt];rfl,by simp [qc.V,qC],rfl⟩
 ·cases hp
theorem qpR (hr:Rel P gl G h w) (ht:qaV G w t a.tmps) {o:Oper} {s d:TypeId} {x:Operand} {ax:qh} {v:qa} (ho:o.op = .convert s d x) (hx:opd gl x = some ax)
  (hs:P.underlying s = some .string) (hd:P.underlying d = some .string) (hp:pureV t (.cvs ax) = some v):qbP P G w a o v:=by
 have hv:=qah hr ht hx
 simp only [pureV] at hp
 split at hp
 ·rename_i e1;rw [e1] at hv;cases hp
  have B:=hv
  simp only [qc.V,qC] at B
  obtain ⟨b,hb,_⟩:=B
  exact ⟨a.eval x,by simp [execOp,ho,hb,convert,run_underlying hs,run_underlying hd],hv,rfl⟩
 ·cases hp
theorem qpY (hr:Rel P gl G h w) (ht:qaV G w t a.tmps) {o:Oper} {ty:TypeId} {x:Operand} {ax:qh} {v:qa} (ho:o.op = .makeInterface ty x) (hx:opd gl x = some ax)
  {d:TypeDesc} (hu:P.underlying ty = some d) (hd:∀ms,d ≠ .interface ms) (hp:pureV t (.mkI ty ax) = some v):qbP P G w a o v:=by
 have hv:=qah hr ht hx
 simp only [pureV] at hp
 have E:(Instr.makeInterface ty (a.eval x)).run P w = .ok (.iface ty (a.eval x)) w:=by
  simp only [Instr.makeInterface,Sem.run_bind,run_underlying hu,Result.andThen_ok]
  cases d <;> first | rfl | exact absurd rfl (hd _)
 have B:∀v,v = .iface ty (ev t ax)->qbP P G w a o v:=by
  rintro v rfl
  exact ⟨.iface ty (a.eval x),by simp [execOp,ho,E],by simp only [qc.V,qC];exact ⟨_,rfl,hv⟩,rfl⟩
 split at hp
 ·cases hp
 ·cases hp;exact B _ rfl
theorem qpX (hr:Rel P gl G h w) (ht:qaV G w t a.tmps) {o:Oper} {f:FuncId} {x y:Array Operand} {ax ay:List qh} {v:qa} (ho:o.op = .makeFunc (.func f) x y) (hx:qsR gl x = some ax) (hy:qsR gl y = some ay)
  (hp:pureV t (.mkF f ax ay) = some v):qbP P G w a o v:=by
 simp only [pureV,jl] at hp
 subst hp
 exact ⟨.func (.func f) (x.map a.eval) (y.map a.eval),by simp [execOp,ho,Instr.makeFunc],by simp only [qc.V,qC];exact ⟨_,_,rfl,qig hr ht hx,qig hr ht hy⟩,rfl⟩
theorem qt4 (hr:Rel P gl G h w) (ht:qaV G w t a.tmps) {o:Oper} {s:TypeId} {x:Operand} {ax:qh} {v:qa} {i:Nat} {fs:Array Field} {f:Field} (ho:o.op = .fieldAddr s x i) (hx:opd gl x = some ax)
  (hu:P.underlying s = some (.struct fs)) (hf:fs[i]? = some f) {n:Nat} (hn:qdz P f.type = some n) (E:n ≠ 0) (hp:pureV t (.fa f.offset ax) = some v):qbP P G w a o v:=by
 have hv:=qah hr ht hx
 simp only [pureV] at hp
 have B:∀b p,a.eval x = .pointer (some ⟨b,p,none⟩)->(Instr.fieldAt s (a.eval x) i).run P w = .ok (.pointer (some ⟨b,p + f.offset,none⟩)) w:=by
  intro b p hb
  simp [Instr.fieldAt,run_underlying hu,hf,hb,Instr.sureAddr,fieldPlace,qbn hn,E,qbQ]
 split at hp
 ·rename_i e1;rw [e1] at hv;simp only [qc.V,qC] at hv;cases hp
  obtain ⟨b,hb,he⟩:=hv
  exact ⟨_,by simp [execOp,ho,B _ _ he];rfl,by simp only [qc.V,qC];exact ⟨b,hb,rfl⟩,rfl⟩
 ·rename_i e1;rw [e1] at hv;simp only [qc.V,qC] at hv;cases hp
  obtain ⟨b,p,he,hc⟩:=hv
  exact ⟨_,by simp [execOp,ho,B _ _ he];rfl,by simp only [qc.V,qC];exact ⟨b,p,by rw [jx],hc⟩,rfl⟩
 ·cases hp
theorem qpU (hr:Rel P gl G h w) (ht:qaV G w t a.tmps) {o:Oper} {s:TypeId} {x:Operand} {ax:qh} {v:qa} {i:Nat} {fs:Array Field} {f:Field} {k:Option Nat} (ho:o.op = .field s x i) (hx:opd gl x = some ax)
  (hu:P.underlying s = some (.struct fs)) (hf:fs[i]? = some f) (hk:tyk P f.type = some k) (hp:pureV t (.fld f.offset k ax) = some v):qbP P G w a o v:=by
 have hv:=qah hr ht hx
 simp only [pureV] at hp
 split at hp
 ·rename_i e1;rw [e1] at hv;simp only [qc.V,qC] at hv
  obtain ⟨c,he,hc⟩:=hv
  obtain ⟨u,h1,h2,h3⟩:=qlM hk hc hp w
  exact ⟨u,by simp [execOp,ho,he,Instr.field,run_underlying hu,hf,asAgg,h1],h2,h3⟩
 ·cases hp
theorem qpT (hr:Rel P gl G h w) (ht:qaV G w t a.tmps) {o:Oper} {x:Operand} {ax:qh} {v:qa} {i:Nat} (ho:o.op = .extract x i) (hx:opd gl x = some ax)
  (hp:pureV t (.ext ax i) = some v):qbP P G w a o v:=by
 have hv:=qah hr ht hx
 simp only [pureV] at hp
 split at hp
 ·rename_i e1;rw [e1] at hv;simp only [qc.V,qC] at hv
  obtain ⟨c,he,hc⟩:=hv
  obtain ⟨y,hy,rfl⟩:=qcf hp
  obtain ⟨u,hu,h1⟩:=hc.get hy
  simp only [Array.getElem?_toList] at hu
  exact ⟨u,by simp [execOp,ho,he,Instr.extract,hu],qcW h1,qbE _⟩
 ·cases hp
end
section
variable {P:Program} {gl:Nat->Option (List qa)} {G:qc} {w:World} {h:List qb} {t:List qa} {a:Act}
theorem qgy (s:ByteArray) (l m:Nat):(s.extract l m).data.toList = (s.data.toList.drop l).take (m - l):=by
 simp [ByteArray.data_extract,Array.toList_extract,List.extract_eq_take_drop]
theorem qmI (hr:Rel P gl G h w) (ht:qaV G w t a.tmps) {o:Oper} {ty:TypeId} {x:Operand} {lo hi:Option Operand} {ax:qh} {B E:Option qh} {v:qa} (ho:o.op = .slice ty x lo hi none) (hx:opd gl x = some ax)
  (J:qcO gl lo = some B) (S:qcO gl hi = some E) (hu:P.underlying ty = some .string) (hp:pureV t (.subS ax B E) = some v):qbP P G w a o v:=by
 have hv:=qah hr ht hx
 simp only [pureV] at hp
 split at hp
 rotate_left
 ·cases hp
 rename_i s hs
 rw [hs] at hv
 simp only [qc.V,qC] at hv
 obtain ⟨b,he,hb⟩:=hv
 have I:b.size = s.length:=by rw [<-hb];rfl
 split at hp
 ·rename_i m hm
  split at hp
  ·rename_i l hl
   split at hp
   ·rename_i M
    cases hp
    have U:=qfk hr ht J S (len:=b.size) (cap:=b.size) (w:=w) hl (by rw [I];exact hm) M.1 zo false
    refine ⟨.string (b.extract l m),?_,?_,rfl⟩
    ·simp [execOp,ho,he,Instr.sliceAt,Instr.slice,run_underlying hu,U]
    ·simp only [qc.V,qC];exact ⟨_,rfl,by rw [qgy,hb]⟩
   ·cases hp
  ·cases hp
 ·cases hp
theorem qmH (hr:Rel P gl G h w) (ht:qaV G w t a.tmps) {o:Oper} {ty e:TypeId} {x:Operand} {lo hi:Option Operand} {ax:qh} {a7 a8:Option qh} {v:qa} {k:Nat} (ho:o.op = .slice ty x lo hi none) (hx:opd gl x = some ax)
  (a1:qcO gl lo = some a7) (a6:qcO gl hi = some a8) (hu:P.underlying ty = some (.slice e)) (hk:qdz P e = some k) (hp:pureV t (.subL k ax a7 a8) = some v):qbP P G w a o v:=by
 have hv:=qah hr ht hx
 simp only [pureV] at hp
 split at hp
 rotate_left
 ·rename_i id p0 len cap more hs
  rw [hs] at hv
  simp only [qc.V,qC] at hv
  obtain ⟨b,c,hb,he,h1,h2,h3,h4⟩:=hv
  split at hp
  ·rename_i m hm
   split at hp
   ·rename_i l hl
    split at hp
    ·rename_i M
     have S:=qfk hr ht a1 a6 (len:=len) (cap:=c) (w:=w) hl hm M.1 zo true
     have J:(execOp a.eval o).run P w = .ok (.value (.slice (if c = l then some ⟨b,p0,none⟩ else (some (⟨b,p0,none⟩ :Addr)).map (·.add (l * k))) (m - l) (c - l))) w:=by
      simp [execOp,ho,he,Instr.sliceAt,Instr.slice,run_underlying hu,S,qbn hk]
     split at hp
     ·rename_i ad
      split at hp
      ·rename_i E
       cases hp
       have af:=h3 E
       refine ⟨_,J,?_,rfl⟩
       simp only [qc.V,qC]
       exact ⟨_,_,_,rfl,by simp;omega,zo,λ_=>zo,λ_=>zo,⟨0,by simp⟩,.inl trivial⟩
      ·cases hp
     ·rename_i ad
      split at hp
      ·rename_i B
       cases hp
       refine ⟨_,J,?_,rfl⟩
       rw [if_neg zo]
       simp only [qc.V,qC,Option.map_some,qbQ]
       refine ⟨b,c - l,hb,rfl,zo,zo,λE=>by have:=h3 E;omega,λE=>?_⟩
       have B:more = k:=by
        rcases B with B | B
        ·exact absurd B E
        ·exact B
       have h5:=h4 E
       rw [B] at h5 ⊢
       have e5:p0 + l * k + (c - l) * k = p0 + c * k:=by
        rw [jx,<-Nat.add_mul]
        congr 2;omega
       rw [e5]
       exact h5
      ·cases hp
    ·cases hp
   ·cases hp
  ·cases hp
 ·cases hp
 rename_i xs f hs
 have ab:(qa.lst xs f).dim = .lst xs f:=by rw [<-hs];exact qiN t ax
 rw [hs] at hv
 simp only [qc.V,qC] at hv
 obtain ⟨b,len,cap,he,h1,h2,h3,h4,⟨k',h6⟩,h5⟩:=hv
 split at hp
 ·rename_i m hm
  split at hp
  ·rename_i l hl
   split at hp
   ·rename_i M
    split at hp
    ·rename_i ac
     cases hp
     have S:=qfk hr ht a1 a6 (len:=len) (cap:=cap) (w:=w) hl (by rw [h1];exact hm) M.1 zo true
     refine ⟨.slice (if cap = l then b else b.map (·.add (l * k))) (m - l) (cap - l),?_,?_,?_⟩
     ·simp [execOp,ho,he,Instr.sliceAt,Instr.slice,run_underlying hu,S,qbn hk]
     ·simp only [qc.V,qC]
      refine ⟨_,_,_,rfl,by simp;omega,zo,?_,?_,⟨k',λx hx=>h6 x (List.mem_of_mem_drop (List.mem_of_mem_take hx))⟩,?_⟩
      ·intro hf
       split at hf
       ·rename_i ae;have:=h3 hf;omega
       ·cases hf
      ·intro I
       split at I
       ·have:=h4 I;omega
       ·rw [Option.map_eq_none_iff] at I;have:=h4 I;omega
      ·rcases h5 with rfl | ⟨p,q,rfl,hE⟩
       ·left;simp
       ·by_cases hc:cap = l
        ·left
         have:m - l = 0:=zo
         simp [this]
        ·right
         rw [if_neg hc]
         refine ⟨p,q + l * k,by simp [qbQ],?_⟩
         by_cases U:xs = []
         ·subst U;simp [qW]
         ·have aa:k' = k:=by
           obtain ⟨y,ys,rfl⟩:=List.exists_cons_of_ne_nil U
           have e1:=h6 y (by simp)
           simp at ac
           omega
          subst aa
          exact qW.take (qW.drop h6 hE l zo) _
     ·cases f <;> first | (simp [qa.dim] at ab;done) | (split <;> rfl)
    ·cases hp
   ·cases hp
  ·cases hp
 ·cases hp
theorem qmA (hr:Rel P gl G h w) (ht:qaV G w t a.tmps) {o:Oper} {ty e:TypeId} {x i:Operand} {ax ai:qh} {v:qa} {k:Nat} (ho:o.op = .indexAddr ty x i) (hx:opd gl x = some ax) (hi:opd gl i = some ai)
  (hu:P.underlying ty = some (.slice e)) (hk:qdz P e = some k) (hp:pureV t (.ixaL k ax ai) = some v):qbP P G w a o v:=by
 have hv:=qah hr ht hx
 have hn:=qah hr ht hi
 simp only [pureV] at hp
 split at hp
 ·rename_i xs f kk n e1 e2
  rw [e1] at hv;rw [e2] at hn
  simp only [qc.V,qC] at hv hn
  obtain ⟨b,len,cap,he,h1,h2,h3,h4,⟨k',h6⟩,h5⟩:=hv
  split at hp
  ·rename_i hb
   split at hp
   ·rename_i y hy
    split at hp
    ·rename_i E
     cases hp
     rcases h5 with rfl | ⟨p,q,rfl,hE⟩
     ·simp at hy
     ·have I:k' = k:=by rw [<-h6 y (List.mem_of_getElem? hy)];exact E
      subst I
      have hc:=qW.get h6 hE hy
      refine ⟨.pointer (some ⟨p,q + n.toNat * k',none⟩),?_,?_,rfl⟩
      ·have B:0 <= n/\n < (len:Int):=⟨hb.1,zo⟩
       simp [execOp,ho,he,hn,Instr.indexAt,asIntOf,run_underlying hu,B,qbn hk,qbQ]
      ·simp only [qc.V,qC];exact ⟨p,_,rfl,hc⟩
    ·cases hp
   ·cases hp
  ·cases hp
 ·rename_i id p0 len cap more kk n e1 e2
  rw [e1] at hv;rw [e2] at hn
  simp only [qc.V,qC] at hv hn
  obtain ⟨b,c,hb,he,_⟩:=hv
  split at hp
  ·rename_i B
   cases hp
   refine ⟨.pointer (some ⟨b,p0 + n.toNat * k,none⟩),?_,?_,rfl⟩
   ·simp [execOp,ho,he,hn,Instr.indexAt,asIntOf,run_underlying hu,B,qbn hk,qbQ]
   ·simp only [qc.V,qC];exact ⟨b,hb,rfl⟩
  ·cases hp
 ·cases hp
theorem qmz (hr:Rel P gl G h w) (ht:qaV G w t a.tmps) {o:Oper} {ty e:TypeId} {x i:Operand} {ax ai:qh} {v:qa} {k len:Nat} (ho:o.op = .indexAddr ty x i) (hx:opd gl x = some ax) (hi:opd gl i = some ai)
  (hu:P.underlying ty = some (.array len e)) (hk:qdz P e = some k) (hp:pureV t (.ixaA len k ax ai) = some v):qbP P G w a o v:=by
 have hv:=qah hr ht hx
 have hn:=qah hr ht hi
 simp only [pureV] at hp
 have B:∀b p kk n,a.eval x = .pointer (some ⟨b,p,none⟩)->a.eval i = .int kk n->0 <= n/\n < (len:Int)->(Instr.indexAt ty (a.eval x) (a.eval i)).run P w = .ok (.pointer (some ⟨b,p + n.toNat * k,none⟩)) w:=by
  intro b p kk n h1 h2 h3
  simp [h1,h2,Instr.indexAt,asIntOf,run_underlying hu,Instr.sureAddr,h3,qbn hk,qbQ]
 split at hp
 ·rename_i e1 e2;rw [e1] at hv;rw [e2] at hn;simp only [qc.V,qC] at hv hn
  obtain ⟨b,hb,he⟩:=hv
  split at hp
  ·rename_i E
   cases hp
   exact ⟨_,by simp only [execOp,ho];exact qdx (B _ _ _ _ he hn E),by simp only [qc.V,qC];exact ⟨b,hb,rfl⟩,rfl⟩
  ·cases hp
 ·rename_i e1 e2;rw [e1] at hv;rw [e2] at hn;simp only [qc.V,qC] at hv hn
  obtain ⟨b,p,he,hc⟩:=hv
  split at hp
  ·rename_i E
   cases hp
   exact ⟨_,by simp only [execOp,ho];exact qdx (B _ _ _ _ he hn E),by simp only [qc.V,qC];exact ⟨b,p,by rw [jx],hc⟩,rfl⟩
  ·cases hp
 ·cases hp
theorem qpW (hr:Rel P gl G h w) (ht:qaV G w t a.tmps) {o:Oper} {ty:TypeId} {x i:Operand} {ax ai:qh} {v:qa} (ho:o.op = .index ty x i) (hx:opd gl x = some ax) (hi:opd gl i = some ai)
  (hu:P.underlying ty = some .string) (hp:pureV t (.ixS ax ai) = some v):qbP P G w a o v:=by
 have hv:=qah hr ht hx
 have hn:=qah hr ht hi
 simp only [pureV] at hp
 split at hp
 ·rename_i e1 e2
  rw [e1] at hv;rw [e2] at hn
  simp only [qc.V,qC] at hv hn
  obtain ⟨b,he,hb⟩:=hv
  split at hp
  ·rename_i h0
   obtain ⟨c,hc,rfl⟩:=qcf hp
   rename_i n
   have B:b[n.toNat]? = some c:=by
    rw [<-hb] at hc
    simp only [Array.getElem?_toList] at hc
    obtain ⟨h1,h2⟩:=jf.1 hc
    have:n.toNat < b.size:=h1
    rw [getElem?_pos b n.toNat this]
    exact congrArg some h2
   exact ⟨_,by simp [execOp,ho,he,hn,Instr.index,asIntOf,run_underlying hu,h0,B];rfl,by simp [qc.V,qC],rfl⟩
  ·cases hp
 ·cases hp
theorem qpV (hr:Rel P gl G h w) (ht:qaV G w t a.tmps) {o:Oper} {ty e:TypeId} {x i:Operand} {ax ai:qh} {v:qa} {k:Option Nat} {len:Nat} (ho:o.op = .index ty x i) (hx:opd gl x = some ax) (hi:opd gl i = some ai)
  (hu:P.underlying ty = some (.array len e)) (hk:tyk P e = some k) {n:Nat} (E:qdz P e = some n) (B:n = k.getD 1) (hp:pureV t (.ixA len k ax ai) = some v):qbP P G w a o v:=by
 have hv:=qah hr ht hx
 have hn:=qah hr ht hi
 simp only [pureV] at hp
 split at hp
 ·rename_i e1 e2
  rw [e1] at hv;rw [e2] at hn
  simp only [qc.V,qC] at hv hn
  obtain ⟨c,he,hc⟩:=hv
  split at hp
  ·rename_i m hb
   obtain ⟨u,h1,h2,h3⟩:=qlM hk hc hp w
   rw [<-B] at h1
   exact ⟨u,by simp [execOp,ho,he,hn,Instr.index,asIntOf,run_underlying hu,hb,qbn E,h1],h2,h3⟩
  ·cases hp
 ·cases hp
theorem qmD (hr:Rel P gl G h w) (ht:qaV G w t a.tmps) {o:Oper} {c:Go.Call} {x:Operand} {ty:TypeId} {ax:qh} {v:qa} (ho:o.op = .call c) (hc:c.callee = .builtin .len) (B:c.args.toList = [x]) (E:c.argTypes.toList = [ty]) (hx:opd gl x = some ax)
  (hu:P.underlying ty = some .string) (hp:pureV t (.len true ax) = some v):qbP P G w a o v:=by
 have hv:=qah hr ht hx
 have ea:c.args = #[x]:=by rw [<-Array.toArray_toList (xs:=c.args),B]
 have et:c.argTypes = #[ty]:=by rw [<-Array.toArray_toList (xs:=c.argTypes),E]
 simp only [pureV] at hp
 split at hp
 ·rename_i hs
  rw [hs] at hv
  simp only [qc.V,qC] at hv
  obtain ⟨b,he,hb⟩:=hv
  cases hp
  rename_i s
  have I:b.size = s.length:=by rw [<-hb];rfl
  exact ⟨_,by simp [execOp,ho,hc,ea,et,resolve,invoke,builtin,Builtin.len_,run_underlying hu,he];rfl,by simp [qc.V,qC,goInt,I],rfl⟩
 ·cases hp
theorem qmC (hr:Rel P gl G h w) (ht:qaV G w t a.tmps) {o:Oper} {c:Go.Call} {x:Operand} {ty e:TypeId} {ax:qh} {v:qa} (ho:o.op = .call c) (hc:c.callee = .builtin .len) (B:c.args.toList = [x]) (E:c.argTypes.toList = [ty]) (hx:opd gl x = some ax)
  (hu:P.underlying ty = some (.slice e)) (hp:pureV t (.len false ax) = some v):qbP P G w a o v:=by
 have hv:=qah hr ht hx
 have ea:c.args = #[x]:=by rw [<-Array.toArray_toList (xs:=c.args),B]
 have et:c.argTypes = #[ty]:=by rw [<-Array.toArray_toList (xs:=c.argTypes),E]
 simp only [pureV] at hp
 split at hp
 ·rename_i hs
  rw [hs] at hv
  simp only [qc.V,qC] at hv
  obtain ⟨b,len,cap,he,h1,_⟩:=hv
  cases hp
  exact ⟨_,by simp [execOp,ho,hc,ea,et,resolve,invoke,builtin,Builtin.len_,run_underlying hu,he];rfl,by simp [qc.V,qC,goInt,h1],rfl⟩
 ·rename_i hs
  rw [hs] at hv
  simp only [qc.V,qC] at hv
  obtain ⟨b,cap,hb,he,_⟩:=hv
  cases hp
  exact ⟨_,by simp [execOp,ho,hc,ea,et,resolve,invoke,builtin,Builtin.len_,run_underlying hu,he];rfl,by simp [qc.V,qC,goInt],rfl⟩
 ·rename_i hs
  rw [hs] at hv
  simp only [qc.V,qC] at hv
  cases hp
  exact ⟨_,by simp [execOp,ho,hc,ea,et,resolve,invoke,builtin,Builtin.len_,run_underlying hu,hv];rfl,by simp [qc.V,qC,goInt],rfl⟩
 ·rename_i hs
  rw [hs] at hv
  simp only [qc.V,qC] at hv
  obtain ⟨b,hv⟩:=hv
  cases hp
  exact ⟨_,by simp [execOp,ho,hc,ea,et,resolve,invoke,builtin,Builtin.len_,run_underlying hu,hv];rfl,by simp [qc.V,qC,goInt],rfl⟩
 ·cases hp
theorem qlA (hr:Rel P gl G h w) (ht:qaV G w t a.tmps) {o:Oper} {c:Go.Call} {x y:Operand} {ax ay:qh} {v:qa} {isMax:Bool} (ho:o.op = .call c) (hc:c.callee = .builtin (if isMax then .max else .min)) (B:c.args.toList = [x,y]) (hx:opd gl x = some ax) (hy:opd gl y = some ay)
  (hp:pureV t (.mm isMax ax ay) = some v):qbP P G w a o v:=by
 have hv:=qah hr ht hx
 have hn:=qah hr ht hy
 have ea:c.args = #[x,y]:=by rw [<-Array.toArray_toList (xs:=c.args),B]
 simp only [pureV] at hp
 split at hp
 ·rename_i k p j q e1 e2
  rw [e1] at hv;rw [e2] at hn
  simp only [qc.V,qC] at hv hn
  cases hp
  cases isMax
  ·exact ⟨_,by simp [execOp,ho,hc,ea,resolve,invoke,builtin,Builtin.min_,Builtin.min2,hv,hn];rfl,by simp [qc.V,qC],rfl⟩
  ·exact ⟨_,by simp [execOp,ho,hc,ea,resolve,invoke,builtin,Builtin.max_,Builtin.max2,hv,hn];rfl,by simp [qc.V,qC],rfl⟩
 ·cases hp
theorem qmB {o:Oper} {c:Go.Call} {x:Operand} {ty e:TypeId} {n:Nat} (ho:o.op = .call c) (hc:c.callee = .builtin .len) (B:c.args.toList = [x]) (E:c.argTypes.toList = [ty])
  (hu:P.underlying ty = some (.array n e)):qbP P G w a o (.int .i64 n):=by
 have ea:c.args = #[x]:=by rw [<-Array.toArray_toList (xs:=c.args),B]
 have et:c.argTypes = #[ty]:=by rw [<-Array.toArray_toList (xs:=c.argTypes),E]
 exact ⟨_,by simp [execOp,ho,hc,ea,et,resolve,invoke,builtin,Builtin.len_,run_underlying hu];rfl,by simp [qc.V,qC,goInt],rfl⟩
theorem qvJ {ty:TypeId} {z:qa} (hz:qbD P ty = some z) (w:World):∃u,(zeroValue ty).run P w = .ok u w/\(∀γ imm,qC γ imm z u)/\z.lower 0 = true:=by
 unfold qbD at hz
 split at hz
 ·rename_i i hi
  obtain ⟨u,hu,hc⟩:=qA (by simpa [jF] using hz)
  exact ⟨u,by simp [zeroValue,typeInfo,hi,hu],λγ imm=>(qgq hc).1,(qgq (γ:=λ_=>none) (imm:=λ_ _=>none) hc).2⟩
 ·cases hz
theorem qoV {v:Value} {z:qa} (h:qfG v = some z):z.dim = z:=by
 unfold qfG at h
 split at h
 ·obtain ⟨_,_,rfl⟩:=qcf h;rfl
 ·split at h
  ·cases h;rfl
  ·cases h
 ·unfold qc1 at h
  split at h <;> first | (cases h;rfl) | (split at h <;> cases h;rfl) | cases h
theorem qpZ (hr:Rel P gl G h w) (ht:qaV G w t a.tmps) {o:Oper} {ty xt:TypeId} {x:Operand} {ax:qh} {v z:qa} (ho:o.op = .typeAssert x xt ty true) (hx:opd gl x = some ax)
  {d:TypeDesc} (hu:P.underlying ty = some d) (hd:∀ms,d ≠ .interface ms) (hz:qbD P ty = some z) (hp:pureV t (.tas ty z ax) = some v):qbP P G w a o v:=by
 have hv:=qah hr ht hx
 obtain ⟨u,E,I,_⟩:=qvJ hz w
 simp only [pureV] at hp
 have B:qC G.γ G.imm (.tup [z,.bool false]) (.tuple #[u,.bool false]):=by
  simp only [qC,qg]
  exact ⟨_,rfl,u,[.bool false],rfl,I _ _,_,[],rfl,rfl,rfl⟩
 split at hp
 ·rename_i e1;rw [e1] at hv;simp only [qc.V,qC] at hv;cases hp
  refine ⟨.tuple #[u,.bool false],?_,B,rfl⟩
  simp only [execOp,ho]
  refine qdx ?_
  simp only [Instr.typeAssert,Sem.run_bind,run_underlying hu,Result.andThen_ok,hv]
  cases d <;> first | (simp [E];done) | exact absurd rfl (hd _)
 ·rename_i q y e1;rw [e1] at hv;simp only [qc.V,qC] at hv
  obtain ⟨y',hy,J⟩:=hv
  split at hp
  ·rename_i hq
   cases hp
   refine ⟨.tuple #[y',.bool true],?_,?_,rfl⟩
   ·simp only [execOp,ho]
    refine qdx ?_
    simp only [Instr.typeAssert,Sem.run_bind,run_underlying hu,Result.andThen_ok,hy]
    cases d <;> first | (simp [hq];done) | exact absurd rfl (hd _)
   ·simp only [qc.V,qC,qg]
    exact ⟨_,rfl,y',[.bool true],rfl,J,_,[],rfl,rfl,rfl⟩
  ·rename_i hq
   cases hp
   refine ⟨.tuple #[u,.bool false],?_,B,rfl⟩
   simp only [execOp,ho]
   refine qdx ?_
   simp only [Instr.typeAssert,Sem.run_bind,run_underlying hu,Result.andThen_ok,hy]
   cases d <;> first | (simp [hq,E];done) | exact absurd rfl (hd _)
 ·cases hp
end
theorem qhG (off:Nat):∀(vs:List Value) (i:Nat) (cells:Array Value),off + i + vs.length <= cells.size->
  ((vs.zipIdx i).foldl (λcs (c,j)=>cs.setIfInBounds (off + j) c) cells).toList = cells.toList.take (off + i) ++ vs ++ cells.toList.drop (off + i + vs.length)
 | [],i,cells,_=>by simp
 | v :: vs,i,cells,hl=>by
  have hi:off + i < cells.size:=by simp at hl;omega
  simp only [List.zipIdx_cons,List.foldl_cons]
  rw [qhG off vs (i + 1) _ (by simp at hl ⊢;omega)]
  simp only [Array.toList_setIfInBounds,jD]
  have e1:(cells.toList.set (off + i) v).take (off + (i + 1)) = cells.toList.take (off + i) ++ [v]:=by
   rw [<-jx,List.take_add_one]
   rw [List.take_set,List.set_eq_of_length_le (by simp;omega)]
   rw [jh (by simpa using hi)]
   rfl
  have e2:(cells.toList.set (off + i) v).drop (off + (i + 1) + vs.length) = cells.toList.drop (off + i + (vs.length + 1)):=by
   rw [List.drop_set_of_lt zo]
   congr 1
   omega
  rw [e1,e2]
  simp
theorem qpB (off:Nat) (v:Value) (cells:Array Value) (h:off + v.cells.size <= cells.size) :
  (v.cells.zipIdx.foldl (λcs (c,j)=>cs.setIfInBounds (off + j) c) cells).toList = cells.toList.take off ++ v.cells.toList ++ cells.toList.drop (off + v.cells.size):=by
 have:=qhG off v.cells.toList 0 cells (by simpa using h)
 rw [<-Array.foldl_toList,Array.toList_zipIdx]
 simpa using this
section
variable {γ:Nat->Option Nat} {imm:Nat->Nat->Option Value}
theorem qg.splice {cs:List qa} {c:List Value} {o:Nat} {xs:List qa} {vs:List Value} (h:qg γ imm cs c) (hx:qg γ imm xs vs):qg γ imm (splice cs o xs) (c.take o ++ vs ++ c.drop (o + vs.length)):=by
 unfold AE.splice
 rw [hx.length]
 exact ((h.take o).append hx).append (h.drop _)
theorem qeP (place:Nat->Option (Nat×Nat)):∀(parts:List (Nat×Value)) (B:List (Nat×Nat×qa)) (cs:List qa) (c:Array Value) (E:List qa),
  qg γ imm cs c.toList->(parts.length = B.length)->
  (∀(n:Nat) (i:Nat) (v:Value) (off size:Nat) (x:qa),parts[n]? = some (i,v)->B[n]? = some (off,size,x)->place i = some (off,size)/\qC γ imm x v)->
  q8 cs B = some E->∃c':Array Value,Instr.fill place c parts = some c'/\qg γ imm E c'.toList
 | [],[],cs,c,E,h,_,_,hf=>by simp only [q8,jl] at hf;subst hf;exact ⟨c,rfl,h⟩
 | [],_ :: _,_,_,_,_,hl,_,_=>by simp at hl
 | _ :: _,[],_,_,_,_,hl,_,_=>by simp at hl
 | (i,v) :: parts,(off,size,x) :: B,cs,c,E,h,hl,hp,hf=>by
  obtain ⟨M,hr⟩:=hp 0 i v off size x rfl rfl
  simp only [q8] at hf
  split at hf
  ·rename_i hh
   obtain ⟨h1,h2,h3⟩:=hh
   obtain ⟨k1,_⟩:=qcu hr h3
   have hs:v.cells.size = size:=by have:=k1.length;simp at this;omega
   have S:cs.length = c.size:=by simpa using h.length
   have I:=qpB off v c (by rw [hs];omega)
   have J:qg γ imm (splice cs off x.cells) (v.cells.zipIdx.foldl (λcs (c,j)=>cs.setIfInBounds (off + j) c) c).toList:=by
    rw [I]
    have:=qg.splice (o:=off) h k1
    simpa using this
   obtain ⟨c',e1,e2⟩:=qeP place parts B _ _ E J (by simpa using hl) (λn i v off size x a b=>hp (n + 1) i v off size x (by simpa using a) (by simpa using b)) hf
   refine ⟨c',?_,e2⟩
   simp only [Instr.fill,M]
   rw [if_neg (by rw [hs,<-S];simp;omega)]
   exact e1
  ·cases hf
end
section
variable {P:Program} {gl:Nat->Option (List qa)} {G:qc} {w:World} {h:List qb} {t:List qa} {a:Act}
theorem qlI {α β:Type} (f:α->Sem β) (g:α->β):∀(xs:List α),(∀x ∈ xs,(f x).run P w = .ok (g x) w)->(xs.mapM f).run P w = .ok (xs.map g) w
 | [],_=>by simp
 | x :: xs,hh=>by
  simp only [List.mapM_cons,Sem.run_bind,hh x (by simp),Result.andThen_ok,qlI f g xs (λy hy=>hh y (by simp [hy])),Sem.run_pure,List.map_cons]
theorem qny {fs:Array Field} (B:(fs.all λf=>(qdz P f.type).isSome) = true) :
  (fs.mapM (λf=>do pure (f.offset,<-sizeOf f.type):Field->Sem (Nat×Nat))).run P w = .ok (fs.map λf=>(f.offset,(qdz P f.type).getD 0)) w:=by
 rw [Array.mapM_eq_mapM_toList]
 simp only [Sem.run_map]
 rw [qlI (P:=P) (w:=w) _ (λf=>(f.offset,(qdz P f.type).getD 0)) fs.toList (λf hf=>by
  have:(qdz P f.type).isSome = true:=by
   rw [Array.all_eq_true'] at B
   exact B f (by simpa using hf)
  obtain ⟨n,hn⟩:=Option.isSome_iff_exists.1 this
  simp [qbn hn,hn])]
 simp only [Result.andThen_ok]
 congr 1
 exact Array.ext' (by simp)
theorem qgV (hr:Rel P gl G h w) (ht:qaV G w t a.tmps) {fs:Array Field}:∀{ps:List (Nat×Operand)} {B:List (Nat×Nat×qh)},qhF P gl fs ps = some B->ps.length = B.length/\
  ∀(n i:Nat) (x:Operand) (off size:Nat) (ax:qh),ps[n]? = some (i,x)->B[n]? = some (off,size,ax)->(fs.map λf=>(f.offset,(qdz P f.type).getD 0))[i]? = some (off,size)/\G.V (ev t ax) (a.eval x)
 | [],B,hp=>by simp only [qhF,jl] at hp;subst hp;simp
 | (i,x) :: ps,B,hp=>by
  simp only [qhF] at hp
  split at hp
  ·rename_i f ax r hf hx I
   split at hp
   ·rename_i s hs
    cases hp
    obtain ⟨h1,h2⟩:=qgV hr ht I
    refine ⟨by simp [h1],λn j y off size ay hn E=>?_⟩
    cases n with
    | zero=>
     simp only [jC,jl,jv] at hn E
     obtain ⟨rfl,rfl⟩:=hn
     obtain ⟨rfl,rfl,rfl⟩:=E
     exact ⟨by simp [hf,hs],qah hr ht hx⟩
    | succ n=>exact h2 n j y off size ay (by simpa using hn) (by simpa using E)
   ·cases hp
  ·cases hp
theorem qgU (hr:Rel P gl G h w) (ht:qaV G w t a.tmps) {k:Nat}:∀{ps:List (Nat×Operand)} {B:List (Nat×Nat×qh)},qhE gl k ps = some B->ps.length = B.length/\
  ∀(n i:Nat) (x:Operand) (off size:Nat) (ax:qh),ps[n]? = some (i,x)->B[n]? = some (off,size,ax)->(off,size) = (i * k,k)/\G.V (ev t ax) (a.eval x)
 | [],B,hp=>by simp only [qhE,jl] at hp;subst hp;simp
 | (i,x) :: ps,B,hp=>by
  simp only [qhE] at hp
  split at hp
  ·rename_i ax r hx I
   cases hp
   obtain ⟨h1,h2⟩:=qgU hr ht I
   refine ⟨by simp [h1],λn j y off size ay hn E=>?_⟩
   cases n with
   | zero=>
    simp only [jC,jl,jv] at hn E
    obtain ⟨rfl,rfl⟩:=hn
    obtain ⟨rfl,rfl,rfl⟩:=E
    exact ⟨rfl,qah hr ht hx⟩
   | succ n=>exact h2 n j y off size ay (by simpa using hn) (by simpa using E)
  ·cases hp
theorem qex (hr:Rel P gl G h w) (ht:qaV G w t a.tmps) (k:Nat):∀{ps:List (Nat×Operand)} {B:List (Nat×qh)},qfP gl ps = some B->ps.length = B.length/\
  ∀(n i:Nat) (x:Operand) (j:Nat) (ax:qh),ps[n]? = some (i,x)->B[n]? = some (j,ax)->i = j/\G.V (ev t ax) (a.eval x)
 | [],B,hp=>by simp only [qfP,jl] at hp;subst hp;simp
 | (i,x) :: ps,B,hp=>by
  simp only [qfP] at hp
  split at hp
  ·rename_i ax r hx I
   cases hp
   obtain ⟨h1,h2⟩:=qex hr ht k I
   refine ⟨by simp [h1],λn i' y j ay hn E=>?_⟩
   cases n with
   | zero=>
    simp only [jC,jl,jv] at hn E
    obtain ⟨rfl,rfl⟩:=hn
    obtain ⟨rfl,rfl⟩:=E
    exact ⟨rfl,qah hr ht hx⟩
   | succ n=>exact h2 n i' y j ay (by simpa using hn) (by simpa using E)
  ·cases hp
theorem qfz {γ:Nat->Option Nat} {imm:Nat->Nat->Option Value} {v:Value} {z:qa} (hz:qfG v = some z):qg γ imm z.cells v.cells.toList:=by
 unfold qfG at hz
 split at hz
 ·obtain ⟨xs,hx,rfl⟩:=qcf hz
  exact (qib hx).1
 ·split at hz
  ·rename_i hh;simp only [Array.isEmpty_iff] at hh;subst hh;cases hz
   simp only [qa.cells,Value.cells,qg]
   exact ⟨_,[],rfl,by simp only [qC];exact ⟨#[],rfl,by simp [qg]⟩,rfl⟩
  ·cases hz
 ·have h1:=qfy (γ:=γ) (imm:=imm) hz
  have e1:z.cells = [z]:=by
   unfold qc1 at hz
   split at hz <;> first | (cases hz;rfl) | (split at hz <;> cases hz;rfl) | cases hz
  have e2:v.cells = #[v]:=by
   unfold qc1 at hz
   split at hz <;> first | rfl | (cases hz)
  rw [e1,e2]
  simp only [qg]
  exact ⟨v,[],rfl,h1,rfl⟩
theorem qdg {ty:TypeId} {z:qa} (hz:qbD P ty = some z) (w:World):∃u,(zeroValue ty).run P w = .ok u w/\(∀γ imm,qg γ imm z.cells u.cells.toList):=by
 unfold qbD at hz
 split at hz
 ·rename_i i hi
  obtain ⟨u,hu,hc⟩:=qA (by simpa [jF] using hz)
  exact ⟨u,by simp [zeroValue,typeInfo,hi,hu],λγ imm=>qfz hc⟩
 ·cases hz
theorem qiY (hr:Rel P gl G h w) (ht:qaV G w t a.tmps) {o:Oper} {ty:TypeId} {ps:Array (Nat×Operand)} {B:List (Nat×Nat×qh)} {v z:qa} {fs:Array Field} (ho:o.op = .build ty ps)
  (hu:P.underlying ty = some (.struct fs)) (M:(fs.all λf=>(qdz P f.type).isSome) = true) (hz:qbD P ty = some z) (a1:qhF P gl fs ps.toList = some B)
  (hp:pureV t (.build z.cells B) = some v):qbP P G w a o v:=by
 obtain ⟨u,S,U⟩:=qdg hz w
 simp only [pureV] at hp
 obtain ⟨cs,a8,rfl⟩:=qcf hp
 obtain ⟨h1,h2⟩:=qgV hr ht a1
 obtain ⟨c',e1,e2⟩:=qeP (γ:=G.γ) (imm:=G.imm) (λi=>(fs.map λf=>(f.offset,(qdz P f.type).getD 0))[i]?) (ps.toList.map λ(i,x)=>(i,a.eval x)) (B.map λ(o,s,x)=>(o,s,ev t x)) z.cells u.cells cs (U _ _) (by simpa using h1)
  (λn i v off size x hn J=>by
   simp only [ju,Option.map_eq_some_iff] at hn J
   obtain ⟨⟨i',x'⟩,a7,I⟩:=hn
   obtain ⟨⟨ab,aa,ac⟩,a6,E⟩:=J
   simp only [jv] at I E
   obtain ⟨rfl,rfl⟩:=I
   obtain ⟨rfl,rfl,rfl⟩:=E
   exact h2 n _ _ _ _ _ a7 a6) a8
 refine ⟨.agg c',?_,by simp only [qc.V,qC];exact ⟨c',rfl,e2⟩,rfl⟩
 simp only [execOp,ho]
 refine qdx ?_
 simp only [Instr.build,Sem.run_bind,S,Result.andThen_ok,run_underlying hu,qny M]
 have:(ps.map λ(i,x)=>(i,a.eval x)).toList = ps.toList.map λ(i,x)=>(i,a.eval x):=by simp
 rw [this,e1]
 rfl
theorem qiX (hr:Rel P gl G h w) (ht:qaV G w t a.tmps) {o:Oper} {ty e:TypeId} {ps:Array (Nat×Operand)} {B:List (Nat×Nat×qh)} {v z:qa} {n k:Nat} (ho:o.op = .build ty ps)
  (hu:P.underlying ty = some (.array n e)) (hk:qdz P e = some k) (hz:qbD P ty = some z) (U:qhE gl k ps.toList = some B)
  (hp:pureV t (.build z.cells B) = some v):qbP P G w a o v:=by
 obtain ⟨u,M,S⟩:=qdg hz w
 simp only [pureV] at hp
 obtain ⟨cs,a7,rfl⟩:=qcf hp
 obtain ⟨h1,h2⟩:=qgU hr ht U
 obtain ⟨c',e1,e2⟩:=qeP (γ:=G.γ) (imm:=G.imm) (λi=>some (i * k,k)) (ps.toList.map λ(i,x)=>(i,a.eval x)) (B.map λ(o,s,x)=>(o,s,ev t x)) z.cells u.cells cs (S _ _) (by simpa using h1)
  (λn i v off size x hn J=>by
   simp only [ju,Option.map_eq_some_iff] at hn J
   obtain ⟨⟨i',x'⟩,a6,I⟩:=hn
   obtain ⟨⟨aa,a8,ab⟩,a1,E⟩:=J
   simp only [jv] at I E
   obtain ⟨rfl,rfl⟩:=I
   obtain ⟨rfl,rfl,rfl⟩:=E
   obtain ⟨q1,q2⟩:=h2 n _ _ _ _ _ a6 a1
   exact ⟨by rw [q1],q2⟩) a7
 refine ⟨.agg c',?_,by simp only [qc.V,qC];exact ⟨c',rfl,e2⟩,rfl⟩
 simp only [execOp,ho]
 refine qdx ?_
 simp only [Instr.build,Sem.run_bind,M,Result.andThen_ok,run_underlying hu,qbn hk]
 have:(ps.map λ(i,x)=>(i,a.eval x)).toList = ps.toList.map λ(i,x)=>(i,a.eval x):=by simp
 rw [this,e1]
 rfl
end
section
variable {γ:Nat->Option Nat} {imm:Nat->Nat->Option Value}
theorem qW.of_get {xs:List qa} {b p k:Nat} (h:∀(i:Nat) (x:qa),xs[i]? = some x->x.cells.length = k/\qar γ imm x.cells b (p + i * k)):qW γ imm xs b p:=by
 induction xs generalizing p with
 | nil=>simp [qW]
 | cons x xs ih=>
  obtain ⟨h1,h2⟩:=h 0 x rfl
  refine qW.cons (by simpa using h2) ?_
  rw [h1]
  refine ih λi y hy=>?_
  obtain ⟨h3,h4⟩:=h (i + 1) y (by simpa using hy)
  refine ⟨h3,?_⟩
  rwa [Nat.add_mul,Nat.one_mul,jy (i * k),<-jx] at h4
theorem qbs {x:qa} (h:x.storable = true):x.cells = [x]:=by
 cases x <;> first | rfl | (simp [qa.storable] at h)
theorem qmn {k len b p:Nat} {cs:List qa} {c:List Value} (h:qg γ imm cs c) (hl:len * k <= cs.length) (hs:cs.all qa.storable = true) (hi:∀(o:Nat) (v:Value),c[o]? = some v->v ≠ qdw->imm b (p + o) = some v) :
  (∀x ∈ elems k len cs,x.cells.length = k)/\qW γ imm (elems k len cs) b p/\(elems k len cs).length = len:=by
 have key:∀(i:Nat) (x:qa),(elems k len cs)[i]? = some x->x.cells.length = k/\qar γ imm x.cells b (p + i * k):=by
  intro i x hx
  simp only [elems,ju,Option.map_eq_some_iff] at hx
  obtain ⟨j,hj,rfl⟩:=hx
  obtain ⟨E,rfl⟩:=je.1 hj
  simp only [List.length_range] at E
  simp only [List.getElem_range]
  by_cases hk:k = 1
  ·subst hk
   simp only [if_true,Nat.mul_one] at hl ⊢
   have B:i < cs.length:=zo
   have I:(cs[i]).storable = true:=by rw [List.all_eq_true] at hs;exact hs _ (List.getElem_mem B)
   have hg:cs.getD i .undef = cs[i]:=by simp [List.getD,ji B]
   rw [hg,qbs I]
   obtain ⟨v,hv,hr⟩:=h.get (ji B)
   simp only [jD,jE,qar]
   exact ⟨trivial,⟨v,hi i v hv (qcN hr),hr⟩,trivial⟩
  ·simp only [if_neg hk,qa.cells]
   have M:i * k + k <= cs.length:=by
    have:(i + 1) * k <= len * k:=Nat.mul_le_mul_right k E
    rw [Nat.add_mul,Nat.one_mul] at this
    omega
   refine ⟨by simp;omega,qar.of_get λo y hy=>?_⟩
   have J:o < k:=by have:=(je.1 hy).1;simp at this;omega
   rw [List.getElem?_take_of_lt J,List.getElem?_drop] at hy
   obtain ⟨v,hv,hr⟩:=h.get hy
   exact ⟨v,by rw [jx];exact hi _ v hv (qcN hr),hr⟩
 refine ⟨λx hx=>?_,qW.of_get (k:=k) key,by simp [elems]⟩
 obtain ⟨i,hi⟩:=List.getElem?_of_mem hx
 exact (key i x hi).1
end
section
variable {P:Program} {gl:Nat->Option (List qa)} {G:qc} {w:World} {h:List qb} {t:List qa} {a:Act}
theorem qgB {α:Type} (zs:List α) (hk:zs.length ≠ 0):∀(n i:Nat) (x:α),((List.replicate n zs).flatten)[i]? = some x->zs[i % zs.length]? = some x
 | 0,i,x,h=>by simp at h
 | n + 1,i,x,h=>by
  simp only [List.replicate_succ,List.flatten_cons] at h
  by_cases hi:i < zs.length
  ·rw [ja hi] at h
   rwa [Nat.mod_eq_of_lt hi]
  ·rw [jc zo] at h
   have:=qgB zs hk n _ x h
   rwa [<-Nat.mod_eq_sub_mod zo] at this
theorem qgZ {γ:Nat->Option Nat} {imm:Nat->Nat->Option Value} {zs:List qa} {u:Array Value} (hz:qg γ imm zs u.toList) (k len:Nat) (hk:zs.length = k) (J:k ≠ 0) :
  qg γ imm ((List.replicate len zs).flatten) (((Array.range (len * k)).map (u[· % u.size]!)).toList):=by
 have hu:u.size = k:=by have:=hz.length;simp at this;omega
 refine qg.of_get ?_ λi x v hx hv=>?_
 ·simp [hk]
 ·simp only [Array.toList_map,Array.toList_range,ju,Option.map_eq_some_iff] at hv
  obtain ⟨j,hj,rfl⟩:=hv
  obtain ⟨E,rfl⟩:=je.1 hj
  simp only [List.length_range] at E
  simp only [List.getElem_range]
  have I:i % k < k:=Nat.mod_lt _ zo
  have B:zs[i % k]? = some x:=by
   have:=qgB zs zo len i x hx
   rwa [hk] at this
  obtain ⟨v,hv,hr⟩:=hz.get B
  rw [hu]
  simp only [Array.getElem?_toList] at hv
  rw [getElem!_pos u (i % k) zo]
  rw [Array.getElem?_eq_getElem zo] at hv
  cases hv
  exact hr
theorem quM (hr:Rel P gl G h w) (ht:qaV G w t a.tmps) {o:Oper} {ty e:TypeId} {ps:Array (Nat×Operand)} {E:List (Nat×qh)} {v z:qa} {len k:Nat} (ho:o.op = .buildSlice ty len ps)
  (hu:P.underlying ty = some (.slice e)) (hk:qdz P e = some k) (a6:k ≠ 0) (hz:qbD P e = some z) (ad:qfP gl ps.toList = some E)
  (hp:pureV t (.list k z.cells len E) = some v) :
  ∃(c:Array Value) (u:Value),(execOp a.eval o).run P w = .ok (.value u) (w.alloc (.cells c e))/\(G.withRow w.heap.size c c.size none).V v u/\v.dim = v:=by
 simp only [pureV] at hp
 split at hp
 ·rename_i J
  split at hp
  ·rename_i cs a7
   split at hp
   ·rename_i ac
    cases hp
    obtain ⟨u0,ab,I⟩:=qdg hz w
    obtain ⟨h1,h2⟩:=qex hr ht k ad
    have ak:u0.cells.size = k:=by have:=(I G.γ G.imm).length;simp at this;omega
    obtain ⟨c',e1,e2⟩:=qeP (γ:=G.γ) (imm:=G.imm) (λi=>some (i * k,k)) (ps.toList.map λ(i,x)=>(i,a.eval x)) (E.map λ(i,x)=>(i * k,k,ev t x)) _ _ cs (qgZ (I _ _) k len J.1 a6) (by simpa using h1)
     (λn i v off size x hn a1=>by
      simp only [ju,Option.map_eq_some_iff] at hn a1
      obtain ⟨⟨i',x'⟩,af,U⟩:=hn
      obtain ⟨⟨aj,am⟩,ae,S⟩:=a1
      simp only [jv] at U S
      obtain ⟨rfl,rfl⟩:=U
      obtain ⟨rfl,rfl,rfl⟩:=S
      obtain ⟨rfl,q2⟩:=h2 n _ _ _ _ af ae
      exact ⟨rfl,q2⟩) a7
    have aa:∀(parts:List (Nat×Nat×qa)) (xs ys:List qa),q8 xs parts = some ys->ys.length = xs.length:=by
     intro parts
     induction parts with
     | nil=>intro xs ys hf;simp only [q8,jl] at hf;rw [hf]
     | cons p ps ih=>
      intro xs ys hf
      obtain ⟨off,size,x⟩:=p
      simp only [q8] at hf
      split at hf
      ·rename_i hh
       rw [ih _ _ hf]
       simp only [splice,jj,List.length_take,List.length_drop]
       omega
      ·cases hf
    have al:cs.length = len * k:=by rw [aa _ _ _ a7];simp [J.1]
    have B:=Ext.newRow 0 c' e c'.size none hr
    obtain ⟨n,hn⟩:=qay cs
    have e3:qg (G.withRow w.heap.size c' c'.size none).γ (G.withRow w.heap.size c' c'.size none).imm cs c'.toList:=qg.mono B.ik n (λi b _=>B.gk i b) cs _ hn e2
    obtain ⟨s1,s2,s3⟩:=qmn (b:=w.heap.size) (p:=0) (k:=k) (len:=len) e3 zo ac (λo v hv hm=>by
     simp only [qc.withRow,jz,if_true]
     simp only [Array.getElem?_toList] at hv
     rw [if_pos (jf.1 hv).1,hv]
     exact qbo.2 ⟨rfl,hm⟩)
    refine ⟨c',.slice (some ⟨w.heap.size,0,none⟩) len len,?_,?_,rfl⟩
    ·simp only [execOp,ho]
     refine qdx ?_
     have a8:¬ (len * k > 2 ^ 24):=zo
     have e4:(ps.map λ(i,x)=>(i,a.eval x)).toList = ps.toList.map λ(i,x)=>(i,a.eval x):=by simp
     by_cases M:len * k = 0
     ·have ah:len = 0:=by rcases Nat.mul_eq_zero.1 M with h | h;exact h;exact absurd h a6
      subst ah
      simp only [Nat.zero_mul] at e1
      have ai:Instr.fill (λi=>some (i * k,k)) ((Array.range 0).map ((#[]:Array Value)[· % (#[]:Array Value).size]!)) (ps.toList.map λ(i,x)=>(i,a.eval x)) = some c':=by
       have e0:∀f:Nat->Value,(Array.range 0).map f = #[]:=λf=>by apply Array.ext';simp
       rw [e0] at e1 ⊢
       exact e1
      simp only [Instr.buildSlice,Sem.run_bind,run_underlying hu,Result.andThen_ok,qbn hk,Nat.zero_mul,gt_iff_lt,Nat.not_lt_zero,if_false,Sem.run_pure,if_true,e4,ai]
      simp [newRow]
     ·simp only [Instr.buildSlice,Sem.run_bind,run_underlying hu,Result.andThen_ok,qbn hk,if_neg a8,if_neg M,Sem.run_pure,ab,e4,e1]
      simp [newRow]
    ·simp only [qc.V,qC]
     exact ⟨_,_,_,rfl,s3.symm,jo _,λ_=>rfl,by simp,⟨k,s1⟩,.inr ⟨_,_,rfl,s2⟩⟩
   ·cases hp
  ·cases hp
 ·cases hp
end
section
variable {P:Program} {gl:Nat->Option (List qa)} {G G':qc} {w w':World} {h:List qb} {t:List qa} {a:Act} {n:Nat}
theorem Ext.V (he:Ext n G w G' w') {x:qa} {v:Value} (hv:G.V x v):G'.V x v:=by
 obtain ⟨m,hm⟩:=lower_ex x
 exact qC.mono he.ik m (λi b _=>he.gk i b) x v hm hv
theorem Ext.VL (he:Ext n G w G' w') {xs:List qa} {vs:List Value} (hv:G.VL xs vs):G'.VL xs vs:=by
 obtain ⟨m,hm⟩:=qay xs
 exact qg.mono he.ik m (λi b _=>he.gk i b) xs vs hm hv
structure Cfg (P:Program) (gl:Nat->Option (List qa)) (G:qc) (h:List qb) (t:List qa) (a:Act) (w:World):Prop where
 rel:Rel P gl G h w
 tr:qaV G w t a.tmps
theorem Cfg.put (hc:Cfg P gl G h t a w) (dst:Option Nat) {x:qa} {v:Value} (hv:G.V x v) (hd:x.dim = x):Cfg P gl G h (AE.put dst x t) (a.put dst v) w:=by
 refine ⟨hc.rel,?_⟩
 have:=hc.tr.put dst hv hd a.defers
 exact this
def Nx (nx:Next) (u:Value):Prop:=nx = .value u\/(nx = .skip/\u = undef)
def qoi (o:Oper):Prop:=(∃t x y,o.op = .store t x y)\/∃c,o.op = .call c/\c.callee = .builtin .append
def qsO (P:Program) (gl:Nat->Option (List qa)) (o:Oper):Prop:=∃k as,qfF P gl o = some (.hx k as)
def Did (P:Program) (gl:Nat->Option (List qa)) (G:qc) (w:World) (a:Act) (o:Oper) (n:Nat) (h':List qb) (t':List qa):Prop:=
 ∃nx u w' G',(execOp a.eval o).run P w = .ok nx w'/\Nx nx u/\(¬ qoi o->¬ qsO P gl o->∀b,b < w.heap.size->w'.heap[b]? = w.heap[b]?)/\Ext n G w G' w'/\Cfg P gl G' h' t' (a.put o.dst u) w'
theorem qgt (hc:Cfg P gl G h t a w) {o:Oper} {v:qa} (hg:qbP P G w a o v) (n:Nat):Did P gl G w a o n h (AE.put o.dst v t):=by
 obtain ⟨u,h1,h2,h3⟩:=hg
 exact ⟨_,u,w,G,h1,.inl rfl,λ_ _ _ _=>rfl,Ext.refl n G w,hc.put o.dst h2 h3⟩
theorem qti (hc:Cfg P gl G h t a w) {o:Oper} {v:qa} {c:Array Value} {e:TypeId} {u:Value} (h1:(execOp a.eval o).run P w = .ok (.value u) (w.alloc (.cells c e)))
  (h2:(G.withRow w.heap.size c c.size none).V v u) (h3:v.dim = v) (n:Nat):Did P gl G w a o n h (AE.put o.dst v t):=by
 have B:Cfg P gl (G.withRow w.heap.size c c.size none) h t a (w.alloc (.cells c e)):=⟨hc.rel.newRow c e c.size none,hc.tr.newRow hc.rel c e c.size none⟩
 exact ⟨_,u,_,_,h1,.inl rfl,λ_ _ _ hb=>qaa w _ hb,Ext.newRow n c e c.size none hc.rel,B.put o.dst h2 h3⟩
theorem qji {cs:List qa} {o:Nat} {xs:List qa} {k:Nat} (h:(cs.map qa.dim)[o]? = some (.lst xs (.own k))):False:=by
 simp only [ju,Option.map_eq_some_iff] at h
 obtain ⟨x,_,hx⟩:=h
 have:=qbE x
 rw [hx] at this
 simp [qa.dim] at this
theorem qo1 (hc:Cfg P gl G h t a w) {o:Oper} {cs:List qa} {c:Array Value} {e:TypeId} (J:G.VL cs c.toList)
  (h1:(execOp a.eval o).run P w = .ok (.value (.pointer (some ⟨w.heap.size,0,none⟩))) (w.alloc (.cells c e))) :
  Did P gl G w a o h.length (h ++ [.cells (cs.map qa.dim)]) (AE.put o.dst (.ptr h.length 0) t):=by
 have hi:G.γ h.length = none:=by
  cases hg:G.γ h.length with
  | none=>rfl
  | some b=>have:=(hc.rel.γlt _ b hg).1;omega
 have B:Ext h.length G w (G.withBox h.length w.heap.size) (w.alloc (.cells c e)):=Ext.newBox hi (jo _) _
 have E:=hc.rel.newBox (o:=.cells c e) (bx:=.cells (cs.map qa.dim)) (h':=h ++ [.cells (cs.map qa.dim)]) hi (by simp) (by simp) (λj hj b hb=>by
  rw [ja (hc.rel.γlt j b hb).1]) (by simp) ⟨c,e,qax w _,qeR (B.VL J).dims,λo xs k v ho _=>(qji ho).elim⟩
 obtain ⟨m,hm⟩:=qay t
 have I:qaV (G.withBox h.length w.heap.size) (w.alloc (.cells c e)) t a.tmps:=
  hc.tr.keep hm B.ik (λi b _=>B.gk i b) (λ_ _ h=>h) (λb i hb=>qaa w _ (hc.rel.ow b _ hb).1) (λ_ _ _ _ h=>h)
 refine ⟨_,_,_,_,h1,.inl rfl,λ_ _ _ hb=>qaa w _ hb,B,(Cfg.mk E I).put o.dst ?_ rfl⟩
 simp only [qc.V,qC,qc.withBox,if_true]
 exact ⟨_,rfl,rfl⟩
theorem qxl (hc:Cfg P gl G h t a w) {o:Oper} {e:TypeId} {z:qa} (ho:o.op = .alloc e) (hz:qbD P e = some z) :
  Did P gl G w a o h.length (h ++ [.cells (z.cells.map qa.dim)]) (AE.put o.dst (.ptr h.length 0) t):=by
 obtain ⟨u,hu,hr⟩:=qdg hz w
 refine qo1 hc (hr _ _) (c:=u.cells) (e:=e) ?_
 simp only [execOp,ho]
 refine qdx ?_
 simp [Instr.alloc,hu,newVar,newRow]
theorem qo2 (hc:Cfg P gl G h t a w) {o:Oper} {e:TypeId} {x:Operand} {ax:qh} (ho:o.op = .box e x) (hx:opd gl x = some ax) (hs:((ev t ax).cells.map qa.dim).all qa.storable = true) :
  Did P gl G w a o h.length (h ++ [.cells ((ev t ax).cells.map qa.dim)]) (AE.put o.dst (.ptr h.length 0) t):=by
 have hv:=qah hc.rel hc.tr hx
 have B:(ev t ax).cells.all qa.storable = true:=by
  rw [List.all_map] at hs
  rw [List.all_eq_true] at hs ⊢
  intro y hy
  have:=hs y hy
  cases y <;> first | exact this | rfl
 refine qo1 hc (qcu hv B).1 (e:=e) ?_
 simp only [execOp,ho]
 refine qdx ?_
 simp [Instr.box,newVar,newRow]
theorem qar.list {γ:Nat->Option Nat} {imm:Nat->Nat->Option Value}:∀{cs:List qa} {b p:Nat},qar γ imm cs b p->∃vs,qg γ imm cs vs/\∀(j:Nat) (v:Value),vs[j]? = some v->imm b (p + j) = some v
 | [],b,p,_=>⟨[],by simp [qg],λj v h=>by simp at h⟩
 | c :: cs,b,p,hc=>by
  simp only [qar] at hc
  obtain ⟨⟨v,h1,h2⟩,h3⟩:=hc
  obtain ⟨vs,h4,h5⟩:=qar.list h3
  refine ⟨v :: vs,by simp only [qg];exact ⟨v,vs,rfl,h2,h4⟩,λj u hu=>?_⟩
  cases j with
  | zero=>simp at hu;subst hu;exact h1
  | succ j=>
   simp at hu
   have:=h5 j u hu
   rwa [jx,jy 1 j] at this
theorem qlH {ty:TypeId} {k:Option Nat} (hk:tyk P ty = some k) {b q o:Nat} {cs:List qa} {vs:List Value} (hc:G.VL cs vs) (B:∀(j:Nat) (v:Value),vs[j]? = some v->w.cell? ⟨b,q + j,none⟩ = some v)
  {x:qa} (hx:cut cs o k = some x):∃u,(Instr.loadAt ty (.pointer (some ⟨b,q + o,none⟩))).run P w = .ok u w/\G.V x u/\x.dim = x:=by
 obtain ⟨h1,h2⟩:=qfa hk w
 obtain ⟨h3,h4,h5⟩:=qoW hc hx
 cases k with
 | none=>
  simp only at h3 h5
  refine ⟨_,?_,h3,h4⟩
  have hg:vs[o]? = some (vs.getD o undef):=by rw [ji h5];simp [List.getD,ji h5]
  have:=B o _ hg
  simp only [Instr.loadAt,Instr.sureAddr,Sem.run_bind,Sem.run_pure,Result.andThen_ok,loadVar,h1,Option.isSome_none,jn,if_false,run_load,this]
 | some k=>
  simp only at h3 h5
  refine ⟨_,?_,h3,h4⟩
  have hl:=run_loadCells_list (P:=P) w ⟨b,q + o,none⟩ ((vs.drop o).take k) (λj v hj=>by
   have I:j < k:=by have:=(je.1 hj).1;simp at this;omega
   rw [List.getElem?_take_of_lt I,List.getElem?_drop] at hj
   rw [qbQ,jx]
   exact B _ v hj)
  have E:((vs.drop o).take k).length = k:=by simp;omega
  rw [E] at hl
  simp only [Instr.loadAt,Instr.sureAddr,Sem.run_bind,Sem.run_pure,Result.andThen_ok,loadVar,h1,Option.isSome_some,if_true,h2 k rfl,hl]
theorem qv7 (hr:Rel P gl G h w) {ty:TypeId} {k:Option Nat} (hk:tyk P ty = some k) {p:qa} {vp:Value} (hp:G.V p vp) {x:qa} (hx:qcl h p k = some x) :
  ∃u,(Instr.loadAt ty vp).run P w = .ok u w/\G.V x u/\x.dim = x:=by
 unfold qcl at hx
 split at hx
 ·simp only [qc.V,qC] at hp
  obtain ⟨b,hb,rfl⟩:=hp
  split at hx
  ·rename_i cs I
   obtain ⟨c,e,h1,h2,_⟩:=hr.box _ b _ hb I
   have:=qlH (P:=P) (w:=w) hk (b:=b) (q:=0) h2 (λj v hj=>by
    have hj:c[j]? = some v:=by
     have hl:=(je.1 hj).1
     rw [List.getElem?_take_of_lt (by simp at hl;omega)] at hj
     simpa using hj
    simp [World.cell?,h1,hj]) hx
   simpa using this
  ·cases hx
 ·simp only [qc.V,qC] at hp
  obtain ⟨b,q,rfl,E⟩:=hp
  obtain ⟨vs,h1,h2⟩:=E.list
  exact qlH hk h1 (λj v hj=>by
   obtain ⟨x,_,B⟩:=h1.get' hj
   exact (hr.imm b _ v (h2 j v hj) (qcN B)).1) hx
 ·cases hx
theorem qAv (hc:Cfg P gl G h t a w) {o:Oper} {ty:TypeId} {x:Operand} {ax:qh} {k:Option Nat} {v:qa} (ho:o.op = .load ty x) (hk:tyk P ty = some k) (hx:opd gl x = some ax) (hl:qcl h (ev t ax) k = some v) (n:Nat) :
  Did P gl G w a o n h (AE.put o.dst v t):=by
 obtain ⟨u,h1,h2,h3⟩:=qv7 hc.rel hk (qah hc.rel hc.tr hx) hl
 exact qgt hc ⟨u,by simp only [execOp,ho];exact qdx h1,h2,h3⟩ n
theorem qo3 (hc:Cfg P gl G h t a w) {o:Oper} {sT dT e:TypeId} {x:Operand} {ax:qh} {v:qa} (ho:o.op = .convert sT dT x) (hx:opd gl x = some ax) (hs:P.underlying sT = some .string) (hd:P.underlying dT = some (.slice e))
  (he:qDw (P.underlying e) = true) (hp:pureV t (.cvb ax) = some v) (n:Nat):Did P gl G w a o n h (AE.put o.dst v t):=by
 have hu:P.underlying e = some (.int .u8):=by
  unfold qDw at he
  split at he
  ·assumption
  ·cases he
 have hv:=qah hc.rel hc.tr hx
 simp only [pureV] at hp
 split at hp
 ·rename_i l hl
  cases hp
  rw [hl] at hv
  simp only [qc.V,qC] at hv
  obtain ⟨b,hb,rfl⟩:=hv
  have a1:b.size = b.data.toList.length:=by rw [Array.length_toList];rfl
  have hq:(Question.appendCap b.size 0 e).forced = false:=rfl
  generalize B:(Question.appendCap b.size 0 e).cut (w.tape w.drawn (Question.appendCap b.size 0 e)) = newCap
  have a7:b.size <= newCap:=by rw [<-B];simp only [Question.cut];omega
  let c:Array Value:=(b.data.map λc=>Value.int .u8 c.toNat) ++ Array.replicate (newCap - b.size) (.int .u8 0)
  have M:(execOp a.eval o).run P w = .ok (.value (.slice (some ⟨w.heap.size,0,none⟩) b.size newCap)) (w.drew.alloc (.cells c e (c.size,c.size + 1))):=by
   simp only [execOp,ho]
   refine qdx ?_
   have a8:(w.drew.alloc (.cells c e)).freeze ⟨w.heap.size,c.size,none⟩ 1 = w.drew.alloc (.cells c e (c.size,c.size + 1)):=by
    simp only [World.freeze]
    rw [if_neg (by decide)]
    simp only [World.alloc,World.drew]
    congr 1
    apply Array.ext_getElem?
    intro j
    rw [Array.getElem?_modify,Array.getElem?_push,Array.getElem?_push]
    by_cases e1:j = w.heap.size
    ·subst e1;simp
    ·rw [if_neg (λe=>e1 e.symm),if_neg e1,if_neg e1]
   have E:(w.drew.alloc (.cells c e)).shape? w.heap.size = some (e,c.size):=by
    have:=qax w.drew (.cells c e)
    simp only [World.shape?]
    rw [show w.heap.size = w.drew.heap.size from rfl,this]
   simp only [convert,Sem.run_bind,run_underlying hs,run_underlying hd,run_underlying hu,Result.andThen_ok,hb,Conv.stringToBytes,run_choose_drew,hq,jn,if_false,B,newRow,run_newObj_alloc,Sem.run_pure,markStringish,run_shape]
   have h5:(Array.map (λb=>Value.int IntKind.u8 ↑b.toNat) b.data ++ Array.replicate (newCap - b.size) (Value.int IntKind.u8 0)) = c:=rfl
   simp only [h5]
   rw [show w.drew.heap.size = w.heap.size from rfl]
   simp only [E,run_freeze,a8,Result.andThen_ok]
  have I:Rel P gl G h w.drew:=hc.rel.of_drew _
  have U:qaV G w.drew t a.tmps:=hc.tr.of_drew _
  have f1:=I.newRow c e c.size none (c.size,c.size + 1)
  have f2:=qaV.newRow I U c e c.size none (c.size,c.size + 1)
  have f3:Ext n G w _ _:=((Ext.refl n G w).drew (w.drawn + 1)).trans (jo n) (Ext.newRow n c e c.size none I (c.size,c.size + 1))
  have aa:Cfg P gl (G.withRow w.heap.size c c.size none) h t a (w.drew.alloc (.cells c e (c.size,c.size + 1))):=⟨f1,f2⟩
  refine ⟨_,_,_,_,M,.inl rfl,λ_ _ b hb=>qaa w.drew _ hb,f3,aa.put o.dst ?_ rfl⟩
  simp only [qc.V,qC]
  refine ⟨_,_,_,rfl,by rw [a1];simp [qh6],a7,by simp,by simp,⟨1,λy hy=>?_⟩,.inr ⟨_,_,rfl,qW.of_get (k:=1) λi y hy=>?_⟩⟩
  ·simp only [qh6,List.mem_map] at hy
   obtain ⟨z,_,rfl⟩:=hy
   rfl
  ·simp only [qh6,ju,Option.map_eq_some_iff] at hy
   obtain ⟨z,hz,rfl⟩:=hy
   have a6:i < b.data.size:=by have:=(je.1 hz).1;simpa using this
   have S:b.data[i]? = some z:=by simpa using hz
   have J:c[i]? = some (.int .u8 z.toNat):=by
    simp only [c]
    rw [jG (by simpa using a6)]
    simp [S]
   refine ⟨rfl,?_⟩
   simp only [qa.cells,qar,qc.withRow,jz,Nat.mul_one,if_true]
   refine ⟨⟨_,?_,rfl⟩,trivial⟩
   rw [if_pos (jf.1 J).1]
   exact qbo.2 ⟨J,by simp [qdw]⟩
 ·cases hp
end
def qc.give (G:qc) (b:Nat) (ℓ:Option Loc):qc:={ γ:=G.γ,imm:=G.imm,ow:=λx=>if x = b then ℓ else G.ow x}
section
variable {P:Program} {gl:Nat->Option (List qa)} {G G':qc} {w w':World} {h:List qb} {t:List qa} {a:Act} {n:Nat}
theorem Rel.give (hr:Rel P gl G h w) {b:Nat} {B ℓ:Loc} (hb:G.ow b = some B) (J:∀(id o:Nat) (cs:List qa) (xs:List qa) (k:Nat),B = .cell id o->h[id]? = some (.cells cs)->cs[o]? = some (.lst xs (.own k))->False) :
  Rel P gl (G.give b (some ℓ)) h w:=by
 refine ⟨hr.γlt,hr.inj,λi b' bx hi hx=>?_,hr.imm,hr.immγ,hr.immK,λb' M I=>?_,hr.glob⟩
 ·have E:=hr.box i b' bx hi hx
  cases bx with
  | cells cs=>
   obtain ⟨c,e,h1,h2,h3⟩:=E
   refine ⟨c,e,h1,h2,λo xs k v ho hv=>?_⟩
   obtain ⟨b2,p,len,cap,c2,e2,rfl,k1,k2⟩:=h3 o xs k v ho hv
   refine ⟨b2,p,len,cap,c2,e2,rfl,?_,k2⟩
   have:b2 ≠ b:=λe3=>by
    subst e3
    rw [hb] at k1
    cases k1
    exact J i o cs xs k rfl hx ho
   simpa [qc.give,this] using k1
  | loop _ _ _ _ _ _=>obtain ⟨L,h1,h2⟩:=E;exact ⟨L,h1,{ h2 with tmps:=h2.tmps}⟩
  | map _ _=>obtain ⟨me,h1,h2⟩:=E;exact ⟨me,h1,qae.mono (G:=G) (G':=G.give b (some ℓ)) (λ_ _ _ h=>h) _ (λ_ _ _ h=>h) (qcA _).choose_spec h2⟩
  | iter _ _ _ _=>obtain ⟨mm,h1,h2⟩:=E;exact ⟨mm,h1,h2⟩
  | dead=>trivial
 ·simp only [qc.give] at I
  split at I
  ·rename_i e1;subst e1;exact hr.ow b' B hb
  ·exact hr.ow b' M I
theorem Ext.give (n:Nat) (G:qc) (w:World) {b:Nat} {B:Loc} (ℓ:Option Loc) (hb:G.ow b = some B):Ext n G w (G.give b ℓ) w:=by
 refine ⟨λ_ _ h=>h,λ_ _ h=>.inl h,λ_ _ _ h=>h,λ_ _ _ h=>.inl h,λx hx=>?_,jo _,λ_ _ _=>rfl,(Ext.refl n G w).loops,rfl,rfl,rfl⟩
 simp only [qc.give] at hx
 split at hx
 ·rename_i e1;subst e1;exact .inl (by simp [hb])
 ·exact .inl hx
theorem getD_some {t:List qa} {i:Nat} {xs:List qa} {f:qgh} (h:t.getD i .undef = .lst xs f):t[i]? = some (.lst xs f):=by
 by_cases hi:i < t.length
 ·simpa [List.getD,ji hi] using h
 ·simp [List.getD,jt (Nat.le_of_not_lt hi)] at h
theorem qgX {t:List qa} {x:qh} (hx:∀i xs k,x = .t i->t[i]? ≠ some (.lst xs (.own k))) (hc:∀v,x = .c v->v.dim = v):(raw t x).dim = raw t x/\qaR t x = t:=by
 cases x with
 | c v=>exact ⟨hc v rfl,rfl⟩
 | t i=>
  simp only [raw,qaR]
  cases hg:t.getD i .undef with
  | lst xs f=>
   cases f with
   | own k=>exact absurd (getD_some hg) (hx i xs k rfl)
   | no=>exact ⟨rfl,rfl⟩
   | full=>exact ⟨rfl,rfl⟩
  | _=>exact ⟨rfl,rfl⟩
theorem qjl {x:Operand} {ax:qh} (hx:opd gl x = some ax):∀v,ax = .c v->v.dim = v:=by
 intro v hv
 subst hv
 cases x with
 | tmp i=>simp [opd] at hx
 | const u=>
  simp only [opd] at hx
  obtain ⟨c,hc,he⟩:=qcf hx
  cases he
  exact qoV hc
 | global g=>
  simp only [opd] at hx
  obtain ⟨c,hc,he⟩:=qcf hx
  cases he
  rfl
 | func f=>simp only [opd,jl,qh.c.injEq] at hx;subst hx;rfl
theorem qif {x:Operand} {i:Nat} (hx:opd gl x = some (.t i)):x = .tmp i:=by
 cases x with
 | tmp j=>simp [opd] at hx;rw [hx]
 | const u=>simp only [opd] at hx;obtain ⟨c,_,he⟩:=qcf hx;cases he
 | global g=>simp only [opd] at hx;obtain ⟨c,_,he⟩:=qcf hx;cases he
 | func f=>simp [opd] at hx
theorem qaV.drain (ht:qaV G w t a.tmps) {i:Nat} {xs:List qa} {f:qgh} (hi:t[i]? = some (.lst xs f)):qaV G w (t.set i (.lst xs .no)) a.tmps:=by
 obtain ⟨v,hv,hr⟩:=ht.rel.get hi
 have B:G.VL (t.set i (.lst xs .no)) (a.tmps.toList.set i v):=ht.rel.set i (qjj hr)
 have e:a.tmps.toList.set i v = a.tmps.toList:=by
  obtain ⟨h1,h2⟩:=je.1 hv
  rw [<-h2];exact List.set_getElem_self h1
 rw [e] at B
 refine ⟨B,λj ys k u hj hu=>?_⟩
 by_cases e1:i = j
 ·subst e1
  rw [jh (je.1 hi).1] at hj
  simp at hj
 ·rw [jg e1] at hj
  exact ht.own j ys k u hj hu
theorem qh0 {i:Nat} {v:Value} (hv:a.tmps.toList[i]? = some v):a.eval (.tmp i) = v:=by
 simp only [Array.getElem?_toList] at hv
 obtain ⟨h1,h2⟩:=jf.1 hv
 simp [Act.eval,Array.getD,h1,h2]
theorem qaV.putOwn {ts:Array Value} (ht:qaV G w t ts) (d:Nat) {x:List qa} {k:Nat} {v:Value} (hv:G.V (.lst x (.own k)) v) (ho:qsU G w (.tmp d) k v) (ds:List Deferred) :
  qaV G w (t.set d (.lst x (.own k))) ((({ tmps:=ts,defers:=ds}:Act).put (some d) v).tmps):=by
 refine ⟨by simpa [Act.put] using ht.rel.set d hv,λi xs k' u hi hu=>?_⟩
 simp only [Act.put] at hu
 by_cases e:d = i
 ·subst e
  have hd:d < t.length:=by
   by_cases hd:d < t.length
   ·exact hd
   ·rw [jt (by simp;omega)] at hi;cases hi
  rw [jh hd] at hi
  simp only [jl,qa.lst.injEq,qgh.own.injEq] at hi
  obtain ⟨rfl,rfl⟩:=hi
  rw [Array.getElem?_setIfInBounds_self_of_lt (by rw [<-ht.length];exact hd)] at hu
  cases hu
  exact ho
 ·rw [jg e] at hi
  rw [Array.getElem?_setIfInBounds_ne e] at hu
  exact ht.own i xs k' u hi hu
theorem qaV.give (ht:qaV G w t a.tmps) {i:Nat} {xs:List qa} {k b:Nat} {ℓ:Option Loc} (hi:t[i]? = some (.lst xs (.own k))) (hb:G.ow b = some (.tmp i)) :
  qaV (G.give b ℓ) w (t.set i (.lst xs .no)) a.tmps:=by
 have hd:=ht.drain hi
 refine ⟨hd.rel,λj ys k' u hj hu=>?_⟩
 have B:i ≠ j:=λe=>by
  subst e
  rw [jh (je.1 hi).1] at hj
  simp at hj
 obtain ⟨b2,p,len,cap,c,e,rfl,h1,h2⟩:=hd.own j ys k' u hj hu
 refine ⟨b2,p,len,cap,c,e,rfl,?_,h2⟩
 have:b2 ≠ b:=λe2=>by subst e2;rw [hb] at h1;cases h1;exact B rfl
 simpa [qc.give,this] using h1
theorem qxj (hc:Cfg P gl G h t a w) {o:Oper} {x:Operand} {ax:qh} (ho:o.op = .assign x) (hx:opd gl x = some ax) (n:Nat) :
  Did P gl G w a o n h (AE.put o.dst (raw t ax) (qaR t ax)):=by
 have B:(execOp a.eval o).run P w = .ok (.value (a.eval x)) w:=by simp [execOp,ho]
 by_cases E:∃i xs k,ax = .t i/\t[i]? = some (.lst xs (.own k))
 ·obtain ⟨i,xs,k,rfl,hi⟩:=E
  have J:=qif hx
  subst J
  obtain ⟨v,hv,hr⟩:=hc.tr.rel.get hi
  have M:=qh0 hv
  have hg:t.getD i .undef = .lst xs (.own k):=by simp [List.getD,hi]
  have U:qaR t (.t i) = t.set i (.lst xs .no):=by simp only [qaR,hg]
  simp only [raw,hg,U]
  cases hd:o.dst with
  | none=>
   exact ⟨_,_,w,G,B,.inl rfl,λ_ _ _ _=>rfl,Ext.refl n G w,hc.rel,by rw [hd];exact hc.tr.drain hi⟩
  | some d=>
   have S:=hc.tr.own i xs k v hi (by simpa using hv)
   obtain ⟨b,p,len,cap,c,e,rfl,h1,h2⟩:=S
   refine ⟨_,_,w,G.give b (some (.tmp d)),B,.inl rfl,λ_ _ _ _=>rfl,Ext.give n G w _ h1,hc.rel.give h1 (λid o' _ _ _ e1=>by cases e1),?_⟩
   rw [M,hd]
   exact (hc.tr.give hi h1).putOwn d (G:=G.give b (some (.tmp d))) hr ⟨b,p,len,cap,c,e,rfl,by simp [qc.give],h2⟩ a.defers
 ·have I:∀i xs k,ax = .t i->t[i]? ≠ some (.lst xs (.own k)):=λi xs k h1 h2=>E ⟨i,xs,k,h1,h2⟩
  obtain ⟨h1,h2⟩:=qgX I (qjl hx)
  rw [h2]
  exact ⟨_,_,w,G,B,.inl rfl,λ_ _ _ _=>rfl,Ext.refl n G w,hc.put o.dst (qik hc.rel hc.tr hx) h1⟩
end
section
variable {P:Program} {gl:Nat->Option (List qa)} {G G':qc} {w w':World} {h:List qb} {t:List qa} {a:Act} {n:Nat}
theorem qB (w:World) (b x:Nat) (c:Array Value) (h:x ≠ b):(w.setRow b c).heap[x]? = w.heap[x]?:=setRow_other w b x c h
theorem Rel.store (hr:Rel P gl G h w) {id b:Nat} {cs M:List qa} {c c':Array Value} {e:TypeId} (hb:G.γ id = some b) (hid:h[id]? = some (.cells cs)) (hw:w.heap[b]? = some (.cells c e (0,0)))
  (E:G'.γ = G.γ) (hi:G'.imm = G.imm) (aa:∀x,G'.ow x ≠ none->G.ow x ≠ none) (U:∀x S o,S ≠ id->G.ow x = some (.cell S o)->G'.ow x = some (.cell S o))
  (a7:G.VL M (c'.toList.take M.length)) (ae:c'.size = c.size)
  (a8:∀(o:Nat) (xs:List qa) (k:Nat) (v:Value),M[o]? = some (.lst xs (.own k))->c'[o]? = some v->qsU G' (w.setRow b c') (.cell id o) k v) :
  Rel P gl G' (h.set id (.cells M)) (w.setRow b c'):=by
 have hlt:=jf.1 hw |>.1
 have ad:=je.1 hid |>.1
 have ab:∀x ℓ,G.ow x = some ℓ->x ≠ b:=λx ℓ hx e1=>(hr.ow x ℓ hx).2 id (e1▸hb)
 refine ⟨λi x hx=>?_,λi j x hx hy=>?_,λi x bx hx I=>?_,λx o v hv hm=>?_,λx o v i hv hm=>?_,λx o hv=>?_,λx ℓ hx=>?_,λg cs hg=>?_⟩
 ·rw [E] at hx;simpa using hr.γlt i x hx
 ·rw [E] at hx hy;exact qkk hr.inj hid (by simp) i j x hx hy
 ·rw [E] at hx
  by_cases e1:i = id
  ·subst e1
   rw [hb] at hx;cases hx
   rw [jh ad] at I
   cases I
   exact ⟨c',e,setRow_heap w b c c' e (0,0) hw,by rw [qc.VL,E,hi];exact a7,a8⟩
  ·rw [jg (Ne.symm e1)] at I
   have J:=hr.box i x bx hx I
   have B:bx ≠ .dead->x ≠ b:=λac e2=>by
    rcases hr.inj i id x hx (e2▸hb) with h1 | h1 | h1
    ·exact e1 h1
    ·rw [I] at h1;cases h1;exact ac rfl
    ·rw [hid] at h1;cases h1
   cases bx with
   | map es _=>
    obtain ⟨me,h1,h2⟩:=J
    obtain ⟨m,hm⟩:=qcA es
    exact ⟨me,by rw [qB w b x c' (B (by simp))];exact h1,qae.mono (λ_ _ _ h=>by rw [hi];exact h) m (λ_ _ _ h=>by rw [E];exact h) hm h2⟩
   | iter im _ _ _=>
    obtain ⟨mm,h1,h2⟩:=J
    obtain ⟨m,hm⟩:=AE.lower_ex im
    exact ⟨mm,by rw [qB w b x c' (B (by simp))];exact h1,qC.mono (λ_ _ _ h=>by rw [hi];exact h) m (λ_ _ _ h=>by rw [E];exact h) _ _ hm h2⟩
   | dead=>trivial
   | cells ds=>
    obtain ⟨d,e',h1,h2,h3⟩:=J
    have B:=B (by simp)
    refine ⟨d,e',by rw [qB w b x c' B];exact h1,by rw [qc.VL,E,hi];exact h2,λo xs k v ho hv=>?_⟩
    exact (h3 o xs k v ho hv).keep (λy hy=>U y i o e1 hy) (λy hy=>qB w b y c' (ab y _ hy)) (λy j _ hj=>by rw [hi];exact hj)
   | loop _ _ _ _ _ _=>
    obtain ⟨L,h1,h2⟩:=J
    have B:=B (by simp)
    exact ⟨L,by rw [qB w b x c' B];exact h1,{ h2 with tmps:=by rw [qc.VL,E,hi];exact h2.tmps}⟩
 ·rw [hi] at hv
  obtain ⟨h1,h2⟩:=hr.imm x o v hv hm
  have B:x ≠ b:=λe2=>by have:=hr.immγ x o v id hv hm (e2▸hb);rw [hid] at this;cases this
  exact ⟨(qbL (qB w b x c' B)).trans h1,by simpa using h2⟩
 ·rw [hi] at hv;rw [E];exact λe1=>qdT hid (by simp) (hr.immγ x o v i hv hm e1)
 ·rw [hi] at hv
  obtain ⟨h0,d,e',h1,h2⟩:=hr.immK x o hv
  by_cases B:x = b
  ·subst B
   rw [hw] at h1;cases h1
   exact ⟨h0,c',e,setRow_heap w x c c' e (0,0) hw,zo⟩
  ·exact ⟨h0,d,e',by rw [qB w b x c' B];exact h1,h2⟩
 ·have:=aa x (by simp [hx])
  cases a1:G.ow x with
  | none=>exact absurd a1 this
  | some a6=>
   obtain ⟨h1,h2⟩:=hr.ow x a6 a1
   exact ⟨by simpa using h1,by rw [E];exact h2⟩
 ·rw [E,hi];exact hr.glob g cs hg
theorem Ext.store (n:Nat) {id b:Nat} {c c':Array Value} {e:TypeId} (hb:G.γ id = some b) (hw:w.heap[b]? = some (.cells c e (0,0)))
  (B:G'.γ = G.γ) (hi:G'.imm = G.imm) (E:∀x,G'.ow x ≠ none->G.ow x ≠ none):Ext n G w G' (w.setRow b c'):=by
 refine ⟨λi x hx=>by rw [B];exact hx,λi x hx=>by rw [B] at hx;exact .inl hx,λx o v hv=>by rw [hi];exact hv,λx o v hv=>by rw [hi] at hv;exact .inl hv,λx hx=>.inl (E x hx),by simp,λx hx hf=>?_,λx L hL=>?_,rfl,rfl,rfl⟩
 ·exact qB w b x c' (λe1=>hf.1 id (e1▸hb))
 ·have:x ≠ b:=λe1=>by subst e1;rw [hw] at hL;cases hL
  exact ⟨L,by rw [qB w b x c' this];exact hL,rfl,rfl,rfl,rfl,rfl,rfl⟩
theorem qaV.store {ts:Array Value} (hr:Rel P gl G h w) (ht:qaV G w t ts) {id b:Nat} (c':Array Value) (hb:G.γ id = some b):qaV G (w.setRow b c') t ts:=
 ⟨ht.rel,λi xs k v hx hv=>(ht.own i xs k v hx hv).keep (λ_ h=>h) (λy hy=>qB w b y c' (λe1=>(hr.ow y _ hy).2 id (e1▸hb))) (λ_ _ _ h=>h)⟩
theorem qsl {ty:TypeId} {k:Nat} (hk:qdz P ty = some k) {b o:Nat} {v:Value} {c:Array Value} {e:TypeId} (hw:w.heap[b]? = some (.cells c e (0,0))) (hs:v.cells.size = k) (ho:o + k <= c.size) (h1:∀u ∈ v.cells.toList,u.oneCell' = true) :
  (Instr.storeAt ty (.pointer (some ⟨b,o,none⟩)) v).run P w = .ok () (w.setRow b (c.toList.take o ++ v.cells.toList ++ c.toList.drop (o + v.cells.toList.length)).toArray):=by
 have:=run_storeCells_at P b o e v.cells.toList 0 c w hw (by simp;omega) h1
 simp only [Nat.add_zero] at this
 simp only [Instr.storeAt,Instr.sureAddr,Sem.run_bind,Sem.run_pure,Result.andThen_ok,storeVar,qbn hk,hs,ne_eq,not_true_eq_false,if_false]
 exact this
theorem qd5 {cs vs:List qa} {o i:Nat} {x:qa} (hl:o + vs.length <= cs.length) (h:(splice cs o vs)[i]? = some x):(i < o\/o + vs.length <= i)/\cs[i]? = some x\/o <= i/\i < o + vs.length/\vs[i - o]? = some x:=by
 unfold splice at h
 by_cases h1:i < o
 ·left
  rw [jr,ja (by simp;omega),List.getElem?_take_of_lt h1] at h
  exact ⟨.inl h1,h⟩
 ·by_cases h2:i < o + vs.length
  ·right
   rw [ja (by simp;omega),jc (by simp;omega)] at h
   refine ⟨zo,h2,?_⟩
   simpa [Nat.min_eq_left (show o <= cs.length by omega)] using h
  ·left
   rw [jc (by simp;omega),List.getElem?_drop] at h
   refine ⟨.inr zo,?_⟩
   rw [<-h]
   congr 1
   simp [Nat.min_eq_left (show o <= cs.length by omega)]
   omega
theorem qby {cs vs:List Value} {o i:Nat} (hl:o + vs.length <= cs.length):(i < o\/o + vs.length <= i->(cs.take o ++ vs ++ cs.drop (o + vs.length))[i]? = cs[i]?)/\(o <= i->i < o + vs.length->(cs.take o ++ vs ++ cs.drop (o + vs.length))[i]? = vs[i - o]?):=by
 constructor
 ·rintro (h1 | h1)
  ·rw [jr,ja (by simp;omega),List.getElem?_take_of_lt h1]
  ·rw [jc (by simp;omega),List.getElem?_drop]
   congr 1
   simp [Nat.min_eq_left (show o <= cs.length by omega)]
   omega
 ·intro h1 h2
  rw [ja (by simp;omega),jc (by simp;omega)]
  simp [Nat.min_eq_left (show o <= cs.length by omega)]
theorem qfL {γ:Nat->Option Nat} {imm:Nat->Nat->Option Value} {cs vs:List qa} {l us:List Value} {p:Nat} (h:qg γ imm cs (l.take cs.length)) (hv:qg γ imm vs us) (E:p + vs.length <= cs.length) :
  qg γ imm (splice cs p vs) ((l.take p ++ us ++ l.drop (p + us.length)).take (splice cs p vs).length):=by
 have hl:=hv.length
 have I:=qeT h
 refine qg.of_get ?_ λi a v ha B=>?_
 ·simp only [splice,jj,List.length_take,List.length_drop];omega
 ·rw [List.getElem?_take_of_lt (je.1 ha).1] at B
  have hg:=qby (cs:=l) (vs:=us) (o:=p) (i:=i) zo
  rcases qd5 E ha with ⟨h1,h2⟩ | ⟨h1,h2,h3⟩
  ·rw [hg.1 zo] at B
   obtain ⟨u,hu,hr⟩:=qeS h h2
   rw [B] at hu;cases hu;exact hr
  ·rw [hg.2 h1 zo] at B
   obtain ⟨u,hu,hr⟩:=hv.get h3
   rw [B] at hu;cases hu;exact hr
theorem qvU (hc:Cfg P gl G h t a w) {o:Oper} {ty:TypeId} {x y:Operand} {ax ay:qh} {k:Option Nat} {id p:Nat} {cs:List qa} (ho:o.op = .store ty x y) (ar:qdz P ty = some (k.getD 1)) (hx:opd gl x = some ax) (hy:opd gl y = some ay)
  (hp:ev t ax = .ptr id p) (hid:h[id]? = some (.cells cs)) (aG:(match k with | none=>[raw t ay] | some _=>(raw t ay).dim.cells.map qa.dim).length = k.getD 1)
  (M:p + (match k with | none=>[raw t ay] | some _=>(raw t ay).dim.cells.map qa.dim).length <= cs.length) (B:(match k with | none=>[raw t ay] | some _=>(raw t ay).dim.cells.map qa.dim).all qa.storable = true) (n:Nat) :
  Did P gl G w a o n (h.set id (.cells (splice cs p (match k with | none=>[raw t ay] | some _=>(raw t ay).dim.cells.map qa.dim)))) (AE.put o.dst .undef (qaR t ay)):=by
 have hv:=qah hc.rel hc.tr hx
 rw [hp] at hv
 simp only [qc.V,qC] at hv
 obtain ⟨b,hb,he⟩:=hv
 obtain ⟨c,e,hw,aj,ab⟩:=hc.rel.box id b _ hb hid
 have af:=qik hc.rel hc.tr hy
 generalize S:(match k with | none=>[raw t ay] | some _=>(raw t ay).dim.cells.map qa.dim) = vs at *
 have ac:(raw t ay).dim.cells.all qa.storable = true/\vs.length = (raw t ay).dim.cells.length/\(∀(i:Nat) (x:qa),vs[i]? = some x->x = raw t ay/\k = none\/x.dim = x)/\(∀γ imm us,qg γ imm (raw t ay).dim.cells us->qg γ imm vs us\/k = none):=by
  cases k with
  | none=>
   subst S
   simp only [jH,jI,jA] at B
   have hd:(raw t ay).dim.storable = true:=by
    generalize raw t ay = r at B ⊢
    cases r <;> first | exact B | rfl | skip
    rename_i xs f
    cases f <;> rfl
   refine ⟨by rw [qbs hd];simp [hd],by rw [qbs hd];rfl,λi x hi=>?_,λ_ _ _ _=>.inr rfl⟩
   cases i with
   | zero=>simp at hi;exact .inl ⟨hi.symm,rfl⟩
   | succ i=>simp at hi
  | some m=>
   subst S
   refine ⟨?_,by simp,λi x hi=>.inr ?_,λγ imm us hu=>.inl hu.dims⟩
   ·rw [List.all_map] at B
    rw [List.all_eq_true] at B ⊢
    intro y hy
    have:=B y hy
    cases y <;> first | exact this | rfl
   ·simp only [ju,Option.map_eq_some_iff] at hi
    obtain ⟨z,_,rfl⟩:=hi
    exact qbE z
 obtain ⟨aD,aK,ak,aC⟩:=ac
 obtain ⟨av,au⟩:=qcu (qcW af) aD
 have E:G.VL vs (a.eval y).cells.toList:=by
  rcases aC _ _ _ av with h1 | h1
  ·exact h1
  ·subst h1
   subst S
   simp only [jH,jI,jA] at B
   have:=(qcu af (by rw [qbs B];simp [B])).1
   rwa [qbs B] at this
 have aH:cs.length <= c.size:=by simpa using qeT aj
 have ad:(a.eval y).cells.size = k.getD 1:=by have:=E.length;simp at this;omega
 have U:=qsl (P:=P) (w:=w) ar hw ad (by omega:p + k.getD 1 <= c.size) au
 generalize a8:(c.toList.take p ++ (a.eval y).cells.toList ++ c.toList.drop (p + (a.eval y).cells.toList.length)).toArray = c' at U
 have aa:(execOp a.eval o).run P w = .ok .skip (w.setRow b c'):=by simp [execOp,ho,he,U]
 have a1:G.VL (splice cs p vs) (c'.toList.take (splice cs p vs).length):=by
  rw [<-a8]
  exact qfL aj E M
 have J:(a.eval y).cells.toList.length = vs.length:=E.length.symm
 have ai:c'.size = c.size:=by rw [<-a8];simp at J ⊢;omega
 have a7:∀i,i < p\/p + vs.length <= i->c'[i]? = c[i]?:=λi hi=>by
  have:=(qby (cs:=c.toList) (vs:=(a.eval y).cells.toList) (o:=p) (i:=i) (by simp at J ⊢;omega)).1 (by rw [J];exact hi)
  rw [<-a8,<-Array.getElem?_toList,<-Array.getElem?_toList (xs:=c)]
  exact this
 by_cases a6:∃i xs j,ay = .t i/\t[i]? = some (.lst xs (.own j))
 ·obtain ⟨i,xs,j,rfl,hi⟩:=a6
  have I:=qif hy
  subst I
  obtain ⟨v,hv,hr⟩:=hc.tr.rel.get hi
  have al:=qh0 hv
  have hg:t.getD i .undef = .lst xs (.own j):=by simp [List.getD,hi]
  have aA:qaR t (.t i) = t.set i (.lst xs .no):=by simp only [qaR,hg]
  obtain ⟨b2,p2,len,cap,c2,e2,rfl,k1,k2,k3,k4,k5⟩:=hc.tr.own i xs j v hi (by simpa using hv)
  have aE:b2 ≠ b:=λe1=>(hc.rel.ow b2 _ k1).2 id (e1▸hb)
  rw [aA]
  refine ⟨_,undef,_,G.give b2 (some (.cell id p)),aa,.inr ⟨rfl,rfl⟩,λhq _=>absurd (.inl ⟨ty,x,_,ho⟩) hq,Ext.store n hb hw rfl rfl (λx hx=>?_),?_,?_⟩
  ·simp only [qc.give] at hx
   split at hx
   ·rename_i e1;subst e1;simp [k1]
   ·exact hx
  ·refine hc.rel.store hb hid hw rfl rfl (λx hx=>?_) (λx aI o' aJ hx=>?_) a1 ai (λo' ys k' u I hu=>?_)
   ·simp only [qc.give] at hx
    split at hx
    ·rename_i e1;subst e1;simp [k1]
    ·exact hx
   ·have:x ≠ b2:=λe1=>by subst e1;rw [k1] at hx;cases hx
    simpa [qc.give,this] using hx
   ·rcases qd5 M I with ⟨h1,h2⟩ | ⟨h1,h2,h3⟩
    ·have h4:c[o']? = some u:=by rw [<-a7 o' h1];exact hu
     refine (ab o' ys k' u h2 h4).keep (λx hx=>?_) (λx hx=>qB w b x c' (λe1=>(hc.rel.ow x _ hx).2 id (e1▸hb))) (λ_ _ _ h=>h)
     have:x ≠ b2:=λe1=>by subst e1;rw [k1] at hx;cases hx
     simpa [qc.give,this] using hx
    ·rcases ak _ _ h3 with ⟨h4,h5⟩ | h4
     ·subst h5
      simp only [raw,hg,qa.lst.injEq,qgh.own.injEq] at h4
      obtain ⟨rfl,rfl⟩:=h4
      have aF:vs.length = 1:=by rw [<-S];rfl
      have az:o' = p:=zo
      subst az
      have am:u = .slice (some ⟨b2,p2,none⟩) len cap:=by
       have h6:=(qby (cs:=c.toList) (vs:=(a.eval (.tmp i)).cells.toList) (o:=o') (i:=o') (by simp at J ⊢;omega)).2 (jo _) (by rw [J];omega)
       rw [<-a8,<-Array.getElem?_toList,h6,al] at hu
       simpa [Value.cells] using hu.symm
      subst am
      exact ⟨b2,p2,len,cap,c2,e2,rfl,by simp [qc.give],by rw [qB w b b2 c' aE];exact k2,k3,k4,k5⟩
     ·simp [qa.dim] at h4
  ·have ap:=(hc.tr.give (ℓ:=some (.cell id p)) hi k1).store (hc.rel.give (ℓ:=.cell id p) k1 (λ_ _ _ _ _ e1=>by cases e1)) c' (id:=id) (b:=b) hb
   exact ap.put o.dst (by simp [qc.V,qC,undef,qdw]) rfl a.defers
 ·have ae:∀i xs k,ay = .t i->t[i]? ≠ some (.lst xs (.own k)):=λi xs k h1 h2=>a6 ⟨i,xs,k,h1,h2⟩
  obtain ⟨ah,aB⟩:=qgX ae (qjl hy)
  rw [aB]
  refine ⟨_,undef,_,G,aa,.inr ⟨rfl,rfl⟩,λhq _=>absurd (.inl ⟨ty,x,_,ho⟩) hq,Ext.store n hb hw rfl rfl (λ_ h=>h),?_,?_⟩
  ·refine hc.rel.store hb hid hw rfl rfl (λ_ h=>h) (λ_ _ _ _ h=>h) a1 ai (λo' ys k' u I hu=>?_)
   rcases qd5 M I with ⟨h1,h2⟩ | ⟨h1,h2,h3⟩
   ·have h4:c[o']? = some u:=by rw [<-a7 o' h1];exact hu
    exact (ab o' ys k' u h2 h4).keep (λ_ h=>h) (λx hx=>qB w b x c' (λe1=>(hc.rel.ow x _ hx).2 id (e1▸hb))) (λ_ _ _ h=>h)
   ·exfalso
    rcases ak _ _ h3 with ⟨h4,_⟩ | h4
    ·rw [<-h4] at ah;simp [qa.dim] at ah
    ·simp [qa.dim] at h4
  ·exact (hc.tr.store hc.rel c' hb).put o.dst (by simp [qc.V,qC,undef,qdw]) rfl a.defers
end
theorem qdm {xs:List qa} {k:Nat} (h:∀x ∈ xs,x.cells.length = k):(qeQ xs).length = xs.length * k:=by
 induction xs with
 | nil=>simp [qeQ]
 | cons x xs ih=>
  have h1:=h x (by simp)
  have h2:=ih λy hy=>h y (by simp [hy])
  simp only [qeQ,List.flatMap_cons,jj,jD] at h2 ⊢
  rw [h1,h2,Nat.add_mul,Nat.one_mul,jy]
section
variable {γ:Nat->Option Nat} {imm:Nat->Nat->Option Value}
theorem qW.list:∀{xs:List qa} {b p:Nat},qW γ imm xs b p->∃vs,qg γ imm (qeQ xs) vs/\∀(j:Nat) (v:Value),vs[j]? = some v->imm b (p + j) = some v
 | [],b,p,_=>⟨[],by simp [qeQ,qg],λj v h=>by simp at h⟩
 | x :: xs,b,p,hx=>by
  obtain ⟨h1,h2⟩:=hx.uncons
  obtain ⟨vs,h3,h4⟩:=h1.list
  obtain ⟨us,h5,h6⟩:=qW.list h2
  refine ⟨vs ++ us,by simpa [qeQ] using h3.append h5,λj v hj=>?_⟩
  by_cases e:j < vs.length
  ·rw [ja e] at hj;exact h4 j v hj
  ·rw [jc zo] at hj
   have:=h6 _ v hj
   rw [h3.length] at this
   rwa [show p + vs.length + (j - vs.length) = p + j by omega] at this
theorem qW.of_flat:∀{xs:List qa} {vs:List Value} {b p:Nat},qg γ imm (qeQ xs) vs->(∀(j:Nat) (v:Value),vs[j]? = some v->v ≠ qdw->imm b (p + j) = some v)->qW γ imm xs b p
 | [],_,_,_,_,_=>by simp [qW]
 | x :: xs,vs,b,p,hv,hi=>by
  simp only [qeQ,List.flatMap_cons] at hv
  have hl:=hv.length
  refine qW.cons (qar.of_get λi c hc=>?_) (qW.of_flat (vs:=vs.drop x.cells.length) ?_ λj v hj hm=>?_)
  ·obtain ⟨v,h1,h2⟩:=hv.get (i:=i) (a:=c) (by rw [ja (je.1 hc).1];exact hc)
   exact ⟨v,hi i v h1 (qcN h2),h2⟩
  ·have:=hv.drop x.cells.length
   simpa [qeQ] using this
  ·rw [List.getElem?_drop] at hj
   rw [jx]
   exact hi _ v hj hm
theorem qW.cells_one {xs:List qa} {vs:List Value} (h:qg γ imm (qeQ xs) vs) (hs:(qeQ xs).all qa.storable = true):∀v ∈ vs,v.oneCell' = true:=by
 intro v hv
 obtain ⟨i,hi⟩:=List.getElem?_of_mem hv
 obtain ⟨a,ha,hr⟩:=h.get' hi
 have B:a.storable = true:=by rw [List.all_eq_true] at hs;exact hs a (List.mem_of_getElem? ha)
 have:=(qcu hr (by rw [qbs B];simp [B])).2 v (by
  cases v <;> first | (simp [Value.cells];done) | skip
  all_goals
   exfalso
   cases a <;> first | (simp [qa.storable] at B;done) | (simp only [qC] at hr;first | (cases hr;done) | (obtain ⟨_,hr⟩:=hr;cases hr;done) | (obtain ⟨_,hr,_⟩:=hr;cases hr;done) | (obtain ⟨_,_,hr,_⟩:=hr;cases hr;done) | (obtain ⟨_,_,hr⟩:=hr;cases hr;done) | (obtain ⟨_,_,_,hr,_⟩:=hr;cases hr;done)))
 exact this
end
section
variable {P:Program} {gl:Nat->Option (List qa)} {G G':qc} {w w':World} {h:List qb} {t:List qa} {a:Act} {n:Nat}
theorem qgz (hr:Rel P gl G h w) {xs:List qa} {f:qgh} {v:Value} (hv:G.V (.lst xs f) v) {k:Nat} (hk:∀x ∈ xs,x.cells.length = k) :
  ∃vs:List Value,G.VL (qeQ xs) vs/\(∀w1:World,(∀x,w1.cell? x = w.cell? x)->(Builtin.firstCells k xs.length v).run P w1 = .ok vs.toArray w1)/\(Builtin.lenOf v).run P w = .ok xs.length w:=by
 simp only [qc.V,qC] at hv
 obtain ⟨base,len,cap,rfl,h1,h2,h3,h4,_,h5⟩:=hv
 subst h1
 rcases h5 with rfl | ⟨b,p,rfl,hE⟩
 ·refine ⟨[],by simp [qeQ,qc.VL,qg],λw1 _=>?_,by simp [Builtin.lenOf]⟩
  cases base with
  | none=>simp [Builtin.firstCells]
  | some a0=>simp [Builtin.firstCells,loadCells,loadCellsFrom]
 ·obtain ⟨vs,h6,h7⟩:=hE.list
  refine ⟨vs,h6,λw1 E=>?_,by simp [Builtin.lenOf]⟩
  have hl:vs.length = xs.length * k:=by rw [<-h6.length,qdm hk]
  have:=run_loadCells_list (P:=P) w1 ⟨b,p,none⟩ vs (λj v hj=>by
   rw [qbQ,E]
   obtain ⟨x,_,B⟩:=h6.get' hj
   exact (hr.imm b _ v (h7 j v hj) (qcN B)).1)
  rw [hl] at this
  simp [Builtin.firstCells,this]
theorem qht {s:List UInt8} {v:Value} (hv:G.V (.str s) v):∃vs:List Value,G.VL (qeQ (qh6 s)) vs/\(∀(k:Nat) (w1:World),(Builtin.firstCells k s.length v).run P w1 = .ok vs.toArray w1)/\(Builtin.lenOf v).run P w = .ok s.length w:=by
 simp only [qc.V,qC] at hv
 obtain ⟨b,rfl,hb⟩:=hv
 have B:b.size = s.length:=by rw [<-hb];rfl
 refine ⟨s.map λc=>.int .u8 c.toNat,?_,λk w1=>?_,by simp [Builtin.lenOf,B]⟩
 ·clear hb B
  induction s with
  | nil=>simp [qeQ,qh6,qc.VL,qg]
  | cons c s ih=>
   simp only [qeQ,qh6,List.map_cons,List.flatMap_cons,qa.cells,List.singleton_append,qc.VL,qg] at ih ⊢
   exact ⟨_,_,rfl,by simp [qC],ih⟩
 ·have he:(b.extract 0 s.length).data = b.data:=by
   apply Array.ext'
   rw [qgy]
   rw [<-hb]
   simp only [List.drop_zero,Nat.sub_zero]
   exact List.take_of_length_le (jo _)
  simp only [Builtin.firstCells,Sem.run_pure]
  congr 1
  rw [he]
  apply Array.ext'
  simp [hb]
theorem qnp (B cap:Nat) (h:B <= 2 ^ 30) (hc:cap < B):Builtin.nextslicecap B cap <= 2 ^ 32:=by
 unfold Builtin.nextslicecap
 split
 ·omega
 ·split
  ·omega
  ·have g0:∀c,Builtin.growBy B 0 c = c:=λc=>rfl
   have gs:∀n c,Builtin.growBy B (n + 1) c = if c >= B then c else Builtin.growBy B n (c + (c + 768) / 4):=λn c=>rfl
   rw [gs]
   split
   ·omega
   ·rw [gs]
    split
    ·omega
    ·rw [gs]
     split
     ·omega
     ·rw [gs]
      split
      ·omega
      ·rw [g0]
       omega
end
section
variable {P:Program} {gl:Nat->Option (List qa)} {G G':qc} {w w':World} {h:List qb} {t:List qa} {a:Act} {n:Nat}
noncomputable def qc.fixed (G:qc) (b:Nat) (c:Array Value) (lo hi:Nat) (ℓ:Option Loc):qc:=
 { γ:=G.γ,imm:=λx o=>if x = b/\lo <= o/\o < hi then qmb c[o]? else G.imm x o,ow:=λx=>if x = b then ℓ else G.ow x}
theorem qdQ {sT xT e:TypeId} {i:TypeInfo} {ux:TypeDesc} (hu:P.underlying sT = some (.slice e)) (hx:P.underlying xT = some ux) (aj:(∃e',ux = .slice e')\/ux = .string) (hi:P.info? e = some i)
  {base:Option Addr} {len cap m:Nat} {x:Value} (hl:(Builtin.lenOf x).run P w = .ok m w) (ty:TypeId) (old new:List Value)
  (M:∀w1:World,(∀y,w1.cell? y = w.cell? y)->(Builtin.firstCells i.size m x).run P w1 = .ok new.toArray w1)
  (hold:∀w1:World,(∀y,w1.cell? y = w.cell? y)->(Builtin.firstCells i.size len (.slice base len cap)).run P w1 = .ok old.toArray w1)
  (ae:len + m <= 2 ^ 30) (hb:i.bytes <= 65536) {z:Value} (hz:∀w1:World,(zeroValue e).run P w1 = .ok z w1) (ah:z.cells.size = i.size) (a1:old.length = len * i.size) (E:new.length = m * i.size) :
  (cap < len + m->∃B d c,len + m <= B/\(Builtin.append_ #[sT,xT] ty #[.slice base len cap,x]).run P w = .ok (.slice (some ⟨w.heap.size,0,none⟩) (len + m) B) (({ w with drawn:=d}:World).alloc (.cells c e))/\
   c.size = B * i.size/\∀(j:Nat) (v:Value),(old ++ new)[j]? = some v->c[j]? = some v)/\
  (len + m <= cap->∀b p,base = some ⟨b,p,none⟩->∀(c:Array Value) (te:TypeId),w.heap[b]? = some (.cells c te (0,0))->p + (len + m) * i.size <= c.size->(∀v ∈ new,v.oneCell' = true)->
   (Builtin.append_ #[sT,xT] ty #[.slice base len cap,x]).run P w = .ok (.slice base (len + m) cap) (w.setRow b (c.toList.take (p + len * i.size) ++ new ++ c.toList.drop (p + len * i.size + new.length)).toArray))/\
  (m = 0->len <= cap->(Builtin.append_ #[sT,xT] ty #[.slice base len cap,x]).run P w = .ok (.slice base len cap) w):=by
 rcases aj with ⟨e',rfl⟩ | rfl
 all_goals
  have I:(sizeOf e).run P w = .ok i.size w:=by simp [sizeOf,typeInfo,hi]
  have a8:∀w1:World,(typeInfo e).run P w1 = .ok i w1:=λw1=>by simp [typeInfo,hi]
  have S:=M w (λ_=>rfl)
  refine ⟨λhc=>?_,λhc b p a7 c te hw af h1=>?_,λhm hc=>?_⟩
  ·have am:¬ (len + m <= cap):=zo
   have ay:¬ (((len + m:Nat):Int) > IntKind.i64.max/\(False\/i.bytes = 0)):=by
    simp only [IntKind.max,IntKind.signed,IntKind.bits,if_true]
    omega
   have ap:=qnp (len + m) cap ae hc
   have av:¬ (Builtin.nextslicecap (len + m) cap * i.bytes > 2 ^ 48):=by
    have:Builtin.nextslicecap (len + m) cap * i.bytes <= 2 ^ 32 * 65536:=Nat.mul_le_mul ap hb
    omega
   have hq:(Question.appendCap (len + m) cap e).forced = false:=rfl
   generalize J:(Question.appendCap (len + m) cap e).cut (w.tape w.drawn (Question.appendCap (len + m) cap e)) = B
   have au:len + m <= B:=by rw [<-J];simp only [Question.cut];omega
   refine ⟨B,w.drawn + 1,old.toArray ++ new.toArray ++ Builtin.zeroCells z.cells (B - (len + m)),au,?_,?_,?_⟩
   ·have U:=hold w.drew (λ_=>rfl)
    have a6:=M w.drew (λ_=>rfl)
    have ai:=hz w.drew
    have ak:=a8 w.drew
    have al:=a8 w
    have ar:¬ (9223372036854775807 < (len:Int) + (m:Int)/\i.bytes = 0):=zo
    have ad:¬ (281474976710656 < Builtin.nextslicecap (len + m) cap * i.bytes):=zo
    simp [Builtin.append_,run_underlying hu,run_underlying hx,I,hl,am,al,ar,ad,hq,J,ak,U,a6,ai,newRow,IntKind.max,IntKind.signed,IntKind.bits]
    exact congrArg (λc=>w.drew.alloc (Obj.cells c e)) (Array.ext' (by simp))
   ·simp [Builtin.zeroCells,a1,E,ah]
    rw [<-Nat.add_mul,<-Nat.add_mul]
    congr 1;omega
   ·intro j v hj
    have ab:(old.toArray ++ new.toArray)[j]? = some v:=by simpa [Array.getElem?_append,List.getElem?_append] using hj
    rw [jG (jf.1 ab).1]
    exact ab
  ·subst a7
   have aa:=run_storeCells_at P b (p + len * i.size) te new 0 c w hw (by
    rw [Nat.add_mul] at af
    rw [E];omega) h1
   simp only [Nat.add_zero] at aa
   simp [Builtin.append_,run_underlying hu,run_underlying hx,I,hl,hc,S,qbQ,aa]
  ·subst hm
   have ac:new = []:=by
    have:new.length = 0:=by rw [E];simp
    exact List.eq_nil_of_length_eq_zero this
   subst ac
   cases base with
   | none=>simp [Builtin.append_,run_underlying hu,run_underlying hx,I,hl,hc,S]
   | some a0=>simp [Builtin.append_,run_underlying hu,run_underlying hx,I,hl,hc,S,storeCells]
end
section
variable {P:Program} {gl:Nat->Option (List qa)} {G G':qc} {w w':World} {h:List qb} {t:List qa} {a:Act} {n:Nat}
def qwu (h:List qb) (t:List qa):Loc->Prop
 | .tmp i=>∀xs k,t[i]? ≠ some (.lst xs (.own k))
 | .cell id o=>∀cs xs k,h[id]? = some (.cells cs)->cs[o]? ≠ some (.lst xs (.own k))
theorem qpF (hr:Rel P gl G h w) (ht:qaV G w t a.tmps) {b s hi:Nat} {I:Loc} {ℓ:Option Loc} {c c':Array Value} {e:TypeId} (hb:G.ow b = some I) (hq:qwu h t I)
  (hw:w.heap[b]? = some (.cells c e (0,0))) (a1:∀j,s <= j->G.imm b j = none) (ab:∀j,j < s->c'[j]? = c[j]?) (ac:c'.size = c.size) (n:Nat) :
  Rel P gl (G.fixed b c' s hi ℓ) h (w.setRow b c')/\qaV (G.fixed b c' s hi ℓ) (w.setRow b c') t a.tmps/\Ext n G w (G.fixed b c' s hi ℓ) (w.setRow b c'):=by
 have S:∀i,G.γ i ≠ some b:=(hr.ow b I hb).2
 have M:∀x o v,G.imm x o = some v->(G.fixed b c' s hi ℓ).imm x o = some v:=by
  intro x o v hv
  simp only [qc.fixed]
  rw [if_neg]
  ·exact hv
  ·rintro ⟨rfl,h1,_⟩
   rw [a1 o h1] at hv
   cases hv
 have a7:∀x j,x ≠ b->G.imm x j = none->(G.fixed b c' s hi ℓ).imm x j = none:=by
  intro x j hx hj
  simp only [qc.fixed]
  rw [if_neg (λhh=>hx hh.1)]
  exact hj
 have a6:∀x E,x ≠ b->G.ow x = some E->(G.fixed b c' s hi ℓ).ow x = some E:=by
  intro x E hx hh
  simp only [qc.fixed]
  rw [if_neg hx];exact hh
 refine ⟨⟨λi x hx=>by simpa using hr.γlt i x hx,hr.inj,λi x bx hx aa=>?_,λx o v hv hm=>?_,λx o v i hv hm=>?_,λx o hv=>?_,λx E hx=>?_,λg cs hg=>?_⟩,?_,?_⟩
 ·have B:x ≠ b:=λe1=>S i (e1▸hx)
  have h0:=hr.box i x bx hx aa
  cases bx with
  | cells cs=>
   obtain ⟨d,e',h1,h2,h3⟩:=h0
   obtain ⟨m,hm⟩:=qay cs
   refine ⟨d,e',by rw [qB w b x c' B];exact h1,qg.mono M m (λ_ _ _ h=>h) cs _ hm h2,λo xs k v ho hv=>?_⟩
   have J:∀y,G.ow y = some (.cell i o)->y ≠ b:=λy hy e1=>by
    subst e1
    rw [hb] at hy
    cases hy
    exact hq cs xs k aa ho
   exact (h3 o xs k v ho hv).keep (λy hy=>a6 y _ (J y hy) hy) (λy hy=>qB w b y c' (J y hy)) (λy j hy hj=>a7 y j (J y hy) hj)
  | loop tt _ _ _ _ _=>
   obtain ⟨L,h1,h2⟩:=h0
   obtain ⟨m,hm⟩:=qay tt
   exact ⟨L,by rw [qB w b x c' B];exact h1,{ h2 with tmps:=qg.mono M m (λ_ _ _ h=>h) tt _ hm h2.tmps}⟩
  | map es _=>
   obtain ⟨me,h1,h2⟩:=h0
   obtain ⟨m,hm⟩:=qcA es
   exact ⟨me,by rw [qB w b x c' B];exact h1,qae.mono M m (λ_ _ _ h=>h) hm h2⟩
  | iter im _ _ _=>
   obtain ⟨mm,h1,h2⟩:=h0
   obtain ⟨m,hm⟩:=AE.lower_ex im
   exact ⟨mm,by rw [qB w b x c' B];exact h1,qC.mono M m (λ_ _ _ h=>h) _ _ hm h2⟩
  | dead=>trivial
 ·simp only [qc.fixed] at hv
  split at hv
  ·rename_i hh
   obtain ⟨rfl,_,_⟩:=hh
   refine ⟨?_,by simpa using (hr.ow x I hb).1⟩
   simp only [World.cell?,setRow_heap w x c c' e (0,0) hw]
   simpa using (qbo.1 hv).1
  ·rename_i hh
   obtain ⟨h1,h2⟩:=hr.imm x o v hv hm
   refine ⟨?_,by simpa using h2⟩
   by_cases B:x = b
   ·subst B
    have U:o < s:=by
     by_cases U:o < s
     ·exact U
     ·rw [a1 o zo] at hv;cases hv
    simp only [World.cell?,setRow_heap w x c c' e (0,0) hw,hw] at h1 ⊢
    simpa [ab o U] using h1
   ·exact (qbL (qB w b x c' B)).trans h1
 ·simp only [qc.fixed] at hv
  split at hv
  ·rename_i hh;obtain ⟨rfl,_,_⟩:=hh;exact λe1=>absurd e1 (S i)
  ·exact hr.immγ x o v i hv hm
 ·simp only [qc.fixed] at hv
  split at hv
  ·exact absurd rfl (qbo.1 hv).2
  ·obtain ⟨h0,d,e',h1,h2⟩:=hr.immK x o hv
   by_cases B:x = b
   ·subst B
    rw [hw] at h1;cases h1
    exact ⟨h0,c',e,setRow_heap w x c c' e (0,0) hw,zo⟩
   ·exact ⟨h0,d,e',by rw [qB w b x c' B];exact h1,h2⟩
 ·simp only [qc.fixed] at hx
  split at hx
  ·rename_i hh;subst hh;exact ⟨by simpa using (hr.ow x I hb).1,S⟩
  ·exact ⟨by simpa using (hr.ow x E hx).1,(hr.ow x E hx).2⟩
 ·obtain ⟨h1,h2⟩:=hr.glob g cs hg
  exact ⟨qar.mono M 0 (λi _ hi=>absurd hi (Nat.not_lt_zero _)) cs g 0 h2 h1,h2⟩
 ·obtain ⟨m,hm⟩:=qay t
  refine ⟨qg.mono M m (λ_ _ _ h=>h) t _ hm ht.rel,λi xs k v a8 hv=>?_⟩
  have J:∀y,G.ow y = some (.tmp i)->y ≠ b:=λy hy e1=>by
   subst e1
   rw [hb] at hy
   cases hy
   exact hq xs k a8
  exact (ht.own i xs k v a8 hv).keep (λy hy=>a6 y _ (J y hy) hy) (λy hy=>qB w b y c' (J y hy)) (λy j hy hj=>a7 y j (J y hy) hj)
 ·refine ⟨λ_ _ h=>h,λ_ _ h=>.inl h,M,λx o v hv=>?_,λx hx=>?_,by simp,λx hx hf=>?_,λx L hL=>?_,rfl,rfl,rfl⟩
  ·simp only [qc.fixed] at hv
   split at hv
   ·rename_i hh;obtain ⟨rfl,_,_⟩:=hh;exact .inr (.inr (.inl (by simp [hb])))
   ·exact .inl hv
  ·simp only [qc.fixed] at hx
   split at hx
   ·rename_i hh;subst hh;exact .inl (by simp [hb])
   ·exact .inl hx
  ·exact qB w b x c' (λe1=>by subst e1;rw [hf.2] at hb;cases hb)
  ·have:x ≠ b:=λe1=>by subst e1;rw [hw] at hL;cases hL
   exact ⟨L,by rw [qB w b x c' this];exact hL,rfl,rfl,rfl,rfl,rfl,rfl⟩
theorem Rel.drainCell (hr:Rel P gl G h w) {id o:Nat} {cs:List qa} {xs:List qa} {f:qgh} (hid:h[id]? = some (.cells cs)) (ho:cs[o]? = some (.lst xs f)) :
  Rel P gl G (h.set id (.cells (cs.set o (.lst xs .no)))) w:=by
 have J:=je.1 hid |>.1
 refine ⟨λi x hx=>by simpa using hr.γlt i x hx,qkk hr.inj hid (by simp),λi x bx hx E=>?_,hr.imm,λb o v i hv hm hg=>qdT hid (by simp) (hr.immγ b o v i hv hm hg),hr.immK,hr.ow,hr.glob⟩
 by_cases e1:id = i
 ·subst e1
  rw [jh J] at E
  cases E
  obtain ⟨c,e,h1,h2,h3⟩:=hr.box id x _ hx hid
  obtain ⟨v,hv,I⟩:=h2.get ho
  have h4:=qg.set o h2 (qjj I)
  have e2:(c.toList.take cs.length).set o v = c.toList.take cs.length:=by
   obtain ⟨h5,h6⟩:=je.1 hv
   rw [<-h6];exact List.set_getElem_self h5
  rw [e2] at h4
  refine ⟨c,e,h1,by simpa using h4,λo' ys k u B hu=>?_⟩
  by_cases e3:o = o'
  ·subst e3
   rw [jh (je.1 ho).1] at B
   simp at B
  ·rw [jg e3] at B
   exact h3 o' ys k u B hu
 ·rw [jg e1] at E
  exact hr.box i x bx hx E
theorem qll (hc:Cfg P gl G h t a w) {o:Oper} {c:Go.Call} {x y:Operand} {sT xT e:TypeId} {i:TypeInfo} {ux:TypeDesc} {z:qa} {ys xs:List qa} {f0:qgh} (ho:o.op = .call c) (hcal:c.callee = .builtin .append)
  (ai:c.args.toList = [x,y]) (aI:c.argTypes.toList = [sT,xT]) (hu:P.underlying sT = some (.slice e)) (hx:P.underlying xT = some ux) (aE:(∃e',ux = .slice e')\/ux = .string) (hi:P.info? e = some i)
  (aY:i.size ≠ 0) (hb:i.bytes <= 65536) (hz:qbD P e = some z) (aW:z.cells.length = i.size)
  (aj:G.V (.lst xs f0) (a.eval x)) (aD:∃nv:List Value,G.VL (qeQ ys) nv/\(∀w1:World,(∀q,w1.cell? q = w.cell? q)->(Builtin.firstCells i.size ys.length (a.eval y)).run P w1 = .ok nv.toArray w1)/\(Builtin.lenOf (a.eval y)).run P w = .ok ys.length w)
  (aB:xs.length + ys.length <= qdH) (aa:∀y ∈ ys,y.cells.length = i.size) (au:(qeQ ys).all qa.storable = true) (I:∀x ∈ xs,x.cells.length = i.size) (aL:ys ≠ [])
  (ah:f0 = .full\/∃M,qsU G w M i.size (a.eval x)/\qwu h t M) (n:Nat) :
  Did P gl G w a o n h (AE.put o.dst (.lst (xs ++ ys) (.own i.size)) t):=by
 have ea:c.args = #[x,y]:=by rw [<-Array.toArray_toList (xs:=c.args),ai]
 have et:c.argTypes = #[sT,xT]:=by rw [<-Array.toArray_toList (xs:=c.argTypes),aI]
 obtain ⟨nv,a7,aO,aN⟩:=aD
 obtain ⟨ov,am,al,aK⟩:=qgz (P:=P) hc.rel aj I
 have ap:nv.length = ys.length * i.size:=by rw [<-a7.length,qdm aa]
 have ak:ov.length = xs.length * i.size:=by rw [<-am.length,qdm I]
 have aU:0 < ys.length:=by cases ys with | nil=>exact absurd rfl aL | cons _ _=>simp
 have aM:=qW.cells_one a7 au
 obtain ⟨u0,aH,av⟩ :∃u0:Value,(∀w1:World,(zeroValue e).run P w1 = .ok u0 w1)/\u0.cells.size = i.size:=by
  unfold qbD at hz
  rw [hi] at hz
  simp only at hz
  obtain ⟨u,aG,aF⟩:=qA (by simpa [jF] using hz)
  refine ⟨u,λw1=>by simp [zeroValue,typeInfo,hi,aG],?_⟩
  have:=(qfz (γ:=G.γ) (imm:=G.imm) aF).length
  simp at this
  omega
 have ab:=aj
 simp only [qc.V,qC] at ab
 obtain ⟨base,len,cap,S,h1,h2,h3,h4,_,h5⟩:=ab
 subst h1
 rw [S] at al aK
 have a6:∀r w1,(Builtin.append_ #[sT,xT] o.type #[.slice base xs.length cap,a.eval y]).run P w = .ok r w1->(execOp a.eval o).run P w = .ok (.value r) w1:=by
  intro r w1 hr
  simp [execOp,ho,hcal,ea,et,resolve,invoke,builtin,S,hr]
 obtain ⟨hA,hB,_⟩:=qdQ (P:=P) (w:=w) hu hx aE hi aN o.type ov nv aO al aB hb aH av ak ap
 have ac:∀q ∈ xs ++ ys,q.cells.length = i.size:=λq hq=>by
  rcases List.mem_append.1 hq with hq | hq
  ·exact I q hq
  ·exact aa q hq
 by_cases E:xs.length + ys.length <= cap
 ·
  rcases ah with rfl | ⟨M,ay,hq⟩
  ·exfalso;have:=h3 rfl;omega
  ·obtain ⟨b,p,aT,aV,cc,te,a1,k1,k2,k3,k4,k5⟩:=ay
   rw [S] at a1
   cases a1
   have B:=a6 _ _ (hB E b p rfl cc te k2 (by have:=Nat.mul_le_mul_right i.size E;omega) aM)
   generalize af:(cc.toList.take (p + xs.length * i.size) ++ nv ++ cc.toList.drop (p + xs.length * i.size + nv.length)).toArray = c' at B
   have U:p + xs.length * i.size + nv.length <= cc.toList.length:=by
    have:(xs.length + ys.length) * i.size <= cap * i.size:=Nat.mul_le_mul_right _ E
    rw [Nat.add_mul] at this
    simp;omega
   have aA:∀j,j < p + xs.length * i.size->c'[j]? = cc[j]?:=λj hj=>by
    have:=(qby (cs:=cc.toList) (vs:=nv) (o:=p + xs.length * i.size) (i:=j) U).1 (.inl hj)
    rw [<-af,<-Array.getElem?_toList,<-Array.getElem?_toList (xs:=cc)]
    exact this
   have az:∀(j:Nat) (v:Value),nv[j]? = some v->c'[p + xs.length * i.size + j]? = some v:=λj v hj=>by
    have a8:=(je.1 hj).1
    have:=(qby (cs:=cc.toList) (vs:=nv) (o:=p + xs.length * i.size) (i:=p + xs.length * i.size + j) U).2 zo zo
    rw [<-af,<-Array.getElem?_toList,this]
    simpa using hj
   have ae:c'.size = cc.size:=by rw [<-af];simp at U ⊢;omega
   obtain ⟨f1,f2,f3⟩:=qpF (P:=P) (gl:=gl) (ℓ:=o.dst.map Loc.tmp) (hi:=p + xs.length * i.size + nv.length) hc.rel hc.tr k1 hq k2 k5 aA zo n
   have hV:(G.fixed b c' (p + xs.length * i.size) (p + xs.length * i.size + nv.length) (o.dst.map Loc.tmp)).V (.lst (xs ++ ys) (.own i.size)) (.slice (some ⟨b,p,none⟩) (xs.length + ys.length) cap):=by
    simp only [qc.V,qC]
    refine ⟨_,_,_,rfl,by simp,E,by simp,by simp,⟨i.size,ac⟩,.inr ⟨b,p,rfl,?_⟩⟩
    refine qW.append I ?_ ?_
    ·rcases h5 with rfl | ⟨b',p',aR,hE⟩
     ·simp [qW]
     ·cases aR
      obtain ⟨m,hm⟩:=qay xs
      exact qW.mono f3.ik m (λ_ _ _ h=>h) xs b p hm hE
    ·refine qW.of_flat (vs:=nv) (f3.VL a7) λj v hj hm=>?_
     simp only [qc.fixed]
     rw [if_pos ⟨trivial,zo,by have:=(je.1 hj).1;omega⟩]
     exact qbo.2 ⟨az j v hj,hm⟩
   refine ⟨_,_,_,_,B,.inl rfl,λhq _=>absurd (.inr ⟨c,ho,hcal⟩) hq,f3,f1,?_⟩
   cases hd:o.dst with
   | none=>simpa [AE.put,Act.put,hd] using f2
   | some d=>
    rw [hd] at hV f1 f2 f3
    refine f2.putOwn d hV ⟨b,p,_,cap,c',te,rfl,by simp [qc.fixed],setRow_heap w b cc c' te (0,0) k2,E,by rw [ae];exact k4,λj hj=>?_⟩ a.defers
    simp only [qc.fixed]
    rw [if_neg (λhh=>by rw [Nat.add_mul] at hj;omega)]
    exact k5 j (by rw [Nat.add_mul] at hj;omega)
 ·
  obtain ⟨J,d0,cc,ar,B,aP,aQ⟩:=hA zo
  have B:=a6 _ _ B
  have ad:Rel P gl G h { w with drawn:=d0}:=hc.rel.of_drew d0
  have aJ:qaV G { w with drawn:=d0} t a.tmps:=hc.tr.of_drew d0
  have f1:=ad.newRow cc e ((xs.length + ys.length) * i.size) (o.dst.map Loc.tmp)
  have f2:=qaV.newRow ad aJ cc e ((xs.length + ys.length) * i.size) (o.dst.map Loc.tmp)
  have f3:Ext n G w _ _:=((Ext.refl n G w).drew d0).trans (jo n) (Ext.newRow n cc e ((xs.length + ys.length) * i.size) (o.dst.map Loc.tmp) ad)
  have aX:({ w with drawn:=d0}:World).heap.size = w.heap.size:=rfl
  have aC:∀(j:Nat) (v:Value),(ov ++ nv)[j]? = some v->v ≠ qdw->(G.withRow w.heap.size cc ((xs.length + ys.length) * i.size) (o.dst.map Loc.tmp)).imm w.heap.size (0 + j) = some v:=λj v hj hm=>by
   have a8:=(je.1 hj).1
   simp only [jj,ak,ap] at a8
   rw [<-Nat.add_mul] at a8
   simp only [qc.withRow,jz,if_true,if_pos a8]
   exact qbo.2 ⟨aQ j v hj,hm⟩
  have hV:(G.withRow w.heap.size cc ((xs.length + ys.length) * i.size) (o.dst.map Loc.tmp)).V (.lst (xs ++ ys) (.own i.size)) (.slice (some ⟨w.heap.size,0,none⟩) (xs.length + ys.length) J):=by
   simp only [qc.V,qC]
   refine ⟨_,_,_,rfl,by simp,ar,by simp,by simp,⟨i.size,ac⟩,.inr ⟨_,_,rfl,?_⟩⟩
   refine qW.of_flat (vs:=ov ++ nv) ?_ aC
   have:qeQ (xs ++ ys) = qeQ xs ++ qeQ ys:=by simp [qeQ]
   rw [this]
   exact (f3.VL am).append (f3.VL a7)
  refine ⟨_,_,_,_,B,.inl rfl,λhq _=>absurd (.inr ⟨c,ho,hcal⟩) hq,f3,f1,?_⟩
  cases hd:o.dst with
  | none=>simpa [AE.put,Act.put,hd] using f2
  | some d=>
   rw [hd] at hV f1 f2 f3
   refine f2.putOwn d hV ⟨w.heap.size,0,_,J,cc,e,rfl,by simp [qc.withRow],qax _ _,ar,by rw [aP];omega,λj hj=>?_⟩ a.defers
   simp only [qc.withRow,if_true]
   rw [if_neg zo]
end
section
variable {P:Program} {gl:Nat->Option (List qa)} {G G':qc} {w w':World} {h:List qb} {t:List qa} {a:Act} {n:Nat}
def qbv (G:qc) (w:World) (t:List qa) (a:Act) (p:qcD):Prop:=
 ∀d s,(d,s) ∈ p->∀u,a.tmps[d]? = some u->match s with
  | .tmp i=>a.tmps.getD i undef = u
  | .cell x=>∀id o,ev t x = .ptr id o->∃b,G.γ id = some b/\w.cell? ⟨b,o,none⟩ = some u
theorem qbv.nil:qbv G w t a []:=λ_ _ h=>by cases h
structure qz1 (P:Program) (gl:Nat->Option (List qa)) (o:Oper) (k:Nat) (ax ay:qh):Prop where
 ex:∃(c:Go.Call) (x y:Operand) (sT xT e:TypeId) (i:TypeInfo) (ux:TypeDesc) (z:qa),o.op = .call c/\c.callee = .builtin .append/\c.args.toList = [x,y]/\c.argTypes.toList = [sT,xT]/\
  P.underlying sT = some (.slice e)/\P.underlying xT = some ux/\((∃e',ux = .slice e')\/ux = .string)/\P.info? e = some i/\i.size = k/\i.size ≠ 0/\i.bytes <= 65536/\qbD P e = some z/\z.cells.length = i.size/\
  opd gl x = some ax/\opd gl y = some ay
theorem qsH {xs:List qa} {f:qgh} {v:Value} {k:Nat} (hv:G.V (.lst xs f) v) (hk:xs.head?.all (λy=>y.cells.length == k) = true):∀x ∈ xs,x.cells.length = k:=by
 simp only [qc.V,qC] at hv
 obtain ⟨_,_,_,_,_,_,_,_,⟨k',h6⟩,_⟩:=hv
 intro x hx
 cases xs with
 | nil=>cases hx
 | cons y ys=>
  simp at hk
  rw [h6 x hx,<-h6 y (by simp),hk]
theorem qn2 (hc:Cfg P gl G h t a w) {p:qcD} (hp:qbv G w t a p) {k:Nat} {x:Operand} {ax:qh} (hx:opd gl x = some ax) {U:List qa} {f:qgh} (ab:raw t ax = .lst U f) {e:Bool} {xs:List qa} {s':St} (ht:qdO k p ax ⟨t,h,e⟩ = some (xs,s')) :
  ∃S,Cfg P gl G s'.h s'.t a w/\s'.e = e/\s'.h.length = h.length/\qsU G w S k (a.eval x)/\qwu s'.h s'.t S/\G.V (.lst xs .no) (a.eval x):=by
 unfold qdO at ht
 split at ht
 ·cases ht
 ·rename_i i
  have ad:=qif hx
  subst ad
  simp only at ht
  have aa:t[i]? = some (.lst U f):=getD_some ab
  obtain ⟨u,hu,ae⟩:=hc.tr.rel.get aa
  have E:=qh0 hu
  have a6:a.tmps[i]? = some u:=by simpa using hu
  split at ht
  ·rename_i a7 j he
   split at ht
   ·rename_i hj
    cases ht
    subst hj
    have hi:=getD_some he
    have:U = xs/\f = .own j:=by rw [aa] at hi;cases hi;exact ⟨rfl,rfl⟩
    obtain ⟨rfl,rfl⟩:=this
    refine ⟨.tmp i,⟨hc.rel,hc.tr.drain hi⟩,rfl,rfl,?_,?_,?_⟩
    ·rw [E];exact hc.tr.own i _ j u hi a6
    ·intro ys k' hq
     simp only at hq
     rw [jh (je.1 hi).1] at hq
     simp at hq
    ·rw [E];exact qjj ae
   ·cases ht
  ·split at ht
   ·rename_i d b hf
    have J:=List.mem_of_find?_eq_some hf
    have hd:d = i:=by have:=List.find?_some hf;simpa using this
    subst hd
    split at ht
    ·rename_i a7 j he
     split at ht
     ·rename_i hj
      cases ht
      subst hj
      have hb:=getD_some he
      obtain ⟨u2,a1,I⟩:=hc.tr.rel.get hb
      have h1:=hp _ _ J u a6
      simp only at h1
      have B:a.tmps[b]? = some u2:=by simpa using a1
      have h2:u2 = u:=by
       rw [<-h1]
       obtain ⟨q1,q2⟩:=jf.1 B
       simp [Array.getD,q1,q2]
      subst h2
      refine ⟨.tmp b,⟨hc.rel,hc.tr.drain hb⟩,rfl,rfl,?_,?_,?_⟩
      ·rw [E];exact hc.tr.own b _ j u2 hb B
      ·intro ys k' hq
       simp only at hq
       rw [jh (je.1 hb).1] at hq
       simp at hq
      ·rw [E];exact qjj I
     ·cases ht
    ·cases ht
   ·rename_i d x0 hf
    have J:=List.mem_of_find?_eq_some hf
    have hd:d = i:=by have:=List.find?_some hf;simpa using this
    subst hd
    split at ht
    ·rename_i id o he
     split at ht
     ·rename_i cs hid
      split at ht
      ·rename_i a7 j ho
       split at ht
       ·rename_i hj
        cases ht
        subst hj
        have h1:=hp _ _ J u a6
        simp only at h1
        obtain ⟨b,hb,M⟩:=h1 id o he
        obtain ⟨c,te,hw,af,ac⟩:=hc.rel.box id b _ hb hid
        obtain ⟨u2,a1,I⟩:=qeS af ho
        have B:c[o]? = some u2:=by simpa using a1
        have h2:u2 = u:=by
         simp only [World.cell?,hw] at M
         simpa [B] using M
        subst h2
        refine ⟨.cell id o,⟨hc.rel.drainCell hid ho,hc.tr⟩,rfl,by simp,?_,?_,?_⟩
        ·rw [E];exact ac o _ j u2 ho B
        ·intro ah ys k' hq a8
         simp only at hq
         rw [jh (je.1 hid).1] at hq
         cases hq
         rw [jh (je.1 ho).1] at a8
         simp at a8
        ·rw [E];exact qjj I
       ·cases ht
      ·cases ht
     ·cases ht
    ·cases ht
   ·cases ht
theorem qlX (hr:Rel P gl G h w) {y:qa} {v:Value} (hv:G.V y v) {ys:List qa} (ht:tail y = some ys) {k:Nat} (hk:∀q ∈ ys,q.cells.length = k) :
  ∃nv:List Value,G.VL (qeQ ys) nv/\(∀w1:World,(∀q,w1.cell? q = w.cell? q)->(Builtin.firstCells k ys.length v).run P w1 = .ok nv.toArray w1)/\(Builtin.lenOf v).run P w = .ok ys.length w:=by
 unfold tail at ht
 split at ht
 ·cases ht
  exact qgz hr hv hk
 ·rename_i s
  cases ht
  obtain ⟨nv,h1,h2,h3⟩:=qht (P:=P) (w:=w) hv
  exact ⟨nv,h1,λw1 _=>by simpa [qh6] using h2 k w1,by simpa [qh6] using h3⟩
 ·cases ht
theorem qxi (hc:Cfg P gl G h t a w) {p:qcD} (hp:qbv G w t a p) {o:Oper} {k:Nat} {ax ay:qh} (az:qz1 P gl o k ax ay) {base:Nat} {call:AE.Call} {e:Bool} {s':St}
  (B:qv base call p o.dst (.app k ax ay) ⟨t,h,e⟩ = some (.nor,s')) (n:Nat) (hn:n <= h.length):Did P gl G w a o n s'.h s'.t/\s'.e = e/\s'.h.length = h.length:=by
 obtain ⟨c,x,y,sT,xT,et,i,ux,z,h1,h2,h3,h4,h5,h6,h7,h8,h9,ak,aj,ai,ah,af,aD⟩:=az.ex
 subst h9
 have ac:=qah hc.rel hc.tr aD
 have E:=qik hc.rel hc.tr af
 simp only [qv] at B
 split at B
 ·rename_i xs f ys I M
  split at B
  ·
   rename_i a7
   simp only [List.isEmpty_iff] at a7
   subst a7
   cases B
   refine ⟨?_,rfl,rfl⟩
   rw [I] at E
   obtain ⟨nv,m1,m2,m3⟩:=qlX (P:=P) hc.rel ac M (k:=i.size) (λq hq=>by cases hq)
   obtain ⟨ov,o1,o2,o3⟩ :∃vs:List Value,True/\True/\True:=⟨[],trivial,trivial,trivial⟩
   have U:=E
   simp only [qc.V,qC] at U
   obtain ⟨bs,len,cap,a1,q1,q2,q3,q4,_,q5⟩:=U
   have ea:c.args = #[x,y]:=by rw [<-Array.toArray_toList (xs:=c.args),h3]
   have aE:c.argTypes = #[sT,xT]:=by rw [<-Array.toArray_toList (xs:=c.argTypes),h4]
   have aA:nv = []:=List.eq_nil_of_length_eq_zero (by have:=m1.length;simp [qeQ] at this;exact this.symm)
   subst aA
   have ae:=m2 w (λ_=>rfl)
   simp only [jE] at ae m3
   have ar:(sizeOf et).run P w = .ok i.size w:=by simp [sizeOf,typeInfo,h8]
   have aC:(Builtin.append_ #[sT,xT] o.type #[.slice bs len cap,a.eval y]).run P w = .ok (.slice bs len cap) w:=by
    rcases h7 with ⟨e',rfl⟩ | rfl <;> cases bs <;> simp [Builtin.append_,run_underlying h5,run_underlying h6,ar,m3,q2,ae,storeCells]
   refine qgt hc ⟨.slice bs len cap,?_,?_,qbE _⟩ n
   ·simp [execOp,h1,h2,ea,aE,resolve,invoke,builtin,a1,aC]
   ·rw [<-a1];exact qcW E
  ·rename_i aB
   split at B
   ·rename_i aa
    obtain ⟨c1,c2,c3⟩:=aa
    have a6:ys ≠ []:=by simpa using aB
    have J:∀q ∈ ys,q.cells.length = i.size:=λq hq=>by
     rw [List.all_eq_true] at c2
     have:=c2 q hq
     simp at this
     exact this.1
    have S:(qeQ ys).all qa.storable = true:=by
     rw [List.all_eq_true] at c2 ⊢
     intro q hq
     simp only [qeQ,List.mem_flatMap] at hq
     obtain ⟨r,av,au⟩:=hq
     have:=c2 r av
     simp only [jm] at this
     have:=this.2
     rw [List.all_eq_true] at this
     exact this q au
    have ad:=qlX (P:=P) hc.rel ac M J
    split at B
    ·cases B
     rw [I] at E
     exact ⟨qll hc h1 h2 h3 h4 h5 h6 h7 h8 ak aj ai ah E ad c1 J S (qsH E c3) a6 (.inl rfl) n,rfl,rfl⟩
    ·split at B
     ·rename_i ab s2 ap
      split at B
      rotate_left
      ·cases B
      rename_i a8
      cases B
      obtain ⟨al,d1,d2,d3,d4,d5,d6⟩:=qn2 hc hp af I ap
      have aF:ab.length = xs.length:=by
       rw [I] at E
       simp only [qc.V,qC] at E d6
       obtain ⟨_,_,_,g1,g2,_⟩:=E
       obtain ⟨_,_,_,g3,g4,_⟩:=d6
       rw [g1] at g3
       cases g3
       omega
      have am:∀q ∈ ab,q.cells.length = i.size:=qsH d6 a8
      exact ⟨qll d1 h1 h2 h3 h4 h5 h6 h7 h8 ak aj ai ah d6 ad zo J S am a6 (.inr ⟨al,d4,d5⟩) n,d2,d3⟩
     ·cases B
   ·cases B
 ·cases B
end
section
variable {P:Program} {gl:Nat->Option (List qa)} {G G':qc} {w w':World} {h:List qb} {t:List qa} {a:Act} {n:Nat}
theorem Rel.putBox (hr:Rel P gl G h w) {i b:Nat} (hi:G.γ i = some b) {M bx:qb} (hx:h[i]? = some M) (E:M ≠ .dead) {ob:Obj}
  (a7:∀c e,w.heap[b]? ≠ some (.cells c e (0,0))) (U:qgg P gl G (w.putObj b ob) i bx b):Rel P gl G (h.set i bx) (w.putObj b ob):=by
 have hb:=(hr.γlt i b hi).2
 have a6:∀b',(∀j,G.γ j ≠ some b')->(w.putObj b ob).heap[b']? = w.heap[b']?:=λb' I=>World.putObj_heap_other (λe=>I i (by rw [hi,e]))
 refine ⟨λj b' hj=>by simpa using hr.γlt j b' hj,qkk hr.inj hx E,λj b' J hj B=>?_,λb' o v hv hm=>?_,λb o v j hv hm hg=>qdT hx E (hr.immγ b o v j hv hm hg),λb' k hv=>?_,λb' ℓ I=>⟨by simpa using (hr.ow b' ℓ I).1,(hr.ow b' ℓ I).2⟩,hr.glob⟩
 ·by_cases e:i = j
  ·subst e
   rw [hi] at hj;cases hj
   rw [jh (hr.γlt i b hi).1] at B
   cases B
   exact U
  ·rw [jg e] at B
   have h0:=hr.box j b' J hj B
   by_cases hd:J = .dead
   ·subst hd;trivial
   ·obtain ⟨n,hn⟩:=qb.lower_ex J
    have a8:b' ≠ b:=λe'=>by
     rcases hr.inj i j b hi (by rw [hj,e']) with h1 | h1 | h1
     ·exact e h1
     ·rw [hx] at h1;cases h1;exact E rfl
     ·rw [B] at h1;cases h1;exact hd rfl
    exact h0.keep hn (λ_ _ _ h=>h) (λ_ _ _ h=>h) (World.putObj_heap_other a8) (λ_ _ h=>h) (λS o a1=>a6 S (hr.ow S _ a1).2) (λ_ _ _ _ h=>h)
 ·obtain ⟨h1,h2⟩:=hr.imm b' o v hv hm
  refine ⟨?_,by simpa using h2⟩
  rw [qbL (w:=w) (World.putObj_heap_other λe=>by subst e;have:=hr.immγ b' o v i hv hm hi;rw [hx] at this;cases this;exact E rfl)]
  exact h1
 ·obtain ⟨h0,c,e,h1,h2⟩:=hr.immK b' k hv
  have:b' ≠ b:=λe'=>by subst e';exact a7 c e h1
  exact ⟨h0,c,e,by rw [World.putObj_heap_other this];exact h1,h2⟩
theorem qaV.putBox (hr:Rel P gl G h w) {ts:Array Value} (ht:qaV G w t ts) {i b:Nat} (hi:G.γ i = some b) (o:Obj):qaV G (w.putObj b o) t ts:=
 ⟨ht.rel,λj xs k v hx hv=>(ht.own j xs k v hx hv).keep (λ_ h=>h) (λy hy=>World.putObj_heap_other λe=>(hr.ow y _ hy).2 i (by rw [hi,e])) (λ_ _ _ h=>h)⟩
theorem qtj (hc:Cfg P gl G h t a w) {o:Oper} {u:Value} {x:qa} (h1:(execOp a.eval o).run P w = .ok (.value u) w) (hx:G.V x u) (hd:x.dim = x) (n:Nat):Did P gl G w a o n h (AE.put o.dst x t):=
 ⟨_,u,w,G,h1,.inl rfl,λ_ _ _ _=>rfl,Ext.refl n G w,hc.put o.dst hx hd⟩
theorem qo4 (hc:Cfg P gl G h t a w) {o:Oper} (hop:qsO P gl o) {id p b:Nat} {cs vs:List qa} (hb:G.γ id = some b) (hid:h[id]? = some (.cells cs)) (B:p + vs.length <= cs.length) (a6:∀v ∈ vs,v.dim = v)
  {c:Array Value} {e:TypeId} (hw:w.heap[b]? = some (.cells c e (0,0))) {us:List Value} (S:G.VL vs us) {nx:Next} {u:Value} {x:qa}
  (h1:(execOp a.eval o).run P w = .ok nx (w.setRow b (c.toList.take p ++ us ++ c.toList.drop (p + us.length)).toArray)) (a8:Nx nx u) (hx:G.V x u) (hd:x.dim = x) (n:Nat) :
  Did P gl G w a o n (h.set id (.cells (splice cs p vs))) (AE.put o.dst x t):=by
 obtain ⟨c0,e0,M,U,a1⟩:=hc.rel.box id b _ hb hid
 rw [hw] at M;cases M
 have aa:=qeT U
 have ac:=S.length
 generalize E:(c.toList.take p ++ us ++ c.toList.drop (p + us.length)).toArray = c' at h1
 have ab:c'.size = c.size:=by rw [<-E];simp at aa ⊢;omega
 have J:∀i,i < p\/p + vs.length <= i->c'[i]? = c[i]?:=λi hi=>by
  have:=(qby (cs:=c.toList) (vs:=us) (o:=p) (i:=i) zo).1 zo
  rw [<-E,<-Array.getElem?_toList,<-Array.getElem?_toList (xs:=c)]
  exact this
 have I:G.VL (splice cs p vs) (c'.toList.take (splice cs p vs).length):=by
  rw [<-E]
  exact qfL U S B
 refine ⟨nx,u,_,G,h1,a8,λ_ hq=>absurd hop hq,Ext.store n hb hw rfl rfl (λ_ h=>h),(Cfg.mk ?_ (hc.tr.store hc.rel c' hb)).put o.dst hx hd⟩
 refine hc.rel.store hb hid hw rfl rfl (λ_ h=>h) (λ_ _ _ _ h=>h) I ab (λo' ys k' u' a7 hu=>?_)
 rcases qd5 B a7 with ⟨g1,g2⟩ | ⟨g1,g2,g3⟩
 ·have g4:c[o']? = some u':=by rw [<-J o' g1];exact hu
  exact (a1 o' ys k' u' g2 g4).keep (λ_ h=>h) (λx hx=>qB w b x c' (λe1=>(hc.rel.ow x _ hx).2 id (e1▸hb))) (λ_ _ _ h=>h)
 ·have:=a6 _ (List.mem_of_getElem? g3)
  simp [qa.dim] at this
theorem Rel.kill (hr:Rel P gl G h w) (id:Nat):Rel P gl G (h.set id .dead) w:=by
 have B:∀i,h[i]? = some qb.dead->(h.set id .dead)[i]? = some qb.dead:=λi hi=>by
  by_cases e:id = i
  ·subst e;exact jh (je.1 hi).1
  ·rw [jg e];exact hi
 refine ⟨λi b hb=>by simpa using hr.γlt i b hb,λi j b hi hj=>?_,λi b bx hi hx=>?_,hr.imm,λb o v i hv hm hg=>B i (hr.immγ b o v i hv hm hg),hr.immK,hr.ow,hr.glob⟩
 ·rcases hr.inj i j b hi hj with h1 | h1 | h1
  ·exact .inl h1
  ·exact .inr (.inl (B i h1))
  ·exact .inr (.inr (B j h1))
 ·by_cases e:id = i
  ·subst e
   rw [jh (hr.γlt id b hi).1] at hx
   cases hx
   trivial
  ·rw [jg e] at hx
   exact hr.box i b bx hi hx
theorem qrl {cs:List qa} (B:∀x ∈ cs,x.dim = x) {o:Nat} {xs:List qa} {k:Nat} (h:cs[o]? = some (.lst xs (.own k))):False:=by
 have:=B _ (List.mem_of_getElem? h)
 simp [qa.dim] at this
theorem γ_none (hr:Rel P gl G h w):G.γ h.length = none:=by
 cases hg:G.γ h.length with
 | none=>rfl
 | some b=>have:=(hr.γlt _ b hg).1;omega
theorem qiJ (hc:Cfg P gl G h t a w) {o:Oper} (hop:qsO P gl o) {ob:Obj} {bx:qb} {u:Value} {x:qa} (h1:(execOp a.eval o).run P w = .ok (.value u) (w.alloc ob))
  (J:∀G',Ext h.length G w G' (w.alloc ob)->qgg P gl G' (w.alloc ob) h.length bx w.heap.size) (hx:∀G':qc,G'.γ h.length = some w.heap.size->G'.V x u) (hd:x.dim = x) :
  Did P gl G w a o h.length (h ++ [bx]) (AE.put o.dst x t):=by
 have hi:=γ_none hc.rel
 have B:Ext h.length G w (G.withBox h.length w.heap.size) (w.alloc ob):=Ext.newBox hi (jo _) _
 have E:=hc.rel.newBox (o:=ob) (bx:=bx) (h':=h ++ [bx]) hi (by simp) (by simp) (λj hj b hb=>by rw [ja (hc.rel.γlt j b hb).1]) (by simp) (J _ B)
 obtain ⟨m,hm⟩:=qay t
 have I:qaV (G.withBox h.length w.heap.size) (w.alloc ob) t a.tmps:=
  hc.tr.keep hm B.ik (λi b _=>B.gk i b) (λ_ _ h=>h) (λb i hb=>qaa w _ (hc.rel.ow b _ hb).1) (λ_ _ _ _ h=>h)
 exact ⟨_,_,_,_,h1,.inl rfl,λ_ hq=>absurd hop hq,B,(Cfg.mk E I).put o.dst (hx _ (by simp [qc.withBox])) hd⟩
noncomputable def qc.marked (G:qc) (b n:Nat):qc:={ γ:=G.γ,imm:=λx o=>if x = b/\o = n then some qdw else G.imm x o,ow:=G.ow}
theorem Rel.marked (hr:Rel P gl G h w) {b n:Nat} (hn:0 < n) {c:Array Value} {e:TypeId} (hb:w.heap[b]? = some (.cells c e (0,0))) (J:n = c.size) (h0:∀o,G.imm b o = none) (I:G.ow b = none):Rel P gl (G.marked b n) h w:=by
 have E:∀x o v,G.imm x o = some v->(G.marked b n).imm x o = some v:=λx o v hv=>by
  simp only [qc.marked]
  rw [if_neg]
  ·exact hv
  ·rintro ⟨rfl,rfl⟩
   rw [h0] at hv;cases hv
 refine ⟨hr.γlt,hr.inj,λi b' bx hi hx=>?_,λx o v hv hm=>?_,λx o v i hv hm=>?_,λx o hv=>?_,hr.ow,λg cs hg=>?_⟩
 ·obtain ⟨m,hm⟩:=qb.lower_ex bx
  refine (hr.box i b' bx hi hx).keep hm E (λ_ _ _ h=>h) rfl (λ_ _ h=>h) (λ_ _ _=>rfl) (λM j o B hj=>?_)
  simp only [qc.marked]
  rw [if_neg (λhh=>by rw [hh.1,I] at B;cases B)]
  exact hj
 ·simp only [qc.marked] at hv
  split at hv
  ·cases hv;exact absurd rfl hm
  ·exact hr.imm x o v hv hm
 ·simp only [qc.marked] at hv
  split at hv
  ·cases hv;exact absurd rfl hm
  ·exact hr.immγ x o v i hv hm
 ·simp only [qc.marked] at hv
  split at hv
  ·rename_i hh
   obtain ⟨rfl,rfl⟩:=hh
   exact ⟨hn,c,e,hb,J⟩
  ·exact hr.immK x o hv
 ·obtain ⟨h1,h2⟩:=hr.glob g cs hg
  exact ⟨qar.mono E 0 (λi _ hi=>absurd hi (Nat.not_lt_zero _)) cs g 0 h2 h1,h2⟩
theorem qlx {γ:Nat->Option Nat} {imm:Nat->Nat->Option Value} {cs:List qa} {us l:List Value} (h:qg γ imm cs us) (hg:∀(j:Nat) (v:Value),us[j]? = some v->l[j]? = some v):qg γ imm cs (l.take cs.length):=by
 have B:=h.length
 have E:cs.length <= l.length:=by
  rcases Nat.lt_or_ge l.length us.length with hh | hh
  ·have:=hg l.length _ (ji hh)
   simp at this
  ·omega
 refine qg.of_get (by simp;omega) λi x v hx hv=>?_
 obtain ⟨u,hu,hr⟩:=h.get hx
 rw [List.getElem?_take_of_lt (je.1 hx).1,hg i u hu] at hv
 cases hv
 exact hr
theorem qth (hc:Cfg P gl G h t a w) {o:Oper} (hop:qsO P gl o) {d len B k:Nat} {cc:Array Value} {e:TypeId} {cs:List qa} {us:List Value}
  (h1:(execOp a.eval o).run P w = .ok (.value (.slice (some ⟨w.heap.size,0,none⟩) len B)) (({ w with drawn:=d}:World).alloc (.cells cc e)))
  (ac:G.VL cs us) (a6:∀(j:Nat) (v:Value),us[j]? = some v->cc[j]? = some v) (ae:cc.size = B * k) (hk:k ≠ 0) (ab:len <= B) (h0:0 < len) (a7:∀x ∈ cs,x.dim = x) :
  Did P gl G w a o h.length (h ++ [.cells cs]) (AE.put o.dst (.sl h.length 0 len len k) t):=by
 have aa:Rel P gl G h { w with drawn:=d}:=hc.rel.of_drew d
 have ad:qaV G { w with drawn:=d} t a.tmps:=hc.tr.of_drew d
 have hi:=γ_none hc.rel
 have E:Ext h.length G w (G.withBox h.length w.heap.size) (({ w with drawn:=d}:World).alloc (.cells cc e)):=((Ext.refl _ G w).drew d).trans (jo _) (Ext.newBox (w:={ w with drawn:=d}) hi (jo _) _)
 have U:=aa.newBox (o:=.cells cc e) (bx:=.cells cs) (h':=h ++ [.cells cs]) hi (by simp) (by simp) (λj hj b hb=>by rw [ja (hc.rel.γlt j b hb).1]) (by simp)
  ⟨cc,e,qax _ _,qlx (E.VL ac) (λj v hj=>by simpa using a6 j v hj),λo xs k v ho _=>(qrl a7 ho).elim⟩
 have a1:0 < B * k:=Nat.mul_pos zo zo
 have S:∀o,G.imm w.heap.size o = none:=λo=>by
  cases hv:G.imm w.heap.size o with
  | none=>rfl
  | some v=>have:=hc.rel.imm_lt hv;omega
 have J:G.ow w.heap.size = none:=by
  cases hv:G.ow w.heap.size with
  | none=>rfl
  | some ℓ=>have:=(hc.rel.ow _ _ hv).1;omega
 have M:=Rel.marked U a1 (b:=w.heap.size) (qax ({ w with drawn:=d}:World) _) zo S J
 have I:Ext h.length G w ((G.withBox h.length w.heap.size).marked w.heap.size (B * k)) (({ w with drawn:=d}:World).alloc (.cells cc e)):=by
  refine ⟨E.gk,E.gn,λb o v hv=>?_,λb o v hv=>?_,E.on,E.size,E.heap,E.loops,rfl,rfl,rfl⟩
  ·have:b ≠ w.heap.size:=by have:=hc.rel.imm_lt hv;omega
   simp only [qc.marked]
   rw [if_neg (λhh=>this hh.1)]
   exact E.ik b o v hv
  ·simp only [qc.marked] at hv
   split at hv
   ·rename_i hh;exact .inr (.inl zo)
   ·exact E.inew b o v hv
 obtain ⟨m,hm⟩:=qay t
 have a8:qaV ((G.withBox h.length w.heap.size).marked w.heap.size (B * k)) (({ w with drawn:=d}:World).alloc (.cells cc e)) t a.tmps:=
  hc.tr.keep hm I.ik (λi b _=>I.gk i b) (λ_ _ h=>h) (λb i hb=>qaa ({ w with drawn:=d}:World) _ (hc.rel.ow b _ hb).1) (λb j i hb hj=>by
   simp only [qc.marked]
   rw [if_neg (λhh=>by rw [hh.1,J] at hb;cases hb)]
   exact hj)
 refine ⟨_,_,_,_,h1,.inl rfl,λ_ hq=>absurd hop hq,I,(Cfg.mk M a8).put o.dst ?_ rfl⟩
 simp only [qc.V,qC]
 exact ⟨w.heap.size,B,by simp [qc.marked,qc.withBox],rfl,jo _,ab,λh=>absurd h hk,λ_=>by simp [qc.marked]⟩
theorem qo0 (hc:Cfg P gl G h t a w) {o:Oper} (hop:qsO P gl o) {id b len cap k p:Nat} {c:Array Value} {e:TypeId} {cs:List qa} {us new:List Value} (hb:G.γ id = some b) (a1:∀i,G.γ i = some b->h[i]? = some .dead) (U:∀o v,G.imm b o = some v->v = qdw)
  (hw:w.heap[b]? = some (.cells c e (0,0))) (hp:p + new.length <= c.size)
  (h1:(execOp a.eval o).run P w = .ok (.value (.slice (some ⟨b,0,none⟩) len cap)) (w.setRow b (c.toList.take p ++ new ++ c.toList.drop (p + new.length)).toArray))
  (ah:G.VL cs us) (ab:∀(j:Nat) (v:Value),us[j]? = some v->(c.toList.take p ++ new ++ c.toList.drop (p + new.length))[j]? = some v) (a7:G.imm b (0 + cap * k) = some qdw) (hk:k ≠ 0) (af:len <= cap) (ac:∀x ∈ cs,x.dim = x) :
  Did P gl G w a o h.length (h ++ [.cells cs]) (AE.put o.dst (.sl h.length 0 len len k) t):=by
 generalize a8:(c.toList.take p ++ new ++ c.toList.drop (p + new.length)).toArray = c' at h1
 have ai:c'.size = c.size:=by rw [<-a8];simp;omega
 have hi:=γ_none hc.rel
 have a6:∀j b',G.γ j = some b'->(G.withBox h.length b).γ j = some b':=λj b' hj=>by
  have:j ≠ h.length:=λe=>by subst e;simp [hi] at hj
  simpa [qc.withBox,this] using hj
 have B:∀x,x ≠ b->(w.setRow b c').heap[x]? = w.heap[x]?:=λx hx=>qB w b x c' hx
 have M:∀x ℓ,G.ow x = some ℓ->x ≠ b:=λx ℓ hx e1=>(hc.rel.ow x ℓ hx).2 id (e1▸hb)
 have aa:Rel P gl (G.withBox h.length b) (h ++ [.cells cs]) (w.setRow b c'):=by
  refine ⟨λj x hj=>?_,λi j x hx hy=>?_,λi x bx hx J=>?_,λx o v hv hm=>?_,λx o v i hv hm=>?_,λx o hv=>?_,λx ℓ hx=>?_,λg cs hg=>?_⟩
  ·simp only [qc.withBox] at hj
   split at hj
   ·rename_i e1;subst e1;cases hj
    exact ⟨by simp,by simpa using (hc.rel.γlt id _ hb).2⟩
   ·obtain ⟨h2,h3⟩:=hc.rel.γlt j x hj
    exact ⟨by simp;omega,by simpa using h3⟩
  ·have key:∀i,(G.withBox h.length b).γ i = some b->i ≠ h.length->(h ++ [qb.cells cs])[i]? = some .dead:=λi E ae=>by
    simp only [qc.withBox,if_neg ae] at E
    have:=a1 i E
    rw [ja (je.1 this).1]
    exact this
   by_cases I:x = b
   ·subst I
    by_cases e1:i = h.length
    ·by_cases e2:j = h.length
     ·exact .inl zo
     ·exact .inr (.inr (key j hy e2))
    ·exact .inr (.inl (key i hx e1))
   ·have g:∀i,(G.withBox h.length b).γ i = some x->G.γ i = some x/\i < h.length:=λi E=>by
     simp only [qc.withBox] at E
     split at E
     ·cases E;exact absurd rfl I
     ·exact ⟨E,(hc.rel.γlt i x E).1⟩
    rw [ja (g i hx).2,ja (g j hy).2]
    exact hc.rel.inj i j x (g i hx).1 (g j hy).1
  ·simp only [qc.withBox] at hx
   split at hx
   ·rename_i e1
    subst e1;cases hx
    simp at J
    subst J
    refine ⟨c',e,setRow_heap w b c c' e (0,0) hw,qlx (us:=us) ?_ (λj v hj=>by rw [<-a8];simpa using ab j v hj),λo xs k v ho _=>(qrl ac ho).elim⟩
    obtain ⟨m,hm⟩:=qay cs
    exact qg.mono (λ_ _ _ h=>h) m (λj b' _=>a6 j b') cs us hm ah
   ·rw [ja (hc.rel.γlt i x hx).1] at J
    have h0:=hc.rel.box i x bx hx J
    by_cases hd:bx = .dead
    ·subst hd;trivial
    ·have I:x ≠ b:=λe1=>by
      have:=a1 i (e1▸hx)
      rw [J] at this;cases this;exact hd rfl
     obtain ⟨m,hm⟩:=qb.lower_ex bx
     exact h0.keep hm (λ_ _ _ h=>h) (λj b' _=>a6 j b') (B x I) (λ_ _ h=>h) (λy o hy=>B y (M y _ hy)) (λ_ _ _ _ h=>h)
  ·obtain ⟨h2,h3⟩:=hc.rel.imm x o v hv hm
   have I:x ≠ b:=λe2=>hm (U o v (e2▸hv))
   exact ⟨(qbL (B x I)).trans h2,by simpa using h3⟩
  ·simp only [qc.withBox]
   split
   ·intro e1;cases e1;exact absurd (U o v hv) hm
   ·intro e1
    rw [ja (hc.rel.γlt i x e1).1]
    exact hc.rel.immγ x o v i hv hm e1
  ·obtain ⟨g0,d,e',g1,g2⟩:=hc.rel.immK x o hv
   by_cases I:x = b
   ·subst I
    rw [hw] at g1;cases g1
    exact ⟨g0,c',e,setRow_heap w x c c' e (0,0) hw,zo⟩
   ·exact ⟨g0,d,e',by rw [B x I];exact g1,g2⟩
  ·obtain ⟨g1,g2⟩:=hc.rel.ow x ℓ hx
   refine ⟨by simpa using g1,λi E=>?_⟩
   simp only [qc.withBox] at E
   split at E
   ·cases E;exact M _ ℓ hx rfl
   ·exact g2 i E
  ·obtain ⟨g1,g2⟩:=hc.rel.glob g cs hg
   exact ⟨qar.mono (λ_ _ _ h=>h) 0 (λi _ hi=>absurd hi (Nat.not_lt_zero _)) cs g 0 g2 g1,g2⟩
 have S:Ext h.length G w (G.withBox h.length b) (w.setRow b c'):=by
  refine ⟨a6,λj x hj=>?_,λ_ _ _ h=>h,λ_ _ _ h=>.inl h,λ_ h=>.inl h,by simp,λx hx hf=>B x (λe1=>hf.1 id (e1▸hb)),λx L hL=>?_,rfl,rfl,rfl⟩
  ·simp only [qc.withBox] at hj
   split at hj
   ·rename_i e1;subst e1;cases hj;exact .inr ⟨jo _,.inr ⟨id,hb⟩⟩
   ·exact .inl hj
  ·have:x ≠ b:=λe1=>by subst e1;rw [hw] at hL;cases hL
   exact ⟨L,by rw [B x this];exact hL,rfl,rfl,rfl,rfl,rfl,rfl⟩
 obtain ⟨m,hm⟩:=qay t
 have ad:qaV (G.withBox h.length b) (w.setRow b c') t a.tmps:=
  hc.tr.keep hm S.ik (λi b _=>S.gk i b) (λ_ _ h=>h) (λb i hb=>B b (M b _ hb)) (λ_ _ _ _ h=>h)
 refine ⟨_,_,_,_,h1,.inl rfl,λ_ hq=>absurd hop hq,S,(Cfg.mk aa ad).put o.dst ?_ rfl⟩
 simp only [qc.V,qC]
 exact ⟨b,cap,by simp [qc.withBox],rfl,jo _,af,λh=>absurd h hk,λ_=>a7⟩
end
open Go.MapKept (run_findKey run_getObj_map run_setObj_map)
section
variable {P:Program} {γ:Nat->Option Nat} {imm:Nat->Nat->Option Value}
theorem qae.get {G:qc}:∀{es:List (Nat×qa×qa)} {me:List MapEntry} {i:Nat} {x:Nat×qa×qa},qae G es me->es[i]? = some x->∃e,me[i]? = some e/\e.born = x.1/\G.V x.2.1 e.key/\G.V x.2.2 e.val
 | [],_,i,x,_,h=>by simp at h
 | y :: es,me,i,x,hm,h=>by
  simp only [qae] at hm
  obtain ⟨e,rest,rfl,h1,h2,h3,h4⟩:=hm
  cases i with
  | zero=>simp at h;subst h;exact ⟨e,rfl,h1,h2,h3⟩
  | succ i=>simpa using qae.get h4 (by simpa using h)
theorem qae.length {G:qc}:∀{es:List (Nat×qa×qa)} {me:List MapEntry},qae G es me->me.length = es.length
 | [],_,h=>by simp only [qae] at h;subst h;rfl
 | y :: es,me,hm=>by
  simp only [qae] at hm
  obtain ⟨e,rest,rfl,h1,h2,h3,h4⟩:=hm
  simp [qae.length h4]
theorem qae.modify {G:qc} {f:Nat×qa×qa->Nat×qa×qa} {g:MapEntry->MapEntry} (B:∀x e,e.born = x.1->G.V x.2.1 e.key->G.V x.2.2 e.val->(g e).born = (f x).1/\G.V (f x).2.1 (g e).key/\G.V (f x).2.2 (g e).val) :
  ∀{es:List (Nat×qa×qa)} {me:List MapEntry} (i:Nat),qae G es me->qae G (es.modify i f) (me.modify i g)
 | [],_,i,h=>by simp only [qae] at h;subst h;simp [qae]
 | y :: es,me,i,hm=>by
  simp only [qae] at hm
  obtain ⟨e,rest,rfl,h1,h2,h3,h4⟩:=hm
  cases i with
  | zero=>
   simp only [List.modify_zero_cons,qae]
   obtain ⟨q1,q2,q3⟩:=B y e h1 h2 h3
   exact ⟨_,_,rfl,q1,q2,q3,h4⟩
  | succ i=>
   simp only [List.modify_succ_cons,qae]
   exact ⟨e,_,rfl,h1,h2,h3,qae.modify B i h4⟩
theorem qae.append {G:qc} {x:Nat×qa×qa} {e:MapEntry} (h1:e.born = x.1) (h2:G.V x.2.1 e.key) (h3:G.V x.2.2 e.val):∀{es:List (Nat×qa×qa)} {me:List MapEntry},qae G es me->qae G (es ++ [x]) (me ++ [e])
 | [],_,h=>by simp only [qae] at h;subst h;simp only [List.nil_append,qae];exact ⟨e,[],rfl,h1,h2,h3,rfl⟩
 | y :: es,me,hm=>by
  simp only [qae] at hm
  obtain ⟨e',rest,rfl,g1,g2,g3,g4⟩:=hm
  simp only [jB,qae]
  exact ⟨e',_,rfl,g1,g2,g3,qae.append h1 h2 h3 g4⟩
end
end Go.AE
