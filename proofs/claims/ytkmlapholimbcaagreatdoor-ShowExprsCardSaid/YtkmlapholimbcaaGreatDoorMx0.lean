/- A part of the proof: the abstract executor and what goes through it (part 0). No condition. -/
import GoSem.Core.Code
import GoSem.Core.View
import GoSem.Op.String
import GoSem.Core.Region
import GoSem.ClaimKeys
import Derived.DeepKeys3
import Derived.RangeFuncLeaves
import Derived.OrdersIn
import Derived.Laws.CopyRow
import Derived.ChangeKeysEq
import Derived.Lib.FrozenHead2
import Derived.Lib.Strings
import GoSem.Dispatch
import Derived.Laws.BytesString
import Derived.Laws.NewFold
import Derived.RangeFuncRecord
set_option maxRecDepth 100000
namespace Go.AE
inductive qfQ where
 | no
 | full
 | own (k:Nat)
 deriving DecidableEq,Repr,Inhabited
inductive qa where
 | undef
 | bool (b:Bool)
 | int (k:IntKind) (n:Int)
 | str (s:List UInt8)
 | nilptr
 | ptr (id off:Nat)
 | iptr (cells:List qa) (off:Nat)
 | lst (xs:List qa) (f:qfQ)
 | nilfunc
 | fn (f:FuncId) (first captured:List qa)
 | yld (id:Nat)
 | niliface
 | iface (t:TypeId) (v:qa)
 | agg (cells:List qa)
 | tup (vs:List qa)
 | sl (id off len cap more:Nat)
 | mp (id:Nat)
 | nilmap
 | nils
 | empt
 deriving Inhabited,Repr
def qa.dim:qa→qa
 | .lst xs (.own _)=>.lst xs .no
 | v=>v
def qa.cells:qa→List qa
 | .agg cs=>cs
 | v=>[v]
def qa.storable:qa→Bool
 | .undef | .agg _ | .tup _=>false
 | _=>true
mutual
def qa.lower (n:Nat):qa→Bool
 | .ptr i _=>Nat.blt i n
 | .yld i=>Nat.blt i n
 | .sl i _ _ _ _=>Nat.blt i n
 | .mp i=>Nat.blt i n
 | .iptr cs _=>qy n cs
 | .lst xs _=>qy n xs
 | .fn _ a b=>qy n a && qy n b
 | .iface _ v=>v.lower n
 | .agg cs=>qy n cs
 | .tup vs=>qy n vs
 | _=>true
def qy (n:Nat):List qa→Bool
 | []=>true
 | v :: vs=>v.lower n && qy n vs
end
mutual
def qa.beq:qa→qa→Bool
 | .undef,.undef=>true
 | .bool a,.bool b=>a == b
 | .int k a,.int j b=>k == j && a == b
 | .str a,.str b=>a == b
 | .nilptr,.nilptr=>true
 | .ptr i o,.ptr j p=>i == j && o == p
 | .iptr a o,.iptr b p=>o == p && qjg a b
 | .lst a f,.lst b g=>f == g && qjg a b
 | .nilfunc,.nilfunc=>true
 | .fn f a b,.fn g c d=>f == g && qjg a c && qjg b d
 | .yld i,.yld j=>i == j
 | .niliface,.niliface=>true
 | .iface t a,.iface u b=>t == u && qa.beq a b
 | .agg a,.agg b=>qjg a b
 | .tup a,.tup b=>qjg a b
 | .sl i o l c m,.sl j p k d q=>i == j && o == p && l == k && c == d && m == q
 | .mp i,.mp j=>i == j
 | .nilmap,.nilmap=>true
 | .nils,.nils=>true
 | .empt,.empt=>true
 | _,_=>false
def qjg:List qa→List qa→Bool
 | [],[]=>true
 | a :: as,b :: bs=>qa.beq a b && qjg as bs
 | _,_=>false
end
inductive qk where
 | t (i:Nat)
 | c (v:qa)
 deriving Inhabited,Repr
inductive SK where
 | b
 | i (k:IntKind)
 | s
 deriving DecidableEq,Repr,Inhabited
structure qd6 where
 agg:Bool
 n:Nat
 ls:List (Nat×SK)
 deriving DecidableEq,Repr,Inhabited
inductive HOp where
 | mk (k:Nat) (zero:List qa)
 | lit (k:Nat) (zero:List qa) (len:Nat) (ixs:List Nat)
 | app (k:Nat)
 | sub3 (k:Nat)
 | mkm
 | mup (sh:qd6)
 | ment (sh:qd6) (zero:qa)
 | mst
 | mlen
 | del (sh:qd6)
 | rng
 | nxt
 | ent
 | ldz (k:Option Nat)
 | bld (t e:Nat)
 deriving Inhabited,Repr
inductive AOp where
 | mov (x:qk)
 | asg (x:qk)
 | pick (c a b:qk)
 | new (cs:List qa)
 | box (k:Nat) (x:qk)
 | build (zero:List qa) (parts:List (Nat×Nat×qk))
 | list (k:Nat) (zero:List qa) (len:Nat) (parts:List (Nat×qk))
 | ld (k:Option Nat) (a:qk)
 | st (k:Option Nat) (a x:qk)
 | nilc (x:qk)
 | bin (op:BinOp) (x y:qk)
 | eqb (neg:Bool) (x y:qk)
 | eqi (kind:Nat) (neg:Bool) (x y:qk)
 | eqa (neg:Bool) (x y:qk)
 | un (op:UnOp) (x:qk)
 | cvi (k:IntKind) (x:qk)
 | cvs (x:qk)
 | cvb (x:qk)
 | cvt (x:qk)
 | mkI (t:TypeId) (x:qk)
 | mkF (f:FuncId) (first captured:List qk)
 | subS (x:qk) (lo hi:Option qk)
 | subL (k:Nat) (x:qk) (lo hi:Option qk)
 | fa (off:Nat) (a:qk)
 | ixaL (k:Nat) (s i:qk)
 | ixaA (len k:Nat) (a i:qk)
 | ixS (s i:qk)
 | ixA (len:Nat) (k:Option Nat) (a i:qk)
 | fld (off:Nat) (k:Option Nat) (x:qk)
 | ext (x:qk) (i:Nat)
 | call (f:qk) (args:List qk)
 | len (isStr:Bool) (x:qk)
 | app (k:Nat) (x y:qk)
 | mm (isMax:Bool) (x y:qk)
 | tas (t:TypeId) (zero:qa) (x:qk)
 | pan (x:qk)
 | eqs (sh:qd6) (neg:Bool) (x y:qk)
 | hx (o:HOp) (args:List qk)
 | nls (neg:Bool) (x:qk)
 | lk (sh:qd6) (zero:qa) (ok:Bool) (m key:qk)
 deriving Inhabited,Repr
structure qY where
 dst:Option Nat
 op:AOp
 guard:Option (Nat×Bool)
 deriving Inhabited,Repr
def ao (d:Nat) (op:AOp):qY:=⟨some d,op,none⟩
def ag (d:Nat) (op:AOp) (j:Nat) (b:Bool):qY:=⟨some d,op,some (j,b)⟩
def an (op:AOp):qY:=⟨none,op,none⟩
def mv (d i:Nat):qY:=⟨some d,.mov (.t i),none⟩
def sg (d i:Nat):qY:=⟨some d,.asg (.t i),none⟩
def fA (d k i:Nat):qY:=⟨some d,.fa k (.t i),none⟩
def ldn (d i:Nat):qY:=⟨some d,.ld none (.t i),none⟩
def lds (d k i:Nat):qY:=⟨some d,.ld (some k) (.t i),none⟩
def sts (k i j:Nat):qY:=⟨none,.st (some k) (.t i) (.t j),none⟩
def stn (i j:Nat):qY:=⟨none,.st none (.t i) (.t j),none⟩
def xtt (d i k:Nat):qY:=⟨some d,.ext (.t i) k,none⟩
def nlc (d i:Nat):qY:=⟨some d,.nilc (.t i),none⟩
def xlL (d k i j:Nat):qY:=⟨some d,.ixaL k (.t i) (.t j),none⟩
def lnn (d i:Nat):qY:=⟨some d,.len false (.t i),none⟩
def kI (n:Int):qk:=.c (.int .i64 n)
def kF (n:Nat):qk:=.c (.fn n [] [])
def kO:qk:=.c (.bool false)
def kU:qk:=.c (.bool true)
def nL:qa:=.lst [] .full
def zZ:qa:=.int .i64 0
def zS:qa:=.str []
def eqk (d i:Nat) (n:Int):qY:=⟨some d,.bin .eql (.t i) (.c (.int .i64 n)),none⟩
def bnk (d:Nat) (o:BinOp) (i:Nat) (n:Int):qY:=⟨some d,.bin o (.t i) (.c (.int .i64 n)),none⟩
def bnt (d:Nat) (o:BinOp) (i j:Nat):qY:=⟨some d,.bin o (.t i) (.t j),none⟩
def sgk (d:Nat) (n:Int):qY:=⟨some d,.asg (.c (.int .i64 n)),none⟩
def sgO (d:Nat):qY:=⟨some d,.asg (.c (.bool false)),none⟩
def sgU (d:Nat):qY:=⟨some d,.asg (.c (.bool true)),none⟩
def clA (d f i:Nat):qY:=⟨some d,.call (.c (.fn f [] [])) [.t i],none⟩
def clB (d f i j:Nat):qY:=⟨some d,.call (.c (.fn f [] [])) [.t i,.t j],none⟩
def pkO (d i j:Nat):qY:=⟨some d,.pick (.t i) (.t j) (.c (.bool false)),none⟩
def pkU (d i j:Nat):qY:=⟨some d,.pick (.t i) (.c (.bool true)) (.t j),none⟩
def bxx (d k i:Nat):qY:=⟨some d,.box k (.t i),none⟩
def ntt (d i:Nat):qY:=⟨some d,.un .not (.t i),none⟩
def gmv (d i j:Nat) (b:Bool):qY:=⟨some d,.mov (.t i),some (j,b)⟩
def gfA (d k i j:Nat) (b:Bool):qY:=⟨some d,.fa k (.t i),some (j,b)⟩
def gld (d i j:Nat) (b:Bool):qY:=⟨some d,.ld none (.t i),some (j,b)⟩
def gls (d k i j:Nat) (b:Bool):qY:=⟨some d,.ld (some k) (.t i),some (j,b)⟩
def gln (d i j:Nat) (b:Bool):qY:=⟨some d,.len false (.t i),some (j,b)⟩
def gbk (d:Nat) (o:BinOp) (i:Nat) (n:Int) (j:Nat) (b:Bool):qY:=⟨some d,.bin o (.t i) (.c (.int .i64 n)),some (j,b)⟩
def gbt (d:Nat) (o:BinOp) (i i2 j:Nat) (b:Bool):qY:=⟨some d,.bin o (.t i) (.t i2),some (j,b)⟩
def qk.slot:qk→List Nat
 | .t i=>[i]
 | .c _=>[]
def qyh:Option qk→List Nat
 | some x=>x.slot
 | none=>[]
def qe2:List qk→List Nat
 | []=>[]
 | x :: xs=>x.slot ++ qe2 xs
def AOp.looks:AOp→List Nat
 | .mov x | .asg x | .box _ x | .ld _ x | .nilc x | .un _ x | .cvi _ x | .cvs x | .cvb x | .cvt x | .mkI _ x | .fa _ x | .fld _ _ x | .ext x _ | .len _ x | .tas _ _ x | .pan x | .nls _ x=>x.slot
 | .pick c a b=>c.slot ++ a.slot ++ b.slot
 | .new _=>[]
 | .build _ ps=>qe2 (ps.map (·.2.2))
 | .list _ _ _ ps=>qe2 (ps.map (·.2))
 | .st _ a x | .bin _ a x | .eqb _ a x | .eqi _ _ a x | .eqa _ a x | .ixaL _ a x | .ixaA _ _ a x | .ixS a x | .ixA _ _ a x | .app _ a x | .mm _ a x | .eqs _ _ a x | .lk _ _ _ a x=>a.slot ++ x.slot
 | .hx _ as=>qe2 as
 | .mkF _ a b=>qe2 a ++ qe2 b
 | .subS x l h | .subL _ x l h=>x.slot ++ qyh l ++ qyh h
 | .call f as=>f.slot ++ qe2 as
def AOp.calls:AOp→Bool
 | .call .. | .pan ..=>true
 | _=>false
def AOp.acts:AOp→Bool
 | .st .. | .call .. | .app .. | .pan .. | .hx ..=>true
 | _=>false
def AOp.effs:AOp→Bool
 | .st .. | .call .. | .app .. | .pan .. | .asg .. | .hx ..=>true
 | _=>false
def qY.looks (o:qY):List Nat:=
 match o.guard with
 | some (j,_)=>j :: o.op.looks
 | none=>o.op.looks
structure qN where
 o:qY
 ix:Nat
 cl:Nat
 deriving Inhabited,Repr
inductive qG where
 | skip
 | reg (ops:List qY)
 | draw (ops:List qN)
 | draw2 (c:List qN) (a b:qN) (r:List qN)
 | seq (a b:qG)
 | cond (c:qk) (a b:qG)
 | block (id:Nat) (b:qG)
 | loop (b:qG)
 | rfun (f:qk) (ps:List Nat) (asg body:qG)
 | exit (id:Nat)
 | ret
 deriving Inhabited,Repr
def cT (i:Nat) (a b:qG):qG:=.cond (.t i) a b
def sR (l:List qY) (c:qG):qG:=.seq (.reg l) c
def qG.noRf:qG→Bool
 | .seq a b | .cond _ a b=>a.noRf && b.noRf
 | .block _ b | .loop b=>b.noRf
 | .rfun ..=>false
 | _=>true
inductive qkB where
 | tmp (i:Nat)
 | cell (a:Nat) (k:Option Nat)
 deriving Inhabited,Repr
structure qE where
 ntmps:Nat
 results:List qkB
 code:qG
 deriving Inhabited,Repr
end Go.AE
namespace Go.AE
inductive LSt where
 | ready | busy | done | exhausted
 deriving DecidableEq,Repr,Inhabited
inductive qrX where
 | ret
 | exit (id:Nat)
 deriving DecidableEq,Repr,Inhabited
inductive qf where
 | cells (cs:List qa)
 | loop (t:List qa) (ps:List Nat) (asg body:qG) (st:LSt) (pend:Option qrX)
 | map (es:List (Nat×qa×qa)) (clock:Nat)
 | iter (m:qa) (since:Nat) (seen:List Nat) (last:Nat)
 | bld (t e:Nat) (s:List UInt8)
 | dead
 deriving Inhabited,Repr
structure St where
 t:List qa
 h:List qf
 e:Bool
 deriving Inhabited
inductive Ex where
 | nor
 | exit (id:Nat)
 | ret
 | pan (v:qa)
 deriving Inhabited,Repr
inductive qcD where
 | ret (v:qa)
 | pan (v:qa)
 deriving Inhabited,Repr
abbrev Call:=qa→List qa→List qf→Option (qcD×List qf×Bool)
def raw (t:List qa):qk→qa
 | .t i=>t.getD i .undef
 | .c v=>v
def ev (t:List qa) (x:qk):qa:=(raw t x).dim
def put (dst:Option Nat) (v:qa) (t:List qa):List qa:=
 match dst with
 | some d=>t.set d v
 | none=>t
def qaF (t:List qa) (x:qk):List qa:=
 match x with
 | .t i=>match t.getD i .undef with
  | .lst xs (.own _)=>t.set i (.lst xs .no)
  | _=>t
 | .c _=>t
def qu:Nat:=2 ^ 30
def splice (cs:List qa) (o:Nat) (vs:List qa):List qa:=cs.take o ++ vs ++ cs.drop (o + vs.length)
def cut (cs:List qa) (o:Nat) (k:Option Nat):Option qa:=
 match k with
 | none=>(cs[o]?).map qa.dim
 | some k=>if o + k ≤ cs.length then some (.agg (((cs.drop o).take k).map qa.dim)) else none
def qdh (h:List qf) (a:qa) (k:Option Nat):Option qa:=
 match a with
 | .ptr i o=>match h[i]? with
  | some (.cells cs)=>cut cs o k
  | _=>none
 | .iptr cs o=>cut cs o k
 | _=>none
def qI (cells:List qa):List (Nat×Nat×qa)→Option (List qa)
 | []=>some cells
 | (off,size,v) :: rest=>
  let vs:=v.cells
  if vs.length = size∧off + size ≤ cells.length∧vs.all qa.storable then qI (splice cells off vs) rest else none
def ile:Int→Int→Bool
 | .ofNat a,.ofNat b=>Nat.ble a b
 | .negSucc _,.ofNat _=>true
 | .ofNat _,.negSucc _=>false
 | .negSucc a,.negSucc b=>Nat.ble b a
theorem qay (a b:Int):ile a b = decide (a ≤ b):=by
 cases a <;> cases b <;> simp only [ile] <;> rw [Bool.eq_iff_iff] <;> simp <;> omega
def ilt (a b:Int):Bool:=!ile b a
theorem qM (a b:Int):ilt a b = decide (a < b):=by
 rw [ilt,qay,Bool.eq_iff_iff];simp
def qcx (op:BinOp) (k:IntKind) (a b:Int):Option qa:=
 match op with
 | .add=>some (.int k (k.wrap (a + b)))
 | .sub=>some (.int k (k.wrap (a - b)))
 | .mul=>some (.int k (k.wrap (a * b)))
 | .quo=>if b = 0 then none else some (.int k (k.wrap (a.tdiv b)))
 | .rem=>if b = 0 then none else some (.int k (a.tmod b))
 | .and=>some (.int k (k.wrap (BitVec.ofInt k.bits a &&& BitVec.ofInt k.bits b).toNat))
 | .or=>some (.int k (k.wrap (BitVec.ofInt k.bits a ||| BitVec.ofInt k.bits b).toNat))
 | .xor=>some (.int k (k.wrap (BitVec.ofInt k.bits a ^^^ BitVec.ofInt k.bits b).toNat))
 | .andNot=>some (.int k (k.wrap (BitVec.ofInt k.bits a &&& ~~~ (BitVec.ofInt k.bits b)).toNat))
 | .eql=>some (.bool (a == b))
 | .neq=>some (.bool (a != b))
 | .lss=>some (.bool (ilt a b))
 | .leq=>some (.bool (ile a b))
 | .gtr=>some (.bool (ilt b a))
 | .geq=>some (.bool (ile b a))
 | .shl=>if b < 0 then none else some (.int k (k.wrap (a * 2 ^ (min b.toNat k.bits))))
 | .shr=>if b < 0 then none else some (.int k (a.fdiv (2 ^ (min b.toNat k.bits))))
def qrw (op:BinOp) (a b:List UInt8):Option qa:=
 match op with
 | .add=>if a.length + b.length ≤ qu then some (.str (a ++ b)) else none
 | .eql=>some (.bool (a == b))
 | .neq=>some (.bool (!(a == b)))
 | .lss=>some (.bool (Op.bytesLess a b))
 | .leq=>some (.bool (Op.bytesLess a b || a == b))
 | .gtr=>some (.bool (!(Op.bytesLess a b || a == b)))
 | .geq=>some (.bool (!(Op.bytesLess a b)))
 | _=>none
def qcp (op:BinOp) (x y:qa):Option qa:=
 match x,y with
 | .int k a,.int j b=>
  match op with
  | .shl | .shr=>qcx op k a b
  | _=>if k = j then qcx op k a b else none
 | .str a,.str b=>qrw op a b
 | _,_=>none
def qyG (k:Nat) (x y:qa):Option Bool:=
 match k with
 | 0=>match x,y with
  | .nilptr,.nilptr=>some true
  | .nilptr,.ptr _ _=>some false
  | .ptr _ _,.nilptr=>some false
  | .nilptr,.iptr _ _=>some false
  | .iptr _ _,.nilptr=>some false
  | .ptr i o,.ptr j p=>if i = j then some (o == p) else none
  | _,_=>none
 | 1=>match x,y with
  | .niliface,.niliface=>some true
  | .niliface,.iface _ _=>some false
  | .iface _ _,.niliface=>some false
  | _,_=>none
 | 2=>match x,y with
  | .nilfunc,.nilfunc=>some true
  | .nilfunc,.fn _ _ _=>some false
  | .fn _ _ _,.nilfunc=>some false
  | _,_=>none
 | 3=>match x,y with
  | .nilmap,.nilmap=>some true
  | .nilmap,.mp _=>some false
  | .mp _,.nilmap=>some false
  | _,_=>none
 | _=>none
def qnG (x y:qa):Option Bool:=
 match x,y with
 | .int k a,.int j b=>if k = j then some (a == b) else none
 | .str a,.str b=>some (a == b)
 | .bool a,.bool b=>some (a == b)
 | _,_=>none
def qju:List qa→List qa→Option Bool
 | [],[]=>some true
 | a :: as,b :: bs=>
  match qnG a b with
  | some true=>qju as bs
  | some false=>some false
  | none=>none
 | _,_=>none
def qeH (k:SK) (v:Option qa):Bool:=
 match k,v with
 | .b,some (.bool _)=>true
 | .i k,some (.int j n)=>k == j && (ile k.min n && ile n k.max)
 | .s,some (.str s)=>Nat.ble s.length 9223372036854775807
 | _,_=>false
def qeI (ls:List (Nat×SK)) (cs:List qa):Bool:=ls.all fun p=>qeH p.2 cs[p.1]?
def qfC (sh:qd6) (x:qa):Bool:=
 match x with
 | .agg cs=>sh.agg && cs.length == sh.n && qeI sh.ls cs
 | x=>!sh.agg && qeI sh.ls [x]
def qfe (x y:List qa):List (Nat×SK)→Bool
 | []=>true
 | p :: sh=>match x[p.1]?,y[p.1]? with
  | some a,some b=>match qnG a b with
   | some true=>qfe x y sh
   | _=>false
  | _,_=>false
def qyC (sh:qd6) (x y:qa):Option Bool:=
 if qfC sh x && qfC sh y then some (qfe x.cells y.cells sh.ls) else none
def unV (op:UnOp) (x:qa):Option qa:=
 match op,x with
 | .neg,.int k n=>some (.int k (k.wrap (0 - n)))
 | .not,.bool b=>some (.bool (!b))
 | _,_=>none
def bound (t:List qa) (x:Option qk) (d:Nat):Option Nat:=
 match x with
 | none=>some d
 | some x=>match ev t x with
  | .int _ n=>if 0 ≤ n then some n.toNat else none
  | _=>none
def qhL (s:List UInt8):List qa:=s.map fun b=>.int .u8 b.toNat
def qfc:List qa→Option (List UInt8)
 | []=>some []
 | .int .u8 n :: r=>(qfc r).map (UInt8.ofNat n.toNat :: ·)
 | _=>none
def pureV (t:List qa) (o:AOp):Option qa:=
 match o with
 | .mov x=>some (ev t x)
 | .pick c a b=>match ev t c with
  | .bool true=>some (ev t a)
  | .bool false=>some (ev t b)
  | _=>none
 | .build zero parts=>(qI zero (parts.map fun (o,s,x)=>(o,s,ev t x))).map .agg
 | .list k zero len parts=>
  if zero.length = k∧len * k ≤ 2 ^ 24 then
   match qI ((List.replicate len zero).flatten) (parts.map fun (i,x)=>(i * k,k,ev t x)) with
   | some cs=>if cs.all qa.storable then some (.lst ((List.range len).map fun i=>if k = 1 then (cs.getD i .undef) else .agg ((cs.drop (i * k)).take k)) .full) else none
   | none=>none
  else none
 | .nilc x=>match ev t x with
  | .ptr i o=>some (.ptr i o)
  | .iptr cs o=>some (.iptr cs o)
  | .fn f a b=>some (.fn f a b)
  | .yld l=>some (.yld l)
  | .iface u v=>some (.iface u v)
  | _=>none
 | .bin op x y=>qcp op (ev t x) (ev t y)
 | .eqb neg x y=>match ev t x,ev t y with
  | .bool a,.bool b=>some (.bool ((a == b) != neg))
  | _,_=>none
 | .eqi k neg x y=>(qyG k (ev t x) (ev t y)).map fun b=>.bool (b != neg)
 | .eqa neg x y=>match ev t x,ev t y with
  | .agg a,.agg b=>(qju a b).map fun r=>.bool (r != neg)
  | _,_=>none
 | .eqs sh neg x y=>(qyC sh (ev t x) (ev t y)).map fun r=>.bool (r != neg)
 | .un op x=>unV op (ev t x)
 | .nls neg x=>match ev t x with
  | .sl ..=>some (.bool (false != neg))
  | .lst (_ :: _) _=>some (.bool (false != neg))
  | .nils=>some (.bool (true != neg))
  | .empt=>some (.bool (false != neg))
  | _=>none
 | .cvi k x=>match ev t x with
  | .int _ n=>some (.int k (k.wrap n))
  | _=>none
 | .cvs x=>match ev t x with
  | .str s=>some (.str s)
  | _=>none
 | .cvb x=>match ev t x with
  | .str s=>some (.lst (qhL s) .no)
  | _=>none
 | .cvt x=>match ev t x with
  | .lst xs _=>(qfc xs).map .str
  | _=>none
 | .mkI ty x=>match ev t x with
  | .undef=>none
  | v=>some (.iface ty v)
 | .mkF f a b=>some (.fn f (a.map (ev t)) (b.map (ev t)))
 | .subS x lo hi=>match ev t x with
  | .str s=>match bound t hi s.length with
   | some h=>match bound t lo 0 with
    | some l=>if l ≤ h∧h ≤ s.length then some (.str ((s.drop l).take (h - l))) else none
    | none=>none
   | none=>none
  | _=>none
 | .subL k x lo hi=>match ev t x with
  | .lst xs f=>match bound t hi xs.length with
   | some h=>match bound t lo 0 with
    | some l=>
     if l ≤ h∧h ≤ xs.length then
      if xs.head?.all (fun y=>y.cells.length == k) then some (.lst ((xs.drop l).take (h - l)) (if h = xs.length then f else .no)) else none
     else none
    | none=>none
   | none=>none
  | .sl id o len cap more=>match bound t hi len with
   | some h=>match bound t lo 0 with
    | some l=>
     if l ≤ h∧h ≤ cap then
      if cap = l then (if more = 0 then some (.lst [] .full) else none) else (if more = 0∨more = k then some (.sl id (o + l * k) (h - l) (cap - l) more) else none)
     else none
    | none=>none
   | none=>none
  | _=>none
 | .fa off a=>match ev t a with
  | .ptr i o=>some (.ptr i (o + off))
  | .iptr cs o=>some (.iptr cs (o + off))
  | _=>none
 | .ixaL k s i=>match ev t s,ev t i with
  | .lst xs _,.int _ n=>
   if 0 ≤ n∧n < xs.length then
    match xs[n.toNat]? with
    | some x=>if x.cells.length = k then some (.iptr x.cells 0) else none
    | none=>none
   else none
  | .sl id o len _ _,.int _ n=>if 0 ≤ n∧n < len then some (.ptr id (o + n.toNat * k)) else none
  | _,_=>none
 | .ixaA len k a i=>match ev t a,ev t i with
  | .ptr b o,.int _ n=>if 0 ≤ n∧n < (len:Int) then some (.ptr b (o + n.toNat * k)) else none
  | .iptr cs o,.int _ n=>if 0 ≤ n∧n < (len:Int) then some (.iptr cs (o + n.toNat * k)) else none
  | _,_=>none
 | .ixS s i=>match ev t s,ev t i with
  | .str l,.int _ n=>if 0 ≤ n then (l[n.toNat]?).map fun b=>.int .u8 b.toNat else none
  | _,_=>none
 | .ixA len k a i=>match ev t a,ev t i with
  | .agg cs,.int _ n=>if 0 ≤ n∧n < (len:Int) then cut cs (n.toNat * k.getD 1) k else none
  | _,_=>none
 | .fld off k x=>match ev t x with
  | .agg cs=>cut cs off k
  | _=>none
 | .ext x i=>match ev t x with
  | .tup vs=>(vs[i]?).map qa.dim
  | _=>none
 | .len true x=>match ev t x with
  | .str s=>some (.int .i64 s.length)
  | _=>none
 | .len false x=>match ev t x with
  | .lst xs _=>some (.int .i64 xs.length)
  | .sl _ _ len _ _=>some (.int .i64 len)
  | .nils=>some (.int .i64 0)
  | .empt=>some (.int .i64 0)
  | _=>none
 | .mm isMax x y=>match ev t x,ev t y with
  | .int k a,.int _ b=>some (.int k (if isMax then (if b > a then b else a) else (if b < a then b else a)))
  | _,_=>none
 | .tas ty zero x=>match ev t x with
  | .niliface=>some (.tup [zero,.bool false])
  | .iface u v=>if u = ty then some (.tup [v,.bool true]) else some (.tup [zero,.bool false])
  | _=>none
 | _=>none
inductive Src where
 | tmp (i:Nat)
 | cell (a:qk)
 deriving Inhabited,Repr
abbrev qco:=List (Nat×Src)
def qk.isT (x:qk) (d:Nat):Bool:=
 match x with
 | .t i=>i == d
 | .c _=>false
def Src.hangs (d:Nat):Src→Bool
 | .tmp i=>i == d
 | .cell a=>a.isT d
def qD:AOp→Option Src
 | .mov (.t i)=>some (.tmp i)
 | .ld none a=>some (.cell a)
 | _=>none
def Src.isTmp:Src→Bool
 | .tmp _=>true
 | .cell _=>false
def qaJ (p:qco) (o:qY):qco:=
 if o.op.effs then
  match o.dst with
  | none=>p.filter fun x=>x.2.isTmp
  | some d=>p.filter fun x=>x.2.isTmp && (x.1 != d && !x.2.hangs d)
 else
  match o.dst with
  | none=>p
  | some d=>
   let q:=p.filter fun x=>x.1 != d && !x.2.hangs d
   match qD o.op with
   | some s=>if s.hangs d then q else (d,s) :: q
   | none=>q
def tail (y:qa):Option (List qa):=
 match y with
 | .lst ys _=>some ys
 | .str s=>some (qhL s)
 | _=>none
def qdR (k:Nat) (p:qco) (x:qk) (s:St):Option (List qa×St):=
 match x with
 | .c _=>none
 | .t i=>
  match s.t.getD i .undef with
  | .lst xs (.own j)=>if j = k then some (xs,{ s with t:=s.t.set i (.lst xs .no)}) else none
  | _=>
   match p.find? (·.1 == i) with
   | some (_,.tmp b)=>
    match s.t.getD b .undef with
    | .lst xs (.own j)=>if j = k then some (xs,{ s with t:=s.t.set b (.lst xs .no)}) else none
    | _=>none
   | some (_,.cell a)=>
    match ev s.t a with
    | .ptr id o=>
     match s.h[id]? with
     | some (.cells cs)=>
      match cs[o]? with
      | some (.lst xs (.own j))=>if j = k then some (xs,{ s with h:=s.h.set id (.cells (cs.set o (.lst xs .no)))}) else none
      | _=>none
     | _=>none
    | _=>none
   | none=>none
def qeJ (xs:List qa):List qa:=xs.flatMap qa.cells
def qko (k:Nat) (h:List qf) (v:qa):Option (List qa×Nat):=
 match v with
 | .lst xs _=>if xs.all (fun x=>x.cells.length == k) then some ((qeJ xs).map qa.dim,xs.length) else none
 | .str s=>if k = 1 then some (qhL s,s.length) else none
 | .sl id o len _ _=>match h[id]? with
  | some (.cells cs)=>if o + len * k ≤ cs.length then some (((cs.drop o).take (len * k)).map qa.dim,len) else none
  | _=>none
 | .nils=>some ([],0)
 | .empt=>some ([],0)
 | _=>none
def young (base id:Nat) (vs:List qa):Bool:=!(Nat.ble base id || qy (id + 1) vs)
def qfY (base:Nat) (h:List qf) (id o:Nat) (vs:List qa):Option (List qf×Bool):=
 match h[id]? with
 | some (.cells cs)=>if o + vs.length ≤ cs.length∧vs.all qa.storable then some (h.set id (.cells (splice cs o vs)),young base id vs) else none
 | _=>none
def qoJ (sh:qd6) (key:qa):List (Nat×qa×qa)→Nat→Option (Option (Nat×qa))
 | [],_=>if qfC sh key then some none else none
 | e :: es,i=>match qyC sh key e.2.1 with
  | some true=>some (some (i,e.2.2))
  | some false=>qoJ sh key es (i + 1)
  | none=>none
def qkQ (h:List qf) (m:qa):Option (List (Nat×qa×qa)):=
 match m with
 | .nilmap=>some []
 | .mp id=>match h[id]? with
  | some (.map es _)=>some es
  | _=>none
 | _=>none
def qk3 (h:List qf) (sh:qd6) (zero:qa) (ok:Bool) (m key:qa):Option qa:=
 match qkQ h m with
 | some es=>match qoJ sh key es 0 with
  | some (some (_,v))=>some (if ok then .tup [v.dim,.bool true] else v.dim)
  | some none=>some (if ok then .tup [zero.dim,.bool false] else zero.dim)
  | none=>none
 | none=>none
def qkX (base k:Nat) (x y:qa) (h:List qf):Option (qa×List qf×Bool):=
 match qko k h y with
 | none=>none
 | some (ys,m)=>
  if !(ys.all qa.storable) then none else
  match x with
  | .lst xs .full=>
   if m = 0 then some (x,h,false) else
   match qko k h x with
   | some (cs,n)=>if n + m ≤ qu then some (.sl h.length 0 (n + m) (n + m) k,h ++ [.cells (cs ++ ys)],false) else none
   | none=>none
  | .sl id o len cap more=>
   if m = 0 then some (x,h,false) else
   if len + m ≤ qu then
    if len + m ≤ cap then
     match qfY base h id (o + len * k) ys with
     | some (h',e)=>some (.sl id o (len + m) cap more,h',e)
     | none=>none
    else
     match qko k h x,h[id]? with
     | some (cs,_),some (.cells ds)=>
      if more = 0 then some (.sl h.length 0 (len + m) (len + m) k,h ++ [.cells (cs ++ ys)],false)
      else if o = 0∧more = k∧cap * k = ds.length then some (.sl h.length 0 (len + m) (len + m) k,h.set id .dead ++ [.cells (cs ++ ys)],false) else none
     | _,_=>none
   else none
  | .nils=>
   if m = 0 then some (x,h,false) else if m ≤ qu then some (.sl h.length 0 m m k,h ++ [.cells ys],false) else none
  | _=>none
def elems (k len:Nat) (cs:List qa):List qa:=(List.range len).map fun i=>if k = 1 then (cs.getD i .undef) else .agg ((cs.drop (i * k)).take k)
def frz (h:List qf) (x:qa):Option (qa×List qf):=
 match x with
 | .sl id o len cap _=>match h[id]? with
  | some (.cells ds)=>
   if o = 0∧len * (ds.length / cap) ≤ ds.length∧(ds.map qa.dim).all qa.storable = true then some (.lst (elems (ds.length / cap) len (ds.map qa.dim)) .no,h.set id .dead) else none
  | _=>none
 | _=>none
def qvb:List qa→List qf→List qa×List qf
 | [],h=>([],h)
 | x :: xs,h=>match frz h x with
  | some (y,h')=>(y :: (qvb xs h').1,(qvb xs h').2)
  | none=>(x :: (qvb xs h).1,(qvb xs h).2)
def qC5 (h:List qf):qa→qa×List qf×Bool
 | .agg cs=>(.agg (qvb cs h).1,(qvb cs h).2,false)
 | v=>(v,h,false)
def hop (base:Nat) (o:HOp) (as:List qa) (h:List qf):Option (qa×List qf×Bool):=
 match o,as with
 | .mk k zero,[.int _ l,.int _ c]=>
  if 0 ≤ l∧l ≤ c∧c ≤ 2 ^ 24∧zero.length = k then some (.sl h.length 0 l.toNat c.toNat 0,h ++ [.cells (((List.replicate c.toNat zero).flatten).map qa.dim)],false) else none
 | .lit k zero len ixs,vs=>
  if zero.length = k∧len * k ≤ 2 ^ 24 then
   match qI ((List.replicate len zero).flatten) ((ixs.zip vs).map fun p=>(p.1 * k,k,p.2)) with
   | some cs=>some (.sl h.length 0 len len 0,h ++ [.cells (cs.map qa.dim)],false)
   | none=>none
  else none
 | .app k,[x,y]=>qkX base k x y h
 | .sub3 k,[x,.int _ lo,.int _ hi,.int _ mx]=>
  if 0 ≤ lo∧lo ≤ hi∧hi ≤ mx then
   match x with
   | .lst xs _=>if mx ≤ xs.length then (if mx = lo then some (.lst [] .full,h,false) else if lo = 0∧hi = mx∧mx = xs.length then some (.lst xs .full,h,false) else none) else none
   | .sl id o _ cap _=>
    if mx ≤ cap then
     if mx = lo then some (.lst [] .full,h,false) else some (.sl id (o + lo.toNat * k) (hi.toNat - lo.toNat) (mx.toNat - lo.toNat) 0,h,false)
    else none
   | _=>none
  else none
 | .mkm,[]=>some (.mp h.length,h ++ [.map [] 0],false)
 | .mup sh,[.mp id,key,v]=>
  match h[id]? with
  | some (.map es c)=>match qoJ sh key es 0 with
   | some (some (i,_))=>some (.tup [],h.set id (.map (es.modify i fun e=>(e.1,key,v)) c),young base id [key,v])
   | some none=>some (.tup [],h.set id (.map (es ++ [(c,key,v)]) (c + 1)),young base id [key,v])
   | none=>none
  | _=>none
 | .ment sh zero,[.mp id,key]=>
  match h[id]? with
  | some (.map es c)=>match qoJ sh key es 0 with
   | some (some (i,v))=>match es[i]? with
    | some e=>some (.tup [v.dim,.int .i64 e.1],h.set id (.map (es.modify i fun e=>(e.1,key,e.2.2)) c),young base id [key])
    | none=>none
   | some none=>some (.tup [zero.dim,.int .i64 c],h.set id (.map (es ++ [(c,key,zero.dim)]) (c + 1)),young base id [key,zero.dim])
   | none=>none
  | _=>none
 | .mst,[.mp id,.int _ n,v]=>
  match h[id]? with
  | some (.map es c)=>match es.findIdx? (fun e=>(e.1:Int) == n) with
   | some i=>some (.tup [],h.set id (.map (es.modify i fun e=>(e.1,e.2.1,v)) c),young base id [v])
   | none=>none
  | _=>none
 | .mlen,[m]=>match m with
  | .nilmap=>some (.int .i64 0,h,false)
  | .mp id=>match h[id]? with
   | some (.map es _)=>some (.int .i64 es.length,h,false)
   | _=>none
  | _=>none
 | .mkm,[.int _ _]=>some (.mp h.length,h ++ [.map [] 0],false)
 | .del sh,[m,key]=>match m with
  | .nilmap=>if qfC sh key then some (.tup [],h,false) else none
  | .mp id=>match h[id]? with
   | some (.map es c)=>match qoJ sh key es 0 with
    | some (some (i,_))=>some (.tup [],h.set id (.map (es.eraseIdx i) c),false)
    | some none=>some (.tup [],h.set id (.map es c),false)
    | none=>none
   | _=>none
  | _=>none
 | .rng,[m]=>match m with
  | .nilmap=>some (.ptr h.length 0,h ++ [.iter .nilmap 0 [] 0],false)
  | .mp id=>match h[id]? with
   | some (.map _ c)=>some (.ptr h.length 0,h ++ [.iter (.mp id) c [] c],false)
   | _=>none
  | _=>none
 | .nxt,[.ptr it 0]=>match h[it]? with
  | some (.iter .nilmap _ _ _)=>some (.tup [.bool false],h,false)
  | some (.iter (.mp id) since seen last)=>match h[id]? with
   | some (.map es c)=>
    if !seen.isEmpty && !es.isEmpty && es.all (fun e=>Nat.ble last e.1) then none else
    match es.filter (fun e=>!seen.contains e.1) with
    | []=>some (.tup [.bool false],h,false)
    | [e]=>if Nat.blt e.1 since then some (.tup [.bool true,e.2.1.dim,e.2.2.dim],h.set it (.iter (.mp id) since (seen ++ [e.1]) c),false) else none
    | _=>none
   | _=>none
  | _=>none
 | .ent,[.ptr it 0]=>match h[it]? with
  | some (.iter (.mp id) _ seen last)=>match h[id]?,seen.getLast? with
   | some (.map es c),some b=>if c = last then match es.find? (fun e=>e.1 == b) with
     | some e=>some (.tup [e.2.1.dim,e.2.2.dim],h,false)
     | none=>none
    else none
   | _,_=>none
  | _=>none
 | .ldz k,[p]=>(qdh h p k).map (qC5 h)
 | .bld t e,[]=>some (.ptr h.length 0,h ++ [.bld t e []],false)
 | _,_=>none
def qq (base:Nat) (call:Call) (p:qco) (dst:Option Nat) (o:AOp) (s:St):Option (Ex×St):=
 match o with
 | .asg x=>some (.nor,{ s with t:=put dst (raw s.t x) (qaF s.t x)})
 | .new cs=>some (.nor,{ s with t:=put dst (.ptr s.h.length 0) s.t,h:=s.h ++ [.cells (cs.map qa.dim)]})
 | .box k x=>
  let vs:=(ev s.t x).cells.map qa.dim
  if vs.length = k∧vs.all qa.storable then some (.nor,{ s with t:=put dst (.ptr s.h.length 0) s.t,h:=s.h ++ [.cells vs]}) else none
 | .ld k a=>(qdh s.h (ev s.t a) k).map fun v=>(.nor,{ s with t:=put dst v s.t})
 | .st k a x=>
  match ev s.t a with
  | .ptr id o=>
   match s.h[id]? with
   | some (.cells cs)=>
    let v:=raw s.t x
    let vs:=match k with | none=>[v] | some _=>v.dim.cells.map qa.dim
    if vs.length = k.getD 1∧o + vs.length ≤ cs.length∧vs.all qa.storable then
     some (.nor,{ t:=put dst .undef (qaF s.t x),h:=s.h.set id (.cells (splice cs o vs)),e:=s.e || !(Nat.ble base id || qy (id + 1) vs)})
    else none
   | _=>none
  | _=>none
 | .call f args=>
  match call (ev s.t f) (args.map (ev s.t)) s.h with
  | some (.ret v,h,e)=>some (.nor,{ t:=put dst v.dim s.t,h,e:=s.e || e})
  | some (.pan v,h,e)=>some (.pan v,{ s with h,e:=s.e || e})
  | none=>none
 | .app k x y=>
  match raw s.t x,tail (ev s.t y) with
  | .lst xs f,some ys=>
   if ys.isEmpty then some (.nor,{ s with t:=put dst (qa.lst xs f).dim s.t})
   else if xs.length + ys.length ≤ qu∧ys.all (fun y=>y.cells.length == k && y.cells.all qa.storable)∧xs.head?.all (fun y=>y.cells.length == k) then
    match f with
    | .full=>some (.nor,{ s with t:=put dst (.lst (xs ++ ys) (.own k)) s.t})
    | _=>
     match qdR k p x s with
     | some (xs,s)=>if xs.head?.all (fun y=>y.cells.length == k) then some (.nor,{ s with t:=put dst (.lst (xs ++ ys) (.own k)) s.t}) else none
     | none=>none
   else none
  | _,_=>none
 | .pan x=>match ev s.t x with
  | .iface u v=>some (.pan (.iface u v),s)
  | _=>none
 | .lk sh z ok m key=>(qk3 s.h sh z ok (ev s.t m) (ev s.t key)).map fun v=>(.nor,{ s with t:=put dst v s.t})
 | .hx o as=>(hop base o (as.map (ev s.t)) s.h).map fun r=>(.nor,{ t:=put dst r.1.dim s.t,h:=r.2.1,e:=s.e || r.2.2})
 | o=>(pureV s.t o).map fun v=>(.nor,{ s with t:=put dst v s.t})
def wanted (t:List qa) (g:Option (Nat×Bool)):Option Bool:=
 match g with
 | none=>some true
 | some (j,b)=>match t.getD j .undef with
  | .bool c=>some (c == b)
  | .tup []=>some false
  | _=>none
def qaK (base:Nat) (call:Call):qco→List qY→St→Option (Ex×St)
 | _,[],s=>some (.nor,s)
 | p,o :: os,s=>
  match wanted s.t o.guard with
  | some true=>
   match qq base call p o.dst o.op s with
   | some (.nor,s)=>qaK base call (qaJ p o) os s
   | r=>r
  | some false=>qaK base call (qaJ p { o with op:=.pick (.c .undef) (.c .undef) (.c .undef)}) os { s with t:=put o.dst (.tup []) s.t}
  | none=>none
inductive Chk where
 | ld (a:qa) (k:Option Nat) (v:qa)
 | box (id:Nat) (cs:List qa)
 | lk (sh:qd6) (zero:qa) (ok:Bool) (m key v:qa)
 deriving Inhabited
def Chk.ok (h:List qf):Chk→Bool
 | .ld a k v=>match qdh h a k with
  | some w=>v.beq w
  | none=>false
 | .box id cs=>match h[id]? with
  | some (.cells ds)=>qjg cs ds
  | _=>false
 | .lk sh z ok m key v=>match qk3 h sh z ok m key with
  | some w=>v.beq w
  | none=>false
def qeC (s:St) (o:AOp):Option Chk:=
 match o with
 | .ld k a=>(qdh s.h (ev s.t a) k).map (.ld (ev s.t a) k)
 | .lk sh z ok m key=>(qk3 s.h sh z ok (ev s.t m) (ev s.t key)).map (.lk sh z ok (ev s.t m) (ev s.t key))
 | .new cs=>some (.box s.h.length (cs.map qa.dim))
 | .box _ x=>some (.box s.h.length ((ev s.t x).cells.map qa.dim))
 | _=>none
def qcs (ms:List Nat) (t:List qa):List qa:=t.mapIdx fun i x=>if ms.contains i then .undef else x
def qK (base:Nat) (call:Call) (dsts:List Nat):List qN→List (Nat×Chk)→St→Option (Ex×St)
 | [],_,s=>some (.nor,s)
 | d :: ds,pend,s=>
  match wanted s.t d.o.guard with
  | some true=>
   match qq base call [] d.o.dst d.o.op s with
   | some (.nor,s')=>
    if d.o.op.effs then
     let pend':=pend.filter fun c=>!d.cl.testBit c.1
     if pend'.all (fun c=>c.2.ok s'.h) then qK base call dsts ds pend' s' else none
    else
     match qeC s d.o.op with
     | some c=>qK base call dsts ds ((d.ix,c) :: pend) s'
     | none=>qK base call dsts ds pend s'
   | some (.pan v,s')=>if d.o.op.effs then some (.pan v,{ s' with t:=qcs dsts s'.t}) else none
   | _=>none
  | some false=>qK base call dsts ds pend { s with t:=put d.o.dst (.tup []) s.t}
  | none=>none
def qyA:List (Nat×qa×qa)→List (Nat×qa×qa)→Bool
 | [],[]=>true
 | x :: xs,y :: ys=>x.1 == y.1 && x.2.1.beq y.2.1 && x.2.2.beq y.2.2 && qyA xs ys
 | _,_=>false
def qf.beq:qf→qf→Bool
 | .cells a,.cells b=>qjg a b
 | .map a c,.map b d=>c == d && qyA a b
 | .iter m a l b,.iter m' a' l' b'=>m.beq m' && a == a' && l == l' && b == b'
 | .bld a c s,.bld b d u=>Nat.beq a b && (Nat.beq c d && s == u)
 | .dead,.dead=>true
 | _,_=>false
def apart (t:List qa) (a b:qN):Bool:=
 (a.o.guard.isNone && b.o.guard.isNone && a.o.dst.isNone && b.o.dst.isNone) && match a.o.op,b.o.op with
 | .st _ p x,.st _ q y=>x.slot.all (fun i=>!y.slot.contains i) && (match ev t p,ev t q with
  | .ptr i _,.ptr j _=>!Nat.beq i j
  | _,_=>false)
 | _,_=>false
def quT (a b:qN) (r0 r1 r2:Option (Ex×St)):Option (Ex×St):=
 match r0,r1,r2 with
 | some (.nor,s0),some (.nor,s1),some (.nor,_)=>if apart s0.t a b then some (.nor,s1) else none
 | _,_,_=>none
theorem qnB {a b:qN} {r0 r1 r2:Option (Ex×St)} {x:Ex} {s':St} (h:quT a b r0 r1 r2 = some (x,s')):x = .nor∧r1 = some (.nor,s')∧(∃s2,r2 = some (.nor,s2))∧∃s0,r0 = some (.nor,s0)∧apart s0.t a b = true:=by
 unfold quT at h
 split at h
 ·split at h
  ·rename_i hap
   cases h;exact ⟨rfl,rfl,⟨_,rfl⟩,_,rfl,hap⟩
  ·cases h
 ·cases h
def iter (f:St→Option (Ex×St)):Nat→St→Option (Ex×St)
 | 0,_=>none
 | n + 1,s=>match f s with
  | some (.nor,s)=>iter f n s
  | r=>r
def qaV (n base:Nat) (call:Call):qG→St→Option (Ex×St)
 | .skip,s=>some (.nor,s)
 | .reg ops,s=>qaK base call [] ops s
 | .draw ops,s=>qK base call (ops.filterMap (·.o.dst)) ops [] s
 | .draw2 c a b r,s=>quT a b (qK base call ((c ++ a :: b :: r).filterMap (·.o.dst)) (c ++ [a,b]) [] s) (qK base call ((c ++ a :: b :: r).filterMap (·.o.dst)) (c ++ a :: b :: r) [] s) (qK base call ((c ++ a :: b :: r).filterMap (·.o.dst)) (c ++ b :: a :: r) [] s)
 | .seq a b,s=>match qaV n base call a s with
  | some (.nor,s)=>qaV n base call b s
  | r=>r
 | .cond c a b,s=>match ev s.t c with
  | .bool true=>qaV n base call a s
  | .bool false=>qaV n base call b s
  | _=>none
 | .block id b,s=>match qaV n base call b s with
  | some (.exit j,s)=>if j = id then some (.nor,s) else some (.exit j,s)
  | r=>r
 | .loop b,s=>iter (qaV n base call b) n s
 | .exit id,s=>some (.exit id,s)
 | .ret,s=>some (.ret,s)
 | .rfun f ps asg body,s=>
  match ev s.t f with
  | .fn g first cap=>
   match call (.fn g first cap) [.yld s.h.length] (s.h ++ [.loop (s.t.map qa.dim) ps asg body .ready none]) with
   | some (.ret _,h,e)=>
    match h[s.h.length]? with
    | some (.loop t ps' asg' body' st pend)=>
     if st = .busy then none else
     let s':St:={ s with h:=h.set s.h.length (.loop t ps' asg' body' .exhausted pend),e:=s.e || e}
     match pend with
     | none=>some (.nor,s')
     | some .ret=>some (.ret,s')
     | some (.exit id)=>some (.exit id,s')
    | _=>none
   | some (.pan v,h,e)=>some (.pan v,{ s with h,e:=s.e || e})
   | none=>none
  | _=>none
def qat (s:St):List qkB→Option (List qa)
 | []=>some []
 | .tmp i :: rs=>match qat s rs with
  | some vs=>some ((s.t.getD i .undef).dim :: vs)
  | none=>none
 | .cell a k :: rs=>
  match qdh s.h (s.t.getD a .undef) k,qat s rs with
  | some v,some vs=>some (v :: vs)
  | _,_=>none
def qbR:List qa→qa
 | [v]=>v
 | vs=>.tup vs
def qa7 (n:Nat):List (Nat×qa×qa)→Bool
 | []=>true
 | x :: xs=>x.2.1.lower n && x.2.2.lower n && qa7 n xs
def qf.lower (n:Nat):qf→Bool
 | .cells cs=>qy n cs
 | .loop t _ _ _ _ _=>qy n t
 | .map es _=>qa7 n es
 | .iter m _ _ _=>m.lower n
 | .bld _ _ _=>true
 | .dead=>true
def qaQ (base:Nat) (r:qcD) (h:List qf) (e:Bool):qcD×List qf×Bool:=
 if (!e || base == 0) && (match r with | .ret v=>v.lower base | .pan v=>v.lower base) then (r,h.take base,e) else (r,h,e)
abbrev qf3:=FuncId→Option (Call→List qa→List qf→Option (qcD×List qf×Bool))
def qic (t:List qa):List Nat→List qa→List qa
 | p :: ps,a :: as=>qic (t.set p a) ps as
 | _,_=>t
def round (n:Nat) (call:Call) (l:Nat) (args:List qa) (h:List qf):Option (qcD×List qf×Bool):=
 match h[l]? with
 | some (.loop t ps asg body _ _)=>
  if args.length ≠ ps.length then none else
  let base:=h.length
  match qaV n base call asg ⟨qic t ps (args.map qa.dim),h,false⟩ with
  | some (.nor,s)=>
   match s.h[l]? with
   | some (.loop t1 ps1 asg1 body1 .ready pend)=>
    match qaV n base call body { s with h:=s.h.set l (.loop t1 ps1 asg1 body1 .busy pend)} with
    | some (x,s)=>
     match s.h[l]? with
     | some (.loop t2 ps2 asg2 body2 _ _)=>
      match x with
      | .nor=>some (qaQ base (.ret (.bool true)) (s.h.set l (.loop t2 ps2 asg2 body2 .ready none)) s.e)
      | .ret=>some (qaQ base (.ret (.bool false)) (s.h.set l (.loop t2 ps2 asg2 body2 .done (some .ret))) s.e)
      | .exit id=>some (qaQ base (.ret (.bool false)) (s.h.set l (.loop t2 ps2 asg2 body2 .done (some (.exit id)))) s.e)
      | .pan _=>none
     | _=>none
    | none=>none
   | _=>none
  | _=>none
 | _=>none
def run (F:FuncId→Option qE) (X:qf3):Nat→Call
 | 0=>fun _ _ _=>none
 | n + 1=>fun fv args h=>
  match fv with
  | .fn f first cap=>
   match X f with
   | some g=>g (run F X n) (first ++ args ++ cap) h
   | none=>
    match F f with
    | none=>none
    | some fn=>
     let as:=(first ++ args ++ cap).map qa.dim
     match qaV n h.length (run F X n) fn.code ⟨as ++ List.replicate (fn.ntmps - as.length) (.tup []),h,false⟩ with
     | some (.nor,s) | some (.ret,s)=>
      match qat s fn.results with
      | some vs=>some (qaQ h.length (.ret (qbR vs)) s.h s.e)
      | none=>none
     | some (.pan v,s)=>some (qaQ h.length (.pan v) s.h s.e)
     | _=>none
  | .yld l=>round n (run F X n) l args h
  | _=>none
end Go.AE
namespace Go.AE
def qcW:Value→Option qa
 | .bool b=>some (.bool b)
 | .int k n=>some (.int k n)
 | .string s=>some (.str s.data.toList)
 | .pointer none=>some .nilptr
 | .slice none l c=>if l = 0∧c = 0 then some (.lst [] .full) else none
 | .nilFunc=>some .nilfunc
 | .nilIface=>some .niliface
 | .map none=>some .nilmap
 | .func (.func f) a b=>if a.isEmpty && b.isEmpty then some (.fn f [] []) else none
 | _=>none
def qfw:Value→Option qa
 | .agg cs=>(cs.toList.mapM qcW).map .agg
 | .tuple vs=>if vs.isEmpty then some (.tup []) else none
 | v=>qcW v
def qd9:BinOp→Bool
 | .neq=>true
 | _=>false
def qw1:BinOp→Bool
 | .eql | .neq=>true
 | _=>false
def qzy:TypeDesc→Bool
 | .slice _ | .string=>true
 | _=>false
def qyF:Option TypeDesc→Bool
 | some (.int .u8)=>true
 | _=>false
def isC:Operand→Bool
 | .const _=>true
 | _=>false
section
variable (P:Program) (gl:Nat→Option (List qa))
def opd:Operand→Option qk
 | .tmp t=>some (.t t)
 | .const v=>(qfw v).map .c
 | .global g=>(gl g).map fun cs=>.c (.iptr cs 0)
 | .func f=>some (.c (.fn f [] []))
def qrV (xs:Array Operand):Option (List qk):=xs.toList.mapM (opd gl)
def tyk (t:TypeId):Option (Option Nat):=
 match P.underlying t with
 | some (.struct _) | some (.array ..)=>(P.info? t).map fun i=>some i.size
 | some (.tuple _) | some .invalid | none=>none
 | some _=>some none
def qbv (t:TypeId):Option qa:=
 match P.info? t with
 | some i=>i.zero.bind qfw
 | none=>none
def qdv (t:TypeId):Option Nat:=(P.info? t).map (·.size)
def qhj (fs:Array Field):List (Nat×Operand)→Option (List (Nat×Nat×qk))
 | []=>some []
 | (i,x) :: rest=>
  match fs[i]?,opd gl x,qhj fs rest with
  | some f,some x,some r=>match qdv P f.type with
   | some s=>some ((f.offset,s,x) :: r)
   | none=>none
  | _,_,_=>none
def qhi (k:Nat):List (Nat×Operand)→Option (List (Nat×Nat×qk))
 | []=>some []
 | (i,x) :: rest=>
  match opd gl x,qhi k rest with
  | some x,some r=>some ((i * k,k,x) :: r)
  | _,_=>none
def qfI:List (Nat×Operand)→Option (List (Nat×qk))
 | []=>some []
 | (i,x) :: rest=>
  match opd gl x,qfI rest with
  | some x,some r=>some ((i,x) :: r)
  | _,_=>none
def qcK:Option Operand→Option (Option qk)
 | none=>some none
 | some x=>(opd gl x).map some
def qel (o:Oper):Option AOp:=
 match o.op with
 | .move x=>(opd gl x).map .mov
 | .assign x=>(opd gl x).map .asg
 | .pick c a b=>do pure (.pick (←opd gl c) (←opd gl a) (←opd gl b))
 | .alloc e=>do pure (.new (←qbv P e).cells)
 | .box e x=>do pure (.box (←qdv P e) (←opd gl x))
 | .build t ps=>do
  let z ←qbv P t
  match P.underlying t with
  | some (.struct fs)=>if fs.all fun f=>(qdv P f.type).isSome then pure (.build z.cells (←qhj P gl fs ps.toList)) else none
  | some (.array _ e)=>pure (.build z.cells (←qhi gl (←qdv P e) ps.toList))
  | _=>none
 | .buildSlice t n ps=>do
  match P.underlying t with
  | some (.slice e)=>do
   let k ←qdv P e
   let z ←qbv P e
   if k = 0 then none else pure (.list k z.cells n (←qfI gl ps.toList))
  | _=>none
 | .load t a=>do pure (.ld (←tyk P t) (←opd gl a))
 | .store t a x=>do
  let k ←tyk P t
  if qdv P t = some (k.getD 1) then pure (.st k (←opd gl a) (←opd gl x)) else none
 | .nilCheck x=>(opd gl x).map .nilc
 | .binOp op t x y _=>
  match opd gl x,opd gl y with
  | some ax,some ay=>
   if qw1 op then
    match P.underlying t with
    | some .bool=>some (.eqb (qd9 op) ax ay)
    | some (.int _) | some .string=>some (.bin op ax ay)
    | some (.pointer e)=>if (qdv P e).getD 0 = 0 then none else some (.eqi 0 (qd9 op) ax ay)
    | some (.interface _)=>if isC x || isC y then some (.eqi 1 (qd9 op) ax ay) else none
    | some (.func ..)=>some (.eqi 2 (qd9 op) ax ay)
    | some (.map ..)=>some (.eqi 3 (qd9 op) ax ay)
    | _=>none
   else some (.bin op ax ay)
  | _,_=>none
 | .unOp op _ x=>(opd gl x).map (.un op)
 | .convert s d x=>do
  let x ←opd gl x
  match P.underlying s,P.underlying d with
  | some (.int _),some (.int k)=>pure (.cvi k x)
  | some .string,some .string=>pure (.cvs x)
  | some .string,some (.slice e)=>if qyF (P.underlying e) then pure (.cvb x) else none
  | some (.slice e),some .string=>if qyF (P.underlying e) then pure (.cvt x) else none
  | _,_=>none
 | .makeInterface t x=>
  match P.underlying t with
  | some (.interface _) | none=>none
  | _=>(opd gl x).map (.mkI t)
 | .makeFunc (.func f) a b=>do pure (.mkF f (←qrV gl a) (←qrV gl b))
 | .slice t x lo hi none=>do
  match P.underlying t with
  | some .string=>pure (.subS (←opd gl x) (←qcK gl lo) (←qcK gl hi))
  | some (.slice e)=>pure (.subL (←qdv P e) (←opd gl x) (←qcK gl lo) (←qcK gl hi))
  | _=>none
 | .fieldAddr s x i=>
  match P.underlying s with
  | some (.struct fs)=>match fs[i]? with
   | some f=>if (qdv P f.type).getD 0 = 0 then none else (opd gl x).map (.fa f.offset)
   | none=>none
  | _=>none
 | .field s x i=>do
  match P.underlying s with
  | some (.struct fs)=>match fs[i]? with
   | some f=>pure (.fld f.offset (←tyk P f.type) (←opd gl x))
   | none=>none
  | _=>none
 | .indexAddr t x i=>do
  match P.underlying t with
  | some (.slice e)=>pure (.ixaL (←qdv P e) (←opd gl x) (←opd gl i))
  | some (.array n e)=>pure (.ixaA n (←qdv P e) (←opd gl x) (←opd gl i))
  | _=>none
 | .index t x i=>do
  match P.underlying t with
  | some .string=>pure (.ixS (←opd gl x) (←opd gl i))
  | some (.array n e)=>do
   let k ←tyk P e
   if qdv P e = some (k.getD 1) then pure (.ixA n k (←opd gl x) (←opd gl i)) else none
  | _=>none
 | .typeAssert x _ t true=>do
  match P.underlying t with
  | some (.interface _) | none=>none
  | _=>pure (.tas t (←qbv P t) (←opd gl x))
 | .extract x i=>do pure (.ext (←opd gl x) i)
 | .call c=>
  match c.callee with
  | .value f=>do pure (.call (←opd gl f) (←qrV gl c.args))
  | .invoke _ _=>none
  | .builtin b=>
   match b,c.args.toList,c.argTypes.toList with
   | .len,[x],[t]=>match P.underlying t with
    | some .string=>(opd gl x).map (.len true)
    | some (.slice _)=>(opd gl x).map (.len false)
    | some (.array n _)=>some (.mov (.c (.int .i64 n)))
    | _=>none
   | .append,[x,y],[t,u]=>match P.underlying t,P.underlying u with
    | some (.slice e),some u=>if qzy u = false then none else do
     let i ←P.info? e
     let z ←qbv P e
     if i.size = 0∨i.bytes > 65536∨z.cells.length ≠ i.size then none else pure (.app i.size (←opd gl x) (←opd gl y))
    | _,_=>none
   | .max,[x,y],_=>do pure (.mm true (←opd gl x) (←opd gl y))
   | .min,[x,y],_=>do pure (.mm false (←opd gl x) (←opd gl y))
   | _,_,_=>none
 | .panic x=>(opd gl x).map .pan
 | _=>none
def qC3 (t:TypeId):Bool:=(gl (1000000 + t)).isSome
def qdq:Nat→TypeId→Nat→Option (List (Nat×SK))
 | 0,_,_=>none
 | d + 1,t,off=>
  match P.underlying t with
  | some .bool=>if P.cellsOf t = 1 then some [(off,.b)] else none
  | some (.int k)=>if P.cellsOf t = 1 then some [(off,.i k)] else none
  | some .string=>if P.cellsOf t = 1 then some [(off,.s)] else none
  | some (.struct fs)=>
   if fs.all (fun f => f.name != "_" && decide (f.offset + P.cellsOf f.type ≤ P.cellsOf t)) then (fs.toList.mapM fun f => qdq d f.type (off + f.offset)).map List.flatten else none
  | _=>none
def qcg:Nat:=8
def qcy (d:Option TypeDesc):Bool:=
 match d with
 | some (.struct _)=>true
 | _=>false
def qgL (t:TypeId):Option qd6:=if P.keyTypeAt qcg t && P.tiled qcg t then (qdq P qcg t 0).map fun ls=>⟨qcy (P.underlying t),P.cellsOf t,ls⟩ else none
def qfA (e:TypeId):Option (Nat×List qa):=
 match P.info? e,qbv P e with
 | some i,some z=>if i.size = 0∨i.bytes > 65536∨z.cells.length ≠ i.size then none else some (i.size,z.cells)
 | _,_=>none
def qpH:Operand→Bool
 | .const (.slice none 0 0)=>true
 | _=>false
def qDo (t:TypeId):Nat:=
 match P.underlying t with
 | some (.struct fs)=>match fs.toList with
  | [_,f]=>match P.underlying f.type with
   | some (.slice e)=>e
   | _=>0
  | _=>0
 | _=>0
def qAr (t:TypeId):Option Nat:=
 match gl (3000000 + t),P.info? t with
 | some [],some i=>match i.zero with
  | some (.agg a)=>match a.toList with
   | [.pointer none,.slice none 0 0]=>some (qDo P t)
   | _=>none
  | _=>none
 | _,_=>none
def qfv (o:Oper):Option AOp:=
 match o.op with
 | .alloc t=>match qAr P gl t with
  | some e=>some (.hx (.bld t e) [])
  | none=>none
 | .makeSlice t l c=>do
  match P.underlying t with
  | some (.slice e)=>do
   let (k,z) ←qfA P e
   pure (.hx (.mk k z) [←opd gl l,←opd gl c])
  | _=>none
 | .buildSlice t n ps=>
  if qC3 gl t && n != 0 then do
   match P.underlying t with
   | some (.slice e)=>do
    let (k,z) ←qfA P e
    let qs ←qfI gl ps.toList
    pure (.hx (.lit k z n (qs.map (·.1))) (qs.map (·.2)))
   | _=>none
  else none
 | .binOp op t x y _=>
  if qw1 op && qpH y then
   match P.underlying t with
   | some (.slice _)=>(opd gl x).map (.nls (qd9 op))
   | _=>none
  else if qw1 op && qcy (P.underlying t) && !(P.eqGuardType P.depth t) then do pure (.eqs (←qgL P t) (qd9 op) (←opd gl x) (←opd gl y)) else none
 | .call c=>
  match c.callee with
  | .builtin b=>
   match b,c.args.toList,c.argTypes.toList with
   | .append,[x,y],[t,u]=>
    if qC3 gl t then
     match P.underlying t,P.underlying u with
     | some (.slice e),some u=>if qzy u = false then none else do
      let (k,_) ←qfA P e
      pure (.hx (.app k) [←opd gl x,←opd gl y])
     | _,_=>none
    else none
   | _,_,_=>none
  | _=>none
 | _=>none
def qcf (o:Oper):Option AOp:=
 match qfv P gl o with
 | some x=>some x
 | none=>qel P gl o
def qb3 (ops:Array Oper) (o:Oper):Option qY:=do
 let op ←qcf P gl o
 match o.guard with
 | none=>pure ⟨o.dst,op,none⟩
 | some (j,b)=>do
  let d ←(ops[j]?).bind (·.dst)
  pure ⟨o.dst,op,some (d,b)⟩
def qeF (o:Oper):List Nat:=(o.after.toList.filter (Region.binds .any)).map (·.on)
def qtC (cl:List Nat) (es:List Nat):Nat:=es.foldl (fun m e=>m ||| 1 <<< e ||| cl.getD e 0) 0
def qnR (ess:List (List Nat)):List Nat:=ess.foldl (fun acc es=>acc ++ [qtC acc es]) []
def qxz (quiet:Bool) (done:Nat):Nat→List Nat→List Bool→Option Nat
 | i,c :: cs,e :: es=>if !done.testBit i && (c ||| done) == done && (!quiet || !e) then some i else qxz quiet done (i + 1) cs es
 | _,_,_=>none
def qCZ (cl:List Nat) (effs:List Bool):Nat→Nat→List Nat
 | 0,_=>[]
 | f + 1,done=>
  match (qxz true done 0 cl effs).orElse fun _=>qxz false done 0 cl effs with
  | some i=>i :: qCZ cl effs f (done ||| 1 <<< i)
  | none=>[]
def qdr (a b:qN):Bool:=
 a.ix != b.ix &&
 (b.cl.testBit a.ix ||
  (!a.o.op.effs && (match a.o.dst with | some d=>!b.o.looks.contains d | none=>true))) &&
 (match b.o.dst with
  | some d=>(b.o.op.effs && b.cl.testBit a.ix) || (!a.o.looks.contains d && a.o.dst != some d)
  | none=>true)
def qlJ (x:Nat×Nat) (a b:qN):Bool:=
 a.ix != b.ix && (a.o.op.effs && b.o.op.effs && ((x.1 == a.ix && x.2 == b.ix) || (x.1 == b.ix && x.2 == a.ix)))
def qgJ (a:qN):Bool:=
 a.o.op.effs || (match a.o.dst with | some d=>!a.o.looks.contains d | none=>true)
def qfO (x:Nat×Nat) (ess:List (List Nat)):List qN→List qN→Bool
 | _,[]=>true
 | pre,d :: ds=>(ess.getD d.ix []).all (fun e=>pre.any (·.ix == e)) && pre.all (fun a=>qdr a d || qlJ x a d) && qgJ d && qfO x ess (d :: pre) ds
def qqE (as:List qY) (cl:List Nat) (ord:List Nat):List qN:=
 ord.filterMap fun i=>(as[i]?).map fun a=>⟨a,i,cl.getD i 0⟩
def qfT (ops:Array Oper):Option (List qN):=do
 let as ←ops.toList.mapM (qb3 P gl ops)
 let ess:=ops.toList.map qeF
 let cl:=qnR ess
 let ds:=qqE as cl (qCZ cl (as.map (·.op.effs)) as.length 0)
 if (List.range ops.size).all (fun i=>ds.any (·.ix == i)) && ds.all (fun d=>d.cl == qtC cl (ess.getD d.ix [])) && qfO (0,0) ess [] ds then pure ds else none
def comp:Code→Option qG
 | .skip=>some .skip
 | .region _ ops false=>(ops.toList.mapM (qb3 P gl ops)).map .reg
 | .region _ ops true=>match qfT P gl ops with
  | some ds=>some (.draw ds)
  | none=>none
 | .seq a b=>match comp a,comp b with
  | some x,some y=>some (.seq x y)
  | _,_=>none
 | .cond c a b=>match opd gl c,comp a,comp b with
  | some z,some x,some y=>some (.cond z x y)
  | _,_,_=>none
 | .block id b=>(comp b).map (.block id)
 | .loop b=>(comp b).map .loop
 | .rangeFunc f ps a b=>match opd gl f,comp a,comp b with
  | some z,some x,some y=>some (.rfun z ps.toList x y)
  | _,_,_=>none
 | .exit id=>some (.exit id)
 | .ret=>some .ret
 | _=>none
def qem:ResultVar→Option qkB
 | .tmp t=>some (.tmp t)
 | .cell a t=>(tyk P t).map (.cell a)
def ql (f:Func):Option qE:=
 match f.body with
 | none=>none
 | some c=>match comp P gl c,f.results.toList.mapM (qem P) with
  | some code,some rs=>some ⟨f.ntmps,rs,code⟩
  | _,_=>none
end
end Go.AE
namespace Go.AE
inductive Loc where
 | tmp (i:Nat)
 | cell (id off:Nat)
 deriving DecidableEq,Inhabited
structure qd where
 γ:Nat→Option Nat
 imm:Nat→Nat→Option Value
 ow:Nat→Option Loc
def mark:Value:=.float .f64 (2 ^ 99)
open Classical in
noncomputable def qlx (v:Option Value):Option Value:=if v = some mark then none else v
theorem qbd {o:Option Value} {v:Value}:qlx o = some v↔o = some v∧v ≠ mark:=by
 unfold qlx
 split
 ·rename_i h
  subst h
  simp
  exact fun e=>e.symm
 ·rename_i h
  exact ⟨fun e=>⟨e,fun e'=>h (e'▸e)⟩,fun e=>e.1⟩
mutual
def qt (γ:Nat→Option Nat) (imm:Nat→Nat→Option Value):qa→Value→Prop
 | .undef,v=>v ≠ mark
 | .bool b,v=>v = .bool b
 | .int k n,v=>v = .int k n
 | .str s,v=>∃b:ByteArray,v = .string b∧b.data.toList = s
 | .nilptr,v=>v = .pointer none
 | .ptr i o,v=>∃b,γ i = some b∧v = .pointer (some ⟨b,o,none⟩)
 | .iptr cs o,v=>∃b p,v = .pointer (some ⟨b,p + o,none⟩)∧qaj γ imm cs b p
 | .lst xs f,v=>∃a len cap,v = .slice a len cap∧len = xs.length∧len ≤ cap∧(f = .full→cap = len)∧(a = none→cap = 0)∧(∃k,∀x ∈ xs,x.cells.length = k)∧
   (xs = []∨∃b p,a = some ⟨b,p,none⟩∧qL γ imm xs b p)
 | .nilfunc,v=>v = .nilFunc
 | .fn f as bs,v=>∃x y:Array Value,v = .func (.func f) x y∧qh γ imm as x.toList∧qh γ imm bs y.toList
 | .yld i,v=>∃b,γ i = some b∧v = .func (.yield b) #[] #[]
 | .niliface,v=>v = .nilIface
 | .iface t a,v=>∃x,v = .iface t x∧qt γ imm a x
 | .agg cs,v=>∃x:Array Value,v = .agg x∧qh γ imm cs x.toList
 | .tup cs,v=>∃x:Array Value,v = .tuple x∧qh γ imm cs x.toList
 | .sl i o len cap more,v=>∃b c,γ i = some b∧v = .slice (some ⟨b,o,none⟩) len c∧len ≤ cap∧cap ≤ c∧(more = 0→c = cap)∧(more ≠ 0→imm b (o + c * more) = some mark)
 | .mp i,v=>∃b,γ i = some b∧v = .map (some b)
 | .nilmap,v=>v = .map none
 | .nils,v=>v = .slice none 0 0
 | .empt,v=>∃b,v = .slice (some b) 0 0
def qh (γ:Nat→Option Nat) (imm:Nat→Nat→Option Value):List qa→List Value→Prop
 | [],vs=>vs = []
 | a :: as,vs=>∃v rest,vs = v :: rest∧qt γ imm a v∧qh γ imm as rest
def qaj (γ:Nat→Option Nat) (imm:Nat→Nat→Option Value):List qa→Nat→Nat→Prop
 | [],_,_=>True
 | c :: cs,b,p=>(∃v,imm b p = some v∧qt γ imm c v)∧qaj γ imm cs b (p + 1)
def qL (γ:Nat→Option Nat) (imm:Nat→Nat→Option Value):List qa→Nat→Nat→Prop
 | [],_,_=>True
 | .agg cs :: xs,b,p=>qaj γ imm cs b p∧qL γ imm xs b (p + cs.length)
 | x :: xs,b,p=>(∃v,imm b p = some v∧qt γ imm x v)∧qL γ imm xs b (p + 1)
end
theorem qcJ {γ:Nat→Option Nat} {imm:Nat→Nat→Option Value} {x:qa} {v:Value} (h:qt γ imm x v):v ≠ mark:=by
 rintro rfl
 cases x <;> simp only [qt,mark] at h <;> first
  | exact h rfl
  | (cases h;done)
  | (obtain ⟨_,h⟩:=h;cases h;done)
  | (obtain ⟨_,h,_⟩:=h;cases h;done)
  | (obtain ⟨_,_,h⟩:=h;cases h;done)
  | (obtain ⟨_,_,h,_⟩:=h;cases h;done)
  | (obtain ⟨_,_,_,h,_⟩:=h;cases h;done)
theorem qrM {γ:Nat→Option Nat} {imm:Nat→Nat→Option Value} {x:qa} {v:Value} (h:qt γ imm x v):qt γ imm .undef v:=by
 simpa only [qt] using qcJ h
abbrev qd.V (G:qd):qa→Value→Prop:=qt G.γ G.imm
abbrev qd.VL (G:qd):List qa→List Value→Prop:=qh G.γ G.imm
section
variable {γ:Nat→Option Nat} {imm:Nat→Nat→Option Value}
theorem qh.length:∀{as:List qa} {vs:List Value},qh γ imm as vs→as.length = vs.length
 | [],_,h=>by simp only [qh] at h;simp [h]
 | a :: as,vs,h=>by
  simp only [qh] at h
  obtain ⟨v,rest,rfl,_,hr⟩:=h
  simp [qh.length hr]
theorem qh.get:∀{as:List qa} {vs:List Value} {i:Nat} {a:qa},qh γ imm as vs→as[i]? = some a→∃v,vs[i]? = some v∧qt γ imm a v
 | [],_,i,a,_,h=>by simp at h
 | x :: as,vs,i,a,h,ha=>by
  simp only [qh] at h
  obtain ⟨v,rest,rfl,hv,hr⟩:=h
  cases i with
  | zero=>simp at ha;subst ha;exact ⟨v,rfl,hv⟩
  | succ i=>simp at ha;simpa using qh.get hr ha
theorem qh.get' {as:List qa} {vs:List Value} {i:Nat} {v:Value} (h:qh γ imm as vs) (hv:vs[i]? = some v):∃a,as[i]? = some a∧qt γ imm a v:=by
 have hl:=h.length
 have hi:i < as.length:=by rw [hl];exact (List.getElem?_eq_some_iff.1 hv).1
 obtain ⟨w,hw,hr⟩:=h.get (List.getElem?_eq_getElem hi)
 rw [hv] at hw;cases hw
 exact ⟨_,List.getElem?_eq_getElem hi,hr⟩
theorem qh.append:∀{as:List qa} {vs:List Value} {bs:List qa} {ws:List Value},qh γ imm as vs→qh γ imm bs ws→qh γ imm (as ++ bs) (vs ++ ws)
 | [],_,_,_,h,k=>by simp only [qh] at h;subst h;simpa using k
 | a :: as,vs,_,_,h,k=>by
  simp only [qh] at h
  obtain ⟨v,rest,rfl,hv,hr⟩:=h
  simp only [List.cons_append,qh]
  exact ⟨v,_,rfl,hv,qh.append hr k⟩
theorem qh.take:∀{as:List qa} {vs:List Value} (n:Nat),qh γ imm as vs→qh γ imm (as.take n) (vs.take n)
 | [],_,n,h=>by simp only [qh] at h;subst h;simp [qh]
 | a :: as,vs,0,h=>by simp [qh]
 | a :: as,vs,n + 1,h=>by
  simp only [qh] at h
  obtain ⟨v,rest,rfl,hv,hr⟩:=h
  simp only [List.take_succ_cons,qh]
  exact ⟨v,_,rfl,hv,qh.take n hr⟩
theorem qh.drop:∀{as:List qa} {vs:List Value} (n:Nat),qh γ imm as vs→qh γ imm (as.drop n) (vs.drop n)
 | [],_,n,h=>by simp only [qh] at h;subst h;simp [qh]
 | a :: as,vs,0,h=>by simpa using h
 | a :: as,vs,n + 1,h=>by
  simp only [qh] at h
  obtain ⟨v,rest,rfl,hv,hr⟩:=h
  simpa using qh.drop n hr
theorem qh.set:∀{as:List qa} {vs:List Value} {a:qa} {v:Value} (i:Nat),qh γ imm as vs→qt γ imm a v→qh γ imm (as.set i a) (vs.set i v)
 | [],_,_,_,i,h,_=>by simp only [qh] at h;subst h;simp [qh]
 | x :: as,vs,a,v,0,h,k=>by
  simp only [qh] at h
  obtain ⟨v',rest,rfl,hv,hr⟩:=h
  simp only [List.set_cons_zero,qh]
  exact ⟨v,rest,rfl,k,hr⟩
 | x :: as,vs,a,v,i + 1,h,k=>by
  simp only [qh] at h
  obtain ⟨v',rest,rfl,hv,hr⟩:=h
  simp only [List.set_cons_succ,qh]
  exact ⟨v',_,rfl,hv,qh.set i hr k⟩
theorem qh.of_get {as:List qa} {vs:List Value} (hl:as.length = vs.length) (h:∀(i:Nat) (a:qa) (v:Value),as[i]? = some a→vs[i]? = some v→qt γ imm a v):qh γ imm as vs:=by
 induction as generalizing vs with
 | nil=>cases vs with
  | nil=>simp [qh]
  | cons v vs=>simp at hl
 | cons a as ih=>cases vs with
  | nil=>simp at hl
  | cons v vs=>
   simp only [qh]
   exact ⟨v,vs,rfl,h 0 a v rfl rfl,ih (by simpa using hl) fun i x y hx hy=>h (i + 1) x y (by simpa using hx) (by simpa using hy)⟩
theorem qh.replicate (n:Nat) {a:qa} {v:Value} (h:qt γ imm a v):qh γ imm (List.replicate n a) (List.replicate n v):=by
 induction n with
 | zero=>simp [qh]
 | succ n ih=>simp only [List.replicate_succ,qh];exact ⟨v,_,rfl,h,ih⟩
theorem qcT {a:qa} {v:Value} (h:qt γ imm a v):qt γ imm a.dim v:=by
 cases a <;> try exact h
 rename_i xs f
 cases f <;> try exact h
 simp only [qa.dim,qt] at h ⊢
 obtain ⟨a,len,cap,rfl,h1,h2,_,h4,h6,h5⟩:=h
 exact ⟨a,len,cap,rfl,h1,h2,by simp,h4,h6,h5⟩
theorem qiU {xs:List qa} {f:qfQ} {v:Value} (h:qt γ imm (.lst xs f) v):qt γ imm (.lst xs .no) v:=by
 simp only [qt] at h ⊢
 obtain ⟨a,len,cap,rfl,h1,h2,_,h4,h6,h5⟩:=h
 exact ⟨a,len,cap,rfl,h1,h2,by simp,h4,h6,h5⟩
theorem qh.dims:∀{as:List qa} {vs:List Value},qh γ imm as vs→qh γ imm (as.map qa.dim) vs
 | [],_,h=>h
 | a :: as,vs,h=>by
  simp only [qh] at h
  obtain ⟨v,rest,rfl,hv,hr⟩:=h
  simp only [List.map_cons,qh]
  exact ⟨v,rest,rfl,qcT hv,qh.dims hr⟩
theorem qaj.get:∀{cs:List qa} {b p i:Nat} {c:qa},qaj γ imm cs b p→cs[i]? = some c→∃v,imm b (p + i) = some v∧qt γ imm c v
 | [],_,_,i,c,_,h=>by simp at h
 | x :: cs,b,p,i,c,h,hc=>by
  simp only [qaj] at h
  cases i with
  | zero=>simp at hc;subst hc;simpa using h.1
  | succ i=>
   simp at hc
   have:=qaj.get h.2 hc
   rwa [Nat.add_assoc,Nat.add_comm 1 i] at this
theorem qaj.of_get {cs:List qa} {b p:Nat} (h:∀(i:Nat) (c:qa),cs[i]? = some c→∃v,imm b (p + i) = some v∧qt γ imm c v):qaj γ imm cs b p:=by
 induction cs generalizing p with
 | nil=>simp [qaj]
 | cons c cs ih=>
  simp only [qaj]
  refine ⟨by simpa using h 0 c rfl,ih fun i x hx=>?_⟩
  have:=h (i + 1) x (by simpa using hx)
  rwa [Nat.add_comm i 1,←Nat.add_assoc] at this
theorem qL.cons {x:qa} {xs:List qa} {b p:Nat} (h:qaj γ imm x.cells b p) (hs:qL γ imm xs b (p + x.cells.length)):qL γ imm (x :: xs) b p:=by
 cases x <;> simp only [qa.cells,qaj,List.length_cons,List.length_nil] at h hs <;> simp only [qL] <;> first | exact ⟨h,hs⟩ | exact ⟨h.1,hs⟩
theorem qL.uncons {x:qa} {xs:List qa} {b p:Nat} (h:qL γ imm (x :: xs) b p):qaj γ imm x.cells b p∧qL γ imm xs b (p + x.cells.length):=by
 cases x <;> simp only [qL] at h <;> simp only [qa.cells,qaj,List.length_cons,List.length_nil] <;> first | exact h | exact ⟨⟨h.1,trivial⟩,h.2⟩
theorem qL.append {xs ys:List qa} {b p k:Nat} (hk:∀x ∈ xs,x.cells.length = k) (h:qL γ imm xs b p) (h':qL γ imm ys b (p + xs.length * k)):qL γ imm (xs ++ ys) b p:=by
 induction xs generalizing p with
 | nil=>simpa using h'
 | cons x xs ih=>
  obtain ⟨h1,h2⟩:=h.uncons
  rw [hk x (by simp)] at h2
  refine qL.cons h1 ?_
  rw [hk x (by simp)]
  refine ih (fun y hy=>hk y (by simp [hy])) h2 ?_
  simp only [List.length_cons,Nat.add_mul,Nat.one_mul] at h'
  rwa [Nat.add_assoc,Nat.add_comm k]
theorem qL.get {xs:List qa} {b p k i:Nat} {x:qa} (hk:∀x ∈ xs,x.cells.length = k) (h:qL γ imm xs b p) (hx:xs[i]? = some x):qaj γ imm x.cells b (p + i * k):=by
 induction xs generalizing p i with
 | nil=>simp at hx
 | cons y xs ih=>
  obtain ⟨h1,h2⟩:=h.uncons
  cases i with
  | zero=>simp at hx;subst hx;simpa using h1
  | succ i=>
   simp at hx
   rw [hk y (by simp)] at h2
   have:=ih (fun z hz=>hk z (by simp [hz])) h2 hx
   rwa [Nat.add_mul,Nat.one_mul,Nat.add_comm (i * k),←Nat.add_assoc]
theorem qL.drop {xs:List qa} {b p k:Nat} (hk:∀x ∈ xs,x.cells.length = k) (h:qL γ imm xs b p) (l:Nat) (hl:l ≤ xs.length):qL γ imm (xs.drop l) b (p + l * k):=by
 induction xs generalizing p l with
 | nil=>simp [qL]
 | cons y xs ih=>
  obtain ⟨h1,h2⟩:=h.uncons
  cases l with
  | zero=>simpa using h
  | succ l=>
   rw [hk y (by simp)] at h2
   have:=ih (fun z hz=>hk z (by simp [hz])) h2 l (by simpa using hl)
   simp only [List.drop_succ_cons]
   rwa [Nat.add_mul,Nat.one_mul,Nat.add_comm (l * k),←Nat.add_assoc]
theorem qL.take {xs:List qa} {b p:Nat} (h:qL γ imm xs b p) (l:Nat):qL γ imm (xs.take l) b p:=by
 induction xs generalizing p l with
 | nil=>simp [qL]
 | cons y xs ih=>
  cases l with
  | zero=>simp [qL]
  | succ l=>
   obtain ⟨h1,h2⟩:=h.uncons
   exact qL.cons h1 (ih h2 l)
end
mutual
theorem qbZ {n m:Nat} (hnm:n ≤ m):∀(a:qa),a.lower n = true→a.lower m = true
 | .undef,_=>rfl
 | .bool _,_=>rfl
 | .int _ _,_=>rfl
 | .str _,_=>rfl
 | .nilptr,_=>rfl
 | .ptr i o,h=>by simp only [qa.lower,Nat.blt_eq] at h ⊢;omega
 | .iptr cs o,h=>by simp only [qa.lower] at h ⊢;exact qaL hnm cs h
 | .lst xs f,h=>by simp only [qa.lower] at h ⊢;exact qaL hnm xs h
 | .nilfunc,_=>rfl
 | .fn f as bs,h=>by simp only [qa.lower,Bool.and_eq_true] at h ⊢;exact ⟨qaL hnm as h.1,qaL hnm bs h.2⟩
 | .yld i,h=>by simp only [qa.lower,Nat.blt_eq] at h ⊢;omega
 | .niliface,_=>rfl
 | .iface t a,h=>by simp only [qa.lower] at h ⊢;exact qbZ hnm a h
 | .agg cs,h=>by simp only [qa.lower] at h ⊢;exact qaL hnm cs h
 | .tup cs,h=>by simp only [qa.lower] at h ⊢;exact qaL hnm cs h
 | .sl i _ _ _ _,h=>by simp only [qa.lower,Nat.blt_eq] at h ⊢;omega
 | .mp i,h=>by simp only [qa.lower,Nat.blt_eq] at h ⊢;omega
 | .nilmap,_=>rfl
 | .nils,_=>rfl
 | .empt,_=>rfl
theorem qaL {n m:Nat} (hnm:n ≤ m):∀(as:List qa),qy n as = true→qy m as = true
 | [],_=>rfl
 | a :: as,h=>by simp only [qy,Bool.and_eq_true] at h ⊢;exact ⟨qbZ hnm a h.1,qaL hnm as h.2⟩
end
mutual
theorem lower_ex:∀(a:qa),∃n,a.lower n = true
 | .undef=>⟨0,rfl⟩
 | .bool _=>⟨0,rfl⟩
 | .int _ _=>⟨0,rfl⟩
 | .str _=>⟨0,rfl⟩
 | .nilptr=>⟨0,rfl⟩
 | .ptr i o=>⟨i + 1,by simp [qa.lower]⟩
 | .iptr cs o=>by obtain ⟨n,h⟩:=qao cs;exact ⟨n,by simpa [qa.lower] using h⟩
 | .lst xs f=>by obtain ⟨n,h⟩:=qao xs;exact ⟨n,by simpa [qa.lower] using h⟩
 | .nilfunc=>⟨0,rfl⟩
 | .fn f as bs=>by
  obtain ⟨n,h⟩:=qao as
  obtain ⟨m,k⟩:=qao bs
  exact ⟨max n m,by simp only [qa.lower,Bool.and_eq_true];exact ⟨qaL (by omega) as h,qaL (by omega) bs k⟩⟩
 | .yld i=>⟨i + 1,by simp [qa.lower]⟩
 | .niliface=>⟨0,rfl⟩
 | .iface t a=>by obtain ⟨n,h⟩:=lower_ex a;exact ⟨n,by simpa [qa.lower] using h⟩
 | .agg cs=>by obtain ⟨n,h⟩:=qao cs;exact ⟨n,by simpa [qa.lower] using h⟩
 | .tup cs=>by obtain ⟨n,h⟩:=qao cs;exact ⟨n,by simpa [qa.lower] using h⟩
 | .sl i _ _ _ _=>⟨i + 1,by simp [qa.lower]⟩
 | .mp i=>⟨i + 1,by simp [qa.lower]⟩
 | .nilmap=>⟨0,rfl⟩
 | .nils=>⟨0,rfl⟩
 | .empt=>⟨0,rfl⟩
theorem qao:∀(as:List qa),∃n,qy n as = true
 | []=>⟨0,rfl⟩
 | a :: as=>by
  obtain ⟨n,h⟩:=lower_ex a
  obtain ⟨m,k⟩:=qao as
  exact ⟨max n m,by simp only [qy,Bool.and_eq_true];exact ⟨qbZ (by omega) a h,qaL (by omega) as k⟩⟩
end
mutual
theorem qt.mono {γ γ':Nat→Option Nat} {imm imm':Nat→Nat→Option Value} (hi:∀b o v,imm b o = some v→imm' b o = some v) (n:Nat) (hγ:∀i b,i < n→γ i = some b→γ' i = some b) :
  ∀(a:qa) (v:Value),a.lower n = true→qt γ imm a v→qt γ' imm' a v
 | .undef,v,_,h=>by simpa [qt] using h
 | .bool b,v,_,h=>by simpa [qt] using h
 | .int k m,v,_,h=>by simpa [qt] using h
 | .str s,v,_,h=>by simpa [qt] using h
 | .nilptr,v,_,h=>by simpa [qt] using h
 | .ptr i o,v,hl,h=>by
  simp only [qa.lower,Nat.blt_eq] at hl
  simp only [qt] at h ⊢
  obtain ⟨b,hb,rfl⟩:=h
  exact ⟨b,hγ i b hl hb,rfl⟩
 | .iptr cs o,v,hl,h=>by
  simp only [qa.lower] at hl
  simp only [qt] at h ⊢
  obtain ⟨b,p,rfl,hc⟩:=h
  exact ⟨b,p,rfl,qaj.mono hi n hγ cs b p hl hc⟩
 | .lst xs f,v,hl,h=>by
  simp only [qa.lower] at hl
  simp only [qt] at h ⊢
  obtain ⟨a,len,cap,rfl,h1,h2,h3,h4,h6,h5⟩:=h
  refine ⟨a,len,cap,rfl,h1,h2,h3,h4,h6,?_⟩
  rcases h5 with h5 | ⟨b,p,rfl,he⟩
  ·exact .inl h5
  ·exact .inr ⟨b,p,rfl,qL.mono hi n hγ xs b p hl he⟩
 | .nilfunc,v,_,h=>by simpa [qt] using h
 | .fn f as bs,v,hl,h=>by
  simp only [qa.lower,Bool.and_eq_true] at hl
  simp only [qt] at h ⊢
  obtain ⟨x,y,rfl,h1,h2⟩:=h
  exact ⟨x,y,rfl,qh.mono hi n hγ as _ hl.1 h1,qh.mono hi n hγ bs _ hl.2 h2⟩
 | .yld i,v,hl,h=>by
  simp only [qa.lower,Nat.blt_eq] at hl
  simp only [qt] at h ⊢
  obtain ⟨b,hb,rfl⟩:=h
  exact ⟨b,hγ i b hl hb,rfl⟩
 | .niliface,v,_,h=>by simpa [qt] using h
 | .iface t a,v,hl,h=>by
  simp only [qa.lower] at hl
  simp only [qt] at h ⊢
  obtain ⟨x,rfl,h1⟩:=h
  exact ⟨x,rfl,qt.mono hi n hγ a x hl h1⟩
 | .agg cs,v,hl,h=>by
  simp only [qa.lower] at hl
  simp only [qt] at h ⊢
  obtain ⟨x,rfl,h1⟩:=h
  exact ⟨x,rfl,qh.mono hi n hγ cs _ hl h1⟩
 | .tup cs,v,hl,h=>by
  simp only [qa.lower] at hl
  simp only [qt] at h ⊢
  obtain ⟨x,rfl,h1⟩:=h
  exact ⟨x,rfl,qh.mono hi n hγ cs _ hl h1⟩
 | .sl i o len cap more,v,hl,h=>by
  simp only [qa.lower,Nat.blt_eq] at hl
  simp only [qt] at h ⊢
  obtain ⟨b,c,hb,h1,h2,h3,h4,h5⟩:=h
  exact ⟨b,c,hγ i b hl hb,h1,h2,h3,h4,fun hm=>hi _ _ _ (h5 hm)⟩
 | .mp i,v,hl,h=>by
  simp only [qa.lower,Nat.blt_eq] at hl
  simp only [qt] at h ⊢
  obtain ⟨b,hb,rfl⟩:=h
  exact ⟨b,hγ i b hl hb,rfl⟩
 | .nilmap,v,_,h=>by simpa [qt] using h
 | .nils,v,_,h=>by simpa [qt] using h
 | .empt,v,_,h=>by simpa [qt] using h
theorem qh.mono {γ γ':Nat→Option Nat} {imm imm':Nat→Nat→Option Value} (hi:∀b o v,imm b o = some v→imm' b o = some v) (n:Nat) (hγ:∀i b,i < n→γ i = some b→γ' i = some b) :
  ∀(as:List qa) (vs:List Value),qy n as = true→qh γ imm as vs→qh γ' imm' as vs
 | [],vs,_,h=>by simpa [qh] using h
 | a :: as,vs,hl,h=>by
  simp only [qy,Bool.and_eq_true] at hl
  simp only [qh] at h ⊢
  obtain ⟨v,rest,rfl,h1,h2⟩:=h
  exact ⟨v,rest,rfl,qt.mono hi n hγ a v hl.1 h1,qh.mono hi n hγ as rest hl.2 h2⟩
theorem qaj.mono {γ γ':Nat→Option Nat} {imm imm':Nat→Nat→Option Value} (hi:∀b o v,imm b o = some v→imm' b o = some v) (n:Nat) (hγ:∀i b,i < n→γ i = some b→γ' i = some b) :
  ∀(cs:List qa) (b p:Nat),qy n cs = true→qaj γ imm cs b p→qaj γ' imm' cs b p
 | [],_,_,_,_=>by simp [qaj]
 | c :: cs,b,p,hl,h=>by
  simp only [qy,Bool.and_eq_true] at hl
  simp only [qaj] at h ⊢
  obtain ⟨⟨v,h1,h2⟩,h3⟩:=h
  exact ⟨⟨v,hi _ _ _ h1,qt.mono hi n hγ c v hl.1 h2⟩,qaj.mono hi n hγ cs b (p + 1) hl.2 h3⟩
theorem qL.mono {γ γ':Nat→Option Nat} {imm imm':Nat→Nat→Option Value} (hi:∀b o v,imm b o = some v→imm' b o = some v) (n:Nat) (hγ:∀i b,i < n→γ i = some b→γ' i = some b) :
  ∀(xs:List qa) (b p:Nat),qy n xs = true→qL γ imm xs b p→qL γ' imm' xs b p
 | [],_,_,_,_=>by simp [qL]
 | x :: xs,b,p,hl,h=>by
  simp only [qy,Bool.and_eq_true] at hl
  obtain ⟨hx,hxs⟩:=h.uncons
  refine qL.cons ?_ (qL.mono hi n hγ xs b _ hl.2 hxs)
  cases x with
  | agg cs=>simp only [qa.cells] at hx ⊢;simp only [qa.lower] at hl;exact qaj.mono hi n hγ cs b p hl.1 hx
  | _=>
   simp only [qa.cells,qaj] at hx ⊢
   obtain ⟨⟨v,h1,h2⟩,_⟩:=hx
   exact ⟨⟨v,hi _ _ _ h1,qt.mono hi n hγ _ v hl.1 h2⟩,trivial⟩
end
end Go.AE
namespace Go.AE
def qr0 (G:qd) (w:World) (ℓ:Loc) (k:Nat) (v:Value):Prop:=
 ∃b p len cap c e,v = .slice (some ⟨b,p,none⟩) len cap∧G.ow b = some ℓ∧w.heap[b]? = some (.cells c e (0,0))∧len ≤ cap∧p + cap * k ≤ c.size∧
  ∀j,p + len * k ≤ j→G.imm b j = none
def qnc (G:qd) (w:World) (id b:Nat) (T e:TypeId) (s:List UInt8):Prop:=
 ∃p v,w.heap[b]? = some (.cells #[p,v] T (0,0))∧(p = .pointer none∨p = .pointer (some ⟨b,0,none⟩))∧w.ownsRowF 0 e 1 v s.length (Lib.byteCells s)∧∀g,v.ownBlock = some g→G.ow g = some (.cell id 1)∧∀j,G.imm g j = none
theorem qnc.keep {G G':qd} {w w':World} {id b:Nat} {T e:TypeId} {s:List UInt8} (h:qnc G w id b T e s) (hb:w'.heap[b]? = w.heap[b]?) (how:∀x,G.ow x = some (.cell id 1)→G'.ow x = some (.cell id 1)) (hh:∀x,G.ow x = some (.cell id 1)→w'.heap[x]? = w.heap[x]?)
  (hi:∀x j,G.ow x = some (.cell id 1)→G.imm x j = none→G'.imm x j = none):qnc G' w' id b T e s:=by
 obtain ⟨p,v,h1,h2,h3,h4⟩:=h
 refine ⟨p,v,hb.trans h1,h2,⟨h3.1,?_⟩,fun g hg=>⟨how g (h4 g hg).1,fun j=>hi g j (h4 g hg).1 ((h4 g hg).2 j)⟩⟩
 rcases h3.2 with h5 | ⟨g,cap,cur,fz,rfl,h5,h6,h7⟩
 ·exact .inl h5
 ·exact .inr ⟨g,cap,cur,fz,rfl,h5,(hh g (h4 g rfl).1).trans h6,h7⟩
def qku:LSt→LoopState→Prop
 | .ready,.ready | .busy,.busy | .done,.done | .exhausted,.exhausted=>True
 | _,_=>False
def qkf:Option qrX→Option Code→Prop
 | none,none=>True
 | some .ret,some .ret=>True
 | some (.exit i),some (.exit j)=>i = j
 | _,_=>False
section
variable (P:Program) (gl:Nat→Option (List qa))
structure qf4 (G:qd) (t:List qa) (ps:List Nat) (asg body:qG) (st:LSt) (pend:Option qrX) (L:Loop):Prop where
 tmps:G.VL t L.tmps.toList
 dims:∀a ∈ t,a.dim = a
 ps:L.params.toList = ps
 asg:comp P gl L.assign = some asg
 body:comp P gl L.body = some body
 st:qku st L.state
 pend:qkf pend L.pending
def qV (G:qd):List (Nat×qa×qa)→List MapEntry→Prop
 | [],es=>es = []
 | x :: xs,es=>∃e rest,es = e :: rest∧e.born = x.1∧G.V x.2.1 e.key∧G.V x.2.2 e.val∧qV G xs rest
def qfr (G:qd) (w:World) (id:Nat) (bx:qf) (b:Nat):Prop:=
 match bx with
 | .cells cs=>∃c e,w.heap[b]? = some (.cells c e (0,0))∧G.VL cs (c.toList.take cs.length)∧
   ∀(o:Nat) (xs:List qa) (k:Nat) (v:Value),cs[o]? = some (.lst xs (.own k))→c[o]? = some v→qr0 G w (.cell id o) k v
 | .loop t ps asg body st pend=>∃L,w.heap[b]? = some (.loop L)∧qf4 P gl G t ps asg body st pend L
 | .map es clock=>∃me:Array MapEntry,w.heap[b]? = some (.map me clock)∧qV G es me.toList
 | .iter m since seen last=>∃mm,w.heap[b]? = some (.mapIter mm since seen.toArray last)∧G.V m (.map mm)
 | .bld t e s=>qnc G w id b t e s
 | .dead=>True
def qdy (γ:Nat→Option Nat) (imm:Nat→Nat→Option Value) (cs:List qa) (g:Nat):Prop:=qaj γ imm cs g 0∧(0 < cs.length→imm g cs.length = some mark)
theorem qdy.mono {γ γ':Nat→Option Nat} {imm imm':Nat→Nat→Option Value} (hi:∀b o v,imm b o = some v→imm' b o = some v) (cs:List qa) (g:Nat) (hl:qy 0 cs = true) (h:qdy γ imm cs g):qdy γ' imm' cs g:=
 ⟨qaj.mono hi 0 (fun i _ hi=>absurd hi (Nat.not_lt_zero _)) cs g 0 hl h.1,fun h0=>hi _ _ _ (h.2 h0)⟩
structure Rel (G:qd) (h:List qf) (w:World):Prop where
 γlt:∀i b,G.γ i = some b→i < h.length∧b < w.heap.size
 inj:∀i j b,G.γ i = some b→G.γ j = some b→i = j∨h[i]? = some .dead∨h[j]? = some .dead
 box:∀i b bx,G.γ i = some b→h[i]? = some bx→qfr P gl G w i bx b
 imm:∀b o v,G.imm b o = some v→v ≠ mark→w.cell? ⟨b,o,none⟩ = some v∧b < w.heap.size
 immγ:∀b o v i,G.imm b o = some v→v ≠ mark→G.γ i = some b→h[i]? = some .dead
 immK:∀b o,G.imm b o = some mark→0 < o∧∃c e,w.heap[b]? = some (.cells c e (0,0))∧o = c.size
 ow:∀b ℓ,G.ow b = some ℓ→b < w.heap.size∧∀i,G.γ i ≠ some b
 glob:∀g cs,gl g = some cs→qdy G.γ G.imm cs g∧qy 0 cs = true
structure qaE (G:qd) (w:World) (t:List qa) (ts:Array Value):Prop where
 rel:G.VL t ts.toList
 own:∀(i:Nat) (xs:List qa) (k:Nat) (v:Value),t[i]? = some (.lst xs (.own k))→ts[i]? = some v→qr0 G w (.tmp i) k v
end
def qcQ (G:qd) (b:Nat):Prop:=(∀i,G.γ i ≠ some b)∧G.ow b = none
structure Ext (n:Nat) (G:qd) (w:World) (G':qd) (w':World):Prop where
 gk:∀i b,G.γ i = some b→G'.γ i = some b
 gn:∀i b,G'.γ i = some b→G.γ i = some b∨(n ≤ i∧(w.heap.size ≤ b∨∃j,G.γ j = some b))
 ik:∀b o v,G.imm b o = some v→G'.imm b o = some v
 inew:∀b o v,G'.imm b o = some v→G.imm b o = some v∨w.heap.size ≤ b∨G.ow b ≠ none∨∃i,G.γ i = some b
 on:∀b,G'.ow b ≠ none→G.ow b ≠ none∨w.heap.size ≤ b
 size:w.heap.size ≤ w'.heap.size
 heap:∀b,b < w.heap.size→qcQ G b→w'.heap[b]? = w.heap[b]?
 loops:∀(b:Nat) (L:Loop),w.heap[b]? = some (.loop L)→∃L':Loop,w'.heap[b]? = some (.loop L')∧L'.fn = L.fn∧L'.tmps = L.tmps∧L'.params = L.params∧L'.assign = L.assign∧L'.body = L.body∧L'.defers = L.defers
 os:w'.os = w.os
 tape:w'.tape = w.tape
 output:w'.output = w.output
theorem Ext.refl (n:Nat) (G:qd) (w:World):Ext n G w G w:=
 ⟨fun _ _ h=>h,fun _ _ h=>.inl h,fun _ _ _ h=>h,fun _ _ _ h=>.inl h,fun _ h=>.inl h,Nat.le_refl _,fun _ _ _=>rfl,
  fun _ L h=>⟨L,h,rfl,rfl,rfl,rfl,rfl,rfl⟩,rfl,rfl,rfl⟩
theorem Ext.trans {n m:Nat} {G G' G'':qd} {w w' w'':World} (hnm:n ≤ m) (h:Ext n G w G' w') (k:Ext m G' w' G'' w''):Ext n G w G'' w'' where
 gk i b hb:=k.gk i b (h.gk i b hb)
 gn i b hb:=by
  rcases k.gn i b hb with hb | ⟨h1,h2⟩
  ·exact h.gn i b hb
  ·refine .inr ⟨Nat.le_trans hnm h1,?_⟩
   rcases h2 with h2 | ⟨j,h2⟩
   ·exact .inl (Nat.le_trans h.size h2)
   ·rcases h.gn j b h2 with h3 | ⟨_,h3⟩
    ·exact .inr ⟨j,h3⟩
    ·exact h3
 ik b o v hv:=k.ik b o v (h.ik b o v hv)
 inew b o v hv:=by
  rcases k.inew b o v hv with hv | hv | hv | ⟨i,hv⟩
  ·exact h.inew b o v hv
  ·exact .inr (.inl (Nat.le_trans h.size hv))
  ·rcases h.on b hv with h1 | h1
   ·exact .inr (.inr (.inl h1))
   ·exact .inr (.inl h1)
  ·rcases h.gn i b hv with h1 | ⟨_,h1 | ⟨j,h1⟩⟩
   ·exact .inr (.inr (.inr ⟨i,h1⟩))
   ·exact .inr (.inl h1)
   ·exact .inr (.inr (.inr ⟨j,h1⟩))
 on b hb:=by
  rcases k.on b hb with hb | hb
  ·exact h.on b hb
  ·exact .inr (Nat.le_trans h.size hb)
 size:=Nat.le_trans h.size k.size
 heap b hb hf:=by
  have hf':qcQ G' b:=by
   refine ⟨fun i hi=>?_,?_⟩
   ·rcases h.gn i b hi with h1 | ⟨_,h1 | ⟨j,h1⟩⟩
    ·exact hf.1 i h1
    ·omega
    ·exact hf.1 j h1
   ·cases ho:G'.ow b with
    | none=>rfl
    | some ℓ=>
     rcases h.on b (by simp [ho]) with h1 | h1
     ·exact absurd hf.2 h1
     ·omega
  rw [k.heap b (Nat.lt_of_lt_of_le hb h.size) hf',h.heap b hb hf]
 loops b L hL:=by
  obtain ⟨L',h1,h2,h3,h4,h5,h6,h7⟩:=h.loops b L hL
  obtain ⟨L'',k1,k2,k3,k4,k5,k6,k7⟩:=k.loops b L' h1
  exact ⟨L'',k1,k2.trans h2,k3.trans h3,k4.trans h4,k5.trans h5,k6.trans h6,k7.trans h7⟩
 os:=k.os.trans h.os
 tape:=k.tape.trans h.tape
 output:=k.output.trans h.output
theorem Ext.weaken {n m:Nat} {G G':qd} {w w':World} (hnm:n ≤ m) (h:Ext m G w G' w'):Ext n G w G' w':=(Ext.refl n G w).trans hnm h
theorem Ext.drew {n:Nat} {G G':qd} {w w':World} (h:Ext n G w G' w') (d:Nat):Ext n G w G' { w' with drawn:=d}:=
 ⟨h.gk,h.gn,h.ik,h.inew,h.on,h.size,h.heap,h.loops,h.os,h.tape,h.output⟩
section
variable {P:Program} {gl:Nat→Option (List qa)} {G G':qd} {w w':World} {h:List qf} {t:List qa} {ts:Array Value}
theorem qr0.keep {ℓ:Loc} {k:Nat} {v:Value} (ho:qr0 G w ℓ k v) (how:∀b,G.ow b = some ℓ→G'.ow b = some ℓ) (hh:∀b,G.ow b = some ℓ→w'.heap[b]? = w.heap[b]?)
  (hi:∀b j,G.ow b = some ℓ→G.imm b j = none→G'.imm b j = none):qr0 G' w' ℓ k v:=by
 obtain ⟨b,p,len,cap,c,e,rfl,h1,h2,h3,h4,h5⟩:=ho
 exact ⟨b,p,len,cap,c,e,rfl,how b h1,by rw [hh b h1];exact h2,h3,h4,fun j hj=>hi b j h1 (h5 j hj)⟩
theorem Rel.imm_lt (hr:Rel P gl G h w) {b o:Nat} {v:Value} (hv:G.imm b o = some v):b < w.heap.size:=by
 by_cases hm:v = mark
 ·subst hm
  obtain ⟨_,c,e,h1,_⟩:=hr.immK b o hv
  exact (Array.getElem?_eq_some_iff.1 h1).1
 ·exact (hr.imm b o v hv hm).2
theorem Rel.of_drew (hr:Rel P gl G h w) (d:Nat):Rel P gl G h { w with drawn:=d}:=
 ⟨hr.γlt,hr.inj,hr.box,hr.imm,hr.immγ,hr.immK,hr.ow,hr.glob⟩
theorem qaE.of_drew (hr:qaE G w t ts) (d:Nat):qaE G { w with drawn:=d} t ts:=⟨hr.rel,hr.own⟩
theorem qaE.length (hr:qaE G w t ts):t.length = ts.size:=by simpa using hr.rel.length
theorem qaE.get (hr:qaE G w t ts) (i:Nat):G.V (t.getD i .undef) (ts.getD i undef):=by
 by_cases hi:i < t.length
 ·obtain ⟨v,hv,hr'⟩:=hr.rel.get (List.getElem?_eq_getElem hi)
  have hi':i < ts.size:=by rw [←hr.length];exact hi
  have e1:ts.getD i undef = v:=by
   simp only [Array.getElem?_toList] at hv
   simp [Array.getD,hi',(Array.getElem?_eq_some_iff.1 hv).2]
  rw [e1]
  simpa [List.getD,List.getElem?_eq_getElem hi] using hr'
 ·have hi':¬ i < ts.size:=by rw [←hr.length];exact hi
  simp [List.getD,List.getElem?_eq_none (Nat.le_of_not_lt hi),qt,Array.getD,hi',undef,mark]
theorem qaE.put (hr:qaE G w t ts) (dst:Option Nat) {a:qa} {v:Value} (hv:G.V a v) (hd:a.dim = a) (ds:List Deferred) :
  qaE G w (put dst a t) ((({ tmps:=ts,defers:=ds}:Act).put dst v).tmps):=by
 cases dst with
 | none=>exact hr
 | some d=>
  refine ⟨by simpa [AE.put,Act.put] using hr.rel.set d hv,fun i xs k u hi hu=>?_⟩
  simp only [AE.put,Act.put] at hi hu
  by_cases e:d = i
  ·subst e
   rw [List.getElem?_set] at hi
   split at hi
   ·split at hi
    ·simp only [Option.some.injEq] at hi;subst hi;simp [qa.dim] at hd
    ·cases hi
   ·rename_i hne;exact absurd rfl hne
  ·rw [List.getElem?_set_ne e] at hi
   rw [Array.getElem?_setIfInBounds_ne e] at hu
   exact hr.own i xs k u hi hu
end
theorem qP (w:World) (o:Obj) {b:Nat} (hb:b < w.heap.size):(w.alloc o).heap[b]? = w.heap[b]?:=by
 simp only [World.alloc]
 rw [Array.getElem?_push,if_neg (by omega)]
theorem qZ (w:World) (o:Obj):(w.alloc o).heap[w.heap.size]? = some o:=by
 show (w.heap.push o)[w.heap.size]? = some o
 simp
theorem qbo {w w':World} {a:Addr} (h:w'.heap[a.block]? = w.heap[a.block]?):w'.cell? a = w.cell? a:=by
 simp only [World.cell?,h]
section
variable {P:Program} {gl:Nat→Option (List qa)} {G G':qd} {w w':World} {h:List qf} {t:List qa} {ts:Array Value}
theorem qgx {n m:Nat} (hnm:n ≤ m):∀{es:List (Nat×qa×qa)},qa7 n es = true→qa7 m es = true
 | [],_=>rfl
 | x :: xs,h=>by
  simp only [qa7,Bool.and_eq_true] at h ⊢
  exact ⟨⟨qbZ hnm _ h.1.1,qbZ hnm _ h.1.2⟩,qgx hnm h.2⟩
theorem qcA:∀es:List (Nat×qa×qa),∃n,qa7 n es = true
 | []=>⟨0,rfl⟩
 | x :: xs=>by
  obtain ⟨a,ha⟩:=lower_ex x.2.1
  obtain ⟨b,hb⟩:=lower_ex x.2.2
  obtain ⟨c,hc⟩:=qcA xs
  refine ⟨max a (max b c),?_⟩
  simp only [qa7,Bool.and_eq_true]
  exact ⟨⟨qbZ (by omega) _ ha,qbZ (by omega) _ hb⟩,qgx (by omega) hc⟩
theorem qV.mono (hi:∀b o v,G.imm b o = some v→G'.imm b o = some v) (n:Nat) (hγ:∀i b,i < n→G.γ i = some b→G'.γ i = some b) :
  ∀{xs:List (Nat×qa×qa)} {es:List MapEntry},qa7 n xs = true→qV G xs es→qV G' xs es
 | [],_,_,h=>h
 | x :: xs,es,hl,h=>by
  simp only [qa7,Bool.and_eq_true] at hl
  simp only [qV] at h ⊢
  obtain ⟨e,rest,rfl,h1,h2,h3,h4⟩:=h
  exact ⟨e,rest,rfl,h1,qt.mono hi n hγ _ _ hl.1.1 h2,qt.mono hi n hγ _ _ hl.1.2 h3,qV.mono hi n hγ hl.2 h4⟩
theorem qf.lower_ex (bx:qf):∃n,bx.lower n = true:=by
 cases bx with
 | cells cs=>exact qao cs
 | loop t _ _ _ _ _=>exact qao t
 | map es _=>exact qcA es
 | iter m _ _ _=>exact AE.lower_ex m
 | bld _ _ _=>exact ⟨0,rfl⟩
 | dead=>exact ⟨0,rfl⟩
theorem qeL {γ:Nat→Option Nat} {imm:Nat→Nat→Option Value} {cs:List qa} {l:List Value} {o:Nat} {x:qa} (h:qh γ imm cs (l.take cs.length)) (hx:cs[o]? = some x):∃v,l[o]? = some v∧qt γ imm x v:=by
 obtain ⟨v,hv,hr⟩:=h.get hx
 rw [List.getElem?_take_of_lt (List.getElem?_eq_some_iff.1 hx).1] at hv
 exact ⟨v,hv,hr⟩
theorem qeM {γ:Nat→Option Nat} {imm:Nat→Nat→Option Value} {cs:List qa} {l:List Value} (h:qh γ imm cs (l.take cs.length)):cs.length ≤ l.length:=by
 have:=h.length
 simp at this
 omega
theorem qeK {γ:Nat→Option Nat} {imm:Nat→Nat→Option Value} {cs:List qa} {l:List Value} (h:qh γ imm cs l):qh γ imm cs (l.take cs.length):=by
 rw [h.length,List.take_length];exact h
theorem qdb {h:List qf} {i id:Nat} {bx bx':qf} (hid:h[id]? = some bx) (hb:bx ≠ .dead) (hi:h[i]? = some .dead):(h.set id bx')[i]? = some .dead:=by
 rw [List.getElem?_set_ne]
 ·exact hi
 ·rintro rfl
  rw [hid] at hi
  cases hi
  exact hb rfl
theorem qhK {h:List qf} {γ:Nat→Option Nat} {id:Nat} {bx bx':qf} (hj:∀i j b,γ i = some b→γ j = some b→i = j∨h[i]? = some .dead∨h[j]? = some .dead) (hid:h[id]? = some bx) (hb:bx ≠ .dead) :
  ∀i j b,γ i = some b→γ j = some b→i = j∨(h.set id bx')[i]? = some .dead∨(h.set id bx')[j]? = some .dead:=fun i j b hi hk=>by
 rcases hj i j b hi hk with h1 | h1 | h1
 ·exact .inl h1
 ·exact .inr (.inl (qdb hid hb h1))
 ·exact .inr (.inr (qdb hid hb h1))
def WF (h:List qf):Prop:=∀bx ∈ h,bx.lower h.length = true
theorem qfr.keep {id b n:Nat} {bx:qf} (hb:qfr P gl G w id bx b) (hl:bx.lower n = true) (hi:∀b o v,G.imm b o = some v→G'.imm b o = some v)
  (hγ:∀i b,i < n→G.γ i = some b→G'.γ i = some b) (hh:w'.heap[b]? = w.heap[b]?) (how:∀b o,G.ow b = some (.cell id o)→G'.ow b = some (.cell id o))
  (hho:∀b o,G.ow b = some (.cell id o)→w'.heap[b]? = w.heap[b]?) (hio:∀b j o,G.ow b = some (.cell id o)→G.imm b j = none→G'.imm b j = none):qfr P gl G' w' id bx b:=by
 cases bx with
 | cells cs=>
  obtain ⟨c,e,h1,h2,h3⟩:=hb
  exact ⟨c,e,by rw [hh];exact h1,qh.mono hi n hγ cs _ hl h2,fun o xs k v ho hv=>(h3 o xs k v ho hv).keep (fun b hb=>how b o hb) (fun b hb=>hho b o hb) (fun b j hb=>hio b j o hb)⟩
 | loop t ps asg body st pend=>
  obtain ⟨L,h1,h2⟩:=hb
  exact ⟨L,by rw [hh];exact h1,{ h2 with tmps:=qh.mono hi n hγ t _ hl h2.tmps}⟩
 | map es clock=>
  obtain ⟨me,h1,h2⟩:=hb
  exact ⟨me,by rw [hh];exact h1,qV.mono hi n hγ hl h2⟩
 | iter m since seen last=>
  obtain ⟨mm,h1,h2⟩:=hb
  exact ⟨mm,by rw [hh];exact h1,qt.mono hi n hγ _ _ hl h2⟩
 | bld _ _ _=>exact qnc.keep hb hh (fun x hx=>how x 1 hx) (fun x hx=>hho x 1 hx) (fun x j hx=>hio x j 1 hx)
 | dead=>trivial
theorem Rel.alloc (hr:Rel P gl G h w) (o:Obj):Rel P gl G h (w.alloc o) where
 γlt i b hb:=⟨(hr.γlt i b hb).1,by have:=(hr.γlt i b hb).2;simp;omega⟩
 inj:=hr.inj
 box i b bx hb hx:=by
  have hlt:=(hr.γlt i b hb).2
  have hb':=hr.box i b bx hb hx
  have key:∀b',b' < w.heap.size→(w.alloc o).heap[b']? = w.heap[b']?:=fun b' hb'=>qP w o hb'
  cases bx with
  | cells cs=>
   obtain ⟨c,e,h1,h2,h3⟩:=hb'
   exact ⟨c,e,by rw [key b hlt];exact h1,h2,fun o' xs k v ho hv=>(h3 o' xs k v ho hv).keep (fun _ h=>h) (fun b hb=>key b (hr.ow b _ hb).1) (fun _ _ _ h=>h)⟩
  | loop t ps asg body st pend=>
   obtain ⟨L,h1,h2⟩:=hb'
   exact ⟨L,by rw [key b hlt];exact h1,h2⟩
  | map es clock=>
   obtain ⟨me,h1,h2⟩:=hb'
   exact ⟨me,by rw [key b hlt];exact h1,h2⟩
  | iter m since seen last=>
   obtain ⟨mm,h1,h2⟩:=hb'
   exact ⟨mm,by rw [key b hlt];exact h1,h2⟩
  | bld _ _ _=>exact qnc.keep hb' (key b hlt) (fun _ h=>h) (fun x hx=>key x (hr.ow x _ hx).1) (fun _ _ _ h=>h)
  | dead=>trivial
 imm b o' v hv:=by
  intro hm
  obtain ⟨h1,h2⟩:=hr.imm b o' v hv hm
  exact ⟨(qbo (qP w o h2)).trans h1,by simp;omega⟩
 immγ:=hr.immγ
 immK b o' hv:=by
  obtain ⟨h0,c,e,h1,h2⟩:=hr.immK b o' hv
  exact ⟨h0,c,e,by rw [qP w o (Array.getElem?_eq_some_iff.1 h1).1];exact h1,h2⟩
 ow b ℓ hb:=⟨by have:=(hr.ow b ℓ hb).1;simp;omega,(hr.ow b ℓ hb).2⟩
 glob:=hr.glob
theorem qaE.alloc (hr:Rel P gl G h w) (ht:qaE G w t ts) (o:Obj):qaE G (w.alloc o) t ts:=
 ⟨ht.rel,fun i xs k v hi hv=>(ht.own i xs k v hi hv).keep (fun _ h=>h) (fun b hb=>qP w o (hr.ow b _ hb).1) (fun _ _ _ h=>h)⟩
theorem Ext.alloc (n:Nat) (G:qd) (w:World) (o:Obj):Ext n G w G (w.alloc o):=
 ⟨fun _ _ h=>h,fun _ _ h=>.inl h,fun _ _ _ h=>h,fun _ _ _ h=>.inl h,fun _ h=>.inl h,by simp,fun b hb _=>qP w o hb,
  fun b L hL=>⟨L,by rw [qP w o (Array.getElem?_eq_some_iff.1 hL).1];exact hL,rfl,rfl,rfl,rfl,rfl,rfl⟩,rfl,rfl,rfl⟩
def qd.withBox (G:qd) (i b:Nat):qd:={ G with γ:=fun j=>if j = i then some b else G.γ j}
theorem Rel.newBox (hr:Rel P gl G h w) {i:Nat} {o:Obj} {bx:qf} {h':List qf} (hi:G.γ i = none) (hlen:h.length ≤ h'.length) (hil:i < h'.length)
  (hget:∀j,j ≠ i→∀b,G.γ j = some b→h'[j]? = h[j]?) (hbx:h'[i]? = some bx)
  (hnew:qfr P gl (G.withBox i w.heap.size) (w.alloc o) i bx w.heap.size):Rel P gl (G.withBox i w.heap.size) h' (w.alloc o):=by
 have ha:=hr.alloc o
 have hγ:∀j b,G.γ j = some b→(G.withBox i w.heap.size).γ j = some b:=fun j b hj=>by
  have:j ≠ i:=fun e=>by subst e;simp [hi] at hj
  simpa [qd.withBox,this] using hj
 refine ⟨fun j b hj=>?_,fun j k b hj hk=>?_,fun j b bx' hj hx=>?_,ha.imm,fun b o' v j hv hm=>?_,ha.immK,fun b ℓ hb=>⟨(ha.ow b ℓ hb).1,fun j hj=>?_⟩,fun g cs hg=>?_⟩
 ·simp only [qd.withBox] at hj
  split at hj
  ·rename_i e;subst e;cases hj;exact ⟨hil,by simp⟩
  ·exact ⟨Nat.lt_of_lt_of_le (hr.γlt j b hj).1 hlen,(ha.γlt j b hj).2⟩
 ·simp only [qd.withBox] at hj hk
  split at hj
  ·split at hk
   ·exact .inl (by omega)
   ·cases hj;have:=(hr.γlt k _ hk).2;omega
  ·rename_i e1
   split at hk
   ·cases hk;have:=(hr.γlt j _ hj).2;omega
   ·rename_i e2
    rw [hget j e1 b hj,hget k e2 b hk]
    exact hr.inj j k b hj hk
 ·simp only [qd.withBox] at hj
  split at hj
  ·rename_i e;subst e;cases hj;rw [hbx] at hx;cases hx;exact hnew
  ·rename_i e
   rw [hget j e b hj] at hx
   have hb:=ha.box j b bx' hj hx
   obtain ⟨n,hn⟩:=qf.lower_ex bx'
   exact hb.keep hn (fun _ _ _ h=>h) (fun j b _=>hγ j b) rfl (fun _ _ h=>h) (fun _ _ _=>rfl) (fun _ _ _ _ h=>h)
 ·simp only [qd.withBox]
  split
  ·intro e;cases e;have:=hr.imm_lt hv;omega
  ·rename_i e1
   intro e
   rw [hget j e1 b e]
   exact hr.immγ b o' v j hv hm e
 ·simp only [qd.withBox] at hj
  split at hj
  ·cases hj;have:=(hr.ow _ _ hb).1;omega
  ·exact (hr.ow b ℓ hb).2 j hj
 ·obtain ⟨h1,h2⟩:=hr.glob g cs hg
  exact ⟨qdy.mono (fun _ _ _ h=>h) cs g h2 h1,h2⟩
theorem Ext.newBox {n i:Nat} (hi:G.γ i = none) (hn:n ≤ i) (o:Obj):Ext n G w (G.withBox i w.heap.size) (w.alloc o):=by
 refine ⟨fun j b hj=>?_,fun j b hj=>?_,fun _ _ _ h=>h,fun _ _ _ h=>.inl h,fun _ h=>.inl h,by simp,fun b hb _=>qP w o hb,(Ext.alloc n G w o).loops,rfl,rfl,rfl⟩
 ·have:j ≠ i:=fun e=>by subst e;simp [hi] at hj
  simpa [qd.withBox,this] using hj
 ·simp only [qd.withBox] at hj
  split at hj
  ·rename_i e;subst e;cases hj;exact .inr ⟨hn,.inl (Nat.le_refl _)⟩
  ·exact .inl hj
noncomputable def qd.withRow (G:qd) (b:Nat) (c:Array Value) (m:Nat) (ℓ:Option Loc):qd:=
 { γ:=G.γ,imm:=fun x o=>if x = b then (if o < m then qlx c[o]? else none) else G.imm x o,ow:=fun x=>if x = b then ℓ else G.ow x}
theorem Rel.newRow (hr:Rel P gl G h w) (c:Array Value) (e:TypeId) (m:Nat) (ℓ:Option Loc) (fr:Nat×Nat:=(0,0)):Rel P gl (G.withRow w.heap.size c m ℓ) h (w.alloc (.cells c e fr)):=by
 have ha:=hr.alloc (.cells c e fr)
 have hi:∀b o v,G.imm b o = some v→(G.withRow w.heap.size c m ℓ).imm b o = some v:=fun b o v hv=>by
  have:b ≠ w.heap.size:=by have:=hr.imm_lt hv;omega
  simpa [qd.withRow,this] using hv
 refine ⟨ha.γlt,ha.inj,fun i b bx hb hx=>?_,fun b o v hv hm=>?_,fun b o v i hv hm hb=>?_,fun b o hv=>?_,fun b ℓ' hb=>?_,fun g cs hg=>?_⟩
 ·obtain ⟨n,hn⟩:=qf.lower_ex bx
  refine (ha.box i b bx hb hx).keep hn hi (fun _ _ _ h=>h) rfl (fun b' o hb'=>?_) (fun _ _ _=>rfl) (fun b' j o hb' hj=>?_)
  ·have:b' ≠ w.heap.size:=by have:=(hr.ow b' _ hb').1;omega
   simpa [qd.withRow,this] using hb'
  ·have:b' ≠ w.heap.size:=by have:=(hr.ow b' _ hb').1;omega
   simpa [qd.withRow,this] using hj
 ·simp only [qd.withRow] at hv
  split at hv
  ·rename_i e1
   subst e1
   split at hv
   ·refine ⟨?_,by simp⟩
    simp only [World.cell?,qZ]
    simpa using (qbd.1 hv).1
   ·cases hv
  ·exact ha.imm b o v hv hm
 ·simp only [qd.withRow] at hv hb
  split at hv
  ·have:=(hr.γlt i b hb).2;omega
  ·exact hr.immγ b o v i hv hm hb
 ·simp only [qd.withRow] at hv
  split at hv
  ·split at hv
   ·exact absurd rfl (qbd.1 hv).2
   ·cases hv
  ·exact ha.immK b o hv
 ·simp only [qd.withRow] at hb
  split at hb
  ·rename_i e1
   exact ⟨by simp;omega,fun i hi=>by simp only [qd.withRow] at hi;have:=(hr.γlt i b hi).2;omega⟩
  ·exact ha.ow b ℓ' hb
 ·obtain ⟨h1,h2⟩:=hr.glob g cs hg
  exact ⟨qdy.mono hi cs g h2 h1,h2⟩
theorem Ext.newRow (n:Nat) (c:Array Value) (e:TypeId) (m:Nat) (ℓ:Option Loc) (hr:Rel P gl G h w) (fr:Nat×Nat:=(0,0)):Ext n G w (G.withRow w.heap.size c m ℓ) (w.alloc (.cells c e fr)):=by
 refine ⟨fun _ _ h=>h,fun _ _ h=>.inl h,fun b o v hv=>?_,fun b o v hv=>?_,fun b hb=>?_,by simp,fun b hb _=>qP w _ hb,(Ext.alloc n G w _).loops,rfl,rfl,rfl⟩
 ·have:b ≠ w.heap.size:=by have:=hr.imm_lt hv;omega
  simpa [qd.withRow,this] using hv
 ·simp only [qd.withRow] at hv
  split at hv
  ·exact .inr (.inl (by omega))
  ·exact .inl hv
 ·simp only [qd.withRow] at hb
  split at hb
  ·exact .inr (by omega)
  ·exact .inl hb
theorem qaE.newRow (hr:Rel P gl G h w) (ht:qaE G w t ts) (c:Array Value) (e:TypeId) (m:Nat) (ℓ:Option Loc) (fr:Nat×Nat:=(0,0)):qaE (G.withRow w.heap.size c m ℓ) (w.alloc (.cells c e fr)) t ts:=by
 have hi:∀b o v,G.imm b o = some v→(G.withRow w.heap.size c m ℓ).imm b o = some v:=(Ext.newRow 0 c e m ℓ hr fr).ik
 obtain ⟨n,hn⟩:=qao t
 refine ⟨qh.mono hi n (fun _ _ _ h=>h) t _ hn ht.rel,fun i xs k v hx hv=>(ht.own i xs k v hx hv).keep (fun b hb=>?_) (fun b hb=>qP w _ (hr.ow b _ hb).1) (fun b j hb hj=>?_)⟩
 ·have:b ≠ w.heap.size:=by have:=(hr.ow b _ hb).1;omega
  simpa [qd.withRow,this] using hb
 ·have:b ≠ w.heap.size:=by have:=(hr.ow b _ hb).1;omega
  simpa [qd.withRow,this] using hj
theorem qaE.keep {n:Nat} (ht:qaE G w t ts) (hl:qy n t = true) (hi:∀b o v,G.imm b o = some v→G'.imm b o = some v) (hγ:∀i b,i < n→G.γ i = some b→G'.γ i = some b)
  (how:∀b i,G.ow b = some (.tmp i)→G'.ow b = some (.tmp i)) (hho:∀b i,G.ow b = some (.tmp i)→w'.heap[b]? = w.heap[b]?)
  (hio:∀b j i,G.ow b = some (.tmp i)→G.imm b j = none→G'.imm b j = none):qaE G' w' t ts:=
 ⟨qh.mono hi n hγ t _ hl ht.rel,fun i xs k v hx hv=>(ht.own i xs k v hx hv).keep (fun b hb=>how b i hb) (fun b hb=>hho b i hb) (fun b j hb=>hio b j i hb)⟩
end
end Go.AE
namespace Go.AE
section
variable {P:Program} {gl:Nat→Option (List qa)} {G:qd} {w:World} {h:List qf} {t:List qa} {a:Act}
theorem qfm {γ:Nat→Option Nat} {imm:Nat→Nat→Option Value} {v:Value} {x:qa} (h:qcW v = some x):qt γ imm x v:=by
 unfold qcW at h
 split at h <;> try (simp only [Option.some.injEq] at h;subst h)
 all_goals try (simp [qt];done)
 ·split at h
  ·rename_i hh;obtain ⟨rfl,rfl⟩:=hh;cases h
   simp only [qt];exact ⟨none,0,0,rfl,rfl,Nat.le_refl _,fun _=>rfl,fun _=>rfl,⟨0,by simp⟩,.inl trivial⟩
  ·cases h
 ·split at h
  ·rename_i hh
   simp only [Bool.and_eq_true,Array.isEmpty_iff] at hh
   obtain ⟨rfl,rfl⟩:=hh;cases h
   simp only [qt];exact ⟨#[],#[],rfl,by simp [qh],by simp [qh]⟩
  ·cases h
 ·cases h
theorem qfK {v:Value} {x:qa} (h:qcW v = some x):x.lower 0 = true:=by
 unfold qcW at h
 split at h <;> first | (simp only [Option.some.injEq] at h;subst h;rfl) | (split at h <;> cases h;rfl) | cases h
theorem qhS {γ:Nat→Option Nat} {imm:Nat→Nat→Option Value}:∀{vs:List Value} {xs:List qa},vs.mapM qcW = some xs→qh γ imm xs vs∧qy 0 xs = true
 | [],xs,h=>by simp at h;subst h;simp [qh,qy]
 | v :: vs,xs,h=>by
  simp only [List.mapM_cons,Option.pure_def,Option.bind_eq_bind,Option.bind_eq_some_iff] at h
  obtain ⟨x,hx,ys,hys,h⟩:=h
  cases h
  obtain ⟨h1,h2⟩:=qhS (γ:=γ) (imm:=imm) hys
  exact ⟨by simp only [qh];exact ⟨v,vs,rfl,qfm hx,h1⟩,by simp [qy,qfK hx,h2]⟩
theorem qf9 {γ:Nat→Option Nat} {imm:Nat→Nat→Option Value} {v:Value} {x:qa} (h:qfw v = some x):qt γ imm x v∧x.lower 0 = true:=by
 unfold qfw at h
 split at h
 ·rename_i cs
  simp only [Option.map_eq_some_iff] at h
  obtain ⟨xs,hx,rfl⟩:=h
  obtain ⟨h1,h2⟩:=qhS (γ:=γ) (imm:=imm) hx
  exact ⟨by simp only [qt];exact ⟨cs,rfl,h1⟩,by simpa [qa.lower] using h2⟩
 ·split at h
  ·rename_i hh
   simp only [Array.isEmpty_iff] at hh
   subst hh;cases h;exact ⟨by simp only [qt];exact ⟨#[],rfl,by simp [qh]⟩,rfl⟩
  ·cases h
 ·exact ⟨qfm h,qfK h⟩
theorem qh0 (hr:Rel P gl G h w) (ht:qaE G w t a.tmps) {x:Operand} {ax:qk} (hx:opd gl x = some ax):G.V (raw t ax) (a.eval x):=by
 cases x with
 | tmp i=>simp only [opd,Option.some.injEq] at hx;subst hx;exact ht.get i
 | const v=>
  simp only [opd,Option.map_eq_some_iff] at hx
  obtain ⟨c,hc,rfl⟩:=hx
  exact (qf9 hc).1
 | global g=>
  simp only [opd,Option.map_eq_some_iff] at hx
  obtain ⟨c,hc,rfl⟩:=hx
  simp only [raw,qd.V,qt]
  exact ⟨g,0,rfl,(hr.glob g c hc).1.1⟩
 | func f=>
  simp only [opd,Option.some.injEq] at hx
  subst hx
  simp only [raw,qd.V,qt]
  exact ⟨#[],#[],rfl,by simp [qh],by simp [qh]⟩
theorem qQ (hr:Rel P gl G h w) (ht:qaE G w t a.tmps) {x:Operand} {ax:qk} (hx:opd gl x = some ax):G.V (ev t ax) (a.eval x):=qcT (qh0 hr ht hx)
theorem qbx (v:qa):v.dim.dim = v.dim:=by
 cases v <;> try rfl
 rename_i xs f;cases f <;> rfl
theorem qix (t:List qa) (x:qk):(ev t x).dim = ev t x:=qbx _
theorem qoB (hr:Rel P gl G h w) (ht:qaE G w t a.tmps):∀{xs:List Operand} {axs:List qk},xs.mapM (opd gl) = some axs→G.VL (axs.map (ev t)) (xs.map a.eval)
 | [],axs,h=>by simp at h;subst h;simp [qd.VL,qh]
 | x :: xs,axs,h=>by
  simp only [List.mapM_cons,Option.pure_def,Option.bind_eq_bind,Option.bind_eq_some_iff] at h
  obtain ⟨y,hy,ys,hys,h⟩:=h
  cases h
  simp only [List.map_cons,qd.VL,qh]
  exact ⟨_,_,rfl,qQ hr ht hy,qoB hr ht hys⟩
theorem qhY (hr:Rel P gl G h w) (ht:qaE G w t a.tmps) {xs:Array Operand} {axs:List qk} (hx:qrV gl xs = some axs):G.VL (axs.map (ev t)) (xs.map a.eval).toList:=by
 rw [Array.toList_map];exact qoB hr ht hx
theorem qbO {γ:Nat→Option Nat} {imm:Nat→Nat→Option Value} {x:qa} {v:Value} (h:qt γ imm x v) (hs:x.cells.all qa.storable = true):qh γ imm x.cells v.cells.toList∧∀u ∈ v.cells.toList,u.oneCell' = true:=by
 have one:∀{x:qa} {v:Value},qt γ imm x v→x.storable = true→v.oneCell' = true:=by
  intro x v h hs
  cases x <;> simp only [qa.storable,Bool.false_eq_true] at hs <;> simp only [qt] at h <;> first
   | (subst h;rfl)
   | (obtain ⟨_,rfl,_⟩:=h;rfl)
   | (obtain ⟨_,_,rfl⟩:=h;rfl)
   | (obtain ⟨_,_,rfl,_⟩:=h;rfl)
   | (obtain ⟨_,_,_,rfl,_⟩:=h;rfl)
 have all:∀{xs:List qa} {vs:List Value},qh γ imm xs vs→xs.all qa.storable = true→∀u ∈ vs,u.oneCell' = true:=by
  intro xs
  induction xs with
  | nil=>intro vs h _ u hu;simp only [qh] at h;subst h;cases hu
  | cons x xs ih=>
   intro vs h hs u hu
   simp only [qh] at h
   obtain ⟨v,rest,rfl,h1,h2⟩:=h
   simp only [List.all_cons,Bool.and_eq_true] at hs
   cases hu with
   | head=>exact one h1 hs.1
   | tail _ hu=>exact ih h2 hs.2 u hu
 have key:qh γ imm x.cells v.cells.toList:=by
  cases x with
  | agg cs=>
   simp only [qt] at h
   obtain ⟨c,rfl,h1⟩:=h
   simpa [qa.cells,Value.cells] using h1
  | _=>
   have hs':=hs
   simp only [qa.cells,List.all_cons,List.all_nil,Bool.and_true] at hs'
   have ho:=one h hs'
   have hc:v.cells = #[v]:=by cases v <;> first | rfl | (simp [Value.oneCell'] at ho)
   rw [hc]
   simp only [qa.cells,qh]
   exact ⟨v,[],rfl,h,rfl⟩
 exact ⟨key,all key hs⟩
theorem qnY {γ:Nat→Option Nat} {imm:Nat→Nat→Option Value} {cs:List qa} {vs:List Value} {o:Nat} {k:Option Nat} {x:qa} (h:qh γ imm cs vs) (hc:cut cs o k = some x) :
  qt γ imm x (match k with | none=>vs.getD o undef | some k=>.agg ((vs.drop o).take k).toArray)∧x.dim = x∧(match k with | none=>o < vs.length | some k=>o + k ≤ vs.length):=by
 cases k with
 | none=>
  simp only [cut,Option.map_eq_some_iff] at hc
  obtain ⟨c,h0,rfl⟩:=hc
  obtain ⟨v,hv,hr⟩:=h.get h0
  refine ⟨?_,qbx _,?_⟩
  ·simp only [List.getD,hv,Option.getD_some];exact qcT hr
  ·simp only;exact (List.getElem?_eq_some_iff.1 hv).1
 | some k=>
  simp only [cut] at hc
  split at hc
  ·cases hc
   refine ⟨?_,rfl,by simp only;rw [←h.length];assumption⟩
   simp only [qt]
   exact ⟨_,rfl,by simpa using qh.dims (qh.take k (qh.drop o h))⟩
  ·cases hc
end
end Go.AE
namespace Go.AE
def qc5:qa→Value
 | .int k n=>.int k n
 | .bool b=>.bool b
 | .str s=>.string ⟨s.toArray⟩
 | _=>undef
section
variable {P:Program} {γ:Nat→Option Nat} {imm:Nat→Nat→Option Value}
theorem qfg {op:BinOp} {k:IntKind} {a b:Int} {r:qa} (h:qcx op k a b = some r) (w:World) (j:IntKind) (hj:j = k∨op = .shl∨op = .shr) (t:TypeId) :
  (binOp op t (.int k a) (.int j b)).run P w = .ok (qc5 r) w∧qt γ imm r (qc5 r)∧r.dim = r:=by
 have hj':op ≠ .shl→op ≠ .shr→j = k:=by intro h1 h2;rcases hj with h | h | h <;> first | exact h | exact absurd h h1 | exact absurd h h2
 cases op <;> simp only [qcx,qay,qM] at h
 case quo=>
  split at h
  ·cases h
  ·rename_i hb
   cases h;obtain rfl:=hj' (by simp) (by simp)
   exact ⟨by simp [binOp,Op.intDiv,hb,qc5],by simp [qt,qc5],rfl⟩
 case rem=>
  split at h
  ·cases h
  ·rename_i hb
   cases h;obtain rfl:=hj' (by simp) (by simp)
   exact ⟨by simp [binOp,Op.intDiv,hb,qc5],by simp [qt,qc5],rfl⟩
 case shl=>
  split at h
  ·cases h
  ·rename_i hb
   cases h
   exact ⟨by simp [binOp,Op.shift,hb,qc5],by simp [qt,qc5],rfl⟩
 case shr=>
  split at h
  ·cases h
  ·rename_i hb
   cases h
   exact ⟨by simp [binOp,Op.shift,hb,qc5],by simp [qt,qc5],rfl⟩
 all_goals
  cases h
  obtain rfl:=hj' (by simp) (by simp)
  exact ⟨by simp only [binOp,ne_eq,not_true_eq_false,if_false];rfl,by simp [qt,qc5],rfl⟩
theorem qm0 {op:BinOp} {a b:List UInt8} {r:qa} (h:qrw op a b = some r) (w:World) {x y:ByteArray} (hx:x.data.toList = a) (hy:y.data.toList = b) (t:TypeId) :
  (binOp op t (.string x) (.string y)).run P w = .ok (qc5 r) w∧qt γ imm r (qc5 r)∧r.dim = r:=by
 have ex:x.toList = a:=by rw [Lib.toList_data,hx]
 have ey:y.toList = b:=by rw [Lib.toList_data,hy]
 cases op <;> simp only [qrw] at h
 case add=>
  split at h
  ·rename_i hl
   cases h
   have hs:¬ (((x.size + y.size:Nat):Int) > IntKind.i64.max):=by
    have h1:x.size = a.length:=by rw [←hx];rfl
    have h2:y.size = b.length:=by rw [←hy];rfl
    unfold qu at hl
    simp only [IntKind.max,IntKind.signed,IntKind.bits,if_true]
    omega
   have hxy:x ++ y = ⟨(a ++ b).toArray⟩:=by
    apply ByteArray.ext
    apply Array.ext'
    rw [ByteArray.data_append,Array.toList_append,hx,hy]
   refine ⟨?_,?_,rfl⟩
   ·simp only [binOp,Op.stringOp,if_neg hs,qc5,hxy];rfl
   ·simp only [qt,qc5];exact ⟨_,rfl,rfl⟩
  ·cases h
 all_goals first
  | (cases h;done)
  | (cases h;exact ⟨by simp [binOp,Op.stringOp,ex,ey,qc5],by simp [qt,qc5],rfl⟩)
theorem qsd {op:BinOp} {x y:qa} {r:qa} (h:qcp op x y = some r) (w:World) {vx vy:Value} (hx:qt γ imm x vx) (hy:qt γ imm y vy) (t:TypeId) :
  (binOp op t vx vy).run P w = .ok (qc5 r) w∧qt γ imm r (qc5 r)∧r.dim = r:=by
 unfold qcp at h
 split at h
 ·simp only [qt] at hx hy
  subst hx hy
  split at h
  ·exact qfg h w _ (.inr (.inl rfl)) t
  ·exact qfg h w _ (.inr (.inr rfl)) t
  ·split at h
   ·rename_i hk
    exact qfg h w _ (.inl hk.symm) t
   ·cases h
 ·simp only [qt] at hx hy
  obtain ⟨bx,rfl,hbx⟩:=hx
  obtain ⟨by',rfl,hby⟩:=hy
  exact qm0 h w hbx hby t
 ·cases h
theorem qep {op:BinOp} {t:TypeId} {x y:Operand} {a b:Value} (w:World) (h1:¬ (a = .nilIface∧b = .nilIface)∨isC x = true∨isC y = true)
  (h2:∀xs ys,a = .agg xs→b = .agg ys→False):(eqGuard op t x y a b).run P w = .ok () w:=by
 by_cases hn:a = .nilIface∧b = .nilIface
 ·obtain ⟨rfl,rfl⟩:=hn
  rcases h1 with h1 | h1 | h1
  ·exact absurd ⟨rfl,rfl⟩ h1
  ·cases x <;> first | (cases h1;done) | (cases op <;> rfl)
  ·cases y <;> first | (cases h1;done) | (cases op <;> cases x <;> rfl)
 ·clear h1
  cases op <;> first
   | rfl
   | (cases a <;> first
     | rfl
     | (cases b <;> first | rfl | exact (h2 _ _ rfl rfl).elim | exact absurd ⟨rfl,rfl⟩ hn))
end
end Go.AE
namespace Go.AE
theorem qbE (b o n:Nat):(⟨b,o,none⟩ :Addr).add n = ⟨b,o + n,none⟩:=by
 unfold Addr.add;split <;> simp_all
theorem qdo {P:Program} {s:Sem Value} {v:Value} {w w':World} (h:s.run P w = .ok v w'):(do pure (Next.value (←s)):Sem Next).run P w = .ok (.value v) w':=by
 simp [h]
section
variable {P:Program} {gl:Nat→Option (List qa)} {G:qd} {w:World} {h:List qf} {t:List qa} {a:Act}
theorem qbc {e:TypeId} {k:Nat} (he:qdv P e = some k) (w:World):(sizeOf e).run P w = .ok k w:=by
 simp only [qdv,Option.map_eq_some_iff] at he
 obtain ⟨i,hi,rfl⟩:=he
 simp [sizeOf,typeInfo,hi]
theorem qe5 {e:TypeId} {k:Option Nat} (he:tyk P e = some k) (w:World):(isAgg e).run P w = .ok k.isSome w∧∀n,k = some n→(sizeOf e).run P w = .ok n w:=by
 unfold tyk at he
 split at he
 ·rename_i hu
  simp only [Option.map_eq_some_iff] at he
  obtain ⟨i,hi,rfl⟩:=he
  exact ⟨by simp [isAgg,run_underlying hu],fun n hn=>by cases hn;simp [sizeOf,typeInfo,hi]⟩
 ·rename_i hu
  simp only [Option.map_eq_some_iff] at he
  obtain ⟨i,hi,rfl⟩:=he
  exact ⟨by simp [isAgg,run_underlying hu],fun n hn=>by cases hn;simp [sizeOf,typeInfo,hi]⟩
 ·cases he
 ·cases he
 ·cases he
 ·rename_i d h1 h2 h3 h4 hu
  cases he
  refine ⟨?_,by simp⟩
  simp only [isAgg,Sem.run_bind,run_underlying hu,Result.andThen_ok]
  cases d <;> first | rfl | (exfalso;first | exact h1 _ rfl | exact h2 _ _ rfl | exact h3 _ rfl)
theorem qk9 {e:TypeId} {k:Option Nat} (he:tyk P e = some k) {cs:List qa} {c:Array Value} {o:Nat} {x:qa} {γ:Nat→Option Nat} {imm:Nat→Nat→Option Value}
  (hc:qh γ imm cs c.toList) (hx:cut cs o k = some x) (w:World):∃u,(part e c o).run P w = .ok u w∧qt γ imm x u∧x.dim = x:=by
 obtain ⟨h1,h2⟩:=qe5 he w
 obtain ⟨h3,h4,h5⟩:=qnY hc hx
 cases k with
 | none=>
  simp only at h3 h5
  refine ⟨_,?_,h3,h4⟩
  have:c[o]? = some (c.toList.getD o undef):=by
   rw [←Array.getElem?_toList,List.getElem?_eq_getElem h5];simp [List.getD,List.getElem?_eq_getElem h5]
  simp only [part,Sem.run_bind,h1,Result.andThen_ok,Option.isSome_none,Bool.false_eq_true,if_false,this]
  rfl
 | some k=>
  simp only at h3 h5
  refine ⟨_,?_,h3,h4⟩
  simp only [part,Sem.run_bind,h1,Result.andThen_ok,Option.isSome_some,if_true,h2 k rfl]
  have:c.extract o (o + k) = (List.take k (List.drop o c.toList)).toArray:=by
   apply Array.ext'
   simp [Array.toList_extract,List.extract_eq_take_drop]
  rw [this];rfl
theorem qxA {k:Nat} {x y:qa} {vx vy:Value} {b:Bool} {γ:Nat→Option Nat} {imm:Nat→Nat→Option Value} (hn:qyG k x y = some b) (hx:qt γ imm x vx) (hy:qt γ imm y vy) {ty:TypeId} (w:World)
  (h0:k = 0→∃e,P.underlying ty = some (.pointer e)∧∃n,qdv P e = some n∧n ≠ 0) (h1:k = 1→∃ms,P.underlying ty = some (.interface ms)) (h2:k = 2→∃x y z,P.underlying ty = some (.func x y z)) (h3:k = 3→∃x y,P.underlying ty = some (.map x y)) :
  (Op.equal ty vx vy).run P w = .ok b w:=by
 have key:∀d,(Op.equalIn (d + 1) ty vx vy).run P w = .ok b w:=by
  intro d
  unfold qyG at hn
  split at hn
  ·obtain ⟨e,he,n,hsz,hn0⟩:=h0 rfl
   split at hn <;> (try simp only [Option.some.injEq] at hn) <;> (try simp only [qt] at hx hy)
   ·subst hn hx hy;simp [Op.equalIn,run_underlying he]
   ·subst hn hx;obtain ⟨_,_,rfl⟩:=hy;simp [Op.equalIn,run_underlying he]
   ·subst hn hy;obtain ⟨_,_,rfl⟩:=hx;simp [Op.equalIn,run_underlying he]
   ·subst hn hx;obtain ⟨_,_,rfl,_⟩:=hy;simp [Op.equalIn,run_underlying he]
   ·subst hn hy;obtain ⟨_,_,rfl,_⟩:=hx;simp [Op.equalIn,run_underlying he]
   ·split at hn
    ·rename_i e1
     subst e1
     cases hn
     obtain ⟨p,hp,rfl⟩:=hx
     obtain ⟨q,hq,rfl⟩:=hy
     rw [hp] at hq;cases hq
     rename_i o o'
     simp [Op.equalIn,run_underlying he,qbc hsz,hn0,sameAddr]
     rw [Bool.eq_iff_iff];simp
    ·cases hn
   ·cases hn
  ·obtain ⟨ms,he⟩:=h1 rfl
   split at hn <;> (try simp only [Option.some.injEq] at hn) <;> (try simp only [qt] at hx hy)
   ·subst hn hx hy;simp [Op.equalIn,run_underlying he]
   ·subst hn hx;obtain ⟨_,rfl,_⟩:=hy;simp [Op.equalIn,run_underlying he]
   ·subst hn hy;obtain ⟨_,rfl,_⟩:=hx;simp [Op.equalIn,run_underlying he]
   ·cases hn
  ·obtain ⟨p,q,r,he⟩:=h2 rfl
   split at hn <;> (try simp only [Option.some.injEq] at hn) <;> (try simp only [qt] at hx hy)
   ·subst hn hx hy;simp [Op.equalIn,run_underlying he]
   ·subst hn hx;obtain ⟨_,_,rfl,_⟩:=hy;simp [Op.equalIn,run_underlying he]
   ·subst hn hy;obtain ⟨_,_,rfl,_⟩:=hx;simp [Op.equalIn,run_underlying he]
   ·cases hn
  ·obtain ⟨p,q,he⟩:=h3 rfl
   split at hn <;> (try simp only [Option.some.injEq] at hn) <;> (try simp only [qt] at hx hy)
   ·subst hn hx hy;simp [Op.equalIn,run_underlying he]
   ·subst hn hx;obtain ⟨_,_,rfl⟩:=hy;simp [Op.equalIn,run_underlying he]
   ·subst hn hy;obtain ⟨_,_,rfl⟩:=hx;simp [Op.equalIn,run_underlying he]
   ·cases hn
  ·cases hn
 exact key 9999
theorem qez (op:BinOp) (ho:op = .eql∨op = .neq) (ty:TypeId) (x y:Value) (b:Bool) (w:World) (h:(Op.equal ty x y).run P w = .ok b w)
  (hi:∀k n,x ≠ .int k n) (hs:∀s,x ≠ .string s) (hf:∀k n,x ≠ .float k n) (hc:∀k n m,x ≠ .complex k n m):(binOp op ty x y).run P w = .ok (.bool (b != (qd9 op))) w:=by
 rcases ho with rfl | rfl
 ·have:binOp .eql ty x y = (do pure (.bool (←Op.equal ty x y)):Sem Value):=by
   cases x <;> cases y <;> first | rfl | exact absurd rfl (hi _ _) | exact absurd rfl (hs _) | exact absurd rfl (hf _ _) | exact absurd rfl (hc _ _ _)
  rw [this];simp [h,qd9]
 ·have:binOp .neq ty x y = (do pure (.bool (!(←Op.equal ty x y))):Sem Value):=by
   cases x <;> cases y <;> first | rfl | exact absurd rfl (hi _ _) | exact absurd rfl (hs _) | exact absurd rfl (hf _ _) | exact absurd rfl (hc _ _ _)
  rw [this];simp [h,qd9]
end
end Go.AE
namespace Go.AE
section
variable {P:Program} {gl:Nat→Option (List qa)} {G:qd} {w:World} {h:List qf} {t:List qa} {a:Act}
theorem qv {α β:Type} {x:Option α} {f:α→Option β} {b:β} (h:(x >>= f) = some b):∃y,x = some y∧f y = some b:=by
 cases x with
 | none=>cases h
 | some y=>exact ⟨y,rfl,h⟩
theorem qbT {α β:Type} {x:Option α} {f:α→β} {b:β} (h:x.map f = some b):∃y,x = some y∧f y = b:=by
 cases x with
 | none=>cases h
 | some y=>exact ⟨y,rfl,by simpa using h⟩
theorem qik (hr:Rel P gl G h w) (ht:qaE G w t a.tmps) {x:Operand} {ax:qk} (hx:opd gl x = some ax) {d m n:Nat} (hb:bound t (some ax) d = some n) (hm:n ≤ m) (c:BoundsCode) :
  (Instr.sliceBound (a.eval x) m c).run P w = .ok n w:=by
 have hv:=qQ hr ht hx
 simp only [bound] at hb
 split at hb
 ·rename_i k i he
  rw [he] at hv
  simp only [qd.V,qt] at hv
  split at hb
  ·rename_i h0
   cases hb
   have:0 ≤ i∧i ≤ (m:Int):=⟨h0,by omega⟩
   simp [Instr.sliceBound,hv,asIntOf,this]
  ·cases hb
 ·cases hb
theorem qfb (hr:Rel P gl G h w) (ht:qaE G w t a.tmps) {lo hi:Option Operand} {alo ahi:Option qk} (hlo:qcK gl lo = some alo) (hhi:qcK gl hi = some ahi)
  {len cap l m:Nat} (hl:bound t alo 0 = some l) (hm:bound t ahi len = some m) (h1:l ≤ m) (h2:m ≤ cap) (sl:Bool) :
  (Instr.sliceBounds sl len cap (lo.map a.eval) (hi.map a.eval) none).run P w = .ok (l,m,cap) w:=by
 have hm':∀c:BoundsCode,(match hi.map a.eval,(none:Option Value) with
   | some v,some _=>Instr.sliceBound v cap .slice3B
   | some v,none=>Instr.sliceBound v cap c
   | none,none=>pure len
   | none, some _ => stuck "Slice: max without high" : Sem Nat).run P w = .ok m w := by
  intro c
  cases hi with
  | none=>
   simp only [qcK,Option.some.injEq] at hhi
   subst hhi
   simp only [bound,Option.some.injEq] at hm
   subst hm
   rfl
  | some x=>
   simp only [qcK] at hhi
   obtain ⟨ax,hx,rfl⟩:=qbT hhi
   exact qik hr ht hx hm (by omega) c
 have hl':(match lo.map a.eval with
   | some v=>Instr.sliceBound v m .sliceB
   | none=>pure 0:Sem Nat).run P w = .ok l w:=by
  cases lo with
  | none=>
   simp only [qcK,Option.some.injEq] at hlo
   subst hlo
   simp only [bound,Option.some.injEq] at hl
   subst hl
   rfl
  | some x=>
   simp only [qcK] at hlo
   obtain ⟨ax,hx,rfl⟩:=qbT hlo
   exact qik hr ht hx hl h1 .sliceB
 simp only [Instr.sliceBounds,Sem.run_bind,Sem.run_pure,Result.andThen_ok]
 have hm'':=hm' (if sl then .sliceAcap else .sliceAlen)
 cases hh:hi.map a.eval with
 | none=>
  rw [hh] at hm''
  simp only [Sem.run_pure,Result.ok.injEq] at hm''
  obtain ⟨rfl,_⟩:=hm''
  simp only [Sem.run_pure,Result.andThen_ok]
  cases hq:lo.map a.eval with
  | none=>
   rw [hq] at hl'
   simp only [Sem.run_pure,Result.ok.injEq] at hl'
   obtain ⟨rfl,_⟩:=hl'
   rfl
  | some v=>
   rw [hq] at hl'
   simp only at hl'
   simp [hl']
 | some u=>
  rw [hh] at hm''
  simp only at hm''
  simp only [Sem.run_bind,hm'',Result.andThen_ok]
  cases hq:lo.map a.eval with
  | none=>
   rw [hq] at hl'
   simp only [Sem.run_pure,Result.ok.injEq] at hl'
   obtain ⟨rfl,_⟩:=hl'
   rfl
  | some v=>
   rw [hq] at hl'
   simp only at hl'
   simp [hl']
end
end Go.AE
namespace Go.AE
section
variable {P:Program} {gl:Nat→Option (List qa)} {G:qd} {w:World} {h:List qf} {t:List qa} {a:Act}
def qbw (P:Program) (G:qd) (w:World) (a:Act) (o:Oper) (v:qa):Prop:=
 ∃u,(execOp a.eval o).run P w = .ok (.value u) w∧G.V v u∧v.dim = v
theorem qlY (hr:Rel P gl G h w) (ht:qaE G w t a.tmps) {o:Oper} {x:Operand} {ax:qk} (ho:o.op = .move x) (hx:opd gl x = some ax):qbw P G w a o (ev t ax):=
 ⟨a.eval x,by simp [execOp,ho],qQ hr ht hx,qix t ax⟩
theorem ql0 (hr:Rel P gl G h w) (ht:qaE G w t a.tmps) {o:Oper} {c x y:Operand} {ac ax ay:qk} {v:qa} (ho:o.op = .pick c x y) (hc:opd gl c = some ac) (hx:opd gl x = some ax) (hy:opd gl y = some ay)
  (hp:pureV t (.pick ac ax ay) = some v):qbw P G w a o v:=by
 have hcv:=qQ hr ht hc
 simp only [pureV] at hp
 split at hp
 ·rename_i he;rw [he] at hcv;simp only [qd.V,qt] at hcv;cases hp
  exact ⟨a.eval x,by simp [execOp,ho,hcv,asBool],qQ hr ht hx,qix t ax⟩
 ·rename_i he;rw [he] at hcv;simp only [qd.V,qt] at hcv;cases hp
  exact ⟨a.eval y,by simp [execOp,ho,hcv,asBool],qQ hr ht hy,qix t ay⟩
 ·cases hp
theorem qlZ (hr:Rel P gl G h w) (ht:qaE G w t a.tmps) {o:Oper} {x:Operand} {ax:qk} {v:qa} (ho:o.op = .nilCheck x) (hx:opd gl x = some ax) (hp:pureV t (.nilc ax) = some v):qbw P G w a o v:=by
 have hv:=qQ hr ht hx
 simp only [pureV] at hp
 split at hp <;> rename_i he <;> (try (rw [he] at hv)) <;> (try cases hp) <;> simp only [qd.V,qt] at hv
 ·obtain ⟨b,hb,he'⟩:=hv
  exact ⟨a.eval x,by simp [execOp,ho,he'],by simp only [qd.V,qt];exact ⟨b,hb,he'⟩,rfl⟩
 ·obtain ⟨b,p,he',hc⟩:=hv
  exact ⟨a.eval x,by simp [execOp,ho,he'],by simp only [qd.V,qt];exact ⟨b,p,he',hc⟩,rfl⟩
 ·obtain ⟨b,p,he',hc⟩:=hv
  exact ⟨a.eval x,by simp [execOp,ho,he'],by simp only [qd.V,qt];exact ⟨b,p,he',hc⟩,rfl⟩
 ·obtain ⟨b,hb,he'⟩:=hv
  exact ⟨a.eval x,by simp [execOp,ho,he'],by simp only [qd.V,qt];exact ⟨b,hb,he'⟩,rfl⟩
 ·obtain ⟨b,he',hc⟩:=hv
  exact ⟨a.eval x,by simp [execOp,ho,he'],by simp only [qd.V,qt];exact ⟨b,he',hc⟩,rfl⟩
theorem qqZ {x:qa} {v:Value} (hx:G.V x v) (hs:(∃k n,x = .int k n)∨(∃s,x = .str s)):(v ≠ .nilIface)∧∀xs,v ≠ .agg xs:=by
 rcases hs with ⟨k,n,rfl⟩ | ⟨s,rfl⟩
 ·simp only [qd.V,qt] at hx;subst hx;simp
 ·simp only [qd.V,qt] at hx;obtain ⟨b,rfl,_⟩:=hx;simp
theorem qlr {op:BinOp} {x y v:qa} (hv:qcp op x y = some v):(∃k n,x = .int k n)∨(∃s,x = .str s):=by
 unfold qcp at hv
 split at hv
 ·exact .inl ⟨_,_,rfl⟩
 ·exact .inr ⟨_,rfl⟩
 ·cases hv
theorem qgm (hr:Rel P gl G h w) (ht:qaE G w t a.tmps) {o:Oper} {op:BinOp} {ty yt:TypeId} {x y:Operand} {ax ay:qk} {v:qa} (ho:o.op = .binOp op ty x y yt) (hx:opd gl x = some ax) (hy:opd gl y = some ay)
  (hp:qcp op (ev t ax) (ev t ay) = some v):qbw P G w a o v:=by
 have hvx:=qQ hr ht hx
 have hvy:=qQ hr ht hy
 obtain ⟨h1,h2,h3⟩:=qsd (P:=P) hp w hvx hvy ty
 obtain ⟨n1,n2⟩:=qqZ hvx (qlr hp)
 have hg:=qep (P:=P) (op:=op) (t:=ty) (x:=x) (y:=y) (a:=a.eval x) (b:=a.eval y) w (.inl fun hh=>n1 hh.1) (fun xs _ hh _=>n2 xs hh)
 exact ⟨qc5 v,by simp [execOp,ho,hg,h1],h2,h3⟩
theorem qoX (hr:Rel P gl G h w) (ht:qaE G w t a.tmps) {o:Oper} {op:BinOp} {ty yt:TypeId} {x y:Operand} {ax ay:qk} {v:qa} (ho:o.op = .binOp op ty x y yt) (hx:opd gl x = some ax) (hy:opd gl y = some ay)
  (hop:op = .eql∨op = .neq) (hu:P.underlying ty = some .bool) (hp:pureV t (.eqb (qd9 op) ax ay) = some v):qbw P G w a o v:=by
 have hvx:=qQ hr ht hx
 have hvy:=qQ hr ht hy
 simp only [pureV] at hp
 split at hp
 ·rename_i p q e1 e2
  rw [e1] at hvx;rw [e2] at hvy
  simp only [qd.V,qt] at hvx hvy
  cases hp
  have he:(Op.equal ty (.bool p) (.bool q)).run P w = .ok (p == q) w:=by
   have key:∀d,(Op.equalIn (d + 1) ty (.bool p) (.bool q)).run P w = .ok (p == q) w:=fun d=>by simp [Op.equalIn,run_underlying hu]
   exact key 9999
  have hb:=qez op hop ty (.bool p) (.bool q) _ w he (by simp) (by simp) (by simp) (by simp)
  have hg:=qep (P:=P) (op:=op) (t:=ty) (x:=x) (y:=y) (a:=.bool p) (b:=.bool q) w (.inl (by simp)) (by simp)
  exact ⟨_,by simp [execOp,ho,hvx,hvy,hg,hb];rfl,by simp [qd.V,qt],rfl⟩
 ·cases hp
theorem qeO (hr:Rel P gl G h w) (ht:qaE G w t a.tmps) {o:Oper} {op:BinOp} {ty yt:TypeId} {x y:Operand} {ax ay:qk} {v:qa} {k:Nat} (ho:o.op = .binOp op ty x y yt) (hx:opd gl x = some ax) (hy:opd gl y = some ay)
  (hop:op = .eql∨op = .neq)
  (h0:k = 0→∃e,P.underlying ty = some (.pointer e)∧∃n,qdv P e = some n∧n ≠ 0) (h1:k = 1→(∃ms,P.underlying ty = some (.interface ms))∧(isC x = true∨isC y = true))
  (h2:k = 2→∃x y z,P.underlying ty = some (.func x y z)) (h3:k = 3→∃x y,P.underlying ty = some (.map x y))
  (hp:pureV t (.eqi k (qd9 op) ax ay) = some v):qbw P G w a o v:=by
 have hvx:=qQ hr ht hx
 have hvy:=qQ hr ht hy
 simp only [pureV] at hp
 obtain ⟨b,hb,rfl⟩:=qbT hp
 have he:=qxA hb hvx hvy (ty:=ty) w h0 (fun e=>(h1 e).1) h2 h3
 have hshape:(∀k n,a.eval x ≠ .int k n)∧(∀s,a.eval x ≠ .string s)∧(∀k n,a.eval x ≠ .float k n)∧(∀k n m,a.eval x ≠ .complex k n m)∧(∀xs,a.eval x ≠ .agg xs)∧(k ≠ 1→a.eval x ≠ .nilIface):=by
  unfold qyG at hb
  generalize ev t ax = p at hb hvx
  generalize ev t ay = q at hb hvy
  generalize a.eval x = u at hvx ⊢
  split at hb
  all_goals first
   | (cases hb;done)
   | (split at hb <;> first
     | (cases hb;done)
     | (simp only [qd.V,qt] at hvx
        first
         | (subst hvx;simp;done)
         | (obtain ⟨_,_,rfl⟩:=hvx;simp;done)
         | (obtain ⟨_,_,rfl,_⟩:=hvx;simp;done)
         | (obtain ⟨_,rfl,_⟩:=hvx;simp;done)))
 obtain ⟨s1,s2,s3,s4,s5,s6⟩:=hshape
 have hbo:=qez op hop ty (a.eval x) (a.eval y) _ w he s1 s2 s3 s4
 have hg:=qep (P:=P) (op:=op) (t:=ty) (x:=x) (y:=y) (a:=a.eval x) (b:=a.eval y) w (by
  by_cases hk:k = 1
  ·rcases (h1 hk).2 with h3 | h3
   ·exact .inr (.inl h3)
   ·exact .inr (.inr h3)
  ·exact .inl fun hh=>s6 hk hh.1) (fun xs _ hh _=>s5 xs hh)
 exact ⟨_,by simp [execOp,ho,hg,hbo];rfl,by simp [qd.V,qt],rfl⟩
theorem qtd (hr:Rel P gl G h w) (ht:qaE G w t a.tmps) {o:Oper} {op:UnOp} {ty:TypeId} {x:Operand} {ax:qk} {v:qa} (ho:o.op = .unOp op ty x) (hx:opd gl x = some ax)
  (hp:pureV t (.un op ax) = some v):qbw P G w a o v:=by
 have hv:=qQ hr ht hx
 simp only [pureV] at hp
 unfold unV at hp
 split at hp <;> (try cases hp) <;> (rename_i e1;rw [e1] at hv;simp only [qd.V,qt] at hv)
 ·exact ⟨_,by simp [execOp,ho,hv,Op.unary,Op.intArith];rfl,by simp [qd.V,qt],rfl⟩
 ·exact ⟨_,by simp [execOp,ho,hv,Op.unary];rfl,by simp [qd.V,qt],rfl⟩
theorem qoU (hr:Rel P gl G h w) (ht:qaE G w t a.tmps) {o:Oper} {s d:TypeId} {x:Operand} {ax:qk} {v:qa} {k j:IntKind} (ho:o.op = .convert s d x) (hx:opd gl x = some ax)
  (hs:P.underlying s = some (.int j)) (hd:P.underlying d = some (.int k)) (hp:pureV t (.cvi k ax) = some v):qbw P G w a o v:=by
 have hv:=qQ hr ht hx
 simp only [pureV] at hp
 split at hp
 ·rename_i e1;rw [e1] at hv;simp only [qd.V,qt] at hv;cases hp
  exact ⟨_,by simp [execOp,ho,hv,convert,run_underlying hs,run_underlying hd,Conv.intToInt];rfl,by simp [qd.V,qt],rfl⟩
 ·cases hp
theorem qoV (hr:Rel P gl G h w) (ht:qaE G w t a.tmps) {o:Oper} {s d:TypeId} {x:Operand} {ax:qk} {v:qa} (ho:o.op = .convert s d x) (hx:opd gl x = some ax)
  (hs:P.underlying s = some .string) (hd:P.underlying d = some .string) (hp:pureV t (.cvs ax) = some v):qbw P G w a o v:=by
 have hv:=qQ hr ht hx
 simp only [pureV] at hp
 split at hp
 ·rename_i e1;rw [e1] at hv;cases hp
  have hv':=hv
  simp only [qd.V,qt] at hv'
  obtain ⟨b,hb,_⟩:=hv'
  exact ⟨a.eval x,by simp [execOp,ho,hb,convert,run_underlying hs,run_underlying hd],hv,rfl⟩
 ·cases hp
theorem qkI:∀{xs:List qa} {s:List UInt8},qfc xs = some s→∃ns:List Int,xs = ns.map (qa.int .u8)∧s = ns.map fun n=>UInt8.ofNat n.toNat
 | [],s,h=>by cases h;exact ⟨[],rfl,rfl⟩
 | x :: xs,s,h=>by
  unfold qfc at h
  split at h
  ·rename_i e;cases e
  ·rename_i n r e
   cases e
   obtain ⟨s',h1,rfl⟩:=Option.map_eq_some_iff.1 h
   obtain ⟨ns,rfl,rfl⟩:=qkI h1
   exact ⟨n :: ns,rfl,rfl⟩
  ·cases h
theorem qla:∀(ns:List Int) (r:ByteArray),(ns.foldl (fun r n=>r.push (UInt8.ofNat n.toNat)) r).data.toList = r.data.toList ++ ns.map fun n=>UInt8.ofNat n.toNat
 | [],r=>by simp
 | n :: ns,r=>by rw [List.foldl_cons,qla ns];simp [ByteArray.push]
theorem qoW (hr:Rel P gl G h w) (ht:qaE G w t a.tmps) {o:Oper} {s d e:TypeId} {x:Operand} {ax:qk} {v:qa} (ho:o.op = .convert s d x) (hx:opd gl x = some ax)
  (hs:P.underlying s = some (.slice e)) (hd:P.underlying d = some .string) (he:qyF (P.underlying e) = true) (hp:pureV t (.cvt ax) = some v):qbw P G w a o v:=by
 have hu:P.underlying e = some (.int .u8):=by
  unfold qyF at he
  split at he
  ·assumption
  ·cases he
 have hv:=qQ hr ht hx
 simp only [pureV] at hp
 split at hp
 ·rename_i xs f e1
  rw [e1] at hv
  obtain ⟨l,hl,rfl⟩:=Option.map_eq_some_iff.1 hp
  obtain ⟨ns,rfl,rfl⟩:=qkI hl
  simp only [qd.V,qt] at hv
  obtain ⟨q,len,cap,hq,h1,h2,_,h4,_,h5⟩:=hv
  have hcv:=run_convert_bytes_string (P:=P) w s d e q len cap hs hu hd
  rw [←hq] at hcv
  cases q with
  | none=>
   have:cap = 0:=h4 rfl
   have hn:ns = []:=by
    have:ns.length = 0:=by rw [List.length_map] at h1;omega
    exact List.eq_nil_of_length_eq_zero this
   subst hn
   rw [hq] at hcv
   exact ⟨.string .empty,by simp [execOp,ho,hq,hcv,Conv.bytesToString],by simp [qd.V,qt],rfl⟩
  | some q=>
   have hload:(loadCells q len).run P w = .ok (ns.map (Value.int .u8)).toArray w:=by
    have:=run_loadCells_list (P:=P) w q (ns.map (Value.int .u8)) (fun j v hj=>by
     rw [List.getElem?_map,Option.map_eq_some_iff] at hj
     obtain ⟨n,hn,rfl⟩:=hj
     rcases h5 with h5 | ⟨b,p,hb,hE⟩
     ·rw [List.map_eq_nil_iff] at h5;subst h5;simp at hn
     ·cases hb
      have hg:=hE.get (k:=1) (i:=j) (x:=.int .u8 n) (fun x hx=>by obtain ⟨m,_,rfl⟩:=List.mem_map.1 hx;rfl) (by rw [List.getElem?_map,hn];rfl)
      simp only [qa.cells,qaj,qt,Nat.mul_one] at hg
      obtain ⟨⟨u,hu1,rfl⟩,_⟩:=hg
      rw [qbE]
      exact (hr.imm b _ _ hu1 (by simp [mark])).1)
    rw [List.length_map] at this h1
    rw [h1]
    exact this
   rw [hq,run_bytesToString w q len cap ns hload] at hcv
   exact ⟨_,by simp [execOp,ho,hq,hcv];rfl,by simp only [qd.V,qt];exact ⟨_,rfl,by rw [qla];simp⟩,rfl⟩
 ·cases hp
theorem qo4 (hr:Rel P gl G h w) (ht:qaE G w t a.tmps) {o:Oper} {ty:TypeId} {x:Operand} {ax:qk} {v:qa} (ho:o.op = .makeInterface ty x) (hx:opd gl x = some ax)
  {d:TypeDesc} (hu:P.underlying ty = some d) (hd:∀ms,d ≠ .interface ms) (hp:pureV t (.mkI ty ax) = some v):qbw P G w a o v:=by
 have hv:=qQ hr ht hx
 simp only [pureV] at hp
 have hrun:(Instr.makeInterface ty (a.eval x)).run P w = .ok (.iface ty (a.eval x)) w:=by
  simp only [Instr.makeInterface,Sem.run_bind,run_underlying hu,Result.andThen_ok]
  cases d <;> first | rfl | exact absurd rfl (hd _)
 have hgoal:∀v,v = .iface ty (ev t ax)→qbw P G w a o v:=by
  rintro v rfl
  exact ⟨.iface ty (a.eval x),by simp [execOp,ho,hrun],by simp only [qd.V,qt];exact ⟨_,rfl,hv⟩,rfl⟩
 split at hp
 ·cases hp
 ·cases hp;exact hgoal _ rfl
theorem qo3 (hr:Rel P gl G h w) (ht:qaE G w t a.tmps) {o:Oper} {f:FuncId} {x y:Array Operand} {ax ay:List qk} {v:qa} (ho:o.op = .makeFunc (.func f) x y) (hx:qrV gl x = some ax) (hy:qrV gl y = some ay)
  (hp:pureV t (.mkF f ax ay) = some v):qbw P G w a o v:=by
 simp only [pureV,Option.some.injEq] at hp
 subst hp
 exact ⟨.func (.func f) (x.map a.eval) (y.map a.eval),by simp [execOp,ho,Instr.makeFunc],by simp only [qd.V,qt];exact ⟨_,_,rfl,qhY hr ht hx,qhY hr ht hy⟩,rfl⟩
theorem qtc (hr:Rel P gl G h w) (ht:qaE G w t a.tmps) {o:Oper} {s:TypeId} {x:Operand} {ax:qk} {v:qa} {i:Nat} {fs:Array Field} {f:Field} (ho:o.op = .fieldAddr s x i) (hx:opd gl x = some ax)
  (hu:P.underlying s = some (.struct fs)) (hf:fs[i]? = some f) {n:Nat} (hn:qdv P f.type = some n) (hn0:n ≠ 0) (hp:pureV t (.fa f.offset ax) = some v):qbw P G w a o v:=by
 have hv:=qQ hr ht hx
 simp only [pureV] at hp
 have hrun:∀b p,a.eval x = .pointer (some ⟨b,p,none⟩)→(Instr.fieldAt s (a.eval x) i).run P w = .ok (.pointer (some ⟨b,p + f.offset,none⟩)) w:=by
  intro b p hb
  simp [Instr.fieldAt,run_underlying hu,hf,hb,Instr.sureAddr,fieldPlace,qbc hn,hn0,qbE]
 split at hp
 ·rename_i e1;rw [e1] at hv;simp only [qd.V,qt] at hv;cases hp
  obtain ⟨b,hb,he⟩:=hv
  exact ⟨_,by simp [execOp,ho,hrun _ _ he];rfl,by simp only [qd.V,qt];exact ⟨b,hb,rfl⟩,rfl⟩
 ·rename_i e1;rw [e1] at hv;simp only [qd.V,qt] at hv;cases hp
  obtain ⟨b,p,he,hc⟩:=hv
  exact ⟨_,by simp [execOp,ho,hrun _ _ he];rfl,by simp only [qd.V,qt];exact ⟨b,p,by rw [Nat.add_assoc],hc⟩,rfl⟩
 ·cases hp
theorem qo0 (hr:Rel P gl G h w) (ht:qaE G w t a.tmps) {o:Oper} {s:TypeId} {x:Operand} {ax:qk} {v:qa} {i:Nat} {fs:Array Field} {f:Field} {k:Option Nat} (ho:o.op = .field s x i) (hx:opd gl x = some ax)
  (hu:P.underlying s = some (.struct fs)) (hf:fs[i]? = some f) (hk:tyk P f.type = some k) (hp:pureV t (.fld f.offset k ax) = some v):qbw P G w a o v:=by
 have hv:=qQ hr ht hx
 simp only [pureV] at hp
 split at hp
 ·rename_i e1;rw [e1] at hv;simp only [qd.V,qt] at hv
  obtain ⟨c,he,hc⟩:=hv
  obtain ⟨u,h1,h2,h3⟩:=qk9 hk hc hp w
  exact ⟨u,by simp [execOp,ho,he,Instr.field,run_underlying hu,hf,asAgg,h1],h2,h3⟩
 ·cases hp
theorem qoZ (hr:Rel P gl G h w) (ht:qaE G w t a.tmps) {o:Oper} {x:Operand} {ax:qk} {v:qa} {i:Nat} (ho:o.op = .extract x i) (hx:opd gl x = some ax)
  (hp:pureV t (.ext ax i) = some v):qbw P G w a o v:=by
 have hv:=qQ hr ht hx
 simp only [pureV] at hp
 split at hp
 ·rename_i e1;rw [e1] at hv;simp only [qd.V,qt] at hv
  obtain ⟨c,he,hc⟩:=hv
  obtain ⟨y,hy,rfl⟩:=qbT hp
  obtain ⟨u,hu,h1⟩:=hc.get hy
  simp only [Array.getElem?_toList] at hu
  exact ⟨u,by simp [execOp,ho,he,Instr.extract,hu],qcT h1,qbx _⟩
 ·cases hp
end
end Go.AE
namespace Go.AE
section
variable {P:Program} {gl:Nat→Option (List qa)} {G:qd} {w:World} {h:List qf} {t:List qa} {a:Act}
theorem qgh (s:ByteArray) (l m:Nat):(s.extract l m).data.toList = (s.data.toList.drop l).take (m - l):=by
 simp [ByteArray.data_extract,Array.toList_extract,List.extract_eq_take_drop]
theorem ql2 (hr:Rel P gl G h w) (ht:qaE G w t a.tmps) {o:Oper} {ty:TypeId} {x:Operand} {lo hi:Option Operand} {ax:qk} {alo ahi:Option qk} {v:qa} (ho:o.op = .slice ty x lo hi none) (hx:opd gl x = some ax)
  (hlo:qcK gl lo = some alo) (hhi:qcK gl hi = some ahi) (hu:P.underlying ty = some .string) (hp:pureV t (.subS ax alo ahi) = some v):qbw P G w a o v:=by
 have hv:=qQ hr ht hx
 simp only [pureV] at hp
 split at hp
 rotate_left
 ·cases hp
 rename_i s hs
 rw [hs] at hv
 simp only [qd.V,qt] at hv
 obtain ⟨b,he,hb⟩:=hv
 have hsz:b.size = s.length:=by rw [←hb];rfl
 split at hp
 ·rename_i m hm
  split at hp
  ·rename_i l hl
   split at hp
   ·rename_i hlm
    cases hp
    have hbr:=qfb hr ht hlo hhi (len:=b.size) (cap:=b.size) (w:=w) hl (by rw [hsz];exact hm) hlm.1 (by omega) false
    refine ⟨.string (b.extract l m),?_,?_,rfl⟩
    ·simp [execOp,ho,he,Instr.sliceAt,Instr.slice,run_underlying hu,hbr]
    ·simp only [qd.V,qt];exact ⟨_,rfl,by rw [qgh,hb]⟩
   ·cases hp
  ·cases hp
 ·cases hp
theorem ql1 (hr:Rel P gl G h w) (ht:qaE G w t a.tmps) {o:Oper} {ty e:TypeId} {x:Operand} {lo hi:Option Operand} {ax:qk} {alo ahi:Option qk} {v:qa} {k:Nat} (ho:o.op = .slice ty x lo hi none) (hx:opd gl x = some ax)
  (hlo:qcK gl lo = some alo) (hhi:qcK gl hi = some ahi) (hu:P.underlying ty = some (.slice e)) (hk:qdv P e = some k) (hp:pureV t (.subL k ax alo ahi) = some v):qbw P G w a o v:=by
 have hv:=qQ hr ht hx
 simp only [pureV] at hp
 split at hp
 rotate_left
 ·rename_i id p0 len cap more hs
  rw [hs] at hv
  simp only [qd.V,qt] at hv
  obtain ⟨b,c,hb,he,h1,h2,h3,h4⟩:=hv
  split at hp
  ·rename_i m hm
   split at hp
   ·rename_i l hl
    split at hp
    ·rename_i hlm
     have hbr:=qfb hr ht hlo hhi (len:=len) (cap:=c) (w:=w) hl hm hlm.1 (by omega) true
     have hrun:(execOp a.eval o).run P w = .ok (.value (.slice (if c = l then some ⟨b,p0,none⟩ else (some (⟨b,p0,none⟩ :Addr)).map (·.add (l * k))) (m - l) (c - l))) w:=by
      simp [execOp,ho,he,Instr.sliceAt,Instr.slice,run_underlying hu,hbr,qbc hk]
     split at hp
     ·rename_i hcl
      split at hp
      ·rename_i hm0
       cases hp
       have hcc:=h3 hm0
       refine ⟨_,hrun,?_,rfl⟩
       simp only [qd.V,qt]
       exact ⟨_,_,_,rfl,by simp;omega,by omega,fun _=>by omega,fun _=>by omega,⟨0,by simp⟩,.inl trivial⟩
      ·cases hp
     ·rename_i hcl
      split at hp
      ·rename_i hmk
       cases hp
       refine ⟨_,hrun,?_,rfl⟩
       rw [if_neg (by omega)]
       simp only [qd.V,qt,Option.map_some,qbE]
       refine ⟨b,c - l,hb,rfl,by omega,by omega,fun hm0=>by have:=h3 hm0;omega,fun hm0=>?_⟩
       have hmk:more = k:=by
        rcases hmk with hmk | hmk
        ·exact absurd hmk hm0
        ·exact hmk
       have h5:=h4 hm0
       rw [hmk] at h5 ⊢
       have e5:p0 + l * k + (c - l) * k = p0 + c * k:=by
        rw [Nat.add_assoc,←Nat.add_mul]
        congr 2;omega
       rw [e5]
       exact h5
      ·cases hp
    ·cases hp
   ·cases hp
  ·cases hp
 ·cases hp
 rename_i xs f hs
 have hdim:(qa.lst xs f).dim = .lst xs f:=by rw [←hs];exact qix t ax
 rw [hs] at hv
 simp only [qd.V,qt] at hv
 obtain ⟨b,len,cap,he,h1,h2,h3,h4,⟨k',h6⟩,h5⟩:=hv
 split at hp
 ·rename_i m hm
  split at hp
  ·rename_i l hl
   split at hp
   ·rename_i hlm
    split at hp
    ·rename_i hkk
     cases hp
     have hbr:=qfb hr ht hlo hhi (len:=len) (cap:=cap) (w:=w) hl (by rw [h1];exact hm) hlm.1 (by omega) true
     refine ⟨.slice (if cap = l then b else b.map (·.add (l * k))) (m - l) (cap - l),?_,?_,?_⟩
     ·simp [execOp,ho,he,Instr.sliceAt,Instr.slice,run_underlying hu,hbr,qbc hk]
     ·simp only [qd.V,qt]
      refine ⟨_,_,_,rfl,by simp;omega,by omega,?_,?_,⟨k',fun x hx=>h6 x (List.mem_of_mem_drop (List.mem_of_mem_take hx))⟩,?_⟩
      ·intro hf
       split at hf
       ·rename_i hmx;have:=h3 hf;omega
       ·cases hf
      ·intro hb0
       split at hb0
       ·have:=h4 hb0;omega
       ·rw [Option.map_eq_none_iff] at hb0;have:=h4 hb0;omega
      ·rcases h5 with rfl | ⟨p,q,rfl,hE⟩
       ·left;simp
       ·by_cases hc:cap = l
        ·left
         have:m - l = 0:=by omega
         simp [this]
        ·right
         rw [if_neg hc]
         refine ⟨p,q + l * k,by simp [qbE],?_⟩
         by_cases hx0:xs = []
         ·subst hx0;simp [qL]
         ·have hkk':k' = k:=by
           obtain ⟨y,ys,rfl⟩:=List.exists_cons_of_ne_nil hx0
           have e1:=h6 y (by simp)
           simp at hkk
           omega
          subst hkk'
          exact qL.take (qL.drop h6 hE l (by omega)) _
     ·cases f <;> first | (simp [qa.dim] at hdim;done) | (split <;> rfl)
    ·cases hp
   ·cases hp
  ·cases hp
 ·cases hp
theorem qlU (hr:Rel P gl G h w) (ht:qaE G w t a.tmps) {o:Oper} {ty e:TypeId} {x i:Operand} {ax ai:qk} {v:qa} {k:Nat} (ho:o.op = .indexAddr ty x i) (hx:opd gl x = some ax) (hi:opd gl i = some ai)
  (hu:P.underlying ty = some (.slice e)) (hk:qdv P e = some k) (hp:pureV t (.ixaL k ax ai) = some v):qbw P G w a o v:=by
 have hv:=qQ hr ht hx
 have hn:=qQ hr ht hi
 simp only [pureV] at hp
 split at hp
 ·rename_i xs f kk n e1 e2
  rw [e1] at hv;rw [e2] at hn
  simp only [qd.V,qt] at hv hn
  obtain ⟨b,len,cap,he,h1,h2,h3,h4,⟨k',h6⟩,h5⟩:=hv
  split at hp
  ·rename_i hb
   split at hp
   ·rename_i y hy
    split at hp
    ·rename_i hyk
     cases hp
     rcases h5 with rfl | ⟨p,q,rfl,hE⟩
     ·simp at hy
     ·have hk':k' = k:=by rw [←h6 y (List.mem_of_getElem? hy)];exact hyk
      subst hk'
      have hc:=qL.get h6 hE hy
      refine ⟨.pointer (some ⟨p,q + n.toNat * k',none⟩),?_,?_,rfl⟩
      ·have hb':0 ≤ n∧n < (len:Int):=⟨hb.1,by omega⟩
       simp [execOp,ho,he,hn,Instr.indexAt,asIntOf,run_underlying hu,hb',qbc hk,qbE]
      ·simp only [qd.V,qt];exact ⟨p,_,rfl,hc⟩
    ·cases hp
   ·cases hp
  ·cases hp
 ·rename_i id p0 len cap more kk n e1 e2
  rw [e1] at hv;rw [e2] at hn
  simp only [qd.V,qt] at hv hn
  obtain ⟨b,c,hb,he,_⟩:=hv
  split at hp
  ·rename_i hb'
   cases hp
   refine ⟨.pointer (some ⟨b,p0 + n.toNat * k,none⟩),?_,?_,rfl⟩
   ·simp [execOp,ho,he,hn,Instr.indexAt,asIntOf,run_underlying hu,hb',qbc hk,qbE]
   ·simp only [qd.V,qt];exact ⟨b,hb,rfl⟩
  ·cases hp
 ·cases hp
theorem qlT (hr:Rel P gl G h w) (ht:qaE G w t a.tmps) {o:Oper} {ty e:TypeId} {x i:Operand} {ax ai:qk} {v:qa} {k len:Nat} (ho:o.op = .indexAddr ty x i) (hx:opd gl x = some ax) (hi:opd gl i = some ai)
  (hu:P.underlying ty = some (.array len e)) (hk:qdv P e = some k) (hp:pureV t (.ixaA len k ax ai) = some v):qbw P G w a o v:=by
 have hv:=qQ hr ht hx
 have hn:=qQ hr ht hi
 simp only [pureV] at hp
 have hrun:∀b p kk n,a.eval x = .pointer (some ⟨b,p,none⟩)→a.eval i = .int kk n→0 ≤ n∧n < (len:Int)→(Instr.indexAt ty (a.eval x) (a.eval i)).run P w = .ok (.pointer (some ⟨b,p + n.toNat * k,none⟩)) w:=by
  intro b p kk n h1 h2 h3
  simp [h1,h2,Instr.indexAt,asIntOf,run_underlying hu,Instr.sureAddr,h3,qbc hk,qbE]
 split at hp
 ·rename_i e1 e2;rw [e1] at hv;rw [e2] at hn;simp only [qd.V,qt] at hv hn
  obtain ⟨b,hb,he⟩:=hv
  split at hp
  ·rename_i hb'
   cases hp
   exact ⟨_,by simp only [execOp,ho];exact qdo (hrun _ _ _ _ he hn hb'),by simp only [qd.V,qt];exact ⟨b,hb,rfl⟩,rfl⟩
  ·cases hp
 ·rename_i e1 e2;rw [e1] at hv;rw [e2] at hn;simp only [qd.V,qt] at hv hn
  obtain ⟨b,p,he,hc⟩:=hv
  split at hp
  ·rename_i hb'
   cases hp
   exact ⟨_,by simp only [execOp,ho];exact qdo (hrun _ _ _ _ he hn hb'),by simp only [qd.V,qt];exact ⟨b,p,by rw [Nat.add_assoc],hc⟩,rfl⟩
  ·cases hp
 ·cases hp
theorem qo2 (hr:Rel P gl G h w) (ht:qaE G w t a.tmps) {o:Oper} {ty:TypeId} {x i:Operand} {ax ai:qk} {v:qa} (ho:o.op = .index ty x i) (hx:opd gl x = some ax) (hi:opd gl i = some ai)
  (hu:P.underlying ty = some .string) (hp:pureV t (.ixS ax ai) = some v):qbw P G w a o v:=by
 have hv:=qQ hr ht hx
 have hn:=qQ hr ht hi
 simp only [pureV] at hp
 split at hp
 ·rename_i e1 e2
  rw [e1] at hv;rw [e2] at hn
  simp only [qd.V,qt] at hv hn
  obtain ⟨b,he,hb⟩:=hv
  split at hp
  ·rename_i h0
   obtain ⟨c,hc,rfl⟩:=qbT hp
   rename_i n
   have hc':b[n.toNat]? = some c:=by
    rw [←hb] at hc
    simp only [Array.getElem?_toList] at hc
    obtain ⟨h1,h2⟩:=Array.getElem?_eq_some_iff.1 hc
    have:n.toNat < b.size:=h1
    rw [getElem?_pos b n.toNat this]
    exact congrArg some h2
   exact ⟨_,by simp [execOp,ho,he,hn,Instr.index,asIntOf,run_underlying hu,h0,hc'];rfl,by simp [qd.V,qt],rfl⟩
  ·cases hp
 ·cases hp
theorem qo1 (hr:Rel P gl G h w) (ht:qaE G w t a.tmps) {o:Oper} {ty e:TypeId} {x i:Operand} {ax ai:qk} {v:qa} {k:Option Nat} {len:Nat} (ho:o.op = .index ty x i) (hx:opd gl x = some ax) (hi:opd gl i = some ai)
  (hu:P.underlying ty = some (.array len e)) (hk:tyk P e = some k) {n:Nat} (hn1:qdv P e = some n) (hn2:n = k.getD 1) (hp:pureV t (.ixA len k ax ai) = some v):qbw P G w a o v:=by
 have hv:=qQ hr ht hx
 have hn:=qQ hr ht hi
 simp only [pureV] at hp
 split at hp
 ·rename_i e1 e2
  rw [e1] at hv;rw [e2] at hn
  simp only [qd.V,qt] at hv hn
  obtain ⟨c,he,hc⟩:=hv
  split at hp
  ·rename_i m hb
   obtain ⟨u,h1,h2,h3⟩:=qk9 hk hc hp w
   rw [←hn2] at h1
   exact ⟨u,by simp [execOp,ho,he,hn,Instr.index,asIntOf,run_underlying hu,hb,qbc hn1,h1],h2,h3⟩
  ·cases hp
 ·cases hp
theorem qlX (hr:Rel P gl G h w) (ht:qaE G w t a.tmps) {o:Oper} {c:Go.Call} {x:Operand} {ty:TypeId} {ax:qk} {v:qa} (ho:o.op = .call c) (hc:c.callee = .builtin .len) (hargs:c.args.toList = [x]) (hty:c.argTypes.toList = [ty]) (hx:opd gl x = some ax)
  (hu:P.underlying ty = some .string) (hp:pureV t (.len true ax) = some v):qbw P G w a o v:=by
 have hv:=qQ hr ht hx
 have ea:c.args = #[x]:=by rw [←Array.toArray_toList (xs:=c.args),hargs]
 have et:c.argTypes = #[ty]:=by rw [←Array.toArray_toList (xs:=c.argTypes),hty]
 simp only [pureV] at hp
 split at hp
 ·rename_i hs
  rw [hs] at hv
  simp only [qd.V,qt] at hv
  obtain ⟨b,he,hb⟩:=hv
  cases hp
  rename_i s
  have hsz:b.size = s.length:=by rw [←hb];rfl
  exact ⟨_,by simp [execOp,ho,hc,ea,et,resolve,invoke,builtin,Builtin.len_,run_underlying hu,he];rfl,by simp [qd.V,qt,goInt,hsz],rfl⟩
 ·cases hp
theorem qlW (hr:Rel P gl G h w) (ht:qaE G w t a.tmps) {o:Oper} {c:Go.Call} {x:Operand} {ty e:TypeId} {ax:qk} {v:qa} (ho:o.op = .call c) (hc:c.callee = .builtin .len) (hargs:c.args.toList = [x]) (hty:c.argTypes.toList = [ty]) (hx:opd gl x = some ax)
  (hu:P.underlying ty = some (.slice e)) (hp:pureV t (.len false ax) = some v):qbw P G w a o v:=by
 have hv:=qQ hr ht hx
 have ea:c.args = #[x]:=by rw [←Array.toArray_toList (xs:=c.args),hargs]
 have et:c.argTypes = #[ty]:=by rw [←Array.toArray_toList (xs:=c.argTypes),hty]
 simp only [pureV] at hp
 split at hp
 ·rename_i hs
  rw [hs] at hv
  simp only [qd.V,qt] at hv
  obtain ⟨b,len,cap,he,h1,_⟩:=hv
  cases hp
  exact ⟨_,by simp [execOp,ho,hc,ea,et,resolve,invoke,builtin,Builtin.len_,run_underlying hu,he];rfl,by simp [qd.V,qt,goInt,h1],rfl⟩
 ·rename_i hs
  rw [hs] at hv
  simp only [qd.V,qt] at hv
  obtain ⟨b,cap,hb,he,_⟩:=hv
  cases hp
  exact ⟨_,by simp [execOp,ho,hc,ea,et,resolve,invoke,builtin,Builtin.len_,run_underlying hu,he];rfl,by simp [qd.V,qt,goInt],rfl⟩
 ·rename_i hs
  rw [hs] at hv
  simp only [qd.V,qt] at hv
  cases hp
  exact ⟨_,by simp [execOp,ho,hc,ea,et,resolve,invoke,builtin,Builtin.len_,run_underlying hu,hv];rfl,by simp [qd.V,qt,goInt],rfl⟩
 ·rename_i hs
  rw [hs] at hv
  simp only [qd.V,qt] at hv
  obtain ⟨b,hv⟩:=hv
  cases hp
  exact ⟨_,by simp [execOp,ho,hc,ea,et,resolve,invoke,builtin,Builtin.len_,run_underlying hu,hv];rfl,by simp [qd.V,qt,goInt],rfl⟩
 ·cases hp
theorem qkV (hr:Rel P gl G h w) (ht:qaE G w t a.tmps) {o:Oper} {c:Go.Call} {x y:Operand} {ax ay:qk} {v:qa} {isMax:Bool} (ho:o.op = .call c) (hc:c.callee = .builtin (if isMax then .max else .min)) (hargs:c.args.toList = [x,y]) (hx:opd gl x = some ax) (hy:opd gl y = some ay)
  (hp:pureV t (.mm isMax ax ay) = some v):qbw P G w a o v:=by
 have hv:=qQ hr ht hx
 have hn:=qQ hr ht hy
 have ea:c.args = #[x,y]:=by rw [←Array.toArray_toList (xs:=c.args),hargs]
 simp only [pureV] at hp
 split at hp
 ·rename_i k p j q e1 e2
  rw [e1] at hv;rw [e2] at hn
  simp only [qd.V,qt] at hv hn
  cases hp
  cases isMax
  ·exact ⟨_,by simp [execOp,ho,hc,ea,resolve,invoke,builtin,Builtin.min_,Builtin.min2,hv,hn];rfl,by simp [qd.V,qt],rfl⟩
  ·exact ⟨_,by simp [execOp,ho,hc,ea,resolve,invoke,builtin,Builtin.max_,Builtin.max2,hv,hn];rfl,by simp [qd.V,qt],rfl⟩
 ·cases hp
theorem qlV {o:Oper} {c:Go.Call} {x:Operand} {ty e:TypeId} {n:Nat} (ho:o.op = .call c) (hc:c.callee = .builtin .len) (hargs:c.args.toList = [x]) (hty:c.argTypes.toList = [ty])
  (hu:P.underlying ty = some (.array n e)):qbw P G w a o (.int .i64 n):=by
 have ea:c.args = #[x]:=by rw [←Array.toArray_toList (xs:=c.args),hargs]
 have et:c.argTypes = #[ty]:=by rw [←Array.toArray_toList (xs:=c.argTypes),hty]
 exact ⟨_,by simp [execOp,ho,hc,ea,et,resolve,invoke,builtin,Builtin.len_,run_underlying hu];rfl,by simp [qd.V,qt,goInt],rfl⟩
theorem quO {ty:TypeId} {z:qa} (hz:qbv P ty = some z) (w:World):∃u,(zeroValue ty).run P w = .ok u w∧(∀γ imm,qt γ imm z u)∧z.lower 0 = true:=by
 unfold qbv at hz
 split at hz
 ·rename_i i hi
  obtain ⟨u,hu,hc⟩:=qv (by simpa [Option.bind_eq_bind] using hz)
  exact ⟨u,by simp [zeroValue,typeInfo,hi,hu],fun γ imm=>(qf9 hc).1,(qf9 (γ:=fun _=>none) (imm:=fun _ _=>none) hc).2⟩
 ·cases hz
theorem qnW {v:Value} {z:qa} (h:qfw v = some z):z.dim = z:=by
 unfold qfw at h
 split at h
 ·obtain ⟨_,_,rfl⟩:=qbT h;rfl
 ·split at h
  ·cases h;rfl
  ·cases h
 ·unfold qcW at h
  split at h <;> first | (cases h;rfl) | (split at h <;> cases h;rfl) | cases h
theorem qo6 (hr:Rel P gl G h w) (ht:qaE G w t a.tmps) {o:Oper} {ty xt:TypeId} {x:Operand} {ax:qk} {v z:qa} (ho:o.op = .typeAssert x xt ty true) (hx:opd gl x = some ax)
  {d:TypeDesc} (hu:P.underlying ty = some d) (hd:∀ms,d ≠ .interface ms) (hz:qbv P ty = some z) (hp:pureV t (.tas ty z ax) = some v):qbw P G w a o v:=by
 have hv:=qQ hr ht hx
 obtain ⟨u,hzu,hzr,_⟩:=quO hz w
 simp only [pureV] at hp
 have hfail:qt G.γ G.imm (.tup [z,.bool false]) (.tuple #[u,.bool false]):=by
  simp only [qt,qh]
  exact ⟨_,rfl,u,[.bool false],rfl,hzr _ _,_,[],rfl,rfl,rfl⟩
 split at hp
 ·rename_i e1;rw [e1] at hv;simp only [qd.V,qt] at hv;cases hp
  refine ⟨.tuple #[u,.bool false],?_,hfail,rfl⟩
  simp only [execOp,ho]
  refine qdo ?_
  simp only [Instr.typeAssert,Sem.run_bind,run_underlying hu,Result.andThen_ok,hv]
  cases d <;> first | (simp [hzu];done) | exact absurd rfl (hd _)
 ·rename_i q y e1;rw [e1] at hv;simp only [qd.V,qt] at hv
  obtain ⟨y',hy,hry⟩:=hv
  split at hp
  ·rename_i hq
   cases hp
   refine ⟨.tuple #[y',.bool true],?_,?_,rfl⟩
   ·simp only [execOp,ho]
    refine qdo ?_
    simp only [Instr.typeAssert,Sem.run_bind,run_underlying hu,Result.andThen_ok,hy]
    cases d <;> first | (simp [hq];done) | exact absurd rfl (hd _)
   ·simp only [qd.V,qt,qh]
    exact ⟨_,rfl,y',[.bool true],rfl,hry,_,[],rfl,rfl,rfl⟩
  ·rename_i hq
   cases hp
   refine ⟨.tuple #[u,.bool false],?_,hfail,rfl⟩
   simp only [execOp,ho]
   refine qdo ?_
   simp only [Instr.typeAssert,Sem.run_bind,run_underlying hu,Result.andThen_ok,hy]
   cases d <;> first | (simp [hq,hzu];done) | exact absurd rfl (hd _)
 ·cases hp
end
end Go.AE
namespace Go.AE
theorem qhk (off:Nat):∀(vs:List Value) (i:Nat) (cells:Array Value),off + i + vs.length ≤ cells.size→
  ((vs.zipIdx i).foldl (fun cs (c,j)=>cs.setIfInBounds (off + j) c) cells).toList = cells.toList.take (off + i) ++ vs ++ cells.toList.drop (off + i + vs.length)
 | [],i,cells,_=>by simp
 | v :: vs,i,cells,hl=>by
  have hi:off + i < cells.size:=by simp at hl;omega
  simp only [List.zipIdx_cons,List.foldl_cons]
  rw [qhk off vs (i + 1) _ (by simp at hl ⊢;omega)]
  simp only [Array.toList_setIfInBounds,List.length_cons]
  have e1:(cells.toList.set (off + i) v).take (off + (i + 1)) = cells.toList.take (off + i) ++ [v]:=by
   rw [←Nat.add_assoc,List.take_add_one]
   rw [List.take_set,List.set_eq_of_length_le (by simp;omega)]
   rw [List.getElem?_set_self (by simpa using hi)]
   rfl
  have e2:(cells.toList.set (off + i) v).drop (off + (i + 1) + vs.length) = cells.toList.drop (off + i + (vs.length + 1)):=by
   rw [List.drop_set_of_lt (by omega)]
   congr 1
   omega
  rw [e1,e2]
  simp
theorem qoI (off:Nat) (v:Value) (cells:Array Value) (h:off + v.cells.size ≤ cells.size) :
  (v.cells.zipIdx.foldl (fun cs (c,j)=>cs.setIfInBounds (off + j) c) cells).toList = cells.toList.take off ++ v.cells.toList ++ cells.toList.drop (off + v.cells.size):=by
 have:=qhk off v.cells.toList 0 cells (by simpa using h)
 rw [←Array.foldl_toList,Array.toList_zipIdx]
 simpa using this
section
variable {γ:Nat→Option Nat} {imm:Nat→Nat→Option Value}
theorem qh.splice {cs:List qa} {c:List Value} {o:Nat} {xs:List qa} {vs:List Value} (h:qh γ imm cs c) (hx:qh γ imm xs vs):qh γ imm (splice cs o xs) (c.take o ++ vs ++ c.drop (o + vs.length)):=by
 unfold AE.splice
 rw [hx.length]
 exact ((h.take o).append hx).append (h.drop _)
theorem qeG (place:Nat→Option (Nat×Nat)):∀(parts:List (Nat×Value)) (aparts:List (Nat×Nat×qa)) (cs:List qa) (c:Array Value) (cs':List qa),
  qh γ imm cs c.toList→(parts.length = aparts.length)→
  (∀(n:Nat) (i:Nat) (v:Value) (off size:Nat) (x:qa),parts[n]? = some (i,v)→aparts[n]? = some (off,size,x)→place i = some (off,size)∧qt γ imm x v)→
  qI cs aparts = some cs'→∃c':Array Value,Instr.fill place c parts = some c'∧qh γ imm cs' c'.toList
 | [],[],cs,c,cs',h,_,_,hf=>by simp only [qI,Option.some.injEq] at hf;subst hf;exact ⟨c,rfl,h⟩
 | [],_ :: _,_,_,_,_,hl,_,_=>by simp at hl
 | _ :: _,[],_,_,_,_,hl,_,_=>by simp at hl
 | (i,v) :: parts,(off,size,x) :: aparts,cs,c,cs',h,hl,hp,hf=>by
  obtain ⟨hpl,hr⟩:=hp 0 i v off size x rfl rfl
  simp only [qI] at hf
  split at hf
  ·rename_i hh
   obtain ⟨h1,h2,h3⟩:=hh
   obtain ⟨k1,_⟩:=qbO hr h3
   have hs:v.cells.size = size:=by have:=k1.length;simp at this;omega
   have hcl:cs.length = c.size:=by simpa using h.length
   have hstep:=qoI off v c (by rw [hs];omega)
   have hsp:qh γ imm (splice cs off x.cells) (v.cells.zipIdx.foldl (fun cs (c,j)=>cs.setIfInBounds (off + j) c) c).toList:=by
    rw [hstep]
    have:=qh.splice (o:=off) h k1
    simpa using this
   obtain ⟨c',e1,e2⟩:=qeG place parts aparts _ _ cs' hsp (by simpa using hl) (fun n i v off size x a b=>hp (n + 1) i v off size x (by simpa using a) (by simpa using b)) hf
   refine ⟨c',?_,e2⟩
   simp only [Instr.fill,hpl]
   rw [if_neg (by rw [hs,←hcl];simp;omega)]
   exact e1
  ·cases hf
end
section
variable {P:Program} {gl:Nat→Option (List qa)} {G:qd} {w:World} {h:List qf} {t:List qa} {a:Act}
theorem qk6 {α β:Type} (f:α→Sem β) (g:α→β):∀(xs:List α),(∀x ∈ xs,(f x).run P w = .ok (g x) w)→(xs.mapM f).run P w = .ok (xs.map g) w
 | [],_=>by simp
 | x :: xs,hh=>by
  simp only [List.mapM_cons,Sem.run_bind,hh x (by simp),Result.andThen_ok,qk6 f g xs (fun y hy=>hh y (by simp [hy])),Sem.run_pure,List.map_cons]
theorem qmL {fs:Array Field} (hall:(fs.all fun f=>(qdv P f.type).isSome) = true) :
  (fs.mapM (fun f=>do pure (f.offset,←sizeOf f.type):Field→Sem (Nat×Nat))).run P w = .ok (fs.map fun f=>(f.offset,(qdv P f.type).getD 0)) w:=by
 rw [Array.mapM_eq_mapM_toList]
 simp only [Sem.run_map]
 rw [qk6 (P:=P) (w:=w) _ (fun f=>(f.offset,(qdv P f.type).getD 0)) fs.toList (fun f hf=>by
  have:(qdv P f.type).isSome = true:=by
   rw [Array.all_eq_true'] at hall
   exact hall f (by simpa using hf)
  obtain ⟨n,hn⟩:=Option.isSome_iff_exists.1 this
  simp [qbc hn,hn])]
 simp only [Result.andThen_ok]
 congr 1
 exact Array.ext' (by simp)
theorem qgE (hr:Rel P gl G h w) (ht:qaE G w t a.tmps) {fs:Array Field}:∀{ps:List (Nat×Operand)} {aps:List (Nat×Nat×qk)},qhj P gl fs ps = some aps→ps.length = aps.length∧
  ∀(n i:Nat) (x:Operand) (off size:Nat) (ax:qk),ps[n]? = some (i,x)→aps[n]? = some (off,size,ax)→(fs.map fun f=>(f.offset,(qdv P f.type).getD 0))[i]? = some (off,size)∧G.V (ev t ax) (a.eval x)
 | [],aps,hp=>by simp only [qhj,Option.some.injEq] at hp;subst hp;simp
 | (i,x) :: ps,aps,hp=>by
  simp only [qhj] at hp
  split at hp
  ·rename_i f ax r hf hx hrr
   split at hp
   ·rename_i s hs
    cases hp
    obtain ⟨h1,h2⟩:=qgE hr ht hrr
    refine ⟨by simp [h1],fun n j y off size ay hn hn'=>?_⟩
    cases n with
    | zero=>
     simp only [List.getElem?_cons_zero,Option.some.injEq,Prod.mk.injEq] at hn hn'
     obtain ⟨rfl,rfl⟩:=hn
     obtain ⟨rfl,rfl,rfl⟩:=hn'
     exact ⟨by simp [hf,hs],qQ hr ht hx⟩
    | succ n=>exact h2 n j y off size ay (by simpa using hn) (by simpa using hn')
   ·cases hp
  ·cases hp
theorem qgD (hr:Rel P gl G h w) (ht:qaE G w t a.tmps) {k:Nat}:∀{ps:List (Nat×Operand)} {aps:List (Nat×Nat×qk)},qhi gl k ps = some aps→ps.length = aps.length∧
  ∀(n i:Nat) (x:Operand) (off size:Nat) (ax:qk),ps[n]? = some (i,x)→aps[n]? = some (off,size,ax)→(off,size) = (i * k,k)∧G.V (ev t ax) (a.eval x)
 | [],aps,hp=>by simp only [qhi,Option.some.injEq] at hp;subst hp;simp
 | (i,x) :: ps,aps,hp=>by
  simp only [qhi] at hp
  split at hp
  ·rename_i ax r hx hrr
   cases hp
   obtain ⟨h1,h2⟩:=qgD hr ht hrr
   refine ⟨by simp [h1],fun n j y off size ay hn hn'=>?_⟩
   cases n with
   | zero=>
    simp only [List.getElem?_cons_zero,Option.some.injEq,Prod.mk.injEq] at hn hn'
    obtain ⟨rfl,rfl⟩:=hn
    obtain ⟨rfl,rfl,rfl⟩:=hn'
    exact ⟨rfl,qQ hr ht hx⟩
   | succ n=>exact h2 n j y off size ay (by simpa using hn) (by simpa using hn')
  ·cases hp
theorem qes (hr:Rel P gl G h w) (ht:qaE G w t a.tmps) (k:Nat):∀{ps:List (Nat×Operand)} {aps:List (Nat×qk)},qfI gl ps = some aps→ps.length = aps.length∧
  ∀(n i:Nat) (x:Operand) (j:Nat) (ax:qk),ps[n]? = some (i,x)→aps[n]? = some (j,ax)→i = j∧G.V (ev t ax) (a.eval x)
 | [],aps,hp=>by simp only [qfI,Option.some.injEq] at hp;subst hp;simp
 | (i,x) :: ps,aps,hp=>by
  simp only [qfI] at hp
  split at hp
  ·rename_i ax r hx hrr
   cases hp
   obtain ⟨h1,h2⟩:=qes hr ht k hrr
   refine ⟨by simp [h1],fun n i' y j ay hn hn'=>?_⟩
   cases n with
   | zero=>
    simp only [List.getElem?_cons_zero,Option.some.injEq,Prod.mk.injEq] at hn hn'
    obtain ⟨rfl,rfl⟩:=hn
    obtain ⟨rfl,rfl⟩:=hn'
    exact ⟨rfl,qQ hr ht hx⟩
   | succ n=>exact h2 n i' y j ay (by simpa using hn) (by simpa using hn')
  ·cases hp
theorem qfq {γ:Nat→Option Nat} {imm:Nat→Nat→Option Value} {v:Value} {z:qa} (hz:qfw v = some z):qh γ imm z.cells v.cells.toList:=by
 unfold qfw at hz
 split at hz
 ·obtain ⟨xs,hx,rfl⟩:=qbT hz
  exact (qhS hx).1
 ·split at hz
  ·rename_i hh;simp only [Array.isEmpty_iff] at hh;subst hh;cases hz
   simp only [qa.cells,Value.cells,qh]
   exact ⟨_,[],rfl,by simp only [qt];exact ⟨#[],rfl,by simp [qh]⟩,rfl⟩
  ·cases hz
 ·have h1:=qfm (γ:=γ) (imm:=imm) hz
  have e1:z.cells = [z]:=by
   unfold qcW at hz
   split at hz <;> first | (cases hz;rfl) | (split at hz <;> cases hz;rfl) | cases hz
  have e2:v.cells = #[v]:=by
   unfold qcW at hz
   split at hz <;> first | rfl | (cases hz)
  rw [e1,e2]
  simp only [qh]
  exact ⟨v,[],rfl,h1,rfl⟩
theorem qc6 {ty:TypeId} {z:qa} (hz:qbv P ty = some z) (w:World):∃u,(zeroValue ty).run P w = .ok u w∧(∀γ imm,qh γ imm z.cells u.cells.toList):=by
 unfold qbv at hz
 split at hz
 ·rename_i i hi
  obtain ⟨u,hu,hc⟩:=qv (by simpa [Option.bind_eq_bind] using hz)
  exact ⟨u,by simp [zeroValue,typeInfo,hi,hu],fun γ imm=>qfq hc⟩
 ·cases hz
theorem qiD (hr:Rel P gl G h w) (ht:qaE G w t a.tmps) {o:Oper} {ty:TypeId} {ps:Array (Nat×Operand)} {aps:List (Nat×Nat×qk)} {v z:qa} {fs:Array Field} (ho:o.op = .build ty ps)
  (hu:P.underlying ty = some (.struct fs)) (hall:(fs.all fun f=>(qdv P f.type).isSome) = true) (hz:qbv P ty = some z) (hps:qhj P gl fs ps.toList = some aps)
  (hp:pureV t (.build z.cells aps) = some v):qbw P G w a o v:=by
 obtain ⟨u,hzu,hzr⟩:=qc6 hz w
 simp only [pureV] at hp
 obtain ⟨cs,hcs,rfl⟩:=qbT hp
 obtain ⟨h1,h2⟩:=qgE hr ht hps
 obtain ⟨c',e1,e2⟩:=qeG (γ:=G.γ) (imm:=G.imm) (fun i=>(fs.map fun f=>(f.offset,(qdv P f.type).getD 0))[i]?) (ps.toList.map fun (i,x)=>(i,a.eval x)) (aps.map fun (o,s,x)=>(o,s,ev t x)) z.cells u.cells cs (hzr _ _) (by simpa using h1)
  (fun n i v off size x hn hn'=>by
   simp only [List.getElem?_map,Option.map_eq_some_iff] at hn hn'
   obtain ⟨⟨i',x'⟩,hn1,hn2⟩:=hn
   obtain ⟨⟨off',size',ax'⟩,hn3,hn4⟩:=hn'
   simp only [Prod.mk.injEq] at hn2 hn4
   obtain ⟨rfl,rfl⟩:=hn2
   obtain ⟨rfl,rfl,rfl⟩:=hn4
   exact h2 n _ _ _ _ _ hn1 hn3) hcs
 refine ⟨.agg c',?_,by simp only [qd.V,qt];exact ⟨c',rfl,e2⟩,rfl⟩
 simp only [execOp,ho]
 refine qdo ?_
 simp only [Instr.build,Sem.run_bind,hzu,Result.andThen_ok,run_underlying hu,qmL hall]
 have:(ps.map fun (i,x)=>(i,a.eval x)).toList = ps.toList.map fun (i,x)=>(i,a.eval x):=by simp
 rw [this,e1]
 rfl
theorem qiC (hr:Rel P gl G h w) (ht:qaE G w t a.tmps) {o:Oper} {ty e:TypeId} {ps:Array (Nat×Operand)} {aps:List (Nat×Nat×qk)} {v z:qa} {n k:Nat} (ho:o.op = .build ty ps)
  (hu:P.underlying ty = some (.array n e)) (hk:qdv P e = some k) (hz:qbv P ty = some z) (hps:qhi gl k ps.toList = some aps)
  (hp:pureV t (.build z.cells aps) = some v):qbw P G w a o v:=by
 obtain ⟨u,hzu,hzr⟩:=qc6 hz w
 simp only [pureV] at hp
 obtain ⟨cs,hcs,rfl⟩:=qbT hp
 obtain ⟨h1,h2⟩:=qgD hr ht hps
 obtain ⟨c',e1,e2⟩:=qeG (γ:=G.γ) (imm:=G.imm) (fun i=>some (i * k,k)) (ps.toList.map fun (i,x)=>(i,a.eval x)) (aps.map fun (o,s,x)=>(o,s,ev t x)) z.cells u.cells cs (hzr _ _) (by simpa using h1)
  (fun n i v off size x hn hn'=>by
   simp only [List.getElem?_map,Option.map_eq_some_iff] at hn hn'
   obtain ⟨⟨i',x'⟩,hn1,hn2⟩:=hn
   obtain ⟨⟨off',size',ax'⟩,hn3,hn4⟩:=hn'
   simp only [Prod.mk.injEq] at hn2 hn4
   obtain ⟨rfl,rfl⟩:=hn2
   obtain ⟨rfl,rfl,rfl⟩:=hn4
   obtain ⟨q1,q2⟩:=h2 n _ _ _ _ _ hn1 hn3
   exact ⟨by rw [q1],q2⟩) hcs
 refine ⟨.agg c',?_,by simp only [qd.V,qt];exact ⟨c',rfl,e2⟩,rfl⟩
 simp only [execOp,ho]
 refine qdo ?_
 simp only [Instr.build,Sem.run_bind,hzu,Result.andThen_ok,run_underlying hu,qbc hk]
 have:(ps.map fun (i,x)=>(i,a.eval x)).toList = ps.toList.map fun (i,x)=>(i,a.eval x):=by simp
 rw [this,e1]
 rfl
end
end Go.AE
namespace Go.AE
section
variable {γ:Nat→Option Nat} {imm:Nat→Nat→Option Value}
theorem qL.of_get {xs:List qa} {b p k:Nat} (h:∀(i:Nat) (x:qa),xs[i]? = some x→x.cells.length = k∧qaj γ imm x.cells b (p + i * k)):qL γ imm xs b p:=by
 induction xs generalizing p with
 | nil=>simp [qL]
 | cons x xs ih=>
  obtain ⟨h1,h2⟩:=h 0 x rfl
  refine qL.cons (by simpa using h2) ?_
  rw [h1]
  refine ih fun i y hy=>?_
  obtain ⟨h3,h4⟩:=h (i + 1) y (by simpa using hy)
  refine ⟨h3,?_⟩
  rwa [Nat.add_mul,Nat.one_mul,Nat.add_comm (i * k),←Nat.add_assoc] at h4
theorem qaD {x:qa} (h:x.storable = true):x.cells = [x]:=by
 cases x <;> first | rfl | (simp [qa.storable] at h)
theorem qlI {k len b p:Nat} {cs:List qa} {c:List Value} (h:qh γ imm cs c) (hl:len * k ≤ cs.length) (hs:cs.all qa.storable = true) (hi:∀(o:Nat) (v:Value),c[o]? = some v→v ≠ mark→imm b (p + o) = some v) :
  (∀x ∈ elems k len cs,x.cells.length = k)∧qL γ imm (elems k len cs) b p∧(elems k len cs).length = len:=by
 have key:∀(i:Nat) (x:qa),(elems k len cs)[i]? = some x→x.cells.length = k∧qaj γ imm x.cells b (p + i * k):=by
  intro i x hx
  simp only [elems,List.getElem?_map,Option.map_eq_some_iff] at hx
  obtain ⟨j,hj,rfl⟩:=hx
  obtain ⟨hj1,rfl⟩:=List.getElem?_eq_some_iff.1 hj
  simp only [List.length_range] at hj1
  simp only [List.getElem_range]
  by_cases hk:k = 1
  ·subst hk
   simp only [if_true,Nat.mul_one] at hl ⊢
   have hic:i < cs.length:=by omega
   have hst:(cs[i]).storable = true:=by rw [List.all_eq_true] at hs;exact hs _ (List.getElem_mem hic)
   have hg:cs.getD i .undef = cs[i]:=by simp [List.getD,List.getElem?_eq_getElem hic]
   rw [hg,qaD hst]
   obtain ⟨v,hv,hr⟩:=h.get (List.getElem?_eq_getElem hic)
   simp only [List.length_cons,List.length_nil,qaj]
   exact ⟨trivial,⟨v,hi i v hv (qcJ hr),hr⟩,trivial⟩
  ·simp only [if_neg hk,qa.cells]
   have hle:i * k + k ≤ cs.length:=by
    have:(i + 1) * k ≤ len * k:=Nat.mul_le_mul_right k hj1
    rw [Nat.add_mul,Nat.one_mul] at this
    omega
   refine ⟨by simp;omega,qaj.of_get fun o y hy=>?_⟩
   have hok:o < k:=by have:=(List.getElem?_eq_some_iff.1 hy).1;simp at this;omega
   rw [List.getElem?_take_of_lt hok,List.getElem?_drop] at hy
   obtain ⟨v,hv,hr⟩:=h.get hy
   exact ⟨v,by rw [Nat.add_assoc];exact hi _ v hv (qcJ hr),hr⟩
 refine ⟨fun x hx=>?_,qL.of_get (k:=k) key,by simp [elems]⟩
 obtain ⟨i,hi⟩:=List.getElem?_of_mem hx
 exact (key i x hi).1
end
section
variable {P:Program} {gl:Nat→Option (List qa)} {G:qd} {w:World} {h:List qf} {t:List qa} {a:Act}
theorem qgj {α:Type} (zs:List α) (hk:zs.length ≠ 0):∀(n i:Nat) (x:α),((List.replicate n zs).flatten)[i]? = some x→zs[i % zs.length]? = some x
 | 0,i,x,h=>by simp at h
 | n + 1,i,x,h=>by
  simp only [List.replicate_succ,List.flatten_cons] at h
  by_cases hi:i < zs.length
  ·rw [List.getElem?_append_left hi] at h
   rwa [Nat.mod_eq_of_lt hi]
  ·rw [List.getElem?_append_right (by omega)] at h
   have:=qgj zs hk n _ x h
   rwa [←Nat.mod_eq_sub_mod (by omega)] at this
theorem qgG {γ:Nat→Option Nat} {imm:Nat→Nat→Option Value} {zs:List qa} {u:Array Value} (hz:qh γ imm zs u.toList) (k len:Nat) (hk:zs.length = k) (hk0:k ≠ 0) :
  qh γ imm ((List.replicate len zs).flatten) (((Array.range (len * k)).map (u[· % u.size]!)).toList):=by
 have hu:u.size = k:=by have:=hz.length;simp at this;omega
 refine qh.of_get ?_ fun i x v hx hv=>?_
 ·simp [hk]
 ·simp only [Array.toList_map,Array.toList_range,List.getElem?_map,Option.map_eq_some_iff] at hv
  obtain ⟨j,hj,rfl⟩:=hv
  obtain ⟨hj1,rfl⟩:=List.getElem?_eq_some_iff.1 hj
  simp only [List.length_range] at hj1
  simp only [List.getElem_range]
  have hmod:i % k < k:=Nat.mod_lt _ (by omega)
  have hx':zs[i % k]? = some x:=by
   have:=qgj zs (by omega) len i x hx
   rwa [hk] at this
  obtain ⟨v,hv,hr⟩:=hz.get hx'
  rw [hu]
  simp only [Array.getElem?_toList] at hv
  rw [getElem!_pos u (i % k) (by omega)]
  rw [Array.getElem?_eq_getElem (by omega)] at hv
  cases hv
  exact hr
theorem qtL (hr:Rel P gl G h w) (ht:qaE G w t a.tmps) {o:Oper} {ty e:TypeId} {ps:Array (Nat×Operand)} {aps:List (Nat×qk)} {v z:qa} {len k:Nat} (ho:o.op = .buildSlice ty len ps)
  (hu:P.underlying ty = some (.slice e)) (hk:qdv P e = some k) (hk0:k ≠ 0) (hz:qbv P e = some z) (hps:qfI gl ps.toList = some aps)
  (hp:pureV t (.list k z.cells len aps) = some v) :
  ∃(c:Array Value) (u:Value),(execOp a.eval o).run P w = .ok (.value u) (w.alloc (.cells c e))∧(G.withRow w.heap.size c c.size none).V v u∧v.dim = v:=by
 simp only [pureV] at hp
 split at hp
 ·rename_i hzl
  split at hp
  ·rename_i cs hcs
   split at hp
   ·rename_i hst
    cases hp
    obtain ⟨u0,hzu,hzr⟩:=qc6 hz w
    obtain ⟨h1,h2⟩:=qes hr ht k hps
    have hu0:u0.cells.size = k:=by have:=(hzr G.γ G.imm).length;simp at this;omega
    obtain ⟨c',e1,e2⟩:=qeG (γ:=G.γ) (imm:=G.imm) (fun i=>some (i * k,k)) (ps.toList.map fun (i,x)=>(i,a.eval x)) (aps.map fun (i,x)=>(i * k,k,ev t x)) _ _ cs (qgG (hzr _ _) k len hzl.1 hk0) (by simpa using h1)
     (fun n i v off size x hn hn'=>by
      simp only [List.getElem?_map,Option.map_eq_some_iff] at hn hn'
      obtain ⟨⟨i',x'⟩,hn1,hn2⟩:=hn
      obtain ⟨⟨off',ax'⟩,hn3,hn4⟩:=hn'
      simp only [Prod.mk.injEq] at hn2 hn4
      obtain ⟨rfl,rfl⟩:=hn2
      obtain ⟨rfl,rfl,rfl⟩:=hn4
      obtain ⟨rfl,q2⟩:=h2 n _ _ _ _ hn1 hn3
      exact ⟨rfl,q2⟩) hcs
    have hlen:∀(parts:List (Nat×Nat×qa)) (xs ys:List qa),qI xs parts = some ys→ys.length = xs.length:=by
     intro parts
     induction parts with
     | nil=>intro xs ys hf;simp only [qI,Option.some.injEq] at hf;rw [hf]
     | cons p ps ih=>
      intro xs ys hf
      obtain ⟨off,size,x⟩:=p
      simp only [qI] at hf
      split at hf
      ·rename_i hh
       rw [ih _ _ hf]
       simp only [splice,List.length_append,List.length_take,List.length_drop]
       omega
      ·cases hf
    have hcl:cs.length = len * k:=by rw [hlen _ _ _ hcs];simp [hzl.1]
    have hext:=Ext.newRow 0 c' e c'.size none hr
    obtain ⟨n,hn⟩:=qao cs
    have e3:qh (G.withRow w.heap.size c' c'.size none).γ (G.withRow w.heap.size c' c'.size none).imm cs c'.toList:=qh.mono hext.ik n (fun i b _=>hext.gk i b) cs _ hn e2
    obtain ⟨s1,s2,s3⟩:=qlI (b:=w.heap.size) (p:=0) (k:=k) (len:=len) e3 (by omega) hst (fun o v hv hm=>by
     simp only [qd.withRow,Nat.zero_add,if_true]
     simp only [Array.getElem?_toList] at hv
     rw [if_pos (Array.getElem?_eq_some_iff.1 hv).1,hv]
     exact qbd.2 ⟨rfl,hm⟩)
    refine ⟨c',.slice (some ⟨w.heap.size,0,none⟩) len len,?_,?_,rfl⟩
    ·simp only [execOp,ho]
     refine qdo ?_
     have hlim:¬ (len * k > 2 ^ 24):=by omega
     have e4:(ps.map fun (i,x)=>(i,a.eval x)).toList = ps.toList.map fun (i,x)=>(i,a.eval x):=by simp
     by_cases hz0:len * k = 0
     ·have hl0:len = 0:=by rcases Nat.mul_eq_zero.1 hz0 with h | h;exact h;exact absurd h hk0
      subst hl0
      simp only [Nat.zero_mul] at e1
      have e1':Instr.fill (fun i=>some (i * k,k)) ((Array.range 0).map ((#[]:Array Value)[· % (#[]:Array Value).size]!)) (ps.toList.map fun (i,x)=>(i,a.eval x)) = some c':=by
       have e0:∀f:Nat→Value,(Array.range 0).map f = #[]:=fun f=>by apply Array.ext';simp
       rw [e0] at e1 ⊢
       exact e1
      simp only [Instr.buildSlice,Sem.run_bind,run_underlying hu,Result.andThen_ok,qbc hk,Nat.zero_mul,gt_iff_lt,Nat.not_lt_zero,if_false,Sem.run_pure,if_true,e4,e1']
      simp [newRow]
     ·simp only [Instr.buildSlice,Sem.run_bind,run_underlying hu,Result.andThen_ok,qbc hk,if_neg hlim,if_neg hz0,Sem.run_pure,hzu,e4,e1]
      simp [newRow]
    ·simp only [qd.V,qt]
     exact ⟨_,_,_,rfl,s3.symm,Nat.le_refl _,fun _=>rfl,by simp,⟨k,s1⟩,.inr ⟨_,_,rfl,s2⟩⟩
   ·cases hp
  ·cases hp
 ·cases hp
end
end Go.AE
namespace Go.AE
section
variable {P:Program} {gl:Nat→Option (List qa)} {G G':qd} {w w':World} {h:List qf} {t:List qa} {a:Act} {n:Nat}
theorem Ext.V (he:Ext n G w G' w') {x:qa} {v:Value} (hv:G.V x v):G'.V x v:=by
 obtain ⟨m,hm⟩:=lower_ex x
 exact qt.mono he.ik m (fun i b _=>he.gk i b) x v hm hv
theorem Ext.VL (he:Ext n G w G' w') {xs:List qa} {vs:List Value} (hv:G.VL xs vs):G'.VL xs vs:=by
 obtain ⟨m,hm⟩:=qao xs
 exact qh.mono he.ik m (fun i b _=>he.gk i b) xs vs hm hv
structure Cfg (P:Program) (gl:Nat→Option (List qa)) (G:qd) (h:List qf) (t:List qa) (a:Act) (w:World):Prop where
 rel:Rel P gl G h w
 tr:qaE G w t a.tmps
theorem Cfg.put (hc:Cfg P gl G h t a w) (dst:Option Nat) {x:qa} {v:Value} (hv:G.V x v) (hd:x.dim = x):Cfg P gl G h (AE.put dst x t) (a.put dst v) w:=by
 refine ⟨hc.rel,?_⟩
 have:=hc.tr.put dst hv hd a.defers
 exact this
def Nx (nx:Next) (u:Value):Prop:=nx = .value u∨(nx = .skip∧u = undef)
def qnn (o:Oper):Prop:=(∃t x y,o.op = .store t x y)∨∃c,o.op = .call c∧c.callee = .builtin .append
def qno (P:Program) (gl:Nat→Option (List qa)) (o:Oper):Prop:=∃k as,qfv P gl o = some (.hx k as)
def Did (P:Program) (gl:Nat→Option (List qa)) (G:qd) (w:World) (a:Act) (o:Oper) (n:Nat) (h':List qf) (t':List qa):Prop:=
 ∃nx u w' G',(execOp a.eval o).run P w = .ok nx w'∧Nx nx u∧(¬ qnn o→¬ qno P gl o→∀b,b < w.heap.size→w'.heap[b]? = w.heap[b]?)∧Ext n G w G' w'∧Cfg P gl G' h' t' (a.put o.dst u) w'
theorem qdC (hc:Cfg P gl G h t a w) {o:Oper} {v:qa} (hg:qbw P G w a o v) (n:Nat):Did P gl G w a o n h (AE.put o.dst v t):=by
 obtain ⟨u,h1,h2,h3⟩:=hg
 exact ⟨_,u,w,G,h1,.inl rfl,fun _ _ _ _=>rfl,Ext.refl n G w,hc.put o.dst h2 h3⟩
theorem qsr (hc:Cfg P gl G h t a w) {o:Oper} {v:qa} {c:Array Value} {e:TypeId} {u:Value} (h1:(execOp a.eval o).run P w = .ok (.value u) (w.alloc (.cells c e)))
  (h2:(G.withRow w.heap.size c c.size none).V v u) (h3:v.dim = v) (n:Nat):Did P gl G w a o n h (AE.put o.dst v t):=by
 have hc':Cfg P gl (G.withRow w.heap.size c c.size none) h t a (w.alloc (.cells c e)):=⟨hc.rel.newRow c e c.size none,hc.tr.newRow hc.rel c e c.size none⟩
 exact ⟨_,u,_,_,h1,.inl rfl,fun _ _ _ hb=>qP w _ hb,Ext.newRow n c e c.size none hc.rel,hc'.put o.dst h2 h3⟩
theorem qiT {cs:List qa} {o:Nat} {xs:List qa} {k:Nat} (h:(cs.map qa.dim)[o]? = some (.lst xs (.own k))):False:=by
 simp only [List.getElem?_map,Option.map_eq_some_iff] at h
 obtain ⟨x,_,hx⟩:=h
 have:=qbx x
 rw [hx] at this
 simp [qa.dim] at this
theorem qn4 (hc:Cfg P gl G h t a w) {o:Oper} {cs:List qa} {c:Array Value} {e:TypeId} (hcs:G.VL cs c.toList)
  (h1:(execOp a.eval o).run P w = .ok (.value (.pointer (some ⟨w.heap.size,0,none⟩))) (w.alloc (.cells c e))) :
  Did P gl G w a o h.length (h ++ [.cells (cs.map qa.dim)]) (AE.put o.dst (.ptr h.length 0) t):=by
 have hi:G.γ h.length = none:=by
  cases hg:G.γ h.length with
  | none=>rfl
  | some b=>have:=(hc.rel.γlt _ b hg).1;omega
 have hext:Ext h.length G w (G.withBox h.length w.heap.size) (w.alloc (.cells c e)):=Ext.newBox hi (Nat.le_refl _) _
 have hrel:=hc.rel.newBox (o:=.cells c e) (bx:=.cells (cs.map qa.dim)) (h':=h ++ [.cells (cs.map qa.dim)]) hi (by simp) (by simp) (fun j hj b hb=>by
  rw [List.getElem?_append_left (hc.rel.γlt j b hb).1]) (by simp) ⟨c,e,qZ w _,qeK (hext.VL hcs).dims,fun o xs k v ho _=>(qiT ho).elim⟩
 obtain ⟨m,hm⟩:=qao t
 have htr:qaE (G.withBox h.length w.heap.size) (w.alloc (.cells c e)) t a.tmps:=
  hc.tr.keep hm hext.ik (fun i b _=>hext.gk i b) (fun _ _ h=>h) (fun b i hb=>qP w _ (hc.rel.ow b _ hb).1) (fun _ _ _ _ h=>h)
 refine ⟨_,_,_,_,h1,.inl rfl,fun _ _ _ hb=>qP w _ hb,hext,(Cfg.mk hrel htr).put o.dst ?_ rfl⟩
 simp only [qd.V,qt,qd.withBox,if_true]
 exact ⟨_,rfl,rfl⟩
theorem qwi (hc:Cfg P gl G h t a w) {o:Oper} {e:TypeId} {z:qa} (ho:o.op = .alloc e) (hz:qbv P e = some z) :
  Did P gl G w a o h.length (h ++ [.cells (z.cells.map qa.dim)]) (AE.put o.dst (.ptr h.length 0) t):=by
 obtain ⟨u,hu,hr⟩:=qc6 hz w
 refine qn4 hc (hr _ _) (c:=u.cells) (e:=e) ?_
 simp only [execOp,ho]
 refine qdo ?_
 simp [Instr.alloc,hu,newVar,newRow]
theorem qn5 (hc:Cfg P gl G h t a w) {o:Oper} {e:TypeId} {x:Operand} {ax:qk} (ho:o.op = .box e x) (hx:opd gl x = some ax) (hs:((ev t ax).cells.map qa.dim).all qa.storable = true) :
  Did P gl G w a o h.length (h ++ [.cells ((ev t ax).cells.map qa.dim)]) (AE.put o.dst (.ptr h.length 0) t):=by
 have hv:=qQ hc.rel hc.tr hx
 have hs':(ev t ax).cells.all qa.storable = true:=by
  rw [List.all_map] at hs
  rw [List.all_eq_true] at hs ⊢
  intro y hy
  have:=hs y hy
  cases y <;> first | exact this | rfl
 refine qn4 hc (qbO hv hs').1 (e:=e) ?_
 simp only [execOp,ho]
 refine qdo ?_
 simp [Instr.box,newVar,newRow]
theorem qaj.list {γ:Nat→Option Nat} {imm:Nat→Nat→Option Value}:∀{cs:List qa} {b p:Nat},qaj γ imm cs b p→∃vs,qh γ imm cs vs∧∀(j:Nat) (v:Value),vs[j]? = some v→imm b (p + j) = some v
 | [],b,p,_=>⟨[],by simp [qh],fun j v h=>by simp at h⟩
 | c :: cs,b,p,hc=>by
  simp only [qaj] at hc
  obtain ⟨⟨v,h1,h2⟩,h3⟩:=hc
  obtain ⟨vs,h4,h5⟩:=qaj.list h3
  refine ⟨v :: vs,by simp only [qh];exact ⟨v,vs,rfl,h2,h4⟩,fun j u hu=>?_⟩
  cases j with
  | zero=>simp at hu;subst hu;exact h1
  | succ j=>
   simp at hu
   have:=h5 j u hu
   rwa [Nat.add_assoc,Nat.add_comm 1 j] at this
theorem qk4 {ty:TypeId} {k:Option Nat} (hk:tyk P ty = some k) {b q o:Nat} {cs:List qa} {vs:List Value} (hc:G.VL cs vs) (hcell:∀(j:Nat) (v:Value),vs[j]? = some v→w.cell? ⟨b,q + j,none⟩ = some v)
  {x:qa} (hx:cut cs o k = some x):∃u,(Instr.loadAt ty (.pointer (some ⟨b,q + o,none⟩))).run P w = .ok u w∧G.V x u∧x.dim = x:=by
 obtain ⟨h1,h2⟩:=qe5 hk w
 obtain ⟨h3,h4,h5⟩:=qnY hc hx
 cases k with
 | none=>
  simp only at h3 h5
  refine ⟨_,?_,h3,h4⟩
  have hg:vs[o]? = some (vs.getD o undef):=by rw [List.getElem?_eq_getElem h5];simp [List.getD,List.getElem?_eq_getElem h5]
  have:=hcell o _ hg
  simp only [Instr.loadAt,Instr.sureAddr,Sem.run_bind,Sem.run_pure,Result.andThen_ok,loadVar,h1,Option.isSome_none,Bool.false_eq_true,if_false,run_load,this]
 | some k=>
  simp only at h3 h5
  refine ⟨_,?_,h3,h4⟩
  have hl:=run_loadCells_list (P:=P) w ⟨b,q + o,none⟩ ((vs.drop o).take k) (fun j v hj=>by
   have hjk:j < k:=by have:=(List.getElem?_eq_some_iff.1 hj).1;simp at this;omega
   rw [List.getElem?_take_of_lt hjk,List.getElem?_drop] at hj
   rw [qbE,Nat.add_assoc]
   exact hcell _ v hj)
  have hlen:((vs.drop o).take k).length = k:=by simp;omega
  rw [hlen] at hl
  simp only [Instr.loadAt,Instr.sureAddr,Sem.run_bind,Sem.run_pure,Result.andThen_ok,loadVar,h1,Option.isSome_some,if_true,h2 k rfl,hl]
theorem qvf (hr:Rel P gl G h w) {ty:TypeId} {k:Option Nat} (hk:tyk P ty = some k) {p:qa} {vp:Value} (hp:G.V p vp) {x:qa} (hx:qdh h p k = some x) :
  ∃u,(Instr.loadAt ty vp).run P w = .ok u w∧G.V x u∧x.dim = x:=by
 unfold qdh at hx
 split at hx
 ·simp only [qd.V,qt] at hp
  obtain ⟨b,hb,rfl⟩:=hp
  split at hx
  ·rename_i cs hcs
   obtain ⟨c,e,h1,h2,_⟩:=hr.box _ b _ hb hcs
   have:=qk4 (P:=P) (w:=w) hk (b:=b) (q:=0) h2 (fun j v hj=>by
    have hj:c[j]? = some v:=by
     have hl:=(List.getElem?_eq_some_iff.1 hj).1
     rw [List.getElem?_take_of_lt (by simp at hl;omega)] at hj
     simpa using hj
    simp [World.cell?,h1,hj]) hx
   simpa using this
  ·cases hx
 ·simp only [qd.V,qt] at hp
  obtain ⟨b,q,rfl,hic⟩:=hp
  obtain ⟨vs,h1,h2⟩:=hic.list
  exact qk4 hk h1 (fun j v hj=>by
   obtain ⟨x,_,hxr⟩:=h1.get' hj
   exact (hr.imm b _ v (h2 j v hj) (qcJ hxr)).1) hx
 ·cases hx
theorem qzc (hc:Cfg P gl G h t a w) {o:Oper} {ty:TypeId} {x:Operand} {ax:qk} {k:Option Nat} {v:qa} (ho:o.op = .load ty x) (hk:tyk P ty = some k) (hx:opd gl x = some ax) (hl:qdh h (ev t ax) k = some v) (n:Nat) :
  Did P gl G w a o n h (AE.put o.dst v t):=by
 obtain ⟨u,h1,h2,h3⟩:=qvf hc.rel hk (qQ hc.rel hc.tr hx) hl
 exact qdC hc ⟨u,by simp only [execOp,ho];exact qdo h1,h2,h3⟩ n
theorem qn6 (hc:Cfg P gl G h t a w) {o:Oper} {sT dT e:TypeId} {x:Operand} {ax:qk} {v:qa} (ho:o.op = .convert sT dT x) (hx:opd gl x = some ax) (hs:P.underlying sT = some .string) (hd:P.underlying dT = some (.slice e))
  (he:qyF (P.underlying e) = true) (hp:pureV t (.cvb ax) = some v) (n:Nat):Did P gl G w a o n h (AE.put o.dst v t):=by
 have hu:P.underlying e = some (.int .u8):=by
  unfold qyF at he
  split at he
  ·assumption
  ·cases he
 have hv:=qQ hc.rel hc.tr hx
 simp only [pureV] at hp
 split at hp
 ·rename_i l hl
  cases hp
  rw [hl] at hv
  simp only [qd.V,qt] at hv
  obtain ⟨b,hb,rfl⟩:=hv
  have hsz:b.size = b.data.toList.length:=by rw [Array.length_toList];rfl
  have hq:(Question.appendCap b.size 0 e).forced = false:=rfl
  generalize hcapv:(Question.appendCap b.size 0 e).cut (w.tape w.drawn (Question.appendCap b.size 0 e)) = newCap
  have hge:b.size ≤ newCap:=by rw [←hcapv];simp only [Question.cut];omega
  let c:Array Value:=(b.data.map fun c=>Value.int .u8 c.toNat) ++ Array.replicate (newCap - b.size) (.int .u8 0)
  have hrun:(execOp a.eval o).run P w = .ok (.value (.slice (some ⟨w.heap.size,0,none⟩) b.size newCap)) (w.drew.alloc (.cells c e (c.size,c.size + 1))):=by
   simp only [execOp,ho]
   refine qdo ?_
   have hfz:(w.drew.alloc (.cells c e)).freeze ⟨w.heap.size,c.size,none⟩ 1 = w.drew.alloc (.cells c e (c.size,c.size + 1)):=by
    simp only [World.freeze]
    rw [if_neg (by decide)]
    simp only [World.alloc,World.drew]
    congr 1
    apply Array.ext_getElem?
    intro j
    rw [Array.getElem?_modify,Array.getElem?_push,Array.getElem?_push]
    by_cases e1:j = w.heap.size
    ·subst e1;simp
    ·rw [if_neg (fun e=>e1 e.symm),if_neg e1,if_neg e1]
   have hshape:(w.drew.alloc (.cells c e)).shape? w.heap.size = some (e,c.size):=by
    have:=qZ w.drew (.cells c e)
    simp only [World.shape?]
    rw [show w.heap.size = w.drew.heap.size from rfl,this]
   simp only [convert,Sem.run_bind,run_underlying hs,run_underlying hd,run_underlying hu,Result.andThen_ok,hb,Conv.stringToBytes,run_choose_drew,hq,Bool.false_eq_true,if_false,hcapv,newRow,run_newObj_alloc,Sem.run_pure,markStringish,run_shape]
   have h5:(Array.map (fun b=>Value.int IntKind.u8 ↑b.toNat) b.data ++ Array.replicate (newCap - b.size) (Value.int IntKind.u8 0)) = c:=rfl
   simp only [h5]
   rw [show w.drew.heap.size = w.heap.size from rfl]
   simp only [hshape,run_freeze,hfz,Result.andThen_ok]
  have hr0:Rel P gl G h w.drew:=hc.rel.of_drew _
  have ht0:qaE G w.drew t a.tmps:=hc.tr.of_drew _
  have f1:=hr0.newRow c e c.size none (c.size,c.size + 1)
  have f2:=qaE.newRow hr0 ht0 c e c.size none (c.size,c.size + 1)
  have f3:Ext n G w _ _:=((Ext.refl n G w).drew (w.drawn + 1)).trans (Nat.le_refl n) (Ext.newRow n c e c.size none hr0 (c.size,c.size + 1))
  have hc':Cfg P gl (G.withRow w.heap.size c c.size none) h t a (w.drew.alloc (.cells c e (c.size,c.size + 1))):=⟨f1,f2⟩
  refine ⟨_,_,_,_,hrun,.inl rfl,fun _ _ b hb=>qP w.drew _ hb,f3,hc'.put o.dst ?_ rfl⟩
  simp only [qd.V,qt]
  refine ⟨_,_,_,rfl,by rw [hsz];simp [qhL],hge,by simp,by simp,⟨1,fun y hy=>?_⟩,.inr ⟨_,_,rfl,qL.of_get (k:=1) fun i y hy=>?_⟩⟩
  ·simp only [qhL,List.mem_map] at hy
   obtain ⟨z,_,rfl⟩:=hy
   rfl
  ·simp only [qhL,List.getElem?_map,Option.map_eq_some_iff] at hy
   obtain ⟨z,hz,rfl⟩:=hy
   have hib:i < b.data.size:=by have:=(List.getElem?_eq_some_iff.1 hz).1;simpa using this
   have hz':b.data[i]? = some z:=by simpa using hz
   have hci:c[i]? = some (.int .u8 z.toNat):=by
    simp only [c]
    rw [Array.getElem?_append_left (by simpa using hib)]
    simp [hz']
   refine ⟨rfl,?_⟩
   simp only [qa.cells,qaj,qd.withRow,Nat.zero_add,Nat.mul_one,if_true]
   refine ⟨⟨_,?_,rfl⟩,trivial⟩
   rw [if_pos (Array.getElem?_eq_some_iff.1 hci).1]
   exact qbd.2 ⟨hci,by simp [mark]⟩
 ·cases hp
end
end Go.AE
namespace Go.AE
def qd.give (G:qd) (b:Nat) (ℓ:Option Loc):qd:={ γ:=G.γ,imm:=G.imm,ow:=fun x=>if x = b then ℓ else G.ow x}
section
variable {P:Program} {gl:Nat→Option (List qa)} {G G':qd} {w w':World} {h:List qf} {t:List qa} {a:Act} {n:Nat}
theorem Rel.give (hr:Rel P gl G h w) {b:Nat} {ℓ0 ℓ:Loc} (hb:G.ow b = some ℓ0) (hcell:∀id o:Nat,ℓ0 ≠ .cell id o) :
  Rel P gl (G.give b (some ℓ)) h w:=by
 refine ⟨hr.γlt,hr.inj,fun i b' bx hi hx=>?_,hr.imm,hr.immγ,hr.immK,fun b' ℓ' hb'=>?_,hr.glob⟩
 ·have hbx:=hr.box i b' bx hi hx
  cases bx with
  | cells cs=>
   obtain ⟨c,e,h1,h2,h3⟩:=hbx
   refine ⟨c,e,h1,h2,fun o xs k v ho hv=>?_⟩
   obtain ⟨b2,p,len,cap,c2,e2,rfl,k1,k2⟩:=h3 o xs k v ho hv
   refine ⟨b2,p,len,cap,c2,e2,rfl,?_,k2⟩
   have:b2 ≠ b:=fun e3=>by
    subst e3
    rw [hb] at k1
    cases k1
    exact hcell i o rfl
   simpa [qd.give,this] using k1
  | loop _ _ _ _ _ _=>obtain ⟨L,h1,h2⟩:=hbx;exact ⟨L,h1,{ h2 with tmps:=h2.tmps}⟩
  | map _ _=>obtain ⟨me,h1,h2⟩:=hbx;exact ⟨me,h1,qV.mono (G:=G) (G':=G.give b (some ℓ)) (fun _ _ _ h=>h) _ (fun _ _ _ h=>h) (qcA _).choose_spec h2⟩
  | iter _ _ _ _=>obtain ⟨mm,h1,h2⟩:=hbx;exact ⟨mm,h1,h2⟩
  | bld _ _ _=>
   refine qnc.keep hbx rfl (fun y hy=>?_) (fun _ _=>rfl) (fun _ _ _ h=>h)
   have:y ≠ b:=fun e3=>by
    subst e3
    rw [hb] at hy
    cases hy
    exact hcell i 1 rfl
   simpa [qd.give,this] using hy
  | dead=>trivial
 ·simp only [qd.give] at hb'
  split at hb'
  ·rename_i e1;subst e1;exact hr.ow b' ℓ0 hb
  ·exact hr.ow b' ℓ' hb'
theorem Ext.give (n:Nat) (G:qd) (w:World) {b:Nat} {ℓ0:Loc} (ℓ:Option Loc) (hb:G.ow b = some ℓ0):Ext n G w (G.give b ℓ) w:=by
 refine ⟨fun _ _ h=>h,fun _ _ h=>.inl h,fun _ _ _ h=>h,fun _ _ _ h=>.inl h,fun x hx=>?_,Nat.le_refl _,fun _ _ _=>rfl,(Ext.refl n G w).loops,rfl,rfl,rfl⟩
 simp only [qd.give] at hx
 split at hx
 ·rename_i e1;subst e1;exact .inl (by simp [hb])
 ·exact .inl hx
theorem getD_some {t:List qa} {i:Nat} {xs:List qa} {f:qfQ} (h:t.getD i .undef = .lst xs f):t[i]? = some (.lst xs f):=by
 by_cases hi:i < t.length
 ·simpa [List.getD,List.getElem?_eq_getElem hi] using h
 ·simp [List.getD,List.getElem?_eq_none (Nat.le_of_not_lt hi)] at h
theorem qgF {t:List qa} {x:qk} (hx:∀i xs k,x = .t i→t[i]? ≠ some (.lst xs (.own k))) (hc:∀v,x = .c v→v.dim = v):(raw t x).dim = raw t x∧qaF t x = t:=by
 cases x with
 | c v=>exact ⟨hc v rfl,rfl⟩
 | t i=>
  simp only [raw,qaF]
  cases hg:t.getD i .undef with
  | lst xs f=>
   cases f with
   | own k=>exact absurd (getD_some hg) (hx i xs k rfl)
   | no=>exact ⟨rfl,rfl⟩
   | full=>exact ⟨rfl,rfl⟩
  | _=>exact ⟨rfl,rfl⟩
theorem qiW {x:Operand} {ax:qk} (hx:opd gl x = some ax):∀v,ax = .c v→v.dim = v:=by
 intro v hv
 subst hv
 cases x with
 | tmp i=>simp [opd] at hx
 | const u=>
  simp only [opd] at hx
  obtain ⟨c,hc,he⟩:=qbT hx
  cases he
  exact qnW hc
 | global g=>
  simp only [opd] at hx
  obtain ⟨c,hc,he⟩:=qbT hx
  cases he
  rfl
 | func f=>simp only [opd,Option.some.injEq,qk.c.injEq] at hx;subst hx;rfl
theorem qgB {x:Operand} {i:Nat} (hx:opd gl x = some (.t i)):x = .tmp i:=by
 cases x with
 | tmp j=>simp [opd] at hx;rw [hx]
 | const u=>simp only [opd] at hx;obtain ⟨c,_,he⟩:=qbT hx;cases he
 | global g=>simp only [opd] at hx;obtain ⟨c,_,he⟩:=qbT hx;cases he
 | func f=>simp [opd] at hx
theorem qaE.drain (ht:qaE G w t a.tmps) {i:Nat} {xs:List qa} {f:qfQ} (hi:t[i]? = some (.lst xs f)):qaE G w (t.set i (.lst xs .no)) a.tmps:=by
 obtain ⟨v,hv,hr⟩:=ht.rel.get hi
 have hrel:G.VL (t.set i (.lst xs .no)) (a.tmps.toList.set i v):=ht.rel.set i (qiU hr)
 have e:a.tmps.toList.set i v = a.tmps.toList:=by
  obtain ⟨h1,h2⟩:=List.getElem?_eq_some_iff.1 hv
  rw [←h2];exact List.set_getElem_self h1
 rw [e] at hrel
 refine ⟨hrel,fun j ys k u hj hu=>?_⟩
 by_cases e1:i = j
 ·subst e1
  rw [List.getElem?_set_self (List.getElem?_eq_some_iff.1 hi).1] at hj
  simp at hj
 ·rw [List.getElem?_set_ne e1] at hj
  exact ht.own j ys k u hj hu
theorem qhH {i:Nat} {v:Value} (hv:a.tmps.toList[i]? = some v):a.eval (.tmp i) = v:=by
 simp only [Array.getElem?_toList] at hv
 obtain ⟨h1,h2⟩:=Array.getElem?_eq_some_iff.1 hv
 simp [Act.eval,Array.getD,h1,h2]
theorem qaE.putOwn {ts:Array Value} (ht:qaE G w t ts) (d:Nat) {x:List qa} {k:Nat} {v:Value} (hv:G.V (.lst x (.own k)) v) (ho:qr0 G w (.tmp d) k v) (ds:List Deferred) :
  qaE G w (t.set d (.lst x (.own k))) ((({ tmps:=ts,defers:=ds}:Act).put (some d) v).tmps):=by
 refine ⟨by simpa [Act.put] using ht.rel.set d hv,fun i xs k' u hi hu=>?_⟩
 simp only [Act.put] at hu
 by_cases e:d = i
 ·subst e
  have hd:d < t.length:=by
   by_cases hd:d < t.length
   ·exact hd
   ·rw [List.getElem?_eq_none (by simp;omega)] at hi;cases hi
  rw [List.getElem?_set_self hd] at hi
  simp only [Option.some.injEq,qa.lst.injEq,qfQ.own.injEq] at hi
  obtain ⟨rfl,rfl⟩:=hi
  rw [Array.getElem?_setIfInBounds_self_of_lt (by rw [←ht.length];exact hd)] at hu
  cases hu
  exact ho
 ·rw [List.getElem?_set_ne e] at hi
  rw [Array.getElem?_setIfInBounds_ne e] at hu
  exact ht.own i xs k' u hi hu
theorem qaE.give (ht:qaE G w t a.tmps) {i:Nat} {xs:List qa} {k b:Nat} {ℓ:Option Loc} (hi:t[i]? = some (.lst xs (.own k))) (hb:G.ow b = some (.tmp i)) :
  qaE (G.give b ℓ) w (t.set i (.lst xs .no)) a.tmps:=by
 have hd:=ht.drain hi
 refine ⟨hd.rel,fun j ys k' u hj hu=>?_⟩
 have hne:i ≠ j:=fun e=>by
  subst e
  rw [List.getElem?_set_self (List.getElem?_eq_some_iff.1 hi).1] at hj
  simp at hj
 obtain ⟨b2,p,len,cap,c,e,rfl,h1,h2⟩:=hd.own j ys k' u hj hu
 refine ⟨b2,p,len,cap,c,e,rfl,?_,h2⟩
 have:b2 ≠ b:=fun e2=>by subst e2;rw [hb] at h1;cases h1;exact hne rfl
 simpa [qd.give,this] using h1
theorem qwg (hc:Cfg P gl G h t a w) {o:Oper} {x:Operand} {ax:qk} (ho:o.op = .assign x) (hx:opd gl x = some ax) (n:Nat) :
  Did P gl G w a o n h (AE.put o.dst (raw t ax) (qaF t ax)):=by
 have hrun:(execOp a.eval o).run P w = .ok (.value (a.eval x)) w:=by simp [execOp,ho]
 by_cases hown:∃i xs k,ax = .t i∧t[i]? = some (.lst xs (.own k))
 ·obtain ⟨i,xs,k,rfl,hi⟩:=hown
  have hx':=qgB hx
  subst hx'
  obtain ⟨v,hv,hr⟩:=hc.tr.rel.get hi
  have hve:=qhH hv
  have hg:t.getD i .undef = .lst xs (.own k):=by simp [List.getD,hi]
  have hdr:qaF t (.t i) = t.set i (.lst xs .no):=by simp only [qaF,hg]
  simp only [raw,hg,hdr]
  cases hd:o.dst with
  | none=>
   exact ⟨_,_,w,G,hrun,.inl rfl,fun _ _ _ _=>rfl,Ext.refl n G w,hc.rel,by rw [hd];exact hc.tr.drain hi⟩
  | some d=>
   have hov:=hc.tr.own i xs k v hi (by simpa using hv)
   obtain ⟨b,p,len,cap,c,e,rfl,h1,h2⟩:=hov
   refine ⟨_,_,w,G.give b (some (.tmp d)),hrun,.inl rfl,fun _ _ _ _=>rfl,Ext.give n G w _ h1,hc.rel.give h1 (fun id o' e1=>by cases e1),?_⟩
   rw [hve,hd]
   exact (hc.tr.give hi h1).putOwn d (G:=G.give b (some (.tmp d))) hr ⟨b,p,len,cap,c,e,rfl,by simp [qd.give],h2⟩ a.defers
 ·have hown':∀i xs k,ax = .t i→t[i]? ≠ some (.lst xs (.own k)):=fun i xs k h1 h2=>hown ⟨i,xs,k,h1,h2⟩
  obtain ⟨h1,h2⟩:=qgF hown' (qiW hx)
  rw [h2]
  exact ⟨_,_,w,G,hrun,.inl rfl,fun _ _ _ _=>rfl,Ext.refl n G w,hc.put o.dst (qh0 hc.rel hc.tr hx) h1⟩
end
end Go.AE
namespace Go.AE
section
variable {P:Program} {gl:Nat→Option (List qa)} {G G':qd} {w w':World} {h:List qf} {t:List qa} {a:Act} {n:Nat}
theorem qr (w:World) (b x:Nat) (c:Array Value) (h:x ≠ b):(w.setRow b c).heap[x]? = w.heap[x]?:=setRow_other w b x c h
theorem Rel.store (hr:Rel P gl G h w) {id b:Nat} {cs cs':List qa} {c c':Array Value} {e:TypeId} (hb:G.γ id = some b) (hid:h[id]? = some (.cells cs)) (hw:w.heap[b]? = some (.cells c e (0,0)))
  (hγ:G'.γ = G.γ) (hi:G'.imm = G.imm) (how:∀x,G'.ow x ≠ none→G.ow x ≠ none) (hcell:∀x id' o,id' ≠ id→G.ow x = some (.cell id' o)→G'.ow x = some (.cell id' o))
  (hrel:G.VL cs' (c'.toList.take cs'.length)) (hsz:c'.size = c.size)
  (hown:∀(o:Nat) (xs:List qa) (k:Nat) (v:Value),cs'[o]? = some (.lst xs (.own k))→c'[o]? = some v→qr0 G' (w.setRow b c') (.cell id o) k v) :
  Rel P gl G' (h.set id (.cells cs')) (w.setRow b c'):=by
 have hlt:=Array.getElem?_eq_some_iff.1 hw |>.1
 have hil:=List.getElem?_eq_some_iff.1 hid |>.1
 have hne:∀x ℓ,G.ow x = some ℓ→x ≠ b:=fun x ℓ hx e1=>(hr.ow x ℓ hx).2 id (e1▸hb)
 refine ⟨fun i x hx=>?_,fun i j x hx hy=>?_,fun i x bx hx hb'=>?_,fun x o v hv hm=>?_,fun x o v i hv hm=>?_,fun x o hv=>?_,fun x ℓ hx=>?_,fun g cs hg=>?_⟩
 ·rw [hγ] at hx;simpa using hr.γlt i x hx
 ·rw [hγ] at hx hy;exact qhK hr.inj hid (by simp) i j x hx hy
 ·rw [hγ] at hx
  by_cases e1:i = id
  ·subst e1
   rw [hb] at hx;cases hx
   rw [List.getElem?_set_self hil] at hb'
   cases hb'
   exact ⟨c',e,setRow_heap w b c c' e (0,0) hw,by rw [qd.VL,hγ,hi];exact hrel,hown⟩
  ·rw [List.getElem?_set_ne (Ne.symm e1)] at hb'
   have hbx:=hr.box i x bx hx hb'
   have hxb:bx ≠ .dead→x ≠ b:=fun hnd e2=>by
    rcases hr.inj i id x hx (e2▸hb) with h1 | h1 | h1
    ·exact e1 h1
    ·rw [hb'] at h1;cases h1;exact hnd rfl
    ·rw [hid] at h1;cases h1
   cases bx with
   | map es _=>
    obtain ⟨me,h1,h2⟩:=hbx
    obtain ⟨m,hm⟩:=qcA es
    exact ⟨me,by rw [qr w b x c' (hxb (by simp))];exact h1,qV.mono (fun _ _ _ h=>by rw [hi];exact h) m (fun _ _ _ h=>by rw [hγ];exact h) hm h2⟩
   | iter im _ _ _=>
    obtain ⟨mm,h1,h2⟩:=hbx
    obtain ⟨m,hm⟩:=AE.lower_ex im
    exact ⟨mm,by rw [qr w b x c' (hxb (by simp))];exact h1,qt.mono (fun _ _ _ h=>by rw [hi];exact h) m (fun _ _ _ h=>by rw [hγ];exact h) _ _ hm h2⟩
   | bld _ _ _=>exact qnc.keep hbx (qr w b x c' (hxb (by simp))) (fun y hy=>hcell y i 1 e1 hy) (fun y hy=>qr w b y c' (hne y _ hy)) (fun y j _ hj=>by rw [hi];exact hj)
   | dead=>trivial
   | cells ds=>
    obtain ⟨d,e',h1,h2,h3⟩:=hbx
    have hxb:=hxb (by simp)
    refine ⟨d,e',by rw [qr w b x c' hxb];exact h1,by rw [qd.VL,hγ,hi];exact h2,fun o xs k v ho hv=>?_⟩
    exact (h3 o xs k v ho hv).keep (fun y hy=>hcell y i o e1 hy) (fun y hy=>qr w b y c' (hne y _ hy)) (fun y j _ hj=>by rw [hi];exact hj)
   | loop _ _ _ _ _ _=>
    obtain ⟨L,h1,h2⟩:=hbx
    have hxb:=hxb (by simp)
    exact ⟨L,by rw [qr w b x c' hxb];exact h1,{ h2 with tmps:=by rw [qd.VL,hγ,hi];exact h2.tmps}⟩
 ·rw [hi] at hv
  obtain ⟨h1,h2⟩:=hr.imm x o v hv hm
  have hxb:x ≠ b:=fun e2=>by have:=hr.immγ x o v id hv hm (e2▸hb);rw [hid] at this;cases this
  exact ⟨(qbo (qr w b x c' hxb)).trans h1,by simpa using h2⟩
 ·rw [hi] at hv;rw [hγ];exact fun e1=>qdb hid (by simp) (hr.immγ x o v i hv hm e1)
 ·rw [hi] at hv
  obtain ⟨h0,d,e',h1,h2⟩:=hr.immK x o hv
  by_cases hxb:x = b
  ·subst hxb
   rw [hw] at h1;cases h1
   exact ⟨h0,c',e,setRow_heap w x c c' e (0,0) hw,by omega⟩
  ·exact ⟨h0,d,e',by rw [qr w b x c' hxb];exact h1,h2⟩
 ·have:=how x (by simp [hx])
  cases hx0:G.ow x with
  | none=>exact absurd hx0 this
  | some ℓ0=>
   obtain ⟨h1,h2⟩:=hr.ow x ℓ0 hx0
   exact ⟨by simpa using h1,by rw [hγ];exact h2⟩
 ·rw [hγ,hi];exact hr.glob g cs hg
theorem Ext.store (n:Nat) {id b:Nat} {c c':Array Value} {e:TypeId} (hb:G.γ id = some b) (hw:w.heap[b]? = some (.cells c e (0,0)))
  (hγ:G'.γ = G.γ) (hi:G'.imm = G.imm) (how:∀x,G'.ow x ≠ none→G.ow x ≠ none):Ext n G w G' (w.setRow b c'):=by
 refine ⟨fun i x hx=>by rw [hγ];exact hx,fun i x hx=>by rw [hγ] at hx;exact .inl hx,fun x o v hv=>by rw [hi];exact hv,fun x o v hv=>by rw [hi] at hv;exact .inl hv,fun x hx=>.inl (how x hx),by simp,fun x hx hf=>?_,fun x L hL=>?_,rfl,rfl,rfl⟩
 ·exact qr w b x c' (fun e1=>hf.1 id (e1▸hb))
 ·have:x ≠ b:=fun e1=>by subst e1;rw [hw] at hL;cases hL
  exact ⟨L,by rw [qr w b x c' this];exact hL,rfl,rfl,rfl,rfl,rfl,rfl⟩
theorem qaE.store {ts:Array Value} (hr:Rel P gl G h w) (ht:qaE G w t ts) {id b:Nat} (c':Array Value) (hb:G.γ id = some b):qaE G (w.setRow b c') t ts:=
 ⟨ht.rel,fun i xs k v hx hv=>(ht.own i xs k v hx hv).keep (fun _ h=>h) (fun y hy=>qr w b y c' (fun e1=>(hr.ow y _ hy).2 id (e1▸hb))) (fun _ _ _ h=>h)⟩
theorem qrv {ty:TypeId} {k:Nat} (hk:qdv P ty = some k) {b o:Nat} {v:Value} {c:Array Value} {e:TypeId} (hw:w.heap[b]? = some (.cells c e (0,0))) (hs:v.cells.size = k) (ho:o + k ≤ c.size) (h1:∀u ∈ v.cells.toList,u.oneCell' = true) :
  (Instr.storeAt ty (.pointer (some ⟨b,o,none⟩)) v).run P w = .ok () (w.setRow b (c.toList.take o ++ v.cells.toList ++ c.toList.drop (o + v.cells.toList.length)).toArray):=by
 have:=run_storeCells_at P b o e v.cells.toList 0 c w hw (by simp;omega) h1
 simp only [Nat.add_zero] at this
 simp only [Instr.storeAt,Instr.sureAddr,Sem.run_bind,Sem.run_pure,Result.andThen_ok,storeVar,qbc hk,hs,ne_eq,not_true_eq_false,if_false]
 exact this
theorem qd5 {cs vs:List qa} {o i:Nat} {x:qa} (hl:o + vs.length ≤ cs.length) (h:(splice cs o vs)[i]? = some x):(i < o∨o + vs.length ≤ i)∧cs[i]? = some x∨o ≤ i∧i < o + vs.length∧vs[i - o]? = some x:=by
 unfold splice at h
 by_cases h1:i < o
 ·left
  rw [List.append_assoc,List.getElem?_append_left (by simp;omega),List.getElem?_take_of_lt h1] at h
  exact ⟨.inl h1,h⟩
 ·by_cases h2:i < o + vs.length
  ·right
   rw [List.getElem?_append_left (by simp;omega),List.getElem?_append_right (by simp;omega)] at h
   refine ⟨by omega,h2,?_⟩
   simpa [Nat.min_eq_left (show o ≤ cs.length by omega)] using h
  ·left
   rw [List.getElem?_append_right (by simp;omega),List.getElem?_drop] at h
   refine ⟨.inr (by omega),?_⟩
   rw [←h]
   congr 1
   simp [Nat.min_eq_left (show o ≤ cs.length by omega)]
   omega
theorem qbn {cs vs:List Value} {o i:Nat} (hl:o + vs.length ≤ cs.length):(i < o∨o + vs.length ≤ i→(cs.take o ++ vs ++ cs.drop (o + vs.length))[i]? = cs[i]?)∧(o ≤ i→i < o + vs.length→(cs.take o ++ vs ++ cs.drop (o + vs.length))[i]? = vs[i - o]?):=by
 constructor
 ·rintro (h1 | h1)
  ·rw [List.append_assoc,List.getElem?_append_left (by simp;omega),List.getElem?_take_of_lt h1]
  ·rw [List.getElem?_append_right (by simp;omega),List.getElem?_drop]
   congr 1
   simp [Nat.min_eq_left (show o ≤ cs.length by omega)]
   omega
 ·intro h1 h2
  rw [List.getElem?_append_left (by simp;omega),List.getElem?_append_right (by simp;omega)]
  simp [Nat.min_eq_left (show o ≤ cs.length by omega)]
theorem qfD {γ:Nat→Option Nat} {imm:Nat→Nat→Option Value} {cs vs:List qa} {l us:List Value} {p:Nat} (h:qh γ imm cs (l.take cs.length)) (hv:qh γ imm vs us) (hfit:p + vs.length ≤ cs.length) :
  qh γ imm (splice cs p vs) ((l.take p ++ us ++ l.drop (p + us.length)).take (splice cs p vs).length):=by
 have hl:=hv.length
 have hle:=qeM h
 refine qh.of_get ?_ fun i a v ha hv'=>?_
 ·simp only [splice,List.length_append,List.length_take,List.length_drop];omega
 ·rw [List.getElem?_take_of_lt (List.getElem?_eq_some_iff.1 ha).1] at hv'
  have hg:=qbn (cs:=l) (vs:=us) (o:=p) (i:=i) (by omega)
  rcases qd5 hfit ha with ⟨h1,h2⟩ | ⟨h1,h2,h3⟩
  ·rw [hg.1 (by omega)] at hv'
   obtain ⟨u,hu,hr⟩:=qeL h h2
   rw [hv'] at hu;cases hu;exact hr
  ·rw [hg.2 h1 (by omega)] at hv'
   obtain ⟨u,hu,hr⟩:=hv.get h3
   rw [hv'] at hu;cases hu;exact hr
theorem qu0 (hc:Cfg P gl G h t a w) {o:Oper} {ty:TypeId} {x y:Operand} {ax ay:qk} {k:Option Nat} {id p:Nat} {cs:List qa} (ho:o.op = .store ty x y) (hsz:qdv P ty = some (k.getD 1)) (hx:opd gl x = some ax) (hy:opd gl y = some ay)
  (hp:ev t ax = .ptr id p) (hid:h[id]? = some (.cells cs)) (hlen:(match k with | none=>[raw t ay] | some _=>(raw t ay).dim.cells.map qa.dim).length = k.getD 1)
  (hfit:p + (match k with | none=>[raw t ay] | some _=>(raw t ay).dim.cells.map qa.dim).length ≤ cs.length) (hst:(match k with | none=>[raw t ay] | some _=>(raw t ay).dim.cells.map qa.dim).all qa.storable = true) (n:Nat) :
  Did P gl G w a o n (h.set id (.cells (splice cs p (match k with | none=>[raw t ay] | some _=>(raw t ay).dim.cells.map qa.dim)))) (AE.put o.dst .undef (qaF t ay)):=by
 have hv:=qQ hc.rel hc.tr hx
 rw [hp] at hv
 simp only [qd.V,qt] at hv
 obtain ⟨b,hb,he⟩:=hv
 obtain ⟨c,e,hw,hcs,hown⟩:=hc.rel.box id b _ hb hid
 have hyr:=qh0 hc.rel hc.tr hy
 generalize hvs:(match k with | none=>[raw t ay] | some _=>(raw t ay).dim.cells.map qa.dim) = vs at *
 have hcells:(raw t ay).dim.cells.all qa.storable = true∧vs.length = (raw t ay).dim.cells.length∧(∀(i:Nat) (x:qa),vs[i]? = some x→x = raw t ay∧k = none∨x.dim = x)∧(∀γ imm us,qh γ imm (raw t ay).dim.cells us→qh γ imm vs us∨k = none):=by
  cases k with
  | none=>
   subst hvs
   simp only [List.all_cons,List.all_nil,Bool.and_true] at hst
   have hd:(raw t ay).dim.storable = true:=by
    generalize raw t ay = r at hst ⊢
    cases r <;> first | exact hst | rfl | skip
    rename_i xs f
    cases f <;> rfl
   refine ⟨by rw [qaD hd];simp [hd],by rw [qaD hd];rfl,fun i x hi=>?_,fun _ _ _ _=>.inr rfl⟩
   cases i with
   | zero=>simp at hi;exact .inl ⟨hi.symm,rfl⟩
   | succ i=>simp at hi
  | some m=>
   subst hvs
   refine ⟨?_,by simp,fun i x hi=>.inr ?_,fun γ imm us hu=>.inl hu.dims⟩
   ·rw [List.all_map] at hst
    rw [List.all_eq_true] at hst ⊢
    intro y hy
    have:=hst y hy
    cases y <;> first | exact this | rfl
   ·simp only [List.getElem?_map,Option.map_eq_some_iff] at hi
    obtain ⟨z,_,rfl⟩:=hi
    exact qbx z
 obtain ⟨hc1,hc2,hc3,hc4⟩:=hcells
 obtain ⟨hr1,hr2⟩:=qbO (qcT hyr) hc1
 have hvsrel:G.VL vs (a.eval y).cells.toList:=by
  rcases hc4 _ _ _ hr1 with h1 | h1
  ·exact h1
  ·subst h1
   subst hvs
   simp only [List.all_cons,List.all_nil,Bool.and_true] at hst
   have:=(qbO hyr (by rw [qaD hst];simp [hst])).1
   rwa [qaD hst] at this
 have hcsl:cs.length ≤ c.size:=by simpa using qeM hcs
 have hsize:(a.eval y).cells.size = k.getD 1:=by have:=hvsrel.length;simp at this;omega
 have hrun0:=qrv (P:=P) (w:=w) hsz hw hsize (by omega:p + k.getD 1 ≤ c.size) hr2
 generalize hc':(c.toList.take p ++ (a.eval y).cells.toList ++ c.toList.drop (p + (a.eval y).cells.toList.length)).toArray = c' at hrun0
 have hrun:(execOp a.eval o).run P w = .ok .skip (w.setRow b c'):=by simp [execOp,ho,he,hrun0]
 have hrel':G.VL (splice cs p vs) (c'.toList.take (splice cs p vs).length):=by
  rw [←hc']
  exact qfD hcs hvsrel hfit
 have hvl:(a.eval y).cells.toList.length = vs.length:=hvsrel.length.symm
 have hcz:c'.size = c.size:=by rw [←hc'];simp at hvl ⊢;omega
 have hcget:∀i,i < p∨p + vs.length ≤ i→c'[i]? = c[i]?:=fun i hi=>by
  have:=(qbn (cs:=c.toList) (vs:=(a.eval y).cells.toList) (o:=p) (i:=i) (by simp at hvl ⊢;omega)).1 (by rw [hvl];exact hi)
  rw [←hc',←Array.getElem?_toList,←Array.getElem?_toList (xs:=c)]
  exact this
 by_cases hownx:∃i xs j,ay = .t i∧t[i]? = some (.lst xs (.own j))
 ·obtain ⟨i,xs,j,rfl,hi⟩:=hownx
  have hy':=qgB hy
  subst hy'
  obtain ⟨v,hv,hr⟩:=hc.tr.rel.get hi
  have hve:=qhH hv
  have hg:t.getD i .undef = .lst xs (.own j):=by simp [List.getD,hi]
  have hdr:qaF t (.t i) = t.set i (.lst xs .no):=by simp only [qaF,hg]
  obtain ⟨b2,p2,len,cap,c2,e2,rfl,k1,k2,k3,k4,k5⟩:=hc.tr.own i xs j v hi (by simpa using hv)
  have hb2:b2 ≠ b:=fun e1=>(hc.rel.ow b2 _ k1).2 id (e1▸hb)
  rw [hdr]
  refine ⟨_,undef,_,G.give b2 (some (.cell id p)),hrun,.inr ⟨rfl,rfl⟩,fun hq _=>absurd (.inl ⟨ty,x,_,ho⟩) hq,Ext.store n hb hw rfl rfl (fun x hx=>?_),?_,?_⟩
  ·simp only [qd.give] at hx
   split at hx
   ·rename_i e1;subst e1;simp [k1]
   ·exact hx
  ·refine hc.rel.store hb hid hw rfl rfl (fun x hx=>?_) (fun x id' o' hne hx=>?_) hrel' hcz (fun o' ys k' u hy' hu=>?_)
   ·simp only [qd.give] at hx
    split at hx
    ·rename_i e1;subst e1;simp [k1]
    ·exact hx
   ·have:x ≠ b2:=fun e1=>by subst e1;rw [k1] at hx;cases hx
    simpa [qd.give,this] using hx
   ·rcases qd5 hfit hy' with ⟨h1,h2⟩ | ⟨h1,h2,h3⟩
    ·have h4:c[o']? = some u:=by rw [←hcget o' h1];exact hu
     refine (hown o' ys k' u h2 h4).keep (fun x hx=>?_) (fun x hx=>qr w b x c' (fun e1=>(hc.rel.ow x _ hx).2 id (e1▸hb))) (fun _ _ _ h=>h)
     have:x ≠ b2:=fun e1=>by subst e1;rw [k1] at hx;cases hx
     simpa [qd.give,this] using hx
    ·rcases hc3 _ _ h3 with ⟨h4,h5⟩ | h4
     ·subst h5
      simp only [raw,hg,qa.lst.injEq,qfQ.own.injEq] at h4
      obtain ⟨rfl,rfl⟩:=h4
      have hvl1:vs.length = 1:=by rw [←hvs];rfl
      have ho':o' = p:=by omega
      subst ho'
      have hu':u = .slice (some ⟨b2,p2,none⟩) len cap:=by
       have h6:=(qbn (cs:=c.toList) (vs:=(a.eval (.tmp i)).cells.toList) (o:=o') (i:=o') (by simp at hvl ⊢;omega)).2 (Nat.le_refl _) (by rw [hvl];omega)
       rw [←hc',←Array.getElem?_toList,h6,hve] at hu
       simpa [Value.cells] using hu.symm
      subst hu'
      exact ⟨b2,p2,len,cap,c2,e2,rfl,by simp [qd.give],by rw [qr w b b2 c' hb2];exact k2,k3,k4,k5⟩
     ·simp [qa.dim] at h4
  ·have htr:=(hc.tr.give (ℓ:=some (.cell id p)) hi k1).store (hc.rel.give (ℓ:=.cell id p) k1 (fun _ _ e1=>by cases e1)) c' (id:=id) (b:=b) hb
   exact htr.put o.dst (by simp [qd.V,qt,undef,mark]) rfl a.defers
 ·have hown':∀i xs k,ay = .t i→t[i]? ≠ some (.lst xs (.own k)):=fun i xs k h1 h2=>hownx ⟨i,xs,k,h1,h2⟩
  obtain ⟨hd1,hd2⟩:=qgF hown' (qiW hy)
  rw [hd2]
  refine ⟨_,undef,_,G,hrun,.inr ⟨rfl,rfl⟩,fun hq _=>absurd (.inl ⟨ty,x,_,ho⟩) hq,Ext.store n hb hw rfl rfl (fun _ h=>h),?_,?_⟩
  ·refine hc.rel.store hb hid hw rfl rfl (fun _ h=>h) (fun _ _ _ _ h=>h) hrel' hcz (fun o' ys k' u hy' hu=>?_)
   rcases qd5 hfit hy' with ⟨h1,h2⟩ | ⟨h1,h2,h3⟩
   ·have h4:c[o']? = some u:=by rw [←hcget o' h1];exact hu
    exact (hown o' ys k' u h2 h4).keep (fun _ h=>h) (fun x hx=>qr w b x c' (fun e1=>(hc.rel.ow x _ hx).2 id (e1▸hb))) (fun _ _ _ h=>h)
   ·exfalso
    rcases hc3 _ _ h3 with ⟨h4,_⟩ | h4
    ·rw [←h4] at hd1;simp [qa.dim] at hd1
    ·simp [qa.dim] at h4
  ·exact (hc.tr.store hc.rel c' hb).put o.dst (by simp [qd.V,qt,undef,mark]) rfl a.defers
end
end Go.AE
namespace Go.AE
theorem qde {xs:List qa} {k:Nat} (h:∀x ∈ xs,x.cells.length = k):(qeJ xs).length = xs.length * k:=by
 induction xs with
 | nil=>simp [qeJ]
 | cons x xs ih=>
  have h1:=h x (by simp)
  have h2:=ih fun y hy=>h y (by simp [hy])
  simp only [qeJ,List.flatMap_cons,List.length_append,List.length_cons] at h2 ⊢
  rw [h1,h2,Nat.add_mul,Nat.one_mul,Nat.add_comm]
section
variable {γ:Nat→Option Nat} {imm:Nat→Nat→Option Value}
theorem qL.list:∀{xs:List qa} {b p:Nat},qL γ imm xs b p→∃vs,qh γ imm (qeJ xs) vs∧∀(j:Nat) (v:Value),vs[j]? = some v→imm b (p + j) = some v
 | [],b,p,_=>⟨[],by simp [qeJ,qh],fun j v h=>by simp at h⟩
 | x :: xs,b,p,hx=>by
  obtain ⟨h1,h2⟩:=hx.uncons
  obtain ⟨vs,h3,h4⟩:=h1.list
  obtain ⟨us,h5,h6⟩:=qL.list h2
  refine ⟨vs ++ us,by simpa [qeJ] using h3.append h5,fun j v hj=>?_⟩
  by_cases e:j < vs.length
  ·rw [List.getElem?_append_left e] at hj;exact h4 j v hj
  ·rw [List.getElem?_append_right (by omega)] at hj
   have:=h6 _ v hj
   rw [h3.length] at this
   rwa [show p + vs.length + (j - vs.length) = p + j by omega] at this
theorem qL.of_flat:∀{xs:List qa} {vs:List Value} {b p:Nat},qh γ imm (qeJ xs) vs→(∀(j:Nat) (v:Value),vs[j]? = some v→v ≠ mark→imm b (p + j) = some v)→qL γ imm xs b p
 | [],_,_,_,_,_=>by simp [qL]
 | x :: xs,vs,b,p,hv,hi=>by
  simp only [qeJ,List.flatMap_cons] at hv
  have hl:=hv.length
  refine qL.cons (qaj.of_get fun i c hc=>?_) (qL.of_flat (vs:=vs.drop x.cells.length) ?_ fun j v hj hm=>?_)
  ·obtain ⟨v,h1,h2⟩:=hv.get (i:=i) (a:=c) (by rw [List.getElem?_append_left (List.getElem?_eq_some_iff.1 hc).1];exact hc)
   exact ⟨v,hi i v h1 (qcJ h2),h2⟩
  ·have:=hv.drop x.cells.length
   simpa [qeJ] using this
  ·rw [List.getElem?_drop] at hj
   rw [Nat.add_assoc]
   exact hi _ v hj hm
theorem qL.cells_one {xs:List qa} {vs:List Value} (h:qh γ imm (qeJ xs) vs) (hs:(qeJ xs).all qa.storable = true):∀v ∈ vs,v.oneCell' = true:=by
 intro v hv
 obtain ⟨i,hi⟩:=List.getElem?_of_mem hv
 obtain ⟨a,ha,hr⟩:=h.get' hi
 have hst:a.storable = true:=by rw [List.all_eq_true] at hs;exact hs a (List.mem_of_getElem? ha)
 have:=(qbO hr (by rw [qaD hst];simp [hst])).2 v (by
  cases v <;> first | (simp [Value.cells];done) | skip
  all_goals
   exfalso
   cases a <;> first | (simp [qa.storable] at hst;done) | (simp only [qt] at hr;first | (cases hr;done) | (obtain ⟨_,hr⟩:=hr;cases hr;done) | (obtain ⟨_,hr,_⟩:=hr;cases hr;done) | (obtain ⟨_,_,hr,_⟩:=hr;cases hr;done) | (obtain ⟨_,_,hr⟩:=hr;cases hr;done) | (obtain ⟨_,_,_,hr,_⟩:=hr;cases hr;done)))
 exact this
end
section
variable {P:Program} {gl:Nat→Option (List qa)} {G G':qd} {w w':World} {h:List qf} {t:List qa} {a:Act} {n:Nat}
theorem qgi (hr:Rel P gl G h w) {xs:List qa} {f:qfQ} {v:Value} (hv:G.V (.lst xs f) v) {k:Nat} (hk:∀x ∈ xs,x.cells.length = k) :
  ∃vs:List Value,G.VL (qeJ xs) vs∧(∀w1:World,(∀x,w1.cell? x = w.cell? x)→(Builtin.firstCells k xs.length v).run P w1 = .ok vs.toArray w1)∧(Builtin.lenOf v).run P w = .ok xs.length w:=by
 simp only [qd.V,qt] at hv
 obtain ⟨base,len,cap,rfl,h1,h2,h3,h4,_,h5⟩:=hv
 subst h1
 rcases h5 with rfl | ⟨b,p,rfl,hE⟩
 ·refine ⟨[],by simp [qeJ,qd.VL,qh],fun w1 _=>?_,by simp [Builtin.lenOf]⟩
  cases base with
  | none=>simp [Builtin.firstCells]
  | some a0=>simp [Builtin.firstCells,loadCells,loadCellsFrom]
 ·obtain ⟨vs,h6,h7⟩:=hE.list
  refine ⟨vs,h6,fun w1 hw1=>?_,by simp [Builtin.lenOf]⟩
  have hl:vs.length = xs.length * k:=by rw [←h6.length,qde hk]
  have:=run_loadCells_list (P:=P) w1 ⟨b,p,none⟩ vs (fun j v hj=>by
   rw [qbE,hw1]
   obtain ⟨x,_,hxr⟩:=h6.get' hj
   exact (hr.imm b _ v (h7 j v hj) (qcJ hxr)).1)
  rw [hl] at this
  simp [Builtin.firstCells,this]
theorem qg4 {s:List UInt8} {v:Value} (hv:G.V (.str s) v):∃vs:List Value,G.VL (qeJ (qhL s)) vs∧(∀(k:Nat) (w1:World),(Builtin.firstCells k s.length v).run P w1 = .ok vs.toArray w1)∧(Builtin.lenOf v).run P w = .ok s.length w:=by
 simp only [qd.V,qt] at hv
 obtain ⟨b,rfl,hb⟩:=hv
 have hsz:b.size = s.length:=by rw [←hb];rfl
 refine ⟨s.map fun c=>.int .u8 c.toNat,?_,fun k w1=>?_,by simp [Builtin.lenOf,hsz]⟩
 ·clear hb hsz
  induction s with
  | nil=>simp [qeJ,qhL,qd.VL,qh]
  | cons c s ih=>
   simp only [qeJ,qhL,List.map_cons,List.flatMap_cons,qa.cells,List.singleton_append,qd.VL,qh] at ih ⊢
   exact ⟨_,_,rfl,by simp [qt],ih⟩
 ·have he:(b.extract 0 s.length).data = b.data:=by
   apply Array.ext'
   rw [qgh]
   rw [←hb]
   simp only [List.drop_zero,Nat.sub_zero]
   exact List.take_of_length_le (Nat.le_refl _)
  simp only [Builtin.firstCells,Sem.run_pure]
  congr 1
  rw [he]
  apply Array.ext'
  simp [hb]
theorem qmB (need cap:Nat) (h:need ≤ 2 ^ 30) (hc:cap < need):Builtin.nextslicecap need cap ≤ 2 ^ 32:=by
 unfold Builtin.nextslicecap
 split
 ·omega
 ·split
  ·omega
  ·have g0:∀c,Builtin.growBy need 0 c = c:=fun c=>rfl
   have gs:∀n c,Builtin.growBy need (n + 1) c = if c ≥ need then c else Builtin.growBy need n (c + (c + 768) / 4):=fun n c=>rfl
   rw [gs]
   split
   ·omega
   ·rw [gs]
    split
    ·omega
    ·rw [gs]
     split
     ·omega
     ·rw [gs]
      split
      ·omega
      ·rw [g0]
       omega
end
end Go.AE
namespace Go.AE
section
variable {P:Program} {gl:Nat→Option (List qa)} {G G':qd} {w w':World} {h:List qf} {t:List qa} {a:Act} {n:Nat}
noncomputable def qd.fixed (G:qd) (b:Nat) (c:Array Value) (lo hi:Nat) (ℓ:Option Loc):qd:=
 { γ:=G.γ,imm:=fun x o=>if x = b∧lo ≤ o∧o < hi then qlx c[o]? else G.imm x o,ow:=fun x=>if x = b then ℓ else G.ow x}
theorem qdU {sT xT e:TypeId} {i:TypeInfo} {ux:TypeDesc} (hu:P.underlying sT = some (.slice e)) (hx:P.underlying xT = some ux) (hux:(∃e',ux = .slice e')∨ux = .string) (hi:P.info? e = some i)
  {base:Option Addr} {len cap m:Nat} {x:Value} (hl:(Builtin.lenOf x).run P w = .ok m w) (ty:TypeId) (old new:List Value)
  (hnew:∀w1:World,(∀y,w1.cell? y = w.cell? y)→(Builtin.firstCells i.size m x).run P w1 = .ok new.toArray w1)
  (hold:∀w1:World,(∀y,w1.cell? y = w.cell? y)→(Builtin.firstCells i.size len (.slice base len cap)).run P w1 = .ok old.toArray w1)
  (hlim:len + m ≤ 2 ^ 30) (hb:i.bytes ≤ 65536) {z:Value} (hz:∀w1:World,(zeroValue e).run P w1 = .ok z w1) (hzs:z.cells.size = i.size) (hold':old.length = len * i.size) (hnew':new.length = m * i.size) :
  (cap < len + m→∃newCap d c,len + m ≤ newCap∧(Builtin.append_ #[sT,xT] ty #[.slice base len cap,x]).run P w = .ok (.slice (some ⟨w.heap.size,0,none⟩) (len + m) newCap) (({ w with drawn:=d}:World).alloc (.cells c e))∧
   c.size = newCap * i.size∧∀(j:Nat) (v:Value),(old ++ new)[j]? = some v→c[j]? = some v)∧
  (len + m ≤ cap→∀b p,base = some ⟨b,p,none⟩→∀(c:Array Value) (te:TypeId),w.heap[b]? = some (.cells c te (0,0))→p + (len + m) * i.size ≤ c.size→(∀v ∈ new,v.oneCell' = true)→
   (Builtin.append_ #[sT,xT] ty #[.slice base len cap,x]).run P w = .ok (.slice base (len + m) cap) (w.setRow b (c.toList.take (p + len * i.size) ++ new ++ c.toList.drop (p + len * i.size + new.length)).toArray))∧
  (m = 0→len ≤ cap→(Builtin.append_ #[sT,xT] ty #[.slice base len cap,x]).run P w = .ok (.slice base len cap) w):=by
 rcases hux with ⟨e',rfl⟩ | rfl
 all_goals
  have hsz:(sizeOf e).run P w = .ok i.size w:=by simp [sizeOf,typeInfo,hi]
  have hti:∀w1:World,(typeInfo e).run P w1 = .ok i w1:=fun w1=>by simp [typeInfo,hi]
  have hn0:=hnew w (fun _=>rfl)
  refine ⟨fun hc=>?_,fun hc b p hbase c te hw hfit h1=>?_,fun hm hc=>?_⟩
  ·have hne:¬ (len + m ≤ cap):=by omega
   have hmax:¬ (((len + m:Nat):Int) > IntKind.i64.max∧(False∨i.bytes = 0)):=by
    simp only [IntKind.max,IntKind.signed,IntKind.bits,if_true]
    omega
   have hnc:=qmB (len + m) cap hlim hc
   have hnc2:¬ (Builtin.nextslicecap (len + m) cap * i.bytes > 2 ^ 48):=by
    have:Builtin.nextslicecap (len + m) cap * i.bytes ≤ 2 ^ 32 * 65536:=Nat.mul_le_mul hnc hb
    omega
   have hq:(Question.appendCap (len + m) cap e).forced = false:=rfl
   generalize hcapv:(Question.appendCap (len + m) cap e).cut (w.tape w.drawn (Question.appendCap (len + m) cap e)) = newCap
   have hge:len + m ≤ newCap:=by rw [←hcapv];simp only [Question.cut];omega
   refine ⟨newCap,w.drawn + 1,old.toArray ++ new.toArray ++ Builtin.zeroCells z.cells (newCap - (len + m)),hge,?_,?_,?_⟩
   ·have hold1:=hold w.drew (fun _=>rfl)
    have hnew1:=hnew w.drew (fun _=>rfl)
    have hz1:=hz w.drew
    have ht1:=hti w.drew
    have ht0:=hti w
    have hm1:¬ (9223372036854775807 < (len:Int) + (m:Int)∧i.bytes = 0):=by omega
    have hnc3:¬ (281474976710656 < Builtin.nextslicecap (len + m) cap * i.bytes):=by omega
    simp [Builtin.append_,run_underlying hu,run_underlying hx,hsz,hl,hne,ht0,hm1,hnc3,hq,hcapv,ht1,hold1,hnew1,hz1,newRow,IntKind.max,IntKind.signed,IntKind.bits]
    exact congrArg (fun c=>w.drew.alloc (Obj.cells c e)) (Array.ext' (by simp))
   ·simp [Builtin.zeroCells,hold',hnew',hzs]
    rw [←Nat.add_mul,←Nat.add_mul]
    congr 1;omega
   ·intro j v hj
    have hj':(old.toArray ++ new.toArray)[j]? = some v:=by simpa [Array.getElem?_append,List.getElem?_append] using hj
    rw [Array.getElem?_append_left (Array.getElem?_eq_some_iff.1 hj').1]
    exact hj'
  ·subst hbase
   have hst:=run_storeCells_at P b (p + len * i.size) te new 0 c w hw (by
    rw [Nat.add_mul] at hfit
    rw [hnew'];omega) h1
   simp only [Nat.add_zero] at hst
   simp [Builtin.append_,run_underlying hu,run_underlying hx,hsz,hl,hc,hn0,qbE,hst]
  ·subst hm
   have hnil:new = []:=by
    have:new.length = 0:=by rw [hnew'];simp
    exact List.eq_nil_of_length_eq_zero this
   subst hnil
   cases base with
   | none=>simp [Builtin.append_,run_underlying hu,run_underlying hx,hsz,hl,hc,hn0]
   | some a0=>simp [Builtin.append_,run_underlying hu,run_underlying hx,hsz,hl,hc,hn0,storeCells]
end
end Go.AE
namespace Go.AE
section
variable {P:Program} {gl:Nat→Option (List qa)} {G G':qd} {w w':World} {h:List qf} {t:List qa} {a:Act} {n:Nat}
def qvy (h:List qf) (t:List qa):Loc→Prop
 | .tmp i=>∀xs k,t[i]? ≠ some (.lst xs (.own k))
 | .cell id o=>(∀cs xs k,h[id]? = some (.cells cs)→cs[o]? ≠ some (.lst xs (.own k)))∧∀T e s,h[id]? ≠ some (.bld T e s)
theorem qoK (hr:Rel P gl G h w) (ht:qaE G w t a.tmps) {b s hi:Nat} {ℓ0:Loc} {ℓ:Option Loc} {c c':Array Value} {e:TypeId} (hb:G.ow b = some ℓ0) (hq:qvy h t ℓ0)
  (hw:w.heap[b]? = some (.cells c e (0,0))) (himm:∀j,s ≤ j→G.imm b j = none) (hlow:∀j,j < s→c'[j]? = c[j]?) (hsz:c'.size = c.size) (n:Nat) :
  Rel P gl (G.fixed b c' s hi ℓ) h (w.setRow b c')∧qaE (G.fixed b c' s hi ℓ) (w.setRow b c') t a.tmps∧Ext n G w (G.fixed b c' s hi ℓ) (w.setRow b c'):=by
 have hγb:∀i,G.γ i ≠ some b:=(hr.ow b ℓ0 hb).2
 have hik:∀x o v,G.imm x o = some v→(G.fixed b c' s hi ℓ).imm x o = some v:=by
  intro x o v hv
  simp only [qd.fixed]
  rw [if_neg]
  ·exact hv
  ·rintro ⟨rfl,h1,_⟩
   rw [himm o h1] at hv
   cases hv
 have hin:∀x j,x ≠ b→G.imm x j = none→(G.fixed b c' s hi ℓ).imm x j = none:=by
  intro x j hx hj
  simp only [qd.fixed]
  rw [if_neg (fun hh=>hx hh.1)]
  exact hj
 have how:∀x ℓ',x ≠ b→G.ow x = some ℓ'→(G.fixed b c' s hi ℓ).ow x = some ℓ':=by
  intro x ℓ' hx hh
  simp only [qd.fixed]
  rw [if_neg hx];exact hh
 refine ⟨⟨fun i x hx=>by simpa using hr.γlt i x hx,hr.inj,fun i x bx hx hbx=>?_,fun x o v hv hm=>?_,fun x o v i hv hm=>?_,fun x o hv=>?_,fun x ℓ' hx=>?_,fun g cs hg=>?_⟩,?_,?_⟩
 ·have hxb:x ≠ b:=fun e1=>hγb i (e1▸hx)
  have h0:=hr.box i x bx hx hbx
  cases bx with
  | cells cs=>
   obtain ⟨d,e',h1,h2,h3⟩:=h0
   obtain ⟨m,hm⟩:=qao cs
   refine ⟨d,e',by rw [qr w b x c' hxb];exact h1,qh.mono hik m (fun _ _ _ h=>h) cs _ hm h2,fun o xs k v ho hv=>?_⟩
   have hne:∀y,G.ow y = some (.cell i o)→y ≠ b:=fun y hy e1=>by
    subst e1
    rw [hb] at hy
    cases hy
    exact hq.1 cs xs k hbx ho
   exact (h3 o xs k v ho hv).keep (fun y hy=>how y _ (hne y hy) hy) (fun y hy=>qr w b y c' (hne y hy)) (fun y j hy hj=>hin y j (hne y hy) hj)
  | loop tt _ _ _ _ _=>
   obtain ⟨L,h1,h2⟩:=h0
   obtain ⟨m,hm⟩:=qao tt
   exact ⟨L,by rw [qr w b x c' hxb];exact h1,{ h2 with tmps:=qh.mono hik m (fun _ _ _ h=>h) tt _ hm h2.tmps}⟩
  | map es _=>
   obtain ⟨me,h1,h2⟩:=h0
   obtain ⟨m,hm⟩:=qcA es
   exact ⟨me,by rw [qr w b x c' hxb];exact h1,qV.mono hik m (fun _ _ _ h=>h) hm h2⟩
  | iter im _ _ _=>
   obtain ⟨mm,h1,h2⟩:=h0
   obtain ⟨m,hm⟩:=AE.lower_ex im
   exact ⟨mm,by rw [qr w b x c' hxb];exact h1,qt.mono hik m (fun _ _ _ h=>h) _ _ hm h2⟩
  | bld _ _ _=>
   have hne:∀y,G.ow y = some (.cell i 1)→y ≠ b:=fun y hy e1=>by
    subst e1
    rw [hb] at hy
    cases hy
    exact hq.2 _ _ _ hbx
   exact qnc.keep h0 (qr w b x c' hxb) (fun y hy=>how y _ (hne y hy) hy) (fun y hy=>qr w b y c' (hne y hy)) (fun y j hy hj=>hin y j (hne y hy) hj)
  | dead=>trivial
 ·simp only [qd.fixed] at hv
  split at hv
  ·rename_i hh
   obtain ⟨rfl,_,_⟩:=hh
   refine ⟨?_,by simpa using (hr.ow x ℓ0 hb).1⟩
   simp only [World.cell?,setRow_heap w x c c' e (0,0) hw]
   simpa using (qbd.1 hv).1
  ·rename_i hh
   obtain ⟨h1,h2⟩:=hr.imm x o v hv hm
   refine ⟨?_,by simpa using h2⟩
   by_cases hxb:x = b
   ·subst hxb
    have hos:o < s:=by
     by_cases hos:o < s
     ·exact hos
     ·rw [himm o (by omega)] at hv;cases hv
    simp only [World.cell?,setRow_heap w x c c' e (0,0) hw,hw] at h1 ⊢
    simpa [hlow o hos] using h1
   ·exact (qbo (qr w b x c' hxb)).trans h1
 ·simp only [qd.fixed] at hv
  split at hv
  ·rename_i hh;obtain ⟨rfl,_,_⟩:=hh;exact fun e1=>absurd e1 (hγb i)
  ·exact hr.immγ x o v i hv hm
 ·simp only [qd.fixed] at hv
  split at hv
  ·exact absurd rfl (qbd.1 hv).2
  ·obtain ⟨h0,d,e',h1,h2⟩:=hr.immK x o hv
   by_cases hxb:x = b
   ·subst hxb
    rw [hw] at h1;cases h1
    exact ⟨h0,c',e,setRow_heap w x c c' e (0,0) hw,by omega⟩
   ·exact ⟨h0,d,e',by rw [qr w b x c' hxb];exact h1,h2⟩
 ·simp only [qd.fixed] at hx
  split at hx
  ·rename_i hh;subst hh;exact ⟨by simpa using (hr.ow x ℓ0 hb).1,hγb⟩
  ·exact ⟨by simpa using (hr.ow x ℓ' hx).1,(hr.ow x ℓ' hx).2⟩
 ·obtain ⟨h1,h2⟩:=hr.glob g cs hg
  exact ⟨qdy.mono hik cs g h2 h1,h2⟩
 ·obtain ⟨m,hm⟩:=qao t
  refine ⟨qh.mono hik m (fun _ _ _ h=>h) t _ hm ht.rel,fun i xs k v hi' hv=>?_⟩
  have hne:∀y,G.ow y = some (.tmp i)→y ≠ b:=fun y hy e1=>by
   subst e1
   rw [hb] at hy
   cases hy
   exact hq xs k hi'
  exact (ht.own i xs k v hi' hv).keep (fun y hy=>how y _ (hne y hy) hy) (fun y hy=>qr w b y c' (hne y hy)) (fun y j hy hj=>hin y j (hne y hy) hj)
 ·refine ⟨fun _ _ h=>h,fun _ _ h=>.inl h,hik,fun x o v hv=>?_,fun x hx=>?_,by simp,fun x hx hf=>?_,fun x L hL=>?_,rfl,rfl,rfl⟩
  ·simp only [qd.fixed] at hv
   split at hv
   ·rename_i hh;obtain ⟨rfl,_,_⟩:=hh;exact .inr (.inr (.inl (by simp [hb])))
   ·exact .inl hv
  ·simp only [qd.fixed] at hx
   split at hx
   ·rename_i hh;subst hh;exact .inl (by simp [hb])
   ·exact .inl hx
  ·exact qr w b x c' (fun e1=>by subst e1;rw [hf.2] at hb;cases hb)
  ·have:x ≠ b:=fun e1=>by subst e1;rw [hw] at hL;cases hL
   exact ⟨L,by rw [qr w b x c' this];exact hL,rfl,rfl,rfl,rfl,rfl,rfl⟩
theorem Rel.drainCell (hr:Rel P gl G h w) {id o:Nat} {cs:List qa} {xs:List qa} {f:qfQ} (hid:h[id]? = some (.cells cs)) (ho:cs[o]? = some (.lst xs f)) :
  Rel P gl G (h.set id (.cells (cs.set o (.lst xs .no)))) w:=by
 have hil:=List.getElem?_eq_some_iff.1 hid |>.1
 refine ⟨fun i x hx=>by simpa using hr.γlt i x hx,qhK hr.inj hid (by simp),fun i x bx hx hbx=>?_,hr.imm,fun b o v i hv hm hg=>qdb hid (by simp) (hr.immγ b o v i hv hm hg),hr.immK,hr.ow,hr.glob⟩
 by_cases e1:id = i
 ·subst e1
  rw [List.getElem?_set_self hil] at hbx
  cases hbx
  obtain ⟨c,e,h1,h2,h3⟩:=hr.box id x _ hx hid
  obtain ⟨v,hv,hrv⟩:=h2.get ho
  have h4:=qh.set o h2 (qiU hrv)
  have e2:(c.toList.take cs.length).set o v = c.toList.take cs.length:=by
   obtain ⟨h5,h6⟩:=List.getElem?_eq_some_iff.1 hv
   rw [←h6];exact List.set_getElem_self h5
  rw [e2] at h4
  refine ⟨c,e,h1,by simpa using h4,fun o' ys k u ho' hu=>?_⟩
  by_cases e3:o = o'
  ·subst e3
   rw [List.getElem?_set_self (List.getElem?_eq_some_iff.1 ho).1] at ho'
   simp at ho'
  ·rw [List.getElem?_set_ne e3] at ho'
   exact h3 o' ys k u ho' hu
 ·rw [List.getElem?_set_ne e1] at hbx
  exact hr.box i x bx hx hbx
theorem qkF (hc:Cfg P gl G h t a w) {o:Oper} {c:Go.Call} {x y:Operand} {sT xT e:TypeId} {i:TypeInfo} {ux:TypeDesc} {z:qa} {ys xs:List qa} {f0:qfQ} (ho:o.op = .call c) (hcal:c.callee = .builtin .append)
  (hargs:c.args.toList = [x,y]) (hty:c.argTypes.toList = [sT,xT]) (hu:P.underlying sT = some (.slice e)) (hx:P.underlying xT = some ux) (hux:(∃e',ux = .slice e')∨ux = .string) (hi:P.info? e = some i)
  (hi0:i.size ≠ 0) (hb:i.bytes ≤ 65536) (hz:qbv P e = some z) (hzs:z.cells.length = i.size)
  (hxv:G.V (.lst xs f0) (a.eval x)) (hyv:∃nv:List Value,G.VL (qeJ ys) nv∧(∀w1:World,(∀q,w1.cell? q = w.cell? q)→(Builtin.firstCells i.size ys.length (a.eval y)).run P w1 = .ok nv.toArray w1)∧(Builtin.lenOf (a.eval y)).run P w = .ok ys.length w)
  (hlim:xs.length + ys.length ≤ qu) (hysk:∀y ∈ ys,y.cells.length = i.size) (hyst:(qeJ ys).all qa.storable = true) (hxsk:∀x ∈ xs,x.cells.length = i.size) (hne:ys ≠ [])
  (hmode:f0 = .full∨∃ℓ0,qr0 G w ℓ0 i.size (a.eval x)∧qvy h t ℓ0) (n:Nat) :
  Did P gl G w a o n h (AE.put o.dst (.lst (xs ++ ys) (.own i.size)) t):=by
 have ea:c.args = #[x,y]:=by rw [←Array.toArray_toList (xs:=c.args),hargs]
 have et:c.argTypes = #[sT,xT]:=by rw [←Array.toArray_toList (xs:=c.argTypes),hty]
 obtain ⟨nv,hn1,hn2,hn3⟩:=hyv
 obtain ⟨ov,ho1,ho2,ho3⟩:=qgi (P:=P) hc.rel hxv hxsk
 have hnl:nv.length = ys.length * i.size:=by rw [←hn1.length,qde hysk]
 have hol:ov.length = xs.length * i.size:=by rw [←ho1.length,qde hxsk]
 have hysl:0 < ys.length:=by cases ys with | nil=>exact absurd rfl hne | cons _ _=>simp
 have hn4:=qL.cells_one hn1 hyst
 obtain ⟨u0,hu0,hu0r⟩ :∃u0:Value,(∀w1:World,(zeroValue e).run P w1 = .ok u0 w1)∧u0.cells.size = i.size:=by
  unfold qbv at hz
  rw [hi] at hz
  simp only at hz
  obtain ⟨u,hu1,hu2⟩:=qv (by simpa [Option.bind_eq_bind] using hz)
  refine ⟨u,fun w1=>by simp [zeroValue,typeInfo,hi,hu1],?_⟩
  have:=(qfq (γ:=G.γ) (imm:=G.imm) hu2).length
  simp at this
  omega
 have hxv':=hxv
 simp only [qd.V,qt] at hxv'
 obtain ⟨base,len,cap,hval,h1,h2,h3,h4,_,h5⟩:=hxv'
 subst h1
 rw [hval] at ho2 ho3
 have hrunE:∀r w1,(Builtin.append_ #[sT,xT] o.type #[.slice base xs.length cap,a.eval y]).run P w = .ok r w1→(execOp a.eval o).run P w = .ok (.value r) w1:=by
  intro r w1 hr
  simp [execOp,ho,hcal,ea,et,resolve,invoke,builtin,hval,hr]
 obtain ⟨hA,hB,_⟩:=qdU (P:=P) (w:=w) hu hx hux hi hn3 o.type ov nv hn2 ho2 hlim hb hu0 hu0r hol hnl
 have huni:∀q ∈ xs ++ ys,q.cells.length = i.size:=fun q hq=>by
  rcases List.mem_append.1 hq with hq | hq
  ·exact hxsk q hq
  ·exact hysk q hq
 by_cases hcap:xs.length + ys.length ≤ cap
 ·
  rcases hmode with rfl | ⟨ℓ0,hown,hq⟩
  ·exfalso;have:=h3 rfl;omega
  ·obtain ⟨b,p,len',cap',cc,te,hval',k1,k2,k3,k4,k5⟩:=hown
   rw [hval] at hval'
   cases hval'
   have hrun:=hrunE _ _ (hB hcap b p rfl cc te k2 (by have:=Nat.mul_le_mul_right i.size hcap;omega) hn4)
   generalize hc':(cc.toList.take (p + xs.length * i.size) ++ nv ++ cc.toList.drop (p + xs.length * i.size + nv.length)).toArray = c' at hrun
   have hfit:p + xs.length * i.size + nv.length ≤ cc.toList.length:=by
    have:(xs.length + ys.length) * i.size ≤ cap * i.size:=Nat.mul_le_mul_right _ hcap
    rw [Nat.add_mul] at this
    simp;omega
   have hlow:∀j,j < p + xs.length * i.size→c'[j]? = cc[j]?:=fun j hj=>by
    have:=(qbn (cs:=cc.toList) (vs:=nv) (o:=p + xs.length * i.size) (i:=j) hfit).1 (.inl hj)
    rw [←hc',←Array.getElem?_toList,←Array.getElem?_toList (xs:=cc)]
    exact this
   have hnew:∀(j:Nat) (v:Value),nv[j]? = some v→c'[p + xs.length * i.size + j]? = some v:=fun j v hj=>by
    have hjl:=(List.getElem?_eq_some_iff.1 hj).1
    have:=(qbn (cs:=cc.toList) (vs:=nv) (o:=p + xs.length * i.size) (i:=p + xs.length * i.size + j) hfit).2 (by omega) (by omega)
    rw [←hc',←Array.getElem?_toList,this]
    simpa using hj
   have hcsize:c'.size = cc.size:=by rw [←hc'];simp at hfit ⊢;omega
   obtain ⟨f1,f2,f3⟩:=qoK (P:=P) (gl:=gl) (ℓ:=o.dst.map Loc.tmp) (hi:=p + xs.length * i.size + nv.length) hc.rel hc.tr k1 hq k2 k5 hlow (by omega) n
   have hV:(G.fixed b c' (p + xs.length * i.size) (p + xs.length * i.size + nv.length) (o.dst.map Loc.tmp)).V (.lst (xs ++ ys) (.own i.size)) (.slice (some ⟨b,p,none⟩) (xs.length + ys.length) cap):=by
    simp only [qd.V,qt]
    refine ⟨_,_,_,rfl,by simp,hcap,by simp,by simp,⟨i.size,huni⟩,.inr ⟨b,p,rfl,?_⟩⟩
    refine qL.append hxsk ?_ ?_
    ·rcases h5 with rfl | ⟨b',p',hbp,hE⟩
     ·simp [qL]
     ·cases hbp
      obtain ⟨m,hm⟩:=qao xs
      exact qL.mono f3.ik m (fun _ _ _ h=>h) xs b p hm hE
    ·refine qL.of_flat (vs:=nv) (f3.VL hn1) fun j v hj hm=>?_
     simp only [qd.fixed]
     rw [if_pos ⟨trivial,by omega,by have:=(List.getElem?_eq_some_iff.1 hj).1;omega⟩]
     exact qbd.2 ⟨hnew j v hj,hm⟩
   refine ⟨_,_,_,_,hrun,.inl rfl,fun hq _=>absurd (.inr ⟨c,ho,hcal⟩) hq,f3,f1,?_⟩
   cases hd:o.dst with
   | none=>simpa [AE.put,Act.put,hd] using f2
   | some d=>
    rw [hd] at hV f1 f2 f3
    refine f2.putOwn d hV ⟨b,p,_,cap,c',te,rfl,by simp [qd.fixed],setRow_heap w b cc c' te (0,0) k2,hcap,by rw [hcsize];exact k4,fun j hj=>?_⟩ a.defers
    simp only [qd.fixed]
    rw [if_neg (fun hh=>by rw [Nat.add_mul] at hj;omega)]
    exact k5 j (by rw [Nat.add_mul] at hj;omega)
 ·
  obtain ⟨newCap,d0,cc,hge,hrun,hcs,hcc⟩:=hA (by omega)
  have hrun:=hrunE _ _ hrun
  have hr0:Rel P gl G h { w with drawn:=d0}:=hc.rel.of_drew d0
  have ht0:qaE G { w with drawn:=d0} t a.tmps:=hc.tr.of_drew d0
  have f1:=hr0.newRow cc e ((xs.length + ys.length) * i.size) (o.dst.map Loc.tmp)
  have f2:=qaE.newRow hr0 ht0 cc e ((xs.length + ys.length) * i.size) (o.dst.map Loc.tmp)
  have f3:Ext n G w _ _:=((Ext.refl n G w).drew d0).trans (Nat.le_refl n) (Ext.newRow n cc e ((xs.length + ys.length) * i.size) (o.dst.map Loc.tmp) hr0)
  have hsz:({ w with drawn:=d0}:World).heap.size = w.heap.size:=rfl
  have hcel:∀(j:Nat) (v:Value),(ov ++ nv)[j]? = some v→v ≠ mark→(G.withRow w.heap.size cc ((xs.length + ys.length) * i.size) (o.dst.map Loc.tmp)).imm w.heap.size (0 + j) = some v:=fun j v hj hm=>by
   have hjl:=(List.getElem?_eq_some_iff.1 hj).1
   simp only [List.length_append,hol,hnl] at hjl
   rw [←Nat.add_mul] at hjl
   simp only [qd.withRow,Nat.zero_add,if_true,if_pos hjl]
   exact qbd.2 ⟨hcc j v hj,hm⟩
  have hV:(G.withRow w.heap.size cc ((xs.length + ys.length) * i.size) (o.dst.map Loc.tmp)).V (.lst (xs ++ ys) (.own i.size)) (.slice (some ⟨w.heap.size,0,none⟩) (xs.length + ys.length) newCap):=by
   simp only [qd.V,qt]
   refine ⟨_,_,_,rfl,by simp,hge,by simp,by simp,⟨i.size,huni⟩,.inr ⟨_,_,rfl,?_⟩⟩
   refine qL.of_flat (vs:=ov ++ nv) ?_ hcel
   have:qeJ (xs ++ ys) = qeJ xs ++ qeJ ys:=by simp [qeJ]
   rw [this]
   exact (f3.VL ho1).append (f3.VL hn1)
  refine ⟨_,_,_,_,hrun,.inl rfl,fun hq _=>absurd (.inr ⟨c,ho,hcal⟩) hq,f3,f1,?_⟩
  cases hd:o.dst with
  | none=>simpa [AE.put,Act.put,hd] using f2
  | some d=>
   rw [hd] at hV f1 f2 f3
   refine f2.putOwn d hV ⟨w.heap.size,0,_,newCap,cc,e,rfl,by simp [qd.withRow],qZ _ _,hge,by rw [hcs];omega,fun j hj=>?_⟩ a.defers
   simp only [qd.withRow,if_true]
   rw [if_neg (by omega)]
end
end Go.AE
namespace Go.AE
section
variable {P:Program} {gl:Nat→Option (List qa)} {G G':qd} {w w':World} {h:List qf} {t:List qa} {a:Act} {n:Nat}
def qbh (G:qd) (w:World) (t:List qa) (a:Act) (p:qco):Prop:=
 ∀d s,(d,s) ∈ p→∀u,a.tmps[d]? = some u→match s with
  | .tmp i=>a.tmps.getD i undef = u
  | .cell x=>∀id o,ev t x = .ptr id o→∃b,G.γ id = some b∧w.cell? ⟨b,o,none⟩ = some u
theorem qbh.nil:qbh G w t a []:=fun _ _ h=>by cases h
structure qyH (P:Program) (gl:Nat→Option (List qa)) (o:Oper) (k:Nat) (ax ay:qk):Prop where
 ex:∃(c:Go.Call) (x y:Operand) (sT xT e:TypeId) (i:TypeInfo) (ux:TypeDesc) (z:qa),o.op = .call c∧c.callee = .builtin .append∧c.args.toList = [x,y]∧c.argTypes.toList = [sT,xT]∧
  P.underlying sT = some (.slice e)∧P.underlying xT = some ux∧((∃e',ux = .slice e')∨ux = .string)∧P.info? e = some i∧i.size = k∧i.size ≠ 0∧i.bytes ≤ 65536∧qbv P e = some z∧z.cells.length = i.size∧
  opd gl x = some ax∧opd gl y = some ay
theorem qrN {xs:List qa} {f:qfQ} {v:Value} {k:Nat} (hv:G.V (.lst xs f) v) (hk:xs.head?.all (fun y=>y.cells.length == k) = true):∀x ∈ xs,x.cells.length = k:=by
 simp only [qd.V,qt] at hv
 obtain ⟨_,_,_,_,_,_,_,_,⟨k',h6⟩,_⟩:=hv
 intro x hx
 cases xs with
 | nil=>cases hx
 | cons y ys=>
  simp at hk
  rw [h6 x hx,←h6 y (by simp),hk]
theorem qm6 (hc:Cfg P gl G h t a w) {p:qco} (hp:qbh G w t a p) {k:Nat} {x:Operand} {ax:qk} (hx:opd gl x = some ax) {xs0:List qa} {f:qfQ} (hraw:raw t ax = .lst xs0 f) {e:Bool} {xs:List qa} {s':St} (ht:qdR k p ax ⟨t,h,e⟩ = some (xs,s')) :
  ∃ℓ0,Cfg P gl G s'.h s'.t a w∧s'.e = e∧s'.h.length = h.length∧qr0 G w ℓ0 k (a.eval x)∧qvy s'.h s'.t ℓ0∧G.V (.lst xs .no) (a.eval x):=by
 unfold qdR at ht
 split at ht
 ·cases ht
 ·rename_i i
  have hx':=qgB hx
  subst hx'
  simp only at ht
  have hi0:t[i]? = some (.lst xs0 f):=getD_some hraw
  obtain ⟨u,hu,hru⟩:=hc.tr.rel.get hi0
  have hev:=qhH hu
  have hu':a.tmps[i]? = some u:=by simpa using hu
  split at ht
  ·rename_i xs1 j he
   split at ht
   ·rename_i hj
    cases ht
    subst hj
    have hi:=getD_some he
    have:xs0 = xs∧f = .own j:=by rw [hi0] at hi;cases hi;exact ⟨rfl,rfl⟩
    obtain ⟨rfl,rfl⟩:=this
    refine ⟨.tmp i,⟨hc.rel,hc.tr.drain hi⟩,rfl,rfl,?_,?_,?_⟩
    ·rw [hev];exact hc.tr.own i _ j u hi hu'
    ·intro ys k' hq
     simp only at hq
     rw [List.getElem?_set_self (List.getElem?_eq_some_iff.1 hi).1] at hq
     simp at hq
    ·rw [hev];exact qiU hru
   ·cases ht
  ·split at ht
   ·rename_i d b hf
    have hmem:=List.mem_of_find?_eq_some hf
    have hd:d = i:=by have:=List.find?_some hf;simpa using this
    subst hd
    split at ht
    ·rename_i xs1 j he
     split at ht
     ·rename_i hj
      cases ht
      subst hj
      have hb:=getD_some he
      obtain ⟨u2,hu2,hru2⟩:=hc.tr.rel.get hb
      have h1:=hp _ _ hmem u hu'
      simp only at h1
      have hu2':a.tmps[b]? = some u2:=by simpa using hu2
      have h2:u2 = u:=by
       rw [←h1]
       obtain ⟨q1,q2⟩:=Array.getElem?_eq_some_iff.1 hu2'
       simp [Array.getD,q1,q2]
      subst h2
      refine ⟨.tmp b,⟨hc.rel,hc.tr.drain hb⟩,rfl,rfl,?_,?_,?_⟩
      ·rw [hev];exact hc.tr.own b _ j u2 hb hu2'
      ·intro ys k' hq
       simp only at hq
       rw [List.getElem?_set_self (List.getElem?_eq_some_iff.1 hb).1] at hq
       simp at hq
      ·rw [hev];exact qiU hru2
     ·cases ht
    ·cases ht
   ·rename_i d x0 hf
    have hmem:=List.mem_of_find?_eq_some hf
    have hd:d = i:=by have:=List.find?_some hf;simpa using this
    subst hd
    split at ht
    ·rename_i id o he
     split at ht
     ·rename_i cs hid
      split at ht
      ·rename_i xs1 j ho
       split at ht
       ·rename_i hj
        cases ht
        subst hj
        have h1:=hp _ _ hmem u hu'
        simp only at h1
        obtain ⟨b,hb,hcell⟩:=h1 id o he
        obtain ⟨c,te,hw,hcs,hown⟩:=hc.rel.box id b _ hb hid
        obtain ⟨u2,hu2,hru2⟩:=qeL hcs ho
        have hu2':c[o]? = some u2:=by simpa using hu2
        have h2:u2 = u:=by
         simp only [World.cell?,hw] at hcell
         simpa [hu2'] using hcell
        subst h2
        refine ⟨.cell id o,⟨hc.rel.drainCell hid ho,hc.tr⟩,rfl,by simp,?_,?_,?_⟩
        ·rw [hev];exact hown o _ j u2 ho hu2'
        ·refine ⟨fun cs' ys k' hq hq2=>?_,fun T e s hq=>?_⟩ <;> simp only at hq <;> rw [List.getElem?_set_self (List.getElem?_eq_some_iff.1 hid).1] at hq <;> cases hq
         rw [List.getElem?_set_self (List.getElem?_eq_some_iff.1 ho).1] at hq2
         simp at hq2
        ·rw [hev];exact qiU hru2
       ·cases ht
      ·cases ht
     ·cases ht
    ·cases ht
   ·cases ht
theorem qlj (hr:Rel P gl G h w) {y:qa} {v:Value} (hv:G.V y v) {ys:List qa} (ht:tail y = some ys) {k:Nat} (hk:∀q ∈ ys,q.cells.length = k) :
  ∃nv:List Value,G.VL (qeJ ys) nv∧(∀w1:World,(∀q,w1.cell? q = w.cell? q)→(Builtin.firstCells k ys.length v).run P w1 = .ok nv.toArray w1)∧(Builtin.lenOf v).run P w = .ok ys.length w:=by
 unfold tail at ht
 split at ht
 ·cases ht
  exact qgi hr hv hk
 ·rename_i s
  cases ht
  obtain ⟨nv,h1,h2,h3⟩:=qg4 (P:=P) (w:=w) hv
  exact ⟨nv,h1,fun w1 _=>by simpa [qhL] using h2 k w1,by simpa [qhL] using h3⟩
 ·cases ht
theorem qwf (hc:Cfg P gl G h t a w) {p:qco} (hp:qbh G w t a p) {o:Oper} {k:Nat} {ax ay:qk} (hok:qyH P gl o k ax ay) {base:Nat} {call:AE.Call} {e:Bool} {s':St}
  (hrun:qq base call p o.dst (.app k ax ay) ⟨t,h,e⟩ = some (.nor,s')) (n:Nat) (hn:n ≤ h.length):Did P gl G w a o n s'.h s'.t∧s'.e = e∧s'.h.length = h.length:=by
 obtain ⟨c,x,y,sT,xT,et,i,ux,z,h1,h2,h3,h4,h5,h6,h7,h8,h9,h10,h11,h12,h13,h14,h15⟩:=hok.ex
 subst h9
 have hyv:=qQ hc.rel hc.tr h15
 have hxr:=qh0 hc.rel hc.tr h14
 simp only [qq] at hrun
 split at hrun
 ·rename_i xs f ys hraw htail
  split at hrun
  ·
   rename_i hemp
   simp only [List.isEmpty_iff] at hemp
   subst hemp
   cases hrun
   refine ⟨?_,rfl,rfl⟩
   rw [hraw] at hxr
   obtain ⟨nv,m1,m2,m3⟩:=qlj (P:=P) hc.rel hyv htail (k:=i.size) (fun q hq=>by cases hq)
   obtain ⟨ov,o1,o2,o3⟩ :∃vs:List Value,True∧True∧True:=⟨[],trivial,trivial,trivial⟩
   have hxr':=hxr
   simp only [qd.V,qt] at hxr'
   obtain ⟨bs,len,cap,hval,q1,q2,q3,q4,_,q5⟩:=hxr'
   have ea:c.args = #[x,y]:=by rw [←Array.toArray_toList (xs:=c.args),h3]
   have et':c.argTypes = #[sT,xT]:=by rw [←Array.toArray_toList (xs:=c.argTypes),h4]
   have hnv:nv = []:=List.eq_nil_of_length_eq_zero (by have:=m1.length;simp [qeJ] at this;exact this.symm)
   subst hnv
   have hf0:=m2 w (fun _=>rfl)
   simp only [List.length_nil] at hf0 m3
   have hsz:(sizeOf et).run P w = .ok i.size w:=by simp [sizeOf,typeInfo,h8]
   have hap:(Builtin.append_ #[sT,xT] o.type #[.slice bs len cap,a.eval y]).run P w = .ok (.slice bs len cap) w:=by
    rcases h7 with ⟨e',rfl⟩ | rfl <;> cases bs <;> simp [Builtin.append_,run_underlying h5,run_underlying h6,hsz,m3,q2,hf0,storeCells]
   refine qdC hc ⟨.slice bs len cap,?_,?_,qbx _⟩ n
   ·simp [execOp,h1,h2,ea,et',resolve,invoke,builtin,hval,hap]
   ·rw [←hval];exact qcT hxr
  ·rename_i hne
   split at hrun
   ·rename_i hcond
    obtain ⟨c1,c2,c3⟩:=hcond
    have hne':ys ≠ []:=by simpa using hne
    have hysk:∀q ∈ ys,q.cells.length = i.size:=fun q hq=>by
     rw [List.all_eq_true] at c2
     have:=c2 q hq
     simp at this
     exact this.1
    have hyst:(qeJ ys).all qa.storable = true:=by
     rw [List.all_eq_true] at c2 ⊢
     intro q hq
     simp only [qeJ,List.mem_flatMap] at hq
     obtain ⟨r,hr1,hr2⟩:=hq
     have:=c2 r hr1
     simp only [Bool.and_eq_true] at this
     have:=this.2
     rw [List.all_eq_true] at this
     exact this q hr2
    have htl:=qlj (P:=P) hc.rel hyv htail hysk
    split at hrun
    ·cases hrun
     rw [hraw] at hxr
     exact ⟨qkF hc h1 h2 h3 h4 h5 h6 h7 h8 h10 h11 h12 h13 hxr htl c1 hysk hyst (qrN hxr c3) hne' (.inl rfl) n,rfl,rfl⟩
    ·split at hrun
     ·rename_i xs2 s2 htk
      split at hrun
      rotate_left
      ·cases hrun
      rename_i hhead
      cases hrun
      obtain ⟨ℓ0,d1,d2,d3,d4,d5,d6⟩:=qm6 hc hp h14 hraw htk
      have hlen:xs2.length = xs.length:=by
       rw [hraw] at hxr
       simp only [qd.V,qt] at hxr d6
       obtain ⟨_,_,_,g1,g2,_⟩:=hxr
       obtain ⟨_,_,_,g3,g4,_⟩:=d6
       rw [g1] at g3
       cases g3
       omega
      have hxsk:∀q ∈ xs2,q.cells.length = i.size:=qrN d6 hhead
      exact ⟨qkF d1 h1 h2 h3 h4 h5 h6 h7 h8 h10 h11 h12 h13 d6 htl (by omega) hysk hyst hxsk hne' (.inr ⟨ℓ0,d4,d5⟩) n,d2,d3⟩
     ·cases hrun
   ·cases hrun
 ·cases hrun
end
end Go.AE
namespace Go.AE
section
variable {P:Program} {gl:Nat→Option (List qa)} {G G':qd} {w w':World} {h:List qf} {t:List qa} {a:Act} {n:Nat}
theorem Rel.putBox (hr:Rel P gl G h w) {i b:Nat} (hi:G.γ i = some b) {bx0 bx:qf} (hx:h[i]? = some bx0) (hnd:bx0 ≠ .dead) {ob:Obj}
  (hnc:∀c e,w.heap[b]? ≠ some (.cells c e (0,0))) (hnew:qfr P gl G (w.putObj b ob) i bx b):Rel P gl G (h.set i bx) (w.putObj b ob):=by
 have hb:=(hr.γlt i b hi).2
 have hne:∀b',(∀j,G.γ j ≠ some b')→(w.putObj b ob).heap[b']? = w.heap[b']?:=fun b' hb'=>World.putObj_heap_other (fun e=>hb' i (by rw [hi,e]))
 refine ⟨fun j b' hj=>by simpa using hr.γlt j b' hj,qhK hr.inj hx hnd,fun j b' bx' hj hx'=>?_,fun b' o v hv hm=>?_,fun b o v j hv hm hg=>qdb hx hnd (hr.immγ b o v j hv hm hg),fun b' k hv=>?_,fun b' ℓ hb'=>⟨by simpa using (hr.ow b' ℓ hb').1,(hr.ow b' ℓ hb').2⟩,hr.glob⟩
 ·by_cases e:i = j
  ·subst e
   rw [hi] at hj;cases hj
   rw [List.getElem?_set_self (hr.γlt i b hi).1] at hx'
   cases hx'
   exact hnew
  ·rw [List.getElem?_set_ne e] at hx'
   have h0:=hr.box j b' bx' hj hx'
   by_cases hd:bx' = .dead
   ·subst hd;trivial
   ·obtain ⟨n,hn⟩:=qf.lower_ex bx'
    have hbb:b' ≠ b:=fun e'=>by
     rcases hr.inj i j b hi (by rw [hj,e']) with h1 | h1 | h1
     ·exact e h1
     ·rw [hx] at h1;cases h1;exact hnd rfl
     ·rw [hx'] at h1;cases h1;exact hd rfl
    exact h0.keep hn (fun _ _ _ h=>h) (fun _ _ _ h=>h) (World.putObj_heap_other hbb) (fun _ _ h=>h) (fun b'' o hb''=>hne b'' (hr.ow b'' _ hb'').2) (fun _ _ _ _ h=>h)
 ·obtain ⟨h1,h2⟩:=hr.imm b' o v hv hm
  refine ⟨?_,by simpa using h2⟩
  rw [qbo (w:=w) (World.putObj_heap_other fun e=>by subst e;have:=hr.immγ b' o v i hv hm hi;rw [hx] at this;cases this;exact hnd rfl)]
  exact h1
 ·obtain ⟨h0,c,e,h1,h2⟩:=hr.immK b' k hv
  have:b' ≠ b:=fun e'=>by subst e';exact hnc c e h1
  exact ⟨h0,c,e,by rw [World.putObj_heap_other this];exact h1,h2⟩
theorem qaE.putBox (hr:Rel P gl G h w) {ts:Array Value} (ht:qaE G w t ts) {i b:Nat} (hi:G.γ i = some b) (o:Obj):qaE G (w.putObj b o) t ts:=
 ⟨ht.rel,fun j xs k v hx hv=>(ht.own j xs k v hx hv).keep (fun _ h=>h) (fun y hy=>World.putObj_heap_other fun e=>(hr.ow y _ hy).2 i (by rw [hi,e])) (fun _ _ _ h=>h)⟩
theorem qss (hc:Cfg P gl G h t a w) {o:Oper} {u:Value} {x:qa} (h1:(execOp a.eval o).run P w = .ok (.value u) w) (hx:G.V x u) (hd:x.dim = x) (n:Nat):Did P gl G w a o n h (AE.put o.dst x t):=
 ⟨_,u,w,G,h1,.inl rfl,fun _ _ _ _=>rfl,Ext.refl n G w,hc.put o.dst hx hd⟩
theorem qn7 (hc:Cfg P gl G h t a w) {o:Oper} (hop:qno P gl o) {id p b:Nat} {cs vs:List qa} (hb:G.γ id = some b) (hid:h[id]? = some (.cells cs)) (hfit:p + vs.length ≤ cs.length) (hdim:∀v ∈ vs,v.dim = v)
  {c:Array Value} {e:TypeId} (hw:w.heap[b]? = some (.cells c e (0,0))) {us:List Value} (hus:G.VL vs us) {nx:Next} {u:Value} {x:qa}
  (h1:(execOp a.eval o).run P w = .ok nx (w.setRow b (c.toList.take p ++ us ++ c.toList.drop (p + us.length)).toArray)) (hnx:Nx nx u) (hx:G.V x u) (hd:x.dim = x) (n:Nat) :
  Did P gl G w a o n (h.set id (.cells (splice cs p vs))) (AE.put o.dst x t):=by
 obtain ⟨c0,e0,hw0,hcs,hown⟩:=hc.rel.box id b _ hb hid
 rw [hw] at hw0;cases hw0
 have hle:=qeM hcs
 have hul:=hus.length
 generalize hc':(c.toList.take p ++ us ++ c.toList.drop (p + us.length)).toArray = c' at h1
 have hcz:c'.size = c.size:=by rw [←hc'];simp at hle ⊢;omega
 have hcget:∀i,i < p∨p + vs.length ≤ i→c'[i]? = c[i]?:=fun i hi=>by
  have:=(qbn (cs:=c.toList) (vs:=us) (o:=p) (i:=i) (by omega)).1 (by omega)
  rw [←hc',←Array.getElem?_toList,←Array.getElem?_toList (xs:=c)]
  exact this
 have hrel':G.VL (splice cs p vs) (c'.toList.take (splice cs p vs).length):=by
  rw [←hc']
  exact qfD hcs hus hfit
 refine ⟨nx,u,_,G,h1,hnx,fun _ hq=>absurd hop hq,Ext.store n hb hw rfl rfl (fun _ h=>h),(Cfg.mk ?_ (hc.tr.store hc.rel c' hb)).put o.dst hx hd⟩
 refine hc.rel.store hb hid hw rfl rfl (fun _ h=>h) (fun _ _ _ _ h=>h) hrel' hcz (fun o' ys k' u' hy' hu=>?_)
 rcases qd5 hfit hy' with ⟨g1,g2⟩ | ⟨g1,g2,g3⟩
 ·have g4:c[o']? = some u':=by rw [←hcget o' g1];exact hu
  exact (hown o' ys k' u' g2 g4).keep (fun _ h=>h) (fun x hx=>qr w b x c' (fun e1=>(hc.rel.ow x _ hx).2 id (e1▸hb))) (fun _ _ _ h=>h)
 ·have:=hdim _ (List.mem_of_getElem? g3)
  simp [qa.dim] at this
theorem Rel.kill (hr:Rel P gl G h w) (id:Nat):Rel P gl G (h.set id .dead) w:=by
 have hdd:∀i,h[i]? = some qf.dead→(h.set id .dead)[i]? = some qf.dead:=fun i hi=>by
  by_cases e:id = i
  ·subst e;exact List.getElem?_set_self (List.getElem?_eq_some_iff.1 hi).1
  ·rw [List.getElem?_set_ne e];exact hi
 refine ⟨fun i b hb=>by simpa using hr.γlt i b hb,fun i j b hi hj=>?_,fun i b bx hi hx=>?_,hr.imm,fun b o v i hv hm hg=>hdd i (hr.immγ b o v i hv hm hg),hr.immK,hr.ow,hr.glob⟩
 ·rcases hr.inj i j b hi hj with h1 | h1 | h1
  ·exact .inl h1
  ·exact .inr (.inl (hdd i h1))
  ·exact .inr (.inr (hdd j h1))
 ·by_cases e:id = i
  ·subst e
   rw [List.getElem?_set_self (hr.γlt id b hi).1] at hx
   cases hx
   trivial
  ·rw [List.getElem?_set_ne e] at hx
   exact hr.box i b bx hi hx
theorem qqw {cs:List qa} (hdim:∀x ∈ cs,x.dim = x) {o:Nat} {xs:List qa} {k:Nat} (h:cs[o]? = some (.lst xs (.own k))):False:=by
 have:=hdim _ (List.mem_of_getElem? h)
 simp [qa.dim] at this
theorem γ_none (hr:Rel P gl G h w):G.γ h.length = none:=by
 cases hg:G.γ h.length with
 | none=>rfl
 | some b=>have:=(hr.γlt _ b hg).1;omega
theorem qgc (hc:Cfg P gl G h t a w) {o:Oper} (hop:qno P gl o) {ob:Obj} {bx:qf} {u:Value} {x:qa} (h1:(execOp a.eval o).run P w = .ok (.value u) (w.alloc ob))
  (hbx:∀G',Ext h.length G w G' (w.alloc ob)→qfr P gl G' (w.alloc ob) h.length bx w.heap.size) (hx:∀G':qd,G'.γ h.length = some w.heap.size→G'.V x u) (hd:x.dim = x) :
  Did P gl G w a o h.length (h ++ [bx]) (AE.put o.dst x t):=by
 have hi:=γ_none hc.rel
 have hext:Ext h.length G w (G.withBox h.length w.heap.size) (w.alloc ob):=Ext.newBox hi (Nat.le_refl _) _
 have hrel:=hc.rel.newBox (o:=ob) (bx:=bx) (h':=h ++ [bx]) hi (by simp) (by simp) (fun j hj b hb=>by rw [List.getElem?_append_left (hc.rel.γlt j b hb).1]) (by simp) (hbx _ hext)
 obtain ⟨m,hm⟩:=qao t
 have htr:qaE (G.withBox h.length w.heap.size) (w.alloc ob) t a.tmps:=
  hc.tr.keep hm hext.ik (fun i b _=>hext.gk i b) (fun _ _ h=>h) (fun b i hb=>qP w _ (hc.rel.ow b _ hb).1) (fun _ _ _ _ h=>h)
 exact ⟨_,_,_,_,h1,.inl rfl,fun _ hq=>absurd hop hq,hext,(Cfg.mk hrel htr).put o.dst (hx _ (by simp [qd.withBox])) hd⟩
noncomputable def qd.marked (G:qd) (b n:Nat):qd:={ γ:=G.γ,imm:=fun x o=>if x = b∧o = n then some mark else G.imm x o,ow:=G.ow}
theorem Rel.marked (hr:Rel P gl G h w) {b n:Nat} (hn:0 < n) {c:Array Value} {e:TypeId} (hb:w.heap[b]? = some (.cells c e (0,0))) (hle:n = c.size) (h0:∀o,G.imm b o = none) (how:G.ow b = none):Rel P gl (G.marked b n) h w:=by
 have hik:∀x o v,G.imm x o = some v→(G.marked b n).imm x o = some v:=fun x o v hv=>by
  simp only [qd.marked]
  rw [if_neg]
  ·exact hv
  ·rintro ⟨rfl,rfl⟩
   rw [h0] at hv;cases hv
 refine ⟨hr.γlt,hr.inj,fun i b' bx hi hx=>?_,fun x o v hv hm=>?_,fun x o v i hv hm=>?_,fun x o hv=>?_,hr.ow,fun g cs hg=>?_⟩
 ·obtain ⟨m,hm⟩:=qf.lower_ex bx
  refine (hr.box i b' bx hi hx).keep hm hik (fun _ _ _ h=>h) rfl (fun _ _ h=>h) (fun _ _ _=>rfl) (fun b'' j o hb'' hj=>?_)
  simp only [qd.marked]
  rw [if_neg (fun hh=>by rw [hh.1,how] at hb'';cases hb'')]
  exact hj
 ·simp only [qd.marked] at hv
  split at hv
  ·cases hv;exact absurd rfl hm
  ·exact hr.imm x o v hv hm
 ·simp only [qd.marked] at hv
  split at hv
  ·cases hv;exact absurd rfl hm
  ·exact hr.immγ x o v i hv hm
 ·simp only [qd.marked] at hv
  split at hv
  ·rename_i hh
   obtain ⟨rfl,rfl⟩:=hh
   exact ⟨hn,c,e,hb,hle⟩
  ·exact hr.immK x o hv
 ·obtain ⟨h1,h2⟩:=hr.glob g cs hg
  exact ⟨qdy.mono hik cs g h2 h1,h2⟩
theorem qkS {γ:Nat→Option Nat} {imm:Nat→Nat→Option Value} {cs:List qa} {us l:List Value} (h:qh γ imm cs us) (hg:∀(j:Nat) (v:Value),us[j]? = some v→l[j]? = some v):qh γ imm cs (l.take cs.length):=by
 have hlen:=h.length
 have hle:cs.length ≤ l.length:=by
  rcases Nat.lt_or_ge l.length us.length with hh | hh
  ·have:=hg l.length _ (List.getElem?_eq_getElem hh)
   simp at this
  ·omega
 refine qh.of_get (by simp;omega) fun i x v hx hv=>?_
 obtain ⟨u,hu,hr⟩:=h.get hx
 rw [List.getElem?_take_of_lt (List.getElem?_eq_some_iff.1 hx).1,hg i u hu] at hv
 cases hv
 exact hr
theorem qsq (hc:Cfg P gl G h t a w) {o:Oper} (hop:qno P gl o) {d len newCap k:Nat} {cc:Array Value} {e:TypeId} {cs:List qa} {us:List Value}
  (h1:(execOp a.eval o).run P w = .ok (.value (.slice (some ⟨w.heap.size,0,none⟩) len newCap)) (({ w with drawn:=d}:World).alloc (.cells cc e)))
  (hcs:G.VL cs us) (hget:∀(j:Nat) (v:Value),us[j]? = some v→cc[j]? = some v) (hcc:cc.size = newCap * k) (hk:k ≠ 0) (hle:len ≤ newCap) (h0:0 < len) (hdim:∀x ∈ cs,x.dim = x) :
  Did P gl G w a o h.length (h ++ [.cells cs]) (AE.put o.dst (.sl h.length 0 len len k) t):=by
 have hr0:Rel P gl G h { w with drawn:=d}:=hc.rel.of_drew d
 have ht0:qaE G { w with drawn:=d} t a.tmps:=hc.tr.of_drew d
 have hi:=γ_none hc.rel
 have hext:Ext h.length G w (G.withBox h.length w.heap.size) (({ w with drawn:=d}:World).alloc (.cells cc e)):=((Ext.refl _ G w).drew d).trans (Nat.le_refl _) (Ext.newBox (w:={ w with drawn:=d}) hi (Nat.le_refl _) _)
 have hrel:=hr0.newBox (o:=.cells cc e) (bx:=.cells cs) (h':=h ++ [.cells cs]) hi (by simp) (by simp) (fun j hj b hb=>by rw [List.getElem?_append_left (hc.rel.γlt j b hb).1]) (by simp)
  ⟨cc,e,qZ _ _,qkS (hext.VL hcs) (fun j v hj=>by simpa using hget j v hj),fun o xs k v ho _=>(qqw hdim ho).elim⟩
 have hpos:0 < newCap * k:=Nat.mul_pos (by omega) (by omega)
 have hnone:∀o,G.imm w.heap.size o = none:=fun o=>by
  cases hv:G.imm w.heap.size o with
  | none=>rfl
  | some v=>have:=hc.rel.imm_lt hv;omega
 have hown:G.ow w.heap.size = none:=by
  cases hv:G.ow w.heap.size with
  | none=>rfl
  | some ℓ=>have:=(hc.rel.ow _ _ hv).1;omega
 have hrel2:=Rel.marked hrel hpos (b:=w.heap.size) (qZ ({ w with drawn:=d}:World) _) (by omega) hnone hown
 have hext2:Ext h.length G w ((G.withBox h.length w.heap.size).marked w.heap.size (newCap * k)) (({ w with drawn:=d}:World).alloc (.cells cc e)):=by
  refine ⟨hext.gk,hext.gn,fun b o v hv=>?_,fun b o v hv=>?_,hext.on,hext.size,hext.heap,hext.loops,rfl,rfl,rfl⟩
  ·have:b ≠ w.heap.size:=by have:=hc.rel.imm_lt hv;omega
   simp only [qd.marked]
   rw [if_neg (fun hh=>this hh.1)]
   exact hext.ik b o v hv
  ·simp only [qd.marked] at hv
   split at hv
   ·rename_i hh;exact .inr (.inl (by omega))
   ·exact hext.inew b o v hv
 obtain ⟨m,hm⟩:=qao t
 have htr:qaE ((G.withBox h.length w.heap.size).marked w.heap.size (newCap * k)) (({ w with drawn:=d}:World).alloc (.cells cc e)) t a.tmps:=
  hc.tr.keep hm hext2.ik (fun i b _=>hext2.gk i b) (fun _ _ h=>h) (fun b i hb=>qP ({ w with drawn:=d}:World) _ (hc.rel.ow b _ hb).1) (fun b j i hb hj=>by
   simp only [qd.marked]
   rw [if_neg (fun hh=>by rw [hh.1,hown] at hb;cases hb)]
   exact hj)
 refine ⟨_,_,_,_,h1,.inl rfl,fun _ hq=>absurd hop hq,hext2,(Cfg.mk hrel2 htr).put o.dst ?_ rfl⟩
 simp only [qd.V,qt]
 exact ⟨w.heap.size,newCap,by simp [qd.marked,qd.withBox],rfl,Nat.le_refl _,hle,fun h=>absurd h hk,fun _=>by simp [qd.marked]⟩
theorem qn3 (hc:Cfg P gl G h t a w) {o:Oper} (hop:qno P gl o) {id b len cap k p:Nat} {c:Array Value} {e:TypeId} {cs:List qa} {us new:List Value} (hb:G.γ id = some b) (hdead:∀i,G.γ i = some b→h[i]? = some .dead) (hfree:∀o v,G.imm b o = some v→v = mark)
  (hw:w.heap[b]? = some (.cells c e (0,0))) (hp:p + new.length ≤ c.size)
  (h1:(execOp a.eval o).run P w = .ok (.value (.slice (some ⟨b,0,none⟩) len cap)) (w.setRow b (c.toList.take p ++ new ++ c.toList.drop (p + new.length)).toArray))
  (hcs:G.VL cs us) (hget:∀(j:Nat) (v:Value),us[j]? = some v→(c.toList.take p ++ new ++ c.toList.drop (p + new.length))[j]? = some v) (hmark:G.imm b (0 + cap * k) = some mark) (hk:k ≠ 0) (hle:len ≤ cap) (hdim:∀x ∈ cs,x.dim = x) :
  Did P gl G w a o h.length (h ++ [.cells cs]) (AE.put o.dst (.sl h.length 0 len len k) t):=by
 generalize hc':(c.toList.take p ++ new ++ c.toList.drop (p + new.length)).toArray = c' at h1
 have hcz:c'.size = c.size:=by rw [←hc'];simp;omega
 have hi:=γ_none hc.rel
 have hγ:∀j b',G.γ j = some b'→(G.withBox h.length b).γ j = some b':=fun j b' hj=>by
  have:j ≠ h.length:=fun e=>by subst e;simp [hi] at hj
  simpa [qd.withBox,this] using hj
 have hother:∀x,x ≠ b→(w.setRow b c').heap[x]? = w.heap[x]?:=fun x hx=>qr w b x c' hx
 have howb:∀x ℓ,G.ow x = some ℓ→x ≠ b:=fun x ℓ hx e1=>(hc.rel.ow x ℓ hx).2 id (e1▸hb)
 have hrel:Rel P gl (G.withBox h.length b) (h ++ [.cells cs]) (w.setRow b c'):=by
  refine ⟨fun j x hj=>?_,fun i j x hx hy=>?_,fun i x bx hx hbx=>?_,fun x o v hv hm=>?_,fun x o v i hv hm=>?_,fun x o hv=>?_,fun x ℓ hx=>?_,fun g cs hg=>?_⟩
  ·simp only [qd.withBox] at hj
   split at hj
   ·rename_i e1;subst e1;cases hj
    exact ⟨by simp,by simpa using (hc.rel.γlt id _ hb).2⟩
   ·obtain ⟨h2,h3⟩:=hc.rel.γlt j x hj
    exact ⟨by simp;omega,by simpa using h3⟩
  ·have key:∀i,(G.withBox h.length b).γ i = some b→i ≠ h.length→(h ++ [qf.cells cs])[i]? = some .dead:=fun i hi' hne=>by
    simp only [qd.withBox,if_neg hne] at hi'
    have:=hdead i hi'
    rw [List.getElem?_append_left (List.getElem?_eq_some_iff.1 this).1]
    exact this
   by_cases hxb:x = b
   ·subst hxb
    by_cases e1:i = h.length
    ·by_cases e2:j = h.length
     ·exact .inl (by omega)
     ·exact .inr (.inr (key j hy e2))
    ·exact .inr (.inl (key i hx e1))
   ·have g:∀i,(G.withBox h.length b).γ i = some x→G.γ i = some x∧i < h.length:=fun i hi'=>by
     simp only [qd.withBox] at hi'
     split at hi'
     ·cases hi';exact absurd rfl hxb
     ·exact ⟨hi',(hc.rel.γlt i x hi').1⟩
    rw [List.getElem?_append_left (g i hx).2,List.getElem?_append_left (g j hy).2]
    exact hc.rel.inj i j x (g i hx).1 (g j hy).1
  ·simp only [qd.withBox] at hx
   split at hx
   ·rename_i e1
    subst e1;cases hx
    simp at hbx
    subst hbx
    refine ⟨c',e,setRow_heap w b c c' e (0,0) hw,qkS (us:=us) ?_ (fun j v hj=>by rw [←hc'];simpa using hget j v hj),fun o xs k v ho _=>(qqw hdim ho).elim⟩
    obtain ⟨m,hm⟩:=qao cs
    exact qh.mono (fun _ _ _ h=>h) m (fun j b' _=>hγ j b') cs us hm hcs
   ·rw [List.getElem?_append_left (hc.rel.γlt i x hx).1] at hbx
    have h0:=hc.rel.box i x bx hx hbx
    by_cases hd:bx = .dead
    ·subst hd;trivial
    ·have hxb:x ≠ b:=fun e1=>by
      have:=hdead i (e1▸hx)
      rw [hbx] at this;cases this;exact hd rfl
     obtain ⟨m,hm⟩:=qf.lower_ex bx
     exact h0.keep hm (fun _ _ _ h=>h) (fun j b' _=>hγ j b') (hother x hxb) (fun _ _ h=>h) (fun y o hy=>hother y (howb y _ hy)) (fun _ _ _ _ h=>h)
  ·obtain ⟨h2,h3⟩:=hc.rel.imm x o v hv hm
   have hxb:x ≠ b:=fun e2=>hm (hfree o v (e2▸hv))
   exact ⟨(qbo (hother x hxb)).trans h2,by simpa using h3⟩
  ·simp only [qd.withBox]
   split
   ·intro e1;cases e1;exact absurd (hfree o v hv) hm
   ·intro e1
    rw [List.getElem?_append_left (hc.rel.γlt i x e1).1]
    exact hc.rel.immγ x o v i hv hm e1
  ·obtain ⟨g0,d,e',g1,g2⟩:=hc.rel.immK x o hv
   by_cases hxb:x = b
   ·subst hxb
    rw [hw] at g1;cases g1
    exact ⟨g0,c',e,setRow_heap w x c c' e (0,0) hw,by omega⟩
   ·exact ⟨g0,d,e',by rw [hother x hxb];exact g1,g2⟩
  ·obtain ⟨g1,g2⟩:=hc.rel.ow x ℓ hx
   refine ⟨by simpa using g1,fun i hi'=>?_⟩
   simp only [qd.withBox] at hi'
   split at hi'
   ·cases hi';exact howb _ ℓ hx rfl
   ·exact g2 i hi'
  ·obtain ⟨g1,g2⟩:=hc.rel.glob g cs hg
   exact ⟨qdy.mono (fun _ _ _ h=>h) cs g g2 g1,g2⟩
 have hext:Ext h.length G w (G.withBox h.length b) (w.setRow b c'):=by
  refine ⟨hγ,fun j x hj=>?_,fun _ _ _ h=>h,fun _ _ _ h=>.inl h,fun _ h=>.inl h,by simp,fun x hx hf=>hother x (fun e1=>hf.1 id (e1▸hb)),fun x L hL=>?_,rfl,rfl,rfl⟩
  ·simp only [qd.withBox] at hj
   split at hj
   ·rename_i e1;subst e1;cases hj;exact .inr ⟨Nat.le_refl _,.inr ⟨id,hb⟩⟩
   ·exact .inl hj
  ·have:x ≠ b:=fun e1=>by subst e1;rw [hw] at hL;cases hL
   exact ⟨L,by rw [hother x this];exact hL,rfl,rfl,rfl,rfl,rfl,rfl⟩
 obtain ⟨m,hm⟩:=qao t
 have htr:qaE (G.withBox h.length b) (w.setRow b c') t a.tmps:=
  hc.tr.keep hm hext.ik (fun i b _=>hext.gk i b) (fun _ _ h=>h) (fun b i hb=>hother b (howb b _ hb)) (fun _ _ _ _ h=>h)
 refine ⟨_,_,_,_,h1,.inl rfl,fun _ hq=>absurd hop hq,hext,(Cfg.mk hrel htr).put o.dst ?_ rfl⟩
 simp only [qd.V,qt]
 exact ⟨b,cap,by simp [qd.withBox],rfl,Nat.le_refl _,hle,fun h=>absurd h hk,fun _=>hmark⟩
end
end Go.AE
