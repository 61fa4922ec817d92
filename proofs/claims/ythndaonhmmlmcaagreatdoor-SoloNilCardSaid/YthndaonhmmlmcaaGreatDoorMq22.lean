/- A part of the proof: the abstract executor and what goes through it (part 22). No condition. -/
import Derived.Test.YthndaonhmmlmcaaGreatDoorMq21
import Derived.Test.YthndaonhmmlmcaaGreatDoorMq2
set_option maxRecDepth 100000
namespace Go.Proofs.YthndaonhmmlmcaaGreatDoor.AE
open Go.AE
theorem Wd_iff {fv:AVal} {aS:List AVal} {h:List ABox} (x:CRes×List ABox×Bool):Wd fv aS h = some x↔∃n,run T.get Z n fv aS h = some x:=W_iff xfine x
theorem aw_all (bx:ABox):(runF T.get X6 400 (.fn 5 [] []) [] [bx]).map (·.1) = some (.ret (.bool true)):=by kernel_rfl
theorem aw (bx:ABox):∃R e,Wd (.fn 5 [] []) [] [bx] = some (.ret (.bool true),R,e):=by
 obtain ⟨⟨r',R,e⟩,h1,h2⟩:=Option.map_eq_some_iff.1 (aw_all bx)
 simp only at h2
 subst h2
 refine ⟨R,e,?_⟩
 rw [show Wd = W T.get Z from rfl,W_ext xfine (show Z 5 = some (fun _ aS h=>runF T.get X6 400 (.fn 5 [] []) aS h) from rfl)]
 exact h1
def headOf:ACode→ACode
 | .seq a _=>a
 | c=>c
def midOf:ACode→ACode
 | .seq _ (.seq a _)=>a
 | c=>c
def restOf:ACode→ACode
 | .seq _ (.seq _ a)=>a
 | c=>c
def rest:ACode:=restOf c3.code
theorem code_eq:c3.code = .seq (headOf c3.code) (.seq (midOf c3.code) rest):=by kernel_rfl
def mids (a b c id:Int) (xs:List AVal) (r:Int):List AVal:=
 [.agg [.int .i64 a,.int .i64 b,.int .i64 c],.lst xs .no,.int .i64 id,.ptr 0 0,.tup [],.tup [],.bool false] ++ List.replicate 7 (.tup []) ++ [.lst xs .no,actV xs,.lst [actV xs] .full,.int .i64 r,.bool false] ++ List.replicate 64 (.tup [])
theorem rest_all (a b c id:Int) (xs:List AVal) (r:Int):(exec 400 0 (run T.get Z 400) rest ⟨mids a b c id xs r,[.cells [.int .i64 a,.int .i64 b,.int .i64 c]],false⟩).map (fun p=>(p.1,lkp p.2.t 6)) = some (.ret,.bool true):=by kernel_rfl
end Go.Proofs.YthndaonhmmlmcaaGreatDoor.AE
