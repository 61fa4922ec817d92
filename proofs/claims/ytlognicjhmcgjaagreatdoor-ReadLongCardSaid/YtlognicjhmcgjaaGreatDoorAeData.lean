/- The abstract executor: the compiled functions of the seat's program. PRINTED BY PROGRAM (Print.lean). No condition. -/
import Derived.Test.YtlognicjhmcgjaaGreatDoorAeGuard0
set_option maxRecDepth 100000
namespace Go.Proofs.YtlognicjhmcgjaaGreatDoor.AE
open Go.AE
def g0 : List AVal := [(.str [97, 116, 111, 109, 105, 99]), (.str [99, 111, 117, 112, 108, 101, 100]), (.str [114, 111, 111, 116]), (.str [105, 110]), (.str [111, 117, 116]), (.str [118, 97, 114]), (.str [116, 97]), (.str [101, 109, 105, 116]), (.str [105, 110, 116]), (.str [98, 111, 111, 108]), (.str [115, 121, 109]), (.str [101, 120, 116]), (.str [99, 111, 110]), (.str [112, 97, 114, 116]), (.str [108, 105, 110, 107]), (.str [114, 117, 108, 101]), (.str [97, 100, 100]), (.str [100, 114, 111, 112]), (.str [116, 105, 101]), (.str [99, 117, 116]), (.str [105, 102]), (.str [116, 104, 101, 110]), (.str [101, 108, 115, 101]), (.str [97, 110, 100]), (.str [111, 114]), (.str [110, 111, 116]), (.str [116, 114, 117, 101]), (.str [102, 97, 108, 115, 101]), (.str [99, 111, 117, 110, 116]), (.str [104, 97, 115]), (.str [115, 117, 109]), (.str [108, 101, 97, 115, 116]), (.str [101, 108, 97, 112, 115, 101, 100])]
def g1 : List AVal := [(.str [45, 62]), (.str [60, 61]), (.str [123]), (.str [125]), (.str [40]), (.str [41]), (.str [44]), (.str [59]), (.str [58]), (.str [46]), (.str [61]), (.str [60]), (.str [43]), (.str [45]), (.str [42]), (.str [47]), (.str [37])]
def g4 : List AVal := [(.int .u64 1), (.int .u64 10), (.int .u64 100), (.int .u64 1000), (.int .u64 10000), (.int .u64 100000), (.int .u64 1000000), (.int .u64 10000000), (.int .u64 100000000), (.int .u64 1000000000), (.int .u64 10000000000), (.int .u64 100000000000), (.int .u64 1000000000000), (.int .u64 10000000000000), (.int .u64 100000000000000), (.int .u64 1000000000000000), (.int .u64 10000000000000000), (.int .u64 100000000000000000), (.int .u64 1000000000000000000), (.int .u64 10000000000000000000)]
def g7 : List AVal := [(.int .u8 0), (.int .u8 1), (.int .u8 28), (.int .u8 2), (.int .u8 29), (.int .u8 14), (.int .u8 24), (.int .u8 3), (.int .u8 30), (.int .u8 22), (.int .u8 20), (.int .u8 15), (.int .u8 25), (.int .u8 17), (.int .u8 4), (.int .u8 8), (.int .u8 31), (.int .u8 27), (.int .u8 13), (.int .u8 23), (.int .u8 21), (.int .u8 19), (.int .u8 16), (.int .u8 7), (.int .u8 26), (.int .u8 12), (.int .u8 18), (.int .u8 6), (.int .u8 11), (.int .u8 5), (.int .u8 10), (.int .u8 9)]
def g8 : List AVal := [(.int .u8 0), (.int .u8 1), (.int .u8 56), (.int .u8 2), (.int .u8 57), (.int .u8 49), (.int .u8 28), (.int .u8 3), (.int .u8 61), (.int .u8 58), (.int .u8 42), (.int .u8 50), (.int .u8 38), (.int .u8 29), (.int .u8 17), (.int .u8 4), (.int .u8 62), (.int .u8 47), (.int .u8 59), (.int .u8 36), (.int .u8 45), (.int .u8 43), (.int .u8 51), (.int .u8 22), (.int .u8 53), (.int .u8 39), (.int .u8 33), (.int .u8 30), (.int .u8 24), (.int .u8 18), (.int .u8 12), (.int .u8 5), (.int .u8 63), (.int .u8 55), (.int .u8 48), (.int .u8 27), (.int .u8 60), (.int .u8 41), (.int .u8 37), (.int .u8 16), (.int .u8 46), (.int .u8 35), (.int .u8 44), (.int .u8 21), (.int .u8 52), (.int .u8 32), (.int .u8 23), (.int .u8 11), (.int .u8 54), (.int .u8 26), (.int .u8 40), (.int .u8 15), (.int .u8 34), (.int .u8 20), (.int .u8 31), (.int .u8 10), (.int .u8 25), (.int .u8 14), (.int .u8 19), (.int .u8 9), (.int .u8 13), (.int .u8 8), (.int .u8 7), (.int .u8 6)]
def gl : Nat → Option (List AVal)
  | 0 => some g0  -- gavotte/ast.words
  | 1 => some g1  -- gavotte/token.marks
  | 2 => some []  -- gavotte/show.ranks
  | 3 => some []  -- internal/bytealg.MaxLen
  | 4 => some g4  -- internal/strconv.uint64pow10
  | 5 => some []  -- strconv.ErrSyntax
  | 6 => some []  -- strconv.ErrRange
  | 7 => some g7  -- math/bits.deBruijn32tab
  | 8 => some g8  -- math/bits.deBruijn64tab
  | _ => none
/-- gavotte/gavottelaw10.ReadLong -/
def c5 : AFunc := ⟨42, [.tmp 2],
  (.seq (.reg [⟨(some 2), .asg (.c (.bool false)), none⟩])
   (.seq (.seq (.reg [⟨(some 9), .mov (.t 0), none⟩,
        ⟨(some 10), .len true (.t 9), none⟩,
        ⟨(some 11), .bin .leq (.t 10) (.c (.int .i64 16384)), none⟩])
     (.cond (.t 11) (.seq (.reg [⟨(some 12), .call (.c (.fn 10 [] [])) [], none⟩,
          ⟨(some 2), .asg (.t 12), none⟩])
       (.ret))
      (.skip)))
    (.seq (.reg [⟨(some 14), .mov (.t 0), none⟩,
        ⟨(some 15), .call (.c (.fn 14 [] [])) [(.t 14)], none⟩,
        ⟨(some 13), .mov (.t 15), none⟩,
        ⟨(some 16), .ext (.t 13) 0, none⟩,
        ⟨(some 17), .ext (.t 13) 1, none⟩,
        ⟨(some 18), .ext (.t 13) 2, none⟩,
        ⟨(some 3), .new [(.lst [] .full), (.str [])], none⟩,
        ⟨none, .st (some 2) (.t 3) (.t 16), none⟩,
        ⟨(some 4), .asg (.t 17), none⟩,
        ⟨(some 5), .asg (.t 18), none⟩])
     (.seq (.reg [⟨(some 20), .mov (.t 0), none⟩,
         ⟨(some 21), .call (.c (.fn 11 [] [])) [(.t 20)], none⟩,
         ⟨(some 19), .mov (.t 21), none⟩,
         ⟨(some 22), .ext (.t 19) 0, none⟩,
         ⟨(some 23), .ext (.t 19) 1, none⟩,
         ⟨(some 24), .ext (.t 19) 2, none⟩,
         ⟨(some 6), .new [(.int .i64 0), (.int .i64 0), (.str []), (.str []), (.lst [] .full)], none⟩,
         ⟨none, .st (some 5) (.t 6) (.t 22), none⟩,
         ⟨(some 7), .asg (.t 23), none⟩,
         ⟨(some 8), .asg (.t 24), none⟩])
      (.seq (.reg [⟨(some 25), .call (.c (.fn 10 [] [])) [], none⟩,
          ⟨(some 26), .mov (.t 25), none⟩,
          ⟨(some 27), .mov (.t 4), (some (26, true))⟩,
          ⟨(some 28), .bin .eql (.t 27) (.c (.int .i64 0)), (some (26, true))⟩,
          ⟨(some 29), .pick (.t 26) (.t 28) (.c (.bool false)), none⟩,
          ⟨(some 30), .mov (.t 29), none⟩,
          ⟨(some 31), .mov (.t 7), (some (30, true))⟩,
          ⟨(some 32), .bin .eql (.t 31) (.c (.int .i64 0)), (some (30, true))⟩,
          ⟨(some 33), .pick (.t 30) (.t 32) (.c (.bool false)), none⟩,
          ⟨(some 34), .mov (.t 33), none⟩,
          ⟨(some 35), .mov (.t 5), (some (34, true))⟩,
          ⟨(some 36), .bin .eql (.t 35) (.c (.int .i64 9)), (some (34, true))⟩,
          ⟨(some 37), .pick (.t 34) (.t 36) (.c (.bool false)), none⟩,
          ⟨(some 38), .mov (.t 37), none⟩,
          ⟨(some 39), .mov (.t 8), (some (38, true))⟩,
          ⟨(some 40), .bin .eql (.t 39) (.c (.int .i64 9)), (some (38, true))⟩,
          ⟨(some 41), .pick (.t 38) (.t 40) (.c (.bool false)), none⟩,
          ⟨(some 2), .asg (.t 41), none⟩])
       (.ret))))))⟩
/-- gavotte/gavottelaw10.awake -/
def c10 : AFunc := ⟨50, [.tmp 0],
  (.seq (.reg [⟨(some 0), .asg (.c (.bool false)), none⟩])
   (.seq (.reg [⟨(some 8), .call (.c (.fn 11 [] [])) [(.c (.str [97, 32, 45, 32, 98, 46, 48]))], none⟩,
       ⟨(some 7), .mov (.t 8), none⟩,
       ⟨(some 9), .ext (.t 7) 0, none⟩,
       ⟨(some 10), .ext (.t 7) 1, none⟩,
       ⟨(some 11), .ext (.t 7) 2, none⟩,
       ⟨(some 1), .new [(.int .i64 0), (.int .i64 0), (.str []), (.str []), (.lst [] .full)], none⟩,
       ⟨none, .st (some 5) (.t 1) (.t 9), none⟩,
       ⟨(some 2), .asg (.t 10), none⟩,
       ⟨(some 3), .asg (.t 11), none⟩])
    (.seq (.reg [⟨(some 13), .call (.c (.fn 11 [] [])) [(.c (.str [97, 32, 60, 32, 98, 32, 60, 32, 99]))], none⟩,
        ⟨(some 12), .mov (.t 13), none⟩,
        ⟨(some 14), .ext (.t 12) 0, none⟩,
        ⟨(some 15), .ext (.t 12) 1, none⟩,
        ⟨(some 16), .ext (.t 12) 2, none⟩,
        ⟨(some 4), .new [(.int .i64 0), (.int .i64 0), (.str []), (.str []), (.lst [] .full)], none⟩,
        ⟨none, .st (some 5) (.t 4) (.t 14), none⟩,
        ⟨(some 5), .asg (.t 15), none⟩,
        ⟨(some 6), .asg (.t 16), none⟩])
     (.seq (.reg [⟨(some 17), .mov (.t 2), none⟩,
         ⟨(some 18), .bin .eql (.t 17) (.c (.int .i64 0)), none⟩,
         ⟨(some 19), .mov (.t 18), none⟩,
         ⟨(some 20), .mov (.t 3), (some (19, true))⟩,
         ⟨(some 21), .bin .eql (.t 20) (.c (.int .i64 0)), (some (19, true))⟩,
         ⟨(some 22), .pick (.t 19) (.t 21) (.c (.bool false)), none⟩,
         ⟨(some 23), .mov (.t 22), none⟩,
         ⟨(some 24), .fa 0 (.t 1), (some (23, true))⟩,
         ⟨(some 25), .ld none (.t 24), (some (23, true))⟩,
         ⟨(some 26), .bin .eql (.t 25) (.c (.int .i64 16)), (some (23, true))⟩,
         ⟨(some 27), .pick (.t 23) (.t 26) (.c (.bool false)), none⟩,
         ⟨(some 28), .mov (.t 27), none⟩,
         ⟨(some 29), .fa 4 (.t 1), (some (28, true))⟩,
         ⟨(some 30), .ld none (.t 29), (some (28, true))⟩,
         ⟨(some 31), .len false (.t 30), (some (28, true))⟩,
         ⟨(some 32), .bin .eql (.t 31) (.c (.int .i64 2)), (some (28, true))⟩,
         ⟨(some 33), .pick (.t 28) (.t 32) (.c (.bool false)), none⟩,
         ⟨(some 34), .mov (.t 33), none⟩,
         ⟨(some 35), .fa 4 (.t 1), (some (34, true))⟩,
         ⟨(some 36), .ld none (.t 35), (some (34, true))⟩,
         ⟨(some 37), .ixaL 5 (.t 36) (.c (.int .i64 1)), (some (34, true))⟩,
         ⟨(some 38), .fa 0 (.t 37), (some (34, true))⟩,
         ⟨(some 39), .ld none (.t 38), (some (34, true))⟩,
         ⟨(some 40), .bin .eql (.t 39) (.c (.int .i64 12)), (some (34, true))⟩,
         ⟨(some 41), .pick (.t 34) (.t 40) (.c (.bool false)), none⟩,
         ⟨(some 42), .mov (.t 41), none⟩,
         ⟨(some 43), .mov (.t 5), (some (42, true))⟩,
         ⟨(some 44), .bin .eql (.t 43) (.c (.int .i64 6)), (some (42, true))⟩,
         ⟨(some 45), .pick (.t 42) (.t 44) (.c (.bool false)), none⟩,
         ⟨(some 46), .mov (.t 45), none⟩,
         ⟨(some 47), .mov (.t 6), (some (46, true))⟩,
         ⟨(some 48), .bin .eql (.t 47) (.c (.int .i64 6)), (some (46, true))⟩,
         ⟨(some 49), .pick (.t 46) (.t 48) (.c (.bool false)), none⟩,
         ⟨(some 0), .asg (.t 49), none⟩])
      (.ret)))))⟩
/-- gavotte/read.Expr -/
def c11 : AFunc := ⟨10, [.cell 2 (some 5), .tmp 3, .tmp 4],
  (.seq (.reg [⟨(some 2), .new [(.int .i64 0), (.int .i64 0), (.str []), (.str []), (.lst [] .full)], none⟩,
      ⟨(some 3), .asg (.c (.int .i64 0)), none⟩,
      ⟨(some 4), .asg (.c (.int .i64 0)), none⟩])
   (.seq (.reg [⟨(some 5), .mov (.t 0), none⟩,
       ⟨(some 6), .call (.c (.fn 31 [] [])) [(.t 5), (.c (.fn 32 [] []))], none⟩,
       ⟨(some 7), .ext (.t 6) 0, none⟩,
       ⟨(some 8), .ext (.t 6) 1, none⟩,
       ⟨(some 9), .ext (.t 6) 2, none⟩,
       ⟨none, .st (some 5) (.t 2) (.t 7), none⟩,
       ⟨(some 3), .asg (.t 8), none⟩,
       ⟨(some 4), .asg (.t 9), none⟩])
    (.ret)))⟩
/-- gavotte/read.Program -/
def c14 : AFunc := ⟨10, [.cell 2 (some 2), .tmp 3, .tmp 4],
  (.seq (.reg [⟨(some 2), .new [(.lst [] .full), (.str [])], none⟩,
      ⟨(some 3), .asg (.c (.int .i64 0)), none⟩,
      ⟨(some 4), .asg (.c (.int .i64 0)), none⟩])
   (.seq (.reg [⟨(some 5), .mov (.t 0), none⟩,
       ⟨(some 6), .call (.c (.fn 36 [] [])) [(.t 5), (.c (.fn 37 [] []))], none⟩,
       ⟨(some 7), .ext (.t 6) 0, none⟩,
       ⟨(some 8), .ext (.t 6) 1, none⟩,
       ⟨(some 9), .ext (.t 6) 2, none⟩,
       ⟨none, .st (some 2) (.t 2) (.t 7), none⟩,
       ⟨(some 3), .asg (.t 8), none⟩,
       ⟨(some 4), .asg (.t 9), none⟩])
    (.ret)))⟩
/-- (*gavotte/read.parser).single -/
def c32 : AFunc := ⟨10, [.cell 2 (some 5)],
  (.seq (.reg [⟨(some 2), .new [(.int .i64 0), (.int .i64 0), (.str []), (.str []), (.lst [] .full)], none⟩])
   (.seq (.reg [⟨(some 4), .mov (.t 0), none⟩,
       ⟨(some 5), .call (.c (.fn 66 [] [])) [(.t 4)], none⟩,
       ⟨(some 3), .new [(.int .i64 0), (.int .i64 0), (.str []), (.str []), (.lst [] .full), (.int .i64 0), (.int .i64 0)], none⟩,
       ⟨none, .st (some 7) (.t 3) (.t 5), none⟩])
    (.seq (.reg [⟨(some 6), .mov (.t 0), none⟩,
        ⟨(some 7), .call (.c (.fn 67 [] [])) [(.t 6)], none⟩])
     (.seq (.reg [⟨(some 8), .fa 0 (.t 3), none⟩,
         ⟨(some 9), .ld (some 5) (.t 8), none⟩,
         ⟨none, .st (some 5) (.t 2) (.t 9), none⟩])
      (.ret)))))⟩
/-- (*gavotte/read.parser).program -/
def c37 : AFunc := ⟨27, [.cell 2 (some 2)],
  (.seq (.reg [⟨(some 1), .box 1 (.t 0), none⟩,
      ⟨(some 2), .new [(.lst [] .full), (.str [])], none⟩])
   (.seq (.reg [⟨(some 3), .new [(.lst [] .full), (.str [])], none⟩])
    (.seq (.reg [⟨(some 5), .mkF 74 [] [(.t 1)], none⟩,
        ⟨(some 4), .asg (.t 5), none⟩])
     (.seq (.seq (.reg [⟨(some 6), .mov (.t 4), none⟩,
          ⟨(some 7), .call (.t 6) [], none⟩,
          ⟨(some 8), .un .not (.t 7), none⟩])
       (.cond (.t 8) (.reg [⟨(some 9), .ld none (.t 1), none⟩,
           ⟨(some 10), .call (.c (.fn 76 [] [])) [(.t 9)], none⟩])
        (.skip)))
      (.seq (.reg [⟨(some 11), .ld none (.t 1), none⟩,
          ⟨(some 12), .mov (.t 4), none⟩,
          ⟨(some 13), .ld none (.t 1), none⟩,
          ⟨(some 14), .mkF 78 [(.t 13)] [], none⟩,
          ⟨(some 15), .call (.c (.fn 77 [] [])) [(.t 11), (.c (.int .i64 24)), (.t 12), (.t 14)], none⟩,
          ⟨(some 16), .fa 0 (.t 3), none⟩,
          ⟨none, .st none (.t 16) (.t 15), none⟩])
       (.seq (.reg [⟨(some 17), .ld none (.t 1), none⟩,
           ⟨(some 18), .call (.c (.fn 79 [] [])) [(.t 17), (.c (.str [114, 111, 111, 116]))], none⟩])
        (.seq (.reg [⟨(some 19), .ld none (.t 1), none⟩,
            ⟨(some 20), .call (.c (.fn 80 [] [])) [(.t 19)], none⟩,
            ⟨(some 21), .fa 1 (.t 3), none⟩,
            ⟨none, .st none (.t 21) (.t 20), none⟩])
         (.seq (.reg [⟨(some 22), .ld none (.t 1), none⟩,
             ⟨(some 23), .call (.c (.fn 79 [] [])) [(.t 22), (.c (.str [59]))], none⟩])
          (.seq (.reg [⟨(some 24), .ld none (.t 1), none⟩,
              ⟨(some 25), .call (.c (.fn 67 [] [])) [(.t 24)], none⟩])
           (.seq (.reg [⟨(some 26), .ld (some 2) (.t 3), none⟩,
               ⟨none, .st (some 2) (.t 2) (.t 26), none⟩])
            (.ret)))))))))))⟩
/-- gavotte/ast.Name -/
def c48 : AFunc := ⟨10, [.tmp 2],
  (.seq (.reg [⟨(some 2), .asg (.c (.bool false)), none⟩])
   (.seq (.reg [⟨(some 3), .mov (.t 0), none⟩,
       ⟨(some 4), .call (.c (.fn 92 [] [])) [(.t 3)], none⟩,
       ⟨(some 5), .mov (.t 4), none⟩,
       ⟨(some 6), .mov (.t 0), (some (5, true))⟩,
       ⟨(some 7), .call (.c (.fn 93 [] [])) [(.t 6)], (some (5, true))⟩,
       ⟨(some 8), .un .not (.t 7), (some (5, true))⟩,
       ⟨(some 9), .pick (.t 5) (.t 8) (.c (.bool false)), none⟩,
       ⟨(some 2), .asg (.t 9), none⟩])
    (.ret)))⟩
/-- gavotte/token.Scan -/
def c64 : AFunc := ⟨22, [.cell 2 none, .cell 3 none, .cell 4 none],
  (.seq (.reg [⟨(some 2), .new [(.lst [] .full)], none⟩,
      ⟨(some 3), .new [(.int .i64 0)], none⟩,
      ⟨(some 4), .new [(.int .i64 0)], none⟩])
   (.seq (.reg [⟨(some 5), .new [(.lst [] .full)], none⟩])
    (.seq (.seq (.reg [⟨(some 8), .mov (.t 0), none⟩,
         ⟨(some 9), .call (.c (.fn 123 [] [])) [(.t 8)], none⟩])
      (.block 0 (.rfun (.t 9) [10, 11] (.seq (.reg [⟨(some 6), .new [(.int .i64 0), (.str []), (.int .i64 0), (.int .i64 0)], none⟩,
            ⟨none, .st (some 4) (.t 6) (.t 10), none⟩])
         (.reg [⟨(some 7), .asg (.t 11), none⟩]))
        (.block 1 (.seq (.seq (.reg [⟨(some 12), .mov (.t 7), none⟩,
              ⟨(some 13), .bin .neq (.t 12) (.c (.int .i64 0)), none⟩])
           (.cond (.t 13) (.seq (.draw [⟨⟨(some 14), .fa 3 (.t 6), none⟩, 0, 0⟩,
                ⟨⟨(some 15), .ld none (.t 14), none⟩, 1, 1⟩,
                ⟨⟨(some 16), .mov (.t 7), none⟩, 2, 0⟩,
                ⟨⟨none, .st none (.t 2) (.c (.lst [] .full)), none⟩, 3, 0⟩,
                ⟨⟨none, .st none (.t 3) (.t 15), none⟩, 4, 11⟩,
                ⟨⟨none, .st none (.t 4) (.t 16), none⟩, 5, 31⟩])
             (.ret))
            (.skip)))
          (.reg [⟨(some 17), .ld none (.t 5), none⟩,
             ⟨(some 18), .ld (some 4) (.t 6), none⟩,
             ⟨(some 19), .list 4 [(.int .i64 0), (.str []), (.int .i64 0), (.int .i64 0)] 1 [(0, (.t 18))], none⟩,
             ⟨(some 20), .app 4 (.t 17) (.t 19), none⟩,
             ⟨none, .st none (.t 5) (.t 20), none⟩]))))))
     (.seq (.reg [⟨(some 21), .ld none (.t 5), none⟩,
         ⟨none, .st none (.t 2) (.t 21), none⟩,
         ⟨none, .st none (.t 3) (.c (.int .i64 0)), none⟩,
         ⟨none, .st none (.t 4) (.c (.int .i64 0)), none⟩])
      (.ret)))))⟩
/-- (*gavotte/read.parser).expr -/
def c66 : AFunc := ⟨32, [.cell 2 (some 7)],
  (.seq (.reg [⟨(some 2), .new [(.int .i64 0), (.int .i64 0), (.str []), (.str []), (.lst [] .full), (.int .i64 0), (.int .i64 0)], none⟩])
   (.seq (.reg [⟨(some 7), .mov (.t 0), none⟩,
       ⟨(some 8), .call (.c (.fn 124 [] [])) [(.t 7)], none⟩,
       ⟨(some 3), .asg (.t 8), none⟩])
    (.seq (.seq (.reg [⟨(some 9), .mov (.t 0), none⟩,
         ⟨(some 10), .call (.c (.fn 125 [] [])) [(.t 9), (.c (.str [105, 102]))], none⟩,
         ⟨(some 11), .un .not (.t 10), none⟩])
      (.cond (.t 11) (.seq (.reg [⟨(some 12), .mov (.t 0), none⟩,
           ⟨(some 13), .call (.c (.fn 126 [] [])) [(.t 12)], none⟩,
           ⟨none, .st (some 7) (.t 2) (.t 13), none⟩])
        (.ret))
       (.skip)))
     (.seq (.reg [⟨(some 14), .mov (.t 0), none⟩,
         ⟨(some 15), .call (.c (.fn 66 [] [])) [(.t 14)], none⟩,
         ⟨(some 4), .new [(.int .i64 0), (.int .i64 0), (.str []), (.str []), (.lst [] .full), (.int .i64 0), (.int .i64 0)], none⟩,
         ⟨none, .st (some 7) (.t 4) (.t 15), none⟩])
      (.seq (.reg [⟨(some 16), .mov (.t 0), none⟩,
          ⟨(some 17), .call (.c (.fn 79 [] [])) [(.t 16), (.c (.str [116, 104, 101, 110]))], none⟩])
       (.seq (.reg [⟨(some 18), .mov (.t 0), none⟩,
           ⟨(some 19), .call (.c (.fn 66 [] [])) [(.t 18)], none⟩,
           ⟨(some 5), .new [(.int .i64 0), (.int .i64 0), (.str []), (.str []), (.lst [] .full), (.int .i64 0), (.int .i64 0)], none⟩,
           ⟨none, .st (some 7) (.t 5) (.t 19), none⟩])
        (.seq (.reg [⟨(some 20), .mov (.t 0), none⟩,
            ⟨(some 21), .call (.c (.fn 79 [] [])) [(.t 20), (.c (.str [101, 108, 115, 101]))], none⟩])
         (.seq (.reg [⟨(some 22), .mov (.t 0), none⟩,
             ⟨(some 23), .call (.c (.fn 66 [] [])) [(.t 22)], none⟩,
             ⟨(some 6), .new [(.int .i64 0), (.int .i64 0), (.str []), (.str []), (.lst [] .full), (.int .i64 0), (.int .i64 0)], none⟩,
             ⟨none, .st (some 7) (.t 6) (.t 23), none⟩])
          (.seq (.reg [⟨(some 24), .mov (.t 0), none⟩,
              ⟨(some 25), .mov (.t 3), none⟩,
              ⟨(some 26), .build [(.int .i64 0), (.int .i64 0), (.str []), (.str []), (.lst [] .full)] [(0, 1, (.c (.int .i64 25)))], none⟩,
              ⟨(some 27), .ld (some 7) (.t 4), none⟩,
              ⟨(some 28), .ld (some 7) (.t 5), none⟩,
              ⟨(some 29), .ld (some 7) (.t 6), none⟩,
              ⟨(some 30), .list 7 [(.int .i64 0), (.int .i64 0), (.str []), (.str []), (.lst [] .full), (.int .i64 0), (.int .i64 0)] 3 [(0, (.t 27)), (1, (.t 28)), (2, (.t 29))], none⟩,
              ⟨(some 31), .call (.c (.fn 127 [] [])) [(.t 24), (.t 25), (.t 26), (.t 30)], none⟩,
              ⟨none, .st (some 7) (.t 2) (.t 31), none⟩])
           (.ret))))))))))⟩
/-- (*gavotte/read.parser).end -/
def c67 : AFunc := ⟨8, [],
  (.seq (.reg [⟨(some 2), .mov (.t 0), none⟩,
      ⟨(some 3), .call (.c (.fn 128 [] [])) [(.t 2)], none⟩,
      ⟨(some 4), .fld 0 none (.t 3), none⟩,
      ⟨(some 5), .bin .neq (.t 4) (.c (.int .i64 4)), none⟩])
   (.cond (.t 5) (.reg [⟨(some 6), .mov (.t 0), none⟩,
       ⟨(some 7), .call (.c (.fn 76 [] [])) [(.t 6)], none⟩])
    (.skip)))⟩
/-- (*gavotte/read.parser).program$1 -/
def c74 : AFunc := ⟨8, [.tmp 1],
  (.seq (.reg [⟨(some 1), .asg (.c (.bool false)), none⟩])
   (.seq (.reg [⟨(some 2), .ld none (.t 0), none⟩,
       ⟨(some 3), .call (.c (.fn 75 [] [])) [(.t 2), (.c (.str [97, 116, 111, 109, 105, 99]))], none⟩,
       ⟨(some 4), .mov (.t 3), none⟩,
       ⟨(some 5), .ld none (.t 0), (some (4, false))⟩,
       ⟨(some 6), .call (.c (.fn 75 [] [])) [(.t 5), (.c (.str [99, 111, 117, 112, 108, 101, 100]))], (some (4, false))⟩,
       ⟨(some 7), .pick (.t 4) (.c (.bool true)) (.t 6), none⟩,
       ⟨(some 1), .asg (.t 7), none⟩])
    (.ret)))⟩
/-- (*gavotte/read.parser).is -/
def c75 : AFunc := ⟨22, [.tmp 4],
  (.seq (.reg [⟨(some 4), .asg (.c (.bool false)), none⟩])
   (.seq (.reg [⟨(some 6), .mov (.t 0), none⟩,
       ⟨(some 7), .call (.c (.fn 128 [] [])) [(.t 6)], none⟩,
       ⟨(some 5), .new [(.int .i64 0), (.str []), (.int .i64 0), (.int .i64 0)], none⟩,
       ⟨none, .st (some 4) (.t 5) (.t 7), none⟩])
    (.seq (.reg [⟨(some 8), .fa 0 (.t 5), none⟩,
        ⟨(some 9), .ld none (.t 8), none⟩,
        ⟨(some 10), .bin .eql (.t 9) (.c (.int .i64 3)), none⟩,
        ⟨(some 11), .mov (.t 10), none⟩,
        ⟨(some 12), .fa 0 (.t 5), (some (11, false))⟩,
        ⟨(some 13), .ld none (.t 12), (some (11, false))⟩,
        ⟨(some 14), .bin .eql (.t 13) (.c (.int .i64 0)), (some (11, false))⟩,
        ⟨(some 15), .pick (.t 11) (.c (.bool true)) (.t 14), none⟩,
        ⟨(some 16), .mov (.t 15), none⟩,
        ⟨(some 17), .fa 1 (.t 5), (some (16, true))⟩,
        ⟨(some 18), .ld none (.t 17), (some (16, true))⟩,
        ⟨(some 19), .mov (.t 1), (some (16, true))⟩,
        ⟨(some 20), .bin .eql (.t 18) (.t 19), (some (16, true))⟩,
        ⟨(some 21), .pick (.t 16) (.t 20) (.c (.bool false)), none⟩,
        ⟨(some 4), .asg (.t 21), none⟩])
     (.ret))))⟩
/-- (*gavotte/read.parser).bad -/
def c76 : AFunc := ⟨6, [],
  (.reg [⟨(some 2), .mov (.t 0), none⟩,
     ⟨(some 3), .mov (.t 0), none⟩,
     ⟨(some 4), .call (.c (.fn 124 [] [])) [(.t 3)], none⟩,
     ⟨(some 5), .call (.c (.fn 132 [] [])) [(.t 2), (.t 4), (.c (.int .i64 6))], none⟩])⟩
/-- gavotte/read.many[gavotte/api.Model] -/
def c77 : AFunc := ⟨26, [.tmp 8],
  (.seq (.reg [⟨(some 8), .asg (.c (.lst [] .full)), none⟩])
   (.seq (.reg [⟨(some 9), .asg (.c (.lst [] .full)), none⟩])
    (.seq (.block 0 (.loop (.seq (.seq (.reg [⟨(some 10), .mov (.t 2), none⟩,
            ⟨(some 11), .call (.t 10) [], none⟩])
         (.cond (.t 11) (.skip)
          (.exit 0)))
        (.block 1 (.seq (.seq (.reg [⟨(some 12), .mov (.t 9), none⟩,
              ⟨(some 13), .len false (.t 12), none⟩,
              ⟨(some 14), .mov (.t 1), none⟩,
              ⟨(some 15), .bin .eql (.t 13) (.t 14), none⟩])
           (.cond (.t 15) (.reg [⟨(some 16), .mov (.t 0), none⟩,
               ⟨(some 17), .mov (.t 0), none⟩,
               ⟨(some 18), .call (.c (.fn 124 [] [])) [(.t 17)], none⟩,
               ⟨(some 19), .call (.c (.fn 132 [] [])) [(.t 16), (.t 18), (.c (.int .i64 8))], none⟩])
            (.skip)))
          (.reg [⟨(some 20), .mov (.t 9), none⟩,
             ⟨(some 21), .mov (.t 3), none⟩,
             ⟨(some 22), .call (.t 21) [], none⟩,
             ⟨(some 23), .list 14 [(.str []), (.bool false), (.lst [] .full), (.lst [] .full), (.lst [] .full), (.lst [] .full), (.lst [] .full), (.lst [] .full), (.lst [] .full), (.int .i64 0), (.lst [] .full), (.lst [] .full), (.lst [] .full), (.lst [] .full)] 1 [(0, (.t 22))], none⟩,
             ⟨(some 24), .app 14 (.t 20) (.t 23), none⟩,
             ⟨(some 9), .asg (.t 24), none⟩]))))))
     (.seq (.reg [⟨(some 25), .mov (.t 9), none⟩,
         ⟨(some 8), .asg (.t 25), none⟩])
      (.ret)))))⟩
/-- (*gavotte/read.parser).model -/
def c78 : AFunc := ⟨38, [.cell 2 (some 14)],
  (.seq (.reg [⟨(some 2), .new [(.str []), (.bool false), (.lst [] .full), (.lst [] .full), (.lst [] .full), (.lst [] .full), (.lst [] .full), (.lst [] .full), (.lst [] .full), (.int .i64 0), (.lst [] .full), (.lst [] .full), (.lst [] .full), (.lst [] .full)], none⟩])
   (.seq (.reg [⟨(some 3), .new [(.str []), (.bool false), (.lst [] .full), (.lst [] .full), (.lst [] .full), (.lst [] .full), (.lst [] .full), (.lst [] .full), (.lst [] .full), (.int .i64 0), (.lst [] .full), (.lst [] .full), (.lst [] .full), (.lst [] .full)], none⟩])
    (.seq (.reg [⟨(some 4), .mov (.t 0), none⟩,
        ⟨(some 5), .call (.c (.fn 75 [] [])) [(.t 4), (.c (.str [99, 111, 117, 112, 108, 101, 100]))], none⟩,
        ⟨(some 6), .fa 1 (.t 3), none⟩,
        ⟨none, .st none (.t 6) (.t 5), none⟩])
     (.seq (.reg [⟨(some 7), .mov (.t 0), none⟩,
         ⟨(some 8), .nilc (.t 7), none⟩,
         ⟨(some 9), .fa 1 (.t 8), none⟩,
         ⟨(some 10), .ld none (.t 9), none⟩,
         ⟨(some 11), .bin .add (.t 10) (.c (.int .i64 1)), none⟩,
         ⟨(some 12), .nilc (.t 7), none⟩,
         ⟨(some 13), .fa 1 (.t 12), none⟩,
         ⟨none, .st none (.t 13) (.t 11), none⟩])
      (.seq (.reg [⟨(some 14), .mov (.t 0), none⟩,
          ⟨(some 15), .call (.c (.fn 80 [] [])) [(.t 14)], none⟩,
          ⟨(some 16), .fa 0 (.t 3), none⟩,
          ⟨none, .st none (.t 16) (.t 15), none⟩])
       (.seq (.reg [⟨(some 17), .mov (.t 0), none⟩,
           ⟨(some 18), .call (.c (.fn 79 [] [])) [(.t 17), (.c (.str [123]))], none⟩])
        (.seq (.reg [⟨(some 19), .mov (.t 0), none⟩,
            ⟨(some 20), .mov (.t 0), none⟩,
            ⟨(some 21), .mkF 134 [(.t 20)] [], none⟩,
            ⟨(some 22), .call (.c (.fn 133 [] [])) [(.t 19), (.c (.int .i64 8)), (.c (.str [105, 110])), (.t 21)], none⟩,
            ⟨(some 23), .fa 2 (.t 3), none⟩,
            ⟨none, .st none (.t 23) (.t 22), none⟩])
         (.seq (.reg [⟨(some 24), .mov (.t 0), none⟩,
             ⟨(some 25), .mov (.t 0), none⟩,
             ⟨(some 26), .mkF 134 [(.t 25)] [], none⟩,
             ⟨(some 27), .call (.c (.fn 133 [] [])) [(.t 24), (.c (.int .i64 8)), (.c (.str [111, 117, 116])), (.t 26)], none⟩,
             ⟨(some 28), .fa 3 (.t 3), none⟩,
             ⟨none, .st none (.t 28) (.t 27), none⟩])
          (.seq (.seq (.reg [⟨(some 29), .fa 1 (.t 3), none⟩,
               ⟨(some 30), .ld none (.t 29), none⟩])
            (.cond (.t 30) (.reg [⟨(some 31), .mov (.t 0), none⟩,
                ⟨(some 32), .call (.c (.fn 135 [] [])) [(.t 31), (.t 3)], none⟩])
             (.reg [⟨(some 33), .mov (.t 0), none⟩,
                ⟨(some 34), .call (.c (.fn 136 [] [])) [(.t 33), (.t 3)], none⟩])))
           (.seq (.reg [⟨(some 35), .mov (.t 0), none⟩,
               ⟨(some 36), .call (.c (.fn 79 [] [])) [(.t 35), (.c (.str [125]))], none⟩])
            (.seq (.reg [⟨(some 37), .ld (some 14) (.t 3), none⟩,
                ⟨none, .st (some 14) (.t 2) (.t 37), none⟩])
             (.ret))))))))))))⟩
/-- (*gavotte/read.parser).need -/
def c79 : AFunc := ⟨10, [],
  (.seq (.reg [⟨(some 4), .mov (.t 0), none⟩,
      ⟨(some 5), .mov (.t 1), none⟩,
      ⟨(some 6), .call (.c (.fn 125 [] [])) [(.t 4), (.t 5)], none⟩,
      ⟨(some 7), .un .not (.t 6), none⟩])
   (.cond (.t 7) (.reg [⟨(some 8), .mov (.t 0), none⟩,
       ⟨(some 9), .call (.c (.fn 76 [] [])) [(.t 8)], none⟩])
    (.skip)))⟩
/-- (*gavotte/read.parser).name -/
def c80 : AFunc := ⟨20, [.tmp 2],
  (.seq (.reg [⟨(some 2), .asg (.c (.str [])), none⟩])
   (.seq (.seq (.reg [⟨(some 4), .mov (.t 0), none⟩,
        ⟨(some 5), .call (.c (.fn 137 [] [])) [(.t 4)], none⟩,
        ⟨(some 6), .un .not (.t 5), none⟩])
     (.cond (.t 6) (.reg [⟨(some 7), .mov (.t 0), none⟩,
         ⟨(some 8), .call (.c (.fn 76 [] [])) [(.t 7)], none⟩])
      (.skip)))
    (.seq (.reg [⟨(some 9), .mov (.t 0), none⟩,
        ⟨(some 10), .call (.c (.fn 128 [] [])) [(.t 9)], none⟩,
        ⟨(some 11), .fld 1 none (.t 10), none⟩,
        ⟨(some 3), .asg (.t 11), none⟩])
     (.seq (.reg [⟨(some 12), .mov (.t 0), none⟩,
         ⟨(some 13), .nilc (.t 12), none⟩,
         ⟨(some 14), .fa 1 (.t 13), none⟩,
         ⟨(some 15), .ld none (.t 14), none⟩,
         ⟨(some 16), .bin .add (.t 15) (.c (.int .i64 1)), none⟩,
         ⟨(some 17), .nilc (.t 12), none⟩,
         ⟨(some 18), .fa 1 (.t 17), none⟩,
         ⟨none, .st none (.t 18) (.t 16), none⟩])
      (.seq (.reg [⟨(some 19), .mov (.t 3), none⟩,
          ⟨(some 2), .asg (.t 19), none⟩])
       (.ret))))))⟩
/-- gavotte/value.Name -/
def c92 : AFunc := ⟨50, [.tmp 2],
  (.seq (.reg [⟨(some 2), .asg (.c (.bool false)), none⟩])
   (.seq (.seq (.reg [⟨(some 6), .mov (.t 0), none⟩,
        ⟨(some 7), .len true (.t 6), none⟩,
        ⟨(some 8), .bin .lss (.t 7) (.c (.int .i64 1)), none⟩,
        ⟨(some 9), .mov (.t 8), none⟩,
        ⟨(some 10), .mov (.t 0), (some (9, false))⟩,
        ⟨(some 11), .len true (.t 10), (some (9, false))⟩,
        ⟨(some 12), .bin .gtr (.t 11) (.c (.int .i64 16)), (some (9, false))⟩,
        ⟨(some 13), .pick (.t 9) (.c (.bool true)) (.t 12), none⟩])
     (.cond (.t 13) (.seq (.reg [⟨(some 2), .asg (.c (.bool false)), none⟩])
       (.ret))
      (.skip)))
    (.seq (.seq (.reg [⟨(some 14), .mov (.t 0), none⟩,
         ⟨(some 15), .len true (.t 14), none⟩,
         ⟨(some 16), .mov (.c (.int .i64 0)), none⟩])
      (.block 0 (.loop (.seq (.reg [⟨(some 17), .bin .lss (.t 16) (.t 15), none⟩])
         (.seq (.cond (.t 17) (.skip)
           (.exit 0))
          (.seq (.block 1 (.seq (.reg [⟨(some 18), .mov (.t 16), none⟩,
                ⟨(some 3), .asg (.t 18), none⟩])
             (.seq (.reg [⟨(some 19), .mov (.t 0), none⟩,
                 ⟨(some 20), .mov (.t 3), none⟩,
                 ⟨(some 21), .ixS (.t 19) (.t 20), none⟩,
                 ⟨(some 22), .bin .geq (.t 21) (.c (.int .u8 97)), none⟩,
                 ⟨(some 23), .mov (.t 22), none⟩,
                 ⟨(some 24), .mov (.t 0), (some (23, true))⟩,
                 ⟨(some 25), .mov (.t 3), (some (23, true))⟩,
                 ⟨(some 26), .ixS (.t 24) (.t 25), (some (23, true))⟩,
                 ⟨(some 27), .bin .leq (.t 26) (.c (.int .u8 122)), (some (23, true))⟩,
                 ⟨(some 28), .pick (.t 23) (.t 27) (.c (.bool false)), none⟩,
                 ⟨(some 4), .asg (.t 28), none⟩])
              (.seq (.reg [⟨(some 29), .mov (.t 0), none⟩,
                  ⟨(some 30), .mov (.t 3), none⟩,
                  ⟨(some 31), .ixS (.t 29) (.t 30), none⟩,
                  ⟨(some 32), .bin .geq (.t 31) (.c (.int .u8 48)), none⟩,
                  ⟨(some 33), .mov (.t 32), none⟩,
                  ⟨(some 34), .mov (.t 0), (some (33, true))⟩,
                  ⟨(some 35), .mov (.t 3), (some (33, true))⟩,
                  ⟨(some 36), .ixS (.t 34) (.t 35), (some (33, true))⟩,
                  ⟨(some 37), .bin .leq (.t 36) (.c (.int .u8 57)), (some (33, true))⟩,
                  ⟨(some 38), .pick (.t 33) (.t 37) (.c (.bool false)), none⟩,
                  ⟨(some 5), .asg (.t 38), none⟩])
               (.seq (.reg [⟨(some 39), .mov (.t 4), none⟩,
                   ⟨(some 40), .un .not (.t 39), none⟩,
                   ⟨(some 41), .mov (.t 40), none⟩,
                   ⟨(some 42), .mov (.t 3), (some (41, true))⟩,
                   ⟨(some 43), .bin .eql (.t 42) (.c (.int .i64 0)), (some (41, true))⟩,
                   ⟨(some 44), .mov (.t 43), (some (41, true))⟩,
                   ⟨(some 45), .mov (.t 5), (some (44, false))⟩,
                   ⟨(some 46), .un .not (.t 45), (some (44, false))⟩,
                   ⟨(some 47), .pick (.t 44) (.c (.bool true)) (.t 46), (some (41, true))⟩,
                   ⟨(some 48), .pick (.t 41) (.t 47) (.c (.bool false)), none⟩])
                (.cond (.t 48) (.seq (.reg [⟨(some 2), .asg (.c (.bool false)), none⟩])
                  (.ret))
                 (.skip)))))))
           (.reg [⟨(some 49), .bin .add (.t 16) (.c (.int .i64 1)), none⟩,
              ⟨(some 16), .mov (.t 49), none⟩])))))))
     (.seq (.reg [⟨(some 2), .asg (.c (.bool true)), none⟩])
      (.ret)))))⟩
/-- gavotte/ast.Reserved -/
def c93 : AFunc := ⟨13, [.tmp 2],
  (.seq (.reg [⟨(some 2), .asg (.c (.bool false)), none⟩])
   (.seq (.seq (.reg [⟨(some 5), .ld (some 33) (.c (.iptr g0 0)), none⟩,
        ⟨(some 6), .mov (.c (.int .i64 0)), none⟩])
     (.block 0 (.loop (.seq (.reg [⟨(some 7), .bin .lss (.t 6) (.c (.int .i64 33)), none⟩])
        (.seq (.cond (.t 7) (.skip)
          (.exit 0))
         (.seq (.block 1 (.seq (.reg [⟨(some 8), .ixA 33 none (.t 5) (.t 6), none⟩,
               ⟨(some 4), .asg (.t 8), none⟩])
            (.seq (.reg [⟨(some 9), .mov (.t 4), none⟩,
                ⟨(some 10), .mov (.t 0), none⟩,
                ⟨(some 11), .bin .eql (.t 9) (.t 10), none⟩])
             (.cond (.t 11) (.seq (.reg [⟨(some 2), .asg (.c (.bool true)), none⟩])
               (.ret))
              (.skip)))))
          (.reg [⟨(some 12), .bin .add (.t 6) (.c (.int .i64 1)), none⟩,
             ⟨(some 6), .mov (.t 12), none⟩])))))))
    (.seq (.reg [⟨(some 2), .asg (.c (.bool false)), none⟩])
     (.ret))))⟩
/-- gavotte/token.All -/
def c123 : AFunc := ⟨4, [.tmp 2],
  (.seq (.reg [⟨(some 1), .box 1 (.t 0), none⟩,
      ⟨(some 2), .asg (.c .nilfunc), none⟩])
   (.seq (.reg [⟨(some 3), .mkF 177 [] [(.t 1)], none⟩,
       ⟨(some 2), .asg (.t 3), none⟩])
    (.ret)))⟩
/-- (*gavotte/read.parser).at -/
def c124 : AFunc := ⟨6, [.tmp 2],
  (.seq (.reg [⟨(some 2), .asg (.c (.int .i64 0)), none⟩])
   (.seq (.reg [⟨(some 3), .mov (.t 0), none⟩,
       ⟨(some 4), .call (.c (.fn 128 [] [])) [(.t 3)], none⟩,
       ⟨(some 5), .fld 3 none (.t 4), none⟩,
       ⟨(some 2), .asg (.t 5), none⟩])
    (.ret)))⟩
/-- (*gavotte/read.parser).take -/
def c125 : AFunc := ⟨16, [.tmp 4],
  (.seq (.reg [⟨(some 4), .asg (.c (.bool false)), none⟩])
   (.seq (.seq (.reg [⟨(some 5), .mov (.t 0), none⟩,
        ⟨(some 6), .mov (.t 1), none⟩,
        ⟨(some 7), .call (.c (.fn 75 [] [])) [(.t 5), (.t 6)], none⟩,
        ⟨(some 8), .un .not (.t 7), none⟩])
     (.cond (.t 8) (.seq (.reg [⟨(some 4), .asg (.c (.bool false)), none⟩])
       (.ret))
      (.skip)))
    (.seq (.reg [⟨(some 9), .mov (.t 0), none⟩,
        ⟨(some 10), .nilc (.t 9), none⟩,
        ⟨(some 11), .fa 1 (.t 10), none⟩,
        ⟨(some 12), .ld none (.t 11), none⟩,
        ⟨(some 13), .bin .add (.t 12) (.c (.int .i64 1)), none⟩,
        ⟨(some 14), .nilc (.t 9), none⟩,
        ⟨(some 15), .fa 1 (.t 14), none⟩,
        ⟨none, .st none (.t 15) (.t 13), none⟩])
     (.seq (.reg [⟨(some 4), .asg (.c (.bool true)), none⟩])
      (.ret)))))⟩
/-- (*gavotte/read.parser).or -/
def c126 : AFunc := ⟨18, [.cell 2 (some 7)],
  (.seq (.reg [⟨(some 2), .new [(.int .i64 0), (.int .i64 0), (.str []), (.str []), (.lst [] .full), (.int .i64 0), (.int .i64 0)], none⟩])
   (.seq (.reg [⟨(some 4), .mov (.t 0), none⟩,
       ⟨(some 5), .call (.c (.fn 180 [] [])) [(.t 4)], none⟩,
       ⟨(some 3), .new [(.int .i64 0), (.int .i64 0), (.str []), (.str []), (.lst [] .full), (.int .i64 0), (.int .i64 0)], none⟩,
       ⟨none, .st (some 7) (.t 3) (.t 5), none⟩])
    (.seq (.block 0 (.loop (.seq (.seq (.reg [⟨(some 6), .mov (.t 0), none⟩,
            ⟨(some 7), .call (.c (.fn 125 [] [])) [(.t 6), (.c (.str [111, 114]))], none⟩])
         (.cond (.t 7) (.skip)
          (.exit 0)))
        (.block 1 (.draw [⟨⟨(some 8), .mov (.t 0), none⟩, 0, 0⟩,
            ⟨⟨(some 9), .fa 6 (.t 3), none⟩, 1, 0⟩,
            ⟨⟨(some 10), .ld none (.t 9), none⟩, 2, 2⟩,
            ⟨⟨(some 11), .build [(.int .i64 0), (.int .i64 0), (.str []), (.str []), (.lst [] .full)] [(0, 1, (.c (.int .i64 24)))], none⟩, 3, 0⟩,
            ⟨⟨(some 12), .ld (some 7) (.t 3), none⟩, 4, 0⟩,
            ⟨⟨(some 13), .mov (.t 0), none⟩, 5, 0⟩,
            ⟨⟨(some 14), .call (.c (.fn 180 [] [])) [(.t 13)], none⟩, 6, 32⟩,
            ⟨⟨(some 15), .list 7 [(.int .i64 0), (.int .i64 0), (.str []), (.str []), (.lst [] .full), (.int .i64 0), (.int .i64 0)] 2 [(0, (.t 12)), (1, (.t 14))], none⟩, 7, 112⟩,
            ⟨⟨(some 16), .call (.c (.fn 127 [] [])) [(.t 8), (.t 10), (.t 11), (.t 15)], none⟩, 8, 255⟩,
            ⟨⟨none, .st (some 7) (.t 3) (.t 16), none⟩, 9, 511⟩])))))
     (.seq (.reg [⟨(some 17), .ld (some 7) (.t 3), none⟩,
         ⟨none, .st (some 7) (.t 2) (.t 17), none⟩])
      (.ret)))))⟩
/-- (*gavotte/read.parser).make -/
def c127 : AFunc := ⟨45, [.cell 8 (some 7)],
  (.seq (.reg [⟨(some 6), .box 5 (.t 2), none⟩,
      ⟨(some 8), .new [(.int .i64 0), (.int .i64 0), (.str []), (.str []), (.lst [] .full), (.int .i64 0), (.int .i64 0)], none⟩])
   (.seq (.reg [⟨(some 12), .ld (some 5) (.t 6), none⟩,
       ⟨(some 13), .mov (.t 1), none⟩,
       ⟨(some 14), .build [(.int .i64 0), (.int .i64 0), (.str []), (.str []), (.lst [] .full), (.int .i64 0), (.int .i64 0)] [(0, 5, (.t 12)), (5, 1, (.c (.int .i64 1))), (6, 1, (.t 13))], none⟩,
       ⟨(some 9), .new [(.int .i64 0), (.int .i64 0), (.str []), (.str []), (.lst [] .full), (.int .i64 0), (.int .i64 0)], none⟩,
       ⟨none, .st (some 7) (.t 9) (.t 14), none⟩])
    (.seq (.seq (.reg [⟨(some 15), .mov (.t 3), none⟩,
         ⟨(some 16), .len false (.t 15), none⟩,
         ⟨(some 17), .mov (.c (.int .i64 0)), none⟩])
      (.block 0 (.loop (.seq (.reg [⟨(some 18), .bin .lss (.t 17) (.t 16), none⟩])
         (.seq (.cond (.t 18) (.skip)
           (.exit 0))
          (.seq (.block 1 (.seq (.reg [⟨(some 19), .ixaL 7 (.t 15) (.t 17), none⟩,
                ⟨(some 20), .ld (some 7) (.t 19), none⟩,
                ⟨(some 11), .new [(.int .i64 0), (.int .i64 0), (.str []), (.str []), (.lst [] .full), (.int .i64 0), (.int .i64 0)], none⟩,
                ⟨none, .st (some 7) (.t 11) (.t 20), none⟩])
             (.seq (.reg [⟨(some 21), .fa 0 (.t 9), none⟩,
                 ⟨(some 22), .fa 4 (.t 21), none⟩,
                 ⟨(some 23), .ld none (.t 22), none⟩,
                 ⟨(some 24), .fa 0 (.t 11), none⟩,
                 ⟨(some 25), .ld (some 5) (.t 24), none⟩,
                 ⟨(some 26), .list 5 [(.int .i64 0), (.int .i64 0), (.str []), (.str []), (.lst [] .full)] 1 [(0, (.t 25))], none⟩,
                 ⟨(some 27), .app 5 (.t 23) (.t 26), none⟩,
                 ⟨(some 28), .fa 0 (.t 9), none⟩,
                 ⟨(some 29), .fa 4 (.t 28), none⟩,
                 ⟨none, .st none (.t 29) (.t 27), none⟩])
              (.reg [⟨(some 30), .fa 5 (.t 9), none⟩,
                 ⟨(some 31), .ld none (.t 30), none⟩,
                 ⟨(some 32), .fa 5 (.t 11), none⟩,
                 ⟨(some 33), .ld none (.t 32), none⟩,
                 ⟨(some 34), .bin .add (.t 33) (.c (.int .i64 1)), none⟩,
                 ⟨(some 35), .mm true (.t 31) (.t 34), none⟩,
                 ⟨(some 36), .fa 5 (.t 9), none⟩,
                 ⟨none, .st none (.t 36) (.t 35), none⟩]))))
           (.reg [⟨(some 37), .bin .add (.t 17) (.c (.int .i64 1)), none⟩,
              ⟨(some 17), .mov (.t 37), none⟩])))))))
     (.seq (.seq (.reg [⟨(some 38), .fa 5 (.t 9), none⟩,
          ⟨(some 39), .ld none (.t 38), none⟩,
          ⟨(some 40), .bin .gtr (.t 39) (.c (.int .i64 20)), none⟩])
       (.cond (.t 40) (.reg [⟨(some 41), .mov (.t 0), none⟩,
           ⟨(some 42), .mov (.t 1), none⟩,
           ⟨(some 43), .call (.c (.fn 132 [] [])) [(.t 41), (.t 42), (.c (.int .i64 7))], none⟩])
        (.skip)))
      (.seq (.reg [⟨(some 44), .ld (some 7) (.t 9), none⟩,
          ⟨none, .st (some 7) (.t 8) (.t 44), none⟩])
       (.ret))))))⟩
/-- (*gavotte/read.parser).word -/
def c128 : AFunc := ⟨42, [.cell 2 (some 4)],
  (.seq (.reg [⟨(some 2), .new [(.int .i64 0), (.str []), (.int .i64 0), (.int .i64 0)], none⟩])
   (.seq (.seq (.draw [⟨⟨(some 3), .mov (.t 0), none⟩, 0, 0⟩,
        ⟨⟨(some 4), .nilc (.t 3), none⟩, 1, 1⟩,
        ⟨⟨(some 5), .fa 1 (.t 4), none⟩, 2, 3⟩,
        ⟨⟨(some 6), .ld none (.t 5), none⟩, 3, 7⟩,
        ⟨⟨(some 7), .mov (.t 0), none⟩, 4, 0⟩,
        ⟨⟨(some 8), .nilc (.t 7), none⟩, 5, 16⟩,
        ⟨⟨(some 9), .fa 0 (.t 8), none⟩, 6, 48⟩,
        ⟨⟨(some 10), .ld none (.t 9), none⟩, 7, 112⟩,
        ⟨⟨(some 11), .len false (.t 10), none⟩, 8, 240⟩,
        ⟨⟨(some 12), .bin .lss (.t 6) (.t 11), none⟩, 9, 511⟩])
     (.cond (.t 12) (.seq (.draw [⟨⟨(some 13), .mov (.t 0), none⟩, 0, 0⟩,
          ⟨⟨(some 14), .nilc (.t 13), none⟩, 1, 1⟩,
          ⟨⟨(some 15), .fa 0 (.t 14), none⟩, 2, 3⟩,
          ⟨⟨(some 16), .ld none (.t 15), none⟩, 3, 7⟩,
          ⟨⟨(some 17), .mov (.t 0), none⟩, 4, 0⟩,
          ⟨⟨(some 18), .nilc (.t 17), none⟩, 5, 16⟩,
          ⟨⟨(some 19), .fa 1 (.t 18), none⟩, 6, 48⟩,
          ⟨⟨(some 20), .ld none (.t 19), none⟩, 7, 112⟩,
          ⟨⟨(some 21), .ixaL 4 (.t 16) (.t 20), none⟩, 8, 255⟩,
          ⟨⟨(some 22), .ld (some 4) (.t 21), none⟩, 9, 511⟩,
          ⟨⟨none, .st (some 4) (.t 2) (.t 22), none⟩, 10, 1023⟩])
       (.ret))
      (.skip)))
    (.seq (.seq (.reg [⟨(some 23), .mov (.t 0), none⟩,
         ⟨(some 24), .nilc (.t 23), none⟩,
         ⟨(some 25), .fa 0 (.t 24), none⟩,
         ⟨(some 26), .ld none (.t 25), none⟩,
         ⟨(some 27), .len false (.t 26), none⟩,
         ⟨(some 28), .bin .gtr (.t 27) (.c (.int .i64 0)), none⟩])
      (.cond (.t 28) (.seq (.draw [⟨⟨(some 29), .mov (.t 0), none⟩, 0, 0⟩,
           ⟨⟨(some 30), .nilc (.t 29), none⟩, 1, 1⟩,
           ⟨⟨(some 31), .fa 0 (.t 30), none⟩, 2, 3⟩,
           ⟨⟨(some 32), .ld none (.t 31), none⟩, 3, 7⟩,
           ⟨⟨(some 33), .mov (.t 0), none⟩, 4, 0⟩,
           ⟨⟨(some 34), .nilc (.t 33), none⟩, 5, 16⟩,
           ⟨⟨(some 35), .fa 0 (.t 34), none⟩, 6, 48⟩,
           ⟨⟨(some 36), .ld none (.t 35), none⟩, 7, 112⟩,
           ⟨⟨(some 37), .len false (.t 36), none⟩, 8, 240⟩,
           ⟨⟨(some 38), .bin .sub (.t 37) (.c (.int .i64 1)), none⟩, 9, 496⟩,
           ⟨⟨(some 39), .ixaL 4 (.t 32) (.t 38), none⟩, 10, 1023⟩,
           ⟨⟨(some 40), .ld (some 4) (.t 39), none⟩, 11, 2047⟩,
           ⟨⟨none, .st (some 4) (.t 2) (.t 40), none⟩, 12, 4095⟩])
        (.ret))
       (.skip)))
     (.seq (.reg [⟨(some 41), .build [(.int .i64 0), (.str []), (.int .i64 0), (.int .i64 0)] [(0, 1, (.c (.int .i64 4)))], none⟩,
         ⟨none, .st (some 4) (.t 2) (.t 41), none⟩])
      (.ret)))))⟩
/-- (*gavotte/read.parser).fail -/
def c132 : AFunc := ⟨10, [],
  (.reg [⟨(some 6), .mov (.t 1), none⟩,
     ⟨(some 7), .mov (.t 2), none⟩,
     ⟨(some 8), .build [(.int .i64 0), (.int .i64 0)] [(0, 1, (.t 6)), (1, 1, (.t 7))], none⟩,
     ⟨(some 9), .mkI 112 (.t 8), none⟩,
     ⟨none, .pan (.t 9), none⟩])⟩
/-- gavotte/read.lines[gavotte/api.Port] -/
def c133 : AFunc := ⟨14, [.tmp 8],
  (.seq (.reg [⟨(some 4), .box 1 (.t 0), none⟩,
      ⟨(some 6), .box 1 (.t 2), none⟩,
      ⟨(some 7), .box 1 (.t 3), none⟩,
      ⟨(some 8), .asg (.c (.lst [] .full)), none⟩])
   (.seq (.reg [⟨(some 9), .ld none (.t 4), none⟩,
       ⟨(some 10), .mov (.t 1), none⟩,
       ⟨(some 11), .mkF 185 [] [(.t 4), (.t 6)], none⟩,
       ⟨(some 12), .mkF 186 [] [(.t 4), (.t 6), (.t 7)], none⟩,
       ⟨(some 13), .call (.c (.fn 184 [] [])) [(.t 9), (.t 10), (.t 11), (.t 12)], none⟩,
       ⟨(some 8), .asg (.t 13), none⟩])
    (.ret)))⟩
/-- (*gavotte/read.parser).port -/
def c134 : AFunc := ⟨15, [.cell 2 (some 3)],
  (.seq (.reg [⟨(some 2), .new [(.str []), (.int .i64 0), (.lst [] .full)], none⟩])
   (.seq (.reg [⟨(some 3), .new [(.str []), (.int .i64 0), (.lst [] .full)], none⟩])
    (.seq (.reg [⟨(some 4), .mov (.t 0), none⟩,
        ⟨(some 5), .call (.c (.fn 80 [] [])) [(.t 4)], none⟩,
        ⟨(some 6), .fa 0 (.t 3), none⟩,
        ⟨none, .st none (.t 6) (.t 5), none⟩])
     (.seq (.reg [⟨(some 7), .mov (.t 0), none⟩,
         ⟨(some 8), .call (.c (.fn 79 [] [])) [(.t 7), (.c (.str [58]))], none⟩])
      (.seq (.reg [⟨(some 9), .mov (.t 0), none⟩,
          ⟨(some 10), .call (.c (.fn 187 [] [])) [(.t 9), (.c (.int .i64 1))], none⟩,
          ⟨(some 11), .fa 1 (.t 3), none⟩,
          ⟨none, .st (some 2) (.t 11) (.t 10), none⟩])
       (.seq (.reg [⟨(some 12), .mov (.t 0), none⟩,
           ⟨(some 13), .call (.c (.fn 79 [] [])) [(.t 12), (.c (.str [59]))], none⟩])
        (.seq (.reg [⟨(some 14), .ld (some 3) (.t 3), none⟩,
            ⟨none, .st (some 3) (.t 2) (.t 14), none⟩])
         (.ret))))))))⟩
/-- (*gavotte/read.parser).coupled -/
def c135 : AFunc := ⟨25, [],
  (.seq (.reg [⟨(some 4), .mov (.t 1), none⟩,
      ⟨(some 5), .mov (.t 0), none⟩,
      ⟨(some 6), .mov (.t 0), none⟩,
      ⟨(some 7), .mkF 189 [(.t 6)] [], none⟩,
      ⟨(some 8), .call (.c (.fn 188 [] [])) [(.t 5), (.c (.int .i64 32)), (.c (.str [112, 97, 114, 116])), (.t 7)], none⟩,
      ⟨(some 9), .nilc (.t 4), none⟩,
      ⟨(some 10), .fa 11 (.t 9), none⟩,
      ⟨none, .st none (.t 10) (.t 8), none⟩])
   (.seq (.reg [⟨(some 11), .mov (.t 1), none⟩,
       ⟨(some 12), .mov (.t 0), none⟩,
       ⟨(some 13), .mov (.t 0), none⟩,
       ⟨(some 14), .mkF 191 [(.t 13)] [], none⟩,
       ⟨(some 15), .call (.c (.fn 190 [] [])) [(.t 12), (.c (.int .i64 200)), (.c (.str [108, 105, 110, 107])), (.t 14)], none⟩,
       ⟨(some 16), .nilc (.t 11), none⟩,
       ⟨(some 17), .fa 12 (.t 16), none⟩,
       ⟨none, .st none (.t 17) (.t 15), none⟩])
    (.reg [⟨(some 18), .mov (.t 1), none⟩,
       ⟨(some 19), .mov (.t 0), none⟩,
       ⟨(some 20), .mov (.t 0), none⟩,
       ⟨(some 21), .mkF 193 [(.t 20)] [], none⟩,
       ⟨(some 22), .call (.c (.fn 192 [] [])) [(.t 19), (.c (.int .i64 4)), (.c (.str [114, 117, 108, 101])), (.t 21)], none⟩,
       ⟨(some 23), .nilc (.t 18), none⟩,
       ⟨(some 24), .fa 13 (.t 23), none⟩,
       ⟨none, .st none (.t 24) (.t 22), none⟩])))⟩
/-- (*gavotte/read.parser).atomic -/
def c136 : AFunc := ⟨74, [],
  (.seq (.reg [⟨(some 4), .mov (.t 1), none⟩,
      ⟨(some 5), .mov (.t 0), none⟩,
      ⟨(some 6), .mov (.t 0), none⟩,
      ⟨(some 7), .mkF 195 [(.t 6)] [], none⟩,
      ⟨(some 8), .call (.c (.fn 194 [] [])) [(.t 5), (.c (.int .i64 10)), (.c (.str [118, 97, 114])), (.t 7)], none⟩,
      ⟨(some 9), .nilc (.t 4), none⟩,
      ⟨(some 10), .fa 4 (.t 9), none⟩,
      ⟨none, .st none (.t 10) (.t 8), none⟩])
   (.seq (.reg [⟨(some 11), .mov (.t 0), none⟩,
       ⟨(some 12), .call (.c (.fn 79 [] [])) [(.t 11), (.c (.str [116, 97]))], none⟩])
    (.seq (.reg [⟨(some 13), .mov (.t 1), none⟩,
        ⟨(some 14), .mov (.t 0), none⟩,
        ⟨(some 15), .call (.c (.fn 66 [] [])) [(.t 14)], none⟩,
        ⟨(some 16), .fld 0 (some 5) (.t 15), none⟩,
        ⟨(some 17), .list 5 [(.int .i64 0), (.int .i64 0), (.str []), (.str []), (.lst [] .full)] 1 [(0, (.t 16))], none⟩,
        ⟨(some 18), .nilc (.t 13), none⟩,
        ⟨(some 19), .fa 5 (.t 18), none⟩,
        ⟨none, .st none (.t 19) (.t 17), none⟩])
     (.seq (.reg [⟨(some 20), .mov (.t 0), none⟩,
         ⟨(some 21), .call (.c (.fn 79 [] [])) [(.t 20), (.c (.str [59]))], none⟩])
      (.seq (.reg [⟨(some 22), .mov (.t 1), none⟩,
          ⟨(some 23), .mov (.t 0), none⟩,
          ⟨(some 24), .mov (.t 0), none⟩,
          ⟨(some 25), .mkF 197 [(.t 24)] [], none⟩,
          ⟨(some 26), .call (.c (.fn 196 [] [])) [(.t 23), (.c (.int .i64 8)), (.c (.str [101, 109, 105, 116])), (.t 25)], none⟩,
          ⟨(some 27), .nilc (.t 22), none⟩,
          ⟨(some 28), .fa 6 (.t 27), none⟩,
          ⟨none, .st none (.t 28) (.t 26), none⟩])
       (.seq (.reg [⟨(some 29), .mov (.t 0), none⟩,
           ⟨(some 30), .call (.c (.fn 79 [] [])) [(.t 29), (.c (.str [105, 110, 116]))], none⟩])
        (.seq (.reg [⟨(some 31), .mov (.t 1), none⟩,
            ⟨(some 32), .mov (.t 0), none⟩,
            ⟨(some 33), .call (.c (.fn 198 [] [])) [(.t 32)], none⟩,
            ⟨(some 34), .nilc (.t 31), none⟩,
            ⟨(some 35), .fa 7 (.t 34), none⟩,
            ⟨none, .st none (.t 35) (.t 33), none⟩])
         (.seq (.reg [⟨(some 36), .mov (.t 0), none⟩,
             ⟨(some 37), .call (.c (.fn 79 [] [])) [(.t 36), (.c (.str [101, 120, 116]))], none⟩])
          (.seq (.reg [⟨(some 38), .mov (.t 1), none⟩,
              ⟨(some 39), .mov (.t 0), none⟩,
              ⟨(some 40), .call (.c (.fn 198 [] [])) [(.t 39)], none⟩,
              ⟨(some 41), .nilc (.t 38), none⟩,
              ⟨(some 42), .fa 8 (.t 41), none⟩,
              ⟨none, .st none (.t 42) (.t 40), none⟩])
           (.seq (.seq (.reg [⟨(some 43), .mov (.t 0), none⟩,
                ⟨(some 44), .call (.c (.fn 125 [] [])) [(.t 43), (.c (.str [99, 111, 110]))], none⟩,
                ⟨(some 45), .un .not (.t 44), none⟩])
             (.cond (.t 45) (.ret)
              (.skip)))
            (.block 0 (.seq (.reg [⟨(some 55), .mov (.t 0), none⟩,
                 ⟨(some 56), .call (.c (.fn 125 [] [])) [(.t 55), (.c (.str [105, 110, 116]))], none⟩,
                 ⟨(some 54), .asg (.t 56), none⟩])
              (.cond (.t 54) (.seq (.reg [⟨(some 57), .mov (.t 0), none⟩,
                   ⟨(some 58), .call (.c (.fn 79 [] [])) [(.t 57), (.c (.str [101, 120, 116]))], none⟩])
                (.seq (.reg [⟨(some 59), .mov (.t 0), none⟩,
                    ⟨(some 60), .call (.c (.fn 79 [] [])) [(.t 59), (.c (.str [59]))], none⟩])
                 (.reg [⟨(some 61), .mov (.t 1), none⟩,
                    ⟨(some 62), .nilc (.t 61), none⟩,
                    ⟨(some 63), .fa 9 (.t 62), none⟩,
                    ⟨none, .st none (.t 63) (.c (.int .i64 0)), none⟩])))
               (.seq (.reg [⟨(some 65), .mov (.t 0), none⟩,
                   ⟨(some 66), .call (.c (.fn 125 [] [])) [(.t 65), (.c (.str [101, 120, 116]))], none⟩,
                   ⟨(some 64), .asg (.t 66), none⟩])
                (.cond (.t 64) (.seq (.reg [⟨(some 67), .mov (.t 0), none⟩,
                     ⟨(some 68), .call (.c (.fn 79 [] [])) [(.t 67), (.c (.str [105, 110, 116]))], none⟩])
                  (.seq (.reg [⟨(some 69), .mov (.t 0), none⟩,
                      ⟨(some 70), .call (.c (.fn 79 [] [])) [(.t 69), (.c (.str [59]))], none⟩])
                   (.reg [⟨(some 71), .mov (.t 1), none⟩,
                      ⟨(some 72), .nilc (.t 71), none⟩,
                      ⟨(some 73), .fa 9 (.t 72), none⟩,
                      ⟨none, .st none (.t 73) (.c (.int .i64 1)), none⟩])))
                 (.seq (.reg [⟨(some 46), .mov (.t 1), none⟩,
                     ⟨(some 47), .nilc (.t 46), none⟩,
                     ⟨(some 48), .fa 9 (.t 47), none⟩,
                     ⟨none, .st none (.t 48) (.c (.int .i64 2)), none⟩])
                  (.reg [⟨(some 49), .mov (.t 1), none⟩,
                     ⟨(some 50), .mov (.t 0), none⟩,
                     ⟨(some 51), .call (.c (.fn 198 [] [])) [(.t 50)], none⟩,
                     ⟨(some 52), .nilc (.t 49), none⟩,
                     ⟨(some 53), .fa 10 (.t 52), none⟩,
                     ⟨none, .st none (.t 53) (.t 51), none⟩])))))))))))))))))⟩
/-- (*gavotte/read.parser).named -/
def c137 : AFunc := ⟨14, [.tmp 2],
  (.seq (.reg [⟨(some 2), .asg (.c (.bool false)), none⟩])
   (.seq (.reg [⟨(some 4), .mov (.t 0), none⟩,
       ⟨(some 5), .call (.c (.fn 128 [] [])) [(.t 4)], none⟩,
       ⟨(some 3), .new [(.int .i64 0), (.str []), (.int .i64 0), (.int .i64 0)], none⟩,
       ⟨none, .st (some 4) (.t 3) (.t 5), none⟩])
    (.seq (.reg [⟨(some 6), .fa 0 (.t 3), none⟩,
        ⟨(some 7), .ld none (.t 6), none⟩,
        ⟨(some 8), .bin .eql (.t 7) (.c (.int .i64 0)), none⟩,
        ⟨(some 9), .mov (.t 8), none⟩,
        ⟨(some 10), .fa 1 (.t 3), (some (9, true))⟩,
        ⟨(some 11), .ld none (.t 10), (some (9, true))⟩,
        ⟨(some 12), .call (.c (.fn 48 [] [])) [(.t 11)], (some (9, true))⟩,
        ⟨(some 13), .pick (.t 9) (.t 12) (.c (.bool false)), none⟩,
        ⟨(some 2), .asg (.t 13), none⟩])
     (.ret))))⟩
/-- gavotte/token.All$1 -/
def c177 : AFunc := ⟨37, [],
  (.seq (.seq (.reg [⟨(some 7), .ld none (.t 1), none⟩,
       ⟨(some 8), .len true (.t 7), none⟩,
       ⟨(some 9), .bin .gtr (.t 8) (.c (.int .i64 16384)), none⟩])
    (.cond (.t 9) (.seq (.reg [⟨(some 10), .mov (.t 0), none⟩,
         ⟨(some 11), .build [(.int .i64 0), (.str []), (.int .i64 0), (.int .i64 0)] [], none⟩,
         ⟨(some 12), .call (.t 10) [(.t 11), (.c (.int .i64 9))], none⟩])
      (.ret))
     (.skip)))
   (.seq (.reg [⟨(some 3), .asg (.c (.int .i64 0)), none⟩])
    (.block 0 (.loop (.block 1 (.seq (.draw [⟨⟨(some 14), .ld none (.t 1), none⟩, 0, 0⟩,
           ⟨⟨(some 15), .ld none (.t 1), none⟩, 1, 0⟩,
           ⟨⟨(some 16), .mov (.t 3), none⟩, 2, 0⟩,
           ⟨⟨(some 4), .new [(.int .i64 0), (.str []), (.int .i64 0), (.int .i64 0)], none⟩, 9, 0⟩,
           ⟨⟨(some 17), .call (.c (.fn 179 [] [])) [(.t 15), (.t 16)], none⟩, 3, 6⟩,
           ⟨⟨(some 18), .call (.c (.fn 178 [] [])) [(.t 14), (.t 17)], none⟩, 4, 15⟩,
           ⟨⟨(some 13), .mov (.t 18), none⟩, 5, 31⟩,
           ⟨⟨(some 19), .ext (.t 13) 0, none⟩, 6, 63⟩,
           ⟨⟨(some 20), .ext (.t 13) 1, none⟩, 7, 63⟩,
           ⟨⟨(some 21), .ext (.t 13) 2, none⟩, 8, 63⟩,
           ⟨⟨none, .st (some 4) (.t 4) (.t 19), none⟩, 10, 639⟩,
           ⟨⟨(some 5), .asg (.t 20), none⟩, 11, 1791⟩,
           ⟨⟨(some 6), .asg (.t 21), none⟩, 12, 4095⟩])
        (.seq (.seq (.reg [⟨(some 22), .mov (.t 0), none⟩,
             ⟨(some 23), .ld (some 4) (.t 4), none⟩,
             ⟨(some 24), .mov (.t 6), none⟩,
             ⟨(some 25), .call (.t 22) [(.t 23), (.t 24)], none⟩,
             ⟨(some 26), .un .not (.t 25), none⟩,
             ⟨(some 27), .mov (.t 26), none⟩,
             ⟨(some 28), .mov (.t 6), (some (27, false))⟩,
             ⟨(some 29), .bin .neq (.t 28) (.c (.int .i64 0)), (some (27, false))⟩,
             ⟨(some 30), .pick (.t 27) (.c (.bool true)) (.t 29), none⟩,
             ⟨(some 31), .mov (.t 30), none⟩,
             ⟨(some 32), .fa 0 (.t 4), (some (31, false))⟩,
             ⟨(some 33), .ld none (.t 32), (some (31, false))⟩,
             ⟨(some 34), .bin .eql (.t 33) (.c (.int .i64 4)), (some (31, false))⟩,
             ⟨(some 35), .pick (.t 31) (.c (.bool true)) (.t 34), none⟩])
          (.cond (.t 35) (.ret)
           (.skip)))
         (.reg [⟨(some 36), .mov (.t 5), none⟩,
            ⟨(some 3), .asg (.t 36), none⟩]))))))))⟩
/-- gavotte/token.word -/
def c178 : AFunc := ⟨72, [.cell 4 (some 4), .tmp 5, .tmp 6],
  (.seq (.reg [⟨(some 4), .new [(.int .i64 0), (.str []), (.int .i64 0), (.int .i64 0)], none⟩,
      ⟨(some 5), .asg (.c (.int .i64 0)), none⟩,
      ⟨(some 6), .asg (.c (.int .i64 0)), none⟩])
   (.seq (.seq (.reg [⟨(some 9), .mov (.t 1), none⟩,
        ⟨(some 10), .mov (.t 0), none⟩,
        ⟨(some 11), .len true (.t 10), none⟩,
        ⟨(some 12), .bin .eql (.t 9) (.t 11), none⟩])
     (.cond (.t 12) (.seq (.reg [⟨(some 13), .mov (.t 1), none⟩,
          ⟨(some 14), .build [(.int .i64 0), (.str []), (.int .i64 0), (.int .i64 0)] [(0, 1, (.c (.int .i64 4))), (3, 1, (.t 13))], none⟩,
          ⟨(some 15), .mov (.t 1), none⟩,
          ⟨none, .st (some 4) (.t 4) (.t 14), none⟩,
          ⟨(some 5), .asg (.t 15), none⟩,
          ⟨(some 6), .asg (.c (.int .i64 0)), none⟩])
       (.ret))
      (.skip)))
    (.seq (.block 0 (.seq (.reg [⟨(some 17), .mov (.t 0), none⟩,
          ⟨(some 18), .mov (.t 1), none⟩,
          ⟨(some 19), .ixS (.t 17) (.t 18), none⟩,
          ⟨(some 20), .call (.c (.fn 224 [] [])) [(.t 19)], none⟩,
          ⟨(some 16), .asg (.t 20), none⟩])
       (.cond (.t 16) (.seq (.reg [⟨(some 21), .mov (.t 0), none⟩,
            ⟨(some 22), .mov (.t 1), none⟩,
            ⟨(some 23), .mov (.t 1), none⟩,
            ⟨(some 24), .call (.c (.fn 225 [] [])) [(.t 21), (.c (.int .i64 0)), (.t 22), (.t 23)], none⟩,
            ⟨(some 25), .ext (.t 24) 0, none⟩,
            ⟨(some 26), .ext (.t 24) 1, none⟩,
            ⟨(some 27), .ext (.t 24) 2, none⟩,
            ⟨none, .st (some 4) (.t 4) (.t 25), none⟩,
            ⟨(some 5), .asg (.t 26), none⟩,
            ⟨(some 6), .asg (.t 27), none⟩])
         (.ret))
        (.seq (.reg [⟨(some 29), .mov (.t 0), none⟩,
            ⟨(some 30), .mov (.t 1), none⟩,
            ⟨(some 31), .ixS (.t 29) (.t 30), none⟩,
            ⟨(some 32), .bin .eql (.t 31) (.c (.int .u8 39)), none⟩,
            ⟨(some 28), .asg (.t 32), none⟩])
         (.cond (.t 28) (.seq (.reg [⟨(some 33), .mov (.t 0), none⟩,
              ⟨(some 34), .mov (.t 1), none⟩,
              ⟨(some 35), .mov (.t 1), none⟩,
              ⟨(some 36), .bin .add (.t 35) (.c (.int .i64 1)), none⟩,
              ⟨(some 37), .call (.c (.fn 225 [] [])) [(.t 33), (.c (.int .i64 2)), (.t 34), (.t 36)], none⟩,
              ⟨(some 38), .ext (.t 37) 0, none⟩,
              ⟨(some 39), .ext (.t 37) 1, none⟩,
              ⟨(some 40), .ext (.t 37) 2, none⟩,
              ⟨none, .st (some 4) (.t 4) (.t 38), none⟩,
              ⟨(some 5), .asg (.t 39), none⟩,
              ⟨(some 6), .asg (.t 40), none⟩])
           (.ret))
          (.seq (.reg [⟨(some 42), .mov (.t 0), none⟩,
              ⟨(some 43), .mov (.t 1), none⟩,
              ⟨(some 44), .ixS (.t 42) (.t 43), none⟩,
              ⟨(some 45), .call (.c (.fn 226 [] [])) [(.t 44)], none⟩,
              ⟨(some 41), .asg (.t 45), none⟩])
           (.cond (.t 41) (.seq (.reg [⟨(some 46), .mov (.t 0), none⟩,
                ⟨(some 47), .mov (.t 1), none⟩,
                ⟨(some 48), .call (.c (.fn 227 [] [])) [(.t 46), (.t 47)], none⟩,
                ⟨(some 49), .ext (.t 48) 0, none⟩,
                ⟨(some 50), .ext (.t 48) 1, none⟩,
                ⟨(some 51), .ext (.t 48) 2, none⟩,
                ⟨none, .st (some 4) (.t 4) (.t 49), none⟩,
                ⟨(some 5), .asg (.t 50), none⟩,
                ⟨(some 6), .asg (.t 51), none⟩])
             (.ret))
            (.skip))))))))
     (.seq (.seq (.reg [⟨(some 52), .ld (some 17) (.c (.iptr g1 0)), none⟩,
          ⟨(some 53), .mov (.c (.int .i64 0)), none⟩])
       (.block 1 (.loop (.seq (.reg [⟨(some 54), .bin .lss (.t 53) (.c (.int .i64 17)), none⟩])
          (.seq (.cond (.t 54) (.skip)
            (.exit 1))
           (.seq (.block 2 (.seq (.reg [⟨(some 55), .ixA 17 none (.t 52) (.t 53), none⟩,
                 ⟨(some 8), .asg (.t 55), none⟩])
              (.seq (.reg [⟨(some 56), .mov (.t 0), none⟩,
                  ⟨(some 57), .mov (.t 1), none⟩,
                  ⟨(some 58), .subS (.t 56) (some (.t 57)) none, none⟩,
                  ⟨(some 59), .mov (.t 8), none⟩,
                  ⟨(some 60), .call (.c (.fn 228 [] [])) [(.t 58), (.t 59)], none⟩])
               (.cond (.t 60) (.seq (.reg [⟨(some 61), .mov (.t 8), none⟩,
                    ⟨(some 62), .mov (.t 1), none⟩,
                    ⟨(some 63), .build [(.int .i64 0), (.str []), (.int .i64 0), (.int .i64 0)] [(0, 1, (.c (.int .i64 3))), (1, 1, (.t 61)), (3, 1, (.t 62))], none⟩,
                    ⟨(some 64), .mov (.t 1), none⟩,
                    ⟨(some 65), .mov (.t 8), none⟩,
                    ⟨(some 66), .len true (.t 65), none⟩,
                    ⟨(some 67), .bin .add (.t 64) (.t 66), none⟩,
                    ⟨none, .st (some 4) (.t 4) (.t 63), none⟩,
                    ⟨(some 5), .asg (.t 67), none⟩,
                    ⟨(some 6), .asg (.c (.int .i64 0)), none⟩])
                 (.ret))
                (.skip)))))
            (.reg [⟨(some 68), .bin .add (.t 53) (.c (.int .i64 1)), none⟩,
               ⟨(some 53), .mov (.t 68), none⟩])))))))
      (.seq (.reg [⟨(some 69), .mov (.t 1), none⟩,
          ⟨(some 70), .build [(.int .i64 0), (.str []), (.int .i64 0), (.int .i64 0)] [(3, 1, (.t 69))], none⟩,
          ⟨(some 71), .mov (.t 1), none⟩,
          ⟨none, .st (some 4) (.t 4) (.t 70), none⟩,
          ⟨(some 5), .asg (.t 71), none⟩,
          ⟨(some 6), .asg (.c (.int .i64 5)), none⟩])
       (.ret))))))⟩
/-- gavotte/token.skip -/
def c179 : AFunc := ⟨34, [.tmp 4],
  (.seq (.reg [⟨(some 4), .asg (.c (.int .i64 0)), none⟩])
   (.seq (.block 0 (.loop (.seq (.seq (.reg [⟨(some 6), .mov (.t 1), none⟩,
           ⟨(some 7), .mov (.t 0), none⟩,
           ⟨(some 8), .len true (.t 7), none⟩,
           ⟨(some 9), .bin .lss (.t 6) (.t 8), none⟩])
        (.cond (.t 9) (.skip)
         (.exit 0)))
       (.seq (.block 1 (.seq (.reg [⟨(some 12), .mov (.t 0), none⟩,
             ⟨(some 13), .mov (.t 1), none⟩,
             ⟨(some 14), .ixS (.t 12) (.t 13), none⟩])
          (.block 2 (.seq (.seq (.reg [⟨(some 17), .bin .eql (.t 14) (.c (.int .u8 32)), none⟩,
                ⟨(some 16), .asg (.t 17), none⟩])
             (.cond (.t 16) (.skip)
              (.seq (.reg [⟨(some 18), .bin .eql (.t 14) (.c (.int .u8 9)), none⟩,
                  ⟨(some 16), .asg (.t 18), none⟩])
               (.cond (.t 16) (.skip)
                (.reg [⟨(some 19), .bin .eql (.t 14) (.c (.int .u8 10)), none⟩,
                   ⟨(some 16), .asg (.t 19), none⟩])))))
            (.cond (.t 16) (.skip)
             (.seq (.reg [⟨(some 21), .bin .eql (.t 14) (.c (.int .u8 35)), none⟩,
                 ⟨(some 20), .asg (.t 21), none⟩])
              (.cond (.t 20) (.seq (.reg [⟨(some 22), .mov (.t 0), none⟩,
                   ⟨(some 23), .mov (.t 1), none⟩,
                   ⟨(some 24), .subS (.t 22) (some (.t 23)) none, none⟩,
                   ⟨(some 25), .call (.c (.fn 229 [] [])) [(.t 24), (.c (.int .u8 10))], none⟩,
                   ⟨(some 5), .asg (.t 25), none⟩])
                (.seq (.seq (.reg [⟨(some 26), .mov (.t 5), none⟩,
                     ⟨(some 27), .bin .lss (.t 26) (.c (.int .i64 0)), none⟩])
                  (.cond (.t 27) (.seq (.reg [⟨(some 28), .mov (.t 0), none⟩,
                       ⟨(some 29), .len true (.t 28), none⟩,
                       ⟨(some 4), .asg (.t 29), none⟩])
                    (.ret))
                   (.skip)))
                 (.reg [⟨(some 30), .mov (.t 1), none⟩,
                    ⟨(some 31), .mov (.t 5), none⟩,
                    ⟨(some 32), .bin .add (.t 30) (.t 31), none⟩,
                    ⟨(some 1), .asg (.t 32), none⟩])))
               (.seq (.reg [⟨(some 15), .mov (.t 1), none⟩,
                   ⟨(some 4), .asg (.t 15), none⟩])
                (.ret)))))))))
        (.reg [⟨(some 10), .mov (.t 1), none⟩,
           ⟨(some 11), .bin .add (.t 10) (.c (.int .i64 1)), none⟩,
           ⟨(some 1), .asg (.t 11), none⟩])))))
    (.seq (.reg [⟨(some 33), .mov (.t 1), none⟩,
        ⟨(some 4), .asg (.t 33), none⟩])
     (.ret))))⟩
/-- (*gavotte/read.parser).and -/
def c180 : AFunc := ⟨18, [.cell 2 (some 7)],
  (.seq (.reg [⟨(some 2), .new [(.int .i64 0), (.int .i64 0), (.str []), (.str []), (.lst [] .full), (.int .i64 0), (.int .i64 0)], none⟩])
   (.seq (.reg [⟨(some 4), .mov (.t 0), none⟩,
       ⟨(some 5), .call (.c (.fn 230 [] [])) [(.t 4)], none⟩,
       ⟨(some 3), .new [(.int .i64 0), (.int .i64 0), (.str []), (.str []), (.lst [] .full), (.int .i64 0), (.int .i64 0)], none⟩,
       ⟨none, .st (some 7) (.t 3) (.t 5), none⟩])
    (.seq (.block 0 (.loop (.seq (.seq (.reg [⟨(some 6), .mov (.t 0), none⟩,
            ⟨(some 7), .call (.c (.fn 125 [] [])) [(.t 6), (.c (.str [97, 110, 100]))], none⟩])
         (.cond (.t 7) (.skip)
          (.exit 0)))
        (.block 1 (.draw [⟨⟨(some 8), .mov (.t 0), none⟩, 0, 0⟩,
            ⟨⟨(some 9), .fa 6 (.t 3), none⟩, 1, 0⟩,
            ⟨⟨(some 10), .ld none (.t 9), none⟩, 2, 2⟩,
            ⟨⟨(some 11), .build [(.int .i64 0), (.int .i64 0), (.str []), (.str []), (.lst [] .full)] [(0, 1, (.c (.int .i64 23)))], none⟩, 3, 0⟩,
            ⟨⟨(some 12), .ld (some 7) (.t 3), none⟩, 4, 0⟩,
            ⟨⟨(some 13), .mov (.t 0), none⟩, 5, 0⟩,
            ⟨⟨(some 14), .call (.c (.fn 230 [] [])) [(.t 13)], none⟩, 6, 32⟩,
            ⟨⟨(some 15), .list 7 [(.int .i64 0), (.int .i64 0), (.str []), (.str []), (.lst [] .full), (.int .i64 0), (.int .i64 0)] 2 [(0, (.t 12)), (1, (.t 14))], none⟩, 7, 112⟩,
            ⟨⟨(some 16), .call (.c (.fn 127 [] [])) [(.t 8), (.t 10), (.t 11), (.t 15)], none⟩, 8, 255⟩,
            ⟨⟨none, .st (some 7) (.t 3) (.t 16), none⟩, 9, 511⟩])))))
     (.seq (.reg [⟨(some 17), .ld (some 7) (.t 3), none⟩,
         ⟨none, .st (some 7) (.t 2) (.t 17), none⟩])
      (.ret)))))⟩
/-- gavotte/read.many[gavotte/api.Port] -/
def c184 : AFunc := ⟨26, [.tmp 8],
  (.seq (.reg [⟨(some 8), .asg (.c (.lst [] .full)), none⟩])
   (.seq (.reg [⟨(some 9), .asg (.c (.lst [] .full)), none⟩])
    (.seq (.block 0 (.loop (.seq (.seq (.reg [⟨(some 10), .mov (.t 2), none⟩,
            ⟨(some 11), .call (.t 10) [], none⟩])
         (.cond (.t 11) (.skip)
          (.exit 0)))
        (.block 1 (.seq (.seq (.reg [⟨(some 12), .mov (.t 9), none⟩,
              ⟨(some 13), .len false (.t 12), none⟩,
              ⟨(some 14), .mov (.t 1), none⟩,
              ⟨(some 15), .bin .eql (.t 13) (.t 14), none⟩])
           (.cond (.t 15) (.reg [⟨(some 16), .mov (.t 0), none⟩,
               ⟨(some 17), .mov (.t 0), none⟩,
               ⟨(some 18), .call (.c (.fn 124 [] [])) [(.t 17)], none⟩,
               ⟨(some 19), .call (.c (.fn 132 [] [])) [(.t 16), (.t 18), (.c (.int .i64 8))], none⟩])
            (.skip)))
          (.reg [⟨(some 20), .mov (.t 9), none⟩,
             ⟨(some 21), .mov (.t 3), none⟩,
             ⟨(some 22), .call (.t 21) [], none⟩,
             ⟨(some 23), .list 3 [(.str []), (.int .i64 0), (.lst [] .full)] 1 [(0, (.t 22))], none⟩,
             ⟨(some 24), .app 3 (.t 20) (.t 23), none⟩,
             ⟨(some 9), .asg (.t 24), none⟩]))))))
     (.seq (.reg [⟨(some 25), .mov (.t 9), none⟩,
         ⟨(some 8), .asg (.t 25), none⟩])
      (.ret)))))⟩
/-- gavotte/read.lines[gavotte/api.Port]$1 -/
def c185 : AFunc := ⟨6, [.tmp 2],
  (.seq (.reg [⟨(some 2), .asg (.c (.bool false)), none⟩])
   (.seq (.reg [⟨(some 3), .ld none (.t 0), none⟩,
       ⟨(some 4), .ld none (.t 1), none⟩,
       ⟨(some 5), .call (.c (.fn 75 [] [])) [(.t 3), (.t 4)], none⟩,
       ⟨(some 2), .asg (.t 5), none⟩])
    (.ret)))⟩
/-- gavotte/read.lines[gavotte/api.Port]$2 -/
def c186 : AFunc := ⟨9, [.cell 3 (some 3)],
  (.seq (.reg [⟨(some 3), .new [(.str []), (.int .i64 0), (.lst [] .full)], none⟩])
   (.seq (.reg [⟨(some 4), .ld none (.t 0), none⟩,
       ⟨(some 5), .ld none (.t 1), none⟩,
       ⟨(some 6), .call (.c (.fn 79 [] [])) [(.t 4), (.t 5)], none⟩])
    (.seq (.reg [⟨(some 7), .ld none (.t 2), none⟩,
        ⟨(some 8), .call (.t 7) [], none⟩,
        ⟨none, .st (some 3) (.t 3) (.t 8), none⟩])
     (.ret))))⟩
/-- (*gavotte/read.parser).typ -/
def c187 : AFunc := ⟨68, [.cell 4 (some 2)],
  (.seq (.reg [⟨(some 4), .new [(.int .i64 0), (.lst [] .full)], none⟩])
   (.seq (.block 0 (.seq (.reg [⟨(some 7), .mov (.t 0), none⟩,
         ⟨(some 8), .call (.c (.fn 125 [] [])) [(.t 7), (.c (.str [105, 110, 116]))], none⟩,
         ⟨(some 6), .asg (.t 8), none⟩])
      (.cond (.t 6) (.seq (.reg [⟨(some 9), .build [(.int .i64 0), (.lst [] .full)] [(0, 1, (.c (.int .i64 0)))], none⟩,
           ⟨none, .st (some 2) (.t 4) (.t 9), none⟩])
        (.ret))
       (.seq (.reg [⟨(some 11), .mov (.t 0), none⟩,
           ⟨(some 12), .call (.c (.fn 125 [] [])) [(.t 11), (.c (.str [98, 111, 111, 108]))], none⟩,
           ⟨(some 10), .asg (.t 12), none⟩])
        (.cond (.t 10) (.seq (.reg [⟨(some 13), .build [(.int .i64 0), (.lst [] .full)] [(0, 1, (.c (.int .i64 1)))], none⟩,
             ⟨none, .st (some 2) (.t 4) (.t 13), none⟩])
          (.ret))
         (.seq (.reg [⟨(some 15), .mov (.t 0), none⟩,
             ⟨(some 16), .call (.c (.fn 125 [] [])) [(.t 15), (.c (.str [115, 121, 109]))], none⟩,
             ⟨(some 14), .asg (.t 16), none⟩])
          (.cond (.t 14) (.seq (.reg [⟨(some 17), .build [(.int .i64 0), (.lst [] .full)] [(0, 1, (.c (.int .i64 2)))], none⟩,
               ⟨none, .st (some 2) (.t 4) (.t 17), none⟩])
            (.ret))
           (.skip))))))))
    (.seq (.seq (.reg [⟨(some 18), .mov (.t 0), none⟩,
         ⟨(some 19), .call (.c (.fn 75 [] [])) [(.t 18), (.c (.str [40]))], none⟩,
         ⟨(some 20), .un .not (.t 19), none⟩])
      (.cond (.t 20) (.reg [⟨(some 21), .mov (.t 0), none⟩,
          ⟨(some 22), .call (.c (.fn 76 [] [])) [(.t 21)], none⟩])
       (.skip)))
     (.seq (.seq (.reg [⟨(some 23), .mov (.t 1), none⟩,
          ⟨(some 24), .bin .gtr (.t 23) (.c (.int .i64 3)), none⟩])
       (.cond (.t 24) (.reg [⟨(some 25), .mov (.t 0), none⟩,
           ⟨(some 26), .mov (.t 0), none⟩,
           ⟨(some 27), .call (.c (.fn 124 [] [])) [(.t 26)], none⟩,
           ⟨(some 28), .call (.c (.fn 132 [] [])) [(.t 25), (.t 27), (.c (.int .i64 7))], none⟩])
        (.skip)))
      (.seq (.reg [⟨(some 29), .mov (.t 0), none⟩,
          ⟨(some 30), .nilc (.t 29), none⟩,
          ⟨(some 31), .fa 1 (.t 30), none⟩,
          ⟨(some 32), .ld none (.t 31), none⟩,
          ⟨(some 33), .bin .add (.t 32) (.c (.int .i64 1)), none⟩,
          ⟨(some 34), .nilc (.t 29), none⟩,
          ⟨(some 35), .fa 1 (.t 34), none⟩,
          ⟨none, .st none (.t 35) (.t 33), none⟩])
       (.seq (.reg [⟨(some 36), .mov (.t 0), none⟩,
           ⟨(some 37), .mov (.t 1), none⟩,
           ⟨(some 38), .bin .add (.t 37) (.c (.int .i64 1)), none⟩,
           ⟨(some 39), .call (.c (.fn 187 [] [])) [(.t 36), (.t 38)], none⟩,
           ⟨(some 40), .list 2 [(.int .i64 0), (.lst [] .full)] 1 [(0, (.t 39))], none⟩,
           ⟨(some 41), .build [(.int .i64 0), (.lst [] .full)] [(0, 1, (.c (.int .i64 3))), (1, 1, (.t 40))], none⟩,
           ⟨(some 5), .new [(.int .i64 0), (.lst [] .full)], none⟩,
           ⟨none, .st (some 2) (.t 5) (.t 41), none⟩])
        (.seq (.reg [⟨(some 42), .mov (.t 0), none⟩,
            ⟨(some 43), .call (.c (.fn 79 [] [])) [(.t 42), (.c (.str [44]))], none⟩])
         (.seq (.seq (.reg [⟨(some 44), .mov (.t 0), none⟩,
              ⟨(some 45), .call (.c (.fn 125 [] [])) [(.t 44), (.c (.str [41]))], none⟩])
           (.cond (.t 45) (.seq (.reg [⟨(some 46), .ld (some 2) (.t 5), none⟩,
                ⟨none, .st (some 2) (.t 4) (.t 46), none⟩])
             (.ret))
            (.skip)))
          (.seq (.block 1 (.loop (.block 2 (.seq (.seq (.reg [⟨(some 47), .fa 1 (.t 5), none⟩,
                   ⟨(some 48), .ld none (.t 47), none⟩,
                   ⟨(some 49), .len false (.t 48), none⟩,
                   ⟨(some 50), .bin .eql (.t 49) (.c (.int .i64 4)), none⟩])
                (.cond (.t 50) (.reg [⟨(some 51), .mov (.t 0), none⟩,
                    ⟨(some 52), .call (.c (.fn 232 [] [])) [(.t 51)], none⟩])
                 (.skip)))
               (.seq (.draw [⟨⟨(some 53), .fa 1 (.t 5), none⟩, 0, 0⟩,
                   ⟨⟨(some 54), .ld none (.t 53), none⟩, 1, 1⟩,
                   ⟨⟨(some 55), .mov (.t 0), none⟩, 2, 0⟩,
                   ⟨⟨(some 56), .mov (.t 1), none⟩, 3, 0⟩,
                   ⟨⟨(some 57), .bin .add (.t 56) (.c (.int .i64 1)), none⟩, 4, 8⟩,
                   ⟨⟨(some 58), .call (.c (.fn 187 [] [])) [(.t 55), (.t 57)], none⟩, 5, 28⟩,
                   ⟨⟨(some 59), .list 2 [(.int .i64 0), (.lst [] .full)] 1 [(0, (.t 58))], none⟩, 6, 60⟩,
                   ⟨⟨(some 60), .app 2 (.t 54) (.t 59), none⟩, 7, 127⟩,
                   ⟨⟨(some 61), .fa 1 (.t 5), none⟩, 8, 255⟩,
                   ⟨⟨none, .st none (.t 61) (.t 60), none⟩, 9, 511⟩])
                (.seq (.reg [⟨(some 62), .mov (.t 0), none⟩,
                    ⟨(some 63), .call (.c (.fn 125 [] [])) [(.t 62), (.c (.str [44]))], none⟩,
                    ⟨(some 64), .un .not (.t 63), none⟩])
                 (.cond (.t 64) (.exit 1)
                  (.skip))))))))
           (.seq (.reg [⟨(some 65), .mov (.t 0), none⟩,
               ⟨(some 66), .call (.c (.fn 79 [] [])) [(.t 65), (.c (.str [41]))], none⟩])
            (.seq (.reg [⟨(some 67), .ld (some 2) (.t 5), none⟩,
                ⟨none, .st (some 2) (.t 4) (.t 67), none⟩])
             (.ret))))))))))))⟩
/-- gavotte/read.lines[gavotte/api.Part] -/
def c188 : AFunc := ⟨14, [.tmp 8],
  (.seq (.reg [⟨(some 4), .box 1 (.t 0), none⟩,
      ⟨(some 6), .box 1 (.t 2), none⟩,
      ⟨(some 7), .box 1 (.t 3), none⟩,
      ⟨(some 8), .asg (.c (.lst [] .full)), none⟩])
   (.seq (.reg [⟨(some 9), .ld none (.t 4), none⟩,
       ⟨(some 10), .mov (.t 1), none⟩,
       ⟨(some 11), .mkF 234 [] [(.t 4), (.t 6)], none⟩,
       ⟨(some 12), .mkF 235 [] [(.t 4), (.t 6), (.t 7)], none⟩,
       ⟨(some 13), .call (.c (.fn 233 [] [])) [(.t 9), (.t 10), (.t 11), (.t 12)], none⟩,
       ⟨(some 8), .asg (.t 13), none⟩])
    (.ret)))⟩
/-- (*gavotte/read.parser).part -/
def c189 : AFunc := ⟨15, [.cell 2 (some 2)],
  (.seq (.reg [⟨(some 2), .new [(.str []), (.str [])], none⟩])
   (.seq (.reg [⟨(some 3), .new [(.str []), (.str [])], none⟩])
    (.seq (.reg [⟨(some 4), .mov (.t 0), none⟩,
        ⟨(some 5), .call (.c (.fn 80 [] [])) [(.t 4)], none⟩,
        ⟨(some 6), .fa 0 (.t 3), none⟩,
        ⟨none, .st none (.t 6) (.t 5), none⟩])
     (.seq (.reg [⟨(some 7), .mov (.t 0), none⟩,
         ⟨(some 8), .call (.c (.fn 79 [] [])) [(.t 7), (.c (.str [61]))], none⟩])
      (.seq (.reg [⟨(some 9), .mov (.t 0), none⟩,
          ⟨(some 10), .call (.c (.fn 80 [] [])) [(.t 9)], none⟩,
          ⟨(some 11), .fa 1 (.t 3), none⟩,
          ⟨none, .st none (.t 11) (.t 10), none⟩])
       (.seq (.reg [⟨(some 12), .mov (.t 0), none⟩,
           ⟨(some 13), .call (.c (.fn 79 [] [])) [(.t 12), (.c (.str [59]))], none⟩])
        (.seq (.reg [⟨(some 14), .ld (some 2) (.t 3), none⟩,
            ⟨none, .st (some 2) (.t 2) (.t 14), none⟩])
         (.ret))))))))⟩
/-- gavotte/read.lines[gavotte/api.Link] -/
def c190 : AFunc := ⟨14, [.tmp 8],
  (.seq (.reg [⟨(some 4), .box 1 (.t 0), none⟩,
      ⟨(some 6), .box 1 (.t 2), none⟩,
      ⟨(some 7), .box 1 (.t 3), none⟩,
      ⟨(some 8), .asg (.c (.lst [] .full)), none⟩])
   (.seq (.reg [⟨(some 9), .ld none (.t 4), none⟩,
       ⟨(some 10), .mov (.t 1), none⟩,
       ⟨(some 11), .mkF 237 [] [(.t 4), (.t 6)], none⟩,
       ⟨(some 12), .mkF 238 [] [(.t 4), (.t 6), (.t 7)], none⟩,
       ⟨(some 13), .call (.c (.fn 236 [] [])) [(.t 9), (.t 10), (.t 11), (.t 12)], none⟩,
       ⟨(some 8), .asg (.t 13), none⟩])
    (.ret)))⟩
/-- (*gavotte/read.parser).link -/
def c191 : AFunc := ⟨15, [.cell 2 (some 4)],
  (.seq (.reg [⟨(some 2), .new [(.str []), (.str []), (.str []), (.str [])], none⟩])
   (.seq (.reg [⟨(some 3), .new [(.str []), (.str []), (.str []), (.str [])], none⟩])
    (.seq (.reg [⟨(some 4), .mov (.t 0), none⟩,
        ⟨(some 5), .call (.c (.fn 239 [] [])) [(.t 4)], none⟩,
        ⟨(some 6), .fa 0 (.t 3), none⟩,
        ⟨none, .st (some 2) (.t 6) (.t 5), none⟩])
     (.seq (.reg [⟨(some 7), .mov (.t 0), none⟩,
         ⟨(some 8), .call (.c (.fn 79 [] [])) [(.t 7), (.c (.str [45, 62]))], none⟩])
      (.seq (.reg [⟨(some 9), .mov (.t 0), none⟩,
          ⟨(some 10), .call (.c (.fn 239 [] [])) [(.t 9)], none⟩,
          ⟨(some 11), .fa 2 (.t 3), none⟩,
          ⟨none, .st (some 2) (.t 11) (.t 10), none⟩])
       (.seq (.reg [⟨(some 12), .mov (.t 0), none⟩,
           ⟨(some 13), .call (.c (.fn 79 [] [])) [(.t 12), (.c (.str [59]))], none⟩])
        (.seq (.reg [⟨(some 14), .ld (some 4) (.t 3), none⟩,
            ⟨none, .st (some 4) (.t 2) (.t 14), none⟩])
         (.ret))))))))⟩
/-- gavotte/read.lines[gavotte/api.Rule] -/
def c192 : AFunc := ⟨14, [.tmp 8],
  (.seq (.reg [⟨(some 4), .box 1 (.t 0), none⟩,
      ⟨(some 6), .box 1 (.t 2), none⟩,
      ⟨(some 7), .box 1 (.t 3), none⟩,
      ⟨(some 8), .asg (.c (.lst [] .full)), none⟩])
   (.seq (.reg [⟨(some 9), .ld none (.t 4), none⟩,
       ⟨(some 10), .mov (.t 1), none⟩,
       ⟨(some 11), .mkF 241 [] [(.t 4), (.t 6)], none⟩,
       ⟨(some 12), .mkF 242 [] [(.t 4), (.t 6), (.t 7)], none⟩,
       ⟨(some 13), .call (.c (.fn 240 [] [])) [(.t 9), (.t 10), (.t 11), (.t 12)], none⟩,
       ⟨(some 8), .asg (.t 13), none⟩])
    (.ret)))⟩
/-- (*gavotte/read.parser).rule -/
def c193 : AFunc := ⟨20, [.cell 2 (some 6)],
  (.seq (.reg [⟨(some 2), .new [(.int .i64 0), (.int .i64 0), (.str []), (.str []), (.lst [] .full), (.lst [] .full)], none⟩])
   (.seq (.reg [⟨(some 3), .new [(.int .i64 0), (.int .i64 0), (.str []), (.str []), (.lst [] .full), (.lst [] .full)], none⟩])
    (.seq (.reg [⟨(some 4), .mov (.t 0), none⟩,
        ⟨(some 5), .call (.c (.fn 66 [] [])) [(.t 4)], none⟩,
        ⟨(some 6), .fld 0 (some 5) (.t 5), none⟩,
        ⟨(some 7), .fa 0 (.t 3), none⟩,
        ⟨none, .st (some 5) (.t 7) (.t 6), none⟩])
     (.seq (.reg [⟨(some 8), .mov (.t 0), none⟩,
         ⟨(some 9), .call (.c (.fn 79 [] [])) [(.t 8), (.c (.str [123]))], none⟩])
      (.seq (.reg [⟨(some 10), .mov (.t 0), none⟩,
          ⟨(some 11), .mov (.t 0), none⟩,
          ⟨(some 12), .mkF 244 [(.t 11)] [], none⟩,
          ⟨(some 13), .mov (.t 0), none⟩,
          ⟨(some 14), .mkF 245 [(.t 13)] [], none⟩,
          ⟨(some 15), .call (.c (.fn 243 [] [])) [(.t 10), (.c (.int .i64 5)), (.t 12), (.t 14)], none⟩,
          ⟨(some 16), .fa 5 (.t 3), none⟩,
          ⟨none, .st none (.t 16) (.t 15), none⟩])
       (.seq (.reg [⟨(some 17), .mov (.t 0), none⟩,
           ⟨(some 18), .call (.c (.fn 79 [] [])) [(.t 17), (.c (.str [125]))], none⟩])
        (.seq (.reg [⟨(some 19), .ld (some 6) (.t 3), none⟩,
            ⟨none, .st (some 6) (.t 2) (.t 19), none⟩])
         (.ret))))))))⟩
/-- gavotte/read.lines[gavotte/api.Set] -/
def c194 : AFunc := ⟨14, [.tmp 8],
  (.seq (.reg [⟨(some 4), .box 1 (.t 0), none⟩,
      ⟨(some 6), .box 1 (.t 2), none⟩,
      ⟨(some 7), .box 1 (.t 3), none⟩,
      ⟨(some 8), .asg (.c (.lst [] .full)), none⟩])
   (.seq (.reg [⟨(some 9), .ld none (.t 4), none⟩,
       ⟨(some 10), .mov (.t 1), none⟩,
       ⟨(some 11), .mkF 247 [] [(.t 4), (.t 6)], none⟩,
       ⟨(some 12), .mkF 248 [] [(.t 4), (.t 6), (.t 7)], none⟩,
       ⟨(some 13), .call (.c (.fn 246 [] [])) [(.t 9), (.t 10), (.t 11), (.t 12)], none⟩,
       ⟨(some 8), .asg (.t 13), none⟩])
    (.ret)))⟩
/-- (*gavotte/read.parser).set -/
def c195 : AFunc := ⟨16, [.cell 2 (some 6)],
  (.seq (.reg [⟨(some 2), .new [(.str []), (.int .i64 0), (.int .i64 0), (.str []), (.str []), (.lst [] .full)], none⟩])
   (.seq (.reg [⟨(some 3), .new [(.str []), (.int .i64 0), (.int .i64 0), (.str []), (.str []), (.lst [] .full)], none⟩])
    (.seq (.reg [⟨(some 4), .mov (.t 0), none⟩,
        ⟨(some 5), .call (.c (.fn 80 [] [])) [(.t 4)], none⟩,
        ⟨(some 6), .fa 0 (.t 3), none⟩,
        ⟨none, .st none (.t 6) (.t 5), none⟩])
     (.seq (.reg [⟨(some 7), .mov (.t 0), none⟩,
         ⟨(some 8), .call (.c (.fn 79 [] [])) [(.t 7), (.c (.str [61]))], none⟩])
      (.seq (.reg [⟨(some 9), .mov (.t 0), none⟩,
          ⟨(some 10), .call (.c (.fn 66 [] [])) [(.t 9)], none⟩,
          ⟨(some 11), .fld 0 (some 5) (.t 10), none⟩,
          ⟨(some 12), .fa 1 (.t 3), none⟩,
          ⟨none, .st (some 5) (.t 12) (.t 11), none⟩])
       (.seq (.reg [⟨(some 13), .mov (.t 0), none⟩,
           ⟨(some 14), .call (.c (.fn 79 [] [])) [(.t 13), (.c (.str [59]))], none⟩])
        (.seq (.reg [⟨(some 15), .ld (some 6) (.t 3), none⟩,
            ⟨none, .st (some 6) (.t 2) (.t 15), none⟩])
         (.ret))))))))⟩
/-- gavotte/read.lines[gavotte/api.Emit] -/
def c196 : AFunc := ⟨14, [.tmp 8],
  (.seq (.reg [⟨(some 4), .box 1 (.t 0), none⟩,
      ⟨(some 6), .box 1 (.t 2), none⟩,
      ⟨(some 7), .box 1 (.t 3), none⟩,
      ⟨(some 8), .asg (.c (.lst [] .full)), none⟩])
   (.seq (.reg [⟨(some 9), .ld none (.t 4), none⟩,
       ⟨(some 10), .mov (.t 1), none⟩,
       ⟨(some 11), .mkF 250 [] [(.t 4), (.t 6)], none⟩,
       ⟨(some 12), .mkF 251 [] [(.t 4), (.t 6), (.t 7)], none⟩,
       ⟨(some 13), .call (.c (.fn 249 [] [])) [(.t 9), (.t 10), (.t 11), (.t 12)], none⟩,
       ⟨(some 8), .asg (.t 13), none⟩])
    (.ret)))⟩
/-- (*gavotte/read.parser).emit -/
def c197 : AFunc := ⟨21, [.cell 2 (some 7)],
  (.seq (.reg [⟨(some 2), .new [(.str []), (.int .i64 0), (.int .i64 0), (.str []), (.str []), (.lst [] .full), (.lst [] .full)], none⟩])
   (.seq (.reg [⟨(some 3), .new [(.str []), (.int .i64 0), (.int .i64 0), (.str []), (.str []), (.lst [] .full), (.lst [] .full)], none⟩])
    (.seq (.reg [⟨(some 4), .mov (.t 0), none⟩,
        ⟨(some 5), .call (.c (.fn 80 [] [])) [(.t 4)], none⟩,
        ⟨(some 6), .fa 0 (.t 3), none⟩,
        ⟨none, .st none (.t 6) (.t 5), none⟩])
     (.seq (.reg [⟨(some 7), .mov (.t 0), none⟩,
         ⟨(some 8), .call (.c (.fn 66 [] [])) [(.t 7)], none⟩,
         ⟨(some 9), .fld 0 (some 5) (.t 8), none⟩,
         ⟨(some 10), .fa 1 (.t 3), none⟩,
         ⟨none, .st (some 5) (.t 10) (.t 9), none⟩])
      (.seq (.seq (.reg [⟨(some 11), .mov (.t 0), none⟩,
           ⟨(some 12), .call (.c (.fn 125 [] [])) [(.t 11), (.c (.str [105, 102]))], none⟩])
        (.cond (.t 12) (.reg [⟨(some 13), .mov (.t 0), none⟩,
            ⟨(some 14), .call (.c (.fn 66 [] [])) [(.t 13)], none⟩,
            ⟨(some 15), .fld 0 (some 5) (.t 14), none⟩,
            ⟨(some 16), .list 5 [(.int .i64 0), (.int .i64 0), (.str []), (.str []), (.lst [] .full)] 1 [(0, (.t 15))], none⟩,
            ⟨(some 17), .fa 6 (.t 3), none⟩,
            ⟨none, .st none (.t 17) (.t 16), none⟩])
         (.skip)))
       (.seq (.reg [⟨(some 18), .mov (.t 0), none⟩,
           ⟨(some 19), .call (.c (.fn 79 [] [])) [(.t 18), (.c (.str [59]))], none⟩])
        (.seq (.reg [⟨(some 20), .ld (some 7) (.t 3), none⟩,
            ⟨none, .st (some 7) (.t 2) (.t 20), none⟩])
         (.ret))))))))⟩
/-- (*gavotte/read.parser).sets -/
def c198 : AFunc := ⟨15, [.tmp 2],
  (.seq (.reg [⟨(some 2), .asg (.c (.lst [] .full)), none⟩])
   (.seq (.reg [⟨(some 4), .mov (.t 0), none⟩,
       ⟨(some 5), .call (.c (.fn 79 [] [])) [(.t 4), (.c (.str [123]))], none⟩])
    (.seq (.reg [⟨(some 6), .mov (.t 0), none⟩,
        ⟨(some 7), .mov (.t 0), none⟩,
        ⟨(some 8), .mkF 137 [(.t 7)] [], none⟩,
        ⟨(some 9), .mov (.t 0), none⟩,
        ⟨(some 10), .mkF 195 [(.t 9)] [], none⟩,
        ⟨(some 11), .call (.c (.fn 246 [] [])) [(.t 6), (.c (.int .i64 10)), (.t 8), (.t 10)], none⟩,
        ⟨(some 3), .asg (.t 11), none⟩])
     (.seq (.reg [⟨(some 12), .mov (.t 0), none⟩,
         ⟨(some 13), .call (.c (.fn 79 [] [])) [(.t 12), (.c (.str [125]))], none⟩])
      (.seq (.reg [⟨(some 14), .mov (.t 3), none⟩,
          ⟨(some 2), .asg (.t 14), none⟩])
       (.ret))))))⟩
/-- gavotte/token.letter -/
def c224 : AFunc := ⟨9, [.tmp 2],
  (.seq (.reg [⟨(some 2), .asg (.c (.bool false)), none⟩])
   (.seq (.reg [⟨(some 3), .mov (.t 0), none⟩,
       ⟨(some 4), .bin .geq (.t 3) (.c (.int .u8 97)), none⟩,
       ⟨(some 5), .mov (.t 4), none⟩,
       ⟨(some 6), .mov (.t 0), (some (5, true))⟩,
       ⟨(some 7), .bin .leq (.t 6) (.c (.int .u8 122)), (some (5, true))⟩,
       ⟨(some 8), .pick (.t 5) (.t 7) (.c (.bool false)), none⟩,
       ⟨(some 2), .asg (.t 8), none⟩])
    (.ret)))⟩
/-- gavotte/token.name -/
def c225 : AFunc := ⟨60, [.cell 8 (some 4), .tmp 9, .tmp 10],
  (.seq (.reg [⟨(some 8), .new [(.int .i64 0), (.str []), (.int .i64 0), (.int .i64 0)], none⟩,
      ⟨(some 9), .asg (.c (.int .i64 0)), none⟩,
      ⟨(some 10), .asg (.c (.int .i64 0)), none⟩])
   (.seq (.seq (.reg [⟨(some 12), .mov (.t 3), none⟩,
        ⟨(some 13), .mov (.t 0), none⟩,
        ⟨(some 14), .len true (.t 13), none⟩,
        ⟨(some 15), .bin .eql (.t 12) (.t 14), none⟩,
        ⟨(some 16), .mov (.t 15), none⟩,
        ⟨(some 17), .mov (.t 0), (some (16, false))⟩,
        ⟨(some 18), .mov (.t 3), (some (16, false))⟩,
        ⟨(some 19), .ixS (.t 17) (.t 18), (some (16, false))⟩,
        ⟨(some 20), .call (.c (.fn 224 [] [])) [(.t 19)], (some (16, false))⟩,
        ⟨(some 21), .un .not (.t 20), (some (16, false))⟩,
        ⟨(some 22), .pick (.t 16) (.c (.bool true)) (.t 21), none⟩])
     (.cond (.t 22) (.seq (.reg [⟨(some 23), .mov (.t 2), none⟩,
          ⟨(some 24), .build [(.int .i64 0), (.str []), (.int .i64 0), (.int .i64 0)] [(3, 1, (.t 23))], none⟩,
          ⟨(some 25), .mov (.t 2), none⟩,
          ⟨none, .st (some 4) (.t 8) (.t 24), none⟩,
          ⟨(some 9), .asg (.t 25), none⟩,
          ⟨(some 10), .asg (.c (.int .i64 5)), none⟩])
       (.ret))
      (.skip)))
    (.seq (.reg [⟨(some 26), .mov (.t 3), none⟩,
        ⟨(some 11), .asg (.t 26), none⟩])
     (.seq (.block 0 (.loop (.seq (.seq (.reg [⟨(some 27), .mov (.t 11), none⟩,
             ⟨(some 28), .mov (.t 0), none⟩,
             ⟨(some 29), .len true (.t 28), none⟩,
             ⟨(some 30), .bin .lss (.t 27) (.t 29), none⟩,
             ⟨(some 31), .mov (.t 30), none⟩,
             ⟨(some 32), .mov (.t 0), (some (31, true))⟩,
             ⟨(some 33), .mov (.t 11), (some (31, true))⟩,
             ⟨(some 34), .ixS (.t 32) (.t 33), (some (31, true))⟩,
             ⟨(some 35), .call (.c (.fn 224 [] [])) [(.t 34)], (some (31, true))⟩,
             ⟨(some 36), .mov (.t 35), (some (31, true))⟩,
             ⟨(some 37), .mov (.t 0), (some (36, false))⟩,
             ⟨(some 38), .mov (.t 11), (some (36, false))⟩,
             ⟨(some 39), .ixS (.t 37) (.t 38), (some (36, false))⟩,
             ⟨(some 40), .call (.c (.fn 226 [] [])) [(.t 39)], (some (36, false))⟩,
             ⟨(some 41), .pick (.t 36) (.c (.bool true)) (.t 40), (some (31, true))⟩,
             ⟨(some 42), .pick (.t 31) (.t 41) (.c (.bool false)), none⟩])
          (.cond (.t 42) (.skip)
           (.exit 0)))
         (.block 1 (.reg [⟨(some 43), .mov (.t 11), none⟩,
             ⟨(some 44), .bin .add (.t 43) (.c (.int .i64 1)), none⟩,
             ⟨(some 11), .asg (.t 44), none⟩])))))
      (.seq (.seq (.reg [⟨(some 45), .mov (.t 11), none⟩,
           ⟨(some 46), .mov (.t 3), none⟩,
           ⟨(some 47), .bin .sub (.t 45) (.t 46), none⟩,
           ⟨(some 48), .bin .gtr (.t 47) (.c (.int .i64 16)), none⟩])
        (.cond (.t 48) (.seq (.reg [⟨(some 49), .mov (.t 2), none⟩,
             ⟨(some 50), .build [(.int .i64 0), (.str []), (.int .i64 0), (.int .i64 0)] [(3, 1, (.t 49))], none⟩,
             ⟨(some 51), .mov (.t 2), none⟩,
             ⟨none, .st (some 4) (.t 8) (.t 50), none⟩,
             ⟨(some 9), .asg (.t 51), none⟩,
             ⟨(some 10), .asg (.c (.int .i64 9)), none⟩])
          (.ret))
         (.skip)))
       (.seq (.reg [⟨(some 52), .mov (.t 1), none⟩,
           ⟨(some 53), .mov (.t 0), none⟩,
           ⟨(some 54), .mov (.t 3), none⟩,
           ⟨(some 55), .mov (.t 11), none⟩,
           ⟨(some 56), .subS (.t 53) (some (.t 54)) (some (.t 55)), none⟩,
           ⟨(some 57), .mov (.t 2), none⟩,
           ⟨(some 58), .build [(.int .i64 0), (.str []), (.int .i64 0), (.int .i64 0)] [(0, 1, (.t 52)), (1, 1, (.t 56)), (3, 1, (.t 57))], none⟩,
           ⟨(some 59), .mov (.t 11), none⟩,
           ⟨none, .st (some 4) (.t 8) (.t 58), none⟩,
           ⟨(some 9), .asg (.t 59), none⟩,
           ⟨(some 10), .asg (.c (.int .i64 0)), none⟩])
        (.ret)))))))⟩
/-- gavotte/token.digit -/
def c226 : AFunc := ⟨9, [.tmp 2],
  (.seq (.reg [⟨(some 2), .asg (.c (.bool false)), none⟩])
   (.seq (.reg [⟨(some 3), .mov (.t 0), none⟩,
       ⟨(some 4), .bin .geq (.t 3) (.c (.int .u8 48)), none⟩,
       ⟨(some 5), .mov (.t 4), none⟩,
       ⟨(some 6), .mov (.t 0), (some (5, true))⟩,
       ⟨(some 7), .bin .leq (.t 6) (.c (.int .u8 57)), (some (5, true))⟩,
       ⟨(some 8), .pick (.t 5) (.t 7) (.c (.bool false)), none⟩,
       ⟨(some 2), .asg (.t 8), none⟩])
    (.ret)))⟩
/-- gavotte/token.number -/
def c227 : AFunc := ⟨53, [.cell 4 (some 4), .tmp 5, .tmp 6],
  (.seq (.reg [⟨(some 4), .new [(.int .i64 0), (.str []), (.int .i64 0), (.int .i64 0)], none⟩,
      ⟨(some 5), .asg (.c (.int .i64 0)), none⟩,
      ⟨(some 6), .asg (.c (.int .i64 0)), none⟩])
   (.seq (.reg [⟨(some 10), .mov (.t 1), none⟩,
       ⟨(some 7), .asg (.t 10), none⟩])
    (.seq (.block 0 (.loop (.seq (.seq (.reg [⟨(some 11), .mov (.t 7), none⟩,
            ⟨(some 12), .mov (.t 0), none⟩,
            ⟨(some 13), .len true (.t 12), none⟩,
            ⟨(some 14), .bin .lss (.t 11) (.t 13), none⟩,
            ⟨(some 15), .mov (.t 14), none⟩,
            ⟨(some 16), .mov (.t 0), (some (15, true))⟩,
            ⟨(some 17), .mov (.t 7), (some (15, true))⟩,
            ⟨(some 18), .ixS (.t 16) (.t 17), (some (15, true))⟩,
            ⟨(some 19), .call (.c (.fn 226 [] [])) [(.t 18)], (some (15, true))⟩,
            ⟨(some 20), .pick (.t 15) (.t 19) (.c (.bool false)), none⟩])
         (.cond (.t 20) (.skip)
          (.exit 0)))
        (.block 1 (.reg [⟨(some 21), .mov (.t 7), none⟩,
            ⟨(some 22), .bin .add (.t 21) (.c (.int .i64 1)), none⟩,
            ⟨(some 7), .asg (.t 22), none⟩])))))
     (.seq (.seq (.reg [⟨(some 23), .mov (.t 0), none⟩,
          ⟨(some 24), .mov (.t 1), none⟩,
          ⟨(some 25), .ixS (.t 23) (.t 24), none⟩,
          ⟨(some 26), .bin .eql (.t 25) (.c (.int .u8 48)), none⟩,
          ⟨(some 27), .mov (.t 26), none⟩,
          ⟨(some 28), .mov (.t 7), (some (27, true))⟩,
          ⟨(some 29), .mov (.t 1), (some (27, true))⟩,
          ⟨(some 30), .bin .sub (.t 28) (.t 29), (some (27, true))⟩,
          ⟨(some 31), .bin .gtr (.t 30) (.c (.int .i64 1)), (some (27, true))⟩,
          ⟨(some 32), .pick (.t 27) (.t 31) (.c (.bool false)), none⟩])
       (.cond (.t 32) (.seq (.reg [⟨(some 33), .mov (.t 1), none⟩,
            ⟨(some 34), .build [(.int .i64 0), (.str []), (.int .i64 0), (.int .i64 0)] [(3, 1, (.t 33))], none⟩,
            ⟨(some 35), .mov (.t 1), none⟩,
            ⟨none, .st (some 4) (.t 4) (.t 34), none⟩,
            ⟨(some 5), .asg (.t 35), none⟩,
            ⟨(some 6), .asg (.c (.int .i64 6)), none⟩])
         (.ret))
        (.skip)))
      (.seq (.reg [⟨(some 37), .mov (.t 0), none⟩,
          ⟨(some 38), .mov (.t 1), none⟩,
          ⟨(some 39), .mov (.t 7), none⟩,
          ⟨(some 40), .subS (.t 37) (some (.t 38)) (some (.t 39)), none⟩,
          ⟨(some 41), .call (.c (.fn 258 [] [])) [(.t 40)], none⟩,
          ⟨(some 36), .mov (.t 41), none⟩,
          ⟨(some 42), .ext (.t 36) 0, none⟩,
          ⟨(some 43), .ext (.t 36) 1, none⟩,
          ⟨(some 8), .asg (.t 42), none⟩,
          ⟨(some 9), .asg (.t 43), none⟩])
       (.seq (.seq (.reg [⟨(some 44), .mov (.t 9), none⟩,
            ⟨(some 45), .eqi 1 true (.t 44) (.c .niliface), none⟩])
         (.cond (.t 45) (.seq (.reg [⟨(some 46), .mov (.t 1), none⟩,
              ⟨(some 47), .build [(.int .i64 0), (.str []), (.int .i64 0), (.int .i64 0)] [(3, 1, (.t 46))], none⟩,
              ⟨(some 48), .mov (.t 1), none⟩,
              ⟨none, .st (some 4) (.t 4) (.t 47), none⟩,
              ⟨(some 5), .asg (.t 48), none⟩,
              ⟨(some 6), .asg (.c (.int .i64 2)), none⟩])
           (.ret))
          (.skip)))
        (.seq (.reg [⟨(some 49), .mov (.t 8), none⟩,
            ⟨(some 50), .mov (.t 1), none⟩,
            ⟨(some 51), .build [(.int .i64 0), (.str []), (.int .i64 0), (.int .i64 0)] [(0, 1, (.c (.int .i64 1))), (2, 1, (.t 49)), (3, 1, (.t 50))], none⟩,
            ⟨(some 52), .mov (.t 7), none⟩,
            ⟨none, .st (some 4) (.t 4) (.t 51), none⟩,
            ⟨(some 5), .asg (.t 52), none⟩,
            ⟨(some 6), .asg (.c (.int .i64 0)), none⟩])
         (.ret))))))))⟩
/-- strings.HasPrefix -/
def c228 : AFunc := ⟨8, [.tmp 4],
  (.seq (.reg [⟨(some 4), .asg (.c (.bool false)), none⟩])
   (.seq (.reg [⟨(some 5), .mov (.t 0), none⟩,
       ⟨(some 6), .mov (.t 1), none⟩,
       ⟨(some 7), .call (.c (.fn 259 [] [])) [(.t 5), (.t 6)], none⟩,
       ⟨(some 4), .asg (.t 7), none⟩])
    (.ret)))⟩
/-- strings.IndexByte -/
def c229 : AFunc := ⟨8, [.tmp 4],
  (.seq (.reg [⟨(some 4), .asg (.c (.int .i64 0)), none⟩])
   (.seq (.reg [⟨(some 5), .mov (.t 0), none⟩,
       ⟨(some 6), .mov (.t 1), none⟩,
       ⟨(some 7), .call (.c (.fn 260 [] [])) [(.t 5), (.t 6)], none⟩,
       ⟨(some 4), .asg (.t 7), none⟩])
    (.ret)))⟩
/-- (*gavotte/read.parser).not -/
def c230 : AFunc := ⟨17, [.cell 2 (some 7)],
  (.seq (.reg [⟨(some 2), .new [(.int .i64 0), (.int .i64 0), (.str []), (.str []), (.lst [] .full), (.int .i64 0), (.int .i64 0)], none⟩])
   (.seq (.reg [⟨(some 4), .mov (.t 0), none⟩,
       ⟨(some 5), .call (.c (.fn 124 [] [])) [(.t 4)], none⟩,
       ⟨(some 3), .asg (.t 5), none⟩])
    (.seq (.seq (.reg [⟨(some 6), .mov (.t 0), none⟩,
         ⟨(some 7), .call (.c (.fn 125 [] [])) [(.t 6), (.c (.str [110, 111, 116]))], none⟩])
      (.cond (.t 7) (.seq (.reg [⟨(some 8), .mov (.t 0), none⟩,
           ⟨(some 9), .mov (.t 3), none⟩,
           ⟨(some 10), .build [(.int .i64 0), (.int .i64 0), (.str []), (.str []), (.lst [] .full)] [(0, 1, (.c (.int .i64 14)))], none⟩,
           ⟨(some 11), .mov (.t 0), none⟩,
           ⟨(some 12), .call (.c (.fn 230 [] [])) [(.t 11)], none⟩,
           ⟨(some 13), .list 7 [(.int .i64 0), (.int .i64 0), (.str []), (.str []), (.lst [] .full), (.int .i64 0), (.int .i64 0)] 1 [(0, (.t 12))], none⟩,
           ⟨(some 14), .call (.c (.fn 127 [] [])) [(.t 8), (.t 9), (.t 10), (.t 13)], none⟩,
           ⟨none, .st (some 7) (.t 2) (.t 14), none⟩])
        (.ret))
       (.skip)))
     (.seq (.reg [⟨(some 15), .mov (.t 0), none⟩,
         ⟨(some 16), .call (.c (.fn 261 [] [])) [(.t 15)], none⟩,
         ⟨none, .st (some 7) (.t 2) (.t 16), none⟩])
      (.ret)))))⟩
/-- (*gavotte/read.parser).manyTypes -/
def c232 : AFunc := ⟨22, [],
  (.seq (.seq (.reg [⟨(some 2), .mov (.t 0), none⟩,
       ⟨(some 3), .call (.c (.fn 75 [] [])) [(.t 2), (.c (.str [105, 110, 116]))], none⟩,
       ⟨(some 4), .mov (.t 3), none⟩,
       ⟨(some 5), .mov (.t 0), (some (4, false))⟩,
       ⟨(some 6), .call (.c (.fn 75 [] [])) [(.t 5), (.c (.str [98, 111, 111, 108]))], (some (4, false))⟩,
       ⟨(some 7), .pick (.t 4) (.c (.bool true)) (.t 6), none⟩,
       ⟨(some 8), .mov (.t 7), none⟩,
       ⟨(some 9), .mov (.t 0), (some (8, false))⟩,
       ⟨(some 10), .call (.c (.fn 75 [] [])) [(.t 9), (.c (.str [115, 121, 109]))], (some (8, false))⟩,
       ⟨(some 11), .pick (.t 8) (.c (.bool true)) (.t 10), none⟩,
       ⟨(some 12), .mov (.t 11), none⟩,
       ⟨(some 13), .mov (.t 0), (some (12, false))⟩,
       ⟨(some 14), .call (.c (.fn 75 [] [])) [(.t 13), (.c (.str [40]))], (some (12, false))⟩,
       ⟨(some 15), .pick (.t 12) (.c (.bool true)) (.t 14), none⟩])
    (.cond (.t 15) (.reg [⟨(some 16), .mov (.t 0), none⟩,
        ⟨(some 17), .mov (.t 0), none⟩,
        ⟨(some 18), .call (.c (.fn 124 [] [])) [(.t 17)], none⟩,
        ⟨(some 19), .call (.c (.fn 132 [] [])) [(.t 16), (.t 18), (.c (.int .i64 8))], none⟩])
     (.skip)))
   (.reg [⟨(some 20), .mov (.t 0), none⟩,
      ⟨(some 21), .call (.c (.fn 76 [] [])) [(.t 20)], none⟩]))⟩
/-- gavotte/read.many[gavotte/api.Part] -/
def c233 : AFunc := ⟨26, [.tmp 8],
  (.seq (.reg [⟨(some 8), .asg (.c (.lst [] .full)), none⟩])
   (.seq (.reg [⟨(some 9), .asg (.c (.lst [] .full)), none⟩])
    (.seq (.block 0 (.loop (.seq (.seq (.reg [⟨(some 10), .mov (.t 2), none⟩,
            ⟨(some 11), .call (.t 10) [], none⟩])
         (.cond (.t 11) (.skip)
          (.exit 0)))
        (.block 1 (.seq (.seq (.reg [⟨(some 12), .mov (.t 9), none⟩,
              ⟨(some 13), .len false (.t 12), none⟩,
              ⟨(some 14), .mov (.t 1), none⟩,
              ⟨(some 15), .bin .eql (.t 13) (.t 14), none⟩])
           (.cond (.t 15) (.reg [⟨(some 16), .mov (.t 0), none⟩,
               ⟨(some 17), .mov (.t 0), none⟩,
               ⟨(some 18), .call (.c (.fn 124 [] [])) [(.t 17)], none⟩,
               ⟨(some 19), .call (.c (.fn 132 [] [])) [(.t 16), (.t 18), (.c (.int .i64 8))], none⟩])
            (.skip)))
          (.reg [⟨(some 20), .mov (.t 9), none⟩,
             ⟨(some 21), .mov (.t 3), none⟩,
             ⟨(some 22), .call (.t 21) [], none⟩,
             ⟨(some 23), .list 2 [(.str []), (.str [])] 1 [(0, (.t 22))], none⟩,
             ⟨(some 24), .app 2 (.t 20) (.t 23), none⟩,
             ⟨(some 9), .asg (.t 24), none⟩]))))))
     (.seq (.reg [⟨(some 25), .mov (.t 9), none⟩,
         ⟨(some 8), .asg (.t 25), none⟩])
      (.ret)))))⟩
/-- gavotte/read.lines[gavotte/api.Part]$1 -/
def c234 : AFunc := ⟨6, [.tmp 2],
  (.seq (.reg [⟨(some 2), .asg (.c (.bool false)), none⟩])
   (.seq (.reg [⟨(some 3), .ld none (.t 0), none⟩,
       ⟨(some 4), .ld none (.t 1), none⟩,
       ⟨(some 5), .call (.c (.fn 75 [] [])) [(.t 3), (.t 4)], none⟩,
       ⟨(some 2), .asg (.t 5), none⟩])
    (.ret)))⟩
/-- gavotte/read.lines[gavotte/api.Part]$2 -/
def c235 : AFunc := ⟨9, [.cell 3 (some 2)],
  (.seq (.reg [⟨(some 3), .new [(.str []), (.str [])], none⟩])
   (.seq (.reg [⟨(some 4), .ld none (.t 0), none⟩,
       ⟨(some 5), .ld none (.t 1), none⟩,
       ⟨(some 6), .call (.c (.fn 79 [] [])) [(.t 4), (.t 5)], none⟩])
    (.seq (.reg [⟨(some 7), .ld none (.t 2), none⟩,
        ⟨(some 8), .call (.t 7) [], none⟩,
        ⟨none, .st (some 2) (.t 3) (.t 8), none⟩])
     (.ret))))⟩
/-- gavotte/read.many[gavotte/api.Link] -/
def c236 : AFunc := ⟨26, [.tmp 8],
  (.seq (.reg [⟨(some 8), .asg (.c (.lst [] .full)), none⟩])
   (.seq (.reg [⟨(some 9), .asg (.c (.lst [] .full)), none⟩])
    (.seq (.block 0 (.loop (.seq (.seq (.reg [⟨(some 10), .mov (.t 2), none⟩,
            ⟨(some 11), .call (.t 10) [], none⟩])
         (.cond (.t 11) (.skip)
          (.exit 0)))
        (.block 1 (.seq (.seq (.reg [⟨(some 12), .mov (.t 9), none⟩,
              ⟨(some 13), .len false (.t 12), none⟩,
              ⟨(some 14), .mov (.t 1), none⟩,
              ⟨(some 15), .bin .eql (.t 13) (.t 14), none⟩])
           (.cond (.t 15) (.reg [⟨(some 16), .mov (.t 0), none⟩,
               ⟨(some 17), .mov (.t 0), none⟩,
               ⟨(some 18), .call (.c (.fn 124 [] [])) [(.t 17)], none⟩,
               ⟨(some 19), .call (.c (.fn 132 [] [])) [(.t 16), (.t 18), (.c (.int .i64 8))], none⟩])
            (.skip)))
          (.reg [⟨(some 20), .mov (.t 9), none⟩,
             ⟨(some 21), .mov (.t 3), none⟩,
             ⟨(some 22), .call (.t 21) [], none⟩,
             ⟨(some 23), .list 4 [(.str []), (.str []), (.str []), (.str [])] 1 [(0, (.t 22))], none⟩,
             ⟨(some 24), .app 4 (.t 20) (.t 23), none⟩,
             ⟨(some 9), .asg (.t 24), none⟩]))))))
     (.seq (.reg [⟨(some 25), .mov (.t 9), none⟩,
         ⟨(some 8), .asg (.t 25), none⟩])
      (.ret)))))⟩
/-- gavotte/read.lines[gavotte/api.Link]$1 -/
def c237 : AFunc := ⟨6, [.tmp 2],
  (.seq (.reg [⟨(some 2), .asg (.c (.bool false)), none⟩])
   (.seq (.reg [⟨(some 3), .ld none (.t 0), none⟩,
       ⟨(some 4), .ld none (.t 1), none⟩,
       ⟨(some 5), .call (.c (.fn 75 [] [])) [(.t 3), (.t 4)], none⟩,
       ⟨(some 2), .asg (.t 5), none⟩])
    (.ret)))⟩
/-- gavotte/read.lines[gavotte/api.Link]$2 -/
def c238 : AFunc := ⟨9, [.cell 3 (some 4)],
  (.seq (.reg [⟨(some 3), .new [(.str []), (.str []), (.str []), (.str [])], none⟩])
   (.seq (.reg [⟨(some 4), .ld none (.t 0), none⟩,
       ⟨(some 5), .ld none (.t 1), none⟩,
       ⟨(some 6), .call (.c (.fn 79 [] [])) [(.t 4), (.t 5)], none⟩])
    (.seq (.reg [⟨(some 7), .ld none (.t 2), none⟩,
        ⟨(some 8), .call (.t 7) [], none⟩,
        ⟨none, .st (some 4) (.t 3) (.t 8), none⟩])
     (.ret))))⟩
/-- (*gavotte/read.parser).finish -/
def c239 : AFunc := ⟨14, [.cell 2 (some 2)],
  (.seq (.reg [⟨(some 2), .new [(.str []), (.str [])], none⟩])
   (.seq (.reg [⟨(some 4), .mov (.t 0), none⟩,
       ⟨(some 5), .call (.c (.fn 80 [] [])) [(.t 4)], none⟩,
       ⟨(some 3), .asg (.t 5), none⟩])
    (.seq (.seq (.reg [⟨(some 6), .mov (.t 0), none⟩,
         ⟨(some 7), .call (.c (.fn 125 [] [])) [(.t 6), (.c (.str [46]))], none⟩])
      (.cond (.t 7) (.seq (.reg [⟨(some 8), .mov (.t 3), none⟩,
           ⟨(some 9), .mov (.t 0), none⟩,
           ⟨(some 10), .call (.c (.fn 80 [] [])) [(.t 9)], none⟩,
           ⟨(some 11), .build [(.str []), (.str [])] [(0, 1, (.t 8)), (1, 1, (.t 10))], none⟩,
           ⟨none, .st (some 2) (.t 2) (.t 11), none⟩])
        (.ret))
       (.skip)))
     (.seq (.reg [⟨(some 12), .mov (.t 3), none⟩,
         ⟨(some 13), .build [(.str []), (.str [])] [(1, 1, (.t 12))], none⟩,
         ⟨none, .st (some 2) (.t 2) (.t 13), none⟩])
      (.ret)))))⟩
/-- gavotte/read.many[gavotte/api.Rule] -/
def c240 : AFunc := ⟨26, [.tmp 8],
  (.seq (.reg [⟨(some 8), .asg (.c (.lst [] .full)), none⟩])
   (.seq (.reg [⟨(some 9), .asg (.c (.lst [] .full)), none⟩])
    (.seq (.block 0 (.loop (.seq (.seq (.reg [⟨(some 10), .mov (.t 2), none⟩,
            ⟨(some 11), .call (.t 10) [], none⟩])
         (.cond (.t 11) (.skip)
          (.exit 0)))
        (.block 1 (.seq (.seq (.reg [⟨(some 12), .mov (.t 9), none⟩,
              ⟨(some 13), .len false (.t 12), none⟩,
              ⟨(some 14), .mov (.t 1), none⟩,
              ⟨(some 15), .bin .eql (.t 13) (.t 14), none⟩])
           (.cond (.t 15) (.reg [⟨(some 16), .mov (.t 0), none⟩,
               ⟨(some 17), .mov (.t 0), none⟩,
               ⟨(some 18), .call (.c (.fn 124 [] [])) [(.t 17)], none⟩,
               ⟨(some 19), .call (.c (.fn 132 [] [])) [(.t 16), (.t 18), (.c (.int .i64 8))], none⟩])
            (.skip)))
          (.reg [⟨(some 20), .mov (.t 9), none⟩,
             ⟨(some 21), .mov (.t 3), none⟩,
             ⟨(some 22), .call (.t 21) [], none⟩,
             ⟨(some 23), .list 6 [(.int .i64 0), (.int .i64 0), (.str []), (.str []), (.lst [] .full), (.lst [] .full)] 1 [(0, (.t 22))], none⟩,
             ⟨(some 24), .app 6 (.t 20) (.t 23), none⟩,
             ⟨(some 9), .asg (.t 24), none⟩]))))))
     (.seq (.reg [⟨(some 25), .mov (.t 9), none⟩,
         ⟨(some 8), .asg (.t 25), none⟩])
      (.ret)))))⟩
/-- gavotte/read.lines[gavotte/api.Rule]$1 -/
def c241 : AFunc := ⟨6, [.tmp 2],
  (.seq (.reg [⟨(some 2), .asg (.c (.bool false)), none⟩])
   (.seq (.reg [⟨(some 3), .ld none (.t 0), none⟩,
       ⟨(some 4), .ld none (.t 1), none⟩,
       ⟨(some 5), .call (.c (.fn 75 [] [])) [(.t 3), (.t 4)], none⟩,
       ⟨(some 2), .asg (.t 5), none⟩])
    (.ret)))⟩
/-- gavotte/read.lines[gavotte/api.Rule]$2 -/
def c242 : AFunc := ⟨9, [.cell 3 (some 6)],
  (.seq (.reg [⟨(some 3), .new [(.int .i64 0), (.int .i64 0), (.str []), (.str []), (.lst [] .full), (.lst [] .full)], none⟩])
   (.seq (.reg [⟨(some 4), .ld none (.t 0), none⟩,
       ⟨(some 5), .ld none (.t 1), none⟩,
       ⟨(some 6), .call (.c (.fn 79 [] [])) [(.t 4), (.t 5)], none⟩])
    (.seq (.reg [⟨(some 7), .ld none (.t 2), none⟩,
        ⟨(some 8), .call (.t 7) [], none⟩,
        ⟨none, .st (some 6) (.t 3) (.t 8), none⟩])
     (.ret))))⟩
/-- gavotte/read.many[gavotte/api.Act] -/
def c243 : AFunc := ⟨26, [.tmp 8],
  (.seq (.reg [⟨(some 8), .asg (.c (.lst [] .full)), none⟩])
   (.seq (.reg [⟨(some 9), .asg (.c (.lst [] .full)), none⟩])
    (.seq (.block 0 (.loop (.seq (.seq (.reg [⟨(some 10), .mov (.t 2), none⟩,
            ⟨(some 11), .call (.t 10) [], none⟩])
         (.cond (.t 11) (.skip)
          (.exit 0)))
        (.block 1 (.seq (.seq (.reg [⟨(some 12), .mov (.t 9), none⟩,
              ⟨(some 13), .len false (.t 12), none⟩,
              ⟨(some 14), .mov (.t 1), none⟩,
              ⟨(some 15), .bin .eql (.t 13) (.t 14), none⟩])
           (.cond (.t 15) (.reg [⟨(some 16), .mov (.t 0), none⟩,
               ⟨(some 17), .mov (.t 0), none⟩,
               ⟨(some 18), .call (.c (.fn 124 [] [])) [(.t 17)], none⟩,
               ⟨(some 19), .call (.c (.fn 132 [] [])) [(.t 16), (.t 18), (.c (.int .i64 8))], none⟩])
            (.skip)))
          (.reg [⟨(some 20), .mov (.t 9), none⟩,
             ⟨(some 21), .mov (.t 3), none⟩,
             ⟨(some 22), .call (.t 21) [], none⟩,
             ⟨(some 23), .list 7 [(.int .i64 0), (.str []), (.str []), (.str []), (.str []), (.str []), (.str [])] 1 [(0, (.t 22))], none⟩,
             ⟨(some 24), .app 7 (.t 20) (.t 23), none⟩,
             ⟨(some 9), .asg (.t 24), none⟩]))))))
     (.seq (.reg [⟨(some 25), .mov (.t 9), none⟩,
         ⟨(some 8), .asg (.t 25), none⟩])
      (.ret)))))⟩
/-- (*gavotte/read.parser).acting -/
def c244 : AFunc := ⟨17, [.tmp 2],
  (.seq (.reg [⟨(some 2), .asg (.c (.bool false)), none⟩])
   (.seq (.reg [⟨(some 3), .mov (.t 0), none⟩,
       ⟨(some 4), .call (.c (.fn 75 [] [])) [(.t 3), (.c (.str [97, 100, 100]))], none⟩,
       ⟨(some 5), .mov (.t 4), none⟩,
       ⟨(some 6), .mov (.t 0), (some (5, false))⟩,
       ⟨(some 7), .call (.c (.fn 75 [] [])) [(.t 6), (.c (.str [100, 114, 111, 112]))], (some (5, false))⟩,
       ⟨(some 8), .pick (.t 5) (.c (.bool true)) (.t 7), none⟩,
       ⟨(some 9), .mov (.t 8), none⟩,
       ⟨(some 10), .mov (.t 0), (some (9, false))⟩,
       ⟨(some 11), .call (.c (.fn 75 [] [])) [(.t 10), (.c (.str [116, 105, 101]))], (some (9, false))⟩,
       ⟨(some 12), .pick (.t 9) (.c (.bool true)) (.t 11), none⟩,
       ⟨(some 13), .mov (.t 12), none⟩,
       ⟨(some 14), .mov (.t 0), (some (13, false))⟩,
       ⟨(some 15), .call (.c (.fn 75 [] [])) [(.t 14), (.c (.str [99, 117, 116]))], (some (13, false))⟩,
       ⟨(some 16), .pick (.t 13) (.c (.bool true)) (.t 15), none⟩,
       ⟨(some 2), .asg (.t 16), none⟩])
    (.ret)))⟩
/-- (*gavotte/read.parser).act -/
def c245 : AFunc := ⟨36, [.cell 2 (some 7)],
  (.seq (.reg [⟨(some 2), .new [(.int .i64 0), (.str []), (.str []), (.str []), (.str []), (.str []), (.str [])], none⟩])
   (.seq (.reg [⟨(some 3), .new [(.int .i64 0), (.str []), (.str []), (.str []), (.str []), (.str []), (.str [])], none⟩])
    (.seq (.block 0 (.seq (.reg [⟨(some 9), .mov (.t 0), none⟩,
          ⟨(some 10), .call (.c (.fn 125 [] [])) [(.t 9), (.c (.str [97, 100, 100]))], none⟩,
          ⟨(some 8), .asg (.t 10), none⟩])
       (.cond (.t 8) (.seq (.reg [⟨(some 11), .mov (.t 0), none⟩,
            ⟨(some 12), .call (.c (.fn 189 [] [])) [(.t 11)], none⟩,
            ⟨(some 4), .new [(.str []), (.str [])], none⟩,
            ⟨none, .st (some 2) (.t 4) (.t 12), none⟩])
         (.seq (.reg [⟨(some 13), .fa 0 (.t 4), none⟩,
             ⟨(some 14), .ld none (.t 13), none⟩,
             ⟨(some 15), .fa 1 (.t 4), none⟩,
             ⟨(some 16), .ld none (.t 15), none⟩,
             ⟨(some 17), .build [(.int .i64 0), (.str []), (.str []), (.str []), (.str []), (.str []), (.str [])] [(0, 1, (.c (.int .i64 0))), (1, 1, (.t 14)), (2, 1, (.t 16))], none⟩,
             ⟨none, .st (some 7) (.t 2) (.t 17), none⟩])
          (.ret)))
        (.seq (.reg [⟨(some 19), .mov (.t 0), none⟩,
            ⟨(some 20), .call (.c (.fn 125 [] [])) [(.t 19), (.c (.str [100, 114, 111, 112]))], none⟩,
            ⟨(some 18), .asg (.t 20), none⟩])
         (.cond (.t 18) (.seq (.reg [⟨(some 21), .fa 0 (.t 3), none⟩,
              ⟨none, .st none (.t 21) (.c (.int .i64 1)), none⟩])
           (.seq (.reg [⟨(some 22), .mov (.t 0), none⟩,
               ⟨(some 23), .call (.c (.fn 80 [] [])) [(.t 22)], none⟩,
               ⟨(some 24), .fa 1 (.t 3), none⟩,
               ⟨none, .st none (.t 24) (.t 23), none⟩])
            (.seq (.reg [⟨(some 25), .mov (.t 0), none⟩,
                ⟨(some 26), .call (.c (.fn 79 [] [])) [(.t 25), (.c (.str [59]))], none⟩])
             (.seq (.reg [⟨(some 27), .ld (some 7) (.t 3), none⟩,
                 ⟨none, .st (some 7) (.t 2) (.t 27), none⟩])
              (.ret)))))
          (.seq (.reg [⟨(some 29), .mov (.t 0), none⟩,
              ⟨(some 30), .call (.c (.fn 125 [] [])) [(.t 29), (.c (.str [116, 105, 101]))], none⟩,
              ⟨(some 28), .asg (.t 30), none⟩])
           (.cond (.t 28) (.reg [⟨(some 31), .fa 0 (.t 3), none⟩,
               ⟨none, .st none (.t 31) (.c (.int .i64 2)), none⟩])
            (.seq (.reg [⟨(some 5), .mov (.t 0), none⟩,
                ⟨(some 6), .call (.c (.fn 79 [] [])) [(.t 5), (.c (.str [99, 117, 116]))], none⟩])
             (.reg [⟨(some 7), .fa 0 (.t 3), none⟩,
                ⟨none, .st none (.t 7) (.c (.int .i64 3)), none⟩])))))))))
     (.seq (.reg [⟨(some 32), .mov (.t 0), none⟩,
         ⟨(some 33), .call (.c (.fn 191 [] [])) [(.t 32)], none⟩,
         ⟨(some 34), .fa 3 (.t 3), none⟩,
         ⟨none, .st (some 4) (.t 34) (.t 33), none⟩])
      (.seq (.reg [⟨(some 35), .ld (some 7) (.t 3), none⟩,
          ⟨none, .st (some 7) (.t 2) (.t 35), none⟩])
       (.ret))))))⟩
/-- gavotte/read.many[gavotte/api.Set] -/
def c246 : AFunc := ⟨26, [.tmp 8],
  (.seq (.reg [⟨(some 8), .asg (.c (.lst [] .full)), none⟩])
   (.seq (.reg [⟨(some 9), .asg (.c (.lst [] .full)), none⟩])
    (.seq (.block 0 (.loop (.seq (.seq (.reg [⟨(some 10), .mov (.t 2), none⟩,
            ⟨(some 11), .call (.t 10) [], none⟩])
         (.cond (.t 11) (.skip)
          (.exit 0)))
        (.block 1 (.seq (.seq (.reg [⟨(some 12), .mov (.t 9), none⟩,
              ⟨(some 13), .len false (.t 12), none⟩,
              ⟨(some 14), .mov (.t 1), none⟩,
              ⟨(some 15), .bin .eql (.t 13) (.t 14), none⟩])
           (.cond (.t 15) (.reg [⟨(some 16), .mov (.t 0), none⟩,
               ⟨(some 17), .mov (.t 0), none⟩,
               ⟨(some 18), .call (.c (.fn 124 [] [])) [(.t 17)], none⟩,
               ⟨(some 19), .call (.c (.fn 132 [] [])) [(.t 16), (.t 18), (.c (.int .i64 8))], none⟩])
            (.skip)))
          (.reg [⟨(some 20), .mov (.t 9), none⟩,
             ⟨(some 21), .mov (.t 3), none⟩,
             ⟨(some 22), .call (.t 21) [], none⟩,
             ⟨(some 23), .list 6 [(.str []), (.int .i64 0), (.int .i64 0), (.str []), (.str []), (.lst [] .full)] 1 [(0, (.t 22))], none⟩,
             ⟨(some 24), .app 6 (.t 20) (.t 23), none⟩,
             ⟨(some 9), .asg (.t 24), none⟩]))))))
     (.seq (.reg [⟨(some 25), .mov (.t 9), none⟩,
         ⟨(some 8), .asg (.t 25), none⟩])
      (.ret)))))⟩
/-- gavotte/read.lines[gavotte/api.Set]$1 -/
def c247 : AFunc := ⟨6, [.tmp 2],
  (.seq (.reg [⟨(some 2), .asg (.c (.bool false)), none⟩])
   (.seq (.reg [⟨(some 3), .ld none (.t 0), none⟩,
       ⟨(some 4), .ld none (.t 1), none⟩,
       ⟨(some 5), .call (.c (.fn 75 [] [])) [(.t 3), (.t 4)], none⟩,
       ⟨(some 2), .asg (.t 5), none⟩])
    (.ret)))⟩
/-- gavotte/read.lines[gavotte/api.Set]$2 -/
def c248 : AFunc := ⟨9, [.cell 3 (some 6)],
  (.seq (.reg [⟨(some 3), .new [(.str []), (.int .i64 0), (.int .i64 0), (.str []), (.str []), (.lst [] .full)], none⟩])
   (.seq (.reg [⟨(some 4), .ld none (.t 0), none⟩,
       ⟨(some 5), .ld none (.t 1), none⟩,
       ⟨(some 6), .call (.c (.fn 79 [] [])) [(.t 4), (.t 5)], none⟩])
    (.seq (.reg [⟨(some 7), .ld none (.t 2), none⟩,
        ⟨(some 8), .call (.t 7) [], none⟩,
        ⟨none, .st (some 6) (.t 3) (.t 8), none⟩])
     (.ret))))⟩
/-- gavotte/read.many[gavotte/api.Emit] -/
def c249 : AFunc := ⟨26, [.tmp 8],
  (.seq (.reg [⟨(some 8), .asg (.c (.lst [] .full)), none⟩])
   (.seq (.reg [⟨(some 9), .asg (.c (.lst [] .full)), none⟩])
    (.seq (.block 0 (.loop (.seq (.seq (.reg [⟨(some 10), .mov (.t 2), none⟩,
            ⟨(some 11), .call (.t 10) [], none⟩])
         (.cond (.t 11) (.skip)
          (.exit 0)))
        (.block 1 (.seq (.seq (.reg [⟨(some 12), .mov (.t 9), none⟩,
              ⟨(some 13), .len false (.t 12), none⟩,
              ⟨(some 14), .mov (.t 1), none⟩,
              ⟨(some 15), .bin .eql (.t 13) (.t 14), none⟩])
           (.cond (.t 15) (.reg [⟨(some 16), .mov (.t 0), none⟩,
               ⟨(some 17), .mov (.t 0), none⟩,
               ⟨(some 18), .call (.c (.fn 124 [] [])) [(.t 17)], none⟩,
               ⟨(some 19), .call (.c (.fn 132 [] [])) [(.t 16), (.t 18), (.c (.int .i64 8))], none⟩])
            (.skip)))
          (.reg [⟨(some 20), .mov (.t 9), none⟩,
             ⟨(some 21), .mov (.t 3), none⟩,
             ⟨(some 22), .call (.t 21) [], none⟩,
             ⟨(some 23), .list 7 [(.str []), (.int .i64 0), (.int .i64 0), (.str []), (.str []), (.lst [] .full), (.lst [] .full)] 1 [(0, (.t 22))], none⟩,
             ⟨(some 24), .app 7 (.t 20) (.t 23), none⟩,
             ⟨(some 9), .asg (.t 24), none⟩]))))))
     (.seq (.reg [⟨(some 25), .mov (.t 9), none⟩,
         ⟨(some 8), .asg (.t 25), none⟩])
      (.ret)))))⟩
/-- gavotte/read.lines[gavotte/api.Emit]$1 -/
def c250 : AFunc := ⟨6, [.tmp 2],
  (.seq (.reg [⟨(some 2), .asg (.c (.bool false)), none⟩])
   (.seq (.reg [⟨(some 3), .ld none (.t 0), none⟩,
       ⟨(some 4), .ld none (.t 1), none⟩,
       ⟨(some 5), .call (.c (.fn 75 [] [])) [(.t 3), (.t 4)], none⟩,
       ⟨(some 2), .asg (.t 5), none⟩])
    (.ret)))⟩
/-- gavotte/read.lines[gavotte/api.Emit]$2 -/
def c251 : AFunc := ⟨9, [.cell 3 (some 7)],
  (.seq (.reg [⟨(some 3), .new [(.str []), (.int .i64 0), (.int .i64 0), (.str []), (.str []), (.lst [] .full), (.lst [] .full)], none⟩])
   (.seq (.reg [⟨(some 4), .ld none (.t 0), none⟩,
       ⟨(some 5), .ld none (.t 1), none⟩,
       ⟨(some 6), .call (.c (.fn 79 [] [])) [(.t 4), (.t 5)], none⟩])
    (.seq (.reg [⟨(some 7), .ld none (.t 2), none⟩,
        ⟨(some 8), .call (.t 7) [], none⟩,
        ⟨none, .st (some 7) (.t 3) (.t 8), none⟩])
     (.ret))))⟩
/-- strconv.Atoi -/
def c258 : AFunc := ⟨18, [.tmp 2, .tmp 3],
  (.seq (.reg [⟨(some 2), .asg (.c (.int .i64 0)), none⟩,
      ⟨(some 3), .asg (.c .niliface), none⟩])
   (.seq (.reg [⟨(some 7), .mov (.t 0), none⟩,
       ⟨(some 8), .call (.c (.fn 269 [] [])) [(.t 7)], none⟩,
       ⟨(some 6), .mov (.t 8), none⟩,
       ⟨(some 9), .ext (.t 6) 0, none⟩,
       ⟨(some 10), .ext (.t 6) 1, none⟩,
       ⟨(some 4), .asg (.t 9), none⟩,
       ⟨(some 5), .asg (.t 10), none⟩])
    (.seq (.seq (.reg [⟨(some 11), .mov (.t 5), none⟩,
         ⟨(some 12), .eqi 1 true (.t 11) (.c .niliface), none⟩])
      (.cond (.t 12) (.seq (.reg [⟨(some 13), .mov (.t 4), none⟩,
           ⟨(some 14), .mov (.t 0), none⟩,
           ⟨(some 15), .mov (.t 5), none⟩,
           ⟨(some 16), .call (.c (.fn 270 [] [])) [(.c (.str [65, 116, 111, 105])), (.t 14), (.c (.int .i64 0)), (.c (.int .i64 0)), (.t 15)], none⟩,
           ⟨(some 2), .asg (.t 13), none⟩,
           ⟨(some 3), .asg (.t 16), none⟩])
        (.ret))
       (.skip)))
     (.seq (.reg [⟨(some 17), .mov (.t 4), none⟩,
         ⟨(some 2), .asg (.t 17), none⟩,
         ⟨(some 3), .asg (.c .niliface), none⟩])
      (.ret)))))⟩
/-- internal/stringslite.HasPrefix -/
def c259 : AFunc := ⟨18, [.tmp 4],
  (.seq (.reg [⟨(some 4), .asg (.c (.bool false)), none⟩])
   (.seq (.reg [⟨(some 5), .mov (.t 0), none⟩,
       ⟨(some 6), .len true (.t 5), none⟩,
       ⟨(some 7), .mov (.t 1), none⟩,
       ⟨(some 8), .len true (.t 7), none⟩,
       ⟨(some 9), .bin .geq (.t 6) (.t 8), none⟩,
       ⟨(some 10), .mov (.t 9), none⟩,
       ⟨(some 11), .mov (.t 0), (some (10, true))⟩,
       ⟨(some 12), .mov (.t 1), (some (10, true))⟩,
       ⟨(some 13), .len true (.t 12), (some (10, true))⟩,
       ⟨(some 14), .subS (.t 11) none (some (.t 13)), (some (10, true))⟩,
       ⟨(some 15), .mov (.t 1), (some (10, true))⟩,
       ⟨(some 16), .bin .eql (.t 14) (.t 15), (some (10, true))⟩,
       ⟨(some 17), .pick (.t 10) (.t 16) (.c (.bool false)), none⟩,
       ⟨(some 4), .asg (.t 17), none⟩])
    (.ret)))⟩
/-- internal/stringslite.IndexByte -/
def c260 : AFunc := ⟨8, [.tmp 4],
  (.seq (.reg [⟨(some 4), .asg (.c (.int .i64 0)), none⟩])
   (.seq (.reg [⟨(some 5), .mov (.t 0), none⟩,
       ⟨(some 6), .mov (.t 1), none⟩,
       ⟨(some 7), .call (.c (.fn 271 [] [])) [(.t 5), (.t 6)], none⟩,
       ⟨(some 4), .asg (.t 7), none⟩])
    (.ret)))⟩
/-- (*gavotte/read.parser).same -/
def c261 : AFunc := ⟨27, [.cell 2 (some 7)],
  (.seq (.reg [⟨(some 2), .new [(.int .i64 0), (.int .i64 0), (.str []), (.str []), (.lst [] .full), (.int .i64 0), (.int .i64 0)], none⟩])
   (.seq (.reg [⟨(some 5), .mov (.t 0), none⟩,
       ⟨(some 6), .call (.c (.fn 272 [] [])) [(.t 5)], none⟩,
       ⟨(some 3), .new [(.int .i64 0), (.int .i64 0), (.str []), (.str []), (.lst [] .full), (.int .i64 0), (.int .i64 0)], none⟩,
       ⟨none, .st (some 7) (.t 3) (.t 6), none⟩])
    (.seq (.reg [⟨(some 4), .asg (.c (.int .i64 0)), none⟩])
     (.seq (.block 0 (.seq (.reg [⟨(some 9), .mov (.t 0), none⟩,
           ⟨(some 10), .call (.c (.fn 125 [] [])) [(.t 9), (.c (.str [61]))], none⟩,
           ⟨(some 8), .asg (.t 10), none⟩])
        (.cond (.t 8) (.reg [⟨(some 4), .asg (.c (.int .i64 20)), none⟩])
         (.seq (.reg [⟨(some 12), .mov (.t 0), none⟩,
             ⟨(some 13), .call (.c (.fn 125 [] [])) [(.t 12), (.c (.str [60]))], none⟩,
             ⟨(some 11), .asg (.t 13), none⟩])
          (.cond (.t 11) (.reg [⟨(some 4), .asg (.c (.int .i64 21)), none⟩])
           (.seq (.reg [⟨(some 15), .mov (.t 0), none⟩,
               ⟨(some 16), .call (.c (.fn 125 [] [])) [(.t 15), (.c (.str [60, 61]))], none⟩,
               ⟨(some 14), .asg (.t 16), none⟩])
            (.cond (.t 14) (.reg [⟨(some 4), .asg (.c (.int .i64 22)), none⟩])
             (.seq (.reg [⟨(some 7), .ld (some 7) (.t 3), none⟩,
                 ⟨none, .st (some 7) (.t 2) (.t 7), none⟩])
              (.ret)))))))))
      (.seq (.draw [⟨⟨(some 17), .mov (.t 0), none⟩, 0, 0⟩,
          ⟨⟨(some 18), .fa 6 (.t 3), none⟩, 1, 0⟩,
          ⟨⟨(some 19), .ld none (.t 18), none⟩, 2, 2⟩,
          ⟨⟨(some 20), .mov (.t 4), none⟩, 3, 0⟩,
          ⟨⟨(some 21), .build [(.int .i64 0), (.int .i64 0), (.str []), (.str []), (.lst [] .full)] [(0, 1, (.t 20))], none⟩, 4, 8⟩,
          ⟨⟨(some 22), .ld (some 7) (.t 3), none⟩, 5, 0⟩,
          ⟨⟨(some 23), .mov (.t 0), none⟩, 6, 0⟩,
          ⟨⟨(some 24), .call (.c (.fn 272 [] [])) [(.t 23)], none⟩, 7, 64⟩,
          ⟨⟨(some 25), .list 7 [(.int .i64 0), (.int .i64 0), (.str []), (.str []), (.lst [] .full), (.int .i64 0), (.int .i64 0)] 2 [(0, (.t 22)), (1, (.t 24))], none⟩, 8, 224⟩,
          ⟨⟨(some 26), .call (.c (.fn 127 [] [])) [(.t 17), (.t 19), (.t 21), (.t 25)], none⟩, 9, 511⟩,
          ⟨⟨none, .st (some 7) (.t 2) (.t 26), none⟩, 10, 1023⟩])
       (.ret))))))⟩
/-- internal/strconv.Atoi -/
def c269 : AFunc := ⟨77, [.tmp 2, .tmp 3],
  (.seq (.reg [⟨(some 2), .asg (.c (.int .i64 0)), none⟩,
      ⟨(some 3), .asg (.c .niliface), none⟩])
   (.seq (.reg [⟨(some 11), .mov (.t 0), none⟩,
       ⟨(some 12), .len true (.t 11), none⟩,
       ⟨(some 4), .asg (.t 12), none⟩])
    (.seq (.seq (.reg [⟨(some 13), .mov (.c (.bool false)), none⟩,
         ⟨(some 14), .mov (.t 4), (some (13, true))⟩,
         ⟨(some 15), .bin .lss (.c (.int .i64 0)) (.t 14), (some (13, true))⟩,
         ⟨(some 16), .mov (.t 15), (some (13, true))⟩,
         ⟨(some 17), .mov (.t 4), (some (16, true))⟩,
         ⟨(some 18), .bin .lss (.t 17) (.c (.int .i64 10)), (some (16, true))⟩,
         ⟨(some 19), .pick (.t 16) (.t 18) (.c (.bool false)), (some (13, true))⟩,
         ⟨(some 20), .pick (.t 13) (.t 19) (.c (.bool false)), none⟩,
         ⟨(some 21), .mov (.t 20), none⟩,
         ⟨(some 22), .mov (.c (.bool true)), (some (21, false))⟩,
         ⟨(some 23), .mov (.t 4), (some (22, true))⟩,
         ⟨(some 24), .bin .lss (.c (.int .i64 0)) (.t 23), (some (22, true))⟩,
         ⟨(some 25), .mov (.t 24), (some (22, true))⟩,
         ⟨(some 26), .mov (.t 4), (some (25, true))⟩,
         ⟨(some 27), .bin .lss (.t 26) (.c (.int .i64 19)), (some (25, true))⟩,
         ⟨(some 28), .pick (.t 25) (.t 27) (.c (.bool false)), (some (22, true))⟩,
         ⟨(some 29), .pick (.t 22) (.t 28) (.c (.bool false)), (some (21, false))⟩,
         ⟨(some 30), .pick (.t 21) (.c (.bool true)) (.t 29), none⟩])
      (.cond (.t 30) (.seq (.reg [⟨(some 31), .mov (.t 0), none⟩,
           ⟨(some 5), .asg (.t 31), none⟩])
        (.seq (.seq (.reg [⟨(some 32), .mov (.t 0), none⟩,
             ⟨(some 33), .ixS (.t 32) (.c (.int .i64 0)), none⟩,
             ⟨(some 34), .bin .eql (.t 33) (.c (.int .u8 45)), none⟩,
             ⟨(some 35), .mov (.t 34), none⟩,
             ⟨(some 36), .mov (.t 0), (some (35, false))⟩,
             ⟨(some 37), .ixS (.t 36) (.c (.int .i64 0)), (some (35, false))⟩,
             ⟨(some 38), .bin .eql (.t 37) (.c (.int .u8 43)), (some (35, false))⟩,
             ⟨(some 39), .pick (.t 35) (.c (.bool true)) (.t 38), none⟩])
          (.cond (.t 39) (.seq (.reg [⟨(some 40), .mov (.t 0), none⟩,
               ⟨(some 41), .subS (.t 40) (some (.c (.int .i64 1))) none, none⟩,
               ⟨(some 0), .asg (.t 41), none⟩])
            (.seq (.reg [⟨(some 42), .mov (.t 0), none⟩,
                ⟨(some 43), .len true (.t 42), none⟩,
                ⟨(some 44), .bin .lss (.t 43) (.c (.int .i64 1)), none⟩])
             (.cond (.t 44) (.seq (.reg [⟨(some 45), .mkI 308 (.c (.int .i64 2)), none⟩,
                  ⟨(some 2), .asg (.c (.int .i64 0)), none⟩,
                  ⟨(some 3), .asg (.t 45), none⟩])
               (.ret))
              (.skip))))
           (.skip)))
         (.seq (.reg [⟨(some 6), .asg (.c (.int .i64 0)), none⟩])
          (.seq (.seq (.reg [⟨(some 46), .mov (.t 0), none⟩,
               ⟨(some 47), .cvb (.t 46), none⟩,
               ⟨(some 48), .len false (.t 47), none⟩,
               ⟨(some 49), .mov (.c (.int .i64 0)), none⟩])
            (.block 0 (.loop (.seq (.reg [⟨(some 50), .bin .lss (.t 49) (.t 48), none⟩])
               (.seq (.cond (.t 50) (.skip)
                 (.exit 0))
                (.seq (.block 1 (.seq (.reg [⟨(some 51), .ixaL 1 (.t 47) (.t 49), none⟩,
                      ⟨(some 52), .ld none (.t 51), none⟩,
                      ⟨(some 8), .asg (.t 52), none⟩])
                   (.seq (.reg [⟨(some 53), .mov (.t 8), none⟩,
                       ⟨(some 54), .bin .sub (.t 53) (.c (.int .u8 48)), none⟩,
                       ⟨(some 8), .asg (.t 54), none⟩])
                    (.seq (.seq (.reg [⟨(some 55), .mov (.t 8), none⟩,
                         ⟨(some 56), .bin .gtr (.t 55) (.c (.int .u8 9)), none⟩])
                      (.cond (.t 56) (.seq (.reg [⟨(some 57), .mkI 308 (.c (.int .i64 2)), none⟩,
                           ⟨(some 2), .asg (.c (.int .i64 0)), none⟩,
                           ⟨(some 3), .asg (.t 57), none⟩])
                        (.ret))
                       (.skip)))
                     (.reg [⟨(some 58), .mov (.t 6), none⟩,
                        ⟨(some 59), .bin .mul (.t 58) (.c (.int .i64 10)), none⟩,
                        ⟨(some 60), .mov (.t 8), none⟩,
                        ⟨(some 61), .cvi .i64 (.t 60), none⟩,
                        ⟨(some 62), .bin .add (.t 59) (.t 61), none⟩,
                        ⟨(some 6), .asg (.t 62), none⟩])))))
                 (.reg [⟨(some 63), .bin .add (.t 49) (.c (.int .i64 1)), none⟩,
                    ⟨(some 49), .mov (.t 63), none⟩])))))))
           (.seq (.seq (.reg [⟨(some 64), .mov (.t 5), none⟩,
                ⟨(some 65), .ixS (.t 64) (.c (.int .i64 0)), none⟩,
                ⟨(some 66), .bin .eql (.t 65) (.c (.int .u8 45)), none⟩])
             (.cond (.t 66) (.reg [⟨(some 67), .mov (.t 6), none⟩,
                 ⟨(some 68), .un .neg (.t 67), none⟩,
                 ⟨(some 6), .asg (.t 68), none⟩])
              (.skip)))
            (.seq (.reg [⟨(some 69), .mov (.t 6), none⟩,
                ⟨(some 2), .asg (.t 69), none⟩,
                ⟨(some 3), .asg (.c .niliface), none⟩])
             (.ret)))))))
       (.skip)))
     (.seq (.reg [⟨(some 71), .mov (.t 0), none⟩,
         ⟨(some 72), .call (.c (.fn 278 [] [])) [(.t 71), (.c (.int .i64 10)), (.c (.int .i64 0))], none⟩,
         ⟨(some 70), .mov (.t 72), none⟩,
         ⟨(some 73), .ext (.t 70) 0, none⟩,
         ⟨(some 74), .ext (.t 70) 1, none⟩,
         ⟨(some 9), .asg (.t 73), none⟩,
         ⟨(some 10), .asg (.t 74), none⟩])
      (.seq (.reg [⟨(some 75), .mov (.t 9), none⟩,
          ⟨(some 76), .mov (.t 10), none⟩,
          ⟨(some 2), .asg (.t 75), none⟩,
          ⟨(some 3), .asg (.t 76), none⟩])
       (.ret))))))⟩
/-- (*gavotte/read.parser).sum -/
def c272 : AFunc := ⟨24, [.cell 2 (some 7)],
  (.seq (.reg [⟨(some 2), .new [(.int .i64 0), (.int .i64 0), (.str []), (.str []), (.lst [] .full), (.int .i64 0), (.int .i64 0)], none⟩])
   (.seq (.reg [⟨(some 5), .mov (.t 0), none⟩,
       ⟨(some 6), .call (.c (.fn 283 [] [])) [(.t 5)], none⟩,
       ⟨(some 3), .new [(.int .i64 0), (.int .i64 0), (.str []), (.str []), (.lst [] .full), (.int .i64 0), (.int .i64 0)], none⟩,
       ⟨none, .st (some 7) (.t 3) (.t 6), none⟩])
    (.block 0 (.loop (.block 1 (.seq (.reg [⟨(some 4), .asg (.c (.int .i64 0)), none⟩])
        (.seq (.block 2 (.seq (.reg [⟨(some 9), .mov (.t 0), none⟩,
              ⟨(some 10), .call (.c (.fn 125 [] [])) [(.t 9), (.c (.str [43]))], none⟩,
              ⟨(some 8), .asg (.t 10), none⟩])
           (.cond (.t 8) (.reg [⟨(some 4), .asg (.c (.int .i64 15)), none⟩])
            (.seq (.reg [⟨(some 12), .mov (.t 0), none⟩,
                ⟨(some 13), .call (.c (.fn 125 [] [])) [(.t 12), (.c (.str [45]))], none⟩,
                ⟨(some 11), .asg (.t 13), none⟩])
             (.cond (.t 11) (.reg [⟨(some 4), .asg (.c (.int .i64 16)), none⟩])
              (.seq (.reg [⟨(some 7), .ld (some 7) (.t 3), none⟩,
                  ⟨none, .st (some 7) (.t 2) (.t 7), none⟩])
               (.ret)))))))
         (.draw [⟨⟨(some 14), .mov (.t 0), none⟩, 0, 0⟩,
            ⟨⟨(some 15), .fa 6 (.t 3), none⟩, 1, 0⟩,
            ⟨⟨(some 16), .ld none (.t 15), none⟩, 2, 2⟩,
            ⟨⟨(some 17), .mov (.t 4), none⟩, 3, 0⟩,
            ⟨⟨(some 18), .build [(.int .i64 0), (.int .i64 0), (.str []), (.str []), (.lst [] .full)] [(0, 1, (.t 17))], none⟩, 4, 8⟩,
            ⟨⟨(some 19), .ld (some 7) (.t 3), none⟩, 5, 0⟩,
            ⟨⟨(some 20), .mov (.t 0), none⟩, 6, 0⟩,
            ⟨⟨(some 21), .call (.c (.fn 283 [] [])) [(.t 20)], none⟩, 7, 64⟩,
            ⟨⟨(some 22), .list 7 [(.int .i64 0), (.int .i64 0), (.str []), (.str []), (.lst [] .full), (.int .i64 0), (.int .i64 0)] 2 [(0, (.t 19)), (1, (.t 21))], none⟩, 8, 224⟩,
            ⟨⟨(some 23), .call (.c (.fn 127 [] [])) [(.t 14), (.t 16), (.t 18), (.t 22)], none⟩, 9, 511⟩,
            ⟨⟨none, .st (some 7) (.t 3) (.t 23), none⟩, 10, 1023⟩]))))))))⟩
/-- (*gavotte/read.parser).prod -/
def c283 : AFunc := ⟨27, [.cell 2 (some 7)],
  (.seq (.reg [⟨(some 2), .new [(.int .i64 0), (.int .i64 0), (.str []), (.str []), (.lst [] .full), (.int .i64 0), (.int .i64 0)], none⟩])
   (.seq (.reg [⟨(some 5), .mov (.t 0), none⟩,
       ⟨(some 6), .call (.c (.fn 289 [] [])) [(.t 5)], none⟩,
       ⟨(some 3), .new [(.int .i64 0), (.int .i64 0), (.str []), (.str []), (.lst [] .full), (.int .i64 0), (.int .i64 0)], none⟩,
       ⟨none, .st (some 7) (.t 3) (.t 6), none⟩])
    (.block 0 (.loop (.block 1 (.seq (.reg [⟨(some 4), .asg (.c (.int .i64 0)), none⟩])
        (.seq (.block 2 (.seq (.reg [⟨(some 9), .mov (.t 0), none⟩,
              ⟨(some 10), .call (.c (.fn 125 [] [])) [(.t 9), (.c (.str [42]))], none⟩,
              ⟨(some 8), .asg (.t 10), none⟩])
           (.cond (.t 8) (.reg [⟨(some 4), .asg (.c (.int .i64 17)), none⟩])
            (.seq (.reg [⟨(some 12), .mov (.t 0), none⟩,
                ⟨(some 13), .call (.c (.fn 125 [] [])) [(.t 12), (.c (.str [47]))], none⟩,
                ⟨(some 11), .asg (.t 13), none⟩])
             (.cond (.t 11) (.reg [⟨(some 4), .asg (.c (.int .i64 18)), none⟩])
              (.seq (.reg [⟨(some 15), .mov (.t 0), none⟩,
                  ⟨(some 16), .call (.c (.fn 125 [] [])) [(.t 15), (.c (.str [37]))], none⟩,
                  ⟨(some 14), .asg (.t 16), none⟩])
               (.cond (.t 14) (.reg [⟨(some 4), .asg (.c (.int .i64 19)), none⟩])
                (.seq (.reg [⟨(some 7), .ld (some 7) (.t 3), none⟩,
                    ⟨none, .st (some 7) (.t 2) (.t 7), none⟩])
                 (.ret)))))))))
         (.draw [⟨⟨(some 17), .mov (.t 0), none⟩, 0, 0⟩,
            ⟨⟨(some 18), .fa 6 (.t 3), none⟩, 1, 0⟩,
            ⟨⟨(some 19), .ld none (.t 18), none⟩, 2, 2⟩,
            ⟨⟨(some 20), .mov (.t 4), none⟩, 3, 0⟩,
            ⟨⟨(some 21), .build [(.int .i64 0), (.int .i64 0), (.str []), (.str []), (.lst [] .full)] [(0, 1, (.t 20))], none⟩, 4, 8⟩,
            ⟨⟨(some 22), .ld (some 7) (.t 3), none⟩, 5, 0⟩,
            ⟨⟨(some 23), .mov (.t 0), none⟩, 6, 0⟩,
            ⟨⟨(some 24), .call (.c (.fn 289 [] [])) [(.t 23)], none⟩, 7, 64⟩,
            ⟨⟨(some 25), .list 7 [(.int .i64 0), (.int .i64 0), (.str []), (.str []), (.lst [] .full), (.int .i64 0), (.int .i64 0)] 2 [(0, (.t 22)), (1, (.t 24))], none⟩, 8, 224⟩,
            ⟨⟨(some 26), .call (.c (.fn 127 [] [])) [(.t 17), (.t 19), (.t 21), (.t 25)], none⟩, 9, 511⟩,
            ⟨⟨none, .st (some 7) (.t 3) (.t 26), none⟩, 10, 1023⟩]))))))))⟩
/-- (*gavotte/read.parser).neg -/
def c289 : AFunc := ⟨17, [.cell 2 (some 7)],
  (.seq (.reg [⟨(some 2), .new [(.int .i64 0), (.int .i64 0), (.str []), (.str []), (.lst [] .full), (.int .i64 0), (.int .i64 0)], none⟩])
   (.seq (.reg [⟨(some 4), .mov (.t 0), none⟩,
       ⟨(some 5), .call (.c (.fn 124 [] [])) [(.t 4)], none⟩,
       ⟨(some 3), .asg (.t 5), none⟩])
    (.seq (.seq (.reg [⟨(some 6), .mov (.t 0), none⟩,
         ⟨(some 7), .call (.c (.fn 125 [] [])) [(.t 6), (.c (.str [45]))], none⟩])
      (.cond (.t 7) (.seq (.reg [⟨(some 8), .mov (.t 0), none⟩,
           ⟨(some 9), .mov (.t 3), none⟩,
           ⟨(some 10), .build [(.int .i64 0), (.int .i64 0), (.str []), (.str []), (.lst [] .full)] [(0, 1, (.c (.int .i64 13)))], none⟩,
           ⟨(some 11), .mov (.t 0), none⟩,
           ⟨(some 12), .call (.c (.fn 289 [] [])) [(.t 11)], none⟩,
           ⟨(some 13), .list 7 [(.int .i64 0), (.int .i64 0), (.str []), (.str []), (.lst [] .full), (.int .i64 0), (.int .i64 0)] 1 [(0, (.t 12))], none⟩,
           ⟨(some 14), .call (.c (.fn 127 [] [])) [(.t 8), (.t 9), (.t 10), (.t 13)], none⟩,
           ⟨none, .st (some 7) (.t 2) (.t 14), none⟩])
        (.ret))
       (.skip)))
     (.seq (.reg [⟨(some 15), .mov (.t 0), none⟩,
         ⟨(some 16), .call (.c (.fn 292 [] [])) [(.t 15)], none⟩,
         ⟨none, .st (some 7) (.t 2) (.t 16), none⟩])
      (.ret)))))⟩
/-- (*gavotte/read.parser).item -/
def c292 : AFunc := ⟨40, [.cell 2 (some 7)],
  (.seq (.reg [⟨(some 2), .new [(.int .i64 0), (.int .i64 0), (.str []), (.str []), (.lst [] .full), (.int .i64 0), (.int .i64 0)], none⟩])
   (.seq (.reg [⟨(some 5), .mov (.t 0), none⟩,
       ⟨(some 6), .call (.c (.fn 293 [] [])) [(.t 5)], none⟩,
       ⟨(some 3), .new [(.int .i64 0), (.int .i64 0), (.str []), (.str []), (.lst [] .full), (.int .i64 0), (.int .i64 0)], none⟩,
       ⟨none, .st (some 7) (.t 3) (.t 6), none⟩])
    (.seq (.block 0 (.loop (.seq (.seq (.reg [⟨(some 7), .mov (.t 0), none⟩,
            ⟨(some 8), .call (.c (.fn 125 [] [])) [(.t 7), (.c (.str [46]))], none⟩])
         (.cond (.t 8) (.skip)
          (.exit 0)))
        (.block 1 (.seq (.reg [⟨(some 9), .mov (.t 0), none⟩,
             ⟨(some 10), .call (.c (.fn 128 [] [])) [(.t 9)], none⟩,
             ⟨(some 4), .new [(.int .i64 0), (.str []), (.int .i64 0), (.int .i64 0)], none⟩,
             ⟨none, .st (some 4) (.t 4) (.t 10), none⟩])
          (.seq (.seq (.reg [⟨(some 11), .fa 0 (.t 4), none⟩,
               ⟨(some 12), .ld none (.t 11), none⟩,
               ⟨(some 13), .bin .neq (.t 12) (.c (.int .i64 1)), none⟩])
            (.cond (.t 13) (.reg [⟨(some 14), .mov (.t 0), none⟩,
                ⟨(some 15), .call (.c (.fn 76 [] [])) [(.t 14)], none⟩])
             (.skip)))
           (.seq (.seq (.reg [⟨(some 16), .fa 2 (.t 4), none⟩,
                ⟨(some 17), .ld none (.t 16), none⟩,
                ⟨(some 18), .bin .geq (.t 17) (.c (.int .i64 4)), none⟩])
             (.cond (.t 18) (.reg [⟨(some 19), .mov (.t 0), none⟩,
                 ⟨(some 20), .fa 3 (.t 4), none⟩,
                 ⟨(some 21), .ld none (.t 20), none⟩,
                 ⟨(some 22), .call (.c (.fn 132 [] [])) [(.t 19), (.t 21), (.c (.int .i64 8))], none⟩])
              (.skip)))
            (.seq (.reg [⟨(some 23), .mov (.t 0), none⟩,
                ⟨(some 24), .nilc (.t 23), none⟩,
                ⟨(some 25), .fa 1 (.t 24), none⟩,
                ⟨(some 26), .ld none (.t 25), none⟩,
                ⟨(some 27), .bin .add (.t 26) (.c (.int .i64 1)), none⟩,
                ⟨(some 28), .nilc (.t 23), none⟩,
                ⟨(some 29), .fa 1 (.t 28), none⟩,
                ⟨none, .st none (.t 29) (.t 27), none⟩])
             (.reg [⟨(some 30), .mov (.t 0), none⟩,
                ⟨(some 31), .fa 6 (.t 3), none⟩,
                ⟨(some 32), .ld none (.t 31), none⟩,
                ⟨(some 33), .fa 2 (.t 4), none⟩,
                ⟨(some 34), .ld none (.t 33), none⟩,
                ⟨(some 35), .build [(.int .i64 0), (.int .i64 0), (.str []), (.str []), (.lst [] .full)] [(0, 1, (.c (.int .i64 12))), (1, 1, (.t 34))], none⟩,
                ⟨(some 36), .ld (some 7) (.t 3), none⟩,
                ⟨(some 37), .list 7 [(.int .i64 0), (.int .i64 0), (.str []), (.str []), (.lst [] .full), (.int .i64 0), (.int .i64 0)] 1 [(0, (.t 36))], none⟩,
                ⟨(some 38), .call (.c (.fn 127 [] [])) [(.t 30), (.t 32), (.t 35), (.t 37)], none⟩,
                ⟨none, .st (some 7) (.t 3) (.t 38), none⟩])))))))))
     (.seq (.reg [⟨(some 39), .ld (some 7) (.t 3), none⟩,
         ⟨none, .st (some 7) (.t 2) (.t 39), none⟩])
      (.ret)))))⟩
/-- (*gavotte/read.parser).one -/
def c293 : AFunc := ⟨50, [.cell 2 (some 7)],
  (.seq (.reg [⟨(some 2), .new [(.int .i64 0), (.int .i64 0), (.str []), (.str []), (.lst [] .full), (.int .i64 0), (.int .i64 0)], none⟩])
   (.seq (.reg [⟨(some 4), .mov (.t 0), none⟩,
       ⟨(some 5), .call (.c (.fn 128 [] [])) [(.t 4)], none⟩,
       ⟨(some 3), .new [(.int .i64 0), (.str []), (.int .i64 0), (.int .i64 0)], none⟩,
       ⟨none, .st (some 4) (.t 3) (.t 5), none⟩])
    (.seq (.seq (.reg [⟨(some 6), .fa 0 (.t 3), none⟩,
         ⟨(some 7), .ld none (.t 6), none⟩])
      (.block 0 (.seq (.reg [⟨(some 9), .bin .eql (.t 7) (.c (.int .i64 1)), none⟩,
           ⟨(some 8), .asg (.t 9), none⟩])
        (.cond (.t 8) (.seq (.reg [⟨(some 10), .mov (.t 0), none⟩,
             ⟨(some 11), .nilc (.t 10), none⟩,
             ⟨(some 12), .fa 1 (.t 11), none⟩,
             ⟨(some 13), .ld none (.t 12), none⟩,
             ⟨(some 14), .bin .add (.t 13) (.c (.int .i64 1)), none⟩,
             ⟨(some 15), .nilc (.t 10), none⟩,
             ⟨(some 16), .fa 1 (.t 15), none⟩,
             ⟨none, .st none (.t 16) (.t 14), none⟩])
          (.seq (.reg [⟨(some 17), .mov (.t 0), none⟩,
              ⟨(some 18), .fa 3 (.t 3), none⟩,
              ⟨(some 19), .ld none (.t 18), none⟩,
              ⟨(some 20), .fa 2 (.t 3), none⟩,
              ⟨(some 21), .ld none (.t 20), none⟩,
              ⟨(some 22), .build [(.int .i64 0), (.int .i64 0), (.str []), (.str []), (.lst [] .full)] [(0, 1, (.c (.int .i64 0))), (1, 1, (.t 21))], none⟩,
              ⟨(some 23), .call (.c (.fn 127 [] [])) [(.t 17), (.t 19), (.t 22), (.c (.lst [] .full))], none⟩,
              ⟨none, .st (some 7) (.t 2) (.t 23), none⟩])
           (.ret)))
         (.seq (.reg [⟨(some 25), .bin .eql (.t 7) (.c (.int .i64 2)), none⟩,
             ⟨(some 24), .asg (.t 25), none⟩])
          (.cond (.t 24) (.seq (.reg [⟨(some 26), .mov (.t 0), none⟩,
               ⟨(some 27), .nilc (.t 26), none⟩,
               ⟨(some 28), .fa 1 (.t 27), none⟩,
               ⟨(some 29), .ld none (.t 28), none⟩,
               ⟨(some 30), .bin .add (.t 29) (.c (.int .i64 1)), none⟩,
               ⟨(some 31), .nilc (.t 26), none⟩,
               ⟨(some 32), .fa 1 (.t 31), none⟩,
               ⟨none, .st none (.t 32) (.t 30), none⟩])
            (.seq (.reg [⟨(some 33), .mov (.t 0), none⟩,
                ⟨(some 34), .fa 3 (.t 3), none⟩,
                ⟨(some 35), .ld none (.t 34), none⟩,
                ⟨(some 36), .fa 1 (.t 3), none⟩,
                ⟨(some 37), .ld none (.t 36), none⟩,
                ⟨(some 38), .build [(.int .i64 0), (.int .i64 0), (.str []), (.str []), (.lst [] .full)] [(0, 1, (.c (.int .i64 3))), (2, 1, (.t 37))], none⟩,
                ⟨(some 39), .call (.c (.fn 127 [] [])) [(.t 33), (.t 35), (.t 38), (.c (.lst [] .full))], none⟩,
                ⟨none, .st (some 7) (.t 2) (.t 39), none⟩])
             (.ret)))
           (.skip)))))))
     (.seq (.seq (.reg [⟨(some 40), .mov (.t 0), none⟩,
          ⟨(some 41), .call (.c (.fn 137 [] [])) [(.t 40)], none⟩])
       (.cond (.t 41) (.seq (.reg [⟨(some 42), .mov (.t 0), none⟩,
            ⟨(some 43), .call (.c (.fn 294 [] [])) [(.t 42)], none⟩,
            ⟨none, .st (some 7) (.t 2) (.t 43), none⟩])
         (.ret))
        (.skip)))
      (.seq (.seq (.reg [⟨(some 44), .mov (.t 0), none⟩,
           ⟨(some 45), .call (.c (.fn 75 [] [])) [(.t 44), (.c (.str [40]))], none⟩])
        (.cond (.t 45) (.seq (.reg [⟨(some 46), .mov (.t 0), none⟩,
             ⟨(some 47), .call (.c (.fn 295 [] [])) [(.t 46)], none⟩,
             ⟨none, .st (some 7) (.t 2) (.t 47), none⟩])
          (.ret))
         (.skip)))
       (.seq (.reg [⟨(some 48), .mov (.t 0), none⟩,
           ⟨(some 49), .call (.c (.fn 296 [] [])) [(.t 48)], none⟩,
           ⟨none, .st (some 7) (.t 2) (.t 49), none⟩])
        (.ret)))))))⟩
/-- (*gavotte/read.parser).variable -/
def c294 : AFunc := ⟨39, [.cell 2 (some 7)],
  (.seq (.reg [⟨(some 2), .new [(.int .i64 0), (.int .i64 0), (.str []), (.str []), (.lst [] .full), (.int .i64 0), (.int .i64 0)], none⟩])
   (.seq (.reg [⟨(some 5), .mov (.t 0), none⟩,
       ⟨(some 6), .call (.c (.fn 124 [] [])) [(.t 5)], none⟩,
       ⟨(some 3), .asg (.t 6), none⟩])
    (.seq (.reg [⟨(some 7), .mov (.t 0), none⟩,
        ⟨(some 8), .call (.c (.fn 80 [] [])) [(.t 7)], none⟩,
        ⟨(some 4), .asg (.t 8), none⟩])
     (.seq (.seq (.reg [⟨(some 9), .mov (.t 0), none⟩,
          ⟨(some 10), .call (.c (.fn 75 [] [])) [(.t 9), (.c (.str [46]))], none⟩])
       (.cond (.t 10) (.seq (.reg [⟨(some 11), .mov (.t 0), none⟩,
            ⟨(some 12), .nilc (.t 11), none⟩,
            ⟨(some 13), .fa 1 (.t 12), none⟩,
            ⟨(some 14), .ld none (.t 13), none⟩,
            ⟨(some 15), .bin .add (.t 14) (.c (.int .i64 1)), none⟩,
            ⟨(some 16), .nilc (.t 11), none⟩,
            ⟨(some 17), .fa 1 (.t 16), none⟩,
            ⟨none, .st none (.t 17) (.t 15), none⟩])
         (.seq (.seq (.reg [⟨(some 18), .mov (.t 0), none⟩,
              ⟨(some 19), .call (.c (.fn 137 [] [])) [(.t 18)], none⟩])
           (.cond (.t 19) (.seq (.reg [⟨(some 20), .mov (.t 0), none⟩,
                ⟨(some 21), .mov (.t 3), none⟩,
                ⟨(some 22), .mov (.t 4), none⟩,
                ⟨(some 23), .mov (.t 0), none⟩,
                ⟨(some 24), .call (.c (.fn 80 [] [])) [(.t 23)], none⟩,
                ⟨(some 25), .build [(.int .i64 0), (.int .i64 0), (.str []), (.str []), (.lst [] .full)] [(0, 1, (.c (.int .i64 5))), (2, 1, (.t 22)), (3, 1, (.t 24))], none⟩,
                ⟨(some 26), .call (.c (.fn 127 [] [])) [(.t 20), (.t 21), (.t 25), (.c (.lst [] .full))], none⟩,
                ⟨none, .st (some 7) (.t 2) (.t 26), none⟩])
             (.ret))
            (.skip)))
          (.reg [⟨(some 27), .mov (.t 0), none⟩,
             ⟨(some 28), .nilc (.t 27), none⟩,
             ⟨(some 29), .fa 1 (.t 28), none⟩,
             ⟨(some 30), .ld none (.t 29), none⟩,
             ⟨(some 31), .bin .sub (.t 30) (.c (.int .i64 1)), none⟩,
             ⟨(some 32), .nilc (.t 27), none⟩,
             ⟨(some 33), .fa 1 (.t 32), none⟩,
             ⟨none, .st none (.t 33) (.t 31), none⟩])))
        (.skip)))
      (.seq (.reg [⟨(some 34), .mov (.t 0), none⟩,
          ⟨(some 35), .mov (.t 3), none⟩,
          ⟨(some 36), .mov (.t 4), none⟩,
          ⟨(some 37), .build [(.int .i64 0), (.int .i64 0), (.str []), (.str []), (.lst [] .full)] [(0, 1, (.c (.int .i64 4))), (2, 1, (.t 36))], none⟩,
          ⟨(some 38), .call (.c (.fn 127 [] [])) [(.t 34), (.t 35), (.t 37), (.c (.lst [] .full))], none⟩,
          ⟨none, .st (some 7) (.t 2) (.t 38), none⟩])
       (.ret))))))⟩
/-- (*gavotte/read.parser).brackets -/
def c295 : AFunc := ⟨44, [.cell 2 (some 7)],
  (.seq (.reg [⟨(some 2), .new [(.int .i64 0), (.int .i64 0), (.str []), (.str []), (.lst [] .full), (.int .i64 0), (.int .i64 0)], none⟩])
   (.seq (.reg [⟨(some 6), .mov (.t 0), none⟩,
       ⟨(some 7), .call (.c (.fn 124 [] [])) [(.t 6)], none⟩,
       ⟨(some 3), .asg (.t 7), none⟩])
    (.seq (.reg [⟨(some 8), .mov (.t 0), none⟩,
        ⟨(some 9), .call (.c (.fn 79 [] [])) [(.t 8), (.c (.str [40]))], none⟩])
     (.seq (.reg [⟨(some 10), .mov (.t 0), none⟩,
         ⟨(some 11), .call (.c (.fn 66 [] [])) [(.t 10)], none⟩,
         ⟨(some 4), .new [(.int .i64 0), (.int .i64 0), (.str []), (.str []), (.lst [] .full), (.int .i64 0), (.int .i64 0)], none⟩,
         ⟨none, .st (some 7) (.t 4) (.t 11), none⟩])
      (.seq (.seq (.reg [⟨(some 12), .mov (.t 0), none⟩,
           ⟨(some 13), .call (.c (.fn 125 [] [])) [(.t 12), (.c (.str [41]))], none⟩])
        (.cond (.t 13) (.seq (.reg [⟨(some 14), .mov (.t 3), none⟩,
             ⟨(some 15), .fa 6 (.t 4), none⟩,
             ⟨none, .st none (.t 15) (.t 14), none⟩])
          (.seq (.reg [⟨(some 16), .ld (some 7) (.t 4), none⟩,
              ⟨none, .st (some 7) (.t 2) (.t 16), none⟩])
           (.ret)))
         (.skip)))
       (.seq (.reg [⟨(some 17), .mov (.t 0), none⟩,
           ⟨(some 18), .call (.c (.fn 79 [] [])) [(.t 17), (.c (.str [44]))], none⟩])
        (.seq (.reg [⟨(some 19), .ld (some 7) (.t 4), none⟩,
            ⟨(some 20), .list 7 [(.int .i64 0), (.int .i64 0), (.str []), (.str []), (.lst [] .full), (.int .i64 0), (.int .i64 0)] 1 [(0, (.t 19))], none⟩,
            ⟨(some 5), .asg (.t 20), none⟩])
         (.seq (.seq (.reg [⟨(some 21), .mov (.t 0), none⟩,
              ⟨(some 22), .call (.c (.fn 125 [] [])) [(.t 21), (.c (.str [41]))], none⟩,
              ⟨(some 23), .un .not (.t 22), none⟩])
           (.cond (.t 23) (.seq (.block 0 (.loop (.block 1 (.seq (.seq (.reg [⟨(some 24), .mov (.t 5), none⟩,
                     ⟨(some 25), .len false (.t 24), none⟩,
                     ⟨(some 26), .bin .eql (.t 25) (.c (.int .i64 4)), none⟩])
                  (.cond (.t 26) (.reg [⟨(some 27), .mov (.t 0), none⟩,
                      ⟨(some 28), .call (.c (.fn 297 [] [])) [(.t 27)], none⟩])
                   (.skip)))
                 (.seq (.reg [⟨(some 29), .mov (.t 5), none⟩,
                     ⟨(some 30), .mov (.t 0), none⟩,
                     ⟨(some 31), .call (.c (.fn 66 [] [])) [(.t 30)], none⟩,
                     ⟨(some 32), .list 7 [(.int .i64 0), (.int .i64 0), (.str []), (.str []), (.lst [] .full), (.int .i64 0), (.int .i64 0)] 1 [(0, (.t 31))], none⟩,
                     ⟨(some 33), .app 7 (.t 29) (.t 32), none⟩,
                     ⟨(some 5), .asg (.t 33), none⟩])
                  (.seq (.reg [⟨(some 34), .mov (.t 0), none⟩,
                      ⟨(some 35), .call (.c (.fn 125 [] [])) [(.t 34), (.c (.str [44]))], none⟩,
                      ⟨(some 36), .un .not (.t 35), none⟩])
                   (.cond (.t 36) (.exit 0)
                    (.skip))))))))
             (.reg [⟨(some 37), .mov (.t 0), none⟩,
                ⟨(some 38), .call (.c (.fn 79 [] [])) [(.t 37), (.c (.str [41]))], none⟩]))
            (.skip)))
          (.seq (.reg [⟨(some 39), .mov (.t 0), none⟩,
              ⟨(some 40), .mov (.t 3), none⟩,
              ⟨(some 41), .build [(.int .i64 0), (.int .i64 0), (.str []), (.str []), (.lst [] .full)] [(0, 1, (.c (.int .i64 6)))], none⟩,
              ⟨(some 42), .mov (.t 5), none⟩,
              ⟨(some 43), .call (.c (.fn 127 [] [])) [(.t 39), (.t 40), (.t 41), (.t 42)], none⟩,
              ⟨none, .st (some 7) (.t 2) (.t 43), none⟩])
           (.ret))))))))))⟩
/-- (*gavotte/read.parser).asked -/
def c296 : AFunc := ⟨70, [.cell 2 (some 7)],
  (.seq (.reg [⟨(some 2), .new [(.int .i64 0), (.int .i64 0), (.str []), (.str []), (.lst [] .full), (.int .i64 0), (.int .i64 0)], none⟩])
   (.seq (.reg [⟨(some 6), .mov (.t 0), none⟩,
       ⟨(some 7), .call (.c (.fn 124 [] [])) [(.t 6)], none⟩,
       ⟨(some 3), .asg (.t 7), none⟩])
    (.seq (.block 0 (.seq (.reg [⟨(some 9), .mov (.t 0), none⟩,
          ⟨(some 10), .call (.c (.fn 125 [] [])) [(.t 9), (.c (.str [116, 114, 117, 101]))], none⟩,
          ⟨(some 8), .asg (.t 10), none⟩])
       (.cond (.t 8) (.seq (.reg [⟨(some 11), .mov (.t 0), none⟩,
            ⟨(some 12), .mov (.t 3), none⟩,
            ⟨(some 13), .build [(.int .i64 0), (.int .i64 0), (.str []), (.str []), (.lst [] .full)] [(0, 1, (.c (.int .i64 1)))], none⟩,
            ⟨(some 14), .call (.c (.fn 127 [] [])) [(.t 11), (.t 12), (.t 13), (.c (.lst [] .full))], none⟩,
            ⟨none, .st (some 7) (.t 2) (.t 14), none⟩])
         (.ret))
        (.seq (.reg [⟨(some 16), .mov (.t 0), none⟩,
            ⟨(some 17), .call (.c (.fn 125 [] [])) [(.t 16), (.c (.str [102, 97, 108, 115, 101]))], none⟩,
            ⟨(some 15), .asg (.t 17), none⟩])
         (.cond (.t 15) (.seq (.reg [⟨(some 18), .mov (.t 0), none⟩,
              ⟨(some 19), .mov (.t 3), none⟩,
              ⟨(some 20), .build [(.int .i64 0), (.int .i64 0), (.str []), (.str []), (.lst [] .full)] [(0, 1, (.c (.int .i64 2)))], none⟩,
              ⟨(some 21), .call (.c (.fn 127 [] [])) [(.t 18), (.t 19), (.t 20), (.c (.lst [] .full))], none⟩,
              ⟨none, .st (some 7) (.t 2) (.t 21), none⟩])
           (.ret))
          (.seq (.reg [⟨(some 23), .mov (.t 0), none⟩,
              ⟨(some 24), .call (.c (.fn 125 [] [])) [(.t 23), (.c (.str [101, 108, 97, 112, 115, 101, 100]))], none⟩,
              ⟨(some 22), .asg (.t 24), none⟩])
           (.cond (.t 22) (.seq (.reg [⟨(some 25), .mov (.t 0), none⟩,
                ⟨(some 26), .mov (.t 3), none⟩,
                ⟨(some 27), .build [(.int .i64 0), (.int .i64 0), (.str []), (.str []), (.lst [] .full)] [(0, 1, (.c (.int .i64 11)))], none⟩,
                ⟨(some 28), .call (.c (.fn 127 [] [])) [(.t 25), (.t 26), (.t 27), (.c (.lst [] .full))], none⟩,
                ⟨none, .st (some 7) (.t 2) (.t 28), none⟩])
             (.ret))
            (.seq (.reg [⟨(some 30), .mov (.t 0), none⟩,
                ⟨(some 31), .call (.c (.fn 125 [] [])) [(.t 30), (.c (.str [99, 111, 117, 110, 116]))], none⟩,
                ⟨(some 29), .asg (.t 31), none⟩])
             (.cond (.t 29) (.seq (.reg [⟨(some 32), .mov (.t 0), none⟩,
                  ⟨(some 33), .mov (.t 3), none⟩,
                  ⟨(some 34), .call (.c (.fn 298 [] [])) [(.t 32), (.t 33), (.c (.int .i64 7))], none⟩,
                  ⟨none, .st (some 7) (.t 2) (.t 34), none⟩])
               (.ret))
              (.seq (.reg [⟨(some 36), .mov (.t 0), none⟩,
                  ⟨(some 37), .call (.c (.fn 125 [] [])) [(.t 36), (.c (.str [104, 97, 115]))], none⟩,
                  ⟨(some 35), .asg (.t 37), none⟩])
               (.cond (.t 35) (.seq (.reg [⟨(some 38), .mov (.t 0), none⟩,
                    ⟨(some 39), .mov (.t 3), none⟩,
                    ⟨(some 40), .call (.c (.fn 298 [] [])) [(.t 38), (.t 39), (.c (.int .i64 8))], none⟩,
                    ⟨none, .st (some 7) (.t 2) (.t 40), none⟩])
                 (.ret))
                (.seq (.reg [⟨(some 42), .mov (.t 0), none⟩,
                    ⟨(some 43), .call (.c (.fn 125 [] [])) [(.t 42), (.c (.str [115, 117, 109]))], none⟩,
                    ⟨(some 41), .asg (.t 43), none⟩])
                 (.cond (.t 41) (.seq (.reg [⟨(some 44), .mov (.t 0), none⟩,
                      ⟨(some 45), .mov (.t 3), none⟩,
                      ⟨(some 46), .call (.c (.fn 298 [] [])) [(.t 44), (.t 45), (.c (.int .i64 9))], none⟩,
                      ⟨none, .st (some 7) (.t 2) (.t 46), none⟩])
                   (.ret))
                  (.seq (.reg [⟨(some 48), .mov (.t 0), none⟩,
                      ⟨(some 49), .call (.c (.fn 125 [] [])) [(.t 48), (.c (.str [108, 101, 97, 115, 116]))], none⟩,
                      ⟨(some 47), .asg (.t 49), none⟩])
                   (.cond (.t 47) (.seq (.reg [⟨(some 50), .mov (.t 0), none⟩,
                        ⟨(some 51), .call (.c (.fn 79 [] [])) [(.t 50), (.c (.str [40]))], none⟩])
                     (.seq (.reg [⟨(some 52), .mov (.t 0), none⟩,
                         ⟨(some 53), .call (.c (.fn 80 [] [])) [(.t 52)], none⟩,
                         ⟨(some 4), .asg (.t 53), none⟩])
                      (.seq (.reg [⟨(some 54), .mov (.t 0), none⟩,
                          ⟨(some 55), .call (.c (.fn 79 [] [])) [(.t 54), (.c (.str [44]))], none⟩])
                       (.seq (.reg [⟨(some 56), .mov (.t 0), none⟩,
                           ⟨(some 57), .call (.c (.fn 66 [] [])) [(.t 56)], none⟩,
                           ⟨(some 5), .new [(.int .i64 0), (.int .i64 0), (.str []), (.str []), (.lst [] .full), (.int .i64 0), (.int .i64 0)], none⟩,
                           ⟨none, .st (some 7) (.t 5) (.t 57), none⟩])
                        (.seq (.reg [⟨(some 58), .mov (.t 0), none⟩,
                            ⟨(some 59), .call (.c (.fn 79 [] [])) [(.t 58), (.c (.str [41]))], none⟩])
                         (.seq (.reg [⟨(some 60), .mov (.t 0), none⟩,
                             ⟨(some 61), .mov (.t 3), none⟩,
                             ⟨(some 62), .mov (.t 4), none⟩,
                             ⟨(some 63), .build [(.int .i64 0), (.int .i64 0), (.str []), (.str []), (.lst [] .full)] [(0, 1, (.c (.int .i64 10))), (2, 1, (.t 62))], none⟩,
                             ⟨(some 64), .ld (some 7) (.t 5), none⟩,
                             ⟨(some 65), .list 7 [(.int .i64 0), (.int .i64 0), (.str []), (.str []), (.lst [] .full), (.int .i64 0), (.int .i64 0)] 1 [(0, (.t 64))], none⟩,
                             ⟨(some 66), .call (.c (.fn 127 [] [])) [(.t 60), (.t 61), (.t 63), (.t 65)], none⟩,
                             ⟨none, .st (some 7) (.t 2) (.t 66), none⟩])
                          (.ret)))))))
                    (.skip))))))))))))))))
     (.seq (.reg [⟨(some 67), .mov (.t 0), none⟩,
         ⟨(some 68), .call (.c (.fn 76 [] [])) [(.t 67)], none⟩])
      (.seq (.reg [⟨(some 69), .build [(.int .i64 0), (.int .i64 0), (.str []), (.str []), (.lst [] .full), (.int .i64 0), (.int .i64 0)] [], none⟩,
          ⟨none, .st (some 7) (.t 2) (.t 69), none⟩])
       (.ret))))))⟩
/-- (*gavotte/read.parser).manyItems -/
def c297 : AFunc := ⟨59, [],
  (.seq (.reg [⟨(some 3), .mov (.t 0), none⟩,
      ⟨(some 4), .call (.c (.fn 128 [] [])) [(.t 3)], none⟩,
      ⟨(some 2), .new [(.int .i64 0), (.str []), (.int .i64 0), (.int .i64 0)], none⟩,
      ⟨none, .st (some 4) (.t 2) (.t 4), none⟩])
   (.seq (.seq (.reg [⟨(some 5), .fa 0 (.t 2), none⟩,
        ⟨(some 6), .ld none (.t 5), none⟩,
        ⟨(some 7), .bin .eql (.t 6) (.c (.int .i64 1)), none⟩,
        ⟨(some 8), .mov (.t 7), none⟩,
        ⟨(some 9), .fa 0 (.t 2), (some (8, false))⟩,
        ⟨(some 10), .ld none (.t 9), (some (8, false))⟩,
        ⟨(some 11), .bin .eql (.t 10) (.c (.int .i64 2)), (some (8, false))⟩,
        ⟨(some 12), .pick (.t 8) (.c (.bool true)) (.t 11), none⟩,
        ⟨(some 13), .mov (.t 12), none⟩,
        ⟨(some 14), .mov (.t 0), (some (13, false))⟩,
        ⟨(some 15), .call (.c (.fn 137 [] [])) [(.t 14)], (some (13, false))⟩,
        ⟨(some 16), .pick (.t 13) (.c (.bool true)) (.t 15), none⟩])
     (.cond (.t 16) (.reg [⟨(some 17), .mov (.t 0), none⟩,
         ⟨(some 18), .fa 3 (.t 2), none⟩,
         ⟨(some 19), .ld none (.t 18), none⟩,
         ⟨(some 20), .call (.c (.fn 132 [] [])) [(.t 17), (.t 19), (.c (.int .i64 8))], none⟩])
      (.skip)))
    (.seq (.seq (.reg [⟨(some 21), .fa 0 (.t 2), none⟩,
         ⟨(some 22), .ld none (.t 21), none⟩,
         ⟨(some 23), .bin .eql (.t 22) (.c (.int .i64 3)), none⟩,
         ⟨(some 24), .mov (.t 23), none⟩,
         ⟨(some 25), .fa 1 (.t 2), (some (24, true))⟩,
         ⟨(some 26), .ld none (.t 25), (some (24, true))⟩,
         ⟨(some 27), .bin .eql (.t 26) (.c (.str [40])), (some (24, true))⟩,
         ⟨(some 28), .mov (.t 27), (some (24, true))⟩,
         ⟨(some 29), .fa 1 (.t 2), (some (28, false))⟩,
         ⟨(some 30), .ld none (.t 29), (some (28, false))⟩,
         ⟨(some 31), .bin .eql (.t 30) (.c (.str [45])), (some (28, false))⟩,
         ⟨(some 32), .pick (.t 28) (.c (.bool true)) (.t 31), (some (24, true))⟩,
         ⟨(some 33), .pick (.t 24) (.t 32) (.c (.bool false)), none⟩])
      (.cond (.t 33) (.reg [⟨(some 34), .mov (.t 0), none⟩,
          ⟨(some 35), .fa 3 (.t 2), none⟩,
          ⟨(some 36), .ld none (.t 35), none⟩,
          ⟨(some 37), .call (.c (.fn 132 [] [])) [(.t 34), (.t 36), (.c (.int .i64 8))], none⟩])
       (.skip)))
     (.seq (.seq (.reg [⟨(some 38), .fa 0 (.t 2), none⟩,
          ⟨(some 39), .ld none (.t 38), none⟩,
          ⟨(some 40), .bin .eql (.t 39) (.c (.int .i64 0)), none⟩])
       (.cond (.t 40) (.seq (.reg [⟨(some 41), .fa 1 (.t 2), none⟩,
            ⟨(some 42), .ld none (.t 41), none⟩])
         (.block 0 (.seq (.seq (.reg [⟨(some 44), .bin .eql (.t 42) (.c (.str [105, 102])), none⟩,
               ⟨(some 43), .asg (.t 44), none⟩])
            (.cond (.t 43) (.skip)
             (.seq (.reg [⟨(some 45), .bin .eql (.t 42) (.c (.str [110, 111, 116])), none⟩,
                 ⟨(some 43), .asg (.t 45), none⟩])
              (.cond (.t 43) (.skip)
               (.seq (.reg [⟨(some 46), .bin .eql (.t 42) (.c (.str [116, 114, 117, 101])), none⟩,
                   ⟨(some 43), .asg (.t 46), none⟩])
                (.cond (.t 43) (.skip)
                 (.seq (.reg [⟨(some 47), .bin .eql (.t 42) (.c (.str [102, 97, 108, 115, 101])), none⟩,
                     ⟨(some 43), .asg (.t 47), none⟩])
                  (.cond (.t 43) (.skip)
                   (.seq (.reg [⟨(some 48), .bin .eql (.t 42) (.c (.str [101, 108, 97, 112, 115, 101, 100])), none⟩,
                       ⟨(some 43), .asg (.t 48), none⟩])
                    (.cond (.t 43) (.skip)
                     (.seq (.reg [⟨(some 49), .bin .eql (.t 42) (.c (.str [99, 111, 117, 110, 116])), none⟩,
                         ⟨(some 43), .asg (.t 49), none⟩])
                      (.cond (.t 43) (.skip)
                       (.seq (.reg [⟨(some 50), .bin .eql (.t 42) (.c (.str [104, 97, 115])), none⟩,
                           ⟨(some 43), .asg (.t 50), none⟩])
                        (.cond (.t 43) (.skip)
                         (.seq (.reg [⟨(some 51), .bin .eql (.t 42) (.c (.str [115, 117, 109])), none⟩,
                             ⟨(some 43), .asg (.t 51), none⟩])
                          (.cond (.t 43) (.skip)
                           (.reg [⟨(some 52), .bin .eql (.t 42) (.c (.str [108, 101, 97, 115, 116])), none⟩,
                              ⟨(some 43), .asg (.t 52), none⟩])))))))))))))))))
           (.cond (.t 43) (.reg [⟨(some 53), .mov (.t 0), none⟩,
               ⟨(some 54), .fa 3 (.t 2), none⟩,
               ⟨(some 55), .ld none (.t 54), none⟩,
               ⟨(some 56), .call (.c (.fn 132 [] [])) [(.t 53), (.t 55), (.c (.int .i64 8))], none⟩])
            (.skip)))))
        (.skip)))
      (.reg [⟨(some 57), .mov (.t 0), none⟩,
         ⟨(some 58), .call (.c (.fn 76 [] [])) [(.t 57)], none⟩])))))⟩
/-- (*gavotte/read.parser).ofPort -/
def c298 : AFunc := ⟨20, [.cell 6 (some 7)],
  (.seq (.reg [⟨(some 6), .new [(.int .i64 0), (.int .i64 0), (.str []), (.str []), (.lst [] .full), (.int .i64 0), (.int .i64 0)], none⟩])
   (.seq (.reg [⟨(some 8), .mov (.t 0), none⟩,
       ⟨(some 9), .call (.c (.fn 79 [] [])) [(.t 8), (.c (.str [40]))], none⟩])
    (.seq (.reg [⟨(some 10), .mov (.t 0), none⟩,
        ⟨(some 11), .call (.c (.fn 80 [] [])) [(.t 10)], none⟩,
        ⟨(some 7), .asg (.t 11), none⟩])
     (.seq (.reg [⟨(some 12), .mov (.t 0), none⟩,
         ⟨(some 13), .call (.c (.fn 79 [] [])) [(.t 12), (.c (.str [41]))], none⟩])
      (.seq (.reg [⟨(some 14), .mov (.t 0), none⟩,
          ⟨(some 15), .mov (.t 1), none⟩,
          ⟨(some 16), .mov (.t 2), none⟩,
          ⟨(some 17), .mov (.t 7), none⟩,
          ⟨(some 18), .build [(.int .i64 0), (.int .i64 0), (.str []), (.str []), (.lst [] .full)] [(0, 1, (.t 16)), (2, 1, (.t 17))], none⟩,
          ⟨(some 19), .call (.c (.fn 127 [] [])) [(.t 14), (.t 15), (.t 18), (.c (.lst [] .full))], none⟩,
          ⟨none, .st (some 7) (.t 6) (.t 19), none⟩])
       (.ret))))))⟩
/-- gavotte/read.run[gavotte/api.Expr] -/
def c31 : GFunc := ⟨27, [.cell 4 (some 5), .cell 5 none, .cell 6 none],
  (.pre (.reg [⟨(some 4), .new [(.int .i64 0), (.int .i64 0), (.str []), (.str []), (.lst [] .full)], none⟩,
      ⟨(some 5), .new [(.int .i64 0)], none⟩,
      ⟨(some 6), .new [(.int .i64 0)], none⟩])
   (.pre (.reg [⟨(some 10), .mov (.t 0), none⟩,
       ⟨(some 11), .call (.c (.fn 64 [] [])) [(.t 10)], none⟩,
       ⟨(some 9), .mov (.t 11), none⟩,
       ⟨(some 12), .ext (.t 9) 0, none⟩,
       ⟨(some 13), .ext (.t 9) 1, none⟩,
       ⟨(some 14), .ext (.t 9) 2, none⟩,
       ⟨(some 7), .asg (.t 12), none⟩,
       ⟨(some 8), .asg (.t 13), none⟩,
       ⟨none, .st none (.t 6) (.t 14), none⟩])
    (.pre (.seq (.reg [⟨(some 15), .ld none (.t 6), none⟩,
         ⟨(some 16), .bin .neq (.t 15) (.c (.int .i64 0)), none⟩])
      (.cond (.t 16) (.seq (.draw [⟨⟨(some 17), .ld (some 5) (.t 4), none⟩, 0, 0⟩,
           ⟨⟨(some 18), .mov (.t 8), none⟩, 1, 0⟩,
           ⟨⟨(some 19), .ld none (.t 6), none⟩, 2, 0⟩,
           ⟨⟨none, .st (some 5) (.t 4) (.t 17), none⟩, 3, 1⟩,
           ⟨⟨none, .st none (.t 5) (.t 18), none⟩, 4, 11⟩,
           ⟨⟨none, .st none (.t 6) (.t 19), none⟩, 5, 31⟩])
        (.ret))
       (.skip)))
     (.dfr 65 [(.t 4), (.t 5), (.t 6)] 20 (.seq (.reg [⟨(some 21), .mov (.t 1), none⟩,
          ⟨(some 22), .mov (.t 7), none⟩,
          ⟨(some 23), .build [(.lst [] .full), (.int .i64 0)] [(0, 1, (.t 22))], none⟩,
          ⟨(some 24), .box 2 (.t 23), none⟩,
          ⟨(some 25), .call (.t 21) [(.t 24)], none⟩,
          ⟨none, .st (some 5) (.t 4) (.t 25), none⟩])
       (.seq (.reg [⟨(some 26), .ld (some 5) (.t 4), none⟩,
           ⟨none, .st (some 5) (.t 4) (.t 26), none⟩,
           ⟨none, .st none (.t 5) (.c (.int .i64 0)), none⟩,
           ⟨none, .st none (.t 6) (.c (.int .i64 0)), none⟩])
        (.ret))))))),
  ⟨17, 7, [⟨(some 8), .tas 112 (.agg [(.int .i64 0), (.int .i64 0)]) (.t 7), none⟩, ⟨(some 6), .mov (.t 8), none⟩, ⟨(some 9), .ext (.t 6) 0, none⟩, ⟨(some 10), .ext (.t 6) 1, none⟩, ⟨(some 3), .new [(.int .i64 0), (.int .i64 0)], none⟩, ⟨none, .st (some 2) (.t 3) (.t 9), none⟩, ⟨(some 4), .asg (.t 10), none⟩],
   .seq (.reg [⟨(some 11), .mov (.t 4), none⟩])
   (.cond (.t 11) (.seq (.reg [⟨(some 5), .new [(.int .i64 0), (.int .i64 0), (.str []), (.str []), (.lst [] .full)], none⟩])
     (.draw [⟨⟨(some 12), .ld (some 5) (.t 5), none⟩, 0, 0⟩,
        ⟨⟨(some 13), .fa 0 (.t 3), none⟩, 1, 0⟩,
        ⟨⟨(some 14), .ld none (.t 13), none⟩, 2, 2⟩,
        ⟨⟨(some 15), .fa 1 (.t 3), none⟩, 3, 0⟩,
        ⟨⟨(some 16), .ld none (.t 15), none⟩, 4, 8⟩,
        ⟨⟨none, .st (some 5) (.t 0) (.t 12), none⟩, 5, 1⟩,
        ⟨⟨none, .st none (.t 1) (.t 14), none⟩, 6, 39⟩,
        ⟨⟨none, .st none (.t 2) (.t 16), none⟩, 7, 127⟩]))
    (.skip))⟩⟩
/-- gavotte/read.run[gavotte/api.Program] -/
def c36 : GFunc := ⟨27, [.cell 4 (some 2), .cell 5 none, .cell 6 none],
  (.pre (.reg [⟨(some 4), .new [(.lst [] .full), (.str [])], none⟩,
      ⟨(some 5), .new [(.int .i64 0)], none⟩,
      ⟨(some 6), .new [(.int .i64 0)], none⟩])
   (.pre (.reg [⟨(some 10), .mov (.t 0), none⟩,
       ⟨(some 11), .call (.c (.fn 64 [] [])) [(.t 10)], none⟩,
       ⟨(some 9), .mov (.t 11), none⟩,
       ⟨(some 12), .ext (.t 9) 0, none⟩,
       ⟨(some 13), .ext (.t 9) 1, none⟩,
       ⟨(some 14), .ext (.t 9) 2, none⟩,
       ⟨(some 7), .asg (.t 12), none⟩,
       ⟨(some 8), .asg (.t 13), none⟩,
       ⟨none, .st none (.t 6) (.t 14), none⟩])
    (.pre (.seq (.reg [⟨(some 15), .ld none (.t 6), none⟩,
         ⟨(some 16), .bin .neq (.t 15) (.c (.int .i64 0)), none⟩])
      (.cond (.t 16) (.seq (.draw [⟨⟨(some 17), .ld (some 2) (.t 4), none⟩, 0, 0⟩,
           ⟨⟨(some 18), .mov (.t 8), none⟩, 1, 0⟩,
           ⟨⟨(some 19), .ld none (.t 6), none⟩, 2, 0⟩,
           ⟨⟨none, .st (some 2) (.t 4) (.t 17), none⟩, 3, 1⟩,
           ⟨⟨none, .st none (.t 5) (.t 18), none⟩, 4, 11⟩,
           ⟨⟨none, .st none (.t 6) (.t 19), none⟩, 5, 31⟩])
        (.ret))
       (.skip)))
     (.dfr 73 [(.t 4), (.t 5), (.t 6)] 20 (.seq (.reg [⟨(some 21), .mov (.t 1), none⟩,
          ⟨(some 22), .mov (.t 7), none⟩,
          ⟨(some 23), .build [(.lst [] .full), (.int .i64 0)] [(0, 1, (.t 22))], none⟩,
          ⟨(some 24), .box 2 (.t 23), none⟩,
          ⟨(some 25), .call (.t 21) [(.t 24)], none⟩,
          ⟨none, .st (some 2) (.t 4) (.t 25), none⟩])
       (.seq (.reg [⟨(some 26), .ld (some 2) (.t 4), none⟩,
           ⟨none, .st (some 2) (.t 4) (.t 26), none⟩,
           ⟨none, .st none (.t 5) (.c (.int .i64 0)), none⟩,
           ⟨none, .st none (.t 6) (.c (.int .i64 0)), none⟩])
        (.ret))))))),
  ⟨17, 7, [⟨(some 8), .tas 112 (.agg [(.int .i64 0), (.int .i64 0)]) (.t 7), none⟩, ⟨(some 6), .mov (.t 8), none⟩, ⟨(some 9), .ext (.t 6) 0, none⟩, ⟨(some 10), .ext (.t 6) 1, none⟩, ⟨(some 3), .new [(.int .i64 0), (.int .i64 0)], none⟩, ⟨none, .st (some 2) (.t 3) (.t 9), none⟩, ⟨(some 4), .asg (.t 10), none⟩],
   .seq (.reg [⟨(some 11), .mov (.t 4), none⟩])
   (.cond (.t 11) (.seq (.reg [⟨(some 5), .new [(.lst [] .full), (.str [])], none⟩])
     (.draw [⟨⟨(some 12), .ld (some 2) (.t 5), none⟩, 0, 0⟩,
        ⟨⟨(some 13), .fa 0 (.t 3), none⟩, 1, 0⟩,
        ⟨⟨(some 14), .ld none (.t 13), none⟩, 2, 2⟩,
        ⟨⟨(some 15), .fa 1 (.t 3), none⟩, 3, 0⟩,
        ⟨⟨(some 16), .ld none (.t 15), none⟩, 4, 8⟩,
        ⟨⟨none, .st (some 2) (.t 0) (.t 12), none⟩, 5, 1⟩,
        ⟨⟨none, .st none (.t 1) (.t 14), none⟩, 6, 39⟩,
        ⟨⟨none, .st none (.t 2) (.t 16), none⟩, 7, 127⟩]))
    (.skip))⟩⟩
def T : FTree :=
  (.node 195 c195 (.node 127 c127 (.node 75 c75 (.node 37 c37 (.node 11 c11 (.node 10 c10 (.node 5 c5 .nil .nil) .nil) (.node 32 c32 (.node 14 c14 .nil .nil) .nil)) (.node 66 c66 (.node 64 c64 (.node 48 c48 .nil .nil) .nil) (.node 74 c74 (.node 67 c67 .nil .nil) .nil))) (.node 92 c92 (.node 78 c78 (.node 77 c77 (.node 76 c76 .nil .nil) .nil) (.node 80 c80 (.node 79 c79 .nil .nil) .nil)) (.node 124 c124 (.node 123 c123 (.node 93 c93 .nil .nil) .nil) (.node 126 c126 (.node 125 c125 .nil .nil) .nil)))) (.node 184 c184 (.node 136 c136 (.node 133 c133 (.node 132 c132 (.node 128 c128 .nil .nil) .nil) (.node 135 c135 (.node 134 c134 .nil .nil) .nil)) (.node 178 c178 (.node 177 c177 (.node 137 c137 .nil .nil) .nil) (.node 180 c180 (.node 179 c179 .nil .nil) .nil))) (.node 190 c190 (.node 187 c187 (.node 186 c186 (.node 185 c185 .nil .nil) .nil) (.node 189 c189 (.node 188 c188 .nil .nil) .nil)) (.node 193 c193 (.node 192 c192 (.node 191 c191 .nil .nil) .nil) (.node 194 c194 .nil .nil))))) (.node 244 c244 (.node 233 c233 (.node 226 c226 (.node 198 c198 (.node 197 c197 (.node 196 c196 .nil .nil) .nil) (.node 225 c225 (.node 224 c224 .nil .nil) .nil)) (.node 229 c229 (.node 228 c228 (.node 227 c227 .nil .nil) .nil) (.node 232 c232 (.node 230 c230 .nil .nil) .nil))) (.node 239 c239 (.node 236 c236 (.node 235 c235 (.node 234 c234 .nil .nil) .nil) (.node 238 c238 (.node 237 c237 .nil .nil) .nil)) (.node 242 c242 (.node 241 c241 (.node 240 c240 .nil .nil) .nil) (.node 243 c243 .nil .nil)))) (.node 269 c269 (.node 250 c250 (.node 247 c247 (.node 246 c246 (.node 245 c245 .nil .nil) .nil) (.node 249 c249 (.node 248 c248 .nil .nil) .nil)) (.node 259 c259 (.node 258 c258 (.node 251 c251 .nil .nil) .nil) (.node 261 c261 (.node 260 c260 .nil .nil) .nil))) (.node 294 c294 (.node 289 c289 (.node 283 c283 (.node 272 c272 .nil .nil) .nil) (.node 293 c293 (.node 292 c292 .nil .nil) .nil)) (.node 297 c297 (.node 296 c296 (.node 295 c295 .nil .nil) .nil) (.node 298 c298 .nil .nil))))))
def X : Exts
  | 31 => some (gcall 4000 c31)
  | 36 => some (gcall 4000 c36)
  | _ => none
end Go.Proofs.YtlognicjhmcgjaaGreatDoor.AE
