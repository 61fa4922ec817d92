/- A part of the proof: the abstract executor and what goes through it (part 5). No condition. -/
import Derived.Test.YtgcfnjnahihmdaaGreatDoorMq4
set_option maxRecDepth 100000
namespace Go.Proofs.YtgcfnjnahihmdaaGreatDoor.AE
open Go.AE
def T : FTree :=
  (.node 57 c57 (.node 29 c29 (.node 16 c16 (.node 10 c10 (.node 7 c7 (.node 5 c5 (.node 3 c3 .nil .nil) (.node 6 c6 .nil .nil)) (.node 9 c9 (.node 8 c8 .nil .nil) .nil)) (.node 13 c13 (.node 12 c12 (.node 11 c11 .nil .nil) .nil) (.node 15 c15 (.node 14 c14 .nil .nil) .nil))) (.node 23 c23 (.node 20 c20 (.node 18 c18 (.node 17 c17 .nil .nil) (.node 19 c19 .nil .nil)) (.node 22 c22 (.node 21 c21 .nil .nil) .nil)) (.node 26 c26 (.node 25 c25 (.node 24 c24 .nil .nil) .nil) (.node 28 c28 (.node 27 c27 .nil .nil) .nil)))) (.node 44 c44 (.node 37 c37 (.node 34 c34 (.node 31 c31 (.node 30 c30 .nil .nil) (.node 33 c33 .nil .nil)) (.node 36 c36 (.node 35 c35 .nil .nil) .nil)) (.node 40 c40 (.node 39 c39 (.node 38 c38 .nil .nil) .nil) (.node 43 c43 (.node 42 c42 .nil .nil) .nil))) (.node 51 c51 (.node 47 c47 (.node 46 c46 (.node 45 c45 .nil .nil) .nil) (.node 50 c50 (.node 48 c48 .nil .nil) .nil)) (.node 54 c54 (.node 53 c53 (.node 52 c52 .nil .nil) .nil) (.node 56 c56 (.node 55 c55 .nil .nil) .nil))))) (.node 83 c83 (.node 70 c70 (.node 64 c64 (.node 61 c61 (.node 59 c59 (.node 58 c58 .nil .nil) (.node 60 c60 .nil .nil)) (.node 63 c63 (.node 62 c62 .nil .nil) .nil)) (.node 67 c67 (.node 66 c66 (.node 65 c65 .nil .nil) .nil) (.node 69 c69 (.node 68 c68 .nil .nil) .nil))) (.node 76 c76 (.node 73 c73 (.node 72 c72 (.node 71 c71 .nil .nil) .nil) (.node 75 c75 (.node 74 c74 .nil .nil) .nil)) (.node 79 c79 (.node 78 c78 (.node 77 c77 .nil .nil) .nil) (.node 81 c81 (.node 80 c80 .nil .nil) .nil)))) (.node 98 c98 (.node 90 c90 (.node 87 c87 (.node 85 c85 (.node 84 c84 .nil .nil) (.node 86 c86 .nil .nil)) (.node 89 c89 (.node 88 c88 .nil .nil) .nil)) (.node 93 c93 (.node 92 c92 (.node 91 c91 .nil .nil) .nil) (.node 95 c95 (.node 94 c94 .nil .nil) .nil))) (.node 121 c121 (.node 113 c113 (.node 109 c109 (.node 104 c104 .nil .nil) .nil) (.node 120 c120 (.node 115 c115 .nil .nil) .nil)) (.node 129 c129 (.node 123 c123 (.node 122 c122 .nil .nil) .nil) (.node 131 c131 (.node 130 c130 .nil .nil) .nil))))))
def X : Exts
  | 32 => some (gcall 4000 c32)
  | 49 => some add64X
  | _ => none
end Go.Proofs.YtgcfnjnahihmdaaGreatDoor.AE
