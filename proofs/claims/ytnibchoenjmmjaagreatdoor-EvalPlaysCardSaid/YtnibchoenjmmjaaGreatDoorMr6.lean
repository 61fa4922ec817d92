/- A part of the proof: the abstract executor and what goes through it (part 6). No condition. -/
import Derived.Test.YtnibchoenjmmjaaGreatDoorMr4
import Derived.Test.YtnibchoenjmmjaaGreatDoorMr5
set_option maxRecDepth 100000
namespace Go.Proofs.YtnibchoenjmmjaaGreatDoor.AE
open Go.AE
def T:qe0:=
 (.node 77 c77 (.node 40 c40 (.node 22 c22 (.node 12 c12 (.node 8 c8 (.node 6 c6 (.node 3 c3 .nil .nil) (.node 7 c7 .nil .nil)) (.node 10 c10 (.node 9 c9 .nil .nil) (.node 11 c11 .nil .nil))) (.node 19 c19 (.node 17 c17 (.node 13 c13 .nil .nil) (.node 18 c18 .nil .nil)) (.node 21 c21 (.node 20 c20 .nil .nil) .nil))) (.node 29 c29 (.node 26 c26 (.node 24 c24 (.node 23 c23 .nil .nil) (.node 25 c25 .nil .nil)) (.node 28 c28 (.node 27 c27 .nil .nil) .nil)) (.node 36 c36 (.node 31 c31 (.node 30 c30 .nil .nil) (.node 33 c33 .nil .nil)) (.node 38 c38 (.node 37 c37 .nil .nil) .nil)))) (.node 54 c54 (.node 47 c47 (.node 44 c44 (.node 42 c42 (.node 41 c41 .nil .nil) (.node 43 c43 .nil .nil)) (.node 46 c46 (.node 45 c45 .nil .nil) .nil)) (.node 51 c51 (.node 49 c49 (.node 48 c48 .nil .nil) (.node 50 c50 .nil .nil)) (.node 53 c53 (.node 52 c52 .nil .nil) .nil))) (.node 61 c61 (.node 58 c58 (.node 56 c56 (.node 55 c55 .nil .nil) (.node 57 c57 .nil .nil)) (.node 60 c60 (.node 59 c59 .nil .nil) .nil)) (.node 73 c73 (.node 70 c70 (.node 69 c69 .nil .nil) (.node 72 c72 .nil .nil)) (.node 75 c75 (.node 74 c74 .nil .nil) .nil))))) (.node 120 qFi (.node 101 qB7 (.node 93 c93 (.node 81 c81 (.node 79 c79 (.node 78 c78 .nil .nil) (.node 80 c80 .nil .nil)) (.node 83 c83 (.node 82 c82 .nil .nil) (.node 84 c84 .nil .nil))) (.node 97 c97 (.node 95 c95 (.node 94 c94 .nil .nil) (.node 96 c96 .nil .nil)) (.node 99 c99 (.node 98 c98 .nil .nil) .nil))) (.node 109 qzT (.node 105 qCb (.node 103 qB9 (.node 102 qB8 .nil .nil) (.node 104 qCa .nil .nil)) (.node 108 qCc (.node 106 qw7 .nil .nil) .nil)) (.node 113 qw8 (.node 111 qCe (.node 110 qCd .nil .nil) (.node 112 qCf .nil .nil)) (.node 115 qCg (.node 114 qzU .nil .nil) .nil)))) (.node 137 qFr (.node 128 qCi (.node 124 qFm (.node 122 qFk (.node 121 qFj .nil .nil) (.node 123 qFl .nil .nil)) (.node 127 qCh (.node 126 qAp .nil .nil) .nil)) (.node 134 qFo (.node 130 qCk (.node 129 qCj .nil .nil) (.node 133 qFn .nil .nil)) (.node 136 qFq (.node 135 qFp .nil .nil) .nil))) (.node 154 qFy (.node 144 qFv (.node 141 qFt (.node 139 qFs .nil .nil) (.node 142 qFu .nil .nil)) (.node 148 qFx (.node 145 qFw .nil .nil) .nil)) (.node 170 qFC (.node 163 qFA (.node 159 qFz .nil .nil) (.node 165 qFB .nil .nil)) (.node 179 qFE (.node 173 qFD .nil .nil) .nil))))))
def X0:qeW
 | 39=>some (qfB 4000 c39)
 | 107=>some qeo
 | 140=>some qxc
 | _=>none
def X:qeW
 | 6=>some qd7
 | 39=>some (qfB 4000 c39)
 | 107=>some qeo
 | 140=>some qxc
 | _=>none
end Go.Proofs.YtnibchoenjmmjaaGreatDoor.AE
