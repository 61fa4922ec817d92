/- Proved: part 6. No condition. -/
import Derived.Test.YtnibchoenjmmjaaGreatDoorMt4
import Derived.Test.YtnibchoenjmmjaaGreatDoorMt5
set_option maxRecDepth 100000
namespace Go.Proofs.YtnibchoenjmmjaaGreatDoor.AE
open Go.AE
def T:qfi:=
 (.node 82 c82 (.node 46 c46 (.node 24 c24 (.node 16 c16 (.node 9 c9 (.node 7 c7 (.node 6 c6 (.node 5 c5 .nil .nil) .nil) (.node 8 c8 .nil .nil)) (.node 13 c13 (.node 10 c10 .nil .nil) (.node 15 c15 .nil .nil))) (.node 20 c20 (.node 18 c18 (.node 17 c17 .nil .nil) (.node 19 c19 .nil .nil)) (.node 22 c22 (.node 21 c21 .nil .nil) (.node 23 c23 .nil .nil)))) (.node 37 c37 (.node 33 c33 (.node 26 c26 (.node 25 c25 .nil .nil) (.node 27 c27 .nil .nil)) (.node 35 c35 (.node 34 c34 .nil .nil) (.node 36 c36 .nil .nil))) (.node 42 c42 (.node 40 c40 (.node 38 c38 .nil .nil) (.node 41 c41 .nil .nil)) (.node 44 c44 (.node 43 c43 .nil .nil) (.node 45 c45 .nil .nil))))) (.node 64 c64 (.node 55 c55 (.node 51 c51 (.node 49 c49 (.node 48 c48 (.node 47 c47 .nil .nil) .nil) (.node 50 c50 .nil .nil)) (.node 53 c53 (.node 52 c52 .nil .nil) (.node 54 c54 .nil .nil))) (.node 60 c60 (.node 57 c57 (.node 56 c56 .nil .nil) (.node 58 c58 .nil .nil)) (.node 62 c62 (.node 61 c61 .nil .nil) (.node 63 c63 .nil .nil)))) (.node 73 c73 (.node 68 c68 (.node 66 c66 (.node 65 c65 .nil .nil) (.node 67 c67 .nil .nil)) (.node 70 c70 (.node 69 c69 .nil .nil) (.node 72 c72 .nil .nil))) (.node 78 c78 (.node 75 c75 (.node 74 c74 .nil .nil) (.node 77 c77 .nil .nil)) (.node 80 c80 (.node 79 c79 .nil .nil) (.node 81 c81 .nil .nil)))))) (.node 117 qCj (.node 99 c99 (.node 91 c91 (.node 87 c87 (.node 85 c85 (.node 84 c84 (.node 83 c83 .nil .nil) .nil) (.node 86 c86 .nil .nil)) (.node 89 c89 (.node 88 c88 .nil .nil) (.node 90 c90 .nil .nil))) (.node 95 c95 (.node 93 c93 (.node 92 c92 .nil .nil) (.node 94 c94 .nil .nil)) (.node 97 c97 (.node 96 c96 .nil .nil) (.node 98 c98 .nil .nil)))) (.node 109 qzS (.node 104 qCb (.node 102 qB9 (.node 101 qB8 .nil .nil) (.node 103 qCa .nil .nil)) (.node 106 qw4 (.node 105 qCc .nil .nil) (.node 108 qCd .nil .nil))) (.node 113 qw5 (.node 111 qCf (.node 110 qCe .nil .nil) (.node 112 qCg .nil .nil)) (.node 115 qCh (.node 114 qzT .nil .nil) (.node 116 qCi .nil .nil))))) (.node 135 qFL (.node 127 qCk (.node 122 qFG (.node 120 qFE (.node 119 qw6 (.node 118 qAn .nil .nil) .nil) (.node 121 qFF .nil .nil)) (.node 124 qFI (.node 123 qFH .nil .nil) (.node 126 qAo .nil .nil))) (.node 131 qAp (.node 129 qCm (.node 128 qCl .nil .nil) (.node 130 qCn .nil .nil)) (.node 133 qFJ (.node 132 qCo .nil .nil) (.node 134 qFK .nil .nil)))) (.node 148 qFT (.node 141 qFP (.node 137 qFN (.node 136 qFM .nil .nil) (.node 139 qFO .nil .nil)) (.node 144 qFR (.node 142 qFQ .nil .nil) (.node 145 qFS .nil .nil))) (.node 165 qFX (.node 159 qFV (.node 154 qFU .nil .nil) (.node 163 qFW .nil .nil)) (.node 173 qFZ (.node 170 qFY .nil .nil) (.node 179 qF0 .nil .nil)))))))
def X0:qff
 | 39=>some (qfS 4000 c39)
 | 107=>some qeG
 | 140=>some qxa
 | _=>none
def X:qff
 | 6=>some qem
 | 39=>some (qfS 4000 c39)
 | 107=>some qeG
 | 140=>some qxa
 | _=>none
end Go.Proofs.YtnibchoenjmmjaaGreatDoor.AE
