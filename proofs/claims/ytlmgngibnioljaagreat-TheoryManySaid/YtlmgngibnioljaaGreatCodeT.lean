import Derived.Test.YtlmgngibnioljaaGreatOps18
import Derived.Test.YtlmgngibnioljaaGreatCodeT1
import Derived.Test.YtlmgngibnioljaaGreatCodeT2
import Derived.Test.YtlmgngibnioljaaGreatCodeT3
set_option linter.unusedVariables false
set_option linter.unusedSimpArgs false
/-
  The machine code of functions of the given program, as a table.
-/
namespace Go.Abs.T
open Go Go.Abs
/-- strings.Repeat, told by what it answers. -/
def repeatF : List D → St → Option D
  | [.str s, .int .i64 c], _ => if 0 ≤ c ∧ s.length * c.toNat ≤ 140737488355328 ∧ c ≤ 4611686018427387904 then some (.str (List.replicate c.toNat s).flatten) else none
  | _, _ => none
def m73 : MFunc := toldF 2 repeatF
/-- The functions. -/
def tree : BT := (.node (.node (.node (.node (.node (.node (.node .leaf 3 m3 .leaf) 4 m4 (.node .leaf 5 m5 .leaf)) 6 m6 (.node (.node .leaf 7 m7 .leaf) 8 m8 .leaf)) 9 m9 (.node (.node (.node .leaf 10 m10 .leaf) 11 m11 (.node .leaf 12 m12 .leaf)) 13 m13 (.node (.node .leaf 14 m14 .leaf) 15 m15 .leaf))) 16 m16 (.node (.node (.node (.node .leaf 17 m17 .leaf) 18 m18 (.node .leaf 19 m19 .leaf)) 20 m20 (.node (.node .leaf 21 m21 .leaf) 22 m22 .leaf)) 23 m23 (.node (.node (.node .leaf 24 m24 .leaf) 25 m25 .leaf) 26 m26 (.node (.node .leaf 27 m27 .leaf) 28 m28 .leaf)))) 29 m29 (.node (.node (.node (.node (.node .leaf 30 m30 .leaf) 31 m31 (.node .leaf 32 m32 .leaf)) 33 m33 (.node (.node .leaf 34 m34 .leaf) 35 m35 .leaf)) 36 m36 (.node (.node (.node .leaf 37 m37 .leaf) 38 m38 (.node .leaf 40 m40 .leaf)) 41 m41 (.node (.node .leaf 43 m43 .leaf) 44 m44 .leaf))) 45 m45 (.node (.node (.node (.node .leaf 46 m46 .leaf) 47 m47 (.node .leaf 48 m48 .leaf)) 50 m50 (.node (.node .leaf 51 m51 .leaf) 55 m55 .leaf)) 56 m56 (.node (.node (.node .leaf 57 m57 .leaf) 58 m58 .leaf) 59 m59 (.node (.node .leaf 61 m61 .leaf) 62 m62 .leaf))))) 63 m63 (.node (.node (.node (.node (.node (.node .leaf 67 m67 .leaf) 68 m68 (.node .leaf 69 m69 .leaf)) 70 m70 (.node (.node .leaf 72 m72 .leaf) 73 m73 .leaf)) 74 m74 (.node (.node (.node .leaf 75 m75 .leaf) 76 m76 (.node .leaf 77 m77 .leaf)) 79 m79 (.node (.node .leaf 80 m80 .leaf) 81 m81 .leaf))) 82 m82 (.node (.node (.node (.node .leaf 83 m83 .leaf) 84 m84 (.node .leaf 85 m85 .leaf)) 92 m92 (.node (.node .leaf 93 m93 .leaf) 94 m94 .leaf)) 101 m101 (.node (.node (.node .leaf 102 m102 .leaf) 109 m109 .leaf) 110 m110 (.node (.node .leaf 112 m112 .leaf) 121 m121 .leaf)))) 122 m122 (.node (.node (.node (.node (.node .leaf 123 m123 .leaf) 124 m124 (.node .leaf 126 m126 .leaf)) 127 m127 (.node (.node .leaf 128 m128 .leaf) 129 m129 .leaf)) 135 m135 (.node (.node (.node .leaf 138 m138 .leaf) 140 m140 .leaf) 146 m146 (.node (.node .leaf 147 m147 .leaf) 148 m148 .leaf))) 159 m159 (.node (.node (.node (.node .leaf 160 m160 .leaf) 161 m161 (.node .leaf 162 m162 .leaf)) 170 m170 (.node (.node .leaf 171 m171 .leaf) 172 m172 .leaf)) 176 m176 (.node (.node (.node .leaf 181 m181 .leaf) 182 m182 .leaf) 191 m191 (.node (.node .leaf 203 m203 .leaf) 207 m207 .leaf))))))
def T : Table := tree.look
end Go.Abs.T
