/-
  A part of AnalyzeFew's proof.
-/
import Derived.Test.YthbfgdbbnapjeaaGreatCodeW0
set_option linter.unusedVariables false
set_option linter.unusedSimpArgs false
namespace Go.Abs.W
open Go Go.Abs
def l126_0 : MCode :=
  (.seq (.seq (.reg [mv 18 9,
 mv 19 1,
 oo 20 (.bin .gtr 18 19),
 mv 21 20,
 ⟨some 22, .move 3 false, some (21, true)⟩,
 ⟨some 23, .move 0 false, some (21, true)⟩,
 ⟨some 24, .move 9 false, some (21, true)⟩,
 ⟨some 25, .indexAddr 11 23 24, some (21, true)⟩,
 ⟨some 26, .load true 11 25 false, some (21, true)⟩,
 ⟨some 27, .move 0 false, some (21, true)⟩,
 ⟨some 28, .move 9 false, some (21, true)⟩,
 ⟨some 29, .bin .sub 28 (.const (.int .i64 1)), some (21, true)⟩,
 ⟨some 30, .indexAddr 11 27 29, some (21, true)⟩,
 ⟨some 31, .load true 11 30 false, some (21, true)⟩,
 ⟨some 32, .callv 22 [26, 31], some (21, true)⟩,
 ⟨some 33, .bin .lss 32 (.const (.int .i64 0)), some (21, true)⟩,
 oo 34 (.pick 21 33 (.const (.bool false)))])
  (.cond 34 .skip (.exit 2)))
  (.seq (.block 3 (.reg [mv 37 0,
 mv 38 9,
 mv 39 0,
 mv 40 9,
 oo 41 (.bin .sub 40 (.const (.int .i64 1))),
 mv 42 0,
 mv 43 9,
 oo 44 (.bin .sub 43 (.const (.int .i64 1))),
 oo 45 (.indexAddr 11 42 44),
 lt 46 11 45,
 mv 47 0,
 mv 48 9,
 oo 49 (.indexAddr 11 47 48),
 lt 50 11 49,
 oo 51 (.indexAddr 11 37 38),
 vv (.store 11 51 46),
 oo 52 (.indexAddr 11 39 41),
 vv (.store 11 52 50)]))
  (.reg [mv 35 9,
 oo 36 (.bin .sub 35 (.const (.int .i64 1))),
 sg 9 36])))
def l126_1 : MCode :=
  (.seq (.seq (.reg [mv 12 8,
 mv 13 2,
 oo 14 (.bin .lss 12 13)])
  (.cond 14 .skip (.exit 0)))
  (.seq (.block 1 (.seq (.reg [mv 17 8,
 sg 9 17])
  (.block 2 (.loop [1, 3, 0, 2, 8, 9] l126_0))))
  (.reg [mv 15 8,
 oo 16 (.bin .add 15 (.const (.int .i64 1))),
 sg 8 16])))
def m126 : MFunc :=
 ⟨4, 53, [],
 (.seq (.reg [mv 10 1,
 oo 11 (.bin .add 10 (.const (.int .i64 1))),
 sg 8 11])
  (.block 0 (.loop [1, 3, 0, 8, 2] l126_1)))⟩
def m135 : MFunc :=
 ⟨1, 25, [.tmp 2],
 (.seq (.reg [sg 2 (.const (.int .i64 0))])
  (.seq (.seq (.reg [mv 3 0,
 oo 4 (.bin .geq 3 (.const (.int .u64 4294967296)))])
  (.cond 4 (.seq (.reg [mv 5 0,
 oo 6 (.bin .shr 5 (.const (.int .u64 32))),
 sg 0 6])
  (.reg [sg 2 (.const (.int .i64 32))])) .skip))
  (.seq (.seq (.reg [mv 7 0,
 oo 8 (.bin .geq 7 (.const (.int .u64 65536)))])
  (.cond 8 (.seq (.reg [mv 9 0,
 oo 10 (.bin .shr 9 (.const (.int .u64 16))),
 sg 0 10])
  (.reg [mv 11 2,
 oo 12 (.bin .add 11 (.const (.int .i64 16))),
 sg 2 12])) .skip))
  (.seq (.seq (.reg [mv 13 0,
 oo 14 (.bin .geq 13 (.const (.int .u64 256)))])
  (.cond 14 (.seq (.reg [mv 15 0,
 oo 16 (.bin .shr 15 (.const (.int .u64 8))),
 sg 0 16])
  (.reg [mv 17 2,
 oo 18 (.bin .add 17 (.const (.int .i64 8))),
 sg 2 18])) .skip))
  (.seq (.reg [mv 19 2,
 mv 20 0,
 oo 21 (.conv .u8 20),
 oo 22 (.indexStr (.const (.str [0, 1, 2, 2, 3, 3, 3, 3, 4, 4, 4, 4, 4, 4, 4, 4, 5, 5, 5, 5, 5, 5, 5, 5, 5, 5, 5, 5, 5, 5, 5, 5, 6, 6, 6, 6, 6, 6, 6, 6, 6, 6, 6, 6, 6, 6, 6, 6, 6, 6, 6, 6, 6, 6, 6, 6, 6, 6, 6, 6, 6, 6, 6, 6, 7, 7, 7, 7, 7, 7, 7, 7, 7, 7, 7, 7, 7, 7, 7, 7, 7, 7, 7, 7, 7, 7, 7, 7, 7, 7, 7, 7, 7, 7, 7, 7, 7, 7, 7, 7, 7, 7, 7, 7, 7, 7, 7, 7, 7, 7, 7, 7, 7, 7, 7, 7, 7, 7, 7, 7, 7, 7, 7, 7, 7, 7, 7, 7, 8, 8, 8, 8, 8, 8, 8, 8, 8, 8, 8, 8, 8, 8, 8, 8, 8, 8, 8, 8, 8, 8, 8, 8, 8, 8, 8, 8, 8, 8, 8, 8, 8, 8, 8, 8, 8, 8, 8, 8, 8, 8, 8, 8, 8, 8, 8, 8, 8, 8, 8, 8, 8, 8, 8, 8, 8, 8, 8, 8, 8, 8, 8, 8, 8, 8, 8, 8, 8, 8, 8, 8, 8, 8, 8, 8, 8, 8, 8, 8, 8, 8, 8, 8, 8, 8, 8, 8, 8, 8, 8, 8, 8, 8, 8, 8, 8, 8, 8, 8, 8, 8, 8, 8, 8, 8, 8, 8, 8, 8, 8, 8, 8, 8, 8, 8, 8, 8, 8, 8, 8, 8, 8, 8, 8, 8, 8, 8])) 21),
 oo 23 (.conv .i64 22),
 oo 24 (.bin .add 19 23),
 sg 2 24])
  .ret)))))⟩
def m136 : MFunc :=
 ⟨1, 6, [.tmp 2],
 (.seq (.reg [sg 2 (.const (.bool false))])
  (.seq (.reg [mv 3 0,
 mv 4 0,
 oo 5 (.bin .neq 3 4),
 sg 2 5])
  .ret))⟩
def m139 : MFunc :=
 ⟨3, 48, [.cell 6 true 3],
 (.seq (.reg [oo 4 (.box 1),
 oo 5 (.box 2),
 oo 6 (.alloc z0)])
  (.seq (.block 0 (.seq (.reg [fa 8 0 4,
 fa 9 0 8,
 ld 10 9,
 oo 11 (.bin .gtr 10 (.const (.int .i64 0))),
 mv 12 11,
 ⟨some 13, .fieldAddr 0 5, some (12, true)⟩,
 ⟨some 14, .fieldAddr 0 13, some (12, true)⟩,
 ⟨some 15, .load false 1 14 false, some (12, true)⟩,
 ⟨some 16, .bin .gtr 15 (.const (.int .i64 0)), some (12, true)⟩,
 oo 17 (.pick 12 16 (.const (.bool false))),
 sg 7 17])
  (.cond 7 (.seq (.reg [mv 18 0,
 ca 19 74 [18],
 vv (.store 3 6 19)])
  .ret) (.seq (.reg [fa 21 0 4,
 fa 22 0 21,
 ld 23 22,
 oo 24 (.bin .gtr 23 (.const (.int .i64 0))),
 sg 20 24])
  (.cond 20 (.seq (.reg [mv 25 0,
 fa 26 0 4,
 lt 27 2 26,
 fa 28 2 5,
 lt 29 2 28,
 ca 30 42 [25, 27, 29],
 vv (.store 3 6 30)])
  .ret) (.seq (.reg [fa 32 0 5,
 fa 33 0 32,
 ld 34 33,
 oo 35 (.bin .gtr 34 (.const (.int .i64 0))),
 sg 31 35])
  (.cond 31 (.seq (.reg [mv 36 0,
 fa 37 0 5,
 lt 38 2 37,
 fa 39 2 4,
 lt 40 2 39,
 ca 41 42 [36, 38, 40],
 vv (.store 3 6 41)])
  .ret) .skip)))))))
  (.seq (.reg [fa 42 2 4,
 lt 43 2 42,
 fa 44 2 5,
 lt 45 2 44,
 oo 46 (.eqA 34 false 43 45),
 ca 47 78 [46],
 vv (.store 3 6 47)])
  .ret)))⟩
def m141 : MFunc :=
 ⟨2, 17, [.cell 4 true 6, .tmp 5],
 (.seq (.reg [oo 3 (.box 1),
 oo 4 (.alloc z13),
 sg 5 (.const (.bool false))])
  (.seq (.reg [mv 7 0,
 oo 8 (.mkfunc 164 [3]),
 ca 9 163 [7, 8],
 sg 6 9])
  (.seq (.seq (.reg [mv 10 6,
 oo 11 (.bin .lss 10 (.const (.int .i64 0)))])
  (.cond 11 (.seq (.reg [oo 12 (.build [.str [], .int .i64 0, .str [], .nils 30, .nils 32, .bool false] []),
 vv (.store 6 4 12),
 sg 5 (.const (.bool false))])
  .ret) .skip))
  (.seq (.reg [mv 13 0,
 mv 14 6,
 oo 15 (.indexAddr 6 13 14),
 lt 16 6 15,
 vv (.store 6 4 16),
 sg 5 (.const (.bool true))])
  .ret))))⟩
def l142_0 : MCode :=
  (.seq (.seq (.reg [mv 18 9,
 mv 19 1,
 oo 20 (.bin .gtr 18 19),
 mv 21 20,
 ⟨some 22, .move 3 false, some (21, true)⟩,
 ⟨some 23, .move 0 false, some (21, true)⟩,
 ⟨some 24, .move 9 false, some (21, true)⟩,
 ⟨some 25, .indexAddr 2 23 24, some (21, true)⟩,
 ⟨some 26, .load true 2 25 false, some (21, true)⟩,
 ⟨some 27, .move 0 false, some (21, true)⟩,
 ⟨some 28, .move 9 false, some (21, true)⟩,
 ⟨some 29, .bin .sub 28 (.const (.int .i64 1)), some (21, true)⟩,
 ⟨some 30, .indexAddr 2 27 29, some (21, true)⟩,
 ⟨some 31, .load true 2 30 false, some (21, true)⟩,
 ⟨some 32, .callv 22 [26, 31], some (21, true)⟩,
 ⟨some 33, .bin .lss 32 (.const (.int .i64 0)), some (21, true)⟩,
 oo 34 (.pick 21 33 (.const (.bool false)))])
  (.cond 34 .skip (.exit 2)))
  (.seq (.block 3 (.reg [mv 37 0,
 mv 38 9,
 mv 39 0,
 mv 40 9,
 oo 41 (.bin .sub 40 (.const (.int .i64 1))),
 mv 42 0,
 mv 43 9,
 oo 44 (.bin .sub 43 (.const (.int .i64 1))),
 oo 45 (.indexAddr 2 42 44),
 lt 46 2 45,
 mv 47 0,
 mv 48 9,
 oo 49 (.indexAddr 2 47 48),
 lt 50 2 49,
 oo 51 (.indexAddr 2 37 38),
 vv (.store 2 51 46),
 oo 52 (.indexAddr 2 39 41),
 vv (.store 2 52 50)]))
  (.reg [mv 35 9,
 oo 36 (.bin .sub 35 (.const (.int .i64 1))),
 sg 9 36])))
def l142_1 : MCode :=
  (.seq (.seq (.reg [mv 12 8,
 mv 13 2,
 oo 14 (.bin .lss 12 13)])
  (.cond 14 .skip (.exit 0)))
  (.seq (.block 1 (.seq (.reg [mv 17 8,
 sg 9 17])
  (.block 2 (.loop [1, 3, 0, 2, 8, 9] l142_0))))
  (.reg [mv 15 8,
 oo 16 (.bin .add 15 (.const (.int .i64 1))),
 sg 8 16])))
def m142 : MFunc :=
 ⟨4, 53, [],
 (.seq (.reg [mv 10 1,
 oo 11 (.bin .add 10 (.const (.int .i64 1))),
 sg 8 11])
  (.block 0 (.loop [1, 3, 0, 8, 2] l142_1)))⟩
def m151 : MFunc :=
 ⟨2, 20, [.tmp 4],
 (.seq (.reg [sg 4 (.const (.int .i64 0))])
  (.seq (.seq (.reg [mv 5 0,
 nc 6 5,
 fa 7 2 6,
 ld 8 7,
 mv 9 1,
 mv 10 1,
 oo 11 (.un .neg 10),
 oo 12 (.max [9, 11]),
 oo 13 (.indexAddr 1 8 12),
 ld 14 13])
  (.block 0 (.seq (.reg [oo 16 (.bin .eql 14 (.const (.int .i64 0))),
 sg 15 16])
  (.cond 15 (.seq (.reg [sg 4 (.const (.int .i64 0))])
  .ret) (.seq (.reg [mv 18 1,
 oo 19 (.bin .eql 14 18),
 sg 17 19])
  (.cond 17 (.seq (.reg [sg 4 (.const (.int .i64 1))])
  .ret) .skip))))))
  (.seq (.reg [sg 4 (.const (.int .i64 (-1)))])
  .ret)))⟩
def l163_0 : MCode :=
  (.seq (.reg [oo 9 (.bin .lss 8 7)])
  (.seq (.cond 9 .skip (.exit 0))
  (.seq (.block 1 (.seq (.reg [mv 10 8,
 sg 5 10])
  (.seq (.reg [mv 11 1,
 mv 12 0,
 mv 13 5,
 oo 14 (.indexAddr 6 12 13),
 lt 15 6 14,
 oo 16 (.callv 11 [15])])
  (.cond 16 (.seq (.reg [mv 17 5,
 sg 4 17])
  .ret) .skip))))
  (.reg [oo 18 (.bin .add 8 (.const (.int .i64 1))),
 mv 8 18]))))
def m163 : MFunc :=
 ⟨2, 19, [.tmp 4],
 (.seq (.reg [sg 4 (.const (.int .i64 0))])
  (.seq (.seq (.reg [mv 6 0,
 ln 7 6,
 mv 8 (.const (.int .i64 0))])
  (.block 0 (.loop [1, 0, 8, 7, 4] l163_0)))
  (.seq (.reg [sg 4 (.const (.int .i64 (-1)))])
  .ret)))⟩
def m164 : MFunc :=
 ⟨2, 8, [.tmp 3],
 (.seq (.reg [oo 2 (.box 0),
 sg 3 (.const (.bool false))])
  (.seq (.reg [fa 4 0 2,
 ld 5 4,
 ld 6 1,
 oo 7 (.bin .eql 5 6),
 sg 3 7])
  .ret))⟩
end Go.Abs.W
