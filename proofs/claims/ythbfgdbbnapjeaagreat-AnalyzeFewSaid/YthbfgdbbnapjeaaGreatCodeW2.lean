/-
  A part of AnalyzeFew's proof.
-/
import Derived.Test.YthbfgdbbnapjeaaGreatCodeW0
set_option linter.unusedVariables false
set_option linter.unusedSimpArgs false
namespace Go.Abs.W
open Go Go.Abs
def m52 : MFunc :=
 ⟨1, 33, [.cell 2 true 3],
 (.seq (.reg [oo 1 (.box 0),
 oo 2 (.alloc z0)])
  (.seq (.seq (.reg [fa 3 0 1,
 ld 4 3])
  (.block 0 (.seq (.reg [oo 6 (.bin .eql 4 (.const (.int .i64 4))),
 sg 5 6])
  (.cond 5 (.seq (.reg [fa 7 2 1,
 ld 8 7,
 ln 9 8,
 oo 10 (.bin .eql 9 (.const (.int .i64 1)))])
  (.cond 10 (.seq (.reg [fa 11 2 1,
 ld 12 11,
 oo 13 (.indexAddr 3 12 (.const (.int .i64 0))),
 lt 14 3 13,
 ca 15 52 [14],
 ca 16 83 [15],
 vv (.store 3 2 16)])
  .ret) .skip)) (.seq (.reg [oo 18 (.bin .eql 4 (.const (.int .i64 5))),
 sg 17 18])
  (.cond 17 (.seq (.reg [lt 19 3 1,
 ca 20 84 [19, (.const (.int .i64 1)), (.const (.int .i64 2))],
 vv (.store 3 2 20)])
  .ret) (.seq (.reg [oo 22 (.bin .eql 4 (.const (.int .i64 6))),
 sg 21 22])
  (.cond 21 (.seq (.reg [lt 23 3 1,
 ca 24 84 [23, (.const (.int .i64 2)), (.const (.int .i64 1))],
 vv (.store 3 2 24)])
  .ret) (.seq (.reg [oo 26 (.bin .eql 4 (.const (.int .i64 3))),
 sg 25 26])
  (.cond 25 (.seq (.reg [fa 27 1 1,
 ld 28 27,
 oo 29 (.build z10 [(0, 1, (.const (.int .i64 3))), (1, 1, 28)]),
 vv (.store 3 2 29)])
  .ret) .skip))))))))))
  (.seq (.reg [fa 30 0 1,
 ld 31 30,
 oo 32 (.build z10 [(0, 1, 31)]),
 vv (.store 3 2 32)])
  .ret)))⟩
def m53 : MFunc :=
 ⟨2, 14, [],
 (.reg [mv 4 0,
 mv 5 0,
 nc 6 5,
 fa 7 0 6,
 oo 8 (.load false 1 7 true),
 mv 9 1,
 oo 10 (.buildSlice 133 1 1 [.sl [] (some 3)] [(0, 9)]),
 oo 11 (.append 133 1 24 false 8 10),
 nc 12 4,
 fa 13 0 12,
 vv (.store 1 13 11)])⟩
def l54_0 : MCode :=
  (.seq (.reg [oo 35 (.bin .lss 34 33)])
  (.seq (.cond 35 .skip (.exit 1))
  (.seq (.block 2 (.seq (.reg [oo 36 (.indexAddr 3 32 34),
 lt 37 3 36,
 oo 8 (.alloc z0),
 vv (.store 3 8 37)])
  (.reg [oo 38 (.move 6 true),
 mv 39 0,
 lt 40 3 8,
 ca 41 54 [39, 40],
 oo 42 (.buildSlice 3 1 1 [.int .i64 0] [(0, 41)]),
 oo 43 (.append 3 1 8 false 38 42),
 sg 6 43])))
  (.reg [oo 44 (.bin .add 34 (.const (.int .i64 1))),
 mv 34 44]))))
def l54_1 : MCode :=
  (.seq (.reg [oo 63 (.bin .lss 62 61)])
  (.seq (.cond 63 .skip (.exit 3))
  (.seq (.block 4 (.seq (.reg [oo 64 (.indexAddr 1 60 62),
 ld 65 64,
 sg 12 65])
  (.seq (.reg [mv 66 0,
 mv 67 5,
 oo 68 (.un .neg 67),
 mv 69 9,
 oo 70 (.bin .mul 68 69),
 mv 71 5,
 mv 72 12,
 oo 73 (.bin .mul 71 72),
 oo 74 (.buildSlice 3 1 2 [.int .i64 0] [(0, 70), (1, 73)]),
 ca 75 53 [66, 74]])
  (.reg [oo 76 (.move 10 true),
 mv 77 5,
 oo 78 (.un .neg 77),
 mv 79 12,
 oo 80 (.bin .mul 78 79),
 oo 81 (.buildSlice 3 1 1 [.int .i64 0] [(0, 80)]),
 oo 82 (.append 3 1 8 false 76 81),
 sg 10 82]))))
  (.reg [oo 83 (.bin .add 62 (.const (.int .i64 1))),
 mv 62 83]))))
def m54 : MFunc :=
 ⟨2, 88, [.tmp 4],
 (.seq (.reg [oo 3 (.box 1),
 sg 4 (.const (.int .i64 0))])
  (.seq (.seq (.reg [fa 13 0 3,
 ld 14 13])
  (.block 0 (.seq (.reg [oo 16 (.bin .eql 14 (.const (.int .i64 3))),
 sg 15 16])
  (.cond 15 (.seq (.reg [fa 17 1 3,
 ld 18 17,
 sg 4 18])
  .ret) (.seq (.reg [oo 20 (.bin .eql 14 (.const (.int .i64 4))),
 sg 19 20])
  (.cond 19 (.seq (.reg [mv 21 0,
 fa 22 2 3,
 ld 23 22,
 oo 24 (.indexAddr 3 23 (.const (.int .i64 0))),
 lt 25 3 24,
 ca 26 54 [21, 25],
 oo 27 (.un .neg 26),
 sg 4 27])
  .ret) .skip))))))
  (.seq (.reg [sg 5 (.const (.int .i64 1))])
  (.seq (.seq (.reg [fa 28 0 3,
 ld 29 28,
 oo 30 (.bin .eql 29 (.const (.int .i64 6)))])
  (.cond 30 (.reg [sg 5 (.const (.int .i64 (-1)))]) .skip))
  (.seq (.reg [sg 6 (.const (.sl [] (some 3)))])
  (.seq (.seq (.reg [fa 31 2 3,
 ld 32 31,
 ln 33 32,
 mv 34 (.const (.int .i64 0))])
  (.block 1 (.loop [0, 5, 6, 32, 34, 33, 4] l54_0)))
  (.seq (.reg [mv 45 0,
 nc 46 45,
 fa 47 1 46,
 ld 48 47,
 oo 49 (.bin .add 48 (.const (.int .i64 1))),
 nc 50 45,
 fa 51 1 50,
 vv (.store 1 51 49)])
  (.seq (.reg [mv 52 0,
 nc 53 52,
 fa 54 1 53,
 ld 55 54,
 sg 9 55])
  (.seq (.reg [mv 56 5,
 mv 57 9,
 oo 58 (.bin .mul 56 57),
 oo 59 (.buildSlice 3 1 1 [.int .i64 0] [(0, 58)]),
 sg 10 59])
  (.seq (.seq (.reg [mv 60 6,
 ln 61 60,
 mv 62 (.const (.int .i64 0))])
  (.block 3 (.loop [9, 10, 0, 60, 5, 62, 61, 4] l54_1)))
  (.seq (.reg [mv 84 0,
 mv 85 10,
 ca 86 53 [84, 85]])
  (.seq (.reg [mv 87 9,
 sg 4 87])
  .ret))))))))))))⟩
def m55 : MFunc :=
 ⟨2, 17, [.tmp 3],
 (.seq (.reg [sg 3 (.const (.bool false))])
  (.seq (.reg [mv 4 0,
 oo 5 (.bin .eql 4 (.const (.int .i64 0))),
 mv 6 5,
 ⟨some 7, .move 0 false, some (6, false)⟩,
 ⟨some 8, .load false 1 1 false, some (6, false)⟩,
 ⟨some 9, .bin .gtr 7 8, some (6, false)⟩,
 oo 10 (.pick 6 (.const (.bool true)) 9),
 mv 11 10,
 ⟨some 12, .move 0 false, some (11, false)⟩,
 ⟨some 13, .load false 1 1 false, some (11, false)⟩,
 ⟨some 14, .un .neg 13, some (11, false)⟩,
 ⟨some 15, .bin .lss 12 14, some (11, false)⟩,
 oo 16 (.pick 11 (.const (.bool true)) 15),
 sg 3 16])
  .ret))⟩
def m56 : MFunc :=
 ⟨2, 9, [.tmp 4],
 (.seq (.reg [sg 4 (.const (.bool false))])
  (.seq (.reg [mv 5 0,
 mv 6 1,
 ca 7 85 [5, 6],
 oo 8 (.bin .geq 7 (.const (.int .i64 0))),
 sg 4 8])
  .ret))⟩
def m57 : MFunc :=
 ⟨2, 7, [.tmp 3],
 (.seq (.reg [sg 3 (.const (.bool false))])
  (.seq (.reg [mv 4 0,
 ld 5 1,
 ca 6 58 [4, 5],
 sg 3 6])
  .ret))⟩
def m58 : MFunc :=
 ⟨2, 9, [.tmp 4],
 (.seq (.reg [sg 4 (.const (.bool false))])
  (.seq (.reg [mv 5 0,
 mv 6 1,
 ca 7 86 [5, 6],
 oo 8 (.bin .geq 7 (.const (.int .i64 0))),
 sg 4 8])
  .ret))⟩
def m59 : MFunc :=
 ⟨1, 119, [.tmp 2, .tmp 3],
 (.seq (.reg [oo 1 (.box 0),
 sg 2 (.const (.int .i64 0)),
 sg 3 (.const (.int .i64 0))])
  (.seq (.reg [ld 12 1,
 nc 13 12,
 fa 14 3 13,
 ld 15 14,
 ln 16 15,
 oo 4 (.alloc [.int .i64 0]),
 vv (.store 1 4 16)])
  (.seq (.seq (.reg [ld 17 1,
 ca 18 87 [17],
 sg 5 18])
  (.seq (.reg [mv 19 5,
 oo 20 (.bin .geq 19 (.const (.int .i64 0)))])
  (.cond 20 (.seq (.reg [ld 21 1,
 mv 22 5,
 ca 23 88 [21, 22],
 sg 6 23])
  (.seq (.reg [ld 24 1,
 ld 25 4,
 ca 26 89 [24, 25]])
  (.seq (.reg [mv 27 6,
 sg 2 (.const (.int .i64 2)),
 sg 3 27])
  .ret))) .skip)))
  (.seq (.reg [ld 28 1,
 nc 29 28,
 fa 30 2 29,
 ld 31 30,
 oo 32 (.slice 1 31 (some (.const (.int .i64 1))) none),
 ca 33 90 [32, (.const (.int .i64 0))],
 oo 34 (.bin .add 33 (.const (.int .i64 1))),
 oo 7 (.alloc [.int .i64 0]),
 vv (.store 1 7 34)])
  (.seq (.seq (.reg [ld 35 7,
 oo 36 (.bin .eql 35 (.const (.int .i64 0)))])
  (.cond 36 (.seq (.reg [sg 2 (.const (.int .i64 1)),
 sg 3 (.const (.int .i64 0))])
  .ret) .skip))
  (.seq (.reg [oo 37 (.mkfunc 91 [1, 7, 4]),
 vv (.defer 37 [])])
  (.seq (.reg [ld 38 1,
 nc 39 38,
 fa 40 6 39,
 ld 41 40,
 oo 42 (.bin .add 41 (.const (.int .i64 1))),
 nc 43 38,
 fa 44 6 43,
 vv (.store 1 44 42)])
  (.seq (.seq (.reg [ld 45 1,
 nc 46 45,
 fa 47 5 46,
 ld 48 47,
 oo 49 (.bin .sub 48 (.const (.int .i64 1))),
 nc 50 45,
 fa 51 5 50,
 vv (.store 1 51 49)])
  (.seq (.reg [ld 52 1,
 nc 53 52,
 fa 54 5 53,
 ld 55 54,
 oo 56 (.bin .lss 55 (.const (.int .i64 0)))])
  (.cond 56 (.seq (.reg [sg 2 (.const (.int .i64 3)),
 sg 3 (.const (.int .i64 0))])
  .ret) .skip)))
  (.seq (.reg [ld 57 1,
 nc 58 57,
 fa 59 3 58,
 ld 60 59,
 ln 61 60,
 sg 8 61])
  (.seq (.reg [ld 62 1,
 ld 63 7,
 ca 64 92 [62, 63, (.const (.int .i64 (-1)))]])
  (.seq (.reg [ld 66 1,
 ca 67 59 [66],
 mv 65 67,
 oo 68 (.extract 65 0),
 oo 69 (.extract 65 1),
 sg 9 68,
 sg 10 69])
  (.seq (.seq (.reg [mv 70 9,
 oo 71 (.bin .neq 70 (.const (.int .i64 2)))])
  (.cond 71 (.seq (.reg [mv 72 9,
 sg 2 72,
 sg 3 (.const (.int .i64 0))])
  .ret) .skip))
  (.seq (.reg [ld 73 1,
 mv 74 8,
 ca 75 89 [73, 74]])
  (.seq (.seq (.reg [ld 76 1,
 nc 77 76,
 fa 78 0 77,
 ld 79 78,
 mv 80 10,
 oo 81 (.indexAddr 1 79 80),
 ld 82 81,
 ld 83 7,
 oo 84 (.un .neg 83),
 ca 85 93 [82, 84],
 oo 86 (.un .not 85)])
  (.cond 86 (.seq (.reg [mv 87 10,
 sg 2 (.const (.int .i64 2)),
 sg 3 87])
  .ret) .skip))
  (.seq (.reg [ld 88 1,
 ld 89 7,
 oo 90 (.un .neg 89),
 ca 91 92 [88, 90, (.const (.int .i64 (-1)))]])
  (.seq (.reg [ld 93 1,
 ca 94 59 [93],
 mv 92 94,
 oo 95 (.extract 92 0),
 oo 96 (.extract 92 1),
 sg 9 95,
 sg 11 96])
  (.seq (.seq (.reg [mv 97 9,
 oo 98 (.bin .neq 97 (.const (.int .i64 2)))])
  (.cond 98 (.seq (.reg [mv 99 9,
 sg 2 99,
 sg 3 (.const (.int .i64 0))])
  .ret) .skip))
  (.seq (.reg [ld 100 1,
 mv 101 8,
 ca 102 89 [100, 101]])
  (.seq (.seq (.reg [ld 103 1,
 nc 104 103,
 fa 105 0 104,
 ld 106 105,
 mv 107 11,
 oo 108 (.indexAddr 1 106 107),
 ld 109 108,
 ld 110 7,
 ca 111 93 [109, 110],
 oo 112 (.un .not 111)])
  (.cond 112 (.seq (.reg [mv 113 11,
 sg 2 (.const (.int .i64 2)),
 sg 3 113])
  .ret) .skip))
  (.seq (.reg [ld 114 1,
 mv 115 11,
 mv 116 10,
 ld 117 7,
 ca 118 94 [114, 115, 116, 117],
 sg 2 (.const (.int .i64 2)),
 sg 3 118])
  .ret))))))))))))))))))))⟩
def l60_0 : MCode :=
  (.seq (.reg [oo 9 (.bin .lss 8 7)])
  (.seq (.cond 9 .skip (.exit 0))
  (.seq (.block 1 (.seq (.reg [oo 10 (.indexAddr 7 6 8),
 lt 11 7 10,
 oo 5 (.alloc z7),
 vv (.store 7 5 11)])
  (.reg [mv 12 3,
 fa 13 1 5,
 fa 14 1 13,
 ld 15 14,
 oo 16 (.len 1 15),
 fa 17 3 5,
 fa 18 1 17,
 ld 19 18,
 oo 20 (.len 1 19),
 fa 21 6 5,
 ld 22 21,
 oo 23 (.len 1 22),
 oo 24 (.max [12, 16, 20, 23]),
 sg 3 24])))
  (.reg [oo 25 (.bin .add 8 (.const (.int .i64 1))),
 mv 8 25]))))
def m60 : MFunc :=
 ⟨1, 29, [.tmp 2],
 (.seq (.reg [sg 2 (.const (.str []))])
  (.seq (.reg [sg 3 (.const (.int .i64 0))])
  (.seq (.seq (.reg [mv 6 0,
 ln 7 6,
 mv 8 (.const (.int .i64 0))])
  (.block 0 (.loop [3, 6, 8, 7, 2] l60_0)))
  (.seq (.reg [mv 26 3,
 oo 27 (.bin .add 26 (.const (.int .i64 1))),
 oo 28 (.call 95 [(.const (.str [120])), 27]),
 sg 2 28])
  .ret))))⟩
def o61_0 : List MOper :=
 [mv 12 1,
 mv 13 0,
 nc 14 13,
 fa 15 3 14,
 ld 16 15,
 mv 17 0,
 nc 18 17,
 fa 19 4 18,
 ld 20 19,
 oo 21 (.call 95 [(.const (.str [120])), 20]),
 oo 22 (.bin .add 16 21),
 oo 23 (.build [.str [], .str []] [(0, 1, 12), (1, 1, 22)]),
 vv (.store 2 4 23)]
def o61_1 : List MOper :=
 [mv 12 1,
 mv 13 0,
 nc 14 13,
 fa 15 3 14,
 oo 16 (.loadL false 1 15),
 mv 17 0,
 nc 18 17,
 fa 19 4 18,
 oo 20 (.loadL false 1 19),
 oo 21 (.callS 95 [(.const (.str [120])), 20]),
 oo 22 (.bin .add 16 21),
 oo 23 (.build [.str [], .str []] [(0, 1, 12), (1, 1, 22)]),
 vv (.store 2 4 23)]
def m61 : MFunc :=
 ⟨2, 24, [.cell 4 true 2],
 (.seq (.reg [oo 4 (.alloc [.str [], .str []])])
  (.seq (.reg [mv 5 0,
 nc 6 5,
 fa 7 4 6,
 ld 8 7,
 oo 9 (.bin .add 8 (.const (.int .i64 1))),
 nc 10 5,
 fa 11 4 10,
 vv (.store 1 11 9)])
  (.seq (.regionQ [(false, o61_1), (true, o61_0)] o61_0 [[], [], [1], [2], [3], [], [5], [6], [7], [8], [4, 9], [0, 10], [11, 9, 0, 1, 2, 3, 4, 5, 6, 7, 8, 9, 10, 11]])
  .ret)))⟩
def m62 : MFunc :=
 ⟨2, 19, [.cell 4 true 5, .tmp 5],
 (.seq (.reg [oo 2 (.box 0),
 oo 3 (.box 1),
 oo 4 (.alloc z11),
 sg 5 (.const (.bool false))])
  (.seq (.reg [fa 7 1 2,
 ld 8 7,
 oo 9 (.mkfunc 97 [3]),
 ca 10 96 [8, 9],
 sg 6 10])
  (.seq (.seq (.reg [mv 11 6,
 oo 12 (.bin .lss 11 (.const (.int .i64 0)))])
  (.cond 12 (.seq (.reg [oo 13 (.build z22 []),
 vv (.store 5 4 13),
 sg 5 (.const (.bool false))])
  .ret) .skip))
  (.seq (.reg [fa 14 1 2,
 ld 15 14,
 mv 16 6,
 oo 17 (.indexAddr 5 15 16),
 lt 18 5 17,
 vv (.store 5 4 18),
 sg 5 (.const (.bool true))])
  .ret))))⟩
def m63 : MFunc :=
 ⟨1, 26, [.cell 2 true 8],
 (.seq (.reg [oo 1 (.box 0),
 oo 2 (.alloc z5)])
  (.seq (.seq (.reg [fa 3 0 1,
 ld 4 3])
  (.block 0 (.seq (.reg [oo 6 (.bin .eql 4 (.const (.int .i64 4))),
 sg 5 6])
  (.cond 5 (.seq (.reg [oo 7 (.build z3 [(0, 1, (.const (.int .i64 2)))]),
 vv (.store 8 2 7)])
  .ret) (.seq (.reg [oo 9 (.bin .eql 4 (.const (.int .i64 5))),
 sg 8 9])
  (.cond 8 (.seq (.reg [oo 10 (.build z3 [(0, 1, (.const (.int .i64 3)))]),
 vv (.store 8 2 10)])
  .ret) (.seq (.reg [oo 12 (.bin .eql 4 (.const (.int .i64 6))),
 sg 11 12])
  (.cond 11 (.seq (.reg [fa 13 1 1,
 ld 14 13,
 oo 15 (.build [.str [], .str []] [(0, 1, 14)]),
 oo 16 (.build z3 [(0, 1, (.const (.int .i64 4))), (4, 2, 15)]),
 vv (.store 8 2 16)])
  .ret) (.seq (.reg [oo 18 (.bin .eql 4 (.const (.int .i64 7))),
 sg 17 18])
  (.cond 17 (.seq (.reg [oo 19 (.build z3 [(0, 1, (.const (.int .i64 5)))]),
 vv (.store 8 2 19)])
  .ret) (.seq (.reg [oo 21 (.bin .eql 4 (.const (.int .i64 8))),
 sg 20 21])
  (.cond 20 (.seq (.reg [fa 22 3 1,
 ld 23 22,
 ca 24 98 [23],
 vv (.store 8 2 24)])
  .ret) .skip))))))))))))
  (.seq (.reg [oo 25 (.build z3 [(0, 1, (.const (.int .i64 1)))]),
 vv (.store 8 2 25)])
  .ret)))⟩
def m64 : MFunc :=
 ⟨2, 14, [.tmp 3],
 (.seq (.reg [sg 3 (.const (.bool false))])
  (.seq (.reg [mv 4 0,
 ld 5 1,
 ln 6 5,
 oo 7 (.bin .lss 4 6),
 mv 8 7,
 ⟨some 9, .load false 1 1 false, some (8, true)⟩,
 ⟨some 10, .move 0 false, some (8, true)⟩,
 ⟨some 11, .indexAddr 1 9 10, some (8, true)⟩,
 ⟨some 12, .load false 1 11 false, some (8, true)⟩,
 oo 13 (.pick 8 12 (.const (.bool false))),
 sg 3 13])
  .ret))⟩
def m65 : MFunc :=
 ⟨2, 41, [.tmp 4],
 (.seq (.reg [oo 3 (.box 1),
 sg 4 (.const .nilp)])
  (.seq (.seq (.reg [mv 7 0,
 nc 8 7,
 fa 9 2 8,
 ld 10 9,
 lt 11 2 3,
 oo 12 (.lookup 37 false [.nilp] 10 11 false),
 oo 13 (.eqn false 12)])
  (.cond 13 (.seq (.reg [mv 15 0,
 nc 16 15,
 fa 17 0 16,
 oo 18 (.loadA 5 true 2 17),
 fa 19 0 3,
 oo 20 (.loadA 5 false 1 19),
 oo 21 (.callS 99 [18, 20]),
 mv 14 21,
 oo 22 (.extract 14 0),
 oo 23 (.extract 14 1),
 oo 5 (.allocR z19),
 vv (.storeR 3 5 22),
 sg 6 23])
  (.regionA [mv 24 0,
 nc 25 24,
 fa 26 2 25,
 ld 27 26,
 lt 28 2 3,
 lt 29 2 3,
 fa 30 2 5,
 ld 31 30,
 ca 32 98 [31],
 oo 33 (.build [.str [], .str [], .nils 43, .int .i64 0, .bool false, .int .i64 0, .str [], .str [], .str [], .nils 46, .nils 9] [(0, 2, 29), (3, 8, 32)]),
 oo 34 (.box 33),
 vv (.mapUpdateP 37 27 28 34)] [[], [0], [1], [2], [], [], [], [6], [7], [5, 8], [9], [3, 4, 10, 8, 0, 1, 2, 3, 4, 5, 6, 7, 8, 9, 10]])) .skip))
  (.seq (.reg [mv 35 0,
 nc 36 35,
 fa 37 2 36,
 ld 38 37,
 lt 39 2 3,
 oo 40 (.lookup 37 false [.nilp] 38 39 false),
 sg 4 40])
  .ret)))⟩
def l67_0 : MCode :=
  (.seq (.reg [oo 25 (.bin .lss 24 23)])
  (.seq (.cond 25 .skip (.exit 2))
  (.seq (.block 3 (.seq (.reg [oo 26 (.indexAddr 1 22 24),
 ld 27 26,
 sg 8 27])
  (.reg [fa 28 2 6,
 oo 29 (.load false 1 28 true),
 mv 30 8,
 oo 31 (.build [.str [], .str []] [(0, 1, (.const (.str [65, 99, 116, 105, 111, 110]))), (1, 1, 30)]),
 oo 32 (.buildSlice 43 2 1 [.str [], .str []] [(0, 31)]),
 oo 33 (.append 43 2 32 false 29 32),
 fa 34 2 6,
 vv (.store 1 34 33)])))
  (.reg [oo 35 (.bin .add 24 (.const (.int .i64 1))),
 mv 24 35]))))
def l67_1 : MCode :=
  (.seq (.reg [oo 13 (.bin .lss 12 11)])
  (.seq (.cond 13 .skip (.exit 0))
  (.seq (.block 1 (.seq (.reg [oo 14 (.indexAddr 5 10 12),
 lt 15 5 14,
 oo 5 (.alloc z11),
 vv (.store 5 5 15)])
  (.seq (.reg [fa 16 0 5,
 ld 17 16,
 oo 18 (.build [.str [], .str []] [(0, 1, (.const (.str [65, 99, 116, 105, 111, 110]))), (1, 1, 17)]),
 oo 19 (.build z3 [(0, 1, (.const (.int .i64 6)))]),
 oo 20 (.build [.str [], .str [], .nils 43, .int .i64 0, .bool false, .int .i64 0, .str [], .str [], .str [], .nils 46, .nils 9] [(0, 2, 18), (3, 8, 19)]),
 oo 6 (.alloc z15),
 vv (.store 11 6 20)])
  (.seq (.seq (.reg [fa 21 1 5,
 ld 22 21,
 ln 23 22,
 mv 24 (.const (.int .i64 0))])
  (.block 2 (.loop [10, 11, 12, 6, 3, 22, 24, 23, 2] l67_0)))
  (.reg [oo 36 (.move 3 true),
 lt 37 11 6,
 oo 38 (.buildSlice 157 11 1 z15 [(0, 37)]),
 oo 39 (.append 157 11 176 true 36 38),
 sg 3 39])))))
  (.reg [oo 40 (.bin .add 12 (.const (.int .i64 1))),
 mv 12 40]))))
def m67 : MFunc :=
 ⟨1, 42, [.tmp 2],
 (.seq (.reg [oo 1 (.box 0),
 sg 2 (.const (.sl [] (some 157)))])
  (.seq (.reg [sg 3 (.const (.sl [] (some 157)))])
  (.seq (.seq (.reg [fa 9 1 1,
 ld 10 9,
 ln 11 10,
 mv 12 (.const (.int .i64 0))])
  (.block 0 (.loop [3, 10, 12, 11, 2] l67_1)))
  (.seq (.reg [mv 41 3,
 sg 2 41])
  .ret))))⟩
def m68 : MFunc :=
 ⟨2, 14, [],
 (.seq (.reg [mv 5 0,
 ln 6 5,
 sg 4 6])
  (.reg [mv 7 0,
 mv 8 4,
 mv 9 4,
 oo 10 (.conv .u64 9),
 ca 11 102 [10],
 mv 12 1,
 ca 13 101 [7, (.const (.int .i64 0)), 8, 11, 12]]))⟩
def m69 : MFunc :=
 ⟨2, 10, [.tmp 4],
 (.seq (.reg [oo 2 (.box 0),
 oo 3 (.box 1),
 sg 4 (.const (.int .i64 0))])
  (.seq (.reg [fa 5 0 2,
 lt 6 2 5,
 fa 7 0 3,
 lt 8 2 7,
 ca 9 70 [6, 8],
 sg 4 9])
  .ret))⟩
def o70_0 : List MOper :=
 [fa 5 0 2,
 ld 6 5,
 fa 7 0 3,
 ld 8 7,
 ca 9 104 [6, 8],
 fa 10 1 2,
 ld 11 10,
 fa 12 1 3,
 ld 13 12,
 ca 14 104 [11, 13],
 oo 15 (.buildSlice 3 1 2 [.int .i64 0] [(0, 9), (1, 14)]),
 ca 16 103 [15],
 sg 4 16]
def o70_1 : List MOper :=
 [fa 5 0 2,
 oo 6 (.loadL false 1 5),
 fa 7 0 3,
 oo 8 (.loadL false 1 7),
 oo 9 (.callS 104 [6, 8]),
 fa 10 1 2,
 oo 11 (.loadL false 1 10),
 fa 12 1 3,
 oo 13 (.loadL false 1 12),
 oo 14 (.callS 104 [11, 13]),
 oo 15 (.buildSlice 3 1 2 [.int .i64 0] [(0, 9), (1, 14)]),
 oo 16 (.callS 103 [15]),
 sg 4 16]
def m70 : MFunc :=
 ⟨2, 17, [.tmp 4],
 (.seq (.reg [oo 2 (.box 0),
 oo 3 (.box 1),
 sg 4 (.const (.int .i64 0))])
  (.seq (.regionQ [(false, o70_1), (true, o70_0)] o70_0 [[], [0], [], [2], [1, 3], [], [5], [], [7], [6, 8, 4], [4, 9], [10, 9], [11, 11, 0, 1, 2, 3, 4, 5, 6, 7, 8, 9, 10, 11]])
  .ret))⟩
def o71_0 : List MOper :=
 [fa 47 1 5,
 ld 48 47,
 fa 49 1 4,
 ld 50 49,
 oo 51 (.bin .eql 48 50),
 ca 52 78 [51],
 mv 53 0,
 lt 54 2 5,
 fa 55 2 4,
 lt 56 2 55,
 ca 57 43 [53, 54, 56],
 oo 58 (.buildSlice 69 3 2 z0 [(0, 52), (1, 57)]),
 ca 59 48 [58],
 vv (.store 3 6 59)]
def o71_1 : List MOper :=
 [fa 47 1 5,
 oo 48 (.loadL false 1 47),
 fa 49 1 4,
 oo 50 (.loadL false 1 49),
 oo 51 (.bin .eql 48 50),
 oo 52 (.callS 78 [51]),
 mv 53 0,
 oo 54 (.loadL true 2 5),
 fa 55 2 4,
 oo 56 (.loadL true 2 55),
 oo 57 (.callS 43 [53, 54, 56]),
 oo 58 (.buildSlice 69 3 2 z0 [(0, 52), (1, 57)]),
 oo 59 (.callS 48 [58]),
 vv (.store 3 6 59)]
def m71 : MFunc :=
 ⟨3, 62, [.cell 6 true 3],
 (.seq (.reg [oo 4 (.box 1),
 oo 5 (.box 2),
 oo 6 (.alloc z0)])
  (.seq (.block 0 (.seq (.reg [fa 8 4 4,
 ld 9 8,
 sg 7 9])
  (.cond 7 .skip (.seq (.reg [fa 11 0 4,
 ld 12 11,
 oo 13 (.bin .eql 12 (.const (.int .i64 0))),
 sg 10 13])
  (.cond 10 (.seq (.reg [ca 14 78 [(.const (.bool true))],
 vv (.store 3 6 14)])
  .ret) (.seq (.reg [fa 16 0 4,
 ld 17 16,
 oo 18 (.bin .eql 17 (.const (.int .i64 1))),
 sg 15 18])
  (.cond 15 (.seq (.reg [mv 19 0,
 lt 20 2 5,
 fa 21 2 4,
 lt 22 2 21,
 ca 23 42 [19, 20, 22],
 vv (.store 3 6 23)])
  .ret) (.seq (.reg [fa 25 0 4,
 ld 26 25,
 oo 27 (.bin .eql 26 (.const (.int .i64 2))),
 sg 24 27])
  (.cond 24 (.seq (.reg [mv 28 0,
 lt 29 2 5,
 fa 30 2 4,
 lt 31 2 30,
 ca 32 43 [28, 29, 31],
 vv (.store 3 6 32)])
  .ret) (.seq (.reg [fa 34 0 4,
 ld 35 34,
 oo 36 (.bin .eql 35 (.const (.int .i64 3))),
 sg 33 36])
  (.cond 33 (.seq (.reg [fa 37 1 5,
 ld 38 37,
 fa 39 1 4,
 ld 40 39,
 oo 41 (.bin .eql 38 40),
 ca 42 78 [41],
 vv (.store 3 6 42)])
  .ret) (.seq (.reg [fa 44 0 4,
 ld 45 44,
 oo 46 (.bin .eql 45 (.const (.int .i64 4))),
 sg 43 46])
  (.cond 43 (.seq (.regionQ [(false, o71_1), (true, o71_0)] o71_0 [[], [0], [], [2], [1, 3], [4], [], [], [], [8], [6, 7, 9, 5], [5, 10], [11, 10], [12, 12, 0, 1, 2, 3, 4, 5, 6, 7, 8, 9, 10, 11, 12]])
  .ret) .skip)))))))))))))
  (.seq (.reg [mv 60 0,
 ca 61 74 [60],
 vv (.store 3 6 61)])
  .ret)))⟩
def l72_0 : MCode :=
  (.seq (.reg [oo 49 (.bin .lss 48 47)])
  (.seq (.cond 49 .skip (.exit 1))
  (.seq (.block 2 (.seq (.reg [oo 50 (.indexAddr 2 46 48),
 lt 51 2 50,
 oo 8 (.alloc [.str [], .str []]),
 vv (.store 2 8 51)])
  (.reg [oo 52 (.move 6 true),
 mv 53 0,
 lt 54 2 5,
 lt 55 2 8,
 ca 56 44 [53, 54, 55],
 oo 57 (.buildSlice 69 3 1 z0 [(0, 56)]),
 oo 58 (.append 69 3 40 false 52 57),
 sg 6 58])))
  (.reg [oo 59 (.bin .add 48 (.const (.int .i64 1))),
 mv 48 59]))))
def m72 : MFunc :=
 ⟨2, 64, [.cell 4 true 3],
 (.seq (.reg [oo 3 (.box 1),
 oo 4 (.alloc z0)])
  (.seq (.reg [mv 9 0,
 nc 10 9,
 fa 11 2 10,
 fa 12 1 11,
 ld 13 12,
 oo 14 (.build [.str [], .str []] [(0, 1, (.const (.str [65, 99, 116, 105, 111, 110]))), (1, 1, 13)]),
 oo 5 (.alloc [.str [], .str []]),
 vv (.store 2 5 14)])
  (.seq (.block 0 (.seq (.reg [fa 16 4 3,
 ld 17 16,
 sg 15 17])
  (.cond 15 .skip (.seq (.reg [fa 19 0 3,
 ld 20 19,
 oo 21 (.bin .eql 20 (.const (.int .i64 0))),
 sg 18 21])
  (.cond 18 (.seq (.reg [ca 22 78 [(.const (.bool true))],
 vv (.store 3 4 22)])
  .ret) (.seq (.reg [fa 24 0 3,
 ld 25 24,
 oo 26 (.bin .eql 25 (.const (.int .i64 1))),
 sg 23 26])
  (.cond 23 (.seq (.reg [lt 27 2 5,
 fa 28 2 3,
 lt 29 2 28,
 oo 30 (.eqA 34 false 27 29),
 ca 31 78 [30],
 vv (.store 3 4 31)])
  .ret) (.seq (.reg [fa 33 0 3,
 ld 34 33,
 oo 35 (.bin .eql 34 (.const (.int .i64 2))),
 sg 32 35])
  (.cond 32 (.seq (.reg [mv 36 0,
 lt 37 2 5,
 fa 38 2 3,
 lt 39 2 38,
 ca 40 44 [36, 37, 39],
 vv (.store 3 4 40)])
  .ret) (.seq (.reg [fa 42 0 3,
 ld 43 42,
 oo 44 (.bin .eql 43 (.const (.int .i64 5))),
 sg 41 44])
  (.cond 41 (.seq (.reg [sg 6 (.const (.sl [] (some 69)))])
  (.seq (.seq (.reg [fa 45 5 3,
 ld 46 45,
 ln 47 46,
 mv 48 (.const (.int .i64 0))])
  (.block 1 (.loop [6, 46, 0, 5, 48, 47, 4] l72_0)))
  (.seq (.reg [mv 60 6,
 ca 61 82 [60],
 vv (.store 3 4 61)])
  .ret))) .skip)))))))))))
  (.seq (.reg [mv 62 0,
 ca 63 74 [62],
 vv (.store 3 4 63)])
  .ret))))⟩
def l73_0 : MCode :=
  (.seq (.reg [oo 10 (.bin .lss 9 8)])
  (.seq (.cond 10 .skip (.exit 0))
  (.seq (.block 1 (.seq (.reg [oo 11 (.indexAddr 12 7 9),
 lt 12 12 11,
 oo 5 (.alloc z8),
 vv (.store 12 5 12)])
  (.reg [mv 13 3,
 lt 14 12 5,
 ca 15 73 [14],
 oo 16 (.max [13, 15]),
 sg 3 16])))
  (.reg [oo 17 (.bin .add 9 (.const (.int .i64 1))),
 mv 9 17]))))
def m73 : MFunc :=
 ⟨1, 20, [.tmp 2],
 (.seq (.reg [oo 1 (.box 0),
 sg 2 (.const (.int .i64 0))])
  (.seq (.reg [sg 3 (.const (.int .i64 0))])
  (.seq (.seq (.reg [fa 6 10 1,
 ld 7 6,
 ln 8 7,
 mv 9 (.const (.int .i64 0))])
  (.block 0 (.loop [3, 7, 9, 8, 2] l73_0)))
  (.seq (.reg [mv 18 3,
 oo 19 (.bin .add 18 (.const (.int .i64 1))),
 sg 2 19])
  .ret))))⟩
def m74 : MFunc :=
 ⟨1, 7, [.cell 2 true 3],
 (.seq (.reg [oo 2 (.alloc z0)])
  (.seq (.reg [mv 3 0,
 nc 4 3,
 fa 5 7 4,
 vv (.store 1 5 (.const (.bool true)))])
  (.seq (.reg [ca 6 78 [(.const (.bool false))],
 vv (.store 3 2 6)])
  .ret)))⟩
def o75_0 : List MOper :=
 [mv 91 0,
 fa 92 10 3,
 ld 93 92,
 oo 94 (.indexAddr 12 93 (.const (.int .i64 0))),
 lt 95 12 94,
 ca 96 75 [91, 95],
 mv 97 0,
 fa 98 10 3,
 ld 99 98,
 oo 100 (.indexAddr 12 99 (.const (.int .i64 1))),
 lt 101 12 100,
 ca 102 75 [97, 101],
 oo 6 (.alloc z0),
 oo 7 (.alloc z0),
 vv (.store 3 6 96),
 vv (.store 3 7 102)]
def o75_1 : List MOper :=
 [mv 91 0,
 fa 92 10 3,
 oo 93 (.loadP false 1 92),
 oo 94 (.indexAddr 12 93 (.const (.int .i64 0))),
 oo 95 (.loadP true 12 94),
 ca 96 75 [91, 95],
 mv 97 0,
 fa 98 10 3,
 oo 99 (.loadP false 1 98),
 oo 100 (.indexAddr 12 99 (.const (.int .i64 1))),
 oo 101 (.loadP true 12 100),
 ca 102 75 [97, 101],
 oo 6 (.allocR z0),
 oo 7 (.allocR z0),
 vv (.storeR 3 6 96),
 vv (.storeR 3 7 102)]
def o75_2 : List MOper :=
 [mv 123 0,
 fa 124 10 3,
 ld 125 124,
 oo 126 (.indexAddr 12 125 (.const (.int .i64 0))),
 lt 127 12 126,
 ca 128 75 [123, 127],
 mv 129 0,
 fa 130 10 3,
 ld 131 130,
 oo 132 (.indexAddr 12 131 (.const (.int .i64 1))),
 lt 133 12 132,
 ca 134 75 [129, 133],
 mv 135 0,
 fa 136 10 3,
 ld 137 136,
 oo 138 (.indexAddr 12 137 (.const (.int .i64 2))),
 lt 139 12 138,
 ca 140 75 [135, 139],
 oo 8 (.alloc z0),
 oo 9 (.alloc z0),
 oo 10 (.alloc z0),
 vv (.store 3 8 128),
 vv (.store 3 9 134),
 vv (.store 3 10 140)]
def o75_3 : List MOper :=
 [mv 123 0,
 fa 124 10 3,
 oo 125 (.loadP false 1 124),
 oo 126 (.indexAddr 12 125 (.const (.int .i64 0))),
 oo 127 (.loadP true 12 126),
 ca 128 75 [123, 127],
 mv 129 0,
 fa 130 10 3,
 oo 131 (.loadP false 1 130),
 oo 132 (.indexAddr 12 131 (.const (.int .i64 1))),
 oo 133 (.loadP true 12 132),
 ca 134 75 [129, 133],
 mv 135 0,
 fa 136 10 3,
 oo 137 (.loadP false 1 136),
 oo 138 (.indexAddr 12 137 (.const (.int .i64 2))),
 oo 139 (.loadP true 12 138),
 ca 140 75 [135, 139],
 oo 8 (.allocR z0),
 oo 9 (.allocR z0),
 oo 10 (.allocR z0),
 vv (.storeR 3 8 128),
 vv (.storeR 3 9 134),
 vv (.storeR 3 10 140)]
def o75_4 : List MOper :=
 [lt 141 3 8,
 lt 142 3 9,
 oo 143 (.buildSlice 69 3 2 z0 [(0, 141), (1, 142)]),
 ca 144 48 [143],
 lt 145 3 8,
 ca 146 47 [145],
 lt 147 3 10,
 oo 148 (.buildSlice 69 3 2 z0 [(0, 146), (1, 147)]),
 ca 149 48 [148],
 oo 150 (.buildSlice 69 3 2 z0 [(0, 144), (1, 149)]),
 ca 151 82 [150],
 vv (.store 3 4 151)]
def o75_5 : List MOper :=
 [oo 141 (.loadL true 3 8),
 oo 142 (.loadL true 3 9),
 oo 143 (.buildSlice 69 3 2 z0 [(0, 141), (1, 142)]),
 oo 144 (.callS 48 [143]),
 oo 145 (.loadL true 3 8),
 oo 146 (.callS 47 [145]),
 oo 147 (.loadL true 3 10),
 oo 148 (.buildSlice 69 3 2 z0 [(0, 146), (1, 147)]),
 oo 149 (.callS 48 [148]),
 oo 150 (.buildSlice 69 3 2 z0 [(0, 144), (1, 149)]),
 oo 151 (.callS 82 [150]),
 vv (.store 3 4 151)]
def o75_6 : List MOper :=
 [lt 196 4 11,
 ca 197 109 [196],
 fa 198 9 3,
 ld 199 198,
 oo 200 (.bin .eql 197 199),
 ca 201 78 [200],
 vv (.store 3 4 201)]
def o75_7 : List MOper :=
 [oo 196 (.loadL true 4 11),
 oo 197 (.callS 109 [196]),
 fa 198 9 3,
 oo 199 (.loadL false 1 198),
 oo 200 (.bin .eql 197 199),
 oo 201 (.callS 78 [200]),
 vv (.store 3 4 201)]
def m75 : MFunc :=
 ⟨2, 214, [.cell 4 true 3],
 (.seq (.reg [oo 3 (.box 1),
 oo 4 (.alloc z0)])
  (.seq (.seq (.reg [fa 13 10 3,
 ld 14 13,
 ln 15 14,
 sg 5 15])
  (.seq (.reg [fa 16 0 3,
 ld 17 16,
 oo 18 (.bin .eql 17 (.const (.int .i64 6))),
 mv 19 18,
 ⟨some 20, .move 5 false, some (19, true)⟩,
 ⟨some 21, .bin .neq 20 (.const (.int .i64 1)), some (19, true)⟩,
 oo 22 (.pick 19 21 (.const (.bool false))),
 mv 23 22,
 ⟨some 24, .fieldAddr 0 3, some (23, false)⟩,
 ⟨some 25, .load false 1 24 false, some (23, false)⟩,
 ⟨some 26, .bin .eql 25 (.const (.int .i64 4)), some (23, false)⟩,
 ⟨some 27, .move 26 false, some (23, false)⟩,
 ⟨some 28, .fieldAddr 0 3, some (27, false)⟩,
 ⟨some 29, .load false 1 28 false, some (27, false)⟩,
 ⟨some 30, .bin .eql 29 (.const (.int .i64 5)), some (27, false)⟩,
 ⟨some 31, .pick 27 (.const (.bool true)) 30, some (23, false)⟩,
 ⟨some 32, .move 31 false, some (23, false)⟩,
 ⟨some 33, .fieldAddr 0 3, some (32, false)⟩,
 ⟨some 34, .load false 1 33 false, some (32, false)⟩,
 ⟨some 35, .bin .eql 34 (.const (.int .i64 8)), some (32, false)⟩,
 ⟨some 36, .pick 32 (.const (.bool true)) 35, some (23, false)⟩,
 ⟨some 37, .move 36 false, some (23, false)⟩,
 ⟨some 38, .fieldAddr 0 3, some (37, false)⟩,
 ⟨some 39, .load false 1 38 false, some (37, false)⟩,
 ⟨some 40, .bin .eql 39 (.const (.int .i64 15)), some (37, false)⟩,
 ⟨some 41, .pick 37 (.const (.bool true)) 40, some (23, false)⟩,
 ⟨some 42, .move 41 false, some (23, false)⟩,
 ⟨some 43, .move 5 false, some (42, true)⟩,
 ⟨some 44, .bin .neq 43 (.const (.int .i64 2)), some (42, true)⟩,
 ⟨some 45, .pick 42 44 (.const (.bool false)), some (23, false)⟩,
 oo 46 (.pick 23 (.const (.bool true)) 45),
 mv 47 46,
 ⟨some 48, .fieldAddr 0 3, some (47, false)⟩,
 ⟨some 49, .load false 1 48 false, some (47, false)⟩,
 ⟨some 50, .bin .eql 49 (.const (.int .i64 7)), some (47, false)⟩,
 ⟨some 51, .move 50 false, some (47, false)⟩,
 ⟨some 52, .move 5 false, some (51, true)⟩,
 ⟨some 53, .bin .neq 52 (.const (.int .i64 3)), some (51, true)⟩,
 ⟨some 54, .pick 51 53 (.const (.bool false)), some (47, false)⟩,
 oo 55 (.pick 47 (.const (.bool true)) 54),
 mv 56 55,
 ⟨some 57, .fieldAddr 0 3, some (56, false)⟩,
 ⟨some 58, .load false 1 57 false, some (56, false)⟩,
 ⟨some 59, .bin .eql 58 (.const (.int .i64 16)), some (56, false)⟩,
 ⟨some 60, .move 59 false, some (56, false)⟩,
 ⟨some 61, .move 5 false, some (60, true)⟩,
 ⟨some 62, .bin .neq 61 (.const (.int .i64 1)), some (60, true)⟩,
 ⟨some 63, .pick 60 62 (.const (.bool false)), some (56, false)⟩,
 oo 64 (.pick 56 (.const (.bool true)) 63)])
  (.cond 64 (.seq (.reg [mv 65 0,
 ca 66 74 [65],
 vv (.store 3 4 66)])
  .ret) .skip)))
  (.seq (.seq (.reg [fa 67 0 3,
 ld 68 67])
  (.block 0 (.seq (.reg [oo 70 (.bin .eql 68 (.const (.int .i64 1))),
 sg 69 70])
  (.cond 69 (.seq (.reg [fa 71 1 3,
 fa 72 0 71,
 ld 73 72,
 oo 74 (.bin .eql 73 (.const (.int .i64 1)))])
  (.cond 74 (.seq (.reg [fa 75 1 3,
 fa 76 1 75,
 ld 77 76,
 ca 78 78 [77],
 vv (.store 3 4 78)])
  .ret) .skip)) (.seq (.reg [oo 80 (.bin .eql 68 (.const (.int .i64 6))),
 sg 79 80])
  (.cond 79 (.seq (.reg [mv 81 0,
 fa 82 10 3,
 ld 83 82,
 oo 84 (.indexAddr 12 83 (.const (.int .i64 0))),
 lt 85 12 84,
 ca 86 75 [81, 85],
 ca 87 47 [86],
 vv (.store 3 4 87)])
  .ret) (.seq (.seq (.reg [oo 89 (.bin .eql 68 (.const (.int .i64 4))),
 sg 88 89])
  (.cond 88 .skip (.reg [oo 90 (.bin .eql 68 (.const (.int .i64 5))),
 sg 88 90])))
  (.cond 88 (.seq (.regionQ [(true, o75_1)] o75_0 [[], [], [1], [2], [3], [0, 4], [], [], [7], [8], [9], [6, 10, 5], [], [], [12, 5, 11, 0, 1, 2, 3, 4, 5, 12, 13], [13, 11, 14, 0, 1, 2, 3, 4, 5, 6, 7, 8, 9, 10, 11, 12, 13, 14]])
  (.seq (.seq (.reg [fa 103 0 3,
 ld 104 103,
 oo 105 (.bin .eql 104 (.const (.int .i64 4)))])
  (.cond 105 (.seq (.reg [lt 106 3 6,
 lt 107 3 7,
 oo 108 (.buildSlice 69 3 2 z0 [(0, 106), (1, 107)]),
 ca 109 48 [108],
 vv (.store 3 4 109)])
  .ret) .skip))
  (.seq (.reg [lt 110 3 6,
 lt 111 3 7,
 oo 112 (.buildSlice 69 3 2 z0 [(0, 110), (1, 111)]),
 ca 113 82 [112],
 vv (.store 3 4 113)])
  .ret))) (.seq (.reg [oo 115 (.bin .eql 68 (.const (.int .i64 7))),
 sg 114 115])
  (.cond 114 (.seq (.seq (.reg [fa 116 10 3,
 ld 117 116,
 oo 118 (.indexAddr 12 117 (.const (.int .i64 0))),
 lt 119 12 118,
 ca 120 105 [119]])
  (.cond 120 (.seq (.reg [mv 121 0,
 ca 122 74 [121],
 vv (.store 3 4 122)])
  .ret) .skip))
  (.seq (.regionQ [(true, o75_3)] o75_2 [[], [], [1], [2], [3], [0, 4], [], [], [7], [8], [9], [6, 10, 5], [], [], [13], [14], [15], [12, 16, 11], [], [], [], [18, 5, 17, 0, 1, 2, 3, 4, 5, 18, 19, 20], [19, 11, 21, 0, 1, 2, 3, 4, 5, 6, 7, 8, 9, 10, 11, 18, 19, 20, 21], [20, 17, 22, 0, 1, 2, 3, 4, 5, 6, 7, 8, 9, 10, 11, 12, 13, 14, 15, 16, 17, 18, 19, 20, 21, 22]])
  (.seq (.regionQ [(false, o75_5), (true, o75_4)] o75_4 [[], [], [0, 1], [2], [], [4, 3], [], [5, 6], [7, 5], [3, 8], [9, 8], [10, 10, 0, 1, 2, 3, 4, 5, 6, 7, 8, 9, 10]])
  .ret))) (.seq (.reg [oo 153 (.bin .eql 68 (.const (.int .i64 8))),
 sg 152 153])
  (.cond 152 (.seq (.reg [mv 154 0,
 fa 155 10 3,
 ld 156 155,
 oo 157 (.indexAddr 12 156 (.const (.int .i64 0))),
 lt 158 12 157,
 fa 159 10 3,
 ld 160 159,
 oo 161 (.indexAddr 12 160 (.const (.int .i64 1))),
 lt 162 12 161,
 ca 163 106 [154, 158, 162],
 vv (.store 3 4 163)])
  .ret) (.seq (.reg [oo 165 (.bin .eql 68 (.const (.int .i64 15))),
 sg 164 165])
  (.cond 164 (.seq (.reg [mv 166 0,
 fa 167 10 3,
 ld 168 167,
 oo 169 (.indexAddr 12 168 (.const (.int .i64 0))),
 lt 170 12 169,
 fa 171 10 3,
 ld 172 171,
 oo 173 (.indexAddr 12 172 (.const (.int .i64 1))),
 lt 174 12 173,
 ca 175 107 [166, 170, 174],
 vv (.store 3 4 175)])
  .ret) (.seq (.reg [oo 177 (.bin .eql 68 (.const (.int .i64 16))),
 sg 176 177])
  (.cond 176 (.seq (.reg [mv 179 0,
 fa 180 10 3,
 ld 181 180,
 oo 182 (.indexAddr 12 181 (.const (.int .i64 0))),
 lt 183 12 182,
 ca 184 108 [179, 183],
 mv 178 184,
 oo 185 (.extract 178 0),
 oo 186 (.extract 178 1),
 oo 11 (.alloc z16),
 vv (.store 4 11 185),
 sg 12 186])
  (.seq (.reg [mv 187 12,
 mv 188 187,
 ⟨some 189, .fieldAddr 10 3, some (188, true)⟩,
 ⟨some 190, .load false 1 189 false, some (188, true)⟩,
 ⟨some 191, .indexAddr 12 190 (.const (.int .i64 0)), some (188, true)⟩,
 ⟨some 192, .fieldAddr 0 191, some (188, true)⟩,
 ⟨some 193, .load false 1 192 false, some (188, true)⟩,
 ⟨some 194, .bin .eql 193 (.const (.int .i64 2)), some (188, true)⟩,
 oo 195 (.pick 188 194 (.const (.bool false)))])
  (.cond 195 (.seq (.regionQ [(false, o75_7), (true, o75_6)] o75_6 [[], [0], [], [2], [1, 3], [4, 1], [5, 5, 0, 1, 2, 3, 4, 5]])
  .ret) .skip))) (.seq (.reg [oo 203 (.bin .eql 68 (.const (.int .i64 18))),
 sg 202 203])
  (.cond 202 (.seq (.reg [mv 204 0,
 lt 205 12 3,
 ca 206 110 [204, 205, (.const (.int .i64 3))]])
  (.cond 206 (.seq (.reg [mv 207 0,
 fa 208 9 3,
 ld 209 208,
 oo 210 (.build z7 [(0, 1, (.const (.int .i64 6))), (5, 1, 209)]),
 ca 211 79 [207, 210],
 vv (.store 3 4 211)])
  .ret) .skip)) .skip))))))))))))))))))
  (.seq (.reg [mv 212 0,
 ca 213 74 [212],
 vv (.store 3 4 213)])
  .ret))))⟩
def m76 : MFunc :=
 ⟨2, 14, [],
 (.seq (.reg [mv 5 0,
 ln 6 5,
 sg 4 6])
  (.reg [mv 7 0,
 mv 8 4,
 mv 9 4,
 oo 10 (.conv .u64 9),
 ca 11 102 [10],
 mv 12 1,
 ca 13 111 [7, (.const (.int .i64 0)), 8, 11, 12]]))⟩
def l77_0 : MCode :=
  (.seq (.seq (.reg [mv 29 5,
 mv 30 4,
 ln 31 30,
 oo 32 (.bin .lss 29 31)])
  (.cond 32 .skip (.exit 2)))
  (.seq (.block 3 (.seq (.reg [mv 35 4,
 mv 36 5,
 oo 37 (.indexAddr 2 35 36),
 lt 38 2 37,
 mv 39 4,
 mv 40 5,
 oo 41 (.bin .sub 40 (.const (.int .i64 1))),
 oo 42 (.indexAddr 2 39 41),
 lt 43 2 42,
 oo 44 (.eqA 34 true 38 43)])
  (.cond 44 (.seq (.reg [mv 45 0,
 mv 46 3,
 mv 47 4,
 mv 48 5,
 oo 49 (.indexAddr 2 47 48),
 lt 50 2 49,
 oo 51 (.indexAddr 2 45 46),
 vv (.store 2 51 50)])
  (.reg [mv 52 3,
 oo 53 (.bin .add 52 (.const (.int .i64 1))),
 sg 3 53])) .skip)))
  (.reg [mv 33 5,
 oo 34 (.bin .add 33 (.const (.int .i64 1))),
 sg 5 34])))
def l77_1 : MCode :=
  (.seq (.seq (.reg [mv 10 3,
 mv 11 0,
 ln 12 11,
 oo 13 (.bin .lss 10 12)])
  (.cond 13 .skip (.exit 0)))
  (.seq (.block 1 (.seq (.reg [mv 16 0,
 mv 17 3,
 oo 18 (.indexAddr 2 16 17),
 lt 19 2 18,
 mv 20 0,
 mv 21 3,
 oo 22 (.bin .sub 21 (.const (.int .i64 1))),
 oo 23 (.indexAddr 2 20 22),
 lt 24 2 23,
 oo 25 (.eqA 34 false 19 24)])
  (.cond 25 (.seq (.reg [mv 26 0,
 mv 27 3,
 oo 28 (.slice 2 26 (some 27) none),
 sg 4 28])
  (.seq (.seq (.reg [sg 5 (.const (.int .i64 1))])
  (.block 2 (.loop [3, 0, 4, 5, 2] l77_0)))
  (.seq (.reg [mv 54 0,
 mv 55 3,
 oo 56 (.slice 2 54 (some 55) none),
 vv (.clear 2 [.str [], .str []] 56)])
  (.seq (.reg [mv 57 0,
 mv 58 3,
 oo 59 (.slice 2 57 none (some 58)),
 sg 2 59])
  .ret)))) .skip)))
  (.reg [mv 14 3,
 oo 15 (.bin .add 14 (.const (.int .i64 1))),
 sg 3 15])))
def m77 : MFunc :=
 ⟨1, 61, [.tmp 2],
 (.seq (.reg [sg 2 (.const (.sl [] (some 43)))])
  (.seq (.seq (.reg [mv 6 0,
 ln 7 6,
 oo 8 (.bin .lss 7 (.const (.int .i64 2)))])
  (.cond 8 (.seq (.reg [mv 9 0,
 sg 2 9])
  .ret) .skip))
  (.seq (.seq (.reg [sg 3 (.const (.int .i64 1))])
  (.block 0 (.loop [0, 3, 2] l77_1)))
  (.seq (.reg [mv 60 0,
 sg 2 60])
  .ret))))⟩
def m78 : MFunc :=
 ⟨1, 6, [.cell 2 true 3],
 (.seq (.reg [oo 2 (.alloc z0)])
  (.seq (.seq (.reg [mv 3 0])
  (.cond 3 (.seq (.reg [oo 4 (.build z10 [(0, 1, (.const (.int .i64 1)))]),
 vv (.store 3 2 4)])
  .ret) .skip))
  (.seq (.reg [oo 5 (.build z10 [(0, 1, (.const (.int .i64 2)))]),
 vv (.store 3 2 5)])
  .ret)))⟩
def m79 : MFunc :=
 ⟨2, 41, [.cell 4 true 3],
 (.seq (.reg [oo 3 (.box 1),
 oo 4 (.alloc z0)])
  (.seq (.reg [mv 8 0,
 nc 9 8,
 fa 10 6 9,
 ld 11 10,
 lt 12 7 3,
 oo 13 (.lookup 35791401 false [.int .i64 0] 11 12 true),
 mv 7 13,
 oo 14 (.extract 7 0),
 oo 15 (.extract 7 1),
 sg 5 14,
 sg 6 15])
  (.seq (.seq (.reg [mv 16 6,
 oo 17 (.un .not 16)])
  (.cond 17 (.seq (.reg [mv 18 0,
 mv 19 0,
 nc 20 19,
 fa 21 5 20,
 oo 22 (.load false 1 21 true),
 lt 23 7 3,
 oo 24 (.buildSlice 115 7 1 z7 [(0, 23)]),
 oo 25 (.append 115 7 104 false 22 24),
 nc 26 18,
 fa 27 5 26,
 vv (.store 1 27 25)])
  (.seq (.reg [mv 28 0,
 nc 29 28,
 fa 30 5 29,
 ld 31 30,
 ln 32 31,
 sg 5 32])
  (.reg [mv 33 0,
 nc 34 33,
 fa 35 6 34,
 ld 36 35,
 lt 37 7 3,
 mv 38 5,
 vv (.mapUpdate 35791401 36 37 38)]))) .skip))
  (.seq (.reg [mv 39 5,
 oo 40 (.build z10 [(0, 1, (.const (.int .i64 3))), (1, 1, 39)]),
 vv (.store 3 4 40)])
  .ret))))⟩
def m80 : MFunc :=
 ⟨3, 11, [.tmp 6],
 (.seq (.reg [oo 3 (.box 0),
 sg 6 (.const (.bool false))])
  (.seq (.reg [mv 7 1,
 mv 8 2,
 oo 9 (.mkfunc 113 [3]),
 ca 10 112 [7, 8, 9],
 sg 6 10])
  .ret))⟩
def m82 : MFunc :=
 ⟨1, 5, [.cell 2 true 3],
 (.seq (.reg [oo 2 (.alloc z0)])
  (.seq (.reg [mv 3 0,
 oo 4 (.build z10 [(0, 1, (.const (.int .i64 6))), (2, 1, 3)]),
 vv (.store 3 2 4)])
  .ret))⟩
def m83 : MFunc :=
 ⟨1, 20, [.cell 2 true 3],
 (.seq (.reg [oo 1 (.box 0),
 oo 2 (.alloc z0)])
  (.seq (.seq (.reg [fa 3 0 1,
 ld 4 3])
  (.block 0 (.seq (.reg [oo 6 (.bin .eql 4 (.const (.int .i64 1))),
 sg 5 6])
  (.cond 5 (.seq (.reg [oo 7 (.build z10 [(0, 1, (.const (.int .i64 2)))]),
 vv (.store 3 2 7)])
  .ret) (.seq (.reg [oo 9 (.bin .eql 4 (.const (.int .i64 2))),
 sg 8 9])
  (.cond 8 (.seq (.reg [oo 10 (.build z10 [(0, 1, (.const (.int .i64 1)))]),
 vv (.store 3 2 10)])
  .ret) (.seq (.reg [oo 12 (.bin .eql 4 (.const (.int .i64 4))),
 sg 11 12])
  (.cond 11 (.seq (.reg [fa 13 2 1,
 ld 14 13,
 oo 15 (.indexAddr 3 14 (.const (.int .i64 0))),
 lt 16 3 15,
 vv (.store 3 2 16)])
  .ret) .skip))))))))
  (.seq (.reg [lt 17 3 1,
 oo 18 (.buildSlice 69 3 1 z0 [(0, 17)]),
 oo 19 (.build z10 [(0, 1, (.const (.int .i64 4))), (2, 1, 18)]),
 vv (.store 3 2 19)])
  .ret)))⟩
def l84_0 : MCode :=
  (.seq (.reg [oo 17 (.bin .lss 16 15)])
  (.seq (.cond 17 .skip (.exit 0))
  (.seq (.block 1 (.seq (.reg [oo 18 (.indexAddr 3 14 16),
 lt 19 3 18,
 oo 9 (.alloc z0),
 vv (.store 3 9 19)])
  (.seq (.reg [lt 20 3 9,
 ca 21 52 [20],
 vv (.store 3 9 21)])
  (.seq (.reg [fa 22 0 9,
 ld 23 22])
  (.block 2 (.seq (.reg [mv 31 2,
 oo 32 (.bin .eql 23 31),
 sg 30 32])
  (.cond 30 (.seq (.reg [mv 33 2,
 oo 34 (.build z10 [(0, 1, 33)]),
 vv (.store 3 6 34)])
  .ret) (.seq (.reg [mv 36 1,
 oo 37 (.bin .eql 23 36),
 sg 35 37])
  (.cond 35 .skip (.reg [fa 24 2 7,
 oo 25 (.load false 1 24 true),
 lt 26 3 9,
 oo 27 (.buildSlice 69 3 1 z0 [(0, 26)]),
 oo 28 (.append 69 3 40 false 25 27),
 fa 29 2 7,
 vv (.store 1 29 28)]))))))))))
  (.reg [oo 38 (.bin .add 16 (.const (.int .i64 1))),
 mv 16 38]))))
def m84 : MFunc :=
 ⟨3, 53, [.cell 6 true 3],
 (.seq (.reg [oo 3 (.box 0),
 oo 6 (.alloc z0)])
  (.seq (.reg [fa 10 0 3,
 ld 11 10,
 oo 12 (.build z10 [(0, 1, 11)]),
 oo 7 (.alloc z0),
 vv (.store 3 7 12)])
  (.seq (.seq (.reg [fa 13 2 3,
 ld 14 13,
 ln 15 14,
 mv 16 (.const (.int .i64 0))])
  (.block 0 (.loop [7, 1, 14, 2, 16, 15, 6] l84_0)))
  (.seq (.seq (.reg [fa 39 2 7,
 ld 40 39,
 ln 41 40])
  (.block 3 (.seq (.reg [oo 43 (.bin .eql 41 (.const (.int .i64 0))),
 sg 42 43])
  (.cond 42 (.seq (.reg [mv 44 1,
 oo 45 (.build z10 [(0, 1, 44)]),
 vv (.store 3 6 45)])
  .ret) (.seq (.reg [oo 47 (.bin .eql 41 (.const (.int .i64 1))),
 sg 46 47])
  (.cond 46 (.seq (.reg [fa 48 2 7,
 ld 49 48,
 oo 50 (.indexAddr 3 49 (.const (.int .i64 0))),
 lt 51 3 50,
 vv (.store 3 6 51)])
  .ret) .skip))))))
  (.seq (.reg [lt 52 3 7,
 vv (.store 3 6 52)])
  .ret)))))⟩
def l85_0 : MCode :=
  (.seq (.reg [oo 9 (.bin .lss 8 7)])
  (.seq (.cond 9 .skip (.exit 0))
  (.seq (.block 1 (.seq (.reg [mv 10 8,
 sg 5 10])
  (.seq (.reg [mv 11 1,
 mv 12 0,
 mv 13 5,
 oo 14 (.indexAddr 1 12 13),
 ld 15 14,
 oo 16 (.callv 11 [15])])
  (.cond 16 (.seq (.reg [mv 17 5,
 sg 4 17])
  .ret) .skip))))
  (.reg [oo 18 (.bin .add 8 (.const (.int .i64 1))),
 mv 8 18]))))
def m85 : MFunc :=
 ⟨2, 19, [.tmp 4],
 (.seq (.reg [sg 4 (.const (.int .i64 0))])
  (.seq (.seq (.reg [mv 6 0,
 ln 7 6,
 mv 8 (.const (.int .i64 0))])
  (.block 0 (.loop [1, 0, 8, 7, 4] l85_0)))
  (.seq (.reg [sg 4 (.const (.int .i64 (-1)))])
  .ret)))⟩
def l86_0 : MCode :=
  (.seq (.reg [oo 9 (.bin .lss 8 7)])
  (.seq (.cond 9 .skip (.exit 0))
  (.seq (.block 1 (.seq (.reg [mv 10 8,
 sg 5 10])
  (.seq (.reg [mv 11 1,
 mv 12 0,
 mv 13 5,
 oo 14 (.indexAddr 1 12 13),
 ld 15 14,
 oo 16 (.callv 11 [15])])
  (.cond 16 (.seq (.reg [mv 17 5,
 sg 4 17])
  .ret) .skip))))
  (.reg [oo 18 (.bin .add 8 (.const (.int .i64 1))),
 mv 8 18]))))
def m86 : MFunc :=
 ⟨2, 19, [.tmp 4],
 (.seq (.reg [sg 4 (.const (.int .i64 0))])
  (.seq (.seq (.reg [mv 6 0,
 ln 7 6,
 mv 8 (.const (.int .i64 0))])
  (.block 0 (.loop [1, 0, 8, 7, 4] l86_0)))
  (.seq (.reg [sg 4 (.const (.int .i64 (-1)))])
  .ret)))⟩
def l87_0 : MCode :=
  (.seq (.reg [oo 20 (.bin .lss 19 18)])
  (.seq (.cond 20 .skip (.exit 2))
  (.seq (.block 3 (.seq (.reg [mv 21 19,
 oo 22 (.indexAddr 1 17 19),
 ld 23 22,
 sg 4 21,
 sg 5 23])
  (.seq (.reg [mv 25 0,
 mv 26 5,
 ca 27 115 [25, 26],
 mv 24 27,
 oo 28 (.extract 24 0),
 oo 29 (.extract 24 1),
 sg 6 28,
 sg 7 29])
  (.seq (.seq (.reg [mv 30 7,
 oo 31 (.un .not 30)])
  (.cond 31 (.seq (.reg [mv 32 4,
 sg 2 32])
  .ret) .skip))
  (.seq (.reg [mv 33 6,
 oo 34 (.bin .neq 33 (.const (.int .i64 0)))])
  (.cond 34 (.seq (.reg [mv 35 0,
 mv 36 6,
 mv 37 4,
 ca 38 92 [35, 36, 37]])
  (.reg [sg 3 (.const (.bool true))])) .skip))))))
  (.reg [oo 39 (.bin .add 19 (.const (.int .i64 1))),
 mv 19 39]))))
def l87_1 : MCode :=
  (.seq (.seq (.reg [mv 8 3])
  (.cond 8 .skip (.exit 0)))
  (.block 1 (.seq (.reg [sg 3 (.const (.bool false))])
  (.seq (.reg [mv 9 0,
 nc 10 9,
 fa 11 0 10,
 ld 12 11,
 mv 13 0,
 nc 14 13,
 fa 15 1 14,
 ld 16 15,
 oo 17 (.slice 1 12 none (some 16)),
 ln 18 17,
 mv 19 (.const (.int .i64 0))])
  (.block 2 (.loop [0, 3, 17, 19, 18, 2] l87_0))))))
def m87 : MFunc :=
 ⟨1, 40, [.tmp 2],
 (.seq (.reg [sg 2 (.const (.int .i64 0))])
  (.seq (.seq (.reg [sg 3 (.const (.bool true))])
  (.block 0 (.loop [0, 3, 2] l87_1)))
  (.seq (.reg [sg 2 (.const (.int .i64 (-1)))])
  .ret)))⟩
def l88_0 : MCode :=
  (.seq (.seq (.reg [mv 13 5,
 oo 14 (.bin .geq 13 (.const (.int .i64 0)))])
  (.cond 14 .skip (.exit 0)))
  (.seq (.block 1 (.seq (.reg [mv 17 0,
 nc 18 17,
 fa 19 3 18,
 ld 20 19,
 mv 21 5,
 oo 22 (.indexAddr 2 20 21),
 lt 23 2 22,
 oo 6 (.alloc [.int .i64 0, .int .i64 0]),
 vv (.store 2 6 23)])
  (.seq (.reg [fa 24 1 6,
 ld 25 24,
 oo 26 (.bin .geq 25 (.const (.int .i64 0))),
 mv 27 26,
 ⟨some 28, .move 0 false, some (27, true)⟩,
 ⟨some 29, .nilCheck 28, some (27, true)⟩,
 ⟨some 30, .fieldAddr 0 29, some (27, true)⟩,
 ⟨some 31, .load false 1 30 false, some (27, true)⟩,
 ⟨some 32, .move 1 false, some (27, true)⟩,
 ⟨some 33, .indexAddr 1 31 32, some (27, true)⟩,
 ⟨some 34, .load false 1 33 false, some (27, true)⟩,
 ⟨some 35, .fieldAddr 0 6, some (27, true)⟩,
 ⟨some 36, .load false 1 35 false, some (27, true)⟩,
 ⟨some 37, .un .neg 36, some (27, true)⟩,
 ⟨some 38, .call 93 [34, 37], some (27, true)⟩,
 oo 39 (.pick 27 38 (.const (.bool false)))])
  (.cond 39 (.reg [mv 40 0,
 fa 41 1 6,
 ld 42 41,
 mv 43 1,
 fa 44 0 6,
 ld 45 44,
 ca 46 94 [40, 42, 43, 45],
 sg 1 46]) .skip))))
  (.reg [mv 15 5,
 oo 16 (.bin .sub 15 (.const (.int .i64 1))),
 sg 5 16])))
def m88 : MFunc :=
 ⟨2, 48, [.tmp 4],
 (.seq (.reg [sg 4 (.const (.int .i64 0))])
  (.seq (.seq (.reg [mv 7 0,
 nc 8 7,
 fa 9 3 8,
 ld 10 9,
 ln 11 10,
 oo 12 (.bin .sub 11 (.const (.int .i64 1))),
 sg 5 12])
  (.block 0 (.loop [1, 0, 5, 4] l88_0)))
  (.seq (.reg [mv 47 1,
 sg 4 47])
  .ret)))⟩
def l89_0 : MCode :=
  (.seq (.reg [oo 14 (.bin .lss 13 12)])
  (.seq (.cond 14 .skip (.exit 0))
  (.seq (.block 1 (.seq (.reg [oo 15 (.indexAddr 2 11 13),
 lt 16 2 15,
 oo 5 (.alloc [.int .i64 0, .int .i64 0]),
 vv (.store 2 5 16)])
  (.reg [mv 17 0,
 nc 18 17,
 fa 19 2 18,
 ld 20 19,
 fa 21 0 5,
 ld 22 21,
 fa 23 0 5,
 ld 24 23,
 oo 25 (.un .neg 24),
 oo 26 (.max [22, 25]),
 oo 27 (.indexAddr 1 20 26),
 vv (.store 1 27 (.const (.int .i64 0)))])))
  (.reg [oo 28 (.bin .add 13 (.const (.int .i64 1))),
 mv 13 28]))))
def m89 : MFunc :=
 ⟨2, 38, [],
 (.seq (.seq (.reg [mv 6 0,
 nc 7 6,
 fa 8 3 7,
 ld 9 8,
 mv 10 1,
 oo 11 (.slice 2 9 (some 10) none),
 ln 12 11,
 mv 13 (.const (.int .i64 0))])
  (.block 0 (.loop [1, 0, 11, 13, 12] l89_0)))
  (.reg [mv 29 0,
 mv 30 0,
 nc 31 30,
 fa 32 3 31,
 ld 33 32,
 mv 34 1,
 oo 35 (.slice 2 33 none (some 34)),
 nc 36 29,
 fa 37 3 36,
 vv (.store 1 37 35)]))⟩
def l90_0 : MCode :=
  (.seq (.reg [oo 9 (.bin .lss 8 7)])
  (.seq (.cond 9 .skip (.exit 0))
  (.seq (.block 1 (.seq (.reg [mv 10 8,
 sg 5 10])
  (.seq (.reg [mv 11 1,
 mv 12 0,
 mv 13 5,
 oo 14 (.indexAddr 1 12 13),
 ld 15 14,
 oo 16 (.bin .eql 11 15)])
  (.cond 16 (.seq (.reg [mv 17 5,
 sg 4 17])
  .ret) .skip))))
  (.reg [oo 18 (.bin .add 8 (.const (.int .i64 1))),
 mv 8 18]))))
def m90 : MFunc :=
 ⟨2, 19, [.tmp 4],
 (.seq (.reg [sg 4 (.const (.int .i64 0))])
  (.seq (.seq (.reg [mv 6 0,
 ln 7 6,
 mv 8 (.const (.int .i64 0))])
  (.block 0 (.loop [1, 0, 8, 7, 4] l90_0)))
  (.seq (.reg [sg 4 (.const (.int .i64 (-1)))])
  .ret)))⟩
def m91 : MFunc :=
 ⟨3, 14, [],
 (.seq (.reg [ld 3 0,
 nc 4 3,
 fa 5 2 4,
 ld 6 5,
 ld 7 1,
 oo 8 (.indexAddr 1 6 7),
 ld 9 8,
 oo 10 (.bin .eql 9 (.const (.int .i64 0)))])
  (.cond 10 (.reg [ld 11 0,
 ld 12 2,
 ca 13 89 [11, 12]]) .skip))⟩
def m92 : MFunc :=
 ⟨3, 28, [],
 (.seq (.reg [mv 6 0,
 nc 7 6,
 fa 8 2 7,
 ld 9 8,
 mv 10 1,
 mv 11 1,
 oo 12 (.un .neg 11),
 oo 13 (.max [10, 12]),
 mv 14 1,
 oo 15 (.indexAddr 1 9 13),
 vv (.store 1 15 14)])
  (.reg [mv 16 0,
 mv 17 0,
 nc 18 17,
 fa 19 3 18,
 oo 20 (.load false 1 19 true),
 mv 21 1,
 mv 22 2,
 oo 23 (.build [.int .i64 0, .int .i64 0] [(0, 1, 21), (1, 1, 22)]),
 oo 24 (.buildSlice 207 2 1 [.int .i64 0, .int .i64 0] [(0, 23)]),
 oo 25 (.append 207 2 16 true 20 24),
 nc 26 16,
 fa 27 3 26,
 vv (.store 1 27 25)]))⟩
def m93 : MFunc :=
 ⟨2, 9, [.tmp 4],
 (.seq (.reg [sg 4 (.const (.bool false))])
  (.seq (.reg [mv 5 0,
 mv 6 1,
 ca 7 90 [5, 6],
 oo 8 (.bin .geq 7 (.const (.int .i64 0))),
 sg 4 8])
  .ret))⟩
def m94 : MFunc :=
 ⟨4, 62, [.tmp 8],
 (.seq (.reg [sg 8 (.const (.int .i64 0))])
  (.seq (.reg [oo 9 (.alloc [.sl [] (some 3)])])
  (.seq (.reg [oo 11 (.mkfunc 116 [9]),
 sg 10 11])
  (.seq (.reg [mv 12 10,
 mv 13 0,
 nc 14 13,
 fa 15 0 14,
 ld 16 15,
 mv 17 1,
 oo 18 (.indexAddr 1 16 17),
 ld 19 18,
 mv 20 3,
 oo 21 (.callv 12 [19, 20])])
  (.seq (.reg [mv 22 10,
 mv 23 0,
 nc 24 23,
 fa 25 0 24,
 ld 26 25,
 mv 27 2,
 oo 28 (.indexAddr 1 26 27),
 ld 29 28,
 mv 30 3,
 oo 31 (.un .neg 30),
 oo 32 (.callv 22 [29, 31])])
  (.seq (.reg [mv 33 0,
 mv 34 0,
 nc 35 34,
 fa 36 0 35,
 oo 37 (.load false 1 36 true),
 ld 38 9,
 oo 39 (.buildSlice 133 1 1 [.sl [] (some 3)] [(0, 38)]),
 oo 40 (.append 133 1 24 false 37 39),
 nc 41 33,
 fa 42 0 41,
 vv (.store 1 42 40)])
  (.seq (.reg [mv 43 0,
 mv 44 0,
 nc 45 44,
 fa 46 4 45,
 oo 47 (.load false 1 46 true),
 mv 48 1,
 mv 49 2,
 mv 50 3,
 oo 51 (.build [.int .i64 0, .int .i64 0, .int .i64 0] [(0, 1, 48), (1, 1, 49), (2, 1, 50)]),
 oo 52 (.buildSlice 210 3 1 [.int .i64 0, .int .i64 0, .int .i64 0] [(0, 51)]),
 oo 53 (.append 210 3 24 false 47 52),
 nc 54 43,
 fa 55 4 54,
 vv (.store 1 55 53)])
  (.seq (.reg [mv 56 0,
 nc 57 56,
 fa 58 0 57,
 ld 59 58,
 ln 60 59,
 oo 61 (.bin .sub 60 (.const (.int .i64 1))),
 sg 8 61])
  .ret))))))))⟩
def l96_0 : MCode :=
  (.seq (.reg [oo 9 (.bin .lss 8 7)])
  (.seq (.cond 9 .skip (.exit 0))
  (.seq (.block 1 (.seq (.reg [mv 10 8,
 sg 5 10])
  (.seq (.reg [mv 11 1,
 mv 12 0,
 mv 13 5,
 oo 14 (.indexAddr 5 12 13),
 lt 15 5 14,
 oo 16 (.callv 11 [15])])
  (.cond 16 (.seq (.reg [mv 17 5,
 sg 4 17])
  .ret) .skip))))
  (.reg [oo 18 (.bin .add 8 (.const (.int .i64 1))),
 mv 8 18]))))
def m96 : MFunc :=
 ⟨2, 19, [.tmp 4],
 (.seq (.reg [sg 4 (.const (.int .i64 0))])
  (.seq (.seq (.reg [mv 6 0,
 ln 7 6,
 mv 8 (.const (.int .i64 0))])
  (.block 0 (.loop [1, 0, 8, 7, 4] l96_0)))
  (.seq (.reg [sg 4 (.const (.int .i64 (-1)))])
  .ret)))⟩
def m97 : MFunc :=
 ⟨2, 8, [.tmp 3],
 (.seq (.reg [oo 2 (.box 0),
 sg 3 (.const (.bool false))])
  (.seq (.reg [fa 4 0 2,
 ld 5 4,
 ld 6 1,
 oo 7 (.bin .eql 5 6),
 sg 3 7])
  .ret))⟩
def o98_0 : List MOper :=
 [fa 16 7 3,
 oo 17 (.load false 1 16 true),
 fa 18 0 5,
 ld 19 18,
 oo 20 (.buildSlice 9 1 1 [.str []] [(0, 19)]),
 oo 21 (.append 9 1 16 false 17 20),
 fa 22 6 3,
 oo 23 (.load false 1 22 true),
 fa 24 1 5,
 lt 25 4 24,
 ca 26 63 [25],
 oo 27 (.buildSlice 46 8 1 z5 [(0, 26)]),
 oo 28 (.append 46 8 120 false 23 27),
 fa 29 7 3,
 vv (.store 1 29 21),
 fa 30 6 3,
 vv (.store 1 30 28)]
def o98_1 : List MOper :=
 [fa 16 7 3,
 oo 17 (.loadK 3 7 1 16),
 fa 18 0 5,
 ld 19 18,
 oo 20 (.buildSlice 9 1 1 [.str []] [(0, 19)]),
 oo 21 (.append 9 1 16 false 17 20),
 fa 22 6 3,
 oo 23 (.loadK 3 6 1 22),
 fa 24 1 5,
 lt 25 4 24,
 ca 26 63 [25],
 oo 27 (.buildSlice 46 8 1 z5 [(0, 26)]),
 oo 28 (.append 46 8 120 false 23 27),
 fa 29 7 3,
 vv (.store 1 29 21),
 fa 30 6 3,
 vv (.store 1 30 28)]
def l98_2 : MCode :=
  (.seq (.reg [oo 10 (.bin .lss 9 8)])
  (.seq (.cond 10 .skip (.exit 0))
  (.seq (.block 1 (.seq (.reg [oo 11 (.indexAddr 6 7 9),
 lt 12 6 11,
 oo 5 (.alloc z13),
 vv (.store 6 5 12)])
  (.seq (.reg [fa 13 5 5,
 ld 14 13,
 oo 15 (.un .not 14)])
  (.cond 15 (.regionQ [(true, o98_1)] o98_0 [[], [0], [], [2], [3], [1, 4], [], [6], [], [8], [9, 5], [10], [7, 11, 10], [0, 1, 2, 3, 4, 5, 6, 7], [13, 5, 12, 0, 1, 2, 3, 4, 5, 6, 7], [0, 1, 2, 3, 4, 5, 6, 7, 8, 9, 10, 11, 12, 13, 14], [15, 12, 14, 0, 1, 2, 3, 4, 5, 6, 7, 8, 9, 10, 11, 12, 13, 14]]) .skip))))
  (.reg [oo 31 (.bin .add 9 (.const (.int .i64 1))),
 mv 9 31]))))
def m98 : MFunc :=
 ⟨1, 33, [.cell 2 true 8],
 (.seq (.reg [oo 2 (.alloc z5)])
  (.seq (.reg [oo 6 (.build z3 [(0, 1, (.const (.int .i64 6)))]),
 oo 3 (.alloc z5),
 vv (.store 8 3 6)])
  (.seq (.seq (.reg [mv 7 0,
 ln 8 7,
 mv 9 (.const (.int .i64 0))])
  (.block 0 (.loop [3, 7, 9, 8, 2] l98_2)))
  (.seq (.reg [lt 32 8 3,
 vv (.store 8 2 32)])
  .ret))))⟩
def m99 : MFunc :=
 ⟨2, 19, [.cell 4 true 3, .tmp 5],
 (.seq (.reg [oo 2 (.box 0),
 oo 3 (.box 1),
 oo 4 (.alloc z19),
 sg 5 (.const (.bool false))])
  (.seq (.reg [fa 7 0 2,
 ld 8 7,
 oo 9 (.mkfunc 124 [3]),
 ca 10 123 [8, 9],
 sg 6 10])
  (.seq (.seq (.reg [mv 11 6,
 oo 12 (.bin .lss 11 (.const (.int .i64 0)))])
  (.cond 12 (.seq (.reg [oo 13 (.build [.str [], .nils 9, .nils 32] []),
 vv (.store 3 4 13),
 sg 5 (.const (.bool false))])
  .ret) .skip))
  (.seq (.reg [fa 14 0 2,
 ld 15 14,
 mv 16 6,
 oo 17 (.indexAddr 3 15 16),
 lt 18 3 17,
 vv (.store 3 4 18),
 sg 5 (.const (.bool true))])
  .ret))))⟩
def l101_0 : MCode :=
  (.block 1 (.seq (.reg [mv 21 2,
 mv 22 1,
 oo 23 (.bin .sub 21 22),
 sg 12 23])
  (.seq (.seq (.reg [mv 24 12,
 oo 25 (.bin .leq 24 (.const (.int .i64 12)))])
  (.cond 25 (.seq (.reg [mv 26 0,
 mv 27 1,
 mv 28 2,
 mv 29 4,
 ca 30 126 [26, 27, 28, 29]])
  .ret) .skip))
  (.seq (.seq (.reg [mv 31 3,
 oo 32 (.bin .eql 31 (.const (.int .i64 0)))])
  (.cond 32 (.seq (.reg [mv 33 0,
 mv 34 1,
 mv 35 2,
 mv 36 4,
 ca 37 127 [33, 34, 35, 36]])
  .ret) .skip))
  (.seq (.seq (.reg [mv 38 10,
 oo 39 (.un .not 38)])
  (.cond 39 (.seq (.reg [mv 40 0,
 mv 41 1,
 mv 42 2,
 mv 43 4,
 ca 44 128 [40, 41, 42, 43]])
  (.reg [mv 45 3,
 oo 46 (.bin .sub 45 (.const (.int .i64 1))),
 sg 3 46])) .skip))
  (.seq (.reg [mv 48 0,
 mv 49 1,
 mv 50 2,
 mv 51 4,
 ca 52 129 [48, 49, 50, 51],
 mv 47 52,
 oo 53 (.extract 47 0),
 oo 54 (.extract 47 1),
 sg 13 53,
 sg 14 54])
  (.seq (.seq (.reg [mv 55 14,
 oo 56 (.bin .eql 55 (.const (.int .i64 2)))])
  (.cond 56 (.seq (.reg [mv 57 0,
 mv 58 1,
 mv 59 2,
 mv 60 4,
 ca 61 130 [57, 58, 59, 60]])
  (.seq (.reg [mv 62 2,
 oo 63 (.bin .sub 62 (.const (.int .i64 1))),
 mv 64 13,
 mv 65 1,
 oo 66 (.bin .sub 64 65),
 oo 67 (.bin .sub 63 66),
 sg 13 67])
  (.reg [sg 14 (.const (.int .i64 1))]))) .skip))
  (.seq (.seq (.reg [mv 68 10,
 mv 69 68,
 ⟨some 70, .move 11 false, some (69, true)⟩,
 oo 71 (.pick 69 70 (.const (.bool false))),
 mv 72 71,
 ⟨some 73, .move 14 false, some (72, true)⟩,
 ⟨some 74, .bin .eql 73 (.const (.int .i64 1)), some (72, true)⟩,
 oo 75 (.pick 72 74 (.const (.bool false)))])
  (.cond 75 (.seq (.reg [mv 76 0,
 mv 77 1,
 mv 78 2,
 mv 79 4,
 ca 80 131 [76, 77, 78, 79]])
  (.cond 80 .ret .skip)) .skip))
  (.seq (.seq (.reg [mv 81 1,
 oo 82 (.bin .gtr 81 (.const (.int .i64 0))),
 mv 83 82,
 ⟨some 84, .move 4 false, some (83, true)⟩,
 ⟨some 85, .move 0 false, some (83, true)⟩,
 ⟨some 86, .move 1 false, some (83, true)⟩,
 ⟨some 87, .bin .sub 86 (.const (.int .i64 1)), some (83, true)⟩,
 ⟨some 88, .indexAddr 11 85 87, some (83, true)⟩,
 ⟨some 89, .load true 11 88 false, some (83, true)⟩,
 ⟨some 90, .move 0 false, some (83, true)⟩,
 ⟨some 91, .move 13 false, some (83, true)⟩,
 ⟨some 92, .indexAddr 11 90 91, some (83, true)⟩,
 ⟨some 93, .load true 11 92 false, some (83, true)⟩,
 ⟨some 94, .callv 84 [89, 93], some (83, true)⟩,
 ⟨some 95, .bin .lss 94 (.const (.int .i64 0)), some (83, true)⟩,
 ⟨some 96, .un .not 95, some (83, true)⟩,
 oo 97 (.pick 83 96 (.const (.bool false)))])
  (.cond 97 (.seq (.reg [mv 98 0,
 mv 99 1,
 mv 100 2,
 mv 101 13,
 mv 102 4,
 ca 103 132 [98, 99, 100, 101, 102],
 sg 15 103])
  (.seq (.reg [mv 104 15,
 sg 1 104])
  (.exit 1))) .skip))
  (.seq (.reg [mv 106 0,
 mv 107 1,
 mv 108 2,
 mv 109 13,
 mv 110 4,
 ca 111 133 [106, 107, 108, 109, 110],
 mv 105 111,
 oo 112 (.extract 105 0),
 oo 113 (.extract 105 1),
 sg 16 112,
 sg 17 113])
  (.seq (.reg [mv 114 17,
 sg 11 114])
  (.seq (.reg [mv 115 16,
 mv 116 1,
 oo 117 (.bin .sub 115 116),
 mv 118 2,
 mv 119 16,
 oo 120 (.bin .sub 118 119),
 sg 18 117,
 sg 19 120])
  (.seq (.reg [mv 121 12,
 oo 122 (.bin .quo 121 (.const (.int .i64 8))),
 sg 20 122])
  (.seq (.reg [mv 123 18,
 mv 124 19,
 oo 125 (.bin .lss 123 124)])
  (.cond 125 (.seq (.reg [mv 126 18,
 mv 127 20,
 oo 128 (.bin .geq 126 127),
 sg 10 128])
  (.seq (.reg [mv 129 0,
 mv 130 1,
 mv 131 16,
 mv 132 3,
 mv 133 4,
 ca 134 101 [129, 130, 131, 132, 133]])
  (.reg [mv 135 16,
 oo 136 (.bin .add 135 (.const (.int .i64 1))),
 sg 1 136]))) (.seq (.reg [mv 137 19,
 mv 138 20,
 oo 139 (.bin .geq 137 138),
 sg 10 139])
  (.seq (.reg [mv 140 0,
 mv 141 16,
 oo 142 (.bin .add 141 (.const (.int .i64 1))),
 mv 143 2,
 mv 144 3,
 mv 145 4,
 ca 146 101 [140, 142, 143, 144, 145]])
  (.reg [mv 147 16,
 sg 2 147]))))))))))))))))))
def m101 : MFunc :=
 ⟨5, 148, [],
 (.seq (.reg [sg 10 (.const (.bool true))])
  (.seq (.reg [sg 11 (.const (.bool true))])
  (.block 0 (.loop [4, 3, 2, 0, 1, 11, 10] l101_0))))⟩
def m102 : MFunc :=
 ⟨1, 8, [.tmp 2],
 (.seq (.reg [sg 2 (.const (.int .i64 0))])
  (.seq (.cond (.const (.bool false)) (.seq (.reg [mv 3 0,
 oo 4 (.conv .u32 3),
 ca 5 134 [4],
 sg 2 5])
  .ret) .skip)
  (.seq (.reg [mv 6 0,
 ca 7 135 [6],
 sg 2 7])
  .ret)))⟩
def l103_0 : MCode :=
  (.seq (.reg [oo 9 (.bin .lss 8 7)])
  (.seq (.cond 9 .skip (.exit 0))
  (.seq (.block 1 (.seq (.reg [oo 10 (.indexAddr 1 6 8),
 ld 11 10,
 sg 5 11])
  (.seq (.reg [mv 12 5,
 mv 13 3,
 oo 14 (.bin .neq 12 13)])
  (.cond 14 (.seq (.reg [mv 15 5,
 sg 2 15])
  .ret) .skip))))
  (.reg [oo 16 (.bin .add 8 (.const (.int .i64 1))),
 mv 8 16]))))
def m103 : MFunc :=
 ⟨1, 18, [.tmp 2],
 (.seq (.reg [sg 2 (.const (.int .i64 0))])
  (.seq (.reg [sg 3 (.const (.int .i64 0))])
  (.seq (.seq (.reg [mv 6 0,
 ln 7 6,
 mv 8 (.const (.int .i64 0))])
  (.block 0 (.loop [3, 6, 8, 7, 2] l103_0)))
  (.seq (.reg [mv 17 3,
 sg 2 17])
  .ret))))⟩
def m104 : MFunc :=
 ⟨2, 20, [.tmp 4],
 (.seq (.reg [sg 4 (.const (.int .i64 0))])
  (.seq (.reg [mv 7 0,
 ca 8 136 [7],
 sg 5 8])
  (.seq (.reg [mv 9 1,
 ca 10 136 [9],
 sg 6 10])
  (.seq (.seq (.reg [mv 11 5])
  (.cond 11 (.seq (.seq (.reg [mv 12 6])
  (.cond 12 (.seq (.reg [sg 4 (.const (.int .i64 0))])
  .ret) .skip))
  (.seq (.reg [sg 4 (.const (.int .i64 (-1)))])
  .ret)) .skip))
  (.seq (.seq (.reg [mv 13 6])
  (.cond 13 (.seq (.reg [sg 4 (.const (.int .i64 1))])
  .ret) .skip))
  (.seq (.seq (.reg [mv 14 0,
 mv 15 1,
 oo 16 (.bin .lss 14 15)])
  (.cond 16 (.seq (.reg [sg 4 (.const (.int .i64 (-1)))])
  .ret) .skip))
  (.seq (.seq (.reg [mv 17 0,
 mv 18 1,
 oo 19 (.bin .gtr 17 18)])
  (.cond 19 (.seq (.reg [sg 4 (.const (.int .i64 1))])
  .ret) .skip))
  (.seq (.reg [sg 4 (.const (.int .i64 0))])
  .ret))))))))⟩
def m106 : MFunc :=
 ⟨3, 69, [.cell 6 true 3],
 (.seq (.reg [oo 4 (.box 1),
 oo 5 (.box 2),
 oo 6 (.alloc z0)])
  (.seq (.reg [mv 13 0,
 lt 14 12 4,
 ca 15 108 [13, 14],
 mv 12 15,
 oo 16 (.extract 12 0),
 oo 17 (.extract 12 1),
 oo 7 (.alloc z16),
 vv (.store 4 7 16),
 sg 8 17])
  (.seq (.reg [mv 19 0,
 lt 20 12 5,
 ca 21 108 [19, 20],
 mv 18 21,
 oo 22 (.extract 18 0),
 oo 23 (.extract 18 1),
 oo 9 (.alloc z16),
 vv (.store 4 9 22),
 sg 10 23])
  (.seq (.reg [sg 11 (.const (.func 138 []))])
  (.seq (.block 0 (.seq (.reg [mv 25 8,
 mv 26 25,
 ⟨some 27, .move 10 false, some (26, true)⟩,
 oo 28 (.pick 26 27 (.const (.bool false))),
 sg 24 28])
  (.cond 24 (.seq (.reg [mv 29 0,
 lt 30 4 7,
 lt 31 4 9,
 ca 32 139 [29, 30, 31],
 vv (.store 3 6 32)])
  .ret) (.seq (.reg [mv 34 0,
 lt 35 12 4,
 ca 36 110 [34, 35, (.const (.int .i64 5))],
 mv 37 36,
 ⟨some 38, .move 11 false, some (37, true)⟩,
 ⟨some 39, .load true 12 5 false, some (37, true)⟩,
 ⟨some 40, .callv 38 [39], some (37, true)⟩,
 oo 41 (.pick 37 40 (.const (.bool false))),
 sg 33 41])
  (.cond 33 (.seq (.reg [mv 42 0,
 fa 43 9 4,
 ld 44 43,
 fa 45 1 5,
 fa 46 3 45,
 ld 47 46,
 oo 48 (.build z7 [(0, 1, (.const (.int .i64 7))), (5, 1, 44), (6, 1, 47)]),
 ca 49 79 [42, 48],
 vv (.store 3 6 49)])
  .ret) (.seq (.reg [mv 51 0,
 lt 52 12 5,
 ca 53 110 [51, 52, (.const (.int .i64 5))],
 mv 54 53,
 ⟨some 55, .move 11 false, some (54, true)⟩,
 ⟨some 56, .load true 12 4 false, some (54, true)⟩,
 ⟨some 57, .callv 55 [56], some (54, true)⟩,
 oo 58 (.pick 54 57 (.const (.bool false))),
 sg 50 58])
  (.cond 50 (.seq (.reg [mv 59 0,
 fa 60 9 5,
 ld 61 60,
 fa 62 1 4,
 fa 63 3 62,
 ld 64 63,
 oo 65 (.build z7 [(0, 1, (.const (.int .i64 7))), (5, 1, 61), (6, 1, 64)]),
 ca 66 79 [59, 65],
 vv (.store 3 6 66)])
  .ret) .skip)))))))
  (.seq (.reg [mv 67 0,
 ca 68 74 [67],
 vv (.store 3 6 68)])
  .ret))))))⟩
def m108 : MFunc :=
 ⟨2, 61, [.cell 4 true 4, .tmp 5],
 (.seq (.reg [oo 3 (.box 1),
 oo 4 (.alloc z16),
 sg 5 (.const (.bool false))])
  (.seq (.block 0 (.seq (.reg [fa 7 0 3,
 ld 8 7,
 oo 9 (.bin .eql 8 (.const (.int .i64 2))),
 mv 10 9,
 ⟨some 11, .fieldAddr 9 3, some (10, true)⟩,
 ⟨some 12, .load false 1 11 false, some (10, true)⟩,
 ⟨some 13, .bin .eql 12 (.const (.str [112, 114, 105, 110, 99, 105, 112, 97, 108])), some (10, true)⟩,
 oo 14 (.pick 10 13 (.const (.bool false))),
 sg 6 14])
  (.cond 6 (.seq (.reg [mv 15 0,
 ca 16 39 [15],
 oo 17 (.build z16 [(0, 2, 16)]),
 vv (.store 4 4 17),
 sg 5 (.const (.bool true))])
  .ret) (.seq (.reg [fa 19 0 3,
 ld 20 19,
 oo 21 (.bin .eql 20 (.const (.int .i64 2))),
 mv 22 21,
 ⟨some 23, .fieldAddr 9 3, some (22, true)⟩,
 ⟨some 24, .load false 1 23 false, some (22, true)⟩,
 ⟨some 25, .bin .eql 24 (.const (.str [114, 101, 115, 111, 117, 114, 99, 101])), some (22, true)⟩,
 oo 26 (.pick 22 25 (.const (.bool false))),
 sg 18 26])
  (.cond 18 (.seq (.reg [mv 27 0,
 ca 28 40 [27],
 oo 29 (.build z16 [(0, 2, 28)]),
 vv (.store 4 4 29),
 sg 5 (.const (.bool true))])
  .ret) (.seq (.reg [fa 31 0 3,
 ld 32 31,
 oo 33 (.bin .eql 32 (.const (.int .i64 2))),
 mv 34 33,
 ⟨some 35, .fieldAddr 9 3, some (34, true)⟩,
 ⟨some 36, .load false 1 35 false, some (34, true)⟩,
 ⟨some 37, .bin .eql 36 (.const (.str [97, 99, 116, 105, 111, 110])), some (34, true)⟩,
 oo 38 (.pick 34 37 (.const (.bool false))),
 sg 30 38])
  (.cond 30 (.seq (.reg [mv 39 0,
 nc 40 39,
 fa 41 2 40,
 fa 42 1 41,
 ld 43 42,
 oo 44 (.build [.str [], .str []] [(0, 1, (.const (.str [65, 99, 116, 105, 111, 110]))), (1, 1, 43)]),
 oo 45 (.build z16 [(2, 2, 44)]),
 vv (.store 4 4 45),
 sg 5 (.const (.bool true))])
  .ret) (.seq (.reg [fa 47 0 3,
 ld 48 47,
 oo 49 (.bin .eql 48 (.const (.int .i64 1))),
 mv 50 49,
 ⟨some 51, .fieldAddr 1 3, some (50, true)⟩,
 ⟨some 52, .fieldAddr 0 51, some (50, true)⟩,
 ⟨some 53, .load false 1 52 false, some (50, true)⟩,
 ⟨some 54, .bin .eql 53 (.const (.int .i64 4)), some (50, true)⟩,
 oo 55 (.pick 50 54 (.const (.bool false))),
 sg 46 55])
  (.cond 46 (.seq (.reg [fa 56 1 3,
 fa 57 4 56,
 lt 58 2 57,
 oo 59 (.build z16 [(2, 2, 58)]),
 vv (.store 4 4 59),
 sg 5 (.const (.bool true))])
  .ret) .skip)))))))))
  (.seq (.reg [oo 60 (.build z16 []),
 vv (.store 4 4 60),
 sg 5 (.const (.bool false))])
  .ret)))⟩
def m110 : MFunc :=
 ⟨3, 70, [.tmp 6],
 (.seq (.reg [oo 4 (.box 1),
 sg 6 (.const (.bool false))])
  (.seq (.seq (.reg [fa 11 0 4,
 ld 12 11,
 oo 13 (.bin .neq 12 (.const (.int .i64 18))),
 mv 14 13,
 ⟨some 15, .fieldAddr 10 4, some (14, false)⟩,
 ⟨some 16, .load false 1 15 false, some (14, false)⟩,
 ⟨some 17, .len 0 16, some (14, false)⟩,
 ⟨some 18, .bin .neq 17 (.const (.int .i64 1)), some (14, false)⟩,
 oo 19 (.pick 14 (.const (.bool true)) 18),
 mv 20 19,
 ⟨some 21, .fieldAddr 10 4, some (20, false)⟩,
 ⟨some 22, .load false 1 21 false, some (20, false)⟩,
 ⟨some 23, .indexAddr 12 22 (.const (.int .i64 0)), some (20, false)⟩,
 ⟨some 24, .fieldAddr 0 23, some (20, false)⟩,
 ⟨some 25, .load false 1 24 false, some (20, false)⟩,
 ⟨some 26, .bin .neq 25 (.const (.int .i64 2)), some (20, false)⟩,
 oo 27 (.pick 20 (.const (.bool true)) 26),
 mv 28 27,
 ⟨some 29, .fieldAddr 10 4, some (28, false)⟩,
 ⟨some 30, .load false 1 29 false, some (28, false)⟩,
 ⟨some 31, .indexAddr 12 30 (.const (.int .i64 0)), some (28, false)⟩,
 ⟨some 32, .fieldAddr 9 31, some (28, false)⟩,
 ⟨some 33, .load false 1 32 false, some (28, false)⟩,
 ⟨some 34, .bin .neq 33 (.const (.str [99, 111, 110, 116, 101, 120, 116])), some (28, false)⟩,
 oo 35 (.pick 28 (.const (.bool true)) 34)])
  (.cond 35 (.seq (.reg [sg 6 (.const (.bool false))])
  .ret) .skip))
  (.seq (.reg [mv 37 0,
 nc 38 37,
 fa 39 0 38,
 oo 40 (.loadA 7 true 2 39),
 mv 41 0,
 nc 42 41,
 fa 43 2 42,
 fa 44 1 43,
 oo 45 (.loadA 7 false 1 44),
 oo 46 (.callS 62 [40, 45]),
 mv 36 46,
 oo 47 (.extract 36 0),
 oo 48 (.extract 36 1),
 oo 7 (.allocR z11),
 vv (.storeR 5 7 47),
 sg 8 48])
  (.seq (.reg [fa 50 4 7,
 ld 51 50,
 fa 52 9 4,
 ld 53 52,
 ca 54 141 [51, 53],
 mv 49 54,
 oo 55 (.extract 49 0),
 oo 56 (.extract 49 1),
 oo 9 (.alloc z13),
 vv (.store 6 9 55),
 sg 10 56])
  (.seq (.reg [mv 57 10,
 mv 58 57,
 ⟨some 59, .fieldAddr 1 9, some (58, true)⟩,
 ⟨some 60, .fieldAddr 0 59, some (58, true)⟩,
 ⟨some 61, .load false 1 60 false, some (58, true)⟩,
 ⟨some 62, .move 2 false, some (58, true)⟩,
 ⟨some 63, .bin .eql 61 62, some (58, true)⟩,
 oo 64 (.pick 58 63 (.const (.bool false))),
 mv 65 64,
 ⟨some 66, .fieldAddr 5 9, some (65, true)⟩,
 ⟨some 67, .load false 1 66 false, some (65, true)⟩,
 ⟨some 68, .un .not 67, some (65, true)⟩,
 oo 69 (.pick 65 68 (.const (.bool false))),
 sg 6 69])
  .ret)))))⟩
def l111_0 : MCode :=
  (.block 1 (.seq (.reg [mv 21 2,
 mv 22 1,
 oo 23 (.bin .sub 21 22),
 sg 12 23])
  (.seq (.seq (.reg [mv 24 12,
 oo 25 (.bin .leq 24 (.const (.int .i64 12)))])
  (.cond 25 (.seq (.reg [mv 26 0,
 mv 27 1,
 mv 28 2,
 mv 29 4,
 ca 30 142 [26, 27, 28, 29]])
  .ret) .skip))
  (.seq (.seq (.reg [mv 31 3,
 oo 32 (.bin .eql 31 (.const (.int .i64 0)))])
  (.cond 32 (.seq (.reg [mv 33 0,
 mv 34 1,
 mv 35 2,
 mv 36 4,
 ca 37 143 [33, 34, 35, 36]])
  .ret) .skip))
  (.seq (.seq (.reg [mv 38 10,
 oo 39 (.un .not 38)])
  (.cond 39 (.seq (.reg [mv 40 0,
 mv 41 1,
 mv 42 2,
 mv 43 4,
 ca 44 144 [40, 41, 42, 43]])
  (.reg [mv 45 3,
 oo 46 (.bin .sub 45 (.const (.int .i64 1))),
 sg 3 46])) .skip))
  (.seq (.reg [mv 48 0,
 mv 49 1,
 mv 50 2,
 mv 51 4,
 ca 52 145 [48, 49, 50, 51],
 mv 47 52,
 oo 53 (.extract 47 0),
 oo 54 (.extract 47 1),
 sg 13 53,
 sg 14 54])
  (.seq (.seq (.reg [mv 55 14,
 oo 56 (.bin .eql 55 (.const (.int .i64 2)))])
  (.cond 56 (.seq (.reg [mv 57 0,
 mv 58 1,
 mv 59 2,
 mv 60 4,
 ca 61 146 [57, 58, 59, 60]])
  (.seq (.reg [mv 62 2,
 oo 63 (.bin .sub 62 (.const (.int .i64 1))),
 mv 64 13,
 mv 65 1,
 oo 66 (.bin .sub 64 65),
 oo 67 (.bin .sub 63 66),
 sg 13 67])
  (.reg [sg 14 (.const (.int .i64 1))]))) .skip))
  (.seq (.seq (.reg [mv 68 10,
 mv 69 68,
 ⟨some 70, .move 11 false, some (69, true)⟩,
 oo 71 (.pick 69 70 (.const (.bool false))),
 mv 72 71,
 ⟨some 73, .move 14 false, some (72, true)⟩,
 ⟨some 74, .bin .eql 73 (.const (.int .i64 1)), some (72, true)⟩,
 oo 75 (.pick 72 74 (.const (.bool false)))])
  (.cond 75 (.seq (.reg [mv 76 0,
 mv 77 1,
 mv 78 2,
 mv 79 4,
 ca 80 147 [76, 77, 78, 79]])
  (.cond 80 .ret .skip)) .skip))
  (.seq (.seq (.reg [mv 81 1,
 oo 82 (.bin .gtr 81 (.const (.int .i64 0))),
 mv 83 82,
 ⟨some 84, .move 4 false, some (83, true)⟩,
 ⟨some 85, .move 0 false, some (83, true)⟩,
 ⟨some 86, .move 1 false, some (83, true)⟩,
 ⟨some 87, .bin .sub 86 (.const (.int .i64 1)), some (83, true)⟩,
 ⟨some 88, .indexAddr 2 85 87, some (83, true)⟩,
 ⟨some 89, .load true 2 88 false, some (83, true)⟩,
 ⟨some 90, .move 0 false, some (83, true)⟩,
 ⟨some 91, .move 13 false, some (83, true)⟩,
 ⟨some 92, .indexAddr 2 90 91, some (83, true)⟩,
 ⟨some 93, .load true 2 92 false, some (83, true)⟩,
 ⟨some 94, .callv 84 [89, 93], some (83, true)⟩,
 ⟨some 95, .bin .lss 94 (.const (.int .i64 0)), some (83, true)⟩,
 ⟨some 96, .un .not 95, some (83, true)⟩,
 oo 97 (.pick 83 96 (.const (.bool false)))])
  (.cond 97 (.seq (.reg [mv 98 0,
 mv 99 1,
 mv 100 2,
 mv 101 13,
 mv 102 4,
 ca 103 148 [98, 99, 100, 101, 102],
 sg 15 103])
  (.seq (.reg [mv 104 15,
 sg 1 104])
  (.exit 1))) .skip))
  (.seq (.reg [mv 106 0,
 mv 107 1,
 mv 108 2,
 mv 109 13,
 mv 110 4,
 ca 111 149 [106, 107, 108, 109, 110],
 mv 105 111,
 oo 112 (.extract 105 0),
 oo 113 (.extract 105 1),
 sg 16 112,
 sg 17 113])
  (.seq (.reg [mv 114 17,
 sg 11 114])
  (.seq (.reg [mv 115 16,
 mv 116 1,
 oo 117 (.bin .sub 115 116),
 mv 118 2,
 mv 119 16,
 oo 120 (.bin .sub 118 119),
 sg 18 117,
 sg 19 120])
  (.seq (.reg [mv 121 12,
 oo 122 (.bin .quo 121 (.const (.int .i64 8))),
 sg 20 122])
  (.seq (.reg [mv 123 18,
 mv 124 19,
 oo 125 (.bin .lss 123 124)])
  (.cond 125 (.seq (.reg [mv 126 18,
 mv 127 20,
 oo 128 (.bin .geq 126 127),
 sg 10 128])
  (.seq (.reg [mv 129 0,
 mv 130 1,
 mv 131 16,
 mv 132 3,
 mv 133 4,
 ca 134 111 [129, 130, 131, 132, 133]])
  (.reg [mv 135 16,
 oo 136 (.bin .add 135 (.const (.int .i64 1))),
 sg 1 136]))) (.seq (.reg [mv 137 19,
 mv 138 20,
 oo 139 (.bin .geq 137 138),
 sg 10 139])
  (.seq (.reg [mv 140 0,
 mv 141 16,
 oo 142 (.bin .add 141 (.const (.int .i64 1))),
 mv 143 2,
 mv 144 3,
 mv 145 4,
 ca 146 111 [140, 142, 143, 144, 145]])
  (.reg [mv 147 16,
 sg 2 147]))))))))))))))))))
def m111 : MFunc :=
 ⟨5, 148, [],
 (.seq (.reg [sg 10 (.const (.bool true))])
  (.seq (.reg [sg 11 (.const (.bool true))])
  (.block 0 (.loop [4, 3, 2, 0, 1, 11, 10] l111_0))))⟩
def l112_0 : MCode :=
  (.seq (.reg [oo 34 (.bin .lss 33 32)])
  (.seq (.cond 34 .skip (.exit 2))
  (.seq (.block 3 (.seq (.reg [oo 35 (.indexAddr 1 31 33),
 ld 36 35,
 sg 11 36])
  (.seq (.seq (.reg [mv 37 11,
 mv 38 1,
 oo 39 (.bin .eql 37 38)])
  (.cond 39 (.seq (.reg [sg 6 (.const (.bool true))])
  .ret) .skip))
  (.seq (.reg [mv 40 7,
 mv 41 11,
 oo 42 (.lookup 1 false [.bool false] 40 41 false),
 oo 43 (.un .not 42)])
  (.cond 43 (.seq (.reg [mv 44 7,
 mv 45 11,
 vv (.mapUpdate 1 44 45 (.const (.bool true)))])
  (.reg [oo 46 (.move 8 true),
 mv 47 11,
 oo 48 (.buildSlice 9 1 1 [.str []] [(0, 47)]),
 oo 49 (.append 9 1 16 true 46 48),
 sg 8 49])) .skip)))))
  (.reg [oo 50 (.bin .add 33 (.const (.int .i64 1))),
 mv 33 50]))))
def l112_1 : MCode :=
  (.seq (.seq (.reg [mv 15 8,
 ln 16 15,
 oo 17 (.bin .gtr 16 (.const (.int .i64 0)))])
  (.cond 17 .skip (.exit 0)))
  (.block 1 (.seq (.reg [mv 18 8,
 mv 19 8,
 ln 20 19,
 oo 21 (.bin .sub 20 (.const (.int .i64 1))),
 oo 22 (.indexAddr 1 18 21),
 ld 23 22,
 sg 9 23])
  (.seq (.reg [mv 24 8,
 mv 25 8,
 ln 26 25,
 oo 27 (.bin .sub 26 (.const (.int .i64 1))),
 oo 28 (.slice 1 24 none (some 27)),
 sg 8 28])
  (.seq (.reg [mv 29 2,
 mv 30 9,
 oo 31 (.callv 29 [30]),
 ln 32 31,
 mv 33 (.const (.int .i64 0))])
  (.block 2 (.loop [8, 2, 7, 1, 31, 33, 32, 6] l112_0)))))))
def m112 : MFunc :=
 ⟨3, 51, [.tmp 6],
 (.seq (.reg [sg 6 (.const (.bool false))])
  (.seq (.reg [oo 12 (.mkmap),
 sg 7 12])
  (.seq (.reg [mv 13 0,
 oo 14 (.buildM 9 1 1 [.str []] [(0, 13)]),
 sg 8 14])
  (.seq (.block 0 (.loop [8, 2, 7, 1, 6] l112_1))
  (.seq (.reg [sg 6 (.const (.bool false))])
  .ret)))))⟩
def m113 : MFunc :=
 ⟨2, 14, [.tmp 3],
 (.seq (.reg [sg 3 (.const (.sl [] (some 9)))])
  (.seq (.reg [lt 7 2 1,
 mv 8 0,
 ca 9 99 [7, 8],
 mv 6 9,
 oo 10 (.extract 6 0),
 oo 11 (.extract 6 1),
 oo 4 (.alloc z19),
 vv (.store 3 4 10),
 sg 5 11])
  (.seq (.reg [fa 12 1 4,
 ld 13 12,
 sg 3 13])
  .ret)))⟩
def l115_0 : MCode :=
  (.seq (.reg [oo 12 (.bin .lss 11 10)])
  (.seq (.cond 12 .skip (.exit 0))
  (.seq (.block 1 (.seq (.reg [oo 13 (.indexAddr 1 9 11),
 ld 14 13,
 sg 8 14])
  (.seq (.reg [mv 15 0,
 mv 16 8,
 ca 17 151 [15, 16]])
  (.block 2 (.seq (.reg [oo 19 (.bin .eql 17 (.const (.int .i64 1))),
 sg 18 19])
  (.cond 18 (.seq (.reg [sg 4 (.const (.int .i64 0)),
 sg 5 (.const (.bool true))])
  .ret) (.seq (.reg [oo 21 (.bin .eql 17 (.const (.int .i64 0))),
 sg 20 21])
  (.cond 20 (.seq (.seq (.reg [mv 22 6,
 oo 23 (.bin .neq 22 (.const (.int .i64 0))),
 mv 24 23,
 ⟨some 25, .move 6 false, some (24, true)⟩,
 ⟨some 26, .move 8 false, some (24, true)⟩,
 ⟨some 27, .bin .neq 25 26, some (24, true)⟩,
 oo 28 (.pick 24 27 (.const (.bool false)))])
  (.cond 28 (.seq (.reg [sg 4 (.const (.int .i64 0)),
 sg 5 (.const (.bool true))])
  .ret) .skip))
  (.reg [mv 29 8,
 sg 6 29])) .skip))))))))
  (.reg [oo 30 (.bin .add 11 (.const (.int .i64 1))),
 mv 11 30]))))
def m115 : MFunc :=
 ⟨2, 34, [.tmp 4, .tmp 5],
 (.seq (.reg [sg 4 (.const (.int .i64 0)),
 sg 5 (.const (.bool false))])
  (.seq (.reg [sg 6 (.const (.int .i64 0))])
  (.seq (.seq (.reg [mv 9 1,
 ln 10 9,
 mv 11 (.const (.int .i64 0))])
  (.block 0 (.loop [6, 9, 0, 11, 10, 5, 4] l115_0)))
  (.seq (.reg [mv 31 6,
 mv 32 6,
 oo 33 (.bin .neq 32 (.const (.int .i64 0))),
 sg 4 31,
 sg 5 33])
  .ret))))⟩
def l116_0 : MCode :=
  (.seq (.reg [oo 10 (.bin .lss 9 8)])
  (.seq (.cond 10 .skip (.exit 0))
  (.seq (.block 1 (.seq (.reg [oo 11 (.indexAddr 1 7 9),
 ld 12 11,
 sg 6 12])
  (.seq (.reg [mv 13 6,
 mv 14 1,
 oo 15 (.bin .neq 13 14),
 mv 16 15,
 ⟨some 17, .load false 1 2 false, some (16, true)⟩,
 ⟨some 18, .move 6 false, some (16, true)⟩,
 ⟨some 19, .call 93 [17, 18], some (16, true)⟩,
 ⟨some 20, .un .not 19, some (16, true)⟩,
 oo 21 (.pick 16 20 (.const (.bool false)))])
  (.cond 21 (.reg [oo 22 (.load false 1 2 true),
 mv 23 6,
 oo 24 (.buildSlice 3 1 1 [.int .i64 0] [(0, 23)]),
 oo 25 (.append 3 1 8 false 22 24),
 vv (.store 1 2 25)]) .skip))))
  (.reg [oo 26 (.bin .add 9 (.const (.int .i64 1))),
 mv 9 26]))))
def m116 : MFunc :=
 ⟨3, 27, [],
 (.seq (.reg [mv 7 0,
 ln 8 7,
 mv 9 (.const (.int .i64 0))])
  (.block 0 (.loop [7, 1, 2, 9, 8] l116_0)))⟩
def l123_0 : MCode :=
  (.seq (.reg [oo 9 (.bin .lss 8 7)])
  (.seq (.cond 9 .skip (.exit 0))
  (.seq (.block 1 (.seq (.reg [mv 10 8,
 sg 5 10])
  (.seq (.reg [mv 11 1,
 mv 12 0,
 mv 13 5,
 oo 14 (.indexAddr 3 12 13),
 lt 15 3 14,
 oo 16 (.callv 11 [15])])
  (.cond 16 (.seq (.reg [mv 17 5,
 sg 4 17])
  .ret) .skip))))
  (.reg [oo 18 (.bin .add 8 (.const (.int .i64 1))),
 mv 8 18]))))
def m123 : MFunc :=
 ⟨2, 19, [.tmp 4],
 (.seq (.reg [sg 4 (.const (.int .i64 0))])
  (.seq (.seq (.reg [mv 6 0,
 ln 7 6,
 mv 8 (.const (.int .i64 0))])
  (.block 0 (.loop [1, 0, 8, 7, 4] l123_0)))
  (.seq (.reg [sg 4 (.const (.int .i64 (-1)))])
  .ret)))⟩
def m124 : MFunc :=
 ⟨2, 8, [.tmp 3],
 (.seq (.reg [oo 2 (.box 0),
 sg 3 (.const (.bool false))])
  (.seq (.reg [fa 4 0 2,
 ld 5 4,
 ld 6 1,
 oo 7 (.bin .eql 5 6),
 sg 3 7])
  .ret))⟩
end Go.Abs.W
