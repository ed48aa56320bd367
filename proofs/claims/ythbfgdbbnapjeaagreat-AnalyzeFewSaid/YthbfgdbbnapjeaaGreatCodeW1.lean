/-
  A part of AnalyzeFew's proof.
-/
import Derived.Test.YthbfgdbbnapjeaaGreatCodeW0
set_option linter.unusedVariables false
set_option linter.unusedSimpArgs false
namespace Go.Abs.W
open Go Go.Abs
def l3_0 : MCode :=
  (.seq (.seq (.reg [mv 31 11,
 oo 32 (.bin .lss 31 (.const (.int .i64 4)))])
  (.cond 32 .skip (.exit 0)))
  (.seq (.block 1 (.seq (.reg [mv 35 9,
 mv 36 35,
 ⟨some 37, .move 0 false, some (36, true)⟩,
 ⟨some 38, .move 11 false, some (36, true)⟩,
 ⟨some 39, .call 6 [37, 38], some (36, true)⟩,
 ⟨some 40, .move 1 false, some (36, true)⟩,
 ⟨some 41, .move 11 false, some (36, true)⟩,
 ⟨some 42, .call 6 [40, 41], some (36, true)⟩,
 ⟨some 43, .eqb false 39 42, some (36, true)⟩,
 oo 44 (.pick 36 43 (.const (.bool false))),
 sg 9 44])
  (.reg [mv 45 10,
 mv 46 45,
 ⟨some 47, .move 0 false, some (46, false)⟩,
 ⟨some 48, .move 11 false, some (46, false)⟩,
 ⟨some 49, .conv .u64 48, some (46, false)⟩,
 ⟨some 50, .bin .shr 47 49, some (46, false)⟩,
 ⟨some 51, .bin .and 50 (.const (.int .u8 1)), some (46, false)⟩,
 ⟨some 52, .bin .eql 51 (.const (.int .u8 1)), some (46, false)⟩,
 ⟨some 53, .move 52 false, some (46, false)⟩,
 ⟨some 54, .move 0 false, some (53, true)⟩,
 ⟨some 55, .move 11 false, some (53, true)⟩,
 ⟨some 56, .bin .add (.const (.int .i64 4)) 55, some (53, true)⟩,
 ⟨some 57, .conv .u64 56, some (53, true)⟩,
 ⟨some 58, .bin .shr 54 57, some (53, true)⟩,
 ⟨some 59, .bin .and 58 (.const (.int .u8 1)), some (53, true)⟩,
 ⟨some 60, .bin .eql 59 (.const (.int .u8 1)), some (53, true)⟩,
 ⟨some 61, .pick 53 60 (.const (.bool false)), some (46, false)⟩,
 oo 62 (.pick 46 (.const (.bool true)) 61),
 sg 10 62])))
  (.reg [mv 33 11,
 oo 34 (.bin .add 33 (.const (.int .i64 1))),
 sg 11 34])))
def m3 : MFunc :=
 ⟨2, 98, [.tmp 4],
 (.seq (.reg [sg 4 (.const (.bool false))])
  (.seq (.reg [ca 14 4 [],
 sg 5 14])
  (.seq (.seq (.reg [mv 15 5,
 oo 16 (.un .not 15)])
  (.cond 16 (.seq (.reg [sg 4 (.const (.bool false))])
  .ret) .skip))
  (.seq (.reg [oo 17 (.build [.str [], .nils 9, .nils 32] [(0, 1, (.const (.str [85])))]),
 oo 18 (.buildSlice 26 3 1 z19 [(0, 17)]),
 oo 19 (.buildSlice 9 1 1 [.str []] [(0, (.const (.str [85])))]),
 oo 20 (.buildSlice 9 1 1 [.str []] [(0, (.const (.str [85])))]),
 oo 21 (.build [.int .i64 0, .str [], .nils 30, .nils 32] [(0, 1, (.const (.int .i64 3)))]),
 oo 22 (.build [.str [], .int .i64 0, .str [], .nils 30, .nils 32, .bool false] [(0, 1, (.const (.str [97]))), (1, 4, 21)]),
 oo 23 (.buildSlice 32 6 1 z13 [(0, 22)]),
 oo 24 (.build z22 [(0, 1, (.const (.str [118]))), (2, 1, 19), (3, 1, 20), (4, 1, 23)]),
 oo 25 (.buildSlice 34 5 1 z11 [(0, 24)]),
 oo 26 (.build [.nils 26, .nils 34] [(0, 1, 18), (1, 1, 25)]),
 oo 6 (.alloc [.sl [] (some 26), .sl [] (some 34)]),
 vv (.store 2 6 26)])
  (.seq (.reg [mv 27 0,
 ca 28 5 [27],
 sg 7 28])
  (.seq (.reg [mv 29 1,
 ca 30 5 [29],
 sg 8 30])
  (.seq (.reg [sg 9 (.const (.bool true))])
  (.seq (.reg [sg 10 (.const (.bool false))])
  (.seq (.seq (.reg [sg 11 (.const (.int .i64 0))])
  (.block 0 (.loop [10, 9, 7, 6, 8, 1, 0, 11, 4] l3_0)))
  (.seq (.reg [lt 63 2 6,
 mv 64 7,
 mv 65 8,
 ca 66 7 [63, 64, 65, (.const (.int .i64 7))],
 oo 12 (.alloc z1),
 vv (.store 17 12 66)])
  (.seq (.reg [lt 67 2 6,
 mv 68 7,
 ca 69 8 [67, 68, (.const (.int .i64 7))],
 oo 13 (.alloc z1),
 vv (.store 17 13 69)])
  (.seq (.reg [fa 70 0 12,
 ld 71 70,
 oo 72 (.bin .eql 71 (.const (.int .i64 1))),
 mv 73 9,
 oo 74 (.eqb false 72 73),
 mv 75 74,
 ⟨some 76, .fieldAddr 0 12, some (75, true)⟩,
 ⟨some 77, .load false 1 76 false, some (75, true)⟩,
 ⟨some 78, .bin .eql 77 (.const (.int .i64 2)), some (75, true)⟩,
 ⟨some 79, .move 9 false, some (75, true)⟩,
 ⟨some 80, .un .not 79, some (75, true)⟩,
 ⟨some 81, .eqb false 78 80, some (75, true)⟩,
 oo 82 (.pick 75 81 (.const (.bool false))),
 mv 83 82,
 ⟨some 84, .fieldAddr 0 13, some (83, true)⟩,
 ⟨some 85, .load false 1 84 false, some (83, true)⟩,
 ⟨some 86, .bin .eql 85 (.const (.int .i64 1)), some (83, true)⟩,
 ⟨some 87, .move 10 false, some (83, true)⟩,
 ⟨some 88, .eqb false 86 87, some (83, true)⟩,
 oo 89 (.pick 83 88 (.const (.bool false))),
 mv 90 89,
 ⟨some 91, .fieldAddr 0 13, some (90, true)⟩,
 ⟨some 92, .load false 1 91 false, some (90, true)⟩,
 ⟨some 93, .bin .eql 92 (.const (.int .i64 2)), some (90, true)⟩,
 ⟨some 94, .move 10 false, some (90, true)⟩,
 ⟨some 95, .un .not 94, some (90, true)⟩,
 ⟨some 96, .eqb false 93 95, some (90, true)⟩,
 oo 97 (.pick 90 96 (.const (.bool false))),
 sg 4 97])
  .ret))))))))))))⟩
def m4 : MFunc :=
 ⟨0, 80, [.tmp 0],
 (.seq (.reg [sg 0 (.const (.bool false))])
  (.seq (.reg [oo 9 (.build [.str [], .nils 9, .nils 32] [(0, 1, (.const (.str [85])))]),
 oo 10 (.buildSlice 26 3 1 z19 [(0, 9)]),
 oo 11 (.buildSlice 9 1 1 [.str []] [(0, (.const (.str [85])))]),
 oo 12 (.buildSlice 9 1 1 [.str []] [(0, (.const (.str [85])))]),
 oo 13 (.build z22 [(0, 1, (.const (.str [118]))), (2, 1, 11), (3, 1, 12)]),
 oo 14 (.buildSlice 34 5 1 z11 [(0, 13)]),
 oo 15 (.build [.nils 26, .nils 34] [(0, 1, 10), (1, 1, 14)]),
 oo 1 (.alloc [.sl [] (some 26), .sl [] (some 34)]),
 vv (.store 2 1 15)])
  (.seq (.reg [oo 16 (.build z3 [(0, 1, (.const (.int .i64 1)))]),
 oo 17 (.build z9 [(0, 1, (.const (.int .i64 1))), (1, 8, 16)]),
 oo 18 (.build z14 [(0, 1, (.const (.bool true))), (1, 12, 17)]),
 oo 19 (.buildSlice 59 13 1 z12 [(0, 18)]),
 oo 20 (.build z6 [(0, 1, (.const (.str [120]))), (1, 1, (.const (.bool true))), (20, 1, 19)]),
 oo 21 (.buildSlice 65 21 1 z2 [(0, 20)]),
 sg 2 21])
  (.seq (.reg [oo 22 (.build z6 [(0, 1, (.const (.str [121]))), (1, 1, (.const (.bool true)))]),
 oo 23 (.build z6 [(0, 1, (.const (.str [122])))]),
 oo 24 (.buildSlice 65 21 2 z2 [(0, 22), (1, 23)]),
 sg 3 24])
  (.seq (.reg [lt 25 2 1,
 mv 26 2,
 oo 27 (.call 9 [25, 26, (.const (.str [120])), (.const (.int .i64 9))]),
 oo 4 (.alloc z1),
 vv (.store 17 4 27)])
  (.seq (.reg [lt 28 2 1,
 mv 29 3,
 mv 30 3,
 ca 31 7 [28, 29, 30, (.const (.int .i64 9))],
 oo 5 (.alloc z1),
 vv (.store 17 5 31)])
  (.seq (.reg [lt 32 2 1,
 mv 33 3,
 ca 34 8 [32, 33, (.const (.int .i64 9))],
 oo 6 (.alloc z1),
 vv (.store 17 6 34)])
  (.seq (.reg [oo 35 (.loadA 7 true 2 1),
 mv 36 3,
 oo 37 (.slice 21 36 none (some (.const (.int .i64 1)))),
 mv 38 2,
 oo 39 (.callS 7 [35, 37, 38, (.const (.int .i64 9))]),
 oo 7 (.allocR z1),
 vv (.storeR 17 7 39)])
  (.seq (.reg [lt 40 2 1,
 mv 41 3,
 oo 42 (.call 10 [40, 41, (.const (.str [121])), (.const (.int .i64 9))]),
 oo 8 (.alloc z1),
 vv (.store 17 8 42)])
  (.seq (.reg [fa 43 0 4,
 ld 44 43,
 oo 45 (.bin .eql 44 (.const (.int .i64 2))),
 mv 46 45,
 ⟨some 47, .fieldAddr 0 5, some (46, true)⟩,
 ⟨some 48, .load false 1 47 false, some (46, true)⟩,
 ⟨some 49, .bin .eql 48 (.const (.int .i64 1)), some (46, true)⟩,
 oo 50 (.pick 46 49 (.const (.bool false))),
 mv 51 50,
 ⟨some 52, .fieldAddr 0 6, some (51, true)⟩,
 ⟨some 53, .load false 1 52 false, some (51, true)⟩,
 ⟨some 54, .bin .eql 53 (.const (.int .i64 1)), some (51, true)⟩,
 oo 55 (.pick 51 54 (.const (.bool false))),
 mv 56 55,
 ⟨some 57, .fieldAddr 1 6, some (56, true)⟩,
 ⟨some 58, .load false 1 57 false, some (56, true)⟩,
 oo 59 (.pick 56 58 (.const (.bool false))),
 mv 60 59,
 ⟨some 61, .fieldAddr 16 6, some (60, true)⟩,
 ⟨some 62, .load false 1 61 false, some (60, true)⟩,
 ⟨some 63, .len 0 62, some (60, true)⟩,
 ⟨some 64, .bin .gtr 63 (.const (.int .i64 0)), some (60, true)⟩,
 oo 65 (.pick 60 64 (.const (.bool false))),
 mv 66 65,
 ⟨some 67, .fieldAddr 0 7, some (66, true)⟩,
 ⟨some 68, .load false 1 67 false, some (66, true)⟩,
 ⟨some 69, .bin .eql 68 (.const (.int .i64 2)), some (66, true)⟩,
 oo 70 (.pick 66 69 (.const (.bool false))),
 mv 71 70,
 ⟨some 72, .fieldAddr 1 7, some (71, true)⟩,
 ⟨some 73, .load false 1 72 false, some (71, true)⟩,
 oo 74 (.pick 71 73 (.const (.bool false))),
 mv 75 74,
 ⟨some 76, .fieldAddr 0 8, some (75, true)⟩,
 ⟨some 77, .load false 1 76 false, some (75, true)⟩,
 ⟨some 78, .bin .eql 77 (.const (.int .i64 1)), some (75, true)⟩,
 oo 79 (.pick 75 78 (.const (.bool false))),
 sg 0 79])
  .ret))))))))))⟩
def l5_0 : MCode :=
  (.seq (.seq (.reg [mv 7 4,
 oo 8 (.bin .lss 7 (.const (.int .i64 8)))])
  (.cond 8 .skip (.exit 0)))
  (.seq (.block 1 (.seq (.seq (.reg [mv 11 0,
 mv 12 4,
 oo 13 (.conv .u64 12),
 oo 14 (.bin .shr 11 13),
 oo 15 (.bin .and 14 (.const (.int .u8 1))),
 oo 16 (.bin .eql 15 (.const (.int .u8 0)))])
  (.cond 16 (.exit 1) .skip))
  (.seq (.reg [oo 17 (.build z9 [(0, 1, (.const (.int .i64 2))), (9, 1, (.const (.str [112, 114, 105, 110, 99, 105, 112, 97, 108])))]),
 oo 18 (.build [.str [], .str []] [(0, 1, (.const (.str [85]))), (1, 1, (.const (.str [120])))]),
 oo 19 (.build z3 [(0, 1, (.const (.int .i64 4))), (4, 2, 18)]),
 oo 20 (.build z9 [(0, 1, (.const (.int .i64 1))), (1, 8, 19)]),
 oo 21 (.buildSlice 57 12 2 z8 [(0, 17), (1, 20)]),
 oo 22 (.build z9 [(0, 1, (.const (.int .i64 8))), (10, 1, 21)]),
 oo 5 (.alloc z8),
 vv (.store 12 5 22)])
  (.seq (.reg [oo 23 (.build z9 [(0, 1, (.const (.int .i64 2))), (9, 1, (.const (.str [99, 111, 110, 116, 101, 120, 116])))]),
 oo 24 (.buildSlice 57 12 1 z8 [(0, 23)]),
 oo 25 (.build z9 [(0, 1, (.const (.int .i64 18))), (9, 1, (.const (.str [97]))), (10, 1, 24)]),
 oo 6 (.alloc z8),
 vv (.store 12 6 25)])
  (.reg [oo 26 (.move 3 true),
 mv 27 4,
 mv 28 4,
 oo 29 (.bin .add 28 (.const (.int .i64 1))),
 oo 30 (.sliceStr (.const (.str [97, 98, 99, 100, 101, 102, 103, 104])) (some 27) (some 29)),
 mv 31 4,
 oo 32 (.bin .lss 31 (.const (.int .i64 4))),
 mv 33 4,
 oo 34 (.bin .and 33 (.const (.int .i64 1))),
 oo 35 (.bin .eql 34 (.const (.int .i64 1))),
 lt 36 12 5,
 oo 37 (.build z14 [(0, 1, 35), (1, 12, 36)]),
 mv 38 4,
 oo 39 (.bin .and 38 (.const (.int .i64 2))),
 oo 40 (.bin .eql 39 (.const (.int .i64 2))),
 lt 41 12 6,
 oo 42 (.build z14 [(0, 1, 40), (1, 12, 41)]),
 oo 43 (.buildSlice 59 13 2 z12 [(0, 37), (1, 42)]),
 oo 44 (.build z6 [(0, 1, 30), (1, 1, 32), (20, 1, 43)]),
 oo 45 (.buildSlice 65 21 1 z2 [(0, 44)]),
 oo 46 (.append 65 21 312 false 26 45),
 sg 3 46])))))
  (.reg [mv 9 4,
 oo 10 (.bin .add 9 (.const (.int .i64 1))),
 sg 4 10])))
def m5 : MFunc :=
 ⟨1, 48, [.tmp 2],
 (.seq (.reg [sg 2 (.const (.sl [] (some 65)))])
  (.seq (.reg [sg 3 (.const (.sl [] (some 65)))])
  (.seq (.seq (.reg [sg 4 (.const (.int .i64 0))])
  (.block 0 (.loop [3, 0, 4, 2] l5_0)))
  (.seq (.reg [mv 47 3,
 sg 2 47])
  .ret))))⟩
def m6 : MFunc :=
 ⟨2, 20, [.tmp 4],
 (.seq (.reg [sg 4 (.const (.bool false))])
  (.seq (.reg [mv 5 0,
 mv 6 1,
 oo 7 (.conv .u64 6),
 oo 8 (.bin .shr 5 7),
 oo 9 (.bin .and 8 (.const (.int .u8 1))),
 oo 10 (.bin .eql 9 (.const (.int .u8 1))),
 mv 11 10,
 ⟨some 12, .move 0 false, some (11, true)⟩,
 ⟨some 13, .move 1 false, some (11, true)⟩,
 ⟨some 14, .bin .add (.const (.int .i64 4)) 13, some (11, true)⟩,
 ⟨some 15, .conv .u64 14, some (11, true)⟩,
 ⟨some 16, .bin .shr 12 15, some (11, true)⟩,
 ⟨some 17, .bin .and 16 (.const (.int .u8 1)), some (11, true)⟩,
 ⟨some 18, .bin .eql 17 (.const (.int .u8 0)), some (11, true)⟩,
 oo 19 (.pick 11 18 (.const (.bool false))),
 sg 4 19])
  .ret))⟩
def o7_0 : List MOper :=
 [lt 11 2 4,
 ld 12 5,
 ld 13 6,
 oo 14 (.buildSlice 38 1 2 [.sl [] (some 65)] [(0, 12), (1, 13)]),
 ca 15 16 [14],
 mv 16 9,
 mv 17 3,
 oo 18 (.build z17 [(0, 2, 11), (2, 1, 15), (3, 1, 16), (4, 1, 17)]),
 ca 19 17 [18],
 ca 20 15 [19],
 vv (.store 17 8 20)]
def o7_1 : List MOper :=
 [oo 11 (.loadL true 2 4),
 oo 12 (.loadL false 1 5),
 oo 13 (.loadL false 1 6),
 oo 14 (.buildSlice 38 1 2 [.sl [] (some 65)] [(0, 12), (1, 13)]),
 oo 15 (.callS 16 [14]),
 mv 16 9,
 mv 17 3,
 oo 18 (.build z17 [(0, 2, 11), (2, 1, 15), (3, 1, 16), (4, 1, 17)]),
 oo 19 (.callS 17 [18]),
 oo 20 (.callS 15 [19]),
 vv (.store 17 8 20)]
def o7_2 : List MOper :=
 [oo 11 (.loadL true 2 4),
 ld 12 5,
 ld 13 6,
 oo 14 (.buildSlice 38 1 2 [.sl [] (some 65)] [(0, 12), (1, 13)]),
 oo 15 (.callS 16 [14]),
 mv 16 9,
 mv 17 3,
 oo 18 (.build z17 [(0, 2, 11), (2, 1, 15), (3, 1, 16), (4, 1, 17)]),
 oo 19 (.callS 17 [18]),
 oo 20 (.callS 15 [19]),
 vv (.store 17 8 20)]
def m7 : MFunc :=
 ⟨4, 21, [.cell 8 true 17],
 (.seq (.reg [oo 4 (.box 0),
 oo 5 (.box 1),
 oo 6 (.box 2),
 oo 8 (.alloc z1)])
  (.seq (.reg [oo 10 (.mkfunc 11 [5, 6]),
 sg 9 10])
  (.seq (.regionQ [(false, o7_1), (false, o7_2), (true, o7_0)] o7_0 [[], [], [], [1, 2], [3], [], [], [0, 4, 5, 6], [7, 4], [8, 8], [9, 9, 0, 1, 2, 3, 4, 5, 6, 7, 8, 9]])
  .ret)))⟩
def m8 : MFunc :=
 ⟨3, 15, [.cell 6 true 17],
 (.seq (.reg [oo 3 (.box 0),
 oo 4 (.box 1),
 oo 6 (.alloc z1)])
  (.seq (.reg [oo 8 (.mkfunc 18 [4]),
 sg 7 8])
  (.seq (.reg [lt 9 2 3,
 ld 10 4,
 mv 11 7,
 mv 12 2,
 oo 13 (.build z17 [(0, 2, 9), (2, 1, 10), (3, 1, 11), (4, 1, 12)]),
 ca 14 17 [13],
 vv (.store 17 6 14)])
  .ret)))⟩
def m9 : MFunc :=
 ⟨4, 17, [.cell 8 true 17],
 (.seq (.reg [oo 4 (.box 0),
 oo 5 (.box 1),
 oo 6 (.box 2),
 oo 8 (.alloc z1)])
  (.seq (.reg [oo 10 (.mkfunc 22 [6]),
 oo 9 (.alloc [.nilf]),
 vv (.store 1 9 10)])
  (.seq (.reg [lt 11 2 4,
 ld 12 5,
 oo 13 (.mkfunc 23 [5, 9]),
 mv 14 3,
 oo 15 (.build z17 [(0, 2, 11), (2, 1, 12), (3, 1, 13), (4, 1, 14)]),
 ca 16 17 [15],
 vv (.store 17 8 16)])
  .ret)))⟩
def m10 : MFunc :=
 ⟨4, 19, [.cell 8 true 17],
 (.seq (.reg [oo 4 (.box 0),
 oo 6 (.box 2),
 oo 8 (.alloc z1)])
  (.seq (.reg [oo 10 (.mkfunc 24 [6]),
 sg 9 10])
  (.seq (.regionA [lt 11 2 4,
 mv 12 1,
 mv 13 1,
 oo 14 (.callM 26 [13]),
 mv 15 9,
 oo 16 (.callM 25 [14, 15]),
 mv 17 3,
 ca 18 7 [11, 12, 16, 17],
 vv (.store 17 8 18)] [[], [], [], [2], [], [3, 4, 3], [], [0, 1, 5, 6, 5], [7, 7, 0, 1, 2, 3, 4, 5, 6, 7]])
  .ret)))⟩
def o11_0 : List MOper :=
 [ld 7 1,
 mv 8 0,
 ld 9 1,
 ln 10 9,
 oo 11 (.slice 3 8 none (some 10)),
 ca 12 12 [7, 11],
 ld 13 2,
 mv 14 0,
 ld 15 1,
 ln 16 15,
 oo 17 (.slice 3 14 (some 16) none),
 ca 18 12 [13, 17],
 oo 5 (.alloc z0),
 oo 6 (.alloc z0),
 vv (.store 3 5 12),
 vv (.store 3 6 18)]
def o11_1 : List MOper :=
 [oo 7 (.loadP false 1 1),
 mv 8 0,
 oo 9 (.loadP false 1 1),
 ln 10 9,
 oo 11 (.slice 3 8 none (some 10)),
 ca 12 12 [7, 11],
 oo 13 (.loadP false 1 2),
 mv 14 0,
 oo 15 (.loadP false 1 1),
 ln 16 15,
 oo 17 (.slice 3 14 (some 16) none),
 ca 18 12 [13, 17],
 oo 5 (.allocR z0),
 oo 6 (.allocR z0),
 vv (.storeR 3 5 12),
 vv (.storeR 3 6 18)]
def o11_2 : List MOper :=
 [lt 19 3 5,
 lt 20 3 6,
 ca 21 14 [20],
 oo 22 (.buildSlice 69 3 2 z0 [(0, 19), (1, 21)]),
 ca 23 13 [22],
 lt 24 3 6,
 lt 25 3 5,
 ca 26 14 [25],
 oo 27 (.buildSlice 69 3 2 z0 [(0, 24), (1, 26)]),
 ca 28 13 [27],
 oo 29 (.buildSlice 69 3 2 z0 [(0, 23), (1, 28)]),
 oo 30 (.build z10 [(0, 1, (.const (.int .i64 6))), (2, 1, 29)]),
 vv (.store 3 4 30)]
def o11_3 : List MOper :=
 [oo 19 (.loadL true 3 5),
 oo 20 (.loadL true 3 6),
 oo 21 (.callS 14 [20]),
 oo 22 (.buildSlice 69 3 2 z0 [(0, 19), (1, 21)]),
 oo 23 (.callS 13 [22]),
 oo 24 (.loadL true 3 6),
 oo 25 (.loadL true 3 5),
 oo 26 (.callS 14 [25]),
 oo 27 (.buildSlice 69 3 2 z0 [(0, 24), (1, 26)]),
 oo 28 (.callS 13 [27]),
 oo 29 (.buildSlice 69 3 2 z0 [(0, 23), (1, 28)]),
 oo 30 (.build z10 [(0, 1, (.const (.int .i64 6))), (2, 1, 29)]),
 vv (.store 3 4 30)]
def m11 : MFunc :=
 ⟨3, 31, [.cell 4 true 3],
 (.seq (.reg [oo 4 (.alloc z0)])
  (.seq (.regionQ [(true, o11_1)] o11_0 [[], [], [], [2], [1, 3], [0, 4], [], [], [], [8], [7, 9], [6, 10, 5], [], [], [12, 5, 11, 0, 1, 2, 3, 4, 5, 12, 13], [13, 11, 14, 0, 1, 2, 3, 4, 5, 6, 7, 8, 9, 10, 11, 12, 13, 14]])
  (.seq (.regionQ [(false, o11_3), (true, o11_2)] o11_2 [[], [], [1], [0, 2], [3, 2], [], [], [6, 4], [5, 7], [8, 7], [4, 9], [10], [11, 9, 0, 1, 2, 3, 4, 5, 6, 7, 8, 9, 10, 11]])
  .ret)))⟩
def m12 : MFunc :=
 ⟨2, 14, [.cell 4 true 3],
 (.seq (.reg [oo 4 (.alloc z0)])
  (.seq (.reg [mv 5 0,
 mv 6 1,
 oo 7 (.call 19 [5, 6, (.const (.func 20 []))]),
 mv 8 0,
 mv 9 1,
 oo 10 (.call 19 [8, 9, (.const (.func 21 []))]),
 ca 11 14 [10],
 oo 12 (.buildSlice 69 3 2 z0 [(0, 7), (1, 11)]),
 ca 13 13 [12],
 vv (.store 3 4 13)])
  .ret))⟩
def m13 : MFunc :=
 ⟨1, 5, [.cell 2 true 3],
 (.seq (.reg [oo 2 (.alloc z0)])
  (.seq (.reg [mv 3 0,
 oo 4 (.build z10 [(0, 1, (.const (.int .i64 5))), (2, 1, 3)]),
 vv (.store 3 2 4)])
  .ret))⟩
def m14 : MFunc :=
 ⟨1, 6, [.cell 2 true 3],
 (.seq (.reg [oo 1 (.box 0),
 oo 2 (.alloc z0)])
  (.seq (.reg [lt 3 3 1,
 oo 4 (.buildSlice 69 3 1 z0 [(0, 3)]),
 oo 5 (.build z10 [(0, 1, (.const (.int .i64 4))), (2, 1, 4)]),
 vv (.store 3 2 5)])
  .ret))⟩
def m15 : MFunc :=
 ⟨1, 12, [.cell 2 true 17],
 (.seq (.reg [oo 1 (.box 0),
 oo 2 (.alloc z1)])
  (.seq (.seq (.reg [fa 3 0 1,
 ld 4 3])
  (.block 0 (.seq (.reg [oo 6 (.bin .eql 4 (.const (.int .i64 1))),
 sg 5 6])
  (.cond 5 (.reg [fa 7 0 1,
 vv (.store 1 7 (.const (.int .i64 2)))]) (.seq (.reg [oo 9 (.bin .eql 4 (.const (.int .i64 2))),
 sg 8 9])
  (.cond 8 (.reg [fa 10 0 1,
 vv (.store 1 10 (.const (.int .i64 1)))]) .skip))))))
  (.seq (.reg [lt 11 17 1,
 vv (.store 17 2 11)])
  .ret)))⟩
def l16_0 : MCode :=
  (.seq (.reg [oo 12 (.bin .lss 11 10)])
  (.seq (.cond 12 .skip (.exit 0))
  (.seq (.block 1 (.seq (.reg [oo 13 (.indexAddr 1 9 11),
 ld 14 13,
 sg 5 14])
  (.seq (.reg [mv 15 3,
 mv 16 5,
 ln 17 16,
 oo 18 (.bin .add 15 17),
 sg 3 18])
  (.seq (.reg [mv 19 3,
 oo 20 (.bin .lss 19 (.const (.int .i64 0)))])
  (.cond 20 (.reg [oo 21 (.bad),
 vv (.bad)]) .skip)))))
  (.reg [oo 22 (.bin .add 11 (.const (.int .i64 1))),
 mv 11 22]))))
def l16_1 : MCode :=
  (.seq (.reg [oo 28 (.bin .lss 27 26)])
  (.seq (.cond 28 .skip (.exit 2))
  (.seq (.block 3 (.seq (.reg [oo 29 (.indexAddr 1 25 27),
 ld 30 29,
 sg 8 30])
  (.reg [oo 31 (.move 6 true),
 mv 32 8,
 oo 33 (.append 65 21 312 false 31 32),
 sg 6 33])))
  (.reg [oo 34 (.bin .add 27 (.const (.int .i64 1))),
 mv 27 34]))))
def m16 : MFunc :=
 ⟨1, 36, [.tmp 2],
 (.seq (.reg [sg 2 (.const (.sl [] (some 65)))])
  (.seq (.reg [sg 3 (.const (.int .i64 0))])
  (.seq (.seq (.reg [mv 9 0,
 ln 10 9,
 mv 11 (.const (.int .i64 0))])
  (.block 0 (.loop [0, 3, 9, 11, 10, 2] l16_0)))
  (.seq (.reg [mv 23 3,
 oo 24 (.call 27 [(.const (.sl [] none)), 23]),
 sg 6 24])
  (.seq (.seq (.reg [mv 25 0,
 ln 26 25,
 mv 27 (.const (.int .i64 0))])
  (.block 2 (.loop [6, 25, 27, 26, 2] l16_1)))
  (.seq (.reg [mv 35 6,
 sg 2 35])
  .ret))))))⟩
def l17_0 : MCode :=
  (.seq (.reg [oo 13 (.bin .lss 12 11)])
  (.seq (.cond 13 .skip (.exit 0))
  (.seq (.block 1 (.seq (.reg [oo 14 (.indexAddr 3 10 12),
 lt 15 3 14,
 oo 5 (.alloc [.str [], .str [], .str []]),
 vv (.store 3 5 15)])
  (.seq (.reg [lt 16 5 1,
 lt 17 3 5,
 ca 18 29 [16, 17],
 oo 6 (.alloc z1),
 vv (.store 17 6 18)])
  (.seq (.reg [fa 19 0 6,
 ld 20 19])
  (.block 2 (.seq (.reg [oo 22 (.bin .eql 20 (.const (.int .i64 1))),
 sg 21 22])
  (.cond 21 (.seq (.reg [lt 23 17 6,
 vv (.store 17 2 23)])
  .ret) (.seq (.reg [oo 25 (.bin .eql 20 (.const (.int .i64 3))),
 sg 24 25])
  (.cond 24 (.reg [lt 26 17 6,
 vv (.store 17 3 26)]) .skip)))))))))
  (.reg [oo 27 (.bin .add 12 (.const (.int .i64 1))),
 mv 12 27]))))
def m17 : MFunc :=
 ⟨1, 29, [.cell 2 true 17],
 (.seq (.reg [oo 1 (.box 0),
 oo 2 (.alloc z1)])
  (.seq (.reg [oo 7 (.build z4 [(0, 1, (.const (.int .i64 2)))]),
 oo 3 (.alloc z1),
 vv (.store 17 3 7)])
  (.seq (.seq (.reg [fa 8 0 1,
 lt 9 2 8,
 ca 10 28 [9],
 ln 11 10,
 mv 12 (.const (.int .i64 0))])
  (.block 0 (.loop [3, 10, 1, 12, 11, 2] l17_0)))
  (.seq (.reg [lt 28 17 3,
 vv (.store 17 2 28)])
  .ret))))⟩
def o18_0 : List MOper :=
 [ld 4 1,
 mv 5 0,
 oo 6 (.call 19 [4, 5, (.const (.func 20 []))]),
 ld 7 1,
 mv 8 0,
 oo 9 (.call 19 [7, 8, (.const (.func 21 []))]),
 oo 10 (.buildSlice 69 3 2 z0 [(0, 6), (1, 9)]),
 ca 11 13 [10],
 vv (.store 3 3 11)]
def o18_1 : List MOper :=
 [oo 4 (.loadL false 1 1),
 mv 5 0,
 oo 6 (.callS 19 [4, 5, (.const (.func 20 []))]),
 oo 7 (.loadL false 1 1),
 mv 8 0,
 oo 9 (.callS 19 [7, 8, (.const (.func 21 []))]),
 oo 10 (.buildSlice 69 3 2 z0 [(0, 6), (1, 9)]),
 oo 11 (.callS 13 [10]),
 vv (.store 3 3 11)]
def m18 : MFunc :=
 ⟨2, 12, [.cell 3 true 3],
 (.seq (.reg [oo 3 (.alloc z0)])
  (.seq (.regionQ [(false, o18_1), (true, o18_0)] o18_0 [[], [], [0, 1], [], [], [3, 4, 2], [2, 5], [6, 5], [7, 7, 0, 1, 2, 3, 4, 5, 6, 7]])
  .ret))⟩
def l19_0 : MCode :=
  (.seq (.reg [oo 14 (.bin .lss 13 12)])
  (.seq (.cond 14 .skip (.exit 0))
  (.seq (.block 1 (.seq (.reg [mv 15 13,
 oo 16 (.indexAddr 21 11 13),
 lt 17 21 16,
 oo 9 (.alloc z2),
 sg 8 15,
 vv (.store 21 9 17)])
  (.seq (.reg [mv 18 2,
 lt 19 21 9,
 oo 20 (.callv 18 [19])])
  (.cond 20 (.reg [fa 21 2 7,
 oo 22 (.load false 1 21 true),
 mv 23 1,
 mv 24 8,
 oo 25 (.indexAddr 3 23 24),
 lt 26 3 25,
 oo 27 (.buildSlice 69 3 1 z0 [(0, 26)]),
 oo 28 (.append 69 3 40 false 22 27),
 fa 29 2 7,
 vv (.store 1 29 28)]) .skip))))
  (.reg [oo 30 (.bin .add 13 (.const (.int .i64 1))),
 mv 13 30]))))
def m19 : MFunc :=
 ⟨3, 32, [.cell 6 true 3],
 (.seq (.reg [oo 6 (.alloc z0)])
  (.seq (.reg [oo 10 (.build z10 [(0, 1, (.const (.int .i64 6)))]),
 oo 7 (.alloc z0),
 vv (.store 3 7 10)])
  (.seq (.seq (.reg [mv 11 0,
 ln 12 11,
 mv 13 (.const (.int .i64 0))])
  (.block 0 (.loop [7, 11, 2, 1, 13, 12, 6] l19_0)))
  (.seq (.reg [lt 31 3 7,
 vv (.store 3 6 31)])
  .ret))))⟩
def m20 : MFunc :=
 ⟨1, 5, [.tmp 2],
 (.seq (.reg [oo 1 (.box 0),
 sg 2 (.const (.bool false))])
  (.seq (.reg [fa 3 1 1,
 ld 4 3,
 sg 2 4])
  .ret))⟩
def m21 : MFunc :=
 ⟨1, 6, [.tmp 2],
 (.seq (.reg [oo 1 (.box 0),
 sg 2 (.const (.bool false))])
  (.seq (.reg [fa 3 1 1,
 ld 4 3,
 oo 5 (.un .not 4),
 sg 2 5])
  .ret))⟩
def m22 : MFunc :=
 ⟨2, 8, [.tmp 3],
 (.seq (.reg [oo 2 (.box 0),
 sg 3 (.const (.bool false))])
  (.seq (.reg [fa 4 0 2,
 ld 5 4,
 ld 6 1,
 oo 7 (.bin .eql 5 6),
 sg 3 7])
  .ret))⟩
def m23 : MFunc :=
 ⟨3, 9, [.cell 4 true 3],
 (.seq (.reg [oo 4 (.alloc z0)])
  (.seq (.reg [ld 5 1,
 mv 6 0,
 ld 7 2,
 ca 8 19 [5, 6, 7],
 vv (.store 3 4 8)])
  .ret))⟩
def m24 : MFunc :=
 ⟨2, 8, [.tmp 3],
 (.seq (.reg [oo 2 (.box 0),
 sg 3 (.const (.bool false))])
  (.seq (.reg [fa 4 0 2,
 ld 5 4,
 ld 6 1,
 oo 7 (.bin .eql 5 6),
 sg 3 7])
  .ret))⟩
def l25_0 : MCode :=
  (.seq (.seq (.reg [mv 16 6,
 mv 17 0,
 ln 18 17,
 oo 19 (.bin .lss 16 18)])
  (.cond 19 .skip (.exit 0)))
  (.seq (.block 1 (.seq (.reg [mv 22 0,
 mv 23 6,
 oo 24 (.indexAddr 21 22 23),
 lt 25 21 24,
 oo 7 (.alloc z2),
 vv (.store 21 7 25)])
  (.seq (.reg [mv 26 1,
 lt 27 21 7,
 oo 28 (.callv 26 [27]),
 oo 29 (.un .not 28)])
  (.cond 29 (.seq (.reg [mv 30 0,
 mv 31 5,
 lt 32 21 7,
 oo 33 (.indexAddr 21 30 31),
 vv (.store 21 33 32)])
  (.reg [mv 34 5,
 oo 35 (.bin .add 34 (.const (.int .i64 1))),
 sg 5 35])) .skip))))
  (.reg [mv 20 6,
 oo 21 (.bin .add 20 (.const (.int .i64 1))),
 sg 6 21])))
def m25 : MFunc :=
 ⟨2, 42, [.tmp 4],
 (.seq (.reg [sg 4 (.const (.sl [] (some 65)))])
  (.seq (.reg [mv 8 0,
 mv 9 1,
 ca 10 30 [8, 9],
 sg 5 10])
  (.seq (.seq (.reg [mv 11 5,
 oo 12 (.bin .eql 11 (.const (.int .i64 (-1))))])
  (.cond 12 (.seq (.reg [mv 13 0,
 sg 4 13])
  .ret) .skip))
  (.seq (.seq (.reg [mv 14 5,
 oo 15 (.bin .add 14 (.const (.int .i64 1))),
 sg 6 15])
  (.block 0 (.loop [5, 0, 1, 6, 4] l25_0)))
  (.seq (.reg [mv 36 0,
 mv 37 5,
 oo 38 (.slice 21 36 (some 37) none),
 vv (.clear 21 z2 38)])
  (.seq (.reg [mv 39 0,
 mv 40 5,
 oo 41 (.slice 21 39 none (some 40)),
 sg 4 41])
  .ret))))))⟩
def l28_0 : MCode :=
  (.seq (.reg [oo 28 (.bin .lss 27 26)])
  (.seq (.cond 28 .skip (.exit 4))
  (.seq (.block 5 (.seq (.reg [oo 29 (.indexAddr 1 25 27),
 ld 30 29,
 sg 9 30])
  (.reg [oo 31 (.move 3 true),
 mv 32 7,
 fa 33 0 5,
 ld 34 33,
 mv 35 9,
 oo 36 (.build [.str [], .str [], .str []] [(0, 1, 32), (1, 1, 34), (2, 1, 35)]),
 oo 37 (.buildSlice 88 3 1 [.str [], .str [], .str []] [(0, 36)]),
 oo 38 (.append 88 3 48 false 31 37),
 sg 3 38])))
  (.reg [oo 39 (.bin .add 27 (.const (.int .i64 1))),
 mv 27 39]))))
def l28_1 : MCode :=
  (.seq (.reg [oo 21 (.bin .lss 20 19)])
  (.seq (.cond 21 .skip (.exit 2))
  (.seq (.block 3 (.seq (.reg [oo 22 (.indexAddr 1 18 20),
 ld 23 22,
 sg 7 23])
  (.seq (.reg [fa 24 3 5,
 ld 25 24,
 ln 26 25,
 mv 27 (.const (.int .i64 0))])
  (.block 4 (.loop [3, 11, 12, 13, 18, 5, 19, 20, 25, 7, 27, 26, 2] l28_0)))))
  (.reg [oo 40 (.bin .add 20 (.const (.int .i64 1))),
 mv 20 40]))))
def l28_2 : MCode :=
  (.seq (.reg [oo 14 (.bin .lss 13 12)])
  (.seq (.cond 14 .skip (.exit 0))
  (.seq (.block 1 (.seq (.reg [oo 15 (.indexAddr 5 11 13),
 lt 16 5 15,
 oo 5 (.alloc z11),
 vv (.store 5 5 16)])
  (.seq (.reg [fa 17 2 5,
 ld 18 17,
 ln 19 18,
 mv 20 (.const (.int .i64 0))])
  (.block 2 (.loop [3, 11, 12, 13, 18, 5, 20, 19, 2] l28_1)))))
  (.reg [oo 41 (.bin .add 13 (.const (.int .i64 1))),
 mv 13 41]))))
def m28 : MFunc :=
 ⟨1, 43, [.tmp 2],
 (.seq (.reg [oo 1 (.box 0),
 sg 2 (.const (.sl [] (some 88)))])
  (.seq (.reg [sg 3 (.const (.sl [] (some 88)))])
  (.seq (.seq (.reg [fa 10 1 1,
 ld 11 10,
 ln 12 11,
 mv 13 (.const (.int .i64 0))])
  (.block 0 (.loop [3, 11, 13, 12, 2] l28_2)))
  (.seq (.reg [mv 42 3,
 sg 2 42])
  .ret))))⟩
def o29_0 : List MOper :=
 [fa 24 3 2,
 ld 25 24,
 fa 26 0 5,
 ld 27 26,
 oo 28 (.callv 25 [27]),
 fa 29 2 5,
 lt 30 3 29,
 oo 31 (.buildSlice 69 3 2 z0 [(0, 28), (1, 30)]),
 oo 32 (.build z10 [(0, 1, (.const (.int .i64 5))), (2, 1, 31)]),
 oo 7 (.alloc z0),
 vv (.store 3 7 32)]
def o29_1 : List MOper :=
 [fa 24 3 2,
 oo 25 (.loadB 7 false 1 24),
 fa 26 0 5,
 oo 27 (.loadB 7 false 1 26),
 oo 28 (.callvS 25 [27]),
 fa 29 2 5,
 oo 30 (.loadB 7 true 3 29),
 oo 31 (.buildSlice 69 3 2 z0 [(0, 28), (1, 30)]),
 oo 32 (.build z10 [(0, 1, (.const (.int .i64 5))), (2, 1, 31)]),
 oo 7 (.allocR z0),
 vv (.storeR 3 7 32)]
def m29 : MFunc :=
 ⟨2, 74, [.cell 4 true 17],
 (.seq (.reg [oo 2 (.box 0),
 oo 3 (.box 1),
 oo 4 (.alloc z1)])
  (.seq (.reg [fa 13 0 2,
 lt 14 2 13,
 lt 15 3 3,
 fa 16 2 2,
 ld 17 16,
 ca 18 31 [14, 15, 17],
 mv 12 18,
 oo 19 (.extract 12 0),
 oo 20 (.extract 12 1),
 oo 5 (.alloc z18),
 vv (.store 5 5 19),
 sg 6 20])
  (.seq (.seq (.reg [mv 21 6,
 oo 22 (.bin .neq 21 (.const (.int .i64 0)))])
  (.cond 22 (.seq (.reg [oo 23 (.build z4 [(0, 1, (.const (.int .i64 3)))]),
 vv (.store 17 4 23)])
  .ret) .skip))
  (.seq (.regionQ [(false, o29_1)] o29_0 [[], [0], [], [2], [1, 3], [], [5], [4, 6], [7], [], [9, 8, 4, 0, 1, 2, 3, 4, 5, 6, 7, 8, 9]])
  (.seq (.reg [lt 34 3 7,
 fa 35 1 5,
 ld 36 35,
 ln 37 36,
 ca 38 32 [34, 37],
 mv 33 38,
 oo 39 (.extract 33 0),
 oo 40 (.extract 33 1),
 sg 8 39,
 sg 9 40])
  (.seq (.seq (.reg [mv 41 8,
 mv 42 9,
 ca 43 33 [41, 42],
 oo 44 (.bin .neq 43 (.const (.int .i64 0)))])
  (.cond 44 (.seq (.reg [oo 45 (.build z4 [(0, 1, (.const (.int .i64 3)))]),
 vv (.store 17 4 45)])
  .ret) .skip))
  (.seq (.seq (.reg [mv 46 8,
 mv 47 9,
 fa 48 4 2,
 ld 49 48,
 ca 50 34 [46, 47, 49],
 oo 10 (.alloc z20),
 vv (.store 4 10 50)])
  (.seq (.reg [fa 51 0 10,
 ld 52 51])
  (.block 0 (.seq (.reg [oo 54 (.bin .eql 52 (.const (.int .i64 2))),
 sg 53 54])
  (.cond 53 (.seq (.reg [oo 55 (.build z4 [(0, 1, (.const (.int .i64 2)))]),
 vv (.store 17 4 55)])
  .ret) (.seq (.reg [oo 57 (.bin .eql 52 (.const (.int .i64 1))),
 sg 56 57])
  (.cond 56 (.seq (.reg [oo 58 (.build z4 [(0, 1, (.const (.int .i64 1))), (1, 1, (.const (.bool true)))]),
 oo 11 (.alloc z1),
 vv (.store 17 11 58)])
  (.seq (.reg [fa 60 0 2,
 lt 61 2 60,
 lt 62 3 3,
 fa 63 1 5,
 ld 64 63,
 fa 65 1 10,
 ld 66 65,
 ca 67 35 [61, 62, 64, 66],
 mv 59 67,
 oo 68 (.extract 59 0),
 oo 69 (.extract 59 1),
 fa 70 2 11,
 vv (.store 14 70 68),
 fa 71 16 11,
 vv (.store 1 71 69)])
  (.seq (.reg [lt 72 17 11,
 vv (.store 17 4 72)])
  .ret))) .skip)))))))
  (.seq (.reg [oo 73 (.build z4 [(0, 1, (.const (.int .i64 3)))]),
 vv (.store 17 4 73)])
  .ret))))))))⟩
def l30_0 : MCode :=
  (.seq (.reg [oo 9 (.bin .lss 8 7)])
  (.seq (.cond 9 .skip (.exit 0))
  (.seq (.block 1 (.seq (.reg [mv 10 8,
 sg 5 10])
  (.seq (.reg [mv 11 1,
 mv 12 0,
 mv 13 5,
 oo 14 (.indexAddr 21 12 13),
 lt 15 21 14,
 oo 16 (.callv 11 [15])])
  (.cond 16 (.seq (.reg [mv 17 5,
 sg 4 17])
  .ret) .skip))))
  (.reg [oo 18 (.bin .add 8 (.const (.int .i64 1))),
 mv 8 18]))))
def m30 : MFunc :=
 ⟨2, 19, [.tmp 4],
 (.seq (.reg [sg 4 (.const (.int .i64 0))])
  (.seq (.seq (.reg [mv 6 0,
 ln 7 6,
 mv 8 (.const (.int .i64 0))])
  (.block 0 (.loop [1, 0, 8, 7, 4] l30_0)))
  (.seq (.reg [sg 4 (.const (.int .i64 (-1)))])
  .ret)))⟩
def o31_0 : List MOper :=
 [fa 41 0 9,
 oo 42 (.load false 1 41 true),
 mv 43 8,
 lt 44 21 11,
 ca 45 36 [43, 44],
 oo 46 (.buildSlice 69 3 1 z0 [(0, 45)]),
 oo 47 (.append 69 3 40 false 42 46),
 fa 48 0 9,
 vv (.store 1 48 47)]
def o31_1 : List MOper :=
 [fa 41 0 9,
 oo 42 (.loadT false 1 41),
 mv 43 8,
 lt 44 21 11,
 oo 45 (.callS 36 [43, 44]),
 oo 46 (.buildSlice 69 3 1 z0 [(0, 45)]),
 oo 47 (.append 69 3 40 false 42 46),
 fa 48 0 9,
 vv (.store 1 48 47)]
def l31_2 : MCode :=
  (.seq (.reg [oo 38 (.bin .lss 37 36)])
  (.seq (.cond 38 .skip (.exit 0))
  (.seq (.block 1 (.seq (.reg [oo 39 (.indexAddr 21 35 37),
 lt 40 21 39,
 oo 11 (.alloc z2),
 vv (.store 21 11 40)])
  (.regionQ [(true, o31_0), (false, o31_1)] o31_0 [[], [0], [], [], [2, 3], [4], [1, 5, 4], [0, 1, 2, 3, 4, 5, 6], [7, 6, 6, 0, 1, 2, 3, 4, 5, 6]])))
  (.reg [oo 49 (.bin .add 37 (.const (.int .i64 1))),
 mv 37 49]))))
def l31_3 : MCode :=
  (.seq (.reg [oo 76 (.bin .lss 75 74)])
  (.seq (.cond 76 .skip (.exit 4))
  (.seq (.block 5 (.seq (.reg [oo 77 (.indexAddr 2 73 75),
 lt 78 2 77,
 oo 17 (.alloc [.str [], .str []]),
 vv (.store 2 17 78)])
  (.seq (.reg [mv 79 8,
 lt 80 2 15,
 lt 81 2 17,
 ca 82 42 [79, 80, 81]])
  (.reg [mv 83 8,
 lt 84 2 15,
 lt 85 2 17,
 ca 86 43 [83, 84, 85]]))))
  (.reg [oo 87 (.bin .add 75 (.const (.int .i64 1))),
 mv 75 87]))))
def l31_4 : MCode :=
  (.seq (.reg [oo 68 (.bin .lss 67 66)])
  (.seq (.cond 68 .skip (.exit 2))
  (.seq (.block 3 (.seq (.reg [oo 69 (.indexAddr 2 65 67),
 lt 70 2 69,
 oo 15 (.alloc [.int .i64 0, .str []]),
 vv (.store 2 15 70)])
  (.seq (.reg [mv 71 8,
 oo 72 (.mkfunc 41 [15]),
 ca 73 37 [71, 72],
 ln 74 73,
 mv 75 (.const (.int .i64 0))])
  (.block 4 (.loop [9, 8, 13, 12, 65, 66, 67, 73, 15, 75, 74, 7, 6, 34] l31_3)))))
  (.reg [oo 88 (.bin .add 67 (.const (.int .i64 1))),
 mv 67 88]))))
def l31_5 : MCode :=
  (.seq (.reg [oo 98 (.bin .lss 97 96)])
  (.seq (.cond 98 .skip (.exit 8))
  (.seq (.block 9 (.seq (.reg [oo 99 (.indexAddr 2 95 97),
 lt 100 2 99,
 oo 21 (.alloc [.str [], .str []]),
 vv (.store 2 21 100)])
  (.reg [mv 101 8,
 lt 102 2 19,
 lt 103 2 21,
 ca 104 44 [101, 102, 103]])))
  (.reg [oo 105 (.bin .add 97 (.const (.int .i64 1))),
 mv 97 105]))))
def l31_6 : MCode :=
  (.seq (.reg [oo 92 (.bin .lss 91 90)])
  (.seq (.cond 92 .skip (.exit 6))
  (.seq (.block 7 (.seq (.reg [oo 93 (.indexAddr 2 89 91),
 lt 94 2 93,
 oo 19 (.alloc [.str [], .str []]),
 vv (.store 2 19 94)])
  (.seq (.reg [mv 95 12,
 ln 96 95,
 mv 97 (.const (.int .i64 0))])
  (.block 8 (.loop [9, 8, 13, 12, 89, 90, 91, 95, 19, 97, 96, 7, 6, 34] l31_5)))))
  (.reg [oo 106 (.bin .add 91 (.const (.int .i64 1))),
 mv 91 106]))))
def l31_7 : MCode :=
  (.seq (.reg [oo 121 (.bin .lss 120 119)])
  (.seq (.cond 121 .skip (.exit 10))
  (.seq (.block 11 (.seq (.reg [oo 122 (.indexAddr 2 118 120),
 lt 123 2 122,
 oo 23 (.alloc [.int .i64 0, .str []]),
 vv (.store 2 23 123)])
  (.regionA [oo 124 (.move 13 true),
 mv 125 8,
 lt 126 2 23,
 mv 127 8,
 oo 128 (.mkfunc 46 [23]),
 ca 129 37 [127, 128],
 ca 130 45 [125, 126, 129],
 oo 131 (.append 69 3 40 false 124 130),
 sg 13 131] [[], [], [], [], [], [3, 4], [1, 2, 5, 5], [0, 6, 6], [7, 7, 0, 1, 2, 3, 4, 5, 6, 7]])))
  (.reg [oo 132 (.bin .add 120 (.const (.int .i64 1))),
 mv 120 132]))))
def o31_8 : List MOper :=
 [oo 148 (.move 13 true),
 mv 149 8,
 lt 150 2 25,
 lt 151 2 27,
 ca 152 44 [149, 150, 151],
 mv 153 8,
 lt 154 2 27,
 lt 155 2 25,
 ca 156 44 [153, 154, 155],
 oo 157 (.buildSlice 69 3 2 z0 [(0, 152), (1, 156)]),
 ca 158 48 [157],
 ca 159 47 [158],
 oo 160 (.buildSlice 69 3 1 z0 [(0, 159)]),
 oo 161 (.append 69 3 40 false 148 160),
 sg 13 161]
def o31_9 : List MOper :=
 [oo 148 (.move 13 true),
 mv 149 8,
 oo 150 (.loadL true 2 25),
 oo 151 (.loadL true 2 27),
 oo 152 (.callS 44 [149, 150, 151]),
 mv 153 8,
 oo 154 (.loadL true 2 27),
 oo 155 (.loadL true 2 25),
 oo 156 (.callS 44 [153, 154, 155]),
 oo 157 (.buildSlice 69 3 2 z0 [(0, 152), (1, 156)]),
 oo 158 (.callS 48 [157]),
 oo 159 (.callS 47 [158]),
 oo 160 (.buildSlice 69 3 1 z0 [(0, 159)]),
 oo 161 (.append 69 3 40 false 148 160),
 sg 13 161]
def o31_10 : List MOper :=
 [oo 168 (.move 13 true),
 mv 169 8,
 lt 170 2 25,
 lt 171 2 27,
 ca 172 44 [169, 170, 171],
 mv 173 8,
 lt 174 2 27,
 lt 175 2 29,
 ca 176 44 [173, 174, 175],
 oo 177 (.buildSlice 69 3 2 z0 [(0, 172), (1, 176)]),
 ca 178 48 [177],
 mv 179 8,
 lt 180 2 25,
 lt 181 2 29,
 ca 182 44 [179, 180, 181],
 ca 183 49 [178, 182],
 oo 184 (.buildSlice 69 3 1 z0 [(0, 183)]),
 oo 185 (.append 69 3 40 false 168 184),
 sg 13 185]
def o31_11 : List MOper :=
 [oo 168 (.move 13 true),
 mv 169 8,
 oo 170 (.loadL true 2 25),
 oo 171 (.loadL true 2 27),
 oo 172 (.callS 44 [169, 170, 171]),
 mv 173 8,
 oo 174 (.loadL true 2 27),
 oo 175 (.loadL true 2 29),
 oo 176 (.callS 44 [173, 174, 175]),
 oo 177 (.buildSlice 69 3 2 z0 [(0, 172), (1, 176)]),
 oo 178 (.callS 48 [177]),
 mv 179 8,
 oo 180 (.loadL true 2 25),
 oo 181 (.loadL true 2 29),
 oo 182 (.callS 44 [179, 180, 181]),
 oo 183 (.callS 49 [178, 182]),
 oo 184 (.buildSlice 69 3 1 z0 [(0, 183)]),
 oo 185 (.append 69 3 40 false 168 184),
 sg 13 185]
def l31_12 : MCode :=
  (.seq (.reg [oo 165 (.bin .lss 164 163)])
  (.seq (.cond 165 .skip (.exit 16))
  (.seq (.block 17 (.seq (.reg [oo 166 (.indexAddr 2 162 164),
 lt 167 2 166,
 oo 29 (.alloc [.str [], .str []]),
 vv (.store 2 29 167)])
  (.regionQ [(false, o31_11), (true, o31_10)] o31_10 [[], [], [], [], [1, 2, 3], [], [], [], [5, 6, 7, 4], [4, 8], [9, 8], [], [], [], [11, 12, 13, 10], [10, 14, 14], [15], [0, 16, 15], [17, 17, 0, 1, 2, 3, 4, 5, 6, 7, 8, 9, 10, 11, 12, 13, 14, 15, 16, 17]])))
  (.reg [oo 186 (.bin .add 164 (.const (.int .i64 1))),
 mv 164 186]))))
def l31_13 : MCode :=
  (.seq (.reg [oo 142 (.bin .lss 141 140)])
  (.seq (.cond 142 .skip (.exit 14))
  (.seq (.block 15 (.seq (.reg [oo 143 (.indexAddr 2 139 141),
 lt 144 2 143,
 oo 27 (.alloc [.str [], .str []]),
 vv (.store 2 27 144)])
  (.seq (.seq (.reg [lt 145 2 25,
 lt 146 2 27,
 oo 147 (.eqA 34 true 145 146)])
  (.cond 147 (.regionQ [(false, o31_9), (true, o31_8)] o31_8 [[], [], [], [], [1, 2, 3], [], [], [], [5, 6, 7, 4], [4, 8], [9, 8], [10, 10], [11], [0, 12, 11], [13, 13, 0, 1, 2, 3, 4, 5, 6, 7, 8, 9, 10, 11, 12, 13]]) .skip))
  (.seq (.reg [mv 162 12,
 ln 163 162,
 mv 164 (.const (.int .i64 0))])
  (.block 16 (.loop [9, 8, 13, 133, 12, 134, 135, 139, 25, 140, 141, 162, 27, 164, 163, 7, 6, 34] l31_12))))))
  (.reg [oo 187 (.bin .add 141 (.const (.int .i64 1))),
 mv 141 187]))))
def l31_14 : MCode :=
  (.seq (.reg [oo 136 (.bin .lss 135 134)])
  (.seq (.cond 136 .skip (.exit 12))
  (.seq (.block 13 (.seq (.reg [oo 137 (.indexAddr 2 133 135),
 lt 138 2 137,
 oo 25 (.alloc [.str [], .str []]),
 vv (.store 2 25 138)])
  (.seq (.reg [mv 139 12,
 ln 140 139,
 mv 141 (.const (.int .i64 0))])
  (.block 14 (.loop [9, 8, 13, 133, 12, 134, 135, 139, 25, 141, 140, 7, 6, 34] l31_13)))))
  (.reg [oo 188 (.bin .add 135 (.const (.int .i64 1))),
 mv 135 188]))))
def m31 : MFunc :=
 ⟨3, 201, [.cell 6 true 5, .tmp 7],
 (.seq (.reg [oo 3 (.box 0),
 oo 4 (.box 1),
 oo 6 (.alloc z18),
 sg 7 (.const (.int .i64 0))])
  (.seq (.reg [lt 30 2 3,
 lt 31 3 4,
 oo 32 (.mkmap),
 oo 33 (.build [.nils 26, .nils 34, .str [], .str [], .str [], .nils 115, .nilm, .bool false] [(0, 2, 30), (2, 3, 31), (6, 1, 32)]),
 oo 34 (.box 33),
 sg 8 34])
  (.seq (.reg [oo 9 (.alloc z18)])
  (.seq (.seq (.reg [mv 35 2,
 ln 36 35,
 mv 37 (.const (.int .i64 0))])
  (.block 0 (.loop [9, 8, 35, 37, 36, 7, 6, 34] l31_2)))
  (.seq (.seq (.reg [mv 50 8,
 nc 51 50,
 fa 52 7 51,
 ld 53 52])
  (.cond 53 (.seq (.reg [oo 54 (.build z21 []),
 vv (.store 5 6 54),
 sg 7 (.const (.int .i64 52))])
  .ret) .skip))
  (.seq (.reg [mv 55 8,
 oo 56 (.call 37 [55, (.const (.func 38 []))]),
 sg 12 56])
  (.seq (.seq (.reg [mv 57 12,
 ln 58 57,
 oo 59 (.bin .gtr 58 (.const (.int .i64 12)))])
  (.cond 59 (.seq (.reg [oo 60 (.build z21 []),
 vv (.store 5 6 60),
 sg 7 (.const (.int .i64 52))])
  .ret) .skip))
  (.seq (.reg [sg 13 (.const (.sl [] (some 69)))])
  (.seq (.seq (.reg [mv 61 8,
 ca 62 39 [61],
 mv 63 8,
 ca 64 40 [63],
 oo 65 (.buildSlice 118 2 2 [.int .i64 0, .str []] [(0, 62), (1, 64)]),
 ln 66 65,
 mv 67 (.const (.int .i64 0))])
  (.block 2 (.loop [9, 8, 13, 12, 65, 67, 66, 7, 6, 34] l31_4)))
  (.seq (.seq (.reg [mv 89 12,
 ln 90 89,
 mv 91 (.const (.int .i64 0))])
  (.block 6 (.loop [9, 8, 13, 12, 89, 91, 90, 7, 6, 34] l31_6)))
  (.seq (.seq (.reg [mv 107 8,
 nc 108 107,
 fa 109 5 108,
 ld 110 109,
 ln 111 110,
 oo 112 (.bin .gtr 111 (.const (.int .i64 500)))])
  (.cond 112 (.seq (.reg [oo 113 (.build z21 []),
 vv (.store 5 6 113),
 sg 7 (.const (.int .i64 52))])
  .ret) .skip))
  (.seq (.seq (.reg [mv 114 8,
 ca 115 39 [114],
 mv 116 8,
 ca 117 40 [116],
 oo 118 (.buildSlice 118 2 2 [.int .i64 0, .str []] [(0, 115), (1, 117)]),
 ln 119 118,
 mv 120 (.const (.int .i64 0))])
  (.block 10 (.loop [9, 8, 13, 12, 118, 120, 119, 7, 6, 34] l31_7)))
  (.seq (.seq (.reg [mv 133 12,
 ln 134 133,
 mv 135 (.const (.int .i64 0))])
  (.block 12 (.loop [9, 8, 13, 133, 12, 135, 134, 7, 6, 34] l31_14)))
  (.seq (.reg [oo 189 (.move 13 true),
 mv 190 8,
 ca 191 50 [190],
 oo 192 (.append 69 3 40 false 189 191),
 ca 193 48 [192],
 fa 194 2 9,
 vv (.store 3 194 193)])
  (.seq (.reg [mv 195 8,
 nc 196 195,
 fa 197 5 196,
 ld 198 197,
 fa 199 1 9,
 vv (.store 1 199 198)])
  (.seq (.reg [lt 200 5 9,
 vv (.store 5 6 200),
 sg 7 (.const (.int .i64 0))])
  .ret))))))))))))))))⟩
def m32 : MFunc :=
 ⟨2, 38, [.tmp 4, .tmp 5],
 (.seq (.reg [oo 2 (.box 0),
 sg 4 (.const (.sl [] (some 133))),
 sg 5 (.const (.int .i64 0))])
  (.seq (.reg [mv 8 1,
 lt 9 3 2,
 ca 10 51 [9],
 oo 11 (.max [8, 10, (.const (.int .i64 0))]),
 oo 12 (.build [.nils 133, .int .i64 0] [(1, 1, 11)]),
 oo 13 (.box 12),
 sg 6 13])
  (.seq (.seq (.reg [lt 14 3 2,
 ca 15 52 [14],
 oo 7 (.alloc z0),
 vv (.store 3 7 15)])
  (.seq (.reg [fa 16 0 7,
 ld 17 16])
  (.block 0 (.seq (.reg [oo 25 (.bin .eql 17 (.const (.int .i64 1))),
 sg 24 25])
  (.cond 24 .skip (.seq (.reg [oo 27 (.bin .eql 17 (.const (.int .i64 2))),
 sg 26 27])
  (.cond 26 (.reg [mv 28 6,
 oo 29 (.call 53 [28, (.const (.sl [] none))])]) (.reg [mv 18 6,
 mv 19 6,
 lt 20 3 7,
 ca 21 54 [19, 20],
 oo 22 (.buildSlice 3 1 1 [.int .i64 0] [(0, 21)]),
 ca 23 53 [18, 22]]))))))))
  (.seq (.reg [mv 30 6,
 nc 31 30,
 fa 32 0 31,
 ld 33 32,
 mv 34 6,
 nc 35 34,
 fa 36 1 35,
 ld 37 36,
 sg 4 33,
 sg 5 37])
  .ret))))⟩
def m33 : MFunc :=
 ⟨2, 18, [.tmp 4],
 (.seq (.reg [oo 3 (.box 1),
 sg 4 (.const (.int .i64 0))])
  (.seq (.reg [oo 6 (.mkfunc 55 [3]),
 oo 5 (.alloc [.nilf]),
 vv (.store 1 5 6)])
  (.seq (.seq (.reg [ld 7 3,
 oo 8 (.bin .lss 7 (.const (.int .i64 0))),
 mv 9 8,
 ⟨some 10, .load false 1 3 false, some (9, false)⟩,
 ⟨some 11, .bin .gtr 10 (.const (.int .i64 20000)), some (9, false)⟩,
 oo 12 (.pick 9 (.const (.bool true)) 11),
 mv 13 12,
 ⟨some 14, .move 0 false, some (13, false)⟩,
 ⟨some 15, .mkfunc 57 [5], some (13, false)⟩,
 ⟨some 16, .call 56 [14, 15], some (13, false)⟩,
 oo 17 (.pick 13 (.const (.bool true)) 16)])
  (.cond 17 (.seq (.reg [sg 4 (.const (.int .i64 1))])
  .ret) .skip))
  (.seq (.reg [sg 4 (.const (.int .i64 0))])
  .ret))))⟩
def l34_0 : MCode :=
  (.seq (.seq (.reg [mv 49 11,
 mv 50 1,
 oo 51 (.bin .leq 49 50)])
  (.cond 51 .skip (.exit 1)))
  (.seq (.block 2 (.reg [fa 54 1 10,
 oo 55 (.load false 1 54 true),
 mv 56 7,
 nc 57 56,
 fa 58 2 57,
 ld 59 58,
 mv 60 11,
 oo 61 (.indexAddr 1 59 60),
 ld 62 61,
 oo 63 (.bin .gtr 62 (.const (.int .i64 0))),
 oo 64 (.buildSlice 4 1 1 [.bool false] [(0, 63)]),
 oo 65 (.append 4 1 1 false 55 64),
 fa 66 1 10,
 vv (.store 1 66 65)]))
  (.reg [mv 52 11,
 oo 53 (.bin .add 52 (.const (.int .i64 1))),
 sg 11 53])))
def m34 : MFunc :=
 ⟨3, 75, [.cell 6 true 4],
 (.seq (.reg [oo 6 (.alloc z20)])
  (.seq (.seq (.reg [mv 12 0,
 mv 13 1,
 ca 14 33 [12, 13],
 oo 15 (.bin .neq 14 (.const (.int .i64 0)))])
  (.cond 15 (.seq (.reg [oo 16 (.build [.int .i64 0, .nils 4, .nils 210, .int .i64 0] []),
 vv (.store 4 6 16)])
  .ret) .skip))
  (.seq (.reg [mv 17 0,
 ln 18 17,
 mv 19 1,
 oo 20 (.bin .add 19 (.const (.int .i64 1))),
 oo 21 (.mkslice 1 8 [.int .i64 0] 20 20),
 mv 22 2,
 oo 23 (.max [22, (.const (.int .i64 0))]),
 oo 24 (.build [.nils 133, .int .i64 0, .nils 3, .nils 207, .nils 210, .int .i64 0, .int .i64 0] [(1, 1, 18), (2, 1, 21), (5, 1, 23)]),
 oo 25 (.box 24),
 sg 7 25])
  (.seq (.reg [mv 26 7,
 mv 27 7,
 nc 28 27,
 fa 29 0 28,
 oo 30 (.load false 1 29 true),
 mv 31 0,
 oo 32 (.append 133 1 24 false 30 31),
 nc 33 26,
 fa 34 0 33,
 vv (.store 1 34 32)])
  (.seq (.reg [mv 36 7,
 ca 37 59 [36],
 mv 35 37,
 oo 38 (.extract 35 0),
 oo 39 (.extract 35 1),
 sg 8 38,
 sg 9 39])
  (.seq (.reg [mv 40 8,
 mv 41 7,
 nc 42 41,
 fa 43 6 42,
 ld 44 43,
 oo 45 (.build [.int .i64 0, .nils 4, .nils 210, .int .i64 0] [(0, 1, 40), (3, 1, 44)]),
 oo 10 (.alloc z20),
 vv (.store 4 10 45)])
  (.seq (.seq (.reg [mv 46 8])
  (.block 0 (.seq (.reg [oo 48 (.bin .eql 46 (.const (.int .i64 1))),
 sg 47 48])
  (.cond 47 (.seq (.reg [sg 11 (.const (.int .i64 1))])
  (.block 1 (.loop [10, 7, 11, 1, 6, 25] l34_0))) (.seq (.reg [oo 68 (.bin .eql 46 (.const (.int .i64 2))),
 sg 67 68])
  (.cond 67 (.reg [mv 69 7,
 nc 70 69,
 fa 71 4 70,
 ld 72 71,
 fa 73 2 10,
 vv (.store 1 73 72)]) .skip))))))
  (.seq (.reg [lt 74 4 10,
 vv (.store 4 6 74)])
  .ret))))))))⟩
def o35_0 : List MOper :=
 [mv 37 10,
 fa 38 0 5,
 ld 39 38,
 ca 40 61 [37, 39],
 mv 41 10,
 fa 42 2 5,
 ld 43 42,
 ca 44 61 [41, 43],
 fa 45 0 11,
 vv (.store 2 45 40),
 fa 46 4 11,
 vv (.store 2 46 44)]
def o35_1 : List MOper :=
 [mv 37 10,
 fa 38 0 5,
 oo 39 (.loadL false 1 38),
 oo 40 (.callS 61 [37, 39]),
 mv 41 10,
 fa 42 2 5,
 oo 43 (.loadL false 1 42),
 oo 44 (.callS 61 [41, 43]),
 fa 45 0 11,
 vv (.store 2 45 40),
 fa 46 4 11,
 vv (.store 2 46 44)]
def o35_2 : List MOper :=
 [mv 62 14,
 fa 63 0 16,
 ld 64 63,
 fa 65 1 16,
 lt 66 4 65,
 ca 67 63 [66],
 vv (.mapUpdate 1 62 64 67)]
def o35_3 : List MOper :=
 [mv 62 14,
 fa 63 0 16,
 oo 64 (.loadL false 1 63),
 fa 65 1 16,
 oo 66 (.loadL true 4 65),
 oo 67 (.callS 63 [66]),
 vv (.mapUpdate 1 62 64 67)]
def l35_4 : MCode :=
  (.seq (.reg [oo 59 (.bin .lss 58 57)])
  (.seq (.cond 59 .skip (.exit 0))
  (.seq (.block 1 (.seq (.reg [oo 60 (.indexAddr 6 56 58),
 lt 61 6 60,
 oo 16 (.alloc z13),
 vv (.store 6 16 61)])
  (.seq (.regionQ [(false, o35_3), (true, o35_2)] o35_2 [[], [], [1], [], [3], [4], [0, 2, 5, 5, 0, 1, 2, 3, 4, 5]])
  (.seq (.reg [fa 68 1 16,
 fa 69 0 68,
 ld 70 69,
 oo 71 (.bin .eql 70 (.const (.int .i64 5)))])
  (.cond 71 (.reg [mv 72 14,
 fa 73 0 16,
 ld 74 73,
 mv 75 10,
 nc 76 75,
 fa 77 3 76,
 ld 78 77,
 oo 79 (.build z3 [(0, 1, (.const (.int .i64 3))), (3, 1, 78)]),
 vv (.mapUpdate 1 72 74 79)]) .skip)))))
  (.reg [oo 80 (.bin .add 58 (.const (.int .i64 1))),
 mv 58 80]))))
def o35_5 : List MOper :=
 [mv 93 14,
 fa 94 5 19,
 ld 95 94,
 mv 96 17,
 mv 97 18,
 oo 98 (.callv 96 [97]),
 oo 99 (.build z3 [(0, 1, (.const (.int .i64 1))), (1, 1, 98)]),
 vv (.mapUpdate 1 93 95 99)]
def l35_6 : MCode :=
  (.seq (.reg [oo 85 (.bin .lss 84 83)])
  (.seq (.cond 85 .skip (.exit 2))
  (.seq (.block 3 (.seq (.reg [mv 86 84,
 oo 87 (.indexAddr 7 82 84),
 lt 88 7 87,
 oo 19 (.alloc z7),
 sg 18 86,
 vv (.store 7 19 88)])
  (.block 4 (.seq (.reg [fa 90 0 19,
 ld 91 90,
 oo 92 (.bin .eql 91 (.const (.int .i64 6))),
 sg 89 92])
  (.cond 89 (.regionQ [(true, o35_5)] o35_5 [[], [], [1], [], [], [3, 4], [5], [0, 2, 6, 5, 0, 1, 2, 3, 4, 5, 6]]) (.seq (.reg [mv 101 17,
 mv 102 18,
 oo 103 (.callv 101 [102]),
 oo 104 (.un .not 103),
 sg 100 104])
  (.cond 100 .skip (.seq (.reg [fa 106 0 19,
 ld 107 106,
 oo 108 (.bin .eql 107 (.const (.int .i64 1))),
 sg 105 108])
  (.cond 105 (.reg [fa 109 1 19,
 lt 110 2 109,
 fa 111 0 11,
 vv (.store 2 111 110)]) (.seq (.reg [fa 113 0 19,
 ld 114 113,
 oo 115 (.bin .eql 114 (.const (.int .i64 3))),
 sg 112 115])
  (.cond 112 (.reg [fa 116 1 19,
 lt 117 2 116,
 fa 118 4 11,
 vv (.store 2 118 117)]) (.seq (.reg [fa 120 0 19,
 ld 121 120,
 oo 122 (.bin .eql 121 (.const (.int .i64 7))),
 sg 119 122])
  (.cond 119 (.reg [mv 123 14,
 fa 124 5 19,
 ld 125 124,
 fa 126 6 19,
 ld 127 126,
 oo 128 (.build z3 [(0, 1, (.const (.int .i64 3))), (3, 1, 127)]),
 vv (.mapUpdate 1 123 125 128)]) .skip)))))))))))))
  (.reg [oo 129 (.bin .add 84 (.const (.int .i64 1))),
 mv 84 129]))))
def l35_7 : MCode :=
  (.seq (.reg [oo 141 (.bin .lss 140 139)])
  (.seq (.cond 141 .skip (.exit 5))
  (.seq (.block 6 (.seq (.reg [mv 142 140,
 oo 143 (.indexAddr 7 138 140),
 lt 144 7 143,
 oo 21 (.alloc z7),
 sg 20 142,
 vv (.store 7 21 144)])
  (.block 7 (.seq (.reg [mv 146 17,
 mv 147 20,
 oo 148 (.callv 146 [147]),
 oo 149 (.un .not 148),
 sg 145 149])
  (.cond 145 .skip (.seq (.reg [fa 151 0 21,
 ld 152 151,
 oo 153 (.bin .eql 152 (.const (.int .i64 5))),
 sg 150 153])
  (.cond 150 (.reg [mv 154 10,
 fa 155 1 21,
 lt 156 2 155,
 fa 157 3 21,
 lt 158 2 157,
 ca 159 66 [154, 156, 158]]) (.seq (.reg [fa 161 0 21,
 ld 162 161,
 oo 163 (.bin .eql 162 (.const (.int .i64 2))),
 mv 164 163,
 ⟨some 165, .fieldAddr 0 11, some (164, true)⟩,
 ⟨some 166, .load true 2 165 false, some (164, true)⟩,
 ⟨some 167, .fieldAddr 1 21, some (164, true)⟩,
 ⟨some 168, .load true 2 167 false, some (164, true)⟩,
 ⟨some 169, .eqA 34 true 166 168, some (164, true)⟩,
 oo 170 (.pick 164 169 (.const (.bool false))),
 sg 160 170])
  (.cond 160 (.reg [mv 171 10,
 fa 172 0 11,
 lt 173 2 172,
 fa 174 1 21,
 lt 175 2 174,
 ca 176 66 [171, 173, 175]]) (.seq (.reg [fa 178 0 21,
 ld 179 178,
 oo 180 (.bin .eql 179 (.const (.int .i64 4))),
 mv 181 180,
 ⟨some 182, .fieldAddr 4 11, some (181, true)⟩,
 ⟨some 183, .load true 2 182 false, some (181, true)⟩,
 ⟨some 184, .fieldAddr 1 21, some (181, true)⟩,
 ⟨some 185, .load true 2 184 false, some (181, true)⟩,
 ⟨some 186, .eqA 34 true 183 185, some (181, true)⟩,
 oo 187 (.pick 181 186 (.const (.bool false))),
 sg 177 187])
  (.cond 177 (.reg [mv 188 10,
 fa 189 4 11,
 lt 190 2 189,
 fa 191 1 21,
 lt 192 2 191,
 ca 193 66 [188, 190, 192]]) .skip)))))))))))
  (.reg [oo 194 (.bin .add 140 (.const (.int .i64 1))),
 mv 140 194]))))
def o35_8 : List MOper :=
 [fa 207 6 11,
 fa 208 7 207,
 oo 209 (.load false 1 208 true),
 fa 210 0 23,
 ld 211 210,
 oo 212 (.buildSlice 9 1 1 [.str []] [(0, 211)]),
 oo 213 (.append 9 1 16 false 209 212),
 fa 214 6 11,
 fa 215 6 214,
 oo 216 (.load false 1 215 true),
 mv 217 14,
 fa 218 0 23,
 ld 219 218,
 oo 220 (.lookup 1 true z5 217 219 false),
 oo 221 (.buildSlice 46 8 1 z5 [(0, 220)]),
 oo 222 (.append 46 8 120 false 216 221),
 fa 223 6 11,
 fa 224 7 223,
 vv (.store 1 224 213),
 fa 225 6 11,
 fa 226 6 225,
 vv (.store 1 226 222)]
def o35_9 : List MOper :=
 [fa 207 6 11,
 fa 208 7 207,
 oo 209 (.loadK 11 13 1 208),
 fa 210 0 23,
 ld 211 210,
 oo 212 (.buildSlice 9 1 1 [.str []] [(0, 211)]),
 oo 213 (.append 9 1 16 false 209 212),
 fa 214 6 11,
 fa 215 6 214,
 oo 216 (.loadK 11 12 1 215),
 mv 217 14,
 fa 218 0 23,
 ld 219 218,
 oo 220 (.lookup 1 true z5 217 219 false),
 oo 221 (.buildSlice 46 8 1 z5 [(0, 220)]),
 oo 222 (.append 46 8 120 false 216 221),
 fa 223 6 11,
 fa 224 7 223,
 vv (.store 1 224 213),
 fa 225 6 11,
 fa 226 6 225,
 vv (.store 1 226 222)]
def l35_10 : MCode :=
  (.seq (.reg [oo 201 (.bin .lss 200 199)])
  (.seq (.cond 201 .skip (.exit 8))
  (.seq (.block 9 (.seq (.reg [oo 202 (.indexAddr 6 198 200),
 lt 203 6 202,
 oo 23 (.alloc z13),
 vv (.store 6 23 203)])
  (.seq (.reg [fa 204 5 23,
 ld 205 204,
 oo 206 (.un .not 205)])
  (.cond 206 (.regionQ [(true, o35_9)] o35_8 [[], [0], [1], [], [3], [4], [2, 5], [], [7], [8], [], [], [11], [10, 12], [13], [9, 14, 6], [0, 1, 2, 3, 4, 5, 6, 7, 8, 9], [16, 0, 1, 2, 3, 4, 5, 6, 7, 8, 9], [17, 6, 15, 0, 1, 2, 3, 4, 5, 6, 7, 8, 9], [0, 1, 2, 3, 4, 5, 6, 7, 8, 9, 10, 11, 12, 13, 14, 15, 16, 17, 18], [19, 0, 1, 2, 3, 4, 5, 6, 7, 8, 9, 10, 11, 12, 13, 14, 15, 16, 17, 18], [20, 15, 18, 0, 1, 2, 3, 4, 5, 6, 7, 8, 9, 10, 11, 12, 13, 14, 15, 16, 17, 18]]) .skip))))
  (.reg [oo 227 (.bin .add 200 (.const (.int .i64 1))),
 mv 200 227]))))
def l35_11 : MCode :=
  (.reg [oo 239 (.move 24 true),
 mv 240 26,
 nc 241 240,
 lt 242 11 241,
 oo 243 (.buildSlice 157 11 1 z15 [(0, 242)]),
 oo 244 (.append 157 11 176 true 239 243),
 sg 24 244])
def m35 : MFunc :=
 ⟨4, 249, [.cell 8 true 14, .tmp 9],
 (.seq (.reg [oo 4 (.box 0),
 oo 5 (.box 1),
 oo 7 (.box 3),
 oo 8 (.alloc [.str [], .str [], .str [], .str [], .str [], .str [], .int .i64 0, .bool false, .int .i64 0, .str [], .str [], .str [], .sl [] (some 46), .sl [] (some 9)]),
 sg 9 (.const (.sl [] (some 157)))])
  (.seq (.regionA [lt 27 2 4,
 oo 28 (.mkmap),
 mv 29 2,
 ca 30 60 [29],
 oo 31 (.build [.nils 26, .nils 34, .nilm, .str [], .int .i64 0] [(0, 2, 27), (2, 1, 28), (3, 1, 30)]),
 oo 32 (.box 31),
 sg 10 32] [[], [], [], [2], [0, 1, 3], [4], [5, 3, 0, 1, 2, 3, 4, 5]])
  (.seq (.reg [fa 33 1 5,
 ld 34 33,
 oo 35 (.build [.str [], .str []] [(0, 1, (.const (.str [65, 99, 116, 105, 111, 110]))), (1, 1, 34)]),
 oo 36 (.build [.str [], .str [], .str [], .str [], .str [], .str [], .int .i64 0, .bool false, .int .i64 0, .str [], .str [], .str [], .nils 46, .nils 9] [(2, 2, 35)]),
 oo 11 (.alloc [.str [], .str [], .str [], .str [], .str [], .str [], .int .i64 0, .bool false, .int .i64 0, .str [], .str [], .str [], .sl [] (some 46), .sl [] (some 9)]),
 vv (.store 14 11 36)])
  (.seq (.regionQ [(false, o35_1), (true, o35_0)] o35_0 [[], [], [1], [0, 2], [], [], [5], [4, 6, 3], [0, 1, 2, 3], [8, 3, 7, 0, 1, 2, 3], [0, 1, 2, 3, 4, 5, 6, 7, 8, 9], [10, 7, 9, 0, 1, 2, 3, 4, 5, 6, 7, 8, 9]])
  (.seq (.reg [lt 48 2 4,
 fa 49 1 5,
 ld 50 49,
 ca 51 62 [48, 50],
 mv 47 51,
 oo 52 (.extract 47 0),
 oo 53 (.extract 47 1),
 oo 12 (.alloc z11),
 vv (.store 5 12 52),
 sg 13 53])
  (.seq (.reg [oo 54 (.mkmap),
 sg 14 54])
  (.seq (.seq (.reg [fa 55 4 12,
 ld 56 55,
 ln 57 56,
 mv 58 (.const (.int .i64 0))])
  (.block 0 (.loop [11, 10, 4, 14, 12, 2, 7, 56, 58, 57, 9, 8, 32] l35_4)))
  (.seq (.reg [oo 81 (.mkfunc 64 [7]),
 sg 17 81])
  (.seq (.seq (.reg [mv 82 2,
 ln 83 82,
 mv 84 (.const (.int .i64 0))])
  (.block 2 (.loop [11, 10, 4, 14, 12, 17, 2, 82, 84, 83, 9, 8, 32] l35_6)))
  (.seq (.reg [mv 130 10,
 fa 131 0 11,
 lt 132 2 131,
 ca 133 65 [130, 132]])
  (.seq (.reg [mv 134 10,
 fa 135 4 11,
 lt 136 2 135,
 ca 137 65 [134, 136]])
  (.seq (.seq (.reg [mv 138 2,
 ln 139 138,
 mv 140 (.const (.int .i64 0))])
  (.block 5 (.loop [11, 10, 4, 14, 12, 138, 17, 140, 139, 9, 8, 32] l35_7)))
  (.seq (.reg [oo 195 (.build z3 [(0, 1, (.const (.int .i64 6)))]),
 fa 196 6 11,
 vv (.store 8 196 195)])
  (.seq (.seq (.reg [fa 197 4 12,
 ld 198 197,
 ln 199 198,
 mv 200 (.const (.int .i64 0))])
  (.block 8 (.loop [11, 10, 4, 198, 14, 200, 199, 9, 8, 32] l35_10)))
  (.seq (.reg [lt 228 2 4,
 oo 229 (.callM 67 [228]),
 sg 24 229])
  (.rangeM ⟨[24, 11, 234, 9, 8, 32], [8, 9], [mv 230 10,
 nc 231 230,
 fa 232 2 231,
 ld 233 232], 233, 234, 235, 236, 237, oo 236 (.extract 235 0), [oo 238 (.extract 237 1),
 sg 26 238], 10, 11⟩ l35_11
  (.seq (.reg [mv 245 24,
 oo 246 (.call 68 [245, (.const (.func 69 []))])])
  (.seq (.reg [lt 247 14 11,
 mv 248 24,
 vv (.store 14 8 247),
 sg 9 248])
  .ret))))))))))))))))))⟩
def o36_0 : List MOper :=
 [mv 9 0,
 fa 10 2 3,
 lt 11 6 10,
 mv 12 0,
 ca 13 39 [12],
 ca 14 71 [9, 11, 13],
 mv 15 0,
 fa 16 8 3,
 lt 17 6 16,
 ca 18 72 [15, 17],
 mv 19 0,
 fa 20 14 3,
 lt 21 6 20,
 mv 22 0,
 ca 23 40 [22],
 ca 24 71 [19, 21, 23],
 oo 25 (.buildSlice 69 3 3 z0 [(0, 14), (1, 18), (2, 24)]),
 sg 5 25]
def o36_1 : List MOper :=
 [mv 9 0,
 fa 10 2 3,
 oo 11 (.loadL true 6 10),
 mv 12 0,
 oo 13 (.callS 39 [12]),
 oo 14 (.callS 71 [9, 11, 13]),
 mv 15 0,
 fa 16 8 3,
 oo 17 (.loadL true 6 16),
 oo 18 (.callS 72 [15, 17]),
 mv 19 0,
 fa 20 14 3,
 oo 21 (.loadL true 6 20),
 mv 22 0,
 oo 23 (.callS 40 [22]),
 oo 24 (.callS 71 [19, 21, 23]),
 oo 25 (.buildSlice 69 3 3 z0 [(0, 14), (1, 18), (2, 24)]),
 sg 5 25]
def l36_2 : MCode :=
  (.seq (.reg [oo 30 (.bin .lss 29 28)])
  (.seq (.cond 30 .skip (.exit 0))
  (.seq (.block 1 (.seq (.reg [oo 31 (.indexAddr 13 27 29),
 lt 32 13 31,
 oo 7 (.alloc z12),
 vv (.store 13 7 32)])
  (.seq (.seq (.reg [fa 33 1 7,
 lt 34 12 33,
 ca 35 73 [34],
 oo 36 (.bin .gtr 35 (.const (.int .i64 50)))])
  (.cond 36 (.seq (.reg [mv 37 0,
 ca 38 74 [37]])
  (.exit 0)) .skip))
  (.seq (.reg [mv 39 0,
 fa 40 1 7,
 lt 41 12 40,
 ca 42 75 [39, 41],
 oo 8 (.alloc z0),
 vv (.store 3 8 42)])
  (.seq (.seq (.reg [fa 43 0 7,
 ld 44 43,
 oo 45 (.un .not 44)])
  (.cond 45 (.reg [lt 46 3 8,
 ca 47 47 [46],
 vv (.store 3 8 47)]) .skip))
  (.reg [oo 48 (.move 5 true),
 lt 49 3 8,
 oo 50 (.buildSlice 69 3 1 z0 [(0, 49)]),
 oo 51 (.append 69 3 40 false 48 50),
 sg 5 51]))))))
  (.reg [oo 52 (.bin .add 29 (.const (.int .i64 1))),
 mv 29 52]))))
def m36 : MFunc :=
 ⟨2, 55, [.cell 4 true 3],
 (.seq (.reg [oo 3 (.box 1),
 oo 4 (.alloc z0)])
  (.seq (.regionQ [(false, o36_1), (true, o36_0)] o36_0 [[], [], [1], [], [3], [0, 2, 4, 4], [], [], [7], [6, 8, 5], [], [], [11], [], [13, 9], [10, 12, 14, 14], [5, 9, 15], [16, 15, 0, 1, 2, 3, 4, 5, 6, 7, 8, 9, 10, 11, 12, 13, 14, 15, 16]])
  (.seq (.seq (.reg [fa 26 20 3,
 ld 27 26,
 ln 28 27,
 mv 29 (.const (.int .i64 0))])
  (.block 0 (.loop [5, 27, 0, 29, 28, 4] l36_2)))
  (.seq (.reg [mv 53 5,
 ca 54 48 [53],
 vv (.store 3 4 54)])
  .ret))))⟩
def l37_0 : MCode :=
  (.seq (.reg [oo 14 (.bin .lss 13 12)])
  (.seq (.cond 14 .skip (.exit 0))
  (.seq (.block 1 (.seq (.reg [oo 15 (.indexAddr 7 11 13),
 lt 16 7 15,
 oo 7 (.alloc z7),
 vv (.store 7 7 16)])
  (.seq (.reg [mv 17 1,
 lt 18 7 7,
 oo 19 (.callv 17 [18])])
  (.cond 19 (.seq (.reg [oo 20 (.move 5 true),
 fa 21 1 7,
 lt 22 2 21,
 oo 23 (.buildSlice 43 2 1 [.str [], .str []] [(0, 22)]),
 oo 24 (.append 43 2 32 true 20 23),
 sg 5 24])
  (.seq (.reg [fa 25 0 7,
 ld 26 25,
 oo 27 (.bin .eql 26 (.const (.int .i64 5)))])
  (.cond 27 (.reg [oo 28 (.move 5 true),
 fa 29 3 7,
 lt 30 2 29,
 oo 31 (.buildSlice 43 2 1 [.str [], .str []] [(0, 30)]),
 oo 32 (.append 43 2 32 true 28 31),
 sg 5 32]) .skip))) .skip))))
  (.reg [oo 33 (.bin .add 13 (.const (.int .i64 1))),
 mv 13 33]))))
def m37 : MFunc :=
 ⟨2, 38, [.tmp 4],
 (.seq (.reg [sg 4 (.const (.sl [] (some 43)))])
  (.seq (.reg [sg 5 (.const (.sl [] (some 43)))])
  (.seq (.seq (.reg [mv 8 0,
 nc 9 8,
 fa 10 5 9,
 ld 11 10,
 ln 12 11,
 mv 13 (.const (.int .i64 0))])
  (.block 0 (.loop [5, 11, 1, 13, 12, 4] l37_0)))
  (.seq (.reg [mv 34 5,
 oo 35 (.call 76 [34, (.const (.func 70 []))])])
  (.seq (.reg [mv 36 5,
 oo 37 (.callM 77 [36]),
 sg 4 37])
  .ret)))))⟩
def m38 : MFunc :=
 ⟨1, 6, [.tmp 2],
 (.seq (.reg [oo 1 (.box 0),
 sg 2 (.const (.bool false))])
  (.seq (.reg [fa 3 0 1,
 ld 4 3,
 oo 5 (.bin .leq 4 (.const (.int .i64 5))),
 sg 2 5])
  .ret))⟩
def m39 : MFunc :=
 ⟨1, 9, [.cell 2 true 2],
 (.seq (.reg [oo 2 (.alloc [.int .i64 0, .str []])])
  (.seq (.reg [mv 3 0,
 nc 4 3,
 fa 5 2 4,
 fa 6 0 5,
 ld 7 6,
 oo 8 (.build [.int .i64 0, .str []] [(0, 1, (.const (.int .i64 1))), (1, 1, 7)]),
 vv (.store 2 2 8)])
  .ret))⟩
def m40 : MFunc :=
 ⟨1, 9, [.cell 2 true 2],
 (.seq (.reg [oo 2 (.alloc [.int .i64 0, .str []])])
  (.seq (.reg [mv 3 0,
 nc 4 3,
 fa 5 2 4,
 fa 6 2 5,
 ld 7 6,
 oo 8 (.build [.int .i64 0, .str []] [(0, 1, (.const (.int .i64 3))), (1, 1, 7)]),
 vv (.store 2 2 8)])
  .ret))⟩
def m41 : MFunc :=
 ⟨2, 17, [.tmp 3],
 (.seq (.reg [oo 2 (.box 0),
 sg 3 (.const (.bool false))])
  (.seq (.reg [fa 4 0 2,
 ld 5 4,
 fa 6 0 1,
 ld 7 6,
 oo 8 (.bin .eql 5 7),
 mv 9 8,
 ⟨some 10, .fieldAddr 0 2, some (9, false)⟩,
 ⟨some 11, .load false 1 10 false, some (9, false)⟩,
 ⟨some 12, .fieldAddr 0 1, some (9, false)⟩,
 ⟨some 13, .load false 1 12 false, some (9, false)⟩,
 ⟨some 14, .bin .add 13 (.const (.int .i64 1)), some (9, false)⟩,
 ⟨some 15, .bin .eql 11 14, some (9, false)⟩,
 oo 16 (.pick 9 (.const (.bool true)) 15),
 sg 3 16])
  .ret))⟩
def m42 : MFunc :=
 ⟨3, 19, [.cell 6 true 3],
 (.seq (.reg [oo 4 (.box 1),
 oo 5 (.box 2),
 oo 6 (.alloc z0)])
  (.seq (.seq (.reg [fa 7 0 5,
 ld 8 7,
 fa 9 1 4,
 ld 10 9,
 oo 11 (.bin .neq 8 10)])
  (.cond 11 (.seq (.reg [ca 12 78 [(.const (.bool false))],
 vv (.store 3 6 12)])
  .ret) .skip))
  (.seq (.reg [mv 13 0,
 fa 14 0 4,
 ld 15 14,
 lt 16 2 5,
 oo 17 (.build z7 [(0, 1, 15), (1, 2, 16)]),
 ca 18 79 [13, 17],
 vv (.store 3 6 18)])
  .ret)))⟩
def m43 : MFunc :=
 ⟨3, 37, [.cell 6 true 3],
 (.seq (.reg [oo 4 (.box 1),
 oo 5 (.box 2),
 oo 6 (.alloc z0)])
  (.seq (.seq (.reg [mv 8 0,
 nc 9 8,
 fa 10 0 9,
 lt 11 2 10,
 fa 12 1 4,
 ld 13 12,
 fa 14 0 5,
 ld 15 14,
 ca 16 80 [11, 13, 15],
 sg 7 16])
  (.block 0 (.seq (.reg [mv 18 7,
 sg 17 18])
  (.cond 17 (.seq (.reg [mv 19 0,
 fa 20 0 4,
 ld 21 20,
 oo 22 (.bin .add 21 (.const (.int .i64 1))),
 lt 23 2 5,
 oo 24 (.build z7 [(0, 1, 22), (1, 2, 23)]),
 ca 25 79 [19, 24],
 vv (.store 3 6 25)])
  .ret) (.seq (.reg [fa 27 0 5,
 ld 28 27,
 fa 29 1 4,
 ld 30 29,
 oo 31 (.bin .eql 28 30),
 sg 26 31])
  (.cond 26 (.seq (.reg [mv 32 0,
 lt 33 2 4,
 lt 34 2 5,
 ca 35 42 [32, 33, 34],
 vv (.store 3 6 35)])
  .ret) .skip))))))
  (.seq (.reg [ca 36 78 [(.const (.bool false))],
 vv (.store 3 6 36)])
  .ret)))⟩
def m44 : MFunc :=
 ⟨3, 47, [.cell 6 true 3],
 (.seq (.reg [oo 4 (.box 1),
 oo 5 (.box 2),
 oo 6 (.alloc z0)])
  (.seq (.block 0 (.seq (.reg [lt 8 2 4,
 lt 9 2 5,
 oo 10 (.eqA 34 false 8 9),
 sg 7 10])
  (.cond 7 (.seq (.reg [ca 11 78 [(.const (.bool true))],
 vv (.store 3 6 11)])
  .ret) (.seq (.reg [fa 13 0 4,
 ld 14 13,
 oo 15 (.bin .eql 14 (.const (.str [65, 99, 116, 105, 111, 110]))),
 mv 16 15,
 ⟨some 17, .fieldAddr 0 5, some (16, true)⟩,
 ⟨some 18, .load false 1 17 false, some (16, true)⟩,
 ⟨some 19, .bin .eql 18 (.const (.str [65, 99, 116, 105, 111, 110])), some (16, true)⟩,
 oo 20 (.pick 16 19 (.const (.bool false))),
 sg 12 20])
  (.cond 12 (.seq (.reg [mv 21 0,
 nc 22 21,
 fa 23 0 22,
 lt 24 2 23,
 fa 25 1 4,
 ld 26 25,
 fa 27 1 5,
 ld 28 27,
 ca 29 81 [24, 26, 28],
 ca 30 78 [29],
 vv (.store 3 6 30)])
  .ret) (.seq (.reg [mv 32 0,
 nc 33 32,
 fa 34 0 33,
 lt 35 2 34,
 fa 36 0 4,
 ld 37 36,
 fa 38 0 5,
 ld 39 38,
 ca 40 80 [35, 37, 39],
 sg 31 40])
  (.cond 31 (.seq (.reg [mv 41 0,
 lt 42 2 4,
 lt 43 2 5,
 oo 44 (.build z7 [(0, 1, (.const (.int .i64 5))), (1, 2, 42), (3, 2, 43)]),
 ca 45 79 [41, 44],
 vv (.store 3 6 45)])
  .ret) .skip)))))))
  (.seq (.reg [ca 46 78 [(.const (.bool false))],
 vv (.store 3 6 46)])
  .ret)))⟩
def o45_0 : List MOper :=
 [oo 18 (.move 7 true),
 mv 19 0,
 lt 20 2 4,
 lt 21 2 9,
 ca 22 42 [19, 20, 21],
 mv 23 0,
 lt 24 2 4,
 lt 25 2 9,
 ca 26 43 [23, 24, 25],
 ca 27 49 [22, 26],
 oo 28 (.buildSlice 69 3 1 z0 [(0, 27)]),
 oo 29 (.append 69 3 40 false 18 28),
 sg 7 29]
def o45_1 : List MOper :=
 [oo 18 (.move 7 true),
 mv 19 0,
 oo 20 (.loadL true 2 4),
 oo 21 (.loadL true 2 9),
 oo 22 (.callS 42 [19, 20, 21]),
 mv 23 0,
 oo 24 (.loadL true 2 4),
 oo 25 (.loadL true 2 9),
 oo 26 (.callS 43 [23, 24, 25]),
 oo 27 (.callS 49 [22, 26]),
 oo 28 (.buildSlice 69 3 1 z0 [(0, 27)]),
 oo 29 (.append 69 3 40 false 18 28),
 sg 7 29]
def o45_2 : List MOper :=
 [oo 39 (.move 7 true),
 mv 40 0,
 lt 41 2 4,
 lt 42 2 9,
 ca 43 42 [40, 41, 42],
 mv 44 0,
 lt 45 2 4,
 lt 46 2 11,
 ca 47 42 [44, 45, 46],
 oo 48 (.buildSlice 69 3 2 z0 [(0, 43), (1, 47)]),
 ca 49 48 [48],
 ca 50 47 [49],
 mv 51 0,
 lt 52 2 4,
 lt 53 2 9,
 ca 54 42 [51, 52, 53],
 mv 55 0,
 lt 56 2 4,
 lt 57 2 11,
 ca 58 43 [55, 56, 57],
 oo 59 (.buildSlice 69 3 2 z0 [(0, 54), (1, 58)]),
 ca 60 48 [59],
 mv 61 0,
 lt 62 2 9,
 lt 63 2 11,
 ca 64 44 [61, 62, 63],
 ca 65 49 [60, 64],
 oo 66 (.buildSlice 69 3 2 z0 [(0, 50), (1, 65)]),
 oo 67 (.append 69 3 40 false 39 66),
 sg 7 67]
def o45_3 : List MOper :=
 [oo 39 (.move 7 true),
 mv 40 0,
 oo 41 (.loadL true 2 4),
 oo 42 (.loadL true 2 9),
 oo 43 (.callS 42 [40, 41, 42]),
 mv 44 0,
 oo 45 (.loadL true 2 4),
 oo 46 (.loadL true 2 11),
 oo 47 (.callS 42 [44, 45, 46]),
 oo 48 (.buildSlice 69 3 2 z0 [(0, 43), (1, 47)]),
 oo 49 (.callS 48 [48]),
 oo 50 (.callS 47 [49]),
 mv 51 0,
 oo 52 (.loadL true 2 4),
 oo 53 (.loadL true 2 9),
 oo 54 (.callS 42 [51, 52, 53]),
 mv 55 0,
 oo 56 (.loadL true 2 4),
 oo 57 (.loadL true 2 11),
 oo 58 (.callS 43 [55, 56, 57]),
 oo 59 (.buildSlice 69 3 2 z0 [(0, 54), (1, 58)]),
 oo 60 (.callS 48 [59]),
 mv 61 0,
 oo 62 (.loadL true 2 9),
 oo 63 (.loadL true 2 11),
 oo 64 (.callS 44 [61, 62, 63]),
 oo 65 (.callS 49 [60, 64]),
 oo 66 (.buildSlice 69 3 2 z0 [(0, 50), (1, 65)]),
 oo 67 (.append 69 3 40 false 39 66),
 sg 7 67]
def o45_4 : List MOper :=
 [oo 68 (.move 7 true),
 mv 69 0,
 lt 70 2 4,
 lt 71 2 9,
 ca 72 43 [69, 70, 71],
 mv 73 0,
 lt 74 2 9,
 lt 75 2 11,
 ca 76 44 [73, 74, 75],
 oo 77 (.buildSlice 69 3 2 z0 [(0, 72), (1, 76)]),
 ca 78 48 [77],
 mv 79 0,
 lt 80 2 4,
 lt 81 2 11,
 ca 82 43 [79, 80, 81],
 ca 83 49 [78, 82],
 oo 84 (.buildSlice 69 3 1 z0 [(0, 83)]),
 oo 85 (.append 69 3 40 false 68 84),
 sg 7 85]
def o45_5 : List MOper :=
 [oo 68 (.move 7 true),
 mv 69 0,
 oo 70 (.loadL true 2 4),
 oo 71 (.loadL true 2 9),
 oo 72 (.callS 43 [69, 70, 71]),
 mv 73 0,
 oo 74 (.loadL true 2 9),
 oo 75 (.loadL true 2 11),
 oo 76 (.callS 44 [73, 74, 75]),
 oo 77 (.buildSlice 69 3 2 z0 [(0, 72), (1, 76)]),
 oo 78 (.callS 48 [77]),
 mv 79 0,
 oo 80 (.loadL true 2 4),
 oo 81 (.loadL true 2 11),
 oo 82 (.callS 43 [79, 80, 81]),
 oo 83 (.callS 49 [78, 82]),
 oo 84 (.buildSlice 69 3 1 z0 [(0, 83)]),
 oo 85 (.append 69 3 40 false 68 84),
 sg 7 85]
def l45_6 : MCode :=
  (.seq (.reg [oo 33 (.bin .lss 32 31)])
  (.seq (.cond 33 .skip (.exit 2))
  (.seq (.block 3 (.seq (.reg [oo 34 (.indexAddr 2 30 32),
 lt 35 2 34,
 oo 11 (.alloc [.str [], .str []]),
 vv (.store 2 11 35)])
  (.seq (.seq (.reg [lt 36 2 9,
 lt 37 2 11,
 oo 38 (.eqA 34 true 36 37)])
  (.cond 38 (.regionQ [(false, o45_3), (true, o45_2)] o45_2 [[], [], [], [], [1, 2, 3], [], [], [], [5, 6, 7, 4], [4, 8], [9, 8], [10, 10], [], [], [], [12, 13, 14, 11], [], [], [], [16, 17, 18, 15], [15, 19], [20, 19], [], [], [], [22, 23, 24, 21], [21, 25, 25], [11, 26], [0, 27, 26], [28, 28, 0, 1, 2, 3, 4, 5, 6, 7, 8, 9, 10, 11, 12, 13, 14, 15, 16, 17, 18, 19, 20, 21, 22, 23, 24, 25, 26, 27, 28]]) .skip))
  (.regionQ [(false, o45_5), (true, o45_4)] o45_4 [[], [], [], [], [1, 2, 3], [], [], [], [5, 6, 7, 4], [4, 8], [9, 8], [], [], [], [11, 12, 13, 10], [10, 14, 14], [15], [0, 16, 15], [17, 17, 0, 1, 2, 3, 4, 5, 6, 7, 8, 9, 10, 11, 12, 13, 14, 15, 16, 17]]))))
  (.reg [oo 86 (.bin .add 32 (.const (.int .i64 1))),
 mv 32 86]))))
def l45_7 : MCode :=
  (.seq (.reg [oo 15 (.bin .lss 14 13)])
  (.seq (.cond 15 .skip (.exit 0))
  (.seq (.block 1 (.seq (.reg [oo 16 (.indexAddr 2 12 14),
 lt 17 2 16,
 oo 9 (.alloc [.str [], .str []]),
 vv (.store 2 9 17)])
  (.seq (.regionQ [(false, o45_1), (true, o45_0)] o45_0 [[], [], [], [], [1, 2, 3], [], [], [], [5, 6, 7, 4], [4, 8, 8], [9], [0, 10, 9], [11, 11, 0, 1, 2, 3, 4, 5, 6, 7, 8, 9, 10, 11]])
  (.seq (.reg [mv 30 2,
 ln 31 30,
 mv 32 (.const (.int .i64 0))])
  (.block 2 (.loop [7, 12, 2, 4, 0, 13, 14, 30, 9, 32, 31, 6] l45_6))))))
  (.reg [oo 87 (.bin .add 14 (.const (.int .i64 1))),
 mv 14 87]))))
def m45 : MFunc :=
 ⟨3, 89, [.tmp 6],
 (.seq (.reg [oo 4 (.box 1),
 sg 6 (.const (.sl [] (some 69)))])
  (.seq (.reg [sg 7 (.const (.sl [] (some 69)))])
  (.seq (.seq (.reg [mv 12 2,
 ln 13 12,
 mv 14 (.const (.int .i64 0))])
  (.block 0 (.loop [7, 12, 2, 4, 0, 14, 13, 6] l45_7)))
  (.seq (.reg [mv 88 7,
 sg 6 88])
  .ret))))⟩
def m46 : MFunc :=
 ⟨2, 17, [.tmp 3],
 (.seq (.reg [oo 2 (.box 0),
 sg 3 (.const (.bool false))])
  (.seq (.reg [fa 4 0 2,
 ld 5 4,
 fa 6 0 1,
 ld 7 6,
 oo 8 (.bin .eql 5 7),
 mv 9 8,
 ⟨some 10, .fieldAddr 0 2, some (9, false)⟩,
 ⟨some 11, .load false 1 10 false, some (9, false)⟩,
 ⟨some 12, .fieldAddr 0 1, some (9, false)⟩,
 ⟨some 13, .load false 1 12 false, some (9, false)⟩,
 ⟨some 14, .bin .add 13 (.const (.int .i64 1)), some (9, false)⟩,
 ⟨some 15, .bin .eql 11 14, some (9, false)⟩,
 oo 16 (.pick 9 (.const (.bool true)) 15),
 sg 3 16])
  .ret))⟩
def m47 : MFunc :=
 ⟨1, 6, [.cell 2 true 3],
 (.seq (.reg [oo 1 (.box 0),
 oo 2 (.alloc z0)])
  (.seq (.reg [lt 3 3 1,
 oo 4 (.buildSlice 69 3 1 z0 [(0, 3)]),
 oo 5 (.build z10 [(0, 1, (.const (.int .i64 4))), (2, 1, 4)]),
 vv (.store 3 2 5)])
  .ret))⟩
def m48 : MFunc :=
 ⟨1, 5, [.cell 2 true 3],
 (.seq (.reg [oo 2 (.alloc z0)])
  (.seq (.reg [mv 3 0,
 oo 4 (.build z10 [(0, 1, (.const (.int .i64 5))), (2, 1, 3)]),
 vv (.store 3 2 4)])
  .ret))⟩
def o49_0 : List MOper :=
 [lt 5 3 2,
 ca 6 47 [5],
 lt 7 3 3,
 oo 8 (.buildSlice 69 3 2 z0 [(0, 6), (1, 7)]),
 ca 9 82 [8],
 vv (.store 3 4 9)]
def o49_1 : List MOper :=
 [oo 5 (.loadL true 3 2),
 oo 6 (.callS 47 [5]),
 oo 7 (.loadL true 3 3),
 oo 8 (.buildSlice 69 3 2 z0 [(0, 6), (1, 7)]),
 oo 9 (.callS 82 [8]),
 vv (.store 3 4 9)]
def m49 : MFunc :=
 ⟨2, 10, [.cell 4 true 3],
 (.seq (.reg [oo 2 (.box 0),
 oo 3 (.box 1),
 oo 4 (.alloc z0)])
  (.seq (.regionQ [(false, o49_1), (true, o49_0)] o49_0 [[], [0], [], [1, 2], [3, 1], [4, 4, 0, 1, 2, 3, 4]])
  .ret))⟩
def o50_0 : List MOper :=
 [oo 44 (.move 3 true),
 mv 45 0,
 lt 46 7 5,
 ca 47 79 [45, 46],
 mv 48 0,
 lt 49 7 7,
 ca 50 79 [48, 49],
 oo 51 (.buildSlice 69 3 2 z0 [(0, 47), (1, 50)]),
 ca 52 48 [51],
 ca 53 47 [52],
 oo 54 (.buildSlice 69 3 1 z0 [(0, 53)]),
 oo 55 (.append 69 3 40 false 44 54),
 sg 3 55]
def o50_1 : List MOper :=
 [oo 44 (.move 3 true),
 mv 45 0,
 oo 46 (.loadL true 7 5),
 oo 47 (.callS 79 [45, 46]),
 mv 48 0,
 oo 49 (.loadL true 7 7),
 oo 50 (.callS 79 [48, 49]),
 oo 51 (.buildSlice 69 3 2 z0 [(0, 47), (1, 50)]),
 oo 52 (.callS 48 [51]),
 oo 53 (.callS 47 [52]),
 oo 54 (.buildSlice 69 3 1 z0 [(0, 53)]),
 oo 55 (.append 69 3 40 false 44 54),
 sg 3 55]
def l50_2 : MCode :=
  (.seq (.reg [oo 26 (.bin .lss 25 24)])
  (.seq (.cond 26 .skip (.exit 2))
  (.seq (.block 3 (.seq (.reg [oo 27 (.indexAddr 7 23 25),
 lt 28 7 27,
 oo 7 (.alloc z7),
 vv (.store 7 7 28)])
  (.seq (.reg [fa 29 0 5,
 ld 30 29,
 oo 31 (.bin .eql 30 (.const (.int .i64 7))),
 mv 32 31,
 ⟨some 33, .fieldAddr 0 7, some (32, true)⟩,
 ⟨some 34, .load false 1 33 false, some (32, true)⟩,
 ⟨some 35, .bin .eql 34 (.const (.int .i64 7)), some (32, true)⟩,
 oo 36 (.pick 32 35 (.const (.bool false))),
 mv 37 36,
 ⟨some 38, .fieldAddr 5 5, some (37, true)⟩,
 ⟨some 39, .load false 1 38 false, some (37, true)⟩,
 ⟨some 40, .fieldAddr 5 7, some (37, true)⟩,
 ⟨some 41, .load false 1 40 false, some (37, true)⟩,
 ⟨some 42, .bin .eql 39 41, some (37, true)⟩,
 oo 43 (.pick 37 42 (.const (.bool false)))])
  (.cond 43 (.regionQ [(false, o50_1), (true, o50_0)] o50_0 [[], [], [], [1, 2], [], [], [4, 5, 3], [3, 6], [7, 6], [8, 8], [9], [0, 10, 9], [11, 11, 0, 1, 2, 3, 4, 5, 6, 7, 8, 9, 10, 11]]) .skip))))
  (.reg [oo 56 (.bin .add 25 (.const (.int .i64 1))),
 mv 25 56]))))
def l50_3 : MCode :=
  (.seq (.reg [oo 14 (.bin .lss 13 12)])
  (.seq (.cond 14 .skip (.exit 0))
  (.seq (.block 1 (.seq (.reg [mv 15 13,
 oo 16 (.indexAddr 7 11 13),
 lt 17 7 16,
 oo 5 (.alloc z7),
 sg 4 15,
 vv (.store 7 5 17)])
  (.seq (.reg [mv 18 0,
 nc 19 18,
 fa 20 5 19,
 ld 21 20,
 mv 22 4,
 oo 23 (.slice 7 21 none (some 22)),
 ln 24 23,
 mv 25 (.const (.int .i64 0))])
  (.block 2 (.loop [3, 11, 0, 12, 13, 23, 5, 25, 24, 2] l50_2)))))
  (.reg [oo 57 (.bin .add 13 (.const (.int .i64 1))),
 mv 13 57]))))
def m50 : MFunc :=
 ⟨1, 59, [.tmp 2],
 (.seq (.reg [sg 2 (.const (.sl [] (some 69)))])
  (.seq (.reg [sg 3 (.const (.sl [] (some 69)))])
  (.seq (.seq (.reg [mv 8 0,
 nc 9 8,
 fa 10 5 9,
 ld 11 10,
 ln 12 11,
 mv 13 (.const (.int .i64 0))])
  (.block 0 (.loop [3, 11, 0, 13, 12, 2] l50_3)))
  (.seq (.reg [mv 58 3,
 sg 2 58])
  .ret))))⟩
def l51_0 : MCode :=
  (.seq (.reg [oo 16 (.bin .lss 15 14)])
  (.seq (.cond 16 .skip (.exit 0))
  (.seq (.block 1 (.seq (.reg [oo 17 (.indexAddr 3 13 15),
 lt 18 3 17,
 oo 5 (.alloc z0),
 vv (.store 3 5 18)])
  (.reg [mv 19 3,
 lt 20 3 5,
 ca 21 51 [20],
 oo 22 (.max [19, 21]),
 sg 3 22])))
  (.reg [oo 23 (.bin .add 15 (.const (.int .i64 1))),
 mv 15 23]))))
def m51 : MFunc :=
 ⟨1, 25, [.tmp 2],
 (.seq (.reg [oo 1 (.box 0),
 sg 2 (.const (.int .i64 0))])
  (.seq (.reg [sg 3 (.const (.int .i64 0))])
  (.seq (.seq (.reg [fa 6 0 1,
 ld 7 6,
 oo 8 (.bin .eql 7 (.const (.int .i64 3)))])
  (.cond 8 (.reg [fa 9 1 1,
 ld 10 9,
 oo 11 (.max [10, (.const (.int .i64 0))]),
 sg 3 11]) .skip))
  (.seq (.seq (.reg [fa 12 2 1,
 ld 13 12,
 ln 14 13,
 mv 15 (.const (.int .i64 0))])
  (.block 0 (.loop [3, 13, 15, 14, 2] l51_0)))
  (.seq (.reg [mv 24 3,
 sg 2 24])
  .ret)))))⟩
end Go.Abs.W
