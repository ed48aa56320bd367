import Derived.Test.YtlmgngibnioljaaGreatSem
set_option linter.unusedVariables false
set_option linter.unusedSimpArgs false
/-
  The machine code of functions of the given program: printed by a program.
-/
namespace Go.Abs.T
open Go Go.Abs
/-- 'slices.medianCmpFunc[chamberlain/api.Uid]' -/
def m170 : MFunc :=
  ⟨6, 41, [.tmp 12],
   (.seq (.region false [⟨some 12, .assign (.const (.int .i64 (0))), none⟩])
   (.seq (.region false [⟨some 14, .move (.tmp 0) false, none⟩,
    ⟨some 15, .move (.tmp 1) false, none⟩,
    ⟨some 16, .move (.tmp 2) false, none⟩,
    ⟨some 17, .move (.tmp 4) false, none⟩,
    ⟨some 18, .move (.tmp 5) false, none⟩,
    ⟨some 19, .call 182 [(.tmp 14), (.tmp 15), (.tmp 16), (.tmp 17), (.tmp 18)], none⟩,
    ⟨some 13, .move (.tmp 19) false, none⟩,
    ⟨some 20, .extract (.tmp 13) 0, none⟩,
    ⟨some 21, .extract (.tmp 13) 1, none⟩,
    ⟨some 1, .assign (.tmp 20), none⟩,
    ⟨some 2, .assign (.tmp 21), none⟩])
   (.seq (.region false [⟨some 23, .move (.tmp 0) false, none⟩,
    ⟨some 24, .move (.tmp 2) false, none⟩,
    ⟨some 25, .move (.tmp 3) false, none⟩,
    ⟨some 26, .move (.tmp 4) false, none⟩,
    ⟨some 27, .move (.tmp 5) false, none⟩,
    ⟨some 28, .call 182 [(.tmp 23), (.tmp 24), (.tmp 25), (.tmp 26), (.tmp 27)], none⟩,
    ⟨some 22, .move (.tmp 28) false, none⟩,
    ⟨some 29, .extract (.tmp 22) 0, none⟩,
    ⟨some 30, .extract (.tmp 22) 1, none⟩,
    ⟨some 2, .assign (.tmp 29), none⟩,
    ⟨some 3, .assign (.tmp 30), none⟩])
   (.seq (.region false [⟨some 32, .move (.tmp 0) false, none⟩,
    ⟨some 33, .move (.tmp 1) false, none⟩,
    ⟨some 34, .move (.tmp 2) false, none⟩,
    ⟨some 35, .move (.tmp 4) false, none⟩,
    ⟨some 36, .move (.tmp 5) false, none⟩,
    ⟨some 37, .call 182 [(.tmp 32), (.tmp 33), (.tmp 34), (.tmp 35), (.tmp 36)], none⟩,
    ⟨some 31, .move (.tmp 37) false, none⟩,
    ⟨some 38, .extract (.tmp 31) 0, none⟩,
    ⟨some 39, .extract (.tmp 31) 1, none⟩,
    ⟨some 1, .assign (.tmp 38), none⟩,
    ⟨some 2, .assign (.tmp 39), none⟩])
   (.seq (.region false [⟨some 40, .move (.tmp 2) false, none⟩,
    ⟨some 12, .assign (.tmp 40), none⟩])
   .ret)))))⟩


/-- 'chamberlain/chamberlainref03.Ints' -/
def m171 : MFunc :=
  ⟨2, 11, [.tmp 4],
   (.seq (.region false [⟨some 4, .assign (.const (.int .i64 (0))), none⟩])
   (.seq (.seq (.region false [⟨some 5, .move (.tmp 0) false, none⟩,
    ⟨some 6, .move (.tmp 1) false, none⟩,
    ⟨some 7, .bin .lss (.tmp 5) (.tmp 6), none⟩])
   (.cond (.tmp 7) (.seq (.region false [⟨some 4, .assign (.const (.int .i64 (-1))), none⟩])
   .ret) .skip))
   (.seq (.seq (.region false [⟨some 8, .move (.tmp 0) false, none⟩,
    ⟨some 9, .move (.tmp 1) false, none⟩,
    ⟨some 10, .bin .gtr (.tmp 8) (.tmp 9), none⟩])
   (.cond (.tmp 10) (.seq (.region false [⟨some 4, .assign (.const (.int .i64 (1))), none⟩])
   .ret) .skip))
   (.seq (.region false [⟨some 4, .assign (.const (.int .i64 (0))), none⟩])
   .ret))))⟩

def l172_0 : MCode :=
   (.seq (.seq (.region false [⟨some 6, .move (.tmp 5) false, none⟩,
    ⟨some 7, .fieldAddr 0 (.tmp 2), none⟩,
    ⟨some 8, .load false 1 (.tmp 7) false, none⟩,
    ⟨some 9, .len 0 (.tmp 8), none⟩,
    ⟨some 10, .bin .lss (.tmp 6) (.tmp 9), none⟩])
   (.cond (.tmp 10) .skip (.exit 0)))
   (.seq (.block 1 (.seq (.region false [⟨some 13, .fieldAddr 0 (.tmp 2), none⟩,
    ⟨some 14, .load false 1 (.tmp 13) false, none⟩,
    ⟨some 15, .move (.tmp 5) false, none⟩,
    ⟨some 16, .indexAddr 3 (.tmp 14) (.tmp 15), none⟩,
    ⟨some 17, .fieldAddr 0 (.tmp 16), none⟩,
    ⟨some 18, .load false 1 (.tmp 17) false, none⟩,
    ⟨some 19, .move (.tmp 1) false, none⟩,
    ⟨some 20, .bin .eql (.tmp 18) (.tmp 19), none⟩])
   (.cond (.tmp 20) (.seq (.region false [⟨some 21, .move (.tmp 5) false, none⟩,
    ⟨some 4, .assign (.tmp 21), none⟩])
   .ret) .skip)))
   (.region false [⟨some 11, .move (.tmp 5) false, none⟩,
    ⟨some 12, .bin .add (.tmp 11) (.const (.int .i64 (1))), none⟩,
    ⟨some 5, .assign (.tmp 12), none⟩])))

/-- 'chamberlain/chamberlainref12.Type' -/
def m172 : MFunc :=
  ⟨2, 22, [.tmp 4],
   (.seq (.region false [⟨some 2, .box (.tmp 0), none⟩,
    ⟨some 4, .assign (.const (.int .i64 (0))), none⟩])
   (.seq (.seq (.region false [⟨some 5, .assign (.const (.int .i64 (0))), none⟩])
   (.block 0 (.loop [2, 1, 5, 4] l172_0)))
   (.seq (.region false [⟨some 4, .assign (.const (.int .i64 (-1))), none⟩])
   .ret)))⟩

def l176_0 : MCode :=
   (.seq (.region false [⟨some 12, .bin .lss (.tmp 11) (.tmp 10), none⟩])
   (.seq (.cond (.tmp 12) .skip (.exit 0))
   (.seq (.block 1 (.seq (.region false [⟨some 13, .indexAddr 8 (.tmp 9) (.tmp 11), none⟩,
    ⟨some 14, .load true 8 (.tmp 13) false, none⟩,
    ⟨some 6, .alloc [(.int .i64 (0)), (.bool false), (.int .i64 (0)), (.str []), (.str []), (.str []), (.sl [] (some 69)), (.sl [] (some 9))], none⟩,
    ⟨none, .store 8 (.tmp 6) (.tmp 14), none⟩])
   (.seq (.region false [⟨some 16, .load true 8 (.tmp 6) false, none⟩,
    ⟨some 17, .call 160 [(.tmp 16)], none⟩,
    ⟨some 15, .move (.tmp 17) false, none⟩,
    ⟨some 18, .extract (.tmp 15) 0, none⟩,
    ⟨some 19, .extract (.tmp 15) 1, none⟩,
    ⟨some 7, .alloc [(.int .i64 (0)), (.bool false), (.int .i64 (0)), (.str []), (.str []), (.str []), (.sl [] (some 69)), (.sl [] (some 9))], none⟩,
    ⟨none, .store 8 (.tmp 7) (.tmp 18), none⟩,
    ⟨some 8, .assign (.tmp 19), none⟩])
   (.seq (.seq (.region false [⟨some 20, .move (.tmp 8) false, none⟩,
    ⟨some 21, .bin .neq (.tmp 20) (.const (.int .i64 (0))), none⟩])
   (.cond (.tmp 21) (.seq (.region false [⟨some 22, .move (.tmp 8) false, none⟩,
    ⟨some 2, .assign (.const (.sl [] (some 69))), none⟩,
    ⟨some 3, .assign (.tmp 22), none⟩])
   .ret) .skip))
   (.region false [⟨some 23, .move (.tmp 4) true, none⟩,
    ⟨some 24, .load true 8 (.tmp 7) false, none⟩,
    ⟨some 25, .buildSlice 69 8 1 [(.int .i64 (0)), (.bool false), (.int .i64 (0)), (.str []), (.str []), (.str []), (.sl [] (some 69)), (.sl [] (some 9))] [(0, (.tmp 24))], none⟩,
    ⟨some 26, .append 69 8 120 false (.tmp 23) (.tmp 25), none⟩,
    ⟨some 4, .assign (.tmp 26), none⟩])))))
   (.region false [⟨some 27, .bin .add (.tmp 11) (.const (.int .i64 (1))), none⟩,
    ⟨some 11, .move (.tmp 27) false, none⟩]))))

/-- 'chamberlain/value.items' -/
def m176 : MFunc :=
  ⟨1, 32, [.tmp 2, .tmp 3],
   (.seq (.region false [⟨some 2, .assign (.const (.sl [] (some 69))), none⟩,
    ⟨some 3, .assign (.const (.int .i64 (0))), none⟩])
   (.seq (.region false [⟨some 4, .assign (.const (.sl [] (some 69))), none⟩])
   (.seq (.seq (.region false [⟨some 9, .move (.tmp 0) false, none⟩,
    ⟨some 10, .len 0 (.tmp 9), none⟩,
    ⟨some 11, .move (.const (.int .i64 (0))) false, none⟩])
   (.block 0 (.loop [4, 0, 9, 11, 10, 3, 2] l176_0)))
   (.seq (.seq (.region false [⟨some 28, .move (.tmp 0) false, none⟩,
    ⟨some 29, .len 0 (.tmp 28), none⟩,
    ⟨some 30, .bin .gtr (.tmp 29) (.const (.int .i64 (4096))), none⟩])
   (.cond (.tmp 30) (.seq (.region false [⟨some 2, .assign (.const (.sl [] (some 69))), none⟩,
    ⟨some 3, .assign (.const (.int .i64 (12))), none⟩])
   .ret) .skip))
   (.seq (.region false [⟨some 31, .move (.tmp 4) false, none⟩,
    ⟨some 2, .assign (.tmp 31), none⟩,
    ⟨some 3, .assign (.const (.int .i64 (0))), none⟩])
   .ret)))))⟩

def l181_0 : MCode :=
   (.seq (.region false [⟨some 15, .bin .lss (.tmp 14) (.tmp 13), none⟩])
   (.seq (.cond (.tmp 15) .skip (.exit 0))
   (.seq (.block 1 (.seq (.region false [⟨some 16, .move (.tmp 14) false, none⟩,
    ⟨some 17, .indexAddr 1 (.tmp 12) (.tmp 14), none⟩,
    ⟨some 18, .load false 1 (.tmp 17) false, none⟩,
    ⟨some 7, .assign (.tmp 16), none⟩,
    ⟨some 8, .assign (.tmp 18), none⟩])
   (.region false [⟨some 19, .move (.tmp 6) true, none⟩,
    ⟨some 20, .move (.tmp 8) false, none⟩,
    ⟨some 21, .move (.tmp 1) false, none⟩,
    ⟨some 22, .move (.tmp 7) false, none⟩,
    ⟨some 23, .indexAddr 8 (.tmp 21) (.tmp 22), none⟩,
    ⟨some 24, .load true 8 (.tmp 23) false, none⟩,
    ⟨some 25, .build [(.str []), (.int .i64 (0)), (.bool false), (.int .i64 (0)), (.str []), (.str []), (.str []), (.nils 69), (.nils 9)] [(0, 1, (.tmp 20)), (1, 8, (.tmp 24))], none⟩,
    ⟨some 26, .buildSlice 291 9 1 [(.str []), (.int .i64 (0)), (.bool false), (.int .i64 (0)), (.str []), (.str []), (.str []), (.sl [] (some 69)), (.sl [] (some 9))] [(0, (.tmp 25))], none⟩,
    ⟨some 27, .append 291 9 136 false (.tmp 19) (.tmp 26), none⟩,
    ⟨some 6, .assign (.tmp 27), none⟩])))
   (.region false [⟨some 28, .bin .add (.tmp 14) (.const (.int .i64 (1))), none⟩,
    ⟨some 14, .move (.tmp 28) false, none⟩]))))

def l181_1 : MCode :=
   (.seq (.region false [⟨some 35, .bin .lss (.tmp 34) (.tmp 33), none⟩])
   (.seq (.cond (.tmp 35) .skip (.exit 2))
   (.seq (.block 3 (.seq (.region false [⟨some 36, .move (.tmp 34) false, none⟩,
    ⟨some 37, .indexAddr 9 (.tmp 32) (.tmp 34), none⟩,
    ⟨some 38, .load true 9 (.tmp 37) false, none⟩,
    ⟨some 11, .alloc [(.str []), (.int .i64 (0)), (.bool false), (.int .i64 (0)), (.str []), (.str []), (.str []), (.sl [] (some 69)), (.sl [] (some 9))], none⟩,
    ⟨some 10, .assign (.tmp 36), none⟩,
    ⟨none, .store 9 (.tmp 11) (.tmp 38), none⟩])
   (.seq (.seq (.region false [⟨some 39, .move (.tmp 10) false, none⟩,
    ⟨some 40, .bin .gtr (.tmp 39) (.const (.int .i64 (0))), none⟩,
    ⟨some 41, .move (.tmp 40) false, none⟩,
    ⟨some 42, .fieldAddr 0 (.tmp 11), some (41, true)⟩,
    ⟨some 43, .load false 1 (.tmp 42) false, some (41, true)⟩,
    ⟨some 44, .move (.tmp 6) false, some (41, true)⟩,
    ⟨some 45, .move (.tmp 10) false, some (41, true)⟩,
    ⟨some 46, .bin .sub (.tmp 45) (.const (.int .i64 (1))), some (41, true)⟩,
    ⟨some 47, .indexAddr 9 (.tmp 44) (.tmp 46), some (41, true)⟩,
    ⟨some 48, .fieldAddr 0 (.tmp 47), some (41, true)⟩,
    ⟨some 49, .load false 1 (.tmp 48) false, some (41, true)⟩,
    ⟨some 50, .bin .eql (.tmp 43) (.tmp 49), some (41, true)⟩,
    ⟨some 51, .pick (.tmp 41) (.tmp 50) (.const (.bool false)), none⟩])
   (.cond (.tmp 51) (.seq (.region false [⟨some 52, .build [(.int .i64 (0)), (.bool false), (.int .i64 (0)), (.str []), (.str []), (.str []), (.nils 69), (.nils 9)] [], none⟩,
    ⟨none, .store 8 (.tmp 4) (.tmp 52), none⟩,
    ⟨some 5, .assign (.const (.int .i64 (13))), none⟩])
   .ret) .skip))
   (.regionA [⟨some 53, .fieldAddr 7 (.tmp 9), none⟩,
    ⟨some 54, .load false 1 (.tmp 53) true, none⟩,
    ⟨some 55, .fieldAddr 0 (.tmp 11), none⟩,
    ⟨some 56, .load false 1 (.tmp 55) false, none⟩,
    ⟨some 57, .buildSlice 9 1 1 [(.str [])] [(0, (.tmp 56))], none⟩,
    ⟨some 58, .append 9 1 16 false (.tmp 54) (.tmp 57), none⟩,
    ⟨some 59, .fieldAddr 6 (.tmp 9), none⟩,
    ⟨some 60, .load false 1 (.tmp 59) true, none⟩,
    ⟨some 61, .fieldAddr 1 (.tmp 11), none⟩,
    ⟨some 62, .load true 8 (.tmp 61) false, none⟩,
    ⟨some 63, .buildSlice 69 8 1 [(.int .i64 (0)), (.bool false), (.int .i64 (0)), (.str []), (.str []), (.str []), (.sl [] (some 69)), (.sl [] (some 9))] [(0, (.tmp 62))], none⟩,
    ⟨some 64, .append 69 8 120 false (.tmp 60) (.tmp 63), none⟩,
    ⟨some 65, .fieldAddr 7 (.tmp 9), none⟩,
    ⟨none, .store 1 (.tmp 65) (.tmp 58), none⟩,
    ⟨some 66, .fieldAddr 6 (.tmp 9), none⟩,
    ⟨none, .store 1 (.tmp 66) (.tmp 64), none⟩] [[], [0], [], [2], [3], [1, 4], [], [6], [], [8], [9], [7, 10, 5], [0, 1, 2, 3, 4, 5, 6, 7], [12, 5, 11, 0, 1, 2, 3, 4, 5, 6, 7], [0, 1, 2, 3, 4, 5, 6, 7, 8, 9, 10, 11, 12, 13], [14, 11, 13, 0, 1, 2, 3, 4, 5, 6, 7, 8, 9, 10, 11, 12, 13]]))))
   (.region false [⟨some 67, .bin .add (.tmp 34) (.const (.int .i64 (1))), none⟩,
    ⟨some 34, .move (.tmp 67) false, none⟩]))))

/-- 'chamberlain/value.record' -/
def m181 : MFunc :=
  ⟨2, 69, [.cell 4 true 8, .tmp 5],
   (.seq (.region false [⟨some 4, .alloc [(.int .i64 (0)), (.bool false), (.int .i64 (0)), (.str []), (.str []), (.str []), (.sl [] (some 69)), (.sl [] (some 9))], none⟩,
    ⟨some 5, .assign (.const (.int .i64 (0))), none⟩])
   (.seq (.region false [⟨some 6, .assign (.const (.sl [] (some 291))), none⟩])
   (.seq (.seq (.region false [⟨some 12, .move (.tmp 0) false, none⟩,
    ⟨some 13, .len 0 (.tmp 12), none⟩,
    ⟨some 14, .move (.const (.int .i64 (0))) false, none⟩])
   (.block 0 (.loop [6, 12, 1, 14, 13, 5, 4] l181_0)))
   (.seq (.region false [⟨some 29, .move (.tmp 6) false, none⟩,
    ⟨some 30, .call 191 [(.tmp 29), (.const (.func 192 []))], none⟩])
   (.seq (.region false [⟨some 31, .build [(.int .i64 (0)), (.bool false), (.int .i64 (0)), (.str []), (.str []), (.str []), (.nils 69), (.nils 9)] [(0, 1, (.const (.int .i64 (6))))], none⟩,
    ⟨some 9, .alloc [(.int .i64 (0)), (.bool false), (.int .i64 (0)), (.str []), (.str []), (.str []), (.sl [] (some 69)), (.sl [] (some 9))], none⟩,
    ⟨none, .store 8 (.tmp 9) (.tmp 31), none⟩])
   (.seq (.seq (.region false [⟨some 32, .move (.tmp 6) false, none⟩,
    ⟨some 33, .len 0 (.tmp 32), none⟩,
    ⟨some 34, .move (.const (.int .i64 (0))) false, none⟩])
   (.block 2 (.loop [9, 32, 6, 34, 33, 5, 4] l181_1)))
   (.seq (.region false [⟨some 68, .load true 8 (.tmp 9) false, none⟩,
    ⟨none, .store 8 (.tmp 4) (.tmp 68), none⟩,
    ⟨some 5, .assign (.const (.int .i64 (0))), none⟩])
   .ret)))))))⟩


/-- 'slices.order2CmpFunc[chamberlain/api.Uid]' -/
def m182 : MFunc :=
  ⟨5, 32, [.tmp 10, .tmp 11],
   (.seq (.region false [⟨some 10, .assign (.const (.int .i64 (0))), none⟩,
    ⟨some 11, .assign (.const (.int .i64 (0))), none⟩])
   (.seq (.seq (.region false [⟨some 12, .move (.tmp 4) false, none⟩,
    ⟨some 13, .move (.tmp 0) false, none⟩,
    ⟨some 14, .move (.tmp 2) false, none⟩,
    ⟨some 15, .indexAddr 2 (.tmp 13) (.tmp 14), none⟩,
    ⟨some 16, .load true 2 (.tmp 15) false, none⟩,
    ⟨some 17, .move (.tmp 0) false, none⟩,
    ⟨some 18, .move (.tmp 1) false, none⟩,
    ⟨some 19, .indexAddr 2 (.tmp 17) (.tmp 18), none⟩,
    ⟨some 20, .load true 2 (.tmp 19) false, none⟩,
    ⟨some 21, .callv (.tmp 12) [(.tmp 16), (.tmp 20)], none⟩,
    ⟨some 22, .bin .lss (.tmp 21) (.const (.int .i64 (0))), none⟩])
   (.cond (.tmp 22) (.seq (.region false [⟨some 23, .move (.tmp 3) false, none⟩,
    ⟨some 24, .nilCheck (.tmp 23), none⟩,
    ⟨some 25, .load false 1 (.tmp 24) false, none⟩,
    ⟨some 26, .bin .add (.tmp 25) (.const (.int .i64 (1))), none⟩,
    ⟨some 27, .nilCheck (.tmp 23), none⟩,
    ⟨none, .store 1 (.tmp 27) (.tmp 26), none⟩])
   (.seq (.region false [⟨some 28, .move (.tmp 2) false, none⟩,
    ⟨some 29, .move (.tmp 1) false, none⟩,
    ⟨some 10, .assign (.tmp 28), none⟩,
    ⟨some 11, .assign (.tmp 29), none⟩])
   .ret)) .skip))
   (.seq (.region false [⟨some 30, .move (.tmp 1) false, none⟩,
    ⟨some 31, .move (.tmp 2) false, none⟩,
    ⟨some 10, .assign (.tmp 30), none⟩,
    ⟨some 11, .assign (.tmp 31), none⟩])
   .ret)))⟩


/-- 'slices.SortFunc[[]chamberlain/value.field,chamberlain/value.field]' -/
def m191 : MFunc :=
  ⟨2, 14, [],
   (.seq (.region false [⟨some 5, .move (.tmp 0) false, none⟩,
    ⟨some 6, .len 0 (.tmp 5), none⟩,
    ⟨some 4, .assign (.tmp 6), none⟩])
   (.region false [⟨some 7, .move (.tmp 0) false, none⟩,
    ⟨some 8, .move (.tmp 4) false, none⟩,
    ⟨some 9, .move (.tmp 4) false, none⟩,
    ⟨some 10, .conv .u64 (.tmp 9), none⟩,
    ⟨some 11, .call 80 [(.tmp 10)], none⟩,
    ⟨some 12, .move (.tmp 1) false, none⟩,
    ⟨some 13, .call 203 [(.tmp 7), (.const (.int .i64 (0))), (.tmp 8), (.tmp 11), (.tmp 12)], none⟩]))⟩

def l203_0 : MCode :=
   (.block 1 (.seq (.region false [⟨some 21, .move (.tmp 2) false, none⟩,
    ⟨some 22, .move (.tmp 1) false, none⟩,
    ⟨some 23, .bin .sub (.tmp 21) (.tmp 22), none⟩,
    ⟨some 12, .assign (.tmp 23), none⟩])
   (.seq (.seq (.region false [⟨some 24, .move (.tmp 12) false, none⟩,
    ⟨some 25, .bin .leq (.tmp 24) (.const (.int .i64 (12))), none⟩])
   (.cond (.tmp 25) (.seq (.region false [⟨some 26, .move (.tmp 0) false, none⟩,
    ⟨some 27, .move (.tmp 1) false, none⟩,
    ⟨some 28, .move (.tmp 2) false, none⟩,
    ⟨some 29, .move (.tmp 4) false, none⟩,
    ⟨some 30, .call 207 [(.tmp 26), (.tmp 27), (.tmp 28), (.tmp 29)], none⟩])
   .ret) .skip))
   (.seq (.seq (.region false [⟨some 31, .move (.tmp 3) false, none⟩,
    ⟨some 32, .bin .eql (.tmp 31) (.const (.int .i64 (0))), none⟩])
   (.cond (.tmp 32) (.seq (.region false [⟨some 33, .move (.tmp 0) false, none⟩,
    ⟨some 34, .move (.tmp 1) false, none⟩,
    ⟨some 35, .move (.tmp 2) false, none⟩,
    ⟨some 36, .move (.tmp 4) false, none⟩,
    ⟨some 37, .call 208 [(.tmp 33), (.tmp 34), (.tmp 35), (.tmp 36)], none⟩])
   .ret) .skip))
   (.seq (.seq (.region false [⟨some 38, .move (.tmp 10) false, none⟩,
    ⟨some 39, .un .not (.tmp 38), none⟩])
   (.cond (.tmp 39) (.seq (.region false [⟨some 40, .move (.tmp 0) false, none⟩,
    ⟨some 41, .move (.tmp 1) false, none⟩,
    ⟨some 42, .move (.tmp 2) false, none⟩,
    ⟨some 43, .move (.tmp 4) false, none⟩,
    ⟨some 44, .call 209 [(.tmp 40), (.tmp 41), (.tmp 42), (.tmp 43)], none⟩])
   (.region false [⟨some 45, .move (.tmp 3) false, none⟩,
    ⟨some 46, .bin .sub (.tmp 45) (.const (.int .i64 (1))), none⟩,
    ⟨some 3, .assign (.tmp 46), none⟩])) .skip))
   (.seq (.region false [⟨some 48, .move (.tmp 0) false, none⟩,
    ⟨some 49, .move (.tmp 1) false, none⟩,
    ⟨some 50, .move (.tmp 2) false, none⟩,
    ⟨some 51, .move (.tmp 4) false, none⟩,
    ⟨some 52, .call 210 [(.tmp 48), (.tmp 49), (.tmp 50), (.tmp 51)], none⟩,
    ⟨some 47, .move (.tmp 52) false, none⟩,
    ⟨some 53, .extract (.tmp 47) 0, none⟩,
    ⟨some 54, .extract (.tmp 47) 1, none⟩,
    ⟨some 13, .assign (.tmp 53), none⟩,
    ⟨some 14, .assign (.tmp 54), none⟩])
   (.seq (.seq (.region false [⟨some 55, .move (.tmp 14) false, none⟩,
    ⟨some 56, .bin .eql (.tmp 55) (.const (.int .i64 (2))), none⟩])
   (.cond (.tmp 56) (.seq (.region false [⟨some 57, .move (.tmp 0) false, none⟩,
    ⟨some 58, .move (.tmp 1) false, none⟩,
    ⟨some 59, .move (.tmp 2) false, none⟩,
    ⟨some 60, .move (.tmp 4) false, none⟩,
    ⟨some 61, .call 211 [(.tmp 57), (.tmp 58), (.tmp 59), (.tmp 60)], none⟩])
   (.seq (.region false [⟨some 62, .move (.tmp 2) false, none⟩,
    ⟨some 63, .bin .sub (.tmp 62) (.const (.int .i64 (1))), none⟩,
    ⟨some 64, .move (.tmp 13) false, none⟩,
    ⟨some 65, .move (.tmp 1) false, none⟩,
    ⟨some 66, .bin .sub (.tmp 64) (.tmp 65), none⟩,
    ⟨some 67, .bin .sub (.tmp 63) (.tmp 66), none⟩,
    ⟨some 13, .assign (.tmp 67), none⟩])
   (.region false [⟨some 14, .assign (.const (.int .i64 (1))), none⟩]))) .skip))
   (.seq (.seq (.region false [⟨some 68, .move (.tmp 10) false, none⟩,
    ⟨some 69, .move (.tmp 68) false, none⟩,
    ⟨some 70, .move (.tmp 11) false, some (69, true)⟩,
    ⟨some 71, .pick (.tmp 69) (.tmp 70) (.const (.bool false)), none⟩,
    ⟨some 72, .move (.tmp 71) false, none⟩,
    ⟨some 73, .move (.tmp 14) false, some (72, true)⟩,
    ⟨some 74, .bin .eql (.tmp 73) (.const (.int .i64 (1))), some (72, true)⟩,
    ⟨some 75, .pick (.tmp 72) (.tmp 74) (.const (.bool false)), none⟩])
   (.cond (.tmp 75) (.seq (.region false [⟨some 76, .move (.tmp 0) false, none⟩,
    ⟨some 77, .move (.tmp 1) false, none⟩,
    ⟨some 78, .move (.tmp 2) false, none⟩,
    ⟨some 79, .move (.tmp 4) false, none⟩,
    ⟨some 80, .call 212 [(.tmp 76), (.tmp 77), (.tmp 78), (.tmp 79)], none⟩])
   (.cond (.tmp 80) .ret .skip)) .skip))
   (.seq (.seq (.region false [⟨some 81, .move (.tmp 1) false, none⟩,
    ⟨some 82, .bin .gtr (.tmp 81) (.const (.int .i64 (0))), none⟩,
    ⟨some 83, .move (.tmp 82) false, none⟩,
    ⟨some 84, .move (.tmp 4) false, some (83, true)⟩,
    ⟨some 85, .move (.tmp 0) false, some (83, true)⟩,
    ⟨some 86, .move (.tmp 1) false, some (83, true)⟩,
    ⟨some 87, .bin .sub (.tmp 86) (.const (.int .i64 (1))), some (83, true)⟩,
    ⟨some 88, .indexAddr 9 (.tmp 85) (.tmp 87), some (83, true)⟩,
    ⟨some 89, .load true 9 (.tmp 88) false, some (83, true)⟩,
    ⟨some 90, .move (.tmp 0) false, some (83, true)⟩,
    ⟨some 91, .move (.tmp 13) false, some (83, true)⟩,
    ⟨some 92, .indexAddr 9 (.tmp 90) (.tmp 91), some (83, true)⟩,
    ⟨some 93, .load true 9 (.tmp 92) false, some (83, true)⟩,
    ⟨some 94, .callv (.tmp 84) [(.tmp 89), (.tmp 93)], some (83, true)⟩,
    ⟨some 95, .bin .lss (.tmp 94) (.const (.int .i64 (0))), some (83, true)⟩,
    ⟨some 96, .un .not (.tmp 95), some (83, true)⟩,
    ⟨some 97, .pick (.tmp 83) (.tmp 96) (.const (.bool false)), none⟩])
   (.cond (.tmp 97) (.seq (.region false [⟨some 98, .move (.tmp 0) false, none⟩,
    ⟨some 99, .move (.tmp 1) false, none⟩,
    ⟨some 100, .move (.tmp 2) false, none⟩,
    ⟨some 101, .move (.tmp 13) false, none⟩,
    ⟨some 102, .move (.tmp 4) false, none⟩,
    ⟨some 103, .call 213 [(.tmp 98), (.tmp 99), (.tmp 100), (.tmp 101), (.tmp 102)], none⟩,
    ⟨some 15, .assign (.tmp 103), none⟩])
   (.seq (.region false [⟨some 104, .move (.tmp 15) false, none⟩,
    ⟨some 1, .assign (.tmp 104), none⟩])
   (.exit 1))) .skip))
   (.seq (.region false [⟨some 106, .move (.tmp 0) false, none⟩,
    ⟨some 107, .move (.tmp 1) false, none⟩,
    ⟨some 108, .move (.tmp 2) false, none⟩,
    ⟨some 109, .move (.tmp 13) false, none⟩,
    ⟨some 110, .move (.tmp 4) false, none⟩,
    ⟨some 111, .call 214 [(.tmp 106), (.tmp 107), (.tmp 108), (.tmp 109), (.tmp 110)], none⟩,
    ⟨some 105, .move (.tmp 111) false, none⟩,
    ⟨some 112, .extract (.tmp 105) 0, none⟩,
    ⟨some 113, .extract (.tmp 105) 1, none⟩,
    ⟨some 16, .assign (.tmp 112), none⟩,
    ⟨some 17, .assign (.tmp 113), none⟩])
   (.seq (.region false [⟨some 114, .move (.tmp 17) false, none⟩,
    ⟨some 11, .assign (.tmp 114), none⟩])
   (.seq (.region false [⟨some 115, .move (.tmp 16) false, none⟩,
    ⟨some 116, .move (.tmp 1) false, none⟩,
    ⟨some 117, .bin .sub (.tmp 115) (.tmp 116), none⟩,
    ⟨some 118, .move (.tmp 2) false, none⟩,
    ⟨some 119, .move (.tmp 16) false, none⟩,
    ⟨some 120, .bin .sub (.tmp 118) (.tmp 119), none⟩,
    ⟨some 18, .assign (.tmp 117), none⟩,
    ⟨some 19, .assign (.tmp 120), none⟩])
   (.seq (.region false [⟨some 121, .move (.tmp 12) false, none⟩,
    ⟨some 122, .bin .quo (.tmp 121) (.const (.int .i64 (8))), none⟩,
    ⟨some 20, .assign (.tmp 122), none⟩])
   (.seq (.region false [⟨some 123, .move (.tmp 18) false, none⟩,
    ⟨some 124, .move (.tmp 19) false, none⟩,
    ⟨some 125, .bin .lss (.tmp 123) (.tmp 124), none⟩])
   (.cond (.tmp 125) (.seq (.region false [⟨some 126, .move (.tmp 18) false, none⟩,
    ⟨some 127, .move (.tmp 20) false, none⟩,
    ⟨some 128, .bin .geq (.tmp 126) (.tmp 127), none⟩,
    ⟨some 10, .assign (.tmp 128), none⟩])
   (.seq (.region false [⟨some 129, .move (.tmp 0) false, none⟩,
    ⟨some 130, .move (.tmp 1) false, none⟩,
    ⟨some 131, .move (.tmp 16) false, none⟩,
    ⟨some 132, .move (.tmp 3) false, none⟩,
    ⟨some 133, .move (.tmp 4) false, none⟩,
    ⟨some 134, .call 203 [(.tmp 129), (.tmp 130), (.tmp 131), (.tmp 132), (.tmp 133)], none⟩])
   (.region false [⟨some 135, .move (.tmp 16) false, none⟩,
    ⟨some 136, .bin .add (.tmp 135) (.const (.int .i64 (1))), none⟩,
    ⟨some 1, .assign (.tmp 136), none⟩]))) (.seq (.region false [⟨some 137, .move (.tmp 19) false, none⟩,
    ⟨some 138, .move (.tmp 20) false, none⟩,
    ⟨some 139, .bin .geq (.tmp 137) (.tmp 138), none⟩,
    ⟨some 10, .assign (.tmp 139), none⟩])
   (.seq (.region false [⟨some 140, .move (.tmp 0) false, none⟩,
    ⟨some 141, .move (.tmp 16) false, none⟩,
    ⟨some 142, .bin .add (.tmp 141) (.const (.int .i64 (1))), none⟩,
    ⟨some 143, .move (.tmp 2) false, none⟩,
    ⟨some 144, .move (.tmp 3) false, none⟩,
    ⟨some 145, .move (.tmp 4) false, none⟩,
    ⟨some 146, .call 203 [(.tmp 140), (.tmp 142), (.tmp 143), (.tmp 144), (.tmp 145)], none⟩])
   (.region false [⟨some 147, .move (.tmp 16) false, none⟩,
    ⟨some 2, .assign (.tmp 147), none⟩]))))))))))))))))))

/-- 'slices.pdqsortCmpFunc[chamberlain/value.field]' -/
def m203 : MFunc :=
  ⟨5, 148, [],
   (.seq (.region false [⟨some 10, .assign (.const (.bool true)), none⟩])
   (.seq (.region false [⟨some 11, .assign (.const (.bool true)), none⟩])
   (.block 0 (.loop [4, 3, 2, 0, 1, 11, 10] l203_0))))⟩

def l207_0 : MCode :=
   (.seq (.seq (.region false [⟨some 18, .move (.tmp 9) false, none⟩,
    ⟨some 19, .move (.tmp 1) false, none⟩,
    ⟨some 20, .bin .gtr (.tmp 18) (.tmp 19), none⟩,
    ⟨some 21, .move (.tmp 20) false, none⟩,
    ⟨some 22, .move (.tmp 3) false, some (21, true)⟩,
    ⟨some 23, .move (.tmp 0) false, some (21, true)⟩,
    ⟨some 24, .move (.tmp 9) false, some (21, true)⟩,
    ⟨some 25, .indexAddr 9 (.tmp 23) (.tmp 24), some (21, true)⟩,
    ⟨some 26, .load true 9 (.tmp 25) false, some (21, true)⟩,
    ⟨some 27, .move (.tmp 0) false, some (21, true)⟩,
    ⟨some 28, .move (.tmp 9) false, some (21, true)⟩,
    ⟨some 29, .bin .sub (.tmp 28) (.const (.int .i64 (1))), some (21, true)⟩,
    ⟨some 30, .indexAddr 9 (.tmp 27) (.tmp 29), some (21, true)⟩,
    ⟨some 31, .load true 9 (.tmp 30) false, some (21, true)⟩,
    ⟨some 32, .callv (.tmp 22) [(.tmp 26), (.tmp 31)], some (21, true)⟩,
    ⟨some 33, .bin .lss (.tmp 32) (.const (.int .i64 (0))), some (21, true)⟩,
    ⟨some 34, .pick (.tmp 21) (.tmp 33) (.const (.bool false)), none⟩])
   (.cond (.tmp 34) .skip (.exit 2)))
   (.seq (.block 3 (.region false [⟨some 37, .move (.tmp 0) false, none⟩,
    ⟨some 38, .move (.tmp 9) false, none⟩,
    ⟨some 39, .move (.tmp 0) false, none⟩,
    ⟨some 40, .move (.tmp 9) false, none⟩,
    ⟨some 41, .bin .sub (.tmp 40) (.const (.int .i64 (1))), none⟩,
    ⟨some 42, .move (.tmp 0) false, none⟩,
    ⟨some 43, .move (.tmp 9) false, none⟩,
    ⟨some 44, .bin .sub (.tmp 43) (.const (.int .i64 (1))), none⟩,
    ⟨some 45, .indexAddr 9 (.tmp 42) (.tmp 44), none⟩,
    ⟨some 46, .load true 9 (.tmp 45) false, none⟩,
    ⟨some 47, .move (.tmp 0) false, none⟩,
    ⟨some 48, .move (.tmp 9) false, none⟩,
    ⟨some 49, .indexAddr 9 (.tmp 47) (.tmp 48), none⟩,
    ⟨some 50, .load true 9 (.tmp 49) false, none⟩,
    ⟨some 51, .indexAddr 9 (.tmp 37) (.tmp 38), none⟩,
    ⟨none, .store 9 (.tmp 51) (.tmp 46), none⟩,
    ⟨some 52, .indexAddr 9 (.tmp 39) (.tmp 41), none⟩,
    ⟨none, .store 9 (.tmp 52) (.tmp 50), none⟩]))
   (.region false [⟨some 35, .move (.tmp 9) false, none⟩,
    ⟨some 36, .bin .sub (.tmp 35) (.const (.int .i64 (1))), none⟩,
    ⟨some 9, .assign (.tmp 36), none⟩])))

def l207_1 : MCode :=
   (.seq (.seq (.region false [⟨some 12, .move (.tmp 8) false, none⟩,
    ⟨some 13, .move (.tmp 2) false, none⟩,
    ⟨some 14, .bin .lss (.tmp 12) (.tmp 13), none⟩])
   (.cond (.tmp 14) .skip (.exit 0)))
   (.seq (.block 1 (.seq (.region false [⟨some 17, .move (.tmp 8) false, none⟩,
    ⟨some 9, .assign (.tmp 17), none⟩])
   (.block 2 (.loop [1, 3, 0, 2, 8, 9] l207_0))))
   (.region false [⟨some 15, .move (.tmp 8) false, none⟩,
    ⟨some 16, .bin .add (.tmp 15) (.const (.int .i64 (1))), none⟩,
    ⟨some 8, .assign (.tmp 16), none⟩])))

/-- 'slices.insertionSortCmpFunc[chamberlain/value.field]' -/
def m207 : MFunc :=
  ⟨4, 53, [],
   (.seq (.region false [⟨some 10, .move (.tmp 1) false, none⟩,
    ⟨some 11, .bin .add (.tmp 10) (.const (.int .i64 (1))), none⟩,
    ⟨some 8, .assign (.tmp 11), none⟩])
   (.block 0 (.loop [1, 3, 0, 8, 2] l207_1)))⟩
end Go.Abs.T
