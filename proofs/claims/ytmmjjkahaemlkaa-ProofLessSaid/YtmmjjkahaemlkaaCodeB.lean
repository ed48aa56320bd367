import Derived.Test.YtmmjjkahaemlkaaSem
set_option linter.unusedVariables false
set_option linter.unusedSimpArgs false
/-
  The machine code of functions of the given program: printed by a program.
-/
namespace Go.Abs.B
open Go Go.Abs
def l3_0 : MCode :=
   (.seq (.seq (.region false [⟨some 75, .move (.tmp 12) false, none⟩,
    ⟨some 76, .move (.tmp 7) false, none⟩,
    ⟨some 77, .move (.tmp 11) false, none⟩,
    ⟨some 78, .indexAddr 1 (.tmp 76) (.tmp 77), none⟩,
    ⟨some 79, .load false 1 (.tmp 78) false, none⟩,
    ⟨some 80, .len 0 (.tmp 79), none⟩,
    ⟨some 81, .bin .lss (.tmp 75) (.tmp 80), none⟩])
   (.cond (.tmp 81) .skip (.exit 2)))
   (.seq (.block 3 (.seq (.region false [⟨some 84, .move (.tmp 7) false, none⟩,
    ⟨some 85, .move (.tmp 11) false, none⟩,
    ⟨some 86, .indexAddr 1 (.tmp 84) (.tmp 85), none⟩,
    ⟨some 87, .load false 1 (.tmp 86) false, none⟩,
    ⟨some 88, .move (.tmp 12) false, none⟩,
    ⟨some 89, .indexAddr 1 (.tmp 87) (.tmp 88), none⟩,
    ⟨some 90, .load false 1 (.tmp 89) false, none⟩,
    ⟨some 91, .move (.tmp 9) false, none⟩,
    ⟨some 92, .move (.tmp 11) false, none⟩,
    ⟨some 93, .indexAddr 1 (.tmp 91) (.tmp 92), none⟩,
    ⟨some 94, .load false 1 (.tmp 93) false, none⟩,
    ⟨some 95, .move (.tmp 12) false, none⟩,
    ⟨some 96, .indexAddr 1 (.tmp 94) (.tmp 95), none⟩,
    ⟨some 97, .load false 1 (.tmp 96) false, none⟩,
    ⟨some 98, .bin .neq (.tmp 90) (.tmp 97), none⟩])
   (.cond (.tmp 98) (.seq (.region false [⟨some 4, .assign (.const (.bool false)), none⟩])
   .ret) .skip)))
   (.region false [⟨some 82, .move (.tmp 12) false, none⟩,
    ⟨some 83, .bin .add (.tmp 82) (.const (.int .i64 (1))), none⟩,
    ⟨some 12, .assign (.tmp 83), none⟩])))

def l3_1 : MCode :=
   (.seq (.seq (.region false [⟨some 58, .move (.tmp 11) false, none⟩,
    ⟨some 59, .move (.tmp 7) false, none⟩,
    ⟨some 60, .len 0 (.tmp 59), none⟩,
    ⟨some 61, .bin .lss (.tmp 58) (.tmp 60), none⟩])
   (.cond (.tmp 61) .skip (.exit 0)))
   (.seq (.block 1 (.seq (.seq (.region false [⟨some 64, .move (.tmp 7) false, none⟩,
    ⟨some 65, .move (.tmp 11) false, none⟩,
    ⟨some 66, .indexAddr 1 (.tmp 64) (.tmp 65), none⟩,
    ⟨some 67, .load false 1 (.tmp 66) false, none⟩,
    ⟨some 68, .len 0 (.tmp 67), none⟩,
    ⟨some 69, .move (.tmp 9) false, none⟩,
    ⟨some 70, .move (.tmp 11) false, none⟩,
    ⟨some 71, .indexAddr 1 (.tmp 69) (.tmp 70), none⟩,
    ⟨some 72, .load false 1 (.tmp 71) false, none⟩,
    ⟨some 73, .len 0 (.tmp 72), none⟩,
    ⟨some 74, .bin .neq (.tmp 68) (.tmp 73), none⟩])
   (.cond (.tmp 74) (.seq (.region false [⟨some 4, .assign (.const (.bool false)), none⟩])
   .ret) .skip))
   (.seq (.region false [⟨some 12, .assign (.const (.int .i64 (0))), none⟩])
   (.block 2 (.loop [11, 12, 9, 7, 1, 0, 4] l3_0)))))
   (.region false [⟨some 62, .move (.tmp 11) false, none⟩,
    ⟨some 63, .bin .add (.tmp 62) (.const (.int .i64 (1))), none⟩,
    ⟨some 11, .assign (.tmp 63), none⟩])))

/-- 'chamberlain/chamberlainlaw21.ProofChecks' -/
def m3 : MFunc :=
  ⟨2, 99, [.tmp 4],
   (.seq (.region false [⟨some 4, .assign (.const (.bool false)), none⟩])
   (.seq (.region false [⟨some 13, .call 12 [], none⟩,
    ⟨some 5, .assign (.tmp 13), none⟩])
   (.seq (.seq (.region false [⟨some 14, .move (.tmp 5) false, none⟩,
    ⟨some 15, .un .not (.tmp 14), none⟩])
   (.cond (.tmp 15) (.seq (.region false [⟨some 4, .assign (.const (.bool false)), none⟩])
   .ret) .skip))
   (.seq (.region false [⟨some 16, .move (.tmp 0) false, none⟩,
    ⟨some 17, .call 13 [(.tmp 16)], none⟩,
    ⟨some 6, .assign (.tmp 17), none⟩])
   (.seq (.seq (.region false [⟨some 18, .move (.tmp 6) false, none⟩,
    ⟨some 19, .un .not (.tmp 18), none⟩,
    ⟨some 20, .move (.tmp 19) false, none⟩,
    ⟨some 21, .move (.tmp 1) false, some (20, false)⟩,
    ⟨some 22, .len 0 (.tmp 21), some (20, false)⟩,
    ⟨some 23, .bin .gtr (.tmp 22) (.const (.int .i64 (30))), some (20, false)⟩,
    ⟨some 24, .pick (.tmp 20) (.const (.bool true)) (.tmp 23), none⟩])
   (.cond (.tmp 24) (.seq (.region false [⟨some 4, .assign (.const (.bool true)), none⟩])
   .ret) .skip))
   (.seq (.region false [⟨some 26, .move (.tmp 0) false, none⟩,
    ⟨some 27, .move (.tmp 1) false, none⟩,
    ⟨some 28, .call 14 [(.tmp 26), (.tmp 27)], none⟩,
    ⟨some 25, .move (.tmp 28) false, none⟩,
    ⟨some 29, .extract (.tmp 25) 0, none⟩,
    ⟨some 30, .extract (.tmp 25) 1, none⟩,
    ⟨some 7, .assign (.tmp 29), none⟩,
    ⟨some 8, .assign (.tmp 30), none⟩])
   (.seq (.region false [⟨some 32, .move (.tmp 0) false, none⟩,
    ⟨some 33, .move (.tmp 1) false, none⟩,
    ⟨some 34, .call 16 [(.tmp 33)], none⟩,
    ⟨some 35, .call 15 [(.tmp 32), (.tmp 34)], none⟩,
    ⟨some 31, .move (.tmp 35) false, none⟩,
    ⟨some 36, .extract (.tmp 31) 0, none⟩,
    ⟨some 37, .extract (.tmp 31) 1, none⟩,
    ⟨some 9, .assign (.tmp 36), none⟩,
    ⟨some 10, .assign (.tmp 37), none⟩])
   (.seq (.seq (.region false [⟨some 38, .move (.tmp 8) false, none⟩,
    ⟨some 39, .move (.tmp 10) false, none⟩,
    ⟨some 40, .bin .neq (.tmp 38) (.tmp 39), none⟩,
    ⟨some 41, .move (.tmp 40) false, none⟩,
    ⟨some 42, .move (.tmp 7) false, some (41, false)⟩,
    ⟨some 43, .len 0 (.tmp 42), some (41, false)⟩,
    ⟨some 44, .move (.tmp 9) false, some (41, false)⟩,
    ⟨some 45, .len 0 (.tmp 44), some (41, false)⟩,
    ⟨some 46, .bin .neq (.tmp 43) (.tmp 45), some (41, false)⟩,
    ⟨some 47, .pick (.tmp 41) (.const (.bool true)) (.tmp 46), none⟩,
    ⟨some 48, .move (.tmp 47) false, none⟩,
    ⟨some 49, .move (.tmp 0) false, some (48, false)⟩,
    ⟨some 50, .move (.tmp 1) false, some (48, false)⟩,
    ⟨some 51, .call 17 [(.tmp 49), (.tmp 50)], some (48, false)⟩,
    ⟨some 52, .move (.tmp 0) false, some (48, false)⟩,
    ⟨some 53, .move (.tmp 1) false, some (48, false)⟩,
    ⟨some 54, .call 16 [(.tmp 53)], some (48, false)⟩,
    ⟨some 55, .call 18 [(.tmp 52), (.tmp 54)], some (48, false)⟩,
    ⟨some 56, .bin .neq (.tmp 51) (.tmp 55), some (48, false)⟩,
    ⟨some 57, .pick (.tmp 48) (.const (.bool true)) (.tmp 56), none⟩])
   (.cond (.tmp 57) (.seq (.region false [⟨some 4, .assign (.const (.bool false)), none⟩])
   .ret) .skip))
   (.seq (.seq (.region false [⟨some 11, .assign (.const (.int .i64 (0))), none⟩])
   (.block 0 (.loop [11, 12, 9, 7, 1, 0, 4] l3_1)))
   (.seq (.region false [⟨some 4, .assign (.const (.bool true)), none⟩])
   .ret))))))))))⟩

def l4_0 : MCode :=
   (.seq (.seq (.region false [⟨some 48, .move (.tmp 13) false, none⟩,
    ⟨some 49, .move (.tmp 10) false, none⟩,
    ⟨some 50, .move (.tmp 12) false, none⟩,
    ⟨some 51, .indexAddr 1 (.tmp 49) (.tmp 50), none⟩,
    ⟨some 52, .load false 1 (.tmp 51) false, none⟩,
    ⟨some 53, .len 0 (.tmp 52), none⟩,
    ⟨some 54, .bin .lss (.tmp 48) (.tmp 53), none⟩])
   (.cond (.tmp 54) .skip (.exit 2)))
   (.seq (.block 3 (.seq (.region false [⟨some 57, .move (.tmp 10) false, none⟩,
    ⟨some 58, .move (.tmp 12) false, none⟩,
    ⟨some 59, .indexAddr 1 (.tmp 57) (.tmp 58), none⟩,
    ⟨some 60, .load false 1 (.tmp 59) false, none⟩,
    ⟨some 61, .move (.tmp 13) false, none⟩,
    ⟨some 62, .indexAddr 1 (.tmp 60) (.tmp 61), none⟩,
    ⟨some 63, .load false 1 (.tmp 62) false, none⟩,
    ⟨some 64, .bin .lss (.tmp 63) (.const (.int .i64 (-1099511627776))), none⟩,
    ⟨some 65, .move (.tmp 64) false, none⟩,
    ⟨some 66, .move (.tmp 10) false, some (65, false)⟩,
    ⟨some 67, .move (.tmp 12) false, some (65, false)⟩,
    ⟨some 68, .indexAddr 1 (.tmp 66) (.tmp 67), some (65, false)⟩,
    ⟨some 69, .load false 1 (.tmp 68) false, some (65, false)⟩,
    ⟨some 70, .move (.tmp 13) false, some (65, false)⟩,
    ⟨some 71, .indexAddr 1 (.tmp 69) (.tmp 70), some (65, false)⟩,
    ⟨some 72, .load false 1 (.tmp 71) false, some (65, false)⟩,
    ⟨some 73, .bin .gtr (.tmp 72) (.const (.int .i64 (1099511627776))), some (65, false)⟩,
    ⟨some 74, .pick (.tmp 65) (.const (.bool true)) (.tmp 73), none⟩])
   (.cond (.tmp 74) (.seq (.region false [⟨some 6, .assign (.const (.bool true)), none⟩])
   .ret) .skip)))
   (.region false [⟨some 55, .move (.tmp 13) false, none⟩,
    ⟨some 56, .bin .add (.tmp 55) (.const (.int .i64 (1))), none⟩,
    ⟨some 13, .assign (.tmp 56), none⟩])))

def l4_1 : MCode :=
   (.seq (.seq (.region false [⟨some 42, .move (.tmp 12) false, none⟩,
    ⟨some 43, .move (.tmp 10) false, none⟩,
    ⟨some 44, .len 0 (.tmp 43), none⟩,
    ⟨some 45, .bin .lss (.tmp 42) (.tmp 44), none⟩])
   (.cond (.tmp 45) .skip (.exit 0)))
   (.seq (.block 1 (.seq (.region false [⟨some 13, .assign (.const (.int .i64 (0))), none⟩])
   (.block 2 (.loop [1, 0, 2, 10, 9, 12, 13, 6] l4_0))))
   (.region false [⟨some 46, .move (.tmp 12) false, none⟩,
    ⟨some 47, .bin .add (.tmp 46) (.const (.int .i64 (1))), none⟩,
    ⟨some 12, .assign (.tmp 47), none⟩])))

/-- 'chamberlain/chamberlainlaw21.ProofSound' -/
def m4 : MFunc :=
  ⟨3, 88, [.tmp 6],
   (.seq (.region false [⟨some 6, .assign (.const (.bool false)), none⟩])
   (.seq (.region false [⟨some 14, .call 12 [], none⟩,
    ⟨some 7, .assign (.tmp 14), none⟩])
   (.seq (.seq (.region false [⟨some 15, .move (.tmp 7) false, none⟩,
    ⟨some 16, .un .not (.tmp 15), none⟩])
   (.cond (.tmp 16) (.seq (.region false [⟨some 6, .assign (.const (.bool false)), none⟩])
   .ret) .skip))
   (.seq (.region false [⟨some 17, .move (.tmp 0) false, none⟩,
    ⟨some 18, .call 13 [(.tmp 17)], none⟩,
    ⟨some 8, .assign (.tmp 18), none⟩])
   (.seq (.seq (.region false [⟨some 19, .move (.tmp 8) false, none⟩,
    ⟨some 20, .un .not (.tmp 19), none⟩,
    ⟨some 21, .move (.tmp 20) false, none⟩,
    ⟨some 22, .move (.tmp 1) false, some (21, false)⟩,
    ⟨some 23, .len 0 (.tmp 22), some (21, false)⟩,
    ⟨some 24, .bin .gtr (.tmp 23) (.const (.int .i64 (30))), some (21, false)⟩,
    ⟨some 25, .pick (.tmp 21) (.const (.bool true)) (.tmp 24), none⟩])
   (.cond (.tmp 25) (.seq (.region false [⟨some 6, .assign (.const (.bool true)), none⟩])
   .ret) .skip))
   (.seq (.region false [⟨some 26, .move (.tmp 0) false, none⟩,
    ⟨some 27, .move (.tmp 2) false, none⟩,
    ⟨some 28, .call 19 [(.tmp 26), (.tmp 27)], none⟩,
    ⟨some 9, .assign (.tmp 28), none⟩])
   (.seq (.region false [⟨some 30, .move (.tmp 0) false, none⟩,
    ⟨some 31, .move (.tmp 1) false, none⟩,
    ⟨some 32, .call 14 [(.tmp 30), (.tmp 31)], none⟩,
    ⟨some 29, .move (.tmp 32) false, none⟩,
    ⟨some 33, .extract (.tmp 29) 0, none⟩,
    ⟨some 34, .extract (.tmp 29) 1, none⟩,
    ⟨some 10, .assign (.tmp 33), none⟩,
    ⟨some 11, .assign (.tmp 34), none⟩])
   (.seq (.seq (.region false [⟨some 35, .move (.tmp 11) false, none⟩,
    ⟨some 36, .bin .neq (.tmp 35) (.const (.int .i64 (0))), none⟩])
   (.cond (.tmp 36) (.seq (.region false [⟨some 37, .move (.tmp 0) false, none⟩,
    ⟨some 38, .move (.tmp 1) false, none⟩,
    ⟨some 39, .call 17 [(.tmp 37), (.tmp 38)], none⟩,
    ⟨some 40, .move (.tmp 11) false, none⟩,
    ⟨some 41, .bin .eql (.tmp 39) (.tmp 40), none⟩,
    ⟨some 6, .assign (.tmp 41), none⟩])
   .ret) .skip))
   (.seq (.seq (.region false [⟨some 12, .assign (.const (.int .i64 (0))), none⟩])
   (.block 0 (.loop [1, 0, 2, 10, 9, 12, 13, 6] l4_1)))
   (.seq (.region false [⟨some 75, .move (.tmp 9) false, none⟩,
    ⟨some 76, .un .not (.tmp 75), none⟩,
    ⟨some 77, .move (.tmp 76) false, none⟩,
    ⟨some 78, .move (.tmp 10) false, some (77, false)⟩,
    ⟨some 79, .move (.tmp 2) false, some (77, false)⟩,
    ⟨some 80, .call 19 [(.tmp 78), (.tmp 79)], some (77, false)⟩,
    ⟨some 81, .move (.tmp 80) false, some (77, false)⟩,
    ⟨some 82, .move (.tmp 0) false, some (81, true)⟩,
    ⟨some 83, .move (.tmp 1) false, some (81, true)⟩,
    ⟨some 84, .call 17 [(.tmp 82), (.tmp 83)], some (81, true)⟩,
    ⟨some 85, .bin .eql (.tmp 84) (.const (.int .i64 (50))), some (81, true)⟩,
    ⟨some 86, .pick (.tmp 81) (.tmp 85) (.const (.bool false)), some (77, false)⟩,
    ⟨some 87, .pick (.tmp 77) (.const (.bool true)) (.tmp 86), none⟩,
    ⟨some 6, .assign (.tmp 87), none⟩])
   .ret))))))))))⟩

def l5_0 : MCode :=
   (.seq (.seq (.region false [⟨some 48, .move (.tmp 12) false, none⟩,
    ⟨some 49, .move (.tmp 8) false, none⟩,
    ⟨some 50, .len 0 (.tmp 49), none⟩,
    ⟨some 51, .bin .lss (.tmp 48) (.tmp 50), none⟩])
   (.cond (.tmp 51) .skip (.exit 0)))
   (.seq (.block 1 (.seq (.region false [⟨some 54, .move (.tmp 8) false, none⟩,
    ⟨some 55, .move (.tmp 12) false, none⟩,
    ⟨some 56, .indexAddr 1 (.tmp 54) (.tmp 55), none⟩,
    ⟨some 57, .load false 1 (.tmp 56) false, none⟩,
    ⟨some 58, .move (.tmp 10) false, none⟩,
    ⟨some 59, .move (.tmp 12) false, none⟩,
    ⟨some 60, .indexAddr 1 (.tmp 58) (.tmp 59), none⟩,
    ⟨some 61, .load false 1 (.tmp 60) false, none⟩,
    ⟨some 62, .bin .neq (.tmp 57) (.tmp 61), none⟩])
   (.cond (.tmp 62) (.seq (.region false [⟨some 6, .assign (.const (.bool false)), none⟩])
   .ret) .skip)))
   (.region false [⟨some 52, .move (.tmp 12) false, none⟩,
    ⟨some 53, .bin .add (.tmp 52) (.const (.int .i64 (1))), none⟩,
    ⟨some 12, .assign (.tmp 53), none⟩])))

/-- 'chamberlain/chamberlainlaw21.ProofMakes' -/
def m5 : MFunc :=
  ⟨3, 63, [.tmp 6],
   (.seq (.region false [⟨some 6, .assign (.const (.bool false)), none⟩])
   (.seq (.region false [⟨some 13, .call 12 [], none⟩,
    ⟨some 7, .assign (.tmp 13), none⟩])
   (.seq (.seq (.region false [⟨some 14, .move (.tmp 7) false, none⟩,
    ⟨some 15, .un .not (.tmp 14), none⟩])
   (.cond (.tmp 15) (.seq (.region false [⟨some 6, .assign (.const (.bool false)), none⟩])
   .ret) .skip))
   (.seq (.seq (.region false [⟨some 16, .move (.tmp 0) false, none⟩,
    ⟨some 17, .len 0 (.tmp 16), none⟩,
    ⟨some 18, .bin .gtr (.tmp 17) (.const (.int .i64 (30))), none⟩,
    ⟨some 19, .move (.tmp 18) false, none⟩,
    ⟨some 20, .move (.tmp 1) false, some (19, false)⟩,
    ⟨some 21, .len 0 (.tmp 20), some (19, false)⟩,
    ⟨some 22, .bin .gtr (.tmp 21) (.const (.int .i64 (30))), some (19, false)⟩,
    ⟨some 23, .pick (.tmp 19) (.const (.bool true)) (.tmp 22), none⟩])
   (.cond (.tmp 23) (.seq (.region false [⟨some 6, .assign (.const (.bool true)), none⟩])
   .ret) .skip))
   (.seq (.region false [⟨some 25, .move (.tmp 0) false, none⟩,
    ⟨some 26, .move (.tmp 1) false, none⟩,
    ⟨some 27, .move (.tmp 2) false, none⟩,
    ⟨some 28, .call 20 [(.tmp 25), (.tmp 26), (.tmp 27)], none⟩,
    ⟨some 24, .move (.tmp 28) false, none⟩,
    ⟨some 29, .extract (.tmp 24) 0, none⟩,
    ⟨some 30, .extract (.tmp 24) 1, none⟩,
    ⟨some 8, .assign (.tmp 29), none⟩,
    ⟨some 9, .assign (.tmp 30), none⟩])
   (.seq (.region false [⟨some 32, .move (.tmp 0) false, none⟩,
    ⟨some 33, .move (.tmp 1) false, none⟩,
    ⟨some 34, .move (.tmp 2) false, none⟩,
    ⟨some 35, .call 21 [(.tmp 32), (.tmp 33), (.tmp 34)], none⟩,
    ⟨some 31, .move (.tmp 35) false, none⟩,
    ⟨some 36, .extract (.tmp 31) 0, none⟩,
    ⟨some 37, .extract (.tmp 31) 1, none⟩,
    ⟨some 10, .assign (.tmp 36), none⟩,
    ⟨some 11, .assign (.tmp 37), none⟩])
   (.seq (.seq (.region false [⟨some 38, .move (.tmp 9) false, none⟩,
    ⟨some 39, .move (.tmp 11) false, none⟩,
    ⟨some 40, .bin .neq (.tmp 38) (.tmp 39), none⟩,
    ⟨some 41, .move (.tmp 40) false, none⟩,
    ⟨some 42, .move (.tmp 8) false, some (41, false)⟩,
    ⟨some 43, .len 0 (.tmp 42), some (41, false)⟩,
    ⟨some 44, .move (.tmp 10) false, some (41, false)⟩,
    ⟨some 45, .len 0 (.tmp 44), some (41, false)⟩,
    ⟨some 46, .bin .neq (.tmp 43) (.tmp 45), some (41, false)⟩,
    ⟨some 47, .pick (.tmp 41) (.const (.bool true)) (.tmp 46), none⟩])
   (.cond (.tmp 47) (.seq (.region false [⟨some 6, .assign (.const (.bool false)), none⟩])
   .ret) .skip))
   (.seq (.seq (.region false [⟨some 12, .assign (.const (.int .i64 (0))), none⟩])
   (.block 0 (.loop [12, 10, 8, 2, 1, 0, 6] l5_0)))
   (.seq (.region false [⟨some 6, .assign (.const (.bool true)), none⟩])
   .ret)))))))))⟩


/-- 'chamberlain/chamberlainlaw20.SolveChecks' -/
def m6 : MFunc :=
  ⟨2, 21, [.tmp 4],
   (.seq (.region false [⟨some 4, .assign (.const (.bool false)), none⟩])
   (.seq (.region false [⟨some 7, .call 22 [], none⟩,
    ⟨some 5, .assign (.tmp 7), none⟩])
   (.seq (.seq (.region false [⟨some 8, .move (.tmp 5) false, none⟩,
    ⟨some 9, .un .not (.tmp 8), none⟩])
   (.cond (.tmp 9) (.seq (.region false [⟨some 4, .assign (.const (.bool false)), none⟩])
   .ret) .skip))
   (.seq (.region false [⟨some 10, .move (.tmp 0) false, none⟩,
    ⟨some 11, .call 23 [(.tmp 10)], none⟩,
    ⟨some 6, .assign (.tmp 11), none⟩])
   (.seq (.seq (.region false [⟨some 12, .move (.tmp 6) false, none⟩,
    ⟨some 13, .un .not (.tmp 12), none⟩])
   (.cond (.tmp 13) (.seq (.region false [⟨some 4, .assign (.const (.bool true)), none⟩])
   .ret) .skip))
   (.seq (.region false [⟨some 14, .move (.tmp 0) false, none⟩,
    ⟨some 15, .move (.tmp 1) false, none⟩,
    ⟨some 16, .call 24 [(.tmp 14), (.tmp 15)], none⟩,
    ⟨some 17, .move (.tmp 0) false, none⟩,
    ⟨some 18, .move (.tmp 1) false, none⟩,
    ⟨some 19, .call 25 [(.tmp 17), (.tmp 18)], none⟩,
    ⟨some 20, .bin .eql (.tmp 16) (.tmp 19), none⟩,
    ⟨some 4, .assign (.tmp 20), none⟩])
   .ret))))))⟩

def l7_0 : MCode :=
   (.seq (.seq (.region false [⟨some 71, .move (.tmp 13) false, none⟩,
    ⟨some 72, .move (.tmp 11) false, none⟩,
    ⟨some 73, .len 0 (.tmp 72), none⟩,
    ⟨some 74, .bin .lss (.tmp 71) (.tmp 73), none⟩])
   (.cond (.tmp 74) .skip (.exit 0)))
   (.seq (.block 1 (.seq (.region false [⟨some 77, .fieldAddr 1 (.tmp 9), none⟩,
    ⟨some 78, .load false 1 (.tmp 77) false, none⟩,
    ⟨some 79, .move (.tmp 13) false, none⟩,
    ⟨some 80, .indexAddr 1 (.tmp 78) (.tmp 79), none⟩,
    ⟨some 81, .load false 1 (.tmp 80) false, none⟩,
    ⟨some 82, .move (.tmp 11) false, none⟩,
    ⟨some 83, .move (.tmp 13) false, none⟩,
    ⟨some 84, .indexAddr 1 (.tmp 82) (.tmp 83), none⟩,
    ⟨some 85, .load false 1 (.tmp 84) false, none⟩,
    ⟨some 86, .eqb true (.tmp 81) (.tmp 85), none⟩])
   (.cond (.tmp 86) (.seq (.region false [⟨some 6, .assign (.const (.bool false)), none⟩])
   .ret) .skip)))
   (.region false [⟨some 75, .move (.tmp 13) false, none⟩,
    ⟨some 76, .bin .add (.tmp 75) (.const (.int .i64 (1))), none⟩,
    ⟨some 13, .assign (.tmp 76), none⟩])))

/-- 'chamberlain/chamberlainlaw20.SolveAnswers' -/
def m7 : MFunc :=
  ⟨3, 87, [.tmp 6],
   (.seq (.region false [⟨some 6, .assign (.const (.bool false)), none⟩])
   (.seq (.region false [⟨some 14, .call 22 [], none⟩,
    ⟨some 7, .assign (.tmp 14), none⟩])
   (.seq (.seq (.region false [⟨some 15, .move (.tmp 7) false, none⟩,
    ⟨some 16, .un .not (.tmp 15), none⟩])
   (.cond (.tmp 16) (.seq (.region false [⟨some 6, .assign (.const (.bool false)), none⟩])
   .ret) .skip))
   (.seq (.region false [⟨some 17, .move (.tmp 0) false, none⟩,
    ⟨some 18, .call 23 [(.tmp 17)], none⟩,
    ⟨some 8, .assign (.tmp 18), none⟩])
   (.seq (.seq (.region false [⟨some 19, .move (.tmp 8) false, none⟩,
    ⟨some 20, .un .not (.tmp 19), none⟩,
    ⟨some 21, .move (.tmp 20) false, none⟩,
    ⟨some 22, .move (.tmp 1) false, some (21, false)⟩,
    ⟨some 23, .bin .gtr (.tmp 22) (.const (.int .i64 (12))), some (21, false)⟩,
    ⟨some 24, .pick (.tmp 21) (.const (.bool true)) (.tmp 23), none⟩,
    ⟨some 25, .move (.tmp 24) false, none⟩,
    ⟨some 26, .move (.tmp 0) false, some (25, false)⟩,
    ⟨some 27, .move (.tmp 1) false, some (25, false)⟩,
    ⟨some 28, .call 25 [(.tmp 26), (.tmp 27)], some (25, false)⟩,
    ⟨some 29, .bin .neq (.tmp 28) (.const (.int .i64 (0))), some (25, false)⟩,
    ⟨some 30, .pick (.tmp 25) (.const (.bool true)) (.tmp 29), none⟩])
   (.cond (.tmp 30) (.seq (.region false [⟨some 6, .assign (.const (.bool true)), none⟩])
   .ret) .skip))
   (.seq (.region false [⟨some 31, .move (.tmp 0) false, none⟩,
    ⟨some 32, .move (.tmp 1) false, none⟩,
    ⟨some 33, .move (.tmp 2) false, none⟩,
    ⟨some 34, .call 26 [(.tmp 31), (.tmp 32), (.tmp 33)], none⟩,
    ⟨some 9, .alloc [(.int .i64 (0)), (.sl [] (some 4)), (.sl [] (some 55)), (.int .i64 (0))], none⟩,
    ⟨none, .store 4 (.tmp 9) (.tmp 34), none⟩])
   (.seq (.region false [⟨some 36, .move (.tmp 0) false, none⟩,
    ⟨some 37, .move (.tmp 1) false, none⟩,
    ⟨some 38, .move (.tmp 2) false, none⟩,
    ⟨some 39, .call 27 [(.tmp 36), (.tmp 37), (.tmp 38)], none⟩,
    ⟨some 35, .move (.tmp 39) false, none⟩,
    ⟨some 40, .extract (.tmp 35) 0, none⟩,
    ⟨some 41, .extract (.tmp 35) 1, none⟩,
    ⟨some 42, .extract (.tmp 35) 2, none⟩,
    ⟨some 10, .assign (.tmp 40), none⟩,
    ⟨some 11, .assign (.tmp 41), none⟩,
    ⟨some 12, .assign (.tmp 42), none⟩])
   (.seq (.seq (.region false [⟨some 43, .fieldAddr 0 (.tmp 9), none⟩,
    ⟨some 44, .load false 1 (.tmp 43) false, none⟩,
    ⟨some 45, .move (.tmp 10) false, none⟩,
    ⟨some 46, .bin .neq (.tmp 44) (.tmp 45), none⟩,
    ⟨some 47, .move (.tmp 46) false, none⟩,
    ⟨some 48, .fieldAddr 3 (.tmp 9), some (47, false)⟩,
    ⟨some 49, .load false 1 (.tmp 48) false, some (47, false)⟩,
    ⟨some 50, .move (.tmp 12) false, some (47, false)⟩,
    ⟨some 51, .bin .neq (.tmp 49) (.tmp 50), some (47, false)⟩,
    ⟨some 52, .pick (.tmp 47) (.const (.bool true)) (.tmp 51), none⟩,
    ⟨some 53, .move (.tmp 52) false, none⟩,
    ⟨some 54, .fieldAddr 1 (.tmp 9), some (53, false)⟩,
    ⟨some 55, .load false 1 (.tmp 54) false, some (53, false)⟩,
    ⟨some 56, .len 0 (.tmp 55), some (53, false)⟩,
    ⟨some 57, .move (.tmp 11) false, some (53, false)⟩,
    ⟨some 58, .len 0 (.tmp 57), some (53, false)⟩,
    ⟨some 59, .bin .neq (.tmp 56) (.tmp 58), some (53, false)⟩,
    ⟨some 60, .pick (.tmp 53) (.const (.bool true)) (.tmp 59), none⟩,
    ⟨some 61, .move (.tmp 60) false, none⟩,
    ⟨some 62, .move (.tmp 10) false, some (61, false)⟩,
    ⟨some 63, .bin .neq (.tmp 62) (.const (.int .i64 (2))), some (61, false)⟩,
    ⟨some 64, .move (.tmp 63) false, some (61, false)⟩,
    ⟨some 65, .fieldAddr 2 (.tmp 9), some (64, true)⟩,
    ⟨some 66, .load false 1 (.tmp 65) false, some (64, true)⟩,
    ⟨some 67, .len 0 (.tmp 66), some (64, true)⟩,
    ⟨some 68, .bin .gtr (.tmp 67) (.const (.int .i64 (0))), some (64, true)⟩,
    ⟨some 69, .pick (.tmp 64) (.tmp 68) (.const (.bool false)), some (61, false)⟩,
    ⟨some 70, .pick (.tmp 61) (.const (.bool true)) (.tmp 69), none⟩])
   (.cond (.tmp 70) (.seq (.region false [⟨some 6, .assign (.const (.bool false)), none⟩])
   .ret) .skip))
   (.seq (.seq (.region false [⟨some 13, .assign (.const (.int .i64 (0))), none⟩])
   (.block 0 (.loop [13, 11, 9, 2, 1, 0, 6] l7_0)))
   (.seq (.region false [⟨some 6, .assign (.const (.bool true)), none⟩])
   .ret))))))))))⟩

def l8_0 : MCode :=
   (.seq (.seq (.region false [⟨some 42, .move (.tmp 12) false, none⟩,
    ⟨some 43, .move (.tmp 1) false, none⟩,
    ⟨some 44, .bin .lss (.tmp 42) (.tmp 43), none⟩])
   (.cond (.tmp 44) .skip (.exit 2)))
   (.seq (.block 3 (.region false [⟨some 47, .move (.tmp 11) false, none⟩,
    ⟨some 48, .move (.tmp 12) false, none⟩,
    ⟨some 49, .move (.tmp 10) false, none⟩,
    ⟨some 50, .move (.tmp 12) false, none⟩,
    ⟨some 51, .conv .u64 (.tmp 50), none⟩,
    ⟨some 52, .bin .shr (.tmp 49) (.tmp 51), none⟩,
    ⟨some 53, .bin .and (.tmp 52) (.const (.int .i64 (1))), none⟩,
    ⟨some 54, .bin .eql (.tmp 53) (.const (.int .i64 (1))), none⟩,
    ⟨some 55, .indexAddr 1 (.tmp 47) (.tmp 48), none⟩,
    ⟨none, .store 1 (.tmp 55) (.tmp 54), none⟩]))
   (.region false [⟨some 45, .move (.tmp 12) false, none⟩,
    ⟨some 46, .bin .add (.tmp 45) (.const (.int .i64 (1))), none⟩,
    ⟨some 12, .assign (.tmp 46), none⟩])))

def l8_1 : MCode :=
   (.seq (.seq (.region false [⟨some 33, .move (.tmp 10) false, none⟩,
    ⟨some 34, .move (.tmp 1) false, none⟩,
    ⟨some 35, .conv .u64 (.tmp 34), none⟩,
    ⟨some 36, .bin .shl (.const (.int .i64 (1))) (.tmp 35), none⟩,
    ⟨some 37, .bin .lss (.tmp 33) (.tmp 36), none⟩])
   (.cond (.tmp 37) .skip (.exit 0)))
   (.seq (.block 1 (.seq (.region false [⟨some 40, .move (.tmp 1) false, none⟩,
    ⟨some 41, .mkslice 1 1 [(.bool false)] (.tmp 40) (.tmp 40), none⟩,
    ⟨some 11, .assign (.tmp 41), none⟩])
   (.seq (.seq (.region false [⟨some 12, .assign (.const (.int .i64 (0))), none⟩])
   (.block 2 (.loop [2, 9, 0, 1, 10, 11, 12, 6] l8_0)))
   (.seq (.region false [⟨some 56, .move (.tmp 0) false, none⟩,
    ⟨some 57, .move (.tmp 11) false, none⟩,
    ⟨some 58, .call 19 [(.tmp 56), (.tmp 57)], none⟩,
    ⟨some 13, .assign (.tmp 58), none⟩])
   (.region false [⟨some 59, .move (.tmp 9) false, none⟩,
    ⟨some 60, .move (.tmp 59) false, none⟩,
    ⟨some 61, .move (.tmp 13) false, some (60, false)⟩,
    ⟨some 62, .pick (.tmp 60) (.const (.bool true)) (.tmp 61), none⟩,
    ⟨some 9, .assign (.tmp 62), none⟩])))))
   (.region false [⟨some 38, .move (.tmp 10) false, none⟩,
    ⟨some 39, .bin .add (.tmp 38) (.const (.int .i64 (1))), none⟩,
    ⟨some 10, .assign (.tmp 39), none⟩])))

/-- 'chamberlain/chamberlainlaw20.SolveTrue' -/
def m8 : MFunc :=
  ⟨3, 139, [.tmp 6],
   (.seq (.region false [⟨some 6, .assign (.const (.bool false)), none⟩])
   (.seq (.region false [⟨some 16, .call 22 [], none⟩,
    ⟨some 7, .assign (.tmp 16), none⟩])
   (.seq (.seq (.region false [⟨some 17, .move (.tmp 7) false, none⟩,
    ⟨some 18, .un .not (.tmp 17), none⟩])
   (.cond (.tmp 18) (.seq (.region false [⟨some 6, .assign (.const (.bool false)), none⟩])
   .ret) .skip))
   (.seq (.region false [⟨some 19, .move (.tmp 0) false, none⟩,
    ⟨some 20, .call 23 [(.tmp 19)], none⟩,
    ⟨some 8, .assign (.tmp 20), none⟩])
   (.seq (.seq (.region false [⟨some 21, .move (.tmp 8) false, none⟩,
    ⟨some 22, .un .not (.tmp 21), none⟩,
    ⟨some 23, .move (.tmp 22) false, none⟩,
    ⟨some 24, .move (.tmp 1) false, some (23, false)⟩,
    ⟨some 25, .bin .gtr (.tmp 24) (.const (.int .i64 (9))), some (23, false)⟩,
    ⟨some 26, .pick (.tmp 23) (.const (.bool true)) (.tmp 25), none⟩,
    ⟨some 27, .move (.tmp 26) false, none⟩,
    ⟨some 28, .move (.tmp 0) false, some (27, false)⟩,
    ⟨some 29, .move (.tmp 1) false, some (27, false)⟩,
    ⟨some 30, .call 25 [(.tmp 28), (.tmp 29)], some (27, false)⟩,
    ⟨some 31, .bin .neq (.tmp 30) (.const (.int .i64 (0))), some (27, false)⟩,
    ⟨some 32, .pick (.tmp 27) (.const (.bool true)) (.tmp 31), none⟩])
   (.cond (.tmp 32) (.seq (.region false [⟨some 6, .assign (.const (.bool true)), none⟩])
   .ret) .skip))
   (.seq (.region false [⟨some 9, .assign (.const (.bool false)), none⟩])
   (.seq (.seq (.region false [⟨some 10, .assign (.const (.int .i64 (0))), none⟩])
   (.block 0 (.loop [2, 9, 0, 1, 10, 11, 12, 6] l8_1)))
   (.seq (.region false [⟨some 63, .move (.tmp 0) false, none⟩,
    ⟨some 64, .move (.tmp 1) false, none⟩,
    ⟨some 65, .move (.tmp 1) false, none⟩,
    ⟨some 66, .conv .u64 (.tmp 65), none⟩,
    ⟨some 67, .bin .shl (.const (.int .i64 (1))) (.tmp 66), none⟩,
    ⟨some 68, .bin .sub (.tmp 67) (.const (.int .i64 (1))), none⟩,
    ⟨some 69, .call 26 [(.tmp 63), (.tmp 64), (.tmp 68)], none⟩,
    ⟨some 14, .alloc [(.int .i64 (0)), (.sl [] (some 4)), (.sl [] (some 55)), (.int .i64 (0))], none⟩,
    ⟨none, .store 4 (.tmp 14) (.tmp 69), none⟩])
   (.seq (.region false [⟨some 70, .move (.tmp 0) false, none⟩,
    ⟨some 71, .move (.tmp 1) false, none⟩,
    ⟨some 72, .move (.tmp 2) false, none⟩,
    ⟨some 73, .bin .and (.tmp 72) (.const (.int .i64 (15))), none⟩,
    ⟨some 74, .call 26 [(.tmp 70), (.tmp 71), (.tmp 73)], none⟩,
    ⟨some 15, .alloc [(.int .i64 (0)), (.sl [] (some 4)), (.sl [] (some 55)), (.int .i64 (0))], none⟩,
    ⟨none, .store 4 (.tmp 15) (.tmp 74), none⟩])
   (.seq (.seq (.region false [⟨some 75, .fieldAddr 0 (.tmp 14), none⟩,
    ⟨some 76, .load false 1 (.tmp 75) false, none⟩,
    ⟨some 77, .bin .eql (.tmp 76) (.const (.int .i64 (1))), none⟩,
    ⟨some 78, .move (.tmp 77) false, none⟩,
    ⟨some 79, .move (.tmp 9) false, some (78, true)⟩,
    ⟨some 80, .un .not (.tmp 79), some (78, true)⟩,
    ⟨some 81, .move (.tmp 80) false, some (78, true)⟩,
    ⟨some 82, .move (.tmp 0) false, some (81, false)⟩,
    ⟨some 83, .fieldAddr 1 (.tmp 14), some (81, false)⟩,
    ⟨some 84, .load false 1 (.tmp 83) false, some (81, false)⟩,
    ⟨some 85, .call 19 [(.tmp 82), (.tmp 84)], some (81, false)⟩,
    ⟨some 86, .un .not (.tmp 85), some (81, false)⟩,
    ⟨some 87, .pick (.tmp 81) (.const (.bool true)) (.tmp 86), some (78, true)⟩,
    ⟨some 88, .pick (.tmp 78) (.tmp 87) (.const (.bool false)), none⟩,
    ⟨some 89, .move (.tmp 88) false, none⟩,
    ⟨some 90, .fieldAddr 0 (.tmp 14), some (89, false)⟩,
    ⟨some 91, .load false 1 (.tmp 90) false, some (89, false)⟩,
    ⟨some 92, .bin .eql (.tmp 91) (.const (.int .i64 (2))), some (89, false)⟩,
    ⟨some 93, .move (.tmp 92) false, some (89, false)⟩,
    ⟨some 94, .move (.tmp 9) false, some (93, true)⟩,
    ⟨some 95, .pick (.tmp 93) (.tmp 94) (.const (.bool false)), some (89, false)⟩,
    ⟨some 96, .pick (.tmp 89) (.const (.bool true)) (.tmp 95), none⟩,
    ⟨some 97, .move (.tmp 96) false, none⟩,
    ⟨some 98, .fieldAddr 0 (.tmp 14), some (97, false)⟩,
    ⟨some 99, .load false 1 (.tmp 98) false, some (97, false)⟩,
    ⟨some 100, .bin .neq (.tmp 99) (.const (.int .i64 (1))), some (97, false)⟩,
    ⟨some 101, .move (.tmp 100) false, some (97, false)⟩,
    ⟨some 102, .fieldAddr 0 (.tmp 14), some (101, true)⟩,
    ⟨some 103, .load false 1 (.tmp 102) false, some (101, true)⟩,
    ⟨some 104, .bin .neq (.tmp 103) (.const (.int .i64 (2))), some (101, true)⟩,
    ⟨some 105, .pick (.tmp 101) (.tmp 104) (.const (.bool false)), some (97, false)⟩,
    ⟨some 106, .pick (.tmp 97) (.const (.bool true)) (.tmp 105), none⟩])
   (.cond (.tmp 106) (.seq (.region false [⟨some 6, .assign (.const (.bool false)), none⟩])
   .ret) .skip))
   (.seq (.region false [⟨some 107, .fieldAddr 0 (.tmp 15), none⟩,
    ⟨some 108, .load false 1 (.tmp 107) false, none⟩,
    ⟨some 109, .bin .eql (.tmp 108) (.const (.int .i64 (3))), none⟩,
    ⟨some 110, .move (.tmp 109) false, none⟩,
    ⟨some 111, .fieldAddr 3 (.tmp 15), some (110, true)⟩,
    ⟨some 112, .load false 1 (.tmp 111) false, some (110, true)⟩,
    ⟨some 113, .move (.tmp 2) false, some (110, true)⟩,
    ⟨some 114, .bin .and (.tmp 113) (.const (.int .i64 (15))), some (110, true)⟩,
    ⟨some 115, .bin .add (.tmp 114) (.const (.int .i64 (1))), some (110, true)⟩,
    ⟨some 116, .bin .eql (.tmp 112) (.tmp 115), some (110, true)⟩,
    ⟨some 117, .pick (.tmp 110) (.tmp 116) (.const (.bool false)), none⟩,
    ⟨some 118, .move (.tmp 117) false, none⟩,
    ⟨some 119, .fieldAddr 0 (.tmp 15), some (118, false)⟩,
    ⟨some 120, .load false 1 (.tmp 119) false, some (118, false)⟩,
    ⟨some 121, .fieldAddr 0 (.tmp 14), some (118, false)⟩,
    ⟨some 122, .load false 1 (.tmp 121) false, some (118, false)⟩,
    ⟨some 123, .bin .eql (.tmp 120) (.tmp 122), some (118, false)⟩,
    ⟨some 124, .move (.tmp 123) false, some (118, false)⟩,
    ⟨some 125, .fieldAddr 3 (.tmp 15), some (124, true)⟩,
    ⟨some 126, .load false 1 (.tmp 125) false, some (124, true)⟩,
    ⟨some 127, .fieldAddr 3 (.tmp 14), some (124, true)⟩,
    ⟨some 128, .load false 1 (.tmp 127) false, some (124, true)⟩,
    ⟨some 129, .bin .eql (.tmp 126) (.tmp 128), some (124, true)⟩,
    ⟨some 130, .pick (.tmp 124) (.tmp 129) (.const (.bool false)), some (118, false)⟩,
    ⟨some 131, .move (.tmp 130) false, some (118, false)⟩,
    ⟨some 132, .fieldAddr 3 (.tmp 15), some (131, true)⟩,
    ⟨some 133, .load false 1 (.tmp 132) false, some (131, true)⟩,
    ⟨some 134, .move (.tmp 2) false, some (131, true)⟩,
    ⟨some 135, .bin .and (.tmp 134) (.const (.int .i64 (15))), some (131, true)⟩,
    ⟨some 136, .bin .leq (.tmp 133) (.tmp 135), some (131, true)⟩,
    ⟨some 137, .pick (.tmp 131) (.tmp 136) (.const (.bool false)), some (118, false)⟩,
    ⟨some 138, .pick (.tmp 118) (.const (.bool true)) (.tmp 137), none⟩,
    ⟨some 6, .assign (.tmp 138), none⟩])
   .ret)))))))))))⟩

def l9_0 : MCode :=
   (.seq (.seq (.region false [⟨some 24, .move (.tmp 10) false, none⟩,
    ⟨some 25, .move (.tmp 0) false, none⟩,
    ⟨some 26, .len 0 (.tmp 25), none⟩,
    ⟨some 27, .bin .lss (.tmp 24) (.tmp 26), none⟩,
    ⟨some 28, .move (.tmp 27) false, none⟩,
    ⟨some 29, .move (.tmp 10) false, some (28, true)⟩,
    ⟨some 30, .bin .lss (.tmp 29) (.const (.int .i64 (30))), some (28, true)⟩,
    ⟨some 31, .pick (.tmp 28) (.tmp 30) (.const (.bool false)), none⟩])
   (.cond (.tmp 31) .skip (.exit 0)))
   (.seq (.block 1 (.seq (.region false [⟨some 34, .move (.tmp 0) false, none⟩,
    ⟨some 35, .move (.tmp 10) false, none⟩,
    ⟨some 36, .indexAddr 1 (.tmp 34) (.tmp 35), none⟩,
    ⟨some 37, .load false 1 (.tmp 36) false, none⟩,
    ⟨some 38, .conv .i64 (.tmp 37), none⟩,
    ⟨some 11, .assign (.tmp 38), none⟩])
   (.seq (.region false [⟨some 39, .move (.tmp 11) false, none⟩,
    ⟨some 12, .assign (.tmp 39), none⟩])
   (.seq (.seq (.region false [⟨some 40, .move (.tmp 11) false, none⟩,
    ⟨some 41, .bin .lss (.tmp 40) (.const (.int .i64 (0))), none⟩])
   (.cond (.tmp 41) (.region false [⟨some 42, .move (.tmp 11) false, none⟩,
    ⟨some 43, .un .neg (.tmp 42), none⟩,
    ⟨some 12, .assign (.tmp 43), none⟩]) .skip))
   (.seq (.seq (.region false [⟨some 44, .move (.tmp 11) false, none⟩,
    ⟨some 45, .bin .eql (.tmp 44) (.const (.int .i64 (0))), none⟩,
    ⟨some 46, .move (.tmp 45) false, none⟩,
    ⟨some 47, .move (.tmp 12) false, some (46, false)⟩,
    ⟨some 48, .move (.tmp 6) false, some (46, false)⟩,
    ⟨some 49, .bin .gtr (.tmp 47) (.tmp 48), some (46, false)⟩,
    ⟨some 50, .pick (.tmp 46) (.const (.bool true)) (.tmp 49), none⟩])
   (.cond (.tmp 50) (.exit 1) .skip))
   (.seq (.region false [⟨some 51, .move (.tmp 7) true, none⟩,
    ⟨some 52, .move (.tmp 11) false, none⟩,
    ⟨some 53, .buildSlice 3 1 1 [(.int .i64 (0))] [(0, (.tmp 52))], none⟩,
    ⟨some 54, .buildSlice 34 1 1 [(.sl [] (some 3))] [(0, (.tmp 53))], none⟩,
    ⟨some 55, .append 34 1 24 false (.tmp 51) (.tmp 54), none⟩,
    ⟨some 7, .assign (.tmp 55), none⟩])
   (.seq (.region false [⟨some 56, .move (.tmp 9) false, none⟩,
    ⟨some 57, .move (.tmp 56) false, none⟩,
    ⟨some 58, .move (.tmp 8) false, some (57, false)⟩,
    ⟨some 59, .move (.tmp 12) false, some (57, false)⟩,
    ⟨some 60, .indexAddr 1 (.tmp 58) (.tmp 59), some (57, false)⟩,
    ⟨some 61, .load false 1 (.tmp 60) false, some (57, false)⟩,
    ⟨some 62, .move (.tmp 11) false, some (57, false)⟩,
    ⟨some 63, .un .neg (.tmp 62), some (57, false)⟩,
    ⟨some 64, .bin .eql (.tmp 61) (.tmp 63), some (57, false)⟩,
    ⟨some 65, .pick (.tmp 57) (.const (.bool true)) (.tmp 64), none⟩,
    ⟨some 9, .assign (.tmp 65), none⟩])
   (.seq (.region false [⟨some 66, .move (.tmp 8) false, none⟩,
    ⟨some 67, .move (.tmp 12) false, none⟩,
    ⟨some 68, .indexAddr 1 (.tmp 66) (.tmp 67), none⟩,
    ⟨some 69, .load false 1 (.tmp 68) false, none⟩,
    ⟨some 70, .bin .eql (.tmp 69) (.const (.int .i64 (0))), none⟩])
   (.cond (.tmp 70) (.region false [⟨some 71, .move (.tmp 8) false, none⟩,
    ⟨some 72, .move (.tmp 12) false, none⟩,
    ⟨some 73, .move (.tmp 11) false, none⟩,
    ⟨some 74, .indexAddr 1 (.tmp 71) (.tmp 72), none⟩,
    ⟨none, .store 1 (.tmp 74) (.tmp 73), none⟩]) .skip)))))))))
   (.region false [⟨some 32, .move (.tmp 10) false, none⟩,
    ⟨some 33, .bin .add (.tmp 32) (.const (.int .i64 (1))), none⟩,
    ⟨some 10, .assign (.tmp 33), none⟩])))

def l9_1 : MCode :=
   (.seq (.seq (.region false [⟨some 75, .move (.tmp 14) false, none⟩,
    ⟨some 76, .move (.tmp 6) false, none⟩,
    ⟨some 77, .bin .leq (.tmp 75) (.tmp 76), none⟩])
   (.cond (.tmp 77) .skip (.exit 2)))
   (.seq (.block 3 (.seq (.region false [⟨some 80, .move (.tmp 8) false, none⟩,
    ⟨some 81, .move (.tmp 14) false, none⟩,
    ⟨some 82, .indexAddr 1 (.tmp 80) (.tmp 81), none⟩,
    ⟨some 83, .load false 1 (.tmp 82) false, none⟩,
    ⟨some 84, .bin .eql (.tmp 83) (.const (.int .i64 (0))), none⟩])
   (.cond (.tmp 84) (.region false [⟨some 85, .move (.tmp 13) false, none⟩,
    ⟨some 86, .bin .add (.tmp 85) (.const (.int .i64 (1))), none⟩,
    ⟨some 13, .assign (.tmp 86), none⟩]) .skip)))
   (.region false [⟨some 78, .move (.tmp 14) false, none⟩,
    ⟨some 79, .bin .add (.tmp 78) (.const (.int .i64 (1))), none⟩,
    ⟨some 14, .assign (.tmp 79), none⟩])))

def l9_2 : MCode :=
   (.seq (.seq (.region false [⟨some 115, .move (.tmp 16) false, none⟩,
    ⟨some 116, .move (.tmp 6) false, none⟩,
    ⟨some 117, .bin .leq (.tmp 115) (.tmp 116), none⟩])
   (.cond (.tmp 117) .skip (.exit 4)))
   (.seq (.block 5 (.seq (.region false [⟨some 120, .fieldAddr 1 (.tmp 15), none⟩,
    ⟨some 121, .load false 1 (.tmp 120) false, none⟩,
    ⟨some 122, .move (.tmp 16) false, none⟩,
    ⟨some 123, .bin .sub (.tmp 122) (.const (.int .i64 (1))), none⟩,
    ⟨some 124, .indexAddr 1 (.tmp 121) (.tmp 123), none⟩,
    ⟨some 125, .load false 1 (.tmp 124) false, none⟩,
    ⟨some 126, .move (.tmp 8) false, none⟩,
    ⟨some 127, .move (.tmp 16) false, none⟩,
    ⟨some 128, .indexAddr 1 (.tmp 126) (.tmp 127), none⟩,
    ⟨some 129, .load false 1 (.tmp 128) false, none⟩,
    ⟨some 130, .bin .geq (.tmp 129) (.const (.int .i64 (0))), none⟩,
    ⟨some 131, .eqb true (.tmp 125) (.tmp 130), none⟩])
   (.cond (.tmp 131) (.seq (.region false [⟨some 4, .assign (.const (.bool false)), none⟩])
   .ret) .skip)))
   (.region false [⟨some 118, .move (.tmp 16) false, none⟩,
    ⟨some 119, .bin .add (.tmp 118) (.const (.int .i64 (1))), none⟩,
    ⟨some 16, .assign (.tmp 119), none⟩])))

/-- 'chamberlain/chamberlainlaw20.SolveUnits' -/
def m9 : MFunc :=
  ⟨2, 132, [.tmp 4],
   (.seq (.region false [⟨some 4, .assign (.const (.bool false)), none⟩])
   (.seq (.region false [⟨some 17, .call 22 [], none⟩,
    ⟨some 5, .assign (.tmp 17), none⟩])
   (.seq (.seq (.region false [⟨some 18, .move (.tmp 5) false, none⟩,
    ⟨some 19, .un .not (.tmp 18), none⟩])
   (.cond (.tmp 19) (.seq (.region false [⟨some 4, .assign (.const (.bool false)), none⟩])
   .ret) .skip))
   (.seq (.region false [⟨some 20, .move (.tmp 1) false, none⟩,
    ⟨some 21, .bin .rem (.tmp 20) (.const (.int .u8 (12))), none⟩,
    ⟨some 22, .conv .i64 (.tmp 21), none⟩,
    ⟨some 6, .assign (.tmp 22), none⟩])
   (.seq (.region false [⟨some 7, .assign (.const (.sl [] (some 34))), none⟩])
   (.seq (.region false [⟨some 23, .mkslice 1 8 [(.int .i64 (0))] (.const (.int .i64 (13))) (.const (.int .i64 (13))), none⟩,
    ⟨some 8, .assign (.tmp 23), none⟩])
   (.seq (.region false [⟨some 9, .assign (.const (.bool false)), none⟩])
   (.seq (.seq (.region false [⟨some 10, .assign (.const (.int .i64 (0))), none⟩])
   (.block 0 (.loop [16, 8, 15, 6, 13, 9, 7, 14, 10, 0, 1, 4] l9_0)))
   (.seq (.region false [⟨some 13, .assign (.const (.int .i64 (0))), none⟩])
   (.seq (.seq (.region false [⟨some 14, .assign (.const (.int .i64 (1))), none⟩])
   (.block 2 (.loop [16, 8, 15, 6, 13, 9, 7, 14, 10, 0, 1, 4] l9_1)))
   (.seq (.region false [⟨some 87, .move (.tmp 7) false, none⟩,
    ⟨some 88, .move (.tmp 6) false, none⟩,
    ⟨some 89, .call 26 [(.tmp 87), (.tmp 88), (.const (.int .i64 (100)))], none⟩,
    ⟨some 15, .alloc [(.int .i64 (0)), (.sl [] (some 4)), (.sl [] (some 55)), (.int .i64 (0))], none⟩,
    ⟨none, .store 4 (.tmp 15) (.tmp 89), none⟩])
   (.seq (.seq (.region false [⟨some 90, .move (.tmp 9) false, none⟩])
   (.cond (.tmp 90) (.seq (.region false [⟨some 91, .fieldAddr 0 (.tmp 15), none⟩,
    ⟨some 92, .load false 1 (.tmp 91) false, none⟩,
    ⟨some 93, .bin .eql (.tmp 92) (.const (.int .i64 (2))), none⟩,
    ⟨some 94, .move (.tmp 93) false, none⟩,
    ⟨some 95, .fieldAddr 3 (.tmp 15), some (94, true)⟩,
    ⟨some 96, .load false 1 (.tmp 95) false, some (94, true)⟩,
    ⟨some 97, .bin .eql (.tmp 96) (.const (.int .i64 (0))), some (94, true)⟩,
    ⟨some 98, .pick (.tmp 94) (.tmp 97) (.const (.bool false)), none⟩,
    ⟨some 4, .assign (.tmp 98), none⟩])
   .ret) .skip))
   (.seq (.seq (.region false [⟨some 99, .fieldAddr 0 (.tmp 15), none⟩,
    ⟨some 100, .load false 1 (.tmp 99) false, none⟩,
    ⟨some 101, .bin .neq (.tmp 100) (.const (.int .i64 (1))), none⟩,
    ⟨some 102, .move (.tmp 101) false, none⟩,
    ⟨some 103, .fieldAddr 3 (.tmp 15), some (102, false)⟩,
    ⟨some 104, .load false 1 (.tmp 103) false, some (102, false)⟩,
    ⟨some 105, .move (.tmp 13) false, some (102, false)⟩,
    ⟨some 106, .bin .neq (.tmp 104) (.tmp 105), some (102, false)⟩,
    ⟨some 107, .pick (.tmp 102) (.const (.bool true)) (.tmp 106), none⟩,
    ⟨some 108, .move (.tmp 107) false, none⟩,
    ⟨some 109, .fieldAddr 1 (.tmp 15), some (108, false)⟩,
    ⟨some 110, .load false 1 (.tmp 109) false, some (108, false)⟩,
    ⟨some 111, .len 0 (.tmp 110), some (108, false)⟩,
    ⟨some 112, .move (.tmp 6) false, some (108, false)⟩,
    ⟨some 113, .bin .neq (.tmp 111) (.tmp 112), some (108, false)⟩,
    ⟨some 114, .pick (.tmp 108) (.const (.bool true)) (.tmp 113), none⟩])
   (.cond (.tmp 114) (.seq (.region false [⟨some 4, .assign (.const (.bool false)), none⟩])
   .ret) .skip))
   (.seq (.seq (.region false [⟨some 16, .assign (.const (.int .i64 (1))), none⟩])
   (.block 4 (.loop [16, 8, 15, 6, 13, 9, 7, 14, 10, 0, 1, 4] l9_2)))
   (.seq (.region false [⟨some 4, .assign (.const (.bool true)), none⟩])
   .ret)))))))))))))))⟩


/-- 'chamberlain/chamberlainlaw21.ProofSolved' -/
def m10 : MFunc :=
  ⟨2, 45, [.tmp 4],
   (.seq (.region false [⟨some 4, .assign (.const (.bool false)), none⟩])
   (.seq (.region false [⟨some 8, .call 12 [], none⟩,
    ⟨some 5, .assign (.tmp 8), none⟩])
   (.seq (.seq (.region false [⟨some 9, .move (.tmp 5) false, none⟩,
    ⟨some 10, .un .not (.tmp 9), none⟩])
   (.cond (.tmp 10) (.seq (.region false [⟨some 4, .assign (.const (.bool false)), none⟩])
   .ret) .skip))
   (.seq (.region false [⟨some 11, .move (.tmp 0) false, none⟩,
    ⟨some 12, .call 13 [(.tmp 11)], none⟩,
    ⟨some 6, .assign (.tmp 12), none⟩])
   (.seq (.seq (.region false [⟨some 13, .move (.tmp 6) false, none⟩,
    ⟨some 14, .un .not (.tmp 13), none⟩,
    ⟨some 15, .move (.tmp 14) false, none⟩,
    ⟨some 16, .move (.tmp 1) false, some (15, false)⟩,
    ⟨some 17, .bin .gtr (.tmp 16) (.const (.int .i64 (12))), some (15, false)⟩,
    ⟨some 18, .pick (.tmp 15) (.const (.bool true)) (.tmp 17), none⟩,
    ⟨some 19, .move (.tmp 18) false, none⟩,
    ⟨some 20, .move (.tmp 0) false, some (19, false)⟩,
    ⟨some 21, .move (.tmp 1) false, some (19, false)⟩,
    ⟨some 22, .call 25 [(.tmp 20), (.tmp 21)], some (19, false)⟩,
    ⟨some 23, .bin .neq (.tmp 22) (.const (.int .i64 (0))), some (19, false)⟩,
    ⟨some 24, .pick (.tmp 19) (.const (.bool true)) (.tmp 23), none⟩])
   (.cond (.tmp 24) (.seq (.region false [⟨some 4, .assign (.const (.bool true)), none⟩])
   .ret) .skip))
   (.seq (.region false [⟨some 25, .move (.tmp 0) false, none⟩,
    ⟨some 26, .move (.tmp 1) false, none⟩,
    ⟨some 27, .call 26 [(.tmp 25), (.tmp 26), (.const (.int .i64 (1048576)))], none⟩,
    ⟨some 7, .alloc [(.int .i64 (0)), (.sl [] (some 4)), (.sl [] (some 55)), (.int .i64 (0))], none⟩,
    ⟨none, .store 4 (.tmp 7) (.tmp 27), none⟩])
   (.seq (.seq (.region false [⟨some 28, .fieldAddr 0 (.tmp 7), none⟩,
    ⟨some 29, .load false 1 (.tmp 28) false, none⟩,
    ⟨some 30, .bin .eql (.tmp 29) (.const (.int .i64 (2))), none⟩])
   (.cond (.tmp 30) (.seq (.region false [⟨some 31, .move (.tmp 0) false, none⟩,
    ⟨some 32, .fieldAddr 2 (.tmp 7), none⟩,
    ⟨some 33, .load false 1 (.tmp 32) false, none⟩,
    ⟨some 34, .call 17 [(.tmp 31), (.tmp 33)], none⟩,
    ⟨some 35, .bin .eql (.tmp 34) (.const (.int .i64 (0))), none⟩,
    ⟨some 4, .assign (.tmp 35), none⟩])
   .ret) .skip))
   (.seq (.region false [⟨some 36, .fieldAddr 0 (.tmp 7), none⟩,
    ⟨some 37, .load false 1 (.tmp 36) false, none⟩,
    ⟨some 38, .bin .eql (.tmp 37) (.const (.int .i64 (1))), none⟩,
    ⟨some 39, .move (.tmp 38) false, none⟩,
    ⟨some 40, .move (.tmp 0) false, some (39, true)⟩,
    ⟨some 41, .fieldAddr 1 (.tmp 7), some (39, true)⟩,
    ⟨some 42, .load false 1 (.tmp 41) false, some (39, true)⟩,
    ⟨some 43, .call 19 [(.tmp 40), (.tmp 42)], some (39, true)⟩,
    ⟨some 44, .pick (.tmp 39) (.tmp 43) (.const (.bool false)), none⟩,
    ⟨some 4, .assign (.tmp 44), none⟩])
   .ret))))))))⟩

def l11_0 : MCode :=
   (.seq (.seq (.region false [⟨some 54, .move (.tmp 13) false, none⟩,
    ⟨some 55, .fieldAddr 2 (.tmp 9), none⟩,
    ⟨some 56, .load false 1 (.tmp 55) false, none⟩,
    ⟨some 57, .len 0 (.tmp 56), none⟩,
    ⟨some 58, .bin .lss (.tmp 54) (.tmp 57), none⟩])
   (.cond (.tmp 58) .skip (.exit 0)))
   (.seq (.block 1 (.seq (.region false [⟨some 61, .fieldAddr 2 (.tmp 9), none⟩,
    ⟨some 62, .load false 1 (.tmp 61) false, none⟩,
    ⟨some 63, .move (.tmp 13) false, none⟩,
    ⟨some 64, .indexAddr 3 (.tmp 62) (.tmp 63), none⟩,
    ⟨some 65, .load true 3 (.tmp 64) false, none⟩,
    ⟨some 14, .alloc [(.int .i64 (0)), (.int .i64 (0)), (.int .i64 (0))], none⟩,
    ⟨none, .store 3 (.tmp 14) (.tmp 65), none⟩])
   (.seq (.seq (.region false [⟨some 66, .fieldAddr 0 (.tmp 14), none⟩,
    ⟨some 67, .load false 1 (.tmp 66) false, none⟩,
    ⟨some 68, .move (.tmp 10) false, none⟩,
    ⟨some 69, .bin .geq (.tmp 67) (.tmp 68), none⟩])
   (.cond (.tmp 69) (.region false [⟨some 70, .fieldAddr 0 (.tmp 14), none⟩,
    ⟨some 71, .load false 1 (.tmp 70) false, none⟩,
    ⟨some 72, .bin .add (.tmp 71) (.const (.int .i64 (1))), none⟩,
    ⟨some 73, .fieldAddr 0 (.tmp 14), none⟩,
    ⟨none, .store 1 (.tmp 73) (.tmp 72), none⟩]) .skip))
   (.seq (.seq (.region false [⟨some 74, .fieldAddr 1 (.tmp 14), none⟩,
    ⟨some 75, .load false 1 (.tmp 74) false, none⟩,
    ⟨some 76, .move (.tmp 10) false, none⟩,
    ⟨some 77, .bin .geq (.tmp 75) (.tmp 76), none⟩])
   (.cond (.tmp 77) (.region false [⟨some 78, .fieldAddr 1 (.tmp 14), none⟩,
    ⟨some 79, .load false 1 (.tmp 78) false, none⟩,
    ⟨some 80, .bin .add (.tmp 79) (.const (.int .i64 (1))), none⟩,
    ⟨some 81, .fieldAddr 1 (.tmp 14), none⟩,
    ⟨none, .store 1 (.tmp 81) (.tmp 80), none⟩]) .skip))
   (.region false [⟨some 82, .move (.tmp 12) true, none⟩,
    ⟨some 83, .load true 3 (.tmp 14) false, none⟩,
    ⟨some 84, .buildSlice 55 3 1 [(.int .i64 (0)), (.int .i64 (0)), (.int .i64 (0))] [(0, (.tmp 83))], none⟩,
    ⟨some 85, .append 55 3 24 false (.tmp 82) (.tmp 84), none⟩,
    ⟨some 12, .assign (.tmp 85), none⟩])))))
   (.region false [⟨some 59, .move (.tmp 13) false, none⟩,
    ⟨some 60, .bin .add (.tmp 59) (.const (.int .i64 (1))), none⟩,
    ⟨some 13, .assign (.tmp 60), none⟩])))

def l11_1 : MCode :=
   (.seq (.seq (.region false [⟨some 86, .move (.tmp 16) false, none⟩,
    ⟨some 87, .move (.tmp 10) false, none⟩,
    ⟨some 88, .bin .lss (.tmp 86) (.tmp 87), none⟩])
   (.cond (.tmp 88) .skip (.exit 2)))
   (.seq (.block 3 (.region false [⟨some 91, .move (.tmp 15) false, none⟩,
    ⟨some 92, .move (.tmp 91) false, none⟩,
    ⟨some 93, .move (.tmp 0) false, some (92, false)⟩,
    ⟨some 94, .move (.tmp 16) false, some (92, false)⟩,
    ⟨some 95, .indexAddr 1 (.tmp 93) (.tmp 94), some (92, false)⟩,
    ⟨some 96, .load false 1 (.tmp 95) false, some (92, false)⟩,
    ⟨some 97, .len 0 (.tmp 96), some (92, false)⟩,
    ⟨some 98, .bin .eql (.tmp 97) (.const (.int .i64 (0))), some (92, false)⟩,
    ⟨some 99, .pick (.tmp 92) (.const (.bool true)) (.tmp 98), none⟩,
    ⟨some 15, .assign (.tmp 99), none⟩]))
   (.region false [⟨some 89, .move (.tmp 16) false, none⟩,
    ⟨some 90, .bin .add (.tmp 89) (.const (.int .i64 (1))), none⟩,
    ⟨some 16, .assign (.tmp 90), none⟩])))

/-- 'chamberlain/chamberlainlaw21.ProofLess' -/
def m11 : MFunc :=
  ⟨3, 123, [.tmp 6],
   (.seq (.region false [⟨some 6, .assign (.const (.bool false)), none⟩])
   (.seq (.region false [⟨some 17, .call 12 [], none⟩,
    ⟨some 7, .assign (.tmp 17), none⟩])
   (.seq (.seq (.region false [⟨some 18, .move (.tmp 7) false, none⟩,
    ⟨some 19, .un .not (.tmp 18), none⟩])
   (.cond (.tmp 19) (.seq (.region false [⟨some 6, .assign (.const (.bool false)), none⟩])
   .ret) .skip))
   (.seq (.region false [⟨some 20, .move (.tmp 0) false, none⟩,
    ⟨some 21, .call 13 [(.tmp 20)], none⟩,
    ⟨some 8, .assign (.tmp 21), none⟩])
   (.seq (.seq (.region false [⟨some 22, .move (.tmp 8) false, none⟩,
    ⟨some 23, .un .not (.tmp 22), none⟩,
    ⟨some 24, .move (.tmp 23) false, none⟩,
    ⟨some 25, .move (.tmp 1) false, some (24, false)⟩,
    ⟨some 26, .bin .gtr (.tmp 25) (.const (.int .i64 (9))), some (24, false)⟩,
    ⟨some 27, .pick (.tmp 24) (.const (.bool true)) (.tmp 26), none⟩,
    ⟨some 28, .move (.tmp 27) false, none⟩,
    ⟨some 29, .move (.tmp 2) false, some (28, false)⟩,
    ⟨some 30, .len 0 (.tmp 29), some (28, false)⟩,
    ⟨some 31, .bin .gtr (.tmp 30) (.const (.int .i64 (12))), some (28, false)⟩,
    ⟨some 32, .pick (.tmp 28) (.const (.bool true)) (.tmp 31), none⟩,
    ⟨some 33, .move (.tmp 32) false, none⟩,
    ⟨some 34, .move (.tmp 0) false, some (33, false)⟩,
    ⟨some 35, .move (.tmp 1) false, some (33, false)⟩,
    ⟨some 36, .call 25 [(.tmp 34), (.tmp 35)], some (33, false)⟩,
    ⟨some 37, .bin .neq (.tmp 36) (.const (.int .i64 (0))), some (33, false)⟩,
    ⟨some 38, .pick (.tmp 33) (.const (.bool true)) (.tmp 37), none⟩])
   (.cond (.tmp 38) (.seq (.region false [⟨some 6, .assign (.const (.bool true)), none⟩])
   .ret) .skip))
   (.seq (.region false [⟨some 39, .move (.tmp 0) false, none⟩,
    ⟨some 40, .move (.tmp 1) false, none⟩,
    ⟨some 41, .call 26 [(.tmp 39), (.tmp 40), (.const (.int .i64 (1048576)))], none⟩,
    ⟨some 9, .alloc [(.int .i64 (0)), (.sl [] (some 4)), (.sl [] (some 55)), (.int .i64 (0))], none⟩,
    ⟨none, .store 4 (.tmp 9) (.tmp 41), none⟩])
   (.seq (.seq (.region false [⟨some 42, .fieldAddr 0 (.tmp 9), none⟩,
    ⟨some 43, .load false 1 (.tmp 42) false, none⟩,
    ⟨some 44, .bin .neq (.tmp 43) (.const (.int .i64 (2))), none⟩])
   (.cond (.tmp 44) (.seq (.region false [⟨some 6, .assign (.const (.bool true)), none⟩])
   .ret) .skip))
   (.seq (.region false [⟨some 45, .move (.tmp 0) false, none⟩,
    ⟨some 46, .len 0 (.tmp 45), none⟩,
    ⟨some 10, .assign (.tmp 46), none⟩])
   (.seq (.region false [⟨some 11, .assign (.const (.sl [] (some 34))), none⟩])
   (.seq (.region false [⟨some 47, .move (.tmp 11) true, none⟩,
    ⟨some 48, .move (.tmp 0) false, none⟩,
    ⟨some 49, .append 34 1 24 false (.tmp 47) (.tmp 48), none⟩,
    ⟨some 11, .assign (.tmp 49), none⟩])
   (.seq (.region false [⟨some 50, .move (.tmp 11) true, none⟩,
    ⟨some 51, .move (.tmp 2) false, none⟩,
    ⟨some 52, .buildSlice 34 1 1 [(.sl [] (some 3))] [(0, (.tmp 51))], none⟩,
    ⟨some 53, .append 34 1 24 false (.tmp 50) (.tmp 52), none⟩,
    ⟨some 11, .assign (.tmp 53), none⟩])
   (.seq (.region false [⟨some 12, .assign (.const (.sl [] (some 55))), none⟩])
   (.seq (.seq (.region false [⟨some 13, .assign (.const (.int .i64 (0))), none⟩])
   (.block 0 (.loop [0, 9, 15, 12, 11, 16, 10, 13, 2, 1, 6] l11_0)))
   (.seq (.region false [⟨some 15, .assign (.const (.bool false)), none⟩])
   (.seq (.seq (.region false [⟨some 16, .assign (.const (.int .i64 (0))), none⟩])
   (.block 2 (.loop [0, 9, 15, 12, 11, 16, 10, 13, 2, 1, 6] l11_1)))
   (.seq (.seq (.region false [⟨some 100, .move (.tmp 11) false, none⟩,
    ⟨some 101, .move (.tmp 12) false, none⟩,
    ⟨some 102, .call 17 [(.tmp 100), (.tmp 101)], none⟩,
    ⟨some 103, .bin .neq (.tmp 102) (.const (.int .i64 (0))), none⟩,
    ⟨some 104, .move (.tmp 103) false, none⟩,
    ⟨some 105, .move (.tmp 0) false, some (104, false)⟩,
    ⟨some 106, .fieldAddr 2 (.tmp 9), some (104, false)⟩,
    ⟨some 107, .load false 1 (.tmp 106) false, some (104, false)⟩,
    ⟨some 108, .call 17 [(.tmp 105), (.tmp 107)], some (104, false)⟩,
    ⟨some 109, .bin .neq (.tmp 108) (.const (.int .i64 (0))), some (104, false)⟩,
    ⟨some 110, .pick (.tmp 104) (.const (.bool true)) (.tmp 109), none⟩])
   (.cond (.tmp 110) (.seq (.region false [⟨some 6, .assign (.const (.bool false)), none⟩])
   .ret) .skip))
   (.seq (.region false [⟨some 111, .move (.tmp 15) false, none⟩,
    ⟨some 112, .move (.tmp 111) false, none⟩,
    ⟨some 113, .fieldAddr 2 (.tmp 9), some (112, false)⟩,
    ⟨some 114, .load false 1 (.tmp 113) false, some (112, false)⟩,
    ⟨some 115, .call 17 [(.const (.sl [] none)), (.tmp 114)], some (112, false)⟩,
    ⟨some 116, .bin .eql (.tmp 115) (.const (.int .i64 (50))), some (112, false)⟩,
    ⟨some 117, .move (.tmp 116) false, some (112, false)⟩,
    ⟨some 118, .move (.tmp 0) false, some (117, true)⟩,
    ⟨some 119, .call 17 [(.tmp 118), (.const (.sl [] none))], some (117, true)⟩,
    ⟨some 120, .bin .eql (.tmp 119) (.const (.int .i64 (50))), some (117, true)⟩,
    ⟨some 121, .pick (.tmp 117) (.tmp 120) (.const (.bool false)), some (112, false)⟩,
    ⟨some 122, .pick (.tmp 112) (.const (.bool true)) (.tmp 121), none⟩,
    ⟨some 6, .assign (.tmp 122), none⟩])
   .ret)))))))))))))))))⟩


/-- 'chamberlain/chamberlainlaw21.awake' -/
def m12 : MFunc :=
  ⟨0, 75, [.tmp 0],
   (.seq (.region false [⟨some 0, .assign (.const (.bool false)), none⟩])
   (.seq (.region false [⟨some 8, .buildSlice 3 1 2 [(.int .i64 (0))] [(0, (.const (.int .i64 (1)))), (1, (.const (.int .i64 (2))))], none⟩,
    ⟨some 9, .buildSlice 3 1 2 [(.int .i64 (0))] [(0, (.const (.int .i64 (-1)))), (1, (.const (.int .i64 (3))))], none⟩,
    ⟨some 10, .call 20 [(.tmp 8), (.tmp 9), (.const (.int .i64 (1)))], none⟩,
    ⟨some 7, .move (.tmp 10) false, none⟩,
    ⟨some 11, .extract (.tmp 7) 0, none⟩,
    ⟨some 12, .extract (.tmp 7) 1, none⟩,
    ⟨some 1, .assign (.tmp 11), none⟩,
    ⟨some 2, .assign (.tmp 12), none⟩])
   (.seq (.region false [⟨some 14, .buildSlice 3 1 1 [(.int .i64 (0))] [(0, (.const (.int .i64 (1))))], none⟩,
    ⟨some 15, .buildSlice 3 1 1 [(.int .i64 (0))] [(0, (.const (.int .i64 (1))))], none⟩,
    ⟨some 16, .call 20 [(.tmp 14), (.tmp 15), (.const (.int .i64 (1)))], none⟩,
    ⟨some 13, .move (.tmp 16) false, none⟩,
    ⟨some 17, .extract (.tmp 13) 0, none⟩,
    ⟨some 18, .extract (.tmp 13) 1, none⟩,
    ⟨some 3, .assign (.tmp 17), none⟩,
    ⟨some 4, .assign (.tmp 18), none⟩])
   (.seq (.region false [⟨some 20, .buildSlice 3 1 1 [(.int .i64 (0))] [(0, (.const (.int .i64 (1))))], none⟩,
    ⟨some 21, .buildSlice 3 1 1 [(.int .i64 (0))] [(0, (.const (.int .i64 (-1))))], none⟩,
    ⟨some 22, .buildSlice 34 1 2 [(.sl [] (some 3))] [(0, (.tmp 20)), (1, (.tmp 21))], none⟩,
    ⟨some 23, .build [(.int .i64 (0)), (.int .i64 (0)), (.int .i64 (0))] [(0, 1, (.const (.int .i64 (0)))), (1, 1, (.const (.int .i64 (1)))), (2, 1, (.const (.int .i64 (1))))], none⟩,
    ⟨some 24, .buildSlice 55 3 1 [(.int .i64 (0)), (.int .i64 (0)), (.int .i64 (0))] [(0, (.tmp 23))], none⟩,
    ⟨some 25, .call 14 [(.tmp 22), (.tmp 24)], none⟩,
    ⟨some 19, .move (.tmp 25) false, none⟩,
    ⟨some 26, .extract (.tmp 19) 0, none⟩,
    ⟨some 27, .extract (.tmp 19) 1, none⟩,
    ⟨some 5, .assign (.tmp 26), none⟩,
    ⟨some 6, .assign (.tmp 27), none⟩])
   (.seq (.region false [⟨some 28, .move (.tmp 1) false, none⟩,
    ⟨some 29, .len 0 (.tmp 28), none⟩,
    ⟨some 30, .bin .eql (.tmp 29) (.const (.int .i64 (2))), none⟩,
    ⟨some 31, .move (.tmp 30) false, none⟩,
    ⟨some 32, .move (.tmp 1) false, some (31, true)⟩,
    ⟨some 33, .indexAddr 1 (.tmp 32) (.const (.int .i64 (0))), some (31, true)⟩,
    ⟨some 34, .load false 1 (.tmp 33) false, some (31, true)⟩,
    ⟨some 35, .bin .eql (.tmp 34) (.const (.int .i64 (2))), some (31, true)⟩,
    ⟨some 36, .pick (.tmp 31) (.tmp 35) (.const (.bool false)), none⟩,
    ⟨some 37, .move (.tmp 36) false, none⟩,
    ⟨some 38, .move (.tmp 1) false, some (37, true)⟩,
    ⟨some 39, .indexAddr 1 (.tmp 38) (.const (.int .i64 (1))), some (37, true)⟩,
    ⟨some 40, .load false 1 (.tmp 39) false, some (37, true)⟩,
    ⟨some 41, .bin .eql (.tmp 40) (.const (.int .i64 (3))), some (37, true)⟩,
    ⟨some 42, .pick (.tmp 37) (.tmp 41) (.const (.bool false)), none⟩,
    ⟨some 43, .move (.tmp 42) false, none⟩,
    ⟨some 44, .move (.tmp 2) false, some (43, true)⟩,
    ⟨some 45, .bin .eql (.tmp 44) (.const (.int .i64 (0))), some (43, true)⟩,
    ⟨some 46, .pick (.tmp 43) (.tmp 45) (.const (.bool false)), none⟩,
    ⟨some 47, .move (.tmp 46) false, none⟩,
    ⟨some 48, .move (.tmp 4) false, some (47, true)⟩,
    ⟨some 49, .bin .eql (.tmp 48) (.const (.int .i64 (50))), some (47, true)⟩,
    ⟨some 50, .pick (.tmp 47) (.tmp 49) (.const (.bool false)), none⟩,
    ⟨some 51, .move (.tmp 50) false, none⟩,
    ⟨some 52, .move (.tmp 5) false, some (51, true)⟩,
    ⟨some 53, .len 0 (.tmp 52), some (51, true)⟩,
    ⟨some 54, .bin .eql (.tmp 53) (.const (.int .i64 (3))), some (51, true)⟩,
    ⟨some 55, .pick (.tmp 51) (.tmp 54) (.const (.bool false)), none⟩,
    ⟨some 56, .move (.tmp 55) false, none⟩,
    ⟨some 57, .move (.tmp 6) false, some (56, true)⟩,
    ⟨some 58, .bin .eql (.tmp 57) (.const (.int .i64 (0))), some (56, true)⟩,
    ⟨some 59, .pick (.tmp 56) (.tmp 58) (.const (.bool false)), none⟩,
    ⟨some 60, .move (.tmp 59) false, none⟩,
    ⟨some 61, .buildSlice 3 1 1 [(.int .i64 (0))] [(0, (.const (.int .i64 (1))))], some (60, true)⟩,
    ⟨some 62, .buildSlice 3 1 1 [(.int .i64 (0))] [(0, (.const (.int .i64 (-1))))], some (60, true)⟩,
    ⟨some 63, .buildSlice 34 1 2 [(.sl [] (some 3))] [(0, (.tmp 61)), (1, (.tmp 62))], some (60, true)⟩,
    ⟨some 64, .build [(.int .i64 (0)), (.int .i64 (0)), (.int .i64 (0))] [(0, 1, (.const (.int .i64 (0)))), (1, 1, (.const (.int .i64 (1)))), (2, 1, (.const (.int .i64 (1))))], some (60, true)⟩,
    ⟨some 65, .buildSlice 55 3 1 [(.int .i64 (0)), (.int .i64 (0)), (.int .i64 (0))] [(0, (.tmp 64))], some (60, true)⟩,
    ⟨some 66, .call 17 [(.tmp 63), (.tmp 65)], some (60, true)⟩,
    ⟨some 67, .bin .eql (.tmp 66) (.const (.int .i64 (0))), some (60, true)⟩,
    ⟨some 68, .pick (.tmp 60) (.tmp 67) (.const (.bool false)), none⟩,
    ⟨some 69, .move (.tmp 68) false, none⟩,
    ⟨some 70, .buildSlice 3 1 1 [(.int .i64 (0))] [(0, (.const (.int .i64 (1))))], some (69, true)⟩,
    ⟨some 71, .buildSlice 34 1 1 [(.sl [] (some 3))] [(0, (.tmp 70))], some (69, true)⟩,
    ⟨some 72, .call 17 [(.tmp 71), (.const (.sl [] none))], some (69, true)⟩,
    ⟨some 73, .bin .eql (.tmp 72) (.const (.int .i64 (50))), some (69, true)⟩,
    ⟨some 74, .pick (.tmp 69) (.tmp 73) (.const (.bool false)), none⟩,
    ⟨some 0, .assign (.tmp 74), none⟩])
   .ret)))))⟩

def l13_0 : MCode :=
   (.seq (.seq (.region false [⟨some 7, .move (.tmp 3) false, none⟩,
    ⟨some 8, .move (.tmp 0) false, none⟩,
    ⟨some 9, .len 0 (.tmp 8), none⟩,
    ⟨some 10, .bin .lss (.tmp 7) (.tmp 9), none⟩])
   (.cond (.tmp 10) .skip (.exit 0)))
   (.seq (.block 1 (.seq (.region false [⟨some 13, .move (.tmp 0) false, none⟩,
    ⟨some 14, .move (.tmp 3) false, none⟩,
    ⟨some 15, .indexAddr 1 (.tmp 13) (.tmp 14), none⟩,
    ⟨some 16, .load false 1 (.tmp 15) false, none⟩,
    ⟨some 17, .len 0 (.tmp 16), none⟩,
    ⟨some 18, .bin .gtr (.tmp 17) (.const (.int .i64 (12))), none⟩])
   (.cond (.tmp 18) (.seq (.region false [⟨some 2, .assign (.const (.bool false)), none⟩])
   .ret) .skip)))
   (.region false [⟨some 11, .move (.tmp 3) false, none⟩,
    ⟨some 12, .bin .add (.tmp 11) (.const (.int .i64 (1))), none⟩,
    ⟨some 3, .assign (.tmp 12), none⟩])))

/-- 'chamberlain/chamberlainlaw21.tidy' -/
def m13 : MFunc :=
  ⟨1, 19, [.tmp 2],
   (.seq (.region false [⟨some 2, .assign (.const (.bool false)), none⟩])
   (.seq (.seq (.region false [⟨some 4, .move (.tmp 0) false, none⟩,
    ⟨some 5, .len 0 (.tmp 4), none⟩,
    ⟨some 6, .bin .gtr (.tmp 5) (.const (.int .i64 (60))), none⟩])
   (.cond (.tmp 6) (.seq (.region false [⟨some 2, .assign (.const (.bool false)), none⟩])
   .ret) .skip))
   (.seq (.seq (.region false [⟨some 3, .assign (.const (.int .i64 (0))), none⟩])
   (.block 0 (.loop [3, 0, 2] l13_0)))
   (.seq (.region false [⟨some 2, .assign (.const (.bool true)), none⟩])
   .ret))))⟩

def l14_0 : MCode :=
   (.seq (.region false [⟨some 17, .bin .lss (.tmp 16) (.tmp 15), none⟩])
   (.seq (.cond (.tmp 17) .skip (.exit 0))
   (.seq (.block 1 (.seq (.region false [⟨some 18, .indexAddr 1 (.tmp 14) (.tmp 16), none⟩,
    ⟨some 19, .load false 1 (.tmp 18) false, none⟩,
    ⟨some 8, .assign (.tmp 19), none⟩])
   (.region false [⟨some 20, .move (.tmp 6) true, none⟩,
    ⟨some 21, .move (.tmp 8) false, none⟩,
    ⟨some 22, .call 28 [(.tmp 21)], none⟩,
    ⟨some 23, .buildSlice 34 1 1 [(.sl [] (some 3))] [(0, (.tmp 22))], none⟩,
    ⟨some 24, .append 34 1 24 false (.tmp 20) (.tmp 23), none⟩,
    ⟨some 6, .assign (.tmp 24), none⟩])))
   (.region false [⟨some 25, .bin .add (.tmp 16) (.const (.int .i64 (1))), none⟩,
    ⟨some 16, .move (.tmp 25) false, none⟩]))))

def l14_1 : MCode :=
   (.seq (.region false [⟨some 29, .bin .lss (.tmp 28) (.tmp 27), none⟩])
   (.seq (.cond (.tmp 29) .skip (.exit 2))
   (.seq (.block 3 (.seq (.region false [⟨some 30, .indexAddr 3 (.tmp 26) (.tmp 28), none⟩,
    ⟨some 31, .load true 3 (.tmp 30) false, none⟩,
    ⟨some 10, .alloc [(.int .i64 (0)), (.int .i64 (0)), (.int .i64 (0))], none⟩,
    ⟨none, .store 3 (.tmp 10) (.tmp 31), none⟩])
   (.seq (.seq (.region false [⟨some 32, .move (.tmp 6) false, none⟩,
    ⟨some 33, .len 0 (.tmp 32), none⟩,
    ⟨some 11, .assign (.tmp 33), none⟩])
   (.seq (.region false [⟨some 34, .fieldAddr 0 (.tmp 10), none⟩,
    ⟨some 35, .load false 1 (.tmp 34) false, none⟩,
    ⟨some 36, .bin .lss (.tmp 35) (.const (.int .i64 (0))), none⟩,
    ⟨some 37, .move (.tmp 36) false, none⟩,
    ⟨some 38, .fieldAddr 0 (.tmp 10), some (37, false)⟩,
    ⟨some 39, .load false 1 (.tmp 38) false, some (37, false)⟩,
    ⟨some 40, .move (.tmp 11) false, some (37, false)⟩,
    ⟨some 41, .bin .geq (.tmp 39) (.tmp 40), some (37, false)⟩,
    ⟨some 42, .pick (.tmp 37) (.const (.bool true)) (.tmp 41), none⟩,
    ⟨some 43, .move (.tmp 42) false, none⟩,
    ⟨some 44, .fieldAddr 1 (.tmp 10), some (43, false)⟩,
    ⟨some 45, .load false 1 (.tmp 44) false, some (43, false)⟩,
    ⟨some 46, .bin .lss (.tmp 45) (.const (.int .i64 (0))), some (43, false)⟩,
    ⟨some 47, .pick (.tmp 43) (.const (.bool true)) (.tmp 46), none⟩,
    ⟨some 48, .move (.tmp 47) false, none⟩,
    ⟨some 49, .fieldAddr 1 (.tmp 10), some (48, false)⟩,
    ⟨some 50, .load false 1 (.tmp 49) false, some (48, false)⟩,
    ⟨some 51, .move (.tmp 11) false, some (48, false)⟩,
    ⟨some 52, .bin .geq (.tmp 50) (.tmp 51), some (48, false)⟩,
    ⟨some 53, .pick (.tmp 48) (.const (.bool true)) (.tmp 52), none⟩])
   (.cond (.tmp 53) (.seq (.region false [⟨some 4, .assign (.const (.sl [] (some 34))), none⟩,
    ⟨some 5, .assign (.const (.int .i64 (50))), none⟩])
   .ret) .skip)))
   (.seq (.region false [⟨some 55, .move (.tmp 6) false, none⟩,
    ⟨some 56, .fieldAddr 0 (.tmp 10), none⟩,
    ⟨some 57, .load false 1 (.tmp 56) false, none⟩,
    ⟨some 58, .indexAddr 1 (.tmp 55) (.tmp 57), none⟩,
    ⟨some 59, .load false 1 (.tmp 58) false, none⟩,
    ⟨some 60, .move (.tmp 6) false, none⟩,
    ⟨some 61, .fieldAddr 1 (.tmp 10), none⟩,
    ⟨some 62, .load false 1 (.tmp 61) false, none⟩,
    ⟨some 63, .indexAddr 1 (.tmp 60) (.tmp 62), none⟩,
    ⟨some 64, .load false 1 (.tmp 63) false, none⟩,
    ⟨some 65, .fieldAddr 2 (.tmp 10), none⟩,
    ⟨some 66, .load false 1 (.tmp 65) false, none⟩,
    ⟨some 67, .call 20 [(.tmp 59), (.tmp 64), (.tmp 66)], none⟩,
    ⟨some 54, .move (.tmp 67) false, none⟩,
    ⟨some 68, .extract (.tmp 54) 0, none⟩,
    ⟨some 69, .extract (.tmp 54) 1, none⟩,
    ⟨some 12, .assign (.tmp 68), none⟩,
    ⟨some 13, .assign (.tmp 69), none⟩])
   (.seq (.seq (.region false [⟨some 70, .move (.tmp 13) false, none⟩,
    ⟨some 71, .bin .neq (.tmp 70) (.const (.int .i64 (0))), none⟩])
   (.cond (.tmp 71) (.seq (.region false [⟨some 72, .move (.tmp 13) false, none⟩,
    ⟨some 4, .assign (.const (.sl [] (some 34))), none⟩,
    ⟨some 5, .assign (.tmp 72), none⟩])
   .ret) .skip))
   (.region false [⟨some 73, .move (.tmp 6) true, none⟩,
    ⟨some 74, .move (.tmp 12) false, none⟩,
    ⟨some 75, .buildSlice 34 1 1 [(.sl [] (some 3))] [(0, (.tmp 74))], none⟩,
    ⟨some 76, .append 34 1 24 false (.tmp 73) (.tmp 75), none⟩,
    ⟨some 6, .assign (.tmp 76), none⟩]))))))
   (.region false [⟨some 77, .bin .add (.tmp 28) (.const (.int .i64 (1))), none⟩,
    ⟨some 28, .move (.tmp 77) false, none⟩]))))

/-- 'chamberlain/proof.All' -/
def m14 : MFunc :=
  ⟨2, 79, [.tmp 4, .tmp 5],
   (.seq (.region false [⟨some 4, .assign (.const (.sl [] (some 34))), none⟩,
    ⟨some 5, .assign (.const (.int .i64 (0))), none⟩])
   (.seq (.region false [⟨some 6, .assign (.const (.sl [] (some 34))), none⟩])
   (.seq (.seq (.region false [⟨some 14, .move (.tmp 0) false, none⟩,
    ⟨some 15, .len 0 (.tmp 14), none⟩,
    ⟨some 16, .move (.const (.int .i64 (0))) false, none⟩])
   (.block 0 (.loop [6, 28, 26, 27, 1, 16, 14, 15, 0, 4, 5] l14_0)))
   (.seq (.seq (.region false [⟨some 26, .move (.tmp 1) false, none⟩,
    ⟨some 27, .len 0 (.tmp 26), none⟩,
    ⟨some 28, .move (.const (.int .i64 (0))) false, none⟩])
   (.block 2 (.loop [6, 28, 26, 27, 1, 16, 14, 15, 0, 4, 5] l14_1)))
   (.seq (.region false [⟨some 78, .move (.tmp 6) false, none⟩,
    ⟨some 4, .assign (.tmp 78), none⟩,
    ⟨some 5, .assign (.const (.int .i64 (0))), none⟩])
   .ret)))))⟩

def l15_0 : MCode :=
   (.seq (.seq (.region false [⟨some 14, .move (.tmp 7) false, none⟩,
    ⟨some 15, .move (.tmp 1) false, none⟩,
    ⟨some 16, .len 0 (.tmp 15), none⟩,
    ⟨some 17, .bin .lss (.tmp 14) (.tmp 16), none⟩])
   (.cond (.tmp 17) .skip (.exit 0)))
   (.seq (.block 1 (.seq (.region false [⟨some 20, .move (.tmp 1) false, none⟩,
    ⟨some 21, .move (.tmp 7) false, none⟩,
    ⟨some 22, .indexAddr 3 (.tmp 20) (.tmp 21), none⟩,
    ⟨some 23, .load true 3 (.tmp 22) false, none⟩,
    ⟨some 8, .alloc [(.int .i64 (0)), (.int .i64 (0)), (.int .i64 (0))], none⟩,
    ⟨none, .store 3 (.tmp 8) (.tmp 23), none⟩])
   (.seq (.seq (.region false [⟨some 24, .fieldAddr 0 (.tmp 8), none⟩,
    ⟨some 25, .load false 1 (.tmp 24) false, none⟩,
    ⟨some 26, .bin .lss (.tmp 25) (.const (.int .i64 (0))), none⟩,
    ⟨some 27, .move (.tmp 26) false, none⟩,
    ⟨some 28, .fieldAddr 1 (.tmp 8), some (27, false)⟩,
    ⟨some 29, .load false 1 (.tmp 28) false, some (27, false)⟩,
    ⟨some 30, .bin .lss (.tmp 29) (.const (.int .i64 (0))), some (27, false)⟩,
    ⟨some 31, .pick (.tmp 27) (.const (.bool true)) (.tmp 30), none⟩,
    ⟨some 32, .move (.tmp 31) false, none⟩,
    ⟨some 33, .fieldAddr 0 (.tmp 8), some (32, false)⟩,
    ⟨some 34, .load false 1 (.tmp 33) false, some (32, false)⟩,
    ⟨some 35, .move (.tmp 6) false, some (32, false)⟩,
    ⟨some 36, .len 0 (.tmp 35), some (32, false)⟩,
    ⟨some 37, .bin .geq (.tmp 34) (.tmp 36), some (32, false)⟩,
    ⟨some 38, .pick (.tmp 32) (.const (.bool true)) (.tmp 37), none⟩,
    ⟨some 39, .move (.tmp 38) false, none⟩,
    ⟨some 40, .fieldAddr 1 (.tmp 8), some (39, false)⟩,
    ⟨some 41, .load false 1 (.tmp 40) false, some (39, false)⟩,
    ⟨some 42, .move (.tmp 6) false, some (39, false)⟩,
    ⟨some 43, .len 0 (.tmp 42), some (39, false)⟩,
    ⟨some 44, .bin .geq (.tmp 41) (.tmp 43), some (39, false)⟩,
    ⟨some 45, .pick (.tmp 39) (.const (.bool true)) (.tmp 44), none⟩])
   (.cond (.tmp 45) (.seq (.region false [⟨some 4, .assign (.const (.sl [] (some 34))), none⟩,
    ⟨some 5, .assign (.const (.int .i64 (50))), none⟩])
   .ret) .skip))
   (.seq (.region false [⟨some 47, .move (.tmp 6) false, none⟩,
    ⟨some 48, .fieldAddr 0 (.tmp 8), none⟩,
    ⟨some 49, .load false 1 (.tmp 48) false, none⟩,
    ⟨some 50, .indexAddr 1 (.tmp 47) (.tmp 49), none⟩,
    ⟨some 51, .load false 1 (.tmp 50) false, none⟩,
    ⟨some 52, .move (.tmp 6) false, none⟩,
    ⟨some 53, .fieldAddr 1 (.tmp 8), none⟩,
    ⟨some 54, .load false 1 (.tmp 53) false, none⟩,
    ⟨some 55, .indexAddr 1 (.tmp 52) (.tmp 54), none⟩,
    ⟨some 56, .load false 1 (.tmp 55) false, none⟩,
    ⟨some 57, .fieldAddr 2 (.tmp 8), none⟩,
    ⟨some 58, .load false 1 (.tmp 57) false, none⟩,
    ⟨some 59, .call 21 [(.tmp 51), (.tmp 56), (.tmp 58)], none⟩,
    ⟨some 46, .move (.tmp 59) false, none⟩,
    ⟨some 60, .extract (.tmp 46) 0, none⟩,
    ⟨some 61, .extract (.tmp 46) 1, none⟩,
    ⟨some 9, .assign (.tmp 60), none⟩,
    ⟨some 10, .assign (.tmp 61), none⟩])
   (.seq (.seq (.region false [⟨some 62, .move (.tmp 10) false, none⟩,
    ⟨some 63, .bin .neq (.tmp 62) (.const (.int .i64 (0))), none⟩])
   (.cond (.tmp 63) (.seq (.region false [⟨some 64, .move (.tmp 10) false, none⟩,
    ⟨some 4, .assign (.const (.sl [] (some 34))), none⟩,
    ⟨some 5, .assign (.tmp 64), none⟩])
   .ret) .skip))
   (.region false [⟨some 65, .move (.tmp 6) true, none⟩,
    ⟨some 66, .move (.tmp 9) false, none⟩,
    ⟨some 67, .buildSlice 34 1 1 [(.sl [] (some 3))] [(0, (.tmp 66))], none⟩,
    ⟨some 68, .append 34 1 24 false (.tmp 65) (.tmp 67), none⟩,
    ⟨some 6, .assign (.tmp 68), none⟩]))))))
   (.region false [⟨some 18, .move (.tmp 7) false, none⟩,
    ⟨some 19, .bin .add (.tmp 18) (.const (.int .i64 (1))), none⟩,
    ⟨some 7, .assign (.tmp 19), none⟩])))

/-- 'chamberlain/chamberlainref21.All' -/
def m15 : MFunc :=
  ⟨2, 70, [.tmp 4, .tmp 5],
   (.seq (.region false [⟨some 4, .assign (.const (.sl [] (some 34))), none⟩,
    ⟨some 5, .assign (.const (.int .i64 (0))), none⟩])
   (.seq (.region false [⟨some 6, .assign (.const (.sl [] (some 34))), none⟩])
   (.seq (.region false [⟨some 11, .move (.tmp 6) true, none⟩,
    ⟨some 12, .move (.tmp 0) false, none⟩,
    ⟨some 13, .append 34 1 24 false (.tmp 11) (.tmp 12), none⟩,
    ⟨some 6, .assign (.tmp 13), none⟩])
   (.seq (.seq (.region false [⟨some 7, .assign (.const (.int .i64 (0))), none⟩])
   (.block 0 (.loop [6, 7, 1, 0, 4, 5] l15_0)))
   (.seq (.region false [⟨some 69, .move (.tmp 6) false, none⟩,
    ⟨some 4, .assign (.tmp 69), none⟩,
    ⟨some 5, .assign (.const (.int .i64 (0))), none⟩])
   .ret)))))⟩

def l16_0 : MCode :=
   (.seq (.seq (.region false [⟨some 5, .move (.tmp 4) false, none⟩,
    ⟨some 6, .move (.tmp 0) false, none⟩,
    ⟨some 7, .len 0 (.tmp 6), none⟩,
    ⟨some 8, .bin .lss (.tmp 5) (.tmp 7), none⟩])
   (.cond (.tmp 8) .skip (.exit 0)))
   (.seq (.block 1 (.region false [⟨some 11, .move (.tmp 3) true, none⟩,
    ⟨some 12, .move (.tmp 0) false, none⟩,
    ⟨some 13, .move (.tmp 4) false, none⟩,
    ⟨some 14, .indexAddr 3 (.tmp 12) (.tmp 13), none⟩,
    ⟨some 15, .fieldAddr 0 (.tmp 14), none⟩,
    ⟨some 16, .load false 1 (.tmp 15) false, none⟩,
    ⟨some 17, .move (.tmp 0) false, none⟩,
    ⟨some 18, .move (.tmp 4) false, none⟩,
    ⟨some 19, .indexAddr 3 (.tmp 17) (.tmp 18), none⟩,
    ⟨some 20, .fieldAddr 1 (.tmp 19), none⟩,
    ⟨some 21, .load false 1 (.tmp 20) false, none⟩,
    ⟨some 22, .move (.tmp 0) false, none⟩,
    ⟨some 23, .move (.tmp 4) false, none⟩,
    ⟨some 24, .indexAddr 3 (.tmp 22) (.tmp 23), none⟩,
    ⟨some 25, .fieldAddr 2 (.tmp 24), none⟩,
    ⟨some 26, .load false 1 (.tmp 25) false, none⟩,
    ⟨some 27, .build [(.int .i64 (0)), (.int .i64 (0)), (.int .i64 (0))] [(0, 1, (.tmp 16)), (1, 1, (.tmp 21)), (2, 1, (.tmp 26))], none⟩,
    ⟨some 28, .buildSlice 58 3 1 [(.int .i64 (0)), (.int .i64 (0)), (.int .i64 (0))] [(0, (.tmp 27))], none⟩,
    ⟨some 29, .append 58 3 24 false (.tmp 11) (.tmp 28), none⟩,
    ⟨some 3, .assign (.tmp 29), none⟩]))
   (.region false [⟨some 9, .move (.tmp 4) false, none⟩,
    ⟨some 10, .bin .add (.tmp 9) (.const (.int .i64 (1))), none⟩,
    ⟨some 4, .assign (.tmp 10), none⟩])))

/-- 'chamberlain/chamberlainlaw21.model' -/
def m16 : MFunc :=
  ⟨1, 31, [.tmp 2],
   (.seq (.region false [⟨some 2, .assign (.const (.sl [] (some 58))), none⟩])
   (.seq (.region false [⟨some 3, .assign (.const (.sl [] (some 58))), none⟩])
   (.seq (.seq (.region false [⟨some 4, .assign (.const (.int .i64 (0))), none⟩])
   (.block 0 (.loop [3, 4, 0, 2] l16_0)))
   (.seq (.region false [⟨some 30, .move (.tmp 3) false, none⟩,
    ⟨some 2, .assign (.tmp 30), none⟩])
   .ret))))⟩


/-- 'chamberlain/proof.Check' -/
def m17 : MFunc :=
  ⟨2, 21, [.tmp 4],
   (.seq (.region false [⟨some 4, .assign (.const (.int .i64 (0))), none⟩])
   (.seq (.region false [⟨some 8, .move (.tmp 0) false, none⟩,
    ⟨some 9, .move (.tmp 1) false, none⟩,
    ⟨some 10, .call 14 [(.tmp 8), (.tmp 9)], none⟩,
    ⟨some 7, .move (.tmp 10) false, none⟩,
    ⟨some 11, .extract (.tmp 7) 0, none⟩,
    ⟨some 12, .extract (.tmp 7) 1, none⟩,
    ⟨some 5, .assign (.tmp 11), none⟩,
    ⟨some 6, .assign (.tmp 12), none⟩])
   (.seq (.seq (.region false [⟨some 13, .move (.tmp 6) false, none⟩,
    ⟨some 14, .bin .eql (.tmp 13) (.const (.int .i64 (0))), none⟩,
    ⟨some 15, .move (.tmp 14) false, none⟩,
    ⟨some 16, .move (.tmp 5) false, some (15, true)⟩,
    ⟨some 17, .call 29 [(.tmp 16), (.const (.func 30 []))], some (15, true)⟩,
    ⟨some 18, .un .not (.tmp 17), some (15, true)⟩,
    ⟨some 19, .pick (.tmp 15) (.tmp 18) (.const (.bool false)), none⟩])
   (.cond (.tmp 19) (.region false [⟨some 6, .assign (.const (.int .i64 (50))), none⟩]) .skip))
   (.seq (.region false [⟨some 20, .move (.tmp 6) false, none⟩,
    ⟨some 4, .assign (.tmp 20), none⟩])
   .ret))))⟩

def l18_0 : MCode :=
   (.seq (.seq (.region false [⟨some 17, .move (.tmp 7) false, none⟩,
    ⟨some 18, .move (.tmp 5) false, none⟩,
    ⟨some 19, .len 0 (.tmp 18), none⟩,
    ⟨some 20, .bin .lss (.tmp 17) (.tmp 19), none⟩])
   (.cond (.tmp 20) .skip (.exit 0)))
   (.seq (.block 1 (.seq (.region false [⟨some 23, .move (.tmp 5) false, none⟩,
    ⟨some 24, .move (.tmp 7) false, none⟩,
    ⟨some 25, .indexAddr 1 (.tmp 23) (.tmp 24), none⟩,
    ⟨some 26, .load false 1 (.tmp 25) false, none⟩,
    ⟨some 27, .len 0 (.tmp 26), none⟩,
    ⟨some 28, .bin .eql (.tmp 27) (.const (.int .i64 (0))), none⟩])
   (.cond (.tmp 28) (.seq (.region false [⟨some 4, .assign (.const (.int .i64 (0))), none⟩])
   .ret) .skip)))
   (.region false [⟨some 21, .move (.tmp 7) false, none⟩,
    ⟨some 22, .bin .add (.tmp 21) (.const (.int .i64 (1))), none⟩,
    ⟨some 7, .assign (.tmp 22), none⟩])))

/-- 'chamberlain/chamberlainref21.Check' -/
def m18 : MFunc :=
  ⟨2, 29, [.tmp 4],
   (.seq (.region false [⟨some 4, .assign (.const (.int .i64 (0))), none⟩])
   (.seq (.region false [⟨some 9, .move (.tmp 0) false, none⟩,
    ⟨some 10, .move (.tmp 1) false, none⟩,
    ⟨some 11, .call 15 [(.tmp 9), (.tmp 10)], none⟩,
    ⟨some 8, .move (.tmp 11) false, none⟩,
    ⟨some 12, .extract (.tmp 8) 0, none⟩,
    ⟨some 13, .extract (.tmp 8) 1, none⟩,
    ⟨some 5, .assign (.tmp 12), none⟩,
    ⟨some 6, .assign (.tmp 13), none⟩])
   (.seq (.seq (.region false [⟨some 14, .move (.tmp 6) false, none⟩,
    ⟨some 15, .bin .neq (.tmp 14) (.const (.int .i64 (0))), none⟩])
   (.cond (.tmp 15) (.seq (.region false [⟨some 16, .move (.tmp 6) false, none⟩,
    ⟨some 4, .assign (.tmp 16), none⟩])
   .ret) .skip))
   (.seq (.seq (.region false [⟨some 7, .assign (.const (.int .i64 (0))), none⟩])
   (.block 0 (.loop [7, 5, 1, 0, 4] l18_0)))
   (.seq (.region false [⟨some 4, .assign (.const (.int .i64 (50))), none⟩])
   .ret)))))⟩

def l19_0 : MCode :=
   (.seq (.seq (.region false [⟨some 15, .move (.tmp 7) false, none⟩,
    ⟨some 16, .move (.tmp 0) false, none⟩,
    ⟨some 17, .move (.tmp 5) false, none⟩,
    ⟨some 18, .indexAddr 1 (.tmp 16) (.tmp 17), none⟩,
    ⟨some 19, .load false 1 (.tmp 18) false, none⟩,
    ⟨some 20, .len 0 (.tmp 19), none⟩,
    ⟨some 21, .bin .lss (.tmp 15) (.tmp 20), none⟩])
   (.cond (.tmp 21) .skip (.exit 2)))
   (.seq (.block 3 (.seq (.region false [⟨some 24, .move (.tmp 0) false, none⟩,
    ⟨some 25, .move (.tmp 5) false, none⟩,
    ⟨some 26, .indexAddr 1 (.tmp 24) (.tmp 25), none⟩,
    ⟨some 27, .load false 1 (.tmp 26) false, none⟩,
    ⟨some 28, .move (.tmp 7) false, none⟩,
    ⟨some 29, .indexAddr 1 (.tmp 27) (.tmp 28), none⟩,
    ⟨some 30, .load false 1 (.tmp 29) false, none⟩,
    ⟨some 31, .move (.tmp 1) false, none⟩,
    ⟨some 32, .call 31 [(.tmp 30), (.tmp 31)], none⟩,
    ⟨some 8, .assign (.tmp 32), none⟩])
   (.region false [⟨some 33, .move (.tmp 6) false, none⟩,
    ⟨some 34, .move (.tmp 33) false, none⟩,
    ⟨some 35, .move (.tmp 8) false, some (34, false)⟩,
    ⟨some 36, .pick (.tmp 34) (.const (.bool true)) (.tmp 35), none⟩,
    ⟨some 6, .assign (.tmp 36), none⟩])))
   (.region false [⟨some 22, .move (.tmp 7) false, none⟩,
    ⟨some 23, .bin .add (.tmp 22) (.const (.int .i64 (1))), none⟩,
    ⟨some 7, .assign (.tmp 23), none⟩])))

def l19_1 : MCode :=
   (.seq (.seq (.region false [⟨some 9, .move (.tmp 5) false, none⟩,
    ⟨some 10, .move (.tmp 0) false, none⟩,
    ⟨some 11, .len 0 (.tmp 10), none⟩,
    ⟨some 12, .bin .lss (.tmp 9) (.tmp 11), none⟩])
   (.cond (.tmp 12) .skip (.exit 0)))
   (.seq (.block 1 (.seq (.region false [⟨some 6, .assign (.const (.bool false)), none⟩])
   (.seq (.seq (.region false [⟨some 7, .assign (.const (.int .i64 (0))), none⟩])
   (.block 2 (.loop [5, 6, 7, 1, 0, 4] l19_0)))
   (.seq (.region false [⟨some 37, .move (.tmp 6) false, none⟩,
    ⟨some 38, .un .not (.tmp 37), none⟩])
   (.cond (.tmp 38) (.seq (.region false [⟨some 4, .assign (.const (.bool false)), none⟩])
   .ret) .skip)))))
   (.region false [⟨some 13, .move (.tmp 5) false, none⟩,
    ⟨some 14, .bin .add (.tmp 13) (.const (.int .i64 (1))), none⟩,
    ⟨some 5, .assign (.tmp 14), none⟩])))

/-- 'chamberlain/chamberlainref19.Met' -/
def m19 : MFunc :=
  ⟨2, 39, [.tmp 4],
   (.seq (.region false [⟨some 4, .assign (.const (.bool false)), none⟩])
   (.seq (.seq (.region false [⟨some 5, .assign (.const (.int .i64 (0))), none⟩])
   (.block 0 (.loop [5, 6, 7, 1, 0, 4] l19_1)))
   (.seq (.region false [⟨some 4, .assign (.const (.bool true)), none⟩])
   .ret)))⟩


/-- 'chamberlain/proof.Make' -/
def m20 : MFunc :=
  ⟨3, 38, [.tmp 6, .tmp 7],
   (.seq (.region false [⟨some 6, .assign (.const (.sl [] (some 3))), none⟩,
    ⟨some 7, .assign (.const (.int .i64 (0))), none⟩])
   (.seq (.seq (.region false [⟨some 11, .move (.tmp 2) false, none⟩,
    ⟨some 12, .bin .eql (.tmp 11) (.const (.int .i64 (0))), none⟩,
    ⟨some 13, .move (.tmp 12) false, none⟩,
    ⟨some 14, .move (.tmp 0) false, some (13, false)⟩,
    ⟨some 15, .move (.tmp 2) false, some (13, false)⟩,
    ⟨some 16, .call 32 [(.tmp 14), (.tmp 15)], some (13, false)⟩,
    ⟨some 17, .un .not (.tmp 16), some (13, false)⟩,
    ⟨some 18, .pick (.tmp 13) (.const (.bool true)) (.tmp 17), none⟩,
    ⟨some 19, .move (.tmp 18) false, none⟩,
    ⟨some 20, .move (.tmp 1) false, some (19, false)⟩,
    ⟨some 21, .move (.tmp 2) false, some (19, false)⟩,
    ⟨some 22, .un .neg (.tmp 21), some (19, false)⟩,
    ⟨some 23, .call 32 [(.tmp 20), (.tmp 22)], some (19, false)⟩,
    ⟨some 24, .un .not (.tmp 23), some (19, false)⟩,
    ⟨some 25, .pick (.tmp 19) (.const (.bool true)) (.tmp 24), none⟩])
   (.cond (.tmp 25) (.seq (.region false [⟨some 6, .assign (.const (.sl [] (some 3))), none⟩,
    ⟨some 7, .assign (.const (.int .i64 (50))), none⟩])
   .ret) .skip))
   (.seq (.region false [⟨some 26, .mkmap, none⟩,
    ⟨some 8, .alloc [.nilm], none⟩,
    ⟨none, .store 1 (.tmp 8) (.tmp 26), none⟩])
   (.seq (.region false [⟨some 9, .alloc [(.sl [] (some 3))], none⟩])
   (.seq (.region false [⟨some 27, .mkfunc 33 [(.tmp 8), (.tmp 9)], none⟩,
    ⟨some 10, .assign (.tmp 27), none⟩])
   (.seq (.region false [⟨some 28, .move (.tmp 10) false, none⟩,
    ⟨some 29, .move (.tmp 0) false, none⟩,
    ⟨some 30, .move (.tmp 2) false, none⟩,
    ⟨some 31, .callv (.tmp 28) [(.tmp 29), (.tmp 30)], none⟩])
   (.seq (.region false [⟨some 32, .move (.tmp 10) false, none⟩,
    ⟨some 33, .move (.tmp 1) false, none⟩,
    ⟨some 34, .move (.tmp 2) false, none⟩,
    ⟨some 35, .un .neg (.tmp 34), none⟩,
    ⟨some 36, .callv (.tmp 32) [(.tmp 33), (.tmp 35)], none⟩])
   (.seq (.region false [⟨some 37, .load false 1 (.tmp 9) false, none⟩,
    ⟨some 6, .assign (.tmp 37), none⟩,
    ⟨some 7, .assign (.const (.int .i64 (0))), none⟩])
   .ret))))))))⟩

def l21_0 : MCode :=
   (.seq (.seq (.region false [⟨some 26, .move (.tmp 9) false, none⟩,
    ⟨some 27, .move (.tmp 0) false, none⟩,
    ⟨some 28, .len 0 (.tmp 27), none⟩,
    ⟨some 29, .bin .lss (.tmp 26) (.tmp 28), none⟩])
   (.cond (.tmp 29) .skip (.exit 0)))
   (.seq (.block 1 (.seq (.region false [⟨some 32, .move (.tmp 0) false, none⟩,
    ⟨some 33, .move (.tmp 9) false, none⟩,
    ⟨some 34, .indexAddr 1 (.tmp 32) (.tmp 33), none⟩,
    ⟨some 35, .load false 1 (.tmp 34) false, none⟩,
    ⟨some 36, .move (.tmp 2) false, none⟩,
    ⟨some 37, .bin .neq (.tmp 35) (.tmp 36), none⟩,
    ⟨some 38, .move (.tmp 37) false, none⟩,
    ⟨some 39, .move (.tmp 8) false, some (38, true)⟩,
    ⟨some 40, .move (.tmp 0) false, some (38, true)⟩,
    ⟨some 41, .move (.tmp 9) false, some (38, true)⟩,
    ⟨some 42, .indexAddr 1 (.tmp 40) (.tmp 41), some (38, true)⟩,
    ⟨some 43, .load false 1 (.tmp 42) false, some (38, true)⟩,
    ⟨some 44, .call 34 [(.tmp 39), (.tmp 43)], some (38, true)⟩,
    ⟨some 45, .un .not (.tmp 44), some (38, true)⟩,
    ⟨some 46, .pick (.tmp 38) (.tmp 45) (.const (.bool false)), none⟩])
   (.cond (.tmp 46) (.region false [⟨some 47, .move (.tmp 8) true, none⟩,
    ⟨some 48, .move (.tmp 0) false, none⟩,
    ⟨some 49, .move (.tmp 9) false, none⟩,
    ⟨some 50, .indexAddr 1 (.tmp 48) (.tmp 49), none⟩,
    ⟨some 51, .load false 1 (.tmp 50) false, none⟩,
    ⟨some 52, .buildSlice 3 1 1 [(.int .i64 (0))] [(0, (.tmp 51))], none⟩,
    ⟨some 53, .append 3 1 8 false (.tmp 47) (.tmp 52), none⟩,
    ⟨some 8, .assign (.tmp 53), none⟩]) .skip)))
   (.region false [⟨some 30, .move (.tmp 9) false, none⟩,
    ⟨some 31, .bin .add (.tmp 30) (.const (.int .i64 (1))), none⟩,
    ⟨some 9, .assign (.tmp 31), none⟩])))

def l21_1 : MCode :=
   (.seq (.seq (.region false [⟨some 54, .move (.tmp 10) false, none⟩,
    ⟨some 55, .move (.tmp 1) false, none⟩,
    ⟨some 56, .len 0 (.tmp 55), none⟩,
    ⟨some 57, .bin .lss (.tmp 54) (.tmp 56), none⟩])
   (.cond (.tmp 57) .skip (.exit 2)))
   (.seq (.block 3 (.seq (.region false [⟨some 60, .move (.tmp 1) false, none⟩,
    ⟨some 61, .move (.tmp 10) false, none⟩,
    ⟨some 62, .indexAddr 1 (.tmp 60) (.tmp 61), none⟩,
    ⟨some 63, .load false 1 (.tmp 62) false, none⟩,
    ⟨some 64, .move (.tmp 2) false, none⟩,
    ⟨some 65, .un .neg (.tmp 64), none⟩,
    ⟨some 66, .bin .neq (.tmp 63) (.tmp 65), none⟩,
    ⟨some 67, .move (.tmp 66) false, none⟩,
    ⟨some 68, .move (.tmp 8) false, some (67, true)⟩,
    ⟨some 69, .move (.tmp 1) false, some (67, true)⟩,
    ⟨some 70, .move (.tmp 10) false, some (67, true)⟩,
    ⟨some 71, .indexAddr 1 (.tmp 69) (.tmp 70), some (67, true)⟩,
    ⟨some 72, .load false 1 (.tmp 71) false, some (67, true)⟩,
    ⟨some 73, .call 34 [(.tmp 68), (.tmp 72)], some (67, true)⟩,
    ⟨some 74, .un .not (.tmp 73), some (67, true)⟩,
    ⟨some 75, .pick (.tmp 67) (.tmp 74) (.const (.bool false)), none⟩])
   (.cond (.tmp 75) (.region false [⟨some 76, .move (.tmp 8) true, none⟩,
    ⟨some 77, .move (.tmp 1) false, none⟩,
    ⟨some 78, .move (.tmp 10) false, none⟩,
    ⟨some 79, .indexAddr 1 (.tmp 77) (.tmp 78), none⟩,
    ⟨some 80, .load false 1 (.tmp 79) false, none⟩,
    ⟨some 81, .buildSlice 3 1 1 [(.int .i64 (0))] [(0, (.tmp 80))], none⟩,
    ⟨some 82, .append 3 1 8 false (.tmp 76) (.tmp 81), none⟩,
    ⟨some 8, .assign (.tmp 82), none⟩]) .skip)))
   (.region false [⟨some 58, .move (.tmp 10) false, none⟩,
    ⟨some 59, .bin .add (.tmp 58) (.const (.int .i64 (1))), none⟩,
    ⟨some 10, .assign (.tmp 59), none⟩])))

/-- 'chamberlain/chamberlainref21.Make' -/
def m21 : MFunc :=
  ⟨3, 84, [.tmp 6, .tmp 7],
   (.seq (.region false [⟨some 6, .assign (.const (.sl [] (some 3))), none⟩,
    ⟨some 7, .assign (.const (.int .i64 (0))), none⟩])
   (.seq (.seq (.region false [⟨some 11, .move (.tmp 2) false, none⟩,
    ⟨some 12, .bin .eql (.tmp 11) (.const (.int .i64 (0))), none⟩,
    ⟨some 13, .move (.tmp 12) false, none⟩,
    ⟨some 14, .move (.tmp 0) false, some (13, false)⟩,
    ⟨some 15, .move (.tmp 2) false, some (13, false)⟩,
    ⟨some 16, .call 34 [(.tmp 14), (.tmp 15)], some (13, false)⟩,
    ⟨some 17, .un .not (.tmp 16), some (13, false)⟩,
    ⟨some 18, .pick (.tmp 13) (.const (.bool true)) (.tmp 17), none⟩,
    ⟨some 19, .move (.tmp 18) false, none⟩,
    ⟨some 20, .move (.tmp 1) false, some (19, false)⟩,
    ⟨some 21, .move (.tmp 2) false, some (19, false)⟩,
    ⟨some 22, .un .neg (.tmp 21), some (19, false)⟩,
    ⟨some 23, .call 34 [(.tmp 20), (.tmp 22)], some (19, false)⟩,
    ⟨some 24, .un .not (.tmp 23), some (19, false)⟩,
    ⟨some 25, .pick (.tmp 19) (.const (.bool true)) (.tmp 24), none⟩])
   (.cond (.tmp 25) (.seq (.region false [⟨some 6, .assign (.const (.sl [] (some 3))), none⟩,
    ⟨some 7, .assign (.const (.int .i64 (50))), none⟩])
   .ret) .skip))
   (.seq (.region false [⟨some 8, .assign (.const (.sl [] (some 3))), none⟩])
   (.seq (.seq (.region false [⟨some 9, .assign (.const (.int .i64 (0))), none⟩])
   (.block 0 (.loop [8, 10, 1, 2, 9, 0, 6, 7] l21_0)))
   (.seq (.seq (.region false [⟨some 10, .assign (.const (.int .i64 (0))), none⟩])
   (.block 2 (.loop [8, 10, 1, 2, 9, 0, 6, 7] l21_1)))
   (.seq (.region false [⟨some 83, .move (.tmp 8) false, none⟩,
    ⟨some 6, .assign (.tmp 83), none⟩,
    ⟨some 7, .assign (.const (.int .i64 (0))), none⟩])
   .ret))))))⟩


/-- 'chamberlain/chamberlainlaw20.awake' -/
def m22 : MFunc :=
  ⟨0, 67, [.tmp 0],
   (.seq (.region false [⟨some 0, .assign (.const (.bool false)), none⟩])
   (.seq (.region false [⟨some 4, .buildSlice 3 1 2 [(.int .i64 (0))] [(0, (.const (.int .i64 (1)))), (1, (.const (.int .i64 (2))))], none⟩,
    ⟨some 5, .buildSlice 3 1 1 [(.int .i64 (0))] [(0, (.const (.int .i64 (-1))))], none⟩,
    ⟨some 6, .buildSlice 3 1 1 [(.int .i64 (0))] [(0, (.const (.int .i64 (-2))))], none⟩,
    ⟨some 7, .buildSlice 34 1 3 [(.sl [] (some 3))] [(0, (.tmp 4)), (1, (.tmp 5)), (2, (.tmp 6))], none⟩,
    ⟨some 8, .call 26 [(.tmp 7), (.const (.int .i64 (2))), (.const (.int .i64 (9)))], none⟩,
    ⟨some 1, .alloc [(.int .i64 (0)), (.sl [] (some 4)), (.sl [] (some 55)), (.int .i64 (0))], none⟩,
    ⟨none, .store 4 (.tmp 1) (.tmp 8), none⟩])
   (.seq (.region false [⟨some 9, .buildSlice 3 1 2 [(.int .i64 (0))] [(0, (.const (.int .i64 (1)))), (1, (.const (.int .i64 (2))))], none⟩,
    ⟨some 10, .buildSlice 34 1 1 [(.sl [] (some 3))] [(0, (.tmp 9))], none⟩,
    ⟨some 11, .call 26 [(.tmp 10), (.const (.int .i64 (2))), (.const (.int .i64 (9)))], none⟩,
    ⟨some 2, .alloc [(.int .i64 (0)), (.sl [] (some 4)), (.sl [] (some 55)), (.int .i64 (0))], none⟩,
    ⟨none, .store 4 (.tmp 2) (.tmp 11), none⟩])
   (.seq (.region false [⟨some 12, .buildSlice 3 1 2 [(.int .i64 (0))] [(0, (.const (.int .i64 (1)))), (1, (.const (.int .i64 (2))))], none⟩,
    ⟨some 13, .buildSlice 34 1 1 [(.sl [] (some 3))] [(0, (.tmp 12))], none⟩,
    ⟨some 14, .call 26 [(.tmp 13), (.const (.int .i64 (2))), (.const (.int .i64 (0)))], none⟩,
    ⟨some 3, .alloc [(.int .i64 (0)), (.sl [] (some 4)), (.sl [] (some 55)), (.int .i64 (0))], none⟩,
    ⟨none, .store 4 (.tmp 3) (.tmp 14), none⟩])
   (.seq (.region false [⟨some 15, .fieldAddr 0 (.tmp 1), none⟩,
    ⟨some 16, .load false 1 (.tmp 15) false, none⟩,
    ⟨some 17, .bin .eql (.tmp 16) (.const (.int .i64 (2))), none⟩,
    ⟨some 18, .move (.tmp 17) false, none⟩,
    ⟨some 19, .fieldAddr 3 (.tmp 1), some (18, true)⟩,
    ⟨some 20, .load false 1 (.tmp 19) false, some (18, true)⟩,
    ⟨some 21, .bin .eql (.tmp 20) (.const (.int .i64 (0))), some (18, true)⟩,
    ⟨some 22, .pick (.tmp 18) (.tmp 21) (.const (.bool false)), none⟩,
    ⟨some 23, .move (.tmp 22) false, none⟩,
    ⟨some 24, .fieldAddr 0 (.tmp 2), some (23, true)⟩,
    ⟨some 25, .load false 1 (.tmp 24) false, some (23, true)⟩,
    ⟨some 26, .bin .eql (.tmp 25) (.const (.int .i64 (1))), some (23, true)⟩,
    ⟨some 27, .pick (.tmp 23) (.tmp 26) (.const (.bool false)), none⟩,
    ⟨some 28, .move (.tmp 27) false, none⟩,
    ⟨some 29, .fieldAddr 3 (.tmp 2), some (28, true)⟩,
    ⟨some 30, .load false 1 (.tmp 29) false, some (28, true)⟩,
    ⟨some 31, .bin .eql (.tmp 30) (.const (.int .i64 (2))), some (28, true)⟩,
    ⟨some 32, .pick (.tmp 28) (.tmp 31) (.const (.bool false)), none⟩,
    ⟨some 33, .move (.tmp 32) false, none⟩,
    ⟨some 34, .fieldAddr 1 (.tmp 2), some (33, true)⟩,
    ⟨some 35, .load false 1 (.tmp 34) false, some (33, true)⟩,
    ⟨some 36, .len 0 (.tmp 35), some (33, true)⟩,
    ⟨some 37, .bin .eql (.tmp 36) (.const (.int .i64 (2))), some (33, true)⟩,
    ⟨some 38, .pick (.tmp 33) (.tmp 37) (.const (.bool false)), none⟩,
    ⟨some 39, .move (.tmp 38) false, none⟩,
    ⟨some 40, .fieldAddr 1 (.tmp 2), some (39, true)⟩,
    ⟨some 41, .load false 1 (.tmp 40) false, some (39, true)⟩,
    ⟨some 42, .indexAddr 1 (.tmp 41) (.const (.int .i64 (0))), some (39, true)⟩,
    ⟨some 43, .load false 1 (.tmp 42) false, some (39, true)⟩,
    ⟨some 44, .pick (.tmp 39) (.tmp 43) (.const (.bool false)), none⟩,
    ⟨some 45, .move (.tmp 44) false, none⟩,
    ⟨some 46, .fieldAddr 0 (.tmp 3), some (45, true)⟩,
    ⟨some 47, .load false 1 (.tmp 46) false, some (45, true)⟩,
    ⟨some 48, .bin .eql (.tmp 47) (.const (.int .i64 (3))), some (45, true)⟩,
    ⟨some 49, .pick (.tmp 45) (.tmp 48) (.const (.bool false)), none⟩,
    ⟨some 50, .move (.tmp 49) false, none⟩,
    ⟨some 51, .fieldAddr 3 (.tmp 3), some (50, true)⟩,
    ⟨some 52, .load false 1 (.tmp 51) false, some (50, true)⟩,
    ⟨some 53, .bin .eql (.tmp 52) (.const (.int .i64 (1))), some (50, true)⟩,
    ⟨some 54, .pick (.tmp 50) (.tmp 53) (.const (.bool false)), none⟩,
    ⟨some 55, .move (.tmp 54) false, none⟩,
    ⟨some 56, .buildSlice 3 1 1 [(.int .i64 (0))] [(0, (.const (.int .i64 (0))))], some (55, true)⟩,
    ⟨some 57, .buildSlice 34 1 1 [(.sl [] (some 3))] [(0, (.tmp 56))], some (55, true)⟩,
    ⟨some 58, .call 24 [(.tmp 57), (.const (.int .i64 (3)))], some (55, true)⟩,
    ⟨some 59, .bin .eql (.tmp 58) (.const (.int .i64 (1))), some (55, true)⟩,
    ⟨some 60, .pick (.tmp 55) (.tmp 59) (.const (.bool false)), none⟩,
    ⟨some 61, .move (.tmp 60) false, none⟩,
    ⟨some 62, .buildSlice 3 1 1 [(.int .i64 (0))] [(0, (.const (.int .i64 (-3))))], some (61, true)⟩,
    ⟨some 63, .buildSlice 34 1 1 [(.sl [] (some 3))] [(0, (.tmp 62))], some (61, true)⟩,
    ⟨some 64, .call 24 [(.tmp 63), (.const (.int .i64 (3)))], some (61, true)⟩,
    ⟨some 65, .bin .eql (.tmp 64) (.const (.int .i64 (0))), some (61, true)⟩,
    ⟨some 66, .pick (.tmp 61) (.tmp 65) (.const (.bool false)), none⟩,
    ⟨some 0, .assign (.tmp 66), none⟩])
   .ret)))))⟩

def l23_0 : MCode :=
   (.seq (.seq (.region false [⟨some 7, .move (.tmp 3) false, none⟩,
    ⟨some 8, .move (.tmp 0) false, none⟩,
    ⟨some 9, .len 0 (.tmp 8), none⟩,
    ⟨some 10, .bin .lss (.tmp 7) (.tmp 9), none⟩])
   (.cond (.tmp 10) .skip (.exit 0)))
   (.seq (.block 1 (.seq (.region false [⟨some 13, .move (.tmp 0) false, none⟩,
    ⟨some 14, .move (.tmp 3) false, none⟩,
    ⟨some 15, .indexAddr 1 (.tmp 13) (.tmp 14), none⟩,
    ⟨some 16, .load false 1 (.tmp 15) false, none⟩,
    ⟨some 17, .len 0 (.tmp 16), none⟩,
    ⟨some 18, .bin .gtr (.tmp 17) (.const (.int .i64 (12))), none⟩])
   (.cond (.tmp 18) (.seq (.region false [⟨some 2, .assign (.const (.bool false)), none⟩])
   .ret) .skip)))
   (.region false [⟨some 11, .move (.tmp 3) false, none⟩,
    ⟨some 12, .bin .add (.tmp 11) (.const (.int .i64 (1))), none⟩,
    ⟨some 3, .assign (.tmp 12), none⟩])))

/-- 'chamberlain/chamberlainlaw20.tidy' -/
def m23 : MFunc :=
  ⟨1, 19, [.tmp 2],
   (.seq (.region false [⟨some 2, .assign (.const (.bool false)), none⟩])
   (.seq (.seq (.region false [⟨some 4, .move (.tmp 0) false, none⟩,
    ⟨some 5, .len 0 (.tmp 4), none⟩,
    ⟨some 6, .bin .gtr (.tmp 5) (.const (.int .i64 (60))), none⟩])
   (.cond (.tmp 6) (.seq (.region false [⟨some 2, .assign (.const (.bool false)), none⟩])
   .ret) .skip))
   (.seq (.seq (.region false [⟨some 3, .assign (.const (.int .i64 (0))), none⟩])
   (.block 0 (.loop [3, 0, 2] l23_0)))
   (.seq (.region false [⟨some 2, .assign (.const (.bool true)), none⟩])
   .ret))))⟩


/-- 'chamberlain/solve.Check' -/
def m24 : MFunc :=
  ⟨2, 18, [.tmp 4],
   (.seq (.region false [⟨some 3, .box (.tmp 1), none⟩,
    ⟨some 4, .assign (.const (.int .i64 (0))), none⟩])
   (.seq (.region false [⟨some 6, .mkfunc 35 [(.tmp 3)], none⟩,
    ⟨some 5, .alloc [.nilf], none⟩,
    ⟨none, .store 1 (.tmp 5) (.tmp 6), none⟩])
   (.seq (.seq (.region false [⟨some 7, .load false 1 (.tmp 3) false, none⟩,
    ⟨some 8, .bin .lss (.tmp 7) (.const (.int .i64 (0))), none⟩,
    ⟨some 9, .move (.tmp 8) false, none⟩,
    ⟨some 10, .load false 1 (.tmp 3) false, some (9, false)⟩,
    ⟨some 11, .bin .gtr (.tmp 10) (.const (.int .i64 (20000))), some (9, false)⟩,
    ⟨some 12, .pick (.tmp 9) (.const (.bool true)) (.tmp 11), none⟩,
    ⟨some 13, .move (.tmp 12) false, none⟩,
    ⟨some 14, .move (.tmp 0) false, some (13, false)⟩,
    ⟨some 15, .mkfunc 36 [(.tmp 5)], some (13, false)⟩,
    ⟨some 16, .call 29 [(.tmp 14), (.tmp 15)], some (13, false)⟩,
    ⟨some 17, .pick (.tmp 13) (.const (.bool true)) (.tmp 16), none⟩])
   (.cond (.tmp 17) (.seq (.region false [⟨some 4, .assign (.const (.int .i64 (1))), none⟩])
   .ret) .skip))
   (.seq (.region false [⟨some 4, .assign (.const (.int .i64 (0))), none⟩])
   .ret))))⟩

def l25_0 : MCode :=
   (.seq (.seq (.region false [⟨some 19, .move (.tmp 6) false, none⟩,
    ⟨some 20, .move (.tmp 0) false, none⟩,
    ⟨some 21, .move (.tmp 5) false, none⟩,
    ⟨some 22, .indexAddr 1 (.tmp 20) (.tmp 21), none⟩,
    ⟨some 23, .load false 1 (.tmp 22) false, none⟩,
    ⟨some 24, .len 0 (.tmp 23), none⟩,
    ⟨some 25, .bin .lss (.tmp 19) (.tmp 24), none⟩])
   (.cond (.tmp 25) .skip (.exit 2)))
   (.seq (.block 3 (.seq (.region false [⟨some 28, .move (.tmp 0) false, none⟩,
    ⟨some 29, .move (.tmp 5) false, none⟩,
    ⟨some 30, .indexAddr 1 (.tmp 28) (.tmp 29), none⟩,
    ⟨some 31, .load false 1 (.tmp 30) false, none⟩,
    ⟨some 32, .move (.tmp 6) false, none⟩,
    ⟨some 33, .indexAddr 1 (.tmp 31) (.tmp 32), none⟩,
    ⟨some 34, .load false 1 (.tmp 33) false, none⟩,
    ⟨some 35, .bin .eql (.tmp 34) (.const (.int .i64 (0))), none⟩,
    ⟨some 36, .move (.tmp 35) false, none⟩,
    ⟨some 37, .move (.tmp 0) false, some (36, false)⟩,
    ⟨some 38, .move (.tmp 5) false, some (36, false)⟩,
    ⟨some 39, .indexAddr 1 (.tmp 37) (.tmp 38), some (36, false)⟩,
    ⟨some 40, .load false 1 (.tmp 39) false, some (36, false)⟩,
    ⟨some 41, .move (.tmp 6) false, some (36, false)⟩,
    ⟨some 42, .indexAddr 1 (.tmp 40) (.tmp 41), some (36, false)⟩,
    ⟨some 43, .load false 1 (.tmp 42) false, some (36, false)⟩,
    ⟨some 44, .move (.tmp 1) false, some (36, false)⟩,
    ⟨some 45, .bin .gtr (.tmp 43) (.tmp 44), some (36, false)⟩,
    ⟨some 46, .pick (.tmp 36) (.const (.bool true)) (.tmp 45), none⟩,
    ⟨some 47, .move (.tmp 46) false, none⟩,
    ⟨some 48, .move (.tmp 0) false, some (47, false)⟩,
    ⟨some 49, .move (.tmp 5) false, some (47, false)⟩,
    ⟨some 50, .indexAddr 1 (.tmp 48) (.tmp 49), some (47, false)⟩,
    ⟨some 51, .load false 1 (.tmp 50) false, some (47, false)⟩,
    ⟨some 52, .move (.tmp 6) false, some (47, false)⟩,
    ⟨some 53, .indexAddr 1 (.tmp 51) (.tmp 52), some (47, false)⟩,
    ⟨some 54, .load false 1 (.tmp 53) false, some (47, false)⟩,
    ⟨some 55, .move (.tmp 1) false, some (47, false)⟩,
    ⟨some 56, .un .neg (.tmp 55), some (47, false)⟩,
    ⟨some 57, .bin .lss (.tmp 54) (.tmp 56), some (47, false)⟩,
    ⟨some 58, .pick (.tmp 47) (.const (.bool true)) (.tmp 57), none⟩])
   (.cond (.tmp 58) (.seq (.region false [⟨some 4, .assign (.const (.int .i64 (1))), none⟩])
   .ret) .skip)))
   (.region false [⟨some 26, .move (.tmp 6) false, none⟩,
    ⟨some 27, .bin .add (.tmp 26) (.const (.int .i64 (1))), none⟩,
    ⟨some 6, .assign (.tmp 27), none⟩])))

def l25_1 : MCode :=
   (.seq (.seq (.region false [⟨some 13, .move (.tmp 5) false, none⟩,
    ⟨some 14, .move (.tmp 0) false, none⟩,
    ⟨some 15, .len 0 (.tmp 14), none⟩,
    ⟨some 16, .bin .lss (.tmp 13) (.tmp 15), none⟩])
   (.cond (.tmp 16) .skip (.exit 0)))
   (.seq (.block 1 (.seq (.region false [⟨some 6, .assign (.const (.int .i64 (0))), none⟩])
   (.block 2 (.loop [5, 6, 1, 0, 4] l25_0))))
   (.region false [⟨some 17, .move (.tmp 5) false, none⟩,
    ⟨some 18, .bin .add (.tmp 17) (.const (.int .i64 (1))), none⟩,
    ⟨some 5, .assign (.tmp 18), none⟩])))

/-- 'chamberlain/chamberlainref20.Check' -/
def m25 : MFunc :=
  ⟨2, 59, [.tmp 4],
   (.seq (.region false [⟨some 4, .assign (.const (.int .i64 (0))), none⟩])
   (.seq (.seq (.region false [⟨some 7, .move (.tmp 1) false, none⟩,
    ⟨some 8, .bin .lss (.tmp 7) (.const (.int .i64 (0))), none⟩,
    ⟨some 9, .move (.tmp 8) false, none⟩,
    ⟨some 10, .move (.tmp 1) false, some (9, false)⟩,
    ⟨some 11, .bin .gtr (.tmp 10) (.const (.int .i64 (20000))), some (9, false)⟩,
    ⟨some 12, .pick (.tmp 9) (.const (.bool true)) (.tmp 11), none⟩])
   (.cond (.tmp 12) (.seq (.region false [⟨some 4, .assign (.const (.int .i64 (1))), none⟩])
   .ret) .skip))
   (.seq (.seq (.region false [⟨some 5, .assign (.const (.int .i64 (0))), none⟩])
   (.block 0 (.loop [5, 6, 1, 0, 4] l25_1)))
   (.seq (.region false [⟨some 4, .assign (.const (.int .i64 (0))), none⟩])
   .ret))))⟩

def l26_0 : MCode :=
   (.seq (.seq (.region false [⟨some 49, .move (.tmp 11) false, none⟩,
    ⟨some 50, .move (.tmp 1) false, none⟩,
    ⟨some 51, .bin .leq (.tmp 49) (.tmp 50), none⟩])
   (.cond (.tmp 51) .skip (.exit 1)))
   (.seq (.block 2 (.region false [⟨some 54, .fieldAddr 1 (.tmp 10), none⟩,
    ⟨some 55, .load false 1 (.tmp 54) true, none⟩,
    ⟨some 56, .move (.tmp 7) false, none⟩,
    ⟨some 57, .nilCheck (.tmp 56), none⟩,
    ⟨some 58, .fieldAddr 2 (.tmp 57), none⟩,
    ⟨some 59, .load false 1 (.tmp 58) false, none⟩,
    ⟨some 60, .move (.tmp 11) false, none⟩,
    ⟨some 61, .indexAddr 1 (.tmp 59) (.tmp 60), none⟩,
    ⟨some 62, .load false 1 (.tmp 61) false, none⟩,
    ⟨some 63, .bin .gtr (.tmp 62) (.const (.int .i64 (0))), none⟩,
    ⟨some 64, .buildSlice 4 1 1 [(.bool false)] [(0, (.tmp 63))], none⟩,
    ⟨some 65, .append 4 1 1 false (.tmp 55) (.tmp 64), none⟩,
    ⟨some 66, .fieldAddr 1 (.tmp 10), none⟩,
    ⟨none, .store 1 (.tmp 66) (.tmp 65), none⟩]))
   (.region false [⟨some 52, .move (.tmp 11) false, none⟩,
    ⟨some 53, .bin .add (.tmp 52) (.const (.int .i64 (1))), none⟩,
    ⟨some 11, .assign (.tmp 53), none⟩])))

/-- 'chamberlain/solve.Solve' -/
def m26 : MFunc :=
  ⟨3, 75, [.cell 6 true 4],
   (.seq (.region false [⟨some 6, .alloc [(.int .i64 (0)), (.sl [] (some 4)), (.sl [] (some 55)), (.int .i64 (0))], none⟩])
   (.seq (.seq (.region false [⟨some 12, .move (.tmp 0) false, none⟩,
    ⟨some 13, .move (.tmp 1) false, none⟩,
    ⟨some 14, .call 24 [(.tmp 12), (.tmp 13)], none⟩,
    ⟨some 15, .bin .neq (.tmp 14) (.const (.int .i64 (0))), none⟩])
   (.cond (.tmp 15) (.seq (.region false [⟨some 16, .build [(.int .i64 (0)), (.nils 4), (.nils 55), (.int .i64 (0))] [], none⟩,
    ⟨none, .store 4 (.tmp 6) (.tmp 16), none⟩])
   .ret) .skip))
   (.seq (.region false [⟨some 17, .move (.tmp 0) false, none⟩,
    ⟨some 18, .len 0 (.tmp 17), none⟩,
    ⟨some 19, .move (.tmp 1) false, none⟩,
    ⟨some 20, .bin .add (.tmp 19) (.const (.int .i64 (1))), none⟩,
    ⟨some 21, .mkslice 1 8 [(.int .i64 (0))] (.tmp 20) (.tmp 20), none⟩,
    ⟨some 22, .move (.tmp 2) false, none⟩,
    ⟨some 23, .max [(.tmp 22), (.const (.int .i64 (0)))], none⟩,
    ⟨some 24, .build [(.nils 34), (.int .i64 (0)), (.nils 3), (.nils 88), (.nils 55), (.int .i64 (0)), (.int .i64 (0))] [(1, 1, (.tmp 18)), (2, 1, (.tmp 21)), (5, 1, (.tmp 23))], none⟩,
    ⟨some 25, .box (.tmp 24), none⟩,
    ⟨some 7, .assign (.tmp 25), none⟩])
   (.seq (.region false [⟨some 26, .move (.tmp 7) false, none⟩,
    ⟨some 27, .move (.tmp 7) false, none⟩,
    ⟨some 28, .nilCheck (.tmp 27), none⟩,
    ⟨some 29, .fieldAddr 0 (.tmp 28), none⟩,
    ⟨some 30, .load false 1 (.tmp 29) true, none⟩,
    ⟨some 31, .move (.tmp 0) false, none⟩,
    ⟨some 32, .append 34 1 24 false (.tmp 30) (.tmp 31), none⟩,
    ⟨some 33, .nilCheck (.tmp 26), none⟩,
    ⟨some 34, .fieldAddr 0 (.tmp 33), none⟩,
    ⟨none, .store 1 (.tmp 34) (.tmp 32), none⟩])
   (.seq (.region false [⟨some 36, .move (.tmp 7) false, none⟩,
    ⟨some 37, .call 38 [(.tmp 36)], none⟩,
    ⟨some 35, .move (.tmp 37) false, none⟩,
    ⟨some 38, .extract (.tmp 35) 0, none⟩,
    ⟨some 39, .extract (.tmp 35) 1, none⟩,
    ⟨some 8, .assign (.tmp 38), none⟩,
    ⟨some 9, .assign (.tmp 39), none⟩])
   (.seq (.region false [⟨some 40, .move (.tmp 8) false, none⟩,
    ⟨some 41, .move (.tmp 7) false, none⟩,
    ⟨some 42, .nilCheck (.tmp 41), none⟩,
    ⟨some 43, .fieldAddr 6 (.tmp 42), none⟩,
    ⟨some 44, .load false 1 (.tmp 43) false, none⟩,
    ⟨some 45, .build [(.int .i64 (0)), (.nils 4), (.nils 55), (.int .i64 (0))] [(0, 1, (.tmp 40)), (3, 1, (.tmp 44))], none⟩,
    ⟨some 10, .alloc [(.int .i64 (0)), (.sl [] (some 4)), (.sl [] (some 55)), (.int .i64 (0))], none⟩,
    ⟨none, .store 4 (.tmp 10) (.tmp 45), none⟩])
   (.seq (.seq (.region false [⟨some 46, .move (.tmp 8) false, none⟩])
   (.block 0 (.seq (.region false [⟨some 48, .bin .eql (.tmp 46) (.const (.int .i64 (1))), none⟩,
    ⟨some 47, .assign (.tmp 48), none⟩])
   (.cond (.tmp 47) (.seq (.region false [⟨some 11, .assign (.const (.int .i64 (1))), none⟩])
   (.block 1 (.loop [6, 10, 11, 7, 1, 0, 2] l26_0))) (.seq (.region false [⟨some 68, .bin .eql (.tmp 46) (.const (.int .i64 (2))), none⟩,
    ⟨some 67, .assign (.tmp 68), none⟩])
   (.cond (.tmp 67) (.region false [⟨some 69, .move (.tmp 7) false, none⟩,
    ⟨some 70, .nilCheck (.tmp 69), none⟩,
    ⟨some 71, .fieldAddr 4 (.tmp 70), none⟩,
    ⟨some 72, .load false 1 (.tmp 71) false, none⟩,
    ⟨some 73, .fieldAddr 2 (.tmp 10), none⟩,
    ⟨none, .store 1 (.tmp 73) (.tmp 72), none⟩]) .skip))))))
   (.seq (.region false [⟨some 74, .load true 4 (.tmp 10) false, none⟩,
    ⟨none, .store 4 (.tmp 6) (.tmp 74), none⟩])
   .ret))))))))⟩

def l27_0 : MCode :=
   (.seq (.seq (.region false [⟨some 25, .move (.tmp 13) false, none⟩,
    ⟨some 26, .move (.tmp 10) false, none⟩,
    ⟨some 27, .len 0 (.tmp 26), none⟩,
    ⟨some 28, .bin .lss (.tmp 25) (.tmp 27), none⟩])
   (.cond (.tmp 28) .skip (.exit 0)))
   (.seq (.block 1 (.region false [⟨some 31, .move (.tmp 12) true, none⟩,
    ⟨some 32, .move (.tmp 10) false, none⟩,
    ⟨some 33, .move (.tmp 13) false, none⟩,
    ⟨some 34, .indexAddr 1 (.tmp 32) (.tmp 33), none⟩,
    ⟨some 35, .load false 1 (.tmp 34) false, none⟩,
    ⟨some 36, .bin .eql (.tmp 35) (.const (.int .i64 (1))), none⟩,
    ⟨some 37, .buildSlice 4 1 1 [(.bool false)] [(0, (.tmp 36))], none⟩,
    ⟨some 38, .append 4 1 1 false (.tmp 31) (.tmp 37), none⟩,
    ⟨some 12, .assign (.tmp 38), none⟩]))
   (.region false [⟨some 29, .move (.tmp 13) false, none⟩,
    ⟨some 30, .bin .add (.tmp 29) (.const (.int .i64 (1))), none⟩,
    ⟨some 13, .assign (.tmp 30), none⟩])))

/-- 'chamberlain/chamberlainref20.Solve' -/
def m27 : MFunc :=
  ⟨3, 42, [.tmp 6, .tmp 7, .tmp 8],
   (.seq (.region false [⟨some 6, .assign (.const (.int .i64 (0))), none⟩,
    ⟨some 7, .assign (.const (.sl [] (some 4))), none⟩,
    ⟨some 8, .assign (.const (.int .i64 (0))), none⟩])
   (.seq (.seq (.region false [⟨some 14, .move (.tmp 2) false, none⟩,
    ⟨some 15, .bin .lss (.tmp 14) (.const (.int .i64 (0))), none⟩])
   (.cond (.tmp 15) (.region false [⟨some 2, .assign (.const (.int .i64 (0))), none⟩]) .skip))
   (.seq (.region false [⟨some 17, .move (.tmp 0) false, none⟩,
    ⟨some 18, .move (.tmp 1) false, none⟩,
    ⟨some 19, .mkslice 1 8 [(.int .i64 (0))] (.tmp 18) (.tmp 18), none⟩,
    ⟨some 20, .move (.tmp 2) false, none⟩,
    ⟨some 21, .call 39 [(.tmp 17), (.tmp 19), (.const (.int .i64 (0))), (.tmp 20)], none⟩,
    ⟨some 16, .move (.tmp 21) false, none⟩,
    ⟨some 22, .extract (.tmp 16) 0, none⟩,
    ⟨some 23, .extract (.tmp 16) 1, none⟩,
    ⟨some 24, .extract (.tmp 16) 2, none⟩,
    ⟨some 9, .assign (.tmp 22), none⟩,
    ⟨some 10, .assign (.tmp 23), none⟩,
    ⟨some 11, .assign (.tmp 24), none⟩])
   (.seq (.region false [⟨some 12, .assign (.const (.sl [] (some 4))), none⟩])
   (.seq (.seq (.region false [⟨some 13, .assign (.const (.int .i64 (0))), none⟩])
   (.block 0 (.loop [11, 12, 9, 13, 10, 2, 1, 0, 6, 7, 8] l27_0)))
   (.seq (.region false [⟨some 39, .move (.tmp 9) false, none⟩,
    ⟨some 40, .move (.tmp 12) false, none⟩,
    ⟨some 41, .move (.tmp 11) false, none⟩,
    ⟨some 6, .assign (.tmp 39), none⟩,
    ⟨some 7, .assign (.tmp 40), none⟩,
    ⟨some 8, .assign (.tmp 41), none⟩])
   .ret))))))⟩


/-- 'slices.Clone[[]int,int]' -/
def m28 : MFunc := mclone 3 1 8 [(.int .i64 (0))]



/-- 'slices.ContainsFunc[[][]int,[]int]' -/
def m29 : MFunc :=
  ⟨2, 9, [.tmp 4],
   (.seq (.region false [⟨some 4, .assign (.const (.bool false)), none⟩])
   (.seq (.region false [⟨some 5, .move (.tmp 0) false, none⟩,
    ⟨some 6, .move (.tmp 1) false, none⟩,
    ⟨some 7, .call 40 [(.tmp 5), (.tmp 6)], none⟩,
    ⟨some 8, .bin .geq (.tmp 7) (.const (.int .i64 (0))), none⟩,
    ⟨some 4, .assign (.tmp 8), none⟩])
   .ret))⟩


/-- 'chamberlain/proof.Check$1' -/
def m30 : MFunc :=
  ⟨1, 6, [.tmp 2],
   (.seq (.region false [⟨some 2, .assign (.const (.bool false)), none⟩])
   (.seq (.region false [⟨some 3, .move (.tmp 0) false, none⟩,
    ⟨some 4, .len 0 (.tmp 3), none⟩,
    ⟨some 5, .bin .eql (.tmp 4) (.const (.int .i64 (0))), none⟩,
    ⟨some 2, .assign (.tmp 5), none⟩])
   .ret))⟩


/-- 'chamberlain/chamberlainref19.So' -/
def m31 : MFunc :=
  ⟨2, 33, [.tmp 4],
   (.seq (.region false [⟨some 4, .assign (.const (.bool false)), none⟩])
   (.seq (.seq (.region false [⟨some 7, .move (.tmp 0) false, none⟩,
    ⟨some 8, .bin .eql (.tmp 7) (.const (.int .i64 (0))), none⟩])
   (.cond (.tmp 8) (.seq (.region false [⟨some 4, .assign (.const (.bool false)), none⟩])
   .ret) .skip))
   (.seq (.region false [⟨some 9, .move (.tmp 0) false, none⟩,
    ⟨some 5, .assign (.tmp 9), none⟩])
   (.seq (.seq (.region false [⟨some 10, .move (.tmp 0) false, none⟩,
    ⟨some 11, .bin .lss (.tmp 10) (.const (.int .i64 (0))), none⟩])
   (.cond (.tmp 11) (.region false [⟨some 12, .move (.tmp 0) false, none⟩,
    ⟨some 13, .un .neg (.tmp 12), none⟩,
    ⟨some 5, .assign (.tmp 13), none⟩]) .skip))
   (.seq (.region false [⟨some 14, .move (.tmp 5) false, none⟩,
    ⟨some 15, .bin .gtr (.tmp 14) (.const (.int .i64 (0))), none⟩,
    ⟨some 16, .move (.tmp 15) false, none⟩,
    ⟨some 17, .move (.tmp 5) false, some (16, true)⟩,
    ⟨some 18, .move (.tmp 1) false, some (16, true)⟩,
    ⟨some 19, .len 0 (.tmp 18), some (16, true)⟩,
    ⟨some 20, .bin .leq (.tmp 17) (.tmp 19), some (16, true)⟩,
    ⟨some 21, .pick (.tmp 16) (.tmp 20) (.const (.bool false)), none⟩,
    ⟨some 22, .move (.tmp 21) false, none⟩,
    ⟨some 23, .move (.tmp 1) false, some (22, true)⟩,
    ⟨some 24, .move (.tmp 5) false, some (22, true)⟩,
    ⟨some 25, .bin .sub (.tmp 24) (.const (.int .i64 (1))), some (22, true)⟩,
    ⟨some 26, .indexAddr 1 (.tmp 23) (.tmp 25), some (22, true)⟩,
    ⟨some 27, .load false 1 (.tmp 26) false, some (22, true)⟩,
    ⟨some 28, .pick (.tmp 22) (.tmp 27) (.const (.bool false)), none⟩,
    ⟨some 6, .assign (.tmp 28), none⟩])
   (.seq (.region false [⟨some 29, .move (.tmp 6) false, none⟩,
    ⟨some 30, .move (.tmp 0) false, none⟩,
    ⟨some 31, .bin .gtr (.tmp 30) (.const (.int .i64 (0))), none⟩,
    ⟨some 32, .eqb false (.tmp 29) (.tmp 31), none⟩,
    ⟨some 4, .assign (.tmp 32), none⟩])
   .ret))))))⟩


/-- 'slices.Contains[[]int,int]' -/
def m32 : MFunc :=
  ⟨2, 9, [.tmp 4],
   (.seq (.region false [⟨some 4, .assign (.const (.bool false)), none⟩])
   (.seq (.region false [⟨some 5, .move (.tmp 0) false, none⟩,
    ⟨some 6, .move (.tmp 1) false, none⟩,
    ⟨some 7, .call 41 [(.tmp 5), (.tmp 6)], none⟩,
    ⟨some 8, .bin .geq (.tmp 7) (.const (.int .i64 (0))), none⟩,
    ⟨some 4, .assign (.tmp 8), none⟩])
   .ret))⟩

def l33_0 : MCode :=
   (.seq (.region false [⟨some 11, .bin .lss (.tmp 10) (.tmp 9), none⟩])
   (.seq (.cond (.tmp 11) .skip (.exit 0))
   (.seq (.block 1 (.seq (.region false [⟨some 12, .indexAddr 1 (.tmp 8) (.tmp 10), none⟩,
    ⟨some 13, .load false 1 (.tmp 12) false, none⟩,
    ⟨some 7, .assign (.tmp 13), none⟩])
   (.seq (.region false [⟨some 14, .move (.tmp 7) false, none⟩,
    ⟨some 15, .move (.tmp 1) false, none⟩,
    ⟨some 16, .bin .neq (.tmp 14) (.tmp 15), none⟩,
    ⟨some 17, .move (.tmp 16) false, none⟩,
    ⟨some 18, .load false 1 (.tmp 2) false, some (17, true)⟩,
    ⟨some 19, .move (.tmp 7) false, some (17, true)⟩,
    ⟨some 20, .lookup 0 false [(.bool false)] (.tmp 18) (.tmp 19) false, some (17, true)⟩,
    ⟨some 21, .un .not (.tmp 20), some (17, true)⟩,
    ⟨some 22, .pick (.tmp 17) (.tmp 21) (.const (.bool false)), none⟩])
   (.cond (.tmp 22) (.seq (.region false [⟨some 23, .load false 1 (.tmp 2) false, none⟩,
    ⟨some 24, .move (.tmp 7) false, none⟩,
    ⟨none, .mapUpdate 0 (.tmp 23) (.tmp 24) (.const (.bool true)), none⟩])
   (.region false [⟨some 25, .load false 1 (.tmp 3) true, none⟩,
    ⟨some 26, .move (.tmp 7) false, none⟩,
    ⟨some 27, .buildSlice 3 1 1 [(.int .i64 (0))] [(0, (.tmp 26))], none⟩,
    ⟨some 28, .append 3 1 8 false (.tmp 25) (.tmp 27), none⟩,
    ⟨none, .store 1 (.tmp 3) (.tmp 28), none⟩])) .skip))))
   (.region false [⟨some 29, .bin .add (.tmp 10) (.const (.int .i64 (1))), none⟩,
    ⟨some 10, .move (.tmp 29) false, none⟩]))))

/-- 'chamberlain/proof.Make$1' -/
def m33 : MFunc :=
  ⟨4, 30, [],
   (.seq (.region false [⟨some 8, .move (.tmp 0) false, none⟩,
    ⟨some 9, .len 0 (.tmp 8), none⟩,
    ⟨some 10, .move (.const (.int .i64 (0))) false, none⟩])
   (.block 0 (.loop [10, 3, 2, 1, 8, 9, 0] l33_0)))⟩

def l34_0 : MCode :=
   (.seq (.seq (.region false [⟨some 6, .move (.tmp 5) false, none⟩,
    ⟨some 7, .move (.tmp 0) false, none⟩,
    ⟨some 8, .len 0 (.tmp 7), none⟩,
    ⟨some 9, .bin .lss (.tmp 6) (.tmp 8), none⟩])
   (.cond (.tmp 9) .skip (.exit 0)))
   (.seq (.block 1 (.seq (.region false [⟨some 12, .move (.tmp 0) false, none⟩,
    ⟨some 13, .move (.tmp 5) false, none⟩,
    ⟨some 14, .indexAddr 1 (.tmp 12) (.tmp 13), none⟩,
    ⟨some 15, .load false 1 (.tmp 14) false, none⟩,
    ⟨some 16, .move (.tmp 1) false, none⟩,
    ⟨some 17, .bin .eql (.tmp 15) (.tmp 16), none⟩])
   (.cond (.tmp 17) (.seq (.region false [⟨some 4, .assign (.const (.bool true)), none⟩])
   .ret) .skip)))
   (.region false [⟨some 10, .move (.tmp 5) false, none⟩,
    ⟨some 11, .bin .add (.tmp 10) (.const (.int .i64 (1))), none⟩,
    ⟨some 5, .assign (.tmp 11), none⟩])))

/-- 'chamberlain/chamberlainref21.has' -/
def m34 : MFunc :=
  ⟨2, 18, [.tmp 4],
   (.seq (.region false [⟨some 4, .assign (.const (.bool false)), none⟩])
   (.seq (.seq (.region false [⟨some 5, .assign (.const (.int .i64 (0))), none⟩])
   (.block 0 (.loop [5, 1, 0, 4] l34_0)))
   (.seq (.region false [⟨some 4, .assign (.const (.bool false)), none⟩])
   .ret)))⟩


/-- 'chamberlain/solve.Check$1' -/
def m35 : MFunc :=
  ⟨2, 17, [.tmp 3],
   (.seq (.region false [⟨some 3, .assign (.const (.bool false)), none⟩])
   (.seq (.region false [⟨some 4, .move (.tmp 0) false, none⟩,
    ⟨some 5, .bin .eql (.tmp 4) (.const (.int .i64 (0))), none⟩,
    ⟨some 6, .move (.tmp 5) false, none⟩,
    ⟨some 7, .move (.tmp 0) false, some (6, false)⟩,
    ⟨some 8, .load false 1 (.tmp 1) false, some (6, false)⟩,
    ⟨some 9, .bin .gtr (.tmp 7) (.tmp 8), some (6, false)⟩,
    ⟨some 10, .pick (.tmp 6) (.const (.bool true)) (.tmp 9), none⟩,
    ⟨some 11, .move (.tmp 10) false, none⟩,
    ⟨some 12, .move (.tmp 0) false, some (11, false)⟩,
    ⟨some 13, .load false 1 (.tmp 1) false, some (11, false)⟩,
    ⟨some 14, .un .neg (.tmp 13), some (11, false)⟩,
    ⟨some 15, .bin .lss (.tmp 12) (.tmp 14), some (11, false)⟩,
    ⟨some 16, .pick (.tmp 11) (.const (.bool true)) (.tmp 15), none⟩,
    ⟨some 3, .assign (.tmp 16), none⟩])
   .ret))⟩


/-- 'chamberlain/solve.Check$2' -/
def m36 : MFunc :=
  ⟨2, 7, [.tmp 3],
   (.seq (.region false [⟨some 3, .assign (.const (.bool false)), none⟩])
   (.seq (.region false [⟨some 4, .move (.tmp 0) false, none⟩,
    ⟨some 5, .load false 1 (.tmp 1) false, none⟩,
    ⟨some 6, .call 37 [(.tmp 4), (.tmp 5)], none⟩,
    ⟨some 3, .assign (.tmp 6), none⟩])
   .ret))⟩


/-- 'slices.ContainsFunc[[]int,int]' -/
def m37 : MFunc :=
  ⟨2, 9, [.tmp 4],
   (.seq (.region false [⟨some 4, .assign (.const (.bool false)), none⟩])
   (.seq (.region false [⟨some 5, .move (.tmp 0) false, none⟩,
    ⟨some 6, .move (.tmp 1) false, none⟩,
    ⟨some 7, .call 42 [(.tmp 5), (.tmp 6)], none⟩,
    ⟨some 8, .bin .geq (.tmp 7) (.const (.int .i64 (0))), none⟩,
    ⟨some 4, .assign (.tmp 8), none⟩])
   .ret))⟩


/-- '(*chamberlain/solve.solver).try' -/
def m38 : MFunc :=
  ⟨1, 119, [.tmp 2, .tmp 3],
   (.seq (.region false [⟨some 1, .box (.tmp 0), none⟩,
    ⟨some 2, .assign (.const (.int .i64 (0))), none⟩,
    ⟨some 3, .assign (.const (.int .i64 (0))), none⟩])
   (.seq (.region false [⟨some 12, .load false 1 (.tmp 1) false, none⟩,
    ⟨some 13, .nilCheck (.tmp 12), none⟩,
    ⟨some 14, .fieldAddr 3 (.tmp 13), none⟩,
    ⟨some 15, .load false 1 (.tmp 14) false, none⟩,
    ⟨some 16, .len 0 (.tmp 15), none⟩,
    ⟨some 4, .alloc [(.int .i64 (0))], none⟩,
    ⟨none, .store 1 (.tmp 4) (.tmp 16), none⟩])
   (.seq (.seq (.region false [⟨some 17, .load false 1 (.tmp 1) false, none⟩,
    ⟨some 18, .call 43 [(.tmp 17)], none⟩,
    ⟨some 5, .assign (.tmp 18), none⟩])
   (.seq (.region false [⟨some 19, .move (.tmp 5) false, none⟩,
    ⟨some 20, .bin .geq (.tmp 19) (.const (.int .i64 (0))), none⟩])
   (.cond (.tmp 20) (.seq (.region false [⟨some 21, .load false 1 (.tmp 1) false, none⟩,
    ⟨some 22, .move (.tmp 5) false, none⟩,
    ⟨some 23, .call 44 [(.tmp 21), (.tmp 22)], none⟩,
    ⟨some 6, .assign (.tmp 23), none⟩])
   (.seq (.region false [⟨some 24, .load false 1 (.tmp 1) false, none⟩,
    ⟨some 25, .load false 1 (.tmp 4) false, none⟩,
    ⟨some 26, .call 45 [(.tmp 24), (.tmp 25)], none⟩])
   (.seq (.region false [⟨some 27, .move (.tmp 6) false, none⟩,
    ⟨some 2, .assign (.const (.int .i64 (2))), none⟩,
    ⟨some 3, .assign (.tmp 27), none⟩])
   .ret))) .skip)))
   (.seq (.region false [⟨some 28, .load false 1 (.tmp 1) false, none⟩,
    ⟨some 29, .nilCheck (.tmp 28), none⟩,
    ⟨some 30, .fieldAddr 2 (.tmp 29), none⟩,
    ⟨some 31, .load false 1 (.tmp 30) false, none⟩,
    ⟨some 32, .slice 1 (.tmp 31) (some (.const (.int .i64 (1)))) none, none⟩,
    ⟨some 33, .call 41 [(.tmp 32), (.const (.int .i64 (0)))], none⟩,
    ⟨some 34, .bin .add (.tmp 33) (.const (.int .i64 (1))), none⟩,
    ⟨some 7, .alloc [(.int .i64 (0))], none⟩,
    ⟨none, .store 1 (.tmp 7) (.tmp 34), none⟩])
   (.seq (.seq (.region false [⟨some 35, .load false 1 (.tmp 7) false, none⟩,
    ⟨some 36, .bin .eql (.tmp 35) (.const (.int .i64 (0))), none⟩])
   (.cond (.tmp 36) (.seq (.region false [⟨some 2, .assign (.const (.int .i64 (1))), none⟩,
    ⟨some 3, .assign (.const (.int .i64 (0))), none⟩])
   .ret) .skip))
   (.seq (.region false [⟨some 37, .mkfunc 46 [(.tmp 1), (.tmp 7), (.tmp 4)], none⟩,
    ⟨none, .defer (.tmp 37) [], none⟩])
   (.seq (.region false [⟨some 38, .load false 1 (.tmp 1) false, none⟩,
    ⟨some 39, .nilCheck (.tmp 38), none⟩,
    ⟨some 40, .fieldAddr 6 (.tmp 39), none⟩,
    ⟨some 41, .load false 1 (.tmp 40) false, none⟩,
    ⟨some 42, .bin .add (.tmp 41) (.const (.int .i64 (1))), none⟩,
    ⟨some 43, .nilCheck (.tmp 38), none⟩,
    ⟨some 44, .fieldAddr 6 (.tmp 43), none⟩,
    ⟨none, .store 1 (.tmp 44) (.tmp 42), none⟩])
   (.seq (.seq (.region false [⟨some 45, .load false 1 (.tmp 1) false, none⟩,
    ⟨some 46, .nilCheck (.tmp 45), none⟩,
    ⟨some 47, .fieldAddr 5 (.tmp 46), none⟩,
    ⟨some 48, .load false 1 (.tmp 47) false, none⟩,
    ⟨some 49, .bin .sub (.tmp 48) (.const (.int .i64 (1))), none⟩,
    ⟨some 50, .nilCheck (.tmp 45), none⟩,
    ⟨some 51, .fieldAddr 5 (.tmp 50), none⟩,
    ⟨none, .store 1 (.tmp 51) (.tmp 49), none⟩])
   (.seq (.region false [⟨some 52, .load false 1 (.tmp 1) false, none⟩,
    ⟨some 53, .nilCheck (.tmp 52), none⟩,
    ⟨some 54, .fieldAddr 5 (.tmp 53), none⟩,
    ⟨some 55, .load false 1 (.tmp 54) false, none⟩,
    ⟨some 56, .bin .lss (.tmp 55) (.const (.int .i64 (0))), none⟩])
   (.cond (.tmp 56) (.seq (.region false [⟨some 2, .assign (.const (.int .i64 (3))), none⟩,
    ⟨some 3, .assign (.const (.int .i64 (0))), none⟩])
   .ret) .skip)))
   (.seq (.region false [⟨some 57, .load false 1 (.tmp 1) false, none⟩,
    ⟨some 58, .nilCheck (.tmp 57), none⟩,
    ⟨some 59, .fieldAddr 3 (.tmp 58), none⟩,
    ⟨some 60, .load false 1 (.tmp 59) false, none⟩,
    ⟨some 61, .len 0 (.tmp 60), none⟩,
    ⟨some 8, .assign (.tmp 61), none⟩])
   (.seq (.region false [⟨some 62, .load false 1 (.tmp 1) false, none⟩,
    ⟨some 63, .load false 1 (.tmp 7) false, none⟩,
    ⟨some 64, .call 47 [(.tmp 62), (.tmp 63), (.const (.int .i64 (-1)))], none⟩])
   (.seq (.region false [⟨some 66, .load false 1 (.tmp 1) false, none⟩,
    ⟨some 67, .call 38 [(.tmp 66)], none⟩,
    ⟨some 65, .move (.tmp 67) false, none⟩,
    ⟨some 68, .extract (.tmp 65) 0, none⟩,
    ⟨some 69, .extract (.tmp 65) 1, none⟩,
    ⟨some 9, .assign (.tmp 68), none⟩,
    ⟨some 10, .assign (.tmp 69), none⟩])
   (.seq (.seq (.region false [⟨some 70, .move (.tmp 9) false, none⟩,
    ⟨some 71, .bin .neq (.tmp 70) (.const (.int .i64 (2))), none⟩])
   (.cond (.tmp 71) (.seq (.region false [⟨some 72, .move (.tmp 9) false, none⟩,
    ⟨some 2, .assign (.tmp 72), none⟩,
    ⟨some 3, .assign (.const (.int .i64 (0))), none⟩])
   .ret) .skip))
   (.seq (.region false [⟨some 73, .load false 1 (.tmp 1) false, none⟩,
    ⟨some 74, .move (.tmp 8) false, none⟩,
    ⟨some 75, .call 45 [(.tmp 73), (.tmp 74)], none⟩])
   (.seq (.seq (.region false [⟨some 76, .load false 1 (.tmp 1) false, none⟩,
    ⟨some 77, .nilCheck (.tmp 76), none⟩,
    ⟨some 78, .fieldAddr 0 (.tmp 77), none⟩,
    ⟨some 79, .load false 1 (.tmp 78) false, none⟩,
    ⟨some 80, .move (.tmp 10) false, none⟩,
    ⟨some 81, .indexAddr 1 (.tmp 79) (.tmp 80), none⟩,
    ⟨some 82, .load false 1 (.tmp 81) false, none⟩,
    ⟨some 83, .load false 1 (.tmp 7) false, none⟩,
    ⟨some 84, .un .neg (.tmp 83), none⟩,
    ⟨some 85, .call 32 [(.tmp 82), (.tmp 84)], none⟩,
    ⟨some 86, .un .not (.tmp 85), none⟩])
   (.cond (.tmp 86) (.seq (.region false [⟨some 87, .move (.tmp 10) false, none⟩,
    ⟨some 2, .assign (.const (.int .i64 (2))), none⟩,
    ⟨some 3, .assign (.tmp 87), none⟩])
   .ret) .skip))
   (.seq (.region false [⟨some 88, .load false 1 (.tmp 1) false, none⟩,
    ⟨some 89, .load false 1 (.tmp 7) false, none⟩,
    ⟨some 90, .un .neg (.tmp 89), none⟩,
    ⟨some 91, .call 47 [(.tmp 88), (.tmp 90), (.const (.int .i64 (-1)))], none⟩])
   (.seq (.region false [⟨some 93, .load false 1 (.tmp 1) false, none⟩,
    ⟨some 94, .call 38 [(.tmp 93)], none⟩,
    ⟨some 92, .move (.tmp 94) false, none⟩,
    ⟨some 95, .extract (.tmp 92) 0, none⟩,
    ⟨some 96, .extract (.tmp 92) 1, none⟩,
    ⟨some 9, .assign (.tmp 95), none⟩,
    ⟨some 11, .assign (.tmp 96), none⟩])
   (.seq (.seq (.region false [⟨some 97, .move (.tmp 9) false, none⟩,
    ⟨some 98, .bin .neq (.tmp 97) (.const (.int .i64 (2))), none⟩])
   (.cond (.tmp 98) (.seq (.region false [⟨some 99, .move (.tmp 9) false, none⟩,
    ⟨some 2, .assign (.tmp 99), none⟩,
    ⟨some 3, .assign (.const (.int .i64 (0))), none⟩])
   .ret) .skip))
   (.seq (.region false [⟨some 100, .load false 1 (.tmp 1) false, none⟩,
    ⟨some 101, .move (.tmp 8) false, none⟩,
    ⟨some 102, .call 45 [(.tmp 100), (.tmp 101)], none⟩])
   (.seq (.seq (.region false [⟨some 103, .load false 1 (.tmp 1) false, none⟩,
    ⟨some 104, .nilCheck (.tmp 103), none⟩,
    ⟨some 105, .fieldAddr 0 (.tmp 104), none⟩,
    ⟨some 106, .load false 1 (.tmp 105) false, none⟩,
    ⟨some 107, .move (.tmp 11) false, none⟩,
    ⟨some 108, .indexAddr 1 (.tmp 106) (.tmp 107), none⟩,
    ⟨some 109, .load false 1 (.tmp 108) false, none⟩,
    ⟨some 110, .load false 1 (.tmp 7) false, none⟩,
    ⟨some 111, .call 32 [(.tmp 109), (.tmp 110)], none⟩,
    ⟨some 112, .un .not (.tmp 111), none⟩])
   (.cond (.tmp 112) (.seq (.region false [⟨some 113, .move (.tmp 11) false, none⟩,
    ⟨some 2, .assign (.const (.int .i64 (2))), none⟩,
    ⟨some 3, .assign (.tmp 113), none⟩])
   .ret) .skip))
   (.seq (.region false [⟨some 114, .load false 1 (.tmp 1) false, none⟩,
    ⟨some 115, .move (.tmp 11) false, none⟩,
    ⟨some 116, .move (.tmp 10) false, none⟩,
    ⟨some 117, .load false 1 (.tmp 7) false, none⟩,
    ⟨some 118, .call 48 [(.tmp 114), (.tmp 115), (.tmp 116), (.tmp 117)], none⟩,
    ⟨some 2, .assign (.const (.int .i64 (2))), none⟩,
    ⟨some 3, .assign (.tmp 118), none⟩])
   .ret))))))))))))))))))))⟩

def l39_0 : MCode :=
   (.seq (.seq (.region false [⟨some 27, .move (.tmp 13) false, none⟩,
    ⟨some 28, .move (.tmp 11) false, none⟩,
    ⟨some 29, .len 0 (.tmp 28), none⟩,
    ⟨some 30, .bin .lss (.tmp 27) (.tmp 29), none⟩,
    ⟨some 31, .move (.tmp 30) false, none⟩,
    ⟨some 32, .move (.tmp 11) false, some (31, true)⟩,
    ⟨some 33, .move (.tmp 13) false, some (31, true)⟩,
    ⟨some 34, .indexAddr 1 (.tmp 32) (.tmp 33), some (31, true)⟩,
    ⟨some 35, .load false 1 (.tmp 34) false, some (31, true)⟩,
    ⟨some 36, .bin .gtr (.tmp 35) (.const (.int .i64 (0))), some (31, true)⟩,
    ⟨some 37, .pick (.tmp 31) (.tmp 36) (.const (.bool false)), none⟩])
   (.cond (.tmp 37) .skip (.exit 0)))
   (.block 1 (.region false [⟨some 38, .move (.tmp 13) false, none⟩,
    ⟨some 39, .bin .add (.tmp 38) (.const (.int .i64 (1))), none⟩,
    ⟨some 13, .assign (.tmp 39), none⟩])))

def l39_1 : MCode :=
   (.seq (.seq (.region false [⟨some 52, .move (.tmp 14) false, none⟩,
    ⟨some 53, .bin .leq (.tmp 52) (.const (.int .i64 (2))), none⟩])
   (.cond (.tmp 53) .skip (.exit 2)))
   (.seq (.block 3 (.seq (.region false [⟨some 15, .assign (.const (.sl [] (some 3))), none⟩])
   (.seq (.region false [⟨some 56, .move (.tmp 15) true, none⟩,
    ⟨some 57, .move (.tmp 11) false, none⟩,
    ⟨some 58, .append 3 1 8 false (.tmp 56) (.tmp 57), none⟩,
    ⟨some 15, .assign (.tmp 58), none⟩])
   (.seq (.region false [⟨some 59, .move (.tmp 15) false, none⟩,
    ⟨some 60, .move (.tmp 13) false, none⟩,
    ⟨some 61, .move (.tmp 14) false, none⟩,
    ⟨some 62, .indexAddr 1 (.tmp 59) (.tmp 60), none⟩,
    ⟨none, .store 1 (.tmp 62) (.tmp 61), none⟩])
   (.seq (.region false [⟨some 64, .move (.tmp 0) false, none⟩,
    ⟨some 65, .move (.tmp 15) false, none⟩,
    ⟨some 66, .move (.tmp 2) false, none⟩,
    ⟨some 67, .move (.tmp 3) false, none⟩,
    ⟨some 68, .call 39 [(.tmp 64), (.tmp 65), (.tmp 66), (.tmp 67)], none⟩,
    ⟨some 63, .move (.tmp 68) false, none⟩,
    ⟨some 69, .extract (.tmp 63) 0, none⟩,
    ⟨some 70, .extract (.tmp 63) 1, none⟩,
    ⟨some 71, .extract (.tmp 63) 2, none⟩,
    ⟨some 16, .assign (.tmp 69), none⟩,
    ⟨some 17, .assign (.tmp 70), none⟩,
    ⟨some 18, .assign (.tmp 71), none⟩])
   (.seq (.region false [⟨some 72, .move (.tmp 18) false, none⟩,
    ⟨some 2, .assign (.tmp 72), none⟩])
   (.seq (.region false [⟨some 73, .move (.tmp 16) false, none⟩,
    ⟨some 74, .bin .neq (.tmp 73) (.const (.int .i64 (2))), none⟩])
   (.cond (.tmp 74) (.seq (.region false [⟨some 75, .move (.tmp 16) false, none⟩,
    ⟨some 76, .move (.tmp 17) false, none⟩,
    ⟨some 77, .move (.tmp 2) false, none⟩,
    ⟨some 8, .assign (.tmp 75), none⟩,
    ⟨some 9, .assign (.tmp 76), none⟩,
    ⟨some 10, .assign (.tmp 77), none⟩])
   .ret) .skip))))))))
   (.region false [⟨some 54, .move (.tmp 14) false, none⟩,
    ⟨some 55, .bin .add (.tmp 54) (.const (.int .i64 (1))), none⟩,
    ⟨some 14, .assign (.tmp 55), none⟩])))

/-- 'chamberlain/chamberlainref20.Try' -/
def m39 : MFunc :=
  ⟨4, 79, [.tmp 8, .tmp 9, .tmp 10],
   (.seq (.region false [⟨some 8, .assign (.const (.int .i64 (0))), none⟩,
    ⟨some 9, .assign (.const (.sl [] (some 3))), none⟩,
    ⟨some 10, .assign (.const (.int .i64 (0))), none⟩])
   (.seq (.region false [⟨some 20, .move (.tmp 0) false, none⟩,
    ⟨some 21, .move (.tmp 1) false, none⟩,
    ⟨some 22, .call 49 [(.tmp 20), (.tmp 21)], none⟩,
    ⟨some 19, .move (.tmp 22) false, none⟩,
    ⟨some 23, .extract (.tmp 19) 0, none⟩,
    ⟨some 24, .extract (.tmp 19) 1, none⟩,
    ⟨some 11, .assign (.tmp 23), none⟩,
    ⟨some 12, .assign (.tmp 24), none⟩])
   (.seq (.seq (.region false [⟨some 25, .move (.tmp 12) false, none⟩])
   (.cond (.tmp 25) (.seq (.region false [⟨some 26, .move (.tmp 2) false, none⟩,
    ⟨some 8, .assign (.const (.int .i64 (2))), none⟩,
    ⟨some 9, .assign (.const (.sl [] (some 3))), none⟩,
    ⟨some 10, .assign (.tmp 26), none⟩])
   .ret) .skip))
   (.seq (.region false [⟨some 13, .assign (.const (.int .i64 (0))), none⟩])
   (.seq (.block 0 (.loop [2, 14, 3, 0, 13, 11, 1, 8, 9, 10] l39_0))
   (.seq (.seq (.region false [⟨some 40, .move (.tmp 13) false, none⟩,
    ⟨some 41, .move (.tmp 11) false, none⟩,
    ⟨some 42, .len 0 (.tmp 41), none⟩,
    ⟨some 43, .bin .eql (.tmp 40) (.tmp 42), none⟩])
   (.cond (.tmp 43) (.seq (.region false [⟨some 44, .move (.tmp 11) false, none⟩,
    ⟨some 45, .move (.tmp 2) false, none⟩,
    ⟨some 8, .assign (.const (.int .i64 (1))), none⟩,
    ⟨some 9, .assign (.tmp 44), none⟩,
    ⟨some 10, .assign (.tmp 45), none⟩])
   .ret) .skip))
   (.seq (.region false [⟨some 46, .move (.tmp 2) false, none⟩,
    ⟨some 47, .bin .add (.tmp 46) (.const (.int .i64 (1))), none⟩,
    ⟨some 2, .assign (.tmp 47), none⟩])
   (.seq (.seq (.region false [⟨some 48, .move (.tmp 2) false, none⟩,
    ⟨some 49, .move (.tmp 3) false, none⟩,
    ⟨some 50, .bin .gtr (.tmp 48) (.tmp 49), none⟩])
   (.cond (.tmp 50) (.seq (.region false [⟨some 51, .move (.tmp 2) false, none⟩,
    ⟨some 8, .assign (.const (.int .i64 (3))), none⟩,
    ⟨some 9, .assign (.const (.sl [] (some 3))), none⟩,
    ⟨some 10, .assign (.tmp 51), none⟩])
   .ret) .skip))
   (.seq (.seq (.region false [⟨some 14, .assign (.const (.int .i64 (1))), none⟩])
   (.block 2 (.loop [2, 14, 3, 0, 13, 11, 1, 8, 9, 10] l39_1)))
   (.seq (.region false [⟨some 78, .move (.tmp 2) false, none⟩,
    ⟨some 8, .assign (.const (.int .i64 (2))), none⟩,
    ⟨some 9, .assign (.const (.sl [] (some 3))), none⟩,
    ⟨some 10, .assign (.tmp 78), none⟩])
   .ret))))))))))⟩

def l40_0 : MCode :=
   (.seq (.region false [⟨some 9, .bin .lss (.tmp 8) (.tmp 7), none⟩])
   (.seq (.cond (.tmp 9) .skip (.exit 0))
   (.seq (.block 1 (.seq (.region false [⟨some 10, .move (.tmp 8) false, none⟩,
    ⟨some 5, .assign (.tmp 10), none⟩])
   (.seq (.region false [⟨some 11, .move (.tmp 1) false, none⟩,
    ⟨some 12, .move (.tmp 0) false, none⟩,
    ⟨some 13, .move (.tmp 5) false, none⟩,
    ⟨some 14, .indexAddr 1 (.tmp 12) (.tmp 13), none⟩,
    ⟨some 15, .load false 1 (.tmp 14) false, none⟩,
    ⟨some 16, .callv (.tmp 11) [(.tmp 15)], none⟩])
   (.cond (.tmp 16) (.seq (.region false [⟨some 17, .move (.tmp 5) false, none⟩,
    ⟨some 4, .assign (.tmp 17), none⟩])
   .ret) .skip))))
   (.region false [⟨some 18, .bin .add (.tmp 8) (.const (.int .i64 (1))), none⟩,
    ⟨some 8, .move (.tmp 18) false, none⟩]))))

/-- 'slices.IndexFunc[[][]int,[]int]' -/
def m40 : MFunc :=
  ⟨2, 19, [.tmp 4],
   (.seq (.region false [⟨some 4, .assign (.const (.int .i64 (0))), none⟩])
   (.seq (.seq (.region false [⟨some 6, .move (.tmp 0) false, none⟩,
    ⟨some 7, .len 0 (.tmp 6), none⟩,
    ⟨some 8, .move (.const (.int .i64 (0))) false, none⟩])
   (.block 0 (.loop [8, 0, 1, 7, 4] l40_0)))
   (.seq (.region false [⟨some 4, .assign (.const (.int .i64 (-1))), none⟩])
   .ret)))⟩

def l41_0 : MCode :=
   (.seq (.region false [⟨some 9, .bin .lss (.tmp 8) (.tmp 7), none⟩])
   (.seq (.cond (.tmp 9) .skip (.exit 0))
   (.seq (.block 1 (.seq (.region false [⟨some 10, .move (.tmp 8) false, none⟩,
    ⟨some 5, .assign (.tmp 10), none⟩])
   (.seq (.region false [⟨some 11, .move (.tmp 1) false, none⟩,
    ⟨some 12, .move (.tmp 0) false, none⟩,
    ⟨some 13, .move (.tmp 5) false, none⟩,
    ⟨some 14, .indexAddr 1 (.tmp 12) (.tmp 13), none⟩,
    ⟨some 15, .load false 1 (.tmp 14) false, none⟩,
    ⟨some 16, .bin .eql (.tmp 11) (.tmp 15), none⟩])
   (.cond (.tmp 16) (.seq (.region false [⟨some 17, .move (.tmp 5) false, none⟩,
    ⟨some 4, .assign (.tmp 17), none⟩])
   .ret) .skip))))
   (.region false [⟨some 18, .bin .add (.tmp 8) (.const (.int .i64 (1))), none⟩,
    ⟨some 8, .move (.tmp 18) false, none⟩]))))

/-- 'slices.Index[[]int,int]' -/
def m41 : MFunc :=
  ⟨2, 19, [.tmp 4],
   (.seq (.region false [⟨some 4, .assign (.const (.int .i64 (0))), none⟩])
   (.seq (.seq (.region false [⟨some 6, .move (.tmp 0) false, none⟩,
    ⟨some 7, .len 0 (.tmp 6), none⟩,
    ⟨some 8, .move (.const (.int .i64 (0))) false, none⟩])
   (.block 0 (.loop [8, 0, 1, 7, 4] l41_0)))
   (.seq (.region false [⟨some 4, .assign (.const (.int .i64 (-1))), none⟩])
   .ret)))⟩

def l42_0 : MCode :=
   (.seq (.region false [⟨some 9, .bin .lss (.tmp 8) (.tmp 7), none⟩])
   (.seq (.cond (.tmp 9) .skip (.exit 0))
   (.seq (.block 1 (.seq (.region false [⟨some 10, .move (.tmp 8) false, none⟩,
    ⟨some 5, .assign (.tmp 10), none⟩])
   (.seq (.region false [⟨some 11, .move (.tmp 1) false, none⟩,
    ⟨some 12, .move (.tmp 0) false, none⟩,
    ⟨some 13, .move (.tmp 5) false, none⟩,
    ⟨some 14, .indexAddr 1 (.tmp 12) (.tmp 13), none⟩,
    ⟨some 15, .load false 1 (.tmp 14) false, none⟩,
    ⟨some 16, .callv (.tmp 11) [(.tmp 15)], none⟩])
   (.cond (.tmp 16) (.seq (.region false [⟨some 17, .move (.tmp 5) false, none⟩,
    ⟨some 4, .assign (.tmp 17), none⟩])
   .ret) .skip))))
   (.region false [⟨some 18, .bin .add (.tmp 8) (.const (.int .i64 (1))), none⟩,
    ⟨some 8, .move (.tmp 18) false, none⟩]))))

/-- 'slices.IndexFunc[[]int,int]' -/
def m42 : MFunc :=
  ⟨2, 19, [.tmp 4],
   (.seq (.region false [⟨some 4, .assign (.const (.int .i64 (0))), none⟩])
   (.seq (.seq (.region false [⟨some 6, .move (.tmp 0) false, none⟩,
    ⟨some 7, .len 0 (.tmp 6), none⟩,
    ⟨some 8, .move (.const (.int .i64 (0))) false, none⟩])
   (.block 0 (.loop [8, 0, 1, 7, 4] l42_0)))
   (.seq (.region false [⟨some 4, .assign (.const (.int .i64 (-1))), none⟩])
   .ret)))⟩

def l43_0 : MCode :=
   (.seq (.region false [⟨some 20, .bin .lss (.tmp 19) (.tmp 18), none⟩])
   (.seq (.cond (.tmp 20) .skip (.exit 2))
   (.seq (.block 3 (.seq (.region false [⟨some 21, .move (.tmp 19) false, none⟩,
    ⟨some 22, .indexAddr 1 (.tmp 17) (.tmp 19), none⟩,
    ⟨some 23, .load false 1 (.tmp 22) false, none⟩,
    ⟨some 4, .assign (.tmp 21), none⟩,
    ⟨some 5, .assign (.tmp 23), none⟩])
   (.seq (.region false [⟨some 25, .move (.tmp 0) false, none⟩,
    ⟨some 26, .move (.tmp 5) false, none⟩,
    ⟨some 27, .call 50 [(.tmp 25), (.tmp 26)], none⟩,
    ⟨some 24, .move (.tmp 27) false, none⟩,
    ⟨some 28, .extract (.tmp 24) 0, none⟩,
    ⟨some 29, .extract (.tmp 24) 1, none⟩,
    ⟨some 6, .assign (.tmp 28), none⟩,
    ⟨some 7, .assign (.tmp 29), none⟩])
   (.seq (.seq (.region false [⟨some 30, .move (.tmp 7) false, none⟩,
    ⟨some 31, .un .not (.tmp 30), none⟩])
   (.cond (.tmp 31) (.seq (.region false [⟨some 32, .move (.tmp 4) false, none⟩,
    ⟨some 2, .assign (.tmp 32), none⟩])
   .ret) .skip))
   (.seq (.region false [⟨some 33, .move (.tmp 6) false, none⟩,
    ⟨some 34, .bin .neq (.tmp 33) (.const (.int .i64 (0))), none⟩])
   (.cond (.tmp 34) (.seq (.region false [⟨some 35, .move (.tmp 0) false, none⟩,
    ⟨some 36, .move (.tmp 6) false, none⟩,
    ⟨some 37, .move (.tmp 4) false, none⟩,
    ⟨some 38, .call 47 [(.tmp 35), (.tmp 36), (.tmp 37)], none⟩])
   (.region false [⟨some 3, .assign (.const (.bool true)), none⟩])) .skip))))))
   (.region false [⟨some 39, .bin .add (.tmp 19) (.const (.int .i64 (1))), none⟩,
    ⟨some 19, .move (.tmp 39) false, none⟩]))))

def l43_1 : MCode :=
   (.seq (.seq (.region false [⟨some 8, .move (.tmp 3) false, none⟩])
   (.cond (.tmp 8) .skip (.exit 0)))
   (.block 1 (.seq (.region false [⟨some 3, .assign (.const (.bool false)), none⟩])
   (.seq (.region false [⟨some 9, .move (.tmp 0) false, none⟩,
    ⟨some 10, .nilCheck (.tmp 9), none⟩,
    ⟨some 11, .fieldAddr 0 (.tmp 10), none⟩,
    ⟨some 12, .load false 1 (.tmp 11) false, none⟩,
    ⟨some 13, .move (.tmp 0) false, none⟩,
    ⟨some 14, .nilCheck (.tmp 13), none⟩,
    ⟨some 15, .fieldAddr 1 (.tmp 14), none⟩,
    ⟨some 16, .load false 1 (.tmp 15) false, none⟩,
    ⟨some 17, .slice 1 (.tmp 12) none (some (.tmp 16)), none⟩,
    ⟨some 18, .len 0 (.tmp 17), none⟩,
    ⟨some 19, .move (.const (.int .i64 (0))) false, none⟩])
   (.block 2 (.loop [19, 0, 17, 18, 3, 2] l43_0))))))

/-- '(*chamberlain/solve.solver).spread' -/
def m43 : MFunc :=
  ⟨1, 40, [.tmp 2],
   (.seq (.region false [⟨some 2, .assign (.const (.int .i64 (0))), none⟩])
   (.seq (.seq (.region false [⟨some 3, .assign (.const (.bool true)), none⟩])
   (.block 0 (.loop [19, 0, 17, 18, 3, 2] l43_1)))
   (.seq (.region false [⟨some 2, .assign (.const (.int .i64 (-1))), none⟩])
   .ret)))⟩

def l44_0 : MCode :=
   (.seq (.seq (.region false [⟨some 13, .move (.tmp 5) false, none⟩,
    ⟨some 14, .bin .geq (.tmp 13) (.const (.int .i64 (0))), none⟩])
   (.cond (.tmp 14) .skip (.exit 0)))
   (.seq (.block 1 (.seq (.region false [⟨some 17, .move (.tmp 0) false, none⟩,
    ⟨some 18, .nilCheck (.tmp 17), none⟩,
    ⟨some 19, .fieldAddr 3 (.tmp 18), none⟩,
    ⟨some 20, .load false 1 (.tmp 19) false, none⟩,
    ⟨some 21, .move (.tmp 5) false, none⟩,
    ⟨some 22, .indexAddr 2 (.tmp 20) (.tmp 21), none⟩,
    ⟨some 23, .load true 2 (.tmp 22) false, none⟩,
    ⟨some 6, .alloc [(.int .i64 (0)), (.int .i64 (0))], none⟩,
    ⟨none, .store 2 (.tmp 6) (.tmp 23), none⟩])
   (.seq (.region false [⟨some 24, .fieldAddr 1 (.tmp 6), none⟩,
    ⟨some 25, .load false 1 (.tmp 24) false, none⟩,
    ⟨some 26, .bin .geq (.tmp 25) (.const (.int .i64 (0))), none⟩,
    ⟨some 27, .move (.tmp 26) false, none⟩,
    ⟨some 28, .move (.tmp 0) false, some (27, true)⟩,
    ⟨some 29, .nilCheck (.tmp 28), some (27, true)⟩,
    ⟨some 30, .fieldAddr 0 (.tmp 29), some (27, true)⟩,
    ⟨some 31, .load false 1 (.tmp 30) false, some (27, true)⟩,
    ⟨some 32, .move (.tmp 1) false, some (27, true)⟩,
    ⟨some 33, .indexAddr 1 (.tmp 31) (.tmp 32), some (27, true)⟩,
    ⟨some 34, .load false 1 (.tmp 33) false, some (27, true)⟩,
    ⟨some 35, .fieldAddr 0 (.tmp 6), some (27, true)⟩,
    ⟨some 36, .load false 1 (.tmp 35) false, some (27, true)⟩,
    ⟨some 37, .un .neg (.tmp 36), some (27, true)⟩,
    ⟨some 38, .call 32 [(.tmp 34), (.tmp 37)], some (27, true)⟩,
    ⟨some 39, .pick (.tmp 27) (.tmp 38) (.const (.bool false)), none⟩])
   (.cond (.tmp 39) (.region false [⟨some 40, .move (.tmp 0) false, none⟩,
    ⟨some 41, .fieldAddr 1 (.tmp 6), none⟩,
    ⟨some 42, .load false 1 (.tmp 41) false, none⟩,
    ⟨some 43, .move (.tmp 1) false, none⟩,
    ⟨some 44, .fieldAddr 0 (.tmp 6), none⟩,
    ⟨some 45, .load false 1 (.tmp 44) false, none⟩,
    ⟨some 46, .call 48 [(.tmp 40), (.tmp 42), (.tmp 43), (.tmp 45)], none⟩,
    ⟨some 1, .assign (.tmp 46), none⟩]) .skip))))
   (.region false [⟨some 15, .move (.tmp 5) false, none⟩,
    ⟨some 16, .bin .sub (.tmp 15) (.const (.int .i64 (1))), none⟩,
    ⟨some 5, .assign (.tmp 16), none⟩])))

/-- '(*chamberlain/solve.solver).why' -/
def m44 : MFunc :=
  ⟨2, 48, [.tmp 4],
   (.seq (.region false [⟨some 4, .assign (.const (.int .i64 (0))), none⟩])
   (.seq (.seq (.region false [⟨some 7, .move (.tmp 0) false, none⟩,
    ⟨some 8, .nilCheck (.tmp 7), none⟩,
    ⟨some 9, .fieldAddr 3 (.tmp 8), none⟩,
    ⟨some 10, .load false 1 (.tmp 9) false, none⟩,
    ⟨some 11, .len 0 (.tmp 10), none⟩,
    ⟨some 12, .bin .sub (.tmp 11) (.const (.int .i64 (1))), none⟩,
    ⟨some 5, .assign (.tmp 12), none⟩])
   (.block 0 (.loop [1, 5, 0, 4] l44_0)))
   (.seq (.region false [⟨some 47, .move (.tmp 1) false, none⟩,
    ⟨some 4, .assign (.tmp 47), none⟩])
   .ret)))⟩

def l45_0 : MCode :=
   (.seq (.region false [⟨some 14, .bin .lss (.tmp 13) (.tmp 12), none⟩])
   (.seq (.cond (.tmp 14) .skip (.exit 0))
   (.seq (.block 1 (.seq (.region false [⟨some 15, .indexAddr 2 (.tmp 11) (.tmp 13), none⟩,
    ⟨some 16, .load true 2 (.tmp 15) false, none⟩,
    ⟨some 5, .alloc [(.int .i64 (0)), (.int .i64 (0))], none⟩,
    ⟨none, .store 2 (.tmp 5) (.tmp 16), none⟩])
   (.region false [⟨some 17, .move (.tmp 0) false, none⟩,
    ⟨some 18, .nilCheck (.tmp 17), none⟩,
    ⟨some 19, .fieldAddr 2 (.tmp 18), none⟩,
    ⟨some 20, .load false 1 (.tmp 19) false, none⟩,
    ⟨some 21, .fieldAddr 0 (.tmp 5), none⟩,
    ⟨some 22, .load false 1 (.tmp 21) false, none⟩,
    ⟨some 23, .fieldAddr 0 (.tmp 5), none⟩,
    ⟨some 24, .load false 1 (.tmp 23) false, none⟩,
    ⟨some 25, .un .neg (.tmp 24), none⟩,
    ⟨some 26, .max [(.tmp 22), (.tmp 25)], none⟩,
    ⟨some 27, .indexAddr 1 (.tmp 20) (.tmp 26), none⟩,
    ⟨none, .store 1 (.tmp 27) (.const (.int .i64 (0))), none⟩])))
   (.region false [⟨some 28, .bin .add (.tmp 13) (.const (.int .i64 (1))), none⟩,
    ⟨some 13, .move (.tmp 28) false, none⟩]))))

/-- '(*chamberlain/solve.solver).back' -/
def m45 : MFunc :=
  ⟨2, 38, [],
   (.seq (.seq (.region false [⟨some 6, .move (.tmp 0) false, none⟩,
    ⟨some 7, .nilCheck (.tmp 6), none⟩,
    ⟨some 8, .fieldAddr 3 (.tmp 7), none⟩,
    ⟨some 9, .load false 1 (.tmp 8) false, none⟩,
    ⟨some 10, .move (.tmp 1) false, none⟩,
    ⟨some 11, .slice 2 (.tmp 9) (some (.tmp 10)) none, none⟩,
    ⟨some 12, .len 0 (.tmp 11), none⟩,
    ⟨some 13, .move (.const (.int .i64 (0))) false, none⟩])
   (.block 0 (.loop [1, 0, 13, 11, 12] l45_0)))
   (.region false [⟨some 29, .move (.tmp 0) false, none⟩,
    ⟨some 30, .move (.tmp 0) false, none⟩,
    ⟨some 31, .nilCheck (.tmp 30), none⟩,
    ⟨some 32, .fieldAddr 3 (.tmp 31), none⟩,
    ⟨some 33, .load false 1 (.tmp 32) false, none⟩,
    ⟨some 34, .move (.tmp 1) false, none⟩,
    ⟨some 35, .slice 2 (.tmp 33) none (some (.tmp 34)), none⟩,
    ⟨some 36, .nilCheck (.tmp 29), none⟩,
    ⟨some 37, .fieldAddr 3 (.tmp 36), none⟩,
    ⟨none, .store 1 (.tmp 37) (.tmp 35), none⟩]))⟩


/-- '(*chamberlain/solve.solver).try$1' -/
def m46 : MFunc :=
  ⟨3, 14, [],
   (.seq (.region false [⟨some 3, .load false 1 (.tmp 0) false, none⟩,
    ⟨some 4, .nilCheck (.tmp 3), none⟩,
    ⟨some 5, .fieldAddr 2 (.tmp 4), none⟩,
    ⟨some 6, .load false 1 (.tmp 5) false, none⟩,
    ⟨some 7, .load false 1 (.tmp 1) false, none⟩,
    ⟨some 8, .indexAddr 1 (.tmp 6) (.tmp 7), none⟩,
    ⟨some 9, .load false 1 (.tmp 8) false, none⟩,
    ⟨some 10, .bin .eql (.tmp 9) (.const (.int .i64 (0))), none⟩])
   (.cond (.tmp 10) (.region false [⟨some 11, .load false 1 (.tmp 0) false, none⟩,
    ⟨some 12, .load false 1 (.tmp 2) false, none⟩,
    ⟨some 13, .call 45 [(.tmp 11), (.tmp 12)], none⟩]) .skip))⟩


/-- '(*chamberlain/solve.solver).fix' -/
def m47 : MFunc :=
  ⟨3, 28, [],
   (.seq (.region false [⟨some 6, .move (.tmp 0) false, none⟩,
    ⟨some 7, .nilCheck (.tmp 6), none⟩,
    ⟨some 8, .fieldAddr 2 (.tmp 7), none⟩,
    ⟨some 9, .load false 1 (.tmp 8) false, none⟩,
    ⟨some 10, .move (.tmp 1) false, none⟩,
    ⟨some 11, .move (.tmp 1) false, none⟩,
    ⟨some 12, .un .neg (.tmp 11), none⟩,
    ⟨some 13, .max [(.tmp 10), (.tmp 12)], none⟩,
    ⟨some 14, .move (.tmp 1) false, none⟩,
    ⟨some 15, .indexAddr 1 (.tmp 9) (.tmp 13), none⟩,
    ⟨none, .store 1 (.tmp 15) (.tmp 14), none⟩])
   (.region false [⟨some 16, .move (.tmp 0) false, none⟩,
    ⟨some 17, .move (.tmp 0) false, none⟩,
    ⟨some 18, .nilCheck (.tmp 17), none⟩,
    ⟨some 19, .fieldAddr 3 (.tmp 18), none⟩,
    ⟨some 20, .load false 1 (.tmp 19) true, none⟩,
    ⟨some 21, .move (.tmp 1) false, none⟩,
    ⟨some 22, .move (.tmp 2) false, none⟩,
    ⟨some 23, .build [(.int .i64 (0)), (.int .i64 (0))] [(0, 1, (.tmp 21)), (1, 1, (.tmp 22))], none⟩,
    ⟨some 24, .buildSlice 88 2 1 [(.int .i64 (0)), (.int .i64 (0))] [(0, (.tmp 23))], none⟩,
    ⟨some 25, .append 88 2 16 true (.tmp 20) (.tmp 24), none⟩,
    ⟨some 26, .nilCheck (.tmp 16), none⟩,
    ⟨some 27, .fieldAddr 3 (.tmp 26), none⟩,
    ⟨none, .store 1 (.tmp 27) (.tmp 25), none⟩]))⟩


/-- '(*chamberlain/solve.solver).resolved' -/
def m48 : MFunc :=
  ⟨4, 62, [.tmp 8],
   (.seq (.region false [⟨some 8, .assign (.const (.int .i64 (0))), none⟩])
   (.seq (.region false [⟨some 9, .alloc [(.sl [] (some 3))], none⟩])
   (.seq (.region false [⟨some 11, .mkfunc 51 [(.tmp 9)], none⟩,
    ⟨some 10, .assign (.tmp 11), none⟩])
   (.seq (.region false [⟨some 12, .move (.tmp 10) false, none⟩,
    ⟨some 13, .move (.tmp 0) false, none⟩,
    ⟨some 14, .nilCheck (.tmp 13), none⟩,
    ⟨some 15, .fieldAddr 0 (.tmp 14), none⟩,
    ⟨some 16, .load false 1 (.tmp 15) false, none⟩,
    ⟨some 17, .move (.tmp 1) false, none⟩,
    ⟨some 18, .indexAddr 1 (.tmp 16) (.tmp 17), none⟩,
    ⟨some 19, .load false 1 (.tmp 18) false, none⟩,
    ⟨some 20, .move (.tmp 3) false, none⟩,
    ⟨some 21, .callv (.tmp 12) [(.tmp 19), (.tmp 20)], none⟩])
   (.seq (.region false [⟨some 22, .move (.tmp 10) false, none⟩,
    ⟨some 23, .move (.tmp 0) false, none⟩,
    ⟨some 24, .nilCheck (.tmp 23), none⟩,
    ⟨some 25, .fieldAddr 0 (.tmp 24), none⟩,
    ⟨some 26, .load false 1 (.tmp 25) false, none⟩,
    ⟨some 27, .move (.tmp 2) false, none⟩,
    ⟨some 28, .indexAddr 1 (.tmp 26) (.tmp 27), none⟩,
    ⟨some 29, .load false 1 (.tmp 28) false, none⟩,
    ⟨some 30, .move (.tmp 3) false, none⟩,
    ⟨some 31, .un .neg (.tmp 30), none⟩,
    ⟨some 32, .callv (.tmp 22) [(.tmp 29), (.tmp 31)], none⟩])
   (.seq (.region false [⟨some 33, .move (.tmp 0) false, none⟩,
    ⟨some 34, .move (.tmp 0) false, none⟩,
    ⟨some 35, .nilCheck (.tmp 34), none⟩,
    ⟨some 36, .fieldAddr 0 (.tmp 35), none⟩,
    ⟨some 37, .load false 1 (.tmp 36) true, none⟩,
    ⟨some 38, .load false 1 (.tmp 9) false, none⟩,
    ⟨some 39, .buildSlice 34 1 1 [(.sl [] (some 3))] [(0, (.tmp 38))], none⟩,
    ⟨some 40, .append 34 1 24 false (.tmp 37) (.tmp 39), none⟩,
    ⟨some 41, .nilCheck (.tmp 33), none⟩,
    ⟨some 42, .fieldAddr 0 (.tmp 41), none⟩,
    ⟨none, .store 1 (.tmp 42) (.tmp 40), none⟩])
   (.seq (.region false [⟨some 43, .move (.tmp 0) false, none⟩,
    ⟨some 44, .move (.tmp 0) false, none⟩,
    ⟨some 45, .nilCheck (.tmp 44), none⟩,
    ⟨some 46, .fieldAddr 4 (.tmp 45), none⟩,
    ⟨some 47, .load false 1 (.tmp 46) true, none⟩,
    ⟨some 48, .move (.tmp 1) false, none⟩,
    ⟨some 49, .move (.tmp 2) false, none⟩,
    ⟨some 50, .move (.tmp 3) false, none⟩,
    ⟨some 51, .build [(.int .i64 (0)), (.int .i64 (0)), (.int .i64 (0))] [(0, 1, (.tmp 48)), (1, 1, (.tmp 49)), (2, 1, (.tmp 50))], none⟩,
    ⟨some 52, .buildSlice 55 3 1 [(.int .i64 (0)), (.int .i64 (0)), (.int .i64 (0))] [(0, (.tmp 51))], none⟩,
    ⟨some 53, .append 55 3 24 false (.tmp 47) (.tmp 52), none⟩,
    ⟨some 54, .nilCheck (.tmp 43), none⟩,
    ⟨some 55, .fieldAddr 4 (.tmp 54), none⟩,
    ⟨none, .store 1 (.tmp 55) (.tmp 53), none⟩])
   (.seq (.region false [⟨some 56, .move (.tmp 0) false, none⟩,
    ⟨some 57, .nilCheck (.tmp 56), none⟩,
    ⟨some 58, .fieldAddr 0 (.tmp 57), none⟩,
    ⟨some 59, .load false 1 (.tmp 58) false, none⟩,
    ⟨some 60, .len 0 (.tmp 59), none⟩,
    ⟨some 61, .bin .sub (.tmp 60) (.const (.int .i64 (1))), none⟩,
    ⟨some 8, .assign (.tmp 61), none⟩])
   .ret))))))))⟩

def l49_0 : MCode :=
   (.seq (.seq (.region false [⟨some 23, .move (.tmp 12) false, none⟩,
    ⟨some 24, .move (.tmp 0) false, none⟩,
    ⟨some 25, .move (.tmp 8) false, none⟩,
    ⟨some 26, .indexAddr 1 (.tmp 24) (.tmp 25), none⟩,
    ⟨some 27, .load false 1 (.tmp 26) false, none⟩,
    ⟨some 28, .len 0 (.tmp 27), none⟩,
    ⟨some 29, .bin .lss (.tmp 23) (.tmp 28), none⟩])
   (.cond (.tmp 29) .skip (.exit 4)))
   (.seq (.block 5 (.seq (.region false [⟨some 32, .move (.tmp 6) false, none⟩,
    ⟨some 33, .move (.tmp 0) false, none⟩,
    ⟨some 34, .move (.tmp 8) false, none⟩,
    ⟨some 35, .indexAddr 1 (.tmp 33) (.tmp 34), none⟩,
    ⟨some 36, .load false 1 (.tmp 35) false, none⟩,
    ⟨some 37, .move (.tmp 12) false, none⟩,
    ⟨some 38, .indexAddr 1 (.tmp 36) (.tmp 37), none⟩,
    ⟨some 39, .load false 1 (.tmp 38) false, none⟩,
    ⟨some 40, .call 52 [(.tmp 32), (.tmp 39)], none⟩,
    ⟨some 13, .assign (.tmp 40), none⟩])
   (.seq (.region false [⟨some 41, .move (.tmp 11) false, none⟩,
    ⟨some 42, .move (.tmp 41) false, none⟩,
    ⟨some 43, .move (.tmp 13) false, some (42, false)⟩,
    ⟨some 44, .bin .eql (.tmp 43) (.const (.int .i64 (1))), some (42, false)⟩,
    ⟨some 45, .pick (.tmp 42) (.const (.bool true)) (.tmp 44), none⟩,
    ⟨some 11, .assign (.tmp 45), none⟩])
   (.seq (.region false [⟨some 46, .move (.tmp 13) false, none⟩,
    ⟨some 47, .bin .eql (.tmp 46) (.const (.int .i64 (0))), none⟩,
    ⟨some 48, .move (.tmp 47) false, none⟩,
    ⟨some 49, .move (.tmp 0) false, some (48, true)⟩,
    ⟨some 50, .move (.tmp 8) false, some (48, true)⟩,
    ⟨some 51, .indexAddr 1 (.tmp 49) (.tmp 50), some (48, true)⟩,
    ⟨some 52, .load false 1 (.tmp 51) false, some (48, true)⟩,
    ⟨some 53, .move (.tmp 12) false, some (48, true)⟩,
    ⟨some 54, .indexAddr 1 (.tmp 52) (.tmp 53), some (48, true)⟩,
    ⟨some 55, .load false 1 (.tmp 54) false, some (48, true)⟩,
    ⟨some 56, .move (.tmp 10) false, some (48, true)⟩,
    ⟨some 57, .bin .neq (.tmp 55) (.tmp 56), some (48, true)⟩,
    ⟨some 58, .pick (.tmp 48) (.tmp 57) (.const (.bool false)), none⟩])
   (.cond (.tmp 58) (.seq (.region false [⟨some 59, .move (.tmp 9) false, none⟩,
    ⟨some 60, .bin .add (.tmp 59) (.const (.int .i64 (1))), none⟩,
    ⟨some 9, .assign (.tmp 60), none⟩])
   (.region false [⟨some 61, .move (.tmp 0) false, none⟩,
    ⟨some 62, .move (.tmp 8) false, none⟩,
    ⟨some 63, .indexAddr 1 (.tmp 61) (.tmp 62), none⟩,
    ⟨some 64, .load false 1 (.tmp 63) false, none⟩,
    ⟨some 65, .move (.tmp 12) false, none⟩,
    ⟨some 66, .indexAddr 1 (.tmp 64) (.tmp 65), none⟩,
    ⟨some 67, .load false 1 (.tmp 66) false, none⟩,
    ⟨some 10, .assign (.tmp 67), none⟩])) .skip)))))
   (.region false [⟨some 30, .move (.tmp 12) false, none⟩,
    ⟨some 31, .bin .add (.tmp 30) (.const (.int .i64 (1))), none⟩,
    ⟨some 12, .assign (.tmp 31), none⟩])))

def l49_1 : MCode :=
   (.seq (.seq (.region false [⟨some 17, .move (.tmp 8) false, none⟩,
    ⟨some 18, .move (.tmp 0) false, none⟩,
    ⟨some 19, .len 0 (.tmp 18), none⟩,
    ⟨some 20, .bin .lss (.tmp 17) (.tmp 19), none⟩])
   (.cond (.tmp 20) .skip (.exit 2)))
   (.seq (.block 3 (.seq (.region false [⟨some 9, .assign (.const (.int .i64 (0))), none⟩])
   (.seq (.region false [⟨some 10, .assign (.const (.int .i64 (0))), none⟩])
   (.seq (.region false [⟨some 11, .assign (.const (.bool false)), none⟩])
   (.seq (.seq (.region false [⟨some 12, .assign (.const (.int .i64 (0))), none⟩])
   (.block 4 (.loop [6, 7, 8, 10, 9, 11, 12, 0, 1, 4, 5] l49_0)))
   (.seq (.seq (.region false [⟨some 68, .move (.tmp 11) false, none⟩,
    ⟨some 69, .move (.tmp 68) false, none⟩,
    ⟨some 70, .move (.tmp 9) false, some (69, false)⟩,
    ⟨some 71, .bin .gtr (.tmp 70) (.const (.int .i64 (1))), some (69, false)⟩,
    ⟨some 72, .pick (.tmp 69) (.const (.bool true)) (.tmp 71), none⟩])
   (.cond (.tmp 72) (.exit 3) .skip))
   (.seq (.seq (.region false [⟨some 73, .move (.tmp 9) false, none⟩,
    ⟨some 74, .bin .eql (.tmp 73) (.const (.int .i64 (0))), none⟩])
   (.cond (.tmp 74) (.seq (.region false [⟨some 75, .move (.tmp 6) false, none⟩,
    ⟨some 4, .assign (.tmp 75), none⟩,
    ⟨some 5, .assign (.const (.bool true)), none⟩])
   .ret) .skip))
   (.seq (.region false [⟨some 7, .assign (.const (.bool true)), none⟩])
   (.seq (.region false [⟨some 76, .move (.tmp 10) false, none⟩,
    ⟨some 77, .bin .gtr (.tmp 76) (.const (.int .i64 (0))), none⟩])
   (.cond (.tmp 77) (.region false [⟨some 78, .move (.tmp 6) false, none⟩,
    ⟨some 79, .move (.tmp 10) false, none⟩,
    ⟨some 80, .bin .sub (.tmp 79) (.const (.int .i64 (1))), none⟩,
    ⟨some 81, .indexAddr 1 (.tmp 78) (.tmp 80), none⟩,
    ⟨none, .store 1 (.tmp 81) (.const (.int .i64 (1))), none⟩]) (.region false [⟨some 82, .move (.tmp 6) false, none⟩,
    ⟨some 83, .move (.tmp 10) false, none⟩,
    ⟨some 84, .un .neg (.tmp 83), none⟩,
    ⟨some 85, .bin .sub (.tmp 84) (.const (.int .i64 (1))), none⟩,
    ⟨some 86, .indexAddr 1 (.tmp 82) (.tmp 85), none⟩,
    ⟨none, .store 1 (.tmp 86) (.const (.int .i64 (2))), none⟩])))))))))))
   (.region false [⟨some 21, .move (.tmp 8) false, none⟩,
    ⟨some 22, .bin .add (.tmp 21) (.const (.int .i64 (1))), none⟩,
    ⟨some 8, .assign (.tmp 22), none⟩])))

def l49_2 : MCode :=
   (.block 1 (.seq (.region false [⟨some 7, .assign (.const (.bool false)), none⟩])
   (.seq (.seq (.region false [⟨some 8, .assign (.const (.int .i64 (0))), none⟩])
   (.block 2 (.loop [6, 7, 8, 10, 9, 11, 12, 0, 1, 4, 5] l49_1)))
   (.seq (.region false [⟨some 87, .move (.tmp 7) false, none⟩,
    ⟨some 88, .un .not (.tmp 87), none⟩])
   (.cond (.tmp 88) (.seq (.region false [⟨some 89, .move (.tmp 6) false, none⟩,
    ⟨some 4, .assign (.tmp 89), none⟩,
    ⟨some 5, .assign (.const (.bool false)), none⟩])
   .ret) .skip)))))

/-- 'chamberlain/chamberlainref20.Spread' -/
def m49 : MFunc :=
  ⟨2, 90, [.tmp 4, .tmp 5],
   (.seq (.region false [⟨some 4, .assign (.const (.sl [] (some 3))), none⟩,
    ⟨some 5, .assign (.const (.bool false)), none⟩])
   (.seq (.region false [⟨some 6, .assign (.const (.sl [] (some 3))), none⟩])
   (.seq (.region false [⟨some 14, .move (.tmp 6) true, none⟩,
    ⟨some 15, .move (.tmp 1) false, none⟩,
    ⟨some 16, .append 3 1 8 false (.tmp 14) (.tmp 15), none⟩,
    ⟨some 6, .assign (.tmp 16), none⟩])
   (.block 0 (.loop [6, 7, 8, 10, 9, 11, 12, 0, 1, 4, 5] l49_2)))))⟩

def l50_0 : MCode :=
   (.seq (.region false [⟨some 12, .bin .lss (.tmp 11) (.tmp 10), none⟩])
   (.seq (.cond (.tmp 12) .skip (.exit 0))
   (.seq (.block 1 (.seq (.region false [⟨some 13, .indexAddr 1 (.tmp 9) (.tmp 11), none⟩,
    ⟨some 14, .load false 1 (.tmp 13) false, none⟩,
    ⟨some 8, .assign (.tmp 14), none⟩])
   (.seq (.region false [⟨some 15, .move (.tmp 0) false, none⟩,
    ⟨some 16, .move (.tmp 8) false, none⟩,
    ⟨some 17, .call 53 [(.tmp 15), (.tmp 16)], none⟩])
   (.block 2 (.seq (.region false [⟨some 19, .bin .eql (.tmp 17) (.const (.int .i64 (1))), none⟩,
    ⟨some 18, .assign (.tmp 19), none⟩])
   (.cond (.tmp 18) (.seq (.region false [⟨some 4, .assign (.const (.int .i64 (0))), none⟩,
    ⟨some 5, .assign (.const (.bool true)), none⟩])
   .ret) (.seq (.region false [⟨some 21, .bin .eql (.tmp 17) (.const (.int .i64 (0))), none⟩,
    ⟨some 20, .assign (.tmp 21), none⟩])
   (.cond (.tmp 20) (.seq (.seq (.region false [⟨some 22, .move (.tmp 6) false, none⟩,
    ⟨some 23, .bin .neq (.tmp 22) (.const (.int .i64 (0))), none⟩,
    ⟨some 24, .move (.tmp 23) false, none⟩,
    ⟨some 25, .move (.tmp 6) false, some (24, true)⟩,
    ⟨some 26, .move (.tmp 8) false, some (24, true)⟩,
    ⟨some 27, .bin .neq (.tmp 25) (.tmp 26), some (24, true)⟩,
    ⟨some 28, .pick (.tmp 24) (.tmp 27) (.const (.bool false)), none⟩])
   (.cond (.tmp 28) (.seq (.region false [⟨some 4, .assign (.const (.int .i64 (0))), none⟩,
    ⟨some 5, .assign (.const (.bool true)), none⟩])
   .ret) .skip))
   (.region false [⟨some 29, .move (.tmp 8) false, none⟩,
    ⟨some 6, .assign (.tmp 29), none⟩])) .skip))))))))
   (.region false [⟨some 30, .bin .add (.tmp 11) (.const (.int .i64 (1))), none⟩,
    ⟨some 11, .move (.tmp 30) false, none⟩]))))

/-- '(*chamberlain/solve.solver).look' -/
def m50 : MFunc :=
  ⟨2, 34, [.tmp 4, .tmp 5],
   (.seq (.region false [⟨some 4, .assign (.const (.int .i64 (0))), none⟩,
    ⟨some 5, .assign (.const (.bool false)), none⟩])
   (.seq (.region false [⟨some 6, .assign (.const (.int .i64 (0))), none⟩])
   (.seq (.seq (.region false [⟨some 9, .move (.tmp 1) false, none⟩,
    ⟨some 10, .len 0 (.tmp 9), none⟩,
    ⟨some 11, .move (.const (.int .i64 (0))) false, none⟩])
   (.block 0 (.loop [6, 11, 0, 9, 10, 1, 4, 5] l50_0)))
   (.seq (.region false [⟨some 31, .move (.tmp 6) false, none⟩,
    ⟨some 32, .move (.tmp 6) false, none⟩,
    ⟨some 33, .bin .neq (.tmp 32) (.const (.int .i64 (0))), none⟩,
    ⟨some 4, .assign (.tmp 31), none⟩,
    ⟨some 5, .assign (.tmp 33), none⟩])
   .ret))))⟩

def l51_0 : MCode :=
   (.seq (.region false [⟨some 10, .bin .lss (.tmp 9) (.tmp 8), none⟩])
   (.seq (.cond (.tmp 10) .skip (.exit 0))
   (.seq (.block 1 (.seq (.region false [⟨some 11, .indexAddr 1 (.tmp 7) (.tmp 9), none⟩,
    ⟨some 12, .load false 1 (.tmp 11) false, none⟩,
    ⟨some 6, .assign (.tmp 12), none⟩])
   (.seq (.region false [⟨some 13, .move (.tmp 6) false, none⟩,
    ⟨some 14, .move (.tmp 1) false, none⟩,
    ⟨some 15, .bin .neq (.tmp 13) (.tmp 14), none⟩,
    ⟨some 16, .move (.tmp 15) false, none⟩,
    ⟨some 17, .load false 1 (.tmp 2) false, some (16, true)⟩,
    ⟨some 18, .move (.tmp 6) false, some (16, true)⟩,
    ⟨some 19, .call 32 [(.tmp 17), (.tmp 18)], some (16, true)⟩,
    ⟨some 20, .un .not (.tmp 19), some (16, true)⟩,
    ⟨some 21, .pick (.tmp 16) (.tmp 20) (.const (.bool false)), none⟩])
   (.cond (.tmp 21) (.region false [⟨some 22, .load false 1 (.tmp 2) true, none⟩,
    ⟨some 23, .move (.tmp 6) false, none⟩,
    ⟨some 24, .buildSlice 3 1 1 [(.int .i64 (0))] [(0, (.tmp 23))], none⟩,
    ⟨some 25, .append 3 1 8 false (.tmp 22) (.tmp 24), none⟩,
    ⟨none, .store 1 (.tmp 2) (.tmp 25), none⟩]) .skip))))
   (.region false [⟨some 26, .bin .add (.tmp 9) (.const (.int .i64 (1))), none⟩,
    ⟨some 9, .move (.tmp 26) false, none⟩]))))

/-- '(*chamberlain/solve.solver).resolved$1' -/
def m51 : MFunc :=
  ⟨3, 27, [],
   (.seq (.region false [⟨some 7, .move (.tmp 0) false, none⟩,
    ⟨some 8, .len 0 (.tmp 7), none⟩,
    ⟨some 9, .move (.const (.int .i64 (0))) false, none⟩])
   (.block 0 (.loop [9, 2, 1, 7, 8, 0] l51_0)))⟩


/-- 'chamberlain/chamberlainref20.so' -/
def m52 : MFunc :=
  ⟨2, 23, [.tmp 4],
   (.seq (.region false [⟨some 4, .assign (.const (.int .i64 (0))), none⟩])
   (.seq (.seq (.region false [⟨some 6, .move (.tmp 1) false, none⟩,
    ⟨some 7, .bin .gtr (.tmp 6) (.const (.int .i64 (0))), none⟩])
   (.cond (.tmp 7) (.seq (.region false [⟨some 8, .move (.tmp 0) false, none⟩,
    ⟨some 9, .move (.tmp 1) false, none⟩,
    ⟨some 10, .bin .sub (.tmp 9) (.const (.int .i64 (1))), none⟩,
    ⟨some 11, .indexAddr 1 (.tmp 8) (.tmp 10), none⟩,
    ⟨some 12, .load false 1 (.tmp 11) false, none⟩,
    ⟨some 4, .assign (.tmp 12), none⟩])
   .ret) .skip))
   (.seq (.region false [⟨some 13, .move (.tmp 0) false, none⟩,
    ⟨some 14, .move (.tmp 1) false, none⟩,
    ⟨some 15, .un .neg (.tmp 14), none⟩,
    ⟨some 16, .bin .sub (.tmp 15) (.const (.int .i64 (1))), none⟩,
    ⟨some 17, .indexAddr 1 (.tmp 13) (.tmp 16), none⟩,
    ⟨some 18, .load false 1 (.tmp 17) false, none⟩,
    ⟨some 5, .assign (.tmp 18), none⟩])
   (.seq (.seq (.region false [⟨some 19, .move (.tmp 5) false, none⟩,
    ⟨some 20, .bin .eql (.tmp 19) (.const (.int .i64 (0))), none⟩])
   (.cond (.tmp 20) (.seq (.region false [⟨some 4, .assign (.const (.int .i64 (0))), none⟩])
   .ret) .skip))
   (.seq (.region false [⟨some 21, .move (.tmp 5) false, none⟩,
    ⟨some 22, .bin .sub (.const (.int .i64 (3))) (.tmp 21), none⟩,
    ⟨some 4, .assign (.tmp 22), none⟩])
   .ret)))))⟩


/-- '(*chamberlain/solve.solver).so' -/
def m53 : MFunc :=
  ⟨2, 20, [.tmp 4],
   (.seq (.region false [⟨some 4, .assign (.const (.int .i64 (0))), none⟩])
   (.seq (.seq (.region false [⟨some 5, .move (.tmp 0) false, none⟩,
    ⟨some 6, .nilCheck (.tmp 5), none⟩,
    ⟨some 7, .fieldAddr 2 (.tmp 6), none⟩,
    ⟨some 8, .load false 1 (.tmp 7) false, none⟩,
    ⟨some 9, .move (.tmp 1) false, none⟩,
    ⟨some 10, .move (.tmp 1) false, none⟩,
    ⟨some 11, .un .neg (.tmp 10), none⟩,
    ⟨some 12, .max [(.tmp 9), (.tmp 11)], none⟩,
    ⟨some 13, .indexAddr 1 (.tmp 8) (.tmp 12), none⟩,
    ⟨some 14, .load false 1 (.tmp 13) false, none⟩])
   (.block 0 (.seq (.region false [⟨some 16, .bin .eql (.tmp 14) (.const (.int .i64 (0))), none⟩,
    ⟨some 15, .assign (.tmp 16), none⟩])
   (.cond (.tmp 15) (.seq (.region false [⟨some 4, .assign (.const (.int .i64 (0))), none⟩])
   .ret) (.seq (.region false [⟨some 18, .move (.tmp 1) false, none⟩,
    ⟨some 19, .bin .eql (.tmp 14) (.tmp 18), none⟩,
    ⟨some 17, .assign (.tmp 19), none⟩])
   (.cond (.tmp 17) (.seq (.region false [⟨some 4, .assign (.const (.int .i64 (1))), none⟩])
   .ret) .skip))))))
   (.seq (.region false [⟨some 4, .assign (.const (.int .i64 (-1))), none⟩])
   .ret)))⟩

/-- The functions. -/
def T : Table
  | 3 => some m3
  | 4 => some m4
  | 5 => some m5
  | 6 => some m6
  | 7 => some m7
  | 8 => some m8
  | 9 => some m9
  | 10 => some m10
  | 11 => some m11
  | 12 => some m12
  | 13 => some m13
  | 14 => some m14
  | 15 => some m15
  | 16 => some m16
  | 17 => some m17
  | 18 => some m18
  | 19 => some m19
  | 20 => some m20
  | 21 => some m21
  | 22 => some m22
  | 23 => some m23
  | 24 => some m24
  | 25 => some m25
  | 26 => some m26
  | 27 => some m27
  | 28 => some m28
  | 29 => some m29
  | 30 => some m30
  | 31 => some m31
  | 32 => some m32
  | 33 => some m33
  | 34 => some m34
  | 35 => some m35
  | 36 => some m36
  | 37 => some m37
  | 38 => some m38
  | 39 => some m39
  | 40 => some m40
  | 41 => some m41
  | 42 => some m42
  | 43 => some m43
  | 44 => some m44
  | 45 => some m45
  | 46 => some m46
  | 47 => some m47
  | 48 => some m48
  | 49 => some m49
  | 50 => some m50
  | 51 => some m51
  | 52 => some m52
  | 53 => some m53
  | _ => none
end Go.Abs.B
