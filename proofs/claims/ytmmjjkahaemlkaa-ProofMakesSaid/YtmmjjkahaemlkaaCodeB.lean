/-
  The machine code of the functions that ProofMakes comes to: printed by a program (Print.lean).
-/
import Derived.Test.YtmmjjkahaemlkaaSem
namespace Go.Abs.B
open Go Go.Abs
def l5_0 : MCode :=
   (.seq (.seq (.region false [⟨some 48, .move (.tmp 12) false, none⟩,
    ⟨some 49, .move (.tmp 8) false, none⟩,
    ⟨some 50, .len 0 (.tmp 49), none⟩,
    ⟨some 51, .bin .lss (.tmp 48) (.tmp 50), none⟩])
   (.cond (.tmp 51) .skip (.exit 0)))
   (.seq (.block 1 (.seq (.region false [⟨some 54, .move (.tmp 8) false, none⟩,
    ⟨some 55, .move (.tmp 12) false, none⟩,
    ⟨some 56, .indexAddr 1 (.tmp 54) (.tmp 55), none⟩,
    ⟨some 57, .load false 1 (.tmp 56) false, none⟩,
    ⟨some 58, .move (.tmp 10) false, none⟩,
    ⟨some 59, .move (.tmp 12) false, none⟩,
    ⟨some 60, .indexAddr 1 (.tmp 58) (.tmp 59), none⟩,
    ⟨some 61, .load false 1 (.tmp 60) false, none⟩,
    ⟨some 62, .bin .neq (.tmp 57) (.tmp 61), none⟩])
   (.cond (.tmp 62) (.seq (.region false [⟨some 6, .assign (.const (.bool false)), none⟩])
   .ret) .skip)))
   (.region false [⟨some 52, .move (.tmp 12) false, none⟩,
    ⟨some 53, .bin .add (.tmp 52) (.const (.int .i64 (1))), none⟩,
    ⟨some 12, .assign (.tmp 53), none⟩])))

/-- 'chamberlain/chamberlainlaw21.ProofMakes' -/
def m5 : MFunc :=
  ⟨3, 63, [.tmp 6],
   (.seq (.region false [⟨some 6, .assign (.const (.bool false)), none⟩])
   (.seq (.region false [⟨some 13, .call 12 [], none⟩,
    ⟨some 7, .assign (.tmp 13), none⟩])
   (.seq (.seq (.region false [⟨some 14, .move (.tmp 7) false, none⟩,
    ⟨some 15, .un .not (.tmp 14), none⟩])
   (.cond (.tmp 15) (.seq (.region false [⟨some 6, .assign (.const (.bool false)), none⟩])
   .ret) .skip))
   (.seq (.seq (.region false [⟨some 16, .move (.tmp 0) false, none⟩,
    ⟨some 17, .len 0 (.tmp 16), none⟩,
    ⟨some 18, .bin .gtr (.tmp 17) (.const (.int .i64 (30))), none⟩,
    ⟨some 19, .move (.tmp 18) false, none⟩,
    ⟨some 20, .move (.tmp 1) false, some (19, false)⟩,
    ⟨some 21, .len 0 (.tmp 20), some (19, false)⟩,
    ⟨some 22, .bin .gtr (.tmp 21) (.const (.int .i64 (30))), some (19, false)⟩,
    ⟨some 23, .pick (.tmp 19) (.const (.bool true)) (.tmp 22), none⟩])
   (.cond (.tmp 23) (.seq (.region false [⟨some 6, .assign (.const (.bool true)), none⟩])
   .ret) .skip))
   (.seq (.region false [⟨some 25, .move (.tmp 0) false, none⟩,
    ⟨some 26, .move (.tmp 1) false, none⟩,
    ⟨some 27, .move (.tmp 2) false, none⟩,
    ⟨some 28, .call 20 [(.tmp 25), (.tmp 26), (.tmp 27)], none⟩,
    ⟨some 24, .move (.tmp 28) false, none⟩,
    ⟨some 29, .extract (.tmp 24) 0, none⟩,
    ⟨some 30, .extract (.tmp 24) 1, none⟩,
    ⟨some 8, .assign (.tmp 29), none⟩,
    ⟨some 9, .assign (.tmp 30), none⟩])
   (.seq (.region false [⟨some 32, .move (.tmp 0) false, none⟩,
    ⟨some 33, .move (.tmp 1) false, none⟩,
    ⟨some 34, .move (.tmp 2) false, none⟩,
    ⟨some 35, .call 21 [(.tmp 32), (.tmp 33), (.tmp 34)], none⟩,
    ⟨some 31, .move (.tmp 35) false, none⟩,
    ⟨some 36, .extract (.tmp 31) 0, none⟩,
    ⟨some 37, .extract (.tmp 31) 1, none⟩,
    ⟨some 10, .assign (.tmp 36), none⟩,
    ⟨some 11, .assign (.tmp 37), none⟩])
   (.seq (.seq (.region false [⟨some 38, .move (.tmp 9) false, none⟩,
    ⟨some 39, .move (.tmp 11) false, none⟩,
    ⟨some 40, .bin .neq (.tmp 38) (.tmp 39), none⟩,
    ⟨some 41, .move (.tmp 40) false, none⟩,
    ⟨some 42, .move (.tmp 8) false, some (41, false)⟩,
    ⟨some 43, .len 0 (.tmp 42), some (41, false)⟩,
    ⟨some 44, .move (.tmp 10) false, some (41, false)⟩,
    ⟨some 45, .len 0 (.tmp 44), some (41, false)⟩,
    ⟨some 46, .bin .neq (.tmp 43) (.tmp 45), some (41, false)⟩,
    ⟨some 47, .pick (.tmp 41) (.const (.bool true)) (.tmp 46), none⟩])
   (.cond (.tmp 47) (.seq (.region false [⟨some 6, .assign (.const (.bool false)), none⟩])
   .ret) .skip))
   (.seq (.seq (.region false [⟨some 12, .assign (.const (.int .i64 (0))), none⟩])
   (.block 0 (.loop [12, 10, 8, 2, 1, 0, 6] l5_0)))
   (.seq (.region false [⟨some 6, .assign (.const (.bool true)), none⟩])
   .ret)))))))))⟩


/-- 'chamberlain/chamberlainlaw21.awake' -/
def m12 : MFunc :=
  ⟨0, 75, [.tmp 0],
   (.seq (.region false [⟨some 0, .assign (.const (.bool false)), none⟩])
   (.seq (.region false [⟨some 8, .buildSlice 3 1 2 [(.int .i64 (0))] [(0, (.const (.int .i64 (1)))), (1, (.const (.int .i64 (2))))], none⟩,
    ⟨some 9, .buildSlice 3 1 2 [(.int .i64 (0))] [(0, (.const (.int .i64 (-1)))), (1, (.const (.int .i64 (3))))], none⟩,
    ⟨some 10, .call 20 [(.tmp 8), (.tmp 9), (.const (.int .i64 (1)))], none⟩,
    ⟨some 7, .move (.tmp 10) false, none⟩,
    ⟨some 11, .extract (.tmp 7) 0, none⟩,
    ⟨some 12, .extract (.tmp 7) 1, none⟩,
    ⟨some 1, .assign (.tmp 11), none⟩,
    ⟨some 2, .assign (.tmp 12), none⟩])
   (.seq (.region false [⟨some 14, .buildSlice 3 1 1 [(.int .i64 (0))] [(0, (.const (.int .i64 (1))))], none⟩,
    ⟨some 15, .buildSlice 3 1 1 [(.int .i64 (0))] [(0, (.const (.int .i64 (1))))], none⟩,
    ⟨some 16, .call 20 [(.tmp 14), (.tmp 15), (.const (.int .i64 (1)))], none⟩,
    ⟨some 13, .move (.tmp 16) false, none⟩,
    ⟨some 17, .extract (.tmp 13) 0, none⟩,
    ⟨some 18, .extract (.tmp 13) 1, none⟩,
    ⟨some 3, .assign (.tmp 17), none⟩,
    ⟨some 4, .assign (.tmp 18), none⟩])
   (.seq (.region false [⟨some 20, .buildSlice 3 1 1 [(.int .i64 (0))] [(0, (.const (.int .i64 (1))))], none⟩,
    ⟨some 21, .buildSlice 3 1 1 [(.int .i64 (0))] [(0, (.const (.int .i64 (-1))))], none⟩,
    ⟨some 22, .buildSlice 34 1 2 [(.sl [] (some 3))] [(0, (.tmp 20)), (1, (.tmp 21))], none⟩,
    ⟨some 23, .build [(.int .i64 (0)), (.int .i64 (0)), (.int .i64 (0))] [(0, 1, (.const (.int .i64 (0)))), (1, 1, (.const (.int .i64 (1)))), (2, 1, (.const (.int .i64 (1))))], none⟩,
    ⟨some 24, .buildSlice 55 3 1 [(.int .i64 (0)), (.int .i64 (0)), (.int .i64 (0))] [(0, (.tmp 23))], none⟩,
    ⟨some 25, .call 14 [(.tmp 22), (.tmp 24)], none⟩,
    ⟨some 19, .move (.tmp 25) false, none⟩,
    ⟨some 26, .extract (.tmp 19) 0, none⟩,
    ⟨some 27, .extract (.tmp 19) 1, none⟩,
    ⟨some 5, .assign (.tmp 26), none⟩,
    ⟨some 6, .assign (.tmp 27), none⟩])
   (.seq (.region false [⟨some 28, .move (.tmp 1) false, none⟩,
    ⟨some 29, .len 0 (.tmp 28), none⟩,
    ⟨some 30, .bin .eql (.tmp 29) (.const (.int .i64 (2))), none⟩,
    ⟨some 31, .move (.tmp 30) false, none⟩,
    ⟨some 32, .move (.tmp 1) false, some (31, true)⟩,
    ⟨some 33, .indexAddr 1 (.tmp 32) (.const (.int .i64 (0))), some (31, true)⟩,
    ⟨some 34, .load false 1 (.tmp 33) false, some (31, true)⟩,
    ⟨some 35, .bin .eql (.tmp 34) (.const (.int .i64 (2))), some (31, true)⟩,
    ⟨some 36, .pick (.tmp 31) (.tmp 35) (.const (.bool false)), none⟩,
    ⟨some 37, .move (.tmp 36) false, none⟩,
    ⟨some 38, .move (.tmp 1) false, some (37, true)⟩,
    ⟨some 39, .indexAddr 1 (.tmp 38) (.const (.int .i64 (1))), some (37, true)⟩,
    ⟨some 40, .load false 1 (.tmp 39) false, some (37, true)⟩,
    ⟨some 41, .bin .eql (.tmp 40) (.const (.int .i64 (3))), some (37, true)⟩,
    ⟨some 42, .pick (.tmp 37) (.tmp 41) (.const (.bool false)), none⟩,
    ⟨some 43, .move (.tmp 42) false, none⟩,
    ⟨some 44, .move (.tmp 2) false, some (43, true)⟩,
    ⟨some 45, .bin .eql (.tmp 44) (.const (.int .i64 (0))), some (43, true)⟩,
    ⟨some 46, .pick (.tmp 43) (.tmp 45) (.const (.bool false)), none⟩,
    ⟨some 47, .move (.tmp 46) false, none⟩,
    ⟨some 48, .move (.tmp 4) false, some (47, true)⟩,
    ⟨some 49, .bin .eql (.tmp 48) (.const (.int .i64 (50))), some (47, true)⟩,
    ⟨some 50, .pick (.tmp 47) (.tmp 49) (.const (.bool false)), none⟩,
    ⟨some 51, .move (.tmp 50) false, none⟩,
    ⟨some 52, .move (.tmp 5) false, some (51, true)⟩,
    ⟨some 53, .len 0 (.tmp 52), some (51, true)⟩,
    ⟨some 54, .bin .eql (.tmp 53) (.const (.int .i64 (3))), some (51, true)⟩,
    ⟨some 55, .pick (.tmp 51) (.tmp 54) (.const (.bool false)), none⟩,
    ⟨some 56, .move (.tmp 55) false, none⟩,
    ⟨some 57, .move (.tmp 6) false, some (56, true)⟩,
    ⟨some 58, .bin .eql (.tmp 57) (.const (.int .i64 (0))), some (56, true)⟩,
    ⟨some 59, .pick (.tmp 56) (.tmp 58) (.const (.bool false)), none⟩,
    ⟨some 60, .move (.tmp 59) false, none⟩,
    ⟨some 61, .buildSlice 3 1 1 [(.int .i64 (0))] [(0, (.const (.int .i64 (1))))], some (60, true)⟩,
    ⟨some 62, .buildSlice 3 1 1 [(.int .i64 (0))] [(0, (.const (.int .i64 (-1))))], some (60, true)⟩,
    ⟨some 63, .buildSlice 34 1 2 [(.sl [] (some 3))] [(0, (.tmp 61)), (1, (.tmp 62))], some (60, true)⟩,
    ⟨some 64, .build [(.int .i64 (0)), (.int .i64 (0)), (.int .i64 (0))] [(0, 1, (.const (.int .i64 (0)))), (1, 1, (.const (.int .i64 (1)))), (2, 1, (.const (.int .i64 (1))))], some (60, true)⟩,
    ⟨some 65, .buildSlice 55 3 1 [(.int .i64 (0)), (.int .i64 (0)), (.int .i64 (0))] [(0, (.tmp 64))], some (60, true)⟩,
    ⟨some 66, .call 17 [(.tmp 63), (.tmp 65)], some (60, true)⟩,
    ⟨some 67, .bin .eql (.tmp 66) (.const (.int .i64 (0))), some (60, true)⟩,
    ⟨some 68, .pick (.tmp 60) (.tmp 67) (.const (.bool false)), none⟩,
    ⟨some 69, .move (.tmp 68) false, none⟩,
    ⟨some 70, .buildSlice 3 1 1 [(.int .i64 (0))] [(0, (.const (.int .i64 (1))))], some (69, true)⟩,
    ⟨some 71, .buildSlice 34 1 1 [(.sl [] (some 3))] [(0, (.tmp 70))], some (69, true)⟩,
    ⟨some 72, .call 17 [(.tmp 71), (.const (.sl [] none))], some (69, true)⟩,
    ⟨some 73, .bin .eql (.tmp 72) (.const (.int .i64 (50))), some (69, true)⟩,
    ⟨some 74, .pick (.tmp 69) (.tmp 73) (.const (.bool false)), none⟩,
    ⟨some 0, .assign (.tmp 74), none⟩])
   .ret)))))⟩

def l14_0 : MCode :=
   (.seq (.region false [⟨some 17, .bin .lss (.tmp 16) (.tmp 15), none⟩])
   (.seq (.cond (.tmp 17) .skip (.exit 0))
   (.seq (.block 1 (.seq (.region false [⟨some 18, .indexAddr 1 (.tmp 14) (.tmp 16), none⟩,
    ⟨some 19, .load false 1 (.tmp 18) false, none⟩,
    ⟨some 8, .assign (.tmp 19), none⟩])
   (.region false [⟨some 20, .move (.tmp 6) true, none⟩,
    ⟨some 21, .move (.tmp 8) false, none⟩,
    ⟨some 22, .call 28 [(.tmp 21)], none⟩,
    ⟨some 23, .buildSlice 34 1 1 [(.sl [] (some 3))] [(0, (.tmp 22))], none⟩,
    ⟨some 24, .append 34 1 24 false (.tmp 20) (.tmp 23), none⟩,
    ⟨some 6, .assign (.tmp 24), none⟩])))
   (.region false [⟨some 25, .bin .add (.tmp 16) (.const (.int .i64 (1))), none⟩,
    ⟨some 16, .move (.tmp 25) false, none⟩]))))

def l14_1 : MCode :=
   (.seq (.region false [⟨some 29, .bin .lss (.tmp 28) (.tmp 27), none⟩])
   (.seq (.cond (.tmp 29) .skip (.exit 2))
   (.seq (.block 3 (.seq (.region false [⟨some 30, .indexAddr 3 (.tmp 26) (.tmp 28), none⟩,
    ⟨some 31, .load true 3 (.tmp 30) false, none⟩,
    ⟨some 10, .alloc [(.int .i64 (0)), (.int .i64 (0)), (.int .i64 (0))], none⟩,
    ⟨none, .store 3 (.tmp 10) (.tmp 31), none⟩])
   (.seq (.seq (.region false [⟨some 32, .move (.tmp 6) false, none⟩,
    ⟨some 33, .len 0 (.tmp 32), none⟩,
    ⟨some 11, .assign (.tmp 33), none⟩])
   (.seq (.region false [⟨some 34, .fieldAddr 0 (.tmp 10), none⟩,
    ⟨some 35, .load false 1 (.tmp 34) false, none⟩,
    ⟨some 36, .bin .lss (.tmp 35) (.const (.int .i64 (0))), none⟩,
    ⟨some 37, .move (.tmp 36) false, none⟩,
    ⟨some 38, .fieldAddr 0 (.tmp 10), some (37, false)⟩,
    ⟨some 39, .load false 1 (.tmp 38) false, some (37, false)⟩,
    ⟨some 40, .move (.tmp 11) false, some (37, false)⟩,
    ⟨some 41, .bin .geq (.tmp 39) (.tmp 40), some (37, false)⟩,
    ⟨some 42, .pick (.tmp 37) (.const (.bool true)) (.tmp 41), none⟩,
    ⟨some 43, .move (.tmp 42) false, none⟩,
    ⟨some 44, .fieldAddr 1 (.tmp 10), some (43, false)⟩,
    ⟨some 45, .load false 1 (.tmp 44) false, some (43, false)⟩,
    ⟨some 46, .bin .lss (.tmp 45) (.const (.int .i64 (0))), some (43, false)⟩,
    ⟨some 47, .pick (.tmp 43) (.const (.bool true)) (.tmp 46), none⟩,
    ⟨some 48, .move (.tmp 47) false, none⟩,
    ⟨some 49, .fieldAddr 1 (.tmp 10), some (48, false)⟩,
    ⟨some 50, .load false 1 (.tmp 49) false, some (48, false)⟩,
    ⟨some 51, .move (.tmp 11) false, some (48, false)⟩,
    ⟨some 52, .bin .geq (.tmp 50) (.tmp 51), some (48, false)⟩,
    ⟨some 53, .pick (.tmp 48) (.const (.bool true)) (.tmp 52), none⟩])
   (.cond (.tmp 53) (.seq (.region false [⟨some 4, .assign (.const (.sl [] (some 34))), none⟩,
    ⟨some 5, .assign (.const (.int .i64 (50))), none⟩])
   .ret) .skip)))
   (.seq (.region false [⟨some 55, .move (.tmp 6) false, none⟩,
    ⟨some 56, .fieldAddr 0 (.tmp 10), none⟩,
    ⟨some 57, .load false 1 (.tmp 56) false, none⟩,
    ⟨some 58, .indexAddr 1 (.tmp 55) (.tmp 57), none⟩,
    ⟨some 59, .load false 1 (.tmp 58) false, none⟩,
    ⟨some 60, .move (.tmp 6) false, none⟩,
    ⟨some 61, .fieldAddr 1 (.tmp 10), none⟩,
    ⟨some 62, .load false 1 (.tmp 61) false, none⟩,
    ⟨some 63, .indexAddr 1 (.tmp 60) (.tmp 62), none⟩,
    ⟨some 64, .load false 1 (.tmp 63) false, none⟩,
    ⟨some 65, .fieldAddr 2 (.tmp 10), none⟩,
    ⟨some 66, .load false 1 (.tmp 65) false, none⟩,
    ⟨some 67, .call 20 [(.tmp 59), (.tmp 64), (.tmp 66)], none⟩,
    ⟨some 54, .move (.tmp 67) false, none⟩,
    ⟨some 68, .extract (.tmp 54) 0, none⟩,
    ⟨some 69, .extract (.tmp 54) 1, none⟩,
    ⟨some 12, .assign (.tmp 68), none⟩,
    ⟨some 13, .assign (.tmp 69), none⟩])
   (.seq (.seq (.region false [⟨some 70, .move (.tmp 13) false, none⟩,
    ⟨some 71, .bin .neq (.tmp 70) (.const (.int .i64 (0))), none⟩])
   (.cond (.tmp 71) (.seq (.region false [⟨some 72, .move (.tmp 13) false, none⟩,
    ⟨some 4, .assign (.const (.sl [] (some 34))), none⟩,
    ⟨some 5, .assign (.tmp 72), none⟩])
   .ret) .skip))
   (.region false [⟨some 73, .move (.tmp 6) true, none⟩,
    ⟨some 74, .move (.tmp 12) false, none⟩,
    ⟨some 75, .buildSlice 34 1 1 [(.sl [] (some 3))] [(0, (.tmp 74))], none⟩,
    ⟨some 76, .append 34 1 24 false (.tmp 73) (.tmp 75), none⟩,
    ⟨some 6, .assign (.tmp 76), none⟩]))))))
   (.region false [⟨some 77, .bin .add (.tmp 28) (.const (.int .i64 (1))), none⟩,
    ⟨some 28, .move (.tmp 77) false, none⟩]))))

/-- 'chamberlain/proof.All' -/
def m14 : MFunc :=
  ⟨2, 79, [.tmp 4, .tmp 5],
   (.seq (.region false [⟨some 4, .assign (.const (.sl [] (some 34))), none⟩,
    ⟨some 5, .assign (.const (.int .i64 (0))), none⟩])
   (.seq (.region false [⟨some 6, .assign (.const (.sl [] (some 34))), none⟩])
   (.seq (.seq (.region false [⟨some 14, .move (.tmp 0) false, none⟩,
    ⟨some 15, .len 0 (.tmp 14), none⟩,
    ⟨some 16, .move (.const (.int .i64 (0))) false, none⟩])
   (.block 0 (.loop [28, 6, 26, 27, 1, 16, 14, 15, 0, 4, 5] l14_0)))
   (.seq (.seq (.region false [⟨some 26, .move (.tmp 1) false, none⟩,
    ⟨some 27, .len 0 (.tmp 26), none⟩,
    ⟨some 28, .move (.const (.int .i64 (0))) false, none⟩])
   (.block 2 (.loop [28, 6, 26, 27, 1, 16, 14, 15, 0, 4, 5] l14_1)))
   (.seq (.region false [⟨some 78, .move (.tmp 6) false, none⟩,
    ⟨some 4, .assign (.tmp 78), none⟩,
    ⟨some 5, .assign (.const (.int .i64 (0))), none⟩])
   .ret)))))⟩


/-- 'chamberlain/proof.Check' -/
def m17 : MFunc :=
  ⟨2, 21, [.tmp 4],
   (.seq (.region false [⟨some 4, .assign (.const (.int .i64 (0))), none⟩])
   (.seq (.region false [⟨some 8, .move (.tmp 0) false, none⟩,
    ⟨some 9, .move (.tmp 1) false, none⟩,
    ⟨some 10, .call 14 [(.tmp 8), (.tmp 9)], none⟩,
    ⟨some 7, .move (.tmp 10) false, none⟩,
    ⟨some 11, .extract (.tmp 7) 0, none⟩,
    ⟨some 12, .extract (.tmp 7) 1, none⟩,
    ⟨some 5, .assign (.tmp 11), none⟩,
    ⟨some 6, .assign (.tmp 12), none⟩])
   (.seq (.seq (.region false [⟨some 13, .move (.tmp 6) false, none⟩,
    ⟨some 14, .bin .eql (.tmp 13) (.const (.int .i64 (0))), none⟩,
    ⟨some 15, .move (.tmp 14) false, none⟩,
    ⟨some 16, .move (.tmp 5) false, some (15, true)⟩,
    ⟨some 17, .call 29 [(.tmp 16), (.const (.func 30 []))], some (15, true)⟩,
    ⟨some 18, .un .not (.tmp 17), some (15, true)⟩,
    ⟨some 19, .pick (.tmp 15) (.tmp 18) (.const (.bool false)), none⟩])
   (.cond (.tmp 19) (.region false [⟨some 6, .assign (.const (.int .i64 (50))), none⟩]) .skip))
   (.seq (.region false [⟨some 20, .move (.tmp 6) false, none⟩,
    ⟨some 4, .assign (.tmp 20), none⟩])
   .ret))))⟩


/-- 'chamberlain/proof.Make' -/
def m20 : MFunc :=
  ⟨3, 38, [.tmp 6, .tmp 7],
   (.seq (.region false [⟨some 6, .assign (.const (.sl [] (some 3))), none⟩,
    ⟨some 7, .assign (.const (.int .i64 (0))), none⟩])
   (.seq (.seq (.region false [⟨some 11, .move (.tmp 2) false, none⟩,
    ⟨some 12, .bin .eql (.tmp 11) (.const (.int .i64 (0))), none⟩,
    ⟨some 13, .move (.tmp 12) false, none⟩,
    ⟨some 14, .move (.tmp 0) false, some (13, false)⟩,
    ⟨some 15, .move (.tmp 2) false, some (13, false)⟩,
    ⟨some 16, .call 32 [(.tmp 14), (.tmp 15)], some (13, false)⟩,
    ⟨some 17, .un .not (.tmp 16), some (13, false)⟩,
    ⟨some 18, .pick (.tmp 13) (.const (.bool true)) (.tmp 17), none⟩,
    ⟨some 19, .move (.tmp 18) false, none⟩,
    ⟨some 20, .move (.tmp 1) false, some (19, false)⟩,
    ⟨some 21, .move (.tmp 2) false, some (19, false)⟩,
    ⟨some 22, .un .neg (.tmp 21), some (19, false)⟩,
    ⟨some 23, .call 32 [(.tmp 20), (.tmp 22)], some (19, false)⟩,
    ⟨some 24, .un .not (.tmp 23), some (19, false)⟩,
    ⟨some 25, .pick (.tmp 19) (.const (.bool true)) (.tmp 24), none⟩])
   (.cond (.tmp 25) (.seq (.region false [⟨some 6, .assign (.const (.sl [] (some 3))), none⟩,
    ⟨some 7, .assign (.const (.int .i64 (50))), none⟩])
   .ret) .skip))
   (.seq (.region false [⟨some 26, .mkmap, none⟩,
    ⟨some 8, .alloc [.nilm], none⟩,
    ⟨none, .store 1 (.tmp 8) (.tmp 26), none⟩])
   (.seq (.region false [⟨some 9, .alloc [(.sl [] (some 3))], none⟩])
   (.seq (.region false [⟨some 27, .mkfunc 33 [(.tmp 8), (.tmp 9)], none⟩,
    ⟨some 10, .assign (.tmp 27), none⟩])
   (.seq (.region false [⟨some 28, .move (.tmp 10) false, none⟩,
    ⟨some 29, .move (.tmp 0) false, none⟩,
    ⟨some 30, .move (.tmp 2) false, none⟩,
    ⟨some 31, .callv (.tmp 28) [(.tmp 29), (.tmp 30)], none⟩])
   (.seq (.region false [⟨some 32, .move (.tmp 10) false, none⟩,
    ⟨some 33, .move (.tmp 1) false, none⟩,
    ⟨some 34, .move (.tmp 2) false, none⟩,
    ⟨some 35, .un .neg (.tmp 34), none⟩,
    ⟨some 36, .callv (.tmp 32) [(.tmp 33), (.tmp 35)], none⟩])
   (.seq (.region false [⟨some 37, .load false 1 (.tmp 9) false, none⟩,
    ⟨some 6, .assign (.tmp 37), none⟩,
    ⟨some 7, .assign (.const (.int .i64 (0))), none⟩])
   .ret))))))))⟩

def l21_0 : MCode :=
   (.seq (.seq (.region false [⟨some 26, .move (.tmp 9) false, none⟩,
    ⟨some 27, .move (.tmp 0) false, none⟩,
    ⟨some 28, .len 0 (.tmp 27), none⟩,
    ⟨some 29, .bin .lss (.tmp 26) (.tmp 28), none⟩])
   (.cond (.tmp 29) .skip (.exit 0)))
   (.seq (.block 1 (.seq (.region false [⟨some 32, .move (.tmp 0) false, none⟩,
    ⟨some 33, .move (.tmp 9) false, none⟩,
    ⟨some 34, .indexAddr 1 (.tmp 32) (.tmp 33), none⟩,
    ⟨some 35, .load false 1 (.tmp 34) false, none⟩,
    ⟨some 36, .move (.tmp 2) false, none⟩,
    ⟨some 37, .bin .neq (.tmp 35) (.tmp 36), none⟩,
    ⟨some 38, .move (.tmp 37) false, none⟩,
    ⟨some 39, .move (.tmp 8) false, some (38, true)⟩,
    ⟨some 40, .move (.tmp 0) false, some (38, true)⟩,
    ⟨some 41, .move (.tmp 9) false, some (38, true)⟩,
    ⟨some 42, .indexAddr 1 (.tmp 40) (.tmp 41), some (38, true)⟩,
    ⟨some 43, .load false 1 (.tmp 42) false, some (38, true)⟩,
    ⟨some 44, .call 34 [(.tmp 39), (.tmp 43)], some (38, true)⟩,
    ⟨some 45, .un .not (.tmp 44), some (38, true)⟩,
    ⟨some 46, .pick (.tmp 38) (.tmp 45) (.const (.bool false)), none⟩])
   (.cond (.tmp 46) (.region false [⟨some 47, .move (.tmp 8) true, none⟩,
    ⟨some 48, .move (.tmp 0) false, none⟩,
    ⟨some 49, .move (.tmp 9) false, none⟩,
    ⟨some 50, .indexAddr 1 (.tmp 48) (.tmp 49), none⟩,
    ⟨some 51, .load false 1 (.tmp 50) false, none⟩,
    ⟨some 52, .buildSlice 3 1 1 [(.int .i64 (0))] [(0, (.tmp 51))], none⟩,
    ⟨some 53, .append 3 1 8 false (.tmp 47) (.tmp 52), none⟩,
    ⟨some 8, .assign (.tmp 53), none⟩]) .skip)))
   (.region false [⟨some 30, .move (.tmp 9) false, none⟩,
    ⟨some 31, .bin .add (.tmp 30) (.const (.int .i64 (1))), none⟩,
    ⟨some 9, .assign (.tmp 31), none⟩])))

def l21_1 : MCode :=
   (.seq (.seq (.region false [⟨some 54, .move (.tmp 10) false, none⟩,
    ⟨some 55, .move (.tmp 1) false, none⟩,
    ⟨some 56, .len 0 (.tmp 55), none⟩,
    ⟨some 57, .bin .lss (.tmp 54) (.tmp 56), none⟩])
   (.cond (.tmp 57) .skip (.exit 2)))
   (.seq (.block 3 (.seq (.region false [⟨some 60, .move (.tmp 1) false, none⟩,
    ⟨some 61, .move (.tmp 10) false, none⟩,
    ⟨some 62, .indexAddr 1 (.tmp 60) (.tmp 61), none⟩,
    ⟨some 63, .load false 1 (.tmp 62) false, none⟩,
    ⟨some 64, .move (.tmp 2) false, none⟩,
    ⟨some 65, .un .neg (.tmp 64), none⟩,
    ⟨some 66, .bin .neq (.tmp 63) (.tmp 65), none⟩,
    ⟨some 67, .move (.tmp 66) false, none⟩,
    ⟨some 68, .move (.tmp 8) false, some (67, true)⟩,
    ⟨some 69, .move (.tmp 1) false, some (67, true)⟩,
    ⟨some 70, .move (.tmp 10) false, some (67, true)⟩,
    ⟨some 71, .indexAddr 1 (.tmp 69) (.tmp 70), some (67, true)⟩,
    ⟨some 72, .load false 1 (.tmp 71) false, some (67, true)⟩,
    ⟨some 73, .call 34 [(.tmp 68), (.tmp 72)], some (67, true)⟩,
    ⟨some 74, .un .not (.tmp 73), some (67, true)⟩,
    ⟨some 75, .pick (.tmp 67) (.tmp 74) (.const (.bool false)), none⟩])
   (.cond (.tmp 75) (.region false [⟨some 76, .move (.tmp 8) true, none⟩,
    ⟨some 77, .move (.tmp 1) false, none⟩,
    ⟨some 78, .move (.tmp 10) false, none⟩,
    ⟨some 79, .indexAddr 1 (.tmp 77) (.tmp 78), none⟩,
    ⟨some 80, .load false 1 (.tmp 79) false, none⟩,
    ⟨some 81, .buildSlice 3 1 1 [(.int .i64 (0))] [(0, (.tmp 80))], none⟩,
    ⟨some 82, .append 3 1 8 false (.tmp 76) (.tmp 81), none⟩,
    ⟨some 8, .assign (.tmp 82), none⟩]) .skip)))
   (.region false [⟨some 58, .move (.tmp 10) false, none⟩,
    ⟨some 59, .bin .add (.tmp 58) (.const (.int .i64 (1))), none⟩,
    ⟨some 10, .assign (.tmp 59), none⟩])))

/-- 'chamberlain/chamberlainref21.Make' -/
def m21 : MFunc :=
  ⟨3, 84, [.tmp 6, .tmp 7],
   (.seq (.region false [⟨some 6, .assign (.const (.sl [] (some 3))), none⟩,
    ⟨some 7, .assign (.const (.int .i64 (0))), none⟩])
   (.seq (.seq (.region false [⟨some 11, .move (.tmp 2) false, none⟩,
    ⟨some 12, .bin .eql (.tmp 11) (.const (.int .i64 (0))), none⟩,
    ⟨some 13, .move (.tmp 12) false, none⟩,
    ⟨some 14, .move (.tmp 0) false, some (13, false)⟩,
    ⟨some 15, .move (.tmp 2) false, some (13, false)⟩,
    ⟨some 16, .call 34 [(.tmp 14), (.tmp 15)], some (13, false)⟩,
    ⟨some 17, .un .not (.tmp 16), some (13, false)⟩,
    ⟨some 18, .pick (.tmp 13) (.const (.bool true)) (.tmp 17), none⟩,
    ⟨some 19, .move (.tmp 18) false, none⟩,
    ⟨some 20, .move (.tmp 1) false, some (19, false)⟩,
    ⟨some 21, .move (.tmp 2) false, some (19, false)⟩,
    ⟨some 22, .un .neg (.tmp 21), some (19, false)⟩,
    ⟨some 23, .call 34 [(.tmp 20), (.tmp 22)], some (19, false)⟩,
    ⟨some 24, .un .not (.tmp 23), some (19, false)⟩,
    ⟨some 25, .pick (.tmp 19) (.const (.bool true)) (.tmp 24), none⟩])
   (.cond (.tmp 25) (.seq (.region false [⟨some 6, .assign (.const (.sl [] (some 3))), none⟩,
    ⟨some 7, .assign (.const (.int .i64 (50))), none⟩])
   .ret) .skip))
   (.seq (.region false [⟨some 8, .assign (.const (.sl [] (some 3))), none⟩])
   (.seq (.seq (.region false [⟨some 9, .assign (.const (.int .i64 (0))), none⟩])
   (.block 0 (.loop [10, 1, 8, 2, 9, 0, 6, 7] l21_0)))
   (.seq (.seq (.region false [⟨some 10, .assign (.const (.int .i64 (0))), none⟩])
   (.block 2 (.loop [10, 1, 8, 2, 9, 0, 6, 7] l21_1)))
   (.seq (.region false [⟨some 83, .move (.tmp 8) false, none⟩,
    ⟨some 6, .assign (.tmp 83), none⟩,
    ⟨some 7, .assign (.const (.int .i64 (0))), none⟩])
   .ret))))))⟩


/-- 'slices.Clone[[]int,int]' -/
def m28 : MFunc := mclone 3 1 8 [.int .i64 0]

/-- 'slices.ContainsFunc[[][]int,[]int]' -/
def m29 : MFunc :=
  ⟨2, 9, [.tmp 4],
   (.seq (.region false [⟨some 4, .assign (.const (.bool false)), none⟩])
   (.seq (.region false [⟨some 5, .move (.tmp 0) false, none⟩,
    ⟨some 6, .move (.tmp 1) false, none⟩,
    ⟨some 7, .call 40 [(.tmp 5), (.tmp 6)], none⟩,
    ⟨some 8, .bin .geq (.tmp 7) (.const (.int .i64 (0))), none⟩,
    ⟨some 4, .assign (.tmp 8), none⟩])
   .ret))⟩


/-- 'chamberlain/proof.Check$1' -/
def m30 : MFunc :=
  ⟨1, 6, [.tmp 2],
   (.seq (.region false [⟨some 2, .assign (.const (.bool false)), none⟩])
   (.seq (.region false [⟨some 3, .move (.tmp 0) false, none⟩,
    ⟨some 4, .len 0 (.tmp 3), none⟩,
    ⟨some 5, .bin .eql (.tmp 4) (.const (.int .i64 (0))), none⟩,
    ⟨some 2, .assign (.tmp 5), none⟩])
   .ret))⟩


/-- 'slices.Contains[[]int,int]' -/
def m32 : MFunc :=
  ⟨2, 9, [.tmp 4],
   (.seq (.region false [⟨some 4, .assign (.const (.bool false)), none⟩])
   (.seq (.region false [⟨some 5, .move (.tmp 0) false, none⟩,
    ⟨some 6, .move (.tmp 1) false, none⟩,
    ⟨some 7, .call 41 [(.tmp 5), (.tmp 6)], none⟩,
    ⟨some 8, .bin .geq (.tmp 7) (.const (.int .i64 (0))), none⟩,
    ⟨some 4, .assign (.tmp 8), none⟩])
   .ret))⟩

def l33_0 : MCode :=
   (.seq (.region false [⟨some 11, .bin .lss (.tmp 10) (.tmp 9), none⟩])
   (.seq (.cond (.tmp 11) .skip (.exit 0))
   (.seq (.block 1 (.seq (.region false [⟨some 12, .indexAddr 1 (.tmp 8) (.tmp 10), none⟩,
    ⟨some 13, .load false 1 (.tmp 12) false, none⟩,
    ⟨some 7, .assign (.tmp 13), none⟩])
   (.seq (.region false [⟨some 14, .move (.tmp 7) false, none⟩,
    ⟨some 15, .move (.tmp 1) false, none⟩,
    ⟨some 16, .bin .neq (.tmp 14) (.tmp 15), none⟩,
    ⟨some 17, .move (.tmp 16) false, none⟩,
    ⟨some 18, .load false 1 (.tmp 2) false, some (17, true)⟩,
    ⟨some 19, .move (.tmp 7) false, some (17, true)⟩,
    ⟨some 20, .lookup 0 false [(.bool false)] (.tmp 18) (.tmp 19) false, some (17, true)⟩,
    ⟨some 21, .un .not (.tmp 20), some (17, true)⟩,
    ⟨some 22, .pick (.tmp 17) (.tmp 21) (.const (.bool false)), none⟩])
   (.cond (.tmp 22) (.seq (.region false [⟨some 23, .load false 1 (.tmp 2) false, none⟩,
    ⟨some 24, .move (.tmp 7) false, none⟩,
    ⟨none, .mapUpdate 0 (.tmp 23) (.tmp 24) (.const (.bool true)), none⟩])
   (.region false [⟨some 25, .load false 1 (.tmp 3) true, none⟩,
    ⟨some 26, .move (.tmp 7) false, none⟩,
    ⟨some 27, .buildSlice 3 1 1 [(.int .i64 (0))] [(0, (.tmp 26))], none⟩,
    ⟨some 28, .append 3 1 8 false (.tmp 25) (.tmp 27), none⟩,
    ⟨none, .store 1 (.tmp 3) (.tmp 28), none⟩])) .skip))))
   (.region false [⟨some 29, .bin .add (.tmp 10) (.const (.int .i64 (1))), none⟩,
    ⟨some 10, .move (.tmp 29) false, none⟩]))))

/-- 'chamberlain/proof.Make$1' -/
def m33 : MFunc :=
  ⟨4, 30, [],
   (.seq (.region false [⟨some 8, .move (.tmp 0) false, none⟩,
    ⟨some 9, .len 0 (.tmp 8), none⟩,
    ⟨some 10, .move (.const (.int .i64 (0))) false, none⟩])
   (.block 0 (.loop [10, 3, 2, 1, 8, 9, 0] l33_0)))⟩

def l34_0 : MCode :=
   (.seq (.seq (.region false [⟨some 6, .move (.tmp 5) false, none⟩,
    ⟨some 7, .move (.tmp 0) false, none⟩,
    ⟨some 8, .len 0 (.tmp 7), none⟩,
    ⟨some 9, .bin .lss (.tmp 6) (.tmp 8), none⟩])
   (.cond (.tmp 9) .skip (.exit 0)))
   (.seq (.block 1 (.seq (.region false [⟨some 12, .move (.tmp 0) false, none⟩,
    ⟨some 13, .move (.tmp 5) false, none⟩,
    ⟨some 14, .indexAddr 1 (.tmp 12) (.tmp 13), none⟩,
    ⟨some 15, .load false 1 (.tmp 14) false, none⟩,
    ⟨some 16, .move (.tmp 1) false, none⟩,
    ⟨some 17, .bin .eql (.tmp 15) (.tmp 16), none⟩])
   (.cond (.tmp 17) (.seq (.region false [⟨some 4, .assign (.const (.bool true)), none⟩])
   .ret) .skip)))
   (.region false [⟨some 10, .move (.tmp 5) false, none⟩,
    ⟨some 11, .bin .add (.tmp 10) (.const (.int .i64 (1))), none⟩,
    ⟨some 5, .assign (.tmp 11), none⟩])))

/-- 'chamberlain/chamberlainref21.has' -/
def m34 : MFunc :=
  ⟨2, 18, [.tmp 4],
   (.seq (.region false [⟨some 4, .assign (.const (.bool false)), none⟩])
   (.seq (.seq (.region false [⟨some 5, .assign (.const (.int .i64 (0))), none⟩])
   (.block 0 (.loop [5, 1, 0, 4] l34_0)))
   (.seq (.region false [⟨some 4, .assign (.const (.bool false)), none⟩])
   .ret)))⟩

def l40_0 : MCode :=
   (.seq (.region false [⟨some 9, .bin .lss (.tmp 8) (.tmp 7), none⟩])
   (.seq (.cond (.tmp 9) .skip (.exit 0))
   (.seq (.block 1 (.seq (.region false [⟨some 10, .move (.tmp 8) false, none⟩,
    ⟨some 5, .assign (.tmp 10), none⟩])
   (.seq (.region false [⟨some 11, .move (.tmp 1) false, none⟩,
    ⟨some 12, .move (.tmp 0) false, none⟩,
    ⟨some 13, .move (.tmp 5) false, none⟩,
    ⟨some 14, .indexAddr 1 (.tmp 12) (.tmp 13), none⟩,
    ⟨some 15, .load false 1 (.tmp 14) false, none⟩,
    ⟨some 16, .callv (.tmp 11) [(.tmp 15)], none⟩])
   (.cond (.tmp 16) (.seq (.region false [⟨some 17, .move (.tmp 5) false, none⟩,
    ⟨some 4, .assign (.tmp 17), none⟩])
   .ret) .skip))))
   (.region false [⟨some 18, .bin .add (.tmp 8) (.const (.int .i64 (1))), none⟩,
    ⟨some 8, .move (.tmp 18) false, none⟩]))))

/-- 'slices.IndexFunc[[][]int,[]int]' -/
def m40 : MFunc :=
  ⟨2, 19, [.tmp 4],
   (.seq (.region false [⟨some 4, .assign (.const (.int .i64 (0))), none⟩])
   (.seq (.seq (.region false [⟨some 6, .move (.tmp 0) false, none⟩,
    ⟨some 7, .len 0 (.tmp 6), none⟩,
    ⟨some 8, .move (.const (.int .i64 (0))) false, none⟩])
   (.block 0 (.loop [8, 0, 1, 7, 4] l40_0)))
   (.seq (.region false [⟨some 4, .assign (.const (.int .i64 (-1))), none⟩])
   .ret)))⟩

def l41_0 : MCode :=
   (.seq (.region false [⟨some 9, .bin .lss (.tmp 8) (.tmp 7), none⟩])
   (.seq (.cond (.tmp 9) .skip (.exit 0))
   (.seq (.block 1 (.seq (.region false [⟨some 10, .move (.tmp 8) false, none⟩,
    ⟨some 5, .assign (.tmp 10), none⟩])
   (.seq (.region false [⟨some 11, .move (.tmp 1) false, none⟩,
    ⟨some 12, .move (.tmp 0) false, none⟩,
    ⟨some 13, .move (.tmp 5) false, none⟩,
    ⟨some 14, .indexAddr 1 (.tmp 12) (.tmp 13), none⟩,
    ⟨some 15, .load false 1 (.tmp 14) false, none⟩,
    ⟨some 16, .bin .eql (.tmp 11) (.tmp 15), none⟩])
   (.cond (.tmp 16) (.seq (.region false [⟨some 17, .move (.tmp 5) false, none⟩,
    ⟨some 4, .assign (.tmp 17), none⟩])
   .ret) .skip))))
   (.region false [⟨some 18, .bin .add (.tmp 8) (.const (.int .i64 (1))), none⟩,
    ⟨some 8, .move (.tmp 18) false, none⟩]))))

/-- 'slices.Index[[]int,int]' -/
def m41 : MFunc :=
  ⟨2, 19, [.tmp 4],
   (.seq (.region false [⟨some 4, .assign (.const (.int .i64 (0))), none⟩])
   (.seq (.seq (.region false [⟨some 6, .move (.tmp 0) false, none⟩,
    ⟨some 7, .len 0 (.tmp 6), none⟩,
    ⟨some 8, .move (.const (.int .i64 (0))) false, none⟩])
   (.block 0 (.loop [8, 0, 1, 7, 4] l41_0)))
   (.seq (.region false [⟨some 4, .assign (.const (.int .i64 (-1))), none⟩])
   .ret)))⟩

/-- The functions. -/
def T : Table
  | 5 => some m5
  | 12 => some m12
  | 14 => some m14
  | 17 => some m17
  | 20 => some m20
  | 21 => some m21
  | 28 => some m28
  | 29 => some m29
  | 30 => some m30
  | 32 => some m32
  | 33 => some m33
  | 34 => some m34
  | 40 => some m40
  | 41 => some m41
  | _ => none
end Go.Abs.B
