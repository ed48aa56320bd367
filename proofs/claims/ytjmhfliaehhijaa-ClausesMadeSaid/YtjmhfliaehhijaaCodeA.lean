import Derived.Test.YtjmhfliaehhijaaSem
set_option linter.unusedVariables false
set_option linter.unusedSimpArgs false
/-
  The machine code of functions of the given program: printed by a program.
-/
namespace Go.Abs.A
open Go Go.Abs
def l3_0 : MCode :=
   (.seq (.seq (.region false [⟨some 22, .move (.tmp 8) false, none⟩,
    ⟨some 23, .move (.tmp 1) false, none⟩,
    ⟨some 24, .bin .and (.tmp 23) (.const (.int .i64 (1023))), none⟩,
    ⟨some 25, .bin .lss (.tmp 22) (.tmp 24), none⟩])
   (.cond (.tmp 25) .skip (.exit 0)))
   (.seq (.block 1 (.region false [⟨some 28, .load true 3 (.tmp 7) false, none⟩,
    ⟨some 29, .buildSlice 24 3 1 [(.int .i64 (0)), (.int .i64 (0)), (.sl [] (some 24))] [(0, (.tmp 28))], none⟩,
    ⟨some 30, .build [(.int .i64 (0)), (.int .i64 (0)), (.nils 24)] [(0, 1, (.const (.int .i64 (4)))), (2, 1, (.tmp 29))], none⟩,
    ⟨none, .store 3 (.tmp 7) (.tmp 30), none⟩]))
   (.region false [⟨some 26, .move (.tmp 8) false, none⟩,
    ⟨some 27, .bin .add (.tmp 26) (.const (.int .i64 (1))), none⟩,
    ⟨some 8, .assign (.tmp 27), none⟩])))

/-- 'chamberlain/chamberlainlaw18.LogicChecks' -/
def m3 : MFunc :=
  ⟨2, 45, [.tmp 4],
   (.seq (.region false [⟨some 2, .box (.tmp 0), none⟩,
    ⟨some 4, .assign (.const (.bool false)), none⟩])
   (.seq (.region false [⟨some 9, .call 12 [], none⟩,
    ⟨some 5, .assign (.tmp 9), none⟩])
   (.seq (.seq (.region false [⟨some 10, .move (.tmp 5) false, none⟩,
    ⟨some 11, .un .not (.tmp 10), none⟩])
   (.cond (.tmp 11) (.seq (.region false [⟨some 4, .assign (.const (.bool false)), none⟩])
   .ret) .skip))
   (.seq (.region false [⟨some 12, .load true 3 (.tmp 2) false, none⟩,
    ⟨some 13, .call 13 [(.tmp 12), (.const (.int .i64 (0)))], none⟩,
    ⟨some 6, .assign (.tmp 13), none⟩])
   (.seq (.seq (.region false [⟨some 14, .move (.tmp 6) false, none⟩,
    ⟨some 15, .un .not (.tmp 14), none⟩,
    ⟨some 16, .move (.tmp 15) false, none⟩,
    ⟨some 17, .load true 3 (.tmp 2) false, some (16, false)⟩,
    ⟨some 18, .call 14 [(.tmp 17)], some (16, false)⟩,
    ⟨some 19, .bin .gtr (.tmp 18) (.const (.int .i64 (500))), some (16, false)⟩,
    ⟨some 20, .pick (.tmp 16) (.const (.bool true)) (.tmp 19), none⟩])
   (.cond (.tmp 20) (.seq (.region false [⟨some 4, .assign (.const (.bool true)), none⟩])
   .ret) .skip))
   (.seq (.region false [⟨some 21, .load true 3 (.tmp 2) false, none⟩,
    ⟨some 7, .alloc [(.int .i64 (0)), (.int .i64 (0)), (.sl [] (some 24))], none⟩,
    ⟨none, .store 3 (.tmp 7) (.tmp 21), none⟩])
   (.seq (.seq (.region false [⟨some 8, .assign (.const (.int .i64 (0))), none⟩])
   (.block 0 (.loop [7, 2, 8, 1, 0, 4] l3_0)))
   (.seq (.region true [⟨some 31, .load true 3 (.tmp 2) false, none⟩,
    ⟨some 32, .call 15 [(.tmp 31)], none⟩,
    ⟨some 33, .load true 3 (.tmp 2) false, none⟩,
    ⟨some 34, .call 17 [(.tmp 33)], none⟩,
    ⟨some 35, .call 16 [(.tmp 34)], none⟩,
    ⟨some 36, .bin .eql (.tmp 32) (.tmp 35), none⟩,
    ⟨some 37, .move (.tmp 36) false, none⟩,
    ⟨some 38, .load true 3 (.tmp 7) false, some (37, true)⟩,
    ⟨some 39, .call 15 [(.tmp 38)], some (37, true)⟩,
    ⟨some 40, .load true 3 (.tmp 7) false, some (37, true)⟩,
    ⟨some 41, .call 17 [(.tmp 40)], some (37, true)⟩,
    ⟨some 42, .call 16 [(.tmp 41)], some (37, true)⟩,
    ⟨some 43, .bin .eql (.tmp 39) (.tmp 42), some (37, true)⟩,
    ⟨some 44, .pick (.tmp 37) (.tmp 43) (.const (.bool false)), none⟩,
    ⟨some 4, .assign (.tmp 44), none⟩])
   .ret))))))))⟩


/-- 'chamberlain/chamberlainlaw18.LogicEvals' -/
def m4 : MFunc :=
  ⟨2, 41, [.tmp 4],
   (.seq (.region false [⟨some 2, .box (.tmp 0), none⟩,
    ⟨some 4, .assign (.const (.bool false)), none⟩])
   (.seq (.region false [⟨some 7, .call 12 [], none⟩,
    ⟨some 5, .assign (.tmp 7), none⟩])
   (.seq (.seq (.region false [⟨some 8, .move (.tmp 5) false, none⟩,
    ⟨some 9, .un .not (.tmp 8), none⟩])
   (.cond (.tmp 9) (.seq (.region false [⟨some 4, .assign (.const (.bool false)), none⟩])
   .ret) .skip))
   (.seq (.region false [⟨some 10, .load true 3 (.tmp 2) false, none⟩,
    ⟨some 11, .call 13 [(.tmp 10), (.const (.int .i64 (0)))], none⟩,
    ⟨some 6, .assign (.tmp 11), none⟩])
   (.seq (.seq (.region false [⟨some 12, .move (.tmp 6) false, none⟩,
    ⟨some 13, .un .not (.tmp 12), none⟩,
    ⟨some 14, .move (.tmp 13) false, none⟩,
    ⟨some 15, .load true 3 (.tmp 2) false, some (14, false)⟩,
    ⟨some 16, .call 14 [(.tmp 15)], some (14, false)⟩,
    ⟨some 17, .bin .gtr (.tmp 16) (.const (.int .i64 (500))), some (14, false)⟩,
    ⟨some 18, .pick (.tmp 14) (.const (.bool true)) (.tmp 17), none⟩,
    ⟨some 19, .move (.tmp 18) false, none⟩,
    ⟨some 20, .load true 3 (.tmp 2) false, some (19, false)⟩,
    ⟨some 21, .call 17 [(.tmp 20)], some (19, false)⟩,
    ⟨some 22, .call 16 [(.tmp 21)], some (19, false)⟩,
    ⟨some 23, .bin .neq (.tmp 22) (.const (.int .i64 (0))), some (19, false)⟩,
    ⟨some 24, .pick (.tmp 19) (.const (.bool true)) (.tmp 23), none⟩])
   (.cond (.tmp 24) (.seq (.region false [⟨some 4, .assign (.const (.bool true)), none⟩])
   .ret) .skip))
   (.seq (.region true [⟨some 25, .load true 3 (.tmp 2) false, none⟩,
    ⟨some 26, .move (.tmp 1) false, none⟩,
    ⟨some 27, .call 18 [(.tmp 25), (.tmp 26)], none⟩,
    ⟨some 28, .load true 3 (.tmp 2) false, none⟩,
    ⟨some 29, .call 17 [(.tmp 28)], none⟩,
    ⟨some 30, .move (.tmp 1) false, none⟩,
    ⟨some 31, .call 19 [(.tmp 29), (.tmp 30)], none⟩,
    ⟨some 32, .eqb false (.tmp 27) (.tmp 31), none⟩,
    ⟨some 33, .move (.tmp 32) false, none⟩,
    ⟨some 34, .load true 3 (.tmp 2) false, some (33, true)⟩,
    ⟨some 35, .call 20 [(.tmp 34)], some (33, true)⟩,
    ⟨some 36, .load true 3 (.tmp 2) false, some (33, true)⟩,
    ⟨some 37, .call 17 [(.tmp 36)], some (33, true)⟩,
    ⟨some 38, .call 21 [(.tmp 37)], some (33, true)⟩,
    ⟨some 39, .bin .eql (.tmp 35) (.tmp 38), some (33, true)⟩,
    ⟨some 40, .pick (.tmp 33) (.tmp 39) (.const (.bool false)), none⟩,
    ⟨some 4, .assign (.tmp 40), none⟩])
   .ret))))))⟩


/-- 'chamberlain/chamberlainlaw18.LogicSimple' -/
def m5 : MFunc :=
  ⟨2, 62, [.tmp 4],
   (.seq (.region false [⟨some 2, .box (.tmp 0), none⟩,
    ⟨some 4, .assign (.const (.bool false)), none⟩])
   (.seq (.region false [⟨some 9, .call 12 [], none⟩,
    ⟨some 5, .assign (.tmp 9), none⟩])
   (.seq (.seq (.region false [⟨some 10, .move (.tmp 5) false, none⟩,
    ⟨some 11, .un .not (.tmp 10), none⟩])
   (.cond (.tmp 11) (.seq (.region false [⟨some 4, .assign (.const (.bool false)), none⟩])
   .ret) .skip))
   (.seq (.region false [⟨some 12, .load true 3 (.tmp 2) false, none⟩,
    ⟨some 13, .call 13 [(.tmp 12), (.const (.int .i64 (0)))], none⟩,
    ⟨some 6, .assign (.tmp 13), none⟩])
   (.seq (.seq (.region false [⟨some 14, .move (.tmp 6) false, none⟩,
    ⟨some 15, .un .not (.tmp 14), none⟩,
    ⟨some 16, .move (.tmp 15) false, none⟩,
    ⟨some 17, .load true 3 (.tmp 2) false, some (16, false)⟩,
    ⟨some 18, .call 14 [(.tmp 17)], some (16, false)⟩,
    ⟨some 19, .bin .gtr (.tmp 18) (.const (.int .i64 (500))), some (16, false)⟩,
    ⟨some 20, .pick (.tmp 16) (.const (.bool true)) (.tmp 19), none⟩,
    ⟨some 21, .move (.tmp 20) false, none⟩,
    ⟨some 22, .load true 3 (.tmp 2) false, some (21, false)⟩,
    ⟨some 23, .call 17 [(.tmp 22)], some (21, false)⟩,
    ⟨some 24, .call 16 [(.tmp 23)], some (21, false)⟩,
    ⟨some 25, .bin .neq (.tmp 24) (.const (.int .i64 (0))), some (21, false)⟩,
    ⟨some 26, .pick (.tmp 21) (.const (.bool true)) (.tmp 25), none⟩])
   (.cond (.tmp 26) (.seq (.region false [⟨some 4, .assign (.const (.bool true)), none⟩])
   .ret) .skip))
   (.seq (.region false [⟨some 27, .load true 3 (.tmp 2) false, none⟩,
    ⟨some 28, .call 22 [(.tmp 27)], none⟩,
    ⟨some 7, .alloc [(.int .i64 (0)), (.int .i64 (0)), (.sl [] (some 24))], none⟩,
    ⟨none, .store 3 (.tmp 7) (.tmp 28), none⟩])
   (.seq (.region false [⟨some 29, .load true 3 (.tmp 7) false, none⟩,
    ⟨some 30, .call 22 [(.tmp 29)], none⟩,
    ⟨some 8, .alloc [(.int .i64 (0)), (.int .i64 (0)), (.sl [] (some 24))], none⟩,
    ⟨none, .store 3 (.tmp 8) (.tmp 30), none⟩])
   (.seq (.region true [⟨some 31, .load true 3 (.tmp 7) false, none⟩,
    ⟨some 32, .call 17 [(.tmp 31)], none⟩,
    ⟨some 33, .load true 3 (.tmp 2) false, none⟩,
    ⟨some 34, .call 17 [(.tmp 33)], none⟩,
    ⟨some 35, .call 24 [(.tmp 34)], none⟩,
    ⟨some 36, .call 23 [(.tmp 32), (.tmp 35)], none⟩,
    ⟨some 37, .move (.tmp 36) false, none⟩,
    ⟨some 38, .load true 3 (.tmp 7) false, some (37, true)⟩,
    ⟨some 39, .call 17 [(.tmp 38)], some (37, true)⟩,
    ⟨some 40, .load true 3 (.tmp 8) false, some (37, true)⟩,
    ⟨some 41, .call 17 [(.tmp 40)], some (37, true)⟩,
    ⟨some 42, .call 23 [(.tmp 39), (.tmp 41)], some (37, true)⟩,
    ⟨some 43, .pick (.tmp 37) (.tmp 42) (.const (.bool false)), none⟩,
    ⟨some 44, .move (.tmp 43) false, none⟩,
    ⟨some 45, .load true 3 (.tmp 7) false, some (44, true)⟩,
    ⟨some 46, .move (.tmp 1) false, some (44, true)⟩,
    ⟨some 47, .call 18 [(.tmp 45), (.tmp 46)], some (44, true)⟩,
    ⟨some 48, .load true 3 (.tmp 2) false, some (44, true)⟩,
    ⟨some 49, .move (.tmp 1) false, some (44, true)⟩,
    ⟨some 50, .call 18 [(.tmp 48), (.tmp 49)], some (44, true)⟩,
    ⟨some 51, .eqb false (.tmp 47) (.tmp 50), some (44, true)⟩,
    ⟨some 52, .pick (.tmp 44) (.tmp 51) (.const (.bool false)), none⟩,
    ⟨some 53, .move (.tmp 52) false, none⟩,
    ⟨some 54, .fieldAddr 0 (.tmp 7), some (53, true)⟩,
    ⟨some 55, .load false 1 (.tmp 54) false, some (53, true)⟩,
    ⟨some 56, .bin .leq (.tmp 55) (.const (.int .i64 (2))), some (53, true)⟩,
    ⟨some 57, .move (.tmp 56) false, some (53, true)⟩,
    ⟨some 58, .load true 3 (.tmp 7) false, some (57, false)⟩,
    ⟨some 59, .call 25 [(.tmp 58)], some (57, false)⟩,
    ⟨some 60, .pick (.tmp 57) (.const (.bool true)) (.tmp 59), some (53, true)⟩,
    ⟨some 61, .pick (.tmp 53) (.tmp 60) (.const (.bool false)), none⟩,
    ⟨some 4, .assign (.tmp 61), none⟩])
   .ret))))))))⟩

def l6_0 : MCode :=
   (.seq (.seq (.region false [⟨some 38, .move (.tmp 11) false, none⟩,
    ⟨some 39, .move (.tmp 1) false, none⟩,
    ⟨some 40, .len 0 (.tmp 39), none⟩,
    ⟨some 41, .bin .lss (.tmp 38) (.tmp 40), none⟩])
   (.cond (.tmp 41) .skip (.exit 0)))
   (.seq (.block 1 (.seq (.region false [⟨some 44, .move (.tmp 1) false, none⟩,
    ⟨some 45, .move (.tmp 11) false, none⟩,
    ⟨some 46, .indexAddr 3 (.tmp 44) (.tmp 45), none⟩,
    ⟨some 47, .load true 3 (.tmp 46) false, none⟩,
    ⟨some 48, .call 13 [(.tmp 47), (.const (.int .i64 (0)))], none⟩,
    ⟨some 12, .assign (.tmp 48), none⟩])
   (.seq (.seq (.region false [⟨some 49, .move (.tmp 12) false, none⟩,
    ⟨some 50, .un .not (.tmp 49), none⟩,
    ⟨some 51, .move (.tmp 50) false, none⟩,
    ⟨some 52, .move (.tmp 1) false, some (51, false)⟩,
    ⟨some 53, .move (.tmp 11) false, some (51, false)⟩,
    ⟨some 54, .indexAddr 3 (.tmp 52) (.tmp 53), some (51, false)⟩,
    ⟨some 55, .load true 3 (.tmp 54) false, some (51, false)⟩,
    ⟨some 56, .call 14 [(.tmp 55)], some (51, false)⟩,
    ⟨some 57, .bin .gtr (.tmp 56) (.const (.int .i64 (100))), some (51, false)⟩,
    ⟨some 58, .pick (.tmp 51) (.const (.bool true)) (.tmp 57), none⟩,
    ⟨some 59, .move (.tmp 58) false, none⟩,
    ⟨some 60, .move (.tmp 1) false, some (59, false)⟩,
    ⟨some 61, .move (.tmp 11) false, some (59, false)⟩,
    ⟨some 62, .indexAddr 3 (.tmp 60) (.tmp 61), some (59, false)⟩,
    ⟨some 63, .load true 3 (.tmp 62) false, some (59, false)⟩,
    ⟨some 64, .call 17 [(.tmp 63)], some (59, false)⟩,
    ⟨some 65, .call 16 [(.tmp 64)], some (59, false)⟩,
    ⟨some 66, .bin .neq (.tmp 65) (.const (.int .i64 (0))), some (59, false)⟩,
    ⟨some 67, .pick (.tmp 59) (.const (.bool true)) (.tmp 66), none⟩])
   (.cond (.tmp 67) (.seq (.region false [⟨some 6, .assign (.const (.bool true)), none⟩])
   .ret) .skip))
   (.region false [⟨some 68, .fieldAddr 2 (.tmp 10), none⟩,
    ⟨some 69, .load false 1 (.tmp 68) true, none⟩,
    ⟨some 70, .move (.tmp 1) false, none⟩,
    ⟨some 71, .move (.tmp 11) false, none⟩,
    ⟨some 72, .move (.tmp 11) false, none⟩,
    ⟨some 73, .bin .add (.tmp 72) (.const (.int .i64 (1))), none⟩,
    ⟨some 74, .slice 3 (.tmp 70) (some (.tmp 71)) (some (.tmp 73)), none⟩,
    ⟨some 75, .build [(.int .i64 (0)), (.int .i64 (0)), (.nils 24)] [(0, 1, (.const (.int .i64 (4)))), (2, 1, (.tmp 74))], none⟩,
    ⟨some 76, .buildSlice 24 3 1 [(.int .i64 (0)), (.int .i64 (0)), (.sl [] (some 24))] [(0, (.tmp 75))], none⟩,
    ⟨some 77, .append 24 3 40 false (.tmp 69) (.tmp 76), none⟩,
    ⟨some 78, .fieldAddr 2 (.tmp 10), none⟩,
    ⟨none, .store 1 (.tmp 78) (.tmp 77), none⟩]))))
   (.region false [⟨some 42, .move (.tmp 11) false, none⟩,
    ⟨some 43, .bin .add (.tmp 42) (.const (.int .i64 (1))), none⟩,
    ⟨some 11, .assign (.tmp 43), none⟩])))

/-- 'chamberlain/chamberlainlaw18.LogicTurned' -/
def m6 : MFunc :=
  ⟨3, 109, [.tmp 6],
   (.seq (.region false [⟨some 3, .box (.tmp 0), none⟩,
    ⟨some 6, .assign (.const (.bool false)), none⟩])
   (.seq (.region false [⟨some 14, .call 12 [], none⟩,
    ⟨some 7, .assign (.tmp 14), none⟩])
   (.seq (.seq (.region false [⟨some 15, .move (.tmp 7) false, none⟩,
    ⟨some 16, .un .not (.tmp 15), none⟩])
   (.cond (.tmp 16) (.seq (.region false [⟨some 6, .assign (.const (.bool false)), none⟩])
   .ret) .skip))
   (.seq (.seq (.region false [⟨some 17, .move (.tmp 1) false, none⟩,
    ⟨some 18, .len 0 (.tmp 17), none⟩,
    ⟨some 19, .bin .gtr (.tmp 18) (.const (.int .i64 (8))), none⟩])
   (.cond (.tmp 19) (.seq (.region false [⟨some 6, .assign (.const (.bool true)), none⟩])
   .ret) .skip))
   (.seq (.region false [⟨some 20, .load true 3 (.tmp 3) false, none⟩,
    ⟨some 21, .call 13 [(.tmp 20), (.const (.int .i64 (0)))], none⟩,
    ⟨some 8, .assign (.tmp 21), none⟩])
   (.seq (.seq (.region false [⟨some 22, .move (.tmp 8) false, none⟩,
    ⟨some 23, .un .not (.tmp 22), none⟩,
    ⟨some 24, .move (.tmp 23) false, none⟩,
    ⟨some 25, .load true 3 (.tmp 3) false, some (24, false)⟩,
    ⟨some 26, .call 14 [(.tmp 25)], some (24, false)⟩,
    ⟨some 27, .bin .gtr (.tmp 26) (.const (.int .i64 (200))), some (24, false)⟩,
    ⟨some 28, .pick (.tmp 24) (.const (.bool true)) (.tmp 27), none⟩,
    ⟨some 29, .move (.tmp 28) false, none⟩,
    ⟨some 30, .load true 3 (.tmp 3) false, some (29, false)⟩,
    ⟨some 31, .call 17 [(.tmp 30)], some (29, false)⟩,
    ⟨some 32, .call 16 [(.tmp 31)], some (29, false)⟩,
    ⟨some 33, .bin .neq (.tmp 32) (.const (.int .i64 (0))), some (29, false)⟩,
    ⟨some 34, .pick (.tmp 29) (.const (.bool true)) (.tmp 33), none⟩])
   (.cond (.tmp 34) (.seq (.region false [⟨some 6, .assign (.const (.bool true)), none⟩])
   .ret) .skip))
   (.seq (.region false [⟨some 35, .move (.tmp 1) false, none⟩,
    ⟨some 36, .build [(.int .i64 (0)), (.int .i64 (0)), (.nils 24)] [(0, 1, (.const (.int .i64 (5)))), (2, 1, (.tmp 35))], none⟩,
    ⟨some 9, .alloc [(.int .i64 (0)), (.int .i64 (0)), (.sl [] (some 24))], none⟩,
    ⟨none, .store 3 (.tmp 9) (.tmp 36), none⟩])
   (.seq (.region false [⟨some 37, .build [(.int .i64 (0)), (.int .i64 (0)), (.nils 24)] [(0, 1, (.const (.int .i64 (6))))], none⟩,
    ⟨some 10, .alloc [(.int .i64 (0)), (.int .i64 (0)), (.sl [] (some 24))], none⟩,
    ⟨none, .store 3 (.tmp 10) (.tmp 37), none⟩])
   (.seq (.seq (.region false [⟨some 11, .assign (.const (.int .i64 (0))), none⟩])
   (.block 0 (.loop [2, 10, 9, 3, 11, 1, 0, 6] l6_0)))
   (.seq (.region false [⟨some 79, .load true 3 (.tmp 3) false, none⟩,
    ⟨some 80, .buildSlice 24 3 1 [(.int .i64 (0)), (.int .i64 (0)), (.sl [] (some 24))] [(0, (.tmp 79))], none⟩,
    ⟨some 81, .build [(.int .i64 (0)), (.int .i64 (0)), (.nils 24)] [(0, 1, (.const (.int .i64 (4)))), (2, 1, (.tmp 80))], none⟩,
    ⟨some 82, .buildSlice 24 3 1 [(.int .i64 (0)), (.int .i64 (0)), (.sl [] (some 24))] [(0, (.tmp 81))], none⟩,
    ⟨some 83, .build [(.int .i64 (0)), (.int .i64 (0)), (.nils 24)] [(0, 1, (.const (.int .i64 (4)))), (2, 1, (.tmp 82))], none⟩,
    ⟨some 13, .alloc [(.int .i64 (0)), (.int .i64 (0)), (.sl [] (some 24))], none⟩,
    ⟨none, .store 3 (.tmp 13) (.tmp 83), none⟩])
   (.seq (.region true [⟨some 84, .load true 3 (.tmp 13) false, none⟩,
    ⟨some 85, .move (.tmp 2) false, none⟩,
    ⟨some 86, .call 18 [(.tmp 84), (.tmp 85)], none⟩,
    ⟨some 87, .load true 3 (.tmp 3) false, none⟩,
    ⟨some 88, .move (.tmp 2) false, none⟩,
    ⟨some 89, .call 18 [(.tmp 87), (.tmp 88)], none⟩,
    ⟨some 90, .eqb false (.tmp 86) (.tmp 89), none⟩,
    ⟨some 91, .move (.tmp 90) false, none⟩,
    ⟨some 92, .load true 3 (.tmp 13) false, some (91, true)⟩,
    ⟨some 93, .call 22 [(.tmp 92)], some (91, true)⟩,
    ⟨some 94, .call 17 [(.tmp 93)], some (91, true)⟩,
    ⟨some 95, .load true 3 (.tmp 3) false, some (91, true)⟩,
    ⟨some 96, .call 22 [(.tmp 95)], some (91, true)⟩,
    ⟨some 97, .call 17 [(.tmp 96)], some (91, true)⟩,
    ⟨some 98, .call 23 [(.tmp 94), (.tmp 97)], some (91, true)⟩,
    ⟨some 99, .pick (.tmp 91) (.tmp 98) (.const (.bool false)), none⟩,
    ⟨some 100, .move (.tmp 99) false, none⟩,
    ⟨some 101, .load true 3 (.tmp 9) false, some (100, true)⟩,
    ⟨some 102, .move (.tmp 2) false, some (100, true)⟩,
    ⟨some 103, .call 18 [(.tmp 101), (.tmp 102)], some (100, true)⟩,
    ⟨some 104, .load true 3 (.tmp 10) false, some (100, true)⟩,
    ⟨some 105, .move (.tmp 2) false, some (100, true)⟩,
    ⟨some 106, .call 18 [(.tmp 104), (.tmp 105)], some (100, true)⟩,
    ⟨some 107, .eqb true (.tmp 103) (.tmp 106), some (100, true)⟩,
    ⟨some 108, .pick (.tmp 100) (.tmp 107) (.const (.bool false)), none⟩,
    ⟨some 6, .assign (.tmp 108), none⟩])
   .ret)))))))))))⟩

def l7_0 : MCode :=
   (.seq (.seq (.region false [⟨some 22, .move (.tmp 10) false, none⟩,
    ⟨some 23, .move (.tmp 0) false, none⟩,
    ⟨some 24, .len 0 (.tmp 23), none⟩,
    ⟨some 25, .bin .lss (.tmp 22) (.tmp 24), none⟩])
   (.cond (.tmp 25) .skip (.exit 0)))
   (.seq (.block 1 (.seq (.region false [⟨some 28, .fieldAddr 2 (.tmp 8), none⟩,
    ⟨some 29, .load false 1 (.tmp 28) true, none⟩,
    ⟨some 30, .move (.tmp 10) false, none⟩,
    ⟨some 31, .bin .add (.tmp 30) (.const (.int .i64 (1))), none⟩,
    ⟨some 32, .build [(.int .i64 (0)), (.int .i64 (0)), (.nils 24)] [(0, 1, (.const (.int .i64 (3)))), (1, 1, (.tmp 31))], none⟩,
    ⟨some 33, .buildSlice 24 3 1 [(.int .i64 (0)), (.int .i64 (0)), (.sl [] (some 24))] [(0, (.tmp 32))], none⟩,
    ⟨some 34, .append 24 3 40 false (.tmp 29) (.tmp 33), none⟩,
    ⟨some 35, .fieldAddr 2 (.tmp 8), none⟩,
    ⟨none, .store 1 (.tmp 35) (.tmp 34), none⟩])
   (.seq (.region false [⟨some 36, .move (.tmp 0) false, none⟩,
    ⟨some 37, .move (.tmp 10) false, none⟩,
    ⟨some 38, .indexAddr 1 (.tmp 36) (.tmp 37), none⟩,
    ⟨some 39, .load false 1 (.tmp 38) false, none⟩])
   (.cond (.tmp 39) (.region false [⟨some 40, .move (.tmp 9) false, none⟩,
    ⟨some 41, .bin .add (.tmp 40) (.const (.int .i64 (1))), none⟩,
    ⟨some 9, .assign (.tmp 41), none⟩]) .skip))))
   (.region false [⟨some 26, .move (.tmp 10) false, none⟩,
    ⟨some 27, .bin .add (.tmp 26) (.const (.int .i64 (1))), none⟩,
    ⟨some 10, .assign (.tmp 27), none⟩])))

/-- 'chamberlain/chamberlainlaw18.LogicMany' -/
def m7 : MFunc :=
  ⟨3, 100, [.tmp 6],
   (.seq (.region false [⟨some 6, .assign (.const (.bool false)), none⟩])
   (.seq (.region false [⟨some 13, .call 12 [], none⟩,
    ⟨some 7, .assign (.tmp 13), none⟩])
   (.seq (.seq (.region false [⟨some 14, .move (.tmp 7) false, none⟩,
    ⟨some 15, .un .not (.tmp 14), none⟩])
   (.cond (.tmp 15) (.seq (.region false [⟨some 6, .assign (.const (.bool false)), none⟩])
   .ret) .skip))
   (.seq (.seq (.region false [⟨some 16, .move (.tmp 0) false, none⟩,
    ⟨some 17, .len 0 (.tmp 16), none⟩,
    ⟨some 18, .bin .gtr (.tmp 17) (.const (.int .i64 (60))), none⟩])
   (.cond (.tmp 18) (.seq (.region false [⟨some 6, .assign (.const (.bool true)), none⟩])
   .ret) .skip))
   (.seq (.region false [⟨some 19, .build [(.int .i64 (0)), (.int .i64 (0)), (.nils 24)] [(0, 1, (.const (.int .i64 (6))))], none⟩,
    ⟨some 8, .alloc [(.int .i64 (0)), (.int .i64 (0)), (.sl [] (some 24))], none⟩,
    ⟨none, .store 3 (.tmp 8) (.tmp 19), none⟩])
   (.seq (.seq (.region false [⟨some 20, .move (.tmp 1) false, none⟩])
   (.cond (.tmp 20) (.region false [⟨some 21, .fieldAddr 0 (.tmp 8), none⟩,
    ⟨none, .store 1 (.tmp 21) (.const (.int .i64 (5))), none⟩]) .skip))
   (.seq (.region false [⟨some 9, .assign (.const (.int .i64 (0))), none⟩])
   (.seq (.seq (.region false [⟨some 10, .assign (.const (.int .i64 (0))), none⟩])
   (.block 0 (.loop [0, 8, 9, 1, 2, 10, 6] l7_0)))
   (.seq (.region false [⟨some 42, .move (.tmp 2) false, none⟩,
    ⟨some 43, .conv .i64 (.tmp 42), none⟩,
    ⟨some 44, .build [(.int .i64 (0)), (.int .i64 (0)), (.nils 24)] [(0, 1, (.const (.int .i64 (3)))), (1, 1, (.tmp 43))], none⟩,
    ⟨some 11, .alloc [(.int .i64 (0)), (.int .i64 (0)), (.sl [] (some 24))], none⟩,
    ⟨none, .store 3 (.tmp 11) (.tmp 44), none⟩])
   (.seq (.region false [⟨some 45, .move (.tmp 2) false, none⟩,
    ⟨some 46, .bin .geq (.tmp 45) (.const (.int .u16 (1))), none⟩,
    ⟨some 47, .move (.tmp 46) false, none⟩,
    ⟨some 48, .move (.tmp 2) false, some (47, true)⟩,
    ⟨some 49, .bin .leq (.tmp 48) (.const (.int .u16 (1000))), some (47, true)⟩,
    ⟨some 50, .pick (.tmp 47) (.tmp 49) (.const (.bool false)), none⟩,
    ⟨some 12, .assign (.tmp 50), none⟩])
   (.seq (.region true [⟨some 51, .load true 3 (.tmp 8) false, none⟩,
    ⟨some 52, .move (.tmp 0) false, none⟩,
    ⟨some 53, .call 18 [(.tmp 51), (.tmp 52)], none⟩,
    ⟨some 54, .move (.tmp 1) false, none⟩,
    ⟨some 55, .move (.tmp 54) false, none⟩,
    ⟨some 56, .move (.tmp 9) false, some (55, true)⟩,
    ⟨some 57, .move (.tmp 0) false, some (55, true)⟩,
    ⟨some 58, .len 0 (.tmp 57), some (55, true)⟩,
    ⟨some 59, .bin .eql (.tmp 56) (.tmp 58), some (55, true)⟩,
    ⟨some 60, .pick (.tmp 55) (.tmp 59) (.const (.bool false)), none⟩,
    ⟨some 61, .move (.tmp 60) false, none⟩,
    ⟨some 62, .move (.tmp 1) false, some (61, false)⟩,
    ⟨some 63, .un .not (.tmp 62), some (61, false)⟩,
    ⟨some 64, .move (.tmp 63) false, some (61, false)⟩,
    ⟨some 65, .move (.tmp 9) false, some (64, true)⟩,
    ⟨some 66, .bin .gtr (.tmp 65) (.const (.int .i64 (0))), some (64, true)⟩,
    ⟨some 67, .pick (.tmp 64) (.tmp 66) (.const (.bool false)), some (61, false)⟩,
    ⟨some 68, .pick (.tmp 61) (.const (.bool true)) (.tmp 67), none⟩,
    ⟨some 69, .eqb false (.tmp 53) (.tmp 68), none⟩,
    ⟨some 70, .move (.tmp 69) false, none⟩,
    ⟨some 71, .load true 3 (.tmp 8) false, some (70, true)⟩,
    ⟨some 72, .call 20 [(.tmp 71)], some (70, true)⟩,
    ⟨some 73, .move (.tmp 0) false, some (70, true)⟩,
    ⟨some 74, .len 0 (.tmp 73), some (70, true)⟩,
    ⟨some 75, .bin .eql (.tmp 72) (.tmp 74), some (70, true)⟩,
    ⟨some 76, .pick (.tmp 70) (.tmp 75) (.const (.bool false)), none⟩,
    ⟨some 77, .move (.tmp 76) false, none⟩,
    ⟨some 78, .load true 3 (.tmp 8) false, some (77, true)⟩,
    ⟨some 79, .call 15 [(.tmp 78)], some (77, true)⟩,
    ⟨some 80, .bin .eql (.tmp 79) (.const (.int .i64 (0))), some (77, true)⟩,
    ⟨some 81, .pick (.tmp 77) (.tmp 80) (.const (.bool false)), none⟩,
    ⟨some 82, .move (.tmp 81) false, none⟩,
    ⟨some 83, .load true 3 (.tmp 11) false, some (82, true)⟩,
    ⟨some 84, .call 15 [(.tmp 83)], some (82, true)⟩,
    ⟨some 85, .bin .eql (.tmp 84) (.const (.int .i64 (0))), some (82, true)⟩,
    ⟨some 86, .move (.tmp 12) false, some (82, true)⟩,
    ⟨some 87, .eqb false (.tmp 85) (.tmp 86), some (82, true)⟩,
    ⟨some 88, .pick (.tmp 82) (.tmp 87) (.const (.bool false)), none⟩,
    ⟨some 89, .move (.tmp 88) false, none⟩,
    ⟨some 90, .load true 3 (.tmp 8) false, some (89, true)⟩,
    ⟨some 91, .buildSlice 24 3 1 [(.int .i64 (0)), (.int .i64 (0)), (.sl [] (some 24))] [(0, (.tmp 90))], some (89, true)⟩,
    ⟨some 92, .build [(.int .i64 (0)), (.int .i64 (0)), (.nils 24)] [(0, 1, (.const (.int .i64 (4)))), (2, 1, (.tmp 91))], some (89, true)⟩,
    ⟨some 93, .move (.tmp 0) false, some (89, true)⟩,
    ⟨some 94, .call 18 [(.tmp 92), (.tmp 93)], some (89, true)⟩,
    ⟨some 95, .load true 3 (.tmp 8) false, some (89, true)⟩,
    ⟨some 96, .move (.tmp 0) false, some (89, true)⟩,
    ⟨some 97, .call 18 [(.tmp 95), (.tmp 96)], some (89, true)⟩,
    ⟨some 98, .eqb true (.tmp 94) (.tmp 97), some (89, true)⟩,
    ⟨some 99, .pick (.tmp 89) (.tmp 98) (.const (.bool false)), none⟩,
    ⟨some 6, .assign (.tmp 99), none⟩])
   .ret)))))))))))⟩


/-- 'chamberlain/chamberlainlaw19.ClausesMade' -/
def m8 : MFunc :=
  ⟨2, 62, [.tmp 4],
   (.seq (.region false [⟨some 2, .box (.tmp 0), none⟩,
    ⟨some 4, .assign (.const (.bool false)), none⟩])
   (.seq (.region false [⟨some 11, .call 26 [], none⟩,
    ⟨some 5, .assign (.tmp 11), none⟩])
   (.seq (.seq (.region false [⟨some 12, .move (.tmp 5) false, none⟩,
    ⟨some 13, .un .not (.tmp 12), none⟩])
   (.cond (.tmp 13) (.seq (.region false [⟨some 4, .assign (.const (.bool false)), none⟩])
   .ret) .skip))
   (.seq (.region false [⟨some 14, .load true 3 (.tmp 2) false, none⟩,
    ⟨some 15, .call 27 [(.tmp 14), (.const (.int .i64 (0)))], none⟩,
    ⟨some 6, .assign (.tmp 15), none⟩])
   (.seq (.seq (.region false [⟨some 16, .move (.tmp 6) false, none⟩,
    ⟨some 17, .un .not (.tmp 16), none⟩,
    ⟨some 18, .move (.tmp 17) false, none⟩,
    ⟨some 19, .load true 3 (.tmp 2) false, some (18, false)⟩,
    ⟨some 20, .call 28 [(.tmp 19)], some (18, false)⟩,
    ⟨some 21, .bin .gtr (.tmp 20) (.const (.int .i64 (300))), some (18, false)⟩,
    ⟨some 22, .pick (.tmp 18) (.const (.bool true)) (.tmp 21), none⟩,
    ⟨some 23, .move (.tmp 22) false, none⟩,
    ⟨some 24, .load true 3 (.tmp 2) false, some (23, false)⟩,
    ⟨some 25, .call 29 [(.tmp 24)], some (23, false)⟩,
    ⟨some 26, .call 16 [(.tmp 25)], some (23, false)⟩,
    ⟨some 27, .bin .neq (.tmp 26) (.const (.int .i64 (0))), some (23, false)⟩,
    ⟨some 28, .pick (.tmp 23) (.const (.bool true)) (.tmp 27), none⟩,
    ⟨some 29, .move (.tmp 28) false, none⟩,
    ⟨some 30, .move (.tmp 1) false, some (29, false)⟩,
    ⟨some 31, .bin .gtr (.tmp 30) (.const (.int .i64 (2000))), some (29, false)⟩,
    ⟨some 32, .pick (.tmp 29) (.const (.bool true)) (.tmp 31), none⟩])
   (.cond (.tmp 32) (.seq (.region false [⟨some 4, .assign (.const (.bool true)), none⟩])
   .ret) .skip))
   (.seq (.region false [⟨some 34, .load true 3 (.tmp 2) false, none⟩,
    ⟨some 35, .move (.tmp 1) false, none⟩,
    ⟨some 36, .call 30 [(.tmp 34), (.tmp 35)], none⟩,
    ⟨some 33, .move (.tmp 36) false, none⟩,
    ⟨some 37, .extract (.tmp 33) 0, none⟩,
    ⟨some 38, .extract (.tmp 33) 1, none⟩,
    ⟨some 7, .assign (.tmp 37), none⟩,
    ⟨some 8, .assign (.tmp 38), none⟩])
   (.seq (.region false [⟨some 40, .load true 3 (.tmp 2) false, none⟩,
    ⟨some 41, .call 29 [(.tmp 40)], none⟩,
    ⟨some 42, .move (.tmp 1) false, none⟩,
    ⟨some 43, .call 31 [(.tmp 41), (.tmp 42)], none⟩,
    ⟨some 39, .move (.tmp 43) false, none⟩,
    ⟨some 44, .extract (.tmp 39) 0, none⟩,
    ⟨some 45, .extract (.tmp 39) 1, none⟩,
    ⟨some 9, .assign (.tmp 44), none⟩,
    ⟨some 10, .assign (.tmp 45), none⟩])
   (.seq (.seq (.region false [⟨some 46, .move (.tmp 1) false, none⟩,
    ⟨some 47, .bin .lss (.tmp 46) (.const (.int .i64 (0))), none⟩])
   (.cond (.tmp 47) (.region false [⟨some 49, .load true 3 (.tmp 2) false, none⟩,
    ⟨some 50, .call 29 [(.tmp 49)], none⟩,
    ⟨some 51, .call 31 [(.tmp 50), (.const (.int .i64 (0)))], none⟩,
    ⟨some 48, .move (.tmp 51) false, none⟩,
    ⟨some 52, .extract (.tmp 48) 0, none⟩,
    ⟨some 53, .extract (.tmp 48) 1, none⟩,
    ⟨some 9, .assign (.tmp 52), none⟩,
    ⟨some 10, .assign (.tmp 53), none⟩]) .skip))
   (.seq (.region false [⟨some 54, .move (.tmp 8) false, none⟩,
    ⟨some 55, .move (.tmp 10) false, none⟩,
    ⟨some 56, .bin .eql (.tmp 54) (.tmp 55), none⟩,
    ⟨some 57, .move (.tmp 56) false, none⟩,
    ⟨some 58, .move (.tmp 7) false, some (57, true)⟩,
    ⟨some 59, .move (.tmp 9) false, some (57, true)⟩,
    ⟨some 60, .call 32 [(.tmp 58), (.tmp 59)], some (57, true)⟩,
    ⟨some 61, .pick (.tmp 57) (.tmp 60) (.const (.bool false)), none⟩,
    ⟨some 4, .assign (.tmp 61), none⟩])
   .ret)))))))))⟩

def l9_0 : MCode :=
   (.seq (.seq (.region false [⟨some 13, .move (.tmp 6) false, none⟩,
    ⟨some 14, .move (.tmp 0) false, none⟩,
    ⟨some 15, .len 0 (.tmp 14), none⟩,
    ⟨some 16, .bin .lss (.tmp 13) (.tmp 15), none⟩])
   (.cond (.tmp 16) .skip (.exit 0)))
   (.seq (.block 1 (.seq (.region false [⟨some 19, .move (.tmp 0) false, none⟩,
    ⟨some 20, .move (.tmp 6) false, none⟩,
    ⟨some 21, .indexAddr 1 (.tmp 19) (.tmp 20), none⟩,
    ⟨some 22, .load false 1 (.tmp 21) false, none⟩,
    ⟨some 23, .len 0 (.tmp 22), none⟩,
    ⟨some 24, .bin .gtr (.tmp 23) (.const (.int .i64 (200))), none⟩])
   (.cond (.tmp 24) (.seq (.region false [⟨some 4, .assign (.const (.bool true)), none⟩])
   .ret) .skip)))
   (.region false [⟨some 17, .move (.tmp 6) false, none⟩,
    ⟨some 18, .bin .add (.tmp 17) (.const (.int .i64 (1))), none⟩,
    ⟨some 6, .assign (.tmp 18), none⟩])))

/-- 'chamberlain/chamberlainlaw19.ClausesMet' -/
def m9 : MFunc :=
  ⟨2, 32, [.tmp 4],
   (.seq (.region false [⟨some 4, .assign (.const (.bool false)), none⟩])
   (.seq (.region false [⟨some 7, .call 26 [], none⟩,
    ⟨some 5, .assign (.tmp 7), none⟩])
   (.seq (.seq (.region false [⟨some 8, .move (.tmp 5) false, none⟩,
    ⟨some 9, .un .not (.tmp 8), none⟩])
   (.cond (.tmp 9) (.seq (.region false [⟨some 4, .assign (.const (.bool false)), none⟩])
   .ret) .skip))
   (.seq (.seq (.region false [⟨some 10, .move (.tmp 0) false, none⟩,
    ⟨some 11, .len 0 (.tmp 10), none⟩,
    ⟨some 12, .bin .gtr (.tmp 11) (.const (.int .i64 (200))), none⟩])
   (.cond (.tmp 12) (.seq (.region false [⟨some 4, .assign (.const (.bool true)), none⟩])
   .ret) .skip))
   (.seq (.seq (.region false [⟨some 6, .assign (.const (.int .i64 (0))), none⟩])
   (.block 0 (.loop [1, 0, 6, 4] l9_0)))
   (.seq (.region false [⟨some 25, .move (.tmp 0) false, none⟩,
    ⟨some 26, .move (.tmp 1) false, none⟩,
    ⟨some 27, .call 33 [(.tmp 25), (.tmp 26)], none⟩,
    ⟨some 28, .move (.tmp 0) false, none⟩,
    ⟨some 29, .move (.tmp 1) false, none⟩,
    ⟨some 30, .call 34 [(.tmp 28), (.tmp 29)], none⟩,
    ⟨some 31, .eqb false (.tmp 27) (.tmp 30), none⟩,
    ⟨some 4, .assign (.tmp 31), none⟩])
   .ret))))))⟩

def l10_0 : MCode :=
   (.seq (.seq (.region false [⟨some 65, .move (.tmp 13) false, none⟩,
    ⟨some 66, .bin .lss (.tmp 65) (.const (.int .i64 (6))), none⟩,
    ⟨some 67, .move (.tmp 66) false, none⟩,
    ⟨some 68, .move (.tmp 13) false, some (67, true)⟩,
    ⟨some 69, .move (.tmp 1) false, some (67, true)⟩,
    ⟨some 70, .len 0 (.tmp 69), some (67, true)⟩,
    ⟨some 71, .bin .lss (.tmp 68) (.tmp 70), some (67, true)⟩,
    ⟨some 72, .pick (.tmp 67) (.tmp 71) (.const (.bool false)), none⟩])
   (.cond (.tmp 72) .skip (.exit 2)))
   (.seq (.block 3 (.region false [⟨some 75, .move (.tmp 12) false, none⟩,
    ⟨some 76, .move (.tmp 13) false, none⟩,
    ⟨some 77, .move (.tmp 1) false, none⟩,
    ⟨some 78, .move (.tmp 13) false, none⟩,
    ⟨some 79, .indexAddr 1 (.tmp 77) (.tmp 78), none⟩,
    ⟨some 80, .load false 1 (.tmp 79) false, none⟩,
    ⟨some 81, .indexAddr 1 (.tmp 75) (.tmp 76), none⟩,
    ⟨none, .store 1 (.tmp 81) (.tmp 80), none⟩]))
   (.region false [⟨some 73, .move (.tmp 13) false, none⟩,
    ⟨some 74, .bin .add (.tmp 73) (.const (.int .i64 (1))), none⟩,
    ⟨some 13, .assign (.tmp 74), none⟩])))

def l10_1 : MCode :=
   (.seq (.seq (.region false [⟨some 82, .move (.tmp 14) false, none⟩,
    ⟨some 83, .move (.tmp 9) false, none⟩,
    ⟨some 84, .bin .lss (.tmp 82) (.tmp 83), none⟩])
   (.cond (.tmp 84) .skip (.exit 4)))
   (.seq (.block 5 (.region false [⟨some 87, .move (.tmp 12) false, none⟩,
    ⟨some 88, .move (.tmp 14) false, none⟩,
    ⟨some 89, .bin .add (.const (.int .i64 (6))) (.tmp 88), none⟩,
    ⟨some 90, .move (.tmp 11) false, none⟩,
    ⟨some 91, .move (.tmp 14) false, none⟩,
    ⟨some 92, .conv .u64 (.tmp 91), none⟩,
    ⟨some 93, .bin .shr (.tmp 90) (.tmp 92), none⟩,
    ⟨some 94, .bin .and (.tmp 93) (.const (.int .i64 (1))), none⟩,
    ⟨some 95, .bin .eql (.tmp 94) (.const (.int .i64 (1))), none⟩,
    ⟨some 96, .indexAddr 1 (.tmp 87) (.tmp 89), none⟩,
    ⟨none, .store 1 (.tmp 96) (.tmp 95), none⟩]))
   (.region false [⟨some 85, .move (.tmp 14) false, none⟩,
    ⟨some 86, .bin .add (.tmp 85) (.const (.int .i64 (1))), none⟩,
    ⟨some 14, .assign (.tmp 86), none⟩])))

def l10_2 : MCode :=
   (.seq (.seq (.region false [⟨some 56, .move (.tmp 11) false, none⟩,
    ⟨some 57, .move (.tmp 9) false, none⟩,
    ⟨some 58, .conv .u64 (.tmp 57), none⟩,
    ⟨some 59, .bin .shl (.const (.int .i64 (1))) (.tmp 58), none⟩,
    ⟨some 60, .bin .lss (.tmp 56) (.tmp 59), none⟩])
   (.cond (.tmp 60) .skip (.exit 0)))
   (.seq (.block 1 (.seq (.region false [⟨some 63, .move (.tmp 8) false, none⟩,
    ⟨some 64, .mkslice 1 1 [(.bool false)] (.tmp 63) (.tmp 63), none⟩,
    ⟨some 12, .assign (.tmp 64), none⟩])
   (.seq (.seq (.region false [⟨some 13, .assign (.const (.int .i64 (0))), none⟩])
   (.block 2 (.loop [10, 2, 1, 11, 12, 7, 14, 9, 13, 8, 0, 4] l10_0)))
   (.seq (.seq (.region false [⟨some 14, .assign (.const (.int .i64 (0))), none⟩])
   (.block 4 (.loop [10, 2, 1, 11, 12, 7, 14, 9, 13, 8, 0, 4] l10_1)))
   (.seq (.region false [⟨some 97, .move (.tmp 7) false, none⟩,
    ⟨some 98, .move (.tmp 12) false, none⟩,
    ⟨some 99, .call 33 [(.tmp 97), (.tmp 98)], none⟩])
   (.cond (.tmp 99) (.region false [⟨some 100, .move (.tmp 10) false, none⟩,
    ⟨some 101, .bin .add (.tmp 100) (.const (.int .i64 (1))), none⟩,
    ⟨some 10, .assign (.tmp 101), none⟩]) .skip))))))
   (.region false [⟨some 61, .move (.tmp 11) false, none⟩,
    ⟨some 62, .bin .add (.tmp 61) (.const (.int .i64 (1))), none⟩,
    ⟨some 11, .assign (.tmp 62), none⟩])))

/-- 'chamberlain/chamberlainlaw19.ClausesTrue' -/
def m10 : MFunc :=
  ⟨2, 115, [.tmp 4],
   (.seq (.region false [⟨some 2, .box (.tmp 0), none⟩,
    ⟨some 4, .assign (.const (.bool false)), none⟩])
   (.seq (.region false [⟨some 17, .call 26 [], none⟩,
    ⟨some 5, .assign (.tmp 17), none⟩])
   (.seq (.seq (.region false [⟨some 18, .move (.tmp 5) false, none⟩,
    ⟨some 19, .un .not (.tmp 18), none⟩])
   (.cond (.tmp 19) (.seq (.region false [⟨some 4, .assign (.const (.bool false)), none⟩])
   .ret) .skip))
   (.seq (.region false [⟨some 20, .load true 3 (.tmp 2) false, none⟩,
    ⟨some 21, .call 27 [(.tmp 20), (.const (.int .i64 (0)))], none⟩,
    ⟨some 6, .assign (.tmp 21), none⟩])
   (.seq (.seq (.region false [⟨some 22, .move (.tmp 6) false, none⟩,
    ⟨some 23, .un .not (.tmp 22), none⟩,
    ⟨some 24, .move (.tmp 23) false, none⟩,
    ⟨some 25, .load true 3 (.tmp 2) false, some (24, false)⟩,
    ⟨some 26, .call 28 [(.tmp 25)], some (24, false)⟩,
    ⟨some 27, .bin .gtr (.tmp 26) (.const (.int .i64 (40))), some (24, false)⟩,
    ⟨some 28, .pick (.tmp 24) (.const (.bool true)) (.tmp 27), none⟩,
    ⟨some 29, .move (.tmp 28) false, none⟩,
    ⟨some 30, .load true 3 (.tmp 2) false, some (29, false)⟩,
    ⟨some 31, .call 29 [(.tmp 30)], some (29, false)⟩,
    ⟨some 32, .call 16 [(.tmp 31)], some (29, false)⟩,
    ⟨some 33, .bin .neq (.tmp 32) (.const (.int .i64 (0))), some (29, false)⟩,
    ⟨some 34, .pick (.tmp 29) (.const (.bool true)) (.tmp 33), none⟩,
    ⟨some 35, .move (.tmp 34) false, none⟩,
    ⟨some 36, .load true 3 (.tmp 2) false, some (35, false)⟩,
    ⟨some 37, .call 29 [(.tmp 36)], some (35, false)⟩,
    ⟨some 38, .call 21 [(.tmp 37)], some (35, false)⟩,
    ⟨some 39, .bin .gtr (.tmp 38) (.const (.int .i64 (6))), some (35, false)⟩,
    ⟨some 40, .pick (.tmp 35) (.const (.bool true)) (.tmp 39), none⟩])
   (.cond (.tmp 40) (.seq (.region false [⟨some 4, .assign (.const (.bool true)), none⟩])
   .ret) .skip))
   (.seq (.region false [⟨some 42, .load true 3 (.tmp 2) false, none⟩,
    ⟨some 43, .call 30 [(.tmp 42), (.const (.int .i64 (6)))], none⟩,
    ⟨some 41, .move (.tmp 43) false, none⟩,
    ⟨some 44, .extract (.tmp 41) 0, none⟩,
    ⟨some 45, .extract (.tmp 41) 1, none⟩,
    ⟨some 7, .assign (.tmp 44), none⟩,
    ⟨some 8, .assign (.tmp 45), none⟩])
   (.seq (.region false [⟨some 46, .move (.tmp 8) false, none⟩,
    ⟨some 47, .bin .sub (.tmp 46) (.const (.int .i64 (6))), none⟩,
    ⟨some 9, .assign (.tmp 47), none⟩])
   (.seq (.seq (.region false [⟨some 48, .move (.tmp 9) false, none⟩,
    ⟨some 49, .bin .lss (.tmp 48) (.const (.int .i64 (0))), none⟩,
    ⟨some 50, .move (.tmp 49) false, none⟩,
    ⟨some 51, .move (.tmp 9) false, some (50, false)⟩,
    ⟨some 52, .bin .gtr (.tmp 51) (.const (.int .i64 (10))), some (50, false)⟩,
    ⟨some 53, .pick (.tmp 50) (.const (.bool true)) (.tmp 52), none⟩])
   (.cond (.tmp 53) (.seq (.region false [⟨some 54, .move (.tmp 9) false, none⟩,
    ⟨some 55, .bin .gtr (.tmp 54) (.const (.int .i64 (10))), none⟩,
    ⟨some 4, .assign (.tmp 55), none⟩])
   .ret) .skip))
   (.seq (.region false [⟨some 10, .assign (.const (.int .i64 (0))), none⟩])
   (.seq (.seq (.region false [⟨some 11, .assign (.const (.int .i64 (0))), none⟩])
   (.block 0 (.loop [10, 2, 1, 11, 12, 7, 14, 9, 13, 8, 0, 4] l10_2)))
   (.seq (.region false [⟨some 15, .assign (.const (.int .i64 (0))), none⟩])
   (.seq (.seq (.region false [⟨some 102, .load true 3 (.tmp 2) false, none⟩,
    ⟨some 103, .call 29 [(.tmp 102)], none⟩,
    ⟨some 104, .move (.tmp 1) false, none⟩,
    ⟨some 105, .call 19 [(.tmp 103), (.tmp 104)], none⟩])
   (.cond (.tmp 105) (.region false [⟨some 15, .assign (.const (.int .i64 (1))), none⟩]) .skip))
   (.seq (.region false [⟨some 106, .load true 3 (.tmp 2) false, none⟩,
    ⟨some 107, .call 29 [(.tmp 106)], none⟩,
    ⟨some 108, .call 24 [(.tmp 107)], none⟩,
    ⟨some 16, .alloc [(.int .i64 (0)), (.int .i64 (0)), (.sl [] (some 33))], none⟩,
    ⟨none, .store 3 (.tmp 16) (.tmp 108), none⟩])
   (.seq (.seq (.region false [⟨some 109, .fieldAddr 0 (.tmp 16), none⟩,
    ⟨some 110, .load false 1 (.tmp 109) false, none⟩,
    ⟨some 111, .bin .eql (.tmp 110) (.const (.int .i64 (1))), none⟩])
   (.cond (.tmp 111) (.region false [⟨some 15, .assign (.const (.int .i64 (1))), none⟩]) .skip))
   (.seq (.region false [⟨some 112, .move (.tmp 10) false, none⟩,
    ⟨some 113, .move (.tmp 15) false, none⟩,
    ⟨some 114, .bin .eql (.tmp 112) (.tmp 113), none⟩,
    ⟨some 4, .assign (.tmp 114), none⟩])
   .ret)))))))))))))))⟩

def l11_0 : MCode :=
   (.seq (.seq (.region false [⟨some 28, .move (.tmp 10) false, none⟩,
    ⟨some 29, .move (.tmp 0) false, none⟩,
    ⟨some 30, .len 0 (.tmp 29), none⟩,
    ⟨some 31, .bin .lss (.tmp 28) (.tmp 30), none⟩,
    ⟨some 32, .move (.tmp 31) false, none⟩,
    ⟨some 33, .move (.tmp 10) false, some (32, true)⟩,
    ⟨some 34, .bin .lss (.tmp 33) (.const (.int .i64 (8))), some (32, true)⟩,
    ⟨some 35, .pick (.tmp 32) (.tmp 34) (.const (.bool false)), none⟩])
   (.cond (.tmp 35) .skip (.exit 0)))
   (.seq (.block 1 (.seq (.region false [⟨some 38, .move (.tmp 0) false, none⟩,
    ⟨some 39, .move (.tmp 10) false, none⟩,
    ⟨some 40, .indexAddr 1 (.tmp 38) (.tmp 39), none⟩,
    ⟨some 41, .load false 1 (.tmp 40) false, none⟩,
    ⟨some 42, .conv .i64 (.tmp 41), none⟩,
    ⟨some 11, .assign (.tmp 42), none⟩])
   (.seq (.region false [⟨some 43, .move (.tmp 11) false, none⟩,
    ⟨some 44, .bin .lss (.tmp 43) (.const (.int .i64 (0))), none⟩,
    ⟨some 12, .assign (.tmp 44), none⟩])
   (.seq (.seq (.region false [⟨some 45, .move (.tmp 12) false, none⟩])
   (.cond (.tmp 45) (.region false [⟨some 46, .move (.tmp 11) false, none⟩,
    ⟨some 47, .un .neg (.tmp 46), none⟩,
    ⟨some 11, .assign (.tmp 47), none⟩]) .skip))
   (.seq (.region false [⟨some 48, .move (.tmp 11) false, none⟩,
    ⟨some 49, .bin .rem (.tmp 48) (.const (.int .i64 (6))), none⟩,
    ⟨some 50, .bin .add (.tmp 49) (.const (.int .i64 (1))), none⟩,
    ⟨some 11, .assign (.tmp 50), none⟩])
   (.seq (.region false [⟨some 51, .move (.tmp 11) false, none⟩,
    ⟨some 52, .build [(.int .i64 (0)), (.int .i64 (0)), (.nils 24)] [(0, 1, (.const (.int .i64 (3)))), (1, 1, (.tmp 51))], none⟩,
    ⟨some 13, .alloc [(.int .i64 (0)), (.int .i64 (0)), (.sl [] (some 24))], none⟩,
    ⟨none, .store 3 (.tmp 13) (.tmp 52), none⟩])
   (.seq (.region false [⟨some 53, .move (.tmp 11) false, none⟩,
    ⟨some 54, .bin .sub (.tmp 53) (.const (.int .i64 (1))), none⟩,
    ⟨some 55, .indexArr true false 6 1 (.tmp 5) (.tmp 54), none⟩,
    ⟨some 56, .load false 1 (.tmp 55) false, none⟩,
    ⟨some 57, .move (.tmp 12) false, none⟩,
    ⟨some 58, .eqb true (.tmp 56) (.tmp 57), none⟩,
    ⟨some 14, .assign (.tmp 58), none⟩])
   (.seq (.seq (.region false [⟨some 59, .move (.tmp 12) false, none⟩])
   (.cond (.tmp 59) (.region false [⟨some 60, .load true 3 (.tmp 13) false, none⟩,
    ⟨some 61, .buildSlice 24 3 1 [(.int .i64 (0)), (.int .i64 (0)), (.sl [] (some 24))] [(0, (.tmp 60))], none⟩,
    ⟨some 62, .build [(.int .i64 (0)), (.int .i64 (0)), (.nils 24)] [(0, 1, (.const (.int .i64 (4)))), (2, 1, (.tmp 61))], none⟩,
    ⟨none, .store 3 (.tmp 13) (.tmp 62), none⟩]) .skip))
   (.seq (.region false [⟨some 63, .fieldAddr 2 (.tmp 8), none⟩,
    ⟨some 64, .load false 1 (.tmp 63) true, none⟩,
    ⟨some 65, .load true 3 (.tmp 13) false, none⟩,
    ⟨some 66, .buildSlice 24 3 1 [(.int .i64 (0)), (.int .i64 (0)), (.sl [] (some 24))] [(0, (.tmp 65))], none⟩,
    ⟨some 67, .append 24 3 40 false (.tmp 64) (.tmp 66), none⟩,
    ⟨some 68, .fieldAddr 2 (.tmp 8), none⟩,
    ⟨none, .store 1 (.tmp 68) (.tmp 67), none⟩])
   (.seq (.region false [⟨some 69, .move (.tmp 1) false, none⟩])
   (.cond (.tmp 69) (.region false [⟨some 70, .move (.tmp 9) false, none⟩,
    ⟨some 71, .move (.tmp 70) false, none⟩,
    ⟨some 72, .move (.tmp 14) false, some (71, true)⟩,
    ⟨some 73, .pick (.tmp 71) (.tmp 72) (.const (.bool false)), none⟩,
    ⟨some 9, .assign (.tmp 73), none⟩]) (.region false [⟨some 74, .move (.tmp 9) false, none⟩,
    ⟨some 75, .move (.tmp 74) false, none⟩,
    ⟨some 76, .move (.tmp 14) false, some (75, false)⟩,
    ⟨some 77, .pick (.tmp 75) (.const (.bool true)) (.tmp 76), none⟩,
    ⟨some 9, .assign (.tmp 77), none⟩]))))))))))))
   (.region false [⟨some 36, .move (.tmp 10) false, none⟩,
    ⟨some 37, .bin .add (.tmp 36) (.const (.int .i64 (1))), none⟩,
    ⟨some 10, .assign (.tmp 37), none⟩])))

def l11_1 : MCode :=
   (.seq (.seq (.region false [⟨some 95, .move (.tmp 20) false, none⟩,
    ⟨some 96, .bin .lss (.tmp 95) (.const (.int .i64 (6))), none⟩])
   (.cond (.tmp 96) .skip (.exit 4)))
   (.seq (.block 5 (.region false [⟨some 99, .move (.tmp 19) false, none⟩,
    ⟨some 100, .move (.tmp 20) false, none⟩,
    ⟨some 101, .move (.tmp 20) false, none⟩,
    ⟨some 102, .indexArr true false 6 1 (.tmp 5) (.tmp 101), none⟩,
    ⟨some 103, .load false 1 (.tmp 102) false, none⟩,
    ⟨some 104, .indexAddr 1 (.tmp 99) (.tmp 100), none⟩,
    ⟨none, .store 1 (.tmp 104) (.tmp 103), none⟩]))
   (.region false [⟨some 97, .move (.tmp 20) false, none⟩,
    ⟨some 98, .bin .add (.tmp 97) (.const (.int .i64 (1))), none⟩,
    ⟨some 20, .assign (.tmp 98), none⟩])))

def l11_2 : MCode :=
   (.seq (.seq (.region false [⟨some 85, .move (.tmp 18) false, none⟩,
    ⟨some 86, .move (.tmp 16) false, none⟩,
    ⟨some 87, .bin .sub (.tmp 86) (.const (.int .i64 (6))), none⟩,
    ⟨some 88, .conv .u64 (.tmp 87), none⟩,
    ⟨some 89, .bin .shl (.const (.int .i64 (1))) (.tmp 88), none⟩,
    ⟨some 90, .bin .lss (.tmp 85) (.tmp 89), none⟩])
   (.cond (.tmp 90) .skip (.exit 2)))
   (.seq (.block 3 (.seq (.region false [⟨some 93, .move (.tmp 16) false, none⟩,
    ⟨some 94, .mkslice 1 1 [(.bool false)] (.tmp 93) (.tmp 93), none⟩,
    ⟨some 19, .assign (.tmp 94), none⟩])
   (.seq (.seq (.region false [⟨some 20, .assign (.const (.int .i64 (0))), none⟩])
   (.block 4 (.loop [17, 9, 18, 19, 15, 16, 20, 5, 8, 10, 1, 0, 2, 6] l11_1)))
   (.seq (.seq (.region false [⟨some 105, .move (.tmp 16) false, none⟩,
    ⟨some 106, .bin .eql (.tmp 105) (.const (.int .i64 (7))), none⟩])
   (.cond (.tmp 106) (.region false [⟨some 107, .move (.tmp 19) false, none⟩,
    ⟨some 108, .move (.tmp 18) false, none⟩,
    ⟨some 109, .bin .eql (.tmp 108) (.const (.int .i64 (1))), none⟩,
    ⟨some 110, .indexAddr 1 (.tmp 107) (.const (.int .i64 (6))), none⟩,
    ⟨none, .store 1 (.tmp 110) (.tmp 109), none⟩]) .skip))
   (.seq (.region false [⟨some 111, .move (.tmp 15) false, none⟩,
    ⟨some 112, .move (.tmp 19) false, none⟩,
    ⟨some 113, .call 33 [(.tmp 111), (.tmp 112)], none⟩])
   (.cond (.tmp 113) (.region false [⟨some 114, .move (.tmp 17) false, none⟩,
    ⟨some 115, .bin .add (.tmp 114) (.const (.int .i64 (1))), none⟩,
    ⟨some 17, .assign (.tmp 115), none⟩]) .skip))))))
   (.region false [⟨some 91, .move (.tmp 18) false, none⟩,
    ⟨some 92, .bin .add (.tmp 91) (.const (.int .i64 (1))), none⟩,
    ⟨some 18, .assign (.tmp 92), none⟩])))

/-- 'chamberlain/chamberlainlaw19.ClausesLiterals' -/
def m11 : MFunc :=
  ⟨3, 124, [.tmp 6],
   (.seq (.region false [⟨some 5, .box (.tmp 2), none⟩,
    ⟨some 6, .assign (.const (.bool false)), none⟩])
   (.seq (.region false [⟨some 21, .call 26 [], none⟩,
    ⟨some 7, .assign (.tmp 21), none⟩])
   (.seq (.seq (.region false [⟨some 22, .move (.tmp 7) false, none⟩,
    ⟨some 23, .un .not (.tmp 22), none⟩])
   (.cond (.tmp 23) (.seq (.region false [⟨some 6, .assign (.const (.bool false)), none⟩])
   .ret) .skip))
   (.seq (.region false [⟨some 24, .build [(.int .i64 (0)), (.int .i64 (0)), (.nils 24)] [(0, 1, (.const (.int .i64 (6))))], none⟩,
    ⟨some 8, .alloc [(.int .i64 (0)), (.int .i64 (0)), (.sl [] (some 24))], none⟩,
    ⟨none, .store 3 (.tmp 8) (.tmp 24), none⟩])
   (.seq (.seq (.region false [⟨some 25, .move (.tmp 1) false, none⟩])
   (.cond (.tmp 25) (.region false [⟨some 26, .fieldAddr 0 (.tmp 8), none⟩,
    ⟨none, .store 1 (.tmp 26) (.const (.int .i64 (5))), none⟩]) .skip))
   (.seq (.region false [⟨some 27, .move (.tmp 1) false, none⟩,
    ⟨some 9, .assign (.tmp 27), none⟩])
   (.seq (.seq (.region false [⟨some 10, .assign (.const (.int .i64 (0))), none⟩])
   (.block 0 (.loop [17, 9, 18, 19, 15, 16, 20, 5, 8, 10, 1, 0, 2, 6] l11_0)))
   (.seq (.region false [⟨some 79, .load true 3 (.tmp 8) false, none⟩,
    ⟨some 80, .call 30 [(.tmp 79), (.const (.int .i64 (6)))], none⟩,
    ⟨some 78, .move (.tmp 80) false, none⟩,
    ⟨some 81, .extract (.tmp 78) 0, none⟩,
    ⟨some 82, .extract (.tmp 78) 1, none⟩,
    ⟨some 15, .assign (.tmp 81), none⟩,
    ⟨some 16, .assign (.tmp 82), none⟩])
   (.seq (.seq (.region false [⟨some 83, .move (.tmp 16) false, none⟩,
    ⟨some 84, .bin .gtr (.tmp 83) (.const (.int .i64 (7))), none⟩])
   (.cond (.tmp 84) (.seq (.region false [⟨some 6, .assign (.const (.bool false)), none⟩])
   .ret) .skip))
   (.seq (.region false [⟨some 17, .assign (.const (.int .i64 (0))), none⟩])
   (.seq (.seq (.region false [⟨some 18, .assign (.const (.int .i64 (0))), none⟩])
   (.block 2 (.loop [17, 9, 18, 19, 15, 16, 20, 5, 8, 10, 1, 0, 2, 6] l11_2)))
   (.seq (.region false [⟨some 116, .move (.tmp 17) false, none⟩,
    ⟨some 117, .bin .eql (.tmp 116) (.const (.int .i64 (1))), none⟩,
    ⟨some 118, .move (.tmp 9) false, none⟩,
    ⟨some 119, .eqb false (.tmp 117) (.tmp 118), none⟩,
    ⟨some 120, .move (.tmp 119) false, none⟩,
    ⟨some 121, .move (.tmp 17) false, some (120, true)⟩,
    ⟨some 122, .bin .leq (.tmp 121) (.const (.int .i64 (1))), some (120, true)⟩,
    ⟨some 123, .pick (.tmp 120) (.tmp 122) (.const (.bool false)), none⟩,
    ⟨some 6, .assign (.tmp 123), none⟩])
   .ret))))))))))))⟩


/-- 'chamberlain/chamberlainlaw18.awake' -/
def m12 : MFunc :=
  ⟨0, 50, [.tmp 0],
   (.seq (.region false [⟨some 0, .assign (.const (.bool false)), none⟩])
   (.seq (.region false [⟨some 4, .build [(.int .i64 (0)), (.int .i64 (0)), (.nils 24)] [(0, 1, (.const (.int .i64 (3)))), (1, 1, (.const (.int .i64 (1))))], none⟩,
    ⟨some 1, .alloc [(.int .i64 (0)), (.int .i64 (0)), (.sl [] (some 24))], none⟩,
    ⟨none, .store 3 (.tmp 1) (.tmp 4), none⟩])
   (.seq (.region false [⟨some 5, .build [(.int .i64 (0)), (.int .i64 (0)), (.nils 24)] [(0, 1, (.const (.int .i64 (1))))], none⟩,
    ⟨some 6, .load true 3 (.tmp 1) false, none⟩,
    ⟨some 7, .buildSlice 24 3 2 [(.int .i64 (0)), (.int .i64 (0)), (.sl [] (some 24))] [(0, (.tmp 5)), (1, (.tmp 6))], none⟩,
    ⟨some 8, .build [(.int .i64 (0)), (.int .i64 (0)), (.nils 24)] [(0, 1, (.const (.int .i64 (5)))), (2, 1, (.tmp 7))], none⟩,
    ⟨some 9, .call 22 [(.tmp 8)], none⟩,
    ⟨some 2, .alloc [(.int .i64 (0)), (.int .i64 (0)), (.sl [] (some 24))], none⟩,
    ⟨none, .store 3 (.tmp 2) (.tmp 9), none⟩])
   (.seq (.region false [⟨some 10, .build [(.int .i64 (0)), (.int .i64 (0)), (.nils 24)] [(0, 1, (.const (.int .i64 (6))))], none⟩,
    ⟨some 11, .call 22 [(.tmp 10)], none⟩,
    ⟨some 3, .alloc [(.int .i64 (0)), (.int .i64 (0)), (.sl [] (some 24))], none⟩,
    ⟨none, .store 3 (.tmp 3) (.tmp 11), none⟩])
   (.seq (.region false [⟨some 12, .fieldAddr 0 (.tmp 2), none⟩,
    ⟨some 13, .load false 1 (.tmp 12) false, none⟩,
    ⟨some 14, .bin .eql (.tmp 13) (.const (.int .i64 (3))), none⟩,
    ⟨some 15, .move (.tmp 14) false, none⟩,
    ⟨some 16, .fieldAddr 1 (.tmp 2), some (15, true)⟩,
    ⟨some 17, .load false 1 (.tmp 16) false, some (15, true)⟩,
    ⟨some 18, .bin .eql (.tmp 17) (.const (.int .i64 (1))), some (15, true)⟩,
    ⟨some 19, .pick (.tmp 15) (.tmp 18) (.const (.bool false)), none⟩,
    ⟨some 20, .move (.tmp 19) false, none⟩,
    ⟨some 21, .fieldAddr 0 (.tmp 3), some (20, true)⟩,
    ⟨some 22, .load false 1 (.tmp 21) false, some (20, true)⟩,
    ⟨some 23, .bin .eql (.tmp 22) (.const (.int .i64 (2))), some (20, true)⟩,
    ⟨some 24, .pick (.tmp 20) (.tmp 23) (.const (.bool false)), none⟩,
    ⟨some 25, .move (.tmp 24) false, none⟩,
    ⟨some 26, .load true 3 (.tmp 1) false, some (25, true)⟩,
    ⟨some 27, .buildSlice 4 1 1 [(.bool false)] [(0, (.const (.bool true)))], some (25, true)⟩,
    ⟨some 28, .call 18 [(.tmp 26), (.tmp 27)], some (25, true)⟩,
    ⟨some 29, .pick (.tmp 25) (.tmp 28) (.const (.bool false)), none⟩,
    ⟨some 30, .move (.tmp 29) false, none⟩,
    ⟨some 31, .load true 3 (.tmp 1) false, some (30, true)⟩,
    ⟨some 32, .call 18 [(.tmp 31), (.const (.sl [] none))], some (30, true)⟩,
    ⟨some 33, .un .not (.tmp 32), some (30, true)⟩,
    ⟨some 34, .pick (.tmp 30) (.tmp 33) (.const (.bool false)), none⟩,
    ⟨some 35, .move (.tmp 34) false, none⟩,
    ⟨some 36, .load true 3 (.tmp 2) false, some (35, true)⟩,
    ⟨some 37, .call 20 [(.tmp 36)], some (35, true)⟩,
    ⟨some 38, .bin .eql (.tmp 37) (.const (.int .i64 (1))), some (35, true)⟩,
    ⟨some 39, .pick (.tmp 35) (.tmp 38) (.const (.bool false)), none⟩,
    ⟨some 40, .move (.tmp 39) false, none⟩,
    ⟨some 41, .load true 3 (.tmp 1) false, some (40, true)⟩,
    ⟨some 42, .call 15 [(.tmp 41)], some (40, true)⟩,
    ⟨some 43, .bin .eql (.tmp 42) (.const (.int .i64 (0))), some (40, true)⟩,
    ⟨some 44, .pick (.tmp 40) (.tmp 43) (.const (.bool false)), none⟩,
    ⟨some 45, .move (.tmp 44) false, none⟩,
    ⟨some 46, .build [(.int .i64 (0)), (.int .i64 (0)), (.nils 24)] [], some (45, true)⟩,
    ⟨some 47, .call 15 [(.tmp 46)], some (45, true)⟩,
    ⟨some 48, .bin .eql (.tmp 47) (.const (.int .i64 (1))), some (45, true)⟩,
    ⟨some 49, .pick (.tmp 45) (.tmp 48) (.const (.bool false)), none⟩,
    ⟨some 0, .assign (.tmp 49), none⟩])
   .ret)))))⟩

def l13_0 : MCode :=
   (.seq (.seq (.region false [⟨some 15, .move (.tmp 5) false, none⟩,
    ⟨some 16, .fieldAddr 2 (.tmp 2), none⟩,
    ⟨some 17, .load false 1 (.tmp 16) false, none⟩,
    ⟨some 18, .len 0 (.tmp 17), none⟩,
    ⟨some 19, .bin .lss (.tmp 15) (.tmp 18), none⟩])
   (.cond (.tmp 19) .skip (.exit 0)))
   (.seq (.block 1 (.seq (.region false [⟨some 22, .fieldAddr 2 (.tmp 2), none⟩,
    ⟨some 23, .load false 1 (.tmp 22) false, none⟩,
    ⟨some 24, .move (.tmp 5) false, none⟩,
    ⟨some 25, .indexAddr 3 (.tmp 23) (.tmp 24), none⟩,
    ⟨some 26, .load true 3 (.tmp 25) false, none⟩,
    ⟨some 27, .move (.tmp 1) false, none⟩,
    ⟨some 28, .bin .add (.tmp 27) (.const (.int .i64 (1))), none⟩,
    ⟨some 29, .call 13 [(.tmp 26), (.tmp 28)], none⟩,
    ⟨some 6, .assign (.tmp 29), none⟩])
   (.seq (.region false [⟨some 30, .move (.tmp 6) false, none⟩,
    ⟨some 31, .un .not (.tmp 30), none⟩])
   (.cond (.tmp 31) (.seq (.region false [⟨some 4, .assign (.const (.bool false)), none⟩])
   .ret) .skip))))
   (.region false [⟨some 20, .move (.tmp 5) false, none⟩,
    ⟨some 21, .bin .add (.tmp 20) (.const (.int .i64 (1))), none⟩,
    ⟨some 5, .assign (.tmp 21), none⟩])))

/-- 'chamberlain/chamberlainlaw18.bounded' -/
def m13 : MFunc :=
  ⟨2, 32, [.tmp 4],
   (.seq (.region false [⟨some 2, .box (.tmp 0), none⟩,
    ⟨some 4, .assign (.const (.bool false)), none⟩])
   (.seq (.seq (.region false [⟨some 7, .fieldAddr 2 (.tmp 2), none⟩,
    ⟨some 8, .load false 1 (.tmp 7) false, none⟩,
    ⟨some 9, .len 0 (.tmp 8), none⟩,
    ⟨some 10, .bin .gtr (.tmp 9) (.const (.int .i64 (12))), none⟩,
    ⟨some 11, .move (.tmp 10) false, none⟩,
    ⟨some 12, .move (.tmp 1) false, some (11, false)⟩,
    ⟨some 13, .bin .gtr (.tmp 12) (.const (.int .i64 (40))), some (11, false)⟩,
    ⟨some 14, .pick (.tmp 11) (.const (.bool true)) (.tmp 13), none⟩])
   (.cond (.tmp 14) (.seq (.region false [⟨some 4, .assign (.const (.bool false)), none⟩])
   .ret) .skip))
   (.seq (.seq (.region false [⟨some 5, .assign (.const (.int .i64 (0))), none⟩])
   (.block 0 (.loop [5, 1, 2, 0, 4] l13_0)))
   (.seq (.region false [⟨some 4, .assign (.const (.bool true)), none⟩])
   .ret))))⟩

def l14_0 : MCode :=
   (.seq (.seq (.region false [⟨some 5, .move (.tmp 4) false, none⟩,
    ⟨some 6, .fieldAddr 2 (.tmp 1), none⟩,
    ⟨some 7, .load false 1 (.tmp 6) false, none⟩,
    ⟨some 8, .len 0 (.tmp 7), none⟩,
    ⟨some 9, .bin .lss (.tmp 5) (.tmp 8), none⟩,
    ⟨some 10, .move (.tmp 9) false, none⟩,
    ⟨some 11, .move (.tmp 3) false, some (10, true)⟩,
    ⟨some 12, .bin .lss (.tmp 11) (.const (.int .i64 (1000))), some (10, true)⟩,
    ⟨some 13, .pick (.tmp 10) (.tmp 12) (.const (.bool false)), none⟩])
   (.cond (.tmp 13) .skip (.exit 0)))
   (.seq (.block 1 (.region false [⟨some 16, .move (.tmp 3) false, none⟩,
    ⟨some 17, .fieldAddr 2 (.tmp 1), none⟩,
    ⟨some 18, .load false 1 (.tmp 17) false, none⟩,
    ⟨some 19, .move (.tmp 4) false, none⟩,
    ⟨some 20, .indexAddr 3 (.tmp 18) (.tmp 19), none⟩,
    ⟨some 21, .load true 3 (.tmp 20) false, none⟩,
    ⟨some 22, .call 14 [(.tmp 21)], none⟩,
    ⟨some 23, .bin .add (.tmp 16) (.tmp 22), none⟩,
    ⟨some 3, .assign (.tmp 23), none⟩]))
   (.region false [⟨some 14, .move (.tmp 4) false, none⟩,
    ⟨some 15, .bin .add (.tmp 14) (.const (.int .i64 (1))), none⟩,
    ⟨some 4, .assign (.tmp 15), none⟩])))

/-- 'chamberlain/chamberlainlaw18.weight' -/
def m14 : MFunc :=
  ⟨1, 25, [.tmp 2],
   (.seq (.region false [⟨some 1, .box (.tmp 0), none⟩,
    ⟨some 2, .assign (.const (.int .i64 (0))), none⟩])
   (.seq (.region false [⟨some 3, .assign (.const (.int .i64 (1))), none⟩])
   (.seq (.seq (.region false [⟨some 4, .assign (.const (.int .i64 (0))), none⟩])
   (.block 0 (.loop [3, 4, 1, 0, 2] l14_0)))
   (.seq (.region false [⟨some 24, .move (.tmp 3) false, none⟩,
    ⟨some 2, .assign (.tmp 24), none⟩])
   .ret))))⟩


/-- 'chamberlain/logic.Check' -/
def m15 : MFunc :=
  ⟨1, 11, [.tmp 2],
   (.seq (.region false [⟨some 1, .box (.tmp 0), none⟩,
    ⟨some 2, .assign (.const (.int .i64 (0))), none⟩])
   (.seq (.block 0 (.seq (.region false [⟨some 4, .load true 3 (.tmp 1) false, none⟩,
    ⟨some 5, .call 35 [(.tmp 4)], none⟩,
    ⟨some 6, .bin .gtr (.tmp 5) (.const (.int .i64 (500))), none⟩,
    ⟨some 3, .assign (.tmp 6), none⟩])
   (.cond (.tmp 3) (.seq (.region false [⟨some 2, .assign (.const (.int .i64 (11))), none⟩])
   .ret) (.seq (.region false [⟨some 8, .load true 3 (.tmp 1) false, none⟩,
    ⟨some 9, .call 36 [(.tmp 8)], none⟩,
    ⟨some 10, .un .not (.tmp 9), none⟩,
    ⟨some 7, .assign (.tmp 10), none⟩])
   (.cond (.tmp 7) (.seq (.region false [⟨some 2, .assign (.const (.int .i64 (1))), none⟩])
   .ret) .skip)))))
   (.seq (.region false [⟨some 2, .assign (.const (.int .i64 (0))), none⟩])
   .ret)))⟩


/-- 'chamberlain/chamberlainref18.Check' -/
def m16 : MFunc :=
  ⟨1, 11, [.tmp 2],
   (.seq (.region false [⟨some 1, .box (.tmp 0), none⟩,
    ⟨some 2, .assign (.const (.int .i64 (0))), none⟩])
   (.seq (.seq (.region false [⟨some 4, .load true 3 (.tmp 1) false, none⟩,
    ⟨some 5, .call 37 [(.tmp 4)], none⟩,
    ⟨some 6, .bin .gtr (.tmp 5) (.const (.int .i64 (500))), none⟩])
   (.cond (.tmp 6) (.seq (.region false [⟨some 2, .assign (.const (.int .i64 (11))), none⟩])
   .ret) .skip))
   (.seq (.region false [⟨some 7, .load true 3 (.tmp 1) false, none⟩,
    ⟨some 8, .call 38 [(.tmp 7)], none⟩,
    ⟨some 3, .assign (.tmp 8), none⟩])
   (.seq (.seq (.region false [⟨some 9, .move (.tmp 3) false, none⟩,
    ⟨some 10, .un .not (.tmp 9), none⟩])
   (.cond (.tmp 10) (.seq (.region false [⟨some 2, .assign (.const (.int .i64 (1))), none⟩])
   .ret) .skip))
   (.seq (.region false [⟨some 2, .assign (.const (.int .i64 (0))), none⟩])
   .ret)))))⟩

def l17_0 : MCode :=
   (.seq (.seq (.region false [⟨some 10, .move (.tmp 4) false, none⟩,
    ⟨some 11, .fieldAddr 2 (.tmp 1), none⟩,
    ⟨some 12, .load false 1 (.tmp 11) false, none⟩,
    ⟨some 13, .len 0 (.tmp 12), none⟩,
    ⟨some 14, .bin .lss (.tmp 10) (.tmp 13), none⟩])
   (.cond (.tmp 14) .skip (.exit 0)))
   (.seq (.block 1 (.region true [⟨some 17, .fieldAddr 2 (.tmp 3), none⟩,
    ⟨some 18, .load false 1 (.tmp 17) true, none⟩,
    ⟨some 19, .fieldAddr 2 (.tmp 1), none⟩,
    ⟨some 20, .load false 1 (.tmp 19) false, none⟩,
    ⟨some 21, .move (.tmp 4) false, none⟩,
    ⟨some 22, .indexAddr 3 (.tmp 20) (.tmp 21), none⟩,
    ⟨some 23, .load true 3 (.tmp 22) false, none⟩,
    ⟨some 24, .call 17 [(.tmp 23)], none⟩,
    ⟨some 25, .buildSlice 33 3 1 [(.int .i64 (0)), (.int .i64 (0)), (.sl [] (some 33))] [(0, (.tmp 24))], none⟩,
    ⟨some 26, .append 33 3 40 false (.tmp 18) (.tmp 25), none⟩,
    ⟨some 27, .fieldAddr 2 (.tmp 3), none⟩,
    ⟨none, .store 1 (.tmp 27) (.tmp 26), none⟩]))
   (.region false [⟨some 15, .move (.tmp 4) false, none⟩,
    ⟨some 16, .bin .add (.tmp 15) (.const (.int .i64 (1))), none⟩,
    ⟨some 4, .assign (.tmp 16), none⟩])))

/-- 'chamberlain/chamberlainlaw18.modelF' -/
def m17 : MFunc :=
  ⟨1, 29, [.cell 2 true 3],
   (.seq (.region false [⟨some 1, .box (.tmp 0), none⟩,
    ⟨some 2, .alloc [(.int .i64 (0)), (.int .i64 (0)), (.sl [] (some 33))], none⟩])
   (.seq (.region false [⟨some 5, .fieldAddr 0 (.tmp 1), none⟩,
    ⟨some 6, .load false 1 (.tmp 5) false, none⟩,
    ⟨some 7, .fieldAddr 1 (.tmp 1), none⟩,
    ⟨some 8, .load false 1 (.tmp 7) false, none⟩,
    ⟨some 9, .build [(.int .i64 (0)), (.int .i64 (0)), (.nils 33)] [(0, 1, (.tmp 6)), (1, 1, (.tmp 8))], none⟩,
    ⟨some 3, .alloc [(.int .i64 (0)), (.int .i64 (0)), (.sl [] (some 33))], none⟩,
    ⟨none, .store 3 (.tmp 3) (.tmp 9), none⟩])
   (.seq (.seq (.region false [⟨some 4, .assign (.const (.int .i64 (0))), none⟩])
   (.block 0 (.loop [2, 3, 4, 1, 0] l17_0)))
   (.seq (.region false [⟨some 28, .load true 3 (.tmp 3) false, none⟩,
    ⟨none, .store 3 (.tmp 2) (.tmp 28), none⟩])
   .ret))))⟩


/-- 'chamberlain/logic.Eval' -/
def m18 : MFunc :=
  ⟨2, 59, [.tmp 4],
   (.seq (.region false [⟨some 2, .box (.tmp 0), none⟩,
    ⟨some 3, .box (.tmp 1), none⟩,
    ⟨some 4, .assign (.const (.bool false)), none⟩])
   (.seq (.region false [⟨some 6, .mkfunc 39 [(.tmp 3)], none⟩,
    ⟨some 5, .alloc [.nilf], none⟩,
    ⟨none, .store 1 (.tmp 5) (.tmp 6), none⟩])
   (.seq (.seq (.region false [⟨some 7, .fieldAddr 0 (.tmp 2), none⟩,
    ⟨some 8, .load false 1 (.tmp 7) false, none⟩])
   (.block 0 (.seq (.region false [⟨some 10, .bin .eql (.tmp 8) (.const (.int .i64 (1))), none⟩,
    ⟨some 9, .assign (.tmp 10), none⟩])
   (.cond (.tmp 9) (.seq (.region false [⟨some 4, .assign (.const (.bool true)), none⟩])
   .ret) (.seq (.region false [⟨some 12, .bin .eql (.tmp 8) (.const (.int .i64 (3))), none⟩,
    ⟨some 11, .assign (.tmp 12), none⟩])
   (.cond (.tmp 11) (.seq (.region false [⟨some 13, .fieldAddr 1 (.tmp 2), none⟩,
    ⟨some 14, .load false 1 (.tmp 13) false, none⟩,
    ⟨some 15, .bin .geq (.tmp 14) (.const (.int .i64 (1))), none⟩,
    ⟨some 16, .move (.tmp 15) false, none⟩,
    ⟨some 17, .fieldAddr 1 (.tmp 2), some (16, true)⟩,
    ⟨some 18, .load false 1 (.tmp 17) false, some (16, true)⟩,
    ⟨some 19, .load false 1 (.tmp 3) false, some (16, true)⟩,
    ⟨some 20, .len 0 (.tmp 19), some (16, true)⟩,
    ⟨some 21, .bin .leq (.tmp 18) (.tmp 20), some (16, true)⟩,
    ⟨some 22, .pick (.tmp 16) (.tmp 21) (.const (.bool false)), none⟩,
    ⟨some 23, .move (.tmp 22) false, none⟩,
    ⟨some 24, .load false 1 (.tmp 3) false, some (23, true)⟩,
    ⟨some 25, .fieldAddr 1 (.tmp 2), some (23, true)⟩,
    ⟨some 26, .load false 1 (.tmp 25) false, some (23, true)⟩,
    ⟨some 27, .bin .sub (.tmp 26) (.const (.int .i64 (1))), some (23, true)⟩,
    ⟨some 28, .indexAddr 1 (.tmp 24) (.tmp 27), some (23, true)⟩,
    ⟨some 29, .load false 1 (.tmp 28) false, some (23, true)⟩,
    ⟨some 30, .pick (.tmp 23) (.tmp 29) (.const (.bool false)), none⟩,
    ⟨some 4, .assign (.tmp 30), none⟩])
   .ret) (.seq (.region false [⟨some 32, .bin .eql (.tmp 8) (.const (.int .i64 (4))), none⟩,
    ⟨some 31, .assign (.tmp 32), none⟩])
   (.cond (.tmp 31) (.seq (.region false [⟨some 33, .fieldAddr 2 (.tmp 2), none⟩,
    ⟨some 34, .load false 1 (.tmp 33) false, none⟩,
    ⟨some 35, .len 0 (.tmp 34), none⟩,
    ⟨some 36, .bin .eql (.tmp 35) (.const (.int .i64 (1))), none⟩,
    ⟨some 37, .move (.tmp 36) false, none⟩,
    ⟨some 38, .load false 1 (.tmp 5) false, some (37, true)⟩,
    ⟨some 39, .fieldAddr 2 (.tmp 2), some (37, true)⟩,
    ⟨some 40, .load false 1 (.tmp 39) false, some (37, true)⟩,
    ⟨some 41, .indexAddr 3 (.tmp 40) (.const (.int .i64 (0))), some (37, true)⟩,
    ⟨some 42, .load true 3 (.tmp 41) false, some (37, true)⟩,
    ⟨some 43, .callv (.tmp 38) [(.tmp 42)], some (37, true)⟩,
    ⟨some 44, .un .not (.tmp 43), some (37, true)⟩,
    ⟨some 45, .pick (.tmp 37) (.tmp 44) (.const (.bool false)), none⟩,
    ⟨some 4, .assign (.tmp 45), none⟩])
   .ret) (.seq (.region false [⟨some 47, .bin .eql (.tmp 8) (.const (.int .i64 (5))), none⟩,
    ⟨some 46, .assign (.tmp 47), none⟩])
   (.cond (.tmp 46) (.seq (.region false [⟨some 48, .fieldAddr 2 (.tmp 2), none⟩,
    ⟨some 49, .load false 1 (.tmp 48) false, none⟩,
    ⟨some 50, .mkfunc 41 [(.tmp 5)], none⟩,
    ⟨some 51, .call 40 [(.tmp 49), (.tmp 50)], none⟩,
    ⟨some 52, .un .not (.tmp 51), none⟩,
    ⟨some 4, .assign (.tmp 52), none⟩])
   .ret) (.seq (.region false [⟨some 54, .bin .eql (.tmp 8) (.const (.int .i64 (6))), none⟩,
    ⟨some 53, .assign (.tmp 54), none⟩])
   (.cond (.tmp 53) (.seq (.region false [⟨some 55, .fieldAddr 2 (.tmp 2), none⟩,
    ⟨some 56, .load false 1 (.tmp 55) false, none⟩,
    ⟨some 57, .load false 1 (.tmp 5) false, none⟩,
    ⟨some 58, .call 40 [(.tmp 56), (.tmp 57)], none⟩,
    ⟨some 4, .assign (.tmp 58), none⟩])
   .ret) .skip))))))))))))
   (.seq (.region false [⟨some 4, .assign (.const (.bool false)), none⟩])
   .ret))))⟩

def l19_0 : MCode :=
   (.seq (.seq (.region false [⟨some 37, .move (.tmp 6) false, none⟩,
    ⟨some 38, .fieldAddr 2 (.tmp 2), none⟩,
    ⟨some 39, .load false 1 (.tmp 38) false, none⟩,
    ⟨some 40, .len 0 (.tmp 39), none⟩,
    ⟨some 41, .bin .lss (.tmp 37) (.tmp 40), none⟩])
   (.cond (.tmp 41) .skip (.exit 1)))
   (.seq (.block 2 (.seq (.region false [⟨some 44, .fieldAddr 2 (.tmp 2), none⟩,
    ⟨some 45, .load false 1 (.tmp 44) false, none⟩,
    ⟨some 46, .move (.tmp 6) false, none⟩,
    ⟨some 47, .indexAddr 3 (.tmp 45) (.tmp 46), none⟩,
    ⟨some 48, .load true 3 (.tmp 47) false, none⟩,
    ⟨some 49, .move (.tmp 1) false, none⟩,
    ⟨some 50, .call 19 [(.tmp 48), (.tmp 49)], none⟩])
   (.cond (.tmp 50) (.region false [⟨some 51, .move (.tmp 5) false, none⟩,
    ⟨some 52, .bin .add (.tmp 51) (.const (.int .i64 (1))), none⟩,
    ⟨some 5, .assign (.tmp 52), none⟩]) .skip)))
   (.region false [⟨some 42, .move (.tmp 6) false, none⟩,
    ⟨some 43, .bin .add (.tmp 42) (.const (.int .i64 (1))), none⟩,
    ⟨some 6, .assign (.tmp 43), none⟩])))

/-- 'chamberlain/chamberlainref18.Eval' -/
def m19 : MFunc :=
  ⟨2, 72, [.tmp 4],
   (.seq (.region false [⟨some 2, .box (.tmp 0), none⟩,
    ⟨some 4, .assign (.const (.bool false)), none⟩])
   (.seq (.seq (.region false [⟨some 7, .fieldAddr 0 (.tmp 2), none⟩,
    ⟨some 8, .load false 1 (.tmp 7) false, none⟩])
   (.block 0 (.seq (.region false [⟨some 10, .bin .eql (.tmp 8) (.const (.int .i64 (1))), none⟩,
    ⟨some 9, .assign (.tmp 10), none⟩])
   (.cond (.tmp 9) (.seq (.region false [⟨some 4, .assign (.const (.bool true)), none⟩])
   .ret) (.seq (.region false [⟨some 12, .bin .eql (.tmp 8) (.const (.int .i64 (2))), none⟩,
    ⟨some 11, .assign (.tmp 12), none⟩])
   (.cond (.tmp 11) (.seq (.region false [⟨some 4, .assign (.const (.bool false)), none⟩])
   .ret) (.seq (.region false [⟨some 14, .bin .eql (.tmp 8) (.const (.int .i64 (3))), none⟩,
    ⟨some 13, .assign (.tmp 14), none⟩])
   (.cond (.tmp 13) (.seq (.region false [⟨some 15, .fieldAddr 1 (.tmp 2), none⟩,
    ⟨some 16, .load false 1 (.tmp 15) false, none⟩,
    ⟨some 17, .move (.tmp 1) false, none⟩,
    ⟨some 18, .len 0 (.tmp 17), none⟩,
    ⟨some 19, .bin .leq (.tmp 16) (.tmp 18), none⟩,
    ⟨some 20, .move (.tmp 19) false, none⟩,
    ⟨some 21, .move (.tmp 1) false, some (20, true)⟩,
    ⟨some 22, .fieldAddr 1 (.tmp 2), some (20, true)⟩,
    ⟨some 23, .load false 1 (.tmp 22) false, some (20, true)⟩,
    ⟨some 24, .bin .sub (.tmp 23) (.const (.int .i64 (1))), some (20, true)⟩,
    ⟨some 25, .indexAddr 1 (.tmp 21) (.tmp 24), some (20, true)⟩,
    ⟨some 26, .load false 1 (.tmp 25) false, some (20, true)⟩,
    ⟨some 27, .pick (.tmp 20) (.tmp 26) (.const (.bool false)), none⟩,
    ⟨some 4, .assign (.tmp 27), none⟩])
   .ret) (.seq (.region false [⟨some 29, .bin .eql (.tmp 8) (.const (.int .i64 (4))), none⟩,
    ⟨some 28, .assign (.tmp 29), none⟩])
   (.cond (.tmp 28) (.seq (.region false [⟨some 30, .fieldAddr 2 (.tmp 2), none⟩,
    ⟨some 31, .load false 1 (.tmp 30) false, none⟩,
    ⟨some 32, .indexAddr 3 (.tmp 31) (.const (.int .i64 (0))), none⟩,
    ⟨some 33, .load true 3 (.tmp 32) false, none⟩,
    ⟨some 34, .move (.tmp 1) false, none⟩,
    ⟨some 35, .call 19 [(.tmp 33), (.tmp 34)], none⟩,
    ⟨some 36, .un .not (.tmp 35), none⟩,
    ⟨some 4, .assign (.tmp 36), none⟩])
   .ret) .skip))))))))))
   (.seq (.region false [⟨some 5, .assign (.const (.int .i64 (0))), none⟩])
   (.seq (.seq (.region false [⟨some 6, .assign (.const (.int .i64 (0))), none⟩])
   (.block 1 (.loop [5, 2, 6, 1, 0, 4] l19_0)))
   (.seq (.region false [⟨some 53, .fieldAddr 0 (.tmp 2), none⟩,
    ⟨some 54, .load false 1 (.tmp 53) false, none⟩,
    ⟨some 55, .bin .eql (.tmp 54) (.const (.int .i64 (5))), none⟩,
    ⟨some 56, .move (.tmp 55) false, none⟩,
    ⟨some 57, .move (.tmp 5) false, some (56, true)⟩,
    ⟨some 58, .fieldAddr 2 (.tmp 2), some (56, true)⟩,
    ⟨some 59, .load false 1 (.tmp 58) false, some (56, true)⟩,
    ⟨some 60, .len 0 (.tmp 59), some (56, true)⟩,
    ⟨some 61, .bin .eql (.tmp 57) (.tmp 60), some (56, true)⟩,
    ⟨some 62, .pick (.tmp 56) (.tmp 61) (.const (.bool false)), none⟩,
    ⟨some 63, .move (.tmp 62) false, none⟩,
    ⟨some 64, .fieldAddr 0 (.tmp 2), some (63, false)⟩,
    ⟨some 65, .load false 1 (.tmp 64) false, some (63, false)⟩,
    ⟨some 66, .bin .eql (.tmp 65) (.const (.int .i64 (6))), some (63, false)⟩,
    ⟨some 67, .move (.tmp 66) false, some (63, false)⟩,
    ⟨some 68, .move (.tmp 5) false, some (67, true)⟩,
    ⟨some 69, .bin .gtr (.tmp 68) (.const (.int .i64 (0))), some (67, true)⟩,
    ⟨some 70, .pick (.tmp 67) (.tmp 69) (.const (.bool false)), some (63, false)⟩,
    ⟨some 71, .pick (.tmp 63) (.const (.bool true)) (.tmp 70), none⟩,
    ⟨some 4, .assign (.tmp 71), none⟩])
   .ret)))))⟩

def l20_0 : MCode :=
   (.seq (.region false [⟨some 16, .bin .lss (.tmp 15) (.tmp 14), none⟩])
   (.seq (.cond (.tmp 16) .skip (.exit 0))
   (.seq (.block 1 (.seq (.region false [⟨some 17, .indexAddr 3 (.tmp 13) (.tmp 15), none⟩,
    ⟨some 18, .load true 3 (.tmp 17) false, none⟩,
    ⟨some 5, .alloc [(.int .i64 (0)), (.int .i64 (0)), (.sl [] (some 24))], none⟩,
    ⟨none, .store 3 (.tmp 5) (.tmp 18), none⟩])
   (.region false [⟨some 19, .move (.tmp 3) false, none⟩,
    ⟨some 20, .load true 3 (.tmp 5) false, none⟩,
    ⟨some 21, .call 20 [(.tmp 20)], none⟩,
    ⟨some 22, .max [(.tmp 19), (.tmp 21)], none⟩,
    ⟨some 3, .assign (.tmp 22), none⟩])))
   (.region false [⟨some 23, .bin .add (.tmp 15) (.const (.int .i64 (1))), none⟩,
    ⟨some 15, .move (.tmp 23) false, none⟩]))))

/-- 'chamberlain/logic.Atoms' -/
def m20 : MFunc :=
  ⟨1, 25, [.tmp 2],
   (.seq (.region false [⟨some 1, .box (.tmp 0), none⟩,
    ⟨some 2, .assign (.const (.int .i64 (0))), none⟩])
   (.seq (.region false [⟨some 3, .assign (.const (.int .i64 (0))), none⟩])
   (.seq (.seq (.region false [⟨some 6, .fieldAddr 0 (.tmp 1), none⟩,
    ⟨some 7, .load false 1 (.tmp 6) false, none⟩,
    ⟨some 8, .bin .eql (.tmp 7) (.const (.int .i64 (3))), none⟩])
   (.cond (.tmp 8) (.region false [⟨some 9, .fieldAddr 1 (.tmp 1), none⟩,
    ⟨some 10, .load false 1 (.tmp 9) false, none⟩,
    ⟨some 11, .max [(.tmp 10), (.const (.int .i64 (0)))], none⟩,
    ⟨some 3, .assign (.tmp 11), none⟩]) .skip))
   (.seq (.seq (.region false [⟨some 12, .fieldAddr 2 (.tmp 1), none⟩,
    ⟨some 13, .load false 1 (.tmp 12) false, none⟩,
    ⟨some 14, .len 0 (.tmp 13), none⟩,
    ⟨some 15, .move (.const (.int .i64 (0))) false, none⟩])
   (.block 0 (.loop [3, 15, 13, 14, 0, 2] l20_0)))
   (.seq (.region false [⟨some 24, .move (.tmp 3) false, none⟩,
    ⟨some 2, .assign (.tmp 24), none⟩])
   .ret)))))⟩

def l21_0 : MCode :=
   (.seq (.seq (.region false [⟨some 11, .move (.tmp 4) false, none⟩,
    ⟨some 12, .fieldAddr 2 (.tmp 1), none⟩,
    ⟨some 13, .load false 1 (.tmp 12) false, none⟩,
    ⟨some 14, .len 0 (.tmp 13), none⟩,
    ⟨some 15, .bin .lss (.tmp 11) (.tmp 14), none⟩])
   (.cond (.tmp 15) .skip (.exit 0)))
   (.seq (.block 1 (.seq (.region false [⟨some 18, .fieldAddr 2 (.tmp 1), none⟩,
    ⟨some 19, .load false 1 (.tmp 18) false, none⟩,
    ⟨some 20, .move (.tmp 4) false, none⟩,
    ⟨some 21, .indexAddr 3 (.tmp 19) (.tmp 20), none⟩,
    ⟨some 22, .load true 3 (.tmp 21) false, none⟩,
    ⟨some 23, .call 21 [(.tmp 22)], none⟩,
    ⟨some 5, .assign (.tmp 23), none⟩])
   (.seq (.region false [⟨some 24, .move (.tmp 5) false, none⟩,
    ⟨some 25, .move (.tmp 3) false, none⟩,
    ⟨some 26, .bin .gtr (.tmp 24) (.tmp 25), none⟩])
   (.cond (.tmp 26) (.region false [⟨some 27, .move (.tmp 5) false, none⟩,
    ⟨some 3, .assign (.tmp 27), none⟩]) .skip))))
   (.region false [⟨some 16, .move (.tmp 4) false, none⟩,
    ⟨some 17, .bin .add (.tmp 16) (.const (.int .i64 (1))), none⟩,
    ⟨some 4, .assign (.tmp 17), none⟩])))

/-- 'chamberlain/chamberlainref18.Atoms' -/
def m21 : MFunc :=
  ⟨1, 29, [.tmp 2],
   (.seq (.region false [⟨some 1, .box (.tmp 0), none⟩,
    ⟨some 2, .assign (.const (.int .i64 (0))), none⟩])
   (.seq (.seq (.region false [⟨some 6, .fieldAddr 0 (.tmp 1), none⟩,
    ⟨some 7, .load false 1 (.tmp 6) false, none⟩,
    ⟨some 8, .bin .eql (.tmp 7) (.const (.int .i64 (3))), none⟩])
   (.cond (.tmp 8) (.seq (.region false [⟨some 9, .fieldAddr 1 (.tmp 1), none⟩,
    ⟨some 10, .load false 1 (.tmp 9) false, none⟩,
    ⟨some 2, .assign (.tmp 10), none⟩])
   .ret) .skip))
   (.seq (.region false [⟨some 3, .assign (.const (.int .i64 (0))), none⟩])
   (.seq (.seq (.region false [⟨some 4, .assign (.const (.int .i64 (0))), none⟩])
   (.block 0 (.loop [3, 4, 1, 0, 2] l21_0)))
   (.seq (.region false [⟨some 28, .move (.tmp 3) false, none⟩,
    ⟨some 2, .assign (.tmp 28), none⟩])
   .ret)))))⟩


/-- 'chamberlain/logic.Simple' -/
def m22 : MFunc :=
  ⟨1, 33, [.cell 2 true 3],
   (.seq (.region false [⟨some 1, .box (.tmp 0), none⟩,
    ⟨some 2, .alloc [(.int .i64 (0)), (.int .i64 (0)), (.sl [] (some 24))], none⟩])
   (.seq (.seq (.region false [⟨some 3, .fieldAddr 0 (.tmp 1), none⟩,
    ⟨some 4, .load false 1 (.tmp 3) false, none⟩])
   (.block 0 (.seq (.region false [⟨some 6, .bin .eql (.tmp 4) (.const (.int .i64 (4))), none⟩,
    ⟨some 5, .assign (.tmp 6), none⟩])
   (.cond (.tmp 5) (.seq (.region false [⟨some 7, .fieldAddr 2 (.tmp 1), none⟩,
    ⟨some 8, .load false 1 (.tmp 7) false, none⟩,
    ⟨some 9, .len 0 (.tmp 8), none⟩,
    ⟨some 10, .bin .eql (.tmp 9) (.const (.int .i64 (1))), none⟩])
   (.cond (.tmp 10) (.seq (.region false [⟨some 11, .fieldAddr 2 (.tmp 1), none⟩,
    ⟨some 12, .load false 1 (.tmp 11) false, none⟩,
    ⟨some 13, .indexAddr 3 (.tmp 12) (.const (.int .i64 (0))), none⟩,
    ⟨some 14, .load true 3 (.tmp 13) false, none⟩,
    ⟨some 15, .call 22 [(.tmp 14)], none⟩,
    ⟨some 16, .call 42 [(.tmp 15)], none⟩,
    ⟨none, .store 3 (.tmp 2) (.tmp 16), none⟩])
   .ret) .skip)) (.seq (.region false [⟨some 18, .bin .eql (.tmp 4) (.const (.int .i64 (5))), none⟩,
    ⟨some 17, .assign (.tmp 18), none⟩])
   (.cond (.tmp 17) (.seq (.region false [⟨some 19, .load true 3 (.tmp 1) false, none⟩,
    ⟨some 20, .call 43 [(.tmp 19), (.const (.int .i64 (1))), (.const (.int .i64 (2)))], none⟩,
    ⟨none, .store 3 (.tmp 2) (.tmp 20), none⟩])
   .ret) (.seq (.region false [⟨some 22, .bin .eql (.tmp 4) (.const (.int .i64 (6))), none⟩,
    ⟨some 21, .assign (.tmp 22), none⟩])
   (.cond (.tmp 21) (.seq (.region false [⟨some 23, .load true 3 (.tmp 1) false, none⟩,
    ⟨some 24, .call 43 [(.tmp 23), (.const (.int .i64 (2))), (.const (.int .i64 (1)))], none⟩,
    ⟨none, .store 3 (.tmp 2) (.tmp 24), none⟩])
   .ret) (.seq (.region false [⟨some 26, .bin .eql (.tmp 4) (.const (.int .i64 (3))), none⟩,
    ⟨some 25, .assign (.tmp 26), none⟩])
   (.cond (.tmp 25) (.seq (.region false [⟨some 27, .fieldAddr 1 (.tmp 1), none⟩,
    ⟨some 28, .load false 1 (.tmp 27) false, none⟩,
    ⟨some 29, .build [(.int .i64 (0)), (.int .i64 (0)), (.nils 24)] [(0, 1, (.const (.int .i64 (3)))), (1, 1, (.tmp 28))], none⟩,
    ⟨none, .store 3 (.tmp 2) (.tmp 29), none⟩])
   .ret) .skip))))))))))
   (.seq (.region false [⟨some 30, .fieldAddr 0 (.tmp 1), none⟩,
    ⟨some 31, .load false 1 (.tmp 30) false, none⟩,
    ⟨some 32, .build [(.int .i64 (0)), (.int .i64 (0)), (.nils 24)] [(0, 1, (.tmp 31))], none⟩,
    ⟨none, .store 3 (.tmp 2) (.tmp 32), none⟩])
   .ret)))⟩

def l23_0 : MCode :=
   (.seq (.seq (.region false [⟨some 28, .move (.tmp 5) false, none⟩,
    ⟨some 29, .fieldAddr 2 (.tmp 2), none⟩,
    ⟨some 30, .load false 1 (.tmp 29) false, none⟩,
    ⟨some 31, .len 0 (.tmp 30), none⟩,
    ⟨some 32, .bin .lss (.tmp 28) (.tmp 31), none⟩])
   (.cond (.tmp 32) .skip (.exit 0)))
   (.seq (.block 1 (.seq (.region false [⟨some 35, .fieldAddr 2 (.tmp 2), none⟩,
    ⟨some 36, .load false 1 (.tmp 35) false, none⟩,
    ⟨some 37, .move (.tmp 5) false, none⟩,
    ⟨some 38, .indexAddr 3 (.tmp 36) (.tmp 37), none⟩,
    ⟨some 39, .load true 3 (.tmp 38) false, none⟩,
    ⟨some 40, .fieldAddr 2 (.tmp 3), none⟩,
    ⟨some 41, .load false 1 (.tmp 40) false, none⟩,
    ⟨some 42, .move (.tmp 5) false, none⟩,
    ⟨some 43, .indexAddr 3 (.tmp 41) (.tmp 42), none⟩,
    ⟨some 44, .load true 3 (.tmp 43) false, none⟩,
    ⟨some 45, .call 23 [(.tmp 39), (.tmp 44)], none⟩,
    ⟨some 6, .assign (.tmp 45), none⟩])
   (.seq (.region false [⟨some 46, .move (.tmp 6) false, none⟩,
    ⟨some 47, .un .not (.tmp 46), none⟩])
   (.cond (.tmp 47) (.seq (.region false [⟨some 4, .assign (.const (.bool false)), none⟩])
   .ret) .skip))))
   (.region false [⟨some 33, .move (.tmp 5) false, none⟩,
    ⟨some 34, .bin .add (.tmp 33) (.const (.int .i64 (1))), none⟩,
    ⟨some 5, .assign (.tmp 34), none⟩])))

/-- 'chamberlain/chamberlainref18.Same' -/
def m23 : MFunc :=
  ⟨2, 48, [.tmp 4],
   (.seq (.region false [⟨some 2, .box (.tmp 0), none⟩,
    ⟨some 3, .box (.tmp 1), none⟩,
    ⟨some 4, .assign (.const (.bool false)), none⟩])
   (.seq (.seq (.region false [⟨some 7, .fieldAddr 0 (.tmp 2), none⟩,
    ⟨some 8, .load false 1 (.tmp 7) false, none⟩,
    ⟨some 9, .fieldAddr 0 (.tmp 3), none⟩,
    ⟨some 10, .load false 1 (.tmp 9) false, none⟩,
    ⟨some 11, .bin .neq (.tmp 8) (.tmp 10), none⟩,
    ⟨some 12, .move (.tmp 11) false, none⟩,
    ⟨some 13, .fieldAddr 1 (.tmp 2), some (12, false)⟩,
    ⟨some 14, .load false 1 (.tmp 13) false, some (12, false)⟩,
    ⟨some 15, .fieldAddr 1 (.tmp 3), some (12, false)⟩,
    ⟨some 16, .load false 1 (.tmp 15) false, some (12, false)⟩,
    ⟨some 17, .bin .neq (.tmp 14) (.tmp 16), some (12, false)⟩,
    ⟨some 18, .pick (.tmp 12) (.const (.bool true)) (.tmp 17), none⟩,
    ⟨some 19, .move (.tmp 18) false, none⟩,
    ⟨some 20, .fieldAddr 2 (.tmp 2), some (19, false)⟩,
    ⟨some 21, .load false 1 (.tmp 20) false, some (19, false)⟩,
    ⟨some 22, .len 0 (.tmp 21), some (19, false)⟩,
    ⟨some 23, .fieldAddr 2 (.tmp 3), some (19, false)⟩,
    ⟨some 24, .load false 1 (.tmp 23) false, some (19, false)⟩,
    ⟨some 25, .len 0 (.tmp 24), some (19, false)⟩,
    ⟨some 26, .bin .neq (.tmp 22) (.tmp 25), some (19, false)⟩,
    ⟨some 27, .pick (.tmp 19) (.const (.bool true)) (.tmp 26), none⟩])
   (.cond (.tmp 27) (.seq (.region false [⟨some 4, .assign (.const (.bool false)), none⟩])
   .ret) .skip))
   (.seq (.seq (.region false [⟨some 5, .assign (.const (.int .i64 (0))), none⟩])
   (.block 0 (.loop [5, 3, 2, 1, 0, 4] l23_0)))
   (.seq (.region false [⟨some 4, .assign (.const (.bool true)), none⟩])
   .ret))))⟩

def l24_0 : MCode :=
   (.seq (.seq (.region false [⟨some 48, .move (.tmp 6) false, none⟩,
    ⟨some 49, .fieldAddr 2 (.tmp 1), none⟩,
    ⟨some 50, .load false 1 (.tmp 49) false, none⟩,
    ⟨some 51, .len 0 (.tmp 50), none⟩,
    ⟨some 52, .bin .lss (.tmp 48) (.tmp 51), none⟩])
   (.cond (.tmp 52) .skip (.exit 1)))
   (.seq (.block 2 (.seq (.region false [⟨some 55, .fieldAddr 2 (.tmp 1), none⟩,
    ⟨some 56, .load false 1 (.tmp 55) false, none⟩,
    ⟨some 57, .move (.tmp 6) false, none⟩,
    ⟨some 58, .indexAddr 3 (.tmp 56) (.tmp 57), none⟩,
    ⟨some 59, .load true 3 (.tmp 58) false, none⟩,
    ⟨some 60, .call 24 [(.tmp 59)], none⟩,
    ⟨some 7, .alloc [(.int .i64 (0)), (.int .i64 (0)), (.sl [] (some 33))], none⟩,
    ⟨none, .store 3 (.tmp 7) (.tmp 60), none⟩])
   (.seq (.seq (.region false [⟨some 61, .fieldAddr 0 (.tmp 7), none⟩,
    ⟨some 62, .load false 1 (.tmp 61) false, none⟩,
    ⟨some 63, .move (.tmp 4) false, none⟩,
    ⟨some 64, .bin .sub (.const (.int .i64 (3))) (.tmp 63), none⟩,
    ⟨some 65, .bin .eql (.tmp 62) (.tmp 64), none⟩])
   (.cond (.tmp 65) (.seq (.region false [⟨some 66, .move (.tmp 4) false, none⟩,
    ⟨some 67, .bin .sub (.const (.int .i64 (3))) (.tmp 66), none⟩,
    ⟨some 68, .build [(.int .i64 (0)), (.int .i64 (0)), (.nils 33)] [(0, 1, (.tmp 67))], none⟩,
    ⟨none, .store 3 (.tmp 2) (.tmp 68), none⟩])
   .ret) .skip))
   (.seq (.region false [⟨some 69, .fieldAddr 0 (.tmp 7), none⟩,
    ⟨some 70, .load false 1 (.tmp 69) false, none⟩,
    ⟨some 71, .move (.tmp 4) false, none⟩,
    ⟨some 72, .bin .neq (.tmp 70) (.tmp 71), none⟩])
   (.cond (.tmp 72) (.region false [⟨some 73, .move (.tmp 5) true, none⟩,
    ⟨some 74, .load true 3 (.tmp 7) false, none⟩,
    ⟨some 75, .buildSlice 33 3 1 [(.int .i64 (0)), (.int .i64 (0)), (.sl [] (some 33))] [(0, (.tmp 74))], none⟩,
    ⟨some 76, .append 33 3 40 false (.tmp 73) (.tmp 75), none⟩,
    ⟨some 5, .assign (.tmp 76), none⟩]) .skip)))))
   (.region false [⟨some 53, .move (.tmp 6) false, none⟩,
    ⟨some 54, .bin .add (.tmp 53) (.const (.int .i64 (1))), none⟩,
    ⟨some 6, .assign (.tmp 54), none⟩])))

/-- 'chamberlain/chamberlainref18.Simple' -/
def m24 : MFunc :=
  ⟨1, 92, [.cell 2 true 3],
   (.seq (.region false [⟨some 1, .box (.tmp 0), none⟩,
    ⟨some 2, .alloc [(.int .i64 (0)), (.int .i64 (0)), (.sl [] (some 33))], none⟩])
   (.seq (.seq (.region false [⟨some 8, .fieldAddr 0 (.tmp 1), none⟩,
    ⟨some 9, .load false 1 (.tmp 8) false, none⟩,
    ⟨some 10, .bin .lss (.tmp 9) (.const (.int .i64 (3))), none⟩])
   (.cond (.tmp 10) (.seq (.region false [⟨some 11, .fieldAddr 0 (.tmp 1), none⟩,
    ⟨some 12, .load false 1 (.tmp 11) false, none⟩,
    ⟨some 13, .build [(.int .i64 (0)), (.int .i64 (0)), (.nils 33)] [(0, 1, (.tmp 12))], none⟩,
    ⟨none, .store 3 (.tmp 2) (.tmp 13), none⟩])
   .ret) .skip))
   (.seq (.seq (.region false [⟨some 14, .fieldAddr 0 (.tmp 1), none⟩,
    ⟨some 15, .load false 1 (.tmp 14) false, none⟩,
    ⟨some 16, .bin .eql (.tmp 15) (.const (.int .i64 (3))), none⟩])
   (.cond (.tmp 16) (.seq (.region false [⟨some 17, .fieldAddr 1 (.tmp 1), none⟩,
    ⟨some 18, .load false 1 (.tmp 17) false, none⟩,
    ⟨some 19, .build [(.int .i64 (0)), (.int .i64 (0)), (.nils 33)] [(0, 1, (.const (.int .i64 (3)))), (1, 1, (.tmp 18))], none⟩,
    ⟨none, .store 3 (.tmp 2) (.tmp 19), none⟩])
   .ret) .skip))
   (.seq (.seq (.region false [⟨some 20, .fieldAddr 0 (.tmp 1), none⟩,
    ⟨some 21, .load false 1 (.tmp 20) false, none⟩,
    ⟨some 22, .bin .eql (.tmp 21) (.const (.int .i64 (4))), none⟩])
   (.cond (.tmp 22) (.seq (.region false [⟨some 23, .fieldAddr 2 (.tmp 1), none⟩,
    ⟨some 24, .load false 1 (.tmp 23) false, none⟩,
    ⟨some 25, .indexAddr 3 (.tmp 24) (.const (.int .i64 (0))), none⟩,
    ⟨some 26, .load true 3 (.tmp 25) false, none⟩,
    ⟨some 27, .call 24 [(.tmp 26)], none⟩,
    ⟨some 3, .alloc [(.int .i64 (0)), (.int .i64 (0)), (.sl [] (some 33))], none⟩,
    ⟨none, .store 3 (.tmp 3) (.tmp 27), none⟩])
   (.seq (.seq (.region false [⟨some 28, .fieldAddr 0 (.tmp 3), none⟩,
    ⟨some 29, .load false 1 (.tmp 28) false, none⟩])
   (.block 0 (.seq (.region false [⟨some 31, .bin .eql (.tmp 29) (.const (.int .i64 (1))), none⟩,
    ⟨some 30, .assign (.tmp 31), none⟩])
   (.cond (.tmp 30) (.seq (.region false [⟨some 32, .build [(.int .i64 (0)), (.int .i64 (0)), (.nils 33)] [(0, 1, (.const (.int .i64 (2))))], none⟩,
    ⟨none, .store 3 (.tmp 2) (.tmp 32), none⟩])
   .ret) (.seq (.region false [⟨some 34, .bin .eql (.tmp 29) (.const (.int .i64 (2))), none⟩,
    ⟨some 33, .assign (.tmp 34), none⟩])
   (.cond (.tmp 33) (.seq (.region false [⟨some 35, .build [(.int .i64 (0)), (.int .i64 (0)), (.nils 33)] [(0, 1, (.const (.int .i64 (1))))], none⟩,
    ⟨none, .store 3 (.tmp 2) (.tmp 35), none⟩])
   .ret) (.seq (.region false [⟨some 37, .bin .eql (.tmp 29) (.const (.int .i64 (4))), none⟩,
    ⟨some 36, .assign (.tmp 37), none⟩])
   (.cond (.tmp 36) (.seq (.region false [⟨some 38, .fieldAddr 2 (.tmp 3), none⟩,
    ⟨some 39, .load false 1 (.tmp 38) false, none⟩,
    ⟨some 40, .indexAddr 3 (.tmp 39) (.const (.int .i64 (0))), none⟩,
    ⟨some 41, .load true 3 (.tmp 40) false, none⟩,
    ⟨none, .store 3 (.tmp 2) (.tmp 41), none⟩])
   .ret) .skip))))))))
   (.seq (.region false [⟨some 42, .load true 3 (.tmp 3) false, none⟩,
    ⟨some 43, .buildSlice 33 3 1 [(.int .i64 (0)), (.int .i64 (0)), (.sl [] (some 33))] [(0, (.tmp 42))], none⟩,
    ⟨some 44, .build [(.int .i64 (0)), (.int .i64 (0)), (.nils 33)] [(0, 1, (.const (.int .i64 (4)))), (2, 1, (.tmp 43))], none⟩,
    ⟨none, .store 3 (.tmp 2) (.tmp 44), none⟩])
   .ret))) .skip))
   (.seq (.region false [⟨some 4, .assign (.const (.int .i64 (1))), none⟩])
   (.seq (.seq (.region false [⟨some 45, .fieldAddr 0 (.tmp 1), none⟩,
    ⟨some 46, .load false 1 (.tmp 45) false, none⟩,
    ⟨some 47, .bin .eql (.tmp 46) (.const (.int .i64 (6))), none⟩])
   (.cond (.tmp 47) (.region false [⟨some 4, .assign (.const (.int .i64 (2))), none⟩]) .skip))
   (.seq (.region false [⟨some 5, .assign (.const (.sl [] (some 33))), none⟩])
   (.seq (.seq (.region false [⟨some 6, .assign (.const (.int .i64 (0))), none⟩])
   (.block 1 (.loop [2, 5, 1, 4, 6, 0] l24_0)))
   (.seq (.seq (.region false [⟨some 77, .move (.tmp 5) false, none⟩,
    ⟨some 78, .len 0 (.tmp 77), none⟩,
    ⟨some 79, .bin .eql (.tmp 78) (.const (.int .i64 (0))), none⟩])
   (.cond (.tmp 79) (.seq (.region false [⟨some 80, .move (.tmp 4) false, none⟩,
    ⟨some 81, .build [(.int .i64 (0)), (.int .i64 (0)), (.nils 33)] [(0, 1, (.tmp 80))], none⟩,
    ⟨none, .store 3 (.tmp 2) (.tmp 81), none⟩])
   .ret) .skip))
   (.seq (.seq (.region false [⟨some 82, .move (.tmp 5) false, none⟩,
    ⟨some 83, .len 0 (.tmp 82), none⟩,
    ⟨some 84, .bin .eql (.tmp 83) (.const (.int .i64 (1))), none⟩])
   (.cond (.tmp 84) (.seq (.region false [⟨some 85, .move (.tmp 5) false, none⟩,
    ⟨some 86, .indexAddr 3 (.tmp 85) (.const (.int .i64 (0))), none⟩,
    ⟨some 87, .load true 3 (.tmp 86) false, none⟩,
    ⟨none, .store 3 (.tmp 2) (.tmp 87), none⟩])
   .ret) .skip))
   (.seq (.region false [⟨some 88, .fieldAddr 0 (.tmp 1), none⟩,
    ⟨some 89, .load false 1 (.tmp 88) false, none⟩,
    ⟨some 90, .move (.tmp 5) false, none⟩,
    ⟨some 91, .build [(.int .i64 (0)), (.int .i64 (0)), (.nils 33)] [(0, 1, (.tmp 89)), (2, 1, (.tmp 90))], none⟩,
    ⟨none, .store 3 (.tmp 2) (.tmp 91), none⟩])
   .ret)))))))))))⟩

def l25_0 : MCode :=
   (.seq (.seq (.region false [⟨some 8, .move (.tmp 3) false, none⟩,
    ⟨some 9, .fieldAddr 2 (.tmp 1), none⟩,
    ⟨some 10, .load false 1 (.tmp 9) false, none⟩,
    ⟨some 11, .len 0 (.tmp 10), none⟩,
    ⟨some 12, .bin .lss (.tmp 8) (.tmp 11), none⟩])
   (.cond (.tmp 12) .skip (.exit 0)))
   (.seq (.block 1 (.seq (.region false [⟨some 15, .fieldAddr 2 (.tmp 1), none⟩,
    ⟨some 16, .load false 1 (.tmp 15) false, none⟩,
    ⟨some 17, .move (.tmp 3) false, none⟩,
    ⟨some 18, .indexAddr 3 (.tmp 16) (.tmp 17), none⟩,
    ⟨some 19, .load true 3 (.tmp 18) false, none⟩,
    ⟨some 20, .call 25 [(.tmp 19)], none⟩,
    ⟨some 4, .assign (.tmp 20), none⟩])
   (.seq (.region false [⟨some 21, .move (.tmp 4) false, none⟩,
    ⟨some 22, .un .not (.tmp 21), none⟩])
   (.cond (.tmp 22) (.seq (.region false [⟨some 2, .assign (.const (.bool false)), none⟩])
   .ret) .skip))))
   (.region false [⟨some 13, .move (.tmp 3) false, none⟩,
    ⟨some 14, .bin .add (.tmp 13) (.const (.int .i64 (1))), none⟩,
    ⟨some 3, .assign (.tmp 14), none⟩])))

/-- 'chamberlain/chamberlainlaw18.free' -/
def m25 : MFunc :=
  ⟨1, 23, [.tmp 2],
   (.seq (.region false [⟨some 1, .box (.tmp 0), none⟩,
    ⟨some 2, .assign (.const (.bool false)), none⟩])
   (.seq (.seq (.region false [⟨some 5, .fieldAddr 0 (.tmp 1), none⟩,
    ⟨some 6, .load false 1 (.tmp 5) false, none⟩,
    ⟨some 7, .bin .leq (.tmp 6) (.const (.int .i64 (2))), none⟩])
   (.cond (.tmp 7) (.seq (.region false [⟨some 2, .assign (.const (.bool false)), none⟩])
   .ret) .skip))
   (.seq (.seq (.region false [⟨some 3, .assign (.const (.int .i64 (0))), none⟩])
   (.block 0 (.loop [3, 1, 0, 2] l25_0)))
   (.seq (.region false [⟨some 2, .assign (.const (.bool true)), none⟩])
   .ret))))⟩


/-- 'chamberlain/chamberlainlaw19.awake' -/
def m26 : MFunc :=
  ⟨0, 56, [.tmp 0],
   (.seq (.region false [⟨some 0, .assign (.const (.bool false)), none⟩])
   (.seq (.region false [⟨some 4, .build [(.int .i64 (0)), (.int .i64 (0)), (.nils 24)] [(0, 1, (.const (.int .i64 (3)))), (1, 1, (.const (.int .i64 (1))))], none⟩,
    ⟨some 5, .build [(.int .i64 (0)), (.int .i64 (0)), (.nils 24)] [(0, 1, (.const (.int .i64 (3)))), (1, 1, (.const (.int .i64 (2))))], none⟩,
    ⟨some 6, .buildSlice 24 3 1 [(.int .i64 (0)), (.int .i64 (0)), (.sl [] (some 24))] [(0, (.tmp 5))], none⟩,
    ⟨some 7, .build [(.int .i64 (0)), (.int .i64 (0)), (.nils 24)] [(0, 1, (.const (.int .i64 (4)))), (2, 1, (.tmp 6))], none⟩,
    ⟨some 8, .buildSlice 24 3 2 [(.int .i64 (0)), (.int .i64 (0)), (.sl [] (some 24))] [(0, (.tmp 4)), (1, (.tmp 7))], none⟩,
    ⟨some 9, .build [(.int .i64 (0)), (.int .i64 (0)), (.nils 24)] [(0, 1, (.const (.int .i64 (5)))), (2, 1, (.tmp 8))], none⟩,
    ⟨some 1, .alloc [(.int .i64 (0)), (.int .i64 (0)), (.sl [] (some 24))], none⟩,
    ⟨none, .store 3 (.tmp 1) (.tmp 9), none⟩])
   (.seq (.region false [⟨some 11, .load true 3 (.tmp 1) false, none⟩,
    ⟨some 12, .call 30 [(.tmp 11), (.const (.int .i64 (2)))], none⟩,
    ⟨some 10, .move (.tmp 12) false, none⟩,
    ⟨some 13, .extract (.tmp 10) 0, none⟩,
    ⟨some 14, .extract (.tmp 10) 1, none⟩,
    ⟨some 2, .assign (.tmp 13), none⟩,
    ⟨some 3, .assign (.tmp 14), none⟩])
   (.seq (.region false [⟨some 15, .move (.tmp 2) false, none⟩,
    ⟨some 16, .len 0 (.tmp 15), none⟩,
    ⟨some 17, .bin .eql (.tmp 16) (.const (.int .i64 (4))), none⟩,
    ⟨some 18, .move (.tmp 17) false, none⟩,
    ⟨some 19, .move (.tmp 3) false, some (18, true)⟩,
    ⟨some 20, .bin .eql (.tmp 19) (.const (.int .i64 (3))), some (18, true)⟩,
    ⟨some 21, .pick (.tmp 18) (.tmp 20) (.const (.bool false)), none⟩,
    ⟨some 22, .move (.tmp 21) false, none⟩,
    ⟨some 23, .move (.tmp 2) false, some (22, true)⟩,
    ⟨some 24, .indexAddr 1 (.tmp 23) (.const (.int .i64 (2))), some (22, true)⟩,
    ⟨some 25, .load false 1 (.tmp 24) false, some (22, true)⟩,
    ⟨some 26, .len 0 (.tmp 25), some (22, true)⟩,
    ⟨some 27, .bin .eql (.tmp 26) (.const (.int .i64 (3))), some (22, true)⟩,
    ⟨some 28, .pick (.tmp 22) (.tmp 27) (.const (.bool false)), none⟩,
    ⟨some 29, .move (.tmp 28) false, none⟩,
    ⟨some 30, .move (.tmp 2) false, some (29, true)⟩,
    ⟨some 31, .indexAddr 1 (.tmp 30) (.const (.int .i64 (2))), some (29, true)⟩,
    ⟨some 32, .load false 1 (.tmp 31) false, some (29, true)⟩,
    ⟨some 33, .indexAddr 1 (.tmp 32) (.const (.int .i64 (2))), some (29, true)⟩,
    ⟨some 34, .load false 1 (.tmp 33) false, some (29, true)⟩,
    ⟨some 35, .bin .eql (.tmp 34) (.const (.int .i64 (2))), some (29, true)⟩,
    ⟨some 36, .pick (.tmp 29) (.tmp 35) (.const (.bool false)), none⟩,
    ⟨some 37, .move (.tmp 36) false, none⟩,
    ⟨some 38, .move (.tmp 2) false, some (37, true)⟩,
    ⟨some 39, .indexAddr 1 (.tmp 38) (.const (.int .i64 (3))), some (37, true)⟩,
    ⟨some 40, .load false 1 (.tmp 39) false, some (37, true)⟩,
    ⟨some 41, .indexAddr 1 (.tmp 40) (.const (.int .i64 (0))), some (37, true)⟩,
    ⟨some 42, .load false 1 (.tmp 41) false, some (37, true)⟩,
    ⟨some 43, .bin .eql (.tmp 42) (.const (.int .i64 (3))), some (37, true)⟩,
    ⟨some 44, .pick (.tmp 37) (.tmp 43) (.const (.bool false)), none⟩,
    ⟨some 45, .move (.tmp 44) false, none⟩,
    ⟨some 46, .move (.tmp 2) false, some (45, true)⟩,
    ⟨some 47, .buildSlice 4 1 3 [(.bool false)] [(0, (.const (.bool true))), (1, (.const (.bool false))), (2, (.const (.bool true)))], some (45, true)⟩,
    ⟨some 48, .call 33 [(.tmp 46), (.tmp 47)], some (45, true)⟩,
    ⟨some 49, .pick (.tmp 45) (.tmp 48) (.const (.bool false)), none⟩,
    ⟨some 50, .move (.tmp 49) false, none⟩,
    ⟨some 51, .move (.tmp 2) false, some (50, true)⟩,
    ⟨some 52, .buildSlice 4 1 3 [(.bool false)] [(0, (.const (.bool true))), (1, (.const (.bool true))), (2, (.const (.bool true)))], some (50, true)⟩,
    ⟨some 53, .call 33 [(.tmp 51), (.tmp 52)], some (50, true)⟩,
    ⟨some 54, .un .not (.tmp 53), some (50, true)⟩,
    ⟨some 55, .pick (.tmp 50) (.tmp 54) (.const (.bool false)), none⟩,
    ⟨some 0, .assign (.tmp 55), none⟩])
   .ret))))⟩

def l27_0 : MCode :=
   (.seq (.seq (.region false [⟨some 15, .move (.tmp 5) false, none⟩,
    ⟨some 16, .fieldAddr 2 (.tmp 2), none⟩,
    ⟨some 17, .load false 1 (.tmp 16) false, none⟩,
    ⟨some 18, .len 0 (.tmp 17), none⟩,
    ⟨some 19, .bin .lss (.tmp 15) (.tmp 18), none⟩])
   (.cond (.tmp 19) .skip (.exit 0)))
   (.seq (.block 1 (.seq (.region false [⟨some 22, .fieldAddr 2 (.tmp 2), none⟩,
    ⟨some 23, .load false 1 (.tmp 22) false, none⟩,
    ⟨some 24, .move (.tmp 5) false, none⟩,
    ⟨some 25, .indexAddr 3 (.tmp 23) (.tmp 24), none⟩,
    ⟨some 26, .load true 3 (.tmp 25) false, none⟩,
    ⟨some 27, .move (.tmp 1) false, none⟩,
    ⟨some 28, .bin .add (.tmp 27) (.const (.int .i64 (1))), none⟩,
    ⟨some 29, .call 27 [(.tmp 26), (.tmp 28)], none⟩,
    ⟨some 6, .assign (.tmp 29), none⟩])
   (.seq (.region false [⟨some 30, .move (.tmp 6) false, none⟩,
    ⟨some 31, .un .not (.tmp 30), none⟩])
   (.cond (.tmp 31) (.seq (.region false [⟨some 4, .assign (.const (.bool false)), none⟩])
   .ret) .skip))))
   (.region false [⟨some 20, .move (.tmp 5) false, none⟩,
    ⟨some 21, .bin .add (.tmp 20) (.const (.int .i64 (1))), none⟩,
    ⟨some 5, .assign (.tmp 21), none⟩])))

/-- 'chamberlain/chamberlainlaw19.bounded' -/
def m27 : MFunc :=
  ⟨2, 32, [.tmp 4],
   (.seq (.region false [⟨some 2, .box (.tmp 0), none⟩,
    ⟨some 4, .assign (.const (.bool false)), none⟩])
   (.seq (.seq (.region false [⟨some 7, .fieldAddr 2 (.tmp 2), none⟩,
    ⟨some 8, .load false 1 (.tmp 7) false, none⟩,
    ⟨some 9, .len 0 (.tmp 8), none⟩,
    ⟨some 10, .bin .gtr (.tmp 9) (.const (.int .i64 (12))), none⟩,
    ⟨some 11, .move (.tmp 10) false, none⟩,
    ⟨some 12, .move (.tmp 1) false, some (11, false)⟩,
    ⟨some 13, .bin .gtr (.tmp 12) (.const (.int .i64 (40))), some (11, false)⟩,
    ⟨some 14, .pick (.tmp 11) (.const (.bool true)) (.tmp 13), none⟩])
   (.cond (.tmp 14) (.seq (.region false [⟨some 4, .assign (.const (.bool false)), none⟩])
   .ret) .skip))
   (.seq (.seq (.region false [⟨some 5, .assign (.const (.int .i64 (0))), none⟩])
   (.block 0 (.loop [5, 1, 2, 0, 4] l27_0)))
   (.seq (.region false [⟨some 4, .assign (.const (.bool true)), none⟩])
   .ret))))⟩

def l28_0 : MCode :=
   (.seq (.seq (.region false [⟨some 5, .move (.tmp 4) false, none⟩,
    ⟨some 6, .fieldAddr 2 (.tmp 1), none⟩,
    ⟨some 7, .load false 1 (.tmp 6) false, none⟩,
    ⟨some 8, .len 0 (.tmp 7), none⟩,
    ⟨some 9, .bin .lss (.tmp 5) (.tmp 8), none⟩,
    ⟨some 10, .move (.tmp 9) false, none⟩,
    ⟨some 11, .move (.tmp 3) false, some (10, true)⟩,
    ⟨some 12, .bin .lss (.tmp 11) (.const (.int .i64 (1000))), some (10, true)⟩,
    ⟨some 13, .pick (.tmp 10) (.tmp 12) (.const (.bool false)), none⟩])
   (.cond (.tmp 13) .skip (.exit 0)))
   (.seq (.block 1 (.region false [⟨some 16, .move (.tmp 3) false, none⟩,
    ⟨some 17, .fieldAddr 2 (.tmp 1), none⟩,
    ⟨some 18, .load false 1 (.tmp 17) false, none⟩,
    ⟨some 19, .move (.tmp 4) false, none⟩,
    ⟨some 20, .indexAddr 3 (.tmp 18) (.tmp 19), none⟩,
    ⟨some 21, .load true 3 (.tmp 20) false, none⟩,
    ⟨some 22, .call 28 [(.tmp 21)], none⟩,
    ⟨some 23, .bin .add (.tmp 16) (.tmp 22), none⟩,
    ⟨some 3, .assign (.tmp 23), none⟩]))
   (.region false [⟨some 14, .move (.tmp 4) false, none⟩,
    ⟨some 15, .bin .add (.tmp 14) (.const (.int .i64 (1))), none⟩,
    ⟨some 4, .assign (.tmp 15), none⟩])))

/-- 'chamberlain/chamberlainlaw19.weight' -/
def m28 : MFunc :=
  ⟨1, 25, [.tmp 2],
   (.seq (.region false [⟨some 1, .box (.tmp 0), none⟩,
    ⟨some 2, .assign (.const (.int .i64 (0))), none⟩])
   (.seq (.region false [⟨some 3, .assign (.const (.int .i64 (1))), none⟩])
   (.seq (.seq (.region false [⟨some 4, .assign (.const (.int .i64 (0))), none⟩])
   (.block 0 (.loop [3, 4, 1, 0, 2] l28_0)))
   (.seq (.region false [⟨some 24, .move (.tmp 3) false, none⟩,
    ⟨some 2, .assign (.tmp 24), none⟩])
   .ret))))⟩

def l29_0 : MCode :=
   (.seq (.seq (.region false [⟨some 10, .move (.tmp 4) false, none⟩,
    ⟨some 11, .fieldAddr 2 (.tmp 1), none⟩,
    ⟨some 12, .load false 1 (.tmp 11) false, none⟩,
    ⟨some 13, .len 0 (.tmp 12), none⟩,
    ⟨some 14, .bin .lss (.tmp 10) (.tmp 13), none⟩])
   (.cond (.tmp 14) .skip (.exit 0)))
   (.seq (.block 1 (.region true [⟨some 17, .fieldAddr 2 (.tmp 3), none⟩,
    ⟨some 18, .load false 1 (.tmp 17) true, none⟩,
    ⟨some 19, .fieldAddr 2 (.tmp 1), none⟩,
    ⟨some 20, .load false 1 (.tmp 19) false, none⟩,
    ⟨some 21, .move (.tmp 4) false, none⟩,
    ⟨some 22, .indexAddr 3 (.tmp 20) (.tmp 21), none⟩,
    ⟨some 23, .load true 3 (.tmp 22) false, none⟩,
    ⟨some 24, .call 29 [(.tmp 23)], none⟩,
    ⟨some 25, .buildSlice 33 3 1 [(.int .i64 (0)), (.int .i64 (0)), (.sl [] (some 33))] [(0, (.tmp 24))], none⟩,
    ⟨some 26, .append 33 3 40 false (.tmp 18) (.tmp 25), none⟩,
    ⟨some 27, .fieldAddr 2 (.tmp 3), none⟩,
    ⟨none, .store 1 (.tmp 27) (.tmp 26), none⟩]))
   (.region false [⟨some 15, .move (.tmp 4) false, none⟩,
    ⟨some 16, .bin .add (.tmp 15) (.const (.int .i64 (1))), none⟩,
    ⟨some 4, .assign (.tmp 16), none⟩])))

/-- 'chamberlain/chamberlainlaw19.modelF' -/
def m29 : MFunc :=
  ⟨1, 29, [.cell 2 true 3],
   (.seq (.region false [⟨some 1, .box (.tmp 0), none⟩,
    ⟨some 2, .alloc [(.int .i64 (0)), (.int .i64 (0)), (.sl [] (some 33))], none⟩])
   (.seq (.region false [⟨some 5, .fieldAddr 0 (.tmp 1), none⟩,
    ⟨some 6, .load false 1 (.tmp 5) false, none⟩,
    ⟨some 7, .fieldAddr 1 (.tmp 1), none⟩,
    ⟨some 8, .load false 1 (.tmp 7) false, none⟩,
    ⟨some 9, .build [(.int .i64 (0)), (.int .i64 (0)), (.nils 33)] [(0, 1, (.tmp 6)), (1, 1, (.tmp 8))], none⟩,
    ⟨some 3, .alloc [(.int .i64 (0)), (.int .i64 (0)), (.sl [] (some 33))], none⟩,
    ⟨none, .store 3 (.tmp 3) (.tmp 9), none⟩])
   (.seq (.seq (.region false [⟨some 4, .assign (.const (.int .i64 (0))), none⟩])
   (.block 0 (.loop [2, 3, 4, 1, 0] l29_0)))
   (.seq (.region false [⟨some 28, .load true 3 (.tmp 3) false, none⟩,
    ⟨none, .store 3 (.tmp 2) (.tmp 28), none⟩])
   .ret))))⟩


/-- 'chamberlain/clauses.Of' -/
def m30 : MFunc :=
  ⟨2, 38, [.tmp 4, .tmp 5],
   (.seq (.region false [⟨some 2, .box (.tmp 0), none⟩,
    ⟨some 4, .assign (.const (.sl [] (some 51))), none⟩,
    ⟨some 5, .assign (.const (.int .i64 (0))), none⟩])
   (.seq (.region false [⟨some 8, .move (.tmp 1) false, none⟩,
    ⟨some 9, .load true 3 (.tmp 2) false, none⟩,
    ⟨some 10, .call 20 [(.tmp 9)], none⟩,
    ⟨some 11, .max [(.tmp 8), (.tmp 10), (.const (.int .i64 (0)))], none⟩,
    ⟨some 12, .build [(.nils 51), (.int .i64 (0))] [(1, 1, (.tmp 11))], none⟩,
    ⟨some 13, .box (.tmp 12), none⟩,
    ⟨some 6, .assign (.tmp 13), none⟩])
   (.seq (.seq (.region false [⟨some 14, .load true 3 (.tmp 2) false, none⟩,
    ⟨some 15, .call 22 [(.tmp 14)], none⟩,
    ⟨some 7, .alloc [(.int .i64 (0)), (.int .i64 (0)), (.sl [] (some 24))], none⟩,
    ⟨none, .store 3 (.tmp 7) (.tmp 15), none⟩])
   (.seq (.region false [⟨some 16, .fieldAddr 0 (.tmp 7), none⟩,
    ⟨some 17, .load false 1 (.tmp 16) false, none⟩])
   (.block 0 (.seq (.region false [⟨some 25, .bin .eql (.tmp 17) (.const (.int .i64 (1))), none⟩,
    ⟨some 24, .assign (.tmp 25), none⟩])
   (.cond (.tmp 24) .skip (.seq (.region false [⟨some 27, .bin .eql (.tmp 17) (.const (.int .i64 (2))), none⟩,
    ⟨some 26, .assign (.tmp 27), none⟩])
   (.cond (.tmp 26) (.region false [⟨some 28, .move (.tmp 6) false, none⟩,
    ⟨some 29, .call 44 [(.tmp 28), (.const (.sl [] none))], none⟩]) (.region false [⟨some 18, .move (.tmp 6) false, none⟩,
    ⟨some 19, .move (.tmp 6) false, none⟩,
    ⟨some 20, .load true 3 (.tmp 7) false, none⟩,
    ⟨some 21, .call 45 [(.tmp 19), (.tmp 20)], none⟩,
    ⟨some 22, .buildSlice 3 1 1 [(.int .i64 (0))] [(0, (.tmp 21))], none⟩,
    ⟨some 23, .call 44 [(.tmp 18), (.tmp 22)], none⟩]))))))))
   (.seq (.region false [⟨some 30, .move (.tmp 6) false, none⟩,
    ⟨some 31, .nilCheck (.tmp 30), none⟩,
    ⟨some 32, .fieldAddr 0 (.tmp 31), none⟩,
    ⟨some 33, .load false 1 (.tmp 32) false, none⟩,
    ⟨some 34, .move (.tmp 6) false, none⟩,
    ⟨some 35, .nilCheck (.tmp 34), none⟩,
    ⟨some 36, .fieldAddr 1 (.tmp 35), none⟩,
    ⟨some 37, .load false 1 (.tmp 36) false, none⟩,
    ⟨some 4, .assign (.tmp 33), none⟩,
    ⟨some 5, .assign (.tmp 37), none⟩])
   .ret))))⟩


/-- 'chamberlain/chamberlainref19.Of' -/
def m31 : MFunc :=
  ⟨2, 47, [.tmp 4, .tmp 5],
   (.seq (.region false [⟨some 2, .box (.tmp 0), none⟩,
    ⟨some 4, .assign (.const (.sl [] (some 51))), none⟩,
    ⟨some 5, .assign (.const (.int .i64 (0))), none⟩])
   (.seq (.region false [⟨some 11, .load true 3 (.tmp 2) false, none⟩,
    ⟨some 12, .call 21 [(.tmp 11)], none⟩,
    ⟨some 6, .assign (.tmp 12), none⟩])
   (.seq (.seq (.region false [⟨some 13, .move (.tmp 1) false, none⟩,
    ⟨some 14, .move (.tmp 6) false, none⟩,
    ⟨some 15, .bin .gtr (.tmp 13) (.tmp 14), none⟩])
   (.cond (.tmp 15) (.region false [⟨some 16, .move (.tmp 1) false, none⟩,
    ⟨some 6, .assign (.tmp 16), none⟩]) .skip))
   (.seq (.region false [⟨some 17, .load true 3 (.tmp 2) false, none⟩,
    ⟨some 18, .call 24 [(.tmp 17)], none⟩,
    ⟨some 7, .alloc [(.int .i64 (0)), (.int .i64 (0)), (.sl [] (some 33))], none⟩,
    ⟨none, .store 3 (.tmp 7) (.tmp 18), none⟩])
   (.seq (.seq (.region false [⟨some 19, .fieldAddr 0 (.tmp 7), none⟩,
    ⟨some 20, .load false 1 (.tmp 19) false, none⟩,
    ⟨some 21, .bin .eql (.tmp 20) (.const (.int .i64 (1))), none⟩])
   (.cond (.tmp 21) (.seq (.region false [⟨some 22, .move (.tmp 6) false, none⟩,
    ⟨some 4, .assign (.const (.sl [] (some 51))), none⟩,
    ⟨some 5, .assign (.tmp 22), none⟩])
   .ret) .skip))
   (.seq (.seq (.region false [⟨some 23, .fieldAddr 0 (.tmp 7), none⟩,
    ⟨some 24, .load false 1 (.tmp 23) false, none⟩,
    ⟨some 25, .bin .eql (.tmp 24) (.const (.int .i64 (2))), none⟩])
   (.cond (.tmp 25) (.seq (.region false [⟨some 26, .buildSlice 3 1 0 [(.int .i64 (0))] [], none⟩,
    ⟨some 27, .buildSlice 51 1 1 [(.sl [] (some 3))] [(0, (.tmp 26))], none⟩,
    ⟨some 28, .move (.tmp 6) false, none⟩,
    ⟨some 4, .assign (.tmp 27), none⟩,
    ⟨some 5, .assign (.tmp 28), none⟩])
   .ret) .skip))
   (.seq (.region false [⟨some 30, .move (.tmp 6) false, none⟩,
    ⟨some 31, .build [(.nils 51), (.int .i64 (0))] [(1, 1, (.tmp 30))], none⟩,
    ⟨some 32, .load true 3 (.tmp 7) false, none⟩,
    ⟨some 33, .call 46 [(.tmp 31), (.tmp 32)], none⟩,
    ⟨some 29, .move (.tmp 33) false, none⟩,
    ⟨some 34, .extract (.tmp 29) 0, none⟩,
    ⟨some 35, .extract (.tmp 29) 1, none⟩,
    ⟨some 8, .alloc [(.sl [] (some 51)), (.int .i64 (0))], none⟩,
    ⟨none, .store 2 (.tmp 8) (.tmp 34), none⟩,
    ⟨some 9, .assign (.tmp 35), none⟩])
   (.seq (.region false [⟨some 10, .assign (.const (.sl [] (some 51))), none⟩])
   (.seq (.region false [⟨some 36, .move (.tmp 10) true, none⟩,
    ⟨some 37, .fieldAddr 0 (.tmp 8), none⟩,
    ⟨some 38, .load false 1 (.tmp 37) false, none⟩,
    ⟨some 39, .append 51 1 24 false (.tmp 36) (.tmp 38), none⟩,
    ⟨some 10, .assign (.tmp 39), none⟩])
   (.seq (.region false [⟨some 40, .move (.tmp 10) true, none⟩,
    ⟨some 41, .move (.tmp 9) false, none⟩,
    ⟨some 42, .buildSlice 3 1 1 [(.int .i64 (0))] [(0, (.tmp 41))], none⟩,
    ⟨some 43, .buildSlice 51 1 1 [(.sl [] (some 3))] [(0, (.tmp 42))], none⟩,
    ⟨some 44, .append 51 1 24 false (.tmp 40) (.tmp 43), none⟩,
    ⟨some 45, .fieldAddr 1 (.tmp 8), none⟩,
    ⟨some 46, .load false 1 (.tmp 45) false, none⟩,
    ⟨some 4, .assign (.tmp 44), none⟩,
    ⟨some 5, .assign (.tmp 46), none⟩])
   .ret))))))))))⟩

def l32_0 : MCode :=
   (.seq (.seq (.region false [⟨some 29, .move (.tmp 6) false, none⟩,
    ⟨some 30, .move (.tmp 0) false, none⟩,
    ⟨some 31, .move (.tmp 5) false, none⟩,
    ⟨some 32, .indexAddr 1 (.tmp 30) (.tmp 31), none⟩,
    ⟨some 33, .load false 1 (.tmp 32) false, none⟩,
    ⟨some 34, .len 0 (.tmp 33), none⟩,
    ⟨some 35, .bin .lss (.tmp 29) (.tmp 34), none⟩])
   (.cond (.tmp 35) .skip (.exit 2)))
   (.seq (.block 3 (.seq (.region false [⟨some 38, .move (.tmp 0) false, none⟩,
    ⟨some 39, .move (.tmp 5) false, none⟩,
    ⟨some 40, .indexAddr 1 (.tmp 38) (.tmp 39), none⟩,
    ⟨some 41, .load false 1 (.tmp 40) false, none⟩,
    ⟨some 42, .move (.tmp 6) false, none⟩,
    ⟨some 43, .indexAddr 1 (.tmp 41) (.tmp 42), none⟩,
    ⟨some 44, .load false 1 (.tmp 43) false, none⟩,
    ⟨some 45, .move (.tmp 1) false, none⟩,
    ⟨some 46, .move (.tmp 5) false, none⟩,
    ⟨some 47, .indexAddr 1 (.tmp 45) (.tmp 46), none⟩,
    ⟨some 48, .load false 1 (.tmp 47) false, none⟩,
    ⟨some 49, .move (.tmp 6) false, none⟩,
    ⟨some 50, .indexAddr 1 (.tmp 48) (.tmp 49), none⟩,
    ⟨some 51, .load false 1 (.tmp 50) false, none⟩,
    ⟨some 52, .bin .neq (.tmp 44) (.tmp 51), none⟩])
   (.cond (.tmp 52) (.seq (.region false [⟨some 4, .assign (.const (.bool false)), none⟩])
   .ret) .skip)))
   (.region false [⟨some 36, .move (.tmp 6) false, none⟩,
    ⟨some 37, .bin .add (.tmp 36) (.const (.int .i64 (1))), none⟩,
    ⟨some 6, .assign (.tmp 37), none⟩])))

def l32_1 : MCode :=
   (.seq (.seq (.region false [⟨some 12, .move (.tmp 5) false, none⟩,
    ⟨some 13, .move (.tmp 0) false, none⟩,
    ⟨some 14, .len 0 (.tmp 13), none⟩,
    ⟨some 15, .bin .lss (.tmp 12) (.tmp 14), none⟩])
   (.cond (.tmp 15) .skip (.exit 0)))
   (.seq (.block 1 (.seq (.seq (.region false [⟨some 18, .move (.tmp 0) false, none⟩,
    ⟨some 19, .move (.tmp 5) false, none⟩,
    ⟨some 20, .indexAddr 1 (.tmp 18) (.tmp 19), none⟩,
    ⟨some 21, .load false 1 (.tmp 20) false, none⟩,
    ⟨some 22, .len 0 (.tmp 21), none⟩,
    ⟨some 23, .move (.tmp 1) false, none⟩,
    ⟨some 24, .move (.tmp 5) false, none⟩,
    ⟨some 25, .indexAddr 1 (.tmp 23) (.tmp 24), none⟩,
    ⟨some 26, .load false 1 (.tmp 25) false, none⟩,
    ⟨some 27, .len 0 (.tmp 26), none⟩,
    ⟨some 28, .bin .neq (.tmp 22) (.tmp 27), none⟩])
   (.cond (.tmp 28) (.seq (.region false [⟨some 4, .assign (.const (.bool false)), none⟩])
   .ret) .skip))
   (.seq (.region false [⟨some 6, .assign (.const (.int .i64 (0))), none⟩])
   (.block 2 (.loop [5, 6, 1, 0, 4] l32_0)))))
   (.region false [⟨some 16, .move (.tmp 5) false, none⟩,
    ⟨some 17, .bin .add (.tmp 16) (.const (.int .i64 (1))), none⟩,
    ⟨some 5, .assign (.tmp 17), none⟩])))

/-- 'chamberlain/chamberlainlaw19.same' -/
def m32 : MFunc :=
  ⟨2, 53, [.tmp 4],
   (.seq (.region false [⟨some 4, .assign (.const (.bool false)), none⟩])
   (.seq (.seq (.region false [⟨some 7, .move (.tmp 0) false, none⟩,
    ⟨some 8, .len 0 (.tmp 7), none⟩,
    ⟨some 9, .move (.tmp 1) false, none⟩,
    ⟨some 10, .len 0 (.tmp 9), none⟩,
    ⟨some 11, .bin .neq (.tmp 8) (.tmp 10), none⟩])
   (.cond (.tmp 11) (.seq (.region false [⟨some 4, .assign (.const (.bool false)), none⟩])
   .ret) .skip))
   (.seq (.seq (.region false [⟨some 5, .assign (.const (.int .i64 (0))), none⟩])
   (.block 0 (.loop [5, 6, 1, 0, 4] l32_1)))
   (.seq (.region false [⟨some 4, .assign (.const (.bool true)), none⟩])
   .ret))))⟩


/-- 'chamberlain/clauses.Met' -/
def m33 : MFunc :=
  ⟨2, 11, [.tmp 4],
   (.seq (.region false [⟨some 3, .box (.tmp 1), none⟩,
    ⟨some 4, .assign (.const (.bool false)), none⟩])
   (.seq (.region false [⟨some 6, .mkfunc 47 [(.tmp 3)], none⟩,
    ⟨some 5, .alloc [.nilf], none⟩,
    ⟨none, .store 1 (.tmp 5) (.tmp 6), none⟩])
   (.seq (.region false [⟨some 7, .move (.tmp 0) false, none⟩,
    ⟨some 8, .mkfunc 49 [(.tmp 5)], none⟩,
    ⟨some 9, .call 48 [(.tmp 7), (.tmp 8)], none⟩,
    ⟨some 10, .un .not (.tmp 9), none⟩,
    ⟨some 4, .assign (.tmp 10), none⟩])
   .ret)))⟩

def l34_0 : MCode :=
   (.seq (.seq (.region false [⟨some 15, .move (.tmp 7) false, none⟩,
    ⟨some 16, .move (.tmp 0) false, none⟩,
    ⟨some 17, .move (.tmp 5) false, none⟩,
    ⟨some 18, .indexAddr 1 (.tmp 16) (.tmp 17), none⟩,
    ⟨some 19, .load false 1 (.tmp 18) false, none⟩,
    ⟨some 20, .len 0 (.tmp 19), none⟩,
    ⟨some 21, .bin .lss (.tmp 15) (.tmp 20), none⟩])
   (.cond (.tmp 21) .skip (.exit 2)))
   (.seq (.block 3 (.seq (.region false [⟨some 24, .move (.tmp 0) false, none⟩,
    ⟨some 25, .move (.tmp 5) false, none⟩,
    ⟨some 26, .indexAddr 1 (.tmp 24) (.tmp 25), none⟩,
    ⟨some 27, .load false 1 (.tmp 26) false, none⟩,
    ⟨some 28, .move (.tmp 7) false, none⟩,
    ⟨some 29, .indexAddr 1 (.tmp 27) (.tmp 28), none⟩,
    ⟨some 30, .load false 1 (.tmp 29) false, none⟩,
    ⟨some 31, .move (.tmp 1) false, none⟩,
    ⟨some 32, .call 51 [(.tmp 30), (.tmp 31)], none⟩,
    ⟨some 8, .assign (.tmp 32), none⟩])
   (.region false [⟨some 33, .move (.tmp 6) false, none⟩,
    ⟨some 34, .move (.tmp 33) false, none⟩,
    ⟨some 35, .move (.tmp 8) false, some (34, false)⟩,
    ⟨some 36, .pick (.tmp 34) (.const (.bool true)) (.tmp 35), none⟩,
    ⟨some 6, .assign (.tmp 36), none⟩])))
   (.region false [⟨some 22, .move (.tmp 7) false, none⟩,
    ⟨some 23, .bin .add (.tmp 22) (.const (.int .i64 (1))), none⟩,
    ⟨some 7, .assign (.tmp 23), none⟩])))

def l34_1 : MCode :=
   (.seq (.seq (.region false [⟨some 9, .move (.tmp 5) false, none⟩,
    ⟨some 10, .move (.tmp 0) false, none⟩,
    ⟨some 11, .len 0 (.tmp 10), none⟩,
    ⟨some 12, .bin .lss (.tmp 9) (.tmp 11), none⟩])
   (.cond (.tmp 12) .skip (.exit 0)))
   (.seq (.block 1 (.seq (.region false [⟨some 6, .assign (.const (.bool false)), none⟩])
   (.seq (.seq (.region false [⟨some 7, .assign (.const (.int .i64 (0))), none⟩])
   (.block 2 (.loop [5, 6, 7, 1, 0, 4] l34_0)))
   (.seq (.region false [⟨some 37, .move (.tmp 6) false, none⟩,
    ⟨some 38, .un .not (.tmp 37), none⟩])
   (.cond (.tmp 38) (.seq (.region false [⟨some 4, .assign (.const (.bool false)), none⟩])
   .ret) .skip)))))
   (.region false [⟨some 13, .move (.tmp 5) false, none⟩,
    ⟨some 14, .bin .add (.tmp 13) (.const (.int .i64 (1))), none⟩,
    ⟨some 5, .assign (.tmp 14), none⟩])))

/-- 'chamberlain/chamberlainref19.Met' -/
def m34 : MFunc :=
  ⟨2, 39, [.tmp 4],
   (.seq (.region false [⟨some 4, .assign (.const (.bool false)), none⟩])
   (.seq (.seq (.region false [⟨some 5, .assign (.const (.int .i64 (0))), none⟩])
   (.block 0 (.loop [5, 6, 7, 1, 0, 4] l34_1)))
   (.seq (.region false [⟨some 4, .assign (.const (.bool true)), none⟩])
   .ret)))⟩

def l35_0 : MCode :=
   (.seq (.region false [⟨some 10, .bin .lss (.tmp 9) (.tmp 8), none⟩])
   (.seq (.cond (.tmp 10) .skip (.exit 0))
   (.seq (.block 1 (.seq (.region false [⟨some 11, .indexAddr 3 (.tmp 7) (.tmp 9), none⟩,
    ⟨some 12, .load true 3 (.tmp 11) false, none⟩,
    ⟨some 5, .alloc [(.int .i64 (0)), (.int .i64 (0)), (.sl [] (some 24))], none⟩,
    ⟨none, .store 3 (.tmp 5) (.tmp 12), none⟩])
   (.region false [⟨some 13, .move (.tmp 3) false, none⟩,
    ⟨some 14, .load true 3 (.tmp 5) false, none⟩,
    ⟨some 15, .call 35 [(.tmp 14)], none⟩,
    ⟨some 16, .max [(.tmp 13), (.tmp 15)], none⟩,
    ⟨some 3, .assign (.tmp 16), none⟩])))
   (.region false [⟨some 17, .bin .add (.tmp 9) (.const (.int .i64 (1))), none⟩,
    ⟨some 9, .move (.tmp 17) false, none⟩]))))

/-- 'chamberlain/logic.depth' -/
def m35 : MFunc :=
  ⟨1, 20, [.tmp 2],
   (.seq (.region false [⟨some 1, .box (.tmp 0), none⟩,
    ⟨some 2, .assign (.const (.int .i64 (0))), none⟩])
   (.seq (.region false [⟨some 3, .assign (.const (.int .i64 (0))), none⟩])
   (.seq (.seq (.region false [⟨some 6, .fieldAddr 2 (.tmp 1), none⟩,
    ⟨some 7, .load false 1 (.tmp 6) false, none⟩,
    ⟨some 8, .len 0 (.tmp 7), none⟩,
    ⟨some 9, .move (.const (.int .i64 (0))) false, none⟩])
   (.block 0 (.loop [3, 9, 7, 8, 0, 2] l35_0)))
   (.seq (.region false [⟨some 18, .move (.tmp 3) false, none⟩,
    ⟨some 19, .bin .add (.tmp 18) (.const (.int .i64 (1))), none⟩,
    ⟨some 2, .assign (.tmp 19), none⟩])
   .ret))))⟩


/-- 'chamberlain/logic.may' -/
def m36 : MFunc :=
  ⟨1, 51, [.tmp 2],
   (.seq (.region false [⟨some 1, .box (.tmp 0), none⟩,
    ⟨some 2, .assign (.const (.bool false)), none⟩])
   (.seq (.block 0 (.seq (.region false [⟨some 4, .fieldAddr 0 (.tmp 1), none⟩,
    ⟨some 5, .load false 1 (.tmp 4) false, none⟩,
    ⟨some 6, .bin .lss (.tmp 5) (.const (.int .i64 (1))), none⟩,
    ⟨some 7, .move (.tmp 6) false, none⟩,
    ⟨some 8, .fieldAddr 0 (.tmp 1), some (7, false)⟩,
    ⟨some 9, .load false 1 (.tmp 8) false, some (7, false)⟩,
    ⟨some 10, .bin .gtr (.tmp 9) (.const (.int .i64 (6))), some (7, false)⟩,
    ⟨some 11, .pick (.tmp 7) (.const (.bool true)) (.tmp 10), none⟩,
    ⟨some 3, .assign (.tmp 11), none⟩])
   (.cond (.tmp 3) (.seq (.region false [⟨some 2, .assign (.const (.bool false)), none⟩])
   .ret) (.seq (.region false [⟨some 13, .fieldAddr 0 (.tmp 1), none⟩,
    ⟨some 14, .load false 1 (.tmp 13) false, none⟩,
    ⟨some 15, .bin .leq (.tmp 14) (.const (.int .i64 (3))), none⟩,
    ⟨some 16, .move (.tmp 15) false, none⟩,
    ⟨some 17, .fieldAddr 2 (.tmp 1), some (16, true)⟩,
    ⟨some 18, .load false 1 (.tmp 17) false, some (16, true)⟩,
    ⟨some 19, .len 0 (.tmp 18), some (16, true)⟩,
    ⟨some 20, .bin .gtr (.tmp 19) (.const (.int .i64 (0))), some (16, true)⟩,
    ⟨some 21, .pick (.tmp 16) (.tmp 20) (.const (.bool false)), none⟩,
    ⟨some 22, .move (.tmp 21) false, none⟩,
    ⟨some 23, .fieldAddr 0 (.tmp 1), some (22, false)⟩,
    ⟨some 24, .load false 1 (.tmp 23) false, some (22, false)⟩,
    ⟨some 25, .bin .eql (.tmp 24) (.const (.int .i64 (4))), some (22, false)⟩,
    ⟨some 26, .move (.tmp 25) false, some (22, false)⟩,
    ⟨some 27, .fieldAddr 2 (.tmp 1), some (26, true)⟩,
    ⟨some 28, .load false 1 (.tmp 27) false, some (26, true)⟩,
    ⟨some 29, .len 0 (.tmp 28), some (26, true)⟩,
    ⟨some 30, .bin .neq (.tmp 29) (.const (.int .i64 (1))), some (26, true)⟩,
    ⟨some 31, .pick (.tmp 26) (.tmp 30) (.const (.bool false)), some (22, false)⟩,
    ⟨some 32, .pick (.tmp 22) (.const (.bool true)) (.tmp 31), none⟩,
    ⟨some 12, .assign (.tmp 32), none⟩])
   (.cond (.tmp 12) (.seq (.region false [⟨some 2, .assign (.const (.bool false)), none⟩])
   .ret) (.seq (.region false [⟨some 34, .fieldAddr 0 (.tmp 1), none⟩,
    ⟨some 35, .load false 1 (.tmp 34) false, none⟩,
    ⟨some 36, .bin .eql (.tmp 35) (.const (.int .i64 (3))), none⟩,
    ⟨some 37, .move (.tmp 36) false, none⟩,
    ⟨some 38, .fieldAddr 1 (.tmp 1), some (37, true)⟩,
    ⟨some 39, .load false 1 (.tmp 38) false, some (37, true)⟩,
    ⟨some 40, .bin .lss (.tmp 39) (.const (.int .i64 (1))), some (37, true)⟩,
    ⟨some 41, .move (.tmp 40) false, some (37, true)⟩,
    ⟨some 42, .fieldAddr 1 (.tmp 1), some (41, false)⟩,
    ⟨some 43, .load false 1 (.tmp 42) false, some (41, false)⟩,
    ⟨some 44, .bin .gtr (.tmp 43) (.const (.int .i64 (1000))), some (41, false)⟩,
    ⟨some 45, .pick (.tmp 41) (.const (.bool true)) (.tmp 44), some (37, true)⟩,
    ⟨some 46, .pick (.tmp 37) (.tmp 45) (.const (.bool false)), none⟩,
    ⟨some 33, .assign (.tmp 46), none⟩])
   (.cond (.tmp 33) (.seq (.region false [⟨some 2, .assign (.const (.bool false)), none⟩])
   .ret) .skip)))))))
   (.seq (.region false [⟨some 47, .fieldAddr 2 (.tmp 1), none⟩,
    ⟨some 48, .load false 1 (.tmp 47) false, none⟩,
    ⟨some 49, .call 40 [(.tmp 48), (.const (.func 52 []))], none⟩,
    ⟨some 50, .un .not (.tmp 49), none⟩,
    ⟨some 2, .assign (.tmp 50), none⟩])
   .ret)))⟩

def l37_0 : MCode :=
   (.seq (.seq (.region false [⟨some 6, .move (.tmp 4) false, none⟩,
    ⟨some 7, .fieldAddr 2 (.tmp 1), none⟩,
    ⟨some 8, .load false 1 (.tmp 7) false, none⟩,
    ⟨some 9, .len 0 (.tmp 8), none⟩,
    ⟨some 10, .bin .lss (.tmp 6) (.tmp 9), none⟩])
   (.cond (.tmp 10) .skip (.exit 0)))
   (.seq (.block 1 (.seq (.region false [⟨some 13, .fieldAddr 2 (.tmp 1), none⟩,
    ⟨some 14, .load false 1 (.tmp 13) false, none⟩,
    ⟨some 15, .move (.tmp 4) false, none⟩,
    ⟨some 16, .indexAddr 3 (.tmp 14) (.tmp 15), none⟩,
    ⟨some 17, .load true 3 (.tmp 16) false, none⟩,
    ⟨some 18, .call 37 [(.tmp 17)], none⟩,
    ⟨some 5, .assign (.tmp 18), none⟩])
   (.seq (.region false [⟨some 19, .move (.tmp 5) false, none⟩,
    ⟨some 20, .move (.tmp 3) false, none⟩,
    ⟨some 21, .bin .gtr (.tmp 19) (.tmp 20), none⟩])
   (.cond (.tmp 21) (.region false [⟨some 22, .move (.tmp 5) false, none⟩,
    ⟨some 3, .assign (.tmp 22), none⟩]) .skip))))
   (.region false [⟨some 11, .move (.tmp 4) false, none⟩,
    ⟨some 12, .bin .add (.tmp 11) (.const (.int .i64 (1))), none⟩,
    ⟨some 4, .assign (.tmp 12), none⟩])))

/-- 'chamberlain/chamberlainref18.Depth' -/
def m37 : MFunc :=
  ⟨1, 25, [.tmp 2],
   (.seq (.region false [⟨some 1, .box (.tmp 0), none⟩,
    ⟨some 2, .assign (.const (.int .i64 (0))), none⟩])
   (.seq (.region false [⟨some 3, .assign (.const (.int .i64 (0))), none⟩])
   (.seq (.seq (.region false [⟨some 4, .assign (.const (.int .i64 (0))), none⟩])
   (.block 0 (.loop [3, 4, 1, 0, 2] l37_0)))
   (.seq (.region false [⟨some 23, .move (.tmp 3) false, none⟩,
    ⟨some 24, .bin .add (.tmp 23) (.const (.int .i64 (1))), none⟩,
    ⟨some 2, .assign (.tmp 24), none⟩])
   .ret))))⟩

def l38_0 : MCode :=
   (.seq (.seq (.region false [⟨some 50, .move (.tmp 4) false, none⟩,
    ⟨some 51, .move (.tmp 3) false, none⟩,
    ⟨some 52, .bin .lss (.tmp 50) (.tmp 51), none⟩])
   (.cond (.tmp 52) .skip (.exit 0)))
   (.seq (.block 1 (.seq (.region false [⟨some 55, .fieldAddr 2 (.tmp 1), none⟩,
    ⟨some 56, .load false 1 (.tmp 55) false, none⟩,
    ⟨some 57, .move (.tmp 4) false, none⟩,
    ⟨some 58, .indexAddr 3 (.tmp 56) (.tmp 57), none⟩,
    ⟨some 59, .load true 3 (.tmp 58) false, none⟩,
    ⟨some 60, .call 38 [(.tmp 59)], none⟩,
    ⟨some 5, .assign (.tmp 60), none⟩])
   (.seq (.region false [⟨some 61, .move (.tmp 5) false, none⟩,
    ⟨some 62, .un .not (.tmp 61), none⟩])
   (.cond (.tmp 62) (.seq (.region false [⟨some 2, .assign (.const (.bool false)), none⟩])
   .ret) .skip))))
   (.region false [⟨some 53, .move (.tmp 4) false, none⟩,
    ⟨some 54, .bin .add (.tmp 53) (.const (.int .i64 (1))), none⟩,
    ⟨some 4, .assign (.tmp 54), none⟩])))

/-- 'chamberlain/chamberlainref18.may' -/
def m38 : MFunc :=
  ⟨1, 63, [.tmp 2],
   (.seq (.region false [⟨some 1, .box (.tmp 0), none⟩,
    ⟨some 2, .assign (.const (.bool false)), none⟩])
   (.seq (.region false [⟨some 6, .fieldAddr 2 (.tmp 1), none⟩,
    ⟨some 7, .load false 1 (.tmp 6) false, none⟩,
    ⟨some 8, .len 0 (.tmp 7), none⟩,
    ⟨some 3, .assign (.tmp 8), none⟩])
   (.seq (.seq (.region false [⟨some 9, .fieldAddr 0 (.tmp 1), none⟩,
    ⟨some 10, .load false 1 (.tmp 9) false, none⟩,
    ⟨some 11, .bin .lss (.tmp 10) (.const (.int .i64 (1))), none⟩,
    ⟨some 12, .move (.tmp 11) false, none⟩,
    ⟨some 13, .fieldAddr 0 (.tmp 1), some (12, false)⟩,
    ⟨some 14, .load false 1 (.tmp 13) false, some (12, false)⟩,
    ⟨some 15, .bin .gtr (.tmp 14) (.const (.int .i64 (6))), some (12, false)⟩,
    ⟨some 16, .pick (.tmp 12) (.const (.bool true)) (.tmp 15), none⟩,
    ⟨some 17, .move (.tmp 16) false, none⟩,
    ⟨some 18, .fieldAddr 0 (.tmp 1), some (17, false)⟩,
    ⟨some 19, .load false 1 (.tmp 18) false, some (17, false)⟩,
    ⟨some 20, .bin .lss (.tmp 19) (.const (.int .i64 (4))), some (17, false)⟩,
    ⟨some 21, .move (.tmp 20) false, some (17, false)⟩,
    ⟨some 22, .move (.tmp 3) false, some (21, true)⟩,
    ⟨some 23, .bin .gtr (.tmp 22) (.const (.int .i64 (0))), some (21, true)⟩,
    ⟨some 24, .pick (.tmp 21) (.tmp 23) (.const (.bool false)), some (17, false)⟩,
    ⟨some 25, .pick (.tmp 17) (.const (.bool true)) (.tmp 24), none⟩,
    ⟨some 26, .move (.tmp 25) false, none⟩,
    ⟨some 27, .fieldAddr 0 (.tmp 1), some (26, false)⟩,
    ⟨some 28, .load false 1 (.tmp 27) false, some (26, false)⟩,
    ⟨some 29, .bin .eql (.tmp 28) (.const (.int .i64 (4))), some (26, false)⟩,
    ⟨some 30, .move (.tmp 29) false, some (26, false)⟩,
    ⟨some 31, .move (.tmp 3) false, some (30, true)⟩,
    ⟨some 32, .bin .neq (.tmp 31) (.const (.int .i64 (1))), some (30, true)⟩,
    ⟨some 33, .pick (.tmp 30) (.tmp 32) (.const (.bool false)), some (26, false)⟩,
    ⟨some 34, .pick (.tmp 26) (.const (.bool true)) (.tmp 33), none⟩,
    ⟨some 35, .move (.tmp 34) false, none⟩,
    ⟨some 36, .fieldAddr 0 (.tmp 1), some (35, false)⟩,
    ⟨some 37, .load false 1 (.tmp 36) false, some (35, false)⟩,
    ⟨some 38, .bin .eql (.tmp 37) (.const (.int .i64 (3))), some (35, false)⟩,
    ⟨some 39, .move (.tmp 38) false, some (35, false)⟩,
    ⟨some 40, .fieldAddr 1 (.tmp 1), some (39, true)⟩,
    ⟨some 41, .load false 1 (.tmp 40) false, some (39, true)⟩,
    ⟨some 42, .bin .lss (.tmp 41) (.const (.int .i64 (1))), some (39, true)⟩,
    ⟨some 43, .move (.tmp 42) false, some (39, true)⟩,
    ⟨some 44, .fieldAddr 1 (.tmp 1), some (43, false)⟩,
    ⟨some 45, .load false 1 (.tmp 44) false, some (43, false)⟩,
    ⟨some 46, .bin .gtr (.tmp 45) (.const (.int .i64 (1000))), some (43, false)⟩,
    ⟨some 47, .pick (.tmp 43) (.const (.bool true)) (.tmp 46), some (39, true)⟩,
    ⟨some 48, .pick (.tmp 39) (.tmp 47) (.const (.bool false)), some (35, false)⟩,
    ⟨some 49, .pick (.tmp 35) (.const (.bool true)) (.tmp 48), none⟩])
   (.cond (.tmp 49) (.seq (.region false [⟨some 2, .assign (.const (.bool false)), none⟩])
   .ret) .skip))
   (.seq (.seq (.region false [⟨some 4, .assign (.const (.int .i64 (0))), none⟩])
   (.block 0 (.loop [4, 1, 3, 0, 2] l38_0)))
   (.seq (.region false [⟨some 2, .assign (.const (.bool true)), none⟩])
   .ret)))))⟩


/-- 'chamberlain/logic.Eval$1' -/
def m39 : MFunc :=
  ⟨2, 7, [.tmp 3],
   (.seq (.region false [⟨some 2, .box (.tmp 0), none⟩,
    ⟨some 3, .assign (.const (.bool false)), none⟩])
   (.seq (.region false [⟨some 4, .load true 3 (.tmp 2) false, none⟩,
    ⟨some 5, .load false 1 (.tmp 1) false, none⟩,
    ⟨some 6, .call 18 [(.tmp 4), (.tmp 5)], none⟩,
    ⟨some 3, .assign (.tmp 6), none⟩])
   .ret))⟩


/-- 'slices.ContainsFunc[[]chamberlain/logic.F,chamberlain/logic.F]' -/
def m40 : MFunc :=
  ⟨2, 9, [.tmp 4],
   (.seq (.region false [⟨some 4, .assign (.const (.bool false)), none⟩])
   (.seq (.region false [⟨some 5, .move (.tmp 0) false, none⟩,
    ⟨some 6, .move (.tmp 1) false, none⟩,
    ⟨some 7, .call 53 [(.tmp 5), (.tmp 6)], none⟩,
    ⟨some 8, .bin .geq (.tmp 7) (.const (.int .i64 (0))), none⟩,
    ⟨some 4, .assign (.tmp 8), none⟩])
   .ret))⟩


/-- 'chamberlain/logic.Eval$2' -/
def m41 : MFunc :=
  ⟨2, 8, [.tmp 3],
   (.seq (.region false [⟨some 2, .box (.tmp 0), none⟩,
    ⟨some 3, .assign (.const (.bool false)), none⟩])
   (.seq (.region false [⟨some 4, .load false 1 (.tmp 1) false, none⟩,
    ⟨some 5, .load true 3 (.tmp 2) false, none⟩,
    ⟨some 6, .callv (.tmp 4) [(.tmp 5)], none⟩,
    ⟨some 7, .un .not (.tmp 6), none⟩,
    ⟨some 3, .assign (.tmp 7), none⟩])
   .ret))⟩


/-- 'chamberlain/logic.negation' -/
def m42 : MFunc :=
  ⟨1, 20, [.cell 2 true 3],
   (.seq (.region false [⟨some 1, .box (.tmp 0), none⟩,
    ⟨some 2, .alloc [(.int .i64 (0)), (.int .i64 (0)), (.sl [] (some 24))], none⟩])
   (.seq (.seq (.region false [⟨some 3, .fieldAddr 0 (.tmp 1), none⟩,
    ⟨some 4, .load false 1 (.tmp 3) false, none⟩])
   (.block 0 (.seq (.region false [⟨some 6, .bin .eql (.tmp 4) (.const (.int .i64 (1))), none⟩,
    ⟨some 5, .assign (.tmp 6), none⟩])
   (.cond (.tmp 5) (.seq (.region false [⟨some 7, .build [(.int .i64 (0)), (.int .i64 (0)), (.nils 24)] [(0, 1, (.const (.int .i64 (2))))], none⟩,
    ⟨none, .store 3 (.tmp 2) (.tmp 7), none⟩])
   .ret) (.seq (.region false [⟨some 9, .bin .eql (.tmp 4) (.const (.int .i64 (2))), none⟩,
    ⟨some 8, .assign (.tmp 9), none⟩])
   (.cond (.tmp 8) (.seq (.region false [⟨some 10, .build [(.int .i64 (0)), (.int .i64 (0)), (.nils 24)] [(0, 1, (.const (.int .i64 (1))))], none⟩,
    ⟨none, .store 3 (.tmp 2) (.tmp 10), none⟩])
   .ret) (.seq (.region false [⟨some 12, .bin .eql (.tmp 4) (.const (.int .i64 (4))), none⟩,
    ⟨some 11, .assign (.tmp 12), none⟩])
   (.cond (.tmp 11) (.seq (.region false [⟨some 13, .fieldAddr 2 (.tmp 1), none⟩,
    ⟨some 14, .load false 1 (.tmp 13) false, none⟩,
    ⟨some 15, .indexAddr 3 (.tmp 14) (.const (.int .i64 (0))), none⟩,
    ⟨some 16, .load true 3 (.tmp 15) false, none⟩,
    ⟨none, .store 3 (.tmp 2) (.tmp 16), none⟩])
   .ret) .skip))))))))
   (.seq (.region false [⟨some 17, .load true 3 (.tmp 1) false, none⟩,
    ⟨some 18, .buildSlice 24 3 1 [(.int .i64 (0)), (.int .i64 (0)), (.sl [] (some 24))] [(0, (.tmp 17))], none⟩,
    ⟨some 19, .build [(.int .i64 (0)), (.int .i64 (0)), (.nils 24)] [(0, 1, (.const (.int .i64 (4)))), (2, 1, (.tmp 18))], none⟩,
    ⟨none, .store 3 (.tmp 2) (.tmp 19), none⟩])
   .ret)))⟩

def l43_0 : MCode :=
   (.seq (.region false [⟨some 17, .bin .lss (.tmp 16) (.tmp 15), none⟩])
   (.seq (.cond (.tmp 17) .skip (.exit 0))
   (.seq (.block 1 (.seq (.region false [⟨some 18, .indexAddr 3 (.tmp 14) (.tmp 16), none⟩,
    ⟨some 19, .load true 3 (.tmp 18) false, none⟩,
    ⟨some 9, .alloc [(.int .i64 (0)), (.int .i64 (0)), (.sl [] (some 24))], none⟩,
    ⟨none, .store 3 (.tmp 9) (.tmp 19), none⟩])
   (.seq (.region false [⟨some 20, .load true 3 (.tmp 9) false, none⟩,
    ⟨some 21, .call 22 [(.tmp 20)], none⟩,
    ⟨none, .store 3 (.tmp 9) (.tmp 21), none⟩])
   (.seq (.region false [⟨some 22, .fieldAddr 0 (.tmp 9), none⟩,
    ⟨some 23, .load false 1 (.tmp 22) false, none⟩])
   (.block 2 (.seq (.region false [⟨some 31, .move (.tmp 2) false, none⟩,
    ⟨some 32, .bin .eql (.tmp 23) (.tmp 31), none⟩,
    ⟨some 30, .assign (.tmp 32), none⟩])
   (.cond (.tmp 30) (.seq (.region false [⟨some 33, .move (.tmp 2) false, none⟩,
    ⟨some 34, .build [(.int .i64 (0)), (.int .i64 (0)), (.nils 24)] [(0, 1, (.tmp 33))], none⟩,
    ⟨none, .store 3 (.tmp 6) (.tmp 34), none⟩])
   .ret) (.seq (.region false [⟨some 36, .move (.tmp 1) false, none⟩,
    ⟨some 37, .bin .eql (.tmp 23) (.tmp 36), none⟩,
    ⟨some 35, .assign (.tmp 37), none⟩])
   (.cond (.tmp 35) .skip (.region false [⟨some 24, .fieldAddr 2 (.tmp 7), none⟩,
    ⟨some 25, .load false 1 (.tmp 24) true, none⟩,
    ⟨some 26, .load true 3 (.tmp 9) false, none⟩,
    ⟨some 27, .buildSlice 24 3 1 [(.int .i64 (0)), (.int .i64 (0)), (.sl [] (some 24))] [(0, (.tmp 26))], none⟩,
    ⟨some 28, .append 24 3 40 false (.tmp 25) (.tmp 27), none⟩,
    ⟨some 29, .fieldAddr 2 (.tmp 7), none⟩,
    ⟨none, .store 1 (.tmp 29) (.tmp 28), none⟩]))))))))))
   (.region false [⟨some 38, .bin .add (.tmp 16) (.const (.int .i64 (1))), none⟩,
    ⟨some 16, .move (.tmp 38) false, none⟩]))))

/-- 'chamberlain/logic.row' -/
def m43 : MFunc :=
  ⟨3, 53, [.cell 6 true 3],
   (.seq (.region false [⟨some 3, .box (.tmp 0), none⟩,
    ⟨some 6, .alloc [(.int .i64 (0)), (.int .i64 (0)), (.sl [] (some 24))], none⟩])
   (.seq (.region false [⟨some 10, .fieldAddr 0 (.tmp 3), none⟩,
    ⟨some 11, .load false 1 (.tmp 10) false, none⟩,
    ⟨some 12, .build [(.int .i64 (0)), (.int .i64 (0)), (.nils 24)] [(0, 1, (.tmp 11))], none⟩,
    ⟨some 7, .alloc [(.int .i64 (0)), (.int .i64 (0)), (.sl [] (some 24))], none⟩,
    ⟨none, .store 3 (.tmp 7) (.tmp 12), none⟩])
   (.seq (.seq (.region false [⟨some 13, .fieldAddr 2 (.tmp 3), none⟩,
    ⟨some 14, .load false 1 (.tmp 13) false, none⟩,
    ⟨some 15, .len 0 (.tmp 14), none⟩,
    ⟨some 16, .move (.const (.int .i64 (0))) false, none⟩])
   (.block 0 (.loop [6, 7, 1, 16, 2, 14, 15, 0] l43_0)))
   (.seq (.seq (.region false [⟨some 39, .fieldAddr 2 (.tmp 7), none⟩,
    ⟨some 40, .load false 1 (.tmp 39) false, none⟩,
    ⟨some 41, .len 0 (.tmp 40), none⟩])
   (.block 3 (.seq (.region false [⟨some 43, .bin .eql (.tmp 41) (.const (.int .i64 (0))), none⟩,
    ⟨some 42, .assign (.tmp 43), none⟩])
   (.cond (.tmp 42) (.seq (.region false [⟨some 44, .move (.tmp 1) false, none⟩,
    ⟨some 45, .build [(.int .i64 (0)), (.int .i64 (0)), (.nils 24)] [(0, 1, (.tmp 44))], none⟩,
    ⟨none, .store 3 (.tmp 6) (.tmp 45), none⟩])
   .ret) (.seq (.region false [⟨some 47, .bin .eql (.tmp 41) (.const (.int .i64 (1))), none⟩,
    ⟨some 46, .assign (.tmp 47), none⟩])
   (.cond (.tmp 46) (.seq (.region false [⟨some 48, .fieldAddr 2 (.tmp 7), none⟩,
    ⟨some 49, .load false 1 (.tmp 48) false, none⟩,
    ⟨some 50, .indexAddr 3 (.tmp 49) (.const (.int .i64 (0))), none⟩,
    ⟨some 51, .load true 3 (.tmp 50) false, none⟩,
    ⟨none, .store 3 (.tmp 6) (.tmp 51), none⟩])
   .ret) .skip))))))
   (.seq (.region false [⟨some 52, .load true 3 (.tmp 7) false, none⟩,
    ⟨none, .store 3 (.tmp 6) (.tmp 52), none⟩])
   .ret)))))⟩


/-- '(*chamberlain/clauses.maker).put' -/
def m44 : MFunc :=
  ⟨2, 14, [],
   (.region false [⟨some 4, .move (.tmp 0) false, none⟩,
    ⟨some 5, .move (.tmp 0) false, none⟩,
    ⟨some 6, .nilCheck (.tmp 5), none⟩,
    ⟨some 7, .fieldAddr 0 (.tmp 6), none⟩,
    ⟨some 8, .load false 1 (.tmp 7) true, none⟩,
    ⟨some 9, .move (.tmp 1) false, none⟩,
    ⟨some 10, .buildSlice 51 1 1 [(.sl [] (some 3))] [(0, (.tmp 9))], none⟩,
    ⟨some 11, .append 51 1 24 false (.tmp 8) (.tmp 10), none⟩,
    ⟨some 12, .nilCheck (.tmp 4), none⟩,
    ⟨some 13, .fieldAddr 0 (.tmp 12), none⟩,
    ⟨none, .store 1 (.tmp 13) (.tmp 11), none⟩])⟩

def l45_0 : MCode :=
   (.seq (.region false [⟨some 35, .bin .lss (.tmp 34) (.tmp 33), none⟩])
   (.seq (.cond (.tmp 35) .skip (.exit 1))
   (.seq (.block 2 (.seq (.region false [⟨some 36, .indexAddr 3 (.tmp 32) (.tmp 34), none⟩,
    ⟨some 37, .load true 3 (.tmp 36) false, none⟩,
    ⟨some 8, .alloc [(.int .i64 (0)), (.int .i64 (0)), (.sl [] (some 24))], none⟩,
    ⟨none, .store 3 (.tmp 8) (.tmp 37), none⟩])
   (.region false [⟨some 38, .move (.tmp 6) true, none⟩,
    ⟨some 39, .move (.tmp 0) false, none⟩,
    ⟨some 40, .load true 3 (.tmp 8) false, none⟩,
    ⟨some 41, .call 45 [(.tmp 39), (.tmp 40)], none⟩,
    ⟨some 42, .buildSlice 3 1 1 [(.int .i64 (0))] [(0, (.tmp 41))], none⟩,
    ⟨some 43, .append 3 1 8 false (.tmp 38) (.tmp 42), none⟩,
    ⟨some 6, .assign (.tmp 43), none⟩])))
   (.region false [⟨some 44, .bin .add (.tmp 34) (.const (.int .i64 (1))), none⟩,
    ⟨some 34, .move (.tmp 44) false, none⟩]))))

def l45_1 : MCode :=
   (.seq (.region false [⟨some 63, .bin .lss (.tmp 62) (.tmp 61), none⟩])
   (.seq (.cond (.tmp 63) .skip (.exit 3))
   (.seq (.block 4 (.seq (.region false [⟨some 64, .indexAddr 1 (.tmp 60) (.tmp 62), none⟩,
    ⟨some 65, .load false 1 (.tmp 64) false, none⟩,
    ⟨some 12, .assign (.tmp 65), none⟩])
   (.seq (.region false [⟨some 66, .move (.tmp 0) false, none⟩,
    ⟨some 67, .move (.tmp 5) false, none⟩,
    ⟨some 68, .un .neg (.tmp 67), none⟩,
    ⟨some 69, .move (.tmp 9) false, none⟩,
    ⟨some 70, .bin .mul (.tmp 68) (.tmp 69), none⟩,
    ⟨some 71, .move (.tmp 5) false, none⟩,
    ⟨some 72, .move (.tmp 12) false, none⟩,
    ⟨some 73, .bin .mul (.tmp 71) (.tmp 72), none⟩,
    ⟨some 74, .buildSlice 3 1 2 [(.int .i64 (0))] [(0, (.tmp 70)), (1, (.tmp 73))], none⟩,
    ⟨some 75, .call 44 [(.tmp 66), (.tmp 74)], none⟩])
   (.region false [⟨some 76, .move (.tmp 10) true, none⟩,
    ⟨some 77, .move (.tmp 5) false, none⟩,
    ⟨some 78, .un .neg (.tmp 77), none⟩,
    ⟨some 79, .move (.tmp 12) false, none⟩,
    ⟨some 80, .bin .mul (.tmp 78) (.tmp 79), none⟩,
    ⟨some 81, .buildSlice 3 1 1 [(.int .i64 (0))] [(0, (.tmp 80))], none⟩,
    ⟨some 82, .append 3 1 8 false (.tmp 76) (.tmp 81), none⟩,
    ⟨some 10, .assign (.tmp 82), none⟩]))))
   (.region false [⟨some 83, .bin .add (.tmp 62) (.const (.int .i64 (1))), none⟩,
    ⟨some 62, .move (.tmp 83) false, none⟩]))))

/-- '(*chamberlain/clauses.maker).literal' -/
def m45 : MFunc :=
  ⟨2, 88, [.tmp 4],
   (.seq (.region false [⟨some 3, .box (.tmp 1), none⟩,
    ⟨some 4, .assign (.const (.int .i64 (0))), none⟩])
   (.seq (.seq (.region false [⟨some 13, .fieldAddr 0 (.tmp 3), none⟩,
    ⟨some 14, .load false 1 (.tmp 13) false, none⟩])
   (.block 0 (.seq (.region false [⟨some 16, .bin .eql (.tmp 14) (.const (.int .i64 (3))), none⟩,
    ⟨some 15, .assign (.tmp 16), none⟩])
   (.cond (.tmp 15) (.seq (.region false [⟨some 17, .fieldAddr 1 (.tmp 3), none⟩,
    ⟨some 18, .load false 1 (.tmp 17) false, none⟩,
    ⟨some 4, .assign (.tmp 18), none⟩])
   .ret) (.seq (.region false [⟨some 20, .bin .eql (.tmp 14) (.const (.int .i64 (4))), none⟩,
    ⟨some 19, .assign (.tmp 20), none⟩])
   (.cond (.tmp 19) (.seq (.region false [⟨some 21, .move (.tmp 0) false, none⟩,
    ⟨some 22, .fieldAddr 2 (.tmp 3), none⟩,
    ⟨some 23, .load false 1 (.tmp 22) false, none⟩,
    ⟨some 24, .indexAddr 3 (.tmp 23) (.const (.int .i64 (0))), none⟩,
    ⟨some 25, .load true 3 (.tmp 24) false, none⟩,
    ⟨some 26, .call 45 [(.tmp 21), (.tmp 25)], none⟩,
    ⟨some 27, .un .neg (.tmp 26), none⟩,
    ⟨some 4, .assign (.tmp 27), none⟩])
   .ret) .skip))))))
   (.seq (.region false [⟨some 5, .assign (.const (.int .i64 (1))), none⟩])
   (.seq (.seq (.region false [⟨some 28, .fieldAddr 0 (.tmp 3), none⟩,
    ⟨some 29, .load false 1 (.tmp 28) false, none⟩,
    ⟨some 30, .bin .eql (.tmp 29) (.const (.int .i64 (6))), none⟩])
   (.cond (.tmp 30) (.region false [⟨some 5, .assign (.const (.int .i64 (-1))), none⟩]) .skip))
   (.seq (.region false [⟨some 6, .assign (.const (.sl [] (some 3))), none⟩])
   (.seq (.seq (.region false [⟨some 31, .fieldAddr 2 (.tmp 3), none⟩,
    ⟨some 32, .load false 1 (.tmp 31) false, none⟩,
    ⟨some 33, .len 0 (.tmp 32), none⟩,
    ⟨some 34, .move (.const (.int .i64 (0))) false, none⟩])
   (.block 1 (.loop [9, 10, 0, 62, 5, 60, 61, 6, 34, 32, 33, 1, 4] l45_0)))
   (.seq (.region false [⟨some 45, .move (.tmp 0) false, none⟩,
    ⟨some 46, .nilCheck (.tmp 45), none⟩,
    ⟨some 47, .fieldAddr 1 (.tmp 46), none⟩,
    ⟨some 48, .load false 1 (.tmp 47) false, none⟩,
    ⟨some 49, .bin .add (.tmp 48) (.const (.int .i64 (1))), none⟩,
    ⟨some 50, .nilCheck (.tmp 45), none⟩,
    ⟨some 51, .fieldAddr 1 (.tmp 50), none⟩,
    ⟨none, .store 1 (.tmp 51) (.tmp 49), none⟩])
   (.seq (.region false [⟨some 52, .move (.tmp 0) false, none⟩,
    ⟨some 53, .nilCheck (.tmp 52), none⟩,
    ⟨some 54, .fieldAddr 1 (.tmp 53), none⟩,
    ⟨some 55, .load false 1 (.tmp 54) false, none⟩,
    ⟨some 9, .assign (.tmp 55), none⟩])
   (.seq (.region false [⟨some 56, .move (.tmp 5) false, none⟩,
    ⟨some 57, .move (.tmp 9) false, none⟩,
    ⟨some 58, .bin .mul (.tmp 56) (.tmp 57), none⟩,
    ⟨some 59, .buildSlice 3 1 1 [(.int .i64 (0))] [(0, (.tmp 58))], none⟩,
    ⟨some 10, .assign (.tmp 59), none⟩])
   (.seq (.seq (.region false [⟨some 60, .move (.tmp 6) false, none⟩,
    ⟨some 61, .len 0 (.tmp 60), none⟩,
    ⟨some 62, .move (.const (.int .i64 (0))) false, none⟩])
   (.block 3 (.loop [9, 10, 0, 62, 5, 60, 61, 6, 34, 32, 33, 1, 4] l45_1)))
   (.seq (.region false [⟨some 84, .move (.tmp 0) false, none⟩,
    ⟨some 85, .move (.tmp 10) false, none⟩,
    ⟨some 86, .call 44 [(.tmp 84), (.tmp 85)], none⟩])
   (.seq (.region false [⟨some 87, .move (.tmp 9) false, none⟩,
    ⟨some 4, .assign (.tmp 87), none⟩])
   .ret))))))))))))⟩

def l46_0 : MCode :=
   (.seq (.seq (.region false [⟨some 36, .move (.tmp 9) false, none⟩,
    ⟨some 37, .fieldAddr 2 (.tmp 3), none⟩,
    ⟨some 38, .load false 1 (.tmp 37) false, none⟩,
    ⟨some 39, .len 0 (.tmp 38), none⟩,
    ⟨some 40, .bin .lss (.tmp 36) (.tmp 39), none⟩])
   (.cond (.tmp 40) .skip (.exit 0)))
   (.seq (.block 1 (.seq (.region false [⟨some 10, .assign (.const (.int .i64 (0))), none⟩])
   (.seq (.region false [⟨some 44, .load true 2 (.tmp 2) false, none⟩,
    ⟨some 45, .fieldAddr 2 (.tmp 3), none⟩,
    ⟨some 46, .load false 1 (.tmp 45) false, none⟩,
    ⟨some 47, .move (.tmp 9) false, none⟩,
    ⟨some 48, .indexAddr 3 (.tmp 46) (.tmp 47), none⟩,
    ⟨some 49, .load true 3 (.tmp 48) false, none⟩,
    ⟨some 50, .call 46 [(.tmp 44), (.tmp 49)], none⟩,
    ⟨some 43, .move (.tmp 50) false, none⟩,
    ⟨some 51, .extract (.tmp 43) 0, none⟩,
    ⟨some 52, .extract (.tmp 43) 1, none⟩,
    ⟨none, .store 2 (.tmp 2) (.tmp 51), none⟩,
    ⟨some 10, .assign (.tmp 52), none⟩])
   (.region false [⟨some 53, .move (.tmp 8) true, none⟩,
    ⟨some 54, .move (.tmp 10) false, none⟩,
    ⟨some 55, .buildSlice 3 1 1 [(.int .i64 (0))] [(0, (.tmp 54))], none⟩,
    ⟨some 56, .append 3 1 8 false (.tmp 53) (.tmp 55), none⟩,
    ⟨some 8, .assign (.tmp 56), none⟩]))))
   (.region false [⟨some 41, .move (.tmp 9) false, none⟩,
    ⟨some 42, .bin .add (.tmp 41) (.const (.int .i64 (1))), none⟩,
    ⟨some 9, .assign (.tmp 42), none⟩])))

def l46_1 : MCode :=
   (.seq (.seq (.region false [⟨some 75, .move (.tmp 14) false, none⟩,
    ⟨some 76, .move (.tmp 8) false, none⟩,
    ⟨some 77, .len 0 (.tmp 76), none⟩,
    ⟨some 78, .bin .lss (.tmp 75) (.tmp 77), none⟩])
   (.cond (.tmp 78) .skip (.exit 2)))
   (.seq (.block 3 (.seq (.region false [⟨some 81, .fieldAddr 0 (.tmp 3), none⟩,
    ⟨some 82, .load false 1 (.tmp 81) false, none⟩,
    ⟨some 83, .bin .eql (.tmp 82) (.const (.int .i64 (5))), none⟩])
   (.cond (.tmp 83) (.seq (.region false [⟨some 84, .move (.tmp 12) true, none⟩,
    ⟨some 85, .move (.tmp 11) false, none⟩,
    ⟨some 86, .un .neg (.tmp 85), none⟩,
    ⟨some 87, .move (.tmp 8) false, none⟩,
    ⟨some 88, .move (.tmp 14) false, none⟩,
    ⟨some 89, .indexAddr 1 (.tmp 87) (.tmp 88), none⟩,
    ⟨some 90, .load false 1 (.tmp 89) false, none⟩,
    ⟨some 91, .buildSlice 3 1 2 [(.int .i64 (0))] [(0, (.tmp 86)), (1, (.tmp 90))], none⟩,
    ⟨some 92, .buildSlice 51 1 1 [(.sl [] (some 3))] [(0, (.tmp 91))], none⟩,
    ⟨some 93, .append 51 1 24 false (.tmp 84) (.tmp 92), none⟩,
    ⟨some 12, .assign (.tmp 93), none⟩])
   (.region false [⟨some 94, .move (.tmp 13) true, none⟩,
    ⟨some 95, .move (.tmp 8) false, none⟩,
    ⟨some 96, .move (.tmp 14) false, none⟩,
    ⟨some 97, .indexAddr 1 (.tmp 95) (.tmp 96), none⟩,
    ⟨some 98, .load false 1 (.tmp 97) false, none⟩,
    ⟨some 99, .un .neg (.tmp 98), none⟩,
    ⟨some 100, .buildSlice 3 1 1 [(.int .i64 (0))] [(0, (.tmp 99))], none⟩,
    ⟨some 101, .append 3 1 8 false (.tmp 94) (.tmp 100), none⟩,
    ⟨some 13, .assign (.tmp 101), none⟩])) (.seq (.region false [⟨some 102, .move (.tmp 12) true, none⟩,
    ⟨some 103, .move (.tmp 11) false, none⟩,
    ⟨some 104, .move (.tmp 8) false, none⟩,
    ⟨some 105, .move (.tmp 14) false, none⟩,
    ⟨some 106, .indexAddr 1 (.tmp 104) (.tmp 105), none⟩,
    ⟨some 107, .load false 1 (.tmp 106) false, none⟩,
    ⟨some 108, .un .neg (.tmp 107), none⟩,
    ⟨some 109, .buildSlice 3 1 2 [(.int .i64 (0))] [(0, (.tmp 103)), (1, (.tmp 108))], none⟩,
    ⟨some 110, .buildSlice 51 1 1 [(.sl [] (some 3))] [(0, (.tmp 109))], none⟩,
    ⟨some 111, .append 51 1 24 false (.tmp 102) (.tmp 110), none⟩,
    ⟨some 12, .assign (.tmp 111), none⟩])
   (.region false [⟨some 112, .move (.tmp 13) true, none⟩,
    ⟨some 113, .move (.tmp 8) false, none⟩,
    ⟨some 114, .move (.tmp 14) false, none⟩,
    ⟨some 115, .indexAddr 1 (.tmp 113) (.tmp 114), none⟩,
    ⟨some 116, .load false 1 (.tmp 115) false, none⟩,
    ⟨some 117, .buildSlice 3 1 1 [(.int .i64 (0))] [(0, (.tmp 116))], none⟩,
    ⟨some 118, .append 3 1 8 false (.tmp 112) (.tmp 117), none⟩,
    ⟨some 13, .assign (.tmp 118), none⟩])))))
   (.region false [⟨some 79, .move (.tmp 14) false, none⟩,
    ⟨some 80, .bin .add (.tmp 79) (.const (.int .i64 (1))), none⟩,
    ⟨some 14, .assign (.tmp 80), none⟩])))

/-- 'chamberlain/chamberlainref19.literal' -/
def m46 : MFunc :=
  ⟨2, 126, [.cell 4 true 2, .tmp 5],
   (.seq (.region false [⟨some 2, .box (.tmp 0), none⟩,
    ⟨some 3, .box (.tmp 1), none⟩,
    ⟨some 4, .alloc [(.sl [] (some 51)), (.int .i64 (0))], none⟩,
    ⟨some 5, .assign (.const (.int .i64 (0))), none⟩])
   (.seq (.seq (.region false [⟨some 15, .fieldAddr 0 (.tmp 3), none⟩,
    ⟨some 16, .load false 1 (.tmp 15) false, none⟩,
    ⟨some 17, .bin .eql (.tmp 16) (.const (.int .i64 (3))), none⟩])
   (.cond (.tmp 17) (.seq (.region true [⟨some 18, .loadA 4 true 2 (.tmp 2), none⟩,
    ⟨some 19, .fieldAddr 1 (.tmp 3), none⟩,
    ⟨some 20, .loadA 4 false 1 (.tmp 19), none⟩,
    ⟨none, .storeR 2 4 (.tmp 18), none⟩,
    ⟨some 5, .assign (.tmp 20), none⟩])
   .ret) .skip))
   (.seq (.seq (.region false [⟨some 21, .fieldAddr 0 (.tmp 3), none⟩,
    ⟨some 22, .load false 1 (.tmp 21) false, none⟩,
    ⟨some 23, .bin .eql (.tmp 22) (.const (.int .i64 (4))), none⟩])
   (.cond (.tmp 23) (.seq (.region true [⟨some 25, .loadA 6 true 2 (.tmp 2), none⟩,
    ⟨some 26, .fieldAddr 2 (.tmp 3), none⟩,
    ⟨some 27, .loadA 6 false 1 (.tmp 26), none⟩,
    ⟨some 28, .indexAddr 3 (.tmp 27) (.const (.int .i64 (0))), none⟩,
    ⟨some 29, .loadA 6 true 3 (.tmp 28), none⟩,
    ⟨some 30, .call 46 [(.tmp 25), (.tmp 29)], none⟩,
    ⟨some 24, .move (.tmp 30) false, none⟩,
    ⟨some 31, .extract (.tmp 24) 0, none⟩,
    ⟨some 32, .extract (.tmp 24) 1, none⟩,
    ⟨some 6, .allocR [(.sl [] (some 51)), (.int .i64 (0))], none⟩,
    ⟨none, .storeR 2 6 (.tmp 31), none⟩,
    ⟨some 7, .assign (.tmp 32), none⟩])
   (.seq (.region false [⟨some 33, .load true 2 (.tmp 6) false, none⟩,
    ⟨some 34, .move (.tmp 7) false, none⟩,
    ⟨some 35, .un .neg (.tmp 34), none⟩,
    ⟨none, .store 2 (.tmp 4) (.tmp 33), none⟩,
    ⟨some 5, .assign (.tmp 35), none⟩])
   .ret)) .skip))
   (.seq (.region false [⟨some 8, .assign (.const (.sl [] (some 3))), none⟩])
   (.seq (.seq (.region false [⟨some 9, .assign (.const (.int .i64 (0))), none⟩])
   (.block 0 (.loop [4, 11, 2, 13, 12, 14, 8, 3, 9, 1, 0, 5] l46_0)))
   (.seq (.region false [⟨some 57, .fieldAddr 1 (.tmp 2), none⟩,
    ⟨some 58, .load false 1 (.tmp 57) false, none⟩,
    ⟨some 59, .bin .add (.tmp 58) (.const (.int .i64 (1))), none⟩,
    ⟨some 60, .fieldAddr 1 (.tmp 2), none⟩,
    ⟨none, .store 1 (.tmp 60) (.tmp 59), none⟩])
   (.seq (.region false [⟨some 61, .fieldAddr 1 (.tmp 2), none⟩,
    ⟨some 62, .load false 1 (.tmp 61) false, none⟩,
    ⟨some 11, .assign (.tmp 62), none⟩])
   (.seq (.region false [⟨some 12, .assign (.const (.sl [] (some 51))), none⟩])
   (.seq (.region false [⟨some 63, .move (.tmp 12) true, none⟩,
    ⟨some 64, .fieldAddr 0 (.tmp 2), none⟩,
    ⟨some 65, .load false 1 (.tmp 64) false, none⟩,
    ⟨some 66, .append 51 1 24 false (.tmp 63) (.tmp 65), none⟩,
    ⟨some 12, .assign (.tmp 66), none⟩])
   (.seq (.region false [⟨some 67, .move (.tmp 11) false, none⟩,
    ⟨some 68, .buildSlice 3 1 1 [(.int .i64 (0))] [(0, (.tmp 67))], none⟩,
    ⟨some 13, .assign (.tmp 68), none⟩])
   (.seq (.seq (.region false [⟨some 69, .fieldAddr 0 (.tmp 3), none⟩,
    ⟨some 70, .load false 1 (.tmp 69) false, none⟩,
    ⟨some 71, .bin .eql (.tmp 70) (.const (.int .i64 (6))), none⟩])
   (.cond (.tmp 71) (.region false [⟨some 72, .move (.tmp 11) false, none⟩,
    ⟨some 73, .un .neg (.tmp 72), none⟩,
    ⟨some 74, .buildSlice 3 1 1 [(.int .i64 (0))] [(0, (.tmp 73))], none⟩,
    ⟨some 13, .assign (.tmp 74), none⟩]) .skip))
   (.seq (.seq (.region false [⟨some 14, .assign (.const (.int .i64 (0))), none⟩])
   (.block 2 (.loop [4, 11, 2, 13, 12, 14, 8, 3, 9, 1, 0, 5] l46_1)))
   (.seq (.region false [⟨some 119, .move (.tmp 12) true, none⟩,
    ⟨some 120, .move (.tmp 13) false, none⟩,
    ⟨some 121, .buildSlice 51 1 1 [(.sl [] (some 3))] [(0, (.tmp 120))], none⟩,
    ⟨some 122, .append 51 1 24 false (.tmp 119) (.tmp 121), none⟩,
    ⟨some 123, .fieldAddr 0 (.tmp 2), none⟩,
    ⟨none, .store 1 (.tmp 123) (.tmp 122), none⟩])
   (.seq (.region false [⟨some 124, .load true 2 (.tmp 2) false, none⟩,
    ⟨some 125, .move (.tmp 11) false, none⟩,
    ⟨none, .store 2 (.tmp 4) (.tmp 124), none⟩,
    ⟨some 5, .assign (.tmp 125), none⟩])
   .ret))))))))))))))⟩


/-- 'chamberlain/clauses.Met$1' -/
def m47 : MFunc :=
  ⟨2, 33, [.tmp 3],
   (.seq (.region false [⟨some 3, .assign (.const (.bool false)), none⟩])
   (.seq (.region false [⟨some 6, .move (.tmp 0) false, none⟩,
    ⟨some 7, .move (.tmp 0) false, none⟩,
    ⟨some 8, .un .neg (.tmp 7), none⟩,
    ⟨some 9, .max [(.tmp 6), (.tmp 8)], none⟩,
    ⟨some 4, .assign (.tmp 9), none⟩])
   (.seq (.region false [⟨some 10, .move (.tmp 4) false, none⟩,
    ⟨some 11, .bin .gtr (.tmp 10) (.const (.int .i64 (0))), none⟩,
    ⟨some 12, .move (.tmp 11) false, none⟩,
    ⟨some 13, .move (.tmp 4) false, some (12, true)⟩,
    ⟨some 14, .load false 1 (.tmp 1) false, some (12, true)⟩,
    ⟨some 15, .len 0 (.tmp 14), some (12, true)⟩,
    ⟨some 16, .bin .leq (.tmp 13) (.tmp 15), some (12, true)⟩,
    ⟨some 17, .pick (.tmp 12) (.tmp 16) (.const (.bool false)), none⟩,
    ⟨some 18, .move (.tmp 17) false, none⟩,
    ⟨some 19, .load false 1 (.tmp 1) false, some (18, true)⟩,
    ⟨some 20, .move (.tmp 4) false, some (18, true)⟩,
    ⟨some 21, .bin .sub (.tmp 20) (.const (.int .i64 (1))), some (18, true)⟩,
    ⟨some 22, .indexAddr 1 (.tmp 19) (.tmp 21), some (18, true)⟩,
    ⟨some 23, .load false 1 (.tmp 22) false, some (18, true)⟩,
    ⟨some 24, .pick (.tmp 18) (.tmp 23) (.const (.bool false)), none⟩,
    ⟨some 5, .assign (.tmp 24), none⟩])
   (.seq (.region false [⟨some 25, .move (.tmp 0) false, none⟩,
    ⟨some 26, .bin .neq (.tmp 25) (.const (.int .i64 (0))), none⟩,
    ⟨some 27, .move (.tmp 26) false, none⟩,
    ⟨some 28, .move (.tmp 5) false, some (27, true)⟩,
    ⟨some 29, .move (.tmp 0) false, some (27, true)⟩,
    ⟨some 30, .bin .gtr (.tmp 29) (.const (.int .i64 (0))), some (27, true)⟩,
    ⟨some 31, .eqb false (.tmp 28) (.tmp 30), some (27, true)⟩,
    ⟨some 32, .pick (.tmp 27) (.tmp 31) (.const (.bool false)), none⟩,
    ⟨some 3, .assign (.tmp 32), none⟩])
   .ret))))⟩


/-- 'slices.ContainsFunc[[][]int,[]int]' -/
def m48 : MFunc :=
  ⟨2, 9, [.tmp 4],
   (.seq (.region false [⟨some 4, .assign (.const (.bool false)), none⟩])
   (.seq (.region false [⟨some 5, .move (.tmp 0) false, none⟩,
    ⟨some 6, .move (.tmp 1) false, none⟩,
    ⟨some 7, .call 54 [(.tmp 5), (.tmp 6)], none⟩,
    ⟨some 8, .bin .geq (.tmp 7) (.const (.int .i64 (0))), none⟩,
    ⟨some 4, .assign (.tmp 8), none⟩])
   .ret))⟩


/-- 'chamberlain/clauses.Met$2' -/
def m49 : MFunc :=
  ⟨2, 8, [.tmp 3],
   (.seq (.region false [⟨some 3, .assign (.const (.bool false)), none⟩])
   (.seq (.region false [⟨some 4, .move (.tmp 0) false, none⟩,
    ⟨some 5, .load false 1 (.tmp 1) false, none⟩,
    ⟨some 6, .call 50 [(.tmp 4), (.tmp 5)], none⟩,
    ⟨some 7, .un .not (.tmp 6), none⟩,
    ⟨some 3, .assign (.tmp 7), none⟩])
   .ret))⟩


/-- 'slices.ContainsFunc[[]int,int]' -/
def m50 : MFunc :=
  ⟨2, 9, [.tmp 4],
   (.seq (.region false [⟨some 4, .assign (.const (.bool false)), none⟩])
   (.seq (.region false [⟨some 5, .move (.tmp 0) false, none⟩,
    ⟨some 6, .move (.tmp 1) false, none⟩,
    ⟨some 7, .call 55 [(.tmp 5), (.tmp 6)], none⟩,
    ⟨some 8, .bin .geq (.tmp 7) (.const (.int .i64 (0))), none⟩,
    ⟨some 4, .assign (.tmp 8), none⟩])
   .ret))⟩


/-- 'chamberlain/chamberlainref19.So' -/
def m51 : MFunc :=
  ⟨2, 33, [.tmp 4],
   (.seq (.region false [⟨some 4, .assign (.const (.bool false)), none⟩])
   (.seq (.seq (.region false [⟨some 7, .move (.tmp 0) false, none⟩,
    ⟨some 8, .bin .eql (.tmp 7) (.const (.int .i64 (0))), none⟩])
   (.cond (.tmp 8) (.seq (.region false [⟨some 4, .assign (.const (.bool false)), none⟩])
   .ret) .skip))
   (.seq (.region false [⟨some 9, .move (.tmp 0) false, none⟩,
    ⟨some 5, .assign (.tmp 9), none⟩])
   (.seq (.seq (.region false [⟨some 10, .move (.tmp 0) false, none⟩,
    ⟨some 11, .bin .lss (.tmp 10) (.const (.int .i64 (0))), none⟩])
   (.cond (.tmp 11) (.region false [⟨some 12, .move (.tmp 0) false, none⟩,
    ⟨some 13, .un .neg (.tmp 12), none⟩,
    ⟨some 5, .assign (.tmp 13), none⟩]) .skip))
   (.seq (.region false [⟨some 14, .move (.tmp 5) false, none⟩,
    ⟨some 15, .bin .gtr (.tmp 14) (.const (.int .i64 (0))), none⟩,
    ⟨some 16, .move (.tmp 15) false, none⟩,
    ⟨some 17, .move (.tmp 5) false, some (16, true)⟩,
    ⟨some 18, .move (.tmp 1) false, some (16, true)⟩,
    ⟨some 19, .len 0 (.tmp 18), some (16, true)⟩,
    ⟨some 20, .bin .leq (.tmp 17) (.tmp 19), some (16, true)⟩,
    ⟨some 21, .pick (.tmp 16) (.tmp 20) (.const (.bool false)), none⟩,
    ⟨some 22, .move (.tmp 21) false, none⟩,
    ⟨some 23, .move (.tmp 1) false, some (22, true)⟩,
    ⟨some 24, .move (.tmp 5) false, some (22, true)⟩,
    ⟨some 25, .bin .sub (.tmp 24) (.const (.int .i64 (1))), some (22, true)⟩,
    ⟨some 26, .indexAddr 1 (.tmp 23) (.tmp 25), some (22, true)⟩,
    ⟨some 27, .load false 1 (.tmp 26) false, some (22, true)⟩,
    ⟨some 28, .pick (.tmp 22) (.tmp 27) (.const (.bool false)), none⟩,
    ⟨some 6, .assign (.tmp 28), none⟩])
   (.seq (.region false [⟨some 29, .move (.tmp 6) false, none⟩,
    ⟨some 30, .move (.tmp 0) false, none⟩,
    ⟨some 31, .bin .gtr (.tmp 30) (.const (.int .i64 (0))), none⟩,
    ⟨some 32, .eqb false (.tmp 29) (.tmp 31), none⟩,
    ⟨some 4, .assign (.tmp 32), none⟩])
   .ret))))))⟩


/-- 'chamberlain/logic.may$1' -/
def m52 : MFunc :=
  ⟨1, 6, [.tmp 2],
   (.seq (.region false [⟨some 1, .box (.tmp 0), none⟩,
    ⟨some 2, .assign (.const (.bool false)), none⟩])
   (.seq (.region false [⟨some 3, .load true 3 (.tmp 1) false, none⟩,
    ⟨some 4, .call 36 [(.tmp 3)], none⟩,
    ⟨some 5, .un .not (.tmp 4), none⟩,
    ⟨some 2, .assign (.tmp 5), none⟩])
   .ret))⟩

def l53_0 : MCode :=
   (.seq (.region false [⟨some 9, .bin .lss (.tmp 8) (.tmp 7), none⟩])
   (.seq (.cond (.tmp 9) .skip (.exit 0))
   (.seq (.block 1 (.seq (.region false [⟨some 10, .move (.tmp 8) false, none⟩,
    ⟨some 5, .assign (.tmp 10), none⟩])
   (.seq (.region false [⟨some 11, .move (.tmp 1) false, none⟩,
    ⟨some 12, .move (.tmp 0) false, none⟩,
    ⟨some 13, .move (.tmp 5) false, none⟩,
    ⟨some 14, .indexAddr 3 (.tmp 12) (.tmp 13), none⟩,
    ⟨some 15, .load true 3 (.tmp 14) false, none⟩,
    ⟨some 16, .callv (.tmp 11) [(.tmp 15)], none⟩])
   (.cond (.tmp 16) (.seq (.region false [⟨some 17, .move (.tmp 5) false, none⟩,
    ⟨some 4, .assign (.tmp 17), none⟩])
   .ret) .skip))))
   (.region false [⟨some 18, .bin .add (.tmp 8) (.const (.int .i64 (1))), none⟩,
    ⟨some 8, .move (.tmp 18) false, none⟩]))))

/-- 'slices.IndexFunc[[]chamberlain/logic.F,chamberlain/logic.F]' -/
def m53 : MFunc :=
  ⟨2, 19, [.tmp 4],
   (.seq (.region false [⟨some 4, .assign (.const (.int .i64 (0))), none⟩])
   (.seq (.seq (.region false [⟨some 6, .move (.tmp 0) false, none⟩,
    ⟨some 7, .len 0 (.tmp 6), none⟩,
    ⟨some 8, .move (.const (.int .i64 (0))) false, none⟩])
   (.block 0 (.loop [8, 0, 1, 7, 4] l53_0)))
   (.seq (.region false [⟨some 4, .assign (.const (.int .i64 (-1))), none⟩])
   .ret)))⟩

def l54_0 : MCode :=
   (.seq (.region false [⟨some 9, .bin .lss (.tmp 8) (.tmp 7), none⟩])
   (.seq (.cond (.tmp 9) .skip (.exit 0))
   (.seq (.block 1 (.seq (.region false [⟨some 10, .move (.tmp 8) false, none⟩,
    ⟨some 5, .assign (.tmp 10), none⟩])
   (.seq (.region false [⟨some 11, .move (.tmp 1) false, none⟩,
    ⟨some 12, .move (.tmp 0) false, none⟩,
    ⟨some 13, .move (.tmp 5) false, none⟩,
    ⟨some 14, .indexAddr 1 (.tmp 12) (.tmp 13), none⟩,
    ⟨some 15, .load false 1 (.tmp 14) false, none⟩,
    ⟨some 16, .callv (.tmp 11) [(.tmp 15)], none⟩])
   (.cond (.tmp 16) (.seq (.region false [⟨some 17, .move (.tmp 5) false, none⟩,
    ⟨some 4, .assign (.tmp 17), none⟩])
   .ret) .skip))))
   (.region false [⟨some 18, .bin .add (.tmp 8) (.const (.int .i64 (1))), none⟩,
    ⟨some 8, .move (.tmp 18) false, none⟩]))))

/-- 'slices.IndexFunc[[][]int,[]int]' -/
def m54 : MFunc :=
  ⟨2, 19, [.tmp 4],
   (.seq (.region false [⟨some 4, .assign (.const (.int .i64 (0))), none⟩])
   (.seq (.seq (.region false [⟨some 6, .move (.tmp 0) false, none⟩,
    ⟨some 7, .len 0 (.tmp 6), none⟩,
    ⟨some 8, .move (.const (.int .i64 (0))) false, none⟩])
   (.block 0 (.loop [8, 0, 1, 7, 4] l54_0)))
   (.seq (.region false [⟨some 4, .assign (.const (.int .i64 (-1))), none⟩])
   .ret)))⟩

def l55_0 : MCode :=
   (.seq (.region false [⟨some 9, .bin .lss (.tmp 8) (.tmp 7), none⟩])
   (.seq (.cond (.tmp 9) .skip (.exit 0))
   (.seq (.block 1 (.seq (.region false [⟨some 10, .move (.tmp 8) false, none⟩,
    ⟨some 5, .assign (.tmp 10), none⟩])
   (.seq (.region false [⟨some 11, .move (.tmp 1) false, none⟩,
    ⟨some 12, .move (.tmp 0) false, none⟩,
    ⟨some 13, .move (.tmp 5) false, none⟩,
    ⟨some 14, .indexAddr 1 (.tmp 12) (.tmp 13), none⟩,
    ⟨some 15, .load false 1 (.tmp 14) false, none⟩,
    ⟨some 16, .callv (.tmp 11) [(.tmp 15)], none⟩])
   (.cond (.tmp 16) (.seq (.region false [⟨some 17, .move (.tmp 5) false, none⟩,
    ⟨some 4, .assign (.tmp 17), none⟩])
   .ret) .skip))))
   (.region false [⟨some 18, .bin .add (.tmp 8) (.const (.int .i64 (1))), none⟩,
    ⟨some 8, .move (.tmp 18) false, none⟩]))))

/-- 'slices.IndexFunc[[]int,int]' -/
def m55 : MFunc :=
  ⟨2, 19, [.tmp 4],
   (.seq (.region false [⟨some 4, .assign (.const (.int .i64 (0))), none⟩])
   (.seq (.seq (.region false [⟨some 6, .move (.tmp 0) false, none⟩,
    ⟨some 7, .len 0 (.tmp 6), none⟩,
    ⟨some 8, .move (.const (.int .i64 (0))) false, none⟩])
   (.block 0 (.loop [8, 0, 1, 7, 4] l55_0)))
   (.seq (.region false [⟨some 4, .assign (.const (.int .i64 (-1))), none⟩])
   .ret)))⟩

/-- The functions. -/
def T : Table
  | 3 => some m3
  | 4 => some m4
  | 5 => some m5
  | 6 => some m6
  | 7 => some m7
  | 8 => some m8
  | 9 => some m9
  | 10 => some m10
  | 11 => some m11
  | 12 => some m12
  | 13 => some m13
  | 14 => some m14
  | 15 => some m15
  | 16 => some m16
  | 17 => some m17
  | 18 => some m18
  | 19 => some m19
  | 20 => some m20
  | 21 => some m21
  | 22 => some m22
  | 23 => some m23
  | 24 => some m24
  | 25 => some m25
  | 26 => some m26
  | 27 => some m27
  | 28 => some m28
  | 29 => some m29
  | 30 => some m30
  | 31 => some m31
  | 32 => some m32
  | 33 => some m33
  | 34 => some m34
  | 35 => some m35
  | 36 => some m36
  | 37 => some m37
  | 38 => some m38
  | 39 => some m39
  | 40 => some m40
  | 41 => some m41
  | 42 => some m42
  | 43 => some m43
  | 44 => some m44
  | 45 => some m45
  | 46 => some m46
  | 47 => some m47
  | 48 => some m48
  | 49 => some m49
  | 50 => some m50
  | 51 => some m51
  | 52 => some m52
  | 53 => some m53
  | 54 => some m54
  | 55 => some m55
  | _ => none
end Go.Abs.A
