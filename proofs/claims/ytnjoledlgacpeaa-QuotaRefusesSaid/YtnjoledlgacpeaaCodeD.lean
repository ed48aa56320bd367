import Derived.Test.YtnjoledlgacpeaaSem
set_option linter.unusedVariables false
set_option linter.unusedSimpArgs false
/-
  The machine code of functions of the given program: printed by a program.
-/
namespace Go.Abs.C
open Go Go.Abs

/-- 'chamberlain/chamberlainlaw24.QuotaCopies' -/
def m7 : MFunc :=
  ⟨2, 83, [.tmp 4],
   (.seq (.region false [⟨some 4, .assign (.const (.bool false)), none⟩])
   (.seq (.region false [⟨some 14, .call 9 [], none⟩,
    ⟨some 5, .assign (.tmp 14), none⟩])
   (.seq (.seq (.region false [⟨some 15, .move (.tmp 5) false, none⟩,
    ⟨some 16, .un .not (.tmp 15), none⟩])
   (.cond (.tmp 16) (.seq (.region false [⟨some 4, .assign (.const (.bool false)), none⟩])
   .ret) .skip))
   (.seq (.region false [⟨some 6, .assign (.const .nilp), none⟩])
   (.seq (.seq (.region false [⟨some 17, .move (.tmp 6) false, none⟩,
    ⟨some 18, .call 12 [(.tmp 17), (.const (.str [97])), (.const (.str [])), (.const (.int .i64 (1)))], none⟩,
    ⟨some 19, .bin .neq (.tmp 18) (.const (.int .i64 (1))), none⟩,
    ⟨some 20, .move (.tmp 19) false, none⟩,
    ⟨some 21, .move (.tmp 6) false, some (20, false)⟩,
    ⟨some 22, .call 13 [(.tmp 21), (.const (.str [97])), (.const (.str [98])), (.const (.int .i64 (1)))], some (20, false)⟩,
    ⟨some 23, .bin .neq (.tmp 22) (.const (.int .i64 (1))), some (20, false)⟩,
    ⟨some 24, .pick (.tmp 20) (.const (.bool true)) (.tmp 23), none⟩,
    ⟨some 25, .move (.tmp 24) false, none⟩,
    ⟨some 26, .move (.tmp 6) false, some (25, false)⟩,
    ⟨some 27, .call 14 [(.tmp 26), (.const (.str [97]))], some (25, false)⟩,
    ⟨some 28, .bin .neq (.tmp 27) (.const (.int .i64 (1))), some (25, false)⟩,
    ⟨some 29, .pick (.tmp 25) (.const (.bool true)) (.tmp 28), none⟩,
    ⟨some 30, .move (.tmp 29) false, none⟩,
    ⟨some 31, .move (.tmp 6) false, some (30, false)⟩,
    ⟨some 32, .call 15 [(.tmp 31), (.const (.str [97])), (.const (.int .i64 (1)))], some (30, false)⟩,
    ⟨some 33, .bin .neq (.tmp 32) (.const (.int .i64 (1))), some (30, false)⟩,
    ⟨some 34, .pick (.tmp 30) (.const (.bool true)) (.tmp 33), none⟩,
    ⟨some 35, .move (.tmp 34) false, none⟩,
    ⟨some 36, .move (.tmp 6) false, some (35, false)⟩,
    ⟨some 37, .call 16 [(.tmp 36)], some (35, false)⟩,
    ⟨some 38, .len 0 (.tmp 37), some (35, false)⟩,
    ⟨some 39, .bin .gtr (.tmp 38) (.const (.int .i64 (0))), some (35, false)⟩,
    ⟨some 40, .pick (.tmp 35) (.const (.bool true)) (.tmp 39), none⟩,
    ⟨some 41, .move (.tmp 40) false, none⟩,
    ⟨some 42, .move (.tmp 6) false, some (41, false)⟩,
    ⟨some 43, .call 17 [(.tmp 42)], some (41, false)⟩,
    ⟨some 44, .len 0 (.tmp 43), some (41, false)⟩,
    ⟨some 45, .bin .gtr (.tmp 44) (.const (.int .i64 (0))), some (41, false)⟩,
    ⟨some 46, .pick (.tmp 41) (.const (.bool true)) (.tmp 45), none⟩,
    ⟨some 47, .move (.tmp 46) false, none⟩,
    ⟨some 48, .move (.tmp 6) false, some (47, false)⟩,
    ⟨some 49, .call 18 [(.tmp 48)], some (47, false)⟩,
    ⟨some 50, .eqn true (.tmp 49), some (47, false)⟩,
    ⟨some 51, .pick (.tmp 47) (.const (.bool true)) (.tmp 50), none⟩])
   (.cond (.tmp 51) (.seq (.region false [⟨some 4, .assign (.const (.bool false)), none⟩])
   .ret) .skip))
   (.seq (.region false [⟨some 52, .call 11 [], none⟩,
    ⟨some 7, .assign (.tmp 52), none⟩])
   (.seq (.region false [⟨some 54, .move (.tmp 7) false, none⟩,
    ⟨some 55, .build [(.nils 81), (.nils 83)] [], none⟩,
    ⟨some 56, .move (.tmp 0) false, none⟩,
    ⟨some 57, .call 10 [(.tmp 54), (.tmp 55), (.tmp 56)], none⟩,
    ⟨some 53, .move (.tmp 57) false, none⟩,
    ⟨some 58, .extract (.tmp 53) 0, none⟩,
    ⟨some 59, .extract (.tmp 53) 1, none⟩,
    ⟨some 8, .alloc [(.sl [] (some 81)), (.sl [] (some 83))], none⟩,
    ⟨none, .store 2 (.tmp 8) (.tmp 58), none⟩,
    ⟨some 9, .assign (.tmp 59), none⟩])
   (.seq (.seq (.region false [⟨some 60, .move (.tmp 9) false, none⟩,
    ⟨some 61, .un .not (.tmp 60), none⟩])
   (.cond (.tmp 61) (.seq (.region false [⟨some 4, .assign (.const (.bool false)), none⟩])
   .ret) .skip))
   (.seq (.region false [⟨some 62, .move (.tmp 7) false, none⟩,
    ⟨some 63, .call 18 [(.tmp 62)], none⟩,
    ⟨some 10, .assign (.tmp 63), none⟩])
   (.seq (.region false [⟨some 64, .move (.tmp 10) false, none⟩,
    ⟨some 65, .load true 2 (.tmp 8) false, none⟩,
    ⟨some 66, .call 19 [(.tmp 64), (.tmp 65)], none⟩,
    ⟨some 11, .assign (.tmp 66), none⟩])
   (.seq (.region false [⟨some 68, .move (.tmp 10) false, none⟩,
    ⟨some 69, .load true 2 (.tmp 8) false, none⟩,
    ⟨some 70, .move (.tmp 1) false, none⟩,
    ⟨some 71, .call 10 [(.tmp 68), (.tmp 69), (.tmp 70)], none⟩,
    ⟨some 67, .move (.tmp 71) false, none⟩,
    ⟨some 72, .extract (.tmp 67) 0, none⟩,
    ⟨some 73, .extract (.tmp 67) 1, none⟩,
    ⟨some 12, .alloc [(.sl [] (some 81)), (.sl [] (some 83))], none⟩,
    ⟨none, .store 2 (.tmp 12) (.tmp 72), none⟩,
    ⟨some 13, .assign (.tmp 73), none⟩])
   (.seq (.region false [⟨some 74, .move (.tmp 11) false, none⟩,
    ⟨some 75, .move (.tmp 74) false, none⟩,
    ⟨some 76, .move (.tmp 13) false, some (75, true)⟩,
    ⟨some 77, .pick (.tmp 75) (.tmp 76) (.const (.bool false)), none⟩,
    ⟨some 78, .move (.tmp 77) false, none⟩,
    ⟨some 79, .move (.tmp 7) false, some (78, true)⟩,
    ⟨some 80, .load true 2 (.tmp 8) false, some (78, true)⟩,
    ⟨some 81, .call 19 [(.tmp 79), (.tmp 80)], some (78, true)⟩,
    ⟨some 82, .pick (.tmp 78) (.tmp 81) (.const (.bool false)), none⟩,
    ⟨some 4, .assign (.tmp 82), none⟩])
   .ret))))))))))))⟩

def l8_0 : MCode :=
   (.seq (.seq (.region false [⟨some 68, .move (.tmp 11) false, none⟩,
    ⟨some 69, .bin .lss (.tmp 68) (.const (.int .i64 (4))), none⟩])
   (.cond (.tmp 69) .skip (.exit 0)))
   (.seq (.block 1 (.seq (.region false [⟨some 72, .move (.tmp 9) false, none⟩,
    ⟨some 73, .call 18 [(.tmp 72)], none⟩,
    ⟨some 12, .assign (.tmp 73), none⟩])
   (.seq (.region false [⟨some 75, .move (.tmp 12) false, none⟩,
    ⟨some 76, .loadA 13 true 2 (.tmp 7), none⟩,
    ⟨some 77, .move (.tmp 10) false, none⟩,
    ⟨some 78, .move (.tmp 11) false, none⟩,
    ⟨some 79, .move (.tmp 11) false, none⟩,
    ⟨some 80, .bin .add (.tmp 79) (.const (.int .i64 (1))), none⟩,
    ⟨some 81, .slice 4 (.tmp 77) (some (.tmp 78)) (some (.tmp 80)), none⟩,
    ⟨some 82, .callS 10 [(.tmp 75), (.tmp 76), (.tmp 81)], none⟩,
    ⟨some 74, .move (.tmp 82) false, none⟩,
    ⟨some 83, .extract (.tmp 74) 0, none⟩,
    ⟨some 84, .extract (.tmp 74) 1, none⟩,
    ⟨some 13, .allocR [(.sl [] (some 81)), (.sl [] (some 83))], none⟩,
    ⟨none, .storeR 2 13 (.tmp 83), none⟩,
    ⟨some 14, .assign (.tmp 84), none⟩])
   (.seq (.region false [⟨some 85, .move (.tmp 14) false, none⟩,
    ⟨some 86, .un .not (.tmp 85), none⟩,
    ⟨some 87, .move (.tmp 86) false, none⟩,
    ⟨some 88, .move (.tmp 9) false, some (87, false)⟩,
    ⟨some 89, .load true 2 (.tmp 7) false, some (87, false)⟩,
    ⟨some 90, .call 19 [(.tmp 88), (.tmp 89)], some (87, false)⟩,
    ⟨some 91, .un .not (.tmp 90), some (87, false)⟩,
    ⟨some 92, .pick (.tmp 87) (.const (.bool true)) (.tmp 91), none⟩])
   (.cond (.tmp 92) (.seq (.region false [⟨some 4, .assign (.const (.bool false)), none⟩])
   .ret) .skip)))))
   (.region false [⟨some 70, .move (.tmp 11) false, none⟩,
    ⟨some 71, .bin .add (.tmp 70) (.const (.int .i64 (1))), none⟩,
    ⟨some 11, .assign (.tmp 71), none⟩])))

/-- 'chamberlain/chamberlainlaw24.QuotaRefuses' -/
def m8 : MFunc :=
  ⟨2, 93, [.tmp 4],
   (.seq (.region false [⟨some 3, .box (.tmp 1), none⟩,
    ⟨some 4, .assign (.const (.bool false)), none⟩])
   (.seq (.region false [⟨some 15, .call 9 [], none⟩,
    ⟨some 5, .assign (.tmp 15), none⟩])
   (.seq (.seq (.region false [⟨some 16, .move (.tmp 5) false, none⟩,
    ⟨some 17, .un .not (.tmp 16), none⟩])
   (.cond (.tmp 17) (.seq (.region false [⟨some 4, .assign (.const (.bool false)), none⟩])
   .ret) .skip))
   (.seq (.region false [⟨some 18, .call 11 [], none⟩,
    ⟨some 6, .assign (.tmp 18), none⟩])
   (.seq (.region false [⟨some 20, .move (.tmp 6) false, none⟩,
    ⟨some 21, .build [(.nils 81), (.nils 83)] [], none⟩,
    ⟨some 22, .move (.tmp 0) false, none⟩,
    ⟨some 23, .call 10 [(.tmp 20), (.tmp 21), (.tmp 22)], none⟩,
    ⟨some 19, .move (.tmp 23) false, none⟩,
    ⟨some 24, .extract (.tmp 19) 0, none⟩,
    ⟨some 25, .extract (.tmp 19) 1, none⟩,
    ⟨some 7, .alloc [(.sl [] (some 81)), (.sl [] (some 83))], none⟩,
    ⟨none, .store 2 (.tmp 7) (.tmp 24), none⟩,
    ⟨some 8, .assign (.tmp 25), none⟩])
   (.seq (.seq (.region false [⟨some 26, .move (.tmp 8) false, none⟩,
    ⟨some 27, .un .not (.tmp 26), none⟩])
   (.cond (.tmp 27) (.seq (.region false [⟨some 4, .assign (.const (.bool false)), none⟩])
   .ret) .skip))
   (.seq (.seq (.region false [⟨some 28, .move (.tmp 0) false, none⟩,
    ⟨some 29, .len 0 (.tmp 28), none⟩,
    ⟨some 30, .bin .gtr (.tmp 29) (.const (.int .i64 (30))), none⟩,
    ⟨some 31, .move (.tmp 30) false, none⟩,
    ⟨some 32, .fieldAddr 1 (.tmp 3), some (31, false)⟩,
    ⟨some 33, .load false 1 (.tmp 32) false, some (31, false)⟩,
    ⟨some 34, .len 1 (.tmp 33), some (31, false)⟩,
    ⟨some 35, .bin .gtr (.tmp 34) (.const (.int .i64 (100))), some (31, false)⟩,
    ⟨some 36, .pick (.tmp 31) (.const (.bool true)) (.tmp 35), none⟩,
    ⟨some 37, .move (.tmp 36) false, none⟩,
    ⟨some 38, .fieldAddr 2 (.tmp 3), some (37, false)⟩,
    ⟨some 39, .load false 1 (.tmp 38) false, some (37, false)⟩,
    ⟨some 40, .len 1 (.tmp 39), some (37, false)⟩,
    ⟨some 41, .bin .gtr (.tmp 40) (.const (.int .i64 (100))), some (37, false)⟩,
    ⟨some 42, .pick (.tmp 37) (.const (.bool true)) (.tmp 41), none⟩])
   (.cond (.tmp 42) (.seq (.region false [⟨some 4, .assign (.const (.bool true)), none⟩])
   .ret) .skip))
   (.seq (.region false [⟨some 43, .move (.tmp 6) false, none⟩,
    ⟨some 44, .call 18 [(.tmp 43)], none⟩,
    ⟨some 9, .assign (.tmp 44), none⟩])
   (.seq (.region false [⟨some 45, .fieldAddr 1 (.tmp 3), none⟩,
    ⟨some 46, .load false 1 (.tmp 45) false, none⟩,
    ⟨some 47, .fieldAddr 2 (.tmp 3), none⟩,
    ⟨some 48, .load false 1 (.tmp 47) false, none⟩,
    ⟨some 49, .fieldAddr 3 (.tmp 3), none⟩,
    ⟨some 50, .load false 1 (.tmp 49) false, none⟩,
    ⟨some 51, .build [(.int .i64 (0)), (.str []), (.str []), (.int .i64 (0))] [(0, 1, (.const (.int .i64 (0)))), (1, 1, (.tmp 46)), (2, 1, (.tmp 48)), (3, 1, (.tmp 50))], none⟩,
    ⟨some 52, .fieldAddr 1 (.tmp 3), none⟩,
    ⟨some 53, .load false 1 (.tmp 52) false, none⟩,
    ⟨some 54, .fieldAddr 2 (.tmp 3), none⟩,
    ⟨some 55, .load false 1 (.tmp 54) false, none⟩,
    ⟨some 56, .fieldAddr 3 (.tmp 3), none⟩,
    ⟨some 57, .load false 1 (.tmp 56) false, none⟩,
    ⟨some 58, .build [(.int .i64 (0)), (.str []), (.str []), (.int .i64 (0))] [(0, 1, (.const (.int .i64 (1)))), (1, 1, (.tmp 53)), (2, 1, (.tmp 55)), (3, 1, (.tmp 57))], none⟩,
    ⟨some 59, .fieldAddr 2 (.tmp 3), none⟩,
    ⟨some 60, .load false 1 (.tmp 59) false, none⟩,
    ⟨some 61, .build [(.int .i64 (0)), (.str []), (.str []), (.int .i64 (0))] [(0, 1, (.const (.int .i64 (2)))), (2, 1, (.tmp 60))], none⟩,
    ⟨some 62, .fieldAddr 1 (.tmp 3), none⟩,
    ⟨some 63, .load false 1 (.tmp 62) false, none⟩,
    ⟨some 64, .fieldAddr 3 (.tmp 3), none⟩,
    ⟨some 65, .load false 1 (.tmp 64) false, none⟩,
    ⟨some 66, .build [(.int .i64 (0)), (.str []), (.str []), (.int .i64 (0))] [(0, 1, (.const (.int .i64 (3)))), (1, 1, (.tmp 63)), (3, 1, (.tmp 65))], none⟩,
    ⟨some 67, .buildSlice 34 4 4 [(.int .i64 (0)), (.str []), (.str []), (.int .i64 (0))] [(0, (.tmp 51)), (1, (.tmp 58)), (2, (.tmp 61)), (3, (.tmp 66))], none⟩,
    ⟨some 10, .assign (.tmp 67), none⟩])
   (.seq (.seq (.region false [⟨some 11, .assign (.const (.int .i64 (0))), none⟩])
   (.block 0 (.loop [11, 7, 9, 10, 0, 1, 4] l8_0)))
   (.seq (.region false [⟨some 4, .assign (.const (.bool true)), none⟩])
   .ret)))))))))))⟩
end Go.Abs.C
