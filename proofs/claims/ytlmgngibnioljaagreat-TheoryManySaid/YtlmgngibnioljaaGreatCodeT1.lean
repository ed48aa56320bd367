import Derived.Test.YtlmgngibnioljaaGreatSem
set_option linter.unusedVariables false
set_option linter.unusedSimpArgs false
/-
  The machine code of functions of the given program: printed by a program.
-/
namespace Go.Abs.T
open Go Go.Abs
def l3_0 : MCode :=
   (.seq (.seq (.region false [⟨some 34, .move (.tmp 10) false, none⟩,
    ⟨some 35, .move (.tmp 8) false, none⟩,
    ⟨some 36, .bin .lss (.tmp 34) (.tmp 35), none⟩])
   (.cond (.tmp 36) .skip (.exit 0)))
   (.seq (.block 1 (.seq (.region false [⟨some 39, .move (.tmp 10) false, none⟩,
    ⟨some 40, .move (.tmp 10) false, none⟩,
    ⟨some 41, .bin .add (.tmp 40) (.const (.int .i64 (1))), none⟩,
    ⟨some 42, .sliceStr (.const (.str [97, 98, 99, 100, 101, 102, 103, 104, 105, 106, 107, 108, 109, 110, 111, 112])) (some (.tmp 39)) (some (.tmp 41)), none⟩,
    ⟨some 43, .build [(.str []), (.str [])] [(0, 1, (.const (.str [85]))), (1, 1, (.tmp 42))], none⟩,
    ⟨some 11, .alloc [(.str []), (.str [])], none⟩,
    ⟨none, .store 2 (.tmp 11) (.tmp 43), none⟩])
   (.seq (.region false [⟨some 44, .load true 2 (.tmp 11) false, none⟩,
    ⟨some 45, .build [(.int .i64 (0)), (.str []), (.str []), (.str []), (.bool false), (.nils 37)] [(0, 1, (.const (.int .i64 (1)))), (2, 2, (.tmp 44))], none⟩,
    ⟨some 46, .build [(.str []), (.bool false), (.int .i64 (0)), (.str []), (.str []), (.str []), (.bool false), (.nils 37), (.int .i64 (0)), (.str []), (.str []), (.str []), (.bool false), (.nils 37), (.int .i64 (0)), (.str []), (.str []), (.str []), (.bool false), (.nils 37), (.nils 139)] [(2, 6, (.tmp 45))], none⟩,
    ⟨some 12, .alloc [(.str []), (.bool false), (.int .i64 (0)), (.str []), (.str []), (.str []), (.bool false), (.sl [] (some 37)), (.int .i64 (0)), (.str []), (.str []), (.str []), (.bool false), (.sl [] (some 37)), (.int .i64 (0)), (.str []), (.str []), (.str []), (.bool false), (.sl [] (some 37)), (.sl [] (some 139))], none⟩,
    ⟨none, .store 21 (.tmp 12) (.tmp 46), none⟩])
   (.seq (.seq (.region false [⟨some 47, .move (.tmp 1) false, none⟩,
    ⟨some 48, .bin .and (.tmp 47) (.const (.int .u8 (3))), none⟩,
    ⟨some 49, .bin .eql (.tmp 48) (.const (.int .u8 (1))), none⟩])
   (.cond (.tmp 49) (.seq (.region false [⟨some 50, .fieldAddr 0 (.tmp 11), none⟩,
    ⟨none, .store 1 (.tmp 50) (.const (.str [71])), none⟩])
   (.region false [⟨some 51, .load true 2 (.tmp 11) false, none⟩,
    ⟨some 52, .build [(.int .i64 (0)), (.str []), (.str []), (.str []), (.bool false), (.nils 37)] [(0, 1, (.const (.int .i64 (2)))), (2, 2, (.tmp 51))], none⟩,
    ⟨some 53, .build [(.str []), (.bool false), (.int .i64 (0)), (.str []), (.str []), (.str []), (.bool false), (.nils 37), (.int .i64 (0)), (.str []), (.str []), (.str []), (.bool false), (.nils 37), (.int .i64 (0)), (.str []), (.str []), (.str []), (.bool false), (.nils 37), (.nils 139)] [(14, 6, (.tmp 52))], none⟩,
    ⟨none, .store 21 (.tmp 12) (.tmp 53), none⟩])) .skip))
   (.region false [⟨some 54, .move (.tmp 9) true, none⟩,
    ⟨some 55, .load true 21 (.tmp 12) false, none⟩,
    ⟨some 56, .buildSlice 43 21 1 [(.str []), (.bool false), (.int .i64 (0)), (.str []), (.str []), (.str []), (.bool false), (.sl [] (some 37)), (.int .i64 (0)), (.str []), (.str []), (.str []), (.bool false), (.sl [] (some 37)), (.int .i64 (0)), (.str []), (.str []), (.str []), (.bool false), (.sl [] (some 37)), (.sl [] (some 139))] [(0, (.tmp 55))], none⟩,
    ⟨some 57, .append 43 21 312 false (.tmp 54) (.tmp 56), none⟩,
    ⟨some 9, .assign (.tmp 57), none⟩])))))
   (.region false [⟨some 37, .move (.tmp 10) false, none⟩,
    ⟨some 38, .bin .add (.tmp 37) (.const (.int .i64 (1))), none⟩,
    ⟨some 10, .assign (.tmp 38), none⟩])))

/-- 'chamberlain/chamberlainlaw22.TheoryMany' -/
def m3 : MFunc :=
  ⟨2, 107, [.tmp 4],
   (.seq (.region false [⟨some 4, .assign (.const (.bool false)), none⟩])
   (.seq (.region false [⟨some 18, .call 5 [], none⟩,
    ⟨some 5, .assign (.tmp 18), none⟩])
   (.seq (.seq (.region false [⟨some 19, .move (.tmp 5) false, none⟩,
    ⟨some 20, .un .not (.tmp 19), none⟩])
   (.cond (.tmp 20) (.seq (.region false [⟨some 4, .assign (.const (.bool false)), none⟩])
   .ret) .skip))
   (.seq (.region false [⟨some 21, .buildSlice 9 1 1 [(.str [])] [(0, (.const (.str [71])))], none⟩,
    ⟨some 22, .build [(.str []), (.nils 9), (.nils 115)] [(0, 1, (.const (.str [85]))), (1, 1, (.tmp 21))], none⟩,
    ⟨some 23, .build [(.str []), (.nils 9), (.nils 115)] [(0, 1, (.const (.str [71])))], none⟩,
    ⟨some 24, .buildSlice 26 3 2 [(.str []), (.sl [] (some 9)), (.sl [] (some 115))] [(0, (.tmp 22)), (1, (.tmp 23))], none⟩,
    ⟨some 25, .buildSlice 9 1 1 [(.str [])] [(0, (.const (.str [85])))], none⟩,
    ⟨some 26, .buildSlice 9 1 1 [(.str [])] [(0, (.const (.str [85])))], none⟩,
    ⟨some 27, .build [(.str []), (.nils 9), (.nils 9), (.nils 9), (.nils 115)] [(0, 1, (.const (.str [118]))), (2, 1, (.tmp 25)), (3, 1, (.tmp 26))], none⟩,
    ⟨some 28, .buildSlice 29 5 1 [(.str []), (.sl [] (some 9)), (.sl [] (some 9)), (.sl [] (some 9)), (.sl [] (some 115))] [(0, (.tmp 27))], none⟩,
    ⟨some 29, .build [(.nils 26), (.nils 29)] [(0, 1, (.tmp 24)), (1, 1, (.tmp 28))], none⟩,
    ⟨some 6, .alloc [(.sl [] (some 26)), (.sl [] (some 29))], none⟩,
    ⟨none, .store 2 (.tmp 6) (.tmp 29), none⟩])
   (.seq (.region false [⟨some 30, .build [(.str []), (.str []), (.str [])] [(0, 1, (.const (.str [85]))), (1, 1, (.const (.str [118]))), (2, 1, (.const (.str [85])))], none⟩,
    ⟨some 7, .alloc [(.str []), (.str []), (.str [])], none⟩,
    ⟨none, .store 3 (.tmp 7) (.tmp 30), none⟩])
   (.seq (.region false [⟨some 31, .move (.tmp 0) false, none⟩,
    ⟨some 32, .bin .rem (.tmp 31) (.const (.int .u8 (16))), none⟩,
    ⟨some 33, .conv .i64 (.tmp 32), none⟩,
    ⟨some 8, .assign (.tmp 33), none⟩])
   (.seq (.region false [⟨some 9, .assign (.const (.sl [] (some 43))), none⟩])
   (.seq (.seq (.region false [⟨some 10, .assign (.const (.int .i64 (0))), none⟩])
   (.block 0 (.loop [8, 9, 7, 6, 1, 10, 4] l3_0)))
   (.seq (.region false [⟨some 59, .load true 2 (.tmp 6) false, none⟩,
    ⟨some 60, .load true 3 (.tmp 7) false, none⟩,
    ⟨some 61, .move (.tmp 9) false, none⟩,
    ⟨some 62, .call 6 [(.tmp 59), (.tmp 60), (.tmp 61)], none⟩,
    ⟨some 58, .move (.tmp 62) false, none⟩,
    ⟨some 63, .extract (.tmp 58) 0, none⟩,
    ⟨some 64, .extract (.tmp 58) 1, none⟩,
    ⟨some 13, .alloc [(.sl [] (some 47)), (.sl [] (some 64)), (.int .i64 (0)), (.int .i64 (0)), (.sl [] (some 47))], none⟩,
    ⟨none, .store 5 (.tmp 13) (.tmp 63), none⟩,
    ⟨some 14, .assign (.tmp 64), none⟩])
   (.seq (.region true [⟨some 66, .loadA 15 true 2 (.tmp 6), none⟩,
    ⟨some 67, .loadA 15 true 3 (.tmp 7), none⟩,
    ⟨some 68, .call 8 [(.tmp 67)], none⟩,
    ⟨some 69, .move (.tmp 9) false, none⟩,
    ⟨some 70, .call 7 [(.tmp 66), (.tmp 68), (.tmp 69), (.const (.sl [] none))], none⟩,
    ⟨some 65, .move (.tmp 70) false, none⟩,
    ⟨some 71, .extract (.tmp 65) 0, none⟩,
    ⟨some 72, .extract (.tmp 65) 1, none⟩,
    ⟨some 73, .extract (.tmp 65) 2, none⟩,
    ⟨some 15, .allocR [(.sl [] (some 26)), (.sl [] (some 29)), (.str []), (.str []), (.str []), (.sl [] (some 99)), (.sl [] (some 4)), (.bool false)], none⟩,
    ⟨none, .storeR 8 15 (.tmp 71), none⟩,
    ⟨some 16, .assign (.tmp 72), none⟩,
    ⟨some 17, .assign (.tmp 73), none⟩])
   (.seq (.seq (.region false [⟨some 74, .move (.tmp 14) false, none⟩,
    ⟨some 75, .move (.tmp 17) false, none⟩,
    ⟨some 76, .bin .neq (.tmp 74) (.tmp 75), none⟩,
    ⟨some 77, .move (.tmp 76) false, none⟩,
    ⟨some 78, .move (.tmp 14) false, some (77, false)⟩,
    ⟨some 79, .bin .eql (.tmp 78) (.const (.int .i64 (0))), some (77, false)⟩,
    ⟨some 80, .move (.tmp 8) false, some (77, false)⟩,
    ⟨some 81, .bin .leq (.tmp 80) (.const (.int .i64 (12))), some (77, false)⟩,
    ⟨some 82, .eqb true (.tmp 79) (.tmp 81), some (77, false)⟩,
    ⟨some 83, .pick (.tmp 77) (.const (.bool true)) (.tmp 82), none⟩])
   (.cond (.tmp 83) (.seq (.region false [⟨some 4, .assign (.const (.bool false)), none⟩])
   .ret) .skip))
   (.seq (.region false [⟨some 84, .move (.tmp 14) false, none⟩,
    ⟨some 85, .bin .neq (.tmp 84) (.const (.int .i64 (0))), none⟩,
    ⟨some 86, .move (.tmp 85) false, none⟩,
    ⟨some 87, .fieldAddr 1 (.tmp 13), some (86, false)⟩,
    ⟨some 88, .load false 1 (.tmp 87) false, some (86, false)⟩,
    ⟨some 89, .len 0 (.tmp 88), some (86, false)⟩,
    ⟨some 90, .move (.tmp 8) false, some (86, false)⟩,
    ⟨some 91, .bin .eql (.tmp 89) (.tmp 90), some (86, false)⟩,
    ⟨some 92, .move (.tmp 91) false, some (86, false)⟩,
    ⟨some 93, .fieldAddr 1 (.tmp 13), some (92, true)⟩,
    ⟨some 94, .load false 1 (.tmp 93) false, some (92, true)⟩,
    ⟨some 95, .fieldAddr 5 (.tmp 15), some (92, true)⟩,
    ⟨some 96, .load false 1 (.tmp 95) false, some (92, true)⟩,
    ⟨some 97, .call 9 [(.tmp 94), (.tmp 96)], some (92, true)⟩,
    ⟨some 98, .pick (.tmp 92) (.tmp 97) (.const (.bool false)), some (86, false)⟩,
    ⟨some 99, .move (.tmp 98) false, some (86, false)⟩,
    ⟨some 100, .fieldAddr 0 (.tmp 13), some (99, true)⟩,
    ⟨some 101, .load false 1 (.tmp 100) false, some (99, true)⟩,
    ⟨some 102, .len 0 (.tmp 101), some (99, true)⟩,
    ⟨some 103, .move (.tmp 8) false, some (99, true)⟩,
    ⟨some 104, .bin .eql (.tmp 102) (.tmp 103), some (99, true)⟩,
    ⟨some 105, .pick (.tmp 99) (.tmp 104) (.const (.bool false)), some (86, false)⟩,
    ⟨some 106, .pick (.tmp 86) (.const (.bool true)) (.tmp 105), none⟩,
    ⟨some 4, .assign (.tmp 106), none⟩])
   .ret))))))))))))⟩


/-- 'chamberlain/chamberlainlaw22.TheoryLaws' -/
def m4 : MFunc :=
  ⟨6, 163, [.tmp 12],
   (.seq (.region false [⟨some 12, .assign (.const (.bool false)), none⟩])
   (.seq (.region false [⟨some 22, .call 5 [], none⟩,
    ⟨some 13, .assign (.tmp 22), none⟩])
   (.seq (.seq (.region false [⟨some 23, .move (.tmp 13) false, none⟩,
    ⟨some 24, .un .not (.tmp 23), none⟩])
   (.cond (.tmp 24) (.seq (.region false [⟨some 12, .assign (.const (.bool false)), none⟩])
   .ret) .skip))
   (.seq (.region false [⟨some 25, .buildSlice 9 1 1 [(.str [])] [(0, (.const (.str [85])))], none⟩,
    ⟨some 26, .build [(.str []), (.nils 9), (.nils 115)] [(0, 1, (.const (.str [85]))), (1, 1, (.tmp 25))], none⟩,
    ⟨some 27, .buildSlice 26 3 1 [(.str []), (.sl [] (some 9)), (.sl [] (some 115))] [(0, (.tmp 26))], none⟩,
    ⟨some 28, .buildSlice 9 1 1 [(.str [])] [(0, (.const (.str [85])))], none⟩,
    ⟨some 29, .buildSlice 9 1 1 [(.str [])] [(0, (.const (.str [85])))], none⟩,
    ⟨some 30, .build [(.str []), (.nils 9), (.nils 9), (.nils 9), (.nils 115)] [(0, 1, (.const (.str [118]))), (2, 1, (.tmp 28)), (3, 1, (.tmp 29))], none⟩,
    ⟨some 31, .buildSlice 29 5 1 [(.str []), (.sl [] (some 9)), (.sl [] (some 9)), (.sl [] (some 9)), (.sl [] (some 115))] [(0, (.tmp 30))], none⟩,
    ⟨some 32, .build [(.nils 26), (.nils 29)] [(0, 1, (.tmp 27)), (1, 1, (.tmp 31))], none⟩,
    ⟨some 14, .alloc [(.sl [] (some 26)), (.sl [] (some 29))], none⟩,
    ⟨none, .store 2 (.tmp 14) (.tmp 32), none⟩])
   (.seq (.region false [⟨some 33, .build [(.str []), (.str []), (.str [])] [(0, 1, (.const (.str [85]))), (1, 1, (.const (.str [118]))), (2, 1, (.const (.str [85])))], none⟩,
    ⟨some 15, .alloc [(.str []), (.str []), (.str [])], none⟩,
    ⟨none, .store 3 (.tmp 15) (.tmp 33), none⟩])
   (.seq (.region false [⟨some 34, .build [(.str []), (.str [])] [(0, 1, (.const (.str [85]))), (1, 1, (.const (.str [97])))], none⟩,
    ⟨some 16, .alloc [(.str []), (.str [])], none⟩,
    ⟨none, .store 2 (.tmp 16) (.tmp 34), none⟩])
   (.seq (.region false [⟨some 35, .build [(.str []), (.str [])] [(0, 1, (.const (.str [85]))), (1, 1, (.const (.str [98])))], none⟩,
    ⟨some 17, .alloc [(.str []), (.str [])], none⟩,
    ⟨none, .store 2 (.tmp 17) (.tmp 35), none⟩])
   (.seq (.region false [⟨some 36, .load true 2 (.tmp 16) false, none⟩,
    ⟨some 37, .build [(.int .i64 (0)), (.str []), (.str []), (.str []), (.bool false), (.nils 37)] [(0, 1, (.const (.int .i64 (1)))), (2, 2, (.tmp 36))], none⟩,
    ⟨some 38, .build [(.str []), (.bool false), (.int .i64 (0)), (.str []), (.str []), (.str []), (.bool false), (.nils 37), (.int .i64 (0)), (.str []), (.str []), (.str []), (.bool false), (.nils 37), (.int .i64 (0)), (.str []), (.str []), (.str []), (.bool false), (.nils 37), (.nils 139)] [(2, 6, (.tmp 37))], none⟩,
    ⟨some 39, .load true 2 (.tmp 17) false, none⟩,
    ⟨some 40, .build [(.int .i64 (0)), (.str []), (.str []), (.str []), (.bool false), (.nils 37)] [(0, 1, (.const (.int .i64 (1)))), (2, 2, (.tmp 39))], none⟩,
    ⟨some 41, .build [(.str []), (.bool false), (.int .i64 (0)), (.str []), (.str []), (.str []), (.bool false), (.nils 37), (.int .i64 (0)), (.str []), (.str []), (.str []), (.bool false), (.nils 37), (.int .i64 (0)), (.str []), (.str []), (.str []), (.bool false), (.nils 37), (.nils 139)] [(2, 6, (.tmp 40))], none⟩,
    ⟨some 42, .load true 2 (.tmp 16) false, none⟩,
    ⟨some 43, .build [(.int .i64 (0)), (.str []), (.str []), (.str []), (.bool false), (.nils 37)] [(0, 1, (.const (.int .i64 (2)))), (2, 2, (.tmp 42))], none⟩,
    ⟨some 44, .build [(.str []), (.bool false), (.int .i64 (0)), (.str []), (.str []), (.str []), (.bool false), (.nils 37), (.int .i64 (0)), (.str []), (.str []), (.str []), (.bool false), (.nils 37), (.int .i64 (0)), (.str []), (.str []), (.str []), (.bool false), (.nils 37), (.nils 139)] [(2, 6, (.tmp 43))], none⟩,
    ⟨some 45, .load true 2 (.tmp 17) false, none⟩,
    ⟨some 46, .build [(.int .i64 (0)), (.str []), (.str []), (.str []), (.bool false), (.nils 37)] [(0, 1, (.const (.int .i64 (2)))), (2, 2, (.tmp 45))], none⟩,
    ⟨some 47, .build [(.str []), (.bool false), (.int .i64 (0)), (.str []), (.str []), (.str []), (.bool false), (.nils 37), (.int .i64 (0)), (.str []), (.str []), (.str []), (.bool false), (.nils 37), (.int .i64 (0)), (.str []), (.str []), (.str []), (.bool false), (.nils 37), (.nils 139)] [(2, 6, (.tmp 46))], none⟩,
    ⟨some 48, .buildSlice 43 21 4 [(.str []), (.bool false), (.int .i64 (0)), (.str []), (.str []), (.str []), (.bool false), (.sl [] (some 37)), (.int .i64 (0)), (.str []), (.str []), (.str []), (.bool false), (.sl [] (some 37)), (.int .i64 (0)), (.str []), (.str []), (.str []), (.bool false), (.sl [] (some 37)), (.sl [] (some 139))] [(0, (.tmp 38)), (1, (.tmp 41)), (2, (.tmp 44)), (3, (.tmp 47))], none⟩,
    ⟨some 18, .assign (.tmp 48), none⟩])
   (.seq (.region false [⟨some 50, .load true 2 (.tmp 14) false, none⟩,
    ⟨some 51, .load true 3 (.tmp 15) false, none⟩,
    ⟨some 52, .move (.tmp 18) false, none⟩,
    ⟨some 53, .call 6 [(.tmp 50), (.tmp 51), (.tmp 52)], none⟩,
    ⟨some 49, .move (.tmp 53) false, none⟩,
    ⟨some 54, .extract (.tmp 49) 0, none⟩,
    ⟨some 55, .extract (.tmp 49) 1, none⟩,
    ⟨some 19, .alloc [(.sl [] (some 47)), (.sl [] (some 64)), (.int .i64 (0)), (.int .i64 (0)), (.sl [] (some 47))], none⟩,
    ⟨none, .store 5 (.tmp 19) (.tmp 54), none⟩,
    ⟨some 20, .assign (.tmp 55), none⟩])
   (.seq (.seq (.region false [⟨some 56, .move (.tmp 20) false, none⟩,
    ⟨some 57, .bin .neq (.tmp 56) (.const (.int .i64 (0))), none⟩,
    ⟨some 58, .move (.tmp 57) false, none⟩,
    ⟨some 59, .fieldAddr 1 (.tmp 19), some (58, false)⟩,
    ⟨some 60, .load false 1 (.tmp 59) false, some (58, false)⟩,
    ⟨some 61, .len 0 (.tmp 60), some (58, false)⟩,
    ⟨some 62, .bin .neq (.tmp 61) (.const (.int .i64 (6))), some (58, false)⟩,
    ⟨some 63, .pick (.tmp 58) (.const (.bool true)) (.tmp 62), none⟩,
    ⟨some 64, .move (.tmp 63) false, none⟩,
    ⟨some 65, .fieldAddr 1 (.tmp 19), some (64, false)⟩,
    ⟨some 66, .load false 1 (.tmp 65) false, some (64, false)⟩,
    ⟨some 67, .indexAddr 7 (.tmp 66) (.const (.int .i64 (4))), some (64, false)⟩,
    ⟨some 68, .fieldAddr 0 (.tmp 67), some (64, false)⟩,
    ⟨some 69, .load false 1 (.tmp 68) false, some (64, false)⟩,
    ⟨some 70, .bin .neq (.tmp 69) (.const (.int .i64 (5))), some (64, false)⟩,
    ⟨some 71, .pick (.tmp 64) (.const (.bool true)) (.tmp 70), none⟩,
    ⟨some 72, .move (.tmp 71) false, none⟩,
    ⟨some 73, .fieldAddr 1 (.tmp 19), some (72, false)⟩,
    ⟨some 74, .load false 1 (.tmp 73) false, some (72, false)⟩,
    ⟨some 75, .indexAddr 7 (.tmp 74) (.const (.int .i64 (4))), some (72, false)⟩,
    ⟨some 76, .fieldAddr 1 (.tmp 75), some (72, false)⟩,
    ⟨some 77, .load true 2 (.tmp 76) false, some (72, false)⟩,
    ⟨some 78, .load true 2 (.tmp 16) false, some (72, false)⟩,
    ⟨some 79, .eqA 34 true (.tmp 77) (.tmp 78), some (72, false)⟩,
    ⟨some 80, .pick (.tmp 72) (.const (.bool true)) (.tmp 79), none⟩])
   (.cond (.tmp 80) (.seq (.region false [⟨some 12, .assign (.const (.bool false)), none⟩])
   .ret) .skip))
   (.seq (.region false [⟨some 81, .move (.tmp 0) false, none⟩,
    ⟨some 82, .move (.tmp 81) false, none⟩,
    ⟨some 83, .move (.tmp 1) false, some (82, true)⟩,
    ⟨some 84, .pick (.tmp 82) (.tmp 83) (.const (.bool false)), none⟩,
    ⟨some 85, .un .not (.tmp 84), none⟩,
    ⟨some 86, .move (.tmp 85) false, none⟩,
    ⟨some 87, .move (.tmp 0) false, some (86, true)⟩,
    ⟨some 88, .un .not (.tmp 87), some (86, true)⟩,
    ⟨some 89, .move (.tmp 88) false, some (86, true)⟩,
    ⟨some 90, .move (.tmp 2) false, some (89, false)⟩,
    ⟨some 91, .pick (.tmp 89) (.const (.bool true)) (.tmp 90), some (86, true)⟩,
    ⟨some 92, .pick (.tmp 86) (.tmp 91) (.const (.bool false)), none⟩,
    ⟨some 93, .move (.tmp 92) false, none⟩,
    ⟨some 94, .move (.tmp 1) false, some (93, true)⟩,
    ⟨some 95, .un .not (.tmp 94), some (93, true)⟩,
    ⟨some 96, .move (.tmp 95) false, some (93, true)⟩,
    ⟨some 97, .move (.tmp 3) false, some (96, false)⟩,
    ⟨some 98, .pick (.tmp 96) (.const (.bool true)) (.tmp 97), some (93, true)⟩,
    ⟨some 99, .pick (.tmp 93) (.tmp 98) (.const (.bool false)), none⟩,
    ⟨some 100, .move (.tmp 99) false, none⟩,
    ⟨some 101, .move (.tmp 4) false, some (100, true)⟩,
    ⟨some 102, .move (.tmp 101) false, some (100, true)⟩,
    ⟨some 103, .move (.tmp 5) false, some (102, true)⟩,
    ⟨some 104, .pick (.tmp 102) (.tmp 103) (.const (.bool false)), some (100, true)⟩,
    ⟨some 105, .un .not (.tmp 104), some (100, true)⟩,
    ⟨some 106, .pick (.tmp 100) (.tmp 105) (.const (.bool false)), none⟩,
    ⟨some 107, .move (.tmp 106) false, none⟩,
    ⟨some 108, .move (.tmp 2) false, some (107, true)⟩,
    ⟨some 109, .un .not (.tmp 108), some (107, true)⟩,
    ⟨some 110, .move (.tmp 109) false, some (107, true)⟩,
    ⟨some 111, .move (.tmp 4) false, some (110, false)⟩,
    ⟨some 112, .un .not (.tmp 111), some (110, false)⟩,
    ⟨some 113, .pick (.tmp 110) (.const (.bool true)) (.tmp 112), some (107, true)⟩,
    ⟨some 114, .move (.tmp 113) false, some (107, true)⟩,
    ⟨some 115, .move (.tmp 3) false, some (114, false)⟩,
    ⟨some 116, .pick (.tmp 114) (.const (.bool true)) (.tmp 115), some (107, true)⟩,
    ⟨some 117, .pick (.tmp 107) (.tmp 116) (.const (.bool false)), none⟩,
    ⟨some 118, .move (.tmp 117) false, none⟩,
    ⟨some 119, .move (.tmp 3) false, some (118, true)⟩,
    ⟨some 120, .un .not (.tmp 119), some (118, true)⟩,
    ⟨some 121, .move (.tmp 120) false, some (118, true)⟩,
    ⟨some 122, .move (.tmp 5) false, some (121, false)⟩,
    ⟨some 123, .un .not (.tmp 122), some (121, false)⟩,
    ⟨some 124, .pick (.tmp 121) (.const (.bool true)) (.tmp 123), some (118, true)⟩,
    ⟨some 125, .move (.tmp 124) false, some (118, true)⟩,
    ⟨some 126, .move (.tmp 2) false, some (125, false)⟩,
    ⟨some 127, .pick (.tmp 125) (.const (.bool true)) (.tmp 126), some (118, true)⟩,
    ⟨some 128, .pick (.tmp 118) (.tmp 127) (.const (.bool false)), none⟩,
    ⟨some 129, .move (.tmp 128) false, none⟩,
    ⟨some 130, .move (.tmp 0) false, some (129, true)⟩,
    ⟨some 131, .un .not (.tmp 130), some (129, true)⟩,
    ⟨some 132, .move (.tmp 131) false, some (129, true)⟩,
    ⟨some 133, .move (.tmp 3) false, some (132, false)⟩,
    ⟨some 134, .un .not (.tmp 133), some (132, false)⟩,
    ⟨some 135, .pick (.tmp 132) (.const (.bool true)) (.tmp 134), some (129, true)⟩,
    ⟨some 136, .move (.tmp 135) false, some (129, true)⟩,
    ⟨some 137, .move (.tmp 4) false, some (136, false)⟩,
    ⟨some 138, .pick (.tmp 136) (.const (.bool true)) (.tmp 137), some (129, true)⟩,
    ⟨some 139, .pick (.tmp 129) (.tmp 138) (.const (.bool false)), none⟩,
    ⟨some 140, .move (.tmp 139) false, none⟩,
    ⟨some 141, .move (.tmp 1) false, some (140, true)⟩,
    ⟨some 142, .un .not (.tmp 141), some (140, true)⟩,
    ⟨some 143, .move (.tmp 142) false, some (140, true)⟩,
    ⟨some 144, .move (.tmp 2) false, some (143, false)⟩,
    ⟨some 145, .un .not (.tmp 144), some (143, false)⟩,
    ⟨some 146, .pick (.tmp 143) (.const (.bool true)) (.tmp 145), some (140, true)⟩,
    ⟨some 147, .move (.tmp 146) false, some (140, true)⟩,
    ⟨some 148, .move (.tmp 5) false, some (147, false)⟩,
    ⟨some 149, .pick (.tmp 147) (.const (.bool true)) (.tmp 148), some (140, true)⟩,
    ⟨some 150, .pick (.tmp 140) (.tmp 149) (.const (.bool false)), none⟩,
    ⟨some 21, .assign (.tmp 150), none⟩])
   (.seq (.region false [⟨some 151, .fieldAddr 2 (.tmp 19), none⟩,
    ⟨some 152, .load true 3 (.tmp 151) false, none⟩,
    ⟨some 153, .move (.tmp 0) false, none⟩,
    ⟨some 154, .move (.tmp 1) false, none⟩,
    ⟨some 155, .move (.tmp 2) false, none⟩,
    ⟨some 156, .move (.tmp 3) false, none⟩,
    ⟨some 157, .move (.tmp 4) false, none⟩,
    ⟨some 158, .move (.tmp 5) false, none⟩,
    ⟨some 159, .buildSlice 4 1 6 [(.bool false)] [(0, (.tmp 153)), (1, (.tmp 154)), (2, (.tmp 155)), (3, (.tmp 156)), (4, (.tmp 157)), (5, (.tmp 158))], none⟩,
    ⟨some 160, .call 10 [(.tmp 152), (.tmp 159)], none⟩,
    ⟨some 161, .move (.tmp 21) false, none⟩,
    ⟨some 162, .eqb false (.tmp 160) (.tmp 161), none⟩,
    ⟨some 12, .assign (.tmp 162), none⟩])
   .ret))))))))))))⟩


/-- 'chamberlain/chamberlainlaw22.awake' -/
def m5 : MFunc :=
  ⟨0, 100, [.tmp 0],
   (.seq (.region false [⟨some 0, .assign (.const (.bool false)), none⟩])
   (.seq (.region false [⟨some 9, .build [(.str []), (.nils 9), (.nils 115)] [(0, 1, (.const (.str [85])))], none⟩,
    ⟨some 10, .buildSlice 26 3 1 [(.str []), (.sl [] (some 9)), (.sl [] (some 115))] [(0, (.tmp 9))], none⟩,
    ⟨some 11, .buildSlice 9 1 1 [(.str [])] [(0, (.const (.str [85])))], none⟩,
    ⟨some 12, .buildSlice 9 1 1 [(.str [])] [(0, (.const (.str [85])))], none⟩,
    ⟨some 13, .build [(.str []), (.nils 9), (.nils 9), (.nils 9), (.nils 115)] [(0, 1, (.const (.str [118]))), (2, 1, (.tmp 11)), (3, 1, (.tmp 12))], none⟩,
    ⟨some 14, .buildSlice 29 5 1 [(.str []), (.sl [] (some 9)), (.sl [] (some 9)), (.sl [] (some 9)), (.sl [] (some 115))] [(0, (.tmp 13))], none⟩,
    ⟨some 15, .build [(.nils 26), (.nils 29)] [(0, 1, (.tmp 10)), (1, 1, (.tmp 14))], none⟩,
    ⟨some 1, .alloc [(.sl [] (some 26)), (.sl [] (some 29))], none⟩,
    ⟨none, .store 2 (.tmp 1) (.tmp 15), none⟩])
   (.seq (.region false [⟨some 16, .build [(.str []), (.str []), (.str [])] [(0, 1, (.const (.str [85]))), (1, 1, (.const (.str [118]))), (2, 1, (.const (.str [85])))], none⟩,
    ⟨some 2, .alloc [(.str []), (.str []), (.str [])], none⟩,
    ⟨none, .store 3 (.tmp 2) (.tmp 16), none⟩])
   (.seq (.region false [⟨some 17, .build [(.str []), (.str [])] [(0, 1, (.const (.str [85]))), (1, 1, (.const (.str [97])))], none⟩,
    ⟨some 3, .alloc [(.str []), (.str [])], none⟩,
    ⟨none, .store 2 (.tmp 3) (.tmp 17), none⟩])
   (.seq (.region false [⟨some 19, .load true 2 (.tmp 1) false, none⟩,
    ⟨some 20, .load true 3 (.tmp 2) false, none⟩,
    ⟨some 21, .load true 2 (.tmp 3) false, none⟩,
    ⟨some 22, .build [(.int .i64 (0)), (.str []), (.str []), (.str []), (.bool false), (.nils 37)] [(0, 1, (.const (.int .i64 (1)))), (2, 2, (.tmp 21))], none⟩,
    ⟨some 23, .build [(.str []), (.bool false), (.int .i64 (0)), (.str []), (.str []), (.str []), (.bool false), (.nils 37), (.int .i64 (0)), (.str []), (.str []), (.str []), (.bool false), (.nils 37), (.int .i64 (0)), (.str []), (.str []), (.str []), (.bool false), (.nils 37), (.nils 139)] [(2, 6, (.tmp 22))], none⟩,
    ⟨some 24, .buildSlice 43 21 1 [(.str []), (.bool false), (.int .i64 (0)), (.str []), (.str []), (.str []), (.bool false), (.sl [] (some 37)), (.int .i64 (0)), (.str []), (.str []), (.str []), (.bool false), (.sl [] (some 37)), (.int .i64 (0)), (.str []), (.str []), (.str []), (.bool false), (.sl [] (some 37)), (.sl [] (some 139))] [(0, (.tmp 23))], none⟩,
    ⟨some 25, .call 6 [(.tmp 19), (.tmp 20), (.tmp 24)], none⟩,
    ⟨some 18, .move (.tmp 25) false, none⟩,
    ⟨some 26, .extract (.tmp 18) 0, none⟩,
    ⟨some 27, .extract (.tmp 18) 1, none⟩,
    ⟨some 4, .alloc [(.sl [] (some 47)), (.sl [] (some 64)), (.int .i64 (0)), (.int .i64 (0)), (.sl [] (some 47))], none⟩,
    ⟨none, .store 5 (.tmp 4) (.tmp 26), none⟩,
    ⟨some 5, .assign (.tmp 27), none⟩])
   (.seq (.seq (.region false [⟨some 28, .move (.tmp 5) false, none⟩,
    ⟨some 29, .bin .neq (.tmp 28) (.const (.int .i64 (0))), none⟩,
    ⟨some 30, .move (.tmp 29) false, none⟩,
    ⟨some 31, .fieldAddr 0 (.tmp 4), some (30, false)⟩,
    ⟨some 32, .load false 1 (.tmp 31) false, some (30, false)⟩,
    ⟨some 33, .len 0 (.tmp 32), some (30, false)⟩,
    ⟨some 34, .bin .neq (.tmp 33) (.const (.int .i64 (1))), some (30, false)⟩,
    ⟨some 35, .pick (.tmp 30) (.const (.bool true)) (.tmp 34), none⟩,
    ⟨some 36, .move (.tmp 35) false, none⟩,
    ⟨some 37, .fieldAddr 1 (.tmp 4), some (36, false)⟩,
    ⟨some 38, .load false 1 (.tmp 37) false, some (36, false)⟩,
    ⟨some 39, .len 0 (.tmp 38), some (36, false)⟩,
    ⟨some 40, .bin .neq (.tmp 39) (.const (.int .i64 (1))), some (36, false)⟩,
    ⟨some 41, .pick (.tmp 36) (.const (.bool true)) (.tmp 40), none⟩,
    ⟨some 42, .move (.tmp 41) false, none⟩,
    ⟨some 43, .fieldAddr 1 (.tmp 4), some (42, false)⟩,
    ⟨some 44, .load false 1 (.tmp 43) false, some (42, false)⟩,
    ⟨some 45, .indexAddr 7 (.tmp 44) (.const (.int .i64 (0))), some (42, false)⟩,
    ⟨some 46, .fieldAddr 0 (.tmp 45), some (42, false)⟩,
    ⟨some 47, .load false 1 (.tmp 46) false, some (42, false)⟩,
    ⟨some 48, .bin .neq (.tmp 47) (.const (.int .i64 (1))), some (42, false)⟩,
    ⟨some 49, .pick (.tmp 42) (.const (.bool true)) (.tmp 48), none⟩])
   (.cond (.tmp 49) (.seq (.region false [⟨some 0, .assign (.const (.bool false)), none⟩])
   .ret) .skip))
   (.seq (.region false [⟨some 51, .load true 2 (.tmp 1) false, none⟩,
    ⟨some 52, .load true 3 (.tmp 2) false, none⟩,
    ⟨some 53, .fieldAddr 1 (.tmp 4), none⟩,
    ⟨some 54, .load false 1 (.tmp 53) false, none⟩,
    ⟨some 55, .buildSlice 4 1 1 [(.bool false)] [(0, (.const (.bool true)))], none⟩,
    ⟨some 56, .call 11 [(.tmp 51), (.tmp 52), (.tmp 54), (.tmp 55)], none⟩,
    ⟨some 50, .move (.tmp 56) false, none⟩,
    ⟨some 57, .extract (.tmp 50) 0, none⟩,
    ⟨some 58, .extract (.tmp 50) 1, none⟩,
    ⟨some 6, .alloc [(.str []), (.str []), (.str []), (.str []), (.str []), (.str []), (.int .i64 (0)), (.bool false), (.int .i64 (0)), (.str []), (.str []), (.str []), (.sl [] (some 69)), (.sl [] (some 9))], none⟩,
    ⟨none, .store 14 (.tmp 6) (.tmp 57), none⟩,
    ⟨some 7, .assign (.tmp 58), none⟩])
   (.seq (.region false [⟨some 59, .fieldAddr 1 (.tmp 4), none⟩,
    ⟨some 60, .load false 1 (.tmp 59) false, none⟩,
    ⟨some 61, .load true 14 (.tmp 6) false, none⟩,
    ⟨some 62, .move (.tmp 7) false, none⟩,
    ⟨some 63, .call 12 [(.tmp 60), (.tmp 61), (.tmp 62)], none⟩,
    ⟨some 8, .assign (.tmp 63), none⟩])
   (.seq (.region false [⟨some 64, .fieldAddr 0 (.tmp 6), none⟩,
    ⟨some 65, .load true 2 (.tmp 64) false, none⟩,
    ⟨some 66, .load true 2 (.tmp 3) false, none⟩,
    ⟨some 67, .eqA 34 false (.tmp 65) (.tmp 66), none⟩,
    ⟨some 68, .move (.tmp 67) false, none⟩,
    ⟨some 69, .move (.tmp 8) false, some (68, true)⟩,
    ⟨some 70, .len 0 (.tmp 69), some (68, true)⟩,
    ⟨some 71, .bin .eql (.tmp 70) (.const (.int .i64 (1))), some (68, true)⟩,
    ⟨some 72, .pick (.tmp 68) (.tmp 71) (.const (.bool false)), none⟩,
    ⟨some 73, .move (.tmp 72) false, none⟩,
    ⟨some 74, .move (.tmp 8) false, some (73, true)⟩,
    ⟨some 75, .indexAddr 1 (.tmp 74) (.const (.int .i64 (0))), some (73, true)⟩,
    ⟨some 76, .load false 1 (.tmp 75) false, some (73, true)⟩,
    ⟨some 77, .pick (.tmp 73) (.tmp 76) (.const (.bool false)), none⟩,
    ⟨some 78, .move (.tmp 77) false, none⟩,
    ⟨some 79, .fieldAddr 0 (.tmp 4), some (78, true)⟩,
    ⟨some 80, .load false 1 (.tmp 79) false, some (78, true)⟩,
    ⟨some 81, .indexAddr 3 (.tmp 80) (.const (.int .i64 (0))), some (78, true)⟩,
    ⟨some 82, .load true 3 (.tmp 81) false, some (78, true)⟩,
    ⟨some 83, .move (.tmp 8) false, some (78, true)⟩,
    ⟨some 84, .call 10 [(.tmp 82), (.tmp 83)], some (78, true)⟩,
    ⟨some 85, .pick (.tmp 78) (.tmp 84) (.const (.bool false)), none⟩,
    ⟨some 86, .move (.tmp 85) false, none⟩,
    ⟨some 87, .fieldAddr 0 (.tmp 4), some (86, true)⟩,
    ⟨some 88, .load false 1 (.tmp 87) false, some (86, true)⟩,
    ⟨some 89, .indexAddr 3 (.tmp 88) (.const (.int .i64 (0))), some (86, true)⟩,
    ⟨some 90, .load true 3 (.tmp 89) false, some (86, true)⟩,
    ⟨some 91, .call 10 [(.tmp 90), (.const (.sl [] none))], some (86, true)⟩,
    ⟨some 92, .un .not (.tmp 91), some (86, true)⟩,
    ⟨some 93, .pick (.tmp 86) (.tmp 92) (.const (.bool false)), none⟩,
    ⟨some 94, .move (.tmp 93) false, none⟩,
    ⟨some 95, .fieldAddr 2 (.tmp 4), some (94, true)⟩,
    ⟨some 96, .load true 3 (.tmp 95) false, some (94, true)⟩,
    ⟨some 97, .move (.tmp 8) false, some (94, true)⟩,
    ⟨some 98, .call 10 [(.tmp 96), (.tmp 97)], some (94, true)⟩,
    ⟨some 99, .pick (.tmp 94) (.tmp 98) (.const (.bool false)), none⟩,
    ⟨some 0, .assign (.tmp 99), none⟩])
   .ret)))))))))⟩

def o6_0 : List MOper :=
  [⟨some 41, .fieldAddr 0 (.tmp 9), none⟩,
    ⟨some 42, .load false 1 (.tmp 41) true, none⟩,
    ⟨some 43, .move (.tmp 8) false, none⟩,
    ⟨some 44, .load true 21 (.tmp 11) false, none⟩,
    ⟨some 45, .call 13 [(.tmp 43), (.tmp 44)], none⟩,
    ⟨some 46, .buildSlice 47 3 1 [(.int .i64 (0)), (.int .i64 (0)), (.sl [] (some 47))] [(0, (.tmp 45))], none⟩,
    ⟨some 47, .append 47 3 40 false (.tmp 42) (.tmp 46), none⟩,
    ⟨some 48, .fieldAddr 0 (.tmp 9), none⟩,
    ⟨none, .store 1 (.tmp 48) (.tmp 47), none⟩]

def l6_1 : MCode :=
   (.seq (.region false [⟨some 38, .bin .lss (.tmp 37) (.tmp 36), none⟩])
   (.seq (.cond (.tmp 38) .skip (.exit 0))
   (.seq (.block 1 (.seq (.region false [⟨some 39, .indexAddr 21 (.tmp 35) (.tmp 37), none⟩,
    ⟨some 40, .load true 21 (.tmp 39) false, none⟩,
    ⟨some 11, .alloc [(.str []), (.bool false), (.int .i64 (0)), (.str []), (.str []), (.str []), (.bool false), (.sl [] (some 37)), (.int .i64 (0)), (.str []), (.str []), (.str []), (.bool false), (.sl [] (some 37)), (.int .i64 (0)), (.str []), (.str []), (.str []), (.bool false), (.sl [] (some 37)), (.sl [] (some 139))], none⟩,
    ⟨none, .store 21 (.tmp 11) (.tmp 40), none⟩])
   (.regionQ [(true, o6_0)] o6_0 [[], [0], [], [], [2, 3], [4], [1, 5, 4], [0, 1, 2, 3, 4, 5, 6], [7, 6, 6, 0, 1, 2, 3, 4, 5, 6]])))
   (.region false [⟨some 49, .bin .add (.tmp 37) (.const (.int .i64 (1))), none⟩,
    ⟨some 37, .move (.tmp 49) false, none⟩]))))

def l6_2 : MCode :=
   (.seq (.region false [⟨some 76, .bin .lss (.tmp 75) (.tmp 74), none⟩])
   (.seq (.cond (.tmp 76) .skip (.exit 4))
   (.seq (.block 5 (.seq (.region false [⟨some 77, .indexAddr 2 (.tmp 73) (.tmp 75), none⟩,
    ⟨some 78, .load true 2 (.tmp 77) false, none⟩,
    ⟨some 17, .alloc [(.str []), (.str [])], none⟩,
    ⟨none, .store 2 (.tmp 17) (.tmp 78), none⟩])
   (.seq (.region false [⟨some 79, .move (.tmp 8) false, none⟩,
    ⟨some 80, .load true 2 (.tmp 15) false, none⟩,
    ⟨some 81, .load true 2 (.tmp 17) false, none⟩,
    ⟨some 82, .call 19 [(.tmp 79), (.tmp 80), (.tmp 81)], none⟩])
   (.region false [⟨some 83, .move (.tmp 8) false, none⟩,
    ⟨some 84, .load true 2 (.tmp 15) false, none⟩,
    ⟨some 85, .load true 2 (.tmp 17) false, none⟩,
    ⟨some 86, .call 20 [(.tmp 83), (.tmp 84), (.tmp 85)], none⟩]))))
   (.region false [⟨some 87, .bin .add (.tmp 75) (.const (.int .i64 (1))), none⟩,
    ⟨some 75, .move (.tmp 87) false, none⟩]))))

def l6_3 : MCode :=
   (.seq (.region false [⟨some 68, .bin .lss (.tmp 67) (.tmp 66), none⟩])
   (.seq (.cond (.tmp 68) .skip (.exit 2))
   (.seq (.block 3 (.seq (.region false [⟨some 69, .indexAddr 2 (.tmp 65) (.tmp 67), none⟩,
    ⟨some 70, .load true 2 (.tmp 69) false, none⟩,
    ⟨some 15, .alloc [(.int .i64 (0)), (.str [])], none⟩,
    ⟨none, .store 2 (.tmp 15) (.tmp 70), none⟩])
   (.seq (.region false [⟨some 71, .move (.tmp 8) false, none⟩,
    ⟨some 72, .mkfunc 18 [(.tmp 15)], none⟩,
    ⟨some 73, .call 14 [(.tmp 71), (.tmp 72)], none⟩,
    ⟨some 74, .len 0 (.tmp 73), none⟩,
    ⟨some 75, .move (.const (.int .i64 (0))) false, none⟩])
   (.block 4 (.loop [9, 8, 13, 12, 65, 66, 67, 73, 15, 75, 74, 7, 6, 34] l6_2)))))
   (.region false [⟨some 88, .bin .add (.tmp 67) (.const (.int .i64 (1))), none⟩,
    ⟨some 67, .move (.tmp 88) false, none⟩]))))

def l6_4 : MCode :=
   (.seq (.region false [⟨some 98, .bin .lss (.tmp 97) (.tmp 96), none⟩])
   (.seq (.cond (.tmp 98) .skip (.exit 8))
   (.seq (.block 9 (.seq (.region false [⟨some 99, .indexAddr 2 (.tmp 95) (.tmp 97), none⟩,
    ⟨some 100, .load true 2 (.tmp 99) false, none⟩,
    ⟨some 21, .alloc [(.str []), (.str [])], none⟩,
    ⟨none, .store 2 (.tmp 21) (.tmp 100), none⟩])
   (.region false [⟨some 101, .move (.tmp 8) false, none⟩,
    ⟨some 102, .load true 2 (.tmp 19) false, none⟩,
    ⟨some 103, .load true 2 (.tmp 21) false, none⟩,
    ⟨some 104, .call 21 [(.tmp 101), (.tmp 102), (.tmp 103)], none⟩])))
   (.region false [⟨some 105, .bin .add (.tmp 97) (.const (.int .i64 (1))), none⟩,
    ⟨some 97, .move (.tmp 105) false, none⟩]))))

def l6_5 : MCode :=
   (.seq (.region false [⟨some 92, .bin .lss (.tmp 91) (.tmp 90), none⟩])
   (.seq (.cond (.tmp 92) .skip (.exit 6))
   (.seq (.block 7 (.seq (.region false [⟨some 93, .indexAddr 2 (.tmp 89) (.tmp 91), none⟩,
    ⟨some 94, .load true 2 (.tmp 93) false, none⟩,
    ⟨some 19, .alloc [(.str []), (.str [])], none⟩,
    ⟨none, .store 2 (.tmp 19) (.tmp 94), none⟩])
   (.seq (.region false [⟨some 95, .move (.tmp 12) false, none⟩,
    ⟨some 96, .len 0 (.tmp 95), none⟩,
    ⟨some 97, .move (.const (.int .i64 (0))) false, none⟩])
   (.block 8 (.loop [9, 8, 13, 12, 89, 90, 91, 95, 19, 97, 96, 7, 6, 34] l6_4)))))
   (.region false [⟨some 106, .bin .add (.tmp 91) (.const (.int .i64 (1))), none⟩,
    ⟨some 91, .move (.tmp 106) false, none⟩]))))

def l6_6 : MCode :=
   (.seq (.region false [⟨some 121, .bin .lss (.tmp 120) (.tmp 119), none⟩])
   (.seq (.cond (.tmp 121) .skip (.exit 10))
   (.seq (.block 11 (.seq (.region false [⟨some 122, .indexAddr 2 (.tmp 118) (.tmp 120), none⟩,
    ⟨some 123, .load true 2 (.tmp 122) false, none⟩,
    ⟨some 23, .alloc [(.int .i64 (0)), (.str [])], none⟩,
    ⟨none, .store 2 (.tmp 23) (.tmp 123), none⟩])
   (.regionA [⟨some 124, .move (.tmp 13) true, none⟩,
    ⟨some 125, .move (.tmp 8) false, none⟩,
    ⟨some 126, .load true 2 (.tmp 23) false, none⟩,
    ⟨some 127, .move (.tmp 8) false, none⟩,
    ⟨some 128, .mkfunc 23 [(.tmp 23)], none⟩,
    ⟨some 129, .call 14 [(.tmp 127), (.tmp 128)], none⟩,
    ⟨some 130, .call 22 [(.tmp 125), (.tmp 126), (.tmp 129)], none⟩,
    ⟨some 131, .append 47 3 40 false (.tmp 124) (.tmp 130), none⟩,
    ⟨some 13, .assign (.tmp 131), none⟩] [[], [], [], [], [], [3, 4], [1, 2, 5, 5], [0, 6, 6], [7, 7, 0, 1, 2, 3, 4, 5, 6, 7]])))
   (.region false [⟨some 132, .bin .add (.tmp 120) (.const (.int .i64 (1))), none⟩,
    ⟨some 120, .move (.tmp 132) false, none⟩]))))

def o6_7 : List MOper :=
  [⟨some 148, .move (.tmp 13) true, none⟩,
    ⟨some 149, .move (.tmp 8) false, none⟩,
    ⟨some 150, .load true 2 (.tmp 25) false, none⟩,
    ⟨some 151, .load true 2 (.tmp 27) false, none⟩,
    ⟨some 152, .call 21 [(.tmp 149), (.tmp 150), (.tmp 151)], none⟩,
    ⟨some 153, .move (.tmp 8) false, none⟩,
    ⟨some 154, .load true 2 (.tmp 27) false, none⟩,
    ⟨some 155, .load true 2 (.tmp 25) false, none⟩,
    ⟨some 156, .call 21 [(.tmp 153), (.tmp 154), (.tmp 155)], none⟩,
    ⟨some 157, .buildSlice 47 3 2 [(.int .i64 (0)), (.int .i64 (0)), (.sl [] (some 47))] [(0, (.tmp 152)), (1, (.tmp 156))], none⟩,
    ⟨some 158, .call 25 [(.tmp 157)], none⟩,
    ⟨some 159, .call 24 [(.tmp 158)], none⟩,
    ⟨some 160, .buildSlice 47 3 1 [(.int .i64 (0)), (.int .i64 (0)), (.sl [] (some 47))] [(0, (.tmp 159))], none⟩,
    ⟨some 161, .append 47 3 40 false (.tmp 148) (.tmp 160), none⟩,
    ⟨some 13, .assign (.tmp 161), none⟩]

def o6_8 : List MOper :=
  [⟨some 148, .move (.tmp 13) true, none⟩,
    ⟨some 149, .move (.tmp 8) false, none⟩,
    ⟨some 150, .loadL true 2 (.tmp 25), none⟩,
    ⟨some 151, .loadL true 2 (.tmp 27), none⟩,
    ⟨some 152, .callS 21 [(.tmp 149), (.tmp 150), (.tmp 151)], none⟩,
    ⟨some 153, .move (.tmp 8) false, none⟩,
    ⟨some 154, .loadL true 2 (.tmp 27), none⟩,
    ⟨some 155, .loadL true 2 (.tmp 25), none⟩,
    ⟨some 156, .callS 21 [(.tmp 153), (.tmp 154), (.tmp 155)], none⟩,
    ⟨some 157, .buildSlice 47 3 2 [(.int .i64 (0)), (.int .i64 (0)), (.sl [] (some 47))] [(0, (.tmp 152)), (1, (.tmp 156))], none⟩,
    ⟨some 158, .callS 25 [(.tmp 157)], none⟩,
    ⟨some 159, .callS 24 [(.tmp 158)], none⟩,
    ⟨some 160, .buildSlice 47 3 1 [(.int .i64 (0)), (.int .i64 (0)), (.sl [] (some 47))] [(0, (.tmp 159))], none⟩,
    ⟨some 161, .append 47 3 40 false (.tmp 148) (.tmp 160), none⟩,
    ⟨some 13, .assign (.tmp 161), none⟩]

def o6_9 : List MOper :=
  [⟨some 168, .move (.tmp 13) true, none⟩,
    ⟨some 169, .move (.tmp 8) false, none⟩,
    ⟨some 170, .load true 2 (.tmp 25) false, none⟩,
    ⟨some 171, .load true 2 (.tmp 27) false, none⟩,
    ⟨some 172, .call 21 [(.tmp 169), (.tmp 170), (.tmp 171)], none⟩,
    ⟨some 173, .move (.tmp 8) false, none⟩,
    ⟨some 174, .load true 2 (.tmp 27) false, none⟩,
    ⟨some 175, .load true 2 (.tmp 29) false, none⟩,
    ⟨some 176, .call 21 [(.tmp 173), (.tmp 174), (.tmp 175)], none⟩,
    ⟨some 177, .buildSlice 47 3 2 [(.int .i64 (0)), (.int .i64 (0)), (.sl [] (some 47))] [(0, (.tmp 172)), (1, (.tmp 176))], none⟩,
    ⟨some 178, .call 25 [(.tmp 177)], none⟩,
    ⟨some 179, .move (.tmp 8) false, none⟩,
    ⟨some 180, .load true 2 (.tmp 25) false, none⟩,
    ⟨some 181, .load true 2 (.tmp 29) false, none⟩,
    ⟨some 182, .call 21 [(.tmp 179), (.tmp 180), (.tmp 181)], none⟩,
    ⟨some 183, .call 26 [(.tmp 178), (.tmp 182)], none⟩,
    ⟨some 184, .buildSlice 47 3 1 [(.int .i64 (0)), (.int .i64 (0)), (.sl [] (some 47))] [(0, (.tmp 183))], none⟩,
    ⟨some 185, .append 47 3 40 false (.tmp 168) (.tmp 184), none⟩,
    ⟨some 13, .assign (.tmp 185), none⟩]

def o6_10 : List MOper :=
  [⟨some 168, .move (.tmp 13) true, none⟩,
    ⟨some 169, .move (.tmp 8) false, none⟩,
    ⟨some 170, .loadL true 2 (.tmp 25), none⟩,
    ⟨some 171, .loadL true 2 (.tmp 27), none⟩,
    ⟨some 172, .callS 21 [(.tmp 169), (.tmp 170), (.tmp 171)], none⟩,
    ⟨some 173, .move (.tmp 8) false, none⟩,
    ⟨some 174, .loadL true 2 (.tmp 27), none⟩,
    ⟨some 175, .loadL true 2 (.tmp 29), none⟩,
    ⟨some 176, .callS 21 [(.tmp 173), (.tmp 174), (.tmp 175)], none⟩,
    ⟨some 177, .buildSlice 47 3 2 [(.int .i64 (0)), (.int .i64 (0)), (.sl [] (some 47))] [(0, (.tmp 172)), (1, (.tmp 176))], none⟩,
    ⟨some 178, .callS 25 [(.tmp 177)], none⟩,
    ⟨some 179, .move (.tmp 8) false, none⟩,
    ⟨some 180, .loadL true 2 (.tmp 25), none⟩,
    ⟨some 181, .loadL true 2 (.tmp 29), none⟩,
    ⟨some 182, .callS 21 [(.tmp 179), (.tmp 180), (.tmp 181)], none⟩,
    ⟨some 183, .callS 26 [(.tmp 178), (.tmp 182)], none⟩,
    ⟨some 184, .buildSlice 47 3 1 [(.int .i64 (0)), (.int .i64 (0)), (.sl [] (some 47))] [(0, (.tmp 183))], none⟩,
    ⟨some 185, .append 47 3 40 false (.tmp 168) (.tmp 184), none⟩,
    ⟨some 13, .assign (.tmp 185), none⟩]

def l6_11 : MCode :=
   (.seq (.region false [⟨some 165, .bin .lss (.tmp 164) (.tmp 163), none⟩])
   (.seq (.cond (.tmp 165) .skip (.exit 16))
   (.seq (.block 17 (.seq (.region false [⟨some 166, .indexAddr 2 (.tmp 162) (.tmp 164), none⟩,
    ⟨some 167, .load true 2 (.tmp 166) false, none⟩,
    ⟨some 29, .alloc [(.str []), (.str [])], none⟩,
    ⟨none, .store 2 (.tmp 29) (.tmp 167), none⟩])
   (.regionQ [(false, o6_10), (true, o6_9)] o6_9 [[], [], [], [], [1, 2, 3], [], [], [], [5, 6, 7, 4], [4, 8], [9, 8], [], [], [], [11, 12, 13, 10], [10, 14, 14], [15], [0, 16, 15], [17, 17, 0, 1, 2, 3, 4, 5, 6, 7, 8, 9, 10, 11, 12, 13, 14, 15, 16, 17]])))
   (.region false [⟨some 186, .bin .add (.tmp 164) (.const (.int .i64 (1))), none⟩,
    ⟨some 164, .move (.tmp 186) false, none⟩]))))

def l6_12 : MCode :=
   (.seq (.region false [⟨some 142, .bin .lss (.tmp 141) (.tmp 140), none⟩])
   (.seq (.cond (.tmp 142) .skip (.exit 14))
   (.seq (.block 15 (.seq (.region false [⟨some 143, .indexAddr 2 (.tmp 139) (.tmp 141), none⟩,
    ⟨some 144, .load true 2 (.tmp 143) false, none⟩,
    ⟨some 27, .alloc [(.str []), (.str [])], none⟩,
    ⟨none, .store 2 (.tmp 27) (.tmp 144), none⟩])
   (.seq (.seq (.region false [⟨some 145, .load true 2 (.tmp 25) false, none⟩,
    ⟨some 146, .load true 2 (.tmp 27) false, none⟩,
    ⟨some 147, .eqA 34 true (.tmp 145) (.tmp 146), none⟩])
   (.cond (.tmp 147) (.regionQ [(false, o6_8), (true, o6_7)] o6_7 [[], [], [], [], [1, 2, 3], [], [], [], [5, 6, 7, 4], [4, 8], [9, 8], [10, 10], [11], [0, 12, 11], [13, 13, 0, 1, 2, 3, 4, 5, 6, 7, 8, 9, 10, 11, 12, 13]]) .skip))
   (.seq (.region false [⟨some 162, .move (.tmp 12) false, none⟩,
    ⟨some 163, .len 0 (.tmp 162), none⟩,
    ⟨some 164, .move (.const (.int .i64 (0))) false, none⟩])
   (.block 16 (.loop [9, 8, 13, 133, 12, 134, 135, 139, 25, 140, 141, 162, 27, 164, 163, 7, 6, 34] l6_11))))))
   (.region false [⟨some 187, .bin .add (.tmp 141) (.const (.int .i64 (1))), none⟩,
    ⟨some 141, .move (.tmp 187) false, none⟩]))))

def l6_13 : MCode :=
   (.seq (.region false [⟨some 136, .bin .lss (.tmp 135) (.tmp 134), none⟩])
   (.seq (.cond (.tmp 136) .skip (.exit 12))
   (.seq (.block 13 (.seq (.region false [⟨some 137, .indexAddr 2 (.tmp 133) (.tmp 135), none⟩,
    ⟨some 138, .load true 2 (.tmp 137) false, none⟩,
    ⟨some 25, .alloc [(.str []), (.str [])], none⟩,
    ⟨none, .store 2 (.tmp 25) (.tmp 138), none⟩])
   (.seq (.region false [⟨some 139, .move (.tmp 12) false, none⟩,
    ⟨some 140, .len 0 (.tmp 139), none⟩,
    ⟨some 141, .move (.const (.int .i64 (0))) false, none⟩])
   (.block 14 (.loop [9, 8, 13, 133, 12, 134, 135, 139, 25, 141, 140, 7, 6, 34] l6_12)))))
   (.region false [⟨some 188, .bin .add (.tmp 135) (.const (.int .i64 (1))), none⟩,
    ⟨some 135, .move (.tmp 188) false, none⟩]))))

/-- 'chamberlain/theory.Of' -/
def m6 : MFunc :=
  ⟨3, 201, [.cell 6 true 5, .tmp 7],
   (.seq (.region false [⟨some 3, .box (.tmp 0), none⟩,
    ⟨some 4, .box (.tmp 1), none⟩,
    ⟨some 6, .alloc [(.sl [] (some 47)), (.sl [] (some 64)), (.int .i64 (0)), (.int .i64 (0)), (.sl [] (some 47))], none⟩,
    ⟨some 7, .assign (.const (.int .i64 (0))), none⟩])
   (.seq (.region false [⟨some 30, .load true 2 (.tmp 3) false, none⟩,
    ⟨some 31, .load true 3 (.tmp 4) false, none⟩,
    ⟨some 32, .mkmap, none⟩,
    ⟨some 33, .build [(.nils 26), (.nils 29), (.str []), (.str []), (.str []), (.nils 64), .nilm, (.bool false)] [(0, 2, (.tmp 30)), (2, 3, (.tmp 31)), (6, 1, (.tmp 32))], none⟩,
    ⟨some 34, .box (.tmp 33), none⟩,
    ⟨some 8, .assign (.tmp 34), none⟩])
   (.seq (.region false [⟨some 9, .alloc [(.sl [] (some 47)), (.sl [] (some 64)), (.int .i64 (0)), (.int .i64 (0)), (.sl [] (some 47))], none⟩])
   (.seq (.seq (.region false [⟨some 35, .move (.tmp 2) false, none⟩,
    ⟨some 36, .len 0 (.tmp 35), none⟩,
    ⟨some 37, .move (.const (.int .i64 (0))) false, none⟩])
   (.block 0 (.loop [9, 8, 35, 37, 36, 7, 6, 34] l6_1)))
   (.seq (.seq (.region false [⟨some 50, .move (.tmp 8) false, none⟩,
    ⟨some 51, .nilCheck (.tmp 50), none⟩,
    ⟨some 52, .fieldAddr 7 (.tmp 51), none⟩,
    ⟨some 53, .load false 1 (.tmp 52) false, none⟩])
   (.cond (.tmp 53) (.seq (.region false [⟨some 54, .build [(.nils 47), (.nils 64), (.int .i64 (0)), (.int .i64 (0)), (.nils 47)] [], none⟩,
    ⟨none, .store 5 (.tmp 6) (.tmp 54), none⟩,
    ⟨some 7, .assign (.const (.int .i64 (52))), none⟩])
   .ret) .skip))
   (.seq (.region false [⟨some 55, .move (.tmp 8) false, none⟩,
    ⟨some 56, .call 14 [(.tmp 55), (.const (.func 15 []))], none⟩,
    ⟨some 12, .assign (.tmp 56), none⟩])
   (.seq (.seq (.region false [⟨some 57, .move (.tmp 12) false, none⟩,
    ⟨some 58, .len 0 (.tmp 57), none⟩,
    ⟨some 59, .bin .gtr (.tmp 58) (.const (.int .i64 (12))), none⟩])
   (.cond (.tmp 59) (.seq (.region false [⟨some 60, .build [(.nils 47), (.nils 64), (.int .i64 (0)), (.int .i64 (0)), (.nils 47)] [], none⟩,
    ⟨none, .store 5 (.tmp 6) (.tmp 60), none⟩,
    ⟨some 7, .assign (.const (.int .i64 (52))), none⟩])
   .ret) .skip))
   (.seq (.region false [⟨some 13, .assign (.const (.sl [] (some 47))), none⟩])
   (.seq (.seq (.region false [⟨some 61, .move (.tmp 8) false, none⟩,
    ⟨some 62, .call 16 [(.tmp 61)], none⟩,
    ⟨some 63, .move (.tmp 8) false, none⟩,
    ⟨some 64, .call 17 [(.tmp 63)], none⟩,
    ⟨some 65, .buildSlice 84 2 2 [(.int .i64 (0)), (.str [])] [(0, (.tmp 62)), (1, (.tmp 64))], none⟩,
    ⟨some 66, .len 0 (.tmp 65), none⟩,
    ⟨some 67, .move (.const (.int .i64 (0))) false, none⟩])
   (.block 2 (.loop [9, 8, 13, 12, 65, 67, 66, 7, 6, 34] l6_3)))
   (.seq (.seq (.region false [⟨some 89, .move (.tmp 12) false, none⟩,
    ⟨some 90, .len 0 (.tmp 89), none⟩,
    ⟨some 91, .move (.const (.int .i64 (0))) false, none⟩])
   (.block 6 (.loop [9, 8, 13, 12, 89, 91, 90, 7, 6, 34] l6_5)))
   (.seq (.seq (.region false [⟨some 107, .move (.tmp 8) false, none⟩,
    ⟨some 108, .nilCheck (.tmp 107), none⟩,
    ⟨some 109, .fieldAddr 5 (.tmp 108), none⟩,
    ⟨some 110, .load false 1 (.tmp 109) false, none⟩,
    ⟨some 111, .len 0 (.tmp 110), none⟩,
    ⟨some 112, .bin .gtr (.tmp 111) (.const (.int .i64 (500))), none⟩])
   (.cond (.tmp 112) (.seq (.region false [⟨some 113, .build [(.nils 47), (.nils 64), (.int .i64 (0)), (.int .i64 (0)), (.nils 47)] [], none⟩,
    ⟨none, .store 5 (.tmp 6) (.tmp 113), none⟩,
    ⟨some 7, .assign (.const (.int .i64 (52))), none⟩])
   .ret) .skip))
   (.seq (.seq (.region false [⟨some 114, .move (.tmp 8) false, none⟩,
    ⟨some 115, .call 16 [(.tmp 114)], none⟩,
    ⟨some 116, .move (.tmp 8) false, none⟩,
    ⟨some 117, .call 17 [(.tmp 116)], none⟩,
    ⟨some 118, .buildSlice 84 2 2 [(.int .i64 (0)), (.str [])] [(0, (.tmp 115)), (1, (.tmp 117))], none⟩,
    ⟨some 119, .len 0 (.tmp 118), none⟩,
    ⟨some 120, .move (.const (.int .i64 (0))) false, none⟩])
   (.block 10 (.loop [9, 8, 13, 12, 118, 120, 119, 7, 6, 34] l6_6)))
   (.seq (.seq (.region false [⟨some 133, .move (.tmp 12) false, none⟩,
    ⟨some 134, .len 0 (.tmp 133), none⟩,
    ⟨some 135, .move (.const (.int .i64 (0))) false, none⟩])
   (.block 12 (.loop [9, 8, 13, 133, 12, 135, 134, 7, 6, 34] l6_13)))
   (.seq (.region false [⟨some 189, .move (.tmp 13) true, none⟩,
    ⟨some 190, .move (.tmp 8) false, none⟩,
    ⟨some 191, .call 27 [(.tmp 190)], none⟩,
    ⟨some 192, .append 47 3 40 false (.tmp 189) (.tmp 191), none⟩,
    ⟨some 193, .call 25 [(.tmp 192)], none⟩,
    ⟨some 194, .fieldAddr 2 (.tmp 9), none⟩,
    ⟨none, .store 3 (.tmp 194) (.tmp 193), none⟩])
   (.seq (.region false [⟨some 195, .move (.tmp 8) false, none⟩,
    ⟨some 196, .nilCheck (.tmp 195), none⟩,
    ⟨some 197, .fieldAddr 5 (.tmp 196), none⟩,
    ⟨some 198, .load false 1 (.tmp 197) false, none⟩,
    ⟨some 199, .fieldAddr 1 (.tmp 9), none⟩,
    ⟨none, .store 1 (.tmp 199) (.tmp 198), none⟩])
   (.seq (.region false [⟨some 200, .load true 5 (.tmp 9) false, none⟩,
    ⟨none, .store 5 (.tmp 6) (.tmp 200), none⟩,
    ⟨some 7, .assign (.const (.int .i64 (0))), none⟩])
   .ret))))))))))))))))⟩

def l7_0 : MCode :=
   (.seq (.seq (.region false [⟨some 25, .move (.tmp 13) false, none⟩,
    ⟨some 26, .move (.tmp 2) false, none⟩,
    ⟨some 27, .len 0 (.tmp 26), none⟩,
    ⟨some 28, .bin .lss (.tmp 25) (.tmp 27), none⟩])
   (.cond (.tmp 28) .skip (.exit 0)))
   (.seq (.block 1 (.seq (.region false [⟨some 14, .assign (.const (.bool false)), none⟩])
   (.seq (.region false [⟨some 32, .load true 8 (.tmp 11) false, none⟩,
    ⟨some 33, .move (.tmp 2) false, none⟩,
    ⟨some 34, .move (.tmp 13) false, none⟩,
    ⟨some 35, .indexAddr 21 (.tmp 33) (.tmp 34), none⟩,
    ⟨some 36, .load true 21 (.tmp 35) false, none⟩,
    ⟨some 37, .call 28 [(.tmp 32), (.tmp 36)], none⟩,
    ⟨some 31, .move (.tmp 37) false, none⟩,
    ⟨some 38, .extract (.tmp 31) 0, none⟩,
    ⟨some 39, .extract (.tmp 31) 1, none⟩,
    ⟨none, .store 8 (.tmp 11) (.tmp 38), none⟩,
    ⟨some 14, .assign (.tmp 39), none⟩])
   (.region false [⟨some 40, .move (.tmp 12) true, none⟩,
    ⟨some 41, .move (.tmp 14) false, none⟩,
    ⟨some 42, .buildSlice 4 1 1 [(.bool false)] [(0, (.tmp 41))], none⟩,
    ⟨some 43, .append 4 1 1 false (.tmp 40) (.tmp 42), none⟩,
    ⟨some 12, .assign (.tmp 43), none⟩]))))
   (.region false [⟨some 29, .move (.tmp 13) false, none⟩,
    ⟨some 30, .bin .add (.tmp 29) (.const (.int .i64 (1))), none⟩,
    ⟨some 13, .assign (.tmp 30), none⟩])))

def l7_1 : MCode :=
   (.seq (.seq (.region false [⟨some 65, .move (.tmp 18) false, none⟩,
    ⟨some 66, .move (.tmp 17) false, none⟩,
    ⟨some 67, .len 0 (.tmp 66), none⟩,
    ⟨some 68, .bin .lss (.tmp 65) (.tmp 67), none⟩])
   (.cond (.tmp 68) .skip (.exit 4)))
   (.seq (.block 5 (.seq (.region false [⟨some 72, .load true 8 (.tmp 11) false, none⟩,
    ⟨some 73, .move (.tmp 16) false, none⟩,
    ⟨some 74, .move (.tmp 17) false, none⟩,
    ⟨some 75, .move (.tmp 18) false, none⟩,
    ⟨some 76, .indexAddr 2 (.tmp 74) (.tmp 75), none⟩,
    ⟨some 77, .load true 2 (.tmp 76) false, none⟩,
    ⟨some 78, .call 30 [(.tmp 72), (.tmp 73), (.tmp 77)], none⟩,
    ⟨some 71, .move (.tmp 78) false, none⟩,
    ⟨some 79, .extract (.tmp 71) 0, none⟩,
    ⟨some 80, .extract (.tmp 71) 1, none⟩,
    ⟨none, .store 8 (.tmp 11) (.tmp 79), none⟩])
   (.region false [⟨some 82, .load true 8 (.tmp 11) false, none⟩,
    ⟨some 83, .move (.tmp 16) false, none⟩,
    ⟨some 84, .move (.tmp 17) false, none⟩,
    ⟨some 85, .move (.tmp 18) false, none⟩,
    ⟨some 86, .indexAddr 2 (.tmp 84) (.tmp 85), none⟩,
    ⟨some 87, .load true 2 (.tmp 86) false, none⟩,
    ⟨some 88, .call 31 [(.tmp 82), (.tmp 83), (.tmp 87)], none⟩,
    ⟨some 81, .move (.tmp 88) false, none⟩,
    ⟨some 89, .extract (.tmp 81) 0, none⟩,
    ⟨some 90, .extract (.tmp 81) 1, none⟩,
    ⟨none, .store 8 (.tmp 11) (.tmp 89), none⟩])))
   (.region false [⟨some 69, .move (.tmp 18) false, none⟩,
    ⟨some 70, .bin .add (.tmp 69) (.const (.int .i64 (1))), none⟩,
    ⟨some 18, .assign (.tmp 70), none⟩])))

def l7_2 : MCode :=
   (.seq (.seq (.region false [⟨some 55, .move (.tmp 16) false, none⟩,
    ⟨some 56, .bin .leq (.tmp 55) (.const (.int .i64 (3))), none⟩])
   (.cond (.tmp 56) .skip (.exit 2)))
   (.seq (.block 3 (.seq (.region false [⟨some 59, .fieldAddr 5 (.tmp 11), none⟩,
    ⟨some 60, .load false 1 (.tmp 59) false, none⟩,
    ⟨some 61, .move (.tmp 16) false, none⟩,
    ⟨some 62, .move (.tmp 16) false, none⟩,
    ⟨some 63, .bin .add (.tmp 62) (.const (.int .i64 (1))), none⟩,
    ⟨some 64, .call 29 [(.tmp 60), (.tmp 61), (.tmp 63)], none⟩,
    ⟨some 17, .assign (.tmp 64), none⟩])
   (.seq (.region false [⟨some 18, .assign (.const (.int .i64 (0))), none⟩])
   (.block 4 (.loop [12, 11, 15, 16, 17, 18, 10, 9, 8] l7_1)))))
   (.region false [⟨some 57, .move (.tmp 16) false, none⟩,
    ⟨some 58, .bin .add (.tmp 57) (.const (.int .i64 (2))), none⟩,
    ⟨some 16, .assign (.tmp 58), none⟩])))

def l7_3 : MCode :=
   (.seq (.seq (.region false [⟨some 97, .move (.tmp 20) false, none⟩,
    ⟨some 98, .move (.tmp 15) false, none⟩,
    ⟨some 99, .len 0 (.tmp 98), none⟩,
    ⟨some 100, .bin .lss (.tmp 97) (.tmp 99), none⟩])
   (.cond (.tmp 100) .skip (.exit 8)))
   (.seq (.block 9 (.region false [⟨some 104, .load true 8 (.tmp 11) false, none⟩,
    ⟨some 105, .move (.tmp 15) false, none⟩,
    ⟨some 106, .move (.tmp 19) false, none⟩,
    ⟨some 107, .indexAddr 2 (.tmp 105) (.tmp 106), none⟩,
    ⟨some 108, .load true 2 (.tmp 107) false, none⟩,
    ⟨some 109, .move (.tmp 15) false, none⟩,
    ⟨some 110, .move (.tmp 20) false, none⟩,
    ⟨some 111, .indexAddr 2 (.tmp 109) (.tmp 110), none⟩,
    ⟨some 112, .load true 2 (.tmp 111) false, none⟩,
    ⟨some 113, .call 32 [(.tmp 104), (.tmp 108), (.tmp 112)], none⟩,
    ⟨some 103, .move (.tmp 113) false, none⟩,
    ⟨some 114, .extract (.tmp 103) 0, none⟩,
    ⟨some 115, .extract (.tmp 103) 1, none⟩,
    ⟨none, .store 8 (.tmp 11) (.tmp 114), none⟩]))
   (.region false [⟨some 101, .move (.tmp 20) false, none⟩,
    ⟨some 102, .bin .add (.tmp 101) (.const (.int .i64 (1))), none⟩,
    ⟨some 20, .assign (.tmp 102), none⟩])))

def l7_4 : MCode :=
   (.seq (.seq (.region false [⟨some 91, .move (.tmp 19) false, none⟩,
    ⟨some 92, .move (.tmp 15) false, none⟩,
    ⟨some 93, .len 0 (.tmp 92), none⟩,
    ⟨some 94, .bin .lss (.tmp 91) (.tmp 93), none⟩])
   (.cond (.tmp 94) .skip (.exit 6)))
   (.seq (.block 7 (.seq (.region false [⟨some 20, .assign (.const (.int .i64 (0))), none⟩])
   (.block 8 (.loop [12, 11, 15, 19, 20, 10, 9, 8] l7_3))))
   (.region false [⟨some 95, .move (.tmp 19) false, none⟩,
    ⟨some 96, .bin .add (.tmp 95) (.const (.int .i64 (1))), none⟩,
    ⟨some 19, .assign (.tmp 96), none⟩])))

/-- 'chamberlain/chamberlainref22.Of' -/
def m7 : MFunc :=
  ⟨4, 123, [.cell 8 true 8, .tmp 9, .tmp 10],
   (.seq (.region false [⟨some 4, .box (.tmp 0), none⟩,
    ⟨some 5, .box (.tmp 1), none⟩,
    ⟨some 8, .alloc [(.sl [] (some 26)), (.sl [] (some 29)), (.str []), (.str []), (.str []), (.sl [] (some 99)), (.sl [] (some 4)), (.bool false)], none⟩,
    ⟨some 9, .assign (.const (.sl [] (some 4))), none⟩,
    ⟨some 10, .assign (.const (.int .i64 (0))), none⟩])
   (.seq (.region false [⟨some 21, .load true 2 (.tmp 4) false, none⟩,
    ⟨some 22, .load true 3 (.tmp 5) false, none⟩,
    ⟨some 23, .move (.tmp 3) false, none⟩,
    ⟨some 24, .build [(.nils 26), (.nils 29), (.str []), (.str []), (.str []), (.nils 99), (.nils 4), (.bool false)] [(0, 2, (.tmp 21)), (2, 3, (.tmp 22)), (6, 1, (.tmp 23))], none⟩,
    ⟨some 11, .alloc [(.sl [] (some 26)), (.sl [] (some 29)), (.str []), (.str []), (.str []), (.sl [] (some 99)), (.sl [] (some 4)), (.bool false)], none⟩,
    ⟨none, .store 8 (.tmp 11) (.tmp 24), none⟩])
   (.seq (.region false [⟨some 12, .assign (.const (.sl [] (some 4))), none⟩])
   (.seq (.seq (.region false [⟨some 13, .assign (.const (.int .i64 (0))), none⟩])
   (.block 0 (.loop [12, 11, 2, 13, 10, 9, 8] l7_0)))
   (.seq (.region false [⟨some 44, .fieldAddr 5 (.tmp 11), none⟩,
    ⟨some 45, .load false 1 (.tmp 44) false, none⟩,
    ⟨some 46, .call 29 [(.tmp 45), (.const (.int .i64 (1))), (.const (.int .i64 (5)))], none⟩,
    ⟨some 15, .assign (.tmp 46), none⟩])
   (.seq (.seq (.region false [⟨some 47, .fieldAddr 7 (.tmp 11), none⟩,
    ⟨some 48, .load false 1 (.tmp 47) false, none⟩,
    ⟨some 49, .move (.tmp 48) false, none⟩,
    ⟨some 50, .move (.tmp 15) false, some (49, false)⟩,
    ⟨some 51, .len 0 (.tmp 50), some (49, false)⟩,
    ⟨some 52, .bin .gtr (.tmp 51) (.const (.int .i64 (12))), some (49, false)⟩,
    ⟨some 53, .pick (.tmp 49) (.const (.bool true)) (.tmp 52), none⟩])
   (.cond (.tmp 53) (.seq (.region false [⟨some 54, .build [(.nils 26), (.nils 29), (.str []), (.str []), (.str []), (.nils 99), (.nils 4), (.bool false)] [], none⟩,
    ⟨none, .store 8 (.tmp 8) (.tmp 54), none⟩,
    ⟨some 9, .assign (.const (.sl [] (some 4))), none⟩,
    ⟨some 10, .assign (.const (.int .i64 (52))), none⟩])
   .ret) .skip))
   (.seq (.seq (.region false [⟨some 16, .assign (.const (.int .i64 (1))), none⟩])
   (.block 2 (.loop [12, 11, 15, 16, 10, 9, 8] l7_2)))
   (.seq (.seq (.region false [⟨some 19, .assign (.const (.int .i64 (0))), none⟩])
   (.block 6 (.loop [12, 11, 15, 19, 10, 9, 8] l7_4)))
   (.seq (.seq (.region false [⟨some 116, .fieldAddr 5 (.tmp 11), none⟩,
    ⟨some 117, .load false 1 (.tmp 116) false, none⟩,
    ⟨some 118, .len 0 (.tmp 117), none⟩,
    ⟨some 119, .bin .gtr (.tmp 118) (.const (.int .i64 (500))), none⟩])
   (.cond (.tmp 119) (.seq (.region false [⟨some 120, .build [(.nils 26), (.nils 29), (.str []), (.str []), (.str []), (.nils 99), (.nils 4), (.bool false)] [], none⟩,
    ⟨none, .store 8 (.tmp 8) (.tmp 120), none⟩,
    ⟨some 9, .assign (.const (.sl [] (some 4))), none⟩,
    ⟨some 10, .assign (.const (.int .i64 (52))), none⟩])
   .ret) .skip))
   (.seq (.region false [⟨some 121, .load true 8 (.tmp 11) false, none⟩,
    ⟨some 122, .move (.tmp 12) false, none⟩,
    ⟨none, .store 8 (.tmp 8) (.tmp 121), none⟩,
    ⟨some 9, .assign (.tmp 122), none⟩,
    ⟨some 10, .assign (.const (.int .i64 (0))), none⟩])
   .ret))))))))))⟩


/-- 'chamberlain/chamberlainlaw22.envOf' -/
def m8 : MFunc :=
  ⟨1, 10, [.cell 2 true 3],
   (.seq (.region false [⟨some 1, .box (.tmp 0), none⟩,
    ⟨some 2, .alloc [(.str []), (.str []), (.str [])], none⟩])
   (.seq (.region false [⟨some 3, .fieldAddr 0 (.tmp 1), none⟩,
    ⟨some 4, .load false 1 (.tmp 3) false, none⟩,
    ⟨some 5, .fieldAddr 1 (.tmp 1), none⟩,
    ⟨some 6, .load false 1 (.tmp 5) false, none⟩,
    ⟨some 7, .fieldAddr 2 (.tmp 1), none⟩,
    ⟨some 8, .load false 1 (.tmp 7) false, none⟩,
    ⟨some 9, .build [(.str []), (.str []), (.str [])] [(0, 1, (.tmp 4)), (1, 1, (.tmp 6)), (2, 1, (.tmp 8))], none⟩,
    ⟨none, .store 3 (.tmp 2) (.tmp 9), none⟩])
   .ret))⟩

def l9_0 : MCode :=
   (.seq (.seq (.region false [⟨some 12, .move (.tmp 5) false, none⟩,
    ⟨some 13, .move (.tmp 0) false, none⟩,
    ⟨some 14, .len 0 (.tmp 13), none⟩,
    ⟨some 15, .bin .lss (.tmp 12) (.tmp 14), none⟩])
   (.cond (.tmp 15) .skip (.exit 0)))
   (.seq (.block 1 (.seq (.region false [⟨some 18, .move (.tmp 0) false, none⟩,
    ⟨some 19, .move (.tmp 5) false, none⟩,
    ⟨some 20, .indexAddr 7 (.tmp 18) (.tmp 19), none⟩,
    ⟨some 21, .fieldAddr 0 (.tmp 20), none⟩,
    ⟨some 22, .loadA 6 false 1 (.tmp 21), none⟩,
    ⟨some 23, .move (.tmp 0) false, none⟩,
    ⟨some 24, .move (.tmp 5) false, none⟩,
    ⟨some 25, .indexAddr 7 (.tmp 23) (.tmp 24), none⟩,
    ⟨some 26, .fieldAddr 1 (.tmp 25), none⟩,
    ⟨some 27, .loadA 6 true 2 (.tmp 26), none⟩,
    ⟨some 28, .move (.tmp 0) false, none⟩,
    ⟨some 29, .move (.tmp 5) false, none⟩,
    ⟨some 30, .indexAddr 7 (.tmp 28) (.tmp 29), none⟩,
    ⟨some 31, .fieldAddr 3 (.tmp 30), none⟩,
    ⟨some 32, .loadA 6 true 2 (.tmp 31), none⟩,
    ⟨some 33, .move (.tmp 0) false, none⟩,
    ⟨some 34, .move (.tmp 5) false, none⟩,
    ⟨some 35, .indexAddr 7 (.tmp 33) (.tmp 34), none⟩,
    ⟨some 36, .fieldAddr 5 (.tmp 35), none⟩,
    ⟨some 37, .loadA 6 false 1 (.tmp 36), none⟩,
    ⟨some 38, .move (.tmp 0) false, none⟩,
    ⟨some 39, .move (.tmp 5) false, none⟩,
    ⟨some 40, .indexAddr 7 (.tmp 38) (.tmp 39), none⟩,
    ⟨some 41, .fieldAddr 6 (.tmp 40), none⟩,
    ⟨some 42, .loadA 6 false 1 (.tmp 41), none⟩,
    ⟨some 43, .build [(.int .i64 (0)), (.str []), (.str []), (.str []), (.str []), (.str []), (.str [])] [(0, 1, (.tmp 22)), (1, 2, (.tmp 27)), (3, 2, (.tmp 32)), (5, 1, (.tmp 37)), (6, 1, (.tmp 42))], none⟩,
    ⟨some 6, .allocR [(.int .i64 (0)), (.str []), (.str []), (.str []), (.str []), (.str []), (.str [])], none⟩,
    ⟨none, .storeR 7 6 (.tmp 43), none⟩])
   (.seq (.region false [⟨some 44, .load true 7 (.tmp 6) false, none⟩,
    ⟨some 45, .move (.tmp 1) false, none⟩,
    ⟨some 46, .move (.tmp 5) false, none⟩,
    ⟨some 47, .indexAddr 7 (.tmp 45) (.tmp 46), none⟩,
    ⟨some 48, .load true 7 (.tmp 47) false, none⟩,
    ⟨some 49, .eqA 35791398 true (.tmp 44) (.tmp 48), none⟩])
   (.cond (.tmp 49) (.seq (.region false [⟨some 4, .assign (.const (.bool false)), none⟩])
   .ret) .skip))))
   (.region false [⟨some 16, .move (.tmp 5) false, none⟩,
    ⟨some 17, .bin .add (.tmp 16) (.const (.int .i64 (1))), none⟩,
    ⟨some 5, .assign (.tmp 17), none⟩])))

/-- 'chamberlain/chamberlainlaw22.same' -/
def m9 : MFunc :=
  ⟨2, 50, [.tmp 4],
   (.seq (.region false [⟨some 4, .assign (.const (.bool false)), none⟩])
   (.seq (.seq (.region false [⟨some 7, .move (.tmp 0) false, none⟩,
    ⟨some 8, .len 0 (.tmp 7), none⟩,
    ⟨some 9, .move (.tmp 1) false, none⟩,
    ⟨some 10, .len 0 (.tmp 9), none⟩,
    ⟨some 11, .bin .neq (.tmp 8) (.tmp 10), none⟩])
   (.cond (.tmp 11) (.seq (.region false [⟨some 4, .assign (.const (.bool false)), none⟩])
   .ret) .skip))
   (.seq (.seq (.region false [⟨some 5, .assign (.const (.int .i64 (0))), none⟩])
   (.block 0 (.loop [0, 1, 5, 4] l9_0)))
   (.seq (.region false [⟨some 4, .assign (.const (.bool true)), none⟩])
   .ret))))⟩


/-- 'chamberlain/logic.Eval' -/
def m10 : MFunc :=
  ⟨2, 59, [.tmp 4],
   (.seq (.region false [⟨some 2, .box (.tmp 0), none⟩,
    ⟨some 3, .box (.tmp 1), none⟩,
    ⟨some 4, .assign (.const (.bool false)), none⟩])
   (.seq (.region false [⟨some 6, .mkfunc 33 [(.tmp 3)], none⟩,
    ⟨some 5, .alloc [.nilf], none⟩,
    ⟨none, .store 1 (.tmp 5) (.tmp 6), none⟩])
   (.seq (.seq (.region false [⟨some 7, .fieldAddr 0 (.tmp 2), none⟩,
    ⟨some 8, .load false 1 (.tmp 7) false, none⟩])
   (.block 0 (.seq (.region false [⟨some 10, .bin .eql (.tmp 8) (.const (.int .i64 (1))), none⟩,
    ⟨some 9, .assign (.tmp 10), none⟩])
   (.cond (.tmp 9) (.seq (.region false [⟨some 4, .assign (.const (.bool true)), none⟩])
   .ret) (.seq (.region false [⟨some 12, .bin .eql (.tmp 8) (.const (.int .i64 (3))), none⟩,
    ⟨some 11, .assign (.tmp 12), none⟩])
   (.cond (.tmp 11) (.seq (.region false [⟨some 13, .fieldAddr 1 (.tmp 2), none⟩,
    ⟨some 14, .load false 1 (.tmp 13) false, none⟩,
    ⟨some 15, .bin .geq (.tmp 14) (.const (.int .i64 (1))), none⟩,
    ⟨some 16, .move (.tmp 15) false, none⟩,
    ⟨some 17, .fieldAddr 1 (.tmp 2), some (16, true)⟩,
    ⟨some 18, .load false 1 (.tmp 17) false, some (16, true)⟩,
    ⟨some 19, .load false 1 (.tmp 3) false, some (16, true)⟩,
    ⟨some 20, .len 0 (.tmp 19), some (16, true)⟩,
    ⟨some 21, .bin .leq (.tmp 18) (.tmp 20), some (16, true)⟩,
    ⟨some 22, .pick (.tmp 16) (.tmp 21) (.const (.bool false)), none⟩,
    ⟨some 23, .move (.tmp 22) false, none⟩,
    ⟨some 24, .load false 1 (.tmp 3) false, some (23, true)⟩,
    ⟨some 25, .fieldAddr 1 (.tmp 2), some (23, true)⟩,
    ⟨some 26, .load false 1 (.tmp 25) false, some (23, true)⟩,
    ⟨some 27, .bin .sub (.tmp 26) (.const (.int .i64 (1))), some (23, true)⟩,
    ⟨some 28, .indexAddr 1 (.tmp 24) (.tmp 27), some (23, true)⟩,
    ⟨some 29, .load false 1 (.tmp 28) false, some (23, true)⟩,
    ⟨some 30, .pick (.tmp 23) (.tmp 29) (.const (.bool false)), none⟩,
    ⟨some 4, .assign (.tmp 30), none⟩])
   .ret) (.seq (.region false [⟨some 32, .bin .eql (.tmp 8) (.const (.int .i64 (4))), none⟩,
    ⟨some 31, .assign (.tmp 32), none⟩])
   (.cond (.tmp 31) (.seq (.region false [⟨some 33, .fieldAddr 2 (.tmp 2), none⟩,
    ⟨some 34, .load false 1 (.tmp 33) false, none⟩,
    ⟨some 35, .len 0 (.tmp 34), none⟩,
    ⟨some 36, .bin .eql (.tmp 35) (.const (.int .i64 (1))), none⟩,
    ⟨some 37, .move (.tmp 36) false, none⟩,
    ⟨some 38, .load false 1 (.tmp 5) false, some (37, true)⟩,
    ⟨some 39, .fieldAddr 2 (.tmp 2), some (37, true)⟩,
    ⟨some 40, .load false 1 (.tmp 39) false, some (37, true)⟩,
    ⟨some 41, .indexAddr 3 (.tmp 40) (.const (.int .i64 (0))), some (37, true)⟩,
    ⟨some 42, .load true 3 (.tmp 41) false, some (37, true)⟩,
    ⟨some 43, .callv (.tmp 38) [(.tmp 42)], some (37, true)⟩,
    ⟨some 44, .un .not (.tmp 43), some (37, true)⟩,
    ⟨some 45, .pick (.tmp 37) (.tmp 44) (.const (.bool false)), none⟩,
    ⟨some 4, .assign (.tmp 45), none⟩])
   .ret) (.seq (.region false [⟨some 47, .bin .eql (.tmp 8) (.const (.int .i64 (5))), none⟩,
    ⟨some 46, .assign (.tmp 47), none⟩])
   (.cond (.tmp 46) (.seq (.region false [⟨some 48, .fieldAddr 2 (.tmp 2), none⟩,
    ⟨some 49, .load false 1 (.tmp 48) false, none⟩,
    ⟨some 50, .mkfunc 35 [(.tmp 5)], none⟩,
    ⟨some 51, .call 34 [(.tmp 49), (.tmp 50)], none⟩,
    ⟨some 52, .un .not (.tmp 51), none⟩,
    ⟨some 4, .assign (.tmp 52), none⟩])
   .ret) (.seq (.region false [⟨some 54, .bin .eql (.tmp 8) (.const (.int .i64 (6))), none⟩,
    ⟨some 53, .assign (.tmp 54), none⟩])
   (.cond (.tmp 53) (.seq (.region false [⟨some 55, .fieldAddr 2 (.tmp 2), none⟩,
    ⟨some 56, .load false 1 (.tmp 55) false, none⟩,
    ⟨some 57, .load false 1 (.tmp 5) false, none⟩,
    ⟨some 58, .call 34 [(.tmp 56), (.tmp 57)], none⟩,
    ⟨some 4, .assign (.tmp 58), none⟩])
   .ret) .skip))))))))))))
   (.seq (.region false [⟨some 4, .assign (.const (.bool false)), none⟩])
   .ret))))⟩

def o11_0 : List MOper :=
  [⟨some 37, .move (.tmp 10) false, none⟩,
    ⟨some 38, .fieldAddr 0 (.tmp 5), none⟩,
    ⟨some 39, .load false 1 (.tmp 38) false, none⟩,
    ⟨some 40, .call 37 [(.tmp 37), (.tmp 39)], none⟩,
    ⟨some 41, .move (.tmp 10) false, none⟩,
    ⟨some 42, .fieldAddr 2 (.tmp 5), none⟩,
    ⟨some 43, .load false 1 (.tmp 42) false, none⟩,
    ⟨some 44, .call 37 [(.tmp 41), (.tmp 43)], none⟩,
    ⟨some 45, .fieldAddr 0 (.tmp 11), none⟩,
    ⟨none, .store 2 (.tmp 45) (.tmp 40), none⟩,
    ⟨some 46, .fieldAddr 4 (.tmp 11), none⟩,
    ⟨none, .store 2 (.tmp 46) (.tmp 44), none⟩]

def o11_1 : List MOper :=
  [⟨some 37, .move (.tmp 10) false, none⟩,
    ⟨some 38, .fieldAddr 0 (.tmp 5), none⟩,
    ⟨some 39, .loadL false 1 (.tmp 38), none⟩,
    ⟨some 40, .callS 37 [(.tmp 37), (.tmp 39)], none⟩,
    ⟨some 41, .move (.tmp 10) false, none⟩,
    ⟨some 42, .fieldAddr 2 (.tmp 5), none⟩,
    ⟨some 43, .loadL false 1 (.tmp 42), none⟩,
    ⟨some 44, .callS 37 [(.tmp 41), (.tmp 43)], none⟩,
    ⟨some 45, .fieldAddr 0 (.tmp 11), none⟩,
    ⟨none, .store 2 (.tmp 45) (.tmp 40), none⟩,
    ⟨some 46, .fieldAddr 4 (.tmp 11), none⟩,
    ⟨none, .store 2 (.tmp 46) (.tmp 44), none⟩]

def o11_2 : List MOper :=
  [⟨some 62, .move (.tmp 14) false, none⟩,
    ⟨some 63, .fieldAddr 0 (.tmp 16), none⟩,
    ⟨some 64, .load false 1 (.tmp 63) false, none⟩,
    ⟨some 65, .fieldAddr 1 (.tmp 16), none⟩,
    ⟨some 66, .load true 4 (.tmp 65) false, none⟩,
    ⟨some 67, .call 39 [(.tmp 66)], none⟩,
    ⟨none, .mapUpdate 1 (.tmp 62) (.tmp 64) (.tmp 67), none⟩]

def o11_3 : List MOper :=
  [⟨some 62, .move (.tmp 14) false, none⟩,
    ⟨some 63, .fieldAddr 0 (.tmp 16), none⟩,
    ⟨some 64, .loadL false 1 (.tmp 63), none⟩,
    ⟨some 65, .fieldAddr 1 (.tmp 16), none⟩,
    ⟨some 66, .loadL true 4 (.tmp 65), none⟩,
    ⟨some 67, .callS 39 [(.tmp 66)], none⟩,
    ⟨none, .mapUpdate 1 (.tmp 62) (.tmp 64) (.tmp 67), none⟩]

def l11_4 : MCode :=
   (.seq (.region false [⟨some 59, .bin .lss (.tmp 58) (.tmp 57), none⟩])
   (.seq (.cond (.tmp 59) .skip (.exit 0))
   (.seq (.block 1 (.seq (.region false [⟨some 60, .indexAddr 6 (.tmp 56) (.tmp 58), none⟩,
    ⟨some 61, .load true 6 (.tmp 60) false, none⟩,
    ⟨some 16, .alloc [(.str []), (.int .i64 (0)), (.str []), (.sl [] (some 113)), (.sl [] (some 115)), (.bool false)], none⟩,
    ⟨none, .store 6 (.tmp 16) (.tmp 61), none⟩])
   (.seq (.regionQ [(false, o11_3), (true, o11_2)] o11_2 [[], [], [1], [], [3], [4], [0, 2, 5, 5, 0, 1, 2, 3, 4, 5]])
   (.seq (.region false [⟨some 68, .fieldAddr 1 (.tmp 16), none⟩,
    ⟨some 69, .fieldAddr 0 (.tmp 68), none⟩,
    ⟨some 70, .load false 1 (.tmp 69) false, none⟩,
    ⟨some 71, .bin .eql (.tmp 70) (.const (.int .i64 (5))), none⟩])
   (.cond (.tmp 71) (.region false [⟨some 72, .move (.tmp 14) false, none⟩,
    ⟨some 73, .fieldAddr 0 (.tmp 16), none⟩,
    ⟨some 74, .load false 1 (.tmp 73) false, none⟩,
    ⟨some 75, .move (.tmp 10) false, none⟩,
    ⟨some 76, .nilCheck (.tmp 75), none⟩,
    ⟨some 77, .fieldAddr 3 (.tmp 76), none⟩,
    ⟨some 78, .load false 1 (.tmp 77) false, none⟩,
    ⟨some 79, .build [(.int .i64 (0)), (.bool false), (.int .i64 (0)), (.str []), (.str []), (.str []), (.nils 69), (.nils 9)] [(0, 1, (.const (.int .i64 (3)))), (3, 1, (.tmp 78))], none⟩,
    ⟨none, .mapUpdate 1 (.tmp 72) (.tmp 74) (.tmp 79), none⟩]) .skip)))))
   (.region false [⟨some 80, .bin .add (.tmp 58) (.const (.int .i64 (1))), none⟩,
    ⟨some 58, .move (.tmp 80) false, none⟩]))))

def o11_5 : List MOper :=
  [⟨some 93, .move (.tmp 14) false, none⟩,
    ⟨some 94, .fieldAddr 5 (.tmp 19), none⟩,
    ⟨some 95, .load false 1 (.tmp 94) false, none⟩,
    ⟨some 96, .move (.tmp 17) false, none⟩,
    ⟨some 97, .move (.tmp 18) false, none⟩,
    ⟨some 98, .callv (.tmp 96) [(.tmp 97)], none⟩,
    ⟨some 99, .build [(.int .i64 (0)), (.bool false), (.int .i64 (0)), (.str []), (.str []), (.str []), (.nils 69), (.nils 9)] [(0, 1, (.const (.int .i64 (1)))), (1, 1, (.tmp 98))], none⟩,
    ⟨none, .mapUpdate 1 (.tmp 93) (.tmp 95) (.tmp 99), none⟩]

def l11_6 : MCode :=
   (.seq (.region false [⟨some 85, .bin .lss (.tmp 84) (.tmp 83), none⟩])
   (.seq (.cond (.tmp 85) .skip (.exit 2))
   (.seq (.block 3 (.seq (.region false [⟨some 86, .move (.tmp 84) false, none⟩,
    ⟨some 87, .indexAddr 7 (.tmp 82) (.tmp 84), none⟩,
    ⟨some 88, .load true 7 (.tmp 87) false, none⟩,
    ⟨some 19, .alloc [(.int .i64 (0)), (.str []), (.str []), (.str []), (.str []), (.str []), (.str [])], none⟩,
    ⟨some 18, .assign (.tmp 86), none⟩,
    ⟨none, .store 7 (.tmp 19) (.tmp 88), none⟩])
   (.block 4 (.seq (.region false [⟨some 90, .fieldAddr 0 (.tmp 19), none⟩,
    ⟨some 91, .load false 1 (.tmp 90) false, none⟩,
    ⟨some 92, .bin .eql (.tmp 91) (.const (.int .i64 (6))), none⟩,
    ⟨some 89, .assign (.tmp 92), none⟩])
   (.cond (.tmp 89) (.regionQ [(true, o11_5)] o11_5 [[], [], [1], [], [], [3, 4], [5], [0, 2, 6, 5, 0, 1, 2, 3, 4, 5, 6]]) (.seq (.region false [⟨some 101, .move (.tmp 17) false, none⟩,
    ⟨some 102, .move (.tmp 18) false, none⟩,
    ⟨some 103, .callv (.tmp 101) [(.tmp 102)], none⟩,
    ⟨some 104, .un .not (.tmp 103), none⟩,
    ⟨some 100, .assign (.tmp 104), none⟩])
   (.cond (.tmp 100) .skip (.seq (.region false [⟨some 106, .fieldAddr 0 (.tmp 19), none⟩,
    ⟨some 107, .load false 1 (.tmp 106) false, none⟩,
    ⟨some 108, .bin .eql (.tmp 107) (.const (.int .i64 (1))), none⟩,
    ⟨some 105, .assign (.tmp 108), none⟩])
   (.cond (.tmp 105) (.region false [⟨some 109, .fieldAddr 1 (.tmp 19), none⟩,
    ⟨some 110, .load true 2 (.tmp 109) false, none⟩,
    ⟨some 111, .fieldAddr 0 (.tmp 11), none⟩,
    ⟨none, .store 2 (.tmp 111) (.tmp 110), none⟩]) (.seq (.region false [⟨some 113, .fieldAddr 0 (.tmp 19), none⟩,
    ⟨some 114, .load false 1 (.tmp 113) false, none⟩,
    ⟨some 115, .bin .eql (.tmp 114) (.const (.int .i64 (3))), none⟩,
    ⟨some 112, .assign (.tmp 115), none⟩])
   (.cond (.tmp 112) (.region false [⟨some 116, .fieldAddr 1 (.tmp 19), none⟩,
    ⟨some 117, .load true 2 (.tmp 116) false, none⟩,
    ⟨some 118, .fieldAddr 4 (.tmp 11), none⟩,
    ⟨none, .store 2 (.tmp 118) (.tmp 117), none⟩]) (.seq (.region false [⟨some 120, .fieldAddr 0 (.tmp 19), none⟩,
    ⟨some 121, .load false 1 (.tmp 120) false, none⟩,
    ⟨some 122, .bin .eql (.tmp 121) (.const (.int .i64 (7))), none⟩,
    ⟨some 119, .assign (.tmp 122), none⟩])
   (.cond (.tmp 119) (.region false [⟨some 123, .move (.tmp 14) false, none⟩,
    ⟨some 124, .fieldAddr 5 (.tmp 19), none⟩,
    ⟨some 125, .load false 1 (.tmp 124) false, none⟩,
    ⟨some 126, .fieldAddr 6 (.tmp 19), none⟩,
    ⟨some 127, .load false 1 (.tmp 126) false, none⟩,
    ⟨some 128, .build [(.int .i64 (0)), (.bool false), (.int .i64 (0)), (.str []), (.str []), (.str []), (.nils 69), (.nils 9)] [(0, 1, (.const (.int .i64 (3)))), (3, 1, (.tmp 127))], none⟩,
    ⟨none, .mapUpdate 1 (.tmp 123) (.tmp 125) (.tmp 128), none⟩]) .skip)))))))))))))
   (.region false [⟨some 129, .bin .add (.tmp 84) (.const (.int .i64 (1))), none⟩,
    ⟨some 84, .move (.tmp 129) false, none⟩]))))

def l11_7 : MCode :=
   (.seq (.region false [⟨some 141, .bin .lss (.tmp 140) (.tmp 139), none⟩])
   (.seq (.cond (.tmp 141) .skip (.exit 5))
   (.seq (.block 6 (.seq (.region false [⟨some 142, .move (.tmp 140) false, none⟩,
    ⟨some 143, .indexAddr 7 (.tmp 138) (.tmp 140), none⟩,
    ⟨some 144, .load true 7 (.tmp 143) false, none⟩,
    ⟨some 21, .alloc [(.int .i64 (0)), (.str []), (.str []), (.str []), (.str []), (.str []), (.str [])], none⟩,
    ⟨some 20, .assign (.tmp 142), none⟩,
    ⟨none, .store 7 (.tmp 21) (.tmp 144), none⟩])
   (.block 7 (.seq (.region false [⟨some 146, .move (.tmp 17) false, none⟩,
    ⟨some 147, .move (.tmp 20) false, none⟩,
    ⟨some 148, .callv (.tmp 146) [(.tmp 147)], none⟩,
    ⟨some 149, .un .not (.tmp 148), none⟩,
    ⟨some 145, .assign (.tmp 149), none⟩])
   (.cond (.tmp 145) .skip (.seq (.region false [⟨some 151, .fieldAddr 0 (.tmp 21), none⟩,
    ⟨some 152, .load false 1 (.tmp 151) false, none⟩,
    ⟨some 153, .bin .eql (.tmp 152) (.const (.int .i64 (5))), none⟩,
    ⟨some 150, .assign (.tmp 153), none⟩])
   (.cond (.tmp 150) (.region false [⟨some 154, .move (.tmp 10) false, none⟩,
    ⟨some 155, .fieldAddr 1 (.tmp 21), none⟩,
    ⟨some 156, .load true 2 (.tmp 155) false, none⟩,
    ⟨some 157, .fieldAddr 3 (.tmp 21), none⟩,
    ⟨some 158, .load true 2 (.tmp 157) false, none⟩,
    ⟨some 159, .call 42 [(.tmp 154), (.tmp 156), (.tmp 158)], none⟩]) (.seq (.region false [⟨some 161, .fieldAddr 0 (.tmp 21), none⟩,
    ⟨some 162, .load false 1 (.tmp 161) false, none⟩,
    ⟨some 163, .bin .eql (.tmp 162) (.const (.int .i64 (2))), none⟩,
    ⟨some 164, .move (.tmp 163) false, none⟩,
    ⟨some 165, .fieldAddr 0 (.tmp 11), some (164, true)⟩,
    ⟨some 166, .load true 2 (.tmp 165) false, some (164, true)⟩,
    ⟨some 167, .fieldAddr 1 (.tmp 21), some (164, true)⟩,
    ⟨some 168, .load true 2 (.tmp 167) false, some (164, true)⟩,
    ⟨some 169, .eqA 34 true (.tmp 166) (.tmp 168), some (164, true)⟩,
    ⟨some 170, .pick (.tmp 164) (.tmp 169) (.const (.bool false)), none⟩,
    ⟨some 160, .assign (.tmp 170), none⟩])
   (.cond (.tmp 160) (.region false [⟨some 171, .move (.tmp 10) false, none⟩,
    ⟨some 172, .fieldAddr 0 (.tmp 11), none⟩,
    ⟨some 173, .load true 2 (.tmp 172) false, none⟩,
    ⟨some 174, .fieldAddr 1 (.tmp 21), none⟩,
    ⟨some 175, .load true 2 (.tmp 174) false, none⟩,
    ⟨some 176, .call 42 [(.tmp 171), (.tmp 173), (.tmp 175)], none⟩]) (.seq (.region false [⟨some 178, .fieldAddr 0 (.tmp 21), none⟩,
    ⟨some 179, .load false 1 (.tmp 178) false, none⟩,
    ⟨some 180, .bin .eql (.tmp 179) (.const (.int .i64 (4))), none⟩,
    ⟨some 181, .move (.tmp 180) false, none⟩,
    ⟨some 182, .fieldAddr 4 (.tmp 11), some (181, true)⟩,
    ⟨some 183, .load true 2 (.tmp 182) false, some (181, true)⟩,
    ⟨some 184, .fieldAddr 1 (.tmp 21), some (181, true)⟩,
    ⟨some 185, .load true 2 (.tmp 184) false, some (181, true)⟩,
    ⟨some 186, .eqA 34 true (.tmp 183) (.tmp 185), some (181, true)⟩,
    ⟨some 187, .pick (.tmp 181) (.tmp 186) (.const (.bool false)), none⟩,
    ⟨some 177, .assign (.tmp 187), none⟩])
   (.cond (.tmp 177) (.region false [⟨some 188, .move (.tmp 10) false, none⟩,
    ⟨some 189, .fieldAddr 4 (.tmp 11), none⟩,
    ⟨some 190, .load true 2 (.tmp 189) false, none⟩,
    ⟨some 191, .fieldAddr 1 (.tmp 21), none⟩,
    ⟨some 192, .load true 2 (.tmp 191) false, none⟩,
    ⟨some 193, .call 42 [(.tmp 188), (.tmp 190), (.tmp 192)], none⟩]) .skip)))))))))))
   (.region false [⟨some 194, .bin .add (.tmp 140) (.const (.int .i64 (1))), none⟩,
    ⟨some 140, .move (.tmp 194) false, none⟩]))))

def l11_8 : MCode :=
   (.seq (.region false [⟨some 201, .bin .lss (.tmp 200) (.tmp 199), none⟩])
   (.seq (.cond (.tmp 201) .skip (.exit 8))
   (.seq (.block 9 (.seq (.region false [⟨some 202, .indexAddr 6 (.tmp 198) (.tmp 200), none⟩,
    ⟨some 203, .load true 6 (.tmp 202) false, none⟩,
    ⟨some 23, .alloc [(.str []), (.int .i64 (0)), (.str []), (.sl [] (some 113)), (.sl [] (some 115)), (.bool false)], none⟩,
    ⟨none, .store 6 (.tmp 23) (.tmp 203), none⟩])
   (.seq (.region false [⟨some 204, .fieldAddr 5 (.tmp 23), none⟩,
    ⟨some 205, .load false 1 (.tmp 204) false, none⟩,
    ⟨some 206, .un .not (.tmp 205), none⟩])
   (.cond (.tmp 206) (.regionA [⟨some 207, .fieldAddr 6 (.tmp 11), none⟩,
    ⟨some 208, .fieldAddr 7 (.tmp 207), none⟩,
    ⟨some 209, .load false 1 (.tmp 208) true, none⟩,
    ⟨some 210, .fieldAddr 0 (.tmp 23), none⟩,
    ⟨some 211, .load false 1 (.tmp 210) false, none⟩,
    ⟨some 212, .buildSlice 9 1 1 [(.str [])] [(0, (.tmp 211))], none⟩,
    ⟨some 213, .append 9 1 16 false (.tmp 209) (.tmp 212), none⟩,
    ⟨some 214, .fieldAddr 6 (.tmp 11), none⟩,
    ⟨some 215, .fieldAddr 6 (.tmp 214), none⟩,
    ⟨some 216, .load false 1 (.tmp 215) true, none⟩,
    ⟨some 217, .move (.tmp 14) false, none⟩,
    ⟨some 218, .fieldAddr 0 (.tmp 23), none⟩,
    ⟨some 219, .load false 1 (.tmp 218) false, none⟩,
    ⟨some 220, .lookup 1 true [(.int .i64 (0)), (.bool false), (.int .i64 (0)), (.str []), (.str []), (.str []), (.sl [] (some 69)), (.sl [] (some 9))] (.tmp 217) (.tmp 219) false, none⟩,
    ⟨some 221, .buildSlice 69 8 1 [(.int .i64 (0)), (.bool false), (.int .i64 (0)), (.str []), (.str []), (.str []), (.sl [] (some 69)), (.sl [] (some 9))] [(0, (.tmp 220))], none⟩,
    ⟨some 222, .append 69 8 120 false (.tmp 216) (.tmp 221), none⟩,
    ⟨some 223, .fieldAddr 6 (.tmp 11), none⟩,
    ⟨some 224, .fieldAddr 7 (.tmp 223), none⟩,
    ⟨none, .store 1 (.tmp 224) (.tmp 213), none⟩,
    ⟨some 225, .fieldAddr 6 (.tmp 11), none⟩,
    ⟨some 226, .fieldAddr 6 (.tmp 225), none⟩,
    ⟨none, .store 1 (.tmp 226) (.tmp 222), none⟩] [[], [0], [1], [], [3], [4], [2, 5], [], [7], [8], [], [], [11], [10, 12], [13], [9, 14, 6], [0, 1, 2, 3, 4, 5, 6, 7, 8, 9], [16, 0, 1, 2, 3, 4, 5, 6, 7, 8, 9], [17, 6, 15, 0, 1, 2, 3, 4, 5, 6, 7, 8, 9], [0, 1, 2, 3, 4, 5, 6, 7, 8, 9, 10, 11, 12, 13, 14, 15, 16, 17, 18], [19, 0, 1, 2, 3, 4, 5, 6, 7, 8, 9, 10, 11, 12, 13, 14, 15, 16, 17, 18], [20, 15, 18, 0, 1, 2, 3, 4, 5, 6, 7, 8, 9, 10, 11, 12, 13, 14, 15, 16, 17, 18]]) .skip))))
   (.region false [⟨some 227, .bin .add (.tmp 200) (.const (.int .i64 (1))), none⟩,
    ⟨some 200, .move (.tmp 227) false, none⟩]))))

def l11_9 : MCode :=
   (.region false [⟨some 239, .move (.tmp 24) true, none⟩,
    ⟨some 240, .move (.tmp 26) false, none⟩,
    ⟨some 241, .nilCheck (.tmp 240), none⟩,
    ⟨some 242, .load true 11 (.tmp 241) false, none⟩,
    ⟨some 243, .buildSlice 123 11 1 [(.str []), (.str []), (.sl [] (some 37)), (.int .i64 (0)), (.bool false), (.int .i64 (0)), (.str []), (.str []), (.str []), (.sl [] (some 69)), (.sl [] (some 9))] [(0, (.tmp 242))], none⟩,
    ⟨some 244, .append 123 11 176 true (.tmp 239) (.tmp 243), none⟩,
    ⟨some 24, .assign (.tmp 244), none⟩])

/-- 'chamberlain/theory.Model' -/
def m11 : MFunc :=
  ⟨4, 249, [.cell 8 true 14, .tmp 9],
   (.seq (.region false [⟨some 4, .box (.tmp 0), none⟩,
    ⟨some 5, .box (.tmp 1), none⟩,
    ⟨some 7, .box (.tmp 3), none⟩,
    ⟨some 8, .alloc [(.str []), (.str []), (.str []), (.str []), (.str []), (.str []), (.int .i64 (0)), (.bool false), (.int .i64 (0)), (.str []), (.str []), (.str []), (.sl [] (some 69)), (.sl [] (some 9))], none⟩,
    ⟨some 9, .assign (.const (.sl [] (some 123))), none⟩])
   (.seq (.regionA [⟨some 27, .load true 2 (.tmp 4) false, none⟩,
    ⟨some 28, .mkmap, none⟩,
    ⟨some 29, .move (.tmp 2) false, none⟩,
    ⟨some 30, .call 36 [(.tmp 29)], none⟩,
    ⟨some 31, .build [(.nils 26), (.nils 29), .nilm, (.str []), (.int .i64 (0))] [(0, 2, (.tmp 27)), (2, 1, (.tmp 28)), (3, 1, (.tmp 30))], none⟩,
    ⟨some 32, .box (.tmp 31), none⟩,
    ⟨some 10, .assign (.tmp 32), none⟩] [[], [], [], [2], [0, 1, 3], [4], [5, 3, 0, 1, 2, 3, 4, 5]])
   (.seq (.region false [⟨some 33, .fieldAddr 1 (.tmp 5), none⟩,
    ⟨some 34, .load false 1 (.tmp 33) false, none⟩,
    ⟨some 35, .build [(.str []), (.str [])] [(0, 1, (.const (.str [65, 99, 116, 105, 111, 110]))), (1, 1, (.tmp 34))], none⟩,
    ⟨some 36, .build [(.str []), (.str []), (.str []), (.str []), (.str []), (.str []), (.int .i64 (0)), (.bool false), (.int .i64 (0)), (.str []), (.str []), (.str []), (.nils 69), (.nils 9)] [(2, 2, (.tmp 35))], none⟩,
    ⟨some 11, .alloc [(.str []), (.str []), (.str []), (.str []), (.str []), (.str []), (.int .i64 (0)), (.bool false), (.int .i64 (0)), (.str []), (.str []), (.str []), (.sl [] (some 69)), (.sl [] (some 9))], none⟩,
    ⟨none, .store 14 (.tmp 11) (.tmp 36), none⟩])
   (.seq (.regionQ [(false, o11_1), (true, o11_0)] o11_0 [[], [], [1], [0, 2], [], [], [5], [4, 6, 3], [0, 1, 2, 3], [8, 3, 7, 0, 1, 2, 3], [0, 1, 2, 3, 4, 5, 6, 7, 8, 9], [10, 7, 9, 0, 1, 2, 3, 4, 5, 6, 7, 8, 9]])
   (.seq (.region false [⟨some 48, .load true 2 (.tmp 4) false, none⟩,
    ⟨some 49, .fieldAddr 1 (.tmp 5), none⟩,
    ⟨some 50, .load false 1 (.tmp 49) false, none⟩,
    ⟨some 51, .call 38 [(.tmp 48), (.tmp 50)], none⟩,
    ⟨some 47, .move (.tmp 51) false, none⟩,
    ⟨some 52, .extract (.tmp 47) 0, none⟩,
    ⟨some 53, .extract (.tmp 47) 1, none⟩,
    ⟨some 12, .alloc [(.str []), (.sl [] (some 9)), (.sl [] (some 9)), (.sl [] (some 9)), (.sl [] (some 115))], none⟩,
    ⟨none, .store 5 (.tmp 12) (.tmp 52), none⟩,
    ⟨some 13, .assign (.tmp 53), none⟩])
   (.seq (.region false [⟨some 54, .mkmap, none⟩,
    ⟨some 14, .assign (.tmp 54), none⟩])
   (.seq (.seq (.region false [⟨some 55, .fieldAddr 4 (.tmp 12), none⟩,
    ⟨some 56, .load false 1 (.tmp 55) false, none⟩,
    ⟨some 57, .len 0 (.tmp 56), none⟩,
    ⟨some 58, .move (.const (.int .i64 (0))) false, none⟩])
   (.block 0 (.loop [11, 10, 4, 14, 12, 2, 7, 56, 58, 57, 9, 8, 32] l11_4)))
   (.seq (.region false [⟨some 81, .mkfunc 40 [(.tmp 7)], none⟩,
    ⟨some 17, .assign (.tmp 81), none⟩])
   (.seq (.seq (.region false [⟨some 82, .move (.tmp 2) false, none⟩,
    ⟨some 83, .len 0 (.tmp 82), none⟩,
    ⟨some 84, .move (.const (.int .i64 (0))) false, none⟩])
   (.block 2 (.loop [11, 10, 4, 14, 12, 17, 2, 82, 84, 83, 9, 8, 32] l11_6)))
   (.seq (.region false [⟨some 130, .move (.tmp 10) false, none⟩,
    ⟨some 131, .fieldAddr 0 (.tmp 11), none⟩,
    ⟨some 132, .load true 2 (.tmp 131) false, none⟩,
    ⟨some 133, .call 41 [(.tmp 130), (.tmp 132)], none⟩])
   (.seq (.region false [⟨some 134, .move (.tmp 10) false, none⟩,
    ⟨some 135, .fieldAddr 4 (.tmp 11), none⟩,
    ⟨some 136, .load true 2 (.tmp 135) false, none⟩,
    ⟨some 137, .call 41 [(.tmp 134), (.tmp 136)], none⟩])
   (.seq (.seq (.region false [⟨some 138, .move (.tmp 2) false, none⟩,
    ⟨some 139, .len 0 (.tmp 138), none⟩,
    ⟨some 140, .move (.const (.int .i64 (0))) false, none⟩])
   (.block 5 (.loop [11, 10, 4, 14, 12, 138, 17, 140, 139, 9, 8, 32] l11_7)))
   (.seq (.region false [⟨some 195, .build [(.int .i64 (0)), (.bool false), (.int .i64 (0)), (.str []), (.str []), (.str []), (.nils 69), (.nils 9)] [(0, 1, (.const (.int .i64 (6))))], none⟩,
    ⟨some 196, .fieldAddr 6 (.tmp 11), none⟩,
    ⟨none, .store 8 (.tmp 196) (.tmp 195), none⟩])
   (.seq (.seq (.region false [⟨some 197, .fieldAddr 4 (.tmp 12), none⟩,
    ⟨some 198, .load false 1 (.tmp 197) false, none⟩,
    ⟨some 199, .len 0 (.tmp 198), none⟩,
    ⟨some 200, .move (.const (.int .i64 (0))) false, none⟩])
   (.block 8 (.loop [11, 10, 4, 198, 14, 200, 199, 9, 8, 32] l11_8)))
   (.seq (.region false [⟨some 228, .load true 2 (.tmp 4) false, none⟩,
    ⟨some 229, .callM 43 [(.tmp 228)], none⟩,
    ⟨some 24, .assign (.tmp 229), none⟩])
   (.rangeM ⟨[24, 11, 234, 9, 8, 32], [8, 9], [⟨some 230, .move (.tmp 10) false, none⟩,
    ⟨some 231, .nilCheck (.tmp 230), none⟩,
    ⟨some 232, .fieldAddr 2 (.tmp 231), none⟩,
    ⟨some 233, .load false 1 (.tmp 232) false, none⟩], (.tmp 233), 234, 235, 236, 237, ⟨some 236, .extract (.tmp 235) 0, none⟩, [⟨some 238, .extract (.tmp 237) 1, none⟩,
    ⟨some 26, .assign (.tmp 238), none⟩], 10, 11⟩ l11_9
   (.seq (.region false [⟨some 245, .move (.tmp 24) false, none⟩,
    ⟨some 246, .call 44 [(.tmp 245), (.const (.func 45 []))], none⟩])
   (.seq (.region false [⟨some 247, .load true 14 (.tmp 11) false, none⟩,
    ⟨some 248, .move (.tmp 24) false, none⟩,
    ⟨none, .store 14 (.tmp 8) (.tmp 247), none⟩,
    ⟨some 9, .assign (.tmp 248), none⟩])
   .ret))))))))))))))))))⟩

def l12_0 : MCode :=
   (.seq (.region false [⟨some 23, .bin .lss (.tmp 22) (.tmp 21), none⟩])
   (.seq (.cond (.tmp 23) .skip (.exit 0))
   (.seq (.block 1 (.seq (.region false [⟨some 24, .indexAddr 7 (.tmp 20) (.tmp 22), none⟩,
    ⟨some 25, .load true 7 (.tmp 24) false, none⟩,
    ⟨some 11, .alloc [(.int .i64 (0)), (.str []), (.str []), (.str []), (.str []), (.str []), (.str [])], none⟩,
    ⟨none, .store 7 (.tmp 11) (.tmp 25), none⟩])
   (.seq (.region false [⟨some 12, .assign (.const (.bool false)), none⟩])
   (.seq (.seq (.region false [⟨some 27, .fieldAddr 6 (.tmp 4), none⟩,
    ⟨some 28, .load true 8 (.tmp 27) false, none⟩,
    ⟨some 29, .fieldAddr 5 (.tmp 11), none⟩,
    ⟨some 30, .load false 1 (.tmp 29) false, none⟩,
    ⟨some 31, .call 48 [(.tmp 28), (.tmp 30)], none⟩,
    ⟨some 26, .move (.tmp 31) false, none⟩,
    ⟨some 32, .extract (.tmp 26) 0, none⟩,
    ⟨some 33, .extract (.tmp 26) 1, none⟩,
    ⟨some 13, .alloc [(.int .i64 (0)), (.bool false), (.int .i64 (0)), (.str []), (.str []), (.str []), (.sl [] (some 69)), (.sl [] (some 9))], none⟩,
    ⟨none, .store 8 (.tmp 13) (.tmp 32), none⟩,
    ⟨some 14, .assign (.tmp 33), none⟩])
   (.seq (.region false [⟨some 34, .fieldAddr 0 (.tmp 11), none⟩,
    ⟨some 35, .load false 1 (.tmp 34) false, none⟩])
   (.block 2 (.seq (.region false [⟨some 37, .bin .eql (.tmp 35) (.const (.int .i64 (1))), none⟩,
    ⟨some 36, .assign (.tmp 37), none⟩])
   (.cond (.tmp 36) (.region false [⟨some 38, .fieldAddr 0 (.tmp 4), none⟩,
    ⟨some 39, .load true 2 (.tmp 38) false, none⟩,
    ⟨some 40, .fieldAddr 1 (.tmp 11), none⟩,
    ⟨some 41, .load true 2 (.tmp 40) false, none⟩,
    ⟨some 42, .eqA 34 false (.tmp 39) (.tmp 41), none⟩,
    ⟨some 12, .assign (.tmp 42), none⟩]) (.seq (.region false [⟨some 44, .bin .eql (.tmp 35) (.const (.int .i64 (2))), none⟩,
    ⟨some 43, .assign (.tmp 44), none⟩])
   (.cond (.tmp 43) (.region false [⟨some 45, .move (.tmp 7) false, none⟩,
    ⟨some 46, .fieldAddr 0 (.tmp 4), none⟩,
    ⟨some 47, .load true 2 (.tmp 46) false, none⟩,
    ⟨some 48, .fieldAddr 1 (.tmp 11), none⟩,
    ⟨some 49, .load true 2 (.tmp 48) false, none⟩,
    ⟨some 50, .call 49 [(.tmp 45), (.tmp 47), (.tmp 49)], none⟩,
    ⟨some 12, .assign (.tmp 50), none⟩]) (.seq (.region false [⟨some 52, .bin .eql (.tmp 35) (.const (.int .i64 (3))), none⟩,
    ⟨some 51, .assign (.tmp 52), none⟩])
   (.cond (.tmp 51) (.region false [⟨some 53, .fieldAddr 4 (.tmp 4), none⟩,
    ⟨some 54, .load true 2 (.tmp 53) false, none⟩,
    ⟨some 55, .fieldAddr 1 (.tmp 11), none⟩,
    ⟨some 56, .load true 2 (.tmp 55) false, none⟩,
    ⟨some 57, .eqA 34 false (.tmp 54) (.tmp 56), none⟩,
    ⟨some 12, .assign (.tmp 57), none⟩]) (.seq (.region false [⟨some 59, .bin .eql (.tmp 35) (.const (.int .i64 (4))), none⟩,
    ⟨some 58, .assign (.tmp 59), none⟩])
   (.cond (.tmp 58) (.region false [⟨some 60, .move (.tmp 7) false, none⟩,
    ⟨some 61, .fieldAddr 4 (.tmp 4), none⟩,
    ⟨some 62, .load true 2 (.tmp 61) false, none⟩,
    ⟨some 63, .fieldAddr 1 (.tmp 11), none⟩,
    ⟨some 64, .load true 2 (.tmp 63) false, none⟩,
    ⟨some 65, .call 49 [(.tmp 60), (.tmp 62), (.tmp 64)], none⟩,
    ⟨some 12, .assign (.tmp 65), none⟩]) (.seq (.region false [⟨some 67, .bin .eql (.tmp 35) (.const (.int .i64 (5))), none⟩,
    ⟨some 66, .assign (.tmp 67), none⟩])
   (.cond (.tmp 66) (.region false [⟨some 68, .move (.tmp 7) false, none⟩,
    ⟨some 69, .fieldAddr 1 (.tmp 11), none⟩,
    ⟨some 70, .load true 2 (.tmp 69) false, none⟩,
    ⟨some 71, .fieldAddr 3 (.tmp 11), none⟩,
    ⟨some 72, .load true 2 (.tmp 71) false, none⟩,
    ⟨some 73, .call 49 [(.tmp 68), (.tmp 70), (.tmp 72)], none⟩,
    ⟨some 12, .assign (.tmp 73), none⟩]) (.seq (.region false [⟨some 75, .bin .eql (.tmp 35) (.const (.int .i64 (6))), none⟩,
    ⟨some 74, .assign (.tmp 75), none⟩])
   (.cond (.tmp 74) (.region false [⟨some 76, .fieldAddr 0 (.tmp 13), none⟩,
    ⟨some 77, .load false 1 (.tmp 76) false, none⟩,
    ⟨some 78, .bin .eql (.tmp 77) (.const (.int .i64 (1))), none⟩,
    ⟨some 79, .move (.tmp 78) false, none⟩,
    ⟨some 80, .fieldAddr 1 (.tmp 13), some (79, true)⟩,
    ⟨some 81, .load false 1 (.tmp 80) false, some (79, true)⟩,
    ⟨some 82, .pick (.tmp 79) (.tmp 81) (.const (.bool false)), none⟩,
    ⟨some 12, .assign (.tmp 82), none⟩]) (.seq (.region false [⟨some 84, .bin .eql (.tmp 35) (.const (.int .i64 (7))), none⟩,
    ⟨some 83, .assign (.tmp 84), none⟩])
   (.cond (.tmp 83) (.region false [⟨some 85, .fieldAddr 0 (.tmp 13), none⟩,
    ⟨some 86, .load false 1 (.tmp 85) false, none⟩,
    ⟨some 87, .bin .eql (.tmp 86) (.const (.int .i64 (3))), none⟩,
    ⟨some 88, .move (.tmp 87) false, none⟩,
    ⟨some 89, .fieldAddr 3 (.tmp 13), some (88, true)⟩,
    ⟨some 90, .load false 1 (.tmp 89) false, some (88, true)⟩,
    ⟨some 91, .fieldAddr 6 (.tmp 11), some (88, true)⟩,
    ⟨some 92, .load false 1 (.tmp 91) false, some (88, true)⟩,
    ⟨some 93, .bin .eql (.tmp 90) (.tmp 92), some (88, true)⟩,
    ⟨some 94, .pick (.tmp 88) (.tmp 93) (.const (.bool false)), none⟩,
    ⟨some 12, .assign (.tmp 94), none⟩]) .skip)))))))))))))))))
   (.region false [⟨some 95, .move (.tmp 9) true, none⟩,
    ⟨some 96, .move (.tmp 12) false, none⟩,
    ⟨some 97, .buildSlice 4 1 1 [(.bool false)] [(0, (.tmp 96))], none⟩,
    ⟨some 98, .append 4 1 1 false (.tmp 95) (.tmp 97), none⟩,
    ⟨some 9, .assign (.tmp 98), none⟩])))))
   (.region false [⟨some 99, .bin .add (.tmp 22) (.const (.int .i64 (1))), none⟩,
    ⟨some 22, .move (.tmp 99) false, none⟩]))))

/-- 'chamberlain/theory.Truths' -/
def m12 : MFunc :=
  ⟨3, 101, [.tmp 6],
   (.seq (.region false [⟨some 4, .box (.tmp 1), none⟩,
    ⟨some 6, .assign (.const (.sl [] (some 4))), none⟩])
   (.seq (.region false [⟨some 16, .move (.tmp 2) false, none⟩,
    ⟨some 17, .call 47 [(.tmp 16)], none⟩,
    ⟨some 15, .move (.tmp 17) false, none⟩,
    ⟨some 18, .extract (.tmp 15) 0, none⟩,
    ⟨some 19, .extract (.tmp 15) 1, none⟩,
    ⟨some 7, .assign (.tmp 18), none⟩,
    ⟨some 8, .assign (.tmp 19), none⟩])
   (.seq (.region false [⟨some 9, .assign (.const (.sl [] (some 4))), none⟩])
   (.seq (.seq (.region false [⟨some 20, .move (.tmp 0) false, none⟩,
    ⟨some 21, .len 0 (.tmp 20), none⟩,
    ⟨some 22, .move (.const (.int .i64 (0))) false, none⟩])
   (.block 0 (.loop [9, 20, 4, 7, 22, 21, 6] l12_0)))
   (.seq (.region false [⟨some 100, .move (.tmp 9) false, none⟩,
    ⟨some 6, .assign (.tmp 100), none⟩])
   .ret)))))⟩

def o13_0 : List MOper :=
  [⟨some 9, .move (.tmp 0) false, none⟩,
    ⟨some 10, .fieldAddr 2 (.tmp 3), none⟩,
    ⟨some 11, .load true 6 (.tmp 10) false, none⟩,
    ⟨some 12, .move (.tmp 0) false, none⟩,
    ⟨some 13, .call 16 [(.tmp 12)], none⟩,
    ⟨some 14, .call 50 [(.tmp 9), (.tmp 11), (.tmp 13)], none⟩,
    ⟨some 15, .move (.tmp 0) false, none⟩,
    ⟨some 16, .fieldAddr 8 (.tmp 3), none⟩,
    ⟨some 17, .load true 6 (.tmp 16) false, none⟩,
    ⟨some 18, .call 51 [(.tmp 15), (.tmp 17)], none⟩,
    ⟨some 19, .move (.tmp 0) false, none⟩,
    ⟨some 20, .fieldAddr 14 (.tmp 3), none⟩,
    ⟨some 21, .load true 6 (.tmp 20) false, none⟩,
    ⟨some 22, .move (.tmp 0) false, none⟩,
    ⟨some 23, .call 17 [(.tmp 22)], none⟩,
    ⟨some 24, .call 50 [(.tmp 19), (.tmp 21), (.tmp 23)], none⟩,
    ⟨some 25, .buildSlice 47 3 3 [(.int .i64 (0)), (.int .i64 (0)), (.sl [] (some 47))] [(0, (.tmp 14)), (1, (.tmp 18)), (2, (.tmp 24))], none⟩,
    ⟨some 5, .assign (.tmp 25), none⟩]

def o13_1 : List MOper :=
  [⟨some 9, .move (.tmp 0) false, none⟩,
    ⟨some 10, .fieldAddr 2 (.tmp 3), none⟩,
    ⟨some 11, .loadL true 6 (.tmp 10), none⟩,
    ⟨some 12, .move (.tmp 0) false, none⟩,
    ⟨some 13, .callS 16 [(.tmp 12)], none⟩,
    ⟨some 14, .callS 50 [(.tmp 9), (.tmp 11), (.tmp 13)], none⟩,
    ⟨some 15, .move (.tmp 0) false, none⟩,
    ⟨some 16, .fieldAddr 8 (.tmp 3), none⟩,
    ⟨some 17, .loadL true 6 (.tmp 16), none⟩,
    ⟨some 18, .callS 51 [(.tmp 15), (.tmp 17)], none⟩,
    ⟨some 19, .move (.tmp 0) false, none⟩,
    ⟨some 20, .fieldAddr 14 (.tmp 3), none⟩,
    ⟨some 21, .loadL true 6 (.tmp 20), none⟩,
    ⟨some 22, .move (.tmp 0) false, none⟩,
    ⟨some 23, .callS 17 [(.tmp 22)], none⟩,
    ⟨some 24, .callS 50 [(.tmp 19), (.tmp 21), (.tmp 23)], none⟩,
    ⟨some 25, .buildSlice 47 3 3 [(.int .i64 (0)), (.int .i64 (0)), (.sl [] (some 47))] [(0, (.tmp 14)), (1, (.tmp 18)), (2, (.tmp 24))], none⟩,
    ⟨some 5, .assign (.tmp 25), none⟩]

def l13_2 : MCode :=
   (.seq (.region false [⟨some 30, .bin .lss (.tmp 29) (.tmp 28), none⟩])
   (.seq (.cond (.tmp 30) .skip (.exit 0))
   (.seq (.block 1 (.seq (.region false [⟨some 31, .indexAddr 13 (.tmp 27) (.tmp 29), none⟩,
    ⟨some 32, .load true 13 (.tmp 31) false, none⟩,
    ⟨some 7, .alloc [(.bool false), (.int .i64 (0)), (.int .i64 (0)), (.bool false), (.int .i64 (0)), (.str []), (.str []), (.str []), (.sl [] (some 69)), (.sl [] (some 9)), (.str []), (.sl [] (some 137)), (.sl [] (some 9))], none⟩,
    ⟨none, .store 13 (.tmp 7) (.tmp 32), none⟩])
   (.seq (.seq (.region false [⟨some 33, .fieldAddr 1 (.tmp 7), none⟩,
    ⟨some 34, .load true 12 (.tmp 33) false, none⟩,
    ⟨some 35, .call 52 [(.tmp 34)], none⟩,
    ⟨some 36, .bin .gtr (.tmp 35) (.const (.int .i64 (50))), none⟩])
   (.cond (.tmp 36) (.seq (.region false [⟨some 37, .move (.tmp 0) false, none⟩,
    ⟨some 38, .call 53 [(.tmp 37)], none⟩])
   (.exit 0)) .skip))
   (.seq (.region false [⟨some 39, .move (.tmp 0) false, none⟩,
    ⟨some 40, .fieldAddr 1 (.tmp 7), none⟩,
    ⟨some 41, .load true 12 (.tmp 40) false, none⟩,
    ⟨some 42, .call 54 [(.tmp 39), (.tmp 41)], none⟩,
    ⟨some 8, .alloc [(.int .i64 (0)), (.int .i64 (0)), (.sl [] (some 47))], none⟩,
    ⟨none, .store 3 (.tmp 8) (.tmp 42), none⟩])
   (.seq (.seq (.region false [⟨some 43, .fieldAddr 0 (.tmp 7), none⟩,
    ⟨some 44, .load false 1 (.tmp 43) false, none⟩,
    ⟨some 45, .un .not (.tmp 44), none⟩])
   (.cond (.tmp 45) (.region false [⟨some 46, .load true 3 (.tmp 8) false, none⟩,
    ⟨some 47, .call 24 [(.tmp 46)], none⟩,
    ⟨none, .store 3 (.tmp 8) (.tmp 47), none⟩]) .skip))
   (.region false [⟨some 48, .move (.tmp 5) true, none⟩,
    ⟨some 49, .load true 3 (.tmp 8) false, none⟩,
    ⟨some 50, .buildSlice 47 3 1 [(.int .i64 (0)), (.int .i64 (0)), (.sl [] (some 47))] [(0, (.tmp 49))], none⟩,
    ⟨some 51, .append 47 3 40 false (.tmp 48) (.tmp 50), none⟩,
    ⟨some 5, .assign (.tmp 51), none⟩]))))))
   (.region false [⟨some 52, .bin .add (.tmp 29) (.const (.int .i64 (1))), none⟩,
    ⟨some 29, .move (.tmp 52) false, none⟩]))))

/-- '(*chamberlain/theory.book).policy' -/
def m13 : MFunc :=
  ⟨2, 55, [.cell 4 true 3],
   (.seq (.region false [⟨some 3, .box (.tmp 1), none⟩,
    ⟨some 4, .alloc [(.int .i64 (0)), (.int .i64 (0)), (.sl [] (some 47))], none⟩])
   (.seq (.regionQ [(false, o13_1), (true, o13_0)] o13_0 [[], [], [1], [], [3], [0, 2, 4, 4], [], [], [7], [6, 8, 5], [], [], [11], [], [13, 9], [10, 12, 14, 14], [5, 9, 15], [16, 15, 0, 1, 2, 3, 4, 5, 6, 7, 8, 9, 10, 11, 12, 13, 14, 15, 16]])
   (.seq (.seq (.region false [⟨some 26, .fieldAddr 20 (.tmp 3), none⟩,
    ⟨some 27, .load false 1 (.tmp 26) false, none⟩,
    ⟨some 28, .len 0 (.tmp 27), none⟩,
    ⟨some 29, .move (.const (.int .i64 (0))) false, none⟩])
   (.block 0 (.loop [5, 27, 0, 29, 28, 4] l13_2)))
   (.seq (.region false [⟨some 53, .move (.tmp 5) false, none⟩,
    ⟨some 54, .call 25 [(.tmp 53)], none⟩,
    ⟨none, .store 3 (.tmp 4) (.tmp 54), none⟩])
   .ret))))⟩

def l14_0 : MCode :=
   (.seq (.region false [⟨some 14, .bin .lss (.tmp 13) (.tmp 12), none⟩])
   (.seq (.cond (.tmp 14) .skip (.exit 0))
   (.seq (.block 1 (.seq (.region false [⟨some 15, .indexAddr 7 (.tmp 11) (.tmp 13), none⟩,
    ⟨some 16, .load true 7 (.tmp 15) false, none⟩,
    ⟨some 7, .alloc [(.int .i64 (0)), (.str []), (.str []), (.str []), (.str []), (.str []), (.str [])], none⟩,
    ⟨none, .store 7 (.tmp 7) (.tmp 16), none⟩])
   (.seq (.region false [⟨some 17, .move (.tmp 1) false, none⟩,
    ⟨some 18, .load true 7 (.tmp 7) false, none⟩,
    ⟨some 19, .callv (.tmp 17) [(.tmp 18)], none⟩])
   (.cond (.tmp 19) (.seq (.region false [⟨some 20, .move (.tmp 5) true, none⟩,
    ⟨some 21, .fieldAddr 1 (.tmp 7), none⟩,
    ⟨some 22, .load true 2 (.tmp 21) false, none⟩,
    ⟨some 23, .buildSlice 37 2 1 [(.str []), (.str [])] [(0, (.tmp 22))], none⟩,
    ⟨some 24, .append 37 2 32 true (.tmp 20) (.tmp 23), none⟩,
    ⟨some 5, .assign (.tmp 24), none⟩])
   (.seq (.region false [⟨some 25, .fieldAddr 0 (.tmp 7), none⟩,
    ⟨some 26, .load false 1 (.tmp 25) false, none⟩,
    ⟨some 27, .bin .eql (.tmp 26) (.const (.int .i64 (5))), none⟩])
   (.cond (.tmp 27) (.region false [⟨some 28, .move (.tmp 5) true, none⟩,
    ⟨some 29, .fieldAddr 3 (.tmp 7), none⟩,
    ⟨some 30, .load true 2 (.tmp 29) false, none⟩,
    ⟨some 31, .buildSlice 37 2 1 [(.str []), (.str [])] [(0, (.tmp 30))], none⟩,
    ⟨some 32, .append 37 2 32 true (.tmp 28) (.tmp 31), none⟩,
    ⟨some 5, .assign (.tmp 32), none⟩]) .skip))) .skip))))
   (.region false [⟨some 33, .bin .add (.tmp 13) (.const (.int .i64 (1))), none⟩,
    ⟨some 13, .move (.tmp 33) false, none⟩]))))

/-- '(*chamberlain/theory.book).names' -/
def m14 : MFunc :=
  ⟨2, 38, [.tmp 4],
   (.seq (.region false [⟨some 4, .assign (.const (.sl [] (some 37))), none⟩])
   (.seq (.region false [⟨some 5, .assign (.const (.sl [] (some 37))), none⟩])
   (.seq (.seq (.region false [⟨some 8, .move (.tmp 0) false, none⟩,
    ⟨some 9, .nilCheck (.tmp 8), none⟩,
    ⟨some 10, .fieldAddr 5 (.tmp 9), none⟩,
    ⟨some 11, .load false 1 (.tmp 10) false, none⟩,
    ⟨some 12, .len 0 (.tmp 11), none⟩,
    ⟨some 13, .move (.const (.int .i64 (0))) false, none⟩])
   (.block 0 (.loop [5, 11, 1, 13, 12, 4] l14_0)))
   (.seq (.region false [⟨some 34, .move (.tmp 5) false, none⟩,
    ⟨some 35, .call 55 [(.tmp 34), (.const (.func 46 []))], none⟩])
   (.seq (.region false [⟨some 36, .move (.tmp 5) false, none⟩,
    ⟨some 37, .callM 56 [(.tmp 36)], none⟩,
    ⟨some 4, .assign (.tmp 37), none⟩])
   .ret)))))⟩


/-- 'chamberlain/theory.Of$1' -/
def m15 : MFunc :=
  ⟨1, 6, [.tmp 2],
   (.seq (.region false [⟨some 1, .box (.tmp 0), none⟩,
    ⟨some 2, .assign (.const (.bool false)), none⟩])
   (.seq (.region false [⟨some 3, .fieldAddr 0 (.tmp 1), none⟩,
    ⟨some 4, .load false 1 (.tmp 3) false, none⟩,
    ⟨some 5, .bin .leq (.tmp 4) (.const (.int .i64 (5))), none⟩,
    ⟨some 2, .assign (.tmp 5), none⟩])
   .ret))⟩


/-- '(*chamberlain/theory.book).principal' -/
def m16 : MFunc :=
  ⟨1, 9, [.cell 2 true 2],
   (.seq (.region false [⟨some 2, .alloc [(.int .i64 (0)), (.str [])], none⟩])
   (.seq (.region false [⟨some 3, .move (.tmp 0) false, none⟩,
    ⟨some 4, .nilCheck (.tmp 3), none⟩,
    ⟨some 5, .fieldAddr 2 (.tmp 4), none⟩,
    ⟨some 6, .fieldAddr 0 (.tmp 5), none⟩,
    ⟨some 7, .load false 1 (.tmp 6) false, none⟩,
    ⟨some 8, .build [(.int .i64 (0)), (.str [])] [(0, 1, (.const (.int .i64 (1)))), (1, 1, (.tmp 7))], none⟩,
    ⟨none, .store 2 (.tmp 2) (.tmp 8), none⟩])
   .ret))⟩


/-- '(*chamberlain/theory.book).resource' -/
def m17 : MFunc :=
  ⟨1, 9, [.cell 2 true 2],
   (.seq (.region false [⟨some 2, .alloc [(.int .i64 (0)), (.str [])], none⟩])
   (.seq (.region false [⟨some 3, .move (.tmp 0) false, none⟩,
    ⟨some 4, .nilCheck (.tmp 3), none⟩,
    ⟨some 5, .fieldAddr 2 (.tmp 4), none⟩,
    ⟨some 6, .fieldAddr 2 (.tmp 5), none⟩,
    ⟨some 7, .load false 1 (.tmp 6) false, none⟩,
    ⟨some 8, .build [(.int .i64 (0)), (.str [])] [(0, 1, (.const (.int .i64 (3)))), (1, 1, (.tmp 7))], none⟩,
    ⟨none, .store 2 (.tmp 2) (.tmp 8), none⟩])
   .ret))⟩


/-- 'chamberlain/theory.Of$2' -/
def m18 : MFunc :=
  ⟨2, 17, [.tmp 3],
   (.seq (.region false [⟨some 2, .box (.tmp 0), none⟩,
    ⟨some 3, .assign (.const (.bool false)), none⟩])
   (.seq (.region false [⟨some 4, .fieldAddr 0 (.tmp 2), none⟩,
    ⟨some 5, .load false 1 (.tmp 4) false, none⟩,
    ⟨some 6, .fieldAddr 0 (.tmp 1), none⟩,
    ⟨some 7, .load false 1 (.tmp 6) false, none⟩,
    ⟨some 8, .bin .eql (.tmp 5) (.tmp 7), none⟩,
    ⟨some 9, .move (.tmp 8) false, none⟩,
    ⟨some 10, .fieldAddr 0 (.tmp 2), some (9, false)⟩,
    ⟨some 11, .load false 1 (.tmp 10) false, some (9, false)⟩,
    ⟨some 12, .fieldAddr 0 (.tmp 1), some (9, false)⟩,
    ⟨some 13, .load false 1 (.tmp 12) false, some (9, false)⟩,
    ⟨some 14, .bin .add (.tmp 13) (.const (.int .i64 (1))), some (9, false)⟩,
    ⟨some 15, .bin .eql (.tmp 11) (.tmp 14), some (9, false)⟩,
    ⟨some 16, .pick (.tmp 9) (.const (.bool true)) (.tmp 15), none⟩,
    ⟨some 3, .assign (.tmp 16), none⟩])
   .ret))⟩


/-- '(*chamberlain/theory.book).is' -/
def m19 : MFunc :=
  ⟨3, 19, [.cell 6 true 3],
   (.seq (.region false [⟨some 4, .box (.tmp 1), none⟩,
    ⟨some 5, .box (.tmp 2), none⟩,
    ⟨some 6, .alloc [(.int .i64 (0)), (.int .i64 (0)), (.sl [] (some 47))], none⟩])
   (.seq (.seq (.region false [⟨some 7, .fieldAddr 0 (.tmp 5), none⟩,
    ⟨some 8, .load false 1 (.tmp 7) false, none⟩,
    ⟨some 9, .fieldAddr 1 (.tmp 4), none⟩,
    ⟨some 10, .load false 1 (.tmp 9) false, none⟩,
    ⟨some 11, .bin .neq (.tmp 8) (.tmp 10), none⟩])
   (.cond (.tmp 11) (.seq (.region false [⟨some 12, .call 57 [(.const (.bool false))], none⟩,
    ⟨none, .store 3 (.tmp 6) (.tmp 12), none⟩])
   .ret) .skip))
   (.seq (.region false [⟨some 13, .move (.tmp 0) false, none⟩,
    ⟨some 14, .fieldAddr 0 (.tmp 4), none⟩,
    ⟨some 15, .load false 1 (.tmp 14) false, none⟩,
    ⟨some 16, .load true 2 (.tmp 5) false, none⟩,
    ⟨some 17, .build [(.int .i64 (0)), (.str []), (.str []), (.str []), (.str []), (.str []), (.str [])] [(0, 1, (.tmp 15)), (1, 2, (.tmp 16))], none⟩,
    ⟨some 18, .call 58 [(.tmp 13), (.tmp 17)], none⟩,
    ⟨none, .store 3 (.tmp 6) (.tmp 18), none⟩])
   .ret)))⟩


/-- '(*chamberlain/theory.book).in' -/
def m20 : MFunc :=
  ⟨3, 37, [.cell 6 true 3],
   (.seq (.region false [⟨some 4, .box (.tmp 1), none⟩,
    ⟨some 5, .box (.tmp 2), none⟩,
    ⟨some 6, .alloc [(.int .i64 (0)), (.int .i64 (0)), (.sl [] (some 47))], none⟩])
   (.seq (.seq (.region false [⟨some 8, .move (.tmp 0) false, none⟩,
    ⟨some 9, .nilCheck (.tmp 8), none⟩,
    ⟨some 10, .fieldAddr 0 (.tmp 9), none⟩,
    ⟨some 11, .load true 2 (.tmp 10) false, none⟩,
    ⟨some 12, .fieldAddr 1 (.tmp 4), none⟩,
    ⟨some 13, .load false 1 (.tmp 12) false, none⟩,
    ⟨some 14, .fieldAddr 0 (.tmp 5), none⟩,
    ⟨some 15, .load false 1 (.tmp 14) false, none⟩,
    ⟨some 16, .call 59 [(.tmp 11), (.tmp 13), (.tmp 15)], none⟩,
    ⟨some 7, .assign (.tmp 16), none⟩])
   (.block 0 (.seq (.region false [⟨some 18, .move (.tmp 7) false, none⟩,
    ⟨some 17, .assign (.tmp 18), none⟩])
   (.cond (.tmp 17) (.seq (.region false [⟨some 19, .move (.tmp 0) false, none⟩,
    ⟨some 20, .fieldAddr 0 (.tmp 4), none⟩,
    ⟨some 21, .load false 1 (.tmp 20) false, none⟩,
    ⟨some 22, .bin .add (.tmp 21) (.const (.int .i64 (1))), none⟩,
    ⟨some 23, .load true 2 (.tmp 5) false, none⟩,
    ⟨some 24, .build [(.int .i64 (0)), (.str []), (.str []), (.str []), (.str []), (.str []), (.str [])] [(0, 1, (.tmp 22)), (1, 2, (.tmp 23))], none⟩,
    ⟨some 25, .call 58 [(.tmp 19), (.tmp 24)], none⟩,
    ⟨none, .store 3 (.tmp 6) (.tmp 25), none⟩])
   .ret) (.seq (.region false [⟨some 27, .fieldAddr 0 (.tmp 5), none⟩,
    ⟨some 28, .load false 1 (.tmp 27) false, none⟩,
    ⟨some 29, .fieldAddr 1 (.tmp 4), none⟩,
    ⟨some 30, .load false 1 (.tmp 29) false, none⟩,
    ⟨some 31, .bin .eql (.tmp 28) (.tmp 30), none⟩,
    ⟨some 26, .assign (.tmp 31), none⟩])
   (.cond (.tmp 26) (.seq (.region false [⟨some 32, .move (.tmp 0) false, none⟩,
    ⟨some 33, .load true 2 (.tmp 4) false, none⟩,
    ⟨some 34, .load true 2 (.tmp 5) false, none⟩,
    ⟨some 35, .call 19 [(.tmp 32), (.tmp 33), (.tmp 34)], none⟩,
    ⟨none, .store 3 (.tmp 6) (.tmp 35), none⟩])
   .ret) .skip))))))
   (.seq (.region false [⟨some 36, .call 57 [(.const (.bool false))], none⟩,
    ⟨none, .store 3 (.tmp 6) (.tmp 36), none⟩])
   .ret)))⟩


/-- '(*chamberlain/theory.book).above' -/
def m21 : MFunc :=
  ⟨3, 47, [.cell 6 true 3],
   (.seq (.region false [⟨some 4, .box (.tmp 1), none⟩,
    ⟨some 5, .box (.tmp 2), none⟩,
    ⟨some 6, .alloc [(.int .i64 (0)), (.int .i64 (0)), (.sl [] (some 47))], none⟩])
   (.seq (.block 0 (.seq (.region false [⟨some 8, .load true 2 (.tmp 4) false, none⟩,
    ⟨some 9, .load true 2 (.tmp 5) false, none⟩,
    ⟨some 10, .eqA 34 false (.tmp 8) (.tmp 9), none⟩,
    ⟨some 7, .assign (.tmp 10), none⟩])
   (.cond (.tmp 7) (.seq (.region false [⟨some 11, .call 57 [(.const (.bool true))], none⟩,
    ⟨none, .store 3 (.tmp 6) (.tmp 11), none⟩])
   .ret) (.seq (.region false [⟨some 13, .fieldAddr 0 (.tmp 4), none⟩,
    ⟨some 14, .load false 1 (.tmp 13) false, none⟩,
    ⟨some 15, .bin .eql (.tmp 14) (.const (.str [65, 99, 116, 105, 111, 110])), none⟩,
    ⟨some 16, .move (.tmp 15) false, none⟩,
    ⟨some 17, .fieldAddr 0 (.tmp 5), some (16, true)⟩,
    ⟨some 18, .load false 1 (.tmp 17) false, some (16, true)⟩,
    ⟨some 19, .bin .eql (.tmp 18) (.const (.str [65, 99, 116, 105, 111, 110])), some (16, true)⟩,
    ⟨some 20, .pick (.tmp 16) (.tmp 19) (.const (.bool false)), none⟩,
    ⟨some 12, .assign (.tmp 20), none⟩])
   (.cond (.tmp 12) (.seq (.region false [⟨some 21, .move (.tmp 0) false, none⟩,
    ⟨some 22, .nilCheck (.tmp 21), none⟩,
    ⟨some 23, .fieldAddr 0 (.tmp 22), none⟩,
    ⟨some 24, .load true 2 (.tmp 23) false, none⟩,
    ⟨some 25, .fieldAddr 1 (.tmp 4), none⟩,
    ⟨some 26, .load false 1 (.tmp 25) false, none⟩,
    ⟨some 27, .fieldAddr 1 (.tmp 5), none⟩,
    ⟨some 28, .load false 1 (.tmp 27) false, none⟩,
    ⟨some 29, .call 60 [(.tmp 24), (.tmp 26), (.tmp 28)], none⟩,
    ⟨some 30, .call 57 [(.tmp 29)], none⟩,
    ⟨none, .store 3 (.tmp 6) (.tmp 30), none⟩])
   .ret) (.seq (.region false [⟨some 32, .move (.tmp 0) false, none⟩,
    ⟨some 33, .nilCheck (.tmp 32), none⟩,
    ⟨some 34, .fieldAddr 0 (.tmp 33), none⟩,
    ⟨some 35, .load true 2 (.tmp 34) false, none⟩,
    ⟨some 36, .fieldAddr 0 (.tmp 4), none⟩,
    ⟨some 37, .load false 1 (.tmp 36) false, none⟩,
    ⟨some 38, .fieldAddr 0 (.tmp 5), none⟩,
    ⟨some 39, .load false 1 (.tmp 38) false, none⟩,
    ⟨some 40, .call 59 [(.tmp 35), (.tmp 37), (.tmp 39)], none⟩,
    ⟨some 31, .assign (.tmp 40), none⟩])
   (.cond (.tmp 31) (.seq (.region false [⟨some 41, .move (.tmp 0) false, none⟩,
    ⟨some 42, .load true 2 (.tmp 4) false, none⟩,
    ⟨some 43, .load true 2 (.tmp 5) false, none⟩,
    ⟨some 44, .build [(.int .i64 (0)), (.str []), (.str []), (.str []), (.str []), (.str []), (.str [])] [(0, 1, (.const (.int .i64 (5)))), (1, 2, (.tmp 42)), (3, 2, (.tmp 43))], none⟩,
    ⟨some 45, .call 58 [(.tmp 41), (.tmp 44)], none⟩,
    ⟨none, .store 3 (.tmp 6) (.tmp 45), none⟩])
   .ret) .skip)))))))
   (.seq (.region false [⟨some 46, .call 57 [(.const (.bool false))], none⟩,
    ⟨none, .store 3 (.tmp 6) (.tmp 46), none⟩])
   .ret)))⟩

def o22_0 : List MOper :=
  [⟨some 18, .move (.tmp 7) true, none⟩,
    ⟨some 19, .move (.tmp 0) false, none⟩,
    ⟨some 20, .load true 2 (.tmp 4) false, none⟩,
    ⟨some 21, .load true 2 (.tmp 9) false, none⟩,
    ⟨some 22, .call 19 [(.tmp 19), (.tmp 20), (.tmp 21)], none⟩,
    ⟨some 23, .move (.tmp 0) false, none⟩,
    ⟨some 24, .load true 2 (.tmp 4) false, none⟩,
    ⟨some 25, .load true 2 (.tmp 9) false, none⟩,
    ⟨some 26, .call 20 [(.tmp 23), (.tmp 24), (.tmp 25)], none⟩,
    ⟨some 27, .call 26 [(.tmp 22), (.tmp 26)], none⟩,
    ⟨some 28, .buildSlice 47 3 1 [(.int .i64 (0)), (.int .i64 (0)), (.sl [] (some 47))] [(0, (.tmp 27))], none⟩,
    ⟨some 29, .append 47 3 40 false (.tmp 18) (.tmp 28), none⟩,
    ⟨some 7, .assign (.tmp 29), none⟩]

def o22_1 : List MOper :=
  [⟨some 18, .move (.tmp 7) true, none⟩,
    ⟨some 19, .move (.tmp 0) false, none⟩,
    ⟨some 20, .loadL true 2 (.tmp 4), none⟩,
    ⟨some 21, .loadL true 2 (.tmp 9), none⟩,
    ⟨some 22, .callS 19 [(.tmp 19), (.tmp 20), (.tmp 21)], none⟩,
    ⟨some 23, .move (.tmp 0) false, none⟩,
    ⟨some 24, .loadL true 2 (.tmp 4), none⟩,
    ⟨some 25, .loadL true 2 (.tmp 9), none⟩,
    ⟨some 26, .callS 20 [(.tmp 23), (.tmp 24), (.tmp 25)], none⟩,
    ⟨some 27, .callS 26 [(.tmp 22), (.tmp 26)], none⟩,
    ⟨some 28, .buildSlice 47 3 1 [(.int .i64 (0)), (.int .i64 (0)), (.sl [] (some 47))] [(0, (.tmp 27))], none⟩,
    ⟨some 29, .append 47 3 40 false (.tmp 18) (.tmp 28), none⟩,
    ⟨some 7, .assign (.tmp 29), none⟩]

def o22_2 : List MOper :=
  [⟨some 39, .move (.tmp 7) true, none⟩,
    ⟨some 40, .move (.tmp 0) false, none⟩,
    ⟨some 41, .load true 2 (.tmp 4) false, none⟩,
    ⟨some 42, .load true 2 (.tmp 9) false, none⟩,
    ⟨some 43, .call 19 [(.tmp 40), (.tmp 41), (.tmp 42)], none⟩,
    ⟨some 44, .move (.tmp 0) false, none⟩,
    ⟨some 45, .load true 2 (.tmp 4) false, none⟩,
    ⟨some 46, .load true 2 (.tmp 11) false, none⟩,
    ⟨some 47, .call 19 [(.tmp 44), (.tmp 45), (.tmp 46)], none⟩,
    ⟨some 48, .buildSlice 47 3 2 [(.int .i64 (0)), (.int .i64 (0)), (.sl [] (some 47))] [(0, (.tmp 43)), (1, (.tmp 47))], none⟩,
    ⟨some 49, .call 25 [(.tmp 48)], none⟩,
    ⟨some 50, .call 24 [(.tmp 49)], none⟩,
    ⟨some 51, .move (.tmp 0) false, none⟩,
    ⟨some 52, .load true 2 (.tmp 4) false, none⟩,
    ⟨some 53, .load true 2 (.tmp 9) false, none⟩,
    ⟨some 54, .call 19 [(.tmp 51), (.tmp 52), (.tmp 53)], none⟩,
    ⟨some 55, .move (.tmp 0) false, none⟩,
    ⟨some 56, .load true 2 (.tmp 4) false, none⟩,
    ⟨some 57, .load true 2 (.tmp 11) false, none⟩,
    ⟨some 58, .call 20 [(.tmp 55), (.tmp 56), (.tmp 57)], none⟩,
    ⟨some 59, .buildSlice 47 3 2 [(.int .i64 (0)), (.int .i64 (0)), (.sl [] (some 47))] [(0, (.tmp 54)), (1, (.tmp 58))], none⟩,
    ⟨some 60, .call 25 [(.tmp 59)], none⟩,
    ⟨some 61, .move (.tmp 0) false, none⟩,
    ⟨some 62, .load true 2 (.tmp 9) false, none⟩,
    ⟨some 63, .load true 2 (.tmp 11) false, none⟩,
    ⟨some 64, .call 21 [(.tmp 61), (.tmp 62), (.tmp 63)], none⟩,
    ⟨some 65, .call 26 [(.tmp 60), (.tmp 64)], none⟩,
    ⟨some 66, .buildSlice 47 3 2 [(.int .i64 (0)), (.int .i64 (0)), (.sl [] (some 47))] [(0, (.tmp 50)), (1, (.tmp 65))], none⟩,
    ⟨some 67, .append 47 3 40 false (.tmp 39) (.tmp 66), none⟩,
    ⟨some 7, .assign (.tmp 67), none⟩]

def o22_3 : List MOper :=
  [⟨some 39, .move (.tmp 7) true, none⟩,
    ⟨some 40, .move (.tmp 0) false, none⟩,
    ⟨some 41, .loadL true 2 (.tmp 4), none⟩,
    ⟨some 42, .loadL true 2 (.tmp 9), none⟩,
    ⟨some 43, .callS 19 [(.tmp 40), (.tmp 41), (.tmp 42)], none⟩,
    ⟨some 44, .move (.tmp 0) false, none⟩,
    ⟨some 45, .loadL true 2 (.tmp 4), none⟩,
    ⟨some 46, .loadL true 2 (.tmp 11), none⟩,
    ⟨some 47, .callS 19 [(.tmp 44), (.tmp 45), (.tmp 46)], none⟩,
    ⟨some 48, .buildSlice 47 3 2 [(.int .i64 (0)), (.int .i64 (0)), (.sl [] (some 47))] [(0, (.tmp 43)), (1, (.tmp 47))], none⟩,
    ⟨some 49, .callS 25 [(.tmp 48)], none⟩,
    ⟨some 50, .callS 24 [(.tmp 49)], none⟩,
    ⟨some 51, .move (.tmp 0) false, none⟩,
    ⟨some 52, .loadL true 2 (.tmp 4), none⟩,
    ⟨some 53, .loadL true 2 (.tmp 9), none⟩,
    ⟨some 54, .callS 19 [(.tmp 51), (.tmp 52), (.tmp 53)], none⟩,
    ⟨some 55, .move (.tmp 0) false, none⟩,
    ⟨some 56, .loadL true 2 (.tmp 4), none⟩,
    ⟨some 57, .loadL true 2 (.tmp 11), none⟩,
    ⟨some 58, .callS 20 [(.tmp 55), (.tmp 56), (.tmp 57)], none⟩,
    ⟨some 59, .buildSlice 47 3 2 [(.int .i64 (0)), (.int .i64 (0)), (.sl [] (some 47))] [(0, (.tmp 54)), (1, (.tmp 58))], none⟩,
    ⟨some 60, .callS 25 [(.tmp 59)], none⟩,
    ⟨some 61, .move (.tmp 0) false, none⟩,
    ⟨some 62, .loadL true 2 (.tmp 9), none⟩,
    ⟨some 63, .loadL true 2 (.tmp 11), none⟩,
    ⟨some 64, .callS 21 [(.tmp 61), (.tmp 62), (.tmp 63)], none⟩,
    ⟨some 65, .callS 26 [(.tmp 60), (.tmp 64)], none⟩,
    ⟨some 66, .buildSlice 47 3 2 [(.int .i64 (0)), (.int .i64 (0)), (.sl [] (some 47))] [(0, (.tmp 50)), (1, (.tmp 65))], none⟩,
    ⟨some 67, .append 47 3 40 false (.tmp 39) (.tmp 66), none⟩,
    ⟨some 7, .assign (.tmp 67), none⟩]

def o22_4 : List MOper :=
  [⟨some 68, .move (.tmp 7) true, none⟩,
    ⟨some 69, .move (.tmp 0) false, none⟩,
    ⟨some 70, .load true 2 (.tmp 4) false, none⟩,
    ⟨some 71, .load true 2 (.tmp 9) false, none⟩,
    ⟨some 72, .call 20 [(.tmp 69), (.tmp 70), (.tmp 71)], none⟩,
    ⟨some 73, .move (.tmp 0) false, none⟩,
    ⟨some 74, .load true 2 (.tmp 9) false, none⟩,
    ⟨some 75, .load true 2 (.tmp 11) false, none⟩,
    ⟨some 76, .call 21 [(.tmp 73), (.tmp 74), (.tmp 75)], none⟩,
    ⟨some 77, .buildSlice 47 3 2 [(.int .i64 (0)), (.int .i64 (0)), (.sl [] (some 47))] [(0, (.tmp 72)), (1, (.tmp 76))], none⟩,
    ⟨some 78, .call 25 [(.tmp 77)], none⟩,
    ⟨some 79, .move (.tmp 0) false, none⟩,
    ⟨some 80, .load true 2 (.tmp 4) false, none⟩,
    ⟨some 81, .load true 2 (.tmp 11) false, none⟩,
    ⟨some 82, .call 20 [(.tmp 79), (.tmp 80), (.tmp 81)], none⟩,
    ⟨some 83, .call 26 [(.tmp 78), (.tmp 82)], none⟩,
    ⟨some 84, .buildSlice 47 3 1 [(.int .i64 (0)), (.int .i64 (0)), (.sl [] (some 47))] [(0, (.tmp 83))], none⟩,
    ⟨some 85, .append 47 3 40 false (.tmp 68) (.tmp 84), none⟩,
    ⟨some 7, .assign (.tmp 85), none⟩]

def o22_5 : List MOper :=
  [⟨some 68, .move (.tmp 7) true, none⟩,
    ⟨some 69, .move (.tmp 0) false, none⟩,
    ⟨some 70, .loadL true 2 (.tmp 4), none⟩,
    ⟨some 71, .loadL true 2 (.tmp 9), none⟩,
    ⟨some 72, .callS 20 [(.tmp 69), (.tmp 70), (.tmp 71)], none⟩,
    ⟨some 73, .move (.tmp 0) false, none⟩,
    ⟨some 74, .loadL true 2 (.tmp 9), none⟩,
    ⟨some 75, .loadL true 2 (.tmp 11), none⟩,
    ⟨some 76, .callS 21 [(.tmp 73), (.tmp 74), (.tmp 75)], none⟩,
    ⟨some 77, .buildSlice 47 3 2 [(.int .i64 (0)), (.int .i64 (0)), (.sl [] (some 47))] [(0, (.tmp 72)), (1, (.tmp 76))], none⟩,
    ⟨some 78, .callS 25 [(.tmp 77)], none⟩,
    ⟨some 79, .move (.tmp 0) false, none⟩,
    ⟨some 80, .loadL true 2 (.tmp 4), none⟩,
    ⟨some 81, .loadL true 2 (.tmp 11), none⟩,
    ⟨some 82, .callS 20 [(.tmp 79), (.tmp 80), (.tmp 81)], none⟩,
    ⟨some 83, .callS 26 [(.tmp 78), (.tmp 82)], none⟩,
    ⟨some 84, .buildSlice 47 3 1 [(.int .i64 (0)), (.int .i64 (0)), (.sl [] (some 47))] [(0, (.tmp 83))], none⟩,
    ⟨some 85, .append 47 3 40 false (.tmp 68) (.tmp 84), none⟩,
    ⟨some 7, .assign (.tmp 85), none⟩]

def l22_6 : MCode :=
   (.seq (.region false [⟨some 33, .bin .lss (.tmp 32) (.tmp 31), none⟩])
   (.seq (.cond (.tmp 33) .skip (.exit 2))
   (.seq (.block 3 (.seq (.region false [⟨some 34, .indexAddr 2 (.tmp 30) (.tmp 32), none⟩,
    ⟨some 35, .load true 2 (.tmp 34) false, none⟩,
    ⟨some 11, .alloc [(.str []), (.str [])], none⟩,
    ⟨none, .store 2 (.tmp 11) (.tmp 35), none⟩])
   (.seq (.seq (.region false [⟨some 36, .load true 2 (.tmp 9) false, none⟩,
    ⟨some 37, .load true 2 (.tmp 11) false, none⟩,
    ⟨some 38, .eqA 34 true (.tmp 36) (.tmp 37), none⟩])
   (.cond (.tmp 38) (.regionQ [(false, o22_3), (true, o22_2)] o22_2 [[], [], [], [], [1, 2, 3], [], [], [], [5, 6, 7, 4], [4, 8], [9, 8], [10, 10], [], [], [], [12, 13, 14, 11], [], [], [], [16, 17, 18, 15], [15, 19], [20, 19], [], [], [], [22, 23, 24, 21], [21, 25, 25], [11, 26], [0, 27, 26], [28, 28, 0, 1, 2, 3, 4, 5, 6, 7, 8, 9, 10, 11, 12, 13, 14, 15, 16, 17, 18, 19, 20, 21, 22, 23, 24, 25, 26, 27, 28]]) .skip))
   (.regionQ [(false, o22_5), (true, o22_4)] o22_4 [[], [], [], [], [1, 2, 3], [], [], [], [5, 6, 7, 4], [4, 8], [9, 8], [], [], [], [11, 12, 13, 10], [10, 14, 14], [15], [0, 16, 15], [17, 17, 0, 1, 2, 3, 4, 5, 6, 7, 8, 9, 10, 11, 12, 13, 14, 15, 16, 17]]))))
   (.region false [⟨some 86, .bin .add (.tmp 32) (.const (.int .i64 (1))), none⟩,
    ⟨some 32, .move (.tmp 86) false, none⟩]))))

def l22_7 : MCode :=
   (.seq (.region false [⟨some 15, .bin .lss (.tmp 14) (.tmp 13), none⟩])
   (.seq (.cond (.tmp 15) .skip (.exit 0))
   (.seq (.block 1 (.seq (.region false [⟨some 16, .indexAddr 2 (.tmp 12) (.tmp 14), none⟩,
    ⟨some 17, .load true 2 (.tmp 16) false, none⟩,
    ⟨some 9, .alloc [(.str []), (.str [])], none⟩,
    ⟨none, .store 2 (.tmp 9) (.tmp 17), none⟩])
   (.seq (.regionQ [(false, o22_1), (true, o22_0)] o22_0 [[], [], [], [], [1, 2, 3], [], [], [], [5, 6, 7, 4], [4, 8, 8], [9], [0, 10, 9], [11, 11, 0, 1, 2, 3, 4, 5, 6, 7, 8, 9, 10, 11]])
   (.seq (.region false [⟨some 30, .move (.tmp 2) false, none⟩,
    ⟨some 31, .len 0 (.tmp 30), none⟩,
    ⟨some 32, .move (.const (.int .i64 (0))) false, none⟩])
   (.block 2 (.loop [7, 12, 2, 4, 0, 13, 14, 30, 9, 32, 31, 6] l22_6))))))
   (.region false [⟨some 87, .bin .add (.tmp 14) (.const (.int .i64 (1))), none⟩,
    ⟨some 14, .move (.tmp 87) false, none⟩]))))

/-- '(*chamberlain/theory.book).of' -/
def m22 : MFunc :=
  ⟨3, 89, [.tmp 6],
   (.seq (.region false [⟨some 4, .box (.tmp 1), none⟩,
    ⟨some 6, .assign (.const (.sl [] (some 47))), none⟩])
   (.seq (.region false [⟨some 7, .assign (.const (.sl [] (some 47))), none⟩])
   (.seq (.seq (.region false [⟨some 12, .move (.tmp 2) false, none⟩,
    ⟨some 13, .len 0 (.tmp 12), none⟩,
    ⟨some 14, .move (.const (.int .i64 (0))) false, none⟩])
   (.block 0 (.loop [7, 12, 2, 4, 0, 14, 13, 6] l22_7)))
   (.seq (.region false [⟨some 88, .move (.tmp 7) false, none⟩,
    ⟨some 6, .assign (.tmp 88), none⟩])
   .ret))))⟩


/-- 'chamberlain/theory.Of$3' -/
def m23 : MFunc :=
  ⟨2, 17, [.tmp 3],
   (.seq (.region false [⟨some 2, .box (.tmp 0), none⟩,
    ⟨some 3, .assign (.const (.bool false)), none⟩])
   (.seq (.region false [⟨some 4, .fieldAddr 0 (.tmp 2), none⟩,
    ⟨some 5, .load false 1 (.tmp 4) false, none⟩,
    ⟨some 6, .fieldAddr 0 (.tmp 1), none⟩,
    ⟨some 7, .load false 1 (.tmp 6) false, none⟩,
    ⟨some 8, .bin .eql (.tmp 5) (.tmp 7), none⟩,
    ⟨some 9, .move (.tmp 8) false, none⟩,
    ⟨some 10, .fieldAddr 0 (.tmp 2), some (9, false)⟩,
    ⟨some 11, .load false 1 (.tmp 10) false, some (9, false)⟩,
    ⟨some 12, .fieldAddr 0 (.tmp 1), some (9, false)⟩,
    ⟨some 13, .load false 1 (.tmp 12) false, some (9, false)⟩,
    ⟨some 14, .bin .add (.tmp 13) (.const (.int .i64 (1))), some (9, false)⟩,
    ⟨some 15, .bin .eql (.tmp 11) (.tmp 14), some (9, false)⟩,
    ⟨some 16, .pick (.tmp 9) (.const (.bool true)) (.tmp 15), none⟩,
    ⟨some 3, .assign (.tmp 16), none⟩])
   .ret))⟩


/-- 'chamberlain/theory.not' -/
def m24 : MFunc :=
  ⟨1, 6, [.cell 2 true 3],
   (.seq (.region false [⟨some 1, .box (.tmp 0), none⟩,
    ⟨some 2, .alloc [(.int .i64 (0)), (.int .i64 (0)), (.sl [] (some 47))], none⟩])
   (.seq (.region false [⟨some 3, .load true 3 (.tmp 1) false, none⟩,
    ⟨some 4, .buildSlice 47 3 1 [(.int .i64 (0)), (.int .i64 (0)), (.sl [] (some 47))] [(0, (.tmp 3))], none⟩,
    ⟨some 5, .build [(.int .i64 (0)), (.int .i64 (0)), (.nils 47)] [(0, 1, (.const (.int .i64 (4)))), (2, 1, (.tmp 4))], none⟩,
    ⟨none, .store 3 (.tmp 2) (.tmp 5), none⟩])
   .ret))⟩


/-- 'chamberlain/theory.and' -/
def m25 : MFunc :=
  ⟨1, 5, [.cell 2 true 3],
   (.seq (.region false [⟨some 2, .alloc [(.int .i64 (0)), (.int .i64 (0)), (.sl [] (some 47))], none⟩])
   (.seq (.region false [⟨some 3, .move (.tmp 0) false, none⟩,
    ⟨some 4, .build [(.int .i64 (0)), (.int .i64 (0)), (.nils 47)] [(0, 1, (.const (.int .i64 (5)))), (2, 1, (.tmp 3))], none⟩,
    ⟨none, .store 3 (.tmp 2) (.tmp 4), none⟩])
   .ret))⟩

def o26_0 : List MOper :=
  [⟨some 5, .load true 3 (.tmp 2) false, none⟩,
    ⟨some 6, .call 24 [(.tmp 5)], none⟩,
    ⟨some 7, .load true 3 (.tmp 3) false, none⟩,
    ⟨some 8, .buildSlice 47 3 2 [(.int .i64 (0)), (.int .i64 (0)), (.sl [] (some 47))] [(0, (.tmp 6)), (1, (.tmp 7))], none⟩,
    ⟨some 9, .call 61 [(.tmp 8)], none⟩,
    ⟨none, .store 3 (.tmp 4) (.tmp 9), none⟩]

def o26_1 : List MOper :=
  [⟨some 5, .loadL true 3 (.tmp 2), none⟩,
    ⟨some 6, .callS 24 [(.tmp 5)], none⟩,
    ⟨some 7, .loadL true 3 (.tmp 3), none⟩,
    ⟨some 8, .buildSlice 47 3 2 [(.int .i64 (0)), (.int .i64 (0)), (.sl [] (some 47))] [(0, (.tmp 6)), (1, (.tmp 7))], none⟩,
    ⟨some 9, .callS 61 [(.tmp 8)], none⟩,
    ⟨none, .store 3 (.tmp 4) (.tmp 9), none⟩]

/-- 'chamberlain/theory.then' -/
def m26 : MFunc :=
  ⟨2, 10, [.cell 4 true 3],
   (.seq (.region false [⟨some 2, .box (.tmp 0), none⟩,
    ⟨some 3, .box (.tmp 1), none⟩,
    ⟨some 4, .alloc [(.int .i64 (0)), (.int .i64 (0)), (.sl [] (some 47))], none⟩])
   (.seq (.regionQ [(false, o26_1), (true, o26_0)] o26_0 [[], [0], [], [1, 2], [3, 1], [4, 4, 0, 1, 2, 3, 4]])
   .ret))⟩

def o27_0 : List MOper :=
  [⟨some 44, .move (.tmp 3) true, none⟩,
    ⟨some 45, .move (.tmp 0) false, none⟩,
    ⟨some 46, .load true 7 (.tmp 5) false, none⟩,
    ⟨some 47, .call 58 [(.tmp 45), (.tmp 46)], none⟩,
    ⟨some 48, .move (.tmp 0) false, none⟩,
    ⟨some 49, .load true 7 (.tmp 7) false, none⟩,
    ⟨some 50, .call 58 [(.tmp 48), (.tmp 49)], none⟩,
    ⟨some 51, .buildSlice 47 3 2 [(.int .i64 (0)), (.int .i64 (0)), (.sl [] (some 47))] [(0, (.tmp 47)), (1, (.tmp 50))], none⟩,
    ⟨some 52, .call 25 [(.tmp 51)], none⟩,
    ⟨some 53, .call 24 [(.tmp 52)], none⟩,
    ⟨some 54, .buildSlice 47 3 1 [(.int .i64 (0)), (.int .i64 (0)), (.sl [] (some 47))] [(0, (.tmp 53))], none⟩,
    ⟨some 55, .append 47 3 40 false (.tmp 44) (.tmp 54), none⟩,
    ⟨some 3, .assign (.tmp 55), none⟩]

def o27_1 : List MOper :=
  [⟨some 44, .move (.tmp 3) true, none⟩,
    ⟨some 45, .move (.tmp 0) false, none⟩,
    ⟨some 46, .loadL true 7 (.tmp 5), none⟩,
    ⟨some 47, .callS 58 [(.tmp 45), (.tmp 46)], none⟩,
    ⟨some 48, .move (.tmp 0) false, none⟩,
    ⟨some 49, .loadL true 7 (.tmp 7), none⟩,
    ⟨some 50, .callS 58 [(.tmp 48), (.tmp 49)], none⟩,
    ⟨some 51, .buildSlice 47 3 2 [(.int .i64 (0)), (.int .i64 (0)), (.sl [] (some 47))] [(0, (.tmp 47)), (1, (.tmp 50))], none⟩,
    ⟨some 52, .callS 25 [(.tmp 51)], none⟩,
    ⟨some 53, .callS 24 [(.tmp 52)], none⟩,
    ⟨some 54, .buildSlice 47 3 1 [(.int .i64 (0)), (.int .i64 (0)), (.sl [] (some 47))] [(0, (.tmp 53))], none⟩,
    ⟨some 55, .append 47 3 40 false (.tmp 44) (.tmp 54), none⟩,
    ⟨some 3, .assign (.tmp 55), none⟩]

def l27_2 : MCode :=
   (.seq (.region false [⟨some 26, .bin .lss (.tmp 25) (.tmp 24), none⟩])
   (.seq (.cond (.tmp 26) .skip (.exit 2))
   (.seq (.block 3 (.seq (.region false [⟨some 27, .indexAddr 7 (.tmp 23) (.tmp 25), none⟩,
    ⟨some 28, .load true 7 (.tmp 27) false, none⟩,
    ⟨some 7, .alloc [(.int .i64 (0)), (.str []), (.str []), (.str []), (.str []), (.str []), (.str [])], none⟩,
    ⟨none, .store 7 (.tmp 7) (.tmp 28), none⟩])
   (.seq (.region false [⟨some 29, .fieldAddr 0 (.tmp 5), none⟩,
    ⟨some 30, .load false 1 (.tmp 29) false, none⟩,
    ⟨some 31, .bin .eql (.tmp 30) (.const (.int .i64 (7))), none⟩,
    ⟨some 32, .move (.tmp 31) false, none⟩,
    ⟨some 33, .fieldAddr 0 (.tmp 7), some (32, true)⟩,
    ⟨some 34, .load false 1 (.tmp 33) false, some (32, true)⟩,
    ⟨some 35, .bin .eql (.tmp 34) (.const (.int .i64 (7))), some (32, true)⟩,
    ⟨some 36, .pick (.tmp 32) (.tmp 35) (.const (.bool false)), none⟩,
    ⟨some 37, .move (.tmp 36) false, none⟩,
    ⟨some 38, .fieldAddr 5 (.tmp 5), some (37, true)⟩,
    ⟨some 39, .load false 1 (.tmp 38) false, some (37, true)⟩,
    ⟨some 40, .fieldAddr 5 (.tmp 7), some (37, true)⟩,
    ⟨some 41, .load false 1 (.tmp 40) false, some (37, true)⟩,
    ⟨some 42, .bin .eql (.tmp 39) (.tmp 41), some (37, true)⟩,
    ⟨some 43, .pick (.tmp 37) (.tmp 42) (.const (.bool false)), none⟩])
   (.cond (.tmp 43) (.regionQ [(false, o27_1), (true, o27_0)] o27_0 [[], [], [], [1, 2], [], [], [4, 5, 3], [3, 6], [7, 6], [8, 8], [9], [0, 10, 9], [11, 11, 0, 1, 2, 3, 4, 5, 6, 7, 8, 9, 10, 11]]) .skip))))
   (.region false [⟨some 56, .bin .add (.tmp 25) (.const (.int .i64 (1))), none⟩,
    ⟨some 25, .move (.tmp 56) false, none⟩]))))

def l27_3 : MCode :=
   (.seq (.region false [⟨some 14, .bin .lss (.tmp 13) (.tmp 12), none⟩])
   (.seq (.cond (.tmp 14) .skip (.exit 0))
   (.seq (.block 1 (.seq (.region false [⟨some 15, .move (.tmp 13) false, none⟩,
    ⟨some 16, .indexAddr 7 (.tmp 11) (.tmp 13), none⟩,
    ⟨some 17, .load true 7 (.tmp 16) false, none⟩,
    ⟨some 5, .alloc [(.int .i64 (0)), (.str []), (.str []), (.str []), (.str []), (.str []), (.str [])], none⟩,
    ⟨some 4, .assign (.tmp 15), none⟩,
    ⟨none, .store 7 (.tmp 5) (.tmp 17), none⟩])
   (.seq (.region false [⟨some 18, .move (.tmp 0) false, none⟩,
    ⟨some 19, .nilCheck (.tmp 18), none⟩,
    ⟨some 20, .fieldAddr 5 (.tmp 19), none⟩,
    ⟨some 21, .load false 1 (.tmp 20) false, none⟩,
    ⟨some 22, .move (.tmp 4) false, none⟩,
    ⟨some 23, .slice 7 (.tmp 21) none (some (.tmp 22)), none⟩,
    ⟨some 24, .len 0 (.tmp 23), none⟩,
    ⟨some 25, .move (.const (.int .i64 (0))) false, none⟩])
   (.block 2 (.loop [3, 11, 0, 12, 13, 23, 5, 25, 24, 2] l27_2)))))
   (.region false [⟨some 57, .bin .add (.tmp 13) (.const (.int .i64 (1))), none⟩,
    ⟨some 13, .move (.tmp 57) false, none⟩]))))

/-- '(*chamberlain/theory.book).words' -/
def m27 : MFunc :=
  ⟨1, 59, [.tmp 2],
   (.seq (.region false [⟨some 2, .assign (.const (.sl [] (some 47))), none⟩])
   (.seq (.region false [⟨some 3, .assign (.const (.sl [] (some 47))), none⟩])
   (.seq (.seq (.region false [⟨some 8, .move (.tmp 0) false, none⟩,
    ⟨some 9, .nilCheck (.tmp 8), none⟩,
    ⟨some 10, .fieldAddr 5 (.tmp 9), none⟩,
    ⟨some 11, .load false 1 (.tmp 10) false, none⟩,
    ⟨some 12, .len 0 (.tmp 11), none⟩,
    ⟨some 13, .move (.const (.int .i64 (0))) false, none⟩])
   (.block 0 (.loop [3, 11, 0, 13, 12, 2] l27_3)))
   (.seq (.region false [⟨some 58, .move (.tmp 3) false, none⟩,
    ⟨some 2, .assign (.tmp 58), none⟩])
   .ret))))⟩

def l28_0 : MCode :=
   (.seq (.seq (.region false [⟨some 40, .move (.tmp 10) false, none⟩,
    ⟨some 41, .fieldAddr 20 (.tmp 3), none⟩,
    ⟨some 42, .load false 1 (.tmp 41) false, none⟩,
    ⟨some 43, .len 0 (.tmp 42), none⟩,
    ⟨some 44, .bin .lss (.tmp 40) (.tmp 43), none⟩])
   (.cond (.tmp 44) .skip (.exit 0)))
   (.seq (.block 1 (.seq (.seq (.region false [⟨some 47, .fieldAddr 20 (.tmp 3), none⟩,
    ⟨some 48, .load false 1 (.tmp 47) false, none⟩,
    ⟨some 49, .move (.tmp 10) false, none⟩,
    ⟨some 50, .indexAddr 13 (.tmp 48) (.tmp 49), none⟩,
    ⟨some 51, .fieldAddr 1 (.tmp 50), none⟩,
    ⟨some 52, .load true 12 (.tmp 51) false, none⟩,
    ⟨some 53, .call 64 [(.tmp 52)], none⟩,
    ⟨some 54, .bin .gtr (.tmp 53) (.const (.int .i64 (50))), none⟩])
   (.cond (.tmp 54) (.seq (.region false [⟨some 55, .load true 8 (.tmp 2) false, none⟩,
    ⟨some 56, .call 65 [(.tmp 55)], none⟩,
    ⟨some 57, .extract (.tmp 56) 0, none⟩,
    ⟨some 58, .extract (.tmp 56) 1, none⟩,
    ⟨none, .store 8 (.tmp 4) (.tmp 57), none⟩,
    ⟨some 5, .assign (.tmp 58), none⟩])
   .ret) .skip))
   (.seq (.region false [⟨some 11, .assign (.const (.bool false)), none⟩])
   (.seq (.region false [⟨some 60, .load true 8 (.tmp 2) false, none⟩,
    ⟨some 61, .fieldAddr 20 (.tmp 3), none⟩,
    ⟨some 62, .load false 1 (.tmp 61) false, none⟩,
    ⟨some 63, .move (.tmp 10) false, none⟩,
    ⟨some 64, .indexAddr 13 (.tmp 62) (.tmp 63), none⟩,
    ⟨some 65, .fieldAddr 1 (.tmp 64), none⟩,
    ⟨some 66, .load true 12 (.tmp 65) false, none⟩,
    ⟨some 67, .call 66 [(.tmp 60), (.tmp 66)], none⟩,
    ⟨some 59, .move (.tmp 67) false, none⟩,
    ⟨some 68, .extract (.tmp 59) 0, none⟩,
    ⟨some 69, .extract (.tmp 59) 1, none⟩,
    ⟨none, .store 8 (.tmp 2) (.tmp 68), none⟩,
    ⟨some 11, .assign (.tmp 69), none⟩])
   (.region false [⟨some 70, .move (.tmp 9) false, none⟩,
    ⟨some 71, .move (.tmp 70) false, none⟩,
    ⟨some 72, .move (.tmp 11) false, some (71, true)⟩,
    ⟨some 73, .fieldAddr 20 (.tmp 3), some (71, true)⟩,
    ⟨some 74, .load false 1 (.tmp 73) false, some (71, true)⟩,
    ⟨some 75, .move (.tmp 10) false, some (71, true)⟩,
    ⟨some 76, .indexAddr 13 (.tmp 74) (.tmp 75), some (71, true)⟩,
    ⟨some 77, .fieldAddr 0 (.tmp 76), some (71, true)⟩,
    ⟨some 78, .load false 1 (.tmp 77) false, some (71, true)⟩,
    ⟨some 79, .eqb false (.tmp 72) (.tmp 78), some (71, true)⟩,
    ⟨some 80, .pick (.tmp 71) (.tmp 79) (.const (.bool false)), none⟩,
    ⟨some 9, .assign (.tmp 80), none⟩])))))
   (.region false [⟨some 45, .move (.tmp 10) false, none⟩,
    ⟨some 46, .bin .add (.tmp 45) (.const (.int .i64 (1))), none⟩,
    ⟨some 10, .assign (.tmp 46), none⟩])))

/-- 'chamberlain/chamberlainref22.Policy' -/
def m28 : MFunc :=
  ⟨2, 83, [.cell 4 true 8, .tmp 5],
   (.seq (.region false [⟨some 2, .box (.tmp 0), none⟩,
    ⟨some 3, .box (.tmp 1), none⟩,
    ⟨some 4, .alloc [(.sl [] (some 26)), (.sl [] (some 29)), (.str []), (.str []), (.str []), (.sl [] (some 99)), (.sl [] (some 4)), (.bool false)], none⟩,
    ⟨some 5, .assign (.const (.bool false)), none⟩])
   (.seq (.region false [⟨some 13, .load true 8 (.tmp 2) false, none⟩,
    ⟨some 14, .fieldAddr 2 (.tmp 3), none⟩,
    ⟨some 15, .load true 6 (.tmp 14) false, none⟩,
    ⟨some 16, .call 62 [(.tmp 13), (.tmp 15), (.const (.int .i64 (1)))], none⟩,
    ⟨some 12, .move (.tmp 16) false, none⟩,
    ⟨some 17, .extract (.tmp 12) 0, none⟩,
    ⟨some 18, .extract (.tmp 12) 1, none⟩,
    ⟨none, .store 8 (.tmp 2) (.tmp 17), none⟩,
    ⟨some 6, .assign (.tmp 18), none⟩])
   (.seq (.region false [⟨some 20, .load true 8 (.tmp 2) false, none⟩,
    ⟨some 21, .fieldAddr 8 (.tmp 3), none⟩,
    ⟨some 22, .load true 6 (.tmp 21) false, none⟩,
    ⟨some 23, .call 63 [(.tmp 20), (.tmp 22)], none⟩,
    ⟨some 19, .move (.tmp 23) false, none⟩,
    ⟨some 24, .extract (.tmp 19) 0, none⟩,
    ⟨some 25, .extract (.tmp 19) 1, none⟩,
    ⟨none, .store 8 (.tmp 2) (.tmp 24), none⟩,
    ⟨some 7, .assign (.tmp 25), none⟩])
   (.seq (.region false [⟨some 27, .load true 8 (.tmp 2) false, none⟩,
    ⟨some 28, .fieldAddr 14 (.tmp 3), none⟩,
    ⟨some 29, .load true 6 (.tmp 28) false, none⟩,
    ⟨some 30, .call 62 [(.tmp 27), (.tmp 29), (.const (.int .i64 (3)))], none⟩,
    ⟨some 26, .move (.tmp 30) false, none⟩,
    ⟨some 31, .extract (.tmp 26) 0, none⟩,
    ⟨some 32, .extract (.tmp 26) 1, none⟩,
    ⟨none, .store 8 (.tmp 2) (.tmp 31), none⟩,
    ⟨some 8, .assign (.tmp 32), none⟩])
   (.seq (.region false [⟨some 33, .move (.tmp 6) false, none⟩,
    ⟨some 34, .move (.tmp 33) false, none⟩,
    ⟨some 35, .move (.tmp 7) false, some (34, true)⟩,
    ⟨some 36, .pick (.tmp 34) (.tmp 35) (.const (.bool false)), none⟩,
    ⟨some 37, .move (.tmp 36) false, none⟩,
    ⟨some 38, .move (.tmp 8) false, some (37, true)⟩,
    ⟨some 39, .pick (.tmp 37) (.tmp 38) (.const (.bool false)), none⟩,
    ⟨some 9, .assign (.tmp 39), none⟩])
   (.seq (.seq (.region false [⟨some 10, .assign (.const (.int .i64 (0))), none⟩])
   (.block 0 (.loop [9, 2, 3, 10, 5, 4] l28_0)))
   (.seq (.region false [⟨some 81, .load true 8 (.tmp 2) false, none⟩,
    ⟨some 82, .move (.tmp 9) false, none⟩,
    ⟨none, .store 8 (.tmp 4) (.tmp 81), none⟩,
    ⟨some 5, .assign (.tmp 82), none⟩])
   .ret)))))))⟩

def l29_0 : MCode :=
   (.seq (.seq (.region false [⟨some 9, .move (.tmp 8) false, none⟩,
    ⟨some 10, .move (.tmp 0) false, none⟩,
    ⟨some 11, .len 0 (.tmp 10), none⟩,
    ⟨some 12, .bin .lss (.tmp 9) (.tmp 11), none⟩])
   (.cond (.tmp 12) .skip (.exit 0)))
   (.seq (.block 1 (.seq (.seq (.region false [⟨some 15, .move (.tmp 0) false, none⟩,
    ⟨some 16, .move (.tmp 8) false, none⟩,
    ⟨some 17, .indexAddr 7 (.tmp 15) (.tmp 16), none⟩,
    ⟨some 18, .fieldAddr 0 (.tmp 17), none⟩,
    ⟨some 19, .load false 1 (.tmp 18) false, none⟩,
    ⟨some 20, .move (.tmp 1) false, none⟩,
    ⟨some 21, .bin .lss (.tmp 19) (.tmp 20), none⟩,
    ⟨some 22, .move (.tmp 21) false, none⟩,
    ⟨some 23, .move (.tmp 0) false, some (22, false)⟩,
    ⟨some 24, .move (.tmp 8) false, some (22, false)⟩,
    ⟨some 25, .indexAddr 7 (.tmp 23) (.tmp 24), some (22, false)⟩,
    ⟨some 26, .fieldAddr 0 (.tmp 25), some (22, false)⟩,
    ⟨some 27, .load false 1 (.tmp 26) false, some (22, false)⟩,
    ⟨some 28, .move (.tmp 2) false, some (22, false)⟩,
    ⟨some 29, .bin .gtr (.tmp 27) (.tmp 28), some (22, false)⟩,
    ⟨some 30, .pick (.tmp 22) (.const (.bool true)) (.tmp 29), none⟩])
   (.cond (.tmp 30) (.exit 1) .skip))
   (.seq (.region false [⟨some 31, .move (.tmp 7) false, none⟩,
    ⟨some 32, .move (.tmp 0) false, none⟩,
    ⟨some 33, .move (.tmp 8) false, none⟩,
    ⟨some 34, .indexAddr 7 (.tmp 32) (.tmp 33), none⟩,
    ⟨some 35, .fieldAddr 1 (.tmp 34), none⟩,
    ⟨some 36, .load true 2 (.tmp 35) false, none⟩,
    ⟨some 37, .call 67 [(.tmp 31), (.tmp 36)], none⟩,
    ⟨some 7, .assign (.tmp 37), none⟩])
   (.seq (.region false [⟨some 38, .move (.tmp 0) false, none⟩,
    ⟨some 39, .move (.tmp 8) false, none⟩,
    ⟨some 40, .indexAddr 7 (.tmp 38) (.tmp 39), none⟩,
    ⟨some 41, .fieldAddr 0 (.tmp 40), none⟩,
    ⟨some 42, .load false 1 (.tmp 41) false, none⟩,
    ⟨some 43, .bin .eql (.tmp 42) (.const (.int .i64 (5))), none⟩])
   (.cond (.tmp 43) (.region false [⟨some 44, .move (.tmp 7) false, none⟩,
    ⟨some 45, .move (.tmp 0) false, none⟩,
    ⟨some 46, .move (.tmp 8) false, none⟩,
    ⟨some 47, .indexAddr 7 (.tmp 45) (.tmp 46), none⟩,
    ⟨some 48, .fieldAddr 3 (.tmp 47), none⟩,
    ⟨some 49, .load true 2 (.tmp 48) false, none⟩,
    ⟨some 50, .call 67 [(.tmp 44), (.tmp 49)], none⟩,
    ⟨some 7, .assign (.tmp 50), none⟩]) .skip)))))
   (.region false [⟨some 13, .move (.tmp 8) false, none⟩,
    ⟨some 14, .bin .add (.tmp 13) (.const (.int .i64 (1))), none⟩,
    ⟨some 8, .assign (.tmp 14), none⟩])))

/-- 'chamberlain/chamberlainref22.names' -/
def m29 : MFunc :=
  ⟨3, 52, [.tmp 6],
   (.seq (.region false [⟨some 6, .assign (.const (.sl [] (some 37))), none⟩])
   (.seq (.region false [⟨some 7, .assign (.const (.sl [] (some 37))), none⟩])
   (.seq (.seq (.region false [⟨some 8, .assign (.const (.int .i64 (0))), none⟩])
   (.block 0 (.loop [7, 1, 2, 0, 8, 6] l29_0)))
   (.seq (.region false [⟨some 51, .move (.tmp 7) false, none⟩,
    ⟨some 6, .assign (.tmp 51), none⟩])
   .ret))))⟩

def o30_0 : List MOper :=
  [⟨some 8, .fieldAddr 0 (.tmp 5), none⟩,
    ⟨some 9, .load false 1 (.tmp 8) false, none⟩,
    ⟨some 10, .load true 8 (.tmp 3) false, none⟩,
    ⟨some 11, .move (.tmp 1) false, none⟩,
    ⟨some 12, .call 68 [(.tmp 10), (.tmp 11)], none⟩,
    ⟨some 13, .bin .neq (.tmp 9) (.tmp 12), none⟩]

def o30_1 : List MOper :=
  [⟨some 8, .fieldAddr 0 (.tmp 5), none⟩,
    ⟨some 9, .loadL false 1 (.tmp 8), none⟩,
    ⟨some 10, .loadL true 8 (.tmp 3), none⟩,
    ⟨some 11, .move (.tmp 1) false, none⟩,
    ⟨some 12, .callS 68 [(.tmp 10), (.tmp 11)], none⟩,
    ⟨some 13, .bin .neq (.tmp 9) (.tmp 12), none⟩]

/-- 'chamberlain/chamberlainref22.Is' -/
def m30 : MFunc :=
  ⟨3, 22, [.cell 6 true 8, .tmp 7],
   (.seq (.region false [⟨some 3, .box (.tmp 0), none⟩,
    ⟨some 5, .box (.tmp 2), none⟩,
    ⟨some 6, .alloc [(.sl [] (some 26)), (.sl [] (some 29)), (.str []), (.str []), (.str []), (.sl [] (some 99)), (.sl [] (some 4)), (.bool false)], none⟩,
    ⟨some 7, .assign (.const (.bool false)), none⟩])
   (.seq (.seq (.regionQ [(false, o30_1), (true, o30_0)] o30_0 [[], [0], [], [], [2, 3], [1, 4]])
   (.cond (.tmp 13) (.seq (.region false [⟨some 14, .load true 8 (.tmp 3) false, none⟩,
    ⟨none, .store 8 (.tmp 6) (.tmp 14), none⟩,
    ⟨some 7, .assign (.const (.bool false)), none⟩])
   .ret) .skip))
   (.seq (.region false [⟨some 15, .load true 8 (.tmp 3) false, none⟩,
    ⟨some 16, .move (.tmp 1) false, none⟩,
    ⟨some 17, .load true 2 (.tmp 5) false, none⟩,
    ⟨some 18, .build [(.int .i64 (0)), (.str []), (.str []), (.str []), (.str []), (.str []), (.str [])] [(0, 1, (.tmp 16)), (1, 2, (.tmp 17))], none⟩,
    ⟨some 19, .call 69 [(.tmp 15), (.tmp 18)], none⟩,
    ⟨some 20, .extract (.tmp 19) 0, none⟩,
    ⟨some 21, .extract (.tmp 19) 1, none⟩,
    ⟨none, .store 8 (.tmp 6) (.tmp 20), none⟩,
    ⟨some 7, .assign (.tmp 21), none⟩])
   .ret)))⟩


/-- 'chamberlain/chamberlainref22.In' -/
def m31 : MFunc :=
  ⟨3, 33, [.cell 6 true 8, .tmp 7],
   (.seq (.region false [⟨some 3, .box (.tmp 0), none⟩,
    ⟨some 5, .box (.tmp 2), none⟩,
    ⟨some 6, .alloc [(.sl [] (some 26)), (.sl [] (some 29)), (.str []), (.str []), (.str []), (.sl [] (some 99)), (.sl [] (some 4)), (.bool false)], none⟩,
    ⟨some 7, .assign (.const (.bool false)), none⟩])
   (.seq (.region false [⟨some 10, .load true 8 (.tmp 3) false, none⟩,
    ⟨some 11, .move (.tmp 1) false, none⟩,
    ⟨some 12, .call 68 [(.tmp 10), (.tmp 11)], none⟩,
    ⟨some 8, .assign (.tmp 12), none⟩])
   (.seq (.region false [⟨some 13, .load true 8 (.tmp 3) false, none⟩,
    ⟨some 14, .move (.tmp 8) false, none⟩,
    ⟨some 15, .fieldAddr 0 (.tmp 5), none⟩,
    ⟨some 16, .load false 1 (.tmp 15) false, none⟩,
    ⟨some 17, .call 70 [(.tmp 13), (.tmp 14), (.tmp 16)], none⟩,
    ⟨some 9, .assign (.tmp 17), none⟩])
   (.seq (.seq (.region false [⟨some 18, .move (.tmp 9) false, none⟩])
   (.cond (.tmp 18) (.seq (.region false [⟨some 19, .load true 8 (.tmp 3) false, none⟩,
    ⟨some 20, .move (.tmp 1) false, none⟩,
    ⟨some 21, .bin .add (.tmp 20) (.const (.int .i64 (1))), none⟩,
    ⟨some 22, .load true 2 (.tmp 5) false, none⟩,
    ⟨some 23, .build [(.int .i64 (0)), (.str []), (.str []), (.str []), (.str []), (.str []), (.str [])] [(0, 1, (.tmp 21)), (1, 2, (.tmp 22))], none⟩,
    ⟨some 24, .call 69 [(.tmp 19), (.tmp 23)], none⟩,
    ⟨some 25, .extract (.tmp 24) 0, none⟩,
    ⟨some 26, .extract (.tmp 24) 1, none⟩,
    ⟨none, .store 8 (.tmp 6) (.tmp 25), none⟩,
    ⟨some 7, .assign (.tmp 26), none⟩])
   .ret) .skip))
   (.seq (.region false [⟨some 27, .load true 8 (.tmp 3) false, none⟩,
    ⟨some 28, .move (.tmp 1) false, none⟩,
    ⟨some 29, .load true 2 (.tmp 5) false, none⟩,
    ⟨some 30, .call 30 [(.tmp 27), (.tmp 28), (.tmp 29)], none⟩,
    ⟨some 31, .extract (.tmp 30) 0, none⟩,
    ⟨some 32, .extract (.tmp 30) 1, none⟩,
    ⟨none, .store 8 (.tmp 6) (.tmp 31), none⟩,
    ⟨some 7, .assign (.tmp 32), none⟩])
   .ret)))))⟩

def o32_0 : List MOper :=
  [⟨some 21, .load true 8 (.tmp 3) false, none⟩,
    ⟨some 22, .fieldAddr 0 (.tmp 3), none⟩,
    ⟨some 23, .load true 2 (.tmp 22) false, none⟩,
    ⟨some 24, .fieldAddr 1 (.tmp 4), none⟩,
    ⟨some 25, .load false 1 (.tmp 24) false, none⟩,
    ⟨some 26, .fieldAddr 1 (.tmp 5), none⟩,
    ⟨some 27, .load false 1 (.tmp 26) false, none⟩,
    ⟨some 28, .call 71 [(.tmp 23), (.tmp 25), (.tmp 27)], none⟩,
    ⟨none, .store 8 (.tmp 6) (.tmp 21), none⟩,
    ⟨some 7, .assign (.tmp 28), none⟩]

def o32_1 : List MOper :=
  [⟨some 21, .loadL true 8 (.tmp 3), none⟩,
    ⟨some 22, .fieldAddr 0 (.tmp 3), none⟩,
    ⟨some 23, .loadL true 2 (.tmp 22), none⟩,
    ⟨some 24, .fieldAddr 1 (.tmp 4), none⟩,
    ⟨some 25, .loadL false 1 (.tmp 24), none⟩,
    ⟨some 26, .fieldAddr 1 (.tmp 5), none⟩,
    ⟨some 27, .loadL false 1 (.tmp 26), none⟩,
    ⟨some 28, .callS 71 [(.tmp 23), (.tmp 25), (.tmp 27)], none⟩,
    ⟨none, .store 8 (.tmp 6) (.tmp 21), none⟩,
    ⟨some 7, .assign (.tmp 28), none⟩]

/-- 'chamberlain/chamberlainref22.Under' -/
def m32 : MFunc :=
  ⟨3, 45, [.cell 6 true 8, .tmp 7],
   (.seq (.region false [⟨some 3, .box (.tmp 0), none⟩,
    ⟨some 4, .box (.tmp 1), none⟩,
    ⟨some 5, .box (.tmp 2), none⟩,
    ⟨some 6, .alloc [(.sl [] (some 26)), (.sl [] (some 29)), (.str []), (.str []), (.str []), (.sl [] (some 99)), (.sl [] (some 4)), (.bool false)], none⟩,
    ⟨some 7, .assign (.const (.bool false)), none⟩])
   (.seq (.seq (.region false [⟨some 9, .load true 2 (.tmp 4) false, none⟩,
    ⟨some 10, .load true 2 (.tmp 5) false, none⟩,
    ⟨some 11, .eqA 34 false (.tmp 9) (.tmp 10), none⟩])
   (.cond (.tmp 11) (.seq (.region false [⟨some 12, .load true 8 (.tmp 3) false, none⟩,
    ⟨none, .store 8 (.tmp 6) (.tmp 12), none⟩,
    ⟨some 7, .assign (.const (.bool true)), none⟩])
   .ret) .skip))
   (.seq (.seq (.region false [⟨some 13, .fieldAddr 0 (.tmp 4), none⟩,
    ⟨some 14, .load false 1 (.tmp 13) false, none⟩,
    ⟨some 15, .bin .eql (.tmp 14) (.const (.str [65, 99, 116, 105, 111, 110])), none⟩,
    ⟨some 16, .move (.tmp 15) false, none⟩,
    ⟨some 17, .fieldAddr 0 (.tmp 5), some (16, true)⟩,
    ⟨some 18, .load false 1 (.tmp 17) false, some (16, true)⟩,
    ⟨some 19, .bin .eql (.tmp 18) (.const (.str [65, 99, 116, 105, 111, 110])), some (16, true)⟩,
    ⟨some 20, .pick (.tmp 16) (.tmp 19) (.const (.bool false)), none⟩])
   (.cond (.tmp 20) (.seq (.regionQ [(false, o32_1), (true, o32_0)] o32_0 [[], [], [1], [], [3], [], [5], [2, 4, 6], [0, 7, 0], [7, 8, 0, 1, 2, 3, 4, 5, 6, 7, 8]])
   .ret) .skip))
   (.seq (.region false [⟨some 29, .load true 8 (.tmp 3) false, none⟩,
    ⟨some 30, .fieldAddr 0 (.tmp 4), none⟩,
    ⟨some 31, .load false 1 (.tmp 30) false, none⟩,
    ⟨some 32, .fieldAddr 0 (.tmp 5), none⟩,
    ⟨some 33, .load false 1 (.tmp 32) false, none⟩,
    ⟨some 34, .call 70 [(.tmp 29), (.tmp 31), (.tmp 33)], none⟩,
    ⟨some 8, .assign (.tmp 34), none⟩])
   (.seq (.seq (.region false [⟨some 35, .move (.tmp 8) false, none⟩,
    ⟨some 36, .un .not (.tmp 35), none⟩])
   (.cond (.tmp 36) (.seq (.region false [⟨some 37, .load true 8 (.tmp 3) false, none⟩,
    ⟨none, .store 8 (.tmp 6) (.tmp 37), none⟩,
    ⟨some 7, .assign (.const (.bool false)), none⟩])
   .ret) .skip))
   (.seq (.region false [⟨some 38, .load true 8 (.tmp 3) false, none⟩,
    ⟨some 39, .load true 2 (.tmp 4) false, none⟩,
    ⟨some 40, .load true 2 (.tmp 5) false, none⟩,
    ⟨some 41, .build [(.int .i64 (0)), (.str []), (.str []), (.str []), (.str []), (.str []), (.str [])] [(0, 1, (.const (.int .i64 (5)))), (1, 2, (.tmp 39)), (3, 2, (.tmp 40))], none⟩,
    ⟨some 42, .call 69 [(.tmp 38), (.tmp 41)], none⟩,
    ⟨some 43, .extract (.tmp 42) 0, none⟩,
    ⟨some 44, .extract (.tmp 42) 1, none⟩,
    ⟨none, .store 8 (.tmp 6) (.tmp 43), none⟩,
    ⟨some 7, .assign (.tmp 44), none⟩])
   .ret))))))⟩


/-- 'chamberlain/logic.Eval$1' -/
def m33 : MFunc :=
  ⟨2, 7, [.tmp 3],
   (.seq (.region false [⟨some 2, .box (.tmp 0), none⟩,
    ⟨some 3, .assign (.const (.bool false)), none⟩])
   (.seq (.region false [⟨some 4, .load true 3 (.tmp 2) false, none⟩,
    ⟨some 5, .load false 1 (.tmp 1) false, none⟩,
    ⟨some 6, .call 10 [(.tmp 4), (.tmp 5)], none⟩,
    ⟨some 3, .assign (.tmp 6), none⟩])
   .ret))⟩


/-- 'slices.ContainsFunc[[]chamberlain/logic.F,chamberlain/logic.F]' -/
def m34 : MFunc :=
  ⟨2, 9, [.tmp 4],
   (.seq (.region false [⟨some 4, .assign (.const (.bool false)), none⟩])
   (.seq (.region false [⟨some 5, .move (.tmp 0) false, none⟩,
    ⟨some 6, .move (.tmp 1) false, none⟩,
    ⟨some 7, .call 72 [(.tmp 5), (.tmp 6)], none⟩,
    ⟨some 8, .bin .geq (.tmp 7) (.const (.int .i64 (0))), none⟩,
    ⟨some 4, .assign (.tmp 8), none⟩])
   .ret))⟩


/-- 'chamberlain/logic.Eval$2' -/
def m35 : MFunc :=
  ⟨2, 8, [.tmp 3],
   (.seq (.region false [⟨some 2, .box (.tmp 0), none⟩,
    ⟨some 3, .assign (.const (.bool false)), none⟩])
   (.seq (.region false [⟨some 4, .load false 1 (.tmp 1) false, none⟩,
    ⟨some 5, .load true 3 (.tmp 2) false, none⟩,
    ⟨some 6, .callv (.tmp 4) [(.tmp 5)], none⟩,
    ⟨some 7, .un .not (.tmp 6), none⟩,
    ⟨some 3, .assign (.tmp 7), none⟩])
   .ret))⟩

def l36_0 : MCode :=
   (.seq (.region false [⟨some 9, .bin .lss (.tmp 8) (.tmp 7), none⟩])
   (.seq (.cond (.tmp 9) .skip (.exit 0))
   (.seq (.block 1 (.seq (.region false [⟨some 10, .indexAddr 7 (.tmp 6) (.tmp 8), none⟩,
    ⟨some 11, .load true 7 (.tmp 10) false, none⟩,
    ⟨some 5, .alloc [(.int .i64 (0)), (.str []), (.str []), (.str []), (.str []), (.str []), (.str [])], none⟩,
    ⟨none, .store 7 (.tmp 5) (.tmp 11), none⟩])
   (.region false [⟨some 12, .move (.tmp 3) false, none⟩,
    ⟨some 13, .fieldAddr 1 (.tmp 5), none⟩,
    ⟨some 14, .fieldAddr 1 (.tmp 13), none⟩,
    ⟨some 15, .load false 1 (.tmp 14) false, none⟩,
    ⟨some 16, .len 1 (.tmp 15), none⟩,
    ⟨some 17, .fieldAddr 3 (.tmp 5), none⟩,
    ⟨some 18, .fieldAddr 1 (.tmp 17), none⟩,
    ⟨some 19, .load false 1 (.tmp 18) false, none⟩,
    ⟨some 20, .len 1 (.tmp 19), none⟩,
    ⟨some 21, .fieldAddr 6 (.tmp 5), none⟩,
    ⟨some 22, .load false 1 (.tmp 21) false, none⟩,
    ⟨some 23, .len 1 (.tmp 22), none⟩,
    ⟨some 24, .max [(.tmp 12), (.tmp 16), (.tmp 20), (.tmp 23)], none⟩,
    ⟨some 3, .assign (.tmp 24), none⟩])))
   (.region false [⟨some 25, .bin .add (.tmp 8) (.const (.int .i64 (1))), none⟩,
    ⟨some 8, .move (.tmp 25) false, none⟩]))))

/-- 'chamberlain/theory.longest' -/
def m36 : MFunc :=
  ⟨1, 29, [.tmp 2],
   (.seq (.region false [⟨some 2, .assign (.const (.str [])), none⟩])
   (.seq (.region false [⟨some 3, .assign (.const (.int .i64 (0))), none⟩])
   (.seq (.seq (.region false [⟨some 6, .move (.tmp 0) false, none⟩,
    ⟨some 7, .len 0 (.tmp 6), none⟩,
    ⟨some 8, .move (.const (.int .i64 (0))) false, none⟩])
   (.block 0 (.loop [3, 6, 8, 7, 2] l36_0)))
   (.seq (.region false [⟨some 26, .move (.tmp 3) false, none⟩,
    ⟨some 27, .bin .add (.tmp 26) (.const (.int .i64 (1))), none⟩,
    ⟨some 28, .call 73 [(.const (.str [120])), (.tmp 27)], none⟩,
    ⟨some 2, .assign (.tmp 28), none⟩])
   .ret))))⟩

def o37_0 : List MOper :=
  [⟨some 12, .move (.tmp 1) false, none⟩,
    ⟨some 13, .move (.tmp 0) false, none⟩,
    ⟨some 14, .nilCheck (.tmp 13), none⟩,
    ⟨some 15, .fieldAddr 3 (.tmp 14), none⟩,
    ⟨some 16, .load false 1 (.tmp 15) false, none⟩,
    ⟨some 17, .move (.tmp 0) false, none⟩,
    ⟨some 18, .nilCheck (.tmp 17), none⟩,
    ⟨some 19, .fieldAddr 4 (.tmp 18), none⟩,
    ⟨some 20, .load false 1 (.tmp 19) false, none⟩,
    ⟨some 21, .call 73 [(.const (.str [120])), (.tmp 20)], none⟩,
    ⟨some 22, .bin .add (.tmp 16) (.tmp 21), none⟩,
    ⟨some 23, .build [(.str []), (.str [])] [(0, 1, (.tmp 12)), (1, 1, (.tmp 22))], none⟩,
    ⟨none, .store 2 (.tmp 4) (.tmp 23), none⟩]

def o37_1 : List MOper :=
  [⟨some 12, .move (.tmp 1) false, none⟩,
    ⟨some 13, .move (.tmp 0) false, none⟩,
    ⟨some 14, .nilCheck (.tmp 13), none⟩,
    ⟨some 15, .fieldAddr 3 (.tmp 14), none⟩,
    ⟨some 16, .loadL false 1 (.tmp 15), none⟩,
    ⟨some 17, .move (.tmp 0) false, none⟩,
    ⟨some 18, .nilCheck (.tmp 17), none⟩,
    ⟨some 19, .fieldAddr 4 (.tmp 18), none⟩,
    ⟨some 20, .loadL false 1 (.tmp 19), none⟩,
    ⟨some 21, .callS 73 [(.const (.str [120])), (.tmp 20)], none⟩,
    ⟨some 22, .bin .add (.tmp 16) (.tmp 21), none⟩,
    ⟨some 23, .build [(.str []), (.str [])] [(0, 1, (.tmp 12)), (1, 1, (.tmp 22))], none⟩,
    ⟨none, .store 2 (.tmp 4) (.tmp 23), none⟩]

/-- '(*chamberlain/theory.world).other' -/
def m37 : MFunc :=
  ⟨2, 24, [.cell 4 true 2],
   (.seq (.region false [⟨some 4, .alloc [(.str []), (.str [])], none⟩])
   (.seq (.region false [⟨some 5, .move (.tmp 0) false, none⟩,
    ⟨some 6, .nilCheck (.tmp 5), none⟩,
    ⟨some 7, .fieldAddr 4 (.tmp 6), none⟩,
    ⟨some 8, .load false 1 (.tmp 7) false, none⟩,
    ⟨some 9, .bin .add (.tmp 8) (.const (.int .i64 (1))), none⟩,
    ⟨some 10, .nilCheck (.tmp 5), none⟩,
    ⟨some 11, .fieldAddr 4 (.tmp 10), none⟩,
    ⟨none, .store 1 (.tmp 11) (.tmp 9), none⟩])
   (.seq (.regionQ [(false, o37_1), (true, o37_0)] o37_0 [[], [], [1], [2], [3], [], [5], [6], [7], [8], [4, 9], [0, 10], [11, 9, 0, 1, 2, 3, 4, 5, 6, 7, 8, 9, 10, 11]])
   .ret)))⟩


/-- 'chamberlain/schema.Action' -/
def m38 : MFunc :=
  ⟨2, 19, [.cell 4 true 5, .tmp 5],
   (.seq (.region false [⟨some 2, .box (.tmp 0), none⟩,
    ⟨some 3, .box (.tmp 1), none⟩,
    ⟨some 4, .alloc [(.str []), (.sl [] (some 9)), (.sl [] (some 9)), (.sl [] (some 9)), (.sl [] (some 115))], none⟩,
    ⟨some 5, .assign (.const (.bool false)), none⟩])
   (.seq (.region false [⟨some 7, .fieldAddr 1 (.tmp 2), none⟩,
    ⟨some 8, .load false 1 (.tmp 7) false, none⟩,
    ⟨some 9, .mkfunc 75 [(.tmp 3)], none⟩,
    ⟨some 10, .call 74 [(.tmp 8), (.tmp 9)], none⟩,
    ⟨some 6, .assign (.tmp 10), none⟩])
   (.seq (.seq (.region false [⟨some 11, .move (.tmp 6) false, none⟩,
    ⟨some 12, .bin .lss (.tmp 11) (.const (.int .i64 (0))), none⟩])
   (.cond (.tmp 12) (.seq (.region false [⟨some 13, .build [(.str []), (.nils 9), (.nils 9), (.nils 9), (.nils 115)] [], none⟩,
    ⟨none, .store 5 (.tmp 4) (.tmp 13), none⟩,
    ⟨some 5, .assign (.const (.bool false)), none⟩])
   .ret) .skip))
   (.seq (.region false [⟨some 14, .fieldAddr 1 (.tmp 2), none⟩,
    ⟨some 15, .load false 1 (.tmp 14) false, none⟩,
    ⟨some 16, .move (.tmp 6) false, none⟩,
    ⟨some 17, .indexAddr 5 (.tmp 15) (.tmp 16), none⟩,
    ⟨some 18, .load true 5 (.tmp 17) false, none⟩,
    ⟨none, .store 5 (.tmp 4) (.tmp 18), none⟩,
    ⟨some 5, .assign (.const (.bool true)), none⟩])
   .ret))))⟩


/-- 'chamberlain/theory.Model$1' -/
def m40 : MFunc :=
  ⟨2, 14, [.tmp 3],
   (.seq (.region false [⟨some 3, .assign (.const (.bool false)), none⟩])
   (.seq (.region false [⟨some 4, .move (.tmp 0) false, none⟩,
    ⟨some 5, .load false 1 (.tmp 1) false, none⟩,
    ⟨some 6, .len 0 (.tmp 5), none⟩,
    ⟨some 7, .bin .lss (.tmp 4) (.tmp 6), none⟩,
    ⟨some 8, .move (.tmp 7) false, none⟩,
    ⟨some 9, .load false 1 (.tmp 1) false, some (8, true)⟩,
    ⟨some 10, .move (.tmp 0) false, some (8, true)⟩,
    ⟨some 11, .indexAddr 1 (.tmp 9) (.tmp 10), some (8, true)⟩,
    ⟨some 12, .load false 1 (.tmp 11) false, some (8, true)⟩,
    ⟨some 13, .pick (.tmp 8) (.tmp 12) (.const (.bool false)), none⟩,
    ⟨some 3, .assign (.tmp 13), none⟩])
   .ret))⟩
end Go.Abs.T
