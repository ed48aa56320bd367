import Derived.Test.YtnjoledlgacpeaaSem
set_option linter.unusedVariables false
set_option linter.unusedSimpArgs false
/-
  The machine code of functions of the given program: printed by a program.
-/
namespace Go.Abs.C
open Go Go.Abs

/-- 'chamberlain/chamberlainlaw24.QuotaPlays' -/
def m3 : MFunc :=
  ⟨1, 17, [.tmp 2],
   (.seq (.region false [⟨some 2, .assign (.const (.bool false)), none⟩])
   (.seq (.region false [⟨some 6, .call 9 [], none⟩,
    ⟨some 3, .assign (.tmp 6), none⟩])
   (.seq (.seq (.region false [⟨some 7, .move (.tmp 3) false, none⟩,
    ⟨some 8, .un .not (.tmp 7), none⟩])
   (.cond (.tmp 8) (.seq (.region false [⟨some 2, .assign (.const (.bool false)), none⟩])
   .ret) .skip))
   (.seq (.region false [⟨some 10, .call 11 [], none⟩,
    ⟨some 11, .build [(.nils 81), (.nils 83)] [], none⟩,
    ⟨some 12, .move (.tmp 0) false, none⟩,
    ⟨some 13, .call 10 [(.tmp 10), (.tmp 11), (.tmp 12)], none⟩,
    ⟨some 9, .move (.tmp 13) false, none⟩,
    ⟨some 14, .extract (.tmp 9) 0, none⟩,
    ⟨some 15, .extract (.tmp 9) 1, none⟩,
    ⟨some 4, .alloc [(.sl [] (some 81)), (.sl [] (some 83))], none⟩,
    ⟨none, .store 2 (.tmp 4) (.tmp 14), none⟩,
    ⟨some 5, .assign (.tmp 15), none⟩])
   (.seq (.region false [⟨some 16, .move (.tmp 5) false, none⟩,
    ⟨some 2, .assign (.tmp 16), none⟩])
   .ret)))))⟩

def l4_0 : MCode :=
   (.seq (.seq (.region false [⟨some 114, .move (.tmp 15) false, none⟩,
    ⟨some 115, .move (.tmp 7) false, none⟩,
    ⟨some 116, .len 0 (.tmp 115), none⟩,
    ⟨some 117, .bin .lss (.tmp 114) (.tmp 116), none⟩])
   (.cond (.tmp 117) .skip (.exit 9)))
   (.seq (.block 10 (.seq (.region false [⟨some 120, .move (.tmp 7) false, none⟩,
    ⟨some 121, .move (.tmp 15) false, none⟩,
    ⟨some 122, .indexAddr 4 (.tmp 120) (.tmp 121), none⟩,
    ⟨some 123, .fieldAddr 0 (.tmp 122), none⟩,
    ⟨some 124, .load false 1 (.tmp 123) false, none⟩,
    ⟨some 125, .move (.tmp 12) false, none⟩,
    ⟨some 126, .bin .eql (.tmp 124) (.tmp 125), none⟩])
   (.cond (.tmp 126) (.region false [⟨some 127, .move (.tmp 7) false, none⟩,
    ⟨some 128, .move (.tmp 15) false, none⟩,
    ⟨some 129, .indexAddr 4 (.tmp 127) (.tmp 128), none⟩,
    ⟨some 130, .fieldAddr 1 (.tmp 129), none⟩,
    ⟨some 131, .load false 1 (.tmp 130) false, none⟩,
    ⟨some 14, .assign (.tmp 131), none⟩]) .skip)))
   (.region false [⟨some 118, .move (.tmp 15) false, none⟩,
    ⟨some 119, .bin .add (.tmp 118) (.const (.int .i64 (1))), none⟩,
    ⟨some 15, .assign (.tmp 119), none⟩])))

def l4_1 : MCode :=
   (.seq (.seq (.region false [⟨some 90, .move (.tmp 13) false, none⟩,
    ⟨some 91, .move (.tmp 7) false, none⟩,
    ⟨some 92, .len 0 (.tmp 91), none⟩,
    ⟨some 93, .bin .leq (.tmp 90) (.tmp 92), none⟩,
    ⟨some 94, .move (.tmp 93) false, none⟩,
    ⟨some 95, .move (.tmp 12) false, some (94, true)⟩,
    ⟨some 96, .bin .neq (.tmp 95) (.const (.str [])), some (94, true)⟩,
    ⟨some 97, .pick (.tmp 94) (.tmp 96) (.const (.bool false)), none⟩])
   (.cond (.tmp 97) .skip (.exit 7)))
   (.seq (.block 8 (.seq (.seq (.region false [⟨some 100, .move (.tmp 12) false, none⟩,
    ⟨some 101, .move (.tmp 7) false, none⟩,
    ⟨some 102, .move (.tmp 9) false, none⟩,
    ⟨some 103, .indexAddr 4 (.tmp 101) (.tmp 102), none⟩,
    ⟨some 104, .fieldAddr 0 (.tmp 103), none⟩,
    ⟨some 105, .load false 1 (.tmp 104) false, none⟩,
    ⟨some 106, .bin .eql (.tmp 100) (.tmp 105), none⟩])
   (.cond (.tmp 106) (.seq (.region false [⟨some 107, .move (.tmp 10) false, none⟩,
    ⟨some 108, .move (.tmp 8) false, none⟩,
    ⟨some 109, .move (.tmp 11) false, none⟩,
    ⟨some 110, .indexAddr 3 (.tmp 108) (.tmp 109), none⟩,
    ⟨some 111, .fieldAddr 2 (.tmp 110), none⟩,
    ⟨some 112, .load false 1 (.tmp 111) false, none⟩,
    ⟨some 113, .bin .add (.tmp 107) (.tmp 112), none⟩,
    ⟨some 10, .assign (.tmp 113), none⟩])
   (.exit 7)) .skip))
   (.seq (.region false [⟨some 14, .assign (.const (.str [])), none⟩])
   (.seq (.seq (.region false [⟨some 15, .assign (.const (.int .i64 (0))), none⟩])
   (.block 9 (.loop [5, 9, 10, 7, 11, 13, 14, 15, 12, 8, 4, 0, 2] l4_0)))
   (.region false [⟨some 132, .move (.tmp 14) false, none⟩,
    ⟨some 12, .assign (.tmp 132), none⟩])))))
   (.region false [⟨some 98, .move (.tmp 13) false, none⟩,
    ⟨some 99, .bin .add (.tmp 98) (.const (.int .i64 (1))), none⟩,
    ⟨some 13, .assign (.tmp 99), none⟩])))

def l4_2 : MCode :=
   (.seq (.seq (.region false [⟨some 79, .move (.tmp 11) false, none⟩,
    ⟨some 80, .move (.tmp 8) false, none⟩,
    ⟨some 81, .len 0 (.tmp 80), none⟩,
    ⟨some 82, .bin .lss (.tmp 79) (.tmp 81), none⟩])
   (.cond (.tmp 82) .skip (.exit 5)))
   (.seq (.block 6 (.seq (.region false [⟨some 85, .move (.tmp 8) false, none⟩,
    ⟨some 86, .move (.tmp 11) false, none⟩,
    ⟨some 87, .indexAddr 3 (.tmp 85) (.tmp 86), none⟩,
    ⟨some 88, .fieldAddr 1 (.tmp 87), none⟩,
    ⟨some 89, .load false 1 (.tmp 88) false, none⟩,
    ⟨some 12, .assign (.tmp 89), none⟩])
   (.seq (.region false [⟨some 13, .assign (.const (.int .i64 (0))), none⟩])
   (.block 7 (.loop [5, 9, 10, 7, 11, 13, 14, 15, 12, 8, 4, 0, 2] l4_1)))))
   (.region false [⟨some 83, .move (.tmp 11) false, none⟩,
    ⟨some 84, .bin .add (.tmp 83) (.const (.int .i64 (1))), none⟩,
    ⟨some 11, .assign (.tmp 84), none⟩])))

def l4_3 : MCode :=
   (.seq (.seq (.region false [⟨some 73, .move (.tmp 9) false, none⟩,
    ⟨some 74, .move (.tmp 7) false, none⟩,
    ⟨some 75, .len 0 (.tmp 74), none⟩,
    ⟨some 76, .bin .lss (.tmp 73) (.tmp 75), none⟩])
   (.cond (.tmp 76) .skip (.exit 3)))
   (.seq (.block 4 (.seq (.region false [⟨some 10, .assign (.const (.int .i64 (0))), none⟩])
   (.seq (.seq (.region false [⟨some 11, .assign (.const (.int .i64 (0))), none⟩])
   (.block 5 (.loop [5, 9, 10, 7, 11, 13, 14, 15, 12, 8, 4, 0, 2] l4_2)))
   (.seq (.region false [⟨some 133, .move (.tmp 7) false, none⟩,
    ⟨some 134, .move (.tmp 9) false, none⟩,
    ⟨some 135, .indexAddr 4 (.tmp 133) (.tmp 134), none⟩,
    ⟨some 136, .fieldAddr 3 (.tmp 135), none⟩,
    ⟨some 137, .load false 1 (.tmp 136) false, none⟩,
    ⟨some 138, .move (.tmp 10) false, none⟩,
    ⟨some 139, .bin .neq (.tmp 137) (.tmp 138), none⟩,
    ⟨some 140, .move (.tmp 139) false, none⟩,
    ⟨some 141, .move (.tmp 10) false, some (140, false)⟩,
    ⟨some 142, .move (.tmp 7) false, some (140, false)⟩,
    ⟨some 143, .move (.tmp 9) false, some (140, false)⟩,
    ⟨some 144, .indexAddr 4 (.tmp 142) (.tmp 143), some (140, false)⟩,
    ⟨some 145, .fieldAddr 2 (.tmp 144), some (140, false)⟩,
    ⟨some 146, .load false 1 (.tmp 145) false, some (140, false)⟩,
    ⟨some 147, .bin .gtr (.tmp 141) (.tmp 146), some (140, false)⟩,
    ⟨some 148, .pick (.tmp 140) (.const (.bool true)) (.tmp 147), none⟩,
    ⟨some 149, .move (.tmp 148) false, none⟩,
    ⟨some 150, .move (.tmp 10) false, some (149, false)⟩,
    ⟨some 151, .bin .lss (.tmp 150) (.const (.int .i64 (0))), some (149, false)⟩,
    ⟨some 152, .pick (.tmp 149) (.const (.bool true)) (.tmp 151), none⟩])
   (.cond (.tmp 152) (.seq (.region false [⟨some 2, .assign (.const (.bool false)), none⟩])
   .ret) .skip)))))
   (.region false [⟨some 77, .move (.tmp 9) false, none⟩,
    ⟨some 78, .bin .add (.tmp 77) (.const (.int .i64 (1))), none⟩,
    ⟨some 9, .assign (.tmp 78), none⟩])))

def l4_4 : MCode :=
   (.seq (.seq (.region false [⟨some 20, .move (.tmp 5) false, none⟩,
    ⟨some 21, .move (.tmp 0) false, none⟩,
    ⟨some 22, .len 0 (.tmp 21), none⟩,
    ⟨some 23, .bin .lss (.tmp 20) (.tmp 22), none⟩,
    ⟨some 24, .move (.tmp 23) false, none⟩,
    ⟨some 25, .move (.tmp 5) false, some (24, true)⟩,
    ⟨some 26, .bin .lss (.tmp 25) (.const (.int .i64 (40))), some (24, true)⟩,
    ⟨some 27, .pick (.tmp 24) (.tmp 26) (.const (.bool false)), none⟩])
   (.cond (.tmp 27) .skip (.exit 0)))
   (.seq (.block 1 (.seq (.region false [⟨some 30, .move (.tmp 0) false, none⟩,
    ⟨some 31, .move (.tmp 5) false, none⟩,
    ⟨some 32, .indexAddr 4 (.tmp 30) (.tmp 31), none⟩,
    ⟨some 33, .load true 4 (.tmp 32) false, none⟩,
    ⟨some 6, .alloc [(.int .i64 (0)), (.str []), (.str []), (.int .i64 (0))], none⟩,
    ⟨none, .store 4 (.tmp 6) (.tmp 33), none⟩])
   (.seq (.seq (.region false [⟨some 34, .fieldAddr 0 (.tmp 6), none⟩,
    ⟨some 35, .load false 1 (.tmp 34) false, none⟩,
    ⟨some 36, .bin .and (.tmp 35) (.const (.int .i64 (3))), none⟩])
   (.block 2 (.seq (.region false [⟨some 44, .bin .eql (.tmp 36) (.const (.int .i64 (0))), none⟩,
    ⟨some 43, .assign (.tmp 44), none⟩])
   (.cond (.tmp 43) (.region false [⟨some 45, .move (.tmp 4) false, none⟩,
    ⟨some 46, .fieldAddr 1 (.tmp 6), none⟩,
    ⟨some 47, .load false 1 (.tmp 46) false, none⟩,
    ⟨some 48, .fieldAddr 2 (.tmp 6), none⟩,
    ⟨some 49, .load false 1 (.tmp 48) false, none⟩,
    ⟨some 50, .fieldAddr 3 (.tmp 6), none⟩,
    ⟨some 51, .load false 1 (.tmp 50) false, none⟩,
    ⟨some 52, .call 12 [(.tmp 45), (.tmp 47), (.tmp 49), (.tmp 51)], none⟩]) (.seq (.region false [⟨some 54, .bin .eql (.tmp 36) (.const (.int .i64 (1))), none⟩,
    ⟨some 53, .assign (.tmp 54), none⟩])
   (.cond (.tmp 53) (.region false [⟨some 55, .move (.tmp 4) false, none⟩,
    ⟨some 56, .fieldAddr 1 (.tmp 6), none⟩,
    ⟨some 57, .load false 1 (.tmp 56) false, none⟩,
    ⟨some 58, .fieldAddr 2 (.tmp 6), none⟩,
    ⟨some 59, .load false 1 (.tmp 58) false, none⟩,
    ⟨some 60, .fieldAddr 3 (.tmp 6), none⟩,
    ⟨some 61, .load false 1 (.tmp 60) false, none⟩,
    ⟨some 62, .call 13 [(.tmp 55), (.tmp 57), (.tmp 59), (.tmp 61)], none⟩]) (.seq (.region false [⟨some 64, .bin .eql (.tmp 36) (.const (.int .i64 (2))), none⟩,
    ⟨some 63, .assign (.tmp 64), none⟩])
   (.cond (.tmp 63) (.region false [⟨some 65, .move (.tmp 4) false, none⟩,
    ⟨some 66, .fieldAddr 2 (.tmp 6), none⟩,
    ⟨some 67, .load false 1 (.tmp 66) false, none⟩,
    ⟨some 68, .call 14 [(.tmp 65), (.tmp 67)], none⟩]) (.region false [⟨some 37, .move (.tmp 4) false, none⟩,
    ⟨some 38, .fieldAddr 1 (.tmp 6), none⟩,
    ⟨some 39, .load false 1 (.tmp 38) false, none⟩,
    ⟨some 40, .fieldAddr 3 (.tmp 6), none⟩,
    ⟨some 41, .load false 1 (.tmp 40) false, none⟩,
    ⟨some 42, .call 15 [(.tmp 37), (.tmp 39), (.tmp 41)], none⟩])))))))))
   (.seq (.region false [⟨some 69, .move (.tmp 4) false, none⟩,
    ⟨some 70, .call 16 [(.tmp 69)], none⟩,
    ⟨some 7, .assign (.tmp 70), none⟩])
   (.seq (.region false [⟨some 71, .move (.tmp 4) false, none⟩,
    ⟨some 72, .call 17 [(.tmp 71)], none⟩,
    ⟨some 8, .assign (.tmp 72), none⟩])
   (.seq (.region false [⟨some 9, .assign (.const (.int .i64 (0))), none⟩])
   (.block 3 (.loop [5, 9, 10, 7, 11, 13, 14, 15, 12, 8, 4, 0, 2] l4_3))))))))
   (.region false [⟨some 28, .move (.tmp 5) false, none⟩,
    ⟨some 29, .bin .add (.tmp 28) (.const (.int .i64 (1))), none⟩,
    ⟨some 5, .assign (.tmp 29), none⟩])))

/-- 'chamberlain/chamberlainlaw24.QuotaSums' -/
def m4 : MFunc :=
  ⟨1, 153, [.tmp 2],
   (.seq (.region false [⟨some 2, .assign (.const (.bool false)), none⟩])
   (.seq (.region false [⟨some 16, .call 9 [], none⟩,
    ⟨some 3, .assign (.tmp 16), none⟩])
   (.seq (.seq (.region false [⟨some 17, .move (.tmp 3) false, none⟩,
    ⟨some 18, .un .not (.tmp 17), none⟩])
   (.cond (.tmp 18) (.seq (.region false [⟨some 2, .assign (.const (.bool false)), none⟩])
   .ret) .skip))
   (.seq (.region false [⟨some 19, .call 11 [], none⟩,
    ⟨some 4, .assign (.tmp 19), none⟩])
   (.seq (.seq (.region false [⟨some 5, .assign (.const (.int .i64 (0))), none⟩])
   (.block 0 (.loop [5, 9, 10, 7, 11, 13, 14, 15, 12, 8, 4, 0, 2] l4_4)))
   (.seq (.region false [⟨some 2, .assign (.const (.bool true)), none⟩])
   .ret))))))⟩

def l5_0 : MCode :=
   (.seq (.seq (.region false [⟨some 26, .move (.tmp 10) false, none⟩,
    ⟨some 27, .bin .lss (.tmp 26) (.const (.int .i64 (3))), none⟩])
   (.cond (.tmp 27) .skip (.exit 0)))
   (.seq (.block 1 (.seq (.region false [⟨some 11, .assign (.const (.str [])), none⟩])
   (.seq (.seq (.region false [⟨some 30, .move (.tmp 10) false, none⟩,
    ⟨some 31, .bin .gtr (.tmp 30) (.const (.int .i64 (0))), none⟩])
   (.cond (.tmp 31) (.region false [⟨some 32, .move (.tmp 9) false, none⟩,
    ⟨some 33, .move (.tmp 10) false, none⟩,
    ⟨some 34, .bin .sub (.tmp 33) (.const (.int .i64 (1))), none⟩,
    ⟨some 35, .indexAddr 1 (.tmp 32) (.tmp 34), none⟩,
    ⟨some 36, .load false 1 (.tmp 35) false, none⟩,
    ⟨some 11, .assign (.tmp 36), none⟩]) .skip))
   (.seq (.region false [⟨some 37, .move (.tmp 8) false, none⟩,
    ⟨some 38, .move (.tmp 9) false, none⟩,
    ⟨some 39, .move (.tmp 10) false, none⟩,
    ⟨some 40, .indexAddr 1 (.tmp 38) (.tmp 39), none⟩,
    ⟨some 41, .load false 1 (.tmp 40) false, none⟩,
    ⟨some 42, .move (.tmp 11) false, none⟩,
    ⟨some 43, .move (.tmp 10) false, none⟩,
    ⟨some 44, .indexArr true false 3 1 (.tmp 3) (.tmp 43), none⟩,
    ⟨some 45, .load false 1 (.tmp 44) false, none⟩,
    ⟨some 46, .bin .and (.tmp 45) (.const (.int .i64 (16777215))), none⟩,
    ⟨some 47, .call 12 [(.tmp 37), (.tmp 41), (.tmp 42), (.tmp 46)], none⟩,
    ⟨some 48, .bin .neq (.tmp 47) (.const (.int .i64 (0))), none⟩])
   (.cond (.tmp 48) (.seq (.region false [⟨some 6, .assign (.const (.bool false)), none⟩])
   .ret) .skip)))))
   (.region false [⟨some 28, .move (.tmp 10) false, none⟩,
    ⟨some 29, .bin .add (.tmp 28) (.const (.int .i64 (1))), none⟩,
    ⟨some 10, .assign (.tmp 29), none⟩])))

def l5_1 : MCode :=
   (.seq (.seq (.region false [⟨some 58, .move (.tmp 15) false, none⟩,
    ⟨some 59, .move (.tmp 13) false, none⟩,
    ⟨some 60, .bin .leq (.tmp 58) (.tmp 59), none⟩])
   (.cond (.tmp 60) .skip (.exit 2)))
   (.seq (.block 3 (.seq (.region false [⟨some 63, .move (.tmp 15) false, none⟩,
    ⟨some 64, .indexArr true false 3 1 (.tmp 3) (.tmp 63), none⟩,
    ⟨some 65, .load false 1 (.tmp 64) false, none⟩,
    ⟨some 66, .bin .and (.tmp 65) (.const (.int .i64 (16777215))), none⟩,
    ⟨some 67, .move (.tmp 14) false, none⟩,
    ⟨some 68, .bin .lss (.tmp 66) (.tmp 67), none⟩])
   (.cond (.tmp 68) (.region false [⟨some 69, .move (.tmp 15) false, none⟩,
    ⟨some 70, .indexArr true false 3 1 (.tmp 3) (.tmp 69), none⟩,
    ⟨some 71, .load false 1 (.tmp 70) false, none⟩,
    ⟨some 72, .bin .and (.tmp 71) (.const (.int .i64 (16777215))), none⟩,
    ⟨some 14, .assign (.tmp 72), none⟩]) .skip)))
   (.region false [⟨some 61, .move (.tmp 15) false, none⟩,
    ⟨some 62, .bin .add (.tmp 61) (.const (.int .i64 (1))), none⟩,
    ⟨some 15, .assign (.tmp 62), none⟩])))

def l5_2 : MCode :=
   (.seq (.seq (.region false [⟨some 96, .move (.tmp 17) false, none⟩,
    ⟨some 97, .move (.tmp 13) false, none⟩,
    ⟨some 98, .bin .leq (.tmp 96) (.tmp 97), none⟩])
   (.cond (.tmp 98) .skip (.exit 4)))
   (.seq (.block 5 (.seq (.region false [⟨some 101, .move (.tmp 8) false, none⟩,
    ⟨some 102, .move (.tmp 9) false, none⟩,
    ⟨some 103, .move (.tmp 17) false, none⟩,
    ⟨some 104, .indexAddr 1 (.tmp 102) (.tmp 103), none⟩,
    ⟨some 105, .load false 1 (.tmp 104) false, none⟩,
    ⟨some 106, .call 15 [(.tmp 101), (.tmp 105), (.const (.int .i64 (1073741824)))], none⟩,
    ⟨some 107, .bin .neq (.tmp 106) (.const (.int .i64 (0))), none⟩])
   (.cond (.tmp 107) (.seq (.region false [⟨some 6, .assign (.const (.bool false)), none⟩])
   .ret) .skip)))
   (.region false [⟨some 99, .move (.tmp 17) false, none⟩,
    ⟨some 100, .bin .add (.tmp 99) (.const (.int .i64 (1))), none⟩,
    ⟨some 17, .assign (.tmp 100), none⟩])))

def l5_3 : MCode :=
   (.seq (.seq (.region false [⟨some 120, .move (.tmp 20) false, none⟩,
    ⟨some 121, .move (.tmp 19) false, none⟩,
    ⟨some 122, .len 0 (.tmp 121), none⟩,
    ⟨some 123, .bin .lss (.tmp 120) (.tmp 122), none⟩])
   (.cond (.tmp 123) .skip (.exit 6)))
   (.seq (.block 7 (.seq (.region false [⟨some 126, .move (.tmp 19) false, none⟩,
    ⟨some 127, .move (.tmp 20) false, none⟩,
    ⟨some 128, .indexAddr 4 (.tmp 126) (.tmp 127), none⟩,
    ⟨some 129, .fieldAddr 3 (.tmp 128), none⟩,
    ⟨some 130, .load false 1 (.tmp 129) false, none⟩,
    ⟨some 131, .bin .neq (.tmp 130) (.const (.int .i64 (0))), none⟩])
   (.cond (.tmp 131) (.seq (.region false [⟨some 6, .assign (.const (.bool false)), none⟩])
   .ret) .skip)))
   (.region false [⟨some 124, .move (.tmp 20) false, none⟩,
    ⟨some 125, .bin .add (.tmp 124) (.const (.int .i64 (1))), none⟩,
    ⟨some 20, .assign (.tmp 125), none⟩])))

/-- 'chamberlain/chamberlainlaw24.QuotaBack' -/
def m5 : MFunc :=
  ⟨3, 145, [.tmp 6],
   (.seq (.region false [⟨some 3, .box (.tmp 0), none⟩,
    ⟨some 6, .assign (.const (.bool false)), none⟩])
   (.seq (.region false [⟨some 21, .call 9 [], none⟩,
    ⟨some 7, .assign (.tmp 21), none⟩])
   (.seq (.seq (.region false [⟨some 22, .move (.tmp 7) false, none⟩,
    ⟨some 23, .un .not (.tmp 22), none⟩])
   (.cond (.tmp 23) (.seq (.region false [⟨some 6, .assign (.const (.bool false)), none⟩])
   .ret) .skip))
   (.seq (.region false [⟨some 24, .call 11 [], none⟩,
    ⟨some 8, .assign (.tmp 24), none⟩])
   (.seq (.region false [⟨some 25, .buildSlice 9 1 3 [(.str [])] [(0, (.const (.str [97]))), (1, (.const (.str [98]))), (2, (.const (.str [99])))], none⟩,
    ⟨some 9, .assign (.tmp 25), none⟩])
   (.seq (.seq (.region false [⟨some 10, .assign (.const (.int .i64 (0))), none⟩])
   (.block 0 (.loop [8, 18, 20, 19, 12, 13, 9, 17, 14, 15, 3, 2, 1, 10, 0, 6] l5_0)))
   (.seq (.region false [⟨some 49, .move (.tmp 1) false, none⟩,
    ⟨some 50, .bin .and (.tmp 49) (.const (.int .i64 (16777215))), none⟩,
    ⟨some 51, .bin .add (.tmp 50) (.const (.int .i64 (1))), none⟩,
    ⟨some 12, .assign (.tmp 51), none⟩])
   (.seq (.region false [⟨some 52, .move (.tmp 2) false, none⟩,
    ⟨some 53, .bin .rem (.tmp 52) (.const (.int .u8 (3))), none⟩,
    ⟨some 54, .conv .i64 (.tmp 53), none⟩,
    ⟨some 13, .assign (.tmp 54), none⟩])
   (.seq (.region false [⟨some 55, .indexArr true false 3 1 (.tmp 3) (.const (.int .i64 (0))), none⟩,
    ⟨some 56, .load false 1 (.tmp 55) false, none⟩,
    ⟨some 57, .bin .and (.tmp 56) (.const (.int .i64 (16777215))), none⟩,
    ⟨some 14, .assign (.tmp 57), none⟩])
   (.seq (.seq (.region false [⟨some 15, .assign (.const (.int .i64 (0))), none⟩])
   (.block 2 (.loop [8, 18, 20, 19, 12, 13, 9, 17, 14, 15, 3, 2, 1, 10, 0, 6] l5_1)))
   (.seq (.region false [⟨some 73, .move (.tmp 8) false, none⟩,
    ⟨some 74, .move (.tmp 9) false, none⟩,
    ⟨some 75, .move (.tmp 13) false, none⟩,
    ⟨some 76, .indexAddr 1 (.tmp 74) (.tmp 75), none⟩,
    ⟨some 77, .load false 1 (.tmp 76) false, none⟩,
    ⟨some 78, .move (.tmp 12) false, none⟩,
    ⟨some 79, .call 13 [(.tmp 73), (.tmp 77), (.const (.str [120])), (.tmp 78)], none⟩,
    ⟨some 16, .assign (.tmp 79), none⟩])
   (.seq (.seq (.region false [⟨some 80, .move (.tmp 16) false, none⟩,
    ⟨some 81, .bin .eql (.tmp 80) (.const (.int .i64 (0))), none⟩,
    ⟨some 82, .move (.tmp 12) false, none⟩,
    ⟨some 83, .move (.tmp 14) false, none⟩,
    ⟨some 84, .bin .leq (.tmp 82) (.tmp 83), none⟩,
    ⟨some 85, .eqb true (.tmp 81) (.tmp 84), none⟩,
    ⟨some 86, .move (.tmp 85) false, none⟩,
    ⟨some 87, .move (.tmp 16) false, some (86, false)⟩,
    ⟨some 88, .bin .neq (.tmp 87) (.const (.int .i64 (0))), some (86, false)⟩,
    ⟨some 89, .move (.tmp 88) false, some (86, false)⟩,
    ⟨some 90, .move (.tmp 16) false, some (89, true)⟩,
    ⟨some 91, .bin .neq (.tmp 90) (.const (.int .i64 (61))), some (89, true)⟩,
    ⟨some 92, .pick (.tmp 89) (.tmp 91) (.const (.bool false)), some (86, false)⟩,
    ⟨some 93, .pick (.tmp 86) (.const (.bool true)) (.tmp 92), none⟩])
   (.cond (.tmp 93) (.seq (.region false [⟨some 6, .assign (.const (.bool false)), none⟩])
   .ret) .skip))
   (.seq (.seq (.region false [⟨some 94, .move (.tmp 16) false, none⟩,
    ⟨some 95, .bin .neq (.tmp 94) (.const (.int .i64 (0))), none⟩])
   (.cond (.tmp 95) (.seq (.seq (.region false [⟨some 17, .assign (.const (.int .i64 (0))), none⟩])
   (.block 4 (.loop [8, 18, 20, 19, 12, 13, 9, 17, 14, 15, 3, 2, 1, 10, 0, 6] l5_2)))
   (.seq (.region false [⟨some 108, .move (.tmp 8) false, none⟩,
    ⟨some 109, .move (.tmp 9) false, none⟩,
    ⟨some 110, .move (.tmp 13) false, none⟩,
    ⟨some 111, .indexAddr 1 (.tmp 109) (.tmp 110), none⟩,
    ⟨some 112, .load false 1 (.tmp 111) false, none⟩,
    ⟨some 113, .move (.tmp 12) false, none⟩,
    ⟨some 114, .call 13 [(.tmp 108), (.tmp 112), (.const (.str [120])), (.tmp 113)], none⟩,
    ⟨some 115, .bin .eql (.tmp 114) (.const (.int .i64 (0))), none⟩,
    ⟨some 6, .assign (.tmp 115), none⟩])
   .ret)) .skip))
   (.seq (.region false [⟨some 116, .move (.tmp 8) false, none⟩,
    ⟨some 117, .call 14 [(.tmp 116), (.const (.str [120]))], none⟩,
    ⟨some 18, .assign (.tmp 117), none⟩])
   (.seq (.region false [⟨some 118, .move (.tmp 8) false, none⟩,
    ⟨some 119, .call 16 [(.tmp 118)], none⟩,
    ⟨some 19, .assign (.tmp 119), none⟩])
   (.seq (.seq (.region false [⟨some 20, .assign (.const (.int .i64 (0))), none⟩])
   (.block 6 (.loop [8, 18, 20, 19, 12, 13, 9, 17, 14, 15, 3, 2, 1, 10, 0, 6] l5_3)))
   (.seq (.region false [⟨some 132, .move (.tmp 18) false, none⟩,
    ⟨some 133, .bin .eql (.tmp 132) (.const (.int .i64 (0))), none⟩,
    ⟨some 134, .move (.tmp 133) false, none⟩,
    ⟨some 135, .move (.tmp 8) false, some (134, true)⟩,
    ⟨some 136, .call 14 [(.tmp 135), (.const (.str [120]))], some (134, true)⟩,
    ⟨some 137, .bin .eql (.tmp 136) (.const (.int .i64 (60))), some (134, true)⟩,
    ⟨some 138, .pick (.tmp 134) (.tmp 137) (.const (.bool false)), none⟩,
    ⟨some 139, .move (.tmp 138) false, none⟩,
    ⟨some 140, .move (.tmp 8) false, some (139, true)⟩,
    ⟨some 141, .call 17 [(.tmp 140)], some (139, true)⟩,
    ⟨some 142, .len 0 (.tmp 141), some (139, true)⟩,
    ⟨some 143, .bin .eql (.tmp 142) (.const (.int .i64 (0))), some (139, true)⟩,
    ⟨some 144, .pick (.tmp 139) (.tmp 143) (.const (.bool false)), none⟩,
    ⟨some 6, .assign (.tmp 144), none⟩])
   .ret)))))))))))))))))⟩

def l6_0 : MCode :=
   (.seq (.seq (.region false [⟨some 22, .move (.tmp 8) false, none⟩,
    ⟨some 23, .bin .lss (.tmp 22) (.const (.int .i64 (5))), none⟩])
   (.cond (.tmp 23) .skip (.exit 0)))
   (.seq (.block 1 (.seq (.region false [⟨some 9, .assign (.const (.str [])), none⟩])
   (.seq (.seq (.region false [⟨some 26, .move (.tmp 8) false, none⟩,
    ⟨some 27, .bin .gtr (.tmp 26) (.const (.int .i64 (0))), none⟩])
   (.cond (.tmp 27) (.region false [⟨some 28, .move (.tmp 7) false, none⟩,
    ⟨some 29, .move (.tmp 8) false, none⟩,
    ⟨some 30, .bin .sub (.tmp 29) (.const (.int .i64 (1))), none⟩,
    ⟨some 31, .indexAddr 1 (.tmp 28) (.tmp 30), none⟩,
    ⟨some 32, .load false 1 (.tmp 31) false, none⟩,
    ⟨some 9, .assign (.tmp 32), none⟩]) .skip))
   (.seq (.region false [⟨some 33, .move (.tmp 6) false, none⟩,
    ⟨some 34, .move (.tmp 7) false, none⟩,
    ⟨some 35, .move (.tmp 8) false, none⟩,
    ⟨some 36, .indexAddr 1 (.tmp 34) (.tmp 35), none⟩,
    ⟨some 37, .load false 1 (.tmp 36) false, none⟩,
    ⟨some 38, .move (.tmp 9) false, none⟩,
    ⟨some 39, .call 12 [(.tmp 33), (.tmp 37), (.tmp 38), (.const (.int .i64 (1099511627776)))], none⟩,
    ⟨some 40, .bin .neq (.tmp 39) (.const (.int .i64 (0))), none⟩])
   (.cond (.tmp 40) (.seq (.region false [⟨some 4, .assign (.const (.bool false)), none⟩])
   .ret) .skip)))))
   (.region false [⟨some 24, .move (.tmp 8) false, none⟩,
    ⟨some 25, .bin .add (.tmp 24) (.const (.int .i64 (1))), none⟩,
    ⟨some 8, .assign (.tmp 25), none⟩])))

def l6_1 : MCode :=
   (.seq (.seq (.region false [⟨some 81, .move (.tmp 14) false, none⟩,
    ⟨some 82, .move (.tmp 12) false, none⟩,
    ⟨some 83, .bin .leq (.tmp 81) (.tmp 82), none⟩])
   (.cond (.tmp 83) .skip (.exit 4)))
   (.seq (.block 5 (.region false [⟨some 86, .move (.tmp 14) false, none⟩,
    ⟨some 87, .indexArr true false 5 1 (.tmp 10) (.tmp 86), none⟩,
    ⟨some 88, .load false 1 (.tmp 87) false, none⟩,
    ⟨some 89, .move (.tmp 13) false, none⟩,
    ⟨some 90, .bin .add (.tmp 88) (.tmp 89), none⟩,
    ⟨some 91, .indexArr true false 5 1 (.tmp 10) (.tmp 86), none⟩,
    ⟨none, .store 1 (.tmp 91) (.tmp 90), none⟩]))
   (.region false [⟨some 84, .move (.tmp 14) false, none⟩,
    ⟨some 85, .bin .add (.tmp 84) (.const (.int .i64 (1))), none⟩,
    ⟨some 14, .assign (.tmp 85), none⟩])))

def l6_2 : MCode :=
   (.seq (.seq (.region false [⟨some 41, .move (.tmp 11) false, none⟩,
    ⟨some 42, .move (.tmp 0) false, none⟩,
    ⟨some 43, .len 0 (.tmp 42), none⟩,
    ⟨some 44, .bin .lss (.tmp 41) (.tmp 43), none⟩,
    ⟨some 45, .move (.tmp 44) false, none⟩,
    ⟨some 46, .move (.tmp 11) false, some (45, true)⟩,
    ⟨some 47, .move (.tmp 1) false, some (45, true)⟩,
    ⟨some 48, .len 0 (.tmp 47), some (45, true)⟩,
    ⟨some 49, .bin .lss (.tmp 46) (.tmp 48), some (45, true)⟩,
    ⟨some 50, .pick (.tmp 45) (.tmp 49) (.const (.bool false)), none⟩,
    ⟨some 51, .move (.tmp 50) false, none⟩,
    ⟨some 52, .move (.tmp 11) false, some (51, true)⟩,
    ⟨some 53, .bin .lss (.tmp 52) (.const (.int .i64 (20))), some (51, true)⟩,
    ⟨some 54, .pick (.tmp 51) (.tmp 53) (.const (.bool false)), none⟩])
   (.cond (.tmp 54) .skip (.exit 2)))
   (.seq (.block 3 (.seq (.region false [⟨some 57, .move (.tmp 1) false, none⟩,
    ⟨some 58, .move (.tmp 11) false, none⟩,
    ⟨some 59, .indexAddr 1 (.tmp 57) (.tmp 58), none⟩,
    ⟨some 60, .load false 1 (.tmp 59) false, none⟩,
    ⟨some 61, .bin .rem (.tmp 60) (.const (.int .u8 (5))), none⟩,
    ⟨some 62, .conv .i64 (.tmp 61), none⟩,
    ⟨some 12, .assign (.tmp 62), none⟩])
   (.seq (.region false [⟨some 63, .move (.tmp 0) false, none⟩,
    ⟨some 64, .move (.tmp 11) false, none⟩,
    ⟨some 65, .indexAddr 1 (.tmp 63) (.tmp 64), none⟩,
    ⟨some 66, .load false 1 (.tmp 65) false, none⟩,
    ⟨some 67, .conv .i64 (.tmp 66), none⟩,
    ⟨some 68, .bin .add (.tmp 67) (.const (.int .i64 (1))), none⟩,
    ⟨some 13, .assign (.tmp 68), none⟩])
   (.seq (.seq (.region false [⟨some 69, .move (.tmp 6) false, none⟩,
    ⟨some 70, .move (.tmp 7) false, none⟩,
    ⟨some 71, .move (.tmp 12) false, none⟩,
    ⟨some 72, .indexAddr 1 (.tmp 70) (.tmp 71), none⟩,
    ⟨some 73, .load false 1 (.tmp 72) false, none⟩,
    ⟨some 74, .move (.tmp 11) false, none⟩,
    ⟨some 75, .move (.tmp 11) false, none⟩,
    ⟨some 76, .bin .add (.tmp 75) (.const (.int .i64 (1))), none⟩,
    ⟨some 77, .sliceStr (.const (.str [97, 98, 99, 100, 101, 102, 103, 104, 105, 106, 107, 108, 109, 110, 111, 112, 113, 114, 115, 116])) (some (.tmp 74)) (some (.tmp 76)), none⟩,
    ⟨some 78, .move (.tmp 13) false, none⟩,
    ⟨some 79, .call 13 [(.tmp 69), (.tmp 73), (.tmp 77), (.tmp 78)], none⟩,
    ⟨some 80, .bin .neq (.tmp 79) (.const (.int .i64 (0))), none⟩])
   (.cond (.tmp 80) (.seq (.region false [⟨some 4, .assign (.const (.bool false)), none⟩])
   .ret) .skip))
   (.seq (.region false [⟨some 14, .assign (.const (.int .i64 (0))), none⟩])
   (.block 4 (.loop [15, 16, 10, 6, 11, 14, 13, 12, 7, 0, 1, 8, 4] l6_1)))))))
   (.region false [⟨some 55, .move (.tmp 11) false, none⟩,
    ⟨some 56, .bin .add (.tmp 55) (.const (.int .i64 (1))), none⟩,
    ⟨some 11, .assign (.tmp 56), none⟩])))

def l6_3 : MCode :=
   (.seq (.seq (.region false [⟨some 94, .move (.tmp 16) false, none⟩,
    ⟨some 95, .bin .lss (.tmp 94) (.const (.int .i64 (5))), none⟩])
   (.cond (.tmp 95) .skip (.exit 6)))
   (.seq (.block 7 (.seq (.region false [⟨some 98, .move (.tmp 15) false, none⟩,
    ⟨some 99, .move (.tmp 16) false, none⟩,
    ⟨some 100, .indexAddr 4 (.tmp 98) (.tmp 99), none⟩,
    ⟨some 101, .fieldAddr 3 (.tmp 100), none⟩,
    ⟨some 102, .load false 1 (.tmp 101) false, none⟩,
    ⟨some 103, .move (.tmp 16) false, none⟩,
    ⟨some 104, .indexArr true false 5 1 (.tmp 10) (.tmp 103), none⟩,
    ⟨some 105, .load false 1 (.tmp 104) false, none⟩,
    ⟨some 106, .bin .neq (.tmp 102) (.tmp 105), none⟩])
   (.cond (.tmp 106) (.seq (.region false [⟨some 4, .assign (.const (.bool false)), none⟩])
   .ret) .skip)))
   (.region false [⟨some 96, .move (.tmp 16) false, none⟩,
    ⟨some 97, .bin .add (.tmp 96) (.const (.int .i64 (1))), none⟩,
    ⟨some 16, .assign (.tmp 97), none⟩])))

/-- 'chamberlain/chamberlainlaw24.QuotaLines' -/
def m6 : MFunc :=
  ⟨2, 110, [.tmp 4],
   (.seq (.region false [⟨some 4, .assign (.const (.bool false)), none⟩])
   (.seq (.region false [⟨some 17, .call 9 [], none⟩,
    ⟨some 5, .assign (.tmp 17), none⟩])
   (.seq (.seq (.region false [⟨some 18, .move (.tmp 5) false, none⟩,
    ⟨some 19, .un .not (.tmp 18), none⟩])
   (.cond (.tmp 19) (.seq (.region false [⟨some 4, .assign (.const (.bool false)), none⟩])
   .ret) .skip))
   (.seq (.region false [⟨some 20, .call 11 [], none⟩,
    ⟨some 6, .assign (.tmp 20), none⟩])
   (.seq (.region false [⟨some 21, .buildSlice 9 1 5 [(.str [])] [(0, (.const (.str [97]))), (1, (.const (.str [98]))), (2, (.const (.str [99]))), (3, (.const (.str [100]))), (4, (.const (.str [101])))], none⟩,
    ⟨some 7, .assign (.tmp 21), none⟩])
   (.seq (.seq (.region false [⟨some 8, .assign (.const (.int .i64 (0))), none⟩])
   (.block 0 (.loop [15, 16, 10, 6, 11, 14, 13, 12, 7, 0, 1, 8, 4] l6_0)))
   (.seq (.region false [⟨some 10, .alloc [(.int .i64 (0)), (.int .i64 (0)), (.int .i64 (0)), (.int .i64 (0)), (.int .i64 (0))], none⟩])
   (.seq (.seq (.region false [⟨some 11, .assign (.const (.int .i64 (0))), none⟩])
   (.block 2 (.loop [15, 16, 10, 6, 11, 14, 13, 12, 7, 0, 1, 8, 4] l6_2)))
   (.seq (.region false [⟨some 92, .move (.tmp 6) false, none⟩,
    ⟨some 93, .call 16 [(.tmp 92)], none⟩,
    ⟨some 15, .assign (.tmp 93), none⟩])
   (.seq (.seq (.region false [⟨some 16, .assign (.const (.int .i64 (0))), none⟩])
   (.block 6 (.loop [15, 16, 10, 6, 11, 14, 13, 12, 7, 0, 1, 8, 4] l6_3)))
   (.seq (.region false [⟨some 107, .move (.tmp 15) false, none⟩,
    ⟨some 108, .len 0 (.tmp 107), none⟩,
    ⟨some 109, .bin .eql (.tmp 108) (.const (.int .i64 (5))), none⟩,
    ⟨some 4, .assign (.tmp 109), none⟩])
   .ret)))))))))))⟩


/-- 'chamberlain/chamberlainlaw24.awake' -/
def m9 : MFunc :=
  ⟨0, 71, [.tmp 0],
   (.seq (.region false [⟨some 0, .assign (.const (.bool false)), none⟩])
   (.seq (.region false [⟨some 9, .call 11 [], none⟩,
    ⟨some 1, .assign (.tmp 9), none⟩])
   (.seq (.seq (.region false [⟨some 10, .move (.tmp 1) false, none⟩,
    ⟨some 11, .eqn false (.tmp 10), none⟩])
   (.cond (.tmp 11) (.seq (.region false [⟨some 0, .assign (.const (.bool false)), none⟩])
   .ret) .skip))
   (.seq (.region false [⟨some 12, .move (.tmp 1) false, none⟩,
    ⟨some 13, .call 12 [(.tmp 12), (.const (.str [97])), (.const (.str [])), (.const (.int .i64 (5)))], none⟩,
    ⟨some 2, .assign (.tmp 13), none⟩])
   (.seq (.region false [⟨some 14, .move (.tmp 1) false, none⟩,
    ⟨some 15, .call 12 [(.tmp 14), (.const (.str [98])), (.const (.str [97])), (.const (.int .i64 (9)))], none⟩,
    ⟨some 3, .assign (.tmp 15), none⟩])
   (.seq (.region false [⟨some 16, .move (.tmp 1) false, none⟩,
    ⟨some 17, .call 13 [(.tmp 16), (.const (.str [98])), (.const (.str [120])), (.const (.int .i64 (6)))], none⟩,
    ⟨some 4, .assign (.tmp 17), none⟩])
   (.seq (.region false [⟨some 18, .move (.tmp 1) false, none⟩,
    ⟨some 19, .call 13 [(.tmp 18), (.const (.str [98])), (.const (.str [120])), (.const (.int .i64 (5)))], none⟩,
    ⟨some 5, .assign (.tmp 19), none⟩])
   (.seq (.region false [⟨some 20, .move (.tmp 1) false, none⟩,
    ⟨some 21, .call 16 [(.tmp 20)], none⟩,
    ⟨some 6, .assign (.tmp 21), none⟩])
   (.seq (.region false [⟨some 22, .move (.tmp 1) false, none⟩,
    ⟨some 23, .call 15 [(.tmp 22), (.const (.str [97])), (.const (.int .i64 (4)))], none⟩,
    ⟨some 7, .assign (.tmp 23), none⟩])
   (.seq (.region false [⟨some 24, .move (.tmp 1) false, none⟩,
    ⟨some 25, .call 14 [(.tmp 24), (.const (.str [120]))], none⟩,
    ⟨some 8, .assign (.tmp 25), none⟩])
   (.seq (.region false [⟨some 26, .move (.tmp 2) false, none⟩,
    ⟨some 27, .bin .eql (.tmp 26) (.const (.int .i64 (0))), none⟩,
    ⟨some 28, .move (.tmp 27) false, none⟩,
    ⟨some 29, .move (.tmp 3) false, some (28, true)⟩,
    ⟨some 30, .bin .eql (.tmp 29) (.const (.int .i64 (0))), some (28, true)⟩,
    ⟨some 31, .pick (.tmp 28) (.tmp 30) (.const (.bool false)), none⟩,
    ⟨some 32, .move (.tmp 31) false, none⟩,
    ⟨some 33, .move (.tmp 4) false, some (32, true)⟩,
    ⟨some 34, .bin .eql (.tmp 33) (.const (.int .i64 (61))), some (32, true)⟩,
    ⟨some 35, .pick (.tmp 32) (.tmp 34) (.const (.bool false)), none⟩,
    ⟨some 36, .move (.tmp 35) false, none⟩,
    ⟨some 37, .move (.tmp 5) false, some (36, true)⟩,
    ⟨some 38, .bin .eql (.tmp 37) (.const (.int .i64 (0))), some (36, true)⟩,
    ⟨some 39, .pick (.tmp 36) (.tmp 38) (.const (.bool false)), none⟩,
    ⟨some 40, .move (.tmp 39) false, none⟩,
    ⟨some 41, .move (.tmp 6) false, some (40, true)⟩,
    ⟨some 42, .len 0 (.tmp 41), some (40, true)⟩,
    ⟨some 43, .bin .eql (.tmp 42) (.const (.int .i64 (2))), some (40, true)⟩,
    ⟨some 44, .pick (.tmp 40) (.tmp 43) (.const (.bool false)), none⟩,
    ⟨some 45, .move (.tmp 44) false, none⟩,
    ⟨some 46, .move (.tmp 6) false, some (45, true)⟩,
    ⟨some 47, .indexAddr 4 (.tmp 46) (.const (.int .i64 (0))), some (45, true)⟩,
    ⟨some 48, .fieldAddr 3 (.tmp 47), some (45, true)⟩,
    ⟨some 49, .load false 1 (.tmp 48) false, some (45, true)⟩,
    ⟨some 50, .bin .eql (.tmp 49) (.const (.int .i64 (5))), some (45, true)⟩,
    ⟨some 51, .pick (.tmp 45) (.tmp 50) (.const (.bool false)), none⟩,
    ⟨some 52, .move (.tmp 51) false, none⟩,
    ⟨some 53, .move (.tmp 7) false, some (52, true)⟩,
    ⟨some 54, .bin .eql (.tmp 53) (.const (.int .i64 (61))), some (52, true)⟩,
    ⟨some 55, .pick (.tmp 52) (.tmp 54) (.const (.bool false)), none⟩,
    ⟨some 56, .move (.tmp 55) false, none⟩,
    ⟨some 57, .move (.tmp 8) false, some (56, true)⟩,
    ⟨some 58, .bin .eql (.tmp 57) (.const (.int .i64 (0))), some (56, true)⟩,
    ⟨some 59, .pick (.tmp 56) (.tmp 58) (.const (.bool false)), none⟩,
    ⟨some 60, .move (.tmp 59) false, none⟩,
    ⟨some 61, .move (.tmp 1) false, some (60, true)⟩,
    ⟨some 62, .call 17 [(.tmp 61)], some (60, true)⟩,
    ⟨some 63, .len 0 (.tmp 62), some (60, true)⟩,
    ⟨some 64, .bin .eql (.tmp 63) (.const (.int .i64 (0))), some (60, true)⟩,
    ⟨some 65, .pick (.tmp 60) (.tmp 64) (.const (.bool false)), none⟩,
    ⟨some 66, .move (.tmp 65) false, none⟩,
    ⟨some 67, .move (.tmp 1) false, some (66, true)⟩,
    ⟨some 68, .call 12 [(.tmp 67), (.const (.str [98])), (.const (.str [])), (.const (.int .i64 (1)))], some (66, true)⟩,
    ⟨some 69, .bin .eql (.tmp 68) (.const (.int .i64 (13))), some (66, true)⟩,
    ⟨some 70, .pick (.tmp 66) (.tmp 69) (.const (.bool false)), none⟩,
    ⟨some 0, .assign (.tmp 70), none⟩])
   .ret)))))))))))⟩

def l10_0 : MCode :=
   (.seq (.seq (.region false [⟨some 12, .move (.tmp 8) false, none⟩,
    ⟨some 13, .move (.tmp 2) false, none⟩,
    ⟨some 14, .len 0 (.tmp 13), none⟩,
    ⟨some 15, .bin .lss (.tmp 12) (.tmp 14), none⟩,
    ⟨some 16, .move (.tmp 15) false, none⟩,
    ⟨some 17, .move (.tmp 8) false, some (16, true)⟩,
    ⟨some 18, .bin .lss (.tmp 17) (.const (.int .i64 (40))), some (16, true)⟩,
    ⟨some 19, .pick (.tmp 16) (.tmp 18) (.const (.bool false)), none⟩])
   (.cond (.tmp 19) .skip (.exit 0)))
   (.seq (.block 1 (.seq (.region false [⟨some 22, .move (.tmp 2) false, none⟩,
    ⟨some 23, .move (.tmp 8) false, none⟩,
    ⟨some 24, .indexAddr 4 (.tmp 22) (.tmp 23), none⟩,
    ⟨some 25, .load true 4 (.tmp 24) false, none⟩,
    ⟨some 9, .alloc [(.int .i64 (0)), (.str []), (.str []), (.int .i64 (0))], none⟩,
    ⟨none, .store 4 (.tmp 9) (.tmp 25), none⟩])
   (.seq (.region false [⟨some 10, .assign (.const (.int .i64 (0))), none⟩])
   (.seq (.region false [⟨some 11, .assign (.const (.int .i64 (0))), none⟩])
   (.seq (.seq (.region false [⟨some 26, .fieldAddr 0 (.tmp 9), none⟩,
    ⟨some 27, .load false 1 (.tmp 26) false, none⟩,
    ⟨some 28, .bin .and (.tmp 27) (.const (.int .i64 (3))), none⟩])
   (.block 2 (.seq (.region false [⟨some 45, .bin .eql (.tmp 28) (.const (.int .i64 (0))), none⟩,
    ⟨some 44, .assign (.tmp 45), none⟩])
   (.cond (.tmp 44) (.seq (.region false [⟨some 46, .move (.tmp 0) false, none⟩,
    ⟨some 47, .fieldAddr 1 (.tmp 9), none⟩,
    ⟨some 48, .load false 1 (.tmp 47) false, none⟩,
    ⟨some 49, .fieldAddr 2 (.tmp 9), none⟩,
    ⟨some 50, .load false 1 (.tmp 49) false, none⟩,
    ⟨some 51, .fieldAddr 3 (.tmp 9), none⟩,
    ⟨some 52, .load false 1 (.tmp 51) false, none⟩,
    ⟨some 53, .call 12 [(.tmp 46), (.tmp 48), (.tmp 50), (.tmp 52)], none⟩,
    ⟨some 10, .assign (.tmp 53), none⟩])
   (.region false [⟨some 55, .load true 2 (.tmp 4) false, none⟩,
    ⟨some 56, .fieldAddr 1 (.tmp 9), none⟩,
    ⟨some 57, .load false 1 (.tmp 56) false, none⟩,
    ⟨some 58, .fieldAddr 2 (.tmp 9), none⟩,
    ⟨some 59, .load false 1 (.tmp 58) false, none⟩,
    ⟨some 60, .fieldAddr 3 (.tmp 9), none⟩,
    ⟨some 61, .load false 1 (.tmp 60) false, none⟩,
    ⟨some 62, .call 20 [(.tmp 55), (.tmp 57), (.tmp 59), (.tmp 61)], none⟩,
    ⟨some 54, .move (.tmp 62) false, none⟩,
    ⟨some 63, .extract (.tmp 54) 0, none⟩,
    ⟨some 64, .extract (.tmp 54) 1, none⟩,
    ⟨none, .store 2 (.tmp 4) (.tmp 63), none⟩,
    ⟨some 11, .assign (.tmp 64), none⟩])) (.seq (.region false [⟨some 66, .bin .eql (.tmp 28) (.const (.int .i64 (1))), none⟩,
    ⟨some 65, .assign (.tmp 66), none⟩])
   (.cond (.tmp 65) (.seq (.region false [⟨some 67, .move (.tmp 0) false, none⟩,
    ⟨some 68, .fieldAddr 1 (.tmp 9), none⟩,
    ⟨some 69, .load false 1 (.tmp 68) false, none⟩,
    ⟨some 70, .fieldAddr 2 (.tmp 9), none⟩,
    ⟨some 71, .load false 1 (.tmp 70) false, none⟩,
    ⟨some 72, .fieldAddr 3 (.tmp 9), none⟩,
    ⟨some 73, .load false 1 (.tmp 72) false, none⟩,
    ⟨some 74, .call 13 [(.tmp 67), (.tmp 69), (.tmp 71), (.tmp 73)], none⟩,
    ⟨some 10, .assign (.tmp 74), none⟩])
   (.region false [⟨some 76, .load true 2 (.tmp 4) false, none⟩,
    ⟨some 77, .fieldAddr 1 (.tmp 9), none⟩,
    ⟨some 78, .load false 1 (.tmp 77) false, none⟩,
    ⟨some 79, .fieldAddr 2 (.tmp 9), none⟩,
    ⟨some 80, .load false 1 (.tmp 79) false, none⟩,
    ⟨some 81, .fieldAddr 3 (.tmp 9), none⟩,
    ⟨some 82, .load false 1 (.tmp 81) false, none⟩,
    ⟨some 83, .call 21 [(.tmp 76), (.tmp 78), (.tmp 80), (.tmp 82)], none⟩,
    ⟨some 75, .move (.tmp 83) false, none⟩,
    ⟨some 84, .extract (.tmp 75) 0, none⟩,
    ⟨some 85, .extract (.tmp 75) 1, none⟩,
    ⟨none, .store 2 (.tmp 4) (.tmp 84), none⟩,
    ⟨some 11, .assign (.tmp 85), none⟩])) (.seq (.region false [⟨some 87, .bin .eql (.tmp 28) (.const (.int .i64 (2))), none⟩,
    ⟨some 86, .assign (.tmp 87), none⟩])
   (.cond (.tmp 86) (.seq (.region false [⟨some 88, .move (.tmp 0) false, none⟩,
    ⟨some 89, .fieldAddr 2 (.tmp 9), none⟩,
    ⟨some 90, .load false 1 (.tmp 89) false, none⟩,
    ⟨some 91, .call 14 [(.tmp 88), (.tmp 90)], none⟩,
    ⟨some 10, .assign (.tmp 91), none⟩])
   (.region false [⟨some 93, .load true 2 (.tmp 4) false, none⟩,
    ⟨some 94, .fieldAddr 2 (.tmp 9), none⟩,
    ⟨some 95, .load false 1 (.tmp 94) false, none⟩,
    ⟨some 96, .call 22 [(.tmp 93), (.tmp 95)], none⟩,
    ⟨some 92, .move (.tmp 96) false, none⟩,
    ⟨some 97, .extract (.tmp 92) 0, none⟩,
    ⟨some 98, .extract (.tmp 92) 1, none⟩,
    ⟨none, .store 2 (.tmp 4) (.tmp 97), none⟩,
    ⟨some 11, .assign (.tmp 98), none⟩])) (.seq (.region false [⟨some 29, .move (.tmp 0) false, none⟩,
    ⟨some 30, .fieldAddr 1 (.tmp 9), none⟩,
    ⟨some 31, .load false 1 (.tmp 30) false, none⟩,
    ⟨some 32, .fieldAddr 3 (.tmp 9), none⟩,
    ⟨some 33, .load false 1 (.tmp 32) false, none⟩,
    ⟨some 34, .call 15 [(.tmp 29), (.tmp 31), (.tmp 33)], none⟩,
    ⟨some 10, .assign (.tmp 34), none⟩])
   (.region false [⟨some 36, .load true 2 (.tmp 4) false, none⟩,
    ⟨some 37, .fieldAddr 1 (.tmp 9), none⟩,
    ⟨some 38, .load false 1 (.tmp 37) false, none⟩,
    ⟨some 39, .fieldAddr 3 (.tmp 9), none⟩,
    ⟨some 40, .load false 1 (.tmp 39) false, none⟩,
    ⟨some 41, .call 23 [(.tmp 36), (.tmp 38), (.tmp 40)], none⟩,
    ⟨some 35, .move (.tmp 41) false, none⟩,
    ⟨some 42, .extract (.tmp 35) 0, none⟩,
    ⟨some 43, .extract (.tmp 35) 1, none⟩,
    ⟨none, .store 2 (.tmp 4) (.tmp 42), none⟩,
    ⟨some 11, .assign (.tmp 43), none⟩]))))))))))
   (.seq (.region false [⟨some 99, .move (.tmp 10) false, none⟩,
    ⟨some 100, .move (.tmp 11) false, none⟩,
    ⟨some 101, .bin .neq (.tmp 99) (.tmp 100), none⟩,
    ⟨some 102, .move (.tmp 101) false, none⟩,
    ⟨some 103, .move (.tmp 0) false, some (102, false)⟩,
    ⟨some 104, .load true 2 (.tmp 4) false, some (102, false)⟩,
    ⟨some 105, .call 19 [(.tmp 103), (.tmp 104)], some (102, false)⟩,
    ⟨some 106, .un .not (.tmp 105), some (102, false)⟩,
    ⟨some 107, .pick (.tmp 102) (.const (.bool true)) (.tmp 106), none⟩])
   (.cond (.tmp 107) (.seq (.region false [⟨some 108, .load true 2 (.tmp 4) false, none⟩,
    ⟨none, .store 2 (.tmp 6) (.tmp 108), none⟩,
    ⟨some 7, .assign (.const (.bool false)), none⟩])
   .ret) .skip)))))))
   (.region false [⟨some 20, .move (.tmp 8) false, none⟩,
    ⟨some 21, .bin .add (.tmp 20) (.const (.int .i64 (1))), none⟩,
    ⟨some 8, .assign (.tmp 21), none⟩])))

/-- 'chamberlain/chamberlainlaw24.play' -/
def m10 : MFunc :=
  ⟨3, 110, [.cell 6 true 2, .tmp 7],
   (.seq (.region false [⟨some 4, .box (.tmp 1), none⟩,
    ⟨some 6, .alloc [(.sl [] (some 81)), (.sl [] (some 83))], none⟩,
    ⟨some 7, .assign (.const (.bool false)), none⟩])
   (.seq (.seq (.region false [⟨some 8, .assign (.const (.int .i64 (0))), none⟩])
   (.block 0 (.loop [6, 4, 8, 0, 2, 1, 7] l10_0)))
   (.seq (.region false [⟨some 109, .load true 2 (.tmp 4) false, none⟩,
    ⟨none, .store 2 (.tmp 6) (.tmp 109), none⟩,
    ⟨some 7, .assign (.const (.bool true)), none⟩])
   .ret)))⟩


/-- 'chamberlain/quota.New' -/
def m11 : MFunc :=
  ⟨0, 5, [.tmp 0],
   (.seq (.region false [⟨some 0, .assign (.const .nilp), none⟩])
   (.seq (.region false [⟨some 1, .mkmap, none⟩,
    ⟨some 2, .mkmap, none⟩,
    ⟨some 3, .build [.nilm, .nilm] [(0, 1, (.tmp 1)), (1, 1, (.tmp 2))], none⟩,
    ⟨some 4, .box (.tmp 3), none⟩,
    ⟨some 0, .assign (.tmp 4), none⟩])
   .ret))⟩


/-- '(*chamberlain/quota.Tree).Add' -/
def m12 : MFunc :=
  ⟨4, 50, [.tmp 8],
   (.seq (.region false [⟨some 8, .assign (.const (.int .i64 (0))), none⟩])
   (.seq (.block 0 (.seq (.region false [⟨some 10, .move (.tmp 0) false, none⟩,
    ⟨some 11, .eqn false (.tmp 10), none⟩,
    ⟨some 12, .move (.tmp 11) false, none⟩,
    ⟨some 13, .move (.tmp 1) false, some (12, false)⟩,
    ⟨some 14, .bin .eql (.tmp 13) (.const (.str [])), some (12, false)⟩,
    ⟨some 15, .pick (.tmp 12) (.const (.bool true)) (.tmp 14), none⟩,
    ⟨some 16, .move (.tmp 15) false, none⟩,
    ⟨some 17, .move (.tmp 3) false, some (16, false)⟩,
    ⟨some 18, .bin .lss (.tmp 17) (.const (.int .i64 (0))), some (16, false)⟩,
    ⟨some 19, .pick (.tmp 16) (.const (.bool true)) (.tmp 18), none⟩,
    ⟨some 9, .assign (.tmp 19), none⟩])
   (.cond (.tmp 9) (.seq (.region false [⟨some 8, .assign (.const (.int .i64 (1))), none⟩])
   .ret) (.seq (.region false [⟨some 21, .move (.tmp 0) false, none⟩,
    ⟨some 22, .nilCheck (.tmp 21), none⟩,
    ⟨some 23, .fieldAddr 0 (.tmp 22), none⟩,
    ⟨some 24, .load false 1 (.tmp 23) false, none⟩,
    ⟨some 25, .move (.tmp 1) false, none⟩,
    ⟨some 26, .lookup 1 false [.nilp] (.tmp 24) (.tmp 25) false, none⟩,
    ⟨some 27, .eqn true (.tmp 26), none⟩,
    ⟨some 20, .assign (.tmp 27), none⟩])
   (.cond (.tmp 20) (.seq (.region false [⟨some 8, .assign (.const (.int .i64 (13))), none⟩])
   .ret) (.seq (.region false [⟨some 29, .move (.tmp 2) false, none⟩,
    ⟨some 30, .bin .neq (.tmp 29) (.const (.str [])), none⟩,
    ⟨some 31, .move (.tmp 30) false, none⟩,
    ⟨some 32, .move (.tmp 0) false, some (31, true)⟩,
    ⟨some 33, .nilCheck (.tmp 32), some (31, true)⟩,
    ⟨some 34, .fieldAddr 0 (.tmp 33), some (31, true)⟩,
    ⟨some 35, .load false 1 (.tmp 34) false, some (31, true)⟩,
    ⟨some 36, .move (.tmp 2) false, some (31, true)⟩,
    ⟨some 37, .lookup 1 false [.nilp] (.tmp 35) (.tmp 36) false, some (31, true)⟩,
    ⟨some 38, .eqn false (.tmp 37), some (31, true)⟩,
    ⟨some 39, .pick (.tmp 31) (.tmp 38) (.const (.bool false)), none⟩,
    ⟨some 28, .assign (.tmp 39), none⟩])
   (.cond (.tmp 28) (.seq (.region false [⟨some 8, .assign (.const (.int .i64 (60))), none⟩])
   .ret) .skip)))))))
   (.seq (.region false [⟨some 40, .move (.tmp 0) false, none⟩,
    ⟨some 41, .nilCheck (.tmp 40), none⟩,
    ⟨some 42, .fieldAddr 0 (.tmp 41), none⟩,
    ⟨some 43, .load false 1 (.tmp 42) false, none⟩,
    ⟨some 44, .move (.tmp 1) false, none⟩,
    ⟨some 45, .move (.tmp 1) false, none⟩,
    ⟨some 46, .move (.tmp 2) false, none⟩,
    ⟨some 47, .move (.tmp 3) false, none⟩,
    ⟨some 48, .build [(.str []), (.str []), (.int .i64 (0)), (.int .i64 (0))] [(0, 1, (.tmp 45)), (1, 1, (.tmp 46)), (2, 1, (.tmp 47))], none⟩,
    ⟨some 49, .box (.tmp 48), none⟩,
    ⟨none, .mapUpdateP 1 (.tmp 43) (.tmp 44) (.tmp 49), none⟩])
   (.seq (.region false [⟨some 8, .assign (.const (.int .i64 (0))), none⟩])
   .ret))))⟩


/-- '(*chamberlain/quota.Tree).SetLimit' -/
def m15 : MFunc :=
  ⟨3, 34, [.tmp 6],
   (.seq (.region false [⟨some 6, .assign (.const (.int .i64 (0))), none⟩])
   (.seq (.seq (.region false [⟨some 8, .move (.tmp 0) false, none⟩,
    ⟨some 9, .eqn false (.tmp 8), none⟩,
    ⟨some 10, .move (.tmp 9) false, none⟩,
    ⟨some 11, .move (.tmp 2) false, some (10, false)⟩,
    ⟨some 12, .bin .lss (.tmp 11) (.const (.int .i64 (0))), some (10, false)⟩,
    ⟨some 13, .pick (.tmp 10) (.const (.bool true)) (.tmp 12), none⟩])
   (.cond (.tmp 13) (.seq (.region false [⟨some 6, .assign (.const (.int .i64 (1))), none⟩])
   .ret) .skip))
   (.seq (.region false [⟨some 14, .move (.tmp 0) false, none⟩,
    ⟨some 15, .nilCheck (.tmp 14), none⟩,
    ⟨some 16, .fieldAddr 0 (.tmp 15), none⟩,
    ⟨some 17, .load false 1 (.tmp 16) false, none⟩,
    ⟨some 18, .move (.tmp 1) false, none⟩,
    ⟨some 19, .lookup 1 false [.nilp] (.tmp 17) (.tmp 18) false, none⟩,
    ⟨some 7, .assign (.tmp 19), none⟩])
   (.seq (.block 0 (.seq (.region false [⟨some 21, .move (.tmp 7) false, none⟩,
    ⟨some 22, .eqn false (.tmp 21), none⟩,
    ⟨some 20, .assign (.tmp 22), none⟩])
   (.cond (.tmp 20) (.seq (.region false [⟨some 6, .assign (.const (.int .i64 (60))), none⟩])
   .ret) (.seq (.region false [⟨some 24, .move (.tmp 2) false, none⟩,
    ⟨some 25, .move (.tmp 7) false, none⟩,
    ⟨some 26, .nilCheck (.tmp 25), none⟩,
    ⟨some 27, .fieldAddr 3 (.tmp 26), none⟩,
    ⟨some 28, .load false 1 (.tmp 27) false, none⟩,
    ⟨some 29, .bin .lss (.tmp 24) (.tmp 28), none⟩,
    ⟨some 23, .assign (.tmp 29), none⟩])
   (.cond (.tmp 23) (.seq (.region false [⟨some 6, .assign (.const (.int .i64 (61))), none⟩])
   .ret) .skip)))))
   (.seq (.region false [⟨some 30, .move (.tmp 7) false, none⟩,
    ⟨some 31, .move (.tmp 2) false, none⟩,
    ⟨some 32, .nilCheck (.tmp 30), none⟩,
    ⟨some 33, .fieldAddr 2 (.tmp 32), none⟩,
    ⟨none, .store 1 (.tmp 33) (.tmp 31), none⟩])
   (.seq (.region false [⟨some 6, .assign (.const (.int .i64 (0))), none⟩])
   .ret))))))⟩


/-- '(*chamberlain/quota.Tree).Live' -/
def m17 : MFunc :=
  ⟨1, 11, [.tmp 2],
   (.seq (.region false [⟨some 2, .assign (.const (.sl [] (some 44))), none⟩])
   (.seq (.seq (.region false [⟨some 3, .move (.tmp 0) false, none⟩,
    ⟨some 4, .eqn false (.tmp 3), none⟩])
   (.cond (.tmp 4) (.seq (.region false [⟨some 2, .assign (.const (.sl [] (some 44))), none⟩])
   .ret) .skip))
   (.seq (.region false [⟨some 5, .move (.tmp 0) false, none⟩,
    ⟨some 6, .nilCheck (.tmp 5), none⟩,
    ⟨some 7, .fieldAddr 1 (.tmp 6), none⟩,
    ⟨some 8, .load false 1 (.tmp 7) false, none⟩,
    ⟨some 9, .call 29 [(.tmp 8)], none⟩,
    ⟨some 10, .call 28 [(.tmp 9), (.const (.func 30 []))], none⟩,
    ⟨some 2, .assign (.tmp 10), none⟩])
   .ret)))⟩

def l19_0 : MCode :=
   (.seq (.seq (.region false [⟨some 27, .move (.tmp 7) false, none⟩,
    ⟨some 28, .move (.tmp 5) false, none⟩,
    ⟨some 29, .len 0 (.tmp 28), none⟩,
    ⟨some 30, .bin .lss (.tmp 27) (.tmp 29), none⟩])
   (.cond (.tmp 30) .skip (.exit 0)))
   (.seq (.block 1 (.seq (.region true [⟨some 33, .move (.tmp 5) false, none⟩,
    ⟨some 34, .move (.tmp 7) false, none⟩,
    ⟨some 35, .indexAddr 4 (.tmp 33) (.tmp 34), none⟩,
    ⟨some 36, .fieldAddr 0 (.tmp 35), none⟩,
    ⟨some 37, .load false 1 (.tmp 36) false, none⟩,
    ⟨some 38, .fieldAddr 0 (.tmp 3), none⟩,
    ⟨some 39, .load false 1 (.tmp 38) false, none⟩,
    ⟨some 40, .move (.tmp 7) false, none⟩,
    ⟨some 41, .indexAddr 3 (.tmp 39) (.tmp 40), none⟩,
    ⟨some 42, .fieldAddr 0 (.tmp 41), none⟩,
    ⟨some 43, .load false 1 (.tmp 42) false, none⟩,
    ⟨some 44, .bin .neq (.tmp 37) (.tmp 43), none⟩,
    ⟨some 45, .move (.tmp 44) false, none⟩,
    ⟨some 46, .move (.tmp 5) false, some (45, false)⟩,
    ⟨some 47, .move (.tmp 7) false, some (45, false)⟩,
    ⟨some 48, .indexAddr 4 (.tmp 46) (.tmp 47), some (45, false)⟩,
    ⟨some 49, .fieldAddr 1 (.tmp 48), some (45, false)⟩,
    ⟨some 50, .load false 1 (.tmp 49) false, some (45, false)⟩,
    ⟨some 51, .fieldAddr 0 (.tmp 3), some (45, false)⟩,
    ⟨some 52, .load false 1 (.tmp 51) false, some (45, false)⟩,
    ⟨some 53, .move (.tmp 7) false, some (45, false)⟩,
    ⟨some 54, .indexAddr 3 (.tmp 52) (.tmp 53), some (45, false)⟩,
    ⟨some 55, .fieldAddr 1 (.tmp 54), some (45, false)⟩,
    ⟨some 56, .load false 1 (.tmp 55) false, some (45, false)⟩,
    ⟨some 57, .bin .neq (.tmp 50) (.tmp 56), some (45, false)⟩,
    ⟨some 58, .pick (.tmp 45) (.const (.bool true)) (.tmp 57), none⟩,
    ⟨some 59, .move (.tmp 58) false, none⟩,
    ⟨some 60, .move (.tmp 5) false, some (59, false)⟩,
    ⟨some 61, .move (.tmp 7) false, some (59, false)⟩,
    ⟨some 62, .indexAddr 4 (.tmp 60) (.tmp 61), some (59, false)⟩,
    ⟨some 63, .fieldAddr 2 (.tmp 62), some (59, false)⟩,
    ⟨some 64, .load false 1 (.tmp 63) false, some (59, false)⟩,
    ⟨some 65, .fieldAddr 0 (.tmp 3), some (59, false)⟩,
    ⟨some 66, .load false 1 (.tmp 65) false, some (59, false)⟩,
    ⟨some 67, .move (.tmp 7) false, some (59, false)⟩,
    ⟨some 68, .indexAddr 3 (.tmp 66) (.tmp 67), some (59, false)⟩,
    ⟨some 69, .fieldAddr 2 (.tmp 68), some (59, false)⟩,
    ⟨some 70, .load false 1 (.tmp 69) false, some (59, false)⟩,
    ⟨some 71, .bin .neq (.tmp 64) (.tmp 70), some (59, false)⟩,
    ⟨some 72, .pick (.tmp 59) (.const (.bool true)) (.tmp 71), none⟩,
    ⟨some 73, .move (.tmp 72) false, none⟩,
    ⟨some 74, .move (.tmp 5) false, some (73, false)⟩,
    ⟨some 75, .move (.tmp 7) false, some (73, false)⟩,
    ⟨some 76, .indexAddr 4 (.tmp 74) (.tmp 75), some (73, false)⟩,
    ⟨some 77, .fieldAddr 3 (.tmp 76), some (73, false)⟩,
    ⟨some 78, .load false 1 (.tmp 77) false, some (73, false)⟩,
    ⟨some 79, .load true 2 (.tmp 3) false, some (73, false)⟩,
    ⟨some 80, .move (.tmp 5) false, some (73, false)⟩,
    ⟨some 81, .move (.tmp 7) false, some (73, false)⟩,
    ⟨some 82, .indexAddr 4 (.tmp 80) (.tmp 81), some (73, false)⟩,
    ⟨some 83, .fieldAddr 0 (.tmp 82), some (73, false)⟩,
    ⟨some 84, .load false 1 (.tmp 83) false, some (73, false)⟩,
    ⟨some 85, .call 32 [(.tmp 79), (.tmp 84)], some (73, false)⟩,
    ⟨some 86, .bin .neq (.tmp 78) (.tmp 85), some (73, false)⟩,
    ⟨some 87, .pick (.tmp 73) (.const (.bool true)) (.tmp 86), none⟩])
   (.cond (.tmp 87) (.seq (.region false [⟨some 4, .assign (.const (.bool false)), none⟩])
   .ret) .skip)))
   (.region false [⟨some 31, .move (.tmp 7) false, none⟩,
    ⟨some 32, .bin .add (.tmp 31) (.const (.int .i64 (1))), none⟩,
    ⟨some 7, .assign (.tmp 32), none⟩])))

def l19_1 : MCode :=
   (.seq (.seq (.region false [⟨some 88, .move (.tmp 8) false, none⟩,
    ⟨some 89, .move (.tmp 6) false, none⟩,
    ⟨some 90, .len 0 (.tmp 89), none⟩,
    ⟨some 91, .bin .lss (.tmp 88) (.tmp 90), none⟩])
   (.cond (.tmp 91) .skip (.exit 2)))
   (.seq (.block 3 (.seq (.region false [⟨some 94, .move (.tmp 6) false, none⟩,
    ⟨some 95, .move (.tmp 8) false, none⟩,
    ⟨some 96, .indexAddr 3 (.tmp 94) (.tmp 95), none⟩,
    ⟨some 97, .fieldAddr 0 (.tmp 96), none⟩,
    ⟨some 98, .load false 1 (.tmp 97) false, none⟩,
    ⟨some 99, .fieldAddr 1 (.tmp 3), none⟩,
    ⟨some 100, .load false 1 (.tmp 99) false, none⟩,
    ⟨some 101, .move (.tmp 8) false, none⟩,
    ⟨some 102, .indexAddr 3 (.tmp 100) (.tmp 101), none⟩,
    ⟨some 103, .fieldAddr 0 (.tmp 102), none⟩,
    ⟨some 104, .load false 1 (.tmp 103) false, none⟩,
    ⟨some 105, .bin .neq (.tmp 98) (.tmp 104), none⟩,
    ⟨some 106, .move (.tmp 105) false, none⟩,
    ⟨some 107, .move (.tmp 6) false, some (106, false)⟩,
    ⟨some 108, .move (.tmp 8) false, some (106, false)⟩,
    ⟨some 109, .indexAddr 3 (.tmp 107) (.tmp 108), some (106, false)⟩,
    ⟨some 110, .fieldAddr 1 (.tmp 109), some (106, false)⟩,
    ⟨some 111, .load false 1 (.tmp 110) false, some (106, false)⟩,
    ⟨some 112, .fieldAddr 1 (.tmp 3), some (106, false)⟩,
    ⟨some 113, .load false 1 (.tmp 112) false, some (106, false)⟩,
    ⟨some 114, .move (.tmp 8) false, some (106, false)⟩,
    ⟨some 115, .indexAddr 3 (.tmp 113) (.tmp 114), some (106, false)⟩,
    ⟨some 116, .fieldAddr 1 (.tmp 115), some (106, false)⟩,
    ⟨some 117, .load false 1 (.tmp 116) false, some (106, false)⟩,
    ⟨some 118, .bin .neq (.tmp 111) (.tmp 117), some (106, false)⟩,
    ⟨some 119, .pick (.tmp 106) (.const (.bool true)) (.tmp 118), none⟩,
    ⟨some 120, .move (.tmp 119) false, none⟩,
    ⟨some 121, .move (.tmp 6) false, some (120, false)⟩,
    ⟨some 122, .move (.tmp 8) false, some (120, false)⟩,
    ⟨some 123, .indexAddr 3 (.tmp 121) (.tmp 122), some (120, false)⟩,
    ⟨some 124, .fieldAddr 2 (.tmp 123), some (120, false)⟩,
    ⟨some 125, .load false 1 (.tmp 124) false, some (120, false)⟩,
    ⟨some 126, .fieldAddr 1 (.tmp 3), some (120, false)⟩,
    ⟨some 127, .load false 1 (.tmp 126) false, some (120, false)⟩,
    ⟨some 128, .move (.tmp 8) false, some (120, false)⟩,
    ⟨some 129, .indexAddr 3 (.tmp 127) (.tmp 128), some (120, false)⟩,
    ⟨some 130, .fieldAddr 2 (.tmp 129), some (120, false)⟩,
    ⟨some 131, .load false 1 (.tmp 130) false, some (120, false)⟩,
    ⟨some 132, .bin .neq (.tmp 125) (.tmp 131), some (120, false)⟩,
    ⟨some 133, .pick (.tmp 120) (.const (.bool true)) (.tmp 132), none⟩])
   (.cond (.tmp 133) (.seq (.region false [⟨some 4, .assign (.const (.bool false)), none⟩])
   .ret) .skip)))
   (.region false [⟨some 92, .move (.tmp 8) false, none⟩,
    ⟨some 93, .bin .add (.tmp 92) (.const (.int .i64 (1))), none⟩,
    ⟨some 8, .assign (.tmp 93), none⟩])))

/-- 'chamberlain/chamberlainlaw24.same' -/
def m19 : MFunc :=
  ⟨2, 134, [.tmp 4],
   (.seq (.region false [⟨some 3, .box (.tmp 1), none⟩,
    ⟨some 4, .assign (.const (.bool false)), none⟩])
   (.seq (.region false [⟨some 9, .move (.tmp 0) false, none⟩,
    ⟨some 10, .call 16 [(.tmp 9)], none⟩,
    ⟨some 5, .assign (.tmp 10), none⟩])
   (.seq (.region false [⟨some 11, .move (.tmp 0) false, none⟩,
    ⟨some 12, .call 17 [(.tmp 11)], none⟩,
    ⟨some 6, .assign (.tmp 12), none⟩])
   (.seq (.seq (.region false [⟨some 13, .move (.tmp 5) false, none⟩,
    ⟨some 14, .len 0 (.tmp 13), none⟩,
    ⟨some 15, .fieldAddr 0 (.tmp 3), none⟩,
    ⟨some 16, .load false 1 (.tmp 15) false, none⟩,
    ⟨some 17, .len 0 (.tmp 16), none⟩,
    ⟨some 18, .bin .neq (.tmp 14) (.tmp 17), none⟩,
    ⟨some 19, .move (.tmp 18) false, none⟩,
    ⟨some 20, .move (.tmp 6) false, some (19, false)⟩,
    ⟨some 21, .len 0 (.tmp 20), some (19, false)⟩,
    ⟨some 22, .fieldAddr 1 (.tmp 3), some (19, false)⟩,
    ⟨some 23, .load false 1 (.tmp 22) false, some (19, false)⟩,
    ⟨some 24, .len 0 (.tmp 23), some (19, false)⟩,
    ⟨some 25, .bin .neq (.tmp 21) (.tmp 24), some (19, false)⟩,
    ⟨some 26, .pick (.tmp 19) (.const (.bool true)) (.tmp 25), none⟩])
   (.cond (.tmp 26) (.seq (.region false [⟨some 4, .assign (.const (.bool false)), none⟩])
   .ret) .skip))
   (.seq (.seq (.region false [⟨some 7, .assign (.const (.int .i64 (0))), none⟩])
   (.block 0 (.loop [8, 3, 6, 7, 5, 0, 1, 4] l19_0)))
   (.seq (.seq (.region false [⟨some 8, .assign (.const (.int .i64 (0))), none⟩])
   (.block 2 (.loop [8, 3, 6, 7, 5, 0, 1, 4] l19_1)))
   (.seq (.region false [⟨some 4, .assign (.const (.bool true)), none⟩])
   .ret)))))))⟩

def l20_0 : MCode :=
   (.seq (.seq (.region false [⟨some 33, .move (.tmp 11) false, none⟩,
    ⟨some 34, .fieldAddr 0 (.tmp 4), none⟩,
    ⟨some 35, .load false 1 (.tmp 34) false, none⟩,
    ⟨some 36, .len 0 (.tmp 35), none⟩,
    ⟨some 37, .bin .lss (.tmp 33) (.tmp 36), none⟩,
    ⟨some 38, .move (.tmp 37) false, none⟩,
    ⟨some 39, .fieldAddr 0 (.tmp 4), some (38, true)⟩,
    ⟨some 40, .load false 1 (.tmp 39) false, some (38, true)⟩,
    ⟨some 41, .move (.tmp 11) false, some (38, true)⟩,
    ⟨some 42, .indexAddr 3 (.tmp 40) (.tmp 41), some (38, true)⟩,
    ⟨some 43, .fieldAddr 0 (.tmp 42), some (38, true)⟩,
    ⟨some 44, .load false 1 (.tmp 43) false, some (38, true)⟩,
    ⟨some 45, .move (.tmp 1) false, some (38, true)⟩,
    ⟨some 46, .call 34 [(.tmp 44), (.tmp 45)], some (38, true)⟩,
    ⟨some 47, .bin .lss (.tmp 46) (.const (.int .i64 (0))), some (38, true)⟩,
    ⟨some 48, .pick (.tmp 38) (.tmp 47) (.const (.bool false)), none⟩])
   (.cond (.tmp 48) .skip (.exit 0)))
   (.block 1 (.region false [⟨some 49, .move (.tmp 11) false, none⟩,
    ⟨some 50, .bin .add (.tmp 49) (.const (.int .i64 (1))), none⟩,
    ⟨some 11, .assign (.tmp 50), none⟩])))

/-- 'chamberlain/chamberlainref24.Add' -/
def m20 : MFunc :=
  ⟨4, 72, [.cell 8 true 2, .tmp 9],
   (.seq (.region false [⟨some 4, .box (.tmp 0), none⟩,
    ⟨some 8, .alloc [(.sl [] (some 81)), (.sl [] (some 83))], none⟩,
    ⟨some 9, .assign (.const (.int .i64 (0))), none⟩])
   (.seq (.seq (.region false [⟨some 12, .move (.tmp 1) false, none⟩,
    ⟨some 13, .bin .eql (.tmp 12) (.const (.str [])), none⟩,
    ⟨some 14, .move (.tmp 13) false, none⟩,
    ⟨some 15, .move (.tmp 3) false, some (14, false)⟩,
    ⟨some 16, .bin .lss (.tmp 15) (.const (.int .i64 (0))), some (14, false)⟩,
    ⟨some 17, .pick (.tmp 14) (.const (.bool true)) (.tmp 16), none⟩])
   (.cond (.tmp 17) (.seq (.region false [⟨some 18, .load true 2 (.tmp 4) false, none⟩,
    ⟨none, .store 2 (.tmp 8) (.tmp 18), none⟩,
    ⟨some 9, .assign (.const (.int .i64 (1))), none⟩])
   .ret) .skip))
   (.seq (.seq (.region false [⟨some 19, .load true 2 (.tmp 4) false, none⟩,
    ⟨some 20, .move (.tmp 1) false, none⟩,
    ⟨some 21, .call 33 [(.tmp 19), (.tmp 20)], none⟩,
    ⟨some 22, .bin .geq (.tmp 21) (.const (.int .i64 (0))), none⟩])
   (.cond (.tmp 22) (.seq (.region false [⟨some 23, .load true 2 (.tmp 4) false, none⟩,
    ⟨none, .store 2 (.tmp 8) (.tmp 23), none⟩,
    ⟨some 9, .assign (.const (.int .i64 (13))), none⟩])
   .ret) .skip))
   (.seq (.seq (.region false [⟨some 24, .move (.tmp 2) false, none⟩,
    ⟨some 25, .bin .neq (.tmp 24) (.const (.str [])), none⟩,
    ⟨some 26, .move (.tmp 25) false, none⟩,
    ⟨some 27, .load true 2 (.tmp 4) false, some (26, true)⟩,
    ⟨some 28, .move (.tmp 2) false, some (26, true)⟩,
    ⟨some 29, .call 33 [(.tmp 27), (.tmp 28)], some (26, true)⟩,
    ⟨some 30, .bin .lss (.tmp 29) (.const (.int .i64 (0))), some (26, true)⟩,
    ⟨some 31, .pick (.tmp 26) (.tmp 30) (.const (.bool false)), none⟩])
   (.cond (.tmp 31) (.seq (.region false [⟨some 32, .load true 2 (.tmp 4) false, none⟩,
    ⟨none, .store 2 (.tmp 8) (.tmp 32), none⟩,
    ⟨some 9, .assign (.const (.int .i64 (60))), none⟩])
   .ret) .skip))
   (.seq (.region false [⟨some 10, .assign (.const (.sl [] (some 81))), none⟩])
   (.seq (.region false [⟨some 11, .assign (.const (.int .i64 (0))), none⟩])
   (.seq (.block 0 (.loop [8, 4, 11, 3, 2, 1, 10, 0, 9] l20_0))
   (.seq (.region false [⟨some 51, .move (.tmp 10) true, none⟩,
    ⟨some 52, .fieldAddr 0 (.tmp 4), none⟩,
    ⟨some 53, .load false 1 (.tmp 52) false, none⟩,
    ⟨some 54, .move (.tmp 11) false, none⟩,
    ⟨some 55, .slice 3 (.tmp 53) none (some (.tmp 54)), none⟩,
    ⟨some 56, .append 81 3 40 false (.tmp 51) (.tmp 55), none⟩,
    ⟨some 10, .assign (.tmp 56), none⟩])
   (.seq (.region false [⟨some 57, .move (.tmp 10) true, none⟩,
    ⟨some 58, .move (.tmp 1) false, none⟩,
    ⟨some 59, .move (.tmp 2) false, none⟩,
    ⟨some 60, .move (.tmp 3) false, none⟩,
    ⟨some 61, .build [(.str []), (.str []), (.int .i64 (0))] [(0, 1, (.tmp 58)), (1, 1, (.tmp 59)), (2, 1, (.tmp 60))], none⟩,
    ⟨some 62, .buildSlice 81 3 1 [(.str []), (.str []), (.int .i64 (0))] [(0, (.tmp 61))], none⟩,
    ⟨some 63, .append 81 3 40 false (.tmp 57) (.tmp 62), none⟩,
    ⟨some 10, .assign (.tmp 63), none⟩])
   (.seq (.region false [⟨some 64, .move (.tmp 10) true, none⟩,
    ⟨some 65, .fieldAddr 0 (.tmp 4), none⟩,
    ⟨some 66, .load false 1 (.tmp 65) false, none⟩,
    ⟨some 67, .move (.tmp 11) false, none⟩,
    ⟨some 68, .slice 3 (.tmp 66) (some (.tmp 67)) none, none⟩,
    ⟨some 69, .append 81 3 40 false (.tmp 64) (.tmp 68), none⟩,
    ⟨some 70, .fieldAddr 0 (.tmp 4), none⟩,
    ⟨none, .store 1 (.tmp 70) (.tmp 69), none⟩])
   (.seq (.region false [⟨some 71, .load true 2 (.tmp 4) false, none⟩,
    ⟨none, .store 2 (.tmp 8) (.tmp 71), none⟩,
    ⟨some 9, .assign (.const (.int .i64 (0))), none⟩])
   .ret)))))))))))⟩

def l21_0 : MCode :=
   (.seq (.seq (.region false [⟨some 33, .move (.tmp 10) false, none⟩,
    ⟨some 34, .fieldAddr 0 (.tmp 4), none⟩,
    ⟨some 35, .load false 1 (.tmp 34) false, none⟩,
    ⟨some 36, .len 0 (.tmp 35), none⟩,
    ⟨some 37, .bin .lss (.tmp 33) (.tmp 36), none⟩])
   (.cond (.tmp 37) .skip (.exit 0)))
   (.seq (.block 1 (.seq (.region false [⟨some 40, .load true 2 (.tmp 4) false, none⟩,
    ⟨some 41, .move (.tmp 1) false, none⟩,
    ⟨some 42, .fieldAddr 0 (.tmp 4), none⟩,
    ⟨some 43, .load false 1 (.tmp 42) false, none⟩,
    ⟨some 44, .move (.tmp 10) false, none⟩,
    ⟨some 45, .indexAddr 3 (.tmp 43) (.tmp 44), none⟩,
    ⟨some 46, .fieldAddr 0 (.tmp 45), none⟩,
    ⟨some 47, .load false 1 (.tmp 46) false, none⟩,
    ⟨some 48, .call 36 [(.tmp 40), (.tmp 41), (.tmp 47)], none⟩,
    ⟨some 11, .assign (.tmp 48), none⟩])
   (.seq (.seq (.region false [⟨some 49, .move (.tmp 11) false, none⟩,
    ⟨some 50, .un .not (.tmp 49), none⟩])
   (.cond (.tmp 50) (.exit 1) .skip))
   (.seq (.region true [⟨some 52, .load true 2 (.tmp 4) false, none⟩,
    ⟨some 53, .fieldAddr 0 (.tmp 4), none⟩,
    ⟨some 54, .load false 1 (.tmp 53) false, none⟩,
    ⟨some 55, .move (.tmp 10) false, none⟩,
    ⟨some 56, .indexAddr 3 (.tmp 54) (.tmp 55), none⟩,
    ⟨some 57, .fieldAddr 0 (.tmp 56), none⟩,
    ⟨some 58, .load false 1 (.tmp 57) false, none⟩,
    ⟨some 59, .call 32 [(.tmp 52), (.tmp 58)], none⟩,
    ⟨some 60, .move (.tmp 3) false, none⟩,
    ⟨some 61, .call 37 [(.tmp 59), (.tmp 60)], none⟩,
    ⟨some 51, .move (.tmp 61) false, none⟩,
    ⟨some 62, .extract (.tmp 51) 0, none⟩,
    ⟨some 63, .extract (.tmp 51) 1, none⟩,
    ⟨some 12, .assign (.tmp 62), none⟩,
    ⟨some 13, .assign (.tmp 63), none⟩])
   (.seq (.region false [⟨some 64, .move (.tmp 13) false, none⟩,
    ⟨some 65, .bin .neq (.tmp 64) (.const (.int .i64 (0))), none⟩,
    ⟨some 66, .move (.tmp 65) false, none⟩,
    ⟨some 67, .move (.tmp 12) false, some (66, false)⟩,
    ⟨some 68, .fieldAddr 0 (.tmp 4), some (66, false)⟩,
    ⟨some 69, .load false 1 (.tmp 68) false, some (66, false)⟩,
    ⟨some 70, .move (.tmp 10) false, some (66, false)⟩,
    ⟨some 71, .indexAddr 3 (.tmp 69) (.tmp 70), some (66, false)⟩,
    ⟨some 72, .fieldAddr 2 (.tmp 71), some (66, false)⟩,
    ⟨some 73, .load false 1 (.tmp 72) false, some (66, false)⟩,
    ⟨some 74, .bin .gtr (.tmp 67) (.tmp 73), some (66, false)⟩,
    ⟨some 75, .pick (.tmp 66) (.const (.bool true)) (.tmp 74), none⟩])
   (.cond (.tmp 75) (.seq (.region false [⟨some 76, .load true 2 (.tmp 4) false, none⟩,
    ⟨none, .store 2 (.tmp 8) (.tmp 76), none⟩,
    ⟨some 9, .assign (.const (.int .i64 (61))), none⟩])
   .ret) .skip))))))
   (.region false [⟨some 38, .move (.tmp 10) false, none⟩,
    ⟨some 39, .bin .add (.tmp 38) (.const (.int .i64 (1))), none⟩,
    ⟨some 10, .assign (.tmp 39), none⟩])))

def l21_1 : MCode :=
   (.seq (.seq (.region false [⟨some 77, .move (.tmp 15) false, none⟩,
    ⟨some 78, .fieldAddr 1 (.tmp 4), none⟩,
    ⟨some 79, .load false 1 (.tmp 78) false, none⟩,
    ⟨some 80, .len 0 (.tmp 79), none⟩,
    ⟨some 81, .bin .lss (.tmp 77) (.tmp 80), none⟩,
    ⟨some 82, .move (.tmp 81) false, none⟩,
    ⟨some 83, .fieldAddr 1 (.tmp 4), some (82, true)⟩,
    ⟨some 84, .load false 1 (.tmp 83) false, some (82, true)⟩,
    ⟨some 85, .move (.tmp 15) false, some (82, true)⟩,
    ⟨some 86, .indexAddr 3 (.tmp 84) (.tmp 85), some (82, true)⟩,
    ⟨some 87, .fieldAddr 0 (.tmp 86), some (82, true)⟩,
    ⟨some 88, .load false 1 (.tmp 87) false, some (82, true)⟩,
    ⟨some 89, .move (.tmp 2) false, some (82, true)⟩,
    ⟨some 90, .call 34 [(.tmp 88), (.tmp 89)], some (82, true)⟩,
    ⟨some 91, .bin .lss (.tmp 90) (.const (.int .i64 (0))), some (82, true)⟩,
    ⟨some 92, .pick (.tmp 82) (.tmp 91) (.const (.bool false)), none⟩])
   (.cond (.tmp 92) .skip (.exit 2)))
   (.block 3 (.region false [⟨some 93, .move (.tmp 15) false, none⟩,
    ⟨some 94, .bin .add (.tmp 93) (.const (.int .i64 (1))), none⟩,
    ⟨some 15, .assign (.tmp 94), none⟩])))

/-- 'chamberlain/chamberlainref24.Reserve' -/
def m21 : MFunc :=
  ⟨4, 116, [.cell 8 true 2, .tmp 9],
   (.seq (.region false [⟨some 4, .box (.tmp 0), none⟩,
    ⟨some 8, .alloc [(.sl [] (some 81)), (.sl [] (some 83))], none⟩,
    ⟨some 9, .assign (.const (.int .i64 (0))), none⟩])
   (.seq (.seq (.region false [⟨some 16, .move (.tmp 2) false, none⟩,
    ⟨some 17, .bin .eql (.tmp 16) (.const (.str [])), none⟩,
    ⟨some 18, .move (.tmp 17) false, none⟩,
    ⟨some 19, .move (.tmp 3) false, some (18, false)⟩,
    ⟨some 20, .bin .lss (.tmp 19) (.const (.int .i64 (1))), some (18, false)⟩,
    ⟨some 21, .pick (.tmp 18) (.const (.bool true)) (.tmp 20), none⟩])
   (.cond (.tmp 21) (.seq (.region false [⟨some 22, .load true 2 (.tmp 4) false, none⟩,
    ⟨none, .store 2 (.tmp 8) (.tmp 22), none⟩,
    ⟨some 9, .assign (.const (.int .i64 (1))), none⟩])
   .ret) .skip))
   (.seq (.seq (.region false [⟨some 23, .load true 2 (.tmp 4) false, none⟩,
    ⟨some 24, .move (.tmp 1) false, none⟩,
    ⟨some 25, .call 33 [(.tmp 23), (.tmp 24)], none⟩,
    ⟨some 26, .bin .lss (.tmp 25) (.const (.int .i64 (0))), none⟩])
   (.cond (.tmp 26) (.seq (.region false [⟨some 27, .load true 2 (.tmp 4) false, none⟩,
    ⟨none, .store 2 (.tmp 8) (.tmp 27), none⟩,
    ⟨some 9, .assign (.const (.int .i64 (60))), none⟩])
   .ret) .skip))
   (.seq (.seq (.region false [⟨some 28, .load true 2 (.tmp 4) false, none⟩,
    ⟨some 29, .move (.tmp 2) false, none⟩,
    ⟨some 30, .call 35 [(.tmp 28), (.tmp 29)], none⟩,
    ⟨some 31, .bin .geq (.tmp 30) (.const (.int .i64 (0))), none⟩])
   (.cond (.tmp 31) (.seq (.region false [⟨some 32, .load true 2 (.tmp 4) false, none⟩,
    ⟨none, .store 2 (.tmp 8) (.tmp 32), none⟩,
    ⟨some 9, .assign (.const (.int .i64 (13))), none⟩])
   .ret) .skip))
   (.seq (.seq (.region false [⟨some 10, .assign (.const (.int .i64 (0))), none⟩])
   (.block 0 (.loop [8, 4, 15, 3, 1, 2, 14, 10, 0, 9] l21_0)))
   (.seq (.region false [⟨some 14, .assign (.const (.sl [] (some 83))), none⟩])
   (.seq (.region false [⟨some 15, .assign (.const (.int .i64 (0))), none⟩])
   (.seq (.block 2 (.loop [8, 4, 15, 3, 1, 2, 14, 10, 0, 9] l21_1))
   (.seq (.region false [⟨some 95, .move (.tmp 14) true, none⟩,
    ⟨some 96, .fieldAddr 1 (.tmp 4), none⟩,
    ⟨some 97, .load false 1 (.tmp 96) false, none⟩,
    ⟨some 98, .move (.tmp 15) false, none⟩,
    ⟨some 99, .slice 3 (.tmp 97) none (some (.tmp 98)), none⟩,
    ⟨some 100, .append 83 3 40 false (.tmp 95) (.tmp 99), none⟩,
    ⟨some 14, .assign (.tmp 100), none⟩])
   (.seq (.region false [⟨some 101, .move (.tmp 14) true, none⟩,
    ⟨some 102, .move (.tmp 2) false, none⟩,
    ⟨some 103, .move (.tmp 1) false, none⟩,
    ⟨some 104, .move (.tmp 3) false, none⟩,
    ⟨some 105, .build [(.str []), (.str []), (.int .i64 (0))] [(0, 1, (.tmp 102)), (1, 1, (.tmp 103)), (2, 1, (.tmp 104))], none⟩,
    ⟨some 106, .buildSlice 83 3 1 [(.str []), (.str []), (.int .i64 (0))] [(0, (.tmp 105))], none⟩,
    ⟨some 107, .append 83 3 40 false (.tmp 101) (.tmp 106), none⟩,
    ⟨some 14, .assign (.tmp 107), none⟩])
   (.seq (.region false [⟨some 108, .move (.tmp 14) true, none⟩,
    ⟨some 109, .fieldAddr 1 (.tmp 4), none⟩,
    ⟨some 110, .load false 1 (.tmp 109) false, none⟩,
    ⟨some 111, .move (.tmp 15) false, none⟩,
    ⟨some 112, .slice 3 (.tmp 110) (some (.tmp 111)) none, none⟩,
    ⟨some 113, .append 83 3 40 false (.tmp 108) (.tmp 112), none⟩,
    ⟨some 114, .fieldAddr 1 (.tmp 4), none⟩,
    ⟨none, .store 1 (.tmp 114) (.tmp 113), none⟩])
   (.seq (.region false [⟨some 115, .load true 2 (.tmp 4) false, none⟩,
    ⟨none, .store 2 (.tmp 8) (.tmp 115), none⟩,
    ⟨some 9, .assign (.const (.int .i64 (0))), none⟩])
   .ret))))))))))))⟩


/-- 'chamberlain/chamberlainref24.Release' -/
def m22 : MFunc :=
  ⟨2, 29, [.cell 4 true 2, .tmp 5],
   (.seq (.region false [⟨some 2, .box (.tmp 0), none⟩,
    ⟨some 4, .alloc [(.sl [] (some 81)), (.sl [] (some 83))], none⟩,
    ⟨some 5, .assign (.const (.int .i64 (0))), none⟩])
   (.seq (.region false [⟨some 8, .load true 2 (.tmp 2) false, none⟩,
    ⟨some 9, .move (.tmp 1) false, none⟩,
    ⟨some 10, .call 35 [(.tmp 8), (.tmp 9)], none⟩,
    ⟨some 6, .assign (.tmp 10), none⟩])
   (.seq (.seq (.region false [⟨some 11, .move (.tmp 6) false, none⟩,
    ⟨some 12, .bin .lss (.tmp 11) (.const (.int .i64 (0))), none⟩])
   (.cond (.tmp 12) (.seq (.region false [⟨some 13, .load true 2 (.tmp 2) false, none⟩,
    ⟨none, .store 2 (.tmp 4) (.tmp 13), none⟩,
    ⟨some 5, .assign (.const (.int .i64 (60))), none⟩])
   .ret) .skip))
   (.seq (.region false [⟨some 7, .assign (.const (.sl [] (some 83))), none⟩])
   (.seq (.region false [⟨some 14, .move (.tmp 7) true, none⟩,
    ⟨some 15, .fieldAddr 1 (.tmp 2), none⟩,
    ⟨some 16, .load false 1 (.tmp 15) false, none⟩,
    ⟨some 17, .move (.tmp 6) false, none⟩,
    ⟨some 18, .slice 3 (.tmp 16) none (some (.tmp 17)), none⟩,
    ⟨some 19, .append 83 3 40 false (.tmp 14) (.tmp 18), none⟩,
    ⟨some 7, .assign (.tmp 19), none⟩])
   (.seq (.region false [⟨some 20, .move (.tmp 7) true, none⟩,
    ⟨some 21, .fieldAddr 1 (.tmp 2), none⟩,
    ⟨some 22, .load false 1 (.tmp 21) false, none⟩,
    ⟨some 23, .move (.tmp 6) false, none⟩,
    ⟨some 24, .bin .add (.tmp 23) (.const (.int .i64 (1))), none⟩,
    ⟨some 25, .slice 3 (.tmp 22) (some (.tmp 24)) none, none⟩,
    ⟨some 26, .append 83 3 40 false (.tmp 20) (.tmp 25), none⟩,
    ⟨some 27, .fieldAddr 1 (.tmp 2), none⟩,
    ⟨none, .store 1 (.tmp 27) (.tmp 26), none⟩])
   (.seq (.region false [⟨some 28, .load true 2 (.tmp 2) false, none⟩,
    ⟨none, .store 2 (.tmp 4) (.tmp 28), none⟩,
    ⟨some 5, .assign (.const (.int .i64 (0))), none⟩])
   .ret)))))))⟩


/-- 'chamberlain/chamberlainref24.SetLimit' -/
def m23 : MFunc :=
  ⟨3, 37, [.cell 6 true 2, .tmp 7],
   (.seq (.region false [⟨some 3, .box (.tmp 0), none⟩,
    ⟨some 6, .alloc [(.sl [] (some 81)), (.sl [] (some 83))], none⟩,
    ⟨some 7, .assign (.const (.int .i64 (0))), none⟩])
   (.seq (.seq (.region false [⟨some 10, .move (.tmp 2) false, none⟩,
    ⟨some 11, .bin .lss (.tmp 10) (.const (.int .i64 (0))), none⟩])
   (.cond (.tmp 11) (.seq (.region false [⟨some 12, .load true 2 (.tmp 3) false, none⟩,
    ⟨none, .store 2 (.tmp 6) (.tmp 12), none⟩,
    ⟨some 7, .assign (.const (.int .i64 (1))), none⟩])
   .ret) .skip))
   (.seq (.region false [⟨some 13, .load true 2 (.tmp 3) false, none⟩,
    ⟨some 14, .move (.tmp 1) false, none⟩,
    ⟨some 15, .call 33 [(.tmp 13), (.tmp 14)], none⟩,
    ⟨some 8, .assign (.tmp 15), none⟩])
   (.seq (.seq (.region false [⟨some 16, .move (.tmp 8) false, none⟩,
    ⟨some 17, .bin .lss (.tmp 16) (.const (.int .i64 (0))), none⟩])
   (.cond (.tmp 17) (.seq (.region false [⟨some 18, .load true 2 (.tmp 3) false, none⟩,
    ⟨none, .store 2 (.tmp 6) (.tmp 18), none⟩,
    ⟨some 7, .assign (.const (.int .i64 (60))), none⟩])
   .ret) .skip))
   (.seq (.seq (.region false [⟨some 19, .move (.tmp 2) false, none⟩,
    ⟨some 20, .load true 2 (.tmp 3) false, none⟩,
    ⟨some 21, .move (.tmp 1) false, none⟩,
    ⟨some 22, .call 32 [(.tmp 20), (.tmp 21)], none⟩,
    ⟨some 23, .bin .lss (.tmp 19) (.tmp 22), none⟩])
   (.cond (.tmp 23) (.seq (.region false [⟨some 24, .load true 2 (.tmp 3) false, none⟩,
    ⟨none, .store 2 (.tmp 6) (.tmp 24), none⟩,
    ⟨some 7, .assign (.const (.int .i64 (61))), none⟩])
   .ret) .skip))
   (.seq (.region false [⟨some 9, .assign (.const (.sl [] (some 81))), none⟩])
   (.seq (.region false [⟨some 25, .move (.tmp 9) true, none⟩,
    ⟨some 26, .fieldAddr 0 (.tmp 3), none⟩,
    ⟨some 27, .load false 1 (.tmp 26) false, none⟩,
    ⟨some 28, .append 81 3 40 true (.tmp 25) (.tmp 27), none⟩,
    ⟨some 9, .assign (.tmp 28), none⟩])
   (.seq (.region false [⟨some 29, .move (.tmp 9) false, none⟩,
    ⟨some 30, .move (.tmp 8) false, none⟩,
    ⟨some 31, .move (.tmp 2) false, none⟩,
    ⟨some 32, .indexAddr 3 (.tmp 29) (.tmp 30), none⟩,
    ⟨some 33, .fieldAddr 2 (.tmp 32), none⟩,
    ⟨none, .store 1 (.tmp 33) (.tmp 31), none⟩])
   (.seq (.region false [⟨some 34, .move (.tmp 9) false, none⟩,
    ⟨some 35, .fieldAddr 0 (.tmp 3), none⟩,
    ⟨none, .store 1 (.tmp 35) (.tmp 34), none⟩])
   (.seq (.region false [⟨some 36, .load true 2 (.tmp 3) false, none⟩,
    ⟨none, .store 2 (.tmp 6) (.tmp 36), none⟩,
    ⟨some 7, .assign (.const (.int .i64 (0))), none⟩])
   .ret))))))))))⟩


/-- '(*chamberlain/quota.Tree).line' -/
def m24 : MFunc :=
  ⟨2, 6, [.tmp 4],
   (.seq (.region false [⟨some 2, .box (.tmp 0), none⟩,
    ⟨some 3, .box (.tmp 1), none⟩,
    ⟨some 4, .assign (.const .nilf), none⟩])
   (.seq (.region false [⟨some 5, .mkfunc 38 [(.tmp 2), (.tmp 3)], none⟩,
    ⟨some 4, .assign (.tmp 5), none⟩])
   .ret))⟩


/-- 'maps.Values[map[string]chamberlain/quota.Held,string,chamberlain/quota.Held]' -/
def m29 : MFunc :=
  ⟨1, 4, [.tmp 2],
   (.seq (.region false [⟨some 1, .box (.tmp 0), none⟩,
    ⟨some 2, .assign (.const .nilf), none⟩])
   (.seq (.region false [⟨some 3, .mkfunc 44 [(.tmp 1)], none⟩,
    ⟨some 2, .assign (.tmp 3), none⟩])
   .ret))⟩

def l32_0 : MCode :=
   (.seq (.seq (.region false [⟨some 8, .move (.tmp 6) false, none⟩,
    ⟨some 9, .fieldAddr 1 (.tmp 2), none⟩,
    ⟨some 10, .load false 1 (.tmp 9) false, none⟩,
    ⟨some 11, .len 0 (.tmp 10), none⟩,
    ⟨some 12, .bin .lss (.tmp 8) (.tmp 11), none⟩])
   (.cond (.tmp 12) .skip (.exit 0)))
   (.seq (.block 1 (.seq (.region false [⟨some 15, .load true 2 (.tmp 2) false, none⟩,
    ⟨some 16, .fieldAddr 1 (.tmp 2), none⟩,
    ⟨some 17, .load false 1 (.tmp 16) false, none⟩,
    ⟨some 18, .move (.tmp 6) false, none⟩,
    ⟨some 19, .indexAddr 3 (.tmp 17) (.tmp 18), none⟩,
    ⟨some 20, .fieldAddr 1 (.tmp 19), none⟩,
    ⟨some 21, .load false 1 (.tmp 20) false, none⟩,
    ⟨some 22, .move (.tmp 1) false, none⟩,
    ⟨some 23, .call 36 [(.tmp 15), (.tmp 21), (.tmp 22)], none⟩,
    ⟨some 7, .assign (.tmp 23), none⟩])
   (.seq (.region false [⟨some 24, .move (.tmp 7) false, none⟩])
   (.cond (.tmp 24) (.region false [⟨some 25, .move (.tmp 5) false, none⟩,
    ⟨some 26, .fieldAddr 1 (.tmp 2), none⟩,
    ⟨some 27, .load false 1 (.tmp 26) false, none⟩,
    ⟨some 28, .move (.tmp 6) false, none⟩,
    ⟨some 29, .indexAddr 3 (.tmp 27) (.tmp 28), none⟩,
    ⟨some 30, .fieldAddr 2 (.tmp 29), none⟩,
    ⟨some 31, .load false 1 (.tmp 30) false, none⟩,
    ⟨some 32, .bin .add (.tmp 25) (.tmp 31), none⟩,
    ⟨some 5, .assign (.tmp 32), none⟩]) .skip))))
   (.region false [⟨some 13, .move (.tmp 6) false, none⟩,
    ⟨some 14, .bin .add (.tmp 13) (.const (.int .i64 (1))), none⟩,
    ⟨some 6, .assign (.tmp 14), none⟩])))

/-- 'chamberlain/chamberlainref24.Used' -/
def m32 : MFunc :=
  ⟨2, 34, [.tmp 4],
   (.seq (.region false [⟨some 2, .box (.tmp 0), none⟩,
    ⟨some 4, .assign (.const (.int .i64 (0))), none⟩])
   (.seq (.region false [⟨some 5, .assign (.const (.int .i64 (0))), none⟩])
   (.seq (.seq (.region false [⟨some 6, .assign (.const (.int .i64 (0))), none⟩])
   (.block 0 (.loop [5, 6, 2, 1, 0, 4] l32_0)))
   (.seq (.region false [⟨some 33, .move (.tmp 5) false, none⟩,
    ⟨some 4, .assign (.tmp 33), none⟩])
   .ret))))⟩

def l33_0 : MCode :=
   (.seq (.seq (.region false [⟨some 6, .move (.tmp 5) false, none⟩,
    ⟨some 7, .fieldAddr 0 (.tmp 2), none⟩,
    ⟨some 8, .load false 1 (.tmp 7) false, none⟩,
    ⟨some 9, .len 0 (.tmp 8), none⟩,
    ⟨some 10, .bin .lss (.tmp 6) (.tmp 9), none⟩])
   (.cond (.tmp 10) .skip (.exit 0)))
   (.seq (.block 1 (.seq (.region false [⟨some 13, .fieldAddr 0 (.tmp 2), none⟩,
    ⟨some 14, .load false 1 (.tmp 13) false, none⟩,
    ⟨some 15, .move (.tmp 5) false, none⟩,
    ⟨some 16, .indexAddr 3 (.tmp 14) (.tmp 15), none⟩,
    ⟨some 17, .fieldAddr 0 (.tmp 16), none⟩,
    ⟨some 18, .load false 1 (.tmp 17) false, none⟩,
    ⟨some 19, .move (.tmp 1) false, none⟩,
    ⟨some 20, .bin .eql (.tmp 18) (.tmp 19), none⟩])
   (.cond (.tmp 20) (.seq (.region false [⟨some 21, .move (.tmp 5) false, none⟩,
    ⟨some 4, .assign (.tmp 21), none⟩])
   .ret) .skip)))
   (.region false [⟨some 11, .move (.tmp 5) false, none⟩,
    ⟨some 12, .bin .add (.tmp 11) (.const (.int .i64 (1))), none⟩,
    ⟨some 5, .assign (.tmp 12), none⟩])))

/-- 'chamberlain/chamberlainref24.Find' -/
def m33 : MFunc :=
  ⟨2, 22, [.tmp 4],
   (.seq (.region false [⟨some 2, .box (.tmp 0), none⟩,
    ⟨some 4, .assign (.const (.int .i64 (0))), none⟩])
   (.seq (.seq (.region false [⟨some 5, .assign (.const (.int .i64 (0))), none⟩])
   (.block 0 (.loop [5, 1, 2, 0, 4] l33_0)))
   (.seq (.region false [⟨some 4, .assign (.const (.int .i64 (-1))), none⟩])
   .ret)))⟩

def l34_0 : MCode :=
   (.seq (.seq (.region false [⟨some 6, .move (.tmp 5) false, none⟩,
    ⟨some 7, .move (.tmp 0) false, none⟩,
    ⟨some 8, .len 1 (.tmp 7), none⟩,
    ⟨some 9, .bin .lss (.tmp 6) (.tmp 8), none⟩,
    ⟨some 10, .move (.tmp 9) false, none⟩,
    ⟨some 11, .move (.tmp 5) false, some (10, true)⟩,
    ⟨some 12, .move (.tmp 1) false, some (10, true)⟩,
    ⟨some 13, .len 1 (.tmp 12), some (10, true)⟩,
    ⟨some 14, .bin .lss (.tmp 11) (.tmp 13), some (10, true)⟩,
    ⟨some 15, .pick (.tmp 10) (.tmp 14) (.const (.bool false)), none⟩])
   (.cond (.tmp 15) .skip (.exit 0)))
   (.seq (.block 1 (.seq (.region false [⟨some 18, .move (.tmp 0) false, none⟩,
    ⟨some 19, .move (.tmp 5) false, none⟩,
    ⟨some 20, .indexStr (.tmp 18) (.tmp 19), none⟩,
    ⟨some 21, .move (.tmp 1) false, none⟩,
    ⟨some 22, .move (.tmp 5) false, none⟩,
    ⟨some 23, .indexStr (.tmp 21) (.tmp 22), none⟩,
    ⟨some 24, .bin .neq (.tmp 20) (.tmp 23), none⟩])
   (.cond (.tmp 24) (.seq (.seq (.region false [⟨some 25, .move (.tmp 0) false, none⟩,
    ⟨some 26, .move (.tmp 5) false, none⟩,
    ⟨some 27, .indexStr (.tmp 25) (.tmp 26), none⟩,
    ⟨some 28, .move (.tmp 1) false, none⟩,
    ⟨some 29, .move (.tmp 5) false, none⟩,
    ⟨some 30, .indexStr (.tmp 28) (.tmp 29), none⟩,
    ⟨some 31, .bin .lss (.tmp 27) (.tmp 30), none⟩])
   (.cond (.tmp 31) (.seq (.region false [⟨some 4, .assign (.const (.int .i64 (-1))), none⟩])
   .ret) .skip))
   (.seq (.region false [⟨some 4, .assign (.const (.int .i64 (1))), none⟩])
   .ret)) .skip)))
   (.region false [⟨some 16, .move (.tmp 5) false, none⟩,
    ⟨some 17, .bin .add (.tmp 16) (.const (.int .i64 (1))), none⟩,
    ⟨some 5, .assign (.tmp 17), none⟩])))

/-- 'chamberlain/chamberlainref03.Texts' -/
def m34 : MFunc :=
  ⟨2, 37, [.tmp 4],
   (.seq (.region false [⟨some 4, .assign (.const (.int .i64 (0))), none⟩])
   (.seq (.seq (.region false [⟨some 5, .assign (.const (.int .i64 (0))), none⟩])
   (.block 0 (.loop [1, 0, 5, 4] l34_0)))
   (.seq (.region false [⟨some 32, .move (.tmp 0) false, none⟩,
    ⟨some 33, .len 1 (.tmp 32), none⟩,
    ⟨some 34, .move (.tmp 1) false, none⟩,
    ⟨some 35, .len 1 (.tmp 34), none⟩,
    ⟨some 36, .call 46 [(.tmp 33), (.tmp 35)], none⟩,
    ⟨some 4, .assign (.tmp 36), none⟩])
   .ret)))⟩

def l35_0 : MCode :=
   (.seq (.seq (.region false [⟨some 6, .move (.tmp 5) false, none⟩,
    ⟨some 7, .fieldAddr 1 (.tmp 2), none⟩,
    ⟨some 8, .load false 1 (.tmp 7) false, none⟩,
    ⟨some 9, .len 0 (.tmp 8), none⟩,
    ⟨some 10, .bin .lss (.tmp 6) (.tmp 9), none⟩])
   (.cond (.tmp 10) .skip (.exit 0)))
   (.seq (.block 1 (.seq (.region false [⟨some 13, .fieldAddr 1 (.tmp 2), none⟩,
    ⟨some 14, .load false 1 (.tmp 13) false, none⟩,
    ⟨some 15, .move (.tmp 5) false, none⟩,
    ⟨some 16, .indexAddr 3 (.tmp 14) (.tmp 15), none⟩,
    ⟨some 17, .fieldAddr 0 (.tmp 16), none⟩,
    ⟨some 18, .load false 1 (.tmp 17) false, none⟩,
    ⟨some 19, .move (.tmp 1) false, none⟩,
    ⟨some 20, .bin .eql (.tmp 18) (.tmp 19), none⟩])
   (.cond (.tmp 20) (.seq (.region false [⟨some 21, .move (.tmp 5) false, none⟩,
    ⟨some 4, .assign (.tmp 21), none⟩])
   .ret) .skip)))
   (.region false [⟨some 11, .move (.tmp 5) false, none⟩,
    ⟨some 12, .bin .add (.tmp 11) (.const (.int .i64 (1))), none⟩,
    ⟨some 5, .assign (.tmp 12), none⟩])))

/-- 'chamberlain/chamberlainref24.held' -/
def m35 : MFunc :=
  ⟨2, 22, [.tmp 4],
   (.seq (.region false [⟨some 2, .box (.tmp 0), none⟩,
    ⟨some 4, .assign (.const (.int .i64 (0))), none⟩])
   (.seq (.seq (.region false [⟨some 5, .assign (.const (.int .i64 (0))), none⟩])
   (.block 0 (.loop [5, 1, 2, 0, 4] l35_0)))
   (.seq (.region false [⟨some 4, .assign (.const (.int .i64 (-1))), none⟩])
   .ret)))⟩

def l36_0 : MCode :=
   (.seq (.seq (.region false [⟨some 9, .move (.tmp 7) false, none⟩,
    ⟨some 10, .fieldAddr 0 (.tmp 3), none⟩,
    ⟨some 11, .load false 1 (.tmp 10) false, none⟩,
    ⟨some 12, .len 0 (.tmp 11), none⟩,
    ⟨some 13, .bin .leq (.tmp 9) (.tmp 12), none⟩])
   (.cond (.tmp 13) .skip (.exit 0)))
   (.seq (.block 1 (.seq (.seq (.region false [⟨some 16, .move (.tmp 1) false, none⟩,
    ⟨some 17, .move (.tmp 2) false, none⟩,
    ⟨some 18, .bin .eql (.tmp 16) (.tmp 17), none⟩])
   (.cond (.tmp 18) (.seq (.region false [⟨some 6, .assign (.const (.bool true)), none⟩])
   .ret) .skip))
   (.seq (.region false [⟨some 19, .load true 2 (.tmp 3) false, none⟩,
    ⟨some 20, .move (.tmp 1) false, none⟩,
    ⟨some 21, .call 33 [(.tmp 19), (.tmp 20)], none⟩,
    ⟨some 8, .assign (.tmp 21), none⟩])
   (.seq (.seq (.region false [⟨some 22, .move (.tmp 8) false, none⟩,
    ⟨some 23, .bin .lss (.tmp 22) (.const (.int .i64 (0))), none⟩,
    ⟨some 24, .move (.tmp 23) false, none⟩,
    ⟨some 25, .fieldAddr 0 (.tmp 3), some (24, false)⟩,
    ⟨some 26, .load false 1 (.tmp 25) false, some (24, false)⟩,
    ⟨some 27, .move (.tmp 8) false, some (24, false)⟩,
    ⟨some 28, .indexAddr 3 (.tmp 26) (.tmp 27), some (24, false)⟩,
    ⟨some 29, .fieldAddr 1 (.tmp 28), some (24, false)⟩,
    ⟨some 30, .load false 1 (.tmp 29) false, some (24, false)⟩,
    ⟨some 31, .bin .eql (.tmp 30) (.const (.str [])), some (24, false)⟩,
    ⟨some 32, .pick (.tmp 24) (.const (.bool true)) (.tmp 31), none⟩])
   (.cond (.tmp 32) (.seq (.region false [⟨some 6, .assign (.const (.bool false)), none⟩])
   .ret) .skip))
   (.region false [⟨some 33, .fieldAddr 0 (.tmp 3), none⟩,
    ⟨some 34, .load false 1 (.tmp 33) false, none⟩,
    ⟨some 35, .move (.tmp 8) false, none⟩,
    ⟨some 36, .indexAddr 3 (.tmp 34) (.tmp 35), none⟩,
    ⟨some 37, .fieldAddr 1 (.tmp 36), none⟩,
    ⟨some 38, .load false 1 (.tmp 37) false, none⟩,
    ⟨some 1, .assign (.tmp 38), none⟩])))))
   (.region false [⟨some 14, .move (.tmp 7) false, none⟩,
    ⟨some 15, .bin .add (.tmp 14) (.const (.int .i64 (1))), none⟩,
    ⟨some 7, .assign (.tmp 15), none⟩])))

/-- 'chamberlain/chamberlainref24.under' -/
def m36 : MFunc :=
  ⟨3, 39, [.tmp 6],
   (.seq (.region false [⟨some 3, .box (.tmp 0), none⟩,
    ⟨some 6, .assign (.const (.bool false)), none⟩])
   (.seq (.seq (.region false [⟨some 7, .assign (.const (.int .i64 (0))), none⟩])
   (.block 0 (.loop [7, 3, 1, 2, 0, 6] l36_0)))
   (.seq (.region false [⟨some 6, .assign (.const (.bool false)), none⟩])
   .ret)))⟩


/-- 'chamberlain/chamberlainref01.Add' -/
def m37 : MFunc :=
  ⟨2, 14, [.tmp 4, .tmp 5],
   (.seq (.region false [⟨some 4, .assign (.const (.int .i64 (0))), none⟩,
    ⟨some 5, .assign (.const (.int .i64 (0))), none⟩])
   (.seq (.region false [⟨some 6, .move (.tmp 0) false, none⟩,
    ⟨some 7, .call 49 [(.tmp 6)], none⟩,
    ⟨some 8, .move (.tmp 1) false, none⟩,
    ⟨some 9, .call 49 [(.tmp 8)], none⟩,
    ⟨some 10, .call 48 [(.tmp 7), (.tmp 9)], none⟩,
    ⟨some 11, .call 47 [(.tmp 10)], none⟩,
    ⟨some 12, .extract (.tmp 11) 0, none⟩,
    ⟨some 13, .extract (.tmp 11) 1, none⟩,
    ⟨some 4, .assign (.tmp 12), none⟩,
    ⟨some 5, .assign (.tmp 13), none⟩])
   .ret))⟩


/-- 'cmp.isNaN[string]' -/
def m41 : MFunc :=
  ⟨1, 6, [.tmp 2],
   (.seq (.region false [⟨some 2, .assign (.const (.bool false)), none⟩])
   (.seq (.region false [⟨some 3, .move (.tmp 0) false, none⟩,
    ⟨some 4, .move (.tmp 0) false, none⟩,
    ⟨some 5, .bin .neq (.tmp 3) (.tmp 4), none⟩,
    ⟨some 2, .assign (.tmp 5), none⟩])
   .ret))⟩


/-- 'chamberlain/chamberlainref03.Ints' -/
def m46 : MFunc :=
  ⟨2, 11, [.tmp 4],
   (.seq (.region false [⟨some 4, .assign (.const (.int .i64 (0))), none⟩])
   (.seq (.seq (.region false [⟨some 5, .move (.tmp 0) false, none⟩,
    ⟨some 6, .move (.tmp 1) false, none⟩,
    ⟨some 7, .bin .lss (.tmp 5) (.tmp 6), none⟩])
   (.cond (.tmp 7) (.seq (.region false [⟨some 4, .assign (.const (.int .i64 (-1))), none⟩])
   .ret) .skip))
   (.seq (.seq (.region false [⟨some 8, .move (.tmp 0) false, none⟩,
    ⟨some 9, .move (.tmp 1) false, none⟩,
    ⟨some 10, .bin .gtr (.tmp 8) (.tmp 9), none⟩])
   (.cond (.tmp 10) (.seq (.region false [⟨some 4, .assign (.const (.int .i64 (1))), none⟩])
   .ret) .skip))
   (.seq (.region false [⟨some 4, .assign (.const (.int .i64 (0))), none⟩])
   .ret))))⟩


/-- 'chamberlain/chamberlainref01.Fit' -/
def m47 : MFunc :=
  ⟨1, 40, [.tmp 2, .tmp 3],
   (.seq (.region false [⟨some 1, .box (.tmp 0), none⟩,
    ⟨some 2, .assign (.const (.int .i64 (0))), none⟩,
    ⟨some 3, .assign (.const (.int .i64 (0))), none⟩])
   (.seq (.region false [⟨some 5, .fieldAddr 1 (.tmp 1), none⟩,
    ⟨some 6, .indexArr true false 4 1 (.tmp 5) (.const (.int .i64 (2))), none⟩,
    ⟨some 7, .load false 1 (.tmp 6) false, none⟩,
    ⟨some 8, .bin .shl (.tmp 7) (.const (.int .u64 (32))), none⟩,
    ⟨some 9, .fieldAddr 1 (.tmp 1), none⟩,
    ⟨some 10, .indexArr true false 4 1 (.tmp 9) (.const (.int .i64 (3))), none⟩,
    ⟨some 11, .load false 1 (.tmp 10) false, none⟩,
    ⟨some 12, .bin .or (.tmp 8) (.tmp 11), none⟩,
    ⟨some 4, .assign (.tmp 12), none⟩])
   (.seq (.seq (.region false [⟨some 13, .fieldAddr 1 (.tmp 1), none⟩,
    ⟨some 14, .indexArr true false 4 1 (.tmp 13) (.const (.int .i64 (0))), none⟩,
    ⟨some 15, .load false 1 (.tmp 14) false, none⟩,
    ⟨some 16, .bin .gtr (.tmp 15) (.const (.int .u64 (0))), none⟩,
    ⟨some 17, .move (.tmp 16) false, none⟩,
    ⟨some 18, .fieldAddr 1 (.tmp 1), some (17, false)⟩,
    ⟨some 19, .indexArr true false 4 1 (.tmp 18) (.const (.int .i64 (1))), some (17, false)⟩,
    ⟨some 20, .load false 1 (.tmp 19) false, some (17, false)⟩,
    ⟨some 21, .bin .gtr (.tmp 20) (.const (.int .u64 (0))), some (17, false)⟩,
    ⟨some 22, .pick (.tmp 17) (.const (.bool true)) (.tmp 21), none⟩])
   (.cond (.tmp 22) (.seq (.region false [⟨some 2, .assign (.const (.int .i64 (0))), none⟩,
    ⟨some 3, .assign (.const (.int .i64 (14))), none⟩])
   .ret) .skip))
   (.seq (.seq (.region false [⟨some 23, .fieldAddr 0 (.tmp 1), none⟩,
    ⟨some 24, .load false 1 (.tmp 23) false, none⟩,
    ⟨some 25, .move (.tmp 24) false, none⟩,
    ⟨some 26, .move (.tmp 4) false, some (25, true)⟩,
    ⟨some 27, .bin .leq (.tmp 26) (.const (.int .u64 (9223372036854775808))), some (25, true)⟩,
    ⟨some 28, .pick (.tmp 25) (.tmp 27) (.const (.bool false)), none⟩])
   (.cond (.tmp 28) (.seq (.region false [⟨some 29, .move (.tmp 4) false, none⟩,
    ⟨some 30, .bin .sub (.const (.int .u64 (0))) (.tmp 29), none⟩,
    ⟨some 31, .conv .i64 (.tmp 30), none⟩,
    ⟨some 2, .assign (.tmp 31), none⟩,
    ⟨some 3, .assign (.const (.int .i64 (0))), none⟩])
   .ret) .skip))
   (.seq (.seq (.region false [⟨some 32, .fieldAddr 0 (.tmp 1), none⟩,
    ⟨some 33, .load false 1 (.tmp 32) false, none⟩,
    ⟨some 34, .move (.tmp 33) false, none⟩,
    ⟨some 35, .move (.tmp 4) false, some (34, false)⟩,
    ⟨some 36, .bin .geq (.tmp 35) (.const (.int .u64 (9223372036854775808))), some (34, false)⟩,
    ⟨some 37, .pick (.tmp 34) (.const (.bool true)) (.tmp 36), none⟩])
   (.cond (.tmp 37) (.seq (.region false [⟨some 2, .assign (.const (.int .i64 (0))), none⟩,
    ⟨some 3, .assign (.const (.int .i64 (14))), none⟩])
   .ret) .skip))
   (.seq (.region false [⟨some 38, .move (.tmp 4) false, none⟩,
    ⟨some 39, .conv .i64 (.tmp 38), none⟩,
    ⟨some 2, .assign (.tmp 39), none⟩,
    ⟨some 3, .assign (.const (.int .i64 (0))), none⟩])
   .ret))))))⟩


/-- 'chamberlain/chamberlainref01.sum' -/
def m48 : MFunc :=
  ⟨2, 39, [.cell 4 true 5],
   (.seq (.region false [⟨some 2, .box (.tmp 0), none⟩,
    ⟨some 3, .box (.tmp 1), none⟩,
    ⟨some 4, .alloc [(.bool false), (.int .u64 (0)), (.int .u64 (0)), (.int .u64 (0)), (.int .u64 (0))], none⟩])
   (.seq (.seq (.region false [⟨some 5, .fieldAddr 0 (.tmp 2), none⟩,
    ⟨some 6, .load false 1 (.tmp 5) false, none⟩,
    ⟨some 7, .fieldAddr 0 (.tmp 3), none⟩,
    ⟨some 8, .load false 1 (.tmp 7) false, none⟩,
    ⟨some 9, .eqb false (.tmp 6) (.tmp 8), none⟩])
   (.cond (.tmp 9) (.seq (.region true [⟨some 10, .fieldAddr 0 (.tmp 2), none⟩,
    ⟨some 11, .load false 1 (.tmp 10) false, none⟩,
    ⟨some 12, .fieldAddr 1 (.tmp 2), none⟩,
    ⟨some 13, .load true 4 (.tmp 12) false, none⟩,
    ⟨some 14, .fieldAddr 1 (.tmp 3), none⟩,
    ⟨some 15, .load true 4 (.tmp 14) false, none⟩,
    ⟨some 16, .call 62 [(.tmp 13), (.tmp 15)], none⟩,
    ⟨some 17, .build [(.bool false), (.int .u64 (0)), (.int .u64 (0)), (.int .u64 (0)), (.int .u64 (0))] [(0, 1, (.tmp 11)), (1, 4, (.tmp 16))], none⟩,
    ⟨none, .store 5 (.tmp 4) (.tmp 17), none⟩])
   .ret) .skip))
   (.seq (.seq (.region false [⟨some 18, .fieldAddr 1 (.tmp 2), none⟩,
    ⟨some 19, .load true 4 (.tmp 18) false, none⟩,
    ⟨some 20, .fieldAddr 1 (.tmp 3), none⟩,
    ⟨some 21, .load true 4 (.tmp 20) false, none⟩,
    ⟨some 22, .call 63 [(.tmp 19), (.tmp 21)], none⟩])
   (.cond (.tmp 22) (.seq (.region true [⟨some 23, .fieldAddr 0 (.tmp 3), none⟩,
    ⟨some 24, .load false 1 (.tmp 23) false, none⟩,
    ⟨some 25, .fieldAddr 1 (.tmp 3), none⟩,
    ⟨some 26, .load true 4 (.tmp 25) false, none⟩,
    ⟨some 27, .fieldAddr 1 (.tmp 2), none⟩,
    ⟨some 28, .load true 4 (.tmp 27) false, none⟩,
    ⟨some 29, .call 64 [(.tmp 26), (.tmp 28)], none⟩,
    ⟨some 30, .build [(.bool false), (.int .u64 (0)), (.int .u64 (0)), (.int .u64 (0)), (.int .u64 (0))] [(0, 1, (.tmp 24)), (1, 4, (.tmp 29))], none⟩,
    ⟨none, .store 5 (.tmp 4) (.tmp 30), none⟩])
   .ret) .skip))
   (.seq (.region true [⟨some 31, .fieldAddr 0 (.tmp 2), none⟩,
    ⟨some 32, .load false 1 (.tmp 31) false, none⟩,
    ⟨some 33, .fieldAddr 1 (.tmp 2), none⟩,
    ⟨some 34, .load true 4 (.tmp 33) false, none⟩,
    ⟨some 35, .fieldAddr 1 (.tmp 3), none⟩,
    ⟨some 36, .load true 4 (.tmp 35) false, none⟩,
    ⟨some 37, .call 64 [(.tmp 34), (.tmp 36)], none⟩,
    ⟨some 38, .build [(.bool false), (.int .u64 (0)), (.int .u64 (0)), (.int .u64 (0)), (.int .u64 (0))] [(0, 1, (.tmp 32)), (1, 4, (.tmp 37))], none⟩,
    ⟨none, .store 5 (.tmp 4) (.tmp 38), none⟩])
   .ret))))⟩


/-- 'chamberlain/chamberlainref01.Of' -/
def m49 : MFunc :=
  ⟨1, 18, [.cell 2 true 5],
   (.seq (.region false [⟨some 2, .alloc [(.bool false), (.int .u64 (0)), (.int .u64 (0)), (.int .u64 (0)), (.int .u64 (0))], none⟩])
   (.seq (.region false [⟨some 4, .move (.tmp 0) false, none⟩,
    ⟨some 5, .conv .u64 (.tmp 4), none⟩,
    ⟨some 3, .assign (.tmp 5), none⟩])
   (.seq (.seq (.region false [⟨some 6, .move (.tmp 0) false, none⟩,
    ⟨some 7, .bin .lss (.tmp 6) (.const (.int .i64 (0))), none⟩])
   (.cond (.tmp 7) (.region false [⟨some 8, .move (.tmp 3) false, none⟩,
    ⟨some 9, .bin .sub (.const (.int .u64 (0))) (.tmp 8), none⟩,
    ⟨some 3, .assign (.tmp 9), none⟩]) .skip))
   (.seq (.region false [⟨some 10, .move (.tmp 0) false, none⟩,
    ⟨some 11, .bin .lss (.tmp 10) (.const (.int .i64 (0))), none⟩,
    ⟨some 12, .move (.tmp 3) false, none⟩,
    ⟨some 13, .bin .shr (.tmp 12) (.const (.int .u64 (32))), none⟩,
    ⟨some 14, .move (.tmp 3) false, none⟩,
    ⟨some 15, .bin .and (.tmp 14) (.const (.int .u64 (4294967295))), none⟩,
    ⟨some 16, .build [(.int .u64 (0)), (.int .u64 (0)), (.int .u64 (0)), (.int .u64 (0))] [(0, 1, (.const (.int .u64 (0)))), (1, 1, (.const (.int .u64 (0)))), (2, 1, (.tmp 13)), (3, 1, (.tmp 15))], none⟩,
    ⟨some 17, .build [(.bool false), (.int .u64 (0)), (.int .u64 (0)), (.int .u64 (0)), (.int .u64 (0))] [(0, 1, (.tmp 11)), (1, 4, (.tmp 16))], none⟩,
    ⟨none, .store 5 (.tmp 2) (.tmp 17), none⟩])
   .ret))))⟩

def l62_0 : MCode :=
   (.seq (.seq (.region false [⟨some 7, .move (.tmp 6) false, none⟩,
    ⟨some 8, .bin .geq (.tmp 7) (.const (.int .i64 (0))), none⟩])
   (.cond (.tmp 8) .skip (.exit 0)))
   (.seq (.block 1 (.seq (.region false [⟨some 11, .move (.tmp 5) false, none⟩,
    ⟨some 12, .move (.tmp 6) false, none⟩,
    ⟨some 13, .indexArr true false 4 1 (.tmp 2) (.tmp 12), none⟩,
    ⟨some 14, .load false 1 (.tmp 13) false, none⟩,
    ⟨some 15, .move (.tmp 6) false, none⟩,
    ⟨some 16, .indexArr true false 4 1 (.tmp 3) (.tmp 15), none⟩,
    ⟨some 17, .load false 1 (.tmp 16) false, none⟩,
    ⟨some 18, .bin .add (.tmp 14) (.tmp 17), none⟩,
    ⟨some 19, .bin .add (.tmp 11) (.tmp 18), none⟩,
    ⟨some 5, .assign (.tmp 19), none⟩])
   (.seq (.region false [⟨some 20, .move (.tmp 6) false, none⟩,
    ⟨some 21, .move (.tmp 5) false, none⟩,
    ⟨some 22, .bin .and (.tmp 21) (.const (.int .u64 (4294967295))), none⟩,
    ⟨some 23, .indexArr true false 4 1 (.tmp 2) (.tmp 20), none⟩,
    ⟨none, .store 1 (.tmp 23) (.tmp 22), none⟩])
   (.region false [⟨some 24, .move (.tmp 5) false, none⟩,
    ⟨some 25, .bin .shr (.tmp 24) (.const (.int .u64 (32))), none⟩,
    ⟨some 5, .assign (.tmp 25), none⟩]))))
   (.region false [⟨some 9, .move (.tmp 6) false, none⟩,
    ⟨some 10, .bin .sub (.tmp 9) (.const (.int .i64 (1))), none⟩,
    ⟨some 6, .assign (.tmp 10), none⟩])))

/-- 'chamberlain/chamberlainref01.plus' -/
def m62 : MFunc :=
  ⟨2, 27, [.cell 4 true 4],
   (.seq (.region false [⟨some 2, .box (.tmp 0), none⟩,
    ⟨some 3, .box (.tmp 1), none⟩,
    ⟨some 4, .alloc [(.int .u64 (0)), (.int .u64 (0)), (.int .u64 (0)), (.int .u64 (0))], none⟩])
   (.seq (.region false [⟨some 5, .assign (.const (.int .u64 (0))), none⟩])
   (.seq (.seq (.region false [⟨some 6, .assign (.const (.int .i64 (3))), none⟩])
   (.block 0 (.loop [4, 2, 6, 3, 5, 1, 0] l62_0)))
   (.seq (.region false [⟨some 26, .load true 4 (.tmp 2) false, none⟩,
    ⟨none, .store 4 (.tmp 4) (.tmp 26), none⟩])
   .ret))))⟩

def l63_0 : MCode :=
   (.seq (.seq (.region false [⟨some 6, .move (.tmp 5) false, none⟩,
    ⟨some 7, .bin .lss (.tmp 6) (.const (.int .i64 (4))), none⟩])
   (.cond (.tmp 7) .skip (.exit 0)))
   (.seq (.block 1 (.seq (.region false [⟨some 10, .move (.tmp 5) false, none⟩,
    ⟨some 11, .indexArr true false 4 1 (.tmp 2) (.tmp 10), none⟩,
    ⟨some 12, .load false 1 (.tmp 11) false, none⟩,
    ⟨some 13, .move (.tmp 5) false, none⟩,
    ⟨some 14, .indexArr true false 4 1 (.tmp 3) (.tmp 13), none⟩,
    ⟨some 15, .load false 1 (.tmp 14) false, none⟩,
    ⟨some 16, .bin .neq (.tmp 12) (.tmp 15), none⟩])
   (.cond (.tmp 16) (.seq (.region false [⟨some 17, .move (.tmp 5) false, none⟩,
    ⟨some 18, .indexArr true false 4 1 (.tmp 2) (.tmp 17), none⟩,
    ⟨some 19, .load false 1 (.tmp 18) false, none⟩,
    ⟨some 20, .move (.tmp 5) false, none⟩,
    ⟨some 21, .indexArr true false 4 1 (.tmp 3) (.tmp 20), none⟩,
    ⟨some 22, .load false 1 (.tmp 21) false, none⟩,
    ⟨some 23, .bin .lss (.tmp 19) (.tmp 22), none⟩,
    ⟨some 4, .assign (.tmp 23), none⟩])
   .ret) .skip)))
   (.region false [⟨some 8, .move (.tmp 5) false, none⟩,
    ⟨some 9, .bin .add (.tmp 8) (.const (.int .i64 (1))), none⟩,
    ⟨some 5, .assign (.tmp 9), none⟩])))

/-- 'chamberlain/chamberlainref01.less' -/
def m63 : MFunc :=
  ⟨2, 24, [.tmp 4],
   (.seq (.region false [⟨some 2, .box (.tmp 0), none⟩,
    ⟨some 3, .box (.tmp 1), none⟩,
    ⟨some 4, .assign (.const (.bool false)), none⟩])
   (.seq (.seq (.region false [⟨some 5, .assign (.const (.int .i64 (0))), none⟩])
   (.block 0 (.loop [5, 3, 2, 1, 0, 4] l63_0)))
   (.seq (.region false [⟨some 4, .assign (.const (.bool false)), none⟩])
   .ret)))⟩

def l64_0 : MCode :=
   (.seq (.seq (.region false [⟨some 8, .move (.tmp 6) false, none⟩,
    ⟨some 9, .bin .geq (.tmp 8) (.const (.int .i64 (0))), none⟩])
   (.cond (.tmp 9) .skip (.exit 0)))
   (.seq (.block 1 (.seq (.region false [⟨some 12, .move (.tmp 6) false, none⟩,
    ⟨some 13, .indexArr true false 4 1 (.tmp 2) (.tmp 12), none⟩,
    ⟨some 14, .load false 1 (.tmp 13) false, none⟩,
    ⟨some 15, .bin .add (.tmp 14) (.const (.int .u64 (4294967296))), none⟩,
    ⟨some 16, .move (.tmp 6) false, none⟩,
    ⟨some 17, .indexArr true false 4 1 (.tmp 3) (.tmp 16), none⟩,
    ⟨some 18, .load false 1 (.tmp 17) false, none⟩,
    ⟨some 19, .bin .sub (.tmp 15) (.tmp 18), none⟩,
    ⟨some 20, .move (.tmp 5) false, none⟩,
    ⟨some 21, .bin .sub (.tmp 19) (.tmp 20), none⟩,
    ⟨some 7, .assign (.tmp 21), none⟩])
   (.seq (.region false [⟨some 22, .move (.tmp 6) false, none⟩,
    ⟨some 23, .move (.tmp 7) false, none⟩,
    ⟨some 24, .bin .and (.tmp 23) (.const (.int .u64 (4294967295))), none⟩,
    ⟨some 25, .indexArr true false 4 1 (.tmp 2) (.tmp 22), none⟩,
    ⟨none, .store 1 (.tmp 25) (.tmp 24), none⟩])
   (.region false [⟨some 26, .move (.tmp 7) false, none⟩,
    ⟨some 27, .bin .shr (.tmp 26) (.const (.int .u64 (32))), none⟩,
    ⟨some 28, .bin .sub (.const (.int .u64 (1))) (.tmp 27), none⟩,
    ⟨some 5, .assign (.tmp 28), none⟩]))))
   (.region false [⟨some 10, .move (.tmp 6) false, none⟩,
    ⟨some 11, .bin .sub (.tmp 10) (.const (.int .i64 (1))), none⟩,
    ⟨some 6, .assign (.tmp 11), none⟩])))

/-- 'chamberlain/chamberlainref01.minus' -/
def m64 : MFunc :=
  ⟨2, 30, [.cell 4 true 4],
   (.seq (.region false [⟨some 2, .box (.tmp 0), none⟩,
    ⟨some 3, .box (.tmp 1), none⟩,
    ⟨some 4, .alloc [(.int .u64 (0)), (.int .u64 (0)), (.int .u64 (0)), (.int .u64 (0))], none⟩])
   (.seq (.region false [⟨some 5, .assign (.const (.int .u64 (0))), none⟩])
   (.seq (.seq (.region false [⟨some 6, .assign (.const (.int .i64 (3))), none⟩])
   (.block 0 (.loop [4, 2, 6, 5, 3, 1, 0] l64_0)))
   (.seq (.region false [⟨some 29, .load true 4 (.tmp 2) false, none⟩,
    ⟨none, .store 4 (.tmp 4) (.tmp 29), none⟩])
   .ret))))⟩
end Go.Abs.C
