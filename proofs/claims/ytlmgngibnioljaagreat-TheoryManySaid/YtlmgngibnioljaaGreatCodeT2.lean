import Derived.Test.YtlmgngibnioljaaGreatSem
set_option linter.unusedVariables false
set_option linter.unusedSimpArgs false
/-
  The machine code of functions of the given program: printed by a program.
-/
namespace Go.Abs.T
open Go Go.Abs
/-- '(*chamberlain/theory.world).put' -/
def m41 : MFunc :=
  ⟨2, 41, [.tmp 4],
   (.seq (.region false [⟨some 3, .box (.tmp 1), none⟩,
    ⟨some 4, .assign (.const .nilp), none⟩])
   (.seq (.seq (.region false [⟨some 7, .move (.tmp 0) false, none⟩,
    ⟨some 8, .nilCheck (.tmp 7), none⟩,
    ⟨some 9, .fieldAddr 2 (.tmp 8), none⟩,
    ⟨some 10, .load false 1 (.tmp 9) false, none⟩,
    ⟨some 11, .load true 2 (.tmp 3) false, none⟩,
    ⟨some 12, .lookup 37 false [.nilp] (.tmp 10) (.tmp 11) false, none⟩,
    ⟨some 13, .eqn false (.tmp 12), none⟩])
   (.cond (.tmp 13) (.seq (.region false [⟨some 15, .move (.tmp 0) false, none⟩,
    ⟨some 16, .nilCheck (.tmp 15), none⟩,
    ⟨some 17, .fieldAddr 0 (.tmp 16), none⟩,
    ⟨some 18, .loadA 5 true 2 (.tmp 17), none⟩,
    ⟨some 19, .fieldAddr 0 (.tmp 3), none⟩,
    ⟨some 20, .loadA 5 false 1 (.tmp 19), none⟩,
    ⟨some 21, .callS 77 [(.tmp 18), (.tmp 20)], none⟩,
    ⟨some 14, .move (.tmp 21) false, none⟩,
    ⟨some 22, .extract (.tmp 14) 0, none⟩,
    ⟨some 23, .extract (.tmp 14) 1, none⟩,
    ⟨some 5, .allocR [(.str []), (.sl [] (some 9)), (.sl [] (some 115))], none⟩,
    ⟨none, .storeR 3 5 (.tmp 22), none⟩,
    ⟨some 6, .assign (.tmp 23), none⟩])
   (.regionA [⟨some 24, .move (.tmp 0) false, none⟩,
    ⟨some 25, .nilCheck (.tmp 24), none⟩,
    ⟨some 26, .fieldAddr 2 (.tmp 25), none⟩,
    ⟨some 27, .load false 1 (.tmp 26) false, none⟩,
    ⟨some 28, .load true 2 (.tmp 3) false, none⟩,
    ⟨some 29, .load true 2 (.tmp 3) false, none⟩,
    ⟨some 30, .fieldAddr 2 (.tmp 5), none⟩,
    ⟨some 31, .load false 1 (.tmp 30) false, none⟩,
    ⟨some 32, .call 76 [(.tmp 31)], none⟩,
    ⟨some 33, .build [(.str []), (.str []), (.nils 37), (.int .i64 (0)), (.bool false), (.int .i64 (0)), (.str []), (.str []), (.str []), (.nils 69), (.nils 9)] [(0, 2, (.tmp 29)), (3, 8, (.tmp 32))], none⟩,
    ⟨some 34, .box (.tmp 33), none⟩,
    ⟨none, .mapUpdateP 37 (.tmp 27) (.tmp 28) (.tmp 34), none⟩] [[], [0], [1], [2], [], [], [], [6], [7], [5, 8], [9], [3, 4, 10, 8, 0, 1, 2, 3, 4, 5, 6, 7, 8, 9, 10]])) .skip))
   (.seq (.region false [⟨some 35, .move (.tmp 0) false, none⟩,
    ⟨some 36, .nilCheck (.tmp 35), none⟩,
    ⟨some 37, .fieldAddr 2 (.tmp 36), none⟩,
    ⟨some 38, .load false 1 (.tmp 37) false, none⟩,
    ⟨some 39, .load true 2 (.tmp 3) false, none⟩,
    ⟨some 40, .lookup 37 false [.nilp] (.tmp 38) (.tmp 39) false, none⟩,
    ⟨some 4, .assign (.tmp 40), none⟩])
   .ret)))⟩

def l43_0 : MCode :=
   (.seq (.region false [⟨some 25, .bin .lss (.tmp 24) (.tmp 23), none⟩])
   (.seq (.cond (.tmp 25) .skip (.exit 2))
   (.seq (.block 3 (.seq (.region false [⟨some 26, .indexAddr 1 (.tmp 22) (.tmp 24), none⟩,
    ⟨some 27, .load false 1 (.tmp 26) false, none⟩,
    ⟨some 8, .assign (.tmp 27), none⟩])
   (.region false [⟨some 28, .fieldAddr 2 (.tmp 6), none⟩,
    ⟨some 29, .load false 1 (.tmp 28) true, none⟩,
    ⟨some 30, .move (.tmp 8) false, none⟩,
    ⟨some 31, .build [(.str []), (.str [])] [(0, 1, (.const (.str [65, 99, 116, 105, 111, 110]))), (1, 1, (.tmp 30))], none⟩,
    ⟨some 32, .buildSlice 37 2 1 [(.str []), (.str [])] [(0, (.tmp 31))], none⟩,
    ⟨some 33, .append 37 2 32 false (.tmp 29) (.tmp 32), none⟩,
    ⟨some 34, .fieldAddr 2 (.tmp 6), none⟩,
    ⟨none, .store 1 (.tmp 34) (.tmp 33), none⟩])))
   (.region false [⟨some 35, .bin .add (.tmp 24) (.const (.int .i64 (1))), none⟩,
    ⟨some 24, .move (.tmp 35) false, none⟩]))))

def l43_1 : MCode :=
   (.seq (.region false [⟨some 13, .bin .lss (.tmp 12) (.tmp 11), none⟩])
   (.seq (.cond (.tmp 13) .skip (.exit 0))
   (.seq (.block 1 (.seq (.region false [⟨some 14, .indexAddr 5 (.tmp 10) (.tmp 12), none⟩,
    ⟨some 15, .load true 5 (.tmp 14) false, none⟩,
    ⟨some 5, .alloc [(.str []), (.sl [] (some 9)), (.sl [] (some 9)), (.sl [] (some 9)), (.sl [] (some 115))], none⟩,
    ⟨none, .store 5 (.tmp 5) (.tmp 15), none⟩])
   (.seq (.region false [⟨some 16, .fieldAddr 0 (.tmp 5), none⟩,
    ⟨some 17, .load false 1 (.tmp 16) false, none⟩,
    ⟨some 18, .build [(.str []), (.str [])] [(0, 1, (.const (.str [65, 99, 116, 105, 111, 110]))), (1, 1, (.tmp 17))], none⟩,
    ⟨some 19, .build [(.int .i64 (0)), (.bool false), (.int .i64 (0)), (.str []), (.str []), (.str []), (.nils 69), (.nils 9)] [(0, 1, (.const (.int .i64 (6))))], none⟩,
    ⟨some 20, .build [(.str []), (.str []), (.nils 37), (.int .i64 (0)), (.bool false), (.int .i64 (0)), (.str []), (.str []), (.str []), (.nils 69), (.nils 9)] [(0, 2, (.tmp 18)), (3, 8, (.tmp 19))], none⟩,
    ⟨some 6, .alloc [(.str []), (.str []), (.sl [] (some 37)), (.int .i64 (0)), (.bool false), (.int .i64 (0)), (.str []), (.str []), (.str []), (.sl [] (some 69)), (.sl [] (some 9))], none⟩,
    ⟨none, .store 11 (.tmp 6) (.tmp 20), none⟩])
   (.seq (.seq (.region false [⟨some 21, .fieldAddr 1 (.tmp 5), none⟩,
    ⟨some 22, .load false 1 (.tmp 21) false, none⟩,
    ⟨some 23, .len 0 (.tmp 22), none⟩,
    ⟨some 24, .move (.const (.int .i64 (0))) false, none⟩])
   (.block 2 (.loop [10, 11, 12, 6, 3, 22, 24, 23, 2] l43_0)))
   (.region false [⟨some 36, .move (.tmp 3) true, none⟩,
    ⟨some 37, .load true 11 (.tmp 6) false, none⟩,
    ⟨some 38, .buildSlice 123 11 1 [(.str []), (.str []), (.sl [] (some 37)), (.int .i64 (0)), (.bool false), (.int .i64 (0)), (.str []), (.str []), (.str []), (.sl [] (some 69)), (.sl [] (some 9))] [(0, (.tmp 37))], none⟩,
    ⟨some 39, .append 123 11 176 true (.tmp 36) (.tmp 38), none⟩,
    ⟨some 3, .assign (.tmp 39), none⟩])))))
   (.region false [⟨some 40, .bin .add (.tmp 12) (.const (.int .i64 (1))), none⟩,
    ⟨some 12, .move (.tmp 40) false, none⟩]))))

/-- 'chamberlain/conform.Actions' -/
def m43 : MFunc :=
  ⟨1, 42, [.tmp 2],
   (.seq (.region false [⟨some 1, .box (.tmp 0), none⟩,
    ⟨some 2, .assign (.const (.sl [] (some 123))), none⟩])
   (.seq (.region false [⟨some 3, .assign (.const (.sl [] (some 123))), none⟩])
   (.seq (.seq (.region false [⟨some 9, .fieldAddr 1 (.tmp 1), none⟩,
    ⟨some 10, .load false 1 (.tmp 9) false, none⟩,
    ⟨some 11, .len 0 (.tmp 10), none⟩,
    ⟨some 12, .move (.const (.int .i64 (0))) false, none⟩])
   (.block 0 (.loop [3, 10, 12, 11, 2] l43_1)))
   (.seq (.region false [⟨some 41, .move (.tmp 3) false, none⟩,
    ⟨some 2, .assign (.tmp 41), none⟩])
   .ret))))⟩


/-- 'slices.SortFunc[[]chamberlain/api.Entity,chamberlain/api.Entity]' -/
def m44 : MFunc :=
  ⟨2, 14, [],
   (.seq (.region false [⟨some 5, .move (.tmp 0) false, none⟩,
    ⟨some 6, .len 0 (.tmp 5), none⟩,
    ⟨some 4, .assign (.tmp 6), none⟩])
   (.region false [⟨some 7, .move (.tmp 0) false, none⟩,
    ⟨some 8, .move (.tmp 4) false, none⟩,
    ⟨some 9, .move (.tmp 4) false, none⟩,
    ⟨some 10, .conv .u64 (.tmp 9), none⟩,
    ⟨some 11, .call 80 [(.tmp 10)], none⟩,
    ⟨some 12, .move (.tmp 1) false, none⟩,
    ⟨some 13, .call 79 [(.tmp 7), (.const (.int .i64 (0))), (.tmp 8), (.tmp 11), (.tmp 12)], none⟩]))⟩


/-- 'chamberlain/theory.Model$2' -/
def m45 : MFunc :=
  ⟨2, 10, [.tmp 4],
   (.seq (.region false [⟨some 2, .box (.tmp 0), none⟩,
    ⟨some 3, .box (.tmp 1), none⟩,
    ⟨some 4, .assign (.const (.int .i64 (0))), none⟩])
   (.seq (.region false [⟨some 5, .fieldAddr 0 (.tmp 2), none⟩,
    ⟨some 6, .load true 2 (.tmp 5) false, none⟩,
    ⟨some 7, .fieldAddr 0 (.tmp 3), none⟩,
    ⟨some 8, .load true 2 (.tmp 7) false, none⟩,
    ⟨some 9, .call 46 [(.tmp 6), (.tmp 8)], none⟩,
    ⟨some 4, .assign (.tmp 9), none⟩])
   .ret))⟩

def o46_0 : List MOper :=
  [⟨some 5, .fieldAddr 0 (.tmp 2), none⟩,
    ⟨some 6, .load false 1 (.tmp 5) false, none⟩,
    ⟨some 7, .fieldAddr 0 (.tmp 3), none⟩,
    ⟨some 8, .load false 1 (.tmp 7) false, none⟩,
    ⟨some 9, .call 82 [(.tmp 6), (.tmp 8)], none⟩,
    ⟨some 10, .fieldAddr 1 (.tmp 2), none⟩,
    ⟨some 11, .load false 1 (.tmp 10) false, none⟩,
    ⟨some 12, .fieldAddr 1 (.tmp 3), none⟩,
    ⟨some 13, .load false 1 (.tmp 12) false, none⟩,
    ⟨some 14, .call 82 [(.tmp 11), (.tmp 13)], none⟩,
    ⟨some 15, .buildSlice 3 1 2 [(.int .i64 (0))] [(0, (.tmp 9)), (1, (.tmp 14))], none⟩,
    ⟨some 16, .call 81 [(.tmp 15)], none⟩,
    ⟨some 4, .assign (.tmp 16), none⟩]

def o46_1 : List MOper :=
  [⟨some 5, .fieldAddr 0 (.tmp 2), none⟩,
    ⟨some 6, .loadL false 1 (.tmp 5), none⟩,
    ⟨some 7, .fieldAddr 0 (.tmp 3), none⟩,
    ⟨some 8, .loadL false 1 (.tmp 7), none⟩,
    ⟨some 9, .callS 82 [(.tmp 6), (.tmp 8)], none⟩,
    ⟨some 10, .fieldAddr 1 (.tmp 2), none⟩,
    ⟨some 11, .loadL false 1 (.tmp 10), none⟩,
    ⟨some 12, .fieldAddr 1 (.tmp 3), none⟩,
    ⟨some 13, .loadL false 1 (.tmp 12), none⟩,
    ⟨some 14, .callS 82 [(.tmp 11), (.tmp 13)], none⟩,
    ⟨some 15, .buildSlice 3 1 2 [(.int .i64 (0))] [(0, (.tmp 9)), (1, (.tmp 14))], none⟩,
    ⟨some 16, .callS 81 [(.tmp 15)], none⟩,
    ⟨some 4, .assign (.tmp 16), none⟩]

/-- 'chamberlain/entity.Order' -/
def m46 : MFunc :=
  ⟨2, 17, [.tmp 4],
   (.seq (.region false [⟨some 2, .box (.tmp 0), none⟩,
    ⟨some 3, .box (.tmp 1), none⟩,
    ⟨some 4, .assign (.const (.int .i64 (0))), none⟩])
   (.seq (.regionQ [(false, o46_1), (true, o46_0)] o46_0 [[], [0], [], [2], [1, 3], [], [5], [], [7], [6, 8, 4], [4, 9], [10, 9], [11, 11, 0, 1, 2, 3, 4, 5, 6, 7, 8, 9, 10, 11]])
   .ret))⟩

def l47_0 : MCode :=
   (.seq (.region false [⟨some 27, .bin .lss (.tmp 26) (.tmp 25), none⟩])
   (.seq (.cond (.tmp 27) .skip (.exit 0))
   (.seq (.block 1 (.seq (.region false [⟨some 28, .move (.tmp 26) false, none⟩,
    ⟨some 29, .indexAddr 11 (.tmp 24) (.tmp 26), none⟩,
    ⟨some 30, .load true 11 (.tmp 29) false, none⟩,
    ⟨some 8, .alloc [(.str []), (.str []), (.sl [] (some 37)), (.int .i64 (0)), (.bool false), (.int .i64 (0)), (.str []), (.str []), (.str []), (.sl [] (some 69)), (.sl [] (some 9))], none⟩,
    ⟨some 7, .assign (.tmp 28), none⟩,
    ⟨none, .store 11 (.tmp 8) (.tmp 30), none⟩])
   (.region false [⟨some 31, .move (.tmp 6) false, none⟩,
    ⟨some 32, .nilCheck (.tmp 31), none⟩,
    ⟨some 33, .fieldAddr 1 (.tmp 32), none⟩,
    ⟨some 34, .load false 1 (.tmp 33) false, none⟩,
    ⟨some 35, .fieldAddr 0 (.tmp 8), none⟩,
    ⟨some 36, .load true 2 (.tmp 35) false, none⟩,
    ⟨some 37, .move (.tmp 7) false, none⟩,
    ⟨none, .mapUpdate 37 (.tmp 34) (.tmp 36) (.tmp 37), none⟩])))
   (.region false [⟨some 38, .bin .add (.tmp 26) (.const (.int .i64 (1))), none⟩,
    ⟨some 26, .move (.tmp 38) false, none⟩]))))

def l47_1 : MCode :=
   (.seq (.region false [⟨some 42, .bin .lss (.tmp 41) (.tmp 40), none⟩])
   (.seq (.cond (.tmp 42) .skip (.exit 2))
   (.seq (.block 3 (.seq (.region false [⟨some 43, .indexAddr 11 (.tmp 39) (.tmp 41), none⟩,
    ⟨some 44, .load true 11 (.tmp 43) false, none⟩,
    ⟨some 10, .alloc [(.str []), (.str []), (.sl [] (some 37)), (.int .i64 (0)), (.bool false), (.int .i64 (0)), (.str []), (.str []), (.str []), (.sl [] (some 69)), (.sl [] (some 9))], none⟩,
    ⟨none, .store 11 (.tmp 10) (.tmp 44), none⟩])
   (.region false [⟨some 45, .move (.tmp 6) false, none⟩,
    ⟨some 46, .fieldAddr 0 (.tmp 10), none⟩,
    ⟨some 47, .load true 2 (.tmp 46) false, none⟩,
    ⟨some 48, .load true 11 (.tmp 10) false, none⟩,
    ⟨some 49, .call 84 [(.tmp 45), (.tmp 47), (.tmp 48)], none⟩])))
   (.region false [⟨some 50, .bin .add (.tmp 41) (.const (.int .i64 (1))), none⟩,
    ⟨some 41, .move (.tmp 50) false, none⟩]))))

/-- 'chamberlain/family.Load' -/
def m47 : MFunc :=
  ⟨1, 52, [.tmp 2, .tmp 3],
   (.seq (.region false [⟨some 2, .assign (.const .nilp), none⟩,
    ⟨some 3, .assign (.const (.int .i64 (0))), none⟩])
   (.seq (.region false [⟨some 12, .move (.tmp 0) false, none⟩,
    ⟨some 13, .call 83 [(.tmp 12)], none⟩,
    ⟨some 11, .move (.tmp 13) false, none⟩,
    ⟨some 14, .extract (.tmp 11) 0, none⟩,
    ⟨some 15, .extract (.tmp 11) 1, none⟩,
    ⟨some 4, .assign (.tmp 14), none⟩,
    ⟨some 5, .assign (.tmp 15), none⟩])
   (.seq (.seq (.region false [⟨some 16, .move (.tmp 5) false, none⟩,
    ⟨some 17, .bin .neq (.tmp 16) (.const (.int .i64 (0))), none⟩])
   (.cond (.tmp 17) (.seq (.region false [⟨some 18, .move (.tmp 5) false, none⟩,
    ⟨some 2, .assign (.const .nilp), none⟩,
    ⟨some 3, .assign (.tmp 18), none⟩])
   .ret) .skip))
   (.seq (.region false [⟨some 19, .move (.tmp 4) false, none⟩,
    ⟨some 20, .mkmap, none⟩,
    ⟨some 21, .mkmap, none⟩,
    ⟨some 22, .build [(.nils 123), .nilm, .nilm] [(0, 1, (.tmp 19)), (1, 1, (.tmp 20)), (2, 1, (.tmp 21))], none⟩,
    ⟨some 23, .box (.tmp 22), none⟩,
    ⟨some 6, .assign (.tmp 23), none⟩])
   (.seq (.seq (.region false [⟨some 24, .move (.tmp 4) false, none⟩,
    ⟨some 25, .len 0 (.tmp 24), none⟩,
    ⟨some 26, .move (.const (.int .i64 (0))) false, none⟩])
   (.block 0 (.loop [6, 4, 24, 26, 25, 3, 2, 23] l47_0)))
   (.seq (.seq (.region false [⟨some 39, .move (.tmp 4) false, none⟩,
    ⟨some 40, .len 0 (.tmp 39), none⟩,
    ⟨some 41, .move (.const (.int .i64 (0))) false, none⟩])
   (.block 2 (.loop [6, 39, 41, 40, 3, 2, 23] l47_1)))
   (.seq (.region false [⟨some 51, .move (.tmp 6) false, none⟩,
    ⟨some 2, .assign (.tmp 51), none⟩,
    ⟨some 3, .assign (.const (.int .i64 (0))), none⟩])
   .ret)))))))⟩


/-- 'chamberlain/value.Get' -/
def m48 : MFunc :=
  ⟨2, 31, [.cell 4 true 8, .tmp 5],
   (.seq (.region false [⟨some 2, .box (.tmp 0), none⟩,
    ⟨some 4, .alloc [(.int .i64 (0)), (.bool false), (.int .i64 (0)), (.str []), (.str []), (.str []), (.sl [] (some 69)), (.sl [] (some 9))], none⟩,
    ⟨some 5, .assign (.const (.bool false)), none⟩])
   (.seq (.region false [⟨some 7, .fieldAddr 7 (.tmp 2), none⟩,
    ⟨some 8, .load false 1 (.tmp 7) false, none⟩,
    ⟨some 9, .move (.tmp 1) false, none⟩,
    ⟨some 10, .call 85 [(.tmp 8), (.tmp 9)], none⟩,
    ⟨some 6, .assign (.tmp 10), none⟩])
   (.seq (.seq (.region false [⟨some 11, .fieldAddr 0 (.tmp 2), none⟩,
    ⟨some 12, .load false 1 (.tmp 11) false, none⟩,
    ⟨some 13, .bin .neq (.tmp 12) (.const (.int .i64 (6))), none⟩,
    ⟨some 14, .move (.tmp 13) false, none⟩,
    ⟨some 15, .move (.tmp 6) false, some (14, false)⟩,
    ⟨some 16, .bin .lss (.tmp 15) (.const (.int .i64 (0))), some (14, false)⟩,
    ⟨some 17, .pick (.tmp 14) (.const (.bool true)) (.tmp 16), none⟩,
    ⟨some 18, .move (.tmp 17) false, none⟩,
    ⟨some 19, .move (.tmp 6) false, some (18, false)⟩,
    ⟨some 20, .fieldAddr 6 (.tmp 2), some (18, false)⟩,
    ⟨some 21, .load false 1 (.tmp 20) false, some (18, false)⟩,
    ⟨some 22, .len 0 (.tmp 21), some (18, false)⟩,
    ⟨some 23, .bin .geq (.tmp 19) (.tmp 22), some (18, false)⟩,
    ⟨some 24, .pick (.tmp 18) (.const (.bool true)) (.tmp 23), none⟩])
   (.cond (.tmp 24) (.seq (.region false [⟨some 25, .build [(.int .i64 (0)), (.bool false), (.int .i64 (0)), (.str []), (.str []), (.str []), (.nils 69), (.nils 9)] [], none⟩,
    ⟨none, .store 8 (.tmp 4) (.tmp 25), none⟩,
    ⟨some 5, .assign (.const (.bool false)), none⟩])
   .ret) .skip))
   (.seq (.region false [⟨some 26, .fieldAddr 6 (.tmp 2), none⟩,
    ⟨some 27, .load false 1 (.tmp 26) false, none⟩,
    ⟨some 28, .move (.tmp 6) false, none⟩,
    ⟨some 29, .indexAddr 8 (.tmp 27) (.tmp 28), none⟩,
    ⟨some 30, .load true 8 (.tmp 29) false, none⟩,
    ⟨none, .store 8 (.tmp 4) (.tmp 30), none⟩,
    ⟨some 5, .assign (.const (.bool true)), none⟩])
   .ret))))⟩

def o50_0 : List MOper :=
  [⟨some 47, .fieldAddr 1 (.tmp 5), none⟩,
    ⟨some 48, .load false 1 (.tmp 47) false, none⟩,
    ⟨some 49, .fieldAddr 1 (.tmp 4), none⟩,
    ⟨some 50, .load false 1 (.tmp 49) false, none⟩,
    ⟨some 51, .bin .eql (.tmp 48) (.tmp 50), none⟩,
    ⟨some 52, .call 57 [(.tmp 51)], none⟩,
    ⟨some 53, .move (.tmp 0) false, none⟩,
    ⟨some 54, .load true 2 (.tmp 5) false, none⟩,
    ⟨some 55, .fieldAddr 2 (.tmp 4), none⟩,
    ⟨some 56, .load true 2 (.tmp 55) false, none⟩,
    ⟨some 57, .call 20 [(.tmp 53), (.tmp 54), (.tmp 56)], none⟩,
    ⟨some 58, .buildSlice 47 3 2 [(.int .i64 (0)), (.int .i64 (0)), (.sl [] (some 47))] [(0, (.tmp 52)), (1, (.tmp 57))], none⟩,
    ⟨some 59, .call 25 [(.tmp 58)], none⟩,
    ⟨none, .store 3 (.tmp 6) (.tmp 59), none⟩]

def o50_1 : List MOper :=
  [⟨some 47, .fieldAddr 1 (.tmp 5), none⟩,
    ⟨some 48, .loadL false 1 (.tmp 47), none⟩,
    ⟨some 49, .fieldAddr 1 (.tmp 4), none⟩,
    ⟨some 50, .loadL false 1 (.tmp 49), none⟩,
    ⟨some 51, .bin .eql (.tmp 48) (.tmp 50), none⟩,
    ⟨some 52, .callS 57 [(.tmp 51)], none⟩,
    ⟨some 53, .move (.tmp 0) false, none⟩,
    ⟨some 54, .loadL true 2 (.tmp 5), none⟩,
    ⟨some 55, .fieldAddr 2 (.tmp 4), none⟩,
    ⟨some 56, .loadL true 2 (.tmp 55), none⟩,
    ⟨some 57, .callS 20 [(.tmp 53), (.tmp 54), (.tmp 56)], none⟩,
    ⟨some 58, .buildSlice 47 3 2 [(.int .i64 (0)), (.int .i64 (0)), (.sl [] (some 47))] [(0, (.tmp 52)), (1, (.tmp 57))], none⟩,
    ⟨some 59, .callS 25 [(.tmp 58)], none⟩,
    ⟨none, .store 3 (.tmp 6) (.tmp 59), none⟩]

/-- '(*chamberlain/theory.book).scope' -/
def m50 : MFunc :=
  ⟨3, 62, [.cell 6 true 3],
   (.seq (.region false [⟨some 4, .box (.tmp 1), none⟩,
    ⟨some 5, .box (.tmp 2), none⟩,
    ⟨some 6, .alloc [(.int .i64 (0)), (.int .i64 (0)), (.sl [] (some 47))], none⟩])
   (.seq (.block 0 (.seq (.region false [⟨some 8, .fieldAddr 4 (.tmp 4), none⟩,
    ⟨some 9, .load false 1 (.tmp 8) false, none⟩,
    ⟨some 7, .assign (.tmp 9), none⟩])
   (.cond (.tmp 7) .skip (.seq (.region false [⟨some 11, .fieldAddr 0 (.tmp 4), none⟩,
    ⟨some 12, .load false 1 (.tmp 11) false, none⟩,
    ⟨some 13, .bin .eql (.tmp 12) (.const (.int .i64 (0))), none⟩,
    ⟨some 10, .assign (.tmp 13), none⟩])
   (.cond (.tmp 10) (.seq (.region false [⟨some 14, .call 57 [(.const (.bool true))], none⟩,
    ⟨none, .store 3 (.tmp 6) (.tmp 14), none⟩])
   .ret) (.seq (.region false [⟨some 16, .fieldAddr 0 (.tmp 4), none⟩,
    ⟨some 17, .load false 1 (.tmp 16) false, none⟩,
    ⟨some 18, .bin .eql (.tmp 17) (.const (.int .i64 (1))), none⟩,
    ⟨some 15, .assign (.tmp 18), none⟩])
   (.cond (.tmp 15) (.seq (.region false [⟨some 19, .move (.tmp 0) false, none⟩,
    ⟨some 20, .load true 2 (.tmp 5) false, none⟩,
    ⟨some 21, .fieldAddr 2 (.tmp 4), none⟩,
    ⟨some 22, .load true 2 (.tmp 21) false, none⟩,
    ⟨some 23, .call 19 [(.tmp 19), (.tmp 20), (.tmp 22)], none⟩,
    ⟨none, .store 3 (.tmp 6) (.tmp 23), none⟩])
   .ret) (.seq (.region false [⟨some 25, .fieldAddr 0 (.tmp 4), none⟩,
    ⟨some 26, .load false 1 (.tmp 25) false, none⟩,
    ⟨some 27, .bin .eql (.tmp 26) (.const (.int .i64 (2))), none⟩,
    ⟨some 24, .assign (.tmp 27), none⟩])
   (.cond (.tmp 24) (.seq (.region false [⟨some 28, .move (.tmp 0) false, none⟩,
    ⟨some 29, .load true 2 (.tmp 5) false, none⟩,
    ⟨some 30, .fieldAddr 2 (.tmp 4), none⟩,
    ⟨some 31, .load true 2 (.tmp 30) false, none⟩,
    ⟨some 32, .call 20 [(.tmp 28), (.tmp 29), (.tmp 31)], none⟩,
    ⟨none, .store 3 (.tmp 6) (.tmp 32), none⟩])
   .ret) (.seq (.region false [⟨some 34, .fieldAddr 0 (.tmp 4), none⟩,
    ⟨some 35, .load false 1 (.tmp 34) false, none⟩,
    ⟨some 36, .bin .eql (.tmp 35) (.const (.int .i64 (3))), none⟩,
    ⟨some 33, .assign (.tmp 36), none⟩])
   (.cond (.tmp 33) (.seq (.region false [⟨some 37, .fieldAddr 1 (.tmp 5), none⟩,
    ⟨some 38, .load false 1 (.tmp 37) false, none⟩,
    ⟨some 39, .fieldAddr 1 (.tmp 4), none⟩,
    ⟨some 40, .load false 1 (.tmp 39) false, none⟩,
    ⟨some 41, .bin .eql (.tmp 38) (.tmp 40), none⟩,
    ⟨some 42, .call 57 [(.tmp 41)], none⟩,
    ⟨none, .store 3 (.tmp 6) (.tmp 42), none⟩])
   .ret) (.seq (.region false [⟨some 44, .fieldAddr 0 (.tmp 4), none⟩,
    ⟨some 45, .load false 1 (.tmp 44) false, none⟩,
    ⟨some 46, .bin .eql (.tmp 45) (.const (.int .i64 (4))), none⟩,
    ⟨some 43, .assign (.tmp 46), none⟩])
   (.cond (.tmp 43) (.seq (.regionQ [(false, o50_1), (true, o50_0)] o50_0 [[], [0], [], [2], [1, 3], [4], [], [], [], [8], [6, 7, 9, 5], [5, 10], [11, 10], [12, 12, 0, 1, 2, 3, 4, 5, 6, 7, 8, 9, 10, 11, 12]])
   .ret) .skip)))))))))))))
   (.seq (.region false [⟨some 60, .move (.tmp 0) false, none⟩,
    ⟨some 61, .call 53 [(.tmp 60)], none⟩,
    ⟨none, .store 3 (.tmp 6) (.tmp 61), none⟩])
   .ret)))⟩

def l51_0 : MCode :=
   (.seq (.region false [⟨some 49, .bin .lss (.tmp 48) (.tmp 47), none⟩])
   (.seq (.cond (.tmp 49) .skip (.exit 1))
   (.seq (.block 2 (.seq (.region false [⟨some 50, .indexAddr 2 (.tmp 46) (.tmp 48), none⟩,
    ⟨some 51, .load true 2 (.tmp 50) false, none⟩,
    ⟨some 8, .alloc [(.str []), (.str [])], none⟩,
    ⟨none, .store 2 (.tmp 8) (.tmp 51), none⟩])
   (.region false [⟨some 52, .move (.tmp 6) true, none⟩,
    ⟨some 53, .move (.tmp 0) false, none⟩,
    ⟨some 54, .load true 2 (.tmp 5) false, none⟩,
    ⟨some 55, .load true 2 (.tmp 8) false, none⟩,
    ⟨some 56, .call 21 [(.tmp 53), (.tmp 54), (.tmp 55)], none⟩,
    ⟨some 57, .buildSlice 47 3 1 [(.int .i64 (0)), (.int .i64 (0)), (.sl [] (some 47))] [(0, (.tmp 56))], none⟩,
    ⟨some 58, .append 47 3 40 false (.tmp 52) (.tmp 57), none⟩,
    ⟨some 6, .assign (.tmp 58), none⟩])))
   (.region false [⟨some 59, .bin .add (.tmp 48) (.const (.int .i64 (1))), none⟩,
    ⟨some 48, .move (.tmp 59) false, none⟩]))))

/-- '(*chamberlain/theory.book).action' -/
def m51 : MFunc :=
  ⟨2, 64, [.cell 4 true 3],
   (.seq (.region false [⟨some 3, .box (.tmp 1), none⟩,
    ⟨some 4, .alloc [(.int .i64 (0)), (.int .i64 (0)), (.sl [] (some 47))], none⟩])
   (.seq (.region false [⟨some 9, .move (.tmp 0) false, none⟩,
    ⟨some 10, .nilCheck (.tmp 9), none⟩,
    ⟨some 11, .fieldAddr 2 (.tmp 10), none⟩,
    ⟨some 12, .fieldAddr 1 (.tmp 11), none⟩,
    ⟨some 13, .load false 1 (.tmp 12) false, none⟩,
    ⟨some 14, .build [(.str []), (.str [])] [(0, 1, (.const (.str [65, 99, 116, 105, 111, 110]))), (1, 1, (.tmp 13))], none⟩,
    ⟨some 5, .alloc [(.str []), (.str [])], none⟩,
    ⟨none, .store 2 (.tmp 5) (.tmp 14), none⟩])
   (.seq (.block 0 (.seq (.region false [⟨some 16, .fieldAddr 4 (.tmp 3), none⟩,
    ⟨some 17, .load false 1 (.tmp 16) false, none⟩,
    ⟨some 15, .assign (.tmp 17), none⟩])
   (.cond (.tmp 15) .skip (.seq (.region false [⟨some 19, .fieldAddr 0 (.tmp 3), none⟩,
    ⟨some 20, .load false 1 (.tmp 19) false, none⟩,
    ⟨some 21, .bin .eql (.tmp 20) (.const (.int .i64 (0))), none⟩,
    ⟨some 18, .assign (.tmp 21), none⟩])
   (.cond (.tmp 18) (.seq (.region false [⟨some 22, .call 57 [(.const (.bool true))], none⟩,
    ⟨none, .store 3 (.tmp 4) (.tmp 22), none⟩])
   .ret) (.seq (.region false [⟨some 24, .fieldAddr 0 (.tmp 3), none⟩,
    ⟨some 25, .load false 1 (.tmp 24) false, none⟩,
    ⟨some 26, .bin .eql (.tmp 25) (.const (.int .i64 (1))), none⟩,
    ⟨some 23, .assign (.tmp 26), none⟩])
   (.cond (.tmp 23) (.seq (.region false [⟨some 27, .load true 2 (.tmp 5) false, none⟩,
    ⟨some 28, .fieldAddr 2 (.tmp 3), none⟩,
    ⟨some 29, .load true 2 (.tmp 28) false, none⟩,
    ⟨some 30, .eqA 34 false (.tmp 27) (.tmp 29), none⟩,
    ⟨some 31, .call 57 [(.tmp 30)], none⟩,
    ⟨none, .store 3 (.tmp 4) (.tmp 31), none⟩])
   .ret) (.seq (.region false [⟨some 33, .fieldAddr 0 (.tmp 3), none⟩,
    ⟨some 34, .load false 1 (.tmp 33) false, none⟩,
    ⟨some 35, .bin .eql (.tmp 34) (.const (.int .i64 (2))), none⟩,
    ⟨some 32, .assign (.tmp 35), none⟩])
   (.cond (.tmp 32) (.seq (.region false [⟨some 36, .move (.tmp 0) false, none⟩,
    ⟨some 37, .load true 2 (.tmp 5) false, none⟩,
    ⟨some 38, .fieldAddr 2 (.tmp 3), none⟩,
    ⟨some 39, .load true 2 (.tmp 38) false, none⟩,
    ⟨some 40, .call 21 [(.tmp 36), (.tmp 37), (.tmp 39)], none⟩,
    ⟨none, .store 3 (.tmp 4) (.tmp 40), none⟩])
   .ret) (.seq (.region false [⟨some 42, .fieldAddr 0 (.tmp 3), none⟩,
    ⟨some 43, .load false 1 (.tmp 42) false, none⟩,
    ⟨some 44, .bin .eql (.tmp 43) (.const (.int .i64 (5))), none⟩,
    ⟨some 41, .assign (.tmp 44), none⟩])
   (.cond (.tmp 41) (.seq (.region false [⟨some 6, .assign (.const (.sl [] (some 47))), none⟩])
   (.seq (.seq (.region false [⟨some 45, .fieldAddr 5 (.tmp 3), none⟩,
    ⟨some 46, .load false 1 (.tmp 45) false, none⟩,
    ⟨some 47, .len 0 (.tmp 46), none⟩,
    ⟨some 48, .move (.const (.int .i64 (0))) false, none⟩])
   (.block 1 (.loop [6, 46, 0, 5, 48, 47, 4] l51_0)))
   (.seq (.region false [⟨some 60, .move (.tmp 6) false, none⟩,
    ⟨some 61, .call 61 [(.tmp 60)], none⟩,
    ⟨none, .store 3 (.tmp 4) (.tmp 61), none⟩])
   .ret))) .skip)))))))))))
   (.seq (.region false [⟨some 62, .move (.tmp 0) false, none⟩,
    ⟨some 63, .call 53 [(.tmp 62)], none⟩,
    ⟨none, .store 3 (.tmp 4) (.tmp 63), none⟩])
   .ret))))⟩


/-- 'slices.SortFunc[[]chamberlain/api.Uid,chamberlain/api.Uid]' -/
def m55 : MFunc :=
  ⟨2, 14, [],
   (.seq (.region false [⟨some 5, .move (.tmp 0) false, none⟩,
    ⟨some 6, .len 0 (.tmp 5), none⟩,
    ⟨some 4, .assign (.tmp 6), none⟩])
   (.region false [⟨some 7, .move (.tmp 0) false, none⟩,
    ⟨some 8, .move (.tmp 4) false, none⟩,
    ⟨some 9, .move (.tmp 4) false, none⟩,
    ⟨some 10, .conv .u64 (.tmp 9), none⟩,
    ⟨some 11, .call 80 [(.tmp 10)], none⟩,
    ⟨some 12, .move (.tmp 1) false, none⟩,
    ⟨some 13, .call 92 [(.tmp 7), (.const (.int .i64 (0))), (.tmp 8), (.tmp 11), (.tmp 12)], none⟩]))⟩

def l56_0 : MCode :=
   (.seq (.seq (.region false [⟨some 29, .move (.tmp 5) false, none⟩,
    ⟨some 30, .move (.tmp 4) false, none⟩,
    ⟨some 31, .len 0 (.tmp 30), none⟩,
    ⟨some 32, .bin .lss (.tmp 29) (.tmp 31), none⟩])
   (.cond (.tmp 32) .skip (.exit 2)))
   (.seq (.block 3 (.seq (.region false [⟨some 35, .move (.tmp 4) false, none⟩,
    ⟨some 36, .move (.tmp 5) false, none⟩,
    ⟨some 37, .indexAddr 2 (.tmp 35) (.tmp 36), none⟩,
    ⟨some 38, .load true 2 (.tmp 37) false, none⟩,
    ⟨some 39, .move (.tmp 4) false, none⟩,
    ⟨some 40, .move (.tmp 5) false, none⟩,
    ⟨some 41, .bin .sub (.tmp 40) (.const (.int .i64 (1))), none⟩,
    ⟨some 42, .indexAddr 2 (.tmp 39) (.tmp 41), none⟩,
    ⟨some 43, .load true 2 (.tmp 42) false, none⟩,
    ⟨some 44, .eqA 34 true (.tmp 38) (.tmp 43), none⟩])
   (.cond (.tmp 44) (.seq (.region false [⟨some 45, .move (.tmp 0) false, none⟩,
    ⟨some 46, .move (.tmp 3) false, none⟩,
    ⟨some 47, .move (.tmp 4) false, none⟩,
    ⟨some 48, .move (.tmp 5) false, none⟩,
    ⟨some 49, .indexAddr 2 (.tmp 47) (.tmp 48), none⟩,
    ⟨some 50, .load true 2 (.tmp 49) false, none⟩,
    ⟨some 51, .indexAddr 2 (.tmp 45) (.tmp 46), none⟩,
    ⟨none, .store 2 (.tmp 51) (.tmp 50), none⟩])
   (.region false [⟨some 52, .move (.tmp 3) false, none⟩,
    ⟨some 53, .bin .add (.tmp 52) (.const (.int .i64 (1))), none⟩,
    ⟨some 3, .assign (.tmp 53), none⟩])) .skip)))
   (.region false [⟨some 33, .move (.tmp 5) false, none⟩,
    ⟨some 34, .bin .add (.tmp 33) (.const (.int .i64 (1))), none⟩,
    ⟨some 5, .assign (.tmp 34), none⟩])))

def l56_1 : MCode :=
   (.seq (.seq (.region false [⟨some 10, .move (.tmp 3) false, none⟩,
    ⟨some 11, .move (.tmp 0) false, none⟩,
    ⟨some 12, .len 0 (.tmp 11), none⟩,
    ⟨some 13, .bin .lss (.tmp 10) (.tmp 12), none⟩])
   (.cond (.tmp 13) .skip (.exit 0)))
   (.seq (.block 1 (.seq (.region false [⟨some 16, .move (.tmp 0) false, none⟩,
    ⟨some 17, .move (.tmp 3) false, none⟩,
    ⟨some 18, .indexAddr 2 (.tmp 16) (.tmp 17), none⟩,
    ⟨some 19, .load true 2 (.tmp 18) false, none⟩,
    ⟨some 20, .move (.tmp 0) false, none⟩,
    ⟨some 21, .move (.tmp 3) false, none⟩,
    ⟨some 22, .bin .sub (.tmp 21) (.const (.int .i64 (1))), none⟩,
    ⟨some 23, .indexAddr 2 (.tmp 20) (.tmp 22), none⟩,
    ⟨some 24, .load true 2 (.tmp 23) false, none⟩,
    ⟨some 25, .eqA 34 false (.tmp 19) (.tmp 24), none⟩])
   (.cond (.tmp 25) (.seq (.region false [⟨some 26, .move (.tmp 0) false, none⟩,
    ⟨some 27, .move (.tmp 3) false, none⟩,
    ⟨some 28, .slice 2 (.tmp 26) (some (.tmp 27)) none, none⟩,
    ⟨some 4, .assign (.tmp 28), none⟩])
   (.seq (.seq (.region false [⟨some 5, .assign (.const (.int .i64 (1))), none⟩])
   (.block 2 (.loop [3, 0, 4, 5, 2] l56_0)))
   (.seq (.region false [⟨some 54, .move (.tmp 0) false, none⟩,
    ⟨some 55, .move (.tmp 3) false, none⟩,
    ⟨some 56, .slice 2 (.tmp 54) (some (.tmp 55)) none, none⟩,
    ⟨none, .clear 2 [(.str []), (.str [])] (.tmp 56), none⟩])
   (.seq (.region false [⟨some 57, .move (.tmp 0) false, none⟩,
    ⟨some 58, .move (.tmp 3) false, none⟩,
    ⟨some 59, .slice 2 (.tmp 57) none (some (.tmp 58)), none⟩,
    ⟨some 2, .assign (.tmp 59), none⟩])
   .ret)))) .skip)))
   (.region false [⟨some 14, .move (.tmp 3) false, none⟩,
    ⟨some 15, .bin .add (.tmp 14) (.const (.int .i64 (1))), none⟩,
    ⟨some 3, .assign (.tmp 15), none⟩])))

/-- 'slices.Compact[[]chamberlain/api.Uid,chamberlain/api.Uid]' -/
def m56 : MFunc :=
  ⟨1, 61, [.tmp 2],
   (.seq (.region false [⟨some 2, .assign (.const (.sl [] (some 37))), none⟩])
   (.seq (.seq (.region false [⟨some 6, .move (.tmp 0) false, none⟩,
    ⟨some 7, .len 0 (.tmp 6), none⟩,
    ⟨some 8, .bin .lss (.tmp 7) (.const (.int .i64 (2))), none⟩])
   (.cond (.tmp 8) (.seq (.region false [⟨some 9, .move (.tmp 0) false, none⟩,
    ⟨some 2, .assign (.tmp 9), none⟩])
   .ret) .skip))
   (.seq (.seq (.region false [⟨some 3, .assign (.const (.int .i64 (1))), none⟩])
   (.block 0 (.loop [0, 3, 2] l56_1)))
   (.seq (.region false [⟨some 60, .move (.tmp 0) false, none⟩,
    ⟨some 2, .assign (.tmp 60), none⟩])
   .ret))))⟩


/-- 'chamberlain/theory.constant' -/
def m57 : MFunc :=
  ⟨1, 6, [.cell 2 true 3],
   (.seq (.region false [⟨some 2, .alloc [(.int .i64 (0)), (.int .i64 (0)), (.sl [] (some 47))], none⟩])
   (.seq (.seq (.region false [⟨some 3, .move (.tmp 0) false, none⟩])
   (.cond (.tmp 3) (.seq (.region false [⟨some 4, .build [(.int .i64 (0)), (.int .i64 (0)), (.nils 47)] [(0, 1, (.const (.int .i64 (1))))], none⟩,
    ⟨none, .store 3 (.tmp 2) (.tmp 4), none⟩])
   .ret) .skip))
   (.seq (.region false [⟨some 5, .build [(.int .i64 (0)), (.int .i64 (0)), (.nils 47)] [(0, 1, (.const (.int .i64 (2))))], none⟩,
    ⟨none, .store 3 (.tmp 2) (.tmp 5), none⟩])
   .ret)))⟩


/-- '(*chamberlain/theory.book).atom' -/
def m58 : MFunc :=
  ⟨2, 41, [.cell 4 true 3],
   (.seq (.region false [⟨some 3, .box (.tmp 1), none⟩,
    ⟨some 4, .alloc [(.int .i64 (0)), (.int .i64 (0)), (.sl [] (some 47))], none⟩])
   (.seq (.region false [⟨some 8, .move (.tmp 0) false, none⟩,
    ⟨some 9, .nilCheck (.tmp 8), none⟩,
    ⟨some 10, .fieldAddr 6 (.tmp 9), none⟩,
    ⟨some 11, .load false 1 (.tmp 10) false, none⟩,
    ⟨some 12, .load true 7 (.tmp 3) false, none⟩,
    ⟨some 13, .lookup 35791401 false [(.int .i64 (0))] (.tmp 11) (.tmp 12) true, none⟩,
    ⟨some 7, .move (.tmp 13) false, none⟩,
    ⟨some 14, .extract (.tmp 7) 0, none⟩,
    ⟨some 15, .extract (.tmp 7) 1, none⟩,
    ⟨some 5, .assign (.tmp 14), none⟩,
    ⟨some 6, .assign (.tmp 15), none⟩])
   (.seq (.seq (.region false [⟨some 16, .move (.tmp 6) false, none⟩,
    ⟨some 17, .un .not (.tmp 16), none⟩])
   (.cond (.tmp 17) (.seq (.region false [⟨some 18, .move (.tmp 0) false, none⟩,
    ⟨some 19, .move (.tmp 0) false, none⟩,
    ⟨some 20, .nilCheck (.tmp 19), none⟩,
    ⟨some 21, .fieldAddr 5 (.tmp 20), none⟩,
    ⟨some 22, .load false 1 (.tmp 21) true, none⟩,
    ⟨some 23, .load true 7 (.tmp 3) false, none⟩,
    ⟨some 24, .buildSlice 64 7 1 [(.int .i64 (0)), (.str []), (.str []), (.str []), (.str []), (.str []), (.str [])] [(0, (.tmp 23))], none⟩,
    ⟨some 25, .append 64 7 104 false (.tmp 22) (.tmp 24), none⟩,
    ⟨some 26, .nilCheck (.tmp 18), none⟩,
    ⟨some 27, .fieldAddr 5 (.tmp 26), none⟩,
    ⟨none, .store 1 (.tmp 27) (.tmp 25), none⟩])
   (.seq (.region false [⟨some 28, .move (.tmp 0) false, none⟩,
    ⟨some 29, .nilCheck (.tmp 28), none⟩,
    ⟨some 30, .fieldAddr 5 (.tmp 29), none⟩,
    ⟨some 31, .load false 1 (.tmp 30) false, none⟩,
    ⟨some 32, .len 0 (.tmp 31), none⟩,
    ⟨some 5, .assign (.tmp 32), none⟩])
   (.region false [⟨some 33, .move (.tmp 0) false, none⟩,
    ⟨some 34, .nilCheck (.tmp 33), none⟩,
    ⟨some 35, .fieldAddr 6 (.tmp 34), none⟩,
    ⟨some 36, .load false 1 (.tmp 35) false, none⟩,
    ⟨some 37, .load true 7 (.tmp 3) false, none⟩,
    ⟨some 38, .move (.tmp 5) false, none⟩,
    ⟨none, .mapUpdate 35791401 (.tmp 36) (.tmp 37) (.tmp 38), none⟩]))) .skip))
   (.seq (.region false [⟨some 39, .move (.tmp 5) false, none⟩,
    ⟨some 40, .build [(.int .i64 (0)), (.int .i64 (0)), (.nils 47)] [(0, 1, (.const (.int .i64 (3)))), (1, 1, (.tmp 39))], none⟩,
    ⟨none, .store 3 (.tmp 4) (.tmp 40), none⟩])
   .ret))))⟩


/-- 'chamberlain/schema.Above' -/
def m59 : MFunc :=
  ⟨3, 11, [.tmp 6],
   (.seq (.region false [⟨some 3, .box (.tmp 0), none⟩,
    ⟨some 6, .assign (.const (.bool false)), none⟩])
   (.seq (.region false [⟨some 7, .move (.tmp 1) false, none⟩,
    ⟨some 8, .move (.tmp 2) false, none⟩,
    ⟨some 9, .mkfunc 94 [(.tmp 3)], none⟩,
    ⟨some 10, .call 93 [(.tmp 7), (.tmp 8), (.tmp 9)], none⟩,
    ⟨some 6, .assign (.tmp 10), none⟩])
   .ret))⟩


/-- 'chamberlain/theory.or' -/
def m61 : MFunc :=
  ⟨1, 5, [.cell 2 true 3],
   (.seq (.region false [⟨some 2, .alloc [(.int .i64 (0)), (.int .i64 (0)), (.sl [] (some 47))], none⟩])
   (.seq (.region false [⟨some 3, .move (.tmp 0) false, none⟩,
    ⟨some 4, .build [(.int .i64 (0)), (.int .i64 (0)), (.nils 47)] [(0, 1, (.const (.int .i64 (6)))), (2, 1, (.tmp 3))], none⟩,
    ⟨none, .store 3 (.tmp 2) (.tmp 4), none⟩])
   .ret))⟩


/-- 'chamberlain/chamberlainref22.scope' -/
def m62 : MFunc :=
  ⟨3, 75, [.cell 6 true 8, .tmp 7],
   (.seq (.region false [⟨some 3, .box (.tmp 0), none⟩,
    ⟨some 4, .box (.tmp 1), none⟩,
    ⟨some 6, .alloc [(.sl [] (some 26)), (.sl [] (some 29)), (.str []), (.str []), (.str []), (.sl [] (some 99)), (.sl [] (some 4)), (.bool false)], none⟩,
    ⟨some 7, .assign (.const (.bool false)), none⟩])
   (.seq (.seq (.region false [⟨some 10, .fieldAddr 4 (.tmp 4), none⟩,
    ⟨some 11, .load false 1 (.tmp 10) false, none⟩,
    ⟨some 12, .move (.tmp 11) false, none⟩,
    ⟨some 13, .fieldAddr 0 (.tmp 4), some (12, false)⟩,
    ⟨some 14, .load false 1 (.tmp 13) false, some (12, false)⟩,
    ⟨some 15, .bin .lss (.tmp 14) (.const (.int .i64 (0))), some (12, false)⟩,
    ⟨some 16, .pick (.tmp 12) (.const (.bool true)) (.tmp 15), none⟩,
    ⟨some 17, .move (.tmp 16) false, none⟩,
    ⟨some 18, .fieldAddr 0 (.tmp 4), some (17, false)⟩,
    ⟨some 19, .load false 1 (.tmp 18) false, some (17, false)⟩,
    ⟨some 20, .bin .gtr (.tmp 19) (.const (.int .i64 (4))), some (17, false)⟩,
    ⟨some 21, .pick (.tmp 17) (.const (.bool true)) (.tmp 20), none⟩])
   (.cond (.tmp 21) (.seq (.region false [⟨some 22, .load true 8 (.tmp 3) false, none⟩,
    ⟨some 23, .call 65 [(.tmp 22)], none⟩,
    ⟨some 24, .extract (.tmp 23) 0, none⟩,
    ⟨some 25, .extract (.tmp 23) 1, none⟩,
    ⟨none, .store 8 (.tmp 6) (.tmp 24), none⟩,
    ⟨some 7, .assign (.tmp 25), none⟩])
   .ret) .skip))
   (.seq (.region false [⟨some 26, .load true 8 (.tmp 3) false, none⟩,
    ⟨some 27, .move (.tmp 2) false, none⟩,
    ⟨some 28, .call 68 [(.tmp 26), (.tmp 27)], none⟩,
    ⟨some 8, .assign (.tmp 28), none⟩])
   (.seq (.region false [⟨some 9, .assign (.const (.bool false)), none⟩])
   (.seq (.seq (.region false [⟨some 29, .fieldAddr 0 (.tmp 4), none⟩,
    ⟨some 30, .load false 1 (.tmp 29) false, none⟩])
   (.block 0 (.seq (.region false [⟨some 32, .bin .eql (.tmp 30) (.const (.int .i64 (1))), none⟩,
    ⟨some 31, .assign (.tmp 32), none⟩])
   (.cond (.tmp 31) (.seq (.region false [⟨some 33, .load true 8 (.tmp 3) false, none⟩,
    ⟨some 34, .move (.tmp 2) false, none⟩,
    ⟨some 35, .fieldAddr 2 (.tmp 4), none⟩,
    ⟨some 36, .load true 2 (.tmp 35) false, none⟩,
    ⟨some 37, .call 30 [(.tmp 33), (.tmp 34), (.tmp 36)], none⟩,
    ⟨some 38, .extract (.tmp 37) 0, none⟩,
    ⟨some 39, .extract (.tmp 37) 1, none⟩,
    ⟨none, .store 8 (.tmp 6) (.tmp 38), none⟩,
    ⟨some 7, .assign (.tmp 39), none⟩])
   .ret) (.seq (.region false [⟨some 41, .bin .eql (.tmp 30) (.const (.int .i64 (2))), none⟩,
    ⟨some 40, .assign (.tmp 41), none⟩])
   (.cond (.tmp 40) (.seq (.region false [⟨some 42, .load true 8 (.tmp 3) false, none⟩,
    ⟨some 43, .move (.tmp 2) false, none⟩,
    ⟨some 44, .fieldAddr 2 (.tmp 4), none⟩,
    ⟨some 45, .load true 2 (.tmp 44) false, none⟩,
    ⟨some 46, .call 31 [(.tmp 42), (.tmp 43), (.tmp 45)], none⟩,
    ⟨some 47, .extract (.tmp 46) 0, none⟩,
    ⟨some 48, .extract (.tmp 46) 1, none⟩,
    ⟨none, .store 8 (.tmp 6) (.tmp 47), none⟩,
    ⟨some 7, .assign (.tmp 48), none⟩])
   .ret) (.seq (.region false [⟨some 50, .bin .eql (.tmp 30) (.const (.int .i64 (3))), none⟩,
    ⟨some 49, .assign (.tmp 50), none⟩])
   (.cond (.tmp 49) (.seq (.region false [⟨some 51, .loadA 6 true 8 (.tmp 3), none⟩,
    ⟨some 52, .move (.tmp 8) false, none⟩,
    ⟨some 53, .fieldAddr 1 (.tmp 4), none⟩,
    ⟨some 54, .loadA 6 false 1 (.tmp 53), none⟩,
    ⟨some 55, .bin .eql (.tmp 52) (.tmp 54), none⟩,
    ⟨none, .storeR 8 6 (.tmp 51), none⟩,
    ⟨some 7, .assign (.tmp 55), none⟩])
   .ret) (.seq (.region false [⟨some 57, .bin .eql (.tmp 30) (.const (.int .i64 (4))), none⟩,
    ⟨some 56, .assign (.tmp 57), none⟩])
   (.cond (.tmp 56) (.seq (.region false [⟨some 59, .load true 8 (.tmp 3) false, none⟩,
    ⟨some 60, .move (.tmp 2) false, none⟩,
    ⟨some 61, .fieldAddr 2 (.tmp 4), none⟩,
    ⟨some 62, .load true 2 (.tmp 61) false, none⟩,
    ⟨some 63, .call 31 [(.tmp 59), (.tmp 60), (.tmp 62)], none⟩,
    ⟨some 58, .move (.tmp 63) false, none⟩,
    ⟨some 64, .extract (.tmp 58) 0, none⟩,
    ⟨some 65, .extract (.tmp 58) 1, none⟩,
    ⟨none, .store 8 (.tmp 3) (.tmp 64), none⟩,
    ⟨some 9, .assign (.tmp 65), none⟩])
   (.seq (.region false [⟨some 66, .loadA 6 true 8 (.tmp 3), none⟩,
    ⟨some 67, .move (.tmp 9) false, none⟩,
    ⟨some 68, .move (.tmp 67) false, none⟩,
    ⟨some 69, .move (.tmp 8) false, some (68, true)⟩,
    ⟨some 70, .fieldAddr 1 (.tmp 4), some (68, true)⟩,
    ⟨some 71, .loadA 6 false 1 (.tmp 70), some (68, true)⟩,
    ⟨some 72, .bin .eql (.tmp 69) (.tmp 71), some (68, true)⟩,
    ⟨some 73, .pick (.tmp 68) (.tmp 72) (.const (.bool false)), none⟩,
    ⟨none, .storeR 8 6 (.tmp 66), none⟩,
    ⟨some 7, .assign (.tmp 73), none⟩])
   .ret)) .skip))))))))))
   (.seq (.region false [⟨some 74, .load true 8 (.tmp 3) false, none⟩,
    ⟨none, .store 8 (.tmp 6) (.tmp 74), none⟩,
    ⟨some 7, .assign (.const (.bool true)), none⟩])
   .ret))))))⟩

def l63_0 : MCode :=
   (.seq (.seq (.region false [⟨some 61, .move (.tmp 9) false, none⟩,
    ⟨some 62, .move (.tmp 7) false, none⟩,
    ⟨some 63, .len 0 (.tmp 62), none⟩,
    ⟨some 64, .bin .lss (.tmp 61) (.tmp 63), none⟩])
   (.cond (.tmp 64) .skip (.exit 1)))
   (.seq (.block 2 (.seq (.region false [⟨some 68, .loadA 10 true 8 (.tmp 2), none⟩,
    ⟨some 69, .loadA 10 true 2 (.tmp 6), none⟩,
    ⟨some 70, .move (.tmp 7) false, none⟩,
    ⟨some 71, .move (.tmp 9) false, none⟩,
    ⟨some 72, .indexAddr 2 (.tmp 70) (.tmp 71), none⟩,
    ⟨some 73, .loadA 10 true 2 (.tmp 72), none⟩,
    ⟨some 74, .callS 32 [(.tmp 68), (.tmp 69), (.tmp 73)], none⟩,
    ⟨some 67, .move (.tmp 74) false, none⟩,
    ⟨some 75, .extract (.tmp 67) 0, none⟩,
    ⟨some 76, .extract (.tmp 67) 1, none⟩,
    ⟨some 10, .allocR [(.sl [] (some 26)), (.sl [] (some 29)), (.str []), (.str []), (.str []), (.sl [] (some 99)), (.sl [] (some 4)), (.bool false)], none⟩,
    ⟨none, .storeR 8 10 (.tmp 75), none⟩,
    ⟨some 11, .assign (.tmp 76), none⟩])
   (.region false [⟨some 77, .move (.tmp 8) false, none⟩,
    ⟨some 78, .move (.tmp 77) false, none⟩,
    ⟨some 79, .move (.tmp 11) false, some (78, false)⟩,
    ⟨some 80, .pick (.tmp 78) (.const (.bool true)) (.tmp 79), none⟩,
    ⟨some 8, .assign (.tmp 80), none⟩])))
   (.region false [⟨some 65, .move (.tmp 9) false, none⟩,
    ⟨some 66, .bin .add (.tmp 65) (.const (.int .i64 (1))), none⟩,
    ⟨some 9, .assign (.tmp 66), none⟩])))

/-- 'chamberlain/chamberlainref22.action' -/
def m63 : MFunc :=
  ⟨2, 83, [.cell 4 true 8, .tmp 5],
   (.seq (.region false [⟨some 2, .box (.tmp 0), none⟩,
    ⟨some 3, .box (.tmp 1), none⟩,
    ⟨some 4, .alloc [(.sl [] (some 26)), (.sl [] (some 29)), (.str []), (.str []), (.str []), (.sl [] (some 99)), (.sl [] (some 4)), (.bool false)], none⟩,
    ⟨some 5, .assign (.const (.bool false)), none⟩])
   (.seq (.region false [⟨some 12, .fieldAddr 2 (.tmp 2), none⟩,
    ⟨some 13, .fieldAddr 1 (.tmp 12), none⟩,
    ⟨some 14, .load false 1 (.tmp 13) false, none⟩,
    ⟨some 15, .build [(.str []), (.str [])] [(0, 1, (.const (.str [65, 99, 116, 105, 111, 110]))), (1, 1, (.tmp 14))], none⟩,
    ⟨some 6, .alloc [(.str []), (.str [])], none⟩,
    ⟨none, .store 2 (.tmp 6) (.tmp 15), none⟩])
   (.seq (.seq (.region false [⟨some 16, .fieldAddr 4 (.tmp 3), none⟩,
    ⟨some 17, .load false 1 (.tmp 16) false, none⟩,
    ⟨some 18, .move (.tmp 17) false, none⟩,
    ⟨some 19, .fieldAddr 0 (.tmp 3), some (18, false)⟩,
    ⟨some 20, .load false 1 (.tmp 19) false, some (18, false)⟩,
    ⟨some 21, .bin .lss (.tmp 20) (.const (.int .i64 (0))), some (18, false)⟩,
    ⟨some 22, .pick (.tmp 18) (.const (.bool true)) (.tmp 21), none⟩,
    ⟨some 23, .move (.tmp 22) false, none⟩,
    ⟨some 24, .fieldAddr 0 (.tmp 3), some (23, false)⟩,
    ⟨some 25, .load false 1 (.tmp 24) false, some (23, false)⟩,
    ⟨some 26, .bin .gtr (.tmp 25) (.const (.int .i64 (5))), some (23, false)⟩,
    ⟨some 27, .pick (.tmp 23) (.const (.bool true)) (.tmp 26), none⟩,
    ⟨some 28, .move (.tmp 27) false, none⟩,
    ⟨some 29, .fieldAddr 0 (.tmp 3), some (28, false)⟩,
    ⟨some 30, .load false 1 (.tmp 29) false, some (28, false)⟩,
    ⟨some 31, .bin .eql (.tmp 30) (.const (.int .i64 (3))), some (28, false)⟩,
    ⟨some 32, .pick (.tmp 28) (.const (.bool true)) (.tmp 31), none⟩,
    ⟨some 33, .move (.tmp 32) false, none⟩,
    ⟨some 34, .fieldAddr 0 (.tmp 3), some (33, false)⟩,
    ⟨some 35, .load false 1 (.tmp 34) false, some (33, false)⟩,
    ⟨some 36, .bin .eql (.tmp 35) (.const (.int .i64 (4))), some (33, false)⟩,
    ⟨some 37, .pick (.tmp 33) (.const (.bool true)) (.tmp 36), none⟩])
   (.cond (.tmp 37) (.seq (.region false [⟨some 38, .load true 8 (.tmp 2) false, none⟩,
    ⟨some 39, .call 65 [(.tmp 38)], none⟩,
    ⟨some 40, .extract (.tmp 39) 0, none⟩,
    ⟨some 41, .extract (.tmp 39) 1, none⟩,
    ⟨none, .store 8 (.tmp 4) (.tmp 40), none⟩,
    ⟨some 5, .assign (.tmp 41), none⟩])
   .ret) .skip))
   (.seq (.region false [⟨some 42, .fieldAddr 5 (.tmp 3), none⟩,
    ⟨some 43, .load false 1 (.tmp 42) false, none⟩,
    ⟨some 7, .assign (.tmp 43), none⟩])
   (.seq (.seq (.region false [⟨some 44, .fieldAddr 0 (.tmp 3), none⟩,
    ⟨some 45, .load false 1 (.tmp 44) false, none⟩])
   (.block 0 (.seq (.region false [⟨some 47, .bin .eql (.tmp 45) (.const (.int .i64 (0))), none⟩,
    ⟨some 46, .assign (.tmp 47), none⟩])
   (.cond (.tmp 46) (.seq (.region false [⟨some 48, .load true 8 (.tmp 2) false, none⟩,
    ⟨none, .store 8 (.tmp 4) (.tmp 48), none⟩,
    ⟨some 5, .assign (.const (.bool true)), none⟩])
   .ret) (.seq (.region false [⟨some 50, .bin .eql (.tmp 45) (.const (.int .i64 (1))), none⟩,
    ⟨some 49, .assign (.tmp 50), none⟩])
   (.cond (.tmp 49) (.seq (.region false [⟨some 51, .loadA 4 true 8 (.tmp 2), none⟩,
    ⟨some 52, .fieldAddr 2 (.tmp 3), none⟩,
    ⟨some 53, .loadA 4 true 2 (.tmp 52), none⟩,
    ⟨some 54, .loadA 4 true 2 (.tmp 6), none⟩,
    ⟨some 55, .eqA 34 false (.tmp 53) (.tmp 54), none⟩,
    ⟨none, .storeR 8 4 (.tmp 51), none⟩,
    ⟨some 5, .assign (.tmp 55), none⟩])
   .ret) (.seq (.region false [⟨some 57, .bin .eql (.tmp 45) (.const (.int .i64 (2))), none⟩,
    ⟨some 56, .assign (.tmp 57), none⟩])
   (.cond (.tmp 56) (.region false [⟨some 58, .fieldAddr 2 (.tmp 3), none⟩,
    ⟨some 59, .load true 2 (.tmp 58) false, none⟩,
    ⟨some 60, .buildSlice 37 2 1 [(.str []), (.str [])] [(0, (.tmp 59))], none⟩,
    ⟨some 7, .assign (.tmp 60), none⟩]) .skip))))))))
   (.seq (.region false [⟨some 8, .assign (.const (.bool false)), none⟩])
   (.seq (.seq (.region false [⟨some 9, .assign (.const (.int .i64 (0))), none⟩])
   (.block 1 (.loop [8, 2, 6, 7, 9, 5, 4] l63_0)))
   (.seq (.region false [⟨some 81, .load true 8 (.tmp 2) false, none⟩,
    ⟨some 82, .move (.tmp 8) false, none⟩,
    ⟨none, .store 8 (.tmp 4) (.tmp 81), none⟩,
    ⟨some 5, .assign (.tmp 82), none⟩])
   .ret))))))))⟩

def l67_0 : MCode :=
   (.seq (.seq (.region false [⟨some 8, .move (.tmp 7) false, none⟩,
    ⟨some 9, .move (.tmp 0) false, none⟩,
    ⟨some 10, .len 0 (.tmp 9), none⟩,
    ⟨some 11, .bin .lss (.tmp 8) (.tmp 10), none⟩])
   (.cond (.tmp 11) .skip (.exit 0)))
   (.seq (.block 1 (.seq (.seq (.region false [⟨some 14, .move (.tmp 6) false, none⟩,
    ⟨some 15, .un .not (.tmp 14), none⟩,
    ⟨some 16, .move (.tmp 15) false, none⟩,
    ⟨some 17, .move (.tmp 0) false, some (16, true)⟩,
    ⟨some 18, .move (.tmp 7) false, some (16, true)⟩,
    ⟨some 19, .indexAddr 2 (.tmp 17) (.tmp 18), some (16, true)⟩,
    ⟨some 20, .load true 2 (.tmp 19) false, some (16, true)⟩,
    ⟨some 21, .load true 2 (.tmp 3) false, some (16, true)⟩,
    ⟨some 22, .call 101 [(.tmp 20), (.tmp 21)], some (16, true)⟩,
    ⟨some 23, .bin .geq (.tmp 22) (.const (.int .i64 (0))), some (16, true)⟩,
    ⟨some 24, .pick (.tmp 16) (.tmp 23) (.const (.bool false)), none⟩])
   (.cond (.tmp 24) (.seq (.region false [⟨some 25, .move (.tmp 5) true, none⟩,
    ⟨some 26, .load true 2 (.tmp 3) false, none⟩,
    ⟨some 27, .buildSlice 37 2 1 [(.str []), (.str [])] [(0, (.tmp 26))], none⟩,
    ⟨some 28, .append 37 2 32 false (.tmp 25) (.tmp 27), none⟩,
    ⟨some 5, .assign (.tmp 28), none⟩])
   (.region false [⟨some 6, .assign (.const (.bool true)), none⟩])) .skip))
   (.seq (.region false [⟨some 29, .move (.tmp 0) false, none⟩,
    ⟨some 30, .move (.tmp 7) false, none⟩,
    ⟨some 31, .indexAddr 2 (.tmp 29) (.tmp 30), none⟩,
    ⟨some 32, .load true 2 (.tmp 31) false, none⟩,
    ⟨some 33, .load true 2 (.tmp 3) false, none⟩,
    ⟨some 34, .eqA 34 true (.tmp 32) (.tmp 33), none⟩])
   (.cond (.tmp 34) (.region false [⟨some 35, .move (.tmp 5) true, none⟩,
    ⟨some 36, .move (.tmp 0) false, none⟩,
    ⟨some 37, .move (.tmp 7) false, none⟩,
    ⟨some 38, .indexAddr 2 (.tmp 36) (.tmp 37), none⟩,
    ⟨some 39, .load true 2 (.tmp 38) false, none⟩,
    ⟨some 40, .buildSlice 37 2 1 [(.str []), (.str [])] [(0, (.tmp 39))], none⟩,
    ⟨some 41, .append 37 2 32 false (.tmp 35) (.tmp 40), none⟩,
    ⟨some 5, .assign (.tmp 41), none⟩]) .skip))))
   (.region false [⟨some 12, .move (.tmp 7) false, none⟩,
    ⟨some 13, .bin .add (.tmp 12) (.const (.int .i64 (1))), none⟩,
    ⟨some 7, .assign (.tmp 13), none⟩])))

/-- 'chamberlain/chamberlainref05.Put' -/
def m67 : MFunc :=
  ⟨2, 49, [.tmp 4],
   (.seq (.region false [⟨some 3, .box (.tmp 1), none⟩,
    ⟨some 4, .assign (.const (.sl [] (some 37))), none⟩])
   (.seq (.region false [⟨some 5, .assign (.const (.sl [] (some 37))), none⟩])
   (.seq (.region false [⟨some 6, .assign (.const (.bool false)), none⟩])
   (.seq (.seq (.region false [⟨some 7, .assign (.const (.int .i64 (0))), none⟩])
   (.block 0 (.loop [5, 3, 6, 0, 7, 4] l67_0)))
   (.seq (.seq (.region false [⟨some 42, .move (.tmp 6) false, none⟩,
    ⟨some 43, .un .not (.tmp 42), none⟩])
   (.cond (.tmp 43) (.region false [⟨some 44, .move (.tmp 5) true, none⟩,
    ⟨some 45, .load true 2 (.tmp 3) false, none⟩,
    ⟨some 46, .buildSlice 37 2 1 [(.str []), (.str [])] [(0, (.tmp 45))], none⟩,
    ⟨some 47, .append 37 2 32 false (.tmp 44) (.tmp 46), none⟩,
    ⟨some 5, .assign (.tmp 47), none⟩]) .skip))
   (.seq (.region false [⟨some 48, .move (.tmp 5) false, none⟩,
    ⟨some 4, .assign (.tmp 48), none⟩])
   .ret))))))⟩


/-- 'chamberlain/chamberlainref22.typ' -/
def m68 : MFunc :=
  ⟨2, 13, [.tmp 4],
   (.seq (.region false [⟨some 2, .box (.tmp 0), none⟩,
    ⟨some 4, .assign (.const (.str [])), none⟩])
   (.seq (.seq (.region false [⟨some 5, .move (.tmp 1) false, none⟩,
    ⟨some 6, .bin .eql (.tmp 5) (.const (.int .i64 (1))), none⟩])
   (.cond (.tmp 6) (.seq (.region false [⟨some 7, .fieldAddr 2 (.tmp 2), none⟩,
    ⟨some 8, .fieldAddr 0 (.tmp 7), none⟩,
    ⟨some 9, .load false 1 (.tmp 8) false, none⟩,
    ⟨some 4, .assign (.tmp 9), none⟩])
   .ret) .skip))
   (.seq (.region false [⟨some 10, .fieldAddr 2 (.tmp 2), none⟩,
    ⟨some 11, .fieldAddr 2 (.tmp 10), none⟩,
    ⟨some 12, .load false 1 (.tmp 11) false, none⟩,
    ⟨some 4, .assign (.tmp 12), none⟩])
   .ret)))⟩

def l69_0 : MCode :=
   (.seq (.seq (.region false [⟨some 9, .move (.tmp 6) false, none⟩,
    ⟨some 10, .fieldAddr 5 (.tmp 2), none⟩,
    ⟨some 11, .load false 1 (.tmp 10) false, none⟩,
    ⟨some 12, .len 0 (.tmp 11), none⟩,
    ⟨some 13, .bin .lss (.tmp 9) (.tmp 12), none⟩])
   (.cond (.tmp 13) .skip (.exit 0)))
   (.seq (.block 1 (.seq (.region false [⟨some 16, .fieldAddr 5 (.tmp 2), none⟩,
    ⟨some 17, .load false 1 (.tmp 16) false, none⟩,
    ⟨some 18, .move (.tmp 6) false, none⟩,
    ⟨some 19, .indexAddr 7 (.tmp 17) (.tmp 18), none⟩,
    ⟨some 20, .load true 7 (.tmp 19) false, none⟩,
    ⟨some 21, .load true 7 (.tmp 3) false, none⟩,
    ⟨some 22, .eqA 35791398 false (.tmp 20) (.tmp 21), none⟩])
   (.cond (.tmp 22) (.seq (.region false [⟨some 23, .loadA 4 true 8 (.tmp 2), none⟩,
    ⟨some 24, .move (.tmp 6) false, none⟩,
    ⟨some 25, .fieldAddr 6 (.tmp 2), none⟩,
    ⟨some 26, .loadA 4 false 1 (.tmp 25), none⟩,
    ⟨some 27, .len 0 (.tmp 26), none⟩,
    ⟨some 28, .bin .lss (.tmp 24) (.tmp 27), none⟩,
    ⟨some 29, .move (.tmp 28) false, none⟩,
    ⟨some 30, .fieldAddr 6 (.tmp 2), some (29, true)⟩,
    ⟨some 31, .loadA 4 false 1 (.tmp 30), some (29, true)⟩,
    ⟨some 32, .move (.tmp 6) false, some (29, true)⟩,
    ⟨some 33, .indexAddr 1 (.tmp 31) (.tmp 32), some (29, true)⟩,
    ⟨some 34, .loadA 4 false 1 (.tmp 33), some (29, true)⟩,
    ⟨some 35, .pick (.tmp 29) (.tmp 34) (.const (.bool false)), none⟩,
    ⟨none, .storeR 8 4 (.tmp 23), none⟩,
    ⟨some 5, .assign (.tmp 35), none⟩])
   .ret) .skip)))
   (.region false [⟨some 14, .move (.tmp 6) false, none⟩,
    ⟨some 15, .bin .add (.tmp 14) (.const (.int .i64 (1))), none⟩,
    ⟨some 6, .assign (.tmp 15), none⟩])))

/-- 'chamberlain/chamberlainref22.ask' -/
def m69 : MFunc :=
  ⟨2, 61, [.cell 4 true 8, .tmp 5],
   (.seq (.region false [⟨some 2, .box (.tmp 0), none⟩,
    ⟨some 3, .box (.tmp 1), none⟩,
    ⟨some 4, .alloc [(.sl [] (some 26)), (.sl [] (some 29)), (.str []), (.str []), (.str []), (.sl [] (some 99)), (.sl [] (some 4)), (.bool false)], none⟩,
    ⟨some 5, .assign (.const (.bool false)), none⟩])
   (.seq (.seq (.region false [⟨some 6, .assign (.const (.int .i64 (0))), none⟩])
   (.block 0 (.loop [2, 3, 6, 5, 4] l69_0)))
   (.seq (.region false [⟨some 36, .fieldAddr 5 (.tmp 2), none⟩,
    ⟨some 37, .load false 1 (.tmp 36) false, none⟩,
    ⟨some 38, .len 0 (.tmp 37), none⟩,
    ⟨some 7, .assign (.tmp 38), none⟩])
   (.seq (.region false [⟨some 8, .assign (.const (.sl [] (some 99))), none⟩])
   (.seq (.region false [⟨some 39, .move (.tmp 8) true, none⟩,
    ⟨some 40, .fieldAddr 5 (.tmp 2), none⟩,
    ⟨some 41, .load false 1 (.tmp 40) false, none⟩,
    ⟨some 42, .append 99 7 104 false (.tmp 39) (.tmp 41), none⟩,
    ⟨some 8, .assign (.tmp 42), none⟩])
   (.seq (.region false [⟨some 43, .move (.tmp 8) true, none⟩,
    ⟨some 44, .load true 7 (.tmp 3) false, none⟩,
    ⟨some 45, .buildSlice 99 7 1 [(.int .i64 (0)), (.str []), (.str []), (.str []), (.str []), (.str []), (.str [])] [(0, (.tmp 44))], none⟩,
    ⟨some 46, .append 99 7 104 false (.tmp 43) (.tmp 45), none⟩,
    ⟨some 47, .fieldAddr 5 (.tmp 2), none⟩,
    ⟨none, .store 1 (.tmp 47) (.tmp 46), none⟩])
   (.seq (.region false [⟨some 48, .loadA 4 true 8 (.tmp 2), none⟩,
    ⟨some 49, .move (.tmp 7) false, none⟩,
    ⟨some 50, .fieldAddr 6 (.tmp 2), none⟩,
    ⟨some 51, .loadA 4 false 1 (.tmp 50), none⟩,
    ⟨some 52, .len 0 (.tmp 51), none⟩,
    ⟨some 53, .bin .lss (.tmp 49) (.tmp 52), none⟩,
    ⟨some 54, .move (.tmp 53) false, none⟩,
    ⟨some 55, .fieldAddr 6 (.tmp 2), some (54, true)⟩,
    ⟨some 56, .loadA 4 false 1 (.tmp 55), some (54, true)⟩,
    ⟨some 57, .move (.tmp 7) false, some (54, true)⟩,
    ⟨some 58, .indexAddr 1 (.tmp 56) (.tmp 57), some (54, true)⟩,
    ⟨some 59, .loadA 4 false 1 (.tmp 58), some (54, true)⟩,
    ⟨some 60, .pick (.tmp 54) (.tmp 59) (.const (.bool false)), none⟩,
    ⟨none, .storeR 8 4 (.tmp 48), none⟩,
    ⟨some 5, .assign (.tmp 60), none⟩])
   .ret)))))))⟩


/-- 'chamberlain/chamberlainref22.above' -/
def m70 : MFunc :=
  ⟨3, 12, [.tmp 6],
   (.seq (.region false [⟨some 3, .box (.tmp 0), none⟩,
    ⟨some 6, .assign (.const (.bool false)), none⟩])
   (.seq (.region false [⟨some 7, .fieldAddr 0 (.tmp 3), none⟩,
    ⟨some 8, .load true 2 (.tmp 7) false, none⟩,
    ⟨some 9, .move (.tmp 1) false, none⟩,
    ⟨some 10, .move (.tmp 2) false, none⟩,
    ⟨some 11, .call 102 [(.tmp 8), (.const (.bool false)), (.tmp 9), (.tmp 10)], none⟩,
    ⟨some 6, .assign (.tmp 11), none⟩])
   .ret))⟩

def l72_0 : MCode :=
   (.seq (.region false [⟨some 9, .bin .lss (.tmp 8) (.tmp 7), none⟩])
   (.seq (.cond (.tmp 9) .skip (.exit 0))
   (.seq (.block 1 (.seq (.region false [⟨some 10, .move (.tmp 8) false, none⟩,
    ⟨some 5, .assign (.tmp 10), none⟩])
   (.seq (.region false [⟨some 11, .move (.tmp 1) false, none⟩,
    ⟨some 12, .move (.tmp 0) false, none⟩,
    ⟨some 13, .move (.tmp 5) false, none⟩,
    ⟨some 14, .indexAddr 3 (.tmp 12) (.tmp 13), none⟩,
    ⟨some 15, .load true 3 (.tmp 14) false, none⟩,
    ⟨some 16, .callv (.tmp 11) [(.tmp 15)], none⟩])
   (.cond (.tmp 16) (.seq (.region false [⟨some 17, .move (.tmp 5) false, none⟩,
    ⟨some 4, .assign (.tmp 17), none⟩])
   .ret) .skip))))
   (.region false [⟨some 18, .bin .add (.tmp 8) (.const (.int .i64 (1))), none⟩,
    ⟨some 8, .move (.tmp 18) false, none⟩]))))

/-- 'slices.IndexFunc[[]chamberlain/logic.F,chamberlain/logic.F]' -/
def m72 : MFunc :=
  ⟨2, 19, [.tmp 4],
   (.seq (.region false [⟨some 4, .assign (.const (.int .i64 (0))), none⟩])
   (.seq (.seq (.region false [⟨some 6, .move (.tmp 0) false, none⟩,
    ⟨some 7, .len 0 (.tmp 6), none⟩,
    ⟨some 8, .move (.const (.int .i64 (0))) false, none⟩])
   (.block 0 (.loop [1, 0, 8, 7, 4] l72_0)))
   (.seq (.region false [⟨some 4, .assign (.const (.int .i64 (-1))), none⟩])
   .ret)))⟩

def l74_0 : MCode :=
   (.seq (.region false [⟨some 9, .bin .lss (.tmp 8) (.tmp 7), none⟩])
   (.seq (.cond (.tmp 9) .skip (.exit 0))
   (.seq (.block 1 (.seq (.region false [⟨some 10, .move (.tmp 8) false, none⟩,
    ⟨some 5, .assign (.tmp 10), none⟩])
   (.seq (.region false [⟨some 11, .move (.tmp 1) false, none⟩,
    ⟨some 12, .move (.tmp 0) false, none⟩,
    ⟨some 13, .move (.tmp 5) false, none⟩,
    ⟨some 14, .indexAddr 5 (.tmp 12) (.tmp 13), none⟩,
    ⟨some 15, .load true 5 (.tmp 14) false, none⟩,
    ⟨some 16, .callv (.tmp 11) [(.tmp 15)], none⟩])
   (.cond (.tmp 16) (.seq (.region false [⟨some 17, .move (.tmp 5) false, none⟩,
    ⟨some 4, .assign (.tmp 17), none⟩])
   .ret) .skip))))
   (.region false [⟨some 18, .bin .add (.tmp 8) (.const (.int .i64 (1))), none⟩,
    ⟨some 8, .move (.tmp 18) false, none⟩]))))

/-- 'slices.IndexFunc[[]chamberlain/api.ActionType,chamberlain/api.ActionType]' -/
def m74 : MFunc :=
  ⟨2, 19, [.tmp 4],
   (.seq (.region false [⟨some 4, .assign (.const (.int .i64 (0))), none⟩])
   (.seq (.seq (.region false [⟨some 6, .move (.tmp 0) false, none⟩,
    ⟨some 7, .len 0 (.tmp 6), none⟩,
    ⟨some 8, .move (.const (.int .i64 (0))) false, none⟩])
   (.block 0 (.loop [1, 0, 8, 7, 4] l74_0)))
   (.seq (.region false [⟨some 4, .assign (.const (.int .i64 (-1))), none⟩])
   .ret)))⟩


/-- 'chamberlain/schema.Action$1' -/
def m75 : MFunc :=
  ⟨2, 8, [.tmp 3],
   (.seq (.region false [⟨some 2, .box (.tmp 0), none⟩,
    ⟨some 3, .assign (.const (.bool false)), none⟩])
   (.seq (.region false [⟨some 4, .fieldAddr 0 (.tmp 2), none⟩,
    ⟨some 5, .load false 1 (.tmp 4) false, none⟩,
    ⟨some 6, .load false 1 (.tmp 1) false, none⟩,
    ⟨some 7, .bin .eql (.tmp 5) (.tmp 6), none⟩,
    ⟨some 3, .assign (.tmp 7), none⟩])
   .ret))⟩

def l76_0 : MCode :=
   (.seq (.region false [⟨some 10, .bin .lss (.tmp 9) (.tmp 8), none⟩])
   (.seq (.cond (.tmp 10) .skip (.exit 0))
   (.seq (.block 1 (.seq (.region false [⟨some 11, .indexAddr 6 (.tmp 7) (.tmp 9), none⟩,
    ⟨some 12, .load true 6 (.tmp 11) false, none⟩,
    ⟨some 5, .alloc [(.str []), (.int .i64 (0)), (.str []), (.sl [] (some 113)), (.sl [] (some 115)), (.bool false)], none⟩,
    ⟨none, .store 6 (.tmp 5) (.tmp 12), none⟩])
   (.seq (.region false [⟨some 13, .fieldAddr 5 (.tmp 5), none⟩,
    ⟨some 14, .load false 1 (.tmp 13) false, none⟩,
    ⟨some 15, .un .not (.tmp 14), none⟩])
   (.cond (.tmp 15) (.regionA [⟨some 16, .fieldAddr 7 (.tmp 3), none⟩,
    ⟨some 17, .load false 1 (.tmp 16) true, none⟩,
    ⟨some 18, .fieldAddr 0 (.tmp 5), none⟩,
    ⟨some 19, .load false 1 (.tmp 18) false, none⟩,
    ⟨some 20, .buildSlice 9 1 1 [(.str [])] [(0, (.tmp 19))], none⟩,
    ⟨some 21, .append 9 1 16 false (.tmp 17) (.tmp 20), none⟩,
    ⟨some 22, .fieldAddr 6 (.tmp 3), none⟩,
    ⟨some 23, .load false 1 (.tmp 22) true, none⟩,
    ⟨some 24, .fieldAddr 1 (.tmp 5), none⟩,
    ⟨some 25, .load true 4 (.tmp 24) false, none⟩,
    ⟨some 26, .call 39 [(.tmp 25)], none⟩,
    ⟨some 27, .buildSlice 69 8 1 [(.int .i64 (0)), (.bool false), (.int .i64 (0)), (.str []), (.str []), (.str []), (.sl [] (some 69)), (.sl [] (some 9))] [(0, (.tmp 26))], none⟩,
    ⟨some 28, .append 69 8 120 false (.tmp 23) (.tmp 27), none⟩,
    ⟨some 29, .fieldAddr 7 (.tmp 3), none⟩,
    ⟨none, .store 1 (.tmp 29) (.tmp 21), none⟩,
    ⟨some 30, .fieldAddr 6 (.tmp 3), none⟩,
    ⟨none, .store 1 (.tmp 30) (.tmp 28), none⟩] [[], [0], [], [2], [3], [1, 4], [], [6], [], [8], [9, 5], [10], [7, 11, 10], [0, 1, 2, 3, 4, 5, 6, 7], [13, 5, 12, 0, 1, 2, 3, 4, 5, 6, 7], [0, 1, 2, 3, 4, 5, 6, 7, 8, 9, 10, 11, 12, 13, 14], [15, 12, 14, 0, 1, 2, 3, 4, 5, 6, 7, 8, 9, 10, 11, 12, 13, 14]]) .skip))))
   (.region false [⟨some 31, .bin .add (.tmp 9) (.const (.int .i64 (1))), none⟩,
    ⟨some 9, .move (.tmp 31) false, none⟩]))))

/-- 'chamberlain/theory.filled' -/
def m76 : MFunc :=
  ⟨1, 33, [.cell 2 true 8],
   (.seq (.region false [⟨some 2, .alloc [(.int .i64 (0)), (.bool false), (.int .i64 (0)), (.str []), (.str []), (.str []), (.sl [] (some 69)), (.sl [] (some 9))], none⟩])
   (.seq (.region false [⟨some 6, .build [(.int .i64 (0)), (.bool false), (.int .i64 (0)), (.str []), (.str []), (.str []), (.nils 69), (.nils 9)] [(0, 1, (.const (.int .i64 (6))))], none⟩,
    ⟨some 3, .alloc [(.int .i64 (0)), (.bool false), (.int .i64 (0)), (.str []), (.str []), (.str []), (.sl [] (some 69)), (.sl [] (some 9))], none⟩,
    ⟨none, .store 8 (.tmp 3) (.tmp 6), none⟩])
   (.seq (.seq (.region false [⟨some 7, .move (.tmp 0) false, none⟩,
    ⟨some 8, .len 0 (.tmp 7), none⟩,
    ⟨some 9, .move (.const (.int .i64 (0))) false, none⟩])
   (.block 0 (.loop [3, 7, 9, 8, 2] l76_0)))
   (.seq (.region false [⟨some 32, .load true 8 (.tmp 3) false, none⟩,
    ⟨none, .store 8 (.tmp 2) (.tmp 32), none⟩])
   .ret))))⟩


/-- 'chamberlain/schema.Type' -/
def m77 : MFunc :=
  ⟨2, 19, [.cell 4 true 3, .tmp 5],
   (.seq (.region false [⟨some 2, .box (.tmp 0), none⟩,
    ⟨some 3, .box (.tmp 1), none⟩,
    ⟨some 4, .alloc [(.str []), (.sl [] (some 9)), (.sl [] (some 115))], none⟩,
    ⟨some 5, .assign (.const (.bool false)), none⟩])
   (.seq (.region false [⟨some 7, .fieldAddr 0 (.tmp 2), none⟩,
    ⟨some 8, .load false 1 (.tmp 7) false, none⟩,
    ⟨some 9, .mkfunc 110 [(.tmp 3)], none⟩,
    ⟨some 10, .call 109 [(.tmp 8), (.tmp 9)], none⟩,
    ⟨some 6, .assign (.tmp 10), none⟩])
   (.seq (.seq (.region false [⟨some 11, .move (.tmp 6) false, none⟩,
    ⟨some 12, .bin .lss (.tmp 11) (.const (.int .i64 (0))), none⟩])
   (.cond (.tmp 12) (.seq (.region false [⟨some 13, .build [(.str []), (.nils 9), (.nils 115)] [], none⟩,
    ⟨none, .store 3 (.tmp 4) (.tmp 13), none⟩,
    ⟨some 5, .assign (.const (.bool false)), none⟩])
   .ret) .skip))
   (.seq (.region false [⟨some 14, .fieldAddr 0 (.tmp 2), none⟩,
    ⟨some 15, .load false 1 (.tmp 14) false, none⟩,
    ⟨some 16, .move (.tmp 6) false, none⟩,
    ⟨some 17, .indexAddr 3 (.tmp 15) (.tmp 16), none⟩,
    ⟨some 18, .load true 3 (.tmp 17) false, none⟩,
    ⟨none, .store 3 (.tmp 4) (.tmp 18), none⟩,
    ⟨some 5, .assign (.const (.bool true)), none⟩])
   .ret))))⟩

def l79_0 : MCode :=
   (.block 1 (.seq (.region false [⟨some 21, .move (.tmp 2) false, none⟩,
    ⟨some 22, .move (.tmp 1) false, none⟩,
    ⟨some 23, .bin .sub (.tmp 21) (.tmp 22), none⟩,
    ⟨some 12, .assign (.tmp 23), none⟩])
   (.seq (.seq (.region false [⟨some 24, .move (.tmp 12) false, none⟩,
    ⟨some 25, .bin .leq (.tmp 24) (.const (.int .i64 (12))), none⟩])
   (.cond (.tmp 25) (.seq (.region false [⟨some 26, .move (.tmp 0) false, none⟩,
    ⟨some 27, .move (.tmp 1) false, none⟩,
    ⟨some 28, .move (.tmp 2) false, none⟩,
    ⟨some 29, .move (.tmp 4) false, none⟩,
    ⟨some 30, .call 112 [(.tmp 26), (.tmp 27), (.tmp 28), (.tmp 29)], none⟩])
   .ret) .skip))
   (.seq (.seq (.region false [⟨some 31, .move (.tmp 3) false, none⟩,
    ⟨some 32, .bin .eql (.tmp 31) (.const (.int .i64 (0))), none⟩])
   (.cond (.tmp 32) (.seq (.region false [⟨some 33, .move (.tmp 0) false, none⟩,
    ⟨some 34, .move (.tmp 1) false, none⟩,
    ⟨some 35, .move (.tmp 2) false, none⟩,
    ⟨some 36, .move (.tmp 4) false, none⟩,
    ⟨some 37, .call 113 [(.tmp 33), (.tmp 34), (.tmp 35), (.tmp 36)], none⟩])
   .ret) .skip))
   (.seq (.seq (.region false [⟨some 38, .move (.tmp 10) false, none⟩,
    ⟨some 39, .un .not (.tmp 38), none⟩])
   (.cond (.tmp 39) (.seq (.region false [⟨some 40, .move (.tmp 0) false, none⟩,
    ⟨some 41, .move (.tmp 1) false, none⟩,
    ⟨some 42, .move (.tmp 2) false, none⟩,
    ⟨some 43, .move (.tmp 4) false, none⟩,
    ⟨some 44, .call 114 [(.tmp 40), (.tmp 41), (.tmp 42), (.tmp 43)], none⟩])
   (.region false [⟨some 45, .move (.tmp 3) false, none⟩,
    ⟨some 46, .bin .sub (.tmp 45) (.const (.int .i64 (1))), none⟩,
    ⟨some 3, .assign (.tmp 46), none⟩])) .skip))
   (.seq (.region false [⟨some 48, .move (.tmp 0) false, none⟩,
    ⟨some 49, .move (.tmp 1) false, none⟩,
    ⟨some 50, .move (.tmp 2) false, none⟩,
    ⟨some 51, .move (.tmp 4) false, none⟩,
    ⟨some 52, .call 115 [(.tmp 48), (.tmp 49), (.tmp 50), (.tmp 51)], none⟩,
    ⟨some 47, .move (.tmp 52) false, none⟩,
    ⟨some 53, .extract (.tmp 47) 0, none⟩,
    ⟨some 54, .extract (.tmp 47) 1, none⟩,
    ⟨some 13, .assign (.tmp 53), none⟩,
    ⟨some 14, .assign (.tmp 54), none⟩])
   (.seq (.seq (.region false [⟨some 55, .move (.tmp 14) false, none⟩,
    ⟨some 56, .bin .eql (.tmp 55) (.const (.int .i64 (2))), none⟩])
   (.cond (.tmp 56) (.seq (.region false [⟨some 57, .move (.tmp 0) false, none⟩,
    ⟨some 58, .move (.tmp 1) false, none⟩,
    ⟨some 59, .move (.tmp 2) false, none⟩,
    ⟨some 60, .move (.tmp 4) false, none⟩,
    ⟨some 61, .call 116 [(.tmp 57), (.tmp 58), (.tmp 59), (.tmp 60)], none⟩])
   (.seq (.region false [⟨some 62, .move (.tmp 2) false, none⟩,
    ⟨some 63, .bin .sub (.tmp 62) (.const (.int .i64 (1))), none⟩,
    ⟨some 64, .move (.tmp 13) false, none⟩,
    ⟨some 65, .move (.tmp 1) false, none⟩,
    ⟨some 66, .bin .sub (.tmp 64) (.tmp 65), none⟩,
    ⟨some 67, .bin .sub (.tmp 63) (.tmp 66), none⟩,
    ⟨some 13, .assign (.tmp 67), none⟩])
   (.region false [⟨some 14, .assign (.const (.int .i64 (1))), none⟩]))) .skip))
   (.seq (.seq (.region false [⟨some 68, .move (.tmp 10) false, none⟩,
    ⟨some 69, .move (.tmp 68) false, none⟩,
    ⟨some 70, .move (.tmp 11) false, some (69, true)⟩,
    ⟨some 71, .pick (.tmp 69) (.tmp 70) (.const (.bool false)), none⟩,
    ⟨some 72, .move (.tmp 71) false, none⟩,
    ⟨some 73, .move (.tmp 14) false, some (72, true)⟩,
    ⟨some 74, .bin .eql (.tmp 73) (.const (.int .i64 (1))), some (72, true)⟩,
    ⟨some 75, .pick (.tmp 72) (.tmp 74) (.const (.bool false)), none⟩])
   (.cond (.tmp 75) (.seq (.region false [⟨some 76, .move (.tmp 0) false, none⟩,
    ⟨some 77, .move (.tmp 1) false, none⟩,
    ⟨some 78, .move (.tmp 2) false, none⟩,
    ⟨some 79, .move (.tmp 4) false, none⟩,
    ⟨some 80, .call 117 [(.tmp 76), (.tmp 77), (.tmp 78), (.tmp 79)], none⟩])
   (.cond (.tmp 80) .ret .skip)) .skip))
   (.seq (.seq (.region false [⟨some 81, .move (.tmp 1) false, none⟩,
    ⟨some 82, .bin .gtr (.tmp 81) (.const (.int .i64 (0))), none⟩,
    ⟨some 83, .move (.tmp 82) false, none⟩,
    ⟨some 84, .move (.tmp 4) false, some (83, true)⟩,
    ⟨some 85, .move (.tmp 0) false, some (83, true)⟩,
    ⟨some 86, .move (.tmp 1) false, some (83, true)⟩,
    ⟨some 87, .bin .sub (.tmp 86) (.const (.int .i64 (1))), some (83, true)⟩,
    ⟨some 88, .indexAddr 11 (.tmp 85) (.tmp 87), some (83, true)⟩,
    ⟨some 89, .load true 11 (.tmp 88) false, some (83, true)⟩,
    ⟨some 90, .move (.tmp 0) false, some (83, true)⟩,
    ⟨some 91, .move (.tmp 13) false, some (83, true)⟩,
    ⟨some 92, .indexAddr 11 (.tmp 90) (.tmp 91), some (83, true)⟩,
    ⟨some 93, .load true 11 (.tmp 92) false, some (83, true)⟩,
    ⟨some 94, .callv (.tmp 84) [(.tmp 89), (.tmp 93)], some (83, true)⟩,
    ⟨some 95, .bin .lss (.tmp 94) (.const (.int .i64 (0))), some (83, true)⟩,
    ⟨some 96, .un .not (.tmp 95), some (83, true)⟩,
    ⟨some 97, .pick (.tmp 83) (.tmp 96) (.const (.bool false)), none⟩])
   (.cond (.tmp 97) (.seq (.region false [⟨some 98, .move (.tmp 0) false, none⟩,
    ⟨some 99, .move (.tmp 1) false, none⟩,
    ⟨some 100, .move (.tmp 2) false, none⟩,
    ⟨some 101, .move (.tmp 13) false, none⟩,
    ⟨some 102, .move (.tmp 4) false, none⟩,
    ⟨some 103, .call 118 [(.tmp 98), (.tmp 99), (.tmp 100), (.tmp 101), (.tmp 102)], none⟩,
    ⟨some 15, .assign (.tmp 103), none⟩])
   (.seq (.region false [⟨some 104, .move (.tmp 15) false, none⟩,
    ⟨some 1, .assign (.tmp 104), none⟩])
   (.exit 1))) .skip))
   (.seq (.region false [⟨some 106, .move (.tmp 0) false, none⟩,
    ⟨some 107, .move (.tmp 1) false, none⟩,
    ⟨some 108, .move (.tmp 2) false, none⟩,
    ⟨some 109, .move (.tmp 13) false, none⟩,
    ⟨some 110, .move (.tmp 4) false, none⟩,
    ⟨some 111, .call 119 [(.tmp 106), (.tmp 107), (.tmp 108), (.tmp 109), (.tmp 110)], none⟩,
    ⟨some 105, .move (.tmp 111) false, none⟩,
    ⟨some 112, .extract (.tmp 105) 0, none⟩,
    ⟨some 113, .extract (.tmp 105) 1, none⟩,
    ⟨some 16, .assign (.tmp 112), none⟩,
    ⟨some 17, .assign (.tmp 113), none⟩])
   (.seq (.region false [⟨some 114, .move (.tmp 17) false, none⟩,
    ⟨some 11, .assign (.tmp 114), none⟩])
   (.seq (.region false [⟨some 115, .move (.tmp 16) false, none⟩,
    ⟨some 116, .move (.tmp 1) false, none⟩,
    ⟨some 117, .bin .sub (.tmp 115) (.tmp 116), none⟩,
    ⟨some 118, .move (.tmp 2) false, none⟩,
    ⟨some 119, .move (.tmp 16) false, none⟩,
    ⟨some 120, .bin .sub (.tmp 118) (.tmp 119), none⟩,
    ⟨some 18, .assign (.tmp 117), none⟩,
    ⟨some 19, .assign (.tmp 120), none⟩])
   (.seq (.region false [⟨some 121, .move (.tmp 12) false, none⟩,
    ⟨some 122, .bin .quo (.tmp 121) (.const (.int .i64 (8))), none⟩,
    ⟨some 20, .assign (.tmp 122), none⟩])
   (.seq (.region false [⟨some 123, .move (.tmp 18) false, none⟩,
    ⟨some 124, .move (.tmp 19) false, none⟩,
    ⟨some 125, .bin .lss (.tmp 123) (.tmp 124), none⟩])
   (.cond (.tmp 125) (.seq (.region false [⟨some 126, .move (.tmp 18) false, none⟩,
    ⟨some 127, .move (.tmp 20) false, none⟩,
    ⟨some 128, .bin .geq (.tmp 126) (.tmp 127), none⟩,
    ⟨some 10, .assign (.tmp 128), none⟩])
   (.seq (.region false [⟨some 129, .move (.tmp 0) false, none⟩,
    ⟨some 130, .move (.tmp 1) false, none⟩,
    ⟨some 131, .move (.tmp 16) false, none⟩,
    ⟨some 132, .move (.tmp 3) false, none⟩,
    ⟨some 133, .move (.tmp 4) false, none⟩,
    ⟨some 134, .call 79 [(.tmp 129), (.tmp 130), (.tmp 131), (.tmp 132), (.tmp 133)], none⟩])
   (.region false [⟨some 135, .move (.tmp 16) false, none⟩,
    ⟨some 136, .bin .add (.tmp 135) (.const (.int .i64 (1))), none⟩,
    ⟨some 1, .assign (.tmp 136), none⟩]))) (.seq (.region false [⟨some 137, .move (.tmp 19) false, none⟩,
    ⟨some 138, .move (.tmp 20) false, none⟩,
    ⟨some 139, .bin .geq (.tmp 137) (.tmp 138), none⟩,
    ⟨some 10, .assign (.tmp 139), none⟩])
   (.seq (.region false [⟨some 140, .move (.tmp 0) false, none⟩,
    ⟨some 141, .move (.tmp 16) false, none⟩,
    ⟨some 142, .bin .add (.tmp 141) (.const (.int .i64 (1))), none⟩,
    ⟨some 143, .move (.tmp 2) false, none⟩,
    ⟨some 144, .move (.tmp 3) false, none⟩,
    ⟨some 145, .move (.tmp 4) false, none⟩,
    ⟨some 146, .call 79 [(.tmp 140), (.tmp 142), (.tmp 143), (.tmp 144), (.tmp 145)], none⟩])
   (.region false [⟨some 147, .move (.tmp 16) false, none⟩,
    ⟨some 2, .assign (.tmp 147), none⟩]))))))))))))))))))

/-- 'slices.pdqsortCmpFunc[chamberlain/api.Entity]' -/
def m79 : MFunc :=
  ⟨5, 148, [],
   (.seq (.region false [⟨some 10, .assign (.const (.bool true)), none⟩])
   (.seq (.region false [⟨some 11, .assign (.const (.bool true)), none⟩])
   (.block 0 (.loop [4, 3, 2, 0, 1, 11, 10] l79_0))))⟩


/-- 'math/bits.Len' -/
def m80 : MFunc :=
  ⟨1, 8, [.tmp 2],
   (.seq (.region false [⟨some 2, .assign (.const (.int .i64 (0))), none⟩])
   (.seq (.cond (.const (.bool false)) (.seq (.region false [⟨some 3, .move (.tmp 0) false, none⟩,
    ⟨some 4, .conv .u32 (.tmp 3), none⟩,
    ⟨some 5, .call 120 [(.tmp 4)], none⟩,
    ⟨some 2, .assign (.tmp 5), none⟩])
   .ret) .skip)
   (.seq (.region false [⟨some 6, .move (.tmp 0) false, none⟩,
    ⟨some 7, .call 121 [(.tmp 6)], none⟩,
    ⟨some 2, .assign (.tmp 7), none⟩])
   .ret)))⟩

def l81_0 : MCode :=
   (.seq (.region false [⟨some 9, .bin .lss (.tmp 8) (.tmp 7), none⟩])
   (.seq (.cond (.tmp 9) .skip (.exit 0))
   (.seq (.block 1 (.seq (.region false [⟨some 10, .indexAddr 1 (.tmp 6) (.tmp 8), none⟩,
    ⟨some 11, .load false 1 (.tmp 10) false, none⟩,
    ⟨some 5, .assign (.tmp 11), none⟩])
   (.seq (.region false [⟨some 12, .move (.tmp 5) false, none⟩,
    ⟨some 13, .move (.tmp 3) false, none⟩,
    ⟨some 14, .bin .neq (.tmp 12) (.tmp 13), none⟩])
   (.cond (.tmp 14) (.seq (.region false [⟨some 15, .move (.tmp 5) false, none⟩,
    ⟨some 2, .assign (.tmp 15), none⟩])
   .ret) .skip))))
   (.region false [⟨some 16, .bin .add (.tmp 8) (.const (.int .i64 (1))), none⟩,
    ⟨some 8, .move (.tmp 16) false, none⟩]))))

/-- 'cmp.Or[int]' -/
def m81 : MFunc :=
  ⟨1, 18, [.tmp 2],
   (.seq (.region false [⟨some 2, .assign (.const (.int .i64 (0))), none⟩])
   (.seq (.region false [⟨some 3, .assign (.const (.int .i64 (0))), none⟩])
   (.seq (.seq (.region false [⟨some 6, .move (.tmp 0) false, none⟩,
    ⟨some 7, .len 0 (.tmp 6), none⟩,
    ⟨some 8, .move (.const (.int .i64 (0))) false, none⟩])
   (.block 0 (.loop [3, 6, 8, 7, 2] l81_0)))
   (.seq (.region false [⟨some 17, .move (.tmp 3) false, none⟩,
    ⟨some 2, .assign (.tmp 17), none⟩])
   .ret))))⟩


/-- 'cmp.Compare[string]' -/
def m82 : MFunc :=
  ⟨2, 20, [.tmp 4],
   (.seq (.region false [⟨some 4, .assign (.const (.int .i64 (0))), none⟩])
   (.seq (.region false [⟨some 7, .move (.tmp 0) false, none⟩,
    ⟨some 8, .call 122 [(.tmp 7)], none⟩,
    ⟨some 5, .assign (.tmp 8), none⟩])
   (.seq (.region false [⟨some 9, .move (.tmp 1) false, none⟩,
    ⟨some 10, .call 122 [(.tmp 9)], none⟩,
    ⟨some 6, .assign (.tmp 10), none⟩])
   (.seq (.seq (.region false [⟨some 11, .move (.tmp 5) false, none⟩])
   (.cond (.tmp 11) (.seq (.seq (.region false [⟨some 12, .move (.tmp 6) false, none⟩])
   (.cond (.tmp 12) (.seq (.region false [⟨some 4, .assign (.const (.int .i64 (0))), none⟩])
   .ret) .skip))
   (.seq (.region false [⟨some 4, .assign (.const (.int .i64 (-1))), none⟩])
   .ret)) .skip))
   (.seq (.seq (.region false [⟨some 13, .move (.tmp 6) false, none⟩])
   (.cond (.tmp 13) (.seq (.region false [⟨some 4, .assign (.const (.int .i64 (1))), none⟩])
   .ret) .skip))
   (.seq (.seq (.region false [⟨some 14, .move (.tmp 0) false, none⟩,
    ⟨some 15, .move (.tmp 1) false, none⟩,
    ⟨some 16, .bin .lss (.tmp 14) (.tmp 15), none⟩])
   (.cond (.tmp 16) (.seq (.region false [⟨some 4, .assign (.const (.int .i64 (-1))), none⟩])
   .ret) .skip))
   (.seq (.seq (.region false [⟨some 17, .move (.tmp 0) false, none⟩,
    ⟨some 18, .move (.tmp 1) false, none⟩,
    ⟨some 19, .bin .gtr (.tmp 17) (.tmp 18), none⟩])
   (.cond (.tmp 19) (.seq (.region false [⟨some 4, .assign (.const (.int .i64 (1))), none⟩])
   .ret) .skip))
   (.seq (.region false [⟨some 4, .assign (.const (.int .i64 (0))), none⟩])
   .ret))))))))⟩

def l83_0 : MCode :=
   (.seq (.region false [⟨some 27, .bin .lss (.tmp 26) (.tmp 25), none⟩])
   (.seq (.cond (.tmp 27) .skip (.exit 1))
   (.seq (.block 2 (.seq (.region false [⟨some 28, .indexAddr 11 (.tmp 24) (.tmp 26), none⟩,
    ⟨some 29, .load true 11 (.tmp 28) false, none⟩,
    ⟨some 7, .alloc [(.str []), (.str []), (.sl [] (some 37)), (.int .i64 (0)), (.bool false), (.int .i64 (0)), (.str []), (.str []), (.str []), (.sl [] (some 69)), (.sl [] (some 9))], none⟩,
    ⟨none, .store 11 (.tmp 7) (.tmp 29), none⟩])
   (.seq (.seq (.region false [⟨some 30, .fieldAddr 3 (.tmp 7), none⟩,
    ⟨some 31, .fieldAddr 0 (.tmp 30), none⟩,
    ⟨some 32, .load false 1 (.tmp 31) false, none⟩,
    ⟨some 33, .bin .neq (.tmp 32) (.const (.int .i64 (6))), none⟩])
   (.cond (.tmp 33) (.seq (.region false [⟨some 2, .assign (.const (.sl [] (some 123))), none⟩,
    ⟨some 3, .assign (.const (.int .i64 (1))), none⟩])
   .ret) .skip))
   (.seq (.region false [⟨some 35, .fieldAddr 3 (.tmp 7), none⟩,
    ⟨some 36, .load true 8 (.tmp 35) false, none⟩,
    ⟨some 37, .call 124 [(.tmp 36)], none⟩,
    ⟨some 34, .move (.tmp 37) false, none⟩,
    ⟨some 38, .extract (.tmp 34) 0, none⟩,
    ⟨some 39, .extract (.tmp 34) 1, none⟩,
    ⟨some 8, .alloc [(.int .i64 (0)), (.bool false), (.int .i64 (0)), (.str []), (.str []), (.str []), (.sl [] (some 69)), (.sl [] (some 9))], none⟩,
    ⟨none, .store 8 (.tmp 8) (.tmp 38), none⟩,
    ⟨some 9, .assign (.tmp 39), none⟩])
   (.seq (.seq (.region false [⟨some 40, .move (.tmp 9) false, none⟩,
    ⟨some 41, .bin .neq (.tmp 40) (.const (.int .i64 (0))), none⟩])
   (.cond (.tmp 41) (.seq (.region false [⟨some 42, .move (.tmp 9) false, none⟩,
    ⟨some 2, .assign (.const (.sl [] (some 123))), none⟩,
    ⟨some 3, .assign (.tmp 42), none⟩])
   .ret) .skip))
   (.seq (.region false [⟨some 43, .mkfunc 125 [(.tmp 4)], none⟩,
    ⟨some 10, .assign (.tmp 43), none⟩])
   (.seq (.seq (.region false [⟨some 44, .fieldAddr 2 (.tmp 7), none⟩,
    ⟨some 45, .load false 1 (.tmp 44) false, none⟩,
    ⟨some 46, .move (.tmp 10) false, none⟩,
    ⟨some 47, .call 126 [(.tmp 45), (.tmp 46)], none⟩])
   (.cond (.tmp 47) (.seq (.region false [⟨some 2, .assign (.const (.sl [] (some 123))), none⟩,
    ⟨some 3, .assign (.const (.int .i64 (20))), none⟩])
   .ret) .skip))
   (.seq (.region false [⟨some 48, .fieldAddr 2 (.tmp 7), none⟩,
    ⟨some 49, .load false 1 (.tmp 48) false, none⟩,
    ⟨some 50, .callM 127 [(.tmp 49)], none⟩,
    ⟨some 11, .assign (.tmp 50), none⟩])
   (.seq (.region false [⟨some 51, .move (.tmp 11) false, none⟩,
    ⟨some 52, .call 55 [(.tmp 51), (.const (.func 46 []))], none⟩])
   (.regionA [⟨some 53, .move (.tmp 5) true, none⟩,
    ⟨some 54, .fieldAddr 0 (.tmp 7), none⟩,
    ⟨some 55, .load true 2 (.tmp 54) false, none⟩,
    ⟨some 56, .move (.tmp 11) false, none⟩,
    ⟨some 57, .callM 56 [(.tmp 56)], none⟩,
    ⟨some 58, .load true 8 (.tmp 8) false, none⟩,
    ⟨some 59, .build [(.str []), (.str []), (.nils 37), (.int .i64 (0)), (.bool false), (.int .i64 (0)), (.str []), (.str []), (.str []), (.nils 69), (.nils 9)] [(0, 2, (.tmp 55)), (2, 1, (.tmp 57)), (3, 8, (.tmp 58))], none⟩,
    ⟨some 60, .buildSlice 123 11 1 [(.str []), (.str []), (.sl [] (some 37)), (.int .i64 (0)), (.bool false), (.int .i64 (0)), (.str []), (.str []), (.str []), (.sl [] (some 69)), (.sl [] (some 9))] [(0, (.tmp 59))], none⟩,
    ⟨some 61, .append 123 11 176 true (.tmp 53) (.tmp 60), none⟩,
    ⟨some 5, .assign (.tmp 61), none⟩] [[], [], [1], [], [3], [], [2, 4, 5], [6], [0, 7, 4], [8, 8, 0, 1, 2, 3, 4, 5, 6, 7, 8]]))))))))))
   (.region false [⟨some 62, .bin .add (.tmp 26) (.const (.int .i64 (1))), none⟩,
    ⟨some 26, .move (.tmp 62) false, none⟩]))))

/-- 'chamberlain/entity.Canon' -/
def m83 : MFunc :=
  ⟨1, 68, [.tmp 2, .tmp 3],
   (.seq (.region false [⟨some 2, .assign (.const (.sl [] (some 123))), none⟩,
    ⟨some 3, .assign (.const (.int .i64 (0))), none⟩])
   (.seq (.region false [⟨some 12, .move (.tmp 0) false, none⟩,
    ⟨some 13, .call 123 [(.tmp 12)], none⟩,
    ⟨some 4, .alloc [.nilm], none⟩,
    ⟨none, .store 1 (.tmp 4) (.tmp 13), none⟩])
   (.seq (.block 0 (.seq (.region false [⟨some 15, .move (.tmp 0) false, none⟩,
    ⟨some 16, .len 0 (.tmp 15), none⟩,
    ⟨some 17, .bin .gtr (.tmp 16) (.const (.int .i64 (4096))), none⟩,
    ⟨some 14, .assign (.tmp 17), none⟩])
   (.cond (.tmp 14) (.seq (.region false [⟨some 2, .assign (.const (.sl [] (some 123))), none⟩,
    ⟨some 3, .assign (.const (.int .i64 (12))), none⟩])
   .ret) (.seq (.region false [⟨some 19, .load false 1 (.tmp 4) false, none⟩,
    ⟨some 20, .len 2 (.tmp 19), none⟩,
    ⟨some 21, .move (.tmp 0) false, none⟩,
    ⟨some 22, .len 0 (.tmp 21), none⟩,
    ⟨some 23, .bin .lss (.tmp 20) (.tmp 22), none⟩,
    ⟨some 18, .assign (.tmp 23), none⟩])
   (.cond (.tmp 18) (.seq (.region false [⟨some 2, .assign (.const (.sl [] (some 123))), none⟩,
    ⟨some 3, .assign (.const (.int .i64 (13))), none⟩])
   .ret) .skip)))))
   (.seq (.region false [⟨some 5, .assign (.const (.sl [] (some 123))), none⟩])
   (.seq (.seq (.region false [⟨some 24, .move (.tmp 0) false, none⟩,
    ⟨some 25, .len 0 (.tmp 24), none⟩,
    ⟨some 26, .move (.const (.int .i64 (0))) false, none⟩])
   (.block 1 (.loop [5, 0, 24, 4, 26, 25, 3, 2] l83_0)))
   (.seq (.seq (.region false [⟨some 63, .move (.tmp 0) false, none⟩,
    ⟨some 64, .call 128 [(.tmp 63)], none⟩])
   (.cond (.tmp 64) (.seq (.region false [⟨some 2, .assign (.const (.sl [] (some 123))), none⟩,
    ⟨some 3, .assign (.const (.int .i64 (21))), none⟩])
   .ret) .skip))
   (.seq (.region false [⟨some 65, .move (.tmp 5) false, none⟩,
    ⟨some 66, .call 44 [(.tmp 65), (.const (.func 129 []))], none⟩])
   (.seq (.region false [⟨some 67, .move (.tmp 5) false, none⟩,
    ⟨some 2, .assign (.tmp 67), none⟩,
    ⟨some 3, .assign (.const (.int .i64 (0))), none⟩])
   .ret))))))))⟩

def l84_0 : MCode :=
   (.seq (.region false [⟨some 13, .bin .lss (.tmp 12) (.tmp 11), none⟩])
   (.seq (.cond (.tmp 13) .skip (.exit 0))
   (.seq (.block 1 (.seq (.region false [⟨some 14, .indexAddr 2 (.tmp 10) (.tmp 12), none⟩,
    ⟨some 15, .load true 2 (.tmp 14) false, none⟩,
    ⟨some 7, .alloc [(.str []), (.str [])], none⟩,
    ⟨none, .store 2 (.tmp 7) (.tmp 15), none⟩])
   (.seq (.region false [⟨some 16, .load true 2 (.tmp 4) false, none⟩,
    ⟨some 17, .load true 2 (.tmp 7) false, none⟩,
    ⟨some 18, .build [(.str []), (.str []), (.str []), (.str [])] [(0, 2, (.tmp 16)), (2, 2, (.tmp 17))], none⟩,
    ⟨some 8, .alloc [(.str []), (.str []), (.str []), (.str [])], none⟩,
    ⟨none, .store 4 (.tmp 8) (.tmp 18), none⟩])
   (.seq (.region false [⟨some 19, .move (.tmp 0) false, none⟩,
    ⟨some 20, .nilCheck (.tmp 19), none⟩,
    ⟨some 21, .fieldAddr 2 (.tmp 20), none⟩,
    ⟨some 22, .load false 1 (.tmp 21) false, none⟩,
    ⟨some 23, .load true 4 (.tmp 8) false, none⟩,
    ⟨some 24, .lookup 8741 false [(.bool false)] (.tmp 22) (.tmp 23) false, none⟩,
    ⟨some 25, .un .not (.tmp 24), none⟩])
   (.cond (.tmp 25) (.seq (.region false [⟨some 26, .move (.tmp 0) false, none⟩,
    ⟨some 27, .nilCheck (.tmp 26), none⟩,
    ⟨some 28, .fieldAddr 2 (.tmp 27), none⟩,
    ⟨some 29, .load false 1 (.tmp 28) false, none⟩,
    ⟨some 30, .load true 4 (.tmp 8) false, none⟩,
    ⟨none, .mapUpdate 8741 (.tmp 29) (.tmp 30) (.const (.bool true)), none⟩])
   (.region false [⟨some 31, .move (.tmp 0) false, none⟩,
    ⟨some 32, .load true 2 (.tmp 4) false, none⟩,
    ⟨some 33, .move (.tmp 0) false, none⟩,
    ⟨some 34, .nilCheck (.tmp 33), none⟩,
    ⟨some 35, .fieldAddr 0 (.tmp 34), none⟩,
    ⟨some 36, .load false 1 (.tmp 35) false, none⟩,
    ⟨some 37, .move (.tmp 0) false, none⟩,
    ⟨some 38, .nilCheck (.tmp 37), none⟩,
    ⟨some 39, .fieldAddr 1 (.tmp 38), none⟩,
    ⟨some 40, .load false 1 (.tmp 39) false, none⟩,
    ⟨some 41, .load true 2 (.tmp 7) false, none⟩,
    ⟨some 42, .lookup 37 false [(.int .i64 (0))] (.tmp 40) (.tmp 41) false, none⟩,
    ⟨some 43, .indexAddr 11 (.tmp 36) (.tmp 42), none⟩,
    ⟨some 44, .load true 11 (.tmp 43) false, none⟩,
    ⟨some 45, .call 84 [(.tmp 31), (.tmp 32), (.tmp 44)], none⟩])) .skip)))))
   (.region false [⟨some 46, .bin .add (.tmp 12) (.const (.int .i64 (1))), none⟩,
    ⟨some 12, .move (.tmp 46) false, none⟩]))))

/-- '(*chamberlain/family.Store).climb' -/
def m84 : MFunc :=
  ⟨3, 47, [],
   (.seq (.region false [⟨some 4, .box (.tmp 1), none⟩,
    ⟨some 5, .box (.tmp 2), none⟩])
   (.seq (.region false [⟨some 9, .fieldAddr 2 (.tmp 5), none⟩,
    ⟨some 10, .load false 1 (.tmp 9) false, none⟩,
    ⟨some 11, .len 0 (.tmp 10), none⟩,
    ⟨some 12, .move (.const (.int .i64 (0))) false, none⟩])
   (.block 0 (.loop [10, 0, 4, 12, 11] l84_0))))⟩

def l85_0 : MCode :=
   (.seq (.region false [⟨some 9, .bin .lss (.tmp 8) (.tmp 7), none⟩])
   (.seq (.cond (.tmp 9) .skip (.exit 0))
   (.seq (.block 1 (.seq (.region false [⟨some 10, .move (.tmp 8) false, none⟩,
    ⟨some 5, .assign (.tmp 10), none⟩])
   (.seq (.region false [⟨some 11, .move (.tmp 1) false, none⟩,
    ⟨some 12, .move (.tmp 0) false, none⟩,
    ⟨some 13, .move (.tmp 5) false, none⟩,
    ⟨some 14, .indexAddr 1 (.tmp 12) (.tmp 13), none⟩,
    ⟨some 15, .load false 1 (.tmp 14) false, none⟩,
    ⟨some 16, .bin .eql (.tmp 11) (.tmp 15), none⟩])
   (.cond (.tmp 16) (.seq (.region false [⟨some 17, .move (.tmp 5) false, none⟩,
    ⟨some 4, .assign (.tmp 17), none⟩])
   .ret) .skip))))
   (.region false [⟨some 18, .bin .add (.tmp 8) (.const (.int .i64 (1))), none⟩,
    ⟨some 8, .move (.tmp 18) false, none⟩]))))

/-- 'slices.Index[[]string,string]' -/
def m85 : MFunc :=
  ⟨2, 19, [.tmp 4],
   (.seq (.region false [⟨some 4, .assign (.const (.int .i64 (0))), none⟩])
   (.seq (.seq (.region false [⟨some 6, .move (.tmp 0) false, none⟩,
    ⟨some 7, .len 0 (.tmp 6), none⟩,
    ⟨some 8, .move (.const (.int .i64 (0))) false, none⟩])
   (.block 0 (.loop [1, 0, 8, 7, 4] l85_0)))
   (.seq (.region false [⟨some 4, .assign (.const (.int .i64 (-1))), none⟩])
   .ret)))⟩

def l92_0 : MCode :=
   (.block 1 (.seq (.region false [⟨some 21, .move (.tmp 2) false, none⟩,
    ⟨some 22, .move (.tmp 1) false, none⟩,
    ⟨some 23, .bin .sub (.tmp 21) (.tmp 22), none⟩,
    ⟨some 12, .assign (.tmp 23), none⟩])
   (.seq (.seq (.region false [⟨some 24, .move (.tmp 12) false, none⟩,
    ⟨some 25, .bin .leq (.tmp 24) (.const (.int .i64 (12))), none⟩])
   (.cond (.tmp 25) (.seq (.region false [⟨some 26, .move (.tmp 0) false, none⟩,
    ⟨some 27, .move (.tmp 1) false, none⟩,
    ⟨some 28, .move (.tmp 2) false, none⟩,
    ⟨some 29, .move (.tmp 4) false, none⟩,
    ⟨some 30, .call 135 [(.tmp 26), (.tmp 27), (.tmp 28), (.tmp 29)], none⟩])
   .ret) .skip))
   (.seq (.seq (.region false [⟨some 31, .move (.tmp 3) false, none⟩,
    ⟨some 32, .bin .eql (.tmp 31) (.const (.int .i64 (0))), none⟩])
   (.cond (.tmp 32) (.seq (.region false [⟨some 33, .move (.tmp 0) false, none⟩,
    ⟨some 34, .move (.tmp 1) false, none⟩,
    ⟨some 35, .move (.tmp 2) false, none⟩,
    ⟨some 36, .move (.tmp 4) false, none⟩,
    ⟨some 37, .call 136 [(.tmp 33), (.tmp 34), (.tmp 35), (.tmp 36)], none⟩])
   .ret) .skip))
   (.seq (.seq (.region false [⟨some 38, .move (.tmp 10) false, none⟩,
    ⟨some 39, .un .not (.tmp 38), none⟩])
   (.cond (.tmp 39) (.seq (.region false [⟨some 40, .move (.tmp 0) false, none⟩,
    ⟨some 41, .move (.tmp 1) false, none⟩,
    ⟨some 42, .move (.tmp 2) false, none⟩,
    ⟨some 43, .move (.tmp 4) false, none⟩,
    ⟨some 44, .call 137 [(.tmp 40), (.tmp 41), (.tmp 42), (.tmp 43)], none⟩])
   (.region false [⟨some 45, .move (.tmp 3) false, none⟩,
    ⟨some 46, .bin .sub (.tmp 45) (.const (.int .i64 (1))), none⟩,
    ⟨some 3, .assign (.tmp 46), none⟩])) .skip))
   (.seq (.region false [⟨some 48, .move (.tmp 0) false, none⟩,
    ⟨some 49, .move (.tmp 1) false, none⟩,
    ⟨some 50, .move (.tmp 2) false, none⟩,
    ⟨some 51, .move (.tmp 4) false, none⟩,
    ⟨some 52, .call 138 [(.tmp 48), (.tmp 49), (.tmp 50), (.tmp 51)], none⟩,
    ⟨some 47, .move (.tmp 52) false, none⟩,
    ⟨some 53, .extract (.tmp 47) 0, none⟩,
    ⟨some 54, .extract (.tmp 47) 1, none⟩,
    ⟨some 13, .assign (.tmp 53), none⟩,
    ⟨some 14, .assign (.tmp 54), none⟩])
   (.seq (.seq (.region false [⟨some 55, .move (.tmp 14) false, none⟩,
    ⟨some 56, .bin .eql (.tmp 55) (.const (.int .i64 (2))), none⟩])
   (.cond (.tmp 56) (.seq (.region false [⟨some 57, .move (.tmp 0) false, none⟩,
    ⟨some 58, .move (.tmp 1) false, none⟩,
    ⟨some 59, .move (.tmp 2) false, none⟩,
    ⟨some 60, .move (.tmp 4) false, none⟩,
    ⟨some 61, .call 139 [(.tmp 57), (.tmp 58), (.tmp 59), (.tmp 60)], none⟩])
   (.seq (.region false [⟨some 62, .move (.tmp 2) false, none⟩,
    ⟨some 63, .bin .sub (.tmp 62) (.const (.int .i64 (1))), none⟩,
    ⟨some 64, .move (.tmp 13) false, none⟩,
    ⟨some 65, .move (.tmp 1) false, none⟩,
    ⟨some 66, .bin .sub (.tmp 64) (.tmp 65), none⟩,
    ⟨some 67, .bin .sub (.tmp 63) (.tmp 66), none⟩,
    ⟨some 13, .assign (.tmp 67), none⟩])
   (.region false [⟨some 14, .assign (.const (.int .i64 (1))), none⟩]))) .skip))
   (.seq (.seq (.region false [⟨some 68, .move (.tmp 10) false, none⟩,
    ⟨some 69, .move (.tmp 68) false, none⟩,
    ⟨some 70, .move (.tmp 11) false, some (69, true)⟩,
    ⟨some 71, .pick (.tmp 69) (.tmp 70) (.const (.bool false)), none⟩,
    ⟨some 72, .move (.tmp 71) false, none⟩,
    ⟨some 73, .move (.tmp 14) false, some (72, true)⟩,
    ⟨some 74, .bin .eql (.tmp 73) (.const (.int .i64 (1))), some (72, true)⟩,
    ⟨some 75, .pick (.tmp 72) (.tmp 74) (.const (.bool false)), none⟩])
   (.cond (.tmp 75) (.seq (.region false [⟨some 76, .move (.tmp 0) false, none⟩,
    ⟨some 77, .move (.tmp 1) false, none⟩,
    ⟨some 78, .move (.tmp 2) false, none⟩,
    ⟨some 79, .move (.tmp 4) false, none⟩,
    ⟨some 80, .call 140 [(.tmp 76), (.tmp 77), (.tmp 78), (.tmp 79)], none⟩])
   (.cond (.tmp 80) .ret .skip)) .skip))
   (.seq (.seq (.region false [⟨some 81, .move (.tmp 1) false, none⟩,
    ⟨some 82, .bin .gtr (.tmp 81) (.const (.int .i64 (0))), none⟩,
    ⟨some 83, .move (.tmp 82) false, none⟩,
    ⟨some 84, .move (.tmp 4) false, some (83, true)⟩,
    ⟨some 85, .move (.tmp 0) false, some (83, true)⟩,
    ⟨some 86, .move (.tmp 1) false, some (83, true)⟩,
    ⟨some 87, .bin .sub (.tmp 86) (.const (.int .i64 (1))), some (83, true)⟩,
    ⟨some 88, .indexAddr 2 (.tmp 85) (.tmp 87), some (83, true)⟩,
    ⟨some 89, .load true 2 (.tmp 88) false, some (83, true)⟩,
    ⟨some 90, .move (.tmp 0) false, some (83, true)⟩,
    ⟨some 91, .move (.tmp 13) false, some (83, true)⟩,
    ⟨some 92, .indexAddr 2 (.tmp 90) (.tmp 91), some (83, true)⟩,
    ⟨some 93, .load true 2 (.tmp 92) false, some (83, true)⟩,
    ⟨some 94, .callv (.tmp 84) [(.tmp 89), (.tmp 93)], some (83, true)⟩,
    ⟨some 95, .bin .lss (.tmp 94) (.const (.int .i64 (0))), some (83, true)⟩,
    ⟨some 96, .un .not (.tmp 95), some (83, true)⟩,
    ⟨some 97, .pick (.tmp 83) (.tmp 96) (.const (.bool false)), none⟩])
   (.cond (.tmp 97) (.seq (.region false [⟨some 98, .move (.tmp 0) false, none⟩,
    ⟨some 99, .move (.tmp 1) false, none⟩,
    ⟨some 100, .move (.tmp 2) false, none⟩,
    ⟨some 101, .move (.tmp 13) false, none⟩,
    ⟨some 102, .move (.tmp 4) false, none⟩,
    ⟨some 103, .call 141 [(.tmp 98), (.tmp 99), (.tmp 100), (.tmp 101), (.tmp 102)], none⟩,
    ⟨some 15, .assign (.tmp 103), none⟩])
   (.seq (.region false [⟨some 104, .move (.tmp 15) false, none⟩,
    ⟨some 1, .assign (.tmp 104), none⟩])
   (.exit 1))) .skip))
   (.seq (.region false [⟨some 106, .move (.tmp 0) false, none⟩,
    ⟨some 107, .move (.tmp 1) false, none⟩,
    ⟨some 108, .move (.tmp 2) false, none⟩,
    ⟨some 109, .move (.tmp 13) false, none⟩,
    ⟨some 110, .move (.tmp 4) false, none⟩,
    ⟨some 111, .call 142 [(.tmp 106), (.tmp 107), (.tmp 108), (.tmp 109), (.tmp 110)], none⟩,
    ⟨some 105, .move (.tmp 111) false, none⟩,
    ⟨some 112, .extract (.tmp 105) 0, none⟩,
    ⟨some 113, .extract (.tmp 105) 1, none⟩,
    ⟨some 16, .assign (.tmp 112), none⟩,
    ⟨some 17, .assign (.tmp 113), none⟩])
   (.seq (.region false [⟨some 114, .move (.tmp 17) false, none⟩,
    ⟨some 11, .assign (.tmp 114), none⟩])
   (.seq (.region false [⟨some 115, .move (.tmp 16) false, none⟩,
    ⟨some 116, .move (.tmp 1) false, none⟩,
    ⟨some 117, .bin .sub (.tmp 115) (.tmp 116), none⟩,
    ⟨some 118, .move (.tmp 2) false, none⟩,
    ⟨some 119, .move (.tmp 16) false, none⟩,
    ⟨some 120, .bin .sub (.tmp 118) (.tmp 119), none⟩,
    ⟨some 18, .assign (.tmp 117), none⟩,
    ⟨some 19, .assign (.tmp 120), none⟩])
   (.seq (.region false [⟨some 121, .move (.tmp 12) false, none⟩,
    ⟨some 122, .bin .quo (.tmp 121) (.const (.int .i64 (8))), none⟩,
    ⟨some 20, .assign (.tmp 122), none⟩])
   (.seq (.region false [⟨some 123, .move (.tmp 18) false, none⟩,
    ⟨some 124, .move (.tmp 19) false, none⟩,
    ⟨some 125, .bin .lss (.tmp 123) (.tmp 124), none⟩])
   (.cond (.tmp 125) (.seq (.region false [⟨some 126, .move (.tmp 18) false, none⟩,
    ⟨some 127, .move (.tmp 20) false, none⟩,
    ⟨some 128, .bin .geq (.tmp 126) (.tmp 127), none⟩,
    ⟨some 10, .assign (.tmp 128), none⟩])
   (.seq (.region false [⟨some 129, .move (.tmp 0) false, none⟩,
    ⟨some 130, .move (.tmp 1) false, none⟩,
    ⟨some 131, .move (.tmp 16) false, none⟩,
    ⟨some 132, .move (.tmp 3) false, none⟩,
    ⟨some 133, .move (.tmp 4) false, none⟩,
    ⟨some 134, .call 92 [(.tmp 129), (.tmp 130), (.tmp 131), (.tmp 132), (.tmp 133)], none⟩])
   (.region false [⟨some 135, .move (.tmp 16) false, none⟩,
    ⟨some 136, .bin .add (.tmp 135) (.const (.int .i64 (1))), none⟩,
    ⟨some 1, .assign (.tmp 136), none⟩]))) (.seq (.region false [⟨some 137, .move (.tmp 19) false, none⟩,
    ⟨some 138, .move (.tmp 20) false, none⟩,
    ⟨some 139, .bin .geq (.tmp 137) (.tmp 138), none⟩,
    ⟨some 10, .assign (.tmp 139), none⟩])
   (.seq (.region false [⟨some 140, .move (.tmp 0) false, none⟩,
    ⟨some 141, .move (.tmp 16) false, none⟩,
    ⟨some 142, .bin .add (.tmp 141) (.const (.int .i64 (1))), none⟩,
    ⟨some 143, .move (.tmp 2) false, none⟩,
    ⟨some 144, .move (.tmp 3) false, none⟩,
    ⟨some 145, .move (.tmp 4) false, none⟩,
    ⟨some 146, .call 92 [(.tmp 140), (.tmp 142), (.tmp 143), (.tmp 144), (.tmp 145)], none⟩])
   (.region false [⟨some 147, .move (.tmp 16) false, none⟩,
    ⟨some 2, .assign (.tmp 147), none⟩]))))))))))))))))))

/-- 'slices.pdqsortCmpFunc[chamberlain/api.Uid]' -/
def m92 : MFunc :=
  ⟨5, 148, [],
   (.seq (.region false [⟨some 10, .assign (.const (.bool true)), none⟩])
   (.seq (.region false [⟨some 11, .assign (.const (.bool true)), none⟩])
   (.block 0 (.loop [4, 3, 2, 0, 1, 11, 10] l92_0))))⟩

def l93_0 : MCode :=
   (.seq (.region false [⟨some 34, .bin .lss (.tmp 33) (.tmp 32), none⟩])
   (.seq (.cond (.tmp 34) .skip (.exit 2))
   (.seq (.block 3 (.seq (.region false [⟨some 35, .indexAddr 1 (.tmp 31) (.tmp 33), none⟩,
    ⟨some 36, .load false 1 (.tmp 35) false, none⟩,
    ⟨some 11, .assign (.tmp 36), none⟩])
   (.seq (.seq (.region false [⟨some 37, .move (.tmp 11) false, none⟩,
    ⟨some 38, .move (.tmp 1) false, none⟩,
    ⟨some 39, .bin .eql (.tmp 37) (.tmp 38), none⟩])
   (.cond (.tmp 39) (.seq (.region false [⟨some 6, .assign (.const (.bool true)), none⟩])
   .ret) .skip))
   (.seq (.region false [⟨some 40, .move (.tmp 7) false, none⟩,
    ⟨some 41, .move (.tmp 11) false, none⟩,
    ⟨some 42, .lookup 1 false [(.bool false)] (.tmp 40) (.tmp 41) false, none⟩,
    ⟨some 43, .un .not (.tmp 42), none⟩])
   (.cond (.tmp 43) (.seq (.region false [⟨some 44, .move (.tmp 7) false, none⟩,
    ⟨some 45, .move (.tmp 11) false, none⟩,
    ⟨none, .mapUpdate 1 (.tmp 44) (.tmp 45) (.const (.bool true)), none⟩])
   (.region false [⟨some 46, .move (.tmp 8) true, none⟩,
    ⟨some 47, .move (.tmp 11) false, none⟩,
    ⟨some 48, .buildSlice 9 1 1 [(.str [])] [(0, (.tmp 47))], none⟩,
    ⟨some 49, .append 9 1 16 true (.tmp 46) (.tmp 48), none⟩,
    ⟨some 8, .assign (.tmp 49), none⟩])) .skip)))))
   (.region false [⟨some 50, .bin .add (.tmp 33) (.const (.int .i64 (1))), none⟩,
    ⟨some 33, .move (.tmp 50) false, none⟩]))))

def l93_1 : MCode :=
   (.seq (.seq (.region false [⟨some 15, .move (.tmp 8) false, none⟩,
    ⟨some 16, .len 0 (.tmp 15), none⟩,
    ⟨some 17, .bin .gtr (.tmp 16) (.const (.int .i64 (0))), none⟩])
   (.cond (.tmp 17) .skip (.exit 0)))
   (.block 1 (.seq (.region false [⟨some 18, .move (.tmp 8) false, none⟩,
    ⟨some 19, .move (.tmp 8) false, none⟩,
    ⟨some 20, .len 0 (.tmp 19), none⟩,
    ⟨some 21, .bin .sub (.tmp 20) (.const (.int .i64 (1))), none⟩,
    ⟨some 22, .indexAddr 1 (.tmp 18) (.tmp 21), none⟩,
    ⟨some 23, .load false 1 (.tmp 22) false, none⟩,
    ⟨some 9, .assign (.tmp 23), none⟩])
   (.seq (.region false [⟨some 24, .move (.tmp 8) false, none⟩,
    ⟨some 25, .move (.tmp 8) false, none⟩,
    ⟨some 26, .len 0 (.tmp 25), none⟩,
    ⟨some 27, .bin .sub (.tmp 26) (.const (.int .i64 (1))), none⟩,
    ⟨some 28, .slice 1 (.tmp 24) none (some (.tmp 27)), none⟩,
    ⟨some 8, .assign (.tmp 28), none⟩])
   (.seq (.region false [⟨some 29, .move (.tmp 2) false, none⟩,
    ⟨some 30, .move (.tmp 9) false, none⟩,
    ⟨some 31, .callv (.tmp 29) [(.tmp 30)], none⟩,
    ⟨some 32, .len 0 (.tmp 31), none⟩,
    ⟨some 33, .move (.const (.int .i64 (0))) false, none⟩])
   (.block 2 (.loop [8, 2, 7, 1, 31, 33, 32, 6] l93_0)))))))

/-- 'chamberlain/schema.leads' -/
def m93 : MFunc :=
  ⟨3, 51, [.tmp 6],
   (.seq (.region false [⟨some 6, .assign (.const (.bool false)), none⟩])
   (.seq (.region false [⟨some 12, .mkmap, none⟩,
    ⟨some 7, .assign (.tmp 12), none⟩])
   (.seq (.region false [⟨some 13, .move (.tmp 0) false, none⟩,
    ⟨some 14, .buildM 9 1 1 [(.str [])] [(0, (.tmp 13))], none⟩,
    ⟨some 8, .assign (.tmp 14), none⟩])
   (.seq (.block 0 (.loop [8, 2, 7, 1, 6] l93_1))
   (.seq (.region false [⟨some 6, .assign (.const (.bool false)), none⟩])
   .ret)))))⟩


/-- 'chamberlain/schema.Above$1' -/
def m94 : MFunc :=
  ⟨2, 14, [.tmp 3],
   (.seq (.region false [⟨some 3, .assign (.const (.sl [] (some 9))), none⟩])
   (.seq (.region false [⟨some 7, .load true 2 (.tmp 1) false, none⟩,
    ⟨some 8, .move (.tmp 0) false, none⟩,
    ⟨some 9, .call 77 [(.tmp 7), (.tmp 8)], none⟩,
    ⟨some 6, .move (.tmp 9) false, none⟩,
    ⟨some 10, .extract (.tmp 6) 0, none⟩,
    ⟨some 11, .extract (.tmp 6) 1, none⟩,
    ⟨some 4, .alloc [(.str []), (.sl [] (some 9)), (.sl [] (some 115))], none⟩,
    ⟨none, .store 3 (.tmp 4) (.tmp 10), none⟩,
    ⟨some 5, .assign (.tmp 11), none⟩])
   (.seq (.region false [⟨some 12, .fieldAddr 1 (.tmp 4), none⟩,
    ⟨some 13, .load false 1 (.tmp 12) false, none⟩,
    ⟨some 3, .assign (.tmp 13), none⟩])
   .ret)))⟩


/-- 'chamberlain/chamberlainref05.Order' -/
def m101 : MFunc :=
  ⟨2, 19, [.tmp 4],
   (.seq (.region false [⟨some 2, .box (.tmp 0), none⟩,
    ⟨some 3, .box (.tmp 1), none⟩,
    ⟨some 4, .assign (.const (.int .i64 (0))), none⟩])
   (.seq (.region false [⟨some 6, .fieldAddr 0 (.tmp 2), none⟩,
    ⟨some 7, .load false 1 (.tmp 6) false, none⟩,
    ⟨some 8, .fieldAddr 0 (.tmp 3), none⟩,
    ⟨some 9, .load false 1 (.tmp 8) false, none⟩,
    ⟨some 10, .call 146 [(.tmp 7), (.tmp 9)], none⟩,
    ⟨some 5, .assign (.tmp 10), none⟩])
   (.seq (.seq (.region false [⟨some 11, .move (.tmp 5) false, none⟩,
    ⟨some 12, .bin .neq (.tmp 11) (.const (.int .i64 (0))), none⟩])
   (.cond (.tmp 12) (.seq (.region false [⟨some 13, .move (.tmp 5) false, none⟩,
    ⟨some 4, .assign (.tmp 13), none⟩])
   .ret) .skip))
   (.seq (.region false [⟨some 14, .fieldAddr 1 (.tmp 2), none⟩,
    ⟨some 15, .load false 1 (.tmp 14) false, none⟩,
    ⟨some 16, .fieldAddr 1 (.tmp 3), none⟩,
    ⟨some 17, .load false 1 (.tmp 16) false, none⟩,
    ⟨some 18, .call 146 [(.tmp 15), (.tmp 17)], none⟩,
    ⟨some 4, .assign (.tmp 18), none⟩])
   .ret))))⟩

def l102_0 : MCode :=
   (.seq (.seq (.region false [⟨some 32, .move (.tmp 12) false, none⟩,
    ⟨some 33, .move (.tmp 11) false, none⟩,
    ⟨some 34, .len 0 (.tmp 33), none⟩,
    ⟨some 35, .bin .lss (.tmp 32) (.tmp 34), none⟩])
   (.cond (.tmp 35) .skip (.exit 2)))
   (.seq (.block 3 (.seq (.region false [⟨some 38, .move (.tmp 9) false, none⟩,
    ⟨some 39, .move (.tmp 11) false, none⟩,
    ⟨some 40, .move (.tmp 12) false, none⟩,
    ⟨some 41, .indexAddr 1 (.tmp 39) (.tmp 40), none⟩,
    ⟨some 42, .load false 1 (.tmp 41) false, none⟩,
    ⟨some 43, .call 148 [(.tmp 38), (.tmp 42)], none⟩,
    ⟨some 44, .un .not (.tmp 43), none⟩])
   (.cond (.tmp 44) (.region false [⟨some 45, .move (.tmp 9) true, none⟩,
    ⟨some 46, .move (.tmp 11) false, none⟩,
    ⟨some 47, .move (.tmp 12) false, none⟩,
    ⟨some 48, .indexAddr 1 (.tmp 46) (.tmp 47), none⟩,
    ⟨some 49, .load false 1 (.tmp 48) false, none⟩,
    ⟨some 50, .buildSlice 9 1 1 [(.str [])] [(0, (.tmp 49))], none⟩,
    ⟨some 51, .append 9 1 16 false (.tmp 45) (.tmp 50), none⟩,
    ⟨some 9, .assign (.tmp 51), none⟩]) .skip)))
   (.region false [⟨some 36, .move (.tmp 12) false, none⟩,
    ⟨some 37, .bin .add (.tmp 36) (.const (.int .i64 (1))), none⟩,
    ⟨some 12, .assign (.tmp 37), none⟩])))

def l102_1 : MCode :=
   (.seq (.seq (.region false [⟨some 19, .move (.tmp 10) false, none⟩,
    ⟨some 20, .move (.tmp 9) false, none⟩,
    ⟨some 21, .len 0 (.tmp 20), none⟩,
    ⟨some 22, .bin .lss (.tmp 19) (.tmp 21), none⟩])
   (.cond (.tmp 22) .skip (.exit 0)))
   (.seq (.block 1 (.seq (.region false [⟨some 25, .load true 2 (.tmp 4) false, none⟩,
    ⟨some 26, .move (.tmp 1) false, none⟩,
    ⟨some 27, .move (.tmp 9) false, none⟩,
    ⟨some 28, .move (.tmp 10) false, none⟩,
    ⟨some 29, .indexAddr 1 (.tmp 27) (.tmp 28), none⟩,
    ⟨some 30, .load false 1 (.tmp 29) false, none⟩,
    ⟨some 31, .call 147 [(.tmp 25), (.tmp 26), (.tmp 30)], none⟩,
    ⟨some 11, .assign (.tmp 31), none⟩])
   (.seq (.region false [⟨some 12, .assign (.const (.int .i64 (0))), none⟩])
   (.block 2 (.loop [3, 9, 4, 1, 10, 11, 12, 8] l102_0)))))
   (.region false [⟨some 23, .move (.tmp 10) false, none⟩,
    ⟨some 24, .bin .add (.tmp 23) (.const (.int .i64 (1))), none⟩,
    ⟨some 10, .assign (.tmp 24), none⟩])))

/-- 'chamberlain/chamberlainref12.Leads' -/
def m102 : MFunc :=
  ⟨4, 55, [.tmp 8],
   (.seq (.region false [⟨some 4, .box (.tmp 0), none⟩,
    ⟨some 8, .assign (.const (.bool false)), none⟩])
   (.seq (.region false [⟨some 9, .assign (.const (.sl [] (some 9))), none⟩])
   (.seq (.region false [⟨some 13, .move (.tmp 9) true, none⟩,
    ⟨some 14, .load true 2 (.tmp 4) false, none⟩,
    ⟨some 15, .move (.tmp 1) false, none⟩,
    ⟨some 16, .move (.tmp 2) false, none⟩,
    ⟨some 17, .call 147 [(.tmp 14), (.tmp 15), (.tmp 16)], none⟩,
    ⟨some 18, .append 9 1 16 false (.tmp 13) (.tmp 17), none⟩,
    ⟨some 9, .assign (.tmp 18), none⟩])
   (.seq (.seq (.region false [⟨some 10, .assign (.const (.int .i64 (0))), none⟩])
   (.block 0 (.loop [3, 9, 4, 1, 10, 8] l102_1)))
   (.seq (.region false [⟨some 52, .move (.tmp 9) false, none⟩,
    ⟨some 53, .move (.tmp 3) false, none⟩,
    ⟨some 54, .call 148 [(.tmp 52), (.tmp 53)], none⟩,
    ⟨some 8, .assign (.tmp 54), none⟩])
   .ret)))))⟩

def l109_0 : MCode :=
   (.seq (.region false [⟨some 9, .bin .lss (.tmp 8) (.tmp 7), none⟩])
   (.seq (.cond (.tmp 9) .skip (.exit 0))
   (.seq (.block 1 (.seq (.region false [⟨some 10, .move (.tmp 8) false, none⟩,
    ⟨some 5, .assign (.tmp 10), none⟩])
   (.seq (.region false [⟨some 11, .move (.tmp 1) false, none⟩,
    ⟨some 12, .move (.tmp 0) false, none⟩,
    ⟨some 13, .move (.tmp 5) false, none⟩,
    ⟨some 14, .indexAddr 3 (.tmp 12) (.tmp 13), none⟩,
    ⟨some 15, .load true 3 (.tmp 14) false, none⟩,
    ⟨some 16, .callv (.tmp 11) [(.tmp 15)], none⟩])
   (.cond (.tmp 16) (.seq (.region false [⟨some 17, .move (.tmp 5) false, none⟩,
    ⟨some 4, .assign (.tmp 17), none⟩])
   .ret) .skip))))
   (.region false [⟨some 18, .bin .add (.tmp 8) (.const (.int .i64 (1))), none⟩,
    ⟨some 8, .move (.tmp 18) false, none⟩]))))

/-- 'slices.IndexFunc[[]chamberlain/api.EntityType,chamberlain/api.EntityType]' -/
def m109 : MFunc :=
  ⟨2, 19, [.tmp 4],
   (.seq (.region false [⟨some 4, .assign (.const (.int .i64 (0))), none⟩])
   (.seq (.seq (.region false [⟨some 6, .move (.tmp 0) false, none⟩,
    ⟨some 7, .len 0 (.tmp 6), none⟩,
    ⟨some 8, .move (.const (.int .i64 (0))) false, none⟩])
   (.block 0 (.loop [1, 0, 8, 7, 4] l109_0)))
   (.seq (.region false [⟨some 4, .assign (.const (.int .i64 (-1))), none⟩])
   .ret)))⟩


/-- 'chamberlain/schema.Type$1' -/
def m110 : MFunc :=
  ⟨2, 8, [.tmp 3],
   (.seq (.region false [⟨some 2, .box (.tmp 0), none⟩,
    ⟨some 3, .assign (.const (.bool false)), none⟩])
   (.seq (.region false [⟨some 4, .fieldAddr 0 (.tmp 2), none⟩,
    ⟨some 5, .load false 1 (.tmp 4) false, none⟩,
    ⟨some 6, .load false 1 (.tmp 1) false, none⟩,
    ⟨some 7, .bin .eql (.tmp 5) (.tmp 6), none⟩,
    ⟨some 3, .assign (.tmp 7), none⟩])
   .ret))⟩

def l112_0 : MCode :=
   (.seq (.seq (.region false [⟨some 18, .move (.tmp 9) false, none⟩,
    ⟨some 19, .move (.tmp 1) false, none⟩,
    ⟨some 20, .bin .gtr (.tmp 18) (.tmp 19), none⟩,
    ⟨some 21, .move (.tmp 20) false, none⟩,
    ⟨some 22, .move (.tmp 3) false, some (21, true)⟩,
    ⟨some 23, .move (.tmp 0) false, some (21, true)⟩,
    ⟨some 24, .move (.tmp 9) false, some (21, true)⟩,
    ⟨some 25, .indexAddr 11 (.tmp 23) (.tmp 24), some (21, true)⟩,
    ⟨some 26, .load true 11 (.tmp 25) false, some (21, true)⟩,
    ⟨some 27, .move (.tmp 0) false, some (21, true)⟩,
    ⟨some 28, .move (.tmp 9) false, some (21, true)⟩,
    ⟨some 29, .bin .sub (.tmp 28) (.const (.int .i64 (1))), some (21, true)⟩,
    ⟨some 30, .indexAddr 11 (.tmp 27) (.tmp 29), some (21, true)⟩,
    ⟨some 31, .load true 11 (.tmp 30) false, some (21, true)⟩,
    ⟨some 32, .callv (.tmp 22) [(.tmp 26), (.tmp 31)], some (21, true)⟩,
    ⟨some 33, .bin .lss (.tmp 32) (.const (.int .i64 (0))), some (21, true)⟩,
    ⟨some 34, .pick (.tmp 21) (.tmp 33) (.const (.bool false)), none⟩])
   (.cond (.tmp 34) .skip (.exit 2)))
   (.seq (.block 3 (.region false [⟨some 37, .move (.tmp 0) false, none⟩,
    ⟨some 38, .move (.tmp 9) false, none⟩,
    ⟨some 39, .move (.tmp 0) false, none⟩,
    ⟨some 40, .move (.tmp 9) false, none⟩,
    ⟨some 41, .bin .sub (.tmp 40) (.const (.int .i64 (1))), none⟩,
    ⟨some 42, .move (.tmp 0) false, none⟩,
    ⟨some 43, .move (.tmp 9) false, none⟩,
    ⟨some 44, .bin .sub (.tmp 43) (.const (.int .i64 (1))), none⟩,
    ⟨some 45, .indexAddr 11 (.tmp 42) (.tmp 44), none⟩,
    ⟨some 46, .load true 11 (.tmp 45) false, none⟩,
    ⟨some 47, .move (.tmp 0) false, none⟩,
    ⟨some 48, .move (.tmp 9) false, none⟩,
    ⟨some 49, .indexAddr 11 (.tmp 47) (.tmp 48), none⟩,
    ⟨some 50, .load true 11 (.tmp 49) false, none⟩,
    ⟨some 51, .indexAddr 11 (.tmp 37) (.tmp 38), none⟩,
    ⟨none, .store 11 (.tmp 51) (.tmp 46), none⟩,
    ⟨some 52, .indexAddr 11 (.tmp 39) (.tmp 41), none⟩,
    ⟨none, .store 11 (.tmp 52) (.tmp 50), none⟩]))
   (.region false [⟨some 35, .move (.tmp 9) false, none⟩,
    ⟨some 36, .bin .sub (.tmp 35) (.const (.int .i64 (1))), none⟩,
    ⟨some 9, .assign (.tmp 36), none⟩])))

def l112_1 : MCode :=
   (.seq (.seq (.region false [⟨some 12, .move (.tmp 8) false, none⟩,
    ⟨some 13, .move (.tmp 2) false, none⟩,
    ⟨some 14, .bin .lss (.tmp 12) (.tmp 13), none⟩])
   (.cond (.tmp 14) .skip (.exit 0)))
   (.seq (.block 1 (.seq (.region false [⟨some 17, .move (.tmp 8) false, none⟩,
    ⟨some 9, .assign (.tmp 17), none⟩])
   (.block 2 (.loop [1, 3, 0, 2, 8, 9] l112_0))))
   (.region false [⟨some 15, .move (.tmp 8) false, none⟩,
    ⟨some 16, .bin .add (.tmp 15) (.const (.int .i64 (1))), none⟩,
    ⟨some 8, .assign (.tmp 16), none⟩])))

/-- 'slices.insertionSortCmpFunc[chamberlain/api.Entity]' -/
def m112 : MFunc :=
  ⟨4, 53, [],
   (.seq (.region false [⟨some 10, .move (.tmp 1) false, none⟩,
    ⟨some 11, .bin .add (.tmp 10) (.const (.int .i64 (1))), none⟩,
    ⟨some 8, .assign (.tmp 11), none⟩])
   (.block 0 (.loop [1, 3, 0, 8, 2] l112_1)))⟩


/-- 'math/bits.Len64' -/
def m121 : MFunc :=
  ⟨1, 25, [.tmp 2],
   (.seq (.region false [⟨some 2, .assign (.const (.int .i64 (0))), none⟩])
   (.seq (.seq (.region false [⟨some 3, .move (.tmp 0) false, none⟩,
    ⟨some 4, .bin .geq (.tmp 3) (.const (.int .u64 (4294967296))), none⟩])
   (.cond (.tmp 4) (.seq (.region false [⟨some 5, .move (.tmp 0) false, none⟩,
    ⟨some 6, .bin .shr (.tmp 5) (.const (.int .u64 (32))), none⟩,
    ⟨some 0, .assign (.tmp 6), none⟩])
   (.region false [⟨some 2, .assign (.const (.int .i64 (32))), none⟩])) .skip))
   (.seq (.seq (.region false [⟨some 7, .move (.tmp 0) false, none⟩,
    ⟨some 8, .bin .geq (.tmp 7) (.const (.int .u64 (65536))), none⟩])
   (.cond (.tmp 8) (.seq (.region false [⟨some 9, .move (.tmp 0) false, none⟩,
    ⟨some 10, .bin .shr (.tmp 9) (.const (.int .u64 (16))), none⟩,
    ⟨some 0, .assign (.tmp 10), none⟩])
   (.region false [⟨some 11, .move (.tmp 2) false, none⟩,
    ⟨some 12, .bin .add (.tmp 11) (.const (.int .i64 (16))), none⟩,
    ⟨some 2, .assign (.tmp 12), none⟩])) .skip))
   (.seq (.seq (.region false [⟨some 13, .move (.tmp 0) false, none⟩,
    ⟨some 14, .bin .geq (.tmp 13) (.const (.int .u64 (256))), none⟩])
   (.cond (.tmp 14) (.seq (.region false [⟨some 15, .move (.tmp 0) false, none⟩,
    ⟨some 16, .bin .shr (.tmp 15) (.const (.int .u64 (8))), none⟩,
    ⟨some 0, .assign (.tmp 16), none⟩])
   (.region false [⟨some 17, .move (.tmp 2) false, none⟩,
    ⟨some 18, .bin .add (.tmp 17) (.const (.int .i64 (8))), none⟩,
    ⟨some 2, .assign (.tmp 18), none⟩])) .skip))
   (.seq (.region false [⟨some 19, .move (.tmp 2) false, none⟩,
    ⟨some 20, .move (.tmp 0) false, none⟩,
    ⟨some 21, .conv .u8 (.tmp 20), none⟩,
    ⟨some 22, .indexStr (.const (.str [0, 1, 2, 2, 3, 3, 3, 3, 4, 4, 4, 4, 4, 4, 4, 4, 5, 5, 5, 5, 5, 5, 5, 5, 5, 5, 5, 5, 5, 5, 5, 5, 6, 6, 6, 6, 6, 6, 6, 6, 6, 6, 6, 6, 6, 6, 6, 6, 6, 6, 6, 6, 6, 6, 6, 6, 6, 6, 6, 6, 6, 6, 6, 6, 7, 7, 7, 7, 7, 7, 7, 7, 7, 7, 7, 7, 7, 7, 7, 7, 7, 7, 7, 7, 7, 7, 7, 7, 7, 7, 7, 7, 7, 7, 7, 7, 7, 7, 7, 7, 7, 7, 7, 7, 7, 7, 7, 7, 7, 7, 7, 7, 7, 7, 7, 7, 7, 7, 7, 7, 7, 7, 7, 7, 7, 7, 7, 7, 8, 8, 8, 8, 8, 8, 8, 8, 8, 8, 8, 8, 8, 8, 8, 8, 8, 8, 8, 8, 8, 8, 8, 8, 8, 8, 8, 8, 8, 8, 8, 8, 8, 8, 8, 8, 8, 8, 8, 8, 8, 8, 8, 8, 8, 8, 8, 8, 8, 8, 8, 8, 8, 8, 8, 8, 8, 8, 8, 8, 8, 8, 8, 8, 8, 8, 8, 8, 8, 8, 8, 8, 8, 8, 8, 8, 8, 8, 8, 8, 8, 8, 8, 8, 8, 8, 8, 8, 8, 8, 8, 8, 8, 8, 8, 8, 8, 8, 8, 8, 8, 8, 8, 8, 8, 8, 8, 8, 8, 8, 8, 8, 8, 8, 8, 8, 8, 8, 8, 8, 8, 8, 8, 8, 8, 8, 8, 8])) (.tmp 21), none⟩,
    ⟨some 23, .conv .i64 (.tmp 22), none⟩,
    ⟨some 24, .bin .add (.tmp 19) (.tmp 23), none⟩,
    ⟨some 2, .assign (.tmp 24), none⟩])
   .ret)))))⟩


/-- 'cmp.isNaN[string]' -/
def m122 : MFunc :=
  ⟨1, 6, [.tmp 2],
   (.seq (.region false [⟨some 2, .assign (.const (.bool false)), none⟩])
   (.seq (.region false [⟨some 3, .move (.tmp 0) false, none⟩,
    ⟨some 4, .move (.tmp 0) false, none⟩,
    ⟨some 5, .bin .neq (.tmp 3) (.tmp 4), none⟩,
    ⟨some 2, .assign (.tmp 5), none⟩])
   .ret))⟩

def l123_0 : MCode :=
   (.seq (.region false [⟨some 12, .bin .lss (.tmp 11) (.tmp 10), none⟩])
   (.seq (.cond (.tmp 12) .skip (.exit 0))
   (.seq (.block 1 (.seq (.region false [⟨some 13, .move (.tmp 11) false, none⟩,
    ⟨some 14, .indexAddr 11 (.tmp 9) (.tmp 11), none⟩,
    ⟨some 15, .load true 11 (.tmp 14) false, none⟩,
    ⟨some 5, .alloc [(.str []), (.str []), (.sl [] (some 37)), (.int .i64 (0)), (.bool false), (.int .i64 (0)), (.str []), (.str []), (.str []), (.sl [] (some 69)), (.sl [] (some 9))], none⟩,
    ⟨some 4, .assign (.tmp 13), none⟩,
    ⟨none, .store 11 (.tmp 5) (.tmp 15), none⟩])
   (.seq (.region false [⟨some 17, .move (.tmp 3) false, none⟩,
    ⟨some 18, .fieldAddr 0 (.tmp 5), none⟩,
    ⟨some 19, .load true 2 (.tmp 18) false, none⟩,
    ⟨some 20, .lookup 37 false [(.int .i64 (0))] (.tmp 17) (.tmp 19) true, none⟩,
    ⟨some 16, .move (.tmp 20) false, none⟩,
    ⟨some 21, .extract (.tmp 16) 0, none⟩,
    ⟨some 22, .extract (.tmp 16) 1, none⟩,
    ⟨some 6, .assign (.tmp 21), none⟩,
    ⟨some 7, .assign (.tmp 22), none⟩])
   (.seq (.region false [⟨some 23, .move (.tmp 7) false, none⟩,
    ⟨some 24, .un .not (.tmp 23), none⟩])
   (.cond (.tmp 24) (.region false [⟨some 25, .move (.tmp 3) false, none⟩,
    ⟨some 26, .fieldAddr 0 (.tmp 5), none⟩,
    ⟨some 27, .load true 2 (.tmp 26) false, none⟩,
    ⟨some 28, .move (.tmp 4) false, none⟩,
    ⟨none, .mapUpdate 37 (.tmp 25) (.tmp 27) (.tmp 28), none⟩]) .skip)))))
   (.region false [⟨some 29, .bin .add (.tmp 11) (.const (.int .i64 (1))), none⟩,
    ⟨some 11, .move (.tmp 29) false, none⟩]))))

/-- 'chamberlain/entity.places' -/
def m123 : MFunc :=
  ⟨1, 31, [.tmp 2],
   (.seq (.region false [⟨some 2, .assign (.const .nilm), none⟩])
   (.seq (.region false [⟨some 8, .mkmap, none⟩,
    ⟨some 3, .assign (.tmp 8), none⟩])
   (.seq (.seq (.region false [⟨some 9, .move (.tmp 0) false, none⟩,
    ⟨some 10, .len 0 (.tmp 9), none⟩,
    ⟨some 11, .move (.const (.int .i64 (0))) false, none⟩])
   (.block 0 (.loop [3, 9, 11, 10, 2] l123_0)))
   (.seq (.region false [⟨some 30, .move (.tmp 3) false, none⟩,
    ⟨some 2, .assign (.tmp 30), none⟩])
   .ret))))⟩


/-- 'chamberlain/value.Canon' -/
def m124 : MFunc :=
  ⟨1, 12, [.cell 2 true 8, .tmp 3],
   (.seq (.region false [⟨some 1, .box (.tmp 0), none⟩,
    ⟨some 2, .alloc [(.int .i64 (0)), (.bool false), (.int .i64 (0)), (.str []), (.str []), (.str []), (.sl [] (some 69)), (.sl [] (some 9))], none⟩,
    ⟨some 3, .assign (.const (.int .i64 (0))), none⟩])
   (.seq (.seq (.region false [⟨some 4, .load true 8 (.tmp 1) false, none⟩,
    ⟨some 5, .call 159 [(.tmp 4)], none⟩,
    ⟨some 6, .bin .gtr (.tmp 5) (.const (.int .i64 (50))), none⟩])
   (.cond (.tmp 6) (.seq (.region false [⟨some 7, .build [(.int .i64 (0)), (.bool false), (.int .i64 (0)), (.str []), (.str []), (.str []), (.nils 69), (.nils 9)] [], none⟩,
    ⟨none, .store 8 (.tmp 2) (.tmp 7), none⟩,
    ⟨some 3, .assign (.const (.int .i64 (11))), none⟩])
   .ret) .skip))
   (.seq (.region false [⟨some 8, .load true 8 (.tmp 1) false, none⟩,
    ⟨some 9, .call 160 [(.tmp 8)], none⟩,
    ⟨some 10, .extract (.tmp 9) 0, none⟩,
    ⟨some 11, .extract (.tmp 9) 1, none⟩,
    ⟨none, .store 8 (.tmp 2) (.tmp 10), none⟩,
    ⟨some 3, .assign (.tmp 11), none⟩])
   .ret)))⟩


/-- 'slices.ContainsFunc[[]chamberlain/api.Uid,chamberlain/api.Uid]' -/
def m126 : MFunc :=
  ⟨2, 9, [.tmp 4],
   (.seq (.region false [⟨some 4, .assign (.const (.bool false)), none⟩])
   (.seq (.region false [⟨some 5, .move (.tmp 0) false, none⟩,
    ⟨some 6, .move (.tmp 1) false, none⟩,
    ⟨some 7, .call 161 [(.tmp 5), (.tmp 6)], none⟩,
    ⟨some 8, .bin .geq (.tmp 7) (.const (.int .i64 (0))), none⟩,
    ⟨some 4, .assign (.tmp 8), none⟩])
   .ret))⟩


/-- 'slices.Clone[[]chamberlain/api.Uid,chamberlain/api.Uid]' -/
def m127 : MFunc := mclone 37 2 32 [(.str []), (.str [])]


def l128_0 : MCode :=
   (.region false [⟨some 25, .move (.tmp 5) false, none⟩,
    ⟨some 26, .move (.tmp 0) false, none⟩,
    ⟨some 27, .move (.tmp 8) false, none⟩,
    ⟨some 28, .indexAddr 11 (.tmp 26) (.tmp 27), none⟩,
    ⟨some 29, .load true 11 (.tmp 28) false, none⟩,
    ⟨some 30, .mkfunc 163 [(.tmp 4)], none⟩,
    ⟨some 31, .callv (.tmp 25) [(.tmp 29), (.tmp 30)], none⟩])

def l128_1 : MCode :=
   (.seq (.region false [⟨some 38, .load false 1 (.tmp 4) false, none⟩,
    ⟨some 39, .move (.tmp 10) false, none⟩,
    ⟨some 40, .indexAddr 1 (.tmp 38) (.tmp 39), none⟩,
    ⟨some 41, .load false 1 (.tmp 40) false, none⟩,
    ⟨some 42, .bin .eql (.tmp 41) (.const (.int .i64 (0))), none⟩])
   (.cond (.tmp 42) (.region false [⟨some 43, .load false 1 (.tmp 6) true, none⟩,
    ⟨some 44, .move (.tmp 10) false, none⟩,
    ⟨some 45, .buildSlice 3 1 1 [(.int .i64 (0))] [(0, (.tmp 44))], none⟩,
    ⟨some 46, .append 3 1 8 true (.tmp 43) (.tmp 45), none⟩,
    ⟨none, .store 1 (.tmp 6) (.tmp 46), none⟩]) .skip))

def l128_2 : MCode :=
   (.seq (.seq (.region false [⟨some 47, .load false 1 (.tmp 6) false, none⟩,
    ⟨some 48, .len 0 (.tmp 47), none⟩,
    ⟨some 49, .bin .gtr (.tmp 48) (.const (.int .i64 (0))), none⟩])
   (.cond (.tmp 49) .skip (.exit 4)))
   (.seq (.block 5 (.seq (.region false [⟨some 52, .load false 1 (.tmp 6) false, none⟩,
    ⟨some 53, .load false 1 (.tmp 6) false, none⟩,
    ⟨some 54, .len 0 (.tmp 53), none⟩,
    ⟨some 55, .bin .sub (.tmp 54) (.const (.int .i64 (1))), none⟩,
    ⟨some 56, .indexAddr 1 (.tmp 52) (.tmp 55), none⟩,
    ⟨some 57, .load false 1 (.tmp 56) false, none⟩,
    ⟨some 12, .assign (.tmp 57), none⟩])
   (.seq (.region false [⟨some 58, .load false 1 (.tmp 6) false, none⟩,
    ⟨some 59, .load false 1 (.tmp 6) false, none⟩,
    ⟨some 60, .len 0 (.tmp 59), none⟩,
    ⟨some 61, .bin .sub (.tmp 60) (.const (.int .i64 (1))), none⟩,
    ⟨some 62, .slice 1 (.tmp 58) none (some (.tmp 61)), none⟩,
    ⟨none, .store 1 (.tmp 6) (.tmp 62), none⟩])
   (.region false [⟨some 63, .move (.tmp 5) false, none⟩,
    ⟨some 64, .move (.tmp 0) false, none⟩,
    ⟨some 65, .move (.tmp 12) false, none⟩,
    ⟨some 66, .indexAddr 11 (.tmp 64) (.tmp 65), none⟩,
    ⟨some 67, .load true 11 (.tmp 66) false, none⟩,
    ⟨some 68, .mkfunc 164 [(.tmp 4), (.tmp 6)], none⟩,
    ⟨some 69, .callv (.tmp 63) [(.tmp 67), (.tmp 68)], none⟩]))))
   (.region false [⟨some 50, .move (.tmp 11) false, none⟩,
    ⟨some 51, .bin .add (.tmp 50) (.const (.int .i64 (1))), none⟩,
    ⟨some 11, .assign (.tmp 51), none⟩])))

/-- 'chamberlain/entity.Round' -/
def m128 : MFunc :=
  ⟨1, 74, [.tmp 2],
   (.seq (.region false [⟨some 2, .assign (.const (.bool false)), none⟩])
   (.seq (.region false [⟨some 13, .move (.tmp 0) false, none⟩,
    ⟨some 14, .call 123 [(.tmp 13)], none⟩,
    ⟨some 3, .alloc [.nilm], none⟩,
    ⟨none, .store 1 (.tmp 3) (.tmp 14), none⟩])
   (.seq (.region false [⟨some 15, .move (.tmp 0) false, none⟩,
    ⟨some 16, .len 0 (.tmp 15), none⟩,
    ⟨some 17, .mkslice 1 8 [(.int .i64 (0))] (.tmp 16) (.tmp 16), none⟩,
    ⟨some 4, .alloc [(.sl [] (some 3))], none⟩,
    ⟨none, .store 1 (.tmp 4) (.tmp 17), none⟩])
   (.seq (.region false [⟨some 18, .mkfunc 162 [(.tmp 3)], none⟩,
    ⟨some 5, .assign (.tmp 18), none⟩])
   (.seq (.region false [⟨some 6, .alloc [(.sl [] (some 3))], none⟩])
   (.rangeM ⟨[3, 5, 0, 6, 4, 20, 2], [2], [⟨some 19, .load false 1 (.tmp 3) false, none⟩], (.tmp 19), 20, 21, 22, 23, ⟨some 22, .extract (.tmp 21) 0, none⟩, [⟨some 24, .extract (.tmp 23) 1, none⟩,
    ⟨some 8, .assign (.tmp 24), none⟩], 0, 1⟩ l128_0
   (.rangeM ⟨[3, 5, 0, 6, 4, 33, 2], [2], [⟨some 32, .load false 1 (.tmp 3) false, none⟩], (.tmp 32), 33, 34, 35, 36, ⟨some 35, .extract (.tmp 34) 0, none⟩, [⟨some 37, .extract (.tmp 36) 1, none⟩,
    ⟨some 10, .assign (.tmp 37), none⟩], 2, 3⟩ l128_1
   (.seq (.region false [⟨some 11, .assign (.const (.int .i64 (0))), none⟩])
   (.seq (.block 4 (.loop [3, 11, 5, 0, 6, 4, 2] l128_2))
   (.seq (.region false [⟨some 70, .move (.tmp 11) false, none⟩,
    ⟨some 71, .load false 1 (.tmp 3) false, none⟩,
    ⟨some 72, .len 2 (.tmp 71), none⟩,
    ⟨some 73, .bin .lss (.tmp 70) (.tmp 72), none⟩,
    ⟨some 2, .assign (.tmp 73), none⟩])
   .ret))))))))))⟩


/-- 'chamberlain/entity.Canon$2' -/
def m129 : MFunc :=
  ⟨2, 10, [.tmp 4],
   (.seq (.region false [⟨some 2, .box (.tmp 0), none⟩,
    ⟨some 3, .box (.tmp 1), none⟩,
    ⟨some 4, .assign (.const (.int .i64 (0))), none⟩])
   (.seq (.region false [⟨some 5, .fieldAddr 0 (.tmp 2), none⟩,
    ⟨some 6, .load true 2 (.tmp 5) false, none⟩,
    ⟨some 7, .fieldAddr 0 (.tmp 3), none⟩,
    ⟨some 8, .load true 2 (.tmp 7) false, none⟩,
    ⟨some 9, .call 46 [(.tmp 6), (.tmp 8)], none⟩,
    ⟨some 4, .assign (.tmp 9), none⟩])
   .ret))⟩

def l135_0 : MCode :=
   (.seq (.seq (.region false [⟨some 18, .move (.tmp 9) false, none⟩,
    ⟨some 19, .move (.tmp 1) false, none⟩,
    ⟨some 20, .bin .gtr (.tmp 18) (.tmp 19), none⟩,
    ⟨some 21, .move (.tmp 20) false, none⟩,
    ⟨some 22, .move (.tmp 3) false, some (21, true)⟩,
    ⟨some 23, .move (.tmp 0) false, some (21, true)⟩,
    ⟨some 24, .move (.tmp 9) false, some (21, true)⟩,
    ⟨some 25, .indexAddr 2 (.tmp 23) (.tmp 24), some (21, true)⟩,
    ⟨some 26, .load true 2 (.tmp 25) false, some (21, true)⟩,
    ⟨some 27, .move (.tmp 0) false, some (21, true)⟩,
    ⟨some 28, .move (.tmp 9) false, some (21, true)⟩,
    ⟨some 29, .bin .sub (.tmp 28) (.const (.int .i64 (1))), some (21, true)⟩,
    ⟨some 30, .indexAddr 2 (.tmp 27) (.tmp 29), some (21, true)⟩,
    ⟨some 31, .load true 2 (.tmp 30) false, some (21, true)⟩,
    ⟨some 32, .callv (.tmp 22) [(.tmp 26), (.tmp 31)], some (21, true)⟩,
    ⟨some 33, .bin .lss (.tmp 32) (.const (.int .i64 (0))), some (21, true)⟩,
    ⟨some 34, .pick (.tmp 21) (.tmp 33) (.const (.bool false)), none⟩])
   (.cond (.tmp 34) .skip (.exit 2)))
   (.seq (.block 3 (.region false [⟨some 37, .move (.tmp 0) false, none⟩,
    ⟨some 38, .move (.tmp 9) false, none⟩,
    ⟨some 39, .move (.tmp 0) false, none⟩,
    ⟨some 40, .move (.tmp 9) false, none⟩,
    ⟨some 41, .bin .sub (.tmp 40) (.const (.int .i64 (1))), none⟩,
    ⟨some 42, .move (.tmp 0) false, none⟩,
    ⟨some 43, .move (.tmp 9) false, none⟩,
    ⟨some 44, .bin .sub (.tmp 43) (.const (.int .i64 (1))), none⟩,
    ⟨some 45, .indexAddr 2 (.tmp 42) (.tmp 44), none⟩,
    ⟨some 46, .load true 2 (.tmp 45) false, none⟩,
    ⟨some 47, .move (.tmp 0) false, none⟩,
    ⟨some 48, .move (.tmp 9) false, none⟩,
    ⟨some 49, .indexAddr 2 (.tmp 47) (.tmp 48), none⟩,
    ⟨some 50, .load true 2 (.tmp 49) false, none⟩,
    ⟨some 51, .indexAddr 2 (.tmp 37) (.tmp 38), none⟩,
    ⟨none, .store 2 (.tmp 51) (.tmp 46), none⟩,
    ⟨some 52, .indexAddr 2 (.tmp 39) (.tmp 41), none⟩,
    ⟨none, .store 2 (.tmp 52) (.tmp 50), none⟩]))
   (.region false [⟨some 35, .move (.tmp 9) false, none⟩,
    ⟨some 36, .bin .sub (.tmp 35) (.const (.int .i64 (1))), none⟩,
    ⟨some 9, .assign (.tmp 36), none⟩])))

def l135_1 : MCode :=
   (.seq (.seq (.region false [⟨some 12, .move (.tmp 8) false, none⟩,
    ⟨some 13, .move (.tmp 2) false, none⟩,
    ⟨some 14, .bin .lss (.tmp 12) (.tmp 13), none⟩])
   (.cond (.tmp 14) .skip (.exit 0)))
   (.seq (.block 1 (.seq (.region false [⟨some 17, .move (.tmp 8) false, none⟩,
    ⟨some 9, .assign (.tmp 17), none⟩])
   (.block 2 (.loop [1, 3, 0, 2, 8, 9] l135_0))))
   (.region false [⟨some 15, .move (.tmp 8) false, none⟩,
    ⟨some 16, .bin .add (.tmp 15) (.const (.int .i64 (1))), none⟩,
    ⟨some 8, .assign (.tmp 16), none⟩])))

/-- 'slices.insertionSortCmpFunc[chamberlain/api.Uid]' -/
def m135 : MFunc :=
  ⟨4, 53, [],
   (.seq (.region false [⟨some 10, .move (.tmp 1) false, none⟩,
    ⟨some 11, .bin .add (.tmp 10) (.const (.int .i64 (1))), none⟩,
    ⟨some 8, .assign (.tmp 11), none⟩])
   (.block 0 (.loop [1, 3, 0, 8, 2] l135_1)))⟩


/-- 'slices.choosePivotCmpFunc[chamberlain/api.Uid]' -/
def m138 : MFunc :=
  ⟨4, 63, [.tmp 8, .tmp 9],
   (.seq (.region false [⟨some 8, .assign (.const (.int .i64 (0))), none⟩,
    ⟨some 9, .assign (.const (.int .i64 (0))), none⟩])
   (.seq (.region false [⟨some 15, .move (.tmp 2) false, none⟩,
    ⟨some 16, .move (.tmp 1) false, none⟩,
    ⟨some 17, .bin .sub (.tmp 15) (.tmp 16), none⟩,
    ⟨some 10, .assign (.tmp 17), none⟩])
   (.seq (.region false [⟨some 11, .alloc [(.int .i64 (0))], none⟩])
   (.seq (.region false [⟨some 18, .move (.tmp 1) false, none⟩,
    ⟨some 19, .move (.tmp 10) false, none⟩,
    ⟨some 20, .bin .quo (.tmp 19) (.const (.int .i64 (4))), none⟩,
    ⟨some 21, .bin .mul (.tmp 20) (.const (.int .i64 (1))), none⟩,
    ⟨some 22, .bin .add (.tmp 18) (.tmp 21), none⟩,
    ⟨some 12, .assign (.tmp 22), none⟩])
   (.seq (.region false [⟨some 23, .move (.tmp 1) false, none⟩,
    ⟨some 24, .move (.tmp 10) false, none⟩,
    ⟨some 25, .bin .quo (.tmp 24) (.const (.int .i64 (4))), none⟩,
    ⟨some 26, .bin .mul (.tmp 25) (.const (.int .i64 (2))), none⟩,
    ⟨some 27, .bin .add (.tmp 23) (.tmp 26), none⟩,
    ⟨some 13, .assign (.tmp 27), none⟩])
   (.seq (.region false [⟨some 28, .move (.tmp 1) false, none⟩,
    ⟨some 29, .move (.tmp 10) false, none⟩,
    ⟨some 30, .bin .quo (.tmp 29) (.const (.int .i64 (4))), none⟩,
    ⟨some 31, .bin .mul (.tmp 30) (.const (.int .i64 (3))), none⟩,
    ⟨some 32, .bin .add (.tmp 28) (.tmp 31), none⟩,
    ⟨some 14, .assign (.tmp 32), none⟩])
   (.seq (.seq (.region false [⟨some 33, .move (.tmp 10) false, none⟩,
    ⟨some 34, .bin .geq (.tmp 33) (.const (.int .i64 (8))), none⟩])
   (.cond (.tmp 34) (.seq (.seq (.region false [⟨some 35, .move (.tmp 10) false, none⟩,
    ⟨some 36, .bin .geq (.tmp 35) (.const (.int .i64 (50))), none⟩])
   (.cond (.tmp 36) (.seq (.region false [⟨some 37, .move (.tmp 0) false, none⟩,
    ⟨some 38, .move (.tmp 12) false, none⟩,
    ⟨some 39, .move (.tmp 3) false, none⟩,
    ⟨some 40, .call 169 [(.tmp 37), (.tmp 38), (.tmp 11), (.tmp 39)], none⟩,
    ⟨some 12, .assign (.tmp 40), none⟩])
   (.seq (.region false [⟨some 41, .move (.tmp 0) false, none⟩,
    ⟨some 42, .move (.tmp 13) false, none⟩,
    ⟨some 43, .move (.tmp 3) false, none⟩,
    ⟨some 44, .call 169 [(.tmp 41), (.tmp 42), (.tmp 11), (.tmp 43)], none⟩,
    ⟨some 13, .assign (.tmp 44), none⟩])
   (.region false [⟨some 45, .move (.tmp 0) false, none⟩,
    ⟨some 46, .move (.tmp 14) false, none⟩,
    ⟨some 47, .move (.tmp 3) false, none⟩,
    ⟨some 48, .call 169 [(.tmp 45), (.tmp 46), (.tmp 11), (.tmp 47)], none⟩,
    ⟨some 14, .assign (.tmp 48), none⟩]))) .skip))
   (.region false [⟨some 49, .move (.tmp 0) false, none⟩,
    ⟨some 50, .move (.tmp 12) false, none⟩,
    ⟨some 51, .move (.tmp 13) false, none⟩,
    ⟨some 52, .move (.tmp 14) false, none⟩,
    ⟨some 53, .move (.tmp 3) false, none⟩,
    ⟨some 54, .call 170 [(.tmp 49), (.tmp 50), (.tmp 51), (.tmp 52), (.tmp 11), (.tmp 53)], none⟩,
    ⟨some 13, .assign (.tmp 54), none⟩])) .skip))
   (.seq (.region false [⟨some 55, .load false 1 (.tmp 11) false, none⟩])
   (.block 0 (.seq (.region false [⟨some 58, .bin .eql (.tmp 55) (.const (.int .i64 (0))), none⟩,
    ⟨some 57, .assign (.tmp 58), none⟩])
   (.cond (.tmp 57) (.seq (.region false [⟨some 59, .move (.tmp 13) false, none⟩,
    ⟨some 8, .assign (.tmp 59), none⟩,
    ⟨some 9, .assign (.const (.int .i64 (1))), none⟩])
   .ret) (.seq (.region false [⟨some 61, .bin .eql (.tmp 55) (.const (.int .i64 (12))), none⟩,
    ⟨some 60, .assign (.tmp 61), none⟩])
   (.cond (.tmp 60) (.seq (.region false [⟨some 62, .move (.tmp 13) false, none⟩,
    ⟨some 8, .assign (.tmp 62), none⟩,
    ⟨some 9, .assign (.const (.int .i64 (2))), none⟩])
   .ret) (.seq (.region false [⟨some 56, .move (.tmp 13) false, none⟩,
    ⟨some 8, .assign (.tmp 56), none⟩,
    ⟨some 9, .assign (.const (.int .i64 (0))), none⟩])
   .ret))))))))))))))⟩

def l140_0 : MCode :=
   (.seq (.seq (.region false [⟨some 19, .move (.tmp 9) false, none⟩,
    ⟨some 20, .move (.tmp 2) false, none⟩,
    ⟨some 21, .bin .lss (.tmp 19) (.tmp 20), none⟩,
    ⟨some 22, .move (.tmp 21) false, none⟩,
    ⟨some 23, .move (.tmp 3) false, some (22, true)⟩,
    ⟨some 24, .move (.tmp 0) false, some (22, true)⟩,
    ⟨some 25, .move (.tmp 9) false, some (22, true)⟩,
    ⟨some 26, .indexAddr 2 (.tmp 24) (.tmp 25), some (22, true)⟩,
    ⟨some 27, .load true 2 (.tmp 26) false, some (22, true)⟩,
    ⟨some 28, .move (.tmp 0) false, some (22, true)⟩,
    ⟨some 29, .move (.tmp 9) false, some (22, true)⟩,
    ⟨some 30, .bin .sub (.tmp 29) (.const (.int .i64 (1))), some (22, true)⟩,
    ⟨some 31, .indexAddr 2 (.tmp 28) (.tmp 30), some (22, true)⟩,
    ⟨some 32, .load true 2 (.tmp 31) false, some (22, true)⟩,
    ⟨some 33, .callv (.tmp 23) [(.tmp 27), (.tmp 32)], some (22, true)⟩,
    ⟨some 34, .bin .lss (.tmp 33) (.const (.int .i64 (0))), some (22, true)⟩,
    ⟨some 35, .un .not (.tmp 34), some (22, true)⟩,
    ⟨some 36, .pick (.tmp 22) (.tmp 35) (.const (.bool false)), none⟩])
   (.cond (.tmp 36) .skip (.exit 2)))
   (.block 3 (.region false [⟨some 37, .move (.tmp 9) false, none⟩,
    ⟨some 38, .bin .add (.tmp 37) (.const (.int .i64 (1))), none⟩,
    ⟨some 9, .assign (.tmp 38), none⟩])))

def l140_1 : MCode :=
   (.seq (.seq (.region false [⟨some 68, .move (.tmp 11) false, none⟩,
    ⟨some 69, .bin .geq (.tmp 68) (.const (.int .i64 (1))), none⟩])
   (.cond (.tmp 69) .skip (.exit 4)))
   (.seq (.block 5 (.seq (.seq (.region false [⟨some 72, .move (.tmp 3) false, none⟩,
    ⟨some 73, .move (.tmp 0) false, none⟩,
    ⟨some 74, .move (.tmp 11) false, none⟩,
    ⟨some 75, .indexAddr 2 (.tmp 73) (.tmp 74), none⟩,
    ⟨some 76, .load true 2 (.tmp 75) false, none⟩,
    ⟨some 77, .move (.tmp 0) false, none⟩,
    ⟨some 78, .move (.tmp 11) false, none⟩,
    ⟨some 79, .bin .sub (.tmp 78) (.const (.int .i64 (1))), none⟩,
    ⟨some 80, .indexAddr 2 (.tmp 77) (.tmp 79), none⟩,
    ⟨some 81, .load true 2 (.tmp 80) false, none⟩,
    ⟨some 82, .callv (.tmp 72) [(.tmp 76), (.tmp 81)], none⟩,
    ⟨some 83, .bin .lss (.tmp 82) (.const (.int .i64 (0))), none⟩,
    ⟨some 84, .un .not (.tmp 83), none⟩])
   (.cond (.tmp 84) (.exit 4) .skip))
   (.region false [⟨some 85, .move (.tmp 0) false, none⟩,
    ⟨some 86, .move (.tmp 11) false, none⟩,
    ⟨some 87, .move (.tmp 0) false, none⟩,
    ⟨some 88, .move (.tmp 11) false, none⟩,
    ⟨some 89, .bin .sub (.tmp 88) (.const (.int .i64 (1))), none⟩,
    ⟨some 90, .move (.tmp 0) false, none⟩,
    ⟨some 91, .move (.tmp 11) false, none⟩,
    ⟨some 92, .bin .sub (.tmp 91) (.const (.int .i64 (1))), none⟩,
    ⟨some 93, .indexAddr 2 (.tmp 90) (.tmp 92), none⟩,
    ⟨some 94, .load true 2 (.tmp 93) false, none⟩,
    ⟨some 95, .move (.tmp 0) false, none⟩,
    ⟨some 96, .move (.tmp 11) false, none⟩,
    ⟨some 97, .indexAddr 2 (.tmp 95) (.tmp 96), none⟩,
    ⟨some 98, .load true 2 (.tmp 97) false, none⟩,
    ⟨some 99, .indexAddr 2 (.tmp 85) (.tmp 86), none⟩,
    ⟨none, .store 2 (.tmp 99) (.tmp 94), none⟩,
    ⟨some 100, .indexAddr 2 (.tmp 87) (.tmp 89), none⟩,
    ⟨none, .store 2 (.tmp 100) (.tmp 98), none⟩])))
   (.region false [⟨some 70, .move (.tmp 11) false, none⟩,
    ⟨some 71, .bin .sub (.tmp 70) (.const (.int .i64 (1))), none⟩,
    ⟨some 11, .assign (.tmp 71), none⟩])))

def l140_2 : MCode :=
   (.seq (.seq (.region false [⟨some 107, .move (.tmp 12) false, none⟩,
    ⟨some 108, .move (.tmp 2) false, none⟩,
    ⟨some 109, .bin .lss (.tmp 107) (.tmp 108), none⟩])
   (.cond (.tmp 109) .skip (.exit 6)))
   (.seq (.block 7 (.seq (.seq (.region false [⟨some 112, .move (.tmp 3) false, none⟩,
    ⟨some 113, .move (.tmp 0) false, none⟩,
    ⟨some 114, .move (.tmp 12) false, none⟩,
    ⟨some 115, .indexAddr 2 (.tmp 113) (.tmp 114), none⟩,
    ⟨some 116, .load true 2 (.tmp 115) false, none⟩,
    ⟨some 117, .move (.tmp 0) false, none⟩,
    ⟨some 118, .move (.tmp 12) false, none⟩,
    ⟨some 119, .bin .sub (.tmp 118) (.const (.int .i64 (1))), none⟩,
    ⟨some 120, .indexAddr 2 (.tmp 117) (.tmp 119), none⟩,
    ⟨some 121, .load true 2 (.tmp 120) false, none⟩,
    ⟨some 122, .callv (.tmp 112) [(.tmp 116), (.tmp 121)], none⟩,
    ⟨some 123, .bin .lss (.tmp 122) (.const (.int .i64 (0))), none⟩,
    ⟨some 124, .un .not (.tmp 123), none⟩])
   (.cond (.tmp 124) (.exit 6) .skip))
   (.region false [⟨some 125, .move (.tmp 0) false, none⟩,
    ⟨some 126, .move (.tmp 12) false, none⟩,
    ⟨some 127, .move (.tmp 0) false, none⟩,
    ⟨some 128, .move (.tmp 12) false, none⟩,
    ⟨some 129, .bin .sub (.tmp 128) (.const (.int .i64 (1))), none⟩,
    ⟨some 130, .move (.tmp 0) false, none⟩,
    ⟨some 131, .move (.tmp 12) false, none⟩,
    ⟨some 132, .bin .sub (.tmp 131) (.const (.int .i64 (1))), none⟩,
    ⟨some 133, .indexAddr 2 (.tmp 130) (.tmp 132), none⟩,
    ⟨some 134, .load true 2 (.tmp 133) false, none⟩,
    ⟨some 135, .move (.tmp 0) false, none⟩,
    ⟨some 136, .move (.tmp 12) false, none⟩,
    ⟨some 137, .indexAddr 2 (.tmp 135) (.tmp 136), none⟩,
    ⟨some 138, .load true 2 (.tmp 137) false, none⟩,
    ⟨some 139, .indexAddr 2 (.tmp 125) (.tmp 126), none⟩,
    ⟨none, .store 2 (.tmp 139) (.tmp 134), none⟩,
    ⟨some 140, .indexAddr 2 (.tmp 127) (.tmp 129), none⟩,
    ⟨none, .store 2 (.tmp 140) (.tmp 138), none⟩])))
   (.region false [⟨some 110, .move (.tmp 12) false, none⟩,
    ⟨some 111, .bin .add (.tmp 110) (.const (.int .i64 (1))), none⟩,
    ⟨some 12, .assign (.tmp 111), none⟩])))

def l140_3 : MCode :=
   (.seq (.seq (.region false [⟨some 15, .move (.tmp 10) false, none⟩,
    ⟨some 16, .bin .lss (.tmp 15) (.const (.int .i64 (5))), none⟩])
   (.cond (.tmp 16) .skip (.exit 0)))
   (.seq (.block 1 (.seq (.block 2 (.loop [1, 3, 0, 2, 9, 10, 8] l140_0))
   (.seq (.seq (.region false [⟨some 39, .move (.tmp 9) false, none⟩,
    ⟨some 40, .move (.tmp 2) false, none⟩,
    ⟨some 41, .bin .eql (.tmp 39) (.tmp 40), none⟩])
   (.cond (.tmp 41) (.seq (.region false [⟨some 8, .assign (.const (.bool true)), none⟩])
   .ret) .skip))
   (.seq (.seq (.region false [⟨some 42, .move (.tmp 2) false, none⟩,
    ⟨some 43, .move (.tmp 1) false, none⟩,
    ⟨some 44, .bin .sub (.tmp 42) (.tmp 43), none⟩,
    ⟨some 45, .bin .lss (.tmp 44) (.const (.int .i64 (50))), none⟩])
   (.cond (.tmp 45) (.seq (.region false [⟨some 8, .assign (.const (.bool false)), none⟩])
   .ret) .skip))
   (.seq (.region false [⟨some 46, .move (.tmp 0) false, none⟩,
    ⟨some 47, .move (.tmp 9) false, none⟩,
    ⟨some 48, .move (.tmp 0) false, none⟩,
    ⟨some 49, .move (.tmp 9) false, none⟩,
    ⟨some 50, .bin .sub (.tmp 49) (.const (.int .i64 (1))), none⟩,
    ⟨some 51, .move (.tmp 0) false, none⟩,
    ⟨some 52, .move (.tmp 9) false, none⟩,
    ⟨some 53, .bin .sub (.tmp 52) (.const (.int .i64 (1))), none⟩,
    ⟨some 54, .indexAddr 2 (.tmp 51) (.tmp 53), none⟩,
    ⟨some 55, .load true 2 (.tmp 54) false, none⟩,
    ⟨some 56, .move (.tmp 0) false, none⟩,
    ⟨some 57, .move (.tmp 9) false, none⟩,
    ⟨some 58, .indexAddr 2 (.tmp 56) (.tmp 57), none⟩,
    ⟨some 59, .load true 2 (.tmp 58) false, none⟩,
    ⟨some 60, .indexAddr 2 (.tmp 46) (.tmp 47), none⟩,
    ⟨none, .store 2 (.tmp 60) (.tmp 55), none⟩,
    ⟨some 61, .indexAddr 2 (.tmp 48) (.tmp 50), none⟩,
    ⟨none, .store 2 (.tmp 61) (.tmp 59), none⟩])
   (.seq (.seq (.region false [⟨some 62, .move (.tmp 9) false, none⟩,
    ⟨some 63, .move (.tmp 1) false, none⟩,
    ⟨some 64, .bin .sub (.tmp 62) (.tmp 63), none⟩,
    ⟨some 65, .bin .geq (.tmp 64) (.const (.int .i64 (2))), none⟩])
   (.cond (.tmp 65) (.seq (.region false [⟨some 66, .move (.tmp 9) false, none⟩,
    ⟨some 67, .bin .sub (.tmp 66) (.const (.int .i64 (1))), none⟩,
    ⟨some 11, .assign (.tmp 67), none⟩])
   (.block 4 (.loop [1, 3, 0, 2, 9, 10, 11, 8] l140_1))) .skip))
   (.seq (.region false [⟨some 101, .move (.tmp 2) false, none⟩,
    ⟨some 102, .move (.tmp 9) false, none⟩,
    ⟨some 103, .bin .sub (.tmp 101) (.tmp 102), none⟩,
    ⟨some 104, .bin .geq (.tmp 103) (.const (.int .i64 (2))), none⟩])
   (.cond (.tmp 104) (.seq (.region false [⟨some 105, .move (.tmp 9) false, none⟩,
    ⟨some 106, .bin .add (.tmp 105) (.const (.int .i64 (1))), none⟩,
    ⟨some 12, .assign (.tmp 106), none⟩])
   (.block 6 (.loop [1, 3, 0, 2, 9, 10, 12, 8] l140_2))) .skip))))))))
   (.region false [⟨some 17, .move (.tmp 10) false, none⟩,
    ⟨some 18, .bin .add (.tmp 17) (.const (.int .i64 (1))), none⟩,
    ⟨some 10, .assign (.tmp 18), none⟩])))

/-- 'slices.partialInsertionSortCmpFunc[chamberlain/api.Uid]' -/
def m140 : MFunc :=
  ⟨4, 141, [.tmp 8],
   (.seq (.region false [⟨some 8, .assign (.const (.bool false)), none⟩])
   (.seq (.region false [⟨some 13, .move (.tmp 1) false, none⟩,
    ⟨some 14, .bin .add (.tmp 13) (.const (.int .i64 (1))), none⟩,
    ⟨some 9, .assign (.tmp 14), none⟩])
   (.seq (.seq (.region false [⟨some 10, .assign (.const (.int .i64 (0))), none⟩])
   (.block 0 (.loop [1, 3, 0, 2, 9, 10, 8] l140_3)))
   (.seq (.region false [⟨some 8, .assign (.const (.bool false)), none⟩])
   .ret))))⟩

def l146_0 : MCode :=
   (.seq (.seq (.region false [⟨some 6, .move (.tmp 5) false, none⟩,
    ⟨some 7, .move (.tmp 0) false, none⟩,
    ⟨some 8, .len 1 (.tmp 7), none⟩,
    ⟨some 9, .bin .lss (.tmp 6) (.tmp 8), none⟩,
    ⟨some 10, .move (.tmp 9) false, none⟩,
    ⟨some 11, .move (.tmp 5) false, some (10, true)⟩,
    ⟨some 12, .move (.tmp 1) false, some (10, true)⟩,
    ⟨some 13, .len 1 (.tmp 12), some (10, true)⟩,
    ⟨some 14, .bin .lss (.tmp 11) (.tmp 13), some (10, true)⟩,
    ⟨some 15, .pick (.tmp 10) (.tmp 14) (.const (.bool false)), none⟩])
   (.cond (.tmp 15) .skip (.exit 0)))
   (.seq (.block 1 (.seq (.region false [⟨some 18, .move (.tmp 0) false, none⟩,
    ⟨some 19, .move (.tmp 5) false, none⟩,
    ⟨some 20, .indexStr (.tmp 18) (.tmp 19), none⟩,
    ⟨some 21, .move (.tmp 1) false, none⟩,
    ⟨some 22, .move (.tmp 5) false, none⟩,
    ⟨some 23, .indexStr (.tmp 21) (.tmp 22), none⟩,
    ⟨some 24, .bin .neq (.tmp 20) (.tmp 23), none⟩])
   (.cond (.tmp 24) (.seq (.seq (.region false [⟨some 25, .move (.tmp 0) false, none⟩,
    ⟨some 26, .move (.tmp 5) false, none⟩,
    ⟨some 27, .indexStr (.tmp 25) (.tmp 26), none⟩,
    ⟨some 28, .move (.tmp 1) false, none⟩,
    ⟨some 29, .move (.tmp 5) false, none⟩,
    ⟨some 30, .indexStr (.tmp 28) (.tmp 29), none⟩,
    ⟨some 31, .bin .lss (.tmp 27) (.tmp 30), none⟩])
   (.cond (.tmp 31) (.seq (.region false [⟨some 4, .assign (.const (.int .i64 (-1))), none⟩])
   .ret) .skip))
   (.seq (.region false [⟨some 4, .assign (.const (.int .i64 (1))), none⟩])
   .ret)) .skip)))
   (.region false [⟨some 16, .move (.tmp 5) false, none⟩,
    ⟨some 17, .bin .add (.tmp 16) (.const (.int .i64 (1))), none⟩,
    ⟨some 5, .assign (.tmp 17), none⟩])))

/-- 'chamberlain/chamberlainref03.Texts' -/
def m146 : MFunc :=
  ⟨2, 37, [.tmp 4],
   (.seq (.region false [⟨some 4, .assign (.const (.int .i64 (0))), none⟩])
   (.seq (.seq (.region false [⟨some 5, .assign (.const (.int .i64 (0))), none⟩])
   (.block 0 (.loop [1, 0, 5, 4] l146_0)))
   (.seq (.region false [⟨some 32, .move (.tmp 0) false, none⟩,
    ⟨some 33, .len 1 (.tmp 32), none⟩,
    ⟨some 34, .move (.tmp 1) false, none⟩,
    ⟨some 35, .len 1 (.tmp 34), none⟩,
    ⟨some 36, .call 171 [(.tmp 33), (.tmp 35)], none⟩,
    ⟨some 4, .assign (.tmp 36), none⟩])
   .ret)))⟩


/-- 'chamberlain/chamberlainref12.next' -/
def m147 : MFunc :=
  ⟨3, 32, [.tmp 6],
   (.seq (.region false [⟨some 3, .box (.tmp 0), none⟩,
    ⟨some 6, .assign (.const (.sl [] (some 9))), none⟩])
   (.seq (.seq (.region false [⟨some 9, .move (.tmp 1) false, none⟩])
   (.cond (.tmp 9) (.seq (.region false [⟨some 10, .load true 2 (.tmp 3) false, none⟩,
    ⟨some 11, .move (.tmp 2) false, none⟩,
    ⟨some 12, .call 144 [(.tmp 10), (.tmp 11)], none⟩,
    ⟨some 7, .assign (.tmp 12), none⟩])
   (.seq (.seq (.region false [⟨some 13, .move (.tmp 7) false, none⟩,
    ⟨some 14, .bin .lss (.tmp 13) (.const (.int .i64 (0))), none⟩])
   (.cond (.tmp 14) (.seq (.region false [⟨some 6, .assign (.const (.sl [] (some 9))), none⟩])
   .ret) .skip))
   (.seq (.region false [⟨some 15, .fieldAddr 1 (.tmp 3), none⟩,
    ⟨some 16, .load false 1 (.tmp 15) false, none⟩,
    ⟨some 17, .move (.tmp 7) false, none⟩,
    ⟨some 18, .indexAddr 5 (.tmp 16) (.tmp 17), none⟩,
    ⟨some 19, .fieldAddr 1 (.tmp 18), none⟩,
    ⟨some 20, .load false 1 (.tmp 19) false, none⟩,
    ⟨some 6, .assign (.tmp 20), none⟩])
   .ret))) .skip))
   (.seq (.region false [⟨some 21, .load true 2 (.tmp 3) false, none⟩,
    ⟨some 22, .move (.tmp 2) false, none⟩,
    ⟨some 23, .call 172 [(.tmp 21), (.tmp 22)], none⟩,
    ⟨some 8, .assign (.tmp 23), none⟩])
   (.seq (.seq (.region false [⟨some 24, .move (.tmp 8) false, none⟩,
    ⟨some 25, .bin .lss (.tmp 24) (.const (.int .i64 (0))), none⟩])
   (.cond (.tmp 25) (.seq (.region false [⟨some 6, .assign (.const (.sl [] (some 9))), none⟩])
   .ret) .skip))
   (.seq (.region false [⟨some 26, .fieldAddr 0 (.tmp 3), none⟩,
    ⟨some 27, .load false 1 (.tmp 26) false, none⟩,
    ⟨some 28, .move (.tmp 8) false, none⟩,
    ⟨some 29, .indexAddr 3 (.tmp 27) (.tmp 28), none⟩,
    ⟨some 30, .fieldAddr 1 (.tmp 29), none⟩,
    ⟨some 31, .load false 1 (.tmp 30) false, none⟩,
    ⟨some 6, .assign (.tmp 31), none⟩])
   .ret)))))⟩

def l148_0 : MCode :=
   (.seq (.seq (.region false [⟨some 6, .move (.tmp 5) false, none⟩,
    ⟨some 7, .move (.tmp 0) false, none⟩,
    ⟨some 8, .len 0 (.tmp 7), none⟩,
    ⟨some 9, .bin .lss (.tmp 6) (.tmp 8), none⟩])
   (.cond (.tmp 9) .skip (.exit 0)))
   (.seq (.block 1 (.seq (.region false [⟨some 12, .move (.tmp 0) false, none⟩,
    ⟨some 13, .move (.tmp 5) false, none⟩,
    ⟨some 14, .indexAddr 1 (.tmp 12) (.tmp 13), none⟩,
    ⟨some 15, .load false 1 (.tmp 14) false, none⟩,
    ⟨some 16, .move (.tmp 1) false, none⟩,
    ⟨some 17, .bin .eql (.tmp 15) (.tmp 16), none⟩])
   (.cond (.tmp 17) (.seq (.region false [⟨some 4, .assign (.const (.bool true)), none⟩])
   .ret) .skip)))
   (.region false [⟨some 10, .move (.tmp 5) false, none⟩,
    ⟨some 11, .bin .add (.tmp 10) (.const (.int .i64 (1))), none⟩,
    ⟨some 5, .assign (.tmp 11), none⟩])))

/-- 'chamberlain/chamberlainref12.has' -/
def m148 : MFunc :=
  ⟨2, 18, [.tmp 4],
   (.seq (.region false [⟨some 4, .assign (.const (.bool false)), none⟩])
   (.seq (.seq (.region false [⟨some 5, .assign (.const (.int .i64 (0))), none⟩])
   (.block 0 (.loop [0, 1, 5, 4] l148_0)))
   (.seq (.region false [⟨some 4, .assign (.const (.bool false)), none⟩])
   .ret)))⟩

def l159_0 : MCode :=
   (.seq (.region false [⟨some 18, .bin .lss (.tmp 17) (.tmp 16), none⟩])
   (.seq (.cond (.tmp 18) .skip (.exit 0))
   (.seq (.block 1 (.seq (.region false [⟨some 19, .indexAddr 8 (.tmp 15) (.tmp 17), none⟩,
    ⟨some 20, .load true 8 (.tmp 19) false, none⟩,
    ⟨some 5, .alloc [(.int .i64 (0)), (.bool false), (.int .i64 (0)), (.str []), (.str []), (.str []), (.sl [] (some 69)), (.sl [] (some 9))], none⟩,
    ⟨none, .store 8 (.tmp 5) (.tmp 20), none⟩])
   (.region false [⟨some 21, .move (.tmp 3) false, none⟩,
    ⟨some 22, .load true 8 (.tmp 5) false, none⟩,
    ⟨some 23, .call 159 [(.tmp 22)], none⟩,
    ⟨some 24, .max [(.tmp 21), (.tmp 23)], none⟩,
    ⟨some 3, .assign (.tmp 24), none⟩])))
   (.region false [⟨some 25, .bin .add (.tmp 17) (.const (.int .i64 (1))), none⟩,
    ⟨some 17, .move (.tmp 25) false, none⟩]))))

/-- 'chamberlain/value.Depth' -/
def m159 : MFunc :=
  ⟨1, 28, [.tmp 2],
   (.seq (.region false [⟨some 1, .box (.tmp 0), none⟩,
    ⟨some 2, .assign (.const (.int .i64 (0))), none⟩])
   (.seq (.seq (.region false [⟨some 6, .fieldAddr 0 (.tmp 1), none⟩,
    ⟨some 7, .load false 1 (.tmp 6) false, none⟩,
    ⟨some 8, .bin .neq (.tmp 7) (.const (.int .i64 (5))), none⟩,
    ⟨some 9, .move (.tmp 8) false, none⟩,
    ⟨some 10, .fieldAddr 0 (.tmp 1), some (9, true)⟩,
    ⟨some 11, .load false 1 (.tmp 10) false, some (9, true)⟩,
    ⟨some 12, .bin .neq (.tmp 11) (.const (.int .i64 (6))), some (9, true)⟩,
    ⟨some 13, .pick (.tmp 9) (.tmp 12) (.const (.bool false)), none⟩])
   (.cond (.tmp 13) (.seq (.region false [⟨some 2, .assign (.const (.int .i64 (1))), none⟩])
   .ret) .skip))
   (.seq (.region false [⟨some 3, .assign (.const (.int .i64 (0))), none⟩])
   (.seq (.seq (.region false [⟨some 14, .fieldAddr 6 (.tmp 1), none⟩,
    ⟨some 15, .load false 1 (.tmp 14) false, none⟩,
    ⟨some 16, .len 0 (.tmp 15), none⟩,
    ⟨some 17, .move (.const (.int .i64 (0))) false, none⟩])
   (.block 0 (.loop [3, 15, 17, 16, 2] l159_0)))
   (.seq (.region false [⟨some 26, .move (.tmp 3) false, none⟩,
    ⟨some 27, .bin .add (.tmp 26) (.const (.int .i64 (1))), none⟩,
    ⟨some 2, .assign (.tmp 27), none⟩])
   .ret)))))⟩


/-- 'chamberlain/value.canon' -/
def m160 : MFunc :=
  ⟨1, 74, [.cell 2 true 8, .tmp 3],
   (.seq (.region false [⟨some 1, .box (.tmp 0), none⟩,
    ⟨some 2, .alloc [(.int .i64 (0)), (.bool false), (.int .i64 (0)), (.str []), (.str []), (.str []), (.sl [] (some 69)), (.sl [] (some 9))], none⟩,
    ⟨some 3, .assign (.const (.int .i64 (0))), none⟩])
   (.seq (.seq (.region false [⟨some 8, .fieldAddr 0 (.tmp 1), none⟩,
    ⟨some 9, .load false 1 (.tmp 8) false, none⟩])
   (.block 0 (.seq (.region false [⟨some 11, .bin .eql (.tmp 9) (.const (.int .i64 (1))), none⟩,
    ⟨some 10, .assign (.tmp 11), none⟩])
   (.cond (.tmp 10) (.seq (.region false [⟨some 12, .fieldAddr 1 (.tmp 1), none⟩,
    ⟨some 13, .load false 1 (.tmp 12) false, none⟩,
    ⟨some 14, .build [(.int .i64 (0)), (.bool false), (.int .i64 (0)), (.str []), (.str []), (.str []), (.nils 69), (.nils 9)] [(0, 1, (.const (.int .i64 (1)))), (1, 1, (.tmp 13))], none⟩,
    ⟨none, .store 8 (.tmp 2) (.tmp 14), none⟩,
    ⟨some 3, .assign (.const (.int .i64 (0))), none⟩])
   .ret) (.seq (.region false [⟨some 16, .bin .eql (.tmp 9) (.const (.int .i64 (2))), none⟩,
    ⟨some 15, .assign (.tmp 16), none⟩])
   (.cond (.tmp 15) (.seq (.region false [⟨some 17, .fieldAddr 2 (.tmp 1), none⟩,
    ⟨some 18, .load false 1 (.tmp 17) false, none⟩,
    ⟨some 19, .build [(.int .i64 (0)), (.bool false), (.int .i64 (0)), (.str []), (.str []), (.str []), (.nils 69), (.nils 9)] [(0, 1, (.const (.int .i64 (2)))), (2, 1, (.tmp 18))], none⟩,
    ⟨none, .store 8 (.tmp 2) (.tmp 19), none⟩,
    ⟨some 3, .assign (.const (.int .i64 (0))), none⟩])
   .ret) (.seq (.region false [⟨some 21, .bin .eql (.tmp 9) (.const (.int .i64 (3))), none⟩,
    ⟨some 20, .assign (.tmp 21), none⟩])
   (.cond (.tmp 20) (.seq (.region false [⟨some 22, .fieldAddr 3 (.tmp 1), none⟩,
    ⟨some 23, .load false 1 (.tmp 22) false, none⟩,
    ⟨some 24, .build [(.int .i64 (0)), (.bool false), (.int .i64 (0)), (.str []), (.str []), (.str []), (.nils 69), (.nils 9)] [(0, 1, (.const (.int .i64 (3)))), (3, 1, (.tmp 23))], none⟩,
    ⟨none, .store 8 (.tmp 2) (.tmp 24), none⟩,
    ⟨some 3, .assign (.const (.int .i64 (0))), none⟩])
   .ret) (.seq (.region false [⟨some 26, .bin .eql (.tmp 9) (.const (.int .i64 (4))), none⟩,
    ⟨some 25, .assign (.tmp 26), none⟩])
   (.cond (.tmp 25) (.seq (.region false [⟨some 27, .fieldAddr 4 (.tmp 1), none⟩,
    ⟨some 28, .load true 2 (.tmp 27) false, none⟩,
    ⟨some 29, .build [(.int .i64 (0)), (.bool false), (.int .i64 (0)), (.str []), (.str []), (.str []), (.nils 69), (.nils 9)] [(0, 1, (.const (.int .i64 (4)))), (4, 2, (.tmp 28))], none⟩,
    ⟨none, .store 8 (.tmp 2) (.tmp 29), none⟩,
    ⟨some 3, .assign (.const (.int .i64 (0))), none⟩])
   .ret) (.seq (.region false [⟨some 31, .bin .eql (.tmp 9) (.const (.int .i64 (5))), none⟩,
    ⟨some 30, .assign (.tmp 31), none⟩])
   (.cond (.tmp 30) (.seq (.region false [⟨some 33, .fieldAddr 6 (.tmp 1), none⟩,
    ⟨some 34, .load false 1 (.tmp 33) false, none⟩,
    ⟨some 35, .call 176 [(.tmp 34)], none⟩,
    ⟨some 32, .move (.tmp 35) false, none⟩,
    ⟨some 36, .extract (.tmp 32) 0, none⟩,
    ⟨some 37, .extract (.tmp 32) 1, none⟩,
    ⟨some 4, .assign (.tmp 36), none⟩,
    ⟨some 5, .assign (.tmp 37), none⟩])
   (.seq (.seq (.region false [⟨some 38, .move (.tmp 5) false, none⟩,
    ⟨some 39, .bin .neq (.tmp 38) (.const (.int .i64 (0))), none⟩])
   (.cond (.tmp 39) (.seq (.region false [⟨some 40, .build [(.int .i64 (0)), (.bool false), (.int .i64 (0)), (.str []), (.str []), (.str []), (.nils 69), (.nils 9)] [], none⟩,
    ⟨some 41, .move (.tmp 5) false, none⟩,
    ⟨none, .store 8 (.tmp 2) (.tmp 40), none⟩,
    ⟨some 3, .assign (.tmp 41), none⟩])
   .ret) .skip))
   (.seq (.region false [⟨some 42, .move (.tmp 4) false, none⟩,
    ⟨some 43, .call 177 [(.tmp 42), (.const (.func 178 []))], none⟩])
   (.seq (.region false [⟨some 44, .move (.tmp 4) false, none⟩,
    ⟨some 45, .call 179 [(.tmp 44), (.const (.func 180 []))], none⟩,
    ⟨some 46, .build [(.int .i64 (0)), (.bool false), (.int .i64 (0)), (.str []), (.str []), (.str []), (.nils 69), (.nils 9)] [(0, 1, (.const (.int .i64 (5)))), (6, 1, (.tmp 45))], none⟩,
    ⟨none, .store 8 (.tmp 2) (.tmp 46), none⟩,
    ⟨some 3, .assign (.const (.int .i64 (0))), none⟩])
   .ret)))) (.seq (.region false [⟨some 48, .bin .eql (.tmp 9) (.const (.int .i64 (6))), none⟩,
    ⟨some 47, .assign (.tmp 48), none⟩])
   (.cond (.tmp 47) (.seq (.seq (.region false [⟨some 49, .fieldAddr 7 (.tmp 1), none⟩,
    ⟨some 50, .load false 1 (.tmp 49) false, none⟩,
    ⟨some 51, .len 0 (.tmp 50), none⟩,
    ⟨some 52, .fieldAddr 6 (.tmp 1), none⟩,
    ⟨some 53, .load false 1 (.tmp 52) false, none⟩,
    ⟨some 54, .len 0 (.tmp 53), none⟩,
    ⟨some 55, .bin .neq (.tmp 51) (.tmp 54), none⟩])
   (.cond (.tmp 55) (.seq (.region false [⟨some 56, .build [(.int .i64 (0)), (.bool false), (.int .i64 (0)), (.str []), (.str []), (.str []), (.nils 69), (.nils 9)] [], none⟩,
    ⟨none, .store 8 (.tmp 2) (.tmp 56), none⟩,
    ⟨some 3, .assign (.const (.int .i64 (1))), none⟩])
   .ret) .skip))
   (.seq (.region false [⟨some 58, .fieldAddr 6 (.tmp 1), none⟩,
    ⟨some 59, .load false 1 (.tmp 58) false, none⟩,
    ⟨some 60, .call 176 [(.tmp 59)], none⟩,
    ⟨some 57, .move (.tmp 60) false, none⟩,
    ⟨some 61, .extract (.tmp 57) 0, none⟩,
    ⟨some 62, .extract (.tmp 57) 1, none⟩,
    ⟨some 6, .assign (.tmp 61), none⟩,
    ⟨some 7, .assign (.tmp 62), none⟩])
   (.seq (.seq (.region false [⟨some 63, .move (.tmp 7) false, none⟩,
    ⟨some 64, .bin .neq (.tmp 63) (.const (.int .i64 (0))), none⟩])
   (.cond (.tmp 64) (.seq (.region false [⟨some 65, .build [(.int .i64 (0)), (.bool false), (.int .i64 (0)), (.str []), (.str []), (.str []), (.nils 69), (.nils 9)] [], none⟩,
    ⟨some 66, .move (.tmp 7) false, none⟩,
    ⟨none, .store 8 (.tmp 2) (.tmp 65), none⟩,
    ⟨some 3, .assign (.tmp 66), none⟩])
   .ret) .skip))
   (.seq (.region false [⟨some 67, .fieldAddr 7 (.tmp 1), none⟩,
    ⟨some 68, .load false 1 (.tmp 67) false, none⟩,
    ⟨some 69, .move (.tmp 6) false, none⟩,
    ⟨some 70, .call 181 [(.tmp 68), (.tmp 69)], none⟩,
    ⟨some 71, .extract (.tmp 70) 0, none⟩,
    ⟨some 72, .extract (.tmp 70) 1, none⟩,
    ⟨none, .store 8 (.tmp 2) (.tmp 71), none⟩,
    ⟨some 3, .assign (.tmp 72), none⟩])
   .ret)))) .skip))))))))))))))
   (.seq (.region false [⟨some 73, .build [(.int .i64 (0)), (.bool false), (.int .i64 (0)), (.str []), (.str []), (.str []), (.nils 69), (.nils 9)] [], none⟩,
    ⟨none, .store 8 (.tmp 2) (.tmp 73), none⟩,
    ⟨some 3, .assign (.const (.int .i64 (1))), none⟩])
   .ret)))⟩

def l161_0 : MCode :=
   (.seq (.region false [⟨some 9, .bin .lss (.tmp 8) (.tmp 7), none⟩])
   (.seq (.cond (.tmp 9) .skip (.exit 0))
   (.seq (.block 1 (.seq (.region false [⟨some 10, .move (.tmp 8) false, none⟩,
    ⟨some 5, .assign (.tmp 10), none⟩])
   (.seq (.region false [⟨some 11, .move (.tmp 1) false, none⟩,
    ⟨some 12, .move (.tmp 0) false, none⟩,
    ⟨some 13, .move (.tmp 5) false, none⟩,
    ⟨some 14, .indexAddr 2 (.tmp 12) (.tmp 13), none⟩,
    ⟨some 15, .load true 2 (.tmp 14) false, none⟩,
    ⟨some 16, .callv (.tmp 11) [(.tmp 15)], none⟩])
   (.cond (.tmp 16) (.seq (.region false [⟨some 17, .move (.tmp 5) false, none⟩,
    ⟨some 4, .assign (.tmp 17), none⟩])
   .ret) .skip))))
   (.region false [⟨some 18, .bin .add (.tmp 8) (.const (.int .i64 (1))), none⟩,
    ⟨some 8, .move (.tmp 18) false, none⟩]))))

/-- 'slices.IndexFunc[[]chamberlain/api.Uid,chamberlain/api.Uid]' -/
def m161 : MFunc :=
  ⟨2, 19, [.tmp 4],
   (.seq (.region false [⟨some 4, .assign (.const (.int .i64 (0))), none⟩])
   (.seq (.seq (.region false [⟨some 6, .move (.tmp 0) false, none⟩,
    ⟨some 7, .len 0 (.tmp 6), none⟩,
    ⟨some 8, .move (.const (.int .i64 (0))) false, none⟩])
   (.block 0 (.loop [1, 0, 8, 7, 4] l161_0)))
   (.seq (.region false [⟨some 4, .assign (.const (.int .i64 (-1))), none⟩])
   .ret)))⟩

def l162_0 : MCode :=
   (.seq (.region false [⟨some 13, .bin .lss (.tmp 12) (.tmp 11), none⟩])
   (.seq (.cond (.tmp 13) .skip (.exit 0))
   (.seq (.block 1 (.seq (.region false [⟨some 14, .indexAddr 2 (.tmp 10) (.tmp 12), none⟩,
    ⟨some 15, .load true 2 (.tmp 14) false, none⟩,
    ⟨some 6, .alloc [(.str []), (.str [])], none⟩,
    ⟨none, .store 2 (.tmp 6) (.tmp 15), none⟩])
   (.seq (.region false [⟨some 17, .load false 1 (.tmp 2) false, none⟩,
    ⟨some 18, .load true 2 (.tmp 6) false, none⟩,
    ⟨some 19, .lookup 37 false [(.int .i64 (0))] (.tmp 17) (.tmp 18) true, none⟩,
    ⟨some 16, .move (.tmp 19) false, none⟩,
    ⟨some 20, .extract (.tmp 16) 0, none⟩,
    ⟨some 21, .extract (.tmp 16) 1, none⟩,
    ⟨some 7, .assign (.tmp 20), none⟩,
    ⟨some 8, .assign (.tmp 21), none⟩])
   (.seq (.region false [⟨some 22, .move (.tmp 8) false, none⟩])
   (.cond (.tmp 22) (.region false [⟨some 23, .move (.tmp 1) false, none⟩,
    ⟨some 24, .move (.tmp 7) false, none⟩,
    ⟨some 25, .callv (.tmp 23) [(.tmp 24)], none⟩]) .skip)))))
   (.region false [⟨some 26, .bin .add (.tmp 12) (.const (.int .i64 (1))), none⟩,
    ⟨some 12, .move (.tmp 26) false, none⟩]))))

/-- 'chamberlain/entity.Round$1' -/
def m162 : MFunc :=
  ⟨3, 27, [],
   (.seq (.region false [⟨some 3, .box (.tmp 0), none⟩])
   (.seq (.region false [⟨some 9, .fieldAddr 2 (.tmp 3), none⟩,
    ⟨some 10, .load false 1 (.tmp 9) false, none⟩,
    ⟨some 11, .len 0 (.tmp 10), none⟩,
    ⟨some 12, .move (.const (.int .i64 (0))) false, none⟩])
   (.block 0 (.loop [10, 2, 1, 12, 11] l162_0))))⟩
end Go.Abs.T
