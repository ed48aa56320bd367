/-
  A part of AnalyzeFew's proof.
-/
import Derived.Test.YthbfgdbbnapjeaaGreatWhB
import Derived.Test.YthbfgdbbnapjeaaGreatHide
set_option linter.unusedVariables false
set_option linter.unusedSimpArgs false
namespace Go.Abs.W
open Go Go.Abs Go.Proofs
set_option maxRecDepth 100000
def rest31 : MCode :=
  (.seq (.seq (.region false [⟨some 50, .move (.tmp 8) false, none⟩,
    ⟨some 51, .nilCheck (.tmp 50), none⟩,
    ⟨some 52, .fieldAddr 7 (.tmp 51), none⟩,
    ⟨some 53, .load false 1 (.tmp 52) false, none⟩])
   (.cond (.tmp 53) (.seq (.region false [⟨some 54, .build [(.nils 69), (.nils 115), (.int .i64 (0)), (.int .i64 (0)), (.nils 69)] [], none⟩,
    ⟨none, .store 5 (.tmp 6) (.tmp 54), none⟩,
    ⟨some 7, .assign (.const (.int .i64 (52))), none⟩])
   .ret) .skip))
   (.seq (.region false [⟨some 55, .move (.tmp 8) false, none⟩,
    ⟨some 56, .call 37 [(.tmp 55), (.const (.func 38 []))], none⟩,
    ⟨some 12, .assign (.tmp 56), none⟩])
   (.seq (.seq (.region false [⟨some 57, .move (.tmp 12) false, none⟩,
    ⟨some 58, .len 0 (.tmp 57), none⟩,
    ⟨some 59, .bin .gtr (.tmp 58) (.const (.int .i64 (12))), none⟩])
   (.cond (.tmp 59) (.seq (.region false [⟨some 60, .build [(.nils 69), (.nils 115), (.int .i64 (0)), (.int .i64 (0)), (.nils 69)] [], none⟩,
    ⟨none, .store 5 (.tmp 6) (.tmp 60), none⟩,
    ⟨some 7, .assign (.const (.int .i64 (52))), none⟩])
   .ret) .skip))
   (.seq (.region false [⟨some 13, .assign (.const (.sl [] (some 69))), none⟩])
   (.seq (.seq (.region false [⟨some 61, .move (.tmp 8) false, none⟩,
    ⟨some 62, .call 39 [(.tmp 61)], none⟩,
    ⟨some 63, .move (.tmp 8) false, none⟩,
    ⟨some 64, .call 40 [(.tmp 63)], none⟩,
    ⟨some 65, .buildSlice 118 2 2 [(.int .i64 (0)), (.str [])] [(0, (.tmp 62)), (1, (.tmp 64))], none⟩,
    ⟨some 66, .len 0 (.tmp 65), none⟩,
    ⟨some 67, .move (.const (.int .i64 (0))) false, none⟩])
   (.block 2 (.loop [9, 8, 13, 12, 65, 67, 66, 7, 6, 34] l31_4)))
   (.seq (.seq (.region false [⟨some 89, .move (.tmp 12) false, none⟩,
    ⟨some 90, .len 0 (.tmp 89), none⟩,
    ⟨some 91, .move (.const (.int .i64 (0))) false, none⟩])
   (.block 6 (.loop [9, 8, 13, 12, 89, 91, 90, 7, 6, 34] l31_6)))
   (.seq (.seq (.region false [⟨some 107, .move (.tmp 8) false, none⟩,
    ⟨some 108, .nilCheck (.tmp 107), none⟩,
    ⟨some 109, .fieldAddr 5 (.tmp 108), none⟩,
    ⟨some 110, .load false 1 (.tmp 109) false, none⟩,
    ⟨some 111, .len 0 (.tmp 110), none⟩,
    ⟨some 112, .bin .gtr (.tmp 111) (.const (.int .i64 (500))), none⟩])
   (.cond (.tmp 112) (.seq (.region false [⟨some 113, .build [(.nils 69), (.nils 115), (.int .i64 (0)), (.int .i64 (0)), (.nils 69)] [], none⟩,
    ⟨none, .store 5 (.tmp 6) (.tmp 113), none⟩,
    ⟨some 7, .assign (.const (.int .i64 (52))), none⟩])
   .ret) .skip))
   (.seq (.seq (.region false [⟨some 114, .move (.tmp 8) false, none⟩,
    ⟨some 115, .call 39 [(.tmp 114)], none⟩,
    ⟨some 116, .move (.tmp 8) false, none⟩,
    ⟨some 117, .call 40 [(.tmp 116)], none⟩,
    ⟨some 118, .buildSlice 118 2 2 [(.int .i64 (0)), (.str [])] [(0, (.tmp 115)), (1, (.tmp 117))], none⟩,
    ⟨some 119, .len 0 (.tmp 118), none⟩,
    ⟨some 120, .move (.const (.int .i64 (0))) false, none⟩])
   (.block 10 (.loop [9, 8, 13, 12, 118, 120, 119, 7, 6, 34] l31_7)))
   (.seq (.seq (.region false [⟨some 133, .move (.tmp 12) false, none⟩,
    ⟨some 134, .len 0 (.tmp 133), none⟩,
    ⟨some 135, .move (.const (.int .i64 (0))) false, none⟩])
   (.block 12 (.loop [9, 8, 13, 133, 12, 135, 134, 7, 6, 34] l31_14)))
   (.seq (.region false [⟨some 189, .move (.tmp 13) true, none⟩,
    ⟨some 190, .move (.tmp 8) false, none⟩,
    ⟨some 191, .call 50 [(.tmp 190)], none⟩,
    ⟨some 192, .append 69 3 40 false (.tmp 189) (.tmp 191), none⟩,
    ⟨some 193, .call 48 [(.tmp 192)], none⟩,
    ⟨some 194, .fieldAddr 2 (.tmp 9), none⟩,
    ⟨none, .store 3 (.tmp 194) (.tmp 193), none⟩])
   (.seq (.region false [⟨some 195, .move (.tmp 8) false, none⟩,
    ⟨some 196, .nilCheck (.tmp 195), none⟩,
    ⟨some 197, .fieldAddr 5 (.tmp 196), none⟩,
    ⟨some 198, .load false 1 (.tmp 197) false, none⟩,
    ⟨some 199, .fieldAddr 1 (.tmp 9), none⟩,
    ⟨none, .store 1 (.tmp 199) (.tmp 198), none⟩])
   (.seq (.region false [⟨some 200, .load true 5 (.tmp 9) false, none⟩,
    ⟨none, .store 5 (.tmp 6) (.tmp 200), none⟩,
    ⟨some 7, .assign (.const (.int .i64 (0))), none⟩])
   .ret))))))))))))
def fE31 (tk : List (List D)) (rw x y z : D) : Fr := Fr.mk (([.junk, .junk, .junk, .junk, .junk, .junk, .lptr 6 0, .int .i64 0, .ptr 1 0, .lptr 9 0] ++ List.replicate 24 D.junk) ++ [.ptr 1 0, rw, y, x, z] ++ List.replicate 162 D.junk)
 (((List.replicate 201 none).set 6 (some [.sl [] (some 69), .sl [] (some 115), .int .i64 0, .int .i64 0, .sl [] (some 69)])).set 9 (some [.sl tk (some 69), .sl [] (some 115), .int .i64 0, .int .i64 0, .sl [] (some 69)])) []
def ans31 (tk : List (List D)) (ats : List (List D)) (ax : List Fm) : D := .tup [.agg [.sl tk none, .sl ats none, .int .i64 5, .int .i64 0, .sl (eFs ax) none], .int .i64 0]
theorem rest31_ok (tk : List (List D)) (rw x y z : D) (hv : sameDss tk tk = true) : endR [.cell 6 true 5, .tmp 7] (runC (callN T 39995) 39995 rest31 (fE31 tk rw x y z) stF2) = some (ans31 tk [at1, at2] axF) :=
 endH_ok (t := 9) (n := 248) (cs := [.sl tk (some 69), .sl [] (some 115), .int .i64 0, .int .i64 0, .sl [] (some 69)]) (by simp [sameDs, sameD, sameDss, hv]) kr
theorem tk_same {i : Nat} (h : i < 8) : sameDs (eF (tkF i)) (eF (tkF i)) = true := by
 match i, h with
 | 0, _ => show _ = _; kernel_rfl
 | 1, _ => show _ = _; kernel_rfl
 | 2, _ => show _ = _; kernel_rfl
 | 3, _ => show _ = _; kernel_rfl
 | 4, _ => show _ = _; kernel_rfl
 | 5, _ => show _ = _; kernel_rfl
 | 6, _ => show _ = _; kernel_rfl
 | 7, _ => show _ = _; kernel_rfl
theorem tks_same : ∀ {l : List Nat}, (∀ i ∈ l, i < 8) → sameDss (eFs (l.map tkF)) (eFs (l.map tkF)) = true
 | [], _ => by simp [eFs_map, sameDss]
 | i :: l, h => by
  have h1 := tk_same (h i (by simp))
  have h2 := tks_same (l := l) (fun j hj => h j (by simp [hj]))
  rw [eFs_map] at h2 ⊢
  simp only [List.map_cons, sameDss, h1, Bool.true_and]
  exact h2
end Go.Abs.W
