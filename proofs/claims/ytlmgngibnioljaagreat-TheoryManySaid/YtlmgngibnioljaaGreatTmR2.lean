import Derived.Test.YtlmgngibnioljaaGreatTmI
set_option linter.unusedVariables false
set_option linter.unusedSimpArgs false
/-
  How closed runs are held against what is told.
-/
namespace Go.Abs.T
open Go Go.Abs Go.Proofs
set_option maxRecDepth 20000
noncomputable def chkN (e : (List D × St) × (D × St)) : Bool := match callNK T 21 14 e.1.1 e.1.2 with
  | some r => sameD r.1 e.2.1 && sameSt r.2 e.2.2
  | none => false
noncomputable def chkS (e : (List D × St) × (D × St)) : Bool := match ofF e.1.1 e.1.2 with
  | some r => sameD r.1 e.2.1 && sameSt r.2 e.2.2
  | none => false
theorem eq_ofB {r : Option (D × St)} {x : D × St} (h : (match r with | some r => sameD r.1 x.1 && sameSt r.2 x.2 | none => false) = true) : r = some x := by
  cases r with
  | none => cases h
  | some r =>
    obtain ⟨d, σ⟩ := r
    obtain ⟨d', σ'⟩ := x
    simp only [Bool.and_eq_true] at h
    rw [sameD_eq _ _ h.1, sameL_eq sameO_eq _ _ h.2]
theorem fok_of {e : (List D × St) × (D × St)} (h : chkN e = true) (h1 : e.1.1.all D.notL = true) (h2 : e.2.1.bare = e.2.1) (h3 : e.2.1.notL = true) : FOK e := ⟨h1, callN_of_fast (eq_ofB h), h2, h3⟩
theorem fok2_of {e : (List D × St) × (D × St)} (h : chkS e = true) (h1 : e.1.1.all D.notL = true) (h2 : e.2.1.bare = e.2.1) (h3 : e.2.1.notL = true) : FOK2 e := ⟨h1, (ofF_ok (eq_ofB h)).1, h2, h3⟩
end Go.Abs.T
