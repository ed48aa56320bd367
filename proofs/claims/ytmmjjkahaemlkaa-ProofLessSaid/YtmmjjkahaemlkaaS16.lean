import Derived.Test.YtmmjjkahaemlkaaS11
set_option linter.unusedVariables false
set_option linter.unusedSimpArgs false
/-
  A proof of some clauses is one of more: plain law.
-/
namespace Go.Abs.B
open Go Go.Abs
set_option maxRecDepth 8000

/-- A step, where a clause was put in at n. -/
def shI (n a : Int) : Int := if a ≥ n then a + 1 else a
def sh (n : Int) (s : Step3) : Step3 := (shI n s.1, shI n s.2.1, s.2.2)
theorem getC_sh {l ext : List (List Int)} {more : List Int} {a : Int} (h0 : 0 ≤ a) (_h1 : a < (l ++ ext).length) : getC (l ++ more :: ext) (shI l.length a) = getC (l ++ ext) a := by
  unfold getC shI
  by_cases h : a ≥ l.length
  · rw [if_pos h]
    simp only [List.getD_eq_getElem?_getD]
    rw [List.getElem?_append_right (by omega), List.getElem?_append_right (by omega)]
    have e : (a + 1).toNat - l.length = (a.toNat - l.length) + 1 := by omega
    rw [e, List.getElem?_cons_succ]
  · rw [if_neg h]
    simp only [List.getD_eq_getElem?_getD]
    rw [List.getElem?_append_left (by omega), List.getElem?_append_left (by omega)]
theorem can_sh {l ext : List (List Int)} {more : List Int} {s : Step3} (h : can (l ++ ext) s) : can (l ++ more :: ext) (sh l.length s) := by
  obtain ⟨h0, h1, h2, h3⟩ := h
  rw [List.length_append] at h1 h3
  unfold can sh shI
  simp only [List.length_append, List.length_cons]
  refine ⟨?_, ?_, ?_, ?_⟩
  · split <;> omega
  · split <;> omega
  · split <;> omega
  · split <;> omega
theorem allF_more {l : List (List Int)} {more : List Int} : ∀ (st : List Step3) (ext out : List (List Int)), allF (l ++ ext) st = some out → ∃ e, out = l ++ e ∧ allF (l ++ more :: ext) (st.map (sh l.length)) = some (l ++ more :: e)
  | [], ext, out, h => by
    simp only [allF, Option.some.injEq] at h
    subst h
    exact ⟨ext, rfl, rfl⟩
  | s :: st, ext, out, h => by
    simp only [allF, List.map_cons] at h ⊢
    by_cases hc : can (l ++ ext) s ∧ makes (getC (l ++ ext) s.1) (getC (l ++ ext) s.2.1) s.2.2
    · rw [if_pos hc] at h
      obtain ⟨h1, h2⟩ := hc
      have ea := getC_sh (more := more) h1.1 h1.2.1
      have eb := getC_sh (more := more) h1.2.2.1 h1.2.2.2
      have hc' : can (l ++ more :: ext) (sh l.length s) ∧ makes (getC (l ++ more :: ext) (sh l.length s).1) (getC (l ++ more :: ext) (sh l.length s).2.1) (sh l.length s).2.2 := by
        refine ⟨can_sh h1, ?_⟩
        show makes (getC (l ++ more :: ext) (shI l.length s.1)) (getC (l ++ more :: ext) (shI l.length s.2.1)) s.2.2
        rw [ea, eb]
        exact h2
      rw [if_pos hc']
      show ∃ e, _ ∧ allF (l ++ more :: ext ++ [made (getC (l ++ more :: ext) (shI l.length s.1)) (getC (l ++ more :: ext) (shI l.length s.2.1)) s.2.2]) _ = _
      rw [ea, eb]
      rw [List.append_assoc] at h
      obtain ⟨e, q1, q2⟩ := allF_more st _ out h
      refine ⟨e, q1, ?_⟩
      rw [List.append_assoc, List.cons_append]
      exact q2
    · rw [if_neg hc] at h
      cases h
theorem allF_can : ∀ (st : List Step3) (l out : List (List Int)), allF l st = some out → ∀ s ∈ st, 0 ≤ s.1 ∧ s.1 < out.length ∧ 0 ≤ s.2.1 ∧ s.2.1 < out.length
  | [], _, _, _ => fun s hs => (List.not_mem_nil hs).elim
  | x :: st, l, out, h => by
    simp only [allF] at h
    split at h
    · rename_i hc
      obtain ⟨h0, h1, h2, h3⟩ := hc.1
      have hl := allF_len _ _ _ h
      rw [List.length_append] at hl
      intro s hs
      rcases List.mem_cons.1 hs with rfl | hs
      · exact ⟨h0, by omega, h2, by omega⟩
      · exact allF_can st _ out h s hs
    · cases h
theorem check_zero {l : List (List Int)} {st : List Step3} (h : checkR l st = 0) : ∃ out, allF l st = some out ∧ [] ∈ out := by
  unfold checkR allR at h
  cases ha : allF l st with
  | none =>
    rw [ha] at h
    simp at h
  | some out =>
    rw [ha] at h
    refine ⟨out, rfl, ?_⟩
    simp only [if_true] at h
    by_cases hm : [] ∈ out
    · exact hm
    · rw [if_neg hm] at h
      cases h
theorem zero_check {l : List (List Int)} {st : List Step3} {out : List (List Int)} (h : allF l st = some out) (hm : [] ∈ out) : checkR l st = 0 := by
  unfold checkR allR
  rw [h]
  simp only [if_true]
  rw [if_pos hm]
theorem check_none {st : List Step3} (h : st ≠ []) : checkR [] st = 50 := by
  cases st with
  | nil => exact absurd rfl h
  | cons s st =>
    have : allF [] (s :: st) = none := by
      simp only [allF]
      rw [if_neg]
      rintro ⟨⟨h0, h1, _⟩, _⟩
      simp at h1
      omega
    unfold checkR allR
    rw [this]
    rfl
theorem check_no {l : List (List Int)} (h : [] ∉ l) : checkR l [] = 50 := by
  have hR : allR l [] = (l, 0) := rfl
  unfold checkR
  rw [hR, if_pos rfl, if_neg h]
structure Less (l : List (List Int)) (more : List Int) (st : List Step3) : Prop where
  ok : checkR l st = 0
  len : st.length ≤ 300000
  more_ : checkR (l ++ [more]) (st.map (sh l.length)) = 0
  none_ : [] ∉ l → checkR [] st = 50 ∧ checkR l [] = 50
  can_ : ∀ s ∈ st, 0 ≤ s.1 ∧ s.1 < 400000 ∧ 0 ≤ s.2.1 ∧ s.2.1 < 400000
theorem less_told {l : List (List Int)} {V : Nat} {b : Int} (more : List Int) (hI : okI l V) (hb : 8192 ≤ b ∧ b ≤ 1000000000000) (hk : (solveR l V b).1 = 2) : Less l more (stepsR (solveR l V b)) := by
  rcases solved_plain hI hb with h | ⟨_, h1, h2⟩
  · omega
  · generalize stepsR (solveR l V b) = st at *
    obtain ⟨out, ha, hm⟩ := check_zero h1
    obtain ⟨e, q1, q2⟩ := allF_more (more := more) st [] out (by rw [List.append_nil]; exact ha)
    have hlen := allF_len _ _ _ ha
    have h60 := hI.2.1
    refine ⟨h1, h2, ?_, fun hn => ⟨check_none ?_, check_no hn⟩, fun s hs => ?_⟩
    · refine zero_check q2 ?_
      rw [q1] at hm
      rcases List.mem_append.1 hm with hm | hm
      · exact List.mem_append_left _ hm
      · exact List.mem_append_right _ (List.mem_cons_of_mem _ hm)
    · rintro rfl
      simp only [allF, Option.some.injEq] at ha
      subst ha
      exact hn hm
    · have := allF_can _ _ _ ha s hs
      omega
end Go.Abs.B
