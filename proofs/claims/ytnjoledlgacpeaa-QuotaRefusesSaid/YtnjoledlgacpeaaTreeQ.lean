import Derived.Test.YtnjoledlgacpeaaTreeC
set_option linter.unusedVariables false
set_option linter.unusedSimpArgs false
/-
  Trees as rows of nodes' data.
-/
namespace Go.Abs.C
open Go Go.Abs
set_option maxRecDepth 8000
attribute [local irreducible] callN runC evalOp
theorem awake_ok : ∃ σ, callN T 99 9 [] [] = some (.bool true, σ) := by
  have h : (callN T 99 9 [] []).map (·.1) = some (.bool true) := by kernel_rfl
  cases hc : callN T 99 9 [] [] with
  | none => rw [hc] at h; cases h
  | some p =>
    rw [hc] at h
    obtain ⟨d, σ⟩ := p
    simp only [Option.map_some, Option.some.injEq] at h
    subst h
    exact ⟨σ, rfl⟩
theorem findN_map (ns : List NodeX) (s : Nm) : (findN ns s).map (·.r) = (ns.map (·.r)).find? (·.name == s) := by
  induction ns with
  | nil => rfl
  | cons x ns ih =>
    simp only [findN, List.find?_cons, List.map_cons] at ih ⊢
    cases x.r.name == s with
    | true => rfl
    | false => exact ih
theorem find_recs {ns : List NodeX} {rs : List NodeR} (h : ns.map (·.r) = rs) {s : Nm} {r : NodeR} (hr : rs.find? (·.name == s) = some r) : ∃ x, findN ns s = some x ∧ x.r = r := by
  have := findN_map ns s
  rw [h, hr] at this
  cases hf : findN ns s with
  | none => rw [hf] at this; cases this
  | some x => rw [hf] at this; simp only [Option.map_some, Option.some.injEq] at this; exact ⟨x, rfl, this⟩
theorem find_some {ns : List NodeX} {rs : List NodeR} (h : ns.map (·.r) = rs) {s : Nm} {r : NodeR} (hr : rs.find? (·.name == s) = some r) : (findN ns s).isSome = true := by
  obtain ⟨x, hx, _⟩ := find_recs h hr
  rw [hx]
  rfl
theorem find_none {ns : List NodeX} {rs : List NodeR} (h : ns.map (·.r) = rs) {s : Nm} (hr : rs.find? (·.name == s) = none) : findN ns s = none := by
  have := findN_map ns s
  rw [h, hr] at this
  cases hf : findN ns s with
  | none => rfl
  | some x => rw [hf] at this; cases this
def npR (rs : List NodeR) : List (Nm × Nm) := rs.map fun r => (r.name, r.parent)
theorem np_recs {ns : List NodeX} {rs : List NodeR} (h : ns.map (·.r) = rs) : npOf ns = npR rs := by
  subst h
  simp [npOf, npR, List.map_map, Function.comp]
def anyR (rs : List NodeR) (bad : NodeR → Bool) (names : List Nm) : Bool := names.any fun s => ((rs.find? (·.name == s)).map bad).getD false
theorem any_recs {ns : List NodeX} {rs : List NodeR} (h : ns.map (·.r) = rs) (bad : NodeR → Bool) (names : List Nm) : anyN ns bad names = anyR rs bad names := by
  subst h
  unfold anyN anyR
  congr 1
  funext s
  have := findN_map ns s
  rw [← this, Option.map_map]
  rfl
def bumpR (rs : List NodeR) (names : List Nm) (f : NodeR → NodeR) : List NodeR := rs.map fun r => if r.name ∈ names then f r else r
theorem bump_recs {ns : List NodeX} {rs : List NodeR} (h : ns.map (·.r) = rs) (names : List Nm) (f : NodeR → NodeR) : (bumpN ns names f).map (·.r) = bumpR rs names f := by
  subst h
  simp only [bumpN, bumpR, List.map_map]
  refine List.map_congr_left fun x _ => ?_
  simp only [Function.comp]
  split <;> rfl
def setR (rs : List NodeR) (name : Nm) (f : NodeR → NodeR) : List NodeR := rs.map fun r => if r.name = name then f r else r
theorem set_recs {ns : List NodeX} {rs : List NodeR} (h : ns.map (·.r) = rs) (name : Nm) (f : NodeR → NodeR) : (setN ns name f).map (·.r) = setR rs name f := by
  subst h
  simp only [setN, setR, List.map_map]
  refine List.map_congr_left fun x _ => ?_
  simp only [Function.comp]
  split <;> rfl
theorem wrap_small (x : Int) (h1 : -9223372036854775808 ≤ x) (h2 : x ≤ 9223372036854775807) : IntKind.i64.wrap x = x := by
  simp only [IntKind.wrap, IntKind.bits, IntKind.signed]
  simp
  omega
theorem badR_small {m : Int} {r : NodeR} (h1 : -9223372036854775808 ≤ r.limit - r.used) (h2 : r.limit - r.used ≤ 9223372036854775807) : badR m r = decide (r.limit - r.used < m) := by
  unfold badR
  rw [wrap_small _ h1 h2]
theorem more_less {M : Int} (h1 : 0 ≤ M) (h2 : M ≤ 16777216) {r : NodeR} (h : r.used = 0) : lessR M (moreR M r) = r := by
  obtain ⟨a, b, c, d⟩ := r
  simp only at h
  subst h
  simp only [lessR, moreR]
  rw [wrap_small (0 + M) (by omega) (by omega), wrap_small (0 + M - M) (by omega) (by omega)]
  congr 1
  omega
theorem bump_back {M : Int} (h1 : 0 ≤ M) (h2 : M ≤ 16777216) (names : List Nm) (rs : List NodeR) (h : ∀ r ∈ rs, r.used = 0) : bumpR (bumpR rs names (moreR M)) names (lessR M) = rs := by
  simp only [bumpR, List.map_map]
  conv => rhs; rw [← List.map_id rs]
  refine List.map_congr_left fun r hr => ?_
  simp only [Function.comp, id]
  by_cases hm : r.name ∈ names
  · rw [if_pos hm, if_pos (by exact hm)]
    exact more_less h1 h2 (h r hr)
  · rw [if_neg hm, if_neg hm]
end Go.Abs.C
