import Derived.Test.YtmmjjkahaemlkaaS11
set_option linter.unusedVariables false
set_option linter.unusedSimpArgs false
/-
  The solver in plain Lean: with more of a budget the same; truths by number.
-/
namespace Go.Abs.B
open Go Go.Abs
set_option maxRecDepth 8000

def Sv.up (s : Sv) (d : Int) : Sv := { s with left := s.left + d }
def upR (r : Int × Int × Sv) (d : Int) : Int × Int × Sv := (r.1, r.2.1, r.2.2.up d)
theorem fin_up (s : Sv) (d : Int) (n : Nat) (v : Int) : (s.up d).fin n v = (s.fin n v).up d := by
  unfold Sv.fin
  show (if atv s.a v = 0 then (s.up d).back n else s.up d) = _
  by_cases h : atv s.a v = 0
  · rw [if_pos h, if_pos h]
    rfl
  · rw [if_neg h, if_neg h]
theorem s2_up (s : Sv) (d : Int) (sp : Int × List Int × List (Int × Int)) : s2R (s.up d) sp = (s2R s sp).up d := by
  unfold s2R Sv.up
  simp only [Sv.mk.injEq, and_true, true_and]
  omega
theorem try_up {N given : Nat} : ∀ (k : Nat) (s : Sv) (d : Int), 0 ≤ d → (tryR N given k s).1 ≠ 3 → tryR N given k (s.up d) = upR (tryR N given k s) d
  | 0, _, _, _, _ => rfl
  | k + 1, s, d, hd, h => by
    change (tryA (tryR N given k) s (spS N given s) (vF (spS N given s).2.1)).1 ≠ 3 at h
    show tryA (tryR N given k) (s.up d) (spS N given s) (vF (spS N given s).2.1) = upR (tryA (tryR N given k) s (spS N given s) (vF (spS N given s).2.1)) d
    generalize spS N given s = sp at *
    generalize vF sp.2.1 = v at *
    unfold tryA at h ⊢
    by_cases hc : 0 ≤ sp.1
    · rw [if_pos hc, if_pos hc]
      rfl
    rw [if_neg hc] at h
    rw [if_neg hc, if_neg hc]
    by_cases hz : v = 0
    · rw [if_pos hz, if_pos hz]
      rfl
    rw [if_neg hz] at h
    rw [if_neg hz, if_neg hz]
    by_cases hl : s.left - 1 < 0
    · rw [if_pos hl] at h
      exact absurd rfl h
    rw [if_neg hl] at h
    rw [if_neg hl, if_neg (show ¬ (s.up d).left - 1 < 0 by show ¬ s.left + d - 1 < 0; omega)]
    rw [s2_up]
    show tryB _ (s.up d) _ v (tryR N given k (((s2R s sp).fix v).up d)) = _
    have ih1 := try_up (N := N) (given := given) k ((s2R s sp).fix v) d hd
    generalize hx1 : tryR N given k ((s2R s sp).fix v) = x1 at *
    unfold tryB at h ⊢
    by_cases h2 : x1.1 ≠ 2
    · rw [if_pos h2] at h
      rw [ih1 h, if_pos (show (upR x1 d).1 ≠ 2 from h2), if_pos h2]
      show (x1.1, 0, (x1.2.2.up d).fin s.t.length v) = (x1.1, 0, (x1.2.2.fin s.t.length v).up d)
      rw [fin_up]
    rw [if_neg h2] at h
    have h2' : x1.1 = 2 := by
      by_cases h : x1.1 = 2
      · exact h
      · exact absurd h h2
    rw [ih1 (by omega), if_neg (show ¬ (upR x1 d).1 ≠ 2 from h2), if_neg h2]
    show tryC _ (s.up d) _ v (upR x1 d) ((x1.2.2.back sp.2.2.length).up d) = _
    unfold tryC at h ⊢
    by_cases hin : 0 - v ∉ (x1.2.2.back sp.2.2.length).l.getD x1.2.1.toNat []
    · rw [if_pos hin] at h
      rw [if_pos hin, if_pos (show 0 - v ∉ ((x1.2.2.back sp.2.2.length).up d).l.getD (upR x1 d).2.1.toNat [] from hin)]
      show (2, x1.2.1, ((x1.2.2.back sp.2.2.length).up d).fin s.t.length v) = (2, x1.2.1, ((x1.2.2.back sp.2.2.length).fin s.t.length v).up d)
      rw [fin_up]
    rw [if_neg hin] at h
    rw [if_neg hin, if_neg (show ¬ 0 - v ∉ ((x1.2.2.back sp.2.2.length).up d).l.getD (upR x1 d).2.1.toNat [] from hin)]
    show tryD (s.up d) _ v (upR x1 d) (tryR N given k (((x1.2.2.back sp.2.2.length).fix (0 - v)).up d)) = _
    have ih2 := try_up (N := N) (given := given) k ((x1.2.2.back sp.2.2.length).fix (0 - v)) d hd
    generalize hx2 : tryR N given k ((x1.2.2.back sp.2.2.length).fix (0 - v)) = x2 at *
    unfold tryD at h ⊢
    by_cases h3 : x2.1 ≠ 2
    · rw [if_pos h3] at h
      rw [ih2 h, if_pos (show (upR x2 d).1 ≠ 2 from h3), if_pos h3]
      show (x2.1, 0, (x2.2.2.up d).fin s.t.length v) = (x2.1, 0, (x2.2.2.fin s.t.length v).up d)
      rw [fin_up]
    rw [if_neg h3] at h
    have h3' : x2.1 = 2 := by
      by_cases h : x2.1 = 2
      · exact h
      · exact absurd h h3
    rw [ih2 (by omega), if_neg (show ¬ (upR x2 d).1 ≠ 2 from h3), if_neg h3]
    show tryE (s.up d) v (upR x1 d) (upR x2 d) ((x2.2.2.back sp.2.2.length).up d) = _
    unfold tryE
    by_cases hin2 : v ∉ (x2.2.2.back sp.2.2.length).l.getD x2.2.1.toNat []
    · rw [if_pos hin2, if_pos (show v ∉ ((x2.2.2.back sp.2.2.length).up d).l.getD (upR x2 d).2.1.toNat [] from hin2)]
      show (2, x2.2.1, ((x2.2.2.back sp.2.2.length).up d).fin s.t.length v) = (2, x2.2.1, ((x2.2.2.back sp.2.2.length).fin s.t.length v).up d)
      rw [fin_up]
    · rw [if_neg hin2, if_neg (show ¬ v ∉ ((x2.2.2.back sp.2.2.length).up d).l.getD (upR x2 d).2.1.toNat [] from hin2)]
      show (2, _, ((addR (x2.2.2.back sp.2.2.length) x2.2.1 x1.2.1 v).up d).fin s.t.length v) = (2, _, ((addR (x2.2.2.back sp.2.2.length) x2.2.1 x1.2.1 v).fin s.t.length v).up d)
      rw [fin_up]
      rfl
/-- What is left, where it was no less than none. -/
theorem try_left {N given : Nat} : ∀ (k : Nat) (s : Sv), 0 ≤ s.left → ((tryR N given k s).1 = 3 → (tryR N given k s).2.2.left = -1) ∧ ((tryR N given k s).1 ≠ 3 → 0 ≤ (tryR N given k s).2.2.left)
  | 0, s, h => ⟨fun h => by simp [tryR] at h, fun _ => h⟩
  | k + 1, s, h => by
    show ((tryA (tryR N given k) s (spS N given s) (vF (spS N given s).2.1)).1 = 3 → (tryA (tryR N given k) s (spS N given s) (vF (spS N given s).2.1)).2.2.left = -1) ∧ ((tryA (tryR N given k) s (spS N given s) (vF (spS N given s).2.1)).1 ≠ 3 → 0 ≤ (tryA (tryR N given k) s (spS N given s) (vF (spS N given s).2.1)).2.2.left)
    generalize spS N given s = sp at *
    generalize vF sp.2.1 = v at *
    unfold tryA
    by_cases hc : 0 ≤ sp.1
    · rw [if_pos hc]
      exact ⟨fun h => by simp [failR] at h, fun _ => h⟩
    rw [if_neg hc]
    by_cases hz : v = 0
    · rw [if_pos hz]
      exact ⟨fun h => by simp at h, fun _ => h⟩
    rw [if_neg hz]
    by_cases hl : s.left - 1 < 0
    · rw [if_pos hl]
      have hf := (fin_left (s2R s sp) s.t.length v).1
      refine ⟨fun _ => ?_, fun h => absurd rfl h⟩
      show ((s2R s sp).fin s.t.length v).left = _
      rw [hf]
      show s.left - 1 = -1
      omega
    rw [if_neg hl]
    have ih1 := try_left (N := N) (given := given) k ((s2R s sp).fix v) (by show 0 ≤ s.left - 1; omega)
    generalize tryR N given k ((s2R s sp).fix v) = x1 at *
    unfold tryB
    by_cases h2 : x1.1 ≠ 2
    · rw [if_pos h2]
      have hf := (fin_left x1.2.2 s.t.length v).1
      exact ⟨fun h => by show (x1.2.2.fin s.t.length v).left = _; rw [hf]; exact ih1.1 h, fun h => by show 0 ≤ (x1.2.2.fin s.t.length v).left; rw [hf]; exact ih1.2 h⟩
    rw [if_neg h2]
    have h2' : x1.1 = 2 := by
      by_cases h : x1.1 = 2
      · exact h
      · exact absurd h h2
    have hx1 := ih1.2 (by omega)
    unfold tryC
    by_cases hin : 0 - v ∉ (x1.2.2.back sp.2.2.length).l.getD x1.2.1.toNat []
    · rw [if_pos hin]
      have hf := (fin_left (x1.2.2.back sp.2.2.length) s.t.length v).1
      exact ⟨fun h => by simp at h, fun _ => by show 0 ≤ ((x1.2.2.back sp.2.2.length).fin s.t.length v).left; rw [hf]; exact hx1⟩
    rw [if_neg hin]
    have ih2 := try_left (N := N) (given := given) k ((x1.2.2.back sp.2.2.length).fix (0 - v)) hx1
    generalize tryR N given k ((x1.2.2.back sp.2.2.length).fix (0 - v)) = x2 at *
    unfold tryD
    by_cases h3 : x2.1 ≠ 2
    · rw [if_pos h3]
      have hf := (fin_left x2.2.2 s.t.length v).1
      exact ⟨fun h => by show (x2.2.2.fin s.t.length v).left = _; rw [hf]; exact ih2.1 h, fun h => by show 0 ≤ (x2.2.2.fin s.t.length v).left; rw [hf]; exact ih2.2 h⟩
    rw [if_neg h3]
    have h3' : x2.1 = 2 := by
      by_cases h : x2.1 = 2
      · exact h
      · exact absurd h h3
    have hx2 := ih2.2 (by omega)
    unfold tryE
    by_cases hin2 : v ∉ (x2.2.2.back sp.2.2.length).l.getD x2.2.1.toNat []
    · rw [if_pos hin2]
      have hf := (fin_left (x2.2.2.back sp.2.2.length) s.t.length v).1
      exact ⟨fun h => by simp at h, fun _ => by show 0 ≤ ((x2.2.2.back sp.2.2.length).fin s.t.length v).left; rw [hf]; exact hx2⟩
    · rw [if_neg hin2]
      have hf := (fin_left (addR (x2.2.2.back sp.2.2.length) x2.2.1 x1.2.1 v) s.t.length v).1
      exact ⟨fun h => by simp at h, fun _ => by show 0 ≤ ((addR (x2.2.2.back sp.2.2.length) x2.2.1 x1.2.1 v).fin s.t.length v).left; rw [hf]; exact hx2⟩

/-- Truths by number. -/
def tX (V x : Nat) : List Bool := (List.range V).map fun j => x.testBit j
theorem tX_len (V x : Nat) : (tX V x).length = V := by simp [tX]
theorem bits_ex : ∀ (t : List Bool), ∃ x, x < 2 ^ t.length ∧ tX t.length x = t
  | [] => ⟨0, by simp, rfl⟩
  | b :: t => by
    obtain ⟨x, hx, ht⟩ := bits_ex t
    refine ⟨2 * x + b.toNat, ?_, ?_⟩
    · rw [List.length_cons, Nat.pow_succ]
      have : b.toNat ≤ 1 := by cases b <;> decide
      omega
    · have h0 : (2 * x + b.toNat).testBit 0 = b := by
        rw [Nat.testBit_zero]
        cases b
        · simp
        · have : (2 * x + 1) % 2 = 1 := by omega
          simp [this]
      have h1 : ∀ j, (2 * x + b.toNat).testBit (j + 1) = x.testBit j := fun j => by
        rw [Nat.testBit_succ]
        congr 1
        have : b.toNat ≤ 1 := by cases b <;> decide
        omega
      unfold tX at ht ⊢
      rw [List.length_cons, List.range_succ_eq_map, List.map_cons, List.map_map, h0]
      congr 1
      rw [← ht]
      simp only [List.length_map, List.length_range]
      exact List.map_congr_left fun j _ => h1 j
def foundX (l : List (List Int)) (V x : Nat) : Bool := (List.range x).any fun y => metB l (tX V y)
theorem foundX_succ (l : List (List Int)) (V x : Nat) : foundX l V (x + 1) = (foundX l V x || metB l (tX V x)) := by
  unfold foundX
  rw [List.range_succ, List.any_append]
  simp
/-- What Solve's answer means for all truths. -/
structure Told (l : List (List Int)) (V : Nat) (m : Int) (ra rb : Int × Int × Sv) : Prop where
  kind : (ra.1 = 1 ∧ foundX l V (2 ^ V) = true ∧ metB l (metR ra V) = true) ∨ (ra.1 = 2 ∧ foundX l V (2 ^ V) = false)
  less : (rb.1 = 3 ∧ rb.2.2.tried = m + 1) ∨ (rb.1 = ra.1 ∧ rb.2.2.tried = ra.2.2.tried ∧ rb.2.2.tried ≤ m)
theorem told {l : List (List Int)} {V : Nat} {m : Int} (hI : okI l V) (hm : 0 ≤ m ∧ m ≤ 15) : Told l V m (solveR l V ((2 ^ V : Nat) - 1 : Int)) (solveR l V m) := by
  have hV := hI.1
  have hp : 2 ^ V ≤ 4096 := Nat.le_trans (Nat.pow_le_pow_right (by omega) hV) (by decide)
  have hp0 := two_pow V
  have hpre := pre0 (left := ((2 ^ V : Nat) - 1 : Int)) hI (by omega)
  have hpreb := pre0 (left := m) hI (by omega)
  have hA := try_all (l0 := l) (by omega) (by omega) (V + 1) _ hpre (tv0 l V _)
  have hC := try_cnt (by omega) (V + 1) _ hpre
  have hP := try_post (by omega) (V + 1) _ hpre
  have hCb := try_cnt (by omega) (V + 1) _ hpreb
  have hLa := try_left (N := V + 1) (given := l.length) (V + 1) (s0R l V ((2 ^ V : Nat) - 1 : Int)) (by show (0 : Int) ≤ _; simp only [s0R]; omega)
  have hLb := try_left (N := V + 1) (given := l.length) (V + 1) (s0R l V m) (by show (0 : Int) ≤ _; simp only [s0R]; omega)
  have hU1 := fun d => try_up (N := V + 1) (given := l.length) (V + 1) (s0R l V m) d
  have hU2 := fun d => try_up (N := V + 1) (given := l.length) (V + 1) (s0R l V ((2 ^ V : Nat) - 1 : Int)) d
  have e1 : ∀ a d : Int, (s0R l V a).up d = s0R l V (a + d) := fun _ _ => rfl
  simp only [e1] at hU1 hU2
  have hna : (solveR l V ((2 ^ V : Nat) - 1 : Int)).1 ≠ 3 := by
    refine hC.fine ?_
    show ((2 ^ (V + 1 - 1 - 0) : Nat) : Int) ≤ ((2 ^ V : Nat) - 1 : Int) + 1
    rw [show V + 1 - 1 - 0 = V by omega]
    omega
  change Told l V m (tryR (V + 1) l.length (V + 1) (s0R l V ((2 ^ V : Nat) - 1 : Int))) (tryR (V + 1) l.length (V + 1) (s0R l V m))
  change (tryR (V + 1) l.length (V + 1) (s0R l V ((2 ^ V : Nat) - 1 : Int))).1 ≠ 3 at hna
  have hs2 := hCb.sum
  change _ = (0 : Int) + m at hs2
  have hless : ((tryR (V + 1) l.length (V + 1) (s0R l V m)).1 = 3 ∧ (tryR (V + 1) l.length (V + 1) (s0R l V m)).2.2.tried = m + 1) ∨ ((tryR (V + 1) l.length (V + 1) (s0R l V m)).1 = (tryR (V + 1) l.length (V + 1) (s0R l V ((2 ^ V : Nat) - 1 : Int))).1 ∧ (tryR (V + 1) l.length (V + 1) (s0R l V m)).2.2.tried = (tryR (V + 1) l.length (V + 1) (s0R l V ((2 ^ V : Nat) - 1 : Int))).2.2.tried ∧ (tryR (V + 1) l.length (V + 1) (s0R l V m)).2.2.tried ≤ m) := by
    by_cases h3 : (tryR (V + 1) l.length (V + 1) (s0R l V m)).1 = 3
    · exact .inl ⟨h3, by have := hLb.1 h3; omega⟩
    · have h4 := hLb.2 h3
      by_cases hle : m ≤ ((2 ^ V : Nat) - 1 : Int)
      · have hu := hU1 (((2 ^ V : Nat) - 1 : Int) - m) (by omega) h3
        rw [show m + (((2 ^ V : Nat) - 1 : Int) - m) = ((2 ^ V : Nat) - 1 : Int) by omega] at hu
        rw [hu]
        exact .inr ⟨rfl, rfl, by omega⟩
      · have hu := hU2 (m - ((2 ^ V : Nat) - 1 : Int)) (by omega) hna
        rw [show ((2 ^ V : Nat) - 1 : Int) + (m - ((2 ^ V : Nat) - 1 : Int)) = m by omega] at hu
        refine .inr ⟨by rw [hu]; rfl, by rw [hu]; rfl, by omega⟩
  refine ⟨?_, hless⟩
  clear hless hU1 hU2 hLa hLb hCb hs2 hpreb
  generalize tryR (V + 1) l.length (V + 1) (s0R l V ((2 ^ V : Nat) - 1 : Int)) = r at *
  rcases hP.kind with hk | hk | hk
  · have e1 : metR r V = truthsR r.2.2.a V := if_pos hk
    have hmet : metB l (metR r V) = true := by
      rw [e1]
      unfold metB
      refine List.all_eq_true.2 fun c hc => ?_
      obtain ⟨u, hu, hat⟩ := hA.met hk c hc
      exact List.any_eq_true.2 ⟨u, hu, so_of hV ((hI.2.2 c hc).1 u hu) hat⟩
    refine .inl ⟨hk, ?_, hmet⟩
    obtain ⟨x, hx, ht⟩ := bits_ex (metR r V)
    have hl : (metR r V).length = V := by rw [e1, truths_len]
    rw [hl] at hx ht
    exact List.any_eq_true.2 ⟨x, List.mem_range.2 hx, by rw [ht]; exact hmet⟩
  · refine .inr ⟨hk, ?_⟩
    rw [Bool.eq_false_iff]
    intro hf
    obtain ⟨x, _, hm⟩ := List.any_eq_true.1 hf
    have hvp := hA.tv.vp
    have hin : ∀ c ∈ r.2.2.l, inR c := fun c hc v hv => by
      have := ((hP.cl c hc).1 v hv).2
      exact ⟨by omega, by omega⟩
    have hmm := allF_met _ _ _ _ hvp hin hm
    have hempty : r.2.2.l.getD r.2.1.toNat [] = [] := by
      refine List.eq_nil_iff_forall_not_mem.2 fun v hv => ?_
      exact List.not_mem_nil (hA.un hk v hv)
    obtain ⟨y1, y2⟩ := hP.res hk
    have hmem : [] ∈ r.2.2.l := by
      rw [List.getD_eq_getElem?_getD, List.getElem?_eq_getElem y2] at hempty
      have := List.getElem_mem y2
      rw [show r.2.2.l[r.2.1.toNat] = [] from hempty] at this
      exact this
    have := List.all_eq_true.1 hmm [] hmem
    cases this
  · exact absurd hk hna
end Go.Abs.B
