import Derived.Test.YtmmjjkahaemlkaaS9
set_option linter.unusedVariables false
set_option linter.unusedSimpArgs false
/-
  The solver in plain Lean: clauses of one literal each.
-/
namespace Go.Abs.B
open Go Go.Abs
set_option maxRecDepth 8000

theorem truths_lenU (a : List Int) (n : Nat) : (truthsR a n).length = n := by simp [truthsR]
def Sat (L : List (List Int)) (a : List Int) : Prop := ∀ c ∈ L, lookR a c 0 = (0, true)
theorem pass_sat : ∀ (L : List (List Int)) (i : Int) (a : List Int) (t : List (Int × Int)) (m : Bool), Sat L a → passR L i a t m = (none, a, t, m)
  | [], _, _, _, _, _ => rfl
  | c :: L, i, a, t, m, h => by
    unfold passR
    rw [h c (by simp)]
    exact pass_sat L (i + 1) a t m (fun d hd => h d (by simp [hd]))
theorem spread_sat {L : List (List Int)} {a : List Int} (k : Nat) (t : List (Int × Int)) (h : Sat L a) : spreadR (k + 1) L a t = (-1, a, t) := by
  unfold spreadR
  rw [pass_sat L 0 a t false h]
theorem look_one {a : List Int} {v : Int} (h0 : v ≠ 0) : lookR a [v] 0 = if atv a v = 0 then (v, true) else if atv a v = v then (0, true) else (0, false) := by
  rw [lookR_cons]
  unfold soR
  by_cases h1 : atv a v = 0
  · rw [if_pos h1, if_pos h1, if_neg (by omega), if_pos rfl, if_neg (by omega)]
    show (v, v != 0) = _
    have : (v != 0) = true := by simpa using h0
    rw [this]
  · rw [if_neg h1, if_neg h1]
    by_cases h2 : atv a v = v
    · rw [if_pos h2, if_pos h2, if_pos rfl]
    · rw [if_neg h2, if_neg h2, if_neg (by omega), if_neg (by omega)]
      rfl

/-- What the statement makes of its numbers. -/
def uBad (n : Nat) (v : Int) : Prop := v = 0 ∨ v.natAbs > n
instance (n : Nat) (v : Int) : Decidable (uBad n v) := inferInstanceAs (Decidable (_ ∨ _))
def uPut (s : List Int) (v : Int) : List Int := if s.getD v.natAbs 0 = 0 then s.set v.natAbs v else s
def uC (n : Nat) : List Int → List (List Int)
  | [] => []
  | v :: l => if uBad n v then uC n l else [v] :: uC n l
def uS (n : Nat) (s : List Int) : List Int → List Int
  | [] => s
  | v :: l => if uBad n v then uS n s l else uS n (uPut s v) l
def uA (n : Nat) (s : List Int) : List Int → Bool
  | [] => false
  | v :: l => if uBad n v then uA n s l else (s.getD v.natAbs 0 == 0 - v) || uA n (uPut s v) l
theorem uC_snoc (n : Nat) (v : Int) : ∀ l, uC n (l ++ [v]) = if uBad n v then uC n l else uC n l ++ [[v]]
  | [] => rfl
  | x :: l => by
    simp only [uC, List.cons_append, uC_snoc n v l]
    split <;> split <;> rfl
theorem uS_snoc (n : Nat) (v : Int) : ∀ (l s : List Int), uS n s (l ++ [v]) = if uBad n v then uS n s l else uPut (uS n s l) v
  | [], s => rfl
  | x :: l, s => by
    simp only [uS, List.cons_append]
    split
    · exact uS_snoc n v l s
    · exact uS_snoc n v l _
theorem uA_snoc (n : Nat) (v : Int) : ∀ (l s : List Int), uA n s (l ++ [v]) = if uBad n v then uA n s l else (uA n s l || ((uS n s l).getD v.natAbs 0 == 0 - v))
  | [], s => by
    simp only [uA, uS, List.nil_append, Bool.or_false, Bool.false_or]
  | x :: l, s => by
    simp only [uA, uS, List.cons_append]
    split
    · exact uA_snoc n v l s
    · rw [uA_snoc n v l _]
      split
      · rfl
      · rw [Bool.or_assoc]
theorem uPut_len (s : List Int) (v : Int) : (uPut s v).length = s.length := by
  unfold uPut
  split
  · simp
  · rfl
theorem uS_len (n : Nat) : ∀ (l s : List Int), (uS n s l).length = s.length
  | [], _ => rfl
  | v :: l, s => by
    simp only [uS]
    split
    · exact uS_len n l s
    · rw [uS_len n l _, uPut_len]
/-- Each place holds nothing, or itself, so or not. -/
def Own (s : List Int) : Prop := ∀ k, s.getD k 0 = 0 ∨ (s.getD k 0).natAbs = k
theorem own_zero (n : Nat) : Own (List.replicate n 0) := fun k => by
  left
  simp [List.getD_eq_getElem?_getD, List.getElem?_replicate]
  split <;> rfl
theorem own_put {s : List Int} (h : Own s) {v : Int} (hv : v.natAbs < s.length) : Own (uPut s v) := by
  intro k
  unfold uPut
  split
  · rw [getD_set hv]
    split
    · rename_i h1
      exact .inr h1
    · exact h k
  · exact h k
theorem put_keep {s : List Int} {v : Int} {k : Nat} (hv : v.natAbs < s.length) (h : s.getD k 0 ≠ 0) : (uPut s v).getD k 0 = s.getD k 0 := by
  unfold uPut
  split
  · rename_i h0
    rw [getD_set hv, if_neg]
    rintro rfl
    exact h h0
  · rfl
theorem uS_own (n : Nat) : ∀ (l s : List Int), n < s.length → Own s → Own (uS n s l)
  | [], _, _, h => h
  | v :: l, s, hn, h => by
    simp only [uS]
    split
    · exact uS_own n l s hn h
    · rename_i hb
      have hv : v.natAbs < s.length := by
        have : ¬ v.natAbs > n := fun q => hb (.inr q)
        omega
      exact uS_own n l _ (by rw [uPut_len]; exact hn) (own_put h hv)
theorem uS_keep (n : Nat) {k : Nat} : ∀ (l s : List Int), n < s.length → s.getD k 0 ≠ 0 → (uS n s l).getD k 0 = s.getD k 0
  | [], _, _, _ => rfl
  | v :: l, s, hn, h => by
    simp only [uS]
    split
    · exact uS_keep n l s hn h
    · rename_i hb
      have hv : v.natAbs < s.length := by
        have : ¬ v.natAbs > n := fun q => hb (.inr q)
        omega
      have hp := put_keep hv h
      rw [uS_keep n l _ (by rw [uPut_len]; exact hn) (by rw [hp]; exact h), hp]
/-- Of those that are not opposite each is as it was first seen. -/
theorem uS_all (n : Nat) : ∀ (l s : List Int), n < s.length → Own s → uA n s l = false → ∀ c ∈ uC n l, ∃ v, c = [v] ∧ v ≠ 0 ∧ v.natAbs ≤ n ∧ (uS n s l).getD v.natAbs 0 = v
  | [], _, _, _, _ => fun c hc => (List.not_mem_nil hc).elim
  | v :: l, s, hn, ho, ha => by
    simp only [uA, uC, uS] at ha ⊢
    by_cases hb : uBad n v
    · simp only [if_pos hb] at ha ⊢
      exact uS_all n l s hn ho ha
    · simp only [if_neg hb] at ha ⊢
      have h0 : v ≠ 0 := fun q => hb (.inl q)
      have hle : v.natAbs ≤ n := by
        have : ¬ v.natAbs > n := fun q => hb (.inr q)
        omega
      have hv : v.natAbs < s.length := by omega
      rw [Bool.or_eq_false_iff] at ha
      obtain ⟨a1, a2⟩ := ha
      have a1' : ¬ s.getD v.natAbs 0 = 0 - v := by simpa using a1
      have hp : (uPut s v).getD v.natAbs 0 = v := by
        unfold uPut
        split
        · rw [getD_set hv, if_pos rfl]
        · rename_i hne
          rcases ho v.natAbs with h | h
          · exact absurd h hne
          · omega
      intro c hc
      rcases List.mem_cons.1 hc with rfl | hc
      · exact ⟨v, rfl, h0, hle, by rw [uS_keep n l _ (by rw [uPut_len]; exact hn) (by rw [hp]; exact h0), hp]⟩
      · exact uS_all n l _ (by rw [uPut_len]; exact hn) (own_put ho hv) a2 c hc
theorem getD_takeI {s : List Int} {N k : Nat} (h : k < N) : (s.take N).getD k 0 = s.getD k 0 := by
  simp only [List.getD_eq_getElem?_getD]
  rw [List.getElem?_take_of_lt h]
theorem pass_units (n : Nat) : ∀ (l s : List Int) (i : Int) (t : List (Int × Int)) (m : Bool), n < s.length → Own s →
    (uA n s l = true → ∃ j, (passR (uC n l) i (s.take (n + 1)) t m).1 = some j ∧ i ≤ j) ∧
    (uA n s l = false → (passR (uC n l) i (s.take (n + 1)) t m).1 = none ∧ (passR (uC n l) i (s.take (n + 1)) t m).2.1 = (uS n s l).take (n + 1))
  | [], s, i, t, m, _, _ => ⟨fun h => by simp [uA] at h, fun _ => ⟨rfl, rfl⟩⟩
  | v :: l, s, i, t, m, hn, ho => by
    simp only [uA, uC, uS]
    by_cases hb : uBad n v
    · simp only [if_pos hb]
      exact pass_units n l s i t m hn ho
    · simp only [if_neg hb]
      have h0 : v ≠ 0 := fun q => hb (.inl q)
      have hle : v.natAbs ≤ n := by
        have : ¬ v.natAbs > n := fun q => hb (.inr q)
        omega
      have hv : v.natAbs < s.length := by omega
      have hat : atv (s.take (n + 1)) v = s.getD v.natAbs 0 := getD_takeI (by omega)
      have hl := look_one (a := s.take (n + 1)) h0
      rw [hat] at hl
      unfold passR
      rw [hl]
      by_cases h1 : s.getD v.natAbs 0 = 0
      · have hp : uPut s v = s.set v.natAbs v := if_pos h1
        have hs : (s.take (n + 1)).set v.natAbs v = (uPut s v).take (n + 1) := by rw [hp, List.take_set]
        have hne : (s.getD v.natAbs 0 == 0 - v) = false := by
          rw [h1]
          have : ¬ (0 : Int) = 0 - v := by omega
          simpa using this
        have ih := pass_units n l (uPut s v) (i + 1) (t ++ [(v, i)]) true (by rw [uPut_len]; exact hn) (own_put ho hv)
        rw [if_pos h1, hne, Bool.false_or, if_neg (by simp), if_pos (show (v, true).1 ≠ 0 from h0)]
        show (_ → ∃ j, (passR _ _ ((s.take (n + 1)).set v.natAbs v) _ _).1 = some j ∧ _) ∧ (_ → (passR _ _ ((s.take (n + 1)).set v.natAbs v) _ _).1 = none ∧ (passR _ _ ((s.take (n + 1)).set v.natAbs v) _ _).2.1 = _)
        rw [hs]
        exact ⟨fun h => by obtain ⟨j, q1, q2⟩ := ih.1 h; exact ⟨j, q1, by omega⟩, ih.2⟩
      · have hp : uPut s v = s := if_neg h1
        rw [hp, if_neg h1]
        by_cases h2 : s.getD v.natAbs 0 = v
        · have hne : (s.getD v.natAbs 0 == 0 - v) = false := by
            rw [h2]
            have : ¬ v = 0 - v := by omega
            simpa using this
          have ih := pass_units n l s (i + 1) t m hn ho
          rw [if_pos h2, hne, Bool.false_or, if_neg (by simp), if_neg (by simp)]
          exact ⟨fun h => by obtain ⟨j, q1, q2⟩ := ih.1 h; exact ⟨j, q1, by omega⟩, ih.2⟩
        · have h3 : s.getD v.natAbs 0 = 0 - v := by
            rcases ho v.natAbs with h | h
            · exact absurd h h1
            · omega
          have hne : (s.getD v.natAbs 0 == 0 - v) = true := by simpa using h3
          rw [if_neg h2, hne, Bool.true_or, if_pos rfl]
          exact ⟨fun _ => ⟨i, rfl, Int.le_refl _⟩, fun h => by cases h⟩

/-- How many places behind the first hold nothing. -/
def zeros (a : List Int) : Nat := (a.drop 1).count 0
theorem zeros_set {a : List Int} {v : Nat} (h0 : 0 < v) (hv : v < a.length) (h : a.getD v 0 = 0) : zeros (a.set v (v : Int)) + 1 = zeros a := by
  unfold zeros
  have hd : (a.set v (v : Int)).drop 1 = (a.drop 1).set (v - 1) (v : Int) := by
    obtain ⟨w, rfl⟩ : ∃ w, v = w + 1 := ⟨v - 1, by omega⟩
    cases a with
    | nil => rfl
    | cons x a => rfl
  have hl : v - 1 < (a.drop 1).length := by rw [List.length_drop]; omega
  have hg : (a.drop 1)[v - 1]'hl = 0 := by
    rw [List.getElem_drop]
    rw [List.getD_eq_getElem?_getD, List.getElem?_eq_getElem hv] at h
    have h : a[v] = 0 := h
    rw [← h]
    congr 1
    omega
  rw [hd, List.count_set hl, hg]
  have hpos : 0 < (a.drop 1).count 0 := by
    rw [List.count_pos_iff]
    rw [← hg]
    exact List.getElem_mem hl
  have hne : ((v : Int) == 0) = false := by
    have : ¬ (v : Int) = 0 := by omega
    simpa using this
  rw [hne, show ((0 : Int) == 0) = true from rfl, if_pos rfl, if_neg (by decide)]
  omega
theorem vF_none {a : List Int} (h : vF a = 0) : zeros a = 0 := by
  unfold vF idxR at h
  split at h
  · have := Int.natCast_nonneg ((a.drop 1).idxOf 0)
    omega
  · rename_i hm
    exact List.count_eq_zero.2 hm
theorem vF_some {a : List Int} (h : vF a ≠ 0) : 0 < vF a ∧ (vF a).natAbs < a.length ∧ a.getD (vF a).natAbs 0 = 0 := by
  unfold vF idxR at h ⊢
  split at h
  · rename_i hm
    rw [if_pos hm]
    have hlt := List.idxOf_lt_length_of_mem hm
    have hg := List.getElem_idxOf hlt
    rw [List.length_drop] at hlt
    rw [List.getElem_drop] at hg
    refine ⟨by omega, by omega, ?_⟩
    have e : ((List.idxOf 0 (a.drop 1) : Int) + 1).natAbs = 1 + List.idxOf 0 (a.drop 1) := by omega
    rw [e, List.getD_eq_getElem?_getD, List.getElem?_eq_getElem (by omega)]
    exact hg
  · exact absurd rfl h
def UL (L : List (List Int)) : Prop := ∀ c ∈ L, ∃ v, c = [v] ∧ v ≠ 0
theorem sat_set {L : List (List Int)} {a : List Int} (hu : UL L) (h : Sat L a) {v : Int} (hl : v.natAbs < a.length) (h0 : a.getD v.natAbs 0 = 0) : Sat L (a.set v.natAbs v) := by
  intro c hc
  obtain ⟨w, rfl, hw⟩ := hu c hc
  have h1 := h _ hc
  rw [look_one hw] at h1 ⊢
  have hne : atv a w ≠ 0 := by
    intro q
    rw [if_pos q] at h1
    exact hw (congrArg Prod.fst h1)
  have he : atv (a.set v.natAbs v) w = atv a w := by
    unfold atv at hne ⊢
    rw [getD_set hl, if_neg]
    intro q
    rw [q] at h0
    exact hne h0
  rw [he]
  exact h1
theorem try_units {N given : Nat} : ∀ (k : Nat) (s : Sv) (a : List Int) (t : List (Int × Int)), UL (s.l.take given) → spS N given s = (-1, a, t) → Sat (s.l.take given) a → a.length = N → zeros a < k → (zeros a : Int) ≤ s.left →
    (tryR N given k s).1 = 1 ∧ (tryR N given k s).2.2.tried = s.tried + zeros a ∧ ∀ j, 0 < j → j < N → (tryR N given k s).2.2.a.getD j 0 = if a.getD j 0 = 0 then (j : Int) else a.getD j 0
  | 0, s, a, t, _, _, _, _, h, _ => absurd h (by omega)
  | k + 1, s, a, t, hu, hsp, hsat, hlen, hz, hleft => by
    show (tryA (tryR N given k) s (spS N given s) (vF (spS N given s).2.1)).1 = 1 ∧ (tryA (tryR N given k) s (spS N given s) (vF (spS N given s).2.1)).2.2.tried = _ ∧ ∀ j, 0 < j → j < N → (tryA (tryR N given k) s (spS N given s) (vF (spS N given s).2.1)).2.2.a.getD j 0 = _
    rw [hsp]
    unfold tryA
    rw [if_neg (show ¬ (0 : Int) ≤ -1 by decide)]
    by_cases hv : vF a = 0
    · have hz0 := vF_none hv
      rw [if_pos hv]
      refine ⟨rfl, ?_, fun j h0 hj => ?_⟩
      · show s.tried = _
        rw [hz0]
        omega
      · show a.getD j 0 = _
        split
        · rename_i hg
          exfalso
          unfold zeros at hz0
          rw [List.count_eq_zero] at hz0
          refine hz0 ?_
          have hl : j - 1 < (a.drop 1).length := by rw [List.length_drop]; omega
          have := List.getElem_mem hl
          rw [List.getElem_drop] at this
          rw [List.getD_eq_getElem?_getD, List.getElem?_eq_getElem (by omega)] at hg
          have hg : a[j]'(by omega) = 0 := hg
          rw [← hg]
          have e : 1 + (j - 1) = j := by omega
          simp only [e] at this
          exact this
        · rfl
    rw [if_neg hv]
    obtain ⟨v1, v2, v3⟩ := vF_some hv
    generalize vF a = v at *
    obtain ⟨w, rfl⟩ : ∃ w : Nat, v = w := ⟨v.toNat, by omega⟩
    rw [Int.natAbs_natCast] at v2 v3
    have hzs := zeros_set (by omega) v2 v3
    rw [if_neg (by omega)]
    have ih := try_units (N := N) (given := given) k ((s2R s (-1, a, t)).fix w) (a.set w w) (t ++ [((w : Int), -1)]) hu (spread_sat N _ (sat_set hu hsat (v := (w : Int)) (by simpa using v2) (by simpa using v3))) (sat_set hu hsat (v := (w : Int)) (by simpa using v2) (by simpa using v3)) (by simpa using hlen) (by omega) (by show _ ≤ s.left - 1; omega)
    generalize tryR N given k ((s2R s (-1, a, t)).fix w) = x1 at *
    obtain ⟨i1, i2, i3⟩ := ih
    unfold tryB
    rw [if_pos (by rw [i1]; decide)]
    have hw := i3 w (by omega) (by omega)
    rw [getD_set v2, if_pos rfl] at hw
    have hne : atv x1.2.2.a (w : Int) ≠ 0 := by
      unfold atv
      rw [Int.natAbs_natCast, hw]
      split <;> omega
    have hfin : x1.2.2.fin s.t.length w = x1.2.2 := if_neg hne
    refine ⟨i1, ?_, fun j h0 hj => ?_⟩
    · show (x1.2.2.fin s.t.length w).tried = _
      rw [hfin, i2]
      show s.tried + 1 + _ = _
      omega
    · show (x1.2.2.fin s.t.length w).a.getD j 0 = _
      rw [hfin, i3 j h0 hj, getD_set v2]
      by_cases hjw : w = j
      · subst hjw
        rw [if_pos rfl, if_pos v3, if_neg (by omega)]
      · rw [if_neg hjw]

theorem uC_ok (n : Nat) : ∀ (l : List Int), ∀ c ∈ uC n l, ∃ v, c = [v] ∧ v ≠ 0 ∧ v.natAbs ≤ n
  | [], c, hc => (List.not_mem_nil hc).elim
  | v :: l, c, hc => by
    simp only [uC] at hc
    by_cases hb : uBad n v
    · rw [if_pos hb] at hc
      exact uC_ok n l c hc
    · rw [if_neg hb] at hc
      rcases List.mem_cons.1 hc with rfl | hc
      · refine ⟨v, rfl, fun q => hb (.inl q), ?_⟩
        have : ¬ v.natAbs > n := fun q => hb (.inr q)
        omega
      · exact uC_ok n l c hc
theorem uC_len (n : Nat) : ∀ (l : List Int), (uC n l).length ≤ l.length
  | [] => Nat.le_refl _
  | v :: l => by
    have := uC_len n l
    simp only [uC]
    split
    · simp only [List.length_cons]; omega
    · simp only [List.length_cons]; omega
theorem okI_units {n : Nat} {l : List Int} (hn : n ≤ 11) (hl : l.length ≤ 30) : okI (uC n l) n := by
  refine ⟨by omega, by have := uC_len n l; omega, fun c hc => ?_⟩
  obtain ⟨v, rfl, h0, h1⟩ := uC_ok n l c hc
  refine ⟨fun u hu => ?_, by simp⟩
  simp only [List.mem_singleton] at hu
  subst hu
  exact ⟨h0, by omega⟩
theorem check_units {n : Nat} {l : List Int} (hn : n ≤ 11) : checkC (uC n l) n = 0 := by
  unfold checkC
  rw [if_neg]
  rintro (h | h | h)
  · omega
  · omega
  · obtain ⟨c, hc, h⟩ := List.any_eq_true.1 h
    obtain ⟨v, rfl, h0, h1⟩ := uC_ok n l c hc
    unfold wrongC at h
    simp only [List.any_cons, List.any_nil, Bool.or_false] at h
    unfold wrongB at h
    simp only [Bool.or_eq_true, decide_eq_true_eq] at h
    omega
def z13 : List Int := List.replicate 13 0
theorem spread_units {n : Nat} {l : List Int} (hn : n ≤ 11) (k : Nat) :
    (uA n z13 l = true → 0 ≤ (spreadR (k + 2) (uC n l) (List.replicate (n + 1) 0) []).1) ∧
    (uA n z13 l = false → ∃ t, spreadR (k + 2) (uC n l) (List.replicate (n + 1) 0) [] = (-1, (uS n z13 l).take (n + 1), t) ∧ Sat (uC n l) ((uS n z13 l).take (n + 1))) := by
  have hz : z13.take (n + 1) = List.replicate (n + 1) 0 := by
    unfold z13
    rw [List.take_replicate, Nat.min_eq_left (by omega)]
  have hp := pass_units n l z13 0 [] false (by show n < 13; omega) (own_zero 13)
  rw [hz] at hp
  constructor
  · intro h
    obtain ⟨j, h1, h2⟩ := hp.1 h
    unfold spreadR
    generalize passR (uC n l) 0 (List.replicate (n + 1) 0) [] false = r at *
    obtain ⟨o, a1, t1, m⟩ := r
    simp only [] at h1
    subst h1
    exact h2
  · intro h
    obtain ⟨h1, h2⟩ := hp.2 h
    have hall := uS_all n l z13 (by show n < 13; omega) (own_zero 13) h
    have hsat : Sat (uC n l) ((uS n z13 l).take (n + 1)) := by
      intro c hc
      obtain ⟨v, rfl, q1, q2, q3⟩ := hall c hc
      have hat : atv ((uS n z13 l).take (n + 1)) v = v := by
        unfold atv
        rw [getD_takeI (by omega), q3]
      rw [look_one q1, hat, if_neg q1, if_pos rfl]
    refine ⟨(passR (uC n l) 0 (List.replicate (n + 1) 0) [] false).2.2.1, ?_, hsat⟩
    show spreadR (k + 1 + 1) _ _ _ = _
    rw [spreadR]
    generalize passR (uC n l) 0 (List.replicate (n + 1) 0) [] false = r at *
    obtain ⟨o, a1, t1, m⟩ := r
    simp only [] at h1 h2
    subst h1 h2
    cases m with
    | false => rfl
    | true => exact spread_sat k t1 hsat
def freeU (s : List Int) (i : Nat) : Nat := zeros (s.take (i + 1))
theorem free_zero (s : List Int) : freeU s 0 = 0 := by
  unfold freeU zeros
  cases s with
  | nil => rfl
  | cons x s => rfl
theorem free_succ {s : List Int} {i : Nat} (h : i + 1 < s.length) : freeU s (i + 1) = freeU s i + if s.getD (i + 1) 0 = 0 then 1 else 0 := by
  unfold freeU zeros
  rw [List.take_succ_eq_append_getElem h, List.drop_append_of_le_length (by rw [List.length_take]; omega), List.count_append]
  rw [List.getD_eq_getElem?_getD, List.getElem?_eq_getElem h]
  show _ + List.count 0 [s[i + 1]] = _ + if s[i + 1] = 0 then 1 else 0
  rw [List.count_singleton]
  congr 1
  by_cases hx : s[i + 1] = 0
  · rw [hx]
    rfl
  · rw [if_neg hx, if_neg]
    simpa using hx
structure Units (n : Nat) (l : List Int) (r : Int × Int × Sv) : Prop where
  not : uA n z13 l = true → r.1 = 2 ∧ r.2.2.tried = 0
  met : uA n z13 l = false → r.1 = 1 ∧ r.2.2.tried = freeU (uS n z13 l) n ∧ (metR r n).length = n ∧ ∀ i (hi : i < (metR r n).length), (metR r n)[i] = decide ((uS n z13 l).getD (i + 1) 0 ≥ 0)
theorem units_told {n : Nat} {l : List Int} (hn : n ≤ 11) : Units n l (solveR (uC n l) n 100) := by
  have hsp := spread_units (l := l) hn n
  have htk : (uC n l).take (uC n l).length = uC n l := List.take_length
  have hs0 : spS (n + 1) (uC n l).length (s0R (uC n l) n 100) = spreadR (n + 2) (uC n l) (List.replicate (n + 1) 0) [] := by
    unfold spS
    show spreadR (n + 1 + 1) ((uC n l).take _) _ _ = _
    rw [htk]
    rfl
  constructor
  · intro h
    have h1 := hsp.1 h
    have : solveR (uC n l) n 100 = failR (s0R (uC n l) n 100) (spS (n + 1) (uC n l).length (s0R (uC n l) n 100)) := by
      show tryA _ _ _ _ = _
      unfold tryA
      rw [if_pos (by rw [hs0]; exact h1)]
    rw [this]
    exact ⟨rfl, rfl⟩
  · intro h
    obtain ⟨t, h1, h2⟩ := hsp.2 h
    have hlen : ((uS n z13 l).take (n + 1)).length = n + 1 := by
      rw [List.length_take, uS_len]
      show min (n + 1) 13 = n + 1
      omega
    have hzl : zeros ((uS n z13 l).take (n + 1)) ≤ n := by
      have := List.count_le_length (a := (0 : Int)) (l := ((uS n z13 l).take (n + 1)).drop 1)
      unfold zeros
      rw [List.length_drop, hlen] at this
      exact this
    have hu : UL ((s0R (uC n l) n 100).l.take (uC n l).length) := by
      show UL ((uC n l).take _)
      rw [htk]
      intro c hc
      obtain ⟨v, q1, q2, _⟩ := uC_ok n l c hc
      exact ⟨v, q1, q2⟩
    have ht := try_units (N := n + 1) (given := (uC n l).length) (n + 1) (s0R (uC n l) n 100) _ t hu (by rw [hs0]; exact h1) (by show Sat ((uC n l).take _) _; rw [htk]; exact h2) hlen (by omega) (by show _ ≤ (100 : Int); omega)
    change (solveR (uC n l) n 100).1 = 1 ∧ (solveR (uC n l) n 100).2.2.tried = 0 + _ ∧ ∀ j, 0 < j → j < n + 1 → (solveR (uC n l) n 100).2.2.a.getD j 0 = _ at ht
    generalize solveR (uC n l) n 100 = r at *
    obtain ⟨t1, t2, t3⟩ := ht
    have e1 : metR r n = truthsR r.2.2.a n := if_pos t1
    refine ⟨t1, by rw [t2]; unfold freeU; omega, by rw [e1, truths_lenU], ?_⟩
    rw [e1]
    intro i hi
    have hi' := hi
    rw [truths_lenU] at hi'
    have e2 : (truthsR r.2.2.a n)[i] = decide (r.2.2.a.getD (i + 1) 0 > 0) := by simp [truthsR]
    rw [e2, t3 (i + 1) (by omega) (by omega), getD_takeI (by omega)]
    by_cases h0 : (uS n z13 l).getD (i + 1) 0 = 0
    · rw [if_pos h0, h0]
      rw [decide_eq_true (by omega), decide_eq_true (by omega)]
    · rw [if_neg h0]
      by_cases hp : (uS n z13 l).getD (i + 1) 0 > 0
      · rw [decide_eq_true hp, decide_eq_true (by omega)]
      · rw [decide_eq_false hp, decide_eq_false (by omega)]
end Go.Abs.B
