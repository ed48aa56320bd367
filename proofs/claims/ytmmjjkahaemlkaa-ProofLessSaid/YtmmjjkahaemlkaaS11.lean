import Derived.Test.YtmmjjkahaemlkaaKont2
import Derived.Test.YtmmjjkahaemlkaaS9
import Derived.Test.YtmmjjkahaemlkaaS10
import Derived.Test.YtmmjjkahaemlkaaSU
import Derived.Test.YtmmjjkahaemlkaaQ9
set_option linter.unusedVariables false
set_option linter.unusedSimpArgs false
/-
  The statement ProofSolved as the machine code sees it.
-/
namespace Go.Abs.B
open Go Go.Abs
set_option maxRecDepth 8000
attribute [local irreducible] callN runC evalOp

theorem checkC_facts {l : List (List Int)} {vars : Int} (h : checkC l vars = 0) : 0 ≤ vars ∧ vars ≤ 20000 ∧ ∀ c ∈ l, ∀ v ∈ c, v ≠ 0 ∧ v ≤ vars ∧ 0 - vars ≤ v := by
  unfold checkC at h
  split at h
  · cases h
  · rename_i hn
    have h1 : ¬ vars < 0 := fun h => hn (.inl h)
    have h2 : ¬ vars > 20000 := fun h => hn (.inr (.inl h))
    have h3 : ¬ l.any (wrongC vars) = true := fun h => hn (.inr (.inr h))
    refine ⟨by omega, by omega, fun c hc v hv => ?_⟩
    have h4 : wrongB vars v = false := by
      rw [Bool.eq_false_iff]
      intro h5
      exact h3 (List.any_eq_true.2 ⟨c, hc, List.any_eq_true.2 ⟨v, hv, h5⟩⟩)
    unfold wrongB at h4
    simp only [Bool.or_eq_false_iff, decide_eq_false_iff_not] at h4
    obtain ⟨⟨a1, a2⟩, a3⟩ := h4
    exact ⟨a1, by omega, by omega⟩
theorem okI_of {l : List (List Int)} {vars : Int} (ht : tidyB l = true) (h12 : vars ≤ 12) (h : checkC l vars = 0) : okI l vars.toNat := by
  obtain ⟨h1, h2, h3⟩ := checkC_facts h
  unfold tidyB at ht
  simp only [Bool.and_eq_true, decide_eq_true_eq, List.all_eq_true] at ht
  refine ⟨by omega, ht.1, fun c hc => ⟨fun v hv => ?_, ht.2 c hc⟩⟩
  obtain ⟨a1, a2, a3⟩ := h3 c hc v hv
  exact ⟨a1, by omega⟩
theorem truths_len (a : List Int) (n : Nat) : (truthsR a n).length = n := by simp [truthsR]
theorem so_of {a : List Int} {V : Nat} {u : Int} (hV : V ≤ 12) (hu : okL (V + 1) u) (h : atv a u = u) : soB u (truthsR a V) = true := by
  obtain ⟨h0, h1⟩ := hu
  have hg : ∀ {k : Int} (h0 : 0 < k) (hk : k.natAbs = u.natAbs), isB k (truthsR a V) = decide (u > 0) := by
    intro k k0 hk
    have hl : (k - 1).toNat < (truthsR a V).length := by rw [truths_len]; omega
    rw [isB_in k0 hl]
    have hq : ∀ (j : Nat) (hj : j < (truthsR a V).length), (truthsR a V)[j] = decide (a.getD (j + 1) 0 > 0) := fun j hj => by simp [truthsR]
    rw [hq]
    unfold atv at h
    rw [show (k - 1).toNat + 1 = u.natAbs by omega, h]
  unfold soB
  rw [if_neg h0]
  by_cases hn : u < 0
  · rw [if_pos hn, negI_eq (by omega) (by omega), hg (by omega) (by omega)]
    simp
  · rw [if_neg hn, hg (by omega) rfl]
    simp
theorem tv0 (l : List (List Int)) (V : Nat) (left : Int) : TV l (s0R l V left) := ⟨⟨[], by simp [s0R]⟩, TI.nil _, rfl⟩
theorem solved_plain {l : List (List Int)} {V : Nat} {b : Int} (hI : okI l V) (hb : 8192 ≤ b ∧ b ≤ 1000000000000) :
    ((solveR l V b).1 = 1 ∧ metB l (metR (solveR l V b) V) = true) ∨ ((solveR l V b).1 = 2 ∧ checkR l (stepsR (solveR l V b)) = 0 ∧ (stepsR (solveR l V b)).length ≤ 300000) := by
  have hV := hI.1
  have hpre := pre0 (left := b) hI (by omega)
  have hA := try_all (l0 := l) (by omega) (by omega) (V + 1) _ hpre (tv0 l V b)
  have hC := try_cnt (by omega) (V + 1) _ hpre
  have hP := try_post (by omega) (V + 1) _ hpre
  have hp : 2 ^ (V + 1) ≤ 8192 := Nat.le_trans (Nat.pow_le_pow_right (by omega) (by omega : V + 1 ≤ 13)) (by decide)
  have hp2 : (V + 1 + 1) * 2 ^ (V + 1) ≤ 14 * 8192 := Nat.mul_le_mul (by omega) hp
  have hf := hC.fine
  have hle : 2 ^ (V + 1 - 1 - (s0R l V b).t.length) ≤ 2 ^ (V + 1) := pow_mono (by omega)
  have hsl : (s0R l V b).left = b := rfl
  rw [hsl] at hf
  have h3 := hf (by omega)
  have hrs := hP.rs
  change _ ≤ 0 + _ at hrs
  change ((solveR l V b).1 = 1 ∧ _) ∨ _
  unfold solveR
  generalize tryR (V + 1) l.length (V + 1) (s0R l V b) = r at *
  rcases hP.kind with hk | hk | hk
  · refine .inl ⟨hk, ?_⟩
    have e1 : metR r V = truthsR r.2.2.a V := if_pos hk
    rw [e1]
    unfold metB
    refine List.all_eq_true.2 fun c hc => ?_
    obtain ⟨u, hu, hat⟩ := hA.met hk c hc
    exact List.any_eq_true.2 ⟨u, hu, so_of hV ((hI.2.2 c hc).1 u hu) hat⟩
  · refine .inr ⟨hk, ?_, ?_⟩
    · have e2 : stepsR r = r.2.2.steps := if_pos hk
      rw [e2]
      have hvp := hA.tv.vp
      have hR : allR l r.2.2.steps = (r.2.2.l, 0) := by unfold allR; rw [hvp]
      unfold checkR
      rw [hR]
      have hempty : r.2.2.l.getD r.2.1.toNat [] = [] := by
        refine List.eq_nil_iff_forall_not_mem.2 fun v hv => ?_
        exact List.not_mem_nil (hA.un hk v hv)
      obtain ⟨y1, y2⟩ := hP.res hk
      have hmem : [] ∈ r.2.2.l := by
        rw [List.getD_eq_getElem?_getD, List.getElem?_eq_getElem y2] at hempty
        have := List.getElem_mem y2
        rw [show r.2.2.l[r.2.1.toNat] = [] from hempty] at this
        exact this
      rw [if_pos rfl, if_pos hmem]
    · have e2 : stepsR r = r.2.2.steps := if_pos hk
      rw [e2]
      omega
  · exact absurd hk h3

theorem metW_ok (n : Nat) (l : List (List Int)) (a : List Bool) (o1 o2 : Option Nat) (σ : St) (ha : a.length ≤ 9223372036854775807) (hn : 4096 ≤ n) (hl : l.length < 4096) (hc : ∀ c ∈ l, c.length < 4096) :
    callN T (n + 2) 19 [.sl (rows l) o1, .sl (bools a) o2] σ = some (.bool (metB l a), σ) := by
  refine call_of (m := m19) rfl rfl (by decide) (k_start ?_)
  unfold m19
  refine k_seq ?_
  refine rv (D.bool false) ?_
  refine k_done (k_skip_seq (k_seq (k_seq ?_)))
  refine rv (D.int IntKind.i64 (0 : Int)) ?_
  refine k_done (k_skip_seq (k_block ?_))
  refine k_loop (S := Nat × D × D) (fun s => f19 l a s.1 s.2.1 s.2.2) (fun _ => σ) (fun s => s.1 ≤ l.length ∧ ((∃ b, s.2.1 = .bool b) ∨ s.2.1 = .junk) ∧ ((∃ b, s.2.2 = .int .i64 b) ∨ s.2.2 = .junk) ∧ (l.take s.1).all (metC · a) = true) (fun s => l.length - s.1) (0, .junk, .junk) (by kernel_rfl) rfl ⟨by simp, .inr rfl, .inr rfl, by simp⟩ (by intro s hs; omega) ?_
  rintro ⟨i, md, kd⟩ ⟨hi, hm, hk, hall⟩
  simp only [] at hi hm hk hall
  by_cases hlt : i < l.length
  · have hlc := hc l[i] (List.getElem_mem hlt)
    refine k_seq (k_seq ?_)
    refine rv (D.int IntKind.i64 (↑i : Int)) ?_
    refine rv (D.sl (rows l) none) ?_
    refine rve (D.int IntKind.i64 (↑(List.length (rows l)) : Int)) (.int IntKind.i64 ((↑(List.length l) : Int))) (by simp only [ints, eInt, rows, eInts, bools, eBool, trips, eTrip, i8s, List.length_map]) ?_
    refine rv (D.bool (decide ((↑i : Int) < (↑(List.length l) : Int)))) ?_
    refine k_done (k_skip_seq ?_)
    refine rkn 12 (decide ((↑i : Int) < (↑(List.length l) : Int))) true (decide_eq_true (by omega)) ?_
    refine kct (k_skip_seq (k_seq (k_block (k_seq ?_))))
    refine rv (D.bool false) ?_
    refine k_done (k_skip_seq (k_seq (k_seq ?_)))
    refine rv (D.int IntKind.i64 (0 : Int)) ?_
    refine k_done (k_skip_seq (k_block ?_))
    refine k_loop (S := Nat × Bool) (fun s => f19 l a i (.bool s.2) (.int .i64 s.1)) (fun _ => σ) (fun s => s.1 ≤ l[i].length ∧ s.2 = (l[i].take s.1).any (soB · a)) (fun s => l[i].length - s.1) (0, false) (by kernel_rfl) rfl ⟨by simp, by simp⟩ (by intro s hs; omega) ?_
    rintro ⟨k, b⟩ ⟨hk, hb⟩
    simp only [] at hk hb
    by_cases hlk : k < l[i].length
    · have hso := so31_ok n l[i][k] a none [] ha
      have hat := any_take (p := (soB · a)) hlk
      by_cases hbt : b = true
      · subst hbt
        refine k_seq (k_seq ?_)
        refine rv (D.int IntKind.i64 (↑k : Int)) ?_
        refine rv (D.sl (rows l) none) ?_
        refine rv (D.int IntKind.i64 (↑i : Int)) ?_
        refine runs_index (l) (eInts) (o := none) (kd := IntKind.i64) (i) (by kernel_rfl) (by kernel_rfl) (by kernel_rfl) (by assumption) (by kernel_rfl) ?_
        refine rv (D.sl (ints l[i]) none) ?_
        refine rve (D.int IntKind.i64 (↑(List.length (ints l[i])) : Int)) (.int IntKind.i64 ((↑(List.length l[i]) : Int))) (by simp only [ints, eInt, rows, eInts, bools, eBool, trips, eTrip, i8s, List.length_map]) ?_
        refine rv (D.bool (decide ((↑k : Int) < (↑(List.length l[i]) : Int)))) ?_
        refine k_done (k_skip_seq ?_)
        refine rkn 21 (decide ((↑k : Int) < (↑(List.length l[i]) : Int))) true (decide_eq_true (by omega)) ?_
        refine kct (k_skip_seq (k_seq (k_block (k_seq ?_))))
        refine rv (D.sl (rows l) none) ?_
        refine rv (D.int IntKind.i64 (↑i : Int)) ?_
        refine runs_index (l) (eInts) (o := none) (kd := IntKind.i64) (i) (by kernel_rfl) (by kernel_rfl) (by kernel_rfl) (by assumption) (by kernel_rfl) ?_
        refine rv (D.sl (ints l[i]) none) ?_
        refine rv (D.int IntKind.i64 (↑k : Int)) ?_
        refine runs_index (l[i]) (eInt) (o := none) (kd := IntKind.i64) (k) (by kernel_rfl) (by kernel_rfl) (by kernel_rfl) (by assumption) (by kernel_rfl) ?_
        refine rv (D.int IntKind.i64 l[i][k]) ?_
        refine rv (D.sl (bools a) none) ?_
        refine runs_call ([D.int IntKind.i64 l[i][k], D.sl (bools a) none]) (by kernel_rfl) (by kernel_rfl) (by kernel_rfl) (by kernel_rfl) (hso) (by kernel_rfl) ?_
        refine ra0 (D.bool (soB l[i][k] a)) ?_
        refine k_done (k_skip_seq ?_)
        refine rv (D.bool true) ?_
        refine rv (D.bool true) ?_
        refine rno ?_
        refine rv (D.bool true) ?_
        refine ra0 (D.bool true) ?_
        refine k_done (k_skip_block (k_skip_seq ?_))
        refine rv (D.int IntKind.i64 (↑k : Int)) ?_
        refine rve (D.int IntKind.i64 (IntKind.wrap IntKind.i64 ((↑k : Int) + (1 : Int)))) (.int IntKind.i64 ((k + 1 : Nat) : Int)) (congrArg (D.int IntKind.i64) (show IntKind.wrap IntKind.i64 ((↑k : Int) + (1 : Int)) = ((k + 1 : Nat) : Int) from wrap_eq (by omega) (by omega) (by omega))) ?_
        refine ra0 (D.int IntKind.i64 (↑(k + (1 : Nat)) : Int)) ?_
        refine k_done (k_skip_back ?_)
        refine ⟨(k + 1, true), ⟨hlk, ?_⟩, by simp only []; omega, by kernel_rfl, rfl⟩
        rw [hat, ← hb]
        rfl
      · have hbf : b = false := by simpa using hbt
        subst hbf
        refine k_seq (k_seq ?_)
        refine rv (D.int IntKind.i64 (↑k : Int)) ?_
        refine rv (D.sl (rows l) none) ?_
        refine rv (D.int IntKind.i64 (↑i : Int)) ?_
        refine runs_index (l) (eInts) (o := none) (kd := IntKind.i64) (i) (by kernel_rfl) (by kernel_rfl) (by kernel_rfl) (by assumption) (by kernel_rfl) ?_
        refine rv (D.sl (ints l[i]) none) ?_
        refine rve (D.int IntKind.i64 (↑(List.length (ints l[i])) : Int)) (.int IntKind.i64 ((↑(List.length l[i]) : Int))) (by simp only [ints, eInt, rows, eInts, bools, eBool, trips, eTrip, i8s, List.length_map]) ?_
        refine rv (D.bool (decide ((↑k : Int) < (↑(List.length l[i]) : Int)))) ?_
        refine k_done (k_skip_seq ?_)
        refine rkn 21 (decide ((↑k : Int) < (↑(List.length l[i]) : Int))) true (decide_eq_true (by omega)) ?_
        refine kct (k_skip_seq (k_seq (k_block (k_seq ?_))))
        refine rv (D.sl (rows l) none) ?_
        refine rv (D.int IntKind.i64 (↑i : Int)) ?_
        refine runs_index (l) (eInts) (o := none) (kd := IntKind.i64) (i) (by kernel_rfl) (by kernel_rfl) (by kernel_rfl) (by assumption) (by kernel_rfl) ?_
        refine rv (D.sl (ints l[i]) none) ?_
        refine rv (D.int IntKind.i64 (↑k : Int)) ?_
        refine runs_index (l[i]) (eInt) (o := none) (kd := IntKind.i64) (k) (by kernel_rfl) (by kernel_rfl) (by kernel_rfl) (by assumption) (by kernel_rfl) ?_
        refine rv (D.int IntKind.i64 l[i][k]) ?_
        refine rv (D.sl (bools a) none) ?_
        refine runs_call ([D.int IntKind.i64 l[i][k], D.sl (bools a) none]) (by kernel_rfl) (by kernel_rfl) (by kernel_rfl) (by kernel_rfl) (hso) (by kernel_rfl) ?_
        refine ra0 (D.bool (soB l[i][k] a)) ?_
        refine k_done (k_skip_seq ?_)
        refine rv (D.bool false) ?_
        refine rv (D.bool false) ?_
        refine rv (D.bool (soB l[i][k] a)) ?_
        refine rv (D.bool (soB l[i][k] a)) ?_
        refine ra0 (D.bool (soB l[i][k] a)) ?_
        refine k_done (k_skip_block (k_skip_seq ?_))
        refine rv (D.int IntKind.i64 (↑k : Int)) ?_
        refine rve (D.int IntKind.i64 (IntKind.wrap IntKind.i64 ((↑k : Int) + (1 : Int)))) (.int IntKind.i64 ((k + 1 : Nat) : Int)) (congrArg (D.int IntKind.i64) (show IntKind.wrap IntKind.i64 ((↑k : Int) + (1 : Int)) = ((k + 1 : Nat) : Int) from wrap_eq (by omega) (by omega) (by omega))) ?_
        refine ra0 (D.int IntKind.i64 (↑(k + (1 : Nat)) : Int)) ?_
        refine k_done (k_skip_back ?_)
        refine ⟨(k + 1, soB l[i][k] a), ⟨hlk, ?_⟩, by simp only []; omega, by kernel_rfl, rfl⟩
        rw [hat, ← hb]
        rfl
    · rw [List.take_of_length_le (by omega)] at hb
      have hb' : b = metC l[i] a := hb
      by_cases hbt : b = true
      · subst hbt
        refine k_seq (k_seq ?_)
        refine rv (D.int IntKind.i64 (↑k : Int)) ?_
        refine rv (D.sl (rows l) none) ?_
        refine rv (D.int IntKind.i64 (↑i : Int)) ?_
        refine runs_index (l) (eInts) (o := none) (kd := IntKind.i64) (i) (by kernel_rfl) (by kernel_rfl) (by kernel_rfl) (by assumption) (by kernel_rfl) ?_
        refine rv (D.sl (ints l[i]) none) ?_
        refine rve (D.int IntKind.i64 (↑(List.length (ints l[i])) : Int)) (.int IntKind.i64 ((↑(List.length l[i]) : Int))) (by simp only [ints, eInt, rows, eInts, bools, eBool, trips, eTrip, i8s, List.length_map]) ?_
        refine rv (D.bool (decide ((↑k : Int) < (↑(List.length l[i]) : Int)))) ?_
        refine k_done (k_skip_seq ?_)
        refine rkn 21 (decide ((↑k : Int) < (↑(List.length l[i]) : Int))) false (decide_eq_false (by omega)) ?_
        refine kcf (k_exit_seq (k_exit_back (k_exit_hit rfl (k_skip_seq (k_seq ?_)))))
        refine rv (D.bool true) ?_
        refine rv (D.bool false) ?_
        refine k_done (k_skip_seq (kcf (k_skip_block (k_skip_seq ?_))))
        refine rv (D.int IntKind.i64 (↑i : Int)) ?_
        refine rve (D.int IntKind.i64 (IntKind.wrap IntKind.i64 ((↑i : Int) + (1 : Int)))) (.int IntKind.i64 ((i + 1 : Nat) : Int)) (congrArg (D.int IntKind.i64) (show IntKind.wrap IntKind.i64 ((↑i : Int) + (1 : Int)) = ((i + 1 : Nat) : Int) from wrap_eq (by omega) (by omega) (by omega))) ?_
        refine ra0 (D.int IntKind.i64 (↑(i + (1 : Nat)) : Int)) ?_
        refine k_done (k_skip_back ?_)
        exact ⟨(i + 1, .bool true, .int .i64 k), ⟨hlt, .inl ⟨_, rfl⟩, .inl ⟨_, rfl⟩, by rw [all_take hlt, hall, ← hb']; rfl⟩, by simp only []; omega, by kernel_rfl, rfl⟩
      · have hbf : b = false := by simpa using hbt
        subst hbf
        have : metB l a = false := by
          unfold metB
          rw [Bool.eq_false_iff]
          intro h
          have := List.all_eq_true.1 h l[i] (List.getElem_mem hlt)
          rw [← hb'] at this
          cases this
        rw [this]
        refine k_seq (k_seq ?_)
        refine rv (D.int IntKind.i64 (↑k : Int)) ?_
        refine rv (D.sl (rows l) none) ?_
        refine rv (D.int IntKind.i64 (↑i : Int)) ?_
        refine runs_index (l) (eInts) (o := none) (kd := IntKind.i64) (i) (by kernel_rfl) (by kernel_rfl) (by kernel_rfl) (by assumption) (by kernel_rfl) ?_
        refine rv (D.sl (ints l[i]) none) ?_
        refine rve (D.int IntKind.i64 (↑(List.length (ints l[i])) : Int)) (.int IntKind.i64 ((↑(List.length l[i]) : Int))) (by simp only [ints, eInt, rows, eInts, bools, eBool, trips, eTrip, i8s, List.length_map]) ?_
        refine rv (D.bool (decide ((↑k : Int) < (↑(List.length l[i]) : Int)))) ?_
        refine k_done (k_skip_seq ?_)
        refine rkn 21 (decide ((↑k : Int) < (↑(List.length l[i]) : Int))) false (decide_eq_false (by omega)) ?_
        refine kcf (k_exit_seq (k_exit_back (k_exit_hit rfl (k_skip_seq (k_seq ?_)))))
        refine rv (D.bool false) ?_
        refine rv (D.bool true) ?_
        refine k_done (k_skip_seq (kct (k_seq ?_)))
        refine rv (D.bool false) ?_
        refine k_done (k_skip_seq (k_ret ?_))
        exact ⟨.inr rfl, by kernel_rfl, by kernel_rfl⟩
  · rw [List.take_of_length_le (by omega)] at hall
    have : metB l a = true := hall
    rw [this]
    refine k_seq (k_seq ?_)
    refine rv (D.int IntKind.i64 (↑i : Int)) ?_
    refine rv (D.sl (rows l) none) ?_
    refine rve (D.int IntKind.i64 (↑(List.length (rows l)) : Int)) (.int IntKind.i64 ((↑(List.length l) : Int))) (by simp only [ints, eInt, rows, eInts, bools, eBool, trips, eTrip, i8s, List.length_map]) ?_
    refine rv (D.bool (decide ((↑i : Int) < (↑(List.length l) : Int)))) ?_
    refine k_done (k_skip_seq ?_)
    refine rkn 12 (decide ((↑i : Int) < (↑(List.length l) : Int))) false (decide_eq_false (by omega)) ?_
    refine kcf (k_exit_seq (k_exit_back (k_exit_hit rfl (k_skip_seq (k_seq ?_)))))
    refine rv (D.bool true) ?_
    refine k_done (k_skip_seq (k_ret ?_))
    exact ⟨.inr rfl, by kernel_rfl, by kernel_rfl⟩

theorem awakeS_ok : callN T 600010 12 [] [] = some (.bool true, []) := by kernel_rfl
theorem lawSolved_ok (l : List (List Int)) (vars : Int) (o : Option Nat) : ∃ σ, callN T 600011 10 [.sl (rows l) o, .int .i64 vars] [] = some (.bool true, σ) := by
  have htd := tidy_ok 600009 l none [] (by omega)
  by_cases h1 : tidyB l = true
  · rw [h1] at htd
    by_cases h2 : vars ≤ 12
    · have hsz : l.length ≤ 60 ∧ ∀ c ∈ l, c.length ≤ 12 := by
        have := h1
        unfold tidyB at this
        simp only [Bool.and_eq_true, decide_eq_true_eq, List.all_eq_true] at this
        exact this
      have hck := refCheck20_ok 600009 l vars none [] (by omega) (by omega) (fun c hc => by have := hsz.2 c hc; omega)
      by_cases h3 : checkC l vars = 0
      · rw [h3] at hck
        have hI := okI_of h1 h2 h3
        have hv0 := (checkC_facts h3).1
        obtain ⟨V, rfl⟩ : ∃ V : Nat, vars = V := ⟨vars.toNat, by omega⟩
        rw [Int.toNat_natCast] at hI
        obtain ⟨σ', hs⟩ := solve_ok 600009 l V 1048576 none hI (by omega) h3 (by omega)
        rw [if_neg (by omega)] at hs
        have hp := solved_plain (b := 1048576) hI (by omega)
        have hlen : (metR (solveR l V 1048576) V).length ≤ 12 := by
          unfold metR
          split
          · rw [truths_len]; exact hI.1
          · simp
        have hpc := progCheckB_ok 600005 l (stepsR (solveR l V 1048576)) none none [] (by omega) (by have := hsz.1; omega) hsz.2
        have hmt := metW_ok 600008 l (metR (solveR l V 1048576) V) none none [] (by omega) (by omega) (by omega) (fun c hc => by have := hsz.2 c hc; omega)
        generalize metR (solveR l V 1048576) V = tr at *
        generalize stepsR (solveR l V 1048576) = st at *
        generalize (solveR l V 1048576).1 = kd at *
        generalize (solveR l V 1048576).2.2.tried = td at *
        refine call_ofE (m := m10) rfl rfl (by decide) (k_start ?_)
        unfold m10
        rcases hp with ⟨hp1, hp2⟩ | ⟨hp1, hp2, hp3⟩
        · subst hp1
          rw [hp2] at hmt
          refine k_seq ?_
          refine rv (D.bool false) ?_
          refine k_done (k_skip_seq (k_seq ?_))
          refine runs_call ([]) (by kernel_rfl) (by kernel_rfl) (by kernel_rfl) (by kernel_rfl) (awakeS_ok) (by kernel_rfl) ?_
          refine ra0 (D.bool true) ?_
          refine k_done (k_skip_seq (k_seq (k_seq ?_)))
          refine rv (D.bool true) ?_
          refine rv (D.bool false) ?_
          refine k_done (k_skip_seq (kcf (k_skip_seq (k_seq ?_))))
          refine rv (D.sl (rows l) none) ?_
          refine runs_call ([D.sl (rows l) none]) (by kernel_rfl) (by kernel_rfl) (by kernel_rfl) (by kernel_rfl) (htd) (by kernel_rfl) ?_
          refine ra0 (D.bool true) ?_
          refine k_done (k_skip_seq (k_seq (k_seq ?_)))
          refine rv (D.bool true) ?_
          refine rv (D.bool false) ?_
          refine rv (D.bool false) ?_
          refine rv (D.int IntKind.i64 (↑V : Int)) ?_
          refine rv (D.bool (decide ((↑V : Int) > (12 : Int)))) ?_
          refine rv (D.bool (decide ((↑V : Int) > (12 : Int)))) ?_
          refine rv (D.bool (decide ((↑V : Int) > (12 : Int)))) ?_
          refine rkn 19 (decide ((↑V : Int) > (12 : Int))) false (decide_eq_false (by omega)) ?_
          refine rv (D.sl (rows l) none) ?_
          refine rv (D.int IntKind.i64 (↑V : Int)) ?_
          refine runs_call ([D.sl (rows l) none, D.int IntKind.i64 (↑V : Int)]) (by kernel_rfl) (by kernel_rfl) (by kernel_rfl) (by kernel_rfl) (hck) (by kernel_rfl) ?_
          refine rv (D.bool false) ?_
          refine rv (D.bool false) ?_
          refine k_done (k_skip_seq (kcf (k_skip_seq (k_seq ?_))))
          refine rv (D.sl (rows l) none) ?_
          refine rv (D.int IntKind.i64 (↑V : Int)) ?_
          refine runs_call ([D.sl (rows l) none, D.int IntKind.i64 (↑V : Int), D.int IntKind.i64 (1048576 : Int)]) (by kernel_rfl) (by kernel_rfl) (by kernel_rfl) (by kernel_rfl) (hs) (by kernel_rfl) ?_
          refine rgf (D.lptr (7 : Nat) (0 : Nat)) ([]) ?_
          refine rgf (D.junk) ([]) ?_
          refine k_done (k_skip_seq (k_seq (k_seq ?_)))
          refine rv (D.lptr (7 : Nat) (0 : Nat)) ?_
          refine rv (D.int IntKind.i64 (1 : Int)) ?_
          refine rv (D.bool false) ?_
          refine k_done (k_skip_seq (kcf (k_skip_seq (k_seq ?_))))
          refine rv (D.lptr (7 : Nat) (0 : Nat)) ?_
          refine rv (D.int IntKind.i64 (1 : Int)) ?_
          refine rv (D.bool true) ?_
          refine rv (D.bool true) ?_
          refine rv (D.sl (rows l) none) ?_
          refine rv (D.lptr (7 : Nat) (1 : Nat)) ?_
          refine rv (D.sl (bools tr) none) ?_
          refine runs_call ([D.sl (rows l) none, D.sl (bools tr) none]) (by kernel_rfl) (by kernel_rfl) (by kernel_rfl) (by kernel_rfl) (hmt) (by kernel_rfl) ?_
          refine rv (D.bool true) ?_
          refine ra0 (D.bool true) ?_
          refine k_done (k_skip_seq (k_ret ?_))
          exact ⟨.inr rfl, by kernel_rfl, [], by kernel_rfl⟩
        · subst hp1
          have hpc' := hpc hp3
          rw [hp2] at hpc'
          refine k_seq ?_
          refine rv (D.bool false) ?_
          refine k_done (k_skip_seq (k_seq ?_))
          refine runs_call ([]) (by kernel_rfl) (by kernel_rfl) (by kernel_rfl) (by kernel_rfl) (awakeS_ok) (by kernel_rfl) ?_
          refine ra0 (D.bool true) ?_
          refine k_done (k_skip_seq (k_seq (k_seq ?_)))
          refine rv (D.bool true) ?_
          refine rv (D.bool false) ?_
          refine k_done (k_skip_seq (kcf (k_skip_seq (k_seq ?_))))
          refine rv (D.sl (rows l) none) ?_
          refine runs_call ([D.sl (rows l) none]) (by kernel_rfl) (by kernel_rfl) (by kernel_rfl) (by kernel_rfl) (htd) (by kernel_rfl) ?_
          refine ra0 (D.bool true) ?_
          refine k_done (k_skip_seq (k_seq (k_seq ?_)))
          refine rv (D.bool true) ?_
          refine rv (D.bool false) ?_
          refine rv (D.bool false) ?_
          refine rv (D.int IntKind.i64 (↑V : Int)) ?_
          refine rv (D.bool (decide ((↑V : Int) > (12 : Int)))) ?_
          refine rv (D.bool (decide ((↑V : Int) > (12 : Int)))) ?_
          refine rv (D.bool (decide ((↑V : Int) > (12 : Int)))) ?_
          refine rkn 19 (decide ((↑V : Int) > (12 : Int))) false (decide_eq_false (by omega)) ?_
          refine rv (D.sl (rows l) none) ?_
          refine rv (D.int IntKind.i64 (↑V : Int)) ?_
          refine runs_call ([D.sl (rows l) none, D.int IntKind.i64 (↑V : Int)]) (by kernel_rfl) (by kernel_rfl) (by kernel_rfl) (by kernel_rfl) (hck) (by kernel_rfl) ?_
          refine rv (D.bool false) ?_
          refine rv (D.bool false) ?_
          refine k_done (k_skip_seq (kcf (k_skip_seq (k_seq ?_))))
          refine rv (D.sl (rows l) none) ?_
          refine rv (D.int IntKind.i64 (↑V : Int)) ?_
          refine runs_call ([D.sl (rows l) none, D.int IntKind.i64 (↑V : Int), D.int IntKind.i64 (1048576 : Int)]) (by kernel_rfl) (by kernel_rfl) (by kernel_rfl) (by kernel_rfl) (hs) (by kernel_rfl) ?_
          refine rgf (D.lptr (7 : Nat) (0 : Nat)) ([]) ?_
          refine rgf (D.junk) ([]) ?_
          refine k_done (k_skip_seq (k_seq (k_seq ?_)))
          refine rv (D.lptr (7 : Nat) (0 : Nat)) ?_
          refine rv (D.int IntKind.i64 (2 : Int)) ?_
          refine rv (D.bool true) ?_
          refine k_done (k_skip_seq (kct (k_seq ?_)))
          refine rv (D.sl (rows l) none) ?_
          refine rv (D.lptr (7 : Nat) (2 : Nat)) ?_
          refine rv (D.sl (trips st) none) ?_
          refine runs_call ([D.sl (rows l) none, D.sl (trips st) none]) (by kernel_rfl) (by kernel_rfl) (by kernel_rfl) (by kernel_rfl) (hpc') (by kernel_rfl) ?_
          refine rv (D.bool true) ?_
          refine ra0 (D.bool true) ?_
          refine k_done (k_skip_seq (k_ret ?_))
          exact ⟨.inr rfl, by kernel_rfl, [], by kernel_rfl⟩
      · have h3' : checkC l vars = 1 := by
          unfold checkC at h3 ⊢
          split at h3
          · rename_i h; exact if_pos h
          · exact absurd rfl h3
        rw [h3'] at hck
        refine ⟨[], ?_⟩
        refine call_of (m := m10) rfl rfl (by decide) (k_start ?_)
        unfold m10
        refine k_seq ?_
        refine rv (D.bool false) ?_
        refine k_done (k_skip_seq (k_seq ?_))
        refine runs_call ([]) (by kernel_rfl) (by kernel_rfl) (by kernel_rfl) (by kernel_rfl) (awakeS_ok) (by kernel_rfl) ?_
        refine ra0 (D.bool true) ?_
        refine k_done (k_skip_seq (k_seq (k_seq ?_)))
        refine rv (D.bool true) ?_
        refine rv (D.bool false) ?_
        refine k_done (k_skip_seq (kcf (k_skip_seq (k_seq ?_))))
        refine rv (D.sl (rows l) none) ?_
        refine runs_call ([D.sl (rows l) none]) (by kernel_rfl) (by kernel_rfl) (by kernel_rfl) (by kernel_rfl) (htd) (by kernel_rfl) ?_
        refine ra0 (D.bool true) ?_
        refine k_done (k_skip_seq (k_seq (k_seq ?_)))
        refine rv (D.bool true) ?_
        refine rv (D.bool false) ?_
        refine rv (D.bool false) ?_
        refine rv (D.int IntKind.i64 vars) ?_
        refine rv (D.bool (decide (vars > (12 : Int)))) ?_
        refine rv (D.bool (decide (vars > (12 : Int)))) ?_
        refine rv (D.bool (decide (vars > (12 : Int)))) ?_
        refine rkn 19 (decide (vars > (12 : Int))) false (decide_eq_false (by omega)) ?_
        refine rv (D.sl (rows l) none) ?_
        refine rv (D.int IntKind.i64 vars) ?_
        refine runs_call ([D.sl (rows l) none, D.int IntKind.i64 vars]) (by kernel_rfl) (by kernel_rfl) (by kernel_rfl) (by kernel_rfl) (hck) (by kernel_rfl) ?_
        refine rv (D.bool true) ?_
        refine rv (D.bool true) ?_
        refine k_done (k_skip_seq (kct (k_seq ?_)))
        refine rv (D.bool true) ?_
        refine k_done (k_skip_seq (k_ret ?_))
        exact ⟨.inr rfl, by kernel_rfl, by kernel_rfl⟩
    · refine ⟨[], ?_⟩
      refine call_of (m := m10) rfl rfl (by decide) (k_start ?_)
      unfold m10
      refine k_seq ?_
      refine rv (D.bool false) ?_
      refine k_done (k_skip_seq (k_seq ?_))
      refine runs_call ([]) (by kernel_rfl) (by kernel_rfl) (by kernel_rfl) (by kernel_rfl) (awakeS_ok) (by kernel_rfl) ?_
      refine ra0 (D.bool true) ?_
      refine k_done (k_skip_seq (k_seq (k_seq ?_)))
      refine rv (D.bool true) ?_
      refine rv (D.bool false) ?_
      refine k_done (k_skip_seq (kcf (k_skip_seq (k_seq ?_))))
      refine rv (D.sl (rows l) none) ?_
      refine runs_call ([D.sl (rows l) none]) (by kernel_rfl) (by kernel_rfl) (by kernel_rfl) (by kernel_rfl) (htd) (by kernel_rfl) ?_
      refine ra0 (D.bool true) ?_
      refine k_done (k_skip_seq (k_seq (k_seq ?_)))
      refine rv (D.bool true) ?_
      refine rv (D.bool false) ?_
      refine rv (D.bool false) ?_
      refine rv (D.int IntKind.i64 vars) ?_
      refine rv (D.bool (decide (vars > (12 : Int)))) ?_
      refine rv (D.bool (decide (vars > (12 : Int)))) ?_
      refine rv (D.bool (decide (vars > (12 : Int)))) ?_
      refine rkn 19 (decide (vars > (12 : Int))) true (decide_eq_true (by omega)) ?_
      refine rno (rno (rno (rno ?_)))
      refine rv (D.bool true) ?_
      refine k_done (k_skip_seq (kct (k_seq ?_)))
      refine rv (D.bool true) ?_
      refine k_done (k_skip_seq (k_ret ?_))
      exact ⟨.inr rfl, by kernel_rfl, by kernel_rfl⟩
  · have h1' : tidyB l = false := by simpa using h1
    rw [h1'] at htd
    refine ⟨[], ?_⟩
    refine call_of (m := m10) rfl rfl (by decide) (k_start ?_)
    unfold m10
    refine k_seq ?_
    refine rv (D.bool false) ?_
    refine k_done (k_skip_seq (k_seq ?_))
    refine runs_call ([]) (by kernel_rfl) (by kernel_rfl) (by kernel_rfl) (by kernel_rfl) (awakeS_ok) (by kernel_rfl) ?_
    refine ra0 (D.bool true) ?_
    refine k_done (k_skip_seq (k_seq (k_seq ?_)))
    refine rv (D.bool true) ?_
    refine rv (D.bool false) ?_
    refine k_done (k_skip_seq (kcf (k_skip_seq (k_seq ?_))))
    refine rv (D.sl (rows l) none) ?_
    refine runs_call ([D.sl (rows l) none]) (by kernel_rfl) (by kernel_rfl) (by kernel_rfl) (by kernel_rfl) (htd) (by kernel_rfl) ?_
    refine ra0 (D.bool false) ?_
    refine k_done (k_skip_seq (k_seq (k_seq ?_)))
    refine rv (D.bool false) ?_
    refine rv (D.bool true) ?_
    refine rv (D.bool true) ?_
    refine rno (rno ?_)
    refine rv (D.bool true) ?_
    refine rv (D.bool true) ?_
    refine rno (rno (rno (rno ?_)))
    refine rv (D.bool true) ?_
    refine k_done (k_skip_seq (kct (k_seq ?_)))
    refine rv (D.bool true) ?_
    refine k_done (k_skip_seq (k_ret ?_))
    exact ⟨.inr rfl, by kernel_rfl, by kernel_rfl⟩
end Go.Abs.B
