import Derived.Test.YtmmjjkahaemlkaaKont
import Derived.Test.YtmmjjkahaemlkaaQ4
set_option linter.unusedVariables false
set_option linter.unusedSimpArgs false
/-
  The functions All of both, and Check.
-/
namespace Go.Abs.B
open Go Go.Abs
set_option maxRecDepth 8000
attribute [local irreducible] callN runC evalOp

theorem drop_at {α : Type} {l : List α} {i : Nat} (h : i < l.length) : l.drop i = l[i] :: l.drop (i + 1) := (List.getElem_cons_drop h).symm

def f15 (l : List (List Int)) (st : List Step3) (out : List (List Int)) (i : Int) : Fr := Fr.mk ([.sl (rows l) none, .sl (trips st) none, .junk, .junk, .sl [] (some 34), .int .i64 0, .sl (rows out) (some 34), .int .i64 i] ++ List.replicate 62 .junk) (List.replicate 70 none) []
theorem refAll_ok (n : Nat) (l : List (List Int)) (st : List Step3) (o1 o2 : Option Nat) (σ : St) (hn : 2000 < n) (h1 : l.length ≤ 60) (h2 : ∀ c ∈ l, c.length ≤ 12) (h3 : st.length ≤ 30) :
    callN T (n + 3) 15 [.sl (rows l) o1, .sl (trips st) o2] σ = some (.tup [.sl (rows (allR l st).1) none, .int .i64 (allR l st).2], σ) := by
  obtain ⟨hs0, hL⟩ := small_start l h1 h2
  refine call_of (m := m15) rfl rfl (by decide) (k_start ?_)
  unfold m15
  refine k_seq ?_
  refine rv (D.sl [] (some (34 : Nat))) ?_
  refine rv (D.int IntKind.i64 (0 : Int)) ?_
  refine k_done (k_skip_seq (k_seq ?_))
  refine rv (D.sl [] (some (34 : Nat))) ?_
  refine k_done (k_skip_seq (k_seq ?_))
  refine runs_steal (D.sl [] (some (34 : Nat))) (by kernel_rfl) (by kernel_rfl) ?_
  refine rv (D.sl (rows l) none) ?_
  refine runs_append ([]) (rows l) (rows l) (by kernel_rfl) (by kernel_rfl) (by kernel_rfl) (by simp [ints, eInt, rows, eInts, bools, eBool, trips, eTrip]) (by simp [ints, eInt, rows, eInts, bools, eBool, trips, eTrip, room]; omega) (List.nil_append _) ?_
  refine runs_assign (D.sl (rows l) (some (34 : Nat))) (by kernel_rfl) (by kernel_rfl) ?_
  refine k_done (k_skip_seq (k_seq (k_seq ?_)))
  refine rv (D.int IntKind.i64 (0 : Int)) ?_
  refine k_done (k_skip_seq (k_block ?_))
  refine k_loop (S := Nat × List (List Int)) (fun s => f15 l st s.2 s.1) (fun _ => σ) (fun s => s.1 ≤ st.length ∧ s.2.length = l.length + s.1 ∧ small l.flatten s.2 ∧ allF l st = allF s.2 (st.drop s.1)) (fun s => st.length - s.1) (0, l) (by kernel_rfl) rfl ⟨by simp, by simp, hs0, rfl⟩ (by intro s hs; omega) ?_
  rintro ⟨i, out⟩ ⟨hi, hlen, hsm, hall⟩
  simp only [] at hi hlen hsm hall
  by_cases hlt : i < st.length
  · rw [drop_at hlt] at hall
    simp only [allF] at hall
    by_cases g1 : 0 ≤ st[i].1
    · by_cases g2 : 0 ≤ st[i].2.1
      · by_cases g3 : st[i].1 < out.length
        · by_cases g4 : st[i].2.1 < out.length
          · have hcan : can out st[i] := ⟨g1, g3, g2, g4⟩
            have ha := getC_mem g1 g3
            have hb := getC_mem g2 g4
            have hla := (hsm _ ha).1
            have hlb := (hsm _ hb).1
            have hmk := refMake_ok (n) (getC out st[i].1) (getC out st[i].2.1) st[i].2.2 none none [] (by omega) (by omega)
            have e1 : out[st[i].1.toNat]'(by omega) = getC out st[i].1 := getC_eq (by omega)
            have e2 : out[st[i].2.1.toNat]'(by omega) = getC out st[i].2.1 := getC_eq (by omega)
            rw [← e1, ← e2] at hmk
            by_cases hm : makes (getC out st[i].1) (getC out st[i].2.1) st[i].2.2
            · rw [if_pos ⟨hcan, hm⟩] at hall
              have hr : makeR (getC out st[i].1) (getC out st[i].2.1) st[i].2.2 = (made (getC out st[i].1) (getC out st[i].2.1) st[i].2.2, 0) := if_pos hm
              rw [e1, e2, hr, ← e1, ← e2] at hmk
              refine k_seq (k_seq ?_)
              refine rv (D.int IntKind.i64 (↑i : Int)) ?_
              refine rv (D.sl (trips st) none) ?_
              refine rve (D.int IntKind.i64 (↑(List.length (trips st)) : Int)) (.int IntKind.i64 ((↑(List.length st) : Int))) (by simp only [ints, eInt, rows, eInts, bools, eBool, trips, eTrip, List.length_map]) ?_
              refine rv (D.bool (decide ((↑i : Int) < (↑(List.length st) : Int)))) ?_
              refine k_done (k_skip_seq ?_)
              refine rkn 17 (decide ((↑i : Int) < (↑(List.length st) : Int))) true (decide_eq_true (by omega)) ?_
              refine kct (k_skip_seq (k_seq (k_block (k_seq ?_))))
              refine rv (D.sl (trips st) none) ?_
              refine rv (D.int IntKind.i64 (↑i : Int)) ?_
              refine runs_index (st) (eTrip) (o := none) (kd := IntKind.i64) (i) (by kernel_rfl) (by kernel_rfl) (by kernel_rfl) (by assumption) (by kernel_rfl) ?_
              refine rv (D.agg [D.int IntKind.i64 (Prod.fst st[i]), D.int IntKind.i64 (Prod.fst (Prod.snd st[i])), D.int IntKind.i64 (Prod.snd (Prod.snd st[i]))]) ?_
              refine rgf (D.lptr (8 : Nat) (0 : Nat)) (σ) ?_
              refine rgf (D.junk) (σ) ?_
              refine k_done (k_skip_seq (k_seq (k_seq ?_)))
              refine rv (D.lptr (8 : Nat) (0 : Nat)) ?_
              refine rv (D.int IntKind.i64 (Prod.fst st[i])) ?_
              refine rv (D.bool (decide (Prod.fst st[i] < (0 : Int)))) ?_
              refine rv (D.bool (decide (Prod.fst st[i] < (0 : Int)))) ?_
              refine rkn 27 (decide (Prod.fst st[i] < (0 : Int))) false (decide_eq_false (by omega)) ?_
              refine rv (D.lptr (8 : Nat) (1 : Nat)) ?_
              refine rv (D.int IntKind.i64 (Prod.fst (Prod.snd st[i]))) ?_
              refine rv (D.bool (decide (Prod.fst (Prod.snd st[i]) < (0 : Int)))) ?_
              refine rv (D.bool (decide (Prod.fst (Prod.snd st[i]) < (0 : Int)))) ?_
              refine rv (D.bool (decide (Prod.fst (Prod.snd st[i]) < (0 : Int)))) ?_
              refine rkn 32 (decide (Prod.fst (Prod.snd st[i]) < (0 : Int))) false (decide_eq_false (by omega)) ?_
              refine rv (D.lptr (8 : Nat) (0 : Nat)) ?_
              refine rv (D.int IntKind.i64 (Prod.fst st[i])) ?_
              refine rv (D.sl (rows out) none) ?_
              refine rve (D.int IntKind.i64 (↑(List.length (rows out)) : Int)) (.int IntKind.i64 ((↑(List.length out) : Int))) (by simp only [ints, eInt, rows, eInts, bools, eBool, trips, eTrip, List.length_map]) ?_
              refine rv (D.bool (decide (Prod.fst st[i] ≥ (↑(List.length out) : Int)))) ?_
              refine rv (D.bool (decide (Prod.fst st[i] ≥ (↑(List.length out) : Int)))) ?_
              refine rv (D.bool (decide (Prod.fst st[i] ≥ (↑(List.length out) : Int)))) ?_
              refine rkn 39 (decide (Prod.fst st[i] ≥ (↑(List.length out) : Int))) false (decide_eq_false (by omega)) ?_
              refine rv (D.lptr (8 : Nat) (1 : Nat)) ?_
              refine rv (D.int IntKind.i64 (Prod.fst (Prod.snd st[i]))) ?_
              refine rv (D.sl (rows out) none) ?_
              refine rve (D.int IntKind.i64 (↑(List.length (rows out)) : Int)) (.int IntKind.i64 ((↑(List.length out) : Int))) (by simp only [ints, eInt, rows, eInts, bools, eBool, trips, eTrip, List.length_map]) ?_
              refine rv (D.bool (decide (Prod.fst (Prod.snd st[i]) ≥ (↑(List.length out) : Int)))) ?_
              refine rv (D.bool (decide (Prod.fst (Prod.snd st[i]) ≥ (↑(List.length out) : Int)))) ?_
              refine k_done (k_skip_seq ?_)
              refine rkn 45 (decide (Prod.fst (Prod.snd st[i]) ≥ (↑(List.length out) : Int))) false (decide_eq_false (by omega)) ?_
              refine kcf (k_skip_seq (k_seq ?_))
              refine rv (D.sl (rows out) none) ?_
              refine rv (D.lptr (8 : Nat) (0 : Nat)) ?_
              refine rv (D.int IntKind.i64 (Prod.fst st[i])) ?_
              refine runs_indexI (out) (eInts) (o := none) (kd := IntKind.i64) (Prod.fst st[i]) (by kernel_rfl) (by kernel_rfl) (by kernel_rfl) (by omega) (by omega) (by kernel_rfl) ?_
              refine rv (D.sl (ints out[Int.toNat (Prod.fst st[i])]) none) ?_
              refine rv (D.sl (rows out) none) ?_
              refine rv (D.lptr (8 : Nat) (1 : Nat)) ?_
              refine rv (D.int IntKind.i64 (Prod.fst (Prod.snd st[i]))) ?_
              refine runs_indexI (out) (eInts) (o := none) (kd := IntKind.i64) (Prod.fst (Prod.snd st[i])) (by kernel_rfl) (by kernel_rfl) (by kernel_rfl) (by omega) (by omega) (by kernel_rfl) ?_
              refine rv (D.sl (ints out[Int.toNat (Prod.fst (Prod.snd st[i]))]) none) ?_
              refine rv (D.lptr (8 : Nat) (2 : Nat)) ?_
              refine rv (D.int IntKind.i64 (Prod.snd (Prod.snd st[i]))) ?_
              refine runs_call ([D.sl (ints out[Int.toNat (Prod.fst st[i])]) none, D.sl (ints out[Int.toNat (Prod.fst (Prod.snd st[i]))]) none, D.int IntKind.i64 (Prod.snd (Prod.snd st[i]))]) (by kernel_rfl) (by kernel_rfl) (by kernel_rfl) (by kernel_rfl) (hmk) (by kernel_rfl) ?_
              refine rv (D.tup [D.sl (ints (Prod.fst (made out[Int.toNat (Prod.fst st[i])] out[Int.toNat (Prod.fst (Prod.snd st[i]))] (Prod.snd (Prod.snd st[i])), (0 : Int)))) none, D.int IntKind.i64 (Prod.snd (made out[Int.toNat (Prod.fst st[i])] out[Int.toNat (Prod.fst (Prod.snd st[i]))] (Prod.snd (Prod.snd st[i])), (0 : Int)))]) ?_
              refine rv (D.sl (ints (Prod.fst (made out[Int.toNat (Prod.fst st[i])] out[Int.toNat (Prod.fst (Prod.snd st[i]))] (Prod.snd (Prod.snd st[i])), (0 : Int)))) none) ?_
              refine rve (D.int IntKind.i64 (Prod.snd (made out[Int.toNat (Prod.fst st[i])] out[Int.toNat (Prod.fst (Prod.snd st[i]))] (Prod.snd (Prod.snd st[i])), (0 : Int)))) (.int IntKind.i64 ((0 : Int))) (by simp only [ints, eInt, rows, eInts, bools, eBool, trips, eTrip, List.length_map]) ?_
              refine ra0 (D.sl (ints (Prod.fst (made out[Int.toNat (Prod.fst st[i])] out[Int.toNat (Prod.fst (Prod.snd st[i]))] (Prod.snd (Prod.snd st[i])), (0 : Int)))) none) ?_
              refine ra0 (D.int IntKind.i64 (0 : Int)) ?_
              refine k_done (k_skip_seq (k_seq (k_seq ?_)))
              refine rv (D.int IntKind.i64 (0 : Int)) ?_
              refine rv (D.bool false) ?_
              refine k_done (k_skip_seq (kcf (k_skip_seq ?_)))
              refine runs_steal (D.sl (rows out) (some (34 : Nat))) (by kernel_rfl) (by kernel_rfl) ?_
              refine rv (D.sl (ints (Prod.fst (made out[Int.toNat (Prod.fst st[i])] out[Int.toNat (Prod.fst (Prod.snd st[i]))] (Prod.snd (Prod.snd st[i])), (0 : Int)))) none) ?_
              refine rv (D.sl [[D.sl (ints (Prod.fst (made out[Int.toNat (Prod.fst st[i])] out[Int.toNat (Prod.fst (Prod.snd st[i]))] (Prod.snd (Prod.snd st[i])), (0 : Int)))) none]] (some (34 : Nat))) ?_
              refine runs_append (rows out) ([[D.sl (ints (Prod.fst (made out[Int.toNat (Prod.fst st[i])] out[Int.toNat (Prod.fst (Prod.snd st[i]))] (Prod.snd (Prod.snd st[i])), (0 : Int)))) none]]) (rows (out ++ [Prod.fst (made out[Int.toNat (Prod.fst st[i])] out[Int.toNat (Prod.fst (Prod.snd st[i]))] (Prod.snd (Prod.snd st[i])), (0 : Int))])) (by kernel_rfl) (by kernel_rfl) (by kernel_rfl) (by kernel_rfl) (by simp [ints, eInt, rows, eInts, bools, eBool, trips, eTrip, room]; omega) (by simp [ints, eInt, rows, eInts, bools, eBool, trips, eTrip]) ?_
              refine runs_assign (D.sl (rows (out ++ [Prod.fst (made out[Int.toNat (Prod.fst st[i])] out[Int.toNat (Prod.fst (Prod.snd st[i]))] (Prod.snd (Prod.snd st[i])), (0 : Int))])) (some (34 : Nat))) (by kernel_rfl) (by kernel_rfl) ?_
              refine k_done (k_skip_block (k_skip_seq ?_))
              refine rv (D.int IntKind.i64 (↑i : Int)) ?_
              refine rve (D.int IntKind.i64 (IntKind.wrap IntKind.i64 ((↑i : Int) + (1 : Int)))) (.int IntKind.i64 ((i + 1 : Nat) : Int)) (congrArg (D.int IntKind.i64) (show IntKind.wrap IntKind.i64 ((↑i : Int) + (1 : Int)) = ((i + 1 : Nat) : Int) by rw [IntKind.wrap_i64] <;> omega)) ?_
              refine ra0 (D.int IntKind.i64 (↑(i + (1 : Nat)) : Int)) ?_
              refine k_done (k_skip_back ?_)
              refine ⟨(i + 1, out ++ [made (getC out st[i].1) (getC out st[i].2.1) st[i].2.2]), ⟨hlt, by simp; omega, small_step hL hsm ha hb, hall⟩, by simp only []; omega, by rw [← e1, ← e2]; kernel_rfl, rfl⟩
            · rw [if_neg (fun h => hm h.2)] at hall
              have hr : makeR (getC out st[i].1) (getC out st[i].2.1) st[i].2.2 = ([], 50) := if_neg hm
              rw [e1, e2, hr, ← e1, ← e2] at hmk
              refine k_seq (k_seq ?_)
              refine rv (D.int IntKind.i64 (↑i : Int)) ?_
              refine rv (D.sl (trips st) none) ?_
              refine rve (D.int IntKind.i64 (↑(List.length (trips st)) : Int)) (.int IntKind.i64 ((↑(List.length st) : Int))) (by simp only [ints, eInt, rows, eInts, bools, eBool, trips, eTrip, List.length_map]) ?_
              refine rv (D.bool (decide ((↑i : Int) < (↑(List.length st) : Int)))) ?_
              refine k_done (k_skip_seq ?_)
              refine rkn 17 (decide ((↑i : Int) < (↑(List.length st) : Int))) true (decide_eq_true (by omega)) ?_
              refine kct (k_skip_seq (k_seq (k_block (k_seq ?_))))
              refine rv (D.sl (trips st) none) ?_
              refine rv (D.int IntKind.i64 (↑i : Int)) ?_
              refine runs_index (st) (eTrip) (o := none) (kd := IntKind.i64) (i) (by kernel_rfl) (by kernel_rfl) (by kernel_rfl) (by assumption) (by kernel_rfl) ?_
              refine rv (D.agg [D.int IntKind.i64 (Prod.fst st[i]), D.int IntKind.i64 (Prod.fst (Prod.snd st[i])), D.int IntKind.i64 (Prod.snd (Prod.snd st[i]))]) ?_
              refine rgf (D.lptr (8 : Nat) (0 : Nat)) (σ) ?_
              refine rgf (D.junk) (σ) ?_
              refine k_done (k_skip_seq (k_seq (k_seq ?_)))
              refine rv (D.lptr (8 : Nat) (0 : Nat)) ?_
              refine rv (D.int IntKind.i64 (Prod.fst st[i])) ?_
              refine rv (D.bool (decide (Prod.fst st[i] < (0 : Int)))) ?_
              refine rv (D.bool (decide (Prod.fst st[i] < (0 : Int)))) ?_
              refine rkn 27 (decide (Prod.fst st[i] < (0 : Int))) false (decide_eq_false (by omega)) ?_
              refine rv (D.lptr (8 : Nat) (1 : Nat)) ?_
              refine rv (D.int IntKind.i64 (Prod.fst (Prod.snd st[i]))) ?_
              refine rv (D.bool (decide (Prod.fst (Prod.snd st[i]) < (0 : Int)))) ?_
              refine rv (D.bool (decide (Prod.fst (Prod.snd st[i]) < (0 : Int)))) ?_
              refine rv (D.bool (decide (Prod.fst (Prod.snd st[i]) < (0 : Int)))) ?_
              refine rkn 32 (decide (Prod.fst (Prod.snd st[i]) < (0 : Int))) false (decide_eq_false (by omega)) ?_
              refine rv (D.lptr (8 : Nat) (0 : Nat)) ?_
              refine rv (D.int IntKind.i64 (Prod.fst st[i])) ?_
              refine rv (D.sl (rows out) none) ?_
              refine rve (D.int IntKind.i64 (↑(List.length (rows out)) : Int)) (.int IntKind.i64 ((↑(List.length out) : Int))) (by simp only [ints, eInt, rows, eInts, bools, eBool, trips, eTrip, List.length_map]) ?_
              refine rv (D.bool (decide (Prod.fst st[i] ≥ (↑(List.length out) : Int)))) ?_
              refine rv (D.bool (decide (Prod.fst st[i] ≥ (↑(List.length out) : Int)))) ?_
              refine rv (D.bool (decide (Prod.fst st[i] ≥ (↑(List.length out) : Int)))) ?_
              refine rkn 39 (decide (Prod.fst st[i] ≥ (↑(List.length out) : Int))) false (decide_eq_false (by omega)) ?_
              refine rv (D.lptr (8 : Nat) (1 : Nat)) ?_
              refine rv (D.int IntKind.i64 (Prod.fst (Prod.snd st[i]))) ?_
              refine rv (D.sl (rows out) none) ?_
              refine rve (D.int IntKind.i64 (↑(List.length (rows out)) : Int)) (.int IntKind.i64 ((↑(List.length out) : Int))) (by simp only [ints, eInt, rows, eInts, bools, eBool, trips, eTrip, List.length_map]) ?_
              refine rv (D.bool (decide (Prod.fst (Prod.snd st[i]) ≥ (↑(List.length out) : Int)))) ?_
              refine rv (D.bool (decide (Prod.fst (Prod.snd st[i]) ≥ (↑(List.length out) : Int)))) ?_
              refine k_done (k_skip_seq ?_)
              refine rkn 45 (decide (Prod.fst (Prod.snd st[i]) ≥ (↑(List.length out) : Int))) false (decide_eq_false (by omega)) ?_
              refine kcf (k_skip_seq (k_seq ?_))
              refine rv (D.sl (rows out) none) ?_
              refine rv (D.lptr (8 : Nat) (0 : Nat)) ?_
              refine rv (D.int IntKind.i64 (Prod.fst st[i])) ?_
              refine runs_indexI (out) (eInts) (o := none) (kd := IntKind.i64) (Prod.fst st[i]) (by kernel_rfl) (by kernel_rfl) (by kernel_rfl) (by omega) (by omega) (by kernel_rfl) ?_
              refine rv (D.sl (ints out[Int.toNat (Prod.fst st[i])]) none) ?_
              refine rv (D.sl (rows out) none) ?_
              refine rv (D.lptr (8 : Nat) (1 : Nat)) ?_
              refine rv (D.int IntKind.i64 (Prod.fst (Prod.snd st[i]))) ?_
              refine runs_indexI (out) (eInts) (o := none) (kd := IntKind.i64) (Prod.fst (Prod.snd st[i])) (by kernel_rfl) (by kernel_rfl) (by kernel_rfl) (by omega) (by omega) (by kernel_rfl) ?_
              refine rv (D.sl (ints out[Int.toNat (Prod.fst (Prod.snd st[i]))]) none) ?_
              refine rv (D.lptr (8 : Nat) (2 : Nat)) ?_
              refine rv (D.int IntKind.i64 (Prod.snd (Prod.snd st[i]))) ?_
              refine runs_call ([D.sl (ints out[Int.toNat (Prod.fst st[i])]) none, D.sl (ints out[Int.toNat (Prod.fst (Prod.snd st[i]))]) none, D.int IntKind.i64 (Prod.snd (Prod.snd st[i]))]) (by kernel_rfl) (by kernel_rfl) (by kernel_rfl) (by kernel_rfl) (hmk) (by kernel_rfl) ?_
              refine rv (D.tup [D.sl [] none, D.int IntKind.i64 (50 : Int)]) ?_
              refine rv (D.sl [] none) ?_
              refine rv (D.int IntKind.i64 (50 : Int)) ?_
              refine ra0 (D.sl [] none) ?_
              refine ra0 (D.int IntKind.i64 (50 : Int)) ?_
              refine k_done (k_skip_seq (k_seq (k_seq ?_)))
              refine rv (D.int IntKind.i64 (50 : Int)) ?_
              refine rv (D.bool true) ?_
              refine k_done (k_skip_seq (kct (k_seq ?_)))
              refine rv (D.int IntKind.i64 (50 : Int)) ?_
              refine rv (D.sl [] (some (34 : Nat))) ?_
              refine ra0 (D.int IntKind.i64 (50 : Int)) ?_
              refine k_done (k_skip_seq (k_ret ?_))
              have hA : allR l st = ([], 50) := by unfold allR; rw [hall]
              rw [hA]
              exact ⟨.inr rfl, by kernel_rfl, by kernel_rfl⟩
          · rw [if_neg (fun h => g4 h.1.2.2.2)] at hall
            have hA : allR l st = ([], 50) := by unfold allR; rw [hall]
            rw [hA]
            refine k_seq (k_seq ?_)
            refine rv (D.int IntKind.i64 (↑i : Int)) ?_
            refine rv (D.sl (trips st) none) ?_
            refine rve (D.int IntKind.i64 (↑(List.length (trips st)) : Int)) (.int IntKind.i64 ((↑(List.length st) : Int))) (by simp only [ints, eInt, rows, eInts, bools, eBool, trips, eTrip, List.length_map]) ?_
            refine rv (D.bool (decide ((↑i : Int) < (↑(List.length st) : Int)))) ?_
            refine k_done (k_skip_seq ?_)
            refine rkn 17 (decide ((↑i : Int) < (↑(List.length st) : Int))) true (decide_eq_true (by omega)) ?_
            refine kct (k_skip_seq (k_seq (k_block (k_seq ?_))))
            refine rv (D.sl (trips st) none) ?_
            refine rv (D.int IntKind.i64 (↑i : Int)) ?_
            refine runs_index (st) (eTrip) (o := none) (kd := IntKind.i64) (i) (by kernel_rfl) (by kernel_rfl) (by kernel_rfl) (by assumption) (by kernel_rfl) ?_
            refine rv (D.agg [D.int IntKind.i64 (Prod.fst st[i]), D.int IntKind.i64 (Prod.fst (Prod.snd st[i])), D.int IntKind.i64 (Prod.snd (Prod.snd st[i]))]) ?_
            refine rgf (D.lptr (8 : Nat) (0 : Nat)) (σ) ?_
            refine rgf (D.junk) (σ) ?_
            refine k_done (k_skip_seq (k_seq (k_seq ?_)))
            refine rv (D.lptr (8 : Nat) (0 : Nat)) ?_
            refine rv (D.int IntKind.i64 (Prod.fst st[i])) ?_
            refine rv (D.bool (decide (Prod.fst st[i] < (0 : Int)))) ?_
            refine rv (D.bool (decide (Prod.fst st[i] < (0 : Int)))) ?_
            refine rkn 27 (decide (Prod.fst st[i] < (0 : Int))) false (decide_eq_false (by omega)) ?_
            refine rv (D.lptr (8 : Nat) (1 : Nat)) ?_
            refine rv (D.int IntKind.i64 (Prod.fst (Prod.snd st[i]))) ?_
            refine rv (D.bool (decide (Prod.fst (Prod.snd st[i]) < (0 : Int)))) ?_
            refine rv (D.bool (decide (Prod.fst (Prod.snd st[i]) < (0 : Int)))) ?_
            refine rv (D.bool (decide (Prod.fst (Prod.snd st[i]) < (0 : Int)))) ?_
            refine rkn 32 (decide (Prod.fst (Prod.snd st[i]) < (0 : Int))) false (decide_eq_false (by omega)) ?_
            refine rv (D.lptr (8 : Nat) (0 : Nat)) ?_
            refine rv (D.int IntKind.i64 (Prod.fst st[i])) ?_
            refine rv (D.sl (rows out) none) ?_
            refine rve (D.int IntKind.i64 (↑(List.length (rows out)) : Int)) (.int IntKind.i64 ((↑(List.length out) : Int))) (by simp only [ints, eInt, rows, eInts, bools, eBool, trips, eTrip, List.length_map]) ?_
            refine rv (D.bool (decide (Prod.fst st[i] ≥ (↑(List.length out) : Int)))) ?_
            refine rv (D.bool (decide (Prod.fst st[i] ≥ (↑(List.length out) : Int)))) ?_
            refine rv (D.bool (decide (Prod.fst st[i] ≥ (↑(List.length out) : Int)))) ?_
            refine rkn 39 (decide (Prod.fst st[i] ≥ (↑(List.length out) : Int))) false (decide_eq_false (by omega)) ?_
            refine rv (D.lptr (8 : Nat) (1 : Nat)) ?_
            refine rv (D.int IntKind.i64 (Prod.fst (Prod.snd st[i]))) ?_
            refine rv (D.sl (rows out) none) ?_
            refine rve (D.int IntKind.i64 (↑(List.length (rows out)) : Int)) (.int IntKind.i64 ((↑(List.length out) : Int))) (by simp only [ints, eInt, rows, eInts, bools, eBool, trips, eTrip, List.length_map]) ?_
            refine rv (D.bool (decide (Prod.fst (Prod.snd st[i]) ≥ (↑(List.length out) : Int)))) ?_
            refine rv (D.bool (decide (Prod.fst (Prod.snd st[i]) ≥ (↑(List.length out) : Int)))) ?_
            refine k_done (k_skip_seq ?_)
            refine rkn 45 (decide (Prod.fst (Prod.snd st[i]) ≥ (↑(List.length out) : Int))) true (decide_eq_true (by omega)) ?_
            refine kct (k_seq ?_)
            refine rv (D.sl [] (some (34 : Nat))) ?_
            refine rv (D.int IntKind.i64 (50 : Int)) ?_
            refine k_done (k_skip_seq (k_ret ?_))
            exact ⟨.inr rfl, by kernel_rfl, by kernel_rfl⟩
        · rw [if_neg (fun h => g3 h.1.2.1)] at hall
          have hA : allR l st = ([], 50) := by unfold allR; rw [hall]
          rw [hA]
          refine k_seq (k_seq ?_)
          refine rv (D.int IntKind.i64 (↑i : Int)) ?_
          refine rv (D.sl (trips st) none) ?_
          refine rve (D.int IntKind.i64 (↑(List.length (trips st)) : Int)) (.int IntKind.i64 ((↑(List.length st) : Int))) (by simp only [ints, eInt, rows, eInts, bools, eBool, trips, eTrip, List.length_map]) ?_
          refine rv (D.bool (decide ((↑i : Int) < (↑(List.length st) : Int)))) ?_
          refine k_done (k_skip_seq ?_)
          refine rkn 17 (decide ((↑i : Int) < (↑(List.length st) : Int))) true (decide_eq_true (by omega)) ?_
          refine kct (k_skip_seq (k_seq (k_block (k_seq ?_))))
          refine rv (D.sl (trips st) none) ?_
          refine rv (D.int IntKind.i64 (↑i : Int)) ?_
          refine runs_index (st) (eTrip) (o := none) (kd := IntKind.i64) (i) (by kernel_rfl) (by kernel_rfl) (by kernel_rfl) (by assumption) (by kernel_rfl) ?_
          refine rv (D.agg [D.int IntKind.i64 (Prod.fst st[i]), D.int IntKind.i64 (Prod.fst (Prod.snd st[i])), D.int IntKind.i64 (Prod.snd (Prod.snd st[i]))]) ?_
          refine rgf (D.lptr (8 : Nat) (0 : Nat)) (σ) ?_
          refine rgf (D.junk) (σ) ?_
          refine k_done (k_skip_seq (k_seq (k_seq ?_)))
          refine rv (D.lptr (8 : Nat) (0 : Nat)) ?_
          refine rv (D.int IntKind.i64 (Prod.fst st[i])) ?_
          refine rv (D.bool (decide (Prod.fst st[i] < (0 : Int)))) ?_
          refine rv (D.bool (decide (Prod.fst st[i] < (0 : Int)))) ?_
          refine rkn 27 (decide (Prod.fst st[i] < (0 : Int))) false (decide_eq_false (by omega)) ?_
          refine rv (D.lptr (8 : Nat) (1 : Nat)) ?_
          refine rv (D.int IntKind.i64 (Prod.fst (Prod.snd st[i]))) ?_
          refine rv (D.bool (decide (Prod.fst (Prod.snd st[i]) < (0 : Int)))) ?_
          refine rv (D.bool (decide (Prod.fst (Prod.snd st[i]) < (0 : Int)))) ?_
          refine rv (D.bool (decide (Prod.fst (Prod.snd st[i]) < (0 : Int)))) ?_
          refine rkn 32 (decide (Prod.fst (Prod.snd st[i]) < (0 : Int))) false (decide_eq_false (by omega)) ?_
          refine rv (D.lptr (8 : Nat) (0 : Nat)) ?_
          refine rv (D.int IntKind.i64 (Prod.fst st[i])) ?_
          refine rv (D.sl (rows out) none) ?_
          refine rve (D.int IntKind.i64 (↑(List.length (rows out)) : Int)) (.int IntKind.i64 ((↑(List.length out) : Int))) (by simp only [ints, eInt, rows, eInts, bools, eBool, trips, eTrip, List.length_map]) ?_
          refine rv (D.bool (decide (Prod.fst st[i] ≥ (↑(List.length out) : Int)))) ?_
          refine rv (D.bool (decide (Prod.fst st[i] ≥ (↑(List.length out) : Int)))) ?_
          refine rv (D.bool (decide (Prod.fst st[i] ≥ (↑(List.length out) : Int)))) ?_
          refine rkn 39 (decide (Prod.fst st[i] ≥ (↑(List.length out) : Int))) true (decide_eq_true (by omega)) ?_
          refine rno (rno (rno (rno (rno ?_))))
          refine rv (D.bool true) ?_
          refine k_done (k_skip_seq (kct (k_seq ?_)))
          refine rv (D.sl [] (some (34 : Nat))) ?_
          refine rv (D.int IntKind.i64 (50 : Int)) ?_
          refine k_done (k_skip_seq (k_ret ?_))
          exact ⟨.inr rfl, by kernel_rfl, by kernel_rfl⟩
      · rw [if_neg (fun h => g2 h.1.2.2.1)] at hall
        have hA : allR l st = ([], 50) := by unfold allR; rw [hall]
        rw [hA]
        refine k_seq (k_seq ?_)
        refine rv (D.int IntKind.i64 (↑i : Int)) ?_
        refine rv (D.sl (trips st) none) ?_
        refine rve (D.int IntKind.i64 (↑(List.length (trips st)) : Int)) (.int IntKind.i64 ((↑(List.length st) : Int))) (by simp only [ints, eInt, rows, eInts, bools, eBool, trips, eTrip, List.length_map]) ?_
        refine rv (D.bool (decide ((↑i : Int) < (↑(List.length st) : Int)))) ?_
        refine k_done (k_skip_seq ?_)
        refine rkn 17 (decide ((↑i : Int) < (↑(List.length st) : Int))) true (decide_eq_true (by omega)) ?_
        refine kct (k_skip_seq (k_seq (k_block (k_seq ?_))))
        refine rv (D.sl (trips st) none) ?_
        refine rv (D.int IntKind.i64 (↑i : Int)) ?_
        refine runs_index (st) (eTrip) (o := none) (kd := IntKind.i64) (i) (by kernel_rfl) (by kernel_rfl) (by kernel_rfl) (by assumption) (by kernel_rfl) ?_
        refine rv (D.agg [D.int IntKind.i64 (Prod.fst st[i]), D.int IntKind.i64 (Prod.fst (Prod.snd st[i])), D.int IntKind.i64 (Prod.snd (Prod.snd st[i]))]) ?_
        refine rgf (D.lptr (8 : Nat) (0 : Nat)) (σ) ?_
        refine rgf (D.junk) (σ) ?_
        refine k_done (k_skip_seq (k_seq (k_seq ?_)))
        refine rv (D.lptr (8 : Nat) (0 : Nat)) ?_
        refine rv (D.int IntKind.i64 (Prod.fst st[i])) ?_
        refine rv (D.bool (decide (Prod.fst st[i] < (0 : Int)))) ?_
        refine rv (D.bool (decide (Prod.fst st[i] < (0 : Int)))) ?_
        refine rkn 27 (decide (Prod.fst st[i] < (0 : Int))) false (decide_eq_false (by omega)) ?_
        refine rv (D.lptr (8 : Nat) (1 : Nat)) ?_
        refine rv (D.int IntKind.i64 (Prod.fst (Prod.snd st[i]))) ?_
        refine rv (D.bool (decide (Prod.fst (Prod.snd st[i]) < (0 : Int)))) ?_
        refine rv (D.bool (decide (Prod.fst (Prod.snd st[i]) < (0 : Int)))) ?_
        refine rv (D.bool (decide (Prod.fst (Prod.snd st[i]) < (0 : Int)))) ?_
        refine rkn 32 (decide (Prod.fst (Prod.snd st[i]) < (0 : Int))) true (decide_eq_true (by omega)) ?_
        refine rno (rno (rno (rno (rno ?_))))
        refine rv (D.bool true) ?_
        refine rv (D.bool true) ?_
        refine rno (rno (rno (rno (rno ?_))))
        refine rv (D.bool true) ?_
        refine k_done (k_skip_seq (kct (k_seq ?_)))
        refine rv (D.sl [] (some (34 : Nat))) ?_
        refine rv (D.int IntKind.i64 (50 : Int)) ?_
        refine k_done (k_skip_seq (k_ret ?_))
        exact ⟨.inr rfl, by kernel_rfl, by kernel_rfl⟩
    · rw [if_neg (fun h => g1 h.1.1)] at hall
      have hA : allR l st = ([], 50) := by unfold allR; rw [hall]
      rw [hA]
      refine k_seq (k_seq ?_)
      refine rv (D.int IntKind.i64 (↑i : Int)) ?_
      refine rv (D.sl (trips st) none) ?_
      refine rve (D.int IntKind.i64 (↑(List.length (trips st)) : Int)) (.int IntKind.i64 ((↑(List.length st) : Int))) (by simp only [ints, eInt, rows, eInts, bools, eBool, trips, eTrip, List.length_map]) ?_
      refine rv (D.bool (decide ((↑i : Int) < (↑(List.length st) : Int)))) ?_
      refine k_done (k_skip_seq ?_)
      refine rkn 17 (decide ((↑i : Int) < (↑(List.length st) : Int))) true (decide_eq_true (by omega)) ?_
      refine kct (k_skip_seq (k_seq (k_block (k_seq ?_))))
      refine rv (D.sl (trips st) none) ?_
      refine rv (D.int IntKind.i64 (↑i : Int)) ?_
      refine runs_index (st) (eTrip) (o := none) (kd := IntKind.i64) (i) (by kernel_rfl) (by kernel_rfl) (by kernel_rfl) (by assumption) (by kernel_rfl) ?_
      refine rv (D.agg [D.int IntKind.i64 (Prod.fst st[i]), D.int IntKind.i64 (Prod.fst (Prod.snd st[i])), D.int IntKind.i64 (Prod.snd (Prod.snd st[i]))]) ?_
      refine rgf (D.lptr (8 : Nat) (0 : Nat)) (σ) ?_
      refine rgf (D.junk) (σ) ?_
      refine k_done (k_skip_seq (k_seq (k_seq ?_)))
      refine rv (D.lptr (8 : Nat) (0 : Nat)) ?_
      refine rv (D.int IntKind.i64 (Prod.fst st[i])) ?_
      refine rv (D.bool (decide (Prod.fst st[i] < (0 : Int)))) ?_
      refine rv (D.bool (decide (Prod.fst st[i] < (0 : Int)))) ?_
      refine rkn 27 (decide (Prod.fst st[i] < (0 : Int))) true (decide_eq_true (by omega)) ?_
      refine rno (rno (rno ?_))
      refine rv (D.bool true) ?_
      refine rv (D.bool true) ?_
      refine rno (rno (rno (rno (rno ?_))))
      refine rv (D.bool true) ?_
      refine rv (D.bool true) ?_
      refine rno (rno (rno (rno (rno ?_))))
      refine rv (D.bool true) ?_
      refine k_done (k_skip_seq (kct (k_seq ?_)))
      refine rv (D.sl [] (some (34 : Nat))) ?_
      refine rv (D.int IntKind.i64 (50 : Int)) ?_
      refine k_done (k_skip_seq (k_ret ?_))
      exact ⟨.inr rfl, by kernel_rfl, by kernel_rfl⟩
  · have hA : allR l st = (out, 0) := by
      unfold allR
      rw [hall, List.drop_of_length_le (by omega)]
      rfl
    rw [hA]
    refine k_seq (k_seq ?_)
    refine rv (D.int IntKind.i64 (↑i : Int)) ?_
    refine rv (D.sl (trips st) none) ?_
    refine rve (D.int IntKind.i64 (↑(List.length (trips st)) : Int)) (.int IntKind.i64 ((↑(List.length st) : Int))) (by simp only [ints, eInt, rows, eInts, bools, eBool, trips, eTrip, List.length_map]) ?_
    refine rv (D.bool (decide ((↑i : Int) < (↑(List.length st) : Int)))) ?_
    refine k_done (k_skip_seq ?_)
    refine rkn 17 (decide ((↑i : Int) < (↑(List.length st) : Int))) false (decide_eq_false (by omega)) ?_
    refine kcf (k_exit_seq (k_exit_back (k_exit_hit rfl (k_skip_seq (k_seq ?_)))))
    refine rv (D.sl (rows out) none) ?_
    refine ra0 (D.sl (rows out) none) ?_
    refine rv (D.int IntKind.i64 (0 : Int)) ?_
    refine k_done (k_skip_seq (k_ret ?_))
    exact ⟨.inr rfl, by kernel_rfl, by kernel_rfl⟩
end Go.Abs.B

/-
  The given program's All; Check of both.
-/
namespace Go.Abs.B
open Go Go.Abs
set_option maxRecDepth 8000
attribute [local irreducible] callN runC evalOp

theorem clone_ok (n : Nat) (c : List Int) (o : Option Nat) (σ : St) (hc : c.length < 4096) :
    callN T (n + 1) 28 [.sl (ints c) o] σ = some (.sl (ints c) (some 3), σ) := by
  refine call_of (m := m28) rfl rfl (by decide) (k_start ?_)
  unfold m28 mclone cloneA cloneD
  refine k_seq ?_
  refine rv (D.sl [] (some (3 : Nat))) ?_
  refine k_done (k_skip_seq (k_seq ?_))
  refine rv (D.sl [] (some (3 : Nat))) ?_
  refine rv (D.sl (ints c) none) ?_
  refine runs_append ([]) (ints c) (ints c) (by kernel_rfl) (by kernel_rfl) (by kernel_rfl) (by simp [ints, eInt, rows, eInts, bools, eBool, trips, eTrip]) (by simp [ints, eInt, rows, eInts, bools, eBool, trips, eTrip, room]; omega) (List.nil_append _) ?_
  refine runs_assign (D.sl (ints c) (some (3 : Nat))) (by kernel_rfl) (by kernel_rfl) ?_
  refine k_done (k_skip_seq (k_ret ?_))
  exact ⟨.inr rfl, by kernel_rfl, by kernel_rfl⟩

def f14 (l : List (List Int)) (st : List Step3) (out : List (List Int)) (i : Int) : Fr := Fr.mk ([.sl (rows l) none, .sl (trips st) none, .junk, .junk, .sl [] (some 34), .int .i64 0, .sl (rows out) (some 34), .junk, .junk, .junk, .junk, .junk, .junk, .junk, .sl (rows l) none, .int .i64 l.length, .int .i64 i] ++ List.replicate 62 .junk) (List.replicate 79 none) []
def f14b (l : List (List Int)) (st : List Step3) (out : List (List Int)) (i : Int) : Fr := Fr.mk ([.sl (rows l) none, .sl (trips st) none, .junk, .junk, .sl [] (some 34), .int .i64 0, .sl (rows out) (some 34), .junk, .junk, .junk, .junk, .junk, .junk, .junk, .sl (rows l) none, .int .i64 l.length, .int .i64 l.length, .junk, .junk, .junk, .junk, .junk, .junk, .junk, .junk, .junk, .sl (trips st) none, .int .i64 st.length, .int .i64 i] ++ List.replicate 50 .junk) (List.replicate 79 none) []
theorem progAll_ok (n : Nat) (l : List (List Int)) (st : List Step3) (o1 o2 : Option Nat) (σ : St) (hn : 2000 < n) (h1 : l.length ≤ 60) (h2 : ∀ c ∈ l, c.length ≤ 12) (h3 : st.length ≤ 30) :
    callN T (n + 4) 14 [.sl (rows l) o1, .sl (trips st) o2] σ = some (.tup [.sl (rows (allR l st).1) none, .int .i64 (allR l st).2], σ) := by
  obtain ⟨hs0, hL⟩ := small_start l h1 h2
  refine call_of (m := m14) rfl rfl (by decide) (k_start ?_)
  unfold m14
  refine k_seq ?_
  refine rv (D.sl [] (some (34 : Nat))) ?_
  refine rv (D.int IntKind.i64 (0 : Int)) ?_
  refine k_done (k_skip_seq (k_seq ?_))
  refine rv (D.sl [] (some (34 : Nat))) ?_
  refine k_done (k_skip_seq (k_seq (k_seq ?_)))
  refine rv (D.sl (rows l) none) ?_
  refine rve (D.int IntKind.i64 (↑(List.length (rows l)) : Int)) (.int IntKind.i64 ((↑(List.length l) : Int))) (by simp only [ints, eInt, rows, eInts, bools, eBool, trips, eTrip, List.length_map]) ?_
  refine rv (D.int IntKind.i64 (0 : Int)) ?_
  refine k_done (k_skip_seq (k_block ?_))
  refine k_loop (fun i : Nat => f14 l st (l.take i) i) (fun _ => σ) (fun i => i ≤ l.length) (fun i => l.length - i) 0 (by kernel_rfl) rfl (by simp) (by intro s hs; omega) ?_
  intro i hi
  have hl : (l.take i).length = i := by simp; omega
  by_cases hlt : i < l.length
  · have ht := List.take_succ_eq_append_getElem hlt
    have hc12 := h2 l[i] (List.getElem_mem hlt)
    generalize hout : l.take i = out at *
    refine k_seq ?_
    refine rv (D.bool (decide ((↑i : Int) < (↑(List.length l) : Int)))) ?_
    refine k_done (k_skip_seq (k_seq ?_))
    refine rkn 17 (decide ((↑i : Int) < (↑(List.length l) : Int))) true (decide_eq_true (by omega)) ?_
    refine kct (k_skip_seq (k_seq (k_block (k_seq ?_))))
    refine runs_index (l) (eInts) (o := none) (kd := IntKind.i64) (i) (by kernel_rfl) (by kernel_rfl) (by kernel_rfl) (by assumption) (by kernel_rfl) ?_
    refine rv (D.sl (ints l[i]) none) ?_
    refine ra0 (D.sl (ints l[i]) none) ?_
    refine k_done (k_skip_seq ?_)
    refine runs_steal (D.sl (rows out) (some (34 : Nat))) (by kernel_rfl) (by kernel_rfl) ?_
    refine rv (D.sl (ints l[i]) none) ?_
    refine runs_call ([D.sl (ints l[i]) none]) (by kernel_rfl) (by kernel_rfl) (by kernel_rfl) (by kernel_rfl) (clone_ok _ _ _ _ (by omega)) (by kernel_rfl) ?_
    refine rv (D.sl [[D.sl (ints l[i]) none]] (some (34 : Nat))) ?_
    refine runs_append (rows out) ([[D.sl (ints l[i]) none]]) (rows (out ++ [l[i]])) (by kernel_rfl) (by kernel_rfl) (by kernel_rfl) (by kernel_rfl) (by simp [ints, eInt, rows, eInts, bools, eBool, trips, eTrip, room]; omega) (by simp [ints, eInt, rows, eInts, bools, eBool, trips, eTrip]) ?_
    refine runs_assign (D.sl (rows (out ++ [l[i]])) (some (34 : Nat))) (by kernel_rfl) (by kernel_rfl) ?_
    refine k_done (k_skip_block (k_skip_seq ?_))
    refine rve (D.int IntKind.i64 (IntKind.wrap IntKind.i64 ((↑i : Int) + (1 : Int)))) (.int IntKind.i64 ((i + 1 : Nat) : Int)) (congrArg (D.int IntKind.i64) (show IntKind.wrap IntKind.i64 ((↑i : Int) + (1 : Int)) = ((i + 1 : Nat) : Int) by rw [IntKind.wrap_i64] <;> omega)) ?_
    refine rv (D.int IntKind.i64 (↑(i + (1 : Nat)) : Int)) ?_
    refine k_done (k_skip_back ?_)
    exact ⟨i + 1, hlt, by omega, by rw [ht]; kernel_rfl, rfl⟩
  rw [List.take_of_length_le (by omega)]
  have hii : i = l.length := by omega
  subst hii
  refine k_seq ?_
  refine rv (D.bool (decide ((↑(List.length l) : Int) < (↑(List.length l) : Int)))) ?_
  refine k_done (k_skip_seq (k_seq ?_))
  refine rkn 17 (decide ((↑(List.length l) : Int) < (↑(List.length l) : Int))) false (decide_eq_false (by omega)) ?_
  refine kcf (k_exit_seq (k_exit_back (k_exit_hit rfl (k_skip_seq (k_seq (k_seq ?_))))))
  refine rv (D.sl (trips st) none) ?_
  refine rve (D.int IntKind.i64 (↑(List.length (trips st)) : Int)) (.int IntKind.i64 ((↑(List.length st) : Int))) (by simp only [ints, eInt, rows, eInts, bools, eBool, trips, eTrip, List.length_map]) ?_
  refine rv (D.int IntKind.i64 (0 : Int)) ?_
  refine k_done (k_skip_seq (k_block ?_))
  refine k_loop (S := Nat × List (List Int)) (fun s => f14b l st s.2 s.1) (fun _ => σ) (fun s => s.1 ≤ st.length ∧ s.2.length = l.length + s.1 ∧ small l.flatten s.2 ∧ allF l st = allF s.2 (st.drop s.1)) (fun s => st.length - s.1) (0, l) (by kernel_rfl) rfl ⟨by simp, by simp, hs0, rfl⟩ (by intro s hs; omega) ?_
  rintro ⟨i, out⟩ ⟨hi, hlen, hsm, hall⟩
  simp only [] at hi hlen hsm hall
  by_cases hlt : i < st.length
  · rw [drop_at hlt] at hall
    simp only [allF] at hall
    have bad : allF l st = none → allR l st = ([], 50) := fun h => by unfold allR; rw [h]
    by_cases g1 : 0 ≤ st[i].1
    · by_cases g3 : st[i].1 < out.length
      · by_cases g2 : 0 ≤ st[i].2.1
        · by_cases g4 : st[i].2.1 < out.length
          · have hcan : can out st[i] := ⟨g1, g3, g2, g4⟩
            have ha := getC_mem g1 g3
            have hb := getC_mem g2 g4
            have hla := (hsm _ ha).1
            have hlb := (hsm _ hb).1
            obtain ⟨σm, hmk⟩ := make_ok (n) (getC out st[i].1) (getC out st[i].2.1) st[i].2.2 none none (by omega) (by omega)
            have e1 : out[st[i].1.toNat]'(by omega) = getC out st[i].1 := getC_eq (by omega)
            have e2 : out[st[i].2.1.toNat]'(by omega) = getC out st[i].2.1 := getC_eq (by omega)
            rw [← e1, ← e2] at hmk
            by_cases hm : makes (getC out st[i].1) (getC out st[i].2.1) st[i].2.2
            · rw [if_pos ⟨hcan, hm⟩] at hall
              have hr : makeR (getC out st[i].1) (getC out st[i].2.1) st[i].2.2 = (made (getC out st[i].1) (getC out st[i].2.1) st[i].2.2, 0) := if_pos hm
              rw [e1, e2, hr, ← e1, ← e2] at hmk
              refine k_seq ?_
              refine rv (D.bool (decide ((↑i : Int) < (↑(List.length st) : Int)))) ?_
              refine k_done (k_skip_seq (k_seq ?_))
              refine rkn 29 (decide ((↑i : Int) < (↑(List.length st) : Int))) true (decide_eq_true (by omega)) ?_
              refine kct (k_skip_seq (k_seq (k_block (k_seq ?_))))
              refine runs_index (st) (eTrip) (o := none) (kd := IntKind.i64) (i) (by kernel_rfl) (by kernel_rfl) (by kernel_rfl) (by assumption) (by kernel_rfl) ?_
              refine rv (D.agg [D.int IntKind.i64 (Prod.fst st[i]), D.int IntKind.i64 (Prod.fst (Prod.snd st[i])), D.int IntKind.i64 (Prod.snd (Prod.snd st[i]))]) ?_
              refine rgf (D.lptr (10 : Nat) (0 : Nat)) (σ) ?_
              refine rgf (D.junk) (σ) ?_
              refine k_done (k_skip_seq (k_seq (k_seq ?_)))
              refine rv (D.sl (rows out) none) ?_
              refine rve (D.int IntKind.i64 (↑(List.length (rows out)) : Int)) (.int IntKind.i64 ((↑(List.length out) : Int))) (by simp only [ints, eInt, rows, eInts, bools, eBool, trips, eTrip, List.length_map]) ?_
              refine ra0 (D.int IntKind.i64 (↑(List.length out) : Int)) ?_
              refine k_done (k_skip_seq (k_seq ?_))
              refine rv (D.lptr (10 : Nat) (0 : Nat)) ?_
              refine rv (D.int IntKind.i64 (Prod.fst st[i])) ?_
              refine rv (D.bool (decide (Prod.fst st[i] < (0 : Int)))) ?_
              refine rv (D.bool (decide (Prod.fst st[i] < (0 : Int)))) ?_
              refine rkn 37 (decide (Prod.fst st[i] < (0 : Int))) false (decide_eq_false (by omega)) ?_
              refine rv (D.lptr (10 : Nat) (0 : Nat)) ?_
              refine rv (D.int IntKind.i64 (Prod.fst st[i])) ?_
              refine rv (D.int IntKind.i64 (↑(List.length out) : Int)) ?_
              refine rv (D.bool (decide (Prod.fst st[i] ≥ (↑(List.length out) : Int)))) ?_
              refine rv (D.bool (decide (Prod.fst st[i] ≥ (↑(List.length out) : Int)))) ?_
              refine rv (D.bool (decide (Prod.fst st[i] ≥ (↑(List.length out) : Int)))) ?_
              refine rkn 43 (decide (Prod.fst st[i] ≥ (↑(List.length out) : Int))) false (decide_eq_false (by omega)) ?_
              refine rv (D.lptr (10 : Nat) (1 : Nat)) ?_
              refine rv (D.int IntKind.i64 (Prod.fst (Prod.snd st[i]))) ?_
              refine rv (D.bool (decide (Prod.fst (Prod.snd st[i]) < (0 : Int)))) ?_
              refine rv (D.bool (decide (Prod.fst (Prod.snd st[i]) < (0 : Int)))) ?_
              refine rv (D.bool (decide (Prod.fst (Prod.snd st[i]) < (0 : Int)))) ?_
              refine rkn 48 (decide (Prod.fst (Prod.snd st[i]) < (0 : Int))) false (decide_eq_false (by omega)) ?_
              refine rv (D.lptr (10 : Nat) (1 : Nat)) ?_
              refine rv (D.int IntKind.i64 (Prod.fst (Prod.snd st[i]))) ?_
              refine rv (D.int IntKind.i64 (↑(List.length out) : Int)) ?_
              refine rv (D.bool (decide (Prod.fst (Prod.snd st[i]) ≥ (↑(List.length out) : Int)))) ?_
              refine rv (D.bool (decide (Prod.fst (Prod.snd st[i]) ≥ (↑(List.length out) : Int)))) ?_
              refine k_done (k_skip_seq ?_)
              refine rkn 53 (decide (Prod.fst (Prod.snd st[i]) ≥ (↑(List.length out) : Int))) false (decide_eq_false (by omega)) ?_
              refine kcf (k_skip_seq (k_seq ?_))
              refine rv (D.sl (rows out) none) ?_
              refine rv (D.lptr (10 : Nat) (0 : Nat)) ?_
              refine rv (D.int IntKind.i64 (Prod.fst st[i])) ?_
              refine runs_indexI (out) (eInts) (o := none) (kd := IntKind.i64) (Prod.fst st[i]) (by kernel_rfl) (by kernel_rfl) (by kernel_rfl) (by omega) (by omega) (by kernel_rfl) ?_
              refine rv (D.sl (ints out[Int.toNat (Prod.fst st[i])]) none) ?_
              refine rv (D.sl (rows out) none) ?_
              refine rv (D.lptr (10 : Nat) (1 : Nat)) ?_
              refine rv (D.int IntKind.i64 (Prod.fst (Prod.snd st[i]))) ?_
              refine runs_indexI (out) (eInts) (o := none) (kd := IntKind.i64) (Prod.fst (Prod.snd st[i])) (by kernel_rfl) (by kernel_rfl) (by kernel_rfl) (by omega) (by omega) (by kernel_rfl) ?_
              refine rv (D.sl (ints out[Int.toNat (Prod.fst (Prod.snd st[i]))]) none) ?_
              refine rv (D.lptr (10 : Nat) (2 : Nat)) ?_
              refine rv (D.int IntKind.i64 (Prod.snd (Prod.snd st[i]))) ?_
              refine runs_call ([D.sl (ints out[Int.toNat (Prod.fst st[i])]) none, D.sl (ints out[Int.toNat (Prod.fst (Prod.snd st[i]))]) none, D.int IntKind.i64 (Prod.snd (Prod.snd st[i]))]) (by kernel_rfl) (by kernel_rfl) (by kernel_rfl) (by kernel_rfl) (hmk) (by kernel_rfl) ?_
              refine rv (D.tup [D.sl (ints (made out[Int.toNat (Prod.fst st[i])] out[Int.toNat (Prod.fst (Prod.snd st[i]))] (Prod.snd (Prod.snd st[i])))) none, D.int IntKind.i64 (0 : Int)]) ?_
              refine rv (D.sl (ints (made out[Int.toNat (Prod.fst st[i])] out[Int.toNat (Prod.fst (Prod.snd st[i]))] (Prod.snd (Prod.snd st[i])))) none) ?_
              refine rv (D.int IntKind.i64 (0 : Int)) ?_
              refine ra0 (D.sl (ints (made out[Int.toNat (Prod.fst st[i])] out[Int.toNat (Prod.fst (Prod.snd st[i]))] (Prod.snd (Prod.snd st[i])))) none) ?_
              refine ra0 (D.int IntKind.i64 (0 : Int)) ?_
              refine k_done (k_skip_seq (k_seq (k_seq ?_)))
              refine rv (D.int IntKind.i64 (0 : Int)) ?_
              refine rv (D.bool false) ?_
              refine k_done (k_skip_seq (kcf (k_skip_seq ?_)))
              refine runs_steal (D.sl (rows out) (some (34 : Nat))) (by kernel_rfl) (by kernel_rfl) ?_
              refine rv (D.sl (ints (made out[Int.toNat (Prod.fst st[i])] out[Int.toNat (Prod.fst (Prod.snd st[i]))] (Prod.snd (Prod.snd st[i])))) none) ?_
              refine rv (D.sl [[D.sl (ints (made out[Int.toNat (Prod.fst st[i])] out[Int.toNat (Prod.fst (Prod.snd st[i]))] (Prod.snd (Prod.snd st[i])))) none]] (some (34 : Nat))) ?_
              refine runs_append (rows out) ([[D.sl (ints (made out[Int.toNat (Prod.fst st[i])] out[Int.toNat (Prod.fst (Prod.snd st[i]))] (Prod.snd (Prod.snd st[i])))) none]]) (rows (out ++ [made out[Int.toNat (Prod.fst st[i])] out[Int.toNat (Prod.fst (Prod.snd st[i]))] (Prod.snd (Prod.snd st[i]))])) (by kernel_rfl) (by kernel_rfl) (by kernel_rfl) (by kernel_rfl) (by simp [ints, eInt, rows, eInts, bools, eBool, trips, eTrip, room]; omega) (by simp [ints, eInt, rows, eInts, bools, eBool, trips, eTrip]) ?_
              refine runs_assign (D.sl (rows (out ++ [made out[Int.toNat (Prod.fst st[i])] out[Int.toNat (Prod.fst (Prod.snd st[i]))] (Prod.snd (Prod.snd st[i]))])) (some (34 : Nat))) (by kernel_rfl) (by kernel_rfl) ?_
              refine k_done (k_skip_block (k_skip_seq ?_))
              refine rve (D.int IntKind.i64 (IntKind.wrap IntKind.i64 ((↑i : Int) + (1 : Int)))) (.int IntKind.i64 ((i + 1 : Nat) : Int)) (congrArg (D.int IntKind.i64) (show IntKind.wrap IntKind.i64 ((↑i : Int) + (1 : Int)) = ((i + 1 : Nat) : Int) by rw [IntKind.wrap_i64] <;> omega)) ?_
              refine rv (D.int IntKind.i64 (↑(i + (1 : Nat)) : Int)) ?_
              refine k_done (k_skip_back ?_)
              refine ⟨(i + 1, out ++ [made (getC out st[i].1) (getC out st[i].2.1) st[i].2.2]), ⟨hlt, by simp; omega, small_step hL hsm ha hb, hall⟩, by simp only []; omega, by rw [← e1, ← e2]; kernel_rfl, rfl⟩
            · rw [if_neg (fun h => hm h.2)] at hall
              have hr : makeR (getC out st[i].1) (getC out st[i].2.1) st[i].2.2 = ([], 50) := if_neg hm
              rw [e1, e2, hr, ← e1, ← e2] at hmk
              rw [bad hall]
              refine k_seq ?_
              refine rv (D.bool (decide ((↑i : Int) < (↑(List.length st) : Int)))) ?_
              refine k_done (k_skip_seq (k_seq ?_))
              refine rkn 29 (decide ((↑i : Int) < (↑(List.length st) : Int))) true (decide_eq_true (by omega)) ?_
              refine kct (k_skip_seq (k_seq (k_block (k_seq ?_))))
              refine runs_index (st) (eTrip) (o := none) (kd := IntKind.i64) (i) (by kernel_rfl) (by kernel_rfl) (by kernel_rfl) (by assumption) (by kernel_rfl) ?_
              refine rv (D.agg [D.int IntKind.i64 (Prod.fst st[i]), D.int IntKind.i64 (Prod.fst (Prod.snd st[i])), D.int IntKind.i64 (Prod.snd (Prod.snd st[i]))]) ?_
              refine rgf (D.lptr (10 : Nat) (0 : Nat)) (σ) ?_
              refine rgf (D.junk) (σ) ?_
              refine k_done (k_skip_seq (k_seq (k_seq ?_)))
              refine rv (D.sl (rows out) none) ?_
              refine rve (D.int IntKind.i64 (↑(List.length (rows out)) : Int)) (.int IntKind.i64 ((↑(List.length out) : Int))) (by simp only [ints, eInt, rows, eInts, bools, eBool, trips, eTrip, List.length_map]) ?_
              refine ra0 (D.int IntKind.i64 (↑(List.length out) : Int)) ?_
              refine k_done (k_skip_seq (k_seq ?_))
              refine rv (D.lptr (10 : Nat) (0 : Nat)) ?_
              refine rv (D.int IntKind.i64 (Prod.fst st[i])) ?_
              refine rv (D.bool (decide (Prod.fst st[i] < (0 : Int)))) ?_
              refine rv (D.bool (decide (Prod.fst st[i] < (0 : Int)))) ?_
              refine rkn 37 (decide (Prod.fst st[i] < (0 : Int))) false (decide_eq_false (by omega)) ?_
              refine rv (D.lptr (10 : Nat) (0 : Nat)) ?_
              refine rv (D.int IntKind.i64 (Prod.fst st[i])) ?_
              refine rv (D.int IntKind.i64 (↑(List.length out) : Int)) ?_
              refine rv (D.bool (decide (Prod.fst st[i] ≥ (↑(List.length out) : Int)))) ?_
              refine rv (D.bool (decide (Prod.fst st[i] ≥ (↑(List.length out) : Int)))) ?_
              refine rv (D.bool (decide (Prod.fst st[i] ≥ (↑(List.length out) : Int)))) ?_
              refine rkn 43 (decide (Prod.fst st[i] ≥ (↑(List.length out) : Int))) false (decide_eq_false (by omega)) ?_
              refine rv (D.lptr (10 : Nat) (1 : Nat)) ?_
              refine rv (D.int IntKind.i64 (Prod.fst (Prod.snd st[i]))) ?_
              refine rv (D.bool (decide (Prod.fst (Prod.snd st[i]) < (0 : Int)))) ?_
              refine rv (D.bool (decide (Prod.fst (Prod.snd st[i]) < (0 : Int)))) ?_
              refine rv (D.bool (decide (Prod.fst (Prod.snd st[i]) < (0 : Int)))) ?_
              refine rkn 48 (decide (Prod.fst (Prod.snd st[i]) < (0 : Int))) false (decide_eq_false (by omega)) ?_
              refine rv (D.lptr (10 : Nat) (1 : Nat)) ?_
              refine rv (D.int IntKind.i64 (Prod.fst (Prod.snd st[i]))) ?_
              refine rv (D.int IntKind.i64 (↑(List.length out) : Int)) ?_
              refine rv (D.bool (decide (Prod.fst (Prod.snd st[i]) ≥ (↑(List.length out) : Int)))) ?_
              refine rv (D.bool (decide (Prod.fst (Prod.snd st[i]) ≥ (↑(List.length out) : Int)))) ?_
              refine k_done (k_skip_seq ?_)
              refine rkn 53 (decide (Prod.fst (Prod.snd st[i]) ≥ (↑(List.length out) : Int))) false (decide_eq_false (by omega)) ?_
              refine kcf (k_skip_seq (k_seq ?_))
              refine rv (D.sl (rows out) none) ?_
              refine rv (D.lptr (10 : Nat) (0 : Nat)) ?_
              refine rv (D.int IntKind.i64 (Prod.fst st[i])) ?_
              refine runs_indexI (out) (eInts) (o := none) (kd := IntKind.i64) (Prod.fst st[i]) (by kernel_rfl) (by kernel_rfl) (by kernel_rfl) (by omega) (by omega) (by kernel_rfl) ?_
              refine rv (D.sl (ints out[Int.toNat (Prod.fst st[i])]) none) ?_
              refine rv (D.sl (rows out) none) ?_
              refine rv (D.lptr (10 : Nat) (1 : Nat)) ?_
              refine rv (D.int IntKind.i64 (Prod.fst (Prod.snd st[i]))) ?_
              refine runs_indexI (out) (eInts) (o := none) (kd := IntKind.i64) (Prod.fst (Prod.snd st[i])) (by kernel_rfl) (by kernel_rfl) (by kernel_rfl) (by omega) (by omega) (by kernel_rfl) ?_
              refine rv (D.sl (ints out[Int.toNat (Prod.fst (Prod.snd st[i]))]) none) ?_
              refine rv (D.lptr (10 : Nat) (2 : Nat)) ?_
              refine rv (D.int IntKind.i64 (Prod.snd (Prod.snd st[i]))) ?_
              refine runs_call ([D.sl (ints out[Int.toNat (Prod.fst st[i])]) none, D.sl (ints out[Int.toNat (Prod.fst (Prod.snd st[i]))]) none, D.int IntKind.i64 (Prod.snd (Prod.snd st[i]))]) (by kernel_rfl) (by kernel_rfl) (by kernel_rfl) (by kernel_rfl) (hmk) (by kernel_rfl) ?_
              refine rv (D.tup [D.sl [] none, D.int IntKind.i64 (50 : Int)]) ?_
              refine rv (D.sl [] none) ?_
              refine rv (D.int IntKind.i64 (50 : Int)) ?_
              refine ra0 (D.sl [] none) ?_
              refine ra0 (D.int IntKind.i64 (50 : Int)) ?_
              refine k_done (k_skip_seq (k_seq (k_seq ?_)))
              refine rv (D.int IntKind.i64 (50 : Int)) ?_
              refine rv (D.bool true) ?_
              refine k_done (k_skip_seq (kct (k_seq ?_)))
              refine rv (D.int IntKind.i64 (50 : Int)) ?_
              refine rv (D.sl [] (some (34 : Nat))) ?_
              refine ra0 (D.int IntKind.i64 (50 : Int)) ?_
              refine k_done (k_skip_seq (k_ret ?_))
              exact ⟨.inr rfl, by kernel_rfl, by kernel_rfl⟩
          · rw [if_neg (fun h => g4 h.1.2.2.2)] at hall
            rw [bad hall]
            refine k_seq ?_
            refine rv (D.bool (decide ((↑i : Int) < (↑(List.length st) : Int)))) ?_
            refine k_done (k_skip_seq (k_seq ?_))
            refine rkn 29 (decide ((↑i : Int) < (↑(List.length st) : Int))) true (decide_eq_true (by omega)) ?_
            refine kct (k_skip_seq (k_seq (k_block (k_seq ?_))))
            refine runs_index (st) (eTrip) (o := none) (kd := IntKind.i64) (i) (by kernel_rfl) (by kernel_rfl) (by kernel_rfl) (by assumption) (by kernel_rfl) ?_
            refine rv (D.agg [D.int IntKind.i64 (Prod.fst st[i]), D.int IntKind.i64 (Prod.fst (Prod.snd st[i])), D.int IntKind.i64 (Prod.snd (Prod.snd st[i]))]) ?_
            refine rgf (D.lptr (10 : Nat) (0 : Nat)) (σ) ?_
            refine rgf (D.junk) (σ) ?_
            refine k_done (k_skip_seq (k_seq (k_seq ?_)))
            refine rv (D.sl (rows out) none) ?_
            refine rve (D.int IntKind.i64 (↑(List.length (rows out)) : Int)) (.int IntKind.i64 ((↑(List.length out) : Int))) (by simp only [ints, eInt, rows, eInts, bools, eBool, trips, eTrip, List.length_map]) ?_
            refine ra0 (D.int IntKind.i64 (↑(List.length out) : Int)) ?_
            refine k_done (k_skip_seq (k_seq ?_))
            refine rv (D.lptr (10 : Nat) (0 : Nat)) ?_
            refine rv (D.int IntKind.i64 (Prod.fst st[i])) ?_
            refine rv (D.bool (decide (Prod.fst st[i] < (0 : Int)))) ?_
            refine rv (D.bool (decide (Prod.fst st[i] < (0 : Int)))) ?_
            refine rkn 37 (decide (Prod.fst st[i] < (0 : Int))) false (decide_eq_false (by omega)) ?_
            refine rv (D.lptr (10 : Nat) (0 : Nat)) ?_
            refine rv (D.int IntKind.i64 (Prod.fst st[i])) ?_
            refine rv (D.int IntKind.i64 (↑(List.length out) : Int)) ?_
            refine rv (D.bool (decide (Prod.fst st[i] ≥ (↑(List.length out) : Int)))) ?_
            refine rv (D.bool (decide (Prod.fst st[i] ≥ (↑(List.length out) : Int)))) ?_
            refine rv (D.bool (decide (Prod.fst st[i] ≥ (↑(List.length out) : Int)))) ?_
            refine rkn 43 (decide (Prod.fst st[i] ≥ (↑(List.length out) : Int))) false (decide_eq_false (by omega)) ?_
            refine rv (D.lptr (10 : Nat) (1 : Nat)) ?_
            refine rv (D.int IntKind.i64 (Prod.fst (Prod.snd st[i]))) ?_
            refine rv (D.bool (decide (Prod.fst (Prod.snd st[i]) < (0 : Int)))) ?_
            refine rv (D.bool (decide (Prod.fst (Prod.snd st[i]) < (0 : Int)))) ?_
            refine rv (D.bool (decide (Prod.fst (Prod.snd st[i]) < (0 : Int)))) ?_
            refine rkn 48 (decide (Prod.fst (Prod.snd st[i]) < (0 : Int))) false (decide_eq_false (by omega)) ?_
            refine rv (D.lptr (10 : Nat) (1 : Nat)) ?_
            refine rv (D.int IntKind.i64 (Prod.fst (Prod.snd st[i]))) ?_
            refine rv (D.int IntKind.i64 (↑(List.length out) : Int)) ?_
            refine rv (D.bool (decide (Prod.fst (Prod.snd st[i]) ≥ (↑(List.length out) : Int)))) ?_
            refine rv (D.bool (decide (Prod.fst (Prod.snd st[i]) ≥ (↑(List.length out) : Int)))) ?_
            refine k_done (k_skip_seq ?_)
            refine rkn 53 (decide (Prod.fst (Prod.snd st[i]) ≥ (↑(List.length out) : Int))) true (decide_eq_true (by omega)) ?_
            refine kct (k_seq ?_)
            refine rv (D.sl [] (some (34 : Nat))) ?_
            refine rv (D.int IntKind.i64 (50 : Int)) ?_
            refine k_done (k_skip_seq (k_ret ?_))
            exact ⟨.inr rfl, by kernel_rfl, by kernel_rfl⟩
        · rw [if_neg (fun h => g2 h.1.2.2.1)] at hall
          rw [bad hall]
          refine k_seq ?_
          refine rv (D.bool (decide ((↑i : Int) < (↑(List.length st) : Int)))) ?_
          refine k_done (k_skip_seq (k_seq ?_))
          refine rkn 29 (decide ((↑i : Int) < (↑(List.length st) : Int))) true (decide_eq_true (by omega)) ?_
          refine kct (k_skip_seq (k_seq (k_block (k_seq ?_))))
          refine runs_index (st) (eTrip) (o := none) (kd := IntKind.i64) (i) (by kernel_rfl) (by kernel_rfl) (by kernel_rfl) (by assumption) (by kernel_rfl) ?_
          refine rv (D.agg [D.int IntKind.i64 (Prod.fst st[i]), D.int IntKind.i64 (Prod.fst (Prod.snd st[i])), D.int IntKind.i64 (Prod.snd (Prod.snd st[i]))]) ?_
          refine rgf (D.lptr (10 : Nat) (0 : Nat)) (σ) ?_
          refine rgf (D.junk) (σ) ?_
          refine k_done (k_skip_seq (k_seq (k_seq ?_)))
          refine rv (D.sl (rows out) none) ?_
          refine rve (D.int IntKind.i64 (↑(List.length (rows out)) : Int)) (.int IntKind.i64 ((↑(List.length out) : Int))) (by simp only [ints, eInt, rows, eInts, bools, eBool, trips, eTrip, List.length_map]) ?_
          refine ra0 (D.int IntKind.i64 (↑(List.length out) : Int)) ?_
          refine k_done (k_skip_seq (k_seq ?_))
          refine rv (D.lptr (10 : Nat) (0 : Nat)) ?_
          refine rv (D.int IntKind.i64 (Prod.fst st[i])) ?_
          refine rv (D.bool (decide (Prod.fst st[i] < (0 : Int)))) ?_
          refine rv (D.bool (decide (Prod.fst st[i] < (0 : Int)))) ?_
          refine rkn 37 (decide (Prod.fst st[i] < (0 : Int))) false (decide_eq_false (by omega)) ?_
          refine rv (D.lptr (10 : Nat) (0 : Nat)) ?_
          refine rv (D.int IntKind.i64 (Prod.fst st[i])) ?_
          refine rv (D.int IntKind.i64 (↑(List.length out) : Int)) ?_
          refine rv (D.bool (decide (Prod.fst st[i] ≥ (↑(List.length out) : Int)))) ?_
          refine rv (D.bool (decide (Prod.fst st[i] ≥ (↑(List.length out) : Int)))) ?_
          refine rv (D.bool (decide (Prod.fst st[i] ≥ (↑(List.length out) : Int)))) ?_
          refine rkn 43 (decide (Prod.fst st[i] ≥ (↑(List.length out) : Int))) false (decide_eq_false (by omega)) ?_
          refine rv (D.lptr (10 : Nat) (1 : Nat)) ?_
          refine rv (D.int IntKind.i64 (Prod.fst (Prod.snd st[i]))) ?_
          refine rv (D.bool (decide (Prod.fst (Prod.snd st[i]) < (0 : Int)))) ?_
          refine rv (D.bool (decide (Prod.fst (Prod.snd st[i]) < (0 : Int)))) ?_
          refine rv (D.bool (decide (Prod.fst (Prod.snd st[i]) < (0 : Int)))) ?_
          refine rkn 48 (decide (Prod.fst (Prod.snd st[i]) < (0 : Int))) true (decide_eq_true (by omega)) ?_
          refine rno (rno (rno (rno ?_)))
          refine rv (D.bool true) ?_
          refine k_done (k_skip_seq (kct (k_seq ?_)))
          refine rv (D.sl [] (some (34 : Nat))) ?_
          refine rv (D.int IntKind.i64 (50 : Int)) ?_
          refine k_done (k_skip_seq (k_ret ?_))
          exact ⟨.inr rfl, by kernel_rfl, by kernel_rfl⟩
      · rw [if_neg (fun h => g3 h.1.2.1)] at hall
        rw [bad hall]
        refine k_seq ?_
        refine rv (D.bool (decide ((↑i : Int) < (↑(List.length st) : Int)))) ?_
        refine k_done (k_skip_seq (k_seq ?_))
        refine rkn 29 (decide ((↑i : Int) < (↑(List.length st) : Int))) true (decide_eq_true (by omega)) ?_
        refine kct (k_skip_seq (k_seq (k_block (k_seq ?_))))
        refine runs_index (st) (eTrip) (o := none) (kd := IntKind.i64) (i) (by kernel_rfl) (by kernel_rfl) (by kernel_rfl) (by assumption) (by kernel_rfl) ?_
        refine rv (D.agg [D.int IntKind.i64 (Prod.fst st[i]), D.int IntKind.i64 (Prod.fst (Prod.snd st[i])), D.int IntKind.i64 (Prod.snd (Prod.snd st[i]))]) ?_
        refine rgf (D.lptr (10 : Nat) (0 : Nat)) (σ) ?_
        refine rgf (D.junk) (σ) ?_
        refine k_done (k_skip_seq (k_seq (k_seq ?_)))
        refine rv (D.sl (rows out) none) ?_
        refine rve (D.int IntKind.i64 (↑(List.length (rows out)) : Int)) (.int IntKind.i64 ((↑(List.length out) : Int))) (by simp only [ints, eInt, rows, eInts, bools, eBool, trips, eTrip, List.length_map]) ?_
        refine ra0 (D.int IntKind.i64 (↑(List.length out) : Int)) ?_
        refine k_done (k_skip_seq (k_seq ?_))
        refine rv (D.lptr (10 : Nat) (0 : Nat)) ?_
        refine rv (D.int IntKind.i64 (Prod.fst st[i])) ?_
        refine rv (D.bool (decide (Prod.fst st[i] < (0 : Int)))) ?_
        refine rv (D.bool (decide (Prod.fst st[i] < (0 : Int)))) ?_
        refine rkn 37 (decide (Prod.fst st[i] < (0 : Int))) false (decide_eq_false (by omega)) ?_
        refine rv (D.lptr (10 : Nat) (0 : Nat)) ?_
        refine rv (D.int IntKind.i64 (Prod.fst st[i])) ?_
        refine rv (D.int IntKind.i64 (↑(List.length out) : Int)) ?_
        refine rv (D.bool (decide (Prod.fst st[i] ≥ (↑(List.length out) : Int)))) ?_
        refine rv (D.bool (decide (Prod.fst st[i] ≥ (↑(List.length out) : Int)))) ?_
        refine rv (D.bool (decide (Prod.fst st[i] ≥ (↑(List.length out) : Int)))) ?_
        refine rkn 43 (decide (Prod.fst st[i] ≥ (↑(List.length out) : Int))) true (decide_eq_true (by omega)) ?_
        refine rno (rno (rno ?_))
        refine rv (D.bool true) ?_
        refine rv (D.bool true) ?_
        refine rno (rno (rno (rno ?_)))
        refine rv (D.bool true) ?_
        refine k_done (k_skip_seq (kct (k_seq ?_)))
        refine rv (D.sl [] (some (34 : Nat))) ?_
        refine rv (D.int IntKind.i64 (50 : Int)) ?_
        refine k_done (k_skip_seq (k_ret ?_))
        exact ⟨.inr rfl, by kernel_rfl, by kernel_rfl⟩
    · rw [if_neg (fun h => g1 h.1.1)] at hall
      rw [bad hall]
      refine k_seq ?_
      refine rv (D.bool (decide ((↑i : Int) < (↑(List.length st) : Int)))) ?_
      refine k_done (k_skip_seq (k_seq ?_))
      refine rkn 29 (decide ((↑i : Int) < (↑(List.length st) : Int))) true (decide_eq_true (by omega)) ?_
      refine kct (k_skip_seq (k_seq (k_block (k_seq ?_))))
      refine runs_index (st) (eTrip) (o := none) (kd := IntKind.i64) (i) (by kernel_rfl) (by kernel_rfl) (by kernel_rfl) (by assumption) (by kernel_rfl) ?_
      refine rv (D.agg [D.int IntKind.i64 (Prod.fst st[i]), D.int IntKind.i64 (Prod.fst (Prod.snd st[i])), D.int IntKind.i64 (Prod.snd (Prod.snd st[i]))]) ?_
      refine rgf (D.lptr (10 : Nat) (0 : Nat)) (σ) ?_
      refine rgf (D.junk) (σ) ?_
      refine k_done (k_skip_seq (k_seq (k_seq ?_)))
      refine rv (D.sl (rows out) none) ?_
      refine rve (D.int IntKind.i64 (↑(List.length (rows out)) : Int)) (.int IntKind.i64 ((↑(List.length out) : Int))) (by simp only [ints, eInt, rows, eInts, bools, eBool, trips, eTrip, List.length_map]) ?_
      refine ra0 (D.int IntKind.i64 (↑(List.length out) : Int)) ?_
      refine k_done (k_skip_seq (k_seq ?_))
      refine rv (D.lptr (10 : Nat) (0 : Nat)) ?_
      refine rv (D.int IntKind.i64 (Prod.fst st[i])) ?_
      refine rv (D.bool (decide (Prod.fst st[i] < (0 : Int)))) ?_
      refine rv (D.bool (decide (Prod.fst st[i] < (0 : Int)))) ?_
      refine rkn 37 (decide (Prod.fst st[i] < (0 : Int))) true (decide_eq_true (by omega)) ?_
      refine rno (rno (rno (rno ?_)))
      refine rv (D.bool true) ?_
      refine rv (D.bool true) ?_
      refine rno (rno (rno ?_))
      refine rv (D.bool true) ?_
      refine rv (D.bool true) ?_
      refine rno (rno (rno (rno ?_)))
      refine rv (D.bool true) ?_
      refine k_done (k_skip_seq (kct (k_seq ?_)))
      refine rv (D.sl [] (some (34 : Nat))) ?_
      refine rv (D.int IntKind.i64 (50 : Int)) ?_
      refine k_done (k_skip_seq (k_ret ?_))
      exact ⟨.inr rfl, by kernel_rfl, by kernel_rfl⟩
  · have hA : allR l st = (out, 0) := by
      unfold allR
      rw [hall, List.drop_of_length_le (by omega)]
      rfl
    rw [hA]
    refine k_seq ?_
    refine rv (D.bool (decide ((↑i : Int) < (↑(List.length st) : Int)))) ?_
    refine k_done (k_skip_seq (k_seq ?_))
    refine rkn 29 (decide ((↑i : Int) < (↑(List.length st) : Int))) false (decide_eq_false (by omega)) ?_
    refine kcf (k_exit_seq (k_exit_back (k_exit_hit rfl (k_skip_seq (k_seq ?_)))))
    refine rv (D.sl (rows out) none) ?_
    refine ra0 (D.sl (rows out) none) ?_
    refine rv (D.int IntKind.i64 (0 : Int)) ?_
    refine k_done (k_skip_seq (k_ret ?_))
    exact ⟨.inr rfl, by kernel_rfl, by kernel_rfl⟩
end Go.Abs.B
