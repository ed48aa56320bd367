/-
  The functions All of both, and Check.
-/
import Derived.Test.YtmmjjkahaemlkaaKont
import Derived.Test.YtmmjjkahaemlkaaQ4
set_option linter.unusedVariables false
set_option linter.unusedSimpArgs false
namespace Go.Abs.B
open Go Go.Abs
set_option maxRecDepth 8000
attribute [local irreducible] callN runC evalOp

theorem drop_at {α : Type} {l : List α} {i : Nat} (h : i < l.length) : l.drop i = l[i] :: l.drop (i + 1) := (List.getElem_cons_drop h).symm

def f15 (l : List (List Int)) (st : List Step3) (out : List (List Int)) (i : Int) : Fr := Fr.mk ([.sl (rows l) none, .sl (trips st) none, .junk, .junk, .sl [] (some 34), .int .i64 0, .sl (rows out) (some 34), .int .i64 i] ++ List.replicate 62 .junk) (List.replicate 70 none) []
theorem refAll_ok (n : Nat) (l : List (List Int)) (st : List Step3) (o1 o2 : Option Nat) (σ : St) (hn : 2000 < n) (h1 : l.length ≤ 60) (h2 : ∀ c ∈ l, c.length ≤ 12) (h3 : st.length ≤ 30) :
    callN T (n + 3) 15 [.sl (rows l) o1, .sl (trips st) o2] σ = some (.tup [.sl (rows (allR l st).1) none, .int .i64 (allR l st).2], σ) := by
  obtain ⟨hs0, hL⟩ := small_start l h1 h2
  refine call_of (m := m15) rfl rfl (by decide) (k_start ?_)
  unfold m15
  refine k_seq ?_
  refine runs_v (D.sl [] (some (34 : Nat))) (by kernel_rfl) (by kernel_rfl) ?_
  refine runs_v (D.int IntKind.i64 (0 : Int)) (by kernel_rfl) (by kernel_rfl) ?_
  refine k_done ?_
  refine k_skip_seq ?_
  refine k_seq ?_
  refine runs_v (D.sl [] (some (34 : Nat))) (by kernel_rfl) (by kernel_rfl) ?_
  refine k_done ?_
  refine k_skip_seq ?_
  refine k_seq ?_
  refine runs_steal (D.sl [] (some (34 : Nat))) (by kernel_rfl) (by kernel_rfl) ?_
  refine runs_v (D.sl (rows l) none) (by kernel_rfl) (by kernel_rfl) ?_
  refine runs_append ([]) (rows l) (rows l) (by kernel_rfl) (by kernel_rfl) (by kernel_rfl) (by simp [ints, eInt, rows, eInts, bools, eBool, trips, eTrip]) (by simp [ints, eInt, rows, eInts, bools, eBool, trips, eTrip, room]; omega) (List.nil_append _) ?_
  refine runs_assign (D.sl (rows l) (some (34 : Nat))) (by kernel_rfl) (by kernel_rfl) ?_
  refine k_done ?_
  refine k_skip_seq ?_
  refine k_seq ?_
  refine k_seq ?_
  refine runs_v (D.int IntKind.i64 (0 : Int)) (by kernel_rfl) (by kernel_rfl) ?_
  refine k_done ?_
  refine k_skip_seq ?_
  refine k_block ?_
  refine k_loop (S := Nat × List (List Int)) (fun s => f15 l st s.2 s.1) (fun _ => σ) (fun s => s.1 ≤ st.length ∧ s.2.length = l.length + s.1 ∧ small l.flatten s.2 ∧ allF l st = allF s.2 (st.drop s.1)) (fun s => st.length - s.1) (0, l) (by kernel_rfl) rfl ⟨by simp, by simp, hs0, rfl⟩ (by intro s hs; omega) ?_
  rintro ⟨i, out⟩ ⟨hi, hlen, hsm, hall⟩
  simp only [] at hi hlen hsm hall
  by_cases hlt : i < st.length
  · rw [drop_at hlt] at hall
    simp only [allF] at hall
    by_cases g1 : 0 ≤ st[i].1
    · by_cases g2 : 0 ≤ st[i].2.1
      · by_cases g3 : st[i].1 < out.length
        · by_cases g4 : st[i].2.1 < out.length
          · have hcan : can out st[i] := ⟨g1, g3, g2, g4⟩
            have ha := getC_mem g1 g3
            have hb := getC_mem g2 g4
            have hla := (hsm _ ha).1
            have hlb := (hsm _ hb).1
            have hmk := refMake_ok (n) (getC out st[i].1) (getC out st[i].2.1) st[i].2.2 none none [] (by omega) (by omega)
            have e1 : out[st[i].1.toNat]'(by omega) = getC out st[i].1 := getC_eq (by omega)
            have e2 : out[st[i].2.1.toNat]'(by omega) = getC out st[i].2.1 := getC_eq (by omega)
            rw [← e1, ← e2] at hmk
            by_cases hm : makes (getC out st[i].1) (getC out st[i].2.1) st[i].2.2
            · rw [if_pos ⟨hcan, hm⟩] at hall
              have hr : makeR (getC out st[i].1) (getC out st[i].2.1) st[i].2.2 = (made (getC out st[i].1) (getC out st[i].2.1) st[i].2.2, 0) := if_pos hm
              rw [e1, e2, hr, ← e1, ← e2] at hmk
              refine k_seq ?_
              refine k_seq ?_
              refine runs_v (D.int IntKind.i64 (↑i : Int)) (by kernel_rfl) (by kernel_rfl) ?_
              refine runs_v (D.sl (trips st) none) (by kernel_rfl) (by kernel_rfl) ?_
              refine runs_ve (D.int IntKind.i64 (↑(List.length (trips st)) : Int)) (.int IntKind.i64 ((↑(List.length st) : Int))) (by simp only [ints, eInt, rows, eInts, bools, eBool, trips, eTrip, List.length_map]) (by kernel_rfl) (by kernel_rfl) ?_
              refine runs_v (D.bool (decide ((↑i : Int) < (↑(List.length st) : Int)))) (by kernel_rfl) (by kernel_rfl) ?_
              refine k_done ?_
              refine k_skip_seq ?_
              refine runs_know 17 (d := .bool (decide ((↑i : Int) < (↑(List.length st) : Int)))) (d' := .bool true) (by kernel_rfl) (congrArg D.bool (show (decide ((↑i : Int) < (↑(List.length st) : Int))) = true from (decide_eq_true (by omega)))) ?_
              refine k_cond_t (by kernel_rfl) ?_
              refine k_skip_seq ?_
              refine k_seq ?_
              refine k_block ?_
              refine k_seq ?_
              refine runs_v (D.sl (trips st) none) (by kernel_rfl) (by kernel_rfl) ?_
              refine runs_v (D.int IntKind.i64 (↑i : Int)) (by kernel_rfl) (by kernel_rfl) ?_
              refine runs_index (st) (eTrip) (o := none) (kd := IntKind.i64) (i) (by kernel_rfl) (by kernel_rfl) (by kernel_rfl) (by assumption) (by kernel_rfl) ?_
              refine runs_v (D.agg [D.int IntKind.i64 (Prod.fst st[i]), D.int IntKind.i64 (Prod.fst (Prod.snd st[i])), D.int IntKind.i64 (Prod.snd (Prod.snd st[i]))]) (by kernel_rfl) (by kernel_rfl) ?_
              refine runs_gf (D.lptr (8 : Nat) (0 : Nat)) (σ) (by kernel_rfl) (by kernel_rfl) ?_
              refine runs_gf (D.junk) (σ) (by kernel_rfl) (by kernel_rfl) ?_
              refine k_done ?_
              refine k_skip_seq ?_
              refine k_seq ?_
              refine k_seq ?_
              refine runs_v (D.lptr (8 : Nat) (0 : Nat)) (by kernel_rfl) (by kernel_rfl) ?_
              refine runs_v (D.int IntKind.i64 (Prod.fst st[i])) (by kernel_rfl) (by kernel_rfl) ?_
              refine runs_v (D.bool (decide (Prod.fst st[i] < (0 : Int)))) (by kernel_rfl) (by kernel_rfl) ?_
              refine runs_v (D.bool (decide (Prod.fst st[i] < (0 : Int)))) (by kernel_rfl) (by kernel_rfl) ?_
              refine runs_know 27 (d := .bool (decide (Prod.fst st[i] < (0 : Int)))) (d' := .bool false) (by kernel_rfl) (congrArg D.bool (show (decide (Prod.fst st[i] < (0 : Int))) = false from (decide_eq_false (by omega)))) ?_
              refine runs_v (D.lptr (8 : Nat) (1 : Nat)) (by kernel_rfl) (by kernel_rfl) ?_
              refine runs_v (D.int IntKind.i64 (Prod.fst (Prod.snd st[i]))) (by kernel_rfl) (by kernel_rfl) ?_
              refine runs_v (D.bool (decide (Prod.fst (Prod.snd st[i]) < (0 : Int)))) (by kernel_rfl) (by kernel_rfl) ?_
              refine runs_v (D.bool (decide (Prod.fst (Prod.snd st[i]) < (0 : Int)))) (by kernel_rfl) (by kernel_rfl) ?_
              refine runs_v (D.bool (decide (Prod.fst (Prod.snd st[i]) < (0 : Int)))) (by kernel_rfl) (by kernel_rfl) ?_
              refine runs_know 32 (d := .bool (decide (Prod.fst (Prod.snd st[i]) < (0 : Int)))) (d' := .bool false) (by kernel_rfl) (congrArg D.bool (show (decide (Prod.fst (Prod.snd st[i]) < (0 : Int))) = false from (decide_eq_false (by omega)))) ?_
              refine runs_v (D.lptr (8 : Nat) (0 : Nat)) (by kernel_rfl) (by kernel_rfl) ?_
              refine runs_v (D.int IntKind.i64 (Prod.fst st[i])) (by kernel_rfl) (by kernel_rfl) ?_
              refine runs_v (D.sl (rows out) none) (by kernel_rfl) (by kernel_rfl) ?_
              refine runs_ve (D.int IntKind.i64 (↑(List.length (rows out)) : Int)) (.int IntKind.i64 ((↑(List.length out) : Int))) (by simp only [ints, eInt, rows, eInts, bools, eBool, trips, eTrip, List.length_map]) (by kernel_rfl) (by kernel_rfl) ?_
              refine runs_v (D.bool (decide (Prod.fst st[i] ≥ (↑(List.length out) : Int)))) (by kernel_rfl) (by kernel_rfl) ?_
              refine runs_v (D.bool (decide (Prod.fst st[i] ≥ (↑(List.length out) : Int)))) (by kernel_rfl) (by kernel_rfl) ?_
              refine runs_v (D.bool (decide (Prod.fst st[i] ≥ (↑(List.length out) : Int)))) (by kernel_rfl) (by kernel_rfl) ?_
              refine runs_know 39 (d := .bool (decide (Prod.fst st[i] ≥ (↑(List.length out) : Int)))) (d' := .bool false) (by kernel_rfl) (congrArg D.bool (show (decide (Prod.fst st[i] ≥ (↑(List.length out) : Int))) = false from (decide_eq_false (by omega)))) ?_
              refine runs_v (D.lptr (8 : Nat) (1 : Nat)) (by kernel_rfl) (by kernel_rfl) ?_
              refine runs_v (D.int IntKind.i64 (Prod.fst (Prod.snd st[i]))) (by kernel_rfl) (by kernel_rfl) ?_
              refine runs_v (D.sl (rows out) none) (by kernel_rfl) (by kernel_rfl) ?_
              refine runs_ve (D.int IntKind.i64 (↑(List.length (rows out)) : Int)) (.int IntKind.i64 ((↑(List.length out) : Int))) (by simp only [ints, eInt, rows, eInts, bools, eBool, trips, eTrip, List.length_map]) (by kernel_rfl) (by kernel_rfl) ?_
              refine runs_v (D.bool (decide (Prod.fst (Prod.snd st[i]) ≥ (↑(List.length out) : Int)))) (by kernel_rfl) (by kernel_rfl) ?_
              refine runs_v (D.bool (decide (Prod.fst (Prod.snd st[i]) ≥ (↑(List.length out) : Int)))) (by kernel_rfl) (by kernel_rfl) ?_
              refine k_done ?_
              refine k_skip_seq ?_
              refine runs_know 45 (d := .bool (decide (Prod.fst (Prod.snd st[i]) ≥ (↑(List.length out) : Int)))) (d' := .bool false) (by kernel_rfl) (congrArg D.bool (show (decide (Prod.fst (Prod.snd st[i]) ≥ (↑(List.length out) : Int))) = false from (decide_eq_false (by omega)))) ?_
              refine k_cond_f (by kernel_rfl) ?_
              refine k_skip_seq ?_
              refine k_seq ?_
              refine runs_v (D.sl (rows out) none) (by kernel_rfl) (by kernel_rfl) ?_
              refine runs_v (D.lptr (8 : Nat) (0 : Nat)) (by kernel_rfl) (by kernel_rfl) ?_
              refine runs_v (D.int IntKind.i64 (Prod.fst st[i])) (by kernel_rfl) (by kernel_rfl) ?_
              refine runs_indexI (out) (eInts) (o := none) (kd := IntKind.i64) (Prod.fst st[i]) (by kernel_rfl) (by kernel_rfl) (by kernel_rfl) (by omega) (by omega) (by kernel_rfl) ?_
              refine runs_v (D.sl (ints out[Int.toNat (Prod.fst st[i])]) none) (by kernel_rfl) (by kernel_rfl) ?_
              refine runs_v (D.sl (rows out) none) (by kernel_rfl) (by kernel_rfl) ?_
              refine runs_v (D.lptr (8 : Nat) (1 : Nat)) (by kernel_rfl) (by kernel_rfl) ?_
              refine runs_v (D.int IntKind.i64 (Prod.fst (Prod.snd st[i]))) (by kernel_rfl) (by kernel_rfl) ?_
              refine runs_indexI (out) (eInts) (o := none) (kd := IntKind.i64) (Prod.fst (Prod.snd st[i])) (by kernel_rfl) (by kernel_rfl) (by kernel_rfl) (by omega) (by omega) (by kernel_rfl) ?_
              refine runs_v (D.sl (ints out[Int.toNat (Prod.fst (Prod.snd st[i]))]) none) (by kernel_rfl) (by kernel_rfl) ?_
              refine runs_v (D.lptr (8 : Nat) (2 : Nat)) (by kernel_rfl) (by kernel_rfl) ?_
              refine runs_v (D.int IntKind.i64 (Prod.snd (Prod.snd st[i]))) (by kernel_rfl) (by kernel_rfl) ?_
              refine runs_call ([D.sl (ints out[Int.toNat (Prod.fst st[i])]) none, D.sl (ints out[Int.toNat (Prod.fst (Prod.snd st[i]))]) none, D.int IntKind.i64 (Prod.snd (Prod.snd st[i]))]) (by kernel_rfl) (by kernel_rfl) (by kernel_rfl) (by kernel_rfl) (hmk) (by kernel_rfl) ?_
              refine runs_v (D.tup [D.sl (ints (Prod.fst (made out[Int.toNat (Prod.fst st[i])] out[Int.toNat (Prod.fst (Prod.snd st[i]))] (Prod.snd (Prod.snd st[i])), (0 : Int)))) none, D.int IntKind.i64 (Prod.snd (made out[Int.toNat (Prod.fst st[i])] out[Int.toNat (Prod.fst (Prod.snd st[i]))] (Prod.snd (Prod.snd st[i])), (0 : Int)))]) (by kernel_rfl) (by kernel_rfl) ?_
              refine runs_v (D.sl (ints (Prod.fst (made out[Int.toNat (Prod.fst st[i])] out[Int.toNat (Prod.fst (Prod.snd st[i]))] (Prod.snd (Prod.snd st[i])), (0 : Int)))) none) (by kernel_rfl) (by kernel_rfl) ?_
              refine runs_ve (D.int IntKind.i64 (Prod.snd (made out[Int.toNat (Prod.fst st[i])] out[Int.toNat (Prod.fst (Prod.snd st[i]))] (Prod.snd (Prod.snd st[i])), (0 : Int)))) (.int IntKind.i64 ((0 : Int))) (by simp only [ints, eInt, rows, eInts, bools, eBool, trips, eTrip, List.length_map]) (by kernel_rfl) (by kernel_rfl) ?_
              refine runs_assign0 (D.sl (ints (Prod.fst (made out[Int.toNat (Prod.fst st[i])] out[Int.toNat (Prod.fst (Prod.snd st[i]))] (Prod.snd (Prod.snd st[i])), (0 : Int)))) none) (by kernel_rfl) (by kernel_rfl) (by kernel_rfl) ?_
              refine runs_assign0 (D.int IntKind.i64 (0 : Int)) (by kernel_rfl) (by kernel_rfl) (by kernel_rfl) ?_
              refine k_done ?_
              refine k_skip_seq ?_
              refine k_seq ?_
              refine k_seq ?_
              refine runs_v (D.int IntKind.i64 (0 : Int)) (by kernel_rfl) (by kernel_rfl) ?_
              refine runs_v (D.bool false) (by kernel_rfl) (by kernel_rfl) ?_
              refine k_done ?_
              refine k_skip_seq ?_
              refine k_cond_f (by kernel_rfl) ?_
              refine k_skip_seq ?_
              refine runs_steal (D.sl (rows out) (some (34 : Nat))) (by kernel_rfl) (by kernel_rfl) ?_
              refine runs_v (D.sl (ints (Prod.fst (made out[Int.toNat (Prod.fst st[i])] out[Int.toNat (Prod.fst (Prod.snd st[i]))] (Prod.snd (Prod.snd st[i])), (0 : Int)))) none) (by kernel_rfl) (by kernel_rfl) ?_
              refine runs_v (D.sl [[D.sl (ints (Prod.fst (made out[Int.toNat (Prod.fst st[i])] out[Int.toNat (Prod.fst (Prod.snd st[i]))] (Prod.snd (Prod.snd st[i])), (0 : Int)))) none]] (some (34 : Nat))) (by kernel_rfl) (by kernel_rfl) ?_
              refine runs_append (rows out) ([[D.sl (ints (Prod.fst (made out[Int.toNat (Prod.fst st[i])] out[Int.toNat (Prod.fst (Prod.snd st[i]))] (Prod.snd (Prod.snd st[i])), (0 : Int)))) none]]) (rows (out ++ [Prod.fst (made out[Int.toNat (Prod.fst st[i])] out[Int.toNat (Prod.fst (Prod.snd st[i]))] (Prod.snd (Prod.snd st[i])), (0 : Int))])) (by kernel_rfl) (by kernel_rfl) (by kernel_rfl) (by kernel_rfl) (by simp [ints, eInt, rows, eInts, bools, eBool, trips, eTrip, room]; omega) (by simp [ints, eInt, rows, eInts, bools, eBool, trips, eTrip]) ?_
              refine runs_assign (D.sl (rows (out ++ [Prod.fst (made out[Int.toNat (Prod.fst st[i])] out[Int.toNat (Prod.fst (Prod.snd st[i]))] (Prod.snd (Prod.snd st[i])), (0 : Int))])) (some (34 : Nat))) (by kernel_rfl) (by kernel_rfl) ?_
              refine k_done ?_
              refine k_skip_block ?_
              refine k_skip_seq ?_
              refine runs_v (D.int IntKind.i64 (↑i : Int)) (by kernel_rfl) (by kernel_rfl) ?_
              refine runs_ve (D.int IntKind.i64 (IntKind.wrap IntKind.i64 ((↑i : Int) + (1 : Int)))) (.int IntKind.i64 ((i + 1 : Nat) : Int)) (congrArg (D.int IntKind.i64) (show IntKind.wrap IntKind.i64 ((↑i : Int) + (1 : Int)) = ((i + 1 : Nat) : Int) by rw [IntKind.wrap_i64] <;> omega)) (by kernel_rfl) (by kernel_rfl) ?_
              refine runs_assign0 (D.int IntKind.i64 (↑(i + (1 : Nat)) : Int)) (by kernel_rfl) (by kernel_rfl) (by kernel_rfl) ?_
              refine k_done ?_
              refine k_skip_back ?_
              refine ⟨(i + 1, out ++ [made (getC out st[i].1) (getC out st[i].2.1) st[i].2.2]), ⟨hlt, by simp; omega, small_step hL hsm ha hb, hall⟩, by simp only []; omega, by rw [← e1, ← e2]; kernel_rfl, rfl⟩
            · rw [if_neg (fun h => hm h.2)] at hall
              have hr : makeR (getC out st[i].1) (getC out st[i].2.1) st[i].2.2 = ([], 50) := if_neg hm
              rw [e1, e2, hr, ← e1, ← e2] at hmk
              refine k_seq ?_
              refine k_seq ?_
              refine runs_v (D.int IntKind.i64 (↑i : Int)) (by kernel_rfl) (by kernel_rfl) ?_
              refine runs_v (D.sl (trips st) none) (by kernel_rfl) (by kernel_rfl) ?_
              refine runs_ve (D.int IntKind.i64 (↑(List.length (trips st)) : Int)) (.int IntKind.i64 ((↑(List.length st) : Int))) (by simp only [ints, eInt, rows, eInts, bools, eBool, trips, eTrip, List.length_map]) (by kernel_rfl) (by kernel_rfl) ?_
              refine runs_v (D.bool (decide ((↑i : Int) < (↑(List.length st) : Int)))) (by kernel_rfl) (by kernel_rfl) ?_
              refine k_done ?_
              refine k_skip_seq ?_
              refine runs_know 17 (d := .bool (decide ((↑i : Int) < (↑(List.length st) : Int)))) (d' := .bool true) (by kernel_rfl) (congrArg D.bool (show (decide ((↑i : Int) < (↑(List.length st) : Int))) = true from (decide_eq_true (by omega)))) ?_
              refine k_cond_t (by kernel_rfl) ?_
              refine k_skip_seq ?_
              refine k_seq ?_
              refine k_block ?_
              refine k_seq ?_
              refine runs_v (D.sl (trips st) none) (by kernel_rfl) (by kernel_rfl) ?_
              refine runs_v (D.int IntKind.i64 (↑i : Int)) (by kernel_rfl) (by kernel_rfl) ?_
              refine runs_index (st) (eTrip) (o := none) (kd := IntKind.i64) (i) (by kernel_rfl) (by kernel_rfl) (by kernel_rfl) (by assumption) (by kernel_rfl) ?_
              refine runs_v (D.agg [D.int IntKind.i64 (Prod.fst st[i]), D.int IntKind.i64 (Prod.fst (Prod.snd st[i])), D.int IntKind.i64 (Prod.snd (Prod.snd st[i]))]) (by kernel_rfl) (by kernel_rfl) ?_
              refine runs_gf (D.lptr (8 : Nat) (0 : Nat)) (σ) (by kernel_rfl) (by kernel_rfl) ?_
              refine runs_gf (D.junk) (σ) (by kernel_rfl) (by kernel_rfl) ?_
              refine k_done ?_
              refine k_skip_seq ?_
              refine k_seq ?_
              refine k_seq ?_
              refine runs_v (D.lptr (8 : Nat) (0 : Nat)) (by kernel_rfl) (by kernel_rfl) ?_
              refine runs_v (D.int IntKind.i64 (Prod.fst st[i])) (by kernel_rfl) (by kernel_rfl) ?_
              refine runs_v (D.bool (decide (Prod.fst st[i] < (0 : Int)))) (by kernel_rfl) (by kernel_rfl) ?_
              refine runs_v (D.bool (decide (Prod.fst st[i] < (0 : Int)))) (by kernel_rfl) (by kernel_rfl) ?_
              refine runs_know 27 (d := .bool (decide (Prod.fst st[i] < (0 : Int)))) (d' := .bool false) (by kernel_rfl) (congrArg D.bool (show (decide (Prod.fst st[i] < (0 : Int))) = false from (decide_eq_false (by omega)))) ?_
              refine runs_v (D.lptr (8 : Nat) (1 : Nat)) (by kernel_rfl) (by kernel_rfl) ?_
              refine runs_v (D.int IntKind.i64 (Prod.fst (Prod.snd st[i]))) (by kernel_rfl) (by kernel_rfl) ?_
              refine runs_v (D.bool (decide (Prod.fst (Prod.snd st[i]) < (0 : Int)))) (by kernel_rfl) (by kernel_rfl) ?_
              refine runs_v (D.bool (decide (Prod.fst (Prod.snd st[i]) < (0 : Int)))) (by kernel_rfl) (by kernel_rfl) ?_
              refine runs_v (D.bool (decide (Prod.fst (Prod.snd st[i]) < (0 : Int)))) (by kernel_rfl) (by kernel_rfl) ?_
              refine runs_know 32 (d := .bool (decide (Prod.fst (Prod.snd st[i]) < (0 : Int)))) (d' := .bool false) (by kernel_rfl) (congrArg D.bool (show (decide (Prod.fst (Prod.snd st[i]) < (0 : Int))) = false from (decide_eq_false (by omega)))) ?_
              refine runs_v (D.lptr (8 : Nat) (0 : Nat)) (by kernel_rfl) (by kernel_rfl) ?_
              refine runs_v (D.int IntKind.i64 (Prod.fst st[i])) (by kernel_rfl) (by kernel_rfl) ?_
              refine runs_v (D.sl (rows out) none) (by kernel_rfl) (by kernel_rfl) ?_
              refine runs_ve (D.int IntKind.i64 (↑(List.length (rows out)) : Int)) (.int IntKind.i64 ((↑(List.length out) : Int))) (by simp only [ints, eInt, rows, eInts, bools, eBool, trips, eTrip, List.length_map]) (by kernel_rfl) (by kernel_rfl) ?_
              refine runs_v (D.bool (decide (Prod.fst st[i] ≥ (↑(List.length out) : Int)))) (by kernel_rfl) (by kernel_rfl) ?_
              refine runs_v (D.bool (decide (Prod.fst st[i] ≥ (↑(List.length out) : Int)))) (by kernel_rfl) (by kernel_rfl) ?_
              refine runs_v (D.bool (decide (Prod.fst st[i] ≥ (↑(List.length out) : Int)))) (by kernel_rfl) (by kernel_rfl) ?_
              refine runs_know 39 (d := .bool (decide (Prod.fst st[i] ≥ (↑(List.length out) : Int)))) (d' := .bool false) (by kernel_rfl) (congrArg D.bool (show (decide (Prod.fst st[i] ≥ (↑(List.length out) : Int))) = false from (decide_eq_false (by omega)))) ?_
              refine runs_v (D.lptr (8 : Nat) (1 : Nat)) (by kernel_rfl) (by kernel_rfl) ?_
              refine runs_v (D.int IntKind.i64 (Prod.fst (Prod.snd st[i]))) (by kernel_rfl) (by kernel_rfl) ?_
              refine runs_v (D.sl (rows out) none) (by kernel_rfl) (by kernel_rfl) ?_
              refine runs_ve (D.int IntKind.i64 (↑(List.length (rows out)) : Int)) (.int IntKind.i64 ((↑(List.length out) : Int))) (by simp only [ints, eInt, rows, eInts, bools, eBool, trips, eTrip, List.length_map]) (by kernel_rfl) (by kernel_rfl) ?_
              refine runs_v (D.bool (decide (Prod.fst (Prod.snd st[i]) ≥ (↑(List.length out) : Int)))) (by kernel_rfl) (by kernel_rfl) ?_
              refine runs_v (D.bool (decide (Prod.fst (Prod.snd st[i]) ≥ (↑(List.length out) : Int)))) (by kernel_rfl) (by kernel_rfl) ?_
              refine k_done ?_
              refine k_skip_seq ?_
              refine runs_know 45 (d := .bool (decide (Prod.fst (Prod.snd st[i]) ≥ (↑(List.length out) : Int)))) (d' := .bool false) (by kernel_rfl) (congrArg D.bool (show (decide (Prod.fst (Prod.snd st[i]) ≥ (↑(List.length out) : Int))) = false from (decide_eq_false (by omega)))) ?_
              refine k_cond_f (by kernel_rfl) ?_
              refine k_skip_seq ?_
              refine k_seq ?_
              refine runs_v (D.sl (rows out) none) (by kernel_rfl) (by kernel_rfl) ?_
              refine runs_v (D.lptr (8 : Nat) (0 : Nat)) (by kernel_rfl) (by kernel_rfl) ?_
              refine runs_v (D.int IntKind.i64 (Prod.fst st[i])) (by kernel_rfl) (by kernel_rfl) ?_
              refine runs_indexI (out) (eInts) (o := none) (kd := IntKind.i64) (Prod.fst st[i]) (by kernel_rfl) (by kernel_rfl) (by kernel_rfl) (by omega) (by omega) (by kernel_rfl) ?_
              refine runs_v (D.sl (ints out[Int.toNat (Prod.fst st[i])]) none) (by kernel_rfl) (by kernel_rfl) ?_
              refine runs_v (D.sl (rows out) none) (by kernel_rfl) (by kernel_rfl) ?_
              refine runs_v (D.lptr (8 : Nat) (1 : Nat)) (by kernel_rfl) (by kernel_rfl) ?_
              refine runs_v (D.int IntKind.i64 (Prod.fst (Prod.snd st[i]))) (by kernel_rfl) (by kernel_rfl) ?_
              refine runs_indexI (out) (eInts) (o := none) (kd := IntKind.i64) (Prod.fst (Prod.snd st[i])) (by kernel_rfl) (by kernel_rfl) (by kernel_rfl) (by omega) (by omega) (by kernel_rfl) ?_
              refine runs_v (D.sl (ints out[Int.toNat (Prod.fst (Prod.snd st[i]))]) none) (by kernel_rfl) (by kernel_rfl) ?_
              refine runs_v (D.lptr (8 : Nat) (2 : Nat)) (by kernel_rfl) (by kernel_rfl) ?_
              refine runs_v (D.int IntKind.i64 (Prod.snd (Prod.snd st[i]))) (by kernel_rfl) (by kernel_rfl) ?_
              refine runs_call ([D.sl (ints out[Int.toNat (Prod.fst st[i])]) none, D.sl (ints out[Int.toNat (Prod.fst (Prod.snd st[i]))]) none, D.int IntKind.i64 (Prod.snd (Prod.snd st[i]))]) (by kernel_rfl) (by kernel_rfl) (by kernel_rfl) (by kernel_rfl) (hmk) (by kernel_rfl) ?_
              refine runs_v (D.tup [D.sl [] none, D.int IntKind.i64 (50 : Int)]) (by kernel_rfl) (by kernel_rfl) ?_
              refine runs_v (D.sl [] none) (by kernel_rfl) (by kernel_rfl) ?_
              refine runs_v (D.int IntKind.i64 (50 : Int)) (by kernel_rfl) (by kernel_rfl) ?_
              refine runs_assign0 (D.sl [] none) (by kernel_rfl) (by kernel_rfl) (by kernel_rfl) ?_
              refine runs_assign0 (D.int IntKind.i64 (50 : Int)) (by kernel_rfl) (by kernel_rfl) (by kernel_rfl) ?_
              refine k_done ?_
              refine k_skip_seq ?_
              refine k_seq ?_
              refine k_seq ?_
              refine runs_v (D.int IntKind.i64 (50 : Int)) (by kernel_rfl) (by kernel_rfl) ?_
              refine runs_v (D.bool true) (by kernel_rfl) (by kernel_rfl) ?_
              refine k_done ?_
              refine k_skip_seq ?_
              refine k_cond_t (by kernel_rfl) ?_
              refine k_seq ?_
              refine runs_v (D.int IntKind.i64 (50 : Int)) (by kernel_rfl) (by kernel_rfl) ?_
              refine runs_v (D.sl [] (some (34 : Nat))) (by kernel_rfl) (by kernel_rfl) ?_
              refine runs_assign0 (D.int IntKind.i64 (50 : Int)) (by kernel_rfl) (by kernel_rfl) (by kernel_rfl) ?_
              refine k_done ?_
              refine k_skip_seq ?_
              refine k_ret ?_
              have hA : allR l st = ([], 50) := by unfold allR; rw [hall]
              rw [hA]
              exact ⟨.inr rfl, by kernel_rfl, by kernel_rfl⟩
          · rw [if_neg (fun h => g4 h.1.2.2.2)] at hall
            have hA : allR l st = ([], 50) := by unfold allR; rw [hall]
            rw [hA]
            refine k_seq ?_
            refine k_seq ?_
            refine runs_v (D.int IntKind.i64 (↑i : Int)) (by kernel_rfl) (by kernel_rfl) ?_
            refine runs_v (D.sl (trips st) none) (by kernel_rfl) (by kernel_rfl) ?_
            refine runs_ve (D.int IntKind.i64 (↑(List.length (trips st)) : Int)) (.int IntKind.i64 ((↑(List.length st) : Int))) (by simp only [ints, eInt, rows, eInts, bools, eBool, trips, eTrip, List.length_map]) (by kernel_rfl) (by kernel_rfl) ?_
            refine runs_v (D.bool (decide ((↑i : Int) < (↑(List.length st) : Int)))) (by kernel_rfl) (by kernel_rfl) ?_
            refine k_done ?_
            refine k_skip_seq ?_
            refine runs_know 17 (d := .bool (decide ((↑i : Int) < (↑(List.length st) : Int)))) (d' := .bool true) (by kernel_rfl) (congrArg D.bool (show (decide ((↑i : Int) < (↑(List.length st) : Int))) = true from (decide_eq_true (by omega)))) ?_
            refine k_cond_t (by kernel_rfl) ?_
            refine k_skip_seq ?_
            refine k_seq ?_
            refine k_block ?_
            refine k_seq ?_
            refine runs_v (D.sl (trips st) none) (by kernel_rfl) (by kernel_rfl) ?_
            refine runs_v (D.int IntKind.i64 (↑i : Int)) (by kernel_rfl) (by kernel_rfl) ?_
            refine runs_index (st) (eTrip) (o := none) (kd := IntKind.i64) (i) (by kernel_rfl) (by kernel_rfl) (by kernel_rfl) (by assumption) (by kernel_rfl) ?_
            refine runs_v (D.agg [D.int IntKind.i64 (Prod.fst st[i]), D.int IntKind.i64 (Prod.fst (Prod.snd st[i])), D.int IntKind.i64 (Prod.snd (Prod.snd st[i]))]) (by kernel_rfl) (by kernel_rfl) ?_
            refine runs_gf (D.lptr (8 : Nat) (0 : Nat)) (σ) (by kernel_rfl) (by kernel_rfl) ?_
            refine runs_gf (D.junk) (σ) (by kernel_rfl) (by kernel_rfl) ?_
            refine k_done ?_
            refine k_skip_seq ?_
            refine k_seq ?_
            refine k_seq ?_
            refine runs_v (D.lptr (8 : Nat) (0 : Nat)) (by kernel_rfl) (by kernel_rfl) ?_
            refine runs_v (D.int IntKind.i64 (Prod.fst st[i])) (by kernel_rfl) (by kernel_rfl) ?_
            refine runs_v (D.bool (decide (Prod.fst st[i] < (0 : Int)))) (by kernel_rfl) (by kernel_rfl) ?_
            refine runs_v (D.bool (decide (Prod.fst st[i] < (0 : Int)))) (by kernel_rfl) (by kernel_rfl) ?_
            refine runs_know 27 (d := .bool (decide (Prod.fst st[i] < (0 : Int)))) (d' := .bool false) (by kernel_rfl) (congrArg D.bool (show (decide (Prod.fst st[i] < (0 : Int))) = false from (decide_eq_false (by omega)))) ?_
            refine runs_v (D.lptr (8 : Nat) (1 : Nat)) (by kernel_rfl) (by kernel_rfl) ?_
            refine runs_v (D.int IntKind.i64 (Prod.fst (Prod.snd st[i]))) (by kernel_rfl) (by kernel_rfl) ?_
            refine runs_v (D.bool (decide (Prod.fst (Prod.snd st[i]) < (0 : Int)))) (by kernel_rfl) (by kernel_rfl) ?_
            refine runs_v (D.bool (decide (Prod.fst (Prod.snd st[i]) < (0 : Int)))) (by kernel_rfl) (by kernel_rfl) ?_
            refine runs_v (D.bool (decide (Prod.fst (Prod.snd st[i]) < (0 : Int)))) (by kernel_rfl) (by kernel_rfl) ?_
            refine runs_know 32 (d := .bool (decide (Prod.fst (Prod.snd st[i]) < (0 : Int)))) (d' := .bool false) (by kernel_rfl) (congrArg D.bool (show (decide (Prod.fst (Prod.snd st[i]) < (0 : Int))) = false from (decide_eq_false (by omega)))) ?_
            refine runs_v (D.lptr (8 : Nat) (0 : Nat)) (by kernel_rfl) (by kernel_rfl) ?_
            refine runs_v (D.int IntKind.i64 (Prod.fst st[i])) (by kernel_rfl) (by kernel_rfl) ?_
            refine runs_v (D.sl (rows out) none) (by kernel_rfl) (by kernel_rfl) ?_
            refine runs_ve (D.int IntKind.i64 (↑(List.length (rows out)) : Int)) (.int IntKind.i64 ((↑(List.length out) : Int))) (by simp only [ints, eInt, rows, eInts, bools, eBool, trips, eTrip, List.length_map]) (by kernel_rfl) (by kernel_rfl) ?_
            refine runs_v (D.bool (decide (Prod.fst st[i] ≥ (↑(List.length out) : Int)))) (by kernel_rfl) (by kernel_rfl) ?_
            refine runs_v (D.bool (decide (Prod.fst st[i] ≥ (↑(List.length out) : Int)))) (by kernel_rfl) (by kernel_rfl) ?_
            refine runs_v (D.bool (decide (Prod.fst st[i] ≥ (↑(List.length out) : Int)))) (by kernel_rfl) (by kernel_rfl) ?_
            refine runs_know 39 (d := .bool (decide (Prod.fst st[i] ≥ (↑(List.length out) : Int)))) (d' := .bool false) (by kernel_rfl) (congrArg D.bool (show (decide (Prod.fst st[i] ≥ (↑(List.length out) : Int))) = false from (decide_eq_false (by omega)))) ?_
            refine runs_v (D.lptr (8 : Nat) (1 : Nat)) (by kernel_rfl) (by kernel_rfl) ?_
            refine runs_v (D.int IntKind.i64 (Prod.fst (Prod.snd st[i]))) (by kernel_rfl) (by kernel_rfl) ?_
            refine runs_v (D.sl (rows out) none) (by kernel_rfl) (by kernel_rfl) ?_
            refine runs_ve (D.int IntKind.i64 (↑(List.length (rows out)) : Int)) (.int IntKind.i64 ((↑(List.length out) : Int))) (by simp only [ints, eInt, rows, eInts, bools, eBool, trips, eTrip, List.length_map]) (by kernel_rfl) (by kernel_rfl) ?_
            refine runs_v (D.bool (decide (Prod.fst (Prod.snd st[i]) ≥ (↑(List.length out) : Int)))) (by kernel_rfl) (by kernel_rfl) ?_
            refine runs_v (D.bool (decide (Prod.fst (Prod.snd st[i]) ≥ (↑(List.length out) : Int)))) (by kernel_rfl) (by kernel_rfl) ?_
            refine k_done ?_
            refine k_skip_seq ?_
            refine runs_know 45 (d := .bool (decide (Prod.fst (Prod.snd st[i]) ≥ (↑(List.length out) : Int)))) (d' := .bool true) (by kernel_rfl) (congrArg D.bool (show (decide (Prod.fst (Prod.snd st[i]) ≥ (↑(List.length out) : Int))) = true from (decide_eq_true (by omega)))) ?_
            refine k_cond_t (by kernel_rfl) ?_
            refine k_seq ?_
            refine runs_v (D.sl [] (some (34 : Nat))) (by kernel_rfl) (by kernel_rfl) ?_
            refine runs_v (D.int IntKind.i64 (50 : Int)) (by kernel_rfl) (by kernel_rfl) ?_
            refine k_done ?_
            refine k_skip_seq ?_
            refine k_ret ?_
            exact ⟨.inr rfl, by kernel_rfl, by kernel_rfl⟩
        · rw [if_neg (fun h => g3 h.1.2.1)] at hall
          have hA : allR l st = ([], 50) := by unfold allR; rw [hall]
          rw [hA]
          refine k_seq ?_
          refine k_seq ?_
          refine runs_v (D.int IntKind.i64 (↑i : Int)) (by kernel_rfl) (by kernel_rfl) ?_
          refine runs_v (D.sl (trips st) none) (by kernel_rfl) (by kernel_rfl) ?_
          refine runs_ve (D.int IntKind.i64 (↑(List.length (trips st)) : Int)) (.int IntKind.i64 ((↑(List.length st) : Int))) (by simp only [ints, eInt, rows, eInts, bools, eBool, trips, eTrip, List.length_map]) (by kernel_rfl) (by kernel_rfl) ?_
          refine runs_v (D.bool (decide ((↑i : Int) < (↑(List.length st) : Int)))) (by kernel_rfl) (by kernel_rfl) ?_
          refine k_done ?_
          refine k_skip_seq ?_
          refine runs_know 17 (d := .bool (decide ((↑i : Int) < (↑(List.length st) : Int)))) (d' := .bool true) (by kernel_rfl) (congrArg D.bool (show (decide ((↑i : Int) < (↑(List.length st) : Int))) = true from (decide_eq_true (by omega)))) ?_
          refine k_cond_t (by kernel_rfl) ?_
          refine k_skip_seq ?_
          refine k_seq ?_
          refine k_block ?_
          refine k_seq ?_
          refine runs_v (D.sl (trips st) none) (by kernel_rfl) (by kernel_rfl) ?_
          refine runs_v (D.int IntKind.i64 (↑i : Int)) (by kernel_rfl) (by kernel_rfl) ?_
          refine runs_index (st) (eTrip) (o := none) (kd := IntKind.i64) (i) (by kernel_rfl) (by kernel_rfl) (by kernel_rfl) (by assumption) (by kernel_rfl) ?_
          refine runs_v (D.agg [D.int IntKind.i64 (Prod.fst st[i]), D.int IntKind.i64 (Prod.fst (Prod.snd st[i])), D.int IntKind.i64 (Prod.snd (Prod.snd st[i]))]) (by kernel_rfl) (by kernel_rfl) ?_
          refine runs_gf (D.lptr (8 : Nat) (0 : Nat)) (σ) (by kernel_rfl) (by kernel_rfl) ?_
          refine runs_gf (D.junk) (σ) (by kernel_rfl) (by kernel_rfl) ?_
          refine k_done ?_
          refine k_skip_seq ?_
          refine k_seq ?_
          refine k_seq ?_
          refine runs_v (D.lptr (8 : Nat) (0 : Nat)) (by kernel_rfl) (by kernel_rfl) ?_
          refine runs_v (D.int IntKind.i64 (Prod.fst st[i])) (by kernel_rfl) (by kernel_rfl) ?_
          refine runs_v (D.bool (decide (Prod.fst st[i] < (0 : Int)))) (by kernel_rfl) (by kernel_rfl) ?_
          refine runs_v (D.bool (decide (Prod.fst st[i] < (0 : Int)))) (by kernel_rfl) (by kernel_rfl) ?_
          refine runs_know 27 (d := .bool (decide (Prod.fst st[i] < (0 : Int)))) (d' := .bool false) (by kernel_rfl) (congrArg D.bool (show (decide (Prod.fst st[i] < (0 : Int))) = false from (decide_eq_false (by omega)))) ?_
          refine runs_v (D.lptr (8 : Nat) (1 : Nat)) (by kernel_rfl) (by kernel_rfl) ?_
          refine runs_v (D.int IntKind.i64 (Prod.fst (Prod.snd st[i]))) (by kernel_rfl) (by kernel_rfl) ?_
          refine runs_v (D.bool (decide (Prod.fst (Prod.snd st[i]) < (0 : Int)))) (by kernel_rfl) (by kernel_rfl) ?_
          refine runs_v (D.bool (decide (Prod.fst (Prod.snd st[i]) < (0 : Int)))) (by kernel_rfl) (by kernel_rfl) ?_
          refine runs_v (D.bool (decide (Prod.fst (Prod.snd st[i]) < (0 : Int)))) (by kernel_rfl) (by kernel_rfl) ?_
          refine runs_know 32 (d := .bool (decide (Prod.fst (Prod.snd st[i]) < (0 : Int)))) (d' := .bool false) (by kernel_rfl) (congrArg D.bool (show (decide (Prod.fst (Prod.snd st[i]) < (0 : Int))) = false from (decide_eq_false (by omega)))) ?_
          refine runs_v (D.lptr (8 : Nat) (0 : Nat)) (by kernel_rfl) (by kernel_rfl) ?_
          refine runs_v (D.int IntKind.i64 (Prod.fst st[i])) (by kernel_rfl) (by kernel_rfl) ?_
          refine runs_v (D.sl (rows out) none) (by kernel_rfl) (by kernel_rfl) ?_
          refine runs_ve (D.int IntKind.i64 (↑(List.length (rows out)) : Int)) (.int IntKind.i64 ((↑(List.length out) : Int))) (by simp only [ints, eInt, rows, eInts, bools, eBool, trips, eTrip, List.length_map]) (by kernel_rfl) (by kernel_rfl) ?_
          refine runs_v (D.bool (decide (Prod.fst st[i] ≥ (↑(List.length out) : Int)))) (by kernel_rfl) (by kernel_rfl) ?_
          refine runs_v (D.bool (decide (Prod.fst st[i] ≥ (↑(List.length out) : Int)))) (by kernel_rfl) (by kernel_rfl) ?_
          refine runs_v (D.bool (decide (Prod.fst st[i] ≥ (↑(List.length out) : Int)))) (by kernel_rfl) (by kernel_rfl) ?_
          refine runs_know 39 (d := .bool (decide (Prod.fst st[i] ≥ (↑(List.length out) : Int)))) (d' := .bool true) (by kernel_rfl) (congrArg D.bool (show (decide (Prod.fst st[i] ≥ (↑(List.length out) : Int))) = true from (decide_eq_true (by omega)))) ?_
          refine runs_no (by kernel_rfl) ?_
          refine runs_no (by kernel_rfl) ?_
          refine runs_no (by kernel_rfl) ?_
          refine runs_no (by kernel_rfl) ?_
          refine runs_no (by kernel_rfl) ?_
          refine runs_v (D.bool true) (by kernel_rfl) (by kernel_rfl) ?_
          refine k_done ?_
          refine k_skip_seq ?_
          refine k_cond_t (by kernel_rfl) ?_
          refine k_seq ?_
          refine runs_v (D.sl [] (some (34 : Nat))) (by kernel_rfl) (by kernel_rfl) ?_
          refine runs_v (D.int IntKind.i64 (50 : Int)) (by kernel_rfl) (by kernel_rfl) ?_
          refine k_done ?_
          refine k_skip_seq ?_
          refine k_ret ?_
          exact ⟨.inr rfl, by kernel_rfl, by kernel_rfl⟩
      · rw [if_neg (fun h => g2 h.1.2.2.1)] at hall
        have hA : allR l st = ([], 50) := by unfold allR; rw [hall]
        rw [hA]
        refine k_seq ?_
        refine k_seq ?_
        refine runs_v (D.int IntKind.i64 (↑i : Int)) (by kernel_rfl) (by kernel_rfl) ?_
        refine runs_v (D.sl (trips st) none) (by kernel_rfl) (by kernel_rfl) ?_
        refine runs_ve (D.int IntKind.i64 (↑(List.length (trips st)) : Int)) (.int IntKind.i64 ((↑(List.length st) : Int))) (by simp only [ints, eInt, rows, eInts, bools, eBool, trips, eTrip, List.length_map]) (by kernel_rfl) (by kernel_rfl) ?_
        refine runs_v (D.bool (decide ((↑i : Int) < (↑(List.length st) : Int)))) (by kernel_rfl) (by kernel_rfl) ?_
        refine k_done ?_
        refine k_skip_seq ?_
        refine runs_know 17 (d := .bool (decide ((↑i : Int) < (↑(List.length st) : Int)))) (d' := .bool true) (by kernel_rfl) (congrArg D.bool (show (decide ((↑i : Int) < (↑(List.length st) : Int))) = true from (decide_eq_true (by omega)))) ?_
        refine k_cond_t (by kernel_rfl) ?_
        refine k_skip_seq ?_
        refine k_seq ?_
        refine k_block ?_
        refine k_seq ?_
        refine runs_v (D.sl (trips st) none) (by kernel_rfl) (by kernel_rfl) ?_
        refine runs_v (D.int IntKind.i64 (↑i : Int)) (by kernel_rfl) (by kernel_rfl) ?_
        refine runs_index (st) (eTrip) (o := none) (kd := IntKind.i64) (i) (by kernel_rfl) (by kernel_rfl) (by kernel_rfl) (by assumption) (by kernel_rfl) ?_
        refine runs_v (D.agg [D.int IntKind.i64 (Prod.fst st[i]), D.int IntKind.i64 (Prod.fst (Prod.snd st[i])), D.int IntKind.i64 (Prod.snd (Prod.snd st[i]))]) (by kernel_rfl) (by kernel_rfl) ?_
        refine runs_gf (D.lptr (8 : Nat) (0 : Nat)) (σ) (by kernel_rfl) (by kernel_rfl) ?_
        refine runs_gf (D.junk) (σ) (by kernel_rfl) (by kernel_rfl) ?_
        refine k_done ?_
        refine k_skip_seq ?_
        refine k_seq ?_
        refine k_seq ?_
        refine runs_v (D.lptr (8 : Nat) (0 : Nat)) (by kernel_rfl) (by kernel_rfl) ?_
        refine runs_v (D.int IntKind.i64 (Prod.fst st[i])) (by kernel_rfl) (by kernel_rfl) ?_
        refine runs_v (D.bool (decide (Prod.fst st[i] < (0 : Int)))) (by kernel_rfl) (by kernel_rfl) ?_
        refine runs_v (D.bool (decide (Prod.fst st[i] < (0 : Int)))) (by kernel_rfl) (by kernel_rfl) ?_
        refine runs_know 27 (d := .bool (decide (Prod.fst st[i] < (0 : Int)))) (d' := .bool false) (by kernel_rfl) (congrArg D.bool (show (decide (Prod.fst st[i] < (0 : Int))) = false from (decide_eq_false (by omega)))) ?_
        refine runs_v (D.lptr (8 : Nat) (1 : Nat)) (by kernel_rfl) (by kernel_rfl) ?_
        refine runs_v (D.int IntKind.i64 (Prod.fst (Prod.snd st[i]))) (by kernel_rfl) (by kernel_rfl) ?_
        refine runs_v (D.bool (decide (Prod.fst (Prod.snd st[i]) < (0 : Int)))) (by kernel_rfl) (by kernel_rfl) ?_
        refine runs_v (D.bool (decide (Prod.fst (Prod.snd st[i]) < (0 : Int)))) (by kernel_rfl) (by kernel_rfl) ?_
        refine runs_v (D.bool (decide (Prod.fst (Prod.snd st[i]) < (0 : Int)))) (by kernel_rfl) (by kernel_rfl) ?_
        refine runs_know 32 (d := .bool (decide (Prod.fst (Prod.snd st[i]) < (0 : Int)))) (d' := .bool true) (by kernel_rfl) (congrArg D.bool (show (decide (Prod.fst (Prod.snd st[i]) < (0 : Int))) = true from (decide_eq_true (by omega)))) ?_
        refine runs_no (by kernel_rfl) ?_
        refine runs_no (by kernel_rfl) ?_
        refine runs_no (by kernel_rfl) ?_
        refine runs_no (by kernel_rfl) ?_
        refine runs_no (by kernel_rfl) ?_
        refine runs_v (D.bool true) (by kernel_rfl) (by kernel_rfl) ?_
        refine runs_v (D.bool true) (by kernel_rfl) (by kernel_rfl) ?_
        refine runs_no (by kernel_rfl) ?_
        refine runs_no (by kernel_rfl) ?_
        refine runs_no (by kernel_rfl) ?_
        refine runs_no (by kernel_rfl) ?_
        refine runs_no (by kernel_rfl) ?_
        refine runs_v (D.bool true) (by kernel_rfl) (by kernel_rfl) ?_
        refine k_done ?_
        refine k_skip_seq ?_
        refine k_cond_t (by kernel_rfl) ?_
        refine k_seq ?_
        refine runs_v (D.sl [] (some (34 : Nat))) (by kernel_rfl) (by kernel_rfl) ?_
        refine runs_v (D.int IntKind.i64 (50 : Int)) (by kernel_rfl) (by kernel_rfl) ?_
        refine k_done ?_
        refine k_skip_seq ?_
        refine k_ret ?_
        exact ⟨.inr rfl, by kernel_rfl, by kernel_rfl⟩
    · rw [if_neg (fun h => g1 h.1.1)] at hall
      have hA : allR l st = ([], 50) := by unfold allR; rw [hall]
      rw [hA]
      refine k_seq ?_
      refine k_seq ?_
      refine runs_v (D.int IntKind.i64 (↑i : Int)) (by kernel_rfl) (by kernel_rfl) ?_
      refine runs_v (D.sl (trips st) none) (by kernel_rfl) (by kernel_rfl) ?_
      refine runs_ve (D.int IntKind.i64 (↑(List.length (trips st)) : Int)) (.int IntKind.i64 ((↑(List.length st) : Int))) (by simp only [ints, eInt, rows, eInts, bools, eBool, trips, eTrip, List.length_map]) (by kernel_rfl) (by kernel_rfl) ?_
      refine runs_v (D.bool (decide ((↑i : Int) < (↑(List.length st) : Int)))) (by kernel_rfl) (by kernel_rfl) ?_
      refine k_done ?_
      refine k_skip_seq ?_
      refine runs_know 17 (d := .bool (decide ((↑i : Int) < (↑(List.length st) : Int)))) (d' := .bool true) (by kernel_rfl) (congrArg D.bool (show (decide ((↑i : Int) < (↑(List.length st) : Int))) = true from (decide_eq_true (by omega)))) ?_
      refine k_cond_t (by kernel_rfl) ?_
      refine k_skip_seq ?_
      refine k_seq ?_
      refine k_block ?_
      refine k_seq ?_
      refine runs_v (D.sl (trips st) none) (by kernel_rfl) (by kernel_rfl) ?_
      refine runs_v (D.int IntKind.i64 (↑i : Int)) (by kernel_rfl) (by kernel_rfl) ?_
      refine runs_index (st) (eTrip) (o := none) (kd := IntKind.i64) (i) (by kernel_rfl) (by kernel_rfl) (by kernel_rfl) (by assumption) (by kernel_rfl) ?_
      refine runs_v (D.agg [D.int IntKind.i64 (Prod.fst st[i]), D.int IntKind.i64 (Prod.fst (Prod.snd st[i])), D.int IntKind.i64 (Prod.snd (Prod.snd st[i]))]) (by kernel_rfl) (by kernel_rfl) ?_
      refine runs_gf (D.lptr (8 : Nat) (0 : Nat)) (σ) (by kernel_rfl) (by kernel_rfl) ?_
      refine runs_gf (D.junk) (σ) (by kernel_rfl) (by kernel_rfl) ?_
      refine k_done ?_
      refine k_skip_seq ?_
      refine k_seq ?_
      refine k_seq ?_
      refine runs_v (D.lptr (8 : Nat) (0 : Nat)) (by kernel_rfl) (by kernel_rfl) ?_
      refine runs_v (D.int IntKind.i64 (Prod.fst st[i])) (by kernel_rfl) (by kernel_rfl) ?_
      refine runs_v (D.bool (decide (Prod.fst st[i] < (0 : Int)))) (by kernel_rfl) (by kernel_rfl) ?_
      refine runs_v (D.bool (decide (Prod.fst st[i] < (0 : Int)))) (by kernel_rfl) (by kernel_rfl) ?_
      refine runs_know 27 (d := .bool (decide (Prod.fst st[i] < (0 : Int)))) (d' := .bool true) (by kernel_rfl) (congrArg D.bool (show (decide (Prod.fst st[i] < (0 : Int))) = true from (decide_eq_true (by omega)))) ?_
      refine runs_no (by kernel_rfl) ?_
      refine runs_no (by kernel_rfl) ?_
      refine runs_no (by kernel_rfl) ?_
      refine runs_v (D.bool true) (by kernel_rfl) (by kernel_rfl) ?_
      refine runs_v (D.bool true) (by kernel_rfl) (by kernel_rfl) ?_
      refine runs_no (by kernel_rfl) ?_
      refine runs_no (by kernel_rfl) ?_
      refine runs_no (by kernel_rfl) ?_
      refine runs_no (by kernel_rfl) ?_
      refine runs_no (by kernel_rfl) ?_
      refine runs_v (D.bool true) (by kernel_rfl) (by kernel_rfl) ?_
      refine runs_v (D.bool true) (by kernel_rfl) (by kernel_rfl) ?_
      refine runs_no (by kernel_rfl) ?_
      refine runs_no (by kernel_rfl) ?_
      refine runs_no (by kernel_rfl) ?_
      refine runs_no (by kernel_rfl) ?_
      refine runs_no (by kernel_rfl) ?_
      refine runs_v (D.bool true) (by kernel_rfl) (by kernel_rfl) ?_
      refine k_done ?_
      refine k_skip_seq ?_
      refine k_cond_t (by kernel_rfl) ?_
      refine k_seq ?_
      refine runs_v (D.sl [] (some (34 : Nat))) (by kernel_rfl) (by kernel_rfl) ?_
      refine runs_v (D.int IntKind.i64 (50 : Int)) (by kernel_rfl) (by kernel_rfl) ?_
      refine k_done ?_
      refine k_skip_seq ?_
      refine k_ret ?_
      exact ⟨.inr rfl, by kernel_rfl, by kernel_rfl⟩
  · have hA : allR l st = (out, 0) := by
      unfold allR
      rw [hall, List.drop_of_length_le (by omega)]
      rfl
    rw [hA]
    refine k_seq ?_
    refine k_seq ?_
    refine runs_v (D.int IntKind.i64 (↑i : Int)) (by kernel_rfl) (by kernel_rfl) ?_
    refine runs_v (D.sl (trips st) none) (by kernel_rfl) (by kernel_rfl) ?_
    refine runs_ve (D.int IntKind.i64 (↑(List.length (trips st)) : Int)) (.int IntKind.i64 ((↑(List.length st) : Int))) (by simp only [ints, eInt, rows, eInts, bools, eBool, trips, eTrip, List.length_map]) (by kernel_rfl) (by kernel_rfl) ?_
    refine runs_v (D.bool (decide ((↑i : Int) < (↑(List.length st) : Int)))) (by kernel_rfl) (by kernel_rfl) ?_
    refine k_done ?_
    refine k_skip_seq ?_
    refine runs_know 17 (d := .bool (decide ((↑i : Int) < (↑(List.length st) : Int)))) (d' := .bool false) (by kernel_rfl) (congrArg D.bool (show (decide ((↑i : Int) < (↑(List.length st) : Int))) = false from (decide_eq_false (by omega)))) ?_
    refine k_cond_f (by kernel_rfl) ?_
    refine k_exit_seq ?_
    refine k_exit_back ?_
    refine k_exit_hit rfl ?_
    refine k_skip_seq ?_
    refine k_seq ?_
    refine runs_v (D.sl (rows out) none) (by kernel_rfl) (by kernel_rfl) ?_
    refine runs_assign0 (D.sl (rows out) none) (by kernel_rfl) (by kernel_rfl) (by kernel_rfl) ?_
    refine runs_v (D.int IntKind.i64 (0 : Int)) (by kernel_rfl) (by kernel_rfl) ?_
    refine k_done ?_
    refine k_skip_seq ?_
    refine k_ret ?_
    exact ⟨.inr rfl, by kernel_rfl, by kernel_rfl⟩
end Go.Abs.B
