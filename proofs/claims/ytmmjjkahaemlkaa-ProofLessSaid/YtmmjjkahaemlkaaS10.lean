import Derived.Test.YtmmjjkahaemlkaaKont
import Derived.Test.YtmmjjkahaemlkaaQ7
set_option linter.unusedVariables false
set_option linter.unusedSimpArgs false
/-
  The given program's All and Check of proofs, of many steps.
-/
namespace Go.Abs.B
open Go Go.Abs
set_option maxRecDepth 8000
attribute [local irreducible] callN runC evalOp

def smallW (L : List Int) (out : List (List Int)) : Prop := ∀ c ∈ out, c.length ≤ 732 ∧ ∀ v ∈ c, v ∈ L
theorem smallW_start (l : List (List Int)) (h1 : l.length ≤ 61) (h2 : ∀ c ∈ l, c.length ≤ 12) : smallW l.flatten l ∧ l.flatten.length ≤ 732 := by
  refine ⟨fun c hc => ⟨?_, fun v hv => List.mem_flatten.2 ⟨c, hc, hv⟩⟩, ?_⟩
  · have := h2 c hc
    omega
  · have := flat_len 12 l h2
    omega
theorem smallW_step {L : List Int} {out : List (List Int)} {a b : List Int} {p : Int} (hL : L.length ≤ 732) (h : smallW L out) (ha : a ∈ out) (hb : b ∈ out) : smallW L (out ++ [made a b p]) := by
  intro c hc
  rcases List.mem_append.1 hc with hc | hc
  · exact h c hc
  · simp only [List.mem_singleton] at hc
    subst hc
    have hs : ∀ v ∈ made a b p, v ∈ L := fun v hv => by
      rcases made_mem hv with hv | hv
      · exact (h a ha).2 v hv
      · exact (h b hb).2 v hv
    exact ⟨by have := nodup_len _ L (made_nodup a b p) hs; omega, hs⟩

theorem progAllB_ok (n : Nat) (l : List (List Int)) (st : List Step3) (o1 o2 : Option Nat) (σ : St) (hn : 500000 < n) (h1 : l.length ≤ 61) (h2 : ∀ c ∈ l, c.length ≤ 12) (h3 : st.length ≤ 300000) :
    callN T (n + 4) 14 [.sl (rows l) o1, .sl (trips st) o2] σ = some (.tup [.sl (rows (allR l st).1) none, .int .i64 (allR l st).2], σ) := by
  obtain ⟨hs0, hL⟩ := smallW_start l h1 h2
  refine call_of (m := m14) rfl rfl (by decide) (k_start ?_)
  unfold m14
  refine k_seq ?_
  refine rv (D.sl [] (some (34 : Nat))) ?_
  refine rv (D.int IntKind.i64 (0 : Int)) ?_
  refine k_done (k_skip_seq (k_seq ?_))
  refine rv (D.sl [] (some (34 : Nat))) ?_
  refine k_done (k_skip_seq (k_seq (k_seq ?_)))
  refine rv (D.sl (rows l) none) ?_
  refine rve (D.int IntKind.i64 (↑(List.length (rows l)) : Int)) (.int IntKind.i64 ((↑(List.length l) : Int))) (by simp only [ints, eInt, rows, eInts, bools, eBool, trips, eTrip, i8s, List.length_map]) ?_
  refine rv (D.int IntKind.i64 (0 : Int)) ?_
  refine k_done (k_skip_seq (k_block ?_))
  refine k_loop (fun i : Nat => f14 l st (l.take i) i) (fun _ => σ) (fun i => i ≤ l.length) (fun i => l.length - i) 0 (by kernel_rfl) rfl (by simp) (by intro s hs; omega) ?_
  intro i hi
  have hl : (l.take i).length = i := by simp; omega
  by_cases hlt : i < l.length
  · have ht := List.take_succ_eq_append_getElem hlt
    have hc12 := h2 l[i] (List.getElem_mem hlt)
    generalize hout : l.take i = out at *
    refine k_seq ?_
    refine rv (D.bool (decide ((↑i : Int) < (↑(List.length l) : Int)))) ?_
    refine k_done (k_skip_seq (k_seq ?_))
    refine rkn 17 (decide ((↑i : Int) < (↑(List.length l) : Int))) true (decide_eq_true (by omega)) ?_
    refine kct (k_skip_seq (k_seq (k_block (k_seq ?_))))
    refine runs_index (l) (eInts) (o := none) (kd := IntKind.i64) (i) (by kernel_rfl) (by kernel_rfl) (by kernel_rfl) (by assumption) (by kernel_rfl) ?_
    refine rv (D.sl (ints l[i]) none) ?_
    refine ra0 (D.sl (ints l[i]) none) ?_
    refine k_done (k_skip_seq ?_)
    refine runs_steal (D.sl (rows out) (some (34 : Nat))) (by kernel_rfl) (by kernel_rfl) ?_
    refine rv (D.sl (ints l[i]) none) ?_
    refine runs_call ([D.sl (ints l[i]) none]) (by kernel_rfl) (by kernel_rfl) (by kernel_rfl) (by kernel_rfl) (clone_ok _ _ _ _ (by omega)) (by kernel_rfl) ?_
    refine rv (D.sl [[D.sl (ints l[i]) none]] (some (34 : Nat))) ?_
    refine runs_append (rows out) ([[D.sl (ints l[i]) none]]) (rows (out ++ [l[i]])) (by kernel_rfl) (by kernel_rfl) (by kernel_rfl) (by kernel_rfl) (by simp [ints, eInt, rows, eInts, bools, eBool, trips, eTrip, i8s, room]; omega) (by simp [ints, eInt, rows, eInts, bools, eBool, trips, eTrip, i8s]) ?_
    refine runs_assign (D.sl (rows (out ++ [l[i]])) (some (34 : Nat))) (by kernel_rfl) (by kernel_rfl) ?_
    refine k_done (k_skip_block (k_skip_seq ?_))
    refine rve (D.int IntKind.i64 (IntKind.wrap IntKind.i64 ((↑i : Int) + (1 : Int)))) (.int IntKind.i64 ((i + 1 : Nat) : Int)) (congrArg (D.int IntKind.i64) (show IntKind.wrap IntKind.i64 ((↑i : Int) + (1 : Int)) = ((i + 1 : Nat) : Int) from wrap_eq (by omega) (by omega) (by omega))) ?_
    refine rv (D.int IntKind.i64 (↑(i + (1 : Nat)) : Int)) ?_
    refine k_done (k_skip_back ?_)
    exact ⟨i + 1, hlt, by omega, by rw [ht]; kernel_rfl, rfl⟩
  rw [List.take_of_length_le (by omega)]
  have hii : i = l.length := by omega
  subst hii
  refine k_seq ?_
  refine rv (D.bool (decide ((↑(List.length l) : Int) < (↑(List.length l) : Int)))) ?_
  refine k_done (k_skip_seq (k_seq ?_))
  refine rkn 17 (decide ((↑(List.length l) : Int) < (↑(List.length l) : Int))) false (decide_eq_false (by omega)) ?_
  refine kcf (k_exit_seq (k_exit_back (k_exit_hit rfl (k_skip_seq (k_seq (k_seq ?_))))))
  refine rv (D.sl (trips st) none) ?_
  refine rve (D.int IntKind.i64 (↑(List.length (trips st)) : Int)) (.int IntKind.i64 ((↑(List.length st) : Int))) (by simp only [ints, eInt, rows, eInts, bools, eBool, trips, eTrip, i8s, List.length_map]) ?_
  refine rv (D.int IntKind.i64 (0 : Int)) ?_
  refine k_done (k_skip_seq (k_block ?_))
  refine k_loop (S := Nat × List (List Int)) (fun s => f14b l st s.2 s.1) (fun _ => σ) (fun s => s.1 ≤ st.length ∧ s.2.length = l.length + s.1 ∧ smallW l.flatten s.2 ∧ allF l st = allF s.2 (st.drop s.1)) (fun s => st.length - s.1) (0, l) (by kernel_rfl) rfl ⟨by simp, by simp, hs0, rfl⟩ (by intro s hs; omega) ?_
  rintro ⟨i, out⟩ ⟨hi, hlen, hsm, hall⟩
  simp only [] at hi hlen hsm hall
  by_cases hlt : i < st.length
  · rw [drop_at hlt] at hall
    simp only [allF] at hall
    have bad : allF l st = none → allR l st = ([], 50) := fun h => by unfold allR; rw [h]
    by_cases g1 : 0 ≤ st[i].1
    · by_cases g3 : st[i].1 < out.length
      · by_cases g2 : 0 ≤ st[i].2.1
        · by_cases g4 : st[i].2.1 < out.length
          · have hcan : can out st[i] := ⟨g1, g3, g2, g4⟩
            have ha := getC_mem g1 g3
            have hb := getC_mem g2 g4
            have hla := (hsm _ ha).1
            have hlb := (hsm _ hb).1
            obtain ⟨σm, hmk⟩ := make_ok (n) (getC out st[i].1) (getC out st[i].2.1) st[i].2.2 none none (by omega) (by omega)
            have e1 : out[st[i].1.toNat]'(by omega) = getC out st[i].1 := getC_eq (by omega)
            have e2 : out[st[i].2.1.toNat]'(by omega) = getC out st[i].2.1 := getC_eq (by omega)
            rw [← e1, ← e2] at hmk
            by_cases hm : makes (getC out st[i].1) (getC out st[i].2.1) st[i].2.2
            · rw [if_pos ⟨hcan, hm⟩] at hall
              have hr : makeR (getC out st[i].1) (getC out st[i].2.1) st[i].2.2 = (made (getC out st[i].1) (getC out st[i].2.1) st[i].2.2, 0) := if_pos hm
              rw [e1, e2, hr, ← e1, ← e2] at hmk
              refine k_seq ?_
              refine rv (D.bool (decide ((↑i : Int) < (↑(List.length st) : Int)))) ?_
              refine k_done (k_skip_seq (k_seq ?_))
              refine rkn 29 (decide ((↑i : Int) < (↑(List.length st) : Int))) true (decide_eq_true (by omega)) ?_
              refine kct (k_skip_seq (k_seq (k_block (k_seq ?_))))
              refine runs_index (st) (eTrip) (o := none) (kd := IntKind.i64) (i) (by kernel_rfl) (by kernel_rfl) (by kernel_rfl) (by assumption) (by kernel_rfl) ?_
              refine rv (D.agg [D.int IntKind.i64 (Prod.fst st[i]), D.int IntKind.i64 (Prod.fst (Prod.snd st[i])), D.int IntKind.i64 (Prod.snd (Prod.snd st[i]))]) ?_
              refine rgf (D.lptr (10 : Nat) (0 : Nat)) (σ) ?_
              refine rgf (D.junk) (σ) ?_
              refine k_done (k_skip_seq (k_seq (k_seq ?_)))
              refine rv (D.sl (rows out) none) ?_
              refine rve (D.int IntKind.i64 (↑(List.length (rows out)) : Int)) (.int IntKind.i64 ((↑(List.length out) : Int))) (by simp only [ints, eInt, rows, eInts, bools, eBool, trips, eTrip, i8s, List.length_map]) ?_
              refine ra0 (D.int IntKind.i64 (↑(List.length out) : Int)) ?_
              refine k_done (k_skip_seq (k_seq ?_))
              refine rv (D.lptr (10 : Nat) (0 : Nat)) ?_
              refine rv (D.int IntKind.i64 (Prod.fst st[i])) ?_
              refine rv (D.bool (decide (Prod.fst st[i] < (0 : Int)))) ?_
              refine rv (D.bool (decide (Prod.fst st[i] < (0 : Int)))) ?_
              refine rkn 37 (decide (Prod.fst st[i] < (0 : Int))) false (decide_eq_false (by omega)) ?_
              refine rv (D.lptr (10 : Nat) (0 : Nat)) ?_
              refine rv (D.int IntKind.i64 (Prod.fst st[i])) ?_
              refine rv (D.int IntKind.i64 (↑(List.length out) : Int)) ?_
              refine rv (D.bool (decide (Prod.fst st[i] ≥ (↑(List.length out) : Int)))) ?_
              refine rv (D.bool (decide (Prod.fst st[i] ≥ (↑(List.length out) : Int)))) ?_
              refine rv (D.bool (decide (Prod.fst st[i] ≥ (↑(List.length out) : Int)))) ?_
              refine rkn 43 (decide (Prod.fst st[i] ≥ (↑(List.length out) : Int))) false (decide_eq_false (by omega)) ?_
              refine rv (D.lptr (10 : Nat) (1 : Nat)) ?_
              refine rv (D.int IntKind.i64 (Prod.fst (Prod.snd st[i]))) ?_
              refine rv (D.bool (decide (Prod.fst (Prod.snd st[i]) < (0 : Int)))) ?_
              refine rv (D.bool (decide (Prod.fst (Prod.snd st[i]) < (0 : Int)))) ?_
              refine rv (D.bool (decide (Prod.fst (Prod.snd st[i]) < (0 : Int)))) ?_
              refine rkn 48 (decide (Prod.fst (Prod.snd st[i]) < (0 : Int))) false (decide_eq_false (by omega)) ?_
              refine rv (D.lptr (10 : Nat) (1 : Nat)) ?_
              refine rv (D.int IntKind.i64 (Prod.fst (Prod.snd st[i]))) ?_
              refine rv (D.int IntKind.i64 (↑(List.length out) : Int)) ?_
              refine rv (D.bool (decide (Prod.fst (Prod.snd st[i]) ≥ (↑(List.length out) : Int)))) ?_
              refine rv (D.bool (decide (Prod.fst (Prod.snd st[i]) ≥ (↑(List.length out) : Int)))) ?_
              refine k_done (k_skip_seq ?_)
              refine rkn 53 (decide (Prod.fst (Prod.snd st[i]) ≥ (↑(List.length out) : Int))) false (decide_eq_false (by omega)) ?_
              refine kcf (k_skip_seq (k_seq ?_))
              refine rv (D.sl (rows out) none) ?_
              refine rv (D.lptr (10 : Nat) (0 : Nat)) ?_
              refine rv (D.int IntKind.i64 (Prod.fst st[i])) ?_
              refine runs_indexI (out) (eInts) (o := none) (kd := IntKind.i64) (Prod.fst st[i]) (by kernel_rfl) (by kernel_rfl) (by kernel_rfl) (by omega) (by omega) (by kernel_rfl) ?_
              refine rv (D.sl (ints out[Int.toNat (Prod.fst st[i])]) none) ?_
              refine rv (D.sl (rows out) none) ?_
              refine rv (D.lptr (10 : Nat) (1 : Nat)) ?_
              refine rv (D.int IntKind.i64 (Prod.fst (Prod.snd st[i]))) ?_
              refine runs_indexI (out) (eInts) (o := none) (kd := IntKind.i64) (Prod.fst (Prod.snd st[i])) (by kernel_rfl) (by kernel_rfl) (by kernel_rfl) (by omega) (by omega) (by kernel_rfl) ?_
              refine rv (D.sl (ints out[Int.toNat (Prod.fst (Prod.snd st[i]))]) none) ?_
              refine rv (D.lptr (10 : Nat) (2 : Nat)) ?_
              refine rv (D.int IntKind.i64 (Prod.snd (Prod.snd st[i]))) ?_
              refine runs_call ([D.sl (ints out[Int.toNat (Prod.fst st[i])]) none, D.sl (ints out[Int.toNat (Prod.fst (Prod.snd st[i]))]) none, D.int IntKind.i64 (Prod.snd (Prod.snd st[i]))]) (by kernel_rfl) (by kernel_rfl) (by kernel_rfl) (by kernel_rfl) (hmk) (by kernel_rfl) ?_
              refine rv (D.tup [D.sl (ints (made out[Int.toNat (Prod.fst st[i])] out[Int.toNat (Prod.fst (Prod.snd st[i]))] (Prod.snd (Prod.snd st[i])))) none, D.int IntKind.i64 (0 : Int)]) ?_
              refine rv (D.sl (ints (made out[Int.toNat (Prod.fst st[i])] out[Int.toNat (Prod.fst (Prod.snd st[i]))] (Prod.snd (Prod.snd st[i])))) none) ?_
              refine rv (D.int IntKind.i64 (0 : Int)) ?_
              refine ra0 (D.sl (ints (made out[Int.toNat (Prod.fst st[i])] out[Int.toNat (Prod.fst (Prod.snd st[i]))] (Prod.snd (Prod.snd st[i])))) none) ?_
              refine ra0 (D.int IntKind.i64 (0 : Int)) ?_
              refine k_done (k_skip_seq (k_seq (k_seq ?_)))
              refine rv (D.int IntKind.i64 (0 : Int)) ?_
              refine rv (D.bool false) ?_
              refine k_done (k_skip_seq (kcf (k_skip_seq ?_)))
              refine runs_steal (D.sl (rows out) (some (34 : Nat))) (by kernel_rfl) (by kernel_rfl) ?_
              refine rv (D.sl (ints (made out[Int.toNat (Prod.fst st[i])] out[Int.toNat (Prod.fst (Prod.snd st[i]))] (Prod.snd (Prod.snd st[i])))) none) ?_
              refine rv (D.sl [[D.sl (ints (made out[Int.toNat (Prod.fst st[i])] out[Int.toNat (Prod.fst (Prod.snd st[i]))] (Prod.snd (Prod.snd st[i])))) none]] (some (34 : Nat))) ?_
              refine runs_append (rows out) ([[D.sl (ints (made out[Int.toNat (Prod.fst st[i])] out[Int.toNat (Prod.fst (Prod.snd st[i]))] (Prod.snd (Prod.snd st[i])))) none]]) (rows (out ++ [made out[Int.toNat (Prod.fst st[i])] out[Int.toNat (Prod.fst (Prod.snd st[i]))] (Prod.snd (Prod.snd st[i]))])) (by kernel_rfl) (by kernel_rfl) (by kernel_rfl) (by kernel_rfl) (by simp [ints, eInt, rows, eInts, bools, eBool, trips, eTrip, i8s, room]; omega) (by simp [ints, eInt, rows, eInts, bools, eBool, trips, eTrip, i8s]) ?_
              refine runs_assign (D.sl (rows (out ++ [made out[Int.toNat (Prod.fst st[i])] out[Int.toNat (Prod.fst (Prod.snd st[i]))] (Prod.snd (Prod.snd st[i]))])) (some (34 : Nat))) (by kernel_rfl) (by kernel_rfl) ?_
              refine k_done (k_skip_block (k_skip_seq ?_))
              refine rve (D.int IntKind.i64 (IntKind.wrap IntKind.i64 ((↑i : Int) + (1 : Int)))) (.int IntKind.i64 ((i + 1 : Nat) : Int)) (congrArg (D.int IntKind.i64) (show IntKind.wrap IntKind.i64 ((↑i : Int) + (1 : Int)) = ((i + 1 : Nat) : Int) from wrap_eq (by omega) (by omega) (by omega))) ?_
              refine rv (D.int IntKind.i64 (↑(i + (1 : Nat)) : Int)) ?_
              refine k_done (k_skip_back ?_)
              refine ⟨(i + 1, out ++ [made (getC out st[i].1) (getC out st[i].2.1) st[i].2.2]), ⟨hlt, by simp; omega, smallW_step hL hsm ha hb, hall⟩, by simp only []; omega, by rw [← e1, ← e2]; kernel_rfl, rfl⟩
            · rw [if_neg (fun h => hm h.2)] at hall
              have hr : makeR (getC out st[i].1) (getC out st[i].2.1) st[i].2.2 = ([], 50) := if_neg hm
              rw [e1, e2, hr, ← e1, ← e2] at hmk
              rw [bad hall]
              refine k_seq ?_
              refine rv (D.bool (decide ((↑i : Int) < (↑(List.length st) : Int)))) ?_
              refine k_done (k_skip_seq (k_seq ?_))
              refine rkn 29 (decide ((↑i : Int) < (↑(List.length st) : Int))) true (decide_eq_true (by omega)) ?_
              refine kct (k_skip_seq (k_seq (k_block (k_seq ?_))))
              refine runs_index (st) (eTrip) (o := none) (kd := IntKind.i64) (i) (by kernel_rfl) (by kernel_rfl) (by kernel_rfl) (by assumption) (by kernel_rfl) ?_
              refine rv (D.agg [D.int IntKind.i64 (Prod.fst st[i]), D.int IntKind.i64 (Prod.fst (Prod.snd st[i])), D.int IntKind.i64 (Prod.snd (Prod.snd st[i]))]) ?_
              refine rgf (D.lptr (10 : Nat) (0 : Nat)) (σ) ?_
              refine rgf (D.junk) (σ) ?_
              refine k_done (k_skip_seq (k_seq (k_seq ?_)))
              refine rv (D.sl (rows out) none) ?_
              refine rve (D.int IntKind.i64 (↑(List.length (rows out)) : Int)) (.int IntKind.i64 ((↑(List.length out) : Int))) (by simp only [ints, eInt, rows, eInts, bools, eBool, trips, eTrip, i8s, List.length_map]) ?_
              refine ra0 (D.int IntKind.i64 (↑(List.length out) : Int)) ?_
              refine k_done (k_skip_seq (k_seq ?_))
              refine rv (D.lptr (10 : Nat) (0 : Nat)) ?_
              refine rv (D.int IntKind.i64 (Prod.fst st[i])) ?_
              refine rv (D.bool (decide (Prod.fst st[i] < (0 : Int)))) ?_
              refine rv (D.bool (decide (Prod.fst st[i] < (0 : Int)))) ?_
              refine rkn 37 (decide (Prod.fst st[i] < (0 : Int))) false (decide_eq_false (by omega)) ?_
              refine rv (D.lptr (10 : Nat) (0 : Nat)) ?_
              refine rv (D.int IntKind.i64 (Prod.fst st[i])) ?_
              refine rv (D.int IntKind.i64 (↑(List.length out) : Int)) ?_
              refine rv (D.bool (decide (Prod.fst st[i] ≥ (↑(List.length out) : Int)))) ?_
              refine rv (D.bool (decide (Prod.fst st[i] ≥ (↑(List.length out) : Int)))) ?_
              refine rv (D.bool (decide (Prod.fst st[i] ≥ (↑(List.length out) : Int)))) ?_
              refine rkn 43 (decide (Prod.fst st[i] ≥ (↑(List.length out) : Int))) false (decide_eq_false (by omega)) ?_
              refine rv (D.lptr (10 : Nat) (1 : Nat)) ?_
              refine rv (D.int IntKind.i64 (Prod.fst (Prod.snd st[i]))) ?_
              refine rv (D.bool (decide (Prod.fst (Prod.snd st[i]) < (0 : Int)))) ?_
              refine rv (D.bool (decide (Prod.fst (Prod.snd st[i]) < (0 : Int)))) ?_
              refine rv (D.bool (decide (Prod.fst (Prod.snd st[i]) < (0 : Int)))) ?_
              refine rkn 48 (decide (Prod.fst (Prod.snd st[i]) < (0 : Int))) false (decide_eq_false (by omega)) ?_
              refine rv (D.lptr (10 : Nat) (1 : Nat)) ?_
              refine rv (D.int IntKind.i64 (Prod.fst (Prod.snd st[i]))) ?_
              refine rv (D.int IntKind.i64 (↑(List.length out) : Int)) ?_
              refine rv (D.bool (decide (Prod.fst (Prod.snd st[i]) ≥ (↑(List.length out) : Int)))) ?_
              refine rv (D.bool (decide (Prod.fst (Prod.snd st[i]) ≥ (↑(List.length out) : Int)))) ?_
              refine k_done (k_skip_seq ?_)
              refine rkn 53 (decide (Prod.fst (Prod.snd st[i]) ≥ (↑(List.length out) : Int))) false (decide_eq_false (by omega)) ?_
              refine kcf (k_skip_seq (k_seq ?_))
              refine rv (D.sl (rows out) none) ?_
              refine rv (D.lptr (10 : Nat) (0 : Nat)) ?_
              refine rv (D.int IntKind.i64 (Prod.fst st[i])) ?_
              refine runs_indexI (out) (eInts) (o := none) (kd := IntKind.i64) (Prod.fst st[i]) (by kernel_rfl) (by kernel_rfl) (by kernel_rfl) (by omega) (by omega) (by kernel_rfl) ?_
              refine rv (D.sl (ints out[Int.toNat (Prod.fst st[i])]) none) ?_
              refine rv (D.sl (rows out) none) ?_
              refine rv (D.lptr (10 : Nat) (1 : Nat)) ?_
              refine rv (D.int IntKind.i64 (Prod.fst (Prod.snd st[i]))) ?_
              refine runs_indexI (out) (eInts) (o := none) (kd := IntKind.i64) (Prod.fst (Prod.snd st[i])) (by kernel_rfl) (by kernel_rfl) (by kernel_rfl) (by omega) (by omega) (by kernel_rfl) ?_
              refine rv (D.sl (ints out[Int.toNat (Prod.fst (Prod.snd st[i]))]) none) ?_
              refine rv (D.lptr (10 : Nat) (2 : Nat)) ?_
              refine rv (D.int IntKind.i64 (Prod.snd (Prod.snd st[i]))) ?_
              refine runs_call ([D.sl (ints out[Int.toNat (Prod.fst st[i])]) none, D.sl (ints out[Int.toNat (Prod.fst (Prod.snd st[i]))]) none, D.int IntKind.i64 (Prod.snd (Prod.snd st[i]))]) (by kernel_rfl) (by kernel_rfl) (by kernel_rfl) (by kernel_rfl) (hmk) (by kernel_rfl) ?_
              refine rv (D.tup [D.sl [] none, D.int IntKind.i64 (50 : Int)]) ?_
              refine rv (D.sl [] none) ?_
              refine rv (D.int IntKind.i64 (50 : Int)) ?_
              refine ra0 (D.sl [] none) ?_
              refine ra0 (D.int IntKind.i64 (50 : Int)) ?_
              refine k_done (k_skip_seq (k_seq (k_seq ?_)))
              refine rv (D.int IntKind.i64 (50 : Int)) ?_
              refine rv (D.bool true) ?_
              refine k_done (k_skip_seq (kct (k_seq ?_)))
              refine rv (D.int IntKind.i64 (50 : Int)) ?_
              refine rv (D.sl [] (some (34 : Nat))) ?_
              refine ra0 (D.int IntKind.i64 (50 : Int)) ?_
              refine k_done (k_skip_seq (k_ret ?_))
              exact ⟨.inr rfl, by kernel_rfl, by kernel_rfl⟩
          · rw [if_neg (fun h => g4 h.1.2.2.2)] at hall
            rw [bad hall]
            refine k_seq ?_
            refine rv (D.bool (decide ((↑i : Int) < (↑(List.length st) : Int)))) ?_
            refine k_done (k_skip_seq (k_seq ?_))
            refine rkn 29 (decide ((↑i : Int) < (↑(List.length st) : Int))) true (decide_eq_true (by omega)) ?_
            refine kct (k_skip_seq (k_seq (k_block (k_seq ?_))))
            refine runs_index (st) (eTrip) (o := none) (kd := IntKind.i64) (i) (by kernel_rfl) (by kernel_rfl) (by kernel_rfl) (by assumption) (by kernel_rfl) ?_
            refine rv (D.agg [D.int IntKind.i64 (Prod.fst st[i]), D.int IntKind.i64 (Prod.fst (Prod.snd st[i])), D.int IntKind.i64 (Prod.snd (Prod.snd st[i]))]) ?_
            refine rgf (D.lptr (10 : Nat) (0 : Nat)) (σ) ?_
            refine rgf (D.junk) (σ) ?_
            refine k_done (k_skip_seq (k_seq (k_seq ?_)))
            refine rv (D.sl (rows out) none) ?_
            refine rve (D.int IntKind.i64 (↑(List.length (rows out)) : Int)) (.int IntKind.i64 ((↑(List.length out) : Int))) (by simp only [ints, eInt, rows, eInts, bools, eBool, trips, eTrip, i8s, List.length_map]) ?_
            refine ra0 (D.int IntKind.i64 (↑(List.length out) : Int)) ?_
            refine k_done (k_skip_seq (k_seq ?_))
            refine rv (D.lptr (10 : Nat) (0 : Nat)) ?_
            refine rv (D.int IntKind.i64 (Prod.fst st[i])) ?_
            refine rv (D.bool (decide (Prod.fst st[i] < (0 : Int)))) ?_
            refine rv (D.bool (decide (Prod.fst st[i] < (0 : Int)))) ?_
            refine rkn 37 (decide (Prod.fst st[i] < (0 : Int))) false (decide_eq_false (by omega)) ?_
            refine rv (D.lptr (10 : Nat) (0 : Nat)) ?_
            refine rv (D.int IntKind.i64 (Prod.fst st[i])) ?_
            refine rv (D.int IntKind.i64 (↑(List.length out) : Int)) ?_
            refine rv (D.bool (decide (Prod.fst st[i] ≥ (↑(List.length out) : Int)))) ?_
            refine rv (D.bool (decide (Prod.fst st[i] ≥ (↑(List.length out) : Int)))) ?_
            refine rv (D.bool (decide (Prod.fst st[i] ≥ (↑(List.length out) : Int)))) ?_
            refine rkn 43 (decide (Prod.fst st[i] ≥ (↑(List.length out) : Int))) false (decide_eq_false (by omega)) ?_
            refine rv (D.lptr (10 : Nat) (1 : Nat)) ?_
            refine rv (D.int IntKind.i64 (Prod.fst (Prod.snd st[i]))) ?_
            refine rv (D.bool (decide (Prod.fst (Prod.snd st[i]) < (0 : Int)))) ?_
            refine rv (D.bool (decide (Prod.fst (Prod.snd st[i]) < (0 : Int)))) ?_
            refine rv (D.bool (decide (Prod.fst (Prod.snd st[i]) < (0 : Int)))) ?_
            refine rkn 48 (decide (Prod.fst (Prod.snd st[i]) < (0 : Int))) false (decide_eq_false (by omega)) ?_
            refine rv (D.lptr (10 : Nat) (1 : Nat)) ?_
            refine rv (D.int IntKind.i64 (Prod.fst (Prod.snd st[i]))) ?_
            refine rv (D.int IntKind.i64 (↑(List.length out) : Int)) ?_
            refine rv (D.bool (decide (Prod.fst (Prod.snd st[i]) ≥ (↑(List.length out) : Int)))) ?_
            refine rv (D.bool (decide (Prod.fst (Prod.snd st[i]) ≥ (↑(List.length out) : Int)))) ?_
            refine k_done (k_skip_seq ?_)
            refine rkn 53 (decide (Prod.fst (Prod.snd st[i]) ≥ (↑(List.length out) : Int))) true (decide_eq_true (by omega)) ?_
            refine kct (k_seq ?_)
            refine rv (D.sl [] (some (34 : Nat))) ?_
            refine rv (D.int IntKind.i64 (50 : Int)) ?_
            refine k_done (k_skip_seq (k_ret ?_))
            exact ⟨.inr rfl, by kernel_rfl, by kernel_rfl⟩
        · rw [if_neg (fun h => g2 h.1.2.2.1)] at hall
          rw [bad hall]
          refine k_seq ?_
          refine rv (D.bool (decide ((↑i : Int) < (↑(List.length st) : Int)))) ?_
          refine k_done (k_skip_seq (k_seq ?_))
          refine rkn 29 (decide ((↑i : Int) < (↑(List.length st) : Int))) true (decide_eq_true (by omega)) ?_
          refine kct (k_skip_seq (k_seq (k_block (k_seq ?_))))
          refine runs_index (st) (eTrip) (o := none) (kd := IntKind.i64) (i) (by kernel_rfl) (by kernel_rfl) (by kernel_rfl) (by assumption) (by kernel_rfl) ?_
          refine rv (D.agg [D.int IntKind.i64 (Prod.fst st[i]), D.int IntKind.i64 (Prod.fst (Prod.snd st[i])), D.int IntKind.i64 (Prod.snd (Prod.snd st[i]))]) ?_
          refine rgf (D.lptr (10 : Nat) (0 : Nat)) (σ) ?_
          refine rgf (D.junk) (σ) ?_
          refine k_done (k_skip_seq (k_seq (k_seq ?_)))
          refine rv (D.sl (rows out) none) ?_
          refine rve (D.int IntKind.i64 (↑(List.length (rows out)) : Int)) (.int IntKind.i64 ((↑(List.length out) : Int))) (by simp only [ints, eInt, rows, eInts, bools, eBool, trips, eTrip, i8s, List.length_map]) ?_
          refine ra0 (D.int IntKind.i64 (↑(List.length out) : Int)) ?_
          refine k_done (k_skip_seq (k_seq ?_))
          refine rv (D.lptr (10 : Nat) (0 : Nat)) ?_
          refine rv (D.int IntKind.i64 (Prod.fst st[i])) ?_
          refine rv (D.bool (decide (Prod.fst st[i] < (0 : Int)))) ?_
          refine rv (D.bool (decide (Prod.fst st[i] < (0 : Int)))) ?_
          refine rkn 37 (decide (Prod.fst st[i] < (0 : Int))) false (decide_eq_false (by omega)) ?_
          refine rv (D.lptr (10 : Nat) (0 : Nat)) ?_
          refine rv (D.int IntKind.i64 (Prod.fst st[i])) ?_
          refine rv (D.int IntKind.i64 (↑(List.length out) : Int)) ?_
          refine rv (D.bool (decide (Prod.fst st[i] ≥ (↑(List.length out) : Int)))) ?_
          refine rv (D.bool (decide (Prod.fst st[i] ≥ (↑(List.length out) : Int)))) ?_
          refine rv (D.bool (decide (Prod.fst st[i] ≥ (↑(List.length out) : Int)))) ?_
          refine rkn 43 (decide (Prod.fst st[i] ≥ (↑(List.length out) : Int))) false (decide_eq_false (by omega)) ?_
          refine rv (D.lptr (10 : Nat) (1 : Nat)) ?_
          refine rv (D.int IntKind.i64 (Prod.fst (Prod.snd st[i]))) ?_
          refine rv (D.bool (decide (Prod.fst (Prod.snd st[i]) < (0 : Int)))) ?_
          refine rv (D.bool (decide (Prod.fst (Prod.snd st[i]) < (0 : Int)))) ?_
          refine rv (D.bool (decide (Prod.fst (Prod.snd st[i]) < (0 : Int)))) ?_
          refine rkn 48 (decide (Prod.fst (Prod.snd st[i]) < (0 : Int))) true (decide_eq_true (by omega)) ?_
          refine rno (rno (rno (rno ?_)))
          refine rv (D.bool true) ?_
          refine k_done (k_skip_seq (kct (k_seq ?_)))
          refine rv (D.sl [] (some (34 : Nat))) ?_
          refine rv (D.int IntKind.i64 (50 : Int)) ?_
          refine k_done (k_skip_seq (k_ret ?_))
          exact ⟨.inr rfl, by kernel_rfl, by kernel_rfl⟩
      · rw [if_neg (fun h => g3 h.1.2.1)] at hall
        rw [bad hall]
        refine k_seq ?_
        refine rv (D.bool (decide ((↑i : Int) < (↑(List.length st) : Int)))) ?_
        refine k_done (k_skip_seq (k_seq ?_))
        refine rkn 29 (decide ((↑i : Int) < (↑(List.length st) : Int))) true (decide_eq_true (by omega)) ?_
        refine kct (k_skip_seq (k_seq (k_block (k_seq ?_))))
        refine runs_index (st) (eTrip) (o := none) (kd := IntKind.i64) (i) (by kernel_rfl) (by kernel_rfl) (by kernel_rfl) (by assumption) (by kernel_rfl) ?_
        refine rv (D.agg [D.int IntKind.i64 (Prod.fst st[i]), D.int IntKind.i64 (Prod.fst (Prod.snd st[i])), D.int IntKind.i64 (Prod.snd (Prod.snd st[i]))]) ?_
        refine rgf (D.lptr (10 : Nat) (0 : Nat)) (σ) ?_
        refine rgf (D.junk) (σ) ?_
        refine k_done (k_skip_seq (k_seq (k_seq ?_)))
        refine rv (D.sl (rows out) none) ?_
        refine rve (D.int IntKind.i64 (↑(List.length (rows out)) : Int)) (.int IntKind.i64 ((↑(List.length out) : Int))) (by simp only [ints, eInt, rows, eInts, bools, eBool, trips, eTrip, i8s, List.length_map]) ?_
        refine ra0 (D.int IntKind.i64 (↑(List.length out) : Int)) ?_
        refine k_done (k_skip_seq (k_seq ?_))
        refine rv (D.lptr (10 : Nat) (0 : Nat)) ?_
        refine rv (D.int IntKind.i64 (Prod.fst st[i])) ?_
        refine rv (D.bool (decide (Prod.fst st[i] < (0 : Int)))) ?_
        refine rv (D.bool (decide (Prod.fst st[i] < (0 : Int)))) ?_
        refine rkn 37 (decide (Prod.fst st[i] < (0 : Int))) false (decide_eq_false (by omega)) ?_
        refine rv (D.lptr (10 : Nat) (0 : Nat)) ?_
        refine rv (D.int IntKind.i64 (Prod.fst st[i])) ?_
        refine rv (D.int IntKind.i64 (↑(List.length out) : Int)) ?_
        refine rv (D.bool (decide (Prod.fst st[i] ≥ (↑(List.length out) : Int)))) ?_
        refine rv (D.bool (decide (Prod.fst st[i] ≥ (↑(List.length out) : Int)))) ?_
        refine rv (D.bool (decide (Prod.fst st[i] ≥ (↑(List.length out) : Int)))) ?_
        refine rkn 43 (decide (Prod.fst st[i] ≥ (↑(List.length out) : Int))) true (decide_eq_true (by omega)) ?_
        refine rno (rno (rno ?_))
        refine rv (D.bool true) ?_
        refine rv (D.bool true) ?_
        refine rno (rno (rno (rno ?_)))
        refine rv (D.bool true) ?_
        refine k_done (k_skip_seq (kct (k_seq ?_)))
        refine rv (D.sl [] (some (34 : Nat))) ?_
        refine rv (D.int IntKind.i64 (50 : Int)) ?_
        refine k_done (k_skip_seq (k_ret ?_))
        exact ⟨.inr rfl, by kernel_rfl, by kernel_rfl⟩
    · rw [if_neg (fun h => g1 h.1.1)] at hall
      rw [bad hall]
      refine k_seq ?_
      refine rv (D.bool (decide ((↑i : Int) < (↑(List.length st) : Int)))) ?_
      refine k_done (k_skip_seq (k_seq ?_))
      refine rkn 29 (decide ((↑i : Int) < (↑(List.length st) : Int))) true (decide_eq_true (by omega)) ?_
      refine kct (k_skip_seq (k_seq (k_block (k_seq ?_))))
      refine runs_index (st) (eTrip) (o := none) (kd := IntKind.i64) (i) (by kernel_rfl) (by kernel_rfl) (by kernel_rfl) (by assumption) (by kernel_rfl) ?_
      refine rv (D.agg [D.int IntKind.i64 (Prod.fst st[i]), D.int IntKind.i64 (Prod.fst (Prod.snd st[i])), D.int IntKind.i64 (Prod.snd (Prod.snd st[i]))]) ?_
      refine rgf (D.lptr (10 : Nat) (0 : Nat)) (σ) ?_
      refine rgf (D.junk) (σ) ?_
      refine k_done (k_skip_seq (k_seq (k_seq ?_)))
      refine rv (D.sl (rows out) none) ?_
      refine rve (D.int IntKind.i64 (↑(List.length (rows out)) : Int)) (.int IntKind.i64 ((↑(List.length out) : Int))) (by simp only [ints, eInt, rows, eInts, bools, eBool, trips, eTrip, i8s, List.length_map]) ?_
      refine ra0 (D.int IntKind.i64 (↑(List.length out) : Int)) ?_
      refine k_done (k_skip_seq (k_seq ?_))
      refine rv (D.lptr (10 : Nat) (0 : Nat)) ?_
      refine rv (D.int IntKind.i64 (Prod.fst st[i])) ?_
      refine rv (D.bool (decide (Prod.fst st[i] < (0 : Int)))) ?_
      refine rv (D.bool (decide (Prod.fst st[i] < (0 : Int)))) ?_
      refine rkn 37 (decide (Prod.fst st[i] < (0 : Int))) true (decide_eq_true (by omega)) ?_
      refine rno (rno (rno (rno ?_)))
      refine rv (D.bool true) ?_
      refine rv (D.bool true) ?_
      refine rno (rno (rno ?_))
      refine rv (D.bool true) ?_
      refine rv (D.bool true) ?_
      refine rno (rno (rno (rno ?_)))
      refine rv (D.bool true) ?_
      refine k_done (k_skip_seq (kct (k_seq ?_)))
      refine rv (D.sl [] (some (34 : Nat))) ?_
      refine rv (D.int IntKind.i64 (50 : Int)) ?_
      refine k_done (k_skip_seq (k_ret ?_))
      exact ⟨.inr rfl, by kernel_rfl, by kernel_rfl⟩
  · have hA : allR l st = (out, 0) := by
      unfold allR
      rw [hall, List.drop_of_length_le (by omega)]
      rfl
    rw [hA]
    refine k_seq ?_
    refine rv (D.bool (decide ((↑i : Int) < (↑(List.length st) : Int)))) ?_
    refine k_done (k_skip_seq (k_seq ?_))
    refine rkn 29 (decide ((↑i : Int) < (↑(List.length st) : Int))) false (decide_eq_false (by omega)) ?_
    refine kcf (k_exit_seq (k_exit_back (k_exit_hit rfl (k_skip_seq (k_seq ?_)))))
    refine rv (D.sl (rows out) none) ?_
    refine ra0 (D.sl (rows out) none) ?_
    refine rv (D.int IntKind.i64 (0 : Int)) ?_
    refine k_done (k_skip_seq (k_ret ?_))
    exact ⟨.inr rfl, by kernel_rfl, by kernel_rfl⟩
theorem progCheckB_ok (n : Nat) (l : List (List Int)) (st : List Step3) (o1 o2 : Option Nat) (σ : St) (hn : 500000 < n) (h1 : l.length ≤ 61) (h2 : ∀ c ∈ l, c.length ≤ 12) (h3 : st.length ≤ 300000) :
    callN T (n + 5) 17 [.sl (rows l) o1, .sl (trips st) o2] σ = some (.int .i64 (checkR l st), σ) := by
  have hall := progAllB_ok n l st none none [] hn h1 h2 h3
  have hlen := allR_len (l := l) (st := st)
  have herr := allR_err l st
  unfold checkR
  refine call_of (m := m17) rfl rfl (by decide) (k_start ?_)
  unfold m17
  generalize (allR l st).1 = out at *
  generalize (allR l st).2 = e at *
  by_cases h : e = 0
  · rw [if_pos h]
    by_cases hm : [] ∈ out
    · rw [if_pos hm]
      refine k_seq ?_
      refine rv (D.int IntKind.i64 (0 : Int)) ?_
      refine k_done (k_skip_seq (k_seq ?_))
      refine rv (D.sl (rows l) none) ?_
      refine rv (D.sl (trips st) none) ?_
      refine runs_call ([D.sl (rows l) none, D.sl (trips st) none]) (by kernel_rfl) (by kernel_rfl) (by kernel_rfl) (by kernel_rfl) (hall) (by kernel_rfl) ?_
      refine rv (D.tup [D.sl (rows out) none, D.int IntKind.i64 e]) ?_
      refine rv (D.sl (rows out) none) ?_
      refine rv (D.int IntKind.i64 e) ?_
      refine ra0 (D.sl (rows out) none) ?_
      refine ra0 (D.int IntKind.i64 e) ?_
      refine k_done (k_skip_seq (k_seq (k_seq ?_)))
      refine rv (D.int IntKind.i64 e) ?_
      refine rv (D.bool (e == (0 : Int))) ?_
      refine rv (D.bool (e == (0 : Int))) ?_
      refine rkn 15 (e == (0 : Int)) true (decide_eq_true (by assumption)) ?_
      refine rv (D.sl (rows out) none) ?_
      refine runs_call ([D.sl (rows out) none, D.func (30 : Nat) []]) (by kernel_rfl) (by kernel_rfl) (by kernel_rfl) (by kernel_rfl) (containsE_ok (n + 1) _ _ _ (by omega) (by omega)) (by kernel_rfl) ?_
      refine rv (D.bool !decide ([] ∈ out)) ?_
      refine rv (D.bool !decide ([] ∈ out)) ?_
      refine k_done (k_skip_seq ?_)
      refine rkn 19 (!decide ([] ∈ out)) false (by simp only [*, decide_true, decide_false, not_false_eq_true, Bool.not_true, Bool.not_false]) ?_
      refine kcf (k_skip_seq (k_seq ?_))
      refine rv (D.int IntKind.i64 e) ?_
      refine ra0 (D.int IntKind.i64 e) ?_
      refine k_done (k_skip_seq (k_ret ?_))
      subst h
      exact ⟨.inr rfl, by kernel_rfl, by kernel_rfl⟩
    · rw [if_neg hm]
      refine k_seq ?_
      refine rv (D.int IntKind.i64 (0 : Int)) ?_
      refine k_done (k_skip_seq (k_seq ?_))
      refine rv (D.sl (rows l) none) ?_
      refine rv (D.sl (trips st) none) ?_
      refine runs_call ([D.sl (rows l) none, D.sl (trips st) none]) (by kernel_rfl) (by kernel_rfl) (by kernel_rfl) (by kernel_rfl) (hall) (by kernel_rfl) ?_
      refine rv (D.tup [D.sl (rows out) none, D.int IntKind.i64 e]) ?_
      refine rv (D.sl (rows out) none) ?_
      refine rv (D.int IntKind.i64 e) ?_
      refine ra0 (D.sl (rows out) none) ?_
      refine ra0 (D.int IntKind.i64 e) ?_
      refine k_done (k_skip_seq (k_seq (k_seq ?_)))
      refine rv (D.int IntKind.i64 e) ?_
      refine rv (D.bool (e == (0 : Int))) ?_
      refine rv (D.bool (e == (0 : Int))) ?_
      refine rkn 15 (e == (0 : Int)) true (decide_eq_true (by assumption)) ?_
      refine rv (D.sl (rows out) none) ?_
      refine runs_call ([D.sl (rows out) none, D.func (30 : Nat) []]) (by kernel_rfl) (by kernel_rfl) (by kernel_rfl) (by kernel_rfl) (containsE_ok (n + 1) _ _ _ (by omega) (by omega)) (by kernel_rfl) ?_
      refine rv (D.bool !decide ([] ∈ out)) ?_
      refine rv (D.bool !decide ([] ∈ out)) ?_
      refine k_done (k_skip_seq ?_)
      refine rkn 19 (!decide ([] ∈ out)) true (by simp only [*, decide_true, decide_false, not_false_eq_true, Bool.not_true, Bool.not_false]) ?_
      refine kct ?_
      refine rv (D.int IntKind.i64 (50 : Int)) ?_
      refine k_done (k_skip_seq (k_seq ?_))
      refine rv (D.int IntKind.i64 (50 : Int)) ?_
      refine ra0 (D.int IntKind.i64 (50 : Int)) ?_
      refine k_done (k_skip_seq (k_ret ?_))
      exact ⟨.inr rfl, by kernel_rfl, by kernel_rfl⟩
  · rw [if_neg h]
    refine k_seq ?_
    refine rv (D.int IntKind.i64 (0 : Int)) ?_
    refine k_done (k_skip_seq (k_seq ?_))
    refine rv (D.sl (rows l) none) ?_
    refine rv (D.sl (trips st) none) ?_
    refine runs_call ([D.sl (rows l) none, D.sl (trips st) none]) (by kernel_rfl) (by kernel_rfl) (by kernel_rfl) (by kernel_rfl) (hall) (by kernel_rfl) ?_
    refine rv (D.tup [D.sl (rows out) none, D.int IntKind.i64 e]) ?_
    refine rv (D.sl (rows out) none) ?_
    refine rv (D.int IntKind.i64 e) ?_
    refine ra0 (D.sl (rows out) none) ?_
    refine ra0 (D.int IntKind.i64 e) ?_
    refine k_done (k_skip_seq (k_seq (k_seq ?_)))
    refine rv (D.int IntKind.i64 e) ?_
    refine rv (D.bool (e == (0 : Int))) ?_
    refine rv (D.bool (e == (0 : Int))) ?_
    refine rkn 15 (e == (0 : Int)) false (decide_eq_false (by assumption)) ?_
    refine rno (rno (rno ?_))
    refine rv (D.bool false) ?_
    refine k_done (k_skip_seq (kcf (k_skip_seq (k_seq ?_))))
    refine rv (D.int IntKind.i64 e) ?_
    refine ra0 (D.int IntKind.i64 e) ?_
    refine k_done (k_skip_seq (k_ret ?_))
    exact ⟨.inr rfl, by kernel_rfl, by kernel_rfl⟩

end Go.Abs.B
