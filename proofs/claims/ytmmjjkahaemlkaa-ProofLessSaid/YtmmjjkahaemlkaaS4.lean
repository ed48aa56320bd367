import Derived.Test.YtmmjjkahaemlkaaKont2
import Derived.Test.YtmmjjkahaemlkaaS1
import Derived.Test.YtmmjjkahaemlkaaQ1
import Derived.Test.YtmmjjkahaemlkaaQ4
set_option linter.unusedVariables false
set_option linter.unusedSimpArgs false
/-
  The given program's solver: spread.
-/
namespace Go.Abs.B
open Go Go.Abs
set_option maxRecDepth 8000
attribute [local irreducible] callN runC evalOp

def f43 (more : Bool) (d17 d18 d19 : D) : Fr := Fr.mk ([.ptr 1 0, .junk, .int .i64 0, .bool more] ++ List.replicate 13 .junk ++ [d17, d18, d19] ++ List.replicate 20 .junk) (List.replicate 40 none) []
theorem rows_take (l : List (List Int)) (g : Nat) : ((rows l).drop 0).take (g - 0) = rows (l.take g) := by simp [rows, List.map_take]
set_option maxHeartbeats 1600000 in
theorem spread_ok (fu N : Nat) (a : List Int) (l : List (List Int)) (given : Nat) (TR : D) (steps : List (Int × Int × Int)) (left tried : Int) (ρ : St) (t : List (Int × Int)) (hN : N ≤ 30000) (h0 : 0 < N) (hW : WF N a t) (ht : TrRep TR ρ t)
    (hL : ∀ c ∈ l.take given, okC N c ∧ c.length ≤ 1000) (hg : given ≤ l.length) (hg2 : given ≤ 1000) (hf : N + 2000 < fu) :
    ∃ TR' ρ', callN T (fu + 1) 43 [.ptr 1 0] (.cells (ils a) :: SO l given N TR steps left tried :: ρ) = some (.int .i64 (spreadR (N + 1) (l.take given) a t).1, .cells (ils (spreadR (N + 1) (l.take given) a t).2.1) :: SO l given N TR' steps left tried :: ρ') ∧
      WF N (spreadR (N + 1) (l.take given) a t).2.1 (spreadR (N + 1) (l.take given) a t).2.2 ∧ TrRep TR' ρ' (spreadR (N + 1) (l.take given) a t).2.2 ∧ Fr2 ρ ρ' := by
  suffices H : ∃ d σ', callN T (fu + 1) 43 [.ptr 1 0] (.cells (ils a) :: SO l given N TR steps left tried :: ρ) = some (d, σ') ∧ (d = .int .i64 (spreadR (N + 1) (l.take given) a t).1 ∧ ∃ TR' ρ', σ' = .cells (ils (spreadR (N + 1) (l.take given) a t).2.1) :: SO l given N TR' steps left tried :: ρ' ∧
      WF N (spreadR (N + 1) (l.take given) a t).2.1 (spreadR (N + 1) (l.take given) a t).2.2 ∧ TrRep TR' ρ' (spreadR (N + 1) (l.take given) a t).2.2 ∧ Fr2 ρ ρ') by
    obtain ⟨d, σ', h1, rfl, TR', ρ', rfl, h2⟩ := H
    exact ⟨TR', ρ', h1, h2⟩
  have hLl : (l.take given).length = given := by rw [List.length_take]; omega
  have hrt := rows_take l given
  generalize hLe : l.take given = L at *
  generalize hR : spreadR (N + 1) L a t = R
  refine call_ofX (m := m43) rfl rfl (by decide) (k_start ?_)
  unfold m43
  obtain ⟨fu, rfl⟩ : ∃ k, fu = k + 1 := ⟨fu - 1, by omega⟩
  refine k_seq ?_
  refine rv (D.int IntKind.i64 (0 : Int)) ?_
  refine k_done (k_skip_seq (k_seq (k_seq ?_)))
  refine rv (D.bool true) ?_
  refine k_done (k_skip_seq (k_block ?_))
  refine k_loop (S := Nat × List Int × List (Int × Int) × Bool × D × St × D × D × D) (fun s => f43 s.2.2.2.1 s.2.2.2.2.2.2.1 s.2.2.2.2.2.2.2.1 s.2.2.2.2.2.2.2.2) (fun s => .cells (ils s.2.1) :: SO l given N s.2.2.2.2.1 steps left tried :: s.2.2.2.2.2.1)
    (fun s => s.1 ≤ N + 1 ∧ WF N s.2.1 s.2.2.1 ∧ TrRep s.2.2.2.2.1 s.2.2.2.2.2.1 s.2.2.1 ∧ Fr2 ρ s.2.2.2.2.2.1 ∧ ((s.2.2.2.1 = true ∧ spreadR s.1 L s.2.1 s.2.2.1 = R ∧ N - s.2.2.1.length < s.1) ∨ (s.2.2.2.1 = false ∧ R = (-1, s.2.1, s.2.2.1)))) (fun s => s.1)
    (N + 1, a, t, true, TR, ρ, .junk, .junk, .junk) (by kernel_rfl) rfl ⟨Nat.le_refl _, hW, ht, .refl ρ, .inl ⟨rfl, hR, by omega⟩⟩ (by rintro s ⟨hs, _⟩; omega) ?_
  rintro ⟨k, a1, t1, more1, TR1, ρ1, d17, d18, d19⟩ ⟨hk, hW1, ht1, hF1, hcase⟩
  simp only [] at hk hW1 ht1 hF1 hcase
  show Runs (runC (callN T (fu + 1)) (fu + 1) l43_1 (f43 more1 d17 d18 d19) (.cells (ils a1) :: SO l given N TR1 steps left tried :: ρ1)) _
  rcases hcase with ⟨rfl, hR1, hk1⟩ | ⟨rfl, hR1⟩
  · obtain ⟨k, rfl⟩ : ∃ j, k = j + 1 := ⟨k - 1, by omega⟩
    have hL' : ∀ c ∈ L, okC N c := fun c hc => (hL c hc).1
    have hpw := pass_wf L 0 a1 t1 false hW1 hL'
    have hR2 : (match passR L 0 a1 t1 false with
      | (some i, a', t', _) => ((i : Int), a', t')
      | (none, a', t', true) => spreadR k L a' t'
      | (none, a', t', false) => (-1, a', t')) = R := hR1
    refine k_seq (k_seq ?_)
    refine rv (D.bool true) ?_
    refine k_done (k_skip_seq (kct (k_skip_seq (k_block (k_seq ?_)))))
    refine rv (D.bool false) ?_
    refine k_done (k_skip_seq (k_seq ?_))
    refine rv (D.ptr (1 : Nat) (0 : Nat)) ?_
    refine rv (D.ptr (1 : Nat) (0 : Nat)) ?_
    refine rv (D.ptr (1 : Nat) (0 : Nat)) ?_
    refine rv (D.sl (rows l) none) ?_
    refine rv (D.ptr (1 : Nat) (0 : Nat)) ?_
    refine rv (D.ptr (1 : Nat) (0 : Nat)) ?_
    refine rv (D.ptr (1 : Nat) (1 : Nat)) ?_
    refine rv (D.int IntKind.i64 (↑given : Int)) ?_
    refine runs_sliceS (rows l) _ (o := none) (0) (given) (by kernel_rfl) (by kernel_rfl) (by kernel_rfl) (hiD_nat (k := IntKind.i64) (by kernel_rfl)) (by simp [ints, eInt, rows, eInts, bools, eBool, trips, eTrip, i8s]; omega) (by simp [ints, eInt, rows, eInts, bools, eBool, trips, eTrip, i8s]) (by assumption) ?_
    refine rve (D.int IntKind.i64 (↑(List.length (rows L)) : Int)) (.int IntKind.i64 ((↑(List.length L) : Int))) (by simp only [ints, eInt, rows, eInts, bools, eBool, trips, eTrip, i8s, List.length_map]) ?_
    refine rv (D.int IntKind.i64 (0 : Int)) ?_
    refine k_done (k_skip_seq (k_block ?_))
    refine k_loop (S := Nat × List Int × List (Int × Int) × Bool × D × St) (fun s => f43 s.2.2.2.1 (.sl (rows L) none) (.int .i64 L.length) (.int .i64 s.1)) (fun s => .cells (ils s.2.1) :: SO l given N s.2.2.2.2.1 steps left tried :: s.2.2.2.2.2)
      (fun s => s.1 ≤ L.length ∧ WF N s.2.1 s.2.2.1 ∧ TrRep s.2.2.2.2.1 s.2.2.2.2.2 s.2.2.1 ∧ Fr2 ρ s.2.2.2.2.2 ∧ passR L 0 a1 t1 false = passR (L.drop s.1) s.1 s.2.1 s.2.2.1 s.2.2.2.1) (fun s => L.length - s.1)
      (0, a1, t1, false, TR1, ρ1) (by kernel_rfl) rfl ⟨Nat.zero_le _, hW1, ht1, hF1, rfl⟩ (by rintro s ⟨hs, _⟩; omega) ?_
    rintro ⟨i, a2, t2, more2, TR2, ρ2⟩ ⟨hi, hW2, ht2, hF2, hp⟩
    simp only [] at hi hW2 ht2 hF2 hp
    show Runs (runC (callN T (fu + 1)) (fu + 1) l43_0 (f43 more2 (.sl (rows L) none) (.int .i64 L.length) (.int .i64 i)) (.cells (ils a2) :: SO l given N TR2 steps left tried :: ρ2)) _
    have hlen2 := hW2.len
    have hsh := hW2.short
    have hsh2 : t2.length ≤ 1000000 := by
      rcases hsh with h | h
      · omega
      · rw [h]
        simp
    by_cases hlt : i < L.length
    · have hc := hL _ (List.getElem_mem hlt)
      have hd : L.drop i = L[i] :: L.drop (i + 1) := (List.getElem_cons_drop hlt).symm
      have hci : ((i + 1 : Nat) : Int) = (i : Int) + 1 := rfl
      rw [hd] at hp
      have hpe : passR (L[i] :: L.drop (i + 1)) i a2 t2 more2 = if (lookR a2 L[i] 0).2 = false then (some (i : Int), a2, t2, more2) else if (lookR a2 L[i] 0).1 ≠ 0 then passR (L.drop (i + 1)) ((i : Int) + 1) (a2.set (lookR a2 L[i] 0).1.natAbs (lookR a2 L[i] 0).1) (t2 ++ [((lookR a2 L[i] 0).1, (i : Int))]) true else passR (L.drop (i + 1)) ((i : Int) + 1) a2 t2 more2 := rfl
      rw [hpe, ← hci] at hp
      have hst := fun h1 h2 => look_step hW2 hc.1 h1 h2 (i : Int)
      have hlk := look_ok fu a2 l given TR2 steps left tried ρ2 L[i] none (by rw [hlen2]; exact hc.1) (by omega) (by omega) (by omega)
      rw [hlen2] at hlk
      generalize lookR a2 L[i] 0 = r at *
      obtain ⟨v, fine⟩ := r
      simp only [] at hst hlk hp
      cases fine
      · rw [if_pos rfl] at hp
        have hR3 : R = ((i : Int), a2, t2) := by rw [← hR2, hp]
        refine k_seq ?_
        refine rv (D.bool (decide ((↑i : Int) < (↑(List.length L) : Int)))) ?_
        refine k_done (k_skip_seq (k_seq ?_))
        refine rkn 20 (decide ((↑i : Int) < (↑(List.length L) : Int))) true (decide_eq_true (by omega)) ?_
        refine kct (k_skip_seq (k_seq (k_block (k_seq ?_))))
        refine rv (D.int IntKind.i64 (↑i : Int)) ?_
        refine runs_index (L) (eInts) (o := none) (kd := IntKind.i64) (i) (by kernel_rfl) (by kernel_rfl) (by kernel_rfl) (by assumption) (by kernel_rfl) ?_
        refine rv (D.sl (ints L[i]) none) ?_
        refine ra0 (D.int IntKind.i64 (↑i : Int)) ?_
        refine ra0 (D.sl (ints L[i]) none) ?_
        refine k_done (k_skip_seq (k_seq ?_))
        refine rv (D.ptr (1 : Nat) (0 : Nat)) ?_
        refine rv (D.sl (ints L[i]) none) ?_
        refine runs_call_st ([D.ptr (1 : Nat) (0 : Nat), D.sl (ints L[i]) none]) (by kernel_rfl) (by kernel_rfl) (by kernel_rfl) (by kernel_rfl) (hlk) ?_
        refine rv (D.tup [D.int IntKind.i64 v, D.bool false]) ?_
        refine rv (D.int IntKind.i64 v) ?_
        refine rv (D.bool false) ?_
        refine ra0 (D.int IntKind.i64 v) ?_
        refine ra0 (D.bool false) ?_
        refine k_done (k_skip_seq (k_seq (k_seq ?_)))
        refine rv (D.bool false) ?_
        refine rv (D.bool true) ?_
        refine k_done (k_skip_seq (kct (k_seq ?_)))
        refine rv (D.int IntKind.i64 (↑i : Int)) ?_
        refine ra0 (D.int IntKind.i64 (↑i : Int)) ?_
        refine k_done (k_skip_seq (k_ret ?_))
        refine ⟨.inr rfl, by kernel_rfl, .int .i64 i, .cells (ils a2) :: SO l given N TR2 steps left tried :: ρ2, by kernel_rfl, ?_⟩
        rw [hR3]
        exact ⟨rfl, TR2, ρ2, rfl, hW2, ht2, hF2⟩
      · rw [if_neg (by simp)] at hp
        by_cases hv : v = 0
        · rw [if_neg (fun h => h hv)] at hp
          refine k_seq ?_
          refine rv (D.bool (decide ((↑i : Int) < (↑(List.length L) : Int)))) ?_
          refine k_done (k_skip_seq (k_seq ?_))
          refine rkn 20 (decide ((↑i : Int) < (↑(List.length L) : Int))) true (decide_eq_true (by omega)) ?_
          refine kct (k_skip_seq (k_seq (k_block (k_seq ?_))))
          refine rv (D.int IntKind.i64 (↑i : Int)) ?_
          refine runs_index (L) (eInts) (o := none) (kd := IntKind.i64) (i) (by kernel_rfl) (by kernel_rfl) (by kernel_rfl) (by assumption) (by kernel_rfl) ?_
          refine rv (D.sl (ints L[i]) none) ?_
          refine ra0 (D.int IntKind.i64 (↑i : Int)) ?_
          refine ra0 (D.sl (ints L[i]) none) ?_
          refine k_done (k_skip_seq (k_seq ?_))
          refine rv (D.ptr (1 : Nat) (0 : Nat)) ?_
          refine rv (D.sl (ints L[i]) none) ?_
          refine runs_call_st ([D.ptr (1 : Nat) (0 : Nat), D.sl (ints L[i]) none]) (by kernel_rfl) (by kernel_rfl) (by kernel_rfl) (by kernel_rfl) (hlk) ?_
          refine rv (D.tup [D.int IntKind.i64 v, D.bool true]) ?_
          refine rv (D.int IntKind.i64 v) ?_
          refine rv (D.bool true) ?_
          refine ra0 (D.int IntKind.i64 v) ?_
          refine ra0 (D.bool true) ?_
          refine k_done (k_skip_seq (k_seq (k_seq ?_)))
          refine rv (D.bool true) ?_
          refine rv (D.bool false) ?_
          refine k_done (k_skip_seq (kcf (k_skip_seq (k_seq ?_))))
          refine rv (D.int IntKind.i64 v) ?_
          refine rv (D.bool (v != (0 : Int))) ?_
          refine k_done (k_skip_seq ?_)
          refine rkn 34 (v != (0 : Int)) false (bne_eq_false_iff_eq.2 (by assumption)) ?_
          refine kcf (k_skip_block (k_skip_seq ?_))
          refine rve (D.int IntKind.i64 (IntKind.wrap IntKind.i64 ((↑i : Int) + (1 : Int)))) (.int IntKind.i64 ((i + 1 : Nat) : Int)) (congrArg (D.int IntKind.i64) (show IntKind.wrap IntKind.i64 ((↑i : Int) + (1 : Int)) = ((i + 1 : Nat) : Int) from wrap_eq (by omega) (by omega) (by omega))) ?_
          refine rv (D.int IntKind.i64 (↑(i + (1 : Nat)) : Int)) ?_
          refine k_done (k_skip_back ?_)
          exact ⟨(i + 1, a2, t2, more2, TR2, ρ2), ⟨hlt, hW2, ht2, hF2, hp⟩, by simp only []; omega, by kernel_rfl, rfl⟩
        · rw [if_pos hv] at hp
          obtain ⟨h3, h4, h5⟩ := hst (by simp) hv
          obtain ⟨TR3, ρ3, hfx, hT3, hF3, _⟩ := fix_ok fu a2 l given TR2 steps left tried ρ2 t2 v (i : Int) (by rw [hlen2]; exact h3) (by omega) ht2 hsh2
          rw [hlen2] at hfx
          refine k_seq ?_
          refine rv (D.bool (decide ((↑i : Int) < (↑(List.length L) : Int)))) ?_
          refine k_done (k_skip_seq (k_seq ?_))
          refine rkn 20 (decide ((↑i : Int) < (↑(List.length L) : Int))) true (decide_eq_true (by omega)) ?_
          refine kct (k_skip_seq (k_seq (k_block (k_seq ?_))))
          refine rv (D.int IntKind.i64 (↑i : Int)) ?_
          refine runs_index (L) (eInts) (o := none) (kd := IntKind.i64) (i) (by kernel_rfl) (by kernel_rfl) (by kernel_rfl) (by assumption) (by kernel_rfl) ?_
          refine rv (D.sl (ints L[i]) none) ?_
          refine ra0 (D.int IntKind.i64 (↑i : Int)) ?_
          refine ra0 (D.sl (ints L[i]) none) ?_
          refine k_done (k_skip_seq (k_seq ?_))
          refine rv (D.ptr (1 : Nat) (0 : Nat)) ?_
          refine rv (D.sl (ints L[i]) none) ?_
          refine runs_call_st ([D.ptr (1 : Nat) (0 : Nat), D.sl (ints L[i]) none]) (by kernel_rfl) (by kernel_rfl) (by kernel_rfl) (by kernel_rfl) (hlk) ?_
          refine rv (D.tup [D.int IntKind.i64 v, D.bool true]) ?_
          refine rv (D.int IntKind.i64 v) ?_
          refine rv (D.bool true) ?_
          refine ra0 (D.int IntKind.i64 v) ?_
          refine ra0 (D.bool true) ?_
          refine k_done (k_skip_seq (k_seq (k_seq ?_)))
          refine rv (D.bool true) ?_
          refine rv (D.bool false) ?_
          refine k_done (k_skip_seq (kcf (k_skip_seq (k_seq ?_))))
          refine rv (D.int IntKind.i64 v) ?_
          refine rv (D.bool (v != (0 : Int))) ?_
          refine k_done (k_skip_seq ?_)
          refine rkn 34 (v != (0 : Int)) true (bne_iff_ne.2 (by assumption)) ?_
          refine kct (k_seq ?_)
          refine rv (D.ptr (1 : Nat) (0 : Nat)) ?_
          refine rv (D.int IntKind.i64 v) ?_
          refine rv (D.int IntKind.i64 (↑i : Int)) ?_
          refine runs_call_st ([D.ptr (1 : Nat) (0 : Nat), D.int IntKind.i64 v, D.int IntKind.i64 (↑i : Int)]) (by kernel_rfl) (by kernel_rfl) (by kernel_rfl) (by kernel_rfl) (hfx) ?_
          refine k_done (k_skip_seq ?_)
          refine rv (D.bool true) ?_
          refine k_done (k_skip_block (k_skip_seq ?_))
          refine rve (D.int IntKind.i64 (IntKind.wrap IntKind.i64 ((↑i : Int) + (1 : Int)))) (.int IntKind.i64 ((i + 1 : Nat) : Int)) (congrArg (D.int IntKind.i64) (show IntKind.wrap IntKind.i64 ((↑i : Int) + (1 : Int)) = ((i + 1 : Nat) : Int) from wrap_eq (by omega) (by omega) (by omega))) ?_
          refine rv (D.int IntKind.i64 (↑(i + (1 : Nat)) : Int)) ?_
          refine k_done (k_skip_back ?_)
          exact ⟨(i + 1, a2.set v.natAbs v, t2 ++ [(v, (i : Int))], true, TR3, ρ3), ⟨hlt, h5, hT3, hF2.trans hF3, hp⟩, by simp only []; omega, by kernel_rfl, rfl⟩
    · rw [List.drop_of_length_le (by omega)] at hp
      have hp' : passR L 0 a1 t1 false = (none, a2, t2, more2) := hp
      rw [hp'] at hpw hR2
      obtain ⟨_, ⟨e, he⟩, hm⟩ := hpw
      simp only [] at he hm hR2
      cases more2
      · simp only [] at hR2
        refine k_seq ?_
        refine rv (D.bool (decide ((↑i : Int) < (↑(List.length L) : Int)))) ?_
        refine k_done (k_skip_seq (k_seq ?_))
        refine rkn 20 (decide ((↑i : Int) < (↑(List.length L) : Int))) false (decide_eq_false (by omega)) ?_
        refine kcf (k_exit_seq (k_exit_back (k_exit_hit rfl (k_skip_block (k_skip_back ?_)))))
        exact ⟨(0, a2, t2, false, TR2, ρ2, .sl (rows L) none, .int .i64 L.length, .int .i64 i), ⟨Nat.zero_le _, hW2, ht2, hF2, .inr ⟨rfl, hR2.symm⟩⟩, by simp only []; omega, by kernel_rfl, rfl⟩
      · simp only [] at hR2
        have hlt2 : t1.length < t2.length := by
          rcases hm rfl with h | h
          · cases h
          · exact h
        have hN2 : t2.length + 1 ≤ N := by
          rcases hsh with h | h
          · exact h
          · rw [h] at hlt2
            simp at hlt2
        refine k_seq ?_
        refine rv (D.bool (decide ((↑i : Int) < (↑(List.length L) : Int)))) ?_
        refine k_done (k_skip_seq (k_seq ?_))
        refine rkn 20 (decide ((↑i : Int) < (↑(List.length L) : Int))) false (decide_eq_false (by omega)) ?_
        refine kcf (k_exit_seq (k_exit_back (k_exit_hit rfl (k_skip_block (k_skip_back ?_)))))
        exact ⟨(k, a2, t2, true, TR2, ρ2, .sl (rows L) none, .int .i64 L.length, .int .i64 i), ⟨by omega, hW2, ht2, hF2, .inl ⟨rfl, hR2, by simp only []; omega⟩⟩, by simp only []; omega, by kernel_rfl, rfl⟩
  · refine k_seq (k_seq ?_)
    refine rv (D.bool false) ?_
    refine k_done (k_skip_seq (kcf (k_exit_seq (k_exit_back (k_exit_hit rfl (k_skip_seq (k_seq ?_)))))))
    refine rv (D.int IntKind.i64 (-1 : Int)) ?_
    refine k_done (k_skip_seq (k_ret ?_))
    refine ⟨.inr rfl, by kernel_rfl, .int .i64 (-1), .cells (ils a1) :: SO l given N TR1 steps left tried :: ρ1, by kernel_rfl, ?_⟩
    rw [hR1]
    exact ⟨rfl, TR1, ρ1, rfl, hW1, ht1, hF1⟩
end Go.Abs.B

/-
  The given program's solver: resolved.
-/
namespace Go.Abs.B
open Go Go.Abs
set_option maxRecDepth 8000
attribute [local irreducible] callN runC evalOp

def f51 (c : List Int) (w : Int) (k : Nat) (i : Int) : Fr := Fr.mk ([.sl (ints c) none, .int .i64 w, .ptr k 0, .junk, .junk, .junk, .junk, .sl (ints c) none, .int .i64 c.length, .int .i64 i] ++ List.replicate 17 .junk) (List.replicate 27 none) []
theorem put51_ok (n : Nat) (c : List Int) (w : Int) (o : Option Nat) (k : Nat) (σ : St) (out : List Int) (hk : k < σ.length) (hn : c.length + out.length + 10 < n) (hc : c.length + out.length < 100000) :
    callN T (n + 1) 51 [.sl (ints c) o, .int .i64 w, .ptr k 0] (σ.set k (.cells [.sl (ints out) (some 3)])) = some (.tup [], σ.set k (.cells [.sl (ints (addAll w c out)) (some 3)])) := by
  refine call_of (m := m51) rfl rfl (by decide) (k_start ?_)
  unfold m51
  refine k_seq ?_
  refine rv (D.sl (ints c) none) ?_
  refine rve (D.int IntKind.i64 (↑(List.length (ints c)) : Int)) (.int IntKind.i64 ((↑(List.length c) : Int))) (by simp only [ints, eInt, rows, eInts, bools, eBool, trips, eTrip, i8s, List.length_map]) ?_
  refine rv (D.int IntKind.i64 (0 : Int)) ?_
  refine k_done (k_skip_seq (k_block ?_))
  refine k_loop (fun i : Nat => f51 c w k i) (fun i => σ.set k (.cells [.sl (ints (addAll w (c.take i) out)) (some 3)])) (fun i => i ≤ c.length) (fun i => c.length - i) 0 (by kernel_rfl) rfl (by simp) (by intro s hs; omega) ?_
  intro i hi
  have hal := addAll_len w (c.take i) out
  have htl : (c.take i).length ≤ c.length := by rw [List.length_take]; omega
  by_cases hlt : i < c.length
  · have hnx : addAll w (c.take (i + 1)) out = if c[i] ≠ w ∧ c[i] ∉ addAll w (c.take i) out then addAll w (c.take i) out ++ [c[i]] else addAll w (c.take i) out := by rw [List.take_succ_eq_append_getElem hlt, addAll_snoc]
    obtain ⟨m, rfl⟩ : ∃ m, n = m + 2 := ⟨n - 2, by omega⟩
    have hcon := contains_ok m (addAll w (c.take i) out) c[i] none [] (by omega) (by omega)
    generalize addAll w (c.take i) out = O at *
    by_cases hw : c[i] = w
    · rw [if_neg (fun h => h.1 hw)] at hnx
      refine k_seq ?_
      refine rv (D.bool (decide ((↑i : Int) < (↑(List.length c) : Int)))) ?_
      refine k_done (k_skip_seq (k_seq ?_))
      refine rkn 10 (decide ((↑i : Int) < (↑(List.length c) : Int))) true (decide_eq_true (by omega)) ?_
      refine kct (k_skip_seq (k_seq (k_block (k_seq ?_))))
      refine runs_index (c) (eInt) (o := none) (kd := IntKind.i64) (i) (by kernel_rfl) (by kernel_rfl) (by kernel_rfl) (by assumption) (by kernel_rfl) ?_
      refine rv (D.int IntKind.i64 c[i]) ?_
      refine ra0 (D.int IntKind.i64 c[i]) ?_
      refine k_done (k_skip_seq (k_seq ?_))
      refine rv (D.int IntKind.i64 c[i]) ?_
      refine rv (D.int IntKind.i64 w) ?_
      refine rv (D.bool (c[i] != w)) ?_
      refine rv (D.bool (c[i] != w)) ?_
      refine rkn 16 (c[i] != w) false (bne_eq_false_iff_eq.2 (by assumption)) ?_
      refine rno (rno (rno (rno ?_)))
      refine rv (D.bool false) ?_
      refine k_done (k_skip_seq (kcf (k_skip_block (k_skip_seq ?_))))
      refine rve (D.int IntKind.i64 (IntKind.wrap IntKind.i64 ((↑i : Int) + (1 : Int)))) (.int IntKind.i64 ((i + 1 : Nat) : Int)) (congrArg (D.int IntKind.i64) (show IntKind.wrap IntKind.i64 ((↑i : Int) + (1 : Int)) = ((i + 1 : Nat) : Int) from wrap_eq (by omega) (by omega) (by omega))) ?_
      refine rv (D.int IntKind.i64 (↑(i + (1 : Nat)) : Int)) ?_
      refine k_done (k_skip_back ?_)
      exact ⟨i + 1, hlt, by omega, by kernel_rfl, by rw [hnx]⟩
    · by_cases hin : c[i] ∈ O
      · rw [if_neg (fun h => h.2 hin)] at hnx
        rw [decide_eq_true hin] at hcon
        refine k_seq ?_
        refine rv (D.bool (decide ((↑i : Int) < (↑(List.length c) : Int)))) ?_
        refine k_done (k_skip_seq (k_seq ?_))
        refine rkn 10 (decide ((↑i : Int) < (↑(List.length c) : Int))) true (decide_eq_true (by omega)) ?_
        refine kct (k_skip_seq (k_seq (k_block (k_seq ?_))))
        refine runs_index (c) (eInt) (o := none) (kd := IntKind.i64) (i) (by kernel_rfl) (by kernel_rfl) (by kernel_rfl) (by assumption) (by kernel_rfl) ?_
        refine rv (D.int IntKind.i64 c[i]) ?_
        refine ra0 (D.int IntKind.i64 c[i]) ?_
        refine k_done (k_skip_seq (k_seq ?_))
        refine rv (D.int IntKind.i64 c[i]) ?_
        refine rv (D.int IntKind.i64 w) ?_
        refine rv (D.bool (c[i] != w)) ?_
        refine rv (D.bool (c[i] != w)) ?_
        refine rkn 16 (c[i] != w) true (bne_iff_ne.2 (by assumption)) ?_
        refine runs_loadP (k) ((0 : Nat)) _ _ (by kernel_rfl) (by kernel_rfl) (set_get (by assumption)) rfl ?_
        refine rv (D.int IntKind.i64 c[i]) ?_
        refine runs_call ([D.sl (ints O) none, D.int IntKind.i64 c[i]]) (by kernel_rfl) (by kernel_rfl) (by kernel_rfl) (by kernel_rfl) (hcon) (by kernel_rfl) ?_
        refine rv (D.bool false) ?_
        refine rv (D.bool false) ?_
        refine k_done (k_skip_seq (kcf (k_skip_block (k_skip_seq ?_))))
        refine rve (D.int IntKind.i64 (IntKind.wrap IntKind.i64 ((↑i : Int) + (1 : Int)))) (.int IntKind.i64 ((i + 1 : Nat) : Int)) (congrArg (D.int IntKind.i64) (show IntKind.wrap IntKind.i64 ((↑i : Int) + (1 : Int)) = ((i + 1 : Nat) : Int) from wrap_eq (by omega) (by omega) (by omega))) ?_
        refine rv (D.int IntKind.i64 (↑(i + (1 : Nat)) : Int)) ?_
        refine k_done (k_skip_back ?_)
        exact ⟨i + 1, hlt, by omega, by kernel_rfl, by rw [hnx]⟩
      · rw [if_pos ⟨hw, hin⟩] at hnx
        rw [decide_eq_false hin] at hcon
        refine k_seq ?_
        refine rv (D.bool (decide ((↑i : Int) < (↑(List.length c) : Int)))) ?_
        refine k_done (k_skip_seq (k_seq ?_))
        refine rkn 10 (decide ((↑i : Int) < (↑(List.length c) : Int))) true (decide_eq_true (by omega)) ?_
        refine kct (k_skip_seq (k_seq (k_block (k_seq ?_))))
        refine runs_index (c) (eInt) (o := none) (kd := IntKind.i64) (i) (by kernel_rfl) (by kernel_rfl) (by kernel_rfl) (by assumption) (by kernel_rfl) ?_
        refine rv (D.int IntKind.i64 c[i]) ?_
        refine ra0 (D.int IntKind.i64 c[i]) ?_
        refine k_done (k_skip_seq (k_seq ?_))
        refine rv (D.int IntKind.i64 c[i]) ?_
        refine rv (D.int IntKind.i64 w) ?_
        refine rv (D.bool (c[i] != w)) ?_
        refine rv (D.bool (c[i] != w)) ?_
        refine rkn 16 (c[i] != w) true (bne_iff_ne.2 (by assumption)) ?_
        refine runs_loadP (k) ((0 : Nat)) _ _ (by kernel_rfl) (by kernel_rfl) (set_get (by assumption)) rfl ?_
        refine rv (D.int IntKind.i64 c[i]) ?_
        refine runs_call ([D.sl (ints O) none, D.int IntKind.i64 c[i]]) (by kernel_rfl) (by kernel_rfl) (by kernel_rfl) (by kernel_rfl) (hcon) (by kernel_rfl) ?_
        refine rv (D.bool true) ?_
        refine rv (D.bool true) ?_
        refine k_done (k_skip_seq (kct ?_))
        refine runs_loadT (k) (0) ([D.sl (ints O) (some (3 : Nat))]) ([D.sl (ints O) none]) (D.sl (ints O) (some (3 : Nat))) (List.set (σ) (k) (Obj.cells ([D.sl (ints O) none]))) (by kernel_rfl) (by kernel_rfl) (set_get (by assumption)) rfl (by kernel_rfl) (by simp only [List.set_set]) ?_
        refine rv (D.int IntKind.i64 c[i]) ?_
        refine rv (D.sl [[D.int IntKind.i64 c[i]]] (some (3 : Nat))) ?_
        refine runs_append (ints O) ([[D.int IntKind.i64 c[i]]]) (ints (O ++ [c[i]])) (by kernel_rfl) (by kernel_rfl) (by kernel_rfl) (by kernel_rfl) (by simp [ints, eInt, rows, eInts, bools, eBool, trips, eTrip, i8s, room]; omega) (by simp [ints, eInt, rows, eInts, bools, eBool, trips, eTrip, i8s]) ?_
        refine runs_storeT (k) (0) ([D.sl (ints O) none]) ([D.sl (ints (O ++ [c[i]])) (some (3 : Nat))]) (D.sl (ints (O ++ [c[i]])) (some (3 : Nat))) (List.set (σ) (k) (Obj.cells ([D.sl (ints (O ++ [c[i]])) (some (3 : Nat))]))) (by kernel_rfl) (by kernel_rfl) (by kernel_rfl) (by kernel_rfl) (by kernel_rfl) (by kernel_rfl) (set_get (by assumption)) (by simp) (by kernel_rfl) (by simp only [List.set_set]) ?_
        refine k_done (k_skip_block (k_skip_seq ?_))
        refine rve (D.int IntKind.i64 (IntKind.wrap IntKind.i64 ((↑i : Int) + (1 : Int)))) (.int IntKind.i64 ((i + 1 : Nat) : Int)) (congrArg (D.int IntKind.i64) (show IntKind.wrap IntKind.i64 ((↑i : Int) + (1 : Int)) = ((i + 1 : Nat) : Int) from wrap_eq (by omega) (by omega) (by omega))) ?_
        refine rv (D.int IntKind.i64 (↑(i + (1 : Nat)) : Int)) ?_
        refine k_done (k_skip_back ?_)
        exact ⟨i + 1, hlt, by omega, by kernel_rfl, by rw [hnx]⟩
  · rw [List.take_of_length_le (by omega)]
    refine k_seq ?_
    refine rv (D.bool (decide ((↑i : Int) < (↑(List.length c) : Int)))) ?_
    refine k_done (k_skip_seq (k_seq ?_))
    refine rkn 10 (decide ((↑i : Int) < (↑(List.length c) : Int))) false (decide_eq_false (by omega)) ?_
    refine kcf (k_exit_seq (k_exit_back (k_exit_hit rfl (k_skip_nil ?_))))
    exact ⟨.inl rfl, by kernel_rfl, by kernel_rfl⟩
theorem put51' (n : Nat) (c : List Int) (w : Int) (o : Option Nat) (A S : Obj) (ρ : St) (out : List Int) (hn : c.length + out.length + 10 < n) (hc : c.length + out.length < 100000) :
    callN T (n + 1) 51 [.sl (ints c) o, .int .i64 w, .ptr (ρ.length + 2) 0] (A :: S :: (ρ ++ [.cells [.sl (ints out) (some 3)]])) = some (.tup [], A :: S :: (ρ ++ [.cells [.sl (ints (addAll w c out)) (some 3)]])) := by
  have := put51_ok n c w o (ρ.length + 2) (A :: S :: (ρ ++ [.cells [.sl (ints out) (some 3)]])) out (by simp) hn hc
  rw [set_last2, set_last2] at this
  exact this
def madeR (l : List (List Int)) (a b p : Int) : List Int := addAll (0 - p) (l.getD b.toNat []) (addAll p (l.getD a.toNat []) [])
theorem resolved_ok (n : Nat) (A : Obj) (l : List (List Int)) (given N : Nat) (TR : D) (steps : List (Int × Int × Int)) (left tried : Int) (ρ : St) (a b p : Int) (ha : 0 ≤ a ∧ a.toNat < l.length) (hb : 0 ≤ b ∧ b.toNat < l.length) (hp : -100000 ≤ p ∧ p ≤ 100000)
    (hl : l.length ≤ 1000000) (hs : steps.length ≤ 1000000) (hc : ∀ c ∈ l, c.length ≤ 1000) (hn : 5000 < n) :
    callN T (n + 1) 48 [.ptr 1 0, .int .i64 a, .int .i64 b, .int .i64 p] (A :: SO l given N TR steps left tried :: ρ) =
      some (.int .i64 l.length, A :: SO (l ++ [madeR l a b p]) given N TR (steps ++ [(a, b, p)]) left tried :: (ρ ++ [.cells [.sl (ints (madeR l a b p)) (some 3)]])) := by
  have ga : l.getD a.toNat [] = l[a.toNat]'ha.2 := by rw [List.getD_eq_getElem?_getD, List.getElem?_eq_getElem ha.2]; rfl
  have gb : l.getD b.toNat [] = l[b.toNat]'hb.2 := by rw [List.getD_eq_getElem?_getD, List.getElem?_eq_getElem hb.2]; rfl
  have ca := hc _ (List.getElem_mem ha.2)
  have cb := hc _ (List.getElem_mem hb.2)
  have h1 := addAll_len p (l[a.toNat]'ha.2) []
  unfold madeR
  rw [ga, gb]
  obtain ⟨ha0, ha1⟩ := ha
  obtain ⟨hb0, hb1⟩ := hb
  obtain ⟨n, rfl⟩ : ∃ k, n = k + 1 := ⟨n - 1, by omega⟩
  have p1 := put51' n l[a.toNat] p none A (SO l given N TR steps left tried) ρ [] (by simp; omega) (by simp; omega)
  have p2 := put51' n l[b.toNat] (0 - p) none A (SO l given N TR steps left tried) ρ (addAll p l[a.toNat] []) (by simp at h1; omega) (by simp at h1; omega)
  generalize addAll p l[a.toNat] [] = o1 at *
  generalize addAll (0 - p) l[b.toNat] o1 = o2 at *
  refine call_of (m := m48) rfl rfl (by decide) (k_start ?_)
  unfold m48
  have hll : (l ++ [o2]).length = l.length + 1 := by simp
  refine k_seq ?_
  refine rv (D.int IntKind.i64 (0 : Int)) ?_
  refine k_done (k_skip_seq (k_seq ?_))
  refine rgf (D.lptr (9 : Nat) (0 : Nat)) (A :: Obj.cells [D.sl (rows l) (some (34 : Nat)), D.int IntKind.i64 (↑given : Int), D.msl (0 : Nat) (0 : Nat) N (1 : Nat), TR, D.sl (trips steps) (some (55 : Nat)), D.int IntKind.i64 left, D.int IntKind.i64 tried] :: ρ) ?_
  refine k_done (k_skip_seq (k_seq ?_))
  refine rgf (D.func (51 : Nat) [D.ptr (List.length ρ + (2 : Nat)) (0 : Nat)]) (A :: Obj.cells [D.sl (rows l) (some (34 : Nat)), D.int IntKind.i64 (↑given : Int), D.msl (0 : Nat) (0 : Nat) N (1 : Nat), TR, D.sl (trips steps) (some (55 : Nat)), D.int IntKind.i64 left, D.int IntKind.i64 tried] :: (ρ ++ [Obj.cells [D.sl [] (some (3 : Nat))]])) ?_
  refine ra0 (D.func (51 : Nat) [D.ptr (List.length ρ + (2 : Nat)) (0 : Nat)]) ?_
  refine k_done (k_skip_seq (k_seq ?_))
  refine rv (D.func (51 : Nat) [D.ptr (List.length ρ + (2 : Nat)) (0 : Nat)]) ?_
  refine rv (D.ptr (1 : Nat) (0 : Nat)) ?_
  refine rv (D.ptr (1 : Nat) (0 : Nat)) ?_
  refine rv (D.ptr (1 : Nat) (0 : Nat)) ?_
  refine rv (D.sl (rows l) none) ?_
  refine rv (D.int IntKind.i64 a) ?_
  refine runs_indexI (l) (eInts) (o := none) (kd := IntKind.i64) (a) (by kernel_rfl) (by kernel_rfl) (by kernel_rfl) (by assumption) (by assumption) (by kernel_rfl) ?_
  refine rv (D.sl (ints l[Int.toNat a]) none) ?_
  refine rv (D.int IntKind.i64 p) ?_
  refine runs_callv_st ((51 : Nat)) ([D.ptr (List.length ρ + (2 : Nat)) (0 : Nat)]) ([D.sl (ints l[Int.toNat a]) none, D.int IntKind.i64 p]) ([D.sl (ints l[Int.toNat a]) none, D.int IntKind.i64 p, D.ptr (List.length ρ + (2 : Nat)) (0 : Nat)]) (by kernel_rfl) (by kernel_rfl) (by kernel_rfl) (by kernel_rfl) (by kernel_rfl) (by kernel_rfl) (p1) ?_
  refine k_done (k_skip_seq (k_seq ?_))
  refine rv (D.func (51 : Nat) [D.ptr (List.length ρ + (2 : Nat)) (0 : Nat)]) ?_
  refine rv (D.ptr (1 : Nat) (0 : Nat)) ?_
  refine rv (D.ptr (1 : Nat) (0 : Nat)) ?_
  refine rv (D.ptr (1 : Nat) (0 : Nat)) ?_
  refine rv (D.sl (rows l) none) ?_
  refine rv (D.int IntKind.i64 b) ?_
  refine runs_indexI (l) (eInts) (o := none) (kd := IntKind.i64) (b) (by kernel_rfl) (by kernel_rfl) (by kernel_rfl) (by assumption) (by assumption) (by kernel_rfl) ?_
  refine rv (D.sl (ints l[Int.toNat b]) none) ?_
  refine rv (D.int IntKind.i64 p) ?_
  refine rve (D.int IntKind.i64 (IntKind.wrap IntKind.i64 ((0 : Int) - p))) (.int IntKind.i64 ((0 : Int) - p)) (congrArg (D.int IntKind.i64) (show IntKind.wrap IntKind.i64 ((0 : Int) - p) = ((0 : Int) - p) from wrap_eq (by omega) (by omega) (by omega))) ?_
  refine runs_callv_st ((51 : Nat)) ([D.ptr (List.length ρ + (2 : Nat)) (0 : Nat)]) ([D.sl (ints l[Int.toNat b]) none, D.int IntKind.i64 ((0 : Int) - p)]) ([D.sl (ints l[Int.toNat b]) none, D.int IntKind.i64 ((0 : Int) - p), D.ptr (List.length ρ + (2 : Nat)) (0 : Nat)]) (by kernel_rfl) (by kernel_rfl) (by kernel_rfl) (by kernel_rfl) (by kernel_rfl) (by kernel_rfl) (p2) ?_
  refine k_done (k_skip_seq (k_seq ?_))
  refine rv (D.ptr (1 : Nat) (0 : Nat)) ?_
  refine rv (D.ptr (1 : Nat) (0 : Nat)) ?_
  refine rv (D.ptr (1 : Nat) (0 : Nat)) ?_
  refine rv (D.ptr (1 : Nat) (0 : Nat)) ?_
  refine rgs (D.sl (rows l) (some (34 : Nat))) (A :: Obj.cells [D.sl (rows l) none, D.int IntKind.i64 (↑given : Int), D.msl (0 : Nat) (0 : Nat) N (1 : Nat), TR, D.sl (trips steps) (some (55 : Nat)), D.int IntKind.i64 left, D.int IntKind.i64 tried] :: (ρ ++ [Obj.cells [D.sl (ints o2) (some (3 : Nat))]])) ?_
  refine runs_loadP (List.length ρ + (2 : Nat)) ((0 : Nat)) _ _ (by kernel_rfl) (by kernel_rfl) (get_last2 _ _ _ _) rfl ?_
  refine rv (D.sl [[D.sl (ints o2) none]] (some (34 : Nat))) ?_
  refine runs_append (rows l) ([[D.sl (ints o2) none]]) (rows (l ++ [o2])) (by kernel_rfl) (by kernel_rfl) (by kernel_rfl) (by kernel_rfl) (by simp [ints, eInt, rows, eInts, bools, eBool, trips, eTrip, i8s, room]; omega) (by simp [ints, eInt, rows, eInts, bools, eBool, trips, eTrip, i8s]) ?_
  refine rv (D.ptr (1 : Nat) (0 : Nat)) ?_
  refine rv (D.ptr (1 : Nat) (0 : Nat)) ?_
  refine rgf (D.junk) (A :: Obj.cells [D.sl (rows (l ++ [o2])) (some (34 : Nat)), D.int IntKind.i64 (↑given : Int), D.msl (0 : Nat) (0 : Nat) N (1 : Nat), TR, D.sl (trips steps) (some (55 : Nat)), D.int IntKind.i64 left, D.int IntKind.i64 tried] :: (ρ ++ [Obj.cells [D.sl (ints o2) (some (3 : Nat))]])) ?_
  refine k_done (k_skip_seq (k_seq ?_))
  refine rv (D.ptr (1 : Nat) (0 : Nat)) ?_
  refine rv (D.ptr (1 : Nat) (0 : Nat)) ?_
  refine rv (D.ptr (1 : Nat) (0 : Nat)) ?_
  refine rv (D.ptr (1 : Nat) (4 : Nat)) ?_
  refine rgs (D.sl (trips steps) (some (55 : Nat))) (A :: Obj.cells [D.sl (rows (l ++ [o2])) (some (34 : Nat)), D.int IntKind.i64 (↑given : Int), D.msl (0 : Nat) (0 : Nat) N (1 : Nat), TR, D.sl (trips steps) none, D.int IntKind.i64 left, D.int IntKind.i64 tried] :: (ρ ++ [Obj.cells [D.sl (ints o2) (some (3 : Nat))]])) ?_
  refine rv (D.int IntKind.i64 a) ?_
  refine rv (D.int IntKind.i64 b) ?_
  refine rv (D.int IntKind.i64 p) ?_
  refine rv (D.agg [D.int IntKind.i64 a, D.int IntKind.i64 b, D.int IntKind.i64 p]) ?_
  refine rv (D.sl [[D.int IntKind.i64 a, D.int IntKind.i64 b, D.int IntKind.i64 p]] (some (55 : Nat))) ?_
  refine runs_append (trips steps) ([[D.int IntKind.i64 a, D.int IntKind.i64 b, D.int IntKind.i64 p]]) (trips (steps ++ [(a, b, p)])) (by kernel_rfl) (by kernel_rfl) (by kernel_rfl) (by kernel_rfl) (by simp [ints, eInt, rows, eInts, bools, eBool, trips, eTrip, i8s, room]; omega) (by simp [ints, eInt, rows, eInts, bools, eBool, trips, eTrip, i8s]) ?_
  refine rv (D.ptr (1 : Nat) (0 : Nat)) ?_
  refine rv (D.ptr (1 : Nat) (4 : Nat)) ?_
  refine rgf (D.junk) (A :: Obj.cells [D.sl (rows (l ++ [o2])) (some (34 : Nat)), D.int IntKind.i64 (↑given : Int), D.msl (0 : Nat) (0 : Nat) N (1 : Nat), TR, D.sl (trips (steps ++ [(a, b, p)])) (some (55 : Nat)), D.int IntKind.i64 left, D.int IntKind.i64 tried] :: (ρ ++ [Obj.cells [D.sl (ints o2) (some (3 : Nat))]])) ?_
  refine k_done (k_skip_seq (k_seq ?_))
  refine rv (D.ptr (1 : Nat) (0 : Nat)) ?_
  refine rv (D.ptr (1 : Nat) (0 : Nat)) ?_
  refine rv (D.ptr (1 : Nat) (0 : Nat)) ?_
  refine rv (D.sl (rows (l ++ [o2])) none) ?_
  refine rve (D.int IntKind.i64 (↑(List.length (rows (l ++ [o2]))) : Int)) (.int IntKind.i64 ((↑(List.length (l ++ [o2])) : Int))) (by simp only [ints, eInt, rows, eInts, bools, eBool, trips, eTrip, i8s, List.length_map]) ?_
  refine rve (D.int IntKind.i64 (IntKind.wrap IntKind.i64 ((↑(List.length (l ++ [o2])) : Int) - (1 : Int)))) (.int IntKind.i64 ((List.length (l ++ [o2]) - 1 : Nat) : Int)) (congrArg (D.int IntKind.i64) (show IntKind.wrap IntKind.i64 ((↑(List.length (l ++ [o2])) : Int) - (1 : Int)) = ((List.length (l ++ [o2]) - 1 : Nat) : Int) from wrap_eq (by omega) (by omega) (by omega))) ?_
  refine ra0 (D.int IntKind.i64 (↑(List.length (l ++ [o2]) - (1 : Nat)) : Int)) ?_
  refine k_done (k_skip_seq (k_ret ?_))
  refine ⟨.inr rfl, by kernel_rfl, ?_⟩
  rw [show (l.length : Int) = (((l ++ [o2]).length - 1 : Nat) : Int) by simp]
  show _ = _
  kernel_rfl
end Go.Abs.B

/-
  The given program's solver: why.
-/
namespace Go.Abs.B
open Go Go.Abs
set_option maxRecDepth 8000
attribute [local irreducible] callN runC evalOp

theorem TrRep.app {TR : D} {ρ : St} {t : List (Int × Int)} (h : TrRep TR ρ t) (e : St) : TrRep TR (ρ ++ e) t := by
  rcases h with h | ⟨j, cs, h1, h2, h3, h4⟩
  · exact .inl h
  · refine .inr ⟨j, cs, h1, ?_, ?_, h4⟩
    · rw [List.getElem?_append_left (List.getElem?_eq_some_iff.1 h2).1]
      exact h2
    · rw [List.getElem?_append_left (List.getElem?_eq_some_iff.1 h3).1]
      exact h3
/-- Clauses as the solver has them. -/
def CLp (N : Nat) (l : List (List Int)) : Prop := ∀ c ∈ l, okC N c ∧ c.length ≤ 2 * N + 12
theorem okC_len {N : Nat} {c : List Int} (h : okC N c) (hn : c.Nodup) : c.length ≤ 2 * N := by
  have := nodup_len c ((List.range N).map (fun i : Nat => (i : Int)) ++ (List.range N).map (fun i : Nat => -(i : Int))) hn (fun v hv => by
    have h2 := (h v hv).2
    by_cases hs : v < 0
    · refine List.mem_append.2 (.inr (List.mem_map.2 ⟨v.natAbs, List.mem_range.2 h2, by omega⟩))
    · refine List.mem_append.2 (.inl (List.mem_map.2 ⟨v.natAbs, List.mem_range.2 h2, by omega⟩)))
  simp only [List.length_append, List.length_map, List.length_range] at this
  omega
theorem CLp.get {N : Nat} {l : List (List Int)} (h : CLp N l) (i : Nat) : okC N (l.getD i []) := by
  by_cases hi : i < l.length
  · rw [List.getD_eq_getElem?_getD, List.getElem?_eq_getElem hi]
    exact (h _ (List.getElem_mem hi)).1
  · rw [List.getD_eq_getElem?_getD, List.getElem?_eq_none (by omega)]
    exact fun v hv => (List.not_mem_nil hv).elim
theorem CLp.made {N : Nat} {l : List (List Int)} (h : CLp N l) (a b p : Int) : CLp N (l ++ [madeR l a b p]) := by
  intro c hc
  rcases List.mem_append.1 hc with hc | hc
  · exact h c hc
  · simp only [List.mem_singleton] at hc
    subst hc
    have hok : okC N (madeR l a b p) := by
      intro v hv
      rcases addAll_mem _ _ _ v hv with hv | hv
      · rcases addAll_mem _ _ _ v hv with hv | hv
        · exact (List.not_mem_nil hv).elim
        · exact h.get _ v hv
      · exact h.get _ v hv
    refine ⟨hok, ?_⟩
    have := okC_len hok (addAll_nodup _ _ _ (addAll_nodup _ _ _ List.nodup_nil))
    omega
/-- Of a failure a clause whose literals were all chosen otherwise. -/
def whyR : Nat → List (Int × Int) → List (List Int) → List (Int × Int × Int) → Int → List (List Int) × List (Int × Int × Int) × Int
  | 0, _, l, steps, c => (l, steps, c)
  | k + 1, t, l, steps, c =>
    if 0 ≤ (t.getD k (0, 0)).2 ∧ 0 - (t.getD k (0, 0)).1 ∈ l.getD c.toNat [] then whyR k t (l ++ [madeR l (t.getD k (0, 0)).2 c (t.getD k (0, 0)).1]) (steps ++ [((t.getD k (0, 0)).2, c, (t.getD k (0, 0)).1)]) l.length
    else whyR k t l steps c
def f44 (c i : Int) : Fr := Fr.mk ([.ptr 1 0, .int .i64 c, .junk, .junk, .int .i64 0, .int .i64 i] ++ List.replicate 42 .junk) (List.replicate 48 none) []
set_option maxHeartbeats 1600000 in
theorem why_ok (fu N : Nat) (A : Obj) (l : List (List Int)) (given : Nat) (TR : D) (steps : List (Int × Int × Int)) (left tried : Int) (ρ : St) (t : List (Int × Int)) (c : Int) (hN : N ≤ 400) (hCL : CLp N l) (ht : TrRep TR ρ t) (hok : ∀ f ∈ t, okL N f.1 ∧ f.2 < l.length) (htl : t.length ≤ 400)
    (hc : 0 ≤ c ∧ c.toNat < l.length) (hll : l.length ≤ 900000) (hsl : steps.length ≤ 900000) (hf : 10000 < fu) :
    ∃ ρ', callN T (fu + 1) 44 [.ptr 1 0, .int .i64 c] (A :: SO l given N TR steps left tried :: ρ) = some (.int .i64 (whyR t.length t l steps c).2.2, A :: SO (whyR t.length t l steps c).1 given N TR (whyR t.length t l steps c).2.1 left tried :: ρ') ∧ Fr2 ρ ρ' ∧ TrRep TR ρ' t := by
  suffices H : ∃ d σ', callN T (fu + 1) 44 [.ptr 1 0, .int .i64 c] (A :: SO l given N TR steps left tried :: ρ) = some (d, σ') ∧ (d = .int .i64 (whyR t.length t l steps c).2.2 ∧ ∃ ρ', σ' = A :: SO (whyR t.length t l steps c).1 given N TR (whyR t.length t l steps c).2.1 left tried :: ρ' ∧ Fr2 ρ ρ' ∧ TrRep TR ρ' t) by
    obtain ⟨d, σ', h1, rfl, ρ', rfl, h2⟩ := H
    exact ⟨ρ', h1, h2⟩
  generalize hR : whyR t.length t l steps c = R
  refine call_ofX (m := m44) rfl rfl (by decide) (k_start ?_)
  unfold m44
  obtain ⟨fu, rfl⟩ : ∃ k, fu = k + 2 := ⟨fu - 2, by omega⟩
  have hTR : TR = .sl [] (some 88) ∧ t = [] ∨ ∃ j, TR = .msl (j + 2) 0 t.length 2 := by
    rcases ht with h | ⟨j, cs, h, _⟩
    · exact .inl h
    · exact .inr ⟨j, h⟩
  rcases hTR with ⟨rfl, rfl⟩ | ⟨j, rfl⟩
  · have hR' : R = (l, steps, c) := hR.symm
    refine k_seq ?_
    refine rv (D.int IntKind.i64 (0 : Int)) ?_
    refine k_done (k_skip_seq (k_seq (k_seq ?_)))
    refine rv (D.ptr (1 : Nat) (0 : Nat)) ?_
    refine rv (D.ptr (1 : Nat) (0 : Nat)) ?_
    refine rv (D.ptr (1 : Nat) (3 : Nat)) ?_
    refine rv (D.sl [] none) ?_
    refine rv (D.int IntKind.i64 (0 : Int)) ?_
    refine rv (D.int IntKind.i64 (-1 : Int)) ?_
    refine ra0 (D.int IntKind.i64 (-1 : Int)) ?_
    refine k_done (k_skip_seq (k_block ?_))
    refine k_loop (S := Unit) (fun _ => f44 c (-1)) (fun _ => A :: SO l given N (.sl [] (some 88)) steps left tried :: ρ) (fun _ => True) (fun _ => 0) () (by kernel_rfl) rfl trivial (by intro s hs; omega) ?_
    intro _ _
    refine k_seq (k_seq ?_)
    refine rv (D.int IntKind.i64 (-1 : Int)) ?_
    refine rv (D.bool false) ?_
    refine k_done (k_skip_seq (kcf (k_exit_seq (k_exit_back (k_exit_hit rfl (k_skip_seq (k_seq ?_)))))))
    refine rv (D.int IntKind.i64 c) ?_
    refine ra0 (D.int IntKind.i64 c) ?_
    refine k_done (k_skip_seq (k_ret ?_))
    refine ⟨.inr rfl, by kernel_rfl, .int .i64 c, A :: SO l given N (.sl [] (some 88)) steps left tried :: ρ, by kernel_rfl, ?_⟩
    rw [hR']
    exact ⟨rfl, ρ, rfl, .refl ρ, ht⟩
  · refine k_seq ?_
    refine rv (D.int IntKind.i64 (0 : Int)) ?_
    refine k_done (k_skip_seq (k_seq (k_seq ?_)))
    refine rv (D.ptr (1 : Nat) (0 : Nat)) ?_
    refine rv (D.ptr (1 : Nat) (0 : Nat)) ?_
    refine rv (D.ptr (1 : Nat) (3 : Nat)) ?_
    refine rv (D.msl (j + (2 : Nat)) (0 : Nat) (List.length t) (2 : Nat)) ?_
    refine rv (D.int IntKind.i64 (↑(List.length t) : Int)) ?_
    refine rve (D.int IntKind.i64 (IntKind.wrap IntKind.i64 ((↑(List.length t) : Int) - (1 : Int)))) (.int IntKind.i64 ((↑(List.length t) : Int) - (1 : Int))) (congrArg (D.int IntKind.i64) (show IntKind.wrap IntKind.i64 ((↑(List.length t) : Int) - (1 : Int)) = ((↑(List.length t) : Int) - (1 : Int)) from wrap_eq (by omega) (by omega) (by omega))) ?_
    refine ra0 (D.int IntKind.i64 ((↑(List.length t) : Int) - (1 : Int))) ?_
    refine k_done (k_skip_seq (k_block ?_))
    refine k_loop (S := Int × List (List Int) × List (Int × Int × Int) × Int × St) (fun s => f44 s.2.2.2.1 s.1) (fun s => A :: SO s.2.1 given N (.msl (j + 2) 0 t.length 2) s.2.2.1 left tried :: s.2.2.2.2)
      (fun s => -1 ≤ s.1 ∧ s.1 < t.length ∧ whyR (s.1 + 1).toNat t s.2.1 s.2.2.1 s.2.2.2.1 = R ∧ CLp N s.2.1 ∧ 0 ≤ s.2.2.2.1 ∧ s.2.2.2.1.toNat < s.2.1.length ∧ l.length ≤ s.2.1.length ∧ s.2.1.length + (s.1 + 1).toNat ≤ 910000 ∧ s.2.2.1.length + (s.1 + 1).toNat ≤ 910000 ∧ Fr2 ρ s.2.2.2.2 ∧ TrRep (.msl (j + 2) 0 t.length 2) s.2.2.2.2 t)
      (fun s => (s.1 + 1).toNat) ((t.length : Int) - 1, l, steps, c, ρ) (by kernel_rfl) rfl ?_ (by rintro s ⟨h1, h2, _⟩; omega) ?_
    · simp only []
      refine ⟨by omega, by omega, ?_, hCL, hc.1, hc.2, Nat.le_refl _, by omega, by omega, .refl ρ, ht⟩
      rw [show ((t.length : Int) - 1 + 1).toNat = t.length by omega]
      exact hR
    · rintro ⟨i, l1, st1, c1, ρ1⟩ ⟨hi1, hi2, hR1, hCL1, hc0, hc1, hl1, hll1, hsl1, hF1, ht1⟩
      simp only [] at hi1 hi2 hR1 hCL1 hc0 hc1 hl1 hll1 hsl1 hF1 ht1
      show Runs (runC (callN T (fu + 2)) (fu + 2) l44_0 (f44 c1 i) (A :: SO l1 given N (.msl (j + 2) 0 t.length 2) st1 left tried :: ρ1)) _
      by_cases h0 : 0 ≤ i
      · have hm1 : (i + 1).toNat = i.toNat + 1 := by omega
        have hk : i.toNat < t.length := by omega
        have hg : t.getD i.toNat (0, 0) = t[i.toNat]'hk := by rw [List.getD_eq_getElem?_getD, List.getElem?_eq_getElem hk]; rfl
        have hgl : l1.getD c1.toNat [] = l1[c1.toNat]'hc1 := by rw [List.getD_eq_getElem?_getD, List.getElem?_eq_getElem hc1]; rfl
        rw [hm1] at hR1
        have hwe : whyR (i.toNat + 1) t l1 st1 c1 = if 0 ≤ (t.getD i.toNat (0, 0)).2 ∧ 0 - (t.getD i.toNat (0, 0)).1 ∈ l1.getD c1.toNat [] then whyR i.toNat t (l1 ++ [madeR l1 (t.getD i.toNat (0, 0)).2 c1 (t.getD i.toNat (0, 0)).1]) (st1 ++ [((t.getD i.toNat (0, 0)).2, c1, (t.getD i.toNat (0, 0)).1)]) l1.length else whyR i.toNat t l1 st1 c1 := rfl
        rw [hwe, hg, hgl] at hR1
        obtain ⟨j', cs, e1, hj, hr, hcs, hlc, hev⟩ : ∃ (j' : Nat) (cs : List D), D.msl (j + 2) 0 t.length 2 = .msl (j' + 2) 0 t.length 2 ∧ ρ1[j']? = some (.cells cs) ∧ ρ1[j' + 1]? = some (.row 88) ∧ cs.take (t.length * 2) = flT t ∧ t.length * 2 ≤ cs.length ∧ cs.length % 2 = 0 := by
          rcases ht1 with ⟨h, _⟩ | h
          · cases h
          · exact h
        obtain rfl : j = j' := by
          injection e1 with e1
          omega
        have hld := tr_load hcs hk
        have hix : (0 : Nat) + Int.toNat i * (2 : Nat) = i.toNat * 2 := by omega
        rw [← hix] at hld
        have hfk := hok _ (List.getElem_mem hk)
        generalize t[i.toNat] = f at *
        obtain ⟨v, b⟩ := f
        simp only [] at hR1 hld hfk
        have hv := hfk.1
        have hvb := hv.2
        have hbl := hfk.2
        have hcl := hCL1 _ (List.getElem_mem hc1)
        have hci : (i - 1 + 1).toNat = i.toNat := by omega
        by_cases hb : 0 ≤ b
        · have hcon := contains_ok fu (l1[c1.toNat]'hc1) (0 - v) none [] (by omega) (by omega)
          by_cases hin : 0 - v ∈ l1[c1.toNat]'hc1
          · rw [if_pos ⟨hb, hin⟩] at hR1
            rw [decide_eq_true hin] at hcon
            have hres := resolved_ok (fu + 1) A l1 given N (.msl (j + 2) 0 t.length 2) st1 left tried ρ1 b c1 v ⟨hb, by omega⟩ ⟨hc0, hc1⟩ (by omega) (by omega) (by omega) (fun c hc => by have := (hCL1 c hc).2; omega) (by omega)
            refine k_seq (k_seq ?_)
            refine rv (D.int IntKind.i64 i) ?_
            refine rv (D.bool (decide (i ≥ (0 : Int)))) ?_
            refine k_done (k_skip_seq ?_)
            refine rkn 14 (decide (i ≥ (0 : Int))) true (decide_eq_true (by assumption)) ?_
            refine kct (k_skip_seq (k_seq (k_block (k_seq ?_))))
            refine rv (D.ptr (1 : Nat) (0 : Nat)) ?_
            refine rv (D.ptr (1 : Nat) (0 : Nat)) ?_
            refine rv (D.ptr (1 : Nat) (3 : Nat)) ?_
            refine rv (D.msl (j + (2 : Nat)) (0 : Nat) (List.length t) (2 : Nat)) ?_
            refine rv (D.int IntKind.i64 i) ?_
            refine runs_indexMI (kd := IntKind.i64) (j + (2 : Nat)) ((0 : Nat)) (List.length t) (i) (by kernel_rfl) (by kernel_rfl) (by kernel_rfl) (by assumption) (by assumption) ?_
            refine runs_loadPA (j + (2 : Nat)) ((0 : Nat) + Int.toNat i * (2 : Nat)) _ _ _ (by kernel_rfl) (by kernel_rfl) (hj) (by assumption) (by kernel_rfl) rfl ?_
            refine rgf (D.lptr (6 : Nat) (0 : Nat)) (A :: Obj.cells [D.sl (rows l1) (some (34 : Nat)), D.int IntKind.i64 (↑given : Int), D.msl (0 : Nat) (0 : Nat) N (1 : Nat), D.msl (j + (2 : Nat)) (0 : Nat) (List.length t) (2 : Nat), D.sl (trips st1) (some (55 : Nat)), D.int IntKind.i64 left, D.int IntKind.i64 tried] :: ρ1) ?_
            refine rgf (D.junk) (A :: Obj.cells [D.sl (rows l1) (some (34 : Nat)), D.int IntKind.i64 (↑given : Int), D.msl (0 : Nat) (0 : Nat) N (1 : Nat), D.msl (j + (2 : Nat)) (0 : Nat) (List.length t) (2 : Nat), D.sl (trips st1) (some (55 : Nat)), D.int IntKind.i64 left, D.int IntKind.i64 tried] :: ρ1) ?_
            refine k_done (k_skip_seq (k_seq ?_))
            refine rv (D.lptr (6 : Nat) (1 : Nat)) ?_
            refine rv (D.int IntKind.i64 b) ?_
            refine rv (D.bool (decide (b ≥ (0 : Int)))) ?_
            refine rv (D.bool (decide (b ≥ (0 : Int)))) ?_
            refine rkn 27 (decide (b ≥ (0 : Int))) true (decide_eq_true (by assumption)) ?_
            refine rv (D.ptr (1 : Nat) (0 : Nat)) ?_
            refine rv (D.ptr (1 : Nat) (0 : Nat)) ?_
            refine rv (D.ptr (1 : Nat) (0 : Nat)) ?_
            refine rv (D.sl (rows l1) none) ?_
            refine rv (D.int IntKind.i64 c1) ?_
            refine runs_indexI (l1) (eInts) (o := none) (kd := IntKind.i64) (c1) (by kernel_rfl) (by kernel_rfl) (by kernel_rfl) (by assumption) (by assumption) (by kernel_rfl) ?_
            refine rv (D.sl (ints l1[Int.toNat c1]) none) ?_
            refine rv (D.lptr (6 : Nat) (0 : Nat)) ?_
            refine rv (D.int IntKind.i64 v) ?_
            refine rve (D.int IntKind.i64 (IntKind.wrap IntKind.i64 ((0 : Int) - v))) (.int IntKind.i64 ((0 : Int) - v)) (congrArg (D.int IntKind.i64) (show IntKind.wrap IntKind.i64 ((0 : Int) - v) = ((0 : Int) - v) from wrap_eq (by omega) (by omega) (by omega))) ?_
            refine runs_call ([D.sl (ints l1[Int.toNat c1]) none, D.int IntKind.i64 ((0 : Int) - v)]) (by kernel_rfl) (by kernel_rfl) (by kernel_rfl) (by kernel_rfl) (hcon) (by kernel_rfl) ?_
            refine rv (D.bool true) ?_
            refine k_done (k_skip_seq (kct ?_))
            refine rv (D.ptr (1 : Nat) (0 : Nat)) ?_
            refine rv (D.lptr (6 : Nat) (1 : Nat)) ?_
            refine rv (D.int IntKind.i64 b) ?_
            refine rv (D.int IntKind.i64 c1) ?_
            refine rv (D.lptr (6 : Nat) (0 : Nat)) ?_
            refine rv (D.int IntKind.i64 v) ?_
            refine runs_call_st ([D.ptr (1 : Nat) (0 : Nat), D.int IntKind.i64 b, D.int IntKind.i64 c1, D.int IntKind.i64 v]) (by kernel_rfl) (by kernel_rfl) (by kernel_rfl) (by kernel_rfl) (hres) ?_
            refine ra0 (D.int IntKind.i64 (↑(List.length l1) : Int)) ?_
            refine k_done (k_skip_block (k_skip_seq ?_))
            refine rv (D.int IntKind.i64 i) ?_
            refine rve (D.int IntKind.i64 (IntKind.wrap IntKind.i64 (i - (1 : Int)))) (.int IntKind.i64 (i - (1 : Int))) (congrArg (D.int IntKind.i64) (show IntKind.wrap IntKind.i64 (i - (1 : Int)) = (i - (1 : Int)) from wrap_eq (by omega) (by omega) (by omega))) ?_
            refine ra0 (D.int IntKind.i64 (i - (1 : Int))) ?_
            refine k_done (k_skip_back ?_)
            refine ⟨(i - 1, l1 ++ [madeR l1 b c1 v], st1 ++ [(b, c1, v)], (l1.length : Int), ρ1 ++ [.cells [.sl (ints (madeR l1 b c1 v)) (some 3)]]), ⟨by simp only []; omega, by simp only []; omega, ?_, hCL1.made b c1 v, by simp only []; omega, by simp, by simp; omega, by simp; omega, by simp; omega, hF1.trans (.app _ _), ht1.app _⟩, by simp only []; omega, by kernel_rfl, rfl⟩
            simp only []
            rw [hci]
            exact hR1
          · rw [if_neg (fun h => hin h.2)] at hR1
            rw [decide_eq_false hin] at hcon
            refine k_seq (k_seq ?_)
            refine rv (D.int IntKind.i64 i) ?_
            refine rv (D.bool (decide (i ≥ (0 : Int)))) ?_
            refine k_done (k_skip_seq ?_)
            refine rkn 14 (decide (i ≥ (0 : Int))) true (decide_eq_true (by assumption)) ?_
            refine kct (k_skip_seq (k_seq (k_block (k_seq ?_))))
            refine rv (D.ptr (1 : Nat) (0 : Nat)) ?_
            refine rv (D.ptr (1 : Nat) (0 : Nat)) ?_
            refine rv (D.ptr (1 : Nat) (3 : Nat)) ?_
            refine rv (D.msl (j + (2 : Nat)) (0 : Nat) (List.length t) (2 : Nat)) ?_
            refine rv (D.int IntKind.i64 i) ?_
            refine runs_indexMI (kd := IntKind.i64) (j + (2 : Nat)) ((0 : Nat)) (List.length t) (i) (by kernel_rfl) (by kernel_rfl) (by kernel_rfl) (by assumption) (by assumption) ?_
            refine runs_loadPA (j + (2 : Nat)) ((0 : Nat) + Int.toNat i * (2 : Nat)) _ _ _ (by kernel_rfl) (by kernel_rfl) (hj) (by assumption) (by kernel_rfl) rfl ?_
            refine rgf (D.lptr (6 : Nat) (0 : Nat)) (A :: Obj.cells [D.sl (rows l1) (some (34 : Nat)), D.int IntKind.i64 (↑given : Int), D.msl (0 : Nat) (0 : Nat) N (1 : Nat), D.msl (j + (2 : Nat)) (0 : Nat) (List.length t) (2 : Nat), D.sl (trips st1) (some (55 : Nat)), D.int IntKind.i64 left, D.int IntKind.i64 tried] :: ρ1) ?_
            refine rgf (D.junk) (A :: Obj.cells [D.sl (rows l1) (some (34 : Nat)), D.int IntKind.i64 (↑given : Int), D.msl (0 : Nat) (0 : Nat) N (1 : Nat), D.msl (j + (2 : Nat)) (0 : Nat) (List.length t) (2 : Nat), D.sl (trips st1) (some (55 : Nat)), D.int IntKind.i64 left, D.int IntKind.i64 tried] :: ρ1) ?_
            refine k_done (k_skip_seq (k_seq ?_))
            refine rv (D.lptr (6 : Nat) (1 : Nat)) ?_
            refine rv (D.int IntKind.i64 b) ?_
            refine rv (D.bool (decide (b ≥ (0 : Int)))) ?_
            refine rv (D.bool (decide (b ≥ (0 : Int)))) ?_
            refine rkn 27 (decide (b ≥ (0 : Int))) true (decide_eq_true (by assumption)) ?_
            refine rv (D.ptr (1 : Nat) (0 : Nat)) ?_
            refine rv (D.ptr (1 : Nat) (0 : Nat)) ?_
            refine rv (D.ptr (1 : Nat) (0 : Nat)) ?_
            refine rv (D.sl (rows l1) none) ?_
            refine rv (D.int IntKind.i64 c1) ?_
            refine runs_indexI (l1) (eInts) (o := none) (kd := IntKind.i64) (c1) (by kernel_rfl) (by kernel_rfl) (by kernel_rfl) (by assumption) (by assumption) (by kernel_rfl) ?_
            refine rv (D.sl (ints l1[Int.toNat c1]) none) ?_
            refine rv (D.lptr (6 : Nat) (0 : Nat)) ?_
            refine rv (D.int IntKind.i64 v) ?_
            refine rve (D.int IntKind.i64 (IntKind.wrap IntKind.i64 ((0 : Int) - v))) (.int IntKind.i64 ((0 : Int) - v)) (congrArg (D.int IntKind.i64) (show IntKind.wrap IntKind.i64 ((0 : Int) - v) = ((0 : Int) - v) from wrap_eq (by omega) (by omega) (by omega))) ?_
            refine runs_call ([D.sl (ints l1[Int.toNat c1]) none, D.int IntKind.i64 ((0 : Int) - v)]) (by kernel_rfl) (by kernel_rfl) (by kernel_rfl) (by kernel_rfl) (hcon) (by kernel_rfl) ?_
            refine rv (D.bool false) ?_
            refine k_done (k_skip_seq (kcf (k_skip_block (k_skip_seq ?_))))
            refine rv (D.int IntKind.i64 i) ?_
            refine rve (D.int IntKind.i64 (IntKind.wrap IntKind.i64 (i - (1 : Int)))) (.int IntKind.i64 (i - (1 : Int))) (congrArg (D.int IntKind.i64) (show IntKind.wrap IntKind.i64 (i - (1 : Int)) = (i - (1 : Int)) from wrap_eq (by omega) (by omega) (by omega))) ?_
            refine ra0 (D.int IntKind.i64 (i - (1 : Int))) ?_
            refine k_done (k_skip_back ?_)
            exact ⟨(i - 1, l1, st1, c1, ρ1), ⟨by simp only []; omega, by simp only []; omega, by simp only []; rw [hci]; exact hR1, hCL1, hc0, hc1, hl1, by simp only []; omega, by simp only []; omega, hF1, ht1⟩, by simp only []; omega, by kernel_rfl, rfl⟩
        · rw [if_neg (fun h => hb h.1)] at hR1
          refine k_seq (k_seq ?_)
          refine rv (D.int IntKind.i64 i) ?_
          refine rv (D.bool (decide (i ≥ (0 : Int)))) ?_
          refine k_done (k_skip_seq ?_)
          refine rkn 14 (decide (i ≥ (0 : Int))) true (decide_eq_true (by assumption)) ?_
          refine kct (k_skip_seq (k_seq (k_block (k_seq ?_))))
          refine rv (D.ptr (1 : Nat) (0 : Nat)) ?_
          refine rv (D.ptr (1 : Nat) (0 : Nat)) ?_
          refine rv (D.ptr (1 : Nat) (3 : Nat)) ?_
          refine rv (D.msl (j + (2 : Nat)) (0 : Nat) (List.length t) (2 : Nat)) ?_
          refine rv (D.int IntKind.i64 i) ?_
          refine runs_indexMI (kd := IntKind.i64) (j + (2 : Nat)) ((0 : Nat)) (List.length t) (i) (by kernel_rfl) (by kernel_rfl) (by kernel_rfl) (by assumption) (by assumption) ?_
          refine runs_loadPA (j + (2 : Nat)) ((0 : Nat) + Int.toNat i * (2 : Nat)) _ _ _ (by kernel_rfl) (by kernel_rfl) (hj) (by assumption) (by kernel_rfl) rfl ?_
          refine rgf (D.lptr (6 : Nat) (0 : Nat)) (A :: Obj.cells [D.sl (rows l1) (some (34 : Nat)), D.int IntKind.i64 (↑given : Int), D.msl (0 : Nat) (0 : Nat) N (1 : Nat), D.msl (j + (2 : Nat)) (0 : Nat) (List.length t) (2 : Nat), D.sl (trips st1) (some (55 : Nat)), D.int IntKind.i64 left, D.int IntKind.i64 tried] :: ρ1) ?_
          refine rgf (D.junk) (A :: Obj.cells [D.sl (rows l1) (some (34 : Nat)), D.int IntKind.i64 (↑given : Int), D.msl (0 : Nat) (0 : Nat) N (1 : Nat), D.msl (j + (2 : Nat)) (0 : Nat) (List.length t) (2 : Nat), D.sl (trips st1) (some (55 : Nat)), D.int IntKind.i64 left, D.int IntKind.i64 tried] :: ρ1) ?_
          refine k_done (k_skip_seq (k_seq ?_))
          refine rv (D.lptr (6 : Nat) (1 : Nat)) ?_
          refine rv (D.int IntKind.i64 b) ?_
          refine rv (D.bool (decide (b ≥ (0 : Int)))) ?_
          refine rv (D.bool (decide (b ≥ (0 : Int)))) ?_
          refine rkn 27 (decide (b ≥ (0 : Int))) false (decide_eq_false (by assumption)) ?_
          refine rno (rno (rno (rno (rno (rno (rno (rno (rno (rno (rno ?_))))))))))
          refine rv (D.bool false) ?_
          refine k_done (k_skip_seq (kcf (k_skip_block (k_skip_seq ?_))))
          refine rv (D.int IntKind.i64 i) ?_
          refine rve (D.int IntKind.i64 (IntKind.wrap IntKind.i64 (i - (1 : Int)))) (.int IntKind.i64 (i - (1 : Int))) (congrArg (D.int IntKind.i64) (show IntKind.wrap IntKind.i64 (i - (1 : Int)) = (i - (1 : Int)) from wrap_eq (by omega) (by omega) (by omega))) ?_
          refine ra0 (D.int IntKind.i64 (i - (1 : Int))) ?_
          refine k_done (k_skip_back ?_)
          exact ⟨(i - 1, l1, st1, c1, ρ1), ⟨by simp only []; omega, by simp only []; omega, by simp only []; rw [hci]; exact hR1, hCL1, hc0, hc1, hl1, by simp only []; omega, by simp only []; omega, hF1, ht1⟩, by simp only []; omega, by kernel_rfl, rfl⟩
      · have hz : (i + 1).toNat = 0 := by omega
        rw [hz] at hR1
        have hR2 : R = (l1, st1, c1) := hR1.symm
        refine k_seq (k_seq ?_)
        refine rv (D.int IntKind.i64 i) ?_
        refine rv (D.bool (decide (i ≥ (0 : Int)))) ?_
        refine k_done (k_skip_seq ?_)
        refine rkn 14 (decide (i ≥ (0 : Int))) false (decide_eq_false (by assumption)) ?_
        refine kcf (k_exit_seq (k_exit_back (k_exit_hit rfl (k_skip_seq (k_seq ?_)))))
        refine rv (D.int IntKind.i64 c1) ?_
        refine ra0 (D.int IntKind.i64 c1) ?_
        refine k_done (k_skip_seq (k_ret ?_))
        refine ⟨.inr rfl, by kernel_rfl, .int .i64 c1, A :: SO l1 given N (.msl (j + 2) 0 t.length 2) st1 left tried :: ρ1, by kernel_rfl, ?_⟩
        rw [hR2]
        exact ⟨rfl, ρ1, rfl, hF1, ht1⟩
end Go.Abs.B

/-
  The solver in plain Lean: trying.
-/
namespace Go.Abs.B
open Go Go.Abs
set_option maxRecDepth 8000

theorem pass_by {G : Int} : ∀ (L : List (List Int)) (i : Int) (a : List Int) (t : List (Int × Int)) (more : Bool), (∀ f ∈ t, f.2 < G) → i + L.length ≤ G → ∀ f ∈ (passR L i a t more).2.2.1, f.2 < G
  | [], _, _, _, _, h, _ => h
  | c :: L, i, a, t, more, h, hi => by
    simp only [List.length_cons] at hi
    unfold passR
    split
    · exact h
    · split
      · refine pass_by L (i + 1) _ _ true (fun f hf => ?_) (by omega)
        rcases List.mem_append.1 hf with hf | hf
        · exact h f hf
        · simp only [List.mem_singleton] at hf
          subst hf
          show i < G
          omega
      · exact pass_by L (i + 1) _ _ more h (by omega)
theorem pass_idx : ∀ (L : List (List Int)) (i : Int) (a : List Int) (t : List (Int × Int)) (more : Bool) (j : Int), (passR L i a t more).1 = some j → i ≤ j ∧ j < i + L.length
  | [], _, _, _, _, _, h => by simp [passR] at h
  | c :: L, i, a, t, more, j, h => by
    simp only [List.length_cons]
    unfold passR at h
    split at h
    · simp only [Option.some.injEq] at h
      omega
    · split at h
      · have := pass_idx L (i + 1) _ _ _ j h
        omega
      · have := pass_idx L (i + 1) _ _ _ j h
        omega
theorem spread_facts {N : Nat} {G : Int} {L : List (List Int)} (hL : ∀ c ∈ L, okC N c) (hG : (L.length : Int) ≤ G) : ∀ (k : Nat) (a : List Int) (t : List (Int × Int)), WF N a t → (∀ f ∈ t, f.2 < G) →
    WF N (spreadR k L a t).2.1 (spreadR k L a t).2.2 ∧ (∃ e, (spreadR k L a t).2.2 = t ++ e) ∧ (∀ f ∈ (spreadR k L a t).2.2, f.2 < G) ∧ (0 ≤ (spreadR k L a t).1 → (spreadR k L a t).1 < L.length) ∧ -1 ≤ (spreadR k L a t).1
  | 0, a, t, h, hb => ⟨h, ⟨[], by simp [spreadR]⟩, hb, fun h => by simp [spreadR] at h, by simp [spreadR]⟩
  | k + 1, a, t, h, hb => by
    have hp := pass_wf L 0 a t false h hL
    have hb2 := pass_by L 0 a t false hb (by omega)
    have hi := pass_idx L 0 a t false
    unfold spreadR
    generalize passR L 0 a t false = r at *
    obtain ⟨o, a1, t1, m⟩ := r
    simp only [] at hp hb2 hi
    obtain ⟨h1, ⟨e, h2⟩, _⟩ := hp
    cases o with
    | some i =>
      have := hi i rfl
      simp only []
      exact ⟨h1, ⟨e, h2⟩, hb2, fun _ => by omega, by omega⟩
    | none =>
      cases m with
      | false =>
        simp only []
        exact ⟨h1, ⟨e, h2⟩, hb2, fun h => by omega, by omega⟩
      | true =>
        simp only []
        obtain ⟨q1, ⟨e2, q2⟩, q3, q4, q5⟩ := spread_facts hL hG k a1 t1 h1 hb2
        exact ⟨q1, ⟨e ++ e2, by rw [q2, h2, List.append_assoc]⟩, q3, q4, q5⟩
theorem why_facts {N : Nat} : ∀ (k : Nat) (t : List (Int × Int)) (l : List (List Int)) (steps : List (Int × Int × Int)) (c : Int), CLp N l → 0 ≤ c → c.toNat < l.length →
    CLp N (whyR k t l steps c).1 ∧ (∃ e, (whyR k t l steps c).1 = l ++ e ∧ e.length ≤ k) ∧ (whyR k t l steps c).2.1.length ≤ steps.length + k ∧ 0 ≤ (whyR k t l steps c).2.2 ∧ (whyR k t l steps c).2.2.toNat < (whyR k t l steps c).1.length
  | 0, t, l, steps, c, h, h0, h1 => ⟨h, ⟨[], by simp [whyR], by simp⟩, by simp [whyR], h0, h1⟩
  | k + 1, t, l, steps, c, h, h0, h1 => by
    unfold whyR
    split
    · obtain ⟨q1, ⟨e, q2, q3⟩, q4, q5⟩ := why_facts k t (l ++ [madeR l (t.getD k (0, 0)).2 c (t.getD k (0, 0)).1]) (steps ++ [((t.getD k (0, 0)).2, c, (t.getD k (0, 0)).1)]) l.length (h.made _ _ _) (by omega) (by simp)
      refine ⟨q1, ⟨[madeR l (t.getD k (0, 0)).2 c (t.getD k (0, 0)).1] ++ e, by rw [q2, List.append_assoc], by simp; omega⟩, ?_, q5⟩
      simp only [List.length_append, List.length_cons, List.length_nil] at q4
      omega
    · obtain ⟨q1, ⟨e, q2, q3⟩, q4, q5⟩ := why_facts k t l steps c h h0 h1
      exact ⟨q1, ⟨e, q2, by omega⟩, by omega, q5⟩

/-- The solver's state. -/
structure Sv where
  a : List Int
  l : List (List Int)
  t : List (Int × Int)
  steps : List (Int × Int × Int)
  left : Int
  tried : Int
def Sv.back (s : Sv) (n : Nat) : Sv := { s with a := setz s.a (s.t.drop n), t := s.t.take n }
def Sv.fix (s : Sv) (v : Int) : Sv := { s with a := s.a.set v.natAbs v, t := s.t ++ [(v, -1)] }
/-- What is deferred. -/
def Sv.fin (s : Sv) (was : Nat) (v : Int) : Sv := if atv s.a v = 0 then s.back was else s
/-- The first variable that is not fixed, or 0. -/
def vF (a : List Int) : Int := idxR (a.drop 1) 0 + 1
def spS (N given : Nat) (s : Sv) : Int × List Int × List (Int × Int) := spreadR (N + 1) (s.l.take given) s.a s.t
/-- The state that is tried. -/
def s2R (s : Sv) (sp : Int × List Int × List (Int × Int)) : Sv := { s with a := sp.2.1, t := sp.2.2, tried := s.tried + 1, left := s.left - 1 }
def failR (s : Sv) (sp : Int × List Int × List (Int × Int)) : Int × Int × Sv :=
  (2, (whyR sp.2.2.length sp.2.2 s.l s.steps sp.1).2.2, { s with a := setz sp.2.1 (sp.2.2.drop s.t.length), t := sp.2.2.take s.t.length, l := (whyR sp.2.2.length sp.2.2 s.l s.steps sp.1).1, steps := (whyR sp.2.2.length sp.2.2 s.l s.steps sp.1).2.1 })
def addR (s : Sv) (a b p : Int) : Sv := { s with l := s.l ++ [madeR s.l a b p], steps := s.steps ++ [(a, b, p)] }
def tryE (s : Sv) (v : Int) (r1 r2 : Int × Int × Sv) (s7 : Sv) : Int × Int × Sv :=
  if v ∉ s7.l.getD r2.2.1.toNat [] then (2, r2.2.1, s7.fin s.t.length v)
  else (2, s7.l.length, (addR s7 r2.2.1 r1.2.1 v).fin s.t.length v)
def tryD (s : Sv) (n : Nat) (v : Int) (r1 r2 : Int × Int × Sv) : Int × Int × Sv :=
  if r2.1 ≠ 2 then (r2.1, 0, r2.2.2.fin s.t.length v) else tryE s v r1 r2 (r2.2.2.back n)
def tryC (f : Sv → Int × Int × Sv) (s : Sv) (n : Nat) (v : Int) (r1 : Int × Int × Sv) (s4 : Sv) : Int × Int × Sv :=
  if 0 - v ∉ s4.l.getD r1.2.1.toNat [] then (2, r1.2.1, s4.fin s.t.length v) else tryD s n v r1 (f (s4.fix (0 - v)))
def tryB (f : Sv → Int × Int × Sv) (s : Sv) (n : Nat) (v : Int) (r1 : Int × Int × Sv) : Int × Int × Sv :=
  if r1.1 ≠ 2 then (r1.1, 0, r1.2.2.fin s.t.length v) else tryC f s n v r1 (r1.2.2.back n)
def tryA (f : Sv → Int × Int × Sv) (s : Sv) (sp : Int × List Int × List (Int × Int)) (v : Int) : Int × Int × Sv :=
  if 0 ≤ sp.1 then failR s sp
  else if v = 0 then (1, 0, { s with a := sp.2.1, t := sp.2.2 })
  else if s.left - 1 < 0 then (3, 0, (s2R s sp).fin s.t.length v)
  else tryB f s sp.2.2.length v (f ((s2R s sp).fix v))
def tryR (N given : Nat) : Nat → Sv → Int × Int × Sv
  | 0, s => (0, 0, s)
  | k + 1, s => tryA (tryR N given k) s (spS N given s) (vF (spS N given s).2.1)
end Go.Abs.B
