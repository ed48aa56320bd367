import Derived.Test.YtjmhfliaehhijaaKont
import Derived.Test.YtjmhfliaehhijaaA1
set_option linter.unusedVariables false
set_option linter.unusedSimpArgs false
/-
  weight, modelF, depth.
-/
namespace Go.Abs.A
open Go Go.Abs
set_option maxRecDepth 8000
attribute [local irreducible] callN runC evalOp

def weightR : Nat → Fm → Int
  | 0, _ => 0
  | d + 1, f => f.kids.foldl (fun n k => if n < 1000 then n + weightR d k else n) 1
theorem foldl_take {α β : Type} {g : β → α → β} {b : β} {c : List α} {i : Nat} (h : i < c.length) : (c.take (i + 1)).foldl g b = g ((c.take i).foldl g b) c[i] := by
  rw [List.take_succ_eq_append_getElem h, List.foldl_append]
  rfl
theorem foldl_bound {α : Type} {g : Int → α → Int} {lo hi : Int} (hg : ∀ n x, lo ≤ n → n ≤ hi → lo ≤ g n x ∧ g n x ≤ hi) : ∀ (c : List α) (b : Int), lo ≤ b → b ≤ hi → lo ≤ c.foldl g b ∧ c.foldl g b ≤ hi
  | [], b, h1, h2 => ⟨h1, h2⟩
  | x :: c, b, h1, h2 => foldl_bound hg c (g b x) (hg b x h1 h2).1 (hg b x h1 h2).2
theorem weight_fold (d : Nat) (hd : ∀ f, 0 ≤ weightR d f ∧ weightR d f ≤ 1000 * d) (c : List Fm) : 0 ≤ c.foldl (fun n k => if n < 1000 then n + weightR d k else n) 1 ∧ c.foldl (fun n k => if n < 1000 then n + weightR d k else n) 1 ≤ 1000 * ((d + 1 : Nat) : Int) :=
  foldl_bound (g := fun n k => if n < 1000 then n + weightR d k else n) (lo := 0) (hi := 1000 * ((d + 1 : Nat) : Int)) (fun n k h1 h2 => by
    have := hd k
    by_cases hc : n < 1000
    · simp only [hc, if_true]
      constructor <;> omega
    · simp only [hc, if_false]
      exact ⟨h1, h2⟩) c 1 (by omega) (by omega)
theorem weightR_bound : ∀ (d : Nat) (f : Fm), 0 ≤ weightR d f ∧ weightR d f ≤ 1000 * d
  | 0, f => ⟨Int.le_refl _, by simp [weightR]⟩
  | d + 1, f => weight_fold d (weightR_bound d) f.kids
theorem foldl_stop {α : Type} {w : α → Int} : ∀ (c : List α) (b : Int), ¬ b < 1000 → c.foldl (fun n k => if n < 1000 then n + w k else n) b = b
  | [], b, _ => rfl
  | x :: c, b, h => by
    simp only [List.foldl_cons, if_neg h]
    exact foldl_stop c b h

def f14 (f : Fm) (n i : Int) : Fr := Fr.mk ([.agg (eF f), .lptr 1 0, .int .i64 0, .int .i64 n, .int .i64 i] ++ List.replicate 20 .junk) (bx 25 1 (eF f)) []
theorem weight_ok : ∀ (d : Nat) (f : Fm) (N : Nat) (σ : St), fits d f → d ≤ 2000 → d + 70 ≤ N → callN T N 14 [.agg (eF f)] σ = some (.int .i64 (weightR d f), σ) := by
  intro d
  induction d with
  | zero => intro f N σ h; exact h.elim
  | succ d ih =>
    intro f N σ hfit hd hN
    obtain ⟨n, rfl⟩ : ∃ n, N = n + 1 := ⟨N - 1, by omega⟩
    obtain ⟨h12, hkids⟩ := hfit
    refine call_of (m := m14) rfl rfl (by decide) (k_start ?_)
    unfold m14
    refine k_seq ?_
    refine rgf (D.lptr (1 : Nat) (0 : Nat)) (σ) ?_
    refine rv (D.int IntKind.i64 (0 : Int)) ?_
    refine k_done (k_skip_seq (k_seq ?_))
    refine rv (D.int IntKind.i64 (1 : Int)) ?_
    refine k_done (k_skip_seq (k_seq (k_seq ?_)))
    refine rv (D.int IntKind.i64 (0 : Int)) ?_
    refine k_done (k_skip_seq (k_block ?_))
    refine k_loop (fun i : Nat => f14 f ((f.kids.take i).foldl (fun n k => if n < 1000 then n + weightR d k else n) 1) i) (fun _ => σ) (fun i => i ≤ f.kids.length) (fun i => f.kids.length - i) 0 (by kernel_rfl) rfl (by simp) (by intro s hs; omega) ?_
    intro i hi
    have hw : weightR (d + 1) f = (f.kids.drop i).foldl (fun n k => if n < 1000 then n + weightR d k else n) ((f.kids.take i).foldl (fun n k => if n < 1000 then n + weightR d k else n) 1) := by
      rw [← List.foldl_append, List.take_append_drop]
      rfl
    have hm0 := (weight_fold d (weightR_bound d) (f.kids.take i)).1
    have hft := fun h => foldl_take (g := fun (n : Int) k => if n < 1000 then n + weightR d k else n) (b := 1) (c := f.kids) (i := i) h
    generalize (f.kids.take i).foldl (fun n k => if n < 1000 then n + weightR d k else n) 1 = m at *
    by_cases hlt : i < f.kids.length
    · by_cases hm : m < 1000
      · have hg := kid_at hlt
        have hcall := ih f.kids[i] n [] (hkids _ (List.getElem_mem hlt)) (by omega) (by omega)
        have hb := weightR_bound d f.kids[i]
        refine k_seq (k_seq ?_)
        refine rv (D.int IntKind.i64 (↑i : Int)) ?_
        refine rv (D.lptr (1 : Nat) (2 : Nat)) ?_
        refine rv (D.sl (eFs (Fm.kids f)) none) ?_
        refine rve (D.int IntKind.i64 (↑(List.length (eFs (Fm.kids f))) : Int)) (.int IntKind.i64 ((↑(List.length (Fm.kids f)) : Int))) (by simp only [eFs_length]) ?_
        refine rv (D.bool (decide ((↑i : Int) < (↑(List.length (Fm.kids f)) : Int)))) ?_
        refine rv (D.bool (decide ((↑i : Int) < (↑(List.length (Fm.kids f)) : Int)))) ?_
        refine rkn 10 (decide ((↑i : Int) < (↑(List.length (Fm.kids f)) : Int))) true (decide_eq_true (by omega)) ?_
        refine rv (D.int IntKind.i64 m) ?_
        refine rv (D.bool (decide (m < (1000 : Int)))) ?_
        refine rv (D.bool (decide (m < (1000 : Int)))) ?_
        refine k_done (k_skip_seq ?_)
        refine rkn 13 (decide (m < (1000 : Int))) true (decide_eq_true (by assumption)) ?_
        refine kct (k_skip_seq (k_seq (k_block ?_)))
        refine rv (D.int IntKind.i64 m) ?_
        refine rv (D.lptr (1 : Nat) (2 : Nat)) ?_
        refine rv (D.sl (eFs (Fm.kids f)) none) ?_
        refine rv (D.int IntKind.i64 (↑i : Int)) ?_
        refine runs_indexL (eFs (Fm.kids f)) (o := none) (kd := IntKind.i64) (i) _ (by kernel_rfl) (by kernel_rfl) (by kernel_rfl) (by assumption) (by kernel_rfl) ?_
        refine rv (D.agg [D.int IntKind.i64 (Fm.op (Fm.kids f)[i]), D.int IntKind.i64 (Fm.n (Fm.kids f)[i]), D.sl (eFs (Fm.kids (Fm.kids f)[i])) none]) ?_
        refine runs_call ([D.agg [D.int IntKind.i64 (Fm.op (Fm.kids f)[i]), D.int IntKind.i64 (Fm.n (Fm.kids f)[i]), D.sl (eFs (Fm.kids (Fm.kids f)[i])) none]]) (by kernel_rfl) (by kernel_rfl) (by kernel_rfl) (by kernel_rfl) (hcall) (by kernel_rfl) ?_
        refine rve (D.int IntKind.i64 (IntKind.wrap IntKind.i64 (m + weightR d (Fm.kids f)[i]))) (.int IntKind.i64 (m + weightR d (Fm.kids f)[i])) (congrArg (D.int IntKind.i64) (show IntKind.wrap IntKind.i64 (m + weightR d (Fm.kids f)[i]) = (m + weightR d (Fm.kids f)[i]) from wrap_eq (by omega) (by omega) (by omega))) ?_
        refine ra0 (D.int IntKind.i64 (m + weightR d (Fm.kids f)[i])) ?_
        refine k_done (k_skip_block (k_skip_seq ?_))
        refine rv (D.int IntKind.i64 (↑i : Int)) ?_
        refine rve (D.int IntKind.i64 (IntKind.wrap IntKind.i64 ((↑i : Int) + (1 : Int)))) (.int IntKind.i64 ((i + 1 : Nat) : Int)) (congrArg (D.int IntKind.i64) (show IntKind.wrap IntKind.i64 ((↑i : Int) + (1 : Int)) = ((i + 1 : Nat) : Int) from wrap_eq (by omega) (by omega) (by omega))) ?_
        refine ra0 (D.int IntKind.i64 (↑(i + (1 : Nat)) : Int)) ?_
        refine k_done (k_skip_back ?_)
        refine ⟨i + 1, hlt, by omega, ?_, rfl⟩
        rw [hft hlt]
        simp only [hm, if_true]
        kernel_rfl
      · refine k_seq (k_seq ?_)
        refine rv (D.int IntKind.i64 (↑i : Int)) ?_
        refine rv (D.lptr (1 : Nat) (2 : Nat)) ?_
        refine rv (D.sl (eFs (Fm.kids f)) none) ?_
        refine rve (D.int IntKind.i64 (↑(List.length (eFs (Fm.kids f))) : Int)) (.int IntKind.i64 ((↑(List.length (Fm.kids f)) : Int))) (by simp only [eFs_length]) ?_
        refine rv (D.bool (decide ((↑i : Int) < (↑(List.length (Fm.kids f)) : Int)))) ?_
        refine rv (D.bool (decide ((↑i : Int) < (↑(List.length (Fm.kids f)) : Int)))) ?_
        refine rkn 10 (decide ((↑i : Int) < (↑(List.length (Fm.kids f)) : Int))) true (decide_eq_true (by omega)) ?_
        refine rv (D.int IntKind.i64 m) ?_
        refine rv (D.bool (decide (m < (1000 : Int)))) ?_
        refine rv (D.bool (decide (m < (1000 : Int)))) ?_
        refine k_done (k_skip_seq ?_)
        refine rkn 13 (decide (m < (1000 : Int))) false (decide_eq_false (by assumption)) ?_
        refine kcf (k_exit_seq (k_exit_back (k_exit_hit rfl (k_skip_seq (k_seq ?_)))))
        refine rv (D.int IntKind.i64 m) ?_
        refine ra0 (D.int IntKind.i64 m) ?_
        refine k_done (k_skip_seq (k_ret ?_))
        rw [hw, foldl_stop _ _ hm]
        exact ⟨.inr rfl, by kernel_rfl, by kernel_rfl⟩
    · rw [hw, List.drop_of_length_le (by omega)]
      refine k_seq (k_seq ?_)
      refine rv (D.int IntKind.i64 (↑i : Int)) ?_
      refine rv (D.lptr (1 : Nat) (2 : Nat)) ?_
      refine rv (D.sl (eFs (Fm.kids f)) none) ?_
      refine rve (D.int IntKind.i64 (↑(List.length (eFs (Fm.kids f))) : Int)) (.int IntKind.i64 ((↑(List.length (Fm.kids f)) : Int))) (by simp only [eFs_length]) ?_
      refine rv (D.bool (decide ((↑i : Int) < (↑(List.length (Fm.kids f)) : Int)))) ?_
      refine rv (D.bool (decide ((↑i : Int) < (↑(List.length (Fm.kids f)) : Int)))) ?_
      refine rkn 10 (decide ((↑i : Int) < (↑(List.length (Fm.kids f)) : Int))) false (decide_eq_false (by omega)) ?_
      refine rno (rno ?_)
      refine rv (D.bool false) ?_
      refine k_done (k_skip_seq (kcf (k_exit_seq (k_exit_back (k_exit_hit rfl (k_skip_seq (k_seq ?_)))))))
      refine rv (D.int IntKind.i64 m) ?_
      refine ra0 (D.int IntKind.i64 m) ?_
      refine k_done (k_skip_seq (k_ret ?_))
      exact ⟨.inr rfl, by kernel_rfl, by kernel_rfl⟩

def f17 (f : Fm) (i : Int) (out : List (List D)) : Fr := Fr.mk ([.agg (eF f), .lptr 1 0, .lptr 2 0, .lptr 3 0, .int .i64 i] ++ List.replicate 24 .junk) (((bx 29 1 (eF f)).set 2 (some [.int .i64 0, .int .i64 0, .sl [] (some 33)])).set 3 (some [.int .i64 f.op, .int .i64 f.n, .sl out (some 33)])) []
theorem eFs_snoc (out : List Fm) (f : Fm) : eFs out ++ [eF f] = eFs (out ++ [f]) := by simp [eFs_map]
theorem model_ok : ∀ (d : Nat) (f : Fm) (N : Nat) (σ : St), fits d f → d + 70 ≤ N → callN T N 17 [.agg (eF f)] σ = some (.agg (eF f), σ) := by
  intro d
  induction d with
  | zero => intro f N σ h; exact h.elim
  | succ d ih =>
    intro f N σ hfit hN
    obtain ⟨n, rfl⟩ : ∃ n, N = n + 1 := ⟨N - 1, by omega⟩
    obtain ⟨h12, hkids⟩ := hfit
    refine call_of (m := m17) rfl rfl (by decide) (k_start ?_)
    unfold m17
    refine k_seq ?_
    refine rgf (D.lptr (1 : Nat) (0 : Nat)) (σ) ?_
    refine rgf (D.lptr (2 : Nat) (0 : Nat)) (σ) ?_
    refine k_done (k_skip_seq (k_seq ?_))
    refine rv (D.lptr (1 : Nat) (0 : Nat)) ?_
    refine rv (D.int IntKind.i64 (Fm.op f)) ?_
    refine rv (D.lptr (1 : Nat) (1 : Nat)) ?_
    refine rv (D.int IntKind.i64 (Fm.n f)) ?_
    refine rv (D.agg [D.int IntKind.i64 (Fm.op f), D.int IntKind.i64 (Fm.n f), D.nils (33 : Nat)]) ?_
    refine rgf (D.lptr (3 : Nat) (0 : Nat)) (σ) ?_
    refine rgf (D.junk) (σ) ?_
    refine k_done (k_skip_seq (k_seq (k_seq ?_)))
    refine rv (D.int IntKind.i64 (0 : Int)) ?_
    refine k_done (k_skip_seq (k_block ?_))
    refine k_loop (fun i : Nat => f17 f i (eFs (f.kids.take i))) (fun _ => σ) (fun i => i ≤ f.kids.length) (fun i => f.kids.length - i) 0 (by kernel_rfl) rfl (by simp) (by intro s hs; omega) ?_
    intro i hi
    have hlen : (f.kids.take i).length = i := by simp; omega
    by_cases hlt : i < f.kids.length
    · have ht := List.take_succ_eq_append_getElem hlt
      have hg := kid_at hlt
      have hcall := ih f.kids[i] n [] (hkids _ (List.getElem_mem hlt)) (by omega)
      generalize f.kids.take i = out at *
      have hsn := eFs_snoc out f.kids[i]
      refine k_seq (k_seq ?_)
      refine rv (D.int IntKind.i64 (↑i : Int)) ?_
      refine rv (D.lptr (1 : Nat) (2 : Nat)) ?_
      refine rv (D.sl (eFs (Fm.kids f)) none) ?_
      refine rve (D.int IntKind.i64 (↑(List.length (eFs (Fm.kids f))) : Int)) (.int IntKind.i64 ((↑(List.length (Fm.kids f)) : Int))) (by simp only [ints, eInt, rows, eInts, bools, eBool, trips, eTrip, List.length_map, eFs_length]) ?_
      refine rv (D.bool (decide ((↑i : Int) < (↑(List.length (Fm.kids f)) : Int)))) ?_
      refine k_done (k_skip_seq ?_)
      refine rkn 14 (decide ((↑i : Int) < (↑(List.length (Fm.kids f)) : Int))) true (decide_eq_true (by omega)) ?_
      refine kct (k_skip_seq (k_seq (k_block ?_)))
      refine rv (D.lptr (3 : Nat) (2 : Nat)) ?_
      refine rgf (D.sl (eFs out) (some (33 : Nat))) (σ) ?_
      refine rv (D.lptr (1 : Nat) (2 : Nat)) ?_
      refine rv (D.sl (eFs (Fm.kids f)) none) ?_
      refine rv (D.int IntKind.i64 (↑i : Int)) ?_
      refine runs_indexL (eFs (Fm.kids f)) (o := none) (kd := IntKind.i64) (i) _ (by kernel_rfl) (by kernel_rfl) (by kernel_rfl) (by assumption) (by kernel_rfl) ?_
      refine rv (D.agg [D.int IntKind.i64 (Fm.op (Fm.kids f)[i]), D.int IntKind.i64 (Fm.n (Fm.kids f)[i]), D.sl (eFs (Fm.kids (Fm.kids f)[i])) none]) ?_
      refine runs_callQ ([D.agg [D.int IntKind.i64 (Fm.op (Fm.kids f)[i]), D.int IntKind.i64 (Fm.n (Fm.kids f)[i]), D.sl (eFs (Fm.kids (Fm.kids f)[i])) none]]) (by kernel_rfl) (by kernel_rfl) (by kernel_rfl) (by kernel_rfl) (hcall) (by kernel_rfl) ?_
      refine rv (D.sl [[D.int IntKind.i64 (Fm.op (Fm.kids f)[i]), D.int IntKind.i64 (Fm.n (Fm.kids f)[i]), D.sl (eFs (Fm.kids (Fm.kids f)[i])) none]] (some (33 : Nat))) ?_
      refine runs_append (eFs out) ([[D.int IntKind.i64 (Fm.op (Fm.kids f)[i]), D.int IntKind.i64 (Fm.n (Fm.kids f)[i]), D.sl (eFs (Fm.kids (Fm.kids f)[i])) none]]) (eFs out ++ [[D.int IntKind.i64 (Fm.op (Fm.kids f)[i]), D.int IntKind.i64 (Fm.n (Fm.kids f)[i]), D.sl (eFs (Fm.kids (Fm.kids f)[i])) none]]) (by kernel_rfl) (by kernel_rfl) (by kernel_rfl) (by kernel_rfl) (by simp [eFs_length, ints, eInt, rows, eInts, bools, eBool, trips, eTrip, room]; omega) rfl ?_
      refine rv (D.lptr (3 : Nat) (2 : Nat)) ?_
      refine rgf (D.junk) (σ) ?_
      refine k_done (k_skip_block (k_skip_seq ?_))
      refine rv (D.int IntKind.i64 (↑i : Int)) ?_
      refine rve (D.int IntKind.i64 (IntKind.wrap IntKind.i64 ((↑i : Int) + (1 : Int)))) (.int IntKind.i64 ((i + 1 : Nat) : Int)) (congrArg (D.int IntKind.i64) (show IntKind.wrap IntKind.i64 ((↑i : Int) + (1 : Int)) = ((i + 1 : Nat) : Int) from wrap_eq (by omega) (by omega) (by omega))) ?_
      refine ra0 (D.int IntKind.i64 (↑(i + (1 : Nat)) : Int)) ?_
      refine k_done (k_skip_back ?_)
      exact ⟨i + 1, hlt, by omega, by rw [ht, ← hsn]; kernel_rfl, rfl⟩
    · rw [List.take_of_length_le (by omega)]
      refine k_seq (k_seq ?_)
      refine rv (D.int IntKind.i64 (↑i : Int)) ?_
      refine rv (D.lptr (1 : Nat) (2 : Nat)) ?_
      refine rv (D.sl (eFs (Fm.kids f)) none) ?_
      refine rve (D.int IntKind.i64 (↑(List.length (eFs (Fm.kids f))) : Int)) (.int IntKind.i64 ((↑(List.length (Fm.kids f)) : Int))) (by simp only [eFs_length]) ?_
      refine rv (D.bool (decide ((↑i : Int) < (↑(List.length (Fm.kids f)) : Int)))) ?_
      refine k_done (k_skip_seq ?_)
      refine rkn 14 (decide ((↑i : Int) < (↑(List.length (Fm.kids f)) : Int))) false (decide_eq_false (by omega)) ?_
      refine kcf (k_exit_seq (k_exit_back (k_exit_hit rfl (k_skip_seq (k_seq ?_)))))
      refine rv (D.agg [D.int IntKind.i64 (Fm.op f), D.int IntKind.i64 (Fm.n f), D.sl (eFs (Fm.kids f)) none]) ?_
      refine rgf (D.junk) (σ) ?_
      refine k_done (k_skip_seq (k_ret ?_))
      exact ⟨.inr rfl, by kernel_rfl, by kernel_rfl⟩
end Go.Abs.A
