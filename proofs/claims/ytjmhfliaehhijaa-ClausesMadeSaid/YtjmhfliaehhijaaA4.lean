import Derived.Test.YtjmhfliaehhijaaKont
import Derived.Test.YtjmhfliaehhijaaA3
set_option linter.unusedVariables false
set_option linter.unusedSimpArgs false
/-
  slices.ContainsFunc of formulas; may and Check of both.
-/
namespace Go.Abs.A
open Go Go.Abs
set_option maxRecDepth 8000
attribute [local irreducible] callN runC evalOp

/-- The first for which it is so, or -1. -/
def idxP (p : Fm → Bool) : List Fm → Int → Int
  | [], _ => -1
  | k :: ks, i => if p k then i else idxP p ks (i + 1)
theorem idxP_at (p : Fm → Bool) : ∀ (c : List Fm) (i : Nat) (j : Int) (h : i < c.length), (∀ x ∈ c.take i, p x = false) → p c[i] = true → idxP p c j = j + i
  | x :: xs, 0, j, _, _, h => by
    simp only [List.getElem_cons_zero] at h
    simp [idxP, h]
  | x :: xs, i + 1, j, hl, hn, h => by
    simp only [List.getElem_cons_succ] at h
    have h0 := hn x (by simp)
    have := idxP_at p xs i (j + 1) (by simpa using hl) (fun y hy => hn y (by simp [hy])) h
    simp only [idxP, h0, Bool.false_eq_true, if_false, this]
    omega
theorem idxP_none (p : Fm → Bool) : ∀ (c : List Fm) (j : Int), (∀ x ∈ c, p x = false) → idxP p c j = -1
  | [], _, _ => rfl
  | x :: xs, j, h => by
    simp only [idxP, h x (by simp), Bool.false_eq_true, if_false]
    exact idxP_none p xs (j + 1) (fun y hy => h y (by simp [hy]))
theorem idxP_ge (p : Fm → Bool) : ∀ (c : List Fm) (j : Int), 0 ≤ j → decide (idxP p c j ≥ 0) = c.any p
  | [], _, _ => rfl
  | x :: xs, j, h => by
    simp only [idxP, List.any_cons]
    by_cases hp : p x = true
    · simp [hp, h]
    · have hp' : p x = false := by simpa using hp
      simp only [hp', Bool.false_eq_true, if_false, Bool.false_or]
      exact idxP_ge p xs (j + 1) (by omega)
theorem take_no {p : Fm → Bool} {c : List Fm} {i : Nat} (h : i < c.length) (hn : ∀ x ∈ c.take i, p x = false) (hp : p c[i] = false) : ∀ x ∈ c.take (i + 1), p x = false := by
  rw [List.take_succ_eq_append_getElem h]
  intro x hx
  rcases List.mem_append.1 hx with hx | hx
  · exact hn x hx
  · simp only [List.mem_singleton] at hx
    rw [hx]
    exact hp

def f53 (ks : List Fm) (fn : D) (i : Int) : Fr := Fr.mk ([.sl (eFs ks) none, fn, .junk, .junk, .int .i64 0, .junk, .junk, .int .i64 ks.length, .int .i64 i] ++ List.replicate 10 .junk) (List.replicate 19 none) []
theorem indexP_ok (p : Fm → Bool) (cf o1 : Nat) (ks : List Fm) (o : Option Nat) (n : Nat) (σ : St) (hn : ks.length ≤ 60) (h12 : 60 < n) (hc : ∀ k ∈ ks, callN T n cf ([.agg (eF k)] ++ []) [] = some (.bool (p k), [])) :
    callN T (n + 1) 53 [.sl (eFs ks) o, .func cf []] σ = some (.int .i64 (idxP p ks 0), σ) := by
  refine call_of (m := m53) rfl rfl (by decide) (k_start ?_)
  unfold m53
  refine k_seq ?_
  refine rv (D.int IntKind.i64 (0 : Int)) ?_
  refine k_done (k_skip_seq (k_seq (k_seq ?_)))
  refine rv (D.sl (eFs ks) none) ?_
  refine rve (D.int IntKind.i64 (↑(List.length (eFs ks)) : Int)) (.int IntKind.i64 ((↑(List.length ks) : Int))) (by simp only [eFs_length]) ?_
  refine rv (D.int IntKind.i64 (0 : Int)) ?_
  refine k_done (k_skip_seq (k_block ?_))
  refine k_loop (fun i : Nat => f53 ks (.func cf []) i) (fun _ => σ) (fun i => i ≤ ks.length ∧ ∀ x ∈ ks.take i, p x = false) (fun i => ks.length - i) 0 (by kernel_rfl) rfl (by simp) (by intro s hs; omega) ?_
  rintro i ⟨hi, hno⟩
  by_cases hlt : i < ks.length
  · have hg := kid_at hlt
    have hcall := hc ks[i] (List.getElem_mem hlt)
    by_cases hp : p ks[i] = true
    · rw [hp] at hcall
      refine k_seq ?_
      refine rv (D.bool (decide ((↑i : Int) < (↑(List.length ks) : Int)))) ?_
      refine k_done (k_skip_seq (k_seq ?_))
      refine rkn 9 (decide ((↑i : Int) < (↑(List.length ks) : Int))) true (decide_eq_true (by omega)) ?_
      refine kct (k_skip_seq (k_seq (k_block (k_seq ?_))))
      refine rv (D.int IntKind.i64 (↑i : Int)) ?_
      refine ra0 (D.int IntKind.i64 (↑i : Int)) ?_
      refine k_done (k_skip_seq (k_seq ?_))
      refine rv (D.func cf []) ?_
      refine rv (D.sl (eFs ks) none) ?_
      refine rv (D.int IntKind.i64 (↑i : Int)) ?_
      refine runs_indexL (eFs ks) (o := none) (kd := IntKind.i64) (i) _ (by kernel_rfl) (by kernel_rfl) (by kernel_rfl) (by assumption) (by kernel_rfl) ?_
      refine rv (D.agg [D.int IntKind.i64 (Fm.op ks[i]), D.int IntKind.i64 (Fm.n ks[i]), D.sl (eFs (Fm.kids ks[i])) none]) ?_
      refine runs_callv (cf) ([]) ([D.agg [D.int IntKind.i64 (Fm.op ks[i]), D.int IntKind.i64 (Fm.n ks[i]), D.sl (eFs (Fm.kids ks[i])) none]]) ([D.agg [D.int IntKind.i64 (Fm.op ks[i]), D.int IntKind.i64 (Fm.n ks[i]), D.sl (eFs (Fm.kids ks[i])) none]]) (by kernel_rfl) (by kernel_rfl) (by kernel_rfl) (by kernel_rfl) (by kernel_rfl) (by kernel_rfl) (hcall) (by kernel_rfl) ?_
      refine k_done (k_skip_seq (kct (k_seq ?_)))
      refine rv (D.int IntKind.i64 (↑i : Int)) ?_
      refine ra0 (D.int IntKind.i64 (↑i : Int)) ?_
      refine k_done (k_skip_seq (k_ret ?_))
      refine ⟨.inr rfl, by kernel_rfl, ?_⟩
      rw [idxP_at p ks i 0 hlt hno hp, Int.zero_add]
      show _ = _
      kernel_rfl
    · have hp' : p ks[i] = false := by simpa using hp
      rw [hp'] at hcall
      refine k_seq ?_
      refine rv (D.bool (decide ((↑i : Int) < (↑(List.length ks) : Int)))) ?_
      refine k_done (k_skip_seq (k_seq ?_))
      refine rkn 9 (decide ((↑i : Int) < (↑(List.length ks) : Int))) true (decide_eq_true (by omega)) ?_
      refine kct (k_skip_seq (k_seq (k_block (k_seq ?_))))
      refine rv (D.int IntKind.i64 (↑i : Int)) ?_
      refine ra0 (D.int IntKind.i64 (↑i : Int)) ?_
      refine k_done (k_skip_seq (k_seq ?_))
      refine rv (D.func cf []) ?_
      refine rv (D.sl (eFs ks) none) ?_
      refine rv (D.int IntKind.i64 (↑i : Int)) ?_
      refine runs_indexL (eFs ks) (o := none) (kd := IntKind.i64) (i) _ (by kernel_rfl) (by kernel_rfl) (by kernel_rfl) (by assumption) (by kernel_rfl) ?_
      refine rv (D.agg [D.int IntKind.i64 (Fm.op ks[i]), D.int IntKind.i64 (Fm.n ks[i]), D.sl (eFs (Fm.kids ks[i])) none]) ?_
      refine runs_callv (cf) ([]) ([D.agg [D.int IntKind.i64 (Fm.op ks[i]), D.int IntKind.i64 (Fm.n ks[i]), D.sl (eFs (Fm.kids ks[i])) none]]) ([D.agg [D.int IntKind.i64 (Fm.op ks[i]), D.int IntKind.i64 (Fm.n ks[i]), D.sl (eFs (Fm.kids ks[i])) none]]) (by kernel_rfl) (by kernel_rfl) (by kernel_rfl) (by kernel_rfl) (by kernel_rfl) (by kernel_rfl) (hcall) (by kernel_rfl) ?_
      refine k_done (k_skip_seq (kcf (k_skip_block (k_skip_seq ?_))))
      refine rve (D.int IntKind.i64 (IntKind.wrap IntKind.i64 ((↑i : Int) + (1 : Int)))) (.int IntKind.i64 ((i + 1 : Nat) : Int)) (congrArg (D.int IntKind.i64) (show IntKind.wrap IntKind.i64 ((↑i : Int) + (1 : Int)) = ((i + 1 : Nat) : Int) from wrap_eq (by omega) (by omega) (by omega))) ?_
      refine rv (D.int IntKind.i64 (↑(i + (1 : Nat)) : Int)) ?_
      refine k_done (k_skip_back ?_)
      exact ⟨i + 1, ⟨hlt, take_no hlt hno hp'⟩, by omega, by kernel_rfl, rfl⟩
  · rw [List.take_of_length_le (by omega)] at hno
    rw [idxP_none p ks 0 hno]
    refine k_seq ?_
    refine rv (D.bool (decide ((↑i : Int) < (↑(List.length ks) : Int)))) ?_
    refine k_done (k_skip_seq (k_seq ?_))
    refine rkn 9 (decide ((↑i : Int) < (↑(List.length ks) : Int))) false (decide_eq_false (by omega)) ?_
    refine kcf (k_exit_seq (k_exit_back (k_exit_hit rfl (k_skip_seq (k_seq ?_)))))
    refine rv (D.int IntKind.i64 (-1 : Int)) ?_
    refine k_done (k_skip_seq (k_ret ?_))
    exact ⟨.inr rfl, by kernel_rfl, by kernel_rfl⟩
theorem indexS_ok (p : Fm → Bool) (cf o1 : Nat) (ks : List Fm) (o : Option Nat) (n : Nat) (σ : St) (hn : ks.length ≤ 60) (h12 : 60 < n) (hc : ∀ k ∈ ks, callN T n cf ([.agg (eF k)] ++ [.ptr o1 0]) σ = some (.bool (p k), σ)) :
    callN T (n + 1) 53 [.sl (eFs ks) o, .func cf [.ptr o1 0]] σ = some (.int .i64 (idxP p ks 0), σ) := by
  refine call_of (m := m53) rfl rfl (by decide) (k_start ?_)
  unfold m53
  refine k_seq ?_
  refine rv (D.int IntKind.i64 (0 : Int)) ?_
  refine k_done (k_skip_seq (k_seq (k_seq ?_)))
  refine rv (D.sl (eFs ks) none) ?_
  refine rve (D.int IntKind.i64 (↑(List.length (eFs ks)) : Int)) (.int IntKind.i64 ((↑(List.length ks) : Int))) (by simp only [eFs_length]) ?_
  refine rv (D.int IntKind.i64 (0 : Int)) ?_
  refine k_done (k_skip_seq (k_block ?_))
  refine k_loop (fun i : Nat => f53 ks (.func cf [.ptr o1 0]) i) (fun _ => σ) (fun i => i ≤ ks.length ∧ ∀ x ∈ ks.take i, p x = false) (fun i => ks.length - i) 0 (by kernel_rfl) rfl (by simp) (by intro s hs; omega) ?_
  rintro i ⟨hi, hno⟩
  by_cases hlt : i < ks.length
  · have hg := kid_at hlt
    have hcall := hc ks[i] (List.getElem_mem hlt)
    by_cases hp : p ks[i] = true
    · rw [hp] at hcall
      refine k_seq ?_
      refine rv (D.bool (decide ((↑i : Int) < (↑(List.length ks) : Int)))) ?_
      refine k_done (k_skip_seq (k_seq ?_))
      refine rkn 9 (decide ((↑i : Int) < (↑(List.length ks) : Int))) true (decide_eq_true (by omega)) ?_
      refine kct (k_skip_seq (k_seq (k_block (k_seq ?_))))
      refine rv (D.int IntKind.i64 (↑i : Int)) ?_
      refine ra0 (D.int IntKind.i64 (↑i : Int)) ?_
      refine k_done (k_skip_seq (k_seq ?_))
      refine rv (D.func cf [D.ptr o1 (0 : Nat)]) ?_
      refine rv (D.sl (eFs ks) none) ?_
      refine rv (D.int IntKind.i64 (↑i : Int)) ?_
      refine runs_indexL (eFs ks) (o := none) (kd := IntKind.i64) (i) _ (by kernel_rfl) (by kernel_rfl) (by kernel_rfl) (by assumption) (by kernel_rfl) ?_
      refine rv (D.agg [D.int IntKind.i64 (Fm.op ks[i]), D.int IntKind.i64 (Fm.n ks[i]), D.sl (eFs (Fm.kids ks[i])) none]) ?_
      refine runs_callv_st (cf) ([D.ptr o1 (0 : Nat)]) ([D.agg [D.int IntKind.i64 (Fm.op ks[i]), D.int IntKind.i64 (Fm.n ks[i]), D.sl (eFs (Fm.kids ks[i])) none]]) ([D.agg [D.int IntKind.i64 (Fm.op ks[i]), D.int IntKind.i64 (Fm.n ks[i]), D.sl (eFs (Fm.kids ks[i])) none], D.ptr o1 (0 : Nat)]) (by kernel_rfl) (by kernel_rfl) (by kernel_rfl) (by kernel_rfl) (by kernel_rfl) (by kernel_rfl) (hcall) ?_
      refine k_done (k_skip_seq (kct (k_seq ?_)))
      refine rv (D.int IntKind.i64 (↑i : Int)) ?_
      refine ra0 (D.int IntKind.i64 (↑i : Int)) ?_
      refine k_done (k_skip_seq (k_ret ?_))
      refine ⟨.inr rfl, by kernel_rfl, ?_⟩
      rw [idxP_at p ks i 0 hlt hno hp, Int.zero_add]
      show _ = _
      kernel_rfl
    · have hp' : p ks[i] = false := by simpa using hp
      rw [hp'] at hcall
      refine k_seq ?_
      refine rv (D.bool (decide ((↑i : Int) < (↑(List.length ks) : Int)))) ?_
      refine k_done (k_skip_seq (k_seq ?_))
      refine rkn 9 (decide ((↑i : Int) < (↑(List.length ks) : Int))) true (decide_eq_true (by omega)) ?_
      refine kct (k_skip_seq (k_seq (k_block (k_seq ?_))))
      refine rv (D.int IntKind.i64 (↑i : Int)) ?_
      refine ra0 (D.int IntKind.i64 (↑i : Int)) ?_
      refine k_done (k_skip_seq (k_seq ?_))
      refine rv (D.func cf [D.ptr o1 (0 : Nat)]) ?_
      refine rv (D.sl (eFs ks) none) ?_
      refine rv (D.int IntKind.i64 (↑i : Int)) ?_
      refine runs_indexL (eFs ks) (o := none) (kd := IntKind.i64) (i) _ (by kernel_rfl) (by kernel_rfl) (by kernel_rfl) (by assumption) (by kernel_rfl) ?_
      refine rv (D.agg [D.int IntKind.i64 (Fm.op ks[i]), D.int IntKind.i64 (Fm.n ks[i]), D.sl (eFs (Fm.kids ks[i])) none]) ?_
      refine runs_callv_st (cf) ([D.ptr o1 (0 : Nat)]) ([D.agg [D.int IntKind.i64 (Fm.op ks[i]), D.int IntKind.i64 (Fm.n ks[i]), D.sl (eFs (Fm.kids ks[i])) none]]) ([D.agg [D.int IntKind.i64 (Fm.op ks[i]), D.int IntKind.i64 (Fm.n ks[i]), D.sl (eFs (Fm.kids ks[i])) none], D.ptr o1 (0 : Nat)]) (by kernel_rfl) (by kernel_rfl) (by kernel_rfl) (by kernel_rfl) (by kernel_rfl) (by kernel_rfl) (hcall) ?_
      refine k_done (k_skip_seq (kcf (k_skip_block (k_skip_seq ?_))))
      refine rve (D.int IntKind.i64 (IntKind.wrap IntKind.i64 ((↑i : Int) + (1 : Int)))) (.int IntKind.i64 ((i + 1 : Nat) : Int)) (congrArg (D.int IntKind.i64) (show IntKind.wrap IntKind.i64 ((↑i : Int) + (1 : Int)) = ((i + 1 : Nat) : Int) from wrap_eq (by omega) (by omega) (by omega))) ?_
      refine rv (D.int IntKind.i64 (↑(i + (1 : Nat)) : Int)) ?_
      refine k_done (k_skip_back ?_)
      exact ⟨i + 1, ⟨hlt, take_no hlt hno hp'⟩, by omega, by kernel_rfl, rfl⟩
  · rw [List.take_of_length_le (by omega)] at hno
    rw [idxP_none p ks 0 hno]
    refine k_seq ?_
    refine rv (D.bool (decide ((↑i : Int) < (↑(List.length ks) : Int)))) ?_
    refine k_done (k_skip_seq (k_seq ?_))
    refine rkn 9 (decide ((↑i : Int) < (↑(List.length ks) : Int))) false (decide_eq_false (by omega)) ?_
    refine kcf (k_exit_seq (k_exit_back (k_exit_hit rfl (k_skip_seq (k_seq ?_)))))
    refine rv (D.int IntKind.i64 (-1 : Int)) ?_
    refine k_done (k_skip_seq (k_ret ?_))
    exact ⟨.inr rfl, by kernel_rfl, by kernel_rfl⟩
theorem containsP_ok (p : Fm → Bool) (cf o1 : Nat) (ks : List Fm) (o : Option Nat) (n : Nat) (σ : St) (hn : ks.length ≤ 60) (h12 : 60 < n) (hc : ∀ k ∈ ks, callN T n cf ([.agg (eF k)] ++ []) [] = some (.bool (p k), [])) :
    callN T (n + 2) 40 [.sl (eFs ks) o, .func cf []] σ = some (.bool (ks.any p), σ) := by
  rw [← idxP_ge p ks 0 (Int.le_refl _)]
  refine call_of (m := m40) rfl rfl (by decide) (k_start ?_)
  unfold m40
  refine k_seq ?_
  refine rv (D.bool false) ?_
  refine k_done (k_skip_seq (k_seq ?_))
  refine rv (D.sl (eFs ks) none) ?_
  refine rv (D.func cf []) ?_
  refine runs_call ([D.sl (eFs ks) none, D.func cf []]) (by kernel_rfl) (by kernel_rfl) (by kernel_rfl) (by kernel_rfl) (indexP_ok p cf o1 ks _ n _ hn h12 hc) (by kernel_rfl) ?_
  refine rv (D.bool (decide (idxP p ks (0 : Int) ≥ (0 : Int)))) ?_
  refine ra0 (D.bool (decide (idxP p ks (0 : Int) ≥ (0 : Int)))) ?_
  refine k_done (k_skip_seq (k_ret ?_))
  exact ⟨.inr rfl, by kernel_rfl, by kernel_rfl⟩
theorem containsS_ok (p : Fm → Bool) (cf o1 : Nat) (ks : List Fm) (o : Option Nat) (n : Nat) (σ : St) (hn : ks.length ≤ 60) (h12 : 60 < n) (hc : ∀ k ∈ ks, callN T n cf ([.agg (eF k)] ++ [.ptr o1 0]) σ = some (.bool (p k), σ)) :
    callN T (n + 2) 40 [.sl (eFs ks) o, .func cf [.ptr o1 0]] σ = some (.bool (ks.any p), σ) := by
  rw [← idxP_ge p ks 0 (Int.le_refl _)]
  refine call_of (m := m40) rfl rfl (by decide) (k_start ?_)
  unfold m40
  refine k_seq ?_
  refine rv (D.bool false) ?_
  refine k_done (k_skip_seq (k_seq ?_))
  refine rv (D.sl (eFs ks) none) ?_
  refine rv (D.func cf [D.ptr o1 (0 : Nat)]) ?_
  refine runs_call_st ([D.sl (eFs ks) none, D.func cf [D.ptr o1 (0 : Nat)]]) (by kernel_rfl) (by kernel_rfl) (by kernel_rfl) (by kernel_rfl) (indexS_ok p cf o1 ks _ n _ hn h12 hc) ?_
  refine rv (D.bool (decide (idxP p ks (0 : Int) ≥ (0 : Int)))) ?_
  refine ra0 (D.bool (decide (idxP p ks (0 : Int) ≥ (0 : Int)))) ?_
  refine k_done (k_skip_seq (k_ret ?_))
  exact ⟨.inr rfl, by kernel_rfl, by kernel_rfl⟩

theorem not_may {d N : Nat} {k : Fm} (h : callN T N 36 [.agg (eF k)] [] = some (.bool (mayR d k), [])) : callN T (N + 1) 52 [.agg (eF k)] [] = some (.bool (!mayR d k), []) := by
  refine call_of (m := m52) rfl rfl (by decide) (k_start ?_)
  unfold m52
  refine k_seq ?_
  refine rgf (D.lptr (1 : Nat) (0 : Nat)) ([]) ?_
  refine rv (D.bool false) ?_
  refine k_done (k_skip_seq (k_seq ?_))
  refine rv (D.agg [D.int IntKind.i64 (Fm.op k), D.int IntKind.i64 (Fm.n k), D.sl (eFs (Fm.kids k)) none]) ?_
  refine runs_call ([D.agg [D.int IntKind.i64 (Fm.op k), D.int IntKind.i64 (Fm.n k), D.sl (eFs (Fm.kids k)) none]]) (by kernel_rfl) (by kernel_rfl) (by kernel_rfl) (by kernel_rfl) (h) (by kernel_rfl) ?_
  refine rv (D.bool !mayR d k) ?_
  refine ra0 (D.bool !mayR d k) ?_
  refine k_done (k_skip_seq (k_ret ?_))
  exact ⟨.inr rfl, by kernel_rfl, by kernel_rfl⟩
theorem all_any {d : Nat} (c : List Fm) : c.all (mayR d) = !(c.any fun k => !mayR d k) := by
  induction c with
  | nil => rfl
  | cons x xs ih => simp [ih, Bool.not_or]
theorem may_ok : ∀ (d : Nat) (f : Fm) (N : Nat) (σ : St), fits d f → 4 * d + 70 ≤ N → callN T N 36 [.agg (eF f)] σ = some (.bool (mayR d f), σ) := by
  intro d
  induction d with
  | zero => intro f N σ h; exact h.elim
  | succ d ih =>
    intro f N σ hfit hN
    obtain ⟨n, rfl⟩ : ∃ n, N = n + 4 := ⟨N - 4, by omega⟩
    obtain ⟨h12, hkids⟩ := hfit
    have hc : ∀ k ∈ f.kids, callN T (n + 1) 52 ([.agg (eF k)] ++ []) [] = some (.bool (!mayR d k), []) := fun k hk => not_may (ih k n [] (hkids k hk) (by omega))
    have hcon := containsP_ok (fun k => !mayR d k) 52 0 f.kids none (n + 1) [] h12 (by omega) hc
    refine call_of (m := m36) rfl rfl (by decide) (k_start ?_)
    unfold m36
    by_cases c1 : f.op < 1
    · rw [mayR_no (fun h => h.1 c1)]
      refine k_seq ?_
      refine rgf (D.lptr (1 : Nat) (0 : Nat)) (σ) ?_
      refine rv (D.bool false) ?_
      refine k_done (k_skip_seq (k_seq (k_block (k_seq ?_))))
      refine rv (D.lptr (1 : Nat) (0 : Nat)) ?_
      refine rv (D.int IntKind.i64 (Fm.op f)) ?_
      refine rv (D.bool (decide (Fm.op f < (1 : Int)))) ?_
      refine rv (D.bool (decide (Fm.op f < (1 : Int)))) ?_
      refine rkn 7 (decide (Fm.op f < (1 : Int))) true (decide_eq_true (by assumption)) ?_
      refine rno (rno (rno ?_))
      refine rv (D.bool true) ?_
      refine ra0 (D.bool true) ?_
      refine k_done (k_skip_seq (kct (k_seq ?_)))
      refine rv (D.bool false) ?_
      refine k_done (k_skip_seq (k_ret ?_))
      exact ⟨.inr rfl, by kernel_rfl, by kernel_rfl⟩
    by_cases c2 : f.op > 6
    · rw [mayR_no (fun h => h.2.1 c2)]
      refine k_seq ?_
      refine rgf (D.lptr (1 : Nat) (0 : Nat)) (σ) ?_
      refine rv (D.bool false) ?_
      refine k_done (k_skip_seq (k_seq (k_block (k_seq ?_))))
      refine rv (D.lptr (1 : Nat) (0 : Nat)) ?_
      refine rv (D.int IntKind.i64 (Fm.op f)) ?_
      refine rv (D.bool (decide (Fm.op f < (1 : Int)))) ?_
      refine rv (D.bool (decide (Fm.op f < (1 : Int)))) ?_
      refine rkn 7 (decide (Fm.op f < (1 : Int))) false (decide_eq_false (by assumption)) ?_
      refine rv (D.lptr (1 : Nat) (0 : Nat)) ?_
      refine rv (D.int IntKind.i64 (Fm.op f)) ?_
      refine rv (D.bool (decide (Fm.op f > (6 : Int)))) ?_
      refine rv (D.bool (decide (Fm.op f > (6 : Int)))) ?_
      refine ra0 (D.bool (decide (Fm.op f > (6 : Int)))) ?_
      refine k_done (k_skip_seq ?_)
      refine rkn 3 (decide (Fm.op f > (6 : Int))) true (decide_eq_true (by assumption)) ?_
      refine kct (k_seq ?_)
      refine rv (D.bool false) ?_
      refine k_done (k_skip_seq (k_ret ?_))
      exact ⟨.inr rfl, by kernel_rfl, by kernel_rfl⟩
    by_cases c3 : f.op ≤ 3
    · by_cases c4 : f.kids.length > 0
      · rw [mayR_no (fun h => h.2.2.1 ⟨by omega, c4⟩)]
        refine k_seq ?_
        refine rgf (D.lptr (1 : Nat) (0 : Nat)) (σ) ?_
        refine rv (D.bool false) ?_
        refine k_done (k_skip_seq (k_seq (k_block (k_seq ?_))))
        refine rv (D.lptr (1 : Nat) (0 : Nat)) ?_
        refine rv (D.int IntKind.i64 (Fm.op f)) ?_
        refine rv (D.bool (decide (Fm.op f < (1 : Int)))) ?_
        refine rv (D.bool (decide (Fm.op f < (1 : Int)))) ?_
        refine rkn 7 (decide (Fm.op f < (1 : Int))) false (decide_eq_false (by assumption)) ?_
        refine rv (D.lptr (1 : Nat) (0 : Nat)) ?_
        refine rv (D.int IntKind.i64 (Fm.op f)) ?_
        refine rv (D.bool (decide (Fm.op f > (6 : Int)))) ?_
        refine rv (D.bool (decide (Fm.op f > (6 : Int)))) ?_
        refine ra0 (D.bool (decide (Fm.op f > (6 : Int)))) ?_
        refine k_done (k_skip_seq ?_)
        refine rkn 3 (decide (Fm.op f > (6 : Int))) false (decide_eq_false (by assumption)) ?_
        refine kcf (k_seq ?_)
        refine rv (D.lptr (1 : Nat) (0 : Nat)) ?_
        refine rv (D.int IntKind.i64 (Fm.op f)) ?_
        refine rv (D.bool (decide (Fm.op f ≤ (3 : Int)))) ?_
        refine rv (D.bool (decide (Fm.op f ≤ (3 : Int)))) ?_
        refine rkn 16 (decide (Fm.op f ≤ (3 : Int))) true (decide_eq_true (by assumption)) ?_
        refine rv (D.lptr (1 : Nat) (2 : Nat)) ?_
        refine rv (D.sl (eFs (Fm.kids f)) none) ?_
        refine rve (D.int IntKind.i64 (↑(List.length (eFs (Fm.kids f))) : Int)) (.int IntKind.i64 ((↑(List.length (Fm.kids f)) : Int))) (by simp only [eFs_length]) ?_
        refine rv (D.bool (decide ((↑(List.length (Fm.kids f)) : Int) > (0 : Int)))) ?_
        refine rv (D.bool (decide ((↑(List.length (Fm.kids f)) : Int) > (0 : Int)))) ?_
        refine rv (D.bool (decide ((↑(List.length (Fm.kids f)) : Int) > (0 : Int)))) ?_
        refine rkn 22 (decide ((↑(List.length (Fm.kids f)) : Int) > (0 : Int))) true (decide_eq_true (by omega)) ?_
        refine rno (rno (rno (rno (rno (rno (rno (rno (rno ?_))))))))
        refine rv (D.bool true) ?_
        refine ra0 (D.bool true) ?_
        refine k_done (k_skip_seq (kct (k_seq ?_)))
        refine rv (D.bool false) ?_
        refine k_done (k_skip_seq (k_ret ?_))
        exact ⟨.inr rfl, by kernel_rfl, by kernel_rfl⟩
      · by_cases c5 : f.op = 3
        · by_cases c6 : f.n < 1
          · rw [mayR_no (fun h => h.2.2.2.2 ⟨c5, .inl c6⟩)]
            refine k_seq ?_
            refine rgf (D.lptr (1 : Nat) (0 : Nat)) (σ) ?_
            refine rv (D.bool false) ?_
            refine k_done (k_skip_seq (k_seq (k_block (k_seq ?_))))
            refine rv (D.lptr (1 : Nat) (0 : Nat)) ?_
            refine rv (D.int IntKind.i64 (Fm.op f)) ?_
            refine rv (D.bool (decide (Fm.op f < (1 : Int)))) ?_
            refine rv (D.bool (decide (Fm.op f < (1 : Int)))) ?_
            refine rkn 7 (decide (Fm.op f < (1 : Int))) false (decide_eq_false (by assumption)) ?_
            refine rv (D.lptr (1 : Nat) (0 : Nat)) ?_
            refine rv (D.int IntKind.i64 (Fm.op f)) ?_
            refine rv (D.bool (decide (Fm.op f > (6 : Int)))) ?_
            refine rv (D.bool (decide (Fm.op f > (6 : Int)))) ?_
            refine ra0 (D.bool (decide (Fm.op f > (6 : Int)))) ?_
            refine k_done (k_skip_seq ?_)
            refine rkn 3 (decide (Fm.op f > (6 : Int))) false (decide_eq_false (by assumption)) ?_
            refine kcf (k_seq ?_)
            refine rv (D.lptr (1 : Nat) (0 : Nat)) ?_
            refine rv (D.int IntKind.i64 (Fm.op f)) ?_
            refine rv (D.bool (decide (Fm.op f ≤ (3 : Int)))) ?_
            refine rv (D.bool (decide (Fm.op f ≤ (3 : Int)))) ?_
            refine rkn 16 (decide (Fm.op f ≤ (3 : Int))) true (decide_eq_true (by assumption)) ?_
            refine rv (D.lptr (1 : Nat) (2 : Nat)) ?_
            refine rv (D.sl (eFs (Fm.kids f)) none) ?_
            refine rve (D.int IntKind.i64 (↑(List.length (eFs (Fm.kids f))) : Int)) (.int IntKind.i64 ((↑(List.length (Fm.kids f)) : Int))) (by simp only [eFs_length]) ?_
            refine rv (D.bool (decide ((↑(List.length (Fm.kids f)) : Int) > (0 : Int)))) ?_
            refine rv (D.bool (decide ((↑(List.length (Fm.kids f)) : Int) > (0 : Int)))) ?_
            refine rv (D.bool (decide ((↑(List.length (Fm.kids f)) : Int) > (0 : Int)))) ?_
            refine rkn 22 (decide ((↑(List.length (Fm.kids f)) : Int) > (0 : Int))) false (decide_eq_false (by omega)) ?_
            refine rv (D.lptr (1 : Nat) (0 : Nat)) ?_
            refine rv (D.int IntKind.i64 (Fm.op f)) ?_
            refine rv (D.bool (Fm.op f == (4 : Int))) ?_
            refine rv (D.bool (Fm.op f == (4 : Int))) ?_
            refine rkn 26 (Fm.op f == (4 : Int)) false (decide_eq_false (by omega)) ?_
            refine rno (rno (rno (rno ?_)))
            refine rv (D.bool false) ?_
            refine rv (D.bool false) ?_
            refine ra0 (D.bool false) ?_
            refine k_done (k_skip_seq (kcf (k_seq ?_)))
            refine rv (D.lptr (1 : Nat) (0 : Nat)) ?_
            refine rv (D.int IntKind.i64 (Fm.op f)) ?_
            refine rv (D.bool (Fm.op f == (3 : Int))) ?_
            refine rv (D.bool (Fm.op f == (3 : Int))) ?_
            refine rkn 37 (Fm.op f == (3 : Int)) true (decide_eq_true (by assumption)) ?_
            refine rv (D.lptr (1 : Nat) (1 : Nat)) ?_
            refine rv (D.int IntKind.i64 (Fm.n f)) ?_
            refine rv (D.bool (decide (Fm.n f < (1 : Int)))) ?_
            refine rv (D.bool (decide (Fm.n f < (1 : Int)))) ?_
            refine rkn 41 (decide (Fm.n f < (1 : Int))) true (decide_eq_true (by assumption)) ?_
            refine rno (rno (rno ?_))
            refine rv (D.bool true) ?_
            refine rv (D.bool true) ?_
            refine ra0 (D.bool true) ?_
            refine k_done (k_skip_seq (kct (k_seq ?_)))
            refine rv (D.bool false) ?_
            refine k_done (k_skip_seq (k_ret ?_))
            exact ⟨.inr rfl, by kernel_rfl, by kernel_rfl⟩
          · by_cases c7 : f.n > 1000
            · rw [mayR_no (fun h => h.2.2.2.2 ⟨c5, .inr c7⟩)]
              refine k_seq ?_
              refine rgf (D.lptr (1 : Nat) (0 : Nat)) (σ) ?_
              refine rv (D.bool false) ?_
              refine k_done (k_skip_seq (k_seq (k_block (k_seq ?_))))
              refine rv (D.lptr (1 : Nat) (0 : Nat)) ?_
              refine rv (D.int IntKind.i64 (Fm.op f)) ?_
              refine rv (D.bool (decide (Fm.op f < (1 : Int)))) ?_
              refine rv (D.bool (decide (Fm.op f < (1 : Int)))) ?_
              refine rkn 7 (decide (Fm.op f < (1 : Int))) false (decide_eq_false (by assumption)) ?_
              refine rv (D.lptr (1 : Nat) (0 : Nat)) ?_
              refine rv (D.int IntKind.i64 (Fm.op f)) ?_
              refine rv (D.bool (decide (Fm.op f > (6 : Int)))) ?_
              refine rv (D.bool (decide (Fm.op f > (6 : Int)))) ?_
              refine ra0 (D.bool (decide (Fm.op f > (6 : Int)))) ?_
              refine k_done (k_skip_seq ?_)
              refine rkn 3 (decide (Fm.op f > (6 : Int))) false (decide_eq_false (by assumption)) ?_
              refine kcf (k_seq ?_)
              refine rv (D.lptr (1 : Nat) (0 : Nat)) ?_
              refine rv (D.int IntKind.i64 (Fm.op f)) ?_
              refine rv (D.bool (decide (Fm.op f ≤ (3 : Int)))) ?_
              refine rv (D.bool (decide (Fm.op f ≤ (3 : Int)))) ?_
              refine rkn 16 (decide (Fm.op f ≤ (3 : Int))) true (decide_eq_true (by assumption)) ?_
              refine rv (D.lptr (1 : Nat) (2 : Nat)) ?_
              refine rv (D.sl (eFs (Fm.kids f)) none) ?_
              refine rve (D.int IntKind.i64 (↑(List.length (eFs (Fm.kids f))) : Int)) (.int IntKind.i64 ((↑(List.length (Fm.kids f)) : Int))) (by simp only [eFs_length]) ?_
              refine rv (D.bool (decide ((↑(List.length (Fm.kids f)) : Int) > (0 : Int)))) ?_
              refine rv (D.bool (decide ((↑(List.length (Fm.kids f)) : Int) > (0 : Int)))) ?_
              refine rv (D.bool (decide ((↑(List.length (Fm.kids f)) : Int) > (0 : Int)))) ?_
              refine rkn 22 (decide ((↑(List.length (Fm.kids f)) : Int) > (0 : Int))) false (decide_eq_false (by omega)) ?_
              refine rv (D.lptr (1 : Nat) (0 : Nat)) ?_
              refine rv (D.int IntKind.i64 (Fm.op f)) ?_
              refine rv (D.bool (Fm.op f == (4 : Int))) ?_
              refine rv (D.bool (Fm.op f == (4 : Int))) ?_
              refine rkn 26 (Fm.op f == (4 : Int)) false (decide_eq_false (by omega)) ?_
              refine rno (rno (rno (rno ?_)))
              refine rv (D.bool false) ?_
              refine rv (D.bool false) ?_
              refine ra0 (D.bool false) ?_
              refine k_done (k_skip_seq (kcf (k_seq ?_)))
              refine rv (D.lptr (1 : Nat) (0 : Nat)) ?_
              refine rv (D.int IntKind.i64 (Fm.op f)) ?_
              refine rv (D.bool (Fm.op f == (3 : Int))) ?_
              refine rv (D.bool (Fm.op f == (3 : Int))) ?_
              refine rkn 37 (Fm.op f == (3 : Int)) true (decide_eq_true (by assumption)) ?_
              refine rv (D.lptr (1 : Nat) (1 : Nat)) ?_
              refine rv (D.int IntKind.i64 (Fm.n f)) ?_
              refine rv (D.bool (decide (Fm.n f < (1 : Int)))) ?_
              refine rv (D.bool (decide (Fm.n f < (1 : Int)))) ?_
              refine rkn 41 (decide (Fm.n f < (1 : Int))) false (decide_eq_false (by assumption)) ?_
              refine rv (D.lptr (1 : Nat) (1 : Nat)) ?_
              refine rv (D.int IntKind.i64 (Fm.n f)) ?_
              refine rv (D.bool (decide (Fm.n f > (1000 : Int)))) ?_
              refine rv (D.bool (decide (Fm.n f > (1000 : Int)))) ?_
              refine rv (D.bool (decide (Fm.n f > (1000 : Int)))) ?_
              refine ra0 (D.bool (decide (Fm.n f > (1000 : Int)))) ?_
              refine k_done (k_skip_seq ?_)
              refine rkn 33 (decide (Fm.n f > (1000 : Int))) true (decide_eq_true (by assumption)) ?_
              refine kct (k_seq ?_)
              refine rv (D.bool false) ?_
              refine k_done (k_skip_seq (k_ret ?_))
              exact ⟨.inr rfl, by kernel_rfl, by kernel_rfl⟩
            · have hh : headOK f := ⟨c1, c2, fun h => c4 h.2, fun h => by omega, fun h => by omega⟩
              rw [mayR_go hh, all_any]
              refine k_seq ?_
              refine rgf (D.lptr (1 : Nat) (0 : Nat)) (σ) ?_
              refine rv (D.bool false) ?_
              refine k_done (k_skip_seq (k_seq (k_block (k_seq ?_))))
              refine rv (D.lptr (1 : Nat) (0 : Nat)) ?_
              refine rv (D.int IntKind.i64 (Fm.op f)) ?_
              refine rv (D.bool (decide (Fm.op f < (1 : Int)))) ?_
              refine rv (D.bool (decide (Fm.op f < (1 : Int)))) ?_
              refine rkn 7 (decide (Fm.op f < (1 : Int))) false (decide_eq_false (by assumption)) ?_
              refine rv (D.lptr (1 : Nat) (0 : Nat)) ?_
              refine rv (D.int IntKind.i64 (Fm.op f)) ?_
              refine rv (D.bool (decide (Fm.op f > (6 : Int)))) ?_
              refine rv (D.bool (decide (Fm.op f > (6 : Int)))) ?_
              refine ra0 (D.bool (decide (Fm.op f > (6 : Int)))) ?_
              refine k_done (k_skip_seq ?_)
              refine rkn 3 (decide (Fm.op f > (6 : Int))) false (decide_eq_false (by assumption)) ?_
              refine kcf (k_seq ?_)
              refine rv (D.lptr (1 : Nat) (0 : Nat)) ?_
              refine rv (D.int IntKind.i64 (Fm.op f)) ?_
              refine rv (D.bool (decide (Fm.op f ≤ (3 : Int)))) ?_
              refine rv (D.bool (decide (Fm.op f ≤ (3 : Int)))) ?_
              refine rkn 16 (decide (Fm.op f ≤ (3 : Int))) true (decide_eq_true (by assumption)) ?_
              refine rv (D.lptr (1 : Nat) (2 : Nat)) ?_
              refine rv (D.sl (eFs (Fm.kids f)) none) ?_
              refine rve (D.int IntKind.i64 (↑(List.length (eFs (Fm.kids f))) : Int)) (.int IntKind.i64 ((↑(List.length (Fm.kids f)) : Int))) (by simp only [eFs_length]) ?_
              refine rv (D.bool (decide ((↑(List.length (Fm.kids f)) : Int) > (0 : Int)))) ?_
              refine rv (D.bool (decide ((↑(List.length (Fm.kids f)) : Int) > (0 : Int)))) ?_
              refine rv (D.bool (decide ((↑(List.length (Fm.kids f)) : Int) > (0 : Int)))) ?_
              refine rkn 22 (decide ((↑(List.length (Fm.kids f)) : Int) > (0 : Int))) false (decide_eq_false (by omega)) ?_
              refine rv (D.lptr (1 : Nat) (0 : Nat)) ?_
              refine rv (D.int IntKind.i64 (Fm.op f)) ?_
              refine rv (D.bool (Fm.op f == (4 : Int))) ?_
              refine rv (D.bool (Fm.op f == (4 : Int))) ?_
              refine rkn 26 (Fm.op f == (4 : Int)) false (decide_eq_false (by omega)) ?_
              refine rno (rno (rno (rno ?_)))
              refine rv (D.bool false) ?_
              refine rv (D.bool false) ?_
              refine ra0 (D.bool false) ?_
              refine k_done (k_skip_seq (kcf (k_seq ?_)))
              refine rv (D.lptr (1 : Nat) (0 : Nat)) ?_
              refine rv (D.int IntKind.i64 (Fm.op f)) ?_
              refine rv (D.bool (Fm.op f == (3 : Int))) ?_
              refine rv (D.bool (Fm.op f == (3 : Int))) ?_
              refine rkn 37 (Fm.op f == (3 : Int)) true (decide_eq_true (by assumption)) ?_
              refine rv (D.lptr (1 : Nat) (1 : Nat)) ?_
              refine rv (D.int IntKind.i64 (Fm.n f)) ?_
              refine rv (D.bool (decide (Fm.n f < (1 : Int)))) ?_
              refine rv (D.bool (decide (Fm.n f < (1 : Int)))) ?_
              refine rkn 41 (decide (Fm.n f < (1 : Int))) false (decide_eq_false (by assumption)) ?_
              refine rv (D.lptr (1 : Nat) (1 : Nat)) ?_
              refine rv (D.int IntKind.i64 (Fm.n f)) ?_
              refine rv (D.bool (decide (Fm.n f > (1000 : Int)))) ?_
              refine rv (D.bool (decide (Fm.n f > (1000 : Int)))) ?_
              refine rv (D.bool (decide (Fm.n f > (1000 : Int)))) ?_
              refine ra0 (D.bool (decide (Fm.n f > (1000 : Int)))) ?_
              refine k_done (k_skip_seq ?_)
              refine rkn 33 (decide (Fm.n f > (1000 : Int))) false (decide_eq_false (by assumption)) ?_
              refine kcf (k_skip_block (k_skip_seq (k_seq ?_)))
              refine rv (D.lptr (1 : Nat) (2 : Nat)) ?_
              refine rv (D.sl (eFs (Fm.kids f)) none) ?_
              refine runs_call ([D.sl (eFs (Fm.kids f)) none, D.func (52 : Nat) []]) (by kernel_rfl) (by kernel_rfl) (by kernel_rfl) (by kernel_rfl) (hcon) (by kernel_rfl) ?_
              refine rv (D.bool !List.any (Fm.kids f) fun k => !mayR d k) ?_
              refine ra0 (D.bool !List.any (Fm.kids f) fun k => !mayR d k) ?_
              refine k_done (k_skip_seq (k_ret ?_))
              exact ⟨.inr rfl, by kernel_rfl, by kernel_rfl⟩
        · have hh : headOK f := ⟨c1, c2, fun h => c4 h.2, fun h => by omega, fun h => by omega⟩
          rw [mayR_go hh, all_any]
          refine k_seq ?_
          refine rgf (D.lptr (1 : Nat) (0 : Nat)) (σ) ?_
          refine rv (D.bool false) ?_
          refine k_done (k_skip_seq (k_seq (k_block (k_seq ?_))))
          refine rv (D.lptr (1 : Nat) (0 : Nat)) ?_
          refine rv (D.int IntKind.i64 (Fm.op f)) ?_
          refine rv (D.bool (decide (Fm.op f < (1 : Int)))) ?_
          refine rv (D.bool (decide (Fm.op f < (1 : Int)))) ?_
          refine rkn 7 (decide (Fm.op f < (1 : Int))) false (decide_eq_false (by assumption)) ?_
          refine rv (D.lptr (1 : Nat) (0 : Nat)) ?_
          refine rv (D.int IntKind.i64 (Fm.op f)) ?_
          refine rv (D.bool (decide (Fm.op f > (6 : Int)))) ?_
          refine rv (D.bool (decide (Fm.op f > (6 : Int)))) ?_
          refine ra0 (D.bool (decide (Fm.op f > (6 : Int)))) ?_
          refine k_done (k_skip_seq ?_)
          refine rkn 3 (decide (Fm.op f > (6 : Int))) false (decide_eq_false (by assumption)) ?_
          refine kcf (k_seq ?_)
          refine rv (D.lptr (1 : Nat) (0 : Nat)) ?_
          refine rv (D.int IntKind.i64 (Fm.op f)) ?_
          refine rv (D.bool (decide (Fm.op f ≤ (3 : Int)))) ?_
          refine rv (D.bool (decide (Fm.op f ≤ (3 : Int)))) ?_
          refine rkn 16 (decide (Fm.op f ≤ (3 : Int))) true (decide_eq_true (by assumption)) ?_
          refine rv (D.lptr (1 : Nat) (2 : Nat)) ?_
          refine rv (D.sl (eFs (Fm.kids f)) none) ?_
          refine rve (D.int IntKind.i64 (↑(List.length (eFs (Fm.kids f))) : Int)) (.int IntKind.i64 ((↑(List.length (Fm.kids f)) : Int))) (by simp only [eFs_length]) ?_
          refine rv (D.bool (decide ((↑(List.length (Fm.kids f)) : Int) > (0 : Int)))) ?_
          refine rv (D.bool (decide ((↑(List.length (Fm.kids f)) : Int) > (0 : Int)))) ?_
          refine rv (D.bool (decide ((↑(List.length (Fm.kids f)) : Int) > (0 : Int)))) ?_
          refine rkn 22 (decide ((↑(List.length (Fm.kids f)) : Int) > (0 : Int))) false (decide_eq_false (by omega)) ?_
          refine rv (D.lptr (1 : Nat) (0 : Nat)) ?_
          refine rv (D.int IntKind.i64 (Fm.op f)) ?_
          refine rv (D.bool (Fm.op f == (4 : Int))) ?_
          refine rv (D.bool (Fm.op f == (4 : Int))) ?_
          refine rkn 26 (Fm.op f == (4 : Int)) false (decide_eq_false (by omega)) ?_
          refine rno (rno (rno (rno ?_)))
          refine rv (D.bool false) ?_
          refine rv (D.bool false) ?_
          refine ra0 (D.bool false) ?_
          refine k_done (k_skip_seq (kcf (k_seq ?_)))
          refine rv (D.lptr (1 : Nat) (0 : Nat)) ?_
          refine rv (D.int IntKind.i64 (Fm.op f)) ?_
          refine rv (D.bool (Fm.op f == (3 : Int))) ?_
          refine rv (D.bool (Fm.op f == (3 : Int))) ?_
          refine rkn 37 (Fm.op f == (3 : Int)) false (decide_eq_false (by assumption)) ?_
          refine rno (rno (rno (rno (rno (rno (rno (rno ?_)))))))
          refine rv (D.bool false) ?_
          refine ra0 (D.bool false) ?_
          refine k_done (k_skip_seq (kcf (k_skip_block (k_skip_seq (k_seq ?_)))))
          refine rv (D.lptr (1 : Nat) (2 : Nat)) ?_
          refine rv (D.sl (eFs (Fm.kids f)) none) ?_
          refine runs_call ([D.sl (eFs (Fm.kids f)) none, D.func (52 : Nat) []]) (by kernel_rfl) (by kernel_rfl) (by kernel_rfl) (by kernel_rfl) (hcon) (by kernel_rfl) ?_
          refine rv (D.bool !List.any (Fm.kids f) fun k => !mayR d k) ?_
          refine ra0 (D.bool !List.any (Fm.kids f) fun k => !mayR d k) ?_
          refine k_done (k_skip_seq (k_ret ?_))
          exact ⟨.inr rfl, by kernel_rfl, by kernel_rfl⟩
    · by_cases c4 : f.op = 4
      · by_cases c5 : f.kids.length = 1
        · have hh : headOK f := ⟨c1, c2, fun h => by omega, fun h => h.2 c5, fun h => by omega⟩
          rw [mayR_go hh, all_any]
          refine k_seq ?_
          refine rgf (D.lptr (1 : Nat) (0 : Nat)) (σ) ?_
          refine rv (D.bool false) ?_
          refine k_done (k_skip_seq (k_seq (k_block (k_seq ?_))))
          refine rv (D.lptr (1 : Nat) (0 : Nat)) ?_
          refine rv (D.int IntKind.i64 (Fm.op f)) ?_
          refine rv (D.bool (decide (Fm.op f < (1 : Int)))) ?_
          refine rv (D.bool (decide (Fm.op f < (1 : Int)))) ?_
          refine rkn 7 (decide (Fm.op f < (1 : Int))) false (decide_eq_false (by assumption)) ?_
          refine rv (D.lptr (1 : Nat) (0 : Nat)) ?_
          refine rv (D.int IntKind.i64 (Fm.op f)) ?_
          refine rv (D.bool (decide (Fm.op f > (6 : Int)))) ?_
          refine rv (D.bool (decide (Fm.op f > (6 : Int)))) ?_
          refine ra0 (D.bool (decide (Fm.op f > (6 : Int)))) ?_
          refine k_done (k_skip_seq ?_)
          refine rkn 3 (decide (Fm.op f > (6 : Int))) false (decide_eq_false (by assumption)) ?_
          refine kcf (k_seq ?_)
          refine rv (D.lptr (1 : Nat) (0 : Nat)) ?_
          refine rv (D.int IntKind.i64 (Fm.op f)) ?_
          refine rv (D.bool (decide (Fm.op f ≤ (3 : Int)))) ?_
          refine rv (D.bool (decide (Fm.op f ≤ (3 : Int)))) ?_
          refine rkn 16 (decide (Fm.op f ≤ (3 : Int))) false (decide_eq_false (by assumption)) ?_
          refine rno (rno (rno (rno ?_)))
          refine rv (D.bool false) ?_
          refine rv (D.bool false) ?_
          refine rv (D.lptr (1 : Nat) (0 : Nat)) ?_
          refine rv (D.int IntKind.i64 (Fm.op f)) ?_
          refine rv (D.bool (Fm.op f == (4 : Int))) ?_
          refine rv (D.bool (Fm.op f == (4 : Int))) ?_
          refine rkn 26 (Fm.op f == (4 : Int)) true (decide_eq_true (by assumption)) ?_
          refine rv (D.lptr (1 : Nat) (2 : Nat)) ?_
          refine rv (D.sl (eFs (Fm.kids f)) none) ?_
          refine rve (D.int IntKind.i64 (↑(List.length (eFs (Fm.kids f))) : Int)) (.int IntKind.i64 ((↑(List.length (Fm.kids f)) : Int))) (by simp only [eFs_length]) ?_
          refine rv (D.bool ((↑(List.length (Fm.kids f)) : Int) != (1 : Int))) ?_
          refine rv (D.bool ((↑(List.length (Fm.kids f)) : Int) != (1 : Int))) ?_
          refine rv (D.bool ((↑(List.length (Fm.kids f)) : Int) != (1 : Int))) ?_
          refine ra0 (D.bool ((↑(List.length (Fm.kids f)) : Int) != (1 : Int))) ?_
          refine k_done (k_skip_seq ?_)
          refine rkn 12 ((↑(List.length (Fm.kids f)) : Int) != (1 : Int)) false (bne_eq_false_iff_eq.2 (by omega)) ?_
          refine kcf (k_seq ?_)
          refine rv (D.lptr (1 : Nat) (0 : Nat)) ?_
          refine rv (D.int IntKind.i64 (Fm.op f)) ?_
          refine rv (D.bool (Fm.op f == (3 : Int))) ?_
          refine rv (D.bool (Fm.op f == (3 : Int))) ?_
          refine rkn 37 (Fm.op f == (3 : Int)) false (decide_eq_false (by omega)) ?_
          refine rno (rno (rno (rno (rno (rno (rno (rno ?_)))))))
          refine rv (D.bool false) ?_
          refine ra0 (D.bool false) ?_
          refine k_done (k_skip_seq (kcf (k_skip_block (k_skip_seq (k_seq ?_)))))
          refine rv (D.lptr (1 : Nat) (2 : Nat)) ?_
          refine rv (D.sl (eFs (Fm.kids f)) none) ?_
          refine runs_call ([D.sl (eFs (Fm.kids f)) none, D.func (52 : Nat) []]) (by kernel_rfl) (by kernel_rfl) (by kernel_rfl) (by kernel_rfl) (hcon) (by kernel_rfl) ?_
          refine rv (D.bool !List.any (Fm.kids f) fun k => !mayR d k) ?_
          refine ra0 (D.bool !List.any (Fm.kids f) fun k => !mayR d k) ?_
          refine k_done (k_skip_seq (k_ret ?_))
          exact ⟨.inr rfl, by kernel_rfl, by kernel_rfl⟩
        · rw [mayR_no (fun h => h.2.2.2.1 ⟨c4, c5⟩)]
          refine k_seq ?_
          refine rgf (D.lptr (1 : Nat) (0 : Nat)) (σ) ?_
          refine rv (D.bool false) ?_
          refine k_done (k_skip_seq (k_seq (k_block (k_seq ?_))))
          refine rv (D.lptr (1 : Nat) (0 : Nat)) ?_
          refine rv (D.int IntKind.i64 (Fm.op f)) ?_
          refine rv (D.bool (decide (Fm.op f < (1 : Int)))) ?_
          refine rv (D.bool (decide (Fm.op f < (1 : Int)))) ?_
          refine rkn 7 (decide (Fm.op f < (1 : Int))) false (decide_eq_false (by assumption)) ?_
          refine rv (D.lptr (1 : Nat) (0 : Nat)) ?_
          refine rv (D.int IntKind.i64 (Fm.op f)) ?_
          refine rv (D.bool (decide (Fm.op f > (6 : Int)))) ?_
          refine rv (D.bool (decide (Fm.op f > (6 : Int)))) ?_
          refine ra0 (D.bool (decide (Fm.op f > (6 : Int)))) ?_
          refine k_done (k_skip_seq ?_)
          refine rkn 3 (decide (Fm.op f > (6 : Int))) false (decide_eq_false (by assumption)) ?_
          refine kcf (k_seq ?_)
          refine rv (D.lptr (1 : Nat) (0 : Nat)) ?_
          refine rv (D.int IntKind.i64 (Fm.op f)) ?_
          refine rv (D.bool (decide (Fm.op f ≤ (3 : Int)))) ?_
          refine rv (D.bool (decide (Fm.op f ≤ (3 : Int)))) ?_
          refine rkn 16 (decide (Fm.op f ≤ (3 : Int))) false (decide_eq_false (by assumption)) ?_
          refine rno (rno (rno (rno ?_)))
          refine rv (D.bool false) ?_
          refine rv (D.bool false) ?_
          refine rv (D.lptr (1 : Nat) (0 : Nat)) ?_
          refine rv (D.int IntKind.i64 (Fm.op f)) ?_
          refine rv (D.bool (Fm.op f == (4 : Int))) ?_
          refine rv (D.bool (Fm.op f == (4 : Int))) ?_
          refine rkn 26 (Fm.op f == (4 : Int)) true (decide_eq_true (by assumption)) ?_
          refine rv (D.lptr (1 : Nat) (2 : Nat)) ?_
          refine rv (D.sl (eFs (Fm.kids f)) none) ?_
          refine rve (D.int IntKind.i64 (↑(List.length (eFs (Fm.kids f))) : Int)) (.int IntKind.i64 ((↑(List.length (Fm.kids f)) : Int))) (by simp only [eFs_length]) ?_
          refine rv (D.bool ((↑(List.length (Fm.kids f)) : Int) != (1 : Int))) ?_
          refine rv (D.bool ((↑(List.length (Fm.kids f)) : Int) != (1 : Int))) ?_
          refine rv (D.bool ((↑(List.length (Fm.kids f)) : Int) != (1 : Int))) ?_
          refine ra0 (D.bool ((↑(List.length (Fm.kids f)) : Int) != (1 : Int))) ?_
          refine k_done (k_skip_seq ?_)
          refine rkn 12 ((↑(List.length (Fm.kids f)) : Int) != (1 : Int)) true (bne_iff_ne.2 (by omega)) ?_
          refine kct (k_seq ?_)
          refine rv (D.bool false) ?_
          refine k_done (k_skip_seq (k_ret ?_))
          exact ⟨.inr rfl, by kernel_rfl, by kernel_rfl⟩
      · have hh : headOK f := ⟨c1, c2, fun h => by omega, fun h => c4 h.1, fun h => by omega⟩
        rw [mayR_go hh, all_any]
        refine k_seq ?_
        refine rgf (D.lptr (1 : Nat) (0 : Nat)) (σ) ?_
        refine rv (D.bool false) ?_
        refine k_done (k_skip_seq (k_seq (k_block (k_seq ?_))))
        refine rv (D.lptr (1 : Nat) (0 : Nat)) ?_
        refine rv (D.int IntKind.i64 (Fm.op f)) ?_
        refine rv (D.bool (decide (Fm.op f < (1 : Int)))) ?_
        refine rv (D.bool (decide (Fm.op f < (1 : Int)))) ?_
        refine rkn 7 (decide (Fm.op f < (1 : Int))) false (decide_eq_false (by assumption)) ?_
        refine rv (D.lptr (1 : Nat) (0 : Nat)) ?_
        refine rv (D.int IntKind.i64 (Fm.op f)) ?_
        refine rv (D.bool (decide (Fm.op f > (6 : Int)))) ?_
        refine rv (D.bool (decide (Fm.op f > (6 : Int)))) ?_
        refine ra0 (D.bool (decide (Fm.op f > (6 : Int)))) ?_
        refine k_done (k_skip_seq ?_)
        refine rkn 3 (decide (Fm.op f > (6 : Int))) false (decide_eq_false (by assumption)) ?_
        refine kcf (k_seq ?_)
        refine rv (D.lptr (1 : Nat) (0 : Nat)) ?_
        refine rv (D.int IntKind.i64 (Fm.op f)) ?_
        refine rv (D.bool (decide (Fm.op f ≤ (3 : Int)))) ?_
        refine rv (D.bool (decide (Fm.op f ≤ (3 : Int)))) ?_
        refine rkn 16 (decide (Fm.op f ≤ (3 : Int))) false (decide_eq_false (by assumption)) ?_
        refine rno (rno (rno (rno ?_)))
        refine rv (D.bool false) ?_
        refine rv (D.bool false) ?_
        refine rv (D.lptr (1 : Nat) (0 : Nat)) ?_
        refine rv (D.int IntKind.i64 (Fm.op f)) ?_
        refine rv (D.bool (Fm.op f == (4 : Int))) ?_
        refine rv (D.bool (Fm.op f == (4 : Int))) ?_
        refine rkn 26 (Fm.op f == (4 : Int)) false (decide_eq_false (by assumption)) ?_
        refine rno (rno (rno (rno ?_)))
        refine rv (D.bool false) ?_
        refine rv (D.bool false) ?_
        refine ra0 (D.bool false) ?_
        refine k_done (k_skip_seq (kcf (k_seq ?_)))
        refine rv (D.lptr (1 : Nat) (0 : Nat)) ?_
        refine rv (D.int IntKind.i64 (Fm.op f)) ?_
        refine rv (D.bool (Fm.op f == (3 : Int))) ?_
        refine rv (D.bool (Fm.op f == (3 : Int))) ?_
        refine rkn 37 (Fm.op f == (3 : Int)) false (decide_eq_false (by omega)) ?_
        refine rno (rno (rno (rno (rno (rno (rno (rno ?_)))))))
        refine rv (D.bool false) ?_
        refine ra0 (D.bool false) ?_
        refine k_done (k_skip_seq (kcf (k_skip_block (k_skip_seq (k_seq ?_)))))
        refine rv (D.lptr (1 : Nat) (2 : Nat)) ?_
        refine rv (D.sl (eFs (Fm.kids f)) none) ?_
        refine runs_call ([D.sl (eFs (Fm.kids f)) none, D.func (52 : Nat) []]) (by kernel_rfl) (by kernel_rfl) (by kernel_rfl) (by kernel_rfl) (hcon) (by kernel_rfl) ?_
        refine rv (D.bool !List.any (Fm.kids f) fun k => !mayR d k) ?_
        refine ra0 (D.bool !List.any (Fm.kids f) fun k => !mayR d k) ?_
        refine k_done (k_skip_seq (k_ret ?_))
        exact ⟨.inr rfl, by kernel_rfl, by kernel_rfl⟩

/-- Whether a formula may be. -/
def checkF (d : Nat) (f : Fm) : Int := if depthR d f > 500 then 11 else if mayR d f then 0 else 1
theorem check_ok (d : Nat) (f : Fm) (N : Nat) (σ : St) (hf : fits d f) (hd : d ≤ 4000) (hN : 4 * d + 70 ≤ N) : callN T (N + 1) 15 [.agg (eF f)] σ = some (.int .i64 (checkF d f), σ) := by
  have h1 := depth_ok d f N [] hf hd (by omega)
  have h2 := may_ok d f N [] hf (by omega)
  refine call_of (m := m15) rfl rfl (by decide) (k_start ?_)
  unfold m15
  unfold checkF
  by_cases c1 : depthR d f > 500
  · rw [if_pos c1]
    refine k_seq ?_
    refine rgf (D.lptr (1 : Nat) (0 : Nat)) (σ) ?_
    refine rv (D.int IntKind.i64 (0 : Int)) ?_
    refine k_done (k_skip_seq (k_seq (k_block (k_seq ?_))))
    refine rv (D.agg [D.int IntKind.i64 (Fm.op f), D.int IntKind.i64 (Fm.n f), D.sl (eFs (Fm.kids f)) none]) ?_
    refine runs_call ([D.agg [D.int IntKind.i64 (Fm.op f), D.int IntKind.i64 (Fm.n f), D.sl (eFs (Fm.kids f)) none]]) (by kernel_rfl) (by kernel_rfl) (by kernel_rfl) (by kernel_rfl) (h1) (by kernel_rfl) ?_
    refine rv (D.bool (decide (depthR d f > (500 : Int)))) ?_
    refine ra0 (D.bool (decide (depthR d f > (500 : Int)))) ?_
    refine k_done (k_skip_seq ?_)
    refine rkn 3 (decide (depthR d f > (500 : Int))) true (decide_eq_true (by assumption)) ?_
    refine kct (k_seq ?_)
    refine rv (D.int IntKind.i64 (11 : Int)) ?_
    refine k_done (k_skip_seq (k_ret ?_))
    exact ⟨.inr rfl, by kernel_rfl, by kernel_rfl⟩
  · rw [if_neg c1]
    by_cases c2 : mayR d f = true
    · rw [if_pos c2]
      rw [c2] at h2
      refine k_seq ?_
      refine rgf (D.lptr (1 : Nat) (0 : Nat)) (σ) ?_
      refine rv (D.int IntKind.i64 (0 : Int)) ?_
      refine k_done (k_skip_seq (k_seq (k_block (k_seq ?_))))
      refine rv (D.agg [D.int IntKind.i64 (Fm.op f), D.int IntKind.i64 (Fm.n f), D.sl (eFs (Fm.kids f)) none]) ?_
      refine runs_call ([D.agg [D.int IntKind.i64 (Fm.op f), D.int IntKind.i64 (Fm.n f), D.sl (eFs (Fm.kids f)) none]]) (by kernel_rfl) (by kernel_rfl) (by kernel_rfl) (by kernel_rfl) (h1) (by kernel_rfl) ?_
      refine rv (D.bool (decide (depthR d f > (500 : Int)))) ?_
      refine ra0 (D.bool (decide (depthR d f > (500 : Int)))) ?_
      refine k_done (k_skip_seq ?_)
      refine rkn 3 (decide (depthR d f > (500 : Int))) false (decide_eq_false (by assumption)) ?_
      refine kcf (k_seq ?_)
      refine rv (D.agg [D.int IntKind.i64 (Fm.op f), D.int IntKind.i64 (Fm.n f), D.sl (eFs (Fm.kids f)) none]) ?_
      refine runs_call ([D.agg [D.int IntKind.i64 (Fm.op f), D.int IntKind.i64 (Fm.n f), D.sl (eFs (Fm.kids f)) none]]) (by kernel_rfl) (by kernel_rfl) (by kernel_rfl) (by kernel_rfl) (h2) (by kernel_rfl) ?_
      refine rv (D.bool false) ?_
      refine ra0 (D.bool false) ?_
      refine k_done (k_skip_seq (kcf (k_skip_block (k_skip_seq (k_seq ?_)))))
      refine rv (D.int IntKind.i64 (0 : Int)) ?_
      refine k_done (k_skip_seq (k_ret ?_))
      exact ⟨.inr rfl, by kernel_rfl, by kernel_rfl⟩
    · rw [if_neg c2]
      have c3 : mayR d f = false := by simpa using c2
      rw [c3] at h2
      refine k_seq ?_
      refine rgf (D.lptr (1 : Nat) (0 : Nat)) (σ) ?_
      refine rv (D.int IntKind.i64 (0 : Int)) ?_
      refine k_done (k_skip_seq (k_seq (k_block (k_seq ?_))))
      refine rv (D.agg [D.int IntKind.i64 (Fm.op f), D.int IntKind.i64 (Fm.n f), D.sl (eFs (Fm.kids f)) none]) ?_
      refine runs_call ([D.agg [D.int IntKind.i64 (Fm.op f), D.int IntKind.i64 (Fm.n f), D.sl (eFs (Fm.kids f)) none]]) (by kernel_rfl) (by kernel_rfl) (by kernel_rfl) (by kernel_rfl) (h1) (by kernel_rfl) ?_
      refine rv (D.bool (decide (depthR d f > (500 : Int)))) ?_
      refine ra0 (D.bool (decide (depthR d f > (500 : Int)))) ?_
      refine k_done (k_skip_seq ?_)
      refine rkn 3 (decide (depthR d f > (500 : Int))) false (decide_eq_false (by assumption)) ?_
      refine kcf (k_seq ?_)
      refine rv (D.agg [D.int IntKind.i64 (Fm.op f), D.int IntKind.i64 (Fm.n f), D.sl (eFs (Fm.kids f)) none]) ?_
      refine runs_call ([D.agg [D.int IntKind.i64 (Fm.op f), D.int IntKind.i64 (Fm.n f), D.sl (eFs (Fm.kids f)) none]]) (by kernel_rfl) (by kernel_rfl) (by kernel_rfl) (by kernel_rfl) (h2) (by kernel_rfl) ?_
      refine rv (D.bool true) ?_
      refine ra0 (D.bool true) ?_
      refine k_done (k_skip_seq (kct (k_seq ?_)))
      refine rv (D.int IntKind.i64 (1 : Int)) ?_
      refine k_done (k_skip_seq (k_ret ?_))
      exact ⟨.inr rfl, by kernel_rfl, by kernel_rfl⟩
theorem refCheck_ok (d : Nat) (f : Fm) (N : Nat) (σ : St) (hf : fits d f) (hd : d ≤ 4000) (hN : 4 * d + 70 ≤ N) : callN T (N + 1) 16 [.agg (eF f)] σ = some (.int .i64 (checkF d f), σ) := by
  have h1 := refDepth_ok d f N [] hf hd (by omega)
  have h2 := refMay_ok d f N [] hf (by omega)
  refine call_of (m := m16) rfl rfl (by decide) (k_start ?_)
  unfold m16
  unfold checkF
  by_cases c1 : depthR d f > 500
  · rw [if_pos c1]
    refine k_seq ?_
    refine rgf (D.lptr (1 : Nat) (0 : Nat)) (σ) ?_
    refine rv (D.int IntKind.i64 (0 : Int)) ?_
    refine k_done (k_skip_seq (k_seq (k_seq ?_)))
    refine rv (D.agg [D.int IntKind.i64 (Fm.op f), D.int IntKind.i64 (Fm.n f), D.sl (eFs (Fm.kids f)) none]) ?_
    refine runs_call ([D.agg [D.int IntKind.i64 (Fm.op f), D.int IntKind.i64 (Fm.n f), D.sl (eFs (Fm.kids f)) none]]) (by kernel_rfl) (by kernel_rfl) (by kernel_rfl) (by kernel_rfl) (h1) (by kernel_rfl) ?_
    refine rv (D.bool (decide (depthR d f > (500 : Int)))) ?_
    refine k_done (k_skip_seq ?_)
    refine rkn 6 (decide (depthR d f > (500 : Int))) true (decide_eq_true (by assumption)) ?_
    refine kct (k_seq ?_)
    refine rv (D.int IntKind.i64 (11 : Int)) ?_
    refine k_done (k_skip_seq (k_ret ?_))
    exact ⟨.inr rfl, by kernel_rfl, by kernel_rfl⟩
  · rw [if_neg c1]
    by_cases c2 : mayR d f = true
    · rw [if_pos c2]
      rw [c2] at h2
      refine k_seq ?_
      refine rgf (D.lptr (1 : Nat) (0 : Nat)) (σ) ?_
      refine rv (D.int IntKind.i64 (0 : Int)) ?_
      refine k_done (k_skip_seq (k_seq (k_seq ?_)))
      refine rv (D.agg [D.int IntKind.i64 (Fm.op f), D.int IntKind.i64 (Fm.n f), D.sl (eFs (Fm.kids f)) none]) ?_
      refine runs_call ([D.agg [D.int IntKind.i64 (Fm.op f), D.int IntKind.i64 (Fm.n f), D.sl (eFs (Fm.kids f)) none]]) (by kernel_rfl) (by kernel_rfl) (by kernel_rfl) (by kernel_rfl) (h1) (by kernel_rfl) ?_
      refine rv (D.bool (decide (depthR d f > (500 : Int)))) ?_
      refine k_done (k_skip_seq ?_)
      refine rkn 6 (decide (depthR d f > (500 : Int))) false (decide_eq_false (by assumption)) ?_
      refine kcf (k_skip_seq (k_seq ?_))
      refine rv (D.agg [D.int IntKind.i64 (Fm.op f), D.int IntKind.i64 (Fm.n f), D.sl (eFs (Fm.kids f)) none]) ?_
      refine runs_call ([D.agg [D.int IntKind.i64 (Fm.op f), D.int IntKind.i64 (Fm.n f), D.sl (eFs (Fm.kids f)) none]]) (by kernel_rfl) (by kernel_rfl) (by kernel_rfl) (by kernel_rfl) (h2) (by kernel_rfl) ?_
      refine ra0 (D.bool true) ?_
      refine k_done (k_skip_seq (k_seq (k_seq ?_)))
      refine rv (D.bool true) ?_
      refine rv (D.bool false) ?_
      refine k_done (k_skip_seq (kcf (k_skip_seq (k_seq ?_))))
      refine rv (D.int IntKind.i64 (0 : Int)) ?_
      refine k_done (k_skip_seq (k_ret ?_))
      exact ⟨.inr rfl, by kernel_rfl, by kernel_rfl⟩
    · rw [if_neg c2]
      have c3 : mayR d f = false := by simpa using c2
      rw [c3] at h2
      refine k_seq ?_
      refine rgf (D.lptr (1 : Nat) (0 : Nat)) (σ) ?_
      refine rv (D.int IntKind.i64 (0 : Int)) ?_
      refine k_done (k_skip_seq (k_seq (k_seq ?_)))
      refine rv (D.agg [D.int IntKind.i64 (Fm.op f), D.int IntKind.i64 (Fm.n f), D.sl (eFs (Fm.kids f)) none]) ?_
      refine runs_call ([D.agg [D.int IntKind.i64 (Fm.op f), D.int IntKind.i64 (Fm.n f), D.sl (eFs (Fm.kids f)) none]]) (by kernel_rfl) (by kernel_rfl) (by kernel_rfl) (by kernel_rfl) (h1) (by kernel_rfl) ?_
      refine rv (D.bool (decide (depthR d f > (500 : Int)))) ?_
      refine k_done (k_skip_seq ?_)
      refine rkn 6 (decide (depthR d f > (500 : Int))) false (decide_eq_false (by assumption)) ?_
      refine kcf (k_skip_seq (k_seq ?_))
      refine rv (D.agg [D.int IntKind.i64 (Fm.op f), D.int IntKind.i64 (Fm.n f), D.sl (eFs (Fm.kids f)) none]) ?_
      refine runs_call ([D.agg [D.int IntKind.i64 (Fm.op f), D.int IntKind.i64 (Fm.n f), D.sl (eFs (Fm.kids f)) none]]) (by kernel_rfl) (by kernel_rfl) (by kernel_rfl) (by kernel_rfl) (h2) (by kernel_rfl) ?_
      refine ra0 (D.bool false) ?_
      refine k_done (k_skip_seq (k_seq (k_seq ?_)))
      refine rv (D.bool false) ?_
      refine rv (D.bool true) ?_
      refine k_done (k_skip_seq (kct (k_seq ?_)))
      refine rv (D.int IntKind.i64 (1 : Int)) ?_
      refine k_done (k_skip_seq (k_ret ?_))
      exact ⟨.inr rfl, by kernel_rfl, by kernel_rfl⟩
end Go.Abs.A
