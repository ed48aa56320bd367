/-
  Same, free; the statement LogicSimple as the machine code sees it.
-/
import Derived.Test.YtjmhfliaehhijaaKont
import Derived.Test.YtjmhfliaehhijaaA9
set_option linter.unusedVariables false
set_option linter.unusedSimpArgs false
namespace Go.Abs.A
open Go Go.Abs
set_option maxRecDepth 8000
attribute [local irreducible] callN runC evalOp

def f23 (f : Fm) (i : Int) (x : D) : Fr := Fr.mk ([.agg (eF f), .agg (eF f), .lptr 2 0, .lptr 3 0, .bool false, .int .i64 i, .junk] ++ List.replicate 41 .junk) (((List.replicate 48 none).set 2 (some (eF f))).set 3 (some (eF f))) []
theorem same_ok : ∀ (d : Nat) (f : Fm) (N : Nat) (σ : St), fits d f → d + 70 ≤ N → callN T N 23 [.agg (eF f), .agg (eF f)] σ = some (.bool true, σ) := by
  intro d
  induction d with
  | zero => intro f N σ h; exact h.elim
  | succ d ih =>
    intro f N σ hfit hN
    obtain ⟨n, rfl⟩ : ∃ n, N = n + 1 := ⟨N - 1, by omega⟩
    obtain ⟨h12, hkids⟩ := hfit
    refine call_of (m := m23) rfl rfl (by decide) (k_start ?_)
    unfold m23
    refine k_seq ?_
    refine runs_gf (D.lptr (2 : Nat) (0 : Nat)) (σ) (by kernel_rfl) (by kernel_rfl) ?_
    refine runs_gf (D.lptr (3 : Nat) (0 : Nat)) (σ) (by kernel_rfl) (by kernel_rfl) ?_
    refine runs_v (D.bool false) (by kernel_rfl) (by kernel_rfl) ?_
    refine k_done ?_
    refine k_skip_seq ?_
    refine k_seq ?_
    refine k_seq ?_
    refine runs_v (D.lptr (2 : Nat) (0 : Nat)) (by kernel_rfl) (by kernel_rfl) ?_
    refine runs_v (D.int IntKind.i64 (Fm.op f)) (by kernel_rfl) (by kernel_rfl) ?_
    refine runs_v (D.lptr (3 : Nat) (0 : Nat)) (by kernel_rfl) (by kernel_rfl) ?_
    refine runs_v (D.int IntKind.i64 (Fm.op f)) (by kernel_rfl) (by kernel_rfl) ?_
    refine runs_v (D.bool (Fm.op f != Fm.op f)) (by kernel_rfl) (by kernel_rfl) ?_
    refine runs_v (D.bool (Fm.op f != Fm.op f)) (by kernel_rfl) (by kernel_rfl) ?_
    refine runs_know 12 (d := .bool (Fm.op f != Fm.op f)) (d' := .bool false) (by kernel_rfl) (congrArg D.bool (show (Fm.op f != Fm.op f) = false from (bne_eq_false_iff_eq.2 (by omega)))) ?_
    refine runs_v (D.lptr (2 : Nat) (1 : Nat)) (by kernel_rfl) (by kernel_rfl) ?_
    refine runs_v (D.int IntKind.i64 (Fm.n f)) (by kernel_rfl) (by kernel_rfl) ?_
    refine runs_v (D.lptr (3 : Nat) (1 : Nat)) (by kernel_rfl) (by kernel_rfl) ?_
    refine runs_v (D.int IntKind.i64 (Fm.n f)) (by kernel_rfl) (by kernel_rfl) ?_
    refine runs_v (D.bool (Fm.n f != Fm.n f)) (by kernel_rfl) (by kernel_rfl) ?_
    refine runs_v (D.bool (Fm.n f != Fm.n f)) (by kernel_rfl) (by kernel_rfl) ?_
    refine runs_v (D.bool (Fm.n f != Fm.n f)) (by kernel_rfl) (by kernel_rfl) ?_
    refine runs_know 19 (d := .bool (Fm.n f != Fm.n f)) (d' := .bool false) (by kernel_rfl) (congrArg D.bool (show (Fm.n f != Fm.n f) = false from (bne_eq_false_iff_eq.2 (by omega)))) ?_
    refine runs_v (D.lptr (2 : Nat) (2 : Nat)) (by kernel_rfl) (by kernel_rfl) ?_
    refine runs_v (D.sl (eFs (Fm.kids f)) none) (by kernel_rfl) (by kernel_rfl) ?_
    refine runs_ve (D.int IntKind.i64 (↑(List.length (eFs (Fm.kids f))) : Int)) (.int IntKind.i64 ((↑(List.length (Fm.kids f)) : Int))) (by simp only [eFs_length]) (by kernel_rfl) (by kernel_rfl) ?_
    refine runs_v (D.lptr (3 : Nat) (2 : Nat)) (by kernel_rfl) (by kernel_rfl) ?_
    refine runs_v (D.sl (eFs (Fm.kids f)) none) (by kernel_rfl) (by kernel_rfl) ?_
    refine runs_ve (D.int IntKind.i64 (↑(List.length (eFs (Fm.kids f))) : Int)) (.int IntKind.i64 ((↑(List.length (Fm.kids f)) : Int))) (by simp only [eFs_length]) (by kernel_rfl) (by kernel_rfl) ?_
    refine runs_v (D.bool ((↑(List.length (Fm.kids f)) : Int) != (↑(List.length (Fm.kids f)) : Int))) (by kernel_rfl) (by kernel_rfl) ?_
    refine runs_v (D.bool ((↑(List.length (Fm.kids f)) : Int) != (↑(List.length (Fm.kids f)) : Int))) (by kernel_rfl) (by kernel_rfl) ?_
    refine k_done ?_
    refine k_skip_seq ?_
    refine runs_know 27 (d := .bool ((↑(List.length (Fm.kids f)) : Int) != (↑(List.length (Fm.kids f)) : Int))) (d' := .bool false) (by kernel_rfl) (congrArg D.bool (show ((↑(List.length (Fm.kids f)) : Int) != (↑(List.length (Fm.kids f)) : Int)) = false from (bne_eq_false_iff_eq.2 (by omega)))) ?_
    refine k_cond_f (by kernel_rfl) ?_
    refine k_skip_seq ?_
    refine k_seq ?_
    refine k_seq ?_
    refine runs_v (D.int IntKind.i64 (0 : Int)) (by kernel_rfl) (by kernel_rfl) ?_
    refine k_done ?_
    refine k_skip_seq ?_
    refine k_block ?_
    refine k_loop (fun i : Nat => f23 f i .junk) (fun _ => σ) (fun i => i ≤ f.kids.length) (fun i => f.kids.length - i) 0 (by kernel_rfl) rfl (by simp) (by intro s hs; omega) ?_
    intro i hi
    by_cases hlt : i < f.kids.length
    · have hg := kid_at hlt
      have hcall := ih f.kids[i] n [] (hkids _ (List.getElem_mem hlt)) (by omega)
      refine k_seq ?_
      refine k_seq ?_
      refine runs_v (D.int IntKind.i64 (↑i : Int)) (by kernel_rfl) (by kernel_rfl) ?_
      refine runs_v (D.lptr (2 : Nat) (2 : Nat)) (by kernel_rfl) (by kernel_rfl) ?_
      refine runs_v (D.sl (eFs (Fm.kids f)) none) (by kernel_rfl) (by kernel_rfl) ?_
      refine runs_ve (D.int IntKind.i64 (↑(List.length (eFs (Fm.kids f))) : Int)) (.int IntKind.i64 ((↑(List.length (Fm.kids f)) : Int))) (by simp only [eFs_length]) (by kernel_rfl) (by kernel_rfl) ?_
      refine runs_v (D.bool (decide ((↑i : Int) < (↑(List.length (Fm.kids f)) : Int)))) (by kernel_rfl) (by kernel_rfl) ?_
      refine k_done ?_
      refine k_skip_seq ?_
      refine runs_know 32 (d := .bool (decide ((↑i : Int) < (↑(List.length (Fm.kids f)) : Int)))) (d' := .bool true) (by kernel_rfl) (congrArg D.bool (show (decide ((↑i : Int) < (↑(List.length (Fm.kids f)) : Int))) = true from (decide_eq_true (by omega)))) ?_
      refine k_cond_t (by kernel_rfl) ?_
      refine k_skip_seq ?_
      refine k_seq ?_
      refine k_block ?_
      refine k_seq ?_
      refine runs_v (D.lptr (2 : Nat) (2 : Nat)) (by kernel_rfl) (by kernel_rfl) ?_
      refine runs_v (D.sl (eFs (Fm.kids f)) none) (by kernel_rfl) (by kernel_rfl) ?_
      refine runs_v (D.int IntKind.i64 (↑i : Int)) (by kernel_rfl) (by kernel_rfl) ?_
      refine runs_indexL (eFs (Fm.kids f)) (o := none) (kd := IntKind.i64) (i) _ (by kernel_rfl) (by kernel_rfl) (by kernel_rfl) (by assumption) (by kernel_rfl) ?_
      refine runs_v (D.agg [D.int IntKind.i64 (Fm.op (Fm.kids f)[i]), D.int IntKind.i64 (Fm.n (Fm.kids f)[i]), D.sl (eFs (Fm.kids (Fm.kids f)[i])) none]) (by kernel_rfl) (by kernel_rfl) ?_
      refine runs_v (D.lptr (3 : Nat) (2 : Nat)) (by kernel_rfl) (by kernel_rfl) ?_
      refine runs_v (D.sl (eFs (Fm.kids f)) none) (by kernel_rfl) (by kernel_rfl) ?_
      refine runs_v (D.int IntKind.i64 (↑i : Int)) (by kernel_rfl) (by kernel_rfl) ?_
      refine runs_indexL (eFs (Fm.kids f)) (o := none) (kd := IntKind.i64) (i) _ (by kernel_rfl) (by kernel_rfl) (by kernel_rfl) (by assumption) (by kernel_rfl) ?_
      refine runs_v (D.agg [D.int IntKind.i64 (Fm.op (Fm.kids f)[i]), D.int IntKind.i64 (Fm.n (Fm.kids f)[i]), D.sl (eFs (Fm.kids (Fm.kids f)[i])) none]) (by kernel_rfl) (by kernel_rfl) ?_
      refine runs_call ([D.agg [D.int IntKind.i64 (Fm.op (Fm.kids f)[i]), D.int IntKind.i64 (Fm.n (Fm.kids f)[i]), D.sl (eFs (Fm.kids (Fm.kids f)[i])) none], D.agg [D.int IntKind.i64 (Fm.op (Fm.kids f)[i]), D.int IntKind.i64 (Fm.n (Fm.kids f)[i]), D.sl (eFs (Fm.kids (Fm.kids f)[i])) none]]) (by kernel_rfl) (by kernel_rfl) (by kernel_rfl) (by kernel_rfl) (hcall) (by kernel_rfl) ?_
      refine runs_assign0 (D.bool true) (by kernel_rfl) (by kernel_rfl) (by kernel_rfl) ?_
      refine k_done ?_
      refine k_skip_seq ?_
      refine k_seq ?_
      refine runs_v (D.bool true) (by kernel_rfl) (by kernel_rfl) ?_
      refine runs_v (D.bool false) (by kernel_rfl) (by kernel_rfl) ?_
      refine k_done ?_
      refine k_skip_seq ?_
      refine k_cond_f (by kernel_rfl) ?_
      refine k_skip_block ?_
      refine k_skip_seq ?_
      refine runs_v (D.int IntKind.i64 (↑i : Int)) (by kernel_rfl) (by kernel_rfl) ?_
      refine runs_ve (D.int IntKind.i64 (IntKind.wrap IntKind.i64 ((↑i : Int) + (1 : Int)))) (.int IntKind.i64 ((i + 1 : Nat) : Int)) (congrArg (D.int IntKind.i64) (show IntKind.wrap IntKind.i64 ((↑i : Int) + (1 : Int)) = ((i + 1 : Nat) : Int) from wrap_eq (by omega) (by omega) (by omega))) (by kernel_rfl) (by kernel_rfl) ?_
      refine runs_assign0 (D.int IntKind.i64 (↑(i + (1 : Nat)) : Int)) (by kernel_rfl) (by kernel_rfl) (by kernel_rfl) ?_
      refine k_done ?_
      refine k_skip_back ?_
      exact ⟨i + 1, hlt, by omega, by kernel_rfl, rfl⟩
    · refine k_seq ?_
      refine k_seq ?_
      refine runs_v (D.int IntKind.i64 (↑i : Int)) (by kernel_rfl) (by kernel_rfl) ?_
      refine runs_v (D.lptr (2 : Nat) (2 : Nat)) (by kernel_rfl) (by kernel_rfl) ?_
      refine runs_v (D.sl (eFs (Fm.kids f)) none) (by kernel_rfl) (by kernel_rfl) ?_
      refine runs_ve (D.int IntKind.i64 (↑(List.length (eFs (Fm.kids f))) : Int)) (.int IntKind.i64 ((↑(List.length (Fm.kids f)) : Int))) (by simp only [eFs_length]) (by kernel_rfl) (by kernel_rfl) ?_
      refine runs_v (D.bool (decide ((↑i : Int) < (↑(List.length (Fm.kids f)) : Int)))) (by kernel_rfl) (by kernel_rfl) ?_
      refine k_done ?_
      refine k_skip_seq ?_
      refine runs_know 32 (d := .bool (decide ((↑i : Int) < (↑(List.length (Fm.kids f)) : Int)))) (d' := .bool false) (by kernel_rfl) (congrArg D.bool (show (decide ((↑i : Int) < (↑(List.length (Fm.kids f)) : Int))) = false from (decide_eq_false (by omega)))) ?_
      refine k_cond_f (by kernel_rfl) ?_
      refine k_exit_seq ?_
      refine k_exit_back ?_
      refine k_exit_hit rfl ?_
      refine k_skip_seq ?_
      refine k_seq ?_
      refine runs_v (D.bool true) (by kernel_rfl) (by kernel_rfl) ?_
      refine k_done ?_
      refine k_skip_seq ?_
      refine k_ret ?_
      exact ⟨.inr rfl, by kernel_rfl, by kernel_rfl⟩
def f25 (f : Fm) (i : Int) : Fr := Fr.mk ([.agg (eF f), .lptr 1 0, .bool false, .int .i64 i] ++ List.replicate 19 .junk) (bx 23 1 (eF f)) []
theorem nf_kids {d : Nat} {f : Fm} (h : nf (d + 1) f) : ∀ k ∈ f.kids, nf d k := by
  rcases h with ⟨_, h, _⟩ | ⟨_, _, x, h3, h4, _⟩ | ⟨_, _, _, _, h5⟩
  · intro k hk
    rw [h] at hk
    cases hk
  · intro k hk
    rw [h3] at hk
    simp only [List.mem_singleton] at hk
    subst hk
    exact h4
  · exact h5
theorem free_ok : ∀ (d : Nat) (f : Fm) (N : Nat) (σ : St), nf d f → d + 70 ≤ N → callN T N 25 [.agg (eF f)] σ = some (.bool true, σ) := by
  intro d
  induction d with
  | zero => intro f N σ h; exact h.elim
  | succ d ih =>
    intro f N σ hnf hN
    obtain ⟨n, rfl⟩ : ∃ n, N = n + 1 := ⟨N - 1, by omega⟩
    have h12 := (nf_fits hnf).1
    have hkids := nf_kids hnf
    have hop := nf_op hnf
    refine call_of (m := m25) rfl rfl (by decide) (k_start ?_)
    unfold m25
    refine k_seq ?_
    refine runs_gf (D.lptr (1 : Nat) (0 : Nat)) (σ) (by kernel_rfl) (by kernel_rfl) ?_
    refine runs_v (D.bool false) (by kernel_rfl) (by kernel_rfl) ?_
    refine k_done ?_
    refine k_skip_seq ?_
    refine k_seq ?_
    refine k_seq ?_
    refine runs_v (D.lptr (1 : Nat) (0 : Nat)) (by kernel_rfl) (by kernel_rfl) ?_
    refine runs_v (D.int IntKind.i64 (Fm.op f)) (by kernel_rfl) (by kernel_rfl) ?_
    refine runs_v (D.bool (decide (Fm.op f ≤ (2 : Int)))) (by kernel_rfl) (by kernel_rfl) ?_
    refine k_done ?_
    refine k_skip_seq ?_
    refine runs_know 7 (d := .bool (decide (Fm.op f ≤ (2 : Int)))) (d' := .bool false) (by kernel_rfl) (congrArg D.bool (show (decide (Fm.op f ≤ (2 : Int))) = false from (decide_eq_false (by omega)))) ?_
    refine k_cond_f (by kernel_rfl) ?_
    refine k_skip_seq ?_
    refine k_seq ?_
    refine k_seq ?_
    refine runs_v (D.int IntKind.i64 (0 : Int)) (by kernel_rfl) (by kernel_rfl) ?_
    refine k_done ?_
    refine k_skip_seq ?_
    refine k_block ?_
    refine k_loop (fun i : Nat => f25 f i) (fun _ => σ) (fun i => i ≤ f.kids.length) (fun i => f.kids.length - i) 0 (by kernel_rfl) rfl (by simp) (by intro s hs; omega) ?_
    intro i hi
    by_cases hlt : i < f.kids.length
    · have hg := kid_at hlt
      have hcall := ih f.kids[i] n [] (hkids _ (List.getElem_mem hlt)) (by omega)
      refine k_seq ?_
      refine k_seq ?_
      refine runs_v (D.int IntKind.i64 (↑i : Int)) (by kernel_rfl) (by kernel_rfl) ?_
      refine runs_v (D.lptr (1 : Nat) (2 : Nat)) (by kernel_rfl) (by kernel_rfl) ?_
      refine runs_v (D.sl (eFs (Fm.kids f)) none) (by kernel_rfl) (by kernel_rfl) ?_
      refine runs_ve (D.int IntKind.i64 (↑(List.length (eFs (Fm.kids f))) : Int)) (.int IntKind.i64 ((↑(List.length (Fm.kids f)) : Int))) (by simp only [eFs_length]) (by kernel_rfl) (by kernel_rfl) ?_
      refine runs_v (D.bool (decide ((↑i : Int) < (↑(List.length (Fm.kids f)) : Int)))) (by kernel_rfl) (by kernel_rfl) ?_
      refine k_done ?_
      refine k_skip_seq ?_
      refine runs_know 12 (d := .bool (decide ((↑i : Int) < (↑(List.length (Fm.kids f)) : Int)))) (d' := .bool true) (by kernel_rfl) (congrArg D.bool (show (decide ((↑i : Int) < (↑(List.length (Fm.kids f)) : Int))) = true from (decide_eq_true (by omega)))) ?_
      refine k_cond_t (by kernel_rfl) ?_
      refine k_skip_seq ?_
      refine k_seq ?_
      refine k_block ?_
      refine k_seq ?_
      refine runs_v (D.lptr (1 : Nat) (2 : Nat)) (by kernel_rfl) (by kernel_rfl) ?_
      refine runs_v (D.sl (eFs (Fm.kids f)) none) (by kernel_rfl) (by kernel_rfl) ?_
      refine runs_v (D.int IntKind.i64 (↑i : Int)) (by kernel_rfl) (by kernel_rfl) ?_
      refine runs_indexL (eFs (Fm.kids f)) (o := none) (kd := IntKind.i64) (i) _ (by kernel_rfl) (by kernel_rfl) (by kernel_rfl) (by assumption) (by kernel_rfl) ?_
      refine runs_v (D.agg [D.int IntKind.i64 (Fm.op (Fm.kids f)[i]), D.int IntKind.i64 (Fm.n (Fm.kids f)[i]), D.sl (eFs (Fm.kids (Fm.kids f)[i])) none]) (by kernel_rfl) (by kernel_rfl) ?_
      refine runs_call ([D.agg [D.int IntKind.i64 (Fm.op (Fm.kids f)[i]), D.int IntKind.i64 (Fm.n (Fm.kids f)[i]), D.sl (eFs (Fm.kids (Fm.kids f)[i])) none]]) (by kernel_rfl) (by kernel_rfl) (by kernel_rfl) (by kernel_rfl) (hcall) (by kernel_rfl) ?_
      refine runs_assign0 (D.bool true) (by kernel_rfl) (by kernel_rfl) (by kernel_rfl) ?_
      refine k_done ?_
      refine k_skip_seq ?_
      refine k_seq ?_
      refine runs_v (D.bool true) (by kernel_rfl) (by kernel_rfl) ?_
      refine runs_v (D.bool false) (by kernel_rfl) (by kernel_rfl) ?_
      refine k_done ?_
      refine k_skip_seq ?_
      refine k_cond_f (by kernel_rfl) ?_
      refine k_skip_block ?_
      refine k_skip_seq ?_
      refine runs_v (D.int IntKind.i64 (↑i : Int)) (by kernel_rfl) (by kernel_rfl) ?_
      refine runs_ve (D.int IntKind.i64 (IntKind.wrap IntKind.i64 ((↑i : Int) + (1 : Int)))) (.int IntKind.i64 ((i + 1 : Nat) : Int)) (congrArg (D.int IntKind.i64) (show IntKind.wrap IntKind.i64 ((↑i : Int) + (1 : Int)) = ((i + 1 : Nat) : Int) from wrap_eq (by omega) (by omega) (by omega))) (by kernel_rfl) (by kernel_rfl) ?_
      refine runs_assign0 (D.int IntKind.i64 (↑(i + (1 : Nat)) : Int)) (by kernel_rfl) (by kernel_rfl) (by kernel_rfl) ?_
      refine k_done ?_
      refine k_skip_back ?_
      exact ⟨i + 1, hlt, by omega, by kernel_rfl, rfl⟩
    · refine k_seq ?_
      refine k_seq ?_
      refine runs_v (D.int IntKind.i64 (↑i : Int)) (by kernel_rfl) (by kernel_rfl) ?_
      refine runs_v (D.lptr (1 : Nat) (2 : Nat)) (by kernel_rfl) (by kernel_rfl) ?_
      refine runs_v (D.sl (eFs (Fm.kids f)) none) (by kernel_rfl) (by kernel_rfl) ?_
      refine runs_ve (D.int IntKind.i64 (↑(List.length (eFs (Fm.kids f))) : Int)) (.int IntKind.i64 ((↑(List.length (Fm.kids f)) : Int))) (by simp only [eFs_length]) (by kernel_rfl) (by kernel_rfl) ?_
      refine runs_v (D.bool (decide ((↑i : Int) < (↑(List.length (Fm.kids f)) : Int)))) (by kernel_rfl) (by kernel_rfl) ?_
      refine k_done ?_
      refine k_skip_seq ?_
      refine runs_know 12 (d := .bool (decide ((↑i : Int) < (↑(List.length (Fm.kids f)) : Int)))) (d' := .bool false) (by kernel_rfl) (congrArg D.bool (show (decide ((↑i : Int) < (↑(List.length (Fm.kids f)) : Int))) = false from (decide_eq_false (by omega)))) ?_
      refine k_cond_f (by kernel_rfl) ?_
      refine k_exit_seq ?_
      refine k_exit_back ?_
      refine k_exit_hit rfl ?_
      refine k_skip_seq ?_
      refine k_seq ?_
      refine runs_v (D.bool true) (by kernel_rfl) (by kernel_rfl) ?_
      refine k_done ?_
      refine k_skip_seq ?_
      refine k_ret ?_
      exact ⟨.inr rfl, by kernel_rfl, by kernel_rfl⟩

theorem nice_may {d : Nat} {f : Fm} (h : nice (d + 1) f) : mayR (d + 1) f = true := by
  rcases h with (rfl | rfl) | h
  · rfl
  · rfl
  · exact nf_may h
theorem lawSimple_ok (f : Fm) (a : List Bool) (o : Option Nat) (ha : a.length ≤ 9223372036854775807) : ∃ σ, callN T 5001 5 [.agg (eF f), .sl (bools a) o] [] = some (.bool true, σ) := by
  refine ⟨[], ?_⟩
  refine call_of (m := m5) rfl rfl (by decide) (k_start ?_)
  unfold m5
  have hb := bounded_ok 41 f 0 5000 [] rfl (by omega) (by omega)
  by_cases h1 : boundedR 41 f = true
  · rw [h1] at hb
    have hfit := boundedR_fits h1
    have hw := weight_ok 41 f 5000 [] hfit (by omega) (by omega)
    have k2 := model_ok 41 f 5000 [] hfit (by omega)
    have k3 := refCheck_ok 41 f 4999 [] hfit (by omega) (by omega)
    by_cases h2 : weightR 41 f > 500
    · refine k_seq ?_
      refine runs_gf (D.lptr (2 : Nat) (0 : Nat)) ([]) (by kernel_rfl) (by kernel_rfl) ?_
      refine runs_v (D.bool false) (by kernel_rfl) (by kernel_rfl) ?_
      refine k_done ?_
      refine k_skip_seq ?_
      refine k_seq ?_
      refine runs_call ([]) (by kernel_rfl) (by kernel_rfl) (by kernel_rfl) (by kernel_rfl) (awake_ok) (by kernel_rfl) ?_
      refine runs_assign0 (D.bool true) (by kernel_rfl) (by kernel_rfl) (by kernel_rfl) ?_
      refine k_done ?_
      refine k_skip_seq ?_
      refine k_seq ?_
      refine k_seq ?_
      refine runs_v (D.bool true) (by kernel_rfl) (by kernel_rfl) ?_
      refine runs_v (D.bool false) (by kernel_rfl) (by kernel_rfl) ?_
      refine k_done ?_
      refine k_skip_seq ?_
      refine k_cond_f (by kernel_rfl) ?_
      refine k_skip_seq ?_
      refine k_seq ?_
      refine runs_v (D.agg [D.int IntKind.i64 (Fm.op f), D.int IntKind.i64 (Fm.n f), D.sl (eFs (Fm.kids f)) none]) (by kernel_rfl) (by kernel_rfl) ?_
      refine runs_call ([D.agg [D.int IntKind.i64 (Fm.op f), D.int IntKind.i64 (Fm.n f), D.sl (eFs (Fm.kids f)) none], D.int IntKind.i64 (0 : Int)]) (by kernel_rfl) (by kernel_rfl) (by kernel_rfl) (by kernel_rfl) (hb) (by kernel_rfl) ?_
      refine runs_assign0 (D.bool true) (by kernel_rfl) (by kernel_rfl) (by kernel_rfl) ?_
      refine k_done ?_
      refine k_skip_seq ?_
      refine k_seq ?_
      refine k_seq ?_
      refine runs_v (D.bool true) (by kernel_rfl) (by kernel_rfl) ?_
      refine runs_v (D.bool false) (by kernel_rfl) (by kernel_rfl) ?_
      refine runs_v (D.bool false) (by kernel_rfl) (by kernel_rfl) ?_
      refine runs_v (D.agg [D.int IntKind.i64 (Fm.op f), D.int IntKind.i64 (Fm.n f), D.sl (eFs (Fm.kids f)) none]) (by kernel_rfl) (by kernel_rfl) ?_
      refine runs_call ([D.agg [D.int IntKind.i64 (Fm.op f), D.int IntKind.i64 (Fm.n f), D.sl (eFs (Fm.kids f)) none]]) (by kernel_rfl) (by kernel_rfl) (by kernel_rfl) (by kernel_rfl) (hw) (by kernel_rfl) ?_
      refine runs_v (D.bool (decide (weightR (41 : Nat) f > (500 : Int)))) (by kernel_rfl) (by kernel_rfl) ?_
      refine runs_v (D.bool (decide (weightR (41 : Nat) f > (500 : Int)))) (by kernel_rfl) (by kernel_rfl) ?_
      refine runs_v (D.bool (decide (weightR (41 : Nat) f > (500 : Int)))) (by kernel_rfl) (by kernel_rfl) ?_
      refine runs_know 21 (d := .bool (decide (weightR (41 : Nat) f > (500 : Int)))) (d' := .bool true) (by kernel_rfl) (congrArg D.bool (show (decide (weightR (41 : Nat) f > (500 : Int))) = true from (decide_eq_true (by assumption)))) ?_
      refine runs_no (by kernel_rfl) ?_
      refine runs_no (by kernel_rfl) ?_
      refine runs_no (by kernel_rfl) ?_
      refine runs_no (by kernel_rfl) ?_
      refine runs_v (D.bool true) (by kernel_rfl) (by kernel_rfl) ?_
      refine k_done ?_
      refine k_skip_seq ?_
      refine k_cond_t (by kernel_rfl) ?_
      refine k_seq ?_
      refine runs_v (D.bool true) (by kernel_rfl) (by kernel_rfl) ?_
      refine k_done ?_
      refine k_skip_seq ?_
      refine k_ret ?_
      exact ⟨.inr rfl, by kernel_rfl, by kernel_rfl⟩
    · by_cases h3 : checkF 41 f = 0
      · have hmay := check0 h3
        rw [h3] at k3
        have hn := simple_nice 41 f hfit hmay
        have hsf := nice_fits hn
        have hsm := nice_may hn
        have s1 := simple_ok 41 f 5000 [] hfit hmay (by omega)
        have s2 := simple_ok 41 (simpleR 41 f) 5000 [] hsf hsm (by omega)
        rw [nice_id hn] at s2
        have s3 := refSimple_ok 41 f 5000 [] hfit hmay (by omega)
        have m2 := model_ok 41 (simpleR 41 f) 5000 [] hsf (by omega)
        have e3 := same_ok 41 (simpleR 41 f) 5000 [] hsf (by omega)
        obtain ⟨σ1, e1⟩ := eval_ok 41 f a none 5000 hfit ha (by omega)
        obtain ⟨σ2, e2⟩ := eval_ok 41 (simpleR 41 f) a none 5000 hsf ha (by omega)
        rw [simple_eval a 41 f hfit hmay] at e2
        have hc : (simpleR 41 f).op ≤ 2 ∨ (¬ (simpleR 41 f).op ≤ 2 ∧ nf 41 (simpleR 41 f)) := by
          by_cases hc : (simpleR 41 f).op ≤ 2
          · exact .inl hc
          · exact .inr ⟨hc, nice_3 hn (by omega) (by omega)⟩
        have hfr := fun h => free_ok 41 (simpleR 41 f) 5000 [] h (by omega)
        generalize evalR 41 f a = ev at *
        generalize simpleR 41 f = s at *
        have q1 : ((ev == ev) != false) = true := by simp
        rcases hc with hc | ⟨hc, hnf⟩
        · refine k_seq ?_
          refine runs_gf (D.lptr (2 : Nat) (0 : Nat)) ([]) (by kernel_rfl) (by kernel_rfl) ?_
          refine runs_v (D.bool false) (by kernel_rfl) (by kernel_rfl) ?_
          refine k_done ?_
          refine k_skip_seq ?_
          refine k_seq ?_
          refine runs_call ([]) (by kernel_rfl) (by kernel_rfl) (by kernel_rfl) (by kernel_rfl) (awake_ok) (by kernel_rfl) ?_
          refine runs_assign0 (D.bool true) (by kernel_rfl) (by kernel_rfl) (by kernel_rfl) ?_
          refine k_done ?_
          refine k_skip_seq ?_
          refine k_seq ?_
          refine k_seq ?_
          refine runs_v (D.bool true) (by kernel_rfl) (by kernel_rfl) ?_
          refine runs_v (D.bool false) (by kernel_rfl) (by kernel_rfl) ?_
          refine k_done ?_
          refine k_skip_seq ?_
          refine k_cond_f (by kernel_rfl) ?_
          refine k_skip_seq ?_
          refine k_seq ?_
          refine runs_v (D.agg [D.int IntKind.i64 (Fm.op f), D.int IntKind.i64 (Fm.n f), D.sl (eFs (Fm.kids f)) none]) (by kernel_rfl) (by kernel_rfl) ?_
          refine runs_call ([D.agg [D.int IntKind.i64 (Fm.op f), D.int IntKind.i64 (Fm.n f), D.sl (eFs (Fm.kids f)) none], D.int IntKind.i64 (0 : Int)]) (by kernel_rfl) (by kernel_rfl) (by kernel_rfl) (by kernel_rfl) (hb) (by kernel_rfl) ?_
          refine runs_assign0 (D.bool true) (by kernel_rfl) (by kernel_rfl) (by kernel_rfl) ?_
          refine k_done ?_
          refine k_skip_seq ?_
          refine k_seq ?_
          refine k_seq ?_
          refine runs_v (D.bool true) (by kernel_rfl) (by kernel_rfl) ?_
          refine runs_v (D.bool false) (by kernel_rfl) (by kernel_rfl) ?_
          refine runs_v (D.bool false) (by kernel_rfl) (by kernel_rfl) ?_
          refine runs_v (D.agg [D.int IntKind.i64 (Fm.op f), D.int IntKind.i64 (Fm.n f), D.sl (eFs (Fm.kids f)) none]) (by kernel_rfl) (by kernel_rfl) ?_
          refine runs_call ([D.agg [D.int IntKind.i64 (Fm.op f), D.int IntKind.i64 (Fm.n f), D.sl (eFs (Fm.kids f)) none]]) (by kernel_rfl) (by kernel_rfl) (by kernel_rfl) (by kernel_rfl) (hw) (by kernel_rfl) ?_
          refine runs_v (D.bool (decide (weightR (41 : Nat) f > (500 : Int)))) (by kernel_rfl) (by kernel_rfl) ?_
          refine runs_v (D.bool (decide (weightR (41 : Nat) f > (500 : Int)))) (by kernel_rfl) (by kernel_rfl) ?_
          refine runs_v (D.bool (decide (weightR (41 : Nat) f > (500 : Int)))) (by kernel_rfl) (by kernel_rfl) ?_
          refine runs_know 21 (d := .bool (decide (weightR (41 : Nat) f > (500 : Int)))) (d' := .bool false) (by kernel_rfl) (congrArg D.bool (show (decide (weightR (41 : Nat) f > (500 : Int))) = false from (decide_eq_false (by assumption)))) ?_
          refine runs_v (D.agg [D.int IntKind.i64 (Fm.op f), D.int IntKind.i64 (Fm.n f), D.sl (eFs (Fm.kids f)) none]) (by kernel_rfl) (by kernel_rfl) ?_
          refine runs_call ([D.agg [D.int IntKind.i64 (Fm.op f), D.int IntKind.i64 (Fm.n f), D.sl (eFs (Fm.kids f)) none]]) (by kernel_rfl) (by kernel_rfl) (by kernel_rfl) (by kernel_rfl) (k2) (by kernel_rfl) ?_
          refine runs_call ([D.agg [D.int IntKind.i64 (Fm.op f), D.int IntKind.i64 (Fm.n f), D.sl (eFs (Fm.kids f)) none]]) (by kernel_rfl) (by kernel_rfl) (by kernel_rfl) (by kernel_rfl) (k3) (by kernel_rfl) ?_
          refine runs_v (D.bool false) (by kernel_rfl) (by kernel_rfl) ?_
          refine runs_v (D.bool false) (by kernel_rfl) (by kernel_rfl) ?_
          refine k_done ?_
          refine k_skip_seq ?_
          refine k_cond_f (by kernel_rfl) ?_
          refine k_skip_seq ?_
          refine k_seq ?_
          refine runs_v (D.agg [D.int IntKind.i64 (Fm.op f), D.int IntKind.i64 (Fm.n f), D.sl (eFs (Fm.kids f)) none]) (by kernel_rfl) (by kernel_rfl) ?_
          refine runs_call ([D.agg [D.int IntKind.i64 (Fm.op f), D.int IntKind.i64 (Fm.n f), D.sl (eFs (Fm.kids f)) none]]) (by kernel_rfl) (by kernel_rfl) (by kernel_rfl) (by kernel_rfl) (s1) (by kernel_rfl) ?_
          refine runs_gf (D.lptr (7 : Nat) (0 : Nat)) ([]) (by kernel_rfl) (by kernel_rfl) ?_
          refine runs_gf (D.junk) ([]) (by kernel_rfl) (by kernel_rfl) ?_
          refine k_done ?_
          refine k_skip_seq ?_
          refine k_seq ?_
          refine runs_v (D.agg [D.int IntKind.i64 (Fm.op s), D.int IntKind.i64 (Fm.n s), D.sl (eFs (Fm.kids s)) none]) (by kernel_rfl) (by kernel_rfl) ?_
          refine runs_call ([D.agg [D.int IntKind.i64 (Fm.op s), D.int IntKind.i64 (Fm.n s), D.sl (eFs (Fm.kids s)) none]]) (by kernel_rfl) (by kernel_rfl) (by kernel_rfl) (by kernel_rfl) (s2) (by kernel_rfl) ?_
          refine runs_gf (D.lptr (8 : Nat) (0 : Nat)) ([]) (by kernel_rfl) (by kernel_rfl) ?_
          refine runs_gf (D.junk) ([]) (by kernel_rfl) (by kernel_rfl) ?_
          refine k_done ?_
          refine k_skip_seq ?_
          refine k_seq ?_
          refine runs_v (D.agg [D.int IntKind.i64 (Fm.op s), D.int IntKind.i64 (Fm.n s), D.sl (eFs (Fm.kids s)) none]) (by kernel_rfl) (by kernel_rfl) ?_
          refine runs_callQ ([D.agg [D.int IntKind.i64 (Fm.op s), D.int IntKind.i64 (Fm.n s), D.sl (eFs (Fm.kids s)) none]]) (by kernel_rfl) (by kernel_rfl) (by kernel_rfl) (by kernel_rfl) (m2) (by kernel_rfl) ?_
          refine runs_v (D.agg [D.int IntKind.i64 (Fm.op f), D.int IntKind.i64 (Fm.n f), D.sl (eFs (Fm.kids f)) none]) (by kernel_rfl) (by kernel_rfl) ?_
          refine runs_callQ ([D.agg [D.int IntKind.i64 (Fm.op f), D.int IntKind.i64 (Fm.n f), D.sl (eFs (Fm.kids f)) none]]) (by kernel_rfl) (by kernel_rfl) (by kernel_rfl) (by kernel_rfl) (k2) (by kernel_rfl) ?_
          refine runs_callQ ([D.agg [D.int IntKind.i64 (Fm.op f), D.int IntKind.i64 (Fm.n f), D.sl (eFs (Fm.kids f)) none]]) (by kernel_rfl) (by kernel_rfl) (by kernel_rfl) (by kernel_rfl) (s3) (by kernel_rfl) ?_
          refine runs_callQ ([D.agg [D.int IntKind.i64 (Fm.op s), D.int IntKind.i64 (Fm.n s), D.sl (eFs (Fm.kids s)) none], D.agg [D.int IntKind.i64 (Fm.op s), D.int IntKind.i64 (Fm.n s), D.sl (eFs (Fm.kids s)) none]]) (by kernel_rfl) (by kernel_rfl) (by kernel_rfl) (by kernel_rfl) (e3) (by kernel_rfl) ?_
          refine runs_v (D.bool true) (by kernel_rfl) (by kernel_rfl) ?_
          refine runs_v (D.agg [D.int IntKind.i64 (Fm.op s), D.int IntKind.i64 (Fm.n s), D.sl (eFs (Fm.kids s)) none]) (by kernel_rfl) (by kernel_rfl) ?_
          refine runs_callQ ([D.agg [D.int IntKind.i64 (Fm.op s), D.int IntKind.i64 (Fm.n s), D.sl (eFs (Fm.kids s)) none]]) (by kernel_rfl) (by kernel_rfl) (by kernel_rfl) (by kernel_rfl) (m2) (by kernel_rfl) ?_
          refine runs_v (D.agg [D.int IntKind.i64 (Fm.op s), D.int IntKind.i64 (Fm.n s), D.sl (eFs (Fm.kids s)) none]) (by kernel_rfl) (by kernel_rfl) ?_
          refine runs_callQ ([D.agg [D.int IntKind.i64 (Fm.op s), D.int IntKind.i64 (Fm.n s), D.sl (eFs (Fm.kids s)) none]]) (by kernel_rfl) (by kernel_rfl) (by kernel_rfl) (by kernel_rfl) (m2) (by kernel_rfl) ?_
          refine runs_callQ ([D.agg [D.int IntKind.i64 (Fm.op s), D.int IntKind.i64 (Fm.n s), D.sl (eFs (Fm.kids s)) none], D.agg [D.int IntKind.i64 (Fm.op s), D.int IntKind.i64 (Fm.n s), D.sl (eFs (Fm.kids s)) none]]) (by kernel_rfl) (by kernel_rfl) (by kernel_rfl) (by kernel_rfl) (e3) (by kernel_rfl) ?_
          refine runs_v (D.bool true) (by kernel_rfl) (by kernel_rfl) ?_
          refine runs_v (D.bool true) (by kernel_rfl) (by kernel_rfl) ?_
          refine runs_v (D.agg [D.int IntKind.i64 (Fm.op s), D.int IntKind.i64 (Fm.n s), D.sl (eFs (Fm.kids s)) none]) (by kernel_rfl) (by kernel_rfl) ?_
          refine runs_v (D.sl (bools a) none) (by kernel_rfl) (by kernel_rfl) ?_
          refine runs_callQ ([D.agg [D.int IntKind.i64 (Fm.op s), D.int IntKind.i64 (Fm.n s), D.sl (eFs (Fm.kids s)) none], D.sl (bools a) none]) (by kernel_rfl) (by kernel_rfl) (by kernel_rfl) (by kernel_rfl) (e2) (by kernel_rfl) ?_
          refine runs_v (D.agg [D.int IntKind.i64 (Fm.op f), D.int IntKind.i64 (Fm.n f), D.sl (eFs (Fm.kids f)) none]) (by kernel_rfl) (by kernel_rfl) ?_
          refine runs_v (D.sl (bools a) none) (by kernel_rfl) (by kernel_rfl) ?_
          refine runs_callQ ([D.agg [D.int IntKind.i64 (Fm.op f), D.int IntKind.i64 (Fm.n f), D.sl (eFs (Fm.kids f)) none], D.sl (bools a) none]) (by kernel_rfl) (by kernel_rfl) (by kernel_rfl) (by kernel_rfl) (e1) (by kernel_rfl) ?_
          refine runs_v (D.bool ((ev == ev) != false)) (by kernel_rfl) (by kernel_rfl) ?_
          refine runs_v (D.bool ((ev == ev) != false)) (by kernel_rfl) (by kernel_rfl) ?_
          refine runs_v (D.bool ((ev == ev) != false)) (by kernel_rfl) (by kernel_rfl) ?_
          refine runs_know 53 (d := .bool ((ev == ev) != false)) (d' := .bool true) (by kernel_rfl) (congrArg D.bool (show ((ev == ev) != false) = true from (by assumption))) ?_
          refine runs_v (D.lptr (7 : Nat) (0 : Nat)) (by kernel_rfl) (by kernel_rfl) ?_
          refine runs_v (D.int IntKind.i64 (Fm.op s)) (by kernel_rfl) (by kernel_rfl) ?_
          refine runs_v (D.bool (decide (Fm.op s ≤ (2 : Int)))) (by kernel_rfl) (by kernel_rfl) ?_
          refine runs_v (D.bool (decide (Fm.op s ≤ (2 : Int)))) (by kernel_rfl) (by kernel_rfl) ?_
          refine runs_know 57 (d := .bool (decide (Fm.op s ≤ (2 : Int)))) (d' := .bool true) (by kernel_rfl) (congrArg D.bool (show (decide (Fm.op s ≤ (2 : Int))) = true from (decide_eq_true (by assumption)))) ?_
          refine runs_no (by kernel_rfl) ?_
          refine runs_no (by kernel_rfl) ?_
          refine runs_v (D.bool true) (by kernel_rfl) (by kernel_rfl) ?_
          refine runs_v (D.bool true) (by kernel_rfl) (by kernel_rfl) ?_
          refine runs_assign0 (D.bool true) (by kernel_rfl) (by kernel_rfl) (by kernel_rfl) ?_
          refine k_done ?_
          refine k_skip_seq ?_
          refine k_ret ?_
          exact ⟨.inr rfl, by kernel_rfl, by kernel_rfl⟩
        · have hfr := hfr hnf
          refine k_seq ?_
          refine runs_gf (D.lptr (2 : Nat) (0 : Nat)) ([]) (by kernel_rfl) (by kernel_rfl) ?_
          refine runs_v (D.bool false) (by kernel_rfl) (by kernel_rfl) ?_
          refine k_done ?_
          refine k_skip_seq ?_
          refine k_seq ?_
          refine runs_call ([]) (by kernel_rfl) (by kernel_rfl) (by kernel_rfl) (by kernel_rfl) (awake_ok) (by kernel_rfl) ?_
          refine runs_assign0 (D.bool true) (by kernel_rfl) (by kernel_rfl) (by kernel_rfl) ?_
          refine k_done ?_
          refine k_skip_seq ?_
          refine k_seq ?_
          refine k_seq ?_
          refine runs_v (D.bool true) (by kernel_rfl) (by kernel_rfl) ?_
          refine runs_v (D.bool false) (by kernel_rfl) (by kernel_rfl) ?_
          refine k_done ?_
          refine k_skip_seq ?_
          refine k_cond_f (by kernel_rfl) ?_
          refine k_skip_seq ?_
          refine k_seq ?_
          refine runs_v (D.agg [D.int IntKind.i64 (Fm.op f), D.int IntKind.i64 (Fm.n f), D.sl (eFs (Fm.kids f)) none]) (by kernel_rfl) (by kernel_rfl) ?_
          refine runs_call ([D.agg [D.int IntKind.i64 (Fm.op f), D.int IntKind.i64 (Fm.n f), D.sl (eFs (Fm.kids f)) none], D.int IntKind.i64 (0 : Int)]) (by kernel_rfl) (by kernel_rfl) (by kernel_rfl) (by kernel_rfl) (hb) (by kernel_rfl) ?_
          refine runs_assign0 (D.bool true) (by kernel_rfl) (by kernel_rfl) (by kernel_rfl) ?_
          refine k_done ?_
          refine k_skip_seq ?_
          refine k_seq ?_
          refine k_seq ?_
          refine runs_v (D.bool true) (by kernel_rfl) (by kernel_rfl) ?_
          refine runs_v (D.bool false) (by kernel_rfl) (by kernel_rfl) ?_
          refine runs_v (D.bool false) (by kernel_rfl) (by kernel_rfl) ?_
          refine runs_v (D.agg [D.int IntKind.i64 (Fm.op f), D.int IntKind.i64 (Fm.n f), D.sl (eFs (Fm.kids f)) none]) (by kernel_rfl) (by kernel_rfl) ?_
          refine runs_call ([D.agg [D.int IntKind.i64 (Fm.op f), D.int IntKind.i64 (Fm.n f), D.sl (eFs (Fm.kids f)) none]]) (by kernel_rfl) (by kernel_rfl) (by kernel_rfl) (by kernel_rfl) (hw) (by kernel_rfl) ?_
          refine runs_v (D.bool (decide (weightR (41 : Nat) f > (500 : Int)))) (by kernel_rfl) (by kernel_rfl) ?_
          refine runs_v (D.bool (decide (weightR (41 : Nat) f > (500 : Int)))) (by kernel_rfl) (by kernel_rfl) ?_
          refine runs_v (D.bool (decide (weightR (41 : Nat) f > (500 : Int)))) (by kernel_rfl) (by kernel_rfl) ?_
          refine runs_know 21 (d := .bool (decide (weightR (41 : Nat) f > (500 : Int)))) (d' := .bool false) (by kernel_rfl) (congrArg D.bool (show (decide (weightR (41 : Nat) f > (500 : Int))) = false from (decide_eq_false (by assumption)))) ?_
          refine runs_v (D.agg [D.int IntKind.i64 (Fm.op f), D.int IntKind.i64 (Fm.n f), D.sl (eFs (Fm.kids f)) none]) (by kernel_rfl) (by kernel_rfl) ?_
          refine runs_call ([D.agg [D.int IntKind.i64 (Fm.op f), D.int IntKind.i64 (Fm.n f), D.sl (eFs (Fm.kids f)) none]]) (by kernel_rfl) (by kernel_rfl) (by kernel_rfl) (by kernel_rfl) (k2) (by kernel_rfl) ?_
          refine runs_call ([D.agg [D.int IntKind.i64 (Fm.op f), D.int IntKind.i64 (Fm.n f), D.sl (eFs (Fm.kids f)) none]]) (by kernel_rfl) (by kernel_rfl) (by kernel_rfl) (by kernel_rfl) (k3) (by kernel_rfl) ?_
          refine runs_v (D.bool false) (by kernel_rfl) (by kernel_rfl) ?_
          refine runs_v (D.bool false) (by kernel_rfl) (by kernel_rfl) ?_
          refine k_done ?_
          refine k_skip_seq ?_
          refine k_cond_f (by kernel_rfl) ?_
          refine k_skip_seq ?_
          refine k_seq ?_
          refine runs_v (D.agg [D.int IntKind.i64 (Fm.op f), D.int IntKind.i64 (Fm.n f), D.sl (eFs (Fm.kids f)) none]) (by kernel_rfl) (by kernel_rfl) ?_
          refine runs_call ([D.agg [D.int IntKind.i64 (Fm.op f), D.int IntKind.i64 (Fm.n f), D.sl (eFs (Fm.kids f)) none]]) (by kernel_rfl) (by kernel_rfl) (by kernel_rfl) (by kernel_rfl) (s1) (by kernel_rfl) ?_
          refine runs_gf (D.lptr (7 : Nat) (0 : Nat)) ([]) (by kernel_rfl) (by kernel_rfl) ?_
          refine runs_gf (D.junk) ([]) (by kernel_rfl) (by kernel_rfl) ?_
          refine k_done ?_
          refine k_skip_seq ?_
          refine k_seq ?_
          refine runs_v (D.agg [D.int IntKind.i64 (Fm.op s), D.int IntKind.i64 (Fm.n s), D.sl (eFs (Fm.kids s)) none]) (by kernel_rfl) (by kernel_rfl) ?_
          refine runs_call ([D.agg [D.int IntKind.i64 (Fm.op s), D.int IntKind.i64 (Fm.n s), D.sl (eFs (Fm.kids s)) none]]) (by kernel_rfl) (by kernel_rfl) (by kernel_rfl) (by kernel_rfl) (s2) (by kernel_rfl) ?_
          refine runs_gf (D.lptr (8 : Nat) (0 : Nat)) ([]) (by kernel_rfl) (by kernel_rfl) ?_
          refine runs_gf (D.junk) ([]) (by kernel_rfl) (by kernel_rfl) ?_
          refine k_done ?_
          refine k_skip_seq ?_
          refine k_seq ?_
          refine runs_v (D.agg [D.int IntKind.i64 (Fm.op s), D.int IntKind.i64 (Fm.n s), D.sl (eFs (Fm.kids s)) none]) (by kernel_rfl) (by kernel_rfl) ?_
          refine runs_callQ ([D.agg [D.int IntKind.i64 (Fm.op s), D.int IntKind.i64 (Fm.n s), D.sl (eFs (Fm.kids s)) none]]) (by kernel_rfl) (by kernel_rfl) (by kernel_rfl) (by kernel_rfl) (m2) (by kernel_rfl) ?_
          refine runs_v (D.agg [D.int IntKind.i64 (Fm.op f), D.int IntKind.i64 (Fm.n f), D.sl (eFs (Fm.kids f)) none]) (by kernel_rfl) (by kernel_rfl) ?_
          refine runs_callQ ([D.agg [D.int IntKind.i64 (Fm.op f), D.int IntKind.i64 (Fm.n f), D.sl (eFs (Fm.kids f)) none]]) (by kernel_rfl) (by kernel_rfl) (by kernel_rfl) (by kernel_rfl) (k2) (by kernel_rfl) ?_
          refine runs_callQ ([D.agg [D.int IntKind.i64 (Fm.op f), D.int IntKind.i64 (Fm.n f), D.sl (eFs (Fm.kids f)) none]]) (by kernel_rfl) (by kernel_rfl) (by kernel_rfl) (by kernel_rfl) (s3) (by kernel_rfl) ?_
          refine runs_callQ ([D.agg [D.int IntKind.i64 (Fm.op s), D.int IntKind.i64 (Fm.n s), D.sl (eFs (Fm.kids s)) none], D.agg [D.int IntKind.i64 (Fm.op s), D.int IntKind.i64 (Fm.n s), D.sl (eFs (Fm.kids s)) none]]) (by kernel_rfl) (by kernel_rfl) (by kernel_rfl) (by kernel_rfl) (e3) (by kernel_rfl) ?_
          refine runs_v (D.bool true) (by kernel_rfl) (by kernel_rfl) ?_
          refine runs_v (D.agg [D.int IntKind.i64 (Fm.op s), D.int IntKind.i64 (Fm.n s), D.sl (eFs (Fm.kids s)) none]) (by kernel_rfl) (by kernel_rfl) ?_
          refine runs_callQ ([D.agg [D.int IntKind.i64 (Fm.op s), D.int IntKind.i64 (Fm.n s), D.sl (eFs (Fm.kids s)) none]]) (by kernel_rfl) (by kernel_rfl) (by kernel_rfl) (by kernel_rfl) (m2) (by kernel_rfl) ?_
          refine runs_v (D.agg [D.int IntKind.i64 (Fm.op s), D.int IntKind.i64 (Fm.n s), D.sl (eFs (Fm.kids s)) none]) (by kernel_rfl) (by kernel_rfl) ?_
          refine runs_callQ ([D.agg [D.int IntKind.i64 (Fm.op s), D.int IntKind.i64 (Fm.n s), D.sl (eFs (Fm.kids s)) none]]) (by kernel_rfl) (by kernel_rfl) (by kernel_rfl) (by kernel_rfl) (m2) (by kernel_rfl) ?_
          refine runs_callQ ([D.agg [D.int IntKind.i64 (Fm.op s), D.int IntKind.i64 (Fm.n s), D.sl (eFs (Fm.kids s)) none], D.agg [D.int IntKind.i64 (Fm.op s), D.int IntKind.i64 (Fm.n s), D.sl (eFs (Fm.kids s)) none]]) (by kernel_rfl) (by kernel_rfl) (by kernel_rfl) (by kernel_rfl) (e3) (by kernel_rfl) ?_
          refine runs_v (D.bool true) (by kernel_rfl) (by kernel_rfl) ?_
          refine runs_v (D.bool true) (by kernel_rfl) (by kernel_rfl) ?_
          refine runs_v (D.agg [D.int IntKind.i64 (Fm.op s), D.int IntKind.i64 (Fm.n s), D.sl (eFs (Fm.kids s)) none]) (by kernel_rfl) (by kernel_rfl) ?_
          refine runs_v (D.sl (bools a) none) (by kernel_rfl) (by kernel_rfl) ?_
          refine runs_callQ ([D.agg [D.int IntKind.i64 (Fm.op s), D.int IntKind.i64 (Fm.n s), D.sl (eFs (Fm.kids s)) none], D.sl (bools a) none]) (by kernel_rfl) (by kernel_rfl) (by kernel_rfl) (by kernel_rfl) (e2) (by kernel_rfl) ?_
          refine runs_v (D.agg [D.int IntKind.i64 (Fm.op f), D.int IntKind.i64 (Fm.n f), D.sl (eFs (Fm.kids f)) none]) (by kernel_rfl) (by kernel_rfl) ?_
          refine runs_v (D.sl (bools a) none) (by kernel_rfl) (by kernel_rfl) ?_
          refine runs_callQ ([D.agg [D.int IntKind.i64 (Fm.op f), D.int IntKind.i64 (Fm.n f), D.sl (eFs (Fm.kids f)) none], D.sl (bools a) none]) (by kernel_rfl) (by kernel_rfl) (by kernel_rfl) (by kernel_rfl) (e1) (by kernel_rfl) ?_
          refine runs_v (D.bool ((ev == ev) != false)) (by kernel_rfl) (by kernel_rfl) ?_
          refine runs_v (D.bool ((ev == ev) != false)) (by kernel_rfl) (by kernel_rfl) ?_
          refine runs_v (D.bool ((ev == ev) != false)) (by kernel_rfl) (by kernel_rfl) ?_
          refine runs_know 53 (d := .bool ((ev == ev) != false)) (d' := .bool true) (by kernel_rfl) (congrArg D.bool (show ((ev == ev) != false) = true from (by assumption))) ?_
          refine runs_v (D.lptr (7 : Nat) (0 : Nat)) (by kernel_rfl) (by kernel_rfl) ?_
          refine runs_v (D.int IntKind.i64 (Fm.op s)) (by kernel_rfl) (by kernel_rfl) ?_
          refine runs_v (D.bool (decide (Fm.op s ≤ (2 : Int)))) (by kernel_rfl) (by kernel_rfl) ?_
          refine runs_v (D.bool (decide (Fm.op s ≤ (2 : Int)))) (by kernel_rfl) (by kernel_rfl) ?_
          refine runs_know 57 (d := .bool (decide (Fm.op s ≤ (2 : Int)))) (d' := .bool false) (by kernel_rfl) (congrArg D.bool (show (decide (Fm.op s ≤ (2 : Int))) = false from (decide_eq_false (by assumption)))) ?_
          refine runs_v (D.agg [D.int IntKind.i64 (Fm.op s), D.int IntKind.i64 (Fm.n s), D.sl (eFs (Fm.kids s)) none]) (by kernel_rfl) (by kernel_rfl) ?_
          refine runs_callQ ([D.agg [D.int IntKind.i64 (Fm.op s), D.int IntKind.i64 (Fm.n s), D.sl (eFs (Fm.kids s)) none]]) (by kernel_rfl) (by kernel_rfl) (by kernel_rfl) (by kernel_rfl) (hfr) (by kernel_rfl) ?_
          refine runs_v (D.bool true) (by kernel_rfl) (by kernel_rfl) ?_
          refine runs_v (D.bool true) (by kernel_rfl) (by kernel_rfl) ?_
          refine runs_assign0 (D.bool true) (by kernel_rfl) (by kernel_rfl) (by kernel_rfl) ?_
          refine k_done ?_
          refine k_skip_seq ?_
          refine k_ret ?_
          exact ⟨.inr rfl, by kernel_rfl, by kernel_rfl⟩
      · refine k_seq ?_
        refine runs_gf (D.lptr (2 : Nat) (0 : Nat)) ([]) (by kernel_rfl) (by kernel_rfl) ?_
        refine runs_v (D.bool false) (by kernel_rfl) (by kernel_rfl) ?_
        refine k_done ?_
        refine k_skip_seq ?_
        refine k_seq ?_
        refine runs_call ([]) (by kernel_rfl) (by kernel_rfl) (by kernel_rfl) (by kernel_rfl) (awake_ok) (by kernel_rfl) ?_
        refine runs_assign0 (D.bool true) (by kernel_rfl) (by kernel_rfl) (by kernel_rfl) ?_
        refine k_done ?_
        refine k_skip_seq ?_
        refine k_seq ?_
        refine k_seq ?_
        refine runs_v (D.bool true) (by kernel_rfl) (by kernel_rfl) ?_
        refine runs_v (D.bool false) (by kernel_rfl) (by kernel_rfl) ?_
        refine k_done ?_
        refine k_skip_seq ?_
        refine k_cond_f (by kernel_rfl) ?_
        refine k_skip_seq ?_
        refine k_seq ?_
        refine runs_v (D.agg [D.int IntKind.i64 (Fm.op f), D.int IntKind.i64 (Fm.n f), D.sl (eFs (Fm.kids f)) none]) (by kernel_rfl) (by kernel_rfl) ?_
        refine runs_call ([D.agg [D.int IntKind.i64 (Fm.op f), D.int IntKind.i64 (Fm.n f), D.sl (eFs (Fm.kids f)) none], D.int IntKind.i64 (0 : Int)]) (by kernel_rfl) (by kernel_rfl) (by kernel_rfl) (by kernel_rfl) (hb) (by kernel_rfl) ?_
        refine runs_assign0 (D.bool true) (by kernel_rfl) (by kernel_rfl) (by kernel_rfl) ?_
        refine k_done ?_
        refine k_skip_seq ?_
        refine k_seq ?_
        refine k_seq ?_
        refine runs_v (D.bool true) (by kernel_rfl) (by kernel_rfl) ?_
        refine runs_v (D.bool false) (by kernel_rfl) (by kernel_rfl) ?_
        refine runs_v (D.bool false) (by kernel_rfl) (by kernel_rfl) ?_
        refine runs_v (D.agg [D.int IntKind.i64 (Fm.op f), D.int IntKind.i64 (Fm.n f), D.sl (eFs (Fm.kids f)) none]) (by kernel_rfl) (by kernel_rfl) ?_
        refine runs_call ([D.agg [D.int IntKind.i64 (Fm.op f), D.int IntKind.i64 (Fm.n f), D.sl (eFs (Fm.kids f)) none]]) (by kernel_rfl) (by kernel_rfl) (by kernel_rfl) (by kernel_rfl) (hw) (by kernel_rfl) ?_
        refine runs_v (D.bool (decide (weightR (41 : Nat) f > (500 : Int)))) (by kernel_rfl) (by kernel_rfl) ?_
        refine runs_v (D.bool (decide (weightR (41 : Nat) f > (500 : Int)))) (by kernel_rfl) (by kernel_rfl) ?_
        refine runs_v (D.bool (decide (weightR (41 : Nat) f > (500 : Int)))) (by kernel_rfl) (by kernel_rfl) ?_
        refine runs_know 21 (d := .bool (decide (weightR (41 : Nat) f > (500 : Int)))) (d' := .bool false) (by kernel_rfl) (congrArg D.bool (show (decide (weightR (41 : Nat) f > (500 : Int))) = false from (decide_eq_false (by assumption)))) ?_
        refine runs_v (D.agg [D.int IntKind.i64 (Fm.op f), D.int IntKind.i64 (Fm.n f), D.sl (eFs (Fm.kids f)) none]) (by kernel_rfl) (by kernel_rfl) ?_
        refine runs_call ([D.agg [D.int IntKind.i64 (Fm.op f), D.int IntKind.i64 (Fm.n f), D.sl (eFs (Fm.kids f)) none]]) (by kernel_rfl) (by kernel_rfl) (by kernel_rfl) (by kernel_rfl) (k2) (by kernel_rfl) ?_
        refine runs_call ([D.agg [D.int IntKind.i64 (Fm.op f), D.int IntKind.i64 (Fm.n f), D.sl (eFs (Fm.kids f)) none]]) (by kernel_rfl) (by kernel_rfl) (by kernel_rfl) (by kernel_rfl) (k3) (by kernel_rfl) ?_
        refine runs_v (D.bool (checkF (41 : Nat) f != (0 : Int))) (by kernel_rfl) (by kernel_rfl) ?_
        refine runs_v (D.bool (checkF (41 : Nat) f != (0 : Int))) (by kernel_rfl) (by kernel_rfl) ?_
        refine k_done ?_
        refine k_skip_seq ?_
        refine runs_know 26 (d := .bool (checkF (41 : Nat) f != (0 : Int))) (d' := .bool true) (by kernel_rfl) (congrArg D.bool (show (checkF (41 : Nat) f != (0 : Int)) = true from (bne_iff_ne.2 (by assumption)))) ?_
        refine k_cond_t (by kernel_rfl) ?_
        refine k_seq ?_
        refine runs_v (D.bool true) (by kernel_rfl) (by kernel_rfl) ?_
        refine k_done ?_
        refine k_skip_seq ?_
        refine k_ret ?_
        exact ⟨.inr rfl, by kernel_rfl, by kernel_rfl⟩
  · have h1' : boundedR 41 f = false := by simpa using h1
    rw [h1'] at hb
    refine k_seq ?_
    refine runs_gf (D.lptr (2 : Nat) (0 : Nat)) ([]) (by kernel_rfl) (by kernel_rfl) ?_
    refine runs_v (D.bool false) (by kernel_rfl) (by kernel_rfl) ?_
    refine k_done ?_
    refine k_skip_seq ?_
    refine k_seq ?_
    refine runs_call ([]) (by kernel_rfl) (by kernel_rfl) (by kernel_rfl) (by kernel_rfl) (awake_ok) (by kernel_rfl) ?_
    refine runs_assign0 (D.bool true) (by kernel_rfl) (by kernel_rfl) (by kernel_rfl) ?_
    refine k_done ?_
    refine k_skip_seq ?_
    refine k_seq ?_
    refine k_seq ?_
    refine runs_v (D.bool true) (by kernel_rfl) (by kernel_rfl) ?_
    refine runs_v (D.bool false) (by kernel_rfl) (by kernel_rfl) ?_
    refine k_done ?_
    refine k_skip_seq ?_
    refine k_cond_f (by kernel_rfl) ?_
    refine k_skip_seq ?_
    refine k_seq ?_
    refine runs_v (D.agg [D.int IntKind.i64 (Fm.op f), D.int IntKind.i64 (Fm.n f), D.sl (eFs (Fm.kids f)) none]) (by kernel_rfl) (by kernel_rfl) ?_
    refine runs_call ([D.agg [D.int IntKind.i64 (Fm.op f), D.int IntKind.i64 (Fm.n f), D.sl (eFs (Fm.kids f)) none], D.int IntKind.i64 (0 : Int)]) (by kernel_rfl) (by kernel_rfl) (by kernel_rfl) (by kernel_rfl) (hb) (by kernel_rfl) ?_
    refine runs_assign0 (D.bool false) (by kernel_rfl) (by kernel_rfl) (by kernel_rfl) ?_
    refine k_done ?_
    refine k_skip_seq ?_
    refine k_seq ?_
    refine k_seq ?_
    refine runs_v (D.bool false) (by kernel_rfl) (by kernel_rfl) ?_
    refine runs_v (D.bool true) (by kernel_rfl) (by kernel_rfl) ?_
    refine runs_v (D.bool true) (by kernel_rfl) (by kernel_rfl) ?_
    refine runs_no (by kernel_rfl) ?_
    refine runs_no (by kernel_rfl) ?_
    refine runs_no (by kernel_rfl) ?_
    refine runs_v (D.bool true) (by kernel_rfl) (by kernel_rfl) ?_
    refine runs_v (D.bool true) (by kernel_rfl) (by kernel_rfl) ?_
    refine runs_no (by kernel_rfl) ?_
    refine runs_no (by kernel_rfl) ?_
    refine runs_no (by kernel_rfl) ?_
    refine runs_no (by kernel_rfl) ?_
    refine runs_v (D.bool true) (by kernel_rfl) (by kernel_rfl) ?_
    refine k_done ?_
    refine k_skip_seq ?_
    refine k_cond_t (by kernel_rfl) ?_
    refine k_seq ?_
    refine runs_v (D.bool true) (by kernel_rfl) (by kernel_rfl) ?_
    refine k_done ?_
    refine k_skip_seq ?_
    refine k_ret ?_
    exact ⟨.inr rfl, by kernel_rfl, by kernel_rfl⟩
end Go.Abs.A
