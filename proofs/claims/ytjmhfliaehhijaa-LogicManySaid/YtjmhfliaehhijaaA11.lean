/-
  The statement LogicTurned as the machine code sees it.
-/
import Derived.Test.YtjmhfliaehhijaaKont
import Derived.Test.YtjmhfliaehhijaaA10
set_option linter.unusedVariables false
set_option linter.unusedSimpArgs false
namespace Go.Abs.A
open Go Go.Abs
set_option maxRecDepth 8000
attribute [local irreducible] callN runC evalOp

theorem negneg {d : Nat} {s : Fm} (h : nice d s) : negR (negR s) = s := by
  rcases h with (rfl | rfl) | h
  · rfl
  · rfl
  · cases d with
    | zero => exact h.elim
    | succ d =>
      have hop := nf_op h
      by_cases c4 : s.op = 4
      · rcases h with h | ⟨_, hn, x, hx, hnx, hx4⟩ | h
        · omega
        · have h1 : negR s = x := by
            unfold negR
            rw [if_neg (by omega), if_neg (by omega), if_pos c4, hx]
          have hox := nf_op hnx
          rw [h1]
          unfold negR
          rw [if_neg (by omega), if_neg (by omega), if_neg hx4]
          obtain ⟨o, n, k⟩ := s
          simp only [Fm.op_mk, Fm.n_mk, Fm.kids_mk] at c4 hn hx
          subst c4 hn hx
          rfl
        · omega
      · have h1 : negR s = .mk 4 0 [s] := by
          unfold negR
          rw [if_neg (by omega), if_neg (by omega), if_neg c4]
        rw [h1]
        rfl
theorem wrap_may {f : Fm} {d : Nat} (hf : fits d f) (hm : mayR d f = true) : fits (d + 1) (.mk 4 0 [f]) ∧ mayR (d + 1) (.mk 4 0 [f]) = true := by
  refine ⟨⟨by simp [Fm.kids_mk], fun k hk => ?_⟩, ?_⟩
  · simp only [Fm.kids_mk, List.mem_singleton] at hk
    subst hk
    exact hf
  · rw [mayR_go ⟨by simp [Fm.op_mk], by simp [Fm.op_mk], by simp [Fm.op_mk], by simp [Fm.kids_mk], by simp [Fm.op_mk]⟩]
    simp [Fm.kids_mk, hm]
theorem eval_not (d : Nat) (f : Fm) (a : List Bool) : evalR (d + 1) (.mk 4 0 [f]) a = !evalR d f a := rfl
theorem simple_not (d : Nat) (f : Fm) : simpleR (d + 1) (.mk 4 0 [f]) = negR (simpleR d f) := rfl
def nots (l : List Fm) : List Fm := l.map fun k => .mk 4 0 [k]
theorem eval_y {d : Nat} {a : List Bool} (l : List Fm) : evalR (d + 2) (.mk 6 0 (nots l)) a = !(evalR (d + 1) (.mk 5 0 l) a) := by
  show (nots l).any (evalR (d + 1) · a) = !(l.all (evalR d · a))
  unfold nots
  rw [any_map]
  induction l with
  | nil => rfl
  | cons x xs ih =>
    rw [List.any_cons, List.all_cons, Bool.not_and, ih]
    rfl
theorem slice_at {l : List Fm} {i : Nat} (h : i < l.length) : ((eFs l).drop i).take (i + 1 - i) = [eF l[i]] := by
  have h1 : i < (eFs l).length := by rw [eFs_length]; exact h
  rw [drop_at h1, show i + 1 - i = 1 by omega]
  simp [eFs_map]
theorem nots_take {l : List Fm} {i : Nat} (h : i < l.length) : eFs (nots (l.take (i + 1))) = eFs (nots (l.take i)) ++ [[.int .i64 4, .int .i64 0, .sl [eF l[i]] none]] := by
  have h1 : eFs ([l[i]].map fun k => Fm.mk 4 0 [k]) = [[.int .i64 4, .int .i64 0, .sl [eF l[i]] none]] := by
    rw [eFs_map]
    show [eF (.mk 4 0 [l[i]])] = _
    rw [eF_one]
  unfold nots
  rw [List.take_succ_eq_append_getElem h, List.map_append, eFs_append, h1]
theorem nots_len (l : List Fm) : (eFs (nots l)).length = l.length := by rw [eFs_length]; simp [nots]

def f6 (f : Fm) (l : List Fm) (a : List Bool) (i : Int) (y : List (List D)) : Fr := Fr.mk ([.agg (eF f), .sl (eFs l) none, .sl (bools a) none, .lptr 3 0, .junk, .junk, .bool false, .junk, .junk, .lptr 9 0, .lptr 10 0, .int .i64 i] ++ List.replicate 97 .junk)
  ((((List.replicate 109 none).set 3 (some (eF f))).set 9 (some [.int .i64 5, .int .i64 0, .sl (eFs l) none])).set 10 (some [.int .i64 6, .int .i64 0, .sl y (some 24)])) []
theorem lawTurned_ok (f : Fm) (l : List Fm) (a : List Bool) (o1 o2 : Option Nat) (ha : a.length ≤ 9223372036854775807) : ∃ σ, callN T 5001 6 [.agg (eF f), .sl (eFs l) o1, .sl (bools a) o2] [] = some (.bool true, σ) := by
  refine ⟨[], ?_⟩
  refine call_of (m := m6) rfl rfl (by decide) (k_start ?_)
  unfold m6
  by_cases hl8 : l.length > 8
  · refine k_seq ?_
    refine runs_gf (D.lptr (3 : Nat) (0 : Nat)) ([]) (by kernel_rfl) (by kernel_rfl) ?_
    refine runs_v (D.bool false) (by kernel_rfl) (by kernel_rfl) ?_
    refine k_done ?_
    refine k_skip_seq ?_
    refine k_seq ?_
    refine runs_call ([]) (by kernel_rfl) (by kernel_rfl) (by kernel_rfl) (by kernel_rfl) (awake_ok) (by kernel_rfl) ?_
    refine runs_assign0 (D.bool true) (by kernel_rfl) (by kernel_rfl) (by kernel_rfl) ?_
    refine k_done ?_
    refine k_skip_seq ?_
    refine k_seq ?_
    refine k_seq ?_
    refine runs_v (D.bool true) (by kernel_rfl) (by kernel_rfl) ?_
    refine runs_v (D.bool false) (by kernel_rfl) (by kernel_rfl) ?_
    refine k_done ?_
    refine k_skip_seq ?_
    refine k_cond_f (by kernel_rfl) ?_
    refine k_skip_seq ?_
    refine k_seq ?_
    refine k_seq ?_
    refine runs_v (D.sl (eFs l) none) (by kernel_rfl) (by kernel_rfl) ?_
    refine runs_ve (D.int IntKind.i64 (↑(List.length (eFs l)) : Int)) (.int IntKind.i64 ((↑(List.length l) : Int))) (by simp only [eFs_length]) (by kernel_rfl) (by kernel_rfl) ?_
    refine runs_v (D.bool (decide ((↑(List.length l) : Int) > (8 : Int)))) (by kernel_rfl) (by kernel_rfl) ?_
    refine k_done ?_
    refine k_skip_seq ?_
    refine runs_know 19 (d := .bool (decide ((↑(List.length l) : Int) > (8 : Int)))) (d' := .bool true) (by kernel_rfl) (congrArg D.bool (show (decide ((↑(List.length l) : Int) > (8 : Int))) = true from (decide_eq_true (by omega)))) ?_
    refine k_cond_t (by kernel_rfl) ?_
    refine k_seq ?_
    refine runs_v (D.bool true) (by kernel_rfl) (by kernel_rfl) ?_
    refine k_done ?_
    refine k_skip_seq ?_
    refine k_ret ?_
    exact ⟨.inr rfl, by kernel_rfl, by kernel_rfl⟩
  have hb := bounded_ok 41 f 0 5000 [] rfl (by omega) (by omega)
  by_cases h1 : boundedR 41 f = true
  · rw [h1] at hb
    have hfit := boundedR_fits h1
    have hw := weight_ok 41 f 5000 [] hfit (by omega) (by omega)
    have k2 := model_ok 41 f 5000 [] hfit (by omega)
    have k3 := refCheck_ok 41 f 4999 [] hfit (by omega) (by omega)
    by_cases h2 : weightR 41 f > 200
    · refine k_seq ?_
      refine runs_gf (D.lptr (3 : Nat) (0 : Nat)) ([]) (by kernel_rfl) (by kernel_rfl) ?_
      refine runs_v (D.bool false) (by kernel_rfl) (by kernel_rfl) ?_
      refine k_done ?_
      refine k_skip_seq ?_
      refine k_seq ?_
      refine runs_call ([]) (by kernel_rfl) (by kernel_rfl) (by kernel_rfl) (by kernel_rfl) (awake_ok) (by kernel_rfl) ?_
      refine runs_assign0 (D.bool true) (by kernel_rfl) (by kernel_rfl) (by kernel_rfl) ?_
      refine k_done ?_
      refine k_skip_seq ?_
      refine k_seq ?_
      refine k_seq ?_
      refine runs_v (D.bool true) (by kernel_rfl) (by kernel_rfl) ?_
      refine runs_v (D.bool false) (by kernel_rfl) (by kernel_rfl) ?_
      refine k_done ?_
      refine k_skip_seq ?_
      refine k_cond_f (by kernel_rfl) ?_
      refine k_skip_seq ?_
      refine k_seq ?_
      refine k_seq ?_
      refine runs_v (D.sl (eFs l) none) (by kernel_rfl) (by kernel_rfl) ?_
      refine runs_ve (D.int IntKind.i64 (↑(List.length (eFs l)) : Int)) (.int IntKind.i64 ((↑(List.length l) : Int))) (by simp only [eFs_length]) (by kernel_rfl) (by kernel_rfl) ?_
      refine runs_v (D.bool (decide ((↑(List.length l) : Int) > (8 : Int)))) (by kernel_rfl) (by kernel_rfl) ?_
      refine k_done ?_
      refine k_skip_seq ?_
      refine runs_know 19 (d := .bool (decide ((↑(List.length l) : Int) > (8 : Int)))) (d' := .bool false) (by kernel_rfl) (congrArg D.bool (show (decide ((↑(List.length l) : Int) > (8 : Int))) = false from (decide_eq_false (by omega)))) ?_
      refine k_cond_f (by kernel_rfl) ?_
      refine k_skip_seq ?_
      refine k_seq ?_
      refine runs_v (D.agg [D.int IntKind.i64 (Fm.op f), D.int IntKind.i64 (Fm.n f), D.sl (eFs (Fm.kids f)) none]) (by kernel_rfl) (by kernel_rfl) ?_
      refine runs_call ([D.agg [D.int IntKind.i64 (Fm.op f), D.int IntKind.i64 (Fm.n f), D.sl (eFs (Fm.kids f)) none], D.int IntKind.i64 (0 : Int)]) (by kernel_rfl) (by kernel_rfl) (by kernel_rfl) (by kernel_rfl) (hb) (by kernel_rfl) ?_
      refine runs_assign0 (D.bool true) (by kernel_rfl) (by kernel_rfl) (by kernel_rfl) ?_
      refine k_done ?_
      refine k_skip_seq ?_
      refine k_seq ?_
      refine k_seq ?_
      refine runs_v (D.bool true) (by kernel_rfl) (by kernel_rfl) ?_
      refine runs_v (D.bool false) (by kernel_rfl) (by kernel_rfl) ?_
      refine runs_v (D.bool false) (by kernel_rfl) (by kernel_rfl) ?_
      refine runs_v (D.agg [D.int IntKind.i64 (Fm.op f), D.int IntKind.i64 (Fm.n f), D.sl (eFs (Fm.kids f)) none]) (by kernel_rfl) (by kernel_rfl) ?_
      refine runs_call ([D.agg [D.int IntKind.i64 (Fm.op f), D.int IntKind.i64 (Fm.n f), D.sl (eFs (Fm.kids f)) none]]) (by kernel_rfl) (by kernel_rfl) (by kernel_rfl) (by kernel_rfl) (hw) (by kernel_rfl) ?_
      refine runs_v (D.bool (decide (weightR (41 : Nat) f > (200 : Int)))) (by kernel_rfl) (by kernel_rfl) ?_
      refine runs_v (D.bool (decide (weightR (41 : Nat) f > (200 : Int)))) (by kernel_rfl) (by kernel_rfl) ?_
      refine runs_v (D.bool (decide (weightR (41 : Nat) f > (200 : Int)))) (by kernel_rfl) (by kernel_rfl) ?_
      refine runs_know 29 (d := .bool (decide (weightR (41 : Nat) f > (200 : Int)))) (d' := .bool true) (by kernel_rfl) (congrArg D.bool (show (decide (weightR (41 : Nat) f > (200 : Int))) = true from (decide_eq_true (by assumption)))) ?_
      refine runs_no (by kernel_rfl) ?_
      refine runs_no (by kernel_rfl) ?_
      refine runs_no (by kernel_rfl) ?_
      refine runs_no (by kernel_rfl) ?_
      refine runs_v (D.bool true) (by kernel_rfl) (by kernel_rfl) ?_
      refine k_done ?_
      refine k_skip_seq ?_
      refine k_cond_t (by kernel_rfl) ?_
      refine k_seq ?_
      refine runs_v (D.bool true) (by kernel_rfl) (by kernel_rfl) ?_
      refine k_done ?_
      refine k_skip_seq ?_
      refine k_ret ?_
      exact ⟨.inr rfl, by kernel_rfl, by kernel_rfl⟩
    · by_cases h3 : checkF 41 f = 0
      · have hmay := check0 h3
        rw [h3] at k3
        refine k_seq ?_
        refine runs_gf (D.lptr (3 : Nat) (0 : Nat)) ([]) (by kernel_rfl) (by kernel_rfl) ?_
        refine runs_v (D.bool false) (by kernel_rfl) (by kernel_rfl) ?_
        refine k_done ?_
        refine k_skip_seq ?_
        refine k_seq ?_
        refine runs_call ([]) (by kernel_rfl) (by kernel_rfl) (by kernel_rfl) (by kernel_rfl) (awake_ok) (by kernel_rfl) ?_
        refine runs_assign0 (D.bool true) (by kernel_rfl) (by kernel_rfl) (by kernel_rfl) ?_
        refine k_done ?_
        refine k_skip_seq ?_
        refine k_seq ?_
        refine k_seq ?_
        refine runs_v (D.bool true) (by kernel_rfl) (by kernel_rfl) ?_
        refine runs_v (D.bool false) (by kernel_rfl) (by kernel_rfl) ?_
        refine k_done ?_
        refine k_skip_seq ?_
        refine k_cond_f (by kernel_rfl) ?_
        refine k_skip_seq ?_
        refine k_seq ?_
        refine k_seq ?_
        refine runs_v (D.sl (eFs l) none) (by kernel_rfl) (by kernel_rfl) ?_
        refine runs_ve (D.int IntKind.i64 (↑(List.length (eFs l)) : Int)) (.int IntKind.i64 ((↑(List.length l) : Int))) (by simp only [eFs_length]) (by kernel_rfl) (by kernel_rfl) ?_
        refine runs_v (D.bool (decide ((↑(List.length l) : Int) > (8 : Int)))) (by kernel_rfl) (by kernel_rfl) ?_
        refine k_done ?_
        refine k_skip_seq ?_
        refine runs_know 19 (d := .bool (decide ((↑(List.length l) : Int) > (8 : Int)))) (d' := .bool false) (by kernel_rfl) (congrArg D.bool (show (decide ((↑(List.length l) : Int) > (8 : Int))) = false from (decide_eq_false (by omega)))) ?_
        refine k_cond_f (by kernel_rfl) ?_
        refine k_skip_seq ?_
        refine k_seq ?_
        refine runs_v (D.agg [D.int IntKind.i64 (Fm.op f), D.int IntKind.i64 (Fm.n f), D.sl (eFs (Fm.kids f)) none]) (by kernel_rfl) (by kernel_rfl) ?_
        refine runs_call ([D.agg [D.int IntKind.i64 (Fm.op f), D.int IntKind.i64 (Fm.n f), D.sl (eFs (Fm.kids f)) none], D.int IntKind.i64 (0 : Int)]) (by kernel_rfl) (by kernel_rfl) (by kernel_rfl) (by kernel_rfl) (hb) (by kernel_rfl) ?_
        refine runs_assign0 (D.bool true) (by kernel_rfl) (by kernel_rfl) (by kernel_rfl) ?_
        refine k_done ?_
        refine k_skip_seq ?_
        refine k_seq ?_
        refine k_seq ?_
        refine runs_v (D.bool true) (by kernel_rfl) (by kernel_rfl) ?_
        refine runs_v (D.bool false) (by kernel_rfl) (by kernel_rfl) ?_
        refine runs_v (D.bool false) (by kernel_rfl) (by kernel_rfl) ?_
        refine runs_v (D.agg [D.int IntKind.i64 (Fm.op f), D.int IntKind.i64 (Fm.n f), D.sl (eFs (Fm.kids f)) none]) (by kernel_rfl) (by kernel_rfl) ?_
        refine runs_call ([D.agg [D.int IntKind.i64 (Fm.op f), D.int IntKind.i64 (Fm.n f), D.sl (eFs (Fm.kids f)) none]]) (by kernel_rfl) (by kernel_rfl) (by kernel_rfl) (by kernel_rfl) (hw) (by kernel_rfl) ?_
        refine runs_v (D.bool (decide (weightR (41 : Nat) f > (200 : Int)))) (by kernel_rfl) (by kernel_rfl) ?_
        refine runs_v (D.bool (decide (weightR (41 : Nat) f > (200 : Int)))) (by kernel_rfl) (by kernel_rfl) ?_
        refine runs_v (D.bool (decide (weightR (41 : Nat) f > (200 : Int)))) (by kernel_rfl) (by kernel_rfl) ?_
        refine runs_know 29 (d := .bool (decide (weightR (41 : Nat) f > (200 : Int)))) (d' := .bool false) (by kernel_rfl) (congrArg D.bool (show (decide (weightR (41 : Nat) f > (200 : Int))) = false from (decide_eq_false (by assumption)))) ?_
        refine runs_v (D.agg [D.int IntKind.i64 (Fm.op f), D.int IntKind.i64 (Fm.n f), D.sl (eFs (Fm.kids f)) none]) (by kernel_rfl) (by kernel_rfl) ?_
        refine runs_call ([D.agg [D.int IntKind.i64 (Fm.op f), D.int IntKind.i64 (Fm.n f), D.sl (eFs (Fm.kids f)) none]]) (by kernel_rfl) (by kernel_rfl) (by kernel_rfl) (by kernel_rfl) (k2) (by kernel_rfl) ?_
        refine runs_call ([D.agg [D.int IntKind.i64 (Fm.op f), D.int IntKind.i64 (Fm.n f), D.sl (eFs (Fm.kids f)) none]]) (by kernel_rfl) (by kernel_rfl) (by kernel_rfl) (by kernel_rfl) (k3) (by kernel_rfl) ?_
        refine runs_v (D.bool false) (by kernel_rfl) (by kernel_rfl) ?_
        refine runs_v (D.bool false) (by kernel_rfl) (by kernel_rfl) ?_
        refine k_done ?_
        refine k_skip_seq ?_
        refine k_cond_f (by kernel_rfl) ?_
        refine k_skip_seq ?_
        refine k_seq ?_
        refine runs_v (D.sl (eFs l) none) (by kernel_rfl) (by kernel_rfl) ?_
        refine runs_v (D.agg [D.int IntKind.i64 (5 : Int), D.int IntKind.i64 (0 : Int), D.sl (eFs l) none]) (by kernel_rfl) (by kernel_rfl) ?_
        refine runs_gf (D.lptr (9 : Nat) (0 : Nat)) ([]) (by kernel_rfl) (by kernel_rfl) ?_
        refine runs_gf (D.junk) ([]) (by kernel_rfl) (by kernel_rfl) ?_
        refine k_done ?_
        refine k_skip_seq ?_
        refine k_seq ?_
        refine runs_v (D.agg [D.int IntKind.i64 (6 : Int), D.int IntKind.i64 (0 : Int), D.nils (24 : Nat)]) (by kernel_rfl) (by kernel_rfl) ?_
        refine runs_gf (D.lptr (10 : Nat) (0 : Nat)) ([]) (by kernel_rfl) (by kernel_rfl) ?_
        refine runs_gf (D.junk) ([]) (by kernel_rfl) (by kernel_rfl) ?_
        refine k_done ?_
        refine k_skip_seq ?_
        refine k_seq ?_
        refine k_seq ?_
        refine runs_v (D.int IntKind.i64 (0 : Int)) (by kernel_rfl) (by kernel_rfl) ?_
        refine k_done ?_
        refine k_skip_seq ?_
        refine k_block ?_
        refine k_loop (fun i : Nat => f6 f l a i (eFs (nots (l.take i)))) (fun _ => []) (fun i => i ≤ l.length ∧ ∀ k ∈ l.take i, fits 41 k ∧ mayR 41 k = true) (fun i => l.length - i) 0 (by kernel_rfl) rfl ⟨by simp, by simp⟩ (by intro s hs; omega) ?_
        rintro i ⟨hi, hok⟩
        by_cases hlt : i < l.length
        · have hg := kid_at hlt
          have hln := nots_len (l.take i)
          have hln2 : (l.take i).length = i := by simp; omega
          have hnt := nots_take hlt
          have hsl := slice_at hlt
          have hall := eFs_all l
          have hel := eFs_length l
          have lb := bounded_ok 41 l[i] 0 5000 [] rfl (by omega) (by omega)
          by_cases g1 : boundedR 41 l[i] = true
          · rw [g1] at lb
            have lf := boundedR_fits g1
            have lw := weight_ok 41 l[i] 5000 [] lf (by omega) (by omega)
            have lm := model_ok 41 l[i] 5000 [] lf (by omega)
            have lc := refCheck_ok 41 l[i] 4999 [] lf (by omega) (by omega)
            generalize eFs (nots (l.take i)) = y at *
            by_cases g2 : weightR 41 l[i] > 100
            · refine k_seq ?_
              refine k_seq ?_
              refine runs_v (D.int IntKind.i64 (↑i : Int)) (by kernel_rfl) (by kernel_rfl) ?_
              refine runs_v (D.sl (eFs l) none) (by kernel_rfl) (by kernel_rfl) ?_
              refine runs_ve (D.int IntKind.i64 (↑(List.length (eFs l)) : Int)) (.int IntKind.i64 ((↑(List.length l) : Int))) (by simp only [eFs_length]) (by kernel_rfl) (by kernel_rfl) ?_
              refine runs_v (D.bool (decide ((↑i : Int) < (↑(List.length l) : Int)))) (by kernel_rfl) (by kernel_rfl) ?_
              refine k_done ?_
              refine k_skip_seq ?_
              refine runs_know 41 (d := .bool (decide ((↑i : Int) < (↑(List.length l) : Int)))) (d' := .bool true) (by kernel_rfl) (congrArg D.bool (show (decide ((↑i : Int) < (↑(List.length l) : Int))) = true from (decide_eq_true (by omega)))) ?_
              refine k_cond_t (by kernel_rfl) ?_
              refine k_skip_seq ?_
              refine k_seq ?_
              refine k_block ?_
              refine k_seq ?_
              refine runs_v (D.sl (eFs l) none) (by kernel_rfl) (by kernel_rfl) ?_
              refine runs_v (D.int IntKind.i64 (↑i : Int)) (by kernel_rfl) (by kernel_rfl) ?_
              refine runs_indexL (eFs l) (o := none) (kd := IntKind.i64) (i) _ (by kernel_rfl) (by kernel_rfl) (by kernel_rfl) (by assumption) (by kernel_rfl) ?_
              refine runs_v (D.agg [D.int IntKind.i64 (Fm.op l[i]), D.int IntKind.i64 (Fm.n l[i]), D.sl (eFs (Fm.kids l[i])) none]) (by kernel_rfl) (by kernel_rfl) ?_
              refine runs_call ([D.agg [D.int IntKind.i64 (Fm.op l[i]), D.int IntKind.i64 (Fm.n l[i]), D.sl (eFs (Fm.kids l[i])) none], D.int IntKind.i64 (0 : Int)]) (by kernel_rfl) (by kernel_rfl) (by kernel_rfl) (by kernel_rfl) (lb) (by kernel_rfl) ?_
              refine runs_assign0 (D.bool true) (by kernel_rfl) (by kernel_rfl) (by kernel_rfl) ?_
              refine k_done ?_
              refine k_skip_seq ?_
              refine k_seq ?_
              refine k_seq ?_
              refine runs_v (D.bool true) (by kernel_rfl) (by kernel_rfl) ?_
              refine runs_v (D.bool false) (by kernel_rfl) (by kernel_rfl) ?_
              refine runs_v (D.bool false) (by kernel_rfl) (by kernel_rfl) ?_
              refine runs_v (D.sl (eFs l) none) (by kernel_rfl) (by kernel_rfl) ?_
              refine runs_v (D.int IntKind.i64 (↑i : Int)) (by kernel_rfl) (by kernel_rfl) ?_
              refine runs_indexL (eFs l) (o := none) (kd := IntKind.i64) (i) _ (by kernel_rfl) (by kernel_rfl) (by kernel_rfl) (by assumption) (by kernel_rfl) ?_
              refine runs_v (D.agg [D.int IntKind.i64 (Fm.op l[i]), D.int IntKind.i64 (Fm.n l[i]), D.sl (eFs (Fm.kids l[i])) none]) (by kernel_rfl) (by kernel_rfl) ?_
              refine runs_call ([D.agg [D.int IntKind.i64 (Fm.op l[i]), D.int IntKind.i64 (Fm.n l[i]), D.sl (eFs (Fm.kids l[i])) none]]) (by kernel_rfl) (by kernel_rfl) (by kernel_rfl) (by kernel_rfl) (lw) (by kernel_rfl) ?_
              refine runs_v (D.bool (decide (weightR (41 : Nat) l[i] > (100 : Int)))) (by kernel_rfl) (by kernel_rfl) ?_
              refine runs_v (D.bool (decide (weightR (41 : Nat) l[i] > (100 : Int)))) (by kernel_rfl) (by kernel_rfl) ?_
              refine runs_v (D.bool (decide (weightR (41 : Nat) l[i] > (100 : Int)))) (by kernel_rfl) (by kernel_rfl) ?_
              refine runs_know 59 (d := .bool (decide (weightR (41 : Nat) l[i] > (100 : Int)))) (d' := .bool true) (by kernel_rfl) (congrArg D.bool (show (decide (weightR (41 : Nat) l[i] > (100 : Int))) = true from (decide_eq_true (by assumption)))) ?_
              refine runs_no (by kernel_rfl) ?_
              refine runs_no (by kernel_rfl) ?_
              refine runs_no (by kernel_rfl) ?_
              refine runs_no (by kernel_rfl) ?_
              refine runs_no (by kernel_rfl) ?_
              refine runs_no (by kernel_rfl) ?_
              refine runs_no (by kernel_rfl) ?_
              refine runs_v (D.bool true) (by kernel_rfl) (by kernel_rfl) ?_
              refine k_done ?_
              refine k_skip_seq ?_
              refine k_cond_t (by kernel_rfl) ?_
              refine k_seq ?_
              refine runs_v (D.bool true) (by kernel_rfl) (by kernel_rfl) ?_
              refine k_done ?_
              refine k_skip_seq ?_
              refine k_ret ?_
              exact ⟨.inr rfl, by kernel_rfl, by kernel_rfl⟩
            · by_cases g3 : checkF 41 l[i] = 0
              · have lmay := check0 g3
                rw [g3] at lc
                refine k_seq ?_
                refine k_seq ?_
                refine runs_v (D.int IntKind.i64 (↑i : Int)) (by kernel_rfl) (by kernel_rfl) ?_
                refine runs_v (D.sl (eFs l) none) (by kernel_rfl) (by kernel_rfl) ?_
                refine runs_ve (D.int IntKind.i64 (↑(List.length (eFs l)) : Int)) (.int IntKind.i64 ((↑(List.length l) : Int))) (by simp only [eFs_length]) (by kernel_rfl) (by kernel_rfl) ?_
                refine runs_v (D.bool (decide ((↑i : Int) < (↑(List.length l) : Int)))) (by kernel_rfl) (by kernel_rfl) ?_
                refine k_done ?_
                refine k_skip_seq ?_
                refine runs_know 41 (d := .bool (decide ((↑i : Int) < (↑(List.length l) : Int)))) (d' := .bool true) (by kernel_rfl) (congrArg D.bool (show (decide ((↑i : Int) < (↑(List.length l) : Int))) = true from (decide_eq_true (by omega)))) ?_
                refine k_cond_t (by kernel_rfl) ?_
                refine k_skip_seq ?_
                refine k_seq ?_
                refine k_block ?_
                refine k_seq ?_
                refine runs_v (D.sl (eFs l) none) (by kernel_rfl) (by kernel_rfl) ?_
                refine runs_v (D.int IntKind.i64 (↑i : Int)) (by kernel_rfl) (by kernel_rfl) ?_
                refine runs_indexL (eFs l) (o := none) (kd := IntKind.i64) (i) _ (by kernel_rfl) (by kernel_rfl) (by kernel_rfl) (by assumption) (by kernel_rfl) ?_
                refine runs_v (D.agg [D.int IntKind.i64 (Fm.op l[i]), D.int IntKind.i64 (Fm.n l[i]), D.sl (eFs (Fm.kids l[i])) none]) (by kernel_rfl) (by kernel_rfl) ?_
                refine runs_call ([D.agg [D.int IntKind.i64 (Fm.op l[i]), D.int IntKind.i64 (Fm.n l[i]), D.sl (eFs (Fm.kids l[i])) none], D.int IntKind.i64 (0 : Int)]) (by kernel_rfl) (by kernel_rfl) (by kernel_rfl) (by kernel_rfl) (lb) (by kernel_rfl) ?_
                refine runs_assign0 (D.bool true) (by kernel_rfl) (by kernel_rfl) (by kernel_rfl) ?_
                refine k_done ?_
                refine k_skip_seq ?_
                refine k_seq ?_
                refine k_seq ?_
                refine runs_v (D.bool true) (by kernel_rfl) (by kernel_rfl) ?_
                refine runs_v (D.bool false) (by kernel_rfl) (by kernel_rfl) ?_
                refine runs_v (D.bool false) (by kernel_rfl) (by kernel_rfl) ?_
                refine runs_v (D.sl (eFs l) none) (by kernel_rfl) (by kernel_rfl) ?_
                refine runs_v (D.int IntKind.i64 (↑i : Int)) (by kernel_rfl) (by kernel_rfl) ?_
                refine runs_indexL (eFs l) (o := none) (kd := IntKind.i64) (i) _ (by kernel_rfl) (by kernel_rfl) (by kernel_rfl) (by assumption) (by kernel_rfl) ?_
                refine runs_v (D.agg [D.int IntKind.i64 (Fm.op l[i]), D.int IntKind.i64 (Fm.n l[i]), D.sl (eFs (Fm.kids l[i])) none]) (by kernel_rfl) (by kernel_rfl) ?_
                refine runs_call ([D.agg [D.int IntKind.i64 (Fm.op l[i]), D.int IntKind.i64 (Fm.n l[i]), D.sl (eFs (Fm.kids l[i])) none]]) (by kernel_rfl) (by kernel_rfl) (by kernel_rfl) (by kernel_rfl) (lw) (by kernel_rfl) ?_
                refine runs_v (D.bool (decide (weightR (41 : Nat) l[i] > (100 : Int)))) (by kernel_rfl) (by kernel_rfl) ?_
                refine runs_v (D.bool (decide (weightR (41 : Nat) l[i] > (100 : Int)))) (by kernel_rfl) (by kernel_rfl) ?_
                refine runs_v (D.bool (decide (weightR (41 : Nat) l[i] > (100 : Int)))) (by kernel_rfl) (by kernel_rfl) ?_
                refine runs_know 59 (d := .bool (decide (weightR (41 : Nat) l[i] > (100 : Int)))) (d' := .bool false) (by kernel_rfl) (congrArg D.bool (show (decide (weightR (41 : Nat) l[i] > (100 : Int))) = false from (decide_eq_false (by assumption)))) ?_
                refine runs_v (D.sl (eFs l) none) (by kernel_rfl) (by kernel_rfl) ?_
                refine runs_v (D.int IntKind.i64 (↑i : Int)) (by kernel_rfl) (by kernel_rfl) ?_
                refine runs_indexL (eFs l) (o := none) (kd := IntKind.i64) (i) _ (by kernel_rfl) (by kernel_rfl) (by kernel_rfl) (by assumption) (by kernel_rfl) ?_
                refine runs_v (D.agg [D.int IntKind.i64 (Fm.op l[i]), D.int IntKind.i64 (Fm.n l[i]), D.sl (eFs (Fm.kids l[i])) none]) (by kernel_rfl) (by kernel_rfl) ?_
                refine runs_call ([D.agg [D.int IntKind.i64 (Fm.op l[i]), D.int IntKind.i64 (Fm.n l[i]), D.sl (eFs (Fm.kids l[i])) none]]) (by kernel_rfl) (by kernel_rfl) (by kernel_rfl) (by kernel_rfl) (lm) (by kernel_rfl) ?_
                refine runs_call ([D.agg [D.int IntKind.i64 (Fm.op l[i]), D.int IntKind.i64 (Fm.n l[i]), D.sl (eFs (Fm.kids l[i])) none]]) (by kernel_rfl) (by kernel_rfl) (by kernel_rfl) (by kernel_rfl) (lc) (by kernel_rfl) ?_
                refine runs_v (D.bool false) (by kernel_rfl) (by kernel_rfl) ?_
                refine runs_v (D.bool false) (by kernel_rfl) (by kernel_rfl) ?_
                refine k_done ?_
                refine k_skip_seq ?_
                refine k_cond_f (by kernel_rfl) ?_
                refine k_skip_seq ?_
                refine runs_v (D.lptr (10 : Nat) (2 : Nat)) (by kernel_rfl) (by kernel_rfl) ?_
                refine runs_gf (D.sl y (some (24 : Nat))) ([]) (by kernel_rfl) (by kernel_rfl) ?_
                refine runs_v (D.sl (eFs l) none) (by kernel_rfl) (by kernel_rfl) ?_
                refine runs_v (D.int IntKind.i64 (↑i : Int)) (by kernel_rfl) (by kernel_rfl) ?_
                refine runs_v (D.int IntKind.i64 (↑i : Int)) (by kernel_rfl) (by kernel_rfl) ?_
                refine runs_ve (D.int IntKind.i64 (IntKind.wrap IntKind.i64 ((↑i : Int) + (1 : Int)))) (.int IntKind.i64 ((i + 1 : Nat) : Int)) (congrArg (D.int IntKind.i64) (show IntKind.wrap IntKind.i64 ((↑i : Int) + (1 : Int)) = ((i + 1 : Nat) : Int) from wrap_eq (by omega) (by omega) (by omega))) (by kernel_rfl) (by kernel_rfl) ?_
                refine runs_slice2 (eFs l) _ (o := none) (k1 := IntKind.i64) (k2 := IntKind.i64) (i) (i + (1 : Nat)) (by kernel_rfl) (by kernel_rfl) (by kernel_rfl) (by kernel_rfl) (by omega) (by assumption) (by assumption) ?_
                refine runs_v (D.agg [D.int IntKind.i64 (4 : Int), D.int IntKind.i64 (0 : Int), D.sl [[D.int IntKind.i64 (Fm.op l[i]), D.int IntKind.i64 (Fm.n l[i]), D.sl (eFs (Fm.kids l[i])) none]] none]) (by kernel_rfl) (by kernel_rfl) ?_
                refine runs_v (D.sl [[D.int IntKind.i64 (4 : Int), D.int IntKind.i64 (0 : Int), D.sl [[D.int IntKind.i64 (Fm.op l[i]), D.int IntKind.i64 (Fm.n l[i]), D.sl (eFs (Fm.kids l[i])) none]] none]] (some (24 : Nat))) (by kernel_rfl) (by kernel_rfl) ?_
                refine runs_append (y) ([[D.int IntKind.i64 (4 : Int), D.int IntKind.i64 (0 : Int), D.sl [[D.int IntKind.i64 (Fm.op l[i]), D.int IntKind.i64 (Fm.n l[i]), D.sl (eFs (Fm.kids l[i])) none]] none]]) (y ++ [[D.int IntKind.i64 (4 : Int), D.int IntKind.i64 (0 : Int), D.sl [[D.int IntKind.i64 (Fm.op l[i]), D.int IntKind.i64 (Fm.n l[i]), D.sl (eFs (Fm.kids l[i])) none]] none]]) (by kernel_rfl) (by kernel_rfl) (by kernel_rfl) (by kernel_rfl) (by simp [ints, eInt, rows, eInts, bools, eBool, trips, eTrip, room]; omega) rfl ?_
                refine runs_v (D.lptr (10 : Nat) (2 : Nat)) (by kernel_rfl) (by kernel_rfl) ?_
                refine runs_gf (D.junk) ([]) (by kernel_rfl) (by kernel_rfl) ?_
                refine k_done ?_
                refine k_skip_block ?_
                refine k_skip_seq ?_
                refine runs_v (D.int IntKind.i64 (↑i : Int)) (by kernel_rfl) (by kernel_rfl) ?_
                refine runs_ve (D.int IntKind.i64 (IntKind.wrap IntKind.i64 ((↑i : Int) + (1 : Int)))) (.int IntKind.i64 ((i + 1 : Nat) : Int)) (congrArg (D.int IntKind.i64) (show IntKind.wrap IntKind.i64 ((↑i : Int) + (1 : Int)) = ((i + 1 : Nat) : Int) from wrap_eq (by omega) (by omega) (by omega))) (by kernel_rfl) (by kernel_rfl) ?_
                refine runs_assign0 (D.int IntKind.i64 (↑(i + (1 : Nat)) : Int)) (by kernel_rfl) (by kernel_rfl) (by kernel_rfl) ?_
                refine k_done ?_
                refine k_skip_back ?_
                refine ⟨i + 1, ⟨hlt, ?_⟩, by omega, by rw [hnt]; kernel_rfl, rfl⟩
                rw [List.take_succ_eq_append_getElem hlt]
                intro k hk
                rcases List.mem_append.1 hk with hk | hk
                · exact hok k hk
                · simp only [List.mem_singleton] at hk
                  subst hk
                  exact ⟨lf, lmay⟩
              · refine k_seq ?_
                refine k_seq ?_
                refine runs_v (D.int IntKind.i64 (↑i : Int)) (by kernel_rfl) (by kernel_rfl) ?_
                refine runs_v (D.sl (eFs l) none) (by kernel_rfl) (by kernel_rfl) ?_
                refine runs_ve (D.int IntKind.i64 (↑(List.length (eFs l)) : Int)) (.int IntKind.i64 ((↑(List.length l) : Int))) (by simp only [eFs_length]) (by kernel_rfl) (by kernel_rfl) ?_
                refine runs_v (D.bool (decide ((↑i : Int) < (↑(List.length l) : Int)))) (by kernel_rfl) (by kernel_rfl) ?_
                refine k_done ?_
                refine k_skip_seq ?_
                refine runs_know 41 (d := .bool (decide ((↑i : Int) < (↑(List.length l) : Int)))) (d' := .bool true) (by kernel_rfl) (congrArg D.bool (show (decide ((↑i : Int) < (↑(List.length l) : Int))) = true from (decide_eq_true (by omega)))) ?_
                refine k_cond_t (by kernel_rfl) ?_
                refine k_skip_seq ?_
                refine k_seq ?_
                refine k_block ?_
                refine k_seq ?_
                refine runs_v (D.sl (eFs l) none) (by kernel_rfl) (by kernel_rfl) ?_
                refine runs_v (D.int IntKind.i64 (↑i : Int)) (by kernel_rfl) (by kernel_rfl) ?_
                refine runs_indexL (eFs l) (o := none) (kd := IntKind.i64) (i) _ (by kernel_rfl) (by kernel_rfl) (by kernel_rfl) (by assumption) (by kernel_rfl) ?_
                refine runs_v (D.agg [D.int IntKind.i64 (Fm.op l[i]), D.int IntKind.i64 (Fm.n l[i]), D.sl (eFs (Fm.kids l[i])) none]) (by kernel_rfl) (by kernel_rfl) ?_
                refine runs_call ([D.agg [D.int IntKind.i64 (Fm.op l[i]), D.int IntKind.i64 (Fm.n l[i]), D.sl (eFs (Fm.kids l[i])) none], D.int IntKind.i64 (0 : Int)]) (by kernel_rfl) (by kernel_rfl) (by kernel_rfl) (by kernel_rfl) (lb) (by kernel_rfl) ?_
                refine runs_assign0 (D.bool true) (by kernel_rfl) (by kernel_rfl) (by kernel_rfl) ?_
                refine k_done ?_
                refine k_skip_seq ?_
                refine k_seq ?_
                refine k_seq ?_
                refine runs_v (D.bool true) (by kernel_rfl) (by kernel_rfl) ?_
                refine runs_v (D.bool false) (by kernel_rfl) (by kernel_rfl) ?_
                refine runs_v (D.bool false) (by kernel_rfl) (by kernel_rfl) ?_
                refine runs_v (D.sl (eFs l) none) (by kernel_rfl) (by kernel_rfl) ?_
                refine runs_v (D.int IntKind.i64 (↑i : Int)) (by kernel_rfl) (by kernel_rfl) ?_
                refine runs_indexL (eFs l) (o := none) (kd := IntKind.i64) (i) _ (by kernel_rfl) (by kernel_rfl) (by kernel_rfl) (by assumption) (by kernel_rfl) ?_
                refine runs_v (D.agg [D.int IntKind.i64 (Fm.op l[i]), D.int IntKind.i64 (Fm.n l[i]), D.sl (eFs (Fm.kids l[i])) none]) (by kernel_rfl) (by kernel_rfl) ?_
                refine runs_call ([D.agg [D.int IntKind.i64 (Fm.op l[i]), D.int IntKind.i64 (Fm.n l[i]), D.sl (eFs (Fm.kids l[i])) none]]) (by kernel_rfl) (by kernel_rfl) (by kernel_rfl) (by kernel_rfl) (lw) (by kernel_rfl) ?_
                refine runs_v (D.bool (decide (weightR (41 : Nat) l[i] > (100 : Int)))) (by kernel_rfl) (by kernel_rfl) ?_
                refine runs_v (D.bool (decide (weightR (41 : Nat) l[i] > (100 : Int)))) (by kernel_rfl) (by kernel_rfl) ?_
                refine runs_v (D.bool (decide (weightR (41 : Nat) l[i] > (100 : Int)))) (by kernel_rfl) (by kernel_rfl) ?_
                refine runs_know 59 (d := .bool (decide (weightR (41 : Nat) l[i] > (100 : Int)))) (d' := .bool false) (by kernel_rfl) (congrArg D.bool (show (decide (weightR (41 : Nat) l[i] > (100 : Int))) = false from (decide_eq_false (by assumption)))) ?_
                refine runs_v (D.sl (eFs l) none) (by kernel_rfl) (by kernel_rfl) ?_
                refine runs_v (D.int IntKind.i64 (↑i : Int)) (by kernel_rfl) (by kernel_rfl) ?_
                refine runs_indexL (eFs l) (o := none) (kd := IntKind.i64) (i) _ (by kernel_rfl) (by kernel_rfl) (by kernel_rfl) (by assumption) (by kernel_rfl) ?_
                refine runs_v (D.agg [D.int IntKind.i64 (Fm.op l[i]), D.int IntKind.i64 (Fm.n l[i]), D.sl (eFs (Fm.kids l[i])) none]) (by kernel_rfl) (by kernel_rfl) ?_
                refine runs_call ([D.agg [D.int IntKind.i64 (Fm.op l[i]), D.int IntKind.i64 (Fm.n l[i]), D.sl (eFs (Fm.kids l[i])) none]]) (by kernel_rfl) (by kernel_rfl) (by kernel_rfl) (by kernel_rfl) (lm) (by kernel_rfl) ?_
                refine runs_call ([D.agg [D.int IntKind.i64 (Fm.op l[i]), D.int IntKind.i64 (Fm.n l[i]), D.sl (eFs (Fm.kids l[i])) none]]) (by kernel_rfl) (by kernel_rfl) (by kernel_rfl) (by kernel_rfl) (lc) (by kernel_rfl) ?_
                refine runs_v (D.bool (checkF (41 : Nat) l[i] != (0 : Int))) (by kernel_rfl) (by kernel_rfl) ?_
                refine runs_v (D.bool (checkF (41 : Nat) l[i] != (0 : Int))) (by kernel_rfl) (by kernel_rfl) ?_
                refine k_done ?_
                refine k_skip_seq ?_
                refine runs_know 67 (d := .bool (checkF (41 : Nat) l[i] != (0 : Int))) (d' := .bool true) (by kernel_rfl) (congrArg D.bool (show (checkF (41 : Nat) l[i] != (0 : Int)) = true from (bne_iff_ne.2 (by assumption)))) ?_
                refine k_cond_t (by kernel_rfl) ?_
                refine k_seq ?_
                refine runs_v (D.bool true) (by kernel_rfl) (by kernel_rfl) ?_
                refine k_done ?_
                refine k_skip_seq ?_
                refine k_ret ?_
                exact ⟨.inr rfl, by kernel_rfl, by kernel_rfl⟩
          · have g1' : boundedR 41 l[i] = false := by simpa using g1
            rw [g1'] at lb
            generalize eFs (nots (l.take i)) = y at *
            refine k_seq ?_
            refine k_seq ?_
            refine runs_v (D.int IntKind.i64 (↑i : Int)) (by kernel_rfl) (by kernel_rfl) ?_
            refine runs_v (D.sl (eFs l) none) (by kernel_rfl) (by kernel_rfl) ?_
            refine runs_ve (D.int IntKind.i64 (↑(List.length (eFs l)) : Int)) (.int IntKind.i64 ((↑(List.length l) : Int))) (by simp only [eFs_length]) (by kernel_rfl) (by kernel_rfl) ?_
            refine runs_v (D.bool (decide ((↑i : Int) < (↑(List.length l) : Int)))) (by kernel_rfl) (by kernel_rfl) ?_
            refine k_done ?_
            refine k_skip_seq ?_
            refine runs_know 41 (d := .bool (decide ((↑i : Int) < (↑(List.length l) : Int)))) (d' := .bool true) (by kernel_rfl) (congrArg D.bool (show (decide ((↑i : Int) < (↑(List.length l) : Int))) = true from (decide_eq_true (by omega)))) ?_
            refine k_cond_t (by kernel_rfl) ?_
            refine k_skip_seq ?_
            refine k_seq ?_
            refine k_block ?_
            refine k_seq ?_
            refine runs_v (D.sl (eFs l) none) (by kernel_rfl) (by kernel_rfl) ?_
            refine runs_v (D.int IntKind.i64 (↑i : Int)) (by kernel_rfl) (by kernel_rfl) ?_
            refine runs_indexL (eFs l) (o := none) (kd := IntKind.i64) (i) _ (by kernel_rfl) (by kernel_rfl) (by kernel_rfl) (by assumption) (by kernel_rfl) ?_
            refine runs_v (D.agg [D.int IntKind.i64 (Fm.op l[i]), D.int IntKind.i64 (Fm.n l[i]), D.sl (eFs (Fm.kids l[i])) none]) (by kernel_rfl) (by kernel_rfl) ?_
            refine runs_call ([D.agg [D.int IntKind.i64 (Fm.op l[i]), D.int IntKind.i64 (Fm.n l[i]), D.sl (eFs (Fm.kids l[i])) none], D.int IntKind.i64 (0 : Int)]) (by kernel_rfl) (by kernel_rfl) (by kernel_rfl) (by kernel_rfl) (lb) (by kernel_rfl) ?_
            refine runs_assign0 (D.bool false) (by kernel_rfl) (by kernel_rfl) (by kernel_rfl) ?_
            refine k_done ?_
            refine k_skip_seq ?_
            refine k_seq ?_
            refine k_seq ?_
            refine runs_v (D.bool false) (by kernel_rfl) (by kernel_rfl) ?_
            refine runs_v (D.bool true) (by kernel_rfl) (by kernel_rfl) ?_
            refine runs_v (D.bool true) (by kernel_rfl) (by kernel_rfl) ?_
            refine runs_no (by kernel_rfl) ?_
            refine runs_no (by kernel_rfl) ?_
            refine runs_no (by kernel_rfl) ?_
            refine runs_no (by kernel_rfl) ?_
            refine runs_no (by kernel_rfl) ?_
            refine runs_no (by kernel_rfl) ?_
            refine runs_v (D.bool true) (by kernel_rfl) (by kernel_rfl) ?_
            refine runs_v (D.bool true) (by kernel_rfl) (by kernel_rfl) ?_
            refine runs_no (by kernel_rfl) ?_
            refine runs_no (by kernel_rfl) ?_
            refine runs_no (by kernel_rfl) ?_
            refine runs_no (by kernel_rfl) ?_
            refine runs_no (by kernel_rfl) ?_
            refine runs_no (by kernel_rfl) ?_
            refine runs_no (by kernel_rfl) ?_
            refine runs_v (D.bool true) (by kernel_rfl) (by kernel_rfl) ?_
            refine k_done ?_
            refine k_skip_seq ?_
            refine k_cond_t (by kernel_rfl) ?_
            refine k_seq ?_
            refine runs_v (D.bool true) (by kernel_rfl) (by kernel_rfl) ?_
            refine k_done ?_
            refine k_skip_seq ?_
            refine k_ret ?_
            exact ⟨.inr rfl, by kernel_rfl, by kernel_rfl⟩
        · rw [List.take_of_length_le (by omega)] at hok ⊢
          have n1 := wrap_may hfit hmay
          have n2 := wrap_may n1.1 n1.2
          have hn := simple_nice 41 f hfit hmay
          have hsf := nice_fits hn
          have hs2 : simpleR 43 (.mk 4 0 [.mk 4 0 [f]]) = simpleR 41 f := negneg hn
          have s1 := simple_ok 41 f 5000 [] hfit hmay (by omega)
          have s2 := simple_ok 43 (.mk 4 0 [.mk 4 0 [f]]) 5000 [] n2.1 n2.2 (by omega)
          rw [hs2] at s2
          have m2 := model_ok 41 (simpleR 41 f) 5000 [] hsf (by omega)
          have e3 := same_ok 41 (simpleR 41 f) 5000 [] hsf (by omega)
          obtain ⟨σ1, e1⟩ := eval_ok 41 f a none 5000 hfit ha (by omega)
          obtain ⟨σ2, e2⟩ := eval_ok 43 (.mk 4 0 [.mk 4 0 [f]]) a none 5000 n2.1 ha (by omega)
          rw [eval_not, eval_not, Bool.not_not] at e2
          have fx : fits 42 (.mk 5 0 l) := ⟨by show l.length ≤ 60; omega, fun k hk => (hok k hk).1⟩
          have fy : fits 43 (.mk 6 0 (nots l)) := ⟨by show (nots l).length ≤ 60; simp [nots]; omega, fun k hk => by
            obtain ⟨k0, hk0, rfl⟩ := List.mem_map.1 (show k ∈ l.map (fun k => Fm.mk 4 0 [k]) from hk)
            exact (wrap_may (hok k0 hk0).1 (hok k0 hk0).2).1⟩
          obtain ⟨σ3, e4⟩ := eval_ok 42 (.mk 5 0 l) a none 5000 fx ha (by omega)
          obtain ⟨σ4, e5⟩ := eval_ok 43 (.mk 6 0 (nots l)) a none 5000 fy ha (by omega)
          rw [eval_y] at e5
          rw [eF_one, eF_one] at s2 e2
          rw [show eF (.mk 5 0 l) = [.int .i64 5, .int .i64 0, .sl (eFs l) none] from rfl] at e4
          rw [show eF (.mk 6 0 (nots l)) = [.int .i64 6, .int .i64 0, .sl (eFs (nots l)) none] from rfl] at e5
          generalize evalR 41 f a = ev at *
          generalize evalR 42 (.mk 5 0 l) a = ex at *
          generalize simpleR 41 f = s at *
          generalize nots l = y at *
          have q1 : ((ev == ev) != false) = true := by simp
          refine k_seq ?_
          refine k_seq ?_
          refine runs_v (D.int IntKind.i64 (↑i : Int)) (by kernel_rfl) (by kernel_rfl) ?_
          refine runs_v (D.sl (eFs l) none) (by kernel_rfl) (by kernel_rfl) ?_
          refine runs_ve (D.int IntKind.i64 (↑(List.length (eFs l)) : Int)) (.int IntKind.i64 ((↑(List.length l) : Int))) (by simp only [eFs_length]) (by kernel_rfl) (by kernel_rfl) ?_
          refine runs_v (D.bool (decide ((↑i : Int) < (↑(List.length l) : Int)))) (by kernel_rfl) (by kernel_rfl) ?_
          refine k_done ?_
          refine k_skip_seq ?_
          refine runs_know 41 (d := .bool (decide ((↑i : Int) < (↑(List.length l) : Int)))) (d' := .bool false) (by kernel_rfl) (congrArg D.bool (show (decide ((↑i : Int) < (↑(List.length l) : Int))) = false from (decide_eq_false (by omega)))) ?_
          refine k_cond_f (by kernel_rfl) ?_
          refine k_exit_seq ?_
          refine k_exit_back ?_
          refine k_exit_hit rfl ?_
          refine k_skip_seq ?_
          refine k_seq ?_
          refine runs_v (D.agg [D.int IntKind.i64 (Fm.op f), D.int IntKind.i64 (Fm.n f), D.sl (eFs (Fm.kids f)) none]) (by kernel_rfl) (by kernel_rfl) ?_
          refine runs_v (D.sl [[D.int IntKind.i64 (Fm.op f), D.int IntKind.i64 (Fm.n f), D.sl (eFs (Fm.kids f)) none]] (some (24 : Nat))) (by kernel_rfl) (by kernel_rfl) ?_
          refine runs_v (D.agg [D.int IntKind.i64 (4 : Int), D.int IntKind.i64 (0 : Int), D.sl [[D.int IntKind.i64 (Fm.op f), D.int IntKind.i64 (Fm.n f), D.sl (eFs (Fm.kids f)) none]] none]) (by kernel_rfl) (by kernel_rfl) ?_
          refine runs_v (D.sl [[D.int IntKind.i64 (4 : Int), D.int IntKind.i64 (0 : Int), D.sl [[D.int IntKind.i64 (Fm.op f), D.int IntKind.i64 (Fm.n f), D.sl (eFs (Fm.kids f)) none]] none]] (some (24 : Nat))) (by kernel_rfl) (by kernel_rfl) ?_
          refine runs_v (D.agg [D.int IntKind.i64 (4 : Int), D.int IntKind.i64 (0 : Int), D.sl [[D.int IntKind.i64 (4 : Int), D.int IntKind.i64 (0 : Int), D.sl [[D.int IntKind.i64 (Fm.op f), D.int IntKind.i64 (Fm.n f), D.sl (eFs (Fm.kids f)) none]] none]] none]) (by kernel_rfl) (by kernel_rfl) ?_
          refine runs_gf (D.lptr (13 : Nat) (0 : Nat)) ([]) (by kernel_rfl) (by kernel_rfl) ?_
          refine runs_gf (D.junk) ([]) (by kernel_rfl) (by kernel_rfl) ?_
          refine k_done ?_
          refine k_skip_seq ?_
          refine k_seq ?_
          refine runs_v (D.agg [D.int IntKind.i64 (4 : Int), D.int IntKind.i64 (0 : Int), D.sl [[D.int IntKind.i64 (4 : Int), D.int IntKind.i64 (0 : Int), D.sl [[D.int IntKind.i64 (Fm.op f), D.int IntKind.i64 (Fm.n f), D.sl (eFs (Fm.kids f)) none]] none]] none]) (by kernel_rfl) (by kernel_rfl) ?_
          refine runs_v (D.sl (bools a) none) (by kernel_rfl) (by kernel_rfl) ?_
          refine runs_callQ ([D.agg [D.int IntKind.i64 (4 : Int), D.int IntKind.i64 (0 : Int), D.sl [[D.int IntKind.i64 (4 : Int), D.int IntKind.i64 (0 : Int), D.sl [[D.int IntKind.i64 (Fm.op f), D.int IntKind.i64 (Fm.n f), D.sl (eFs (Fm.kids f)) none]] none]] none], D.sl (bools a) none]) (by kernel_rfl) (by kernel_rfl) (by kernel_rfl) (by kernel_rfl) (e2) (by kernel_rfl) ?_
          refine runs_v (D.agg [D.int IntKind.i64 (Fm.op f), D.int IntKind.i64 (Fm.n f), D.sl (eFs (Fm.kids f)) none]) (by kernel_rfl) (by kernel_rfl) ?_
          refine runs_v (D.sl (bools a) none) (by kernel_rfl) (by kernel_rfl) ?_
          refine runs_callQ ([D.agg [D.int IntKind.i64 (Fm.op f), D.int IntKind.i64 (Fm.n f), D.sl (eFs (Fm.kids f)) none], D.sl (bools a) none]) (by kernel_rfl) (by kernel_rfl) (by kernel_rfl) (by kernel_rfl) (e1) (by kernel_rfl) ?_
          refine runs_v (D.bool ((ev == ev) != false)) (by kernel_rfl) (by kernel_rfl) ?_
          refine runs_v (D.bool ((ev == ev) != false)) (by kernel_rfl) (by kernel_rfl) ?_
          refine runs_know 91 (d := .bool ((ev == ev) != false)) (d' := .bool true) (by kernel_rfl) (congrArg D.bool (show ((ev == ev) != false) = true from (by assumption))) ?_
          refine runs_v (D.agg [D.int IntKind.i64 (4 : Int), D.int IntKind.i64 (0 : Int), D.sl [[D.int IntKind.i64 (4 : Int), D.int IntKind.i64 (0 : Int), D.sl [[D.int IntKind.i64 (Fm.op f), D.int IntKind.i64 (Fm.n f), D.sl (eFs (Fm.kids f)) none]] none]] none]) (by kernel_rfl) (by kernel_rfl) ?_
          refine runs_callQ ([D.agg [D.int IntKind.i64 (4 : Int), D.int IntKind.i64 (0 : Int), D.sl [[D.int IntKind.i64 (4 : Int), D.int IntKind.i64 (0 : Int), D.sl [[D.int IntKind.i64 (Fm.op f), D.int IntKind.i64 (Fm.n f), D.sl (eFs (Fm.kids f)) none]] none]] none]]) (by kernel_rfl) (by kernel_rfl) (by kernel_rfl) (by kernel_rfl) (s2) (by kernel_rfl) ?_
          refine runs_callQ ([D.agg [D.int IntKind.i64 (Fm.op s), D.int IntKind.i64 (Fm.n s), D.sl (eFs (Fm.kids s)) none]]) (by kernel_rfl) (by kernel_rfl) (by kernel_rfl) (by kernel_rfl) (m2) (by kernel_rfl) ?_
          refine runs_v (D.agg [D.int IntKind.i64 (Fm.op f), D.int IntKind.i64 (Fm.n f), D.sl (eFs (Fm.kids f)) none]) (by kernel_rfl) (by kernel_rfl) ?_
          refine runs_callQ ([D.agg [D.int IntKind.i64 (Fm.op f), D.int IntKind.i64 (Fm.n f), D.sl (eFs (Fm.kids f)) none]]) (by kernel_rfl) (by kernel_rfl) (by kernel_rfl) (by kernel_rfl) (s1) (by kernel_rfl) ?_
          refine runs_callQ ([D.agg [D.int IntKind.i64 (Fm.op s), D.int IntKind.i64 (Fm.n s), D.sl (eFs (Fm.kids s)) none]]) (by kernel_rfl) (by kernel_rfl) (by kernel_rfl) (by kernel_rfl) (m2) (by kernel_rfl) ?_
          refine runs_callQ ([D.agg [D.int IntKind.i64 (Fm.op s), D.int IntKind.i64 (Fm.n s), D.sl (eFs (Fm.kids s)) none], D.agg [D.int IntKind.i64 (Fm.op s), D.int IntKind.i64 (Fm.n s), D.sl (eFs (Fm.kids s)) none]]) (by kernel_rfl) (by kernel_rfl) (by kernel_rfl) (by kernel_rfl) (e3) (by kernel_rfl) ?_
          refine runs_v (D.bool true) (by kernel_rfl) (by kernel_rfl) ?_
          refine runs_v (D.bool true) (by kernel_rfl) (by kernel_rfl) ?_
          refine runs_v (D.agg [D.int IntKind.i64 (5 : Int), D.int IntKind.i64 (0 : Int), D.sl (eFs l) none]) (by kernel_rfl) (by kernel_rfl) ?_
          refine runs_v (D.sl (bools a) none) (by kernel_rfl) (by kernel_rfl) ?_
          refine runs_callQ ([D.agg [D.int IntKind.i64 (5 : Int), D.int IntKind.i64 (0 : Int), D.sl (eFs l) none], D.sl (bools a) none]) (by kernel_rfl) (by kernel_rfl) (by kernel_rfl) (by kernel_rfl) (e4) (by kernel_rfl) ?_
          refine runs_v (D.agg [D.int IntKind.i64 (6 : Int), D.int IntKind.i64 (0 : Int), D.sl (eFs y) none]) (by kernel_rfl) (by kernel_rfl) ?_
          refine runs_v (D.sl (bools a) none) (by kernel_rfl) (by kernel_rfl) ?_
          refine runs_callQ ([D.agg [D.int IntKind.i64 (6 : Int), D.int IntKind.i64 (0 : Int), D.sl (eFs y) none], D.sl (bools a) none]) (by kernel_rfl) (by kernel_rfl) (by kernel_rfl) (by kernel_rfl) (e5) (by kernel_rfl) ?_
          refine runs_v (D.bool ((ex == !ex) != true)) (by kernel_rfl) (by kernel_rfl) ?_
          refine runs_v (D.bool ((ex == !ex) != true)) (by kernel_rfl) (by kernel_rfl) ?_
          refine runs_assign0 (D.bool ((ex == !ex) != true)) (by kernel_rfl) (by kernel_rfl) (by kernel_rfl) ?_
          refine k_done ?_
          refine k_skip_seq ?_
          refine k_ret ?_
          refine ⟨.inr rfl, by kernel_rfl, ?_⟩
          have : ((ex == !ex) != true) = true := by cases ex <;> rfl
          exact Eq.trans (b := some (D.bool ((ex == !ex) != true), [])) (by show _ = _; kernel_rfl) (by rw [this])
      · refine k_seq ?_
        refine runs_gf (D.lptr (3 : Nat) (0 : Nat)) ([]) (by kernel_rfl) (by kernel_rfl) ?_
        refine runs_v (D.bool false) (by kernel_rfl) (by kernel_rfl) ?_
        refine k_done ?_
        refine k_skip_seq ?_
        refine k_seq ?_
        refine runs_call ([]) (by kernel_rfl) (by kernel_rfl) (by kernel_rfl) (by kernel_rfl) (awake_ok) (by kernel_rfl) ?_
        refine runs_assign0 (D.bool true) (by kernel_rfl) (by kernel_rfl) (by kernel_rfl) ?_
        refine k_done ?_
        refine k_skip_seq ?_
        refine k_seq ?_
        refine k_seq ?_
        refine runs_v (D.bool true) (by kernel_rfl) (by kernel_rfl) ?_
        refine runs_v (D.bool false) (by kernel_rfl) (by kernel_rfl) ?_
        refine k_done ?_
        refine k_skip_seq ?_
        refine k_cond_f (by kernel_rfl) ?_
        refine k_skip_seq ?_
        refine k_seq ?_
        refine k_seq ?_
        refine runs_v (D.sl (eFs l) none) (by kernel_rfl) (by kernel_rfl) ?_
        refine runs_ve (D.int IntKind.i64 (↑(List.length (eFs l)) : Int)) (.int IntKind.i64 ((↑(List.length l) : Int))) (by simp only [eFs_length]) (by kernel_rfl) (by kernel_rfl) ?_
        refine runs_v (D.bool (decide ((↑(List.length l) : Int) > (8 : Int)))) (by kernel_rfl) (by kernel_rfl) ?_
        refine k_done ?_
        refine k_skip_seq ?_
        refine runs_know 19 (d := .bool (decide ((↑(List.length l) : Int) > (8 : Int)))) (d' := .bool false) (by kernel_rfl) (congrArg D.bool (show (decide ((↑(List.length l) : Int) > (8 : Int))) = false from (decide_eq_false (by omega)))) ?_
        refine k_cond_f (by kernel_rfl) ?_
        refine k_skip_seq ?_
        refine k_seq ?_
        refine runs_v (D.agg [D.int IntKind.i64 (Fm.op f), D.int IntKind.i64 (Fm.n f), D.sl (eFs (Fm.kids f)) none]) (by kernel_rfl) (by kernel_rfl) ?_
        refine runs_call ([D.agg [D.int IntKind.i64 (Fm.op f), D.int IntKind.i64 (Fm.n f), D.sl (eFs (Fm.kids f)) none], D.int IntKind.i64 (0 : Int)]) (by kernel_rfl) (by kernel_rfl) (by kernel_rfl) (by kernel_rfl) (hb) (by kernel_rfl) ?_
        refine runs_assign0 (D.bool true) (by kernel_rfl) (by kernel_rfl) (by kernel_rfl) ?_
        refine k_done ?_
        refine k_skip_seq ?_
        refine k_seq ?_
        refine k_seq ?_
        refine runs_v (D.bool true) (by kernel_rfl) (by kernel_rfl) ?_
        refine runs_v (D.bool false) (by kernel_rfl) (by kernel_rfl) ?_
        refine runs_v (D.bool false) (by kernel_rfl) (by kernel_rfl) ?_
        refine runs_v (D.agg [D.int IntKind.i64 (Fm.op f), D.int IntKind.i64 (Fm.n f), D.sl (eFs (Fm.kids f)) none]) (by kernel_rfl) (by kernel_rfl) ?_
        refine runs_call ([D.agg [D.int IntKind.i64 (Fm.op f), D.int IntKind.i64 (Fm.n f), D.sl (eFs (Fm.kids f)) none]]) (by kernel_rfl) (by kernel_rfl) (by kernel_rfl) (by kernel_rfl) (hw) (by kernel_rfl) ?_
        refine runs_v (D.bool (decide (weightR (41 : Nat) f > (200 : Int)))) (by kernel_rfl) (by kernel_rfl) ?_
        refine runs_v (D.bool (decide (weightR (41 : Nat) f > (200 : Int)))) (by kernel_rfl) (by kernel_rfl) ?_
        refine runs_v (D.bool (decide (weightR (41 : Nat) f > (200 : Int)))) (by kernel_rfl) (by kernel_rfl) ?_
        refine runs_know 29 (d := .bool (decide (weightR (41 : Nat) f > (200 : Int)))) (d' := .bool false) (by kernel_rfl) (congrArg D.bool (show (decide (weightR (41 : Nat) f > (200 : Int))) = false from (decide_eq_false (by assumption)))) ?_
        refine runs_v (D.agg [D.int IntKind.i64 (Fm.op f), D.int IntKind.i64 (Fm.n f), D.sl (eFs (Fm.kids f)) none]) (by kernel_rfl) (by kernel_rfl) ?_
        refine runs_call ([D.agg [D.int IntKind.i64 (Fm.op f), D.int IntKind.i64 (Fm.n f), D.sl (eFs (Fm.kids f)) none]]) (by kernel_rfl) (by kernel_rfl) (by kernel_rfl) (by kernel_rfl) (k2) (by kernel_rfl) ?_
        refine runs_call ([D.agg [D.int IntKind.i64 (Fm.op f), D.int IntKind.i64 (Fm.n f), D.sl (eFs (Fm.kids f)) none]]) (by kernel_rfl) (by kernel_rfl) (by kernel_rfl) (by kernel_rfl) (k3) (by kernel_rfl) ?_
        refine runs_v (D.bool (checkF (41 : Nat) f != (0 : Int))) (by kernel_rfl) (by kernel_rfl) ?_
        refine runs_v (D.bool (checkF (41 : Nat) f != (0 : Int))) (by kernel_rfl) (by kernel_rfl) ?_
        refine k_done ?_
        refine k_skip_seq ?_
        refine runs_know 34 (d := .bool (checkF (41 : Nat) f != (0 : Int))) (d' := .bool true) (by kernel_rfl) (congrArg D.bool (show (checkF (41 : Nat) f != (0 : Int)) = true from (bne_iff_ne.2 (by assumption)))) ?_
        refine k_cond_t (by kernel_rfl) ?_
        refine k_seq ?_
        refine runs_v (D.bool true) (by kernel_rfl) (by kernel_rfl) ?_
        refine k_done ?_
        refine k_skip_seq ?_
        refine k_ret ?_
        exact ⟨.inr rfl, by kernel_rfl, by kernel_rfl⟩
  · have h1' : boundedR 41 f = false := by simpa using h1
    rw [h1'] at hb
    refine k_seq ?_
    refine runs_gf (D.lptr (3 : Nat) (0 : Nat)) ([]) (by kernel_rfl) (by kernel_rfl) ?_
    refine runs_v (D.bool false) (by kernel_rfl) (by kernel_rfl) ?_
    refine k_done ?_
    refine k_skip_seq ?_
    refine k_seq ?_
    refine runs_call ([]) (by kernel_rfl) (by kernel_rfl) (by kernel_rfl) (by kernel_rfl) (awake_ok) (by kernel_rfl) ?_
    refine runs_assign0 (D.bool true) (by kernel_rfl) (by kernel_rfl) (by kernel_rfl) ?_
    refine k_done ?_
    refine k_skip_seq ?_
    refine k_seq ?_
    refine k_seq ?_
    refine runs_v (D.bool true) (by kernel_rfl) (by kernel_rfl) ?_
    refine runs_v (D.bool false) (by kernel_rfl) (by kernel_rfl) ?_
    refine k_done ?_
    refine k_skip_seq ?_
    refine k_cond_f (by kernel_rfl) ?_
    refine k_skip_seq ?_
    refine k_seq ?_
    refine k_seq ?_
    refine runs_v (D.sl (eFs l) none) (by kernel_rfl) (by kernel_rfl) ?_
    refine runs_ve (D.int IntKind.i64 (↑(List.length (eFs l)) : Int)) (.int IntKind.i64 ((↑(List.length l) : Int))) (by simp only [eFs_length]) (by kernel_rfl) (by kernel_rfl) ?_
    refine runs_v (D.bool (decide ((↑(List.length l) : Int) > (8 : Int)))) (by kernel_rfl) (by kernel_rfl) ?_
    refine k_done ?_
    refine k_skip_seq ?_
    refine runs_know 19 (d := .bool (decide ((↑(List.length l) : Int) > (8 : Int)))) (d' := .bool false) (by kernel_rfl) (congrArg D.bool (show (decide ((↑(List.length l) : Int) > (8 : Int))) = false from (decide_eq_false (by omega)))) ?_
    refine k_cond_f (by kernel_rfl) ?_
    refine k_skip_seq ?_
    refine k_seq ?_
    refine runs_v (D.agg [D.int IntKind.i64 (Fm.op f), D.int IntKind.i64 (Fm.n f), D.sl (eFs (Fm.kids f)) none]) (by kernel_rfl) (by kernel_rfl) ?_
    refine runs_call ([D.agg [D.int IntKind.i64 (Fm.op f), D.int IntKind.i64 (Fm.n f), D.sl (eFs (Fm.kids f)) none], D.int IntKind.i64 (0 : Int)]) (by kernel_rfl) (by kernel_rfl) (by kernel_rfl) (by kernel_rfl) (hb) (by kernel_rfl) ?_
    refine runs_assign0 (D.bool false) (by kernel_rfl) (by kernel_rfl) (by kernel_rfl) ?_
    refine k_done ?_
    refine k_skip_seq ?_
    refine k_seq ?_
    refine k_seq ?_
    refine runs_v (D.bool false) (by kernel_rfl) (by kernel_rfl) ?_
    refine runs_v (D.bool true) (by kernel_rfl) (by kernel_rfl) ?_
    refine runs_v (D.bool true) (by kernel_rfl) (by kernel_rfl) ?_
    refine runs_no (by kernel_rfl) ?_
    refine runs_no (by kernel_rfl) ?_
    refine runs_no (by kernel_rfl) ?_
    refine runs_v (D.bool true) (by kernel_rfl) (by kernel_rfl) ?_
    refine runs_v (D.bool true) (by kernel_rfl) (by kernel_rfl) ?_
    refine runs_no (by kernel_rfl) ?_
    refine runs_no (by kernel_rfl) ?_
    refine runs_no (by kernel_rfl) ?_
    refine runs_no (by kernel_rfl) ?_
    refine runs_v (D.bool true) (by kernel_rfl) (by kernel_rfl) ?_
    refine k_done ?_
    refine k_skip_seq ?_
    refine k_cond_t (by kernel_rfl) ?_
    refine k_seq ?_
    refine runs_v (D.bool true) (by kernel_rfl) (by kernel_rfl) ?_
    refine k_done ?_
    refine k_skip_seq ?_
    refine k_ret ?_
    exact ⟨.inr rfl, by kernel_rfl, by kernel_rfl⟩
end Go.Abs.A
