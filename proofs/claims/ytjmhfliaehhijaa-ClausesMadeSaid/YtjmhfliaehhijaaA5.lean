import Derived.Test.YtjmhfliaehhijaaKont
import Derived.Test.YtjmhfliaehhijaaA4
set_option linter.unusedVariables false
set_option linter.unusedSimpArgs false
/-
  The statement LogicChecks as the machine code sees it.
-/
namespace Go.Abs.A
open Go Go.Abs
set_option maxRecDepth 8000
attribute [local irreducible] callN runC evalOp

theorem awake_ok : callN T 5000 12 [] [] = some (.bool true, []) := by kernel_rfl
def wrapN : Nat → Fm → Fm
  | 0, f => f
  | i + 1, f => .mk 4 0 [wrapN i f]
theorem wrapN_fits {f : Fm} {d : Nat} (h : fits d f) : ∀ i, fits (d + i) (wrapN i f)
  | 0 => h
  | i + 1 => ⟨by simp [wrapN, Fm.kids], fun k hk => by
    simp only [wrapN, Fm.kids, List.mem_singleton] at hk
    subst hk
    exact wrapN_fits h i⟩
theorem eF_wrap (i : Nat) (f : Fm) : eF (wrapN (i + 1) f) = [.int .i64 4, .int .i64 0, .sl [eF (wrapN i f)] none] := by
  simp [eF, wrapN, Fm.op, Fm.n, Fm.kids, eFs_map]
def mask (x : Int) : Int := IntKind.wrap IntKind.i64 ↑(BitVec.ofInt (IntKind.bits IntKind.i64) x &&& BitVec.ofInt (IntKind.bits IntKind.i64) 1023).toNat
theorem mask_le (x : Int) : 0 ≤ mask x ∧ mask x ≤ 1023 := by
  have h : (BitVec.ofInt (IntKind.bits IntKind.i64) x &&& BitVec.ofInt (IntKind.bits IntKind.i64) 1023).toNat ≤ 1023 := by
    rw [BitVec.toNat_and]
    exact Nat.and_le_right
  unfold mask
  rw [wrap_eq rfl (by omega) (by omega)]
  omega
def f3 (f : Fm) (deep i : Int) (c : List D) : Fr := Fr.mk ([.agg (eF f), .int .i64 deep, .lptr 2 0, .junk, .bool false, .junk, .junk, .lptr 7 0, .int .i64 i] ++ List.replicate 36 .junk) ((bx 45 2 (eF f)).set 7 (some c)) []
theorem lawChecks_ok (f : Fm) (deep : Int) : ∃ σ, callN T 5001 3 [.agg (eF f), .int .i64 deep] [] = some (.bool true, σ) := by
  refine ⟨[], ?_⟩
  refine call_of (m := m3) rfl rfl (by decide) (k_start ?_)
  unfold m3
  have hb := bounded_ok 41 f 0 5000 [] rfl (by omega) (by omega)
  by_cases h1 : boundedR 41 f = true
  · rw [h1] at hb
    have hfit := boundedR_fits h1
    have hw := weight_ok 41 f 5000 [] hfit (by omega) (by omega)
    by_cases h2 : weightR 41 f > 500
    · refine k_seq ?_
      refine rgf (D.lptr (2 : Nat) (0 : Nat)) ([]) ?_
      refine rv (D.bool false) ?_
      refine k_done (k_skip_seq (k_seq ?_))
      refine runs_call ([]) (by kernel_rfl) (by kernel_rfl) (by kernel_rfl) (by kernel_rfl) (awake_ok) (by kernel_rfl) ?_
      refine ra0 (D.bool true) ?_
      refine k_done (k_skip_seq (k_seq (k_seq ?_)))
      refine rv (D.bool true) ?_
      refine rv (D.bool false) ?_
      refine k_done (k_skip_seq (kcf (k_skip_seq (k_seq ?_))))
      refine rv (D.agg [D.int IntKind.i64 (Fm.op f), D.int IntKind.i64 (Fm.n f), D.sl (eFs (Fm.kids f)) none]) ?_
      refine runs_call ([D.agg [D.int IntKind.i64 (Fm.op f), D.int IntKind.i64 (Fm.n f), D.sl (eFs (Fm.kids f)) none], D.int IntKind.i64 (0 : Int)]) (by kernel_rfl) (by kernel_rfl) (by kernel_rfl) (by kernel_rfl) (hb) (by kernel_rfl) ?_
      refine ra0 (D.bool true) ?_
      refine k_done (k_skip_seq (k_seq (k_seq ?_)))
      refine rv (D.bool true) ?_
      refine rv (D.bool false) ?_
      refine rv (D.bool false) ?_
      refine rv (D.agg [D.int IntKind.i64 (Fm.op f), D.int IntKind.i64 (Fm.n f), D.sl (eFs (Fm.kids f)) none]) ?_
      refine runs_call ([D.agg [D.int IntKind.i64 (Fm.op f), D.int IntKind.i64 (Fm.n f), D.sl (eFs (Fm.kids f)) none]]) (by kernel_rfl) (by kernel_rfl) (by kernel_rfl) (by kernel_rfl) (hw) (by kernel_rfl) ?_
      refine rv (D.bool (decide (weightR (41 : Nat) f > (500 : Int)))) ?_
      refine rv (D.bool (decide (weightR (41 : Nat) f > (500 : Int)))) ?_
      refine k_done (k_skip_seq ?_)
      refine rkn 20 (decide (weightR (41 : Nat) f > (500 : Int))) true (decide_eq_true (by assumption)) ?_
      refine kct (k_seq ?_)
      refine rv (D.bool true) ?_
      refine k_done (k_skip_seq (k_ret ?_))
      exact ⟨.inr rfl, by kernel_rfl, by kernel_rfl⟩
    · refine k_seq ?_
      refine rgf (D.lptr (2 : Nat) (0 : Nat)) ([]) ?_
      refine rv (D.bool false) ?_
      refine k_done (k_skip_seq (k_seq ?_))
      refine runs_call ([]) (by kernel_rfl) (by kernel_rfl) (by kernel_rfl) (by kernel_rfl) (awake_ok) (by kernel_rfl) ?_
      refine ra0 (D.bool true) ?_
      refine k_done (k_skip_seq (k_seq (k_seq ?_)))
      refine rv (D.bool true) ?_
      refine rv (D.bool false) ?_
      refine k_done (k_skip_seq (kcf (k_skip_seq (k_seq ?_))))
      refine rv (D.agg [D.int IntKind.i64 (Fm.op f), D.int IntKind.i64 (Fm.n f), D.sl (eFs (Fm.kids f)) none]) ?_
      refine runs_call ([D.agg [D.int IntKind.i64 (Fm.op f), D.int IntKind.i64 (Fm.n f), D.sl (eFs (Fm.kids f)) none], D.int IntKind.i64 (0 : Int)]) (by kernel_rfl) (by kernel_rfl) (by kernel_rfl) (by kernel_rfl) (hb) (by kernel_rfl) ?_
      refine ra0 (D.bool true) ?_
      refine k_done (k_skip_seq (k_seq (k_seq ?_)))
      refine rv (D.bool true) ?_
      refine rv (D.bool false) ?_
      refine rv (D.bool false) ?_
      refine rv (D.agg [D.int IntKind.i64 (Fm.op f), D.int IntKind.i64 (Fm.n f), D.sl (eFs (Fm.kids f)) none]) ?_
      refine runs_call ([D.agg [D.int IntKind.i64 (Fm.op f), D.int IntKind.i64 (Fm.n f), D.sl (eFs (Fm.kids f)) none]]) (by kernel_rfl) (by kernel_rfl) (by kernel_rfl) (by kernel_rfl) (hw) (by kernel_rfl) ?_
      refine rv (D.bool (decide (weightR (41 : Nat) f > (500 : Int)))) ?_
      refine rv (D.bool (decide (weightR (41 : Nat) f > (500 : Int)))) ?_
      refine k_done (k_skip_seq ?_)
      refine rkn 20 (decide (weightR (41 : Nat) f > (500 : Int))) false (decide_eq_false (by assumption)) ?_
      refine kcf (k_skip_seq (k_seq ?_))
      refine rv (D.agg [D.int IntKind.i64 (Fm.op f), D.int IntKind.i64 (Fm.n f), D.sl (eFs (Fm.kids f)) none]) ?_
      refine rgf (D.lptr (7 : Nat) (0 : Nat)) ([]) ?_
      refine rgf (D.junk) ([]) ?_
      refine k_done (k_skip_seq (k_seq (k_seq ?_)))
      refine rv (D.int IntKind.i64 (0 : Int)) ?_
      refine k_done (k_skip_seq (k_block ?_))
      refine k_loop (fun i : Nat => f3 f deep i (eF (wrapN i f))) (fun _ => []) (fun i => (i : Int) ≤ mask deep) (fun i => (mask deep).toNat - i) 0 (by kernel_rfl) rfl (by have := mask_le deep; simp; omega) (by intro s hs; have := mask_le deep; omega) ?_
      intro i hi
      have hm := mask_le deep
      have he := eF_wrap i f
      have hwf := wrapN_fits hfit i
      by_cases hlt : (i : Int) < mask deep
      · have hlt' : (i : Int) < IntKind.wrap IntKind.i64 ↑(BitVec.ofInt (IntKind.bits IntKind.i64) deep &&& BitVec.ofInt (IntKind.bits IntKind.i64) 1023).toNat := hlt
        generalize wrapN i f = g at *
        refine k_seq (k_seq ?_)
        refine rv (D.int IntKind.i64 (↑i : Int)) ?_
        refine rv (D.int IntKind.i64 deep) ?_
        refine rv (D.int IntKind.i64 (IntKind.wrap IntKind.i64 (↑(BitVec.toNat (BitVec.ofInt (IntKind.bits IntKind.i64) deep &&& BitVec.ofInt (IntKind.bits IntKind.i64) (1023 : Int))) : Int))) ?_
        refine rv (D.bool (decide ((↑i : Int) < IntKind.wrap IntKind.i64 (↑(BitVec.toNat (BitVec.ofInt (IntKind.bits IntKind.i64) deep &&& BitVec.ofInt (IntKind.bits IntKind.i64) (1023 : Int))) : Int)))) ?_
        refine k_done (k_skip_seq ?_)
        refine rkn 25 (decide ((↑i : Int) < IntKind.wrap IntKind.i64 (↑(BitVec.toNat (BitVec.ofInt (IntKind.bits IntKind.i64) deep &&& BitVec.ofInt (IntKind.bits IntKind.i64) (1023 : Int))) : Int))) true (decide_eq_true (by assumption)) ?_
        refine kct (k_skip_seq (k_seq (k_block ?_)))
        refine rv (D.agg [D.int IntKind.i64 (Fm.op g), D.int IntKind.i64 (Fm.n g), D.sl (eFs (Fm.kids g)) none]) ?_
        refine rv (D.sl [[D.int IntKind.i64 (Fm.op g), D.int IntKind.i64 (Fm.n g), D.sl (eFs (Fm.kids g)) none]] (some (24 : Nat))) ?_
        refine rv (D.agg [D.int IntKind.i64 (4 : Int), D.int IntKind.i64 (0 : Int), D.sl [[D.int IntKind.i64 (Fm.op g), D.int IntKind.i64 (Fm.n g), D.sl (eFs (Fm.kids g)) none]] none]) ?_
        refine rgf (D.junk) ([]) ?_
        refine k_done (k_skip_block (k_skip_seq ?_))
        refine rv (D.int IntKind.i64 (↑i : Int)) ?_
        refine rve (D.int IntKind.i64 (IntKind.wrap IntKind.i64 ((↑i : Int) + (1 : Int)))) (.int IntKind.i64 ((i + 1 : Nat) : Int)) (congrArg (D.int IntKind.i64) (show IntKind.wrap IntKind.i64 ((↑i : Int) + (1 : Int)) = ((i + 1 : Nat) : Int) from wrap_eq (by omega) (by omega) (by omega))) ?_
        refine ra0 (D.int IntKind.i64 (↑(i + (1 : Nat)) : Int)) ?_
        refine k_done (k_skip_back ?_)
        exact ⟨i + 1, by omega, by omega, by rw [he]; kernel_rfl, rfl⟩
      · have hlt' : ¬ (i : Int) < IntKind.wrap IntKind.i64 ↑(BitVec.ofInt (IntKind.bits IntKind.i64) deep &&& BitVec.ofInt (IntKind.bits IntKind.i64) 1023).toNat := hlt
        have hwf' := fits_mono hwf (show 41 + i ≤ 1064 by omega)
        generalize wrapN i f = g at *
        have k1 := check_ok 41 f 4999 [] hfit (by omega) (by omega)
        have k2 := model_ok 41 f 5000 [] hfit (by omega)
        have k3 := refCheck_ok 41 f 4999 [] hfit (by omega) (by omega)
        have k4 := check_ok 1064 g 4999 [] hwf' (by omega) (by omega)
        have k5 := model_ok 1064 g 5000 [] hwf' (by omega)
        have k6 := refCheck_ok 1064 g 4999 [] hwf' (by omega) (by omega)
        refine k_seq (k_seq ?_)
        refine rv (D.int IntKind.i64 (↑i : Int)) ?_
        refine rv (D.int IntKind.i64 deep) ?_
        refine rv (D.int IntKind.i64 (IntKind.wrap IntKind.i64 (↑(BitVec.toNat (BitVec.ofInt (IntKind.bits IntKind.i64) deep &&& BitVec.ofInt (IntKind.bits IntKind.i64) (1023 : Int))) : Int))) ?_
        refine rv (D.bool (decide ((↑i : Int) < IntKind.wrap IntKind.i64 (↑(BitVec.toNat (BitVec.ofInt (IntKind.bits IntKind.i64) deep &&& BitVec.ofInt (IntKind.bits IntKind.i64) (1023 : Int))) : Int)))) ?_
        refine k_done (k_skip_seq ?_)
        refine rkn 25 (decide ((↑i : Int) < IntKind.wrap IntKind.i64 (↑(BitVec.toNat (BitVec.ofInt (IntKind.bits IntKind.i64) deep &&& BitVec.ofInt (IntKind.bits IntKind.i64) (1023 : Int))) : Int))) false (decide_eq_false (by assumption)) ?_
        refine kcf (k_exit_seq (k_exit_back (k_exit_hit rfl (k_skip_seq (k_seq ?_)))))
        refine rv (D.agg [D.int IntKind.i64 (Fm.op f), D.int IntKind.i64 (Fm.n f), D.sl (eFs (Fm.kids f)) none]) ?_
        refine runs_callQ ([D.agg [D.int IntKind.i64 (Fm.op f), D.int IntKind.i64 (Fm.n f), D.sl (eFs (Fm.kids f)) none]]) (by kernel_rfl) (by kernel_rfl) (by kernel_rfl) (by kernel_rfl) (k1) (by kernel_rfl) ?_
        refine rv (D.agg [D.int IntKind.i64 (Fm.op f), D.int IntKind.i64 (Fm.n f), D.sl (eFs (Fm.kids f)) none]) ?_
        refine runs_callQ ([D.agg [D.int IntKind.i64 (Fm.op f), D.int IntKind.i64 (Fm.n f), D.sl (eFs (Fm.kids f)) none]]) (by kernel_rfl) (by kernel_rfl) (by kernel_rfl) (by kernel_rfl) (k2) (by kernel_rfl) ?_
        refine runs_callQ ([D.agg [D.int IntKind.i64 (Fm.op f), D.int IntKind.i64 (Fm.n f), D.sl (eFs (Fm.kids f)) none]]) (by kernel_rfl) (by kernel_rfl) (by kernel_rfl) (by kernel_rfl) (k3) (by kernel_rfl) ?_
        refine rv (D.bool (checkF (41 : Nat) f == checkF (41 : Nat) f)) ?_
        refine rv (D.bool (checkF (41 : Nat) f == checkF (41 : Nat) f)) ?_
        refine rkn 37 (checkF (41 : Nat) f == checkF (41 : Nat) f) true (decide_eq_true (by omega)) ?_
        refine rv (D.agg [D.int IntKind.i64 (Fm.op g), D.int IntKind.i64 (Fm.n g), D.sl (eFs (Fm.kids g)) none]) ?_
        refine runs_callQ ([D.agg [D.int IntKind.i64 (Fm.op g), D.int IntKind.i64 (Fm.n g), D.sl (eFs (Fm.kids g)) none]]) (by kernel_rfl) (by kernel_rfl) (by kernel_rfl) (by kernel_rfl) (k4) (by kernel_rfl) ?_
        refine rv (D.agg [D.int IntKind.i64 (Fm.op g), D.int IntKind.i64 (Fm.n g), D.sl (eFs (Fm.kids g)) none]) ?_
        refine runs_callQ ([D.agg [D.int IntKind.i64 (Fm.op g), D.int IntKind.i64 (Fm.n g), D.sl (eFs (Fm.kids g)) none]]) (by kernel_rfl) (by kernel_rfl) (by kernel_rfl) (by kernel_rfl) (k5) (by kernel_rfl) ?_
        refine runs_callQ ([D.agg [D.int IntKind.i64 (Fm.op g), D.int IntKind.i64 (Fm.n g), D.sl (eFs (Fm.kids g)) none]]) (by kernel_rfl) (by kernel_rfl) (by kernel_rfl) (by kernel_rfl) (k6) (by kernel_rfl) ?_
        refine rv (D.bool (checkF (1064 : Nat) g == checkF (1064 : Nat) g)) ?_
        refine rv (D.bool (checkF (1064 : Nat) g == checkF (1064 : Nat) g)) ?_
        refine ra0 (D.bool (checkF (1064 : Nat) g == checkF (1064 : Nat) g)) ?_
        refine k_done (k_skip_seq (k_ret ?_))
        refine ⟨.inr rfl, by kernel_rfl, ?_⟩
        have : (checkF 1064 g == checkF 1064 g) = true := by simp
        rw [← this]
        show _ = _
        kernel_rfl
  · have h1' : boundedR 41 f = false := by simpa using h1
    rw [h1'] at hb
    refine k_seq ?_
    refine rgf (D.lptr (2 : Nat) (0 : Nat)) ([]) ?_
    refine rv (D.bool false) ?_
    refine k_done (k_skip_seq (k_seq ?_))
    refine runs_call ([]) (by kernel_rfl) (by kernel_rfl) (by kernel_rfl) (by kernel_rfl) (awake_ok) (by kernel_rfl) ?_
    refine ra0 (D.bool true) ?_
    refine k_done (k_skip_seq (k_seq (k_seq ?_)))
    refine rv (D.bool true) ?_
    refine rv (D.bool false) ?_
    refine k_done (k_skip_seq (kcf (k_skip_seq (k_seq ?_))))
    refine rv (D.agg [D.int IntKind.i64 (Fm.op f), D.int IntKind.i64 (Fm.n f), D.sl (eFs (Fm.kids f)) none]) ?_
    refine runs_call ([D.agg [D.int IntKind.i64 (Fm.op f), D.int IntKind.i64 (Fm.n f), D.sl (eFs (Fm.kids f)) none], D.int IntKind.i64 (0 : Int)]) (by kernel_rfl) (by kernel_rfl) (by kernel_rfl) (by kernel_rfl) (hb) (by kernel_rfl) ?_
    refine ra0 (D.bool false) ?_
    refine k_done (k_skip_seq (k_seq (k_seq ?_)))
    refine rv (D.bool false) ?_
    refine rv (D.bool true) ?_
    refine rv (D.bool true) ?_
    refine rno (rno (rno ?_))
    refine rv (D.bool true) ?_
    refine k_done (k_skip_seq (kct (k_seq ?_)))
    refine rv (D.bool true) ?_
    refine k_done (k_skip_seq (k_ret ?_))
    exact ⟨.inr rfl, by kernel_rfl, by kernel_rfl⟩
end Go.Abs.A
