import Derived.Test.YtjmhfliaehhijaaKont2
import Derived.Test.YtjmhfliaehhijaaA17
import Derived.Test.YtjmhfliaehhijaaA22
set_option linter.unusedVariables false
set_option linter.unusedSimpArgs false
/-
  The statement ClausesMade as the machine code sees it.
-/
namespace Go.Abs.A
open Go Go.Abs
set_option maxRecDepth 8000
attribute [local irreducible] callN runC evalOp

theorem ofM_eq (d : Nat) (f : Fm) (n : Int) : ofM d f n = ofR d f n := rfl
theorem topM_neg {A atoms : Int} (hA : 0 ≤ A) (h : atoms < 0) : topM A 0 = topM A atoms := by
  unfold topM
  rw [if_neg (by omega), if_neg (by omega)]
theorem lawMade_ok (f : Fm) (atoms : Int) : ∃ σ, callN T 5001 8 [.agg (eF f), .int .i64 atoms] [] = some (.bool true, σ) := by
  have hb := bounded19_ok 41 f 0 5000 [] rfl (by omega) (by omega)
  refine ⟨[], ?_⟩
  by_cases h1 : boundedR 41 f = true
  case neg =>
    refine call_of (m := m8) rfl rfl (by decide) (k_start ?_)
    unfold m8
    have h1' : boundedR 41 f = false := by simpa using h1
    rw [h1'] at hb
    refine k_seq ?_
    refine rgf (D.lptr (2 : Nat) (0 : Nat)) ([]) ?_
    refine rv (D.bool false) ?_
    refine k_done (k_skip_seq (k_seq ?_))
    refine runs_call ([]) (by kernel_rfl) (by kernel_rfl) (by kernel_rfl) (by kernel_rfl) (awake19_ok) (by kernel_rfl) ?_
    refine ra0 (D.bool true) ?_
    refine k_done (k_skip_seq (k_seq (k_seq ?_)))
    refine rv (D.bool true) ?_
    refine rv (D.bool false) ?_
    refine k_done (k_skip_seq (kcf (k_skip_seq (k_seq ?_))))
    refine rv (D.agg [D.int IntKind.i64 (Fm.op f), D.int IntKind.i64 (Fm.n f), D.sl (eFs (Fm.kids f)) none]) ?_
    refine runs_call ([D.agg [D.int IntKind.i64 (Fm.op f), D.int IntKind.i64 (Fm.n f), D.sl (eFs (Fm.kids f)) none], D.int IntKind.i64 (0 : Int)]) (by kernel_rfl) (by kernel_rfl) (by kernel_rfl) (by kernel_rfl) (hb) (by kernel_rfl) ?_
    refine ra0 (D.bool false) ?_
    refine k_done (k_skip_seq (k_seq (k_seq ?_)))
    refine rv (D.bool false) ?_
    refine rv (D.bool true) ?_
    refine rv (D.bool true) ?_
    refine rno (rno (rno ?_))
    refine rv (D.bool true) ?_
    refine rv (D.bool true) ?_
    refine rno (rno (rno (rno ?_)))
    refine rv (D.bool true) ?_
    refine rv (D.bool true) ?_
    refine rno (rno ?_)
    refine rv (D.bool true) ?_
    refine k_done (k_skip_seq (kct (k_seq ?_)))
    refine rv (D.bool true) ?_
    refine k_done (k_skip_seq (k_ret ?_))
    exact ⟨.inr rfl, by kernel_rfl, by kernel_rfl⟩
  rw [h1] at hb
  have hfit := boundedR_fits h1
  have hw := weight19_ok 41 f 5000 [] hfit (by omega) (by omega)
  have k2 := model19_ok 41 f 5000 [] hfit (by omega)
  have k3 := refCheck_ok 41 f 4999 [] hfit (by omega) (by omega)
  by_cases h2 : weightR 41 f > 300
  · refine call_of (m := m8) rfl rfl (by decide) (k_start ?_)
    unfold m8
    refine k_seq ?_
    refine rgf (D.lptr (2 : Nat) (0 : Nat)) ([]) ?_
    refine rv (D.bool false) ?_
    refine k_done (k_skip_seq (k_seq ?_))
    refine runs_call ([]) (by kernel_rfl) (by kernel_rfl) (by kernel_rfl) (by kernel_rfl) (awake19_ok) (by kernel_rfl) ?_
    refine ra0 (D.bool true) ?_
    refine k_done (k_skip_seq (k_seq (k_seq ?_)))
    refine rv (D.bool true) ?_
    refine rv (D.bool false) ?_
    refine k_done (k_skip_seq (kcf (k_skip_seq (k_seq ?_))))
    refine rv (D.agg [D.int IntKind.i64 (Fm.op f), D.int IntKind.i64 (Fm.n f), D.sl (eFs (Fm.kids f)) none]) ?_
    refine runs_call ([D.agg [D.int IntKind.i64 (Fm.op f), D.int IntKind.i64 (Fm.n f), D.sl (eFs (Fm.kids f)) none], D.int IntKind.i64 (0 : Int)]) (by kernel_rfl) (by kernel_rfl) (by kernel_rfl) (by kernel_rfl) (hb) (by kernel_rfl) ?_
    refine ra0 (D.bool true) ?_
    refine k_done (k_skip_seq (k_seq (k_seq ?_)))
    refine rv (D.bool true) ?_
    refine rv (D.bool false) ?_
    refine rv (D.bool false) ?_
    refine rv (D.agg [D.int IntKind.i64 (Fm.op f), D.int IntKind.i64 (Fm.n f), D.sl (eFs (Fm.kids f)) none]) ?_
    refine runs_call ([D.agg [D.int IntKind.i64 (Fm.op f), D.int IntKind.i64 (Fm.n f), D.sl (eFs (Fm.kids f)) none]]) (by kernel_rfl) (by kernel_rfl) (by kernel_rfl) (by kernel_rfl) (hw) (by kernel_rfl) ?_
    refine rv (D.bool (decide (weightR (41 : Nat) f > (300 : Int)))) ?_
    refine rv (D.bool (decide (weightR (41 : Nat) f > (300 : Int)))) ?_
    refine rv (D.bool (decide (weightR (41 : Nat) f > (300 : Int)))) ?_
    refine rkn 23 (decide (weightR (41 : Nat) f > (300 : Int))) true (decide_eq_true (by assumption)) ?_
    refine rno (rno (rno (rno ?_)))
    refine rv (D.bool true) ?_
    refine rv (D.bool true) ?_
    refine rno (rno ?_)
    refine rv (D.bool true) ?_
    refine k_done (k_skip_seq (kct (k_seq ?_)))
    refine rv (D.bool true) ?_
    refine k_done (k_skip_seq (k_ret ?_))
    exact ⟨.inr rfl, by kernel_rfl, by kernel_rfl⟩
  by_cases h3 : checkF 41 f = 0
  case neg =>
    refine call_of (m := m8) rfl rfl (by decide) (k_start ?_)
    unfold m8
    refine k_seq ?_
    refine rgf (D.lptr (2 : Nat) (0 : Nat)) ([]) ?_
    refine rv (D.bool false) ?_
    refine k_done (k_skip_seq (k_seq ?_))
    refine runs_call ([]) (by kernel_rfl) (by kernel_rfl) (by kernel_rfl) (by kernel_rfl) (awake19_ok) (by kernel_rfl) ?_
    refine ra0 (D.bool true) ?_
    refine k_done (k_skip_seq (k_seq (k_seq ?_)))
    refine rv (D.bool true) ?_
    refine rv (D.bool false) ?_
    refine k_done (k_skip_seq (kcf (k_skip_seq (k_seq ?_))))
    refine rv (D.agg [D.int IntKind.i64 (Fm.op f), D.int IntKind.i64 (Fm.n f), D.sl (eFs (Fm.kids f)) none]) ?_
    refine runs_call ([D.agg [D.int IntKind.i64 (Fm.op f), D.int IntKind.i64 (Fm.n f), D.sl (eFs (Fm.kids f)) none], D.int IntKind.i64 (0 : Int)]) (by kernel_rfl) (by kernel_rfl) (by kernel_rfl) (by kernel_rfl) (hb) (by kernel_rfl) ?_
    refine ra0 (D.bool true) ?_
    refine k_done (k_skip_seq (k_seq (k_seq ?_)))
    refine rv (D.bool true) ?_
    refine rv (D.bool false) ?_
    refine rv (D.bool false) ?_
    refine rv (D.agg [D.int IntKind.i64 (Fm.op f), D.int IntKind.i64 (Fm.n f), D.sl (eFs (Fm.kids f)) none]) ?_
    refine runs_call ([D.agg [D.int IntKind.i64 (Fm.op f), D.int IntKind.i64 (Fm.n f), D.sl (eFs (Fm.kids f)) none]]) (by kernel_rfl) (by kernel_rfl) (by kernel_rfl) (by kernel_rfl) (hw) (by kernel_rfl) ?_
    refine rv (D.bool (decide (weightR (41 : Nat) f > (300 : Int)))) ?_
    refine rv (D.bool (decide (weightR (41 : Nat) f > (300 : Int)))) ?_
    refine rv (D.bool (decide (weightR (41 : Nat) f > (300 : Int)))) ?_
    refine rkn 23 (decide (weightR (41 : Nat) f > (300 : Int))) false (decide_eq_false (by assumption)) ?_
    refine rv (D.agg [D.int IntKind.i64 (Fm.op f), D.int IntKind.i64 (Fm.n f), D.sl (eFs (Fm.kids f)) none]) ?_
    refine runs_call ([D.agg [D.int IntKind.i64 (Fm.op f), D.int IntKind.i64 (Fm.n f), D.sl (eFs (Fm.kids f)) none]]) (by kernel_rfl) (by kernel_rfl) (by kernel_rfl) (by kernel_rfl) (k2) (by kernel_rfl) ?_
    refine runs_call ([D.agg [D.int IntKind.i64 (Fm.op f), D.int IntKind.i64 (Fm.n f), D.sl (eFs (Fm.kids f)) none]]) (by kernel_rfl) (by kernel_rfl) (by kernel_rfl) (by kernel_rfl) (k3) (by kernel_rfl) ?_
    refine rv (D.bool (checkF (41 : Nat) f != (0 : Int))) ?_
    refine rv (D.bool (checkF (41 : Nat) f != (0 : Int))) ?_
    refine rv (D.bool (checkF (41 : Nat) f != (0 : Int))) ?_
    refine rkn 29 (checkF (41 : Nat) f != (0 : Int)) true (bne_iff_ne.2 (by assumption)) ?_
    refine rno (rno ?_)
    refine rv (D.bool true) ?_
    refine k_done (k_skip_seq (kct (k_seq ?_)))
    refine rv (D.bool true) ?_
    refine k_done (k_skip_seq (k_ret ?_))
    exact ⟨.inr rfl, by kernel_rfl, by kernel_rfl⟩
  have hmay := check0 h3
  rw [h3] at k3
  by_cases h4 : atoms > 2000
  · refine call_of (m := m8) rfl rfl (by decide) (k_start ?_)
    unfold m8
    refine k_seq ?_
    refine rgf (D.lptr (2 : Nat) (0 : Nat)) ([]) ?_
    refine rv (D.bool false) ?_
    refine k_done (k_skip_seq (k_seq ?_))
    refine runs_call ([]) (by kernel_rfl) (by kernel_rfl) (by kernel_rfl) (by kernel_rfl) (awake19_ok) (by kernel_rfl) ?_
    refine ra0 (D.bool true) ?_
    refine k_done (k_skip_seq (k_seq (k_seq ?_)))
    refine rv (D.bool true) ?_
    refine rv (D.bool false) ?_
    refine k_done (k_skip_seq (kcf (k_skip_seq (k_seq ?_))))
    refine rv (D.agg [D.int IntKind.i64 (Fm.op f), D.int IntKind.i64 (Fm.n f), D.sl (eFs (Fm.kids f)) none]) ?_
    refine runs_call ([D.agg [D.int IntKind.i64 (Fm.op f), D.int IntKind.i64 (Fm.n f), D.sl (eFs (Fm.kids f)) none], D.int IntKind.i64 (0 : Int)]) (by kernel_rfl) (by kernel_rfl) (by kernel_rfl) (by kernel_rfl) (hb) (by kernel_rfl) ?_
    refine ra0 (D.bool true) ?_
    refine k_done (k_skip_seq (k_seq (k_seq ?_)))
    refine rv (D.bool true) ?_
    refine rv (D.bool false) ?_
    refine rv (D.bool false) ?_
    refine rv (D.agg [D.int IntKind.i64 (Fm.op f), D.int IntKind.i64 (Fm.n f), D.sl (eFs (Fm.kids f)) none]) ?_
    refine runs_call ([D.agg [D.int IntKind.i64 (Fm.op f), D.int IntKind.i64 (Fm.n f), D.sl (eFs (Fm.kids f)) none]]) (by kernel_rfl) (by kernel_rfl) (by kernel_rfl) (by kernel_rfl) (hw) (by kernel_rfl) ?_
    refine rv (D.bool (decide (weightR (41 : Nat) f > (300 : Int)))) ?_
    refine rv (D.bool (decide (weightR (41 : Nat) f > (300 : Int)))) ?_
    refine rv (D.bool (decide (weightR (41 : Nat) f > (300 : Int)))) ?_
    refine rkn 23 (decide (weightR (41 : Nat) f > (300 : Int))) false (decide_eq_false (by assumption)) ?_
    refine rv (D.agg [D.int IntKind.i64 (Fm.op f), D.int IntKind.i64 (Fm.n f), D.sl (eFs (Fm.kids f)) none]) ?_
    refine runs_call ([D.agg [D.int IntKind.i64 (Fm.op f), D.int IntKind.i64 (Fm.n f), D.sl (eFs (Fm.kids f)) none]]) (by kernel_rfl) (by kernel_rfl) (by kernel_rfl) (by kernel_rfl) (k2) (by kernel_rfl) ?_
    refine runs_call ([D.agg [D.int IntKind.i64 (Fm.op f), D.int IntKind.i64 (Fm.n f), D.sl (eFs (Fm.kids f)) none]]) (by kernel_rfl) (by kernel_rfl) (by kernel_rfl) (by kernel_rfl) (k3) (by kernel_rfl) ?_
    refine rv (D.bool false) ?_
    refine rv (D.bool false) ?_
    refine rv (D.bool false) ?_
    refine rv (D.int IntKind.i64 atoms) ?_
    refine rv (D.bool (decide (atoms > (2000 : Int)))) ?_
    refine rv (D.bool (decide (atoms > (2000 : Int)))) ?_
    refine k_done (k_skip_seq ?_)
    refine rkn 32 (decide (atoms > (2000 : Int))) true (decide_eq_true (by assumption)) ?_
    refine kct (k_seq ?_)
    refine rv (D.bool true) ?_
    refine k_done (k_skip_seq (k_ret ?_))
    exact ⟨.inr rfl, by kernel_rfl, by kernel_rfl⟩
  have hnod := weight_nodes 41 f hfit (by omega)
  have hA0 := atoms_pos 40 f
  have hA1 := low_atoms 1000 (by omega) 41 f (may_low 41 f hmay)
  have e5 := ofG_ok 40 f 4999 atoms hfit hmay (by omega) (by omega) (by omega) (by omega)
  have e6 := refOfG_ok 40 f 4999 atoms hfit hmay (by omega) (by omega) (by omega) (by omega)
  have e7 := refOfG_ok 40 f 4999 0 hfit hmay (by omega) (by omega) (by omega) (by omega)
  have htop : atomsR 41 f ≤ topM (atomsR 41 f) atoms ∧ topM (atomsR 41 f) atoms ≤ 2000 := by unfold topM; split <;> omega
  have hok := of_OK (B := atomsR 41 f) hA0 hfit hmay (atoms_low (atomsR 41 f) 41 f hfit (Int.le_refl _)) htop.1
  have hneg : atoms < 0 → topM (atomsR 41 f) 0 = topM (atomsR 41 f) atoms := topM_neg hA0
  rw [ofM_eq] at e5 e6 e7
  simp only [show (40 + 1 : Nat) = 41 from rfl] at e5 e6 e7
  obtain ⟨σ1, e5⟩ := e5
  have hcl := hok.cl
  have hnum := hok.num
  generalize hm : topM (atomsR 41 f) atoms = m at *
  have hs := same_ok 4999 (ofR 41 f m).1 none none [] (by omega) (by omega) (fun c hc => by have := (hcl c hc).1; omega)
  by_cases h5 : atoms < 0
  · rw [hneg h5] at e7
    generalize ofR 41 f m = r at *
    refine call_of (m := m8) rfl rfl (by decide) (k_start ?_)
    unfold m8
    refine k_seq ?_
    refine rgf (D.lptr (2 : Nat) (0 : Nat)) ([]) ?_
    refine rv (D.bool false) ?_
    refine k_done (k_skip_seq (k_seq ?_))
    refine runs_call ([]) (by kernel_rfl) (by kernel_rfl) (by kernel_rfl) (by kernel_rfl) (awake19_ok) (by kernel_rfl) ?_
    refine ra0 (D.bool true) ?_
    refine k_done (k_skip_seq (k_seq (k_seq ?_)))
    refine rv (D.bool true) ?_
    refine rv (D.bool false) ?_
    refine k_done (k_skip_seq (kcf (k_skip_seq (k_seq ?_))))
    refine rv (D.agg [D.int IntKind.i64 (Fm.op f), D.int IntKind.i64 (Fm.n f), D.sl (eFs (Fm.kids f)) none]) ?_
    refine runs_call ([D.agg [D.int IntKind.i64 (Fm.op f), D.int IntKind.i64 (Fm.n f), D.sl (eFs (Fm.kids f)) none], D.int IntKind.i64 (0 : Int)]) (by kernel_rfl) (by kernel_rfl) (by kernel_rfl) (by kernel_rfl) (hb) (by kernel_rfl) ?_
    refine ra0 (D.bool true) ?_
    refine k_done (k_skip_seq (k_seq (k_seq ?_)))
    refine rv (D.bool true) ?_
    refine rv (D.bool false) ?_
    refine rv (D.bool false) ?_
    refine rv (D.agg [D.int IntKind.i64 (Fm.op f), D.int IntKind.i64 (Fm.n f), D.sl (eFs (Fm.kids f)) none]) ?_
    refine runs_call ([D.agg [D.int IntKind.i64 (Fm.op f), D.int IntKind.i64 (Fm.n f), D.sl (eFs (Fm.kids f)) none]]) (by kernel_rfl) (by kernel_rfl) (by kernel_rfl) (by kernel_rfl) (hw) (by kernel_rfl) ?_
    refine rv (D.bool (decide (weightR (41 : Nat) f > (300 : Int)))) ?_
    refine rv (D.bool (decide (weightR (41 : Nat) f > (300 : Int)))) ?_
    refine rv (D.bool (decide (weightR (41 : Nat) f > (300 : Int)))) ?_
    refine rkn 23 (decide (weightR (41 : Nat) f > (300 : Int))) false (decide_eq_false (by assumption)) ?_
    refine rv (D.agg [D.int IntKind.i64 (Fm.op f), D.int IntKind.i64 (Fm.n f), D.sl (eFs (Fm.kids f)) none]) ?_
    refine runs_call ([D.agg [D.int IntKind.i64 (Fm.op f), D.int IntKind.i64 (Fm.n f), D.sl (eFs (Fm.kids f)) none]]) (by kernel_rfl) (by kernel_rfl) (by kernel_rfl) (by kernel_rfl) (k2) (by kernel_rfl) ?_
    refine runs_call ([D.agg [D.int IntKind.i64 (Fm.op f), D.int IntKind.i64 (Fm.n f), D.sl (eFs (Fm.kids f)) none]]) (by kernel_rfl) (by kernel_rfl) (by kernel_rfl) (by kernel_rfl) (k3) (by kernel_rfl) ?_
    refine rv (D.bool false) ?_
    refine rv (D.bool false) ?_
    refine rv (D.bool false) ?_
    refine rv (D.int IntKind.i64 atoms) ?_
    refine rv (D.bool (decide (atoms > (2000 : Int)))) ?_
    refine rv (D.bool (decide (atoms > (2000 : Int)))) ?_
    refine k_done (k_skip_seq ?_)
    refine rkn 32 (decide (atoms > (2000 : Int))) false (decide_eq_false (by assumption)) ?_
    refine kcf (k_skip_seq (k_seq ?_))
    refine rv (D.agg [D.int IntKind.i64 (Fm.op f), D.int IntKind.i64 (Fm.n f), D.sl (eFs (Fm.kids f)) none]) ?_
    refine rv (D.int IntKind.i64 atoms) ?_
    refine runs_call ([D.agg [D.int IntKind.i64 (Fm.op f), D.int IntKind.i64 (Fm.n f), D.sl (eFs (Fm.kids f)) none], D.int IntKind.i64 atoms]) (by kernel_rfl) (by kernel_rfl) (by kernel_rfl) (by kernel_rfl) (e5) (by kernel_rfl) ?_
    refine rv (D.tup [D.sl (rows (Prod.fst r)) none, D.int IntKind.i64 (Prod.snd r)]) ?_
    refine rv (D.sl (rows (Prod.fst r)) none) ?_
    refine rv (D.int IntKind.i64 (Prod.snd r)) ?_
    refine ra0 (D.sl (rows (Prod.fst r)) none) ?_
    refine ra0 (D.int IntKind.i64 (Prod.snd r)) ?_
    refine k_done (k_skip_seq (k_seq ?_))
    refine rv (D.agg [D.int IntKind.i64 (Fm.op f), D.int IntKind.i64 (Fm.n f), D.sl (eFs (Fm.kids f)) none]) ?_
    refine runs_call ([D.agg [D.int IntKind.i64 (Fm.op f), D.int IntKind.i64 (Fm.n f), D.sl (eFs (Fm.kids f)) none]]) (by kernel_rfl) (by kernel_rfl) (by kernel_rfl) (by kernel_rfl) (k2) (by kernel_rfl) ?_
    refine rv (D.int IntKind.i64 atoms) ?_
    refine runs_call ([D.agg [D.int IntKind.i64 (Fm.op f), D.int IntKind.i64 (Fm.n f), D.sl (eFs (Fm.kids f)) none], D.int IntKind.i64 atoms]) (by kernel_rfl) (by kernel_rfl) (by kernel_rfl) (by kernel_rfl) (e6) (by kernel_rfl) ?_
    refine rv (D.tup [D.sl (rows (Prod.fst r)) none, D.int IntKind.i64 (Prod.snd r)]) ?_
    refine rv (D.sl (rows (Prod.fst r)) none) ?_
    refine rv (D.int IntKind.i64 (Prod.snd r)) ?_
    refine ra0 (D.sl (rows (Prod.fst r)) none) ?_
    refine ra0 (D.int IntKind.i64 (Prod.snd r)) ?_
    refine k_done (k_skip_seq (k_seq (k_seq ?_)))
    refine rv (D.int IntKind.i64 atoms) ?_
    refine rv (D.bool (decide (atoms < (0 : Int)))) ?_
    refine k_done (k_skip_seq ?_)
    refine rkn 47 (decide (atoms < (0 : Int))) true (decide_eq_true (by assumption)) ?_
    refine kct ?_
    refine rv (D.agg [D.int IntKind.i64 (Fm.op f), D.int IntKind.i64 (Fm.n f), D.sl (eFs (Fm.kids f)) none]) ?_
    refine runs_call ([D.agg [D.int IntKind.i64 (Fm.op f), D.int IntKind.i64 (Fm.n f), D.sl (eFs (Fm.kids f)) none]]) (by kernel_rfl) (by kernel_rfl) (by kernel_rfl) (by kernel_rfl) (k2) (by kernel_rfl) ?_
    refine runs_call ([D.agg [D.int IntKind.i64 (Fm.op f), D.int IntKind.i64 (Fm.n f), D.sl (eFs (Fm.kids f)) none], D.int IntKind.i64 (0 : Int)]) (by kernel_rfl) (by kernel_rfl) (by kernel_rfl) (by kernel_rfl) (e7) (by kernel_rfl) ?_
    refine rv (D.tup [D.sl (rows (Prod.fst r)) none, D.int IntKind.i64 (Prod.snd r)]) ?_
    refine rv (D.sl (rows (Prod.fst r)) none) ?_
    refine rv (D.int IntKind.i64 (Prod.snd r)) ?_
    refine ra0 (D.sl (rows (Prod.fst r)) none) ?_
    refine ra0 (D.int IntKind.i64 (Prod.snd r)) ?_
    refine k_done (k_skip_seq (k_seq ?_))
    refine rv (D.int IntKind.i64 (Prod.snd r)) ?_
    refine rv (D.int IntKind.i64 (Prod.snd r)) ?_
    refine rv (D.bool (Prod.snd r == Prod.snd r)) ?_
    refine rv (D.bool (Prod.snd r == Prod.snd r)) ?_
    refine rkn 57 (Prod.snd r == Prod.snd r) true (decide_eq_true (by omega)) ?_
    refine rv (D.sl (rows (Prod.fst r)) none) ?_
    refine rv (D.sl (rows (Prod.fst r)) none) ?_
    refine runs_call ([D.sl (rows (Prod.fst r)) none, D.sl (rows (Prod.fst r)) none]) (by kernel_rfl) (by kernel_rfl) (by kernel_rfl) (by kernel_rfl) (hs) (by kernel_rfl) ?_
    refine rv (D.bool true) ?_
    refine ra0 (D.bool true) ?_
    refine k_done (k_skip_seq (k_ret ?_))
    exact ⟨.inr rfl, by kernel_rfl, by kernel_rfl⟩
  · generalize ofR 41 f m = r at *
    refine call_of (m := m8) rfl rfl (by decide) (k_start ?_)
    unfold m8
    refine k_seq ?_
    refine rgf (D.lptr (2 : Nat) (0 : Nat)) ([]) ?_
    refine rv (D.bool false) ?_
    refine k_done (k_skip_seq (k_seq ?_))
    refine runs_call ([]) (by kernel_rfl) (by kernel_rfl) (by kernel_rfl) (by kernel_rfl) (awake19_ok) (by kernel_rfl) ?_
    refine ra0 (D.bool true) ?_
    refine k_done (k_skip_seq (k_seq (k_seq ?_)))
    refine rv (D.bool true) ?_
    refine rv (D.bool false) ?_
    refine k_done (k_skip_seq (kcf (k_skip_seq (k_seq ?_))))
    refine rv (D.agg [D.int IntKind.i64 (Fm.op f), D.int IntKind.i64 (Fm.n f), D.sl (eFs (Fm.kids f)) none]) ?_
    refine runs_call ([D.agg [D.int IntKind.i64 (Fm.op f), D.int IntKind.i64 (Fm.n f), D.sl (eFs (Fm.kids f)) none], D.int IntKind.i64 (0 : Int)]) (by kernel_rfl) (by kernel_rfl) (by kernel_rfl) (by kernel_rfl) (hb) (by kernel_rfl) ?_
    refine ra0 (D.bool true) ?_
    refine k_done (k_skip_seq (k_seq (k_seq ?_)))
    refine rv (D.bool true) ?_
    refine rv (D.bool false) ?_
    refine rv (D.bool false) ?_
    refine rv (D.agg [D.int IntKind.i64 (Fm.op f), D.int IntKind.i64 (Fm.n f), D.sl (eFs (Fm.kids f)) none]) ?_
    refine runs_call ([D.agg [D.int IntKind.i64 (Fm.op f), D.int IntKind.i64 (Fm.n f), D.sl (eFs (Fm.kids f)) none]]) (by kernel_rfl) (by kernel_rfl) (by kernel_rfl) (by kernel_rfl) (hw) (by kernel_rfl) ?_
    refine rv (D.bool (decide (weightR (41 : Nat) f > (300 : Int)))) ?_
    refine rv (D.bool (decide (weightR (41 : Nat) f > (300 : Int)))) ?_
    refine rv (D.bool (decide (weightR (41 : Nat) f > (300 : Int)))) ?_
    refine rkn 23 (decide (weightR (41 : Nat) f > (300 : Int))) false (decide_eq_false (by assumption)) ?_
    refine rv (D.agg [D.int IntKind.i64 (Fm.op f), D.int IntKind.i64 (Fm.n f), D.sl (eFs (Fm.kids f)) none]) ?_
    refine runs_call ([D.agg [D.int IntKind.i64 (Fm.op f), D.int IntKind.i64 (Fm.n f), D.sl (eFs (Fm.kids f)) none]]) (by kernel_rfl) (by kernel_rfl) (by kernel_rfl) (by kernel_rfl) (k2) (by kernel_rfl) ?_
    refine runs_call ([D.agg [D.int IntKind.i64 (Fm.op f), D.int IntKind.i64 (Fm.n f), D.sl (eFs (Fm.kids f)) none]]) (by kernel_rfl) (by kernel_rfl) (by kernel_rfl) (by kernel_rfl) (k3) (by kernel_rfl) ?_
    refine rv (D.bool false) ?_
    refine rv (D.bool false) ?_
    refine rv (D.bool false) ?_
    refine rv (D.int IntKind.i64 atoms) ?_
    refine rv (D.bool (decide (atoms > (2000 : Int)))) ?_
    refine rv (D.bool (decide (atoms > (2000 : Int)))) ?_
    refine k_done (k_skip_seq ?_)
    refine rkn 32 (decide (atoms > (2000 : Int))) false (decide_eq_false (by assumption)) ?_
    refine kcf (k_skip_seq (k_seq ?_))
    refine rv (D.agg [D.int IntKind.i64 (Fm.op f), D.int IntKind.i64 (Fm.n f), D.sl (eFs (Fm.kids f)) none]) ?_
    refine rv (D.int IntKind.i64 atoms) ?_
    refine runs_call ([D.agg [D.int IntKind.i64 (Fm.op f), D.int IntKind.i64 (Fm.n f), D.sl (eFs (Fm.kids f)) none], D.int IntKind.i64 atoms]) (by kernel_rfl) (by kernel_rfl) (by kernel_rfl) (by kernel_rfl) (e5) (by kernel_rfl) ?_
    refine rv (D.tup [D.sl (rows (Prod.fst r)) none, D.int IntKind.i64 (Prod.snd r)]) ?_
    refine rv (D.sl (rows (Prod.fst r)) none) ?_
    refine rv (D.int IntKind.i64 (Prod.snd r)) ?_
    refine ra0 (D.sl (rows (Prod.fst r)) none) ?_
    refine ra0 (D.int IntKind.i64 (Prod.snd r)) ?_
    refine k_done (k_skip_seq (k_seq ?_))
    refine rv (D.agg [D.int IntKind.i64 (Fm.op f), D.int IntKind.i64 (Fm.n f), D.sl (eFs (Fm.kids f)) none]) ?_
    refine runs_call ([D.agg [D.int IntKind.i64 (Fm.op f), D.int IntKind.i64 (Fm.n f), D.sl (eFs (Fm.kids f)) none]]) (by kernel_rfl) (by kernel_rfl) (by kernel_rfl) (by kernel_rfl) (k2) (by kernel_rfl) ?_
    refine rv (D.int IntKind.i64 atoms) ?_
    refine runs_call ([D.agg [D.int IntKind.i64 (Fm.op f), D.int IntKind.i64 (Fm.n f), D.sl (eFs (Fm.kids f)) none], D.int IntKind.i64 atoms]) (by kernel_rfl) (by kernel_rfl) (by kernel_rfl) (by kernel_rfl) (e6) (by kernel_rfl) ?_
    refine rv (D.tup [D.sl (rows (Prod.fst r)) none, D.int IntKind.i64 (Prod.snd r)]) ?_
    refine rv (D.sl (rows (Prod.fst r)) none) ?_
    refine rv (D.int IntKind.i64 (Prod.snd r)) ?_
    refine ra0 (D.sl (rows (Prod.fst r)) none) ?_
    refine ra0 (D.int IntKind.i64 (Prod.snd r)) ?_
    refine k_done (k_skip_seq (k_seq (k_seq ?_)))
    refine rv (D.int IntKind.i64 atoms) ?_
    refine rv (D.bool (decide (atoms < (0 : Int)))) ?_
    refine k_done (k_skip_seq ?_)
    refine rkn 47 (decide (atoms < (0 : Int))) false (decide_eq_false (by assumption)) ?_
    refine kcf (k_skip_seq (k_seq ?_))
    refine rv (D.int IntKind.i64 (Prod.snd r)) ?_
    refine rv (D.int IntKind.i64 (Prod.snd r)) ?_
    refine rv (D.bool (Prod.snd r == Prod.snd r)) ?_
    refine rv (D.bool (Prod.snd r == Prod.snd r)) ?_
    refine rkn 57 (Prod.snd r == Prod.snd r) true (decide_eq_true (by omega)) ?_
    refine rv (D.sl (rows (Prod.fst r)) none) ?_
    refine rv (D.sl (rows (Prod.fst r)) none) ?_
    refine runs_call ([D.sl (rows (Prod.fst r)) none, D.sl (rows (Prod.fst r)) none]) (by kernel_rfl) (by kernel_rfl) (by kernel_rfl) (by kernel_rfl) (hs) (by kernel_rfl) ?_
    refine rv (D.bool true) ?_
    refine ra0 (D.bool true) ?_
    refine k_done (k_skip_seq (k_ret ?_))
    exact ⟨.inr rfl, by kernel_rfl, by kernel_rfl⟩
end Go.Abs.A
