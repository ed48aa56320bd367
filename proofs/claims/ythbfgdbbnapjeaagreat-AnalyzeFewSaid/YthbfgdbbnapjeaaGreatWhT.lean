/-
  A part of AnalyzeFew's proof.
-/
import Derived.Test.YthbfgdbbnapjeaaGreatWhT1
import Derived.Test.YthbfgdbbnapjeaaGreatWhT2
import Derived.Test.YthbfgdbbnapjeaaGreatWhMa
set_option linter.unusedVariables false
set_option linter.unusedSimpArgs false
namespace Go.Abs.W
open Go Go.Abs
set_option maxRecDepth 100000
theorem shows_a : Shows 39995 sch1 schA2 [] [85] [118] [85] := by
 intro tr _
 obtain ⟨rm, σ, h1, h2⟩ := model_a tr
 exact ⟨rm, σ, [85], [120, 120], [65, 99, 116, 105, 111, 110], [118], [85], [120, 120, 120], 6, 0, false, [], [], [], _, _, _, h1, h2⟩
theorem equiv_b : ∃ σ, callN T 39998 7 [.agg [.sl sch1 none, .sl schA2 none], .sl (ePs [polY, polZ]) none, .sl (ePs [polY, polZ]) none, .int .i64 9] [] = some (eqYes, σ) := by
 obtain ⟨r, σ, h1, h2⟩ := equiv_says (n := 39995) sch1 schA2 [] [85] [118] [85] [polY, polZ] [polY, polZ] none none 9 [tk3, tk3, tk3, tk3] ax0 (d := 11) rfl (by decide) pl_b om om (by decide) om one_b of_b (fun ⟨t, ht⟩ => by rw [ev_b t] at ht; cases ht)
 rcases h2 with ⟨_, t, ht⟩ | ⟨h2, _⟩
 ·rw [ev_b t] at ht
  cases ht
 ·subst h2
  exact ⟨σ, h1⟩
theorem equiv_d : ∃ r σ, isYes 2 r ∧ callN T 39998 7 [.agg [.sl sch1 none, .sl schA2 none], .sl (ePs [polY]) none, .sl (ePs [polX]) none, .int .i64 9] [] = some (r, σ) := by
 obtain ⟨r, σ, h1, h2⟩ := equiv_says (n := 39995) sch1 schA2 [] [85] [118] [85] [polY] [polX] none none 9 [tk3, tkN] ax0 (d := 11) rfl (by decide) pl_d om om (by decide) om one_b of_d (fun _ => shows_a)
 rcases h2 with ⟨h2, _⟩ | ⟨_, h2⟩
 ·exact ⟨r, σ, h2, h1⟩
 ·have := h2 []
  rw [ev_d []] at this
  cases this
theorem equiv_e : ∃ σ, callN T 39997 7 [.agg [.sl sch1 none, .sl schA2 none], .sl (ePs [polY, polZ]) none, .sl (ePs [polZ]) none, .int .i64 9] [] = some (eqYes, σ) := by
 obtain ⟨r, σ, h1, h2⟩ := equiv_says (n := 39994) sch1 schA2 [] [85] [118] [85] [polY, polZ] [polZ] none none 9 [tk3, tk3, tk3] ax0 (d := 11) rfl (by decide) pl_e om om (by decide) om one_e of_e (fun ⟨t, ht⟩ => by rw [ev_e t] at ht; cases ht)
 rcases h2 with ⟨_, t, ht⟩ | ⟨h2, _⟩
 ·rw [ev_e t] at ht
  cases ht
 ·subst h2
  exact ⟨σ, h1⟩
theorem shadow_a : ∃ σ, callN T 39998 10 [.agg [.sl sch1 none, .sl schA2 none], .sl (ePs [polY, polZ]) none, .str [121], .int .i64 9] [] = some (eqYes, σ) := by
 obtain ⟨σe, he⟩ := equiv_e
 refine call_overs (m := m10) [(7, [.agg [.sl sch1 none, .sl schA2 none], .sl (ePs [polY, polZ]) none, .sl (ePs [polZ]) none, .int .i64 9], (eqYes, σe))] rfl rfl (by decide) (fun e h => ?_) kr
 simp only [List.mem_singleton] at h
 subst h
 exact he
theorem awake_ok : ∃ σ, callN T 39999 4 [] [] = some (.bool true, σ) := by
 obtain ⟨σ1, h1⟩ := reach_a
 obtain ⟨σ2, h2⟩ := equiv_b
 obtain ⟨σ3, h3⟩ := confl_a
 obtain ⟨r, σ4, ⟨r1, r2, r3, r4, r5, r6, i1, i2, bb, r7, r8, r9, it, nm, so, rfl⟩, h4⟩ := equiv_d
 obtain ⟨σ5, h5⟩ := shadow_a
 refine call_overs (m := m4) [(9, [.agg [.sl sch1 none, .sl schA2 none], .sl (ePs [polX]) none, .str [120], .int .i64 9], (.agg noR, σ1)),
  (7, [.agg [.sl sch1 none, .sl schA2 none], .sl (ePs [polY, polZ]) none, .sl (ePs [polY, polZ]) none, .int .i64 9], (eqYes, σ2)),
  (8, [.agg [.sl sch1 none, .sl schA2 none], .sl (ePs [polY, polZ]) none, .int .i64 9], (conR, σ3)),
  (7, [.agg [.sl sch1 none, .sl schA2 none], .sl (ePs [polY]) none, .sl (ePs [polX]) none, .int .i64 9], (.agg (yesR 2 r1 r2 r3 r4 r5 r6 i1 i2 bb r7 r8 r9 it nm so), σ4)),
  (10, [.agg [.sl sch1 none, .sl schA2 none], .sl (ePs [polY, polZ]) none, .str [121], .int .i64 9], (eqYes, σ5))] rfl rfl (by decide) (fun e h => ?_) kr
 simp only [List.mem_cons, List.not_mem_nil, or_false] at h
 rcases h with rfl | rfl | rfl | rfl | rfl
 ·exact h1
 ·exact h2
 ·exact h3
 ·exact h4
 ·exact h5
end Go.Abs.W
