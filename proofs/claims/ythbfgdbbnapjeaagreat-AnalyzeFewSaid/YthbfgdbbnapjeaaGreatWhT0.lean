/-
  A part of AnalyzeFew's proof.
-/
import Derived.Test.YthbfgdbbnapjeaaGreatWhG
set_option linter.unusedVariables false
set_option linter.unusedSimpArgs false
namespace Go.Abs.W
open Go Go.Abs
set_option maxRecDepth 100000
def polY : Pol := ⟨[121], true, scp0, scp0, scp0, []⟩
def polZ : Pol := ⟨[122], false, scp0, scp0, scp0, []⟩
def polX : Pol := ⟨[120], true, scp0, scp0, scp0, [.bool true :: exprA 1 (valA 1) [] []]⟩
def tk3 : Fm := .mk 5 0 [.mk 1 0 [], .mk 1 0 [], .mk 1 0 []]
def tkN : Fm := .mk 5 0 [.mk 1 0 [], .mk 1 0 [], .mk 1 0 [], .mk 2 0 []]
theorem run_d {n f : Nat} {args : List D} {d : D} (h : (callNK T n f args []).map (·.1) = some d) : ∃ σ, callN T n f args [] = some (d, σ) := by
 rw [Option.map_eq_some_iff] at h
 obtain ⟨⟨d', σ⟩, h1, h2⟩ := h
 simp only at h2
 subst h2
 exact ⟨σ, callN_of_fast h1⟩
abbrev ofArgs (pl : List (List D)) : List D := [.agg [.sl sch1 none, .sl schA2 none], .agg [.str [85], .str [118], .str [85]], .sl pl none]
abbrev ofAns (tk : List Fm) : D := .tup [.agg [.sl (eFs tk) none, .sl [] none, .int .i64 5, .int .i64 0, .sl [] none], .int .i64 0]
theorem of_b : ∃ σ, callN T 39995 31 (ofArgs (ePs [polY, polZ, polY, polZ])) [] = some (ofAns [tk3, tk3, tk3, tk3], σ) := run_d kr
theorem of_d : ∃ σ, callN T 39995 31 (ofArgs (ePs [polY, polX])) [] = some (ofAns [tk3, tkN], σ) := run_d kr
theorem of_e : ∃ σ, callN T 39994 31 (ofArgs (ePs [polY, polZ, polZ])) [] = some (ofAns [tk3, tk3, tk3], σ) := run_d kr
theorem one_b : OneEnv 39996 sch1 schA2 [85] [118] [85] := run_d kr
theorem one_e : OneEnv 39995 sch1 schA2 [85] [118] [85] := run_d kr
theorem ev_b (t : List Bool) : evalR 12 (.mk 5 0 [differF [polY, polZ] [polY, polZ] [tk3, tk3, tk3, tk3], ax0]) t = false := by kernel_rfl
theorem ev_d (t : List Bool) : evalR 12 (.mk 5 0 [differF [polY] [polX] [tk3, tkN], ax0]) t = true := by kernel_rfl
theorem ev_e (t : List Bool) : evalR 12 (.mk 5 0 [differF [polY, polZ] [polZ] [tk3, tk3, tk3], ax0]) t = false := by kernel_rfl
theorem pl_b : Plain 11 (.mk 5 0 [differF [polY, polZ] [polY, polZ] [tk3, tk3, tk3, tk3], ax0]) 0 :=
 ⟨by simp [fits, differF, allowF, someF, pickF, polY, polZ, tk3, Fm.kids_mk], kr, by simp [lowF, lowL, differF, allowF, someF, pickF, polY, polZ, tk3], by simp [nodes, nodesL, differF, allowF, someF, pickF, polY, polZ, tk3]⟩
theorem pl_d : Plain 11 (.mk 5 0 [differF [polY] [polX] [tk3, tkN], ax0]) 0 :=
 ⟨by simp [fits, differF, allowF, someF, pickF, polY, polX, tk3, tkN, Fm.kids_mk], kr, by simp [lowF, lowL, differF, allowF, someF, pickF, polY, polX, tk3, tkN], by simp [nodes, nodesL, differF, allowF, someF, pickF, polY, polX, tk3, tkN]⟩
theorem pl_e : Plain 11 (.mk 5 0 [differF [polY, polZ] [polZ] [tk3, tk3, tk3], ax0]) 0 :=
 ⟨by simp [fits, differF, allowF, someF, pickF, polY, polZ, tk3, Fm.kids_mk], kr, by simp [lowF, lowL, differF, allowF, someF, pickF, polY, polZ, tk3], by simp [nodes, nodesL, differF, allowF, someF, pickF, polY, polZ, tk3]⟩
end Go.Abs.W
