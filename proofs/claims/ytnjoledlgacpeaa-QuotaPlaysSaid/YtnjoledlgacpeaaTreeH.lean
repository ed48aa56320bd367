import Derived.Test.YtnjoledlgacpeaaKont2
import Derived.Test.YtnjoledlgacpeaaTreeW
set_option linter.unusedVariables false
set_option linter.unusedSimpArgs false
/-
  QuotaPlays as the machine code sees it.
-/
namespace Go.Abs.C
open Go Go.Abs
set_option maxRecDepth 8000
attribute [local irreducible] callN runC evalOp
theorem awakeN_ok (n : Nat) : ∃ σ, callN T (n + 99) 9 [] [] = some (.bool true, σ) := by
  have h : (callN T (n + 99) 9 [] []).map (·.1) = some (.bool true) := by kernel_rfl
  cases hc : callN T (n + 99) 9 [] [] with
  | none => rw [hc] at h; cases h
  | some p => rw [hc] at h; obtain ⟨r, σ⟩ := p; cases h; exact ⟨σ, rfl⟩
theorem new_ps (n : Nat) : PS n [Go.Abs.Obj.map [], Go.Abs.Obj.map [], Go.Abs.Obj.cells [.map 0, .map 1]] 2 0 1 [] [] 0 :=
  ⟨⟨new_lay [], ⟨.nil, by simp, by simp, by simp⟩, by simp⟩, by simp, by simp, by simp, by simp⟩
theorem lawPlays_ok (n : Nat) (sc : List ActR) (hok : ∀ a ∈ sc, a.n ≤ 9223372036854775807 ∧ a.a.length < n ∧ a.b.length < n) (hn1 : 1000 < n) (hn2 : n ≤ 9223372036854775808) :
    ∃ σ, callN T (n + 22) 3 [.sl (acts sc) none] [] = some (.bool true, σ) := by
  have hnew : callN T (n + 21) 11 [] [] = some (.ptr 2 0, [Go.Abs.Obj.map [], Go.Abs.Obj.map [], Go.Abs.Obj.cells [.map 0, .map 1]]) := new_ok (n + 20) []
  obtain ⟨σw, haw⟩ := awakeN_ok (n - 78)
  rw [show n - 78 + 99 = n + 21 by omega] at haw
  obtain ⟨r, σ', hp, ns', hs', rfl, _⟩ := play_ok n sc hok (new_ps n) (by omega) hn1 hn2
  change callN T (n + 21) 10 [.ptr 2 0, .agg [.sl [] none, .sl [] none], .sl (acts sc) none] _ = _ at hp
  unfold treeD at hp
  refine call_ofE (m := m3) rfl rfl (by decide) (k_start ?_)
  unfold m3
  refine k_seq ?_
  refine rv (D.bool false) ?_
  refine k_done (k_skip_seq (k_seq ?_))
  refine runs_call ([]) (by kernel_rfl) (by kernel_rfl) (by kernel_rfl) (by kernel_rfl) (haw) (by kernel_rfl) ?_
  refine ra0 (D.bool true) ?_
  refine k_done (k_skip_seq (k_seq (k_seq ?_)))
  refine rv (D.bool true) ?_
  refine rv (D.bool false) ?_
  refine k_done (k_skip_seq (kcf (k_skip_seq (k_seq ?_))))
  refine runs_call_fr ([]) (by kernel_rfl) (by kernel_rfl) (by kernel_rfl) (by kernel_rfl) (hnew) (by kernel_rfl) (by kernel_rfl) (hnew) ?_
  refine rv (D.agg [D.nils (81 : Nat), D.nils (83 : Nat)]) ?_
  refine rv (D.sl (acts sc) none) ?_
  refine runs_call_st ([D.ptr (2 : Nat) (0 : Nat), D.agg [D.sl [] none, D.sl [] none], D.sl (acts sc) none]) (by kernel_rfl) (by kernel_rfl) (by kernel_rfl) (by kernel_rfl) (hp) ?_
  refine rv (D.tup [D.agg [D.sl (List.map nW (nodesV ns')) none, D.sl (List.map HeldR.cells (heldV hs')) none], D.bool true]) ?_
  refine rv (D.agg [D.sl (List.map nW (nodesV ns')) none, D.sl (List.map HeldR.cells (heldV hs')) none]) ?_
  refine rv (D.bool true) ?_
  refine rgf (D.lptr (4 : Nat) (0 : Nat)) (σ') ?_
  refine rgf (D.junk) (σ') ?_
  refine ra0 (D.bool true) ?_
  refine k_done (k_skip_seq (k_seq ?_))
  refine rv (D.bool true) ?_
  refine ra0 (D.bool true) ?_
  refine k_done (k_skip_seq (k_ret ?_))
  exact ⟨.inr rfl, by kernel_rfl, σ', by kernel_rfl⟩
end Go.Abs.C
