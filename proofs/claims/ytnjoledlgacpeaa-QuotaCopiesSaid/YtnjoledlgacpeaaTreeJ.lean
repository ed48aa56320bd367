import Derived.Test.YtnjoledlgacpeaaKont2
import Derived.Test.YtnjoledlgacpeaaTreeH
set_option linter.unusedVariables false
set_option linter.unusedSimpArgs false
/-
  QuotaCopies as the machine code sees it.
-/
namespace Go.Abs.C
open Go Go.Abs
set_option maxRecDepth 8000
attribute [local irreducible] callN runC evalOp
set_option maxHeartbeats 2000000
theorem lawCopies_ok (n : Nat) (sc sd : List ActR) (hok : ∀ a ∈ sc, a.n ≤ 9223372036854775807 ∧ a.a.length < n ∧ a.b.length < n) (hok2 : ∀ a ∈ sd, a.n ≤ 9223372036854775807 ∧ a.a.length < n ∧ a.b.length < n) (hn1 : 1000 < n) (hn2 : n ≤ 9223372036854775808) :
    ∃ σ, callN T (n + 22) 7 [.sl (acts sc) none, .sl (acts sd) none] [] = some (.bool true, σ) := by
  have hnew : callN T (n + 21) 11 [] [] = some (.ptr 2 0, [Go.Abs.Obj.map [], Go.Abs.Obj.map [], Go.Abs.Obj.cells [.map 0, .map 1]]) := new_ok (n + 20) []
  obtain ⟨σw, haw⟩ := awakeN_ok (n - 78)
  rw [show n - 78 + 99 = n + 21 by omega] at haw
  obtain ⟨r, σ1, hp, ns1, hs1, rfl, P1, _⟩ := play_ok n sc hok (new_ps n) (by omega) hn1 hn2
  change callN T (n + 21) 10 [.ptr 2 0, .agg [.sl [] none, .sl [] none], .sl (acts sc) none] _ = _ at hp
  have hz1 := add_arg_nil (σ := []) (n + 20) [97] [] 1
  have hz2 := res_arg_nil (σ := []) (n + 20) [97] [98] 1
  have hz3 := rel_nil (σ := []) (n + 20) [97]
  have hz4 := lim_arg_nil (σ := []) (n + 20) [97] 1
  have hz5 := nodes_none (n + 20) []
  have hz6 := live_none (n + 20) []
  have hz7 := copy_none (n + 20) []
  have hc := copy_ok P1.I.L (n + 20)
  have PC := copy_ps P1
  have hs := same_ok (n + 1) PC.I (by omega)
  obtain ⟨r2, σ4, hq, ns2, hs2, rfl, P2, K2, _⟩ := play_ok n sd hok2 (PC.app [Go.Abs.Obj.cells [.map (σ1.length + 1)]]) (by omega) hn1 hn2
  rw [nodesV_copy] at hs hq
  have IT : QInv σ4 2 0 1 ns1 hs1 := by
    refine ⟨Lay.kept ((P1.I.L.append _).append _) K2 (fun o hm hM => ?_), P1.I.p, P1.I.k⟩
    have h1 := mine_near P1.I.L hm
    have h2 := copy_far hM
    omega
  have hs' := same_ok (n + 1) IT (by omega)
  have e21 : n + 1 + 20 = n + 21 := by omega
  rw [e21] at hs hs'
  unfold treeD at hp hs hq hs'
  clear PC P1 P2 K2 IT
  unfold copyS at hs hq hc
  generalize hX : σ1 ++ ([Go.Abs.Obj.map (newL (σ1.length + 2) (csOf ns1)), Go.Abs.Obj.map (heldD hs1)] ++ ((csOf ns1).map (fun p => Go.Abs.Obj.cells p.2.cells) ++ [Go.Abs.Obj.cells [.map σ1.length, .map (σ1.length + 1)]])) = X at hs hq hc
  generalize hoc : σ1.length + 2 + ns1.length = oc at hs hq hc
  refine call_ofE (m := m7) rfl rfl (by decide) (k_start ?_)
  unfold m7
  refine k_seq ?_
  refine rv (D.bool false) ?_
  refine k_done (k_skip_seq (k_seq ?_))
  refine runs_call ([]) (by kernel_rfl) (by kernel_rfl) (by kernel_rfl) (by kernel_rfl) (haw) (by kernel_rfl) ?_
  refine ra0 (D.bool true) ?_
  refine k_done (k_skip_seq (k_seq (k_seq ?_)))
  refine rv (D.bool true) ?_
  refine rv (D.bool false) ?_
  refine k_done (k_skip_seq (kcf (k_skip_seq (k_seq ?_))))
  refine rv (D.nilp) ?_
  refine k_done (k_skip_seq (k_seq (k_seq ?_)))
  refine rv (D.nilp) ?_
  refine runs_call ([D.nilp, D.str [(97 : UInt8)], D.str [], D.int IntKind.i64 (1 : Int)]) (by kernel_rfl) (by kernel_rfl) (by kernel_rfl) (by kernel_rfl) (hz1) (by kernel_rfl) ?_
  refine rv (D.bool false) ?_
  refine rv (D.bool false) ?_
  refine rv (D.nilp) ?_
  refine runs_call ([D.nilp, D.str [(97 : UInt8)], D.str [(98 : UInt8)], D.int IntKind.i64 (1 : Int)]) (by kernel_rfl) (by kernel_rfl) (by kernel_rfl) (by kernel_rfl) (hz2) (by kernel_rfl) ?_
  refine rv (D.bool false) ?_
  refine rv (D.bool false) ?_
  refine rv (D.bool false) ?_
  refine rv (D.nilp) ?_
  refine runs_call ([D.nilp, D.str [(97 : UInt8)]]) (by kernel_rfl) (by kernel_rfl) (by kernel_rfl) (by kernel_rfl) (hz3) (by kernel_rfl) ?_
  refine rv (D.bool false) ?_
  refine rv (D.bool false) ?_
  refine rv (D.bool false) ?_
  refine rv (D.nilp) ?_
  refine runs_call ([D.nilp, D.str [(97 : UInt8)], D.int IntKind.i64 (1 : Int)]) (by kernel_rfl) (by kernel_rfl) (by kernel_rfl) (by kernel_rfl) (hz4) (by kernel_rfl) ?_
  refine rv (D.bool false) ?_
  refine rv (D.bool false) ?_
  refine rv (D.bool false) ?_
  refine rv (D.nilp) ?_
  refine runs_call ([D.nilp]) (by kernel_rfl) (by kernel_rfl) (by kernel_rfl) (by kernel_rfl) (hz5) (by kernel_rfl) ?_
  refine rv (D.int IntKind.i64 (0 : Int)) ?_
  refine rv (D.bool false) ?_
  refine rv (D.bool false) ?_
  refine rv (D.bool false) ?_
  refine rv (D.nilp) ?_
  refine runs_call ([D.nilp]) (by kernel_rfl) (by kernel_rfl) (by kernel_rfl) (by kernel_rfl) (hz6) (by kernel_rfl) ?_
  refine rv (D.int IntKind.i64 (0 : Int)) ?_
  refine rv (D.bool false) ?_
  refine rv (D.bool false) ?_
  refine rv (D.bool false) ?_
  refine rv (D.nilp) ?_
  refine runs_call ([D.nilp]) (by kernel_rfl) (by kernel_rfl) (by kernel_rfl) (by kernel_rfl) (hz7) (by kernel_rfl) ?_
  refine rv (D.bool false) ?_
  refine rv (D.bool false) ?_
  refine k_done (k_skip_seq (kcf (k_skip_seq (k_seq ?_))))
  refine runs_call_fr ([]) (by kernel_rfl) (by kernel_rfl) (by kernel_rfl) (by kernel_rfl) (hnew) (by kernel_rfl) (by kernel_rfl) (hnew) ?_
  refine ra0 (D.ptr (2 : Nat) (0 : Nat)) ?_
  refine k_done (k_skip_seq (k_seq ?_))
  refine rv (D.ptr (2 : Nat) (0 : Nat)) ?_
  refine rv (D.agg [D.nils (81 : Nat), D.nils (83 : Nat)]) ?_
  refine rv (D.sl (acts sc) none) ?_
  refine runs_call_st ([D.ptr (2 : Nat) (0 : Nat), D.agg [D.sl [] none, D.sl [] none], D.sl (acts sc) none]) (by kernel_rfl) (by kernel_rfl) (by kernel_rfl) (by kernel_rfl) (hp) ?_
  refine rv (D.tup [D.agg [D.sl (List.map nW (nodesV ns1)) none, D.sl (List.map HeldR.cells (heldV hs1)) none], D.bool true]) ?_
  refine rv (D.agg [D.sl (List.map nW (nodesV ns1)) none, D.sl (List.map HeldR.cells (heldV hs1)) none]) ?_
  refine rv (D.bool true) ?_
  refine rgf (D.lptr (8 : Nat) (0 : Nat)) (σ1) ?_
  refine rgf (D.junk) (σ1) ?_
  refine ra0 (D.bool true) ?_
  refine k_done (k_skip_seq (k_seq (k_seq ?_)))
  refine rv (D.bool true) ?_
  refine rv (D.bool false) ?_
  refine k_done (k_skip_seq (kcf (k_skip_seq (k_seq ?_))))
  refine rv (D.ptr (2 : Nat) (0 : Nat)) ?_
  refine runs_call_st ([D.ptr (2 : Nat) (0 : Nat)]) (by kernel_rfl) (by kernel_rfl) (by kernel_rfl) (by kernel_rfl) (hc) ?_
  refine ra0 (D.ptr oc (0 : Nat)) ?_
  refine k_done (k_skip_seq (k_seq ?_))
  refine rv (D.ptr oc (0 : Nat)) ?_
  refine rv (D.agg [D.sl (List.map nW (nodesV ns1)) none, D.sl (List.map HeldR.cells (heldV hs1)) none]) ?_
  refine runs_call_st ([D.ptr oc (0 : Nat), D.agg [D.sl (List.map nW (nodesV ns1)) none, D.sl (List.map HeldR.cells (heldV hs1)) none]]) (by kernel_rfl) (by kernel_rfl) (by kernel_rfl) (by kernel_rfl) (hs) ?_
  refine ra0 (D.bool true) ?_
  refine k_done (k_skip_seq (k_seq ?_))
  refine rv (D.ptr oc (0 : Nat)) ?_
  refine rv (D.agg [D.sl (List.map nW (nodesV ns1)) none, D.sl (List.map HeldR.cells (heldV hs1)) none]) ?_
  refine rv (D.sl (acts sd) none) ?_
  refine runs_call_st ([D.ptr oc (0 : Nat), D.agg [D.sl (List.map nW (nodesV ns1)) none, D.sl (List.map HeldR.cells (heldV hs1)) none], D.sl (acts sd) none]) (by kernel_rfl) (by kernel_rfl) (by kernel_rfl) (by kernel_rfl) (hq) ?_
  refine rv (D.tup [D.agg [D.sl (List.map nW (nodesV ns2)) none, D.sl (List.map HeldR.cells (heldV hs2)) none], D.bool true]) ?_
  refine rv (D.agg [D.sl (List.map nW (nodesV ns2)) none, D.sl (List.map HeldR.cells (heldV hs2)) none]) ?_
  refine rv (D.bool true) ?_
  refine rgf (D.lptr (12 : Nat) (0 : Nat)) (σ4) ?_
  refine rgf (D.junk) (σ4) ?_
  refine ra0 (D.bool true) ?_
  refine k_done (k_skip_seq (k_seq ?_))
  refine rv (D.bool true) ?_
  refine rv (D.bool true) ?_
  refine rv (D.bool true) ?_
  refine rv (D.bool true) ?_
  refine rv (D.bool true) ?_
  refine rv (D.ptr (2 : Nat) (0 : Nat)) ?_
  refine rv (D.agg [D.sl (List.map nW (nodesV ns1)) none, D.sl (List.map HeldR.cells (heldV hs1)) none]) ?_
  refine runs_call_st ([D.ptr (2 : Nat) (0 : Nat), D.agg [D.sl (List.map nW (nodesV ns1)) none, D.sl (List.map HeldR.cells (heldV hs1)) none]]) (by kernel_rfl) (by kernel_rfl) (by kernel_rfl) (by kernel_rfl) (hs') ?_
  refine rv (D.bool true) ?_
  refine ra0 (D.bool true) ?_
  refine k_done (k_skip_seq (k_ret ?_))
  exact ⟨.inr rfl, by kernel_rfl, σ4 ++ [Go.Abs.Obj.cells [.map 1]], by kernel_rfl⟩
end Go.Abs.C
