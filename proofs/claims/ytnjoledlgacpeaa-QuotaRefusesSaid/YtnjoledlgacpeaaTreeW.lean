import Derived.Test.YtnjoledlgacpeaaKont2
import Derived.Test.YtnjoledlgacpeaaTreeZ
set_option linter.unusedVariables false
set_option linter.unusedSimpArgs false
/-
  A tree and its plain model go side by side: whether one is as the other is, and scripts over both, as the machine code sees it.
-/
namespace Go.Abs.C
open Go Go.Abs
set_option maxRecDepth 8000
attribute [local irreducible] callN runC evalOp
def h19 (ot : Nat) (lN : List NodeR) (lH : List HeldR) (x7 x8 : D) : Fr := ⟨[.ptr ot 0, .agg [.sl (lN.map nW) none, .sl (lH.map HeldR.cells) none], .junk, .lptr 3 0, .bool false, .sl (lN.map NodeR.cells) none, .sl (lH.map HeldR.cells) none, x7, x8] ++ List.replicate 125 .junk, [none, none, none, some [.sl (lN.map nW) none, .sl (lH.map HeldR.cells) none]] ++ List.replicate 130 none, []⟩
theorem same_ok (n : Nat) {σ : St} {ot om oh : Nat} {ns : List NodeX} {hs : List HeldR} (I : QInv σ ot om oh ns hs) (hn1 : 1000 < n) :
    callN T (n + 20) 19 [.ptr ot 0, treeD (nodesV ns) (heldV hs)] σ = some (.bool true, σ ++ [Go.Abs.Obj.cells [.map oh]]) := by
  obtain ⟨L, p, k1, k2⟩ := I
  have hN := nodes_ok L (by omega) (n + 18)
  have hLv := live_ok L (by omega) (n + 17)
  have hpN : (nodesV ns).Perm (ns.map (·.r)) := sortK_perm _ _
  have hpH : (heldV hs).Perm hs := sortK_perm _ _
  have lenN : (nodesV ns).length < 900 := by rw [hpN.length_eq, List.length_map]; exact k1
  have lenH : (heldV hs).length < 900 := by rw [hpH.length_eq]; exact k2
  generalize nodesV ns = lN at hN hpN lenN ⊢
  generalize heldV hs = lH at hLv hpH lenH ⊢
  generalize ns.map (·.r) = rs at p hpN
  refine call_of (m := m19) rfl rfl (by decide) (k_start ?_)
  unfold m19 treeD
  refine k_seq ?_
  refine rgf (D.lptr (3 : Nat) (0 : Nat)) (σ) ?_
  refine rv (D.bool false) ?_
  refine k_done (k_skip_seq (k_seq ?_))
  refine rv (D.ptr ot (0 : Nat)) ?_
  refine runs_call_st ([D.ptr ot (0 : Nat)]) (by kernel_rfl) (by kernel_rfl) (by kernel_rfl) (by kernel_rfl) (hN) ?_
  refine ra0 (D.sl (List.map NodeR.cells lN) none) ?_
  refine k_done (k_skip_seq (k_seq ?_))
  refine rv (D.ptr ot (0 : Nat)) ?_
  refine runs_call_st ([D.ptr ot (0 : Nat)]) (by kernel_rfl) (by kernel_rfl) (by kernel_rfl) (by kernel_rfl) (hLv) ?_
  refine ra0 (D.sl (List.map HeldR.cells lH) none) ?_
  refine k_done (k_skip_seq (k_seq (k_seq ?_)))
  refine rv (D.sl (List.map NodeR.cells lN) none) ?_
  refine rve (D.int IntKind.i64 (↑(List.length (List.map NodeR.cells lN)) : Int)) (.int IntKind.i64 ((↑(List.length lN) : Int))) (by simp only [ints, eInt, rows, eInts, bools, eBool, trips, eTrip, i8s, u16s, u8s, acts, List.length_map]) ?_
  refine rv (D.lptr (3 : Nat) (0 : Nat)) ?_
  refine rv (D.sl (List.map nW lN) none) ?_
  refine rve (D.int IntKind.i64 (↑(List.length (List.map nW lN)) : Int)) (.int IntKind.i64 ((↑(List.length lN) : Int))) (by simp only [ints, eInt, rows, eInts, bools, eBool, trips, eTrip, i8s, u16s, u8s, acts, List.length_map]) ?_
  refine rv (D.bool ((↑(List.length lN) : Int) != (↑(List.length lN) : Int))) ?_
  refine rv (D.bool ((↑(List.length lN) : Int) != (↑(List.length lN) : Int))) ?_
  refine rkn 19 ((↑(List.length lN) : Int) != (↑(List.length lN) : Int)) false (bne_eq_false_iff_eq.2 (by omega)) ?_
  refine rv (D.sl (List.map HeldR.cells lH) none) ?_
  refine rve (D.int IntKind.i64 (↑(List.length (List.map HeldR.cells lH)) : Int)) (.int IntKind.i64 ((↑(List.length lH) : Int))) (by simp only [ints, eInt, rows, eInts, bools, eBool, trips, eTrip, i8s, u16s, u8s, acts, List.length_map]) ?_
  refine rv (D.lptr (3 : Nat) (1 : Nat)) ?_
  refine rv (D.sl (List.map HeldR.cells lH) none) ?_
  refine rve (D.int IntKind.i64 (↑(List.length (List.map HeldR.cells lH)) : Int)) (.int IntKind.i64 ((↑(List.length lH) : Int))) (by simp only [ints, eInt, rows, eInts, bools, eBool, trips, eTrip, i8s, u16s, u8s, acts, List.length_map]) ?_
  refine rv (D.bool ((↑(List.length lH) : Int) != (↑(List.length lH) : Int))) ?_
  refine rv (D.bool ((↑(List.length lH) : Int) != (↑(List.length lH) : Int))) ?_
  refine k_done (k_skip_seq ?_)
  refine rkn 26 ((↑(List.length lH) : Int) != (↑(List.length lH) : Int)) false (bne_eq_false_iff_eq.2 (by omega)) ?_
  refine kcf (k_skip_seq (k_seq (k_seq ?_)))
  refine rv (D.int IntKind.i64 (0 : Int)) ?_
  refine k_done (k_skip_seq (k_block ?_))
  refine k_loop (fun i : Nat => h19 ot lN lH (.int .i64 i) .junk) (fun _ => σ ++ [Go.Abs.Obj.cells [.map oh]]) (fun i => i ≤ lN.length) (fun i => lN.length - i) 0 (by kernel_rfl) (by kernel_rfl) (by simp) (fun s hs => by omega) ?_
  intro i hi
  unfold h19 l19_0
  by_cases c : i < lN.length
  · have hmem := hpN.subset (List.getElem_mem c)
    have hus := used_ok (n + 16) p hpN hpH lN[i].name (hasR_mem hmem) (by omega) (by omega) (by omega) (by omega)
    obtain ⟨u1, u2, u3⟩ := p.u _ hmem
    rw [sumAt_perm hpH, ← u1] at hus
    unfold treeD at hus
    refine k_seq (k_seq ?_)
    refine rv (D.int IntKind.i64 (↑i : Int)) ?_
    refine rv (D.sl (List.map NodeR.cells lN) none) ?_
    refine rve (D.int IntKind.i64 (↑(List.length (List.map NodeR.cells lN)) : Int)) (.int IntKind.i64 ((↑(List.length lN) : Int))) (by simp only [ints, eInt, rows, eInts, bools, eBool, trips, eTrip, i8s, u16s, u8s, acts, List.length_map]) ?_
    refine rv (D.bool (decide ((↑i : Int) < (↑(List.length lN) : Int)))) ?_
    refine k_done (k_skip_seq ?_)
    refine rkn 30 (decide ((↑i : Int) < (↑(List.length lN) : Int))) true (decide_eq_true (by omega)) ?_
    refine kct (k_skip_seq (k_seq (k_block (k_seq ?_))))
    refine rv (D.sl (List.map NodeR.cells lN) none) ?_
    refine rv (D.int IntKind.i64 (↑i : Int)) ?_
    refine runs_index (lN) (NodeR.cells) (o := none) (kd := IntKind.i64) (i) (by kernel_rfl) (by kernel_rfl) (by kernel_rfl) (by assumption) (by kernel_rfl) ?_
    refine rv (D.ref [D.str (NodeR.name lN[i]), D.str (NodeR.parent lN[i]), D.int IntKind.i64 (NodeR.limit lN[i]), D.int IntKind.i64 (NodeR.used lN[i])]) ?_
    refine rv (D.str (NodeR.name lN[i])) ?_
    refine rv (D.lptr (3 : Nat) (0 : Nat)) ?_
    refine rv (D.sl (List.map nW lN) none) ?_
    refine rv (D.int IntKind.i64 (↑i : Int)) ?_
    refine runs_index (lN) (nW) (o := none) (kd := IntKind.i64) (i) (by kernel_rfl) (by kernel_rfl) (by kernel_rfl) (by assumption) (by kernel_rfl) ?_
    refine rv (D.ref [D.str (NodeR.name lN[i]), D.str (NodeR.parent lN[i]), D.int IntKind.i64 (NodeR.limit lN[i])]) ?_
    refine rv (D.str (NodeR.name lN[i])) ?_
    refine rv (D.bool !NodeR.name lN[i] == NodeR.name lN[i]) ?_
    refine rv (D.bool !NodeR.name lN[i] == NodeR.name lN[i]) ?_
    refine rkn 45 (!NodeR.name lN[i] == NodeR.name lN[i]) false (by simp [ints, eInt, rows, eInts, bools, eBool, trips, eTrip, i8s, u16s, u8s, acts]) ?_
    refine rv (D.sl (List.map NodeR.cells lN) none) ?_
    refine rv (D.int IntKind.i64 (↑i : Int)) ?_
    refine runs_index (lN) (NodeR.cells) (o := none) (kd := IntKind.i64) (i) (by kernel_rfl) (by kernel_rfl) (by kernel_rfl) (by assumption) (by kernel_rfl) ?_
    refine rv (D.ref [D.str (NodeR.parent lN[i]), D.int IntKind.i64 (NodeR.limit lN[i]), D.int IntKind.i64 (NodeR.used lN[i])]) ?_
    refine rv (D.str (NodeR.parent lN[i])) ?_
    refine rv (D.lptr (3 : Nat) (0 : Nat)) ?_
    refine rv (D.sl (List.map nW lN) none) ?_
    refine rv (D.int IntKind.i64 (↑i : Int)) ?_
    refine runs_index (lN) (nW) (o := none) (kd := IntKind.i64) (i) (by kernel_rfl) (by kernel_rfl) (by kernel_rfl) (by assumption) (by kernel_rfl) ?_
    refine rv (D.ref [D.str (NodeR.parent lN[i]), D.int IntKind.i64 (NodeR.limit lN[i])]) ?_
    refine rv (D.str (NodeR.parent lN[i])) ?_
    refine rv (D.bool !NodeR.parent lN[i] == NodeR.parent lN[i]) ?_
    refine rv (D.bool !NodeR.parent lN[i] == NodeR.parent lN[i]) ?_
    refine rv (D.bool !NodeR.parent lN[i] == NodeR.parent lN[i]) ?_
    refine rkn 59 (!NodeR.parent lN[i] == NodeR.parent lN[i]) false (by simp [ints, eInt, rows, eInts, bools, eBool, trips, eTrip, i8s, u16s, u8s, acts]) ?_
    refine rv (D.sl (List.map NodeR.cells lN) none) ?_
    refine rv (D.int IntKind.i64 (↑i : Int)) ?_
    refine runs_index (lN) (NodeR.cells) (o := none) (kd := IntKind.i64) (i) (by kernel_rfl) (by kernel_rfl) (by kernel_rfl) (by assumption) (by kernel_rfl) ?_
    refine rv (D.ref [D.int IntKind.i64 (NodeR.limit lN[i]), D.int IntKind.i64 (NodeR.used lN[i])]) ?_
    refine rv (D.int IntKind.i64 (NodeR.limit lN[i])) ?_
    refine rv (D.lptr (3 : Nat) (0 : Nat)) ?_
    refine rv (D.sl (List.map nW lN) none) ?_
    refine rv (D.int IntKind.i64 (↑i : Int)) ?_
    refine runs_index (lN) (nW) (o := none) (kd := IntKind.i64) (i) (by kernel_rfl) (by kernel_rfl) (by kernel_rfl) (by assumption) (by kernel_rfl) ?_
    refine rv (D.ref [D.int IntKind.i64 (NodeR.limit lN[i])]) ?_
    refine rv (D.int IntKind.i64 (NodeR.limit lN[i])) ?_
    refine rv (D.bool (NodeR.limit lN[i] != NodeR.limit lN[i])) ?_
    refine rv (D.bool (NodeR.limit lN[i] != NodeR.limit lN[i])) ?_
    refine rv (D.bool (NodeR.limit lN[i] != NodeR.limit lN[i])) ?_
    refine rkn 73 (NodeR.limit lN[i] != NodeR.limit lN[i]) false (bne_eq_false_iff_eq.2 (by omega)) ?_
    refine rv (D.sl (List.map NodeR.cells lN) none) ?_
    refine rv (D.int IntKind.i64 (↑i : Int)) ?_
    refine runs_index (lN) (NodeR.cells) (o := none) (kd := IntKind.i64) (i) (by kernel_rfl) (by kernel_rfl) (by kernel_rfl) (by assumption) (by kernel_rfl) ?_
    refine rv (D.ref [D.int IntKind.i64 (NodeR.used lN[i])]) ?_
    refine rv (D.int IntKind.i64 (NodeR.used lN[i])) ?_
    refine rv (D.agg [D.sl (List.map nW lN) none, D.sl (List.map HeldR.cells lH) none]) ?_
    refine rv (D.sl (List.map NodeR.cells lN) none) ?_
    refine rv (D.int IntKind.i64 (↑i : Int)) ?_
    refine runs_index (lN) (NodeR.cells) (o := none) (kd := IntKind.i64) (i) (by kernel_rfl) (by kernel_rfl) (by kernel_rfl) (by assumption) (by kernel_rfl) ?_
    refine rv (D.ref [D.str (NodeR.name lN[i]), D.str (NodeR.parent lN[i]), D.int IntKind.i64 (NodeR.limit lN[i]), D.int IntKind.i64 (NodeR.used lN[i])]) ?_
    refine rv (D.str (NodeR.name lN[i])) ?_
    refine runs_callQ ([D.agg [D.sl (List.map nW lN) none, D.sl (List.map HeldR.cells lH) none], D.str (NodeR.name lN[i])]) (by kernel_rfl) (by kernel_rfl) (by kernel_rfl) (by kernel_rfl) (hus) (by kernel_rfl) ?_
    refine rv (D.bool (NodeR.used lN[i] != NodeR.used lN[i])) ?_
    refine rv (D.bool (NodeR.used lN[i] != NodeR.used lN[i])) ?_
    refine k_done (k_skip_seq ?_)
    refine rkn 87 (NodeR.used lN[i] != NodeR.used lN[i]) false (bne_eq_false_iff_eq.2 (by omega)) ?_
    refine kcf (k_skip_block (k_skip_seq ?_))
    refine rv (D.int IntKind.i64 (↑i : Int)) ?_
    refine rve (D.int IntKind.i64 (IntKind.wrap IntKind.i64 ((↑i : Int) + (1 : Int)))) (.int IntKind.i64 ((i + 1 : Nat) : Int)) (congrArg (D.int IntKind.i64) (show IntKind.wrap IntKind.i64 ((↑i : Int) + (1 : Int)) = ((i + 1 : Nat) : Int) from wrap_eq (by omega) (by omega) (by omega))) ?_
    refine ra0 (D.int IntKind.i64 (↑(i + (1 : Nat)) : Int)) ?_
    refine k_done (k_skip_back ?_)
    exact ⟨i + 1, c, by omega, by kernel_rfl, rfl⟩
  · refine k_seq (k_seq ?_)
    refine rv (D.int IntKind.i64 (↑i : Int)) ?_
    refine rv (D.sl (List.map NodeR.cells lN) none) ?_
    refine rve (D.int IntKind.i64 (↑(List.length (List.map NodeR.cells lN)) : Int)) (.int IntKind.i64 ((↑(List.length lN) : Int))) (by simp only [ints, eInt, rows, eInts, bools, eBool, trips, eTrip, i8s, u16s, u8s, acts, List.length_map]) ?_
    refine rv (D.bool (decide ((↑i : Int) < (↑(List.length lN) : Int)))) ?_
    refine k_done (k_skip_seq ?_)
    refine rkn 30 (decide ((↑i : Int) < (↑(List.length lN) : Int))) false (decide_eq_false (by omega)) ?_
    refine kcf (k_exit_seq (k_exit_back (k_exit_hit rfl (k_skip_seq (k_seq (k_seq ?_))))))
    refine rv (D.int IntKind.i64 (0 : Int)) ?_
    refine k_done (k_skip_seq (k_block ?_))
    refine k_loop (fun j : Nat => h19 ot lN lH (.int .i64 i) (.int .i64 j)) (fun _ => σ ++ [Go.Abs.Obj.cells [.map oh]]) (fun j => j ≤ lH.length) (fun j => lH.length - j) 0 (by kernel_rfl) (by kernel_rfl) (by simp) (fun s hs => by omega) ?_
    intro j hj
    unfold h19 l19_1
    by_cases d : j < lH.length
    · refine k_seq (k_seq ?_)
      refine rv (D.int IntKind.i64 (↑j : Int)) ?_
      refine rv (D.sl (List.map HeldR.cells lH) none) ?_
      refine rve (D.int IntKind.i64 (↑(List.length (List.map HeldR.cells lH)) : Int)) (.int IntKind.i64 ((↑(List.length lH) : Int))) (by simp only [ints, eInt, rows, eInts, bools, eBool, trips, eTrip, i8s, u16s, u8s, acts, List.length_map]) ?_
      refine rv (D.bool (decide ((↑j : Int) < (↑(List.length lH) : Int)))) ?_
      refine k_done (k_skip_seq ?_)
      refine rkn 91 (decide ((↑j : Int) < (↑(List.length lH) : Int))) true (decide_eq_true (by omega)) ?_
      refine kct (k_skip_seq (k_seq (k_block (k_seq ?_))))
      refine rv (D.sl (List.map HeldR.cells lH) none) ?_
      refine rv (D.int IntKind.i64 (↑j : Int)) ?_
      refine runs_index (lH) (HeldR.cells) (o := none) (kd := IntKind.i64) (j) (by kernel_rfl) (by kernel_rfl) (by kernel_rfl) (by assumption) (by kernel_rfl) ?_
      refine rv (D.ref [D.str (HeldR.id lH[j]), D.str (HeldR.node lH[j]), D.int IntKind.i64 (HeldR.amount lH[j])]) ?_
      refine rv (D.str (HeldR.id lH[j])) ?_
      refine rv (D.lptr (3 : Nat) (1 : Nat)) ?_
      refine rv (D.sl (List.map HeldR.cells lH) none) ?_
      refine rv (D.int IntKind.i64 (↑j : Int)) ?_
      refine runs_index (lH) (HeldR.cells) (o := none) (kd := IntKind.i64) (j) (by kernel_rfl) (by kernel_rfl) (by kernel_rfl) (by assumption) (by kernel_rfl) ?_
      refine rv (D.ref [D.str (HeldR.id lH[j]), D.str (HeldR.node lH[j]), D.int IntKind.i64 (HeldR.amount lH[j])]) ?_
      refine rv (D.str (HeldR.id lH[j])) ?_
      refine rv (D.bool !HeldR.id lH[j] == HeldR.id lH[j]) ?_
      refine rv (D.bool !HeldR.id lH[j] == HeldR.id lH[j]) ?_
      refine rkn 106 (!HeldR.id lH[j] == HeldR.id lH[j]) false (by simp [ints, eInt, rows, eInts, bools, eBool, trips, eTrip, i8s, u16s, u8s, acts]) ?_
      refine rv (D.sl (List.map HeldR.cells lH) none) ?_
      refine rv (D.int IntKind.i64 (↑j : Int)) ?_
      refine runs_index (lH) (HeldR.cells) (o := none) (kd := IntKind.i64) (j) (by kernel_rfl) (by kernel_rfl) (by kernel_rfl) (by assumption) (by kernel_rfl) ?_
      refine rv (D.ref [D.str (HeldR.node lH[j]), D.int IntKind.i64 (HeldR.amount lH[j])]) ?_
      refine rv (D.str (HeldR.node lH[j])) ?_
      refine rv (D.lptr (3 : Nat) (1 : Nat)) ?_
      refine rv (D.sl (List.map HeldR.cells lH) none) ?_
      refine rv (D.int IntKind.i64 (↑j : Int)) ?_
      refine runs_index (lH) (HeldR.cells) (o := none) (kd := IntKind.i64) (j) (by kernel_rfl) (by kernel_rfl) (by kernel_rfl) (by assumption) (by kernel_rfl) ?_
      refine rv (D.ref [D.str (HeldR.node lH[j]), D.int IntKind.i64 (HeldR.amount lH[j])]) ?_
      refine rv (D.str (HeldR.node lH[j])) ?_
      refine rv (D.bool !HeldR.node lH[j] == HeldR.node lH[j]) ?_
      refine rv (D.bool !HeldR.node lH[j] == HeldR.node lH[j]) ?_
      refine rv (D.bool !HeldR.node lH[j] == HeldR.node lH[j]) ?_
      refine rkn 120 (!HeldR.node lH[j] == HeldR.node lH[j]) false (by simp [ints, eInt, rows, eInts, bools, eBool, trips, eTrip, i8s, u16s, u8s, acts]) ?_
      refine rv (D.sl (List.map HeldR.cells lH) none) ?_
      refine rv (D.int IntKind.i64 (↑j : Int)) ?_
      refine runs_index (lH) (HeldR.cells) (o := none) (kd := IntKind.i64) (j) (by kernel_rfl) (by kernel_rfl) (by kernel_rfl) (by assumption) (by kernel_rfl) ?_
      refine rv (D.ref [D.int IntKind.i64 (HeldR.amount lH[j])]) ?_
      refine rv (D.int IntKind.i64 (HeldR.amount lH[j])) ?_
      refine rv (D.lptr (3 : Nat) (1 : Nat)) ?_
      refine rv (D.sl (List.map HeldR.cells lH) none) ?_
      refine rv (D.int IntKind.i64 (↑j : Int)) ?_
      refine runs_index (lH) (HeldR.cells) (o := none) (kd := IntKind.i64) (j) (by kernel_rfl) (by kernel_rfl) (by kernel_rfl) (by assumption) (by kernel_rfl) ?_
      refine rv (D.ref [D.int IntKind.i64 (HeldR.amount lH[j])]) ?_
      refine rv (D.int IntKind.i64 (HeldR.amount lH[j])) ?_
      refine rv (D.bool (HeldR.amount lH[j] != HeldR.amount lH[j])) ?_
      refine rv (D.bool (HeldR.amount lH[j] != HeldR.amount lH[j])) ?_
      refine k_done (k_skip_seq ?_)
      refine rkn 133 (HeldR.amount lH[j] != HeldR.amount lH[j]) false (bne_eq_false_iff_eq.2 (by omega)) ?_
      refine kcf (k_skip_block (k_skip_seq ?_))
      refine rv (D.int IntKind.i64 (↑j : Int)) ?_
      refine rve (D.int IntKind.i64 (IntKind.wrap IntKind.i64 ((↑j : Int) + (1 : Int)))) (.int IntKind.i64 ((j + 1 : Nat) : Int)) (congrArg (D.int IntKind.i64) (show IntKind.wrap IntKind.i64 ((↑j : Int) + (1 : Int)) = ((j + 1 : Nat) : Int) from wrap_eq (by omega) (by omega) (by omega))) ?_
      refine ra0 (D.int IntKind.i64 (↑(j + (1 : Nat)) : Int)) ?_
      refine k_done (k_skip_back ?_)
      exact ⟨j + 1, d, by omega, by kernel_rfl, rfl⟩
    · refine k_seq (k_seq ?_)
      refine rv (D.int IntKind.i64 (↑j : Int)) ?_
      refine rv (D.sl (List.map HeldR.cells lH) none) ?_
      refine rve (D.int IntKind.i64 (↑(List.length (List.map HeldR.cells lH)) : Int)) (.int IntKind.i64 ((↑(List.length lH) : Int))) (by simp only [ints, eInt, rows, eInts, bools, eBool, trips, eTrip, i8s, u16s, u8s, acts, List.length_map]) ?_
      refine rv (D.bool (decide ((↑j : Int) < (↑(List.length lH) : Int)))) ?_
      refine k_done (k_skip_seq ?_)
      refine rkn 91 (decide ((↑j : Int) < (↑(List.length lH) : Int))) false (decide_eq_false (by omega)) ?_
      refine kcf (k_exit_seq (k_exit_back (k_exit_hit rfl (k_skip_seq (k_seq ?_)))))
      refine rv (D.bool true) ?_
      refine k_done (k_skip_seq (k_ret ?_))
      exact ⟨.inr rfl, by kernel_rfl, by kernel_rfl⟩
/-- A tree whose names are short enough. -/
structure PS (n : Nat) (σ : St) (ot om oh : Nat) (ns : List NodeX) (hs : List HeldR) (B : Nat) : Prop where
  I : QInv σ ot om oh ns hs
  sa : ∀ x ∈ ns, x.r.name.length < n
  sb : ∀ h ∈ hs, h.id.length < n
  ln : ns.length ≤ B
  lh : hs.length ≤ B
theorem PS.sz {n : Nat} {σ : St} {ot om oh : Nat} {ns : List NodeX} {hs : List HeldR} {B : Nat} (P : PS n σ ot om oh ns hs B) (hn1 : 1000 < n) (hn2 : n ≤ 9223372036854775808) : Sz n (nodesV ns) (heldV hs) := by
  have hpN : (nodesV ns).Perm (ns.map (·.r)) := sortK_perm _ _
  have hpH : (heldV hs).Perm hs := sortK_perm _ _
  refine ⟨?_, ?_, hn1, hn2, fun r hr => ?_, fun h hh => P.sb _ (hpH.subset hh)⟩
  · rw [hpN.length_eq, List.length_map]; exact P.I.k.1
  · rw [hpH.length_eq]; exact P.I.k.2
  · obtain ⟨x, hx, rfl⟩ := List.mem_map.1 (hpN.subset hr)
    exact P.sa x hx
theorem PS.w {n : Nat} {σ : St} {ot om oh : Nat} {ns : List NodeX} {hs : List HeldR} {B : Nat} (P : PS n σ ot om oh ns hs B) : WInv (ns.map (·.r)) hs (nodesV ns) (heldV hs) := ⟨P.I.p, rfl, rfl⟩
theorem PS.app {n : Nat} {σ : St} {ot om oh : Nat} {ns : List NodeX} {hs : List HeldR} {B : Nat} (P : PS n σ ot om oh ns hs B) (ρ : St) : PS n (σ ++ ρ) ot om oh ns hs B := ⟨⟨P.I.L.append _, P.I.p, P.I.k⟩, P.sa, P.sb, P.ln, P.lh⟩
theorem kept_step {σ σ' σ1 : St} {ot om oh : Nat} {ns ns' ns1 : List NodeX} (h1 : KeptS (Mine ot om oh ns) σ σ') (b1 : NewB σ ot om oh ns ns') (h2 : KeptS (Mine ot om oh ns') σ' σ1) (b2 : NewB σ' ot om oh ns' ns1) : KeptS (Mine ot om oh ns) σ σ1 ∧ NewB σ ot om oh ns ns1 := by
  refine ⟨⟨Nat.le_trans h1.1 h2.1, fun o ho hm => ?_⟩, fun o hm => ?_⟩
  · rw [h2.2 o (Nat.lt_of_lt_of_le ho h1.1) (fun h => by rcases b1 o h with h | h; exact hm h; omega), h1.2 o ho hm]
  · rcases b2 o hm with h | h
    · exact b1 o h
    · exact .inr (Nat.le_trans h1.1 h)
theorem names_of {n : Nat} {ns' : List NodeX} (h : ∀ r ∈ ns'.map (·.r), r.name.length < n) : ∀ x ∈ ns', x.r.name.length < n := fun x hx => h _ (List.mem_map.2 ⟨x, hx, rfl⟩)
theorem names_map {n : Nat} {ns : List NodeX} (h : ∀ x ∈ ns, x.r.name.length < n) : ∀ r ∈ ns.map (·.r), r.name.length < n := fun r hr => by
  obtain ⟨x, hx, rfl⟩ := List.mem_map.1 hr
  exact h x hx
theorem tree_eq {lN lN' : List NodeR} (h : lN.map nW = lN'.map nW) (lH : List HeldR) : treeD lN lH = treeD lN' lH := by
  unfold treeD
  rw [h]
theorem step_add {n : Nat} {σ : St} {ot om oh : Nat} {ns : List NodeX} {hs : List HeldR} {B : Nat} (P : PS n σ ot om oh ns hs B) (hB : B < 850) (hn1 : 1000 < n) (hn2 : n ≤ 9223372036854775808) (a b : Nm) (v : Int) (ha : a.length < n) (hv : v ≤ 9223372036854775807) :
    ∃ e σ1 ns1, callN T (n + 20) 12 [.ptr ot 0, .str a, .str b, .int .i64 v] σ = some (.int .i64 e, σ1) ∧ callN T (n + 20) 20 [treeD (nodesV ns) (heldV hs), .str a, .str b, .int .i64 v] [] = some (.tup [treeD (nodesV ns1) (heldV hs), .int .i64 e], []) ∧ KeptS (Mine ot om oh ns) σ σ1 ∧ NewB σ ot om oh ns ns1 ∧ PS n σ1 ot om oh ns1 hs (B + 1) := by
  obtain ⟨σ1, ns1, hc, O, p1, hr, hl⟩ := q_add P.I (n + 19) a b v hv
  have ht := add20_ok n P.w (P.sz hn1 hn2) a b v
  have hl1 := P.ln
  have hl2 := P.lh
  refine ⟨_, σ1, ns1, hc, ?_, O.k, O.b, ⟨O.L, p1, by omega, by omega⟩, ?_, P.sb, by omega, by omega⟩
  · rw [ht]
    congr 5
    unfold addN
    by_cases hq : addQ (ns.map (·.r)) a b v = 0
    · rw [if_pos hq] at hr ⊢
      unfold nodesV
      rw [hr]
      have hnd := p1.nod
      rw [hr] at hnd
      exact (sortK_snoc (key := NodeR.name) hnd).symm
    · rw [if_neg hq] at hr ⊢
      unfold nodesV
      rw [hr]
  · refine names_of ?_
    rw [hr]
    split
    · intro r hm
      rcases List.mem_append.1 hm with hm | hm
      · exact names_map P.sa r hm
      · simp only [List.mem_singleton] at hm
        subst hm
        exact ha
    · exact names_map P.sa
theorem step_res {n : Nat} {σ : St} {ot om oh : Nat} {ns : List NodeX} {hs : List HeldR} {B : Nat} (P : PS n σ ot om oh ns hs B) (hB : B < 850) (hn1 : 1000 < n) (hn2 : n ≤ 9223372036854775808) (node id : Nm) (v : Int) (ha : id.length < n) (hv : v ≤ 9223372036854775807) :
    ∃ e σ1 ns1 hs1, callN T (n + 20) 13 [.ptr ot 0, .str node, .str id, .int .i64 v] σ = some (.int .i64 e, σ1) ∧ callN T (n + 20) 21 [treeD (nodesV ns) (heldV hs), .str node, .str id, .int .i64 v] [] = some (.tup [treeD (nodesV ns1) (heldV hs1), .int .i64 e], []) ∧ KeptS (Mine ot om oh ns) σ σ1 ∧ NewB σ ot om oh ns ns1 ∧ PS n σ1 ot om oh ns1 hs1 (B + 1) := by
  obtain ⟨σ1, ns1, hs1, hc, O, p1, hr, hh, hl, hl'⟩ := q_res P.I (n + 18) node id v
  have ht := res21_ok n P.w (P.sz hn1 hn2) node id v hv
  have hl1 := P.ln
  have hl2 := P.lh
  refine ⟨_, σ1, ns1, hs1, hc, ?_, O.k, O.b, ⟨O.L, p1, by omega, by omega⟩, ?_, ?_, by omega, by omega⟩
  · rw [ht]
    congr 4
    rw [tree_eq (lN := nodesV ns1) (lN' := nodesV ns)]
    · congr 1
      unfold resH
      by_cases hq : resQ (ns.map (·.r)) hs node id v = 0
      · rw [if_pos hq] at hh ⊢
        unfold heldV
        rw [hh]
        have hnd := p1.d
        rw [hh] at hnd
        exact (sortK_snoc (key := HeldR.id) hnd).symm
      · rw [if_neg hq] at hh ⊢
        rw [hh]
    · unfold nodesV
      rw [hr]
      split
      · rw [sort_bump]
      · rfl
  · refine names_of ?_
    rw [hr]
    split
    · intro r hm
      obtain ⟨q, hq, rfl⟩ := bumpQ_mem hm
      split
      · exact names_map P.sa q hq
      · exact names_map P.sa q hq
    · exact names_map P.sa
  · rw [hh]
    split
    · intro h hm
      rcases List.mem_append.1 hm with hm | hm
      · exact P.sb h hm
      · simp only [List.mem_singleton] at hm
        subst hm
        exact ha
    · exact P.sb
theorem step_rel {n : Nat} {σ : St} {ot om oh : Nat} {ns : List NodeX} {hs : List HeldR} {B : Nat} (P : PS n σ ot om oh ns hs B) (hB : B < 850) (hn1 : 1000 < n) (hn2 : n ≤ 9223372036854775808) (id : Nm) :
    ∃ e σ1 ns1 hs1, callN T (n + 20) 14 [.ptr ot 0, .str id] σ = some (.int .i64 e, σ1) ∧ callN T (n + 20) 22 [treeD (nodesV ns) (heldV hs), .str id] [] = some (.tup [treeD (nodesV ns1) (heldV hs1), .int .i64 e], []) ∧ KeptS (Mine ot om oh ns) σ σ1 ∧ NewB σ ot om oh ns ns1 ∧ PS n σ1 ot om oh ns1 hs1 (B + 1) := by
  obtain ⟨σ1, ns1, hs1, e, hc, O, p1, he, hr, hh, hl, hl'⟩ := q_rel P.I (n + 18) id
  have ht := rel22_ok n P.w (P.sz hn1 hn2) id
  have hl1 := P.ln
  have hl2 := P.lh
  refine ⟨e, σ1, ns1, hs1, hc, ?_, O.k, O.b, ⟨O.L, p1, by omega, by omega⟩, ?_, ?_, by omega, by omega⟩
  · rw [ht, he]
    congr 4
    rw [tree_eq (lN := nodesV ns1) (lN' := nodesV ns)]
    · congr 1
      unfold heldV
      rw [hh]
      exact (sortK_filter (key := HeldR.id) _ P.I.p.d).symm
    · unfold nodesV
      rw [hr]
      split
      · rw [sort_bump]
      · rfl
  · refine names_of ?_
    rw [hr]
    split
    · intro r hm
      obtain ⟨q, hq, rfl⟩ := bumpQ_mem hm
      split
      · exact names_map P.sa q hq
      · exact names_map P.sa q hq
    · exact names_map P.sa
  · rw [hh]
    exact fun h hm => P.sb h (delH_sub.subset hm)
theorem step_lim {n : Nat} {σ : St} {ot om oh : Nat} {ns : List NodeX} {hs : List HeldR} {B : Nat} (P : PS n σ ot om oh ns hs B) (hB : B < 850) (hn1 : 1000 < n) (hn2 : n ≤ 9223372036854775808) (a : Nm) (v : Int) (hv : v ≤ 9223372036854775807) :
    ∃ e σ1 ns1 r σc, callN T (n + 20) 15 [.ptr ot 0, .str a, .int .i64 v] σ = some (.int .i64 e, σ1) ∧ (callN T (n + 20) 23 [treeD (nodesV ns) (heldV hs), .str a, .int .i64 v] [] = some (r, σc) ∧ freeze σc r = some (.tup [treeD (nodesV ns1) (heldV hs), .int .i64 e])) ∧ KeptS (Mine ot om oh ns) σ σ1 ∧ NewB σ ot om oh ns ns1 ∧ PS n σ1 ot om oh ns1 hs (B + 1) := by
  obtain ⟨σ1, ns1, hc, O, p1, hr, hl⟩ := q_lim P.I (n + 19) a v hv
  obtain ⟨r, σc, ht, hf⟩ := lim23_ok n P.w (P.sz hn1 hn2) a v
  have hl1 := P.ln
  have hl2 := P.lh
  refine ⟨_, σ1, ns1, r, σc, hc, ⟨ht, ?_⟩, O.k, O.b, ⟨O.L, p1, by omega, by omega⟩, ?_, P.sb, by omega, by omega⟩
  · rw [hf]
    congr 4
    unfold limN
    by_cases hq : limQ (ns.map (·.r)) a v = 0
    · rw [if_pos hq] at hr ⊢
      unfold nodesV
      rw [hr, sort_set]
    · rw [if_neg hq] at hr ⊢
      unfold nodesV
      rw [hr]
  · refine names_of ?_
    rw [hr]
    split
    · intro r hm
      unfold setR at hm
      obtain ⟨q, hq, rfl⟩ := List.mem_map.1 hm
      split
      · exact names_map P.sa q hq
      · exact names_map P.sa q hq
    · exact names_map P.sa
structure WS where
  i : Nat
  σ : St
  ns : List NodeX
  hs : List HeldR
def h10 (ot : Nat) (N0 : List NodeR) (H0 : List HeldR) (sc : List ActR) (i : Nat) (lN : List NodeR) (lH : List HeldR) : Fr := ⟨[.ptr ot 0, .agg [.sl (N0.map nW) none, .sl (H0.map HeldR.cells) none], .sl (acts sc) none, .junk, .lptr 4 0, .junk, .lptr 6 0, .bool false, .int .i64 i] ++ List.replicate 101 .junk, [none, none, none, none, some [.sl (lN.map nW) none, .sl (lH.map HeldR.cells) none], none, some [.sl [] (some 81), .sl [] (some 83)]] ++ List.replicate 103 none, []⟩
set_option maxHeartbeats 2000000
theorem play_ok (n : Nat) (sc : List ActR) (hok : ∀ a ∈ sc, a.n ≤ 9223372036854775807 ∧ a.a.length < n ∧ a.b.length < n) {σ : St} {ot om oh : Nat} {ns : List NodeX} {hs : List HeldR} {B : Nat} (P : PS n σ ot om oh ns hs B) (hB : B ≤ 800) (hn1 : 1000 < n) (hn2 : n ≤ 9223372036854775808) :
    ∃ r σ', callN T (n + 21) 10 [.ptr ot 0, treeD (nodesV ns) (heldV hs), .sl (acts sc) none] σ = some (r, σ') ∧ ∃ ns' hs', r = .tup [treeD (nodesV ns') (heldV hs'), .bool true] ∧ PS n σ' ot om oh ns' hs' (B + 40) ∧ KeptS (Mine ot om oh ns) σ σ' ∧ NewB σ ot om oh ns ns' := by
  refine call_ofX (m := m10) (Φ := fun r σ' => ∃ ns' hs', r = .tup [treeD (nodesV ns') (heldV hs'), .bool true] ∧ PS n σ' ot om oh ns' hs' (B + 40) ∧ KeptS (Mine ot om oh ns) σ σ' ∧ NewB σ ot om oh ns ns') rfl rfl (by decide) (k_start ?_)
  unfold m10 treeD
  refine k_seq ?_
  refine rgf (D.lptr (4 : Nat) (0 : Nat)) (σ) ?_
  refine rgf (D.lptr (6 : Nat) (0 : Nat)) (σ) ?_
  refine rv (D.bool false) ?_
  refine k_done (k_skip_seq (k_seq (k_seq ?_)))
  refine rv (D.int IntKind.i64 (0 : Int)) ?_
  refine k_done (k_skip_seq (k_block ?_))
  refine k_loop (fun s : WS => h10 ot (nodesV ns) (heldV hs) sc s.i (nodesV s.ns) (heldV s.hs)) (fun s => s.σ) (fun s => s.i ≤ 40 ∧ PS n s.σ ot om oh s.ns s.hs (B + s.i) ∧ KeptS (Mine ot om oh ns) σ s.σ ∧ NewB σ ot om oh ns s.ns) (fun s => 40 - s.i) ⟨0, σ, ns, hs⟩ (by kernel_rfl) (by kernel_rfl) ⟨by simp, P, KeptS.refl _ _, NewB.refl _ _ _ _ _⟩ (fun s hs => by omega) ?_
  rintro ⟨i, σ0, ns0, hs0⟩ ⟨hi, P0, K, Bn⟩
  simp only at hi P0 K Bn
  show Runs (runC _ _ _ (h10 ot (nodesV ns) (heldV hs) sc i (nodesV ns0) (heldV hs0)) σ0) _
  unfold h10 l10_0
  by_cases c1 : i < sc.length
  · by_cases c2 : i < 40
    · have hai := hok _ (List.getElem_mem c1)
      by_cases k0 : IntKind.wrap IntKind.i64 (↑(BitVec.toNat (BitVec.ofInt (IntKind.bits IntKind.i64) (ActR.kind sc[i]) &&& BitVec.ofInt (IntKind.bits IntKind.i64) (3 : Int))) : Int) = 0
      · obtain ⟨e, σ1, ns1, hc, ht, K1, B1, P1⟩ := step_add P0 (by omega) hn1 hn2 sc[i].a sc[i].b sc[i].n hai.2.1 hai.1
        obtain ⟨hs1, hhs⟩ : ∃ l, l = hs0 := ⟨_, rfl⟩
        rw [← hhs] at P1
        conv at ht => rhs; rw [← hhs]
        have hsame := same_ok n P1.I hn1
        obtain ⟨K2, B2⟩ := kept_step K Bn K1 B1
        unfold treeD at ht hsame
        refine k_seq (k_seq ?_)
        refine rv (D.int IntKind.i64 (↑i : Int)) ?_
        refine rv (D.sl (acts sc) none) ?_
        refine rve (D.int IntKind.i64 (↑(List.length (acts sc)) : Int)) (.int IntKind.i64 ((↑(List.length sc) : Int))) (by simp only [ints, eInt, rows, eInts, bools, eBool, trips, eTrip, i8s, u16s, u8s, acts, List.length_map]) ?_
        refine rv (D.bool (decide ((↑i : Int) < (↑(List.length sc) : Int)))) ?_
        refine rv (D.bool (decide ((↑i : Int) < (↑(List.length sc) : Int)))) ?_
        refine rkn 16 (decide ((↑i : Int) < (↑(List.length sc) : Int))) true (decide_eq_true (by omega)) ?_
        refine rv (D.int IntKind.i64 (↑i : Int)) ?_
        refine rv (D.bool (decide ((↑i : Int) < (40 : Int)))) ?_
        refine rv (D.bool (decide ((↑i : Int) < (40 : Int)))) ?_
        refine k_done (k_skip_seq ?_)
        refine rkn 19 (decide ((↑i : Int) < (40 : Int))) true (decide_eq_true (by omega)) ?_
        refine kct (k_skip_seq (k_seq (k_block (k_seq ?_))))
        refine rv (D.sl (acts sc) none) ?_
        refine rv (D.int IntKind.i64 (↑i : Int)) ?_
        refine runs_index (sc) (ActR.cells) (o := none) (kd := IntKind.i64) (i) (by kernel_rfl) (by kernel_rfl) (by kernel_rfl) (by assumption) (by kernel_rfl) ?_
        refine rv (D.agg [D.int IntKind.i64 (ActR.kind sc[i]), D.str (ActR.a sc[i]), D.str (ActR.b sc[i]), D.int IntKind.i64 (ActR.n sc[i])]) ?_
        refine rgf (D.lptr (9 : Nat) (0 : Nat)) (σ0) ?_
        refine rgf (D.junk) (σ0) ?_
        refine k_done (k_skip_seq (k_seq ?_))
        refine rv (D.int IntKind.i64 (0 : Int)) ?_
        refine k_done (k_skip_seq (k_seq ?_))
        refine rv (D.int IntKind.i64 (0 : Int)) ?_
        refine k_done (k_skip_seq (k_seq (k_seq ?_)))
        refine rv (D.lptr (9 : Nat) (0 : Nat)) ?_
        refine rv (D.int IntKind.i64 (ActR.kind sc[i])) ?_
        refine rv (D.int IntKind.i64 (IntKind.wrap IntKind.i64 (↑(BitVec.toNat (BitVec.ofInt (IntKind.bits IntKind.i64) (ActR.kind sc[i]) &&& BitVec.ofInt (IntKind.bits IntKind.i64) (3 : Int))) : Int))) ?_
        refine k_done (k_skip_seq (k_block (k_seq ?_)))
        refine rv (D.bool (IntKind.wrap IntKind.i64 (↑(BitVec.toNat (BitVec.ofInt (IntKind.bits IntKind.i64) (ActR.kind sc[i]) &&& BitVec.ofInt (IntKind.bits IntKind.i64) (3 : Int))) : Int) == (0 : Int))) ?_
        refine ra0 (D.bool (IntKind.wrap IntKind.i64 (↑(BitVec.toNat (BitVec.ofInt (IntKind.bits IntKind.i64) (ActR.kind sc[i]) &&& BitVec.ofInt (IntKind.bits IntKind.i64) (3 : Int))) : Int) == (0 : Int))) ?_
        refine k_done (k_skip_seq ?_)
        refine rkn 44 (IntKind.wrap IntKind.i64 (↑(BitVec.toNat (BitVec.ofInt (IntKind.bits IntKind.i64) (ActR.kind sc[i]) &&& BitVec.ofInt (IntKind.bits IntKind.i64) (3 : Int))) : Int) == (0 : Int)) true (decide_eq_true (by assumption)) ?_
        refine kct (k_seq ?_)
        refine rv (D.ptr ot (0 : Nat)) ?_
        refine rv (D.lptr (9 : Nat) (1 : Nat)) ?_
        refine rv (D.str (ActR.a sc[i])) ?_
        refine rv (D.lptr (9 : Nat) (2 : Nat)) ?_
        refine rv (D.str (ActR.b sc[i])) ?_
        refine rv (D.lptr (9 : Nat) (3 : Nat)) ?_
        refine rv (D.int IntKind.i64 (ActR.n sc[i])) ?_
        refine runs_call_st ([D.ptr ot (0 : Nat), D.str (ActR.a sc[i]), D.str (ActR.b sc[i]), D.int IntKind.i64 (ActR.n sc[i])]) (by kernel_rfl) (by kernel_rfl) (by kernel_rfl) (by kernel_rfl) (hc) ?_
        refine ra0 (D.int IntKind.i64 e) ?_
        refine k_done (k_skip_seq ?_)
        refine rv (D.agg [D.sl (List.map nW (nodesV ns0)) none, D.sl (List.map HeldR.cells (heldV hs0)) none]) ?_
        refine rv (D.lptr (9 : Nat) (1 : Nat)) ?_
        refine rv (D.str (ActR.a sc[i])) ?_
        refine rv (D.lptr (9 : Nat) (2 : Nat)) ?_
        refine rv (D.str (ActR.b sc[i])) ?_
        refine rv (D.lptr (9 : Nat) (3 : Nat)) ?_
        refine rv (D.int IntKind.i64 (ActR.n sc[i])) ?_
        refine runs_call ([D.agg [D.sl (List.map nW (nodesV ns0)) none, D.sl (List.map HeldR.cells (heldV hs0)) none], D.str (ActR.a sc[i]), D.str (ActR.b sc[i]), D.int IntKind.i64 (ActR.n sc[i])]) (by kernel_rfl) (by kernel_rfl) (by kernel_rfl) (by kernel_rfl) (ht) (by kernel_rfl) ?_
        refine rv (D.tup [D.agg [D.sl (List.map nW (nodesV ns1)) none, D.sl (List.map HeldR.cells (heldV hs1)) none], D.int IntKind.i64 e]) ?_
        refine rv (D.agg [D.sl (List.map nW (nodesV ns1)) none, D.sl (List.map HeldR.cells (heldV hs1)) none]) ?_
        refine rv (D.int IntKind.i64 e) ?_
        refine rgf (D.junk) (σ1) ?_
        refine ra0 (D.int IntKind.i64 e) ?_
        refine k_done (k_skip_block (k_skip_seq (k_seq ?_)))
        refine rv (D.int IntKind.i64 e) ?_
        refine rv (D.int IntKind.i64 e) ?_
        refine rv (D.bool (e != e)) ?_
        refine rv (D.bool (e != e)) ?_
        refine rkn 102 (e != e) false (bne_eq_false_iff_eq.2 (by omega)) ?_
        refine rv (D.ptr ot (0 : Nat)) ?_
        refine rv (D.agg [D.sl (List.map nW (nodesV ns1)) none, D.sl (List.map HeldR.cells (heldV hs1)) none]) ?_
        refine runs_call_st ([D.ptr ot (0 : Nat), D.agg [D.sl (List.map nW (nodesV ns1)) none, D.sl (List.map HeldR.cells (heldV hs1)) none]]) (by kernel_rfl) (by kernel_rfl) (by kernel_rfl) (by kernel_rfl) (hsame) ?_
        refine rv (D.bool false) ?_
        refine rv (D.bool false) ?_
        refine k_done (k_skip_seq (kcf (k_skip_block (k_skip_seq ?_))))
        refine rv (D.int IntKind.i64 (↑i : Int)) ?_
        refine rve (D.int IntKind.i64 (IntKind.wrap IntKind.i64 ((↑i : Int) + (1 : Int)))) (.int IntKind.i64 ((i + 1 : Nat) : Int)) (congrArg (D.int IntKind.i64) (show IntKind.wrap IntKind.i64 ((↑i : Int) + (1 : Int)) = ((i + 1 : Nat) : Int) from wrap_eq (by omega) (by omega) (by omega))) ?_
        refine ra0 (D.int IntKind.i64 (↑(i + (1 : Nat)) : Int)) ?_
        refine k_done (k_skip_back ?_)
        exact ⟨⟨i + 1, σ1 ++ [Go.Abs.Obj.cells [.map oh]], ns1, hs1⟩, ⟨c2, P1.app _, KeptS.trans K2 (KeptS.append _ _ _), B2⟩, by simp only []; omega, by kernel_rfl, rfl⟩
      · by_cases k1 : IntKind.wrap IntKind.i64 (↑(BitVec.toNat (BitVec.ofInt (IntKind.bits IntKind.i64) (ActR.kind sc[i]) &&& BitVec.ofInt (IntKind.bits IntKind.i64) (3 : Int))) : Int) = 1
        · obtain ⟨e, σ1, ns1, hs1, hc, ht, K1, B1, P1⟩ := step_res P0 (by omega) hn1 hn2 sc[i].a sc[i].b sc[i].n hai.2.2 hai.1
          have hsame := same_ok n P1.I hn1
          obtain ⟨K2, B2⟩ := kept_step K Bn K1 B1
          unfold treeD at ht hsame
          refine k_seq (k_seq ?_)
          refine rv (D.int IntKind.i64 (↑i : Int)) ?_
          refine rv (D.sl (acts sc) none) ?_
          refine rve (D.int IntKind.i64 (↑(List.length (acts sc)) : Int)) (.int IntKind.i64 ((↑(List.length sc) : Int))) (by simp only [ints, eInt, rows, eInts, bools, eBool, trips, eTrip, i8s, u16s, u8s, acts, List.length_map]) ?_
          refine rv (D.bool (decide ((↑i : Int) < (↑(List.length sc) : Int)))) ?_
          refine rv (D.bool (decide ((↑i : Int) < (↑(List.length sc) : Int)))) ?_
          refine rkn 16 (decide ((↑i : Int) < (↑(List.length sc) : Int))) true (decide_eq_true (by omega)) ?_
          refine rv (D.int IntKind.i64 (↑i : Int)) ?_
          refine rv (D.bool (decide ((↑i : Int) < (40 : Int)))) ?_
          refine rv (D.bool (decide ((↑i : Int) < (40 : Int)))) ?_
          refine k_done (k_skip_seq ?_)
          refine rkn 19 (decide ((↑i : Int) < (40 : Int))) true (decide_eq_true (by omega)) ?_
          refine kct (k_skip_seq (k_seq (k_block (k_seq ?_))))
          refine rv (D.sl (acts sc) none) ?_
          refine rv (D.int IntKind.i64 (↑i : Int)) ?_
          refine runs_index (sc) (ActR.cells) (o := none) (kd := IntKind.i64) (i) (by kernel_rfl) (by kernel_rfl) (by kernel_rfl) (by assumption) (by kernel_rfl) ?_
          refine rv (D.agg [D.int IntKind.i64 (ActR.kind sc[i]), D.str (ActR.a sc[i]), D.str (ActR.b sc[i]), D.int IntKind.i64 (ActR.n sc[i])]) ?_
          refine rgf (D.lptr (9 : Nat) (0 : Nat)) (σ0) ?_
          refine rgf (D.junk) (σ0) ?_
          refine k_done (k_skip_seq (k_seq ?_))
          refine rv (D.int IntKind.i64 (0 : Int)) ?_
          refine k_done (k_skip_seq (k_seq ?_))
          refine rv (D.int IntKind.i64 (0 : Int)) ?_
          refine k_done (k_skip_seq (k_seq (k_seq ?_)))
          refine rv (D.lptr (9 : Nat) (0 : Nat)) ?_
          refine rv (D.int IntKind.i64 (ActR.kind sc[i])) ?_
          refine rv (D.int IntKind.i64 (IntKind.wrap IntKind.i64 (↑(BitVec.toNat (BitVec.ofInt (IntKind.bits IntKind.i64) (ActR.kind sc[i]) &&& BitVec.ofInt (IntKind.bits IntKind.i64) (3 : Int))) : Int))) ?_
          refine k_done (k_skip_seq (k_block (k_seq ?_)))
          refine rv (D.bool (IntKind.wrap IntKind.i64 (↑(BitVec.toNat (BitVec.ofInt (IntKind.bits IntKind.i64) (ActR.kind sc[i]) &&& BitVec.ofInt (IntKind.bits IntKind.i64) (3 : Int))) : Int) == (0 : Int))) ?_
          refine ra0 (D.bool (IntKind.wrap IntKind.i64 (↑(BitVec.toNat (BitVec.ofInt (IntKind.bits IntKind.i64) (ActR.kind sc[i]) &&& BitVec.ofInt (IntKind.bits IntKind.i64) (3 : Int))) : Int) == (0 : Int))) ?_
          refine k_done (k_skip_seq ?_)
          refine rkn 44 (IntKind.wrap IntKind.i64 (↑(BitVec.toNat (BitVec.ofInt (IntKind.bits IntKind.i64) (ActR.kind sc[i]) &&& BitVec.ofInt (IntKind.bits IntKind.i64) (3 : Int))) : Int) == (0 : Int)) false (decide_eq_false (by assumption)) ?_
          refine kcf (k_seq ?_)
          refine rv (D.bool (IntKind.wrap IntKind.i64 (↑(BitVec.toNat (BitVec.ofInt (IntKind.bits IntKind.i64) (ActR.kind sc[i]) &&& BitVec.ofInt (IntKind.bits IntKind.i64) (3 : Int))) : Int) == (1 : Int))) ?_
          refine ra0 (D.bool (IntKind.wrap IntKind.i64 (↑(BitVec.toNat (BitVec.ofInt (IntKind.bits IntKind.i64) (ActR.kind sc[i]) &&& BitVec.ofInt (IntKind.bits IntKind.i64) (3 : Int))) : Int) == (1 : Int))) ?_
          refine k_done (k_skip_seq ?_)
          refine rkn 65 (IntKind.wrap IntKind.i64 (↑(BitVec.toNat (BitVec.ofInt (IntKind.bits IntKind.i64) (ActR.kind sc[i]) &&& BitVec.ofInt (IntKind.bits IntKind.i64) (3 : Int))) : Int) == (1 : Int)) true (decide_eq_true (by assumption)) ?_
          refine kct (k_seq ?_)
          refine rv (D.ptr ot (0 : Nat)) ?_
          refine rv (D.lptr (9 : Nat) (1 : Nat)) ?_
          refine rv (D.str (ActR.a sc[i])) ?_
          refine rv (D.lptr (9 : Nat) (2 : Nat)) ?_
          refine rv (D.str (ActR.b sc[i])) ?_
          refine rv (D.lptr (9 : Nat) (3 : Nat)) ?_
          refine rv (D.int IntKind.i64 (ActR.n sc[i])) ?_
          refine runs_call_st ([D.ptr ot (0 : Nat), D.str (ActR.a sc[i]), D.str (ActR.b sc[i]), D.int IntKind.i64 (ActR.n sc[i])]) (by kernel_rfl) (by kernel_rfl) (by kernel_rfl) (by kernel_rfl) (hc) ?_
          refine ra0 (D.int IntKind.i64 e) ?_
          refine k_done (k_skip_seq ?_)
          refine rv (D.agg [D.sl (List.map nW (nodesV ns0)) none, D.sl (List.map HeldR.cells (heldV hs0)) none]) ?_
          refine rv (D.lptr (9 : Nat) (1 : Nat)) ?_
          refine rv (D.str (ActR.a sc[i])) ?_
          refine rv (D.lptr (9 : Nat) (2 : Nat)) ?_
          refine rv (D.str (ActR.b sc[i])) ?_
          refine rv (D.lptr (9 : Nat) (3 : Nat)) ?_
          refine rv (D.int IntKind.i64 (ActR.n sc[i])) ?_
          refine runs_call ([D.agg [D.sl (List.map nW (nodesV ns0)) none, D.sl (List.map HeldR.cells (heldV hs0)) none], D.str (ActR.a sc[i]), D.str (ActR.b sc[i]), D.int IntKind.i64 (ActR.n sc[i])]) (by kernel_rfl) (by kernel_rfl) (by kernel_rfl) (by kernel_rfl) (ht) (by kernel_rfl) ?_
          refine rv (D.tup [D.agg [D.sl (List.map nW (nodesV ns1)) none, D.sl (List.map HeldR.cells (heldV hs1)) none], D.int IntKind.i64 e]) ?_
          refine rv (D.agg [D.sl (List.map nW (nodesV ns1)) none, D.sl (List.map HeldR.cells (heldV hs1)) none]) ?_
          refine rv (D.int IntKind.i64 e) ?_
          refine rgf (D.junk) (σ1) ?_
          refine ra0 (D.int IntKind.i64 e) ?_
          refine k_done (k_skip_block (k_skip_seq (k_seq ?_)))
          refine rv (D.int IntKind.i64 e) ?_
          refine rv (D.int IntKind.i64 e) ?_
          refine rv (D.bool (e != e)) ?_
          refine rv (D.bool (e != e)) ?_
          refine rkn 102 (e != e) false (bne_eq_false_iff_eq.2 (by omega)) ?_
          refine rv (D.ptr ot (0 : Nat)) ?_
          refine rv (D.agg [D.sl (List.map nW (nodesV ns1)) none, D.sl (List.map HeldR.cells (heldV hs1)) none]) ?_
          refine runs_call_st ([D.ptr ot (0 : Nat), D.agg [D.sl (List.map nW (nodesV ns1)) none, D.sl (List.map HeldR.cells (heldV hs1)) none]]) (by kernel_rfl) (by kernel_rfl) (by kernel_rfl) (by kernel_rfl) (hsame) ?_
          refine rv (D.bool false) ?_
          refine rv (D.bool false) ?_
          refine k_done (k_skip_seq (kcf (k_skip_block (k_skip_seq ?_))))
          refine rv (D.int IntKind.i64 (↑i : Int)) ?_
          refine rve (D.int IntKind.i64 (IntKind.wrap IntKind.i64 ((↑i : Int) + (1 : Int)))) (.int IntKind.i64 ((i + 1 : Nat) : Int)) (congrArg (D.int IntKind.i64) (show IntKind.wrap IntKind.i64 ((↑i : Int) + (1 : Int)) = ((i + 1 : Nat) : Int) from wrap_eq (by omega) (by omega) (by omega))) ?_
          refine ra0 (D.int IntKind.i64 (↑(i + (1 : Nat)) : Int)) ?_
          refine k_done (k_skip_back ?_)
          exact ⟨⟨i + 1, σ1 ++ [Go.Abs.Obj.cells [.map oh]], ns1, hs1⟩, ⟨c2, P1.app _, KeptS.trans K2 (KeptS.append _ _ _), B2⟩, by simp only []; omega, by kernel_rfl, rfl⟩
        · by_cases k2 : IntKind.wrap IntKind.i64 (↑(BitVec.toNat (BitVec.ofInt (IntKind.bits IntKind.i64) (ActR.kind sc[i]) &&& BitVec.ofInt (IntKind.bits IntKind.i64) (3 : Int))) : Int) = 2
          · obtain ⟨e, σ1, ns1, hs1, hc, ht, K1, B1, P1⟩ := step_rel P0 (by omega) hn1 hn2 sc[i].b
            have hsame := same_ok n P1.I hn1
            obtain ⟨K2, B2⟩ := kept_step K Bn K1 B1
            unfold treeD at ht hsame
            refine k_seq (k_seq ?_)
            refine rv (D.int IntKind.i64 (↑i : Int)) ?_
            refine rv (D.sl (acts sc) none) ?_
            refine rve (D.int IntKind.i64 (↑(List.length (acts sc)) : Int)) (.int IntKind.i64 ((↑(List.length sc) : Int))) (by simp only [ints, eInt, rows, eInts, bools, eBool, trips, eTrip, i8s, u16s, u8s, acts, List.length_map]) ?_
            refine rv (D.bool (decide ((↑i : Int) < (↑(List.length sc) : Int)))) ?_
            refine rv (D.bool (decide ((↑i : Int) < (↑(List.length sc) : Int)))) ?_
            refine rkn 16 (decide ((↑i : Int) < (↑(List.length sc) : Int))) true (decide_eq_true (by omega)) ?_
            refine rv (D.int IntKind.i64 (↑i : Int)) ?_
            refine rv (D.bool (decide ((↑i : Int) < (40 : Int)))) ?_
            refine rv (D.bool (decide ((↑i : Int) < (40 : Int)))) ?_
            refine k_done (k_skip_seq ?_)
            refine rkn 19 (decide ((↑i : Int) < (40 : Int))) true (decide_eq_true (by omega)) ?_
            refine kct (k_skip_seq (k_seq (k_block (k_seq ?_))))
            refine rv (D.sl (acts sc) none) ?_
            refine rv (D.int IntKind.i64 (↑i : Int)) ?_
            refine runs_index (sc) (ActR.cells) (o := none) (kd := IntKind.i64) (i) (by kernel_rfl) (by kernel_rfl) (by kernel_rfl) (by assumption) (by kernel_rfl) ?_
            refine rv (D.agg [D.int IntKind.i64 (ActR.kind sc[i]), D.str (ActR.a sc[i]), D.str (ActR.b sc[i]), D.int IntKind.i64 (ActR.n sc[i])]) ?_
            refine rgf (D.lptr (9 : Nat) (0 : Nat)) (σ0) ?_
            refine rgf (D.junk) (σ0) ?_
            refine k_done (k_skip_seq (k_seq ?_))
            refine rv (D.int IntKind.i64 (0 : Int)) ?_
            refine k_done (k_skip_seq (k_seq ?_))
            refine rv (D.int IntKind.i64 (0 : Int)) ?_
            refine k_done (k_skip_seq (k_seq (k_seq ?_)))
            refine rv (D.lptr (9 : Nat) (0 : Nat)) ?_
            refine rv (D.int IntKind.i64 (ActR.kind sc[i])) ?_
            refine rv (D.int IntKind.i64 (IntKind.wrap IntKind.i64 (↑(BitVec.toNat (BitVec.ofInt (IntKind.bits IntKind.i64) (ActR.kind sc[i]) &&& BitVec.ofInt (IntKind.bits IntKind.i64) (3 : Int))) : Int))) ?_
            refine k_done (k_skip_seq (k_block (k_seq ?_)))
            refine rv (D.bool (IntKind.wrap IntKind.i64 (↑(BitVec.toNat (BitVec.ofInt (IntKind.bits IntKind.i64) (ActR.kind sc[i]) &&& BitVec.ofInt (IntKind.bits IntKind.i64) (3 : Int))) : Int) == (0 : Int))) ?_
            refine ra0 (D.bool (IntKind.wrap IntKind.i64 (↑(BitVec.toNat (BitVec.ofInt (IntKind.bits IntKind.i64) (ActR.kind sc[i]) &&& BitVec.ofInt (IntKind.bits IntKind.i64) (3 : Int))) : Int) == (0 : Int))) ?_
            refine k_done (k_skip_seq ?_)
            refine rkn 44 (IntKind.wrap IntKind.i64 (↑(BitVec.toNat (BitVec.ofInt (IntKind.bits IntKind.i64) (ActR.kind sc[i]) &&& BitVec.ofInt (IntKind.bits IntKind.i64) (3 : Int))) : Int) == (0 : Int)) false (decide_eq_false (by assumption)) ?_
            refine kcf (k_seq ?_)
            refine rv (D.bool (IntKind.wrap IntKind.i64 (↑(BitVec.toNat (BitVec.ofInt (IntKind.bits IntKind.i64) (ActR.kind sc[i]) &&& BitVec.ofInt (IntKind.bits IntKind.i64) (3 : Int))) : Int) == (1 : Int))) ?_
            refine ra0 (D.bool (IntKind.wrap IntKind.i64 (↑(BitVec.toNat (BitVec.ofInt (IntKind.bits IntKind.i64) (ActR.kind sc[i]) &&& BitVec.ofInt (IntKind.bits IntKind.i64) (3 : Int))) : Int) == (1 : Int))) ?_
            refine k_done (k_skip_seq ?_)
            refine rkn 65 (IntKind.wrap IntKind.i64 (↑(BitVec.toNat (BitVec.ofInt (IntKind.bits IntKind.i64) (ActR.kind sc[i]) &&& BitVec.ofInt (IntKind.bits IntKind.i64) (3 : Int))) : Int) == (1 : Int)) false (decide_eq_false (by assumption)) ?_
            refine kcf (k_seq ?_)
            refine rv (D.bool (IntKind.wrap IntKind.i64 (↑(BitVec.toNat (BitVec.ofInt (IntKind.bits IntKind.i64) (ActR.kind sc[i]) &&& BitVec.ofInt (IntKind.bits IntKind.i64) (3 : Int))) : Int) == (2 : Int))) ?_
            refine ra0 (D.bool (IntKind.wrap IntKind.i64 (↑(BitVec.toNat (BitVec.ofInt (IntKind.bits IntKind.i64) (ActR.kind sc[i]) &&& BitVec.ofInt (IntKind.bits IntKind.i64) (3 : Int))) : Int) == (2 : Int))) ?_
            refine k_done (k_skip_seq ?_)
            refine rkn 86 (IntKind.wrap IntKind.i64 (↑(BitVec.toNat (BitVec.ofInt (IntKind.bits IntKind.i64) (ActR.kind sc[i]) &&& BitVec.ofInt (IntKind.bits IntKind.i64) (3 : Int))) : Int) == (2 : Int)) true (decide_eq_true (by assumption)) ?_
            refine kct (k_seq ?_)
            refine rv (D.ptr ot (0 : Nat)) ?_
            refine rv (D.lptr (9 : Nat) (2 : Nat)) ?_
            refine rv (D.str (ActR.b sc[i])) ?_
            refine runs_call_st ([D.ptr ot (0 : Nat), D.str (ActR.b sc[i])]) (by kernel_rfl) (by kernel_rfl) (by kernel_rfl) (by kernel_rfl) (hc) ?_
            refine ra0 (D.int IntKind.i64 e) ?_
            refine k_done (k_skip_seq ?_)
            refine rv (D.agg [D.sl (List.map nW (nodesV ns0)) none, D.sl (List.map HeldR.cells (heldV hs0)) none]) ?_
            refine rv (D.lptr (9 : Nat) (2 : Nat)) ?_
            refine rv (D.str (ActR.b sc[i])) ?_
            refine runs_call ([D.agg [D.sl (List.map nW (nodesV ns0)) none, D.sl (List.map HeldR.cells (heldV hs0)) none], D.str (ActR.b sc[i])]) (by kernel_rfl) (by kernel_rfl) (by kernel_rfl) (by kernel_rfl) (ht) (by kernel_rfl) ?_
            refine rv (D.tup [D.agg [D.sl (List.map nW (nodesV ns1)) none, D.sl (List.map HeldR.cells (heldV hs1)) none], D.int IntKind.i64 e]) ?_
            refine rv (D.agg [D.sl (List.map nW (nodesV ns1)) none, D.sl (List.map HeldR.cells (heldV hs1)) none]) ?_
            refine rv (D.int IntKind.i64 e) ?_
            refine rgf (D.junk) (σ1) ?_
            refine ra0 (D.int IntKind.i64 e) ?_
            refine k_done (k_skip_block (k_skip_seq (k_seq ?_)))
            refine rv (D.int IntKind.i64 e) ?_
            refine rv (D.int IntKind.i64 e) ?_
            refine rv (D.bool (e != e)) ?_
            refine rv (D.bool (e != e)) ?_
            refine rkn 102 (e != e) false (bne_eq_false_iff_eq.2 (by omega)) ?_
            refine rv (D.ptr ot (0 : Nat)) ?_
            refine rv (D.agg [D.sl (List.map nW (nodesV ns1)) none, D.sl (List.map HeldR.cells (heldV hs1)) none]) ?_
            refine runs_call_st ([D.ptr ot (0 : Nat), D.agg [D.sl (List.map nW (nodesV ns1)) none, D.sl (List.map HeldR.cells (heldV hs1)) none]]) (by kernel_rfl) (by kernel_rfl) (by kernel_rfl) (by kernel_rfl) (hsame) ?_
            refine rv (D.bool false) ?_
            refine rv (D.bool false) ?_
            refine k_done (k_skip_seq (kcf (k_skip_block (k_skip_seq ?_))))
            refine rv (D.int IntKind.i64 (↑i : Int)) ?_
            refine rve (D.int IntKind.i64 (IntKind.wrap IntKind.i64 ((↑i : Int) + (1 : Int)))) (.int IntKind.i64 ((i + 1 : Nat) : Int)) (congrArg (D.int IntKind.i64) (show IntKind.wrap IntKind.i64 ((↑i : Int) + (1 : Int)) = ((i + 1 : Nat) : Int) from wrap_eq (by omega) (by omega) (by omega))) ?_
            refine ra0 (D.int IntKind.i64 (↑(i + (1 : Nat)) : Int)) ?_
            refine k_done (k_skip_back ?_)
            exact ⟨⟨i + 1, σ1 ++ [Go.Abs.Obj.cells [.map oh]], ns1, hs1⟩, ⟨c2, P1.app _, KeptS.trans K2 (KeptS.append _ _ _), B2⟩, by simp only []; omega, by kernel_rfl, rfl⟩
          · obtain ⟨e, σ1, ns1, r, σc, hc, hfz, K1, B1, P1⟩ := step_lim P0 (by omega) hn1 hn2 sc[i].a sc[i].n hai.1
            have hsame := same_ok n P1.I hn1
            obtain ⟨K2, B2⟩ := kept_step K Bn K1 B1
            unfold treeD at hfz hsame
            refine k_seq (k_seq ?_)
            refine rv (D.int IntKind.i64 (↑i : Int)) ?_
            refine rv (D.sl (acts sc) none) ?_
            refine rve (D.int IntKind.i64 (↑(List.length (acts sc)) : Int)) (.int IntKind.i64 ((↑(List.length sc) : Int))) (by simp only [ints, eInt, rows, eInts, bools, eBool, trips, eTrip, i8s, u16s, u8s, acts, List.length_map]) ?_
            refine rv (D.bool (decide ((↑i : Int) < (↑(List.length sc) : Int)))) ?_
            refine rv (D.bool (decide ((↑i : Int) < (↑(List.length sc) : Int)))) ?_
            refine rkn 16 (decide ((↑i : Int) < (↑(List.length sc) : Int))) true (decide_eq_true (by omega)) ?_
            refine rv (D.int IntKind.i64 (↑i : Int)) ?_
            refine rv (D.bool (decide ((↑i : Int) < (40 : Int)))) ?_
            refine rv (D.bool (decide ((↑i : Int) < (40 : Int)))) ?_
            refine k_done (k_skip_seq ?_)
            refine rkn 19 (decide ((↑i : Int) < (40 : Int))) true (decide_eq_true (by omega)) ?_
            refine kct (k_skip_seq (k_seq (k_block (k_seq ?_))))
            refine rv (D.sl (acts sc) none) ?_
            refine rv (D.int IntKind.i64 (↑i : Int)) ?_
            refine runs_index (sc) (ActR.cells) (o := none) (kd := IntKind.i64) (i) (by kernel_rfl) (by kernel_rfl) (by kernel_rfl) (by assumption) (by kernel_rfl) ?_
            refine rv (D.agg [D.int IntKind.i64 (ActR.kind sc[i]), D.str (ActR.a sc[i]), D.str (ActR.b sc[i]), D.int IntKind.i64 (ActR.n sc[i])]) ?_
            refine rgf (D.lptr (9 : Nat) (0 : Nat)) (σ0) ?_
            refine rgf (D.junk) (σ0) ?_
            refine k_done (k_skip_seq (k_seq ?_))
            refine rv (D.int IntKind.i64 (0 : Int)) ?_
            refine k_done (k_skip_seq (k_seq ?_))
            refine rv (D.int IntKind.i64 (0 : Int)) ?_
            refine k_done (k_skip_seq (k_seq (k_seq ?_)))
            refine rv (D.lptr (9 : Nat) (0 : Nat)) ?_
            refine rv (D.int IntKind.i64 (ActR.kind sc[i])) ?_
            refine rv (D.int IntKind.i64 (IntKind.wrap IntKind.i64 (↑(BitVec.toNat (BitVec.ofInt (IntKind.bits IntKind.i64) (ActR.kind sc[i]) &&& BitVec.ofInt (IntKind.bits IntKind.i64) (3 : Int))) : Int))) ?_
            refine k_done (k_skip_seq (k_block (k_seq ?_)))
            refine rv (D.bool (IntKind.wrap IntKind.i64 (↑(BitVec.toNat (BitVec.ofInt (IntKind.bits IntKind.i64) (ActR.kind sc[i]) &&& BitVec.ofInt (IntKind.bits IntKind.i64) (3 : Int))) : Int) == (0 : Int))) ?_
            refine ra0 (D.bool (IntKind.wrap IntKind.i64 (↑(BitVec.toNat (BitVec.ofInt (IntKind.bits IntKind.i64) (ActR.kind sc[i]) &&& BitVec.ofInt (IntKind.bits IntKind.i64) (3 : Int))) : Int) == (0 : Int))) ?_
            refine k_done (k_skip_seq ?_)
            refine rkn 44 (IntKind.wrap IntKind.i64 (↑(BitVec.toNat (BitVec.ofInt (IntKind.bits IntKind.i64) (ActR.kind sc[i]) &&& BitVec.ofInt (IntKind.bits IntKind.i64) (3 : Int))) : Int) == (0 : Int)) false (decide_eq_false (by assumption)) ?_
            refine kcf (k_seq ?_)
            refine rv (D.bool (IntKind.wrap IntKind.i64 (↑(BitVec.toNat (BitVec.ofInt (IntKind.bits IntKind.i64) (ActR.kind sc[i]) &&& BitVec.ofInt (IntKind.bits IntKind.i64) (3 : Int))) : Int) == (1 : Int))) ?_
            refine ra0 (D.bool (IntKind.wrap IntKind.i64 (↑(BitVec.toNat (BitVec.ofInt (IntKind.bits IntKind.i64) (ActR.kind sc[i]) &&& BitVec.ofInt (IntKind.bits IntKind.i64) (3 : Int))) : Int) == (1 : Int))) ?_
            refine k_done (k_skip_seq ?_)
            refine rkn 65 (IntKind.wrap IntKind.i64 (↑(BitVec.toNat (BitVec.ofInt (IntKind.bits IntKind.i64) (ActR.kind sc[i]) &&& BitVec.ofInt (IntKind.bits IntKind.i64) (3 : Int))) : Int) == (1 : Int)) false (decide_eq_false (by assumption)) ?_
            refine kcf (k_seq ?_)
            refine rv (D.bool (IntKind.wrap IntKind.i64 (↑(BitVec.toNat (BitVec.ofInt (IntKind.bits IntKind.i64) (ActR.kind sc[i]) &&& BitVec.ofInt (IntKind.bits IntKind.i64) (3 : Int))) : Int) == (2 : Int))) ?_
            refine ra0 (D.bool (IntKind.wrap IntKind.i64 (↑(BitVec.toNat (BitVec.ofInt (IntKind.bits IntKind.i64) (ActR.kind sc[i]) &&& BitVec.ofInt (IntKind.bits IntKind.i64) (3 : Int))) : Int) == (2 : Int))) ?_
            refine k_done (k_skip_seq ?_)
            refine rkn 86 (IntKind.wrap IntKind.i64 (↑(BitVec.toNat (BitVec.ofInt (IntKind.bits IntKind.i64) (ActR.kind sc[i]) &&& BitVec.ofInt (IntKind.bits IntKind.i64) (3 : Int))) : Int) == (2 : Int)) false (decide_eq_false (by assumption)) ?_
            refine kcf (k_seq ?_)
            refine rv (D.ptr ot (0 : Nat)) ?_
            refine rv (D.lptr (9 : Nat) (1 : Nat)) ?_
            refine rv (D.str (ActR.a sc[i])) ?_
            refine rv (D.lptr (9 : Nat) (3 : Nat)) ?_
            refine rv (D.int IntKind.i64 (ActR.n sc[i])) ?_
            refine runs_call_st ([D.ptr ot (0 : Nat), D.str (ActR.a sc[i]), D.int IntKind.i64 (ActR.n sc[i])]) (by kernel_rfl) (by kernel_rfl) (by kernel_rfl) (by kernel_rfl) (hc) ?_
            refine ra0 (D.int IntKind.i64 e) ?_
            refine k_done (k_skip_seq ?_)
            refine rv (D.agg [D.sl (List.map nW (nodesV ns0)) none, D.sl (List.map HeldR.cells (heldV hs0)) none]) ?_
            refine rv (D.lptr (9 : Nat) (1 : Nat)) ?_
            refine rv (D.str (ActR.a sc[i])) ?_
            refine rv (D.lptr (9 : Nat) (3 : Nat)) ?_
            refine rv (D.int IntKind.i64 (ActR.n sc[i])) ?_
            refine runs_callF ([D.agg [D.sl (List.map nW (nodesV ns0)) none, D.sl (List.map HeldR.cells (heldV hs0)) none], D.str (ActR.a sc[i]), D.int IntKind.i64 (ActR.n sc[i])]) (by kernel_rfl) (by kernel_rfl) (by kernel_rfl) (by kernel_rfl) (hfz.1) (hfz.2) ?_
            refine rv (D.tup [D.agg [D.sl (List.map nW (nodesV ns1)) none, D.sl (List.map HeldR.cells (heldV hs0)) none], D.int IntKind.i64 e]) ?_
            refine rv (D.agg [D.sl (List.map nW (nodesV ns1)) none, D.sl (List.map HeldR.cells (heldV hs0)) none]) ?_
            refine rv (D.int IntKind.i64 e) ?_
            refine rgf (D.junk) (σ1) ?_
            refine ra0 (D.int IntKind.i64 e) ?_
            refine k_done (k_skip_block (k_skip_seq (k_seq ?_)))
            refine rv (D.int IntKind.i64 e) ?_
            refine rv (D.int IntKind.i64 e) ?_
            refine rv (D.bool (e != e)) ?_
            refine rv (D.bool (e != e)) ?_
            refine rkn 102 (e != e) false (bne_eq_false_iff_eq.2 (by omega)) ?_
            refine rv (D.ptr ot (0 : Nat)) ?_
            refine rv (D.agg [D.sl (List.map nW (nodesV ns1)) none, D.sl (List.map HeldR.cells (heldV hs0)) none]) ?_
            refine runs_call_st ([D.ptr ot (0 : Nat), D.agg [D.sl (List.map nW (nodesV ns1)) none, D.sl (List.map HeldR.cells (heldV hs0)) none]]) (by kernel_rfl) (by kernel_rfl) (by kernel_rfl) (by kernel_rfl) (hsame) ?_
            refine rv (D.bool false) ?_
            refine rv (D.bool false) ?_
            refine k_done (k_skip_seq (kcf (k_skip_block (k_skip_seq ?_))))
            refine rv (D.int IntKind.i64 (↑i : Int)) ?_
            refine rve (D.int IntKind.i64 (IntKind.wrap IntKind.i64 ((↑i : Int) + (1 : Int)))) (.int IntKind.i64 ((i + 1 : Nat) : Int)) (congrArg (D.int IntKind.i64) (show IntKind.wrap IntKind.i64 ((↑i : Int) + (1 : Int)) = ((i + 1 : Nat) : Int) from wrap_eq (by omega) (by omega) (by omega))) ?_
            refine ra0 (D.int IntKind.i64 (↑(i + (1 : Nat)) : Int)) ?_
            refine k_done (k_skip_back ?_)
            exact ⟨⟨i + 1, σ1 ++ [Go.Abs.Obj.cells [.map oh]], ns1, hs0⟩, ⟨c2, P1.app _, KeptS.trans K2 (KeptS.append _ _ _), B2⟩, by simp only []; omega, by kernel_rfl, rfl⟩
    · refine k_seq (k_seq ?_)
      refine rv (D.int IntKind.i64 (↑i : Int)) ?_
      refine rv (D.sl (acts sc) none) ?_
      refine rve (D.int IntKind.i64 (↑(List.length (acts sc)) : Int)) (.int IntKind.i64 ((↑(List.length sc) : Int))) (by simp only [ints, eInt, rows, eInts, bools, eBool, trips, eTrip, i8s, u16s, u8s, acts, List.length_map]) ?_
      refine rv (D.bool (decide ((↑i : Int) < (↑(List.length sc) : Int)))) ?_
      refine rv (D.bool (decide ((↑i : Int) < (↑(List.length sc) : Int)))) ?_
      refine rkn 16 (decide ((↑i : Int) < (↑(List.length sc) : Int))) true (decide_eq_true (by omega)) ?_
      refine rv (D.int IntKind.i64 (↑i : Int)) ?_
      refine rv (D.bool (decide ((↑i : Int) < (40 : Int)))) ?_
      refine rv (D.bool (decide ((↑i : Int) < (40 : Int)))) ?_
      refine k_done (k_skip_seq ?_)
      refine rkn 19 (decide ((↑i : Int) < (40 : Int))) false (decide_eq_false (by omega)) ?_
      refine kcf (k_exit_seq (k_exit_back (k_exit_hit rfl (k_skip_seq (k_seq ?_)))))
      refine rv (D.agg [D.sl (List.map nW (nodesV ns0)) none, D.sl (List.map HeldR.cells (heldV hs0)) none]) ?_
      refine rgf (D.junk) (σ0) ?_
      refine rv (D.bool true) ?_
      refine k_done (k_skip_seq (k_ret ?_))
      exact ⟨.inr rfl, by kernel_rfl, _, σ0, by kernel_rfl, ns0, hs0, rfl, ⟨P0.I, P0.sa, P0.sb, by have := P0.ln; omega, by have := P0.lh; omega⟩, K, Bn⟩
  · refine k_seq (k_seq ?_)
    refine rv (D.int IntKind.i64 (↑i : Int)) ?_
    refine rv (D.sl (acts sc) none) ?_
    refine rve (D.int IntKind.i64 (↑(List.length (acts sc)) : Int)) (.int IntKind.i64 ((↑(List.length sc) : Int))) (by simp only [ints, eInt, rows, eInts, bools, eBool, trips, eTrip, i8s, u16s, u8s, acts, List.length_map]) ?_
    refine rv (D.bool (decide ((↑i : Int) < (↑(List.length sc) : Int)))) ?_
    refine rv (D.bool (decide ((↑i : Int) < (↑(List.length sc) : Int)))) ?_
    refine rkn 16 (decide ((↑i : Int) < (↑(List.length sc) : Int))) false (decide_eq_false (by omega)) ?_
    refine rno (rno ?_)
    refine rv (D.bool false) ?_
    refine k_done (k_skip_seq (kcf (k_exit_seq (k_exit_back (k_exit_hit rfl (k_skip_seq (k_seq ?_)))))))
    refine rv (D.agg [D.sl (List.map nW (nodesV ns0)) none, D.sl (List.map HeldR.cells (heldV hs0)) none]) ?_
    refine rgf (D.junk) (σ0) ?_
    refine rv (D.bool true) ?_
    refine k_done (k_skip_seq (k_ret ?_))
    exact ⟨.inr rfl, by kernel_rfl, _, σ0, by kernel_rfl, ns0, hs0, rfl, ⟨P0.I, P0.sa, P0.sb, by have := P0.ln; omega, by have := P0.lh; omega⟩, K, Bn⟩
end Go.Abs.C
