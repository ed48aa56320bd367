/-
  The statement ClausesLiterals as the machine code sees it: the walk.
-/
import Derived.Test.YtjmhfliaehhijaaKont2
import Derived.Test.YtjmhfliaehhijaaA19
import Derived.Test.YtjmhfliaehhijaaAt
set_option linter.unusedVariables false
set_option linter.unusedSimpArgs false
namespace Go.Abs.A
open Go Go.Abs
set_option maxRecDepth 8000
attribute [local irreducible] callN runC evalOp

def f11a (l : List Int) (an : Bool) (t : List D) (op : Int) (ks : List (List D)) (w : Bool) (i : Int) : Fr :=
  Fr.mk ([.sl (i8s l) none, .bool an, .agg t, .junk, .junk, .lptr 5 0, .bool false, .junk, .lptr 8 0, .bool w, .int .i64 i] ++ List.replicate 113 .junk)
    (((List.replicate 124 none).set 5 (some t)).set 8 (some [.int .i64 op, .int .i64 0, .sl ks (some 24)])) []
def f11b (l : List Int) (an : Bool) (t : List D) (op : Int) (ks : List (List D)) (w : Bool) (i : Int) (c : List (List Int)) (m : Nat) (found x : Int) (d19 d20 : D) : Fr :=
  Fr.mk ([.sl (i8s l) none, .bool an, .agg t, .junk, .junk, .lptr 5 0, .bool false, .junk, .lptr 8 0, .bool w, .int .i64 i, .junk, .junk, .junk, .junk, .sl (rows c) none, .int .i64 ((m + 6 : Nat) : Int), .int .i64 found, .int .i64 x, d19, d20] ++ List.replicate 103 .junk)
    (((List.replicate 124 none).set 5 (some t)).set 8 (some [.int .i64 op, .int .i64 0, .sl ks (some 24)])) []
def wantR (an : Bool) (t : List Bool) (l : List Int) : Bool := if an = true then l.all (isl t) else l.any (isl t)
theorem wantR_snoc (an : Bool) (t : List Bool) (l : List Int) (v : Int) : wantR an t (l ++ [v]) = if an = true then (wantR an t l && isl t v) else (wantR an t l || isl t v) := by
  unfold wantR
  cases an <;> simp
set_option maxHeartbeats 1600000 in
theorem lawLiterals_ok (l : List Int) (an : Bool) (b0 b1 b2 b3 b4 b5 : Bool) (o : Option Nat) (hl : ∀ n ∈ l, -128 ≤ n ∧ n ≤ 127) : ∃ σ, callN T 5001 11 [.sl (i8s l) o, .bool an, .agg [.bool b0, .bool b1, .bool b2, .bool b3, .bool b4, .bool b5]] [] = some (.bool true, σ) := by
  obtain ⟨t, htt⟩ : ∃ t, t = [b0, b1, b2, b3, b4, b5] := ⟨_, rfl⟩
  have ht : t.length = 6 := by rw [htt]; rfl
  have hbox : ∀ j : Int, 0 ≤ j ∧ j ≤ 5 → [D.bool b0, D.bool b1, D.bool b2, D.bool b3, D.bool b4, D.bool b5][(0 : Nat) + Int.toNat j * (1 : Nat)]? = some (.bool (t.getD j.toNat false)) := by
    intro j hj
    rw [htt]
    have : j = 0 ∨ j = 1 ∨ j = 2 ∨ j = 3 ∨ j = 4 ∨ j = 5 := by omega
    rcases this with h | h | h | h | h | h <;> subst h <;> rfl
  refine call_ofE (m := m11) rfl rfl (by decide) (k_start ?_)
  unfold m11
  cases an
  · refine k_seq ?_
    refine rgf (D.lptr (5 : Nat) (0 : Nat)) ([]) ?_
    refine rv (D.bool false) ?_
    refine k_done (k_skip_seq (k_seq ?_))
    refine runs_call ([]) (by kernel_rfl) (by kernel_rfl) (by kernel_rfl) (by kernel_rfl) (awake19_ok) (by kernel_rfl) ?_
    refine ra0 (D.bool true) ?_
    refine k_done (k_skip_seq (k_seq (k_seq ?_)))
    refine rv (D.bool true) ?_
    refine rv (D.bool false) ?_
    refine k_done (k_skip_seq (kcf (k_skip_seq (k_seq ?_))))
    refine rv (D.agg [D.int IntKind.i64 (6 : Int), D.int IntKind.i64 (0 : Int), D.nils (24 : Nat)]) ?_
    refine rgf (D.lptr (8 : Nat) (0 : Nat)) ([]) ?_
    refine rgf (D.junk) ([]) ?_
    refine k_done (k_skip_seq (k_seq (k_seq ?_)))
    refine rv (D.bool false) ?_
    refine k_done (k_skip_seq (kcf (k_skip_seq (k_seq ?_))))
    refine rv (D.bool false) ?_
    refine ra0 (D.bool false) ?_
    refine k_done (k_skip_seq (k_seq (k_seq ?_)))
    refine rv (D.int IntKind.i64 (0 : Int)) ?_
    refine k_done (k_skip_seq (k_block ?_))
    refine k_loop (fun i : Nat => f11a l false [.bool b0, .bool b1, .bool b2, .bool b3, .bool b4, .bool b5] 6 (eFs ((l.take i).map litF)) (wantR false t (l.take i)) i) (fun _ => []) (fun i => i ≤ l.length ∧ i ≤ 8) (fun i => 8 - i) 0 (by kernel_rfl) rfl (by simp) (by intro s hs; omega) ?_
    rintro i ⟨hi, hi8⟩
    by_cases hlt : i < l.length
    · by_cases h8 : i < 8
      · have hv := hl l[i] (List.getElem_mem hlt)
        have hsn := eFs_lit (l.take i) l[i]
        rw [← take_snoc hlt] at hsn
        have hws := wantR_snoc false t (l.take i) l[i]
        rw [← take_snoc hlt] at hws
        have hkl : (eFs ((l.take i).map litF)).length = i := by rw [eFs_length, List.length_map, List.length_take]; omega
        by_cases hneg : l[i] < 0
        · have hr := tmod6 (v := 0 - l[i]) (by omega)
          rw [eF_neg hneg] at hsn
          rw [isl_neg hneg] at hws
          have hld := hbox (Int.tmod (0 - l[i]) 6 + 1 - 1) (by omega)
          generalize eFs ((l.take i).map litF) = ks at *
          generalize wantR false t (l.take i) = w at *
          generalize List.getD t (Int.tmod (0 - l[i]) 6 + 1 - 1).toNat false = tv at *
          cases w
          · refine k_seq (k_seq ?_)
            refine rv (D.int IntKind.i64 (↑i : Int)) ?_
            refine rv (D.sl (i8s l) none) ?_
            refine rve (D.int IntKind.i64 (↑(List.length (i8s l)) : Int)) (.int IntKind.i64 ((↑(List.length l) : Int))) (by simp only [ints, eInt, rows, eInts, bools, eBool, trips, eTrip, i8s, List.length_map]) ?_
            refine rv (D.bool (decide ((↑i : Int) < (↑(List.length l) : Int)))) ?_
            refine rv (D.bool (decide ((↑i : Int) < (↑(List.length l) : Int)))) ?_
            refine rkn 32 (decide ((↑i : Int) < (↑(List.length l) : Int))) true (decide_eq_true (by omega)) ?_
            refine rv (D.int IntKind.i64 (↑i : Int)) ?_
            refine rv (D.bool (decide ((↑i : Int) < (8 : Int)))) ?_
            refine rv (D.bool (decide ((↑i : Int) < (8 : Int)))) ?_
            refine k_done (k_skip_seq ?_)
            refine rkn 35 (decide ((↑i : Int) < (8 : Int))) true (decide_eq_true (by omega)) ?_
            refine kct (k_skip_seq (k_seq (k_block (k_seq ?_))))
            refine rv (D.sl (i8s l) none) ?_
            refine rv (D.int IntKind.i64 (↑i : Int)) ?_
            refine runs_index (l) (fun n => [D.int IntKind.i8 n]) (o := none) (kd := IntKind.i64) (i) (by kernel_rfl) (by kernel_rfl) (by kernel_rfl) (by assumption) (by kernel_rfl) ?_
            refine rv (D.int IntKind.i8 l[i]) ?_
            refine rve (D.int IntKind.i64 (IntKind.wrap IntKind.i64 l[i])) (.int IntKind.i64 (l[i])) (congrArg (D.int IntKind.i64) (show IntKind.wrap IntKind.i64 l[i] = (l[i]) from wrap_eq (by omega) (by omega) (by omega))) ?_
            refine ra0 (D.int IntKind.i64 l[i]) ?_
            refine k_done (k_skip_seq (k_seq ?_))
            refine rv (D.int IntKind.i64 l[i]) ?_
            refine rv (D.bool (decide (l[i] < (0 : Int)))) ?_
            refine ra0 (D.bool (decide (l[i] < (0 : Int)))) ?_
            refine k_done (k_skip_seq (k_seq (k_seq ?_)))
            refine rv (D.bool (decide (l[i] < (0 : Int)))) ?_
            refine k_done (k_skip_seq ?_)
            refine rkn 45 (decide (l[i] < (0 : Int))) true (decide_eq_true (by assumption)) ?_
            refine kct ?_
            refine rv (D.int IntKind.i64 l[i]) ?_
            refine rve (D.int IntKind.i64 (IntKind.wrap IntKind.i64 ((0 : Int) - l[i]))) (.int IntKind.i64 ((0 : Int) - l[i])) (congrArg (D.int IntKind.i64) (show IntKind.wrap IntKind.i64 ((0 : Int) - l[i]) = ((0 : Int) - l[i]) from wrap_eq (by omega) (by omega) (by omega))) ?_
            refine ra0 (D.int IntKind.i64 ((0 : Int) - l[i])) ?_
            refine k_done (k_skip_seq (k_seq ?_))
            refine rv (D.int IntKind.i64 ((0 : Int) - l[i])) ?_
            refine rv (D.int IntKind.i64 (Int.tmod ((0 : Int) - l[i]) (6 : Int))) ?_
            refine rve (D.int IntKind.i64 (IntKind.wrap IntKind.i64 (Int.tmod ((0 : Int) - l[i]) (6 : Int) + (1 : Int)))) (.int IntKind.i64 (Int.tmod ((0 : Int) - l[i]) (6 : Int) + (1 : Int))) (congrArg (D.int IntKind.i64) (show IntKind.wrap IntKind.i64 (Int.tmod ((0 : Int) - l[i]) (6 : Int) + (1 : Int)) = (Int.tmod ((0 : Int) - l[i]) (6 : Int) + (1 : Int)) from wrap_eq (by omega) (by omega) (by omega))) ?_
            refine ra0 (D.int IntKind.i64 (Int.tmod ((0 : Int) - l[i]) (6 : Int) + (1 : Int))) ?_
            refine k_done (k_skip_seq (k_seq ?_))
            refine rv (D.int IntKind.i64 (Int.tmod ((0 : Int) - l[i]) (6 : Int) + (1 : Int))) ?_
            refine rv (D.agg [D.int IntKind.i64 (3 : Int), D.int IntKind.i64 (Int.tmod ((0 : Int) - l[i]) (6 : Int) + (1 : Int)), D.nils (24 : Nat)]) ?_
            refine rgf (D.lptr (13 : Nat) (0 : Nat)) ([]) ?_
            refine rgf (D.junk) ([]) ?_
            refine k_done (k_skip_seq (k_seq ?_))
            refine rv (D.int IntKind.i64 (Int.tmod ((0 : Int) - l[i]) (6 : Int) + (1 : Int))) ?_
            refine rve (D.int IntKind.i64 (IntKind.wrap IntKind.i64 (Int.tmod ((0 : Int) - l[i]) (6 : Int) + (1 : Int) - (1 : Int)))) (.int IntKind.i64 (Int.tmod ((0 : Int) - l[i]) (6 : Int) + (1 : Int) - (1 : Int))) (congrArg (D.int IntKind.i64) (show IntKind.wrap IntKind.i64 (Int.tmod ((0 : Int) - l[i]) (6 : Int) + (1 : Int) - (1 : Int)) = (Int.tmod ((0 : Int) - l[i]) (6 : Int) + (1 : Int) - (1 : Int)) from wrap_eq (by omega) (by omega) (by omega))) ?_
            refine runs_indexA (kd := IntKind.i64) ((5 : Nat)) ((0 : Nat)) (Int.tmod ((0 : Int) - l[i]) (6 : Int) + (1 : Int) - (1 : Int)) (by kernel_rfl) (by kernel_rfl) (by kernel_rfl) (by omega) (by omega) ?_
            refine runs_loadB ((5 : Nat)) ((0 : Nat) + Int.toNat (Int.tmod ((0 : Int) - l[i]) (6 : Int) + (1 : Int) - (1 : Int)) * (1 : Nat)) ([D.bool b0, D.bool b1, D.bool b2, D.bool b3, D.bool b4, D.bool b5]) _ (by kernel_rfl) (by kernel_rfl) (by kernel_rfl) (by assumption) ?_
            refine rv (D.bool (decide (l[i] < (0 : Int)))) ?_
            refine rv (D.bool ((tv == decide (l[i] < (0 : Int))) != true)) ?_
            refine ra0 (D.bool ((tv == decide (l[i] < (0 : Int))) != true)) ?_
            refine k_done (k_skip_seq (k_seq (k_seq ?_)))
            refine rv (D.bool (decide (l[i] < (0 : Int)))) ?_
            refine k_done (k_skip_seq ?_)
            refine rkn 59 (decide (l[i] < (0 : Int))) true (decide_eq_true (by assumption)) ?_
            refine kct ?_
            refine rv (D.agg [D.int IntKind.i64 (3 : Int), D.int IntKind.i64 (Int.tmod ((0 : Int) - l[i]) (6 : Int) + (1 : Int)), D.sl [] none]) ?_
            refine rv (D.sl [[D.int IntKind.i64 (3 : Int), D.int IntKind.i64 (Int.tmod ((0 : Int) - l[i]) (6 : Int) + (1 : Int)), D.sl [] none]] (some (24 : Nat))) ?_
            refine rv (D.agg [D.int IntKind.i64 (4 : Int), D.int IntKind.i64 (0 : Int), D.sl [[D.int IntKind.i64 (3 : Int), D.int IntKind.i64 (Int.tmod ((0 : Int) - l[i]) (6 : Int) + (1 : Int)), D.sl [] none]] none]) ?_
            refine rgf (D.junk) ([]) ?_
            refine k_done (k_skip_seq (k_seq ?_))
            refine rv (D.lptr (8 : Nat) (2 : Nat)) ?_
            refine rgf (D.sl ks (some (24 : Nat))) ([]) ?_
            refine rv (D.agg [D.int IntKind.i64 (4 : Int), D.int IntKind.i64 (0 : Int), D.sl [[D.int IntKind.i64 (3 : Int), D.int IntKind.i64 (Int.tmod ((0 : Int) - l[i]) (6 : Int) + (1 : Int)), D.sl [] none]] none]) ?_
            refine rv (D.sl [[D.int IntKind.i64 (4 : Int), D.int IntKind.i64 (0 : Int), D.sl [[D.int IntKind.i64 (3 : Int), D.int IntKind.i64 (Int.tmod ((0 : Int) - l[i]) (6 : Int) + (1 : Int)), D.sl [] none]] none]] (some (24 : Nat))) ?_
            refine runs_append (ks) ([[D.int IntKind.i64 (4 : Int), D.int IntKind.i64 (0 : Int), D.sl [[D.int IntKind.i64 (3 : Int), D.int IntKind.i64 (Int.tmod ((0 : Int) - l[i]) (6 : Int) + (1 : Int)), D.sl [] none]] none]]) (ks ++ [[D.int IntKind.i64 (4 : Int), D.int IntKind.i64 (0 : Int), D.sl [[D.int IntKind.i64 (3 : Int), D.int IntKind.i64 (Int.tmod ((0 : Int) - l[i]) (6 : Int) + (1 : Int)), D.sl [] none]] none]]) (by kernel_rfl) (by kernel_rfl) (by kernel_rfl) (by kernel_rfl) (by simp [ints, eInt, rows, eInts, bools, eBool, trips, eTrip, i8s, room]; omega) rfl ?_
            refine rv (D.lptr (8 : Nat) (2 : Nat)) ?_
            refine rgf (D.junk) ([]) ?_
            refine k_done (k_skip_seq (k_seq ?_))
            refine rv (D.bool false) ?_
            refine k_done (k_skip_seq (kcf ?_))
            refine rv (D.bool false) ?_
            refine rv (D.bool false) ?_
            refine rv (D.bool ((tv == decide (l[i] < (0 : Int))) != true)) ?_
            refine rv (D.bool ((tv == decide (l[i] < (0 : Int))) != true)) ?_
            refine ra0 (D.bool ((tv == decide (l[i] < (0 : Int))) != true)) ?_
            refine k_done (k_skip_block (k_skip_seq ?_))
            refine rv (D.int IntKind.i64 (↑i : Int)) ?_
            refine rve (D.int IntKind.i64 (IntKind.wrap IntKind.i64 ((↑i : Int) + (1 : Int)))) (.int IntKind.i64 ((i + 1 : Nat) : Int)) (congrArg (D.int IntKind.i64) (show IntKind.wrap IntKind.i64 ((↑i : Int) + (1 : Int)) = ((i + 1 : Nat) : Int) from wrap_eq (by omega) (by omega) (by omega))) ?_
            refine ra0 (D.int IntKind.i64 (↑(i + (1 : Nat)) : Int)) ?_
            refine k_done (k_skip_back ?_)
            exact ⟨i + 1, ⟨hlt, h8⟩, by omega, by rw [hsn, hws]; kernel_rfl, rfl⟩
          · refine k_seq (k_seq ?_)
            refine rv (D.int IntKind.i64 (↑i : Int)) ?_
            refine rv (D.sl (i8s l) none) ?_
            refine rve (D.int IntKind.i64 (↑(List.length (i8s l)) : Int)) (.int IntKind.i64 ((↑(List.length l) : Int))) (by simp only [ints, eInt, rows, eInts, bools, eBool, trips, eTrip, i8s, List.length_map]) ?_
            refine rv (D.bool (decide ((↑i : Int) < (↑(List.length l) : Int)))) ?_
            refine rv (D.bool (decide ((↑i : Int) < (↑(List.length l) : Int)))) ?_
            refine rkn 32 (decide ((↑i : Int) < (↑(List.length l) : Int))) true (decide_eq_true (by omega)) ?_
            refine rv (D.int IntKind.i64 (↑i : Int)) ?_
            refine rv (D.bool (decide ((↑i : Int) < (8 : Int)))) ?_
            refine rv (D.bool (decide ((↑i : Int) < (8 : Int)))) ?_
            refine k_done (k_skip_seq ?_)
            refine rkn 35 (decide ((↑i : Int) < (8 : Int))) true (decide_eq_true (by omega)) ?_
            refine kct (k_skip_seq (k_seq (k_block (k_seq ?_))))
            refine rv (D.sl (i8s l) none) ?_
            refine rv (D.int IntKind.i64 (↑i : Int)) ?_
            refine runs_index (l) (fun n => [D.int IntKind.i8 n]) (o := none) (kd := IntKind.i64) (i) (by kernel_rfl) (by kernel_rfl) (by kernel_rfl) (by assumption) (by kernel_rfl) ?_
            refine rv (D.int IntKind.i8 l[i]) ?_
            refine rve (D.int IntKind.i64 (IntKind.wrap IntKind.i64 l[i])) (.int IntKind.i64 (l[i])) (congrArg (D.int IntKind.i64) (show IntKind.wrap IntKind.i64 l[i] = (l[i]) from wrap_eq (by omega) (by omega) (by omega))) ?_
            refine ra0 (D.int IntKind.i64 l[i]) ?_
            refine k_done (k_skip_seq (k_seq ?_))
            refine rv (D.int IntKind.i64 l[i]) ?_
            refine rv (D.bool (decide (l[i] < (0 : Int)))) ?_
            refine ra0 (D.bool (decide (l[i] < (0 : Int)))) ?_
            refine k_done (k_skip_seq (k_seq (k_seq ?_)))
            refine rv (D.bool (decide (l[i] < (0 : Int)))) ?_
            refine k_done (k_skip_seq ?_)
            refine rkn 45 (decide (l[i] < (0 : Int))) true (decide_eq_true (by assumption)) ?_
            refine kct ?_
            refine rv (D.int IntKind.i64 l[i]) ?_
            refine rve (D.int IntKind.i64 (IntKind.wrap IntKind.i64 ((0 : Int) - l[i]))) (.int IntKind.i64 ((0 : Int) - l[i])) (congrArg (D.int IntKind.i64) (show IntKind.wrap IntKind.i64 ((0 : Int) - l[i]) = ((0 : Int) - l[i]) from wrap_eq (by omega) (by omega) (by omega))) ?_
            refine ra0 (D.int IntKind.i64 ((0 : Int) - l[i])) ?_
            refine k_done (k_skip_seq (k_seq ?_))
            refine rv (D.int IntKind.i64 ((0 : Int) - l[i])) ?_
            refine rv (D.int IntKind.i64 (Int.tmod ((0 : Int) - l[i]) (6 : Int))) ?_
            refine rve (D.int IntKind.i64 (IntKind.wrap IntKind.i64 (Int.tmod ((0 : Int) - l[i]) (6 : Int) + (1 : Int)))) (.int IntKind.i64 (Int.tmod ((0 : Int) - l[i]) (6 : Int) + (1 : Int))) (congrArg (D.int IntKind.i64) (show IntKind.wrap IntKind.i64 (Int.tmod ((0 : Int) - l[i]) (6 : Int) + (1 : Int)) = (Int.tmod ((0 : Int) - l[i]) (6 : Int) + (1 : Int)) from wrap_eq (by omega) (by omega) (by omega))) ?_
            refine ra0 (D.int IntKind.i64 (Int.tmod ((0 : Int) - l[i]) (6 : Int) + (1 : Int))) ?_
            refine k_done (k_skip_seq (k_seq ?_))
            refine rv (D.int IntKind.i64 (Int.tmod ((0 : Int) - l[i]) (6 : Int) + (1 : Int))) ?_
            refine rv (D.agg [D.int IntKind.i64 (3 : Int), D.int IntKind.i64 (Int.tmod ((0 : Int) - l[i]) (6 : Int) + (1 : Int)), D.nils (24 : Nat)]) ?_
            refine rgf (D.lptr (13 : Nat) (0 : Nat)) ([]) ?_
            refine rgf (D.junk) ([]) ?_
            refine k_done (k_skip_seq (k_seq ?_))
            refine rv (D.int IntKind.i64 (Int.tmod ((0 : Int) - l[i]) (6 : Int) + (1 : Int))) ?_
            refine rve (D.int IntKind.i64 (IntKind.wrap IntKind.i64 (Int.tmod ((0 : Int) - l[i]) (6 : Int) + (1 : Int) - (1 : Int)))) (.int IntKind.i64 (Int.tmod ((0 : Int) - l[i]) (6 : Int) + (1 : Int) - (1 : Int))) (congrArg (D.int IntKind.i64) (show IntKind.wrap IntKind.i64 (Int.tmod ((0 : Int) - l[i]) (6 : Int) + (1 : Int) - (1 : Int)) = (Int.tmod ((0 : Int) - l[i]) (6 : Int) + (1 : Int) - (1 : Int)) from wrap_eq (by omega) (by omega) (by omega))) ?_
            refine runs_indexA (kd := IntKind.i64) ((5 : Nat)) ((0 : Nat)) (Int.tmod ((0 : Int) - l[i]) (6 : Int) + (1 : Int) - (1 : Int)) (by kernel_rfl) (by kernel_rfl) (by kernel_rfl) (by omega) (by omega) ?_
            refine runs_loadB ((5 : Nat)) ((0 : Nat) + Int.toNat (Int.tmod ((0 : Int) - l[i]) (6 : Int) + (1 : Int) - (1 : Int)) * (1 : Nat)) ([D.bool b0, D.bool b1, D.bool b2, D.bool b3, D.bool b4, D.bool b5]) _ (by kernel_rfl) (by kernel_rfl) (by kernel_rfl) (by assumption) ?_
            refine rv (D.bool (decide (l[i] < (0 : Int)))) ?_
            refine rv (D.bool ((tv == decide (l[i] < (0 : Int))) != true)) ?_
            refine ra0 (D.bool ((tv == decide (l[i] < (0 : Int))) != true)) ?_
            refine k_done (k_skip_seq (k_seq (k_seq ?_)))
            refine rv (D.bool (decide (l[i] < (0 : Int)))) ?_
            refine k_done (k_skip_seq ?_)
            refine rkn 59 (decide (l[i] < (0 : Int))) true (decide_eq_true (by assumption)) ?_
            refine kct ?_
            refine rv (D.agg [D.int IntKind.i64 (3 : Int), D.int IntKind.i64 (Int.tmod ((0 : Int) - l[i]) (6 : Int) + (1 : Int)), D.sl [] none]) ?_
            refine rv (D.sl [[D.int IntKind.i64 (3 : Int), D.int IntKind.i64 (Int.tmod ((0 : Int) - l[i]) (6 : Int) + (1 : Int)), D.sl [] none]] (some (24 : Nat))) ?_
            refine rv (D.agg [D.int IntKind.i64 (4 : Int), D.int IntKind.i64 (0 : Int), D.sl [[D.int IntKind.i64 (3 : Int), D.int IntKind.i64 (Int.tmod ((0 : Int) - l[i]) (6 : Int) + (1 : Int)), D.sl [] none]] none]) ?_
            refine rgf (D.junk) ([]) ?_
            refine k_done (k_skip_seq (k_seq ?_))
            refine rv (D.lptr (8 : Nat) (2 : Nat)) ?_
            refine rgf (D.sl ks (some (24 : Nat))) ([]) ?_
            refine rv (D.agg [D.int IntKind.i64 (4 : Int), D.int IntKind.i64 (0 : Int), D.sl [[D.int IntKind.i64 (3 : Int), D.int IntKind.i64 (Int.tmod ((0 : Int) - l[i]) (6 : Int) + (1 : Int)), D.sl [] none]] none]) ?_
            refine rv (D.sl [[D.int IntKind.i64 (4 : Int), D.int IntKind.i64 (0 : Int), D.sl [[D.int IntKind.i64 (3 : Int), D.int IntKind.i64 (Int.tmod ((0 : Int) - l[i]) (6 : Int) + (1 : Int)), D.sl [] none]] none]] (some (24 : Nat))) ?_
            refine runs_append (ks) ([[D.int IntKind.i64 (4 : Int), D.int IntKind.i64 (0 : Int), D.sl [[D.int IntKind.i64 (3 : Int), D.int IntKind.i64 (Int.tmod ((0 : Int) - l[i]) (6 : Int) + (1 : Int)), D.sl [] none]] none]]) (ks ++ [[D.int IntKind.i64 (4 : Int), D.int IntKind.i64 (0 : Int), D.sl [[D.int IntKind.i64 (3 : Int), D.int IntKind.i64 (Int.tmod ((0 : Int) - l[i]) (6 : Int) + (1 : Int)), D.sl [] none]] none]]) (by kernel_rfl) (by kernel_rfl) (by kernel_rfl) (by kernel_rfl) (by simp [ints, eInt, rows, eInts, bools, eBool, trips, eTrip, i8s, room]; omega) rfl ?_
            refine rv (D.lptr (8 : Nat) (2 : Nat)) ?_
            refine rgf (D.junk) ([]) ?_
            refine k_done (k_skip_seq (k_seq ?_))
            refine rv (D.bool false) ?_
            refine k_done (k_skip_seq (kcf ?_))
            refine rv (D.bool true) ?_
            refine rv (D.bool true) ?_
            refine rno ?_
            refine rv (D.bool true) ?_
            refine ra0 (D.bool true) ?_
            refine k_done (k_skip_block (k_skip_seq ?_))
            refine rv (D.int IntKind.i64 (↑i : Int)) ?_
            refine rve (D.int IntKind.i64 (IntKind.wrap IntKind.i64 ((↑i : Int) + (1 : Int)))) (.int IntKind.i64 ((i + 1 : Nat) : Int)) (congrArg (D.int IntKind.i64) (show IntKind.wrap IntKind.i64 ((↑i : Int) + (1 : Int)) = ((i + 1 : Nat) : Int) from wrap_eq (by omega) (by omega) (by omega))) ?_
            refine ra0 (D.int IntKind.i64 (↑(i + (1 : Nat)) : Int)) ?_
            refine k_done (k_skip_back ?_)
            exact ⟨i + 1, ⟨hlt, h8⟩, by omega, by rw [hsn, hws]; kernel_rfl, rfl⟩
        · have hr := tmod6 (v := l[i]) (by omega)
          rw [eF_pos hneg] at hsn
          rw [isl_pos hneg] at hws
          have hld := hbox (Int.tmod l[i] 6 + 1 - 1) (by omega)
          generalize eFs ((l.take i).map litF) = ks at *
          generalize wantR false t (l.take i) = w at *
          generalize List.getD t (Int.tmod l[i] 6 + 1 - 1).toNat false = tv at *
          cases w
          · refine k_seq (k_seq ?_)
            refine rv (D.int IntKind.i64 (↑i : Int)) ?_
            refine rv (D.sl (i8s l) none) ?_
            refine rve (D.int IntKind.i64 (↑(List.length (i8s l)) : Int)) (.int IntKind.i64 ((↑(List.length l) : Int))) (by simp only [ints, eInt, rows, eInts, bools, eBool, trips, eTrip, i8s, List.length_map]) ?_
            refine rv (D.bool (decide ((↑i : Int) < (↑(List.length l) : Int)))) ?_
            refine rv (D.bool (decide ((↑i : Int) < (↑(List.length l) : Int)))) ?_
            refine rkn 32 (decide ((↑i : Int) < (↑(List.length l) : Int))) true (decide_eq_true (by omega)) ?_
            refine rv (D.int IntKind.i64 (↑i : Int)) ?_
            refine rv (D.bool (decide ((↑i : Int) < (8 : Int)))) ?_
            refine rv (D.bool (decide ((↑i : Int) < (8 : Int)))) ?_
            refine k_done (k_skip_seq ?_)
            refine rkn 35 (decide ((↑i : Int) < (8 : Int))) true (decide_eq_true (by omega)) ?_
            refine kct (k_skip_seq (k_seq (k_block (k_seq ?_))))
            refine rv (D.sl (i8s l) none) ?_
            refine rv (D.int IntKind.i64 (↑i : Int)) ?_
            refine runs_index (l) (fun n => [D.int IntKind.i8 n]) (o := none) (kd := IntKind.i64) (i) (by kernel_rfl) (by kernel_rfl) (by kernel_rfl) (by assumption) (by kernel_rfl) ?_
            refine rv (D.int IntKind.i8 l[i]) ?_
            refine rve (D.int IntKind.i64 (IntKind.wrap IntKind.i64 l[i])) (.int IntKind.i64 (l[i])) (congrArg (D.int IntKind.i64) (show IntKind.wrap IntKind.i64 l[i] = (l[i]) from wrap_eq (by omega) (by omega) (by omega))) ?_
            refine ra0 (D.int IntKind.i64 l[i]) ?_
            refine k_done (k_skip_seq (k_seq ?_))
            refine rv (D.int IntKind.i64 l[i]) ?_
            refine rv (D.bool (decide (l[i] < (0 : Int)))) ?_
            refine ra0 (D.bool (decide (l[i] < (0 : Int)))) ?_
            refine k_done (k_skip_seq (k_seq (k_seq ?_)))
            refine rv (D.bool (decide (l[i] < (0 : Int)))) ?_
            refine k_done (k_skip_seq ?_)
            refine rkn 45 (decide (l[i] < (0 : Int))) false (decide_eq_false (by assumption)) ?_
            refine kcf (k_skip_seq (k_seq ?_))
            refine rv (D.int IntKind.i64 l[i]) ?_
            refine rv (D.int IntKind.i64 (Int.tmod l[i] (6 : Int))) ?_
            refine rve (D.int IntKind.i64 (IntKind.wrap IntKind.i64 (Int.tmod l[i] (6 : Int) + (1 : Int)))) (.int IntKind.i64 (Int.tmod l[i] (6 : Int) + (1 : Int))) (congrArg (D.int IntKind.i64) (show IntKind.wrap IntKind.i64 (Int.tmod l[i] (6 : Int) + (1 : Int)) = (Int.tmod l[i] (6 : Int) + (1 : Int)) from wrap_eq (by omega) (by omega) (by omega))) ?_
            refine ra0 (D.int IntKind.i64 (Int.tmod l[i] (6 : Int) + (1 : Int))) ?_
            refine k_done (k_skip_seq (k_seq ?_))
            refine rv (D.int IntKind.i64 (Int.tmod l[i] (6 : Int) + (1 : Int))) ?_
            refine rv (D.agg [D.int IntKind.i64 (3 : Int), D.int IntKind.i64 (Int.tmod l[i] (6 : Int) + (1 : Int)), D.nils (24 : Nat)]) ?_
            refine rgf (D.lptr (13 : Nat) (0 : Nat)) ([]) ?_
            refine rgf (D.junk) ([]) ?_
            refine k_done (k_skip_seq (k_seq ?_))
            refine rv (D.int IntKind.i64 (Int.tmod l[i] (6 : Int) + (1 : Int))) ?_
            refine rve (D.int IntKind.i64 (IntKind.wrap IntKind.i64 (Int.tmod l[i] (6 : Int) + (1 : Int) - (1 : Int)))) (.int IntKind.i64 (Int.tmod l[i] (6 : Int) + (1 : Int) - (1 : Int))) (congrArg (D.int IntKind.i64) (show IntKind.wrap IntKind.i64 (Int.tmod l[i] (6 : Int) + (1 : Int) - (1 : Int)) = (Int.tmod l[i] (6 : Int) + (1 : Int) - (1 : Int)) from wrap_eq (by omega) (by omega) (by omega))) ?_
            refine runs_indexA (kd := IntKind.i64) ((5 : Nat)) ((0 : Nat)) (Int.tmod l[i] (6 : Int) + (1 : Int) - (1 : Int)) (by kernel_rfl) (by kernel_rfl) (by kernel_rfl) (by omega) (by omega) ?_
            refine runs_loadB ((5 : Nat)) ((0 : Nat) + Int.toNat (Int.tmod l[i] (6 : Int) + (1 : Int) - (1 : Int)) * (1 : Nat)) ([D.bool b0, D.bool b1, D.bool b2, D.bool b3, D.bool b4, D.bool b5]) _ (by kernel_rfl) (by kernel_rfl) (by kernel_rfl) (by assumption) ?_
            refine rv (D.bool (decide (l[i] < (0 : Int)))) ?_
            refine rv (D.bool ((tv == decide (l[i] < (0 : Int))) != true)) ?_
            refine ra0 (D.bool ((tv == decide (l[i] < (0 : Int))) != true)) ?_
            refine k_done (k_skip_seq (k_seq (k_seq ?_)))
            refine rv (D.bool (decide (l[i] < (0 : Int)))) ?_
            refine k_done (k_skip_seq ?_)
            refine rkn 59 (decide (l[i] < (0 : Int))) false (decide_eq_false (by assumption)) ?_
            refine kcf (k_skip_seq (k_seq ?_))
            refine rv (D.lptr (8 : Nat) (2 : Nat)) ?_
            refine rgf (D.sl ks (some (24 : Nat))) ([]) ?_
            refine rv (D.agg [D.int IntKind.i64 (3 : Int), D.int IntKind.i64 (Int.tmod l[i] (6 : Int) + (1 : Int)), D.sl [] none]) ?_
            refine rv (D.sl [[D.int IntKind.i64 (3 : Int), D.int IntKind.i64 (Int.tmod l[i] (6 : Int) + (1 : Int)), D.sl [] none]] (some (24 : Nat))) ?_
            refine runs_append (ks) ([[D.int IntKind.i64 (3 : Int), D.int IntKind.i64 (Int.tmod l[i] (6 : Int) + (1 : Int)), D.sl [] none]]) (ks ++ [[D.int IntKind.i64 (3 : Int), D.int IntKind.i64 (Int.tmod l[i] (6 : Int) + (1 : Int)), D.sl [] none]]) (by kernel_rfl) (by kernel_rfl) (by kernel_rfl) (by kernel_rfl) (by simp [ints, eInt, rows, eInts, bools, eBool, trips, eTrip, i8s, room]; omega) rfl ?_
            refine rv (D.lptr (8 : Nat) (2 : Nat)) ?_
            refine rgf (D.junk) ([]) ?_
            refine k_done (k_skip_seq (k_seq ?_))
            refine rv (D.bool false) ?_
            refine k_done (k_skip_seq (kcf ?_))
            refine rv (D.bool false) ?_
            refine rv (D.bool false) ?_
            refine rv (D.bool ((tv == decide (l[i] < (0 : Int))) != true)) ?_
            refine rv (D.bool ((tv == decide (l[i] < (0 : Int))) != true)) ?_
            refine ra0 (D.bool ((tv == decide (l[i] < (0 : Int))) != true)) ?_
            refine k_done (k_skip_block (k_skip_seq ?_))
            refine rv (D.int IntKind.i64 (↑i : Int)) ?_
            refine rve (D.int IntKind.i64 (IntKind.wrap IntKind.i64 ((↑i : Int) + (1 : Int)))) (.int IntKind.i64 ((i + 1 : Nat) : Int)) (congrArg (D.int IntKind.i64) (show IntKind.wrap IntKind.i64 ((↑i : Int) + (1 : Int)) = ((i + 1 : Nat) : Int) from wrap_eq (by omega) (by omega) (by omega))) ?_
            refine ra0 (D.int IntKind.i64 (↑(i + (1 : Nat)) : Int)) ?_
            refine k_done (k_skip_back ?_)
            exact ⟨i + 1, ⟨hlt, h8⟩, by omega, by rw [hsn, hws]; kernel_rfl, rfl⟩
          · refine k_seq (k_seq ?_)
            refine rv (D.int IntKind.i64 (↑i : Int)) ?_
            refine rv (D.sl (i8s l) none) ?_
            refine rve (D.int IntKind.i64 (↑(List.length (i8s l)) : Int)) (.int IntKind.i64 ((↑(List.length l) : Int))) (by simp only [ints, eInt, rows, eInts, bools, eBool, trips, eTrip, i8s, List.length_map]) ?_
            refine rv (D.bool (decide ((↑i : Int) < (↑(List.length l) : Int)))) ?_
            refine rv (D.bool (decide ((↑i : Int) < (↑(List.length l) : Int)))) ?_
            refine rkn 32 (decide ((↑i : Int) < (↑(List.length l) : Int))) true (decide_eq_true (by omega)) ?_
            refine rv (D.int IntKind.i64 (↑i : Int)) ?_
            refine rv (D.bool (decide ((↑i : Int) < (8 : Int)))) ?_
            refine rv (D.bool (decide ((↑i : Int) < (8 : Int)))) ?_
            refine k_done (k_skip_seq ?_)
            refine rkn 35 (decide ((↑i : Int) < (8 : Int))) true (decide_eq_true (by omega)) ?_
            refine kct (k_skip_seq (k_seq (k_block (k_seq ?_))))
            refine rv (D.sl (i8s l) none) ?_
            refine rv (D.int IntKind.i64 (↑i : Int)) ?_
            refine runs_index (l) (fun n => [D.int IntKind.i8 n]) (o := none) (kd := IntKind.i64) (i) (by kernel_rfl) (by kernel_rfl) (by kernel_rfl) (by assumption) (by kernel_rfl) ?_
            refine rv (D.int IntKind.i8 l[i]) ?_
            refine rve (D.int IntKind.i64 (IntKind.wrap IntKind.i64 l[i])) (.int IntKind.i64 (l[i])) (congrArg (D.int IntKind.i64) (show IntKind.wrap IntKind.i64 l[i] = (l[i]) from wrap_eq (by omega) (by omega) (by omega))) ?_
            refine ra0 (D.int IntKind.i64 l[i]) ?_
            refine k_done (k_skip_seq (k_seq ?_))
            refine rv (D.int IntKind.i64 l[i]) ?_
            refine rv (D.bool (decide (l[i] < (0 : Int)))) ?_
            refine ra0 (D.bool (decide (l[i] < (0 : Int)))) ?_
            refine k_done (k_skip_seq (k_seq (k_seq ?_)))
            refine rv (D.bool (decide (l[i] < (0 : Int)))) ?_
            refine k_done (k_skip_seq ?_)
            refine rkn 45 (decide (l[i] < (0 : Int))) false (decide_eq_false (by assumption)) ?_
            refine kcf (k_skip_seq (k_seq ?_))
            refine rv (D.int IntKind.i64 l[i]) ?_
            refine rv (D.int IntKind.i64 (Int.tmod l[i] (6 : Int))) ?_
            refine rve (D.int IntKind.i64 (IntKind.wrap IntKind.i64 (Int.tmod l[i] (6 : Int) + (1 : Int)))) (.int IntKind.i64 (Int.tmod l[i] (6 : Int) + (1 : Int))) (congrArg (D.int IntKind.i64) (show IntKind.wrap IntKind.i64 (Int.tmod l[i] (6 : Int) + (1 : Int)) = (Int.tmod l[i] (6 : Int) + (1 : Int)) from wrap_eq (by omega) (by omega) (by omega))) ?_
            refine ra0 (D.int IntKind.i64 (Int.tmod l[i] (6 : Int) + (1 : Int))) ?_
            refine k_done (k_skip_seq (k_seq ?_))
            refine rv (D.int IntKind.i64 (Int.tmod l[i] (6 : Int) + (1 : Int))) ?_
            refine rv (D.agg [D.int IntKind.i64 (3 : Int), D.int IntKind.i64 (Int.tmod l[i] (6 : Int) + (1 : Int)), D.nils (24 : Nat)]) ?_
            refine rgf (D.lptr (13 : Nat) (0 : Nat)) ([]) ?_
            refine rgf (D.junk) ([]) ?_
            refine k_done (k_skip_seq (k_seq ?_))
            refine rv (D.int IntKind.i64 (Int.tmod l[i] (6 : Int) + (1 : Int))) ?_
            refine rve (D.int IntKind.i64 (IntKind.wrap IntKind.i64 (Int.tmod l[i] (6 : Int) + (1 : Int) - (1 : Int)))) (.int IntKind.i64 (Int.tmod l[i] (6 : Int) + (1 : Int) - (1 : Int))) (congrArg (D.int IntKind.i64) (show IntKind.wrap IntKind.i64 (Int.tmod l[i] (6 : Int) + (1 : Int) - (1 : Int)) = (Int.tmod l[i] (6 : Int) + (1 : Int) - (1 : Int)) from wrap_eq (by omega) (by omega) (by omega))) ?_
            refine runs_indexA (kd := IntKind.i64) ((5 : Nat)) ((0 : Nat)) (Int.tmod l[i] (6 : Int) + (1 : Int) - (1 : Int)) (by kernel_rfl) (by kernel_rfl) (by kernel_rfl) (by omega) (by omega) ?_
            refine runs_loadB ((5 : Nat)) ((0 : Nat) + Int.toNat (Int.tmod l[i] (6 : Int) + (1 : Int) - (1 : Int)) * (1 : Nat)) ([D.bool b0, D.bool b1, D.bool b2, D.bool b3, D.bool b4, D.bool b5]) _ (by kernel_rfl) (by kernel_rfl) (by kernel_rfl) (by assumption) ?_
            refine rv (D.bool (decide (l[i] < (0 : Int)))) ?_
            refine rv (D.bool ((tv == decide (l[i] < (0 : Int))) != true)) ?_
            refine ra0 (D.bool ((tv == decide (l[i] < (0 : Int))) != true)) ?_
            refine k_done (k_skip_seq (k_seq (k_seq ?_)))
            refine rv (D.bool (decide (l[i] < (0 : Int)))) ?_
            refine k_done (k_skip_seq ?_)
            refine rkn 59 (decide (l[i] < (0 : Int))) false (decide_eq_false (by assumption)) ?_
            refine kcf (k_skip_seq (k_seq ?_))
            refine rv (D.lptr (8 : Nat) (2 : Nat)) ?_
            refine rgf (D.sl ks (some (24 : Nat))) ([]) ?_
            refine rv (D.agg [D.int IntKind.i64 (3 : Int), D.int IntKind.i64 (Int.tmod l[i] (6 : Int) + (1 : Int)), D.sl [] none]) ?_
            refine rv (D.sl [[D.int IntKind.i64 (3 : Int), D.int IntKind.i64 (Int.tmod l[i] (6 : Int) + (1 : Int)), D.sl [] none]] (some (24 : Nat))) ?_
            refine runs_append (ks) ([[D.int IntKind.i64 (3 : Int), D.int IntKind.i64 (Int.tmod l[i] (6 : Int) + (1 : Int)), D.sl [] none]]) (ks ++ [[D.int IntKind.i64 (3 : Int), D.int IntKind.i64 (Int.tmod l[i] (6 : Int) + (1 : Int)), D.sl [] none]]) (by kernel_rfl) (by kernel_rfl) (by kernel_rfl) (by kernel_rfl) (by simp [ints, eInt, rows, eInts, bools, eBool, trips, eTrip, i8s, room]; omega) rfl ?_
            refine rv (D.lptr (8 : Nat) (2 : Nat)) ?_
            refine rgf (D.junk) ([]) ?_
            refine k_done (k_skip_seq (k_seq ?_))
            refine rv (D.bool false) ?_
            refine k_done (k_skip_seq (kcf ?_))
            refine rv (D.bool true) ?_
            refine rv (D.bool true) ?_
            refine rno ?_
            refine rv (D.bool true) ?_
            refine ra0 (D.bool true) ?_
            refine k_done (k_skip_block (k_skip_seq ?_))
            refine rv (D.int IntKind.i64 (↑i : Int)) ?_
            refine rve (D.int IntKind.i64 (IntKind.wrap IntKind.i64 ((↑i : Int) + (1 : Int)))) (.int IntKind.i64 ((i + 1 : Nat) : Int)) (congrArg (D.int IntKind.i64) (show IntKind.wrap IntKind.i64 ((↑i : Int) + (1 : Int)) = ((i + 1 : Nat) : Int) from wrap_eq (by omega) (by omega) (by omega))) ?_
            refine ra0 (D.int IntKind.i64 (↑(i + (1 : Nat)) : Int)) ?_
            refine k_done (k_skip_back ?_)
            exact ⟨i + 1, ⟨hlt, h8⟩, by omega, by rw [hsn, hws]; kernel_rfl, rfl⟩
      · obtain ⟨q1, q2, q3, q4, q5, q6⟩ := rowF_ok t ht 6 (by omega) (l.take i) (by rw [List.length_take]; omega)
        have e5 := of_ok 2 (rowF 6 (l.take i)) 4999 none q1 q2 (low_atoms 6 (by omega) 3 _ q3) (by omega) (by omega) (by omega)
        have hok := of_OK (B := 6) (by omega) q1 q2 q3 (Int.le_refl 6)
        have hrows := of_rows (n := 6) q1 q2
        have hcount := fun m hm h64 => count_ok t (m := m) q1 q2 q3 hm h64
        rw [q5] at hrows
        rw [q6] at hcount
        change ∃ σ', callN T (4999 + 1) 30 [.agg [.int .i64 6, .int .i64 0, .sl (eFs ((l.take i).map litF)) none], .int .i64 6] [] = some (.tup [.sl (rows (ofR 3 (rowF 6 (l.take i)) 6).1) none, .int .i64 (ofR 3 (rowF 6 (l.take i)) 6).2], σ') at e5
        obtain ⟨σ1, e5⟩ := e5
        have hwd : (if (6 : Int) = 5 then (l.take i).all (isl t) else (l.take i).any (isl t)) = wantR false t (l.take i) := rfl
        rw [hwd] at hcount
        have hup := hok.up
        have hcl := hok.cl
        have hnum := hok.num
        clear hok hwd
        generalize ofR 3 (rowF 6 (l.take i)) 6 = r at *
        obtain ⟨m, hm⟩ : ∃ m : Nat, r.2 = ((m + 6 : Nat) : Int) := ⟨(r.2 - 6).toNat, by omega⟩
        obtain ⟨c, n⟩ := r
        simp only [] at *
        subst hm
        have hm1 : m ≤ 1 := by omega
        have hcnt := hcount m (by omega) (by omega)
        generalize eFs ((l.take i).map litF) = ks at *
        generalize wantR false t (l.take i) = w at *
        have h2m : 2 ^ m ≤ 1024 := Nat.le_trans (Nat.pow_le_pow_right (by omega) (by omega : m ≤ 10)) (by decide)
        have h2m2 : m = 1 → 2 ^ m = 2 := by intro h; subst h; rfl
        have hsh : IntKind.wrap IntKind.i64 ((1 : Int) * (2 : Int) ^ min (Int.toNat (IntKind.wrap IntKind.u64 ((m + 6 - 6 : Nat) : Int))) (IntKind.bits IntKind.i64)) = ((2 ^ m : Nat) : Int) := shl_ok (m := m) (by omega)
        refine k_seq (k_seq ?_)
        refine rv (D.int IntKind.i64 (↑i : Int)) ?_
        refine rv (D.sl (i8s l) none) ?_
        refine rve (D.int IntKind.i64 (↑(List.length (i8s l)) : Int)) (.int IntKind.i64 ((↑(List.length l) : Int))) (by simp only [ints, eInt, rows, eInts, bools, eBool, trips, eTrip, i8s, List.length_map]) ?_
        refine rv (D.bool (decide ((↑i : Int) < (↑(List.length l) : Int)))) ?_
        refine rv (D.bool (decide ((↑i : Int) < (↑(List.length l) : Int)))) ?_
        refine rkn 32 (decide ((↑i : Int) < (↑(List.length l) : Int))) true (decide_eq_true (by omega)) ?_
        refine rv (D.int IntKind.i64 (↑i : Int)) ?_
        refine rv (D.bool (decide ((↑i : Int) < (8 : Int)))) ?_
        refine rv (D.bool (decide ((↑i : Int) < (8 : Int)))) ?_
        refine k_done (k_skip_seq ?_)
        refine rkn 35 (decide ((↑i : Int) < (8 : Int))) false (decide_eq_false (by omega)) ?_
        refine kcf (k_exit_seq (k_exit_back (k_exit_hit rfl (k_skip_seq (k_seq ?_)))))
        refine rv (D.agg [D.int IntKind.i64 (6 : Int), D.int IntKind.i64 (0 : Int), D.sl ks none]) ?_
        refine runs_call ([D.agg [D.int IntKind.i64 (6 : Int), D.int IntKind.i64 (0 : Int), D.sl ks none], D.int IntKind.i64 (6 : Int)]) (by kernel_rfl) (by kernel_rfl) (by kernel_rfl) (by kernel_rfl) (e5) (by kernel_rfl) ?_
        refine rv (D.tup [D.sl (rows c) none, D.int IntKind.i64 (↑(m + (6 : Nat)) : Int)]) ?_
        refine rv (D.sl (rows c) none) ?_
        refine rv (D.int IntKind.i64 (↑(m + (6 : Nat)) : Int)) ?_
        refine ra0 (D.sl (rows c) none) ?_
        refine ra0 (D.int IntKind.i64 (↑(m + (6 : Nat)) : Int)) ?_
        refine k_done (k_skip_seq (k_seq (k_seq ?_)))
        refine rv (D.int IntKind.i64 (↑(m + (6 : Nat)) : Int)) ?_
        refine rv (D.bool (decide ((↑(m + (6 : Nat)) : Int) > (7 : Int)))) ?_
        refine k_done (k_skip_seq ?_)
        refine rkn 84 (decide ((↑(m + (6 : Nat)) : Int) > (7 : Int))) false (decide_eq_false (by omega)) ?_
        refine kcf (k_skip_seq (k_seq ?_))
        refine rv (D.int IntKind.i64 (0 : Int)) ?_
        refine k_done (k_skip_seq (k_seq (k_seq ?_)))
        refine rv (D.int IntKind.i64 (0 : Int)) ?_
        refine k_done (k_skip_seq (k_block ?_))
        generalize 2 ^ m = M at *
        refine k_loop (S := Nat × St × D × D) (fun s => f11b l false [.bool b0, .bool b1, .bool b2, .bool b3, .bool b4, .bool b5] 6 ks w i c m (cntX (fun x => metB c (asg t m x)) s.1) s.1 s.2.2.1 s.2.2.2) (fun s => s.2.1) (fun s => s.1 ≤ M) (fun s => M - s.1) (0, [], .junk, .junk) (by kernel_rfl) rfl (by simp) (by intro s hs; omega) ?_
        rintro ⟨x, σ0, d19, d20⟩ hx
        simp only [] at hx
        show Runs (runC (callN T 5000) 5000 l11_2 (f11b l false [.bool b0, .bool b1, .bool b2, .bool b3, .bool b4, .bool b5] 6 ks w i c m (cntX (fun x => metB c (asg t m x)) x) x d19 d20) σ0) _
        have hcle := cntX_le (fun x => metB c (asg t m x)) x
        by_cases hlt2 : x < M
        · have hcond : decide ((x : Int) < IntKind.wrap IntKind.i64 ((1 : Int) * (2 : Int) ^ min (Int.toNat (IntKind.wrap IntKind.u64 ((m + 6 - 6 : Nat) : Int))) (IntKind.bits IntKind.i64))) = true := by
            rw [hsh]
            exact decide_eq_true (by omega)
          have hc1 : cntX (fun x => metB c (asg t m x)) (x + 1) = cntX (fun x => metB c (asg t m x)) x + (if metB c (asg t m x) = true then 1 else 0) := rfl
          have e8 := progMet_ok 4993 c (asg t m x) none none (by omega) (by omega) (fun c hc => ⟨by have := (hcl c hc).1; omega, fun v hv => by have := (hcl c hc).2 v hv; omega⟩) (by rw [asg_len]; omega)
          have hsnap : snap (σ0 ++ [.cells (bls (asg t m x))]) [D.sl (rows c) none, D.msl σ0.length 0 (m + 6) 1] = some ([D.sl (rows c) none, D.sl (bools (asg t m x)) none], [σ0.length]) := by
            have he := elems_bls (last_get σ0 (.cells (bls (asg t m x))))
            rw [asg_len, Nat.add_comm] at he
            simp only [snap, he, Option.map_some]
          have hend := at2_end t x m
          generalize cntX (fun x => metB c (asg t m x)) x = cn at *
          generalize metB c (asg t m x) = mt at *
          generalize asg t m x = L2 at *
          refine k_seq (k_seq ?_)
          refine rv (D.int IntKind.i64 (↑x : Int)) ?_
          refine rv (D.int IntKind.i64 (↑(m + (6 : Nat)) : Int)) ?_
          refine rve (D.int IntKind.i64 (IntKind.wrap IntKind.i64 ((↑(m + (6 : Nat)) : Int) - (6 : Int)))) (.int IntKind.i64 ((m + (6 : Nat) - 6 : Nat) : Int)) (congrArg (D.int IntKind.i64) (show IntKind.wrap IntKind.i64 ((↑(m + (6 : Nat)) : Int) - (6 : Int)) = ((m + (6 : Nat) - 6 : Nat) : Int) from wrap_eq (by omega) (by omega) (by omega))) ?_
          refine rv (D.int IntKind.u64 (IntKind.wrap IntKind.u64 (↑(m + (6 : Nat) - (6 : Nat)) : Int))) ?_
          refine rv (D.int IntKind.i64 (IntKind.wrap IntKind.i64 ((1 : Int) * (2 : Int) ^ min (Int.toNat (IntKind.wrap IntKind.u64 (↑(m + (6 : Nat) - (6 : Nat)) : Int))) (IntKind.bits IntKind.i64)))) ?_
          refine rv (D.bool (decide ((↑x : Int) < IntKind.wrap IntKind.i64 ((1 : Int) * (2 : Int) ^ min (Int.toNat (IntKind.wrap IntKind.u64 (↑(m + (6 : Nat) - (6 : Nat)) : Int))) (IntKind.bits IntKind.i64))))) ?_
          refine k_done (k_skip_seq ?_)
          refine rkn 90 (decide ((↑x : Int) < IntKind.wrap IntKind.i64 ((1 : Int) * (2 : Int) ^ min (Int.toNat (IntKind.wrap IntKind.u64 (↑(m + (6 : Nat) - (6 : Nat)) : Int))) (IntKind.bits IntKind.i64)))) true (by assumption) ?_
          refine kct (k_skip_seq (k_seq (k_block (k_seq ?_))))
          refine rv (D.int IntKind.i64 (↑(m + (6 : Nat)) : Int)) ?_
          refine runs_make (m + (6 : Nat)) (bls (List.replicate (m + (6 : Nat)) false)) (by kernel_rfl) (by kernel_rfl) (by kernel_rfl) (by omega) (bls_new (m + (6 : Nat))) ?_
          refine ra0 (D.msl (List.length σ0) (0 : Nat) (m + (6 : Nat)) (1 : Nat)) ?_
          refine k_done (k_skip_seq (k_seq (k_seq ?_)))
          refine rv (D.int IntKind.i64 (0 : Int)) ?_
          refine k_done (k_skip_seq (k_block ?_))
          refine k_loop (fun j : Nat => f11b l false [.bool b0, .bool b1, .bool b2, .bool b3, .bool b4, .bool b5] 6 ks w i c m cn x (.msl σ0.length 0 (m + 6) 1) (.int .i64 j)) (fun j => σ0 ++ [.cells (bls (rng (m + 6) (at1 t j)))]) (fun j => j ≤ 6) (fun j => 6 - j) 0 (by kernel_rfl) (by rw [rng_zero]; rfl) (by simp) (by intro s hs; omega) ?_
          intro j hj
          by_cases h6 : j < 6
          · have hL := rng_len (m + 6) (at1 t j)
            have hnext := at1_next (n := m + 6) (t := t) (i := j) (by omega)
            have hld := hbox (j : Int) (by omega)
            have hget : t.getD (Int.toNat (j : Int)) false = t[j] := by
              rw [List.getD_eq_getElem?_getD, Int.toNat_natCast, List.getElem?_eq_getElem (by omega)]
              rfl
            rw [hget] at hld
            generalize t[j] = tj at *
            generalize rng (m + 6) (at1 t j) = L at *
            refine k_seq (k_seq ?_)
            refine rv (D.int IntKind.i64 (↑j : Int)) ?_
            refine rv (D.bool (decide ((↑j : Int) < (6 : Int)))) ?_
            refine k_done (k_skip_seq ?_)
            refine rkn 96 (decide ((↑j : Int) < (6 : Int))) true (decide_eq_true (by omega)) ?_
            refine kct (k_skip_seq (k_seq (k_block ?_)))
            refine rv (D.msl (List.length σ0) (0 : Nat) (m + (6 : Nat)) (1 : Nat)) ?_
            refine rv (D.int IntKind.i64 (↑j : Int)) ?_
            refine rv (D.int IntKind.i64 (↑j : Int)) ?_
            refine runs_indexA (kd := IntKind.i64) ((5 : Nat)) ((0 : Nat)) ((↑j : Int)) (by kernel_rfl) (by kernel_rfl) (by kernel_rfl) (by omega) (by omega) ?_
            refine runs_loadB ((5 : Nat)) ((0 : Nat) + Int.toNat (↑j : Int) * (1 : Nat)) ([D.bool b0, D.bool b1, D.bool b2, D.bool b3, D.bool b4, D.bool b5]) _ (by kernel_rfl) (by kernel_rfl) (by kernel_rfl) (by assumption) ?_
            refine runs_indexM (kd := IntKind.i64) (List.length σ0) ((0 : Nat)) (m + (6 : Nat)) (j) (by kernel_rfl) (by kernel_rfl) (by kernel_rfl) (by omega) ?_
            refine runs_storeP (List.length σ0) ((0 : Nat) + j * (1 : Nat)) (bls L) (bls (List.set (L) ((0 : Nat) + j * (1 : Nat)) (tj))) (D.bool tj) (σ0 ++ [.cells (bls (List.set (L) ((0 : Nat) + j * (1 : Nat)) (tj)))]) (by kernel_rfl) (by kernel_rfl) (by kernel_rfl) (by kernel_rfl) (by kernel_rfl) (by kernel_rfl) (last_get _ _) (by rw [bls_len]; first | assumption | omega | (simp; omega)) (bls_set _ _ _) (last_set _ _ _) ?_
            refine k_done (k_skip_block (k_skip_seq ?_))
            refine rv (D.int IntKind.i64 (↑j : Int)) ?_
            refine rve (D.int IntKind.i64 (IntKind.wrap IntKind.i64 ((↑j : Int) + (1 : Int)))) (.int IntKind.i64 ((j + 1 : Nat) : Int)) (congrArg (D.int IntKind.i64) (show IntKind.wrap IntKind.i64 ((↑j : Int) + (1 : Int)) = ((j + 1 : Nat) : Int) from wrap_eq (by omega) (by omega) (by omega))) ?_
            refine ra0 (D.int IntKind.i64 (↑(j + (1 : Nat)) : Int)) ?_
            refine k_done (k_skip_back ?_)
            refine ⟨j + 1, h6, by omega, by kernel_rfl, ?_⟩
            rw [← hnext, Nat.mul_one, Nat.zero_add]
          · obtain rfl : j = 6 := by omega
            have hst := at1_end (t := t) (n := m + 6) (x := x) hj (.inl rfl)
            rw [hst]
            by_cases hm7 : m = 1
            · have hn7 : (((m + 6 : Nat) : Int) == (7 : Int)) = true := by subst hm7; rfl
              have hxx : ((x : Int) == (1 : Int)) = x.testBit 0 := by
                have hM := h2m2 hm7
                have : x = 0 ∨ x = 1 := by omega
                rcases this with h | h <;> subst h <;> rfl
              have hL := rng_len (m + 6) (at2 t x 0)
              have hnext := at2_next (t := t) (n := m + 6) (x := x) (k := 0)
              have hst2 : (rng (m + 6) (at2 t x 0)).set 6 ((x : Int) == (1 : Int)) = L2 := by
                rw [hxx, ← hend]
                have : at2 t x m = at2 t x (0 + 1) := by rw [hm7]
                rw [this]
                exact hnext
              generalize rng (m + 6) (at2 t x 0) = L at *
              rw [← hst2] at hsnap e8
              cases mt
              · refine k_seq (k_seq ?_)
                refine rv (D.int IntKind.i64 (6 : Int)) ?_
                refine rv (D.bool false) ?_
                refine k_done (k_skip_seq (kcf (k_exit_seq (k_exit_back (k_exit_hit rfl (k_skip_seq (k_seq (k_seq ?_))))))))
                refine rv (D.int IntKind.i64 (↑(m + (6 : Nat)) : Int)) ?_
                refine rv (D.bool ((↑(m + (6 : Nat)) : Int) == (7 : Int))) ?_
                refine k_done (k_skip_seq ?_)
                refine rkn 106 ((↑(m + (6 : Nat)) : Int) == (7 : Int)) true (by assumption) ?_
                refine kct ?_
                refine rv (D.msl (List.length σ0) (0 : Nat) (m + (6 : Nat)) (1 : Nat)) ?_
                refine rv (D.int IntKind.i64 (↑x : Int)) ?_
                refine rv (D.bool ((↑x : Int) == (1 : Int))) ?_
                refine runs_indexM (kd := IntKind.i64) (List.length σ0) ((0 : Nat)) (m + (6 : Nat)) (6) (by kernel_rfl) (by kernel_rfl) (by kernel_rfl) (by omega) ?_
                refine runs_storeP (List.length σ0) ((6 : Nat)) (bls L) (bls (List.set (L) ((6 : Nat)) ((↑x : Int) == (1 : Int)))) (D.bool ((↑x : Int) == (1 : Int))) (σ0 ++ [.cells (bls (List.set (L) ((6 : Nat)) ((↑x : Int) == (1 : Int))))]) (by kernel_rfl) (by kernel_rfl) (by kernel_rfl) (by kernel_rfl) (by kernel_rfl) (by kernel_rfl) (last_get _ _) (by rw [bls_len]; first | assumption | omega | (simp; omega)) (bls_set _ _ _) (last_set _ _ _) ?_
                refine k_done (k_skip_seq (k_seq ?_))
                refine rv (D.sl (rows c) none) ?_
                refine rv (D.msl (List.length σ0) (0 : Nat) (m + (6 : Nat)) (1 : Nat)) ?_
                refine runs_callS ([D.sl (rows c) none, D.msl (List.length σ0) (0 : Nat) (m + (6 : Nat)) (1 : Nat)]) _ _ (by kernel_rfl) (by kernel_rfl) (by kernel_rfl) (by assumption) (e8) (by kernel_rfl) (by kernel_rfl) ?_
                refine k_done (k_skip_seq (kcf (k_skip_block (k_skip_seq ?_))))
                refine rv (D.int IntKind.i64 (↑x : Int)) ?_
                refine rve (D.int IntKind.i64 (IntKind.wrap IntKind.i64 ((↑x : Int) + (1 : Int)))) (.int IntKind.i64 ((x + 1 : Nat) : Int)) (congrArg (D.int IntKind.i64) (show IntKind.wrap IntKind.i64 ((↑x : Int) + (1 : Int)) = ((x + 1 : Nat) : Int) from wrap_eq (by omega) (by omega) (by omega))) ?_
                refine ra0 (D.int IntKind.i64 (↑(x + (1 : Nat)) : Int)) ?_
                refine k_done (k_skip_back ?_)
                exact ⟨(x + 1, σ0 ++ [.cells (bls (List.set L 6 ((x : Int) == (1 : Int))))], .msl σ0.length 0 (m + 6) 1, .int .i64 ((6 : Nat) : Int)), hlt2, by simp only []; omega, by simp only []; rw [hc1]; kernel_rfl, rfl⟩
              · refine k_seq (k_seq ?_)
                refine rv (D.int IntKind.i64 (6 : Int)) ?_
                refine rv (D.bool false) ?_
                refine k_done (k_skip_seq (kcf (k_exit_seq (k_exit_back (k_exit_hit rfl (k_skip_seq (k_seq (k_seq ?_))))))))
                refine rv (D.int IntKind.i64 (↑(m + (6 : Nat)) : Int)) ?_
                refine rv (D.bool ((↑(m + (6 : Nat)) : Int) == (7 : Int))) ?_
                refine k_done (k_skip_seq ?_)
                refine rkn 106 ((↑(m + (6 : Nat)) : Int) == (7 : Int)) true (by assumption) ?_
                refine kct ?_
                refine rv (D.msl (List.length σ0) (0 : Nat) (m + (6 : Nat)) (1 : Nat)) ?_
                refine rv (D.int IntKind.i64 (↑x : Int)) ?_
                refine rv (D.bool ((↑x : Int) == (1 : Int))) ?_
                refine runs_indexM (kd := IntKind.i64) (List.length σ0) ((0 : Nat)) (m + (6 : Nat)) (6) (by kernel_rfl) (by kernel_rfl) (by kernel_rfl) (by omega) ?_
                refine runs_storeP (List.length σ0) ((6 : Nat)) (bls L) (bls (List.set (L) ((6 : Nat)) ((↑x : Int) == (1 : Int)))) (D.bool ((↑x : Int) == (1 : Int))) (σ0 ++ [.cells (bls (List.set (L) ((6 : Nat)) ((↑x : Int) == (1 : Int))))]) (by kernel_rfl) (by kernel_rfl) (by kernel_rfl) (by kernel_rfl) (by kernel_rfl) (by kernel_rfl) (last_get _ _) (by rw [bls_len]; first | assumption | omega | (simp; omega)) (bls_set _ _ _) (last_set _ _ _) ?_
                refine k_done (k_skip_seq (k_seq ?_))
                refine rv (D.sl (rows c) none) ?_
                refine rv (D.msl (List.length σ0) (0 : Nat) (m + (6 : Nat)) (1 : Nat)) ?_
                refine runs_callS ([D.sl (rows c) none, D.msl (List.length σ0) (0 : Nat) (m + (6 : Nat)) (1 : Nat)]) _ _ (by kernel_rfl) (by kernel_rfl) (by kernel_rfl) (by assumption) (e8) (by kernel_rfl) (by kernel_rfl) ?_
                refine k_done (k_skip_seq (kct ?_))
                refine rv (D.int IntKind.i64 (↑cn : Int)) ?_
                refine rve (D.int IntKind.i64 (IntKind.wrap IntKind.i64 ((↑cn : Int) + (1 : Int)))) (.int IntKind.i64 ((cn + 1 : Nat) : Int)) (congrArg (D.int IntKind.i64) (show IntKind.wrap IntKind.i64 ((↑cn : Int) + (1 : Int)) = ((cn + 1 : Nat) : Int) from wrap_eq (by omega) (by omega) (by omega))) ?_
                refine ra0 (D.int IntKind.i64 (↑(cn + (1 : Nat)) : Int)) ?_
                refine k_done (k_skip_block (k_skip_seq ?_))
                refine rv (D.int IntKind.i64 (↑x : Int)) ?_
                refine rve (D.int IntKind.i64 (IntKind.wrap IntKind.i64 ((↑x : Int) + (1 : Int)))) (.int IntKind.i64 ((x + 1 : Nat) : Int)) (congrArg (D.int IntKind.i64) (show IntKind.wrap IntKind.i64 ((↑x : Int) + (1 : Int)) = ((x + 1 : Nat) : Int) from wrap_eq (by omega) (by omega) (by omega))) ?_
                refine ra0 (D.int IntKind.i64 (↑(x + (1 : Nat)) : Int)) ?_
                refine k_done (k_skip_back ?_)
                exact ⟨(x + 1, σ0 ++ [.cells (bls (List.set L 6 ((x : Int) == (1 : Int))))], .msl σ0.length 0 (m + 6) 1, .int .i64 ((6 : Nat) : Int)), hlt2, by simp only []; omega, by simp only []; rw [hc1]; kernel_rfl, rfl⟩
            · have hn7 : (((m + 6 : Nat) : Int) == (7 : Int)) = false := by
                have : m = 0 := by omega
                subst this
                rfl
              have hst2 : rng (m + 6) (at2 t x 0) = L2 := by
                rw [← hend]
                have : m = 0 := by omega
                rw [this]
              rw [hst2]
              cases mt
              · refine k_seq (k_seq ?_)
                refine rv (D.int IntKind.i64 (6 : Int)) ?_
                refine rv (D.bool false) ?_
                refine k_done (k_skip_seq (kcf (k_exit_seq (k_exit_back (k_exit_hit rfl (k_skip_seq (k_seq (k_seq ?_))))))))
                refine rv (D.int IntKind.i64 (↑(m + (6 : Nat)) : Int)) ?_
                refine rv (D.bool ((↑(m + (6 : Nat)) : Int) == (7 : Int))) ?_
                refine k_done (k_skip_seq ?_)
                refine rkn 106 ((↑(m + (6 : Nat)) : Int) == (7 : Int)) false (by assumption) ?_
                refine kcf (k_skip_seq (k_seq ?_))
                refine rv (D.sl (rows c) none) ?_
                refine rv (D.msl (List.length σ0) (0 : Nat) (m + (6 : Nat)) (1 : Nat)) ?_
                refine runs_callS ([D.sl (rows c) none, D.msl (List.length σ0) (0 : Nat) (m + (6 : Nat)) (1 : Nat)]) _ _ (by kernel_rfl) (by kernel_rfl) (by kernel_rfl) (by assumption) (e8) (by kernel_rfl) (by kernel_rfl) ?_
                refine k_done (k_skip_seq (kcf (k_skip_block (k_skip_seq ?_))))
                refine rv (D.int IntKind.i64 (↑x : Int)) ?_
                refine rve (D.int IntKind.i64 (IntKind.wrap IntKind.i64 ((↑x : Int) + (1 : Int)))) (.int IntKind.i64 ((x + 1 : Nat) : Int)) (congrArg (D.int IntKind.i64) (show IntKind.wrap IntKind.i64 ((↑x : Int) + (1 : Int)) = ((x + 1 : Nat) : Int) from wrap_eq (by omega) (by omega) (by omega))) ?_
                refine ra0 (D.int IntKind.i64 (↑(x + (1 : Nat)) : Int)) ?_
                refine k_done (k_skip_back ?_)
                exact ⟨(x + 1, σ0 ++ [.cells (bls L2)], .msl σ0.length 0 (m + 6) 1, .int .i64 ((6 : Nat) : Int)), hlt2, by simp only []; omega, by simp only []; rw [hc1]; kernel_rfl, rfl⟩
              · refine k_seq (k_seq ?_)
                refine rv (D.int IntKind.i64 (6 : Int)) ?_
                refine rv (D.bool false) ?_
                refine k_done (k_skip_seq (kcf (k_exit_seq (k_exit_back (k_exit_hit rfl (k_skip_seq (k_seq (k_seq ?_))))))))
                refine rv (D.int IntKind.i64 (↑(m + (6 : Nat)) : Int)) ?_
                refine rv (D.bool ((↑(m + (6 : Nat)) : Int) == (7 : Int))) ?_
                refine k_done (k_skip_seq ?_)
                refine rkn 106 ((↑(m + (6 : Nat)) : Int) == (7 : Int)) false (by assumption) ?_
                refine kcf (k_skip_seq (k_seq ?_))
                refine rv (D.sl (rows c) none) ?_
                refine rv (D.msl (List.length σ0) (0 : Nat) (m + (6 : Nat)) (1 : Nat)) ?_
                refine runs_callS ([D.sl (rows c) none, D.msl (List.length σ0) (0 : Nat) (m + (6 : Nat)) (1 : Nat)]) _ _ (by kernel_rfl) (by kernel_rfl) (by kernel_rfl) (by assumption) (e8) (by kernel_rfl) (by kernel_rfl) ?_
                refine k_done (k_skip_seq (kct ?_))
                refine rv (D.int IntKind.i64 (↑cn : Int)) ?_
                refine rve (D.int IntKind.i64 (IntKind.wrap IntKind.i64 ((↑cn : Int) + (1 : Int)))) (.int IntKind.i64 ((cn + 1 : Nat) : Int)) (congrArg (D.int IntKind.i64) (show IntKind.wrap IntKind.i64 ((↑cn : Int) + (1 : Int)) = ((cn + 1 : Nat) : Int) from wrap_eq (by omega) (by omega) (by omega))) ?_
                refine ra0 (D.int IntKind.i64 (↑(cn + (1 : Nat)) : Int)) ?_
                refine k_done (k_skip_block (k_skip_seq ?_))
                refine rv (D.int IntKind.i64 (↑x : Int)) ?_
                refine rve (D.int IntKind.i64 (IntKind.wrap IntKind.i64 ((↑x : Int) + (1 : Int)))) (.int IntKind.i64 ((x + 1 : Nat) : Int)) (congrArg (D.int IntKind.i64) (show IntKind.wrap IntKind.i64 ((↑x : Int) + (1 : Int)) = ((x + 1 : Nat) : Int) from wrap_eq (by omega) (by omega) (by omega))) ?_
                refine ra0 (D.int IntKind.i64 (↑(x + (1 : Nat)) : Int)) ?_
                refine k_done (k_skip_back ?_)
                exact ⟨(x + 1, σ0 ++ [.cells (bls L2)], .msl σ0.length 0 (m + 6) 1, .int .i64 ((6 : Nat) : Int)), hlt2, by simp only []; omega, by simp only []; rw [hc1]; kernel_rfl, rfl⟩
        · have hcond : decide ((x : Int) < IntKind.wrap IntKind.i64 ((1 : Int) * (2 : Int) ^ min (Int.toNat (IntKind.wrap IntKind.u64 ((m + 6 - 6 : Nat) : Int))) (IntKind.bits IntKind.i64))) = false := by
            rw [hsh]
            exact decide_eq_false (by omega)
          obtain rfl : x = M := by omega
          rw [hcnt]
          cases w
          · rw [if_neg (by decide)]
            refine k_seq (k_seq ?_)
            refine rv (D.int IntKind.i64 (↑x : Int)) ?_
            refine rv (D.int IntKind.i64 (↑(m + (6 : Nat)) : Int)) ?_
            refine rve (D.int IntKind.i64 (IntKind.wrap IntKind.i64 ((↑(m + (6 : Nat)) : Int) - (6 : Int)))) (.int IntKind.i64 ((m + (6 : Nat) - 6 : Nat) : Int)) (congrArg (D.int IntKind.i64) (show IntKind.wrap IntKind.i64 ((↑(m + (6 : Nat)) : Int) - (6 : Int)) = ((m + (6 : Nat) - 6 : Nat) : Int) from wrap_eq (by omega) (by omega) (by omega))) ?_
            refine rv (D.int IntKind.u64 (IntKind.wrap IntKind.u64 (↑(m + (6 : Nat) - (6 : Nat)) : Int))) ?_
            refine rv (D.int IntKind.i64 (IntKind.wrap IntKind.i64 ((1 : Int) * (2 : Int) ^ min (Int.toNat (IntKind.wrap IntKind.u64 (↑(m + (6 : Nat) - (6 : Nat)) : Int))) (IntKind.bits IntKind.i64)))) ?_
            refine rv (D.bool (decide ((↑x : Int) < IntKind.wrap IntKind.i64 ((1 : Int) * (2 : Int) ^ min (Int.toNat (IntKind.wrap IntKind.u64 (↑(m + (6 : Nat) - (6 : Nat)) : Int))) (IntKind.bits IntKind.i64))))) ?_
            refine k_done (k_skip_seq ?_)
            refine rkn 90 (decide ((↑x : Int) < IntKind.wrap IntKind.i64 ((1 : Int) * (2 : Int) ^ min (Int.toNat (IntKind.wrap IntKind.u64 (↑(m + (6 : Nat) - (6 : Nat)) : Int))) (IntKind.bits IntKind.i64)))) false (by assumption) ?_
            refine kcf (k_exit_seq (k_exit_back (k_exit_hit rfl (k_skip_seq (k_seq ?_)))))
            refine rv (D.int IntKind.i64 (0 : Int)) ?_
            refine rv (D.bool false) ?_
            refine rv (D.bool false) ?_
            refine rv (D.bool true) ?_
            refine rv (D.bool true) ?_
            refine rv (D.int IntKind.i64 (0 : Int)) ?_
            refine rv (D.bool true) ?_
            refine rv (D.bool true) ?_
            refine ra0 (D.bool true) ?_
            refine k_done (k_skip_seq (k_ret ?_))
            exact ⟨.inr rfl, by kernel_rfl, σ0, by kernel_rfl⟩
          · rw [if_pos rfl]
            refine k_seq (k_seq ?_)
            refine rv (D.int IntKind.i64 (↑x : Int)) ?_
            refine rv (D.int IntKind.i64 (↑(m + (6 : Nat)) : Int)) ?_
            refine rve (D.int IntKind.i64 (IntKind.wrap IntKind.i64 ((↑(m + (6 : Nat)) : Int) - (6 : Int)))) (.int IntKind.i64 ((m + (6 : Nat) - 6 : Nat) : Int)) (congrArg (D.int IntKind.i64) (show IntKind.wrap IntKind.i64 ((↑(m + (6 : Nat)) : Int) - (6 : Int)) = ((m + (6 : Nat) - 6 : Nat) : Int) from wrap_eq (by omega) (by omega) (by omega))) ?_
            refine rv (D.int IntKind.u64 (IntKind.wrap IntKind.u64 (↑(m + (6 : Nat) - (6 : Nat)) : Int))) ?_
            refine rv (D.int IntKind.i64 (IntKind.wrap IntKind.i64 ((1 : Int) * (2 : Int) ^ min (Int.toNat (IntKind.wrap IntKind.u64 (↑(m + (6 : Nat) - (6 : Nat)) : Int))) (IntKind.bits IntKind.i64)))) ?_
            refine rv (D.bool (decide ((↑x : Int) < IntKind.wrap IntKind.i64 ((1 : Int) * (2 : Int) ^ min (Int.toNat (IntKind.wrap IntKind.u64 (↑(m + (6 : Nat) - (6 : Nat)) : Int))) (IntKind.bits IntKind.i64))))) ?_
            refine k_done (k_skip_seq ?_)
            refine rkn 90 (decide ((↑x : Int) < IntKind.wrap IntKind.i64 ((1 : Int) * (2 : Int) ^ min (Int.toNat (IntKind.wrap IntKind.u64 (↑(m + (6 : Nat) - (6 : Nat)) : Int))) (IntKind.bits IntKind.i64)))) false (by assumption) ?_
            refine kcf (k_exit_seq (k_exit_back (k_exit_hit rfl (k_skip_seq (k_seq ?_)))))
            refine rv (D.int IntKind.i64 (1 : Int)) ?_
            refine rv (D.bool true) ?_
            refine rv (D.bool true) ?_
            refine rv (D.bool true) ?_
            refine rv (D.bool true) ?_
            refine rv (D.int IntKind.i64 (1 : Int)) ?_
            refine rv (D.bool true) ?_
            refine rv (D.bool true) ?_
            refine ra0 (D.bool true) ?_
            refine k_done (k_skip_seq (k_ret ?_))
            exact ⟨.inr rfl, by kernel_rfl, σ0, by kernel_rfl⟩
    · obtain ⟨q1, q2, q3, q4, q5, q6⟩ := rowF_ok t ht 6 (by omega) (l.take i) (by rw [List.length_take]; omega)
      have e5 := of_ok 2 (rowF 6 (l.take i)) 4999 none q1 q2 (low_atoms 6 (by omega) 3 _ q3) (by omega) (by omega) (by omega)
      have hok := of_OK (B := 6) (by omega) q1 q2 q3 (Int.le_refl 6)
      have hrows := of_rows (n := 6) q1 q2
      have hcount := fun m hm h64 => count_ok t (m := m) q1 q2 q3 hm h64
      rw [q5] at hrows
      rw [q6] at hcount
      change ∃ σ', callN T (4999 + 1) 30 [.agg [.int .i64 6, .int .i64 0, .sl (eFs ((l.take i).map litF)) none], .int .i64 6] [] = some (.tup [.sl (rows (ofR 3 (rowF 6 (l.take i)) 6).1) none, .int .i64 (ofR 3 (rowF 6 (l.take i)) 6).2], σ') at e5
      obtain ⟨σ1, e5⟩ := e5
      have hwd : (if (6 : Int) = 5 then (l.take i).all (isl t) else (l.take i).any (isl t)) = wantR false t (l.take i) := rfl
      rw [hwd] at hcount
      have hup := hok.up
      have hcl := hok.cl
      have hnum := hok.num
      clear hok hwd
      generalize ofR 3 (rowF 6 (l.take i)) 6 = r at *
      obtain ⟨m, hm⟩ : ∃ m : Nat, r.2 = ((m + 6 : Nat) : Int) := ⟨(r.2 - 6).toNat, by omega⟩
      obtain ⟨c, n⟩ := r
      simp only [] at *
      subst hm
      have hm1 : m ≤ 1 := by omega
      have hcnt := hcount m (by omega) (by omega)
      generalize eFs ((l.take i).map litF) = ks at *
      generalize wantR false t (l.take i) = w at *
      have h2m : 2 ^ m ≤ 1024 := Nat.le_trans (Nat.pow_le_pow_right (by omega) (by omega : m ≤ 10)) (by decide)
      have h2m2 : m = 1 → 2 ^ m = 2 := by intro h; subst h; rfl
      have hsh : IntKind.wrap IntKind.i64 ((1 : Int) * (2 : Int) ^ min (Int.toNat (IntKind.wrap IntKind.u64 ((m + 6 - 6 : Nat) : Int))) (IntKind.bits IntKind.i64)) = ((2 ^ m : Nat) : Int) := shl_ok (m := m) (by omega)
      refine k_seq (k_seq ?_)
      refine rv (D.int IntKind.i64 (↑i : Int)) ?_
      refine rv (D.sl (i8s l) none) ?_
      refine rve (D.int IntKind.i64 (↑(List.length (i8s l)) : Int)) (.int IntKind.i64 ((↑(List.length l) : Int))) (by simp only [ints, eInt, rows, eInts, bools, eBool, trips, eTrip, i8s, List.length_map]) ?_
      refine rv (D.bool (decide ((↑i : Int) < (↑(List.length l) : Int)))) ?_
      refine rv (D.bool (decide ((↑i : Int) < (↑(List.length l) : Int)))) ?_
      refine rkn 32 (decide ((↑i : Int) < (↑(List.length l) : Int))) false (decide_eq_false (by omega)) ?_
      refine rno (rno ?_)
      refine rv (D.bool false) ?_
      refine k_done (k_skip_seq (kcf (k_exit_seq (k_exit_back (k_exit_hit rfl (k_skip_seq (k_seq ?_)))))))
      refine rv (D.agg [D.int IntKind.i64 (6 : Int), D.int IntKind.i64 (0 : Int), D.sl ks none]) ?_
      refine runs_call ([D.agg [D.int IntKind.i64 (6 : Int), D.int IntKind.i64 (0 : Int), D.sl ks none], D.int IntKind.i64 (6 : Int)]) (by kernel_rfl) (by kernel_rfl) (by kernel_rfl) (by kernel_rfl) (e5) (by kernel_rfl) ?_
      refine rv (D.tup [D.sl (rows c) none, D.int IntKind.i64 (↑(m + (6 : Nat)) : Int)]) ?_
      refine rv (D.sl (rows c) none) ?_
      refine rv (D.int IntKind.i64 (↑(m + (6 : Nat)) : Int)) ?_
      refine ra0 (D.sl (rows c) none) ?_
      refine ra0 (D.int IntKind.i64 (↑(m + (6 : Nat)) : Int)) ?_
      refine k_done (k_skip_seq (k_seq (k_seq ?_)))
      refine rv (D.int IntKind.i64 (↑(m + (6 : Nat)) : Int)) ?_
      refine rv (D.bool (decide ((↑(m + (6 : Nat)) : Int) > (7 : Int)))) ?_
      refine k_done (k_skip_seq ?_)
      refine rkn 84 (decide ((↑(m + (6 : Nat)) : Int) > (7 : Int))) false (decide_eq_false (by omega)) ?_
      refine kcf (k_skip_seq (k_seq ?_))
      refine rv (D.int IntKind.i64 (0 : Int)) ?_
      refine k_done (k_skip_seq (k_seq (k_seq ?_)))
      refine rv (D.int IntKind.i64 (0 : Int)) ?_
      refine k_done (k_skip_seq (k_block ?_))
      generalize 2 ^ m = M at *
      refine k_loop (S := Nat × St × D × D) (fun s => f11b l false [.bool b0, .bool b1, .bool b2, .bool b3, .bool b4, .bool b5] 6 ks w i c m (cntX (fun x => metB c (asg t m x)) s.1) s.1 s.2.2.1 s.2.2.2) (fun s => s.2.1) (fun s => s.1 ≤ M) (fun s => M - s.1) (0, [], .junk, .junk) (by kernel_rfl) rfl (by simp) (by intro s hs; omega) ?_
      rintro ⟨x, σ0, d19, d20⟩ hx
      simp only [] at hx
      show Runs (runC (callN T 5000) 5000 l11_2 (f11b l false [.bool b0, .bool b1, .bool b2, .bool b3, .bool b4, .bool b5] 6 ks w i c m (cntX (fun x => metB c (asg t m x)) x) x d19 d20) σ0) _
      have hcle := cntX_le (fun x => metB c (asg t m x)) x
      by_cases hlt2 : x < M
      · have hcond : decide ((x : Int) < IntKind.wrap IntKind.i64 ((1 : Int) * (2 : Int) ^ min (Int.toNat (IntKind.wrap IntKind.u64 ((m + 6 - 6 : Nat) : Int))) (IntKind.bits IntKind.i64))) = true := by
          rw [hsh]
          exact decide_eq_true (by omega)
        have hc1 : cntX (fun x => metB c (asg t m x)) (x + 1) = cntX (fun x => metB c (asg t m x)) x + (if metB c (asg t m x) = true then 1 else 0) := rfl
        have e8 := progMet_ok 4993 c (asg t m x) none none (by omega) (by omega) (fun c hc => ⟨by have := (hcl c hc).1; omega, fun v hv => by have := (hcl c hc).2 v hv; omega⟩) (by rw [asg_len]; omega)
        have hsnap : snap (σ0 ++ [.cells (bls (asg t m x))]) [D.sl (rows c) none, D.msl σ0.length 0 (m + 6) 1] = some ([D.sl (rows c) none, D.sl (bools (asg t m x)) none], [σ0.length]) := by
          have he := elems_bls (last_get σ0 (.cells (bls (asg t m x))))
          rw [asg_len, Nat.add_comm] at he
          simp only [snap, he, Option.map_some]
        have hend := at2_end t x m
        generalize cntX (fun x => metB c (asg t m x)) x = cn at *
        generalize metB c (asg t m x) = mt at *
        generalize asg t m x = L2 at *
        refine k_seq (k_seq ?_)
        refine rv (D.int IntKind.i64 (↑x : Int)) ?_
        refine rv (D.int IntKind.i64 (↑(m + (6 : Nat)) : Int)) ?_
        refine rve (D.int IntKind.i64 (IntKind.wrap IntKind.i64 ((↑(m + (6 : Nat)) : Int) - (6 : Int)))) (.int IntKind.i64 ((m + (6 : Nat) - 6 : Nat) : Int)) (congrArg (D.int IntKind.i64) (show IntKind.wrap IntKind.i64 ((↑(m + (6 : Nat)) : Int) - (6 : Int)) = ((m + (6 : Nat) - 6 : Nat) : Int) from wrap_eq (by omega) (by omega) (by omega))) ?_
        refine rv (D.int IntKind.u64 (IntKind.wrap IntKind.u64 (↑(m + (6 : Nat) - (6 : Nat)) : Int))) ?_
        refine rv (D.int IntKind.i64 (IntKind.wrap IntKind.i64 ((1 : Int) * (2 : Int) ^ min (Int.toNat (IntKind.wrap IntKind.u64 (↑(m + (6 : Nat) - (6 : Nat)) : Int))) (IntKind.bits IntKind.i64)))) ?_
        refine rv (D.bool (decide ((↑x : Int) < IntKind.wrap IntKind.i64 ((1 : Int) * (2 : Int) ^ min (Int.toNat (IntKind.wrap IntKind.u64 (↑(m + (6 : Nat) - (6 : Nat)) : Int))) (IntKind.bits IntKind.i64))))) ?_
        refine k_done (k_skip_seq ?_)
        refine rkn 90 (decide ((↑x : Int) < IntKind.wrap IntKind.i64 ((1 : Int) * (2 : Int) ^ min (Int.toNat (IntKind.wrap IntKind.u64 (↑(m + (6 : Nat) - (6 : Nat)) : Int))) (IntKind.bits IntKind.i64)))) true (by assumption) ?_
        refine kct (k_skip_seq (k_seq (k_block (k_seq ?_))))
        refine rv (D.int IntKind.i64 (↑(m + (6 : Nat)) : Int)) ?_
        refine runs_make (m + (6 : Nat)) (bls (List.replicate (m + (6 : Nat)) false)) (by kernel_rfl) (by kernel_rfl) (by kernel_rfl) (by omega) (bls_new (m + (6 : Nat))) ?_
        refine ra0 (D.msl (List.length σ0) (0 : Nat) (m + (6 : Nat)) (1 : Nat)) ?_
        refine k_done (k_skip_seq (k_seq (k_seq ?_)))
        refine rv (D.int IntKind.i64 (0 : Int)) ?_
        refine k_done (k_skip_seq (k_block ?_))
        refine k_loop (fun j : Nat => f11b l false [.bool b0, .bool b1, .bool b2, .bool b3, .bool b4, .bool b5] 6 ks w i c m cn x (.msl σ0.length 0 (m + 6) 1) (.int .i64 j)) (fun j => σ0 ++ [.cells (bls (rng (m + 6) (at1 t j)))]) (fun j => j ≤ 6) (fun j => 6 - j) 0 (by kernel_rfl) (by rw [rng_zero]; rfl) (by simp) (by intro s hs; omega) ?_
        intro j hj
        by_cases h6 : j < 6
        · have hL := rng_len (m + 6) (at1 t j)
          have hnext := at1_next (n := m + 6) (t := t) (i := j) (by omega)
          have hld := hbox (j : Int) (by omega)
          have hget : t.getD (Int.toNat (j : Int)) false = t[j] := by
            rw [List.getD_eq_getElem?_getD, Int.toNat_natCast, List.getElem?_eq_getElem (by omega)]
            rfl
          rw [hget] at hld
          generalize t[j] = tj at *
          generalize rng (m + 6) (at1 t j) = L at *
          refine k_seq (k_seq ?_)
          refine rv (D.int IntKind.i64 (↑j : Int)) ?_
          refine rv (D.bool (decide ((↑j : Int) < (6 : Int)))) ?_
          refine k_done (k_skip_seq ?_)
          refine rkn 96 (decide ((↑j : Int) < (6 : Int))) true (decide_eq_true (by omega)) ?_
          refine kct (k_skip_seq (k_seq (k_block ?_)))
          refine rv (D.msl (List.length σ0) (0 : Nat) (m + (6 : Nat)) (1 : Nat)) ?_
          refine rv (D.int IntKind.i64 (↑j : Int)) ?_
          refine rv (D.int IntKind.i64 (↑j : Int)) ?_
          refine runs_indexA (kd := IntKind.i64) ((5 : Nat)) ((0 : Nat)) ((↑j : Int)) (by kernel_rfl) (by kernel_rfl) (by kernel_rfl) (by omega) (by omega) ?_
          refine runs_loadB ((5 : Nat)) ((0 : Nat) + Int.toNat (↑j : Int) * (1 : Nat)) ([D.bool b0, D.bool b1, D.bool b2, D.bool b3, D.bool b4, D.bool b5]) _ (by kernel_rfl) (by kernel_rfl) (by kernel_rfl) (by assumption) ?_
          refine runs_indexM (kd := IntKind.i64) (List.length σ0) ((0 : Nat)) (m + (6 : Nat)) (j) (by kernel_rfl) (by kernel_rfl) (by kernel_rfl) (by omega) ?_
          refine runs_storeP (List.length σ0) ((0 : Nat) + j * (1 : Nat)) (bls L) (bls (List.set (L) ((0 : Nat) + j * (1 : Nat)) (tj))) (D.bool tj) (σ0 ++ [.cells (bls (List.set (L) ((0 : Nat) + j * (1 : Nat)) (tj)))]) (by kernel_rfl) (by kernel_rfl) (by kernel_rfl) (by kernel_rfl) (by kernel_rfl) (by kernel_rfl) (last_get _ _) (by rw [bls_len]; first | assumption | omega | (simp; omega)) (bls_set _ _ _) (last_set _ _ _) ?_
          refine k_done (k_skip_block (k_skip_seq ?_))
          refine rv (D.int IntKind.i64 (↑j : Int)) ?_
          refine rve (D.int IntKind.i64 (IntKind.wrap IntKind.i64 ((↑j : Int) + (1 : Int)))) (.int IntKind.i64 ((j + 1 : Nat) : Int)) (congrArg (D.int IntKind.i64) (show IntKind.wrap IntKind.i64 ((↑j : Int) + (1 : Int)) = ((j + 1 : Nat) : Int) from wrap_eq (by omega) (by omega) (by omega))) ?_
          refine ra0 (D.int IntKind.i64 (↑(j + (1 : Nat)) : Int)) ?_
          refine k_done (k_skip_back ?_)
          refine ⟨j + 1, h6, by omega, by kernel_rfl, ?_⟩
          rw [← hnext, Nat.mul_one, Nat.zero_add]
        · obtain rfl : j = 6 := by omega
          have hst := at1_end (t := t) (n := m + 6) (x := x) hj (.inl rfl)
          rw [hst]
          by_cases hm7 : m = 1
          · have hn7 : (((m + 6 : Nat) : Int) == (7 : Int)) = true := by subst hm7; rfl
            have hxx : ((x : Int) == (1 : Int)) = x.testBit 0 := by
              have hM := h2m2 hm7
              have : x = 0 ∨ x = 1 := by omega
              rcases this with h | h <;> subst h <;> rfl
            have hL := rng_len (m + 6) (at2 t x 0)
            have hnext := at2_next (t := t) (n := m + 6) (x := x) (k := 0)
            have hst2 : (rng (m + 6) (at2 t x 0)).set 6 ((x : Int) == (1 : Int)) = L2 := by
              rw [hxx, ← hend]
              have : at2 t x m = at2 t x (0 + 1) := by rw [hm7]
              rw [this]
              exact hnext
            generalize rng (m + 6) (at2 t x 0) = L at *
            rw [← hst2] at hsnap e8
            cases mt
            · refine k_seq (k_seq ?_)
              refine rv (D.int IntKind.i64 (6 : Int)) ?_
              refine rv (D.bool false) ?_
              refine k_done (k_skip_seq (kcf (k_exit_seq (k_exit_back (k_exit_hit rfl (k_skip_seq (k_seq (k_seq ?_))))))))
              refine rv (D.int IntKind.i64 (↑(m + (6 : Nat)) : Int)) ?_
              refine rv (D.bool ((↑(m + (6 : Nat)) : Int) == (7 : Int))) ?_
              refine k_done (k_skip_seq ?_)
              refine rkn 106 ((↑(m + (6 : Nat)) : Int) == (7 : Int)) true (by assumption) ?_
              refine kct ?_
              refine rv (D.msl (List.length σ0) (0 : Nat) (m + (6 : Nat)) (1 : Nat)) ?_
              refine rv (D.int IntKind.i64 (↑x : Int)) ?_
              refine rv (D.bool ((↑x : Int) == (1 : Int))) ?_
              refine runs_indexM (kd := IntKind.i64) (List.length σ0) ((0 : Nat)) (m + (6 : Nat)) (6) (by kernel_rfl) (by kernel_rfl) (by kernel_rfl) (by omega) ?_
              refine runs_storeP (List.length σ0) ((6 : Nat)) (bls L) (bls (List.set (L) ((6 : Nat)) ((↑x : Int) == (1 : Int)))) (D.bool ((↑x : Int) == (1 : Int))) (σ0 ++ [.cells (bls (List.set (L) ((6 : Nat)) ((↑x : Int) == (1 : Int))))]) (by kernel_rfl) (by kernel_rfl) (by kernel_rfl) (by kernel_rfl) (by kernel_rfl) (by kernel_rfl) (last_get _ _) (by rw [bls_len]; first | assumption | omega | (simp; omega)) (bls_set _ _ _) (last_set _ _ _) ?_
              refine k_done (k_skip_seq (k_seq ?_))
              refine rv (D.sl (rows c) none) ?_
              refine rv (D.msl (List.length σ0) (0 : Nat) (m + (6 : Nat)) (1 : Nat)) ?_
              refine runs_callS ([D.sl (rows c) none, D.msl (List.length σ0) (0 : Nat) (m + (6 : Nat)) (1 : Nat)]) _ _ (by kernel_rfl) (by kernel_rfl) (by kernel_rfl) (by assumption) (e8) (by kernel_rfl) (by kernel_rfl) ?_
              refine k_done (k_skip_seq (kcf (k_skip_block (k_skip_seq ?_))))
              refine rv (D.int IntKind.i64 (↑x : Int)) ?_
              refine rve (D.int IntKind.i64 (IntKind.wrap IntKind.i64 ((↑x : Int) + (1 : Int)))) (.int IntKind.i64 ((x + 1 : Nat) : Int)) (congrArg (D.int IntKind.i64) (show IntKind.wrap IntKind.i64 ((↑x : Int) + (1 : Int)) = ((x + 1 : Nat) : Int) from wrap_eq (by omega) (by omega) (by omega))) ?_
              refine ra0 (D.int IntKind.i64 (↑(x + (1 : Nat)) : Int)) ?_
              refine k_done (k_skip_back ?_)
              exact ⟨(x + 1, σ0 ++ [.cells (bls (List.set L 6 ((x : Int) == (1 : Int))))], .msl σ0.length 0 (m + 6) 1, .int .i64 ((6 : Nat) : Int)), hlt2, by simp only []; omega, by simp only []; rw [hc1]; kernel_rfl, rfl⟩
            · refine k_seq (k_seq ?_)
              refine rv (D.int IntKind.i64 (6 : Int)) ?_
              refine rv (D.bool false) ?_
              refine k_done (k_skip_seq (kcf (k_exit_seq (k_exit_back (k_exit_hit rfl (k_skip_seq (k_seq (k_seq ?_))))))))
              refine rv (D.int IntKind.i64 (↑(m + (6 : Nat)) : Int)) ?_
              refine rv (D.bool ((↑(m + (6 : Nat)) : Int) == (7 : Int))) ?_
              refine k_done (k_skip_seq ?_)
              refine rkn 106 ((↑(m + (6 : Nat)) : Int) == (7 : Int)) true (by assumption) ?_
              refine kct ?_
              refine rv (D.msl (List.length σ0) (0 : Nat) (m + (6 : Nat)) (1 : Nat)) ?_
              refine rv (D.int IntKind.i64 (↑x : Int)) ?_
              refine rv (D.bool ((↑x : Int) == (1 : Int))) ?_
              refine runs_indexM (kd := IntKind.i64) (List.length σ0) ((0 : Nat)) (m + (6 : Nat)) (6) (by kernel_rfl) (by kernel_rfl) (by kernel_rfl) (by omega) ?_
              refine runs_storeP (List.length σ0) ((6 : Nat)) (bls L) (bls (List.set (L) ((6 : Nat)) ((↑x : Int) == (1 : Int)))) (D.bool ((↑x : Int) == (1 : Int))) (σ0 ++ [.cells (bls (List.set (L) ((6 : Nat)) ((↑x : Int) == (1 : Int))))]) (by kernel_rfl) (by kernel_rfl) (by kernel_rfl) (by kernel_rfl) (by kernel_rfl) (by kernel_rfl) (last_get _ _) (by rw [bls_len]; first | assumption | omega | (simp; omega)) (bls_set _ _ _) (last_set _ _ _) ?_
              refine k_done (k_skip_seq (k_seq ?_))
              refine rv (D.sl (rows c) none) ?_
              refine rv (D.msl (List.length σ0) (0 : Nat) (m + (6 : Nat)) (1 : Nat)) ?_
              refine runs_callS ([D.sl (rows c) none, D.msl (List.length σ0) (0 : Nat) (m + (6 : Nat)) (1 : Nat)]) _ _ (by kernel_rfl) (by kernel_rfl) (by kernel_rfl) (by assumption) (e8) (by kernel_rfl) (by kernel_rfl) ?_
              refine k_done (k_skip_seq (kct ?_))
              refine rv (D.int IntKind.i64 (↑cn : Int)) ?_
              refine rve (D.int IntKind.i64 (IntKind.wrap IntKind.i64 ((↑cn : Int) + (1 : Int)))) (.int IntKind.i64 ((cn + 1 : Nat) : Int)) (congrArg (D.int IntKind.i64) (show IntKind.wrap IntKind.i64 ((↑cn : Int) + (1 : Int)) = ((cn + 1 : Nat) : Int) from wrap_eq (by omega) (by omega) (by omega))) ?_
              refine ra0 (D.int IntKind.i64 (↑(cn + (1 : Nat)) : Int)) ?_
              refine k_done (k_skip_block (k_skip_seq ?_))
              refine rv (D.int IntKind.i64 (↑x : Int)) ?_
              refine rve (D.int IntKind.i64 (IntKind.wrap IntKind.i64 ((↑x : Int) + (1 : Int)))) (.int IntKind.i64 ((x + 1 : Nat) : Int)) (congrArg (D.int IntKind.i64) (show IntKind.wrap IntKind.i64 ((↑x : Int) + (1 : Int)) = ((x + 1 : Nat) : Int) from wrap_eq (by omega) (by omega) (by omega))) ?_
              refine ra0 (D.int IntKind.i64 (↑(x + (1 : Nat)) : Int)) ?_
              refine k_done (k_skip_back ?_)
              exact ⟨(x + 1, σ0 ++ [.cells (bls (List.set L 6 ((x : Int) == (1 : Int))))], .msl σ0.length 0 (m + 6) 1, .int .i64 ((6 : Nat) : Int)), hlt2, by simp only []; omega, by simp only []; rw [hc1]; kernel_rfl, rfl⟩
          · have hn7 : (((m + 6 : Nat) : Int) == (7 : Int)) = false := by
              have : m = 0 := by omega
              subst this
              rfl
            have hst2 : rng (m + 6) (at2 t x 0) = L2 := by
              rw [← hend]
              have : m = 0 := by omega
              rw [this]
            rw [hst2]
            cases mt
            · refine k_seq (k_seq ?_)
              refine rv (D.int IntKind.i64 (6 : Int)) ?_
              refine rv (D.bool false) ?_
              refine k_done (k_skip_seq (kcf (k_exit_seq (k_exit_back (k_exit_hit rfl (k_skip_seq (k_seq (k_seq ?_))))))))
              refine rv (D.int IntKind.i64 (↑(m + (6 : Nat)) : Int)) ?_
              refine rv (D.bool ((↑(m + (6 : Nat)) : Int) == (7 : Int))) ?_
              refine k_done (k_skip_seq ?_)
              refine rkn 106 ((↑(m + (6 : Nat)) : Int) == (7 : Int)) false (by assumption) ?_
              refine kcf (k_skip_seq (k_seq ?_))
              refine rv (D.sl (rows c) none) ?_
              refine rv (D.msl (List.length σ0) (0 : Nat) (m + (6 : Nat)) (1 : Nat)) ?_
              refine runs_callS ([D.sl (rows c) none, D.msl (List.length σ0) (0 : Nat) (m + (6 : Nat)) (1 : Nat)]) _ _ (by kernel_rfl) (by kernel_rfl) (by kernel_rfl) (by assumption) (e8) (by kernel_rfl) (by kernel_rfl) ?_
              refine k_done (k_skip_seq (kcf (k_skip_block (k_skip_seq ?_))))
              refine rv (D.int IntKind.i64 (↑x : Int)) ?_
              refine rve (D.int IntKind.i64 (IntKind.wrap IntKind.i64 ((↑x : Int) + (1 : Int)))) (.int IntKind.i64 ((x + 1 : Nat) : Int)) (congrArg (D.int IntKind.i64) (show IntKind.wrap IntKind.i64 ((↑x : Int) + (1 : Int)) = ((x + 1 : Nat) : Int) from wrap_eq (by omega) (by omega) (by omega))) ?_
              refine ra0 (D.int IntKind.i64 (↑(x + (1 : Nat)) : Int)) ?_
              refine k_done (k_skip_back ?_)
              exact ⟨(x + 1, σ0 ++ [.cells (bls L2)], .msl σ0.length 0 (m + 6) 1, .int .i64 ((6 : Nat) : Int)), hlt2, by simp only []; omega, by simp only []; rw [hc1]; kernel_rfl, rfl⟩
            · refine k_seq (k_seq ?_)
              refine rv (D.int IntKind.i64 (6 : Int)) ?_
              refine rv (D.bool false) ?_
              refine k_done (k_skip_seq (kcf (k_exit_seq (k_exit_back (k_exit_hit rfl (k_skip_seq (k_seq (k_seq ?_))))))))
              refine rv (D.int IntKind.i64 (↑(m + (6 : Nat)) : Int)) ?_
              refine rv (D.bool ((↑(m + (6 : Nat)) : Int) == (7 : Int))) ?_
              refine k_done (k_skip_seq ?_)
              refine rkn 106 ((↑(m + (6 : Nat)) : Int) == (7 : Int)) false (by assumption) ?_
              refine kcf (k_skip_seq (k_seq ?_))
              refine rv (D.sl (rows c) none) ?_
              refine rv (D.msl (List.length σ0) (0 : Nat) (m + (6 : Nat)) (1 : Nat)) ?_
              refine runs_callS ([D.sl (rows c) none, D.msl (List.length σ0) (0 : Nat) (m + (6 : Nat)) (1 : Nat)]) _ _ (by kernel_rfl) (by kernel_rfl) (by kernel_rfl) (by assumption) (e8) (by kernel_rfl) (by kernel_rfl) ?_
              refine k_done (k_skip_seq (kct ?_))
              refine rv (D.int IntKind.i64 (↑cn : Int)) ?_
              refine rve (D.int IntKind.i64 (IntKind.wrap IntKind.i64 ((↑cn : Int) + (1 : Int)))) (.int IntKind.i64 ((cn + 1 : Nat) : Int)) (congrArg (D.int IntKind.i64) (show IntKind.wrap IntKind.i64 ((↑cn : Int) + (1 : Int)) = ((cn + 1 : Nat) : Int) from wrap_eq (by omega) (by omega) (by omega))) ?_
              refine ra0 (D.int IntKind.i64 (↑(cn + (1 : Nat)) : Int)) ?_
              refine k_done (k_skip_block (k_skip_seq ?_))
              refine rv (D.int IntKind.i64 (↑x : Int)) ?_
              refine rve (D.int IntKind.i64 (IntKind.wrap IntKind.i64 ((↑x : Int) + (1 : Int)))) (.int IntKind.i64 ((x + 1 : Nat) : Int)) (congrArg (D.int IntKind.i64) (show IntKind.wrap IntKind.i64 ((↑x : Int) + (1 : Int)) = ((x + 1 : Nat) : Int) from wrap_eq (by omega) (by omega) (by omega))) ?_
              refine ra0 (D.int IntKind.i64 (↑(x + (1 : Nat)) : Int)) ?_
              refine k_done (k_skip_back ?_)
              exact ⟨(x + 1, σ0 ++ [.cells (bls L2)], .msl σ0.length 0 (m + 6) 1, .int .i64 ((6 : Nat) : Int)), hlt2, by simp only []; omega, by simp only []; rw [hc1]; kernel_rfl, rfl⟩
      · have hcond : decide ((x : Int) < IntKind.wrap IntKind.i64 ((1 : Int) * (2 : Int) ^ min (Int.toNat (IntKind.wrap IntKind.u64 ((m + 6 - 6 : Nat) : Int))) (IntKind.bits IntKind.i64))) = false := by
          rw [hsh]
          exact decide_eq_false (by omega)
        obtain rfl : x = M := by omega
        rw [hcnt]
        cases w
        · rw [if_neg (by decide)]
          refine k_seq (k_seq ?_)
          refine rv (D.int IntKind.i64 (↑x : Int)) ?_
          refine rv (D.int IntKind.i64 (↑(m + (6 : Nat)) : Int)) ?_
          refine rve (D.int IntKind.i64 (IntKind.wrap IntKind.i64 ((↑(m + (6 : Nat)) : Int) - (6 : Int)))) (.int IntKind.i64 ((m + (6 : Nat) - 6 : Nat) : Int)) (congrArg (D.int IntKind.i64) (show IntKind.wrap IntKind.i64 ((↑(m + (6 : Nat)) : Int) - (6 : Int)) = ((m + (6 : Nat) - 6 : Nat) : Int) from wrap_eq (by omega) (by omega) (by omega))) ?_
          refine rv (D.int IntKind.u64 (IntKind.wrap IntKind.u64 (↑(m + (6 : Nat) - (6 : Nat)) : Int))) ?_
          refine rv (D.int IntKind.i64 (IntKind.wrap IntKind.i64 ((1 : Int) * (2 : Int) ^ min (Int.toNat (IntKind.wrap IntKind.u64 (↑(m + (6 : Nat) - (6 : Nat)) : Int))) (IntKind.bits IntKind.i64)))) ?_
          refine rv (D.bool (decide ((↑x : Int) < IntKind.wrap IntKind.i64 ((1 : Int) * (2 : Int) ^ min (Int.toNat (IntKind.wrap IntKind.u64 (↑(m + (6 : Nat) - (6 : Nat)) : Int))) (IntKind.bits IntKind.i64))))) ?_
          refine k_done (k_skip_seq ?_)
          refine rkn 90 (decide ((↑x : Int) < IntKind.wrap IntKind.i64 ((1 : Int) * (2 : Int) ^ min (Int.toNat (IntKind.wrap IntKind.u64 (↑(m + (6 : Nat) - (6 : Nat)) : Int))) (IntKind.bits IntKind.i64)))) false (by assumption) ?_
          refine kcf (k_exit_seq (k_exit_back (k_exit_hit rfl (k_skip_seq (k_seq ?_)))))
          refine rv (D.int IntKind.i64 (0 : Int)) ?_
          refine rv (D.bool false) ?_
          refine rv (D.bool false) ?_
          refine rv (D.bool true) ?_
          refine rv (D.bool true) ?_
          refine rv (D.int IntKind.i64 (0 : Int)) ?_
          refine rv (D.bool true) ?_
          refine rv (D.bool true) ?_
          refine ra0 (D.bool true) ?_
          refine k_done (k_skip_seq (k_ret ?_))
          exact ⟨.inr rfl, by kernel_rfl, σ0, by kernel_rfl⟩
        · rw [if_pos rfl]
          refine k_seq (k_seq ?_)
          refine rv (D.int IntKind.i64 (↑x : Int)) ?_
          refine rv (D.int IntKind.i64 (↑(m + (6 : Nat)) : Int)) ?_
          refine rve (D.int IntKind.i64 (IntKind.wrap IntKind.i64 ((↑(m + (6 : Nat)) : Int) - (6 : Int)))) (.int IntKind.i64 ((m + (6 : Nat) - 6 : Nat) : Int)) (congrArg (D.int IntKind.i64) (show IntKind.wrap IntKind.i64 ((↑(m + (6 : Nat)) : Int) - (6 : Int)) = ((m + (6 : Nat) - 6 : Nat) : Int) from wrap_eq (by omega) (by omega) (by omega))) ?_
          refine rv (D.int IntKind.u64 (IntKind.wrap IntKind.u64 (↑(m + (6 : Nat) - (6 : Nat)) : Int))) ?_
          refine rv (D.int IntKind.i64 (IntKind.wrap IntKind.i64 ((1 : Int) * (2 : Int) ^ min (Int.toNat (IntKind.wrap IntKind.u64 (↑(m + (6 : Nat) - (6 : Nat)) : Int))) (IntKind.bits IntKind.i64)))) ?_
          refine rv (D.bool (decide ((↑x : Int) < IntKind.wrap IntKind.i64 ((1 : Int) * (2 : Int) ^ min (Int.toNat (IntKind.wrap IntKind.u64 (↑(m + (6 : Nat) - (6 : Nat)) : Int))) (IntKind.bits IntKind.i64))))) ?_
          refine k_done (k_skip_seq ?_)
          refine rkn 90 (decide ((↑x : Int) < IntKind.wrap IntKind.i64 ((1 : Int) * (2 : Int) ^ min (Int.toNat (IntKind.wrap IntKind.u64 (↑(m + (6 : Nat) - (6 : Nat)) : Int))) (IntKind.bits IntKind.i64)))) false (by assumption) ?_
          refine kcf (k_exit_seq (k_exit_back (k_exit_hit rfl (k_skip_seq (k_seq ?_)))))
          refine rv (D.int IntKind.i64 (1 : Int)) ?_
          refine rv (D.bool true) ?_
          refine rv (D.bool true) ?_
          refine rv (D.bool true) ?_
          refine rv (D.bool true) ?_
          refine rv (D.int IntKind.i64 (1 : Int)) ?_
          refine rv (D.bool true) ?_
          refine rv (D.bool true) ?_
          refine ra0 (D.bool true) ?_
          refine k_done (k_skip_seq (k_ret ?_))
          exact ⟨.inr rfl, by kernel_rfl, σ0, by kernel_rfl⟩
  · refine k_seq ?_
    refine rgf (D.lptr (5 : Nat) (0 : Nat)) ([]) ?_
    refine rv (D.bool false) ?_
    refine k_done (k_skip_seq (k_seq ?_))
    refine runs_call ([]) (by kernel_rfl) (by kernel_rfl) (by kernel_rfl) (by kernel_rfl) (awake19_ok) (by kernel_rfl) ?_
    refine ra0 (D.bool true) ?_
    refine k_done (k_skip_seq (k_seq (k_seq ?_)))
    refine rv (D.bool true) ?_
    refine rv (D.bool false) ?_
    refine k_done (k_skip_seq (kcf (k_skip_seq (k_seq ?_))))
    refine rv (D.agg [D.int IntKind.i64 (6 : Int), D.int IntKind.i64 (0 : Int), D.nils (24 : Nat)]) ?_
    refine rgf (D.lptr (8 : Nat) (0 : Nat)) ([]) ?_
    refine rgf (D.junk) ([]) ?_
    refine k_done (k_skip_seq (k_seq (k_seq ?_)))
    refine rv (D.bool true) ?_
    refine k_done (k_skip_seq (kct ?_))
    refine rv (D.lptr (8 : Nat) (0 : Nat)) ?_
    refine rgf (D.junk) ([]) ?_
    refine k_done (k_skip_seq (k_seq ?_))
    refine rv (D.bool true) ?_
    refine ra0 (D.bool true) ?_
    refine k_done (k_skip_seq (k_seq (k_seq ?_)))
    refine rv (D.int IntKind.i64 (0 : Int)) ?_
    refine k_done (k_skip_seq (k_block ?_))
    refine k_loop (fun i : Nat => f11a l true [.bool b0, .bool b1, .bool b2, .bool b3, .bool b4, .bool b5] 5 (eFs ((l.take i).map litF)) (wantR true t (l.take i)) i) (fun _ => []) (fun i => i ≤ l.length ∧ i ≤ 8) (fun i => 8 - i) 0 (by kernel_rfl) rfl (by simp) (by intro s hs; omega) ?_
    rintro i ⟨hi, hi8⟩
    by_cases hlt : i < l.length
    · by_cases h8 : i < 8
      · have hv := hl l[i] (List.getElem_mem hlt)
        have hsn := eFs_lit (l.take i) l[i]
        rw [← take_snoc hlt] at hsn
        have hws := wantR_snoc true t (l.take i) l[i]
        rw [← take_snoc hlt] at hws
        have hkl : (eFs ((l.take i).map litF)).length = i := by rw [eFs_length, List.length_map, List.length_take]; omega
        by_cases hneg : l[i] < 0
        · have hr := tmod6 (v := 0 - l[i]) (by omega)
          rw [eF_neg hneg] at hsn
          rw [isl_neg hneg] at hws
          have hld := hbox (Int.tmod (0 - l[i]) 6 + 1 - 1) (by omega)
          generalize eFs ((l.take i).map litF) = ks at *
          generalize wantR true t (l.take i) = w at *
          generalize List.getD t (Int.tmod (0 - l[i]) 6 + 1 - 1).toNat false = tv at *
          cases w
          · refine k_seq (k_seq ?_)
            refine rv (D.int IntKind.i64 (↑i : Int)) ?_
            refine rv (D.sl (i8s l) none) ?_
            refine rve (D.int IntKind.i64 (↑(List.length (i8s l)) : Int)) (.int IntKind.i64 ((↑(List.length l) : Int))) (by simp only [ints, eInt, rows, eInts, bools, eBool, trips, eTrip, i8s, List.length_map]) ?_
            refine rv (D.bool (decide ((↑i : Int) < (↑(List.length l) : Int)))) ?_
            refine rv (D.bool (decide ((↑i : Int) < (↑(List.length l) : Int)))) ?_
            refine rkn 32 (decide ((↑i : Int) < (↑(List.length l) : Int))) true (decide_eq_true (by omega)) ?_
            refine rv (D.int IntKind.i64 (↑i : Int)) ?_
            refine rv (D.bool (decide ((↑i : Int) < (8 : Int)))) ?_
            refine rv (D.bool (decide ((↑i : Int) < (8 : Int)))) ?_
            refine k_done (k_skip_seq ?_)
            refine rkn 35 (decide ((↑i : Int) < (8 : Int))) true (decide_eq_true (by omega)) ?_
            refine kct (k_skip_seq (k_seq (k_block (k_seq ?_))))
            refine rv (D.sl (i8s l) none) ?_
            refine rv (D.int IntKind.i64 (↑i : Int)) ?_
            refine runs_index (l) (fun n => [D.int IntKind.i8 n]) (o := none) (kd := IntKind.i64) (i) (by kernel_rfl) (by kernel_rfl) (by kernel_rfl) (by assumption) (by kernel_rfl) ?_
            refine rv (D.int IntKind.i8 l[i]) ?_
            refine rve (D.int IntKind.i64 (IntKind.wrap IntKind.i64 l[i])) (.int IntKind.i64 (l[i])) (congrArg (D.int IntKind.i64) (show IntKind.wrap IntKind.i64 l[i] = (l[i]) from wrap_eq (by omega) (by omega) (by omega))) ?_
            refine ra0 (D.int IntKind.i64 l[i]) ?_
            refine k_done (k_skip_seq (k_seq ?_))
            refine rv (D.int IntKind.i64 l[i]) ?_
            refine rv (D.bool (decide (l[i] < (0 : Int)))) ?_
            refine ra0 (D.bool (decide (l[i] < (0 : Int)))) ?_
            refine k_done (k_skip_seq (k_seq (k_seq ?_)))
            refine rv (D.bool (decide (l[i] < (0 : Int)))) ?_
            refine k_done (k_skip_seq ?_)
            refine rkn 45 (decide (l[i] < (0 : Int))) true (decide_eq_true (by assumption)) ?_
            refine kct ?_
            refine rv (D.int IntKind.i64 l[i]) ?_
            refine rve (D.int IntKind.i64 (IntKind.wrap IntKind.i64 ((0 : Int) - l[i]))) (.int IntKind.i64 ((0 : Int) - l[i])) (congrArg (D.int IntKind.i64) (show IntKind.wrap IntKind.i64 ((0 : Int) - l[i]) = ((0 : Int) - l[i]) from wrap_eq (by omega) (by omega) (by omega))) ?_
            refine ra0 (D.int IntKind.i64 ((0 : Int) - l[i])) ?_
            refine k_done (k_skip_seq (k_seq ?_))
            refine rv (D.int IntKind.i64 ((0 : Int) - l[i])) ?_
            refine rv (D.int IntKind.i64 (Int.tmod ((0 : Int) - l[i]) (6 : Int))) ?_
            refine rve (D.int IntKind.i64 (IntKind.wrap IntKind.i64 (Int.tmod ((0 : Int) - l[i]) (6 : Int) + (1 : Int)))) (.int IntKind.i64 (Int.tmod ((0 : Int) - l[i]) (6 : Int) + (1 : Int))) (congrArg (D.int IntKind.i64) (show IntKind.wrap IntKind.i64 (Int.tmod ((0 : Int) - l[i]) (6 : Int) + (1 : Int)) = (Int.tmod ((0 : Int) - l[i]) (6 : Int) + (1 : Int)) from wrap_eq (by omega) (by omega) (by omega))) ?_
            refine ra0 (D.int IntKind.i64 (Int.tmod ((0 : Int) - l[i]) (6 : Int) + (1 : Int))) ?_
            refine k_done (k_skip_seq (k_seq ?_))
            refine rv (D.int IntKind.i64 (Int.tmod ((0 : Int) - l[i]) (6 : Int) + (1 : Int))) ?_
            refine rv (D.agg [D.int IntKind.i64 (3 : Int), D.int IntKind.i64 (Int.tmod ((0 : Int) - l[i]) (6 : Int) + (1 : Int)), D.nils (24 : Nat)]) ?_
            refine rgf (D.lptr (13 : Nat) (0 : Nat)) ([]) ?_
            refine rgf (D.junk) ([]) ?_
            refine k_done (k_skip_seq (k_seq ?_))
            refine rv (D.int IntKind.i64 (Int.tmod ((0 : Int) - l[i]) (6 : Int) + (1 : Int))) ?_
            refine rve (D.int IntKind.i64 (IntKind.wrap IntKind.i64 (Int.tmod ((0 : Int) - l[i]) (6 : Int) + (1 : Int) - (1 : Int)))) (.int IntKind.i64 (Int.tmod ((0 : Int) - l[i]) (6 : Int) + (1 : Int) - (1 : Int))) (congrArg (D.int IntKind.i64) (show IntKind.wrap IntKind.i64 (Int.tmod ((0 : Int) - l[i]) (6 : Int) + (1 : Int) - (1 : Int)) = (Int.tmod ((0 : Int) - l[i]) (6 : Int) + (1 : Int) - (1 : Int)) from wrap_eq (by omega) (by omega) (by omega))) ?_
            refine runs_indexA (kd := IntKind.i64) ((5 : Nat)) ((0 : Nat)) (Int.tmod ((0 : Int) - l[i]) (6 : Int) + (1 : Int) - (1 : Int)) (by kernel_rfl) (by kernel_rfl) (by kernel_rfl) (by omega) (by omega) ?_
            refine runs_loadB ((5 : Nat)) ((0 : Nat) + Int.toNat (Int.tmod ((0 : Int) - l[i]) (6 : Int) + (1 : Int) - (1 : Int)) * (1 : Nat)) ([D.bool b0, D.bool b1, D.bool b2, D.bool b3, D.bool b4, D.bool b5]) _ (by kernel_rfl) (by kernel_rfl) (by kernel_rfl) (by assumption) ?_
            refine rv (D.bool (decide (l[i] < (0 : Int)))) ?_
            refine rv (D.bool ((tv == decide (l[i] < (0 : Int))) != true)) ?_
            refine ra0 (D.bool ((tv == decide (l[i] < (0 : Int))) != true)) ?_
            refine k_done (k_skip_seq (k_seq (k_seq ?_)))
            refine rv (D.bool (decide (l[i] < (0 : Int)))) ?_
            refine k_done (k_skip_seq ?_)
            refine rkn 59 (decide (l[i] < (0 : Int))) true (decide_eq_true (by assumption)) ?_
            refine kct ?_
            refine rv (D.agg [D.int IntKind.i64 (3 : Int), D.int IntKind.i64 (Int.tmod ((0 : Int) - l[i]) (6 : Int) + (1 : Int)), D.sl [] none]) ?_
            refine rv (D.sl [[D.int IntKind.i64 (3 : Int), D.int IntKind.i64 (Int.tmod ((0 : Int) - l[i]) (6 : Int) + (1 : Int)), D.sl [] none]] (some (24 : Nat))) ?_
            refine rv (D.agg [D.int IntKind.i64 (4 : Int), D.int IntKind.i64 (0 : Int), D.sl [[D.int IntKind.i64 (3 : Int), D.int IntKind.i64 (Int.tmod ((0 : Int) - l[i]) (6 : Int) + (1 : Int)), D.sl [] none]] none]) ?_
            refine rgf (D.junk) ([]) ?_
            refine k_done (k_skip_seq (k_seq ?_))
            refine rv (D.lptr (8 : Nat) (2 : Nat)) ?_
            refine rgf (D.sl ks (some (24 : Nat))) ([]) ?_
            refine rv (D.agg [D.int IntKind.i64 (4 : Int), D.int IntKind.i64 (0 : Int), D.sl [[D.int IntKind.i64 (3 : Int), D.int IntKind.i64 (Int.tmod ((0 : Int) - l[i]) (6 : Int) + (1 : Int)), D.sl [] none]] none]) ?_
            refine rv (D.sl [[D.int IntKind.i64 (4 : Int), D.int IntKind.i64 (0 : Int), D.sl [[D.int IntKind.i64 (3 : Int), D.int IntKind.i64 (Int.tmod ((0 : Int) - l[i]) (6 : Int) + (1 : Int)), D.sl [] none]] none]] (some (24 : Nat))) ?_
            refine runs_append (ks) ([[D.int IntKind.i64 (4 : Int), D.int IntKind.i64 (0 : Int), D.sl [[D.int IntKind.i64 (3 : Int), D.int IntKind.i64 (Int.tmod ((0 : Int) - l[i]) (6 : Int) + (1 : Int)), D.sl [] none]] none]]) (ks ++ [[D.int IntKind.i64 (4 : Int), D.int IntKind.i64 (0 : Int), D.sl [[D.int IntKind.i64 (3 : Int), D.int IntKind.i64 (Int.tmod ((0 : Int) - l[i]) (6 : Int) + (1 : Int)), D.sl [] none]] none]]) (by kernel_rfl) (by kernel_rfl) (by kernel_rfl) (by kernel_rfl) (by simp [ints, eInt, rows, eInts, bools, eBool, trips, eTrip, i8s, room]; omega) rfl ?_
            refine rv (D.lptr (8 : Nat) (2 : Nat)) ?_
            refine rgf (D.junk) ([]) ?_
            refine k_done (k_skip_seq (k_seq ?_))
            refine rv (D.bool true) ?_
            refine k_done (k_skip_seq (kct ?_))
            refine rv (D.bool false) ?_
            refine rv (D.bool false) ?_
            refine rno ?_
            refine rv (D.bool false) ?_
            refine ra0 (D.bool false) ?_
            refine k_done (k_skip_block (k_skip_seq ?_))
            refine rv (D.int IntKind.i64 (↑i : Int)) ?_
            refine rve (D.int IntKind.i64 (IntKind.wrap IntKind.i64 ((↑i : Int) + (1 : Int)))) (.int IntKind.i64 ((i + 1 : Nat) : Int)) (congrArg (D.int IntKind.i64) (show IntKind.wrap IntKind.i64 ((↑i : Int) + (1 : Int)) = ((i + 1 : Nat) : Int) from wrap_eq (by omega) (by omega) (by omega))) ?_
            refine ra0 (D.int IntKind.i64 (↑(i + (1 : Nat)) : Int)) ?_
            refine k_done (k_skip_back ?_)
            exact ⟨i + 1, ⟨hlt, h8⟩, by omega, by rw [hsn, hws]; kernel_rfl, rfl⟩
          · refine k_seq (k_seq ?_)
            refine rv (D.int IntKind.i64 (↑i : Int)) ?_
            refine rv (D.sl (i8s l) none) ?_
            refine rve (D.int IntKind.i64 (↑(List.length (i8s l)) : Int)) (.int IntKind.i64 ((↑(List.length l) : Int))) (by simp only [ints, eInt, rows, eInts, bools, eBool, trips, eTrip, i8s, List.length_map]) ?_
            refine rv (D.bool (decide ((↑i : Int) < (↑(List.length l) : Int)))) ?_
            refine rv (D.bool (decide ((↑i : Int) < (↑(List.length l) : Int)))) ?_
            refine rkn 32 (decide ((↑i : Int) < (↑(List.length l) : Int))) true (decide_eq_true (by omega)) ?_
            refine rv (D.int IntKind.i64 (↑i : Int)) ?_
            refine rv (D.bool (decide ((↑i : Int) < (8 : Int)))) ?_
            refine rv (D.bool (decide ((↑i : Int) < (8 : Int)))) ?_
            refine k_done (k_skip_seq ?_)
            refine rkn 35 (decide ((↑i : Int) < (8 : Int))) true (decide_eq_true (by omega)) ?_
            refine kct (k_skip_seq (k_seq (k_block (k_seq ?_))))
            refine rv (D.sl (i8s l) none) ?_
            refine rv (D.int IntKind.i64 (↑i : Int)) ?_
            refine runs_index (l) (fun n => [D.int IntKind.i8 n]) (o := none) (kd := IntKind.i64) (i) (by kernel_rfl) (by kernel_rfl) (by kernel_rfl) (by assumption) (by kernel_rfl) ?_
            refine rv (D.int IntKind.i8 l[i]) ?_
            refine rve (D.int IntKind.i64 (IntKind.wrap IntKind.i64 l[i])) (.int IntKind.i64 (l[i])) (congrArg (D.int IntKind.i64) (show IntKind.wrap IntKind.i64 l[i] = (l[i]) from wrap_eq (by omega) (by omega) (by omega))) ?_
            refine ra0 (D.int IntKind.i64 l[i]) ?_
            refine k_done (k_skip_seq (k_seq ?_))
            refine rv (D.int IntKind.i64 l[i]) ?_
            refine rv (D.bool (decide (l[i] < (0 : Int)))) ?_
            refine ra0 (D.bool (decide (l[i] < (0 : Int)))) ?_
            refine k_done (k_skip_seq (k_seq (k_seq ?_)))
            refine rv (D.bool (decide (l[i] < (0 : Int)))) ?_
            refine k_done (k_skip_seq ?_)
            refine rkn 45 (decide (l[i] < (0 : Int))) true (decide_eq_true (by assumption)) ?_
            refine kct ?_
            refine rv (D.int IntKind.i64 l[i]) ?_
            refine rve (D.int IntKind.i64 (IntKind.wrap IntKind.i64 ((0 : Int) - l[i]))) (.int IntKind.i64 ((0 : Int) - l[i])) (congrArg (D.int IntKind.i64) (show IntKind.wrap IntKind.i64 ((0 : Int) - l[i]) = ((0 : Int) - l[i]) from wrap_eq (by omega) (by omega) (by omega))) ?_
            refine ra0 (D.int IntKind.i64 ((0 : Int) - l[i])) ?_
            refine k_done (k_skip_seq (k_seq ?_))
            refine rv (D.int IntKind.i64 ((0 : Int) - l[i])) ?_
            refine rv (D.int IntKind.i64 (Int.tmod ((0 : Int) - l[i]) (6 : Int))) ?_
            refine rve (D.int IntKind.i64 (IntKind.wrap IntKind.i64 (Int.tmod ((0 : Int) - l[i]) (6 : Int) + (1 : Int)))) (.int IntKind.i64 (Int.tmod ((0 : Int) - l[i]) (6 : Int) + (1 : Int))) (congrArg (D.int IntKind.i64) (show IntKind.wrap IntKind.i64 (Int.tmod ((0 : Int) - l[i]) (6 : Int) + (1 : Int)) = (Int.tmod ((0 : Int) - l[i]) (6 : Int) + (1 : Int)) from wrap_eq (by omega) (by omega) (by omega))) ?_
            refine ra0 (D.int IntKind.i64 (Int.tmod ((0 : Int) - l[i]) (6 : Int) + (1 : Int))) ?_
            refine k_done (k_skip_seq (k_seq ?_))
            refine rv (D.int IntKind.i64 (Int.tmod ((0 : Int) - l[i]) (6 : Int) + (1 : Int))) ?_
            refine rv (D.agg [D.int IntKind.i64 (3 : Int), D.int IntKind.i64 (Int.tmod ((0 : Int) - l[i]) (6 : Int) + (1 : Int)), D.nils (24 : Nat)]) ?_
            refine rgf (D.lptr (13 : Nat) (0 : Nat)) ([]) ?_
            refine rgf (D.junk) ([]) ?_
            refine k_done (k_skip_seq (k_seq ?_))
            refine rv (D.int IntKind.i64 (Int.tmod ((0 : Int) - l[i]) (6 : Int) + (1 : Int))) ?_
            refine rve (D.int IntKind.i64 (IntKind.wrap IntKind.i64 (Int.tmod ((0 : Int) - l[i]) (6 : Int) + (1 : Int) - (1 : Int)))) (.int IntKind.i64 (Int.tmod ((0 : Int) - l[i]) (6 : Int) + (1 : Int) - (1 : Int))) (congrArg (D.int IntKind.i64) (show IntKind.wrap IntKind.i64 (Int.tmod ((0 : Int) - l[i]) (6 : Int) + (1 : Int) - (1 : Int)) = (Int.tmod ((0 : Int) - l[i]) (6 : Int) + (1 : Int) - (1 : Int)) from wrap_eq (by omega) (by omega) (by omega))) ?_
            refine runs_indexA (kd := IntKind.i64) ((5 : Nat)) ((0 : Nat)) (Int.tmod ((0 : Int) - l[i]) (6 : Int) + (1 : Int) - (1 : Int)) (by kernel_rfl) (by kernel_rfl) (by kernel_rfl) (by omega) (by omega) ?_
            refine runs_loadB ((5 : Nat)) ((0 : Nat) + Int.toNat (Int.tmod ((0 : Int) - l[i]) (6 : Int) + (1 : Int) - (1 : Int)) * (1 : Nat)) ([D.bool b0, D.bool b1, D.bool b2, D.bool b3, D.bool b4, D.bool b5]) _ (by kernel_rfl) (by kernel_rfl) (by kernel_rfl) (by assumption) ?_
            refine rv (D.bool (decide (l[i] < (0 : Int)))) ?_
            refine rv (D.bool ((tv == decide (l[i] < (0 : Int))) != true)) ?_
            refine ra0 (D.bool ((tv == decide (l[i] < (0 : Int))) != true)) ?_
            refine k_done (k_skip_seq (k_seq (k_seq ?_)))
            refine rv (D.bool (decide (l[i] < (0 : Int)))) ?_
            refine k_done (k_skip_seq ?_)
            refine rkn 59 (decide (l[i] < (0 : Int))) true (decide_eq_true (by assumption)) ?_
            refine kct ?_
            refine rv (D.agg [D.int IntKind.i64 (3 : Int), D.int IntKind.i64 (Int.tmod ((0 : Int) - l[i]) (6 : Int) + (1 : Int)), D.sl [] none]) ?_
            refine rv (D.sl [[D.int IntKind.i64 (3 : Int), D.int IntKind.i64 (Int.tmod ((0 : Int) - l[i]) (6 : Int) + (1 : Int)), D.sl [] none]] (some (24 : Nat))) ?_
            refine rv (D.agg [D.int IntKind.i64 (4 : Int), D.int IntKind.i64 (0 : Int), D.sl [[D.int IntKind.i64 (3 : Int), D.int IntKind.i64 (Int.tmod ((0 : Int) - l[i]) (6 : Int) + (1 : Int)), D.sl [] none]] none]) ?_
            refine rgf (D.junk) ([]) ?_
            refine k_done (k_skip_seq (k_seq ?_))
            refine rv (D.lptr (8 : Nat) (2 : Nat)) ?_
            refine rgf (D.sl ks (some (24 : Nat))) ([]) ?_
            refine rv (D.agg [D.int IntKind.i64 (4 : Int), D.int IntKind.i64 (0 : Int), D.sl [[D.int IntKind.i64 (3 : Int), D.int IntKind.i64 (Int.tmod ((0 : Int) - l[i]) (6 : Int) + (1 : Int)), D.sl [] none]] none]) ?_
            refine rv (D.sl [[D.int IntKind.i64 (4 : Int), D.int IntKind.i64 (0 : Int), D.sl [[D.int IntKind.i64 (3 : Int), D.int IntKind.i64 (Int.tmod ((0 : Int) - l[i]) (6 : Int) + (1 : Int)), D.sl [] none]] none]] (some (24 : Nat))) ?_
            refine runs_append (ks) ([[D.int IntKind.i64 (4 : Int), D.int IntKind.i64 (0 : Int), D.sl [[D.int IntKind.i64 (3 : Int), D.int IntKind.i64 (Int.tmod ((0 : Int) - l[i]) (6 : Int) + (1 : Int)), D.sl [] none]] none]]) (ks ++ [[D.int IntKind.i64 (4 : Int), D.int IntKind.i64 (0 : Int), D.sl [[D.int IntKind.i64 (3 : Int), D.int IntKind.i64 (Int.tmod ((0 : Int) - l[i]) (6 : Int) + (1 : Int)), D.sl [] none]] none]]) (by kernel_rfl) (by kernel_rfl) (by kernel_rfl) (by kernel_rfl) (by simp [ints, eInt, rows, eInts, bools, eBool, trips, eTrip, i8s, room]; omega) rfl ?_
            refine rv (D.lptr (8 : Nat) (2 : Nat)) ?_
            refine rgf (D.junk) ([]) ?_
            refine k_done (k_skip_seq (k_seq ?_))
            refine rv (D.bool true) ?_
            refine k_done (k_skip_seq (kct ?_))
            refine rv (D.bool true) ?_
            refine rv (D.bool true) ?_
            refine rv (D.bool ((tv == decide (l[i] < (0 : Int))) != true)) ?_
            refine rv (D.bool ((tv == decide (l[i] < (0 : Int))) != true)) ?_
            refine ra0 (D.bool ((tv == decide (l[i] < (0 : Int))) != true)) ?_
            refine k_done (k_skip_block (k_skip_seq ?_))
            refine rv (D.int IntKind.i64 (↑i : Int)) ?_
            refine rve (D.int IntKind.i64 (IntKind.wrap IntKind.i64 ((↑i : Int) + (1 : Int)))) (.int IntKind.i64 ((i + 1 : Nat) : Int)) (congrArg (D.int IntKind.i64) (show IntKind.wrap IntKind.i64 ((↑i : Int) + (1 : Int)) = ((i + 1 : Nat) : Int) from wrap_eq (by omega) (by omega) (by omega))) ?_
            refine ra0 (D.int IntKind.i64 (↑(i + (1 : Nat)) : Int)) ?_
            refine k_done (k_skip_back ?_)
            exact ⟨i + 1, ⟨hlt, h8⟩, by omega, by rw [hsn, hws]; kernel_rfl, rfl⟩
        · have hr := tmod6 (v := l[i]) (by omega)
          rw [eF_pos hneg] at hsn
          rw [isl_pos hneg] at hws
          have hld := hbox (Int.tmod l[i] 6 + 1 - 1) (by omega)
          generalize eFs ((l.take i).map litF) = ks at *
          generalize wantR true t (l.take i) = w at *
          generalize List.getD t (Int.tmod l[i] 6 + 1 - 1).toNat false = tv at *
          cases w
          · refine k_seq (k_seq ?_)
            refine rv (D.int IntKind.i64 (↑i : Int)) ?_
            refine rv (D.sl (i8s l) none) ?_
            refine rve (D.int IntKind.i64 (↑(List.length (i8s l)) : Int)) (.int IntKind.i64 ((↑(List.length l) : Int))) (by simp only [ints, eInt, rows, eInts, bools, eBool, trips, eTrip, i8s, List.length_map]) ?_
            refine rv (D.bool (decide ((↑i : Int) < (↑(List.length l) : Int)))) ?_
            refine rv (D.bool (decide ((↑i : Int) < (↑(List.length l) : Int)))) ?_
            refine rkn 32 (decide ((↑i : Int) < (↑(List.length l) : Int))) true (decide_eq_true (by omega)) ?_
            refine rv (D.int IntKind.i64 (↑i : Int)) ?_
            refine rv (D.bool (decide ((↑i : Int) < (8 : Int)))) ?_
            refine rv (D.bool (decide ((↑i : Int) < (8 : Int)))) ?_
            refine k_done (k_skip_seq ?_)
            refine rkn 35 (decide ((↑i : Int) < (8 : Int))) true (decide_eq_true (by omega)) ?_
            refine kct (k_skip_seq (k_seq (k_block (k_seq ?_))))
            refine rv (D.sl (i8s l) none) ?_
            refine rv (D.int IntKind.i64 (↑i : Int)) ?_
            refine runs_index (l) (fun n => [D.int IntKind.i8 n]) (o := none) (kd := IntKind.i64) (i) (by kernel_rfl) (by kernel_rfl) (by kernel_rfl) (by assumption) (by kernel_rfl) ?_
            refine rv (D.int IntKind.i8 l[i]) ?_
            refine rve (D.int IntKind.i64 (IntKind.wrap IntKind.i64 l[i])) (.int IntKind.i64 (l[i])) (congrArg (D.int IntKind.i64) (show IntKind.wrap IntKind.i64 l[i] = (l[i]) from wrap_eq (by omega) (by omega) (by omega))) ?_
            refine ra0 (D.int IntKind.i64 l[i]) ?_
            refine k_done (k_skip_seq (k_seq ?_))
            refine rv (D.int IntKind.i64 l[i]) ?_
            refine rv (D.bool (decide (l[i] < (0 : Int)))) ?_
            refine ra0 (D.bool (decide (l[i] < (0 : Int)))) ?_
            refine k_done (k_skip_seq (k_seq (k_seq ?_)))
            refine rv (D.bool (decide (l[i] < (0 : Int)))) ?_
            refine k_done (k_skip_seq ?_)
            refine rkn 45 (decide (l[i] < (0 : Int))) false (decide_eq_false (by assumption)) ?_
            refine kcf (k_skip_seq (k_seq ?_))
            refine rv (D.int IntKind.i64 l[i]) ?_
            refine rv (D.int IntKind.i64 (Int.tmod l[i] (6 : Int))) ?_
            refine rve (D.int IntKind.i64 (IntKind.wrap IntKind.i64 (Int.tmod l[i] (6 : Int) + (1 : Int)))) (.int IntKind.i64 (Int.tmod l[i] (6 : Int) + (1 : Int))) (congrArg (D.int IntKind.i64) (show IntKind.wrap IntKind.i64 (Int.tmod l[i] (6 : Int) + (1 : Int)) = (Int.tmod l[i] (6 : Int) + (1 : Int)) from wrap_eq (by omega) (by omega) (by omega))) ?_
            refine ra0 (D.int IntKind.i64 (Int.tmod l[i] (6 : Int) + (1 : Int))) ?_
            refine k_done (k_skip_seq (k_seq ?_))
            refine rv (D.int IntKind.i64 (Int.tmod l[i] (6 : Int) + (1 : Int))) ?_
            refine rv (D.agg [D.int IntKind.i64 (3 : Int), D.int IntKind.i64 (Int.tmod l[i] (6 : Int) + (1 : Int)), D.nils (24 : Nat)]) ?_
            refine rgf (D.lptr (13 : Nat) (0 : Nat)) ([]) ?_
            refine rgf (D.junk) ([]) ?_
            refine k_done (k_skip_seq (k_seq ?_))
            refine rv (D.int IntKind.i64 (Int.tmod l[i] (6 : Int) + (1 : Int))) ?_
            refine rve (D.int IntKind.i64 (IntKind.wrap IntKind.i64 (Int.tmod l[i] (6 : Int) + (1 : Int) - (1 : Int)))) (.int IntKind.i64 (Int.tmod l[i] (6 : Int) + (1 : Int) - (1 : Int))) (congrArg (D.int IntKind.i64) (show IntKind.wrap IntKind.i64 (Int.tmod l[i] (6 : Int) + (1 : Int) - (1 : Int)) = (Int.tmod l[i] (6 : Int) + (1 : Int) - (1 : Int)) from wrap_eq (by omega) (by omega) (by omega))) ?_
            refine runs_indexA (kd := IntKind.i64) ((5 : Nat)) ((0 : Nat)) (Int.tmod l[i] (6 : Int) + (1 : Int) - (1 : Int)) (by kernel_rfl) (by kernel_rfl) (by kernel_rfl) (by omega) (by omega) ?_
            refine runs_loadB ((5 : Nat)) ((0 : Nat) + Int.toNat (Int.tmod l[i] (6 : Int) + (1 : Int) - (1 : Int)) * (1 : Nat)) ([D.bool b0, D.bool b1, D.bool b2, D.bool b3, D.bool b4, D.bool b5]) _ (by kernel_rfl) (by kernel_rfl) (by kernel_rfl) (by assumption) ?_
            refine rv (D.bool (decide (l[i] < (0 : Int)))) ?_
            refine rv (D.bool ((tv == decide (l[i] < (0 : Int))) != true)) ?_
            refine ra0 (D.bool ((tv == decide (l[i] < (0 : Int))) != true)) ?_
            refine k_done (k_skip_seq (k_seq (k_seq ?_)))
            refine rv (D.bool (decide (l[i] < (0 : Int)))) ?_
            refine k_done (k_skip_seq ?_)
            refine rkn 59 (decide (l[i] < (0 : Int))) false (decide_eq_false (by assumption)) ?_
            refine kcf (k_skip_seq (k_seq ?_))
            refine rv (D.lptr (8 : Nat) (2 : Nat)) ?_
            refine rgf (D.sl ks (some (24 : Nat))) ([]) ?_
            refine rv (D.agg [D.int IntKind.i64 (3 : Int), D.int IntKind.i64 (Int.tmod l[i] (6 : Int) + (1 : Int)), D.sl [] none]) ?_
            refine rv (D.sl [[D.int IntKind.i64 (3 : Int), D.int IntKind.i64 (Int.tmod l[i] (6 : Int) + (1 : Int)), D.sl [] none]] (some (24 : Nat))) ?_
            refine runs_append (ks) ([[D.int IntKind.i64 (3 : Int), D.int IntKind.i64 (Int.tmod l[i] (6 : Int) + (1 : Int)), D.sl [] none]]) (ks ++ [[D.int IntKind.i64 (3 : Int), D.int IntKind.i64 (Int.tmod l[i] (6 : Int) + (1 : Int)), D.sl [] none]]) (by kernel_rfl) (by kernel_rfl) (by kernel_rfl) (by kernel_rfl) (by simp [ints, eInt, rows, eInts, bools, eBool, trips, eTrip, i8s, room]; omega) rfl ?_
            refine rv (D.lptr (8 : Nat) (2 : Nat)) ?_
            refine rgf (D.junk) ([]) ?_
            refine k_done (k_skip_seq (k_seq ?_))
            refine rv (D.bool true) ?_
            refine k_done (k_skip_seq (kct ?_))
            refine rv (D.bool false) ?_
            refine rv (D.bool false) ?_
            refine rno ?_
            refine rv (D.bool false) ?_
            refine ra0 (D.bool false) ?_
            refine k_done (k_skip_block (k_skip_seq ?_))
            refine rv (D.int IntKind.i64 (↑i : Int)) ?_
            refine rve (D.int IntKind.i64 (IntKind.wrap IntKind.i64 ((↑i : Int) + (1 : Int)))) (.int IntKind.i64 ((i + 1 : Nat) : Int)) (congrArg (D.int IntKind.i64) (show IntKind.wrap IntKind.i64 ((↑i : Int) + (1 : Int)) = ((i + 1 : Nat) : Int) from wrap_eq (by omega) (by omega) (by omega))) ?_
            refine ra0 (D.int IntKind.i64 (↑(i + (1 : Nat)) : Int)) ?_
            refine k_done (k_skip_back ?_)
            exact ⟨i + 1, ⟨hlt, h8⟩, by omega, by rw [hsn, hws]; kernel_rfl, rfl⟩
          · refine k_seq (k_seq ?_)
            refine rv (D.int IntKind.i64 (↑i : Int)) ?_
            refine rv (D.sl (i8s l) none) ?_
            refine rve (D.int IntKind.i64 (↑(List.length (i8s l)) : Int)) (.int IntKind.i64 ((↑(List.length l) : Int))) (by simp only [ints, eInt, rows, eInts, bools, eBool, trips, eTrip, i8s, List.length_map]) ?_
            refine rv (D.bool (decide ((↑i : Int) < (↑(List.length l) : Int)))) ?_
            refine rv (D.bool (decide ((↑i : Int) < (↑(List.length l) : Int)))) ?_
            refine rkn 32 (decide ((↑i : Int) < (↑(List.length l) : Int))) true (decide_eq_true (by omega)) ?_
            refine rv (D.int IntKind.i64 (↑i : Int)) ?_
            refine rv (D.bool (decide ((↑i : Int) < (8 : Int)))) ?_
            refine rv (D.bool (decide ((↑i : Int) < (8 : Int)))) ?_
            refine k_done (k_skip_seq ?_)
            refine rkn 35 (decide ((↑i : Int) < (8 : Int))) true (decide_eq_true (by omega)) ?_
            refine kct (k_skip_seq (k_seq (k_block (k_seq ?_))))
            refine rv (D.sl (i8s l) none) ?_
            refine rv (D.int IntKind.i64 (↑i : Int)) ?_
            refine runs_index (l) (fun n => [D.int IntKind.i8 n]) (o := none) (kd := IntKind.i64) (i) (by kernel_rfl) (by kernel_rfl) (by kernel_rfl) (by assumption) (by kernel_rfl) ?_
            refine rv (D.int IntKind.i8 l[i]) ?_
            refine rve (D.int IntKind.i64 (IntKind.wrap IntKind.i64 l[i])) (.int IntKind.i64 (l[i])) (congrArg (D.int IntKind.i64) (show IntKind.wrap IntKind.i64 l[i] = (l[i]) from wrap_eq (by omega) (by omega) (by omega))) ?_
            refine ra0 (D.int IntKind.i64 l[i]) ?_
            refine k_done (k_skip_seq (k_seq ?_))
            refine rv (D.int IntKind.i64 l[i]) ?_
            refine rv (D.bool (decide (l[i] < (0 : Int)))) ?_
            refine ra0 (D.bool (decide (l[i] < (0 : Int)))) ?_
            refine k_done (k_skip_seq (k_seq (k_seq ?_)))
            refine rv (D.bool (decide (l[i] < (0 : Int)))) ?_
            refine k_done (k_skip_seq ?_)
            refine rkn 45 (decide (l[i] < (0 : Int))) false (decide_eq_false (by assumption)) ?_
            refine kcf (k_skip_seq (k_seq ?_))
            refine rv (D.int IntKind.i64 l[i]) ?_
            refine rv (D.int IntKind.i64 (Int.tmod l[i] (6 : Int))) ?_
            refine rve (D.int IntKind.i64 (IntKind.wrap IntKind.i64 (Int.tmod l[i] (6 : Int) + (1 : Int)))) (.int IntKind.i64 (Int.tmod l[i] (6 : Int) + (1 : Int))) (congrArg (D.int IntKind.i64) (show IntKind.wrap IntKind.i64 (Int.tmod l[i] (6 : Int) + (1 : Int)) = (Int.tmod l[i] (6 : Int) + (1 : Int)) from wrap_eq (by omega) (by omega) (by omega))) ?_
            refine ra0 (D.int IntKind.i64 (Int.tmod l[i] (6 : Int) + (1 : Int))) ?_
            refine k_done (k_skip_seq (k_seq ?_))
            refine rv (D.int IntKind.i64 (Int.tmod l[i] (6 : Int) + (1 : Int))) ?_
            refine rv (D.agg [D.int IntKind.i64 (3 : Int), D.int IntKind.i64 (Int.tmod l[i] (6 : Int) + (1 : Int)), D.nils (24 : Nat)]) ?_
            refine rgf (D.lptr (13 : Nat) (0 : Nat)) ([]) ?_
            refine rgf (D.junk) ([]) ?_
            refine k_done (k_skip_seq (k_seq ?_))
            refine rv (D.int IntKind.i64 (Int.tmod l[i] (6 : Int) + (1 : Int))) ?_
            refine rve (D.int IntKind.i64 (IntKind.wrap IntKind.i64 (Int.tmod l[i] (6 : Int) + (1 : Int) - (1 : Int)))) (.int IntKind.i64 (Int.tmod l[i] (6 : Int) + (1 : Int) - (1 : Int))) (congrArg (D.int IntKind.i64) (show IntKind.wrap IntKind.i64 (Int.tmod l[i] (6 : Int) + (1 : Int) - (1 : Int)) = (Int.tmod l[i] (6 : Int) + (1 : Int) - (1 : Int)) from wrap_eq (by omega) (by omega) (by omega))) ?_
            refine runs_indexA (kd := IntKind.i64) ((5 : Nat)) ((0 : Nat)) (Int.tmod l[i] (6 : Int) + (1 : Int) - (1 : Int)) (by kernel_rfl) (by kernel_rfl) (by kernel_rfl) (by omega) (by omega) ?_
            refine runs_loadB ((5 : Nat)) ((0 : Nat) + Int.toNat (Int.tmod l[i] (6 : Int) + (1 : Int) - (1 : Int)) * (1 : Nat)) ([D.bool b0, D.bool b1, D.bool b2, D.bool b3, D.bool b4, D.bool b5]) _ (by kernel_rfl) (by kernel_rfl) (by kernel_rfl) (by assumption) ?_
            refine rv (D.bool (decide (l[i] < (0 : Int)))) ?_
            refine rv (D.bool ((tv == decide (l[i] < (0 : Int))) != true)) ?_
            refine ra0 (D.bool ((tv == decide (l[i] < (0 : Int))) != true)) ?_
            refine k_done (k_skip_seq (k_seq (k_seq ?_)))
            refine rv (D.bool (decide (l[i] < (0 : Int)))) ?_
            refine k_done (k_skip_seq ?_)
            refine rkn 59 (decide (l[i] < (0 : Int))) false (decide_eq_false (by assumption)) ?_
            refine kcf (k_skip_seq (k_seq ?_))
            refine rv (D.lptr (8 : Nat) (2 : Nat)) ?_
            refine rgf (D.sl ks (some (24 : Nat))) ([]) ?_
            refine rv (D.agg [D.int IntKind.i64 (3 : Int), D.int IntKind.i64 (Int.tmod l[i] (6 : Int) + (1 : Int)), D.sl [] none]) ?_
            refine rv (D.sl [[D.int IntKind.i64 (3 : Int), D.int IntKind.i64 (Int.tmod l[i] (6 : Int) + (1 : Int)), D.sl [] none]] (some (24 : Nat))) ?_
            refine runs_append (ks) ([[D.int IntKind.i64 (3 : Int), D.int IntKind.i64 (Int.tmod l[i] (6 : Int) + (1 : Int)), D.sl [] none]]) (ks ++ [[D.int IntKind.i64 (3 : Int), D.int IntKind.i64 (Int.tmod l[i] (6 : Int) + (1 : Int)), D.sl [] none]]) (by kernel_rfl) (by kernel_rfl) (by kernel_rfl) (by kernel_rfl) (by simp [ints, eInt, rows, eInts, bools, eBool, trips, eTrip, i8s, room]; omega) rfl ?_
            refine rv (D.lptr (8 : Nat) (2 : Nat)) ?_
            refine rgf (D.junk) ([]) ?_
            refine k_done (k_skip_seq (k_seq ?_))
            refine rv (D.bool true) ?_
            refine k_done (k_skip_seq (kct ?_))
            refine rv (D.bool true) ?_
            refine rv (D.bool true) ?_
            refine rv (D.bool ((tv == decide (l[i] < (0 : Int))) != true)) ?_
            refine rv (D.bool ((tv == decide (l[i] < (0 : Int))) != true)) ?_
            refine ra0 (D.bool ((tv == decide (l[i] < (0 : Int))) != true)) ?_
            refine k_done (k_skip_block (k_skip_seq ?_))
            refine rv (D.int IntKind.i64 (↑i : Int)) ?_
            refine rve (D.int IntKind.i64 (IntKind.wrap IntKind.i64 ((↑i : Int) + (1 : Int)))) (.int IntKind.i64 ((i + 1 : Nat) : Int)) (congrArg (D.int IntKind.i64) (show IntKind.wrap IntKind.i64 ((↑i : Int) + (1 : Int)) = ((i + 1 : Nat) : Int) from wrap_eq (by omega) (by omega) (by omega))) ?_
            refine ra0 (D.int IntKind.i64 (↑(i + (1 : Nat)) : Int)) ?_
            refine k_done (k_skip_back ?_)
            exact ⟨i + 1, ⟨hlt, h8⟩, by omega, by rw [hsn, hws]; kernel_rfl, rfl⟩
      · obtain ⟨q1, q2, q3, q4, q5, q6⟩ := rowF_ok t ht 5 (by omega) (l.take i) (by rw [List.length_take]; omega)
        have e5 := of_ok 2 (rowF 5 (l.take i)) 4999 none q1 q2 (low_atoms 6 (by omega) 3 _ q3) (by omega) (by omega) (by omega)
        have hok := of_OK (B := 6) (by omega) q1 q2 q3 (Int.le_refl 6)
        have hrows := of_rows (n := 6) q1 q2
        have hcount := fun m hm h64 => count_ok t (m := m) q1 q2 q3 hm h64
        rw [q5] at hrows
        rw [q6] at hcount
        change ∃ σ', callN T (4999 + 1) 30 [.agg [.int .i64 5, .int .i64 0, .sl (eFs ((l.take i).map litF)) none], .int .i64 6] [] = some (.tup [.sl (rows (ofR 3 (rowF 5 (l.take i)) 6).1) none, .int .i64 (ofR 3 (rowF 5 (l.take i)) 6).2], σ') at e5
        obtain ⟨σ1, e5⟩ := e5
        have hwd : (if (5 : Int) = 5 then (l.take i).all (isl t) else (l.take i).any (isl t)) = wantR true t (l.take i) := rfl
        rw [hwd] at hcount
        have hup := hok.up
        have hcl := hok.cl
        have hnum := hok.num
        clear hok hwd
        generalize ofR 3 (rowF 5 (l.take i)) 6 = r at *
        obtain ⟨m, hm⟩ : ∃ m : Nat, r.2 = ((m + 6 : Nat) : Int) := ⟨(r.2 - 6).toNat, by omega⟩
        obtain ⟨c, n⟩ := r
        simp only [] at *
        subst hm
        have hm1 : m ≤ 1 := by omega
        have hcnt := hcount m (by omega) (by omega)
        generalize eFs ((l.take i).map litF) = ks at *
        generalize wantR true t (l.take i) = w at *
        have h2m : 2 ^ m ≤ 1024 := Nat.le_trans (Nat.pow_le_pow_right (by omega) (by omega : m ≤ 10)) (by decide)
        have h2m2 : m = 1 → 2 ^ m = 2 := by intro h; subst h; rfl
        have hsh : IntKind.wrap IntKind.i64 ((1 : Int) * (2 : Int) ^ min (Int.toNat (IntKind.wrap IntKind.u64 ((m + 6 - 6 : Nat) : Int))) (IntKind.bits IntKind.i64)) = ((2 ^ m : Nat) : Int) := shl_ok (m := m) (by omega)
        refine k_seq (k_seq ?_)
        refine rv (D.int IntKind.i64 (↑i : Int)) ?_
        refine rv (D.sl (i8s l) none) ?_
        refine rve (D.int IntKind.i64 (↑(List.length (i8s l)) : Int)) (.int IntKind.i64 ((↑(List.length l) : Int))) (by simp only [ints, eInt, rows, eInts, bools, eBool, trips, eTrip, i8s, List.length_map]) ?_
        refine rv (D.bool (decide ((↑i : Int) < (↑(List.length l) : Int)))) ?_
        refine rv (D.bool (decide ((↑i : Int) < (↑(List.length l) : Int)))) ?_
        refine rkn 32 (decide ((↑i : Int) < (↑(List.length l) : Int))) true (decide_eq_true (by omega)) ?_
        refine rv (D.int IntKind.i64 (↑i : Int)) ?_
        refine rv (D.bool (decide ((↑i : Int) < (8 : Int)))) ?_
        refine rv (D.bool (decide ((↑i : Int) < (8 : Int)))) ?_
        refine k_done (k_skip_seq ?_)
        refine rkn 35 (decide ((↑i : Int) < (8 : Int))) false (decide_eq_false (by omega)) ?_
        refine kcf (k_exit_seq (k_exit_back (k_exit_hit rfl (k_skip_seq (k_seq ?_)))))
        refine rv (D.agg [D.int IntKind.i64 (5 : Int), D.int IntKind.i64 (0 : Int), D.sl ks none]) ?_
        refine runs_call ([D.agg [D.int IntKind.i64 (5 : Int), D.int IntKind.i64 (0 : Int), D.sl ks none], D.int IntKind.i64 (6 : Int)]) (by kernel_rfl) (by kernel_rfl) (by kernel_rfl) (by kernel_rfl) (e5) (by kernel_rfl) ?_
        refine rv (D.tup [D.sl (rows c) none, D.int IntKind.i64 (↑(m + (6 : Nat)) : Int)]) ?_
        refine rv (D.sl (rows c) none) ?_
        refine rv (D.int IntKind.i64 (↑(m + (6 : Nat)) : Int)) ?_
        refine ra0 (D.sl (rows c) none) ?_
        refine ra0 (D.int IntKind.i64 (↑(m + (6 : Nat)) : Int)) ?_
        refine k_done (k_skip_seq (k_seq (k_seq ?_)))
        refine rv (D.int IntKind.i64 (↑(m + (6 : Nat)) : Int)) ?_
        refine rv (D.bool (decide ((↑(m + (6 : Nat)) : Int) > (7 : Int)))) ?_
        refine k_done (k_skip_seq ?_)
        refine rkn 84 (decide ((↑(m + (6 : Nat)) : Int) > (7 : Int))) false (decide_eq_false (by omega)) ?_
        refine kcf (k_skip_seq (k_seq ?_))
        refine rv (D.int IntKind.i64 (0 : Int)) ?_
        refine k_done (k_skip_seq (k_seq (k_seq ?_)))
        refine rv (D.int IntKind.i64 (0 : Int)) ?_
        refine k_done (k_skip_seq (k_block ?_))
        generalize 2 ^ m = M at *
        refine k_loop (S := Nat × St × D × D) (fun s => f11b l true [.bool b0, .bool b1, .bool b2, .bool b3, .bool b4, .bool b5] 5 ks w i c m (cntX (fun x => metB c (asg t m x)) s.1) s.1 s.2.2.1 s.2.2.2) (fun s => s.2.1) (fun s => s.1 ≤ M) (fun s => M - s.1) (0, [], .junk, .junk) (by kernel_rfl) rfl (by simp) (by intro s hs; omega) ?_
        rintro ⟨x, σ0, d19, d20⟩ hx
        simp only [] at hx
        show Runs (runC (callN T 5000) 5000 l11_2 (f11b l true [.bool b0, .bool b1, .bool b2, .bool b3, .bool b4, .bool b5] 5 ks w i c m (cntX (fun x => metB c (asg t m x)) x) x d19 d20) σ0) _
        have hcle := cntX_le (fun x => metB c (asg t m x)) x
        by_cases hlt2 : x < M
        · have hcond : decide ((x : Int) < IntKind.wrap IntKind.i64 ((1 : Int) * (2 : Int) ^ min (Int.toNat (IntKind.wrap IntKind.u64 ((m + 6 - 6 : Nat) : Int))) (IntKind.bits IntKind.i64))) = true := by
            rw [hsh]
            exact decide_eq_true (by omega)
          have hc1 : cntX (fun x => metB c (asg t m x)) (x + 1) = cntX (fun x => metB c (asg t m x)) x + (if metB c (asg t m x) = true then 1 else 0) := rfl
          have e8 := progMet_ok 4993 c (asg t m x) none none (by omega) (by omega) (fun c hc => ⟨by have := (hcl c hc).1; omega, fun v hv => by have := (hcl c hc).2 v hv; omega⟩) (by rw [asg_len]; omega)
          have hsnap : snap (σ0 ++ [.cells (bls (asg t m x))]) [D.sl (rows c) none, D.msl σ0.length 0 (m + 6) 1] = some ([D.sl (rows c) none, D.sl (bools (asg t m x)) none], [σ0.length]) := by
            have he := elems_bls (last_get σ0 (.cells (bls (asg t m x))))
            rw [asg_len, Nat.add_comm] at he
            simp only [snap, he, Option.map_some]
          have hend := at2_end t x m
          generalize cntX (fun x => metB c (asg t m x)) x = cn at *
          generalize metB c (asg t m x) = mt at *
          generalize asg t m x = L2 at *
          refine k_seq (k_seq ?_)
          refine rv (D.int IntKind.i64 (↑x : Int)) ?_
          refine rv (D.int IntKind.i64 (↑(m + (6 : Nat)) : Int)) ?_
          refine rve (D.int IntKind.i64 (IntKind.wrap IntKind.i64 ((↑(m + (6 : Nat)) : Int) - (6 : Int)))) (.int IntKind.i64 ((m + (6 : Nat) - 6 : Nat) : Int)) (congrArg (D.int IntKind.i64) (show IntKind.wrap IntKind.i64 ((↑(m + (6 : Nat)) : Int) - (6 : Int)) = ((m + (6 : Nat) - 6 : Nat) : Int) from wrap_eq (by omega) (by omega) (by omega))) ?_
          refine rv (D.int IntKind.u64 (IntKind.wrap IntKind.u64 (↑(m + (6 : Nat) - (6 : Nat)) : Int))) ?_
          refine rv (D.int IntKind.i64 (IntKind.wrap IntKind.i64 ((1 : Int) * (2 : Int) ^ min (Int.toNat (IntKind.wrap IntKind.u64 (↑(m + (6 : Nat) - (6 : Nat)) : Int))) (IntKind.bits IntKind.i64)))) ?_
          refine rv (D.bool (decide ((↑x : Int) < IntKind.wrap IntKind.i64 ((1 : Int) * (2 : Int) ^ min (Int.toNat (IntKind.wrap IntKind.u64 (↑(m + (6 : Nat) - (6 : Nat)) : Int))) (IntKind.bits IntKind.i64))))) ?_
          refine k_done (k_skip_seq ?_)
          refine rkn 90 (decide ((↑x : Int) < IntKind.wrap IntKind.i64 ((1 : Int) * (2 : Int) ^ min (Int.toNat (IntKind.wrap IntKind.u64 (↑(m + (6 : Nat) - (6 : Nat)) : Int))) (IntKind.bits IntKind.i64)))) true (by assumption) ?_
          refine kct (k_skip_seq (k_seq (k_block (k_seq ?_))))
          refine rv (D.int IntKind.i64 (↑(m + (6 : Nat)) : Int)) ?_
          refine runs_make (m + (6 : Nat)) (bls (List.replicate (m + (6 : Nat)) false)) (by kernel_rfl) (by kernel_rfl) (by kernel_rfl) (by omega) (bls_new (m + (6 : Nat))) ?_
          refine ra0 (D.msl (List.length σ0) (0 : Nat) (m + (6 : Nat)) (1 : Nat)) ?_
          refine k_done (k_skip_seq (k_seq (k_seq ?_)))
          refine rv (D.int IntKind.i64 (0 : Int)) ?_
          refine k_done (k_skip_seq (k_block ?_))
          refine k_loop (fun j : Nat => f11b l true [.bool b0, .bool b1, .bool b2, .bool b3, .bool b4, .bool b5] 5 ks w i c m cn x (.msl σ0.length 0 (m + 6) 1) (.int .i64 j)) (fun j => σ0 ++ [.cells (bls (rng (m + 6) (at1 t j)))]) (fun j => j ≤ 6) (fun j => 6 - j) 0 (by kernel_rfl) (by rw [rng_zero]; rfl) (by simp) (by intro s hs; omega) ?_
          intro j hj
          by_cases h6 : j < 6
          · have hL := rng_len (m + 6) (at1 t j)
            have hnext := at1_next (n := m + 6) (t := t) (i := j) (by omega)
            have hld := hbox (j : Int) (by omega)
            have hget : t.getD (Int.toNat (j : Int)) false = t[j] := by
              rw [List.getD_eq_getElem?_getD, Int.toNat_natCast, List.getElem?_eq_getElem (by omega)]
              rfl
            rw [hget] at hld
            generalize t[j] = tj at *
            generalize rng (m + 6) (at1 t j) = L at *
            refine k_seq (k_seq ?_)
            refine rv (D.int IntKind.i64 (↑j : Int)) ?_
            refine rv (D.bool (decide ((↑j : Int) < (6 : Int)))) ?_
            refine k_done (k_skip_seq ?_)
            refine rkn 96 (decide ((↑j : Int) < (6 : Int))) true (decide_eq_true (by omega)) ?_
            refine kct (k_skip_seq (k_seq (k_block ?_)))
            refine rv (D.msl (List.length σ0) (0 : Nat) (m + (6 : Nat)) (1 : Nat)) ?_
            refine rv (D.int IntKind.i64 (↑j : Int)) ?_
            refine rv (D.int IntKind.i64 (↑j : Int)) ?_
            refine runs_indexA (kd := IntKind.i64) ((5 : Nat)) ((0 : Nat)) ((↑j : Int)) (by kernel_rfl) (by kernel_rfl) (by kernel_rfl) (by omega) (by omega) ?_
            refine runs_loadB ((5 : Nat)) ((0 : Nat) + Int.toNat (↑j : Int) * (1 : Nat)) ([D.bool b0, D.bool b1, D.bool b2, D.bool b3, D.bool b4, D.bool b5]) _ (by kernel_rfl) (by kernel_rfl) (by kernel_rfl) (by assumption) ?_
            refine runs_indexM (kd := IntKind.i64) (List.length σ0) ((0 : Nat)) (m + (6 : Nat)) (j) (by kernel_rfl) (by kernel_rfl) (by kernel_rfl) (by omega) ?_
            refine runs_storeP (List.length σ0) ((0 : Nat) + j * (1 : Nat)) (bls L) (bls (List.set (L) ((0 : Nat) + j * (1 : Nat)) (tj))) (D.bool tj) (σ0 ++ [.cells (bls (List.set (L) ((0 : Nat) + j * (1 : Nat)) (tj)))]) (by kernel_rfl) (by kernel_rfl) (by kernel_rfl) (by kernel_rfl) (by kernel_rfl) (by kernel_rfl) (last_get _ _) (by rw [bls_len]; first | assumption | omega | (simp; omega)) (bls_set _ _ _) (last_set _ _ _) ?_
            refine k_done (k_skip_block (k_skip_seq ?_))
            refine rv (D.int IntKind.i64 (↑j : Int)) ?_
            refine rve (D.int IntKind.i64 (IntKind.wrap IntKind.i64 ((↑j : Int) + (1 : Int)))) (.int IntKind.i64 ((j + 1 : Nat) : Int)) (congrArg (D.int IntKind.i64) (show IntKind.wrap IntKind.i64 ((↑j : Int) + (1 : Int)) = ((j + 1 : Nat) : Int) from wrap_eq (by omega) (by omega) (by omega))) ?_
            refine ra0 (D.int IntKind.i64 (↑(j + (1 : Nat)) : Int)) ?_
            refine k_done (k_skip_back ?_)
            refine ⟨j + 1, h6, by omega, by kernel_rfl, ?_⟩
            rw [← hnext, Nat.mul_one, Nat.zero_add]
          · obtain rfl : j = 6 := by omega
            have hst := at1_end (t := t) (n := m + 6) (x := x) hj (.inl rfl)
            rw [hst]
            by_cases hm7 : m = 1
            · have hn7 : (((m + 6 : Nat) : Int) == (7 : Int)) = true := by subst hm7; rfl
              have hxx : ((x : Int) == (1 : Int)) = x.testBit 0 := by
                have hM := h2m2 hm7
                have : x = 0 ∨ x = 1 := by omega
                rcases this with h | h <;> subst h <;> rfl
              have hL := rng_len (m + 6) (at2 t x 0)
              have hnext := at2_next (t := t) (n := m + 6) (x := x) (k := 0)
              have hst2 : (rng (m + 6) (at2 t x 0)).set 6 ((x : Int) == (1 : Int)) = L2 := by
                rw [hxx, ← hend]
                have : at2 t x m = at2 t x (0 + 1) := by rw [hm7]
                rw [this]
                exact hnext
              generalize rng (m + 6) (at2 t x 0) = L at *
              rw [← hst2] at hsnap e8
              cases mt
              · refine k_seq (k_seq ?_)
                refine rv (D.int IntKind.i64 (6 : Int)) ?_
                refine rv (D.bool false) ?_
                refine k_done (k_skip_seq (kcf (k_exit_seq (k_exit_back (k_exit_hit rfl (k_skip_seq (k_seq (k_seq ?_))))))))
                refine rv (D.int IntKind.i64 (↑(m + (6 : Nat)) : Int)) ?_
                refine rv (D.bool ((↑(m + (6 : Nat)) : Int) == (7 : Int))) ?_
                refine k_done (k_skip_seq ?_)
                refine rkn 106 ((↑(m + (6 : Nat)) : Int) == (7 : Int)) true (by assumption) ?_
                refine kct ?_
                refine rv (D.msl (List.length σ0) (0 : Nat) (m + (6 : Nat)) (1 : Nat)) ?_
                refine rv (D.int IntKind.i64 (↑x : Int)) ?_
                refine rv (D.bool ((↑x : Int) == (1 : Int))) ?_
                refine runs_indexM (kd := IntKind.i64) (List.length σ0) ((0 : Nat)) (m + (6 : Nat)) (6) (by kernel_rfl) (by kernel_rfl) (by kernel_rfl) (by omega) ?_
                refine runs_storeP (List.length σ0) ((6 : Nat)) (bls L) (bls (List.set (L) ((6 : Nat)) ((↑x : Int) == (1 : Int)))) (D.bool ((↑x : Int) == (1 : Int))) (σ0 ++ [.cells (bls (List.set (L) ((6 : Nat)) ((↑x : Int) == (1 : Int))))]) (by kernel_rfl) (by kernel_rfl) (by kernel_rfl) (by kernel_rfl) (by kernel_rfl) (by kernel_rfl) (last_get _ _) (by rw [bls_len]; first | assumption | omega | (simp; omega)) (bls_set _ _ _) (last_set _ _ _) ?_
                refine k_done (k_skip_seq (k_seq ?_))
                refine rv (D.sl (rows c) none) ?_
                refine rv (D.msl (List.length σ0) (0 : Nat) (m + (6 : Nat)) (1 : Nat)) ?_
                refine runs_callS ([D.sl (rows c) none, D.msl (List.length σ0) (0 : Nat) (m + (6 : Nat)) (1 : Nat)]) _ _ (by kernel_rfl) (by kernel_rfl) (by kernel_rfl) (by assumption) (e8) (by kernel_rfl) (by kernel_rfl) ?_
                refine k_done (k_skip_seq (kcf (k_skip_block (k_skip_seq ?_))))
                refine rv (D.int IntKind.i64 (↑x : Int)) ?_
                refine rve (D.int IntKind.i64 (IntKind.wrap IntKind.i64 ((↑x : Int) + (1 : Int)))) (.int IntKind.i64 ((x + 1 : Nat) : Int)) (congrArg (D.int IntKind.i64) (show IntKind.wrap IntKind.i64 ((↑x : Int) + (1 : Int)) = ((x + 1 : Nat) : Int) from wrap_eq (by omega) (by omega) (by omega))) ?_
                refine ra0 (D.int IntKind.i64 (↑(x + (1 : Nat)) : Int)) ?_
                refine k_done (k_skip_back ?_)
                exact ⟨(x + 1, σ0 ++ [.cells (bls (List.set L 6 ((x : Int) == (1 : Int))))], .msl σ0.length 0 (m + 6) 1, .int .i64 ((6 : Nat) : Int)), hlt2, by simp only []; omega, by simp only []; rw [hc1]; kernel_rfl, rfl⟩
              · refine k_seq (k_seq ?_)
                refine rv (D.int IntKind.i64 (6 : Int)) ?_
                refine rv (D.bool false) ?_
                refine k_done (k_skip_seq (kcf (k_exit_seq (k_exit_back (k_exit_hit rfl (k_skip_seq (k_seq (k_seq ?_))))))))
                refine rv (D.int IntKind.i64 (↑(m + (6 : Nat)) : Int)) ?_
                refine rv (D.bool ((↑(m + (6 : Nat)) : Int) == (7 : Int))) ?_
                refine k_done (k_skip_seq ?_)
                refine rkn 106 ((↑(m + (6 : Nat)) : Int) == (7 : Int)) true (by assumption) ?_
                refine kct ?_
                refine rv (D.msl (List.length σ0) (0 : Nat) (m + (6 : Nat)) (1 : Nat)) ?_
                refine rv (D.int IntKind.i64 (↑x : Int)) ?_
                refine rv (D.bool ((↑x : Int) == (1 : Int))) ?_
                refine runs_indexM (kd := IntKind.i64) (List.length σ0) ((0 : Nat)) (m + (6 : Nat)) (6) (by kernel_rfl) (by kernel_rfl) (by kernel_rfl) (by omega) ?_
                refine runs_storeP (List.length σ0) ((6 : Nat)) (bls L) (bls (List.set (L) ((6 : Nat)) ((↑x : Int) == (1 : Int)))) (D.bool ((↑x : Int) == (1 : Int))) (σ0 ++ [.cells (bls (List.set (L) ((6 : Nat)) ((↑x : Int) == (1 : Int))))]) (by kernel_rfl) (by kernel_rfl) (by kernel_rfl) (by kernel_rfl) (by kernel_rfl) (by kernel_rfl) (last_get _ _) (by rw [bls_len]; first | assumption | omega | (simp; omega)) (bls_set _ _ _) (last_set _ _ _) ?_
                refine k_done (k_skip_seq (k_seq ?_))
                refine rv (D.sl (rows c) none) ?_
                refine rv (D.msl (List.length σ0) (0 : Nat) (m + (6 : Nat)) (1 : Nat)) ?_
                refine runs_callS ([D.sl (rows c) none, D.msl (List.length σ0) (0 : Nat) (m + (6 : Nat)) (1 : Nat)]) _ _ (by kernel_rfl) (by kernel_rfl) (by kernel_rfl) (by assumption) (e8) (by kernel_rfl) (by kernel_rfl) ?_
                refine k_done (k_skip_seq (kct ?_))
                refine rv (D.int IntKind.i64 (↑cn : Int)) ?_
                refine rve (D.int IntKind.i64 (IntKind.wrap IntKind.i64 ((↑cn : Int) + (1 : Int)))) (.int IntKind.i64 ((cn + 1 : Nat) : Int)) (congrArg (D.int IntKind.i64) (show IntKind.wrap IntKind.i64 ((↑cn : Int) + (1 : Int)) = ((cn + 1 : Nat) : Int) from wrap_eq (by omega) (by omega) (by omega))) ?_
                refine ra0 (D.int IntKind.i64 (↑(cn + (1 : Nat)) : Int)) ?_
                refine k_done (k_skip_block (k_skip_seq ?_))
                refine rv (D.int IntKind.i64 (↑x : Int)) ?_
                refine rve (D.int IntKind.i64 (IntKind.wrap IntKind.i64 ((↑x : Int) + (1 : Int)))) (.int IntKind.i64 ((x + 1 : Nat) : Int)) (congrArg (D.int IntKind.i64) (show IntKind.wrap IntKind.i64 ((↑x : Int) + (1 : Int)) = ((x + 1 : Nat) : Int) from wrap_eq (by omega) (by omega) (by omega))) ?_
                refine ra0 (D.int IntKind.i64 (↑(x + (1 : Nat)) : Int)) ?_
                refine k_done (k_skip_back ?_)
                exact ⟨(x + 1, σ0 ++ [.cells (bls (List.set L 6 ((x : Int) == (1 : Int))))], .msl σ0.length 0 (m + 6) 1, .int .i64 ((6 : Nat) : Int)), hlt2, by simp only []; omega, by simp only []; rw [hc1]; kernel_rfl, rfl⟩
            · have hn7 : (((m + 6 : Nat) : Int) == (7 : Int)) = false := by
                have : m = 0 := by omega
                subst this
                rfl
              have hst2 : rng (m + 6) (at2 t x 0) = L2 := by
                rw [← hend]
                have : m = 0 := by omega
                rw [this]
              rw [hst2]
              cases mt
              · refine k_seq (k_seq ?_)
                refine rv (D.int IntKind.i64 (6 : Int)) ?_
                refine rv (D.bool false) ?_
                refine k_done (k_skip_seq (kcf (k_exit_seq (k_exit_back (k_exit_hit rfl (k_skip_seq (k_seq (k_seq ?_))))))))
                refine rv (D.int IntKind.i64 (↑(m + (6 : Nat)) : Int)) ?_
                refine rv (D.bool ((↑(m + (6 : Nat)) : Int) == (7 : Int))) ?_
                refine k_done (k_skip_seq ?_)
                refine rkn 106 ((↑(m + (6 : Nat)) : Int) == (7 : Int)) false (by assumption) ?_
                refine kcf (k_skip_seq (k_seq ?_))
                refine rv (D.sl (rows c) none) ?_
                refine rv (D.msl (List.length σ0) (0 : Nat) (m + (6 : Nat)) (1 : Nat)) ?_
                refine runs_callS ([D.sl (rows c) none, D.msl (List.length σ0) (0 : Nat) (m + (6 : Nat)) (1 : Nat)]) _ _ (by kernel_rfl) (by kernel_rfl) (by kernel_rfl) (by assumption) (e8) (by kernel_rfl) (by kernel_rfl) ?_
                refine k_done (k_skip_seq (kcf (k_skip_block (k_skip_seq ?_))))
                refine rv (D.int IntKind.i64 (↑x : Int)) ?_
                refine rve (D.int IntKind.i64 (IntKind.wrap IntKind.i64 ((↑x : Int) + (1 : Int)))) (.int IntKind.i64 ((x + 1 : Nat) : Int)) (congrArg (D.int IntKind.i64) (show IntKind.wrap IntKind.i64 ((↑x : Int) + (1 : Int)) = ((x + 1 : Nat) : Int) from wrap_eq (by omega) (by omega) (by omega))) ?_
                refine ra0 (D.int IntKind.i64 (↑(x + (1 : Nat)) : Int)) ?_
                refine k_done (k_skip_back ?_)
                exact ⟨(x + 1, σ0 ++ [.cells (bls L2)], .msl σ0.length 0 (m + 6) 1, .int .i64 ((6 : Nat) : Int)), hlt2, by simp only []; omega, by simp only []; rw [hc1]; kernel_rfl, rfl⟩
              · refine k_seq (k_seq ?_)
                refine rv (D.int IntKind.i64 (6 : Int)) ?_
                refine rv (D.bool false) ?_
                refine k_done (k_skip_seq (kcf (k_exit_seq (k_exit_back (k_exit_hit rfl (k_skip_seq (k_seq (k_seq ?_))))))))
                refine rv (D.int IntKind.i64 (↑(m + (6 : Nat)) : Int)) ?_
                refine rv (D.bool ((↑(m + (6 : Nat)) : Int) == (7 : Int))) ?_
                refine k_done (k_skip_seq ?_)
                refine rkn 106 ((↑(m + (6 : Nat)) : Int) == (7 : Int)) false (by assumption) ?_
                refine kcf (k_skip_seq (k_seq ?_))
                refine rv (D.sl (rows c) none) ?_
                refine rv (D.msl (List.length σ0) (0 : Nat) (m + (6 : Nat)) (1 : Nat)) ?_
                refine runs_callS ([D.sl (rows c) none, D.msl (List.length σ0) (0 : Nat) (m + (6 : Nat)) (1 : Nat)]) _ _ (by kernel_rfl) (by kernel_rfl) (by kernel_rfl) (by assumption) (e8) (by kernel_rfl) (by kernel_rfl) ?_
                refine k_done (k_skip_seq (kct ?_))
                refine rv (D.int IntKind.i64 (↑cn : Int)) ?_
                refine rve (D.int IntKind.i64 (IntKind.wrap IntKind.i64 ((↑cn : Int) + (1 : Int)))) (.int IntKind.i64 ((cn + 1 : Nat) : Int)) (congrArg (D.int IntKind.i64) (show IntKind.wrap IntKind.i64 ((↑cn : Int) + (1 : Int)) = ((cn + 1 : Nat) : Int) from wrap_eq (by omega) (by omega) (by omega))) ?_
                refine ra0 (D.int IntKind.i64 (↑(cn + (1 : Nat)) : Int)) ?_
                refine k_done (k_skip_block (k_skip_seq ?_))
                refine rv (D.int IntKind.i64 (↑x : Int)) ?_
                refine rve (D.int IntKind.i64 (IntKind.wrap IntKind.i64 ((↑x : Int) + (1 : Int)))) (.int IntKind.i64 ((x + 1 : Nat) : Int)) (congrArg (D.int IntKind.i64) (show IntKind.wrap IntKind.i64 ((↑x : Int) + (1 : Int)) = ((x + 1 : Nat) : Int) from wrap_eq (by omega) (by omega) (by omega))) ?_
                refine ra0 (D.int IntKind.i64 (↑(x + (1 : Nat)) : Int)) ?_
                refine k_done (k_skip_back ?_)
                exact ⟨(x + 1, σ0 ++ [.cells (bls L2)], .msl σ0.length 0 (m + 6) 1, .int .i64 ((6 : Nat) : Int)), hlt2, by simp only []; omega, by simp only []; rw [hc1]; kernel_rfl, rfl⟩
        · have hcond : decide ((x : Int) < IntKind.wrap IntKind.i64 ((1 : Int) * (2 : Int) ^ min (Int.toNat (IntKind.wrap IntKind.u64 ((m + 6 - 6 : Nat) : Int))) (IntKind.bits IntKind.i64))) = false := by
            rw [hsh]
            exact decide_eq_false (by omega)
          obtain rfl : x = M := by omega
          rw [hcnt]
          cases w
          · rw [if_neg (by decide)]
            refine k_seq (k_seq ?_)
            refine rv (D.int IntKind.i64 (↑x : Int)) ?_
            refine rv (D.int IntKind.i64 (↑(m + (6 : Nat)) : Int)) ?_
            refine rve (D.int IntKind.i64 (IntKind.wrap IntKind.i64 ((↑(m + (6 : Nat)) : Int) - (6 : Int)))) (.int IntKind.i64 ((m + (6 : Nat) - 6 : Nat) : Int)) (congrArg (D.int IntKind.i64) (show IntKind.wrap IntKind.i64 ((↑(m + (6 : Nat)) : Int) - (6 : Int)) = ((m + (6 : Nat) - 6 : Nat) : Int) from wrap_eq (by omega) (by omega) (by omega))) ?_
            refine rv (D.int IntKind.u64 (IntKind.wrap IntKind.u64 (↑(m + (6 : Nat) - (6 : Nat)) : Int))) ?_
            refine rv (D.int IntKind.i64 (IntKind.wrap IntKind.i64 ((1 : Int) * (2 : Int) ^ min (Int.toNat (IntKind.wrap IntKind.u64 (↑(m + (6 : Nat) - (6 : Nat)) : Int))) (IntKind.bits IntKind.i64)))) ?_
            refine rv (D.bool (decide ((↑x : Int) < IntKind.wrap IntKind.i64 ((1 : Int) * (2 : Int) ^ min (Int.toNat (IntKind.wrap IntKind.u64 (↑(m + (6 : Nat) - (6 : Nat)) : Int))) (IntKind.bits IntKind.i64))))) ?_
            refine k_done (k_skip_seq ?_)
            refine rkn 90 (decide ((↑x : Int) < IntKind.wrap IntKind.i64 ((1 : Int) * (2 : Int) ^ min (Int.toNat (IntKind.wrap IntKind.u64 (↑(m + (6 : Nat) - (6 : Nat)) : Int))) (IntKind.bits IntKind.i64)))) false (by assumption) ?_
            refine kcf (k_exit_seq (k_exit_back (k_exit_hit rfl (k_skip_seq (k_seq ?_)))))
            refine rv (D.int IntKind.i64 (0 : Int)) ?_
            refine rv (D.bool false) ?_
            refine rv (D.bool false) ?_
            refine rv (D.bool true) ?_
            refine rv (D.bool true) ?_
            refine rv (D.int IntKind.i64 (0 : Int)) ?_
            refine rv (D.bool true) ?_
            refine rv (D.bool true) ?_
            refine ra0 (D.bool true) ?_
            refine k_done (k_skip_seq (k_ret ?_))
            exact ⟨.inr rfl, by kernel_rfl, σ0, by kernel_rfl⟩
          · rw [if_pos rfl]
            refine k_seq (k_seq ?_)
            refine rv (D.int IntKind.i64 (↑x : Int)) ?_
            refine rv (D.int IntKind.i64 (↑(m + (6 : Nat)) : Int)) ?_
            refine rve (D.int IntKind.i64 (IntKind.wrap IntKind.i64 ((↑(m + (6 : Nat)) : Int) - (6 : Int)))) (.int IntKind.i64 ((m + (6 : Nat) - 6 : Nat) : Int)) (congrArg (D.int IntKind.i64) (show IntKind.wrap IntKind.i64 ((↑(m + (6 : Nat)) : Int) - (6 : Int)) = ((m + (6 : Nat) - 6 : Nat) : Int) from wrap_eq (by omega) (by omega) (by omega))) ?_
            refine rv (D.int IntKind.u64 (IntKind.wrap IntKind.u64 (↑(m + (6 : Nat) - (6 : Nat)) : Int))) ?_
            refine rv (D.int IntKind.i64 (IntKind.wrap IntKind.i64 ((1 : Int) * (2 : Int) ^ min (Int.toNat (IntKind.wrap IntKind.u64 (↑(m + (6 : Nat) - (6 : Nat)) : Int))) (IntKind.bits IntKind.i64)))) ?_
            refine rv (D.bool (decide ((↑x : Int) < IntKind.wrap IntKind.i64 ((1 : Int) * (2 : Int) ^ min (Int.toNat (IntKind.wrap IntKind.u64 (↑(m + (6 : Nat) - (6 : Nat)) : Int))) (IntKind.bits IntKind.i64))))) ?_
            refine k_done (k_skip_seq ?_)
            refine rkn 90 (decide ((↑x : Int) < IntKind.wrap IntKind.i64 ((1 : Int) * (2 : Int) ^ min (Int.toNat (IntKind.wrap IntKind.u64 (↑(m + (6 : Nat) - (6 : Nat)) : Int))) (IntKind.bits IntKind.i64)))) false (by assumption) ?_
            refine kcf (k_exit_seq (k_exit_back (k_exit_hit rfl (k_skip_seq (k_seq ?_)))))
            refine rv (D.int IntKind.i64 (1 : Int)) ?_
            refine rv (D.bool true) ?_
            refine rv (D.bool true) ?_
            refine rv (D.bool true) ?_
            refine rv (D.bool true) ?_
            refine rv (D.int IntKind.i64 (1 : Int)) ?_
            refine rv (D.bool true) ?_
            refine rv (D.bool true) ?_
            refine ra0 (D.bool true) ?_
            refine k_done (k_skip_seq (k_ret ?_))
            exact ⟨.inr rfl, by kernel_rfl, σ0, by kernel_rfl⟩
    · obtain ⟨q1, q2, q3, q4, q5, q6⟩ := rowF_ok t ht 5 (by omega) (l.take i) (by rw [List.length_take]; omega)
      have e5 := of_ok 2 (rowF 5 (l.take i)) 4999 none q1 q2 (low_atoms 6 (by omega) 3 _ q3) (by omega) (by omega) (by omega)
      have hok := of_OK (B := 6) (by omega) q1 q2 q3 (Int.le_refl 6)
      have hrows := of_rows (n := 6) q1 q2
      have hcount := fun m hm h64 => count_ok t (m := m) q1 q2 q3 hm h64
      rw [q5] at hrows
      rw [q6] at hcount
      change ∃ σ', callN T (4999 + 1) 30 [.agg [.int .i64 5, .int .i64 0, .sl (eFs ((l.take i).map litF)) none], .int .i64 6] [] = some (.tup [.sl (rows (ofR 3 (rowF 5 (l.take i)) 6).1) none, .int .i64 (ofR 3 (rowF 5 (l.take i)) 6).2], σ') at e5
      obtain ⟨σ1, e5⟩ := e5
      have hwd : (if (5 : Int) = 5 then (l.take i).all (isl t) else (l.take i).any (isl t)) = wantR true t (l.take i) := rfl
      rw [hwd] at hcount
      have hup := hok.up
      have hcl := hok.cl
      have hnum := hok.num
      clear hok hwd
      generalize ofR 3 (rowF 5 (l.take i)) 6 = r at *
      obtain ⟨m, hm⟩ : ∃ m : Nat, r.2 = ((m + 6 : Nat) : Int) := ⟨(r.2 - 6).toNat, by omega⟩
      obtain ⟨c, n⟩ := r
      simp only [] at *
      subst hm
      have hm1 : m ≤ 1 := by omega
      have hcnt := hcount m (by omega) (by omega)
      generalize eFs ((l.take i).map litF) = ks at *
      generalize wantR true t (l.take i) = w at *
      have h2m : 2 ^ m ≤ 1024 := Nat.le_trans (Nat.pow_le_pow_right (by omega) (by omega : m ≤ 10)) (by decide)
      have h2m2 : m = 1 → 2 ^ m = 2 := by intro h; subst h; rfl
      have hsh : IntKind.wrap IntKind.i64 ((1 : Int) * (2 : Int) ^ min (Int.toNat (IntKind.wrap IntKind.u64 ((m + 6 - 6 : Nat) : Int))) (IntKind.bits IntKind.i64)) = ((2 ^ m : Nat) : Int) := shl_ok (m := m) (by omega)
      refine k_seq (k_seq ?_)
      refine rv (D.int IntKind.i64 (↑i : Int)) ?_
      refine rv (D.sl (i8s l) none) ?_
      refine rve (D.int IntKind.i64 (↑(List.length (i8s l)) : Int)) (.int IntKind.i64 ((↑(List.length l) : Int))) (by simp only [ints, eInt, rows, eInts, bools, eBool, trips, eTrip, i8s, List.length_map]) ?_
      refine rv (D.bool (decide ((↑i : Int) < (↑(List.length l) : Int)))) ?_
      refine rv (D.bool (decide ((↑i : Int) < (↑(List.length l) : Int)))) ?_
      refine rkn 32 (decide ((↑i : Int) < (↑(List.length l) : Int))) false (decide_eq_false (by omega)) ?_
      refine rno (rno ?_)
      refine rv (D.bool false) ?_
      refine k_done (k_skip_seq (kcf (k_exit_seq (k_exit_back (k_exit_hit rfl (k_skip_seq (k_seq ?_)))))))
      refine rv (D.agg [D.int IntKind.i64 (5 : Int), D.int IntKind.i64 (0 : Int), D.sl ks none]) ?_
      refine runs_call ([D.agg [D.int IntKind.i64 (5 : Int), D.int IntKind.i64 (0 : Int), D.sl ks none], D.int IntKind.i64 (6 : Int)]) (by kernel_rfl) (by kernel_rfl) (by kernel_rfl) (by kernel_rfl) (e5) (by kernel_rfl) ?_
      refine rv (D.tup [D.sl (rows c) none, D.int IntKind.i64 (↑(m + (6 : Nat)) : Int)]) ?_
      refine rv (D.sl (rows c) none) ?_
      refine rv (D.int IntKind.i64 (↑(m + (6 : Nat)) : Int)) ?_
      refine ra0 (D.sl (rows c) none) ?_
      refine ra0 (D.int IntKind.i64 (↑(m + (6 : Nat)) : Int)) ?_
      refine k_done (k_skip_seq (k_seq (k_seq ?_)))
      refine rv (D.int IntKind.i64 (↑(m + (6 : Nat)) : Int)) ?_
      refine rv (D.bool (decide ((↑(m + (6 : Nat)) : Int) > (7 : Int)))) ?_
      refine k_done (k_skip_seq ?_)
      refine rkn 84 (decide ((↑(m + (6 : Nat)) : Int) > (7 : Int))) false (decide_eq_false (by omega)) ?_
      refine kcf (k_skip_seq (k_seq ?_))
      refine rv (D.int IntKind.i64 (0 : Int)) ?_
      refine k_done (k_skip_seq (k_seq (k_seq ?_)))
      refine rv (D.int IntKind.i64 (0 : Int)) ?_
      refine k_done (k_skip_seq (k_block ?_))
      generalize 2 ^ m = M at *
      refine k_loop (S := Nat × St × D × D) (fun s => f11b l true [.bool b0, .bool b1, .bool b2, .bool b3, .bool b4, .bool b5] 5 ks w i c m (cntX (fun x => metB c (asg t m x)) s.1) s.1 s.2.2.1 s.2.2.2) (fun s => s.2.1) (fun s => s.1 ≤ M) (fun s => M - s.1) (0, [], .junk, .junk) (by kernel_rfl) rfl (by simp) (by intro s hs; omega) ?_
      rintro ⟨x, σ0, d19, d20⟩ hx
      simp only [] at hx
      show Runs (runC (callN T 5000) 5000 l11_2 (f11b l true [.bool b0, .bool b1, .bool b2, .bool b3, .bool b4, .bool b5] 5 ks w i c m (cntX (fun x => metB c (asg t m x)) x) x d19 d20) σ0) _
      have hcle := cntX_le (fun x => metB c (asg t m x)) x
      by_cases hlt2 : x < M
      · have hcond : decide ((x : Int) < IntKind.wrap IntKind.i64 ((1 : Int) * (2 : Int) ^ min (Int.toNat (IntKind.wrap IntKind.u64 ((m + 6 - 6 : Nat) : Int))) (IntKind.bits IntKind.i64))) = true := by
          rw [hsh]
          exact decide_eq_true (by omega)
        have hc1 : cntX (fun x => metB c (asg t m x)) (x + 1) = cntX (fun x => metB c (asg t m x)) x + (if metB c (asg t m x) = true then 1 else 0) := rfl
        have e8 := progMet_ok 4993 c (asg t m x) none none (by omega) (by omega) (fun c hc => ⟨by have := (hcl c hc).1; omega, fun v hv => by have := (hcl c hc).2 v hv; omega⟩) (by rw [asg_len]; omega)
        have hsnap : snap (σ0 ++ [.cells (bls (asg t m x))]) [D.sl (rows c) none, D.msl σ0.length 0 (m + 6) 1] = some ([D.sl (rows c) none, D.sl (bools (asg t m x)) none], [σ0.length]) := by
          have he := elems_bls (last_get σ0 (.cells (bls (asg t m x))))
          rw [asg_len, Nat.add_comm] at he
          simp only [snap, he, Option.map_some]
        have hend := at2_end t x m
        generalize cntX (fun x => metB c (asg t m x)) x = cn at *
        generalize metB c (asg t m x) = mt at *
        generalize asg t m x = L2 at *
        refine k_seq (k_seq ?_)
        refine rv (D.int IntKind.i64 (↑x : Int)) ?_
        refine rv (D.int IntKind.i64 (↑(m + (6 : Nat)) : Int)) ?_
        refine rve (D.int IntKind.i64 (IntKind.wrap IntKind.i64 ((↑(m + (6 : Nat)) : Int) - (6 : Int)))) (.int IntKind.i64 ((m + (6 : Nat) - 6 : Nat) : Int)) (congrArg (D.int IntKind.i64) (show IntKind.wrap IntKind.i64 ((↑(m + (6 : Nat)) : Int) - (6 : Int)) = ((m + (6 : Nat) - 6 : Nat) : Int) from wrap_eq (by omega) (by omega) (by omega))) ?_
        refine rv (D.int IntKind.u64 (IntKind.wrap IntKind.u64 (↑(m + (6 : Nat) - (6 : Nat)) : Int))) ?_
        refine rv (D.int IntKind.i64 (IntKind.wrap IntKind.i64 ((1 : Int) * (2 : Int) ^ min (Int.toNat (IntKind.wrap IntKind.u64 (↑(m + (6 : Nat) - (6 : Nat)) : Int))) (IntKind.bits IntKind.i64)))) ?_
        refine rv (D.bool (decide ((↑x : Int) < IntKind.wrap IntKind.i64 ((1 : Int) * (2 : Int) ^ min (Int.toNat (IntKind.wrap IntKind.u64 (↑(m + (6 : Nat) - (6 : Nat)) : Int))) (IntKind.bits IntKind.i64))))) ?_
        refine k_done (k_skip_seq ?_)
        refine rkn 90 (decide ((↑x : Int) < IntKind.wrap IntKind.i64 ((1 : Int) * (2 : Int) ^ min (Int.toNat (IntKind.wrap IntKind.u64 (↑(m + (6 : Nat) - (6 : Nat)) : Int))) (IntKind.bits IntKind.i64)))) true (by assumption) ?_
        refine kct (k_skip_seq (k_seq (k_block (k_seq ?_))))
        refine rv (D.int IntKind.i64 (↑(m + (6 : Nat)) : Int)) ?_
        refine runs_make (m + (6 : Nat)) (bls (List.replicate (m + (6 : Nat)) false)) (by kernel_rfl) (by kernel_rfl) (by kernel_rfl) (by omega) (bls_new (m + (6 : Nat))) ?_
        refine ra0 (D.msl (List.length σ0) (0 : Nat) (m + (6 : Nat)) (1 : Nat)) ?_
        refine k_done (k_skip_seq (k_seq (k_seq ?_)))
        refine rv (D.int IntKind.i64 (0 : Int)) ?_
        refine k_done (k_skip_seq (k_block ?_))
        refine k_loop (fun j : Nat => f11b l true [.bool b0, .bool b1, .bool b2, .bool b3, .bool b4, .bool b5] 5 ks w i c m cn x (.msl σ0.length 0 (m + 6) 1) (.int .i64 j)) (fun j => σ0 ++ [.cells (bls (rng (m + 6) (at1 t j)))]) (fun j => j ≤ 6) (fun j => 6 - j) 0 (by kernel_rfl) (by rw [rng_zero]; rfl) (by simp) (by intro s hs; omega) ?_
        intro j hj
        by_cases h6 : j < 6
        · have hL := rng_len (m + 6) (at1 t j)
          have hnext := at1_next (n := m + 6) (t := t) (i := j) (by omega)
          have hld := hbox (j : Int) (by omega)
          have hget : t.getD (Int.toNat (j : Int)) false = t[j] := by
            rw [List.getD_eq_getElem?_getD, Int.toNat_natCast, List.getElem?_eq_getElem (by omega)]
            rfl
          rw [hget] at hld
          generalize t[j] = tj at *
          generalize rng (m + 6) (at1 t j) = L at *
          refine k_seq (k_seq ?_)
          refine rv (D.int IntKind.i64 (↑j : Int)) ?_
          refine rv (D.bool (decide ((↑j : Int) < (6 : Int)))) ?_
          refine k_done (k_skip_seq ?_)
          refine rkn 96 (decide ((↑j : Int) < (6 : Int))) true (decide_eq_true (by omega)) ?_
          refine kct (k_skip_seq (k_seq (k_block ?_)))
          refine rv (D.msl (List.length σ0) (0 : Nat) (m + (6 : Nat)) (1 : Nat)) ?_
          refine rv (D.int IntKind.i64 (↑j : Int)) ?_
          refine rv (D.int IntKind.i64 (↑j : Int)) ?_
          refine runs_indexA (kd := IntKind.i64) ((5 : Nat)) ((0 : Nat)) ((↑j : Int)) (by kernel_rfl) (by kernel_rfl) (by kernel_rfl) (by omega) (by omega) ?_
          refine runs_loadB ((5 : Nat)) ((0 : Nat) + Int.toNat (↑j : Int) * (1 : Nat)) ([D.bool b0, D.bool b1, D.bool b2, D.bool b3, D.bool b4, D.bool b5]) _ (by kernel_rfl) (by kernel_rfl) (by kernel_rfl) (by assumption) ?_
          refine runs_indexM (kd := IntKind.i64) (List.length σ0) ((0 : Nat)) (m + (6 : Nat)) (j) (by kernel_rfl) (by kernel_rfl) (by kernel_rfl) (by omega) ?_
          refine runs_storeP (List.length σ0) ((0 : Nat) + j * (1 : Nat)) (bls L) (bls (List.set (L) ((0 : Nat) + j * (1 : Nat)) (tj))) (D.bool tj) (σ0 ++ [.cells (bls (List.set (L) ((0 : Nat) + j * (1 : Nat)) (tj)))]) (by kernel_rfl) (by kernel_rfl) (by kernel_rfl) (by kernel_rfl) (by kernel_rfl) (by kernel_rfl) (last_get _ _) (by rw [bls_len]; first | assumption | omega | (simp; omega)) (bls_set _ _ _) (last_set _ _ _) ?_
          refine k_done (k_skip_block (k_skip_seq ?_))
          refine rv (D.int IntKind.i64 (↑j : Int)) ?_
          refine rve (D.int IntKind.i64 (IntKind.wrap IntKind.i64 ((↑j : Int) + (1 : Int)))) (.int IntKind.i64 ((j + 1 : Nat) : Int)) (congrArg (D.int IntKind.i64) (show IntKind.wrap IntKind.i64 ((↑j : Int) + (1 : Int)) = ((j + 1 : Nat) : Int) from wrap_eq (by omega) (by omega) (by omega))) ?_
          refine ra0 (D.int IntKind.i64 (↑(j + (1 : Nat)) : Int)) ?_
          refine k_done (k_skip_back ?_)
          refine ⟨j + 1, h6, by omega, by kernel_rfl, ?_⟩
          rw [← hnext, Nat.mul_one, Nat.zero_add]
        · obtain rfl : j = 6 := by omega
          have hst := at1_end (t := t) (n := m + 6) (x := x) hj (.inl rfl)
          rw [hst]
          by_cases hm7 : m = 1
          · have hn7 : (((m + 6 : Nat) : Int) == (7 : Int)) = true := by subst hm7; rfl
            have hxx : ((x : Int) == (1 : Int)) = x.testBit 0 := by
              have hM := h2m2 hm7
              have : x = 0 ∨ x = 1 := by omega
              rcases this with h | h <;> subst h <;> rfl
            have hL := rng_len (m + 6) (at2 t x 0)
            have hnext := at2_next (t := t) (n := m + 6) (x := x) (k := 0)
            have hst2 : (rng (m + 6) (at2 t x 0)).set 6 ((x : Int) == (1 : Int)) = L2 := by
              rw [hxx, ← hend]
              have : at2 t x m = at2 t x (0 + 1) := by rw [hm7]
              rw [this]
              exact hnext
            generalize rng (m + 6) (at2 t x 0) = L at *
            rw [← hst2] at hsnap e8
            cases mt
            · refine k_seq (k_seq ?_)
              refine rv (D.int IntKind.i64 (6 : Int)) ?_
              refine rv (D.bool false) ?_
              refine k_done (k_skip_seq (kcf (k_exit_seq (k_exit_back (k_exit_hit rfl (k_skip_seq (k_seq (k_seq ?_))))))))
              refine rv (D.int IntKind.i64 (↑(m + (6 : Nat)) : Int)) ?_
              refine rv (D.bool ((↑(m + (6 : Nat)) : Int) == (7 : Int))) ?_
              refine k_done (k_skip_seq ?_)
              refine rkn 106 ((↑(m + (6 : Nat)) : Int) == (7 : Int)) true (by assumption) ?_
              refine kct ?_
              refine rv (D.msl (List.length σ0) (0 : Nat) (m + (6 : Nat)) (1 : Nat)) ?_
              refine rv (D.int IntKind.i64 (↑x : Int)) ?_
              refine rv (D.bool ((↑x : Int) == (1 : Int))) ?_
              refine runs_indexM (kd := IntKind.i64) (List.length σ0) ((0 : Nat)) (m + (6 : Nat)) (6) (by kernel_rfl) (by kernel_rfl) (by kernel_rfl) (by omega) ?_
              refine runs_storeP (List.length σ0) ((6 : Nat)) (bls L) (bls (List.set (L) ((6 : Nat)) ((↑x : Int) == (1 : Int)))) (D.bool ((↑x : Int) == (1 : Int))) (σ0 ++ [.cells (bls (List.set (L) ((6 : Nat)) ((↑x : Int) == (1 : Int))))]) (by kernel_rfl) (by kernel_rfl) (by kernel_rfl) (by kernel_rfl) (by kernel_rfl) (by kernel_rfl) (last_get _ _) (by rw [bls_len]; first | assumption | omega | (simp; omega)) (bls_set _ _ _) (last_set _ _ _) ?_
              refine k_done (k_skip_seq (k_seq ?_))
              refine rv (D.sl (rows c) none) ?_
              refine rv (D.msl (List.length σ0) (0 : Nat) (m + (6 : Nat)) (1 : Nat)) ?_
              refine runs_callS ([D.sl (rows c) none, D.msl (List.length σ0) (0 : Nat) (m + (6 : Nat)) (1 : Nat)]) _ _ (by kernel_rfl) (by kernel_rfl) (by kernel_rfl) (by assumption) (e8) (by kernel_rfl) (by kernel_rfl) ?_
              refine k_done (k_skip_seq (kcf (k_skip_block (k_skip_seq ?_))))
              refine rv (D.int IntKind.i64 (↑x : Int)) ?_
              refine rve (D.int IntKind.i64 (IntKind.wrap IntKind.i64 ((↑x : Int) + (1 : Int)))) (.int IntKind.i64 ((x + 1 : Nat) : Int)) (congrArg (D.int IntKind.i64) (show IntKind.wrap IntKind.i64 ((↑x : Int) + (1 : Int)) = ((x + 1 : Nat) : Int) from wrap_eq (by omega) (by omega) (by omega))) ?_
              refine ra0 (D.int IntKind.i64 (↑(x + (1 : Nat)) : Int)) ?_
              refine k_done (k_skip_back ?_)
              exact ⟨(x + 1, σ0 ++ [.cells (bls (List.set L 6 ((x : Int) == (1 : Int))))], .msl σ0.length 0 (m + 6) 1, .int .i64 ((6 : Nat) : Int)), hlt2, by simp only []; omega, by simp only []; rw [hc1]; kernel_rfl, rfl⟩
            · refine k_seq (k_seq ?_)
              refine rv (D.int IntKind.i64 (6 : Int)) ?_
              refine rv (D.bool false) ?_
              refine k_done (k_skip_seq (kcf (k_exit_seq (k_exit_back (k_exit_hit rfl (k_skip_seq (k_seq (k_seq ?_))))))))
              refine rv (D.int IntKind.i64 (↑(m + (6 : Nat)) : Int)) ?_
              refine rv (D.bool ((↑(m + (6 : Nat)) : Int) == (7 : Int))) ?_
              refine k_done (k_skip_seq ?_)
              refine rkn 106 ((↑(m + (6 : Nat)) : Int) == (7 : Int)) true (by assumption) ?_
              refine kct ?_
              refine rv (D.msl (List.length σ0) (0 : Nat) (m + (6 : Nat)) (1 : Nat)) ?_
              refine rv (D.int IntKind.i64 (↑x : Int)) ?_
              refine rv (D.bool ((↑x : Int) == (1 : Int))) ?_
              refine runs_indexM (kd := IntKind.i64) (List.length σ0) ((0 : Nat)) (m + (6 : Nat)) (6) (by kernel_rfl) (by kernel_rfl) (by kernel_rfl) (by omega) ?_
              refine runs_storeP (List.length σ0) ((6 : Nat)) (bls L) (bls (List.set (L) ((6 : Nat)) ((↑x : Int) == (1 : Int)))) (D.bool ((↑x : Int) == (1 : Int))) (σ0 ++ [.cells (bls (List.set (L) ((6 : Nat)) ((↑x : Int) == (1 : Int))))]) (by kernel_rfl) (by kernel_rfl) (by kernel_rfl) (by kernel_rfl) (by kernel_rfl) (by kernel_rfl) (last_get _ _) (by rw [bls_len]; first | assumption | omega | (simp; omega)) (bls_set _ _ _) (last_set _ _ _) ?_
              refine k_done (k_skip_seq (k_seq ?_))
              refine rv (D.sl (rows c) none) ?_
              refine rv (D.msl (List.length σ0) (0 : Nat) (m + (6 : Nat)) (1 : Nat)) ?_
              refine runs_callS ([D.sl (rows c) none, D.msl (List.length σ0) (0 : Nat) (m + (6 : Nat)) (1 : Nat)]) _ _ (by kernel_rfl) (by kernel_rfl) (by kernel_rfl) (by assumption) (e8) (by kernel_rfl) (by kernel_rfl) ?_
              refine k_done (k_skip_seq (kct ?_))
              refine rv (D.int IntKind.i64 (↑cn : Int)) ?_
              refine rve (D.int IntKind.i64 (IntKind.wrap IntKind.i64 ((↑cn : Int) + (1 : Int)))) (.int IntKind.i64 ((cn + 1 : Nat) : Int)) (congrArg (D.int IntKind.i64) (show IntKind.wrap IntKind.i64 ((↑cn : Int) + (1 : Int)) = ((cn + 1 : Nat) : Int) from wrap_eq (by omega) (by omega) (by omega))) ?_
              refine ra0 (D.int IntKind.i64 (↑(cn + (1 : Nat)) : Int)) ?_
              refine k_done (k_skip_block (k_skip_seq ?_))
              refine rv (D.int IntKind.i64 (↑x : Int)) ?_
              refine rve (D.int IntKind.i64 (IntKind.wrap IntKind.i64 ((↑x : Int) + (1 : Int)))) (.int IntKind.i64 ((x + 1 : Nat) : Int)) (congrArg (D.int IntKind.i64) (show IntKind.wrap IntKind.i64 ((↑x : Int) + (1 : Int)) = ((x + 1 : Nat) : Int) from wrap_eq (by omega) (by omega) (by omega))) ?_
              refine ra0 (D.int IntKind.i64 (↑(x + (1 : Nat)) : Int)) ?_
              refine k_done (k_skip_back ?_)
              exact ⟨(x + 1, σ0 ++ [.cells (bls (List.set L 6 ((x : Int) == (1 : Int))))], .msl σ0.length 0 (m + 6) 1, .int .i64 ((6 : Nat) : Int)), hlt2, by simp only []; omega, by simp only []; rw [hc1]; kernel_rfl, rfl⟩
          · have hn7 : (((m + 6 : Nat) : Int) == (7 : Int)) = false := by
              have : m = 0 := by omega
              subst this
              rfl
            have hst2 : rng (m + 6) (at2 t x 0) = L2 := by
              rw [← hend]
              have : m = 0 := by omega
              rw [this]
            rw [hst2]
            cases mt
            · refine k_seq (k_seq ?_)
              refine rv (D.int IntKind.i64 (6 : Int)) ?_
              refine rv (D.bool false) ?_
              refine k_done (k_skip_seq (kcf (k_exit_seq (k_exit_back (k_exit_hit rfl (k_skip_seq (k_seq (k_seq ?_))))))))
              refine rv (D.int IntKind.i64 (↑(m + (6 : Nat)) : Int)) ?_
              refine rv (D.bool ((↑(m + (6 : Nat)) : Int) == (7 : Int))) ?_
              refine k_done (k_skip_seq ?_)
              refine rkn 106 ((↑(m + (6 : Nat)) : Int) == (7 : Int)) false (by assumption) ?_
              refine kcf (k_skip_seq (k_seq ?_))
              refine rv (D.sl (rows c) none) ?_
              refine rv (D.msl (List.length σ0) (0 : Nat) (m + (6 : Nat)) (1 : Nat)) ?_
              refine runs_callS ([D.sl (rows c) none, D.msl (List.length σ0) (0 : Nat) (m + (6 : Nat)) (1 : Nat)]) _ _ (by kernel_rfl) (by kernel_rfl) (by kernel_rfl) (by assumption) (e8) (by kernel_rfl) (by kernel_rfl) ?_
              refine k_done (k_skip_seq (kcf (k_skip_block (k_skip_seq ?_))))
              refine rv (D.int IntKind.i64 (↑x : Int)) ?_
              refine rve (D.int IntKind.i64 (IntKind.wrap IntKind.i64 ((↑x : Int) + (1 : Int)))) (.int IntKind.i64 ((x + 1 : Nat) : Int)) (congrArg (D.int IntKind.i64) (show IntKind.wrap IntKind.i64 ((↑x : Int) + (1 : Int)) = ((x + 1 : Nat) : Int) from wrap_eq (by omega) (by omega) (by omega))) ?_
              refine ra0 (D.int IntKind.i64 (↑(x + (1 : Nat)) : Int)) ?_
              refine k_done (k_skip_back ?_)
              exact ⟨(x + 1, σ0 ++ [.cells (bls L2)], .msl σ0.length 0 (m + 6) 1, .int .i64 ((6 : Nat) : Int)), hlt2, by simp only []; omega, by simp only []; rw [hc1]; kernel_rfl, rfl⟩
            · refine k_seq (k_seq ?_)
              refine rv (D.int IntKind.i64 (6 : Int)) ?_
              refine rv (D.bool false) ?_
              refine k_done (k_skip_seq (kcf (k_exit_seq (k_exit_back (k_exit_hit rfl (k_skip_seq (k_seq (k_seq ?_))))))))
              refine rv (D.int IntKind.i64 (↑(m + (6 : Nat)) : Int)) ?_
              refine rv (D.bool ((↑(m + (6 : Nat)) : Int) == (7 : Int))) ?_
              refine k_done (k_skip_seq ?_)
              refine rkn 106 ((↑(m + (6 : Nat)) : Int) == (7 : Int)) false (by assumption) ?_
              refine kcf (k_skip_seq (k_seq ?_))
              refine rv (D.sl (rows c) none) ?_
              refine rv (D.msl (List.length σ0) (0 : Nat) (m + (6 : Nat)) (1 : Nat)) ?_
              refine runs_callS ([D.sl (rows c) none, D.msl (List.length σ0) (0 : Nat) (m + (6 : Nat)) (1 : Nat)]) _ _ (by kernel_rfl) (by kernel_rfl) (by kernel_rfl) (by assumption) (e8) (by kernel_rfl) (by kernel_rfl) ?_
              refine k_done (k_skip_seq (kct ?_))
              refine rv (D.int IntKind.i64 (↑cn : Int)) ?_
              refine rve (D.int IntKind.i64 (IntKind.wrap IntKind.i64 ((↑cn : Int) + (1 : Int)))) (.int IntKind.i64 ((cn + 1 : Nat) : Int)) (congrArg (D.int IntKind.i64) (show IntKind.wrap IntKind.i64 ((↑cn : Int) + (1 : Int)) = ((cn + 1 : Nat) : Int) from wrap_eq (by omega) (by omega) (by omega))) ?_
              refine ra0 (D.int IntKind.i64 (↑(cn + (1 : Nat)) : Int)) ?_
              refine k_done (k_skip_block (k_skip_seq ?_))
              refine rv (D.int IntKind.i64 (↑x : Int)) ?_
              refine rve (D.int IntKind.i64 (IntKind.wrap IntKind.i64 ((↑x : Int) + (1 : Int)))) (.int IntKind.i64 ((x + 1 : Nat) : Int)) (congrArg (D.int IntKind.i64) (show IntKind.wrap IntKind.i64 ((↑x : Int) + (1 : Int)) = ((x + 1 : Nat) : Int) from wrap_eq (by omega) (by omega) (by omega))) ?_
              refine ra0 (D.int IntKind.i64 (↑(x + (1 : Nat)) : Int)) ?_
              refine k_done (k_skip_back ?_)
              exact ⟨(x + 1, σ0 ++ [.cells (bls L2)], .msl σ0.length 0 (m + 6) 1, .int .i64 ((6 : Nat) : Int)), hlt2, by simp only []; omega, by simp only []; rw [hc1]; kernel_rfl, rfl⟩
      · have hcond : decide ((x : Int) < IntKind.wrap IntKind.i64 ((1 : Int) * (2 : Int) ^ min (Int.toNat (IntKind.wrap IntKind.u64 ((m + 6 - 6 : Nat) : Int))) (IntKind.bits IntKind.i64))) = false := by
          rw [hsh]
          exact decide_eq_false (by omega)
        obtain rfl : x = M := by omega
        rw [hcnt]
        cases w
        · rw [if_neg (by decide)]
          refine k_seq (k_seq ?_)
          refine rv (D.int IntKind.i64 (↑x : Int)) ?_
          refine rv (D.int IntKind.i64 (↑(m + (6 : Nat)) : Int)) ?_
          refine rve (D.int IntKind.i64 (IntKind.wrap IntKind.i64 ((↑(m + (6 : Nat)) : Int) - (6 : Int)))) (.int IntKind.i64 ((m + (6 : Nat) - 6 : Nat) : Int)) (congrArg (D.int IntKind.i64) (show IntKind.wrap IntKind.i64 ((↑(m + (6 : Nat)) : Int) - (6 : Int)) = ((m + (6 : Nat) - 6 : Nat) : Int) from wrap_eq (by omega) (by omega) (by omega))) ?_
          refine rv (D.int IntKind.u64 (IntKind.wrap IntKind.u64 (↑(m + (6 : Nat) - (6 : Nat)) : Int))) ?_
          refine rv (D.int IntKind.i64 (IntKind.wrap IntKind.i64 ((1 : Int) * (2 : Int) ^ min (Int.toNat (IntKind.wrap IntKind.u64 (↑(m + (6 : Nat) - (6 : Nat)) : Int))) (IntKind.bits IntKind.i64)))) ?_
          refine rv (D.bool (decide ((↑x : Int) < IntKind.wrap IntKind.i64 ((1 : Int) * (2 : Int) ^ min (Int.toNat (IntKind.wrap IntKind.u64 (↑(m + (6 : Nat) - (6 : Nat)) : Int))) (IntKind.bits IntKind.i64))))) ?_
          refine k_done (k_skip_seq ?_)
          refine rkn 90 (decide ((↑x : Int) < IntKind.wrap IntKind.i64 ((1 : Int) * (2 : Int) ^ min (Int.toNat (IntKind.wrap IntKind.u64 (↑(m + (6 : Nat) - (6 : Nat)) : Int))) (IntKind.bits IntKind.i64)))) false (by assumption) ?_
          refine kcf (k_exit_seq (k_exit_back (k_exit_hit rfl (k_skip_seq (k_seq ?_)))))
          refine rv (D.int IntKind.i64 (0 : Int)) ?_
          refine rv (D.bool false) ?_
          refine rv (D.bool false) ?_
          refine rv (D.bool true) ?_
          refine rv (D.bool true) ?_
          refine rv (D.int IntKind.i64 (0 : Int)) ?_
          refine rv (D.bool true) ?_
          refine rv (D.bool true) ?_
          refine ra0 (D.bool true) ?_
          refine k_done (k_skip_seq (k_ret ?_))
          exact ⟨.inr rfl, by kernel_rfl, σ0, by kernel_rfl⟩
        · rw [if_pos rfl]
          refine k_seq (k_seq ?_)
          refine rv (D.int IntKind.i64 (↑x : Int)) ?_
          refine rv (D.int IntKind.i64 (↑(m + (6 : Nat)) : Int)) ?_
          refine rve (D.int IntKind.i64 (IntKind.wrap IntKind.i64 ((↑(m + (6 : Nat)) : Int) - (6 : Int)))) (.int IntKind.i64 ((m + (6 : Nat) - 6 : Nat) : Int)) (congrArg (D.int IntKind.i64) (show IntKind.wrap IntKind.i64 ((↑(m + (6 : Nat)) : Int) - (6 : Int)) = ((m + (6 : Nat) - 6 : Nat) : Int) from wrap_eq (by omega) (by omega) (by omega))) ?_
          refine rv (D.int IntKind.u64 (IntKind.wrap IntKind.u64 (↑(m + (6 : Nat) - (6 : Nat)) : Int))) ?_
          refine rv (D.int IntKind.i64 (IntKind.wrap IntKind.i64 ((1 : Int) * (2 : Int) ^ min (Int.toNat (IntKind.wrap IntKind.u64 (↑(m + (6 : Nat) - (6 : Nat)) : Int))) (IntKind.bits IntKind.i64)))) ?_
          refine rv (D.bool (decide ((↑x : Int) < IntKind.wrap IntKind.i64 ((1 : Int) * (2 : Int) ^ min (Int.toNat (IntKind.wrap IntKind.u64 (↑(m + (6 : Nat) - (6 : Nat)) : Int))) (IntKind.bits IntKind.i64))))) ?_
          refine k_done (k_skip_seq ?_)
          refine rkn 90 (decide ((↑x : Int) < IntKind.wrap IntKind.i64 ((1 : Int) * (2 : Int) ^ min (Int.toNat (IntKind.wrap IntKind.u64 (↑(m + (6 : Nat) - (6 : Nat)) : Int))) (IntKind.bits IntKind.i64)))) false (by assumption) ?_
          refine kcf (k_exit_seq (k_exit_back (k_exit_hit rfl (k_skip_seq (k_seq ?_)))))
          refine rv (D.int IntKind.i64 (1 : Int)) ?_
          refine rv (D.bool true) ?_
          refine rv (D.bool true) ?_
          refine rv (D.bool true) ?_
          refine rv (D.bool true) ?_
          refine rv (D.int IntKind.i64 (1 : Int)) ?_
          refine rv (D.bool true) ?_
          refine rv (D.bool true) ?_
          refine ra0 (D.bool true) ?_
          refine k_done (k_skip_seq (k_ret ?_))
          exact ⟨.inr rfl, by kernel_rfl, σ0, by kernel_rfl⟩
end Go.Abs.A
