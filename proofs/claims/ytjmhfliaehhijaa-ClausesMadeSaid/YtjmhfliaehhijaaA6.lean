import Derived.Test.YtjmhfliaehhijaaKont
import Derived.Test.YtjmhfliaehhijaaA5
set_option linter.unusedVariables false
set_option linter.unusedSimpArgs false
/-
  Eval and Atoms, of both.
-/
namespace Go.Abs.A
open Go Go.Abs
set_option maxRecDepth 8000
attribute [local irreducible] callN runC evalOp

/-- An atom's truth. -/
def atomB (n : Int) (a : List Bool) : Bool := decide (n ≥ 1) && decide (n ≤ a.length) && a.getD (n - 1).toNat false
theorem atomB_in {n : Int} {a : List Bool} (h0 : n ≥ 1) (h1 : (n - 1).toNat < a.length) : atomB n a = a[(n - 1).toNat] := by
  unfold atomB
  rw [decide_eq_true h0, decide_eq_true (by omega), List.getD_eq_getElem?_getD, List.getElem?_eq_getElem h1]
  rfl
def evalR : Nat → Fm → List Bool → Bool
  | 0, _, _ => false
  | d + 1, f, a =>
    if f.op = 1 then true
    else if f.op = 3 then atomB f.n a
    else if f.op = 4 then (match f.kids with | [k] => !evalR d k a | _ => false)
    else if f.op = 5 then f.kids.all (evalR d · a)
    else if f.op = 6 then f.kids.any (evalR d · a)
    else false

theorem is_ok {d N : Nat} {k : Fm} {a : List Bool} {σc : St} (rest : St) (h : callN T N 18 [.agg (eF k), .sl (bools a) none] [] = some (.bool (evalR d k a), σc)) :
    callN T (N + 1) 39 [.agg (eF k), .ptr 0 0] (.cells [.sl (bools a) none] :: rest) = some (.bool (evalR d k a), .cells [.sl (bools a) none] :: rest) := by
  refine call_of (m := m39) rfl rfl (by decide) (k_start ?_)
  unfold m39
  refine k_seq ?_
  refine rgf (D.lptr (2 : Nat) (0 : Nat)) (Obj.cells [D.sl (bools a) none] :: rest) ?_
  refine rv (D.bool false) ?_
  refine k_done (k_skip_seq (k_seq ?_))
  refine rv (D.agg [D.int IntKind.i64 (Fm.op k), D.int IntKind.i64 (Fm.n k), D.sl (eFs (Fm.kids k)) none]) ?_
  refine rv (D.sl (bools a) none) ?_
  refine runs_call ([D.agg [D.int IntKind.i64 (Fm.op k), D.int IntKind.i64 (Fm.n k), D.sl (eFs (Fm.kids k)) none], D.sl (bools a) none]) (by kernel_rfl) (by kernel_rfl) (by kernel_rfl) (by kernel_rfl) (h) (by kernel_rfl) ?_
  refine ra0 (D.bool (evalR d k a)) ?_
  refine k_done (k_skip_seq (k_ret ?_))
  exact ⟨.inr rfl, by kernel_rfl, by kernel_rfl⟩
theorem isnt_ok {d N : Nat} {k : Fm} {a : List Bool} {σc : St} (h : callN T N 18 [.agg (eF k), .sl (bools a) none] [] = some (.bool (evalR d k a), σc)) :
    callN T (N + 2) 41 [.agg (eF k), .ptr 1 0] [.cells [.sl (bools a) none], .cells [.func 39 [.ptr 0 0]]] = some (.bool (!evalR d k a), [.cells [.sl (bools a) none], .cells [.func 39 [.ptr 0 0]]]) := by
  have h2 := is_ok [.cells [.func 39 [.ptr 0 0]]] h
  refine call_of (m := m41) rfl rfl (by decide) (k_start ?_)
  unfold m41
  refine k_seq ?_
  refine rgf (D.lptr (2 : Nat) (0 : Nat)) ([Obj.cells [D.sl (bools a) none], Obj.cells [D.func (39 : Nat) [D.ptr (0 : Nat) (0 : Nat)]]]) ?_
  refine rv (D.bool false) ?_
  refine k_done (k_skip_seq (k_seq ?_))
  refine rv (D.func (39 : Nat) [D.ptr (0 : Nat) (0 : Nat)]) ?_
  refine rv (D.agg [D.int IntKind.i64 (Fm.op k), D.int IntKind.i64 (Fm.n k), D.sl (eFs (Fm.kids k)) none]) ?_
  refine runs_callv_st ((39 : Nat)) ([D.ptr (0 : Nat) (0 : Nat)]) ([D.agg [D.int IntKind.i64 (Fm.op k), D.int IntKind.i64 (Fm.n k), D.sl (eFs (Fm.kids k)) none]]) ([D.agg [D.int IntKind.i64 (Fm.op k), D.int IntKind.i64 (Fm.n k), D.sl (eFs (Fm.kids k)) none], D.ptr (0 : Nat) (0 : Nat)]) (by kernel_rfl) (by kernel_rfl) (by kernel_rfl) (by kernel_rfl) (by kernel_rfl) (by kernel_rfl) (h2) ?_
  refine rv (D.bool !evalR d k a) ?_
  refine ra0 (D.bool !evalR d k a) ?_
  refine k_done (k_skip_seq (k_ret ?_))
  exact ⟨.inr rfl, by kernel_rfl, by kernel_rfl⟩
theorem all_anyE {d : Nat} {a : List Bool} (c : List Fm) : c.all (evalR d · a) = !(c.any fun k => !evalR d k a) := by
  induction c with
  | nil => rfl
  | cons x xs ih => simp [ih, Bool.not_or]

theorem kid0_of {f : Fm} (h : f.kids.length = 1) : ∃ k, f.kids = [k] := by
  match hk : f.kids, h with
  | [k], _ => exact ⟨k, rfl⟩
theorem kid0_get {f k : Fm} (h : f.kids = [k]) : (eFs f.kids)[0]? = some (eF k) := eFs_get (by rw [h]; rfl)
def O1 : Obj := .cells [.func 39 [.ptr 0 0]]
theorem eval_ok : ∀ (d : Nat) (f : Fm) (a : List Bool) (o : Option Nat) (N : Nat), fits d f → a.length ≤ 9223372036854775807 → 5 * d + 70 ≤ N → ∃ σ', callN T N 18 [.agg (eF f), .sl (bools a) o] [] = some (.bool (evalR d f a), σ') := by
  intro d
  induction d with
  | zero => intro f a o N h; exact h.elim
  | succ d ih =>
    intro f a o N hfit ha hN
    obtain ⟨n, rfl⟩ : ∃ n, N = n + 5 := ⟨N - 5, by omega⟩
    obtain ⟨h12, hkids⟩ := hfit
    by_cases c1 : f.op = 1
    · have hr : evalR (d + 1) f a = true := by simp only [evalR, c1, if_true]
      rw [hr]
      refine ⟨[O0 a], ?_⟩
      refine call_of (m := m18) rfl rfl (by decide) (k_start ?_)
      unfold m18
      refine k_seq ?_
      refine rgf (D.lptr (2 : Nat) (0 : Nat)) ([]) ?_
      refine rgf (D.lptr (3 : Nat) (0 : Nat)) ([]) ?_
      refine rv (D.bool false) ?_
      refine k_done (k_skip_seq (k_seq ?_))
      refine rgf (D.func (39 : Nat) [D.ptr (0 : Nat) (0 : Nat)]) ([Obj.cells [D.sl (bools a) none]]) ?_
      refine rgf (D.lptr (5 : Nat) (0 : Nat)) ([Obj.cells [D.sl (bools a) none]]) ?_
      refine rgf (D.junk) ([Obj.cells [D.sl (bools a) none]]) ?_
      refine k_done (k_skip_seq (k_seq (k_seq ?_)))
      refine rv (D.lptr (2 : Nat) (0 : Nat)) ?_
      refine rv (D.int IntKind.i64 (Fm.op f)) ?_
      refine k_done (k_skip_seq (k_block (k_seq ?_)))
      refine rv (D.bool (Fm.op f == (1 : Int))) ?_
      refine ra0 (D.bool (Fm.op f == (1 : Int))) ?_
      refine k_done (k_skip_seq ?_)
      refine rkn 9 (Fm.op f == (1 : Int)) true (decide_eq_true (by assumption)) ?_
      refine kct (k_seq ?_)
      refine rv (D.bool true) ?_
      refine k_done (k_skip_seq (k_ret ?_))
      exact ⟨.inr rfl, by kernel_rfl, by kernel_rfl⟩
    by_cases c3 : f.op = 3
    · have hr : evalR (d + 1) f a = atomB f.n a := by simp only [evalR, if_neg c1, if_pos c3]
      rw [hr]
      refine ⟨[O0 a], ?_⟩
      refine call_of (m := m18) rfl rfl (by decide) (k_start ?_)
      unfold m18
      by_cases g1 : f.n ≥ 1
      · by_cases g2 : f.n ≤ a.length
        · have g3 : (f.n - 1).toNat < a.length := by omega
          rw [atomB_in g1 g3]
          refine k_seq ?_
          refine rgf (D.lptr (2 : Nat) (0 : Nat)) ([]) ?_
          refine rgf (D.lptr (3 : Nat) (0 : Nat)) ([]) ?_
          refine rv (D.bool false) ?_
          refine k_done (k_skip_seq (k_seq ?_))
          refine rgf (D.func (39 : Nat) [D.ptr (0 : Nat) (0 : Nat)]) ([Obj.cells [D.sl (bools a) none]]) ?_
          refine rgf (D.lptr (5 : Nat) (0 : Nat)) ([Obj.cells [D.sl (bools a) none]]) ?_
          refine rgf (D.junk) ([Obj.cells [D.sl (bools a) none]]) ?_
          refine k_done (k_skip_seq (k_seq (k_seq ?_)))
          refine rv (D.lptr (2 : Nat) (0 : Nat)) ?_
          refine rv (D.int IntKind.i64 (Fm.op f)) ?_
          refine k_done (k_skip_seq (k_block (k_seq ?_)))
          refine rv (D.bool (Fm.op f == (1 : Int))) ?_
          refine ra0 (D.bool (Fm.op f == (1 : Int))) ?_
          refine k_done (k_skip_seq ?_)
          refine rkn 9 (Fm.op f == (1 : Int)) false (decide_eq_false (by assumption)) ?_
          refine kcf (k_seq ?_)
          refine rv (D.bool (Fm.op f == (3 : Int))) ?_
          refine ra0 (D.bool (Fm.op f == (3 : Int))) ?_
          refine k_done (k_skip_seq ?_)
          refine rkn 11 (Fm.op f == (3 : Int)) true (decide_eq_true (by assumption)) ?_
          refine kct (k_seq ?_)
          refine rv (D.lptr (2 : Nat) (1 : Nat)) ?_
          refine rv (D.int IntKind.i64 (Fm.n f)) ?_
          refine rv (D.bool (decide (Fm.n f ≥ (1 : Int)))) ?_
          refine rv (D.bool (decide (Fm.n f ≥ (1 : Int)))) ?_
          refine rkn 16 (decide (Fm.n f ≥ (1 : Int))) true (decide_eq_true (by assumption)) ?_
          refine rv (D.lptr (2 : Nat) (1 : Nat)) ?_
          refine rv (D.int IntKind.i64 (Fm.n f)) ?_
          refine rv (D.sl (bools a) none) ?_
          refine rve (D.int IntKind.i64 (↑(List.length (bools a)) : Int)) (.int IntKind.i64 ((↑(List.length a) : Int))) (by simp only [ints, eInt, rows, eInts, bools, eBool, trips, eTrip, List.length_map]) ?_
          refine rv (D.bool (decide (Fm.n f ≤ (↑(List.length a) : Int)))) ?_
          refine rv (D.bool (decide (Fm.n f ≤ (↑(List.length a) : Int)))) ?_
          refine rv (D.bool (decide (Fm.n f ≤ (↑(List.length a) : Int)))) ?_
          refine rkn 23 (decide (Fm.n f ≤ (↑(List.length a) : Int))) true (decide_eq_true (by assumption)) ?_
          refine rv (D.sl (bools a) none) ?_
          refine rv (D.lptr (2 : Nat) (1 : Nat)) ?_
          refine rv (D.int IntKind.i64 (Fm.n f)) ?_
          refine rve (D.int IntKind.i64 (IntKind.wrap IntKind.i64 (Fm.n f - (1 : Int)))) (.int IntKind.i64 (Fm.n f - (1 : Int))) (congrArg (D.int IntKind.i64) (show IntKind.wrap IntKind.i64 (Fm.n f - (1 : Int)) = (Fm.n f - (1 : Int)) from wrap_eq (by omega) (by omega) (by omega))) ?_
          refine runs_indexI (a) (eBool) (o := none) (kd := IntKind.i64) (Fm.n f - (1 : Int)) (by kernel_rfl) (by kernel_rfl) (by kernel_rfl) (by omega) (by omega) (by kernel_rfl) ?_
          refine rv (D.bool a[Int.toNat (Fm.n f - (1 : Int))]) ?_
          refine rv (D.bool a[Int.toNat (Fm.n f - (1 : Int))]) ?_
          refine ra0 (D.bool a[Int.toNat (Fm.n f - (1 : Int))]) ?_
          refine k_done (k_skip_seq (k_ret ?_))
          exact ⟨.inr rfl, by kernel_rfl, by kernel_rfl⟩
        · have : atomB f.n a = false := by unfold atomB; rw [decide_eq_false g2]; simp
          rw [this]
          refine k_seq ?_
          refine rgf (D.lptr (2 : Nat) (0 : Nat)) ([]) ?_
          refine rgf (D.lptr (3 : Nat) (0 : Nat)) ([]) ?_
          refine rv (D.bool false) ?_
          refine k_done (k_skip_seq (k_seq ?_))
          refine rgf (D.func (39 : Nat) [D.ptr (0 : Nat) (0 : Nat)]) ([Obj.cells [D.sl (bools a) none]]) ?_
          refine rgf (D.lptr (5 : Nat) (0 : Nat)) ([Obj.cells [D.sl (bools a) none]]) ?_
          refine rgf (D.junk) ([Obj.cells [D.sl (bools a) none]]) ?_
          refine k_done (k_skip_seq (k_seq (k_seq ?_)))
          refine rv (D.lptr (2 : Nat) (0 : Nat)) ?_
          refine rv (D.int IntKind.i64 (Fm.op f)) ?_
          refine k_done (k_skip_seq (k_block (k_seq ?_)))
          refine rv (D.bool (Fm.op f == (1 : Int))) ?_
          refine ra0 (D.bool (Fm.op f == (1 : Int))) ?_
          refine k_done (k_skip_seq ?_)
          refine rkn 9 (Fm.op f == (1 : Int)) false (decide_eq_false (by assumption)) ?_
          refine kcf (k_seq ?_)
          refine rv (D.bool (Fm.op f == (3 : Int))) ?_
          refine ra0 (D.bool (Fm.op f == (3 : Int))) ?_
          refine k_done (k_skip_seq ?_)
          refine rkn 11 (Fm.op f == (3 : Int)) true (decide_eq_true (by assumption)) ?_
          refine kct (k_seq ?_)
          refine rv (D.lptr (2 : Nat) (1 : Nat)) ?_
          refine rv (D.int IntKind.i64 (Fm.n f)) ?_
          refine rv (D.bool (decide (Fm.n f ≥ (1 : Int)))) ?_
          refine rv (D.bool (decide (Fm.n f ≥ (1 : Int)))) ?_
          refine rkn 16 (decide (Fm.n f ≥ (1 : Int))) true (decide_eq_true (by assumption)) ?_
          refine rv (D.lptr (2 : Nat) (1 : Nat)) ?_
          refine rv (D.int IntKind.i64 (Fm.n f)) ?_
          refine rv (D.sl (bools a) none) ?_
          refine rve (D.int IntKind.i64 (↑(List.length (bools a)) : Int)) (.int IntKind.i64 ((↑(List.length a) : Int))) (by simp only [ints, eInt, rows, eInts, bools, eBool, trips, eTrip, List.length_map]) ?_
          refine rv (D.bool (decide (Fm.n f ≤ (↑(List.length a) : Int)))) ?_
          refine rv (D.bool (decide (Fm.n f ≤ (↑(List.length a) : Int)))) ?_
          refine rv (D.bool (decide (Fm.n f ≤ (↑(List.length a) : Int)))) ?_
          refine rkn 23 (decide (Fm.n f ≤ (↑(List.length a) : Int))) false (decide_eq_false (by assumption)) ?_
          refine rno (rno (rno (rno (rno (rno ?_)))))
          refine rv (D.bool false) ?_
          refine ra0 (D.bool false) ?_
          refine k_done (k_skip_seq (k_ret ?_))
          exact ⟨.inr rfl, by kernel_rfl, by kernel_rfl⟩
      · have : atomB f.n a = false := by unfold atomB; rw [decide_eq_false g1]; simp
        rw [this]
        refine k_seq ?_
        refine rgf (D.lptr (2 : Nat) (0 : Nat)) ([]) ?_
        refine rgf (D.lptr (3 : Nat) (0 : Nat)) ([]) ?_
        refine rv (D.bool false) ?_
        refine k_done (k_skip_seq (k_seq ?_))
        refine rgf (D.func (39 : Nat) [D.ptr (0 : Nat) (0 : Nat)]) ([Obj.cells [D.sl (bools a) none]]) ?_
        refine rgf (D.lptr (5 : Nat) (0 : Nat)) ([Obj.cells [D.sl (bools a) none]]) ?_
        refine rgf (D.junk) ([Obj.cells [D.sl (bools a) none]]) ?_
        refine k_done (k_skip_seq (k_seq (k_seq ?_)))
        refine rv (D.lptr (2 : Nat) (0 : Nat)) ?_
        refine rv (D.int IntKind.i64 (Fm.op f)) ?_
        refine k_done (k_skip_seq (k_block (k_seq ?_)))
        refine rv (D.bool (Fm.op f == (1 : Int))) ?_
        refine ra0 (D.bool (Fm.op f == (1 : Int))) ?_
        refine k_done (k_skip_seq ?_)
        refine rkn 9 (Fm.op f == (1 : Int)) false (decide_eq_false (by assumption)) ?_
        refine kcf (k_seq ?_)
        refine rv (D.bool (Fm.op f == (3 : Int))) ?_
        refine ra0 (D.bool (Fm.op f == (3 : Int))) ?_
        refine k_done (k_skip_seq ?_)
        refine rkn 11 (Fm.op f == (3 : Int)) true (decide_eq_true (by assumption)) ?_
        refine kct (k_seq ?_)
        refine rv (D.lptr (2 : Nat) (1 : Nat)) ?_
        refine rv (D.int IntKind.i64 (Fm.n f)) ?_
        refine rv (D.bool (decide (Fm.n f ≥ (1 : Int)))) ?_
        refine rv (D.bool (decide (Fm.n f ≥ (1 : Int)))) ?_
        refine rkn 16 (decide (Fm.n f ≥ (1 : Int))) false (decide_eq_false (by assumption)) ?_
        refine rno (rno (rno (rno (rno ?_))))
        refine rv (D.bool false) ?_
        refine rv (D.bool false) ?_
        refine rno (rno (rno (rno (rno (rno ?_)))))
        refine rv (D.bool false) ?_
        refine ra0 (D.bool false) ?_
        refine k_done (k_skip_seq (k_ret ?_))
        exact ⟨.inr rfl, by kernel_rfl, by kernel_rfl⟩
    by_cases c4 : f.op = 4
    · by_cases g1 : f.kids.length = 1
      · obtain ⟨k, hk⟩ := kid0_of g1
        have hg := kid0_get hk
        have hr : evalR (d + 1) f a = !evalR d k a := by simp only [evalR, if_neg c1, if_neg c3, if_pos c4, hk]
        rw [hr]
        obtain ⟨σc, hc⟩ := ih k a none (n + 3) (hkids k (by rw [hk]; simp)) ha (by omega)
        have hi := is_ok [] hc
        refine ⟨[O0 a], ?_⟩
        refine call_of (m := m18) rfl rfl (by decide) (k_start ?_)
        unfold m18
        refine k_seq ?_
        refine rgf (D.lptr (2 : Nat) (0 : Nat)) ([]) ?_
        refine rgf (D.lptr (3 : Nat) (0 : Nat)) ([]) ?_
        refine rv (D.bool false) ?_
        refine k_done (k_skip_seq (k_seq ?_))
        refine rgf (D.func (39 : Nat) [D.ptr (0 : Nat) (0 : Nat)]) ([Obj.cells [D.sl (bools a) none]]) ?_
        refine rgf (D.lptr (5 : Nat) (0 : Nat)) ([Obj.cells [D.sl (bools a) none]]) ?_
        refine rgf (D.junk) ([Obj.cells [D.sl (bools a) none]]) ?_
        refine k_done (k_skip_seq (k_seq (k_seq ?_)))
        refine rv (D.lptr (2 : Nat) (0 : Nat)) ?_
        refine rv (D.int IntKind.i64 (Fm.op f)) ?_
        refine k_done (k_skip_seq (k_block (k_seq ?_)))
        refine rv (D.bool (Fm.op f == (1 : Int))) ?_
        refine ra0 (D.bool (Fm.op f == (1 : Int))) ?_
        refine k_done (k_skip_seq ?_)
        refine rkn 9 (Fm.op f == (1 : Int)) false (decide_eq_false (by assumption)) ?_
        refine kcf (k_seq ?_)
        refine rv (D.bool (Fm.op f == (3 : Int))) ?_
        refine ra0 (D.bool (Fm.op f == (3 : Int))) ?_
        refine k_done (k_skip_seq ?_)
        refine rkn 11 (Fm.op f == (3 : Int)) false (decide_eq_false (by assumption)) ?_
        refine kcf (k_seq ?_)
        refine rv (D.bool (Fm.op f == (4 : Int))) ?_
        refine ra0 (D.bool (Fm.op f == (4 : Int))) ?_
        refine k_done (k_skip_seq ?_)
        refine rkn 31 (Fm.op f == (4 : Int)) true (decide_eq_true (by assumption)) ?_
        refine kct (k_seq ?_)
        refine rv (D.lptr (2 : Nat) (2 : Nat)) ?_
        refine rv (D.sl (eFs (Fm.kids f)) none) ?_
        refine rve (D.int IntKind.i64 (↑(List.length (eFs (Fm.kids f))) : Int)) (.int IntKind.i64 ((↑(List.length (Fm.kids f)) : Int))) (by simp only [eFs_length]) ?_
        refine rv (D.bool ((↑(List.length (Fm.kids f)) : Int) == (1 : Int))) ?_
        refine rv (D.bool ((↑(List.length (Fm.kids f)) : Int) == (1 : Int))) ?_
        refine rkn 37 ((↑(List.length (Fm.kids f)) : Int) == (1 : Int)) true (decide_eq_true (by omega)) ?_
        refine rv (D.func (39 : Nat) [D.ptr (0 : Nat) (0 : Nat)]) ?_
        refine rv (D.lptr (2 : Nat) (2 : Nat)) ?_
        refine rv (D.sl (eFs (Fm.kids f)) none) ?_
        refine runs_indexL (eFs (Fm.kids f)) (o := none) (kd := IntKind.i64) (0) _ (by kernel_rfl) (by kernel_rfl) (by kernel_rfl) (by assumption) (by kernel_rfl) ?_
        refine rv (D.agg [D.int IntKind.i64 (Fm.op k), D.int IntKind.i64 (Fm.n k), D.sl (eFs (Fm.kids k)) none]) ?_
        refine runs_callv_st ((39 : Nat)) ([D.ptr (0 : Nat) (0 : Nat)]) ([D.agg [D.int IntKind.i64 (Fm.op k), D.int IntKind.i64 (Fm.n k), D.sl (eFs (Fm.kids k)) none]]) ([D.agg [D.int IntKind.i64 (Fm.op k), D.int IntKind.i64 (Fm.n k), D.sl (eFs (Fm.kids k)) none], D.ptr (0 : Nat) (0 : Nat)]) (by kernel_rfl) (by kernel_rfl) (by kernel_rfl) (by kernel_rfl) (by kernel_rfl) (by kernel_rfl) (hi) ?_
        refine rv (D.bool !evalR d k a) ?_
        refine rv (D.bool !evalR d k a) ?_
        refine ra0 (D.bool !evalR d k a) ?_
        refine k_done (k_skip_seq (k_ret ?_))
        exact ⟨.inr rfl, by kernel_rfl, by kernel_rfl⟩
      · have hr : evalR (d + 1) f a = false := by
          simp only [evalR, if_neg c1, if_neg c3, if_pos c4]
          split
          · rename_i k hk
            rw [hk] at g1
            exact absurd rfl g1
          · rfl
        rw [hr]
        refine ⟨[O0 a], ?_⟩
        refine call_of (m := m18) rfl rfl (by decide) (k_start ?_)
        unfold m18
        refine k_seq ?_
        refine rgf (D.lptr (2 : Nat) (0 : Nat)) ([]) ?_
        refine rgf (D.lptr (3 : Nat) (0 : Nat)) ([]) ?_
        refine rv (D.bool false) ?_
        refine k_done (k_skip_seq (k_seq ?_))
        refine rgf (D.func (39 : Nat) [D.ptr (0 : Nat) (0 : Nat)]) ([Obj.cells [D.sl (bools a) none]]) ?_
        refine rgf (D.lptr (5 : Nat) (0 : Nat)) ([Obj.cells [D.sl (bools a) none]]) ?_
        refine rgf (D.junk) ([Obj.cells [D.sl (bools a) none]]) ?_
        refine k_done (k_skip_seq (k_seq (k_seq ?_)))
        refine rv (D.lptr (2 : Nat) (0 : Nat)) ?_
        refine rv (D.int IntKind.i64 (Fm.op f)) ?_
        refine k_done (k_skip_seq (k_block (k_seq ?_)))
        refine rv (D.bool (Fm.op f == (1 : Int))) ?_
        refine ra0 (D.bool (Fm.op f == (1 : Int))) ?_
        refine k_done (k_skip_seq ?_)
        refine rkn 9 (Fm.op f == (1 : Int)) false (decide_eq_false (by assumption)) ?_
        refine kcf (k_seq ?_)
        refine rv (D.bool (Fm.op f == (3 : Int))) ?_
        refine ra0 (D.bool (Fm.op f == (3 : Int))) ?_
        refine k_done (k_skip_seq ?_)
        refine rkn 11 (Fm.op f == (3 : Int)) false (decide_eq_false (by assumption)) ?_
        refine kcf (k_seq ?_)
        refine rv (D.bool (Fm.op f == (4 : Int))) ?_
        refine ra0 (D.bool (Fm.op f == (4 : Int))) ?_
        refine k_done (k_skip_seq ?_)
        refine rkn 31 (Fm.op f == (4 : Int)) true (decide_eq_true (by assumption)) ?_
        refine kct (k_seq ?_)
        refine rv (D.lptr (2 : Nat) (2 : Nat)) ?_
        refine rv (D.sl (eFs (Fm.kids f)) none) ?_
        refine rve (D.int IntKind.i64 (↑(List.length (eFs (Fm.kids f))) : Int)) (.int IntKind.i64 ((↑(List.length (Fm.kids f)) : Int))) (by simp only [eFs_length]) ?_
        refine rv (D.bool ((↑(List.length (Fm.kids f)) : Int) == (1 : Int))) ?_
        refine rv (D.bool ((↑(List.length (Fm.kids f)) : Int) == (1 : Int))) ?_
        refine rkn 37 ((↑(List.length (Fm.kids f)) : Int) == (1 : Int)) false (decide_eq_false (by omega)) ?_
        refine rno (rno (rno (rno (rno (rno (rno ?_))))))
        refine rv (D.bool false) ?_
        refine ra0 (D.bool false) ?_
        refine k_done (k_skip_seq (k_ret ?_))
        exact ⟨.inr rfl, by kernel_rfl, by kernel_rfl⟩
    by_cases c5 : f.op = 5
    · have hr : evalR (d + 1) f a = !(f.kids.any fun k => !evalR d k a) := by
        rw [← all_anyE]
        simp only [evalR, if_neg c1, if_neg c3, if_neg c4, if_pos c5]
      rw [hr]
      have hc : ∀ k ∈ f.kids, callN T (n + 2) 41 ([.agg (eF k)] ++ [.ptr 1 0]) [O0 a, O1] = some (.bool (!evalR d k a), [O0 a, O1]) := fun k hk => by
        obtain ⟨σc, hc⟩ := ih k a none n (hkids k hk) ha (by omega)
        exact isnt_ok hc
      have hcon := containsS_ok (fun k => !evalR d k a) 41 1 f.kids none (n + 2) [O0 a, O1] h12 (by omega) hc
      refine ⟨[O0 a, O1], ?_⟩
      refine call_of (m := m18) rfl rfl (by decide) (k_start ?_)
      unfold m18
      refine k_seq ?_
      refine rgf (D.lptr (2 : Nat) (0 : Nat)) ([]) ?_
      refine rgf (D.lptr (3 : Nat) (0 : Nat)) ([]) ?_
      refine rv (D.bool false) ?_
      refine k_done (k_skip_seq (k_seq ?_))
      refine rgf (D.func (39 : Nat) [D.ptr (0 : Nat) (0 : Nat)]) ([Obj.cells [D.sl (bools a) none]]) ?_
      refine rgf (D.lptr (5 : Nat) (0 : Nat)) ([Obj.cells [D.sl (bools a) none]]) ?_
      refine rgf (D.junk) ([Obj.cells [D.sl (bools a) none]]) ?_
      refine k_done (k_skip_seq (k_seq (k_seq ?_)))
      refine rv (D.lptr (2 : Nat) (0 : Nat)) ?_
      refine rv (D.int IntKind.i64 (Fm.op f)) ?_
      refine k_done (k_skip_seq (k_block (k_seq ?_)))
      refine rv (D.bool (Fm.op f == (1 : Int))) ?_
      refine ra0 (D.bool (Fm.op f == (1 : Int))) ?_
      refine k_done (k_skip_seq ?_)
      refine rkn 9 (Fm.op f == (1 : Int)) false (decide_eq_false (by assumption)) ?_
      refine kcf (k_seq ?_)
      refine rv (D.bool (Fm.op f == (3 : Int))) ?_
      refine ra0 (D.bool (Fm.op f == (3 : Int))) ?_
      refine k_done (k_skip_seq ?_)
      refine rkn 11 (Fm.op f == (3 : Int)) false (decide_eq_false (by assumption)) ?_
      refine kcf (k_seq ?_)
      refine rv (D.bool (Fm.op f == (4 : Int))) ?_
      refine ra0 (D.bool (Fm.op f == (4 : Int))) ?_
      refine k_done (k_skip_seq ?_)
      refine rkn 31 (Fm.op f == (4 : Int)) false (decide_eq_false (by assumption)) ?_
      refine kcf (k_seq ?_)
      refine rv (D.bool (Fm.op f == (5 : Int))) ?_
      refine ra0 (D.bool (Fm.op f == (5 : Int))) ?_
      refine k_done (k_skip_seq ?_)
      refine rkn 46 (Fm.op f == (5 : Int)) true (decide_eq_true (by assumption)) ?_
      refine kct (k_seq ?_)
      refine rv (D.lptr (2 : Nat) (2 : Nat)) ?_
      refine rv (D.sl (eFs (Fm.kids f)) none) ?_
      refine rgf (D.func (41 : Nat) [D.ptr (1 : Nat) (0 : Nat)]) ([Obj.cells [D.sl (bools a) none], Obj.cells [D.func (39 : Nat) [D.ptr (0 : Nat) (0 : Nat)]]]) ?_
      refine runs_call_st ([D.sl (eFs (Fm.kids f)) none, D.func (41 : Nat) [D.ptr (1 : Nat) (0 : Nat)]]) (by kernel_rfl) (by kernel_rfl) (by kernel_rfl) (by kernel_rfl) (hcon) ?_
      refine rv (D.bool !List.any (Fm.kids f) fun k => !evalR d k a) ?_
      refine ra0 (D.bool !List.any (Fm.kids f) fun k => !evalR d k a) ?_
      refine k_done (k_skip_seq (k_ret ?_))
      exact ⟨.inr rfl, by kernel_rfl, by kernel_rfl⟩
    by_cases c6 : f.op = 6
    · have hr : evalR (d + 1) f a = f.kids.any (evalR d · a) := by
        simp only [evalR, if_neg c1, if_neg c3, if_neg c4, if_neg c5, if_pos c6]
      rw [hr]
      have hc : ∀ k ∈ f.kids, callN T (n + 2) 39 ([.agg (eF k)] ++ [.ptr 0 0]) [O0 a] = some (.bool (evalR d k a), [O0 a]) := fun k hk => by
        obtain ⟨σc, hc⟩ := ih k a none (n + 1) (hkids k hk) ha (by omega)
        exact is_ok [] hc
      have hcon := containsS_ok (fun k => evalR d k a) 39 0 f.kids none (n + 2) [O0 a] h12 (by omega) hc
      refine ⟨[O0 a], ?_⟩
      refine call_of (m := m18) rfl rfl (by decide) (k_start ?_)
      unfold m18
      refine k_seq ?_
      refine rgf (D.lptr (2 : Nat) (0 : Nat)) ([]) ?_
      refine rgf (D.lptr (3 : Nat) (0 : Nat)) ([]) ?_
      refine rv (D.bool false) ?_
      refine k_done (k_skip_seq (k_seq ?_))
      refine rgf (D.func (39 : Nat) [D.ptr (0 : Nat) (0 : Nat)]) ([Obj.cells [D.sl (bools a) none]]) ?_
      refine rgf (D.lptr (5 : Nat) (0 : Nat)) ([Obj.cells [D.sl (bools a) none]]) ?_
      refine rgf (D.junk) ([Obj.cells [D.sl (bools a) none]]) ?_
      refine k_done (k_skip_seq (k_seq (k_seq ?_)))
      refine rv (D.lptr (2 : Nat) (0 : Nat)) ?_
      refine rv (D.int IntKind.i64 (Fm.op f)) ?_
      refine k_done (k_skip_seq (k_block (k_seq ?_)))
      refine rv (D.bool (Fm.op f == (1 : Int))) ?_
      refine ra0 (D.bool (Fm.op f == (1 : Int))) ?_
      refine k_done (k_skip_seq ?_)
      refine rkn 9 (Fm.op f == (1 : Int)) false (decide_eq_false (by assumption)) ?_
      refine kcf (k_seq ?_)
      refine rv (D.bool (Fm.op f == (3 : Int))) ?_
      refine ra0 (D.bool (Fm.op f == (3 : Int))) ?_
      refine k_done (k_skip_seq ?_)
      refine rkn 11 (Fm.op f == (3 : Int)) false (decide_eq_false (by assumption)) ?_
      refine kcf (k_seq ?_)
      refine rv (D.bool (Fm.op f == (4 : Int))) ?_
      refine ra0 (D.bool (Fm.op f == (4 : Int))) ?_
      refine k_done (k_skip_seq ?_)
      refine rkn 31 (Fm.op f == (4 : Int)) false (decide_eq_false (by assumption)) ?_
      refine kcf (k_seq ?_)
      refine rv (D.bool (Fm.op f == (5 : Int))) ?_
      refine ra0 (D.bool (Fm.op f == (5 : Int))) ?_
      refine k_done (k_skip_seq ?_)
      refine rkn 46 (Fm.op f == (5 : Int)) false (decide_eq_false (by assumption)) ?_
      refine kcf (k_seq ?_)
      refine rv (D.bool (Fm.op f == (6 : Int))) ?_
      refine ra0 (D.bool (Fm.op f == (6 : Int))) ?_
      refine k_done (k_skip_seq ?_)
      refine rkn 53 (Fm.op f == (6 : Int)) true (decide_eq_true (by assumption)) ?_
      refine kct (k_seq ?_)
      refine rv (D.lptr (2 : Nat) (2 : Nat)) ?_
      refine rv (D.sl (eFs (Fm.kids f)) none) ?_
      refine rv (D.func (39 : Nat) [D.ptr (0 : Nat) (0 : Nat)]) ?_
      refine runs_call_st ([D.sl (eFs (Fm.kids f)) none, D.func (39 : Nat) [D.ptr (0 : Nat) (0 : Nat)]]) (by kernel_rfl) (by kernel_rfl) (by kernel_rfl) (by kernel_rfl) (hcon) ?_
      refine ra0 (D.bool (List.any (Fm.kids f) fun k => evalR d k a)) ?_
      refine k_done (k_skip_seq (k_ret ?_))
      exact ⟨.inr rfl, by kernel_rfl, by kernel_rfl⟩
    · have hr : evalR (d + 1) f a = false := by simp only [evalR, if_neg c1, if_neg c3, if_neg c4, if_neg c5, if_neg c6]
      rw [hr]
      refine ⟨[O0 a], ?_⟩
      refine call_of (m := m18) rfl rfl (by decide) (k_start ?_)
      unfold m18
      refine k_seq ?_
      refine rgf (D.lptr (2 : Nat) (0 : Nat)) ([]) ?_
      refine rgf (D.lptr (3 : Nat) (0 : Nat)) ([]) ?_
      refine rv (D.bool false) ?_
      refine k_done (k_skip_seq (k_seq ?_))
      refine rgf (D.func (39 : Nat) [D.ptr (0 : Nat) (0 : Nat)]) ([Obj.cells [D.sl (bools a) none]]) ?_
      refine rgf (D.lptr (5 : Nat) (0 : Nat)) ([Obj.cells [D.sl (bools a) none]]) ?_
      refine rgf (D.junk) ([Obj.cells [D.sl (bools a) none]]) ?_
      refine k_done (k_skip_seq (k_seq (k_seq ?_)))
      refine rv (D.lptr (2 : Nat) (0 : Nat)) ?_
      refine rv (D.int IntKind.i64 (Fm.op f)) ?_
      refine k_done (k_skip_seq (k_block (k_seq ?_)))
      refine rv (D.bool (Fm.op f == (1 : Int))) ?_
      refine ra0 (D.bool (Fm.op f == (1 : Int))) ?_
      refine k_done (k_skip_seq ?_)
      refine rkn 9 (Fm.op f == (1 : Int)) false (decide_eq_false (by assumption)) ?_
      refine kcf (k_seq ?_)
      refine rv (D.bool (Fm.op f == (3 : Int))) ?_
      refine ra0 (D.bool (Fm.op f == (3 : Int))) ?_
      refine k_done (k_skip_seq ?_)
      refine rkn 11 (Fm.op f == (3 : Int)) false (decide_eq_false (by assumption)) ?_
      refine kcf (k_seq ?_)
      refine rv (D.bool (Fm.op f == (4 : Int))) ?_
      refine ra0 (D.bool (Fm.op f == (4 : Int))) ?_
      refine k_done (k_skip_seq ?_)
      refine rkn 31 (Fm.op f == (4 : Int)) false (decide_eq_false (by assumption)) ?_
      refine kcf (k_seq ?_)
      refine rv (D.bool (Fm.op f == (5 : Int))) ?_
      refine ra0 (D.bool (Fm.op f == (5 : Int))) ?_
      refine k_done (k_skip_seq ?_)
      refine rkn 46 (Fm.op f == (5 : Int)) false (decide_eq_false (by assumption)) ?_
      refine kcf (k_seq ?_)
      refine rv (D.bool (Fm.op f == (6 : Int))) ?_
      refine ra0 (D.bool (Fm.op f == (6 : Int))) ?_
      refine k_done (k_skip_seq ?_)
      refine rkn 53 (Fm.op f == (6 : Int)) false (decide_eq_false (by assumption)) ?_
      refine kcf (k_skip_block (k_skip_seq (k_seq ?_)))
      refine rv (D.bool false) ?_
      refine k_done (k_skip_seq (k_ret ?_))
      exact ⟨.inr rfl, by kernel_rfl, by kernel_rfl⟩
end Go.Abs.A
