import Derived.Test.YtmmjjkahaemlkaaKont2
import Derived.Test.YtmmjjkahaemlkaaS8
import Derived.Test.YtmmjjkahaemlkaaQ11
set_option linter.unusedVariables false
set_option linter.unusedSimpArgs false
/-
  The given program's Solve.
-/
namespace Go.Abs.B
open Go Go.Abs
set_option maxRecDepth 8000
attribute [local irreducible] callN runC evalOp

def s0R (l : List (List Int)) (V : Nat) (left : Int) : Sv := ⟨List.replicate (V + 1) 0, l, [], [], left, 0⟩
def solveR (l : List (List Int)) (V : Nat) (left : Int) : Int × Int × Sv := tryR (V + 1) l.length (V + 1) (s0R l V left)
def truthsR (a : List Int) (n : Nat) : List Bool := (List.range n).map fun k => decide (a.getD (k + 1) 0 > 0)
def stepsR (r : Int × Int × Sv) : List (Int × Int × Int) := if r.1 = 2 then r.2.2.steps else []
def metR (r : Int × Int × Sv) (V : Nat) : List Bool := if r.1 = 1 then truthsR r.2.2.a V else []
def okI (l : List (List Int)) (V : Nat) : Prop := V ≤ 12 ∧ l.length ≤ 60 ∧ ∀ c ∈ l, okC (V + 1) c ∧ c.length ≤ 12
theorem pre0 {l : List (List Int)} {V : Nat} {left : Int} (h : okI l V) (hl : 0 ≤ left ∧ left ≤ 1000000000000) : Pre (V + 1) l.length (V + 1) (s0R l V left) := by
  obtain ⟨h1, h2, h3⟩ := h
  have hp : 2 ^ (V + 1) ≤ 8192 := Nat.le_trans (Nat.pow_le_pow_right (by omega) (by omega : V + 1 ≤ 13)) (by decide)
  have hp2 : (V + 1 + 1) * 2 ^ (V + 1) ≤ 14 * 8192 := Nat.mul_le_mul (by omega) hp
  refine ⟨wf_nil _, fun c hc => ⟨(h3 c hc).1, by have := (h3 c hc).2; omega⟩, Nat.le_refl _, fun f hf => (List.not_mem_nil hf).elim, by show V + 1 ≤ 0 + (V + 1); omega, ?_, ?_, Int.le_refl _, ?_, ?_, hl.2⟩
  · show l.length + _ ≤ _
    omega
  · show 0 + _ ≤ _
    omega
  · show (0 : Int) + _ ≤ _
    omega
  · show _ ≤ left - _
    omega
theorem truths_snoc (a : List Int) (n : Nat) : truthsR a (n + 1) = truthsR a n ++ [decide (a.getD (n + 1) 0 > 0)] := by simp [truthsR, List.range_succ]
def f26 (l : List (List Int)) (V : Nat) (b : Int) (kind tried : Int) (tr : List Bool) (v : Int) : Fr :=
  Fr.mk ([.sl (rows l) none, .int .i64 V, .int .i64 b, .junk, .junk, .junk, .lptr 6 0, .ptr 1 0, .junk, .junk, .lptr 10 0, .int .i64 v] ++ List.replicate 63 .junk)
    (((List.replicate 75 none).set 6 (some [.int .i64 0, .sl [] (some 4), .sl [] (some 55), .int .i64 0])).set 10 (some [.int .i64 kind, .sl (bools tr) (some 4), .sl [] (some 55), .int .i64 tried])) []
theorem solve_ok (fu : Nat) (l : List (List Int)) (V : Nat) (b : Int) (o : Option Nat) (hI : okI l V) (hb : -1000000000000 ≤ b ∧ b ≤ 1000000000000) (hc : checkC l V = 0) (hf : 30000 < fu) :
    ∃ σ', callN T (fu + 1) 26 [.sl (rows l) o, .int .i64 V, .int .i64 b] [] = some (.agg [.int .i64 (solveR l V (if 0 > b then 0 else b)).1, .sl (bools (metR (solveR l V (if 0 > b then 0 else b)) V)) none, .sl (trips (stepsR (solveR l V (if 0 > b then 0 else b)))) none, .int .i64 (solveR l V (if 0 > b then 0 else b)).2.2.tried], σ') := by
  obtain ⟨fu, rfl⟩ : ∃ k, fu = k + 10 := ⟨fu - 10, by omega⟩
  have hV := hI.1
  have h60 := hI.2.1
  obtain ⟨σc, c24⟩ := check_ok (fu + 3) l V none (by omega) (by omega) (fun c hc => by have := (hI.2.2 c hc).2; omega)
  rw [hc] at c24
  have hleft : 0 ≤ (if 0 > b then 0 else b) ∧ (if 0 > b then 0 else b) ≤ 1000000000000 := by split <;> omega
  have hpre := pre0 (left := if 0 > b then 0 else b) hI hleft
  obtain ⟨TR', ρ', c38, _, _⟩ := try_ok (V + 1) l.length (by omega) (by omega) (by omega) (V + 1) _ (.sl [] (some 88)) [] (fu + 10) hpre (.inl ⟨rfl, rfl⟩) (by omega)
  have hpost := try_post (by omega) (V + 1) _ hpre
  unfold solveR
  generalize tryR (V + 1) l.length (V + 1) (s0R l V (if 0 > b then 0 else b)) = r at *
  have hal := hpost.wf.len
  have htb := hpost.t0
  refine call_ofE (m := m26) rfl rfl (by decide) (k_start ?_)
  unfold m26
  by_cases k1 : r.1 = 1
  · have hk2 : ¬ r.1 = 2 := by omega
    have e1 : metR r V = truthsR r.2.2.a V := if_pos k1
    have e2 : stepsR r = [] := if_neg hk2
    rw [e1, e2]
    refine k_seq ?_
    refine rgf (D.lptr (6 : Nat) (0 : Nat)) ([]) ?_
    refine k_done (k_skip_seq (k_seq (k_seq ?_)))
    refine rv (D.sl (rows l) none) ?_
    refine rv (D.int IntKind.i64 (↑V : Int)) ?_
    refine runs_call ([D.sl (rows l) none, D.int IntKind.i64 (↑V : Int)]) (by kernel_rfl) (by kernel_rfl) (by kernel_rfl) (by kernel_rfl) (c24) (by kernel_rfl) ?_
    refine rv (D.bool false) ?_
    refine k_done (k_skip_seq (kcf (k_skip_seq (k_seq ?_))))
    refine rv (D.sl (rows l) none) ?_
    refine rve (D.int IntKind.i64 (↑(List.length (rows l)) : Int)) (.int IntKind.i64 ((↑(List.length l) : Int))) (by simp only [ints, eInt, rows, eInts, bools, eBool, trips, eTrip, i8s, List.length_map]) ?_
    refine rv (D.int IntKind.i64 (↑V : Int)) ?_
    refine rve (D.int IntKind.i64 (IntKind.wrap IntKind.i64 ((↑V : Int) + (1 : Int)))) (.int IntKind.i64 ((V + 1 : Nat) : Int)) (congrArg (D.int IntKind.i64) (show IntKind.wrap IntKind.i64 ((↑V : Int) + (1 : Int)) = ((V + 1 : Nat) : Int) from wrap_eq (by omega) (by omega) (by omega))) ?_
    refine runs_make (V + (1 : Nat)) (ils (List.replicate (V + (1 : Nat)) 0)) (by kernel_rfl) (by kernel_rfl) (by kernel_rfl) (by omega) (ils_new (V + (1 : Nat))) ?_
    refine rv (D.int IntKind.i64 b) ?_
    refine rv (D.int IntKind.i64 (if (0 : Int) > b then (0 : Int) else b)) ?_
    refine rv (D.agg [D.nils (34 : Nat), D.int IntKind.i64 (↑(List.length l) : Int), D.msl (0 : Nat) (0 : Nat) (V + (1 : Nat)) (1 : Nat), D.nils (88 : Nat), D.nils (55 : Nat), D.int IntKind.i64 (if (0 : Int) > b then (0 : Int) else b), D.int IntKind.i64 (0 : Int)]) ?_
    refine rgf (D.lptr (25 : Nat) (0 : Nat)) ([Obj.cells (ils (List.replicate (V + (1 : Nat)) (0 : Int)))]) ?_
    refine ra0 (D.lptr (25 : Nat) (0 : Nat)) ?_
    refine k_done (k_skip_seq (k_seq ?_))
    refine rv (D.lptr (25 : Nat) (0 : Nat)) ?_
    refine rv (D.lptr (25 : Nat) (0 : Nat)) ?_
    refine rv (D.lptr (25 : Nat) (0 : Nat)) ?_
    refine rv (D.lptr (25 : Nat) (0 : Nat)) ?_
    refine rgf (D.sl [] (some (34 : Nat))) ([Obj.cells (ils (List.replicate (V + (1 : Nat)) (0 : Int)))]) ?_
    refine rv (D.sl (rows l) none) ?_
    refine runs_append ([]) (rows l) (rows l) (by kernel_rfl) (by kernel_rfl) (by kernel_rfl) (by simp [ints, eInt, rows, eInts, bools, eBool, trips, eTrip, i8s]) (by simp [ints, eInt, rows, eInts, bools, eBool, trips, eTrip, i8s, room]; omega) (List.nil_append _) ?_
    refine rv (D.lptr (25 : Nat) (0 : Nat)) ?_
    refine rv (D.lptr (25 : Nat) (0 : Nat)) ?_
    refine rgf (D.junk) ([Obj.cells (ils (List.replicate (V + (1 : Nat)) (0 : Int)))]) ?_
    refine k_done (k_skip_seq (k_seq ?_))
    refine rv (D.lptr (25 : Nat) (0 : Nat)) ?_
    refine runs_prom ([D.ptr (1 : Nat) (0 : Nat)]) ([Obj.cells (ils (List.replicate (V + (1 : Nat)) (0 : Int))), Obj.cells [D.sl (rows l) (some (34 : Nat)), D.int IntKind.i64 (↑(List.length l) : Int), D.msl (0 : Nat) (0 : Nat) (V + (1 : Nat)) (1 : Nat), D.sl [] (some (88 : Nat)), D.sl [] (some (55 : Nat)), D.int IntKind.i64 (if (0 : Int) > b then (0 : Int) else b), D.int IntKind.i64 (0 : Int)]]) (by kernel_rfl) (by kernel_rfl) (by kernel_rfl) (by kernel_rfl) ?_
    refine runs_call_st ([D.ptr (1 : Nat) (0 : Nat)]) (by kernel_rfl) (by kernel_rfl) (by kernel_rfl) (by kernel_rfl) (c38) ?_
    refine rv (D.tup [D.int IntKind.i64 (Prod.fst r), D.int IntKind.i64 (Prod.fst (Prod.snd r))]) ?_
    refine rv (D.int IntKind.i64 (Prod.fst r)) ?_
    refine rv (D.int IntKind.i64 (Prod.fst (Prod.snd r))) ?_
    refine ra0 (D.int IntKind.i64 (Prod.fst r)) ?_
    refine ra0 (D.int IntKind.i64 (Prod.fst (Prod.snd r))) ?_
    refine k_done (k_skip_seq (k_seq ?_))
    refine rv (D.int IntKind.i64 (Prod.fst r)) ?_
    refine rv (D.ptr (1 : Nat) (0 : Nat)) ?_
    refine rv (D.ptr (1 : Nat) (0 : Nat)) ?_
    refine rv (D.ptr (1 : Nat) (6 : Nat)) ?_
    refine rv (D.int IntKind.i64 (Sv.tried (Prod.snd (Prod.snd r)))) ?_
    refine rv (D.agg [D.int IntKind.i64 (Prod.fst r), D.nils (4 : Nat), D.nils (55 : Nat), D.int IntKind.i64 (Sv.tried (Prod.snd (Prod.snd r)))]) ?_
    refine rgf (D.lptr (10 : Nat) (0 : Nat)) (Obj.cells (ils (Sv.a (Prod.snd (Prod.snd r)))) :: Obj.cells [D.sl (rows (Sv.l (Prod.snd (Prod.snd r)))) (some (34 : Nat)), D.int IntKind.i64 (↑(List.length l) : Int), D.msl (0 : Nat) (0 : Nat) (V + (1 : Nat)) (1 : Nat), TR', D.sl (trips (Sv.steps (Prod.snd (Prod.snd r)))) (some (55 : Nat)), D.int IntKind.i64 (Sv.left (Prod.snd (Prod.snd r))), D.int IntKind.i64 (Sv.tried (Prod.snd (Prod.snd r)))] :: ρ') ?_
    refine rgf (D.junk) (Obj.cells (ils (Sv.a (Prod.snd (Prod.snd r)))) :: Obj.cells [D.sl (rows (Sv.l (Prod.snd (Prod.snd r)))) (some (34 : Nat)), D.int IntKind.i64 (↑(List.length l) : Int), D.msl (0 : Nat) (0 : Nat) (V + (1 : Nat)) (1 : Nat), TR', D.sl (trips (Sv.steps (Prod.snd (Prod.snd r)))) (some (55 : Nat)), D.int IntKind.i64 (Sv.left (Prod.snd (Prod.snd r))), D.int IntKind.i64 (Sv.tried (Prod.snd (Prod.snd r)))] :: ρ') ?_
    refine k_done (k_skip_seq (k_seq (k_seq ?_)))
    refine rv (D.int IntKind.i64 (Prod.fst r)) ?_
    refine k_done (k_skip_seq (k_block (k_seq ?_)))
    refine rv (D.bool (Prod.fst r == (1 : Int))) ?_
    refine ra0 (D.bool (Prod.fst r == (1 : Int))) ?_
    refine k_done (k_skip_seq ?_)
    refine rkn 47 (Prod.fst r == (1 : Int)) true (decide_eq_true (by assumption)) ?_
    refine kct (k_seq ?_)
    refine rv (D.int IntKind.i64 (1 : Int)) ?_
    refine k_done (k_skip_seq (k_block ?_))
    refine k_loop (fun i : Nat => f26 l V b r.1 r.2.2.tried (truthsR r.2.2.a i) ((i + 1 : Nat) : Int)) (fun _ => ST r.2.2 l.length (V + 1) TR' ρ') (fun i => i ≤ V) (fun i => V - i) 0 (by kernel_rfl) rfl (by simp) (by intro s hs; omega) ?_
    intro i hi
    have hsn := truths_snoc r.2.2.a i
    have htl : (truthsR r.2.2.a i).length = i := by simp [truthsR]
    by_cases hlt : i < V
    · have hget : (ils r.2.2.a)[(0 : Nat) + (i + (1 : Nat)) * (1 : Nat)]? = some (.int .i64 (r.2.2.a.getD (i + 1) 0)) := by
        have e : (0 : Nat) + (i + 1) * 1 = i + 1 := by omega
        rw [e, ils_get (by omega), List.getD_eq_getElem?_getD, List.getElem?_eq_getElem (by omega)]
        rfl
      generalize truthsR r.2.2.a i = tr at *
      generalize r.2.2.a.getD (i + 1) 0 = x at *
      refine k_seq (k_seq ?_)
      refine rv (D.int IntKind.i64 (↑(i + (1 : Nat)) : Int)) ?_
      refine rv (D.int IntKind.i64 (↑V : Int)) ?_
      refine rv (D.bool (decide ((↑(i + (1 : Nat)) : Int) ≤ (↑V : Int)))) ?_
      refine k_done (k_skip_seq ?_)
      refine rkn 51 (decide ((↑(i + (1 : Nat)) : Int) ≤ (↑V : Int))) true (decide_eq_true (by omega)) ?_
      refine kct (k_skip_seq (k_seq (k_block ?_)))
      refine rv (D.lptr (10 : Nat) (1 : Nat)) ?_
      refine rgf (D.sl (bools tr) (some (4 : Nat))) (Obj.cells (ils (Sv.a (Prod.snd (Prod.snd r)))) :: Obj.cells [D.sl (rows (Sv.l (Prod.snd (Prod.snd r)))) (some (34 : Nat)), D.int IntKind.i64 (↑(List.length l) : Int), D.msl (0 : Nat) (0 : Nat) (V + (1 : Nat)) (1 : Nat), TR', D.sl (trips (Sv.steps (Prod.snd (Prod.snd r)))) (some (55 : Nat)), D.int IntKind.i64 (Sv.left (Prod.snd (Prod.snd r))), D.int IntKind.i64 (Sv.tried (Prod.snd (Prod.snd r)))] :: ρ') ?_
      refine rv (D.ptr (1 : Nat) (0 : Nat)) ?_
      refine rv (D.ptr (1 : Nat) (0 : Nat)) ?_
      refine rv (D.ptr (1 : Nat) (2 : Nat)) ?_
      refine rv (D.msl (0 : Nat) (0 : Nat) (V + (1 : Nat)) (1 : Nat)) ?_
      refine rv (D.int IntKind.i64 (↑(i + (1 : Nat)) : Int)) ?_
      refine runs_indexM (kd := IntKind.i64) ((0 : Nat)) ((0 : Nat)) (V + (1 : Nat)) (i + (1 : Nat)) (by kernel_rfl) (by kernel_rfl) (by kernel_rfl) (by omega) ?_
      refine runs_loadP ((0 : Nat)) ((0 : Nat) + (i + (1 : Nat)) * (1 : Nat)) (ils (Sv.a (Prod.snd (Prod.snd r)))) _ (by kernel_rfl) (by kernel_rfl) (by kernel_rfl) (by assumption) ?_
      refine rv (D.bool (decide (x > (0 : Int)))) ?_
      refine rv (D.sl [[D.bool (decide (x > (0 : Int)))]] (some (4 : Nat))) ?_
      refine runs_append (bools tr) ([[D.bool (decide (x > (0 : Int)))]]) (bools (tr ++ [decide (x > (0 : Int))])) (by kernel_rfl) (by kernel_rfl) (by kernel_rfl) (by kernel_rfl) (by simp [ints, eInt, rows, eInts, bools, eBool, trips, eTrip, i8s, room]; omega) (by simp [ints, eInt, rows, eInts, bools, eBool, trips, eTrip, i8s]) ?_
      refine rv (D.lptr (10 : Nat) (1 : Nat)) ?_
      refine rgf (D.junk) (Obj.cells (ils (Sv.a (Prod.snd (Prod.snd r)))) :: Obj.cells [D.sl (rows (Sv.l (Prod.snd (Prod.snd r)))) (some (34 : Nat)), D.int IntKind.i64 (↑(List.length l) : Int), D.msl (0 : Nat) (0 : Nat) (V + (1 : Nat)) (1 : Nat), TR', D.sl (trips (Sv.steps (Prod.snd (Prod.snd r)))) (some (55 : Nat)), D.int IntKind.i64 (Sv.left (Prod.snd (Prod.snd r))), D.int IntKind.i64 (Sv.tried (Prod.snd (Prod.snd r)))] :: ρ') ?_
      refine k_done (k_skip_block (k_skip_seq ?_))
      refine rv (D.int IntKind.i64 (↑(i + (1 : Nat)) : Int)) ?_
      refine rve (D.int IntKind.i64 (IntKind.wrap IntKind.i64 ((↑(i + (1 : Nat)) : Int) + (1 : Int)))) (.int IntKind.i64 ((i + (1 : Nat) + 1 : Nat) : Int)) (congrArg (D.int IntKind.i64) (show IntKind.wrap IntKind.i64 ((↑(i + (1 : Nat)) : Int) + (1 : Int)) = ((i + (1 : Nat) + 1 : Nat) : Int) from wrap_eq (by omega) (by omega) (by omega))) ?_
      refine ra0 (D.int IntKind.i64 (↑(i + (1 : Nat) + (1 : Nat)) : Int)) ?_
      refine k_done (k_skip_back ?_)
      exact ⟨i + 1, hlt, by omega, by rw [hsn]; kernel_rfl, rfl⟩
    · obtain rfl : i = V := by omega
      generalize truthsR r.2.2.a i = tr at *
      refine k_seq (k_seq ?_)
      refine rv (D.int IntKind.i64 (↑(i + (1 : Nat)) : Int)) ?_
      refine rv (D.int IntKind.i64 (↑i : Int)) ?_
      refine rv (D.bool (decide ((↑(i + (1 : Nat)) : Int) ≤ (↑i : Int)))) ?_
      refine k_done (k_skip_seq ?_)
      refine rkn 51 (decide ((↑(i + (1 : Nat)) : Int) ≤ (↑i : Int))) false (decide_eq_false (by omega)) ?_
      refine kcf (k_exit_seq (k_exit_back (k_exit_hit rfl (k_skip_block (k_skip_seq (k_seq ?_))))))
      refine rv (D.agg [D.int IntKind.i64 (Prod.fst r), D.sl (bools tr) none, D.sl [] none, D.int IntKind.i64 (Sv.tried (Prod.snd (Prod.snd r)))]) ?_
      refine rgf (D.junk) (Obj.cells (ils (Sv.a (Prod.snd (Prod.snd r)))) :: Obj.cells [D.sl (rows (Sv.l (Prod.snd (Prod.snd r)))) (some (34 : Nat)), D.int IntKind.i64 (↑(List.length l) : Int), D.msl (0 : Nat) (0 : Nat) (i + (1 : Nat)) (1 : Nat), TR', D.sl (trips (Sv.steps (Prod.snd (Prod.snd r)))) (some (55 : Nat)), D.int IntKind.i64 (Sv.left (Prod.snd (Prod.snd r))), D.int IntKind.i64 (Sv.tried (Prod.snd (Prod.snd r)))] :: ρ') ?_
      refine k_done (k_skip_seq (k_ret ?_))
      exact ⟨.inr rfl, by kernel_rfl, ST r.2.2 l.length (i + 1) TR' ρ', by kernel_rfl⟩
  · have e1 : metR r V = [] := if_neg k1
    rw [e1]
    by_cases k2 : r.1 = 2
    · have e2 : stepsR r = r.2.2.steps := if_pos k2
      rw [e2]
      refine k_seq ?_
      refine rgf (D.lptr (6 : Nat) (0 : Nat)) ([]) ?_
      refine k_done (k_skip_seq (k_seq (k_seq ?_)))
      refine rv (D.sl (rows l) none) ?_
      refine rv (D.int IntKind.i64 (↑V : Int)) ?_
      refine runs_call ([D.sl (rows l) none, D.int IntKind.i64 (↑V : Int)]) (by kernel_rfl) (by kernel_rfl) (by kernel_rfl) (by kernel_rfl) (c24) (by kernel_rfl) ?_
      refine rv (D.bool false) ?_
      refine k_done (k_skip_seq (kcf (k_skip_seq (k_seq ?_))))
      refine rv (D.sl (rows l) none) ?_
      refine rve (D.int IntKind.i64 (↑(List.length (rows l)) : Int)) (.int IntKind.i64 ((↑(List.length l) : Int))) (by simp only [ints, eInt, rows, eInts, bools, eBool, trips, eTrip, i8s, List.length_map]) ?_
      refine rv (D.int IntKind.i64 (↑V : Int)) ?_
      refine rve (D.int IntKind.i64 (IntKind.wrap IntKind.i64 ((↑V : Int) + (1 : Int)))) (.int IntKind.i64 ((V + 1 : Nat) : Int)) (congrArg (D.int IntKind.i64) (show IntKind.wrap IntKind.i64 ((↑V : Int) + (1 : Int)) = ((V + 1 : Nat) : Int) from wrap_eq (by omega) (by omega) (by omega))) ?_
      refine runs_make (V + (1 : Nat)) (ils (List.replicate (V + (1 : Nat)) 0)) (by kernel_rfl) (by kernel_rfl) (by kernel_rfl) (by omega) (ils_new (V + (1 : Nat))) ?_
      refine rv (D.int IntKind.i64 b) ?_
      refine rv (D.int IntKind.i64 (if (0 : Int) > b then (0 : Int) else b)) ?_
      refine rv (D.agg [D.nils (34 : Nat), D.int IntKind.i64 (↑(List.length l) : Int), D.msl (0 : Nat) (0 : Nat) (V + (1 : Nat)) (1 : Nat), D.nils (88 : Nat), D.nils (55 : Nat), D.int IntKind.i64 (if (0 : Int) > b then (0 : Int) else b), D.int IntKind.i64 (0 : Int)]) ?_
      refine rgf (D.lptr (25 : Nat) (0 : Nat)) ([Obj.cells (ils (List.replicate (V + (1 : Nat)) (0 : Int)))]) ?_
      refine ra0 (D.lptr (25 : Nat) (0 : Nat)) ?_
      refine k_done (k_skip_seq (k_seq ?_))
      refine rv (D.lptr (25 : Nat) (0 : Nat)) ?_
      refine rv (D.lptr (25 : Nat) (0 : Nat)) ?_
      refine rv (D.lptr (25 : Nat) (0 : Nat)) ?_
      refine rv (D.lptr (25 : Nat) (0 : Nat)) ?_
      refine rgf (D.sl [] (some (34 : Nat))) ([Obj.cells (ils (List.replicate (V + (1 : Nat)) (0 : Int)))]) ?_
      refine rv (D.sl (rows l) none) ?_
      refine runs_append ([]) (rows l) (rows l) (by kernel_rfl) (by kernel_rfl) (by kernel_rfl) (by simp [ints, eInt, rows, eInts, bools, eBool, trips, eTrip, i8s]) (by simp [ints, eInt, rows, eInts, bools, eBool, trips, eTrip, i8s, room]; omega) (List.nil_append _) ?_
      refine rv (D.lptr (25 : Nat) (0 : Nat)) ?_
      refine rv (D.lptr (25 : Nat) (0 : Nat)) ?_
      refine rgf (D.junk) ([Obj.cells (ils (List.replicate (V + (1 : Nat)) (0 : Int)))]) ?_
      refine k_done (k_skip_seq (k_seq ?_))
      refine rv (D.lptr (25 : Nat) (0 : Nat)) ?_
      refine runs_prom ([D.ptr (1 : Nat) (0 : Nat)]) ([Obj.cells (ils (List.replicate (V + (1 : Nat)) (0 : Int))), Obj.cells [D.sl (rows l) (some (34 : Nat)), D.int IntKind.i64 (↑(List.length l) : Int), D.msl (0 : Nat) (0 : Nat) (V + (1 : Nat)) (1 : Nat), D.sl [] (some (88 : Nat)), D.sl [] (some (55 : Nat)), D.int IntKind.i64 (if (0 : Int) > b then (0 : Int) else b), D.int IntKind.i64 (0 : Int)]]) (by kernel_rfl) (by kernel_rfl) (by kernel_rfl) (by kernel_rfl) ?_
      refine runs_call_st ([D.ptr (1 : Nat) (0 : Nat)]) (by kernel_rfl) (by kernel_rfl) (by kernel_rfl) (by kernel_rfl) (c38) ?_
      refine rv (D.tup [D.int IntKind.i64 (Prod.fst r), D.int IntKind.i64 (Prod.fst (Prod.snd r))]) ?_
      refine rv (D.int IntKind.i64 (Prod.fst r)) ?_
      refine rv (D.int IntKind.i64 (Prod.fst (Prod.snd r))) ?_
      refine ra0 (D.int IntKind.i64 (Prod.fst r)) ?_
      refine ra0 (D.int IntKind.i64 (Prod.fst (Prod.snd r))) ?_
      refine k_done (k_skip_seq (k_seq ?_))
      refine rv (D.int IntKind.i64 (Prod.fst r)) ?_
      refine rv (D.ptr (1 : Nat) (0 : Nat)) ?_
      refine rv (D.ptr (1 : Nat) (0 : Nat)) ?_
      refine rv (D.ptr (1 : Nat) (6 : Nat)) ?_
      refine rv (D.int IntKind.i64 (Sv.tried (Prod.snd (Prod.snd r)))) ?_
      refine rv (D.agg [D.int IntKind.i64 (Prod.fst r), D.nils (4 : Nat), D.nils (55 : Nat), D.int IntKind.i64 (Sv.tried (Prod.snd (Prod.snd r)))]) ?_
      refine rgf (D.lptr (10 : Nat) (0 : Nat)) (Obj.cells (ils (Sv.a (Prod.snd (Prod.snd r)))) :: Obj.cells [D.sl (rows (Sv.l (Prod.snd (Prod.snd r)))) (some (34 : Nat)), D.int IntKind.i64 (↑(List.length l) : Int), D.msl (0 : Nat) (0 : Nat) (V + (1 : Nat)) (1 : Nat), TR', D.sl (trips (Sv.steps (Prod.snd (Prod.snd r)))) (some (55 : Nat)), D.int IntKind.i64 (Sv.left (Prod.snd (Prod.snd r))), D.int IntKind.i64 (Sv.tried (Prod.snd (Prod.snd r)))] :: ρ') ?_
      refine rgf (D.junk) (Obj.cells (ils (Sv.a (Prod.snd (Prod.snd r)))) :: Obj.cells [D.sl (rows (Sv.l (Prod.snd (Prod.snd r)))) (some (34 : Nat)), D.int IntKind.i64 (↑(List.length l) : Int), D.msl (0 : Nat) (0 : Nat) (V + (1 : Nat)) (1 : Nat), TR', D.sl (trips (Sv.steps (Prod.snd (Prod.snd r)))) (some (55 : Nat)), D.int IntKind.i64 (Sv.left (Prod.snd (Prod.snd r))), D.int IntKind.i64 (Sv.tried (Prod.snd (Prod.snd r)))] :: ρ') ?_
      refine k_done (k_skip_seq (k_seq (k_seq ?_)))
      refine rv (D.int IntKind.i64 (Prod.fst r)) ?_
      refine k_done (k_skip_seq (k_block (k_seq ?_)))
      refine rv (D.bool (Prod.fst r == (1 : Int))) ?_
      refine ra0 (D.bool (Prod.fst r == (1 : Int))) ?_
      refine k_done (k_skip_seq ?_)
      refine rkn 47 (Prod.fst r == (1 : Int)) false (decide_eq_false (by assumption)) ?_
      refine kcf (k_seq ?_)
      refine rv (D.bool (Prod.fst r == (2 : Int))) ?_
      refine ra0 (D.bool (Prod.fst r == (2 : Int))) ?_
      refine k_done (k_skip_seq ?_)
      refine rkn 67 (Prod.fst r == (2 : Int)) true (decide_eq_true (by assumption)) ?_
      refine kct ?_
      refine rv (D.ptr (1 : Nat) (0 : Nat)) ?_
      refine rv (D.ptr (1 : Nat) (0 : Nat)) ?_
      refine rv (D.ptr (1 : Nat) (4 : Nat)) ?_
      refine rv (D.sl (trips (Sv.steps (Prod.snd (Prod.snd r)))) none) ?_
      refine rv (D.lptr (10 : Nat) (2 : Nat)) ?_
      refine rgf (D.junk) (Obj.cells (ils (Sv.a (Prod.snd (Prod.snd r)))) :: Obj.cells [D.sl (rows (Sv.l (Prod.snd (Prod.snd r)))) (some (34 : Nat)), D.int IntKind.i64 (↑(List.length l) : Int), D.msl (0 : Nat) (0 : Nat) (V + (1 : Nat)) (1 : Nat), TR', D.sl (trips (Sv.steps (Prod.snd (Prod.snd r)))) (some (55 : Nat)), D.int IntKind.i64 (Sv.left (Prod.snd (Prod.snd r))), D.int IntKind.i64 (Sv.tried (Prod.snd (Prod.snd r)))] :: ρ') ?_
      refine k_done (k_skip_block (k_skip_seq (k_seq ?_)))
      refine rv (D.agg [D.int IntKind.i64 (Prod.fst r), D.sl [] none, D.sl (trips (Sv.steps (Prod.snd (Prod.snd r)))) none, D.int IntKind.i64 (Sv.tried (Prod.snd (Prod.snd r)))]) ?_
      refine rgf (D.junk) (Obj.cells (ils (Sv.a (Prod.snd (Prod.snd r)))) :: Obj.cells [D.sl (rows (Sv.l (Prod.snd (Prod.snd r)))) (some (34 : Nat)), D.int IntKind.i64 (↑(List.length l) : Int), D.msl (0 : Nat) (0 : Nat) (V + (1 : Nat)) (1 : Nat), TR', D.sl (trips (Sv.steps (Prod.snd (Prod.snd r)))) (some (55 : Nat)), D.int IntKind.i64 (Sv.left (Prod.snd (Prod.snd r))), D.int IntKind.i64 (Sv.tried (Prod.snd (Prod.snd r)))] :: ρ') ?_
      refine k_done (k_skip_seq (k_ret ?_))
      exact ⟨.inr rfl, by kernel_rfl, ST r.2.2 l.length (V + 1) TR' ρ', by kernel_rfl⟩
    · have e2 : stepsR r = [] := if_neg k2
      rw [e2]
      refine k_seq ?_
      refine rgf (D.lptr (6 : Nat) (0 : Nat)) ([]) ?_
      refine k_done (k_skip_seq (k_seq (k_seq ?_)))
      refine rv (D.sl (rows l) none) ?_
      refine rv (D.int IntKind.i64 (↑V : Int)) ?_
      refine runs_call ([D.sl (rows l) none, D.int IntKind.i64 (↑V : Int)]) (by kernel_rfl) (by kernel_rfl) (by kernel_rfl) (by kernel_rfl) (c24) (by kernel_rfl) ?_
      refine rv (D.bool false) ?_
      refine k_done (k_skip_seq (kcf (k_skip_seq (k_seq ?_))))
      refine rv (D.sl (rows l) none) ?_
      refine rve (D.int IntKind.i64 (↑(List.length (rows l)) : Int)) (.int IntKind.i64 ((↑(List.length l) : Int))) (by simp only [ints, eInt, rows, eInts, bools, eBool, trips, eTrip, i8s, List.length_map]) ?_
      refine rv (D.int IntKind.i64 (↑V : Int)) ?_
      refine rve (D.int IntKind.i64 (IntKind.wrap IntKind.i64 ((↑V : Int) + (1 : Int)))) (.int IntKind.i64 ((V + 1 : Nat) : Int)) (congrArg (D.int IntKind.i64) (show IntKind.wrap IntKind.i64 ((↑V : Int) + (1 : Int)) = ((V + 1 : Nat) : Int) from wrap_eq (by omega) (by omega) (by omega))) ?_
      refine runs_make (V + (1 : Nat)) (ils (List.replicate (V + (1 : Nat)) 0)) (by kernel_rfl) (by kernel_rfl) (by kernel_rfl) (by omega) (ils_new (V + (1 : Nat))) ?_
      refine rv (D.int IntKind.i64 b) ?_
      refine rv (D.int IntKind.i64 (if (0 : Int) > b then (0 : Int) else b)) ?_
      refine rv (D.agg [D.nils (34 : Nat), D.int IntKind.i64 (↑(List.length l) : Int), D.msl (0 : Nat) (0 : Nat) (V + (1 : Nat)) (1 : Nat), D.nils (88 : Nat), D.nils (55 : Nat), D.int IntKind.i64 (if (0 : Int) > b then (0 : Int) else b), D.int IntKind.i64 (0 : Int)]) ?_
      refine rgf (D.lptr (25 : Nat) (0 : Nat)) ([Obj.cells (ils (List.replicate (V + (1 : Nat)) (0 : Int)))]) ?_
      refine ra0 (D.lptr (25 : Nat) (0 : Nat)) ?_
      refine k_done (k_skip_seq (k_seq ?_))
      refine rv (D.lptr (25 : Nat) (0 : Nat)) ?_
      refine rv (D.lptr (25 : Nat) (0 : Nat)) ?_
      refine rv (D.lptr (25 : Nat) (0 : Nat)) ?_
      refine rv (D.lptr (25 : Nat) (0 : Nat)) ?_
      refine rgf (D.sl [] (some (34 : Nat))) ([Obj.cells (ils (List.replicate (V + (1 : Nat)) (0 : Int)))]) ?_
      refine rv (D.sl (rows l) none) ?_
      refine runs_append ([]) (rows l) (rows l) (by kernel_rfl) (by kernel_rfl) (by kernel_rfl) (by simp [ints, eInt, rows, eInts, bools, eBool, trips, eTrip, i8s]) (by simp [ints, eInt, rows, eInts, bools, eBool, trips, eTrip, i8s, room]; omega) (List.nil_append _) ?_
      refine rv (D.lptr (25 : Nat) (0 : Nat)) ?_
      refine rv (D.lptr (25 : Nat) (0 : Nat)) ?_
      refine rgf (D.junk) ([Obj.cells (ils (List.replicate (V + (1 : Nat)) (0 : Int)))]) ?_
      refine k_done (k_skip_seq (k_seq ?_))
      refine rv (D.lptr (25 : Nat) (0 : Nat)) ?_
      refine runs_prom ([D.ptr (1 : Nat) (0 : Nat)]) ([Obj.cells (ils (List.replicate (V + (1 : Nat)) (0 : Int))), Obj.cells [D.sl (rows l) (some (34 : Nat)), D.int IntKind.i64 (↑(List.length l) : Int), D.msl (0 : Nat) (0 : Nat) (V + (1 : Nat)) (1 : Nat), D.sl [] (some (88 : Nat)), D.sl [] (some (55 : Nat)), D.int IntKind.i64 (if (0 : Int) > b then (0 : Int) else b), D.int IntKind.i64 (0 : Int)]]) (by kernel_rfl) (by kernel_rfl) (by kernel_rfl) (by kernel_rfl) ?_
      refine runs_call_st ([D.ptr (1 : Nat) (0 : Nat)]) (by kernel_rfl) (by kernel_rfl) (by kernel_rfl) (by kernel_rfl) (c38) ?_
      refine rv (D.tup [D.int IntKind.i64 (Prod.fst r), D.int IntKind.i64 (Prod.fst (Prod.snd r))]) ?_
      refine rv (D.int IntKind.i64 (Prod.fst r)) ?_
      refine rv (D.int IntKind.i64 (Prod.fst (Prod.snd r))) ?_
      refine ra0 (D.int IntKind.i64 (Prod.fst r)) ?_
      refine ra0 (D.int IntKind.i64 (Prod.fst (Prod.snd r))) ?_
      refine k_done (k_skip_seq (k_seq ?_))
      refine rv (D.int IntKind.i64 (Prod.fst r)) ?_
      refine rv (D.ptr (1 : Nat) (0 : Nat)) ?_
      refine rv (D.ptr (1 : Nat) (0 : Nat)) ?_
      refine rv (D.ptr (1 : Nat) (6 : Nat)) ?_
      refine rv (D.int IntKind.i64 (Sv.tried (Prod.snd (Prod.snd r)))) ?_
      refine rv (D.agg [D.int IntKind.i64 (Prod.fst r), D.nils (4 : Nat), D.nils (55 : Nat), D.int IntKind.i64 (Sv.tried (Prod.snd (Prod.snd r)))]) ?_
      refine rgf (D.lptr (10 : Nat) (0 : Nat)) (Obj.cells (ils (Sv.a (Prod.snd (Prod.snd r)))) :: Obj.cells [D.sl (rows (Sv.l (Prod.snd (Prod.snd r)))) (some (34 : Nat)), D.int IntKind.i64 (↑(List.length l) : Int), D.msl (0 : Nat) (0 : Nat) (V + (1 : Nat)) (1 : Nat), TR', D.sl (trips (Sv.steps (Prod.snd (Prod.snd r)))) (some (55 : Nat)), D.int IntKind.i64 (Sv.left (Prod.snd (Prod.snd r))), D.int IntKind.i64 (Sv.tried (Prod.snd (Prod.snd r)))] :: ρ') ?_
      refine rgf (D.junk) (Obj.cells (ils (Sv.a (Prod.snd (Prod.snd r)))) :: Obj.cells [D.sl (rows (Sv.l (Prod.snd (Prod.snd r)))) (some (34 : Nat)), D.int IntKind.i64 (↑(List.length l) : Int), D.msl (0 : Nat) (0 : Nat) (V + (1 : Nat)) (1 : Nat), TR', D.sl (trips (Sv.steps (Prod.snd (Prod.snd r)))) (some (55 : Nat)), D.int IntKind.i64 (Sv.left (Prod.snd (Prod.snd r))), D.int IntKind.i64 (Sv.tried (Prod.snd (Prod.snd r)))] :: ρ') ?_
      refine k_done (k_skip_seq (k_seq (k_seq ?_)))
      refine rv (D.int IntKind.i64 (Prod.fst r)) ?_
      refine k_done (k_skip_seq (k_block (k_seq ?_)))
      refine rv (D.bool (Prod.fst r == (1 : Int))) ?_
      refine ra0 (D.bool (Prod.fst r == (1 : Int))) ?_
      refine k_done (k_skip_seq ?_)
      refine rkn 47 (Prod.fst r == (1 : Int)) false (decide_eq_false (by assumption)) ?_
      refine kcf (k_seq ?_)
      refine rv (D.bool (Prod.fst r == (2 : Int))) ?_
      refine ra0 (D.bool (Prod.fst r == (2 : Int))) ?_
      refine k_done (k_skip_seq ?_)
      refine rkn 67 (Prod.fst r == (2 : Int)) false (decide_eq_false (by assumption)) ?_
      refine kcf (k_skip_block (k_skip_seq (k_seq ?_)))
      refine rv (D.agg [D.int IntKind.i64 (Prod.fst r), D.sl [] none, D.sl [] none, D.int IntKind.i64 (Sv.tried (Prod.snd (Prod.snd r)))]) ?_
      refine rgf (D.junk) (Obj.cells (ils (Sv.a (Prod.snd (Prod.snd r)))) :: Obj.cells [D.sl (rows (Sv.l (Prod.snd (Prod.snd r)))) (some (34 : Nat)), D.int IntKind.i64 (↑(List.length l) : Int), D.msl (0 : Nat) (0 : Nat) (V + (1 : Nat)) (1 : Nat), TR', D.sl (trips (Sv.steps (Prod.snd (Prod.snd r)))) (some (55 : Nat)), D.int IntKind.i64 (Sv.left (Prod.snd (Prod.snd r))), D.int IntKind.i64 (Sv.tried (Prod.snd (Prod.snd r)))] :: ρ') ?_
      refine k_done (k_skip_seq (k_ret ?_))
      exact ⟨.inr rfl, by kernel_rfl, ST r.2.2 l.length (V + 1) TR' ρ', by kernel_rfl⟩
end Go.Abs.B
