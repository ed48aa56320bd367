import Derived.Test.YtjmhfliaehhijaaKont2
import Derived.Test.YtjmhfliaehhijaaA15
set_option linter.unusedVariables false
set_option linter.unusedSimpArgs false
/-
  The document's literal of a formula.
-/
namespace Go.Abs.A
open Go Go.Abs
set_option maxRecDepth 8000
attribute [local irreducible] callN runC evalOp

def bx46 (f : Fm) (L : List (List Int)) (n : Int) : List (Option (List D)) := (((List.replicate 126 none).set 2 (some [.sl (rows L) none, .int .i64 n])).set 3 (some (eF f))).set 4 (some [.sl [] (some 51), .int .i64 0])
def f46a (f : Fm) (l0 : List (List Int)) (n0 : Int) (L : List (List Int)) (n : Int) (ks : List Int) (i : Int) : Fr :=
  Fr.mk ([.agg [.sl (rows l0) none, .int .i64 n0], .agg (eF f), .lptr 2 0, .lptr 3 0, .lptr 4 0, .int .i64 0, .junk, .junk, .sl (ints ks) (some 3), .int .i64 i] ++ List.replicate 116 .junk) (bx46 f L n) []
def f46b (f : Fm) (l0 : List (List Int)) (n0 : Int) (L : List (List Int)) (n : Int) (ks : List Int) (i : Int) (P : List (List Int)) (W : List Int) (j : Int) : Fr :=
  Fr.mk ([.agg [.sl (rows l0) none, .int .i64 n0], .agg (eF f), .lptr 2 0, .lptr 3 0, .lptr 4 0, .int .i64 0, .junk, .junk, .sl (ints ks) (some 3), .int .i64 i, .junk, .int .i64 n, .sl (rows P) (some 51), .sl (ints W) (some 3), .int .i64 j] ++ List.replicate 111 .junk) (bx46 f L n) []
def pairG (g : Int → List Int) (ks : List Int) (j : Nat) : List (List Int) := (ks.take j).map g
def wholeG (a : Int) (h : Int → Int) (ks : List Int) (j : Nat) : List Int := a :: (ks.take j).map h
theorem pairG_next (g : Int → List Int) {ks : List Int} {j : Nat} (h : j < ks.length) : pairG g ks (j + 1) = pairG g ks j ++ [g ks[j]] := by
  simp only [pairG, List.take_succ_eq_append_getElem h, List.map_append, List.map_cons, List.map_nil]
theorem wholeG_next (a : Int) (g : Int → Int) {ks : List Int} {j : Nat} (h : j < ks.length) : wholeG a g ks (j + 1) = wholeG a g ks j ++ [g ks[j]] := by
  simp only [wholeG, List.take_succ_eq_append_getElem h, List.map_append, List.map_cons, List.map_nil, List.cons_append]
theorem pairG_len (g : Int → List Int) (ks : List Int) (j : Nat) : (pairG g ks j).length ≤ ks.length := by
  simp only [pairG, List.length_map, List.length_take]
  omega
theorem wholeG_len (a : Int) (g : Int → Int) (ks : List Int) (j : Nat) : (wholeG a g ks j).length ≤ ks.length + 1 := by
  simp only [wholeG, List.length_map, List.length_take, List.length_cons]
  omega
theorem gate_and (v : Int) (ks : List Int) : gate 1 v ks = pairG (fun k => [0 - v, k]) ks ks.length ++ [wholeG v (fun k => 0 - k) ks ks.length] := by
  simp only [gate, pairG, wholeG, List.take_length]
  have h1 : (fun k : Int => [(0 - 1) * v, 1 * k]) = fun k => [0 - v, k] := by
    funext k
    rw [show ((0 : Int) - 1) * v = 0 - v by omega, Int.one_mul]
  have h2 : (fun k : Int => (0 - 1) * k) = fun k => 0 - k := by
    funext k
    omega
  rw [h1, h2, Int.one_mul]
theorem gate_or (v : Int) (ks : List Int) : gate (-1) v ks = pairG (fun k => [v, 0 - k]) ks ks.length ++ [wholeG (0 - v) (fun k => k) ks ks.length] := by
  simp only [gate, pairG, wholeG, List.take_length]
  have h1 : (fun k : Int => [(0 - -1) * v, -1 * k]) = fun k => [v, 0 - k] := by
    funext k
    rw [show ((0 : Int) - -1) * v = v by omega, show (-1 : Int) * k = 0 - k by omega]
  have h2 : (fun k : Int => (0 - -1) * k) = fun k => k := by
    funext k
    omega
  rw [h1, h2, show (-1 : Int) * v = 0 - v by omega]
theorem literalR_ok (B : Int) (h0 : 0 ≤ B) : ∀ (d : Nat) (f : Fm) (l : List (List Int)) (n : Int) (N : Nat), nf d f → lowF B f → B ≤ n → n + nodes f ≤ 1000000 → l.length + 2 * nodes f ≤ 90000 → d + 70 ≤ N →
    callN T N 46 [.agg [.sl (rows l) none, .int .i64 n], .agg (eF f)] [] = some (.tup [.agg [.sl (rows (l ++ (litR d f n).1)) none, .int .i64 (litR d f n).2.1], .int .i64 (litR d f n).2.2], []) := by
  intro d
  induction d with
  | zero => intro f l n N h; exact h.elim
  | succ d ih =>
    intro f l n N h hl hB hn hln hN
    obtain ⟨N, rfl⟩ : ∃ m, N = m + 1 := ⟨N - 1, by omega⟩
    have hnf := h
    have hnod := nodes_eq f
    have hl' := (lowF_eq B f).1 hl
    have hlk := (lowL_iff B _).1 hl'.2
    refine call_of (m := m46) rfl rfl (by decide) (k_start ?_)
    unfold m46
    rcases h with ⟨h3, hk, h1, h2⟩ | ⟨h4, _, x, hk, hx, _⟩ | ⟨h5, _, _, h60, hk⟩
    · have e : litR (d + 1) f n = ([], n, f.n) := if_pos h3
      rw [e, List.append_nil]
      refine k_seq ?_
      refine rgf (D.lptr (2 : Nat) (0 : Nat)) ([]) ?_
      refine rgf (D.lptr (3 : Nat) (0 : Nat)) ([]) ?_
      refine rgf (D.lptr (4 : Nat) (0 : Nat)) ([]) ?_
      refine rv (D.int IntKind.i64 (0 : Int)) ?_
      refine k_done (k_skip_seq (k_seq (k_seq ?_)))
      refine rv (D.lptr (3 : Nat) (0 : Nat)) ?_
      refine rv (D.int IntKind.i64 (Fm.op f)) ?_
      refine rv (D.bool (Fm.op f == (3 : Int))) ?_
      refine k_done (k_skip_seq ?_)
      refine rkn 17 (Fm.op f == (3 : Int)) true (decide_eq_true (by assumption)) ?_
      refine kct (k_seq ?_)
      refine runs_loadA (by kernel_rfl) ?_
      refine rv (D.agg [D.sl (rows l) none, D.int IntKind.i64 n]) ?_
      refine rv (D.lptr (3 : Nat) (1 : Nat)) ?_
      refine runs_loadA (by kernel_rfl) ?_
      refine rv (D.int IntKind.i64 (Fm.n f)) ?_
      refine runs_storeR (by kernel_rfl) ?_
      refine rgf (D.junk) ([]) ?_
      refine ra0 (D.int IntKind.i64 (Fm.n f)) ?_
      refine k_done (k_skip_seq (k_ret ?_))
      exact ⟨.inr rfl, by kernel_rfl, by kernel_rfl⟩
    · have e : litR (d + 1) f n = ((litR d x n).1, (litR d x n).2.1, 0 - (litR d x n).2.2) := by
        show (if f.op = 3 then _ else if f.op = 4 then _ else _) = _
        rw [if_neg (by omega), if_pos h4, hk]
      have hg := kid0_get hk
      have h3 : ¬ f.op = 3 := by omega
      rw [hk] at hnod
      simp only [nodesL] at hnod
      have hcall := ih x l n N hx (hlk x (by rw [hk]; simp)) hB (by omega) (by omega) (by omega)
      have o := lit_OK B h0 d x n hx (hlk x (by rw [hk]; simp)) hB
      have a1 := o.lo
      have a2 := o.hi
      have a3 := o.top
      rw [e]
      generalize litR d x n = r at *
      refine k_seq ?_
      refine rgf (D.lptr (2 : Nat) (0 : Nat)) ([]) ?_
      refine rgf (D.lptr (3 : Nat) (0 : Nat)) ([]) ?_
      refine rgf (D.lptr (4 : Nat) (0 : Nat)) ([]) ?_
      refine rv (D.int IntKind.i64 (0 : Int)) ?_
      refine k_done (k_skip_seq (k_seq (k_seq ?_)))
      refine rv (D.lptr (3 : Nat) (0 : Nat)) ?_
      refine rv (D.int IntKind.i64 (Fm.op f)) ?_
      refine rv (D.bool (Fm.op f == (3 : Int))) ?_
      refine k_done (k_skip_seq ?_)
      refine rkn 17 (Fm.op f == (3 : Int)) false (decide_eq_false (by assumption)) ?_
      refine kcf (k_skip_seq (k_seq (k_seq ?_)))
      refine rv (D.lptr (3 : Nat) (0 : Nat)) ?_
      refine rv (D.int IntKind.i64 (Fm.op f)) ?_
      refine rv (D.bool (Fm.op f == (4 : Int))) ?_
      refine k_done (k_skip_seq ?_)
      refine rkn 23 (Fm.op f == (4 : Int)) true (decide_eq_true (by assumption)) ?_
      refine kct (k_seq ?_)
      refine runs_loadA (by kernel_rfl) ?_
      refine rv (D.agg [D.sl (rows l) none, D.int IntKind.i64 n]) ?_
      refine rv (D.lptr (3 : Nat) (2 : Nat)) ?_
      refine runs_loadA (by kernel_rfl) ?_
      refine rv (D.sl (eFs (Fm.kids f)) none) ?_
      refine runs_indexL (eFs (Fm.kids f)) (o := none) (kd := IntKind.i64) (0) _ (by kernel_rfl) (by kernel_rfl) (by kernel_rfl) (by assumption) (by kernel_rfl) ?_
      refine runs_loadA (by kernel_rfl) ?_
      refine rv (D.agg [D.int IntKind.i64 (Fm.op x), D.int IntKind.i64 (Fm.n x), D.sl (eFs (Fm.kids x)) none]) ?_
      refine runs_callQ ([D.agg [D.sl (rows l) none, D.int IntKind.i64 n], D.agg [D.int IntKind.i64 (Fm.op x), D.int IntKind.i64 (Fm.n x), D.sl (eFs (Fm.kids x)) none]]) (by kernel_rfl) (by kernel_rfl) (by kernel_rfl) (by kernel_rfl) (hcall) (by kernel_rfl) ?_
      refine rv (D.tup [D.agg [D.sl (rows (l ++ Prod.fst r)) none, D.int IntKind.i64 (Prod.fst (Prod.snd r))], D.int IntKind.i64 (Prod.snd (Prod.snd r))]) ?_
      refine rv (D.agg [D.sl (rows (l ++ Prod.fst r)) none, D.int IntKind.i64 (Prod.fst (Prod.snd r))]) ?_
      refine rv (D.int IntKind.i64 (Prod.snd (Prod.snd r))) ?_
      refine runs_allocR (by kernel_rfl) ?_
      refine rgf (D.lptr (6 : Nat) (0 : Nat)) ([]) ?_
      refine runs_storeR (by kernel_rfl) ?_
      refine rgf (D.junk) ([]) ?_
      refine ra0 (D.int IntKind.i64 (Prod.snd (Prod.snd r))) ?_
      refine k_done (k_skip_seq (k_seq ?_))
      refine rv (D.agg [D.sl (rows (l ++ Prod.fst r)) none, D.int IntKind.i64 (Prod.fst (Prod.snd r))]) ?_
      refine rv (D.int IntKind.i64 (Prod.snd (Prod.snd r))) ?_
      refine rve (D.int IntKind.i64 (IntKind.wrap IntKind.i64 ((0 : Int) - Prod.snd (Prod.snd r)))) (.int IntKind.i64 ((0 : Int) - Prod.snd (Prod.snd r))) (congrArg (D.int IntKind.i64) (show IntKind.wrap IntKind.i64 ((0 : Int) - Prod.snd (Prod.snd r)) = ((0 : Int) - Prod.snd (Prod.snd r)) from wrap_eq (by omega) (by omega) (by omega))) ?_
      refine rgf (D.junk) ([]) ?_
      refine ra0 (D.int IntKind.i64 ((0 : Int) - Prod.snd (Prod.snd r))) ?_
      refine k_done (k_skip_seq (k_ret ?_))
      exact ⟨.inr rfl, by kernel_rfl, by kernel_rfl⟩
    · have e : litR (d + 1) f n = ((kidsR (litR d) f.kids n).1 ++ gate (sgn f.op) ((kidsR (litR d) f.kids n).2.1 + 1) (kidsR (litR d) f.kids n).2.2, (kidsR (litR d) f.kids n).2.1 + 1, (kidsR (litR d) f.kids n).2.1 + 1) := by
        show (if f.op = 3 then _ else if f.op = 4 then _ else _) = _
        rw [if_neg (by omega), if_neg (by omega)]
      have h3 : ¬ f.op = 3 := by omega
      have h4 : ¬ f.op = 4 := by omega
      by_cases c6 : f.op = 6
      · have hsgn : sgn f.op = (-1) := by unfold sgn; simp [c6]
        rw [hsgn] at e
        rw [e]
        refine k_seq ?_
        refine rgf (D.lptr (2 : Nat) (0 : Nat)) ([]) ?_
        refine rgf (D.lptr (3 : Nat) (0 : Nat)) ([]) ?_
        refine rgf (D.lptr (4 : Nat) (0 : Nat)) ([]) ?_
        refine rv (D.int IntKind.i64 (0 : Int)) ?_
        refine k_done (k_skip_seq (k_seq (k_seq ?_)))
        refine rv (D.lptr (3 : Nat) (0 : Nat)) ?_
        refine rv (D.int IntKind.i64 (Fm.op f)) ?_
        refine rv (D.bool (Fm.op f == (3 : Int))) ?_
        refine k_done (k_skip_seq ?_)
        refine rkn 17 (Fm.op f == (3 : Int)) false (decide_eq_false (by assumption)) ?_
        refine kcf (k_skip_seq (k_seq (k_seq ?_)))
        refine rv (D.lptr (3 : Nat) (0 : Nat)) ?_
        refine rv (D.int IntKind.i64 (Fm.op f)) ?_
        refine rv (D.bool (Fm.op f == (4 : Int))) ?_
        refine k_done (k_skip_seq ?_)
        refine rkn 23 (Fm.op f == (4 : Int)) false (decide_eq_false (by assumption)) ?_
        refine kcf (k_skip_seq (k_seq ?_))
        refine rv (D.sl [] (some (3 : Nat))) ?_
        refine k_done (k_skip_seq (k_seq (k_seq ?_)))
        refine rv (D.int IntKind.i64 (0 : Int)) ?_
        refine k_done (k_skip_seq (k_block ?_))
        refine k_loop (fun i : Nat => f46a f l n (l ++ (kidsR (litR d) (f.kids.take i) n).1) (kidsR (litR d) (f.kids.take i) n).2.1 (kidsR (litR d) (f.kids.take i) n).2.2 i) (fun i => []) (fun i => i ≤ f.kids.length) (fun i => f.kids.length - i) 0 (by rw [List.take_zero]; simp only [kidsR, List.append_nil]; kernel_rfl) rfl (by simp) (by intro s hs; omega) ?_
        intro i hi
        by_cases hlt : i < f.kids.length
        · have hg := kid_at hlt
          have hnt := nodesL_take hlt
          have hmem := List.getElem_mem hlt
          have o := kids_OK (g := litR d) (f.kids.take i) n hB (fun k hk' n hB => lit_OK B h0 d k n (hk k (List.mem_of_mem_take hk')) (hlk k (List.mem_of_mem_take hk')) hB)
          have hnext := kidsR_take (litR d) n hlt
          have a1 := o.up
          have a2 := o.top
          have a3 := o.num
          have a4 := o.len
          rw [List.length_take, Nat.min_eq_left hi] at a4
          have hcall := ih f.kids[i] (l ++ (kidsR (litR d) (f.kids.take i) n).1) (kidsR (litR d) (f.kids.take i) n).2.1 N (hk _ hmem) (hlk _ hmem) (by omega) (by omega) (by rw [List.length_append]; omega) (by omega)
          generalize kidsR (litR d) (f.kids.take i) n = K at *
          generalize litR d f.kids[i] K.2.1 = r at *
          refine k_seq (k_seq ?_)
          refine rv (D.int IntKind.i64 (↑i : Int)) ?_
          refine rv (D.lptr (3 : Nat) (2 : Nat)) ?_
          refine rv (D.sl (eFs (Fm.kids f)) none) ?_
          refine rve (D.int IntKind.i64 (↑(List.length (eFs (Fm.kids f))) : Int)) (.int IntKind.i64 ((↑(List.length (Fm.kids f)) : Int))) (by simp only [eFs_length]) ?_
          refine rv (D.bool (decide ((↑i : Int) < (↑(List.length (Fm.kids f)) : Int)))) ?_
          refine k_done (k_skip_seq ?_)
          refine rkn 40 (decide ((↑i : Int) < (↑(List.length (Fm.kids f)) : Int))) true (decide_eq_true (by omega)) ?_
          refine kct (k_skip_seq (k_seq (k_block (k_seq ?_))))
          refine rv (D.int IntKind.i64 (0 : Int)) ?_
          refine k_done (k_skip_seq (k_seq ?_))
          refine rv (D.agg [D.sl (rows (l ++ Prod.fst K)) none, D.int IntKind.i64 (Prod.fst (Prod.snd K))]) ?_
          refine rv (D.lptr (3 : Nat) (2 : Nat)) ?_
          refine rv (D.sl (eFs (Fm.kids f)) none) ?_
          refine rv (D.int IntKind.i64 (↑i : Int)) ?_
          refine runs_indexL (eFs (Fm.kids f)) (o := none) (kd := IntKind.i64) (i) _ (by kernel_rfl) (by kernel_rfl) (by kernel_rfl) (by assumption) (by kernel_rfl) ?_
          refine rv (D.agg [D.int IntKind.i64 (Fm.op (Fm.kids f)[i]), D.int IntKind.i64 (Fm.n (Fm.kids f)[i]), D.sl (eFs (Fm.kids (Fm.kids f)[i])) none]) ?_
          refine runs_call ([D.agg [D.sl (rows (l ++ Prod.fst K)) none, D.int IntKind.i64 (Prod.fst (Prod.snd K))], D.agg [D.int IntKind.i64 (Fm.op (Fm.kids f)[i]), D.int IntKind.i64 (Fm.n (Fm.kids f)[i]), D.sl (eFs (Fm.kids (Fm.kids f)[i])) none]]) (by kernel_rfl) (by kernel_rfl) (by kernel_rfl) (by kernel_rfl) (hcall) (by kernel_rfl) ?_
          refine rv (D.tup [D.agg [D.sl (rows (l ++ Prod.fst K ++ Prod.fst r)) none, D.int IntKind.i64 (Prod.fst (Prod.snd r))], D.int IntKind.i64 (Prod.snd (Prod.snd r))]) ?_
          refine rv (D.agg [D.sl (rows (l ++ Prod.fst K ++ Prod.fst r)) none, D.int IntKind.i64 (Prod.fst (Prod.snd r))]) ?_
          refine rv (D.int IntKind.i64 (Prod.snd (Prod.snd r))) ?_
          refine rgf (D.junk) ([]) ?_
          refine ra0 (D.int IntKind.i64 (Prod.snd (Prod.snd r))) ?_
          refine k_done (k_skip_seq ?_)
          refine runs_steal (D.sl (ints (Prod.snd (Prod.snd K))) (some (3 : Nat))) (by kernel_rfl) (by kernel_rfl) ?_
          refine rv (D.int IntKind.i64 (Prod.snd (Prod.snd r))) ?_
          refine rv (D.sl [[D.int IntKind.i64 (Prod.snd (Prod.snd r))]] (some (3 : Nat))) ?_
          refine runs_append (ints (Prod.snd (Prod.snd K))) ([[D.int IntKind.i64 (Prod.snd (Prod.snd r))]]) (ints (Prod.snd (Prod.snd K) ++ [Prod.snd (Prod.snd r)])) (by kernel_rfl) (by kernel_rfl) (by kernel_rfl) (by kernel_rfl) (by simp [ints, eInt, rows, eInts, bools, eBool, trips, eTrip, i8s, room]; omega) (by simp [ints, eInt, rows, eInts, bools, eBool, trips, eTrip, i8s]) ?_
          refine runs_assign (D.sl (ints (Prod.snd (Prod.snd K) ++ [Prod.snd (Prod.snd r)])) (some (3 : Nat))) (by kernel_rfl) (by kernel_rfl) ?_
          refine k_done (k_skip_block (k_skip_seq ?_))
          refine rv (D.int IntKind.i64 (↑i : Int)) ?_
          refine rve (D.int IntKind.i64 (IntKind.wrap IntKind.i64 ((↑i : Int) + (1 : Int)))) (.int IntKind.i64 ((i + 1 : Nat) : Int)) (congrArg (D.int IntKind.i64) (show IntKind.wrap IntKind.i64 ((↑i : Int) + (1 : Int)) = ((i + 1 : Nat) : Int) from wrap_eq (by omega) (by omega) (by omega))) ?_
          refine ra0 (D.int IntKind.i64 (↑(i + (1 : Nat)) : Int)) ?_
          refine k_done (k_skip_back ?_)
          exact ⟨i + 1, hlt, by omega, by rw [hnext, ← List.append_assoc]; kernel_rfl, rfl⟩
        · obtain rfl : i = f.kids.length := by omega
          rw [List.take_length]
          have o := kids_OK (g := litR d) f.kids n hB (fun k hk' n hB => lit_OK B h0 d k n (hk k hk') (hlk k hk') hB)
          have a1 := o.up
          have a2 := o.top
          have a3 := o.num
          have a4 := o.len
          have a5 := o.vs
          generalize kidsR (litR d) f.kids n = K at *
          refine k_seq (k_seq ?_)
          refine rv (D.int IntKind.i64 (↑(List.length (Fm.kids f)) : Int)) ?_
          refine rv (D.lptr (3 : Nat) (2 : Nat)) ?_
          refine rv (D.sl (eFs (Fm.kids f)) none) ?_
          refine rve (D.int IntKind.i64 (↑(List.length (eFs (Fm.kids f))) : Int)) (.int IntKind.i64 ((↑(List.length (Fm.kids f)) : Int))) (by simp only [eFs_length]) ?_
          refine rv (D.bool (decide ((↑(List.length (Fm.kids f)) : Int) < (↑(List.length (Fm.kids f)) : Int)))) ?_
          refine k_done (k_skip_seq ?_)
          refine rkn 40 (decide ((↑(List.length (Fm.kids f)) : Int) < (↑(List.length (Fm.kids f)) : Int))) false (decide_eq_false (by omega)) ?_
          refine kcf (k_exit_seq (k_exit_back (k_exit_hit rfl (k_skip_seq (k_seq ?_)))))
          refine rv (D.lptr (2 : Nat) (1 : Nat)) ?_
          refine rv (D.int IntKind.i64 (Prod.fst (Prod.snd K))) ?_
          refine rve (D.int IntKind.i64 (IntKind.wrap IntKind.i64 (Prod.fst (Prod.snd K) + (1 : Int)))) (.int IntKind.i64 (Prod.fst (Prod.snd K) + (1 : Int))) (congrArg (D.int IntKind.i64) (show IntKind.wrap IntKind.i64 (Prod.fst (Prod.snd K) + (1 : Int)) = (Prod.fst (Prod.snd K) + (1 : Int)) from wrap_eq (by omega) (by omega) (by omega))) ?_
          refine rv (D.lptr (2 : Nat) (1 : Nat)) ?_
          refine rgf (D.junk) ([]) ?_
          refine k_done (k_skip_seq (k_seq ?_))
          refine rv (D.lptr (2 : Nat) (1 : Nat)) ?_
          refine rv (D.int IntKind.i64 (Prod.fst (Prod.snd K) + (1 : Int))) ?_
          refine ra0 (D.int IntKind.i64 (Prod.fst (Prod.snd K) + (1 : Int))) ?_
          refine k_done (k_skip_seq (k_seq ?_))
          refine rv (D.sl [] (some (51 : Nat))) ?_
          refine k_done (k_skip_seq (k_seq ?_))
          refine runs_steal (D.sl [] (some (51 : Nat))) (by kernel_rfl) (by kernel_rfl) ?_
          refine rv (D.lptr (2 : Nat) (0 : Nat)) ?_
          refine rv (D.sl (rows (l ++ Prod.fst K)) none) ?_
          refine runs_append ([]) (rows (l ++ Prod.fst K)) (rows (l ++ Prod.fst K)) (by kernel_rfl) (by kernel_rfl) (by kernel_rfl) (by simp [ints, eInt, rows, eInts, bools, eBool, trips, eTrip, i8s]) (by simp [ints, eInt, rows, eInts, bools, eBool, trips, eTrip, i8s, room]; omega) (List.nil_append _) ?_
          refine runs_assign (D.sl (rows (l ++ Prod.fst K)) (some (51 : Nat))) (by kernel_rfl) (by kernel_rfl) ?_
          refine k_done (k_skip_seq (k_seq ?_))
          refine rv (D.int IntKind.i64 (Prod.fst (Prod.snd K) + (1 : Int))) ?_
          refine rv (D.sl [[D.int IntKind.i64 (Prod.fst (Prod.snd K) + (1 : Int))]] (some (3 : Nat))) ?_
          refine runs_assign (D.sl [[D.int IntKind.i64 (Prod.fst (Prod.snd K) + (1 : Int))]] (some (3 : Nat))) (by kernel_rfl) (by kernel_rfl) ?_
          refine k_done (k_skip_seq (k_seq (k_seq ?_)))
          refine rv (D.lptr (3 : Nat) (0 : Nat)) ?_
          refine rv (D.int IntKind.i64 (Fm.op f)) ?_
          refine rv (D.bool (Fm.op f == (6 : Int))) ?_
          refine k_done (k_skip_seq ?_)
          refine rkn 71 (Fm.op f == (6 : Int)) true (decide_eq_true (by assumption)) ?_
          refine kct ?_
          refine rv (D.int IntKind.i64 (Prod.fst (Prod.snd K) + (1 : Int))) ?_
          refine rve (D.int IntKind.i64 (IntKind.wrap IntKind.i64 ((0 : Int) - (Prod.fst (Prod.snd K) + (1 : Int))))) (.int IntKind.i64 ((0 : Int) - (Prod.fst (Prod.snd K) + (1 : Int)))) (congrArg (D.int IntKind.i64) (show IntKind.wrap IntKind.i64 ((0 : Int) - (Prod.fst (Prod.snd K) + (1 : Int))) = ((0 : Int) - (Prod.fst (Prod.snd K) + (1 : Int))) from wrap_eq (by omega) (by omega) (by omega))) ?_
          refine rv (D.sl [[D.int IntKind.i64 ((0 : Int) - (Prod.fst (Prod.snd K) + (1 : Int)))]] (some (3 : Nat))) ?_
          refine runs_assign (D.sl [[D.int IntKind.i64 ((0 : Int) - (Prod.fst (Prod.snd K) + (1 : Int)))]] (some (3 : Nat))) (by kernel_rfl) (by kernel_rfl) ?_
          refine k_done (k_skip_seq (k_seq (k_seq ?_)))
          refine rv (D.int IntKind.i64 (0 : Int)) ?_
          refine k_done (k_skip_seq (k_block ?_))
          refine k_loop (fun j : Nat => f46b f l n (l ++ K.1) (K.2.1 + 1) K.2.2 f.kids.length (l ++ K.1 ++ pairG (fun k => [K.2.1 + 1, 0 - k]) K.2.2 j) (wholeG (0 - (K.2.1 + 1)) (fun k => k) K.2.2 j) j) (fun j => []) (fun j => j ≤ K.2.2.length) (fun j => K.2.2.length - j) 0 (by simp only [pairG, wholeG, List.take_zero, List.map_nil, List.append_nil]; kernel_rfl) rfl (by simp) (by intro s hs; omega) ?_
          intro j hj
          have hpl := pairG_len (fun k => [K.2.1 + 1, 0 - k]) K.2.2 j
          have hwl := wholeG_len (0 - (K.2.1 + 1)) (fun k => k) K.2.2 j
          by_cases hlt : j < K.2.2.length
          · have hv := a5 K.2.2[j] (List.getElem_mem hlt)
            have hw := wholeG_next (0 - (K.2.1 + 1)) (fun k => k) hlt
            have hp := pairG_next (fun k => [K.2.1 + 1, 0 - k]) hlt
            generalize pairG (fun k => [K.2.1 + 1, 0 - k]) K.2.2 j = P at *
            generalize wholeG (0 - (K.2.1 + 1)) (fun k => k) K.2.2 j = W at *
            refine k_seq (k_seq ?_)
            refine rv (D.int IntKind.i64 (↑j : Int)) ?_
            refine rv (D.sl (ints (Prod.snd (Prod.snd K))) none) ?_
            refine rve (D.int IntKind.i64 (↑(List.length (ints (Prod.snd (Prod.snd K)))) : Int)) (.int IntKind.i64 ((↑(List.length (Prod.snd (Prod.snd K))) : Int))) (by simp only [ints, eInt, rows, eInts, bools, eBool, trips, eTrip, i8s, List.length_map]) ?_
            refine rv (D.bool (decide ((↑j : Int) < (↑(List.length (Prod.snd (Prod.snd K))) : Int)))) ?_
            refine k_done (k_skip_seq ?_)
            refine rkn 78 (decide ((↑j : Int) < (↑(List.length (Prod.snd (Prod.snd K))) : Int))) true (decide_eq_true (by omega)) ?_
            refine kct (k_skip_seq (k_seq (k_block (k_seq ?_))))
            refine rv (D.lptr (3 : Nat) (0 : Nat)) ?_
            refine rv (D.int IntKind.i64 (Fm.op f)) ?_
            refine rv (D.bool (Fm.op f == (5 : Int))) ?_
            refine k_done (k_skip_seq ?_)
            refine rkn 83 (Fm.op f == (5 : Int)) false (decide_eq_false (by omega)) ?_
            refine kcf (k_seq ?_)
            refine runs_steal (D.sl (rows (l ++ Prod.fst K ++ P)) (some (51 : Nat))) (by kernel_rfl) (by kernel_rfl) ?_
            refine rv (D.int IntKind.i64 (Prod.fst (Prod.snd K) + (1 : Int))) ?_
            refine rv (D.sl (ints (Prod.snd (Prod.snd K))) none) ?_
            refine rv (D.int IntKind.i64 (↑j : Int)) ?_
            refine runs_index (Prod.snd (Prod.snd K)) (eInt) (o := none) (kd := IntKind.i64) (j) (by kernel_rfl) (by kernel_rfl) (by kernel_rfl) (by assumption) (by kernel_rfl) ?_
            refine rv (D.int IntKind.i64 (Prod.snd (Prod.snd K))[j]) ?_
            refine rve (D.int IntKind.i64 (IntKind.wrap IntKind.i64 ((0 : Int) - (Prod.snd (Prod.snd K))[j]))) (.int IntKind.i64 ((0 : Int) - (Prod.snd (Prod.snd K))[j])) (congrArg (D.int IntKind.i64) (show IntKind.wrap IntKind.i64 ((0 : Int) - (Prod.snd (Prod.snd K))[j]) = ((0 : Int) - (Prod.snd (Prod.snd K))[j]) from wrap_eq (by omega) (by omega) (by omega))) ?_
            refine rv (D.sl [[D.int IntKind.i64 (Prod.fst (Prod.snd K) + (1 : Int))], [D.int IntKind.i64 ((0 : Int) - (Prod.snd (Prod.snd K))[j])]] (some (3 : Nat))) ?_
            refine rv (D.sl [[D.sl [[D.int IntKind.i64 (Prod.fst (Prod.snd K) + (1 : Int))], [D.int IntKind.i64 ((0 : Int) - (Prod.snd (Prod.snd K))[j])]] none]] (some (51 : Nat))) ?_
            refine runs_append (rows (l ++ Prod.fst K ++ P)) ([[D.sl [[D.int IntKind.i64 (Prod.fst (Prod.snd K) + (1 : Int))], [D.int IntKind.i64 ((0 : Int) - (Prod.snd (Prod.snd K))[j])]] none]]) (rows (l ++ Prod.fst K ++ P ++ [[Prod.fst (Prod.snd K) + (1 : Int), (0 : Int) - (Prod.snd (Prod.snd K))[j]]])) (by kernel_rfl) (by kernel_rfl) (by kernel_rfl) (by kernel_rfl) (by simp [ints, eInt, rows, eInts, bools, eBool, trips, eTrip, i8s, room]; omega) (by simp [ints, eInt, rows, eInts, bools, eBool, trips, eTrip, i8s]) ?_
            refine runs_assign (D.sl (rows (l ++ Prod.fst K ++ P ++ [[Prod.fst (Prod.snd K) + (1 : Int), (0 : Int) - (Prod.snd (Prod.snd K))[j]]])) (some (51 : Nat))) (by kernel_rfl) (by kernel_rfl) ?_
            refine k_done (k_skip_seq ?_)
            refine runs_steal (D.sl (ints W) (some (3 : Nat))) (by kernel_rfl) (by kernel_rfl) ?_
            refine rv (D.sl (ints (Prod.snd (Prod.snd K))) none) ?_
            refine rv (D.int IntKind.i64 (↑j : Int)) ?_
            refine runs_index (Prod.snd (Prod.snd K)) (eInt) (o := none) (kd := IntKind.i64) (j) (by kernel_rfl) (by kernel_rfl) (by kernel_rfl) (by assumption) (by kernel_rfl) ?_
            refine rv (D.int IntKind.i64 (Prod.snd (Prod.snd K))[j]) ?_
            refine rv (D.sl [[D.int IntKind.i64 (Prod.snd (Prod.snd K))[j]]] (some (3 : Nat))) ?_
            refine runs_append (ints W) ([[D.int IntKind.i64 (Prod.snd (Prod.snd K))[j]]]) (ints (W ++ [(Prod.snd (Prod.snd K))[j]])) (by kernel_rfl) (by kernel_rfl) (by kernel_rfl) (by kernel_rfl) (by simp [ints, eInt, rows, eInts, bools, eBool, trips, eTrip, i8s, room]; omega) (by simp [ints, eInt, rows, eInts, bools, eBool, trips, eTrip, i8s]) ?_
            refine runs_assign (D.sl (ints (W ++ [(Prod.snd (Prod.snd K))[j]])) (some (3 : Nat))) (by kernel_rfl) (by kernel_rfl) ?_
            refine k_done (k_skip_block (k_skip_seq ?_))
            refine rv (D.int IntKind.i64 (↑j : Int)) ?_
            refine rve (D.int IntKind.i64 (IntKind.wrap IntKind.i64 ((↑j : Int) + (1 : Int)))) (.int IntKind.i64 ((j + 1 : Nat) : Int)) (congrArg (D.int IntKind.i64) (show IntKind.wrap IntKind.i64 ((↑j : Int) + (1 : Int)) = ((j + 1 : Nat) : Int) from wrap_eq (by omega) (by omega) (by omega))) ?_
            refine ra0 (D.int IntKind.i64 (↑(j + (1 : Nat)) : Int)) ?_
            refine k_done (k_skip_back ?_)
            exact ⟨j + 1, hlt, by omega, by rw [hw, hp, ← List.append_assoc]; kernel_rfl, rfl⟩
          · obtain rfl : j = K.2.2.length := by omega
            have hg := gate_or (K.2.1 + 1) K.2.2
            rw [hg]
            generalize pairG (fun k => [K.2.1 + 1, 0 - k]) K.2.2 K.2.2.length = P at *
            generalize wholeG (0 - (K.2.1 + 1)) (fun k => k) K.2.2 K.2.2.length = W at *
            refine k_seq (k_seq ?_)
            refine rv (D.int IntKind.i64 (↑(List.length (Prod.snd (Prod.snd K))) : Int)) ?_
            refine rv (D.sl (ints (Prod.snd (Prod.snd K))) none) ?_
            refine rve (D.int IntKind.i64 (↑(List.length (ints (Prod.snd (Prod.snd K)))) : Int)) (.int IntKind.i64 ((↑(List.length (Prod.snd (Prod.snd K))) : Int))) (by simp only [ints, eInt, rows, eInts, bools, eBool, trips, eTrip, i8s, List.length_map]) ?_
            refine rv (D.bool (decide ((↑(List.length (Prod.snd (Prod.snd K))) : Int) < (↑(List.length (Prod.snd (Prod.snd K))) : Int)))) ?_
            refine k_done (k_skip_seq ?_)
            refine rkn 78 (decide ((↑(List.length (Prod.snd (Prod.snd K))) : Int) < (↑(List.length (Prod.snd (Prod.snd K))) : Int))) false (decide_eq_false (by omega)) ?_
            refine kcf (k_exit_seq (k_exit_back (k_exit_hit rfl (k_skip_seq (k_seq ?_)))))
            refine runs_steal (D.sl (rows (l ++ Prod.fst K ++ P)) (some (51 : Nat))) (by kernel_rfl) (by kernel_rfl) ?_
            refine rv (D.sl (ints W) none) ?_
            refine rv (D.sl [[D.sl (ints W) none]] (some (51 : Nat))) ?_
            refine runs_append (rows (l ++ Prod.fst K ++ P)) ([[D.sl (ints W) none]]) (rows (l ++ Prod.fst K ++ P ++ [W])) (by kernel_rfl) (by kernel_rfl) (by kernel_rfl) (by kernel_rfl) (by simp [ints, eInt, rows, eInts, bools, eBool, trips, eTrip, i8s, room]; omega) (by simp [ints, eInt, rows, eInts, bools, eBool, trips, eTrip, i8s]) ?_
            refine rv (D.lptr (2 : Nat) (0 : Nat)) ?_
            refine rgf (D.junk) ([]) ?_
            refine k_done (k_skip_seq (k_seq ?_))
            refine rv (D.agg [D.sl (rows (l ++ Prod.fst K ++ P ++ [W])) none, D.int IntKind.i64 (Prod.fst (Prod.snd K) + (1 : Int))]) ?_
            refine rv (D.int IntKind.i64 (Prod.fst (Prod.snd K) + (1 : Int))) ?_
            refine rgf (D.junk) ([]) ?_
            refine ra0 (D.int IntKind.i64 (Prod.fst (Prod.snd K) + (1 : Int))) ?_
            refine k_done (k_skip_seq (k_ret ?_))
            refine ⟨.inr rfl, by kernel_rfl, ?_⟩
            have hst : l ++ (K.1 ++ (P ++ [W])) = l ++ K.1 ++ P ++ [W] := by simp only [List.append_assoc]
            rw [hst]
            show _ = _
            kernel_rfl
      · have hsgn : sgn f.op = 1 := by unfold sgn; simp [c6]
        rw [hsgn] at e
        rw [e]
        refine k_seq ?_
        refine rgf (D.lptr (2 : Nat) (0 : Nat)) ([]) ?_
        refine rgf (D.lptr (3 : Nat) (0 : Nat)) ([]) ?_
        refine rgf (D.lptr (4 : Nat) (0 : Nat)) ([]) ?_
        refine rv (D.int IntKind.i64 (0 : Int)) ?_
        refine k_done (k_skip_seq (k_seq (k_seq ?_)))
        refine rv (D.lptr (3 : Nat) (0 : Nat)) ?_
        refine rv (D.int IntKind.i64 (Fm.op f)) ?_
        refine rv (D.bool (Fm.op f == (3 : Int))) ?_
        refine k_done (k_skip_seq ?_)
        refine rkn 17 (Fm.op f == (3 : Int)) false (decide_eq_false (by assumption)) ?_
        refine kcf (k_skip_seq (k_seq (k_seq ?_)))
        refine rv (D.lptr (3 : Nat) (0 : Nat)) ?_
        refine rv (D.int IntKind.i64 (Fm.op f)) ?_
        refine rv (D.bool (Fm.op f == (4 : Int))) ?_
        refine k_done (k_skip_seq ?_)
        refine rkn 23 (Fm.op f == (4 : Int)) false (decide_eq_false (by assumption)) ?_
        refine kcf (k_skip_seq (k_seq ?_))
        refine rv (D.sl [] (some (3 : Nat))) ?_
        refine k_done (k_skip_seq (k_seq (k_seq ?_)))
        refine rv (D.int IntKind.i64 (0 : Int)) ?_
        refine k_done (k_skip_seq (k_block ?_))
        refine k_loop (fun i : Nat => f46a f l n (l ++ (kidsR (litR d) (f.kids.take i) n).1) (kidsR (litR d) (f.kids.take i) n).2.1 (kidsR (litR d) (f.kids.take i) n).2.2 i) (fun i => []) (fun i => i ≤ f.kids.length) (fun i => f.kids.length - i) 0 (by rw [List.take_zero]; simp only [kidsR, List.append_nil]; kernel_rfl) rfl (by simp) (by intro s hs; omega) ?_
        intro i hi
        by_cases hlt : i < f.kids.length
        · have hg := kid_at hlt
          have hnt := nodesL_take hlt
          have hmem := List.getElem_mem hlt
          have o := kids_OK (g := litR d) (f.kids.take i) n hB (fun k hk' n hB => lit_OK B h0 d k n (hk k (List.mem_of_mem_take hk')) (hlk k (List.mem_of_mem_take hk')) hB)
          have hnext := kidsR_take (litR d) n hlt
          have a1 := o.up
          have a2 := o.top
          have a3 := o.num
          have a4 := o.len
          rw [List.length_take, Nat.min_eq_left hi] at a4
          have hcall := ih f.kids[i] (l ++ (kidsR (litR d) (f.kids.take i) n).1) (kidsR (litR d) (f.kids.take i) n).2.1 N (hk _ hmem) (hlk _ hmem) (by omega) (by omega) (by rw [List.length_append]; omega) (by omega)
          generalize kidsR (litR d) (f.kids.take i) n = K at *
          generalize litR d f.kids[i] K.2.1 = r at *
          refine k_seq (k_seq ?_)
          refine rv (D.int IntKind.i64 (↑i : Int)) ?_
          refine rv (D.lptr (3 : Nat) (2 : Nat)) ?_
          refine rv (D.sl (eFs (Fm.kids f)) none) ?_
          refine rve (D.int IntKind.i64 (↑(List.length (eFs (Fm.kids f))) : Int)) (.int IntKind.i64 ((↑(List.length (Fm.kids f)) : Int))) (by simp only [eFs_length]) ?_
          refine rv (D.bool (decide ((↑i : Int) < (↑(List.length (Fm.kids f)) : Int)))) ?_
          refine k_done (k_skip_seq ?_)
          refine rkn 40 (decide ((↑i : Int) < (↑(List.length (Fm.kids f)) : Int))) true (decide_eq_true (by omega)) ?_
          refine kct (k_skip_seq (k_seq (k_block (k_seq ?_))))
          refine rv (D.int IntKind.i64 (0 : Int)) ?_
          refine k_done (k_skip_seq (k_seq ?_))
          refine rv (D.agg [D.sl (rows (l ++ Prod.fst K)) none, D.int IntKind.i64 (Prod.fst (Prod.snd K))]) ?_
          refine rv (D.lptr (3 : Nat) (2 : Nat)) ?_
          refine rv (D.sl (eFs (Fm.kids f)) none) ?_
          refine rv (D.int IntKind.i64 (↑i : Int)) ?_
          refine runs_indexL (eFs (Fm.kids f)) (o := none) (kd := IntKind.i64) (i) _ (by kernel_rfl) (by kernel_rfl) (by kernel_rfl) (by assumption) (by kernel_rfl) ?_
          refine rv (D.agg [D.int IntKind.i64 (Fm.op (Fm.kids f)[i]), D.int IntKind.i64 (Fm.n (Fm.kids f)[i]), D.sl (eFs (Fm.kids (Fm.kids f)[i])) none]) ?_
          refine runs_call ([D.agg [D.sl (rows (l ++ Prod.fst K)) none, D.int IntKind.i64 (Prod.fst (Prod.snd K))], D.agg [D.int IntKind.i64 (Fm.op (Fm.kids f)[i]), D.int IntKind.i64 (Fm.n (Fm.kids f)[i]), D.sl (eFs (Fm.kids (Fm.kids f)[i])) none]]) (by kernel_rfl) (by kernel_rfl) (by kernel_rfl) (by kernel_rfl) (hcall) (by kernel_rfl) ?_
          refine rv (D.tup [D.agg [D.sl (rows (l ++ Prod.fst K ++ Prod.fst r)) none, D.int IntKind.i64 (Prod.fst (Prod.snd r))], D.int IntKind.i64 (Prod.snd (Prod.snd r))]) ?_
          refine rv (D.agg [D.sl (rows (l ++ Prod.fst K ++ Prod.fst r)) none, D.int IntKind.i64 (Prod.fst (Prod.snd r))]) ?_
          refine rv (D.int IntKind.i64 (Prod.snd (Prod.snd r))) ?_
          refine rgf (D.junk) ([]) ?_
          refine ra0 (D.int IntKind.i64 (Prod.snd (Prod.snd r))) ?_
          refine k_done (k_skip_seq ?_)
          refine runs_steal (D.sl (ints (Prod.snd (Prod.snd K))) (some (3 : Nat))) (by kernel_rfl) (by kernel_rfl) ?_
          refine rv (D.int IntKind.i64 (Prod.snd (Prod.snd r))) ?_
          refine rv (D.sl [[D.int IntKind.i64 (Prod.snd (Prod.snd r))]] (some (3 : Nat))) ?_
          refine runs_append (ints (Prod.snd (Prod.snd K))) ([[D.int IntKind.i64 (Prod.snd (Prod.snd r))]]) (ints (Prod.snd (Prod.snd K) ++ [Prod.snd (Prod.snd r)])) (by kernel_rfl) (by kernel_rfl) (by kernel_rfl) (by kernel_rfl) (by simp [ints, eInt, rows, eInts, bools, eBool, trips, eTrip, i8s, room]; omega) (by simp [ints, eInt, rows, eInts, bools, eBool, trips, eTrip, i8s]) ?_
          refine runs_assign (D.sl (ints (Prod.snd (Prod.snd K) ++ [Prod.snd (Prod.snd r)])) (some (3 : Nat))) (by kernel_rfl) (by kernel_rfl) ?_
          refine k_done (k_skip_block (k_skip_seq ?_))
          refine rv (D.int IntKind.i64 (↑i : Int)) ?_
          refine rve (D.int IntKind.i64 (IntKind.wrap IntKind.i64 ((↑i : Int) + (1 : Int)))) (.int IntKind.i64 ((i + 1 : Nat) : Int)) (congrArg (D.int IntKind.i64) (show IntKind.wrap IntKind.i64 ((↑i : Int) + (1 : Int)) = ((i + 1 : Nat) : Int) from wrap_eq (by omega) (by omega) (by omega))) ?_
          refine ra0 (D.int IntKind.i64 (↑(i + (1 : Nat)) : Int)) ?_
          refine k_done (k_skip_back ?_)
          exact ⟨i + 1, hlt, by omega, by rw [hnext, ← List.append_assoc]; kernel_rfl, rfl⟩
        · obtain rfl : i = f.kids.length := by omega
          rw [List.take_length]
          have o := kids_OK (g := litR d) f.kids n hB (fun k hk' n hB => lit_OK B h0 d k n (hk k hk') (hlk k hk') hB)
          have a1 := o.up
          have a2 := o.top
          have a3 := o.num
          have a4 := o.len
          have a5 := o.vs
          generalize kidsR (litR d) f.kids n = K at *
          refine k_seq (k_seq ?_)
          refine rv (D.int IntKind.i64 (↑(List.length (Fm.kids f)) : Int)) ?_
          refine rv (D.lptr (3 : Nat) (2 : Nat)) ?_
          refine rv (D.sl (eFs (Fm.kids f)) none) ?_
          refine rve (D.int IntKind.i64 (↑(List.length (eFs (Fm.kids f))) : Int)) (.int IntKind.i64 ((↑(List.length (Fm.kids f)) : Int))) (by simp only [eFs_length]) ?_
          refine rv (D.bool (decide ((↑(List.length (Fm.kids f)) : Int) < (↑(List.length (Fm.kids f)) : Int)))) ?_
          refine k_done (k_skip_seq ?_)
          refine rkn 40 (decide ((↑(List.length (Fm.kids f)) : Int) < (↑(List.length (Fm.kids f)) : Int))) false (decide_eq_false (by omega)) ?_
          refine kcf (k_exit_seq (k_exit_back (k_exit_hit rfl (k_skip_seq (k_seq ?_)))))
          refine rv (D.lptr (2 : Nat) (1 : Nat)) ?_
          refine rv (D.int IntKind.i64 (Prod.fst (Prod.snd K))) ?_
          refine rve (D.int IntKind.i64 (IntKind.wrap IntKind.i64 (Prod.fst (Prod.snd K) + (1 : Int)))) (.int IntKind.i64 (Prod.fst (Prod.snd K) + (1 : Int))) (congrArg (D.int IntKind.i64) (show IntKind.wrap IntKind.i64 (Prod.fst (Prod.snd K) + (1 : Int)) = (Prod.fst (Prod.snd K) + (1 : Int)) from wrap_eq (by omega) (by omega) (by omega))) ?_
          refine rv (D.lptr (2 : Nat) (1 : Nat)) ?_
          refine rgf (D.junk) ([]) ?_
          refine k_done (k_skip_seq (k_seq ?_))
          refine rv (D.lptr (2 : Nat) (1 : Nat)) ?_
          refine rv (D.int IntKind.i64 (Prod.fst (Prod.snd K) + (1 : Int))) ?_
          refine ra0 (D.int IntKind.i64 (Prod.fst (Prod.snd K) + (1 : Int))) ?_
          refine k_done (k_skip_seq (k_seq ?_))
          refine rv (D.sl [] (some (51 : Nat))) ?_
          refine k_done (k_skip_seq (k_seq ?_))
          refine runs_steal (D.sl [] (some (51 : Nat))) (by kernel_rfl) (by kernel_rfl) ?_
          refine rv (D.lptr (2 : Nat) (0 : Nat)) ?_
          refine rv (D.sl (rows (l ++ Prod.fst K)) none) ?_
          refine runs_append ([]) (rows (l ++ Prod.fst K)) (rows (l ++ Prod.fst K)) (by kernel_rfl) (by kernel_rfl) (by kernel_rfl) (by simp [ints, eInt, rows, eInts, bools, eBool, trips, eTrip, i8s]) (by simp [ints, eInt, rows, eInts, bools, eBool, trips, eTrip, i8s, room]; omega) (List.nil_append _) ?_
          refine runs_assign (D.sl (rows (l ++ Prod.fst K)) (some (51 : Nat))) (by kernel_rfl) (by kernel_rfl) ?_
          refine k_done (k_skip_seq (k_seq ?_))
          refine rv (D.int IntKind.i64 (Prod.fst (Prod.snd K) + (1 : Int))) ?_
          refine rv (D.sl [[D.int IntKind.i64 (Prod.fst (Prod.snd K) + (1 : Int))]] (some (3 : Nat))) ?_
          refine runs_assign (D.sl [[D.int IntKind.i64 (Prod.fst (Prod.snd K) + (1 : Int))]] (some (3 : Nat))) (by kernel_rfl) (by kernel_rfl) ?_
          refine k_done (k_skip_seq (k_seq (k_seq ?_)))
          refine rv (D.lptr (3 : Nat) (0 : Nat)) ?_
          refine rv (D.int IntKind.i64 (Fm.op f)) ?_
          refine rv (D.bool (Fm.op f == (6 : Int))) ?_
          refine k_done (k_skip_seq ?_)
          refine rkn 71 (Fm.op f == (6 : Int)) false (decide_eq_false (by assumption)) ?_
          refine kcf (k_skip_seq (k_seq (k_seq ?_)))
          refine rv (D.int IntKind.i64 (0 : Int)) ?_
          refine k_done (k_skip_seq (k_block ?_))
          refine k_loop (fun j : Nat => f46b f l n (l ++ K.1) (K.2.1 + 1) K.2.2 f.kids.length (l ++ K.1 ++ pairG (fun k => [0 - (K.2.1 + 1), k]) K.2.2 j) (wholeG (K.2.1 + 1) (fun k => 0 - k) K.2.2 j) j) (fun j => []) (fun j => j ≤ K.2.2.length) (fun j => K.2.2.length - j) 0 (by simp only [pairG, wholeG, List.take_zero, List.map_nil, List.append_nil]; kernel_rfl) rfl (by simp) (by intro s hs; omega) ?_
          intro j hj
          have hpl := pairG_len (fun k => [0 - (K.2.1 + 1), k]) K.2.2 j
          have hwl := wholeG_len (K.2.1 + 1) (fun k => 0 - k) K.2.2 j
          by_cases hlt : j < K.2.2.length
          · have hv := a5 K.2.2[j] (List.getElem_mem hlt)
            have hw := wholeG_next (K.2.1 + 1) (fun k => 0 - k) hlt
            have hp := pairG_next (fun k => [0 - (K.2.1 + 1), k]) hlt
            generalize pairG (fun k => [0 - (K.2.1 + 1), k]) K.2.2 j = P at *
            generalize wholeG (K.2.1 + 1) (fun k => 0 - k) K.2.2 j = W at *
            refine k_seq (k_seq ?_)
            refine rv (D.int IntKind.i64 (↑j : Int)) ?_
            refine rv (D.sl (ints (Prod.snd (Prod.snd K))) none) ?_
            refine rve (D.int IntKind.i64 (↑(List.length (ints (Prod.snd (Prod.snd K)))) : Int)) (.int IntKind.i64 ((↑(List.length (Prod.snd (Prod.snd K))) : Int))) (by simp only [ints, eInt, rows, eInts, bools, eBool, trips, eTrip, i8s, List.length_map]) ?_
            refine rv (D.bool (decide ((↑j : Int) < (↑(List.length (Prod.snd (Prod.snd K))) : Int)))) ?_
            refine k_done (k_skip_seq ?_)
            refine rkn 78 (decide ((↑j : Int) < (↑(List.length (Prod.snd (Prod.snd K))) : Int))) true (decide_eq_true (by omega)) ?_
            refine kct (k_skip_seq (k_seq (k_block (k_seq ?_))))
            refine rv (D.lptr (3 : Nat) (0 : Nat)) ?_
            refine rv (D.int IntKind.i64 (Fm.op f)) ?_
            refine rv (D.bool (Fm.op f == (5 : Int))) ?_
            refine k_done (k_skip_seq ?_)
            refine rkn 83 (Fm.op f == (5 : Int)) true (decide_eq_true (by omega)) ?_
            refine kct (k_seq ?_)
            refine runs_steal (D.sl (rows (l ++ Prod.fst K ++ P)) (some (51 : Nat))) (by kernel_rfl) (by kernel_rfl) ?_
            refine rv (D.int IntKind.i64 (Prod.fst (Prod.snd K) + (1 : Int))) ?_
            refine rve (D.int IntKind.i64 (IntKind.wrap IntKind.i64 ((0 : Int) - (Prod.fst (Prod.snd K) + (1 : Int))))) (.int IntKind.i64 ((0 : Int) - (Prod.fst (Prod.snd K) + (1 : Int)))) (congrArg (D.int IntKind.i64) (show IntKind.wrap IntKind.i64 ((0 : Int) - (Prod.fst (Prod.snd K) + (1 : Int))) = ((0 : Int) - (Prod.fst (Prod.snd K) + (1 : Int))) from wrap_eq (by omega) (by omega) (by omega))) ?_
            refine rv (D.sl (ints (Prod.snd (Prod.snd K))) none) ?_
            refine rv (D.int IntKind.i64 (↑j : Int)) ?_
            refine runs_index (Prod.snd (Prod.snd K)) (eInt) (o := none) (kd := IntKind.i64) (j) (by kernel_rfl) (by kernel_rfl) (by kernel_rfl) (by assumption) (by kernel_rfl) ?_
            refine rv (D.int IntKind.i64 (Prod.snd (Prod.snd K))[j]) ?_
            refine rv (D.sl [[D.int IntKind.i64 ((0 : Int) - (Prod.fst (Prod.snd K) + (1 : Int)))], [D.int IntKind.i64 (Prod.snd (Prod.snd K))[j]]] (some (3 : Nat))) ?_
            refine rv (D.sl [[D.sl [[D.int IntKind.i64 ((0 : Int) - (Prod.fst (Prod.snd K) + (1 : Int)))], [D.int IntKind.i64 (Prod.snd (Prod.snd K))[j]]] none]] (some (51 : Nat))) ?_
            refine runs_append (rows (l ++ Prod.fst K ++ P)) ([[D.sl [[D.int IntKind.i64 ((0 : Int) - (Prod.fst (Prod.snd K) + (1 : Int)))], [D.int IntKind.i64 (Prod.snd (Prod.snd K))[j]]] none]]) (rows (l ++ Prod.fst K ++ P ++ [[(0 : Int) - (Prod.fst (Prod.snd K) + (1 : Int)), (Prod.snd (Prod.snd K))[j]]])) (by kernel_rfl) (by kernel_rfl) (by kernel_rfl) (by kernel_rfl) (by simp [ints, eInt, rows, eInts, bools, eBool, trips, eTrip, i8s, room]; omega) (by simp [ints, eInt, rows, eInts, bools, eBool, trips, eTrip, i8s]) ?_
            refine runs_assign (D.sl (rows (l ++ Prod.fst K ++ P ++ [[(0 : Int) - (Prod.fst (Prod.snd K) + (1 : Int)), (Prod.snd (Prod.snd K))[j]]])) (some (51 : Nat))) (by kernel_rfl) (by kernel_rfl) ?_
            refine k_done (k_skip_seq ?_)
            refine runs_steal (D.sl (ints W) (some (3 : Nat))) (by kernel_rfl) (by kernel_rfl) ?_
            refine rv (D.sl (ints (Prod.snd (Prod.snd K))) none) ?_
            refine rv (D.int IntKind.i64 (↑j : Int)) ?_
            refine runs_index (Prod.snd (Prod.snd K)) (eInt) (o := none) (kd := IntKind.i64) (j) (by kernel_rfl) (by kernel_rfl) (by kernel_rfl) (by assumption) (by kernel_rfl) ?_
            refine rv (D.int IntKind.i64 (Prod.snd (Prod.snd K))[j]) ?_
            refine rve (D.int IntKind.i64 (IntKind.wrap IntKind.i64 ((0 : Int) - (Prod.snd (Prod.snd K))[j]))) (.int IntKind.i64 ((0 : Int) - (Prod.snd (Prod.snd K))[j])) (congrArg (D.int IntKind.i64) (show IntKind.wrap IntKind.i64 ((0 : Int) - (Prod.snd (Prod.snd K))[j]) = ((0 : Int) - (Prod.snd (Prod.snd K))[j]) from wrap_eq (by omega) (by omega) (by omega))) ?_
            refine rv (D.sl [[D.int IntKind.i64 ((0 : Int) - (Prod.snd (Prod.snd K))[j])]] (some (3 : Nat))) ?_
            refine runs_append (ints W) ([[D.int IntKind.i64 ((0 : Int) - (Prod.snd (Prod.snd K))[j])]]) (ints (W ++ [(0 : Int) - (Prod.snd (Prod.snd K))[j]])) (by kernel_rfl) (by kernel_rfl) (by kernel_rfl) (by kernel_rfl) (by simp [ints, eInt, rows, eInts, bools, eBool, trips, eTrip, i8s, room]; omega) (by simp [ints, eInt, rows, eInts, bools, eBool, trips, eTrip, i8s]) ?_
            refine runs_assign (D.sl (ints (W ++ [(0 : Int) - (Prod.snd (Prod.snd K))[j]])) (some (3 : Nat))) (by kernel_rfl) (by kernel_rfl) ?_
            refine k_done (k_skip_block (k_skip_seq ?_))
            refine rv (D.int IntKind.i64 (↑j : Int)) ?_
            refine rve (D.int IntKind.i64 (IntKind.wrap IntKind.i64 ((↑j : Int) + (1 : Int)))) (.int IntKind.i64 ((j + 1 : Nat) : Int)) (congrArg (D.int IntKind.i64) (show IntKind.wrap IntKind.i64 ((↑j : Int) + (1 : Int)) = ((j + 1 : Nat) : Int) from wrap_eq (by omega) (by omega) (by omega))) ?_
            refine ra0 (D.int IntKind.i64 (↑(j + (1 : Nat)) : Int)) ?_
            refine k_done (k_skip_back ?_)
            exact ⟨j + 1, hlt, by omega, by rw [hw, hp, ← List.append_assoc]; kernel_rfl, rfl⟩
          · obtain rfl : j = K.2.2.length := by omega
            have hg := gate_and (K.2.1 + 1) K.2.2
            rw [hg]
            generalize pairG (fun k => [0 - (K.2.1 + 1), k]) K.2.2 K.2.2.length = P at *
            generalize wholeG (K.2.1 + 1) (fun k => 0 - k) K.2.2 K.2.2.length = W at *
            refine k_seq (k_seq ?_)
            refine rv (D.int IntKind.i64 (↑(List.length (Prod.snd (Prod.snd K))) : Int)) ?_
            refine rv (D.sl (ints (Prod.snd (Prod.snd K))) none) ?_
            refine rve (D.int IntKind.i64 (↑(List.length (ints (Prod.snd (Prod.snd K)))) : Int)) (.int IntKind.i64 ((↑(List.length (Prod.snd (Prod.snd K))) : Int))) (by simp only [ints, eInt, rows, eInts, bools, eBool, trips, eTrip, i8s, List.length_map]) ?_
            refine rv (D.bool (decide ((↑(List.length (Prod.snd (Prod.snd K))) : Int) < (↑(List.length (Prod.snd (Prod.snd K))) : Int)))) ?_
            refine k_done (k_skip_seq ?_)
            refine rkn 78 (decide ((↑(List.length (Prod.snd (Prod.snd K))) : Int) < (↑(List.length (Prod.snd (Prod.snd K))) : Int))) false (decide_eq_false (by omega)) ?_
            refine kcf (k_exit_seq (k_exit_back (k_exit_hit rfl (k_skip_seq (k_seq ?_)))))
            refine runs_steal (D.sl (rows (l ++ Prod.fst K ++ P)) (some (51 : Nat))) (by kernel_rfl) (by kernel_rfl) ?_
            refine rv (D.sl (ints W) none) ?_
            refine rv (D.sl [[D.sl (ints W) none]] (some (51 : Nat))) ?_
            refine runs_append (rows (l ++ Prod.fst K ++ P)) ([[D.sl (ints W) none]]) (rows (l ++ Prod.fst K ++ P ++ [W])) (by kernel_rfl) (by kernel_rfl) (by kernel_rfl) (by kernel_rfl) (by simp [ints, eInt, rows, eInts, bools, eBool, trips, eTrip, i8s, room]; omega) (by simp [ints, eInt, rows, eInts, bools, eBool, trips, eTrip, i8s]) ?_
            refine rv (D.lptr (2 : Nat) (0 : Nat)) ?_
            refine rgf (D.junk) ([]) ?_
            refine k_done (k_skip_seq (k_seq ?_))
            refine rv (D.agg [D.sl (rows (l ++ Prod.fst K ++ P ++ [W])) none, D.int IntKind.i64 (Prod.fst (Prod.snd K) + (1 : Int))]) ?_
            refine rv (D.int IntKind.i64 (Prod.fst (Prod.snd K) + (1 : Int))) ?_
            refine rgf (D.junk) ([]) ?_
            refine ra0 (D.int IntKind.i64 (Prod.fst (Prod.snd K) + (1 : Int))) ?_
            refine k_done (k_skip_seq (k_ret ?_))
            refine ⟨.inr rfl, by kernel_rfl, ?_⟩
            have hst : l ++ (K.1 ++ (P ++ [W])) = l ++ K.1 ++ P ++ [W] := by simp only [List.append_assoc]
            rw [hst]
            show _ = _
            kernel_rfl
end Go.Abs.A
