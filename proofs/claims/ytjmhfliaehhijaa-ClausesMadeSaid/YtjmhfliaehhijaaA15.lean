import Derived.Test.YtjmhfliaehhijaaKont
import Derived.Test.YtjmhfliaehhijaaA9
import Derived.Test.YtjmhfliaehhijaaA14
import Derived.Test.YtjmhfliaehhijaaTs
set_option linter.unusedVariables false
set_option linter.unusedSimpArgs false
/-
  The given program's clauses: put, literal, Of.
-/
namespace Go.Abs.A
open Go Go.Abs
set_option maxRecDepth 8000
attribute [local irreducible] callN runC evalOp

/-- The maker. -/
def MK (l : List (List Int)) (n : Int) : Obj := .cells [.sl (rows l) (some 51), .int .i64 n]
theorem put_ok (n : Nat) (l : List (List Int)) (last : Int) (c : List Int) (o : Option Nat) (hl : l.length ≤ 100000) : callN T (n + 1) 44 [.ptr 0 0, .sl (ints c) o] [MK l last] = some (.tup [], [MK (l ++ [c]) last]) := by
  refine call_of (m := m44) rfl rfl (by decide) (k_start ?_)
  unfold m44
  refine rv (D.ptr (0 : Nat) (0 : Nat)) ?_
  refine rv (D.ptr (0 : Nat) (0 : Nat)) ?_
  refine rv (D.ptr (0 : Nat) (0 : Nat)) ?_
  refine rv (D.ptr (0 : Nat) (0 : Nat)) ?_
  refine rgs (D.sl (rows l) (some (51 : Nat))) ([Obj.cells [D.sl (rows l) none, D.int IntKind.i64 last]]) ?_
  refine rv (D.sl (ints c) none) ?_
  refine rv (D.sl [[D.sl (ints c) none]] (some (51 : Nat))) ?_
  refine runs_append (rows l) ([[D.sl (ints c) none]]) (rows (l ++ [c])) (by kernel_rfl) (by kernel_rfl) (by kernel_rfl) (by kernel_rfl) (by simp [ints, eInt, rows, eInts, bools, eBool, trips, eTrip, room]; omega) (by simp [ints, eInt, rows, eInts, bools, eBool, trips, eTrip]) ?_
  refine rv (D.ptr (0 : Nat) (0 : Nat)) ?_
  refine rv (D.ptr (0 : Nat) (0 : Nat)) ?_
  refine rgf (D.junk) ([Obj.cells [D.sl (rows (l ++ [c])) (some (51 : Nat)), D.int IntKind.i64 last]]) ?_
  refine k_done (k_skip_nil ?_)
  exact ⟨.inl rfl, by kernel_rfl, by kernel_rfl⟩
theorem nodesL_append : ∀ (a b : List Fm), nodesL (a ++ b) = nodesL a + nodesL b
  | [], b => by simp [nodesL]
  | x :: a, b => by simp only [List.cons_append, nodesL, nodesL_append a b]; omega
theorem nodesL_take {l : List Fm} {i : Nat} (h : i < l.length) : nodesL (l.take i) + nodes l[i] ≤ nodesL l := by
  have h1 : nodesL (l.take (i + 1)) = nodesL (l.take i) + nodes l[i] := by
    rw [List.take_succ_eq_append_getElem h, nodesL_append]
    simp [nodesL]
  have h2 : nodesL l = nodesL (l.take (i + 1)) + nodesL (l.drop (i + 1)) := by rw [← nodesL_append, List.take_append_drop]
  omega
theorem kidsR_take (g : Fm → Int → LR) {ks : List Fm} {i : Nat} (n : Int) (h : i < ks.length) : kidsR g (ks.take (i + 1)) n = ((kidsR g (ks.take i) n).1 ++ (g ks[i] (kidsR g (ks.take i) n).2.1).1, (g ks[i] (kidsR g (ks.take i) n).2.1).2.1, (kidsR g (ks.take i) n).2.2 ++ [(g ks[i] (kidsR g (ks.take i) n).2.1).2.2]) := by
  rw [List.take_succ_eq_append_getElem h, kidsR_snoc]
def wholeL (a b : Int) (ks : List Int) (j : Nat) : List Int := a :: (ks.take j).map fun k => b * k
def pairL (a b : Int) (ks : List Int) (j : Nat) : List (List Int) := (ks.take j).map fun k => [a, b * k]
theorem wholeL_next (a b : Int) {ks : List Int} {j : Nat} (h : j < ks.length) : wholeL a b ks (j + 1) = wholeL a b ks j ++ [b * ks[j]] := by
  simp only [wholeL, List.take_succ_eq_append_getElem h, List.map_append, List.map_cons, List.map_nil, List.cons_append]
theorem pairL_next (a b : Int) {ks : List Int} {j : Nat} (h : j < ks.length) : pairL a b ks (j + 1) = pairL a b ks j ++ [[a, b * ks[j]]] := by
  simp only [pairL, List.take_succ_eq_append_getElem h, List.map_append, List.map_cons, List.map_nil]
theorem pairL_len (a b : Int) (ks : List Int) (j : Nat) : (pairL a b ks j).length ≤ ks.length := by
  simp only [pairL, List.length_map, List.length_take]
  omega
theorem wholeL_len (a b : Int) (ks : List Int) (j : Nat) : (wholeL a b ks j).length ≤ ks.length + 1 := by
  simp only [wholeL, List.length_map, List.length_take, List.length_cons]
  omega
theorem gate_eq (s v : Int) (ks : List Int) : gate s v ks = pairL ((0 - s) * v) s ks ks.length ++ [wholeL (s * v) (0 - s) ks ks.length] := by
  simp only [gate, pairL, wholeL, List.take_length]
def f45b (f : Fm) (s : Int) (ks : List Int) (v : Int) (w : List Int) (j : Int) : Fr := Fr.mk ([.ptr 0 0, .agg (eF f), .junk, .junk, .int .i64 0, .int .i64 s, .sl (ints ks) (some 3), .junk, .junk, .int .i64 v, .sl (ints w) (some 3)] ++ List.replicate 21 .junk ++ [.sl (eFs f.kids) none, .int .i64 f.kids.length, .int .i64 f.kids.length] ++ List.replicate 25 .junk ++ [.sl (ints ks) none, .int .i64 ks.length, .int .i64 j] ++ List.replicate 25 .junk) (List.replicate 88 none) []
def f45a (f : Fm) (s : Int) (ks : List Int) (i : Int) : Fr := Fr.mk ([.ptr 0 0, .agg (eF f), .junk, .junk, .int .i64 0, .int .i64 s, .sl (ints ks) (some 3)] ++ List.replicate 25 .junk ++ [.sl (eFs f.kids) none, .int .i64 f.kids.length, .int .i64 i] ++ List.replicate 53 .junk) (List.replicate 88 none) []
theorem literal_ok (B : Int) (h0 : 0 ≤ B) : ∀ (d : Nat) (f : Fm) (l : List (List Int)) (n : Int) (N : Nat), nf d f → lowF B f → B ≤ n → n + nodes f ≤ 1000000 → l.length + 2 * nodes f ≤ 90000 → d + 70 ≤ N →
    callN T N 45 [.ptr 0 0, .agg (eF f)] [MK l n] = some (.int .i64 (litR d f n).2.2, [MK (l ++ (litR d f n).1) (litR d f n).2.1]) := by
  intro d
  induction d with
  | zero => intro f l n N h; exact h.elim
  | succ d ih =>
    intro f l n N h hl hB hn hln hN
    obtain ⟨N, rfl⟩ : ∃ m, N = m + 1 := ⟨N - 1, by omega⟩
    have hnf := h
    have hnod := nodes_eq f
    have hl' := (lowF_eq B f).1 hl
    have hlk := (lowL_iff B _).1 hl'.2
    refine call_of (m := m45) rfl rfl (by decide) (k_start ?_)
    unfold m45
    rcases h with ⟨h3, hk, h1, h2⟩ | ⟨h4, _, x, hk, hx, _⟩ | ⟨h5, _, _, h60, hk⟩
    · have e : litR (d + 1) f n = ([], n, f.n) := if_pos h3
      rw [e, List.append_nil]
      refine k_seq ?_
      refine rgf (D.lptr (3 : Nat) (0 : Nat)) ([Obj.cells [D.sl (rows l) (some (51 : Nat)), D.int IntKind.i64 n]]) ?_
      refine rv (D.int IntKind.i64 (0 : Int)) ?_
      refine k_done (k_skip_seq (k_seq (k_seq ?_)))
      refine rv (D.lptr (3 : Nat) (0 : Nat)) ?_
      refine rv (D.int IntKind.i64 (Fm.op f)) ?_
      refine k_done (k_skip_seq (k_block (k_seq ?_)))
      refine rv (D.bool (Fm.op f == (3 : Int))) ?_
      refine ra0 (D.bool (Fm.op f == (3 : Int))) ?_
      refine k_done (k_skip_seq ?_)
      refine rkn 15 (Fm.op f == (3 : Int)) true (decide_eq_true (by assumption)) ?_
      refine kct (k_seq ?_)
      refine rv (D.lptr (3 : Nat) (1 : Nat)) ?_
      refine rv (D.int IntKind.i64 (Fm.n f)) ?_
      refine ra0 (D.int IntKind.i64 (Fm.n f)) ?_
      refine k_done (k_skip_seq (k_ret ?_))
      exact ⟨.inr rfl, by kernel_rfl, by kernel_rfl⟩
    · have e : litR (d + 1) f n = ((litR d x n).1, (litR d x n).2.1, 0 - (litR d x n).2.2) := by
        show (if f.op = 3 then _ else if f.op = 4 then _ else _) = _
        rw [if_neg (by omega), if_pos h4, hk]
      have hg := kid0_get hk
      have h3 : ¬ f.op = 3 := by omega
      rw [hk] at hnod
      simp only [nodesL] at hnod
      have hcall := ih x l n N hx (hlk x (by rw [hk]; simp)) hB (by omega) (by omega) (by omega)
      have o := lit_OK B h0 d x n hx (hlk x (by rw [hk]; simp)) hB
      have a1 := o.lo
      have a2 := o.hi
      have a3 := o.top
      rw [e]
      generalize litR d x n = r at *
      refine k_seq ?_
      refine rgf (D.lptr (3 : Nat) (0 : Nat)) ([Obj.cells [D.sl (rows l) (some (51 : Nat)), D.int IntKind.i64 n]]) ?_
      refine rv (D.int IntKind.i64 (0 : Int)) ?_
      refine k_done (k_skip_seq (k_seq (k_seq ?_)))
      refine rv (D.lptr (3 : Nat) (0 : Nat)) ?_
      refine rv (D.int IntKind.i64 (Fm.op f)) ?_
      refine k_done (k_skip_seq (k_block (k_seq ?_)))
      refine rv (D.bool (Fm.op f == (3 : Int))) ?_
      refine ra0 (D.bool (Fm.op f == (3 : Int))) ?_
      refine k_done (k_skip_seq ?_)
      refine rkn 15 (Fm.op f == (3 : Int)) false (decide_eq_false (by assumption)) ?_
      refine kcf (k_seq ?_)
      refine rv (D.bool (Fm.op f == (4 : Int))) ?_
      refine ra0 (D.bool (Fm.op f == (4 : Int))) ?_
      refine k_done (k_skip_seq ?_)
      refine rkn 19 (Fm.op f == (4 : Int)) true (decide_eq_true (by assumption)) ?_
      refine kct (k_seq ?_)
      refine rv (D.ptr (0 : Nat) (0 : Nat)) ?_
      refine rv (D.lptr (3 : Nat) (2 : Nat)) ?_
      refine rv (D.sl (eFs (Fm.kids f)) none) ?_
      refine runs_indexL (eFs (Fm.kids f)) (o := none) (kd := IntKind.i64) (0) _ (by kernel_rfl) (by kernel_rfl) (by kernel_rfl) (by assumption) (by kernel_rfl) ?_
      refine rv (D.agg [D.int IntKind.i64 (Fm.op x), D.int IntKind.i64 (Fm.n x), D.sl (eFs (Fm.kids x)) none]) ?_
      refine runs_call_st ([D.ptr (0 : Nat) (0 : Nat), D.agg [D.int IntKind.i64 (Fm.op x), D.int IntKind.i64 (Fm.n x), D.sl (eFs (Fm.kids x)) none]]) (by kernel_rfl) (by kernel_rfl) (by kernel_rfl) (by kernel_rfl) (hcall) ?_
      refine rve (D.int IntKind.i64 (IntKind.wrap IntKind.i64 ((0 : Int) - Prod.snd (Prod.snd r)))) (.int IntKind.i64 ((0 : Int) - Prod.snd (Prod.snd r))) (congrArg (D.int IntKind.i64) (show IntKind.wrap IntKind.i64 ((0 : Int) - Prod.snd (Prod.snd r)) = ((0 : Int) - Prod.snd (Prod.snd r)) from wrap_eq (by omega) (by omega) (by omega))) ?_
      refine ra0 (D.int IntKind.i64 ((0 : Int) - Prod.snd (Prod.snd r))) ?_
      refine k_done (k_skip_seq (k_ret ?_))
      exact ⟨.inr rfl, by kernel_rfl, by kernel_rfl⟩
    · have e : litR (d + 1) f n = ((kidsR (litR d) f.kids n).1 ++ gate (sgn f.op) ((kidsR (litR d) f.kids n).2.1 + 1) (kidsR (litR d) f.kids n).2.2, (kidsR (litR d) f.kids n).2.1 + 1, (kidsR (litR d) f.kids n).2.1 + 1) := by
        show (if f.op = 3 then _ else if f.op = 4 then _ else _) = _
        rw [if_neg (by omega), if_neg (by omega)]
      have h3 : ¬ f.op = 3 := by omega
      have h4 : ¬ f.op = 4 := by omega
      by_cases c6 : f.op = 6
      · have hsgn : sgn f.op = (-1) := by unfold sgn; simp [c6]
        rw [hsgn] at e
        rw [e]
        refine k_seq ?_
        refine rgf (D.lptr (3 : Nat) (0 : Nat)) ([Obj.cells [D.sl (rows l) (some (51 : Nat)), D.int IntKind.i64 n]]) ?_
        refine rv (D.int IntKind.i64 (0 : Int)) ?_
        refine k_done (k_skip_seq (k_seq (k_seq ?_)))
        refine rv (D.lptr (3 : Nat) (0 : Nat)) ?_
        refine rv (D.int IntKind.i64 (Fm.op f)) ?_
        refine k_done (k_skip_seq (k_block (k_seq ?_)))
        refine rv (D.bool (Fm.op f == (3 : Int))) ?_
        refine ra0 (D.bool (Fm.op f == (3 : Int))) ?_
        refine k_done (k_skip_seq ?_)
        refine rkn 15 (Fm.op f == (3 : Int)) false (decide_eq_false (by assumption)) ?_
        refine kcf (k_seq ?_)
        refine rv (D.bool (Fm.op f == (4 : Int))) ?_
        refine ra0 (D.bool (Fm.op f == (4 : Int))) ?_
        refine k_done (k_skip_seq ?_)
        refine rkn 19 (Fm.op f == (4 : Int)) false (decide_eq_false (by assumption)) ?_
        refine kcf (k_skip_block (k_skip_seq (k_seq ?_)))
        refine rv (D.int IntKind.i64 (1 : Int)) ?_
        refine k_done (k_skip_seq (k_seq (k_seq ?_)))
        refine rv (D.lptr (3 : Nat) (0 : Nat)) ?_
        refine rv (D.int IntKind.i64 (Fm.op f)) ?_
        refine rv (D.bool (Fm.op f == (6 : Int))) ?_
        refine k_done (k_skip_seq ?_)
        refine rkn 30 (Fm.op f == (6 : Int)) true (decide_eq_true (by assumption)) ?_
        refine kct ?_
        refine rv (D.int IntKind.i64 (-1 : Int)) ?_
        refine k_done (k_skip_seq (k_seq ?_))
        refine rv (D.sl [] (some (3 : Nat))) ?_
        refine k_done (k_skip_seq (k_seq (k_seq ?_)))
        refine rv (D.lptr (3 : Nat) (2 : Nat)) ?_
        refine rv (D.sl (eFs (Fm.kids f)) none) ?_
        refine rve (D.int IntKind.i64 (↑(List.length (eFs (Fm.kids f))) : Int)) (.int IntKind.i64 ((↑(List.length (Fm.kids f)) : Int))) (by simp only [eFs_length]) ?_
        refine rv (D.int IntKind.i64 (0 : Int)) ?_
        refine k_done (k_skip_seq (k_block ?_))
        refine k_loop (fun i : Nat => f45a f (-1) (kidsR (litR d) (f.kids.take i) n).2.2 i) (fun i => [MK (l ++ (kidsR (litR d) (f.kids.take i) n).1) (kidsR (litR d) (f.kids.take i) n).2.1]) (fun i => i ≤ f.kids.length) (fun i => f.kids.length - i) 0 (by kernel_rfl) (by rw [List.take_zero]; simp [kidsR, MK]) (by simp) (by intro s hs; omega) ?_
        intro i hi
        by_cases hlt : i < f.kids.length
        · have hg := kid_at hlt
          have hnt := nodesL_take hlt
          have hmem := List.getElem_mem hlt
          have o := kids_OK (g := litR d) (f.kids.take i) n hB (fun k hk' n hB => lit_OK B h0 d k n (hk k (List.mem_of_mem_take hk')) (hlk k (List.mem_of_mem_take hk')) hB)
          have hnext := kidsR_take (litR d) n hlt
          have a1 := o.up
          have a2 := o.top
          have a3 := o.num
          have a4 := o.len
          rw [List.length_take, Nat.min_eq_left hi] at a4
          have hcall := ih f.kids[i] (l ++ (kidsR (litR d) (f.kids.take i) n).1) (kidsR (litR d) (f.kids.take i) n).2.1 N (hk _ hmem) (hlk _ hmem) (by omega) (by omega) (by rw [List.length_append]; omega) (by omega)
          generalize kidsR (litR d) (f.kids.take i) n = K at *
          generalize litR d f.kids[i] K.2.1 = r at *
          refine k_seq ?_
          refine rv (D.bool (decide ((↑i : Int) < (↑(List.length (Fm.kids f)) : Int)))) ?_
          refine k_done (k_skip_seq (k_seq ?_))
          refine rkn 35 (decide ((↑i : Int) < (↑(List.length (Fm.kids f)) : Int))) true (decide_eq_true (by omega)) ?_
          refine kct (k_skip_seq (k_seq (k_block (k_seq ?_))))
          refine runs_indexL (eFs (Fm.kids f)) (o := none) (kd := IntKind.i64) (i) _ (by kernel_rfl) (by kernel_rfl) (by kernel_rfl) (by assumption) (by kernel_rfl) ?_
          refine rv (D.agg [D.int IntKind.i64 (Fm.op (Fm.kids f)[i]), D.int IntKind.i64 (Fm.n (Fm.kids f)[i]), D.sl (eFs (Fm.kids (Fm.kids f)[i])) none]) ?_
          refine rgf (D.lptr (8 : Nat) (0 : Nat)) ([Obj.cells [D.sl (rows (l ++ Prod.fst K)) (some (51 : Nat)), D.int IntKind.i64 (Prod.fst (Prod.snd K))]]) ?_
          refine rgf (D.junk) ([Obj.cells [D.sl (rows (l ++ Prod.fst K)) (some (51 : Nat)), D.int IntKind.i64 (Prod.fst (Prod.snd K))]]) ?_
          refine k_done (k_skip_seq ?_)
          refine runs_steal (D.sl (ints (Prod.snd (Prod.snd K))) (some (3 : Nat))) (by kernel_rfl) (by kernel_rfl) ?_
          refine rv (D.ptr (0 : Nat) (0 : Nat)) ?_
          refine rv (D.agg [D.int IntKind.i64 (Fm.op (Fm.kids f)[i]), D.int IntKind.i64 (Fm.n (Fm.kids f)[i]), D.sl (eFs (Fm.kids (Fm.kids f)[i])) none]) ?_
          refine runs_call_st ([D.ptr (0 : Nat) (0 : Nat), D.agg [D.int IntKind.i64 (Fm.op (Fm.kids f)[i]), D.int IntKind.i64 (Fm.n (Fm.kids f)[i]), D.sl (eFs (Fm.kids (Fm.kids f)[i])) none]]) (by kernel_rfl) (by kernel_rfl) (by kernel_rfl) (by kernel_rfl) (hcall) ?_
          refine rv (D.sl [[D.int IntKind.i64 (Prod.snd (Prod.snd r))]] (some (3 : Nat))) ?_
          refine runs_append (ints (Prod.snd (Prod.snd K))) ([[D.int IntKind.i64 (Prod.snd (Prod.snd r))]]) (ints (Prod.snd (Prod.snd K) ++ [Prod.snd (Prod.snd r)])) (by kernel_rfl) (by kernel_rfl) (by kernel_rfl) (by kernel_rfl) (by simp [ints, eInt, rows, eInts, bools, eBool, trips, eTrip, room]; omega) (by simp [ints, eInt, rows, eInts, bools, eBool, trips, eTrip]) ?_
          refine runs_assign (D.sl (ints (Prod.snd (Prod.snd K) ++ [Prod.snd (Prod.snd r)])) (some (3 : Nat))) (by kernel_rfl) (by kernel_rfl) ?_
          refine k_done (k_skip_block (k_skip_seq ?_))
          refine rve (D.int IntKind.i64 (IntKind.wrap IntKind.i64 ((↑i : Int) + (1 : Int)))) (.int IntKind.i64 ((i + 1 : Nat) : Int)) (congrArg (D.int IntKind.i64) (show IntKind.wrap IntKind.i64 ((↑i : Int) + (1 : Int)) = ((i + 1 : Nat) : Int) from wrap_eq (by omega) (by omega) (by omega))) ?_
          refine rv (D.int IntKind.i64 (↑(i + (1 : Nat)) : Int)) ?_
          refine k_done (k_skip_back ?_)
          exact ⟨i + 1, hlt, by omega, by rw [hnext]; kernel_rfl, by rw [hnext, List.append_assoc]⟩
        · obtain rfl : i = f.kids.length := by omega
          rw [List.take_length]
          have o := kids_OK (g := litR d) f.kids n hB (fun k hk' n hB => lit_OK B h0 d k n (hk k hk') (hlk k hk') hB)
          have a1 := o.up
          have a2 := o.top
          have a3 := o.num
          have a4 := o.len
          have a5 := o.vs
          generalize kidsR (litR d) f.kids n = K at *
          obtain ⟨N, rfl⟩ : ∃ m, N = m + 1 := ⟨N - 1, by omega⟩
          refine k_seq ?_
          refine rv (D.bool (decide ((↑(List.length (Fm.kids f)) : Int) < (↑(List.length (Fm.kids f)) : Int)))) ?_
          refine k_done (k_skip_seq (k_seq ?_))
          refine rkn 35 (decide ((↑(List.length (Fm.kids f)) : Int) < (↑(List.length (Fm.kids f)) : Int))) false (decide_eq_false (by omega)) ?_
          refine kcf (k_exit_seq (k_exit_back (k_exit_hit rfl (k_skip_seq (k_seq ?_)))))
          refine rv (D.ptr (0 : Nat) (0 : Nat)) ?_
          refine rv (D.ptr (0 : Nat) (0 : Nat)) ?_
          refine rv (D.ptr (0 : Nat) (1 : Nat)) ?_
          refine rv (D.int IntKind.i64 (Prod.fst (Prod.snd K))) ?_
          refine rve (D.int IntKind.i64 (IntKind.wrap IntKind.i64 (Prod.fst (Prod.snd K) + (1 : Int)))) (.int IntKind.i64 (Prod.fst (Prod.snd K) + (1 : Int))) (congrArg (D.int IntKind.i64) (show IntKind.wrap IntKind.i64 (Prod.fst (Prod.snd K) + (1 : Int)) = (Prod.fst (Prod.snd K) + (1 : Int)) from wrap_eq (by omega) (by omega) (by omega))) ?_
          refine rv (D.ptr (0 : Nat) (0 : Nat)) ?_
          refine rv (D.ptr (0 : Nat) (1 : Nat)) ?_
          refine rgf (D.junk) ([Obj.cells [D.sl (rows (l ++ Prod.fst K)) (some (51 : Nat)), D.int IntKind.i64 (Prod.fst (Prod.snd K) + (1 : Int))]]) ?_
          refine k_done (k_skip_seq (k_seq ?_))
          refine rv (D.ptr (0 : Nat) (0 : Nat)) ?_
          refine rv (D.ptr (0 : Nat) (0 : Nat)) ?_
          refine rv (D.ptr (0 : Nat) (1 : Nat)) ?_
          refine rv (D.int IntKind.i64 (Prod.fst (Prod.snd K) + (1 : Int))) ?_
          refine ra0 (D.int IntKind.i64 (Prod.fst (Prod.snd K) + (1 : Int))) ?_
          refine k_done (k_skip_seq (k_seq ?_))
          refine rv (D.int IntKind.i64 (-1 : Int)) ?_
          refine rv (D.int IntKind.i64 (Prod.fst (Prod.snd K) + (1 : Int))) ?_
          refine rve (D.int IntKind.i64 (IntKind.wrap IntKind.i64 ((-1 : Int) * (Prod.fst (Prod.snd K) + (1 : Int))))) (.int IntKind.i64 ((-1 : Int) * (Prod.fst (Prod.snd K) + (1 : Int)))) (congrArg (D.int IntKind.i64) (show IntKind.wrap IntKind.i64 ((-1 : Int) * (Prod.fst (Prod.snd K) + (1 : Int))) = ((-1 : Int) * (Prod.fst (Prod.snd K) + (1 : Int))) from wrap_eq (by omega) (by omega) (by omega))) ?_
          refine rv (D.sl [[D.int IntKind.i64 ((-1 : Int) * (Prod.fst (Prod.snd K) + (1 : Int)))]] (some (3 : Nat))) ?_
          refine runs_assign (D.sl [[D.int IntKind.i64 ((-1 : Int) * (Prod.fst (Prod.snd K) + (1 : Int)))]] (some (3 : Nat))) (by kernel_rfl) (by kernel_rfl) ?_
          refine k_done (k_skip_seq (k_seq (k_seq ?_)))
          refine rv (D.sl (ints (Prod.snd (Prod.snd K))) none) ?_
          refine rve (D.int IntKind.i64 (↑(List.length (ints (Prod.snd (Prod.snd K)))) : Int)) (.int IntKind.i64 ((↑(List.length (Prod.snd (Prod.snd K))) : Int))) (by simp only [ints, eInt, rows, eInts, bools, eBool, trips, eTrip, List.length_map]) ?_
          refine rv (D.int IntKind.i64 (0 : Int)) ?_
          refine k_done (k_skip_seq (k_block ?_))
          refine k_loop (fun j : Nat => f45b f (-1) K.2.2 (K.2.1 + 1) (wholeL ((-1) * (K.2.1 + 1)) 1 K.2.2 j) j) (fun j => [MK (l ++ K.1 ++ pairL (1 * (K.2.1 + 1)) (-1) K.2.2 j) (K.2.1 + 1)]) (fun j => j ≤ K.2.2.length) (fun j => K.2.2.length - j) 0 (by kernel_rfl) (by simp [MK, pairL]) (by simp) (by intro s hs; omega) ?_
          intro j hj
          have hpl := pairL_len (1 * (K.2.1 + 1)) (-1) K.2.2 j
          have hwl := wholeL_len ((-1) * (K.2.1 + 1)) 1 K.2.2 j
          by_cases hlt : j < K.2.2.length
          · have hv := a5 K.2.2[j] (List.getElem_mem hlt)
            have hw := wholeL_next ((-1) * (K.2.1 + 1)) 1 hlt
            have hp := pairL_next (1 * (K.2.1 + 1)) (-1) hlt
            have hput := put_ok N (l ++ K.1 ++ pairL (1 * (K.2.1 + 1)) (-1) K.2.2 j) (K.2.1 + 1) [1 * (K.2.1 + 1), (-1) * K.2.2[j]] none (by simp only [List.length_append]; omega)
            generalize pairL (1 * (K.2.1 + 1)) (-1) K.2.2 j = P at *
            generalize wholeL ((-1) * (K.2.1 + 1)) 1 K.2.2 j = W at *
            refine k_seq ?_
            refine rv (D.bool (decide ((↑j : Int) < (↑(List.length (Prod.snd (Prod.snd K))) : Int)))) ?_
            refine k_done (k_skip_seq (k_seq ?_))
            refine rkn 63 (decide ((↑j : Int) < (↑(List.length (Prod.snd (Prod.snd K))) : Int))) true (decide_eq_true (by omega)) ?_
            refine kct (k_skip_seq (k_seq (k_block (k_seq ?_))))
            refine runs_index (Prod.snd (Prod.snd K)) (eInt) (o := none) (kd := IntKind.i64) (j) (by kernel_rfl) (by kernel_rfl) (by kernel_rfl) (by assumption) (by kernel_rfl) ?_
            refine rv (D.int IntKind.i64 (Prod.snd (Prod.snd K))[j]) ?_
            refine ra0 (D.int IntKind.i64 (Prod.snd (Prod.snd K))[j]) ?_
            refine k_done (k_skip_seq (k_seq ?_))
            refine rv (D.ptr (0 : Nat) (0 : Nat)) ?_
            refine rv (D.int IntKind.i64 (-1 : Int)) ?_
            refine rv (D.int IntKind.i64 (1 : Int)) ?_
            refine rv (D.int IntKind.i64 (Prod.fst (Prod.snd K) + (1 : Int))) ?_
            refine rve (D.int IntKind.i64 (IntKind.wrap IntKind.i64 ((1 : Int) * (Prod.fst (Prod.snd K) + (1 : Int))))) (.int IntKind.i64 ((1 : Int) * (Prod.fst (Prod.snd K) + (1 : Int)))) (congrArg (D.int IntKind.i64) (show IntKind.wrap IntKind.i64 ((1 : Int) * (Prod.fst (Prod.snd K) + (1 : Int))) = ((1 : Int) * (Prod.fst (Prod.snd K) + (1 : Int))) from wrap_eq (by omega) (by omega) (by omega))) ?_
            refine rv (D.int IntKind.i64 (-1 : Int)) ?_
            refine rv (D.int IntKind.i64 (Prod.snd (Prod.snd K))[j]) ?_
            refine rve (D.int IntKind.i64 (IntKind.wrap IntKind.i64 ((-1 : Int) * (Prod.snd (Prod.snd K))[j]))) (.int IntKind.i64 ((-1 : Int) * (Prod.snd (Prod.snd K))[j])) (congrArg (D.int IntKind.i64) (show IntKind.wrap IntKind.i64 ((-1 : Int) * (Prod.snd (Prod.snd K))[j]) = ((-1 : Int) * (Prod.snd (Prod.snd K))[j]) from wrap_eq (by omega) (by omega) (by omega))) ?_
            refine rv (D.sl [[D.int IntKind.i64 ((1 : Int) * (Prod.fst (Prod.snd K) + (1 : Int)))], [D.int IntKind.i64 ((-1 : Int) * (Prod.snd (Prod.snd K))[j])]] (some (3 : Nat))) ?_
            refine runs_call_st ([D.ptr (0 : Nat) (0 : Nat), D.sl [[D.int IntKind.i64 ((1 : Int) * (Prod.fst (Prod.snd K) + (1 : Int)))], [D.int IntKind.i64 ((-1 : Int) * (Prod.snd (Prod.snd K))[j])]] none]) (by kernel_rfl) (by kernel_rfl) (by kernel_rfl) (by kernel_rfl) (hput) ?_
            refine k_done (k_skip_seq ?_)
            refine runs_steal (D.sl (ints W) (some (3 : Nat))) (by kernel_rfl) (by kernel_rfl) ?_
            refine rv (D.int IntKind.i64 (-1 : Int)) ?_
            refine rv (D.int IntKind.i64 (1 : Int)) ?_
            refine rv (D.int IntKind.i64 (Prod.snd (Prod.snd K))[j]) ?_
            refine rve (D.int IntKind.i64 (IntKind.wrap IntKind.i64 ((1 : Int) * (Prod.snd (Prod.snd K))[j]))) (.int IntKind.i64 ((1 : Int) * (Prod.snd (Prod.snd K))[j])) (congrArg (D.int IntKind.i64) (show IntKind.wrap IntKind.i64 ((1 : Int) * (Prod.snd (Prod.snd K))[j]) = ((1 : Int) * (Prod.snd (Prod.snd K))[j]) from wrap_eq (by omega) (by omega) (by omega))) ?_
            refine rv (D.sl [[D.int IntKind.i64 ((1 : Int) * (Prod.snd (Prod.snd K))[j])]] (some (3 : Nat))) ?_
            refine runs_append (ints W) ([[D.int IntKind.i64 ((1 : Int) * (Prod.snd (Prod.snd K))[j])]]) (ints (W ++ [(1 : Int) * (Prod.snd (Prod.snd K))[j]])) (by kernel_rfl) (by kernel_rfl) (by kernel_rfl) (by kernel_rfl) (by simp [ints, eInt, rows, eInts, bools, eBool, trips, eTrip, room]; omega) (by simp [ints, eInt, rows, eInts, bools, eBool, trips, eTrip]) ?_
            refine runs_assign (D.sl (ints (W ++ [(1 : Int) * (Prod.snd (Prod.snd K))[j]])) (some (3 : Nat))) (by kernel_rfl) (by kernel_rfl) ?_
            refine k_done (k_skip_block (k_skip_seq ?_))
            refine rve (D.int IntKind.i64 (IntKind.wrap IntKind.i64 ((↑j : Int) + (1 : Int)))) (.int IntKind.i64 ((j + 1 : Nat) : Int)) (congrArg (D.int IntKind.i64) (show IntKind.wrap IntKind.i64 ((↑j : Int) + (1 : Int)) = ((j + 1 : Nat) : Int) from wrap_eq (by omega) (by omega) (by omega))) ?_
            refine rv (D.int IntKind.i64 (↑(j + (1 : Nat)) : Int)) ?_
            refine k_done (k_skip_back ?_)
            exact ⟨j + 1, hlt, by omega, by rw [hw]; kernel_rfl, by rw [hp, List.append_assoc]⟩
          · obtain rfl : j = K.2.2.length := by omega
            have hg : gate (-1) (K.2.1 + 1) K.2.2 = pairL (1 * (K.2.1 + 1)) (-1) K.2.2 K.2.2.length ++ [wholeL ((-1) * (K.2.1 + 1)) 1 K.2.2 K.2.2.length] := gate_eq (-1) (K.2.1 + 1) K.2.2
            have hput := put_ok N (l ++ K.1 ++ pairL (1 * (K.2.1 + 1)) (-1) K.2.2 K.2.2.length) (K.2.1 + 1) (wholeL ((-1) * (K.2.1 + 1)) 1 K.2.2 K.2.2.length) none (by simp only [List.length_append]; omega)
            rw [hg]
            generalize pairL (1 * (K.2.1 + 1)) (-1) K.2.2 K.2.2.length = P at *
            generalize wholeL ((-1) * (K.2.1 + 1)) 1 K.2.2 K.2.2.length = W at *
            refine k_seq ?_
            refine rv (D.bool (decide ((↑(List.length (Prod.snd (Prod.snd K))) : Int) < (↑(List.length (Prod.snd (Prod.snd K))) : Int)))) ?_
            refine k_done (k_skip_seq (k_seq ?_))
            refine rkn 63 (decide ((↑(List.length (Prod.snd (Prod.snd K))) : Int) < (↑(List.length (Prod.snd (Prod.snd K))) : Int))) false (decide_eq_false (by omega)) ?_
            refine kcf (k_exit_seq (k_exit_back (k_exit_hit rfl (k_skip_seq (k_seq ?_)))))
            refine rv (D.ptr (0 : Nat) (0 : Nat)) ?_
            refine rv (D.sl (ints W) none) ?_
            refine runs_call_st ([D.ptr (0 : Nat) (0 : Nat), D.sl (ints W) none]) (by kernel_rfl) (by kernel_rfl) (by kernel_rfl) (by kernel_rfl) (hput) ?_
            refine k_done (k_skip_seq (k_seq ?_))
            refine rv (D.int IntKind.i64 (Prod.fst (Prod.snd K) + (1 : Int))) ?_
            refine ra0 (D.int IntKind.i64 (Prod.fst (Prod.snd K) + (1 : Int))) ?_
            refine k_done (k_skip_seq (k_ret ?_))
            refine ⟨.inr rfl, by kernel_rfl, ?_⟩
            have hst : l ++ (K.1 ++ (P ++ [W])) = l ++ K.1 ++ P ++ [W] := by simp only [List.append_assoc]
            refine Eq.trans (b := some (D.int .i64 (K.2.1 + 1), [MK (l ++ K.1 ++ P ++ [W]) (K.2.1 + 1)])) (by show _ = _; kernel_rfl) ?_
            rw [← hst]
      · have hsgn : sgn f.op = 1 := by unfold sgn; simp [c6]
        rw [hsgn] at e
        rw [e]
        refine k_seq ?_
        refine rgf (D.lptr (3 : Nat) (0 : Nat)) ([Obj.cells [D.sl (rows l) (some (51 : Nat)), D.int IntKind.i64 n]]) ?_
        refine rv (D.int IntKind.i64 (0 : Int)) ?_
        refine k_done (k_skip_seq (k_seq (k_seq ?_)))
        refine rv (D.lptr (3 : Nat) (0 : Nat)) ?_
        refine rv (D.int IntKind.i64 (Fm.op f)) ?_
        refine k_done (k_skip_seq (k_block (k_seq ?_)))
        refine rv (D.bool (Fm.op f == (3 : Int))) ?_
        refine ra0 (D.bool (Fm.op f == (3 : Int))) ?_
        refine k_done (k_skip_seq ?_)
        refine rkn 15 (Fm.op f == (3 : Int)) false (decide_eq_false (by assumption)) ?_
        refine kcf (k_seq ?_)
        refine rv (D.bool (Fm.op f == (4 : Int))) ?_
        refine ra0 (D.bool (Fm.op f == (4 : Int))) ?_
        refine k_done (k_skip_seq ?_)
        refine rkn 19 (Fm.op f == (4 : Int)) false (decide_eq_false (by assumption)) ?_
        refine kcf (k_skip_block (k_skip_seq (k_seq ?_)))
        refine rv (D.int IntKind.i64 (1 : Int)) ?_
        refine k_done (k_skip_seq (k_seq (k_seq ?_)))
        refine rv (D.lptr (3 : Nat) (0 : Nat)) ?_
        refine rv (D.int IntKind.i64 (Fm.op f)) ?_
        refine rv (D.bool (Fm.op f == (6 : Int))) ?_
        refine k_done (k_skip_seq ?_)
        refine rkn 30 (Fm.op f == (6 : Int)) false (decide_eq_false (by assumption)) ?_
        refine kcf (k_skip_seq (k_seq ?_))
        refine rv (D.sl [] (some (3 : Nat))) ?_
        refine k_done (k_skip_seq (k_seq (k_seq ?_)))
        refine rv (D.lptr (3 : Nat) (2 : Nat)) ?_
        refine rv (D.sl (eFs (Fm.kids f)) none) ?_
        refine rve (D.int IntKind.i64 (↑(List.length (eFs (Fm.kids f))) : Int)) (.int IntKind.i64 ((↑(List.length (Fm.kids f)) : Int))) (by simp only [eFs_length]) ?_
        refine rv (D.int IntKind.i64 (0 : Int)) ?_
        refine k_done (k_skip_seq (k_block ?_))
        refine k_loop (fun i : Nat => f45a f 1 (kidsR (litR d) (f.kids.take i) n).2.2 i) (fun i => [MK (l ++ (kidsR (litR d) (f.kids.take i) n).1) (kidsR (litR d) (f.kids.take i) n).2.1]) (fun i => i ≤ f.kids.length) (fun i => f.kids.length - i) 0 (by kernel_rfl) (by rw [List.take_zero]; simp [kidsR, MK]) (by simp) (by intro s hs; omega) ?_
        intro i hi
        by_cases hlt : i < f.kids.length
        · have hg := kid_at hlt
          have hnt := nodesL_take hlt
          have hmem := List.getElem_mem hlt
          have o := kids_OK (g := litR d) (f.kids.take i) n hB (fun k hk' n hB => lit_OK B h0 d k n (hk k (List.mem_of_mem_take hk')) (hlk k (List.mem_of_mem_take hk')) hB)
          have hnext := kidsR_take (litR d) n hlt
          have a1 := o.up
          have a2 := o.top
          have a3 := o.num
          have a4 := o.len
          rw [List.length_take, Nat.min_eq_left hi] at a4
          have hcall := ih f.kids[i] (l ++ (kidsR (litR d) (f.kids.take i) n).1) (kidsR (litR d) (f.kids.take i) n).2.1 N (hk _ hmem) (hlk _ hmem) (by omega) (by omega) (by rw [List.length_append]; omega) (by omega)
          generalize kidsR (litR d) (f.kids.take i) n = K at *
          generalize litR d f.kids[i] K.2.1 = r at *
          refine k_seq ?_
          refine rv (D.bool (decide ((↑i : Int) < (↑(List.length (Fm.kids f)) : Int)))) ?_
          refine k_done (k_skip_seq (k_seq ?_))
          refine rkn 35 (decide ((↑i : Int) < (↑(List.length (Fm.kids f)) : Int))) true (decide_eq_true (by omega)) ?_
          refine kct (k_skip_seq (k_seq (k_block (k_seq ?_))))
          refine runs_indexL (eFs (Fm.kids f)) (o := none) (kd := IntKind.i64) (i) _ (by kernel_rfl) (by kernel_rfl) (by kernel_rfl) (by assumption) (by kernel_rfl) ?_
          refine rv (D.agg [D.int IntKind.i64 (Fm.op (Fm.kids f)[i]), D.int IntKind.i64 (Fm.n (Fm.kids f)[i]), D.sl (eFs (Fm.kids (Fm.kids f)[i])) none]) ?_
          refine rgf (D.lptr (8 : Nat) (0 : Nat)) ([Obj.cells [D.sl (rows (l ++ Prod.fst K)) (some (51 : Nat)), D.int IntKind.i64 (Prod.fst (Prod.snd K))]]) ?_
          refine rgf (D.junk) ([Obj.cells [D.sl (rows (l ++ Prod.fst K)) (some (51 : Nat)), D.int IntKind.i64 (Prod.fst (Prod.snd K))]]) ?_
          refine k_done (k_skip_seq ?_)
          refine runs_steal (D.sl (ints (Prod.snd (Prod.snd K))) (some (3 : Nat))) (by kernel_rfl) (by kernel_rfl) ?_
          refine rv (D.ptr (0 : Nat) (0 : Nat)) ?_
          refine rv (D.agg [D.int IntKind.i64 (Fm.op (Fm.kids f)[i]), D.int IntKind.i64 (Fm.n (Fm.kids f)[i]), D.sl (eFs (Fm.kids (Fm.kids f)[i])) none]) ?_
          refine runs_call_st ([D.ptr (0 : Nat) (0 : Nat), D.agg [D.int IntKind.i64 (Fm.op (Fm.kids f)[i]), D.int IntKind.i64 (Fm.n (Fm.kids f)[i]), D.sl (eFs (Fm.kids (Fm.kids f)[i])) none]]) (by kernel_rfl) (by kernel_rfl) (by kernel_rfl) (by kernel_rfl) (hcall) ?_
          refine rv (D.sl [[D.int IntKind.i64 (Prod.snd (Prod.snd r))]] (some (3 : Nat))) ?_
          refine runs_append (ints (Prod.snd (Prod.snd K))) ([[D.int IntKind.i64 (Prod.snd (Prod.snd r))]]) (ints (Prod.snd (Prod.snd K) ++ [Prod.snd (Prod.snd r)])) (by kernel_rfl) (by kernel_rfl) (by kernel_rfl) (by kernel_rfl) (by simp [ints, eInt, rows, eInts, bools, eBool, trips, eTrip, room]; omega) (by simp [ints, eInt, rows, eInts, bools, eBool, trips, eTrip]) ?_
          refine runs_assign (D.sl (ints (Prod.snd (Prod.snd K) ++ [Prod.snd (Prod.snd r)])) (some (3 : Nat))) (by kernel_rfl) (by kernel_rfl) ?_
          refine k_done (k_skip_block (k_skip_seq ?_))
          refine rve (D.int IntKind.i64 (IntKind.wrap IntKind.i64 ((↑i : Int) + (1 : Int)))) (.int IntKind.i64 ((i + 1 : Nat) : Int)) (congrArg (D.int IntKind.i64) (show IntKind.wrap IntKind.i64 ((↑i : Int) + (1 : Int)) = ((i + 1 : Nat) : Int) from wrap_eq (by omega) (by omega) (by omega))) ?_
          refine rv (D.int IntKind.i64 (↑(i + (1 : Nat)) : Int)) ?_
          refine k_done (k_skip_back ?_)
          exact ⟨i + 1, hlt, by omega, by rw [hnext]; kernel_rfl, by rw [hnext, List.append_assoc]⟩
        · obtain rfl : i = f.kids.length := by omega
          rw [List.take_length]
          have o := kids_OK (g := litR d) f.kids n hB (fun k hk' n hB => lit_OK B h0 d k n (hk k hk') (hlk k hk') hB)
          have a1 := o.up
          have a2 := o.top
          have a3 := o.num
          have a4 := o.len
          have a5 := o.vs
          generalize kidsR (litR d) f.kids n = K at *
          obtain ⟨N, rfl⟩ : ∃ m, N = m + 1 := ⟨N - 1, by omega⟩
          refine k_seq ?_
          refine rv (D.bool (decide ((↑(List.length (Fm.kids f)) : Int) < (↑(List.length (Fm.kids f)) : Int)))) ?_
          refine k_done (k_skip_seq (k_seq ?_))
          refine rkn 35 (decide ((↑(List.length (Fm.kids f)) : Int) < (↑(List.length (Fm.kids f)) : Int))) false (decide_eq_false (by omega)) ?_
          refine kcf (k_exit_seq (k_exit_back (k_exit_hit rfl (k_skip_seq (k_seq ?_)))))
          refine rv (D.ptr (0 : Nat) (0 : Nat)) ?_
          refine rv (D.ptr (0 : Nat) (0 : Nat)) ?_
          refine rv (D.ptr (0 : Nat) (1 : Nat)) ?_
          refine rv (D.int IntKind.i64 (Prod.fst (Prod.snd K))) ?_
          refine rve (D.int IntKind.i64 (IntKind.wrap IntKind.i64 (Prod.fst (Prod.snd K) + (1 : Int)))) (.int IntKind.i64 (Prod.fst (Prod.snd K) + (1 : Int))) (congrArg (D.int IntKind.i64) (show IntKind.wrap IntKind.i64 (Prod.fst (Prod.snd K) + (1 : Int)) = (Prod.fst (Prod.snd K) + (1 : Int)) from wrap_eq (by omega) (by omega) (by omega))) ?_
          refine rv (D.ptr (0 : Nat) (0 : Nat)) ?_
          refine rv (D.ptr (0 : Nat) (1 : Nat)) ?_
          refine rgf (D.junk) ([Obj.cells [D.sl (rows (l ++ Prod.fst K)) (some (51 : Nat)), D.int IntKind.i64 (Prod.fst (Prod.snd K) + (1 : Int))]]) ?_
          refine k_done (k_skip_seq (k_seq ?_))
          refine rv (D.ptr (0 : Nat) (0 : Nat)) ?_
          refine rv (D.ptr (0 : Nat) (0 : Nat)) ?_
          refine rv (D.ptr (0 : Nat) (1 : Nat)) ?_
          refine rv (D.int IntKind.i64 (Prod.fst (Prod.snd K) + (1 : Int))) ?_
          refine ra0 (D.int IntKind.i64 (Prod.fst (Prod.snd K) + (1 : Int))) ?_
          refine k_done (k_skip_seq (k_seq ?_))
          refine rv (D.int IntKind.i64 (1 : Int)) ?_
          refine rv (D.int IntKind.i64 (Prod.fst (Prod.snd K) + (1 : Int))) ?_
          refine rve (D.int IntKind.i64 (IntKind.wrap IntKind.i64 ((1 : Int) * (Prod.fst (Prod.snd K) + (1 : Int))))) (.int IntKind.i64 ((1 : Int) * (Prod.fst (Prod.snd K) + (1 : Int)))) (congrArg (D.int IntKind.i64) (show IntKind.wrap IntKind.i64 ((1 : Int) * (Prod.fst (Prod.snd K) + (1 : Int))) = ((1 : Int) * (Prod.fst (Prod.snd K) + (1 : Int))) from wrap_eq (by omega) (by omega) (by omega))) ?_
          refine rv (D.sl [[D.int IntKind.i64 ((1 : Int) * (Prod.fst (Prod.snd K) + (1 : Int)))]] (some (3 : Nat))) ?_
          refine runs_assign (D.sl [[D.int IntKind.i64 ((1 : Int) * (Prod.fst (Prod.snd K) + (1 : Int)))]] (some (3 : Nat))) (by kernel_rfl) (by kernel_rfl) ?_
          refine k_done (k_skip_seq (k_seq (k_seq ?_)))
          refine rv (D.sl (ints (Prod.snd (Prod.snd K))) none) ?_
          refine rve (D.int IntKind.i64 (↑(List.length (ints (Prod.snd (Prod.snd K)))) : Int)) (.int IntKind.i64 ((↑(List.length (Prod.snd (Prod.snd K))) : Int))) (by simp only [ints, eInt, rows, eInts, bools, eBool, trips, eTrip, List.length_map]) ?_
          refine rv (D.int IntKind.i64 (0 : Int)) ?_
          refine k_done (k_skip_seq (k_block ?_))
          refine k_loop (fun j : Nat => f45b f 1 K.2.2 (K.2.1 + 1) (wholeL (1 * (K.2.1 + 1)) (-1) K.2.2 j) j) (fun j => [MK (l ++ K.1 ++ pairL ((-1) * (K.2.1 + 1)) 1 K.2.2 j) (K.2.1 + 1)]) (fun j => j ≤ K.2.2.length) (fun j => K.2.2.length - j) 0 (by kernel_rfl) (by simp [MK, pairL]) (by simp) (by intro s hs; omega) ?_
          intro j hj
          have hpl := pairL_len ((-1) * (K.2.1 + 1)) 1 K.2.2 j
          have hwl := wholeL_len (1 * (K.2.1 + 1)) (-1) K.2.2 j
          by_cases hlt : j < K.2.2.length
          · have hv := a5 K.2.2[j] (List.getElem_mem hlt)
            have hw := wholeL_next (1 * (K.2.1 + 1)) (-1) hlt
            have hp := pairL_next ((-1) * (K.2.1 + 1)) 1 hlt
            have hput := put_ok N (l ++ K.1 ++ pairL ((-1) * (K.2.1 + 1)) 1 K.2.2 j) (K.2.1 + 1) [(-1) * (K.2.1 + 1), 1 * K.2.2[j]] none (by simp only [List.length_append]; omega)
            generalize pairL ((-1) * (K.2.1 + 1)) 1 K.2.2 j = P at *
            generalize wholeL (1 * (K.2.1 + 1)) (-1) K.2.2 j = W at *
            refine k_seq ?_
            refine rv (D.bool (decide ((↑j : Int) < (↑(List.length (Prod.snd (Prod.snd K))) : Int)))) ?_
            refine k_done (k_skip_seq (k_seq ?_))
            refine rkn 63 (decide ((↑j : Int) < (↑(List.length (Prod.snd (Prod.snd K))) : Int))) true (decide_eq_true (by omega)) ?_
            refine kct (k_skip_seq (k_seq (k_block (k_seq ?_))))
            refine runs_index (Prod.snd (Prod.snd K)) (eInt) (o := none) (kd := IntKind.i64) (j) (by kernel_rfl) (by kernel_rfl) (by kernel_rfl) (by assumption) (by kernel_rfl) ?_
            refine rv (D.int IntKind.i64 (Prod.snd (Prod.snd K))[j]) ?_
            refine ra0 (D.int IntKind.i64 (Prod.snd (Prod.snd K))[j]) ?_
            refine k_done (k_skip_seq (k_seq ?_))
            refine rv (D.ptr (0 : Nat) (0 : Nat)) ?_
            refine rv (D.int IntKind.i64 (1 : Int)) ?_
            refine rv (D.int IntKind.i64 (-1 : Int)) ?_
            refine rv (D.int IntKind.i64 (Prod.fst (Prod.snd K) + (1 : Int))) ?_
            refine rve (D.int IntKind.i64 (IntKind.wrap IntKind.i64 ((-1 : Int) * (Prod.fst (Prod.snd K) + (1 : Int))))) (.int IntKind.i64 ((-1 : Int) * (Prod.fst (Prod.snd K) + (1 : Int)))) (congrArg (D.int IntKind.i64) (show IntKind.wrap IntKind.i64 ((-1 : Int) * (Prod.fst (Prod.snd K) + (1 : Int))) = ((-1 : Int) * (Prod.fst (Prod.snd K) + (1 : Int))) from wrap_eq (by omega) (by omega) (by omega))) ?_
            refine rv (D.int IntKind.i64 (1 : Int)) ?_
            refine rv (D.int IntKind.i64 (Prod.snd (Prod.snd K))[j]) ?_
            refine rve (D.int IntKind.i64 (IntKind.wrap IntKind.i64 ((1 : Int) * (Prod.snd (Prod.snd K))[j]))) (.int IntKind.i64 ((1 : Int) * (Prod.snd (Prod.snd K))[j])) (congrArg (D.int IntKind.i64) (show IntKind.wrap IntKind.i64 ((1 : Int) * (Prod.snd (Prod.snd K))[j]) = ((1 : Int) * (Prod.snd (Prod.snd K))[j]) from wrap_eq (by omega) (by omega) (by omega))) ?_
            refine rv (D.sl [[D.int IntKind.i64 ((-1 : Int) * (Prod.fst (Prod.snd K) + (1 : Int)))], [D.int IntKind.i64 ((1 : Int) * (Prod.snd (Prod.snd K))[j])]] (some (3 : Nat))) ?_
            refine runs_call_st ([D.ptr (0 : Nat) (0 : Nat), D.sl [[D.int IntKind.i64 ((-1 : Int) * (Prod.fst (Prod.snd K) + (1 : Int)))], [D.int IntKind.i64 ((1 : Int) * (Prod.snd (Prod.snd K))[j])]] none]) (by kernel_rfl) (by kernel_rfl) (by kernel_rfl) (by kernel_rfl) (hput) ?_
            refine k_done (k_skip_seq ?_)
            refine runs_steal (D.sl (ints W) (some (3 : Nat))) (by kernel_rfl) (by kernel_rfl) ?_
            refine rv (D.int IntKind.i64 (1 : Int)) ?_
            refine rv (D.int IntKind.i64 (-1 : Int)) ?_
            refine rv (D.int IntKind.i64 (Prod.snd (Prod.snd K))[j]) ?_
            refine rve (D.int IntKind.i64 (IntKind.wrap IntKind.i64 ((-1 : Int) * (Prod.snd (Prod.snd K))[j]))) (.int IntKind.i64 ((-1 : Int) * (Prod.snd (Prod.snd K))[j])) (congrArg (D.int IntKind.i64) (show IntKind.wrap IntKind.i64 ((-1 : Int) * (Prod.snd (Prod.snd K))[j]) = ((-1 : Int) * (Prod.snd (Prod.snd K))[j]) from wrap_eq (by omega) (by omega) (by omega))) ?_
            refine rv (D.sl [[D.int IntKind.i64 ((-1 : Int) * (Prod.snd (Prod.snd K))[j])]] (some (3 : Nat))) ?_
            refine runs_append (ints W) ([[D.int IntKind.i64 ((-1 : Int) * (Prod.snd (Prod.snd K))[j])]]) (ints (W ++ [(-1 : Int) * (Prod.snd (Prod.snd K))[j]])) (by kernel_rfl) (by kernel_rfl) (by kernel_rfl) (by kernel_rfl) (by simp [ints, eInt, rows, eInts, bools, eBool, trips, eTrip, room]; omega) (by simp [ints, eInt, rows, eInts, bools, eBool, trips, eTrip]) ?_
            refine runs_assign (D.sl (ints (W ++ [(-1 : Int) * (Prod.snd (Prod.snd K))[j]])) (some (3 : Nat))) (by kernel_rfl) (by kernel_rfl) ?_
            refine k_done (k_skip_block (k_skip_seq ?_))
            refine rve (D.int IntKind.i64 (IntKind.wrap IntKind.i64 ((↑j : Int) + (1 : Int)))) (.int IntKind.i64 ((j + 1 : Nat) : Int)) (congrArg (D.int IntKind.i64) (show IntKind.wrap IntKind.i64 ((↑j : Int) + (1 : Int)) = ((j + 1 : Nat) : Int) from wrap_eq (by omega) (by omega) (by omega))) ?_
            refine rv (D.int IntKind.i64 (↑(j + (1 : Nat)) : Int)) ?_
            refine k_done (k_skip_back ?_)
            exact ⟨j + 1, hlt, by omega, by rw [hw]; kernel_rfl, by rw [hp, List.append_assoc]⟩
          · obtain rfl : j = K.2.2.length := by omega
            have hg : gate 1 (K.2.1 + 1) K.2.2 = pairL ((-1) * (K.2.1 + 1)) 1 K.2.2 K.2.2.length ++ [wholeL (1 * (K.2.1 + 1)) (-1) K.2.2 K.2.2.length] := gate_eq 1 (K.2.1 + 1) K.2.2
            have hput := put_ok N (l ++ K.1 ++ pairL ((-1) * (K.2.1 + 1)) 1 K.2.2 K.2.2.length) (K.2.1 + 1) (wholeL (1 * (K.2.1 + 1)) (-1) K.2.2 K.2.2.length) none (by simp only [List.length_append]; omega)
            rw [hg]
            generalize pairL ((-1) * (K.2.1 + 1)) 1 K.2.2 K.2.2.length = P at *
            generalize wholeL (1 * (K.2.1 + 1)) (-1) K.2.2 K.2.2.length = W at *
            refine k_seq ?_
            refine rv (D.bool (decide ((↑(List.length (Prod.snd (Prod.snd K))) : Int) < (↑(List.length (Prod.snd (Prod.snd K))) : Int)))) ?_
            refine k_done (k_skip_seq (k_seq ?_))
            refine rkn 63 (decide ((↑(List.length (Prod.snd (Prod.snd K))) : Int) < (↑(List.length (Prod.snd (Prod.snd K))) : Int))) false (decide_eq_false (by omega)) ?_
            refine kcf (k_exit_seq (k_exit_back (k_exit_hit rfl (k_skip_seq (k_seq ?_)))))
            refine rv (D.ptr (0 : Nat) (0 : Nat)) ?_
            refine rv (D.sl (ints W) none) ?_
            refine runs_call_st ([D.ptr (0 : Nat) (0 : Nat), D.sl (ints W) none]) (by kernel_rfl) (by kernel_rfl) (by kernel_rfl) (by kernel_rfl) (hput) ?_
            refine k_done (k_skip_seq (k_seq ?_))
            refine rv (D.int IntKind.i64 (Prod.fst (Prod.snd K) + (1 : Int))) ?_
            refine ra0 (D.int IntKind.i64 (Prod.fst (Prod.snd K) + (1 : Int))) ?_
            refine k_done (k_skip_seq (k_ret ?_))
            refine ⟨.inr rfl, by kernel_rfl, ?_⟩
            have hst : l ++ (K.1 ++ (P ++ [W])) = l ++ K.1 ++ P ++ [W] := by simp only [List.append_assoc]
            refine Eq.trans (b := some (D.int .i64 (K.2.1 + 1), [MK (l ++ K.1 ++ P ++ [W]) (K.2.1 + 1)])) (by show _ = _; kernel_rfl) ?_
            rw [← hst]
end Go.Abs.A
