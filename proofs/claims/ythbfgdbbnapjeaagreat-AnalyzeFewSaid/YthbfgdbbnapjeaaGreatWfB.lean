/-
  A part of AnalyzeFew's proof.
-/
import Derived.Test.YthbfgdbbnapjeaaGreatWq11
set_option linter.unusedVariables false
set_option linter.unusedSimpArgs false
namespace Go.Abs.W
open Go Go.Abs
set_option maxRecDepth 8000
attribute [local irreducible] callN runC evalOp
def MK (l : List (List Int)) (n : Int) : Obj := .cells [.sl (rows l) (some 133), .int .i64 n]
theorem put_ok (n : Nat) (l : List (List Int)) (last : Int) (c : List Int) (o : Option Nat) (hl : l.length ≤ 100000) : callN T (n + 1) 53 [.ptr 0 0, .sl (ints c) o] [MK l last] = some (.tup [], [MK (l ++ [c]) last]) := by
 refine call_of (m := m53) rfl rfl (by decide) (k_start ?_)
 unfold m53
 refine rn 4 <| rgs (.sl (rows l) (some 133)) ([Obj.cells [.sl (rows l) none, .int .i64 last]]) <| rn 2 <| runs_append (rows l) ([[D.sl (ints c) none]]) (rows (l ++ [c])) kr kr kr kr (by simp [ints, eInt, rows, eInts, bools, eBool, trips, eTrip, i8s, u16s, u8s, acts, room]; omega) (by simp [ints, eInt, rows, eInts, bools, eBool, trips, eTrip, i8s, u16s, u8s, acts]) <| rn 2 <| rgf (D.junk) ([Obj.cells [D.sl (rows (l ++ [c])) (some 133), D.int IntKind.i64 last]]) <| kD <| k_skip_nil ?_
 exact ⟨.inl rfl, kr, kr⟩
theorem nodesL_append : ∀ (a b : List Fm), nodesL (a ++ b) = nodesL a + nodesL b
 | [], b => by simp [nodesL]
 | x :: a, b => by simp only [List.cons_append, nodesL, nodesL_append a b]; omega
theorem nodesL_take {l : List Fm} {i : Nat} (h : i < l.length) : nodesL (l.take i) + nodes l[i] ≤ nodesL l := by
 have h1 : nodesL (l.take (i + 1)) = nodesL (l.take i) + nodes l[i] := by
  rw [List.take_succ_eq_append_getElem h, nodesL_append]
  simp [nodesL]
 have h2 : nodesL l = nodesL (l.take (i + 1)) + nodesL (l.drop (i + 1)) := by rw [← nodesL_append, List.take_append_drop]
 omega
theorem kidsR_take (g : Fm → Int → LR) {ks : List Fm} {i : Nat} (n : Int) (h : i < ks.length) : kidsR g (ks.take (i + 1)) n = ((kidsR g (ks.take i) n).1 ++ (g ks[i] (kidsR g (ks.take i) n).2.1).1, (g ks[i] (kidsR g (ks.take i) n).2.1).2.1, (kidsR g (ks.take i) n).2.2 ++ [(g ks[i] (kidsR g (ks.take i) n).2.1).2.2]) := by
 rw [List.take_succ_eq_append_getElem h, kidsR_snoc]
def wholeL (a b : Int) (ks : List Int) (j : Nat) : List Int := a :: (ks.take j).map fun k => b * k
def pairL (a b : Int) (ks : List Int) (j : Nat) : List (List Int) := (ks.take j).map fun k => [a, b * k]
theorem wholeL_next (a b : Int) {ks : List Int} {j : Nat} (h : j < ks.length) : wholeL a b ks (j + 1) = wholeL a b ks j ++ [b * ks[j]] := by
 simp only [wholeL, List.take_succ_eq_append_getElem h, List.map_append, List.map_cons, List.map_nil, List.cons_append]
theorem pairL_next (a b : Int) {ks : List Int} {j : Nat} (h : j < ks.length) : pairL a b ks (j + 1) = pairL a b ks j ++ [[a, b * ks[j]]] := by
 simp only [pairL, List.take_succ_eq_append_getElem h, List.map_append, List.map_cons, List.map_nil]
theorem pairL_len (a b : Int) (ks : List Int) (j : Nat) : (pairL a b ks j).length ≤ ks.length := by
 simp only [pairL, List.length_map, List.length_take]
 omega
theorem wholeL_len (a b : Int) (ks : List Int) (j : Nat) : (wholeL a b ks j).length ≤ ks.length + 1 := by
 simp only [wholeL, List.length_map, List.length_take, List.length_cons]
 omega
theorem gate_eq (s v : Int) (ks : List Int) : gate s v ks = pairL ((0 - s) * v) s ks ks.length ++ [wholeL (s * v) (0 - s) ks ks.length] := by
 simp only [gate, pairL, wholeL, List.take_length]
def f45b (f : Fm) (s : Int) (ks : List Int) (v : Int) (w : List Int) (j : Int) : Fr := Fr.mk ([.ptr 0 0, .junk, .junk, .junk, .int .i64 0, .int .i64 s, .junk, .junk, .junk, .int .i64 v, .sl (ints w) (some 3)] ++ List.replicate 49 .junk ++ [.sl (ints ks) none, .int .i64 ks.length, .int .i64 j] ++ List.replicate 25 .junk) (List.replicate 88 none) []
def f45a (f : Fm) (s : Int) (ks : List Int) (i : Int) : Fr := Fr.mk ([.ptr 0 0, .junk, .junk, .junk, .int .i64 0, .int .i64 s, .sl (ints ks) (some 3)] ++ List.replicate 25 .junk ++ [.sl (eFs f.kids) none, .int .i64 f.kids.length, .int .i64 i] ++ List.replicate 53 .junk) (List.replicate 88 none) []
theorem literal_ok (B : Int) (h0 : 0 ≤ B) : ∀ (d : Nat) (f : Fm) (l : List (List Int)) (n : Int) (N : Nat), nf d f → lowF B f → B ≤ n → n + nodes f ≤ 1000000 → l.length + 2 * nodes f ≤ 90000 → d + 70 ≤ N →
  callN T N 54 [.ptr 0 0, .agg (eF f)] [MK l n] = some (.int .i64 (litR d f n).2.2, [MK (l ++ (litR d f n).1) (litR d f n).2.1]) := by
 intro d
 induction d with
 | zero => intro f l n N h; exact h.elim
 | succ d ih =>
  intro f l n N h hl hB hn hln hN
  obtain ⟨N, rfl⟩ : ∃ m, N = m + 1 := ⟨N - 1, om⟩
  have hnf := h
  have hnod := nodes_eq f
  have hl' := (lowF_eq B f).1 hl
  have hlk := (lowL_iff B _).1 hl'.2
  refine call_of (m := m54) rfl rfl (by decide) (k_start ?_)
  unfold m54
  rcases h with ⟨h3, hk, h1, h2⟩ | ⟨h4, _, x, hk, hx, _⟩ | ⟨h5, _, _, h60, hk⟩
  ·have e : litR (d + 1) f n = ([], n, f.n) := if_pos h3
   rw [e, List.append_nil]
   refine kq <| rn 2 ?_
   refine kD (k_skip_seq (kq (kq ?_)))
   refine rn 1 <| rve (.int .i64 f.op) (.int IntKind.i64 (3 : Int)) (congrArg (D.int IntKind.i64) (show Fm.op f = 3 from h3)) ?_
   refine kD (k_skip_seq (kZ (kq ?_)))
   refine rn 2 ?_
   refine kD (k_skip_seq (kct (kq ?_)))
   refine rn 3 ?_
   refine kD (k_skip_seq (k_ret ?_))
   exact ⟨.inr rfl, kr, kr⟩
  ·have e : litR (d + 1) f n = ((litR d x n).1, (litR d x n).2.1, 0 - (litR d x n).2.2) := by
    show (if f.op = 3 then _ else if f.op = 4 then _ else _) = _
    rw [if_neg om, if_pos h4, hk]
   have hg := kid0_get hk
   have h3 : ¬ f.op = 3 := by omega
   rw [hk] at hnod
   simp only [nodesL] at hnod
   have hcall := ih x l n N hx (hlk x (by rw [hk]; simp)) hB om om om
   have o := lit_OK B h0 d x n hx (hlk x (by rw [hk]; simp)) hB
   have a1 := o.lo
   have a2 := o.hi
   have a3 := o.top
   rw [e]
   generalize litR d x n = r at *
   refine kq <| rn 2 ?_
   refine kD (k_skip_seq (kq (kq ?_)))
   refine rn 1 <| rve (.int .i64 f.op) (.int IntKind.i64 (4 : Int)) (congrArg (D.int IntKind.i64) (show Fm.op f = 4 from h4)) ?_
   refine kD (k_skip_seq (kZ (kq ?_)))
   refine rn 2 ?_
   refine kD (k_skip_seq (kcf (kq ?_)))
   refine rn 2 ?_
   refine kD (k_skip_seq (kct (kq ?_)))
   refine rn 3 <| runs_indexL (eFs f.kids) (o := none) (kd := IntKind.i64) 0 _ kr kr kr asm kr <| rn 1 <| rcs ([.ptr 0 0, .agg [.int .i64 x.op, .int .i64 x.n, .sl (eFs x.kids) none]]) kr kr kr kr (hcall) <| rvw ((0 : Int) - Prod.snd r.2) wE <| rn 1 ?_
   refine kD (k_skip_seq (k_ret ?_))
   exact ⟨.inr rfl, kr, kr⟩
  ·have e : litR (d + 1) f n = ((kidsR (litR d) f.kids n).1 ++ gate (sgn f.op) ((kidsR (litR d) f.kids n).2.1 + 1) (kidsR (litR d) f.kids n).2.2, (kidsR (litR d) f.kids n).2.1 + 1, (kidsR (litR d) f.kids n).2.1 + 1) := by
    show (if f.op = 3 then _ else if f.op = 4 then _ else _) = _
    rw [if_neg om, if_neg om]
   have h3 : ¬ f.op = 3 := by omega
   have h4 : ¬ f.op = 4 := by omega
   by_cases c6 : f.op = 6
   ·have hsgn : sgn f.op = (-1) := by unfold sgn; simp [c6]
    rw [hsgn] at e
    rw [e]
    refine kq <| rn 2 ?_
    refine kD (k_skip_seq (kq (kq ?_)))
    refine rn 1 <| rve (.int .i64 f.op) (.int IntKind.i64 (6 : Int)) (congrArg (D.int IntKind.i64) (show Fm.op f = 6 from c6)) ?_
    refine kD (k_skip_seq (kZ (kq ?_)))
    refine rn 2 ?_
    refine kD (k_skip_seq (kcf (kq ?_)))
    refine rn 2 ?_
    refine kD (k_skip_seq (kcf (kY (k_skip_seq (kq ?_)))))
    refine rn 1 ?_
    refine kD (k_skip_seq (kq (kq ?_)))
    refine rn 1 <| rve (.int .i64 f.op) (.int IntKind.i64 (6 : Int)) (congrArg (D.int IntKind.i64) (show Fm.op f = 6 from c6)) <| rn 1 ?_
    refine kD (k_skip_seq (kct ?_))
    refine rn 1 ?_
    refine kD (k_skip_seq (kq ?_))
    refine rn 1 ?_
    refine kD (k_skip_seq (kq (kq ?_)))
    refine rn 2 <| rve (.int .i64 (↑(List.length (eFs f.kids)) : Int)) (.int IntKind.i64 ((↑(List.length f.kids) : Int))) (by simp only [eFs_length]) <| rn 1 ?_
    refine kD (k_skip_seq (kZ ?_))
    refine k_loop (fun i : Nat => f45a f (-1) (kidsR (litR d) (f.kids.take i) n).2.2 i) (fun i => [MK (l ++ (kidsR (litR d) (f.kids.take i) n).1) (kidsR (litR d) (f.kids.take i) n).2.1]) (fun i => i ≤ f.kids.length) (fun i => f.kids.length - i) 0 kr (by rw [List.take_zero]; simp [kidsR, MK]) (by simp) (by intro s hs; omega) ?_
    intro i hi
    by_cases hlt : i < f.kids.length
    ·have hg := kid_at hlt
     have hnt := nodesL_take hlt
     have hmem := List.getElem_mem hlt
     have o := kids_OK (g := litR d) (f.kids.take i) n hB (fun k hk' n hB => lit_OK B h0 d k n (hk k (List.mem_of_mem_take hk')) (hlk k (List.mem_of_mem_take hk')) hB)
     have hnext := kidsR_take (litR d) n hlt
     have a1 := o.up
     have a2 := o.top
     have a3 := o.num
     have a4 := o.len
     rw [List.length_take, Nat.min_eq_left hi] at a4
     have hcall := ih f.kids[i] (l ++ (kidsR (litR d) (f.kids.take i) n).1) (kidsR (litR d) (f.kids.take i) n).2.1 N (hk _ hmem) (hlk _ hmem) om om (by rw [List.length_append]; omega) om
     generalize kidsR (litR d) (f.kids.take i) n = K at *
     generalize litR d f.kids[i] K.2.1 = r at *
     refine kq <| rn 1 ?_
     refine kD (k_skip_seq (kq ?_))
     refine rkn 35 (decide ((↑i : Int) < (↑(List.length f.kids) : Int))) true (decide_eq_true om) ?_
     refine kct (k_skip_seq (kq (kZ (kq ?_))))
     refine runs_indexL (eFs f.kids) (o := none) (kd := IntKind.i64) (i) _ kr kr kr asm kr <| rn 1 <| rgf (D.lptr 8 0) ([Obj.cells [D.sl (rows (l ++ Prod.fst K)) (some 133), D.int IntKind.i64 K.2.1]]) <| rn 1 <| kD <| k_skip_seq <| runs_steal (.sl (ints K.2.2) (some 3)) kr kr <| rn 2 <| rcs ([.ptr 0 0, .agg [.int .i64 (Fm.op f.kids[i]), .int .i64 (Fm.n f.kids[i]), .sl (eFs (Fm.kids f.kids[i])) none]]) kr kr kr kr (hcall) <| rn 1 <| runs_append (ints K.2.2) ([[D.int IntKind.i64 r.2.2]]) (ints (Prod.snd K.2 ++ [Prod.snd r.2])) kr kr kr kr (by simp [ints, eInt, rows, eInts, bools, eBool, trips, eTrip, i8s, u16s, u8s, acts, room]; omega) (by simp [ints, eInt, rows, eInts, bools, eBool, trips, eTrip, i8s, u16s, u8s, acts]) <| runs_assign (D.sl (ints (Prod.snd K.2 ++ [Prod.snd r.2])) (some 3)) kr kr ?_
     refine kD (kY (k_skip_seq ?_))
     refine rvW ((↑i : Int) + 1) ((i + 1 : Nat) : Int) wE <| rn 1 <| kD <| kR ?_
     exact ⟨i + 1, hlt, om, by rw [hnext]; kernel_rfl, by rw [hnext, List.append_assoc]⟩
    ·obtain rfl : i = f.kids.length := by omega
     rw [List.take_length]
     have o := kids_OK (g := litR d) f.kids n hB (fun k hk' n hB => lit_OK B h0 d k n (hk k hk') (hlk k hk') hB)
     have a1 := o.up
     have a2 := o.top
     have a3 := o.num
     have a4 := o.len
     have a5 := o.vs
     generalize kidsR (litR d) f.kids n = K at *
     obtain ⟨N, rfl⟩ : ∃ m, N = m + 1 := ⟨N - 1, om⟩
     refine kq <| rn 1 ?_
     refine kD (k_skip_seq (kq ?_))
     refine rkn 35 (decide ((↑(List.length f.kids) : Int) < (↑(List.length f.kids) : Int))) false (decide_eq_false om) ?_
     refine kcf (k_exit_seq (k_exit_back (k_exit_hit rfl (k_skip_seq (kq ?_)))))
     refine rn 4 <| rvw (Prod.fst K.2 + 1) wE <| rn 2 <| rgf (D.junk) ([Obj.cells [D.sl (rows (l ++ Prod.fst K)) (some 133), D.int IntKind.i64 (Prod.fst K.2 + 1)]]) ?_
     refine kD (k_skip_seq (kq ?_))
     refine rn 5 ?_
     refine kD (k_skip_seq (kq ?_))
     refine rn 2 <| rvw ((-1 : Int) * (Prod.fst K.2 + 1)) wE <| rn 1 <| runs_assign (.sl [[.int .i64 ((-1 : Int) * (Prod.fst K.2 + 1))]] (some 3)) kr kr ?_
     refine kD (k_skip_seq (kq (kq ?_)))
     refine rn 1 <| rve (.int .i64 (↑(List.length (ints K.2.2)) : Int)) (.int IntKind.i64 ((↑(List.length K.2.2) : Int))) (by simp only [ints, eInt, rows, eInts, bools, eBool, trips, eTrip, i8s, u16s, u8s, acts, List.length_map]) <| rn 1 ?_
     refine kD (k_skip_seq (kZ ?_))
     refine k_loop (fun j : Nat => f45b f (-1) K.2.2 (K.2.1 + 1) (wholeL ((-1) * (K.2.1 + 1)) 1 K.2.2 j) j) (fun j => [MK (l ++ K.1 ++ pairL (1 * (K.2.1 + 1)) (-1) K.2.2 j) (K.2.1 + 1)]) (fun j => j ≤ K.2.2.length) (fun j => K.2.2.length - j) 0 kr (by simp [MK, pairL]) (by simp) (by intro s hs; omega) ?_
     intro j hj
     have hpl := pairL_len (1 * (K.2.1 + 1)) (-1) K.2.2 j
     have hwl := wholeL_len ((-1) * (K.2.1 + 1)) 1 K.2.2 j
     by_cases hlt : j < K.2.2.length
     ·have hv := a5 K.2.2[j] (List.getElem_mem hlt)
      have hw := wholeL_next ((-1) * (K.2.1 + 1)) 1 hlt
      have hp := pairL_next (1 * (K.2.1 + 1)) (-1) hlt
      have hput := put_ok N (l ++ K.1 ++ pairL (1 * (K.2.1 + 1)) (-1) K.2.2 j) (K.2.1 + 1) [1 * (K.2.1 + 1), (-1) * K.2.2[j]] none (by simp only [List.length_append]; omega)
      generalize pairL (1 * (K.2.1 + 1)) (-1) K.2.2 j = P at *
      generalize wholeL ((-1) * (K.2.1 + 1)) 1 K.2.2 j = W at *
      refine kq <| rn 1 ?_
      refine kD (k_skip_seq (kq ?_))
      refine rkn 63 (decide ((↑j : Int) < (↑(List.length K.2.2) : Int))) true (decide_eq_true om) ?_
      refine kct (k_skip_seq (kq (kZ (kq ?_))))
      refine runs_index K.2.2 (eInt) (o := none) (kd := IntKind.i64) (j) kr kr kr asm kr <| rn 2 ?_
      refine kD (k_skip_seq (kq ?_))
      refine rn 4 <| rvw ((1 : Int) * (Prod.fst K.2 + 1)) wE <| rn 2 <| rvw ((-1 : Int) * K.2.2[j]) wE <| rn 1 <| rcs ([.ptr 0 0, .sl [[.int .i64 ((1 : Int) * (Prod.fst K.2 + 1))], [.int .i64 ((-1 : Int) * K.2.2[j])]] none]) kr kr kr kr (hput) <| kD <| k_skip_seq <| runs_steal (.sl (ints W) (some 3)) kr kr <| rn 3 <| rvw ((1 : Int) * K.2.2[j]) wE <| rn 1 <| runs_append (ints W) ([[D.int IntKind.i64 ((1 : Int) * K.2.2[j])]]) (ints (W ++ [(1 : Int) * K.2.2[j]])) kr kr kr kr (by simp [ints, eInt, rows, eInts, bools, eBool, trips, eTrip, i8s, u16s, u8s, acts, room]; omega) (by simp [ints, eInt, rows, eInts, bools, eBool, trips, eTrip, i8s, u16s, u8s, acts]) <| runs_assign (D.sl (ints (W ++ [(1 : Int) * K.2.2[j]])) (some 3)) kr kr ?_
      refine kD (kY (k_skip_seq ?_))
      refine rvW ((↑j : Int) + 1) ((j + 1 : Nat) : Int) wE <| rn 1 <| kD <| kR ?_
      exact ⟨j + 1, hlt, om, by rw [hw]; kernel_rfl, by rw [hp, List.append_assoc]⟩
     ·obtain rfl : j = K.2.2.length := by omega
      have hg : gate (-1) (K.2.1 + 1) K.2.2 = pairL (1 * (K.2.1 + 1)) (-1) K.2.2 K.2.2.length ++ [wholeL ((-1) * (K.2.1 + 1)) 1 K.2.2 K.2.2.length] := gate_eq (-1) (K.2.1 + 1) K.2.2
      have hput := put_ok N (l ++ K.1 ++ pairL (1 * (K.2.1 + 1)) (-1) K.2.2 K.2.2.length) (K.2.1 + 1) (wholeL ((-1) * (K.2.1 + 1)) 1 K.2.2 K.2.2.length) none (by simp only [List.length_append]; omega)
      rw [hg]
      generalize pairL (1 * (K.2.1 + 1)) (-1) K.2.2 K.2.2.length = P at *
      generalize wholeL ((-1) * (K.2.1 + 1)) 1 K.2.2 K.2.2.length = W at *
      refine kq <| rn 1 ?_
      refine kD (k_skip_seq (kq ?_))
      refine rkn 63 (decide ((↑(List.length K.2.2) : Int) < (↑(List.length K.2.2) : Int))) false (decide_eq_false om) ?_
      refine kcf (k_exit_seq (k_exit_back (k_exit_hit rfl (k_skip_seq (kq ?_)))))
      refine rn 2 <| rcs ([.ptr 0 0, .sl (ints W) none]) kr kr kr kr (hput) ?_
      refine kD (k_skip_seq (kq ?_))
      refine rn 2 ?_
      refine kD (k_skip_seq (k_ret ?_))
      refine ⟨.inr rfl, kr, ?_⟩
      have hst : l ++ (K.1 ++ (P ++ [W])) = l ++ K.1 ++ P ++ [W] := by simp only [List.append_assoc]
      refine Eq.trans (b := some (D.int .i64 (K.2.1 + 1), [MK (l ++ K.1 ++ P ++ [W]) (K.2.1 + 1)])) (by show _ = _; kernel_rfl) ?_
      rw [← hst]
   ·have hsgn : sgn f.op = 1 := by unfold sgn; simp [c6]
    rw [hsgn] at e
    rw [e]
    refine kq <| rn 2 ?_
    refine kD (k_skip_seq (kq (kq ?_)))
    refine rn 2 ?_
    refine kD (k_skip_seq (kZ (kq ?_)))
    refine rn 2 <| kD <| k_skip_seq <| rkn 15 (Fm.op f == 3) false (decide_eq_false asm) <| kcf <| kq <| rn 2 <| kD <| k_skip_seq <| rkn 19 (Fm.op f == 4) false (decide_eq_false asm) ?_
    refine kcf (kY (k_skip_seq (kq ?_)))
    refine rn 1 ?_
    refine kD (k_skip_seq (kq (kq ?_)))
    refine rn 3 <| kD <| k_skip_seq <| rkn 30 (Fm.op f == 6) false (decide_eq_false asm) ?_
    refine kcf (k_skip_seq (kq ?_))
    refine rn 1 ?_
    refine kD (k_skip_seq (kq (kq ?_)))
    refine rn 2 <| rve (.int .i64 (↑(List.length (eFs f.kids)) : Int)) (.int IntKind.i64 ((↑(List.length f.kids) : Int))) (by simp only [eFs_length]) <| rn 1 ?_
    refine kD (k_skip_seq (kZ ?_))
    refine k_loop (fun i : Nat => f45a f 1 (kidsR (litR d) (f.kids.take i) n).2.2 i) (fun i => [MK (l ++ (kidsR (litR d) (f.kids.take i) n).1) (kidsR (litR d) (f.kids.take i) n).2.1]) (fun i => i ≤ f.kids.length) (fun i => f.kids.length - i) 0 kr (by rw [List.take_zero]; simp [kidsR, MK]) (by simp) (by intro s hs; omega) ?_
    intro i hi
    by_cases hlt : i < f.kids.length
    ·have hg := kid_at hlt
     have hnt := nodesL_take hlt
     have hmem := List.getElem_mem hlt
     have o := kids_OK (g := litR d) (f.kids.take i) n hB (fun k hk' n hB => lit_OK B h0 d k n (hk k (List.mem_of_mem_take hk')) (hlk k (List.mem_of_mem_take hk')) hB)
     have hnext := kidsR_take (litR d) n hlt
     have a1 := o.up
     have a2 := o.top
     have a3 := o.num
     have a4 := o.len
     rw [List.length_take, Nat.min_eq_left hi] at a4
     have hcall := ih f.kids[i] (l ++ (kidsR (litR d) (f.kids.take i) n).1) (kidsR (litR d) (f.kids.take i) n).2.1 N (hk _ hmem) (hlk _ hmem) om om (by rw [List.length_append]; omega) om
     generalize kidsR (litR d) (f.kids.take i) n = K at *
     generalize litR d f.kids[i] K.2.1 = r at *
     refine kq <| rn 1 ?_
     refine kD (k_skip_seq (kq ?_))
     refine rkn 35 (decide ((↑i : Int) < (↑(List.length f.kids) : Int))) true (decide_eq_true om) ?_
     refine kct (k_skip_seq (kq (kZ (kq ?_))))
     refine runs_indexL (eFs f.kids) (o := none) (kd := IntKind.i64) (i) _ kr kr kr asm kr <| rn 1 <| rgf (D.lptr 8 0) ([Obj.cells [D.sl (rows (l ++ Prod.fst K)) (some 133), D.int IntKind.i64 K.2.1]]) <| rn 1 <| kD <| k_skip_seq <| runs_steal (.sl (ints K.2.2) (some 3)) kr kr <| rn 2 <| rcs ([.ptr 0 0, .agg [.int .i64 (Fm.op f.kids[i]), .int .i64 (Fm.n f.kids[i]), .sl (eFs (Fm.kids f.kids[i])) none]]) kr kr kr kr (hcall) <| rn 1 <| runs_append (ints K.2.2) ([[D.int IntKind.i64 r.2.2]]) (ints (Prod.snd K.2 ++ [Prod.snd r.2])) kr kr kr kr (by simp [ints, eInt, rows, eInts, bools, eBool, trips, eTrip, i8s, u16s, u8s, acts, room]; omega) (by simp [ints, eInt, rows, eInts, bools, eBool, trips, eTrip, i8s, u16s, u8s, acts]) <| runs_assign (D.sl (ints (Prod.snd K.2 ++ [Prod.snd r.2])) (some 3)) kr kr ?_
     refine kD (kY (k_skip_seq ?_))
     refine rvW ((↑i : Int) + 1) ((i + 1 : Nat) : Int) wE <| rn 1 <| kD <| kR ?_
     exact ⟨i + 1, hlt, om, by rw [hnext]; kernel_rfl, by rw [hnext, List.append_assoc]⟩
    ·obtain rfl : i = f.kids.length := by omega
     rw [List.take_length]
     have o := kids_OK (g := litR d) f.kids n hB (fun k hk' n hB => lit_OK B h0 d k n (hk k hk') (hlk k hk') hB)
     have a1 := o.up
     have a2 := o.top
     have a3 := o.num
     have a4 := o.len
     have a5 := o.vs
     generalize kidsR (litR d) f.kids n = K at *
     obtain ⟨N, rfl⟩ : ∃ m, N = m + 1 := ⟨N - 1, om⟩
     refine kq <| rn 1 ?_
     refine kD (k_skip_seq (kq ?_))
     refine rkn 35 (decide ((↑(List.length f.kids) : Int) < (↑(List.length f.kids) : Int))) false (decide_eq_false om) ?_
     refine kcf (k_exit_seq (k_exit_back (k_exit_hit rfl (k_skip_seq (kq ?_)))))
     refine rn 4 <| rvw (Prod.fst K.2 + 1) wE <| rn 2 <| rgf (D.junk) ([Obj.cells [D.sl (rows (l ++ Prod.fst K)) (some 133), D.int IntKind.i64 (Prod.fst K.2 + 1)]]) ?_
     refine kD (k_skip_seq (kq ?_))
     refine rn 5 ?_
     refine kD (k_skip_seq (kq ?_))
     refine rn 2 <| rvw ((1 : Int) * (Prod.fst K.2 + 1)) wE <| rn 1 <| runs_assign (.sl [[.int .i64 ((1 : Int) * (Prod.fst K.2 + 1))]] (some 3)) kr kr ?_
     refine kD (k_skip_seq (kq (kq ?_)))
     refine rn 1 <| rve (.int .i64 (↑(List.length (ints K.2.2)) : Int)) (.int IntKind.i64 ((↑(List.length K.2.2) : Int))) (by simp only [ints, eInt, rows, eInts, bools, eBool, trips, eTrip, i8s, u16s, u8s, acts, List.length_map]) <| rn 1 ?_
     refine kD (k_skip_seq (kZ ?_))
     refine k_loop (fun j : Nat => f45b f 1 K.2.2 (K.2.1 + 1) (wholeL (1 * (K.2.1 + 1)) (-1) K.2.2 j) j) (fun j => [MK (l ++ K.1 ++ pairL ((-1) * (K.2.1 + 1)) 1 K.2.2 j) (K.2.1 + 1)]) (fun j => j ≤ K.2.2.length) (fun j => K.2.2.length - j) 0 kr (by simp [MK, pairL]) (by simp) (by intro s hs; omega) ?_
     intro j hj
     have hpl := pairL_len ((-1) * (K.2.1 + 1)) 1 K.2.2 j
     have hwl := wholeL_len (1 * (K.2.1 + 1)) (-1) K.2.2 j
     by_cases hlt : j < K.2.2.length
     ·have hv := a5 K.2.2[j] (List.getElem_mem hlt)
      have hw := wholeL_next (1 * (K.2.1 + 1)) (-1) hlt
      have hp := pairL_next ((-1) * (K.2.1 + 1)) 1 hlt
      have hput := put_ok N (l ++ K.1 ++ pairL ((-1) * (K.2.1 + 1)) 1 K.2.2 j) (K.2.1 + 1) [(-1) * (K.2.1 + 1), 1 * K.2.2[j]] none (by simp only [List.length_append]; omega)
      generalize pairL ((-1) * (K.2.1 + 1)) 1 K.2.2 j = P at *
      generalize wholeL (1 * (K.2.1 + 1)) (-1) K.2.2 j = W at *
      refine kq <| rn 1 ?_
      refine kD (k_skip_seq (kq ?_))
      refine rkn 63 (decide ((↑j : Int) < (↑(List.length K.2.2) : Int))) true (decide_eq_true om) ?_
      refine kct (k_skip_seq (kq (kZ (kq ?_))))
      refine runs_index K.2.2 (eInt) (o := none) (kd := IntKind.i64) (j) kr kr kr asm kr <| rn 2 ?_
      refine kD (k_skip_seq (kq ?_))
      refine rn 4 <| rvw ((-1 : Int) * (Prod.fst K.2 + 1)) wE <| rn 2 <| rvw ((1 : Int) * K.2.2[j]) wE <| rn 1 <| rcs ([.ptr 0 0, .sl [[.int .i64 ((-1 : Int) * (Prod.fst K.2 + 1))], [.int .i64 ((1 : Int) * K.2.2[j])]] none]) kr kr kr kr (hput) <| kD <| k_skip_seq <| runs_steal (.sl (ints W) (some 3)) kr kr <| rn 3 <| rvw ((-1 : Int) * K.2.2[j]) wE <| rn 1 <| runs_append (ints W) ([[D.int IntKind.i64 ((-1 : Int) * K.2.2[j])]]) (ints (W ++ [(-1 : Int) * K.2.2[j]])) kr kr kr kr (by simp [ints, eInt, rows, eInts, bools, eBool, trips, eTrip, i8s, u16s, u8s, acts, room]; omega) (by simp [ints, eInt, rows, eInts, bools, eBool, trips, eTrip, i8s, u16s, u8s, acts]) <| runs_assign (D.sl (ints (W ++ [(-1 : Int) * K.2.2[j]])) (some 3)) kr kr ?_
      refine kD (kY (k_skip_seq ?_))
      refine rvW ((↑j : Int) + 1) ((j + 1 : Nat) : Int) wE <| rn 1 <| kD <| kR ?_
      exact ⟨j + 1, hlt, om, by rw [hw]; kernel_rfl, by rw [hp, List.append_assoc]⟩
     ·obtain rfl : j = K.2.2.length := by omega
      have hg : gate 1 (K.2.1 + 1) K.2.2 = pairL ((-1) * (K.2.1 + 1)) 1 K.2.2 K.2.2.length ++ [wholeL (1 * (K.2.1 + 1)) (-1) K.2.2 K.2.2.length] := gate_eq 1 (K.2.1 + 1) K.2.2
      have hput := put_ok N (l ++ K.1 ++ pairL ((-1) * (K.2.1 + 1)) 1 K.2.2 K.2.2.length) (K.2.1 + 1) (wholeL (1 * (K.2.1 + 1)) (-1) K.2.2 K.2.2.length) none (by simp only [List.length_append]; omega)
      rw [hg]
      generalize pairL ((-1) * (K.2.1 + 1)) 1 K.2.2 K.2.2.length = P at *
      generalize wholeL (1 * (K.2.1 + 1)) (-1) K.2.2 K.2.2.length = W at *
      refine kq <| rn 1 ?_
      refine kD (k_skip_seq (kq ?_))
      refine rkn 63 (decide ((↑(List.length K.2.2) : Int) < (↑(List.length K.2.2) : Int))) false (decide_eq_false om) ?_
      refine kcf (k_exit_seq (k_exit_back (k_exit_hit rfl (k_skip_seq (kq ?_)))))
      refine rn 2 <| rcs ([.ptr 0 0, .sl (ints W) none]) kr kr kr kr (hput) ?_
      refine kD (k_skip_seq (kq ?_))
      refine rn 2 ?_
      refine kD (k_skip_seq (k_ret ?_))
      refine ⟨.inr rfl, kr, ?_⟩
      have hst : l ++ (K.1 ++ (P ++ [W])) = l ++ K.1 ++ P ++ [W] := by simp only [List.append_assoc]
      refine Eq.trans (b := some (D.int .i64 (K.2.1 + 1), [MK (l ++ K.1 ++ P ++ [W]) (K.2.1 + 1)])) (by show _ = _; kernel_rfl) ?_
      rw [← hst]
theorem of_ok (d : Nat) (f : Fm) (N : Nat) (o : Option Nat) (hf : fits (d + 1) f) (hm : mayR (d + 1) f = true) (A : Int) (hA0 : 0 ≤ A) (hA1 : A ≤ 100000) (ha : atomsR (d + 1) f ≤ A) (hn : nodes f ≤ 40000) (hd : d ≤ 1000) (hN : 2000 + 200 ≤ N) :
  ∃ σ', callN T (N + 1) 32 [.agg (eF f), .int .i64 A] [] = some (.tup [.sl (rows (ofR (d + 1) f A).1) none, .int .i64 (ofR (d + 1) f A).2], σ') := by
 have hlow := atoms_low A (d + 1) f hf ha
 have hs := simple_nodes A (d + 1) f hf hlow
 have hnice := simple_nice (d + 1) f hf hm
 have c20 := atoms_ok (d + 1) f N [] hf om
 have c22 := simple_ok (d + 1) f N [] hf hm om
 have hmax : ¬ atomsR (d + 1) f > A := by omega
 have h06 : ¬ (0 : Int) > A := by omega
 have hlit := fun h1 h2 => literal_ok A hA0 (d + 1) (simpleR (d + 1) f) [] A N (nice_3 hnice h1 h2) hs.2 om (by have := hs.1; omega) (by have := hs.1; simp; omega) om
 have hok := fun h1 h2 => lit_OK A hA0 (d + 1) (simpleR (d + 1) f) A (nice_3 hnice h1 h2) hs.2 om
 unfold ofR
 generalize simpleR (d + 1) f = s at *
 obtain ⟨N, rfl⟩ : ∃ m, N = m + 1 := ⟨N - 1, om⟩
 by_cases c1 : s.op = 1
 ·rw [if_pos c1]
  refine ⟨[], ?_⟩
  refine call_of (m := m32) rfl rfl (by decide) (k_start ?_)
  unfold m32
  refine kq <| rn 3 ?_
  refine kD (k_skip_seq (kq ?_))
  refine rn 2 <| rca ([.agg [.int .i64 f.op, .int .i64 f.n, .sl (eFs f.kids) none]]) kr kr kr kr (c20) kr <| rve (.int .i64 (if (0 : Int) > if atomsR (d + 1) f > A then atomsR (d + 1) f else A then (0 : Int) else if atomsR (d + 1) f > A then atomsR (d + 1) f else A)) (.int IntKind.i64 (A)) (congrArg (D.int IntKind.i64) ((if_neg om).trans (if_neg asm))) <| rn 3 ?_
  refine kD (k_skip_seq (kq (kq ?_)))
  refine rn 1 <| rca ([.agg [.int .i64 f.op, .int .i64 f.n, .sl (eFs f.kids) none]]) kr kr kr kr (c22) kr <| rn 2 ?_
  refine kD (k_skip_seq (kq ?_))
  refine rn 1 <| rve (.int .i64 s.op) (.int IntKind.i64 (1 : Int)) (congrArg (D.int IntKind.i64) (show Fm.op s = 1 from c1)) ?_
  refine kD (k_skip_seq (kZ (kq ?_)))
  refine rn 2 ?_
  refine kD (k_skip_seq (kct (kY (k_skip_seq (kq ?_)))))
  refine rn 10 ?_
  refine kD (k_skip_seq (k_ret ?_))
  exact ⟨.inr rfl, kr, kr⟩
 rw [if_neg c1]
 by_cases c2 : s.op = 2
 ·rw [if_pos c2]
  have hput := put_ok N [] A [] none (by simp)
  refine ⟨[MK [[]] A], ?_⟩
  refine call_of (m := m32) rfl rfl (by decide) (k_start ?_)
  unfold m32
  refine kq <| rn 3 ?_
  refine kD (k_skip_seq (kq ?_))
  refine rn 2 <| rca ([.agg [.int .i64 f.op, .int .i64 f.n, .sl (eFs f.kids) none]]) kr kr kr kr (c20) kr <| rve (.int .i64 (if (0 : Int) > if atomsR (d + 1) f > A then atomsR (d + 1) f else A then (0 : Int) else if atomsR (d + 1) f > A then atomsR (d + 1) f else A)) (.int IntKind.i64 (A)) (congrArg (D.int IntKind.i64) ((if_neg om).trans (if_neg asm))) <| rn 3 ?_
  refine kD (k_skip_seq (kq (kq ?_)))
  refine rn 1 <| rca ([.agg [.int .i64 f.op, .int .i64 f.n, .sl (eFs f.kids) none]]) kr kr kr kr (c22) kr <| rn 2 ?_
  refine kD (k_skip_seq (kq ?_))
  refine rn 1 <| rve (.int .i64 s.op) (.int IntKind.i64 (2 : Int)) (congrArg (D.int IntKind.i64) (show Fm.op s = 2 from c2)) ?_
  refine kD (k_skip_seq (kZ (kq ?_)))
  refine rn 2 ?_
  refine kD (k_skip_seq (kcf (kq ?_)))
  refine rn 2 ?_
  refine kD (k_skip_seq (kct ?_))
  refine rn 1 <| runs_prom ([.ptr 0 0, .sl [] none]) ([Obj.cells [.sl [] (some 133), .int .i64 A]]) kr kr kr kr <| rcs ([.ptr 0 0, .sl [] none]) kr kr kr kr (hput) ?_
  refine kD (kY (k_skip_seq (kq ?_)))
  refine rn 10 ?_
  refine kD (k_skip_seq (k_ret ?_))
  exact ⟨.inr rfl, kr, kr⟩
 rw [if_neg c2]
 have hlit := hlit c1 c2
 have hok := (hok c1 c2).num
 have hsn := hs.1
 generalize litR (d + 1) s A = r at *
 have hput := put_ok N ([] ++ r.1) r.2.1 [r.2.2] none (by simp; omega)
 refine ⟨[MK ([] ++ r.1 ++ [[r.2.2]]) r.2.1], ?_⟩
 refine call_of (m := m32) rfl rfl (by decide) (k_start ?_)
 unfold m32
 refine kq <| rn 3 ?_
 refine kD (k_skip_seq (kq ?_))
 refine rn 2 <| rca ([.agg [.int .i64 f.op, .int .i64 f.n, .sl (eFs f.kids) none]]) kr kr kr kr (c20) kr <| rve (.int .i64 (if (0 : Int) > if atomsR (d + 1) f > A then atomsR (d + 1) f else A then (0 : Int) else if atomsR (d + 1) f > A then atomsR (d + 1) f else A)) (.int IntKind.i64 (A)) (congrArg (D.int IntKind.i64) ((if_neg om).trans (if_neg asm))) <| rn 3 ?_
 refine kD (k_skip_seq (kq (kq ?_)))
 refine rn 1 <| rca ([.agg [.int .i64 f.op, .int .i64 f.n, .sl (eFs f.kids) none]]) kr kr kr kr (c22) kr <| rn 2 ?_
 refine kD (k_skip_seq (kq ?_))
 refine rn 2 ?_
 refine kD (k_skip_seq (kZ (kq ?_)))
 refine rn 2 <| kD <| k_skip_seq <| rkn 24 (Fm.op s == 1) false (decide_eq_false asm) <| kcf <| kq <| rn 2 <| kD <| k_skip_seq <| rkn 26 (Fm.op s == 2) false (decide_eq_false asm) <| kcf <| rn 3 <| runs_prom ([.ptr 0 0, .agg [.int .i64 s.op, .int .i64 s.n, .sl (eFs s.kids) none]]) ([Obj.cells [.sl [] (some 133), .int .i64 A]]) kr kr kr kr <| rcs ([.ptr 0 0, .agg [.int .i64 s.op, .int .i64 s.n, .sl (eFs s.kids) none]]) kr kr kr kr (hlit) <| rn 1 <| rcs ([.ptr 0 0, .sl [[.int .i64 r.2.2]] none]) kr kr kr kr (hput) ?_
 refine kD (kY (k_skip_seq (kq ?_)))
 refine rn 10 ?_
 refine kD (k_skip_seq (k_ret ?_))
 exact ⟨.inr rfl, kr, kr⟩
end Go.Abs.W

namespace Go.Abs.W
open Go Go.Abs
set_option maxRecDepth 8000
theorem look_unit {N : Nat} (a : List Int) : ∀ (c : List Int) (last v : Int), okC N c → lookR a c last = (v, true) → v ≠ 0 → (last = 0 ∨ last = v) ∧ ∀ u ∈ c, u = v ∨ soR a u = -1
 | [], last, v, _, h, _ => ⟨.inr (congrArg Prod.fst h), fun u hu => (List.not_mem_nil hu).elim⟩
 | x :: c, last, v, hc, h, hv => by
  have hx0 := (hc x (by simp)).1
  have hc' : okC N c := fun u hu => hc u (by simp [hu])
  rw [lookR_cons] at h
  split at h
  ·exact absurd (congrArg Prod.fst h).symm hv
  ·rename_i n1
   split at h
   ·split at h
    ·exact absurd (congrArg Prod.fst h).symm hv
    ·rename_i n2
     obtain ⟨q1, q2⟩ := look_unit a c x v hc' h hv
     have hxv : x = v := by
      rcases q1 with q1 | q1
      ·exact absurd q1 hx0
      ·exact q1
     refine ⟨?_, fun u hu => ?_⟩
     ·by_cases h0 : last = 0
      ·exact .inl h0
      ·right
       by_cases h1 : last = x
       ·rw [h1, hxv]
       ·exact absurd ⟨h0, h1⟩ n2
     ·rcases List.mem_cons.1 hu with rfl | hu
      ·exact .inl hxv
      ·exact q2 u hu
   ·rename_i n0
    obtain ⟨q1, q2⟩ := look_unit a c last v hc' h hv
    refine ⟨q1, fun u hu => ?_⟩
    rcases List.mem_cons.1 hu with rfl | hu
    ·right
     rcases soR_cases a u with h | h | h
     ·exact absurd h n0
     ·exact absurd h n1
     ·exact h
    ·exact q2 u hu
theorem look_fail {N : Nat} (a : List Int) : ∀ (c : List Int) (last : Int), okC N c → (lookR a c last).2 = false → last = 0 ∧ ∀ u ∈ c, soR a u = -1
 | [], last, _, h => ⟨by simpa [lookR] using h, fun u hu => (List.not_mem_nil hu).elim⟩
 | x :: c, last, hc, h => by
  have hx0 := (hc x (by simp)).1
  have hc' : okC N c := fun u hu => hc u (by simp [hu])
  rw [lookR_cons] at h
  split at h
  ·cases h
  ·rename_i n1
   split at h
   ·split at h
    ·cases h
    ·exact absurd (look_fail a c x hc' h).1 hx0
   ·rename_i n0
    obtain ⟨q1, q2⟩ := look_fail a c last hc' h
    refine ⟨q1, fun u hu => ?_⟩
    rcases List.mem_cons.1 hu with rfl | hu
    ·rcases soR_cases a u with h | h | h
     ·exact absurd h n0
     ·exact absurd h n1
     ·exact h
    ·exact q2 u hu
theorem look_met (a : List Int) : ∀ (c : List Int), (lookR a c 0).1 = 0 → (lookR a c 0).2 = true → (∀ u ∈ c, soR a u ≠ 0) → ∃ u ∈ c, soR a u = 1
 | [], _, h, _ => by simp [lookR] at h
 | x :: c, h1, h2, h0 => by
  rw [lookR_cons] at h1 h2
  by_cases n1 : soR a x = 1
  ·exact ⟨x, by simp, n1⟩
  ·rw [if_neg n1, if_neg (h0 x (by simp))] at h1 h2
   obtain ⟨u, hu, hs⟩ := look_met a c h1 h2 (fun u hu => h0 u (by simp [hu]))
   exact ⟨u, by simp [hu], hs⟩
theorem so_one {a : List Int} {v : Int} (h : soR a v = 1) : atv a v = v := by
 unfold soR at h
 split at h
 ·cases h
 ·split at h
  ·assumption
  ·cases h
theorem so_neg1 {N : Nat} {a : List Int} {t : List (Int × Int)} (hW : WF N a t) {u : Int} (h : soR a u = -1) : ∃ b, (0 - u, b) ∈ t := by
 unfold soR at h
 by_cases h0 : atv a u = 0
 ·rw [if_pos h0] at h
  cases h
 ·rw [if_neg h0] at h
  have hm : u.natAbs ∈ t.map varOf := by
   by_cases hm : u.natAbs ∈ t.map varOf
   ·exact hm
   ·exact absurd (hW.out hm) h0
  obtain ⟨f, hf, he⟩ := List.mem_map.1 hm
  have h1 := hW.inn hf he.symm
  have hne : f.1 ≠ u := by
   intro h2
   rw [h1, if_pos h2] at h
   cases h
  have h2 : f.1 = 0 - u := by
   unfold varOf at he
   omega
  refine ⟨f.2, ?_⟩
  rw [← h2]
  exact hf
def TI (G : Nat → List Int) (t : List (Int × Int)) : Prop := ∀ (i : Nat) (hi : i < t.length), t[i].2 = -1 ∨ (0 ≤ t[i].2 ∧ t[i].1 ∈ G t[i].2.toNat ∧ ∀ v ∈ G t[i].2.toNat, v = t[i].1 ∨ ∃ b, (0 - v, b) ∈ t.take i)
theorem TI.nil (G : Nat → List Int) : TI G [] := fun i hi => absurd hi (by simp)
theorem TI.snoc {G : Nat → List Int} {t : List (Int × Int)} (h : TI G t) {f : Int × Int} (hf : f.2 = -1 ∨ (0 ≤ f.2 ∧ f.1 ∈ G f.2.toNat ∧ ∀ v ∈ G f.2.toNat, v = f.1 ∨ ∃ b, (0 - v, b) ∈ t)) : TI G (t ++ [f]) := by
 intro i hi
 by_cases hl : i < t.length
 ·rw [List.getElem_append_left hl, List.take_append_of_le_length om]
  exact h i hl
 ·have he : i = t.length := by
   simp only [List.length_append, List.length_cons, List.length_nil] at hi
   omega
  subst he
  have h1 : (t ++ [f])[t.length]'hi = f := by simp
  have h2 : (t ++ [f]).take t.length = t := by simp
  rw [h1, h2]
  exact hf
theorem TI.take {G : Nat → List Int} {t : List (Int × Int)} (h : TI G t) (n : Nat) : TI G (t.take n) := by
 intro i hi
 rw [List.length_take] at hi
 have h1 : (t.take n)[i]'(by rw [List.length_take]; exact hi) = t[i]'om := List.getElem_take
 have h2 : (t.take n).take i = t.take i := by rw [List.take_take, Nat.min_eq_left om]
 rw [h1, h2]
 exact h i om
theorem pass_TI {N : Nat} {G : Nat → List Int} : ∀ (L : List (List Int)) (i : Nat) (a : List Int) (t : List (Int × Int)) (more : Bool), WF N a t → (∀ c ∈ L, okC N c) → (∀ (j : Nat) (hj : j < L.length), G (i + j) = L[j]) → TI G t →
    TI G (passR L i a t more).2.2.1 ∧ (∀ e, (passR L i a t more).2.2.1 = t ++ e → ∀ f ∈ e, 0 ≤ f.2) ∧
    (∀ j : Int, (passR L i a t more).1 = some j → ∀ u ∈ G j.toNat, soR (passR L i a t more).2.1 u = -1) ∧
    ((passR L i a t more).1 = none → (passR L i a t more).2.2.2 = false → (passR L i a t more).2.1 = a ∧ (passR L i a t more).2.2.1 = t ∧ ∀ c ∈ L, lookR a c 0 = (0, true))
  | [], i, a, t, more, _, _, _, hT => by
    refine ⟨hT, fun e he f hf => ?_, fun j hj => by simp [passR] at hj, fun _ _ => ⟨rfl, rfl, fun c hc => (List.not_mem_nil hc).elim⟩⟩
    have : e = [] := by
      have h : t = t ++ e := he
      exact List.self_eq_append_right.1 h
    subst this
    exact (List.not_mem_nil hf).elim
  | c :: L, i, a, t, more, hW, hL, hG, hT => by
    have hL' : ∀ c ∈ L, okC N c := fun d hd => hL d (by simp [hd])
    have hG' : ∀ (j : Nat) (hj : j < L.length), G (i + 1 + j) = L[j] := fun j hj => by
      have := hG (j + 1) (by simp; omega)
      rw [show i + 1 + j = i + (j + 1) by omega, this]
      rfl
    have hG0 : G i = c := by
      have := hG 0 (by simp)
      simpa using this
    have hci : ((i + 1 : Nat) : Int) = (i : Int) + 1 := rfl
    unfold passR
    by_cases h1 : (lookR a c 0).2 = false
    · rw [if_pos h1]
      refine ⟨hT, fun e he f hf => ?_, fun j hj => ?_, fun h => by cases h⟩
      · have : e = [] := List.self_eq_append_right.1 he
        subst this
        exact (List.not_mem_nil hf).elim
      · simp only [Option.some.injEq] at hj
        subst hj
        have e1 : ((i : Int)).toNat = i := by simp
        rw [e1, hG0]
        exact (look_fail a c 0 (hL c (by simp)) h1).2
    · rw [if_neg h1]
      have h1' : (lookR a c 0).2 = true := by simpa using h1
      by_cases h2 : (lookR a c 0).1 ≠ 0
      · rw [if_pos h2]
        obtain ⟨h3, h4, h5⟩ := look_step hW (hL c (by simp)) h1 h2 (i : Int)
        have he : lookR a c 0 = ((lookR a c 0).1, true) := by rw [← h1']
        have hun := look_unit a c 0 _ (hL c (by simp)) he h2
        have hin : (lookR a c 0).1 ∈ c := by
          rcases look_fact a c 0 _ (.inl rfl) he with h | ⟨_, h⟩
          · exact absurd h h2
          · rcases h with h | h
            · exact h
            · exact absurd h h2
        have hT' : TI G (t ++ [((lookR a c 0).1, (i : Int))]) := by
          refine hT.snoc (.inr ⟨by show (0 : Int) ≤ i; omega, ?_, ?_⟩)
          · show _ ∈ G ((i : Int)).toNat
            rw [show ((i : Int)).toNat = i by simp, hG0]
            exact hin
          · intro v hv
            change v ∈ G ((i : Int)).toNat at hv
            rw [show ((i : Int)).toNat = i by simp, hG0] at hv
            rcases hun.2 v hv with h | h
            · exact .inl h
            · exact .inr (so_neg1 hW h)
        have r := pass_TI L (i + 1) _ _ true h5 hL' hG' hT'
        rw [hci] at r
        obtain ⟨r1, r2, r3, r4⟩ := r
        refine ⟨r1, fun e he2 f hf => ?_, r3, fun q1 q2 => ?_⟩
        · obtain ⟨_, ⟨e3, he3⟩, _⟩ := pass_wf L ((i : Int) + 1) _ _ true h5 hL'
          have hh := r2 e3 he3
          rw [he3, List.append_assoc] at he2
          have := List.append_cancel_left he2
          rw [← this] at hf
          rcases List.mem_append.1 hf with hf | hf
          · simp only [List.mem_singleton] at hf
            subst hf
            show (0 : Int) ≤ i
            omega
          · exact hh f hf
        · exfalso
          have := pass_more L ((i : Int) + 1) (a.set (lookR a c 0).1.natAbs (lookR a c 0).1) (t ++ [((lookR a c 0).1, (i : Int))])
          rw [this] at q2
          cases q2
      · rw [if_neg h2]
        have h2' : (lookR a c 0).1 = 0 := by
          by_cases h : (lookR a c 0).1 = 0
          · exact h
          · exact absurd h h2
        have r := pass_TI L (i + 1) a t more hW hL' hG' hT
        rw [hci] at r
        obtain ⟨r1, r2, r3, r4⟩ := r
        refine ⟨r1, r2, r3, fun q1 q2 => ?_⟩
        obtain ⟨s1, s2, s3⟩ := r4 q1 q2
        refine ⟨s1, s2, fun d hd => ?_⟩
        rcases List.mem_cons.1 hd with rfl | hd
        · exact Prod.ext h2' h1'
        · exact s3 d hd
 where
  pass_more : ∀ (L : List (List Int)) (i : Int) (a : List Int) (t : List (Int × Int)), (passR L i a t true).2.2.2 = true
  | [], _, _, _ => rfl
  | c :: L, i, a, t => by
    unfold passR
    split
    · rfl
    · split
      · exact pass_more L _ _ _
      · exact pass_more L _ _ _
end Go.Abs.W

namespace Go.Abs.W
open Go Go.Abs
set_option maxRecDepth 8000
theorem spread_pre {N : Nat} {L : List (List Int)} (hL : ∀ c ∈ L, okC N c) : ∀ (k : Nat) (a : List Int) (t : List (Int × Int)), WF N a t → ∃ e, (spreadR k L a t).2.2 = t ++ e
 | 0, _, t, _ => ⟨[], by simp [spreadR]⟩
 | k + 1, a, t, hW => by
  have hp := pass_wf L 0 a t false hW hL
  unfold spreadR
  generalize passR L 0 a t false = r at *
  obtain ⟨o, a1, t1, m⟩ := r
  simp only [] at hp
  obtain ⟨h1, ⟨e, h2⟩, h3⟩ := hp
  cases o with
  | some i => exact ⟨e, h2⟩
  | none =>
   cases m with
   | false => exact ⟨e, h2⟩
   | true =>
    obtain ⟨e2, he2⟩ := spread_pre hL k a1 t1 h1
    refine ⟨e ++ e2, ?_⟩
    simp only []
    rw [he2, h2, List.append_assoc]
theorem spread_TI {N : Nat} {G : Nat → List Int} {L : List (List Int)} (h0 : 0 < N) (hL : ∀ c ∈ L, okC N c) (hG : ∀ (j : Nat) (hj : j < L.length), G j = L[j]) : ∀ (k : Nat) (a : List Int) (t : List (Int × Int)), WF N a t → TI G t → N - t.length < k →
  TI G (spreadR k L a t).2.2 ∧ (∀ e, (spreadR k L a t).2.2 = t ++ e → ∀ f ∈ e, 0 ≤ f.2) ∧ (0 ≤ (spreadR k L a t).1 → ∀ u ∈ G (spreadR k L a t).1.toNat, soR (spreadR k L a t).2.1 u = -1) ∧ ((spreadR k L a t).1 < 0 → ∀ c ∈ L, lookR (spreadR k L a t).2.1 c 0 = (0, true))
 | 0, _, _, _, _, h => by omega
 | k + 1, a, t, hW, hT, hk => by
  have hp := pass_wf L 0 a t false hW hL
  have hq := pass_TI L 0 a t false hW hL (fun j hj => by rw [Nat.zero_add]; exact hG j hj) hT
  have hi := pass_idx L 0 a t false
  rw [show ((0 : Nat) : Int) = 0 from rfl] at hq
  unfold spreadR
  generalize passR L 0 a t false = r at *
  obtain ⟨o, a1, t1, m⟩ := r
  simp only [] at hp hq hi
  obtain ⟨h1, ⟨e, h2⟩, h3⟩ := hp
  obtain ⟨q1, q2, q3, q4⟩ := hq
  cases o with
  | some i =>
   have := hi i rfl
   simp only []
   exact ⟨q1, q2, fun _ => q3 i rfl, fun h => by omega⟩
  | none =>
   cases m with
   | false =>
    simp only []
    obtain ⟨s1, s2, s3⟩ := q4 rfl rfl
    subst s1 s2
    exact ⟨q1, q2, fun h => by omega, fun _ => s3⟩
   | true =>
    simp only []
    have hlt : t.length < t1.length := by
     rcases h3 rfl with h | h
     ·cases h
     ·exact h
    have hw1 := h1.len_le h0
    obtain ⟨r1, r2, r3, r4⟩ := spread_TI h0 hL hG k a1 t1 h1 q1 om
    refine ⟨r1, fun e2 he2 f hf => ?_, r3, r4⟩
    obtain ⟨e3, he3⟩ := spread_pre hL k a1 t1 h1
    rw [he3, h2, List.append_assoc] at he2
    have := List.append_cancel_left he2
    rw [← this] at hf
    rcases List.mem_append.1 hf with hf | hf
    ·exact q2 e h2 f hf
    ·exact r2 e3 he3 f hf
theorem addAll_mem2 (w : Int) : ∀ (xs out : List Int) (v : Int), v ∈ addAll w xs out → v ∈ out ∨ (v ∈ xs ∧ v ≠ w)
 | [], out, v, h => .inl h
 | x :: xs, out, v, h => by
  simp only [addAll] at h
  rcases addAll_mem2 w xs _ v h with h | h
  ·by_cases hc : x ≠ w ∧ x ∉ out
   ·rw [if_pos hc] at h
    rcases List.mem_append.1 h with h | h
    ·exact .inl h
    ·simp only [List.mem_singleton] at h
     subst h
     exact .inr ⟨by simp, hc.1⟩
   ·rw [if_neg hc] at h
    exact .inl h
  ·exact .inr ⟨List.mem_cons_of_mem _ h.1, h.2⟩
theorem allF_snoc : ∀ (st : List Step3) (l0 l : List (List Int)) (s : Step3), allF l0 st = some l → can l s → makes (getC l s.1) (getC l s.2.1) s.2.2 → allF l0 (st ++ [s]) = some (l ++ [made (getC l s.1) (getC l s.2.1) s.2.2])
 | [], l0, l, s, h, hc, hm => by
  have : l0 = l := by simpa [allF] using h
  subst this
  show (if can l0 s ∧ makes _ _ _ then allF _ [] else none) = _
  rw [if_pos ⟨hc, hm⟩]
  rfl
 | x :: st, l0, l, s, h, hc, hm => by
  simp only [allF, List.cons_append] at h ⊢
  split at h
  ·rename_i hx
   rw [if_pos hx]
   exact allF_snoc st _ l s h hc hm
  ·cases h
theorem negI_ok {p : Int} (h0 : -1099511627776 ≤ p) (h1 : p ≤ 1099511627776) : negI p = 0 - p := wrap_eq rfl om om
theorem step_ok {N : Nat} {l0 l : List (List Int)} {st : List Step3} {a b p : Int} (hN : N ≤ 400) (hv : allF l0 st = some l) (ha : 0 ≤ a ∧ a.toNat < l.length) (hb : 0 ≤ b ∧ b.toNat < l.length) (hp : okL N p) (h1 : p ∈ l.getD a.toNat []) (h2 : 0 - p ∈ l.getD b.toNat []) :
  allF l0 (st ++ [(a, b, p)]) = some (l ++ [madeR l a b p]) := by
 have hpb := hp.2
 have hn : negI p = 0 - p := negI_ok om om
 have := allF_snoc st l0 l (a, b, p) hv ⟨ha.1, by show a < _; omega, hb.1, by show b < _; omega⟩ ⟨hp.1, h1, by rw [hn]; exact h2⟩
 rw [this]
 unfold made madeR
 rw [hn]
 rfl
theorem getD_app {l : List (List Int)} {x : List Int} {i : Nat} (h : i < l.length) : (l ++ [x]).getD i [] = l.getD i [] := by
 simp only [List.getD_eq_getElem?_getD]
 rw [List.getElem?_append_left h]
theorem getD_last (l : List (List Int)) (x : List Int) : (l ++ [x]).getD l.length [] = x := by simp [List.getD_eq_getElem?_getD]
def Opp (t : List (Int × Int)) (k : Nat) (c : List Int) : Prop := ∀ v ∈ c, ∃ (m : Nat) (hm : m < t.length), t[m].1 = 0 - v ∧ (m < k ∨ t[m].2 = -1)
theorem why_all {N given : Nat} {G : Nat → List Int} {l0 : List (List Int)} (hN : N ≤ 400) : ∀ (k : Nat) (t : List (Int × Int)) (l : List (List Int)) (st : List Step3) (c : Int), TI G t → (∀ f ∈ t, okL N f.1 ∧ f.2 < given) → k ≤ t.length → (∀ i, i < given → l.getD i [] = G i) → given ≤ l.length → 0 ≤ c → c.toNat < l.length → Opp t k (l.getD c.toNat []) → allF l0 st = some l →
  Opp t 0 ((whyR k t l st c).1.getD (whyR k t l st c).2.2.toNat []) ∧ allF l0 (whyR k t l st c).2.1 = some (whyR k t l st c).1
 | 0, t, l, st, c, _, _, _, _, _, _, _, ho, hv => ⟨ho, hv⟩
 | k + 1, t, l, st, c, hT, hok, hk, hG, hgl, h0, h1, ho, hv => by
  have hg : t.getD k (0, 0) = t[k]'om := by rw [List.getD_eq_getElem?_getD, List.getElem?_eq_getElem om]; rfl
  have hTk := hT k om
  have hfk := hok _ (List.getElem_mem (show k < t.length by omega))
  unfold whyR
  rw [hg]
  by_cases hc : 0 ≤ t[k].2 ∧ 0 - t[k].1 ∈ l.getD c.toNat []
  ·rw [if_pos hc]
   obtain ⟨hb, hin⟩ := hc
   have hTk' : t[k].1 ∈ G t[k].2.toNat ∧ ∀ v ∈ G t[k].2.toNat, v = t[k].1 ∨ ∃ b, (0 - v, b) ∈ t.take k := by
    rcases hTk with h | h
    ·omega
    ·exact h.2
   have hbl : t[k].2.toNat < given := by omega
   have hGk := hG _ hbl
   have hstep := step_ok (N := N) hN hv (a := t[k].2) (b := c) (p := t[k].1) ⟨hb, om⟩ ⟨h0, h1⟩ hfk.1 (by rw [hGk]; exact hTk'.1) hin
   refine why_all hN k t _ _ _ hT hok om (fun i hi => by rw [getD_app om]; exact hG i hi) (by simp; omega) om (by simp) ?_ hstep
   rw [show ((l.length : Int)).toNat = l.length by simp, getD_last]
   intro v hv2
   rcases addAll_mem2 _ _ _ v hv2 with h | ⟨h, hne⟩
   ·rcases addAll_mem2 _ _ _ v h with h | ⟨h, hne⟩
    ·exact (List.not_mem_nil h).elim
    ·rw [hGk] at h
     rcases hTk'.2 v h with h3 | ⟨b, h3⟩
     ·exact absurd h3 hne
     ·obtain ⟨m, hm, he⟩ := List.getElem_of_mem h3
      rw [List.length_take] at hm
      have : t[m]'om = (0 - v, b) := by rw [← he, List.getElem_take]
      exact ⟨m, om, by rw [this], .inl om⟩
   ·obtain ⟨m, hm, e1, e2⟩ := ho v h
    refine ⟨m, hm, e1, ?_⟩
    rcases e2 with e2 | e2
    ·by_cases hmk : m = k
     ·subst hmk
      exact absurd (show v = 0 - t[m].1 by omega) hne
     ·exact .inl om
    ·exact .inr e2
  ·rw [if_neg hc]
   refine why_all hN k t l st c hT hok om hG hgl h0 h1 ?_ hv
   intro v hv2
   obtain ⟨m, hm, e1, e2⟩ := ho v hv2
   refine ⟨m, hm, e1, ?_⟩
   rcases e2 with e2 | e2
   ·by_cases hmk : m = k
    ·subst hmk
     right
     have hnin : ¬ 0 ≤ t[m].2 := by
      intro h
      refine hc ⟨h, ?_⟩
      rw [show 0 - t[m].1 = v by omega]
      exact hv2
     rcases hTk with h | h
     ·exact h
     ·exact absurd h.1 hnin
    ·exact .inl om
   ·exact .inr e2
end Go.Abs.W

namespace Go.Abs.W
open Go Go.Abs
set_option maxRecDepth 8000
structure TV (l0 : List (List Int)) (s : Sv) : Prop where
 lp : ∃ e, s.l = l0 ++ e
 ti : TI (fun i => l0.getD i []) s.t
 vp : allF l0 s.steps = some s.l
theorem TV.back {l0 : List (List Int)} {s : Sv} (h : TV l0 s) (n : Nat) : TV l0 (s.back n) := ⟨h.lp, h.ti.take n, h.vp⟩
theorem TV.fin {l0 : List (List Int)} {s : Sv} (h : TV l0 s) (n : Nat) (v : Int) : TV l0 (s.fin n v) := by
 unfold Sv.fin
 split
 ·exact h.back n
 ·exact h
theorem TV.fix {l0 : List (List Int)} {s : Sv} (h : TV l0 s) (v : Int) : TV l0 (s.fix v) := ⟨h.lp, h.ti.snoc (.inl rfl), h.vp⟩
theorem fin_l (s : Sv) (n : Nat) (v : Int) : (s.fin n v).l = s.l := by
 unfold Sv.fin
 split <;> rfl
theorem getD_pre {l0 e : List (List Int)} {i : Nat} (h : i < l0.length) : (l0 ++ e).getD i [] = l0.getD i [] := by
 simp only [List.getD_eq_getElem?_getD]
 rw [List.getElem?_append_left h]
theorem chosen_of {t e : List (Int × Int)} {s : List (Int × Int)} (ht : t = s ++ e) (he : ∀ f ∈ e, 0 ≤ f.2) {x : Int} (h : (x, -1) ∈ t) : (x, -1) ∈ s := by
 rw [ht] at h
 rcases List.mem_append.1 h with h | h
 ·exact h
 ·have := he _ h
  simp at this
structure Ans (l0 : List (List Int)) (s : Sv) (r : Int × Int × Sv) : Prop where
 tv : TV l0 r.2.2
 un : r.1 = 2 → ∀ v ∈ r.2.2.l.getD r.2.1.toNat [], (0 - v, -1) ∈ s.t
 met : r.1 = 1 → ∀ c ∈ l0, ∃ u ∈ c, atv r.2.2.a u = u
theorem try_all {N : Nat} {l0 : List (List Int)} (h0 : 0 < N) (hN : N ≤ 400) : ∀ (k : Nat) (s : Sv), Pre N l0.length k s → TV l0 s → Ans l0 s (tryR N l0.length k s)
 | 0, s, h, _ => by
  have := h.wf.len_le h0
  have := h.dep
  omega
 | k + 1, s, h, hv => by
  have hs := spd_of h
  obtain ⟨el, hel⟩ := hv.lp
  have htk : s.l.take l0.length = l0 := by rw [hel]; simp
  have hcl0 : ∀ c ∈ l0, okC N c := fun c hc => (h.cl c (by rw [hel]; simp [hc])).1
  have hGe : ∀ (j : Nat) (hj : j < l0.length), (fun i => l0.getD i []) j = l0[j] := fun j hj => by
   show l0.getD j [] = _
   rw [List.getD_eq_getElem?_getD, List.getElem?_eq_getElem hj]
   rfl
  have hst := spread_TI h0 hcl0 hGe (N + 1) s.a s.t h.wf hv.ti om
  have hspe : spreadR (N + 1) l0 s.a s.t = spS N l0.length s := by unfold spS; rw [htk]
  rw [hspe] at hst
  show Ans l0 s (tryA (tryR N l0.length k) s (spS N l0.length s) (vF (spS N l0.length s).2.1))
  generalize spS N l0.length s = sp at *
  obtain ⟨t1, t2, t3, t4⟩ := hst
  obtain ⟨e, he⟩ := hs.tp
  have hch := t2 e he
  unfold tryA
  by_cases hc : 0 ≤ sp.1
  ·rw [if_pos hc]
   have hi := hs.idx hc
   have hgl : l0.length ≤ s.l.length := h.giv
   have hw := why_all (N := N) (given := l0.length) (G := fun i => l0.getD i []) (l0 := l0) hN sp.2.2.length sp.2.2 s.l s.steps sp.1 t1 (fun f hf => ⟨hs.wf.ok f hf, hs.by_ f hf⟩) (Nat.le_refl _) (fun i hi => by rw [hel]; exact getD_pre hi) hgl hc om (by
    intro v hv2
    rw [hel, getD_pre om] at hv2
    obtain ⟨b, hb⟩ := so_neg1 hs.wf (t3 hc v hv2)
    obtain ⟨m, hm, hme⟩ := List.getElem_of_mem hb
    exact ⟨m, hm, by rw [hme], .inl hm⟩) hv.vp
   obtain ⟨_, ⟨e2, q2, _⟩, _⟩ := why_facts sp.2.2.length sp.2.2 s.l s.steps sp.1 h.cl hc om
   refine ⟨⟨⟨el ++ e2, by show (whyR _ _ _ _ _).1 = _; rw [q2, hel, List.append_assoc]⟩, t1.take _, hw.2⟩, fun _ v hv2 => ?_, fun h => by simp [failR] at h⟩
   obtain ⟨m, hm, m1, m2⟩ := hw.1 v hv2
   have m3 : sp.2.2[m].2 = -1 := by
    rcases m2 with m2 | m2
    ·omega
    ·exact m2
   refine chosen_of he hch ?_
   have : sp.2.2[m] = (0 - v, -1) := Prod.ext m1 m3
   rw [← this]
   exact List.getElem_mem hm
  rw [if_neg hc]
  have t4 := t4 om
  by_cases hz : vF sp.2.1 = 0
  ·rw [if_pos hz]
   have hnz := vF_zero hz
   refine ⟨⟨⟨el, hel⟩, t1, hv.vp⟩, fun h => by simp at h, fun _ c hc2 => ?_⟩
   have hlk := t4 c hc2
   obtain ⟨u, hu, hs1⟩ := look_met sp.2.1 c (by rw [hlk]) (by rw [hlk]) (fun u hu hz0 => by
    have h1 := so_zero hz0
    have h2 := hcl0 c hc2 u hu
    apply hnz
    have hl := hs.wf.len
    unfold atv at h1
    rw [List.getD_eq_getElem?_getD, List.getElem?_eq_getElem (by rw [hl]; exact h2.2)] at h1
    have h3 : sp.2.1[u.natAbs]'(by rw [hl]; exact h2.2) = 0 := h1
    have h4 := h2.1
    have h5 : (sp.2.1.drop 1)[u.natAbs - 1]'(by rw [List.length_drop, hl]; have := h2.2; omega) = 0 := by
     rw [List.getElem_drop]
     have : 1 + (u.natAbs - 1) = u.natAbs := by omega
     simp only [this]
     exact h3
    rw [← h5]
    exact List.getElem_mem _)
   exact ⟨u, hu, so_one hs1⟩
  rw [if_neg hz]
  obtain ⟨v1, v2, v3⟩ := vF_facts hs.wf hz
  generalize vF sp.2.1 = v at *
  have hv2s : TV l0 (s2R s sp) := ⟨⟨el, hel⟩, t1, hv.vp⟩
  by_cases hl : s.left - 1 < 0
  ·rw [if_pos hl]
   exact ⟨hv2s.fin _ _, fun h => by simp at h, fun h => by simp at h⟩
  rw [if_neg hl]
  have hpre := pre_fix h hs v2 v3 om
  have r1 := try_all h0 hN k _ hpre (hv2s.fix v)
  have p1 := try_post h0 k _ hpre
  have hpf := fun h2 => pre_fix2 h hs v2 v3 p1 h2
  have htp1 := p1.tp
  change ∃ e, _ = (sp.2.2 ++ [(v, -1)]) ++ e at htp1
  have hu1 := r1.un
  change _ → ∀ w ∈ _, (0 - w, -1) ∈ sp.2.2 ++ [(v, -1)] at hu1
  generalize tryR N l0.length k ((s2R s sp).fix v) = x1 at *
  obtain ⟨et, het⟩ := htp1
  unfold tryB
  by_cases h2 : x1.1 ≠ 2
  ·rw [if_pos h2]
   refine ⟨r1.tv.fin _ _, fun h => absurd h h2, fun hm => ?_⟩
   have hwx := p1.wf
   rw [het, List.append_assoc] at hwx
   rw [fin_keep (hwx.var (e := et))]
   exact r1.met hm
  rw [if_neg h2]
  have h2' : x1.1 = 2 := by
   by_cases h : x1.1 = 2
   ·exact h
   ·exact absurd h h2
  obtain ⟨w1, w2, w3, w4⟩ := hpf h2'
  obtain ⟨y1, y2⟩ := p1.res h2'
  unfold tryC
  by_cases hin : 0 - v ∉ (x1.2.2.back sp.2.2.length).l.getD x1.2.1.toNat []
  ·rw [if_pos hin]
   refine ⟨(r1.tv.back _).fin _ _, fun _ w hw => ?_, fun h => by simp at h⟩
   change w ∈ ((x1.2.2.back sp.2.2.length).fin s.t.length v).l.getD x1.2.1.toNat [] at hw
   rw [fin_l] at hw
   rcases List.mem_append.1 (hu1 h2' w hw) with h | h
   ·exact chosen_of he hch h
   ·simp only [List.mem_singleton, Prod.mk.injEq] at h
    exact absurd (by rw [show 0 - v = w by omega]; exact hw) hin
  rw [if_neg hin]
  have hin' : 0 - v ∈ x1.2.2.l.getD x1.2.1.toNat [] := by
   by_cases hq : 0 - v ∈ (x1.2.2.back sp.2.2.length).l.getD x1.2.1.toNat []
   ·exact hq
   ·exact absurd hq hin
  have r2 := try_all h0 hN k _ w4 ((r1.tv.back _).fix _)
  have p2 := try_post h0 k _ w4
  have htp2 := p2.tp
  have hlp2 := p2.lp
  change ∃ e, _ = ((x1.2.2.back sp.2.2.length).t ++ [(0 - v, -1)]) ++ e at htp2
  change ∃ e, _ = x1.2.2.l ++ e at hlp2
  have hu2 := r2.un
  change _ → ∀ w ∈ _, (0 - w, -1) ∈ (x1.2.2.back sp.2.2.length).t ++ [(0 - v, -1)] at hu2
  rw [w2] at htp2 hu2
  unfold tryD
  generalize tryR N l0.length k ((x1.2.2.back sp.2.2.length).fix (0 - v)) = x2 at *
  obtain ⟨et2, het2⟩ := htp2
  obtain ⟨el2, hel2⟩ := hlp2
  by_cases h3 : x2.1 ≠ 2
  ·rw [if_pos h3]
   refine ⟨r2.tv.fin _ _, fun h => absurd h h3, fun hm => ?_⟩
   have hwx := p2.wf
   rw [het2, List.append_assoc] at hwx
   have hne := hwx.var (e := et2)
   have hne' : atv x2.2.2.a v ≠ 0 := by
    unfold atv at hne ⊢
    rw [show (0 - v).natAbs = v.natAbs by omega] at hne
    exact hne
   rw [fin_keep hne']
   exact r2.met hm
  rw [if_neg h3]
  have h3' : x2.1 = 2 := by
   by_cases h : x2.1 = 2
   ·exact h
   ·exact absurd h h3
  obtain ⟨z1, z2⟩ := p2.res h3'
  unfold tryE
  by_cases hin2 : v ∉ (x2.2.2.back sp.2.2.length).l.getD x2.2.1.toNat []
  ·rw [if_pos hin2]
   refine ⟨(r2.tv.back _).fin _ _, fun _ w hw => ?_, fun h => by simp at h⟩
   change w ∈ ((x2.2.2.back sp.2.2.length).fin s.t.length v).l.getD x2.2.1.toNat [] at hw
   rw [fin_l] at hw
   rcases List.mem_append.1 (hu2 h3' w hw) with h | h
   ·exact chosen_of he hch h
   ·simp only [List.mem_singleton, Prod.mk.injEq] at h
    exact absurd (by rw [show v = w by omega]; exact hw) hin2
  rw [if_neg hin2]
  have hin2' : v ∈ x2.2.2.l.getD x2.2.1.toNat [] := by
   by_cases hq : v ∈ (x2.2.2.back sp.2.2.length).l.getD x2.2.1.toNat []
   ·exact hq
   ·exact absurd hq hin2
  have hold : x2.2.2.l.getD x1.2.1.toNat [] = x1.2.2.l.getD x1.2.1.toNat [] := by rw [hel2]; exact getD_pre y2
  have hstep := step_ok (N := N) hN r2.tv.vp (a := x2.2.1) (b := x1.2.1) (p := v) ⟨z1, z2⟩ ⟨y1, by rw [hel2, List.length_append]; omega⟩ v2 hin2' (by rw [hold]; exact hin')
  have htv : TV l0 (addR (x2.2.2.back sp.2.2.length) x2.2.1 x1.2.1 v) := by
   obtain ⟨ee, hee⟩ := r2.tv.lp
   exact ⟨⟨ee ++ [madeR x2.2.2.l x2.2.1 x1.2.1 v], by show x2.2.2.l ++ [madeR x2.2.2.l x2.2.1 x1.2.1 v] = _; generalize madeR x2.2.2.l x2.2.1 x1.2.1 v = mm; rw [hee, List.append_assoc]⟩, r2.tv.ti.take _, hstep⟩
  refine ⟨htv.fin _ _, fun _ w hw => ?_, fun h => by simp at h⟩
  change w ∈ ((addR (x2.2.2.back sp.2.2.length) x2.2.1 x1.2.1 v).fin s.t.length v).l.getD ((x2.2.2.l.length : Int)).toNat [] at hw
  rw [fin_l] at hw
  change w ∈ (x2.2.2.l ++ [madeR x2.2.2.l x2.2.1 x1.2.1 v]).getD ((x2.2.2.l.length : Int)).toNat [] at hw
  rw [show ((x2.2.2.l.length : Int)).toNat = x2.2.2.l.length by simp, getD_last] at hw
  rcases addAll_mem2 _ _ _ w hw with hw | ⟨hw, hne⟩
  ·rcases addAll_mem2 _ _ _ w hw with hw | ⟨hw, hne⟩
   ·exact (List.not_mem_nil hw).elim
   ·rcases List.mem_append.1 (hu2 h3' w hw) with h | h
    ·exact chosen_of he hch h
    ·simp only [List.mem_singleton, Prod.mk.injEq] at h
     exact absurd (show w = v by omega) hne
  ·rw [hold] at hw
   rcases List.mem_append.1 (hu1 h2' w hw) with h | h
   ·exact chosen_of he hch h
   ·simp only [List.mem_singleton, Prod.mk.injEq] at h
    exact absurd (show w = 0 - v by omega) hne
end Go.Abs.W

namespace Go.Abs.W
open Go Go.Abs
set_option maxRecDepth 8000
def AbsOK (a : List Int) : Prop := ∀ v : Int, atv a v = 0 ∨ atv a v = v ∨ atv a v = 0 - v
def FixedTo (a : List Int) (n : Int) : Prop := ∀ i, 1 ≤ i → i ≤ n → atv a i ≠ 0
def Calm (a : List Int) (l : List (List Int)) : Prop := ∀ c ∈ l, lookR a c 0 = (0, true)
theorem Calm.app {a : List Int} {l m : List (List Int)} : Calm a (l ++ m) ↔ Calm a l ∧ Calm a m :=
 ⟨fun h => ⟨fun c hc => h c (by simp [hc]), fun c hc => h c (by simp [hc])⟩, fun h c hc => (List.mem_append.1 hc).elim (h.1 c) (h.2 c)⟩
theorem wf_abs {N : Nat} {a : List Int} {t : List (Int × Int)} (h : WF N a t) : AbsOK a := fun v => by
 by_cases h0 : atv a v = 0
 ·exact .inl h0
 ·right
  have hm : v.natAbs ∈ t.map varOf := by
   by_cases hm : v.natAbs ∈ t.map varOf
   ·exact hm
   ·exact absurd (h.out hm) h0
  obtain ⟨f, hf, he⟩ := List.mem_map.1 hm
  rw [h.inn hf he.symm]
  have : f.1.natAbs = v.natAbs := he
  omega
theorem atv_neg (a : List Int) (v : Int) : atv a (0 - v) = atv a v := by
 unfold atv
 rw [show (0 - v).natAbs = v.natAbs by omega]
theorem so_zeroX {a : List Int} {v : Int} : soR a v = 0 ↔ atv a v = 0 := by
 unfold soR
 split
 ·simp [*]
 ·rename_i h
  split <;> simp [h]
theorem so_neg {a : List Int} (hA : AbsOK a) {v : Int} (hv : v ≠ 0) (h0 : atv a v ≠ 0) : soR a (0 - v) = 0 - soR a v := by
 unfold soR
 rw [atv_neg, if_neg h0, if_neg h0]
 rcases hA v with h | h | h
 ·exact absurd h h0
 ·rw [if_neg om, if_pos h]
  rfl
 ·rw [if_pos h, if_neg om]
  rfl
theorem look_unitX {a : List Int} {x : Int} (hx : soR a x = 0) : ∀ (c : List Int) (last : Int), (last = 0 ∨ last = x) → (∀ v ∈ c, v = x ∨ soR a v = -1) → (x ∈ c ∨ last = x) → (lookR a c last).1 = x
 | [], last, _, _, h => by
  rcases h with h | h
  ·exact absurd h (List.not_mem_nil)
  ·exact h
 | v :: c, last, hl, hc, h => by
  rw [lookR_cons]
  rcases hc v (by simp) with rfl | hv
  ·rw [if_neg (by rw [hx]; decide), if_pos hx, if_neg (by rcases hl with h | h <;> simp [h])]
   exact look_unitX hx c v (.inr rfl) (fun u hu => hc u (by simp [hu])) (.inr rfl)
  ·rw [if_neg (by rw [hv]; decide), if_neg (by rw [hv]; decide)]
   refine look_unitX hx c last hl (fun u hu => hc u (by simp [hu])) ?_
   rcases h with h | h
   ·rcases List.mem_cons.1 h with rfl | h
    ·rw [hx] at hv
     simp at hv
    ·exact .inl h
   ·exact .inr h
theorem gate_fix {a : List Int} (hA : AbsOK a) {s v : Int} {ks : List Int} (hs : s = 1 ∨ s = -1) (hv : v ≠ 0) (hk : ∀ k ∈ ks, k ≠ 0 ∧ atv a k ≠ 0) (hC : Calm a (gate s v ks)) : atv a v ≠ 0 := by
 intro h0
 have hsv : ∀ {z : Int}, z = s * v ∨ z = (0 - s) * v → atv a z = 0 := by
  intro z hz
  rcases hs with rfl | rfl
  ·rcases hz with rfl | rfl
   ·rw [Int.one_mul]; exact h0
   ·rw [show ((0 : Int) - 1) * v = 0 - v by omega, atv_neg]; exact h0
  ·rcases hz with rfl | rfl
   ·rw [show (-1 : Int) * v = 0 - v by omega, atv_neg]; exact h0
   ·rw [show ((0 : Int) - -1) * v = v by omega]; exact h0
 obtain ⟨hC1, hC2⟩ := Calm.app.1 hC
 have hsk : ∀ k ∈ ks, soR a (s * k) = 1 := by
  intro k hkm
  obtain ⟨k1, k2⟩ := hk k hkm
  have hne : soR a (s * k) ≠ 0 := by
   intro h
   rw [so_zeroX] at h
   rcases hs with rfl | rfl
   ·rw [Int.one_mul] at h; exact k2 h
   ·rw [show (-1 : Int) * k = 0 - k by omega, atv_neg] at h; exact k2 h
  rcases soR_cases a (s * k) with h | h | h
  ·exact absurd h hne
  ·exact h
  ·exfalso
   have hc := hC1 [(0 - s) * v, s * k] (List.mem_map.2 ⟨k, hkm, rfl⟩)
   have hu := look_unitX (a := a) (x := (0 - s) * v) (so_zeroX.2 (hsv (.inr rfl))) [(0 - s) * v, s * k] 0 (.inl rfl) (by
    intro u hu
    simp only [List.mem_cons, List.not_mem_nil, or_false] at hu
    rcases hu with rfl | rfl
    ·exact .inl rfl
    ·exact .inr h) (.inl (by simp))
   rw [hc] at hu
   have hu : (0 : Int) = (0 - s) * v := hu
   rcases hs with rfl | rfl <;> omega
 have hc := hC2 ((s * v) :: ks.map fun k => (0 - s) * k) (by simp)
 have hu := look_unitX (a := a) (x := s * v) (so_zeroX.2 (hsv (.inl rfl))) ((s * v) :: ks.map fun k => (0 - s) * k) 0 (.inl rfl) (by
  intro u hu
  rcases List.mem_cons.1 hu with rfl | hu
  ·exact .inl rfl
  ·obtain ⟨k, hkm, rfl⟩ := List.mem_map.1 hu
   right
   obtain ⟨k1, k2⟩ := hk k hkm
   have h1 := hsk k hkm
   have hz : s * k ≠ 0 := by rcases hs with rfl | rfl <;> omega
   have hz2 : atv a (s * k) ≠ 0 := fun h => by rw [so_zeroX.2 h] at h1; simp at h1
   have := so_neg hA hz hz2
   rw [h1] at this
   rw [show (0 - s) * k = 0 - s * k by rcases hs with rfl | rfl <;> omega, this]
   rfl) (.inl (by simp))
 rw [hc] at hu
 have hu : (0 : Int) = s * v := hu
 rcases hs with rfl | rfl <;> omega
theorem FixedTo.lit {a : List Int} {n k : Int} (h : FixedTo a n) (hz : k ≠ 0) (h1 : -n ≤ k) (h2 : k ≤ n) : atv a k ≠ 0 := by
 rcases Int.lt_or_gt_of_ne hz with hk | hk
 ·have := h (0 - k) om om
  rwa [atv_neg] at this
 ·exact h k om h2
theorem kids_fix {a : List Int} {g : Fm → Int → LR} {B : Int} : ∀ (ks : List Fm) (n : Int), B ≤ n → (∀ k ∈ ks, ∀ n, B ≤ n → LitOK n (g k n) (nodes k)) → (∀ k ∈ ks, ∀ n, B ≤ n → FixedTo a n → Calm a (g k n).1 → FixedTo a (g k n).2.1) →
  FixedTo a n → Calm a (kidsR g ks n).1 → FixedTo a (kidsR g ks n).2.1
 | [], n, _, _, _, h, _ => h
 | k :: ks, n, hB, ho, hf, h, hC => by
  simp only [kidsR] at hC ⊢
  obtain ⟨c1, c2⟩ := Calm.app.1 hC
  have o := ho k (by simp) n hB
  have h1 := hf k (by simp) n hB h c1
  exact kids_fix ks (g k n).2.1 (by have := o.up; omega) (fun x hx => ho x (by simp [hx])) (fun x hx => hf x (by simp [hx])) h1 c2
theorem lit_fix {a : List Int} (hA : AbsOK a) (B : Int) (h0 : 0 ≤ B) : ∀ (d : Nat) (f : Fm) (n : Int), nf d f → lowF B f → B ≤ n → FixedTo a n → Calm a (litR d f n).1 → FixedTo a (litR d f n).2.1
 | 0, f, n, h, _, _, _, _ => h.elim
 | d + 1, f, n, h, hl, hB, hF, hC => by
  have hlk := (lowL_iff B _).1 ((lowF_eq B f).1 hl).2
  rcases h with ⟨h3, hk, h1, h2⟩ | ⟨h4, _, x, hk, hx, _⟩ | ⟨h5, _, _, h60, hk⟩
  ·have e : litR (d + 1) f n = ([], n, f.n) := if_pos h3
   rw [e]
   exact hF
  ·have e : litR (d + 1) f n = ((litR d x n).1, (litR d x n).2.1, 0 - (litR d x n).2.2) := by
    show (if f.op = 3 then _ else if f.op = 4 then _ else _) = _
    rw [if_neg om, if_pos h4, hk]
   rw [e] at hC ⊢
   exact lit_fix hA B h0 d x n hx (hlk x (by rw [hk]; simp)) hB hF hC
  ·have e : litR (d + 1) f n = ((kidsR (litR d) f.kids n).1 ++ gate (sgn f.op) ((kidsR (litR d) f.kids n).2.1 + 1) (kidsR (litR d) f.kids n).2.2, (kidsR (litR d) f.kids n).2.1 + 1, (kidsR (litR d) f.kids n).2.1 + 1) := by
    show (if f.op = 3 then _ else if f.op = 4 then _ else _) = _
    rw [if_neg om, if_neg om]
   rw [e] at hC ⊢
   obtain ⟨c1, c2⟩ := Calm.app.1 hC
   have ho : ∀ k ∈ f.kids, ∀ n, B ≤ n → LitOK n (litR d k n) (nodes k) := fun k hkm n hn => lit_OK B h0 d k n (hk k hkm) (hlk k hkm) hn
   have hK := kids_OK (g := litR d) f.kids n hB ho
   have h1 := kids_fix (g := litR d) f.kids n hB ho (fun k hkm n hn => lit_fix hA B h0 d k n (hk k hkm) (hlk k hkm) hn) hF c1
   have hu := hK.up
   have hg := gate_fix hA (sgn_or f.op) (v := (kidsR (litR d) f.kids n).2.1 + 1) om (fun k hkm => ⟨(hK.vs k hkm).1, h1.lit (hK.vs k hkm).1 (hK.vs k hkm).2.1 (hK.vs k hkm).2.2⟩) c2
   intro i i1 i2
   show atv a i ≠ 0
   by_cases hi : i ≤ (kidsR (litR d) f.kids n).2.1
   ·exact h1 i i1 hi
   ·have : i = (kidsR (litR d) f.kids n).2.1 + 1 := by
     have i2 : i ≤ (kidsR (litR d) f.kids n).2.1 + 1 := i2
     omega
    rw [this]
    exact hg
theorem of_fix {a : List Int} (hA : AbsOK a) {B : Int} (h0 : 0 ≤ B) {d : Nat} {f : Fm} (hf : fits d f) (hm : mayR d f = true) (hl : lowF B f) (hF : FixedTo a B) (hC : Calm a (ofR d f B).1) : FixedTo a (ofR d f B).2 := by
 have hn := simple_nice d f hf hm
 have hs := simple_nodes B d f hf hl
 unfold ofR at hC ⊢
 by_cases c1 : (simpleR d f).op = 1
 ·rw [if_pos c1]
  exact hF
 rw [if_neg c1] at hC ⊢
 by_cases c2 : (simpleR d f).op = 2
 ·rw [if_pos c2]
  exact hF
 rw [if_neg c2] at hC ⊢
 exact lit_fix hA B h0 d _ B (nice_3 hn c1 c2) hs.2 (Int.le_refl _) hF (Calm.app.1 hC).1
end Go.Abs.W

namespace Go.Abs.W
open Go Go.Abs
set_option maxRecDepth 8000
theorem fin_left (s : Sv) (n : Nat) (v : Int) : (s.fin n v).left = s.left := by
 unfold Sv.fin
 split <;> rfl
def opn (n : Nat) (a : List Int) : Nat := ((List.range n).filter fun i : Nat => decide (atv a ((i : Int) + 1) = 0)).length
theorem filter_le {α : Type} {p q : α → Bool} : ∀ (l : List α), (∀ x ∈ l, p x = true → q x = true) → (l.filter p).length ≤ (l.filter q).length
 | [], _ => Nat.le_refl _
 | x :: l, h => by
  have ih := filter_le (p := p) (q := q) l (fun y hy => h y (by simp [hy]))
  by_cases hp : p x = true
  ·rw [List.filter_cons_of_pos hp, List.filter_cons_of_pos (h x (by simp) hp)]
   simp [ih]
  ·rw [List.filter_cons_of_neg hp]
   by_cases hq : q x = true
   ·rw [List.filter_cons_of_pos hq]
    simp
    omega
   ·rw [List.filter_cons_of_neg hq]
    exact ih
theorem filter_lt {α : Type} {p q : α → Bool} : ∀ (l : List α), (∀ x ∈ l, p x = true → q x = true) → (∃ x ∈ l, p x = false ∧ q x = true) → (l.filter p).length + 1 ≤ (l.filter q).length
 | [], _, h => by obtain ⟨x, hx, _⟩ := h; exact absurd hx (List.not_mem_nil)
 | x :: l, h, he => by
  have ih := filter_le (p := p) (q := q) l (fun y hy => h y (by simp [hy]))
  by_cases hp : p x = true
  ·rw [List.filter_cons_of_pos hp, List.filter_cons_of_pos (h x (by simp) hp)]
   have := filter_lt (p := p) (q := q) l (fun y hy => h y (by simp [hy])) (by
    obtain ⟨y, hy, h1, h2⟩ := he
    rcases List.mem_cons.1 hy with rfl | hy
    ·rw [hp] at h1; cases h1
    ·exact ⟨y, hy, h1, h2⟩)
   simp only [List.length_cons]
   omega
  ·rw [List.filter_cons_of_neg hp]
   by_cases hq : q x = true
   ·rw [List.filter_cons_of_pos hq]
    simp only [List.length_cons]
    omega
   ·rw [List.filter_cons_of_neg hq]
    refine filter_lt l (fun y hy => h y (by simp [hy])) ?_
    obtain ⟨y, hy, h1, h2⟩ := he
    rcases List.mem_cons.1 hy with rfl | hy
    ·exact absurd h2 hq
    ·exact ⟨y, hy, h1, h2⟩
theorem opn_le {n : Nat} {a b : List Int} (h : ∀ v : Int, atv a v ≠ 0 → atv b v ≠ 0) : opn n b ≤ opn n a :=
 filter_le _ fun i _ hi => by
  simp only [decide_eq_true_eq] at hi ⊢
  by_cases h0 : atv a ((i : Int) + 1) = 0
  ·exact h0
  ·exact absurd hi (h _ h0)
theorem atv_set {a : List Int} {v w x : Int} (hv : v.natAbs < a.length) : atv (a.set v.natAbs x) w = if v.natAbs = w.natAbs then x else atv a w := by
 unfold atv
 exact getD_set hv
theorem opn_set {n : Nat} {a : List Int} {v x : Int} (hv : v.natAbs < a.length) (h0 : atv a v = 0) (hx : x ≠ 0) (h1 : 1 ≤ v.natAbs) (h2 : v.natAbs ≤ n) : opn n (a.set v.natAbs x) + 1 ≤ opn n a := by
 refine filter_lt _ (fun i _ hi => ?_) ⟨v.natAbs - 1, List.mem_range.2 om, ?_, ?_⟩
 ·simp only [decide_eq_true_eq] at hi ⊢
  rw [atv_set hv] at hi
  split at hi
  ·exact absurd hi hx
  ·exact hi
 ·simp only [decide_eq_false_iff_not]
  rw [atv_set hv, if_pos om]
  exact hx
 ·simp only [decide_eq_true_eq]
  have : atv a (((v.natAbs - 1 : Nat) : Int) + 1) = atv a v := by
   unfold atv
   congr 1
   omega
  rw [this]
  exact h0
theorem wf_more {N : Nat} {a b : List Int} {t e : List (Int × Int)} (h : WF N a t) (h2 : WF N b (t ++ e)) (v : Int) (hv : atv a v ≠ 0) : atv b v ≠ 0 := by
 intro hb
 refine hv (h.zero.2 fun hm => ?_)
 rw [h2.zero] at hb
 exact hb (by rw [List.map_append]; exact List.mem_append.2 (.inl hm))
def Few (n : Nat) (s : Sv) (r : Int × Int × Sv) : Prop := r.1 ≠ 3 ∧ s.left + 1 ≤ r.2.2.left + (2 ^ opn n s.a : Nat)
theorem try_few {N : Nat} {l0 : List (List Int)} {n : Nat} (h0 : 0 < N) (hN : N ≤ 400) (HF : ∀ (a : List Int) (t : List (Int × Int)), WF N a t → Calm a l0 → vF a = 0 ∨ vF a ≤ n) : ∀ (k : Nat) (s : Sv), Pre N l0.length k s → TV l0 s → (((2 ^ opn n s.a : Nat) : Int) ≤ s.left + 1) → Few n s (tryR N l0.length k s)
 | 0, s, h, _, _ => by
  have := h.wf.len_le h0
  have := h.dep
  omega
 | k + 1, s, h, hv, hb => by
  have hs := spd_of h
  obtain ⟨el, hel⟩ := hv.lp
  have htk : s.l.take l0.length = l0 := by rw [hel]; simp
  have hcl0 : ∀ c ∈ l0, okC N c := fun c hc => (h.cl c (by rw [hel]; simp [hc])).1
  have hGe : ∀ (j : Nat) (hj : j < l0.length), (fun i => l0.getD i []) j = l0[j] := fun j hj => by
   show l0.getD j [] = _
   rw [List.getD_eq_getElem?_getD, List.getElem?_eq_getElem hj]
   rfl
  have hst := spread_TI h0 hcl0 hGe (N + 1) s.a s.t h.wf hv.ti om
  have hspe : spreadR (N + 1) l0 s.a s.t = spS N l0.length s := by unfold spS; rw [htk]
  rw [hspe] at hst
  show Few n s (tryA (tryR N l0.length k) s (spS N l0.length s) (vF (spS N l0.length s).2.1))
  generalize spS N l0.length s = sp at *
  obtain ⟨t1, t2, t3, t4⟩ := hst
  obtain ⟨e, he⟩ := hs.tp
  have hp0 := two_pow (opn n s.a)
  have hwf2 : WF N sp.2.1 (s.t ++ e) := by rw [← he]; exact hs.wf
  have hop := opn_le (n := n) (wf_more h.wf hwf2)
  unfold tryA
  by_cases hc : 0 ≤ sp.1
  ·rw [if_pos hc]
   exact ⟨by show (2 : Int) ≠ 3; omega, by show s.left + 1 ≤ s.left + _; omega⟩
  rw [if_neg hc]
  have t4 := t4 om
  by_cases hz : vF sp.2.1 = 0
  ·rw [if_pos hz]
   exact ⟨by show (1 : Int) ≠ 3; omega, by show s.left + 1 ≤ s.left + _; omega⟩
  rw [if_neg hz]
  have hvn : vF sp.2.1 ≤ n := (HF _ _ hs.wf t4).resolve_left hz
  obtain ⟨v1, v2, v3⟩ := vF_facts hs.wf hz
  generalize vF sp.2.1 = v at *
  have hlen := hs.wf.len
  have hv2 := v2.2
  have hm1 := opn_set (n := n) (a := sp.2.1) (v := v) (x := v) om v3 v2.1 om om
  have hm2 := opn_set (n := n) (a := sp.2.1) (v := 0 - v) (x := 0 - v) om (by rw [atv_neg]; exact v3) om om om
  have hpow : ∀ m, m + 1 ≤ opn n s.a → 2 * 2 ^ m ≤ 2 ^ opn n s.a := fun m hm => by
   have : 2 ^ (m + 1) ≤ 2 ^ opn n s.a := Nat.pow_le_pow_right om hm
   rw [Nat.pow_succ] at this
   omega
  have hq1 := hpow _ (show opn n (sp.2.1.set v.natAbs v) + 1 ≤ opn n s.a by omega)
  have hq2 := hpow _ (show opn n (sp.2.1.set (0 - v).natAbs (0 - v)) + 1 ≤ opn n s.a by omega)
  have hp1 := two_pow (opn n (sp.2.1.set v.natAbs v))
  have hp2 := two_pow (opn n (sp.2.1.set (0 - v).natAbs (0 - v)))
  by_cases hl : s.left - 1 < 0
  ·exfalso
   omega
  rw [if_neg hl]
  have hpre := pre_fix h hs v2 v3 om
  have hv2s : TV l0 (s2R s sp) := ⟨hv.lp, t1, hv.vp⟩
  have c1 := try_few h0 hN HF k _ hpre (hv2s.fix v) (by
   show (((2 ^ opn n (sp.2.1.set v.natAbs v) : Nat) : Nat) : Int) ≤ s.left - 1 + 1
   omega)
  have p1 := try_post h0 k _ hpre
  have r1 := try_all h0 hN k _ hpre (hv2s.fix v)
  have hpf := fun h2 => pre_fix2 h hs v2 v3 p1 h2
  obtain ⟨a1, a2⟩ := c1
  change s.left - 1 + 1 ≤ _ + ((2 ^ opn n (sp.2.1.set v.natAbs v) : Nat) : Int) at a2
  generalize tryR N l0.length k ((s2R s sp).fix v) = x1 at *
  unfold tryB
  by_cases h2 : x1.1 ≠ 2
  ·rw [if_pos h2]
   exact ⟨a1, by show s.left + 1 ≤ (x1.2.2.fin s.t.length v).left + _; rw [fin_left]; omega⟩
  rw [if_neg h2]
  have h2' : x1.1 = 2 := by
   by_cases h : x1.1 = 2
   ·exact h
   ·exact absurd h h2
  obtain ⟨w1, w2, w3, w4⟩ := hpf h2'
  unfold tryC
  by_cases hin : 0 - v ∉ (x1.2.2.back sp.2.2.length).l.getD x1.2.1.toNat []
  ·rw [if_pos hin]
   refine ⟨by show (2 : Int) ≠ 3; omega, ?_⟩
   show s.left + 1 ≤ ((x1.2.2.back sp.2.2.length).fin s.t.length v).left + _
   rw [fin_left]
   show s.left + 1 ≤ x1.2.2.left + _
   omega
  rw [if_neg hin]
  have hae : ((x1.2.2.back sp.2.2.length).fix (0 - v)).a = sp.2.1.set (0 - v).natAbs (0 - v) := by
   show (x1.2.2.back sp.2.2.length).a.set _ _ = _
   rw [w3]
  have c2 := try_few h0 hN HF k _ w4 ((r1.tv.back _).fix _) (by
   rw [hae]
   show _ ≤ x1.2.2.left + 1
   omega)
  obtain ⟨b1, b2⟩ := c2
  rw [hae] at b2
  change x1.2.2.left + 1 ≤ _ + _ at b2
  unfold tryD
  generalize tryR N l0.length k ((x1.2.2.back sp.2.2.length).fix (0 - v)) = x2 at *
  by_cases h3 : x2.1 ≠ 2
  ·rw [if_pos h3]
   exact ⟨b1, by show s.left + 1 ≤ (x2.2.2.fin s.t.length v).left + _; rw [fin_left]; omega⟩
  rw [if_neg h3]
  unfold tryE
  by_cases hin2 : v ∉ (x2.2.2.back sp.2.2.length).l.getD x2.2.1.toNat []
  ·rw [if_pos hin2]
   refine ⟨by show (2 : Int) ≠ 3; omega, ?_⟩
   show s.left + 1 ≤ ((x2.2.2.back sp.2.2.length).fin s.t.length v).left + _
   rw [fin_left]
   show s.left + 1 ≤ x2.2.2.left + _
   omega
  rw [if_neg hin2]
  refine ⟨by show (2 : Int) ≠ 3; omega, ?_⟩
  show s.left + 1 ≤ ((addR (x2.2.2.back sp.2.2.length) x2.2.1 x1.2.1 v).fin s.t.length v).left + _
  rw [fin_left]
  show s.left + 1 ≤ x2.2.2.left + _
  omega
end Go.Abs.W

namespace Go.Abs.W
open Go Go.Abs
set_option maxRecDepth 8000
theorem addAll_has {w : Int} : ∀ (xs out : List Int) (v : Int), v ∈ out ∨ (v ∈ xs ∧ v ≠ w) → v ∈ addAll w xs out
 | [], out, v, h => by
  rcases h with h | ⟨h, _⟩
  ·exact h
  ·exact absurd h (List.not_mem_nil)
 | x :: xs, out, v, h => by
  unfold addAll
  refine addAll_has xs _ v ?_
  rcases h with h | ⟨h, hw⟩
  ·left
   split
   ·simp [h]
   ·exact h
  ·rcases List.mem_cons.1 h with rfl | h
   ·left
    split
    ·simp
    ·rename_i hn
     by_cases hm : v ∈ out
     ·exact hm
     ·exact absurd ⟨hw, hm⟩ hn
   ·exact .inr ⟨h, hw⟩
theorem made_sol {a b : List Int} {p : Int} {c : Int → Bool} (hn : negI p = 0 - p) (h0 : p ≠ 0) (h1 : a.any (fun v => sol v c) = true) (h2 : b.any (fun v => sol v c) = true) : (made a b p).any (fun v => sol v c) = true := by
 rw [List.any_eq_true] at h1 h2 ⊢
 unfold made
 by_cases hp : sol p c = true
 ·obtain ⟨u, hu, hs⟩ := h2
  refine ⟨u, addAll_has _ _ _ (.inr ⟨hu, ?_⟩), hs⟩
  rintro rfl
  rw [hn, sol_neg h0, hp] at hs
  cases hs
 ·obtain ⟨u, hu, hs⟩ := h1
  refine ⟨u, addAll_has _ _ _ (.inl (addAll_has _ _ _ (.inr ⟨hu, ?_⟩))), hs⟩
  rintro rfl
  exact hp hs
theorem idx_min : ∀ (c : List Int) (j : Nat), j < c.idxOf 0 → c.getD j 0 ≠ 0 ∨ c.length ≤ j
 | [], j, h => by simp at h
 | x :: c, j, h => by
  by_cases hx : x = 0
  ·subst hx
   simp at h
  ·cases j with
   | zero => exact .inl hx
   | succ j =>
    have h' : j < c.idxOf 0 := by
     rw [List.idxOf_cons] at h
     simp only [beq_iff_eq, hx, cond_eq_ite] at h
     simp at h
     omega
    rcases idx_min c j h' with h | h
    ·exact .inl (by simpa using h)
    ·exact .inr (by simpa using h)
theorem vF_min {N : Nat} {a : List Int} {t : List (Int × Int)} (hW : WF N a t) (h : vF a ≠ 0) (i : Int) (h1 : 1 ≤ i) (h2 : i < vF a) : atv a i ≠ 0 := by
 have hf := vF_facts hW h
 unfold vF idxR at h h2
 split at h
 ·rename_i hm
  rw [if_pos hm] at h2
  have hlt := List.idxOf_lt_length_of_mem hm
  have hl := hW.len
  rcases idx_min (a.drop 1) (i.toNat - 1) om with hq | hq
  ·unfold atv
   rw [show i.natAbs = 1 + (i.toNat - 1) by omega]
   rw [List.getD_eq_getElem?_getD] at hq ⊢
   rwa [List.getElem?_drop] at hq
  ·omega
 ·omega
theorem allF_pre : ∀ (st : List Step3) (l out : List (List Int)), allF l st = some out → ∀ c ∈ l, c ∈ out
 | [], l, out, h, c, hc => by
  simp only [allF, Option.some.injEq] at h
  subst h
  exact hc
 | s :: st, l, out, h, c, hc => by
  simp only [allF] at h
  split at h
  ·exact allF_pre st _ _ h c (List.mem_append_left _ hc)
  ·cases h
theorem allF_sol {c : Int → Bool} : ∀ (st : List Step3) (l out : List (List Int)), allF l st = some out → (∀ x ∈ out, ∀ v ∈ x, -1000 ≤ v ∧ v ≤ 1000) → met l c = true → met out c = true
 | [], l, out, h, _, hm => by
  cases h
  exact hm
 | s :: st, l, out, h, hr, hm => by
  have hpre := allF_pre _ _ _ h
  unfold allF at h
  split at h
  ·rename_i hc
   obtain ⟨⟨a0, a1, b0, b1⟩, m0, m1, m2⟩ := hc
   have ha := getC_mem a0 a1
   have hb := getC_mem b0 b1
   have hp := hr _ (hpre _ ha) _ m1
   have hall := List.all_eq_true.1 hm
   have hmade := made_sol (a := getC l s.1) (b := getC l s.2.1) (c := c) (negI_ok om om) m0 (hall _ ha) (hall _ hb)
   refine allF_sol st _ out h hr ?_
   rw [met_append, hm, Bool.true_and]
   simp only [met, List.all_cons, List.all_nil, Bool.and_true]
   exact hmade
  ·cases h
def Nz (l : List (List Int)) : Prop := ∀ c ∈ l, ∀ v ∈ c, v ≠ 0
theorem Nz.app {l m : List (List Int)} (h : Nz l) (k : Nz m) : Nz (l ++ m) := fun c hc => (List.mem_append.1 hc).elim (h c) (k c)
theorem gate_nz {s v : Int} {ks : List Int} (hs : s = 1 ∨ s = -1) (hv : v ≠ 0) (hk : ∀ k ∈ ks, k ≠ 0) : Nz (gate s v ks) := by
 intro c hc u hu
 rcases List.mem_append.1 hc with hc | hc
 ·obtain ⟨k, hkm, rfl⟩ := List.mem_map.1 hc
  have := hk k hkm
  simp only [List.mem_cons, List.not_mem_nil, or_false] at hu
  rcases hs with rfl | rfl <;> rcases hu with rfl | rfl <;> omega
 ·rw [List.mem_singleton] at hc
  subst hc
  rcases List.mem_cons.1 hu with rfl | hu
  ·rcases hs with rfl | rfl <;> omega
  ·obtain ⟨k, hkm, rfl⟩ := List.mem_map.1 hu
   have := hk k hkm
   rcases hs with rfl | rfl <;> omega
theorem kids_nz {g : Fm → Int → LR} {B : Int} : ∀ (ks : List Fm) (n : Int), B ≤ n → (∀ k ∈ ks, ∀ n, B ≤ n → LitOK n (g k n) (nodes k)) → (∀ k ∈ ks, ∀ n, B ≤ n → Nz (g k n).1) → Nz (kidsR g ks n).1
 | [], n, _, _, _ => fun c hc => by simp [kidsR] at hc
 | k :: ks, n, hB, ho, hz => by
  simp only [kidsR]
  have o := ho k (by simp) n hB
  exact (hz k (by simp) n hB).app (kids_nz ks (g k n).2.1 (by have := o.up; omega) (fun x hx => ho x (by simp [hx])) (fun x hx => hz x (by simp [hx])))
theorem lit_nz (B : Int) (h0 : 0 ≤ B) : ∀ (d : Nat) (f : Fm) (n : Int), nf d f → lowF B f → B ≤ n → Nz (litR d f n).1
 | 0, f, n, h, _, _ => h.elim
 | d + 1, f, n, h, hl, hB => by
  have hlk := (lowL_iff B _).1 ((lowF_eq B f).1 hl).2
  rcases h with ⟨h3, hk, h1, h2⟩ | ⟨h4, _, x, hk, hx, _⟩ | ⟨h5, _, _, h60, hk⟩
  ·have e : litR (d + 1) f n = ([], n, f.n) := if_pos h3
   rw [e]
   exact fun c hc => absurd hc (List.not_mem_nil)
  ·have e : litR (d + 1) f n = ((litR d x n).1, (litR d x n).2.1, 0 - (litR d x n).2.2) := by
    show (if f.op = 3 then _ else if f.op = 4 then _ else _) = _
    rw [if_neg om, if_pos h4, hk]
   rw [e]
   exact lit_nz B h0 d x n hx (hlk x (by rw [hk]; simp)) hB
  ·have e : litR (d + 1) f n = ((kidsR (litR d) f.kids n).1 ++ gate (sgn f.op) ((kidsR (litR d) f.kids n).2.1 + 1) (kidsR (litR d) f.kids n).2.2, (kidsR (litR d) f.kids n).2.1 + 1, (kidsR (litR d) f.kids n).2.1 + 1) := by
    show (if f.op = 3 then _ else if f.op = 4 then _ else _) = _
    rw [if_neg om, if_neg om]
   rw [e]
   have ho : ∀ k ∈ f.kids, ∀ n, B ≤ n → LitOK n (litR d k n) (nodes k) := fun k hkm n hn => lit_OK B h0 d k n (hk k hkm) (hlk k hkm) hn
   have hK := kids_OK (g := litR d) f.kids n hB ho
   have hu := hK.up
   exact (kids_nz f.kids n hB ho (fun k hkm n hn => lit_nz B h0 d k n (hk k hkm) (hlk k hkm) hn)).app (gate_nz (sgn_or _) om (fun k hkm => (hK.vs k hkm).1))
theorem of_nz {B : Int} (h0 : 0 ≤ B) {d : Nat} {f : Fm} (hf : fits d f) (hm : mayR d f = true) (hl : lowF B f) : Nz (ofR d f B).1 := by
 have hn := simple_nice d f hf hm
 have hs := simple_nodes B d f hf hl
 unfold ofR
 by_cases c1 : (simpleR d f).op = 1
 ·rw [if_pos c1]
  exact fun c hc => absurd hc (List.not_mem_nil)
 rw [if_neg c1]
 by_cases c2 : (simpleR d f).op = 2
 ·rw [if_pos c2]
  intro c hc v hv
  rw [List.mem_singleton] at hc
  subst hc
  exact absurd hv (List.not_mem_nil)
 rw [if_neg c2]
 have o := lit_OK B h0 d (simpleR d f) B (nice_3 hn c1 c2) hs.2 (Int.le_refl _)
 refine (lit_nz B h0 d _ B (nice_3 hn c1 c2) hs.2 (Int.le_refl _)).app (fun c hc v hv => ?_)
 rw [List.mem_singleton] at hc
 subst hc
 rw [List.mem_singleton] at hv
 subst hv
 exact o.nz
end Go.Abs.W

namespace Go.Abs.W
open Go Go.Abs
set_option maxRecDepth 8000
def big (a : List Int) (i : Int) : Bool := decide (0 < atv a i)
theorem sol_of {a : List Int} (hA : AbsOK a) {u : Int} (hu : u ≠ 0) (h : atv a u = u) : sol u (big a) = true := by
 unfold sol big
 rw [if_neg hu]
 by_cases h0 : u < 0
 ·rw [if_pos h0, atv_neg, h, decide_eq_false (show ¬ 0 < u by omega)]
  rfl
 ·rw [if_neg h0, h, decide_eq_true om]
  rfl
theorem big_truths {a : List Int} {V : Nat} {n : Int} (hn : n ≤ V) : agree n (big a) (fun i => atomB i (truthsR a V)) := by
 intro i h1 h2
 have hl : (truthsR a V).length = V := by simp [truthsR]
 show big a i = (decide (i ≥ 1) && decide (i ≤ (truthsR a V).length) && (truthsR a V).getD (i - 1).toNat false)
 rw [hl, decide_eq_true om, decide_eq_true om]
 simp only [Bool.true_and]
 unfold big truthsR
 rw [List.getD_eq_getElem?_getD, List.getElem?_map, List.getElem?_range om]
 simp only [Option.map_some, Option.getD_some]
 congr 1
 unfold atv
 rw [show i.natAbs = (i - 1).toNat + 1 by omega]
structure Plain (d : Nat) (f : Fm) (n : Nat) : Prop where
 fit : fits (d + 1) f
 may : mayR (d + 1) f = true
 low : lowF n f
 few : n + nodes f ≤ 399
theorem plain_ok {d : Nat} {f : Fm} {n : Nat} (h : Plain d f n) : ∃ V : Nat, (ofR (d + 1) f n).2 = V ∧ n ≤ V ∧ okI (ofR (d + 1) f n).1 V ∧ checkC (ofR (d + 1) f n).1 V = 0 := by
 have o := of_OK (B := n) om h.fit h.may h.low (Int.le_refl _)
 have hz := of_nz (B := n) om h.fit h.may h.low
 have hf := h.few
 have o1 := o.up
 have o2 := o.top
 have o3 := o.num
 refine ⟨(ofR (d + 1) f n).2.toNat, om, om, ⟨om, om, fun c hc => ⟨fun v hv => ⟨hz c hc v hv, ?_⟩, ?_⟩⟩, ?_⟩
 ·have := (o.cl c hc).2 v hv
  omega
 ·have := (o.cl c hc).1
  omega
 ·unfold checkC
  rw [if_neg]
  rintro (h | h | h)
  ·omega
  ·omega
  ·rw [List.any_eq_true] at h
   obtain ⟨c, hc, h⟩ := h
   unfold wrongC at h
   rw [List.any_eq_true] at h
   obtain ⟨v, hv, h⟩ := h
   have h1 := hz c hc v hv
   have h2 := (o.cl c hc).2 v hv
   unfold wrongB at h
   simp only [Bool.or_eq_true, decide_eq_true_eq] at h
   omega
theorem solve_says {d : Nat} {f : Fm} {n : Nat} (h : Plain d f n) {V : Nat} (hV : (ofR (d + 1) f n).2 = V) {b : Int} (hb : 0 ≤ b ∧ b ≤ 1000) (hbn : ((2 ^ n : Nat) : Int) ≤ b + 1) :
  ((solveR (ofR (d + 1) f n).1 V b).1 = 1 ∧ evalR (d + 1) f (metR (solveR (ofR (d + 1) f n).1 V b) V) = true) ∨ ((solveR (ofR (d + 1) f n).1 V b).1 = 2 ∧ ∀ t, evalR (d + 1) f t = false) := by
 obtain ⟨V', hV', hnV, hI, hC⟩ := plain_ok h
 obtain rfl : V' = V := by omega
 have hz := of_nz (B := n) om h.fit h.may h.low
 have hpre := pre0 hI hb
 have hVle := hI.1
 have hTV : TV (ofR (d + 1) f n).1 (s0R (ofR (d + 1) f n).1 V' b) := ⟨⟨[], by simp [s0R]⟩, TI.nil _, rfl⟩
 have hans := try_all om om (V' + 1) _ hpre hTV
 have hpost := try_post om (V' + 1) _ hpre
 have hop : opn n (s0R (ofR (d + 1) f n).1 V' b).a ≤ n := by
  have := List.length_filter_le (fun i : Nat => decide (atv (s0R (ofR (d + 1) f n).1 V' b).a ((i : Int) + 1) = 0)) (List.range n)
  rw [List.length_range] at this
  exact this
 have hp2 : 2 ^ opn n (s0R (ofR (d + 1) f n).1 V' b).a ≤ 2 ^ n := Nat.pow_le_pow_right om hop
 have hfew := try_few (n := n) om om (fun a t hW hcalm => by
  by_cases h0 : vF a = 0
  ·exact .inl h0
  ·right
   obtain ⟨f1, f2, f3⟩ := vF_facts hW h0
   by_cases hle : vF a ≤ n
   ·exact hle
   ·exfalso
    have hF : FixedTo a n := fun i i1 i2 => vF_min hW h0 i i1 om
    have hall := of_fix (wf_abs hW) (B := n) om h.fit h.may h.low hF hcalm
    rw [hV] at hall
    have hlt := f2.2
    exact hall (vF a) om om f3) (V' + 1) _ hpre hTV (by
   show _ ≤ b + 1
   omega)
 have hkind := hpost.kind
 have hne := hfew.1
 unfold solveR metR
 have hwf := hpost.wf
 have hcl := hpost.cl
 have hres := hpost.res
 generalize tryR (V' + 1) (ofR (d + 1) f n).1.length (V' + 1) (s0R (ofR (d + 1) f n).1 V' b) = r at *
 rcases hkind with k1 | k2 | k3
 ·left
  refine ⟨k1, ?_⟩
  rw [if_pos k1]
  have hmet : met (ofR (d + 1) f n).1 (big r.2.2.a) = true := by
   refine List.all_eq_true.2 fun c hc => ?_
   obtain ⟨u, hu, he⟩ := hans.met k1 c hc
   exact List.any_eq_true.2 ⟨u, hu, sol_of (wf_abs hwf) (hz c hc u hu) he⟩
  obtain ⟨b', hb1, hb2⟩ := of_S (B := n) (n := n) om (truthsR r.2.2.a V') h.fit h.may h.low (Int.le_refl _) (big r.2.2.a) (big_truths om)
  exact ((hb2 _ (agree_refl _ _)).1 hmet).2
 ·right
  refine ⟨k2, fun t => ?_⟩
  obtain ⟨y1, y2⟩ := hres k2
  have hun := hans.un k2
  have hempty : r.2.2.l.getD r.2.1.toNat [] = [] := by
   cases hq : r.2.2.l.getD r.2.1.toNat [] with
   | nil => rfl
   | cons v c =>
    have := hun v (by rw [hq]; simp)
    exact absurd this (List.not_mem_nil)
  have hno : ∀ c : Int → Bool, met (ofR (d + 1) f n).1 c = true → False := by
   intro c hm
   have hall := allF_sol _ _ _ hans.tv.vp (fun x hx v hv => by
    have := ((hcl x hx).1 v hv).2
    omega) hm
   have hmem : ([] : List Int) ∈ r.2.2.l := by
    rw [← hempty, List.getD_eq_getElem?_getD, List.getElem?_eq_getElem y2]
    exact List.getElem_mem y2
   have := List.all_eq_true.1 hall _ hmem
   simp at this
  obtain ⟨b', hb1, hb2⟩ := of_S (B := n) (n := n) om t h.fit h.may h.low (Int.le_refl _) (fun i => atomB i t) (agree_refl _ _)
  cases hev : evalR (d + 1) f t with
  | false => rfl
  | true => exact absurd ((hb2 b' hb1).2 ⟨agree_refl _ _, hev⟩) (fun hm => hno _ hm)
 ·exact absurd k3 hne
end Go.Abs.W

namespace Go.Abs.W
open Go Go.Abs
set_option maxRecDepth 8000
attribute [local irreducible] callN runC evalOp
theorem foldl_le {d : Nat} {B : Int} : ∀ (ks : List Fm) (b : Int), b ≤ B → (∀ k ∈ ks, atomsR d k ≤ B) → ks.foldl (fun n k => if atomsR d k > n then atomsR d k else n) b ≤ B
 | [], b, h, _ => h
 | x :: ks, b, h, hk => by
  simp only [List.foldl_cons]
  refine foldl_le ks _ ?_ (fun k hm => hk k (by simp [hm]))
  have := hk x (by simp)
  split <;> omega
theorem low_atoms {B : Int} (hB : 0 ≤ B) : ∀ (d : Nat) (f : Fm), lowF B f → atomsR d f ≤ B
 | 0, _, _ => hB
 | d + 1, f, h => by
  rw [lowF_eq, lowL_iff] at h
  refine foldl_le _ _ ?_ (fun k hk => low_atoms hB d k (h.2 k hk))
  unfold atom0
  split
  ·rename_i h3
   have := h.1 h3
   split <;> omega
  ·exact hB
theorem says {d : Nat} {f : Fm} {k n : Nat} (hP : Plain d f k) (hd : d ≤ 30) {b : Int} (hb : 0 ≤ b ∧ b ≤ 1000) (hbk : ((2 ^ k : Nat) : Int) ≤ b + 1) (hn : 31000 < n) :
    ∃ (cl : List (List Int)) (V : Nat) (σ2 σ3 σ4 : St) (tried : Int) (tr : List Bool) (st : List (Int × Int × Int)),
      callN T n 32 [.agg (eF f), .int .i64 k] [] = some (.tup [.sl (rows cl) none, .int .i64 V], σ2) ∧
      callN T n 33 [.sl (rows cl) none, .int .i64 V] [] = some (.int .i64 0, σ3) ∧
      ((callN T n 34 [.sl (rows cl) none, .int .i64 V, .int .i64 b] [] = some (.agg [.int .i64 2, .sl (bools tr) none, .sl (trips st) none, .int .i64 tried], σ4) ∧ ∀ t, evalR (d + 1) f t = false) ∨
       (callN T n 34 [.sl (rows cl) none, .int .i64 V, .int .i64 b] [] = some (.agg [.int .i64 1, .sl (bools tr) none, .sl (trips st) none, .int .i64 tried], σ4) ∧ k ≤ tr.length ∧ evalR (d + 1) f tr = true)) := by
  obtain ⟨V, hV, hkV, hI, hC⟩ := plain_ok hP
  have hfew := hP.few
  obtain ⟨N, rfl⟩ : ∃ m, n = m + 7 := ⟨n - 7, om⟩
  obtain ⟨σ2, h2⟩ := of_ok d f (N + 6) none hP.fit hP.may (k : Int) om om (low_atoms om _ _ hP.low) om om om
  rw [hV] at h2
  obtain ⟨σ3, h3⟩ := check_ok N (ofR (d + 1) f k).1 V none om (by have := hI.2.1; omega) (fun c hc => by have := (hI.2.2 c hc).2; have := hI.1; omega)
  rw [hC] at h3
  obtain ⟨σ4, h4⟩ := solve_ok (N + 6) (ofR (d + 1) f k).1 V b none hI om hC om
  have hb0 : (if 0 > b then 0 else b) = b := if_neg om
  rw [hb0] at h4
  refine ⟨(ofR (d + 1) f k).1, V, σ2, σ3, σ4, (solveR (ofR (d + 1) f k).1 V b).2.2.tried, metR (solveR (ofR (d + 1) f k).1 V b) V, stepsR (solveR (ofR (d + 1) f k).1 V b), h2, h3, ?_⟩
  rcases solve_says hP hV hb hbk with ⟨h5, h6⟩ | ⟨h5, h6⟩
  · refine .inr ⟨by rw [← h5]; exact h4, ?_, h6⟩
    unfold metR
    rw [if_pos h5]
    simp only [truthsR, List.length_map, List.length_range]
    exact hkV
  · exact .inl ⟨by rw [← h5]; exact h4, h6⟩
def Shows (n : Nat) (s1 s2 at_ : List (List D)) (e1 e2 e3 : List UInt8) : Prop :=
 ∀ tr : List Bool, at_.length ≤ tr.length → ∃ (rm : D) (σ5 : St) (r1 r2 r3 r4 r5 r6 : List UInt8) (i1 i2 : Int) (bb : Bool) (r7 r8 r9 : List UInt8) (it nm so : List (List D)),
  callN T n 35 [.agg [.sl s1 none, .sl s2 none], .agg [.str e1, .str e2, .str e3], .sl at_ none, .sl (bools tr) none] [] = some (rm, σ5) ∧
  freeze σ5 rm = some (.tup [.agg [.str r1, .str r2, .str r3, .str r4, .str r5, .str r6, .int .i64 i1, .bool bb, .int .i64 i2, .str r7, .str r8, .str r9, .sl it none, .sl nm none], .sl so none])
def isYes (k : Int) (d : D) : Prop := ∃ (r1 r2 r3 r4 r5 r6 : List UInt8) (i1 i2 : Int) (bb : Bool) (r7 r8 r9 : List UInt8) (it nm so : List (List D)), d = .agg (yesR k r1 r2 r3 r4 r5 r6 i1 i2 bb r7 r8 r9 it nm so)
theorem ask2_says {n : Nat} (s1 s2 pl at_ : List (List D)) (e1 e2 e3 : List UInt8) (gf pp qq : Nat) (b : Int) (σ : St) (tk : List Fm) (ax g : Fm) {d : Nat} (hP : Plain d (.mk 5 0 [g, ax]) at_.length) (hd : d ≤ 30) (hb : 0 ≤ b ∧ b ≤ 1000) (hbk : ((2 ^ at_.length : Nat) : Int) ≤ b + 1) (hn : 31000 < n)
  (c1 : ∃ σ1, callN T n 31 [.agg [.sl s1 none, .sl s2 none], .agg [.str e1, .str e2, .str e3], .sl pl none] [] = some (.tup [.agg [.sl (eFs tk) none, .sl at_ none, .int .i64 ax.op, .int .i64 ax.n, .sl (eFs ax.kids) none], .int .i64 0], σ1))
  (c2 : callN T n gf ([.sl (eFs tk) none] ++ [.ptr pp 0, .ptr qq 0]) σ = some (.agg (eF g), σ)) (c6 : (∃ t, evalR (d + 1) (.mk 5 0 [g, ax]) t = true) → Shows n s1 s2 at_ e1 e2 e3) :
  (callN T (n + 1) 29 [.agg [.sl s1 none, .sl s2 none, .sl pl none, .func gf [.ptr pp 0, .ptr qq 0], .int .i64 b], .agg [.str e1, .str e2, .str e3]] σ = some (.agg noR, σ) ∧ ∀ t, evalR (d + 1) (.mk 5 0 [g, ax]) t = false) ∨
  (∃ r, isYes 1 r ∧ callN T (n + 1) 29 [.agg [.sl s1 none, .sl s2 none, .sl pl none, .func gf [.ptr pp 0, .ptr qq 0], .int .i64 b], .agg [.str e1, .str e2, .str e3]] σ = some (r, σ) ∧ ∃ t, evalR (d + 1) (.mk 5 0 [g, ax]) t = true) := by
 obtain ⟨σ1, c1⟩ := c1
 obtain ⟨cl, V, σ2, σ3, σ4, tried, tr, st, c3, c4, h⟩ := says hP hd hb hbk hn
 rcases h with ⟨c5, he⟩ | ⟨c5, hk, he⟩
 ·exact .inl ⟨ask2_no n s1 s2 pl at_ e1 e2 e3 gf pp qq b σ σ1 σ2 σ3 σ4 tk ax g cl V tried tr st c1 c2 c3 c4 c5, he⟩
 ·obtain ⟨rm, σ5, r1, r2, r3, r4, r5, r6, i1, i2, bb, r7, r8, r9, it, nm, so, c6⟩ := c6 ⟨tr, he⟩ tr hk
  exact .inr ⟨_, ⟨r1, r2, r3, r4, r5, r6, i1, i2, bb, r7, r8, r9, it, nm, so, rfl⟩, ask2_yes n s1 s2 pl at_ e1 e2 e3 gf pp qq b σ σ1 σ2 σ3 σ4 tk ax g cl V tried tr st c1 c2 c3 c4 c5 r1 r2 r3 r4 r5 r6 i1 i2 bb r7 r8 r9 it nm so σ5 rm c6, tr, he⟩
theorem ask1_says {n : Nat} (s1 s2 pl at_ : List (List D)) (e1 e2 e3 : List UInt8) (gf pp : Nat) (b : Int) (σ : St) (tk : List Fm) (ax g : Fm) {d : Nat} (hP : Plain d (.mk 5 0 [g, ax]) at_.length) (hd : d ≤ 30) (hb : 0 ≤ b ∧ b ≤ 1000) (hbk : ((2 ^ at_.length : Nat) : Int) ≤ b + 1) (hn : 31000 < n)
  (c1 : ∃ σ1, callN T n 31 [.agg [.sl s1 none, .sl s2 none], .agg [.str e1, .str e2, .str e3], .sl pl none] [] = some (.tup [.agg [.sl (eFs tk) none, .sl at_ none, .int .i64 ax.op, .int .i64 ax.n, .sl (eFs ax.kids) none], .int .i64 0], σ1))
  (c2 : callN T n gf ([.sl (eFs tk) none] ++ [.ptr pp 0]) σ = some (.agg (eF g), σ)) (c6 : (∃ t, evalR (d + 1) (.mk 5 0 [g, ax]) t = true) → Shows n s1 s2 at_ e1 e2 e3) :
  (callN T (n + 1) 29 [.agg [.sl s1 none, .sl s2 none, .sl pl none, .func gf [.ptr pp 0], .int .i64 b], .agg [.str e1, .str e2, .str e3]] σ = some (.agg noR, σ) ∧ ∀ t, evalR (d + 1) (.mk 5 0 [g, ax]) t = false) ∨
  (∃ r, isYes 1 r ∧ callN T (n + 1) 29 [.agg [.sl s1 none, .sl s2 none, .sl pl none, .func gf [.ptr pp 0], .int .i64 b], .agg [.str e1, .str e2, .str e3]] σ = some (r, σ) ∧ ∃ t, evalR (d + 1) (.mk 5 0 [g, ax]) t = true) := by
 obtain ⟨σ1, c1⟩ := c1
 obtain ⟨cl, V, σ2, σ3, σ4, tried, tr, st, c3, c4, h⟩ := says hP hd hb hbk hn
 rcases h with ⟨c5, he⟩ | ⟨c5, hk, he⟩
 ·exact .inl ⟨ask1_no n s1 s2 pl at_ e1 e2 e3 gf pp b σ σ1 σ2 σ3 σ4 tk ax g cl V tried tr st c1 c2 c3 c4 c5, he⟩
 ·obtain ⟨rm, σ5, r1, r2, r3, r4, r5, r6, i1, i2, bb, r7, r8, r9, it, nm, so, c6⟩ := c6 ⟨tr, he⟩ tr hk
  exact .inr ⟨_, ⟨r1, r2, r3, r4, r5, r6, i1, i2, bb, r7, r8, r9, it, nm, so, rfl⟩, ask1_yes n s1 s2 pl at_ e1 e2 e3 gf pp b σ σ1 σ2 σ3 σ4 tk ax g cl V tried tr st c1 c2 c3 c4 c5 r1 r2 r3 r4 r5 r6 i1 i2 bb r7 r8 r9 it nm so σ5 rm c6, tr, he⟩
def OneEnv (n : Nat) (s1 s2 : List (List D)) (e1 e2 e3 : List UInt8) : Prop := ∃ σ1, callN T n 28 [.agg [.sl s1 none, .sl s2 none]] [] = some (.sl [[.str e1, .str e2, .str e3]] none, σ1)
theorem equiv_says {n : Nat} (s1 s2 at_ : List (List D)) (e1 e2 e3 : List UInt8) (p q : List Pol) (o1 o2 : Option Nat) (b : Int) (tk : List Fm) (ax : Fm) {d : Nat} (hlen : tk.length = p.length + q.length) (h60 : p.length + q.length ≤ 60) (hP : Plain d (.mk 5 0 [differF p q tk, ax]) at_.length) (hd : d ≤ 30) (hb : 0 ≤ b ∧ b ≤ 1000) (hbk : ((2 ^ at_.length : Nat) : Int) ≤ b + 1) (hn : 31000 < n)
  (c0 : OneEnv (n + 1) s1 s2 e1 e2 e3)
  (c1 : ∃ σ1, callN T n 31 [.agg [.sl s1 none, .sl s2 none], .agg [.str e1, .str e2, .str e3], .sl (ePs (p ++ q)) none] [] = some (.tup [.agg [.sl (eFs tk) none, .sl at_ none, .int .i64 ax.op, .int .i64 ax.n, .sl (eFs ax.kids) none], .int .i64 0], σ1))
  (c6 : (∃ t, evalR (d + 1) (.mk 5 0 [differF p q tk, ax]) t = true) → Shows n s1 s2 at_ e1 e2 e3) :
  ∃ r σ', callN T (n + 3) 7 [.agg [.sl s1 none, .sl s2 none], .sl (ePs p) o1, .sl (ePs q) o2, .int .i64 b] [] = some (r, σ') ∧
   ((isYes 2 r ∧ ∃ t, evalR (d + 1) (.mk 5 0 [differF p q tk, ax]) t = true) ∨ (r = .agg [.int .i64 1, .bool false, .str [], .str [], .str [], .str [], .str [], .str [], .int .i64 0, .bool false, .int .i64 0, .str [], .str [], .str [], .sl [] none, .sl [] none, .sl [] none] ∧ ∀ t, evalR (d + 1) (.mk 5 0 [differF p q tk, ax]) t = false)) := by
 obtain ⟨σe, c0⟩ := c0
 have cc := concat_ok (n + 1) p q h60 om
 obtain ⟨m, rfl⟩ : ∃ m, n = m + 4 := ⟨n - 4, om⟩
 have c2 := differ_ok m p q tk none [.cells [.sl (ePs p) none], .cells [.sl (ePs q) none]] 0 1 rfl rfl hlen om h60
 rcases ask2_says s1 s2 (ePs (p ++ q)) at_ e1 e2 e3 11 0 1 b [.cells [.sl (ePs p) none], .cells [.sl (ePs q) none]] tk ax (differF p q tk) hP hd hb hbk hn c1 c2 c6 with ⟨h1, h2⟩ | ⟨r, ⟨r1, r2, r3, r4, r5, r6, i1, i2, bb, r7, r8, r9, it, nm, so, rfl⟩, h1, h2⟩
 ·have h3 := all2_no (m + 5) s1 s2 (ePs (p ++ q)) e1 e2 e3 11 0 1 b [.cells [.sl (ePs p) none], .cells [.sl (ePs q) none]] σe om c0 h1
  obtain ⟨σ', h4⟩ := equiv_no (m + 4) s1 s2 p q b o1 o2 cc (fun σ hσ => by subst hσ; exact h3)
  exact ⟨_, σ', h4, .inr ⟨rfl, h2⟩⟩
 ·have h3 := all2_yes (m + 5) s1 s2 (ePs (p ++ q)) e1 e2 e3 11 0 1 b [.cells [.sl (ePs p) none], .cells [.sl (ePs q) none]] σe r1 r2 r3 r4 r5 r6 i1 i2 bb r7 r8 r9 it nm so om c0 h1
  obtain ⟨σ', h4⟩ := equiv_yes (m + 4) s1 s2 p q b o1 o2 r1 r2 r3 r4 r5 r6 i1 i2 bb r7 r8 r9 it nm so cc (fun σ hσ => by subst hσ; exact h3)
  exact ⟨_, σ', h4, .inl ⟨⟨r1, r2, r3, r4, r5, r6, i1, i2, bb, r7, r8, r9, it, nm, so, rfl⟩, h2⟩⟩
theorem confl_says {n : Nat} (s1 s2 at_ : List (List D)) (e1 e2 e3 : List UInt8) (p : List Pol) (o1 : Option Nat) (b : Int) (tk : List Fm) (ax : Fm) {d : Nat} (hlen : tk.length = p.length) (h60 : p.length ≤ 60) (hP : Plain d (.mk 5 0 [bothF p tk, ax]) at_.length) (hd : d ≤ 30) (hb : 0 ≤ b ∧ b ≤ 1000) (hbk : ((2 ^ at_.length : Nat) : Int) ≤ b + 1) (hn : 31000 < n)
  (c0 : OneEnv (n + 1) s1 s2 e1 e2 e3)
  (c1 : ∃ σ1, callN T n 31 [.agg [.sl s1 none, .sl s2 none], .agg [.str e1, .str e2, .str e3], .sl (ePs p) none] [] = some (.tup [.agg [.sl (eFs tk) none, .sl at_ none, .int .i64 ax.op, .int .i64 ax.n, .sl (eFs ax.kids) none], .int .i64 0], σ1))
  (c6 : (∃ t, evalR (d + 1) (.mk 5 0 [bothF p tk, ax]) t = true) → Shows n s1 s2 at_ e1 e2 e3) :
  ∃ r σ', callN T (n + 3) 8 [.agg [.sl s1 none, .sl s2 none], .sl (ePs p) o1, .int .i64 b] [] = some (r, σ') ∧
   ((isYes 1 r ∧ ∃ t, evalR (d + 1) (.mk 5 0 [bothF p tk, ax]) t = true) ∨ (r = .agg noR ∧ ∀ t, evalR (d + 1) (.mk 5 0 [bothF p tk, ax]) t = false)) := by
 obtain ⟨σe, c0⟩ := c0
 obtain ⟨m, rfl⟩ : ∃ m, n = m + 2 := ⟨n - 2, om⟩
 have c2 := conflict_ok m p tk none [.cells [.sl (ePs p) none]] 0 rfl om om h60
 rcases ask1_says s1 s2 (ePs p) at_ e1 e2 e3 18 0 b [.cells [.sl (ePs p) none]] tk ax (bothF p tk) hP hd hb hbk hn c1 c2 c6 with ⟨h1, h2⟩ | ⟨r, ⟨r1, r2, r3, r4, r5, r6, i1, i2, bb, r7, r8, r9, it, nm, so, rfl⟩, h1, h2⟩
 ·have h3 := all1_no (m + 3) s1 s2 (ePs p) e1 e2 e3 18 0 b [.cells [.sl (ePs p) none]] σe om c0 h1
  obtain ⟨σ', h4⟩ := confl_ok (m + 2) s1 s2 p b o1 2 false [] [] [] [] [] [] 0 0 false [] [] [] [] [] [] (fun σ hσ => by subst hσ; exact h3)
  exact ⟨_, σ', h4, .inr ⟨rfl, h2⟩⟩
 ·have h3 := all1_yes (m + 3) s1 s2 (ePs p) e1 e2 e3 18 0 b [.cells [.sl (ePs p) none]] σe r1 r2 r3 r4 r5 r6 i1 i2 bb r7 r8 r9 it nm so om c0 h1
  obtain ⟨σ', h4⟩ := confl_ok (m + 2) s1 s2 p b o1 1 true r1 r2 r3 r4 r5 r6 i1 i2 bb r7 r8 r9 it nm so (fun σ hσ => by subst hσ; exact h3)
  exact ⟨_, σ', h4, .inl ⟨⟨r1, r2, r3, r4, r5, r6, i1, i2, bb, r7, r8, r9, it, nm, so, rfl⟩, h2⟩⟩
end Go.Abs.W

namespace Go.Abs.W
open Go Go.Abs
set_option maxRecDepth 8000
attribute [local irreducible] callN runC evalOp
def caseT (t : List Bool) : Nat := (bif atomB 1 t then 1 else 0) + (bif atomB 2 t then 2 else 0)
theorem caseT_lt (t : List Bool) : caseT t < 4 := by
 unfold caseT
 cases atomB 1 t <;> cases atomB 2 t <;> decide
theorem case_of {c : Nat} (h : c < 4) : caseT [bitN c 0, bitN c 1] = c := by
 match c, h with
 | 0, _ => rfl
 | 1, _ => rfl
 | 2, _ => rfl
 | 3, _ => rfl
theorem ev_tt (d : Nat) (t : List Bool) : evalR (d + 1) (.mk 1 0 []) t = true := by
 rw [evalR]
 simp only [Fm.op_mk, if_true]
theorem ev_at (d : Nat) (n : Int) (t : List Bool) : evalR (d + 1) (.mk 3 n []) t = atomB n t := by
 rw [evalR]
 simp only [Fm.op_mk, Fm.n_mk, show (3 : Int) ≠ 1 by decide, if_true, if_false]
theorem ev_not (d : Nat) (f : Fm) (t : List Bool) : evalR (d + 1) (.mk 4 0 [f]) t = !evalR d f t := by
 rw [evalR]
 simp only [Fm.op_mk, Fm.kids_mk, show (4 : Int) ≠ 1 by decide, show (4 : Int) ≠ 3 by decide, if_true, if_false]
theorem ev_and (d : Nat) (ks : List Fm) (t : List Bool) : evalR (d + 1) (.mk 5 0 ks) t = ks.all (evalR d · t) := by
 rw [evalR]
 simp only [Fm.op_mk, Fm.kids_mk, show (5 : Int) ≠ 1 by decide, show (5 : Int) ≠ 3 by decide, show (5 : Int) ≠ 4 by decide, if_true, if_false]
theorem ev_or (d : Nat) (ks : List Fm) (t : List Bool) : evalR (d + 1) (.mk 6 0 ks) t = ks.any (evalR d · t) := by
 rw [evalR]
 simp only [Fm.op_mk, Fm.kids_mk, show (6 : Int) ≠ 1 by decide, show (6 : Int) ≠ 3 by decide, show (6 : Int) ≠ 4 by decide, show (6 : Int) ≠ 5 by decide, if_true, if_false]
theorem ev_lit (d : Nat) (b : Bool) (n : Int) (t : List Bool) : evalR (d + 2) (bif b then .mk 3 n [] else .mk 4 0 [.mk 3 n []]) t = (atomB n t == b) := by
 cases b
 ·show evalR (d + 2) (.mk 4 0 [.mk 3 n []]) t = _
  rw [ev_not, ev_at]
  cases atomB n t <;> rfl
 ·show evalR (d + 2) (.mk 3 n []) t = _
  rw [ev_at]
  cases atomB n t <;> rfl
theorem tk_eval (d : Nat) {i : Nat} (h : i < 8) (t : List Bool) : evalR (d + 4) (tkF i) t = Nat.beq (i % 4) (caseT t) := by
 unfold tkF
 rw [ev_and]
 simp only [List.all_cons, List.all_nil, Bool.and_true, ev_lit, ev_tt, Bool.true_and]
 unfold caseT
 match i, h with
 | 0, _ => cases atomB 1 t <;> cases atomB 2 t <;> rfl
 | 1, _ => cases atomB 1 t <;> cases atomB 2 t <;> rfl
 | 2, _ => cases atomB 1 t <;> cases atomB 2 t <;> rfl
 | 3, _ => cases atomB 1 t <;> cases atomB 2 t <;> rfl
 | 4, _ => cases atomB 1 t <;> cases atomB 2 t <;> rfl
 | 5, _ => cases atomB 1 t <;> cases atomB 2 t <;> rfl
 | 6, _ => cases atomB 1 t <;> cases atomB 2 t <;> rfl
 | 7, _ => cases atomB 1 t <;> cases atomB 2 t <;> rfl
theorem some_eval (d : Nat) (pr : Pol → Bool) (t : List Bool) : ∀ (l : List Nat), (∀ i ∈ l, i < 8) → (pickF pr (l.map rowP) (l.map tkF)).any (evalR (d + 4) · t) = l.any fun i => pr (rowP i) && Nat.beq (i % 4) (caseT t)
 | [], _ => rfl
 | i :: l, h => by
  have ih := some_eval d pr t l (fun j hj => h j (by simp [hj]))
  simp only [List.map_cons, pickF, List.any_cons]
  split
  ·rename_i hp
   rw [List.any_cons, ih, tk_eval d (h i (by simp)), hp]
   simp
  ·rename_i hp
   rw [ih, Bool.eq_false_iff.2 hp]
   simp
def allowL (l : List Nat) (c : Nat) : Bool := (l.any fun i => Nat.blt i 4 && Nat.beq (i % 4) c) && !(l.any fun i => !Nat.blt i 4 && Nat.beq (i % 4) c)
def clashL (l : List Nat) (c : Nat) : Bool := (l.any fun i => Nat.blt i 4 && Nat.beq (i % 4) c) && (l.any fun i => !Nat.blt i 4 && Nat.beq (i % 4) c)
theorem allow_eval (d : Nat) (t : List Bool) (l : List Nat) (h : ∀ i ∈ l, i < 8) : evalR (d + 7) (allowF (l.map rowP) (l.map tkF)) t = allowL l (caseT t) := by
 have h1 := some_eval (d + 1) (·.permit) t l h
 have h2 := some_eval d (fun x => !x.permit) t l h
 unfold allowF someF
 rw [ev_and]
 simp only [List.all_cons, List.all_nil, Bool.and_true]
 rw [ev_or, ev_not, ev_or, h1, h2]
 rfl
theorem both_eval (d : Nat) (t : List Bool) (l : List Nat) (h : ∀ i ∈ l, i < 8) : evalR (d + 6) (bothF (l.map rowP) (l.map tkF)) t = clashL l (caseT t) := by
 have h1 := some_eval d (·.permit) t l h
 have h2 := some_eval d (fun x => !x.permit) t l h
 unfold bothF someF
 rw [ev_and]
 simp only [List.all_cons, List.all_nil, Bool.and_true]
 rw [ev_or, ev_or, h1, h2]
 rfl
theorem differ_eval (t : List Bool) (x y : List Nat) (hx : ∀ i ∈ x, i < 8) (hy : ∀ i ∈ y, i < 8) : evalR 11 (differF (x.map rowP) (y.map rowP) ((x ++ y).map tkF)) t = (allowL x (caseT t) != allowL y (caseT t)) := by
 have ht : ((x ++ y).map tkF).take (x.map rowP).length = x.map tkF := by simp
 have hd : ((x ++ y).map tkF).drop (x.map rowP).length = y.map tkF := by simp
 unfold differF
 rw [ht, hd]
 have a1 := allow_eval 2 t x hx
 have a2 := allow_eval 1 t x hx
 have b1 := allow_eval 2 t y hy
 have b2 := allow_eval 1 t y hy
 generalize allowF (x.map rowP) (x.map tkF) = A at *
 generalize allowF (y.map rowP) (y.map tkF) = B at *
 rw [ev_or]
 simp only [List.any_cons, List.any_nil, Bool.or_false]
 rw [ev_and, ev_and]
 simp only [List.all_cons, List.all_nil, Bool.and_true]
 rw [ev_not, ev_not, a1, a2, b1, b2]
 cases allowL x (caseT t) <;> cases allowL y (caseT t) <;> rfl
def axM : Fm := .mk 5 0 axF
theorem ax_eval (t : List Bool) : evalR 11 axM t = true := by
 unfold axM axF a1 tt
 rw [ev_and]
 simp only [List.all_cons, List.all_nil, Bool.and_true, ev_or, List.any_cons, List.any_nil, Bool.or_false, ev_not, ev_at, ev_and, ev_tt]
 cases atomB 1 t <;> rfl
theorem two_eval (t : List Bool) (g : Fm) : evalR 12 (.mk 5 0 [g, axM]) t = evalR 11 g t := by
 rw [ev_and]
 simp only [List.all_cons, List.all_nil, Bool.and_true, ax_eval]
structure Ok (d : Nat) (f : Fm) : Prop where
 fit : fits d f
 may : mayR d f = true
 low : lowF 2 f
theorem Ok.mono {d e : Nat} {f : Fm} (h : Ok d f) (hle : d ≤ e) : Ok e f := ⟨fits_mono h.fit hle, mayR_mono h.may hle, h.low⟩
theorem ok_mk {d : Nat} {o : Int} {ks : List Fm} (ho : o = 5 ∨ o = 6 ∨ (o = 4 ∧ ks.length = 1)) (hl : ks.length ≤ 60) (h : ∀ k ∈ ks, Ok d k) : Ok (d + 1) (.mk o 0 ks) := by
 have hd : headOK (.mk o 0 ks) := by
  unfold headOK
  simp only [Fm.op_mk, Fm.n_mk, Fm.kids_mk]
  rcases ho with rfl | rfl | ⟨rfl, h1⟩
  ·refine ⟨om, om, om, om, om⟩
  ·refine ⟨om, om, om, om, om⟩
  ·refine ⟨om, om, om, om, om⟩
 refine ⟨⟨by simpa [Fm.kids_mk] using hl, fun k hk => (h k (by simpa [Fm.kids_mk] using hk)).fit⟩, ?_, ?_⟩
 ·rw [mayR_go hd, Fm.kids_mk]
  exact List.all_eq_true.2 fun k hk => (h k hk).may
 ·rw [lowF_eq, lowL_iff]
  simp only [Fm.op_mk, Fm.kids_mk]
  exact ⟨fun h3 => absurd h3 (by rcases ho with h | h | h <;> omega), fun k hk => (h k hk).low⟩
theorem ok_leaf : Ok 1 tt := by
 refine ⟨⟨by simp [tt, Fm.kids_mk], fun k hk => by simp [tt, Fm.kids_mk] at hk⟩, ?_, ?_⟩
 ·rw [mayR_go]
  ·rfl
  ·unfold headOK tt
   simp only [Fm.op_mk, Fm.n_mk, Fm.kids_mk, List.length_nil]
   refine ⟨om, om, om, om, om⟩
 ·rw [lowF_eq]
  exact ⟨fun h => by simp [tt, Fm.op_mk] at h, by simp [tt, Fm.kids_mk, lowL]⟩
theorem ok_atom {n : Int} (h0 : 1 ≤ n) (h2 : n ≤ 2) : Ok 1 (.mk 3 n []) := by
 refine ⟨⟨by simp [Fm.kids_mk], fun k hk => by simp [Fm.kids_mk] at hk⟩, ?_, by rw [lowF_eq]; exact ⟨fun _ => by simpa [Fm.n_mk] using h2, by simp [Fm.kids_mk, lowL]⟩⟩
 rw [mayR_go, Fm.kids_mk]
 ·rfl
 ·unfold headOK
  simp only [Fm.op_mk, Fm.n_mk, Fm.kids_mk, List.length_nil]
  refine ⟨om, om, om, om, om⟩
theorem ok_not {d : Nat} {f : Fm} (h : Ok d f) : Ok (d + 1) (.mk 4 0 [f]) := ok_mk (.inr (.inr ⟨rfl, rfl⟩)) (by simp) (fun k hk => by simp at hk; subst hk; exact h)
theorem ok_lit (b : Bool) {n : Int} (h0 : 1 ≤ n) (h2 : n ≤ 2) : Ok 2 (bif b then .mk 3 n [] else .mk 4 0 [.mk 3 n []]) := by
 cases b
 ·exact ok_not (ok_atom h0 h2)
 ·exact (ok_atom h0 h2).mono om
theorem ok_tk (i : Nat) : Ok 3 (tkF i) := by
 refine ok_mk (.inl rfl) (by simp) (fun k hk => ?_)
 simp only [List.mem_cons, List.not_mem_nil, or_false] at hk
 rcases hk with rfl | rfl | rfl | rfl | rfl
 ·exact ok_leaf.mono om
 ·exact ok_leaf.mono om
 ·exact ok_leaf.mono om
 ·exact ok_lit _ om om
 ·exact ok_lit _ om om
theorem nodes_mk (o n : Int) (ks : List Fm) : nodes (.mk o n ks) = nodesL ks + 1 := by rw [nodes_eq, Fm.kids_mk]
theorem nodes_tk (i : Nat) : nodes (tkF i) ≤ 8 := by
 unfold tkF
 cases bitN i 0 <;> cases bitN i 1 <;> simp [nodes_mk, nodesL]
theorem nodes_tks : ∀ l : List Nat, nodesL (l.map tkF) ≤ 8 * l.length
 | [] => by simp [nodesL]
 | i :: l => by
  have := nodes_tks l
  have := nodes_tk i
  simp only [List.map_cons, nodesL, List.length_cons]
  omega
theorem pickF_mem (pr : Pol → Bool) : ∀ (l : List Pol) (fs : List Fm), ∀ k ∈ pickF pr l fs, k ∈ fs
 | [], _, k, h => by simp [pickF] at h
 | _ :: _, [], k, h => by simp [pickF] at h
 | x :: l, f :: fs, k, h => by
  simp only [pickF] at h
  split at h
  ·rcases List.mem_cons.1 h with rfl | h
   ·simp
   ·exact List.mem_cons_of_mem _ (pickF_mem pr l fs k h)
  ·exact List.mem_cons_of_mem _ (pickF_mem pr l fs k h)
theorem nodes_pick (pr : Pol → Bool) : ∀ (l : List Pol) (fs : List Fm), nodesL (pickF pr l fs) + nodesL (pickF (fun x => !pr x) l fs) ≤ nodesL fs
 | [], fs => by simp [pickF, nodesL]
 | _ :: _, [] => by simp [pickF, nodesL]
 | x :: l, f :: fs => by
  have := nodes_pick pr l fs
  simp only [pickF]
  by_cases hp : pr x = true
  ·simp only [hp, if_true, Bool.not_true, Bool.false_eq_true, if_false, nodesL]
   omega
  ·have hp' : pr x = false := by simpa using hp
   simp only [hp', if_true, Bool.not_false, Bool.false_eq_true, if_false, nodesL]
   omega
theorem ok_some (pr : Pol → Bool) (l : List Pol) (is : List Nat) (h60 : l.length ≤ 60) : Ok 4 (someF pr l (is.map tkF)) := by
 refine ok_mk (.inr (.inl rfl)) (by have := pickF_len pr l (is.map tkF); omega) (fun k hk => ?_)
 obtain ⟨i, _, rfl⟩ := List.mem_map.1 (pickF_mem _ _ _ k hk)
 exact ok_tk i
theorem ok_allow (l : List Pol) (is : List Nat) (h60 : l.length ≤ 60) : Ok 6 (allowF l (is.map tkF)) := by
 refine ok_mk (.inl rfl) (by simp) (fun k hk => ?_)
 simp only [List.mem_cons, List.not_mem_nil, or_false] at hk
 rcases hk with rfl | rfl
 ·exact (ok_some _ l is h60).mono om
 ·exact ok_not (ok_some _ l is h60)
theorem nodes_allow (l : List Pol) (is : List Nat) : nodes (allowF l (is.map tkF)) ≤ 4 + 8 * is.length := by
 have h1 := nodes_pick (·.permit) l (is.map tkF)
 have h2 := nodes_tks is
 simp only [allowF, someF, nodes_mk, nodesL]
 omega
theorem ok_ax : Ok 5 axM := by
 have hA : Ok 1 a1 := ok_atom om om
 have two : ∀ {d : Nat} {x y : Fm} {o : Int}, (o = 5 ∨ o = 6) → Ok d x → Ok d y → Ok (d + 1) (.mk o 0 [x, y]) := fun ho hx hy => by
  refine ok_mk (by rcases ho with h | h <;> simp [h]) (by simp) (fun k hk => ?_)
  simp only [List.mem_cons, List.not_mem_nil, or_false] at hk
  rcases hk with rfl | rfl
  ·exact hx
  ·exact hy
 refine ok_mk (.inl rfl) (by simp [axF]) (fun k hk => ?_)
 simp only [axF, List.mem_cons, List.not_mem_nil, or_false] at hk
 rcases hk with rfl | rfl | rfl
 ·exact two (.inr rfl) ((ok_not hA).mono om) (hA.mono om)
 ·exact two (.inr rfl) (ok_not (two (.inl rfl) hA ok_leaf)) (hA.mono om)
 ·exact two (.inr rfl) (ok_not (two (.inl rfl) ok_leaf ok_leaf)) (ok_leaf.mono om)
theorem nodes_ax : nodes axM ≤ 20 := by simp [axM, axF, a1, tt, nodes_mk, nodesL]
theorem ok_pair {d : Nat} {o : Int} {x y : Fm} (ho : o = 5 ∨ o = 6) (hx : Ok d x) (hy : Ok d y) : Ok (d + 1) (.mk o 0 [x, y]) := by
 refine ok_mk (by rcases ho with h | h <;> simp [h]) (by simp) (fun k hk => ?_)
 simp only [List.mem_cons, List.not_mem_nil, or_false] at hk
 rcases hk with rfl | rfl
 ·exact hx
 ·exact hy
theorem plain_differ (x y : List Nat) (hx : x.length ≤ 8) (hy : y.length ≤ 8) : Plain 11 (.mk 5 0 [differF (x.map rowP) (y.map rowP) ((x ++ y).map tkF), axM]) 2 := by
 have ht : ((x ++ y).map tkF).take (x.map rowP).length = x.map tkF := by simp
 have hd : ((x ++ y).map tkF).drop (x.map rowP).length = y.map tkF := by simp
 unfold differF
 rw [ht, hd]
 have A := ok_allow (x.map rowP) x (by simp; omega)
 have B := ok_allow (y.map rowP) y (by simp; omega)
 have nA := nodes_allow (x.map rowP) x
 have nB := nodes_allow (y.map rowP) y
 have nx := nodes_ax
 have h : Ok 12 (.mk 5 0 [.mk 6 0 [.mk 5 0 [allowF (x.map rowP) (x.map tkF), .mk 4 0 [allowF (y.map rowP) (y.map tkF)]], .mk 5 0 [allowF (y.map rowP) (y.map tkF), .mk 4 0 [allowF (x.map rowP) (x.map tkF)]]], axM]) :=
  (ok_pair (.inl rfl) (ok_pair (.inr rfl) (ok_pair (.inl rfl) (A.mono om) (ok_not B)) (ok_pair (.inl rfl) (B.mono om) (ok_not A))) (ok_ax.mono om)).mono om
 refine ⟨h.fit, h.may, h.low, ?_⟩
 simp only [nodes_mk, nodesL]
 omega
theorem plain_both (x : List Nat) (hx : x.length ≤ 8) : Plain 11 (.mk 5 0 [bothF (x.map rowP) (x.map tkF), axM]) 2 := by
 have n1 := nodes_pick (·.permit) (x.map rowP) (x.map tkF)
 have n2 := nodes_tks x
 have nx := nodes_ax
 have h : Ok 12 (.mk 5 0 [bothF (x.map rowP) (x.map tkF), axM]) :=
  (ok_pair (.inl rfl) (ok_pair (.inl rfl) (ok_some (·.permit) (x.map rowP) x (by simp; omega)) (ok_some (fun x => !x.permit) (x.map rowP) x (by simp; omega))) (ok_ax)).mono om
 refine ⟨h.fit, h.may, h.low, ?_⟩
 simp only [bothF, someF, nodes_mk, nodesL]
 omega
end Go.Abs.W
