import Derived.Test.YtjmhfliaehhijaaKont2
import Derived.Test.YtjmhfliaehhijaaA15
set_option linter.unusedVariables false
set_option linter.unusedSimpArgs false
/-
  The given program's Of: the clauses of a formula.
-/
namespace Go.Abs.A
open Go Go.Abs
set_option maxRecDepth 8000
attribute [local irreducible] callN runC evalOp

theorem of_ok (d : Nat) (f : Fm) (N : Nat) (o : Option Nat) (hf : fits (d + 1) f) (hm : mayR (d + 1) f = true) (ha : atomsR (d + 1) f ≤ 6) (hn : nodes f ≤ 40) (hd : d ≤ 1000) (hN : 2000 + 200 ≤ N) :
    ∃ σ', callN T (N + 1) 30 [.agg (eF f), .int .i64 6] [] = some (.tup [.sl (rows (ofR (d + 1) f 6).1) none, .int .i64 (ofR (d + 1) f 6).2], σ') := by
  have hlow := atoms_low 6 (d + 1) f hf ha
  have hs := simple_nodes 6 (d + 1) f hf hlow
  have hnice := simple_nice (d + 1) f hf hm
  have c20 := atoms_ok (d + 1) f N [] hf (by omega)
  have c22 := simple_ok (d + 1) f N [] hf hm (by omega)
  have hmax : ¬ atomsR (d + 1) f > 6 := by omega
  have h06 : ¬ (0 : Int) > 6 := by omega
  have hlit := fun h1 h2 => literal_ok 6 (by omega) (d + 1) (simpleR (d + 1) f) [] 6 N (nice_3 hnice h1 h2) hs.2 (by omega) (by have := hs.1; omega) (by have := hs.1; simp; omega) (by omega)
  have hok := fun h1 h2 => lit_OK 6 (by omega) (d + 1) (simpleR (d + 1) f) 6 (nice_3 hnice h1 h2) hs.2 (by omega)
  unfold ofR
  generalize simpleR (d + 1) f = s at *
  obtain ⟨N, rfl⟩ : ∃ m, N = m + 1 := ⟨N - 1, by omega⟩
  by_cases c1 : s.op = 1
  · rw [if_pos c1]
    refine ⟨[], ?_⟩
    refine call_of (m := m30) rfl rfl (by decide) (k_start ?_)
    unfold m30
    refine k_seq ?_
    refine rgf (D.lptr (2 : Nat) (0 : Nat)) ([]) ?_
    refine rv (D.sl [] (some (51 : Nat))) ?_
    refine rv (D.int IntKind.i64 (0 : Int)) ?_
    refine k_done (k_skip_seq (k_seq ?_))
    refine rv (D.int IntKind.i64 (6 : Int)) ?_
    refine rv (D.agg [D.int IntKind.i64 (Fm.op f), D.int IntKind.i64 (Fm.n f), D.sl (eFs (Fm.kids f)) none]) ?_
    refine runs_call ([D.agg [D.int IntKind.i64 (Fm.op f), D.int IntKind.i64 (Fm.n f), D.sl (eFs (Fm.kids f)) none]]) (by kernel_rfl) (by kernel_rfl) (by kernel_rfl) (by kernel_rfl) (c20) (by kernel_rfl) ?_
    refine rve (D.int IntKind.i64 (if (0 : Int) > if atomsR (d + (1 : Nat)) f > (6 : Int) then atomsR (d + (1 : Nat)) f else (6 : Int) then (0 : Int) else if atomsR (d + (1 : Nat)) f > (6 : Int) then atomsR (d + (1 : Nat)) f else (6 : Int))) (.int IntKind.i64 ((6 : Int))) (congrArg (D.int IntKind.i64) ((if_neg (by omega)).trans (if_neg (by assumption)))) ?_
    refine rv (D.agg [D.nils (51 : Nat), D.int IntKind.i64 (6 : Int)]) ?_
    refine rgf (D.lptr (13 : Nat) (0 : Nat)) ([]) ?_
    refine ra0 (D.lptr (13 : Nat) (0 : Nat)) ?_
    refine k_done (k_skip_seq (k_seq (k_seq ?_)))
    refine rv (D.agg [D.int IntKind.i64 (Fm.op f), D.int IntKind.i64 (Fm.n f), D.sl (eFs (Fm.kids f)) none]) ?_
    refine runs_call ([D.agg [D.int IntKind.i64 (Fm.op f), D.int IntKind.i64 (Fm.n f), D.sl (eFs (Fm.kids f)) none]]) (by kernel_rfl) (by kernel_rfl) (by kernel_rfl) (by kernel_rfl) (c22) (by kernel_rfl) ?_
    refine rgf (D.lptr (7 : Nat) (0 : Nat)) ([]) ?_
    refine rgf (D.junk) ([]) ?_
    refine k_done (k_skip_seq (k_seq ?_))
    refine rv (D.lptr (7 : Nat) (0 : Nat)) ?_
    refine rv (D.int IntKind.i64 (Fm.op s)) ?_
    refine k_done (k_skip_seq (k_block (k_seq ?_)))
    refine rv (D.bool (Fm.op s == (1 : Int))) ?_
    refine ra0 (D.bool (Fm.op s == (1 : Int))) ?_
    refine k_done (k_skip_seq ?_)
    refine rkn 24 (Fm.op s == (1 : Int)) true (decide_eq_true (by assumption)) ?_
    refine kct (k_skip_block (k_skip_seq (k_seq ?_)))
    refine rv (D.lptr (13 : Nat) (0 : Nat)) ?_
    refine rv (D.lptr (13 : Nat) (0 : Nat)) ?_
    refine rv (D.lptr (13 : Nat) (0 : Nat)) ?_
    refine rv (D.sl [] none) ?_
    refine rv (D.lptr (13 : Nat) (0 : Nat)) ?_
    refine rv (D.lptr (13 : Nat) (0 : Nat)) ?_
    refine rv (D.lptr (13 : Nat) (1 : Nat)) ?_
    refine rv (D.int IntKind.i64 (6 : Int)) ?_
    refine ra0 (D.sl [] none) ?_
    refine ra0 (D.int IntKind.i64 (6 : Int)) ?_
    refine k_done (k_skip_seq (k_ret ?_))
    exact ⟨.inr rfl, by kernel_rfl, by kernel_rfl⟩
  rw [if_neg c1]
  by_cases c2 : s.op = 2
  · rw [if_pos c2]
    have hput := put_ok N [] 6 [] none (by simp)
    refine ⟨[MK [[]] 6], ?_⟩
    refine call_of (m := m30) rfl rfl (by decide) (k_start ?_)
    unfold m30
    refine k_seq ?_
    refine rgf (D.lptr (2 : Nat) (0 : Nat)) ([]) ?_
    refine rv (D.sl [] (some (51 : Nat))) ?_
    refine rv (D.int IntKind.i64 (0 : Int)) ?_
    refine k_done (k_skip_seq (k_seq ?_))
    refine rv (D.int IntKind.i64 (6 : Int)) ?_
    refine rv (D.agg [D.int IntKind.i64 (Fm.op f), D.int IntKind.i64 (Fm.n f), D.sl (eFs (Fm.kids f)) none]) ?_
    refine runs_call ([D.agg [D.int IntKind.i64 (Fm.op f), D.int IntKind.i64 (Fm.n f), D.sl (eFs (Fm.kids f)) none]]) (by kernel_rfl) (by kernel_rfl) (by kernel_rfl) (by kernel_rfl) (c20) (by kernel_rfl) ?_
    refine rve (D.int IntKind.i64 (if (0 : Int) > if atomsR (d + (1 : Nat)) f > (6 : Int) then atomsR (d + (1 : Nat)) f else (6 : Int) then (0 : Int) else if atomsR (d + (1 : Nat)) f > (6 : Int) then atomsR (d + (1 : Nat)) f else (6 : Int))) (.int IntKind.i64 ((6 : Int))) (congrArg (D.int IntKind.i64) ((if_neg (by omega)).trans (if_neg (by assumption)))) ?_
    refine rv (D.agg [D.nils (51 : Nat), D.int IntKind.i64 (6 : Int)]) ?_
    refine rgf (D.lptr (13 : Nat) (0 : Nat)) ([]) ?_
    refine ra0 (D.lptr (13 : Nat) (0 : Nat)) ?_
    refine k_done (k_skip_seq (k_seq (k_seq ?_)))
    refine rv (D.agg [D.int IntKind.i64 (Fm.op f), D.int IntKind.i64 (Fm.n f), D.sl (eFs (Fm.kids f)) none]) ?_
    refine runs_call ([D.agg [D.int IntKind.i64 (Fm.op f), D.int IntKind.i64 (Fm.n f), D.sl (eFs (Fm.kids f)) none]]) (by kernel_rfl) (by kernel_rfl) (by kernel_rfl) (by kernel_rfl) (c22) (by kernel_rfl) ?_
    refine rgf (D.lptr (7 : Nat) (0 : Nat)) ([]) ?_
    refine rgf (D.junk) ([]) ?_
    refine k_done (k_skip_seq (k_seq ?_))
    refine rv (D.lptr (7 : Nat) (0 : Nat)) ?_
    refine rv (D.int IntKind.i64 (Fm.op s)) ?_
    refine k_done (k_skip_seq (k_block (k_seq ?_)))
    refine rv (D.bool (Fm.op s == (1 : Int))) ?_
    refine ra0 (D.bool (Fm.op s == (1 : Int))) ?_
    refine k_done (k_skip_seq ?_)
    refine rkn 24 (Fm.op s == (1 : Int)) false (decide_eq_false (by assumption)) ?_
    refine kcf (k_seq ?_)
    refine rv (D.bool (Fm.op s == (2 : Int))) ?_
    refine ra0 (D.bool (Fm.op s == (2 : Int))) ?_
    refine k_done (k_skip_seq ?_)
    refine rkn 26 (Fm.op s == (2 : Int)) true (decide_eq_true (by assumption)) ?_
    refine kct ?_
    refine rv (D.lptr (13 : Nat) (0 : Nat)) ?_
    refine runs_prom ([D.ptr (0 : Nat) (0 : Nat), D.sl [] none]) ([Obj.cells [D.sl [] (some (51 : Nat)), D.int IntKind.i64 (6 : Int)]]) (by kernel_rfl) (by kernel_rfl) (by kernel_rfl) (by kernel_rfl) ?_
    refine runs_call_st ([D.ptr (0 : Nat) (0 : Nat), D.sl [] none]) (by kernel_rfl) (by kernel_rfl) (by kernel_rfl) (by kernel_rfl) (hput) ?_
    refine k_done (k_skip_block (k_skip_seq (k_seq ?_)))
    refine rv (D.ptr (0 : Nat) (0 : Nat)) ?_
    refine rv (D.ptr (0 : Nat) (0 : Nat)) ?_
    refine rv (D.ptr (0 : Nat) (0 : Nat)) ?_
    refine rv (D.sl [[D.sl [] none]] none) ?_
    refine rv (D.ptr (0 : Nat) (0 : Nat)) ?_
    refine rv (D.ptr (0 : Nat) (0 : Nat)) ?_
    refine rv (D.ptr (0 : Nat) (1 : Nat)) ?_
    refine rv (D.int IntKind.i64 (6 : Int)) ?_
    refine ra0 (D.sl [[D.sl [] none]] none) ?_
    refine ra0 (D.int IntKind.i64 (6 : Int)) ?_
    refine k_done (k_skip_seq (k_ret ?_))
    exact ⟨.inr rfl, by kernel_rfl, by kernel_rfl⟩
  rw [if_neg c2]
  have hlit := hlit c1 c2
  have hok := (hok c1 c2).num
  have hsn := hs.1
  generalize litR (d + 1) s 6 = r at *
  have hput := put_ok N ([] ++ r.1) r.2.1 [r.2.2] none (by simp; omega)
  refine ⟨[MK ([] ++ r.1 ++ [[r.2.2]]) r.2.1], ?_⟩
  refine call_of (m := m30) rfl rfl (by decide) (k_start ?_)
  unfold m30
  refine k_seq ?_
  refine rgf (D.lptr (2 : Nat) (0 : Nat)) ([]) ?_
  refine rv (D.sl [] (some (51 : Nat))) ?_
  refine rv (D.int IntKind.i64 (0 : Int)) ?_
  refine k_done (k_skip_seq (k_seq ?_))
  refine rv (D.int IntKind.i64 (6 : Int)) ?_
  refine rv (D.agg [D.int IntKind.i64 (Fm.op f), D.int IntKind.i64 (Fm.n f), D.sl (eFs (Fm.kids f)) none]) ?_
  refine runs_call ([D.agg [D.int IntKind.i64 (Fm.op f), D.int IntKind.i64 (Fm.n f), D.sl (eFs (Fm.kids f)) none]]) (by kernel_rfl) (by kernel_rfl) (by kernel_rfl) (by kernel_rfl) (c20) (by kernel_rfl) ?_
  refine rve (D.int IntKind.i64 (if (0 : Int) > if atomsR (d + (1 : Nat)) f > (6 : Int) then atomsR (d + (1 : Nat)) f else (6 : Int) then (0 : Int) else if atomsR (d + (1 : Nat)) f > (6 : Int) then atomsR (d + (1 : Nat)) f else (6 : Int))) (.int IntKind.i64 ((6 : Int))) (congrArg (D.int IntKind.i64) ((if_neg (by omega)).trans (if_neg (by assumption)))) ?_
  refine rv (D.agg [D.nils (51 : Nat), D.int IntKind.i64 (6 : Int)]) ?_
  refine rgf (D.lptr (13 : Nat) (0 : Nat)) ([]) ?_
  refine ra0 (D.lptr (13 : Nat) (0 : Nat)) ?_
  refine k_done (k_skip_seq (k_seq (k_seq ?_)))
  refine rv (D.agg [D.int IntKind.i64 (Fm.op f), D.int IntKind.i64 (Fm.n f), D.sl (eFs (Fm.kids f)) none]) ?_
  refine runs_call ([D.agg [D.int IntKind.i64 (Fm.op f), D.int IntKind.i64 (Fm.n f), D.sl (eFs (Fm.kids f)) none]]) (by kernel_rfl) (by kernel_rfl) (by kernel_rfl) (by kernel_rfl) (c22) (by kernel_rfl) ?_
  refine rgf (D.lptr (7 : Nat) (0 : Nat)) ([]) ?_
  refine rgf (D.junk) ([]) ?_
  refine k_done (k_skip_seq (k_seq ?_))
  refine rv (D.lptr (7 : Nat) (0 : Nat)) ?_
  refine rv (D.int IntKind.i64 (Fm.op s)) ?_
  refine k_done (k_skip_seq (k_block (k_seq ?_)))
  refine rv (D.bool (Fm.op s == (1 : Int))) ?_
  refine ra0 (D.bool (Fm.op s == (1 : Int))) ?_
  refine k_done (k_skip_seq ?_)
  refine rkn 24 (Fm.op s == (1 : Int)) false (decide_eq_false (by assumption)) ?_
  refine kcf (k_seq ?_)
  refine rv (D.bool (Fm.op s == (2 : Int))) ?_
  refine ra0 (D.bool (Fm.op s == (2 : Int))) ?_
  refine k_done (k_skip_seq ?_)
  refine rkn 26 (Fm.op s == (2 : Int)) false (decide_eq_false (by assumption)) ?_
  refine kcf ?_
  refine rv (D.lptr (13 : Nat) (0 : Nat)) ?_
  refine rv (D.lptr (13 : Nat) (0 : Nat)) ?_
  refine rv (D.agg [D.int IntKind.i64 (Fm.op s), D.int IntKind.i64 (Fm.n s), D.sl (eFs (Fm.kids s)) none]) ?_
  refine runs_prom ([D.ptr (0 : Nat) (0 : Nat), D.agg [D.int IntKind.i64 (Fm.op s), D.int IntKind.i64 (Fm.n s), D.sl (eFs (Fm.kids s)) none]]) ([Obj.cells [D.sl [] (some (51 : Nat)), D.int IntKind.i64 (6 : Int)]]) (by kernel_rfl) (by kernel_rfl) (by kernel_rfl) (by kernel_rfl) ?_
  refine runs_call_st ([D.ptr (0 : Nat) (0 : Nat), D.agg [D.int IntKind.i64 (Fm.op s), D.int IntKind.i64 (Fm.n s), D.sl (eFs (Fm.kids s)) none]]) (by kernel_rfl) (by kernel_rfl) (by kernel_rfl) (by kernel_rfl) (hlit) ?_
  refine rv (D.sl [[D.int IntKind.i64 (Prod.snd (Prod.snd r))]] (some (3 : Nat))) ?_
  refine runs_call_st ([D.ptr (0 : Nat) (0 : Nat), D.sl [[D.int IntKind.i64 (Prod.snd (Prod.snd r))]] none]) (by kernel_rfl) (by kernel_rfl) (by kernel_rfl) (by kernel_rfl) (hput) ?_
  refine k_done (k_skip_block (k_skip_seq (k_seq ?_)))
  refine rv (D.ptr (0 : Nat) (0 : Nat)) ?_
  refine rv (D.ptr (0 : Nat) (0 : Nat)) ?_
  refine rv (D.ptr (0 : Nat) (0 : Nat)) ?_
  refine rv (D.sl (rows ([] ++ Prod.fst r ++ [[Prod.snd (Prod.snd r)]])) none) ?_
  refine rv (D.ptr (0 : Nat) (0 : Nat)) ?_
  refine rv (D.ptr (0 : Nat) (0 : Nat)) ?_
  refine rv (D.ptr (0 : Nat) (1 : Nat)) ?_
  refine rv (D.int IntKind.i64 (Prod.fst (Prod.snd r))) ?_
  refine ra0 (D.sl (rows ([] ++ Prod.fst r ++ [[Prod.snd (Prod.snd r)]])) none) ?_
  refine ra0 (D.int IntKind.i64 (Prod.fst (Prod.snd r))) ?_
  refine k_done (k_skip_seq (k_ret ?_))
  exact ⟨.inr rfl, by kernel_rfl, by kernel_rfl⟩
end Go.Abs.A
