import Derived.Test.YtjmhfliaehhijaaKont2
import Derived.Test.YtjmhfliaehhijaaA17
import Derived.Test.YtjmhfliaehhijaaA19
import Derived.Test.YtjmhfliaehhijaaA21
set_option linter.unusedVariables false
set_option linter.unusedSimpArgs false
/-
  Of of the program and of the document, for any number of atoms; the statement ClausesMade as the machine code sees it.
-/
namespace Go.Abs.A
open Go Go.Abs
set_option maxRecDepth 8000
attribute [local irreducible] callN runC evalOp

theorem may_low : ∀ (d : Nat) (f : Fm), mayR d f = true → lowF 1000 f
  | 0, _, h => by simp [mayR] at h
  | d + 1, f, h => by
    obtain ⟨⟨g1, g2, g3, g4, g5⟩, hk⟩ := mayR_parts h
    rw [lowF_eq, lowL_iff]
    refine ⟨fun h3 => ?_, fun k hk' => may_low d k (hk k hk')⟩
    by_cases hn : f.n > 1000
    · exact absurd ⟨h3, .inr hn⟩ g5
    · omega
theorem atom0_pos (f : Fm) : 0 ≤ atom0 f := by
  unfold atom0
  split
  · split <;> omega
  · omega
theorem atoms_pos (d : Nat) (f : Fm) : 0 ≤ atomsR (d + 1) f := Int.le_trans (atom0_pos f) (atoms_up d f.kids (atom0 f)).1
def topM (A atoms : Int) : Int := if atoms > A then atoms else A
def ofM (d : Nat) (f : Fm) (m0 : Int) : List (List Int) × Int :=
  if (simpleR d f).op = 1 then ([], m0) else if (simpleR d f).op = 2 then ([[]], m0) else ((litR d (simpleR d f) m0).1 ++ [[(litR d (simpleR d f) m0).2.2]], (litR d (simpleR d f) m0).2.1)
theorem ofG_ok (d : Nat) (f : Fm) (N : Nat) (atoms : Int) (hf : fits (d + 1) f) (hm : mayR (d + 1) f = true) (ha : atoms ≤ 2000) (hn : nodes f ≤ 400) (hd : d ≤ 1000) (hN : 2200 ≤ N) :
    ∃ σ', callN T (N + 1) 30 [.agg (eF f), .int .i64 atoms] [] = some (.tup [.sl (rows (ofM (d + 1) f (topM (atomsR (d + 1) f) atoms)).1) none, .int .i64 (ofM (d + 1) f (topM (atomsR (d + 1) f) atoms)).2], σ') := by
  have hA0 := atoms_pos d f
  have hA1 := low_atoms 1000 (by omega) (d + 1) f (may_low (d + 1) f hm)
  have hlow := atoms_low (atomsR (d + 1) f) (d + 1) f hf (Int.le_refl _)
  have hs := simple_nodes _ (d + 1) f hf hlow
  have hnice := simple_nice (d + 1) f hf hm
  have c20 := atoms_ok (d + 1) f N [] hf (by omega)
  have c22 := simple_ok (d + 1) f N [] hf hm (by omega)
  have htop : atomsR (d + 1) f ≤ topM (atomsR (d + 1) f) atoms ∧ topM (atomsR (d + 1) f) atoms ≤ 2000 := by unfold topM; split <;> omega
  have hlit := fun h1 h2 => literal_ok _ hA0 (d + 1) (simpleR (d + 1) f) [] (topM (atomsR (d + 1) f) atoms) N (nice_3 hnice h1 h2) hs.2 htop.1 (by have := hs.1; omega) (by have := hs.1; simp; omega) (by omega)
  have hok := fun h1 h2 => lit_OK _ hA0 (d + 1) (simpleR (d + 1) f) (topM (atomsR (d + 1) f) atoms) (nice_3 hnice h1 h2) hs.2 htop.1
  unfold ofM
  generalize hA : atomsR (d + 1) f = A at *
  generalize simpleR (d + 1) f = s at *
  obtain ⟨N, rfl⟩ : ∃ m, N = m + 1 := ⟨N - 1, by omega⟩
  have hcase : topM A atoms = A ∧ ¬ atoms > A ∨ topM A atoms = atoms ∧ atoms > A := by
    unfold topM
    by_cases h : atoms > A
    · rw [if_pos h]; exact .inr ⟨rfl, h⟩
    · rw [if_neg h]; exact .inl ⟨rfl, h⟩
  generalize topM A atoms = m0 at *
  have h0A : ¬ (0 : Int) > A := by omega
  rcases hcase with ⟨rfl, hg⟩ | ⟨rfl, hg⟩
  · by_cases hg2 : m0 > atoms
    · by_cases c1 : s.op = 1
      · rw [if_pos c1]
        refine ⟨[], ?_⟩
        refine call_of (m := m30) rfl rfl (by decide) (k_start ?_)
        unfold m30
        refine k_seq ?_
        refine rgf (D.lptr (2 : Nat) (0 : Nat)) ([]) ?_
        refine rv (D.sl [] (some (51 : Nat))) ?_
        refine rv (D.int IntKind.i64 (0 : Int)) ?_
        refine k_done (k_skip_seq (k_seq ?_))
        refine rv (D.int IntKind.i64 atoms) ?_
        refine rv (D.agg [D.int IntKind.i64 (Fm.op f), D.int IntKind.i64 (Fm.n f), D.sl (eFs (Fm.kids f)) none]) ?_
        refine runs_call ([D.agg [D.int IntKind.i64 (Fm.op f), D.int IntKind.i64 (Fm.n f), D.sl (eFs (Fm.kids f)) none]]) (by kernel_rfl) (by kernel_rfl) (by kernel_rfl) (by kernel_rfl) (c20) (by kernel_rfl) ?_
        refine rve (D.int IntKind.i64 (if (0 : Int) > if m0 > atoms then m0 else atoms then (0 : Int) else if m0 > atoms then m0 else atoms)) (.int IntKind.i64 (m0)) (congrArg (D.int IntKind.i64) ((if_neg (by omega)).trans (if_pos (by assumption)))) ?_
        refine rv (D.agg [D.nils (51 : Nat), D.int IntKind.i64 m0]) ?_
        refine rgf (D.lptr (13 : Nat) (0 : Nat)) ([]) ?_
        refine ra0 (D.lptr (13 : Nat) (0 : Nat)) ?_
        refine k_done (k_skip_seq (k_seq (k_seq ?_)))
        refine rv (D.agg [D.int IntKind.i64 (Fm.op f), D.int IntKind.i64 (Fm.n f), D.sl (eFs (Fm.kids f)) none]) ?_
        refine runs_call ([D.agg [D.int IntKind.i64 (Fm.op f), D.int IntKind.i64 (Fm.n f), D.sl (eFs (Fm.kids f)) none]]) (by kernel_rfl) (by kernel_rfl) (by kernel_rfl) (by kernel_rfl) (c22) (by kernel_rfl) ?_
        refine rgf (D.lptr (7 : Nat) (0 : Nat)) ([]) ?_
        refine rgf (D.junk) ([]) ?_
        refine k_done (k_skip_seq (k_seq ?_))
        refine rv (D.lptr (7 : Nat) (0 : Nat)) ?_
        refine rv (D.int IntKind.i64 (Fm.op s)) ?_
        refine k_done (k_skip_seq (k_block (k_seq ?_)))
        refine rv (D.bool (Fm.op s == (1 : Int))) ?_
        refine ra0 (D.bool (Fm.op s == (1 : Int))) ?_
        refine k_done (k_skip_seq ?_)
        refine rkn 24 (Fm.op s == (1 : Int)) true (decide_eq_true (by assumption)) ?_
        refine kct (k_skip_block (k_skip_seq (k_seq ?_)))
        refine rv (D.lptr (13 : Nat) (0 : Nat)) ?_
        refine rv (D.lptr (13 : Nat) (0 : Nat)) ?_
        refine rv (D.lptr (13 : Nat) (0 : Nat)) ?_
        refine rv (D.sl [] none) ?_
        refine rv (D.lptr (13 : Nat) (0 : Nat)) ?_
        refine rv (D.lptr (13 : Nat) (0 : Nat)) ?_
        refine rv (D.lptr (13 : Nat) (1 : Nat)) ?_
        refine rv (D.int IntKind.i64 m0) ?_
        refine ra0 (D.sl [] none) ?_
        refine ra0 (D.int IntKind.i64 m0) ?_
        refine k_done (k_skip_seq (k_ret ?_))
        exact ⟨.inr rfl, by kernel_rfl, by kernel_rfl⟩
      rw [if_neg c1]
      by_cases c2 : s.op = 2
      · rw [if_pos c2]
        have hput := put_ok N [] m0 [] none (by simp)
        refine ⟨[MK [[]] m0], ?_⟩
        refine call_of (m := m30) rfl rfl (by decide) (k_start ?_)
        unfold m30
        refine k_seq ?_
        refine rgf (D.lptr (2 : Nat) (0 : Nat)) ([]) ?_
        refine rv (D.sl [] (some (51 : Nat))) ?_
        refine rv (D.int IntKind.i64 (0 : Int)) ?_
        refine k_done (k_skip_seq (k_seq ?_))
        refine rv (D.int IntKind.i64 atoms) ?_
        refine rv (D.agg [D.int IntKind.i64 (Fm.op f), D.int IntKind.i64 (Fm.n f), D.sl (eFs (Fm.kids f)) none]) ?_
        refine runs_call ([D.agg [D.int IntKind.i64 (Fm.op f), D.int IntKind.i64 (Fm.n f), D.sl (eFs (Fm.kids f)) none]]) (by kernel_rfl) (by kernel_rfl) (by kernel_rfl) (by kernel_rfl) (c20) (by kernel_rfl) ?_
        refine rve (D.int IntKind.i64 (if (0 : Int) > if m0 > atoms then m0 else atoms then (0 : Int) else if m0 > atoms then m0 else atoms)) (.int IntKind.i64 (m0)) (congrArg (D.int IntKind.i64) ((if_neg (by omega)).trans (if_pos (by assumption)))) ?_
        refine rv (D.agg [D.nils (51 : Nat), D.int IntKind.i64 m0]) ?_
        refine rgf (D.lptr (13 : Nat) (0 : Nat)) ([]) ?_
        refine ra0 (D.lptr (13 : Nat) (0 : Nat)) ?_
        refine k_done (k_skip_seq (k_seq (k_seq ?_)))
        refine rv (D.agg [D.int IntKind.i64 (Fm.op f), D.int IntKind.i64 (Fm.n f), D.sl (eFs (Fm.kids f)) none]) ?_
        refine runs_call ([D.agg [D.int IntKind.i64 (Fm.op f), D.int IntKind.i64 (Fm.n f), D.sl (eFs (Fm.kids f)) none]]) (by kernel_rfl) (by kernel_rfl) (by kernel_rfl) (by kernel_rfl) (c22) (by kernel_rfl) ?_
        refine rgf (D.lptr (7 : Nat) (0 : Nat)) ([]) ?_
        refine rgf (D.junk) ([]) ?_
        refine k_done (k_skip_seq (k_seq ?_))
        refine rv (D.lptr (7 : Nat) (0 : Nat)) ?_
        refine rv (D.int IntKind.i64 (Fm.op s)) ?_
        refine k_done (k_skip_seq (k_block (k_seq ?_)))
        refine rv (D.bool (Fm.op s == (1 : Int))) ?_
        refine ra0 (D.bool (Fm.op s == (1 : Int))) ?_
        refine k_done (k_skip_seq ?_)
        refine rkn 24 (Fm.op s == (1 : Int)) false (decide_eq_false (by assumption)) ?_
        refine kcf (k_seq ?_)
        refine rv (D.bool (Fm.op s == (2 : Int))) ?_
        refine ra0 (D.bool (Fm.op s == (2 : Int))) ?_
        refine k_done (k_skip_seq ?_)
        refine rkn 26 (Fm.op s == (2 : Int)) true (decide_eq_true (by assumption)) ?_
        refine kct ?_
        refine rv (D.lptr (13 : Nat) (0 : Nat)) ?_
        refine runs_prom ([D.ptr (0 : Nat) (0 : Nat), D.sl [] none]) ([Obj.cells [D.sl [] (some (51 : Nat)), D.int IntKind.i64 m0]]) (by kernel_rfl) (by kernel_rfl) (by kernel_rfl) (by kernel_rfl) ?_
        refine runs_call_st ([D.ptr (0 : Nat) (0 : Nat), D.sl [] none]) (by kernel_rfl) (by kernel_rfl) (by kernel_rfl) (by kernel_rfl) (hput) ?_
        refine k_done (k_skip_block (k_skip_seq (k_seq ?_)))
        refine rv (D.ptr (0 : Nat) (0 : Nat)) ?_
        refine rv (D.ptr (0 : Nat) (0 : Nat)) ?_
        refine rv (D.ptr (0 : Nat) (0 : Nat)) ?_
        refine rv (D.sl [[D.sl [] none]] none) ?_
        refine rv (D.ptr (0 : Nat) (0 : Nat)) ?_
        refine rv (D.ptr (0 : Nat) (0 : Nat)) ?_
        refine rv (D.ptr (0 : Nat) (1 : Nat)) ?_
        refine rv (D.int IntKind.i64 m0) ?_
        refine ra0 (D.sl [[D.sl [] none]] none) ?_
        refine ra0 (D.int IntKind.i64 m0) ?_
        refine k_done (k_skip_seq (k_ret ?_))
        exact ⟨.inr rfl, by kernel_rfl, by kernel_rfl⟩
      rw [if_neg c2]
      have hlit := hlit c1 c2
      have hok := (hok c1 c2).num
      have hsn := hs.1
      generalize litR (d + 1) s m0 = r at *
      have hput := put_ok N ([] ++ r.1) r.2.1 [r.2.2] none (by simp; omega)
      refine ⟨[MK ([] ++ r.1 ++ [[r.2.2]]) r.2.1], ?_⟩
      refine call_of (m := m30) rfl rfl (by decide) (k_start ?_)
      unfold m30
      refine k_seq ?_
      refine rgf (D.lptr (2 : Nat) (0 : Nat)) ([]) ?_
      refine rv (D.sl [] (some (51 : Nat))) ?_
      refine rv (D.int IntKind.i64 (0 : Int)) ?_
      refine k_done (k_skip_seq (k_seq ?_))
      refine rv (D.int IntKind.i64 atoms) ?_
      refine rv (D.agg [D.int IntKind.i64 (Fm.op f), D.int IntKind.i64 (Fm.n f), D.sl (eFs (Fm.kids f)) none]) ?_
      refine runs_call ([D.agg [D.int IntKind.i64 (Fm.op f), D.int IntKind.i64 (Fm.n f), D.sl (eFs (Fm.kids f)) none]]) (by kernel_rfl) (by kernel_rfl) (by kernel_rfl) (by kernel_rfl) (c20) (by kernel_rfl) ?_
      refine rve (D.int IntKind.i64 (if (0 : Int) > if m0 > atoms then m0 else atoms then (0 : Int) else if m0 > atoms then m0 else atoms)) (.int IntKind.i64 (m0)) (congrArg (D.int IntKind.i64) ((if_neg (by omega)).trans (if_pos (by assumption)))) ?_
      refine rv (D.agg [D.nils (51 : Nat), D.int IntKind.i64 m0]) ?_
      refine rgf (D.lptr (13 : Nat) (0 : Nat)) ([]) ?_
      refine ra0 (D.lptr (13 : Nat) (0 : Nat)) ?_
      refine k_done (k_skip_seq (k_seq (k_seq ?_)))
      refine rv (D.agg [D.int IntKind.i64 (Fm.op f), D.int IntKind.i64 (Fm.n f), D.sl (eFs (Fm.kids f)) none]) ?_
      refine runs_call ([D.agg [D.int IntKind.i64 (Fm.op f), D.int IntKind.i64 (Fm.n f), D.sl (eFs (Fm.kids f)) none]]) (by kernel_rfl) (by kernel_rfl) (by kernel_rfl) (by kernel_rfl) (c22) (by kernel_rfl) ?_
      refine rgf (D.lptr (7 : Nat) (0 : Nat)) ([]) ?_
      refine rgf (D.junk) ([]) ?_
      refine k_done (k_skip_seq (k_seq ?_))
      refine rv (D.lptr (7 : Nat) (0 : Nat)) ?_
      refine rv (D.int IntKind.i64 (Fm.op s)) ?_
      refine k_done (k_skip_seq (k_block (k_seq ?_)))
      refine rv (D.bool (Fm.op s == (1 : Int))) ?_
      refine ra0 (D.bool (Fm.op s == (1 : Int))) ?_
      refine k_done (k_skip_seq ?_)
      refine rkn 24 (Fm.op s == (1 : Int)) false (decide_eq_false (by assumption)) ?_
      refine kcf (k_seq ?_)
      refine rv (D.bool (Fm.op s == (2 : Int))) ?_
      refine ra0 (D.bool (Fm.op s == (2 : Int))) ?_
      refine k_done (k_skip_seq ?_)
      refine rkn 26 (Fm.op s == (2 : Int)) false (decide_eq_false (by assumption)) ?_
      refine kcf ?_
      refine rv (D.lptr (13 : Nat) (0 : Nat)) ?_
      refine rv (D.lptr (13 : Nat) (0 : Nat)) ?_
      refine rv (D.agg [D.int IntKind.i64 (Fm.op s), D.int IntKind.i64 (Fm.n s), D.sl (eFs (Fm.kids s)) none]) ?_
      refine runs_prom ([D.ptr (0 : Nat) (0 : Nat), D.agg [D.int IntKind.i64 (Fm.op s), D.int IntKind.i64 (Fm.n s), D.sl (eFs (Fm.kids s)) none]]) ([Obj.cells [D.sl [] (some (51 : Nat)), D.int IntKind.i64 m0]]) (by kernel_rfl) (by kernel_rfl) (by kernel_rfl) (by kernel_rfl) ?_
      refine runs_call_st ([D.ptr (0 : Nat) (0 : Nat), D.agg [D.int IntKind.i64 (Fm.op s), D.int IntKind.i64 (Fm.n s), D.sl (eFs (Fm.kids s)) none]]) (by kernel_rfl) (by kernel_rfl) (by kernel_rfl) (by kernel_rfl) (hlit) ?_
      refine rv (D.sl [[D.int IntKind.i64 (Prod.snd (Prod.snd r))]] (some (3 : Nat))) ?_
      refine runs_call_st ([D.ptr (0 : Nat) (0 : Nat), D.sl [[D.int IntKind.i64 (Prod.snd (Prod.snd r))]] none]) (by kernel_rfl) (by kernel_rfl) (by kernel_rfl) (by kernel_rfl) (hput) ?_
      refine k_done (k_skip_block (k_skip_seq (k_seq ?_)))
      refine rv (D.ptr (0 : Nat) (0 : Nat)) ?_
      refine rv (D.ptr (0 : Nat) (0 : Nat)) ?_
      refine rv (D.ptr (0 : Nat) (0 : Nat)) ?_
      refine rv (D.sl (rows ([] ++ Prod.fst r ++ [[Prod.snd (Prod.snd r)]])) none) ?_
      refine rv (D.ptr (0 : Nat) (0 : Nat)) ?_
      refine rv (D.ptr (0 : Nat) (0 : Nat)) ?_
      refine rv (D.ptr (0 : Nat) (1 : Nat)) ?_
      refine rv (D.int IntKind.i64 (Prod.fst (Prod.snd r))) ?_
      refine ra0 (D.sl (rows ([] ++ Prod.fst r ++ [[Prod.snd (Prod.snd r)]])) none) ?_
      refine ra0 (D.int IntKind.i64 (Prod.fst (Prod.snd r))) ?_
      refine k_done (k_skip_seq (k_ret ?_))
      exact ⟨.inr rfl, by kernel_rfl, by kernel_rfl⟩
    · obtain rfl : m0 = atoms := by omega
      by_cases c1 : s.op = 1
      · rw [if_pos c1]
        refine ⟨[], ?_⟩
        refine call_of (m := m30) rfl rfl (by decide) (k_start ?_)
        unfold m30
        refine k_seq ?_
        refine rgf (D.lptr (2 : Nat) (0 : Nat)) ([]) ?_
        refine rv (D.sl [] (some (51 : Nat))) ?_
        refine rv (D.int IntKind.i64 (0 : Int)) ?_
        refine k_done (k_skip_seq (k_seq ?_))
        refine rv (D.int IntKind.i64 m0) ?_
        refine rv (D.agg [D.int IntKind.i64 (Fm.op f), D.int IntKind.i64 (Fm.n f), D.sl (eFs (Fm.kids f)) none]) ?_
        refine runs_call ([D.agg [D.int IntKind.i64 (Fm.op f), D.int IntKind.i64 (Fm.n f), D.sl (eFs (Fm.kids f)) none]]) (by kernel_rfl) (by kernel_rfl) (by kernel_rfl) (by kernel_rfl) (c20) (by kernel_rfl) ?_
        refine rve (D.int IntKind.i64 (if (0 : Int) > if m0 > m0 then m0 else m0 then (0 : Int) else if m0 > m0 then m0 else m0)) (.int IntKind.i64 (m0)) (congrArg (D.int IntKind.i64) ((if_neg (by omega)).trans (if_neg (by assumption)))) ?_
        refine rv (D.agg [D.nils (51 : Nat), D.int IntKind.i64 m0]) ?_
        refine rgf (D.lptr (13 : Nat) (0 : Nat)) ([]) ?_
        refine ra0 (D.lptr (13 : Nat) (0 : Nat)) ?_
        refine k_done (k_skip_seq (k_seq (k_seq ?_)))
        refine rv (D.agg [D.int IntKind.i64 (Fm.op f), D.int IntKind.i64 (Fm.n f), D.sl (eFs (Fm.kids f)) none]) ?_
        refine runs_call ([D.agg [D.int IntKind.i64 (Fm.op f), D.int IntKind.i64 (Fm.n f), D.sl (eFs (Fm.kids f)) none]]) (by kernel_rfl) (by kernel_rfl) (by kernel_rfl) (by kernel_rfl) (c22) (by kernel_rfl) ?_
        refine rgf (D.lptr (7 : Nat) (0 : Nat)) ([]) ?_
        refine rgf (D.junk) ([]) ?_
        refine k_done (k_skip_seq (k_seq ?_))
        refine rv (D.lptr (7 : Nat) (0 : Nat)) ?_
        refine rv (D.int IntKind.i64 (Fm.op s)) ?_
        refine k_done (k_skip_seq (k_block (k_seq ?_)))
        refine rv (D.bool (Fm.op s == (1 : Int))) ?_
        refine ra0 (D.bool (Fm.op s == (1 : Int))) ?_
        refine k_done (k_skip_seq ?_)
        refine rkn 24 (Fm.op s == (1 : Int)) true (decide_eq_true (by assumption)) ?_
        refine kct (k_skip_block (k_skip_seq (k_seq ?_)))
        refine rv (D.lptr (13 : Nat) (0 : Nat)) ?_
        refine rv (D.lptr (13 : Nat) (0 : Nat)) ?_
        refine rv (D.lptr (13 : Nat) (0 : Nat)) ?_
        refine rv (D.sl [] none) ?_
        refine rv (D.lptr (13 : Nat) (0 : Nat)) ?_
        refine rv (D.lptr (13 : Nat) (0 : Nat)) ?_
        refine rv (D.lptr (13 : Nat) (1 : Nat)) ?_
        refine rv (D.int IntKind.i64 m0) ?_
        refine ra0 (D.sl [] none) ?_
        refine ra0 (D.int IntKind.i64 m0) ?_
        refine k_done (k_skip_seq (k_ret ?_))
        exact ⟨.inr rfl, by kernel_rfl, by kernel_rfl⟩
      rw [if_neg c1]
      by_cases c2 : s.op = 2
      · rw [if_pos c2]
        have hput := put_ok N [] m0 [] none (by simp)
        refine ⟨[MK [[]] m0], ?_⟩
        refine call_of (m := m30) rfl rfl (by decide) (k_start ?_)
        unfold m30
        refine k_seq ?_
        refine rgf (D.lptr (2 : Nat) (0 : Nat)) ([]) ?_
        refine rv (D.sl [] (some (51 : Nat))) ?_
        refine rv (D.int IntKind.i64 (0 : Int)) ?_
        refine k_done (k_skip_seq (k_seq ?_))
        refine rv (D.int IntKind.i64 m0) ?_
        refine rv (D.agg [D.int IntKind.i64 (Fm.op f), D.int IntKind.i64 (Fm.n f), D.sl (eFs (Fm.kids f)) none]) ?_
        refine runs_call ([D.agg [D.int IntKind.i64 (Fm.op f), D.int IntKind.i64 (Fm.n f), D.sl (eFs (Fm.kids f)) none]]) (by kernel_rfl) (by kernel_rfl) (by kernel_rfl) (by kernel_rfl) (c20) (by kernel_rfl) ?_
        refine rve (D.int IntKind.i64 (if (0 : Int) > if m0 > m0 then m0 else m0 then (0 : Int) else if m0 > m0 then m0 else m0)) (.int IntKind.i64 (m0)) (congrArg (D.int IntKind.i64) ((if_neg (by omega)).trans (if_neg (by assumption)))) ?_
        refine rv (D.agg [D.nils (51 : Nat), D.int IntKind.i64 m0]) ?_
        refine rgf (D.lptr (13 : Nat) (0 : Nat)) ([]) ?_
        refine ra0 (D.lptr (13 : Nat) (0 : Nat)) ?_
        refine k_done (k_skip_seq (k_seq (k_seq ?_)))
        refine rv (D.agg [D.int IntKind.i64 (Fm.op f), D.int IntKind.i64 (Fm.n f), D.sl (eFs (Fm.kids f)) none]) ?_
        refine runs_call ([D.agg [D.int IntKind.i64 (Fm.op f), D.int IntKind.i64 (Fm.n f), D.sl (eFs (Fm.kids f)) none]]) (by kernel_rfl) (by kernel_rfl) (by kernel_rfl) (by kernel_rfl) (c22) (by kernel_rfl) ?_
        refine rgf (D.lptr (7 : Nat) (0 : Nat)) ([]) ?_
        refine rgf (D.junk) ([]) ?_
        refine k_done (k_skip_seq (k_seq ?_))
        refine rv (D.lptr (7 : Nat) (0 : Nat)) ?_
        refine rv (D.int IntKind.i64 (Fm.op s)) ?_
        refine k_done (k_skip_seq (k_block (k_seq ?_)))
        refine rv (D.bool (Fm.op s == (1 : Int))) ?_
        refine ra0 (D.bool (Fm.op s == (1 : Int))) ?_
        refine k_done (k_skip_seq ?_)
        refine rkn 24 (Fm.op s == (1 : Int)) false (decide_eq_false (by assumption)) ?_
        refine kcf (k_seq ?_)
        refine rv (D.bool (Fm.op s == (2 : Int))) ?_
        refine ra0 (D.bool (Fm.op s == (2 : Int))) ?_
        refine k_done (k_skip_seq ?_)
        refine rkn 26 (Fm.op s == (2 : Int)) true (decide_eq_true (by assumption)) ?_
        refine kct ?_
        refine rv (D.lptr (13 : Nat) (0 : Nat)) ?_
        refine runs_prom ([D.ptr (0 : Nat) (0 : Nat), D.sl [] none]) ([Obj.cells [D.sl [] (some (51 : Nat)), D.int IntKind.i64 m0]]) (by kernel_rfl) (by kernel_rfl) (by kernel_rfl) (by kernel_rfl) ?_
        refine runs_call_st ([D.ptr (0 : Nat) (0 : Nat), D.sl [] none]) (by kernel_rfl) (by kernel_rfl) (by kernel_rfl) (by kernel_rfl) (hput) ?_
        refine k_done (k_skip_block (k_skip_seq (k_seq ?_)))
        refine rv (D.ptr (0 : Nat) (0 : Nat)) ?_
        refine rv (D.ptr (0 : Nat) (0 : Nat)) ?_
        refine rv (D.ptr (0 : Nat) (0 : Nat)) ?_
        refine rv (D.sl [[D.sl [] none]] none) ?_
        refine rv (D.ptr (0 : Nat) (0 : Nat)) ?_
        refine rv (D.ptr (0 : Nat) (0 : Nat)) ?_
        refine rv (D.ptr (0 : Nat) (1 : Nat)) ?_
        refine rv (D.int IntKind.i64 m0) ?_
        refine ra0 (D.sl [[D.sl [] none]] none) ?_
        refine ra0 (D.int IntKind.i64 m0) ?_
        refine k_done (k_skip_seq (k_ret ?_))
        exact ⟨.inr rfl, by kernel_rfl, by kernel_rfl⟩
      rw [if_neg c2]
      have hlit := hlit c1 c2
      have hok := (hok c1 c2).num
      have hsn := hs.1
      generalize litR (d + 1) s m0 = r at *
      have hput := put_ok N ([] ++ r.1) r.2.1 [r.2.2] none (by simp; omega)
      refine ⟨[MK ([] ++ r.1 ++ [[r.2.2]]) r.2.1], ?_⟩
      refine call_of (m := m30) rfl rfl (by decide) (k_start ?_)
      unfold m30
      refine k_seq ?_
      refine rgf (D.lptr (2 : Nat) (0 : Nat)) ([]) ?_
      refine rv (D.sl [] (some (51 : Nat))) ?_
      refine rv (D.int IntKind.i64 (0 : Int)) ?_
      refine k_done (k_skip_seq (k_seq ?_))
      refine rv (D.int IntKind.i64 m0) ?_
      refine rv (D.agg [D.int IntKind.i64 (Fm.op f), D.int IntKind.i64 (Fm.n f), D.sl (eFs (Fm.kids f)) none]) ?_
      refine runs_call ([D.agg [D.int IntKind.i64 (Fm.op f), D.int IntKind.i64 (Fm.n f), D.sl (eFs (Fm.kids f)) none]]) (by kernel_rfl) (by kernel_rfl) (by kernel_rfl) (by kernel_rfl) (c20) (by kernel_rfl) ?_
      refine rve (D.int IntKind.i64 (if (0 : Int) > if m0 > m0 then m0 else m0 then (0 : Int) else if m0 > m0 then m0 else m0)) (.int IntKind.i64 (m0)) (congrArg (D.int IntKind.i64) ((if_neg (by omega)).trans (if_neg (by assumption)))) ?_
      refine rv (D.agg [D.nils (51 : Nat), D.int IntKind.i64 m0]) ?_
      refine rgf (D.lptr (13 : Nat) (0 : Nat)) ([]) ?_
      refine ra0 (D.lptr (13 : Nat) (0 : Nat)) ?_
      refine k_done (k_skip_seq (k_seq (k_seq ?_)))
      refine rv (D.agg [D.int IntKind.i64 (Fm.op f), D.int IntKind.i64 (Fm.n f), D.sl (eFs (Fm.kids f)) none]) ?_
      refine runs_call ([D.agg [D.int IntKind.i64 (Fm.op f), D.int IntKind.i64 (Fm.n f), D.sl (eFs (Fm.kids f)) none]]) (by kernel_rfl) (by kernel_rfl) (by kernel_rfl) (by kernel_rfl) (c22) (by kernel_rfl) ?_
      refine rgf (D.lptr (7 : Nat) (0 : Nat)) ([]) ?_
      refine rgf (D.junk) ([]) ?_
      refine k_done (k_skip_seq (k_seq ?_))
      refine rv (D.lptr (7 : Nat) (0 : Nat)) ?_
      refine rv (D.int IntKind.i64 (Fm.op s)) ?_
      refine k_done (k_skip_seq (k_block (k_seq ?_)))
      refine rv (D.bool (Fm.op s == (1 : Int))) ?_
      refine ra0 (D.bool (Fm.op s == (1 : Int))) ?_
      refine k_done (k_skip_seq ?_)
      refine rkn 24 (Fm.op s == (1 : Int)) false (decide_eq_false (by assumption)) ?_
      refine kcf (k_seq ?_)
      refine rv (D.bool (Fm.op s == (2 : Int))) ?_
      refine ra0 (D.bool (Fm.op s == (2 : Int))) ?_
      refine k_done (k_skip_seq ?_)
      refine rkn 26 (Fm.op s == (2 : Int)) false (decide_eq_false (by assumption)) ?_
      refine kcf ?_
      refine rv (D.lptr (13 : Nat) (0 : Nat)) ?_
      refine rv (D.lptr (13 : Nat) (0 : Nat)) ?_
      refine rv (D.agg [D.int IntKind.i64 (Fm.op s), D.int IntKind.i64 (Fm.n s), D.sl (eFs (Fm.kids s)) none]) ?_
      refine runs_prom ([D.ptr (0 : Nat) (0 : Nat), D.agg [D.int IntKind.i64 (Fm.op s), D.int IntKind.i64 (Fm.n s), D.sl (eFs (Fm.kids s)) none]]) ([Obj.cells [D.sl [] (some (51 : Nat)), D.int IntKind.i64 m0]]) (by kernel_rfl) (by kernel_rfl) (by kernel_rfl) (by kernel_rfl) ?_
      refine runs_call_st ([D.ptr (0 : Nat) (0 : Nat), D.agg [D.int IntKind.i64 (Fm.op s), D.int IntKind.i64 (Fm.n s), D.sl (eFs (Fm.kids s)) none]]) (by kernel_rfl) (by kernel_rfl) (by kernel_rfl) (by kernel_rfl) (hlit) ?_
      refine rv (D.sl [[D.int IntKind.i64 (Prod.snd (Prod.snd r))]] (some (3 : Nat))) ?_
      refine runs_call_st ([D.ptr (0 : Nat) (0 : Nat), D.sl [[D.int IntKind.i64 (Prod.snd (Prod.snd r))]] none]) (by kernel_rfl) (by kernel_rfl) (by kernel_rfl) (by kernel_rfl) (hput) ?_
      refine k_done (k_skip_block (k_skip_seq (k_seq ?_)))
      refine rv (D.ptr (0 : Nat) (0 : Nat)) ?_
      refine rv (D.ptr (0 : Nat) (0 : Nat)) ?_
      refine rv (D.ptr (0 : Nat) (0 : Nat)) ?_
      refine rv (D.sl (rows ([] ++ Prod.fst r ++ [[Prod.snd (Prod.snd r)]])) none) ?_
      refine rv (D.ptr (0 : Nat) (0 : Nat)) ?_
      refine rv (D.ptr (0 : Nat) (0 : Nat)) ?_
      refine rv (D.ptr (0 : Nat) (1 : Nat)) ?_
      refine rv (D.int IntKind.i64 (Prod.fst (Prod.snd r))) ?_
      refine ra0 (D.sl (rows ([] ++ Prod.fst r ++ [[Prod.snd (Prod.snd r)]])) none) ?_
      refine ra0 (D.int IntKind.i64 (Prod.fst (Prod.snd r))) ?_
      refine k_done (k_skip_seq (k_ret ?_))
      exact ⟨.inr rfl, by kernel_rfl, by kernel_rfl⟩
  · by_cases c1 : s.op = 1
    · rw [if_pos c1]
      refine ⟨[], ?_⟩
      refine call_of (m := m30) rfl rfl (by decide) (k_start ?_)
      unfold m30
      refine k_seq ?_
      refine rgf (D.lptr (2 : Nat) (0 : Nat)) ([]) ?_
      refine rv (D.sl [] (some (51 : Nat))) ?_
      refine rv (D.int IntKind.i64 (0 : Int)) ?_
      refine k_done (k_skip_seq (k_seq ?_))
      refine rv (D.int IntKind.i64 m0) ?_
      refine rv (D.agg [D.int IntKind.i64 (Fm.op f), D.int IntKind.i64 (Fm.n f), D.sl (eFs (Fm.kids f)) none]) ?_
      refine runs_call ([D.agg [D.int IntKind.i64 (Fm.op f), D.int IntKind.i64 (Fm.n f), D.sl (eFs (Fm.kids f)) none]]) (by kernel_rfl) (by kernel_rfl) (by kernel_rfl) (by kernel_rfl) (c20) (by kernel_rfl) ?_
      refine rve (D.int IntKind.i64 (if (0 : Int) > if A > m0 then A else m0 then (0 : Int) else if A > m0 then A else m0)) (.int IntKind.i64 (m0)) (congrArg (D.int IntKind.i64) ((if_neg (by omega)).trans (if_neg (by omega)))) ?_
      refine rv (D.agg [D.nils (51 : Nat), D.int IntKind.i64 m0]) ?_
      refine rgf (D.lptr (13 : Nat) (0 : Nat)) ([]) ?_
      refine ra0 (D.lptr (13 : Nat) (0 : Nat)) ?_
      refine k_done (k_skip_seq (k_seq (k_seq ?_)))
      refine rv (D.agg [D.int IntKind.i64 (Fm.op f), D.int IntKind.i64 (Fm.n f), D.sl (eFs (Fm.kids f)) none]) ?_
      refine runs_call ([D.agg [D.int IntKind.i64 (Fm.op f), D.int IntKind.i64 (Fm.n f), D.sl (eFs (Fm.kids f)) none]]) (by kernel_rfl) (by kernel_rfl) (by kernel_rfl) (by kernel_rfl) (c22) (by kernel_rfl) ?_
      refine rgf (D.lptr (7 : Nat) (0 : Nat)) ([]) ?_
      refine rgf (D.junk) ([]) ?_
      refine k_done (k_skip_seq (k_seq ?_))
      refine rv (D.lptr (7 : Nat) (0 : Nat)) ?_
      refine rv (D.int IntKind.i64 (Fm.op s)) ?_
      refine k_done (k_skip_seq (k_block (k_seq ?_)))
      refine rv (D.bool (Fm.op s == (1 : Int))) ?_
      refine ra0 (D.bool (Fm.op s == (1 : Int))) ?_
      refine k_done (k_skip_seq ?_)
      refine rkn 24 (Fm.op s == (1 : Int)) true (decide_eq_true (by assumption)) ?_
      refine kct (k_skip_block (k_skip_seq (k_seq ?_)))
      refine rv (D.lptr (13 : Nat) (0 : Nat)) ?_
      refine rv (D.lptr (13 : Nat) (0 : Nat)) ?_
      refine rv (D.lptr (13 : Nat) (0 : Nat)) ?_
      refine rv (D.sl [] none) ?_
      refine rv (D.lptr (13 : Nat) (0 : Nat)) ?_
      refine rv (D.lptr (13 : Nat) (0 : Nat)) ?_
      refine rv (D.lptr (13 : Nat) (1 : Nat)) ?_
      refine rv (D.int IntKind.i64 m0) ?_
      refine ra0 (D.sl [] none) ?_
      refine ra0 (D.int IntKind.i64 m0) ?_
      refine k_done (k_skip_seq (k_ret ?_))
      exact ⟨.inr rfl, by kernel_rfl, by kernel_rfl⟩
    rw [if_neg c1]
    by_cases c2 : s.op = 2
    · rw [if_pos c2]
      have hput := put_ok N [] m0 [] none (by simp)
      refine ⟨[MK [[]] m0], ?_⟩
      refine call_of (m := m30) rfl rfl (by decide) (k_start ?_)
      unfold m30
      refine k_seq ?_
      refine rgf (D.lptr (2 : Nat) (0 : Nat)) ([]) ?_
      refine rv (D.sl [] (some (51 : Nat))) ?_
      refine rv (D.int IntKind.i64 (0 : Int)) ?_
      refine k_done (k_skip_seq (k_seq ?_))
      refine rv (D.int IntKind.i64 m0) ?_
      refine rv (D.agg [D.int IntKind.i64 (Fm.op f), D.int IntKind.i64 (Fm.n f), D.sl (eFs (Fm.kids f)) none]) ?_
      refine runs_call ([D.agg [D.int IntKind.i64 (Fm.op f), D.int IntKind.i64 (Fm.n f), D.sl (eFs (Fm.kids f)) none]]) (by kernel_rfl) (by kernel_rfl) (by kernel_rfl) (by kernel_rfl) (c20) (by kernel_rfl) ?_
      refine rve (D.int IntKind.i64 (if (0 : Int) > if A > m0 then A else m0 then (0 : Int) else if A > m0 then A else m0)) (.int IntKind.i64 (m0)) (congrArg (D.int IntKind.i64) ((if_neg (by omega)).trans (if_neg (by omega)))) ?_
      refine rv (D.agg [D.nils (51 : Nat), D.int IntKind.i64 m0]) ?_
      refine rgf (D.lptr (13 : Nat) (0 : Nat)) ([]) ?_
      refine ra0 (D.lptr (13 : Nat) (0 : Nat)) ?_
      refine k_done (k_skip_seq (k_seq (k_seq ?_)))
      refine rv (D.agg [D.int IntKind.i64 (Fm.op f), D.int IntKind.i64 (Fm.n f), D.sl (eFs (Fm.kids f)) none]) ?_
      refine runs_call ([D.agg [D.int IntKind.i64 (Fm.op f), D.int IntKind.i64 (Fm.n f), D.sl (eFs (Fm.kids f)) none]]) (by kernel_rfl) (by kernel_rfl) (by kernel_rfl) (by kernel_rfl) (c22) (by kernel_rfl) ?_
      refine rgf (D.lptr (7 : Nat) (0 : Nat)) ([]) ?_
      refine rgf (D.junk) ([]) ?_
      refine k_done (k_skip_seq (k_seq ?_))
      refine rv (D.lptr (7 : Nat) (0 : Nat)) ?_
      refine rv (D.int IntKind.i64 (Fm.op s)) ?_
      refine k_done (k_skip_seq (k_block (k_seq ?_)))
      refine rv (D.bool (Fm.op s == (1 : Int))) ?_
      refine ra0 (D.bool (Fm.op s == (1 : Int))) ?_
      refine k_done (k_skip_seq ?_)
      refine rkn 24 (Fm.op s == (1 : Int)) false (decide_eq_false (by assumption)) ?_
      refine kcf (k_seq ?_)
      refine rv (D.bool (Fm.op s == (2 : Int))) ?_
      refine ra0 (D.bool (Fm.op s == (2 : Int))) ?_
      refine k_done (k_skip_seq ?_)
      refine rkn 26 (Fm.op s == (2 : Int)) true (decide_eq_true (by assumption)) ?_
      refine kct ?_
      refine rv (D.lptr (13 : Nat) (0 : Nat)) ?_
      refine runs_prom ([D.ptr (0 : Nat) (0 : Nat), D.sl [] none]) ([Obj.cells [D.sl [] (some (51 : Nat)), D.int IntKind.i64 m0]]) (by kernel_rfl) (by kernel_rfl) (by kernel_rfl) (by kernel_rfl) ?_
      refine runs_call_st ([D.ptr (0 : Nat) (0 : Nat), D.sl [] none]) (by kernel_rfl) (by kernel_rfl) (by kernel_rfl) (by kernel_rfl) (hput) ?_
      refine k_done (k_skip_block (k_skip_seq (k_seq ?_)))
      refine rv (D.ptr (0 : Nat) (0 : Nat)) ?_
      refine rv (D.ptr (0 : Nat) (0 : Nat)) ?_
      refine rv (D.ptr (0 : Nat) (0 : Nat)) ?_
      refine rv (D.sl [[D.sl [] none]] none) ?_
      refine rv (D.ptr (0 : Nat) (0 : Nat)) ?_
      refine rv (D.ptr (0 : Nat) (0 : Nat)) ?_
      refine rv (D.ptr (0 : Nat) (1 : Nat)) ?_
      refine rv (D.int IntKind.i64 m0) ?_
      refine ra0 (D.sl [[D.sl [] none]] none) ?_
      refine ra0 (D.int IntKind.i64 m0) ?_
      refine k_done (k_skip_seq (k_ret ?_))
      exact ⟨.inr rfl, by kernel_rfl, by kernel_rfl⟩
    rw [if_neg c2]
    have hlit := hlit c1 c2
    have hok := (hok c1 c2).num
    have hsn := hs.1
    generalize litR (d + 1) s m0 = r at *
    have hput := put_ok N ([] ++ r.1) r.2.1 [r.2.2] none (by simp; omega)
    refine ⟨[MK ([] ++ r.1 ++ [[r.2.2]]) r.2.1], ?_⟩
    refine call_of (m := m30) rfl rfl (by decide) (k_start ?_)
    unfold m30
    refine k_seq ?_
    refine rgf (D.lptr (2 : Nat) (0 : Nat)) ([]) ?_
    refine rv (D.sl [] (some (51 : Nat))) ?_
    refine rv (D.int IntKind.i64 (0 : Int)) ?_
    refine k_done (k_skip_seq (k_seq ?_))
    refine rv (D.int IntKind.i64 m0) ?_
    refine rv (D.agg [D.int IntKind.i64 (Fm.op f), D.int IntKind.i64 (Fm.n f), D.sl (eFs (Fm.kids f)) none]) ?_
    refine runs_call ([D.agg [D.int IntKind.i64 (Fm.op f), D.int IntKind.i64 (Fm.n f), D.sl (eFs (Fm.kids f)) none]]) (by kernel_rfl) (by kernel_rfl) (by kernel_rfl) (by kernel_rfl) (c20) (by kernel_rfl) ?_
    refine rve (D.int IntKind.i64 (if (0 : Int) > if A > m0 then A else m0 then (0 : Int) else if A > m0 then A else m0)) (.int IntKind.i64 (m0)) (congrArg (D.int IntKind.i64) ((if_neg (by omega)).trans (if_neg (by omega)))) ?_
    refine rv (D.agg [D.nils (51 : Nat), D.int IntKind.i64 m0]) ?_
    refine rgf (D.lptr (13 : Nat) (0 : Nat)) ([]) ?_
    refine ra0 (D.lptr (13 : Nat) (0 : Nat)) ?_
    refine k_done (k_skip_seq (k_seq (k_seq ?_)))
    refine rv (D.agg [D.int IntKind.i64 (Fm.op f), D.int IntKind.i64 (Fm.n f), D.sl (eFs (Fm.kids f)) none]) ?_
    refine runs_call ([D.agg [D.int IntKind.i64 (Fm.op f), D.int IntKind.i64 (Fm.n f), D.sl (eFs (Fm.kids f)) none]]) (by kernel_rfl) (by kernel_rfl) (by kernel_rfl) (by kernel_rfl) (c22) (by kernel_rfl) ?_
    refine rgf (D.lptr (7 : Nat) (0 : Nat)) ([]) ?_
    refine rgf (D.junk) ([]) ?_
    refine k_done (k_skip_seq (k_seq ?_))
    refine rv (D.lptr (7 : Nat) (0 : Nat)) ?_
    refine rv (D.int IntKind.i64 (Fm.op s)) ?_
    refine k_done (k_skip_seq (k_block (k_seq ?_)))
    refine rv (D.bool (Fm.op s == (1 : Int))) ?_
    refine ra0 (D.bool (Fm.op s == (1 : Int))) ?_
    refine k_done (k_skip_seq ?_)
    refine rkn 24 (Fm.op s == (1 : Int)) false (decide_eq_false (by assumption)) ?_
    refine kcf (k_seq ?_)
    refine rv (D.bool (Fm.op s == (2 : Int))) ?_
    refine ra0 (D.bool (Fm.op s == (2 : Int))) ?_
    refine k_done (k_skip_seq ?_)
    refine rkn 26 (Fm.op s == (2 : Int)) false (decide_eq_false (by assumption)) ?_
    refine kcf ?_
    refine rv (D.lptr (13 : Nat) (0 : Nat)) ?_
    refine rv (D.lptr (13 : Nat) (0 : Nat)) ?_
    refine rv (D.agg [D.int IntKind.i64 (Fm.op s), D.int IntKind.i64 (Fm.n s), D.sl (eFs (Fm.kids s)) none]) ?_
    refine runs_prom ([D.ptr (0 : Nat) (0 : Nat), D.agg [D.int IntKind.i64 (Fm.op s), D.int IntKind.i64 (Fm.n s), D.sl (eFs (Fm.kids s)) none]]) ([Obj.cells [D.sl [] (some (51 : Nat)), D.int IntKind.i64 m0]]) (by kernel_rfl) (by kernel_rfl) (by kernel_rfl) (by kernel_rfl) ?_
    refine runs_call_st ([D.ptr (0 : Nat) (0 : Nat), D.agg [D.int IntKind.i64 (Fm.op s), D.int IntKind.i64 (Fm.n s), D.sl (eFs (Fm.kids s)) none]]) (by kernel_rfl) (by kernel_rfl) (by kernel_rfl) (by kernel_rfl) (hlit) ?_
    refine rv (D.sl [[D.int IntKind.i64 (Prod.snd (Prod.snd r))]] (some (3 : Nat))) ?_
    refine runs_call_st ([D.ptr (0 : Nat) (0 : Nat), D.sl [[D.int IntKind.i64 (Prod.snd (Prod.snd r))]] none]) (by kernel_rfl) (by kernel_rfl) (by kernel_rfl) (by kernel_rfl) (hput) ?_
    refine k_done (k_skip_block (k_skip_seq (k_seq ?_)))
    refine rv (D.ptr (0 : Nat) (0 : Nat)) ?_
    refine rv (D.ptr (0 : Nat) (0 : Nat)) ?_
    refine rv (D.ptr (0 : Nat) (0 : Nat)) ?_
    refine rv (D.sl (rows ([] ++ Prod.fst r ++ [[Prod.snd (Prod.snd r)]])) none) ?_
    refine rv (D.ptr (0 : Nat) (0 : Nat)) ?_
    refine rv (D.ptr (0 : Nat) (0 : Nat)) ?_
    refine rv (D.ptr (0 : Nat) (1 : Nat)) ?_
    refine rv (D.int IntKind.i64 (Prod.fst (Prod.snd r))) ?_
    refine ra0 (D.sl (rows ([] ++ Prod.fst r ++ [[Prod.snd (Prod.snd r)]])) none) ?_
    refine ra0 (D.int IntKind.i64 (Prod.fst (Prod.snd r))) ?_
    refine k_done (k_skip_seq (k_ret ?_))
    exact ⟨.inr rfl, by kernel_rfl, by kernel_rfl⟩
theorem refOfG_ok (d : Nat) (f : Fm) (N : Nat) (atoms : Int) (hf : fits (d + 1) f) (hm : mayR (d + 1) f = true) (ha : atoms ≤ 2000) (hn : nodes f ≤ 400) (hd : d ≤ 1000) (hN : 2200 ≤ N) :
    callN T (N + 1) 31 [.agg (eF f), .int .i64 atoms] [] = some (.tup [.sl (rows (ofM (d + 1) f (topM (atomsR (d + 1) f) atoms)).1) none, .int .i64 (ofM (d + 1) f (topM (atomsR (d + 1) f) atoms)).2], []) := by
  have hA0 := atoms_pos d f
  have hA1 := low_atoms 1000 (by omega) (d + 1) f (may_low (d + 1) f hm)
  have hlow := atoms_low (atomsR (d + 1) f) (d + 1) f hf (Int.le_refl _)
  have hs := simple_nodes _ (d + 1) f hf hlow
  have hnice := simple_nice (d + 1) f hf hm
  have c20 := refAtoms_ok (d + 1) f N [] hf hm (by omega)
  have c22 := refSimple_ok (d + 1) f N [] hf hm (by omega)
  have htop : atomsR (d + 1) f ≤ topM (atomsR (d + 1) f) atoms ∧ topM (atomsR (d + 1) f) atoms ≤ 2000 := by unfold topM; split <;> omega
  have hlit := fun h1 h2 => literalR_ok _ hA0 (d + 1) (simpleR (d + 1) f) [] (topM (atomsR (d + 1) f) atoms) N (nice_3 hnice h1 h2) hs.2 htop.1 (by have := hs.1; omega) (by have := hs.1; simp; omega) (by omega)
  have hok := fun h1 h2 => lit_OK _ hA0 (d + 1) (simpleR (d + 1) f) (topM (atomsR (d + 1) f) atoms) (nice_3 hnice h1 h2) hs.2 htop.1
  unfold ofM
  generalize hA : atomsR (d + 1) f = A at *
  generalize simpleR (d + 1) f = s at *
  have hcase : topM A atoms = A ∧ ¬ atoms > A ∨ topM A atoms = atoms ∧ atoms > A := by
    unfold topM
    by_cases h : atoms > A
    · rw [if_pos h]; exact .inr ⟨rfl, h⟩
    · rw [if_neg h]; exact .inl ⟨rfl, h⟩
  generalize topM A atoms = m0 at *
  rcases hcase with ⟨rfl, hg⟩ | ⟨rfl, hg⟩
  · by_cases c1 : s.op = 1
    · rw [if_pos c1]
      refine call_of (m := m31) rfl rfl (by decide) (k_start ?_)
      unfold m31
      refine k_seq ?_
      refine rgf (D.lptr (2 : Nat) (0 : Nat)) ([]) ?_
      refine rv (D.sl [] (some (51 : Nat))) ?_
      refine rv (D.int IntKind.i64 (0 : Int)) ?_
      refine k_done (k_skip_seq (k_seq ?_))
      refine rv (D.agg [D.int IntKind.i64 (Fm.op f), D.int IntKind.i64 (Fm.n f), D.sl (eFs (Fm.kids f)) none]) ?_
      refine runs_call ([D.agg [D.int IntKind.i64 (Fm.op f), D.int IntKind.i64 (Fm.n f), D.sl (eFs (Fm.kids f)) none]]) (by kernel_rfl) (by kernel_rfl) (by kernel_rfl) (by kernel_rfl) (c20) (by kernel_rfl) ?_
      refine ra0 (D.int IntKind.i64 m0) ?_
      refine k_done (k_skip_seq (k_seq (k_seq ?_)))
      refine rv (D.int IntKind.i64 atoms) ?_
      refine rv (D.int IntKind.i64 m0) ?_
      refine rv (D.bool (decide (atoms > m0))) ?_
      refine k_done (k_skip_seq ?_)
      refine rkn 15 (decide (atoms > m0)) false (decide_eq_false (by assumption)) ?_
      refine kcf (k_skip_seq (k_seq ?_))
      refine rv (D.agg [D.int IntKind.i64 (Fm.op f), D.int IntKind.i64 (Fm.n f), D.sl (eFs (Fm.kids f)) none]) ?_
      refine runs_call ([D.agg [D.int IntKind.i64 (Fm.op f), D.int IntKind.i64 (Fm.n f), D.sl (eFs (Fm.kids f)) none]]) (by kernel_rfl) (by kernel_rfl) (by kernel_rfl) (by kernel_rfl) (c22) (by kernel_rfl) ?_
      refine rgf (D.lptr (7 : Nat) (0 : Nat)) ([]) ?_
      refine rgf (D.junk) ([]) ?_
      refine k_done (k_skip_seq (k_seq (k_seq ?_)))
      refine rv (D.lptr (7 : Nat) (0 : Nat)) ?_
      refine rv (D.int IntKind.i64 (Fm.op s)) ?_
      refine rv (D.bool (Fm.op s == (1 : Int))) ?_
      refine k_done (k_skip_seq ?_)
      refine rkn 21 (Fm.op s == (1 : Int)) true (decide_eq_true (by assumption)) ?_
      refine kct (k_seq ?_)
      refine rv (D.int IntKind.i64 m0) ?_
      refine rv (D.sl [] (some (51 : Nat))) ?_
      refine ra0 (D.int IntKind.i64 m0) ?_
      refine k_done (k_skip_seq (k_ret ?_))
      exact ⟨.inr rfl, by kernel_rfl, by kernel_rfl⟩
    rw [if_neg c1]
    by_cases c2 : s.op = 2
    · rw [if_pos c2]
      refine call_of (m := m31) rfl rfl (by decide) (k_start ?_)
      unfold m31
      refine k_seq ?_
      refine rgf (D.lptr (2 : Nat) (0 : Nat)) ([]) ?_
      refine rv (D.sl [] (some (51 : Nat))) ?_
      refine rv (D.int IntKind.i64 (0 : Int)) ?_
      refine k_done (k_skip_seq (k_seq ?_))
      refine rv (D.agg [D.int IntKind.i64 (Fm.op f), D.int IntKind.i64 (Fm.n f), D.sl (eFs (Fm.kids f)) none]) ?_
      refine runs_call ([D.agg [D.int IntKind.i64 (Fm.op f), D.int IntKind.i64 (Fm.n f), D.sl (eFs (Fm.kids f)) none]]) (by kernel_rfl) (by kernel_rfl) (by kernel_rfl) (by kernel_rfl) (c20) (by kernel_rfl) ?_
      refine ra0 (D.int IntKind.i64 m0) ?_
      refine k_done (k_skip_seq (k_seq (k_seq ?_)))
      refine rv (D.int IntKind.i64 atoms) ?_
      refine rv (D.int IntKind.i64 m0) ?_
      refine rv (D.bool (decide (atoms > m0))) ?_
      refine k_done (k_skip_seq ?_)
      refine rkn 15 (decide (atoms > m0)) false (decide_eq_false (by assumption)) ?_
      refine kcf (k_skip_seq (k_seq ?_))
      refine rv (D.agg [D.int IntKind.i64 (Fm.op f), D.int IntKind.i64 (Fm.n f), D.sl (eFs (Fm.kids f)) none]) ?_
      refine runs_call ([D.agg [D.int IntKind.i64 (Fm.op f), D.int IntKind.i64 (Fm.n f), D.sl (eFs (Fm.kids f)) none]]) (by kernel_rfl) (by kernel_rfl) (by kernel_rfl) (by kernel_rfl) (c22) (by kernel_rfl) ?_
      refine rgf (D.lptr (7 : Nat) (0 : Nat)) ([]) ?_
      refine rgf (D.junk) ([]) ?_
      refine k_done (k_skip_seq (k_seq (k_seq ?_)))
      refine rv (D.lptr (7 : Nat) (0 : Nat)) ?_
      refine rv (D.int IntKind.i64 (Fm.op s)) ?_
      refine rv (D.bool (Fm.op s == (1 : Int))) ?_
      refine k_done (k_skip_seq ?_)
      refine rkn 21 (Fm.op s == (1 : Int)) false (decide_eq_false (by assumption)) ?_
      refine kcf (k_skip_seq (k_seq (k_seq ?_)))
      refine rv (D.lptr (7 : Nat) (0 : Nat)) ?_
      refine rv (D.int IntKind.i64 (Fm.op s)) ?_
      refine rv (D.bool (Fm.op s == (2 : Int))) ?_
      refine k_done (k_skip_seq ?_)
      refine rkn 25 (Fm.op s == (2 : Int)) true (decide_eq_true (by assumption)) ?_
      refine kct (k_seq ?_)
      refine rv (D.sl [] (some (3 : Nat))) ?_
      refine rv (D.sl [[D.sl [] none]] (some (51 : Nat))) ?_
      refine rv (D.int IntKind.i64 m0) ?_
      refine runs_assign (D.sl [[D.sl [] none]] (some (51 : Nat))) (by kernel_rfl) (by kernel_rfl) ?_
      refine ra0 (D.int IntKind.i64 m0) ?_
      refine k_done (k_skip_seq (k_ret ?_))
      exact ⟨.inr rfl, by kernel_rfl, by kernel_rfl⟩
    rw [if_neg c2]
    have hlit := hlit c1 c2
    have hok := (hok c1 c2).num
    have hsn := hs.1
    generalize litR (d + 1) s m0 = r at *
    rw [List.nil_append] at hlit
    refine call_of (m := m31) rfl rfl (by decide) (k_start ?_)
    unfold m31
    refine k_seq ?_
    refine rgf (D.lptr (2 : Nat) (0 : Nat)) ([]) ?_
    refine rv (D.sl [] (some (51 : Nat))) ?_
    refine rv (D.int IntKind.i64 (0 : Int)) ?_
    refine k_done (k_skip_seq (k_seq ?_))
    refine rv (D.agg [D.int IntKind.i64 (Fm.op f), D.int IntKind.i64 (Fm.n f), D.sl (eFs (Fm.kids f)) none]) ?_
    refine runs_call ([D.agg [D.int IntKind.i64 (Fm.op f), D.int IntKind.i64 (Fm.n f), D.sl (eFs (Fm.kids f)) none]]) (by kernel_rfl) (by kernel_rfl) (by kernel_rfl) (by kernel_rfl) (c20) (by kernel_rfl) ?_
    refine ra0 (D.int IntKind.i64 m0) ?_
    refine k_done (k_skip_seq (k_seq (k_seq ?_)))
    refine rv (D.int IntKind.i64 atoms) ?_
    refine rv (D.int IntKind.i64 m0) ?_
    refine rv (D.bool (decide (atoms > m0))) ?_
    refine k_done (k_skip_seq ?_)
    refine rkn 15 (decide (atoms > m0)) false (decide_eq_false (by assumption)) ?_
    refine kcf (k_skip_seq (k_seq ?_))
    refine rv (D.agg [D.int IntKind.i64 (Fm.op f), D.int IntKind.i64 (Fm.n f), D.sl (eFs (Fm.kids f)) none]) ?_
    refine runs_call ([D.agg [D.int IntKind.i64 (Fm.op f), D.int IntKind.i64 (Fm.n f), D.sl (eFs (Fm.kids f)) none]]) (by kernel_rfl) (by kernel_rfl) (by kernel_rfl) (by kernel_rfl) (c22) (by kernel_rfl) ?_
    refine rgf (D.lptr (7 : Nat) (0 : Nat)) ([]) ?_
    refine rgf (D.junk) ([]) ?_
    refine k_done (k_skip_seq (k_seq (k_seq ?_)))
    refine rv (D.lptr (7 : Nat) (0 : Nat)) ?_
    refine rv (D.int IntKind.i64 (Fm.op s)) ?_
    refine rv (D.bool (Fm.op s == (1 : Int))) ?_
    refine k_done (k_skip_seq ?_)
    refine rkn 21 (Fm.op s == (1 : Int)) false (decide_eq_false (by assumption)) ?_
    refine kcf (k_skip_seq (k_seq (k_seq ?_)))
    refine rv (D.lptr (7 : Nat) (0 : Nat)) ?_
    refine rv (D.int IntKind.i64 (Fm.op s)) ?_
    refine rv (D.bool (Fm.op s == (2 : Int))) ?_
    refine k_done (k_skip_seq ?_)
    refine rkn 25 (Fm.op s == (2 : Int)) false (decide_eq_false (by assumption)) ?_
    refine kcf (k_skip_seq (k_seq ?_))
    refine rv (D.int IntKind.i64 m0) ?_
    refine rv (D.agg [D.nils (51 : Nat), D.int IntKind.i64 m0]) ?_
    refine rv (D.agg [D.int IntKind.i64 (Fm.op s), D.int IntKind.i64 (Fm.n s), D.sl (eFs (Fm.kids s)) none]) ?_
    refine runs_call ([D.agg [D.sl [] none, D.int IntKind.i64 m0], D.agg [D.int IntKind.i64 (Fm.op s), D.int IntKind.i64 (Fm.n s), D.sl (eFs (Fm.kids s)) none]]) (by kernel_rfl) (by kernel_rfl) (by kernel_rfl) (by kernel_rfl) (hlit) (by kernel_rfl) ?_
    refine rv (D.tup [D.agg [D.sl (rows (Prod.fst r)) none, D.int IntKind.i64 (Prod.fst (Prod.snd r))], D.int IntKind.i64 (Prod.snd (Prod.snd r))]) ?_
    refine rv (D.agg [D.sl (rows (Prod.fst r)) none, D.int IntKind.i64 (Prod.fst (Prod.snd r))]) ?_
    refine rv (D.int IntKind.i64 (Prod.snd (Prod.snd r))) ?_
    refine rgf (D.lptr (8 : Nat) (0 : Nat)) ([]) ?_
    refine rgf (D.junk) ([]) ?_
    refine ra0 (D.int IntKind.i64 (Prod.snd (Prod.snd r))) ?_
    refine k_done (k_skip_seq (k_seq ?_))
    refine rv (D.sl [] (some (51 : Nat))) ?_
    refine k_done (k_skip_seq (k_seq ?_))
    refine runs_steal (D.sl [] (some (51 : Nat))) (by kernel_rfl) (by kernel_rfl) ?_
    refine rv (D.lptr (8 : Nat) (0 : Nat)) ?_
    refine rv (D.sl (rows (Prod.fst r)) none) ?_
    refine runs_append ([]) (rows (Prod.fst r)) (rows (Prod.fst r)) (by kernel_rfl) (by kernel_rfl) (by kernel_rfl) (by simp [ints, eInt, rows, eInts, bools, eBool, trips, eTrip, i8s]) (by simp [ints, eInt, rows, eInts, bools, eBool, trips, eTrip, i8s, room]; omega) (List.nil_append _) ?_
    refine runs_assign (D.sl (rows (Prod.fst r)) (some (51 : Nat))) (by kernel_rfl) (by kernel_rfl) ?_
    refine k_done (k_skip_seq (k_seq ?_))
    refine runs_steal (D.sl (rows (Prod.fst r)) (some (51 : Nat))) (by kernel_rfl) (by kernel_rfl) ?_
    refine rv (D.int IntKind.i64 (Prod.snd (Prod.snd r))) ?_
    refine rv (D.sl [[D.int IntKind.i64 (Prod.snd (Prod.snd r))]] (some (3 : Nat))) ?_
    refine rv (D.sl [[D.sl [[D.int IntKind.i64 (Prod.snd (Prod.snd r))]] none]] (some (51 : Nat))) ?_
    refine runs_append (rows (Prod.fst r)) ([[D.sl [[D.int IntKind.i64 (Prod.snd (Prod.snd r))]] none]]) (rows (Prod.fst r ++ [[Prod.snd (Prod.snd r)]])) (by kernel_rfl) (by kernel_rfl) (by kernel_rfl) (by kernel_rfl) (by simp [ints, eInt, rows, eInts, bools, eBool, trips, eTrip, i8s, room]; omega) (by simp [ints, eInt, rows, eInts, bools, eBool, trips, eTrip, i8s]) ?_
    refine rv (D.lptr (8 : Nat) (1 : Nat)) ?_
    refine rv (D.int IntKind.i64 (Prod.fst (Prod.snd r))) ?_
    refine runs_assign (D.sl (rows (Prod.fst r ++ [[Prod.snd (Prod.snd r)]])) (some (51 : Nat))) (by kernel_rfl) (by kernel_rfl) ?_
    refine ra0 (D.int IntKind.i64 (Prod.fst (Prod.snd r))) ?_
    refine k_done (k_skip_seq (k_ret ?_))
    exact ⟨.inr rfl, by kernel_rfl, by kernel_rfl⟩
  · by_cases c1 : s.op = 1
    · rw [if_pos c1]
      refine call_of (m := m31) rfl rfl (by decide) (k_start ?_)
      unfold m31
      refine k_seq ?_
      refine rgf (D.lptr (2 : Nat) (0 : Nat)) ([]) ?_
      refine rv (D.sl [] (some (51 : Nat))) ?_
      refine rv (D.int IntKind.i64 (0 : Int)) ?_
      refine k_done (k_skip_seq (k_seq ?_))
      refine rv (D.agg [D.int IntKind.i64 (Fm.op f), D.int IntKind.i64 (Fm.n f), D.sl (eFs (Fm.kids f)) none]) ?_
      refine runs_call ([D.agg [D.int IntKind.i64 (Fm.op f), D.int IntKind.i64 (Fm.n f), D.sl (eFs (Fm.kids f)) none]]) (by kernel_rfl) (by kernel_rfl) (by kernel_rfl) (by kernel_rfl) (c20) (by kernel_rfl) ?_
      refine ra0 (D.int IntKind.i64 A) ?_
      refine k_done (k_skip_seq (k_seq (k_seq ?_)))
      refine rv (D.int IntKind.i64 m0) ?_
      refine rv (D.int IntKind.i64 A) ?_
      refine rv (D.bool (decide (m0 > A))) ?_
      refine k_done (k_skip_seq ?_)
      refine rkn 15 (decide (m0 > A)) true (decide_eq_true (by assumption)) ?_
      refine kct ?_
      refine rv (D.int IntKind.i64 m0) ?_
      refine ra0 (D.int IntKind.i64 m0) ?_
      refine k_done (k_skip_seq (k_seq ?_))
      refine rv (D.agg [D.int IntKind.i64 (Fm.op f), D.int IntKind.i64 (Fm.n f), D.sl (eFs (Fm.kids f)) none]) ?_
      refine runs_call ([D.agg [D.int IntKind.i64 (Fm.op f), D.int IntKind.i64 (Fm.n f), D.sl (eFs (Fm.kids f)) none]]) (by kernel_rfl) (by kernel_rfl) (by kernel_rfl) (by kernel_rfl) (c22) (by kernel_rfl) ?_
      refine rgf (D.lptr (7 : Nat) (0 : Nat)) ([]) ?_
      refine rgf (D.junk) ([]) ?_
      refine k_done (k_skip_seq (k_seq (k_seq ?_)))
      refine rv (D.lptr (7 : Nat) (0 : Nat)) ?_
      refine rv (D.int IntKind.i64 (Fm.op s)) ?_
      refine rv (D.bool (Fm.op s == (1 : Int))) ?_
      refine k_done (k_skip_seq ?_)
      refine rkn 21 (Fm.op s == (1 : Int)) true (decide_eq_true (by assumption)) ?_
      refine kct (k_seq ?_)
      refine rv (D.int IntKind.i64 m0) ?_
      refine rv (D.sl [] (some (51 : Nat))) ?_
      refine ra0 (D.int IntKind.i64 m0) ?_
      refine k_done (k_skip_seq (k_ret ?_))
      exact ⟨.inr rfl, by kernel_rfl, by kernel_rfl⟩
    rw [if_neg c1]
    by_cases c2 : s.op = 2
    · rw [if_pos c2]
      refine call_of (m := m31) rfl rfl (by decide) (k_start ?_)
      unfold m31
      refine k_seq ?_
      refine rgf (D.lptr (2 : Nat) (0 : Nat)) ([]) ?_
      refine rv (D.sl [] (some (51 : Nat))) ?_
      refine rv (D.int IntKind.i64 (0 : Int)) ?_
      refine k_done (k_skip_seq (k_seq ?_))
      refine rv (D.agg [D.int IntKind.i64 (Fm.op f), D.int IntKind.i64 (Fm.n f), D.sl (eFs (Fm.kids f)) none]) ?_
      refine runs_call ([D.agg [D.int IntKind.i64 (Fm.op f), D.int IntKind.i64 (Fm.n f), D.sl (eFs (Fm.kids f)) none]]) (by kernel_rfl) (by kernel_rfl) (by kernel_rfl) (by kernel_rfl) (c20) (by kernel_rfl) ?_
      refine ra0 (D.int IntKind.i64 A) ?_
      refine k_done (k_skip_seq (k_seq (k_seq ?_)))
      refine rv (D.int IntKind.i64 m0) ?_
      refine rv (D.int IntKind.i64 A) ?_
      refine rv (D.bool (decide (m0 > A))) ?_
      refine k_done (k_skip_seq ?_)
      refine rkn 15 (decide (m0 > A)) true (decide_eq_true (by assumption)) ?_
      refine kct ?_
      refine rv (D.int IntKind.i64 m0) ?_
      refine ra0 (D.int IntKind.i64 m0) ?_
      refine k_done (k_skip_seq (k_seq ?_))
      refine rv (D.agg [D.int IntKind.i64 (Fm.op f), D.int IntKind.i64 (Fm.n f), D.sl (eFs (Fm.kids f)) none]) ?_
      refine runs_call ([D.agg [D.int IntKind.i64 (Fm.op f), D.int IntKind.i64 (Fm.n f), D.sl (eFs (Fm.kids f)) none]]) (by kernel_rfl) (by kernel_rfl) (by kernel_rfl) (by kernel_rfl) (c22) (by kernel_rfl) ?_
      refine rgf (D.lptr (7 : Nat) (0 : Nat)) ([]) ?_
      refine rgf (D.junk) ([]) ?_
      refine k_done (k_skip_seq (k_seq (k_seq ?_)))
      refine rv (D.lptr (7 : Nat) (0 : Nat)) ?_
      refine rv (D.int IntKind.i64 (Fm.op s)) ?_
      refine rv (D.bool (Fm.op s == (1 : Int))) ?_
      refine k_done (k_skip_seq ?_)
      refine rkn 21 (Fm.op s == (1 : Int)) false (decide_eq_false (by assumption)) ?_
      refine kcf (k_skip_seq (k_seq (k_seq ?_)))
      refine rv (D.lptr (7 : Nat) (0 : Nat)) ?_
      refine rv (D.int IntKind.i64 (Fm.op s)) ?_
      refine rv (D.bool (Fm.op s == (2 : Int))) ?_
      refine k_done (k_skip_seq ?_)
      refine rkn 25 (Fm.op s == (2 : Int)) true (decide_eq_true (by assumption)) ?_
      refine kct (k_seq ?_)
      refine rv (D.sl [] (some (3 : Nat))) ?_
      refine rv (D.sl [[D.sl [] none]] (some (51 : Nat))) ?_
      refine rv (D.int IntKind.i64 m0) ?_
      refine runs_assign (D.sl [[D.sl [] none]] (some (51 : Nat))) (by kernel_rfl) (by kernel_rfl) ?_
      refine ra0 (D.int IntKind.i64 m0) ?_
      refine k_done (k_skip_seq (k_ret ?_))
      exact ⟨.inr rfl, by kernel_rfl, by kernel_rfl⟩
    rw [if_neg c2]
    have hlit := hlit c1 c2
    have hok := (hok c1 c2).num
    have hsn := hs.1
    generalize litR (d + 1) s m0 = r at *
    rw [List.nil_append] at hlit
    refine call_of (m := m31) rfl rfl (by decide) (k_start ?_)
    unfold m31
    refine k_seq ?_
    refine rgf (D.lptr (2 : Nat) (0 : Nat)) ([]) ?_
    refine rv (D.sl [] (some (51 : Nat))) ?_
    refine rv (D.int IntKind.i64 (0 : Int)) ?_
    refine k_done (k_skip_seq (k_seq ?_))
    refine rv (D.agg [D.int IntKind.i64 (Fm.op f), D.int IntKind.i64 (Fm.n f), D.sl (eFs (Fm.kids f)) none]) ?_
    refine runs_call ([D.agg [D.int IntKind.i64 (Fm.op f), D.int IntKind.i64 (Fm.n f), D.sl (eFs (Fm.kids f)) none]]) (by kernel_rfl) (by kernel_rfl) (by kernel_rfl) (by kernel_rfl) (c20) (by kernel_rfl) ?_
    refine ra0 (D.int IntKind.i64 A) ?_
    refine k_done (k_skip_seq (k_seq (k_seq ?_)))
    refine rv (D.int IntKind.i64 m0) ?_
    refine rv (D.int IntKind.i64 A) ?_
    refine rv (D.bool (decide (m0 > A))) ?_
    refine k_done (k_skip_seq ?_)
    refine rkn 15 (decide (m0 > A)) true (decide_eq_true (by assumption)) ?_
    refine kct ?_
    refine rv (D.int IntKind.i64 m0) ?_
    refine ra0 (D.int IntKind.i64 m0) ?_
    refine k_done (k_skip_seq (k_seq ?_))
    refine rv (D.agg [D.int IntKind.i64 (Fm.op f), D.int IntKind.i64 (Fm.n f), D.sl (eFs (Fm.kids f)) none]) ?_
    refine runs_call ([D.agg [D.int IntKind.i64 (Fm.op f), D.int IntKind.i64 (Fm.n f), D.sl (eFs (Fm.kids f)) none]]) (by kernel_rfl) (by kernel_rfl) (by kernel_rfl) (by kernel_rfl) (c22) (by kernel_rfl) ?_
    refine rgf (D.lptr (7 : Nat) (0 : Nat)) ([]) ?_
    refine rgf (D.junk) ([]) ?_
    refine k_done (k_skip_seq (k_seq (k_seq ?_)))
    refine rv (D.lptr (7 : Nat) (0 : Nat)) ?_
    refine rv (D.int IntKind.i64 (Fm.op s)) ?_
    refine rv (D.bool (Fm.op s == (1 : Int))) ?_
    refine k_done (k_skip_seq ?_)
    refine rkn 21 (Fm.op s == (1 : Int)) false (decide_eq_false (by assumption)) ?_
    refine kcf (k_skip_seq (k_seq (k_seq ?_)))
    refine rv (D.lptr (7 : Nat) (0 : Nat)) ?_
    refine rv (D.int IntKind.i64 (Fm.op s)) ?_
    refine rv (D.bool (Fm.op s == (2 : Int))) ?_
    refine k_done (k_skip_seq ?_)
    refine rkn 25 (Fm.op s == (2 : Int)) false (decide_eq_false (by assumption)) ?_
    refine kcf (k_skip_seq (k_seq ?_))
    refine rv (D.int IntKind.i64 m0) ?_
    refine rv (D.agg [D.nils (51 : Nat), D.int IntKind.i64 m0]) ?_
    refine rv (D.agg [D.int IntKind.i64 (Fm.op s), D.int IntKind.i64 (Fm.n s), D.sl (eFs (Fm.kids s)) none]) ?_
    refine runs_call ([D.agg [D.sl [] none, D.int IntKind.i64 m0], D.agg [D.int IntKind.i64 (Fm.op s), D.int IntKind.i64 (Fm.n s), D.sl (eFs (Fm.kids s)) none]]) (by kernel_rfl) (by kernel_rfl) (by kernel_rfl) (by kernel_rfl) (hlit) (by kernel_rfl) ?_
    refine rv (D.tup [D.agg [D.sl (rows (Prod.fst r)) none, D.int IntKind.i64 (Prod.fst (Prod.snd r))], D.int IntKind.i64 (Prod.snd (Prod.snd r))]) ?_
    refine rv (D.agg [D.sl (rows (Prod.fst r)) none, D.int IntKind.i64 (Prod.fst (Prod.snd r))]) ?_
    refine rv (D.int IntKind.i64 (Prod.snd (Prod.snd r))) ?_
    refine rgf (D.lptr (8 : Nat) (0 : Nat)) ([]) ?_
    refine rgf (D.junk) ([]) ?_
    refine ra0 (D.int IntKind.i64 (Prod.snd (Prod.snd r))) ?_
    refine k_done (k_skip_seq (k_seq ?_))
    refine rv (D.sl [] (some (51 : Nat))) ?_
    refine k_done (k_skip_seq (k_seq ?_))
    refine runs_steal (D.sl [] (some (51 : Nat))) (by kernel_rfl) (by kernel_rfl) ?_
    refine rv (D.lptr (8 : Nat) (0 : Nat)) ?_
    refine rv (D.sl (rows (Prod.fst r)) none) ?_
    refine runs_append ([]) (rows (Prod.fst r)) (rows (Prod.fst r)) (by kernel_rfl) (by kernel_rfl) (by kernel_rfl) (by simp [ints, eInt, rows, eInts, bools, eBool, trips, eTrip, i8s]) (by simp [ints, eInt, rows, eInts, bools, eBool, trips, eTrip, i8s, room]; omega) (List.nil_append _) ?_
    refine runs_assign (D.sl (rows (Prod.fst r)) (some (51 : Nat))) (by kernel_rfl) (by kernel_rfl) ?_
    refine k_done (k_skip_seq (k_seq ?_))
    refine runs_steal (D.sl (rows (Prod.fst r)) (some (51 : Nat))) (by kernel_rfl) (by kernel_rfl) ?_
    refine rv (D.int IntKind.i64 (Prod.snd (Prod.snd r))) ?_
    refine rv (D.sl [[D.int IntKind.i64 (Prod.snd (Prod.snd r))]] (some (3 : Nat))) ?_
    refine rv (D.sl [[D.sl [[D.int IntKind.i64 (Prod.snd (Prod.snd r))]] none]] (some (51 : Nat))) ?_
    refine runs_append (rows (Prod.fst r)) ([[D.sl [[D.int IntKind.i64 (Prod.snd (Prod.snd r))]] none]]) (rows (Prod.fst r ++ [[Prod.snd (Prod.snd r)]])) (by kernel_rfl) (by kernel_rfl) (by kernel_rfl) (by kernel_rfl) (by simp [ints, eInt, rows, eInts, bools, eBool, trips, eTrip, i8s, room]; omega) (by simp [ints, eInt, rows, eInts, bools, eBool, trips, eTrip, i8s]) ?_
    refine rv (D.lptr (8 : Nat) (1 : Nat)) ?_
    refine rv (D.int IntKind.i64 (Prod.fst (Prod.snd r))) ?_
    refine runs_assign (D.sl (rows (Prod.fst r ++ [[Prod.snd (Prod.snd r)]])) (some (51 : Nat))) (by kernel_rfl) (by kernel_rfl) ?_
    refine ra0 (D.int IntKind.i64 (Prod.fst (Prod.snd r))) ?_
    refine k_done (k_skip_seq (k_ret ?_))
    exact ⟨.inr rfl, by kernel_rfl, by kernel_rfl⟩

def fSame (l : List (List Int)) (i k : D) : Fr := Fr.mk ([.sl (rows l) none, .sl (rows l) none, .junk, .junk, .bool false, i, k] ++ List.replicate 46 .junk) (List.replicate 53 none) []
theorem same_ok (n : Nat) (l : List (List Int)) (o1 o2 : Option Nat) (σ : St) (hn : n < 1000000) (hl : l.length < n) (hc : ∀ c ∈ l, c.length < n) :
    callN T (n + 1) 32 [.sl (rows l) o1, .sl (rows l) o2] σ = some (.bool true, σ) := by
  refine call_of (m := m32) rfl rfl (by decide) (k_start ?_)
  unfold m32
  refine k_seq ?_
  refine rv (D.bool false) ?_
  refine k_done (k_skip_seq (k_seq (k_seq ?_)))
  refine rv (D.sl (rows l) none) ?_
  refine rve (D.int IntKind.i64 (↑(List.length (rows l)) : Int)) (.int IntKind.i64 ((↑(List.length l) : Int))) (by simp only [ints, eInt, rows, eInts, bools, eBool, trips, eTrip, i8s, List.length_map]) ?_
  refine rv (D.sl (rows l) none) ?_
  refine rve (D.int IntKind.i64 (↑(List.length (rows l)) : Int)) (.int IntKind.i64 ((↑(List.length l) : Int))) (by simp only [ints, eInt, rows, eInts, bools, eBool, trips, eTrip, i8s, List.length_map]) ?_
  refine rv (D.bool ((↑(List.length l) : Int) != (↑(List.length l) : Int))) ?_
  refine k_done (k_skip_seq ?_)
  refine rkn 11 ((↑(List.length l) : Int) != (↑(List.length l) : Int)) false (bne_eq_false_iff_eq.2 (by omega)) ?_
  refine kcf (k_skip_seq (k_seq (k_seq ?_)))
  refine rv (D.int IntKind.i64 (0 : Int)) ?_
  refine k_done (k_skip_seq (k_block ?_))
  refine k_loop (S := Nat × D) (fun s => fSame l (.int .i64 s.1) s.2) (fun _ => σ) (fun s => s.1 ≤ l.length ∧ ((∃ b, s.2 = .int .i64 b) ∨ s.2 = .junk)) (fun s => l.length - s.1) (0, .junk) (by kernel_rfl) rfl ⟨by simp, .inr rfl⟩ (by intro s hs; omega) ?_
  rintro ⟨i, kd⟩ ⟨hi, hk⟩
  simp only [] at hi hk
  by_cases hlt : i < l.length
  · have hlc := hc l[i] (List.getElem_mem hlt)
    refine k_seq (k_seq ?_)
    refine rv (D.int IntKind.i64 (↑i : Int)) ?_
    refine rv (D.sl (rows l) none) ?_
    refine rve (D.int IntKind.i64 (↑(List.length (rows l)) : Int)) (.int IntKind.i64 ((↑(List.length l) : Int))) (by simp only [ints, eInt, rows, eInts, bools, eBool, trips, eTrip, i8s, List.length_map]) ?_
    refine rv (D.bool (decide ((↑i : Int) < (↑(List.length l) : Int)))) ?_
    refine k_done (k_skip_seq ?_)
    refine rkn 15 (decide ((↑i : Int) < (↑(List.length l) : Int))) true (decide_eq_true (by omega)) ?_
    refine kct (k_skip_seq (k_seq (k_block (k_seq (k_seq ?_)))))
    refine rv (D.sl (rows l) none) ?_
    refine rv (D.int IntKind.i64 (↑i : Int)) ?_
    refine runs_index (l) (eInts) (o := none) (kd := IntKind.i64) (i) (by kernel_rfl) (by kernel_rfl) (by kernel_rfl) (by assumption) (by kernel_rfl) ?_
    refine rv (D.sl (ints l[i]) none) ?_
    refine rve (D.int IntKind.i64 (↑(List.length (ints l[i])) : Int)) (.int IntKind.i64 ((↑(List.length l[i]) : Int))) (by simp only [ints, eInt, rows, eInts, bools, eBool, trips, eTrip, i8s, List.length_map]) ?_
    refine rv (D.sl (rows l) none) ?_
    refine rv (D.int IntKind.i64 (↑i : Int)) ?_
    refine runs_index (l) (eInts) (o := none) (kd := IntKind.i64) (i) (by kernel_rfl) (by kernel_rfl) (by kernel_rfl) (by assumption) (by kernel_rfl) ?_
    refine rv (D.sl (ints l[i]) none) ?_
    refine rve (D.int IntKind.i64 (↑(List.length (ints l[i])) : Int)) (.int IntKind.i64 ((↑(List.length l[i]) : Int))) (by simp only [ints, eInt, rows, eInts, bools, eBool, trips, eTrip, i8s, List.length_map]) ?_
    refine rv (D.bool ((↑(List.length l[i]) : Int) != (↑(List.length l[i]) : Int))) ?_
    refine k_done (k_skip_seq ?_)
    refine rkn 28 ((↑(List.length l[i]) : Int) != (↑(List.length l[i]) : Int)) false (bne_eq_false_iff_eq.2 (by omega)) ?_
    refine kcf (k_skip_seq (k_seq ?_))
    refine rv (D.int IntKind.i64 (0 : Int)) ?_
    refine k_done (k_skip_seq (k_block ?_))
    refine k_loop (fun k : Nat => fSame l (.int .i64 i) (.int .i64 k)) (fun _ => σ) (fun k => k ≤ l[i].length) (fun k => l[i].length - k) 0 (by kernel_rfl) rfl (by simp) (by intro s hs; omega) ?_
    intro k hk
    by_cases hlk : k < l[i].length
    · refine k_seq (k_seq ?_)
      refine rv (D.int IntKind.i64 (↑k : Int)) ?_
      refine rv (D.sl (rows l) none) ?_
      refine rv (D.int IntKind.i64 (↑i : Int)) ?_
      refine runs_index (l) (eInts) (o := none) (kd := IntKind.i64) (i) (by kernel_rfl) (by kernel_rfl) (by kernel_rfl) (by assumption) (by kernel_rfl) ?_
      refine rv (D.sl (ints l[i]) none) ?_
      refine rve (D.int IntKind.i64 (↑(List.length (ints l[i])) : Int)) (.int IntKind.i64 ((↑(List.length l[i]) : Int))) (by simp only [ints, eInt, rows, eInts, bools, eBool, trips, eTrip, i8s, List.length_map]) ?_
      refine rv (D.bool (decide ((↑k : Int) < (↑(List.length l[i]) : Int)))) ?_
      refine k_done (k_skip_seq ?_)
      refine rkn 35 (decide ((↑k : Int) < (↑(List.length l[i]) : Int))) true (decide_eq_true (by omega)) ?_
      refine kct (k_skip_seq (k_seq (k_block (k_seq ?_))))
      refine rv (D.sl (rows l) none) ?_
      refine rv (D.int IntKind.i64 (↑i : Int)) ?_
      refine runs_index (l) (eInts) (o := none) (kd := IntKind.i64) (i) (by kernel_rfl) (by kernel_rfl) (by kernel_rfl) (by assumption) (by kernel_rfl) ?_
      refine rv (D.sl (ints l[i]) none) ?_
      refine rv (D.int IntKind.i64 (↑k : Int)) ?_
      refine runs_index (l[i]) (eInt) (o := none) (kd := IntKind.i64) (k) (by kernel_rfl) (by kernel_rfl) (by kernel_rfl) (by assumption) (by kernel_rfl) ?_
      refine rv (D.int IntKind.i64 l[i][k]) ?_
      refine rv (D.sl (rows l) none) ?_
      refine rv (D.int IntKind.i64 (↑i : Int)) ?_
      refine runs_index (l) (eInts) (o := none) (kd := IntKind.i64) (i) (by kernel_rfl) (by kernel_rfl) (by kernel_rfl) (by assumption) (by kernel_rfl) ?_
      refine rv (D.sl (ints l[i]) none) ?_
      refine rv (D.int IntKind.i64 (↑k : Int)) ?_
      refine runs_index (l[i]) (eInt) (o := none) (kd := IntKind.i64) (k) (by kernel_rfl) (by kernel_rfl) (by kernel_rfl) (by assumption) (by kernel_rfl) ?_
      refine rv (D.int IntKind.i64 l[i][k]) ?_
      refine rv (D.bool (l[i][k] != l[i][k])) ?_
      refine k_done (k_skip_seq ?_)
      refine rkn 52 (l[i][k] != l[i][k]) false (bne_eq_false_iff_eq.2 (by omega)) ?_
      refine kcf (k_skip_block (k_skip_seq ?_))
      refine rv (D.int IntKind.i64 (↑k : Int)) ?_
      refine rve (D.int IntKind.i64 (IntKind.wrap IntKind.i64 ((↑k : Int) + (1 : Int)))) (.int IntKind.i64 ((k + 1 : Nat) : Int)) (congrArg (D.int IntKind.i64) (show IntKind.wrap IntKind.i64 ((↑k : Int) + (1 : Int)) = ((k + 1 : Nat) : Int) from wrap_eq (by omega) (by omega) (by omega))) ?_
      refine ra0 (D.int IntKind.i64 (↑(k + (1 : Nat)) : Int)) ?_
      refine k_done (k_skip_back ?_)
      exact ⟨k + 1, hlk, by omega, by kernel_rfl, rfl⟩
    · refine k_seq (k_seq ?_)
      refine rv (D.int IntKind.i64 (↑k : Int)) ?_
      refine rv (D.sl (rows l) none) ?_
      refine rv (D.int IntKind.i64 (↑i : Int)) ?_
      refine runs_index (l) (eInts) (o := none) (kd := IntKind.i64) (i) (by kernel_rfl) (by kernel_rfl) (by kernel_rfl) (by assumption) (by kernel_rfl) ?_
      refine rv (D.sl (ints l[i]) none) ?_
      refine rve (D.int IntKind.i64 (↑(List.length (ints l[i])) : Int)) (.int IntKind.i64 ((↑(List.length l[i]) : Int))) (by simp only [ints, eInt, rows, eInts, bools, eBool, trips, eTrip, i8s, List.length_map]) ?_
      refine rv (D.bool (decide ((↑k : Int) < (↑(List.length l[i]) : Int)))) ?_
      refine k_done (k_skip_seq ?_)
      refine rkn 35 (decide ((↑k : Int) < (↑(List.length l[i]) : Int))) false (decide_eq_false (by omega)) ?_
      refine kcf (k_exit_seq (k_exit_back (k_exit_hit rfl (k_skip_block (k_skip_seq ?_)))))
      refine rv (D.int IntKind.i64 (↑i : Int)) ?_
      refine rve (D.int IntKind.i64 (IntKind.wrap IntKind.i64 ((↑i : Int) + (1 : Int)))) (.int IntKind.i64 ((i + 1 : Nat) : Int)) (congrArg (D.int IntKind.i64) (show IntKind.wrap IntKind.i64 ((↑i : Int) + (1 : Int)) = ((i + 1 : Nat) : Int) from wrap_eq (by omega) (by omega) (by omega))) ?_
      refine ra0 (D.int IntKind.i64 (↑(i + (1 : Nat)) : Int)) ?_
      refine k_done (k_skip_back ?_)
      exact ⟨(i + 1, .int .i64 k), ⟨hlt, .inl ⟨_, rfl⟩⟩, by simp only []; omega, by kernel_rfl, rfl⟩
  · refine k_seq (k_seq ?_)
    refine rv (D.int IntKind.i64 (↑i : Int)) ?_
    refine rv (D.sl (rows l) none) ?_
    refine rve (D.int IntKind.i64 (↑(List.length (rows l)) : Int)) (.int IntKind.i64 ((↑(List.length l) : Int))) (by simp only [ints, eInt, rows, eInts, bools, eBool, trips, eTrip, i8s, List.length_map]) ?_
    refine rv (D.bool (decide ((↑i : Int) < (↑(List.length l) : Int)))) ?_
    refine k_done (k_skip_seq ?_)
    refine rkn 15 (decide ((↑i : Int) < (↑(List.length l) : Int))) false (decide_eq_false (by omega)) ?_
    refine kcf (k_exit_seq (k_exit_back (k_exit_hit rfl (k_skip_seq (k_seq ?_)))))
    refine rv (D.bool true) ?_
    refine k_done (k_skip_seq (k_ret ?_))
    exact ⟨.inr rfl, by kernel_rfl, by kernel_rfl⟩
end Go.Abs.A
